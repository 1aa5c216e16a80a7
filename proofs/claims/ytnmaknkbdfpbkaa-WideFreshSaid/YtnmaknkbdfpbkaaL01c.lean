/- WideFresh: what is handed out is fresh; what is handed in lies still. -/
import Derived.Test.YtnmaknkbdfpbkaaL01
import Derived.Test.YtnmaknkbdfpbkaaMk01
namespace Go.Proofs.Ytnmaknkbdfpbkaa.K
open Go
section
variable {h : H}
theorem le_byte0 (l : List UInt8) : le l % 256 = ((l[0]?).getD 0).toNat := by
  cases l with
  | nil => rfl
  | cons b r =>
    have := b.toNat_lt
    show (b.toNat + 256 * le r) % 256 = b.toNat
    omega
theorem word_ne {a x : Nat} (h : a ≠ x) : (!((decide ((wordOf x).Hi = (wordOf a).Hi)) && ((decide ((wordOf x).Lo = (wordOf a).Lo)) && true))) = true := by
  show (!eqW _ _) = true
  rw [eqW_num, decide_eq_false (fun e => h e.symm)]; rfl
theorem t_WideFresh {K : Bool → H → Prop} {a b : Nat} (ha : a < 2 ^ 128) (k : ∀ h', Keeps h h' → K true h') : m_law01_WideFresh (wordOf a) (wordOf b) K h := by
  unfold m_law01_WideFresh
  refine t_Bytes fun s1 h1 bu1 k1 f1 c1 => t_Bytes fun s2 h2 bu2 k2 f2 c2 => t_Bytes fun s3 h3 bu3 k3 f3 c3 => t_known01 fun h4 k4 => ?_
  have l1 := bu1.len
  have l2 := bu2.len
  have l3 := bu3.len
  rw [bytesLE_len] at l1 l2 l3
  refine w_joinV false (fun j hj => ?_) ?_
  · refine w_ifF rfl (w_text (bu1.arr.keep ((k2.trans k3).trans k4)) (w_text (bu2.arr.keep (k3.trans k4)) ?_))
    rw [show (!((⟨(bytesLE a).toArray⟩ : ByteArray).toList == (⟨(bytesLE a).toArray⟩ : ByteArray).toList)) = false from by simp]
    exact hj
  refine w_ifF (by rw [l1, l3]; rfl) (w_text (bu1.arr.keep ((k2.trans k3).trans k4)) (w_bytes fun s5 h5 bu5 k5 f5 => ?_))
  refine w_app u8_len rfl bu5 [165, 166, 167] rfl rfl (.inl (by show (2 * ((bytesLE a).length + 3) + 192) * 1 ≤ _; rw [bytesLE_len]; decide)) fun s6 h6 bu6 b6 f6 n6 => ?_
  have bu6 : Buf cU8 1 N_u8 h6 s6 (bytesLE a ++ [165, 166, 167]) := bu6
  have ln : (bytesLE a ++ [165, 166, 167] : List UInt8).length = 19 := by rw [List.length_append, bytesLE_len]; rfl
  have tk : (bytesLE a ++ [165, 166, 167] : List UInt8).take 16 = bytesLE a := List.take_left' (bytesLE_len a)
  have ofA : ofF (bytesLE a) = (wordOf a, 0) := by
    unfold ofF
    rw [if_neg (by rw [bytesLE_len]; omega), List.take_of_length_le (by rw [bytesLE_len]; omega), le_bytesLE ha]
  have hk : Keeps h h4 := ((k1.trans k2).trans k3).trans k4
  have k6 : Keeps h4 h6 := k5.but b6 f5
  refine w_take bu6.arr (n := 16) (by omega) rfl rfl fun s7 ar7 _ _ => ?_
  rw [tk] at ar7
  refine t_Of ar7 ?_
  rw [ofA]
  refine w_joinV false (fun j hj => ?_) ?_
  · refine w_ifF (by simp) (w_take bu6.arr (n := 16) (by omega) rfl rfl fun s8 ar8 _ _ => ?_)
    rw [tk] at ar8
    refine w_text ar8 ?_
    rw [show (!((⟨(bytesLE a).toArray⟩ : ByteArray).toList == (⟨(bytesLE a).toArray⟩ : ByteArray).toList)) = false from by simp]
    exact hj
  have tail : ∀ (i : Nat) (b : UInt8), i < 3 → ([165, 166, 167] : List UInt8)[i]? = some b → (bytesLE a ++ [165, 166, 167] : List UInt8)[16 + i]? = some b := fun i b hi e => by
    rw [List.getElem?_append_right (by rw [bytesLE_len]; omega), bytesLE_len, Nat.add_sub_cancel_left]; exact e
  refine w_joinV false (fun j hj => w_ifF rfl (w_get (cells' := cInt .u8) (i := 16) (v := 165) u8_len bu6.arr (tail 0 165 (by decide) rfl) rfl (v' := 165) rfl hj)) ?_
  refine w_joinV false (fun j hj => w_ifF rfl (w_get (cells' := cInt .u8) (i := 17) (v := 166) u8_len bu6.arr (tail 1 166 (by decide) rfl) rfl (v' := 166) rfl hj)) ?_
  refine w_joinV false (fun j hj => w_ifF rfl (w_get (cells' := cInt .u8) (i := 18) (v := 167) u8_len bu6.arr (tail 2 167 (by decide) rfl) rfl (v' := 167) rfl hj)) ?_
  -- the blocks of the three rows
  have e1 : ∀ b, s1.foot b → ∃ o, h1 b = some o := fun b f => buf_some bu1 f
  have e2 : ∀ b, s2.foot b → ∃ o, h2 b = some o := fun b f => buf_some bu2 f
  have e3 : ∀ b, s3.foot b → ∃ o, h3 b = some o := fun b f => buf_some bu3 f
  have in4 : ∀ b, feet [s1, s2, s3] b → (∃ o, h4 b = some o) ∧ h b = none := fun b ⟨s, hs, f⟩ => by
    simp only [List.mem_cons, List.not_mem_nil, or_false] at hs
    rcases hs with rfl | rfl | rfl
    · obtain ⟨o, e⟩ := e1 b f; exact ⟨⟨o, k4 _ _ (k3 _ _ (k2 _ _ e))⟩, f1 b f⟩
    · obtain ⟨o, e⟩ := e2 b f; exact ⟨⟨o, k4 _ _ (k3 _ _ e)⟩, k1.fresh (f2 b f)⟩
    · obtain ⟨o, e⟩ := e3 b f; exact ⟨⟨o, k4 _ _ e⟩, (k1.trans k2).fresh (f3 b f)⟩
  have s6f : ∀ b, s6.foot b → h4 b = none := fun b f => by
    rcases f6 b f with q | q
    · exact f5 b q
    · exact k5.fresh q
  refine w_joinP (fun s h' => s = false ∧ But (feet [s1, s2, s3]) h6 h') (fun rest hr => ?_) ?_
  · refine w_ifF rfl (w_new fun nb hnb => ?_)
    have kn : Keeps h6 (upd h6 nb (.cells #[Sl.val s1, Sl.val s2, Sl.val s3] N_Sl_u8 (0, 0))) := .new hnb
    have bk : ∀ {s : Sl} {n : Nat}, Buf cU8 1 N_u8 h4 s (bytesLE n) → Buf cU8 1 N_u8 (upd h6 nb (.cells #[Sl.val s1, Sl.val s2, Sl.val s3] N_Sl_u8 (0, 0))) s (bytesLE n) := fun x => (x.keep k6).keep kn
    refine t_marked01 (ss := [s1, s2, s3]) ⟨rfl, Nat.le_refl _, fun _ => ⟨_, rfl, At.own (l1 := []) (l3 := []) (upd_same _ _ _) rfl⟩⟩ (by show 3 ≤ 2 ^ 40; decide) (fun s hs => ?_) ⟨fun i j s t es et hne b fs ft => ?_⟩ (fun b fb x ex he => ?_) (fun i s e => ?_) (fun s hs => ?_) fun h7 b7 => ?_
    · simp only [List.mem_cons, List.not_mem_nil, or_false] at hs
      rcases hs with rfl | rfl | rfl <;> omega
    · have c12 : s1.foot b → s2.foot b → False := fun x y => by
        obtain ⟨o, e⟩ := e1 b x
        rw [f2 b y] at e; cases e
      have c13 : s1.foot b → s3.foot b → False := fun x y => by
        obtain ⟨o, e⟩ := e1 b x
        have := k2 _ _ e
        rw [f3 b y] at this; cases this
      have c23 : s2.foot b → s3.foot b → False := fun x y => by
        obtain ⟨o, e⟩ := e2 b x
        rw [f3 b y] at e; cases e
      match i, j, es, et, hne with
      | 0, 0, _, _, q => exact absurd rfl q
      | 0, 1, rfl, rfl, _ => exact c12 fs ft
      | 0, 2, rfl, rfl, _ => exact c13 fs ft
      | 1, 0, rfl, rfl, _ => exact c12 ft fs
      | 1, 1, _, _, q => exact absurd rfl q
      | 1, 2, rfl, rfl, _ => exact c23 fs ft
      | 2, 0, rfl, rfl, _ => exact c13 ft fs
      | 2, 1, rfl, rfl, _ => exact c23 ft fs
      | 2, 2, _, _, q => exact absurd rfl q
      | (n + 3), _, es, _, _ => cases es
      | 0, (n + 3), _, et, _ => cases et
      | 1, (n + 3), _, et, _ => cases et
      | 2, (n + 3), _, et, _ => cases et
    · obtain ⟨⟨o, e⟩, _⟩ := in4 b fb
      cases ex
      have he : nb = b := he
      subst he
      have := k6 _ _ e
      rw [hnb] at this; cases this
    · match i, e with
      | 0, rfl => exact ⟨_, bk (bu1.keep ((k2.trans k3).trans k4)), trivial⟩
      | 1, rfl => exact ⟨_, bk (bu2.keep (k3.trans k4)), trivial⟩
      | 2, rfl => exact ⟨_, bk (bu3.keep k4), trivial⟩
      | (n + 3), e => cases e
    · simp only [List.mem_cons, List.not_mem_nil, or_false] at hs
      rcases hs with rfl | rfl | rfl
      · rw [c1, l1]
      · rw [c2, l2]
      · rw [c3, l3]
    · exact hr _ _ ⟨rfl, fun b o e nf => b7 _ _ (kn _ _ e) nf⟩
  rintro _ h7 ⟨rfl, b7⟩
  refine w_ifF rfl ?_
  have bu7 : Buf cU8 1 N_u8 h7 s6 (bytesLE a ++ [165, 166, 167]) := bu6.but b7 fun x ex f => by
    obtain ⟨⟨o, e⟩, _⟩ := in4 _ f
    rw [s6f _ ⟨x, ex, rfl⟩] at e; cases e
  have g0 : (bytesLE a ++ [165, 166, 167] : List UInt8)[0]? = some (byteAt a 0) := rfl
  refine w_get u8_len bu7.arr g0 rfl (v' := ((byteAt a 0).toNat : Int)) rfl ?_
  refine w_put u8_len bu7 (i := 0) (by rw [ln]; decide) rfl (UInt8.ofNat ((byteAt a 0).toNat + 1)) ?_ fun h8 bu8 b8 n8 => ?_
  · rw [cU8, UInt8.toNat_ofNat']
    show [Value.int .u8 _] = [Value.int .u8 (IntKind.wrap .u8 (((byteAt a 0).toNat : Int) + 1))]
    rw [u_wrap8' (n := (byteAt a 0).toNat + 1) (by omega)]
  refine w_take bu8.arr (n := 16) (by rw [List.length_set, ln]; decide) rfl rfl fun s9 ar9 _ _ => t_Of ar9 ?_
  have hl9 : (((bytesLE a ++ [165, 166, 167] : List UInt8).set 0 (UInt8.ofNat ((byteAt a 0).toNat + 1))).take 16).length = 16 := by rw [List.length_take, List.length_set, ln]; rfl
  generalize hls : ((bytesLE a ++ [165, 166, 167] : List UInt8).set 0 (UInt8.ofNat ((byteAt a 0).toNat + 1))).take 16 = ls at hl9
  have h9 : ls[0]? = some (UInt8.ofNat ((byteAt a 0).toNat + 1)) := by rw [← hls]; rfl
  have ofB : ofF ls = (wordOf (le ls), 0) := by
    unfold ofF
    rw [if_neg (by omega), List.take_of_length_le (by omega)]
  rw [ofB]
  have hne : a ≠ le ls := fun e => by
    have q := le_byte0 ls
    rw [h9, ← e] at q
    have q : a % 256 = (UInt8.ofNat ((byteAt a 0).toNat + 1)).toNat := q
    rw [UInt8.toNat_ofNat', byteAt_nat] at q
    simp only [Nat.mul_zero, Nat.pow_zero, Nat.div_one] at q
    omega
  refine w_ifT ?_ (t_Bytes fun s10 h10 bu10 k10 _ _ => w_text bu10.arr ?_)
  · rw [word_ne hne]; rfl
  rw [show ((⟨(bytesLE a).toArray⟩ : ByteArray).toList == (⟨(bytesLE a).toArray⟩ : ByteArray).toList) = true from by simp]
  refine k _ (Keeps.trans ?_ k10)
  intro b o e
  refine b8 _ _ (b7 _ _ (k6 _ _ (hk _ _ e)) fun f => ?_) fun f => ?_
  · rw [(in4 _ f).2] at e; cases e
  · have := hk _ _ e
    rw [s6f _ f] at this; cases this
end
end Go.Proofs.Ytnmaknkbdfpbkaa.K
