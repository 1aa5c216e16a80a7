/- QuotaFresh: Objects is new memory: the whole law. -/
import Derived.Test.YtlnlmideghepnaaQu3
namespace Go.Proofs.Ytlnlmideghepnaa.K
open Go
/-- The two count alike. -/
def RelQ (l : List (Int × Int)) (L : List Int) : Prop := (∀ k, cnt l k = (L.count k : Int)) ∧ asum l = (L.length : Int)
theorem RelQ.code {each all : Int} {l : List (Int × Int)} {L : List Int} (x : RelQ l L) (k : Int) : mayOf each all l k = rmayOf each all L k := by
  unfold mayOf rmayOf
  rw [x.1 k, x.2]
theorem RelQ.add {each all : Int} {l : List (Int × Int)} {L : List Int} (x : RelQ l L) (k : Int) : RelQ (addL each all l k) (if rmayOf each all L k = 0 then L ++ [k] else L) := by
  unfold addL
  rw [x.code k]
  split
  · refine ⟨fun k' => ?_, ?_⟩
    · rw [cnt_set, List.count_append, x.1 k, List.count_singleton]
      by_cases e : k' = k
      · subst e; simp
      · rw [if_neg e, x.1 k', if_neg (by simpa using fun z => e z.symm)]; simp
    · rw [asum_set, List.length_append, x.2]
      show (L.length : Int) - cnt l k + (cnt l k + 1) = _
      simp; omega
  · exact x
theorem RelQ.mem {l : List (Int × Int)} {L : List Int} (x : RelQ l L) (ho : Once l) (hp : ∀ q ∈ l, 1 ≤ q.2) (k : Int) : k ∈ l.map Prod.fst ↔ k ∈ L := by
  have h1 := x.1 k
  constructor
  · intro h
    obtain ⟨q, hq, rfl⟩ := List.mem_map.1 h
    have h2 := ho.look (k := q.1) (v := q.2) hq
    have h3 : cnt l q.1 = q.2 := by unfold cnt; rw [h2]; rfl
    have h4 := hp q hq
    exact List.count_pos_iff.1 (by omega)
  · intro h
    have h2 := List.count_pos_iff.2 h
    cases e : alook l k with
    | none =>
      have h3 : cnt l k = 0 := by unfold cnt; rw [e]; rfl
      omega
    | some v => exact List.mem_map.2 ⟨_, alook_mem e, rfl⟩
theorem rep_take {i : Nat} {v : Int} {xs : List Int} (h : xs.take i = List.replicate i v) (hi : i < xs.length) : (xs.set i v).take (i + 1) = List.replicate (i + 1) v := by
  rw [List.take_add_one, List.getElem?_set_self hi, List.replicate_succ', ← h, Option.toList_some, List.take_set_of_le (Nat.le_refl i)]
theorem rep_get {n i : Nat} {v : Int} (h : i < n) : (List.replicate n v)[i]? = some v := by rw [List.getElem?_replicate, if_pos h]
section
variable {h : H}
theorem t_QuotaFresh {s0 : Sl} {ops : List S_law12_Op} (ar : Arr S_law12_Op.cells h s0 ops) (hn : ops.length ≤ 9223372036854775807) {K : Bool → H → Prop} (y : ∀ h', Keeps h h' → K true h') : m_law12_QuotaFresh s0 K h := by
  have hal := ar.len
  unfold m_law12_QuotaFresh
  refine t_QNew (fun e => by omega) fun _ _ _ _ p b h1 x1 k1 fp fb => ?_
  refine t_RNew (fun e => by omega) fun _ _ _ _ r h2 r2 k2 fr => ?_
  refine t_head12 fun h3 k3 => w_ifF rfl ?_
  have hp1 : h1 p ≠ none := by rw [x1.cell]; simp
  have hb1 : h1 b ≠ none := by obtain ⟨_, _, e, _⟩ := x1.map.ex; rw [e]; simp
  have npr : p ≠ r := fun e => hp1 (e ▸ fr)
  have nbr : b ≠ r := fun e => hb1 (e ▸ fr)
  have live : ∀ {g g' : H} {c : Nat}, Keeps g g' → g c ≠ none → g' c ≠ none := fun k e q => e (k.fresh q)
  have hp3 := live (k2.trans k3) hp1
  have hb3 := live (k2.trans k3) hb1
  have hr3 : h3 r ≠ none := live k3 (by rw [r2.cell]; simp)
  have K3 : Keeps h h3 := (k1.trans k2).trans k3
  have keep : ∀ h', But (fun c => c = b ∨ c = r) h3 h' → Keeps h h' := fun h' z => K3.but z fun n e => by
    rcases e with rfl | rfl
    · exact fb
    · exact k1.fresh fr
  refine w_for ops.length (fun j z h' => z = (j : Int) ∧ ∃ l s L, QuotaAt h' p b 9 200 l ∧ RefQ h' r 9 200 s L ∧ RelQ l L ∧ (∀ c, s.foot c → h3 c = none) ∧ But (fun c => c = b ∨ c = r) h3 h' ∧ ∀ c, h' c = none → h3 c = none) ?_
    ⟨rfl, [], Sl.nil, [], (x1.keep k2).keep k3, r2.keep k3, ⟨fun k => rfl, rfl⟩, (fun c ⟨a, ha, _⟩ => by cases ha), .refl _ _, fun _ e => e⟩
  rintro rec j _ h4 hj ⟨rfl, l, s, L, x4, r4, rel, fs, b4, d4⟩ more
  refine w_if' (fun c => ?_) fun c => ?_
  · have c : (j : Int) < (s0.len : Int) := c
    have eo : ops[j]? = some ops[j] := List.getElem?_eq_getElem (by omega)
    generalize ops[j] = o at eo
    refine w_field op_len (ar.keep (keep h4 b4)) eo rfl (v' := o.Obj) (l1 := [Value.int .i64 o.Kind, Value.int .i64 o.Which]) (l3 := [Value.int .i64 o.N]) rfl rfl ?_
    refine t_QAdd x4 (by decide) fun h5 x5 c5 => ?_
    have r5 : RefQ h5 r 9 200 s L := r4.but c5.but (fun e => nbr e.symm) fun c f e => by subst e; exact hb3 (fs _ f)
    have b5 : But (fun c => c = b ∨ c = r) h3 h5 := b4.trans c5.but fun n e => .inl (.inl e)
    refine w_field op_len (ar.keep (keep h5 b5)) eo rfl (v' := o.Obj) (l1 := [Value.int .i64 o.Kind, Value.int .i64 o.Which]) (l3 := [Value.int .i64 o.N]) rfl rfl ?_
    refine t_RAdd r5 (by decide) fun s6 L6 h6 eL r6 b6 f6 d6 => ?_
    have x6 : QuotaAt h6 p b 9 200 (addL 9 200 l o.Obj) := x5.but b6 (fun e => e.elim npr fun f => hp3 (fs _ f)) fun e => e.elim nbr fun f => hb3 (fs _ f)
    rw [iAdd_eq (by omega) (by omega)]
    refine more _ _ (by omega) ⟨by omega, _, s6, L6, x6, r6, by rw [eL]; exact rel.add o.Obj, fun c f => ?_, b5.trans b6 fun n e => e.elim (fun q => .inl (.inr q)) fun q => .inr (fs n q), fun c e => d4 c (c5.dom c (d6 c e))⟩
    rcases f6 c f with q | q
    · exact fs c q
    · exact d4 c (c5.dom c q)
  clear more rec c
  have K4 := keep h4 b4
  refine t_RObjects r4 fun so os h5 bo hris hmem k5 fo => ?_
  refine t_QObjects (x4.keep k5) fun sa h6 ba k6 fa => ?_
  refine t_QObjects ((x4.keep k5).keep k6) fun sb h7 bb k7 fb7 => ?_
  have eos : os = isort (l.map Prod.fst) := rising_eq hris (isort_rising x4.once) fun z => by
    rw [hmem, (isort_perm _).mem_iff, rel.mem x4.once x4.pos]
  have lk : (isort (l.map Prod.fst)).length ≤ 256 := by rw [isort_len, List.length_map]; exact x4.len
  rw [← eos] at ba bb lk
  refine t_ints12 (ba.keep k7).arr ((bo.keep k6).keep k7).arr (by omega) ?_
  rw [decide_eq_true rfl]
  refine w_joinV false (fun jj hj => w_ifF rfl (t_ints12 bb.arr ((bo.keep k6).keep k7).arr (by omega) (by rw [decide_eq_true rfl]; exact hj))) (w_ifF rfl ?_)
  have dba : ∀ c, sb.foot c → ¬ sa.foot c := fun c f q => ba.has q (fb7 c f)
  have doa : ∀ c, so.foot c → ¬ sa.foot c := fun c f q => bo.has f (fa c q)
  have dob : ∀ c, so.foot c → ¬ sb.foot c := fun c f q => (bo.keep k6).has f (fb7 c q)
  have lo := bo.len
  have la := ba.len
  have lb := bb.len
  refine w_for os.length (fun i z h' => z = (i : Int) ∧ But (fun c => sa.foot c ∨ sb.foot c) h7 h' ∧ (∀ c, h' c = none → h7 c = none) ∧ ∃ xs ys : List Int, xs.length = os.length ∧ ys.length = os.length ∧ Buf (cInt .i64) 1 N_int h' sa xs ∧ Buf (cInt .i64) 1 N_int h' sb ys ∧ xs.take i = List.replicate i 1099511627776 ∧ ys.take i = List.replicate i 2199023255552) ?_
    ⟨rfl, .refl _ _, fun _ e => e, os, os, rfl, rfl, ba.keep k7, bb, rfl, rfl⟩
  rintro rec i _ h8 hi ⟨rfl, b8, d8, xs, ys, hxs, hys, bxa, bxb, tx, ty⟩ more
  refine w_if' (fun c => ?_) fun c => ?_
  · have c : (i : Int) < (so.len : Int) := c
    refine w_put ci_len bxa (i := i) (by omega) rfl (1099511627776 : Int) rfl fun h9 bxa9 b9 d9 => ?_
    have bxb9 : Buf (cInt .i64) 1 N_int h9 sb ys := bxb.but b9 fun a ha q => dba _ ⟨a, ha, rfl⟩ q
    refine w_put ci_len bxb9 (i := i) (by omega) rfl (2199023255552 : Int) rfl fun h10 bxb10 b10 d10 => ?_
    have bxa10 : Buf (cInt .i64) 1 N_int h10 sa (xs.set i 1099511627776) := bxa9.but b10 fun a ha q => dba _ q ⟨a, ha, rfl⟩
    rw [ia1 i (by omega)]
    refine more _ _ (by omega) ⟨rfl, (b8.trans b9 fun _ f => .inl (.inl f)).trans b10 fun _ f => .inl (.inr f), fun c e => d8 c (d9 c (d10 c e)), _, _, by rw [List.length_set]; exact hxs, by rw [List.length_set]; exact hys, bxa10, bxb10, rep_take tx (by omega), rep_take ty (by omega)⟩
  clear more rec
  have c : ¬ (i : Int) < (so.len : Int) := c
  obtain rfl : i = os.length := by omega
  rw [List.take_of_length_le (by omega)] at tx ty
  subst tx
  subst ty
  generalize hN : os.length = n at *
  refine w_appK (by_ := 8) ci_len rfl bxa [(1099511627776 : Int)] rfl rfl (by simp only [List.length_singleton, List.length_replicate]; omega) fun sc h9 bc9 aa9 b9 f9 d9 => ?_
  have bxb9 : Buf (cInt .i64) 1 N_int h9 sb (List.replicate n 2199023255552) := bxb.but b9 fun a ha q => dba _ ⟨a, ha, rfl⟩ q
  refine w_appK (by_ := 8) ci_len rfl bxb9 [(2199023255552 : Int)] rfl rfl (by simp only [List.length_singleton, List.length_replicate]; omega) fun sd h10 bd10 ab10 b10 f10 d10 => ?_
  have bc10 : Buf (cInt .i64) 1 N_int h10 sc (List.replicate n 1099511627776 ++ [1099511627776]) := bc9.but b10 fun a ha q => by
    rcases f9 a.block ⟨a, ha, rfl⟩ with z | z
    · exact dba _ q z
    · exact bxb.has q z
  have aa10 : Arr (cInt .i64) h10 sa (List.replicate n 1099511627776) := aa9.but b10 fun _ a ha q => dba _ q ⟨a, ha, rfl⟩
  have B10 : But (fun c => sa.foot c ∨ sb.foot c) h7 h10 := (b8.trans b9 fun _ f => .inl (.inl f)).trans b10 fun _ f => .inl (.inr f)
  have bo10 : Buf (cInt .i64) 1 N_int h10 so os := ((bo.keep k6).keep k7).but B10 fun a ha q => q.elim (doa _ ⟨a, ha, rfl⟩) (dob _ ⟨a, ha, rfl⟩)
  have x7 := ((x4.keep k5).keep k6).keep k7
  have r7 := ((r4.keep k5).keep k6).keep k7
  have nf : ∀ c, h5 c ≠ none → ¬ (sa.foot c ∨ sb.foot c) := fun c e q => q.elim (fun f => e (fa c f)) fun f => e (k6.fresh (fb7 c f))
  have x10 : QuotaAt h10 p b 9 200 l := x7.but B10 (nf p (by rw [(x4.keep k5).cell]; simp)) (nf b (by obtain ⟨_, _, e, _⟩ := (x4.keep k5).map.ex; rw [e]; simp))
  have r10 : RefQ h10 r 9 200 s L := r7.but B10 (nf r (by rw [(r4.keep k5).cell]; simp)) fun c f => nf c ((r4.keep k5).buf.has f)
  have K10 : Keeps h h10 := (K4.trans ((k5.trans k6).trans k7)).but B10 fun c q => q.elim (fun f => (K4.trans k5).fresh (fa c f)) fun f => ((K4.trans k5).trans k6).fresh (fb7 c f)
  have lc := bc10.len
  have rc : List.replicate n (1099511627776 : Int) ++ [1099511627776] = List.replicate (n + 1) 1099511627776 := by rw [List.replicate_succ']
  have rd : List.replicate n (2199023255552 : Int) ++ [2199023255552] = List.replicate (n + 1) 2199023255552 := by rw [List.replicate_succ']
  rw [rc] at bc10
  rw [rd] at bd10
  rw [rc, List.length_replicate] at lc
  clear b8 d8 b9 f9 d9 b10 f10 d10 bc9 aa9 bxa bxb bxb9
  refine w_for (n + 1) (fun i z h' => z = (i : Int) ∧ h10 = h') ?_ ⟨rfl, rfl⟩
  rintro rec i _ _ hi ⟨rfl, rfl⟩ more
  refine w_if' (fun c => ?_) fun c => ?_
  · have c : (i : Int) < (sc.len : Int) := c
    refine w_get ci_len bc10.arr (rep_get (n := n + 1) (by omega)) rfl (v' := 1099511627776) rfl ?_
    refine w_joinV false (fun jj hj => w_ifF rfl (w_get ci_len bd10.arr (rep_get (n := n + 1) (by omega)) rfl (v' := 2199023255552) rfl hj)) ?_
    refine w_joinV false (fun jj hj => w_ifF rfl (w_if' (fun c2 => ?_) fun _ => hj)) (w_ifF rfl ?_)
    · have c2 : (i : Int) < (sa.len : Int) := c2
      have hin : i < n := by omega
      exact w_get ci_len aa10 (rep_get hin) rfl (v' := 1099511627776) rfl (w_ifF rfl (w_get ci_len ab10 (rep_get hin) rfl (v' := 2199023255552) rfl hj))
    · rw [ia1 i (by omega)]
      exact more _ _ (by omega) ⟨rfl, rfl⟩
  · refine t_QObjects x10 fun se h11 be k11 _ => ?_
    rw [show isort (l.map (·.1)) = os from eos.symm] at be
    refine t_ints12 be.arr (bo10.keep k11).arr (by omega) ?_
    rw [decide_eq_true rfl]
    have x11 := x10.keep k11
    have r11 := r10.keep k11
    refine w_ifT rfl (w_deref (w_joinP (fun z h' => z = (asum l, (L.length : Int)) ∧ Keeps h11 h') (fun jj hj => ?_) ?_))
    · have ls : (s.len : Int) = (L.length : Int) := by rw [r11.buf.len]
      refine w_both (t_QAll x11 fun h12 k12 => w_load (r11.keep k12).f2 ?_) (w_load r11.f2 (t_QAll x11 fun h12 k12 => ?_))
      · exact hj _ _ ⟨by rw [ls], k12⟩
      · exact hj _ _ ⟨by rw [ls], k12⟩
    · rintro _ h12 ⟨rfl, k12⟩
      show K (decide (asum l = (L.length : Int))) h12
      rw [decide_eq_true rel.2]
      exact y _ ((K10.trans k11).trans k12)
end
end Go.Proofs.Ytlnlmideghepnaa.K
