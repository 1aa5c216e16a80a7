/- QuotaAll: two quotas in turn, beside the document's: the whole law. -/
import Derived.Test.YtlnlmideghepnaaQu5
namespace Go.Proofs.Ytlnlmideghepnaa.K
open Go
abbrev QOwn := Nat → Option (Nat × Bool)
/-- A quota of a number. -/
structure QP (h : H) (o : QOwn) (each all : Int) (k p b : Nat) (l : List (Int × Int)) : Prop where
  q : QuotaAt h p b each all l
  qp : o p = some (k, false)
  qb : o b = some (k, false)
/-- The document's. -/
structure RP (h : H) (o : QOwn) (each all : Int) (k r : Nat) (s : Sl) (L : List Int) : Prop where
  q : RefQ h r each all s L
  rr : o r = some (k, true)
  rs : ∀ c, s.foot c → o c = some (k, true)
section
variable {h h' : H} {o o' : QOwn} {each all : Int} {k p b r : Nat} {s : Sl} {l : List (Int × Int)} {L : List Int} {T : Nat × Bool → Prop}
theorem MapOf.live {K V : Type} {kc : K → Value} {vc : V → Value} {h : H} {b : Nat} {l : List (K × V)} (x : MapOf kc vc h b l) : h b ≠ none := by obtain ⟨_, _, e, _⟩ := x.ex; rw [e]; simp
theorem QP.moved (x : QP h o each all k p b l) (m : Mv T o o' h h') (n1 : ¬ T (k, false)) : QP h' o' each all k p b l :=
  ⟨⟨m.cell x.qp n1 x.q.cell, m.map n1 x.q.map x.qb, x.q.ne, x.q.once, x.q.pos, x.q.bnd⟩, m.here x.qp n1 (by rw [x.q.cell]; simp), m.here x.qb n1 x.q.map.live⟩
theorem RP.moved (x : RP h o each all k r s L) (m : Mv T o o' h h') (n2 : ¬ T (k, true)) : RP h' o' each all k r s L :=
  ⟨⟨m.cell x.rr n2 x.q.cell, m.buf x.q.buf fun c f t e => by rw [x.rs c f] at e; cases e; exact n2, x.q.ne, x.q.len⟩, m.here x.rr n2 (by rw [x.q.cell]; simp), fun c f => m.here (x.rs c f) n2 (x.q.buf.has f)⟩
end
/-- The rows that point to them. -/
structure AR (h : H) (o : QOwn) (n : Nat) (p r : Nat → Nat) (a2 a3 : Nat) (xs ys : List (Option Addr)) : Prop where
  x2 : Buf cPtr 1 N_A2_P_quota_Quota h (⟨some ⟨a2, 0, none⟩, 2, 2⟩ : Sl) xs
  x3 : Buf cPtr 1 N_A2_P_ref12_Quota h (⟨some ⟨a3, 0, none⟩, 2, 2⟩ : Sl) ys
  o2 : o a2 = some (2, false)
  o3 : o a3 = some (2, false)
  ne : a2 ≠ a3
  lx : ∀ k, k < n → xs[k]? = some (some ⟨p k, 0, none⟩)
  ly : ∀ k, k < n → ys[k]? = some (some ⟨r k, 0, none⟩)
/-- Both pairs. -/
structure ST (h : H) (o : QOwn) (each all : Int) (n : Nat) (p b r : Nat → Nat) (a2 a3 : Nat) (xs ys : List (Option Addr)) : Prop where
  ar : AR h o n p r a2 a3 xs ys
  qr : ∀ k, k < n → ∃ s l L, QP h o each all k (p k) (b k) l ∧ RP h o each all k (r k) s L ∧ RelQ l L
theorem ptr_len : ∀ x : Option Addr, (cPtr x).length = 1 := fun _ => rfl
section
variable {h h' : H} {o o' : QOwn} {each all : Int} {n : Nat} {p b r : Nat → Nat} {a2 a3 : Nat} {xs ys : List (Option Addr)} {T : Nat × Bool → Prop}
theorem AR.moved (x : AR h o n p r a2 a3 xs ys) (m : Mv T o o' h h') (n2 : ¬ T (2, false)) : AR h' o' n p r a2 a3 xs ys := by
  have f2 : ∀ (a : Nat) (c : Nat), (⟨some ⟨a, 0, none⟩, 2, 2⟩ : Sl).foot c → c = a := fun a c ⟨z, hz, e⟩ => by cases hz; exact e.symm
  exact ⟨m.buf x.x2 fun c f t e => by rw [f2 _ _ f, x.o2] at e; cases e; exact n2, m.buf x.x3 fun c f t e => by rw [f2 _ _ f, x.o3] at e; cases e; exact n2,
    m.here x.o2 n2 (x.x2.has ⟨_, rfl, rfl⟩), m.here x.o3 n2 (x.x3.has ⟨_, rfl, rfl⟩), x.ne, x.lx, x.ly⟩
theorem ST.moved (x : ST h o each all n p b r a2 a3 xs ys) (m : Mv T o o' h h') (nt : ∀ t, ¬ T t) : ST h' o' each all n p b r a2 a3 xs ys :=
  ⟨x.ar.moved m (nt _), fun k hk => by
    obtain ⟨s, l, L, a, b, c⟩ := x.qr k hk
    exact ⟨s, l, L, a.moved m (nt _), b.moved m (nt _), c⟩⟩
theorem ST.keep (x : ST h o each all n p b r a2 a3 xs ys) (m : Keeps h h') : ST h' o each all n p b r a2 a3 xs ys := x.moved (T := fun _ => False) (Mv.keeps m) fun _ => id
theorem AR.g2 (x : AR h o n p r a2 a3 xs ys) {k : Nat} (hk : k < n) {K : Option Addr → H → Prop} (y : K (some ⟨p k, 0, none⟩) h) : mIdx (⟨some ⟨a2, 0, none⟩, 2, 2⟩ : Sl) (k : Int) 1 (fun ad => mLoad cPtr ad K) h :=
  w_get ptr_len x.x2.arr (x.lx k hk) rfl rfl y
theorem AR.g3 (x : AR h o n p r a2 a3 xs ys) {k : Nat} (hk : k < n) {K : Option Addr → H → Prop} (y : K (some ⟨r k, 0, none⟩) h) : mIdx (⟨some ⟨a3, 0, none⟩, 2, 2⟩ : Sl) (k : Int) 1 (fun ad => mLoad cPtr ad K) h :=
  w_get ptr_len x.x3.arr (x.ly k hk) rfl rfl y
theorem AR.gg (x : AR h o n p r a2 a3 xs ys) {k : Nat} (hk : k < n) {K : Addr → Option Addr → H → Prop} (y : ∀ a, (∀ h', Keeps h h' → At h' a (cPtr (some ⟨r k, 0, none⟩))) → K a (some ⟨p k, 0, none⟩) h) : mIdx (⟨some ⟨a2, 0, none⟩, 2, 2⟩ : Sl) (k : Int) 1 (fun ad => mIdx (⟨some ⟨a3, 0, none⟩, 2, 2⟩ : Sl) (k : Int) 1 fun ad' => mLoad cPtr ad (K ad')) h :=
  w_idx ptr_len x.x2.arr (x.lx k hk) rfl fun _ _ ha => w_idx ptr_len x.x3.arr (x.ly k hk) rfl fun a _ hb => w_load ha (y a fun _ k => hb.keep k)
/-- A change of one pair. -/
theorem ST.upd (x : ST h o each all 2 p b r a2 a3 xs ys) {h1 : H} {k : Nat} (hk : k < 2) {s s' : Sl} {l l' : List (Int × Int)} {L L' : List Int} (xq : QP h o each all k (p k) (b k) l) (xr : RP h o each all k (r k) s L)
    (q1 : QuotaAt h1 (p k) (b k) each all l') (c1 : Chg (b k) h h1) (r2 : RefQ h' (r k) each all s' L') (b2 : But (fun c => c = r k ∨ s.foot c) h1 h') (f2 : ∀ c, s'.foot c → s.foot c ∨ h1 c = none) (d2 : ∀ c, h' c = none → h1 c = none) (rel : RelQ l' L') :
    ∃ o', ST h' o' each all 2 p b r a2 a3 xs ys ∧ Mv (fun _ => True) o o' h h' := by
  have M1 : Mv (· = (k, false)) o o h h1 := Mv.of c1.but c1.dom fun n e _ => ⟨_, by rw [e]; exact xq.qb, rfl⟩
  have M2 : Mv (· = (k, true)) o (tagd o s' (some (k, true))) h1 h' := (Mv.of (T := (· = (k, true))) b2 d2 fun n e _ => ⟨_, e.elim (fun z => by rw [z]; exact xr.rr) (xr.rs n), rfl⟩).tag fun c f => (f2 c f).symm.imp id (xr.rs c)
  have M := M1.trans M2
  have two : ¬ ((2, false) = (k, false) ∨ (2, false) = (k, true)) := fun q => by
    rcases q with q | q
    · cases q; omega
    · cases q
  refine ⟨_, ⟨x.ar.moved M two, fun i hi => ?_⟩, M.all⟩
  by_cases e : i = k
  · subst e
    have Q1 : QP h1 o each all i (p i) (b i) l' := ⟨q1, xq.qp, xq.qb⟩
    refine ⟨s', l', L', Q1.moved M2 (fun z => by cases z), ⟨r2, ?_, fun c f => tagd_in f⟩, rel⟩
    rw [tagd_out r2.ne]; exact xr.rr
  · obtain ⟨s0, l0, L0, z1, z2, z3⟩ := x.qr i hi
    have o1 : ∀ u, ¬ ((i, u) = (k, false) ∨ (i, u) = (k, true)) := fun u q => by
      rcases q with q | q <;> exact e (Prod.mk.inj q).1
    exact ⟨s0, l0, L0, z1.moved M (o1 _), z2.moved M (o1 _), z3⟩
theorem t_QuotaAll {s0 : Sl} {ops : List S_law12_Op} (ar : Arr S_law12_Op.cells h s0 ops) (hn : ops.length ≤ 9223372036854775807) {K : Bool → H → Prop} (y : ∀ h', Keeps h h' → K true h') : m_law12_QuotaAll each all s0 K h := by
  have hal := ar.len
  unfold m_law12_QuotaAll
  refine t_head12 fun h1 k1 => w_ifF rfl ?_
  refine w_new fun a2 f2 => w_new fun a3 f3 => ?_
  have k2 : Keeps h1 (upd h1 a2 (.cells #[Value.pointer none, Value.pointer none] N_A2_P_quota_Quota (0, 0))) := .new f2
  have k3 : Keeps (upd h1 a2 (.cells #[Value.pointer none, Value.pointer none] N_A2_P_quota_Quota (0, 0))) (upd (upd h1 a2 (.cells #[Value.pointer none, Value.pointer none] N_A2_P_quota_Quota (0, 0))) a3 (.cells #[Value.pointer none, Value.pointer none] N_A2_P_ref12_Quota (0, 0))) := .new f3
  have ne : a2 ≠ a3 := fun e => by rw [e, upd_same] at f3; cases f3
  have S0 : ST (upd (upd h1 a2 (.cells #[Value.pointer none, Value.pointer none] N_A2_P_quota_Quota (0, 0))) a3 (.cells #[Value.pointer none, Value.pointer none] N_A2_P_ref12_Quota (0, 0))) (tag1 (tag1 (fun _ => none) a2 (some (2, false))) a3 (some (2, false))) each all 0 (fun _ => 0) (fun _ => 0) (fun _ => 0) a2 a3 [none, none] [none, none] :=
    ⟨⟨⟨rfl, Nat.le_refl _, .inr ⟨a2, [], (0, 0), rfl, k3 _ _ (upd_same _ _ _), rfl, thawed0 _⟩⟩, ⟨rfl, Nat.le_refl _, .inr ⟨a3, [], (0, 0), rfl, upd_same _ _ _, rfl, thawed0 _⟩⟩, by rw [tag1_out ne, tag1_in], tag1_in, ne, fun k hk => by omega, fun k hk => by omega⟩, fun k hk => by omega⟩
  have M0 : Mv (fun _ => True) (fun _ => none) (tag1 (tag1 (fun _ => none) a2 (some (2, false))) a3 (some (2, false))) h1 (upd (upd h1 a2 (.cells #[Value.pointer none, Value.pointer none] N_A2_P_quota_Quota (0, 0))) a3 (.cells #[Value.pointer none, Value.pointer none] N_A2_P_ref12_Quota (0, 0))) :=
    ((Mv.keeps (k2.trans k3)).tag1 f2).tag1 (k2.fresh f3)
  generalize upd (upd h1 a2 (.cells #[Value.pointer none, Value.pointer none] N_A2_P_quota_Quota (0, 0))) a3 (.cells #[Value.pointer none, Value.pointer none] N_A2_P_ref12_Quota (0, 0)) = h2 at S0 M0 ⊢
  have out : ∀ {o' : QOwn} {h' : H}, Mv (fun _ => True) (fun _ => none) o' h1 h' → Keeps h h' := fun m => Mv.out k1 (fun c t e => by cases e) m
  clear k2 k3 f2 f3
  refine w_for 2 (fun k z h' => z = (k : Int) ∧ ∃ o' p b r xs ys, xs.length = 2 ∧ ys.length = 2 ∧ ST h' o' each all k p b r a2 a3 xs ys ∧ Mv (fun _ => True) (fun _ => none) o' h1 h' ∧ (0 < k → 1 ≤ each ∧ each ≤ 256 ∧ 1 ≤ all ∧ all ≤ 256)) ?_ ⟨rfl, _, _, _, _, _, _, rfl, rfl, S0, M0, fun e => by omega⟩
  clear S0 M0
  rintro rec k _ h3 hk ⟨rfl, o3, p, b, r, xs, ys, lxs, lys, S3, M3, rng⟩ more
  refine w_if' (fun c => ?_) fun c => ?_
  · have c : k < 2 := by omega
    refine t_QNew (fun bad => t_RNew (fun _ => w_ifF rfl (w_ifT rfl (y _ (out M3)))) fun _ _ _ _ _ _ _ _ _ => by omega) fun g1 g2 g3 g4 pk bk h4 q4 k4 fp fb => ?_
    refine t_RNew (fun bad => by omega) fun _ _ _ _ rk h5 r5 k5 fr => w_ifF (by rfl) (w_ifF rfl ?_)
    have fp5 : h4 pk ≠ none := by rw [q4.cell]; simp
    have fb5 : h4 bk ≠ none := q4.map.live
    have npr : pk ≠ rk := fun e => fp5 (e ▸ fr)
    have nbr : bk ≠ rk := fun e => fb5 (e ▸ fr)
    have M5 : Mv (fun _ => False) o3 (tag1 (tag1 (tag1 o3 pk (some (k, false))) bk (some (k, false))) rk (some (k, true))) h3 h5 := (((Mv.keeps (k4.trans k5)).tag1 fp).tag1 fb).tag1 (k4.fresh fr)
    have Q5 : QP h5 (tag1 (tag1 (tag1 o3 pk (some (k, false))) bk (some (k, false))) rk (some (k, true))) each all k pk bk [] :=
      ⟨q4.keep k5, by rw [tag1_out npr, tag1_out q4.ne, tag1_in], by rw [tag1_out nbr, tag1_in]⟩
    have R5 : RP h5 (tag1 (tag1 (tag1 o3 pk (some (k, false))) bk (some (k, false))) rk (some (k, true))) each all k rk Sl.nil [] := ⟨r5, tag1_in, fun c ⟨a, ha, _⟩ => by cases ha⟩
    have S5 := S3.moved M5 fun _ => id
    have m5 := M3.seq M5
    generalize tag1 (tag1 (tag1 o3 pk (some (k, false))) bk (some (k, false))) rk (some (k, true)) = o5 at Q5 R5 S5 m5
    have ft : ∀ (a c : Nat), (⟨some ⟨a, 0, none⟩, 2, 2⟩ : Sl).foot c → c = a := fun a c ⟨z, hz, e⟩ => by cases hz; exact e.symm
    refine w_put ptr_len S5.ar.x2 (i := k) (by omega) rfl (some ⟨pk, 0, none⟩) rfl fun h6 x6 b6 d6 => ?_
    have M6 : Mv (· = (2, false)) o5 o5 h5 h6 := Mv.of b6 d6 fun c f _ => ⟨_, by rw [ft _ _ f]; exact S5.ar.o2, rfl⟩
    have x36 : Buf cPtr 1 N_A2_P_ref12_Quota h6 (⟨some ⟨a3, 0, none⟩, 2, 2⟩ : Sl) ys := S5.ar.x3.but b6 fun a ha f => by cases ha; exact ne (ft _ _ f).symm
    refine w_put ptr_len x36 (i := k) (by omega) rfl (some ⟨rk, 0, none⟩) rfl fun h7 x7 b7 d7 => ?_
    have M7 : Mv (· = (2, false)) o5 o5 h6 h7 := Mv.of b7 d7 fun c f _ => ⟨_, by rw [ft _ _ f]; exact S5.ar.o3, rfl⟩
    have M67 := M6.trans M7
    have two : ∀ i : Nat, i < 2 → ∀ t, ¬ ((i, t) = (2, false) ∨ (i, t) = (2, false)) := fun i hi t e => by
      rcases e with e | e <;> (cases e; omega)
    have x27 : Buf cPtr 1 N_A2_P_quota_Quota h7 (⟨some ⟨a2, 0, none⟩, 2, 2⟩ : Sl) (xs.set k (some ⟨pk, 0, none⟩)) := x6.but b7 fun a ha f => by cases ha; exact ne (ft _ _ f)
    rw [ia1 k (by omega)]
    refine more _ _ c ⟨rfl, o5, fun i => if i = k then pk else p i, fun i => if i = k then bk else b i, fun i => if i = k then rk else r i, _, _, by rw [List.length_set]; exact lxs, by rw [List.length_set]; exact lys, ⟨⟨x27, x7, S5.ar.o2, S5.ar.o3, ne, fun i hi => ?_, fun i hi => ?_⟩, fun i hi => ?_⟩, m5.seq M67, fun _ => ⟨g1, g2, g3, g4⟩⟩
    · by_cases e : i = k
      · subst e; simp only [if_true]; rw [List.getElem?_set_self (by omega)]
      · simp only [if_neg e]; rw [List.getElem?_set_ne (fun z => e z.symm)]; exact S5.ar.lx i (by omega)
    · by_cases e : i = k
      · subst e; simp only [if_true]; rw [List.getElem?_set_self (by omega)]
      · simp only [if_neg e]; rw [List.getElem?_set_ne (fun z => e z.symm)]; exact S5.ar.ly i (by omega)
    · by_cases e : i = k
      · subst e
        simp only [if_true]
        exact ⟨_, _, _, Q5.moved M67 (two i c _), R5.moved M67 (two i c _), ⟨fun _ => rfl, rfl⟩⟩
      · simp only [if_neg e]
        obtain ⟨s, l, L, q1, q2, q3⟩ := S5.qr i (by omega)
        exact ⟨s, l, L, q1.moved M67 (two i (by omega) _), q2.moved M67 (two i (by omega) _), q3⟩
  obtain rfl : k = 2 := by omega
  clear more rec c
  obtain ⟨g1, g2, g3, g4⟩ := rng (by omega)
  refine w_for ops.length (fun j z h' => z = (j : Int) ∧ ∃ o', ST h' o' each all 2 p b r a2 a3 xs ys ∧ Mv (fun _ => True) (fun _ => none) o' h1 h') ?_ ⟨rfl, o3, S3, M3⟩
  clear S3 M3
  rintro rec j _ h4 hj ⟨rfl, o4, S4, M4⟩ more
  refine w_if' (fun c => ?_) fun c => y _ (out M4)
  have c : (j : Int) < (s0.len : Int) := c
  have eo : ops[j]? = some ops[j] := List.getElem?_eq_getElem (by omega)
  generalize ops[j] = op at eo
  refine w_get op_len (ar.keep (out M4)) eo rfl (v' := op) rfl ?_
  obtain ⟨k, ek, hk⟩ := and1 op.Which
  rw [ek]
  obtain ⟨s, l, L, xq, xr, rel⟩ := S4.qr k hk
  have M4' : ∀ {o' : QOwn} {h' : H}, Mv (fun _ => True) o4 o' h4 h' → Mv (fun _ => True) (fun _ => none) o' h1 h' := fun m => M4.seq m
  refine w_joinP (fun z h' => z.1 = z.2 ∧ ∃ o', ST h' o' each all 2 p b r a2 a3 xs ys ∧ Mv (fun _ => True) (fun _ => none) o' h1 h') (fun jj hjj => w_if' (fun c2 => ?_) fun c2 => w_if' (fun c3 => ?_) fun c3 => hjj _ _ ⟨rfl, o4, S4, M4⟩) ?_
  · -- Add
    refine S4.ar.g2 hk (t_QAdd xq.q g4 fun h5 q5 c5 => ?_)
    have M5 : Mv (· = (k, false)) o4 o4 h4 h5 := Mv.of c5.but c5.dom fun n e _ => ⟨_, by rw [e]; exact xq.qb, rfl⟩
    have A5 := S4.ar.moved M5 fun z => by cases z; omega
    have R5 := xr.moved M5 fun z => by cases z
    refine A5.g3 hk (t_RAdd R5.q g4 fun s6 L6 h6 eL r6 b6 f6 d6 => ?_)
    obtain ⟨o6, S6, M6⟩ := S4.upd hk xq xr q5 c5 r6 b6 f6 d6 (by rw [eL]; exact rel.add op.Obj)
    exact hjj _ _ ⟨rel.code op.Obj, o6, S6, M4' M6⟩
  · -- Sub
    refine S4.ar.g2 hk (t_QSub xq.q fun h5 q5 c5 => ?_)
    have M5 : Mv (· = (k, false)) o4 o4 h4 h5 := Mv.of c5.but c5.dom fun n e _ => ⟨_, by rw [e]; exact xq.qb, rfl⟩
    have A5 := S4.ar.moved M5 fun z => by cases z; omega
    have R5 := xr.moved M5 fun z => by cases z
    refine A5.g3 hk (t_RSub R5.q fun s6 L6 h6 eL r6 b6 f6 d6 => ?_)
    obtain ⟨o6, S6, M6⟩ := S4.upd hk xq xr q5 c5 r6 (b6.mono fun _ e => .inl e) f6 d6 (by rw [eL]; exact rel.sub xq.q.once op.Obj op.N)
    exact hjj _ _ ⟨by rw [rel.subOk], o6, S6, M4' M6⟩
  clear xq xr rel S4 M4' M4
  rintro ⟨e1, e2⟩ h5 ⟨he, o5, S5, M5⟩
  obtain rfl : e1 = e2 := he
  refine w_joinP (fun z h' => z = false ∧ Keeps h5 h') (fun jj hjj => w_ifF (by show (!decide (e1 = e1)) = false; rw [decide_eq_true rfl]; rfl) ?_) ?_
  · obtain ⟨s, l, L, xq, xr, rel⟩ := S5.qr k hk
    refine S5.ar.gg hk fun ad had => ?_
    refine w_joinP (fun z h' => z = (mayOf each all l op.Obj, some ⟨r k, 0, none⟩) ∧ Keeps h5 h') (fun j2 hj2 => ?_) ?_
    · exact w_both (t_QMay xq.q fun h6 k6 => w_load (had h6 k6) (hj2 _ _ ⟨rfl, k6⟩)) (w_load (had h5 (.refl _)) (t_QMay xq.q fun h6 k6 => hj2 _ _ ⟨rfl, k6⟩))
    · rintro _ h6 ⟨rfl, k6⟩
      refine t_RMay (xr.q.keep k6) ?_
      have := rel.code (each := each) (all := all) op.Obj
      show jj (!decide (mayOf each all l op.Obj = rmayOf each all L op.Obj)) h6
      rw [this, decide_eq_true rfl]
      exact hjj _ _ ⟨rfl, k6⟩
  rintro _ h6 ⟨rfl, k6⟩
  have S6 := S5.keep k6
  have M6 : Mv (fun _ => True) (fun _ => none) o5 h1 h6 := M5.seq (T' := fun _ => False) (Mv.keeps k6)
  clear S5 M5 k6
  refine w_ifF rfl ?_
  refine w_for 2 (fun i z h' => z = (i : Int) ∧ Keeps h6 h') ?_ ⟨rfl, .refl _⟩
  rintro rec2 i _ h7 hi ⟨rfl, k7⟩ more2
  have S7 := S6.keep k7
  refine w_if' (fun c2 => ?_) fun c2 => ?_
  · have c2 : i < 2 := by omega
    obtain ⟨s, l, L, xq, xr, rel⟩ := S7.qr i c2
    refine S7.ar.gg c2 fun ad had => ?_
    refine w_joinV (cnt l op.Obj, some ⟨r i, 0, none⟩) (fun jj hjj => w_both (t_QOf xq.q (w_load (had h7 (.refl _)) hjj)) (w_load (had h7 (.refl _)) (t_QOf xq.q hjj))) ?_
    refine t_ROf xr.q ?_
    refine w_joinP (fun z h' => z = false ∧ Keeps h7 h') (fun jj hjj => w_ifF ?_ ?_) ?_
    · show (!decide (cnt l op.Obj = (L.count op.Obj : Int))) = false
      rw [decide_eq_true (rel.1 op.Obj)]; rfl
    · refine S7.ar.gg c2 fun ad had => ?_
      refine w_joinP (fun z h' => z = (asum l, (L.length : Int)) ∧ Keeps h7 h') (fun j2 hj2 => ?_) ?_
      · have ls : (s.len : Int) = (L.length : Int) := by rw [xr.q.buf.len]
        refine w_both (t_QAll xq.q fun h8 k8 => w_load (had h8 k8) (w_deref (w_load (xr.q.keep k8).f2 ?_))) (w_load (had h7 (.refl _)) (w_deref (w_both (t_QAll xq.q fun h8 k8 => w_load (xr.q.keep k8).f2 ?_) (w_load xr.q.f2 (t_QAll xq.q fun h8 k8 => ?_)))))
        · exact hj2 _ _ ⟨by rw [ls], k8⟩
        · exact hj2 _ _ ⟨by rw [ls], k8⟩
        · exact hj2 _ _ ⟨by rw [ls], k8⟩
      · rintro _ h8 ⟨rfl, k8⟩
        show jj (!decide (asum l = (L.length : Int))) h8
        rw [decide_eq_true rel.2]
        exact hjj _ _ ⟨rfl, k8⟩
    rintro _ h8 ⟨rfl, k8⟩
    have S8 := S7.keep k8
    have xq8 := xq.moved (T := fun _ => False) (Mv.keeps k8) id
    have xr8 := xr.moved (T := fun _ => False) (Mv.keeps k8) id
    refine w_joinP (fun z h' => z = false ∧ Keeps h8 h') (fun jj hjj => w_ifF rfl ?_) ?_
    · refine S8.ar.gg c2 fun ad had => ?_
      have lk : (isort (l.map Prod.fst)).length ≤ 256 := by rw [isort_len, List.length_map]; exact xq.q.len
      refine w_joinP (fun z h' => z.2 = some ⟨r i, 0, none⟩ ∧ Buf (cInt .i64) 1 N_int h' z.1 (isort (l.map Prod.fst)) ∧ Keeps h8 h') (fun j2 hj2 => ?_) ?_
      · exact w_both (t_QObjects xq8.q fun so h9 b9 k9 _ => w_load (had h9 k9) (hj2 _ _ ⟨rfl, b9, k9⟩)) (w_load (had h8 (.refl _)) (t_QObjects xq8.q fun so h9 b9 k9 _ => hj2 _ _ ⟨rfl, b9, k9⟩))
      · rintro ⟨z1, z2⟩ h9 ⟨rfl, b9, k9⟩
        refine t_RObjects (xr8.q.keep k9) fun so os h10 bo hris hmem k10 _ => ?_
        have eos : isort (l.map Prod.fst) = os := rising_eq (isort_rising xq.q.once) hris fun z => by
          rw [hmem, (isort_perm _).mem_iff, rel.mem xq.q.once xq.q.pos]
        refine t_ints12 (b9.keep k10).arr bo.arr (by omega) ?_
        rw [decide_eq_true eos]
        exact hjj _ _ ⟨rfl, k9.trans k10⟩
    rintro _ h9 ⟨rfl, k9⟩
    refine w_ifF rfl ?_
    rw [ia1 i (by omega)]
    exact more2 _ _ c2 ⟨rfl, (k7.trans k8).trans k9⟩
  · rw [iAdd_eq (by omega) (by omega)]
    exact more _ _ (by omega) ⟨by omega, o5, S7, M6.seq (T' := fun _ => False) (Mv.keeps k7)⟩
end
end Go.Proofs.Ytlnlmideghepnaa.K
