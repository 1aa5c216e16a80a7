/- law07.StoreLives: what its lists hold. -/
import Derived.Test.YteeaelemfalkbaaL07a
import Derived.Test.YteeaelemfalkbaaL8
namespace Go.Proofs.Yteeaelemfalkbaa.K
open Go
theorem and_low (x : Int) {m : Nat} (hm : m < 2 ^ 62) : ∃ n : Nat, n ≤ m ∧ iAnd .i64 x (m : Int) = (n : Int) := by
  unfold iAnd
  have h1 : (BitVec.ofInt IntKind.i64.bits x &&& BitVec.ofInt IntKind.i64.bits (m : Int)).toNat ≤ m := by
    rw [BitVec.toNat_and]
    have : (BitVec.ofInt IntKind.i64.bits (m : Int)).toNat = m := by
      rw [BitVec.toNat_ofInt]
      show ((m : Int) % ((2 ^ 64 : Nat) : Int)).toNat = m
      rw [Int.emod_eq_of_lt (by omega) (by omega)]; rfl
    rw [this]
    exact Nat.and_le_right
  generalize (BitVec.ofInt IntKind.i64.bits x &&& BitVec.ofInt IntKind.i64.bits (m : Int)).toNat = n at h1
  exact ⟨n, h1, i64_eq (by omega) (by omega)⟩
theorem cs_len : ∀ x : Sl, (cSl x).length = 1 := fun _ => rfl
theorem cs_plain : ∀ x : Sl, (cSl x).all plainVal = true := fun _ => rfl
theorem ci_plain : ∀ x : Int, (cInt .i64 x).all plainVal = true := fun _ => rfl
/-- The law's own lists: numbers, sizes, bytes. -/
structure JW (h0 h : H) (P : Nat → Prop) (I Z : List Int) (V : List (List UInt8)) (ids sz wt : Sl) (bs : List Sl) : Prop where
  k0 : Keeps h0 h
  cids : Can (cInt .i64) 1 N_int h ids I
  szs : Can (cInt .i64) 1 N_int h sz Z
  wts : Can cSl 1 N_Sl_u8 h wt bs
  blen : bs.length = V.length
  each : ∀ (k : Nat) (b : Sl) (p : List UInt8), bs[k]? = some b → V[k]? = some p → Buf cU8 1 N_u8 h b p
  apart : ∀ (j k : Nat) (b b' : Sl), j ≠ k → bs[j]? = some b → bs[k]? = some b' → ∀ c, b.foot c → ¬ b'.foot c
  ip : ∀ c, ids.foot c → ¬ P c ∧ h0 c = none
  zp : ∀ c, sz.foot c → ¬ P c ∧ h0 c = none ∧ ¬ ids.foot c
  wp : ∀ c, wt.foot c → h0 c = none
  bp : ∀ b ∈ bs, ∀ c, b.foot c → h0 c = none
section
variable {h0 h : H} {P : Nat → Prop} {I Z : List Int} {V : List (List UInt8)} {ids sz wt : Sl} {bs : List Sl}
theorem JW.keep (x : JW h0 h P I Z V ids sz wt bs) {h' : H} (k : Keeps h h') : JW h0 h' P I Z V ids sz wt bs :=
  ⟨x.k0.trans k, x.cids.keep k, x.szs.keep k, x.wts.keep k, x.blen, fun i b p e1 e2 => (x.each i b p e1 e2).keep k, x.apart, x.ip, x.zp, x.wp, x.bp⟩
theorem JW.bt (x : JW h0 h P I Z V ids sz wt bs) {b : Sl} (hb : b ∈ bs) {c : Nat} (f : b.foot c) : Typed h N_u8 c := by
  obtain ⟨k, hk, rfl⟩ := List.getElem_of_mem hb
  have hv : k < V.length := by rw [← x.blen]; exact hk
  exact (x.each k _ _ (List.getElem?_eq_getElem hk) (List.getElem?_eq_getElem hv)).typed f
/-- A store's change leaves them. -/
theorem JW.chg (x : JW h0 h P I Z V ids sz wt bs) {s : Nat} {F P' : Nat → Prop} {m : Int} {np : Nat} {next : Int} {L : List (Int × List UInt8)} (st : SAt h s F P m np next L) (f0 : ∀ c, F c → h0 c = none) {h' : H} (ch : SChg F h h') (hp : ∀ c, P' c → P c ∨ h c = none) : JW h0 h' P' I Z V ids sz wt bs := by
  have np' : ∀ c, ¬ P c → h c ≠ none → ¬ P' c := fun c n e q => (hp c q).elim n e
  exact ⟨x.k0.but ch.but f0, x.cids.but ch.but fun c f => st.not (x.cids.typed c f) (by decide), x.szs.but ch.but fun c f => st.not (x.szs.typed c f) (by decide), x.wts.but ch.but fun c f => st.not (x.wts.typed c f) (by decide), x.blen,
    fun i b p e1 e2 => (x.each i b p e1 e2).but ch.but fun a ha => st.not ((x.each i b p e1 e2).typed ⟨a, ha, rfl⟩) (by decide), x.apart,
    fun c f => ⟨np' c (x.ip c f).1 (x.cids.typed c f).has, (x.ip c f).2⟩, fun c f => ⟨np' c (x.zp c f).1 (x.szs.typed c f).has, (x.zp c f).2⟩, x.wp, x.bp⟩
/-- A list's bytes are written. -/
theorem JW.wrote (x : JW h0 h P I Z V ids sz wt bs) {h' : H} {k : Nat} {b : Sl} {v : List UInt8} (hb : bs[k]? = some b) (bu : Buf cU8 1 N_u8 h' b v) (bt : But b.foot h h') : JW h0 h' P I Z (V.set k v) ids sz wt bs := by
  have hbm := List.mem_of_getElem? hb
  have ne : ∀ {e : TypeId} {c : Nat}, Typed h e c → e ≠ N_u8 → ¬ b.foot c := fun t n f => t.ne (x.bt hbm f) n rfl
  refine ⟨x.k0.but bt fun c f => x.bp b hbm c f, x.cids.but bt fun c f => ne (x.cids.typed c f) (by decide), x.szs.but bt fun c f => ne (x.szs.typed c f) (by decide), x.wts.but bt fun c f => ne (x.wts.typed c f) (by decide), by rw [List.length_set]; exact x.blen, fun i b' p e1 e2 => ?_, x.apart, x.ip, x.zp, x.wp, x.bp⟩
  rw [List.getElem?_set] at e2
  by_cases q : k = i
  · subst q
    rw [if_pos rfl] at e2
    split at e2
    · cases e2
      rw [hb] at e1; cases e1
      exact bu
    · cases e2
  · rw [if_neg q] at e2
    exact (x.each i b' p e1 e2).but bt fun a ha f => x.apart k i b b' q hb e1 _ f ⟨a, ha, rfl⟩
/-- While a new object is put into the three lists, in any order. -/
structure AP (hb h : H) (I Z : List Int) (nid z : Int) (ids sz : Sl) (n : Nat) (oa ob om : Option Sl) (on : Option Addr) : Prop where
  bt : But (fun c => ids.foot c ∨ sz.foot c) hb h
  dm : ∀ c, h c = none → hb c = none
  ca : Can (cInt .i64) 1 N_int h (oa.getD ids) (I ++ oa.toList.map fun _ => nid)
  cb : Can (cInt .i64) 1 N_int h (ob.getD sz) (Z ++ ob.toList.map fun _ => z)
  fa : ∀ c, (oa.getD ids).foot c → ids.foot c ∨ hb c = none
  fb : ∀ c, (ob.getD sz).foot c → sz.foot c ∨ hb c = none
  ab : ∀ c, (oa.getD ids).foot c → ¬ (ob.getD sz).foot c
  mm : ∀ s, om = some s → Buf cU8 1 N_u8 h s (List.replicate n 0) ∧ ∀ c, s.foot c → hb c = none
  nn : ∀ d, on = some d → ∃ s, om = some s ∧ Arr cSl h (⟨some d, 1, 1⟩ : Sl) [s] ∧ Typed h N_Sl_u8 d.block
variable {hb : H} {nid z : Int} {n : Nat} {oa ob om : Option Sl} {on : Option Addr}
theorem AP.stepA (x : AP hb h I Z nid z ids sz n none ob om on) (hI : I.length ≤ 64) {k : Sl → H → Prop} (y : ∀ s h', AP hb h' I Z nid z ids sz n (some s) ob om on → k s h') : mApp 3 1 8 #[(Value.int .i64 0)] 1 [(Value.int .i64 nid)] ids k h := by
  have ca : Can (cInt .i64) 1 N_int h ids I := by have := x.ca; simpa using this
  refine w_appC (by_ := 8) ci_len rfl ca [nid] rfl rfl (by simp only [List.length_singleton]; omega) fun s h' c' b' f' d' => y s h' ⟨x.bt.trans b' fun _ f => .inl (.inl f), fun c e => x.dm c (d' c e), c', x.cb.but b' fun c f q => x.ab c q f, fun c f => (f' c f).imp id (x.dm c), x.fb, fun c f q => ?_, fun s e => ?_, fun d e => ?_⟩
  · rcases f' c f with w | w
    · exact x.ab c w q
    · exact (x.cb.typed c q).has w
  · exact ⟨(x.mm s e).1.but b' fun a ha f => (ca.typed _ f).ne ((x.mm s e).1.typed ⟨a, ha, rfl⟩) (by decide) rfl, (x.mm s e).2⟩
  · obtain ⟨s, e1, e2, e3⟩ := x.nn d e
    exact ⟨s, e1, e2.but b' fun _ a ha f => (by cases ha; exact (ca.typed _ f).ne e3 (by decide) rfl), e3.but b' fun f => (ca.typed _ f).ne e3 (by decide) rfl⟩
theorem AP.stepB (x : AP hb h I Z nid z ids sz n oa none om on) (hZ : Z.length ≤ 64) {k : Sl → H → Prop} (y : ∀ s h', AP hb h' I Z nid z ids sz n oa (some s) om on → k s h') : mApp 3 1 8 #[(Value.int .i64 0)] 1 [(Value.int .i64 z)] sz k h := by
  have cb : Can (cInt .i64) 1 N_int h sz Z := by have := x.cb; simpa using this
  refine w_appC (by_ := 8) ci_len rfl cb [z] rfl rfl (by simp only [List.length_singleton]; omega) fun s h' c' b' f' d' => y s h' ⟨x.bt.trans b' fun _ f => .inl (.inr f), fun c e => x.dm c (d' c e), x.ca.but b' fun c f q => x.ab c f q, c', x.fa, fun c f => (f' c f).imp id (x.dm c), fun c q f => ?_, fun s e => ?_, fun d e => ?_⟩
  · rcases f' c f with w | w
    · exact x.ab c q w
    · exact (x.ca.typed c q).has w
  · exact ⟨(x.mm s e).1.but b' fun a ha f => (cb.typed _ f).ne ((x.mm s e).1.typed ⟨a, ha, rfl⟩) (by decide) rfl, (x.mm s e).2⟩
  · obtain ⟨s, e1, e2, e3⟩ := x.nn d e
    exact ⟨s, e1, e2.but b' fun _ a ha f => (by cases ha; exact (cb.typed _ f).ne e3 (by decide) rfl), e3.but b' fun f => (cb.typed _ f).ne e3 (by decide) rfl⟩
theorem AP.keep (x : AP hb h I Z nid z ids sz n oa ob om on) {h' : H} (k : Keeps h h') : AP hb h' I Z nid z ids sz n oa ob om on :=
  ⟨x.bt.trans (.of (F := fun _ => False) k) fun _ f => f.elim, fun c e => x.dm c (k.fresh e), x.ca.keep k, x.cb.keep k, x.fa, x.fb, x.ab, fun s e => ⟨(x.mm s e).1.keep k, (x.mm s e).2⟩, fun d e => by
    obtain ⟨s, e1, e2, e3⟩ := x.nn d e
    exact ⟨s, e1, e2.keep k, e3.keep k⟩⟩
theorem AP.stepM (x : AP hb h I Z nid z ids sz n oa ob none none) (hn : n ≤ 2 ^ 40) {i j : Int} (hi : i = n) (hj : j = n) {k : Sl → H → Prop} (y : ∀ s h', AP hb h' I Z nid z ids sz n oa ob (some s) none → k s h') : mMake 5 1 #[(Value.int .u8 0)] i j k h := by
  refine w_make (by_ := 1) u8_len 0 rfl hi hj (by omega) (by omega) fun s h' b' k' f' _ => ?_
  have x' := x.keep k'
  exact y s h' ⟨x'.bt, x'.dm, x'.ca, x'.cb, x'.fa, x'.fb, x'.ab, fun s2 e => by cases e; exact ⟨b', fun c f => x.dm c (f' c f)⟩, fun d e => by cases e⟩
theorem AP.stepN {s : Sl} (x : AP hb h I Z nid z ids sz n oa ob (some s) none) {k : Addr → H → Prop} (y : ∀ d h', AP hb h' I Z nid z ids sz n oa ob (some s) (some d) → k d h') : mNew 30 #[(Sl.val s)] k h := by
  refine w_new fun b hb' => ?_
  have x' := x.keep (.new (o := .cells #[(Sl.val s)] 30 (0, 0)) hb')
  exact y _ _ ⟨x'.bt, x'.dm, x'.ca, x'.cb, x'.fa, x'.fb, x'.ab, x'.mm, fun d e => by
    cases e
    exact ⟨s, rfl, ⟨rfl, Nat.le_refl _, fun _ => ⟨_, rfl, At.own (l1 := []) (l3 := []) (upd_same _ _ _) rfl⟩⟩, .of (upd_same _ _ _)⟩⟩
theorem AP.init (w : JW h0 hb P I Z V ids sz wt bs) : AP hb hb I Z nid z ids sz n none none none none :=
  ⟨.refl _ _, fun _ e => e, by simpa using w.cids, by simpa using w.szs, fun c f => .inl f, fun c f => .inl f, fun c f q => (w.zp c q).2.2 f, fun s e => (by cases e), fun d e => (by cases e)⟩
/-- The three lists, each longer by one. -/
theorem AP.done (w : JW h0 hb P I Z V ids sz wt bs) (hP : ∀ c, P c → hb c ≠ none) {a b m : Sl} {d : Addr} (x : AP hb h I Z nid z ids sz n (some a) (some b) (some m) (some d)) (hbl : bs.length ≤ 64) {k : Sl → H → Prop}
    (y : ∀ wt' h', JW h0 h' P (I ++ [nid]) (Z ++ [z]) (V ++ [List.replicate n 0]) a b wt' (bs ++ [m]) → But (fun c => ids.foot c ∨ sz.foot c ∨ wt.foot c) hb h' → (∀ c, h' c = none → hb c = none) → k wt' h') : mAppend 30 1 24 #[(Sl.val Sl.nil)] wt (⟨some d, 1, 1⟩ : Sl) k h := by
  obtain ⟨s, es, arn, tn⟩ := x.nn d rfl
  cases es
  obtain ⟨bm, fm⟩ := x.mm m rfl
  have ty : ∀ {e : TypeId} {c : Nat}, Typed hb e c → e ≠ N_int → ¬ (ids.foot c ∨ sz.foot c) := fun t ne q => by
    rcases q with q | q
    · exact t.ne (w.cids.typed _ q) ne rfl
    · exact t.ne (w.szs.typed _ q) ne rfl
  have cw : Can cSl 1 N_Sl_u8 h wt bs := w.wts.but x.bt fun c f => ty (w.wts.typed c f) (by decide)
  have ca : Can (cInt .i64) 1 N_int h a (I ++ [nid]) := x.ca
  have cb : Can (cInt .i64) 1 N_int h b (Z ++ [z]) := x.cb
  refine w_appendC (by_ := 24) cs_len cs_plain rfl cw arn (by simp only [List.length_singleton]; omega) fun wt' h' cw' b' f' d' => ?_
  have nw : ∀ {e : TypeId} {c : Nat}, Typed h e c → e ≠ N_Sl_u8 → ¬ wt.foot c := fun t ne q => t.ne (cw.typed _ q) ne rfl
  have fresh : ∀ c, hb c = none → ¬ P c ∧ h0 c = none := fun c e => ⟨fun q => hP c q e, w.k0.fresh e⟩
  have hold : ∀ (i : Nat) (b' : Sl) (p : List UInt8), bs[i]? = some b' → V[i]? = some p → Buf cU8 1 N_u8 h b' p := fun i b' p e1 e2 => (w.each i b' p e1 e2).but x.bt fun a ha => ty ((w.each i b' p e1 e2).typed ⟨a, ha, rfl⟩) (by decide)
  refine y wt' h' ⟨(w.k0.but x.bt fun c q => ?_).but b' w.wp, ca.but b' fun c f => nw (ca.typed c f) (by decide), cb.but b' fun c f => nw (cb.typed c f) (by decide), cw', by rw [List.length_append, List.length_append, w.blen]; rfl, fun i b2 p e1 e2 => ?_, fun i k b1 b2 hne e1 e2 c q1 q2 => ?_, fun c f => ?_, fun c f => ?_, fun c f => ?_, fun b2 hb2 c f => ?_⟩ ?_ fun c e => x.dm c (d' c e)
  · rcases q with q | q
    · exact (w.ip c q).2
    · exact (w.zp c q).2.1
  · have all : Buf cU8 1 N_u8 h b2 p := by
      rw [List.getElem?_append] at e1 e2
      rw [w.blen] at e1
      split at e1
      · rename_i hi
        rw [if_pos hi] at e2
        exact hold i b2 p e1 e2
      · rename_i hi
        rw [if_neg hi] at e2
        have h0' : i - V.length = 0 := by
          rcases Nat.eq_zero_or_pos (i - V.length) with z | z
          · exact z
          · rw [List.getElem?_eq_none (by rw [List.length_singleton]; exact z)] at e1; cases e1
        rw [h0'] at e1 e2
        cases e1; cases e2
        exact bm
    exact all.but b' fun a ha => nw (all.typed ⟨a, ha, rfl⟩) (by decide)
  · have cls : ∀ (i : Nat) (b1 : Sl), (bs ++ [m])[i]? = some b1 → (i < bs.length ∧ bs[i]? = some b1) ∨ (i = bs.length ∧ b1 = m) := fun i b1 e => by
      have hl := lt_of_get e
      rw [List.length_append, List.length_singleton] at hl
      rw [List.getElem?_append] at e
      split at e
      · rename_i hi; exact .inl ⟨hi, e⟩
      · rename_i hi
        rw [show i - bs.length = 0 by omega] at e
        cases e
        exact .inr ⟨by omega, rfl⟩
    rcases cls i b1 e1 with ⟨l1, g1⟩ | ⟨l1, rfl⟩
    · rcases cls k b2 e2 with ⟨l2, g2⟩ | ⟨l2, rfl⟩
      · exact w.apart i k b1 b2 hne g1 g2 c q1 q2
      · exact (w.bt (List.mem_of_getElem? g1) q1).has (fm c q2)
    · rcases cls k b2 e2 with ⟨l2, g2⟩ | ⟨l2, rfl⟩
      · exact (w.bt (List.mem_of_getElem? g2) q2).has (fm c q1)
      · omega
  · rcases x.fa c f with q | q
    · exact w.ip c q
    · exact fresh c q
  · refine ⟨?_, ?_, fun q => x.ab c q f⟩
    · rcases x.fb c f with q | q
      · exact (w.zp c q).1
      · exact (fresh c q).1
    · rcases x.fb c f with q | q
      · exact (w.zp c q).2.1
      · exact (fresh c q).2
  · rcases f' c f with q | q
    · exact w.wp c q
    · exact (fresh c (x.dm c q)).2
  · rcases List.mem_append.1 hb2 with q | q
    · exact w.bp b2 q c f
    · obtain rfl := List.mem_singleton.1 q
      exact (fresh c (fm c f)).2
  · refine (x.bt.mono fun c q => ?_).trans b' fun c q => .inl (.inr (.inr q))
    rcases q with q | q
    · exact .inl q
    · exact .inr (.inl q)
/-- One is taken out of the three lists. -/
theorem JW.drop (w : JW h0 h P I Z V ids sz wt bs) (hP : ∀ c, P c → h c ≠ none) {k : Nat} (hk : k < bs.length) (hI : I.length = bs.length) (hZ : Z.length = bs.length) (hbl : bs.length ≤ 64) {e1 e2 e3 : Int} (h1 : e1 = (k : Int)) (h2 : e2 = ((k + 1 : Nat) : Int)) (h3 : e3 = (ids.len : Int)) {K : Sl → Sl → Sl → H → Prop}
    (y : ∀ ids' sz' wt' h', JW h0 h' P (I.eraseIdx k) (Z.eraseIdx k) (V.eraseIdx k) ids' sz' wt' (bs.eraseIdx k) → But (fun c => ids.foot c ∨ sz.foot c ∨ wt.foot c) h h' → (∀ c, h' c = none → h c = none) → K ids' sz' wt' h') :
    mCut3 ids 0 e1 e1 1 (fun s70 => mCut ids e2 e3 1 fun s71 => mCut3 sz 0 e1 e1 1 fun s72 => mCut sz e2 (sz.len : Int) 1 fun s73 => mCut3 wt 0 e1 e1 1 fun s74 => mCut wt e2 (wt.len : Int) 1 fun s75 =>
      mAppend 3 1 8 #[(Value.int .i64 0)] s70 s71 fun s76 => mAppend 3 1 8 #[(Value.int .i64 0)] s72 s73 fun s77 => mAppend 30 1 24 #[(Sl.val Sl.nil)] s74 s75 fun s78 => K s76 s77 s78) h := by
  have li := w.cids.arr.len
  have lz := w.szs.arr.len
  have lw := w.wts.arr.len
  refine w_front w.cids (n := k) (by omega) rfl h1 h1 fun s70 c70 f70 => w_mid ci_len w.cids.arr (lo := k + 1) (hi := I.length) (by omega) (Nat.le_refl _) h2 (by rw [h3, li]) fun s71 a71 _ _ _ => ?_
  refine w_front w.szs (n := k) (by omega) rfl h1 h1 fun s72 c72 f72 => w_mid ci_len w.szs.arr (lo := k + 1) (hi := Z.length) (by omega) (Nat.le_refl _) h2 (by rw [lz]) fun s73 a73 g73 _ _ => ?_
  refine w_front w.wts (n := k) (by omega) rfl h1 h1 fun s74 c74 f74 => w_mid cs_len w.wts.arr (lo := k + 1) (hi := bs.length) (by omega) (Nat.le_refl _) h2 (by rw [lw]) fun s75 a75 g75 _ _ => ?_
  have eq : ∀ {T : Type} (l : List T), l.take k ++ (l.drop (k + 1)).take (l.length - (k + 1)) = l.eraseIdx k := fun l => by
    rw [List.eraseIdx_eq_take_drop_succ, List.take_of_length_le (l := l.drop (k + 1)) (by rw [List.length_drop]; exact Nat.le_refl _)]
  have rm : ∀ {T : Type} (l : List T), l.length ≤ 64 → (l.take k).length + ((l.drop (k + 1)).take (l.length - (k + 1))).length ≤ 128 := fun l hl => by
    rw [List.length_take, List.length_take, List.length_drop]; omega
  refine w_appendC (by_ := 8) ci_len ci_plain rfl c70 a71 (by have := rm I (by omega); omega) fun s76 h3 c76 b3 f76 d3 => ?_
  rw [eq I] at c76
  have b3 := b3.mono fun c f => f70 c f
  have n3 : ∀ c, sz.foot c → ¬ ids.foot c := fun c f => (w.zp c f).2.2
  have t3 : ∀ {e : TypeId} {c : Nat}, Typed h e c → e ≠ N_int → ¬ ids.foot c := fun t ne q => t.ne (w.cids.typed _ q) ne rfl
  refine w_appendC (by_ := 8) ci_len ci_plain rfl (c72.but b3 fun c f => n3 c (f72 c f)) (a73.but b3 fun _ a ha => n3 _ (g73 _ ⟨a, ha, rfl⟩)) (by have := rm Z (by omega); omega) fun s77 h4 c77 b4 f77 d4 => ?_
  rw [eq Z] at c77
  have b4 := b4.mono fun c f => f72 c f
  have f76' : ∀ c, s76.foot c → ids.foot c ∨ h c = none := fun c f => (f76 c f).imp (f70 c) fun z => z
  have n4 : ∀ c, s76.foot c → ¬ sz.foot c := fun c f q => by
    rcases f76' c f with z | z
    · exact n3 c q z
    · exact (w.szs.typed c q).has z
  have c76' := c76.but b4 n4
  have t4 : ∀ {e : TypeId} {c : Nat}, Typed h e c → e ≠ N_int → ¬ sz.foot c := fun t ne q => t.ne (w.szs.typed _ q) ne rfl
  have wt3 : ∀ c, wt.foot c → ¬ ids.foot c := fun c f => t3 (w.wts.typed c f) (by decide)
  have wt4 : ∀ c, wt.foot c → ¬ sz.foot c := fun c f => t4 (w.wts.typed c f) (by decide)
  refine w_appendC (by_ := 24) cs_len cs_plain rfl ((c74.but b3 fun c f => wt3 c (f74 c f)).but b4 fun c f => wt4 c (f74 c f)) ((a75.but b3 fun _ a ha => wt3 _ (g75 _ ⟨a, ha, rfl⟩)).but b4 fun _ a ha => wt4 _ (g75 _ ⟨a, ha, rfl⟩)) (by have := rm bs hbl; omega) fun s78 h5 c78 b5 f78 d5 => ?_
  rw [eq bs] at c78
  have b5 := b5.mono fun c f => f74 c f
  have f77' : ∀ c, s77.foot c → sz.foot c ∨ h c = none := fun c f => (f77 c f).imp (f72 c) (d3 c)
  have f78' : ∀ c, s78.foot c → wt.foot c ∨ h c = none := fun c f => (f78 c f).imp (f74 c) fun z => d3 c (d4 c z)
  have n5 : ∀ c, s76.foot c → ¬ wt.foot c := fun c f q => by
    rcases f76' c f with z | z
    · exact wt3 c q z
    · exact (w.wts.typed c q).has z
  have n6 : ∀ c, s77.foot c → ¬ wt.foot c := fun c f q => by
    rcases f77' c f with z | z
    · exact wt4 c q z
    · exact (w.wts.typed c q).has z
  have tot : But (fun c => ids.foot c ∨ sz.foot c ∨ wt.foot c) h h5 := ((b3.mono fun _ f => .inl f).trans b4 fun _ f => .inl (.inr (.inl f))).trans b5 fun _ f => .inl (.inr (.inr f))
  have fresh : ∀ c, h c = none → ¬ P c ∧ h0 c = none := fun c e => ⟨fun q => hP c q e, w.k0.fresh e⟩
  have hsub : ∀ b ∈ bs.eraseIdx k, b ∈ bs := fun b hb => (List.eraseIdx_sublist _ _).subset hb
  have gi : ∀ {T : Type} (l : List T) (i : Nat), (l.eraseIdx k)[i]? = l[if i < k then i else i + 1]? := fun l i => by
    rw [List.getElem?_eraseIdx]; split <;> rfl
  refine y s76 s77 s78 h5 ⟨w.k0.but tot fun c q => ?_, c76'.but b5 n5, c77.but b5 n6, c78, ?_, fun i b p e1 e2 => ?_, fun i q b b' ne e1 e2 => ?_, fun c f => ?_, fun c f => ?_, fun c f => ?_, fun b hb => w.bp b (hsub b hb)⟩ tot fun c e => d3 c (d4 c (d5 c e))
  · rcases q with q | q | q
    · exact (w.ip c q).2
    · exact (w.zp c q).2.1
    · exact w.wp c q
  · rw [List.length_eraseIdx, List.length_eraseIdx, w.blen]
  · rw [gi] at e1 e2
    have := w.each _ b p e1 e2
    refine this.but tot fun a ha q => ?_
    have t := this.typed ⟨a, ha, rfl⟩
    rcases q with q | q | q
    · exact t3 t (by decide) q
    · exact t4 t (by decide) q
    · exact t.ne (w.wts.typed _ q) (by decide) rfl
  · rw [gi] at e1 e2
    refine w.apart _ _ b b' (fun z => ne ?_) e1 e2
    split at z <;> split at z <;> omega
  · rcases f76' c f with q | q
    · exact w.ip c q
    · exact fresh c q
  · refine ⟨?_, ?_, fun q => ?_⟩
    · rcases f77' c f with q | q
      · exact (w.zp c q).1
      · exact (fresh c q).1
    · rcases f77' c f with q | q
      · exact (w.zp c q).2.1
      · exact (fresh c q).2
    · rcases f77 c f with z | z
      · exact n4 c q (f72 c z)
      · exact (c76.typed c q).has z
  · rcases f78' c f with q | q
    · exact w.wp c q
    · exact (fresh c q).2
end
end Go.Proofs.Yteeaelemfalkbaa.K
