/- ValidateScripts. -/
import Derived.Test.YtiajjcboddaenaaVa6
namespace Go.Proofs.Ytiajjcboddaenaa.K
open Go
section
variable {h : H}
theorem t_ValidateScripts {a0 : Int} {n : S_law19_Numbers} {s : Sl} {ops : List S_law19_Op} (ar : Arr S_law19_Op.cells h s ops) (hn : ops.length ≤ 9223372036854775807) (hL : ∀ o ∈ ops, ∃ L, Arr S_api_Cap.cells h o.L L ∧ L.length * 24 ≤ 140737488351232) {K : Bool → H → Prop} (y : ∀ h', Keeps h h' → K true h') : m_law19_ValidateScripts a0 n s K h := by
  unfold m_law19_ValidateScripts
  refine t_desk fun d v p k q D G h1 x1 rf1 ap1 k1 f1 g1 => ?_
  generalize List.replicate (mostOf a0) none = es0 at x1 rf1
  refine w_joinP (fun s4 hh => s4 = false ∧ Keeps h1 hh) (fun j hj => w_ifF rfl (t_alive fun h3 k3 => hj _ _ ⟨rfl, k3⟩)) ?_
  rintro _ h3 ⟨rfl, k3⟩
  have hl := ar.len
  have fk : h k = none := f1 _ x1.inK
  refine w_ifF rfl (w_for ops.length (fun i (z : Int) hh => z = (i : Int) ∧ ∃ D G es ev, Desk hh d v p k q D es es ∧ Ref hh q ev G es ∧ ev ≤ i ∧ (∀ c, D c → ¬ G c) ∧ (∀ c, D c ∨ G c → h c = none) ∧ Keeps h hh) ?_ ⟨rfl, D, G, es0, 0, x1.keep k3, rf1.keep k3, Nat.le_refl _, ap1, fun c g => g.elim (f1 c) (g1 c), k1.trans k3⟩)
  clear f1 g1 x1 rf1 ap1
  rintro rec i z hh hi ⟨rfl, D, G, es, ev, x, rf, hev, ap, fr, kp⟩ more
  refine w_if' (fun c => ?_) fun c => ?_
  · have c : (i : Int) < (s.len : Int) := c
    have hil : i < ops.length := by omega
    have hz := List.getElem?_eq_getElem hil
    have ei : iAdd .i64 (i : Int) 1 = ((i + 1 : Nat) : Int) := (iAdd_eq (by omega) (by omega)).trans (by omega)
    rw [ei]
    generalize ops[i] = o at hz
    obtain ⟨L, arL, hLb⟩ := hL o (List.mem_of_getElem? hz)
    refine w_get op_len (ar.keep kp) hz rfl (v' := o) rfl (t_dstep x rf ap (fun _ => by omega) (arL.keep kp) hLb (off_new arL fk) fun ha es' ev' D' G1 e1 xa ra apa ka => ?_)
    have Ka : Keeps h ha := kp.but ka.but fr
    have fra : ∀ c, D' c ∨ G1 c → h c = none := fun c g => (ka.foot c g).elim (fr c) kp.fresh
    obtain ⟨knob, Gc, a, b, ct, e, g, dd⟩ := id xa.ex
    refine w_joinV false (fun j hj => w_ifF rfl (w_deref (w_deref (w_load xa.c0 (w_joinV (((capsG 0 es').length : Int), some ⟨q, 0, none⟩) (fun j2 hj2 => w_both (t_CCount ct (w_load xa.c2 hj2)) (w_load xa.c2 (t_CCount ct hj2))) (t_RCount ra ?_)))))) (w_ifF rfl (more _ _ hil ⟨rfl, D', G1, es', ev', xa, ra, by omega, apa, fra, Ka⟩))
    rw [decide_eq_true rfl]; exact hj
  · -- asked once more
    clear more rec
    refine w_for ops.length (fun j (z : Int) hx => z = (j : Int) ∧ Desk hx d v p k q D es es ∧ Ref hx q ev G es ∧ Keeps h hx) ?_ ⟨rfl, x, rf, kp⟩
    rintro rec j z hx hj ⟨rfl, x, rf, kp⟩ more
    refine w_if' (fun c => ?_) fun c => y _ kp
    have c : (j : Int) < (s.len : Int) := c
    have hjl : j < ops.length := by omega
    have hz := List.getElem?_eq_getElem hjl
    have ej : iAdd .i64 (j : Int) 1 = ((j + 1 : Nat) : Int) := (iAdd_eq (by omega) (by omega)).trans (by omega)
    rw [ej]
    generalize ops[j] = o at hz
    refine w_field op_len (ar.keep kp) hz rfl (v' := o.C) (cells' := S_api_Cap.cells) (l1 := (S_law19_Op.cells o).take 1) (l3 := (S_law19_Op.cells o).drop 4) rfl rfl ?_
    refine w_for 5 (fun m (z : Int) hx => z = ((2 ^ m : Nat) : Int) ∧ Desk hx d v p k q D es es ∧ Ref hx q ev G es ∧ Keeps h hx) ?_ ⟨rfl, x, rf, kp⟩
    rintro rec3 m z hy hm ⟨rfl, x, rf, kp⟩ more3
    have p2 : 2 ^ m ≤ 2 ^ 5 := Nat.pow_le_pow_right (by decide) hm
    refine w_if' (fun cm => ?_) fun cm => ?_
    · have cm : ((2 ^ m : Nat) : Int) ≤ 16 := cm
      have hm5 : m < 5 := by
        rcases Nat.lt_or_ge m 5 with z | z
        · exact z
        · obtain rfl : m = 5 := by omega
          have : ((2 ^ 5 : Nat) : Int) = 32 := rfl
          omega
      have em : iMul .i64 ((2 ^ m : Nat) : Int) 2 = ((2 ^ (m + 1) : Nat) : Int) := by
        rw [Nat.pow_succ]
        clear p2 hm5
        revert cm
        generalize 2 ^ m = P
        intro cm
        rw [iMul_eq (by omega) (by omega)]; omega
      rw [em]
      refine w_deref (w_deref (w_load x.c1 ?_))
      refine w_joinP (fun (s : Int × Option Addr) hw => s = (givenO es o.C ((2 ^ m : Nat) : Int), some ⟨q, 0, none⟩) ∧ Desk hw d v p k q D es es ∧ But (· = k) hy hw) (fun jj hjj => w_both (t_dGiven x fun ha w1 b1 d1 => w_num (w_load w1.c2 (hjj _ _ ⟨rfl, w1, b1⟩))) (w_load x.c2 (t_dGiven x fun ha w1 b1 d1 => w_num (hjj _ _ ⟨rfl, w1, b1⟩)))) ?_
      rintro _ ha ⟨rfl, w1, b1⟩
      have ra := rf.but b1 fun c e g => ap _ x.inK (by (have e : c = k := e); exact e ▸ g)
      refine t_R19Given ra (w_ifF (by rw [decide_eq_true rfl]; rfl) (more3 _ _ hm5 ⟨rfl, w1, ra, kp.but b1 fun c e => e ▸ fk⟩))
    · obtain ⟨knob, Gc, a, b, ct, e, g, dd⟩ := id x.ex
      refine w_deref (w_load x.c0 (t_CFind ct (w_deref (w_load x.c2 (t_RFind rf (w_ifF ?_ (more _ _ hjl ⟨rfl, x, rf, kp⟩)))))))
      dsimp only
      rw [decide_eq_true rfl, Bool.beq_eq_decide_eq, decide_eq_true rfl]; rfl
end
end Go.Proofs.Ytiajjcboddaenaa.K
