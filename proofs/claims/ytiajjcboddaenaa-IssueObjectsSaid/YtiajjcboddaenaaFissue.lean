/- Functions of the program, printed by a program of mine: issue_draw, issue_Draw_1, issue_Draw, issue_Of_1, issue_Of -/
import Derived.Test.YtiajjcboddaenaaT
import Derived.Test.YtiajjcboddaenaaFcatalogue
import Derived.Test.YtiajjcboddaenaaFdraws
import Derived.Test.YtiajjcboddaenaaFslices
namespace Go.Proofs.Ytiajjcboddaenaa.K
open Go Go.Proofs
/-! sesame/issue.draw -/
def m_issue_draw (a0 : Option Addr) (a1 : PV) (K : (S_api_Word × Int) → H → Prop) : H → Prop :=
  mLoop (fun (rec2 : Int → H → Prop) (s1 : Int) =>
    mIf (decide (s1 < 9)) (
      m_draws_Draws_Draw a0 fun r3 =>
      mIf (!decide (r3.2 = 0)) (
        K ((⟨0, 0⟩ : S_api_Word), r3.2)
        ) (
        mCallV (T := Bool) Try.prog (fun r => (Value.bool r)) a1.1 [(S_api_Word.val r3.1)] fun r4 =>
        mIf (!r4) (
          K (r3.1, 0)
          ) (
          rec2 (iAdd .i64 s1 1)
          )
        )
      ) (
      K ((⟨0, 0⟩ : S_api_Word), 12)
      )
    ) 0
def x_issue_draw : Cx Try.prog := ⟨tys, [s_draws_Draws_Draw], [4, 6], [], mixed⟩
def h_issue_draw : Hint := (.seq .d (.seq (.seq .d (.blk (.loop [.slot 8 (tInt .i64)] 33554400 [] .d))) .d))
theorem w_issue_draw : ∀ (a : Den [tPtr, tPV]) (K : Den [S_api_Word.ty, (tInt .i64)] → HP) (h : H), m_issue_draw a.1 a.2 K h = wpF x_issue_draw Try.f129 [tPtr, tPV] [S_api_Word.ty, (tInt .i64)] h_issue_draw a K h := fun a K h => by kernel_rfl
def s_issue_draw : Spec Try.prog := mkSpec x_issue_draw 129 Try.f129 [tPtr, tPV] [S_api_Word.ty, (tInt .i64)] false h_issue_draw (fun a => m_issue_draw a.1 a.2) w_issue_draw callee129 rfl
/-! sesame/issue.Draw$1 -/
def m_issue_Draw_1 (a0 : S_api_Word) (a1 : Addr) (K : (Bool) → H → Prop) : H → Prop :=
  mLoad cSl a1 fun x1 =>
  m_slices_Contains_api_Word_api_Word x1 a0 fun r2 =>
  K r2
def x_issue_Draw_1 : Cx Try.prog := ⟨tys, [s_slices_Contains_api_Word_api_Word], [2], [], mixed⟩
def h_issue_Draw_1 : Hint := .d
theorem w_issue_Draw_1 : ∀ (a : Den [S_api_Word.ty, tAdr]) (K : Den [tBool] → HP) (h : H), m_issue_Draw_1 a.1 a.2 K h = wpF x_issue_Draw_1 Try.f195 [S_api_Word.ty, tAdr] [tBool] h_issue_Draw_1 a K h := fun a K h => by kernel_rfl
def s_issue_Draw_1 : Spec Try.prog := mkSpec x_issue_Draw_1 195 Try.f195 [S_api_Word.ty, tAdr] [tBool] false h_issue_Draw_1 (fun a => m_issue_Draw_1 a.1 a.2) w_issue_Draw_1 callee195 rfl
/-! sesame/issue.Draw -/
def m_issue_Draw (a0 : Option Addr) (a1 : Sl) (K : (S_api_Word × Int) → H → Prop) : H → Prop :=
  mNew 24 #[(Sl.val a1)] fun ad1 =>
  m_issue_draw a0 (⟨Value.func (.func 195) #[] #[(Value.pointer (some ad1))], rfl, rfl⟩ : PV) fun r2 =>
  K (r2.1, r2.2)
def x_issue_Draw : Cx Try.prog := ⟨tys, [s_issue_draw], [4], [], mixed⟩
def h_issue_Draw : Hint := .d
theorem w_issue_Draw : ∀ (a : Den [tPtr, tSl]) (K : Den [S_api_Word.ty, (tInt .i64)] → HP) (h : H), m_issue_Draw a.1 a.2 K h = wpF x_issue_Draw Try.f115 [tPtr, tSl] [S_api_Word.ty, (tInt .i64)] h_issue_Draw a K h := fun a K h => by kernel_rfl
def s_issue_Draw : Spec Try.prog := mkSpec x_issue_Draw 115 Try.f115 [tPtr, tSl] [S_api_Word.ty, (tInt .i64)] false h_issue_Draw (fun a => m_issue_Draw a.1 a.2) w_issue_Draw callee115 rfl
/-! sesame/issue.Of$1 -/
def m_issue_Of_1 (a0 : S_api_Word) (a1 : Addr) (a2 : Addr) (K : (Bool) → H → Prop) : H → Prop :=
  mLoad cPtr a1 fun x1 =>
  mLoad (cInt .i64) a2 fun x2 =>
  m_catalogue_Catalogue_Find x1 (⟨x2, ⟨a0.Hi, a0.Lo⟩⟩ : S_api_Cap) fun r3 =>
  K r3.2
def x_issue_Of_1 : Cx Try.prog := ⟨tys, [s_catalogue_Catalogue_Find], [3], [], mixed⟩
def h_issue_Of_1 : Hint := .d
theorem w_issue_Of_1 : ∀ (a : Den [S_api_Word.ty, tAdr, tAdr]) (K : Den [tBool] → HP) (h : H), m_issue_Of_1 a.1 a.2.1 a.2.2 K h = wpF x_issue_Of_1 Try.f130 [S_api_Word.ty, tAdr, tAdr] [tBool] h_issue_Of_1 a K h := fun a K h => by kernel_rfl
def s_issue_Of_1 : Spec Try.prog := mkSpec x_issue_Of_1 130 Try.f130 [S_api_Word.ty, tAdr, tAdr] [tBool] false h_issue_Of_1 (fun a => m_issue_Of_1 a.1 a.2.1 a.2.2) w_issue_Of_1 callee130 rfl
/-! sesame/issue.Of -/
def m_issue_Of (a0 : Option Addr) (a1 : Option Addr) (a2 : Int) (K : (S_api_Word × Int) → H → Prop) : H → Prop :=
  mNew 64 #[(Value.pointer a1)] fun ad1 =>
  mNew 3 #[(Value.int .i64 a2)] fun ad2 =>
  m_issue_draw a0 (⟨Value.func (.func 130) #[] #[(Value.pointer (some ad1)), (Value.pointer (some ad2))], rfl, rfl⟩ : PV) fun r3 =>
  K (r3.1, r3.2)
def x_issue_Of : Cx Try.prog := ⟨tys, [s_issue_draw], [6], [], mixed⟩
def h_issue_Of : Hint := .d
theorem w_issue_Of : ∀ (a : Den [tPtr, tPtr, (tInt .i64)]) (K : Den [S_api_Word.ty, (tInt .i64)] → HP) (h : H), m_issue_Of a.1 a.2.1 a.2.2 K h = wpF x_issue_Of Try.f37 [tPtr, tPtr, (tInt .i64)] [S_api_Word.ty, (tInt .i64)] h_issue_Of a K h := fun a K h => by kernel_rfl
def s_issue_Of : Spec Try.prog := mkSpec x_issue_Of 37 Try.f37 [tPtr, tPtr, (tInt .i64)] [S_api_Word.ty, (tInt .i64)] false h_issue_Of (fun a => m_issue_Of a.1 a.2.1 a.2.2) w_issue_Of callee37 rfl
end Go.Proofs.Ytiajjcboddaenaa.K
