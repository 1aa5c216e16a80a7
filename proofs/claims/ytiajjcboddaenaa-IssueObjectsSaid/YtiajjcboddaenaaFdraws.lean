/- Functions of the program, printed by a program of mine: draws_New, draws_Draws_Taken, draws_words_from, draws_Draws_Draw -/
import Derived.Test.YtiajjcboddaenaaT
import Derived.Test.YtiajjcboddaenaaFwide
namespace Go.Proofs.Ytiajjcboddaenaa.K
open Go Go.Proofs
/-! sesame/draws.New -/
def m_draws_New (a0 : Sl) (a1 : Int) (K : (Option Addr × Int) → H → Prop) : H → Prop :=
  mIf ((decide (a1 < 1)) || (decide (128 < a1))) (
    K (none, 18)
    ) (
    mIf (decide (4096 < (a0.len : Int))) (
      K (none, 23)
      ) (
      mNew 207 #[(Sl.val Sl.nil), (Value.int .i64 0)] fun ad1 =>
      mLoop (fun (rec3 : Int → H → Prop) (s2 : Int) =>
        mIf (decide (s2 < (a0.len : Int))) (
          mIdx a0 s2 2 fun ad4 =>
          mLoad S_api_Word.cells ad4 fun x5 =>
          mPure (m_wide_Cut x5 a1) fun r6 =>
          mLoad cSl (ad1.add 0) fun x7 =>
          mApp 37 2 16 #[(Value.int .u64 0), (Value.int .u64 0)] 1 [(Value.int .u64 r6.Hi), (Value.int .u64 r6.Lo)] x7 fun s8 =>
          mStore (ad1.add 0) [(Sl.val s8)] <|
          rec3 (iAdd .i64 s2 1)
          ) (
          K ((some ad1), 0)
          )
        ) 0
      )
    )
def x_draws_New : Cx Try.prog := ⟨tys, [s_wide_Cut], [8, 34], [], mixed⟩
def h_draws_New : Hint := (.seq .d (.seq (.seq (.reg (.run [3, 7, 11] (.sel 11 14 28672 (.run [15, 19, 23] .nil) (.run [15, 19, 23] .nil) .nil))) .d) (.seq .d (.seq .d (.seq (.seq .d (.blk (.loop [.slot 22 (tInt .i64)] 549751619840 [] (.seq .d (.seq .d (.seq (.blk (.seq .d (.reg (.run [0, 4, 8, 12, 24, 21, 28, 18, 34, 39, 40, 44, 51] .nil)))) .d)))))) .d)))))
theorem w_draws_New : ∀ (a : Den [tSl, (tInt .i64)]) (K : Den [tPtr, (tInt .i64)] → HP) (h : H), m_draws_New a.1 a.2 K h = wpF x_draws_New Try.f28 [tSl, (tInt .i64)] [tPtr, (tInt .i64)] h_draws_New a K h := fun a K h => by kernel_rfl
def s_draws_New : Spec Try.prog := mkSpec x_draws_New 28 Try.f28 [tSl, (tInt .i64)] [tPtr, (tInt .i64)] false h_draws_New (fun a => m_draws_New a.1 a.2) w_draws_New callee28 rfl
/-! (*sesame/draws.Draws).Taken -/
def m_draws_Draws_Taken (a0 : Option Addr) (K : (Int) → H → Prop) : H → Prop :=
  mDeref a0 fun ad1 =>
  mLoad (cInt .i64) (ad1.add 1) fun x2 =>
  K x2
def x_draws_Draws_Taken : Cx Try.prog := ⟨tys, [], [], [], mixed⟩
def h_draws_Draws_Taken : Hint := .d
theorem w_draws_Draws_Taken : ∀ (a : Den [tPtr]) (K : Den [(tInt .i64)] → HP) (h : H), m_draws_Draws_Taken a K h = wpF x_draws_Draws_Taken Try.f38 [tPtr] [(tInt .i64)] h_draws_Draws_Taken a K h := fun a K h => by kernel_rfl
def s_draws_Draws_Taken : Spec Try.prog := mkSpec x_draws_Draws_Taken 38 Try.f38 [tPtr] [(tInt .i64)] false h_draws_Draws_Taken (fun a => m_draws_Draws_Taken a) w_draws_Draws_Taken callee38 rfl
/-! (sesame/draws.words).from -/
def m_draws_words_from (a0 : Sl) (a1 : Int) (K : (Sl) → H → Prop) : H → Prop :=
  mCut a0 a1 (a0.len : Int) 2 fun s1 =>
  K s1
def x_draws_words_from : Cx Try.prog := ⟨tys, [], [], [], mixed⟩
def h_draws_words_from : Hint := .d
theorem w_draws_words_from : ∀ (a : Den [tSl, (tInt .i64)]) (K : Den [tSl] → HP) (h : H), m_draws_words_from a.1 a.2 K h = wpF x_draws_words_from Try.f245 [tSl, (tInt .i64)] [tSl] h_draws_words_from a K h := fun a K h => by kernel_rfl
def s_draws_words_from : Spec Try.prog := mkSpec x_draws_words_from 245 Try.f245 [tSl, (tInt .i64)] [tSl] true h_draws_words_from (fun a => m_draws_words_from a.1 a.2) w_draws_words_from callee245 rfl
/-! (*sesame/draws.Draws).Draw -/
def m_draws_Draws_Draw (a0 : Option Addr) (K : (S_api_Word × Int) → H → Prop) : H → Prop :=
  mDeref a0 fun ad1 =>
  mDeref a0 fun ad2 =>
  mLoad cSl (ad1.add 0) fun x3 =>
  mLoad (cInt .i64) (ad2.add 1) fun x4 =>
  mPure (m_draws_words_from x3 x4) fun r5 =>
  mIf (decide ((r5.len : Int) = 0)) (
    K ((⟨0, 0⟩ : S_api_Word), 11)
    ) (
    mDeref a0 fun ad6 =>
    mLoad (cInt .i64) (ad6.add 1) fun x7 =>
    mDeref a0 fun ad8 =>
    mStore (ad8.add 1) [(Value.int .i64 (iAdd .i64 x7 1))] <|
    mIdx r5 0 2 fun ad9 =>
    mLoad S_api_Word.cells ad9 fun x10 =>
    K (x10, 0)
    )
def x_draws_Draws_Draw : Cx Try.prog := ⟨tys, [s_draws_words_from], [2], [], mixed⟩
def h_draws_Draws_Draw : Hint := (.seq .d (.seq (.reg (.run [0, 4, 8, 16, 20, 24, 14, 30, 32, 36] .nil)) .d))
theorem w_draws_Draws_Draw : ∀ (a : Den [tPtr]) (K : Den [S_api_Word.ty, (tInt .i64)] → HP) (h : H), m_draws_Draws_Draw a K h = wpF x_draws_Draws_Draw Try.f203 [tPtr] [S_api_Word.ty, (tInt .i64)] h_draws_Draws_Draw a K h := fun a K h => by kernel_rfl
def s_draws_Draws_Draw : Spec Try.prog := mkSpec x_draws_Draws_Draw 203 Try.f203 [tPtr] [S_api_Word.ty, (tInt .i64)] false h_draws_Draws_Draw (fun a => m_draws_Draws_Draw a) w_draws_Draws_Draw callee203 rfl
end Go.Proofs.Ytiajjcboddaenaa.K
