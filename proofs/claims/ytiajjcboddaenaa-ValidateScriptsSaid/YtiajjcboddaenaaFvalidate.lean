/- Functions of the program, printed by a program of mine: validate_New, validate_Validator_rights, validate_Validator_Given, validate_Validator_Named, validate_Validator_Gone, validate_lately_rights, validate_now_rights -/
import Derived.Test.YtiajjcboddaenaaT
import Derived.Test.YtiajjcboddaenaaFcache
import Derived.Test.YtiajjcboddaenaaFcatalogue
import Derived.Test.YtiajjcboddaenaaFmask
namespace Go.Proofs.Ytiajjcboddaenaa.K
open Go Go.Proofs
/-! sesame/validate.New -/
def m_validate_New (a0 : Option Addr) (a1 : Option Addr) (K : (Option Addr) → H → Prop) : H → Prop :=
  mNew 248 #[(Value.pointer a0), (Value.pointer a1)] fun ad1 =>
  K (some ad1)
def x_validate_New : Cx Try.prog := ⟨tys, [], [], [], mixed⟩
def h_validate_New : Hint := .d
theorem w_validate_New : ∀ (a : Den [tPtr, tPtr]) (K : Den [tPtr] → HP) (h : H), m_validate_New a.1 a.2 K h = wpF x_validate_New Try.f141 [tPtr, tPtr] [tPtr] h_validate_New a K h := fun a K h => by kernel_rfl
def s_validate_New : Spec Try.prog := mkSpec x_validate_New 141 Try.f141 [tPtr, tPtr] [tPtr] false h_validate_New (fun a => m_validate_New a.1 a.2) w_validate_New callee141 rfl
/-! (*sesame/validate.Validator).rights -/
def m_validate_Validator_rights (a0 : Option Addr) (a1 : S_api_Cap) (K : (Int × Bool) → H → Prop) : H → Prop :=
  mDeref a0 fun ad1 =>
  mDeref a0 fun ad2 =>
  mLoad cPtr (ad1.add 1) fun x3 =>
  mLoad cPtr (ad2.add 0) fun x4 =>
  mNew 330 #[(⟨Value.iface 325 (S_validate_lately.val (⟨x3⟩ : S_validate_lately)), rfl, rfl⟩ : PV).1, (⟨Value.iface 327 (S_validate_now.val (⟨x4⟩ : S_validate_now)), rfl, rfl⟩ : PV).1] fun ad5 =>
  mLoop (fun (rec7 : Int → H → Prop) (s6 : Int) =>
    mIf (decide (s6 < ((⟨some ad5, 2, 2⟩ : Sl).len : Int))) (
      mIdx (⟨some ad5, 2, 2⟩ : Sl) s6 1 fun ad8 =>
      mLoad cPV ad8 fun x9 =>
      mInvoke (T := Int × Bool) Try.prog (fun r => Value.tuple #[(Value.int .i64 r.1), (Value.bool r.2)]) "sesame/validate.rights" x9.1 [(S_api_Cap.val a1)] fun r10 =>
      mIf (!r10.2) (
        rec7 (iAdd .i64 s6 1)
        ) (
        mAssert S_validate_now.val (⟨none⟩ : S_validate_now) 327 x9.1 fun r11 =>
        mIf r11.2 (
          mDeref a0 fun ad12 =>
          mLoad cPtr (ad12.add 1) fun x13 =>
          m_cache_Cache_Put x13 a1 r10.1 fun _ =>
          K (r10.1, true)
          ) (
          K (r10.1, true)
          )
        )
      ) (
      K (0, false)
      )
    ) 0
def x_validate_Validator_rights : Cx Try.prog := ⟨tys, [s_cache_Cache_Put], [3], [], mixed⟩
def h_validate_Validator_rights : Hint := (.seq .d (.seq (.seq (.reg (.run [0, 4, 8, 24, 28, 32, 56, 14, 16, 20, 38, 40, 44, 50, 52] .nil)) (.blk (.loop [.slot 24 (tInt .i64)] 562949936645040 [] (.seq .d (.seq .d (.seq (.blk (.seq .d (.seq .d (.seq .d (.seq (.seq .d (.blk (.seq .d (.cond (.reg (.run [0, 4, 8, 20, 17, 14, 27] .nil)) .d)))) .d))))) .d)))))) .d))
theorem w_validate_Validator_rights : ∀ (a : Den [tPtr, S_api_Cap.ty]) (K : Den [(tInt .i64), tBool] → HP) (h : H), m_validate_Validator_rights a.1 a.2 K h = wpF x_validate_Validator_rights Try.f143 [tPtr, S_api_Cap.ty] [(tInt .i64), tBool] h_validate_Validator_rights a K h := fun a K h => by kernel_rfl
def s_validate_Validator_rights : Spec Try.prog := mkSpec x_validate_Validator_rights 143 Try.f143 [tPtr, S_api_Cap.ty] [(tInt .i64), tBool] false h_validate_Validator_rights (fun a => m_validate_Validator_rights a.1 a.2) w_validate_Validator_rights callee143 rfl
/-! (*sesame/validate.Validator).Given -/
def m_validate_Validator_Given (a0 : Option Addr) (a1 : S_api_Cap) (a2 : Int) (K : (Int) → H → Prop) : H → Prop :=
  m_validate_Validator_rights a0 a1 fun r1 =>
  mIf (!r1.2) (
    K 3
    ) (
    mPure (m_mask_Has r1.1 a2) fun r2 =>
    mIf (!r2) (
      K 4
      ) (
      K 0
      )
    )
def x_validate_Validator_Given : Cx Try.prog := ⟨tys, [s_validate_Validator_rights, s_mask_Has], [4], [], mixed⟩
def h_validate_Validator_Given : Hint := .d
theorem w_validate_Validator_Given : ∀ (a : Den [tPtr, S_api_Cap.ty, (tInt .i64)]) (K : Den [(tInt .i64)] → HP) (h : H), m_validate_Validator_Given a.1 a.2.1 a.2.2 K h = wpF x_validate_Validator_Given Try.f61 [tPtr, S_api_Cap.ty, (tInt .i64)] [(tInt .i64)] h_validate_Validator_Given a K h := fun a K h => by kernel_rfl
def s_validate_Validator_Given : Spec Try.prog := mkSpec x_validate_Validator_Given 61 Try.f61 [tPtr, S_api_Cap.ty, (tInt .i64)] [(tInt .i64)] false h_validate_Validator_Given (fun a => m_validate_Validator_Given a.1 a.2.1 a.2.2) w_validate_Validator_Given callee61 rfl
/-! (*sesame/validate.Validator).Named -/
def m_validate_Validator_Named (a0 : Option Addr) (a1 : Int) (a2 : Int) (a3 : Sl) (K : (S_api_Cap × Int) → H → Prop) : H → Prop :=
  mLoop (fun (rec2 : (Int × Int) → H → Prop) (s1 : Int × Int) =>
    mIf (decide (s1.2 < (a3.len : Int))) (
      mIdx a3 s1.2 3 fun ad3 =>
      mLoad S_api_Cap.cells ad3 fun x4 =>
      mIf (!decide (x4.Obj = a1)) (
        rec2 (s1.1, (iAdd .i64 s1.2 1))
        ) (
        m_validate_Validator_Given a0 x4 a2 fun r5 =>
        mIf (decide (r5 = 0)) (
          K (x4, 0)
          ) (
          mIf (decide (r5 = 4)) (
            rec2 (4, (iAdd .i64 s1.2 1))
            ) (
            rec2 (s1.1, (iAdd .i64 s1.2 1))
            )
          )
        )
      ) (
      K ((⟨0, ⟨0, 0⟩⟩ : S_api_Cap), s1.1)
      )
    ) (3, 0)
def x_validate_Validator_Named : Cx Try.prog := ⟨tys, [s_validate_Validator_Given], [8, 12], [], mixed⟩
def h_validate_Validator_Named : Hint := (.seq .d (.seq .d (.seq (.seq .d (.blk (.loop [.slot 10 (tInt .i64), .slot 15 (tInt .i64)] 8589907456 [] .d))) .d)))
theorem w_validate_Validator_Named : ∀ (a : Den [tPtr, (tInt .i64), (tInt .i64), tSl]) (K : Den [S_api_Cap.ty, (tInt .i64)] → HP) (h : H), m_validate_Validator_Named a.1 a.2.1 a.2.2.1 a.2.2.2 K h = wpF x_validate_Validator_Named Try.f65 [tPtr, (tInt .i64), (tInt .i64), tSl] [S_api_Cap.ty, (tInt .i64)] h_validate_Validator_Named a K h := fun a K h => by kernel_rfl
def s_validate_Validator_Named : Spec Try.prog := mkSpec x_validate_Validator_Named 65 Try.f65 [tPtr, (tInt .i64), (tInt .i64), tSl] [S_api_Cap.ty, (tInt .i64)] false h_validate_Validator_Named (fun a => m_validate_Validator_Named a.1 a.2.1 a.2.2.1 a.2.2.2) w_validate_Validator_Named callee65 rfl
/-! (*sesame/validate.Validator).Gone -/
def m_validate_Validator_Gone (a0 : Option Addr) (K : (Unit) → H → Prop) : H → Prop :=
  mDeref a0 fun ad1 =>
  mLoad cPtr (ad1.add 1) fun x2 =>
  m_cache_Cache_Turn x2 fun _ =>
  K ()
def x_validate_Validator_Gone : Cx Try.prog := ⟨tys, [s_cache_Cache_Turn], [], [], mixed⟩
def h_validate_Validator_Gone : Hint := .d
theorem w_validate_Validator_Gone : ∀ (a : Den [tPtr]) (K : Den [] → HP) (h : H), m_validate_Validator_Gone a K h = wpF x_validate_Validator_Gone Try.f60 [tPtr] [] h_validate_Validator_Gone a K h := fun a K h => by kernel_rfl
def s_validate_Validator_Gone : Spec Try.prog := mkSpec x_validate_Validator_Gone 60 Try.f60 [tPtr] [] false h_validate_Validator_Gone (fun a => m_validate_Validator_Gone a) w_validate_Validator_Gone callee60 rfl
/-! (sesame/validate.lately).rights -/
def m_validate_lately_rights (a0 : S_validate_lately) (a1 : S_api_Cap) (K : (Int × Bool) → H → Prop) : H → Prop :=
  m_cache_Cache_Get a0.xk a1 fun r1 =>
  K (r1.1, r1.2)
def x_validate_lately_rights : Cx Try.prog := ⟨tys, [s_cache_Cache_Get], [2, 3], [], mixed⟩
def h_validate_lately_rights : Hint := .d
theorem w_validate_lately_rights : ∀ (a : Den [S_validate_lately.ty, S_api_Cap.ty]) (K : Den [(tInt .i64), tBool] → HP) (h : H), m_validate_lately_rights a.1 a.2 K h = wpF x_validate_lately_rights Try.f299 [S_validate_lately.ty, S_api_Cap.ty] [(tInt .i64), tBool] h_validate_lately_rights a K h := fun a K h => by kernel_rfl
def s_validate_lately_rights : Spec Try.prog := mkSpec x_validate_lately_rights 299 Try.f299 [S_validate_lately.ty, S_api_Cap.ty] [(tInt .i64), tBool] false h_validate_lately_rights (fun a => m_validate_lately_rights a.1 a.2) w_validate_lately_rights callee299 rfl
/-! (sesame/validate.now).rights -/
def m_validate_now_rights (a0 : S_validate_now) (a1 : S_api_Cap) (K : (Int × Bool) → H → Prop) : H → Prop :=
  m_catalogue_Catalogue_Find a0.xc a1 fun r1 =>
  mIf (!r1.2) (
    K (0, false)
    ) (
    m_catalogue_Catalogue_At a0.xc r1.1 fun r2 =>
    K (r2.1.Rights, r2.2)
    )
def x_validate_now_rights : Cx Try.prog := ⟨tys, [s_catalogue_Catalogue_At, s_catalogue_Catalogue_Find], [2, 3, 8], [], mixed⟩
def h_validate_now_rights : Hint := .d
theorem w_validate_now_rights : ∀ (a : Den [S_validate_now.ty, S_api_Cap.ty]) (K : Den [(tInt .i64), tBool] → HP) (h : H), m_validate_now_rights a.1 a.2 K h = wpF x_validate_now_rights Try.f301 [S_validate_now.ty, S_api_Cap.ty] [(tInt .i64), tBool] h_validate_now_rights a K h := fun a K h => by kernel_rfl
def s_validate_now_rights : Spec Try.prog := mkSpec x_validate_now_rights 301 Try.f301 [S_validate_now.ty, S_api_Cap.ty] [(tInt .i64), tBool] false h_validate_now_rights (fun a => m_validate_now_rights a.1 a.2) w_validate_now_rights callee301 rfl
end Go.Proofs.Ytiajjcboddaenaa.K
