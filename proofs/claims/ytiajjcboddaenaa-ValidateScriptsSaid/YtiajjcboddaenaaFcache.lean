/- Functions of the program, printed by a program of mine: cache_New, cache_Cache_of, cache_Cache_known, cache_Cache_find, cache_Cache_room, cache_Cache_Put, cache_Cache_Turn, cache_Cache_Get -/
import Derived.Test.YtiajjcboddaenaaT
import Derived.Test.YtiajjcboddaenaaFmix
namespace Go.Proofs.Ytiajjcboddaenaa.K
open Go Go.Proofs
/-! sesame/cache.New -/
def m_cache_New (a0 : Int) (a1 : Int) (a2 : Int) (K : (Option Addr × Int) → H → Prop) : H → Prop :=
  mIf ((((((decide (a0 < 0)) || (decide (16 < a0))) || (decide (a1 < 1))) || (decide (4 < a1))) || (decide (a2 < 0))) || (decide (64 < a2))) (
    K (none, 16)
    ) (
    mNew 323 ([(Value.int .i64 a0), (Value.int .i64 a1), (Value.int .i64 a2), (Value.bool false), (Value.int .i64 0), (Value.int .u64 0), (Value.int .u64 0), (Value.int .i64 0), (Value.int .i64 0), (Value.int .i64 0), (Value.bool false), (Value.int .i64 0), (Value.int .u64 0), (Value.int .u64 0), (Value.int .i64 0), (Value.int .i64 0), (Value.int .i64 0), (Value.bool false), (Value.int .i64 0), (Value.int .u64 0), (Value.int .u64 0), (Value.int .i64 0), (Value.int .i64 0), (Value.int .i64 0), (Value.bool false), (Value.int .i64 0), (Value.int .u64 0), (Value.int .u64 0), (Value.int .i64 0), (Value.int .i64 0), (Value.int .i64 0), (Value.bool false), (Value.int .i64 0), (Value.int .u64 0), (Value.int .u64 0), (Value.int .i64 0), (Value.int .i64 0), (Value.int .i64 0), (Value.bool false), (Value.int .i64 0), (Value.int .u64 0), (Value.int .u64 0), (Value.int .i64 0), (Value.int .i64 0), (Value.int .i64 0), (Value.bool false), (Value.int .i64 0), (Value.int .u64 0), (Value.int .u64 0), (Value.int .i64 0), (Value.int .i64 0), (Value.int .i64 0), (Value.bool false), (Value.int .i64 0), (Value.int .u64 0), (Value.int .u64 0), (Value.int .i64 0), (Value.int .i64 0), (Value.int .i64 0), (Value.bool false), (Value.int .i64 0), (Value.int .u64 0), (Value.int .u64 0), (Value.int .i64 0), (Value.int .i64 0), (Value.int .i64 0), (Value.bool false), (Value.int .i64 0), (Value.int .u64 0), (Value.int .u64 0), (Value.int .i64 0), (Value.int .i64 0), (Value.int .i64 0), (Value.bool false), (Value.int .i64 0), (Value.int .u64 0), (Value.int .u64 0), (Value.int .i64 0), (Value.int .i64 0), (Value.int .i64 0), (Value.bool false), (Value.int .i64 0), (Value.int .u64 0), (Value.int .u64 0), (Value.int .i64 0), (Value.int .i64 0), (Value.int .i64 0), (Value.bool false), (Value.int .i64 0), (Value.int .u64 0), (Value.int .u64 0), (Value.int .i64 0), (Value.int .i64 0), (Value.int .i64 0), (Value.bool false), (Value.int .i64 0), (Value.int .u64 0), (Value.int .u64 0), (Value.int .i64 0), (Value.int .i64 0), (Value.int .i64 0), (Value.bool false), (Value.int .i64 0), (Value.int .u64 0), (Value.int .u64 0), (Value.int .i64 0), (Value.int .i64 0), (Value.int .i64 0), (Value.bool false), (Value.int .i64 0), (Value.int .u64 0), (Value.int .u64 0), (Value.int .i64 0), (Value.int .i64 0), (Value.int .i64 0), (Value.bool false), (Value.int .i64 0), (Value.int .u64 0), (Value.int .u64 0), (Value.int .i64 0), (Value.int .i64 0), (Value.int .i64 0), (Value.bool false), (Value.int .i64 0), (Value.int .u64 0), (Value.int .u64 0), (Value.int .i64 0), (Value.int .i64 0), (Value.int .i64 0), (Value.bool false), (Value.int .i64 0), (Value.int .u64 0), (Value.int .u64 0), (Value.int .i64 0), (Value.int .i64 0), (Value.int .i64 0), (Value.bool false), (Value.int .i64 0), (Value.int .u64 0), (Value.int .u64 0), (Value.int .i64 0), (Value.int .i64 0), (Value.int .i64 0), (Value.bool false), (Value.int .i64 0), (Value.int .u64 0), (Value.int .u64 0), (Value.int .i64 0), (Value.int .i64 0), (Value.int .i64 0), (Value.bool false), (Value.int .i64 0), (Value.int .u64 0), (Value.int .u64 0), (Value.int .i64 0), (Value.int .i64 0), (Value.int .i64 0), (Value.bool false), (Value.int .i64 0), (Value.int .u64 0), (Value.int .u64 0), (Value.int .i64 0), (Value.int .i64 0), (Value.int .i64 0), (Value.bool false), (Value.int .i64 0), (Value.int .u64 0), (Value.int .u64 0), (Value.int .i64 0), (Value.int .i64 0), (Value.int .i64 0), (Value.bool false), (Value.int .i64 0), (Value.int .u64 0), (Value.int .u64 0), (Value.int .i64 0), (Value.int .i64 0), (Value.int .i64 0), (Value.bool false), (Value.int .i64 0), (Value.int .u64 0), (Value.int .u64 0), (Value.int .i64 0), (Value.int .i64 0), (Value.int .i64 0), (Value.bool false), (Value.int .i64 0), (Value.int .u64 0), (Value.int .u64 0), (Value.int .i64 0), (Value.int .i64 0), (Value.int .i64 0), (Value.bool false), (Value.int .i64 0), (Value.int .u64 0), (Value.int .u64 0), (Value.int .i64 0), (Value.int .i64 0), (Value.int .i64 0), (Value.bool false), (Value.int .i64 0), (Value.int .u64 0), (Value.int .u64 0), (Value.int .i64 0), (Value.int .i64 0), (Value.int .i64 0), (Value.bool false), (Value.int .i64 0), (Value.int .u64 0), (Value.int .u64 0), (Value.int .i64 0), (Value.int .i64 0), (Value.int .i64 0), (Value.bool false), (Value.int .i64 0), (Value.int .u64 0), (Value.int .u64 0), (Value.int .i64 0), (Value.int .i64 0), (Value.int .i64 0), (Value.bool false), (Value.int .i64 0), (Value.int .u64 0), (Value.int .u64 0), (Value.int .i64 0), (Value.int .i64 0), (Value.int .i64 0), (Value.bool false), (Value.int .i64 0), (Value.int .u64 0), (Value.int .u64 0), (Value.int .i64 0), (Value.int .i64 0), (Value.int .i64 0), (Value.bool false), (Value.int .i64 0), (Value.int .u64 0), (Value.int .u64 0), (Value.int .i64 0), (Value.int .i64 0), (Value.int .i64 0), (Value.bool false), (Value.int .i64 0), (Value.int .u64 0), (Value.int .u64 0), (Value.int .i64 0), (Value.int .i64 0), (Value.int .i64 0), (Value.bool false), (Value.int .i64 0), (Value.int .u64 0), (Value.int .u64 0), (Value.int .i64 0), (Value.int .i64 0), (Value.int .i64 0), (Value.bool false), (Value.int .i64 0), (Value.int .u64 0), (Value.int .u64 0), (Value.int .i64 0), (Value.int .i64 0), (Value.int .i64 0), (Value.bool false), (Value.int .i64 0), (Value.int .u64 0), (Value.int .u64 0), (Value.int .i64 0), (Value.int .i64 0), (Value.int .i64 0), (Value.bool false), (Value.int .i64 0), (Value.int .u64 0), (Value.int .u64 0), (Value.int .i64 0), (Value.int .i64 0), (Value.int .i64 0), (Value.bool false), (Value.int .i64 0), (Value.int .u64 0), (Value.int .u64 0), (Value.int .i64 0), (Value.int .i64 0), (Value.int .i64 0), (Value.bool false), (Value.int .i64 0), (Value.int .u64 0), (Value.int .u64 0), (Value.int .i64 0), (Value.int .i64 0), (Value.int .i64 0), (Value.bool false), (Value.int .i64 0), (Value.int .u64 0), (Value.int .u64 0), (Value.int .i64 0), (Value.int .i64 0), (Value.int .i64 0), (Value.bool false), (Value.int .i64 0), (Value.int .u64 0), (Value.int .u64 0), (Value.int .i64 0), (Value.int .i64 0), (Value.int .i64 0), (Value.bool false), (Value.int .i64 0), (Value.int .u64 0), (Value.int .u64 0), (Value.int .i64 0), (Value.int .i64 0), (Value.int .i64 0), (Value.bool false), (Value.int .i64 0), (Value.int .u64 0), (Value.int .u64 0), (Value.int .i64 0), (Value.int .i64 0), (Value.int .i64 0), (Value.bool false), (Value.int .i64 0), (Value.int .u64 0), (Value.int .u64 0), (Value.int .i64 0), (Value.int .i64 0), (Value.int .i64 0), (Value.bool false), (Value.int .i64 0), (Value.int .u64 0), (Value.int .u64 0), (Value.int .i64 0), (Value.int .i64 0), (Value.int .i64 0), (Value.bool false), (Value.int .i64 0), (Value.int .u64 0), (Value.int .u64 0), (Value.int .i64 0), (Value.int .i64 0), (Value.int .i64 0), (Value.bool false), (Value.int .i64 0), (Value.int .u64 0), (Value.int .u64 0), (Value.int .i64 0), (Value.int .i64 0), (Value.int .i64 0), (Value.bool false), (Value.int .i64 0), (Value.int .u64 0), (Value.int .u64 0), (Value.int .i64 0), (Value.int .i64 0), (Value.int .i64 0), (Value.bool false), (Value.int .i64 0), (Value.int .u64 0), (Value.int .u64 0), (Value.int .i64 0), (Value.int .i64 0), (Value.int .i64 0), (Value.bool false), (Value.int .i64 0), (Value.int .u64 0), (Value.int .u64 0), (Value.int .i64 0), (Value.int .i64 0), (Value.int .i64 0), (Value.bool false), (Value.int .i64 0), (Value.int .u64 0), (Value.int .u64 0), (Value.int .i64 0), (Value.int .i64 0), (Value.int .i64 0), (Value.bool false), (Value.int .i64 0), (Value.int .u64 0), (Value.int .u64 0), (Value.int .i64 0), (Value.int .i64 0), (Value.int .i64 0), (Value.bool false), (Value.int .i64 0), (Value.int .u64 0), (Value.int .u64 0), (Value.int .i64 0), (Value.int .i64 0), (Value.int .i64 0), (Value.bool false), (Value.int .i64 0), (Value.int .u64 0), (Value.int .u64 0), (Value.int .i64 0), (Value.int .i64 0), (Value.int .i64 0), (Value.bool false), (Value.int .i64 0), (Value.int .u64 0), (Value.int .u64 0), (Value.int .i64 0), (Value.int .i64 0), (Value.int .i64 0), (Value.bool false), (Value.int .i64 0), (Value.int .u64 0), (Value.int .u64 0), (Value.int .i64 0), (Value.int .i64 0), (Value.int .i64 0), (Value.bool false), (Value.int .i64 0), (Value.int .u64 0), (Value.int .u64 0), (Value.int .i64 0), (Value.int .i64 0), (Value.int .i64 0), (Value.bool false), (Value.int .i64 0), (Value.int .u64 0), (Value.int .u64 0), (Value.int .i64 0), (Value.int .i64 0), (Value.int .i64 0), (Value.bool false), (Value.int .i64 0), (Value.int .u64 0), (Value.int .u64 0), (Value.int .i64 0), (Value.int .i64 0), (Value.int .i64 0), (Value.bool false), (Value.int .i64 0), (Value.int .u64 0), (Value.int .u64 0), (Value.int .i64 0), (Value.int .i64 0), (Value.int .i64 0), (Value.bool false), (Value.int .i64 0), (Value.int .u64 0), (Value.int .u64 0), (Value.int .i64 0), (Value.int .i64 0), (Value.int .i64 0), (Value.bool false), (Value.int .i64 0), (Value.int .u64 0), (Value.int .u64 0), (Value.int .i64 0), (Value.int .i64 0), (Value.int .i64 0), (Value.int .i64 0), (Value.int .i64 0), (Value.int .i64 0), (Value.int .i64 0)]).toArray fun ad1 =>
    K ((some ad1), 0)
    )
def x_cache_New : Cx Try.prog := ⟨tys, [], [], [], mixed⟩
def h_cache_New : Hint := (.seq .d (.seq (.seq (.reg (.run [3, 7, 11] (.sel 10 13 14336 (.run [15, 19, 23] .nil) (.run [15, 19, 23] .nil) (.run [27] (.sel 14 17 229376 (.run [31, 35, 39] .nil) (.run [31, 35, 39] .nil) (.run [43] (.sel 18 21 3670016 (.run [47, 51, 55] .nil) (.run [47, 51, 55] .nil) (.run [59] (.sel 22 25 58720256 (.run [63, 67, 71] .nil) (.run [63, 67, 71] .nil) (.run [75] (.sel 26 29 939524096 (.run [79, 83, 87] .nil) (.run [79, 83, 87] .nil) .nil))))))))))) .d) .d))
theorem w_cache_New : ∀ (a : Den [(tInt .i64), (tInt .i64), (tInt .i64)]) (K : Den [tPtr, (tInt .i64)] → HP) (h : H), m_cache_New a.1 a.2.1 a.2.2 K h = wpF x_cache_New Try.f140 [(tInt .i64), (tInt .i64), (tInt .i64)] [tPtr, (tInt .i64)] h_cache_New a K h := fun a K h => by kernel_rfl
def s_cache_New : Spec Try.prog := mkSpec x_cache_New 140 Try.f140 [(tInt .i64), (tInt .i64), (tInt .i64)] [tPtr, (tInt .i64)] false h_cache_New (fun a => m_cache_New a.1 a.2.1 a.2.2) w_cache_New callee140 rfl
/-! (*sesame/cache.Cache).of -/
def m_cache_Cache_of (a0 : Option Addr) (a1 : S_api_Cap) (K : (Int) → H → Prop) : H → Prop :=
  mDeref a0 fun ad1 =>
  mDeref a0 fun ad2 =>
  mLoad (cInt .i64) (ad1.add 2) fun x3 =>
  mPure (m_mix_Hash a1.Obj a1.Pass x3) fun r4 =>
  mLoad (cInt .i64) (ad2.add 0) fun x5 =>
  mNZ (IntKind.wrap .u64 x5) <|
  K (IntKind.wrap .i64 (iRem .u64 r4 (IntKind.wrap .u64 x5)))
def x_cache_Cache_of : Cx Try.prog := ⟨tys, [s_mix_Hash], [3], [], mixed⟩
def h_cache_Cache_of : Hint := (.seq .d (.seq (.reg (.run [0, 8, 16, 20, 24, 36, 40, 44, 5, 13, 30, 32, 50, 52, 56, 60, 64] .nil)) .d))
theorem w_cache_Cache_of : ∀ (a : Den [tPtr, S_api_Cap.ty]) (K : Den [(tInt .i64)] → HP) (h : H), m_cache_Cache_of a.1 a.2 K h = wpF x_cache_Cache_of Try.f249 [tPtr, S_api_Cap.ty] [(tInt .i64)] h_cache_Cache_of a K h := fun a K h => by kernel_rfl
def s_cache_Cache_of : Spec Try.prog := mkSpec x_cache_Cache_of 249 Try.f249 [tPtr, S_api_Cap.ty] [(tInt .i64)] false h_cache_Cache_of (fun a => m_cache_Cache_of a.1 a.2) w_cache_Cache_of callee249 rfl
/-! (*sesame/cache.Cache).known -/
def m_cache_Cache_known (a0 : Option Addr) (a1 : S_cache_place) (K : (Bool) → H → Prop) : H → Prop :=
  mIf a1.xput (
    mDeref a0 fun ad3 =>
    mLoad (cInt .i64) (ad3.add 451) fun x4 =>
    K (decide (a1.xepoch = x4))
    ) (
    K false
    )
def x_cache_Cache_known : Cx Try.prog := ⟨tys, [], [3], [], mixed⟩
def h_cache_Cache_known : Hint := (.seq .d (.seq (.reg (.run [0, 5, 8] (.split 7 (.run [12, 20, 24, 28, 17, 34, 36, 40, 44] .nil) (.run [12, 16, 20, 24, 28, 32, 36, 40, 44] .nil)))) .d))
theorem w_cache_Cache_known : ∀ (a : Den [tPtr, S_cache_place.ty]) (K : Den [tBool] → HP) (h : H), m_cache_Cache_known a.1 a.2 K h = wpF x_cache_Cache_known Try.f263 [tPtr, S_cache_place.ty] [tBool] h_cache_Cache_known a K h := fun a K h => by kernel_rfl
def s_cache_Cache_known : Spec Try.prog := mkSpec x_cache_Cache_known 263 Try.f263 [tPtr, S_cache_place.ty] [tBool] false h_cache_Cache_known (fun a => m_cache_Cache_known a.1 a.2) w_cache_Cache_known callee263 rfl
/-! (*sesame/cache.Cache).find -/
def m_cache_Cache_find (a0 : Option Addr) (a1 : S_cache_set) (a2 : S_api_Cap) (K : (Int × Bool) → H → Prop) : H → Prop :=
  mNew 319 #[(Value.bool a1.xe0.xput), (Value.int .i64 a1.xe0.xcap.Obj), (Value.int .u64 a1.xe0.xcap.Pass.Hi), (Value.int .u64 a1.xe0.xcap.Pass.Lo), (Value.int .i64 a1.xe0.xrights), (Value.int .i64 a1.xe0.xepoch), (Value.int .i64 a1.xe0.xage), (Value.bool a1.xe1.xput), (Value.int .i64 a1.xe1.xcap.Obj), (Value.int .u64 a1.xe1.xcap.Pass.Hi), (Value.int .u64 a1.xe1.xcap.Pass.Lo), (Value.int .i64 a1.xe1.xrights), (Value.int .i64 a1.xe1.xepoch), (Value.int .i64 a1.xe1.xage), (Value.bool a1.xe2.xput), (Value.int .i64 a1.xe2.xcap.Obj), (Value.int .u64 a1.xe2.xcap.Pass.Hi), (Value.int .u64 a1.xe2.xcap.Pass.Lo), (Value.int .i64 a1.xe2.xrights), (Value.int .i64 a1.xe2.xepoch), (Value.int .i64 a1.xe2.xage), (Value.bool a1.xe3.xput), (Value.int .i64 a1.xe3.xcap.Obj), (Value.int .u64 a1.xe3.xcap.Pass.Hi), (Value.int .u64 a1.xe3.xcap.Pass.Lo), (Value.int .i64 a1.xe3.xrights), (Value.int .i64 a1.xe3.xepoch), (Value.int .i64 a1.xe3.xage)] fun ad1 =>
  mDeref a0 fun ad2 =>
  mLoad (cInt .i64) (ad2.add 1) fun x3 =>
  mLoop (fun (rec5 : Int → H → Prop) (s4 : Int) =>
    mIf (decide (s4 < x3)) (
      mIdx (⟨some ad1, 4, 4⟩ : Sl) s4 7 fun ad6 =>
      mLoad S_cache_place.cells ad6 fun x7 =>
      m_cache_Cache_known a0 x7 fun r8 =>
      mJoin (fun (s11 : Bool) =>
        mIf s11 (
          K (s4, true)
          ) (
          rec5 (iAdd .i64 s4 1)
          )
        ) (fun j12 =>
        mIf r8 (
          mIdx (⟨some ad1, 4, 4⟩ : Sl) s4 7 fun ad13 =>
          mLoad S_api_Cap.cells (ad13.add 1) fun x14 =>
          j12 ((decide (x14.Obj = a2.Obj)) && (((decide (x14.Pass.Hi = a2.Pass.Hi)) && ((decide (x14.Pass.Lo = a2.Pass.Lo)) && true)) && true))
          ) (
          j12 false
          ))
      ) (
      K (0, false)
      )
    ) 0
def x_cache_Cache_find : Cx Try.prog := ⟨tys, [s_cache_Cache_known], [5], [], mixed⟩
def h_cache_Cache_find : Hint := (.seq .d (.seq (.seq .d (.blk (.loop [.slot 13 (tInt .i64)] 2147475904 [] (.seq .d (.seq .d (.seq (.blk (.seq .d (.seq (.reg (.run [0, 4, 8, 14, 19, 20] (.join [.slot 28 tBool] 532676608 [] (.split 21 (.run [24, 28, 32, 41, 38, 44, 48] .nil) (.run [24, 28, 32, 36, 40, 44, 48] .nil)) .nil))) .d))) .d)))))) .d))
theorem w_cache_Cache_find : ∀ (a : Den [tPtr, S_cache_set.ty, S_api_Cap.ty]) (K : Den [(tInt .i64), tBool] → HP) (h : H), m_cache_Cache_find a.1 a.2.1 a.2.2 K h = wpF x_cache_Cache_find Try.f250 [tPtr, S_cache_set.ty, S_api_Cap.ty] [(tInt .i64), tBool] h_cache_Cache_find a K h := fun a K h => by kernel_rfl
def s_cache_Cache_find : Spec Try.prog := mkSpec x_cache_Cache_find 250 Try.f250 [tPtr, S_cache_set.ty, S_api_Cap.ty] [(tInt .i64), tBool] false h_cache_Cache_find (fun a => m_cache_Cache_find a.1 a.2.1 a.2.2) w_cache_Cache_find callee250 rfl
/-! (*sesame/cache.Cache).room -/
def m_cache_Cache_room (a0 : Option Addr) (a1 : S_cache_set) (K : (Int) → H → Prop) : H → Prop :=
  mNew 319 #[(Value.bool a1.xe0.xput), (Value.int .i64 a1.xe0.xcap.Obj), (Value.int .u64 a1.xe0.xcap.Pass.Hi), (Value.int .u64 a1.xe0.xcap.Pass.Lo), (Value.int .i64 a1.xe0.xrights), (Value.int .i64 a1.xe0.xepoch), (Value.int .i64 a1.xe0.xage), (Value.bool a1.xe1.xput), (Value.int .i64 a1.xe1.xcap.Obj), (Value.int .u64 a1.xe1.xcap.Pass.Hi), (Value.int .u64 a1.xe1.xcap.Pass.Lo), (Value.int .i64 a1.xe1.xrights), (Value.int .i64 a1.xe1.xepoch), (Value.int .i64 a1.xe1.xage), (Value.bool a1.xe2.xput), (Value.int .i64 a1.xe2.xcap.Obj), (Value.int .u64 a1.xe2.xcap.Pass.Hi), (Value.int .u64 a1.xe2.xcap.Pass.Lo), (Value.int .i64 a1.xe2.xrights), (Value.int .i64 a1.xe2.xepoch), (Value.int .i64 a1.xe2.xage), (Value.bool a1.xe3.xput), (Value.int .i64 a1.xe3.xcap.Obj), (Value.int .u64 a1.xe3.xcap.Pass.Hi), (Value.int .u64 a1.xe3.xcap.Pass.Lo), (Value.int .i64 a1.xe3.xrights), (Value.int .i64 a1.xe3.xepoch), (Value.int .i64 a1.xe3.xage)] fun ad1 =>
  mDeref a0 fun ad2 =>
  mLoad (cInt .i64) (ad2.add 1) fun x3 =>
  mLoop (fun (rec5 : (Int × Int) → H → Prop) (s4 : Int × Int) =>
    mIf (decide (s4.2 < x3)) (
      mIdx (⟨some ad1, 4, 4⟩ : Sl) s4.2 7 fun ad6 =>
      mLoad S_cache_place.cells ad6 fun x7 =>
      m_cache_Cache_known a0 x7 fun r8 =>
      mIf (!r8) (
        K s4.2
        ) (
        mIdx (⟨some ad1, 4, 4⟩ : Sl) s4.2 7 fun ad9 =>
        mIdx (⟨some ad1, 4, 4⟩ : Sl) s4.1 7 fun ad10 =>
        mLoad (cInt .i64) (ad9.add 6) fun x11 =>
        mLoad (cInt .i64) (ad10.add 6) fun x12 =>
        mIf (decide (x11 < x12)) (
          rec5 (s4.2, (iAdd .i64 s4.2 1))
          ) (
          rec5 (s4.1, (iAdd .i64 s4.2 1))
          )
        )
      ) (
      K s4.1
      )
    ) (0, 0)
def x_cache_Cache_room : Cx Try.prog := ⟨tys, [s_cache_Cache_known], [], [], mixed⟩
def h_cache_Cache_room : Hint := (.seq .d (.seq .d (.seq (.seq .d (.blk (.loop [.slot 5 (tInt .i64), .slot 11 (tInt .i64)] 4294965360 [] (.seq .d (.seq .d (.seq (.blk (.seq .d (.seq .d (.seq (.reg (.run [0, 4, 8, 16, 20, 24, 14, 30, 32] .nil)) .d)))) .d)))))) .d)))
theorem w_cache_Cache_room : ∀ (a : Den [tPtr, S_cache_set.ty]) (K : Den [(tInt .i64)] → HP) (h : H), m_cache_Cache_room a.1 a.2 K h = wpF x_cache_Cache_room Try.f251 [tPtr, S_cache_set.ty] [(tInt .i64)] h_cache_Cache_room a K h := fun a K h => by kernel_rfl
def s_cache_Cache_room : Spec Try.prog := mkSpec x_cache_Cache_room 251 Try.f251 [tPtr, S_cache_set.ty] [(tInt .i64)] false h_cache_Cache_room (fun a => m_cache_Cache_room a.1 a.2) w_cache_Cache_room callee251 rfl
/-! (*sesame/cache.Cache).Put -/
def m_cache_Cache_Put (a0 : Option Addr) (a1 : S_api_Cap) (a2 : Int) (K : (Unit) → H → Prop) : H → Prop :=
  mDeref a0 fun ad1 =>
  mLoad (cInt .i64) (ad1.add 0) fun x2 =>
  mIf (decide (x2 = 0)) (
    K ()
    ) (
    m_cache_Cache_of a0 a1 fun r3 =>
    mDeref a0 fun ad4 =>
    mIdx (⟨some (ad4.add 3), 16, 16⟩ : Sl) r3 28 fun ad5 =>
    mLoad S_cache_set.cells ad5 fun x6 =>
    m_cache_Cache_find a0 x6 a1 fun r7 =>
    mJoin (fun (s8 : Int) =>
      mDeref a0 fun ad10 =>
      mLoad (cInt .i64) (ad10.add 452) fun x11 =>
      mDeref a0 fun ad12 =>
      mStore (ad12.add 452) [(Value.int .i64 (iAdd .i64 x11 1))] <|
      mDeref a0 fun ad13 =>
      mDeref a0 fun ad14 =>
      mDeref a0 fun ad15 =>
      mIdx (⟨some (ad15.add 3), 16, 16⟩ : Sl) r3 28 fun ad16 =>
      mLoad (cInt .i64) (ad13.add 451) fun x17 =>
      mLoad (cInt .i64) (ad14.add 452) fun x18 =>
      mIdx (⟨some ad16, 4, 4⟩ : Sl) s8 7 fun ad19 =>
      mStore ad19 [(Value.bool true), (Value.int .i64 a1.Obj), (Value.int .u64 a1.Pass.Hi), (Value.int .u64 a1.Pass.Lo), (Value.int .i64 a2), (Value.int .i64 x17), (Value.int .i64 x18)] <|
      K ()
      ) (fun j9 =>
      mIf (!r7.2) (
        mDeref a0 fun ad20 =>
        mIdx (⟨some (ad20.add 3), 16, 16⟩ : Sl) r3 28 fun ad21 =>
        mLoad S_cache_set.cells ad21 fun x22 =>
        m_cache_Cache_room a0 x22 fun r23 =>
        j9 r23
        ) (
        j9 r7.1
        )
      )
    )
def x_cache_Cache_Put : Cx Try.prog := ⟨tys, [s_cache_Cache_of, s_cache_Cache_find, s_cache_Cache_room], [4], [], mixed⟩
def h_cache_Cache_Put : Hint := (.seq .d (.seq .d (.seq .d (.seq (.reg (.run [0, 4, 8, 12, 16, 20, 29, 26, 35, 36, 40, 44, 48, 52] .nil)) (.join [.slot 7 (tInt .i64)] 549218943104 [] .d (.seq .d (.reg (.run [0, 4, 8, 16, 20, 24, 28, 36, 40, 44, 56, 60, 64, 13, 34, 50, 52, 68, 75] .nil))))))))
theorem w_cache_Cache_Put : ∀ (a : Den [tPtr, S_api_Cap.ty, (tInt .i64)]) (K : Den [] → HP) (h : H), m_cache_Cache_Put a.1 a.2.1 a.2.2 K h = wpF x_cache_Cache_Put Try.f212 [tPtr, S_api_Cap.ty, (tInt .i64)] [] h_cache_Cache_Put a K h := fun a K h => by kernel_rfl
def s_cache_Cache_Put : Spec Try.prog := mkSpec x_cache_Cache_Put 212 Try.f212 [tPtr, S_api_Cap.ty, (tInt .i64)] [] false h_cache_Cache_Put (fun a => m_cache_Cache_Put a.1 a.2.1 a.2.2) w_cache_Cache_Put callee212 rfl
/-! (*sesame/cache.Cache).Turn -/
def m_cache_Cache_Turn (a0 : Option Addr) (K : (Unit) → H → Prop) : H → Prop :=
  mDeref a0 fun ad1 =>
  mLoad (cInt .i64) (ad1.add 451) fun x2 =>
  mDeref a0 fun ad3 =>
  mStore (ad3.add 451) [(Value.int .i64 (iAdd .i64 x2 1))] <|
  mDeref a0 fun ad4 =>
  mLoad (cInt .i64) (ad4.add 451) fun x5 =>
  mIf (decide (255 < x5)) (
    mDeref a0 fun ad6 =>
    mStore (ad6.add 451) [(Value.int .i64 0)] <|
    mDeref a0 fun ad7 =>
    mStore (ad7.add 3) ([(Value.bool false), (Value.int .i64 0), (Value.int .u64 0), (Value.int .u64 0), (Value.int .i64 0), (Value.int .i64 0), (Value.int .i64 0), (Value.bool false), (Value.int .i64 0), (Value.int .u64 0), (Value.int .u64 0), (Value.int .i64 0), (Value.int .i64 0), (Value.int .i64 0), (Value.bool false), (Value.int .i64 0), (Value.int .u64 0), (Value.int .u64 0), (Value.int .i64 0), (Value.int .i64 0), (Value.int .i64 0), (Value.bool false), (Value.int .i64 0), (Value.int .u64 0), (Value.int .u64 0), (Value.int .i64 0), (Value.int .i64 0), (Value.int .i64 0), (Value.bool false), (Value.int .i64 0), (Value.int .u64 0), (Value.int .u64 0), (Value.int .i64 0), (Value.int .i64 0), (Value.int .i64 0), (Value.bool false), (Value.int .i64 0), (Value.int .u64 0), (Value.int .u64 0), (Value.int .i64 0), (Value.int .i64 0), (Value.int .i64 0), (Value.bool false), (Value.int .i64 0), (Value.int .u64 0), (Value.int .u64 0), (Value.int .i64 0), (Value.int .i64 0), (Value.int .i64 0), (Value.bool false), (Value.int .i64 0), (Value.int .u64 0), (Value.int .u64 0), (Value.int .i64 0), (Value.int .i64 0), (Value.int .i64 0), (Value.bool false), (Value.int .i64 0), (Value.int .u64 0), (Value.int .u64 0), (Value.int .i64 0), (Value.int .i64 0), (Value.int .i64 0), (Value.bool false), (Value.int .i64 0), (Value.int .u64 0), (Value.int .u64 0), (Value.int .i64 0), (Value.int .i64 0), (Value.int .i64 0), (Value.bool false), (Value.int .i64 0), (Value.int .u64 0), (Value.int .u64 0), (Value.int .i64 0), (Value.int .i64 0), (Value.int .i64 0), (Value.bool false), (Value.int .i64 0), (Value.int .u64 0), (Value.int .u64 0), (Value.int .i64 0), (Value.int .i64 0), (Value.int .i64 0), (Value.bool false), (Value.int .i64 0), (Value.int .u64 0), (Value.int .u64 0), (Value.int .i64 0), (Value.int .i64 0), (Value.int .i64 0), (Value.bool false), (Value.int .i64 0), (Value.int .u64 0), (Value.int .u64 0), (Value.int .i64 0), (Value.int .i64 0), (Value.int .i64 0), (Value.bool false), (Value.int .i64 0), (Value.int .u64 0), (Value.int .u64 0), (Value.int .i64 0), (Value.int .i64 0), (Value.int .i64 0), (Value.bool false), (Value.int .i64 0), (Value.int .u64 0), (Value.int .u64 0), (Value.int .i64 0), (Value.int .i64 0), (Value.int .i64 0), (Value.bool false), (Value.int .i64 0), (Value.int .u64 0), (Value.int .u64 0), (Value.int .i64 0), (Value.int .i64 0), (Value.int .i64 0), (Value.bool false), (Value.int .i64 0), (Value.int .u64 0), (Value.int .u64 0), (Value.int .i64 0), (Value.int .i64 0), (Value.int .i64 0), (Value.bool false), (Value.int .i64 0), (Value.int .u64 0), (Value.int .u64 0), (Value.int .i64 0), (Value.int .i64 0), (Value.int .i64 0), (Value.bool false), (Value.int .i64 0), (Value.int .u64 0), (Value.int .u64 0), (Value.int .i64 0), (Value.int .i64 0), (Value.int .i64 0), (Value.bool false), (Value.int .i64 0), (Value.int .u64 0), (Value.int .u64 0), (Value.int .i64 0), (Value.int .i64 0), (Value.int .i64 0), (Value.bool false), (Value.int .i64 0), (Value.int .u64 0), (Value.int .u64 0), (Value.int .i64 0), (Value.int .i64 0), (Value.int .i64 0), (Value.bool false), (Value.int .i64 0), (Value.int .u64 0), (Value.int .u64 0), (Value.int .i64 0), (Value.int .i64 0), (Value.int .i64 0), (Value.bool false), (Value.int .i64 0), (Value.int .u64 0), (Value.int .u64 0), (Value.int .i64 0), (Value.int .i64 0), (Value.int .i64 0), (Value.bool false), (Value.int .i64 0), (Value.int .u64 0), (Value.int .u64 0), (Value.int .i64 0), (Value.int .i64 0), (Value.int .i64 0), (Value.bool false), (Value.int .i64 0), (Value.int .u64 0), (Value.int .u64 0), (Value.int .i64 0), (Value.int .i64 0), (Value.int .i64 0), (Value.bool false), (Value.int .i64 0), (Value.int .u64 0), (Value.int .u64 0), (Value.int .i64 0), (Value.int .i64 0), (Value.int .i64 0), (Value.bool false), (Value.int .i64 0), (Value.int .u64 0), (Value.int .u64 0), (Value.int .i64 0), (Value.int .i64 0), (Value.int .i64 0), (Value.bool false), (Value.int .i64 0), (Value.int .u64 0), (Value.int .u64 0), (Value.int .i64 0), (Value.int .i64 0), (Value.int .i64 0), (Value.bool false), (Value.int .i64 0), (Value.int .u64 0), (Value.int .u64 0), (Value.int .i64 0), (Value.int .i64 0), (Value.int .i64 0), (Value.bool false), (Value.int .i64 0), (Value.int .u64 0), (Value.int .u64 0), (Value.int .i64 0), (Value.int .i64 0), (Value.int .i64 0), (Value.bool false), (Value.int .i64 0), (Value.int .u64 0), (Value.int .u64 0), (Value.int .i64 0), (Value.int .i64 0), (Value.int .i64 0), (Value.bool false), (Value.int .i64 0), (Value.int .u64 0), (Value.int .u64 0), (Value.int .i64 0), (Value.int .i64 0), (Value.int .i64 0), (Value.bool false), (Value.int .i64 0), (Value.int .u64 0), (Value.int .u64 0), (Value.int .i64 0), (Value.int .i64 0), (Value.int .i64 0), (Value.bool false), (Value.int .i64 0), (Value.int .u64 0), (Value.int .u64 0), (Value.int .i64 0), (Value.int .i64 0), (Value.int .i64 0), (Value.bool false), (Value.int .i64 0), (Value.int .u64 0), (Value.int .u64 0), (Value.int .i64 0), (Value.int .i64 0), (Value.int .i64 0), (Value.bool false), (Value.int .i64 0), (Value.int .u64 0), (Value.int .u64 0), (Value.int .i64 0), (Value.int .i64 0), (Value.int .i64 0), (Value.bool false), (Value.int .i64 0), (Value.int .u64 0), (Value.int .u64 0), (Value.int .i64 0), (Value.int .i64 0), (Value.int .i64 0), (Value.bool false), (Value.int .i64 0), (Value.int .u64 0), (Value.int .u64 0), (Value.int .i64 0), (Value.int .i64 0), (Value.int .i64 0), (Value.bool false), (Value.int .i64 0), (Value.int .u64 0), (Value.int .u64 0), (Value.int .i64 0), (Value.int .i64 0), (Value.int .i64 0), (Value.bool false), (Value.int .i64 0), (Value.int .u64 0), (Value.int .u64 0), (Value.int .i64 0), (Value.int .i64 0), (Value.int .i64 0), (Value.bool false), (Value.int .i64 0), (Value.int .u64 0), (Value.int .u64 0), (Value.int .i64 0), (Value.int .i64 0), (Value.int .i64 0), (Value.bool false), (Value.int .i64 0), (Value.int .u64 0), (Value.int .u64 0), (Value.int .i64 0), (Value.int .i64 0), (Value.int .i64 0), (Value.bool false), (Value.int .i64 0), (Value.int .u64 0), (Value.int .u64 0), (Value.int .i64 0), (Value.int .i64 0), (Value.int .i64 0), (Value.bool false), (Value.int .i64 0), (Value.int .u64 0), (Value.int .u64 0), (Value.int .i64 0), (Value.int .i64 0), (Value.int .i64 0), (Value.bool false), (Value.int .i64 0), (Value.int .u64 0), (Value.int .u64 0), (Value.int .i64 0), (Value.int .i64 0), (Value.int .i64 0), (Value.bool false), (Value.int .i64 0), (Value.int .u64 0), (Value.int .u64 0), (Value.int .i64 0), (Value.int .i64 0), (Value.int .i64 0), (Value.bool false), (Value.int .i64 0), (Value.int .u64 0), (Value.int .u64 0), (Value.int .i64 0), (Value.int .i64 0), (Value.int .i64 0), (Value.bool false), (Value.int .i64 0), (Value.int .u64 0), (Value.int .u64 0), (Value.int .i64 0), (Value.int .i64 0), (Value.int .i64 0), (Value.bool false), (Value.int .i64 0), (Value.int .u64 0), (Value.int .u64 0), (Value.int .i64 0), (Value.int .i64 0), (Value.int .i64 0), (Value.bool false), (Value.int .i64 0), (Value.int .u64 0), (Value.int .u64 0), (Value.int .i64 0), (Value.int .i64 0), (Value.int .i64 0), (Value.bool false), (Value.int .i64 0), (Value.int .u64 0), (Value.int .u64 0), (Value.int .i64 0), (Value.int .i64 0), (Value.int .i64 0), (Value.bool false), (Value.int .i64 0), (Value.int .u64 0), (Value.int .u64 0), (Value.int .i64 0), (Value.int .i64 0), (Value.int .i64 0), (Value.bool false), (Value.int .i64 0), (Value.int .u64 0), (Value.int .u64 0), (Value.int .i64 0), (Value.int .i64 0), (Value.int .i64 0), (Value.bool false), (Value.int .i64 0), (Value.int .u64 0), (Value.int .u64 0), (Value.int .i64 0), (Value.int .i64 0), (Value.int .i64 0), (Value.bool false), (Value.int .i64 0), (Value.int .u64 0), (Value.int .u64 0), (Value.int .i64 0), (Value.int .i64 0), (Value.int .i64 0), (Value.bool false), (Value.int .i64 0), (Value.int .u64 0), (Value.int .u64 0), (Value.int .i64 0), (Value.int .i64 0), (Value.int .i64 0), (Value.bool false), (Value.int .i64 0), (Value.int .u64 0), (Value.int .u64 0), (Value.int .i64 0), (Value.int .i64 0), (Value.int .i64 0), (Value.bool false), (Value.int .i64 0), (Value.int .u64 0), (Value.int .u64 0), (Value.int .i64 0), (Value.int .i64 0), (Value.int .i64 0), (Value.bool false), (Value.int .i64 0), (Value.int .u64 0), (Value.int .u64 0), (Value.int .i64 0), (Value.int .i64 0), (Value.int .i64 0), (Value.bool false), (Value.int .i64 0), (Value.int .u64 0), (Value.int .u64 0), (Value.int .i64 0), (Value.int .i64 0), (Value.int .i64 0), (Value.bool false), (Value.int .i64 0), (Value.int .u64 0), (Value.int .u64 0), (Value.int .i64 0), (Value.int .i64 0), (Value.int .i64 0), (Value.bool false), (Value.int .i64 0), (Value.int .u64 0), (Value.int .u64 0), (Value.int .i64 0), (Value.int .i64 0), (Value.int .i64 0), (Value.bool false), (Value.int .i64 0), (Value.int .u64 0), (Value.int .u64 0), (Value.int .i64 0), (Value.int .i64 0), (Value.int .i64 0)]) <|
    K ()
    ) (
    K ()
    )
def x_cache_Cache_Turn : Cx Try.prog := ⟨tys, [], [], [], mixed⟩
def h_cache_Cache_Turn : Hint := .d
theorem w_cache_Cache_Turn : ∀ (a : Den [tPtr]) (K : Den [] → HP) (h : H), m_cache_Cache_Turn a K h = wpF x_cache_Cache_Turn Try.f142 [tPtr] [] h_cache_Cache_Turn a K h := fun a K h => by kernel_rfl
def s_cache_Cache_Turn : Spec Try.prog := mkSpec x_cache_Cache_Turn 142 Try.f142 [tPtr] [] false h_cache_Cache_Turn (fun a => m_cache_Cache_Turn a) w_cache_Cache_Turn callee142 rfl
/-! (*sesame/cache.Cache).Get -/
def m_cache_Cache_Get (a0 : Option Addr) (a1 : S_api_Cap) (K : (Int × Bool) → H → Prop) : H → Prop :=
  mJoin (fun (_s1 : Unit) =>
    mDeref a0 fun ad3 =>
    mLoad (cInt .i64) (ad3.add 454) fun x4 =>
    mDeref a0 fun ad5 =>
    mStore (ad5.add 454) [(Value.int .i64 (iAdd .i64 x4 1))] <|
    K (0, false)
    ) (fun j2 =>
    mDeref a0 fun ad6 =>
    mLoad (cInt .i64) (ad6.add 0) fun x7 =>
    mIf (decide (0 < x7)) (
      mDeref a0 fun ad8 =>
      mJoin (fun (s9 : Addr × S_cache_set) =>
        mStore s9.1 [(Value.bool s9.2.xe0.xput), (Value.int .i64 s9.2.xe0.xcap.Obj), (Value.int .u64 s9.2.xe0.xcap.Pass.Hi), (Value.int .u64 s9.2.xe0.xcap.Pass.Lo), (Value.int .i64 s9.2.xe0.xrights), (Value.int .i64 s9.2.xe0.xepoch), (Value.int .i64 s9.2.xe0.xage), (Value.bool s9.2.xe1.xput), (Value.int .i64 s9.2.xe1.xcap.Obj), (Value.int .u64 s9.2.xe1.xcap.Pass.Hi), (Value.int .u64 s9.2.xe1.xcap.Pass.Lo), (Value.int .i64 s9.2.xe1.xrights), (Value.int .i64 s9.2.xe1.xepoch), (Value.int .i64 s9.2.xe1.xage), (Value.bool s9.2.xe2.xput), (Value.int .i64 s9.2.xe2.xcap.Obj), (Value.int .u64 s9.2.xe2.xcap.Pass.Hi), (Value.int .u64 s9.2.xe2.xcap.Pass.Lo), (Value.int .i64 s9.2.xe2.xrights), (Value.int .i64 s9.2.xe2.xepoch), (Value.int .i64 s9.2.xe2.xage), (Value.bool s9.2.xe3.xput), (Value.int .i64 s9.2.xe3.xcap.Obj), (Value.int .u64 s9.2.xe3.xcap.Pass.Hi), (Value.int .u64 s9.2.xe3.xcap.Pass.Lo), (Value.int .i64 s9.2.xe3.xrights), (Value.int .i64 s9.2.xe3.xepoch), (Value.int .i64 s9.2.xe3.xage)] <|
        mLoad S_cache_set.cells s9.1 fun x19 =>
        m_cache_Cache_find a0 x19 a1 fun r20 =>
        mIf r20.2 (
          mDeref a0 fun ad21 =>
          mLoad (cInt .i64) (ad21.add 453) fun x22 =>
          mDeref a0 fun ad23 =>
          mStore (ad23.add 453) [(Value.int .i64 (iAdd .i64 x22 1))] <|
          mIdx (⟨some s9.1, 4, 4⟩ : Sl) r20.1 7 fun ad24 =>
          mLoad (cInt .i64) (ad24.add 4) fun x25 =>
          K (x25, true)
          ) (
          j2 ()
          )
        ) (fun j10 =>
        mBoth (
          m_cache_Cache_of a0 a1 fun r11 =>
          mIdx (⟨some (ad8.add 3), 16, 16⟩ : Sl) r11 28 fun ad12 =>
          mLoad S_cache_set.cells ad12 fun x13 =>
          mNew 319 #[(Value.bool false), (Value.int .i64 0), (Value.int .u64 0), (Value.int .u64 0), (Value.int .i64 0), (Value.int .i64 0), (Value.int .i64 0), (Value.bool false), (Value.int .i64 0), (Value.int .u64 0), (Value.int .u64 0), (Value.int .i64 0), (Value.int .i64 0), (Value.int .i64 0), (Value.bool false), (Value.int .i64 0), (Value.int .u64 0), (Value.int .u64 0), (Value.int .i64 0), (Value.int .i64 0), (Value.int .i64 0), (Value.bool false), (Value.int .i64 0), (Value.int .u64 0), (Value.int .u64 0), (Value.int .i64 0), (Value.int .i64 0), (Value.int .i64 0)] fun ad14 =>
          j10 (ad14, x13)
          ) (
          mNew 319 #[(Value.bool false), (Value.int .i64 0), (Value.int .u64 0), (Value.int .u64 0), (Value.int .i64 0), (Value.int .i64 0), (Value.int .i64 0), (Value.bool false), (Value.int .i64 0), (Value.int .u64 0), (Value.int .u64 0), (Value.int .i64 0), (Value.int .i64 0), (Value.int .i64 0), (Value.bool false), (Value.int .i64 0), (Value.int .u64 0), (Value.int .u64 0), (Value.int .i64 0), (Value.int .i64 0), (Value.int .i64 0), (Value.bool false), (Value.int .i64 0), (Value.int .u64 0), (Value.int .u64 0), (Value.int .i64 0), (Value.int .i64 0), (Value.int .i64 0)] fun ad15 =>
          m_cache_Cache_of a0 a1 fun r16 =>
          mIdx (⟨some (ad8.add 3), 16, 16⟩ : Sl) r16 28 fun ad17 =>
          mLoad S_cache_set.cells ad17 fun x18 =>
          j10 (ad15, x18)
          ))
      ) (
      j2 ()
      )
    )
def x_cache_Cache_Get : Cx Try.prog := ⟨tys, [s_cache_Cache_of, s_cache_Cache_find], [3], [], mixed⟩
def h_cache_Cache_Get : Hint := (.seq .d (.join [] 2199023255536 [] (.seq .d (.cond (.seq (.reg (.run [0, 4, 16, 20, 9] (.join [.slot 6 tAdr, .slot 21 S_cache_set.ty] 3276864 [] (.both 3 8 (.run [24, 30, 34] .nil) (.run [15, 24, 30] .nil)) (.run [39] .nil)))) .d) .d)) .d))
theorem w_cache_Cache_Get : ∀ (a : Den [tPtr, S_api_Cap.ty]) (K : Den [(tInt .i64), tBool] → HP) (h : H), m_cache_Cache_Get a.1 a.2 K h = wpF x_cache_Cache_Get Try.f300 [tPtr, S_api_Cap.ty] [(tInt .i64), tBool] h_cache_Cache_Get a K h := fun a K h => by kernel_rfl
def s_cache_Cache_Get : Spec Try.prog := mkSpec x_cache_Cache_Get 300 Try.f300 [tPtr, S_api_Cap.ty] [(tInt .i64), tBool] false h_cache_Cache_Get (fun a => m_cache_Cache_Get a.1 a.2) w_cache_Cache_Get callee300 rfl
end Go.Proofs.Ytiajjcboddaenaa.K
