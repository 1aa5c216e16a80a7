/- Functions of the program, printed by a program of mine: catalogue_New, catalogue_Catalogue_free, catalogue_Catalogue_put, catalogue_Catalogue_Root, catalogue_Catalogue_At, catalogue_Catalogue_Child, catalogue_Catalogue_Find, catalogue_Catalogue_Count, catalogue_Catalogue_In, catalogue_Catalogue_Drop, catalogue_Catalogue_Of -/
import Derived.Test.YtiajjcboddaenaaT
import Derived.Test.YtiajjcboddaenaaFkin
import Derived.Test.YtiajjcboddaenaaFmask
import Derived.Test.YtiajjcboddaenaaFslots
import Derived.Test.YtiajjcboddaenaaFwalk
namespace Go.Proofs.Ytiajjcboddaenaa.K
open Go Go.Proofs
/-! sesame/catalogue.New -/
def m_catalogue_New (a0 : Int) (a1 : Int) (K : (Option Addr × Int) → H → Prop) : H → Prop :=
  mIf ((((decide (a0 < 1)) || (decide (256 < a0))) || (decide (a1 < 0))) || (decide (64 < a1))) (
    K (none, 16)
    ) (
    m_slots_New_int a0 a1 fun r1 =>
    mIf (!decide (r1.2 = 0)) (
      K (none, r1.2)
      ) (
      m_kin_New a0 fun r2 =>
      mIf (!decide (r2.2 = 0)) (
        K (none, r2.2)
        ) (
        mJoin (fun (s3 : Sl × Sl × Option Nat × Option Nat) =>
          mNew 218 #[(Value.pointer r1.1), (Value.pointer r2.1), (Sl.val s3.1), (Sl.val s3.2.1), (Value.map s3.2.2.1), (Value.map s3.2.2.2)] fun ad65 =>
          K ((some ad65), 0)
          ) (fun j4 =>
          mBoth (
            mMake 98 40 #[(Value.int .i64 0), (Value.int .u64 0), (Value.int .u64 0), (Value.int .i64 0), (Value.int .i64 0)] a0 a0 fun s5 =>
            mBoth (
              mMake 4 1 #[(Value.bool false)] a0 a0 fun s6 =>
              mMakeMap fun m7 =>
              mMakeMap fun m8 =>
              j4 (s5, s6, m7, m8)
              ) (
              mBoth (
                mMakeMap fun m9 =>
                mBoth (
                  mMake 4 1 #[(Value.bool false)] a0 a0 fun s10 =>
                  mMakeMap fun m11 =>
                  j4 (s5, s10, m9, m11)
                  ) (
                  mMakeMap fun m12 =>
                  mMake 4 1 #[(Value.bool false)] a0 a0 fun s13 =>
                  j4 (s5, s13, m9, m12)
                  )
                ) (
                mMakeMap fun m14 =>
                mBoth (
                  mMake 4 1 #[(Value.bool false)] a0 a0 fun s15 =>
                  mMakeMap fun m16 =>
                  j4 (s5, s15, m16, m14)
                  ) (
                  mMakeMap fun m17 =>
                  mMake 4 1 #[(Value.bool false)] a0 a0 fun s18 =>
                  j4 (s5, s18, m17, m14)
                  )
                )
              )
            ) (
            mBoth (
              mMake 4 1 #[(Value.bool false)] a0 a0 fun s19 =>
              mBoth (
                mMake 98 40 #[(Value.int .i64 0), (Value.int .u64 0), (Value.int .u64 0), (Value.int .i64 0), (Value.int .i64 0)] a0 a0 fun s20 =>
                mMakeMap fun m21 =>
                mMakeMap fun m22 =>
                j4 (s20, s19, m21, m22)
                ) (
                mBoth (
                  mMakeMap fun m23 =>
                  mBoth (
                    mMake 98 40 #[(Value.int .i64 0), (Value.int .u64 0), (Value.int .u64 0), (Value.int .i64 0), (Value.int .i64 0)] a0 a0 fun s24 =>
                    mMakeMap fun m25 =>
                    j4 (s24, s19, m23, m25)
                    ) (
                    mMakeMap fun m26 =>
                    mMake 98 40 #[(Value.int .i64 0), (Value.int .u64 0), (Value.int .u64 0), (Value.int .i64 0), (Value.int .i64 0)] a0 a0 fun s27 =>
                    j4 (s27, s19, m23, m26)
                    )
                  ) (
                  mMakeMap fun m28 =>
                  mBoth (
                    mMake 98 40 #[(Value.int .i64 0), (Value.int .u64 0), (Value.int .u64 0), (Value.int .i64 0), (Value.int .i64 0)] a0 a0 fun s29 =>
                    mMakeMap fun m30 =>
                    j4 (s29, s19, m30, m28)
                    ) (
                    mMakeMap fun m31 =>
                    mMake 98 40 #[(Value.int .i64 0), (Value.int .u64 0), (Value.int .u64 0), (Value.int .i64 0), (Value.int .i64 0)] a0 a0 fun s32 =>
                    j4 (s32, s19, m31, m28)
                    )
                  )
                )
              ) (
              mBoth (
                mMakeMap fun m33 =>
                mBoth (
                  mMake 98 40 #[(Value.int .i64 0), (Value.int .u64 0), (Value.int .u64 0), (Value.int .i64 0), (Value.int .i64 0)] a0 a0 fun s34 =>
                  mBoth (
                    mMake 4 1 #[(Value.bool false)] a0 a0 fun s35 =>
                    mMakeMap fun m36 =>
                    j4 (s34, s35, m33, m36)
                    ) (
                    mMakeMap fun m37 =>
                    mMake 4 1 #[(Value.bool false)] a0 a0 fun s38 =>
                    j4 (s34, s38, m33, m37)
                    )
                  ) (
                  mBoth (
                    mMake 4 1 #[(Value.bool false)] a0 a0 fun s39 =>
                    mBoth (
                      mMake 98 40 #[(Value.int .i64 0), (Value.int .u64 0), (Value.int .u64 0), (Value.int .i64 0), (Value.int .i64 0)] a0 a0 fun s40 =>
                      mMakeMap fun m41 =>
                      j4 (s40, s39, m33, m41)
                      ) (
                      mMakeMap fun m42 =>
                      mMake 98 40 #[(Value.int .i64 0), (Value.int .u64 0), (Value.int .u64 0), (Value.int .i64 0), (Value.int .i64 0)] a0 a0 fun s43 =>
                      j4 (s43, s39, m33, m42)
                      )
                    ) (
                    mMakeMap fun m44 =>
                    mBoth (
                      mMake 98 40 #[(Value.int .i64 0), (Value.int .u64 0), (Value.int .u64 0), (Value.int .i64 0), (Value.int .i64 0)] a0 a0 fun s45 =>
                      mMake 4 1 #[(Value.bool false)] a0 a0 fun s46 =>
                      j4 (s45, s46, m33, m44)
                      ) (
                      mMake 4 1 #[(Value.bool false)] a0 a0 fun s47 =>
                      mMake 98 40 #[(Value.int .i64 0), (Value.int .u64 0), (Value.int .u64 0), (Value.int .i64 0), (Value.int .i64 0)] a0 a0 fun s48 =>
                      j4 (s48, s47, m33, m44)
                      )
                    )
                  )
                ) (
                mMakeMap fun m49 =>
                mBoth (
                  mMake 98 40 #[(Value.int .i64 0), (Value.int .u64 0), (Value.int .u64 0), (Value.int .i64 0), (Value.int .i64 0)] a0 a0 fun s50 =>
                  mBoth (
                    mMake 4 1 #[(Value.bool false)] a0 a0 fun s51 =>
                    mMakeMap fun m52 =>
                    j4 (s50, s51, m52, m49)
                    ) (
                    mMakeMap fun m53 =>
                    mMake 4 1 #[(Value.bool false)] a0 a0 fun s54 =>
                    j4 (s50, s54, m53, m49)
                    )
                  ) (
                  mBoth (
                    mMake 4 1 #[(Value.bool false)] a0 a0 fun s55 =>
                    mBoth (
                      mMake 98 40 #[(Value.int .i64 0), (Value.int .u64 0), (Value.int .u64 0), (Value.int .i64 0), (Value.int .i64 0)] a0 a0 fun s56 =>
                      mMakeMap fun m57 =>
                      j4 (s56, s55, m57, m49)
                      ) (
                      mMakeMap fun m58 =>
                      mMake 98 40 #[(Value.int .i64 0), (Value.int .u64 0), (Value.int .u64 0), (Value.int .i64 0), (Value.int .i64 0)] a0 a0 fun s59 =>
                      j4 (s59, s55, m58, m49)
                      )
                    ) (
                    mMakeMap fun m60 =>
                    mBoth (
                      mMake 98 40 #[(Value.int .i64 0), (Value.int .u64 0), (Value.int .u64 0), (Value.int .i64 0), (Value.int .i64 0)] a0 a0 fun s61 =>
                      mMake 4 1 #[(Value.bool false)] a0 a0 fun s62 =>
                      j4 (s61, s62, m60, m49)
                      ) (
                      mMake 4 1 #[(Value.bool false)] a0 a0 fun s63 =>
                      mMake 98 40 #[(Value.int .i64 0), (Value.int .u64 0), (Value.int .u64 0), (Value.int .i64 0), (Value.int .i64 0)] a0 a0 fun s64 =>
                      j4 (s64, s63, m60, m49)
                      )
                    )
                  )
                )
              )
            ))
        )
      )
    )
def x_catalogue_New : Cx Try.prog := ⟨tys, [s_slots_New_int, s_kin_New], [], [], mixed⟩
def h_catalogue_New : Hint := (.seq .d (.seq (.seq (.reg (.run [3, 7, 11] (.sel 11 14 28672 (.run [15, 19, 23] .nil) (.run [15, 19, 23] .nil) (.run [27] (.sel 15 18 458752 (.run [31, 35, 39] .nil) (.run [31, 35, 39] .nil) (.run [43] (.sel 19 22 7340032 (.run [47, 51, 55] .nil) (.run [47, 51, 55] .nil) .nil))))))) .d) (.seq .d (.seq .d (.seq .d (.seq .d (.seq (.reg (.run [0, 4, 8, 12, 20] (.join [.slot 44 tSl, .slot 46 tSl, .slot 47 tMap, .slot 48 tMap] 510173395288064 [] (.alt 4 (.alt 6 (.run [30, 34] .nil) (.both 7 8 (.both 6 8 (.run [34] .nil) (.run [27] .nil)) (.both 6 7 (.run [30] .nil) (.run [27] .nil)))) (.alt 6 (.alt 4 (.run [30, 34] .nil) (.both 7 8 (.both 4 8 (.run [34] .nil) (.run [19] .nil)) (.both 4 7 (.run [30] .nil) (.run [19] .nil)))) (.both 7 8 (.alt 4 (.both 6 8 (.run [34] .nil) (.run [27] .nil)) (.both 6 8 (.both 4 8 (.run [34] .nil) (.run [19] .nil)) (.both 4 6 (.run [27] .nil) (.run [19] .nil)))) (.alt 4 (.both 6 7 (.run [30] .nil) (.run [27] .nil)) (.both 6 7 (.both 4 7 (.run [30] .nil) (.run [19] .nil)) (.both 4 6 (.run [27] .nil) (.run [19] .nil))))))) (.run [36, 42, 44, 48] .nil)))) .d)))))))
theorem w_catalogue_New : ∀ (a : Den [(tInt .i64), (tInt .i64)]) (K : Den [tPtr, (tInt .i64)] → HP) (h : H), m_catalogue_New a.1 a.2 K h = wpF x_catalogue_New Try.f29 [(tInt .i64), (tInt .i64)] [tPtr, (tInt .i64)] h_catalogue_New a K h := fun a K h => by kernel_rfl
def s_catalogue_New : Spec Try.prog := mkSpec x_catalogue_New 29 Try.f29 [(tInt .i64), (tInt .i64)] [tPtr, (tInt .i64)] false h_catalogue_New (fun a => m_catalogue_New a.1 a.2) w_catalogue_New callee29 rfl
/-! (*sesame/catalogue.Catalogue).free -/
def m_catalogue_Catalogue_free (a0 : Option Addr) (K : (Int) → H → Prop) : H → Prop :=
  mDeref a0 fun ad1 =>
  mLoad cSl (ad1.add 3) fun x2 =>
  mLoop (fun (rec4 : Int → H → Prop) (s3 : Int) =>
    mIf (decide (s3 < (x2.len : Int))) (
      mIdx x2 s3 1 fun ad5 =>
      mLoad cBool ad5 fun x6 =>
      mIf (!x6) (
        K s3
        ) (
        rec4 (iAdd .i64 s3 1)
        )
      ) (
      K (-1)
      )
    ) 0
def x_catalogue_Catalogue_free : Cx Try.prog := ⟨tys, [], [], [], mixed⟩
def h_catalogue_Catalogue_free : Hint := (.seq .d (.seq (.seq .d (.blk (.loop [.slot 10 (tInt .i64)] 523292 [] .d))) .d))
theorem w_catalogue_Catalogue_free : ∀ (a : Den [tPtr]) (K : Den [(tInt .i64)] → HP) (h : H), m_catalogue_Catalogue_free a K h = wpF x_catalogue_Catalogue_free Try.f116 [tPtr] [(tInt .i64)] h_catalogue_Catalogue_free a K h := fun a K h => by kernel_rfl
def s_catalogue_Catalogue_free : Spec Try.prog := mkSpec x_catalogue_Catalogue_free 116 Try.f116 [tPtr] [(tInt .i64)] false h_catalogue_Catalogue_free (fun a => m_catalogue_Catalogue_free a) w_catalogue_Catalogue_free callee116 rfl
/-! (*sesame/catalogue.Catalogue).put -/
def m_catalogue_Catalogue_put (a0 : Option Addr) (a1 : Int) (a2 : S_api_Token) (K : (Unit) → H → Prop) : H → Prop :=
  mDeref a0 fun ad1 =>
  mLoad cPtr ((ad1.add 0).add 0) fun x2 =>
  m_slots_Table_int_Put x2 a2.Cap a1 fun _ =>
  mDeref a0 fun ad4 =>
  mDeref a0 fun ad5 =>
  mLoad cSl (ad4.add 2) fun x6 =>
  mLoad cSl (ad5.add 3) fun x7 =>
  mIdx x6 a1 5 fun ad8 =>
  mStore ad8 [(Value.int .i64 a2.Cap.Obj), (Value.int .u64 a2.Cap.Pass.Hi), (Value.int .u64 a2.Cap.Pass.Lo), (Value.int .i64 a2.Rights), (Value.int .i64 a2.Parent)] <|
  mIdx x7 a1 1 fun ad9 =>
  mStore ad9 [(Value.bool true)] <|
  mDeref a0 fun ad10 =>
  mLoad cMap (ad10.add 5) fun x11 =>
  mLookup (eqV Try.prog 40 3) (Value.int .i64) 0 x11 (Value.int .i64 a2.Cap.Obj) fun r12 =>
  mMapSet (eqV Try.prog 40 3) x11 (Value.int .i64 a2.Cap.Obj) (Value.int .i64 (iAdd .i64 r12.1 1)) <|
  K ()
def x_catalogue_Catalogue_put : Cx Try.prog := ⟨tys, [s_slots_Table_int_Put], [5], [], mixed⟩
def h_catalogue_Catalogue_put : Hint := (.seq .d (.seq (.reg (.run [0, 4, 8, 12, 20, 28, 25, 18, 35] .nil)) (.seq (.reg (.run [0, 4, 8, 16, 20, 24, 28, 36, 41, 14, 34, 44, 51, 52, 59] .nil)) (.reg (.run [0, 4, 8, 16, 20, 25, 14, 30, 32, 39] .nil)))))
theorem w_catalogue_Catalogue_put : ∀ (a : Den [tPtr, (tInt .i64), S_api_Token.ty]) (K : Den [] → HP) (h : H), m_catalogue_Catalogue_put a.1 a.2.1 a.2.2 K h = wpF x_catalogue_Catalogue_put Try.f119 [tPtr, (tInt .i64), S_api_Token.ty] [] h_catalogue_Catalogue_put a K h := fun a K h => by kernel_rfl
def s_catalogue_Catalogue_put : Spec Try.prog := mkSpec x_catalogue_Catalogue_put 119 Try.f119 [tPtr, (tInt .i64), S_api_Token.ty] [] false h_catalogue_Catalogue_put (fun a => m_catalogue_Catalogue_put a.1 a.2.1 a.2.2) w_catalogue_Catalogue_put callee119 rfl
/-! (*sesame/catalogue.Catalogue).Root -/
def m_catalogue_Catalogue_Root (a0 : Option Addr) (a1 : S_api_Cap) (a2 : Int) (K : (Int × Int) → H → Prop) : H → Prop :=
  m_catalogue_Catalogue_free a0 fun r1 =>
  mPure (m_mask_Valid a2) fun r2 =>
  mIf (!r2) (
    K (0, 4)
    ) (
    mDeref a0 fun ad3 =>
    mLoad cMap (ad3.add 5) fun x4 =>
    mLookup (eqV Try.prog 40 3) (Value.int .i64) 0 x4 (Value.int .i64 a1.Obj) fun r5 =>
    mIf (decide (0 < r5.1)) (
      K (0, 19)
      ) (
      mIf (decide (r1 < 0)) (
        K (0, 10)
        ) (
        mDeref a0 fun ad6 =>
        mLoad cPtr ((ad6.add 0).add 1) fun x7 =>
        m_kin_Tree_Root x7 r1 fun _ =>
        m_catalogue_Catalogue_put a0 r1 (⟨⟨a1.Obj, ⟨a1.Pass.Hi, a1.Pass.Lo⟩⟩, a2, (-1)⟩ : S_api_Token) fun _ =>
        mDeref a0 fun ad10 =>
        mLoad cMap (ad10.add 4) fun x11 =>
        mMapSet (eqV Try.prog 40 3) x11 (Value.int .i64 a1.Obj) (Value.int .i64 r1) <|
        K (r1, 0)
        )
      )
    )
def x_catalogue_Catalogue_Root : Cx Try.prog := ⟨tys, [s_catalogue_Catalogue_free, s_mask_Valid, s_kin_Tree_Root, s_catalogue_Catalogue_put], [4], [], mixed⟩
def h_catalogue_Catalogue_Root : Hint := (.seq .d (.seq .d (.seq (.blk (.seq .d (.cond .d (.seq (.reg (.run [0, 4, 8, 16, 21, 14, 26, 28, 32] .nil)) .d)))) (.seq .d (.seq .d (.seq (.reg (.run [0, 4, 8, 16, 24, 21, 14, 31] .nil)) .d))))))
theorem w_catalogue_Catalogue_Root : ∀ (a : Den [tPtr, S_api_Cap.ty, (tInt .i64)]) (K : Den [(tInt .i64), (tInt .i64)] → HP) (h : H), m_catalogue_Catalogue_Root a.1 a.2.1 a.2.2 K h = wpF x_catalogue_Catalogue_Root Try.f32 [tPtr, S_api_Cap.ty, (tInt .i64)] [(tInt .i64), (tInt .i64)] h_catalogue_Catalogue_Root a K h := fun a K h => by kernel_rfl
def s_catalogue_Catalogue_Root : Spec Try.prog := mkSpec x_catalogue_Catalogue_Root 32 Try.f32 [tPtr, S_api_Cap.ty, (tInt .i64)] [(tInt .i64), (tInt .i64)] false h_catalogue_Catalogue_Root (fun a => m_catalogue_Catalogue_Root a.1 a.2.1 a.2.2) w_catalogue_Catalogue_Root callee32 rfl
/-! (*sesame/catalogue.Catalogue).At -/
def m_catalogue_Catalogue_At (a0 : Option Addr) (a1 : Int) (K : (S_api_Token × Bool) → H → Prop) : H → Prop :=
  mJoin (fun (s3 : Bool) =>
    mJoin (fun (s9 : Bool) =>
      mIf s9 (
        K ((⟨⟨0, ⟨0, 0⟩⟩, 0, 0⟩ : S_api_Token), false)
        ) (
        mDeref a0 fun ad11 =>
        mLoad cSl (ad11.add 2) fun x12 =>
        mIdx x12 a1 5 fun ad13 =>
        mLoad S_api_Token.cells ad13 fun x14 =>
        K (x14, true)
        )
      ) (fun j10 =>
      mIf s3 (
        j10 true
        ) (
        mDeref a0 fun ad15 =>
        mLoad cSl (ad15.add 3) fun x16 =>
        mIdx x16 a1 1 fun ad17 =>
        mLoad cBool ad17 fun x18 =>
        j10 (!x18)
        ))
    ) (fun j4 =>
    mIf (decide (a1 < 0)) (
      j4 true
      ) (
      mDeref a0 fun ad19 =>
      mLoad cSl (ad19.add 3) fun x20 =>
      j4 (decide ((x20.len : Int) ≤ a1))
      ))
def x_catalogue_Catalogue_At : Cx Try.prog := ⟨tys, [], [4], [], mixed⟩
def h_catalogue_Catalogue_At : Hint := (.seq .d (.seq (.seq (.reg (.run [3, 7, 11] (.join [.slot 16 tBool] 130560 [] (.split 8 (.run [15, 19, 23, 27, 31, 35, 39, 43] .nil) (.run [15, 19, 23, 27, 31, 35, 39, 43] .nil)) (.run [47] (.join [.slot 26 tBool] 133955584 [] (.split 17 (.run [51, 55, 59, 63, 67, 71, 75, 79, 83] .nil) (.run [51, 55, 59, 63, 67, 71, 75, 79, 83] .nil)) .nil))))) .d) .d))
theorem w_catalogue_Catalogue_At : ∀ (a : Den [tPtr, (tInt .i64)]) (K : Den [S_api_Token.ty, tBool] → HP) (h : H), m_catalogue_Catalogue_At a.1 a.2 K h = wpF x_catalogue_Catalogue_At Try.f49 [tPtr, (tInt .i64)] [S_api_Token.ty, tBool] h_catalogue_Catalogue_At a K h := fun a K h => by kernel_rfl
def s_catalogue_Catalogue_At : Spec Try.prog := mkSpec x_catalogue_Catalogue_At 49 Try.f49 [tPtr, (tInt .i64)] [S_api_Token.ty, tBool] false h_catalogue_Catalogue_At (fun a => m_catalogue_Catalogue_At a.1 a.2) w_catalogue_Catalogue_At callee49 rfl
/-! (*sesame/catalogue.Catalogue).Child -/
def m_catalogue_Catalogue_Child (a0 : Option Addr) (a1 : Int) (a2 : S_api_Cap) (a3 : Int) (K : (Int × Int) → H → Prop) : H → Prop :=
  m_catalogue_Catalogue_At a0 a1 fun r1 =>
  mIf (!r1.2) (
    K (0, 20)
    ) (
    mDeref a0 fun ad2 =>
    mLoad cPtr ((ad2.add 0).add 0) fun x3 =>
    m_slots_Table_int_Get x3 a2 fun r4 =>
    m_catalogue_Catalogue_free a0 fun r5 =>
    mIf (!decide (r1.1.Cap.Obj = a2.Obj)) (
      K (0, 3)
      ) (
      mPure (m_mask_Part a3 r1.1.Rights) fun r6 =>
      mIf (!r6) (
        K (0, 4)
        ) (
        mIf r4.2 (
          K (0, 19)
          ) (
          mIf (decide (r5 < 0)) (
            K (0, 10)
            ) (
            mDeref a0 fun ad7 =>
            mLoad cPtr ((ad7.add 0).add 1) fun x8 =>
            m_kin_Tree_Child x8 a1 r5 fun _ =>
            m_catalogue_Catalogue_put a0 r5 (⟨⟨a2.Obj, ⟨a2.Pass.Hi, a2.Pass.Lo⟩⟩, a3, a1⟩ : S_api_Token) fun _ =>
            K (r5, 0)
            )
          )
        )
      )
    )
def x_catalogue_Catalogue_Child : Cx Try.prog := ⟨tys, [s_catalogue_Catalogue_At, s_catalogue_Catalogue_free, s_catalogue_Catalogue_put, s_slots_Table_int_Get, s_mask_Part, s_kin_Tree_Child], [6, 10], [], mixed⟩
def h_catalogue_Catalogue_Child : Hint := (.seq .d (.seq .d (.seq .d (.seq (.reg (.run [0, 4, 8, 12, 21, 18, 27, 28, 32, 36, 40, 44] .nil)) .d))))
theorem w_catalogue_Catalogue_Child : ∀ (a : Den [tPtr, (tInt .i64), S_api_Cap.ty, (tInt .i64)]) (K : Den [(tInt .i64), (tInt .i64)] → HP) (h : H), m_catalogue_Catalogue_Child a.1 a.2.1 a.2.2.1 a.2.2.2 K h = wpF x_catalogue_Catalogue_Child Try.f34 [tPtr, (tInt .i64), S_api_Cap.ty, (tInt .i64)] [(tInt .i64), (tInt .i64)] h_catalogue_Catalogue_Child a K h := fun a K h => by kernel_rfl
def s_catalogue_Catalogue_Child : Spec Try.prog := mkSpec x_catalogue_Catalogue_Child 34 Try.f34 [tPtr, (tInt .i64), S_api_Cap.ty, (tInt .i64)] [(tInt .i64), (tInt .i64)] false h_catalogue_Catalogue_Child (fun a => m_catalogue_Catalogue_Child a.1 a.2.1 a.2.2.1 a.2.2.2) w_catalogue_Catalogue_Child callee34 rfl
/-! (*sesame/catalogue.Catalogue).Find -/
def m_catalogue_Catalogue_Find (a0 : Option Addr) (a1 : S_api_Cap) (K : (Int × Bool) → H → Prop) : H → Prop :=
  mDeref a0 fun ad1 =>
  mLoad cPtr ((ad1.add 0).add 0) fun x2 =>
  m_slots_Table_int_Get x2 a1 fun r3 =>
  K (r3.1, r3.2)
def x_catalogue_Catalogue_Find : Cx Try.prog := ⟨tys, [s_slots_Table_int_Get], [3], [], mixed⟩
def h_catalogue_Catalogue_Find : Hint := (.seq .d (.seq (.reg (.run [0, 4, 8, 12, 21, 18, 27, 28, 32, 36, 40] .nil)) .d))
theorem w_catalogue_Catalogue_Find : ∀ (a : Den [tPtr, S_api_Cap.ty]) (K : Den [(tInt .i64), tBool] → HP) (h : H), m_catalogue_Catalogue_Find a.1 a.2 K h = wpF x_catalogue_Catalogue_Find Try.f51 [tPtr, S_api_Cap.ty] [(tInt .i64), tBool] h_catalogue_Catalogue_Find a K h := fun a K h => by kernel_rfl
def s_catalogue_Catalogue_Find : Spec Try.prog := mkSpec x_catalogue_Catalogue_Find 51 Try.f51 [tPtr, S_api_Cap.ty] [(tInt .i64), tBool] false h_catalogue_Catalogue_Find (fun a => m_catalogue_Catalogue_Find a.1 a.2) w_catalogue_Catalogue_Find callee51 rfl
/-! (*sesame/catalogue.Catalogue).Count -/
def m_catalogue_Catalogue_Count (a0 : Option Addr) (K : (Int) → H → Prop) : H → Prop :=
  mDeref a0 fun ad1 =>
  mLoad cPtr ((ad1.add 0).add 0) fun x2 =>
  m_slots_Table_int_Len x2 fun r3 =>
  K r3
def x_catalogue_Catalogue_Count : Cx Try.prog := ⟨tys, [s_slots_Table_int_Len], [], [], mixed⟩
def h_catalogue_Catalogue_Count : Hint := .d
theorem w_catalogue_Catalogue_Count : ∀ (a : Den [tPtr]) (K : Den [(tInt .i64)] → HP) (h : H), m_catalogue_Catalogue_Count a K h = wpF x_catalogue_Catalogue_Count Try.f40 [tPtr] [(tInt .i64)] h_catalogue_Catalogue_Count a K h := fun a K h => by kernel_rfl
def s_catalogue_Catalogue_Count : Spec Try.prog := mkSpec x_catalogue_Catalogue_Count 40 Try.f40 [tPtr] [(tInt .i64)] false h_catalogue_Catalogue_Count (fun a => m_catalogue_Catalogue_Count a) w_catalogue_Catalogue_Count callee40 rfl
/-! (*sesame/catalogue.Catalogue).In -/
def m_catalogue_Catalogue_In (a0 : Option Addr) (a1 : Int) (K : (Int) → H → Prop) : H → Prop :=
  mDeref a0 fun ad1 =>
  mLoad cMap (ad1.add 5) fun x2 =>
  mLookup (eqV Try.prog 40 3) (Value.int .i64) 0 x2 (Value.int .i64 a1) fun r3 =>
  K r3.1
def x_catalogue_Catalogue_In : Cx Try.prog := ⟨tys, [], [], [], mixed⟩
def h_catalogue_Catalogue_In : Hint := .d
theorem w_catalogue_Catalogue_In : ∀ (a : Den [tPtr, (tInt .i64)]) (K : Den [(tInt .i64)] → HP) (h : H), m_catalogue_Catalogue_In a.1 a.2 K h = wpF x_catalogue_Catalogue_In Try.f42 [tPtr, (tInt .i64)] [(tInt .i64)] h_catalogue_Catalogue_In a K h := fun a K h => by kernel_rfl
def s_catalogue_Catalogue_In : Spec Try.prog := mkSpec x_catalogue_Catalogue_In 42 Try.f42 [tPtr, (tInt .i64)] [(tInt .i64)] false h_catalogue_Catalogue_In (fun a => m_catalogue_Catalogue_In a.1 a.2) w_catalogue_Catalogue_In callee42 rfl
/-! (*sesame/catalogue.Catalogue).Drop -/
def m_catalogue_Catalogue_Drop (a0 : Option Addr) (a1 : Int) (K : (Sl × Int) → H → Prop) : H → Prop :=
  mNew 64 #[(Value.pointer a0)] fun ad1 =>
  mLoad cPtr ad1 fun x2 =>
  m_catalogue_Catalogue_At x2 a1 fun r3 =>
  mNew 98 #[(Value.int .i64 0), (Value.int .u64 0), (Value.int .u64 0), (Value.int .i64 0), (Value.int .i64 0)] fun ad4 =>
  mStore ad4 [(Value.int .i64 r3.1.Cap.Obj), (Value.int .u64 r3.1.Cap.Pass.Hi), (Value.int .u64 r3.1.Cap.Pass.Lo), (Value.int .i64 r3.1.Rights), (Value.int .i64 r3.1.Parent)] <|
  mIf (!r3.2) (
    K (Sl.nil, 20)
    ) (
    mNew 34 #[(Sl.val Sl.nil)] fun ad5 =>
    mLoad cPtr ad1 fun x6 =>
    mDeref x6 fun ad7 =>
    mLoad cPtr ((ad7.add 0).add 1) fun x8 =>
    m_walk_Down x8 a1 fun r9 =>
    mRangeF (A := Int) Try.prog (fun x => [(Value.int .i64 x)]) r9.1 (fun x10 mid11 kj12 =>
      mid11 (
        mLoad cSl ad5 fun x14 =>
        mLoad cPtr ad1 fun x15 =>
        mDeref x15 fun ad16 =>
        mLoad cSl (ad16.add 2) fun x17 =>
        mIdx x17 x10 5 fun ad18 =>
        mLoad S_api_Cap.cells (ad18.add 0) fun x19 =>
        mNew 39 #[(Value.int .i64 x19.Obj), (Value.int .u64 x19.Pass.Hi), (Value.int .u64 x19.Pass.Lo)] fun ad20 =>
        mAppend 39 3 24 #[(Value.int .i64 0), (Value.int .u64 0), (Value.int .u64 0)] x14 (⟨some ad20, 1, 1⟩ : Sl) fun s21 =>
        mStore ad5 [(Sl.val s21)] <|
        kj12 0
        )
      ) (fun j13 =>
      mIf (Nat.beq j13 0) (
        mLoad cPtr ad1 fun x22 =>
        mDeref x22 fun ad23 =>
        mLoad cPtr ((ad23.add 0).add 1) fun x24 =>
        m_walk_Fall x24 a1 fun r25 =>
        mLoop (fun (rec27 : Int → H → Prop) (s26 : Int) =>
          mIf (decide (s26 < (r25.len : Int))) (
            mIdx r25 s26 1 fun ad28 =>
            mLoad (cInt .i64) ad28 fun x29 =>
            mLoad cPtr ad1 fun x30 =>
            mDeref x30 fun ad31 =>
            mLoad cPtr ((ad31.add 0).add 1) fun x32 =>
            m_kin_Tree_Cut x32 x29 fun _ =>
            mLoad cPtr ad1 fun x34 =>
            mDeref x34 fun ad35 =>
            mLoad cPtr ((ad35.add 0).add 0) fun x36 =>
            mLoad cPtr ad1 fun x37 =>
            mDeref x37 fun ad38 =>
            mLoad cSl (ad38.add 2) fun x39 =>
            mIdx x39 x29 5 fun ad40 =>
            mLoad S_api_Cap.cells (ad40.add 0) fun x41 =>
            m_slots_Table_int_Drop x36 x41 fun _ =>
            mLoad cPtr ad1 fun x43 =>
            mDeref x43 fun ad44 =>
            mLoad cSl (ad44.add 3) fun x45 =>
            mIdx x45 x29 1 fun ad46 =>
            mStore ad46 [(Value.bool false)] <|
            rec27 (iAdd .i64 s26 1)
            ) (
            mJoin (fun (_s47 : Unit) =>
              mLoad cSl ad5 fun x49 =>
              K (x49, 0)
              ) (fun j48 =>
              mLoad cPtr ad1 fun x50 =>
              mDeref x50 fun ad51 =>
              mLoad cMap (ad51.add 5) fun x52 =>
              mLoad (cInt .i64) ((ad4.add 0).add 0) fun x53 =>
              mLookup (eqV Try.prog 40 3) (Value.int .i64) 0 x52 (Value.int .i64 x53) fun r54 =>
              mLoad cSl ad5 fun x55 =>
              mMapSet (eqV Try.prog 40 3) x52 (Value.int .i64 x53) (Value.int .i64 (iSub .i64 r54.1 (x55.len : Int))) <|
              mLoad cPtr ad1 fun x56 =>
              mDeref x56 fun ad57 =>
              mLoad cMap (ad57.add 5) fun x58 =>
              mLoad (cInt .i64) ((ad4.add 0).add 0) fun x59 =>
              mLookup (eqV Try.prog 40 3) (Value.int .i64) 0 x58 (Value.int .i64 x59) fun r60 =>
              mIf (decide (r60.1 = 0)) (
                mLoad cPtr ad1 fun x61 =>
                mDeref x61 fun ad62 =>
                mLoad cMap (ad62.add 5) fun x63 =>
                mLoad (cInt .i64) ((ad4.add 0).add 0) fun x64 =>
                mMapDel (eqV Try.prog 40 3) x63 (Value.int .i64 x64) <|
                mLoad cPtr ad1 fun x65 =>
                mDeref x65 fun ad66 =>
                mLoad cMap (ad66.add 4) fun x67 =>
                mLoad (cInt .i64) ((ad4.add 0).add 0) fun x68 =>
                mMapDel (eqV Try.prog 40 3) x67 (Value.int .i64 x68) <|
                j48 ()
                ) (
                j48 ()
                )
              )
            )
          ) 0
        ) (
        nope))
    )
def x_catalogue_Catalogue_Drop : Cx Try.prog := ⟨tys, [s_catalogue_Catalogue_At, s_walk_Down, s_walk_Fall, s_kin_Tree_Cut, s_slots_Table_int_Drop], [], [], mixed⟩
def h_catalogue_Catalogue_Drop : Hint := (.seq .d (.seq .d (.seq .d (.seq .d (.seq (.seq .d (.blk (.rng [(tInt .i64)] [] false .d (.blk (.reg (.run [20, 2, 6, 8, 12, 18, 24, 28, 34, 38, 43, 47] .nil)))))) (.seq (.seq .d (.blk (.loop [.slot 47 (tInt .i64)] 604462909666577098999808 [] (.seq .d (.seq .d (.seq (.blk (.seq .d (.seq .d (.seq (.reg (.run [36, 2, 4, 8, 12, 18, 22, 24, 28, 34, 40, 44, 50, 55] .nil)) .d)))) .d)))))) (.join [] 10384593716465192347253678071087104 [] (.seq (.reg (.run [16, 20, 2, 4, 8, 14, 26, 30, 34, 36, 40, 47] .nil)) (.seq (.reg (.run [16, 20, 2, 4, 8, 14, 26, 30, 32] .nil)) (.cond (.seq (.reg (.run [16, 20, 2, 4, 8, 14, 26, 31] .nil)) (.reg (.run [16, 20, 2, 4, 8, 14, 26, 31] .nil))) .d))) .d)))))))
theorem w_catalogue_Catalogue_Drop : ∀ (a : Den [tPtr, (tInt .i64)]) (K : Den [tSl, (tInt .i64)] → HP) (h : H), m_catalogue_Catalogue_Drop a.1 a.2 K h = wpF x_catalogue_Catalogue_Drop Try.f53 [tPtr, (tInt .i64)] [tSl, (tInt .i64)] h_catalogue_Catalogue_Drop a K h := fun a K h => by kernel_rfl
def s_catalogue_Catalogue_Drop : Spec Try.prog := mkSpec x_catalogue_Catalogue_Drop 53 Try.f53 [tPtr, (tInt .i64)] [tSl, (tInt .i64)] false h_catalogue_Catalogue_Drop (fun a => m_catalogue_Catalogue_Drop a.1 a.2) w_catalogue_Catalogue_Drop callee53 rfl
/-! (*sesame/catalogue.Catalogue).Of -/
def m_catalogue_Catalogue_Of (a0 : Option Addr) (a1 : Int) (K : (Sl) → H → Prop) : H → Prop :=
  mNew 64 #[(Value.pointer a0)] fun ad1 =>
  mLoad cPtr ad1 fun x2 =>
  mDeref x2 fun ad3 =>
  mLoad cMap (ad3.add 4) fun x4 =>
  mLookup (eqV Try.prog 40 3) (Value.int .i64) 0 x4 (Value.int .i64 a1) fun r5 =>
  mIf (!r5.2) (
    K Sl.nil
    ) (
    mNew 95 #[(Sl.val Sl.nil)] fun ad6 =>
    mMakeMap fun m7 =>
    mMapSet (eqV Try.prog 40 3) m7 (Value.int .i64 (-1)) (Value.int .i64 (-1)) <|
    mNew 216 #[(Value.map none)] fun ad8 =>
    mStore ad8 [(Value.map m7)] <|
    mLoad cPtr ad1 fun x9 =>
    mDeref x9 fun ad10 =>
    mLoad cPtr ((ad10.add 0).add 1) fun x11 =>
    m_walk_Down x11 r5.1 fun r12 =>
    mRangeF (A := Int) Try.prog (fun x => [(Value.int .i64 x)]) r12.1 (fun x13 mid14 kj15 =>
      mid14 (
        mLoad cPtr ad1 fun x17 =>
        mDeref x17 fun ad18 =>
        mLoad cSl (ad18.add 2) fun x19 =>
        mIdx x19 x13 5 fun ad20 =>
        mLoad S_api_Token.cells ad20 fun x21 =>
        mNew 98 #[(Value.int .i64 0), (Value.int .u64 0), (Value.int .u64 0), (Value.int .i64 0), (Value.int .i64 0)] fun ad22 =>
        mStore ad22 [(Value.int .i64 x21.Cap.Obj), (Value.int .u64 x21.Cap.Pass.Hi), (Value.int .u64 x21.Cap.Pass.Lo), (Value.int .i64 x21.Rights), (Value.int .i64 x21.Parent)] <|
        mLoad cMap ad8 fun x23 =>
        mLoad cSl ad6 fun x24 =>
        mMapSet (eqV Try.prog 40 3) x23 (Value.int .i64 x13) (Value.int .i64 (x24.len : Int)) <|
        mLoad cMap ad8 fun x25 =>
        mLoad (cInt .i64) (ad22.add 4) fun x26 =>
        mLookup (eqV Try.prog 40 3) (Value.int .i64) 0 x25 (Value.int .i64 x26) fun r27 =>
        mStore (ad22.add 4) [(Value.int .i64 r27.1)] <|
        mLoad cSl ad6 fun x28 =>
        mLoad S_api_Token.cells ad22 fun x29 =>
        mNew 98 #[(Value.int .i64 x29.Cap.Obj), (Value.int .u64 x29.Cap.Pass.Hi), (Value.int .u64 x29.Cap.Pass.Lo), (Value.int .i64 x29.Rights), (Value.int .i64 x29.Parent)] fun ad30 =>
        mAppend 98 5 40 #[(Value.int .i64 0), (Value.int .u64 0), (Value.int .u64 0), (Value.int .i64 0), (Value.int .i64 0)] x28 (⟨some ad30, 1, 1⟩ : Sl) fun s31 =>
        mStore ad6 [(Sl.val s31)] <|
        kj15 0
        )
      ) (fun j16 =>
      mIf (Nat.beq j16 0) (
        mLoad cSl ad6 fun x32 =>
        K x32
        ) (
        nope))
    )
def x_catalogue_Catalogue_Of : Cx Try.prog := ⟨tys, [s_walk_Down], [], [], mixed⟩
def h_catalogue_Catalogue_Of : Hint := (.seq .d (.seq .d (.seq .d (.seq .d (.seq .d (.seq (.seq .d (.blk (.rng [(tInt .i64)] [] false .d .d))) .d))))))
theorem w_catalogue_Catalogue_Of : ∀ (a : Den [tPtr, (tInt .i64)]) (K : Den [tSl] → HP) (h : H), m_catalogue_Catalogue_Of a.1 a.2 K h = wpF x_catalogue_Catalogue_Of Try.f54 [tPtr, (tInt .i64)] [tSl] h_catalogue_Catalogue_Of a K h := fun a K h => by kernel_rfl
def s_catalogue_Catalogue_Of : Spec Try.prog := mkSpec x_catalogue_Catalogue_Of 54 Try.f54 [tPtr, (tInt .i64)] [tSl] false h_catalogue_Catalogue_Of (fun a => m_catalogue_Catalogue_Of a.1 a.2) w_catalogue_Catalogue_Of callee54 rfl
end Go.Proofs.Ytiajjcboddaenaa.K
