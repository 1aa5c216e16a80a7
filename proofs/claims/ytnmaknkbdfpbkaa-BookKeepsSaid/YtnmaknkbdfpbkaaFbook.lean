/- Functions of the program, printed by a program of mine: book_New, book_look_book_whom_book_Link, book_Book_tell, book_look_api_Cap_book_token, book_Book_under, book_Book_revoked, book_Book_destroyed, book_look_int_map_int_book_laid, book_look_int_book_laid, book_Book_read, book_number, book_capOf, book_Book_wrote, book_Book_spawned, book_Book_Note, book_Book_Known, book_Book_Way -/
import Derived.Test.YtnmaknkbdfpbkaaT
import Derived.Test.YtnmaknkbdfpbkaaFslices
namespace Go.Proofs.Ytnmaknkbdfpbkaa.K
open Go Go.Proofs
/-! sesame/book.New -/
def m_book_New (K : (Option Addr) → H → Prop) : H → Prop :=
  mMakeMap fun m1 =>
  mMakeMap fun m2 =>
  mMakeMap fun m3 =>
  mMakeMap fun m4 =>
  mMakeMap fun m5 =>
  mNew 115 #[(Value.int .i64 0), (Value.map m1), (Value.map m2), (Value.map m3), (Value.map m4), (Value.map m5)] fun ad6 =>
  K (some ad6)
def x_book_New : Cx Try.prog := ⟨tys, [], [], [], mixed⟩
def h_book_New : Hint := .d
theorem w_book_New : ∀ (a : Den []) (K : Den [tPtr] → HP) (h : H), m_book_New K h = wpF x_book_New Try.f46 [] [tPtr] h_book_New a K h := fun a K h => by kernel_rfl
def s_book_New : Spec Try.prog := mkSpec x_book_New 46 Try.f46 [] [tPtr] false h_book_New (fun _ => m_book_New) w_book_New callee46 rfl
/-! sesame/book.look[sesame/book.whom,[]sesame/book.Link] -/
def m_book_look_book_whom_book_Link (a0 : Option Nat) (a1 : S_book_whom) (K : (Sl × Bool) → H → Prop) : H → Prop :=
  mLookup (eqV Try.prog 40 125) Sl.val Sl.nil a0 (S_book_whom.val a1) fun r1 =>
  K (r1.1, r1.2)
def x_book_look_book_whom_book_Link : Cx Try.prog := ⟨tys, [], [3], [], mixed⟩
def h_book_look_book_whom_book_Link : Hint := .d
theorem w_book_look_book_whom_book_Link : ∀ (a : Den [tMap, S_book_whom.ty]) (K : Den [tSl, tBool] → HP) (h : H), m_book_look_book_whom_book_Link a.1 a.2 K h = wpF x_book_look_book_whom_book_Link Try.f67 [tMap, S_book_whom.ty] [tSl, tBool] h_book_look_book_whom_book_Link a K h := fun a K h => by kernel_rfl
def s_book_look_book_whom_book_Link : Spec Try.prog := mkSpec x_book_look_book_whom_book_Link 67 Try.f67 [tMap, S_book_whom.ty] [tSl, tBool] false h_book_look_book_whom_book_Link (fun a => m_book_look_book_whom_book_Link a.1 a.2) w_book_look_book_whom_book_Link callee67 rfl
/-! (*sesame/book.Book).tell -/
def m_book_Book_tell (a0 : Option Addr) (a1 : Sl) (a2 : S_book_Link) (K : (Unit) → H → Prop) : H → Prop :=
  mDeref a0 fun ad1 =>
  mLoad cMap (ad1.add 3) fun x2 =>
  m_book_look_book_whom_book_Link x2 (⟨a2.To, ⟨a2.Cap.Obj, ⟨a2.Cap.Pass.Hi, a2.Cap.Pass.Lo⟩⟩⟩ : S_book_whom) fun r3 =>
  mIf r3.2 (
    K ()
    ) (
    mDeref a0 fun ad4 =>
    mLoad (cInt .i64) (ad4.add 0) fun x5 =>
    mDeref a0 fun ad6 =>
    mJoin (fun (s7 : Option Nat × Sl) =>
      mMapSet (eqV Try.prog 40 125) s7.1 (S_book_whom.val (⟨a2.To, ⟨a2.Cap.Obj, ⟨a2.Cap.Pass.Hi, a2.Cap.Pass.Lo⟩⟩⟩ : S_book_whom)) (Sl.val s7.2) <|
      mDeref a0 fun ad27 =>
      mDeref a0 fun ad28 =>
      mLoad cMap (ad28.add 4) fun x29 =>
      mLookup (eqV Try.prog 40 3) Sl.val Sl.nil x29 (Value.int .i64 a2.To) fun r30 =>
      mJoin (fun (s31 : Option Nat × Sl) =>
        mMapSet (eqV Try.prog 40 3) s31.1 (Value.int .i64 a2.To) (Sl.val s31.2) <|
        K ()
        ) (fun j32 =>
        mBoth (
          mLoad cMap (ad27.add 4) fun x33 =>
          mApp 81 3 24 #[(Value.int .i64 0), (Value.int .u64 0), (Value.int .u64 0)] 1 [(Value.int .i64 a2.Cap.Obj), (Value.int .u64 a2.Cap.Pass.Hi), (Value.int .u64 a2.Cap.Pass.Lo)] r30.1 fun s34 =>
          j32 (x33, s34)
          ) (
          mApp 81 3 24 #[(Value.int .i64 0), (Value.int .u64 0), (Value.int .u64 0)] 1 [(Value.int .i64 a2.Cap.Obj), (Value.int .u64 a2.Cap.Pass.Hi), (Value.int .u64 a2.Cap.Pass.Lo)] r30.1 fun s35 =>
          mLoad cMap (ad27.add 4) fun x36 =>
          j32 (x36, s35)
          ))
      ) (fun j8 =>
      mBoth (
        mLoad cMap (ad6.add 3) fun x9 =>
        mBoth (
          m_slices_Clone_book_Link_book_Link a1 fun r10 =>
          mApp 93 7 56 #[(Value.int .i64 0), (Value.int .i64 0), (Value.int .i64 0), (Value.int .i64 0), (Value.int .i64 0), (Value.int .u64 0), (Value.int .u64 0)] 1 [(Value.int .i64 x5), (Value.int .i64 a2.Kind), (Value.int .i64 a2.By), (Value.int .i64 a2.To), (Value.int .i64 a2.Cap.Obj), (Value.int .u64 a2.Cap.Pass.Hi), (Value.int .u64 a2.Cap.Pass.Lo)] r10 fun s11 =>
          j8 (x9, s11)
          ) (
          m_slices_Clone_book_Link_book_Link a1 fun r12 =>
          mApp 93 7 56 #[(Value.int .i64 0), (Value.int .i64 0), (Value.int .i64 0), (Value.int .i64 0), (Value.int .i64 0), (Value.int .u64 0), (Value.int .u64 0)] 1 [(Value.int .i64 x5), (Value.int .i64 a2.Kind), (Value.int .i64 a2.By), (Value.int .i64 a2.To), (Value.int .i64 a2.Cap.Obj), (Value.int .u64 a2.Cap.Pass.Hi), (Value.int .u64 a2.Cap.Pass.Lo)] r12 fun s13 =>
          j8 (x9, s13)
          )
        ) (
        mBoth (
          m_slices_Clone_book_Link_book_Link a1 fun r14 =>
          mBoth (
            mLoad cMap (ad6.add 3) fun x15 =>
            mApp 93 7 56 #[(Value.int .i64 0), (Value.int .i64 0), (Value.int .i64 0), (Value.int .i64 0), (Value.int .i64 0), (Value.int .u64 0), (Value.int .u64 0)] 1 [(Value.int .i64 x5), (Value.int .i64 a2.Kind), (Value.int .i64 a2.By), (Value.int .i64 a2.To), (Value.int .i64 a2.Cap.Obj), (Value.int .u64 a2.Cap.Pass.Hi), (Value.int .u64 a2.Cap.Pass.Lo)] r14 fun s16 =>
            j8 (x15, s16)
            ) (
            mApp 93 7 56 #[(Value.int .i64 0), (Value.int .i64 0), (Value.int .i64 0), (Value.int .i64 0), (Value.int .i64 0), (Value.int .u64 0), (Value.int .u64 0)] 1 [(Value.int .i64 x5), (Value.int .i64 a2.Kind), (Value.int .i64 a2.By), (Value.int .i64 a2.To), (Value.int .i64 a2.Cap.Obj), (Value.int .u64 a2.Cap.Pass.Hi), (Value.int .u64 a2.Cap.Pass.Lo)] r14 fun s17 =>
            mLoad cMap (ad6.add 3) fun x18 =>
            j8 (x18, s17)
            )
          ) (
          mBoth (
            mLoad cMap (ad6.add 3) fun x19 =>
            m_slices_Clone_book_Link_book_Link a1 fun r20 =>
            mApp 93 7 56 #[(Value.int .i64 0), (Value.int .i64 0), (Value.int .i64 0), (Value.int .i64 0), (Value.int .i64 0), (Value.int .u64 0), (Value.int .u64 0)] 1 [(Value.int .i64 x5), (Value.int .i64 a2.Kind), (Value.int .i64 a2.By), (Value.int .i64 a2.To), (Value.int .i64 a2.Cap.Obj), (Value.int .u64 a2.Cap.Pass.Hi), (Value.int .u64 a2.Cap.Pass.Lo)] r20 fun s21 =>
            j8 (x19, s21)
            ) (
            m_slices_Clone_book_Link_book_Link a1 fun r22 =>
            mBoth (
              mLoad cMap (ad6.add 3) fun x23 =>
              mApp 93 7 56 #[(Value.int .i64 0), (Value.int .i64 0), (Value.int .i64 0), (Value.int .i64 0), (Value.int .i64 0), (Value.int .u64 0), (Value.int .u64 0)] 1 [(Value.int .i64 x5), (Value.int .i64 a2.Kind), (Value.int .i64 a2.By), (Value.int .i64 a2.To), (Value.int .i64 a2.Cap.Obj), (Value.int .u64 a2.Cap.Pass.Hi), (Value.int .u64 a2.Cap.Pass.Lo)] r22 fun s24 =>
              j8 (x23, s24)
              ) (
              mApp 93 7 56 #[(Value.int .i64 0), (Value.int .i64 0), (Value.int .i64 0), (Value.int .i64 0), (Value.int .i64 0), (Value.int .u64 0), (Value.int .u64 0)] 1 [(Value.int .i64 x5), (Value.int .i64 a2.Kind), (Value.int .i64 a2.By), (Value.int .i64 a2.To), (Value.int .i64 a2.Cap.Obj), (Value.int .u64 a2.Cap.Pass.Hi), (Value.int .u64 a2.Cap.Pass.Lo)] r22 fun s25 =>
              mLoad cMap (ad6.add 3) fun x26 =>
              j8 (x26, s25)
              )
            )
          )
        ))
    )
def x_book_Book_tell : Cx Try.prog := ⟨tys, [s_book_look_book_whom_book_Link, s_slices_Clone_book_Link_book_Link], [5, 6, 37, 54], [], mixed⟩
def h_book_Book_tell : Hint := (.seq .d (.seq .d (.seq (.seq (.reg (.run [0, 4, 8, 17, 14, 23, 24, 28, 32, 36, 40] .nil)) .d) (.seq .d (.seq (.reg (.run [0, 4, 8, 20, 17, 29] (.join [.slot 32 tMap, .slot 38 tSl] 450971566080 [] (.alt 3 (.both 6 8 (.run [34, 39] .nil) (.run [27, 39] .nil)) (.both 6 8 (.run [34] (.both 3 9 (.run [39] .nil) (.run [14] .nil))) (.both 3 6 (.run [27, 39] .nil) (.both 3 9 (.run [39] .nil) (.run [14] .nil))))) (.run [43] .nil)))) (.reg (.run [0, 4, 8, 16, 24, 28, 32, 40, 52, 21, 45, 57, 38, 50, 62] (.join [.slot 42 tMap, .slot 55 tSl] 36033195065475072 [] (.both 3 16 (.run [67] .nil) (.run [14] .nil)) (.run [71] .nil)))))))))
theorem w_book_Book_tell : ∀ (a : Den [tPtr, tSl, S_book_Link.ty]) (K : Den [] → HP) (h : H), m_book_Book_tell a.1 a.2.1 a.2.2 K h = wpF x_book_Book_tell Try.f66 [tPtr, tSl, S_book_Link.ty] [] h_book_Book_tell a K h := fun a K h => by kernel_rfl
def s_book_Book_tell : Spec Try.prog := mkSpec x_book_Book_tell 66 Try.f66 [tPtr, tSl, S_book_Link.ty] [] false h_book_Book_tell (fun a => m_book_Book_tell a.1 a.2.1 a.2.2) w_book_Book_tell callee66 rfl
/-! sesame/book.look[sesame/api.Cap,sesame/book.token] -/
def m_book_look_api_Cap_book_token (a0 : Option Nat) (a1 : S_api_Cap) (K : (S_book_token × Bool) → H → Prop) : H → Prop :=
  mLookup (eqV Try.prog 40 81) S_book_token.val (⟨0, ⟨0, ⟨0, 0⟩⟩, false⟩ : S_book_token) a0 (S_api_Cap.val a1) fun r1 =>
  K (r1.1, r1.2)
def x_book_look_api_Cap_book_token : Cx Try.prog := ⟨tys, [], [3, 4, 6], [], mixed⟩
def h_book_look_api_Cap_book_token : Hint := .d
theorem w_book_look_api_Cap_book_token : ∀ (a : Den [tMap, S_api_Cap.ty]) (K : Den [S_book_token.ty, tBool] → HP) (h : H), m_book_look_api_Cap_book_token a.1 a.2 K h = wpF x_book_look_api_Cap_book_token Try.f77 [tMap, S_api_Cap.ty] [S_book_token.ty, tBool] h_book_look_api_Cap_book_token a K h := fun a K h => by kernel_rfl
def s_book_look_api_Cap_book_token : Spec Try.prog := mkSpec x_book_look_api_Cap_book_token 77 Try.f77 [tMap, S_api_Cap.ty] [S_book_token.ty, tBool] false h_book_look_api_Cap_book_token (fun a => m_book_look_api_Cap_book_token a.1 a.2) w_book_look_api_Cap_book_token callee77 rfl
/-! (*sesame/book.Book).under -/
def m_book_Book_under (a0 : Option Addr) (a1 : S_api_Cap) (a2 : S_api_Cap) (K : (Bool) → H → Prop) : H → Prop :=
  mDeref a0 fun ad1 =>
  mLoad cMap (ad1.add 1) fun x2 =>
  mMapLen x2 fun n3 =>
  mLoop (fun (rec5 : (Int × Int × Int × Int) → H → Prop) (s4 : Int × Int × Int × Int) =>
    mIf (decide (s4.1 < (iAdd .i64 n3 1))) (
      mIf ((decide (s4.2.1 = a2.Obj)) && (((decide (s4.2.2.1 = a2.Pass.Hi)) && ((decide (s4.2.2.2 = a2.Pass.Lo)) && true)) && true)) (
        K true
        ) (
        mDeref a0 fun ad6 =>
        mLoad cMap (ad6.add 1) fun x7 =>
        mJoin (fun (s8 : Addr × S_book_token × Bool) =>
          mStore s8.1 [(Value.int .i64 s8.2.1.xrights), (Value.int .i64 s8.2.1.xparent.Obj), (Value.int .u64 s8.2.1.xparent.Pass.Hi), (Value.int .u64 s8.2.1.xparent.Pass.Lo), (Value.bool s8.2.1.xroot)] <|
          mJoin (fun (s15 : Bool) =>
            mIf s15 (
              K false
              ) (
              mLoad S_api_Cap.cells (s8.1.add 1) fun x17 =>
              rec5 ((iAdd .i64 s4.1 1), x17.Obj, x17.Pass.Hi, x17.Pass.Lo)
              )
            ) (fun j16 =>
            mIf (!s8.2.2) (
              j16 true
              ) (
              mLoad cBool (s8.1.add 4) fun x18 =>
              j16 x18
              ))
          ) (fun j9 =>
          mBoth (
            m_book_look_api_Cap_book_token x7 (⟨s4.2.1, ⟨s4.2.2.1, s4.2.2.2⟩⟩ : S_api_Cap) fun r10 =>
            mNew 121 #[(Value.int .i64 0), (Value.int .i64 0), (Value.int .u64 0), (Value.int .u64 0), (Value.bool false)] fun ad11 =>
            j9 (ad11, r10.1, r10.2)
            ) (
            mNew 121 #[(Value.int .i64 0), (Value.int .i64 0), (Value.int .u64 0), (Value.int .u64 0), (Value.bool false)] fun ad12 =>
            m_book_look_api_Cap_book_token x7 (⟨s4.2.1, ⟨s4.2.2.1, s4.2.2.2⟩⟩ : S_api_Cap) fun r13 =>
            j9 (ad12, r13.1, r13.2)
            ))
        )
      ) (
      K false
      )
    ) (0, a1.Obj, a1.Pass.Hi, a1.Pass.Lo)
def x_book_Book_under : Cx Try.prog := ⟨tys, [s_book_look_api_Cap_book_token], [4, 5], [], mixed⟩
def h_book_Book_under : Hint := (.seq .d (.seq (.seq .d (.blk (.loop [.slot 15 (tInt .i64), .cell 4 0 (tInt .i64), .cell 4 1 (tInt .u64), .cell 4 2 (tInt .u64)] 274877874624 [4] (.seq .d (.seq .d (.seq (.blk (.seq .d (.seq (.reg (.run [0, 4, 8, 17, 14] (.join [.slot 7 tAdr, .slot 27 S_book_token.ty, .slot 28 tBool] 470810752 [] (.both 5 9 (.run [24, 28, 32, 38] .nil) (.run [23, 24, 28, 32] .nil)) (.run [43, 44] .nil)))) (.seq (.seq (.reg (.run [3, 7, 11] (.join [.slot 34 tBool] 30064771072 [] (.split 31 (.run [15, 19, 23] .nil) (.run [15, 19, 23] .nil)) .nil))) .d) .d)))) .d)))))) .d))
theorem w_book_Book_under : ∀ (a : Den [tPtr, S_api_Cap.ty, S_api_Cap.ty]) (K : Den [tBool] → HP) (h : H), m_book_Book_under a.1 a.2.1 a.2.2 K h = wpF x_book_Book_under Try.f80 [tPtr, S_api_Cap.ty, S_api_Cap.ty] [tBool] h_book_Book_under a K h := fun a K h => by kernel_rfl
def s_book_Book_under : Spec Try.prog := mkSpec x_book_Book_under 80 Try.f80 [tPtr, S_api_Cap.ty, S_api_Cap.ty] [tBool] false h_book_Book_under (fun a => m_book_Book_under a.1 a.2.1 a.2.2) w_book_Book_under callee80 rfl
/-! (*sesame/book.Book).revoked -/
def m_book_Book_revoked (a0 : Option Addr) (a1 : S_api_Cap) (K : (Unit) → H → Prop) : H → Prop :=
  mDeref a0 fun ad1 =>
  mLoad cMap (ad1.add 1) fun x2 =>
  mRange x2 fun it3 =>
  mLoop (fun (rec5 : Sl → H → Prop) (s4 : Sl) =>
    mNext it3 fun n6 =>
    mIf n6.1 (
      mEntry S_api_Cap.val S_book_token.val it3 fun e7 =>
      m_book_Book_under a0 e7.1 a1 fun r8 =>
      mIf r8 (
        mApp 81 3 24 #[(Value.int .i64 0), (Value.int .u64 0), (Value.int .u64 0)] 1 [(Value.int .i64 e7.1.Obj), (Value.int .u64 e7.1.Pass.Hi), (Value.int .u64 e7.1.Pass.Lo)] s4 fun s9 =>
        rec5 s9
        ) (
        rec5 s4
        )
      ) (
      mLoop (fun (rec11 : Int → H → Prop) (s10 : Int) =>
        mIf (decide (s10 < (s4.len : Int))) (
          mIdx s4 s10 3 fun ad12 =>
          mLoad S_api_Cap.cells ad12 fun x13 =>
          mDeref a0 fun ad14 =>
          mLoad cMap (ad14.add 1) fun x15 =>
          mMapDel (eqV Try.prog 40 81) x15 (S_api_Cap.val x13) <|
          rec11 (iAdd .i64 s10 1)
          ) (
          K ()
          )
        ) 0
      )
    ) Sl.nil
def x_book_Book_revoked : Cx Try.prog := ⟨tys, [s_book_Book_under], [3, 5, 7, 23], [(15, 81, 121)], mixed⟩
def h_book_Book_revoked : Hint := (.seq .d (.seq .d (.seq (.seq .d (.blk (.loop [.slot 4 tSl] 33546288 [] .d))) (.seq .d (.blk (.loop [.slot 27 (tInt .i64)] 137304735872 [] (.seq .d (.seq .d (.seq (.blk (.seq .d (.reg (.run [0, 4, 8, 17, 14, 23] .nil)))) .d)))))))))
theorem w_book_Book_revoked : ∀ (a : Den [tPtr, S_api_Cap.ty]) (K : Den [] → HP) (h : H), m_book_Book_revoked a.1 a.2 K h = wpF x_book_Book_revoked Try.f68 [tPtr, S_api_Cap.ty] [] h_book_Book_revoked a K h := fun a K h => by kernel_rfl
def s_book_Book_revoked : Spec Try.prog := mkSpec x_book_Book_revoked 68 Try.f68 [tPtr, S_api_Cap.ty] [] false h_book_Book_revoked (fun a => m_book_Book_revoked a.1 a.2) w_book_Book_revoked callee68 rfl
/-! (*sesame/book.Book).destroyed -/
def m_book_Book_destroyed (a0 : Option Addr) (a1 : Int) (K : (Unit) → H → Prop) : H → Prop :=
  mDeref a0 fun ad1 =>
  mLoad cMap (ad1.add 1) fun x2 =>
  mRange x2 fun it3 =>
  mLoop (fun (rec5 : Sl → H → Prop) (s4 : Sl) =>
    mNext it3 fun n6 =>
    mIf n6.1 (
      mEntry S_api_Cap.val S_book_token.val it3 fun e7 =>
      mIf (decide (e7.1.Obj = a1)) (
        mApp 81 3 24 #[(Value.int .i64 0), (Value.int .u64 0), (Value.int .u64 0)] 1 [(Value.int .i64 e7.1.Obj), (Value.int .u64 e7.1.Pass.Hi), (Value.int .u64 e7.1.Pass.Lo)] s4 fun s8 =>
        rec5 s8
        ) (
        rec5 s4
        )
      ) (
      mLoop (fun (rec10 : Int → H → Prop) (s9 : Int) =>
        mIf (decide (s9 < (s4.len : Int))) (
          mIdx s4 s9 3 fun ad11 =>
          mLoad S_api_Cap.cells ad11 fun x12 =>
          mDeref a0 fun ad13 =>
          mLoad cMap (ad13.add 1) fun x14 =>
          mMapDel (eqV Try.prog 40 81) x14 (S_api_Cap.val x12) <|
          rec10 (iAdd .i64 s9 1)
          ) (
          K ()
          )
        ) 0
      )
    ) Sl.nil
def x_book_Book_destroyed : Cx Try.prog := ⟨tys, [], [5, 7, 23], [(15, 81, 121)], mixed⟩
def h_book_Book_destroyed : Hint := (.seq .d (.seq (.seq .d (.blk (.loop [.slot 4 tSl] 33546288 [] .d))) (.seq .d (.blk (.loop [.slot 27 (tInt .i64)] 137304735872 [] (.seq .d (.seq .d (.seq (.blk (.seq .d (.reg (.run [0, 4, 8, 17, 14, 23] .nil)))) .d))))))))
theorem w_book_Book_destroyed : ∀ (a : Den [tPtr, (tInt .i64)]) (K : Den [] → HP) (h : H), m_book_Book_destroyed a.1 a.2 K h = wpF x_book_Book_destroyed Try.f69 [tPtr, (tInt .i64)] [] h_book_Book_destroyed a K h := fun a K h => by kernel_rfl
def s_book_Book_destroyed : Spec Try.prog := mkSpec x_book_Book_destroyed 69 Try.f69 [tPtr, (tInt .i64)] [] false h_book_Book_destroyed (fun a => m_book_Book_destroyed a.1 a.2) w_book_Book_destroyed callee69 rfl
/-! sesame/book.look[int,map[int]sesame/book.laid] -/
def m_book_look_int_map_int_book_laid (a0 : Option Nat) (a1 : Int) (K : (Option Nat × Bool) → H → Prop) : H → Prop :=
  mLookup (eqV Try.prog 40 3) Value.map none a0 (Value.int .i64 a1) fun r1 =>
  K (r1.1, r1.2)
def x_book_look_int_map_int_book_laid : Cx Try.prog := ⟨tys, [], [], [], mixed⟩
def h_book_look_int_map_int_book_laid : Hint := .d
theorem w_book_look_int_map_int_book_laid : ∀ (a : Den [tMap, (tInt .i64)]) (K : Den [tMap, tBool] → HP) (h : H), m_book_look_int_map_int_book_laid a.1 a.2 K h = wpF x_book_look_int_map_int_book_laid Try.f81 [tMap, (tInt .i64)] [tMap, tBool] h_book_look_int_map_int_book_laid a K h := fun a K h => by kernel_rfl
def s_book_look_int_map_int_book_laid : Spec Try.prog := mkSpec x_book_look_int_map_int_book_laid 81 Try.f81 [tMap, (tInt .i64)] [tMap, tBool] false h_book_look_int_map_int_book_laid (fun a => m_book_look_int_map_int_book_laid a.1 a.2) w_book_look_int_map_int_book_laid callee81 rfl
/-! sesame/book.look[int,sesame/book.laid] -/
def m_book_look_int_book_laid (a0 : Option Nat) (a1 : Int) (K : (S_book_laid × Bool) → H → Prop) : H → Prop :=
  mLookup (eqV Try.prog 40 3) S_book_laid.val (⟨0, ⟨0, ⟨0, 0⟩⟩, Sl.nil⟩ : S_book_laid) a0 (Value.int .i64 a1) fun r1 =>
  K (r1.1, r1.2)
def x_book_look_int_book_laid : Cx Try.prog := ⟨tys, [], [4, 6], [], mixed⟩
def h_book_look_int_book_laid : Hint := .d
theorem w_book_look_int_book_laid : ∀ (a : Den [tMap, (tInt .i64)]) (K : Den [S_book_laid.ty, tBool] → HP) (h : H), m_book_look_int_book_laid a.1 a.2 K h = wpF x_book_look_int_book_laid Try.f82 [tMap, (tInt .i64)] [S_book_laid.ty, tBool] h_book_look_int_book_laid a K h := fun a K h => by kernel_rfl
def s_book_look_int_book_laid : Spec Try.prog := mkSpec x_book_look_int_book_laid 82 Try.f82 [tMap, (tInt .i64)] [S_book_laid.ty, tBool] false h_book_look_int_book_laid (fun a => m_book_look_int_book_laid a.1 a.2) w_book_look_int_book_laid callee82 rfl
/-! (*sesame/book.Book).read -/
def m_book_Book_read (a0 : Option Addr) (a1 : S_api_Call) (a2 : Int) (K : (Unit) → H → Prop) : H → Prop :=
  mDeref a0 fun ad1 =>
  mLoad cMap (ad1.add 5) fun x2 =>
  m_book_look_int_map_int_book_laid x2 a1.Cap.Obj fun r3 =>
  mLoop (fun (rec5 : Int → H → Prop) (s4 : Int) =>
    mIf (decide ((iAdd .i64 s4 24) ≤ (iAdd .i64 a1.Off a2))) (
      m_book_look_int_book_laid r3.1 s4 fun r6 =>
      mIf r6.2 (
        m_book_Book_tell a0 r6.1.xway (⟨0, 3, r6.1.xby, a1.By, ⟨r6.1.xc.Obj, ⟨r6.1.xc.Pass.Hi, r6.1.xc.Pass.Lo⟩⟩⟩ : S_book_Link) fun _ =>
        rec5 (iAdd .i64 s4 1)
        ) (
        rec5 (iAdd .i64 s4 1)
        )
      ) (
      K ()
      )
    ) a1.Off
def x_book_Book_read : Cx Try.prog := ⟨tys, [s_book_Book_tell, s_book_look_int_map_int_book_laid, s_book_look_int_book_laid], [4, 9], [], mixed⟩
def h_book_Book_read : Hint := (.seq .d (.seq (.reg (.run [0, 4, 8, 16, 20, 25, 14, 31, 32, 36, 40, 44, 48] .nil)) (.seq .d (.blk (.loop [.slot 8 (tInt .i64)] 2251799796909824 [] .d)))))
theorem w_book_Book_read : ∀ (a : Den [tPtr, S_api_Call.ty, (tInt .i64)]) (K : Den [] → HP) (h : H), m_book_Book_read a.1 a.2.1 a.2.2 K h = wpF x_book_Book_read Try.f70 [tPtr, S_api_Call.ty, (tInt .i64)] [] h_book_Book_read a K h := fun a K h => by kernel_rfl
def s_book_Book_read : Spec Try.prog := mkSpec x_book_Book_read 70 Try.f70 [tPtr, S_api_Call.ty, (tInt .i64)] [] false h_book_Book_read (fun a => m_book_Book_read a.1 a.2.1 a.2.2) w_book_Book_read callee70 rfl
/-! sesame/book.number -/
def m_book_number (a0 : Sl) (K : (Int) → H → Prop) : H → Prop :=
  mLoop (fun (rec2 : (Int × Int) → H → Prop) (s1 : Int × Int) =>
    mIf (decide (s1.2 < 8)) (
      mIdx a0 s1.2 1 fun ad3 =>
      mLoad (cInt .u8) ad3 fun x4 =>
      mNN (iMul .i64 8 s1.2) <|
      rec2 ((iOr .u64 s1.1 (iShl .u64 (IntKind.wrap .u64 x4) (iMul .i64 8 s1.2))), (iAdd .i64 s1.2 1))
      ) (
      K s1.1
      )
    ) (0, 0)
def x_book_number : Cx Try.prog := ⟨tys, [], [], [], mixed⟩
def h_book_number : Hint := (.seq .d (.seq .d (.seq (.seq .d (.blk (.loop [.slot 3 (tInt .u64), .slot 5 (tInt .i64)] 524280 [] .d))) .d)))
theorem w_book_number : ∀ (a : Den [tSl]) (K : Den [(tInt .u64)] → HP) (h : H), m_book_number a K h = wpF x_book_number Try.f84 [tSl] [(tInt .u64)] h_book_number a K h := fun a K h => by kernel_rfl
def s_book_number : Spec Try.prog := mkSpec x_book_number 84 Try.f84 [tSl] [(tInt .u64)] false h_book_number (fun a => m_book_number a) w_book_number callee84 rfl
/-! sesame/book.capOf -/
def m_book_capOf (a0 : Sl) (K : (S_api_Cap × Bool) → H → Prop) : H → Prop :=
  m_book_number a0 fun r1 =>
  mCut a0 16 (a0.len : Int) 1 fun s2 =>
  mCut a0 8 (a0.len : Int) 1 fun s3 =>
  m_book_number s2 fun r4 =>
  m_book_number s3 fun r5 =>
  K ((⟨(IntKind.wrap .i64 r1), ⟨r4, r5⟩⟩ : S_api_Cap), (decide (r1 ≤ 4611686018427387904)))
def x_book_capOf : Cx Try.prog := ⟨tys, [s_book_number], [2], [], mixed⟩
def h_book_capOf : Hint := (.seq .d (.seq .d (.seq (.reg (.run [0, 4, 8, 12, 20, 24, 40, 44, 19, 31, 32, 36, 51, 52] .nil)) .d)))
theorem w_book_capOf : ∀ (a : Den [tSl]) (K : Den [S_api_Cap.ty, tBool] → HP) (h : H), m_book_capOf a K h = wpF x_book_capOf Try.f83 [tSl] [S_api_Cap.ty, tBool] h_book_capOf a K h := fun a K h => by kernel_rfl
def s_book_capOf : Spec Try.prog := mkSpec x_book_capOf 83 Try.f83 [tSl] [S_api_Cap.ty, tBool] false h_book_capOf (fun a => m_book_capOf a) w_book_capOf callee83 rfl
/-! (*sesame/book.Book).wrote -/
def m_book_Book_wrote (a0 : Option Addr) (a1 : S_api_Call) (K : (Unit) → H → Prop) : H → Prop :=
  mIf (decide ((a1.Data.len : Int) = 0)) (
    K ()
    ) (
    mDeref a0 fun ad1 =>
    mLoad cMap (ad1.add 5) fun x2 =>
    m_book_look_int_map_int_book_laid x2 a1.Cap.Obj fun r3 =>
    mJoin (fun (s4 : Option Nat) =>
      mLoop (fun (rec7 : Int → H → Prop) (s6 : Int) =>
        mIf (decide (s6 < (iAdd .i64 a1.Off (a1.Data.len : Int)))) (
          mMapDel (eqV Try.prog 40 3) s4 (Value.int .i64 s6) <|
          rec7 (iAdd .i64 s6 1)
          ) (
          mLoop (fun (rec9 : Int → H → Prop) (s8 : Int) =>
            mIf (decide ((iAdd .i64 s8 24) ≤ (a1.Data.len : Int))) (
              mCut a1.Data s8 (iAdd .i64 s8 24) 1 fun s10 =>
              m_book_capOf s10 fun r11 =>
              mIf (!r11.2) (
                rec9 (iAdd .i64 s8 1)
                ) (
                mDeref a0 fun ad12 =>
                mLoad cMap (ad12.add 3) fun x13 =>
                m_book_look_book_whom_book_Link x13 (⟨a1.By, ⟨r11.1.Obj, ⟨r11.1.Pass.Hi, r11.1.Pass.Lo⟩⟩⟩ : S_book_whom) fun r14 =>
                mIf r14.2 (
                  mMapSet (eqV Try.prog 40 3) s4 (Value.int .i64 (iAdd .i64 a1.Off s8)) (S_book_laid.val (⟨a1.By, ⟨r11.1.Obj, ⟨r11.1.Pass.Hi, r11.1.Pass.Lo⟩⟩, r14.1⟩ : S_book_laid)) <|
                  rec9 (iAdd .i64 s8 1)
                  ) (
                  rec9 (iAdd .i64 s8 1)
                  )
                )
              ) (
              K ()
              )
            ) 0
          )
        ) (iAdd .i64 (iSub .i64 a1.Off 24) 1)
      ) (fun j5 =>
      mIf (!r3.2) (
        mMakeMap fun m15 =>
        mDeref a0 fun ad16 =>
        mLoad cMap (ad16.add 5) fun x17 =>
        mMapSet (eqV Try.prog 40 3) x17 (Value.int .i64 a1.Cap.Obj) (Value.map m15) <|
        j5 m15
        ) (
        j5 r3.1
        )
      )
    )
def x_book_Book_wrote : Cx Try.prog := ⟨tys, [s_book_look_book_whom_book_Link, s_book_look_int_map_int_book_laid, s_book_capOf], [3, 8], [], mixed⟩
def h_book_Book_wrote : Hint := (.seq .d (.seq .d (.seq (.reg (.run [0, 4, 8, 16, 20, 25, 14, 31, 32, 36, 40, 44, 48] .nil)) (.join [.slot 4 tMap] 274743689232 [] (.seq .d (.cond (.seq .d (.reg (.run [0, 4, 8, 16, 20, 28, 25, 14, 35] .nil))) .d)) (.seq (.seq .d (.blk (.loop [.slot 6 (tInt .i64)] 18010000462970944 [] .d))) (.seq .d (.blk (.loop [.slot 7 (tInt .i64)] 158456325028510660788578422656 [] (.seq .d (.seq (.blk (.seq .d (.seq .d (.seq (.reg (.run [0, 4, 8, 16, 21, 25, 28, 14, 35, 36, 40, 44, 48, 52] .nil)) .d)))) .d))))))))))
theorem w_book_Book_wrote : ∀ (a : Den [tPtr, S_api_Call.ty]) (K : Den [] → HP) (h : H), m_book_Book_wrote a.1 a.2 K h = wpF x_book_Book_wrote Try.f71 [tPtr, S_api_Call.ty] [] h_book_Book_wrote a K h := fun a K h => by kernel_rfl
def s_book_Book_wrote : Spec Try.prog := mkSpec x_book_Book_wrote 71 Try.f71 [tPtr, S_api_Call.ty] [] false h_book_Book_wrote (fun a => m_book_Book_wrote a.1 a.2) w_book_Book_wrote callee71 rfl
/-! (*sesame/book.Book).spawned -/
def m_book_Book_spawned (a0 : Option Addr) (a1 : S_api_Call) (a2 : Int) (K : (Unit) → H → Prop) : H → Prop :=
  mDeref a0 fun ad1 =>
  mLoad cMap (ad1.add 2) fun x2 =>
  mLookup (eqV Try.prog 40 3) Sl.val Sl.nil x2 (Value.int .i64 a1.By) fun r3 =>
  mLoop (fun (rec5 : (Sl × Int) → H → Prop) (s4 : Sl × Int) =>
    mIf (decide (s4.2 < (a1.Gifts.len : Int))) (
      mIdx a1.Gifts s4.2 1 fun ad6 =>
      mLoad (cInt .i64) ad6 fun x7 =>
      mIf ((decide (x7 < 0)) || (decide ((r3.1.len : Int) ≤ x7))) (
        rec5 (s4.1, (iAdd .i64 s4.2 1))
        ) (
        mIdx r3.1 x7 3 fun ad8 =>
        mLoad S_api_Cap.cells ad8 fun x9 =>
        mApp 81 3 24 #[(Value.int .i64 0), (Value.int .u64 0), (Value.int .u64 0)] 1 [(Value.int .i64 x9.Obj), (Value.int .u64 x9.Pass.Hi), (Value.int .u64 x9.Pass.Lo)] s4.1 fun s10 =>
        mDeref a0 fun ad11 =>
        mIdx r3.1 x7 3 fun ad12 =>
        mLoad cMap (ad11.add 3) fun x13 =>
        mLoad S_api_Cap.cells ad12 fun x14 =>
        m_book_look_book_whom_book_Link x13 (⟨a1.By, ⟨x14.Obj, ⟨x14.Pass.Hi, x14.Pass.Lo⟩⟩⟩ : S_book_whom) fun r15 =>
        mIf r15.2 (
          mIdx r3.1 x7 3 fun ad16 =>
          mLoad S_api_Cap.cells ad16 fun x17 =>
          m_book_Book_tell a0 r15.1 (⟨0, 4, a1.By, a2, ⟨x17.Obj, ⟨x17.Pass.Hi, x17.Pass.Lo⟩⟩⟩ : S_book_Link) fun _ =>
          rec5 (s10, (iAdd .i64 s4.2 1))
          ) (
          rec5 (s10, (iAdd .i64 s4.2 1))
          )
        )
      ) (
      mDeref a0 fun ad19 =>
      mLoad cMap (ad19.add 2) fun x20 =>
      mMapSet (eqV Try.prog 40 3) x20 (Value.int .i64 a2) (Sl.val s4.1) <|
      K ()
      )
    ) (Sl.nil, 0)
def x_book_Book_spawned : Cx Try.prog := ⟨tys, [s_book_Book_tell, s_book_look_book_whom_book_Link], [4, 39], [], mixed⟩
def h_book_Book_spawned : Hint := (.seq .d (.seq (.reg (.run [0, 4, 8, 16, 21, 14, 26, 28] .nil)) (.seq .d (.seq (.seq .d (.blk (.loop [.slot 7 tSl, .slot 22 (tInt .i64)] 590295810358701461120 [] (.seq .d (.seq .d (.seq (.blk (.seq .d (.seq (.seq (.reg (.run [3, 7, 11] (.sel 28 33 16642998272 (.run [15, 19, 23, 27, 31] .nil) (.run [15, 19, 23, 27, 31] .nil) .nil))) .d) (.seq .d (.seq (.reg (.run [0, 4, 8, 16, 24, 28, 32, 21, 14, 38, 40, 47, 48, 52, 56, 60, 64] .nil)) (.seq .d (.cond (.reg (.run [0, 4, 8, 16, 20, 24, 28, 13, 34, 36, 43] .nil)) .d))))))) .d)))))) .d))))
theorem w_book_Book_spawned : ∀ (a : Den [tPtr, S_api_Call.ty, (tInt .i64)]) (K : Den [] → HP) (h : H), m_book_Book_spawned a.1 a.2.1 a.2.2 K h = wpF x_book_Book_spawned Try.f74 [tPtr, S_api_Call.ty, (tInt .i64)] [] h_book_Book_spawned a K h := fun a K h => by kernel_rfl
def s_book_Book_spawned : Spec Try.prog := mkSpec x_book_Book_spawned 74 Try.f74 [tPtr, S_api_Call.ty, (tInt .i64)] [] false h_book_Book_spawned (fun a => m_book_Book_spawned a.1 a.2.1 a.2.2) w_book_Book_spawned callee74 rfl
/-! (*sesame/book.Book).Note -/
def m_book_Book_Note (a0 : Option Addr) (a1 : S_api_Call) (a2 : S_api_Reply) (K : (Unit) → H → Prop) : H → Prop :=
  mDeref a0 fun ad1 =>
  mLoad (cInt .i64) (ad1.add 0) fun x2 =>
  mDeref a0 fun ad3 =>
  mStore (ad3.add 0) [(Value.int .i64 (iAdd .i64 x2 1))] <|
  mIf (!decide (a2.Code = 0)) (
    K ()
    ) (
    mIf (decide (a1.Op = 1)) (
      mDeref a0 fun ad4 =>
      mLoad cMap (ad4.add 1) fun x5 =>
      mMapSet (eqV Try.prog 40 81) x5 (S_api_Cap.val a2.Cap) (S_book_token.val (⟨31, ⟨0, ⟨0, 0⟩⟩, true⟩ : S_book_token)) <|
      m_book_Book_tell a0 Sl.nil (⟨0, 1, a1.By, a1.By, ⟨a2.Cap.Obj, ⟨a2.Cap.Pass.Hi, a2.Cap.Pass.Lo⟩⟩⟩ : S_book_Link) fun _ =>
      K ()
      ) (
      mIf (decide (a1.Op = 3)) (
        mDeref a0 fun ad7 =>
        mLoad cMap (ad7.add 1) fun x8 =>
        mMapSet (eqV Try.prog 40 81) x8 (S_api_Cap.val a2.Cap) (S_book_token.val (⟨a1.Rights, ⟨a1.Cap.Obj, ⟨a1.Cap.Pass.Hi, a1.Cap.Pass.Lo⟩⟩, false⟩ : S_book_token)) <|
        mDeref a0 fun ad9 =>
        mLoad cMap (ad9.add 3) fun x10 =>
        m_book_look_book_whom_book_Link x10 (⟨a1.By, ⟨a1.Cap.Obj, ⟨a1.Cap.Pass.Hi, a1.Cap.Pass.Lo⟩⟩⟩ : S_book_whom) fun r11 =>
        m_book_Book_tell a0 r11.1 (⟨0, 2, a1.By, a1.By, ⟨a2.Cap.Obj, ⟨a2.Cap.Pass.Hi, a2.Cap.Pass.Lo⟩⟩⟩ : S_book_Link) fun _ =>
        K ()
        ) (
        mIf (decide (a1.Op = 4)) (
          m_book_Book_revoked a0 a1.Cap fun _ =>
          K ()
          ) (
          mIf (decide (a1.Op = 2)) (
            m_book_Book_destroyed a0 a1.Cap.Obj fun _ =>
            K ()
            ) (
            mIf (decide (a1.Op = 5)) (
              m_book_Book_read a0 a1 (a2.Data.len : Int) fun _ =>
              K ()
              ) (
              mIf (decide (a1.Op = 6)) (
                m_book_Book_wrote a0 a1 fun _ =>
                K ()
                ) (
                mIf (decide (a1.Op = 7)) (
                  mDeref a0 fun ad17 =>
                  mDeref a0 fun ad18 =>
                  mLoad cMap (ad18.add 2) fun x19 =>
                  mLookup (eqV Try.prog 40 3) Sl.val Sl.nil x19 (Value.int .i64 a1.By) fun r20 =>
                  mJoin (fun (s21 : Option Nat × Sl) =>
                    mMapSet (eqV Try.prog 40 3) s21.1 (Value.int .i64 a1.By) (Sl.val s21.2) <|
                    K ()
                    ) (fun j22 =>
                    mBoth (
                      mLoad cMap (ad17.add 2) fun x23 =>
                      mBoth (
                        m_slices_Clone_api_Cap_api_Cap r20.1 fun r24 =>
                        mApp 81 3 24 #[(Value.int .i64 0), (Value.int .u64 0), (Value.int .u64 0)] 1 [(Value.int .i64 a1.Cap.Obj), (Value.int .u64 a1.Cap.Pass.Hi), (Value.int .u64 a1.Cap.Pass.Lo)] r24 fun s25 =>
                        j22 (x23, s25)
                        ) (
                        m_slices_Clone_api_Cap_api_Cap r20.1 fun r26 =>
                        mApp 81 3 24 #[(Value.int .i64 0), (Value.int .u64 0), (Value.int .u64 0)] 1 [(Value.int .i64 a1.Cap.Obj), (Value.int .u64 a1.Cap.Pass.Hi), (Value.int .u64 a1.Cap.Pass.Lo)] r26 fun s27 =>
                        j22 (x23, s27)
                        )
                      ) (
                      mBoth (
                        m_slices_Clone_api_Cap_api_Cap r20.1 fun r28 =>
                        mBoth (
                          mLoad cMap (ad17.add 2) fun x29 =>
                          mApp 81 3 24 #[(Value.int .i64 0), (Value.int .u64 0), (Value.int .u64 0)] 1 [(Value.int .i64 a1.Cap.Obj), (Value.int .u64 a1.Cap.Pass.Hi), (Value.int .u64 a1.Cap.Pass.Lo)] r28 fun s30 =>
                          j22 (x29, s30)
                          ) (
                          mApp 81 3 24 #[(Value.int .i64 0), (Value.int .u64 0), (Value.int .u64 0)] 1 [(Value.int .i64 a1.Cap.Obj), (Value.int .u64 a1.Cap.Pass.Hi), (Value.int .u64 a1.Cap.Pass.Lo)] r28 fun s31 =>
                          mLoad cMap (ad17.add 2) fun x32 =>
                          j22 (x32, s31)
                          )
                        ) (
                        mBoth (
                          mLoad cMap (ad17.add 2) fun x33 =>
                          m_slices_Clone_api_Cap_api_Cap r20.1 fun r34 =>
                          mApp 81 3 24 #[(Value.int .i64 0), (Value.int .u64 0), (Value.int .u64 0)] 1 [(Value.int .i64 a1.Cap.Obj), (Value.int .u64 a1.Cap.Pass.Hi), (Value.int .u64 a1.Cap.Pass.Lo)] r34 fun s35 =>
                          j22 (x33, s35)
                          ) (
                          m_slices_Clone_api_Cap_api_Cap r20.1 fun r36 =>
                          mBoth (
                            mLoad cMap (ad17.add 2) fun x37 =>
                            mApp 81 3 24 #[(Value.int .i64 0), (Value.int .u64 0), (Value.int .u64 0)] 1 [(Value.int .i64 a1.Cap.Obj), (Value.int .u64 a1.Cap.Pass.Hi), (Value.int .u64 a1.Cap.Pass.Lo)] r36 fun s38 =>
                            j22 (x37, s38)
                            ) (
                            mApp 81 3 24 #[(Value.int .i64 0), (Value.int .u64 0), (Value.int .u64 0)] 1 [(Value.int .i64 a1.Cap.Obj), (Value.int .u64 a1.Cap.Pass.Hi), (Value.int .u64 a1.Cap.Pass.Lo)] r36 fun s39 =>
                            mLoad cMap (ad17.add 2) fun x40 =>
                            j22 (x40, s39)
                            )
                          )
                        )
                      ))
                  ) (
                  mIf (decide (a1.Op = 8)) (
                    mDeref a0 fun ad41 =>
                    mLoad cMap (ad41.add 2) fun x42 =>
                    mLookup (eqV Try.prog 40 3) Sl.val Sl.nil x42 (Value.int .i64 a1.By) fun r43 =>
                    mIf ((decide (0 ≤ a1.Index)) && (decide (a1.Index < (r43.1.len : Int)))) (
                      mDeref a0 fun ad44 =>
                      mJoin (fun (s45 : Option Nat × Sl) =>
                        mMapSet (eqV Try.prog 40 3) s45.1 (Value.int .i64 a1.By) (Sl.val s45.2) <|
                        K ()
                        ) (fun j46 =>
                        mBoth (
                          mLoad cMap (ad44.add 2) fun x47 =>
                          m_slices_Clone_api_Cap_api_Cap r43.1 fun r48 =>
                          m_slices_Delete_api_Cap_api_Cap r48 a1.Index (iAdd .i64 a1.Index 1) fun r49 =>
                          j46 (x47, r49)
                          ) (
                          m_slices_Clone_api_Cap_api_Cap r43.1 fun r50 =>
                          mBoth (
                            mLoad cMap (ad44.add 2) fun x51 =>
                            m_slices_Delete_api_Cap_api_Cap r50 a1.Index (iAdd .i64 a1.Index 1) fun r52 =>
                            j46 (x51, r52)
                            ) (
                            m_slices_Delete_api_Cap_api_Cap r50 a1.Index (iAdd .i64 a1.Index 1) fun r53 =>
                            mLoad cMap (ad44.add 2) fun x54 =>
                            j46 (x54, r53)
                            )
                          ))
                      ) (
                      K ()
                      )
                    ) (
                    mIf (decide (a1.Op = 9)) (
                      m_book_Book_spawned a0 a1 a2.Number fun _ =>
                      K ()
                      ) (
                      mIf (decide (a1.Op = 10)) (
                        mDeref a0 fun ad56 =>
                        mLoad cMap (ad56.add 2) fun x57 =>
                        mMapDel (eqV Try.prog 40 3) x57 (Value.int .i64 a1.By) <|
                        K ()
                        ) (
                        K ()
                        )
                      )
                    )
                  )
                )
              )
            )
          )
        )
      )
    )
def x_book_Book_Note : Cx Try.prog := ⟨tys, [s_book_Book_tell, s_book_look_book_whom_book_Link, s_book_Book_revoked, s_book_Book_destroyed, s_book_Book_read, s_book_Book_wrote, s_slices_Clone_api_Cap_api_Cap, s_slices_Delete_api_Cap_api_Cap, s_book_Book_spawned], [4, 5, 119], [], mixed⟩
def h_book_Book_Note : Hint := (.seq .d (.seq .d (.seq .d (.seq .d (.blk (.seq .d (.cond (.seq (.reg (.run [0, 4, 8, 16, 24, 21, 14, 31] .nil)) .d) (.seq .d (.cond (.seq (.reg (.run [0, 4, 8, 16, 24, 32, 21, 29, 37, 40, 14, 47] .nil)) (.seq (.reg (.run [0, 4, 8, 16, 24, 21, 29, 32, 14, 39, 40, 44, 48, 52, 56] .nil)) .d)) (.seq .d (.cond .d (.seq .d (.cond .d (.seq .d (.cond .d (.seq .d (.cond .d (.seq .d (.cond (.reg (.run [0, 4, 8, 16, 24, 28, 32, 40, 56, 21, 45, 61, 38, 50] (.join [.slot 106 tMap, .slot 120 tSl] 2076999873052345658093894320693182464 [] (.alt 3 (.both 13 16 (.run [66, 71] .nil) (.run [55, 71] .nil)) (.both 13 16 (.run [66] (.both 3 17 (.run [71] .nil) (.run [14] .nil))) (.both 3 13 (.run [55, 71] .nil) (.both 3 17 (.run [71] .nil) (.run [14] .nil))))) (.run [75] .nil)))) (.seq .d (.cond (.seq (.reg (.run [0, 4, 8, 16, 21, 14, 26, 28] .nil)) (.seq (.reg (.run [3, 7, 11, 15] (.sel 133 139 1372018503425223884684326417164889428590592 (.run [19, 23, 27, 31, 35, 39] .nil) (.run [19, 23, 27, 31, 35, 39] .nil) .nil))) (.cond (.reg (.run [0, 4, 8, 16, 24, 32, 40, 21, 37, 45, 48] (.join [.slot 143 tMap, .slot 153 tSl] 11607537875835189345169341360913472163862806528 [] (.both 3 7 (.run [31, 55] .nil) (.both 3 13 (.run [55] .nil) (.run [14] .nil))) (.run [59] .nil)))) .d))) (.seq .d (.cond .d (.seq .d (.cond (.reg (.run [0, 4, 8, 16, 21, 14, 27] .nil)) .d)))))))))))))))))))))))))
theorem w_book_Book_Note : ∀ (a : Den [tPtr, S_api_Call.ty, S_api_Reply.ty]) (K : Den [] → HP) (h : H), m_book_Book_Note a.1 a.2.1 a.2.2 K h = wpF x_book_Book_Note Try.f48 [tPtr, S_api_Call.ty, S_api_Reply.ty] [] h_book_Book_Note a K h := fun a K h => by kernel_rfl
def s_book_Book_Note : Spec Try.prog := mkSpec x_book_Book_Note 48 Try.f48 [tPtr, S_api_Call.ty, S_api_Reply.ty] [] false h_book_Book_Note (fun a => m_book_Book_Note a.1 a.2.1 a.2.2) w_book_Book_Note callee48 rfl
/-! (*sesame/book.Book).Known -/
def m_book_Book_Known (a0 : Option Addr) (a1 : Int) (K : (Sl) → H → Prop) : H → Prop :=
  mDeref a0 fun ad1 =>
  mLoad cMap (ad1.add 4) fun x2 =>
  mLookup (eqV Try.prog 40 3) Sl.val Sl.nil x2 (Value.int .i64 a1) fun r3 =>
  m_slices_Clone_api_Cap_api_Cap r3.1 fun r4 =>
  K r4
def x_book_Book_Known : Cx Try.prog := ⟨tys, [s_slices_Clone_api_Cap_api_Cap], [], [], mixed⟩
def h_book_Book_Known : Hint := .d
theorem w_book_Book_Known : ∀ (a : Den [tPtr, (tInt .i64)]) (K : Den [tSl] → HP) (h : H), m_book_Book_Known a.1 a.2 K h = wpF x_book_Book_Known Try.f49 [tPtr, (tInt .i64)] [tSl] h_book_Book_Known a K h := fun a K h => by kernel_rfl
def s_book_Book_Known : Spec Try.prog := mkSpec x_book_Book_Known 49 Try.f49 [tPtr, (tInt .i64)] [tSl] false h_book_Book_Known (fun a => m_book_Book_Known a.1 a.2) w_book_Book_Known callee49 rfl
/-! (*sesame/book.Book).Way -/
def m_book_Book_Way (a0 : Option Addr) (a1 : Int) (a2 : S_api_Cap) (K : (Sl × Bool) → H → Prop) : H → Prop :=
  mDeref a0 fun ad1 =>
  mLoad cMap (ad1.add 3) fun x2 =>
  m_book_look_book_whom_book_Link x2 (⟨a1, ⟨a2.Obj, ⟨a2.Pass.Hi, a2.Pass.Lo⟩⟩⟩ : S_book_whom) fun r3 =>
  m_slices_Clone_book_Link_book_Link r3.1 fun r4 =>
  K (r4, r3.2)
def x_book_Book_Way : Cx Try.prog := ⟨tys, [s_book_look_book_whom_book_Link, s_slices_Clone_book_Link_book_Link], [5], [], mixed⟩
def h_book_Book_Way : Hint := (.seq .d (.seq (.reg (.run [0, 4, 8, 16, 21, 24, 14, 31, 32, 36, 40, 44, 48] .nil)) .d))
theorem w_book_Book_Way : ∀ (a : Den [tPtr, (tInt .i64), S_api_Cap.ty]) (K : Den [tSl, tBool] → HP) (h : H), m_book_Book_Way a.1 a.2.1 a.2.2 K h = wpF x_book_Book_Way Try.f51 [tPtr, (tInt .i64), S_api_Cap.ty] [tSl, tBool] h_book_Book_Way a K h := fun a K h => by kernel_rfl
def s_book_Book_Way : Spec Try.prog := mkSpec x_book_Book_Way 51 Try.f51 [tPtr, (tInt .i64), S_api_Cap.ty] [tSl, tBool] false h_book_Book_Way (fun a => m_book_Book_Way a.1 a.2.1 a.2.2) w_book_Book_Way callee51 rfl
end Go.Proofs.Ytnmaknkbdfpbkaa.K
