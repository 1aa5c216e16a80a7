/- Functions of the program, printed by a program of mine: store_New, store_paged, store_Store_May, store_Store_Create, store_Store_Free, store_Store_ranged, store_object_pieces, store_Store_Read_1, store_Store_Read, store_Store_Write_1, store_Store_Write, store_Store_Next, store_Store_Destroy, store_Store_Ids, store_Store_SetNext, store_Store_Size -/
import Derived.Test.YteeaelemfalkbaaT
import Derived.Test.YteeaelemfalkbaaFarena
import Derived.Test.YteeaelemfalkbaaFslicesx2
namespace Go.Proofs.Yteeaelemfalkbaa.K
open Go Go.Proofs
/-! sesame/store.New -/
def m_store_New (a0 : Int) (a1 : Int) (K : (Option Addr × Int) → H → Prop) : H → Prop :=
  mIf ((((decide (a0 < 1)) || (decide (64 < a0))) || (decide (a1 < 1))) || (decide (256 < a1))) (
    K (none, 16)
    ) (
    m_arena_New a1 fun r1 =>
    mIf (!decide (r1.2 = 0)) (
      K (none, r1.2)
      ) (
      mMakeMap fun m2 =>
      mNew 124 #[(Value.int .i64 a0), (Value.int .i64 1), (Value.map m2), (Value.pointer r1.1)] fun ad3 =>
      K ((some ad3), 0)
      )
    )
def x_store_New : Cx Try.prog := ⟨tys, [s_arena_New], [], [], mixed⟩
def h_store_New : Hint := (.seq .d (.seq (.seq (.reg (.run [3, 7, 11] (.sel 10 13 14336 (.run [15, 19, 23] .nil) (.run [15, 19, 23] .nil) (.run [27] (.sel 14 17 229376 (.run [31, 35, 39] .nil) (.run [31, 35, 39] .nil) (.run [43] (.sel 18 21 3670016 (.run [47, 51, 55] .nil) (.run [47, 51, 55] .nil) .nil))))))) .d) .d))
theorem w_store_New : ∀ (a : Den [(tInt .i64), (tInt .i64)]) (K : Den [tPtr, (tInt .i64)] → HP) (h : H), m_store_New a.1 a.2 K h = wpF x_store_New Try.f16 [(tInt .i64), (tInt .i64)] [tPtr, (tInt .i64)] h_store_New a K h := fun a K h => by kernel_rfl
def s_store_New : Spec Try.prog := mkSpec x_store_New 16 Try.f16 [(tInt .i64), (tInt .i64)] [tPtr, (tInt .i64)] false h_store_New (fun a => m_store_New a.1 a.2) w_store_New callee16 rfl
/-! sesame/store.paged -/
def m_store_paged (a0 : Int) (K : (Int) → H → Prop) : H → Prop :=
  K (iQuo .i64 (iSub .i64 (iAdd .i64 a0 64) 1) 64)
def x_store_paged : Cx Try.prog := ⟨tys, [], [], [], mixed⟩
def h_store_paged : Hint := .d
theorem w_store_paged : ∀ (a : Den [(tInt .i64)]) (K : Den [(tInt .i64)] → HP) (h : H), m_store_paged a K h = wpF x_store_paged Try.f70 [(tInt .i64)] [(tInt .i64)] h_store_paged a K h := fun a K h => by kernel_rfl
def s_store_paged : Spec Try.prog := mkSpec x_store_paged 70 Try.f70 [(tInt .i64)] [(tInt .i64)] true h_store_paged (fun a => m_store_paged a) w_store_paged callee70 rfl
/-! (*sesame/store.Store).May -/
def m_store_Store_May (a0 : Option Addr) (a1 : Int) (K : (Int) → H → Prop) : H → Prop :=
  mIf ((decide (a1 < 0)) || (decide (4096 < a1))) (
    K 6
    ) (
    mDeref a0 fun ad1 =>
    mDeref a0 fun ad2 =>
    mLoad cMap (ad1.add 2) fun x3 =>
    mMapLen x3 fun n4 =>
    mLoad (cInt .i64) (ad2.add 0) fun x5 =>
    mJoin (fun (s8 : Bool) =>
      mIf s8 (
        K 7
        ) (
        mPure (m_store_paged a1) fun r10 =>
        mDeref a0 fun ad11 =>
        mLoad cPtr (ad11.add 3) fun x12 =>
        m_arena_Arena_Free x12 fun r13 =>
        mIf (decide (r13 < r10)) (
          K 8
          ) (
          K 0
          )
        )
      ) (fun j9 =>
      mIf (decide (x5 ≤ n4)) (
        j9 true
        ) (
        mDeref a0 fun ad14 =>
        mLoad (cInt .i64) (ad14.add 1) fun x15 =>
        j9 (decide (4611686018427387904 < x15))
        ))
    )
def x_store_Store_May : Cx Try.prog := ⟨tys, [s_store_paged, s_arena_Arena_Free], [], [], mixed⟩
def h_store_Store_May : Hint := (.seq .d (.seq (.blk (.seq (.reg (.run [3, 7, 11] (.sel 8 11 3584 (.run [15, 19, 23] .nil) (.run [15, 19, 23] .nil) (.run [27] .nil)))) (.cond .d (.seq (.reg (.run [0, 4, 8, 20, 24, 28, 14, 18, 34, 36, 40] (.join [.slot 29 tBool] 1056964608 [] (.split 23 (.run [44, 48, 52, 56, 60, 64] .nil) (.run [44, 48, 52, 58, 60, 64] .nil)) (.run [68] .nil)))) (.cond .d (.seq (.reg (.run [0, 4, 8, 12, 16, 22, 27, 28, 32] .nil)) .d)))))) .d))
theorem w_store_Store_May : ∀ (a : Den [tPtr, (tInt .i64)]) (K : Den [(tInt .i64)] → HP) (h : H), m_store_Store_May a.1 a.2 K h = wpF x_store_Store_May Try.f68 [tPtr, (tInt .i64)] [(tInt .i64)] h_store_Store_May a K h := fun a K h => by kernel_rfl
def s_store_Store_May : Spec Try.prog := mkSpec x_store_Store_May 68 Try.f68 [tPtr, (tInt .i64)] [(tInt .i64)] false h_store_Store_May (fun a => m_store_Store_May a.1 a.2) w_store_Store_May callee68 rfl
/-! (*sesame/store.Store).Create -/
def m_store_Store_Create (a0 : Option Addr) (a1 : Int) (K : (Int × Int) → H → Prop) : H → Prop :=
  m_store_Store_May a0 a1 fun r1 =>
  mIf (!decide (r1 = 0)) (
    K (0, r1)
    ) (
    mDeref a0 fun ad2 =>
    mPure (m_store_paged a1) fun r3 =>
    mLoad cPtr (ad2.add 3) fun x4 =>
    m_arena_Arena_Take x4 r3 fun r5 =>
    mIf (!decide (r5.2 = 0)) (
      K (0, r5.2)
      ) (
      mDeref a0 fun ad6 =>
      mLoad (cInt .i64) (ad6.add 1) fun x7 =>
      mDeref a0 fun ad8 =>
      mLoad cMap (ad8.add 2) fun x9 =>
      mMapSet (eqV Try.prog 40 3) x9 (Value.int .i64 x7) (S_store_object.val (⟨a1, r5.1⟩ : S_store_object)) <|
      mDeref a0 fun ad10 =>
      mLoad (cInt .i64) (ad10.add 1) fun x11 =>
      mDeref a0 fun ad12 =>
      mStore (ad12.add 1) [(Value.int .i64 (iAdd .i64 x11 1))] <|
      K (x7, 0)
      )
    )
def x_store_Store_Create : Cx Try.prog := ⟨tys, [s_store_Store_May, s_arena_Arena_Take, s_store_paged], [], [], mixed⟩
def h_store_Store_Create : Hint := (.seq .d (.seq .d (.seq (.reg (.run [0, 4, 8, 16, 20, 14, 27, 28, 32, 36, 40, 44] .nil)) .d)))
theorem w_store_Store_Create : ∀ (a : Den [tPtr, (tInt .i64)]) (K : Den [(tInt .i64), (tInt .i64)] → HP) (h : H), m_store_Store_Create a.1 a.2 K h = wpF x_store_Store_Create Try.f18 [tPtr, (tInt .i64)] [(tInt .i64), (tInt .i64)] h_store_Store_Create a K h := fun a K h => by kernel_rfl
def s_store_Store_Create : Spec Try.prog := mkSpec x_store_Store_Create 18 Try.f18 [tPtr, (tInt .i64)] [(tInt .i64), (tInt .i64)] false h_store_Store_Create (fun a => m_store_Store_Create a.1 a.2) w_store_Store_Create callee18 rfl
/-! (*sesame/store.Store).Free -/
def m_store_Store_Free (a0 : Option Addr) (K : (Int) → H → Prop) : H → Prop :=
  mDeref a0 fun ad1 =>
  mLoad cPtr (ad1.add 3) fun x2 =>
  m_arena_Arena_Free x2 fun r3 =>
  K r3
def x_store_Store_Free : Cx Try.prog := ⟨tys, [s_arena_Arena_Free], [], [], mixed⟩
def h_store_Store_Free : Hint := .d
theorem w_store_Store_Free : ∀ (a : Den [tPtr]) (K : Den [(tInt .i64)] → HP) (h : H), m_store_Store_Free a K h = wpF x_store_Store_Free Try.f19 [tPtr] [(tInt .i64)] h_store_Store_Free a K h := fun a K h => by kernel_rfl
def s_store_Store_Free : Spec Try.prog := mkSpec x_store_Store_Free 19 Try.f19 [tPtr] [(tInt .i64)] false h_store_Store_Free (fun a => m_store_Store_Free a) w_store_Store_Free callee19 rfl
/-! (*sesame/store.Store).ranged -/
def m_store_Store_ranged (a0 : Option Addr) (a1 : Int) (a2 : Int) (a3 : Int) (K : (S_store_object × Int) → H → Prop) : H → Prop :=
  mDeref a0 fun ad1 =>
  mLoad cMap (ad1.add 2) fun x2 =>
  mLookup (eqV Try.prog 40 3) S_store_object.val (⟨0, Sl.nil⟩ : S_store_object) x2 (Value.int .i64 a1) fun r3 =>
  mIf (!r3.2) (
    K ((⟨0, Sl.nil⟩ : S_store_object), 20)
    ) (
    mIf (((((decide (a2 < 0)) || (decide (a3 < 0))) || (decide (1024 < a3))) || (decide (r3.1.xsize < a2))) || (decide ((iSub .i64 r3.1.xsize a2) < a3))) (
      K ((⟨0, Sl.nil⟩ : S_store_object), 5)
      ) (
      K (r3.1, 0)
      )
    )
def x_store_Store_ranged : Cx Try.prog := ⟨tys, [], [8, 10], [], mixed⟩
def h_store_Store_ranged : Hint := (.seq .d (.seq .d (.seq .d (.seq (.seq (.reg (.run [3, 7, 11] (.sel 26 29 939524096 (.run [15, 19, 23] .nil) (.run [15, 19, 23] .nil) (.run [27] (.sel 30 33 15032385536 (.run [31, 35, 39] .nil) (.run [31, 35, 39] .nil) (.run [43] (.sel 34 39 1065151889408 (.run [47, 51, 55, 59, 63] .nil) (.run [47, 51, 55, 59, 63] .nil) (.run [67] (.sel 40 47 279275953455104 (.run [71, 75, 79, 83, 87, 91, 95] .nil) (.run [71, 75, 79, 83, 87, 91, 95] .nil) .nil))))))))) .d) .d))))
theorem w_store_Store_ranged : ∀ (a : Den [tPtr, (tInt .i64), (tInt .i64), (tInt .i64)]) (K : Den [S_store_object.ty, (tInt .i64)] → HP) (h : H), m_store_Store_ranged a.1 a.2.1 a.2.2.1 a.2.2.2 K h = wpF x_store_Store_ranged Try.f72 [tPtr, (tInt .i64), (tInt .i64), (tInt .i64)] [S_store_object.ty, (tInt .i64)] h_store_Store_ranged a K h := fun a K h => by kernel_rfl
def s_store_Store_ranged : Spec Try.prog := mkSpec x_store_Store_ranged 72 Try.f72 [tPtr, (tInt .i64), (tInt .i64), (tInt .i64)] [S_store_object.ty, (tInt .i64)] false h_store_Store_ranged (fun a => m_store_Store_ranged a.1 a.2.1 a.2.2.1 a.2.2.2) w_store_Store_ranged callee72 rfl
/-! (sesame/store.object).pieces -/
def m_store_object_pieces (a0 : S_store_object) (a1 : Int) (a2 : Int) (a3 : PV) (K : (Unit) → H → Prop) : H → Prop :=
  mLoop (fun (rec2 : Int → H → Prop) (s1 : Int) =>
    mIf (decide (s1 < a2)) (
      mIdx a0.xpages (iQuo .i64 (iAdd .i64 a1 s1) 64) 1 fun ad3 =>
      mLoad (cInt .i64) ad3 fun x4 =>
      mCallV (T := Unit) Try.prog (fun _ => Value.tuple #[]) a3.1 [(Value.int .i64 x4), (Value.int .i64 (iRem .i64 (iAdd .i64 a1 s1) 64)), (Value.int .i64 s1), (Value.int .i64 (iMin (iSub .i64 64 (iRem .i64 (iAdd .i64 a1 s1) 64)) (iSub .i64 a2 s1)))] fun _ =>
      rec2 (iAdd .i64 s1 (iMin (iSub .i64 64 (iRem .i64 (iAdd .i64 a1 s1) 64)) (iSub .i64 a2 s1)))
      ) (
      K ()
      )
    ) 0
def x_store_object_pieces : Cx Try.prog := ⟨tys, [], [4], [], mixed⟩
def h_store_object_pieces : Hint := (.seq .d (.seq .d (.blk (.loop [.slot 8 (tInt .i64)] 1099511627520 [] .d))))
theorem w_store_object_pieces : ∀ (a : Den [S_store_object.ty, (tInt .i64), (tInt .i64), tPV]) (K : Den [] → HP) (h : H), m_store_object_pieces a.1 a.2.1 a.2.2.1 a.2.2.2 K h = wpF x_store_object_pieces Try.f73 [S_store_object.ty, (tInt .i64), (tInt .i64), tPV] [] h_store_object_pieces a K h := fun a K h => by kernel_rfl
def s_store_object_pieces : Spec Try.prog := mkSpec x_store_object_pieces 73 Try.f73 [S_store_object.ty, (tInt .i64), (tInt .i64), tPV] [] false h_store_object_pieces (fun a => m_store_object_pieces a.1 a.2.1 a.2.2.1 a.2.2.2) w_store_object_pieces callee73 rfl
/-! (*sesame/store.Store).Read$1 -/
def m_store_Store_Read_1 (a0 : Int) (a1 : Int) (_a2 : Int) (a3 : Int) (a4 : Addr) (a5 : Addr) (K : (Unit) → H → Prop) : H → Prop :=
  mLoad cPtr a4 fun x1 =>
  mDeref x1 fun ad2 =>
  mLoad cPtr (ad2.add 3) fun x3 =>
  m_arena_Arena_Read x3 a0 a1 a3 fun r4 =>
  mLoad cSl a5 fun x5 =>
  mAppend 5 1 1 #[(Value.int .u8 0)] x5 r4.1 fun s6 =>
  mStore a5 [(Sl.val s6)] <|
  K ()
def x_store_Store_Read_1 : Cx Try.prog := ⟨tys, [s_arena_Arena_Read], [], [], mixed⟩
def h_store_Store_Read_1 : Hint := .d
theorem w_store_Store_Read_1 : ∀ (a : Den [(tInt .i64), (tInt .i64), (tInt .i64), (tInt .i64), tAdr, tAdr]) (K : Den [] → HP) (h : H), m_store_Store_Read_1 a.1 a.2.1 a.2.2.1 a.2.2.2.1 a.2.2.2.2.1 a.2.2.2.2.2 K h = wpF x_store_Store_Read_1 Try.f74 [(tInt .i64), (tInt .i64), (tInt .i64), (tInt .i64), tAdr, tAdr] [] h_store_Store_Read_1 a K h := fun a K h => by kernel_rfl
def s_store_Store_Read_1 : Spec Try.prog := mkSpec x_store_Store_Read_1 74 Try.f74 [(tInt .i64), (tInt .i64), (tInt .i64), (tInt .i64), tAdr, tAdr] [] false h_store_Store_Read_1 (fun a => m_store_Store_Read_1 a.1 a.2.1 a.2.2.1 a.2.2.2.1 a.2.2.2.2.1 a.2.2.2.2.2) w_store_Store_Read_1 callee74 rfl
/-! (*sesame/store.Store).Read -/
def m_store_Store_Read (a0 : Option Addr) (a1 : Int) (a2 : Int) (a3 : Int) (K : (Sl × Int) → H → Prop) : H → Prop :=
  mNew 45 #[(Value.pointer a0)] fun ad1 =>
  mLoad cPtr ad1 fun x2 =>
  m_store_Store_ranged x2 a1 a2 a3 fun r3 =>
  mIf (!decide (r3.2 = 0)) (
    K (Sl.nil, r3.2)
    ) (
    mNew 30 #[(Sl.val Sl.nil)] fun ad4 =>
    m_store_object_pieces r3.1 a2 a3 (⟨Value.func (.func 74) #[] #[(Value.pointer (some ad1)), (Value.pointer (some ad4))], rfl, rfl⟩ : PV) fun _ =>
    mLoad cSl ad4 fun x6 =>
    K (x6, 0)
    )
def x_store_Store_Read : Cx Try.prog := ⟨tys, [s_store_Store_ranged, s_store_object_pieces], [10], [], mixed⟩
def h_store_Store_Read : Hint := .d
theorem w_store_Store_Read : ∀ (a : Den [tPtr, (tInt .i64), (tInt .i64), (tInt .i64)]) (K : Den [tSl, (tInt .i64)] → HP) (h : H), m_store_Store_Read a.1 a.2.1 a.2.2.1 a.2.2.2 K h = wpF x_store_Store_Read Try.f20 [tPtr, (tInt .i64), (tInt .i64), (tInt .i64)] [tSl, (tInt .i64)] h_store_Store_Read a K h := fun a K h => by kernel_rfl
def s_store_Store_Read : Spec Try.prog := mkSpec x_store_Store_Read 20 Try.f20 [tPtr, (tInt .i64), (tInt .i64), (tInt .i64)] [tSl, (tInt .i64)] false h_store_Store_Read (fun a => m_store_Store_Read a.1 a.2.1 a.2.2.1 a.2.2.2) w_store_Store_Read callee20 rfl
/-! (*sesame/store.Store).Write$1 -/
def m_store_Store_Write_1 (a0 : Int) (a1 : Int) (a2 : Int) (a3 : Int) (a4 : Addr) (a5 : Addr) (K : (Unit) → H → Prop) : H → Prop :=
  mLoad cPtr a4 fun x1 =>
  mDeref x1 fun ad2 =>
  mLoad cPtr (ad2.add 3) fun x3 =>
  mLoad cSl a5 fun x4 =>
  mCut x4 a2 (iAdd .i64 a2 a3) 1 fun s5 =>
  m_arena_Arena_Write x3 a0 a1 s5 fun _ =>
  K ()
def x_store_Store_Write_1 : Cx Try.prog := ⟨tys, [s_arena_Arena_Write], [], [], mixed⟩
def h_store_Store_Write_1 : Hint := (.reg (.run [16, 20, 28, 32, 36, 40, 2, 4, 8, 14, 26, 44, 51] .nil))
theorem w_store_Store_Write_1 : ∀ (a : Den [(tInt .i64), (tInt .i64), (tInt .i64), (tInt .i64), tAdr, tAdr]) (K : Den [] → HP) (h : H), m_store_Store_Write_1 a.1 a.2.1 a.2.2.1 a.2.2.2.1 a.2.2.2.2.1 a.2.2.2.2.2 K h = wpF x_store_Store_Write_1 Try.f76 [(tInt .i64), (tInt .i64), (tInt .i64), (tInt .i64), tAdr, tAdr] [] h_store_Store_Write_1 a K h := fun a K h => by kernel_rfl
def s_store_Store_Write_1 : Spec Try.prog := mkSpec x_store_Store_Write_1 76 Try.f76 [(tInt .i64), (tInt .i64), (tInt .i64), (tInt .i64), tAdr, tAdr] [] false h_store_Store_Write_1 (fun a => m_store_Store_Write_1 a.1 a.2.1 a.2.2.1 a.2.2.2.1 a.2.2.2.2.1 a.2.2.2.2.2) w_store_Store_Write_1 callee76 rfl
/-! (*sesame/store.Store).Write -/
def m_store_Store_Write (a0 : Option Addr) (a1 : Int) (a2 : Int) (a3 : Sl) (K : (Int) → H → Prop) : H → Prop :=
  mNew 45 #[(Value.pointer a0)] fun ad1 =>
  mNew 30 #[(Sl.val a3)] fun ad2 =>
  mLoad cPtr ad1 fun x3 =>
  mLoad cSl ad2 fun x4 =>
  m_store_Store_ranged x3 a1 a2 (x4.len : Int) fun r5 =>
  mIf (!decide (r5.2 = 0)) (
    K r5.2
    ) (
    mLoad cSl ad2 fun x6 =>
    m_store_object_pieces r5.1 a2 (x6.len : Int) (⟨Value.func (.func 76) #[] #[(Value.pointer (some ad1)), (Value.pointer (some ad2))], rfl, rfl⟩ : PV) fun _ =>
    K 0
    )
def x_store_Store_Write : Cx Try.prog := ⟨tys, [s_store_Store_ranged, s_store_object_pieces], [9], [], mixed⟩
def h_store_Store_Write : Hint := .d
theorem w_store_Store_Write : ∀ (a : Den [tPtr, (tInt .i64), (tInt .i64), tSl]) (K : Den [(tInt .i64)] → HP) (h : H), m_store_Store_Write a.1 a.2.1 a.2.2.1 a.2.2.2 K h = wpF x_store_Store_Write Try.f22 [tPtr, (tInt .i64), (tInt .i64), tSl] [(tInt .i64)] h_store_Store_Write a K h := fun a K h => by kernel_rfl
def s_store_Store_Write : Spec Try.prog := mkSpec x_store_Store_Write 22 Try.f22 [tPtr, (tInt .i64), (tInt .i64), tSl] [(tInt .i64)] false h_store_Store_Write (fun a => m_store_Store_Write a.1 a.2.1 a.2.2.1 a.2.2.2) w_store_Store_Write callee22 rfl
/-! (*sesame/store.Store).Next -/
def m_store_Store_Next (a0 : Option Addr) (K : (Int) → H → Prop) : H → Prop :=
  mDeref a0 fun ad1 =>
  mLoad (cInt .i64) (ad1.add 1) fun x2 =>
  K x2
def x_store_Store_Next : Cx Try.prog := ⟨tys, [], [], [], mixed⟩
def h_store_Store_Next : Hint := .d
theorem w_store_Store_Next : ∀ (a : Den [tPtr]) (K : Den [(tInt .i64)] → HP) (h : H), m_store_Store_Next a K h = wpF x_store_Store_Next Try.f67 [tPtr] [(tInt .i64)] h_store_Store_Next a K h := fun a K h => by kernel_rfl
def s_store_Store_Next : Spec Try.prog := mkSpec x_store_Store_Next 67 Try.f67 [tPtr] [(tInt .i64)] false h_store_Store_Next (fun a => m_store_Store_Next a) w_store_Store_Next callee67 rfl
/-! (*sesame/store.Store).Destroy -/
def m_store_Store_Destroy (a0 : Option Addr) (a1 : Int) (K : (Int) → H → Prop) : H → Prop :=
  mDeref a0 fun ad1 =>
  mLoad cMap (ad1.add 2) fun x2 =>
  mLookup (eqV Try.prog 40 3) S_store_object.val (⟨0, Sl.nil⟩ : S_store_object) x2 (Value.int .i64 a1) fun r3 =>
  mIf (!r3.2) (
    K 20
    ) (
    mDeref a0 fun ad4 =>
    mLoad cPtr (ad4.add 3) fun x5 =>
    m_arena_Arena_Give x5 r3.1.xpages fun _ =>
    mDeref a0 fun ad7 =>
    mLoad cMap (ad7.add 2) fun x8 =>
    mMapDel (eqV Try.prog 40 3) x8 (Value.int .i64 a1) <|
    K 0
    )
def x_store_Store_Destroy : Cx Try.prog := ⟨tys, [s_arena_Arena_Give], [5], [], mixed⟩
def h_store_Store_Destroy : Hint := (.seq .d (.seq .d (.seq .d (.seq (.reg (.run [0, 4, 8, 16, 21, 14, 27] .nil)) .d))))
theorem w_store_Store_Destroy : ∀ (a : Den [tPtr, (tInt .i64)]) (K : Den [(tInt .i64)] → HP) (h : H), m_store_Store_Destroy a.1 a.2 K h = wpF x_store_Store_Destroy Try.f23 [tPtr, (tInt .i64)] [(tInt .i64)] h_store_Store_Destroy a K h := fun a K h => by kernel_rfl
def s_store_Store_Destroy : Spec Try.prog := mkSpec x_store_Store_Destroy 23 Try.f23 [tPtr, (tInt .i64)] [(tInt .i64)] false h_store_Store_Destroy (fun a => m_store_Store_Destroy a.1 a.2) w_store_Store_Destroy callee23 rfl
/-! (*sesame/store.Store).Ids -/
def m_store_Store_Ids (a0 : Option Addr) (K : (Sl) → H → Prop) : H → Prop :=
  mDeref a0 fun ad1 =>
  mLoad cMap (ad1.add 2) fun x2 =>
  mRange x2 fun it3 =>
  mLoop (fun (rec5 : Sl → H → Prop) (s4 : Sl) =>
    mNext it3 fun n6 =>
    mIf n6.1 (
      mEntry (Value.int .i64) S_store_object.val it3 fun e7 =>
      mApp 3 1 8 #[(Value.int .i64 0)] 1 [(Value.int .i64 e7.1)] s4 fun s8 =>
      rec5 s8
      ) (
      m_slices_Sort_int_int s4 fun _ =>
      K s4
      )
    ) Sl.nil
def x_store_Store_Ids : Cx Try.prog := ⟨tys, [s_slices_Sort_int_int], [16], [(12, 3, 128)], mixed⟩
def h_store_Store_Ids : Hint := (.seq .d (.seq .d (.seq (.seq .d (.blk (.loop [.slot 3 tSl] 261144 [] .d))) .d)))
theorem w_store_Store_Ids : ∀ (a : Den [tPtr]) (K : Den [tSl] → HP) (h : H), m_store_Store_Ids a K h = wpF x_store_Store_Ids Try.f24 [tPtr] [tSl] h_store_Store_Ids a K h := fun a K h => by kernel_rfl
def s_store_Store_Ids : Spec Try.prog := mkSpec x_store_Store_Ids 24 Try.f24 [tPtr] [tSl] false h_store_Store_Ids (fun a => m_store_Store_Ids a) w_store_Store_Ids callee24 rfl
/-! (*sesame/store.Store).SetNext -/
def m_store_Store_SetNext (a0 : Option Addr) (a1 : Int) (K : (Int) → H → Prop) : H → Prop :=
  mIf ((decide (a1 < 1)) || (decide (4611686018427387905 < a1))) (
    K 5
    ) (
    mDeref a0 fun ad1 =>
    mLoad cMap (ad1.add 2) fun x2 =>
    mRange x2 fun it3 =>
    mLoop (fun (rec5 : Unit → H → Prop) (_s4 : Unit) =>
      mNext it3 fun n6 =>
      mIf n6.1 (
        mEntry (Value.int .i64) S_store_object.val it3 fun e7 =>
        mIf (decide (a1 ≤ e7.1)) (
          K 5
          ) (
          rec5 ()
          )
        ) (
        mDeref a0 fun ad8 =>
        mStore (ad8.add 1) [(Value.int .i64 a1)] <|
        K 0
        )
      ) ()
    )
def x_store_Store_SetNext : Cx Try.prog := ⟨tys, [], [], [(19, 3, 128)], mixed⟩
def h_store_Store_SetNext : Hint := (.seq .d (.seq (.seq (.reg (.run [3, 7, 11] (.sel 8 11 3584 (.run [15, 19, 23] .nil) (.run [15, 19, 23] .nil) .nil))) .d) (.seq (.seq .d (.blk (.loop [] 16646192 [] .d))) .d)))
theorem w_store_Store_SetNext : ∀ (a : Den [tPtr, (tInt .i64)]) (K : Den [(tInt .i64)] → HP) (h : H), m_store_Store_SetNext a.1 a.2 K h = wpF x_store_Store_SetNext Try.f85 [tPtr, (tInt .i64)] [(tInt .i64)] h_store_Store_SetNext a K h := fun a K h => by kernel_rfl
def s_store_Store_SetNext : Spec Try.prog := mkSpec x_store_Store_SetNext 85 Try.f85 [tPtr, (tInt .i64)] [(tInt .i64)] false h_store_Store_SetNext (fun a => m_store_Store_SetNext a.1 a.2) w_store_Store_SetNext callee85 rfl
/-! (*sesame/store.Store).Size -/
def m_store_Store_Size (a0 : Option Addr) (a1 : Int) (K : (Int × Bool) → H → Prop) : H → Prop :=
  mDeref a0 fun ad1 =>
  mLoad cMap (ad1.add 2) fun x2 =>
  mLookup (eqV Try.prog 40 3) S_store_object.val (⟨0, Sl.nil⟩ : S_store_object) x2 (Value.int .i64 a1) fun r3 =>
  K (r3.1.xsize, r3.2)
def x_store_Store_Size : Cx Try.prog := ⟨tys, [], [6], [], mixed⟩
def h_store_Store_Size : Hint := .d
theorem w_store_Store_Size : ∀ (a : Den [tPtr, (tInt .i64)]) (K : Den [(tInt .i64), tBool] → HP) (h : H), m_store_Store_Size a.1 a.2 K h = wpF x_store_Store_Size Try.f90 [tPtr, (tInt .i64)] [(tInt .i64), tBool] h_store_Store_Size a K h := fun a K h => by kernel_rfl
def s_store_Store_Size : Spec Try.prog := mkSpec x_store_Store_Size 90 Try.f90 [tPtr, (tInt .i64)] [(tInt .i64), tBool] false h_store_Store_Size (fun a => m_store_Store_Size a.1 a.2) w_store_Store_Size callee90 rfl
end Go.Proofs.Yteeaelemfalkbaa.K
