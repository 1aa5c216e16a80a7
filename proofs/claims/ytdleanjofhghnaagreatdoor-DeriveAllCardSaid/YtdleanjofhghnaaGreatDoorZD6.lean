/- deriveAll: true at every input, the arguments as they were: no condition. Part 6 of 6. -/
import Derived.Test.YtdleanjofhghnaaGreatDoorZD5
namespace Go.Proofs.YtdleanjofhghnaaGreatDoor.K
open Go Go.Proofs
def m_law14_made (a0 : S_law14_World) (K : (Option Addr × Option Addr) → H → Prop) : H → Prop :=
 m_draws_New a0.Draws a0.Width fun r1 =>
 m_catalogue_New a0.Entries a0.Knob fun r2 =>
 m_quota_New a0.Each a0.Entries fun r3 =>
 mIf ((((((!decide (r1.2 = 0)) || (!decide (r2.2 = 0))) || (!decide (r3.2 = 0))) || (r1.1.isNone)) || (r2.1.isNone)) || (r3.1.isNone)) (
 K (none, none)
 ) (
 m_ref04_New a0.Draws a0.Width fun r4 =>
 m_ref11_New a0.Entries a0.Knob fun r5 =>
 m_ref12_New a0.Each a0.Entries fun r6 =>
 mNew 49 #[(Value.pointer r1.1), (Value.pointer r2.1), (Value.pointer r3.1)] fun ad7 =>
 mNew 69 #[(Value.pointer r4.1), (Value.pointer r5.1), (Value.pointer r6.1)] fun ad8 =>
 K ((some ad7), (some ad8))
 )
def x_law14_made : Cx Tryz.prog := ⟨tys, [s_draws_New, s_catalogue_New, s_quota_New, s_ref04_New, s_ref11_New, s_ref12_New], [1], [], mixed⟩
def h_law14_made : Hint := (.seq .d (.seq .d (.seq .d (.seq .d (.seq (.seq (.reg (.run [3, 7, 11] (.sel 42 45 61572651155456 (.run [15, 19, 23] .nil) (.run [15, 19, 23] .nil) (.run [27] (.sel 46 49 985162418487296 (.run [31, 35, 39] .nil) (.run [31, 35, 39] .nil) (.run [43] (.sel 50 53 15762598695796736 (.run [47, 51, 55] .nil) (.run [47, 51, 55] .nil) (.run [59] (.sel 54 57 252201579132747776 (.run [63, 67, 71] .nil) (.run [63, 67, 71] .nil) (.run [75] (.sel 58 61 4035225266123964416 (.run [79, 83, 87] .nil) (.run [79, 83, 87] .nil) .nil))))))))))) .d) .d)))))
def s_law14_made : Spec Tryz.prog := mkSpec x_law14_made 5 Tryz.f5 [S_law14_World.ty] [tPtr, tPtr] false h_law14_made (fun a => m_law14_made a) (fun a K h => by kernel_rfl) callee5 rfl
def m_law14_head (K : (Bool) → H → Prop) : H → Prop :=
 mNew 35 #[(Value.int .u64 0), (Value.int .u64 3), (Value.int .u64 0), (Value.int .u64 3), (Value.int .u64 0), (Value.int .u64 5), (Value.int .u64 0), (Value.int .u64 3)] fun ad1 =>
 m_law14_made (⟨4, 4, 3, 0, (⟨some ad1, 4, 4⟩ : Sl)⟩ : S_law14_World) fun r2 =>
 mIf (r2.1.isNone) (
 K false
 ) (
 mDeref r2.1 fun ad3 =>
 mDeref r2.1 fun ad4 =>
 mDeref r2.1 fun ad5 =>
 mLoad cPtr (ad3.add 0) fun x6 =>
 mLoad cPtr (ad4.add 1) fun x7 =>
 mLoad cPtr (ad5.add 2) fun x8 =>
 mJoin (fun (s9 : Addr × S_api_Cap × Int) =>
 mStore s9.1 [(Value.int .i64 s9.2.1.Obj), (Value.int .u64 s9.2.1.Pass.Hi), (Value.int .u64 s9.2.1.Pass.Lo)] <|
 mDeref r2.1 fun ad15 =>
 mDeref r2.1 fun ad16 =>
 mDeref r2.1 fun ad17 =>
 mLoad cPtr (ad15.add 0) fun x18 =>
 mLoad cPtr (ad16.add 1) fun x19 =>
 mLoad cPtr (ad17.add 2) fun x20 =>
 mJoin (fun (s21 : Addr × S_api_Cap × Int) =>
 mStore s21.1 [(Value.int .i64 s21.2.1.Obj), (Value.int .u64 s21.2.1.Pass.Hi), (Value.int .u64 s21.2.1.Pass.Lo)] <|
 mDeref r2.1 fun ad27 =>
 mDeref r2.1 fun ad28 =>
 mDeref r2.1 fun ad29 =>
 mLoad cPtr (ad27.add 0) fun x30 =>
 mLoad cPtr (ad28.add 1) fun x31 =>
 mLoad cPtr (ad29.add 2) fun x32 =>
 mLoad S_api_Cap.cells s9.1 fun x33 =>
 mJoin (fun (s34 : Addr × S_api_Cap × Int) =>
 mStore s34.1 [(Value.int .i64 s34.2.1.Obj), (Value.int .u64 s34.2.1.Pass.Hi), (Value.int .u64 s34.2.1.Pass.Lo)] <|
 mDeref r2.1 fun ad40 =>
 mDeref r2.1 fun ad41 =>
 mDeref r2.1 fun ad42 =>
 mLoad cPtr (ad40.add 0) fun x43 =>
 mLoad cPtr (ad41.add 1) fun x44 =>
 mLoad cPtr (ad42.add 2) fun x45 =>
 mLoad S_api_Cap.cells s34.1 fun x46 =>
 mJoin (fun (s47 : Addr × S_api_Cap × Int) =>
 mStore s47.1 [(Value.int .i64 s47.2.1.Obj), (Value.int .u64 s47.2.1.Pass.Hi), (Value.int .u64 s47.2.1.Pass.Lo)] <|
 mDeref r2.1 fun ad53 =>
 mDeref r2.1 fun ad54 =>
 mDeref r2.1 fun ad55 =>
 mLoad cPtr (ad53.add 0) fun x56 =>
 mLoad cPtr (ad54.add 1) fun x57 =>
 mLoad cPtr (ad55.add 2) fun x58 =>
 mLoad S_api_Cap.cells s34.1 fun x59 =>
 mJoin (fun (s60 : Addr × S_api_Cap × Int) =>
 mStore s60.1 [(Value.int .i64 s60.2.1.Obj), (Value.int .u64 s60.2.1.Pass.Hi), (Value.int .u64 s60.2.1.Pass.Lo)] <|
 mJoin (fun (s67 : Bool) =>
 mJoin (fun (s70 : Bool) =>
 mJoin (fun (s75 : Bool) =>
 mIf s75 (
 mDeref r2.1 fun ad80 =>
 mLoad cPtr (ad80.add 2) fun x81 =>
 m_quota_Quota_Of x81 1 fun r82 =>
 K (decide (r82 = 2))
 ) (
 K false
 )
 ) (fun j76 =>
 mIf s70 (
 mDeref r2.1 fun ad83 =>
 mLoad cPtr (ad83.add 0) fun x84 =>
 m_draws_Draws_Taken x84 fun r85 =>
 j76 (decide (r85 = 4))
 ) (
 j76 false
 ))
 ) (fun j71 =>
 mIf s67 (
 mLoad S_api_Cap.cells s34.1 fun x86 =>
 j71 ((decide (x86.Obj = 1)) && (((decide (x86.Pass.Hi = 0)) && ((decide (x86.Pass.Lo = 5)) && true)) && true))
 ) (
 j71 false
 ))
 ) (fun j68 =>
 mIf (((((decide (s9.2.2 = 0)) && (decide (s21.2.2 = 19))) && (decide (s34.2.2 = 0))) && (decide (s47.2.2 = 4))) && (decide (s60.2.2 = 11))) (
 mLoad S_api_Cap.cells s9.1 fun x87 =>
 j68 ((decide (x87.Obj = 1)) && (((decide (x87.Pass.Hi = 0)) && ((decide (x87.Pass.Lo = 3)) && true)) && true))
 ) (
 j68 false
 ))
 ) (fun j61 =>
 mBoth (
 m_derive_Child x56 x57 x58 x59 1 fun r62 =>
 mNew 37 #[(Value.int .i64 0), (Value.int .u64 0), (Value.int .u64 0)] fun ad63 =>
 j61 (ad63, r62.1, r62.2)
 ) (
 mNew 37 #[(Value.int .i64 0), (Value.int .u64 0), (Value.int .u64 0)] fun ad64 =>
 m_derive_Child x56 x57 x58 x59 1 fun r65 =>
 j61 (ad64, r65.1, r65.2)
 ))
 ) (fun j48 =>
 mBoth (
 m_derive_Child x43 x44 x45 x46 2 fun r49 =>
 mNew 37 #[(Value.int .i64 0), (Value.int .u64 0), (Value.int .u64 0)] fun ad50 =>
 j48 (ad50, r49.1, r49.2)
 ) (
 mNew 37 #[(Value.int .i64 0), (Value.int .u64 0), (Value.int .u64 0)] fun ad51 =>
 m_derive_Child x43 x44 x45 x46 2 fun r52 =>
 j48 (ad51, r52.1, r52.2)
 ))
 ) (fun j35 =>
 mBoth (
 m_derive_Child x30 x31 x32 x33 5 fun r36 =>
 mNew 37 #[(Value.int .i64 0), (Value.int .u64 0), (Value.int .u64 0)] fun ad37 =>
 j35 (ad37, r36.1, r36.2)
 ) (
 mNew 37 #[(Value.int .i64 0), (Value.int .u64 0), (Value.int .u64 0)] fun ad38 =>
 m_derive_Child x30 x31 x32 x33 5 fun r39 =>
 j35 (ad38, r39.1, r39.2)
 ))
 ) (fun j22 =>
 mBoth (
 m_derive_Root x18 x19 x20 1 fun r23 =>
 mNew 37 #[(Value.int .i64 0), (Value.int .u64 0), (Value.int .u64 0)] fun ad24 =>
 j22 (ad24, r23.1, r23.2)
 ) (
 mNew 37 #[(Value.int .i64 0), (Value.int .u64 0), (Value.int .u64 0)] fun ad25 =>
 m_derive_Root x18 x19 x20 1 fun r26 =>
 j22 (ad25, r26.1, r26.2)
 ))
 ) (fun j10 =>
 mBoth (
 m_derive_Root x6 x7 x8 1 fun r11 =>
 mNew 37 #[(Value.int .i64 0), (Value.int .u64 0), (Value.int .u64 0)] fun ad12 =>
 j10 (ad12, r11.1, r11.2)
 ) (
 mNew 37 #[(Value.int .i64 0), (Value.int .u64 0), (Value.int .u64 0)] fun ad13 =>
 m_derive_Root x6 x7 x8 1 fun r14 =>
 j10 (ad13, r14.1, r14.2)
 ))
 )
def x_law14_head : Cx Tryz.prog := ⟨tys, [s_law14_made, s_derive_Root, s_derive_Child, s_draws_Draws_Taken, s_quota_Quota_Of], [], [], mixed⟩
def h_law14_head : Hint := (.seq .d (.seq .d (.seq .d (.seq (.reg (.run [0, 4, 8, 16, 20, 24, 32, 36, 40, 14, 30, 46] (.join [.slot 3 tAdr, .slot 39 S_api_Cap.ty, .slot 40 (tInt .i64)] 1924178903048 [] (.both 12 16 (.run [52, 56, 60, 66] .nil) (.run [51, 52, 56, 60] .nil)) (.run [71, 72] .nil)))) (.seq (.reg (.run [0, 4, 8, 16, 20, 24, 32, 36, 40, 14, 30, 46] (.join [.slot 5 tAdr, .slot 55 S_api_Cap.ty, .slot 56 (tInt .i64)] 126102988589629472 [] (.both 12 16 (.run [52, 56, 60, 66] .nil) (.run [51, 52, 56, 60] .nil)) (.run [71, 72] .nil)))) (.seq (.reg (.run [0, 4, 8, 16, 20, 24, 32, 36, 40, 14, 30, 46, 50] (.join [.slot 7 tAdr, .slot 72 S_api_Cap.ty, .slot 73 (tInt .i64)] 16528426805231834103936 [] (.both 13 17 (.run [56, 60, 64, 70] .nil) (.run [55, 56, 60, 64] .nil)) (.run [75, 76] .nil)))) (.seq (.reg (.run [0, 4, 8, 16, 20, 24, 32, 36, 40, 14, 30, 46, 50] (.join [.slot 9 tAdr, .slot 89 S_api_Cap.ty, .slot 90 (tInt .i64)] 2166413958215346959654322688 [] (.both 13 17 (.run [56, 60, 64, 70] .nil) (.run [55, 56, 60, 64] .nil)) (.run [75, 76] .nil)))) (.seq (.reg (.run [0, 4, 8, 16, 20, 24, 32, 36, 40, 14, 30, 46, 50] (.join [.slot 11 tAdr, .slot 106 S_api_Cap.ty, .slot 107 (tInt .i64)] 283956210331201956695811316254720 [] (.both 13 17 (.run [56, 60, 64, 70] .nil) (.run [55, 56, 60, 64] .nil)) (.run [75, 76] .nil)))) (.seq (.reg (.run [3, 7, 11] (.sel 110 113 18173039004871896699856737152270336 (.run [15, 19, 23] .nil) (.run [15, 19, 23] .nil) (.run [27] (.sel 114 117 290768624077950347197707794436325376 (.run [31, 35, 39] .nil) (.run [31, 35, 39] .nil) (.run [43] (.sel 118 121 4652297985247205555163324710981206016 (.run [47, 51, 55] .nil) (.run [47, 51, 55] .nil) (.run [59] (.sel 122 125 74436767763955288882613195375699296256 (.run [63, 67, 71] .nil) (.run [63, 67, 71] .nil) (.run [75] (.join [.slot 131 tBool] 5274376687274546183682306415192407277568 [] (.split 126 (.run [79, 83, 87, 91, 95] .nil) (.run [79, 83, 87, 91, 95] .nil)) (.run [99] (.join [.slot 137 tBool] 337560107985570955755667610572314065764352 [] (.split 132 (.run [103, 107, 111, 115, 119] .nil) (.run [103, 107, 111, 115, 119] .nil)) (.run [123] (.join [.slot 145 tBool] 88506082506668410592969881894573184726859776 [] (.split 138 (.run [127, 131, 135, 139, 143, 147, 151] .nil) (.run [127, 131, 135, 139, 143, 147, 151] .nil)) (.run [155] (.split 146 (.run [159, 163, 167, 171, 175, 179, 183, 187] .nil) (.run [159, 163, 167, 171, 175, 179, 183, 187] .nil)))))))))))))))))) .d)))))))))
def s_law14_head : Spec Tryz.prog := mkSpec x_law14_head 4 Tryz.f4 [] [tBool] false h_law14_head (fun _ => m_law14_head) (fun a K h => by kernel_rfl) callee4 rfl
def m_law14_mod (a0 : Int) (a1 : Int) (K : (Int) → H → Prop) : H → Prop :=
 mNZ a1 <|
 mIf (decide ((iRem .i64 a0 a1) < 0)) (
 K (iAdd .i64 (iRem .i64 a0 a1) a1)
 ) (
 K (iRem .i64 a0 a1)
 )
def x_law14_mod : Cx Tryz.prog := ⟨tys, [], [], [], mixed⟩
def h_law14_mod : Hint := .d
def s_law14_mod : Spec Tryz.prog := mkSpec x_law14_mod 19 Tryz.f19 [(tInt .i64), (tInt .i64)] [(tInt .i64)] true h_law14_mod (fun a => m_law14_mod a.1 a.2) (fun a K h => by kernel_rfl) callee19 rfl
def m_law14_World_right (a0 : S_law14_World) (K : (S_law14_World) → H → Prop) : H → Prop :=
 mPure (m_law14_mod a0.Width 128) fun r1 =>
 mPure (m_law14_mod a0.Entries 256) fun r2 =>
 mPure (m_law14_mod a0.Each 256) fun r3 =>
 mPure (m_law14_mod a0.Knob 65) fun r4 =>
 mCut a0.Draws 0 (iMin (a0.Draws.len : Int) 4096) 2 fun s5 =>
 K (⟨(iAdd .i64 1 r1), (iAdd .i64 1 r2), (iAdd .i64 1 r3), r4, s5⟩ : S_law14_World)
def x_law14_World_right : Cx Tryz.prog := ⟨tys, [s_law14_mod], [1, 2], [], mixed⟩
def h_law14_World_right : Hint := (.seq .d (.seq .d (.seq (.reg (.run [0, 16, 32, 48, 60, 68, 5, 8, 12, 21, 24, 28, 37, 40, 44, 53, 56, 65, 72, 76, 83] .nil)) .d)))
def s_law14_World_right : Spec Tryz.prog := mkSpec x_law14_World_right 6 Tryz.f6 [S_law14_World.ty] [S_law14_World.ty] true h_law14_World_right (fun a => m_law14_World_right a) (fun a K h => by kernel_rfl) callee6 rfl
def m_law14_named (a0 : Option Addr) (a1 : S_law14_Op) (K : (S_api_Cap) → H → Prop) : H → Prop :=
 m_ref11_Catalogue_Of a0 a1.Obj fun r1 =>
 mIf ((decide ((r1.len : Int) = 0)) || (decide (a1.Kind = 3))) (
 K a1.X
 ) (
 mPure (m_law14_mod a1.At (r1.len : Int)) fun r2 =>
 mIdx r1 r2 5 fun ad3 =>
 mLoad S_api_Cap.cells (ad3.add 0) fun x4 =>
 K x4
 )
def x_law14_named : Cx Tryz.prog := ⟨tys, [s_law14_mod, s_ref11_Catalogue_Of], [3, 4], [], mixed⟩
def h_law14_named : Hint := (.seq .d (.seq .d (.seq (.seq (.reg (.run [3, 7, 11, 15] (.sel 13 17 245760 (.run [19, 23, 27, 31] .nil) (.run [19, 23, 27, 31] .nil) .nil))) .d) .d)))
def s_law14_named : Spec Tryz.prog := mkSpec x_law14_named 20 Tryz.f20 [tPtr, S_law14_Op.ty] [S_api_Cap.ty] false h_law14_named (fun a => m_law14_named a.1 a.2) (fun a K h => by kernel_rfl) callee20 rfl
def m_law14_play (a0 : Option Addr) (a1 : Option Addr) (a2 : S_law14_Op) (K : (Bool) → H → Prop) : H → Prop :=
 mDeref a1 fun ad1 =>
 mLoad cPtr (ad1.add 1) fun x2 =>
 mJoin (fun (s3 : Addr × S_api_Cap) =>
 mStore s3.1 [(Value.int .i64 s3.2.Obj), (Value.int .u64 s3.2.Pass.Hi), (Value.int .u64 s3.2.Pass.Lo)] <|
 mIf (decide (a2.Kind = 0)) (
 mDeref a0 fun ad9 =>
 mDeref a0 fun ad10 =>
 mDeref a0 fun ad11 =>
 mLoad cPtr (ad9.add 0) fun x12 =>
 mLoad cPtr (ad10.add 1) fun x13 =>
 mLoad cPtr (ad11.add 2) fun x14 =>
 mJoin (fun (s15 : Addr × S_api_Cap × Int) =>
 mStore s15.1 [(Value.int .i64 s15.2.1.Obj), (Value.int .u64 s15.2.1.Pass.Hi), (Value.int .u64 s15.2.1.Pass.Lo)] <|
 mDeref a1 fun ad21 =>
 mLoad S_ref14_World.cells ad21 fun x22 =>
 mJoin (fun (s23 : Addr × S_api_Cap × Int) =>
 mStore s23.1 [(Value.int .i64 s23.2.1.Obj), (Value.int .u64 s23.2.1.Pass.Hi), (Value.int .u64 s23.2.1.Pass.Lo)] <|
 mLoad S_api_Cap.cells s15.1 fun x29 =>
 mLoad S_api_Cap.cells s23.1 fun x30 =>
 K (((decide (x29.Obj = x30.Obj)) && (((decide (x29.Pass.Hi = x30.Pass.Hi)) && ((decide (x29.Pass.Lo = x30.Pass.Lo)) && true)) && true)) && (decide (s15.2.2 = s23.2.2)))
 ) (fun j24 =>
 mBoth (
 m_ref14_World_Root x22 a2.Obj fun r25 =>
 mNew 37 #[(Value.int .i64 0), (Value.int .u64 0), (Value.int .u64 0)] fun ad26 =>
 j24 (ad26, r25.1, r25.2)
 ) (
 mNew 37 #[(Value.int .i64 0), (Value.int .u64 0), (Value.int .u64 0)] fun ad27 =>
 m_ref14_World_Root x22 a2.Obj fun r28 =>
 j24 (ad27, r28.1, r28.2)
 ))
 ) (fun j16 =>
 mBoth (
 m_derive_Root x12 x13 x14 a2.Obj fun r17 =>
 mNew 37 #[(Value.int .i64 0), (Value.int .u64 0), (Value.int .u64 0)] fun ad18 =>
 j16 (ad18, r17.1, r17.2)
 ) (
 mNew 37 #[(Value.int .i64 0), (Value.int .u64 0), (Value.int .u64 0)] fun ad19 =>
 m_derive_Root x12 x13 x14 a2.Obj fun r20 =>
 j16 (ad19, r20.1, r20.2)
 ))
 ) (
 mJoin (fun (s31 : Bool) =>
 mIf s31 (
 mDeref a0 fun ad33 =>
 mDeref a0 fun ad34 =>
 mDeref a0 fun ad35 =>
 mLoad cPtr (ad33.add 0) fun x36 =>
 mLoad cPtr (ad34.add 1) fun x37 =>
 mLoad cPtr (ad35.add 2) fun x38 =>
 mLoad S_api_Cap.cells s3.1 fun x39 =>
 mJoin (fun (s40 : Addr × S_api_Cap × Int) =>
 mStore s40.1 [(Value.int .i64 s40.2.1.Obj), (Value.int .u64 s40.2.1.Pass.Hi), (Value.int .u64 s40.2.1.Pass.Lo)] <|
 mDeref a1 fun ad46 =>
 mLoad S_ref14_World.cells ad46 fun x47 =>
 mLoad S_api_Cap.cells s3.1 fun x48 =>
 mJoin (fun (s49 : Addr × S_api_Cap × Int) =>
 mStore s49.1 [(Value.int .i64 s49.2.1.Obj), (Value.int .u64 s49.2.1.Pass.Hi), (Value.int .u64 s49.2.1.Pass.Lo)] <|
 mLoad S_api_Cap.cells s40.1 fun x55 =>
 mLoad S_api_Cap.cells s49.1 fun x56 =>
 K (((decide (x55.Obj = x56.Obj)) && (((decide (x55.Pass.Hi = x56.Pass.Hi)) && ((decide (x55.Pass.Lo = x56.Pass.Lo)) && true)) && true)) && (decide (s40.2.2 = s49.2.2)))
 ) (fun j50 =>
 mBoth (
 m_ref14_World_Child x47 x48 a2.Rights fun r51 =>
 mNew 37 #[(Value.int .i64 0), (Value.int .u64 0), (Value.int .u64 0)] fun ad52 =>
 j50 (ad52, r51.1, r51.2)
 ) (
 mNew 37 #[(Value.int .i64 0), (Value.int .u64 0), (Value.int .u64 0)] fun ad53 =>
 m_ref14_World_Child x47 x48 a2.Rights fun r54 =>
 j50 (ad53, r54.1, r54.2)
 ))
 ) (fun j41 =>
 mBoth (
 m_derive_Child x36 x37 x38 x39 a2.Rights fun r42 =>
 mNew 37 #[(Value.int .i64 0), (Value.int .u64 0), (Value.int .u64 0)] fun ad43 =>
 j41 (ad43, r42.1, r42.2)
 ) (
 mNew 37 #[(Value.int .i64 0), (Value.int .u64 0), (Value.int .u64 0)] fun ad44 =>
 m_derive_Child x36 x37 x38 x39 a2.Rights fun r45 =>
 j41 (ad44, r45.1, r45.2)
 ))
 ) (
 mDeref a1 fun ad57 =>
 mLoad cPtr (ad57.add 1) fun x58 =>
 mLoad S_api_Cap.cells s3.1 fun x59 =>
 m_ref11_Catalogue_Find x58 x59 fun r60 =>
 mDeref a0 fun ad61 =>
 mLoad cPtr (ad61.add 1) fun x62 =>
 mLoad S_api_Cap.cells s3.1 fun x63 =>
 m_catalogue_Catalogue_Find x62 x63 fun r64 =>
 mIf (!(r60.2 == r64.2)) (
 K false
 ) (
 mIf (!r60.2) (
 K true
 ) (
 mDeref a0 fun ad65 =>
 mLoad cPtr (ad65.add 1) fun x66 =>
 m_catalogue_Catalogue_Drop x66 r64.1 fun r67 =>
 mDeref a1 fun ad68 =>
 mLoad cPtr (ad68.add 1) fun x69 =>
 m_ref11_Catalogue_Drop x69 r60.1 fun r70 =>
 mIf ((!decide (r67.2 = r70.2)) || (!decide ((r67.1.len : Int) = (r70.1.len : Int)))) (
 K false
 ) (
 mDeref a0 fun ad71 =>
 mLoad cPtr (ad71.add 2) fun x72 =>
 mLoad (cInt .i64) (s3.1.add 0) fun x73 =>
 m_quota_Quota_Sub x72 x73 (r67.1.len : Int) fun r74 =>
 mDeref a1 fun ad75 =>
 mLoad cPtr (ad75.add 2) fun x76 =>
 mLoad (cInt .i64) (s3.1.add 0) fun x77 =>
 m_ref12_Quota_Sub x76 x77 (r70.1.len : Int) fun r78 =>
 K (decide (r74 = r78))
 )
 )
 )
 )
 ) (fun j32 =>
 mIf (decide (a2.Kind = 1)) (
 j32 (decide (a2.Kind = 1))
 ) (
 mIf (decide (a2.Kind = 2)) (
 j32 (decide (a2.Kind = 2))
 ) (
 j32 (decide (a2.Kind = 3))
 )
 )
 )
 )
 ) (fun j4 =>
 mBoth (
 m_law14_named x2 a2 fun r5 =>
 mNew 37 #[(Value.int .i64 0), (Value.int .u64 0), (Value.int .u64 0)] fun ad6 =>
 j4 (ad6, r5)
 ) (
 mNew 37 #[(Value.int .i64 0), (Value.int .u64 0), (Value.int .u64 0)] fun ad7 =>
 m_law14_named x2 a2 fun r8 =>
 j4 (ad7, r8)
 ))
def x_law14_play : Cx Tryz.prog := ⟨tys, [s_derive_Root, s_derive_Child, s_law14_named, s_ref14_World_Root, s_ref14_World_Child, s_ref11_Catalogue_Find, s_catalogue_Catalogue_Find, s_catalogue_Catalogue_Drop, s_ref11_Catalogue_Drop, s_quota_Quota_Sub, s_ref12_Quota_Sub], [5], [], mixed⟩
def h_law14_play : Hint := (.seq .d (.seq (.reg (.run [0, 4, 8, 17, 14] (.join [.slot 7 tAdr, .slot 30 S_api_Cap.ty] 1073741952 [] (.both 5 6 (.run [26] .nil) (.run [23] .nil)) (.run [31] .nil)))) (.seq (.seq .d (.blk (.seq .d (.cond (.seq (.reg (.run [0, 4, 8, 16, 20, 24, 32, 36, 40, 48, 53, 14, 30, 46] (.join [.slot 8 tAdr, .slot 51 S_api_Cap.ty, .slot 52 (tInt .i64)] 7881333707636992 [] (.both 14 18 (.run [60, 64, 68, 74] .nil) (.run [59, 60, 64, 68] .nil)) (.run [79, 80] .nil)))) (.seq (.reg (.run [0, 4, 12, 17, 10] (.join [.slot 10 tAdr, .slot 60 S_api_Cap.ty, .slot 61 (tInt .i64)] 4044232465378706432 [] (.both 5 9 (.run [24, 28, 32, 38] .nil) (.run [23, 24, 28, 32] .nil)) (.run [43, 44] .nil)))) (.seq (.reg (.run [3, 7, 11, 15] (.sel 65 69 1106804644422573096960 (.run [19, 23, 27, 31] .nil) (.run [19, 23, 27, 31] .nil) (.run [35] .nil)))) .d))) (.join [.slot 70 tBool] 17708874310761169551360 [] .d (.cond (.seq (.reg (.run [0, 4, 8, 16, 20, 24, 32, 36, 40, 52, 57, 14, 30, 46, 50] (.join [.slot 12 tAdr, .slot 91 S_api_Cap.ty, .slot 92 (tInt .i64)] 8665599164463593402874728448 [] (.both 15 19 (.run [64, 68, 72, 78] .nil) (.run [63, 64, 68, 72] .nil)) (.run [83, 84] .nil)))) (.seq (.reg (.run [0, 4, 16, 21, 10, 14] (.join [.slot 14 tAdr, .slot 101 S_api_Cap.ty, .slot 102 (tInt .i64)] 8883457721911888852676115447808 [] (.both 6 10 (.run [28, 32, 36, 42] .nil) (.run [27, 28, 32, 36] .nil)) (.run [47, 48] .nil)))) (.seq (.reg (.run [3, 7, 11, 15] (.sel 106 110 2433889152438200450873670154321920 (.run [19, 23, 27, 31] .nil) (.run [19, 23, 27, 31] .nil) (.run [35] .nil)))) .d))) .d)))))) (.seq (.reg (.run [0, 4, 8, 14, 18, 23, 24, 28, 32, 36, 40] .nil)) (.seq (.reg (.run [0, 4, 8, 14, 18, 23, 24, 28, 32, 36, 40] .nil)) (.seq .d (.seq .d (.seq .d (.seq .d (.seq (.seq (.reg (.run [3, 7, 11, 15] (.sel 155 161 5754662696990430240427009028820364389895234387968 (.run [19, 23, 27, 31, 35, 39] .nil) (.run [19, 23, 27, 31, 35, 39] .nil) .nil))) .d) (.seq (.reg (.run [0, 4, 8, 16, 24, 28, 14, 22, 35, 36] .nil)) (.seq (.reg (.run [0, 4, 8, 12, 20, 28, 32, 18, 26, 39, 40, 44] .nil)) .d))))))))))))
def s_law14_play : Spec Tryz.prog := mkSpec x_law14_play 7 Tryz.f7 [tPtr, tPtr, S_law14_Op.ty] [tBool] false h_law14_play (fun a => m_law14_play a.1 a.2.1 a.2.2) (fun a K h => by kernel_rfl) callee7 rfl
def m_law14_sameTokens (a0 : Sl) (a1 : Sl) (K : (Bool) → H → Prop) : H → Prop :=
 mIf (!decide ((a0.len : Int) = (a1.len : Int))) (
 K false
 ) (
 mLoop (fun (rec2 : Int → H → Prop) (s1 : Int) =>
 mIf (decide (s1 < (a0.len : Int))) (
 mIdx a0 s1 5 fun ad3 =>
 mIdx a1 s1 5 fun ad4 =>
 mLoad S_api_Token.cells ad3 fun x5 =>
 mLoad S_api_Token.cells ad4 fun x6 =>
 mIf (!(((decide (x5.Cap.Obj = x6.Cap.Obj)) && (((decide (x5.Cap.Pass.Hi = x6.Cap.Pass.Hi)) && ((decide (x5.Cap.Pass.Lo = x6.Cap.Pass.Lo)) && true)) && true)) && ((decide (x5.Rights = x6.Rights)) && ((decide (x5.Parent = x6.Parent)) && true)))) (
 K false
 ) (
 rec2 (iAdd .i64 s1 1)
 )
 ) (
 K true
 )
 ) 0
 )
def x_law14_sameTokens : Cx Tryz.prog := ⟨tys, [], [], [], mixed⟩
def h_law14_sameTokens : Hint := (.seq .d (.seq .d (.seq (.seq .d (.blk (.loop [.slot 5 (tInt .i64)] 67106864 [] (.seq .d (.seq (.blk (.seq (.reg (.run [0, 4, 8, 16, 20, 24, 14, 30, 32] .nil)) .d)) .d))))) .d)))
def s_law14_sameTokens : Spec Tryz.prog := mkSpec x_law14_sameTokens 29 Tryz.f29 [tSl, tSl] [tBool] false h_law14_sameTokens (fun a => m_law14_sameTokens a.1 a.2) (fun a K h => by kernel_rfl) callee29 rfl
def m_law14_told (a0 : Option Addr) (a1 : Option Addr) (a2 : Int) (K : (Bool) → H → Prop) : H → Prop :=
 mDeref a0 fun ad1 =>
 mDeref a1 fun ad2 =>
 mLoad cPtr (ad1.add 1) fun x3 =>
 mJoin (fun (s4 : Sl × Option Addr) =>
 m_ref11_Catalogue_Of s4.2 a2 fun r10 =>
 m_law14_sameTokens s4.1 r10 fun r11 =>
 mJoin (fun (s22 : Bool) =>
 mJoin (fun (s39 : Bool) =>
 mJoin (fun (s56 : Bool) =>
 mIf s56 (
 mDeref a0 fun ad68 =>
 mDeref a1 fun ad69 =>
 mLoad cPtr (ad68.add 1) fun x70 =>
 mJoin (fun (s71 : Int × Option Addr) =>
 m_ref11_Catalogue_Count s71.2 fun r77 =>
 K (decide (s71.1 = r77))
 ) (fun j72 =>
 mBoth (
 m_catalogue_Catalogue_Count x70 fun r73 =>
 mLoad cPtr (ad69.add 1) fun x74 =>
 j72 (r73, x74)
 ) (
 mLoad cPtr (ad69.add 1) fun x75 =>
 m_catalogue_Catalogue_Count x70 fun r76 =>
 j72 (r76, x75)
 ))
 ) (
 K false
 )
 ) (fun j57 =>
 mIf s39 (
 mDeref a0 fun ad78 =>
 mDeref a1 fun ad79 =>
 mLoad cPtr (ad78.add 0) fun x80 =>
 mJoin (fun (s81 : Int × Int) =>
 j57 (decide (s81.1 = s81.2))
 ) (fun j82 =>
 mBoth (
 m_draws_Draws_Taken x80 fun r83 =>
 mLoad cPtr (ad79.add 0) fun x84 =>
 mDeref x84 fun ad85 =>
 mLoad (cInt .i64) (ad85.add 2) fun x86 =>
 j82 (r83, x86)
 ) (
 mLoad cPtr (ad79.add 0) fun x87 =>
 mDeref x87 fun ad88 =>
 mBoth (
 m_draws_Draws_Taken x80 fun r89 =>
 mLoad (cInt .i64) (ad88.add 2) fun x90 =>
 j82 (r89, x90)
 ) (
 mLoad (cInt .i64) (ad88.add 2) fun x91 =>
 m_draws_Draws_Taken x80 fun r92 =>
 j82 (r92, x91)
 )
 ))
 ) (
 j57 false
 ))
 ) (fun j40 =>
 mIf s22 (
 mDeref a0 fun ad93 =>
 mDeref a1 fun ad94 =>
 mLoad cPtr (ad93.add 2) fun x95 =>
 mJoin (fun (s96 : Int × Int) =>
 j40 (decide (s96.1 = s96.2))
 ) (fun j97 =>
 mBoth (
 m_quota_Quota_All x95 fun r98 =>
 mLoad cPtr (ad94.add 2) fun x99 =>
 mDeref x99 fun ad100 =>
 mLoad cSl (ad100.add 2) fun x101 =>
 j97 (r98, (x101.len : Int))
 ) (
 mLoad cPtr (ad94.add 2) fun x102 =>
 mDeref x102 fun ad103 =>
 mBoth (
 m_quota_Quota_All x95 fun r104 =>
 mLoad cSl (ad103.add 2) fun x105 =>
 j97 (r104, (x105.len : Int))
 ) (
 mLoad cSl (ad103.add 2) fun x106 =>
 m_quota_Quota_All x95 fun r107 =>
 j97 (r107, (x106.len : Int))
 )
 ))
 ) (
 j40 false
 ))
 ) (fun j23 =>
 mIf r11 (
 mDeref a0 fun ad108 =>
 mDeref a1 fun ad109 =>
 mLoad cPtr (ad108.add 2) fun x110 =>
 mJoin (fun (s111 : Int × Option Addr) =>
 m_ref12_Quota_Of s111.2 a2 fun r117 =>
 j23 (decide (s111.1 = r117))
 ) (fun j112 =>
 mBoth (
 m_quota_Quota_Of x110 a2 fun r113 =>
 mLoad cPtr (ad109.add 2) fun x114 =>
 j112 (r113, x114)
 ) (
 mLoad cPtr (ad109.add 2) fun x115 =>
 m_quota_Quota_Of x110 a2 fun r116 =>
 j112 (r116, x115)
 ))
 ) (
 j23 false
 ))
 ) (fun j5 =>
 mBoth (
 m_catalogue_Catalogue_Of x3 a2 fun r6 =>
 mLoad cPtr (ad2.add 1) fun x7 =>
 j5 (r6, x7)
 ) (
 mLoad cPtr (ad2.add 1) fun x8 =>
 m_catalogue_Catalogue_Of x3 a2 fun r9 =>
 j5 (r9, x8)
 ))
def x_law14_told : Cx Tryz.prog := ⟨tys, [s_draws_Draws_Taken, s_quota_Quota_Of, s_law14_sameTokens, s_catalogue_Catalogue_Of, s_ref11_Catalogue_Of, s_ref12_Quota_Of, s_quota_Quota_All, s_catalogue_Catalogue_Count, s_ref11_Catalogue_Count], [], [], mixed⟩
def h_law14_told : Hint := (.seq .d (.seq (.reg (.run [0, 4, 8, 16, 24, 28, 32, 40, 14] (.join [.slot 12 tSl, .slot 16 tPtr] 69632 [] (.both 5 9 (.run [38] .nil) (.run [23] .nil)) (.run [47, 51, 52] (.join [.slot 34 tBool] 34357641216 [] (.split 20 (.run [56, 60, 64, 72, 80, 84, 88, 96, 70] (.join [.slot 26 (tInt .i64), .slot 30 tPtr] 1140850688 [] (.both 19 23 (.run [94] .nil) (.run [79] .nil)) (.run [103, 104, 108] .nil))) (.run [56, 60, 64, 68, 72, 76, 80, 84, 88, 92, 96, 100, 104, 108] .nil)) (.run [112] (.join [.slot 50 tBool] 2251731094208512 [] (.split 35 (.run [116, 120, 124, 136, 140, 144, 130] (.join [.slot 40 (tInt .i64), .slot 48 (tInt .i64)] 546457279004672 [] (.both 33 37 (.run [150, 152, 156, 162, 164] .nil) (.run [152, 156] (.both 33 40 (.run [162, 164] .nil) (.run [164, 135] .nil)))) (.run [168, 172] .nil))) (.run [116, 120, 124, 128, 132, 136, 140, 144, 148, 152, 156, 160, 164, 168, 172] .nil)) (.run [176] (.join [.slot 65 tBool] 73782472695210835968 [] (.split 51 (.run [180, 184, 188, 200, 204, 208, 194] (.join [.slot 56 (tInt .i64), .slot 63 (tInt .i64)] 17365880163140632576 [] (.both 49 53 (.run [214, 216, 220, 226] .nil) (.run [216, 220] (.both 49 56 (.run [226] .nil) (.run [199] .nil)))) (.run [228, 232] .nil))) (.run [180, 184, 188, 192, 196, 200, 204, 208, 212, 216, 220, 224, 228, 232] .nil)) (.run [236] (.split 66 (.run [240, 244, 248, 260, 264, 268, 254] (.join [.slot 71 (tInt .i64), .slot 75 tPtr] 40140115104391984316416 [] (.both 64 68 (.run [274] .nil) (.run [259] .nil)) (.run [279, 280, 284, 288] .nil))) (.run [240, 244, 248, 252, 256, 260, 264, 268, 272, 276, 280, 284, 288] .nil)))))))))))) .d))
def s_law14_told : Spec Tryz.prog := mkSpec x_law14_told 8 Tryz.f8 [tPtr, tPtr, (tInt .i64)] [tBool] false h_law14_told (fun a => m_law14_told a.1 a.2.1 a.2.2) (fun a K h => by kernel_rfl) callee8 rfl
def m_law14_DeriveAll (a0 : S_law14_World) (a1 : Sl) (K : (Bool) → H → Prop) : H → Prop :=
 m_law14_head fun r1 =>
 mIf (!r1) (
 K false
 ) (
 mPure (m_law14_World_right a0) fun r2 =>
 m_law14_made r2 fun r3 =>
 mIf (r3.1.isNone) (
 K false
 ) (
 mLoop (fun (rec5 : Int → H → Prop) (s4 : Int) =>
 mIf (decide (s4 < (a1.len : Int))) (
 mIdx a1 s4 7 fun ad6 =>
 mLoad S_law14_Op.cells ad6 fun x7 =>
 m_law14_play r3.1 r3.2 x7 fun r8 =>
 mJoin (fun (s12 : Bool) =>
 mJoin (fun (s17 : Bool) =>
 mIf s17 (
 K false
 ) (
 rec5 (iAdd .i64 s4 1)
 )
 ) (fun j18 =>
 mIf s12 (
 j18 true
 ) (
 mIdx a1 s4 7 fun ad19 =>
 mLoad (cInt .i64) ((ad19.add 4).add 0) fun x20 =>
 m_law14_told r3.1 r3.2 x20 fun r21 =>
 j18 (!r21)
 ))
 ) (fun j13 =>
 mIf (!r8) (
 j13 true
 ) (
 mIdx a1 s4 7 fun ad22 =>
 mLoad (cInt .i64) (ad22.add 1) fun x23 =>
 m_law14_told r3.1 r3.2 x23 fun r24 =>
 j13 (!r24)
 ))
 ) (
 K true
 )
 ) 0
 )
 )
def x_law14_DeriveAll : Cx Tryz.prog := ⟨tys, [s_law14_head, s_law14_made, s_law14_World_right, s_law14_play, s_law14_told], [2], [], mixed⟩
def h_law14_DeriveAll : Hint := (.seq .d (.seq .d (.seq .d (.seq .d (.seq (.seq .d (.blk (.loop [.slot 7 (tInt .i64)] 144115188075331984 [] (.seq .d (.seq (.blk (.seq .d (.seq (.reg (.run [3, 7, 11] (.join [.slot 44 tBool] 35150012350464 [] (.split 34 (.run [15, 19, 23, 27, 31, 35, 39, 43, 47, 51] .nil) (.run [15, 19, 23, 27, 31, 35, 39, 43, 47, 51] .nil)) (.run [55] (.join [.slot 56 tBool] 144044819331678208 [] (.split 45 (.run [59, 63, 67, 71, 75, 79, 83, 87, 91, 95, 99] .nil) (.run [59, 63, 67, 71, 75, 79, 83, 87, 91, 95, 99] .nil)) .nil))))) .d))) .d))))) .d)))))
def s_law14_DeriveAll : Spec Tryz.prog := mkSpec x_law14_DeriveAll 3 Tryz.f3 [S_law14_World.ty, tSl] [tBool] false h_law14_DeriveAll (fun a => m_law14_DeriveAll a.1 a.2) (fun a K h => by kernel_rfl) callee3 rfl
end Go.Proofs.YtdleanjofhghnaaGreatDoor.K
namespace Go.Proofs.YtdleanjofhghnaaGreatDoor.K
open Go
theorem w_mod14 {h : H} {a b : Int} {k : Int → H → Prop} (h0 : 0 < b) (h1 : b ≤ 2 ^ 60) (y : k (intoV a b) h) : mPure (m_law14_mod a b) k h := by
  refine w_pure _ (fun h' k' z => ?_) y
  unfold m_law14_mod
  refine ⟨by omega, ?_⟩
  have e : iRem .i64 a b = a.tmod b := rfl
  rw [e]
  have h2 := Int.lt_tmod_of_pos a h0
  unfold intoV at z
  refine w_if' (fun c => ?_) fun c => ?_
  · rw [if_pos c] at z; rw [iAdd_eq (by omega) (by omega)]; exact z
  · rw [if_neg c] at z; exact z
theorem OC.anew {h h' : H} {o : Owner} {G : Nat → Prop} (i : Nat) (ow : Owns o h) (k : Keeps h h') (f : ∀ c, G c → h c = none) (has : ∀ c, G c → h' c ≠ none) :
    ∃ o', OC i o o' h h' ∧ Owns o' h' ∧ ∀ c, G c → o' c = some i := ⟨_, OC.fresh ow k f has⟩
def RaO (h : H) (o : Owner) (i r : Nat) (xs : List S_api_Word) (w : Int) (tk : Nat) : Prop := ∃ s, RAt h r s xs w tk ∧ o r = some i ∧ ∀ c, s.foot c → o c = some i
theorem RaO.oc {h h' : H} {o o' : Owner} {i j r : Nat} {xs : List S_api_Word} {w : Int} {tk : Nat} (x : RaO h o i r xs w tk) (k : OC j o o' h h') (ne : i ≠ j) : RaO h' o' i r xs w tk := by
  obtain ⟨ws, a, b1, b2⟩ := x
  exact ⟨ws, a.but k.bt fun c e => ⟨fun q => ne (by rw [q, b1] at e; exact Option.some.inj e), fun f => ne (by rw [b2 c f] at e; exact Option.some.inj e)⟩, k.own _ _ b1, fun c f => k.own _ _ (b2 c f)⟩
structure RefsO (h : H) (o : Owner) (r e f : Nat) (xs : List S_api_Word) (W : Int) (each most : Int) (tk ev : Nat) (es : List En) (L : List Int) : Prop where
  dr : RaO h o 4 r xs W tk
  ct : RefO h o 5 e ev es
  qu : RqO h o 6 f each most L
theorem t_made14 {h : H} (er : ErrAt h) {a : Sl} {xs : List S_api_Word} (ar : Arr cW h a xs) (hx : ∀ x ∈ xs, GoodW x) (hl : xs.length ≤ 4096) {W E each kn : Int} (w1 : 1 ≤ W ∧ W ≤ 128) (e1 : 1 ≤ E ∧ E ≤ 256) (c1 : 1 ≤ each ∧ each ≤ 256) (k1 : 0 ≤ kn ∧ kn ≤ 64)
    {K : Option Addr × Option Addr → H → Prop}
    (y : ∀ s w d p q r e f o h', SetO h' o d p q (xs.map (cutW W)) each E 0 (List.replicate E.toNat none) [] → RefsO h' o r e f xs W each E 0 0 (List.replicate E.toNat none) [] →
      h' s = some (.cells [Value.pointer (some ⟨d, 0, none⟩), Value.pointer (some ⟨p, 0, none⟩), Value.pointer (some ⟨q, 0, none⟩)].toArray N_law14_Set (0, 0)) → o s = none →
      h' w = some (.cells [Value.pointer (some ⟨r, 0, none⟩), Value.pointer (some ⟨e, 0, none⟩), Value.pointer (some ⟨f, 0, none⟩)].toArray N_ref14_World (0, 0)) → o w = none →
      Keeps h h' → (∀ c, o c ≠ none → h c = none) → K (some ⟨s, 0, none⟩, some ⟨w, 0, none⟩) h') : m_law14_made ⟨W, E, each, kn, a⟩ K h := by
  unfold m_law14_made
  obtain ⟨w1, w2⟩ := w1
  obtain ⟨e1, e2⟩ := e1
  obtain ⟨c1, c2⟩ := c1
  obtain ⟨k1, k2⟩ := k1
  refine t_DNew ar hx (fun q => by simp only [] at q; omega) (fun _ _ q => by omega) fun _ _ _ d ws h1 a1 n1 f1 f1' => ?_
  refine t_CNew (fun q => by simp only [] at q; omega) fun _ _ n en m1 m2 p G h2 a2 n2 f2 => ?_
  refine t_QNew (fun q => by simp only [] at q; omega) fun _ _ _ _ q b h3 a3 n3 f3 f3' => ?_
  have ar3 := ((ar.keep n1).keep n2).keep n3
  refine w_ifF rfl (t_RDNew ar3 (fun q => by simp only [] at q; omega) (fun _ _ q => by omega) fun _ _ _ r s4 h4 a4 n4 f4 f4' => ?_)
  refine t_RNew (fun q => by simp only [] at q; omega) fun _ _ n' en' _ _ e G5 h5 a5 n5 f5 => ?_
  have en : E = (n : Int) := en
  have en' : E = (n' : Int) := en'
  obtain rfl : n = n' := by omega
  refine t_QRNew (fun q => by simp only [] at q; omega) fun _ _ _ _ f h6 a6 n6 f6 => ?_
  refine w_box fun s h7 f7 g7 n7 => w_box fun w h8 f8 g8 n8 => ?_
  have ow0 : Owns (fun _ => none) h := fun c e => absurd rfl e
  obtain ⟨w1', b1, o1, p1⟩ := OC.anew (G := fun c => c = d ∨ ws.foot c) 1 ow0 n1 (fun c g => by rcases g with rfl | g <;> first | exact f1 | exact f1' _ g) fun c g => by
    rcases g with rfl | g
    · rw [a1.cell]; simp
    · exact a1.buf.has g
  obtain ⟨w2', b2, o2, p2⟩ := OC.anew 2 o1 n2 f2 fun c g => a2.has g
  obtain ⟨w3', b3, o3, p3⟩ := OC.anew (G := fun c => c = q ∨ c = b) 3 o2 n3 (fun c g => by rcases g with rfl | rfl <;> assumption) fun c g => by
    rcases g with rfl | rfl
    · rw [a3.cell]; simp
    · obtain ⟨_, _, e, _⟩ := a3.map.ex; rw [e]; simp
  obtain ⟨w4', b4, o4, p4⟩ := OC.anew (G := fun c => c = r ∨ s4.foot c) 4 o3 n4 (fun c g => by rcases g with rfl | g <;> first | exact f4 | exact f4' _ g) fun c g => by
    rcases g with rfl | g
    · rw [a4.cell]; simp
    · exact a4.buf.has g
  obtain ⟨w5', b5, o5, p5⟩ := OC.anew 5 o4 n5 f5 fun c g => a5.has g
  obtain ⟨w6', b6, o6, p6⟩ := OC.anew (G := fun c => c = f) 6 o5 n6 (fun c g => by rw [g]; exact f6) fun c g => by rw [g, a6.cell]; simp
  have n78 := n7.trans n8
  have b7 : OC 9 w6' w6' h6 h8 := OC.keeps n78
  have kk : Keeps h h8 := ((((((n1.trans n2).trans n3).trans n4).trans n5).trans n6).trans n7).trans n8
  have ot := ((((((b1.ot.trans b2.ot).trans b3.ot).trans b4.ot).trans b5.ot).trans b6.ot).trans b7.ot)
  have out : ∀ c, w6' c ≠ none → h c = none := fun c e => (ot.new c e).elim (fun z => absurd rfl z) id
  have ew : List.replicate E.toNat (none : En) = List.replicate n none := by rw [en, Int.toNat_natCast]
  have free : ∀ {c : Nat}, h6 c = none → w6' c = none := fun {c} hc => by
    cases z : w6' c with
    | none => rfl
    | some t => exact absurd hc (o6 c (by rw [z]; simp))
  refine y s w d p q r e f _ h8 ⟨?_, ?_, ?_, er.keep kk, ?_, o6.keep n78, e2⟩ ⟨?_, ?_, ?_⟩ (n8 _ _ g7) (free f7) g8 (free (by cases z : h6 w with | none => rfl | some x => rw [n7 _ _ z] at f8; cases f8)) kk out
  · refine (((((?_ : DraO h1 _ 1 d _ 0).oc b2 (by decide)).oc b3 (by decide)).oc b4 (by decide)).oc b5 (by decide)).oc b6 (by decide) |>.oc b7 (by decide)
    exact ⟨ws, a1, p1 d (.inl rfl), fun c g => p1 c (.inr g)⟩
  · refine ((((?_ : CatO h2 _ 2 p _).oc b3 (by decide)).oc b4 (by decide)).oc b5 (by decide)).oc b6 (by decide) |>.oc b7 (by decide)
    exact ⟨_, G, by rw [ew]; exact a2, p2⟩
  · refine (((?_ : QuoO h3 _ 3 q each E _).oc b4 (by decide)).oc b5 (by decide)).oc b6 (by decide) |>.oc b7 (by decide)
    exact ⟨b, a3, p3 q (.inl rfl), p3 b (.inr rfl)⟩
  · cases z : w6' errG with
    | none => rfl
    | some t => exact absurd (out _ (by rw [z]; simp)) er.has
  · refine ((?_ : RaO h4 _ 4 r xs W 0).oc b5 (by decide)).oc b6 (by decide) |>.oc b7 (by decide)
    exact ⟨s4, a4, p4 r (.inl rfl), fun c g => p4 c (.inr g)⟩
  · refine (?_ : RefO h5 _ 5 e 0 _).oc b6 (by decide) |>.oc b7 (by decide)
    exact ⟨G5, by rw [ew]; exact a5, p5⟩
  · refine (?_ : RqO h6 _ 6 f each E _).oc b7 (by decide)
    exact ⟨Sl.nil, a6, p6 f rfl, fun c ⟨_, q, _⟩ => by cases q⟩
structure AtS (h : H) (o : Owner) (s d p q : Nat) (cs : List S_api_Word) (each all : Int) (tk : Nat) (es : List En) (l : List (Int × Int)) : Prop where
  set : SetO h o d p q cs each all tk es l
  cell : h s = some (.cells [Value.pointer (some ⟨d, 0, none⟩), Value.pointer (some ⟨p, 0, none⟩), Value.pointer (some ⟨q, 0, none⟩)].toArray N_law14_Set (0, 0))
  no : o s = none
structure BoxT (h : H) (o : Owner) (t b : Nat) (c : S_api_Cap) : Prop where
  cell : h b = some (.cells (S_api_Cap.cells c).toArray N_api_Cap (0, 0))
  own : o b = some t
section
variable {h h' : H} {o o' : Owner} {s d p q : Nat} {cs : List S_api_Word} {each all : Int} {tk tk' : Nat} {es es' : List En} {l l' : List (Int × Int)}
theorem SetO.oc {j : Nat} (x : SetO h o d p q cs each all tk es l) (k : OC j o o' h h') (hj : 3 < j) (ow : Owns o' h') : SetO h' o' d p q cs each all tk es l :=
  ⟨x.dr.oc k (by omega), x.ct.oc k (by omega), x.qu.oc k (by omega), x.er.os (k.os (S := fun _ => True) trivial) x.eo, (k.os (S := fun _ => True) trivial).gone x.eo x.er.has, ow, x.hi⟩
theorem BoxT.os {S : Nat → Prop} {t b : Nat} {c : S_api_Cap} (x : BoxT h o t b c) (k : OS S o o' h h') (n : ¬ S t) : BoxT h' o' t b c :=
  ⟨k.but _ _ x.cell fun i q => by rw [x.own] at q; cases q; exact n, k.own _ _ x.own⟩
theorem BoxT.at {t b : Nat} {c : S_api_Cap} (x : BoxT h o t b c) : At h ⟨b, 0, none⟩ (S_api_Cap.cells c) := at_box x.cell
theorem OS.mono {S T : Nat → Prop} (k : OS S o o' h h') (f : ∀ i, S i → T i) : OS T o o' h h' := ⟨fun c x e n => k.but c x e fun i q hs => n i q (f i hs), k.own, k.new, k.dom⟩
theorem w_set3 (x : AtS h o s d p q cs each all tk es l) {k : Option Addr → Option Addr → Option Addr → H → Prop} (y : k (some ⟨d, 0, none⟩) (some ⟨p, 0, none⟩) (some ⟨q, 0, none⟩) h) :
    mDeref (some ⟨s, 0, none⟩) (fun a => mDeref (some ⟨s, 0, none⟩) fun b => mDeref (some ⟨s, 0, none⟩) fun c => mLoad cPtr (a.add 0) fun x => mLoad cPtr (b.add 1) fun y => mLoad cPtr (c.add 2) fun z => k x y z) h := by
  refine w_deref (w_deref (w_deref (w_load (v := some ⟨d, 0, none⟩) ?_ (w_load (v := some ⟨p, 0, none⟩) ?_ (w_load (v := some ⟨q, 0, none⟩) ?_ y)))))
  · rw [pt_add]; exact At.own (l1 := []) (l2 := [Value.pointer (some ⟨d, 0, none⟩)]) (l3 := [Value.pointer (some ⟨p, 0, none⟩), Value.pointer (some ⟨q, 0, none⟩)]) x.cell rfl
  · rw [pt_add]; exact At.own (l1 := [Value.pointer (some ⟨d, 0, none⟩)]) (l2 := [Value.pointer (some ⟨p, 0, none⟩)]) (l3 := [Value.pointer (some ⟨q, 0, none⟩)]) x.cell rfl
  · rw [pt_add]; exact At.own (l1 := [Value.pointer (some ⟨d, 0, none⟩), Value.pointer (some ⟨p, 0, none⟩)]) (l2 := [Value.pointer (some ⟨q, 0, none⟩)]) (l3 := []) x.cell rfl
theorem AtS.f0 (x : AtS h o s d p q cs each all tk es l) {k : Option Addr → H → Prop} (y : k (some ⟨d, 0, none⟩) h) : mDeref (some ⟨s, 0, none⟩) (fun a => mLoad cPtr (a.add 0) k) h := by
  refine w_deref (w_load (v := some ⟨d, 0, none⟩) ?_ y)
  rw [pt_add]; exact At.own (l1 := []) (l2 := [Value.pointer (some ⟨d, 0, none⟩)]) (l3 := [Value.pointer (some ⟨p, 0, none⟩), Value.pointer (some ⟨q, 0, none⟩)]) x.cell rfl
theorem AtS.f1 (x : AtS h o s d p q cs each all tk es l) {k : Option Addr → H → Prop} (y : k (some ⟨p, 0, none⟩) h) : mDeref (some ⟨s, 0, none⟩) (fun a => mLoad cPtr (a.add 1) k) h := by
  refine w_deref (w_load (v := some ⟨p, 0, none⟩) ?_ y)
  rw [pt_add]; exact At.own (l1 := [Value.pointer (some ⟨d, 0, none⟩)]) (l2 := [Value.pointer (some ⟨p, 0, none⟩)]) (l3 := [Value.pointer (some ⟨q, 0, none⟩)]) x.cell rfl
theorem AtS.f2 (x : AtS h o s d p q cs each all tk es l) {k : Option Addr → H → Prop} (y : k (some ⟨q, 0, none⟩) h) : mDeref (some ⟨s, 0, none⟩) (fun a => mLoad cPtr (a.add 2) k) h := by
  refine w_deref (w_load (v := some ⟨q, 0, none⟩) ?_ y)
  rw [pt_add]; exact At.own (l1 := [Value.pointer (some ⟨d, 0, none⟩), Value.pointer (some ⟨p, 0, none⟩)]) (l2 := [Value.pointer (some ⟨q, 0, none⟩)]) (l3 := []) x.cell rfl
theorem w_cap (t : Nat) (ht : 3 < t) (x : AtS h o s d p q cs each all tk es l) {call : (S_api_Cap × Int → H → Prop) → H → Prop} {res : S_api_Cap × Int}
    (hc : ∀ (h1 : H) (o1 : Owner) (K : S_api_Cap × Int → H → Prop), SetO h1 o1 d p q cs each all tk es l → (∀ o' h', SetO h' o' d p q cs each all tk' es' l' → OS (· ≤ 3) o1 o' h1 h' → K res h') → call K h1)
    {rest : Addr × S_api_Cap × Int → H → Prop}
    (hr : ∀ b o' h', AtS h' o' s d p q cs each all tk' es' l' → BoxT h' o' t b res.1 → OS (fun i => i ≤ 3) o o' h h' → rest (⟨b, 0, none⟩, res.1, res.2) h') :
    mJoin (fun (s9 : Addr × S_api_Cap × Int) => mStore s9.1 [(Value.int .i64 s9.2.1.Obj), (Value.int .u64 s9.2.1.Pass.Hi), (Value.int .u64 s9.2.1.Pass.Lo)] (rest s9))
      (fun j => mBoth (call fun r => mNew N_api_Cap #[(Value.int .i64 0), (Value.int .u64 0), (Value.int .u64 0)] fun ad => j (ad, r.1, r.2)) (mNew N_api_Cap #[(Value.int .i64 0), (Value.int .u64 0), (Value.int .u64 0)] fun ad => call fun r => j (ad, r.1, r.2))) h := by
  have fin : ∀ (b : Nat) (o2 : Owner) (h2 : H), h b = none → SetO h2 o2 d p q cs each all tk' es' l' → h2 b = some (.cells #[(Value.int .i64 0), (Value.int .u64 0), (Value.int .u64 0)] N_api_Cap (0, 0)) → o2 b = some t →
      (∀ c x, h c = some x → (∀ i, o c = some i → ¬ i ≤ 3) → h2 c = some x) → (∀ c i, o c = some i → o2 c = some i) → (∀ c, o2 c ≠ none → o c ≠ none ∨ h c = none) → (∀ c, h2 c = none → h c = none) →
      mStore ⟨b, 0, none⟩ [(Value.int .i64 res.1.Obj), (Value.int .u64 res.1.Pass.Hi), (Value.int .u64 res.1.Pass.Lo)] (rest (⟨b, 0, none⟩, res.1, res.2)) h2 := by
    intro b o2 h2 fb s2 c2 ob but own new dom
    refine w_setBox (old := [(Value.int .i64 0), (Value.int .u64 0), (Value.int .u64 0)]) c2 rfl fun h3 c3 k3 d3 => ?_
    obtain ⟨k, ow3⟩ := OC.one s2.ow k3 d3 ob
    have s3 := s2.oc k ht ow3
    have hsb : s ≠ b := fun q => by rw [← q, x.cell] at fb; cases fb
    have os : OS (fun i => i ≤ 3) o o2 h h3 := ⟨fun c y e n => k3 c y (but c y e n) (fun (q : c = b) => by rw [q, fb] at e; cases e), own, new, fun c e => dom c (d3 c e)⟩
    exact hr b o2 h3 ⟨s3, os.free x.no x.cell, os.gone x.no (by rw [x.cell]; simp)⟩ ⟨c3, ob⟩ os
  refine w_join (w_both (hc h o _ x.set fun o1 h1 s1 k1 => ?_) ?_)
  · refine w_box fun b h2 f2 c2 k2 => ?_
    obtain ⟨o2, k3, ow2, ob⟩ := OC.anew (G := fun c => c = b) t s1.ow k2 (fun c g => by rw [g]; exact f2) fun c g => by rw [g, c2]; simp
    refine fin b o2 h2 (k1.dom _ f2) (s1.oc k3 ht ow2) c2 (ob b rfl) (fun c y e n => k2 _ _ (k1.but c y e n)) (fun c i e => k3.own _ _ (k1.own _ _ e)) (fun c e => ?_) fun c e => k1.dom _ (k2.fresh e)
    rcases k3.new c e with z | z
    · exact k1.new c z
    · exact .inr (k1.dom c z)
  · refine w_box fun b h1 f1 c1 k1 => ?_
    obtain ⟨o1, k2, ow1, ob⟩ := OC.anew (G := fun c => c = b) t x.set.ow k1 (fun c g => by rw [g]; exact f1) fun c g => by rw [g, c1]; simp
    refine hc h1 o1 _ (x.set.oc k2 ht ow1) fun o2 h2 s2 k3 => ?_
    have hn : ∀ i, o1 b = some i → ¬ i ≤ 3 := fun i q => by rw [ob b rfl] at q; cases q; omega
    refine fin b o2 h2 f1 s2 (k3.but _ _ c1 hn) (k3.own _ _ (ob b rfl)) (fun c y e n => k3.but _ _ (k1 _ _ e) fun i q => ?_) (fun c i e => k3.own _ _ (k2.own _ _ e)) (fun c e => ?_) fun c e => k1.fresh (k3.dom _ e)
    · cases z : o c with
      | none => exact ((k2.new c (by rw [q]; simp)).elim (fun w => absurd z w) fun w => by rw [w] at e; cases e)
      | some v => rw [k2.own _ _ z] at q; cases q; exact n _ z
    · rcases k3.new c e with z | z
      · exact k2.new c z
      · exact .inr (k1.fresh z)
end
theorem caps_full14 : ∀ (es : List En) (k : Nat), (∀ e ∈ es, e.isSome = true) → (capsG k es).length = es.length := by
  intro es
  induction es with
  | nil => exact fun _ _ => rfl
  | cons e r ih =>
    intro k hh
    have he := hh e (List.mem_cons_self ..)
    have := ih (k + 1) fun x hx => hh x (List.mem_cons_of_mem _ hx)
    cases e with
    | none => cases he
    | some p => obtain ⟨u, us⟩ := p; rw [capsG]; simp only [List.length_cons]; omega
theorem free_of14 {es : List En} (h : (capsG 0 es).length < es.length) : ∃ n, freeE es = some n := by
  cases e : freeE es with
  | some n => exact ⟨n, rfl⟩
  | none =>
    unfold freeE freeU at e
    rw [List.findIdx?_eq_none_iff] at e
    have := caps_full14 es 0 fun x hx => by
      have := e x.isSome (List.mem_map.2 ⟨x, hx, rfl⟩)
      simpa using this
    omega
structure Inv14 (most : Int) (es : List En) (l : List (Int × Int)) (L : List Int) : Prop where
  len : (es.length : Int) = most
  rel : RelQ l L
  cnt : ∀ o, cnt es o = L.count o
  tot : (capsG 0 es).length = L.length
section
variable {each most : Int} {es : List En} {l : List (Int × Int)} {L : List Int}
theorem rmay0 {b : Int} (h : rmayOf each most L b = 0) : (L.count b : Int) < each ∧ (L.length : Int) < most := by
  unfold rmayOf at h
  split at h
  · cases h
  · split at h
    · cases h
    · omega
theorem Inv14.root (v : Inv14 most es l L) {b : Int} (h0 : K.cnt es b = 0) (hr : rmayOf each most L b = 0) {W : S_api_Word} :
    (rootOut es ⟨b, W⟩ 31).1.2 = 0 ∧ Inv14 most (rootOut es ⟨b, W⟩ 31).2 (addL each most l b) (L ++ [b]) := by
  have hlen := v.len
  have htot := v.tot
  have hl := (rmay0 hr).2
  obtain ⟨n, hn⟩ := free_of14 (es := es) (by omega)
  have e1 : rootOut es ⟨b, W⟩ 31 = (((n : Int), 0), rootE es n ⟨⟨b, W⟩, 31, -1⟩) := by
    unfold rootOut
    rw [if_pos (by decide), if_neg (by show ¬ 0 < K.cnt es b; omega), hn]
  have perm : (capsG 0 (rootE es n ⟨⟨b, W⟩, 31, -1⟩)).Perm ((⟨b, W⟩, (n : Int)) :: capsG 0 es) := by
    have := capsG_new (t := ⟨⟨b, W⟩, 31, -1⟩) (ks := []) (k := 0) (freeE_some hn)
    rwa [Nat.zero_add] at this
  have hcnt := cnt_cons perm
  refine ⟨by rw [e1], ?_⟩
  rw [e1]
  have rel' := v.rel.add (each := each) (all := most) b
  rw [if_pos hr] at rel'
  refine ⟨by unfold rootE; rw [List.length_set]; exact hlen, rel', fun o => ?_, ?_⟩
  · show K.cnt (rootE es n ⟨⟨b, W⟩, 31, -1⟩) o = _
    rw [hcnt, v.cnt, List.count_append, List.count_singleton]
    simp only [beq_iff_eq]
  · show (capsG 0 (rootE es n ⟨⟨b, W⟩, 31, -1⟩)).length = _
    rw [perm.length_eq, List.length_cons, List.length_append, List.length_singleton, htot]
theorem Inv14.child (v : Inv14 most es l L) {q : Nat} {t : S_api_Token} {ks : List Int} (hq : Has es q t ks) {W : S_api_Word} {r : Int} (hp : partOf r t.Rights = true) (hf : findE es ⟨t.Cap.Obj, W⟩ = none) (hr : rmayOf each most L t.Cap.Obj = 0) :
    (childOut es q ⟨t.Cap.Obj, W⟩ r).1.2 = 0 ∧ Inv14 most (childOut es q ⟨t.Cap.Obj, W⟩ r).2 (addL each most l t.Cap.Obj) (L ++ [t.Cap.Obj]) := by
  have hlen := v.len
  have htot := v.tot
  have hl := (rmay0 hr).2
  obtain ⟨n, hn⟩ := free_of14 (es := es) (by omega)
  have ea : atE es (q : Int) = some (t, ks) := atE_has.2 ⟨q, rfl, hq⟩
  have e1 : childOut es q ⟨t.Cap.Obj, W⟩ r = (((n : Int), 0), childE es q n ⟨⟨t.Cap.Obj, W⟩, r, (q : Int)⟩) := by
    unfold childOut
    rw [ea]
    simp only []
    rw [if_pos hp, hf, hn]
    simp
  refine ⟨by rw [e1], ?_⟩
  rw [e1]
  have perm := capsG_child (t := ⟨⟨t.Cap.Obj, W⟩, r, (q : Int)⟩) hq (freeE_some hn)
  have hcnt := cnt_cons perm
  have rel' := v.rel.add (each := each) (all := most) t.Cap.Obj
  rw [if_pos hr] at rel'
  have hlen' : (childE es q n ⟨⟨t.Cap.Obj, W⟩, r, (q : Int)⟩).length = es.length := by
    unfold childE; rw [show es[q]? = some (some (t, ks)) from hq]; simp only [List.length_set]
  refine ⟨by show ((childE es q n _).length : Int) = _; rw [hlen']; exact hlen, rel', fun o' => ?_, ?_⟩
  · show K.cnt (childE es q n _) o' = _
    rw [hcnt, v.cnt, List.count_append, List.count_singleton]
    simp only [beq_iff_eq]
  · show (capsG 0 (childE es q n _)).length = _
    rw [perm.length_eq, List.length_cons, List.length_append, List.length_singleton, htot]
theorem Inv14.drop (v : Inv14 most es l L) (w : CWF es) (ho : Once l) {n : Nat} {t ks} (hn : Has es n t ks) :
    subOk l t.Cap.Obj ((belowOf es n).length : Int) = true ∧ rsubOk L t.Cap.Obj ((belowOf es n).length : Int) = true ∧
    Inv14 most (cutE (belowOf es n) es) (subL l t.Cap.Obj ((belowOf es n).length : Int)) (dropN t.Cap.Obj L ((belowOf es n).length : Int)) := by
  obtain ⟨bs, bl⟩ := w.ex hn
  have eb := bl.eq
  rw [eb]
  obtain ⟨c1, c2⟩ := bl.cnt w hn
  have cc := c1 t.Cap.Obj
  rw [if_pos rfl, v.cnt] at cc
  have ok : rsubOk L t.Cap.Obj (bs.length : Int) = true := by
    unfold rsubOk
    rw [Bool.and_eq_true, decide_eq_true_eq, decide_eq_true_eq]
    omega
  have ok' : subOk l t.Cap.Obj (bs.length : Int) = true := by rw [v.rel.subOk]; exact ok
  have rel' := v.rel.sub ho t.Cap.Obj (bs.length : Int)
  rw [if_pos ok] at rel'
  obtain ⟨d1, d2⟩ := dropN_count t.Cap.Obj L (bs.length : Int) (by omega) (by omega)
  refine ⟨ok', ok, by rw [cutE_len]; exact v.len, rel', fun o => ?_, ?_⟩
  · have q1 := c1 o
    have q2 := d1 o
    rw [v.cnt] at q1
    by_cases z : o = t.Cap.Obj
    · subst z; rw [if_pos rfl] at q1 q2; omega
    · rw [if_neg z] at q1 q2; omega
  · have := v.tot
    omega
end
def hasB (a i : Nat) : Bool := decide (a / 2 ^ i % 2 = 1)
theorem t_has03 {h : H} {a i : Nat} (ha : a < 2 ^ 40) {K : Bool → H → Prop} (hi : i < 5) (y : K (hasB a i) h) : m_ref03_has (a : Int) (i : Int) K h := by
  unfold m_ref03_has
  refine w_for i (fun j (s : Int × Int) h' => s.1 = ((a / 2 ^ j : Nat) : Int) ∧ s.2 = (j : Int) ∧ h = h') ?_ ⟨by simp, rfl, rfl⟩
  rintro rec j ⟨u, z⟩ h' hj ⟨eu, ez, rfl⟩ more
  have eu : u = ((a / 2 ^ j : Nat) : Int) := eu
  have ez : z = (j : Int) := ez
  subst eu; subst ez
  refine w_if' (fun c => ?_) fun c => ?_
  · have c : (j : Int) < i := c
    refine more _ _ (by omega) ⟨?_, ia1 j (by omega), rfl⟩
    have hle : a / 2 ^ j ≤ a := Nat.div_le_self _ _
    show iQuo .i64 ((a / 2 ^ j : Nat) : Int) 2 = _
    rw [Nat.pow_succ, ← Nat.div_div_eq_div_mul]
    exact iq (a / 2 ^ j) 2 (by omega)
  · have c : ¬ (j : Int) < i := c
    obtain rfl : j = i := by omega
    have e : decide (iRem .i64 ((a / 2 ^ j : Nat) : Int) 2 = 1) = hasB a j := by
      unfold hasB
      have e2 : iRem .i64 ((a / 2 ^ j : Nat) : Int) 2 = ((a / 2 ^ j % 2 : Nat) : Int) := (Int.ofNat_tmod _ 2).symm
      rw [e2]
      exact decide_eq_decide.2 ⟨fun q => by omega, fun q => by omega⟩
    show K (decide (iRem .i64 ((a / 2 ^ j : Nat) : Int) 2 = 1)) h
    rw [e]; exact y
def subB (a r : Nat) : Nat → Bool
  | 0 => true
  | i + 1 => subB a r i && (!hasB a i || hasB r i)
set_option maxRecDepth 100000 in
theorem sub_all : ((List.range 32).all fun a => (List.range 32).all fun r => decide ((decide (1 ≤ a ∧ 1 ≤ r) && subB a r 5) = partOf (a : Int) (r : Int))) = true := by kernel_rfl
theorem sub_part {a r : Nat} (ha : 1 ≤ a ∧ a ≤ 31) (hr : 1 ≤ r ∧ r ≤ 31) : subB a r 5 = partOf (a : Int) (r : Int) := by
  have h := of_decide_eq_true (List.all_eq_true.1 (List.all_eq_true.1 sub_all a (List.mem_range.2 (by omega))) r (List.mem_range.2 (by omega)))
  rw [← h, decide_eq_true (by omega), Bool.true_and]
theorem t_Valid03 {h : H} {a : Int} {K : Bool → H → Prop} (y : K (decide (1 ≤ a) && decide (a ≤ 31)) h) : m_ref03_Valid a K h := y
theorem t_Part03 {h : H} {a r : Int} {K : Bool → H → Prop} (y : K (partOf a r) h) : m_ref03_Part a r K h := by
  unfold m_ref03_Part
  refine w_pure _ (fun _ _ z => t_Valid03 z) (w_joinV (!(decide (1 ≤ a) && decide (a ≤ 31)) || !(decide (1 ≤ r) && decide (r ≤ 31))) (fun j hj => ?_) ?_)
  · refine w_if (fun c => ?_) fun c => w_pure _ (fun _ _ z => t_Valid03 z) ?_
    · rw [c] at hj; exact hj
    · rw [c] at hj; exact hj
  · refine w_if (fun c => ?_) fun c => ?_
    · have e : partOf a r = false := by
        unfold partOf
        simp only [Bool.or_eq_true, Bool.not_eq_true', Bool.and_eq_false_iff, decide_eq_false_iff_not] at c
        by_cases q1 : 1 ≤ a ∧ a ≤ 31
        · have q2 : ¬ (1 ≤ r ∧ r ≤ 31) := by omega
          rw [decide_eq_false q2]; simp
        · rw [decide_eq_false q1]; simp
      rw [← e]; exact y
    · simp only [Bool.or_eq_false_iff, Bool.not_eq_false', Bool.and_eq_true, decide_eq_true_eq] at c
      obtain ⟨⟨c1, c2⟩, c3, c4⟩ := c
      obtain ⟨A, rfl⟩ : ∃ A : Nat, a = A := ⟨a.toNat, by omega⟩
      obtain ⟨R, rfl⟩ : ∃ R : Nat, r = R := ⟨r.toNat, by omega⟩
      have sp := sub_part (a := A) (r := R) (by omega) (by omega)
      refine w_for 5 (fun i (z : Int) h' => z = (i : Int) ∧ h = h' ∧ subB A R i = true) ?_ ⟨rfl, rfl, rfl⟩
      rintro rec i z h' hi ⟨rfl, rfl, inv⟩ more
      refine w_if' (fun c => ?_) fun c => ?_
      · have c : (i : Int) < 5 := c
        have hi5 : i < 5 := by omega
        refine w_pure (hasB A i) (fun _ _ z => t_has03 (by omega) hi5 z) (w_joinV (hasB A i && !hasB R i) (fun j hj => ?_) ?_)
        · refine w_if (fun c => ?_) fun c => ?_
          · refine w_pure (hasB R i) (fun _ _ z => t_has03 (by omega) hi5 z) ?_
            rw [c] at hj; exact hj
          · rw [c] at hj; exact hj
        · refine w_if (fun c => ?_) fun c => ?_
          · have e : partOf (A : Int) (R : Int) = false := by
              rw [← sp]
              rw [Bool.and_eq_true, Bool.not_eq_true'] at c
              have hm : ∀ n, i < n → subB A R n = false := by
                intro n
                induction n with
                | zero => intro q; omega
                | succ n ih =>
                  intro q
                  unfold subB
                  by_cases e : i = n
                  · subst e; rw [c.1, c.2]; simp
                  · rw [ih (by omega)]; rfl
              exact hm 5 hi5
            rw [← e]; exact y
          · refine more _ _ hi5 ⟨ia1 i (by omega), rfl, ?_⟩
            unfold subB
            rw [inv]
            cases q : hasB A i <;> cases q' : hasB R i <;> rw [q, q'] at c <;> simp_all
      · have c : ¬ (i : Int) < 5 := c
        obtain rfl : i = 5 := by omega
        rw [← sp, inv] at y
        exact y
section
variable {h h' : H} {o o' : Owner} {r e f : Nat} {xs : List S_api_Word} {W each most : Int} {tk tk' ev ev' : Nat} {es es' : List En} {l : List (Int × Int)} {L L' : List Int}
theorem RefsO.os {S : Nat → Prop} (x : RefsO h o r e f xs W each most tk ev es L) (k : OS S o o' h h') (n : ∀ i, 4 ≤ i → i ≤ 6 → ¬ S i) : RefsO h' o' r e f xs W each most tk ev es L := by
  have nn : ∀ {c i : Nat}, o c = some i → 4 ≤ i → i ≤ 6 → ¬ (fun c => ∃ i, o c = some i ∧ S i) c := fun q a b ⟨j, q', s⟩ => by rw [q] at q'; cases q'; exact n _ a b s
  obtain ⟨⟨s4, a4, b4, c4⟩, ⟨G5, a5, b5⟩, ⟨s6, a6, b6, c6⟩⟩ := x
  refine ⟨⟨s4, a4.but k.bt fun c q => ⟨fun z => nn (z ▸ b4) (by decide) (by decide) q, fun g => nn (c4 c g) (by decide) (by decide) q⟩, k.own _ _ b4, fun c g => k.own _ _ (c4 c g)⟩,
    ⟨G5, a5.but k.bt fun c q g => nn (b5 c g) (by decide) (by decide) q, fun c g => k.own _ _ (b5 c g)⟩,
    ⟨s6, a6.but k.bt (fun q => nn b6 (by decide) (by decide) q) (fun c g q => nn (c6 c g) (by decide) (by decide) q), k.own _ _ b6, fun c g => k.own _ _ (c6 c g)⟩⟩
theorem o_rdraw {i : Nat} (x : RaO h o i r xs W tk) (gx : ∀ x ∈ xs, GoodW x) (ow : Owns o h) {K : S_api_Word × Int → H → Prop} (y0 : (xs.map (cutW W))[tk]? = none → K (⟨0, 0⟩, 11) h) (y1 : ∀ c, (xs.map (cutW W))[tk]? = some c → ∀ h', RaO h' o i r xs W (tk + 1) → OC i o o h h' → Owns o h' → K (c, 0) h') : m_ref04_Draws_Draw (some ⟨r, 0, none⟩) K h := by
  obtain ⟨ws, a, b1, b2⟩ := x
  refine t_RDDraw a gx y0 fun c hc h' a' k dm => ?_
  obtain ⟨k1, k2⟩ := OC.one ow k dm b1
  exact y1 c hc h' ⟨ws, a', b1, b2⟩ k1 k2
theorem o_rissue {i j : Nat} (x : RaO h o i r xs W tk) (gx : ∀ x ∈ xs, GoodW x) (ow : Owns o h) (ct : RefO h o j e ev es) {b : Int} {K : S_api_Word × Int → H → Prop}
    (y : ∀ h', RaO h' o i r xs W (issueO (fun c => (findE es ⟨b, c⟩).isSome) (xs.map (cutW W)) tk 9).2 → OC i o o h h' → Owns o h' → K (issueO (fun c => (findE es ⟨b, c⟩).isSome) (xs.map (cutW W)) tk 9).1 h') : m_ref13_Of (some ⟨r, 0, none⟩) (some ⟨e, 0, none⟩) b K h := by
  obtain ⟨ws, a, b1, b2⟩ := x
  obtain ⟨G, ca, cb⟩ := ct
  have hcon := issueO_congr (f := fun c => (findE es ⟨b, c⟩).isSome) (g := fun c => decide (c ∈ passes es b)) (fun c => find_passes ca.wf b c) (xs.map (cutW W)) tk 9
  rw [hcon] at y
  refine t_ref13Of a gx ca fun h' a' k dm => ?_
  obtain ⟨k1, k2⟩ := OC.one ow k dm b1
  exact y h' ⟨ws, a', b1, b2⟩ k1 k2
theorem o_rin {i : Nat} (x : RefO h o i e ev es) {n : Int} {K : Int → H → Prop} (y : K (cnt es n : Nat) h) : m_ref11_Catalogue_In (some ⟨e, 0, none⟩) n K h := by
  obtain ⟨_, a, _⟩ := x; exact t_RIn a y
theorem o_rqmay {i : Nat} (x : RqO h o i f each most L) {n : Int} {K : Int → H → Prop} (y : K (rmayOf each most L n) h) : m_ref12_Quota_May (some ⟨f, 0, none⟩) n K h := by
  obtain ⟨_, a, _⟩ := x; exact t_QRMay a y
end
def R46 (i : Nat) : Prop := 4 ≤ i ∧ i ≤ 6
def refW (r e f : Nat) : S_ref14_World := ⟨some ⟨r, 0, none⟩, some ⟨e, 0, none⟩, some ⟨f, 0, none⟩⟩
section
variable {h h' : H} {o o' : Owner} {r e f : Nat} {xs : List S_api_Word} {W each most : Int} {tk ev : Nat} {es : List En} {l : List (Int × Int)} {L : List Int}
theorem t_rRoot (x : RefsO h o r e f xs W each most tk ev es L) (ow : Owns o h) (gx : ∀ x ∈ xs, GoodW x) (hm : most ≤ 256) (he : ev < 9223372036854775807) (v : Inv14 most es l L) {b : Int} {K : S_api_Cap × Int → H → Prop}
    (y : ∀ o' h' ev' L', ev' ≤ ev + 1 → RefsO h' o' r e f xs W each most (rootD each most (xs.map (cutW W)) tk es l b).2.1 ev' (rootD each most (xs.map (cutW W)) tk es l b).2.2.1 L' → Inv14 most (rootD each most (xs.map (cutW W)) tk es l b).2.2.1 (rootD each most (xs.map (cutW W)) tk es l b).2.2.2 L' →
      OS R46 o o' h h' → Owns o' h' → K (rootD each most (xs.map (cutW W)) tk es l b).1 h') : m_ref14_World_Root (refW r e f) b K h := by
  unfold m_ref14_World_Root
  have x5 : RefO h o 5 e ev es := x.ct
  refine o_rin x5 (w_if' (fun c => ?_) fun c => ?_)
  · have ee : rootD each most (xs.map (cutW W)) tk es l b = ((cap0, 19), tk, es, l) := by unfold rootD; rw [if_pos (by omega)]
    rw [ee] at y
    exact y o h ev L (by omega) x v (OS.keeps (.refl _)) ow
  · refine o_rqmay x.qu ?_
    have hc := v.rel.code (each := each) (all := most) b
    by_cases e0 : rmayOf each most L b = 0
    · refine w_ifF (by rw [decide_eq_true e0]; rfl) (o_rdraw x.dr gx ow (fun hno => ?_) fun c' hc' h1 dr1 k1 ow1 => ?_)
      · have ee : rootD each most (xs.map (cutW W)) tk es l b = ((cap0, 11), tk, es, l) := by unfold rootD; rw [if_neg (by omega), if_pos (hc.trans e0), hno]
        rw [ee] at y
        exact w_ifT rfl (y o h ev L (by omega) x v (OS.keeps (.refl _)) ow)
      · obtain ⟨v1, v2⟩ := v.root (each := each) (W := c') (b := b) (by omega) e0
        have ee : rootD each most (xs.map (cutW W)) tk es l b = ((⟨b, c'⟩, 0), tk + 1, (rootOut es ⟨b, c'⟩ 31).2, addL each most l b) := by unfold rootD; rw [if_neg (by omega), if_pos (hc.trans e0), hc']; simp only []; rw [if_pos v1]
        rw [ee] at y
        refine w_ifF rfl (o_rroot (x5.oc k1 (by decide)) ow1 he fun o2 h2 ev2 le2 ct2 k2 ow2 => o_rqadd ((x.qu.oc k1 (by decide)).oc k2 (by decide)) ow2 hm fun o3 h3 q3 k3 ow3 => ?_)
        rw [if_pos e0] at q3
        exact y o3 h3 ev2 _ le2 ⟨(dr1.oc k2 (by decide)).oc k3 (by decide), ct2.oc k3 (by decide), q3⟩ v2 (((k1.os ⟨by decide, by decide⟩).trans (k2.os ⟨by decide, by decide⟩)).trans (k3.os ⟨by decide, by decide⟩)) ow3
    · have ee : rootD each most (xs.map (cutW W)) tk es l b = ((cap0, rmayOf each most L b), tk, es, l) := by unfold rootD; rw [if_neg (by omega), if_neg (fun q => e0 (hc.symm.trans q)), hc]
      rw [ee] at y
      exact w_ifT (by rw [decide_eq_false e0]; rfl) (y o h ev L (by omega) x v (OS.keeps (.refl _)) ow)
theorem issueO_new {g : S_api_Word → Bool} {cs : List S_api_Word} : ∀ {n tk : Nat}, (issueO g cs tk n).1.2 = 0 → g (issueO g cs tk n).1.1 = false := by
  intro n
  induction n with
  | zero => intro tk h; unfold issueO at h; cases h
  | succ n ih =>
    intro tk h
    cases hc : cs[tk]? with
    | none => rw [issueO_none hc] at h; cases h
    | some c =>
      rw [issueO_some hc] at h ⊢
      cases hg : g c with
      | true => rw [hg, if_pos rfl] at h; rw [if_pos rfl]; exact ih h
      | false => rw [if_neg (by decide)]; exact hg
theorem t_rChild (x : RefsO h o r e f xs W each most tk ev es L) (ow : Owns o h) (gx : ∀ x ∈ xs, GoodW x) (hm : most ≤ 256) (he : ev < 9223372036854775807) (v : Inv14 most es l L) {c : S_api_Cap} {g : Int} {K : S_api_Cap × Int → H → Prop}
    (y : ∀ o' h' ev' L', ev' ≤ ev + 1 → RefsO h' o' r e f xs W each most (childD each most (xs.map (cutW W)) tk es l c g).2.1 ev' (childD each most (xs.map (cutW W)) tk es l c g).2.2.1 L' → Inv14 most (childD each most (xs.map (cutW W)) tk es l c g).2.2.1 (childD each most (xs.map (cutW W)) tk es l c g).2.2.2 L' →
      OS R46 o o' h h' → Owns o' h' → K (childD each most (xs.map (cutW W)) tk es l c g).1 h') : m_ref14_World_Child (refW r e f) c g K h := by
  unfold m_ref14_World_Child
  have x5 : RefO h o 5 e ev es := x.ct
  have same := fun (yy : K (childD each most (xs.map (cutW W)) tk es l c g).1 h → K (childD each most (xs.map (cutW W)) tk es l c g).1 h) => yy
  refine o_rfind x5 ?_
  cases hf : findE es c with
  | none =>
    have ee : childD each most (xs.map (cutW W)) tk es l c g = ((cap0, 3), tk, es, l) := by unfold childD; rw [hf]
    rw [ee] at y
    exact w_ifT rfl (y o h ev L (by omega) x v (OS.keeps (.refl _)) ow)
  | some n =>
    obtain ⟨t, ks, hn, htc⟩ := findE_has hf
    have ea : atOut es (n : Int) = (t, true) := atOut_has hn
    refine w_ifF rfl (o_rat x5 ?_)
    show mPure (m_ref03_Part 4 (atOut es (n : Int)).1.Rights) _ h
    refine w_pure (partOf 4 (atOut es n).1.Rights) (fun _ _ z => t_Part03 z) ?_
    refine w_joinV (!partOf 4 (atOut es n).1.Rights || !partOf g (atOut es n).1.Rights) (fun j hj => ?_) ?_
    · refine w_if (fun c1 => ?_) fun c1 => w_pure _ (fun _ _ z => t_Part03 z) ?_
      · rw [c1] at hj; exact hj
      · rw [c1] at hj; exact hj
    · refine w_if (fun c1 => ?_) fun c1 => ?_
      · have ee : childD each most (xs.map (cutW W)) tk es l c g = ((cap0, 4), tk, es, l) := by unfold childD; rw [hf]; simp only []; rw [if_pos c1]
        rw [ee] at y
        exact y o h ev L (by omega) x v (OS.keeps (.refl _)) ow
      · have c2 : ¬ (!partOf 4 (atOut es n).1.Rights || !partOf g (atOut es n).1.Rights) = true := by rw [c1]; decide
        have hc := v.rel.code (each := each) (all := most) c.Obj
        refine o_rqmay x.qu ?_
        by_cases e0 : rmayOf each most L c.Obj = 0
        · refine w_ifF (by rw [decide_eq_true e0]; rfl) (o_rissue x.dr gx ow x5 fun h1 dr1 k1 ow1 => ?_)
          by_cases e2 : (issueO (fun v => (findE es ⟨c.Obj, v⟩).isSome) (xs.map (cutW W)) tk 9).1.2 = 0
          · have hg : partOf g t.Rights = true := by
              rw [ea] at c1
              simp only [Bool.or_eq_false_iff, Bool.not_eq_false'] at c1
              exact c1.2
            have hw := issueO_new e2
            have hw' : findE es ⟨t.Cap.Obj, (issueO (fun v => (findE es ⟨c.Obj, v⟩).isSome) (xs.map (cutW W)) tk 9).1.1⟩ = none := by
              rw [htc]
              exact Option.isNone_iff_eq_none.1 (by rw [← Option.not_isSome]; simpa using hw)
            obtain ⟨v1, v2⟩ := v.child (each := each) hn hg hw' (by rw [htc]; exact e0)
            rw [htc] at v1 v2
            have ee : childD each most (xs.map (cutW W)) tk es l c g = ((⟨c.Obj, (issueO (fun v => (findE es ⟨c.Obj, v⟩).isSome) (xs.map (cutW W)) tk 9).1.1⟩, 0), (issueO (fun v => (findE es ⟨c.Obj, v⟩).isSome) (xs.map (cutW W)) tk 9).2, (childOut es n ⟨c.Obj, (issueO (fun v => (findE es ⟨c.Obj, v⟩).isSome) (xs.map (cutW W)) tk 9).1.1⟩ g).2, addL each most l c.Obj) := by
              unfold childD; rw [hf]; simp only []; rw [if_neg c2, if_pos (hc.trans e0), if_pos e2, if_pos v1]
            rw [ee] at y
            refine w_ifF (congrArg Bool.not (decide_eq_true e2)) (o_rchild (x5.oc k1 (by decide)) ow1 he fun o2 h2 ev2 le2 ct2 k2 ow2 => o_rqadd ((x.qu.oc k1 (by decide)).oc k2 (by decide)) ow2 hm fun o3 h3 q3 k3 ow3 => ?_)
            rw [if_pos e0] at q3
            exact y o3 h3 ev2 _ le2 ⟨(dr1.oc k2 (by decide)).oc k3 (by decide), ct2.oc k3 (by decide), q3⟩ v2 (((k1.os ⟨by decide, by decide⟩).trans (k2.os ⟨by decide, by decide⟩)).trans (k3.os ⟨by decide, by decide⟩)) ow3
          · have ee : childD each most (xs.map (cutW W)) tk es l c g = ((cap0, (issueO (fun v => (findE es ⟨c.Obj, v⟩).isSome) (xs.map (cutW W)) tk 9).1.2), (issueO (fun v => (findE es ⟨c.Obj, v⟩).isSome) (xs.map (cutW W)) tk 9).2, es, l) := by
              unfold childD; rw [hf]; simp only []; rw [if_neg c2, if_pos (hc.trans e0), if_neg e2]
            rw [ee] at y
            exact w_ifT (congrArg Bool.not (decide_eq_false e2)) (y o h1 ev L (by omega) ⟨dr1, x.ct.oc k1 (by decide), x.qu.oc k1 (by decide)⟩ v (k1.os ⟨by decide, by decide⟩) ow1)
        · have ee : childD each most (xs.map (cutW W)) tk es l c g = ((cap0, rmayOf each most L c.Obj), tk, es, l) := by unfold childD; rw [hf]; simp only []; rw [if_neg c2, if_neg (fun q => e0 (hc.symm.trans q)), hc]
          rw [ee] at y
          exact w_ifT (by rw [decide_eq_false e0]; rfl) (y o h ev L (by omega) x v (OS.keeps (.refl _)) ow)
end
def hdC : List S_api_Word := [⟨0, 3⟩, ⟨0, 3⟩, ⟨0, 5⟩, ⟨0, 3⟩]
def hdE : List En := [none, none, none, none]
noncomputable def hd1 := rootD 3 4 hdC 0 hdE [] 1
noncomputable def hd2 := rootD 3 4 hdC hd1.2.1 hd1.2.2.1 hd1.2.2.2 1
noncomputable def hd3 := childD 3 4 hdC hd2.2.1 hd2.2.2.1 hd2.2.2.2 ⟨1, ⟨0, 3⟩⟩ 5
noncomputable def hd4 := childD 3 4 hdC hd3.2.1 hd3.2.2.1 hd3.2.2.2 ⟨1, ⟨0, 5⟩⟩ 2
noncomputable def hd5 := childD 3 4 hdC hd4.2.1 hd4.2.2.1 hd4.2.2.2 ⟨1, ⟨0, 5⟩⟩ 1
theorem hd1_res : hd1.1 = (⟨1, ⟨0, 3⟩⟩, 0) := by kernel_rfl
theorem hd2_res : hd2.1 = (cap0, 19) := by kernel_rfl
theorem hd3_res : hd3.1 = (⟨1, ⟨0, 5⟩⟩, 0) := by kernel_rfl
theorem hd4_res : hd4.1 = (cap0, 4) := by kernel_rfl
theorem hd5_res : hd5.1 = (cap0, 11) := by kernel_rfl
theorem hd5_tk : hd5.2.1 = 4 := by kernel_rfl
theorem hd5_q : qcnt hd5.2.2.2 1 = 2 := by kernel_rfl
theorem hd_good : ∀ x ∈ hdC, GoodW x := by
  intro x hx
  simp only [hdC, List.mem_cons, List.not_mem_nil, or_false] at hx
  rcases hx with rfl | rfl | rfl | rfl
  · exact ⟨3, by decide, by kernel_rfl⟩
  · exact ⟨3, by decide, by kernel_rfl⟩
  · exact ⟨5, by decide, by kernel_rfl⟩
  · exact ⟨3, by decide, by kernel_rfl⟩
theorem hd_cut : hdC.map (cutW 4) = hdC := by kernel_rfl
section
variable {h h' : H} {o o' : Owner} {d p q : Nat} {cs : List S_api_Word} {each all : Int} {tk : Nat} {es : List En} {l : List (Int × Int)}
theorem OS.out {S : Nat → Prop} {h0 : H} (k : Keeps h0 h) (x : OS S o o' h h') (f : ∀ c, o c ≠ none → h0 c = none) : Keeps h0 h' := k.but x.bt fun c ⟨_, q, _⟩ => f c (by rw [q]; simp)
theorem t_dRootR (x : SetO h o d p q cs each all tk es l) {b : Int} {res : S_api_Cap × Int} (e : (rootD each all cs tk es l b).1 = res) {K : S_api_Cap × Int → H → Prop}
    (y : ∀ o' h', SetO h' o' d p q cs each all (rootD each all cs tk es l b).2.1 (rootD each all cs tk es l b).2.2.1 (rootD each all cs tk es l b).2.2.2 → OS (· ≤ 3) o o' h h' → K res h') :
    m_derive_Root (some ⟨d, 0, none⟩) (some ⟨p, 0, none⟩) (some ⟨q, 0, none⟩) b K h := t_dRoot x (by rw [e]; exact y)
theorem t_dChildR (x : SetO h o d p q cs each all tk es l) {c : S_api_Cap} {r : Int} {res : S_api_Cap × Int} (e : (childD each all cs tk es l c r).1 = res) {K : S_api_Cap × Int → H → Prop}
    (y : ∀ o' h', SetO h' o' d p q cs each all (childD each all cs tk es l c r).2.1 (childD each all cs tk es l c r).2.2.1 (childD each all cs tk es l c r).2.2.2 → OS (· ≤ 3) o o' h h' → K res h') :
    m_derive_Child (some ⟨d, 0, none⟩) (some ⟨p, 0, none⟩) (some ⟨q, 0, none⟩) c r K h := t_dChild x (by rw [e]; exact y)
end
theorem t_head14 {h : H} (er : ErrAt h) {K : Bool → H → Prop} (y : ∀ h', Keeps h h' → K true h') : m_law14_head K h := by
  unfold m_law14_head
  refine w_box fun b h1 f1 c1 k1 => ?_
  have ar : Arr cW h1 ⟨some ⟨b, 0, none⟩, 4, 4⟩ hdC := ⟨rfl, Nat.le_refl _, fun _ => ⟨_, rfl, at_box c1⟩⟩
  refine t_made14 (er.keep k1) ar hd_good (by decide) (by decide) (by decide) (by decide) (by decide) fun s w d p q r e f o h2 S2 _ c2 n2 _ _ k2 out => ?_
  rw [hd_cut] at S2
  have A0 : AtS h2 o s d p q hdC 3 4 0 hdE [] := ⟨S2, c2, n2⟩
  refine w_ifF rfl (w_set3 A0 ?_)
  refine w_cap 10 (by decide) A0 (res := (⟨1, ⟨0, 3⟩⟩, 0)) (tk' := hd1.2.1) (es' := hd1.2.2.1) (l' := hd1.2.2.2) (fun h1 o1 K s1 y => t_dRootR s1 hd1_res y) fun b1 o3 h3 A1 B1 j1 => ?_
  refine w_set3 A1 (w_cap 11 (by decide) A1 (res := (cap0, 19)) (tk' := hd2.2.1) (es' := hd2.2.2.1) (l' := hd2.2.2.2) (fun h1 o1 K s1 y => t_dRootR s1 hd2_res y) fun b2 o4 h4 A2 B2 j2 => ?_)
  have B12 := B1.os j2 (by decide)
  refine w_set3 A2 (w_load (v := ⟨1, ⟨0, 3⟩⟩) B12.at (w_cap 12 (by decide) A2 (res := (⟨1, ⟨0, 5⟩⟩, 0)) (tk' := hd3.2.1) (es' := hd3.2.2.1) (l' := hd3.2.2.2) (fun h1 o1 K s1 y => t_dChildR s1 hd3_res y) fun b3 o5 h5 A3 B3 j3 => ?_))
  have B13 := B12.os j3 (by decide)
  refine w_set3 A3 (w_load (v := ⟨1, ⟨0, 5⟩⟩) B3.at (w_cap 13 (by decide) A3 (res := (cap0, 4)) (tk' := hd4.2.1) (es' := hd4.2.2.1) (l' := hd4.2.2.2) (fun h1 o1 K s1 y => t_dChildR s1 hd4_res y) fun b4 o6 h6 A4 B4 j4 => ?_))
  have B14 := B13.os j4 (by decide)
  have B34 := B3.os j4 (by decide)
  refine w_set3 A4 (w_load (v := ⟨1, ⟨0, 5⟩⟩) B34.at (w_cap 14 (by decide) A4 (res := (cap0, 11)) (tk' := hd5.2.1) (es' := hd5.2.2.1) (l' := hd5.2.2.2) (fun h1 o1 K s1 y => t_dChildR s1 hd5_res y) fun b5 o7 h7 A5 B5 j5 => ?_))
  have B15 := B14.os j5 (by decide)
  have B35 := B34.os j5 (by decide)
  have k7 : Keeps h h7 := ((((j1.trans j2).trans j3).trans j4).trans j5).out (k1.trans k2) fun c q => k1.fresh (out c q)
  refine w_join (w_ifT rfl (w_load (v := ⟨1, ⟨0, 3⟩⟩) B15.at (w_join (w_ifT rfl (w_load (v := ⟨1, ⟨0, 5⟩⟩) B35.at (w_join (w_ifT rfl (A5.f0 (o_taken A5.set.dr (w_ifT ?_ (A5.f2 (o_qof A5.set.qu ?_)))))))))))) 
  · rw [hd5_tk]; rfl
  · rw [hd5_q]; exact y h7 k7
theorem w_right {h : H} {a0 : S_law14_World} {xs : List S_api_Word} (ar : Arr cW h a0.Draws xs) {k : S_law14_World → H → Prop}
    (y : ∀ s5 ys, Arr cW h s5 ys → (∀ x ∈ ys, x ∈ xs) → ys.length ≤ 4096 → k ⟨1 + intoV a0.Width 128, 1 + intoV a0.Entries 256, 1 + intoV a0.Each 256, intoV a0.Knob 65, s5⟩ h) : mPure (m_law14_World_right a0) k h := by
  have hl := ar.len
  have hj : iMin (a0.Draws.len : Int) 4096 = ((min xs.length 4096 : Nat) : Int) := by unfold iMin; split <;> omega
  obtain ⟨s5, hc, a5⟩ := w_take (size := 2) ar (n := min xs.length 4096) (Nat.min_le_left _ _) (i := 0) (j := iMin (a0.Draws.len : Int) 4096) rfl hj (k := fun s' _ => Arr cW h s' (xs.take (min xs.length 4096))) fun s' a _ _ => a
  refine w_pure _ (fun h' k' z => ?_) (y s5 _ a5 (fun x hx => List.mem_of_mem_take hx) (by rw [List.length_take]; omega))
  unfold m_law14_World_right
  have r1 := intoV_rng a0.Width (b := 128) (by decide)
  have r2 := intoV_rng a0.Entries (b := 256) (by decide)
  have r3 := intoV_rng a0.Each (b := 256) (by decide)
  refine w_mod14 (by decide) (by decide) (w_mod14 (by decide) (by decide) (w_mod14 (by decide) (by decide) (w_mod14 (by decide) (by decide) ⟨s5, hc, ?_⟩)))
  rw [iAdd_eq (by omega) (by omega), iAdd_eq (by omega) (by omega), iAdd_eq (by omega) (by omega)]
  exact z
structure Pt14 where
  d : Nat
  p : Nat
  q : Nat
  r : Nat
  e : Nat
  f : Nat
  xs : List S_api_Word
  W : Int
  each : Int
  most : Int
structure PairD (h : H) (o : Owner) (s w : Nat) (a : Pt14) (tk : Nat) (es : List En) (l : List (Int × Int)) (tk2 ev : Nat) (es2 : List En) (L : List Int) : Prop where
  set : AtS h o s a.d a.p a.q (a.xs.map (cutW a.W)) a.each a.most tk es l
  ref : RefsO h o a.r a.e a.f a.xs a.W a.each a.most tk2 ev es2 L
  wc : h w = some (.cells [Value.pointer (some ⟨a.r, 0, none⟩), Value.pointer (some ⟨a.e, 0, none⟩), Value.pointer (some ⟨a.f, 0, none⟩)].toArray N_ref14_World (0, 0))
  wn : o w = none
section
variable {h h' : H} {o o' : Owner} {s w : Nat} {a : Pt14} {tk tk2 tk' ev ev' : Nat} {es es2 es' : List En} {l l' : List (Int × Int)} {L L' : List Int}
theorem PairD.oc {j : Nat} (x : PairD h o s w a tk es l tk2 ev es2 L) (hj : 6 < j) (k : OC j o o' h h') (ow : Owns o' h') : PairD h' o' s w a tk es l tk2 ev es2 L := by
  have kt := k.os (S := fun i => i = j) rfl
  exact ⟨⟨x.set.set.oc k (by omega) ow, kt.free x.set.no x.set.cell, kt.gone x.set.no (by rw [x.set.cell]; simp)⟩, x.ref.os kt (fun i a b q => by have q : i = j := q; omega), kt.free x.wn x.wc, kt.gone x.wn (by rw [x.wc]; simp)⟩
theorem PairD.own (x : PairD h o s w a tk es l tk2 ev es2 L) : Owns o h := x.set.set.ow
theorem PairD.keep (x : PairD h o s w a tk es l tk2 ev es2 L) (k : Keeps h h') : PairD h' o s w a tk es l tk2 ev es2 L := x.oc (j := 7) (by decide) (OC.keeps k) (x.own.keep k)
theorem PairD.setS (x : PairD h o s w a tk es l tk2 ev es2 L) (k : OS (· ≤ 3) o o' h h') (y : SetO h' o' a.d a.p a.q (a.xs.map (cutW a.W)) a.each a.most tk' es' l') : PairD h' o' s w a tk' es' l' tk2 ev es2 L :=
  ⟨⟨y, k.free x.set.no x.set.cell, k.gone x.set.no (by rw [x.set.cell]; simp)⟩, x.ref.os k (fun i a b q => by have q : i ≤ 3 := q; omega), k.free x.wn x.wc, k.gone x.wn (by rw [x.wc]; simp)⟩
theorem setO_os {S : Nat → Prop} {d p q : Nat} {cs : List S_api_Word} {each all : Int} (x : SetO h o d p q cs each all tk es l) (k : OS S o o' h h') (n : ∀ i, 1 ≤ i → i ≤ 3 → ¬ S i) (ow : Owns o' h') : SetO h' o' d p q cs each all tk es l := by
  have nn : ∀ {c i : Nat}, o c = some i → 1 ≤ i → i ≤ 3 → ¬ (fun c => ∃ i, o c = some i ∧ S i) c := fun q a b ⟨j, q', s⟩ => by rw [q] at q'; cases q'; exact n _ a b s
  obtain ⟨⟨s1, a1, b1, c1⟩, ⟨kn, G, a2, b2⟩, ⟨qb, a3, b3, c3⟩, er, eo, _, hi⟩ := x
  refine ⟨⟨s1, a1.but k.bt fun c q => ⟨fun z => nn (z ▸ b1) (by decide) (by decide) q, fun g => nn (c1 c g) (by decide) (by decide) q⟩, k.own _ _ b1, fun c g => k.own _ _ (c1 c g)⟩,
    ⟨kn, G, a2.but k.bt fun c q g => nn (b2 c g) (by decide) (by decide) q, fun c g => k.own _ _ (b2 c g)⟩,
    ⟨qb, a3.but k.bt (fun q => nn b3 (by decide) (by decide) q) (fun q => nn c3 (by decide) (by decide) q), k.own _ _ b3, k.own _ _ c3⟩, er.os k eo, k.gone eo er.has, ow, hi⟩
theorem PairD.setR (x : PairD h o s w a tk es l tk2 ev es2 L) (k : OS R46 o o' h h') (ow : Owns o' h') (y : RefsO h' o' a.r a.e a.f a.xs a.W a.each a.most tk' ev' es' L') : PairD h' o' s w a tk es l tk' ev' es' L' :=
  ⟨⟨setO_os x.set.set k (fun i a b q => by have := q.1; omega) ow, k.free x.set.no x.set.cell, k.gone x.set.no (by rw [x.set.cell]; simp)⟩, y, k.free x.wn x.wc, k.gone x.wn (by rw [x.wc]; simp)⟩
theorem w_capG (t : Nat) {S : Nat → Prop} (nS : ¬ S t) {St St' : H → Owner → Prop} (st : ∀ h o h' o', St h o → OC t o o' h h' → Owns o' h' → St h' o') (st' : ∀ h o h' o', St' h o → OC t o o' h h' → Owns o' h' → St' h' o')
    (ow : ∀ h o, St h o → Owns o h) (ow' : ∀ h o, St' h o → Owns o h) {β σ : Type} {call : (β → H → Prop) → H → Prop} {mk : Addr → β → σ} {res : β} {cap : S_api_Cap} {R : σ → H → Prop} (x : St h o)
    (hc : ∀ (h1 : H) (o1 : Owner) (K : β → H → Prop), St h1 o1 → (∀ o' h', St' h' o' → OS S o1 o' h1 h' → K res h') → call K h1) (R2 : Nat → H → Prop)
    (hst : ∀ b h2, mStore ⟨b, 0, none⟩ [(Value.int .i64 cap.Obj), (Value.int .u64 cap.Pass.Hi), (Value.int .u64 cap.Pass.Lo)] (R2 b) h2 → R (mk ⟨b, 0, none⟩ res) h2)
    (hr : ∀ b o' h', St' h' o' → BoxT h' o' t b cap → OS S o o' h h' → R2 b h') :
    mJoin R (fun j => mBoth (call fun r => mNew N_api_Cap #[(Value.int .i64 0), (Value.int .u64 0), (Value.int .u64 0)] fun ad => j (mk ad r)) (mNew N_api_Cap #[(Value.int .i64 0), (Value.int .u64 0), (Value.int .u64 0)] fun ad => call fun r => j (mk ad r))) h := by
  have fin : ∀ (b : Nat) (o2 : Owner) (h2 : H), h b = none → St' h2 o2 → h2 b = some (.cells #[(Value.int .i64 0), (Value.int .u64 0), (Value.int .u64 0)] N_api_Cap (0, 0)) → o2 b = some t →
      (∀ c x, h c = some x → (∀ i, o c = some i → ¬ S i) → h2 c = some x) → (∀ c i, o c = some i → o2 c = some i) → (∀ c, o2 c ≠ none → o c ≠ none ∨ h c = none) → (∀ c, h2 c = none → h c = none) →
      R (mk ⟨b, 0, none⟩ res) h2 := by
    intro b o2 h2 fb s2 c2 ob but own new dom
    refine hst b h2 (w_setBox (old := [(Value.int .i64 0), (Value.int .u64 0), (Value.int .u64 0)]) c2 rfl fun h3 c3 k3 d3 => ?_)
    obtain ⟨k, ow3⟩ := OC.one (ow' _ _ s2) k3 d3 ob
    exact hr b o2 h3 (st' _ _ _ _ s2 k ow3) ⟨c3, ob⟩ ⟨fun c y e n => k3 c y (but c y e n) (fun (q : c = b) => by rw [q, fb] at e; cases e), own, new, fun c e => dom c (d3 c e)⟩
  refine w_join (w_both (hc h o _ x fun o1 h1 s1 k1 => ?_) ?_)
  · refine w_box fun b h2 f2 c2 k2 => ?_
    obtain ⟨o2, k3, ow2, ob⟩ := OC.anew (G := fun c => c = b) t (ow' _ _ s1) k2 (fun c g => by rw [g]; exact f2) fun c g => by rw [g, c2]; simp
    refine fin b o2 h2 (k1.dom _ f2) (st' _ _ _ _ s1 k3 ow2) c2 (ob b rfl) (fun c y e n => k2 _ _ (k1.but c y e n)) (fun c i e => k3.own _ _ (k1.own _ _ e)) (fun c e => ?_) fun c e => k1.dom _ (k2.fresh e)
    rcases k3.new c e with z | z
    · exact k1.new c z
    · exact .inr (k1.dom c z)
  · refine w_box fun b h1 f1 c1 k1 => ?_
    obtain ⟨o1, k2, ow1, ob⟩ := OC.anew (G := fun c => c = b) t (ow _ _ x) k1 (fun c g => by rw [g]; exact f1) fun c g => by rw [g, c1]; simp
    refine hc h1 o1 _ (st _ _ _ _ x k2 ow1) fun o2 h2 s2 k3 => ?_
    have hn : ∀ i, o1 b = some i → ¬ S i := fun i q => by rw [ob b rfl] at q; cases q; exact nS
    refine fin b o2 h2 f1 s2 (k3.but _ _ c1 hn) (k3.own _ _ (ob b rfl)) (fun c y e n => k3.but _ _ (k1 _ _ e) fun i q => ?_) (fun c i e => k3.own _ _ (k2.own _ _ e)) (fun c e => ?_) fun c e => k1.fresh (k3.dom _ e)
    · cases z : o c with
      | none => exact ((k2.new c (by rw [q]; simp)).elim (fun w => absurd z w) fun w => by rw [w] at e; cases e)
      | some v => rw [k2.own _ _ z] at q; cases q; exact n _ z
    · rcases k3.new c e with z | z
      · exact k2.new c z
      · exact .inr (k1.fresh z)
theorem PairD.w1 (x : PairD h o s w a tk es l tk2 ev es2 L) : At h ((⟨w, 0, none⟩ : Addr).add 1) (cPtr (some ⟨a.e, 0, none⟩)) := by
  rw [pt_add]; exact At.own (l1 := [Value.pointer (some ⟨a.r, 0, none⟩)]) (l2 := [Value.pointer (some ⟨a.e, 0, none⟩)]) (l3 := [Value.pointer (some ⟨a.f, 0, none⟩)]) x.wc rfl
theorem PairD.w0 (x : PairD h o s w a tk es l tk2 ev es2 L) : At h ((⟨w, 0, none⟩ : Addr).add 0) (cPtr (some ⟨a.r, 0, none⟩)) := by
  rw [pt_add]; exact At.own (l1 := []) (l2 := [Value.pointer (some ⟨a.r, 0, none⟩)]) (l3 := [Value.pointer (some ⟨a.e, 0, none⟩), Value.pointer (some ⟨a.f, 0, none⟩)]) x.wc rfl
theorem PairD.w2 (x : PairD h o s w a tk es l tk2 ev es2 L) : At h ((⟨w, 0, none⟩ : Addr).add 2) (cPtr (some ⟨a.f, 0, none⟩)) := by
  rw [pt_add]; exact At.own (l1 := [Value.pointer (some ⟨a.r, 0, none⟩), Value.pointer (some ⟨a.e, 0, none⟩)]) (l2 := [Value.pointer (some ⟨a.f, 0, none⟩)]) (l3 := []) x.wc rfl
theorem PairD.wW (x : PairD h o s w a tk es l tk2 ev es2 L) : At h ⟨w, 0, none⟩ (S_ref14_World.cells (refW a.r a.e a.f)) := at_box x.wc
noncomputable def namedD (es : List En) (u : S_law14_Op) : S_api_Cap := if (ofO es u.Obj).length = 0 ∨ u.Kind = 3 then u.X else (((ofO es u.Obj)[(intoV u.At (ofO es u.Obj).length).toNat]?).getD tok0).Cap
theorem t_named {i e : Nat} (x : RefO h o i e ev es) {u : S_law14_Op} {K : S_api_Cap → H → Prop} (y : ∀ h', Keeps h h' → K (namedD es u) h') : m_law14_named (some ⟨e, 0, none⟩) u K h := by
  unfold m_law14_named
  refine o_rof x fun s' h1 b1 k1 f1 => ?_
  have hl := b1.len
  unfold namedD at y
  refine w_if (fun c => ?_) fun c => ?_
  · simp only [Bool.or_eq_true, decide_eq_true_eq] at c
    rw [if_pos (c.imp (fun q => by omega) id)] at y
    exact y h1 k1
  · simp only [Bool.or_eq_false_iff, decide_eq_false_iff_not] at c
    have hp : 0 < (ofO es u.Obj).length := by omega
    rw [if_neg (by intro q; rcases q with q | q; · omega
                   · exact c.2 q)] at y
    have hle : (ofO es u.Obj).length ≤ 2 ^ 40 := by
      obtain ⟨G, q, _⟩ := x
      have := q.wf.len; have := ofO_len q.wf u.Obj; omega
    rw [hl]
    have rg := intoV_rng u.At (b := ((ofO es u.Obj).length : Int)) (by omega)
    refine w_mod14 (by omega) (by omega) ?_
    obtain ⟨z, hz⟩ : ∃ z : Nat, intoV u.At ((ofO es u.Obj).length : Int) = z := ⟨(intoV u.At ((ofO es u.Obj).length : Int)).toNat, by omega⟩
    rw [hz] at y ⊢
    have hzl : z < (ofO es u.Obj).length := by omega
    have hg := List.getElem?_eq_getElem hzl
    rw [Int.toNat_natCast, hg] at y
    exact w_field (cells' := S_api_Cap.cells) (l1 := []) (l3 := (cTok (ofO es u.Obj)[z]).drop 3) (n := 0) tok_len b1.arr hg rfl rfl rfl (y h1 k1)
end
section
variable {h h' : H} {o o' : Owner} {s w : Nat} {a : Pt14} {tk tk2 tk' ev ev' : Nat} {es es2 es' : List En} {l l' : List (Int × Int)} {L L' : List Int}
theorem cap_same (c : S_api_Cap) (n : Int) : (((decide (c.Obj = c.Obj)) && (((decide (c.Pass.Hi = c.Pass.Hi)) && ((decide (c.Pass.Lo = c.Pass.Lo)) && true)) && true)) && (decide (n = n))) = true := by simp
theorem t_play (x : PairD h o s w a tk es l tk ev es L) (v : Inv14 a.most es l L) (gx : ∀ x ∈ a.xs, GoodW x) (he : ev < 9223372036854775807) {u : S_law14_Op} {K : Bool → H → Prop}
    (y : ∀ o' h' tk' ev' es' l' L', PairD h' o' s w a tk' es' l' tk' ev' es' L' → Inv14 a.most es' l' L' → ev' ≤ ev + 1 → OS (fun i => i ≤ 6) o o' h h' → K true h') : m_law14_play (some ⟨s, 0, none⟩) (some ⟨w, 0, none⟩) u K h := by
  have hm := x.set.set.hi
  unfold m_law14_play
  refine w_deref (w_load x.w1 ?_)
  refine w_capG 10 (S := fun i => i ≤ 6) (by intro q; have q : 10 ≤ 6 := q; omega) (St := fun h o => PairD h o s w a tk es l tk ev es L) (St' := fun h o => PairD h o s w a tk es l tk ev es L) (fun _ _ _ _ p k ow => p.oc (by decide) k ow) (fun _ _ _ _ p k ow => p.oc (by decide) k ow) (fun _ _ p => p.own) (fun _ _ p => p.own)
    (mk := fun ad r => (ad, r)) (res := namedD es u) (cap := namedD es u) x (fun h1 o1 K s1 yy => t_named s1.ref.ct fun h' k => yy o1 h' (s1.keep k) (OS.keeps k)) _ (fun b h2 x => x) fun b0 o1 h1 x1 B0 k1 => ?_
  generalize namedD es u = c at *
  refine w_if' (fun c0 => ?_) fun c0 => ?_
  · refine w_set3 x1.set ?_
    refine w_capG 11 (S := fun i => i ≤ 3) (by intro q; have q : 11 ≤ 3 := q; omega) (St := fun h o => PairD h o s w a tk es l tk ev es L) (St' := fun h o => PairD h o s w a (rootD a.each a.most (a.xs.map (cutW a.W)) tk es l u.Obj).2.1 (rootD a.each a.most (a.xs.map (cutW a.W)) tk es l u.Obj).2.2.1 (rootD a.each a.most (a.xs.map (cutW a.W)) tk es l u.Obj).2.2.2 tk ev es L)
      (fun _ _ _ _ p k ow => p.oc (by decide) k ow) (fun _ _ _ _ p k ow => p.oc (by decide) k ow) (fun _ _ p => p.own) (fun _ _ p => p.own) (mk := fun ad (r : S_api_Cap × Int) => (ad, r.1, r.2)) (res := (rootD a.each a.most (a.xs.map (cutW a.W)) tk es l u.Obj).1) (cap := (rootD a.each a.most (a.xs.map (cutW a.W)) tk es l u.Obj).1.1) x1
      (fun h1 o1 K s1 yy => t_dRoot s1.set.set fun o' h' s' k => yy o' h' (s1.setS k s') k) _ (fun b h2 x => x) fun b1 o2 h2 x2 B1 k2 => ?_
    refine w_deref (w_load (v := refW a.r a.e a.f) x2.wW ?_)
    refine w_capG 12 (S := R46) (by unfold R46; omega) (St := fun h o => PairD h o s w a (rootD a.each a.most (a.xs.map (cutW a.W)) tk es l u.Obj).2.1 (rootD a.each a.most (a.xs.map (cutW a.W)) tk es l u.Obj).2.2.1 (rootD a.each a.most (a.xs.map (cutW a.W)) tk es l u.Obj).2.2.2 tk ev es L)
      (St' := fun h o => ∃ ev' L', ev' ≤ ev + 1 ∧ PairD h o s w a (rootD a.each a.most (a.xs.map (cutW a.W)) tk es l u.Obj).2.1 (rootD a.each a.most (a.xs.map (cutW a.W)) tk es l u.Obj).2.2.1 (rootD a.each a.most (a.xs.map (cutW a.W)) tk es l u.Obj).2.2.2 (rootD a.each a.most (a.xs.map (cutW a.W)) tk es l u.Obj).2.1 ev' (rootD a.each a.most (a.xs.map (cutW a.W)) tk es l u.Obj).2.2.1 L' ∧ Inv14 a.most (rootD a.each a.most (a.xs.map (cutW a.W)) tk es l u.Obj).2.2.1 (rootD a.each a.most (a.xs.map (cutW a.W)) tk es l u.Obj).2.2.2 L')
      (fun _ _ _ _ p k ow => p.oc (by decide) k ow) (fun _ _ _ _ ⟨ev', L', le, p, v⟩ k ow => ⟨ev', L', le, p.oc (by decide) k ow, v⟩) (fun _ _ p => p.own) (fun _ _ ⟨_, _, _, p, _⟩ => p.own) (mk := fun ad (r : S_api_Cap × Int) => (ad, r.1, r.2)) (res := (rootD a.each a.most (a.xs.map (cutW a.W)) tk es l u.Obj).1) (cap := (rootD a.each a.most (a.xs.map (cutW a.W)) tk es l u.Obj).1.1) x2
      (fun h1 o1 K s1 yy => t_rRoot s1.ref s1.own gx hm he v fun o' h' ev' L' le r' v' k ow => yy o' h' ⟨ev', L', le, s1.setR k ow r', v'⟩ k) _ (fun b h2 x => x) fun b2 o3 h3 ⟨ev3, L3, le3, x3, v3⟩ B2 k3 => ?_
    refine w_load (B1.os k3 (by unfold R46; omega)).at (w_load B2.at ?_)
    show K (_ && _) h3
    rw [cap_same]
    exact y o3 h3 _ ev3 _ _ L3 x3 v3 le3 ((k1.trans (k2.mono fun i q => by omega)).trans (k3.mono fun i q => q.2))
  · refine w_joinV (decide (u.Kind = 1 ∨ u.Kind = 2 ∨ u.Kind = 3)) (fun j hj => w_if' (fun c1 => ?_) fun c1 => w_if' (fun c2 => ?_) fun c2 => ?_) ?_
    · have e : decide (u.Kind = 1 ∨ u.Kind = 2 ∨ u.Kind = 3) = decide (u.Kind = 1) := decide_eq_decide.2 (by omega)
      rw [e] at hj; exact hj
    · have e : decide (u.Kind = 1 ∨ u.Kind = 2 ∨ u.Kind = 3) = decide (u.Kind = 2) := decide_eq_decide.2 (by omega)
      rw [e] at hj; exact hj
    · have e : decide (u.Kind = 1 ∨ u.Kind = 2 ∨ u.Kind = 3) = decide (u.Kind = 3) := decide_eq_decide.2 (by omega)
      rw [e] at hj; exact hj
    refine w_if (fun _ => ?_) fun _ => ?_
    · refine w_set3 x1.set (w_load B0.at ?_)
      refine w_capG 11 (S := fun i => i ≤ 3) (by intro q; have q : 11 ≤ 3 := q; omega) (St := fun h o => PairD h o s w a tk es l tk ev es L) (St' := fun h o => PairD h o s w a (childD a.each a.most (a.xs.map (cutW a.W)) tk es l c u.Rights).2.1 (childD a.each a.most (a.xs.map (cutW a.W)) tk es l c u.Rights).2.2.1 (childD a.each a.most (a.xs.map (cutW a.W)) tk es l c u.Rights).2.2.2 tk ev es L)
        (fun _ _ _ _ p k ow => p.oc (by decide) k ow) (fun _ _ _ _ p k ow => p.oc (by decide) k ow) (fun _ _ p => p.own) (fun _ _ p => p.own) (mk := fun ad (r : S_api_Cap × Int) => (ad, r.1, r.2)) (res := (childD a.each a.most (a.xs.map (cutW a.W)) tk es l c u.Rights).1) (cap := (childD a.each a.most (a.xs.map (cutW a.W)) tk es l c u.Rights).1.1) x1
        (fun h1 o1 K s1 yy => t_dChild s1.set.set fun o' h' s' k => yy o' h' (s1.setS k s') k) _ (fun b h2 x => x) fun b1 o2 h2 x2 B1 k2 => ?_
      refine w_deref (w_load (v := refW a.r a.e a.f) x2.wW (w_load (B0.os k2 (by intro q; have q : 10 ≤ 3 := q; omega)).at ?_))
      refine w_capG 12 (S := R46) (by unfold R46; omega) (St := fun h o => PairD h o s w a (childD a.each a.most (a.xs.map (cutW a.W)) tk es l c u.Rights).2.1 (childD a.each a.most (a.xs.map (cutW a.W)) tk es l c u.Rights).2.2.1 (childD a.each a.most (a.xs.map (cutW a.W)) tk es l c u.Rights).2.2.2 tk ev es L)
        (St' := fun h o => ∃ ev' L', ev' ≤ ev + 1 ∧ PairD h o s w a (childD a.each a.most (a.xs.map (cutW a.W)) tk es l c u.Rights).2.1 (childD a.each a.most (a.xs.map (cutW a.W)) tk es l c u.Rights).2.2.1 (childD a.each a.most (a.xs.map (cutW a.W)) tk es l c u.Rights).2.2.2 (childD a.each a.most (a.xs.map (cutW a.W)) tk es l c u.Rights).2.1 ev' (childD a.each a.most (a.xs.map (cutW a.W)) tk es l c u.Rights).2.2.1 L' ∧ Inv14 a.most (childD a.each a.most (a.xs.map (cutW a.W)) tk es l c u.Rights).2.2.1 (childD a.each a.most (a.xs.map (cutW a.W)) tk es l c u.Rights).2.2.2 L')
        (fun _ _ _ _ p k ow => p.oc (by decide) k ow) (fun _ _ _ _ ⟨ev', L', le, p, v⟩ k ow => ⟨ev', L', le, p.oc (by decide) k ow, v⟩) (fun _ _ p => p.own) (fun _ _ ⟨_, _, _, p, _⟩ => p.own) (mk := fun ad (r : S_api_Cap × Int) => (ad, r.1, r.2)) (res := (childD a.each a.most (a.xs.map (cutW a.W)) tk es l c u.Rights).1) (cap := (childD a.each a.most (a.xs.map (cutW a.W)) tk es l c u.Rights).1.1) x2
        (fun h1 o1 K s1 yy => t_rChild s1.ref s1.own gx hm he v fun o' h' ev' L' le r' v' k ow => yy o' h' ⟨ev', L', le, s1.setR k ow r', v'⟩ k) _ (fun b h2 x => x) fun b2 o3 h3 ⟨ev3, L3, le3, x3, v3⟩ B2 k3 => ?_
      refine w_load (B1.os k3 (by unfold R46; omega)).at (w_load B2.at ?_)
      show K (_ && _) h3
      rw [cap_same]
      exact y o3 h3 _ ev3 _ _ L3 x3 v3 le3 ((k1.trans (k2.mono fun i q => by omega)).trans (k3.mono fun i q => q.2))
    · have x5 : RefO h1 o1 5 a.e ev es := x1.ref.ct
      refine w_deref (w_load x1.w1 (w_load B0.at (o_rfind x5 (x1.set.f1 (w_load B0.at (o_find x1.set.set.ct ?_))))))
      cases hf : findE es c with
      | none => exact w_ifF rfl (w_ifT rfl (y o1 h1 tk ev es l L x1 v (by omega) k1))
      | some n =>
        obtain ⟨t, ks, hn, htc⟩ := findE_has hf
        have ea : atE es (n : Int) = some (t, ks) := atE_has.2 ⟨n, rfl, hn⟩
        refine w_ifF rfl (w_ifF rfl (x1.set.f1 (o_drop x1.set.set.ct x1.own (fun q => by rw [show atE es (n : Int) = none from q] at ea; cases ea) fun n' t' ks' en hn' bl sa o2 h2 ct2 k2 ow2 bu2 fa => ?_)))
        have en : (n : Int) = (n' : Int) := en
        obtain rfl : n = n' := by omega
        obtain ⟨rfl, rfl⟩ := hn.uniq hn'
        have s2 := x1.set.set.cat ct2 k2 ow2
        have x2 := x1.setS (k2.os (by decide)) s2
        have B02 := B0.os (k2.os (S := fun i => i ≤ 6) (by decide)) (by intro q; have q : 10 ≤ 6 := q; omega)
        have x25 : RefO h2 o2 5 a.e ev es := x2.ref.ct
        refine w_deref (w_load x2.w1 (o_rdrop x25 ow2 (fun q => by rw [show atE es (n : Int) = none from q] at ea; cases ea) fun n' t' ks' en hn' bl' sb o3 h3 rf3 k3 ow3 bu3 fb => ?_))
        have en : (n : Int) = (n' : Int) := en
        obtain rfl : n = n' := by omega
        have r3 : RefsO h3 o3 a.r a.e a.f a.xs a.W a.each a.most tk ev (cutE (belowOf es n) es) L := ⟨x2.ref.dr.oc k3 (by decide), rf3, x2.ref.qu.oc k3 (by decide)⟩
        have x3 := x2.setR (k3.os ⟨by decide, by decide⟩) ow3 r3
        have B03 := B02.os (k3.os (S := fun i => i ≤ 6) (by decide)) (by intro q; have q : 10 ≤ 6 := q; omega)
        have la : (sa.len : Int) = ((belowOf es n).length : Int) := by rw [bu2.len, List.length_map]
        have lb : (sb.len : Int) = ((belowOf es n).length : Int) := by rw [bu3.len, List.length_map]
        have hob : Once l := by obtain ⟨_, q, _⟩ := x1.set.set.qu; exact q.once
        obtain ⟨d1, d2, d3⟩ := v.drop x1.set.set.ct.wf hob hn
        rw [htc] at d1 d2 d3
        refine w_ifF (by rw [la, lb]; simp) ?_
        have a0 : ∀ {hh : H} {oo : Owner}, BoxT hh oo 10 b0 c → At hh ((⟨b0, 0, none⟩ : Addr).add 0) (cInt .i64 c.Obj) := fun B => by
          rw [pt_add]; exact At.own (l1 := []) (l2 := [Value.int .i64 c.Obj]) (l3 := [Value.int .u64 c.Pass.Hi, Value.int .u64 c.Pass.Lo]) B.cell rfl
        rw [la, lb]
        refine x3.set.f2 (w_load (a0 B03) (o_qsub x3.set.set.qu ow3 fun h4 q4 k4 ow4 => ?_))
        have x4 := x3.setS (k4.os (by decide)) (x3.set.set.quo q4 k4 ow4)
        have B04 := B03.os (k4.os (S := fun i => i ≤ 6) (by decide)) (by intro q; have q : 10 ≤ 6 := q; omega)
        refine w_deref (w_load x4.w2 (w_load (a0 B04) (o_rqsub x4.ref.qu ow4 fun o5 h5 q5 k5 ow5 => ?_)))
        rw [if_pos d2] at q5
        have r5 : RefsO h5 o5 a.r a.e a.f a.xs a.W a.each a.most tk ev (cutE (belowOf es n) es) (dropN c.Obj L ((belowOf es n).length : Int)) := ⟨x4.ref.dr.oc k5 (by decide), x4.ref.ct.oc k5 (by decide), q5⟩
        have x5' := x4.setR (k5.os ⟨by decide, by decide⟩) ow5 r5
        rw [d1, d2]
        exact y o5 h5 tk ev _ _ _ x5' d3 (by omega) ((((k1.trans (k2.os (by decide))).trans (k3.os (by decide))).trans (k4.os (by decide))).trans (k5.os (by decide)))
end
section
variable {h h' : H} {o o' : Owner} {s w d p q : Nat} {a : Pt14} {cs : List S_api_Word} {each all : Int} {tk tk2 tk' ev ev' : Nat} {es es2 es' : List En} {l l' : List (Int × Int)} {L L' : List Int}
theorem t_sameTok14 {a b : Sl} {xs : List S_api_Token} (x : Arr cTok h a xs) (x' : Arr cTok h b xs) (hn : xs.length ≤ 2 ^ 40) {K : Bool → H → Prop} (y : K true h) : m_law14_sameTokens a b K h := by
  unfold m_law14_sameTokens
  have h1 := x.len
  have h2 := x'.len
  refine w_ifF (by rw [h1, h2]; simp) (w_for xs.length (fun i (z : Int) h' => z = (i : Int) ∧ h = h') ?_ ⟨rfl, rfl⟩)
  rintro rec i z h' hi ⟨rfl, rfl⟩ more
  refine w_if' (fun c => ?_) fun c => y
  have c : (i : Int) < (a.len : Int) := c
  have hil : i < xs.length := by omega
  have hz := List.getElem?_eq_getElem hil
  refine w_idx tok_len x hz rfl fun ad _ ha => w_idx tok_len x' hz rfl fun ad' _ ha' => w_load ha (w_load ha' ?_)
  rw [tok_eqB]
  exact w_ifF (by simp) (more _ _ hil ⟨ia1 i (by omega), rfl⟩)
theorem AtS.g0 (x : AtS h o s d p q cs each all tk es l) : At h ((⟨s, 0, none⟩ : Addr).add 0) (cPtr (some ⟨d, 0, none⟩)) := by
  rw [pt_add]; exact At.own (l1 := []) (l2 := [Value.pointer (some ⟨d, 0, none⟩)]) (l3 := [Value.pointer (some ⟨p, 0, none⟩), Value.pointer (some ⟨q, 0, none⟩)]) x.cell rfl
theorem AtS.g1 (x : AtS h o s d p q cs each all tk es l) : At h ((⟨s, 0, none⟩ : Addr).add 1) (cPtr (some ⟨p, 0, none⟩)) := by
  rw [pt_add]; exact At.own (l1 := [Value.pointer (some ⟨d, 0, none⟩)]) (l2 := [Value.pointer (some ⟨p, 0, none⟩)]) (l3 := [Value.pointer (some ⟨q, 0, none⟩)]) x.cell rfl
theorem AtS.g2 (x : AtS h o s d p q cs each all tk es l) : At h ((⟨s, 0, none⟩ : Addr).add 2) (cPtr (some ⟨q, 0, none⟩)) := by
  rw [pt_add]; exact At.own (l1 := [Value.pointer (some ⟨d, 0, none⟩), Value.pointer (some ⟨p, 0, none⟩)]) (l2 := [Value.pointer (some ⟨q, 0, none⟩)]) (l3 := []) x.cell rfl
theorem o_rqof {i r : Nat} {most : Int} (x : RqO h o i r each most L) {n : Int} {K : Int → H → Prop} (y : K (L.count n : Int) h) : m_ref12_Quota_Of (some ⟨r, 0, none⟩) n K h := by
  obtain ⟨_, z, _⟩ := x; exact t_QROf z y
theorem t_told14 (x : PairD h o s w a tk es l tk ev es L) (v : Inv14 a.most es l L) {b : Int} {K : Bool → H → Prop} (y : ∀ h', Keeps h h' → K true h') : m_law14_told (some ⟨s, 0, none⟩) (some ⟨w, 0, none⟩) b K h := by
  unfold m_law14_told
  have hle : (ofO es b).length ≤ 2 ^ 40 := by
    have := x.set.set.ct.wf.len; have := ofO_len x.set.set.ct.wf b; omega
  refine w_deref (w_deref (w_load x.set.g1 (w_joinP (fun z h' => ∃ sl : Sl, z = (sl, some (⟨a.e, 0, none⟩ : Addr)) ∧ Buf cTok 5 N_api_Token h' sl (ofO es b) ∧ Keeps h h') (fun j hj => w_both ?_ ?_) ?_)))
  · exact o_of x.set.set.ct fun s' h1 b1 k1 _ => w_load (x.keep k1).w1 (hj _ _ ⟨s', rfl, b1, k1⟩)
  · exact w_load x.w1 (o_of x.set.set.ct fun s' h1 b1 k1 _ => hj _ _ ⟨s', rfl, b1, k1⟩)
  rintro _ h1 ⟨sl, rfl, b1, k1⟩
  have x1 := x.keep k1
  have x15 : RefO h1 o 5 a.e ev es := x1.ref.ct
  refine o_rof x15 fun s2 h2 b2 k2 _ => t_sameTok14 (b1.keep k2).arr b2.arr hle ?_
  have x2 := x1.keep k2
  refine w_joinV true (fun j hj => w_ifT rfl (w_deref (w_deref (w_load x2.set.g2 (w_joinV (qcnt l b, some (⟨a.f, 0, none⟩ : Addr)) (fun J hJ => w_both (o_qof x2.set.set.qu (w_load x2.w2 hJ)) (w_load x2.w2 (o_qof x2.set.set.qu hJ))) (o_rqof x2.ref.qu ?_)))))) ?_
  · show j (decide (qcnt l b = (L.count b : Int))) h2
    rw [decide_eq_true (v.rel.1 b)]; exact hj
  refine w_joinP (fun z h' => z = true ∧ Keeps h2 h') (fun j hj => w_ifT rfl (w_deref (w_deref (w_load x2.set.g2 (w_joinP (fun z h' => z = (asum l, (L.length : Int)) ∧ Keeps h2 h') (fun J hJ => ?_) ?_))))) ?_
  · have rdq : ∀ {hh : H} (_ : Keeps h2 hh) {k : Sl → H → Prop}, (∀ sl : Sl, (sl.len : Int) = (L.length : Int) → At hh ((⟨a.f, 0, none⟩ : Addr).add 2) (cSl sl) → k sl hh) → ∃ sl, At hh ((⟨a.f, 0, none⟩ : Addr).add 2) (cSl sl) ∧ k sl hh := fun {hh} kk {k} q => by
      obtain ⟨sl, z1, _⟩ := (x2.keep kk).ref.qu
      exact ⟨sl, z1.f2, q sl (by rw [z1.buf.len]) z1.f2⟩
    refine w_both (o_qall x2.set.set.qu fun h4 k4 => w_load (x2.keep k4).w2 (w_deref (rdq k4 (k := fun sl hh => J (asum l, (sl.len : Int)) hh) fun sl e _ => hJ _ _ ⟨by rw [e], k4⟩))) (w_load x2.w2 (w_deref (w_both (o_qall x2.set.set.qu fun h4 k4 => rdq k4 (k := fun sl hh => J (asum l, (sl.len : Int)) hh) fun sl e _ => hJ _ _ ⟨by rw [e], k4⟩) ?_)))
    obtain ⟨sl, z1, _⟩ := x2.ref.qu
    exact w_load z1.f2 (o_qall x2.set.set.qu fun h4 k4 => hJ _ _ ⟨by rw [z1.buf.len], k4⟩)
  · rintro _ h4 ⟨rfl, k4⟩
    show j (decide (asum l = (L.length : Int))) h4
    rw [decide_eq_true v.rel.2]; exact hj _ _ ⟨rfl, k4⟩
  rintro _ h3 ⟨rfl, k3⟩
  have x3 := x2.keep k3
  obtain ⟨s4, r4, _⟩ := x3.ref.dr
  refine w_joinV true (fun j hj => w_ifT rfl (w_deref (w_deref (w_load x3.set.g0 (w_joinV ((tk : Int), (tk : Int)) (fun J hJ => w_both (o_taken x3.set.set.dr (w_load x3.w0 (w_deref (w_load r4.f2 hJ)))) (w_load x3.w0 (w_deref (w_both (o_taken x3.set.set.dr (w_load r4.f2 hJ)) (w_load r4.f2 (o_taken x3.set.set.dr hJ)))))) ?_))))) ?_
  · show j (decide ((tk : Int) = (tk : Int))) h3
    rw [decide_eq_true rfl]; exact hj
  have x35 : RefO h3 o 5 a.e ev es := x3.ref.ct
  refine w_ifT rfl (w_deref (w_deref (w_load x3.set.g1 (w_joinV ((((capsG 0 es).length : Nat) : Int), some (⟨a.e, 0, none⟩ : Addr)) (fun J hJ => w_both (o_count x3.set.set.ct (w_load x3.w1 hJ)) (w_load x3.w1 (o_count x3.set.set.ct hJ))) (o_rcount x35 ?_)))))
  rw [decide_eq_true rfl]
  exact y h3 ((k1.trans k2).trans k3)
theorem OS.keeps6 {S : Nat → Prop} {h0 : H} (k : Keeps h0 h) (x : OS S o o' h h') (f : ∀ c, o c ≠ none → h0 c = none) : Keeps h0 h' := k.but x.bt fun c ⟨_, q, _⟩ => f c (by rw [q]; simp)
end
theorem op_len14 : ∀ x, (S_law14_Op.cells x).length = 7 := fun _ => rfl
theorem inv0 {most : Int} {n : Nat} (e : most = n) : Inv14 most (List.replicate n none) [] [] := by
  have hc : ∀ k, capsG k (List.replicate n none) = [] := by
    induction n generalizing most with
    | zero => intro k; rfl
    | succ n ih => intro k; rw [List.replicate_succ, capsG]; exact ih rfl (k + 1)
  refine ⟨by rw [List.length_replicate]; exact e.symm, ⟨fun k => rfl, rfl⟩, fun b => ?_, by rw [hc]; rfl⟩
  unfold cnt; rw [hc]; rfl
theorem t_DeriveAll {h : H} {a0 : S_law14_World} {a1 : Sl} {xs : List S_api_Word} {ops : List S_law14_Op} (er : ErrAt h) (ar : Arr cW h a0.Draws xs) (gx : ∀ x ∈ xs, GoodW x) (ao : Arr S_law14_Op.cells h a1 ops) (no : ops.length ≤ 9223372036854775807) {K : Bool → H → Prop} (y : ∀ h', Keeps h h' → K true h') : m_law14_DeriveAll a0 a1 K h := by
  unfold m_law14_DeriveAll
  refine t_head14 er fun h1 k1 => w_ifF rfl (w_right (ar.keep k1) fun s5 ys ay my ly => ?_)
  have rE := intoV_rng a0.Entries (b := 256) (by decide)
  have rC := intoV_rng a0.Each (b := 256) (by decide)
  have rW := intoV_rng a0.Width (b := 128) (by decide)
  have rK := intoV_rng a0.Knob (b := 65) (by decide)
  have gy : ∀ x ∈ ys, GoodW x := fun x hx => gx x (my x hx)
  generalize eW : 1 + intoV a0.Width 128 = W at *
  generalize eC : 1 + intoV a0.Each 256 = C at *
  generalize eE : 1 + intoV a0.Entries 256 = E at *
  refine t_made14 (er.keep k1) ay gy ly (by omega) (by omega) (by omega) (by omega) fun s w d p q r e f o h2 S2 R2 c2 n2 c2' n2' k2 out => w_ifF rfl ?_
  obtain ⟨n, hn⟩ : ∃ n : Nat, E = n := ⟨E.toNat, by omega⟩
  have x2 : PairD h2 o s w ⟨d, p, q, r, e, f, ys, W, C, E⟩ 0 (List.replicate E.toNat none) [] 0 0 (List.replicate E.toNat none) [] := ⟨⟨S2, c2, n2⟩, R2, c2', n2'⟩
  have v2 : Inv14 E (List.replicate E.toNat none) [] [] := inv0 (by omega)
  have k12 := k1.trans k2
  have out' : ∀ c, o c ≠ none → h c = none := fun c q => k1.fresh (out c q)
  have hl := ao.len
  refine w_for ops.length (fun i (z : Int) h' => z = (i : Int) ∧ ∃ o' tk ev es l L, PairD h' o' s w ⟨d, p, q, r, e, f, ys, W, C, E⟩ tk es l tk ev es L ∧ Inv14 E es l L ∧ ev ≤ i ∧ Keeps h h' ∧ ∀ c, o' c ≠ none → h c = none) ?_ ⟨rfl, o, 0, 0, _, _, _, x2, v2, Nat.le_refl _, k12, out'⟩
  rintro rec i z h3 hi ⟨rfl, o3, tk, ev, es, l, L, x3, v3, le3, k3, out3⟩ more
  refine w_if' (fun c => ?_) fun c => y h3 k3
  have c : (i : Int) < (a1.len : Int) := c
  have hil : i < ops.length := by omega
  have hz := List.getElem?_eq_getElem hil
  refine w_idx op_len14 (ao.keep k3) hz rfl fun ad _ ha => w_load ha (t_play x3 v3 gy (by omega) fun o4 h4 tk4 ev4 es4 l4 L4 x4 v4 le4 os4 => ?_)
  have k4 : Keeps h h4 := os4.keeps6 k3 out3
  have out4 : ∀ c, o4 c ≠ none → h c = none := fun c q => (os4.new c q).elim (out3 c) k3.fresh
  refine w_joinP (fun z h' => z = false ∧ Keeps h4 h') (fun j hj => w_ifF rfl (w_idx op_len14 (ao.keep k4) hz rfl fun ad _ ha => ?_)) ?_
  · refine w_load (v := ops[i].Obj) (cells := cInt .i64) (At.sub (l1 := (S_law14_Op.cells ops[i]).take 1) (l2 := cInt .i64 ops[i].Obj) (l3 := (S_law14_Op.cells ops[i]).drop 2) ha rfl) (t_told14 x4 v4 fun h5 k5 => ?_)
    exact hj _ _ ⟨rfl, k5⟩
  rintro _ h5 ⟨rfl, k5⟩
  have x5 := x4.keep k5
  refine w_joinP (fun z h' => z = false ∧ Keeps h5 h') (fun j hj => w_ifF rfl (w_idx op_len14 (ao.keep (k4.trans k5)) hz rfl fun ad _ ha => ?_)) ?_
  · have ha4 : At h5 (ad.add 4) (cInt .i64 ops[i].X.Obj) := At.sub (l1 := (S_law14_Op.cells ops[i]).take 4) (l2 := cInt .i64 ops[i].X.Obj) (l3 := (S_law14_Op.cells ops[i]).drop 5) ha rfl
    refine w_load (v := ops[i].X.Obj) (cells := cInt .i64) (by rw [add_zero]; exact ha4) (t_told14 x5 v4 fun h6 k6 => ?_)
    exact hj _ _ ⟨rfl, k6⟩
  rintro _ h6 ⟨rfl, k6⟩
  exact w_ifF rfl (more _ _ hil ⟨(iAdd_eq (by omega) (by omega)).trans (by omega), o4, tk4, ev4, es4, l4, L4, x5.keep k6, v4, by omega, (k4.trans k5).trans k6, out4⟩)
end Go.Proofs.YtdleanjofhghnaaGreatDoor.K
namespace Go.Proofs.YtdleanjofhghnaaGreatDoor.K
open Go Go.ChangeShapes Go.WideShapes Go.RowKit
def laidD : List (String × DataW Unit) := [("errors.errorType", Rows.laid_errors_errorType)]
theorem d_et : Tryz.prog.globalNamed "errors.errorType" = some 0 := by kernel_rfl
theorem d_rt : (Tryz.prog.cutTypes.find? (·.1 == "internal/reflectlite.rtype")).map (·.2) = some 198 := by kernel_rfl
theorem d_oneRow : ((List.range 244).filter fun t => Tryz.prog.rowNamed t [101, 114, 114, 111, 114]) = [93] := by kernel_rfl
theorem d_size : Tryz.prog.types.size = 244 := by kernel_rfl
theorem handle_of_laid {W : World} (h : laidMetH Tryz.prog laidD W) : W.cell? ⟨0, 0, none⟩ = some (.iface 198 (.agg #[.pointer (some ⟨1, 93, none⟩)])) := by
  have h' : laidMet Tryz.prog [] W ∧ handlesMet Tryz.prog laidD W := h
  obtain ⟨name, u, ty, e1, e2, e3, e4, e5⟩ := h'.2 _ (List.mem_singleton.2 rfl)
  have en : name = [101, 114, 114, 111, 114] := (Option.some.inj e1).symm
  subst en
  obtain rfl := Option.some.inj (d_rt.symm.trans e2)
  have hm : ty ∈ (List.range 244).filter fun t => Tryz.prog.rowNamed t [101, 114, 114, 111, 114] := List.mem_filter.2 ⟨List.mem_range.2 (by rw [← d_size]; exact e3), e4⟩
  rw [d_oneRow] at hm
  obtain rfl := List.mem_singleton.1 hm
  have hh : typeHandle Tryz.prog 93 = .pointer (some ⟨1, 93, none⟩) := by kernel_rfl
  rw [hh] at e5
  simpa using World.var?_cell d_et e5 0
noncomputable def laidWorld (os : Os) : World :=
  let w0 := World.holding Tryz.prog os ⟨#[], #[], []⟩
  { w0 with heap := w0.heap.modify 0 fun
      | .cells _ t frozen => .cells #[.iface 198 (.agg #[.pointer (some ⟨1, 93, none⟩)])] t frozen
      | o => o }
theorem laidWorld_met (os : Os) (args : Array Value) : laidMetH Tryz.prog laidD ((laidWorld os).forCall (fun _ _ => 0) ⟨#[], args, []⟩).memory :=
  laidMetH_of_parts (laidMet_nil _ _) (by kernel_rfl)
theorem err_of_laid {W : World} (h : laidMetH Tryz.prog laidD W) : ErrAt (heapH W) := by
  have hc := handle_of_laid h
  unfold World.cell? at hc
  split at hc
  · rename_i c e fz hb
    rw [if_neg (by simp)] at hc
    refine ⟨rfl, c, e, fz, hb, ?_⟩
    exact grab_iff.2 fun i v hi => by
      rcases i with _ | i
      · simp at hi; rw [← hi]; exact hc
      · simp at hi
  · cases hc
end Go.Proofs.YtdleanjofhghnaaGreatDoor.K
namespace Go.Proofs.YtdleanjofhghnaaGreatDoor.K
open Go Go.ChangeShapes Go.WideShapes Go.ChangeAt Go.RowKit Go.Proofs
def G_api_Word (_W : World) (x : S_api_Word) : Prop := (IntKind.u64.min ≤ x.Hi ∧ x.Hi ≤ IntKind.u64.max) ∧ (IntKind.u64.min ≤ x.Lo ∧ x.Lo ≤ IntKind.u64.max)
set_option maxRecDepth 100000 in
theorem openC_api_Word {HH : Type} {enc : TypeId × Value → HH} {W : World} {t : TypeId} (ht : Tryz.prog.underlying t = Tryz.prog.underlying 34) (hc : Tryz.prog.cellsOf t = 2) {n : Nat} {cs : List Value} {y : DataW HH × List MemPlace} (h : DataW.trod enc Tryz.prog W 0 (fun _ => true) true n t cs = some y) : ∃ x : S_api_Word, cs = S_api_Word.cells x ∧ G_api_Word W x := by
  have ht : Tryz.prog.underlying t = _ := ht.trans Tryz.underlying34
  obtain ⟨_, _, _, _, hl0, _, _⟩ := DataW.trod_struct ht h
  obtain ⟨y0, n0, h0⟩ := trod_field ht h 0 _ rfl
  obtain ⟨x0, e0, g0⟩ := open_intC (k := .u64) (by kernel_rfl) h0
  obtain ⟨y1, n1, h1⟩ := trod_field ht h 1 _ rfl
  obtain ⟨x1, e1, g1⟩ := open_intC (k := .u64) (by kernel_rfl) h1
  have hl : cs.length = 2 := hl0.trans hc
  match cs, hl with
  | [c0, c1], _ =>
    replace e0 : [c0] = (cInt .u64) x0 := (show [c0] = _ by kernel_rfl).trans e0
    replace e1 : [c1] = (cInt .u64) x1 := (show [c1] = _ by kernel_rfl).trans e1
    exact ⟨⟨x0, x1⟩, (show [c0, c1] = [c0] ++ [c1] from rfl).trans (by rw [e0, e1]; rfl), g0, g1⟩
def G_law14_World (W : World) (x : S_law14_World) : Prop := (IntKind.i64.min ≤ x.Width ∧ x.Width ≤ IntKind.i64.max) ∧ (IntKind.i64.min ≤ x.Entries ∧ x.Entries ≤ IntKind.i64.max) ∧ (IntKind.i64.min ≤ x.Each ∧ x.Each ≤ IntKind.i64.max) ∧ (IntKind.i64.min ≤ x.Knob ∧ x.Knob ≤ IntKind.i64.max) ∧ (∃ xs, Arr S_api_Word.cells (heapH W) x.Draws xs ∧ (∀ z ∈ xs, G_api_Word W z) ∧ x.Draws.cap ≤ maxLen)
set_option maxRecDepth 100000 in
theorem openC_law14_World {HH : Type} {enc : TypeId × Value → HH} {W : World} {t : TypeId} (ht : Tryz.prog.underlying t = Tryz.prog.underlying 23) (hc : Tryz.prog.cellsOf t = 5) {n : Nat} {cs : List Value} {y : DataW HH × List MemPlace} (h : DataW.trod enc Tryz.prog W 0 (fun _ => true) true n t cs = some y) : ∃ x : S_law14_World, cs = S_law14_World.cells x ∧ G_law14_World W x := by
  have ht : Tryz.prog.underlying t = _ := ht.trans Tryz.underlying23
  obtain ⟨_, _, _, _, hl0, _, _⟩ := DataW.trod_struct ht h
  obtain ⟨y0, n0, h0⟩ := trod_field ht h 0 _ rfl
  obtain ⟨x0, e0, g0⟩ := open_intC (k := .i64) (by kernel_rfl) h0
  obtain ⟨y1, n1, h1⟩ := trod_field ht h 1 _ rfl
  obtain ⟨x1, e1, g1⟩ := open_intC (k := .i64) (by kernel_rfl) h1
  obtain ⟨y2, n2, h2⟩ := trod_field ht h 2 _ rfl
  obtain ⟨x2, e2, g2⟩ := open_intC (k := .i64) (by kernel_rfl) h2
  obtain ⟨y3, n3, h3⟩ := trod_field ht h 3 _ rfl
  obtain ⟨x3, e3, g3⟩ := open_intC (k := .i64) (by kernel_rfl) h3
  obtain ⟨y4, n4, h4⟩ := trod_field ht h 4 _ rfl
  obtain ⟨x4, e4, g4⟩ := open_slC (e := 35) (sz := 2) (cells := S_api_Word.cells) (Good := fun z => G_api_Word W z) (fun _ => rfl) (by decide) (by kernel_rfl) (by kernel_rfl) (fun _ _ _ hf => openC_api_Word (t := 35) (by kernel_rfl) (by kernel_rfl) hf) h4
  have hl : cs.length = 5 := hl0.trans hc
  match cs, hl with
  | [c0, c1, c2, c3, c4], _ =>
    replace e0 : [c0] = (cInt .i64) x0 := (show [c0] = _ by kernel_rfl).trans e0
    replace e1 : [c1] = (cInt .i64) x1 := (show [c1] = _ by kernel_rfl).trans e1
    replace e2 : [c2] = (cInt .i64) x2 := (show [c2] = _ by kernel_rfl).trans e2
    replace e3 : [c3] = (cInt .i64) x3 := (show [c3] = _ by kernel_rfl).trans e3
    replace e4 : [c4] = cSl x4 := (show [c4] = _ by kernel_rfl).trans e4
    exact ⟨⟨x0, x1, x2, x3, x4⟩, (show [c0, c1, c2, c3, c4] = [c0] ++ [c1] ++ [c2] ++ [c3] ++ [c4] from rfl).trans (by rw [e0, e1, e2, e3, e4]; rfl), g0, g1, g2, g3, g4⟩
def G_api_Cap (W : World) (x : S_api_Cap) : Prop := (IntKind.i64.min ≤ x.Obj ∧ x.Obj ≤ IntKind.i64.max) ∧ G_api_Word W x.Pass
set_option maxRecDepth 100000 in
theorem openC_api_Cap {HH : Type} {enc : TypeId × Value → HH} {W : World} {t : TypeId} (ht : Tryz.prog.underlying t = Tryz.prog.underlying 36) (hc : Tryz.prog.cellsOf t = 3) {n : Nat} {cs : List Value} {y : DataW HH × List MemPlace} (h : DataW.trod enc Tryz.prog W 0 (fun _ => true) true n t cs = some y) : ∃ x : S_api_Cap, cs = S_api_Cap.cells x ∧ G_api_Cap W x := by
  have ht : Tryz.prog.underlying t = _ := ht.trans Tryz.underlying36
  obtain ⟨_, _, _, _, hl0, _, _⟩ := DataW.trod_struct ht h
  obtain ⟨y0, n0, h0⟩ := trod_field ht h 0 _ rfl
  obtain ⟨x0, e0, g0⟩ := open_intC (k := .i64) (by kernel_rfl) h0
  obtain ⟨y1, n1, h1⟩ := trod_field ht h 1 _ rfl
  obtain ⟨x1, e1, g1⟩ := openC_api_Word (t := 35) (by kernel_rfl) (by kernel_rfl) h1
  have hl : cs.length = 3 := hl0.trans hc
  match cs, hl with
  | [c0, c1, c2], _ =>
    replace e0 : [c0] = (cInt .i64) x0 := (show [c0] = _ by kernel_rfl).trans e0
    replace e1 : [c1, c2] = S_api_Word.cells x1 := (show [c1, c2] = _ by kernel_rfl).trans e1
    exact ⟨⟨x0, x1⟩, (show [c0, c1, c2] = [c0] ++ [c1, c2] from rfl).trans (by rw [e0, e1]; rfl), g0, g1⟩
def G_law14_Op (W : World) (x : S_law14_Op) : Prop := (IntKind.i64.min ≤ x.Kind ∧ x.Kind ≤ IntKind.i64.max) ∧ (IntKind.i64.min ≤ x.Obj ∧ x.Obj ≤ IntKind.i64.max) ∧ (IntKind.i64.min ≤ x.At ∧ x.At ≤ IntKind.i64.max) ∧ (IntKind.i64.min ≤ x.Rights ∧ x.Rights ≤ IntKind.i64.max) ∧ G_api_Cap W x.X
set_option maxRecDepth 100000 in
theorem openC_law14_Op {HH : Type} {enc : TypeId × Value → HH} {W : World} {t : TypeId} (ht : Tryz.prog.underlying t = Tryz.prog.underlying 38) (hc : Tryz.prog.cellsOf t = 7) {n : Nat} {cs : List Value} {y : DataW HH × List MemPlace} (h : DataW.trod enc Tryz.prog W 0 (fun _ => true) true n t cs = some y) : ∃ x : S_law14_Op, cs = S_law14_Op.cells x ∧ G_law14_Op W x := by
  have ht : Tryz.prog.underlying t = _ := ht.trans Tryz.underlying38
  obtain ⟨_, _, _, _, hl0, _, _⟩ := DataW.trod_struct ht h
  obtain ⟨y0, n0, h0⟩ := trod_field ht h 0 _ rfl
  obtain ⟨x0, e0, g0⟩ := open_intC (k := .i64) (by kernel_rfl) h0
  obtain ⟨y1, n1, h1⟩ := trod_field ht h 1 _ rfl
  obtain ⟨x1, e1, g1⟩ := open_intC (k := .i64) (by kernel_rfl) h1
  obtain ⟨y2, n2, h2⟩ := trod_field ht h 2 _ rfl
  obtain ⟨x2, e2, g2⟩ := open_intC (k := .i64) (by kernel_rfl) h2
  obtain ⟨y3, n3, h3⟩ := trod_field ht h 3 _ rfl
  obtain ⟨x3, e3, g3⟩ := open_intC (k := .i64) (by kernel_rfl) h3
  obtain ⟨y4, n4, h4⟩ := trod_field ht h 4 _ rfl
  obtain ⟨x4, e4, g4⟩ := openC_api_Cap (t := 37) (by kernel_rfl) (by kernel_rfl) h4
  have hl : cs.length = 7 := hl0.trans hc
  match cs, hl with
  | [c0, c1, c2, c3, c4, c5, c6], _ =>
    replace e0 : [c0] = (cInt .i64) x0 := (show [c0] = _ by kernel_rfl).trans e0
    replace e1 : [c1] = (cInt .i64) x1 := (show [c1] = _ by kernel_rfl).trans e1
    replace e2 : [c2] = (cInt .i64) x2 := (show [c2] = _ by kernel_rfl).trans e2
    replace e3 : [c3] = (cInt .i64) x3 := (show [c3] = _ by kernel_rfl).trans e3
    replace e4 : [c4, c5, c6] = S_api_Cap.cells x4 := (show [c4, c5, c6] = _ by kernel_rfl).trans e4
    exact ⟨⟨x0, x1, x2, x3, x4⟩, (show [c0, c1, c2, c3, c4, c5, c6] = [c0] ++ [c1] ++ [c2] ++ [c3] ++ [c4, c5, c6] from rfl).trans (by rw [e0, e1, e2, e3, e4]; rfl), g0, g1, g2, g3, g4⟩
set_option maxRecDepth 100000 in
theorem deriveAll_lifted (os : Os) (started : os.Started) (HH : Type) (enc : TypeId × Value → HH) :
    ReturnsInHanded {} Tryz.checked os 3 .any (fun w args => (Rows.deriveAllSpec.pre enc Tryz.prog Tryz.f3 [] false w args ∧ laidMetH Tryz.prog laidD w) ∧ sizedMet enc Tryz.prog Tryz.f3 (OpenSpec.ofChange Rows.deriveAllSpec) false w args) (Rows.deriveAllSpec.post enc Tryz.prog Tryz.f3 false true false false) := by
  refine returnsInHanded_of_change_and (C := Tryz.checked) (X := fun w _ => laidMetH Tryz.prog laidD w) (fun _ _ _ hh h => h.of_heap hh) own started (by kernel_rfl) Tryz.func3
    (ChangeSpec.witness_at (enc := enc) (C := Tryz.checked) (os := os) (X := fun w _ => laidMetH Tryz.prog laidD w) false (laidWorld os) #[.agg #[.int .i64 0, .int .i64 0, .int .i64 0, .int .i64 0, .slice none 0 0], .slice none 0 0] 8 rfl (by kernel_rfl) (by kernel_rfl) (by kernel_rfl) (by kernel_rfl) (by kernel_rfl) (laidWorld_met os _)) ?_
  intro W base args ds gs before hval0 hW hcnd _ hL _
  have er := err_of_laid hL
  have hval : ∀ (j : Nat) t v, Tryz.f3.params[j]? = some t → args[j]? = some v → Value.okWide Tryz.prog W .any base t v := hval0
  have hW' : DataW.Whole enc Tryz.prog Tryz.f3.params.toList Rows.deriveAllSpec.vars false W args.toList ds gs before := hW
  obtain ⟨p, q, hA0, hV, rfl, hfz, hnd⟩ := hW
  have hA : DataW.TrodAll enc Tryz.prog W 0 (fun _ => true) true [24, 25] args.toList ds p := hA0
  obtain ⟨l⟩ := args
  obtain ⟨v0, l0, d0, ds0, p0, q0, e0, rfl, rfl, t0, hB0⟩ := trodAll_cons hA
  replace e0 : l = v0 :: l0 := e0
  subst e0
  obtain ⟨v1, l1, d1, ds1, p1, q1, e1, rfl, rfl, t1, hB1⟩ := trodAll_cons hB0
  replace e1 : l0 = v1 :: l1 := e1
  subst e1
  obtain ⟨rfl, rfl, rfl⟩ := trodAll_nil hB1
  obtain ⟨rfl, rfl⟩ := trodVars_none hV
  obtain ⟨c0, rfl, _, _, hf0⟩ := open_str ((show Tryz.prog.underlying 24 = Tryz.prog.underlying 23 by kernel_rfl).trans Tryz.underlying23) (hval 0 24 v0 rfl rfl) t0
  obtain ⟨x0, ec0, g0⟩ := openC_law14_World (t := 24) (by kernel_rfl) (by kernel_rfl) hf0
  subst ec0
  obtain ⟨s1, b1, rfl, r1, g1, m1, u1⟩ := open_arr (e := 39) (sz := 7) S_law14_Op.cells (fun z => G_law14_Op W z) (fun _ => rfl) (by decide) (by kernel_rfl) (by kernel_rfl) (fun _ _ _ hf => openC_law14_Op (t := 39) (by kernel_rfl) (by kernel_rfl) hf) (hval 1 25 v1 rfl rfl) t1
  have walk := s_law14_DeriveAll.ok (x0, s1) (fun r h' => r = true ∧ Keeps (heapH W) h') (heapH W) (t_DeriveAll er g0.2.2.2.2.choose_spec.1 (fun z hz => goodW_of (g0.2.2.2.2.choose_spec.2.1 z hz).1 (g0.2.2.2.2.choose_spec.2.1 z hz).2) r1 (Nat.le_trans (r1.len ▸ r1.cap) m1) (K := fun r h' => r = true ∧ Keeps (heapH W) h') fun h' k => ⟨rfl, k⟩)
  refine (calls_law (walk.mono (fun v h' => fun ⟨r, e, er, k⟩ => ⟨by rw [e, er]; rfl, k⟩) fun _ _ k => k)).mono fun e W' => fun ⟨he, hb⟩ => ?_
  subst he
  exact ⟨_, rfl, post_law (tb := 4) laid (by kernel_rfl) rfl (by kernel_rfl) rfl hW' ⟨rfl, rfl, rfl⟩ hb⟩
theorem deriveAll_holds : Rows.DeriveAllSaid :=
  OpenClaim.holds_of_wide 3 Tryz.f3 rfl rfl rfl rfl rfl rfl rfl ⟨rfl, rfl, rfl, rfl, rfl⟩ rfl rfl rfl rfl rfl (by kernel_rfl) Tryz.func3 (by kernel_rfl)
    (of_decide_eq_true (by kernel_rfl)) (by unfold Func.isWrapper; rw [if_neg (of_decide_eq_false (by kernel_rfl))]; exact ⟨rfl, rfl⟩)
    (fun os started H enc _ => deriveAll_lifted os started H enc)
end Go.Proofs.YtdleanjofhghnaaGreatDoor.K
namespace Go.Proofs.YtdleanjofhghnaaGreatDoor.K
open Go
theorem deriveAll_card : Rows.DeriveAllCardSaid :=
  Claim7.holds_tied_plain_at .later [] [.handle] true (true, "90a6f47b602b2300f6ee8e52ef6d16b9157b8f9b5ca3ec421dddb481f5e8180b") true
    deriveAll_holds (fun _ h => by cases h) (by kernel_rfl) (fun _ h => by cases h) deriveAll_row_tie rfl ⟨rfl, rfl⟩ (by kernel_rfl) rfl
    (fun f fn hf hfn => by
      obtain rfl : f = 3 := Option.some.inj ((show Tryz.prog.funcNamed "sesame/sesamelaw14.DeriveAll" = some 3 by kernel_rfl).symm.trans hf) |>.symm
      obtain rfl : fn = Tryz.f3 := (Option.some.inj (Tryz.func3.symm.trans hfn)).symm
      refine ⟨by kernel_rfl, fun j t ht => ?_⟩
      have hp : t ∈ [24, 25] := by
        have hm : t ∈ Tryz.f3.params.toList := Array.mem_toList_iff.2 (Array.mem_of_getElem? ht)
        exact hm
      simp only [List.mem_cons, List.not_mem_nil, or_false] at hp
      rcases hp with rfl | rfl
      · exact (show Tryz.prog.wantsStandIn 24 = false by kernel_rfl)
      · exact (show Tryz.prog.wantsStandIn 25 = false by kernel_rfl)
      )
    (by kernel_rfl)
end Go.Proofs.YtdleanjofhghnaaGreatDoor.K
