/- Types and functions of the program, as the printed functions need them. -/
import Derived.Test.YtnmaknkbdfpbkaaProg
import Derived.Test.YtnmaknkbdfpbkaaQ7
import Derived.KernelRfl
namespace Go.Proofs.Ytnmaknkbdfpbkaa.K
open Go Go.Proofs
theorem mixed : Try.prog.follows .mixedOrders = true := by kernel_rfl
structure S_api_Word where
  Hi : Int
  Lo : Int
def S_api_Word.cells (x : S_api_Word) : _root_.List Value := [(Value.int .u64 x.Hi), (Value.int .u64 x.Lo)]
def S_api_Word.val (x : S_api_Word) : Value := .agg (S_api_Word.cells x).toArray
def S_api_Word.ty : Ty := tStruct [(tInt .u64), (tInt .u64)] S_api_Word.val S_api_Word.cells (fun y => ⟨y.1, y.2⟩) (fun _ => rfl) (fun _ => rfl) (fun _ => rfl)
structure S_draws_Draws where
  xall : Sl
  xtaken : Int
def S_draws_Draws.cells (x : S_draws_Draws) : _root_.List Value := [(Sl.val x.xall), (Value.int .i64 x.xtaken)]
def S_draws_Draws.val (x : S_draws_Draws) : Value := .agg (S_draws_Draws.cells x).toArray
def S_draws_Draws.ty : Ty := tStruct [tSl, (tInt .i64)] S_draws_Draws.val S_draws_Draws.cells (fun y => ⟨y.1, y.2⟩) (fun _ => rfl) (fun _ => rfl) (fun _ => rfl)
structure S_ref04_Draws where
  L : Sl
  Width : Int
  At : Int
def S_ref04_Draws.cells (x : S_ref04_Draws) : _root_.List Value := [(Sl.val x.L), (Value.int .i64 x.Width), (Value.int .i64 x.At)]
def S_ref04_Draws.val (x : S_ref04_Draws) : Value := .agg (S_ref04_Draws.cells x).toArray
def S_ref04_Draws.ty : Ty := tStruct [tSl, (tInt .i64), (tInt .i64)] S_ref04_Draws.val S_ref04_Draws.cells (fun y => ⟨y.1, y.2.1, y.2.2⟩) (fun _ => rfl) (fun _ => rfl) (fun _ => rfl)
structure S_law04_Pair where
  P : Option Addr
  R : Option Addr
def S_law04_Pair.cells (x : S_law04_Pair) : _root_.List Value := [(Value.pointer x.P), (Value.pointer x.R)]
def S_law04_Pair.val (x : S_law04_Pair) : Value := .agg (S_law04_Pair.cells x).toArray
def S_law04_Pair.ty : Ty := tStruct [tPtr, tPtr] S_law04_Pair.val S_law04_Pair.cells (fun y => ⟨y.1, y.2⟩) (fun _ => rfl) (fun _ => rfl) (fun _ => rfl)
structure S_law04_Step where
  Second : Bool
  Kind : Int
  N : Int
def S_law04_Step.cells (x : S_law04_Step) : _root_.List Value := [(Value.bool x.Second), (Value.int .i64 x.Kind), (Value.int .i64 x.N)]
def S_law04_Step.val (x : S_law04_Step) : Value := .agg (S_law04_Step.cells x).toArray
def S_law04_Step.ty : Ty := tStruct [tBool, (tInt .i64), (tInt .i64)] S_law04_Step.val S_law04_Step.cells (fun y => ⟨y.1, y.2.1, y.2.2⟩) (fun _ => rfl) (fun _ => rfl) (fun _ => rfl)
structure S_book_Book where
  xsteps : Int
  xlive : Option Nat
  xlists : Option Nat
  xways : Option Nat
  xknown : Option Nat
  xbytes : Option Nat
def S_book_Book.cells (x : S_book_Book) : _root_.List Value := [(Value.int .i64 x.xsteps), (Value.map x.xlive), (Value.map x.xlists), (Value.map x.xways), (Value.map x.xknown), (Value.map x.xbytes)]
def S_book_Book.val (x : S_book_Book) : Value := .agg (S_book_Book.cells x).toArray
def S_book_Book.ty : Ty := tStruct [(tInt .i64), tMap, tMap, tMap, tMap, tMap] S_book_Book.val S_book_Book.cells (fun y => ⟨y.1, y.2.1, y.2.2.1, y.2.2.2.1, y.2.2.2.2.1, y.2.2.2.2.2⟩) (fun _ => rfl) (fun _ => rfl) (fun _ => rfl)
structure S_api_Cap where
  Obj : Int
  Pass : S_api_Word
def S_api_Cap.cells (x : S_api_Cap) : _root_.List Value := [(Value.int .i64 x.Obj), (Value.int .u64 x.Pass.Hi), (Value.int .u64 x.Pass.Lo)]
def S_api_Cap.val (x : S_api_Cap) : Value := .agg (S_api_Cap.cells x).toArray
def S_api_Cap.ty : Ty := tStruct [(tInt .i64), (tInt .u64), (tInt .u64)] S_api_Cap.val S_api_Cap.cells (fun y => ⟨y.1, ⟨y.2.1, y.2.2⟩⟩) (fun _ => rfl) (fun _ => rfl) (fun _ => rfl)
structure S_book_whom where
  xproc : Int
  xc : S_api_Cap
def S_book_whom.cells (x : S_book_whom) : _root_.List Value := [(Value.int .i64 x.xproc), (Value.int .i64 x.xc.Obj), (Value.int .u64 x.xc.Pass.Hi), (Value.int .u64 x.xc.Pass.Lo)]
def S_book_whom.val (x : S_book_whom) : Value := .agg (S_book_whom.cells x).toArray
def S_book_whom.ty : Ty := tStruct [(tInt .i64), (tInt .i64), (tInt .u64), (tInt .u64)] S_book_whom.val S_book_whom.cells (fun y => ⟨y.1, ⟨y.2.1, ⟨y.2.2.1, y.2.2.2⟩⟩⟩) (fun _ => rfl) (fun _ => rfl) (fun _ => rfl)
structure S_book_Link where
  Step : Int
  Kind : Int
  By : Int
  To : Int
  Cap : S_api_Cap
def S_book_Link.cells (x : S_book_Link) : _root_.List Value := [(Value.int .i64 x.Step), (Value.int .i64 x.Kind), (Value.int .i64 x.By), (Value.int .i64 x.To), (Value.int .i64 x.Cap.Obj), (Value.int .u64 x.Cap.Pass.Hi), (Value.int .u64 x.Cap.Pass.Lo)]
def S_book_Link.val (x : S_book_Link) : Value := .agg (S_book_Link.cells x).toArray
def S_book_Link.ty : Ty := tStruct [(tInt .i64), (tInt .i64), (tInt .i64), (tInt .i64), (tInt .i64), (tInt .u64), (tInt .u64)] S_book_Link.val S_book_Link.cells (fun y => ⟨y.1, y.2.1, y.2.2.1, y.2.2.2.1, ⟨y.2.2.2.2.1, ⟨y.2.2.2.2.2.1, y.2.2.2.2.2.2⟩⟩⟩) (fun _ => rfl) (fun _ => rfl) (fun _ => rfl)
structure S_book_token where
  xrights : Int
  xparent : S_api_Cap
  xroot : Bool
def S_book_token.cells (x : S_book_token) : _root_.List Value := [(Value.int .i64 x.xrights), (Value.int .i64 x.xparent.Obj), (Value.int .u64 x.xparent.Pass.Hi), (Value.int .u64 x.xparent.Pass.Lo), (Value.bool x.xroot)]
def S_book_token.val (x : S_book_token) : Value := .agg (S_book_token.cells x).toArray
def S_book_token.ty : Ty := tStruct [(tInt .i64), (tInt .i64), (tInt .u64), (tInt .u64), tBool] S_book_token.val S_book_token.cells (fun y => ⟨y.1, ⟨y.2.1, ⟨y.2.2.1, y.2.2.2.1⟩⟩, y.2.2.2.2⟩) (fun _ => rfl) (fun _ => rfl) (fun _ => rfl)
structure S_book_laid where
  xby : Int
  xc : S_api_Cap
  xway : Sl
def S_book_laid.cells (x : S_book_laid) : _root_.List Value := [(Value.int .i64 x.xby), (Value.int .i64 x.xc.Obj), (Value.int .u64 x.xc.Pass.Hi), (Value.int .u64 x.xc.Pass.Lo), (Sl.val x.xway)]
def S_book_laid.val (x : S_book_laid) : Value := .agg (S_book_laid.cells x).toArray
def S_book_laid.ty : Ty := tStruct [(tInt .i64), (tInt .i64), (tInt .u64), (tInt .u64), tSl] S_book_laid.val S_book_laid.cells (fun y => ⟨y.1, ⟨y.2.1, ⟨y.2.2.1, y.2.2.2.1⟩⟩, y.2.2.2.2⟩) (fun _ => rfl) (fun _ => rfl) (fun _ => rfl)
structure S_api_Call where
  Op : Int
  By : Int
  Size : Int
  Cap : S_api_Cap
  Given : Bool
  Rights : Int
  Off : Int
  N : Int
  Data : Sl
  Index : Int
  Gifts : Sl
def S_api_Call.cells (x : S_api_Call) : _root_.List Value := [(Value.int .i64 x.Op), (Value.int .i64 x.By), (Value.int .i64 x.Size), (Value.int .i64 x.Cap.Obj), (Value.int .u64 x.Cap.Pass.Hi), (Value.int .u64 x.Cap.Pass.Lo), (Value.bool x.Given), (Value.int .i64 x.Rights), (Value.int .i64 x.Off), (Value.int .i64 x.N), (Sl.val x.Data), (Value.int .i64 x.Index), (Sl.val x.Gifts)]
def S_api_Call.val (x : S_api_Call) : Value := .agg (S_api_Call.cells x).toArray
def S_api_Call.ty : Ty := tStruct [(tInt .i64), (tInt .i64), (tInt .i64), (tInt .i64), (tInt .u64), (tInt .u64), tBool, (tInt .i64), (tInt .i64), (tInt .i64), tSl, (tInt .i64), tSl] S_api_Call.val S_api_Call.cells (fun y => ⟨y.1, y.2.1, y.2.2.1, ⟨y.2.2.2.1, ⟨y.2.2.2.2.1, y.2.2.2.2.2.1⟩⟩, y.2.2.2.2.2.2.1, y.2.2.2.2.2.2.2.1, y.2.2.2.2.2.2.2.2.1, y.2.2.2.2.2.2.2.2.2.1, y.2.2.2.2.2.2.2.2.2.2.1, y.2.2.2.2.2.2.2.2.2.2.2.1, y.2.2.2.2.2.2.2.2.2.2.2.2⟩) (fun _ => rfl) (fun _ => rfl) (fun _ => rfl)
structure S_api_Reply where
  Code : Int
  Cap : S_api_Cap
  Data : Sl
  Number : Int
def S_api_Reply.cells (x : S_api_Reply) : _root_.List Value := [(Value.int .i64 x.Code), (Value.int .i64 x.Cap.Obj), (Value.int .u64 x.Cap.Pass.Hi), (Value.int .u64 x.Cap.Pass.Lo), (Sl.val x.Data), (Value.int .i64 x.Number)]
def S_api_Reply.val (x : S_api_Reply) : Value := .agg (S_api_Reply.cells x).toArray
def S_api_Reply.ty : Ty := tStruct [(tInt .i64), (tInt .i64), (tInt .u64), (tInt .u64), tSl, (tInt .i64)] S_api_Reply.val S_api_Reply.cells (fun y => ⟨y.1, ⟨y.2.1, ⟨y.2.2.1, y.2.2.2.1⟩⟩, y.2.2.2.2.1, y.2.2.2.2.2⟩) (fun _ => rfl) (fun _ => rfl) (fun _ => rfl)
structure S_runtime_boundsError where
  xx : Int
  xy : Int
  xsigned : Bool
  xcode : Int
def S_runtime_boundsError.cells (x : S_runtime_boundsError) : _root_.List Value := [(Value.int .i64 x.xx), (Value.int .i64 x.xy), (Value.bool x.xsigned), (Value.int .u8 x.xcode)]
def S_runtime_boundsError.val (x : S_runtime_boundsError) : Value := .agg (S_runtime_boundsError.cells x).toArray
def S_runtime_boundsError.ty : Ty := tStruct [(tInt .i64), (tInt .i64), tBool, (tInt .u8)] S_runtime_boundsError.val S_runtime_boundsError.cells (fun y => ⟨y.1, y.2.1, y.2.2.1, y.2.2.2⟩) (fun _ => rfl) (fun _ => rfl) (fun _ => rfl)
structure S_runtime_errorAddressString where
  xmsg : ByteArray
  xaddr : Int
def S_runtime_errorAddressString.cells (x : S_runtime_errorAddressString) : _root_.List Value := [(Value.string x.xmsg), (Value.int .u64 x.xaddr)]
def S_runtime_errorAddressString.val (x : S_runtime_errorAddressString) : Value := .agg (S_runtime_errorAddressString.cells x).toArray
def S_runtime_errorAddressString.ty : Ty := tStruct [tStr, (tInt .u64)] S_runtime_errorAddressString.val S_runtime_errorAddressString.cells (fun y => ⟨y.1, y.2⟩) (fun _ => rfl) (fun _ => rfl) (fun _ => rfl)
structure S_internal_runtime_maps_unhashableTypeError where
  xtyp : Option Addr
def S_internal_runtime_maps_unhashableTypeError.cells (x : S_internal_runtime_maps_unhashableTypeError) : _root_.List Value := [(Value.pointer x.xtyp)]
def S_internal_runtime_maps_unhashableTypeError.val (x : S_internal_runtime_maps_unhashableTypeError) : Value := .agg (S_internal_runtime_maps_unhashableTypeError.cells x).toArray
def S_internal_runtime_maps_unhashableTypeError.ty : Ty := tStruct [tPtr] S_internal_runtime_maps_unhashableTypeError.val S_internal_runtime_maps_unhashableTypeError.cells (fun y => ⟨y⟩) (fun _ => rfl) (fun _ => rfl) (fun _ => rfl)
structure S_law13_Ask where
  Taken : Sl
  Back : Int
def S_law13_Ask.cells (x : S_law13_Ask) : _root_.List Value := [(Sl.val x.Taken), (Value.int .i64 x.Back)]
def S_law13_Ask.val (x : S_law13_Ask) : Value := .agg (S_law13_Ask.cells x).toArray
def S_law13_Ask.ty : Ty := tStruct [tSl, (tInt .i64)] S_law13_Ask.val S_law13_Ask.cells (fun y => ⟨y.1, y.2⟩) (fun _ => rfl) (fun _ => rfl) (fun _ => rfl)
structure S_runtime_TypeAssertionError where
  x_interface : Option Addr
  xconcrete : Option Addr
  xasserted : Option Addr
  xmissingMethod : ByteArray
def S_runtime_TypeAssertionError.cells (x : S_runtime_TypeAssertionError) : _root_.List Value := [(Value.pointer x.x_interface), (Value.pointer x.xconcrete), (Value.pointer x.xasserted), (Value.string x.xmissingMethod)]
def S_runtime_TypeAssertionError.val (x : S_runtime_TypeAssertionError) : Value := .agg (S_runtime_TypeAssertionError.cells x).toArray
def S_runtime_TypeAssertionError.ty : Ty := tStruct [tPtr, tPtr, tPtr, tStr] S_runtime_TypeAssertionError.val S_runtime_TypeAssertionError.cells (fun y => ⟨y.1, y.2.1, y.2.2.1, y.2.2.2⟩) (fun _ => rfl) (fun _ => rfl) (fun _ => rfl)
structure S_internal_abi_Type where
  Size_ : Int
  PtrBytes : Int
  Hash : Int
  TFlag : Int
  Align_ : Int
  FieldAlign_ : Int
  Kind_ : Int
  Equal : PV
  GCData : Option Addr
  Str : Int
  PtrToThis : Int
def S_internal_abi_Type.cells (x : S_internal_abi_Type) : _root_.List Value := [(Value.int .u64 x.Size_), (Value.int .u64 x.PtrBytes), (Value.int .u32 x.Hash), (Value.int .u8 x.TFlag), (Value.int .u8 x.Align_), (Value.int .u8 x.FieldAlign_), (Value.int .u8 x.Kind_), x.Equal.1, (Value.pointer x.GCData), (Value.int .i32 x.Str), (Value.int .i32 x.PtrToThis)]
def S_internal_abi_Type.val (x : S_internal_abi_Type) : Value := .agg (S_internal_abi_Type.cells x).toArray
def S_internal_abi_Type.ty : Ty := tStruct [(tInt .u64), (tInt .u64), (tInt .u32), (tInt .u8), (tInt .u8), (tInt .u8), (tInt .u8), tPV, tPtr, (tInt .i32), (tInt .i32)] S_internal_abi_Type.val S_internal_abi_Type.cells (fun y => ⟨y.1, y.2.1, y.2.2.1, y.2.2.2.1, y.2.2.2.2.1, y.2.2.2.2.2.1, y.2.2.2.2.2.2.1, y.2.2.2.2.2.2.2.1, y.2.2.2.2.2.2.2.2.1, y.2.2.2.2.2.2.2.2.2.1, y.2.2.2.2.2.2.2.2.2.2⟩) (fun _ => rfl) (fun _ => rfl) (fun _ => rfl)
abbrev N_i64 : Nat := 2
abbrev N_bool : Nat := 4
abbrev N_u8 : Nat := 5
abbrev N_internal_abi_BoundsErrorCode : Nat := 6
abbrev U_internal_abi_BoundsErrorCode := @Try.underlying6
abbrev N_runtime_boundsError : Nat := 8
abbrev U_runtime_boundsError := @Try.underlying8
abbrev N_string : Nat := 9
abbrev N_runtime_errorString : Nat := 10
abbrev U_runtime_errorString := @Try.underlying10
abbrev N_runtime_plainError : Nat := 11
abbrev U_runtime_plainError := @Try.underlying11
abbrev N_u64 : Nat := 12
abbrev N_runtime_errorAddressString : Nat := 14
abbrev U_runtime_errorAddressString := @Try.underlying14
abbrev N_P_runtime_TypeAssertionError : Nat := 15
abbrev N_P_runtime_PanicNilError : Nat := 16
abbrev N_P_internal_abi_Type : Nat := 17
abbrev N_internal_runtime_maps_unhashableTypeError : Nat := 19
abbrev U_internal_runtime_maps_unhashableTypeError := @Try.underlying19
abbrev N_i32 : Nat := 21
abbrev N_Sl_api_Word : Nat := 22
abbrev N_api_Word : Nat := 25
abbrev U_api_Word := @Try.underlying25
abbrev N_P_draws_Draws : Nat := 26
abbrev N_api_Errno : Nat := 27
abbrev U_api_Errno := @Try.underlying27
abbrev N_Sl_law04_Step : Nat := 36
abbrev N_P_ref04_Draws : Nat := 37
abbrev N_law04_Pair : Nat := 41
abbrev U_law04_Pair := @Try.underlying41
abbrev N_law04_Step : Nat := 43
abbrev U_law04_Step := @Try.underlying43
abbrev N_Sl_i64 : Nat := 46
abbrev N_Sl_law13_Ask : Nat := 49
abbrev N_law13_Ask : Nat := 51
abbrev U_law13_Ask := @Try.underlying51
abbrev N_Sl_u8 : Nat := 68
abbrev N_Sl_Sl_u8 : Nat := 74
abbrev N_Sl_u64 : Nat := 76
abbrev N_P_book_Book : Nat := 77
abbrev N_Sl_api_Cap : Nat := 79
abbrev N_api_Cap : Nat := 81
abbrev U_api_Cap := @Try.underlying81
abbrev N_api_Call : Nat := 84
abbrev U_api_Call := @Try.underlying84
abbrev N_api_Reply : Nat := 86
abbrev U_api_Reply := @Try.underlying86
abbrev N_Sl_book_Link : Nat := 89
abbrev N_book_Link : Nat := 93
abbrev U_book_Link := @Try.underlying93
abbrev N_draws_words : Nat := 95
abbrev U_draws_words := @Try.underlying95
abbrev N_draws_Draws : Nat := 97
abbrev U_draws_Draws := @Try.underlying97
abbrev N_ref04_Draws : Nat := 100
abbrev U_ref04_Draws := @Try.underlying100
abbrev N_wide_kind : Nat := 107
abbrev U_wide_kind := @Try.underlying107
abbrev N_M_api_Cap_book_token : Nat := 110
abbrev N_M_i64_Sl_api_Cap : Nat := 111
abbrev N_M_book_whom_Sl_book_Link : Nat := 112
abbrev N_M_i64_M_i64_book_laid : Nat := 113
abbrev N_book_Book : Nat := 115
abbrev U_book_Book := @Try.underlying115
abbrev N_book_token : Nat := 121
abbrev U_book_token := @Try.underlying121
abbrev N_book_whom : Nat := 125
abbrev U_book_whom := @Try.underlying125
abbrev N_M_i64_book_laid : Nat := 137
abbrev N_book_laid : Nat := 141
abbrev U_book_laid := @Try.underlying141
abbrev N_runtime_TypeAssertionError : Nat := 149
abbrev U_runtime_TypeAssertionError := @Try.underlying149
abbrev N_A0_P_runtime_PanicNilError : Nat := 150
abbrev N_runtime_PanicNilError : Nat := 152
abbrev U_runtime_PanicNilError := @Try.underlying152
abbrev N_u32 : Nat := 153
abbrev N_internal_abi_TFlag : Nat := 154
abbrev U_internal_abi_TFlag := @Try.underlying154
abbrev N_internal_abi_Kind : Nat := 155
abbrev U_internal_abi_Kind := @Try.underlying155
abbrev N_P_u8 : Nat := 157
abbrev N_internal_abi_NameOff : Nat := 158
abbrev U_internal_abi_NameOff := @Try.underlying158
abbrev N_internal_abi_TypeOff : Nat := 159
abbrev U_internal_abi_TypeOff := @Try.underlying159
abbrev N_internal_abi_Type : Nat := 161
abbrev U_internal_abi_Type := @Try.underlying161
abbrev N_unsafePointer : Nat := 162
def tys : List (Nat × Ty) := [(1, tPV), (2, (tInt .i64)), (3, (tInt .i64)), (4, tBool), (5, (tInt .u8)), (6, (tInt .u8)), (7, S_runtime_boundsError.ty), (8, S_runtime_boundsError.ty), (9, tStr), (10, tStr), (11, tStr), (12, (tInt .u64)), (13, S_runtime_errorAddressString.ty), (14, S_runtime_errorAddressString.ty), (15, tPtr), (16, tPtr), (17, tPtr), (18, S_internal_runtime_maps_unhashableTypeError.ty), (19, S_internal_runtime_maps_unhashableTypeError.ty), (20, tPV), (21, (tInt .i32)), (22, tSl), (23, (tInt .u64)), (24, S_api_Word.ty), (25, S_api_Word.ty), (26, tPtr), (27, (tInt .i64)), (29, tPV), (30, tPV), (32, tPV), (33, tPV), (34, tPV), (35, tPV), (36, tSl), (37, tPtr), (39, tPV), (40, S_law04_Pair.ty), (41, S_law04_Pair.ty), (42, S_law04_Step.ty), (43, S_law04_Step.ty), (44, tPV), (45, tPV), (46, tSl), (47, tPV), (48, tPV), (49, tSl), (50, S_law13_Ask.ty), (51, S_law13_Ask.ty), (52, tPV), (54, tPV), (55, tPV), (56, tPV), (57, tPV), (58, tPV), (59, tPV), (60, tPV), (62, tPV), (63, tPV), (64, tPV), (65, tPV), (66, tPV), (67, tPV), (68, tSl), (69, tPV), (70, tPV), (71, tPV), (72, tPV), (73, tPV), (74, tSl), (75, tPV), (76, tSl), (77, tPtr), (78, tPV), (79, tSl), (80, S_api_Cap.ty), (81, S_api_Cap.ty), (82, tPV), (83, S_api_Call.ty), (84, S_api_Call.ty), (85, S_api_Reply.ty), (86, S_api_Reply.ty), (87, tPV), (88, tPV), (89, tSl), (91, tPV), (92, S_book_Link.ty), (93, S_book_Link.ty), (94, tPV), (95, tSl), (96, S_draws_Draws.ty), (97, S_draws_Draws.ty), (98, tPV), (99, S_ref04_Draws.ty), (100, S_ref04_Draws.ty), (101, tPV), (102, tPV), (103, tPV), (104, tPV), (105, tPV), (106, tPV), (107, (tInt .i64)), (108, tPV), (109, (tInt .u64)), (110, tMap), (111, tMap), (112, tMap), (113, tMap), (114, S_book_Book.ty), (115, S_book_Book.ty), (117, tPV), (118, tPV), (119, tPV), (120, S_book_token.ty), (121, S_book_token.ty), (122, tPV), (123, tPV), (124, S_book_whom.ty), (125, S_book_whom.ty), (126, tPV), (127, tPV), (128, tPV), (129, tPV), (130, tPV), (131, tPV), (132, tPV), (133, tPV), (135, tPV), (136, tPV), (137, tMap), (139, tPV), (140, S_book_laid.ty), (141, S_book_laid.ty), (143, tPV), (145, tPV), (146, tPV), (147, tPV), (148, S_runtime_TypeAssertionError.ty), (149, S_runtime_TypeAssertionError.ty), (153, (tInt .u32)), (154, (tInt .u8)), (155, (tInt .u8)), (156, tPV), (157, tPtr), (158, (tInt .i32)), (159, (tInt .i32)), (160, S_internal_abi_Type.ty), (161, S_internal_abi_Type.ty)]
theorem callee3 : Callee Try.prog 3 Try.f3 := ⟨Try.func3, by kernel_rfl, by kernel_rfl⟩
theorem callee4 : Callee Try.prog 4 Try.f4 := ⟨Try.func4, by kernel_rfl, by kernel_rfl⟩
theorem callee5 : Callee Try.prog 5 Try.f5 := ⟨Try.func5, by kernel_rfl, by kernel_rfl⟩
theorem callee6 : Callee Try.prog 6 Try.f6 := ⟨Try.func6, by kernel_rfl, by kernel_rfl⟩
theorem callee7 : Callee Try.prog 7 Try.f7 := ⟨Try.func7, by kernel_rfl, by kernel_rfl⟩
theorem callee8 : Callee Try.prog 8 Try.f8 := ⟨Try.func8, by kernel_rfl, by kernel_rfl⟩
theorem callee9 : Callee Try.prog 9 Try.f9 := ⟨Try.func9, by kernel_rfl, by kernel_rfl⟩
theorem callee10 : Callee Try.prog 10 Try.f10 := ⟨Try.func10, by kernel_rfl, by kernel_rfl⟩
theorem callee11 : Callee Try.prog 11 Try.f11 := ⟨Try.func11, by kernel_rfl, by kernel_rfl⟩
theorem callee12 : Callee Try.prog 12 Try.f12 := ⟨Try.func12, by kernel_rfl, by kernel_rfl⟩
theorem callee13 : Callee Try.prog 13 Try.f13 := ⟨Try.func13, by kernel_rfl, by kernel_rfl⟩
theorem callee14 : Callee Try.prog 14 Try.f14 := ⟨Try.func14, by kernel_rfl, by kernel_rfl⟩
theorem callee15 : Callee Try.prog 15 Try.f15 := ⟨Try.func15, by kernel_rfl, by kernel_rfl⟩
theorem callee16 : Callee Try.prog 16 Try.f16 := ⟨Try.func16, by kernel_rfl, by kernel_rfl⟩
theorem callee17 : Callee Try.prog 17 Try.f17 := ⟨Try.func17, by kernel_rfl, by kernel_rfl⟩
theorem callee18 : Callee Try.prog 18 Try.f18 := ⟨Try.func18, by kernel_rfl, by kernel_rfl⟩
theorem callee19 : Callee Try.prog 19 Try.f19 := ⟨Try.func19, by kernel_rfl, by kernel_rfl⟩
theorem callee20 : Callee Try.prog 20 Try.f20 := ⟨Try.func20, by kernel_rfl, by kernel_rfl⟩
theorem callee21 : Callee Try.prog 21 Try.f21 := ⟨Try.func21, by kernel_rfl, by kernel_rfl⟩
theorem callee22 : Callee Try.prog 22 Try.f22 := ⟨Try.func22, by kernel_rfl, by kernel_rfl⟩
theorem callee23 : Callee Try.prog 23 Try.f23 := ⟨Try.func23, by kernel_rfl, by kernel_rfl⟩
theorem callee24 : Callee Try.prog 24 Try.f24 := ⟨Try.func24, by kernel_rfl, by kernel_rfl⟩
theorem callee25 : Callee Try.prog 25 Try.f25 := ⟨Try.func25, by kernel_rfl, by kernel_rfl⟩
theorem callee26 : Callee Try.prog 26 Try.f26 := ⟨Try.func26, by kernel_rfl, by kernel_rfl⟩
theorem callee27 : Callee Try.prog 27 Try.f27 := ⟨Try.func27, by kernel_rfl, by kernel_rfl⟩
theorem callee28 : Callee Try.prog 28 Try.f28 := ⟨Try.func28, by kernel_rfl, by kernel_rfl⟩
theorem callee29 : Callee Try.prog 29 Try.f29 := ⟨Try.func29, by kernel_rfl, by kernel_rfl⟩
theorem callee30 : Callee Try.prog 30 Try.f30 := ⟨Try.func30, by kernel_rfl, by kernel_rfl⟩
theorem callee31 : Callee Try.prog 31 Try.f31 := ⟨Try.func31, by kernel_rfl, by kernel_rfl⟩
theorem callee32 : Callee Try.prog 32 Try.f32 := ⟨Try.func32, by kernel_rfl, by kernel_rfl⟩
theorem callee33 : Callee Try.prog 33 Try.f33 := ⟨Try.func33, by kernel_rfl, by kernel_rfl⟩
theorem callee34 : Callee Try.prog 34 Try.f34 := ⟨Try.func34, by kernel_rfl, by kernel_rfl⟩
theorem callee35 : Callee Try.prog 35 Try.f35 := ⟨Try.func35, by kernel_rfl, by kernel_rfl⟩
theorem callee36 : Callee Try.prog 36 Try.f36 := ⟨Try.func36, by kernel_rfl, by kernel_rfl⟩
theorem callee37 : Callee Try.prog 37 Try.f37 := ⟨Try.func37, by kernel_rfl, by kernel_rfl⟩
theorem callee38 : Callee Try.prog 38 Try.f38 := ⟨Try.func38, by kernel_rfl, by kernel_rfl⟩
theorem callee39 : Callee Try.prog 39 Try.f39 := ⟨Try.func39, by kernel_rfl, by kernel_rfl⟩
theorem callee40 : Callee Try.prog 40 Try.f40 := ⟨Try.func40, by kernel_rfl, by kernel_rfl⟩
theorem callee41 : Callee Try.prog 41 Try.f41 := ⟨Try.func41, by kernel_rfl, by kernel_rfl⟩
theorem callee42 : Callee Try.prog 42 Try.f42 := ⟨Try.func42, by kernel_rfl, by kernel_rfl⟩
theorem callee43 : Callee Try.prog 43 Try.f43 := ⟨Try.func43, by kernel_rfl, by kernel_rfl⟩
theorem callee44 : Callee Try.prog 44 Try.f44 := ⟨Try.func44, by kernel_rfl, by kernel_rfl⟩
theorem callee45 : Callee Try.prog 45 Try.f45 := ⟨Try.func45, by kernel_rfl, by kernel_rfl⟩
theorem callee46 : Callee Try.prog 46 Try.f46 := ⟨Try.func46, by kernel_rfl, by kernel_rfl⟩
theorem callee47 : Callee Try.prog 47 Try.f47 := ⟨Try.func47, by kernel_rfl, by kernel_rfl⟩
theorem callee48 : Callee Try.prog 48 Try.f48 := ⟨Try.func48, by kernel_rfl, by kernel_rfl⟩
theorem callee49 : Callee Try.prog 49 Try.f49 := ⟨Try.func49, by kernel_rfl, by kernel_rfl⟩
theorem callee50 : Callee Try.prog 50 Try.f50 := ⟨Try.func50, by kernel_rfl, by kernel_rfl⟩
theorem callee51 : Callee Try.prog 51 Try.f51 := ⟨Try.func51, by kernel_rfl, by kernel_rfl⟩
theorem callee52 : Callee Try.prog 52 Try.f52 := ⟨Try.func52, by kernel_rfl, by kernel_rfl⟩
theorem callee53 : Callee Try.prog 53 Try.f53 := ⟨Try.func53, by kernel_rfl, by kernel_rfl⟩
theorem callee54 : Callee Try.prog 54 Try.f54 := ⟨Try.func54, by kernel_rfl, by kernel_rfl⟩
theorem callee55 : Callee Try.prog 55 Try.f55 := ⟨Try.func55, by kernel_rfl, by kernel_rfl⟩
theorem callee56 : Callee Try.prog 56 Try.f56 := ⟨Try.func56, by kernel_rfl, by kernel_rfl⟩
theorem callee57 : Callee Try.prog 57 Try.f57 := ⟨Try.func57, by kernel_rfl, by kernel_rfl⟩
theorem callee58 : Callee Try.prog 58 Try.f58 := ⟨Try.func58, by kernel_rfl, by kernel_rfl⟩
theorem callee59 : Callee Try.prog 59 Try.f59 := ⟨Try.func59, by kernel_rfl, by kernel_rfl⟩
theorem callee60 : Callee Try.prog 60 Try.f60 := ⟨Try.func60, by kernel_rfl, by kernel_rfl⟩
theorem callee61 : Callee Try.prog 61 Try.f61 := ⟨Try.func61, by kernel_rfl, by kernel_rfl⟩
theorem callee62 : Callee Try.prog 62 Try.f62 := ⟨Try.func62, by kernel_rfl, by kernel_rfl⟩
theorem callee63 : Callee Try.prog 63 Try.f63 := ⟨Try.func63, by kernel_rfl, by kernel_rfl⟩
theorem callee64 : Callee Try.prog 64 Try.f64 := ⟨Try.func64, by kernel_rfl, by kernel_rfl⟩
theorem callee65 : Callee Try.prog 65 Try.f65 := ⟨Try.func65, by kernel_rfl, by kernel_rfl⟩
theorem callee66 : Callee Try.prog 66 Try.f66 := ⟨Try.func66, by kernel_rfl, by kernel_rfl⟩
theorem callee67 : Callee Try.prog 67 Try.f67 := ⟨Try.func67, by kernel_rfl, by kernel_rfl⟩
theorem callee68 : Callee Try.prog 68 Try.f68 := ⟨Try.func68, by kernel_rfl, by kernel_rfl⟩
theorem callee69 : Callee Try.prog 69 Try.f69 := ⟨Try.func69, by kernel_rfl, by kernel_rfl⟩
theorem callee70 : Callee Try.prog 70 Try.f70 := ⟨Try.func70, by kernel_rfl, by kernel_rfl⟩
theorem callee71 : Callee Try.prog 71 Try.f71 := ⟨Try.func71, by kernel_rfl, by kernel_rfl⟩
theorem callee72 : Callee Try.prog 72 Try.f72 := ⟨Try.func72, by kernel_rfl, by kernel_rfl⟩
theorem callee73 : Callee Try.prog 73 Try.f73 := ⟨Try.func73, by kernel_rfl, by kernel_rfl⟩
theorem callee74 : Callee Try.prog 74 Try.f74 := ⟨Try.func74, by kernel_rfl, by kernel_rfl⟩
theorem callee75 : Callee Try.prog 75 Try.f75 := ⟨Try.func75, by kernel_rfl, by kernel_rfl⟩
theorem callee76 : Callee Try.prog 76 Try.f76 := ⟨Try.func76, by kernel_rfl, by kernel_rfl⟩
theorem callee77 : Callee Try.prog 77 Try.f77 := ⟨Try.func77, by kernel_rfl, by kernel_rfl⟩
theorem callee78 : Callee Try.prog 78 Try.f78 := ⟨Try.func78, by kernel_rfl, by kernel_rfl⟩
theorem callee79 : Callee Try.prog 79 Try.f79 := ⟨Try.func79, by kernel_rfl, by kernel_rfl⟩
theorem callee80 : Callee Try.prog 80 Try.f80 := ⟨Try.func80, by kernel_rfl, by kernel_rfl⟩
theorem callee81 : Callee Try.prog 81 Try.f81 := ⟨Try.func81, by kernel_rfl, by kernel_rfl⟩
theorem callee82 : Callee Try.prog 82 Try.f82 := ⟨Try.func82, by kernel_rfl, by kernel_rfl⟩
theorem callee83 : Callee Try.prog 83 Try.f83 := ⟨Try.func83, by kernel_rfl, by kernel_rfl⟩
theorem callee84 : Callee Try.prog 84 Try.f84 := ⟨Try.func84, by kernel_rfl, by kernel_rfl⟩
end Go.Proofs.Ytnmaknkbdfpbkaa.K
