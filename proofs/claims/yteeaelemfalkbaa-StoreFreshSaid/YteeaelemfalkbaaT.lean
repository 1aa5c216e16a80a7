/- Types and functions of the program, as the printed functions need them. -/
import Derived.Test.YteeaelemfalkbaaProg
import Derived.Test.YteeaelemfalkbaaQ7
import Derived.KernelRfl
namespace Go.Proofs.Yteeaelemfalkbaa.K
open Go Go.Proofs
theorem mixed : Try.prog.follows .mixedOrders = true := by kernel_rfl
structure S_api_Config where
  Width : Int
  Objects : Int
  Pages : Int
  Entries : Int
  Quota : Int
  Procs : Int
  List : Int
  Sets : Int
  Ways : Int
  Knob : Int
def S_api_Config.cells (x : S_api_Config) : _root_.List Value := [(Value.int .i64 x.Width), (Value.int .i64 x.Objects), (Value.int .i64 x.Pages), (Value.int .i64 x.Entries), (Value.int .i64 x.Quota), (Value.int .i64 x.Procs), (Value.int .i64 x.List), (Value.int .i64 x.Sets), (Value.int .i64 x.Ways), (Value.int .i64 x.Knob)]
def S_api_Config.val (x : S_api_Config) : Value := .agg (S_api_Config.cells x).toArray
def S_api_Config.ty : Ty := tStruct [(tInt .i64), (tInt .i64), (tInt .i64), (tInt .i64), (tInt .i64), (tInt .i64), (tInt .i64), (tInt .i64), (tInt .i64), (tInt .i64)] S_api_Config.val S_api_Config.cells (fun y => ⟨y.1, y.2.1, y.2.2.1, y.2.2.2.1, y.2.2.2.2.1, y.2.2.2.2.2.1, y.2.2.2.2.2.2.1, y.2.2.2.2.2.2.2.1, y.2.2.2.2.2.2.2.2.1, y.2.2.2.2.2.2.2.2.2⟩) (fun _ => rfl) (fun _ => rfl) (fun _ => rfl)
structure S_api_State where
  Objects : Sl
  Tokens : Sl
  Processes : Sl
  NextId : Int
  NextProc : Int
  Taken : Int
def S_api_State.cells (x : S_api_State) : _root_.List Value := [(Sl.val x.Objects), (Sl.val x.Tokens), (Sl.val x.Processes), (Value.int .i64 x.NextId), (Value.int .i64 x.NextProc), (Value.int .i64 x.Taken)]
def S_api_State.val (x : S_api_State) : Value := .agg (S_api_State.cells x).toArray
def S_api_State.ty : Ty := tStruct [tSl, tSl, tSl, (tInt .i64), (tInt .i64), (tInt .i64)] S_api_State.val S_api_State.cells (fun y => ⟨y.1, y.2.1, y.2.2.1, y.2.2.2.1, y.2.2.2.2.1, y.2.2.2.2.2⟩) (fun _ => rfl) (fun _ => rfl) (fun _ => rfl)
structure S_api_Object where
  Id : Int
  Bytes : Sl
def S_api_Object.cells (x : S_api_Object) : _root_.List Value := [(Value.int .i64 x.Id), (Sl.val x.Bytes)]
def S_api_Object.val (x : S_api_Object) : Value := .agg (S_api_Object.cells x).toArray
def S_api_Object.ty : Ty := tStruct [(tInt .i64), tSl] S_api_Object.val S_api_Object.cells (fun y => ⟨y.1, y.2⟩) (fun _ => rfl) (fun _ => rfl) (fun _ => rfl)
structure S_api_Word where
  Hi : Int
  Lo : Int
def S_api_Word.cells (x : S_api_Word) : _root_.List Value := [(Value.int .u64 x.Hi), (Value.int .u64 x.Lo)]
def S_api_Word.val (x : S_api_Word) : Value := .agg (S_api_Word.cells x).toArray
def S_api_Word.ty : Ty := tStruct [(tInt .u64), (tInt .u64)] S_api_Word.val S_api_Word.cells (fun y => ⟨y.1, y.2⟩) (fun _ => rfl) (fun _ => rfl) (fun _ => rfl)
structure S_api_Cap where
  Obj : Int
  Pass : S_api_Word
def S_api_Cap.cells (x : S_api_Cap) : _root_.List Value := [(Value.int .i64 x.Obj), (Value.int .u64 x.Pass.Hi), (Value.int .u64 x.Pass.Lo)]
def S_api_Cap.val (x : S_api_Cap) : Value := .agg (S_api_Cap.cells x).toArray
def S_api_Cap.ty : Ty := tStruct [(tInt .i64), (tInt .u64), (tInt .u64)] S_api_Cap.val S_api_Cap.cells (fun y => ⟨y.1, ⟨y.2.1, y.2.2⟩⟩) (fun _ => rfl) (fun _ => rfl) (fun _ => rfl)
structure S_api_Token where
  Cap : S_api_Cap
  Rights : Int
  Parent : Int
def S_api_Token.cells (x : S_api_Token) : _root_.List Value := [(Value.int .i64 x.Cap.Obj), (Value.int .u64 x.Cap.Pass.Hi), (Value.int .u64 x.Cap.Pass.Lo), (Value.int .i64 x.Rights), (Value.int .i64 x.Parent)]
def S_api_Token.val (x : S_api_Token) : Value := .agg (S_api_Token.cells x).toArray
def S_api_Token.ty : Ty := tStruct [(tInt .i64), (tInt .u64), (tInt .u64), (tInt .i64), (tInt .i64)] S_api_Token.val S_api_Token.cells (fun y => ⟨⟨y.1, ⟨y.2.1, y.2.2.1⟩⟩, y.2.2.2.1, y.2.2.2.2⟩) (fun _ => rfl) (fun _ => rfl) (fun _ => rfl)
structure S_api_Process where
  Number : Int
  List : Sl
def S_api_Process.cells (x : S_api_Process) : _root_.List Value := [(Value.int .i64 x.Number), (Sl.val x.List)]
def S_api_Process.val (x : S_api_Process) : Value := .agg (S_api_Process.cells x).toArray
def S_api_Process.ty : Ty := tStruct [(tInt .i64), tSl] S_api_Process.val S_api_Process.cells (fun y => ⟨y.1, y.2⟩) (fun _ => rfl) (fun _ => rfl) (fun _ => rfl)
structure S_t81 where
  xe0 : Int
  xe1 : Int
  xe2 : Int
  xe3 : Int
  xe4 : Int
  xe5 : Int
  xe6 : Int
  xe7 : Int
  xe8 : Int
  xe9 : Int
def S_t81.cells (x : S_t81) : _root_.List Value := [(Value.int .i64 x.xe0), (Value.int .i64 x.xe1), (Value.int .i64 x.xe2), (Value.int .i64 x.xe3), (Value.int .i64 x.xe4), (Value.int .i64 x.xe5), (Value.int .i64 x.xe6), (Value.int .i64 x.xe7), (Value.int .i64 x.xe8), (Value.int .i64 x.xe9)]
def S_t81.val (x : S_t81) : Value := .agg (S_t81.cells x).toArray
def S_t81.ty : Ty := tStruct [(tInt .i64), (tInt .i64), (tInt .i64), (tInt .i64), (tInt .i64), (tInt .i64), (tInt .i64), (tInt .i64), (tInt .i64), (tInt .i64)] S_t81.val S_t81.cells (fun y => ⟨y.1, y.2.1, y.2.2.1, y.2.2.2.1, y.2.2.2.2.1, y.2.2.2.2.2.1, y.2.2.2.2.2.2.1, y.2.2.2.2.2.2.2.1, y.2.2.2.2.2.2.2.2.1, y.2.2.2.2.2.2.2.2.2⟩) (fun _ => rfl) (fun _ => rfl) (fun _ => rfl)
structure S_octet_Reader where
  xb : Sl
def S_octet_Reader.cells (x : S_octet_Reader) : _root_.List Value := [(Sl.val x.xb)]
def S_octet_Reader.val (x : S_octet_Reader) : Value := .agg (S_octet_Reader.cells x).toArray
def S_octet_Reader.ty : Ty := tStruct [tSl] S_octet_Reader.val S_octet_Reader.cells (fun y => ⟨y⟩) (fun _ => rfl) (fun _ => rfl) (fun _ => rfl)
structure S_image_source where
  xr : Option Addr
  xbad : Bool
def S_image_source.cells (x : S_image_source) : _root_.List Value := [(Value.pointer x.xr), (Value.bool x.xbad)]
def S_image_source.val (x : S_image_source) : Value := .agg (S_image_source.cells x).toArray
def S_image_source.ty : Ty := tStruct [tPtr, tBool] S_image_source.val S_image_source.cells (fun y => ⟨y.1, y.2⟩) (fun _ => rfl) (fun _ => rfl) (fun _ => rfl)
structure S_ref23_Tape where
  B : Sl
  At : Int
  Bad : Bool
def S_ref23_Tape.cells (x : S_ref23_Tape) : _root_.List Value := [(Sl.val x.B), (Value.int .i64 x.At), (Value.bool x.Bad)]
def S_ref23_Tape.val (x : S_ref23_Tape) : Value := .agg (S_ref23_Tape.cells x).toArray
def S_ref23_Tape.ty : Ty := tStruct [tSl, (tInt .i64), tBool] S_ref23_Tape.val S_ref23_Tape.cells (fun y => ⟨y.1, y.2.1, y.2.2⟩) (fun _ => rfl) (fun _ => rfl) (fun _ => rfl)
structure S_arena_Arena where
  xpages : Sl
  xtaken : Sl
def S_arena_Arena.cells (x : S_arena_Arena) : _root_.List Value := [(Sl.val x.xpages), (Sl.val x.xtaken)]
def S_arena_Arena.val (x : S_arena_Arena) : Value := .agg (S_arena_Arena.cells x).toArray
def S_arena_Arena.ty : Ty := tStruct [tSl, tSl] S_arena_Arena.val S_arena_Arena.cells (fun y => ⟨y.1, y.2⟩) (fun _ => rfl) (fun _ => rfl) (fun _ => rfl)
structure S_store_Store where
  xmost : Int
  xnext : Int
  xobjects : Option Nat
  xpages : Option Addr
def S_store_Store.cells (x : S_store_Store) : _root_.List Value := [(Value.int .i64 x.xmost), (Value.int .i64 x.xnext), (Value.map x.xobjects), (Value.pointer x.xpages)]
def S_store_Store.val (x : S_store_Store) : Value := .agg (S_store_Store.cells x).toArray
def S_store_Store.ty : Ty := tStruct [(tInt .i64), (tInt .i64), tMap, tPtr] S_store_Store.val S_store_Store.cells (fun y => ⟨y.1, y.2.1, y.2.2.1, y.2.2.2⟩) (fun _ => rfl) (fun _ => rfl) (fun _ => rfl)
structure S_arena_page where
  xe0 : Int
  xe1 : Int
  xe2 : Int
  xe3 : Int
  xe4 : Int
  xe5 : Int
  xe6 : Int
  xe7 : Int
  xe8 : Int
  xe9 : Int
  xe10 : Int
  xe11 : Int
  xe12 : Int
  xe13 : Int
  xe14 : Int
  xe15 : Int
  xe16 : Int
  xe17 : Int
  xe18 : Int
  xe19 : Int
  xe20 : Int
  xe21 : Int
  xe22 : Int
  xe23 : Int
  xe24 : Int
  xe25 : Int
  xe26 : Int
  xe27 : Int
  xe28 : Int
  xe29 : Int
  xe30 : Int
  xe31 : Int
  xe32 : Int
  xe33 : Int
  xe34 : Int
  xe35 : Int
  xe36 : Int
  xe37 : Int
  xe38 : Int
  xe39 : Int
  xe40 : Int
  xe41 : Int
  xe42 : Int
  xe43 : Int
  xe44 : Int
  xe45 : Int
  xe46 : Int
  xe47 : Int
  xe48 : Int
  xe49 : Int
  xe50 : Int
  xe51 : Int
  xe52 : Int
  xe53 : Int
  xe54 : Int
  xe55 : Int
  xe56 : Int
  xe57 : Int
  xe58 : Int
  xe59 : Int
  xe60 : Int
  xe61 : Int
  xe62 : Int
  xe63 : Int
def S_arena_page.cells (x : S_arena_page) : _root_.List Value := [(Value.int .u8 x.xe0), (Value.int .u8 x.xe1), (Value.int .u8 x.xe2), (Value.int .u8 x.xe3), (Value.int .u8 x.xe4), (Value.int .u8 x.xe5), (Value.int .u8 x.xe6), (Value.int .u8 x.xe7), (Value.int .u8 x.xe8), (Value.int .u8 x.xe9), (Value.int .u8 x.xe10), (Value.int .u8 x.xe11), (Value.int .u8 x.xe12), (Value.int .u8 x.xe13), (Value.int .u8 x.xe14), (Value.int .u8 x.xe15), (Value.int .u8 x.xe16), (Value.int .u8 x.xe17), (Value.int .u8 x.xe18), (Value.int .u8 x.xe19), (Value.int .u8 x.xe20), (Value.int .u8 x.xe21), (Value.int .u8 x.xe22), (Value.int .u8 x.xe23), (Value.int .u8 x.xe24), (Value.int .u8 x.xe25), (Value.int .u8 x.xe26), (Value.int .u8 x.xe27), (Value.int .u8 x.xe28), (Value.int .u8 x.xe29), (Value.int .u8 x.xe30), (Value.int .u8 x.xe31), (Value.int .u8 x.xe32), (Value.int .u8 x.xe33), (Value.int .u8 x.xe34), (Value.int .u8 x.xe35), (Value.int .u8 x.xe36), (Value.int .u8 x.xe37), (Value.int .u8 x.xe38), (Value.int .u8 x.xe39), (Value.int .u8 x.xe40), (Value.int .u8 x.xe41), (Value.int .u8 x.xe42), (Value.int .u8 x.xe43), (Value.int .u8 x.xe44), (Value.int .u8 x.xe45), (Value.int .u8 x.xe46), (Value.int .u8 x.xe47), (Value.int .u8 x.xe48), (Value.int .u8 x.xe49), (Value.int .u8 x.xe50), (Value.int .u8 x.xe51), (Value.int .u8 x.xe52), (Value.int .u8 x.xe53), (Value.int .u8 x.xe54), (Value.int .u8 x.xe55), (Value.int .u8 x.xe56), (Value.int .u8 x.xe57), (Value.int .u8 x.xe58), (Value.int .u8 x.xe59), (Value.int .u8 x.xe60), (Value.int .u8 x.xe61), (Value.int .u8 x.xe62), (Value.int .u8 x.xe63)]
def S_arena_page.val (x : S_arena_page) : Value := .agg (S_arena_page.cells x).toArray
def S_arena_page.ty : Ty := tStruct [(tInt .u8), (tInt .u8), (tInt .u8), (tInt .u8), (tInt .u8), (tInt .u8), (tInt .u8), (tInt .u8), (tInt .u8), (tInt .u8), (tInt .u8), (tInt .u8), (tInt .u8), (tInt .u8), (tInt .u8), (tInt .u8), (tInt .u8), (tInt .u8), (tInt .u8), (tInt .u8), (tInt .u8), (tInt .u8), (tInt .u8), (tInt .u8), (tInt .u8), (tInt .u8), (tInt .u8), (tInt .u8), (tInt .u8), (tInt .u8), (tInt .u8), (tInt .u8), (tInt .u8), (tInt .u8), (tInt .u8), (tInt .u8), (tInt .u8), (tInt .u8), (tInt .u8), (tInt .u8), (tInt .u8), (tInt .u8), (tInt .u8), (tInt .u8), (tInt .u8), (tInt .u8), (tInt .u8), (tInt .u8), (tInt .u8), (tInt .u8), (tInt .u8), (tInt .u8), (tInt .u8), (tInt .u8), (tInt .u8), (tInt .u8), (tInt .u8), (tInt .u8), (tInt .u8), (tInt .u8), (tInt .u8), (tInt .u8), (tInt .u8), (tInt .u8)] S_arena_page.val S_arena_page.cells (fun y => ⟨y.1, y.2.1, y.2.2.1, y.2.2.2.1, y.2.2.2.2.1, y.2.2.2.2.2.1, y.2.2.2.2.2.2.1, y.2.2.2.2.2.2.2.1, y.2.2.2.2.2.2.2.2.1, y.2.2.2.2.2.2.2.2.2.1, y.2.2.2.2.2.2.2.2.2.2.1, y.2.2.2.2.2.2.2.2.2.2.2.1, y.2.2.2.2.2.2.2.2.2.2.2.2.1, y.2.2.2.2.2.2.2.2.2.2.2.2.2.1, y.2.2.2.2.2.2.2.2.2.2.2.2.2.2.1, y.2.2.2.2.2.2.2.2.2.2.2.2.2.2.2.1, y.2.2.2.2.2.2.2.2.2.2.2.2.2.2.2.2.1, y.2.2.2.2.2.2.2.2.2.2.2.2.2.2.2.2.2.1, y.2.2.2.2.2.2.2.2.2.2.2.2.2.2.2.2.2.2.1, y.2.2.2.2.2.2.2.2.2.2.2.2.2.2.2.2.2.2.2.1, y.2.2.2.2.2.2.2.2.2.2.2.2.2.2.2.2.2.2.2.2.1, y.2.2.2.2.2.2.2.2.2.2.2.2.2.2.2.2.2.2.2.2.2.1, y.2.2.2.2.2.2.2.2.2.2.2.2.2.2.2.2.2.2.2.2.2.2.1, y.2.2.2.2.2.2.2.2.2.2.2.2.2.2.2.2.2.2.2.2.2.2.2.1, y.2.2.2.2.2.2.2.2.2.2.2.2.2.2.2.2.2.2.2.2.2.2.2.2.1, y.2.2.2.2.2.2.2.2.2.2.2.2.2.2.2.2.2.2.2.2.2.2.2.2.2.1, y.2.2.2.2.2.2.2.2.2.2.2.2.2.2.2.2.2.2.2.2.2.2.2.2.2.2.1, y.2.2.2.2.2.2.2.2.2.2.2.2.2.2.2.2.2.2.2.2.2.2.2.2.2.2.2.1, y.2.2.2.2.2.2.2.2.2.2.2.2.2.2.2.2.2.2.2.2.2.2.2.2.2.2.2.2.1, y.2.2.2.2.2.2.2.2.2.2.2.2.2.2.2.2.2.2.2.2.2.2.2.2.2.2.2.2.2.1, y.2.2.2.2.2.2.2.2.2.2.2.2.2.2.2.2.2.2.2.2.2.2.2.2.2.2.2.2.2.2.1, y.2.2.2.2.2.2.2.2.2.2.2.2.2.2.2.2.2.2.2.2.2.2.2.2.2.2.2.2.2.2.2.1, y.2.2.2.2.2.2.2.2.2.2.2.2.2.2.2.2.2.2.2.2.2.2.2.2.2.2.2.2.2.2.2.2.1, y.2.2.2.2.2.2.2.2.2.2.2.2.2.2.2.2.2.2.2.2.2.2.2.2.2.2.2.2.2.2.2.2.2.1, y.2.2.2.2.2.2.2.2.2.2.2.2.2.2.2.2.2.2.2.2.2.2.2.2.2.2.2.2.2.2.2.2.2.2.1, y.2.2.2.2.2.2.2.2.2.2.2.2.2.2.2.2.2.2.2.2.2.2.2.2.2.2.2.2.2.2.2.2.2.2.2.1, y.2.2.2.2.2.2.2.2.2.2.2.2.2.2.2.2.2.2.2.2.2.2.2.2.2.2.2.2.2.2.2.2.2.2.2.2.1, y.2.2.2.2.2.2.2.2.2.2.2.2.2.2.2.2.2.2.2.2.2.2.2.2.2.2.2.2.2.2.2.2.2.2.2.2.2.1, y.2.2.2.2.2.2.2.2.2.2.2.2.2.2.2.2.2.2.2.2.2.2.2.2.2.2.2.2.2.2.2.2.2.2.2.2.2.2.1, y.2.2.2.2.2.2.2.2.2.2.2.2.2.2.2.2.2.2.2.2.2.2.2.2.2.2.2.2.2.2.2.2.2.2.2.2.2.2.2.1, y.2.2.2.2.2.2.2.2.2.2.2.2.2.2.2.2.2.2.2.2.2.2.2.2.2.2.2.2.2.2.2.2.2.2.2.2.2.2.2.2.1, y.2.2.2.2.2.2.2.2.2.2.2.2.2.2.2.2.2.2.2.2.2.2.2.2.2.2.2.2.2.2.2.2.2.2.2.2.2.2.2.2.2.1, y.2.2.2.2.2.2.2.2.2.2.2.2.2.2.2.2.2.2.2.2.2.2.2.2.2.2.2.2.2.2.2.2.2.2.2.2.2.2.2.2.2.2.1, y.2.2.2.2.2.2.2.2.2.2.2.2.2.2.2.2.2.2.2.2.2.2.2.2.2.2.2.2.2.2.2.2.2.2.2.2.2.2.2.2.2.2.2.1, y.2.2.2.2.2.2.2.2.2.2.2.2.2.2.2.2.2.2.2.2.2.2.2.2.2.2.2.2.2.2.2.2.2.2.2.2.2.2.2.2.2.2.2.2.1, y.2.2.2.2.2.2.2.2.2.2.2.2.2.2.2.2.2.2.2.2.2.2.2.2.2.2.2.2.2.2.2.2.2.2.2.2.2.2.2.2.2.2.2.2.2.1, y.2.2.2.2.2.2.2.2.2.2.2.2.2.2.2.2.2.2.2.2.2.2.2.2.2.2.2.2.2.2.2.2.2.2.2.2.2.2.2.2.2.2.2.2.2.2.1, y.2.2.2.2.2.2.2.2.2.2.2.2.2.2.2.2.2.2.2.2.2.2.2.2.2.2.2.2.2.2.2.2.2.2.2.2.2.2.2.2.2.2.2.2.2.2.2.1, y.2.2.2.2.2.2.2.2.2.2.2.2.2.2.2.2.2.2.2.2.2.2.2.2.2.2.2.2.2.2.2.2.2.2.2.2.2.2.2.2.2.2.2.2.2.2.2.2.1, y.2.2.2.2.2.2.2.2.2.2.2.2.2.2.2.2.2.2.2.2.2.2.2.2.2.2.2.2.2.2.2.2.2.2.2.2.2.2.2.2.2.2.2.2.2.2.2.2.2.1, y.2.2.2.2.2.2.2.2.2.2.2.2.2.2.2.2.2.2.2.2.2.2.2.2.2.2.2.2.2.2.2.2.2.2.2.2.2.2.2.2.2.2.2.2.2.2.2.2.2.2.1, y.2.2.2.2.2.2.2.2.2.2.2.2.2.2.2.2.2.2.2.2.2.2.2.2.2.2.2.2.2.2.2.2.2.2.2.2.2.2.2.2.2.2.2.2.2.2.2.2.2.2.2.1, y.2.2.2.2.2.2.2.2.2.2.2.2.2.2.2.2.2.2.2.2.2.2.2.2.2.2.2.2.2.2.2.2.2.2.2.2.2.2.2.2.2.2.2.2.2.2.2.2.2.2.2.2.1, y.2.2.2.2.2.2.2.2.2.2.2.2.2.2.2.2.2.2.2.2.2.2.2.2.2.2.2.2.2.2.2.2.2.2.2.2.2.2.2.2.2.2.2.2.2.2.2.2.2.2.2.2.2.1, y.2.2.2.2.2.2.2.2.2.2.2.2.2.2.2.2.2.2.2.2.2.2.2.2.2.2.2.2.2.2.2.2.2.2.2.2.2.2.2.2.2.2.2.2.2.2.2.2.2.2.2.2.2.2.1, y.2.2.2.2.2.2.2.2.2.2.2.2.2.2.2.2.2.2.2.2.2.2.2.2.2.2.2.2.2.2.2.2.2.2.2.2.2.2.2.2.2.2.2.2.2.2.2.2.2.2.2.2.2.2.2.1, y.2.2.2.2.2.2.2.2.2.2.2.2.2.2.2.2.2.2.2.2.2.2.2.2.2.2.2.2.2.2.2.2.2.2.2.2.2.2.2.2.2.2.2.2.2.2.2.2.2.2.2.2.2.2.2.2.1, y.2.2.2.2.2.2.2.2.2.2.2.2.2.2.2.2.2.2.2.2.2.2.2.2.2.2.2.2.2.2.2.2.2.2.2.2.2.2.2.2.2.2.2.2.2.2.2.2.2.2.2.2.2.2.2.2.2.1, y.2.2.2.2.2.2.2.2.2.2.2.2.2.2.2.2.2.2.2.2.2.2.2.2.2.2.2.2.2.2.2.2.2.2.2.2.2.2.2.2.2.2.2.2.2.2.2.2.2.2.2.2.2.2.2.2.2.2.1, y.2.2.2.2.2.2.2.2.2.2.2.2.2.2.2.2.2.2.2.2.2.2.2.2.2.2.2.2.2.2.2.2.2.2.2.2.2.2.2.2.2.2.2.2.2.2.2.2.2.2.2.2.2.2.2.2.2.2.2.1, y.2.2.2.2.2.2.2.2.2.2.2.2.2.2.2.2.2.2.2.2.2.2.2.2.2.2.2.2.2.2.2.2.2.2.2.2.2.2.2.2.2.2.2.2.2.2.2.2.2.2.2.2.2.2.2.2.2.2.2.2.1, y.2.2.2.2.2.2.2.2.2.2.2.2.2.2.2.2.2.2.2.2.2.2.2.2.2.2.2.2.2.2.2.2.2.2.2.2.2.2.2.2.2.2.2.2.2.2.2.2.2.2.2.2.2.2.2.2.2.2.2.2.2.1, y.2.2.2.2.2.2.2.2.2.2.2.2.2.2.2.2.2.2.2.2.2.2.2.2.2.2.2.2.2.2.2.2.2.2.2.2.2.2.2.2.2.2.2.2.2.2.2.2.2.2.2.2.2.2.2.2.2.2.2.2.2.2.1, y.2.2.2.2.2.2.2.2.2.2.2.2.2.2.2.2.2.2.2.2.2.2.2.2.2.2.2.2.2.2.2.2.2.2.2.2.2.2.2.2.2.2.2.2.2.2.2.2.2.2.2.2.2.2.2.2.2.2.2.2.2.2.2⟩) (fun _ => rfl) (fun _ => rfl) (fun _ => rfl)
structure S_store_object where
  xsize : Int
  xpages : Sl
def S_store_object.cells (x : S_store_object) : _root_.List Value := [(Value.int .i64 x.xsize), (Sl.val x.xpages)]
def S_store_object.val (x : S_store_object) : Value := .agg (S_store_object.cells x).toArray
def S_store_object.ty : Ty := tStruct [(tInt .i64), tSl] S_store_object.val S_store_object.cells (fun y => ⟨y.1, y.2⟩) (fun _ => rfl) (fun _ => rfl) (fun _ => rfl)
structure S_ref07_Store where
  Objects : Int
  Pages : Int
  L : Sl
  Next : Int
def S_ref07_Store.cells (x : S_ref07_Store) : _root_.List Value := [(Value.int .i64 x.Objects), (Value.int .i64 x.Pages), (Sl.val x.L), (Value.int .i64 x.Next)]
def S_ref07_Store.val (x : S_ref07_Store) : Value := .agg (S_ref07_Store.cells x).toArray
def S_ref07_Store.ty : Ty := tStruct [(tInt .i64), (tInt .i64), tSl, (tInt .i64)] S_ref07_Store.val S_ref07_Store.cells (fun y => ⟨y.1, y.2.1, y.2.2.1, y.2.2.2⟩) (fun _ => rfl) (fun _ => rfl) (fun _ => rfl)
structure S_law07_two where
  S : Option Addr
  Q : Option Addr
def S_law07_two.cells (x : S_law07_two) : _root_.List Value := [(Value.pointer x.S), (Value.pointer x.Q)]
def S_law07_two.val (x : S_law07_two) : Value := .agg (S_law07_two.cells x).toArray
def S_law07_two.ty : Ty := tStruct [tPtr, tPtr] S_law07_two.val S_law07_two.cells (fun y => ⟨y.1, y.2⟩) (fun _ => rfl) (fun _ => rfl) (fun _ => rfl)
structure S_ref07_Object where
  Id : Int
  B : Sl
def S_ref07_Object.cells (x : S_ref07_Object) : _root_.List Value := [(Value.int .i64 x.Id), (Sl.val x.B)]
def S_ref07_Object.val (x : S_ref07_Object) : Value := .agg (S_ref07_Object.cells x).toArray
def S_ref07_Object.ty : Ty := tStruct [(tInt .i64), tSl] S_ref07_Object.val S_ref07_Object.cells (fun y => ⟨y.1, y.2⟩) (fun _ => rfl) (fun _ => rfl) (fun _ => rfl)
structure S_law07_Op where
  Kind : Int
  Which : Int
  Id : Int
  Off : Int
  N : Int
  Data : Sl
def S_law07_Op.cells (x : S_law07_Op) : _root_.List Value := [(Value.int .i64 x.Kind), (Value.int .i64 x.Which), (Value.int .i64 x.Id), (Value.int .i64 x.Off), (Value.int .i64 x.N), (Sl.val x.Data)]
def S_law07_Op.val (x : S_law07_Op) : Value := .agg (S_law07_Op.cells x).toArray
def S_law07_Op.ty : Ty := tStruct [(tInt .i64), (tInt .i64), (tInt .i64), (tInt .i64), (tInt .i64), tSl] S_law07_Op.val S_law07_Op.cells (fun y => ⟨y.1, y.2.1, y.2.2.1, y.2.2.2.1, y.2.2.2.2.1, y.2.2.2.2.2⟩) (fun _ => rfl) (fun _ => rfl) (fun _ => rfl)
structure S_runtime_boundsError where
  xx : Int
  xy : Int
  xsigned : Bool
  xcode : Int
def S_runtime_boundsError.cells (x : S_runtime_boundsError) : _root_.List Value := [(Value.int .i64 x.xx), (Value.int .i64 x.xy), (Value.bool x.xsigned), (Value.int .u8 x.xcode)]
def S_runtime_boundsError.val (x : S_runtime_boundsError) : Value := .agg (S_runtime_boundsError.cells x).toArray
def S_runtime_boundsError.ty : Ty := tStruct [(tInt .i64), (tInt .i64), tBool, (tInt .u8)] S_runtime_boundsError.val S_runtime_boundsError.cells (fun y => ⟨y.1, y.2.1, y.2.2.1, y.2.2.2⟩) (fun _ => rfl) (fun _ => rfl) (fun _ => rfl)
structure S_runtime_errorAddressString where
  xmsg : ByteArray
  xaddr : Int
def S_runtime_errorAddressString.cells (x : S_runtime_errorAddressString) : _root_.List Value := [(Value.string x.xmsg), (Value.int .u64 x.xaddr)]
def S_runtime_errorAddressString.val (x : S_runtime_errorAddressString) : Value := .agg (S_runtime_errorAddressString.cells x).toArray
def S_runtime_errorAddressString.ty : Ty := tStruct [tStr, (tInt .u64)] S_runtime_errorAddressString.val S_runtime_errorAddressString.cells (fun y => ⟨y.1, y.2⟩) (fun _ => rfl) (fun _ => rfl) (fun _ => rfl)
structure S_internal_runtime_maps_unhashableTypeError where
  xtyp : Option Addr
def S_internal_runtime_maps_unhashableTypeError.cells (x : S_internal_runtime_maps_unhashableTypeError) : _root_.List Value := [(Value.pointer x.xtyp)]
def S_internal_runtime_maps_unhashableTypeError.val (x : S_internal_runtime_maps_unhashableTypeError) : Value := .agg (S_internal_runtime_maps_unhashableTypeError.cells x).toArray
def S_internal_runtime_maps_unhashableTypeError.ty : Ty := tStruct [tPtr] S_internal_runtime_maps_unhashableTypeError.val S_internal_runtime_maps_unhashableTypeError.cells (fun y => ⟨y⟩) (fun _ => rfl) (fun _ => rfl) (fun _ => rfl)
structure S_law07_Life where
  Size : Int
  Off : Int
  Data : Sl
  Gone : Bool
def S_law07_Life.cells (x : S_law07_Life) : _root_.List Value := [(Value.int .i64 x.Size), (Value.int .i64 x.Off), (Sl.val x.Data), (Value.bool x.Gone)]
def S_law07_Life.val (x : S_law07_Life) : Value := .agg (S_law07_Life.cells x).toArray
def S_law07_Life.ty : Ty := tStruct [(tInt .i64), (tInt .i64), tSl, tBool] S_law07_Life.val S_law07_Life.cells (fun y => ⟨y.1, y.2.1, y.2.2.1, y.2.2.2⟩) (fun _ => rfl) (fun _ => rfl) (fun _ => rfl)
structure S_runtime_TypeAssertionError where
  x_interface : Option Addr
  xconcrete : Option Addr
  xasserted : Option Addr
  xmissingMethod : ByteArray
def S_runtime_TypeAssertionError.cells (x : S_runtime_TypeAssertionError) : _root_.List Value := [(Value.pointer x.x_interface), (Value.pointer x.xconcrete), (Value.pointer x.xasserted), (Value.string x.xmissingMethod)]
def S_runtime_TypeAssertionError.val (x : S_runtime_TypeAssertionError) : Value := .agg (S_runtime_TypeAssertionError.cells x).toArray
def S_runtime_TypeAssertionError.ty : Ty := tStruct [tPtr, tPtr, tPtr, tStr] S_runtime_TypeAssertionError.val S_runtime_TypeAssertionError.cells (fun y => ⟨y.1, y.2.1, y.2.2.1, y.2.2.2⟩) (fun _ => rfl) (fun _ => rfl) (fun _ => rfl)
structure S_internal_abi_Type where
  Size_ : Int
  PtrBytes : Int
  Hash : Int
  TFlag : Int
  Align_ : Int
  FieldAlign_ : Int
  Kind_ : Int
  Equal : PV
  GCData : Option Addr
  Str : Int
  PtrToThis : Int
def S_internal_abi_Type.cells (x : S_internal_abi_Type) : _root_.List Value := [(Value.int .u64 x.Size_), (Value.int .u64 x.PtrBytes), (Value.int .u32 x.Hash), (Value.int .u8 x.TFlag), (Value.int .u8 x.Align_), (Value.int .u8 x.FieldAlign_), (Value.int .u8 x.Kind_), x.Equal.1, (Value.pointer x.GCData), (Value.int .i32 x.Str), (Value.int .i32 x.PtrToThis)]
def S_internal_abi_Type.val (x : S_internal_abi_Type) : Value := .agg (S_internal_abi_Type.cells x).toArray
def S_internal_abi_Type.ty : Ty := tStruct [(tInt .u64), (tInt .u64), (tInt .u32), (tInt .u8), (tInt .u8), (tInt .u8), (tInt .u8), tPV, tPtr, (tInt .i32), (tInt .i32)] S_internal_abi_Type.val S_internal_abi_Type.cells (fun y => ⟨y.1, y.2.1, y.2.2.1, y.2.2.2.1, y.2.2.2.2.1, y.2.2.2.2.2.1, y.2.2.2.2.2.2.1, y.2.2.2.2.2.2.2.1, y.2.2.2.2.2.2.2.2.1, y.2.2.2.2.2.2.2.2.2.1, y.2.2.2.2.2.2.2.2.2.2⟩) (fun _ => rfl) (fun _ => rfl) (fun _ => rfl)
abbrev N_i64 : Nat := 2
abbrev N_bool : Nat := 4
abbrev N_u8 : Nat := 5
abbrev N_internal_abi_BoundsErrorCode : Nat := 6
abbrev U_internal_abi_BoundsErrorCode := @Try.underlying6
abbrev N_runtime_boundsError : Nat := 8
abbrev U_runtime_boundsError := @Try.underlying8
abbrev N_string : Nat := 9
abbrev N_runtime_errorString : Nat := 10
abbrev U_runtime_errorString := @Try.underlying10
abbrev N_runtime_plainError : Nat := 11
abbrev U_runtime_plainError := @Try.underlying11
abbrev N_u64 : Nat := 12
abbrev N_runtime_errorAddressString : Nat := 14
abbrev U_runtime_errorAddressString := @Try.underlying14
abbrev N_P_runtime_TypeAssertionError : Nat := 15
abbrev N_P_runtime_PanicNilError : Nat := 16
abbrev N_P_internal_abi_Type : Nat := 17
abbrev N_internal_runtime_maps_unhashableTypeError : Nat := 19
abbrev U_internal_runtime_maps_unhashableTypeError := @Try.underlying19
abbrev N_i32 : Nat := 21
abbrev N_api_Config : Nat := 23
abbrev U_api_Config := @Try.underlying23
abbrev N_Sl_api_Object : Nat := 24
abbrev N_Sl_api_Token : Nat := 25
abbrev N_Sl_api_Process : Nat := 26
abbrev N_api_State : Nat := 28
abbrev U_api_State := @Try.underlying28
abbrev N_Sl_u8 : Nat := 30
abbrev N_api_Errno : Nat := 33
abbrev U_api_Errno := @Try.underlying33
abbrev N_Sl_law07_Life : Nat := 44
abbrev N_P_store_Store : Nat := 45
abbrev N_Sl_i64 : Nat := 48
abbrev N_Sl_Sl_u8 : Nat := 49
abbrev N_law07_Life : Nat := 51
abbrev U_law07_Life := @Try.underlying51
abbrev N_Sl_law07_Op : Nat := 61
abbrev N_P_ref07_Store : Nat := 62
abbrev N_law07_two : Nat := 64
abbrev U_law07_two := @Try.underlying64
abbrev N_law07_Op : Nat := 69
abbrev U_law07_Op := @Try.underlying69
abbrev N_Sl_Sl_i64 : Nat := 70
abbrev N_A10_i64 : Nat := 81
abbrev N_u16 : Nat := 84
abbrev N_u32 : Nat := 86
abbrev N_api_Object : Nat := 90
abbrev U_api_Object := @Try.underlying90
abbrev N_api_Word : Nat := 93
abbrev U_api_Word := @Try.underlying93
abbrev N_api_Cap : Nat := 95
abbrev U_api_Cap := @Try.underlying95
abbrev N_api_Token : Nat := 97
abbrev U_api_Token := @Try.underlying97
abbrev N_Sl_api_Cap : Nat := 100
abbrev N_api_Process : Nat := 102
abbrev U_api_Process := @Try.underlying102
abbrev N_P_ref23_Tape : Nat := 105
abbrev N_ref23_Tape : Nat := 107
abbrev U_ref23_Tape := @Try.underlying107
abbrev N_P_image_source : Nat := 112
abbrev N_P_octet_Reader : Nat := 113
abbrev N_image_source : Nat := 116
abbrev U_image_source := @Try.underlying116
abbrev N_P_arena_Arena : Nat := 119
abbrev N_M_i64_store_object : Nat := 122
abbrev N_store_Store : Nat := 124
abbrev U_store_Store := @Try.underlying124
abbrev N_store_object : Nat := 128
abbrev U_store_object := @Try.underlying128
abbrev N_Sl_ref07_Object : Nat := 142
abbrev N_ref07_Store : Nat := 144
abbrev U_ref07_Store := @Try.underlying144
abbrev N_ref07_Object : Nat := 146
abbrev U_ref07_Object := @Try.underlying146
abbrev N_octet_Reader : Nat := 158
abbrev U_octet_Reader := @Try.underlying158
abbrev N_Sl_arena_page : Nat := 161
abbrev N_Sl_bool : Nat := 162
abbrev N_arena_Arena : Nat := 164
abbrev U_arena_Arena := @Try.underlying164
abbrev N_A64_u8 : Nat := 165
abbrev N_arena_page : Nat := 166
abbrev U_arena_page := @Try.underlying166
abbrev N_slices_sortedHint : Nat := 179
abbrev U_slices_sortedHint := @Try.underlying179
abbrev N_slices_xorshift : Nat := 192
abbrev U_slices_xorshift := @Try.underlying192
abbrev N_P_i64 : Nat := 196
abbrev N_P_slices_xorshift : Nat := 199
abbrev N_runtime_TypeAssertionError : Nat := 203
abbrev U_runtime_TypeAssertionError := @Try.underlying203
abbrev N_A0_P_runtime_PanicNilError : Nat := 204
abbrev N_runtime_PanicNilError : Nat := 206
abbrev U_runtime_PanicNilError := @Try.underlying206
abbrev N_internal_abi_TFlag : Nat := 207
abbrev U_internal_abi_TFlag := @Try.underlying207
abbrev N_internal_abi_Kind : Nat := 208
abbrev U_internal_abi_Kind := @Try.underlying208
abbrev N_P_u8 : Nat := 210
abbrev N_internal_abi_NameOff : Nat := 211
abbrev U_internal_abi_NameOff := @Try.underlying211
abbrev N_internal_abi_TypeOff : Nat := 212
abbrev U_internal_abi_TypeOff := @Try.underlying212
abbrev N_internal_abi_Type : Nat := 214
abbrev U_internal_abi_Type := @Try.underlying214
abbrev N_unsafePointer : Nat := 215
def tys : List (Nat × Ty) := [(1, tPV), (2, (tInt .i64)), (3, (tInt .i64)), (4, tBool), (5, (tInt .u8)), (6, (tInt .u8)), (7, S_runtime_boundsError.ty), (8, S_runtime_boundsError.ty), (9, tStr), (10, tStr), (11, tStr), (12, (tInt .u64)), (13, S_runtime_errorAddressString.ty), (14, S_runtime_errorAddressString.ty), (15, tPtr), (16, tPtr), (17, tPtr), (18, S_internal_runtime_maps_unhashableTypeError.ty), (19, S_internal_runtime_maps_unhashableTypeError.ty), (20, tPV), (21, (tInt .i32)), (22, S_api_Config.ty), (23, S_api_Config.ty), (24, tSl), (25, tSl), (26, tSl), (27, S_api_State.ty), (28, S_api_State.ty), (29, tPV), (30, tSl), (32, tPV), (33, (tInt .i64)), (35, tPV), (36, tPV), (37, tPV), (39, tPV), (41, tPV), (42, tPV), (43, tPV), (44, tSl), (45, tPtr), (47, tPV), (48, tSl), (49, tSl), (50, S_law07_Life.ty), (51, S_law07_Life.ty), (53, tPV), (54, tPV), (55, tPV), (56, tPV), (57, tPV), (58, tPV), (59, tPV), (60, tPV), (61, tSl), (62, tPtr), (63, S_law07_two.ty), (64, S_law07_two.ty), (66, tPV), (67, tPV), (68, S_law07_Op.ty), (69, S_law07_Op.ty), (70, tSl), (71, tPV), (72, tPV), (73, tPV), (74, tPV), (75, tPV), (76, tPV), (77, tPV), (78, tPV), (79, tPV), (80, tPV), (81, S_t81.ty), (82, tPV), (83, tPV), (84, (tInt .u16)), (85, tPV), (86, (tInt .u32)), (87, tPV), (88, (tInt .u64)), (89, S_api_Object.ty), (90, S_api_Object.ty), (91, tPV), (92, S_api_Word.ty), (93, S_api_Word.ty), (94, S_api_Cap.ty), (95, S_api_Cap.ty), (96, S_api_Token.ty), (97, S_api_Token.ty), (98, tPV), (99, tPV), (100, tSl), (101, S_api_Process.ty), (102, S_api_Process.ty), (103, tPV), (104, tPV), (105, tPtr), (106, S_ref23_Tape.ty), (107, S_ref23_Tape.ty), (108, tPV), (109, tPV), (110, tPV), (111, tPV), (112, tPtr), (113, tPtr), (114, tPV), (115, S_image_source.ty), (116, S_image_source.ty), (117, tPV), (118, tPV), (119, tPtr), (121, tPV), (122, tMap), (123, S_store_Store.ty), (124, S_store_Store.ty), (126, tPV), (127, S_store_object.ty), (128, S_store_object.ty), (130, tPV), (131, tPV), (132, tPV), (134, tPV), (135, tPV), (137, tPV), (139, tPV), (140, tPV), (141, tPV), (142, tSl), (143, S_ref07_Store.ty), (144, S_ref07_Store.ty), (145, S_ref07_Object.ty), (146, S_ref07_Object.ty), (148, tPV), (149, tPV), (150, tPV), (151, tPV), (152, tPV), (153, tPV), (154, (tInt .u64)), (156, tPV), (157, S_octet_Reader.ty), (158, S_octet_Reader.ty), (159, tPV), (160, tPV), (161, tSl), (162, tSl), (163, S_arena_Arena.ty), (164, S_arena_Arena.ty), (165, S_arena_page.ty), (166, S_arena_page.ty), (167, tPV), (168, tPV), (169, tPV), (170, tPV), (171, tPV), (172, tPV), (173, tPV), (174, tPV), (176, tPV), (177, tPV), (178, tPV), (179, (tInt .i64)), (181, tPV), (182, tPV), (183, tPV), (184, tPV), (185, tPV), (186, tPV), (187, tPV), (189, tPV), (191, tPV), (192, (tInt .u64)), (193, tPV), (194, tPV), (195, tPV), (196, tPtr), (197, tPV), (198, tPV), (199, tPtr), (200, tPV), (201, tPV), (202, S_runtime_TypeAssertionError.ty), (203, S_runtime_TypeAssertionError.ty), (207, (tInt .u8)), (208, (tInt .u8)), (209, tPV), (210, tPtr), (211, (tInt .i32)), (212, (tInt .i32)), (213, S_internal_abi_Type.ty), (214, S_internal_abi_Type.ty)]
theorem callee5 : Callee Try.prog 5 Try.f5 := ⟨Try.func5, by kernel_rfl, by kernel_rfl⟩
theorem callee6 : Callee Try.prog 6 Try.f6 := ⟨Try.func6, by kernel_rfl, by kernel_rfl⟩
theorem callee7 : Callee Try.prog 7 Try.f7 := ⟨Try.func7, by kernel_rfl, by kernel_rfl⟩
theorem callee8 : Callee Try.prog 8 Try.f8 := ⟨Try.func8, by kernel_rfl, by kernel_rfl⟩
theorem callee9 : Callee Try.prog 9 Try.f9 := ⟨Try.func9, by kernel_rfl, by kernel_rfl⟩
theorem callee10 : Callee Try.prog 10 Try.f10 := ⟨Try.func10, by kernel_rfl, by kernel_rfl⟩
theorem callee12 : Callee Try.prog 12 Try.f12 := ⟨Try.func12, by kernel_rfl, by kernel_rfl⟩
theorem callee13 : Callee Try.prog 13 Try.f13 := ⟨Try.func13, by kernel_rfl, by kernel_rfl⟩
theorem callee14 : Callee Try.prog 14 Try.f14 := ⟨Try.func14, by kernel_rfl, by kernel_rfl⟩
theorem callee15 : Callee Try.prog 15 Try.f15 := ⟨Try.func15, by kernel_rfl, by kernel_rfl⟩
theorem callee16 : Callee Try.prog 16 Try.f16 := ⟨Try.func16, by kernel_rfl, by kernel_rfl⟩
theorem callee17 : Callee Try.prog 17 Try.f17 := ⟨Try.func17, by kernel_rfl, by kernel_rfl⟩
theorem callee18 : Callee Try.prog 18 Try.f18 := ⟨Try.func18, by kernel_rfl, by kernel_rfl⟩
theorem callee19 : Callee Try.prog 19 Try.f19 := ⟨Try.func19, by kernel_rfl, by kernel_rfl⟩
theorem callee20 : Callee Try.prog 20 Try.f20 := ⟨Try.func20, by kernel_rfl, by kernel_rfl⟩
theorem callee21 : Callee Try.prog 21 Try.f21 := ⟨Try.func21, by kernel_rfl, by kernel_rfl⟩
theorem callee22 : Callee Try.prog 22 Try.f22 := ⟨Try.func22, by kernel_rfl, by kernel_rfl⟩
theorem callee23 : Callee Try.prog 23 Try.f23 := ⟨Try.func23, by kernel_rfl, by kernel_rfl⟩
theorem callee24 : Callee Try.prog 24 Try.f24 := ⟨Try.func24, by kernel_rfl, by kernel_rfl⟩
theorem callee25 : Callee Try.prog 25 Try.f25 := ⟨Try.func25, by kernel_rfl, by kernel_rfl⟩
theorem callee26 : Callee Try.prog 26 Try.f26 := ⟨Try.func26, by kernel_rfl, by kernel_rfl⟩
theorem callee27 : Callee Try.prog 27 Try.f27 := ⟨Try.func27, by kernel_rfl, by kernel_rfl⟩
theorem callee28 : Callee Try.prog 28 Try.f28 := ⟨Try.func28, by kernel_rfl, by kernel_rfl⟩
theorem callee29 : Callee Try.prog 29 Try.f29 := ⟨Try.func29, by kernel_rfl, by kernel_rfl⟩
theorem callee30 : Callee Try.prog 30 Try.f30 := ⟨Try.func30, by kernel_rfl, by kernel_rfl⟩
theorem callee31 : Callee Try.prog 31 Try.f31 := ⟨Try.func31, by kernel_rfl, by kernel_rfl⟩
theorem callee32 : Callee Try.prog 32 Try.f32 := ⟨Try.func32, by kernel_rfl, by kernel_rfl⟩
theorem callee33 : Callee Try.prog 33 Try.f33 := ⟨Try.func33, by kernel_rfl, by kernel_rfl⟩
theorem callee34 : Callee Try.prog 34 Try.f34 := ⟨Try.func34, by kernel_rfl, by kernel_rfl⟩
theorem callee35 : Callee Try.prog 35 Try.f35 := ⟨Try.func35, by kernel_rfl, by kernel_rfl⟩
theorem callee36 : Callee Try.prog 36 Try.f36 := ⟨Try.func36, by kernel_rfl, by kernel_rfl⟩
theorem callee37 : Callee Try.prog 37 Try.f37 := ⟨Try.func37, by kernel_rfl, by kernel_rfl⟩
theorem callee38 : Callee Try.prog 38 Try.f38 := ⟨Try.func38, by kernel_rfl, by kernel_rfl⟩
theorem callee39 : Callee Try.prog 39 Try.f39 := ⟨Try.func39, by kernel_rfl, by kernel_rfl⟩
theorem callee40 : Callee Try.prog 40 Try.f40 := ⟨Try.func40, by kernel_rfl, by kernel_rfl⟩
theorem callee41 : Callee Try.prog 41 Try.f41 := ⟨Try.func41, by kernel_rfl, by kernel_rfl⟩
theorem callee42 : Callee Try.prog 42 Try.f42 := ⟨Try.func42, by kernel_rfl, by kernel_rfl⟩
theorem callee43 : Callee Try.prog 43 Try.f43 := ⟨Try.func43, by kernel_rfl, by kernel_rfl⟩
theorem callee44 : Callee Try.prog 44 Try.f44 := ⟨Try.func44, by kernel_rfl, by kernel_rfl⟩
theorem callee45 : Callee Try.prog 45 Try.f45 := ⟨Try.func45, by kernel_rfl, by kernel_rfl⟩
theorem callee46 : Callee Try.prog 46 Try.f46 := ⟨Try.func46, by kernel_rfl, by kernel_rfl⟩
theorem callee47 : Callee Try.prog 47 Try.f47 := ⟨Try.func47, by kernel_rfl, by kernel_rfl⟩
theorem callee48 : Callee Try.prog 48 Try.f48 := ⟨Try.func48, by kernel_rfl, by kernel_rfl⟩
theorem callee50 : Callee Try.prog 50 Try.f50 := ⟨Try.func50, by kernel_rfl, by kernel_rfl⟩
theorem callee51 : Callee Try.prog 51 Try.f51 := ⟨Try.func51, by kernel_rfl, by kernel_rfl⟩
theorem callee52 : Callee Try.prog 52 Try.f52 := ⟨Try.func52, by kernel_rfl, by kernel_rfl⟩
theorem callee53 : Callee Try.prog 53 Try.f53 := ⟨Try.func53, by kernel_rfl, by kernel_rfl⟩
theorem callee54 : Callee Try.prog 54 Try.f54 := ⟨Try.func54, by kernel_rfl, by kernel_rfl⟩
theorem callee55 : Callee Try.prog 55 Try.f55 := ⟨Try.func55, by kernel_rfl, by kernel_rfl⟩
theorem callee56 : Callee Try.prog 56 Try.f56 := ⟨Try.func56, by kernel_rfl, by kernel_rfl⟩
theorem callee57 : Callee Try.prog 57 Try.f57 := ⟨Try.func57, by kernel_rfl, by kernel_rfl⟩
theorem callee58 : Callee Try.prog 58 Try.f58 := ⟨Try.func58, by kernel_rfl, by kernel_rfl⟩
theorem callee59 : Callee Try.prog 59 Try.f59 := ⟨Try.func59, by kernel_rfl, by kernel_rfl⟩
theorem callee60 : Callee Try.prog 60 Try.f60 := ⟨Try.func60, by kernel_rfl, by kernel_rfl⟩
theorem callee61 : Callee Try.prog 61 Try.f61 := ⟨Try.func61, by kernel_rfl, by kernel_rfl⟩
theorem callee62 : Callee Try.prog 62 Try.f62 := ⟨Try.func62, by kernel_rfl, by kernel_rfl⟩
theorem callee63 : Callee Try.prog 63 Try.f63 := ⟨Try.func63, by kernel_rfl, by kernel_rfl⟩
theorem callee64 : Callee Try.prog 64 Try.f64 := ⟨Try.func64, by kernel_rfl, by kernel_rfl⟩
theorem callee65 : Callee Try.prog 65 Try.f65 := ⟨Try.func65, by kernel_rfl, by kernel_rfl⟩
theorem callee66 : Callee Try.prog 66 Try.f66 := ⟨Try.func66, by kernel_rfl, by kernel_rfl⟩
theorem callee67 : Callee Try.prog 67 Try.f67 := ⟨Try.func67, by kernel_rfl, by kernel_rfl⟩
theorem callee68 : Callee Try.prog 68 Try.f68 := ⟨Try.func68, by kernel_rfl, by kernel_rfl⟩
theorem callee69 : Callee Try.prog 69 Try.f69 := ⟨Try.func69, by kernel_rfl, by kernel_rfl⟩
theorem callee70 : Callee Try.prog 70 Try.f70 := ⟨Try.func70, by kernel_rfl, by kernel_rfl⟩
theorem callee71 : Callee Try.prog 71 Try.f71 := ⟨Try.func71, by kernel_rfl, by kernel_rfl⟩
theorem callee72 : Callee Try.prog 72 Try.f72 := ⟨Try.func72, by kernel_rfl, by kernel_rfl⟩
theorem callee73 : Callee Try.prog 73 Try.f73 := ⟨Try.func73, by kernel_rfl, by kernel_rfl⟩
theorem callee74 : Callee Try.prog 74 Try.f74 := ⟨Try.func74, by kernel_rfl, by kernel_rfl⟩
theorem callee75 : Callee Try.prog 75 Try.f75 := ⟨Try.func75, by kernel_rfl, by kernel_rfl⟩
theorem callee76 : Callee Try.prog 76 Try.f76 := ⟨Try.func76, by kernel_rfl, by kernel_rfl⟩
theorem callee77 : Callee Try.prog 77 Try.f77 := ⟨Try.func77, by kernel_rfl, by kernel_rfl⟩
theorem callee78 : Callee Try.prog 78 Try.f78 := ⟨Try.func78, by kernel_rfl, by kernel_rfl⟩
theorem callee79 : Callee Try.prog 79 Try.f79 := ⟨Try.func79, by kernel_rfl, by kernel_rfl⟩
theorem callee80 : Callee Try.prog 80 Try.f80 := ⟨Try.func80, by kernel_rfl, by kernel_rfl⟩
theorem callee81 : Callee Try.prog 81 Try.f81 := ⟨Try.func81, by kernel_rfl, by kernel_rfl⟩
theorem callee82 : Callee Try.prog 82 Try.f82 := ⟨Try.func82, by kernel_rfl, by kernel_rfl⟩
theorem callee83 : Callee Try.prog 83 Try.f83 := ⟨Try.func83, by kernel_rfl, by kernel_rfl⟩
theorem callee84 : Callee Try.prog 84 Try.f84 := ⟨Try.func84, by kernel_rfl, by kernel_rfl⟩
theorem callee85 : Callee Try.prog 85 Try.f85 := ⟨Try.func85, by kernel_rfl, by kernel_rfl⟩
theorem callee86 : Callee Try.prog 86 Try.f86 := ⟨Try.func86, by kernel_rfl, by kernel_rfl⟩
theorem callee87 : Callee Try.prog 87 Try.f87 := ⟨Try.func87, by kernel_rfl, by kernel_rfl⟩
theorem callee88 : Callee Try.prog 88 Try.f88 := ⟨Try.func88, by kernel_rfl, by kernel_rfl⟩
theorem callee89 : Callee Try.prog 89 Try.f89 := ⟨Try.func89, by kernel_rfl, by kernel_rfl⟩
theorem callee90 : Callee Try.prog 90 Try.f90 := ⟨Try.func90, by kernel_rfl, by kernel_rfl⟩
theorem callee91 : Callee Try.prog 91 Try.f91 := ⟨Try.func91, by kernel_rfl, by kernel_rfl⟩
theorem callee92 : Callee Try.prog 92 Try.f92 := ⟨Try.func92, by kernel_rfl, by kernel_rfl⟩
theorem callee93 : Callee Try.prog 93 Try.f93 := ⟨Try.func93, by kernel_rfl, by kernel_rfl⟩
theorem callee94 : Callee Try.prog 94 Try.f94 := ⟨Try.func94, by kernel_rfl, by kernel_rfl⟩
theorem callee95 : Callee Try.prog 95 Try.f95 := ⟨Try.func95, by kernel_rfl, by kernel_rfl⟩
theorem callee96 : Callee Try.prog 96 Try.f96 := ⟨Try.func96, by kernel_rfl, by kernel_rfl⟩
theorem callee97 : Callee Try.prog 97 Try.f97 := ⟨Try.func97, by kernel_rfl, by kernel_rfl⟩
theorem callee98 : Callee Try.prog 98 Try.f98 := ⟨Try.func98, by kernel_rfl, by kernel_rfl⟩
theorem callee99 : Callee Try.prog 99 Try.f99 := ⟨Try.func99, by kernel_rfl, by kernel_rfl⟩
theorem callee100 : Callee Try.prog 100 Try.f100 := ⟨Try.func100, by kernel_rfl, by kernel_rfl⟩
theorem callee101 : Callee Try.prog 101 Try.f101 := ⟨Try.func101, by kernel_rfl, by kernel_rfl⟩
theorem callee102 : Callee Try.prog 102 Try.f102 := ⟨Try.func102, by kernel_rfl, by kernel_rfl⟩
theorem callee103 : Callee Try.prog 103 Try.f103 := ⟨Try.func103, by kernel_rfl, by kernel_rfl⟩
theorem callee104 : Callee Try.prog 104 Try.f104 := ⟨Try.func104, by kernel_rfl, by kernel_rfl⟩
theorem callee105 : Callee Try.prog 105 Try.f105 := ⟨Try.func105, by kernel_rfl, by kernel_rfl⟩
theorem callee106 : Callee Try.prog 106 Try.f106 := ⟨Try.func106, by kernel_rfl, by kernel_rfl⟩
theorem callee107 : Callee Try.prog 107 Try.f107 := ⟨Try.func107, by kernel_rfl, by kernel_rfl⟩
theorem callee108 : Callee Try.prog 108 Try.f108 := ⟨Try.func108, by kernel_rfl, by kernel_rfl⟩
theorem callee109 : Callee Try.prog 109 Try.f109 := ⟨Try.func109, by kernel_rfl, by kernel_rfl⟩
theorem callee110 : Callee Try.prog 110 Try.f110 := ⟨Try.func110, by kernel_rfl, by kernel_rfl⟩
theorem callee111 : Callee Try.prog 111 Try.f111 := ⟨Try.func111, by kernel_rfl, by kernel_rfl⟩
theorem callee112 : Callee Try.prog 112 Try.f112 := ⟨Try.func112, by kernel_rfl, by kernel_rfl⟩
theorem callee113 : Callee Try.prog 113 Try.f113 := ⟨Try.func113, by kernel_rfl, by kernel_rfl⟩
theorem callee114 : Callee Try.prog 114 Try.f114 := ⟨Try.func114, by kernel_rfl, by kernel_rfl⟩
theorem callee115 : Callee Try.prog 115 Try.f115 := ⟨Try.func115, by kernel_rfl, by kernel_rfl⟩
theorem callee116 : Callee Try.prog 116 Try.f116 := ⟨Try.func116, by kernel_rfl, by kernel_rfl⟩
theorem callee117 : Callee Try.prog 117 Try.f117 := ⟨Try.func117, by kernel_rfl, by kernel_rfl⟩
theorem callee118 : Callee Try.prog 118 Try.f118 := ⟨Try.func118, by kernel_rfl, by kernel_rfl⟩
theorem callee119 : Callee Try.prog 119 Try.f119 := ⟨Try.func119, by kernel_rfl, by kernel_rfl⟩
theorem callee120 : Callee Try.prog 120 Try.f120 := ⟨Try.func120, by kernel_rfl, by kernel_rfl⟩
theorem callee121 : Callee Try.prog 121 Try.f121 := ⟨Try.func121, by kernel_rfl, by kernel_rfl⟩
theorem callee122 : Callee Try.prog 122 Try.f122 := ⟨Try.func122, by kernel_rfl, by kernel_rfl⟩
theorem callee123 : Callee Try.prog 123 Try.f123 := ⟨Try.func123, by kernel_rfl, by kernel_rfl⟩
theorem callee124 : Callee Try.prog 124 Try.f124 := ⟨Try.func124, by kernel_rfl, by kernel_rfl⟩
theorem callee125 : Callee Try.prog 125 Try.f125 := ⟨Try.func125, by kernel_rfl, by kernel_rfl⟩
theorem callee126 : Callee Try.prog 126 Try.f126 := ⟨Try.func126, by kernel_rfl, by kernel_rfl⟩
theorem callee127 : Callee Try.prog 127 Try.f127 := ⟨Try.func127, by kernel_rfl, by kernel_rfl⟩
theorem callee128 : Callee Try.prog 128 Try.f128 := ⟨Try.func128, by kernel_rfl, by kernel_rfl⟩
theorem callee129 : Callee Try.prog 129 Try.f129 := ⟨Try.func129, by kernel_rfl, by kernel_rfl⟩
theorem callee130 : Callee Try.prog 130 Try.f130 := ⟨Try.func130, by kernel_rfl, by kernel_rfl⟩
theorem callee131 : Callee Try.prog 131 Try.f131 := ⟨Try.func131, by kernel_rfl, by kernel_rfl⟩
theorem callee132 : Callee Try.prog 132 Try.f132 := ⟨Try.func132, by kernel_rfl, by kernel_rfl⟩
theorem callee133 : Callee Try.prog 133 Try.f133 := ⟨Try.func133, by kernel_rfl, by kernel_rfl⟩
theorem callee134 : Callee Try.prog 134 Try.f134 := ⟨Try.func134, by kernel_rfl, by kernel_rfl⟩
theorem callee135 : Callee Try.prog 135 Try.f135 := ⟨Try.func135, by kernel_rfl, by kernel_rfl⟩
theorem callee136 : Callee Try.prog 136 Try.f136 := ⟨Try.func136, by kernel_rfl, by kernel_rfl⟩
theorem callee137 : Callee Try.prog 137 Try.f137 := ⟨Try.func137, by kernel_rfl, by kernel_rfl⟩
theorem callee138 : Callee Try.prog 138 Try.f138 := ⟨Try.func138, by kernel_rfl, by kernel_rfl⟩
theorem callee139 : Callee Try.prog 139 Try.f139 := ⟨Try.func139, by kernel_rfl, by kernel_rfl⟩
theorem callee140 : Callee Try.prog 140 Try.f140 := ⟨Try.func140, by kernel_rfl, by kernel_rfl⟩
theorem callee141 : Callee Try.prog 141 Try.f141 := ⟨Try.func141, by kernel_rfl, by kernel_rfl⟩
theorem callee142 : Callee Try.prog 142 Try.f142 := ⟨Try.func142, by kernel_rfl, by kernel_rfl⟩
theorem callee143 : Callee Try.prog 143 Try.f143 := ⟨Try.func143, by kernel_rfl, by kernel_rfl⟩
theorem callee144 : Callee Try.prog 144 Try.f144 := ⟨Try.func144, by kernel_rfl, by kernel_rfl⟩
theorem callee145 : Callee Try.prog 145 Try.f145 := ⟨Try.func145, by kernel_rfl, by kernel_rfl⟩
theorem callee146 : Callee Try.prog 146 Try.f146 := ⟨Try.func146, by kernel_rfl, by kernel_rfl⟩
theorem callee147 : Callee Try.prog 147 Try.f147 := ⟨Try.func147, by kernel_rfl, by kernel_rfl⟩
end Go.Proofs.Yteeaelemfalkbaa.K
