/- Types and functions of the program, as the printed functions need them. -/
import Derived.Test.YtiajjcboddaenaaProg
import Derived.Test.YtiajjcboddaenaaQ7
import Derived.KernelRfl
namespace Go.Proofs.Ytiajjcboddaenaa.K
open Go Go.Proofs
theorem mixed : Try.prog.follows .mixedOrders = true := by kernel_rfl
structure S_book_Book where
  xsteps : Int
  xlive : Option Nat
  xlists : Option Nat
  xways : Option Nat
  xknown : Option Nat
  xbytes : Option Nat
def S_book_Book.cells (x : S_book_Book) : _root_.List Value := [(Value.int .i64 x.xsteps), (Value.map x.xlive), (Value.map x.xlists), (Value.map x.xways), (Value.map x.xknown), (Value.map x.xbytes)]
def S_book_Book.val (x : S_book_Book) : Value := .agg (S_book_Book.cells x).toArray
def S_book_Book.ty : Ty := tStruct [(tInt .i64), tMap, tMap, tMap, tMap, tMap] S_book_Book.val S_book_Book.cells (fun y => ⟨y.1, y.2.1, y.2.2.1, y.2.2.2.1, y.2.2.2.2.1, y.2.2.2.2.2⟩) (fun _ => rfl) (fun _ => rfl) (fun _ => rfl)
structure S_api_Word where
  Hi : Int
  Lo : Int
def S_api_Word.cells (x : S_api_Word) : _root_.List Value := [(Value.int .u64 x.Hi), (Value.int .u64 x.Lo)]
def S_api_Word.val (x : S_api_Word) : Value := .agg (S_api_Word.cells x).toArray
def S_api_Word.ty : Ty := tStruct [(tInt .u64), (tInt .u64)] S_api_Word.val S_api_Word.cells (fun y => ⟨y.1, y.2⟩) (fun _ => rfl) (fun _ => rfl) (fun _ => rfl)
structure S_api_Cap where
  Obj : Int
  Pass : S_api_Word
def S_api_Cap.cells (x : S_api_Cap) : _root_.List Value := [(Value.int .i64 x.Obj), (Value.int .u64 x.Pass.Hi), (Value.int .u64 x.Pass.Lo)]
def S_api_Cap.val (x : S_api_Cap) : Value := .agg (S_api_Cap.cells x).toArray
def S_api_Cap.ty : Ty := tStruct [(tInt .i64), (tInt .u64), (tInt .u64)] S_api_Cap.val S_api_Cap.cells (fun y => ⟨y.1, ⟨y.2.1, y.2.2⟩⟩) (fun _ => rfl) (fun _ => rfl) (fun _ => rfl)
structure S_book_whom where
  xproc : Int
  xc : S_api_Cap
def S_book_whom.cells (x : S_book_whom) : _root_.List Value := [(Value.int .i64 x.xproc), (Value.int .i64 x.xc.Obj), (Value.int .u64 x.xc.Pass.Hi), (Value.int .u64 x.xc.Pass.Lo)]
def S_book_whom.val (x : S_book_whom) : Value := .agg (S_book_whom.cells x).toArray
def S_book_whom.ty : Ty := tStruct [(tInt .i64), (tInt .i64), (tInt .u64), (tInt .u64)] S_book_whom.val S_book_whom.cells (fun y => ⟨y.1, ⟨y.2.1, ⟨y.2.2.1, y.2.2.2⟩⟩⟩) (fun _ => rfl) (fun _ => rfl) (fun _ => rfl)
structure S_book_Link where
  Step : Int
  Kind : Int
  By : Int
  To : Int
  Cap : S_api_Cap
def S_book_Link.cells (x : S_book_Link) : _root_.List Value := [(Value.int .i64 x.Step), (Value.int .i64 x.Kind), (Value.int .i64 x.By), (Value.int .i64 x.To), (Value.int .i64 x.Cap.Obj), (Value.int .u64 x.Cap.Pass.Hi), (Value.int .u64 x.Cap.Pass.Lo)]
def S_book_Link.val (x : S_book_Link) : Value := .agg (S_book_Link.cells x).toArray
def S_book_Link.ty : Ty := tStruct [(tInt .i64), (tInt .i64), (tInt .i64), (tInt .i64), (tInt .i64), (tInt .u64), (tInt .u64)] S_book_Link.val S_book_Link.cells (fun y => ⟨y.1, y.2.1, y.2.2.1, y.2.2.2.1, ⟨y.2.2.2.2.1, ⟨y.2.2.2.2.2.1, y.2.2.2.2.2.2⟩⟩⟩) (fun _ => rfl) (fun _ => rfl) (fun _ => rfl)
structure S_book_token where
  xrights : Int
  xparent : S_api_Cap
  xroot : Bool
def S_book_token.cells (x : S_book_token) : _root_.List Value := [(Value.int .i64 x.xrights), (Value.int .i64 x.xparent.Obj), (Value.int .u64 x.xparent.Pass.Hi), (Value.int .u64 x.xparent.Pass.Lo), (Value.bool x.xroot)]
def S_book_token.val (x : S_book_token) : Value := .agg (S_book_token.cells x).toArray
def S_book_token.ty : Ty := tStruct [(tInt .i64), (tInt .i64), (tInt .u64), (tInt .u64), tBool] S_book_token.val S_book_token.cells (fun y => ⟨y.1, ⟨y.2.1, ⟨y.2.2.1, y.2.2.2.1⟩⟩, y.2.2.2.2⟩) (fun _ => rfl) (fun _ => rfl) (fun _ => rfl)
structure S_book_laid where
  xby : Int
  xc : S_api_Cap
  xway : Sl
def S_book_laid.cells (x : S_book_laid) : _root_.List Value := [(Value.int .i64 x.xby), (Value.int .i64 x.xc.Obj), (Value.int .u64 x.xc.Pass.Hi), (Value.int .u64 x.xc.Pass.Lo), (Sl.val x.xway)]
def S_book_laid.val (x : S_book_laid) : Value := .agg (S_book_laid.cells x).toArray
def S_book_laid.ty : Ty := tStruct [(tInt .i64), (tInt .i64), (tInt .u64), (tInt .u64), tSl] S_book_laid.val S_book_laid.cells (fun y => ⟨y.1, ⟨y.2.1, ⟨y.2.2.1, y.2.2.2.1⟩⟩, y.2.2.2.2⟩) (fun _ => rfl) (fun _ => rfl) (fun _ => rfl)
structure S_api_Call where
  Op : Int
  By : Int
  Size : Int
  Cap : S_api_Cap
  Given : Bool
  Rights : Int
  Off : Int
  N : Int
  Data : Sl
  Index : Int
  Gifts : Sl
def S_api_Call.cells (x : S_api_Call) : _root_.List Value := [(Value.int .i64 x.Op), (Value.int .i64 x.By), (Value.int .i64 x.Size), (Value.int .i64 x.Cap.Obj), (Value.int .u64 x.Cap.Pass.Hi), (Value.int .u64 x.Cap.Pass.Lo), (Value.bool x.Given), (Value.int .i64 x.Rights), (Value.int .i64 x.Off), (Value.int .i64 x.N), (Sl.val x.Data), (Value.int .i64 x.Index), (Sl.val x.Gifts)]
def S_api_Call.val (x : S_api_Call) : Value := .agg (S_api_Call.cells x).toArray
def S_api_Call.ty : Ty := tStruct [(tInt .i64), (tInt .i64), (tInt .i64), (tInt .i64), (tInt .u64), (tInt .u64), tBool, (tInt .i64), (tInt .i64), (tInt .i64), tSl, (tInt .i64), tSl] S_api_Call.val S_api_Call.cells (fun y => ⟨y.1, y.2.1, y.2.2.1, ⟨y.2.2.2.1, ⟨y.2.2.2.2.1, y.2.2.2.2.2.1⟩⟩, y.2.2.2.2.2.2.1, y.2.2.2.2.2.2.2.1, y.2.2.2.2.2.2.2.2.1, y.2.2.2.2.2.2.2.2.2.1, y.2.2.2.2.2.2.2.2.2.2.1, y.2.2.2.2.2.2.2.2.2.2.2.1, y.2.2.2.2.2.2.2.2.2.2.2.2⟩) (fun _ => rfl) (fun _ => rfl) (fun _ => rfl)
structure S_api_Reply where
  Code : Int
  Cap : S_api_Cap
  Data : Sl
  Number : Int
def S_api_Reply.cells (x : S_api_Reply) : _root_.List Value := [(Value.int .i64 x.Code), (Value.int .i64 x.Cap.Obj), (Value.int .u64 x.Cap.Pass.Hi), (Value.int .u64 x.Cap.Pass.Lo), (Sl.val x.Data), (Value.int .i64 x.Number)]
def S_api_Reply.val (x : S_api_Reply) : Value := .agg (S_api_Reply.cells x).toArray
def S_api_Reply.ty : Ty := tStruct [(tInt .i64), (tInt .i64), (tInt .u64), (tInt .u64), tSl, (tInt .i64)] S_api_Reply.val S_api_Reply.cells (fun y => ⟨y.1, ⟨y.2.1, ⟨y.2.2.1, y.2.2.2.1⟩⟩, y.2.2.2.2.1, y.2.2.2.2.2⟩) (fun _ => rfl) (fun _ => rfl) (fun _ => rfl)
structure S_api_Config where
  Width : Int
  Objects : Int
  Pages : Int
  Entries : Int
  Quota : Int
  Procs : Int
  List : Int
  Sets : Int
  Ways : Int
  Knob : Int
def S_api_Config.cells (x : S_api_Config) : _root_.List Value := [(Value.int .i64 x.Width), (Value.int .i64 x.Objects), (Value.int .i64 x.Pages), (Value.int .i64 x.Entries), (Value.int .i64 x.Quota), (Value.int .i64 x.Procs), (Value.int .i64 x.List), (Value.int .i64 x.Sets), (Value.int .i64 x.Ways), (Value.int .i64 x.Knob)]
def S_api_Config.val (x : S_api_Config) : Value := .agg (S_api_Config.cells x).toArray
def S_api_Config.ty : Ty := tStruct [(tInt .i64), (tInt .i64), (tInt .i64), (tInt .i64), (tInt .i64), (tInt .i64), (tInt .i64), (tInt .i64), (tInt .i64), (tInt .i64)] S_api_Config.val S_api_Config.cells (fun y => ⟨y.1, y.2.1, y.2.2.1, y.2.2.2.1, y.2.2.2.2.1, y.2.2.2.2.2.1, y.2.2.2.2.2.2.1, y.2.2.2.2.2.2.2.1, y.2.2.2.2.2.2.2.2.1, y.2.2.2.2.2.2.2.2.2⟩) (fun _ => rfl) (fun _ => rfl) (fun _ => rfl)
structure S_api_Process where
  Number : Int
  List : Sl
def S_api_Process.cells (x : S_api_Process) : _root_.List Value := [(Value.int .i64 x.Number), (Sl.val x.List)]
def S_api_Process.val (x : S_api_Process) : Value := .agg (S_api_Process.cells x).toArray
def S_api_Process.ty : Ty := tStruct [(tInt .i64), tSl] S_api_Process.val S_api_Process.cells (fun y => ⟨y.1, y.2⟩) (fun _ => rfl) (fun _ => rfl) (fun _ => rfl)
structure S_ref21_Model where
  C : S_api_Config
  Draws : Sl
  Taken : Int
  Objects : Sl
  Tokens : Sl
  Procs : Sl
  NextId : Int
  NextProc : Int
  NextNo : Int
def S_ref21_Model.cells (x : S_ref21_Model) : _root_.List Value := [(Value.int .i64 x.C.Width), (Value.int .i64 x.C.Objects), (Value.int .i64 x.C.Pages), (Value.int .i64 x.C.Entries), (Value.int .i64 x.C.Quota), (Value.int .i64 x.C.Procs), (Value.int .i64 x.C.List), (Value.int .i64 x.C.Sets), (Value.int .i64 x.C.Ways), (Value.int .i64 x.C.Knob), (Sl.val x.Draws), (Value.int .i64 x.Taken), (Sl.val x.Objects), (Sl.val x.Tokens), (Sl.val x.Procs), (Value.int .i64 x.NextId), (Value.int .i64 x.NextProc), (Value.int .i64 x.NextNo)]
def S_ref21_Model.val (x : S_ref21_Model) : Value := .agg (S_ref21_Model.cells x).toArray
def S_ref21_Model.ty : Ty := tStruct [(tInt .i64), (tInt .i64), (tInt .i64), (tInt .i64), (tInt .i64), (tInt .i64), (tInt .i64), (tInt .i64), (tInt .i64), (tInt .i64), tSl, (tInt .i64), tSl, tSl, tSl, (tInt .i64), (tInt .i64), (tInt .i64)] S_ref21_Model.val S_ref21_Model.cells (fun y => ⟨⟨y.1, y.2.1, y.2.2.1, y.2.2.2.1, y.2.2.2.2.1, y.2.2.2.2.2.1, y.2.2.2.2.2.2.1, y.2.2.2.2.2.2.2.1, y.2.2.2.2.2.2.2.2.1, y.2.2.2.2.2.2.2.2.2.1⟩, y.2.2.2.2.2.2.2.2.2.2.1, y.2.2.2.2.2.2.2.2.2.2.2.1, y.2.2.2.2.2.2.2.2.2.2.2.2.1, y.2.2.2.2.2.2.2.2.2.2.2.2.2.1, y.2.2.2.2.2.2.2.2.2.2.2.2.2.2.1, y.2.2.2.2.2.2.2.2.2.2.2.2.2.2.2.1, y.2.2.2.2.2.2.2.2.2.2.2.2.2.2.2.2.1, y.2.2.2.2.2.2.2.2.2.2.2.2.2.2.2.2.2⟩) (fun _ => rfl) (fun _ => rfl) (fun _ => rfl)
structure S_ref24_List where
  Proc : Int
  L : Sl
def S_ref24_List.cells (x : S_ref24_List) : _root_.List Value := [(Value.int .i64 x.Proc), (Sl.val x.L)]
def S_ref24_List.val (x : S_ref24_List) : Value := .agg (S_ref24_List.cells x).toArray
def S_ref24_List.ty : Ty := tStruct [(tInt .i64), tSl] S_ref24_List.val S_ref24_List.cells (fun y => ⟨y.1, y.2⟩) (fun _ => rfl) (fun _ => rfl) (fun _ => rfl)
structure S_ref24_Book where
  Step : Int
  Tells : Sl
  Tokens : Sl
  Lists : Sl
  Objects : Sl
def S_ref24_Book.cells (x : S_ref24_Book) : _root_.List Value := [(Value.int .i64 x.Step), (Sl.val x.Tells), (Sl.val x.Tokens), (Sl.val x.Lists), (Sl.val x.Objects)]
def S_ref24_Book.val (x : S_ref24_Book) : Value := .agg (S_ref24_Book.cells x).toArray
def S_ref24_Book.ty : Ty := tStruct [(tInt .i64), tSl, tSl, tSl, tSl] S_ref24_Book.val S_ref24_Book.cells (fun y => ⟨y.1, y.2.1, y.2.2.1, y.2.2.2.1, y.2.2.2.2⟩) (fun _ => rfl) (fun _ => rfl) (fun _ => rfl)
structure S_api_Object where
  Id : Int
  Bytes : Sl
def S_api_Object.cells (x : S_api_Object) : _root_.List Value := [(Value.int .i64 x.Id), (Sl.val x.Bytes)]
def S_api_Object.val (x : S_api_Object) : Value := .agg (S_api_Object.cells x).toArray
def S_api_Object.ty : Ty := tStruct [(tInt .i64), tSl] S_api_Object.val S_api_Object.cells (fun y => ⟨y.1, y.2⟩) (fun _ => rfl) (fun _ => rfl) (fun _ => rfl)
structure S_ref21_Held where
  No : Int
  Up : Int
  Cap : S_api_Cap
  Rights : Int
def S_ref21_Held.cells (x : S_ref21_Held) : _root_.List Value := [(Value.int .i64 x.No), (Value.int .i64 x.Up), (Value.int .i64 x.Cap.Obj), (Value.int .u64 x.Cap.Pass.Hi), (Value.int .u64 x.Cap.Pass.Lo), (Value.int .i64 x.Rights)]
def S_ref21_Held.val (x : S_ref21_Held) : Value := .agg (S_ref21_Held.cells x).toArray
def S_ref21_Held.ty : Ty := tStruct [(tInt .i64), (tInt .i64), (tInt .i64), (tInt .u64), (tInt .u64), (tInt .i64)] S_ref21_Held.val S_ref21_Held.cells (fun y => ⟨y.1, y.2.1, ⟨y.2.2.1, ⟨y.2.2.2.1, y.2.2.2.2.1⟩⟩, y.2.2.2.2.2⟩) (fun _ => rfl) (fun _ => rfl) (fun _ => rfl)
structure S_ref24_Telling where
  L : S_book_Link
  From : Int
def S_ref24_Telling.cells (x : S_ref24_Telling) : _root_.List Value := [(Value.int .i64 x.L.Step), (Value.int .i64 x.L.Kind), (Value.int .i64 x.L.By), (Value.int .i64 x.L.To), (Value.int .i64 x.L.Cap.Obj), (Value.int .u64 x.L.Cap.Pass.Hi), (Value.int .u64 x.L.Cap.Pass.Lo), (Value.int .i64 x.From)]
def S_ref24_Telling.val (x : S_ref24_Telling) : Value := .agg (S_ref24_Telling.cells x).toArray
def S_ref24_Telling.ty : Ty := tStruct [(tInt .i64), (tInt .i64), (tInt .i64), (tInt .i64), (tInt .i64), (tInt .u64), (tInt .u64), (tInt .i64)] S_ref24_Telling.val S_ref24_Telling.cells (fun y => ⟨⟨y.1, y.2.1, y.2.2.1, y.2.2.2.1, ⟨y.2.2.2.2.1, ⟨y.2.2.2.2.2.1, y.2.2.2.2.2.2.1⟩⟩⟩, y.2.2.2.2.2.2.2⟩) (fun _ => rfl) (fun _ => rfl) (fun _ => rfl)
structure S_ref24_Token where
  C : S_api_Cap
  Parent : S_api_Cap
  Root : Bool
  Rights : Int
def S_ref24_Token.cells (x : S_ref24_Token) : _root_.List Value := [(Value.int .i64 x.C.Obj), (Value.int .u64 x.C.Pass.Hi), (Value.int .u64 x.C.Pass.Lo), (Value.int .i64 x.Parent.Obj), (Value.int .u64 x.Parent.Pass.Hi), (Value.int .u64 x.Parent.Pass.Lo), (Value.bool x.Root), (Value.int .i64 x.Rights)]
def S_ref24_Token.val (x : S_ref24_Token) : Value := .agg (S_ref24_Token.cells x).toArray
def S_ref24_Token.ty : Ty := tStruct [(tInt .i64), (tInt .u64), (tInt .u64), (tInt .i64), (tInt .u64), (tInt .u64), tBool, (tInt .i64)] S_ref24_Token.val S_ref24_Token.cells (fun y => ⟨⟨y.1, ⟨y.2.1, y.2.2.1⟩⟩, ⟨y.2.2.2.1, ⟨y.2.2.2.2.1, y.2.2.2.2.2.1⟩⟩, y.2.2.2.2.2.2.1, y.2.2.2.2.2.2.2⟩) (fun _ => rfl) (fun _ => rfl) (fun _ => rfl)
structure S_ref24_Laid where
  Step : Int
  By : Int
  At : Int
def S_ref24_Laid.cells (x : S_ref24_Laid) : _root_.List Value := [(Value.int .i64 x.Step), (Value.int .i64 x.By), (Value.int .i64 x.At)]
def S_ref24_Laid.val (x : S_ref24_Laid) : Value := .agg (S_ref24_Laid.cells x).toArray
def S_ref24_Laid.ty : Ty := tStruct [(tInt .i64), (tInt .i64), (tInt .i64)] S_ref24_Laid.val S_ref24_Laid.cells (fun y => ⟨y.1, y.2.1, y.2.2⟩) (fun _ => rfl) (fun _ => rfl) (fun _ => rfl)
structure S_ref24_Object where
  Id : Int
  B : Sl
def S_ref24_Object.cells (x : S_ref24_Object) : _root_.List Value := [(Value.int .i64 x.Id), (Sl.val x.B)]
def S_ref24_Object.val (x : S_ref24_Object) : Value := .agg (S_ref24_Object.cells x).toArray
def S_ref24_Object.ty : Ty := tStruct [(tInt .i64), tSl] S_ref24_Object.val S_ref24_Object.cells (fun y => ⟨y.1, y.2⟩) (fun _ => rfl) (fun _ => rfl) (fun _ => rfl)
structure S_ref04_Draws where
  L : Sl
  Width : Int
  At : Int
def S_ref04_Draws.cells (x : S_ref04_Draws) : _root_.List Value := [(Sl.val x.L), (Value.int .i64 x.Width), (Value.int .i64 x.At)]
def S_ref04_Draws.val (x : S_ref04_Draws) : Value := .agg (S_ref04_Draws.cells x).toArray
def S_ref04_Draws.ty : Ty := tStruct [tSl, (tInt .i64), (tInt .i64)] S_ref04_Draws.val S_ref04_Draws.cells (fun y => ⟨y.1, y.2.1, y.2.2⟩) (fun _ => rfl) (fun _ => rfl) (fun _ => rfl)
structure S_draws_Draws where
  xall : Sl
  xtaken : Int
def S_draws_Draws.cells (x : S_draws_Draws) : _root_.List Value := [(Sl.val x.xall), (Value.int .i64 x.xtaken)]
def S_draws_Draws.val (x : S_draws_Draws) : Value := .agg (S_draws_Draws.cells x).toArray
def S_draws_Draws.ty : Ty := tStruct [tSl, (tInt .i64)] S_draws_Draws.val S_draws_Draws.cells (fun y => ⟨y.1, y.2⟩) (fun _ => rfl) (fun _ => rfl) (fun _ => rfl)
structure S_slots_Table_int where
  xmost : Int
  xknob : Int
  xplaces : Sl
  xlive : Int
  xused : Int
def S_slots_Table_int.cells (x : S_slots_Table_int) : _root_.List Value := [(Value.int .i64 x.xmost), (Value.int .i64 x.xknob), (Sl.val x.xplaces), (Value.int .i64 x.xlive), (Value.int .i64 x.xused)]
def S_slots_Table_int.val (x : S_slots_Table_int) : Value := .agg (S_slots_Table_int.cells x).toArray
def S_slots_Table_int.ty : Ty := tStruct [(tInt .i64), (tInt .i64), tSl, (tInt .i64), (tInt .i64)] S_slots_Table_int.val S_slots_Table_int.cells (fun y => ⟨y.1, y.2.1, y.2.2.1, y.2.2.2.1, y.2.2.2.2⟩) (fun _ => rfl) (fun _ => rfl) (fun _ => rfl)
structure S_kin_Tree where
  xnodes : Sl
def S_kin_Tree.cells (x : S_kin_Tree) : _root_.List Value := [(Sl.val x.xnodes)]
def S_kin_Tree.val (x : S_kin_Tree) : Value := .agg (S_kin_Tree.cells x).toArray
def S_kin_Tree.ty : Ty := tStruct [tSl] S_kin_Tree.val S_kin_Tree.cells (fun y => ⟨y⟩) (fun _ => rfl) (fun _ => rfl) (fun _ => rfl)
structure S_catalogue_parts where
  Table : Option Addr
  Tree : Option Addr
def S_catalogue_parts.cells (x : S_catalogue_parts) : _root_.List Value := [(Value.pointer x.Table), (Value.pointer x.Tree)]
def S_catalogue_parts.val (x : S_catalogue_parts) : Value := .agg (S_catalogue_parts.cells x).toArray
def S_catalogue_parts.ty : Ty := tStruct [tPtr, tPtr] S_catalogue_parts.val S_catalogue_parts.cells (fun y => ⟨y.1, y.2⟩) (fun _ => rfl) (fun _ => rfl) (fun _ => rfl)
structure S_catalogue_Catalogue where
  xin : S_catalogue_parts
  xtokens : Sl
  xused : Sl
  xroots : Option Nat
  xcount : Option Nat
def S_catalogue_Catalogue.cells (x : S_catalogue_Catalogue) : _root_.List Value := [(Value.pointer x.xin.Table), (Value.pointer x.xin.Tree), (Sl.val x.xtokens), (Sl.val x.xused), (Value.map x.xroots), (Value.map x.xcount)]
def S_catalogue_Catalogue.val (x : S_catalogue_Catalogue) : Value := .agg (S_catalogue_Catalogue.cells x).toArray
def S_catalogue_Catalogue.ty : Ty := tStruct [tPtr, tPtr, tSl, tSl, tMap, tMap] S_catalogue_Catalogue.val S_catalogue_Catalogue.cells (fun y => ⟨⟨y.1, y.2.1⟩, y.2.2.1, y.2.2.2.1, y.2.2.2.2.1, y.2.2.2.2.2⟩) (fun _ => rfl) (fun _ => rfl) (fun _ => rfl)
structure S_ref11_Catalogue where
  P : Sl
  Ever : Int
def S_ref11_Catalogue.cells (x : S_ref11_Catalogue) : _root_.List Value := [(Sl.val x.P), (Value.int .i64 x.Ever)]
def S_ref11_Catalogue.val (x : S_ref11_Catalogue) : Value := .agg (S_ref11_Catalogue.cells x).toArray
def S_ref11_Catalogue.ty : Ty := tStruct [tSl, (tInt .i64)] S_ref11_Catalogue.val S_ref11_Catalogue.cells (fun y => ⟨y.1, y.2⟩) (fun _ => rfl) (fun _ => rfl) (fun _ => rfl)
structure S_kin_node where
  xthere : Bool
  xparent : Int
  xchildren : Sl
def S_kin_node.cells (x : S_kin_node) : _root_.List Value := [(Value.bool x.xthere), (Value.int .i64 x.xparent), (Sl.val x.xchildren)]
def S_kin_node.val (x : S_kin_node) : Value := .agg (S_kin_node.cells x).toArray
def S_kin_node.ty : Ty := tStruct [tBool, (tInt .i64), tSl] S_kin_node.val S_kin_node.cells (fun y => ⟨y.1, y.2.1, y.2.2⟩) (fun _ => rfl) (fun _ => rfl) (fun _ => rfl)
structure S_slots_place_int where
  xstate : Int
  xc : S_api_Cap
  xv : Int
def S_slots_place_int.cells (x : S_slots_place_int) : _root_.List Value := [(Value.int .u8 x.xstate), (Value.int .i64 x.xc.Obj), (Value.int .u64 x.xc.Pass.Hi), (Value.int .u64 x.xc.Pass.Lo), (Value.int .i64 x.xv)]
def S_slots_place_int.val (x : S_slots_place_int) : Value := .agg (S_slots_place_int.cells x).toArray
def S_slots_place_int.ty : Ty := tStruct [(tInt .u8), (tInt .i64), (tInt .u64), (tInt .u64), (tInt .i64)] S_slots_place_int.val S_slots_place_int.cells (fun y => ⟨y.1, ⟨y.2.1, ⟨y.2.2.1, y.2.2.2.1⟩⟩, y.2.2.2.2⟩) (fun _ => rfl) (fun _ => rfl) (fun _ => rfl)
structure S_api_Token where
  Cap : S_api_Cap
  Rights : Int
  Parent : Int
def S_api_Token.cells (x : S_api_Token) : _root_.List Value := [(Value.int .i64 x.Cap.Obj), (Value.int .u64 x.Cap.Pass.Hi), (Value.int .u64 x.Cap.Pass.Lo), (Value.int .i64 x.Rights), (Value.int .i64 x.Parent)]
def S_api_Token.val (x : S_api_Token) : Value := .agg (S_api_Token.cells x).toArray
def S_api_Token.ty : Ty := tStruct [(tInt .i64), (tInt .u64), (tInt .u64), (tInt .i64), (tInt .i64)] S_api_Token.val S_api_Token.cells (fun y => ⟨⟨y.1, ⟨y.2.1, y.2.2.1⟩⟩, y.2.2.2.1, y.2.2.2.2⟩) (fun _ => rfl) (fun _ => rfl) (fun _ => rfl)
structure S_ref11_Place where
  Live : Bool
  Cap : S_api_Cap
  Rights : Int
  Parent : Int
  When : Int
def S_ref11_Place.cells (x : S_ref11_Place) : _root_.List Value := [(Value.bool x.Live), (Value.int .i64 x.Cap.Obj), (Value.int .u64 x.Cap.Pass.Hi), (Value.int .u64 x.Cap.Pass.Lo), (Value.int .i64 x.Rights), (Value.int .i64 x.Parent), (Value.int .i64 x.When)]
def S_ref11_Place.val (x : S_ref11_Place) : Value := .agg (S_ref11_Place.cells x).toArray
def S_ref11_Place.ty : Ty := tStruct [tBool, (tInt .i64), (tInt .u64), (tInt .u64), (tInt .i64), (tInt .i64), (tInt .i64)] S_ref11_Place.val S_ref11_Place.cells (fun y => ⟨y.1, ⟨y.2.1, ⟨y.2.2.1, y.2.2.2.1⟩⟩, y.2.2.2.2.1, y.2.2.2.2.2.1, y.2.2.2.2.2.2⟩) (fun _ => rfl) (fun _ => rfl) (fun _ => rfl)
structure S_law11_Pair where
  P : Option Addr
  R : Option Addr
def S_law11_Pair.cells (x : S_law11_Pair) : _root_.List Value := [(Value.pointer x.P), (Value.pointer x.R)]
def S_law11_Pair.val (x : S_law11_Pair) : Value := .agg (S_law11_Pair.cells x).toArray
def S_law11_Pair.ty : Ty := tStruct [tPtr, tPtr] S_law11_Pair.val S_law11_Pair.cells (fun y => ⟨y.1, y.2⟩) (fun _ => rfl) (fun _ => rfl) (fun _ => rfl)
structure S_law11_Step where
  Second : Bool
  Kind : Int
  N : Int
  C : S_api_Cap
  Rights : Int
def S_law11_Step.cells (x : S_law11_Step) : _root_.List Value := [(Value.bool x.Second), (Value.int .i64 x.Kind), (Value.int .i64 x.N), (Value.int .i64 x.C.Obj), (Value.int .u64 x.C.Pass.Hi), (Value.int .u64 x.C.Pass.Lo), (Value.int .i64 x.Rights)]
def S_law11_Step.val (x : S_law11_Step) : Value := .agg (S_law11_Step.cells x).toArray
def S_law11_Step.ty : Ty := tStruct [tBool, (tInt .i64), (tInt .i64), (tInt .i64), (tInt .u64), (tInt .u64), (tInt .i64)] S_law11_Step.val S_law11_Step.cells (fun y => ⟨y.1, y.2.1, y.2.2.1, ⟨y.2.2.2.1, ⟨y.2.2.2.2.1, y.2.2.2.2.2.1⟩⟩, y.2.2.2.2.2.2⟩) (fun _ => rfl) (fun _ => rfl) (fun _ => rfl)
structure S_law11_Sizes where
  Entries : Int
  Knob : Int
  Other : Int
  Twist : Int
def S_law11_Sizes.cells (x : S_law11_Sizes) : _root_.List Value := [(Value.int .i64 x.Entries), (Value.int .i64 x.Knob), (Value.int .i64 x.Other), (Value.int .i64 x.Twist)]
def S_law11_Sizes.val (x : S_law11_Sizes) : Value := .agg (S_law11_Sizes.cells x).toArray
def S_law11_Sizes.ty : Ty := tStruct [(tInt .i64), (tInt .i64), (tInt .i64), (tInt .i64)] S_law11_Sizes.val S_law11_Sizes.cells (fun y => ⟨y.1, y.2.1, y.2.2.1, y.2.2.2⟩) (fun _ => rfl) (fun _ => rfl) (fun _ => rfl)
structure S_law19_Numbers where
  Sets : Int
  Ways : Int
  Knob : Int
def S_law19_Numbers.cells (x : S_law19_Numbers) : _root_.List Value := [(Value.int .i64 x.Sets), (Value.int .i64 x.Ways), (Value.int .i64 x.Knob)]
def S_law19_Numbers.val (x : S_law19_Numbers) : Value := .agg (S_law19_Numbers.cells x).toArray
def S_law19_Numbers.ty : Ty := tStruct [(tInt .i64), (tInt .i64), (tInt .i64)] S_law19_Numbers.val S_law19_Numbers.cells (fun y => ⟨y.1, y.2.1, y.2.2⟩) (fun _ => rfl) (fun _ => rfl) (fun _ => rfl)
structure S_validate_Validator where
  xc : Option Addr
  xk : Option Addr
def S_validate_Validator.cells (x : S_validate_Validator) : _root_.List Value := [(Value.pointer x.xc), (Value.pointer x.xk)]
def S_validate_Validator.val (x : S_validate_Validator) : Value := .agg (S_validate_Validator.cells x).toArray
def S_validate_Validator.ty : Ty := tStruct [tPtr, tPtr] S_validate_Validator.val S_validate_Validator.cells (fun y => ⟨y.1, y.2⟩) (fun _ => rfl) (fun _ => rfl) (fun _ => rfl)
structure S_law19_Desk where
  C : Option Addr
  V : Option Addr
  R : Option Addr
def S_law19_Desk.cells (x : S_law19_Desk) : _root_.List Value := [(Value.pointer x.C), (Value.pointer x.V), (Value.pointer x.R)]
def S_law19_Desk.val (x : S_law19_Desk) : Value := .agg (S_law19_Desk.cells x).toArray
def S_law19_Desk.ty : Ty := tStruct [tPtr, tPtr, tPtr] S_law19_Desk.val S_law19_Desk.cells (fun y => ⟨y.1, y.2.1, y.2.2⟩) (fun _ => rfl) (fun _ => rfl) (fun _ => rfl)
structure S_cache_place where
  xput : Bool
  xcap : S_api_Cap
  xrights : Int
  xepoch : Int
  xage : Int
def S_cache_place.cells (x : S_cache_place) : _root_.List Value := [(Value.bool x.xput), (Value.int .i64 x.xcap.Obj), (Value.int .u64 x.xcap.Pass.Hi), (Value.int .u64 x.xcap.Pass.Lo), (Value.int .i64 x.xrights), (Value.int .i64 x.xepoch), (Value.int .i64 x.xage)]
def S_cache_place.val (x : S_cache_place) : Value := .agg (S_cache_place.cells x).toArray
def S_cache_place.ty : Ty := tStruct [tBool, (tInt .i64), (tInt .u64), (tInt .u64), (tInt .i64), (tInt .i64), (tInt .i64)] S_cache_place.val S_cache_place.cells (fun y => ⟨y.1, ⟨y.2.1, ⟨y.2.2.1, y.2.2.2.1⟩⟩, y.2.2.2.2.1, y.2.2.2.2.2.1, y.2.2.2.2.2.2⟩) (fun _ => rfl) (fun _ => rfl) (fun _ => rfl)
structure S_cache_set where
  xe0 : S_cache_place
  xe1 : S_cache_place
  xe2 : S_cache_place
  xe3 : S_cache_place
def S_cache_set.cells (x : S_cache_set) : _root_.List Value := [(Value.bool x.xe0.xput), (Value.int .i64 x.xe0.xcap.Obj), (Value.int .u64 x.xe0.xcap.Pass.Hi), (Value.int .u64 x.xe0.xcap.Pass.Lo), (Value.int .i64 x.xe0.xrights), (Value.int .i64 x.xe0.xepoch), (Value.int .i64 x.xe0.xage), (Value.bool x.xe1.xput), (Value.int .i64 x.xe1.xcap.Obj), (Value.int .u64 x.xe1.xcap.Pass.Hi), (Value.int .u64 x.xe1.xcap.Pass.Lo), (Value.int .i64 x.xe1.xrights), (Value.int .i64 x.xe1.xepoch), (Value.int .i64 x.xe1.xage), (Value.bool x.xe2.xput), (Value.int .i64 x.xe2.xcap.Obj), (Value.int .u64 x.xe2.xcap.Pass.Hi), (Value.int .u64 x.xe2.xcap.Pass.Lo), (Value.int .i64 x.xe2.xrights), (Value.int .i64 x.xe2.xepoch), (Value.int .i64 x.xe2.xage), (Value.bool x.xe3.xput), (Value.int .i64 x.xe3.xcap.Obj), (Value.int .u64 x.xe3.xcap.Pass.Hi), (Value.int .u64 x.xe3.xcap.Pass.Lo), (Value.int .i64 x.xe3.xrights), (Value.int .i64 x.xe3.xepoch), (Value.int .i64 x.xe3.xage)]
def S_cache_set.val (x : S_cache_set) : Value := .agg (S_cache_set.cells x).toArray
def S_cache_set.ty : Ty := tStruct [tBool, (tInt .i64), (tInt .u64), (tInt .u64), (tInt .i64), (tInt .i64), (tInt .i64), tBool, (tInt .i64), (tInt .u64), (tInt .u64), (tInt .i64), (tInt .i64), (tInt .i64), tBool, (tInt .i64), (tInt .u64), (tInt .u64), (tInt .i64), (tInt .i64), (tInt .i64), tBool, (tInt .i64), (tInt .u64), (tInt .u64), (tInt .i64), (tInt .i64), (tInt .i64)] S_cache_set.val S_cache_set.cells (fun y => ⟨⟨y.1, ⟨y.2.1, ⟨y.2.2.1, y.2.2.2.1⟩⟩, y.2.2.2.2.1, y.2.2.2.2.2.1, y.2.2.2.2.2.2.1⟩, ⟨y.2.2.2.2.2.2.2.1, ⟨y.2.2.2.2.2.2.2.2.1, ⟨y.2.2.2.2.2.2.2.2.2.1, y.2.2.2.2.2.2.2.2.2.2.1⟩⟩, y.2.2.2.2.2.2.2.2.2.2.2.1, y.2.2.2.2.2.2.2.2.2.2.2.2.1, y.2.2.2.2.2.2.2.2.2.2.2.2.2.1⟩, ⟨y.2.2.2.2.2.2.2.2.2.2.2.2.2.2.1, ⟨y.2.2.2.2.2.2.2.2.2.2.2.2.2.2.2.1, ⟨y.2.2.2.2.2.2.2.2.2.2.2.2.2.2.2.2.1, y.2.2.2.2.2.2.2.2.2.2.2.2.2.2.2.2.2.1⟩⟩, y.2.2.2.2.2.2.2.2.2.2.2.2.2.2.2.2.2.2.1, y.2.2.2.2.2.2.2.2.2.2.2.2.2.2.2.2.2.2.2.1, y.2.2.2.2.2.2.2.2.2.2.2.2.2.2.2.2.2.2.2.2.1⟩, ⟨y.2.2.2.2.2.2.2.2.2.2.2.2.2.2.2.2.2.2.2.2.2.1, ⟨y.2.2.2.2.2.2.2.2.2.2.2.2.2.2.2.2.2.2.2.2.2.2.1, ⟨y.2.2.2.2.2.2.2.2.2.2.2.2.2.2.2.2.2.2.2.2.2.2.2.1, y.2.2.2.2.2.2.2.2.2.2.2.2.2.2.2.2.2.2.2.2.2.2.2.2.1⟩⟩, y.2.2.2.2.2.2.2.2.2.2.2.2.2.2.2.2.2.2.2.2.2.2.2.2.2.1, y.2.2.2.2.2.2.2.2.2.2.2.2.2.2.2.2.2.2.2.2.2.2.2.2.2.2.1, y.2.2.2.2.2.2.2.2.2.2.2.2.2.2.2.2.2.2.2.2.2.2.2.2.2.2.2⟩⟩) (fun _ => rfl) (fun _ => rfl) (fun _ => rfl)
structure S_validate_lately where
  xk : Option Addr
def S_validate_lately.cells (x : S_validate_lately) : _root_.List Value := [(Value.pointer x.xk)]
def S_validate_lately.val (x : S_validate_lately) : Value := .agg (S_validate_lately.cells x).toArray
def S_validate_lately.ty : Ty := tStruct [tPtr] S_validate_lately.val S_validate_lately.cells (fun y => ⟨y⟩) (fun _ => rfl) (fun _ => rfl) (fun _ => rfl)
structure S_validate_now where
  xc : Option Addr
def S_validate_now.cells (x : S_validate_now) : _root_.List Value := [(Value.pointer x.xc)]
def S_validate_now.val (x : S_validate_now) : Value := .agg (S_validate_now.cells x).toArray
def S_validate_now.ty : Ty := tStruct [tPtr] S_validate_now.val S_validate_now.cells (fun y => ⟨y⟩) (fun _ => rfl) (fun _ => rfl) (fun _ => rfl)
structure S_law19_Op where
  Kind : Int
  C : S_api_Cap
  P : Int
  N : Int
  L : Sl
def S_law19_Op.cells (x : S_law19_Op) : _root_.List Value := [(Value.int .i64 x.Kind), (Value.int .i64 x.C.Obj), (Value.int .u64 x.C.Pass.Hi), (Value.int .u64 x.C.Pass.Lo), (Value.int .i64 x.P), (Value.int .i64 x.N), (Sl.val x.L)]
def S_law19_Op.val (x : S_law19_Op) : Value := .agg (S_law19_Op.cells x).toArray
def S_law19_Op.ty : Ty := tStruct [(tInt .i64), (tInt .i64), (tInt .u64), (tInt .u64), (tInt .i64), (tInt .i64), tSl] S_law19_Op.val S_law19_Op.cells (fun y => ⟨y.1, ⟨y.2.1, ⟨y.2.2.1, y.2.2.2.1⟩⟩, y.2.2.2.2.1, y.2.2.2.2.2.1, y.2.2.2.2.2.2⟩) (fun _ => rfl) (fun _ => rfl) (fun _ => rfl)
structure S_plain_Model where
  xc : S_api_Config
  xdraws : Sl
  xtaken : Int
  xobjects : Option Nat
  xtokens : Sl
  xnamed : Int
  xlists : Option Nat
  xnextId : Int
  xnextProc : Int
def S_plain_Model.cells (x : S_plain_Model) : _root_.List Value := [(Value.int .i64 x.xc.Width), (Value.int .i64 x.xc.Objects), (Value.int .i64 x.xc.Pages), (Value.int .i64 x.xc.Entries), (Value.int .i64 x.xc.Quota), (Value.int .i64 x.xc.Procs), (Value.int .i64 x.xc.List), (Value.int .i64 x.xc.Sets), (Value.int .i64 x.xc.Ways), (Value.int .i64 x.xc.Knob), (Sl.val x.xdraws), (Value.int .i64 x.xtaken), (Value.map x.xobjects), (Sl.val x.xtokens), (Value.int .i64 x.xnamed), (Value.map x.xlists), (Value.int .i64 x.xnextId), (Value.int .i64 x.xnextProc)]
def S_plain_Model.val (x : S_plain_Model) : Value := .agg (S_plain_Model.cells x).toArray
def S_plain_Model.ty : Ty := tStruct [(tInt .i64), (tInt .i64), (tInt .i64), (tInt .i64), (tInt .i64), (tInt .i64), (tInt .i64), (tInt .i64), (tInt .i64), (tInt .i64), tSl, (tInt .i64), tMap, tSl, (tInt .i64), tMap, (tInt .i64), (tInt .i64)] S_plain_Model.val S_plain_Model.cells (fun y => ⟨⟨y.1, y.2.1, y.2.2.1, y.2.2.2.1, y.2.2.2.2.1, y.2.2.2.2.2.1, y.2.2.2.2.2.2.1, y.2.2.2.2.2.2.2.1, y.2.2.2.2.2.2.2.2.1, y.2.2.2.2.2.2.2.2.2.1⟩, y.2.2.2.2.2.2.2.2.2.2.1, y.2.2.2.2.2.2.2.2.2.2.2.1, y.2.2.2.2.2.2.2.2.2.2.2.2.1, y.2.2.2.2.2.2.2.2.2.2.2.2.2.1, y.2.2.2.2.2.2.2.2.2.2.2.2.2.2.1, y.2.2.2.2.2.2.2.2.2.2.2.2.2.2.2.1, y.2.2.2.2.2.2.2.2.2.2.2.2.2.2.2.2.1, y.2.2.2.2.2.2.2.2.2.2.2.2.2.2.2.2.2⟩) (fun _ => rfl) (fun _ => rfl) (fun _ => rfl)
structure S_plain_token where
  xcap : S_api_Cap
  xrights : Int
  xname : Int
  xparent : Int
def S_plain_token.cells (x : S_plain_token) : _root_.List Value := [(Value.int .i64 x.xcap.Obj), (Value.int .u64 x.xcap.Pass.Hi), (Value.int .u64 x.xcap.Pass.Lo), (Value.int .i64 x.xrights), (Value.int .i64 x.xname), (Value.int .i64 x.xparent)]
def S_plain_token.val (x : S_plain_token) : Value := .agg (S_plain_token.cells x).toArray
def S_plain_token.ty : Ty := tStruct [(tInt .i64), (tInt .u64), (tInt .u64), (tInt .i64), (tInt .i64), (tInt .i64)] S_plain_token.val S_plain_token.cells (fun y => ⟨⟨y.1, ⟨y.2.1, y.2.2.1⟩⟩, y.2.2.2.1, y.2.2.2.2.1, y.2.2.2.2.2⟩) (fun _ => rfl) (fun _ => rfl) (fun _ => rfl)
structure S_api_State where
  Objects : Sl
  Tokens : Sl
  Processes : Sl
  NextId : Int
  NextProc : Int
  Taken : Int
def S_api_State.cells (x : S_api_State) : _root_.List Value := [(Sl.val x.Objects), (Sl.val x.Tokens), (Sl.val x.Processes), (Value.int .i64 x.NextId), (Value.int .i64 x.NextProc), (Value.int .i64 x.Taken)]
def S_api_State.val (x : S_api_State) : Value := .agg (S_api_State.cells x).toArray
def S_api_State.ty : Ty := tStruct [tSl, tSl, tSl, (tInt .i64), (tInt .i64), (tInt .i64)] S_api_State.val S_api_State.cells (fun y => ⟨y.1, y.2.1, y.2.2.1, y.2.2.2.1, y.2.2.2.2.1, y.2.2.2.2.2⟩) (fun _ => rfl) (fun _ => rfl) (fun _ => rfl)
structure S_runtime_boundsError where
  xx : Int
  xy : Int
  xsigned : Bool
  xcode : Int
def S_runtime_boundsError.cells (x : S_runtime_boundsError) : _root_.List Value := [(Value.int .i64 x.xx), (Value.int .i64 x.xy), (Value.bool x.xsigned), (Value.int .u8 x.xcode)]
def S_runtime_boundsError.val (x : S_runtime_boundsError) : Value := .agg (S_runtime_boundsError.cells x).toArray
def S_runtime_boundsError.ty : Ty := tStruct [(tInt .i64), (tInt .i64), tBool, (tInt .u8)] S_runtime_boundsError.val S_runtime_boundsError.cells (fun y => ⟨y.1, y.2.1, y.2.2.1, y.2.2.2⟩) (fun _ => rfl) (fun _ => rfl) (fun _ => rfl)
structure S_runtime_errorAddressString where
  xmsg : ByteArray
  xaddr : Int
def S_runtime_errorAddressString.cells (x : S_runtime_errorAddressString) : _root_.List Value := [(Value.string x.xmsg), (Value.int .u64 x.xaddr)]
def S_runtime_errorAddressString.val (x : S_runtime_errorAddressString) : Value := .agg (S_runtime_errorAddressString.cells x).toArray
def S_runtime_errorAddressString.ty : Ty := tStruct [tStr, (tInt .u64)] S_runtime_errorAddressString.val S_runtime_errorAddressString.cells (fun y => ⟨y.1, y.2⟩) (fun _ => rfl) (fun _ => rfl) (fun _ => rfl)
structure S_internal_runtime_maps_unhashableTypeError where
  xtyp : Option Addr
def S_internal_runtime_maps_unhashableTypeError.cells (x : S_internal_runtime_maps_unhashableTypeError) : _root_.List Value := [(Value.pointer x.xtyp)]
def S_internal_runtime_maps_unhashableTypeError.val (x : S_internal_runtime_maps_unhashableTypeError) : Value := .agg (S_internal_runtime_maps_unhashableTypeError.cells x).toArray
def S_internal_runtime_maps_unhashableTypeError.ty : Ty := tStruct [tPtr] S_internal_runtime_maps_unhashableTypeError.val S_internal_runtime_maps_unhashableTypeError.cells (fun y => ⟨y⟩) (fun _ => rfl) (fun _ => rfl) (fun _ => rfl)
structure S_law13_Put where
  Parent : Int
  C : S_api_Cap
  Rights : Int
def S_law13_Put.cells (x : S_law13_Put) : _root_.List Value := [(Value.int .i64 x.Parent), (Value.int .i64 x.C.Obj), (Value.int .u64 x.C.Pass.Hi), (Value.int .u64 x.C.Pass.Lo), (Value.int .i64 x.Rights)]
def S_law13_Put.val (x : S_law13_Put) : Value := .agg (S_law13_Put.cells x).toArray
def S_law13_Put.ty : Ty := tStruct [(tInt .i64), (tInt .i64), (tInt .u64), (tInt .u64), (tInt .i64)] S_law13_Put.val S_law13_Put.cells (fun y => ⟨y.1, ⟨y.2.1, ⟨y.2.2.1, y.2.2.2.1⟩⟩, y.2.2.2.2⟩) (fun _ => rfl) (fun _ => rfl) (fun _ => rfl)
structure S_runtime_TypeAssertionError where
  x_interface : Option Addr
  xconcrete : Option Addr
  xasserted : Option Addr
  xmissingMethod : ByteArray
def S_runtime_TypeAssertionError.cells (x : S_runtime_TypeAssertionError) : _root_.List Value := [(Value.pointer x.x_interface), (Value.pointer x.xconcrete), (Value.pointer x.xasserted), (Value.string x.xmissingMethod)]
def S_runtime_TypeAssertionError.val (x : S_runtime_TypeAssertionError) : Value := .agg (S_runtime_TypeAssertionError.cells x).toArray
def S_runtime_TypeAssertionError.ty : Ty := tStruct [tPtr, tPtr, tPtr, tStr] S_runtime_TypeAssertionError.val S_runtime_TypeAssertionError.cells (fun y => ⟨y.1, y.2.1, y.2.2.1, y.2.2.2⟩) (fun _ => rfl) (fun _ => rfl) (fun _ => rfl)
structure S_internal_abi_Type where
  Size_ : Int
  PtrBytes : Int
  Hash : Int
  TFlag : Int
  Align_ : Int
  FieldAlign_ : Int
  Kind_ : Int
  Equal : PV
  GCData : Option Addr
  Str : Int
  PtrToThis : Int
def S_internal_abi_Type.cells (x : S_internal_abi_Type) : _root_.List Value := [(Value.int .u64 x.Size_), (Value.int .u64 x.PtrBytes), (Value.int .u32 x.Hash), (Value.int .u8 x.TFlag), (Value.int .u8 x.Align_), (Value.int .u8 x.FieldAlign_), (Value.int .u8 x.Kind_), x.Equal.1, (Value.pointer x.GCData), (Value.int .i32 x.Str), (Value.int .i32 x.PtrToThis)]
def S_internal_abi_Type.val (x : S_internal_abi_Type) : Value := .agg (S_internal_abi_Type.cells x).toArray
def S_internal_abi_Type.ty : Ty := tStruct [(tInt .u64), (tInt .u64), (tInt .u32), (tInt .u8), (tInt .u8), (tInt .u8), (tInt .u8), tPV, tPtr, (tInt .i32), (tInt .i32)] S_internal_abi_Type.val S_internal_abi_Type.cells (fun y => ⟨y.1, y.2.1, y.2.2.1, y.2.2.2.1, y.2.2.2.2.1, y.2.2.2.2.2.1, y.2.2.2.2.2.2.1, y.2.2.2.2.2.2.2.1, y.2.2.2.2.2.2.2.2.1, y.2.2.2.2.2.2.2.2.2.1, y.2.2.2.2.2.2.2.2.2.2⟩) (fun _ => rfl) (fun _ => rfl) (fun _ => rfl)
abbrev N_i64 : Nat := 2
abbrev N_bool : Nat := 4
abbrev N_u8 : Nat := 5
abbrev N_internal_abi_BoundsErrorCode : Nat := 6
abbrev U_internal_abi_BoundsErrorCode := @Try.underlying6
abbrev N_runtime_boundsError : Nat := 8
abbrev U_runtime_boundsError := @Try.underlying8
abbrev N_string : Nat := 9
abbrev N_runtime_errorString : Nat := 10
abbrev U_runtime_errorString := @Try.underlying10
abbrev N_runtime_plainError : Nat := 11
abbrev U_runtime_plainError := @Try.underlying11
abbrev N_u64 : Nat := 12
abbrev N_runtime_errorAddressString : Nat := 14
abbrev U_runtime_errorAddressString := @Try.underlying14
abbrev N_P_runtime_TypeAssertionError : Nat := 15
abbrev N_P_runtime_PanicNilError : Nat := 16
abbrev N_P_internal_abi_Type : Nat := 17
abbrev N_internal_runtime_maps_unhashableTypeError : Nat := 19
abbrev U_internal_runtime_maps_unhashableTypeError := @Try.underlying19
abbrev N_i32 : Nat := 21
abbrev N_api_Config : Nat := 23
abbrev U_api_Config := @Try.underlying23
abbrev N_Sl_api_Word : Nat := 24
abbrev N_Sl_api_Call : Nat := 25
abbrev N_P_ref21_Model : Nat := 28
abbrev N_P_book_Book : Nat := 30
abbrev N_P_ref24_Book : Nat := 32
abbrev N_Sl_api_Cap : Nat := 34
abbrev N_api_Word : Nat := 37
abbrev U_api_Word := @Try.underlying37
abbrev N_api_Cap : Nat := 39
abbrev U_api_Cap := @Try.underlying39
abbrev N_Sl_u8 : Nat := 40
abbrev N_Sl_i64 : Nat := 41
abbrev N_api_Call : Nat := 43
abbrev U_api_Call := @Try.underlying43
abbrev N_api_Errno : Nat := 45
abbrev U_api_Errno := @Try.underlying45
abbrev N_api_Reply : Nat := 47
abbrev U_api_Reply := @Try.underlying47
abbrev N_Sl_law13_Put : Nat := 57
abbrev N_P_ref04_Draws : Nat := 58
abbrev N_P_draws_Draws : Nat := 61
abbrev N_P_catalogue_Catalogue : Nat := 64
abbrev N_P_ref11_Catalogue : Nat := 67
abbrev N_law13_Put : Nat := 71
abbrev U_law13_Put := @Try.underlying71
abbrev N_law11_Sizes : Nat := 85
abbrev U_law11_Sizes := @Try.underlying85
abbrev N_Sl_law11_Step : Nat := 86
abbrev N_law11_Pair : Nat := 88
abbrev U_law11_Pair := @Try.underlying88
abbrev N_law11_Step : Nat := 90
abbrev U_law11_Step := @Try.underlying90
abbrev N_Sl_api_Token : Nat := 95
abbrev N_Sl_bool : Nat := 96
abbrev N_api_Token : Nat := 98
abbrev U_api_Token := @Try.underlying98
abbrev N_Sl_Sl_api_Cap : Nat := 112
abbrev N_law19_Numbers : Nat := 114
abbrev U_law19_Numbers := @Try.underlying114
abbrev N_Sl_law19_Op : Nat := 115
abbrev N_P_law19_Desk : Nat := 116
abbrev N_law19_Op : Nat := 119
abbrev U_law19_Op := @Try.underlying119
abbrev N_P_validate_Validator : Nat := 120
abbrev N_law19_Desk : Nat := 122
abbrev U_law19_Desk := @Try.underlying122
abbrev N_Sl_u64 : Nat := 128
abbrev N_Sl_api_Reply : Nat := 135
abbrev N_P_plain_Model : Nat := 139
abbrev N_Sl_api_Object : Nat := 145
abbrev N_Sl_api_Process : Nat := 146
abbrev N_api_State : Nat := 148
abbrev U_api_State := @Try.underlying148
abbrev N_api_Object : Nat := 152
abbrev U_api_Object := @Try.underlying152
abbrev N_api_Process : Nat := 154
abbrev U_api_Process := @Try.underlying154
abbrev N_Sl_book_Link : Nat := 155
abbrev N_book_Link : Nat := 159
abbrev U_book_Link := @Try.underlying159
abbrev N_Sl_ref21_Held : Nat := 164
abbrev N_ref21_Model : Nat := 166
abbrev U_ref21_Model := @Try.underlying166
abbrev N_M_api_Cap_book_token : Nat := 167
abbrev N_M_i64_Sl_api_Cap : Nat := 168
abbrev N_M_book_whom_Sl_book_Link : Nat := 169
abbrev N_M_i64_M_i64_book_laid : Nat := 170
abbrev N_book_Book : Nat := 172
abbrev U_book_Book := @Try.underlying172
abbrev N_ref24_List : Nat := 174
abbrev U_ref24_List := @Try.underlying174
abbrev N_Sl_ref24_List : Nat := 175
abbrev N_Sl_ref24_Telling : Nat := 176
abbrev N_Sl_ref24_Token : Nat := 177
abbrev N_Sl_ref24_Object : Nat := 178
abbrev N_ref24_Book : Nat := 180
abbrev U_ref24_Book := @Try.underlying180
abbrev N_ref24_Token : Nat := 189
abbrev U_ref24_Token := @Try.underlying189
abbrev N_Sl_ref24_Laid : Nat := 190
abbrev N_ref24_Object : Nat := 192
abbrev U_ref24_Object := @Try.underlying192
abbrev N_Sl_ref24_Link : Nat := 199
abbrev N_ref04_Draws : Nat := 204
abbrev U_ref04_Draws := @Try.underlying204
abbrev N_draws_words : Nat := 205
abbrev U_draws_words := @Try.underlying205
abbrev N_draws_Draws : Nat := 207
abbrev U_draws_Draws := @Try.underlying207
abbrev N_P_slots_Table_int : Nat := 208
abbrev N_P_kin_Tree : Nat := 211
abbrev N_catalogue_parts : Nat := 215
abbrev U_catalogue_parts := @Try.underlying215
abbrev N_M_i64_i64 : Nat := 216
abbrev N_catalogue_Catalogue : Nat := 218
abbrev U_catalogue_Catalogue := @Try.underlying218
abbrev N_Sl_ref11_Place : Nat := 219
abbrev N_ref11_Catalogue : Nat := 221
abbrev U_ref11_Catalogue := @Try.underlying221
abbrev N_ref11_Place : Nat := 230
abbrev U_ref11_Place := @Try.underlying230
abbrev N_iter_Seq_int : Nat := 238
abbrev U_iter_Seq_int := @Try.underlying238
abbrev N_P_cache_Cache : Nat := 243
abbrev N_validate_Validator : Nat := 248
abbrev U_validate_Validator := @Try.underlying248
abbrev N_M_i64_Sl_u8 : Nat := 252
abbrev N_Sl_plain_token : Nat := 253
abbrev N_plain_Model : Nat := 255
abbrev U_plain_Model := @Try.underlying255
abbrev N_book_token : Nat := 264
abbrev U_book_token := @Try.underlying264
abbrev N_book_whom : Nat := 268
abbrev U_book_whom := @Try.underlying268
abbrev N_ref21_Held : Nat := 279
abbrev U_ref21_Held := @Try.underlying279
abbrev N_ref24_Link : Nat := 284
abbrev U_ref24_Link := @Try.underlying284
abbrev N_ref24_Telling : Nat := 286
abbrev U_ref24_Telling := @Try.underlying286
abbrev N_ref24_Laid : Nat := 289
abbrev U_ref24_Laid := @Try.underlying289
abbrev N_Sl_slots_place_int : Nat := 292
abbrev N_slots_Table_int : Nat := 294
abbrev U_slots_Table_int := @Try.underlying294
abbrev N_Sl_kin_node : Nat := 295
abbrev N_kin_Tree : Nat := 297
abbrev U_kin_Tree := @Try.underlying297
abbrev N_slots_state : Nat := 300
abbrev U_slots_state := @Try.underlying300
abbrev N_slots_place_int : Nat := 302
abbrev U_slots_place_int := @Try.underlying302
abbrev N_kin_node : Nat := 312
abbrev U_kin_node := @Try.underlying312
abbrev N_P_kin_node : Nat := 313
abbrev N_cache_place : Nat := 317
abbrev U_cache_place := @Try.underlying317
abbrev N_A4_cache_place : Nat := 318
abbrev N_cache_set : Nat := 319
abbrev U_cache_set := @Try.underlying319
abbrev N_A16_cache_set : Nat := 320
abbrev N_cache_places : Nat := 321
abbrev U_cache_places := @Try.underlying321
abbrev N_cache_Cache : Nat := 323
abbrev U_cache_Cache := @Try.underlying323
abbrev N_validate_lately : Nat := 325
abbrev U_validate_lately := @Try.underlying325
abbrev N_validate_now : Nat := 327
abbrev U_validate_now := @Try.underlying327
abbrev N_Sl_validate_asker : Nat := 328
abbrev N_validate_asker : Nat := 330
abbrev U_validate_asker := @Try.underlying330
abbrev N_plain_token : Nat := 335
abbrev U_plain_token := @Try.underlying335
abbrev N_M_i64_book_laid : Nat := 346
abbrev N_book_laid : Nat := 350
abbrev U_book_laid := @Try.underlying350
abbrev N_P_slots_place_int : Nat := 357
abbrev N_slices_sortedHint : Nat := 370
abbrev U_slices_sortedHint := @Try.underlying370
abbrev N_u32 : Nat := 377
abbrev N_slices_xorshift : Nat := 379
abbrev U_slices_xorshift := @Try.underlying379
abbrev N_P_i64 : Nat := 383
abbrev N_P_slices_xorshift : Nat := 385
abbrev N_runtime_TypeAssertionError : Nat := 389
abbrev U_runtime_TypeAssertionError := @Try.underlying389
abbrev N_A0_P_runtime_PanicNilError : Nat := 390
abbrev N_runtime_PanicNilError : Nat := 392
abbrev U_runtime_PanicNilError := @Try.underlying392
abbrev N_internal_abi_TFlag : Nat := 393
abbrev U_internal_abi_TFlag := @Try.underlying393
abbrev N_internal_abi_Kind : Nat := 394
abbrev U_internal_abi_Kind := @Try.underlying394
abbrev N_P_u8 : Nat := 396
abbrev N_internal_abi_NameOff : Nat := 397
abbrev U_internal_abi_NameOff := @Try.underlying397
abbrev N_internal_abi_TypeOff : Nat := 398
abbrev U_internal_abi_TypeOff := @Try.underlying398
abbrev N_internal_abi_Type : Nat := 400
abbrev U_internal_abi_Type := @Try.underlying400
abbrev N_unsafePointer : Nat := 401
def tys : List (Nat × Ty) := [(1, tPV), (2, (tInt .i64)), (3, (tInt .i64)), (4, tBool), (5, (tInt .u8)), (6, (tInt .u8)), (7, S_runtime_boundsError.ty), (8, S_runtime_boundsError.ty), (9, tStr), (10, tStr), (11, tStr), (12, (tInt .u64)), (13, S_runtime_errorAddressString.ty), (14, S_runtime_errorAddressString.ty), (15, tPtr), (16, tPtr), (17, tPtr), (18, S_internal_runtime_maps_unhashableTypeError.ty), (19, S_internal_runtime_maps_unhashableTypeError.ty), (20, tPV), (21, (tInt .i32)), (22, S_api_Config.ty), (23, S_api_Config.ty), (24, tSl), (25, tSl), (26, tPV), (27, tPV), (28, tPtr), (29, tPV), (30, tPtr), (31, tPV), (32, tPtr), (33, tPV), (34, tSl), (35, (tInt .u64)), (36, S_api_Word.ty), (37, S_api_Word.ty), (38, S_api_Cap.ty), (39, S_api_Cap.ty), (40, tSl), (41, tSl), (42, S_api_Call.ty), (43, S_api_Call.ty), (44, tPV), (45, (tInt .i64)), (46, S_api_Reply.ty), (47, S_api_Reply.ty), (48, tPV), (49, tPV), (50, tPV), (51, tPV), (52, tPV), (53, tPV), (54, tPV), (55, tPV), (56, tPV), (57, tSl), (58, tPtr), (60, tPV), (61, tPtr), (63, tPV), (64, tPtr), (66, tPV), (67, tPtr), (69, tPV), (70, S_law13_Put.ty), (71, S_law13_Put.ty), (73, tPV), (75, tPV), (76, tPV), (77, tPV), (79, tPV), (81, tPV), (82, tPV), (83, tPV), (84, S_law11_Sizes.ty), (85, S_law11_Sizes.ty), (86, tSl), (87, S_law11_Pair.ty), (88, S_law11_Pair.ty), (89, S_law11_Step.ty), (90, S_law11_Step.ty), (91, tPV), (92, tPV), (93, tPV), (94, tPV), (95, tSl), (96, tSl), (97, S_api_Token.ty), (98, S_api_Token.ty), (100, tPV), (101, tPV), (103, tPV), (104, tPV), (106, tPV), (107, tPV), (108, tPV), (109, tPV), (110, tPV), (111, tPV), (112, tSl), (113, S_law19_Numbers.ty), (114, S_law19_Numbers.ty), (115, tSl), (116, tPtr), (117, tPV), (118, S_law19_Op.ty), (119, S_law19_Op.ty), (120, tPtr), (121, S_law19_Desk.ty), (122, S_law19_Desk.ty), (123, tPV), (124, tPV), (125, tPV), (126, tPV), (127, tPV), (128, tSl), (130, tPV), (131, tPV), (132, tPV), (133, tPV), (134, tPV), (135, tSl), (137, tPV), (138, tPV), (139, tPtr), (141, tPV), (142, tPV), (143, tPV), (144, tPV), (145, tSl), (146, tSl), (147, S_api_State.ty), (148, S_api_State.ty), (149, tPV), (150, tPV), (151, S_api_Object.ty), (152, S_api_Object.ty), (153, S_api_Process.ty), (154, S_api_Process.ty), (155, tSl), (157, tPV), (158, S_book_Link.ty), (159, S_book_Link.ty), (160, tPV), (161, tPV), (162, tPV), (163, tPV), (164, tSl), (165, S_ref21_Model.ty), (166, S_ref21_Model.ty), (167, tMap), (168, tMap), (169, tMap), (170, tMap), (171, S_book_Book.ty), (172, S_book_Book.ty), (173, S_ref24_List.ty), (174, S_ref24_List.ty), (175, tSl), (176, tSl), (177, tSl), (178, tSl), (179, S_ref24_Book.ty), (180, S_ref24_Book.ty), (182, tPV), (183, tPV), (184, tPV), (185, tPV), (186, tPV), (187, tPV), (188, S_ref24_Token.ty), (189, S_ref24_Token.ty), (190, tSl), (191, S_ref24_Object.ty), (192, S_ref24_Object.ty), (193, tPV), (194, tPV), (195, tPV), (196, tPV), (197, tPV), (198, tPV), (199, tSl), (201, tPV), (202, tPV), (203, S_ref04_Draws.ty), (204, S_ref04_Draws.ty), (205, tSl), (206, S_draws_Draws.ty), (207, S_draws_Draws.ty), (208, tPtr), (210, tPV), (211, tPtr), (213, tPV), (214, S_catalogue_parts.ty), (215, S_catalogue_parts.ty), (216, tMap), (217, S_catalogue_Catalogue.ty), (218, S_catalogue_Catalogue.ty), (219, tSl), (220, S_ref11_Catalogue.ty), (221, S_ref11_Catalogue.ty), (222, tPV), (223, tPV), (224, tPV), (225, tPV), (226, tPV), (227, tPV), (228, tPV), (229, S_ref11_Place.ty), (230, S_ref11_Place.ty), (231, tPV), (232, tPV), (233, tPV), (234, tPV), (236, tPV), (237, tPV), (238, tPV), (239, tPV), (240, tPV), (241, tPV), (242, tPV), (243, tPtr), (245, tPV), (246, tPV), (247, S_validate_Validator.ty), (248, S_validate_Validator.ty), (249, tPV), (251, tPV), (252, tMap), (253, tSl), (254, S_plain_Model.ty), (255, S_plain_Model.ty), (256, tPV), (258, tPV), (259, tPV), (260, tPV), (261, tPV), (262, tPV), (263, S_book_token.ty), (264, S_book_token.ty), (265, tPV), (266, tPV), (267, S_book_whom.ty), (268, S_book_whom.ty), (269, tPV), (270, tPV), (271, tPV), (272, tPV), (273, tPV), (275, tPV), (276, tPV), (277, tPV), (278, S_ref21_Held.ty), (279, S_ref21_Held.ty), (280, tPV), (281, tPV), (282, tPV), (283, (tInt .u64)), (284, S_book_Link.ty), (285, S_ref24_Telling.ty), (286, S_ref24_Telling.ty), (287, tPV), (288, S_ref24_Laid.ty), (289, S_ref24_Laid.ty), (290, tPV), (291, tPV), (292, tSl), (293, S_slots_Table_int.ty), (294, S_slots_Table_int.ty), (295, tSl), (296, S_kin_Tree.ty), (297, S_kin_Tree.ty), (298, tPV), (299, tPV), (300, (tInt .u8)), (301, S_slots_place_int.ty), (302, S_slots_place_int.ty), (303, tPV), (304, tPV), (305, tPV), (306, tPV), (307, tPV), (308, tPV), (309, tPV), (310, tPV), (311, S_kin_node.ty), (312, S_kin_node.ty), (313, tPtr), (314, tPV), (315, tPV), (316, S_cache_place.ty), (317, S_cache_place.ty), (318, S_cache_set.ty), (319, S_cache_set.ty), (324, S_validate_lately.ty), (325, S_validate_lately.ty), (326, S_validate_now.ty), (327, S_validate_now.ty), (328, tSl), (329, tPV), (330, tPV), (331, tPV), (332, tPV), (333, tPV), (334, S_plain_token.ty), (335, S_plain_token.ty), (337, tPV), (339, tPV), (340, tPV), (341, tPV), (342, tPV), (343, tPV), (344, tPV), (345, tPV), (346, tMap), (348, tPV), (349, S_book_laid.ty), (350, S_book_laid.ty), (352, tPV), (353, tPV), (354, tPV), (355, tPV), (356, tPV), (357, tPtr), (358, tPV), (359, tPV), (360, tPV), (361, tPV), (362, tPV), (363, tPV), (364, tPV), (365, tPV), (366, tPV), (367, tPV), (368, tPV), (369, tPV), (370, (tInt .i64)), (372, tPV), (373, tPV), (374, tPV), (375, tPV), (376, tPV), (377, (tInt .u32)), (378, tPV), (379, (tInt .u64)), (380, tPV), (381, tPV), (382, tPV), (383, tPtr), (384, tPV), (385, tPtr), (386, tPV), (387, tPV), (388, S_runtime_TypeAssertionError.ty), (389, S_runtime_TypeAssertionError.ty), (393, (tInt .u8)), (394, (tInt .u8)), (395, tPV), (396, tPtr), (397, (tInt .i32)), (398, (tInt .i32)), (399, S_internal_abi_Type.ty), (400, S_internal_abi_Type.ty)]
theorem callee3 : Callee Try.prog 3 Try.f3 := ⟨Try.func3, by kernel_rfl, by kernel_rfl⟩
theorem callee4 : Callee Try.prog 4 Try.f4 := ⟨Try.func4, by kernel_rfl, by kernel_rfl⟩
theorem callee5 : Callee Try.prog 5 Try.f5 := ⟨Try.func5, by kernel_rfl, by kernel_rfl⟩
theorem callee6 : Callee Try.prog 6 Try.f6 := ⟨Try.func6, by kernel_rfl, by kernel_rfl⟩
theorem callee7 : Callee Try.prog 7 Try.f7 := ⟨Try.func7, by kernel_rfl, by kernel_rfl⟩
theorem callee8 : Callee Try.prog 8 Try.f8 := ⟨Try.func8, by kernel_rfl, by kernel_rfl⟩
theorem callee9 : Callee Try.prog 9 Try.f9 := ⟨Try.func9, by kernel_rfl, by kernel_rfl⟩
theorem callee10 : Callee Try.prog 10 Try.f10 := ⟨Try.func10, by kernel_rfl, by kernel_rfl⟩
theorem callee11 : Callee Try.prog 11 Try.f11 := ⟨Try.func11, by kernel_rfl, by kernel_rfl⟩
theorem callee12 : Callee Try.prog 12 Try.f12 := ⟨Try.func12, by kernel_rfl, by kernel_rfl⟩
theorem callee13 : Callee Try.prog 13 Try.f13 := ⟨Try.func13, by kernel_rfl, by kernel_rfl⟩
theorem callee14 : Callee Try.prog 14 Try.f14 := ⟨Try.func14, by kernel_rfl, by kernel_rfl⟩
theorem callee15 : Callee Try.prog 15 Try.f15 := ⟨Try.func15, by kernel_rfl, by kernel_rfl⟩
theorem callee16 : Callee Try.prog 16 Try.f16 := ⟨Try.func16, by kernel_rfl, by kernel_rfl⟩
theorem callee17 : Callee Try.prog 17 Try.f17 := ⟨Try.func17, by kernel_rfl, by kernel_rfl⟩
theorem callee18 : Callee Try.prog 18 Try.f18 := ⟨Try.func18, by kernel_rfl, by kernel_rfl⟩
theorem callee19 : Callee Try.prog 19 Try.f19 := ⟨Try.func19, by kernel_rfl, by kernel_rfl⟩
theorem callee20 : Callee Try.prog 20 Try.f20 := ⟨Try.func20, by kernel_rfl, by kernel_rfl⟩
theorem callee21 : Callee Try.prog 21 Try.f21 := ⟨Try.func21, by kernel_rfl, by kernel_rfl⟩
theorem callee22 : Callee Try.prog 22 Try.f22 := ⟨Try.func22, by kernel_rfl, by kernel_rfl⟩
theorem callee23 : Callee Try.prog 23 Try.f23 := ⟨Try.func23, by kernel_rfl, by kernel_rfl⟩
theorem callee24 : Callee Try.prog 24 Try.f24 := ⟨Try.func24, by kernel_rfl, by kernel_rfl⟩
theorem callee25 : Callee Try.prog 25 Try.f25 := ⟨Try.func25, by kernel_rfl, by kernel_rfl⟩
theorem callee26 : Callee Try.prog 26 Try.f26 := ⟨Try.func26, by kernel_rfl, by kernel_rfl⟩
theorem callee27 : Callee Try.prog 27 Try.f27 := ⟨Try.func27, by kernel_rfl, by kernel_rfl⟩
theorem callee28 : Callee Try.prog 28 Try.f28 := ⟨Try.func28, by kernel_rfl, by kernel_rfl⟩
theorem callee29 : Callee Try.prog 29 Try.f29 := ⟨Try.func29, by kernel_rfl, by kernel_rfl⟩
theorem callee30 : Callee Try.prog 30 Try.f30 := ⟨Try.func30, by kernel_rfl, by kernel_rfl⟩
theorem callee31 : Callee Try.prog 31 Try.f31 := ⟨Try.func31, by kernel_rfl, by kernel_rfl⟩
theorem callee32 : Callee Try.prog 32 Try.f32 := ⟨Try.func32, by kernel_rfl, by kernel_rfl⟩
theorem callee33 : Callee Try.prog 33 Try.f33 := ⟨Try.func33, by kernel_rfl, by kernel_rfl⟩
theorem callee34 : Callee Try.prog 34 Try.f34 := ⟨Try.func34, by kernel_rfl, by kernel_rfl⟩
theorem callee35 : Callee Try.prog 35 Try.f35 := ⟨Try.func35, by kernel_rfl, by kernel_rfl⟩
theorem callee36 : Callee Try.prog 36 Try.f36 := ⟨Try.func36, by kernel_rfl, by kernel_rfl⟩
theorem callee37 : Callee Try.prog 37 Try.f37 := ⟨Try.func37, by kernel_rfl, by kernel_rfl⟩
theorem callee38 : Callee Try.prog 38 Try.f38 := ⟨Try.func38, by kernel_rfl, by kernel_rfl⟩
theorem callee39 : Callee Try.prog 39 Try.f39 := ⟨Try.func39, by kernel_rfl, by kernel_rfl⟩
theorem callee40 : Callee Try.prog 40 Try.f40 := ⟨Try.func40, by kernel_rfl, by kernel_rfl⟩
theorem callee41 : Callee Try.prog 41 Try.f41 := ⟨Try.func41, by kernel_rfl, by kernel_rfl⟩
theorem callee42 : Callee Try.prog 42 Try.f42 := ⟨Try.func42, by kernel_rfl, by kernel_rfl⟩
theorem callee43 : Callee Try.prog 43 Try.f43 := ⟨Try.func43, by kernel_rfl, by kernel_rfl⟩
theorem callee44 : Callee Try.prog 44 Try.f44 := ⟨Try.func44, by kernel_rfl, by kernel_rfl⟩
theorem callee45 : Callee Try.prog 45 Try.f45 := ⟨Try.func45, by kernel_rfl, by kernel_rfl⟩
theorem callee46 : Callee Try.prog 46 Try.f46 := ⟨Try.func46, by kernel_rfl, by kernel_rfl⟩
theorem callee47 : Callee Try.prog 47 Try.f47 := ⟨Try.func47, by kernel_rfl, by kernel_rfl⟩
theorem callee48 : Callee Try.prog 48 Try.f48 := ⟨Try.func48, by kernel_rfl, by kernel_rfl⟩
theorem callee49 : Callee Try.prog 49 Try.f49 := ⟨Try.func49, by kernel_rfl, by kernel_rfl⟩
theorem callee50 : Callee Try.prog 50 Try.f50 := ⟨Try.func50, by kernel_rfl, by kernel_rfl⟩
theorem callee51 : Callee Try.prog 51 Try.f51 := ⟨Try.func51, by kernel_rfl, by kernel_rfl⟩
theorem callee52 : Callee Try.prog 52 Try.f52 := ⟨Try.func52, by kernel_rfl, by kernel_rfl⟩
theorem callee53 : Callee Try.prog 53 Try.f53 := ⟨Try.func53, by kernel_rfl, by kernel_rfl⟩
theorem callee54 : Callee Try.prog 54 Try.f54 := ⟨Try.func54, by kernel_rfl, by kernel_rfl⟩
theorem callee55 : Callee Try.prog 55 Try.f55 := ⟨Try.func55, by kernel_rfl, by kernel_rfl⟩
theorem callee56 : Callee Try.prog 56 Try.f56 := ⟨Try.func56, by kernel_rfl, by kernel_rfl⟩
theorem callee57 : Callee Try.prog 57 Try.f57 := ⟨Try.func57, by kernel_rfl, by kernel_rfl⟩
theorem callee58 : Callee Try.prog 58 Try.f58 := ⟨Try.func58, by kernel_rfl, by kernel_rfl⟩
theorem callee59 : Callee Try.prog 59 Try.f59 := ⟨Try.func59, by kernel_rfl, by kernel_rfl⟩
theorem callee60 : Callee Try.prog 60 Try.f60 := ⟨Try.func60, by kernel_rfl, by kernel_rfl⟩
theorem callee61 : Callee Try.prog 61 Try.f61 := ⟨Try.func61, by kernel_rfl, by kernel_rfl⟩
theorem callee62 : Callee Try.prog 62 Try.f62 := ⟨Try.func62, by kernel_rfl, by kernel_rfl⟩
theorem callee63 : Callee Try.prog 63 Try.f63 := ⟨Try.func63, by kernel_rfl, by kernel_rfl⟩
theorem callee64 : Callee Try.prog 64 Try.f64 := ⟨Try.func64, by kernel_rfl, by kernel_rfl⟩
theorem callee65 : Callee Try.prog 65 Try.f65 := ⟨Try.func65, by kernel_rfl, by kernel_rfl⟩
theorem callee66 : Callee Try.prog 66 Try.f66 := ⟨Try.func66, by kernel_rfl, by kernel_rfl⟩
theorem callee67 : Callee Try.prog 67 Try.f67 := ⟨Try.func67, by kernel_rfl, by kernel_rfl⟩
theorem callee68 : Callee Try.prog 68 Try.f68 := ⟨Try.func68, by kernel_rfl, by kernel_rfl⟩
theorem callee69 : Callee Try.prog 69 Try.f69 := ⟨Try.func69, by kernel_rfl, by kernel_rfl⟩
theorem callee70 : Callee Try.prog 70 Try.f70 := ⟨Try.func70, by kernel_rfl, by kernel_rfl⟩
theorem callee71 : Callee Try.prog 71 Try.f71 := ⟨Try.func71, by kernel_rfl, by kernel_rfl⟩
theorem callee72 : Callee Try.prog 72 Try.f72 := ⟨Try.func72, by kernel_rfl, by kernel_rfl⟩
theorem callee73 : Callee Try.prog 73 Try.f73 := ⟨Try.func73, by kernel_rfl, by kernel_rfl⟩
theorem callee74 : Callee Try.prog 74 Try.f74 := ⟨Try.func74, by kernel_rfl, by kernel_rfl⟩
theorem callee75 : Callee Try.prog 75 Try.f75 := ⟨Try.func75, by kernel_rfl, by kernel_rfl⟩
theorem callee76 : Callee Try.prog 76 Try.f76 := ⟨Try.func76, by kernel_rfl, by kernel_rfl⟩
theorem callee77 : Callee Try.prog 77 Try.f77 := ⟨Try.func77, by kernel_rfl, by kernel_rfl⟩
theorem callee78 : Callee Try.prog 78 Try.f78 := ⟨Try.func78, by kernel_rfl, by kernel_rfl⟩
theorem callee79 : Callee Try.prog 79 Try.f79 := ⟨Try.func79, by kernel_rfl, by kernel_rfl⟩
theorem callee80 : Callee Try.prog 80 Try.f80 := ⟨Try.func80, by kernel_rfl, by kernel_rfl⟩
theorem callee81 : Callee Try.prog 81 Try.f81 := ⟨Try.func81, by kernel_rfl, by kernel_rfl⟩
theorem callee82 : Callee Try.prog 82 Try.f82 := ⟨Try.func82, by kernel_rfl, by kernel_rfl⟩
theorem callee83 : Callee Try.prog 83 Try.f83 := ⟨Try.func83, by kernel_rfl, by kernel_rfl⟩
theorem callee84 : Callee Try.prog 84 Try.f84 := ⟨Try.func84, by kernel_rfl, by kernel_rfl⟩
theorem callee85 : Callee Try.prog 85 Try.f85 := ⟨Try.func85, by kernel_rfl, by kernel_rfl⟩
theorem callee86 : Callee Try.prog 86 Try.f86 := ⟨Try.func86, by kernel_rfl, by kernel_rfl⟩
theorem callee87 : Callee Try.prog 87 Try.f87 := ⟨Try.func87, by kernel_rfl, by kernel_rfl⟩
theorem callee88 : Callee Try.prog 88 Try.f88 := ⟨Try.func88, by kernel_rfl, by kernel_rfl⟩
theorem callee89 : Callee Try.prog 89 Try.f89 := ⟨Try.func89, by kernel_rfl, by kernel_rfl⟩
theorem callee90 : Callee Try.prog 90 Try.f90 := ⟨Try.func90, by kernel_rfl, by kernel_rfl⟩
theorem callee91 : Callee Try.prog 91 Try.f91 := ⟨Try.func91, by kernel_rfl, by kernel_rfl⟩
theorem callee92 : Callee Try.prog 92 Try.f92 := ⟨Try.func92, by kernel_rfl, by kernel_rfl⟩
theorem callee93 : Callee Try.prog 93 Try.f93 := ⟨Try.func93, by kernel_rfl, by kernel_rfl⟩
theorem callee94 : Callee Try.prog 94 Try.f94 := ⟨Try.func94, by kernel_rfl, by kernel_rfl⟩
theorem callee95 : Callee Try.prog 95 Try.f95 := ⟨Try.func95, by kernel_rfl, by kernel_rfl⟩
theorem callee96 : Callee Try.prog 96 Try.f96 := ⟨Try.func96, by kernel_rfl, by kernel_rfl⟩
theorem callee97 : Callee Try.prog 97 Try.f97 := ⟨Try.func97, by kernel_rfl, by kernel_rfl⟩
theorem callee98 : Callee Try.prog 98 Try.f98 := ⟨Try.func98, by kernel_rfl, by kernel_rfl⟩
theorem callee99 : Callee Try.prog 99 Try.f99 := ⟨Try.func99, by kernel_rfl, by kernel_rfl⟩
theorem callee100 : Callee Try.prog 100 Try.f100 := ⟨Try.func100, by kernel_rfl, by kernel_rfl⟩
theorem callee101 : Callee Try.prog 101 Try.f101 := ⟨Try.func101, by kernel_rfl, by kernel_rfl⟩
theorem callee102 : Callee Try.prog 102 Try.f102 := ⟨Try.func102, by kernel_rfl, by kernel_rfl⟩
theorem callee103 : Callee Try.prog 103 Try.f103 := ⟨Try.func103, by kernel_rfl, by kernel_rfl⟩
theorem callee104 : Callee Try.prog 104 Try.f104 := ⟨Try.func104, by kernel_rfl, by kernel_rfl⟩
theorem callee105 : Callee Try.prog 105 Try.f105 := ⟨Try.func105, by kernel_rfl, by kernel_rfl⟩
theorem callee106 : Callee Try.prog 106 Try.f106 := ⟨Try.func106, by kernel_rfl, by kernel_rfl⟩
theorem callee107 : Callee Try.prog 107 Try.f107 := ⟨Try.func107, by kernel_rfl, by kernel_rfl⟩
theorem callee108 : Callee Try.prog 108 Try.f108 := ⟨Try.func108, by kernel_rfl, by kernel_rfl⟩
theorem callee109 : Callee Try.prog 109 Try.f109 := ⟨Try.func109, by kernel_rfl, by kernel_rfl⟩
theorem callee110 : Callee Try.prog 110 Try.f110 := ⟨Try.func110, by kernel_rfl, by kernel_rfl⟩
theorem callee111 : Callee Try.prog 111 Try.f111 := ⟨Try.func111, by kernel_rfl, by kernel_rfl⟩
theorem callee112 : Callee Try.prog 112 Try.f112 := ⟨Try.func112, by kernel_rfl, by kernel_rfl⟩
theorem callee113 : Callee Try.prog 113 Try.f113 := ⟨Try.func113, by kernel_rfl, by kernel_rfl⟩
theorem callee114 : Callee Try.prog 114 Try.f114 := ⟨Try.func114, by kernel_rfl, by kernel_rfl⟩
theorem callee115 : Callee Try.prog 115 Try.f115 := ⟨Try.func115, by kernel_rfl, by kernel_rfl⟩
theorem callee116 : Callee Try.prog 116 Try.f116 := ⟨Try.func116, by kernel_rfl, by kernel_rfl⟩
theorem callee117 : Callee Try.prog 117 Try.f117 := ⟨Try.func117, by kernel_rfl, by kernel_rfl⟩
theorem callee118 : Callee Try.prog 118 Try.f118 := ⟨Try.func118, by kernel_rfl, by kernel_rfl⟩
theorem callee119 : Callee Try.prog 119 Try.f119 := ⟨Try.func119, by kernel_rfl, by kernel_rfl⟩
theorem callee120 : Callee Try.prog 120 Try.f120 := ⟨Try.func120, by kernel_rfl, by kernel_rfl⟩
theorem callee121 : Callee Try.prog 121 Try.f121 := ⟨Try.func121, by kernel_rfl, by kernel_rfl⟩
theorem callee122 : Callee Try.prog 122 Try.f122 := ⟨Try.func122, by kernel_rfl, by kernel_rfl⟩
theorem callee123 : Callee Try.prog 123 Try.f123 := ⟨Try.func123, by kernel_rfl, by kernel_rfl⟩
theorem callee124 : Callee Try.prog 124 Try.f124 := ⟨Try.func124, by kernel_rfl, by kernel_rfl⟩
theorem callee125 : Callee Try.prog 125 Try.f125 := ⟨Try.func125, by kernel_rfl, by kernel_rfl⟩
theorem callee126 : Callee Try.prog 126 Try.f126 := ⟨Try.func126, by kernel_rfl, by kernel_rfl⟩
theorem callee127 : Callee Try.prog 127 Try.f127 := ⟨Try.func127, by kernel_rfl, by kernel_rfl⟩
theorem callee128 : Callee Try.prog 128 Try.f128 := ⟨Try.func128, by kernel_rfl, by kernel_rfl⟩
theorem callee129 : Callee Try.prog 129 Try.f129 := ⟨Try.func129, by kernel_rfl, by kernel_rfl⟩
theorem callee130 : Callee Try.prog 130 Try.f130 := ⟨Try.func130, by kernel_rfl, by kernel_rfl⟩
theorem callee131 : Callee Try.prog 131 Try.f131 := ⟨Try.func131, by kernel_rfl, by kernel_rfl⟩
theorem callee132 : Callee Try.prog 132 Try.f132 := ⟨Try.func132, by kernel_rfl, by kernel_rfl⟩
theorem callee133 : Callee Try.prog 133 Try.f133 := ⟨Try.func133, by kernel_rfl, by kernel_rfl⟩
theorem callee134 : Callee Try.prog 134 Try.f134 := ⟨Try.func134, by kernel_rfl, by kernel_rfl⟩
theorem callee135 : Callee Try.prog 135 Try.f135 := ⟨Try.func135, by kernel_rfl, by kernel_rfl⟩
theorem callee136 : Callee Try.prog 136 Try.f136 := ⟨Try.func136, by kernel_rfl, by kernel_rfl⟩
theorem callee137 : Callee Try.prog 137 Try.f137 := ⟨Try.func137, by kernel_rfl, by kernel_rfl⟩
theorem callee138 : Callee Try.prog 138 Try.f138 := ⟨Try.func138, by kernel_rfl, by kernel_rfl⟩
theorem callee139 : Callee Try.prog 139 Try.f139 := ⟨Try.func139, by kernel_rfl, by kernel_rfl⟩
theorem callee140 : Callee Try.prog 140 Try.f140 := ⟨Try.func140, by kernel_rfl, by kernel_rfl⟩
theorem callee141 : Callee Try.prog 141 Try.f141 := ⟨Try.func141, by kernel_rfl, by kernel_rfl⟩
theorem callee142 : Callee Try.prog 142 Try.f142 := ⟨Try.func142, by kernel_rfl, by kernel_rfl⟩
theorem callee143 : Callee Try.prog 143 Try.f143 := ⟨Try.func143, by kernel_rfl, by kernel_rfl⟩
theorem callee144 : Callee Try.prog 144 Try.f144 := ⟨Try.func144, by kernel_rfl, by kernel_rfl⟩
theorem callee145 : Callee Try.prog 145 Try.f145 := ⟨Try.func145, by kernel_rfl, by kernel_rfl⟩
theorem callee146 : Callee Try.prog 146 Try.f146 := ⟨Try.func146, by kernel_rfl, by kernel_rfl⟩
theorem callee147 : Callee Try.prog 147 Try.f147 := ⟨Try.func147, by kernel_rfl, by kernel_rfl⟩
theorem callee148 : Callee Try.prog 148 Try.f148 := ⟨Try.func148, by kernel_rfl, by kernel_rfl⟩
theorem callee149 : Callee Try.prog 149 Try.f149 := ⟨Try.func149, by kernel_rfl, by kernel_rfl⟩
theorem callee150 : Callee Try.prog 150 Try.f150 := ⟨Try.func150, by kernel_rfl, by kernel_rfl⟩
theorem callee151 : Callee Try.prog 151 Try.f151 := ⟨Try.func151, by kernel_rfl, by kernel_rfl⟩
theorem callee152 : Callee Try.prog 152 Try.f152 := ⟨Try.func152, by kernel_rfl, by kernel_rfl⟩
theorem callee153 : Callee Try.prog 153 Try.f153 := ⟨Try.func153, by kernel_rfl, by kernel_rfl⟩
theorem callee154 : Callee Try.prog 154 Try.f154 := ⟨Try.func154, by kernel_rfl, by kernel_rfl⟩
theorem callee155 : Callee Try.prog 155 Try.f155 := ⟨Try.func155, by kernel_rfl, by kernel_rfl⟩
theorem callee156 : Callee Try.prog 156 Try.f156 := ⟨Try.func156, by kernel_rfl, by kernel_rfl⟩
theorem callee157 : Callee Try.prog 157 Try.f157 := ⟨Try.func157, by kernel_rfl, by kernel_rfl⟩
theorem callee158 : Callee Try.prog 158 Try.f158 := ⟨Try.func158, by kernel_rfl, by kernel_rfl⟩
theorem callee159 : Callee Try.prog 159 Try.f159 := ⟨Try.func159, by kernel_rfl, by kernel_rfl⟩
theorem callee160 : Callee Try.prog 160 Try.f160 := ⟨Try.func160, by kernel_rfl, by kernel_rfl⟩
theorem callee161 : Callee Try.prog 161 Try.f161 := ⟨Try.func161, by kernel_rfl, by kernel_rfl⟩
theorem callee162 : Callee Try.prog 162 Try.f162 := ⟨Try.func162, by kernel_rfl, by kernel_rfl⟩
theorem callee163 : Callee Try.prog 163 Try.f163 := ⟨Try.func163, by kernel_rfl, by kernel_rfl⟩
theorem callee164 : Callee Try.prog 164 Try.f164 := ⟨Try.func164, by kernel_rfl, by kernel_rfl⟩
theorem callee165 : Callee Try.prog 165 Try.f165 := ⟨Try.func165, by kernel_rfl, by kernel_rfl⟩
theorem callee166 : Callee Try.prog 166 Try.f166 := ⟨Try.func166, by kernel_rfl, by kernel_rfl⟩
theorem callee167 : Callee Try.prog 167 Try.f167 := ⟨Try.func167, by kernel_rfl, by kernel_rfl⟩
theorem callee168 : Callee Try.prog 168 Try.f168 := ⟨Try.func168, by kernel_rfl, by kernel_rfl⟩
theorem callee169 : Callee Try.prog 169 Try.f169 := ⟨Try.func169, by kernel_rfl, by kernel_rfl⟩
theorem callee170 : Callee Try.prog 170 Try.f170 := ⟨Try.func170, by kernel_rfl, by kernel_rfl⟩
theorem callee171 : Callee Try.prog 171 Try.f171 := ⟨Try.func171, by kernel_rfl, by kernel_rfl⟩
theorem callee172 : Callee Try.prog 172 Try.f172 := ⟨Try.func172, by kernel_rfl, by kernel_rfl⟩
theorem callee173 : Callee Try.prog 173 Try.f173 := ⟨Try.func173, by kernel_rfl, by kernel_rfl⟩
theorem callee174 : Callee Try.prog 174 Try.f174 := ⟨Try.func174, by kernel_rfl, by kernel_rfl⟩
theorem callee175 : Callee Try.prog 175 Try.f175 := ⟨Try.func175, by kernel_rfl, by kernel_rfl⟩
theorem callee176 : Callee Try.prog 176 Try.f176 := ⟨Try.func176, by kernel_rfl, by kernel_rfl⟩
theorem callee177 : Callee Try.prog 177 Try.f177 := ⟨Try.func177, by kernel_rfl, by kernel_rfl⟩
theorem callee178 : Callee Try.prog 178 Try.f178 := ⟨Try.func178, by kernel_rfl, by kernel_rfl⟩
theorem callee179 : Callee Try.prog 179 Try.f179 := ⟨Try.func179, by kernel_rfl, by kernel_rfl⟩
theorem callee180 : Callee Try.prog 180 Try.f180 := ⟨Try.func180, by kernel_rfl, by kernel_rfl⟩
theorem callee181 : Callee Try.prog 181 Try.f181 := ⟨Try.func181, by kernel_rfl, by kernel_rfl⟩
theorem callee182 : Callee Try.prog 182 Try.f182 := ⟨Try.func182, by kernel_rfl, by kernel_rfl⟩
theorem callee183 : Callee Try.prog 183 Try.f183 := ⟨Try.func183, by kernel_rfl, by kernel_rfl⟩
theorem callee184 : Callee Try.prog 184 Try.f184 := ⟨Try.func184, by kernel_rfl, by kernel_rfl⟩
theorem callee185 : Callee Try.prog 185 Try.f185 := ⟨Try.func185, by kernel_rfl, by kernel_rfl⟩
theorem callee186 : Callee Try.prog 186 Try.f186 := ⟨Try.func186, by kernel_rfl, by kernel_rfl⟩
theorem callee187 : Callee Try.prog 187 Try.f187 := ⟨Try.func187, by kernel_rfl, by kernel_rfl⟩
theorem callee188 : Callee Try.prog 188 Try.f188 := ⟨Try.func188, by kernel_rfl, by kernel_rfl⟩
theorem callee189 : Callee Try.prog 189 Try.f189 := ⟨Try.func189, by kernel_rfl, by kernel_rfl⟩
theorem callee190 : Callee Try.prog 190 Try.f190 := ⟨Try.func190, by kernel_rfl, by kernel_rfl⟩
theorem callee191 : Callee Try.prog 191 Try.f191 := ⟨Try.func191, by kernel_rfl, by kernel_rfl⟩
theorem callee192 : Callee Try.prog 192 Try.f192 := ⟨Try.func192, by kernel_rfl, by kernel_rfl⟩
theorem callee193 : Callee Try.prog 193 Try.f193 := ⟨Try.func193, by kernel_rfl, by kernel_rfl⟩
theorem callee194 : Callee Try.prog 194 Try.f194 := ⟨Try.func194, by kernel_rfl, by kernel_rfl⟩
theorem callee195 : Callee Try.prog 195 Try.f195 := ⟨Try.func195, by kernel_rfl, by kernel_rfl⟩
theorem callee196 : Callee Try.prog 196 Try.f196 := ⟨Try.func196, by kernel_rfl, by kernel_rfl⟩
theorem callee197 : Callee Try.prog 197 Try.f197 := ⟨Try.func197, by kernel_rfl, by kernel_rfl⟩
theorem callee198 : Callee Try.prog 198 Try.f198 := ⟨Try.func198, by kernel_rfl, by kernel_rfl⟩
theorem callee199 : Callee Try.prog 199 Try.f199 := ⟨Try.func199, by kernel_rfl, by kernel_rfl⟩
theorem callee200 : Callee Try.prog 200 Try.f200 := ⟨Try.func200, by kernel_rfl, by kernel_rfl⟩
theorem callee201 : Callee Try.prog 201 Try.f201 := ⟨Try.func201, by kernel_rfl, by kernel_rfl⟩
theorem callee202 : Callee Try.prog 202 Try.f202 := ⟨Try.func202, by kernel_rfl, by kernel_rfl⟩
theorem callee203 : Callee Try.prog 203 Try.f203 := ⟨Try.func203, by kernel_rfl, by kernel_rfl⟩
theorem callee204 : Callee Try.prog 204 Try.f204 := ⟨Try.func204, by kernel_rfl, by kernel_rfl⟩
theorem callee205 : Callee Try.prog 205 Try.f205 := ⟨Try.func205, by kernel_rfl, by kernel_rfl⟩
theorem callee206 : Callee Try.prog 206 Try.f206 := ⟨Try.func206, by kernel_rfl, by kernel_rfl⟩
theorem callee207 : Callee Try.prog 207 Try.f207 := ⟨Try.func207, by kernel_rfl, by kernel_rfl⟩
theorem callee208 : Callee Try.prog 208 Try.f208 := ⟨Try.func208, by kernel_rfl, by kernel_rfl⟩
theorem callee209 : Callee Try.prog 209 Try.f209 := ⟨Try.func209, by kernel_rfl, by kernel_rfl⟩
theorem callee210 : Callee Try.prog 210 Try.f210 := ⟨Try.func210, by kernel_rfl, by kernel_rfl⟩
theorem callee211 : Callee Try.prog 211 Try.f211 := ⟨Try.func211, by kernel_rfl, by kernel_rfl⟩
theorem callee212 : Callee Try.prog 212 Try.f212 := ⟨Try.func212, by kernel_rfl, by kernel_rfl⟩
theorem callee213 : Callee Try.prog 213 Try.f213 := ⟨Try.func213, by kernel_rfl, by kernel_rfl⟩
theorem callee214 : Callee Try.prog 214 Try.f214 := ⟨Try.func214, by kernel_rfl, by kernel_rfl⟩
theorem callee215 : Callee Try.prog 215 Try.f215 := ⟨Try.func215, by kernel_rfl, by kernel_rfl⟩
theorem callee216 : Callee Try.prog 216 Try.f216 := ⟨Try.func216, by kernel_rfl, by kernel_rfl⟩
theorem callee217 : Callee Try.prog 217 Try.f217 := ⟨Try.func217, by kernel_rfl, by kernel_rfl⟩
theorem callee218 : Callee Try.prog 218 Try.f218 := ⟨Try.func218, by kernel_rfl, by kernel_rfl⟩
theorem callee219 : Callee Try.prog 219 Try.f219 := ⟨Try.func219, by kernel_rfl, by kernel_rfl⟩
theorem callee220 : Callee Try.prog 220 Try.f220 := ⟨Try.func220, by kernel_rfl, by kernel_rfl⟩
theorem callee221 : Callee Try.prog 221 Try.f221 := ⟨Try.func221, by kernel_rfl, by kernel_rfl⟩
theorem callee222 : Callee Try.prog 222 Try.f222 := ⟨Try.func222, by kernel_rfl, by kernel_rfl⟩
theorem callee223 : Callee Try.prog 223 Try.f223 := ⟨Try.func223, by kernel_rfl, by kernel_rfl⟩
theorem callee224 : Callee Try.prog 224 Try.f224 := ⟨Try.func224, by kernel_rfl, by kernel_rfl⟩
theorem callee225 : Callee Try.prog 225 Try.f225 := ⟨Try.func225, by kernel_rfl, by kernel_rfl⟩
theorem callee226 : Callee Try.prog 226 Try.f226 := ⟨Try.func226, by kernel_rfl, by kernel_rfl⟩
theorem callee227 : Callee Try.prog 227 Try.f227 := ⟨Try.func227, by kernel_rfl, by kernel_rfl⟩
theorem callee228 : Callee Try.prog 228 Try.f228 := ⟨Try.func228, by kernel_rfl, by kernel_rfl⟩
theorem callee229 : Callee Try.prog 229 Try.f229 := ⟨Try.func229, by kernel_rfl, by kernel_rfl⟩
theorem callee230 : Callee Try.prog 230 Try.f230 := ⟨Try.func230, by kernel_rfl, by kernel_rfl⟩
theorem callee231 : Callee Try.prog 231 Try.f231 := ⟨Try.func231, by kernel_rfl, by kernel_rfl⟩
theorem callee232 : Callee Try.prog 232 Try.f232 := ⟨Try.func232, by kernel_rfl, by kernel_rfl⟩
theorem callee233 : Callee Try.prog 233 Try.f233 := ⟨Try.func233, by kernel_rfl, by kernel_rfl⟩
theorem callee234 : Callee Try.prog 234 Try.f234 := ⟨Try.func234, by kernel_rfl, by kernel_rfl⟩
theorem callee235 : Callee Try.prog 235 Try.f235 := ⟨Try.func235, by kernel_rfl, by kernel_rfl⟩
theorem callee236 : Callee Try.prog 236 Try.f236 := ⟨Try.func236, by kernel_rfl, by kernel_rfl⟩
theorem callee237 : Callee Try.prog 237 Try.f237 := ⟨Try.func237, by kernel_rfl, by kernel_rfl⟩
theorem callee238 : Callee Try.prog 238 Try.f238 := ⟨Try.func238, by kernel_rfl, by kernel_rfl⟩
theorem callee239 : Callee Try.prog 239 Try.f239 := ⟨Try.func239, by kernel_rfl, by kernel_rfl⟩
theorem callee240 : Callee Try.prog 240 Try.f240 := ⟨Try.func240, by kernel_rfl, by kernel_rfl⟩
theorem callee241 : Callee Try.prog 241 Try.f241 := ⟨Try.func241, by kernel_rfl, by kernel_rfl⟩
theorem callee242 : Callee Try.prog 242 Try.f242 := ⟨Try.func242, by kernel_rfl, by kernel_rfl⟩
theorem callee243 : Callee Try.prog 243 Try.f243 := ⟨Try.func243, by kernel_rfl, by kernel_rfl⟩
theorem callee244 : Callee Try.prog 244 Try.f244 := ⟨Try.func244, by kernel_rfl, by kernel_rfl⟩
theorem callee245 : Callee Try.prog 245 Try.f245 := ⟨Try.func245, by kernel_rfl, by kernel_rfl⟩
theorem callee246 : Callee Try.prog 246 Try.f246 := ⟨Try.func246, by kernel_rfl, by kernel_rfl⟩
theorem callee247 : Callee Try.prog 247 Try.f247 := ⟨Try.func247, by kernel_rfl, by kernel_rfl⟩
theorem callee248 : Callee Try.prog 248 Try.f248 := ⟨Try.func248, by kernel_rfl, by kernel_rfl⟩
theorem callee249 : Callee Try.prog 249 Try.f249 := ⟨Try.func249, by kernel_rfl, by kernel_rfl⟩
theorem callee250 : Callee Try.prog 250 Try.f250 := ⟨Try.func250, by kernel_rfl, by kernel_rfl⟩
theorem callee251 : Callee Try.prog 251 Try.f251 := ⟨Try.func251, by kernel_rfl, by kernel_rfl⟩
theorem callee252 : Callee Try.prog 252 Try.f252 := ⟨Try.func252, by kernel_rfl, by kernel_rfl⟩
theorem callee253 : Callee Try.prog 253 Try.f253 := ⟨Try.func253, by kernel_rfl, by kernel_rfl⟩
theorem callee254 : Callee Try.prog 254 Try.f254 := ⟨Try.func254, by kernel_rfl, by kernel_rfl⟩
theorem callee255 : Callee Try.prog 255 Try.f255 := ⟨Try.func255, by kernel_rfl, by kernel_rfl⟩
theorem callee256 : Callee Try.prog 256 Try.f256 := ⟨Try.func256, by kernel_rfl, by kernel_rfl⟩
theorem callee257 : Callee Try.prog 257 Try.f257 := ⟨Try.func257, by kernel_rfl, by kernel_rfl⟩
theorem callee258 : Callee Try.prog 258 Try.f258 := ⟨Try.func258, by kernel_rfl, by kernel_rfl⟩
theorem callee259 : Callee Try.prog 259 Try.f259 := ⟨Try.func259, by kernel_rfl, by kernel_rfl⟩
theorem callee260 : Callee Try.prog 260 Try.f260 := ⟨Try.func260, by kernel_rfl, by kernel_rfl⟩
theorem callee261 : Callee Try.prog 261 Try.f261 := ⟨Try.func261, by kernel_rfl, by kernel_rfl⟩
theorem callee262 : Callee Try.prog 262 Try.f262 := ⟨Try.func262, by kernel_rfl, by kernel_rfl⟩
theorem callee263 : Callee Try.prog 263 Try.f263 := ⟨Try.func263, by kernel_rfl, by kernel_rfl⟩
theorem callee264 : Callee Try.prog 264 Try.f264 := ⟨Try.func264, by kernel_rfl, by kernel_rfl⟩
theorem callee265 : Callee Try.prog 265 Try.f265 := ⟨Try.func265, by kernel_rfl, by kernel_rfl⟩
theorem callee266 : Callee Try.prog 266 Try.f266 := ⟨Try.func266, by kernel_rfl, by kernel_rfl⟩
theorem callee267 : Callee Try.prog 267 Try.f267 := ⟨Try.func267, by kernel_rfl, by kernel_rfl⟩
theorem callee268 : Callee Try.prog 268 Try.f268 := ⟨Try.func268, by kernel_rfl, by kernel_rfl⟩
theorem callee269 : Callee Try.prog 269 Try.f269 := ⟨Try.func269, by kernel_rfl, by kernel_rfl⟩
theorem callee270 : Callee Try.prog 270 Try.f270 := ⟨Try.func270, by kernel_rfl, by kernel_rfl⟩
theorem callee271 : Callee Try.prog 271 Try.f271 := ⟨Try.func271, by kernel_rfl, by kernel_rfl⟩
theorem callee272 : Callee Try.prog 272 Try.f272 := ⟨Try.func272, by kernel_rfl, by kernel_rfl⟩
theorem callee273 : Callee Try.prog 273 Try.f273 := ⟨Try.func273, by kernel_rfl, by kernel_rfl⟩
theorem callee274 : Callee Try.prog 274 Try.f274 := ⟨Try.func274, by kernel_rfl, by kernel_rfl⟩
theorem callee275 : Callee Try.prog 275 Try.f275 := ⟨Try.func275, by kernel_rfl, by kernel_rfl⟩
theorem callee276 : Callee Try.prog 276 Try.f276 := ⟨Try.func276, by kernel_rfl, by kernel_rfl⟩
theorem callee277 : Callee Try.prog 277 Try.f277 := ⟨Try.func277, by kernel_rfl, by kernel_rfl⟩
theorem callee278 : Callee Try.prog 278 Try.f278 := ⟨Try.func278, by kernel_rfl, by kernel_rfl⟩
theorem callee279 : Callee Try.prog 279 Try.f279 := ⟨Try.func279, by kernel_rfl, by kernel_rfl⟩
theorem callee280 : Callee Try.prog 280 Try.f280 := ⟨Try.func280, by kernel_rfl, by kernel_rfl⟩
theorem callee281 : Callee Try.prog 281 Try.f281 := ⟨Try.func281, by kernel_rfl, by kernel_rfl⟩
theorem callee299 : Callee Try.prog 299 Try.f299 := ⟨Try.func299, by kernel_rfl, by kernel_rfl⟩
theorem callee300 : Callee Try.prog 300 Try.f300 := ⟨Try.func300, by kernel_rfl, by kernel_rfl⟩
theorem callee301 : Callee Try.prog 301 Try.f301 := ⟨Try.func301, by kernel_rfl, by kernel_rfl⟩
end Go.Proofs.Ytiajjcboddaenaa.K
