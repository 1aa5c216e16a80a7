/- Types and functions of the program, as the printed functions need them. -/
import Derived.Test.YtlnlmideghepnaaProg
import Derived.Test.YtlnlmideghepnaaQ7
import Derived.KernelRfl
namespace Go.Proofs.Ytlnlmideghepnaa.K
open Go Go.Proofs
theorem mixed : Try.prog.follows .mixedOrders = true := by kernel_rfl
structure S_book_Book where
  xsteps : Int
  xlive : Option Nat
  xlists : Option Nat
  xways : Option Nat
  xknown : Option Nat
  xbytes : Option Nat
def S_book_Book.cells (x : S_book_Book) : _root_.List Value := [(Value.int .i64 x.xsteps), (Value.map x.xlive), (Value.map x.xlists), (Value.map x.xways), (Value.map x.xknown), (Value.map x.xbytes)]
def S_book_Book.val (x : S_book_Book) : Value := .agg (S_book_Book.cells x).toArray
def S_book_Book.ty : Ty := tStruct [(tInt .i64), tMap, tMap, tMap, tMap, tMap] S_book_Book.val S_book_Book.cells (fun y => ⟨y.1, y.2.1, y.2.2.1, y.2.2.2.1, y.2.2.2.2.1, y.2.2.2.2.2⟩) (fun _ => rfl) (fun _ => rfl) (fun _ => rfl)
structure S_api_Word where
  Hi : Int
  Lo : Int
def S_api_Word.cells (x : S_api_Word) : _root_.List Value := [(Value.int .u64 x.Hi), (Value.int .u64 x.Lo)]
def S_api_Word.val (x : S_api_Word) : Value := .agg (S_api_Word.cells x).toArray
def S_api_Word.ty : Ty := tStruct [(tInt .u64), (tInt .u64)] S_api_Word.val S_api_Word.cells (fun y => ⟨y.1, y.2⟩) (fun _ => rfl) (fun _ => rfl) (fun _ => rfl)
structure S_api_Cap where
  Obj : Int
  Pass : S_api_Word
def S_api_Cap.cells (x : S_api_Cap) : _root_.List Value := [(Value.int .i64 x.Obj), (Value.int .u64 x.Pass.Hi), (Value.int .u64 x.Pass.Lo)]
def S_api_Cap.val (x : S_api_Cap) : Value := .agg (S_api_Cap.cells x).toArray
def S_api_Cap.ty : Ty := tStruct [(tInt .i64), (tInt .u64), (tInt .u64)] S_api_Cap.val S_api_Cap.cells (fun y => ⟨y.1, ⟨y.2.1, y.2.2⟩⟩) (fun _ => rfl) (fun _ => rfl) (fun _ => rfl)
structure S_book_whom where
  xproc : Int
  xc : S_api_Cap
def S_book_whom.cells (x : S_book_whom) : _root_.List Value := [(Value.int .i64 x.xproc), (Value.int .i64 x.xc.Obj), (Value.int .u64 x.xc.Pass.Hi), (Value.int .u64 x.xc.Pass.Lo)]
def S_book_whom.val (x : S_book_whom) : Value := .agg (S_book_whom.cells x).toArray
def S_book_whom.ty : Ty := tStruct [(tInt .i64), (tInt .i64), (tInt .u64), (tInt .u64)] S_book_whom.val S_book_whom.cells (fun y => ⟨y.1, ⟨y.2.1, ⟨y.2.2.1, y.2.2.2⟩⟩⟩) (fun _ => rfl) (fun _ => rfl) (fun _ => rfl)
structure S_book_Link where
  Step : Int
  Kind : Int
  By : Int
  To : Int
  Cap : S_api_Cap
def S_book_Link.cells (x : S_book_Link) : _root_.List Value := [(Value.int .i64 x.Step), (Value.int .i64 x.Kind), (Value.int .i64 x.By), (Value.int .i64 x.To), (Value.int .i64 x.Cap.Obj), (Value.int .u64 x.Cap.Pass.Hi), (Value.int .u64 x.Cap.Pass.Lo)]
def S_book_Link.val (x : S_book_Link) : Value := .agg (S_book_Link.cells x).toArray
def S_book_Link.ty : Ty := tStruct [(tInt .i64), (tInt .i64), (tInt .i64), (tInt .i64), (tInt .i64), (tInt .u64), (tInt .u64)] S_book_Link.val S_book_Link.cells (fun y => ⟨y.1, y.2.1, y.2.2.1, y.2.2.2.1, ⟨y.2.2.2.2.1, ⟨y.2.2.2.2.2.1, y.2.2.2.2.2.2⟩⟩⟩) (fun _ => rfl) (fun _ => rfl) (fun _ => rfl)
structure S_book_token where
  xrights : Int
  xparent : S_api_Cap
  xroot : Bool
def S_book_token.cells (x : S_book_token) : _root_.List Value := [(Value.int .i64 x.xrights), (Value.int .i64 x.xparent.Obj), (Value.int .u64 x.xparent.Pass.Hi), (Value.int .u64 x.xparent.Pass.Lo), (Value.bool x.xroot)]
def S_book_token.val (x : S_book_token) : Value := .agg (S_book_token.cells x).toArray
def S_book_token.ty : Ty := tStruct [(tInt .i64), (tInt .i64), (tInt .u64), (tInt .u64), tBool] S_book_token.val S_book_token.cells (fun y => ⟨y.1, ⟨y.2.1, ⟨y.2.2.1, y.2.2.2.1⟩⟩, y.2.2.2.2⟩) (fun _ => rfl) (fun _ => rfl) (fun _ => rfl)
structure S_book_laid where
  xby : Int
  xc : S_api_Cap
  xway : Sl
def S_book_laid.cells (x : S_book_laid) : _root_.List Value := [(Value.int .i64 x.xby), (Value.int .i64 x.xc.Obj), (Value.int .u64 x.xc.Pass.Hi), (Value.int .u64 x.xc.Pass.Lo), (Sl.val x.xway)]
def S_book_laid.val (x : S_book_laid) : Value := .agg (S_book_laid.cells x).toArray
def S_book_laid.ty : Ty := tStruct [(tInt .i64), (tInt .i64), (tInt .u64), (tInt .u64), tSl] S_book_laid.val S_book_laid.cells (fun y => ⟨y.1, ⟨y.2.1, ⟨y.2.2.1, y.2.2.2.1⟩⟩, y.2.2.2.2⟩) (fun _ => rfl) (fun _ => rfl) (fun _ => rfl)
structure S_api_Call where
  Op : Int
  By : Int
  Size : Int
  Cap : S_api_Cap
  Given : Bool
  Rights : Int
  Off : Int
  N : Int
  Data : Sl
  Index : Int
  Gifts : Sl
def S_api_Call.cells (x : S_api_Call) : _root_.List Value := [(Value.int .i64 x.Op), (Value.int .i64 x.By), (Value.int .i64 x.Size), (Value.int .i64 x.Cap.Obj), (Value.int .u64 x.Cap.Pass.Hi), (Value.int .u64 x.Cap.Pass.Lo), (Value.bool x.Given), (Value.int .i64 x.Rights), (Value.int .i64 x.Off), (Value.int .i64 x.N), (Sl.val x.Data), (Value.int .i64 x.Index), (Sl.val x.Gifts)]
def S_api_Call.val (x : S_api_Call) : Value := .agg (S_api_Call.cells x).toArray
def S_api_Call.ty : Ty := tStruct [(tInt .i64), (tInt .i64), (tInt .i64), (tInt .i64), (tInt .u64), (tInt .u64), tBool, (tInt .i64), (tInt .i64), (tInt .i64), tSl, (tInt .i64), tSl] S_api_Call.val S_api_Call.cells (fun y => ⟨y.1, y.2.1, y.2.2.1, ⟨y.2.2.2.1, ⟨y.2.2.2.2.1, y.2.2.2.2.2.1⟩⟩, y.2.2.2.2.2.2.1, y.2.2.2.2.2.2.2.1, y.2.2.2.2.2.2.2.2.1, y.2.2.2.2.2.2.2.2.2.1, y.2.2.2.2.2.2.2.2.2.2.1, y.2.2.2.2.2.2.2.2.2.2.2.1, y.2.2.2.2.2.2.2.2.2.2.2.2⟩) (fun _ => rfl) (fun _ => rfl) (fun _ => rfl)
structure S_api_Reply where
  Code : Int
  Cap : S_api_Cap
  Data : Sl
  Number : Int
def S_api_Reply.cells (x : S_api_Reply) : _root_.List Value := [(Value.int .i64 x.Code), (Value.int .i64 x.Cap.Obj), (Value.int .u64 x.Cap.Pass.Hi), (Value.int .u64 x.Cap.Pass.Lo), (Sl.val x.Data), (Value.int .i64 x.Number)]
def S_api_Reply.val (x : S_api_Reply) : Value := .agg (S_api_Reply.cells x).toArray
def S_api_Reply.ty : Ty := tStruct [(tInt .i64), (tInt .i64), (tInt .u64), (tInt .u64), tSl, (tInt .i64)] S_api_Reply.val S_api_Reply.cells (fun y => ⟨y.1, ⟨y.2.1, ⟨y.2.2.1, y.2.2.2.1⟩⟩, y.2.2.2.2.1, y.2.2.2.2.2⟩) (fun _ => rfl) (fun _ => rfl) (fun _ => rfl)
structure S_api_Config where
  Width : Int
  Objects : Int
  Pages : Int
  Entries : Int
  Quota : Int
  Procs : Int
  List : Int
  Sets : Int
  Ways : Int
  Knob : Int
def S_api_Config.cells (x : S_api_Config) : _root_.List Value := [(Value.int .i64 x.Width), (Value.int .i64 x.Objects), (Value.int .i64 x.Pages), (Value.int .i64 x.Entries), (Value.int .i64 x.Quota), (Value.int .i64 x.Procs), (Value.int .i64 x.List), (Value.int .i64 x.Sets), (Value.int .i64 x.Ways), (Value.int .i64 x.Knob)]
def S_api_Config.val (x : S_api_Config) : Value := .agg (S_api_Config.cells x).toArray
def S_api_Config.ty : Ty := tStruct [(tInt .i64), (tInt .i64), (tInt .i64), (tInt .i64), (tInt .i64), (tInt .i64), (tInt .i64), (tInt .i64), (tInt .i64), (tInt .i64)] S_api_Config.val S_api_Config.cells (fun y => ⟨y.1, y.2.1, y.2.2.1, y.2.2.2.1, y.2.2.2.2.1, y.2.2.2.2.2.1, y.2.2.2.2.2.2.1, y.2.2.2.2.2.2.2.1, y.2.2.2.2.2.2.2.2.1, y.2.2.2.2.2.2.2.2.2⟩) (fun _ => rfl) (fun _ => rfl) (fun _ => rfl)
structure S_api_Process where
  Number : Int
  List : Sl
def S_api_Process.cells (x : S_api_Process) : _root_.List Value := [(Value.int .i64 x.Number), (Sl.val x.List)]
def S_api_Process.val (x : S_api_Process) : Value := .agg (S_api_Process.cells x).toArray
def S_api_Process.ty : Ty := tStruct [(tInt .i64), tSl] S_api_Process.val S_api_Process.cells (fun y => ⟨y.1, y.2⟩) (fun _ => rfl) (fun _ => rfl) (fun _ => rfl)
structure S_ref21_Model where
  C : S_api_Config
  Draws : Sl
  Taken : Int
  Objects : Sl
  Tokens : Sl
  Procs : Sl
  NextId : Int
  NextProc : Int
  NextNo : Int
def S_ref21_Model.cells (x : S_ref21_Model) : _root_.List Value := [(Value.int .i64 x.C.Width), (Value.int .i64 x.C.Objects), (Value.int .i64 x.C.Pages), (Value.int .i64 x.C.Entries), (Value.int .i64 x.C.Quota), (Value.int .i64 x.C.Procs), (Value.int .i64 x.C.List), (Value.int .i64 x.C.Sets), (Value.int .i64 x.C.Ways), (Value.int .i64 x.C.Knob), (Sl.val x.Draws), (Value.int .i64 x.Taken), (Sl.val x.Objects), (Sl.val x.Tokens), (Sl.val x.Procs), (Value.int .i64 x.NextId), (Value.int .i64 x.NextProc), (Value.int .i64 x.NextNo)]
def S_ref21_Model.val (x : S_ref21_Model) : Value := .agg (S_ref21_Model.cells x).toArray
def S_ref21_Model.ty : Ty := tStruct [(tInt .i64), (tInt .i64), (tInt .i64), (tInt .i64), (tInt .i64), (tInt .i64), (tInt .i64), (tInt .i64), (tInt .i64), (tInt .i64), tSl, (tInt .i64), tSl, tSl, tSl, (tInt .i64), (tInt .i64), (tInt .i64)] S_ref21_Model.val S_ref21_Model.cells (fun y => ⟨⟨y.1, y.2.1, y.2.2.1, y.2.2.2.1, y.2.2.2.2.1, y.2.2.2.2.2.1, y.2.2.2.2.2.2.1, y.2.2.2.2.2.2.2.1, y.2.2.2.2.2.2.2.2.1, y.2.2.2.2.2.2.2.2.2.1⟩, y.2.2.2.2.2.2.2.2.2.2.1, y.2.2.2.2.2.2.2.2.2.2.2.1, y.2.2.2.2.2.2.2.2.2.2.2.2.1, y.2.2.2.2.2.2.2.2.2.2.2.2.2.1, y.2.2.2.2.2.2.2.2.2.2.2.2.2.2.1, y.2.2.2.2.2.2.2.2.2.2.2.2.2.2.2.1, y.2.2.2.2.2.2.2.2.2.2.2.2.2.2.2.2.1, y.2.2.2.2.2.2.2.2.2.2.2.2.2.2.2.2.2⟩) (fun _ => rfl) (fun _ => rfl) (fun _ => rfl)
structure S_ref24_List where
  Proc : Int
  L : Sl
def S_ref24_List.cells (x : S_ref24_List) : _root_.List Value := [(Value.int .i64 x.Proc), (Sl.val x.L)]
def S_ref24_List.val (x : S_ref24_List) : Value := .agg (S_ref24_List.cells x).toArray
def S_ref24_List.ty : Ty := tStruct [(tInt .i64), tSl] S_ref24_List.val S_ref24_List.cells (fun y => ⟨y.1, y.2⟩) (fun _ => rfl) (fun _ => rfl) (fun _ => rfl)
structure S_ref24_Book where
  Step : Int
  Tells : Sl
  Tokens : Sl
  Lists : Sl
  Objects : Sl
def S_ref24_Book.cells (x : S_ref24_Book) : _root_.List Value := [(Value.int .i64 x.Step), (Sl.val x.Tells), (Sl.val x.Tokens), (Sl.val x.Lists), (Sl.val x.Objects)]
def S_ref24_Book.val (x : S_ref24_Book) : Value := .agg (S_ref24_Book.cells x).toArray
def S_ref24_Book.ty : Ty := tStruct [(tInt .i64), tSl, tSl, tSl, tSl] S_ref24_Book.val S_ref24_Book.cells (fun y => ⟨y.1, y.2.1, y.2.2.1, y.2.2.2.1, y.2.2.2.2⟩) (fun _ => rfl) (fun _ => rfl) (fun _ => rfl)
structure S_api_Object where
  Id : Int
  Bytes : Sl
def S_api_Object.cells (x : S_api_Object) : _root_.List Value := [(Value.int .i64 x.Id), (Sl.val x.Bytes)]
def S_api_Object.val (x : S_api_Object) : Value := .agg (S_api_Object.cells x).toArray
def S_api_Object.ty : Ty := tStruct [(tInt .i64), tSl] S_api_Object.val S_api_Object.cells (fun y => ⟨y.1, y.2⟩) (fun _ => rfl) (fun _ => rfl) (fun _ => rfl)
structure S_ref21_Held where
  No : Int
  Up : Int
  Cap : S_api_Cap
  Rights : Int
def S_ref21_Held.cells (x : S_ref21_Held) : _root_.List Value := [(Value.int .i64 x.No), (Value.int .i64 x.Up), (Value.int .i64 x.Cap.Obj), (Value.int .u64 x.Cap.Pass.Hi), (Value.int .u64 x.Cap.Pass.Lo), (Value.int .i64 x.Rights)]
def S_ref21_Held.val (x : S_ref21_Held) : Value := .agg (S_ref21_Held.cells x).toArray
def S_ref21_Held.ty : Ty := tStruct [(tInt .i64), (tInt .i64), (tInt .i64), (tInt .u64), (tInt .u64), (tInt .i64)] S_ref21_Held.val S_ref21_Held.cells (fun y => ⟨y.1, y.2.1, ⟨y.2.2.1, ⟨y.2.2.2.1, y.2.2.2.2.1⟩⟩, y.2.2.2.2.2⟩) (fun _ => rfl) (fun _ => rfl) (fun _ => rfl)
structure S_ref24_Telling where
  L : S_book_Link
  From : Int
def S_ref24_Telling.cells (x : S_ref24_Telling) : _root_.List Value := [(Value.int .i64 x.L.Step), (Value.int .i64 x.L.Kind), (Value.int .i64 x.L.By), (Value.int .i64 x.L.To), (Value.int .i64 x.L.Cap.Obj), (Value.int .u64 x.L.Cap.Pass.Hi), (Value.int .u64 x.L.Cap.Pass.Lo), (Value.int .i64 x.From)]
def S_ref24_Telling.val (x : S_ref24_Telling) : Value := .agg (S_ref24_Telling.cells x).toArray
def S_ref24_Telling.ty : Ty := tStruct [(tInt .i64), (tInt .i64), (tInt .i64), (tInt .i64), (tInt .i64), (tInt .u64), (tInt .u64), (tInt .i64)] S_ref24_Telling.val S_ref24_Telling.cells (fun y => ⟨⟨y.1, y.2.1, y.2.2.1, y.2.2.2.1, ⟨y.2.2.2.2.1, ⟨y.2.2.2.2.2.1, y.2.2.2.2.2.2.1⟩⟩⟩, y.2.2.2.2.2.2.2⟩) (fun _ => rfl) (fun _ => rfl) (fun _ => rfl)
structure S_ref24_Token where
  C : S_api_Cap
  Parent : S_api_Cap
  Root : Bool
  Rights : Int
def S_ref24_Token.cells (x : S_ref24_Token) : _root_.List Value := [(Value.int .i64 x.C.Obj), (Value.int .u64 x.C.Pass.Hi), (Value.int .u64 x.C.Pass.Lo), (Value.int .i64 x.Parent.Obj), (Value.int .u64 x.Parent.Pass.Hi), (Value.int .u64 x.Parent.Pass.Lo), (Value.bool x.Root), (Value.int .i64 x.Rights)]
def S_ref24_Token.val (x : S_ref24_Token) : Value := .agg (S_ref24_Token.cells x).toArray
def S_ref24_Token.ty : Ty := tStruct [(tInt .i64), (tInt .u64), (tInt .u64), (tInt .i64), (tInt .u64), (tInt .u64), tBool, (tInt .i64)] S_ref24_Token.val S_ref24_Token.cells (fun y => ⟨⟨y.1, ⟨y.2.1, y.2.2.1⟩⟩, ⟨y.2.2.2.1, ⟨y.2.2.2.2.1, y.2.2.2.2.2.1⟩⟩, y.2.2.2.2.2.2.1, y.2.2.2.2.2.2.2⟩) (fun _ => rfl) (fun _ => rfl) (fun _ => rfl)
structure S_ref24_Laid where
  Step : Int
  By : Int
  At : Int
def S_ref24_Laid.cells (x : S_ref24_Laid) : _root_.List Value := [(Value.int .i64 x.Step), (Value.int .i64 x.By), (Value.int .i64 x.At)]
def S_ref24_Laid.val (x : S_ref24_Laid) : Value := .agg (S_ref24_Laid.cells x).toArray
def S_ref24_Laid.ty : Ty := tStruct [(tInt .i64), (tInt .i64), (tInt .i64)] S_ref24_Laid.val S_ref24_Laid.cells (fun y => ⟨y.1, y.2.1, y.2.2⟩) (fun _ => rfl) (fun _ => rfl) (fun _ => rfl)
structure S_ref24_Object where
  Id : Int
  B : Sl
def S_ref24_Object.cells (x : S_ref24_Object) : _root_.List Value := [(Value.int .i64 x.Id), (Sl.val x.B)]
def S_ref24_Object.val (x : S_ref24_Object) : Value := .agg (S_ref24_Object.cells x).toArray
def S_ref24_Object.ty : Ty := tStruct [(tInt .i64), tSl] S_ref24_Object.val S_ref24_Object.cells (fun y => ⟨y.1, y.2⟩) (fun _ => rfl) (fun _ => rfl) (fun _ => rfl)
structure S_ref04_Draws where
  L : Sl
  Width : Int
  At : Int
def S_ref04_Draws.cells (x : S_ref04_Draws) : _root_.List Value := [(Sl.val x.L), (Value.int .i64 x.Width), (Value.int .i64 x.At)]
def S_ref04_Draws.val (x : S_ref04_Draws) : Value := .agg (S_ref04_Draws.cells x).toArray
def S_ref04_Draws.ty : Ty := tStruct [tSl, (tInt .i64), (tInt .i64)] S_ref04_Draws.val S_ref04_Draws.cells (fun y => ⟨y.1, y.2.1, y.2.2⟩) (fun _ => rfl) (fun _ => rfl) (fun _ => rfl)
structure S_draws_Draws where
  xall : Sl
  xtaken : Int
def S_draws_Draws.cells (x : S_draws_Draws) : _root_.List Value := [(Sl.val x.xall), (Value.int .i64 x.xtaken)]
def S_draws_Draws.val (x : S_draws_Draws) : Value := .agg (S_draws_Draws.cells x).toArray
def S_draws_Draws.ty : Ty := tStruct [tSl, (tInt .i64)] S_draws_Draws.val S_draws_Draws.cells (fun y => ⟨y.1, y.2⟩) (fun _ => rfl) (fun _ => rfl) (fun _ => rfl)
structure S_slots_Table_int where
  xmost : Int
  xknob : Int
  xplaces : Sl
  xlive : Int
  xused : Int
def S_slots_Table_int.cells (x : S_slots_Table_int) : _root_.List Value := [(Value.int .i64 x.xmost), (Value.int .i64 x.xknob), (Sl.val x.xplaces), (Value.int .i64 x.xlive), (Value.int .i64 x.xused)]
def S_slots_Table_int.val (x : S_slots_Table_int) : Value := .agg (S_slots_Table_int.cells x).toArray
def S_slots_Table_int.ty : Ty := tStruct [(tInt .i64), (tInt .i64), tSl, (tInt .i64), (tInt .i64)] S_slots_Table_int.val S_slots_Table_int.cells (fun y => ⟨y.1, y.2.1, y.2.2.1, y.2.2.2.1, y.2.2.2.2⟩) (fun _ => rfl) (fun _ => rfl) (fun _ => rfl)
structure S_kin_Tree where
  xnodes : Sl
def S_kin_Tree.cells (x : S_kin_Tree) : _root_.List Value := [(Sl.val x.xnodes)]
def S_kin_Tree.val (x : S_kin_Tree) : Value := .agg (S_kin_Tree.cells x).toArray
def S_kin_Tree.ty : Ty := tStruct [tSl] S_kin_Tree.val S_kin_Tree.cells (fun y => ⟨y⟩) (fun _ => rfl) (fun _ => rfl) (fun _ => rfl)
structure S_catalogue_parts where
  Table : Option Addr
  Tree : Option Addr
def S_catalogue_parts.cells (x : S_catalogue_parts) : _root_.List Value := [(Value.pointer x.Table), (Value.pointer x.Tree)]
def S_catalogue_parts.val (x : S_catalogue_parts) : Value := .agg (S_catalogue_parts.cells x).toArray
def S_catalogue_parts.ty : Ty := tStruct [tPtr, tPtr] S_catalogue_parts.val S_catalogue_parts.cells (fun y => ⟨y.1, y.2⟩) (fun _ => rfl) (fun _ => rfl) (fun _ => rfl)
structure S_catalogue_Catalogue where
  xin : S_catalogue_parts
  xtokens : Sl
  xused : Sl
  xroots : Option Nat
  xcount : Option Nat
def S_catalogue_Catalogue.cells (x : S_catalogue_Catalogue) : _root_.List Value := [(Value.pointer x.xin.Table), (Value.pointer x.xin.Tree), (Sl.val x.xtokens), (Sl.val x.xused), (Value.map x.xroots), (Value.map x.xcount)]
def S_catalogue_Catalogue.val (x : S_catalogue_Catalogue) : Value := .agg (S_catalogue_Catalogue.cells x).toArray
def S_catalogue_Catalogue.ty : Ty := tStruct [tPtr, tPtr, tSl, tSl, tMap, tMap] S_catalogue_Catalogue.val S_catalogue_Catalogue.cells (fun y => ⟨⟨y.1, y.2.1⟩, y.2.2.1, y.2.2.2.1, y.2.2.2.2.1, y.2.2.2.2.2⟩) (fun _ => rfl) (fun _ => rfl) (fun _ => rfl)
structure S_ref11_Catalogue where
  P : Sl
  Ever : Int
def S_ref11_Catalogue.cells (x : S_ref11_Catalogue) : _root_.List Value := [(Sl.val x.P), (Value.int .i64 x.Ever)]
def S_ref11_Catalogue.val (x : S_ref11_Catalogue) : Value := .agg (S_ref11_Catalogue.cells x).toArray
def S_ref11_Catalogue.ty : Ty := tStruct [tSl, (tInt .i64)] S_ref11_Catalogue.val S_ref11_Catalogue.cells (fun y => ⟨y.1, y.2⟩) (fun _ => rfl) (fun _ => rfl) (fun _ => rfl)
structure S_kin_node where
  xthere : Bool
  xparent : Int
  xchildren : Sl
def S_kin_node.cells (x : S_kin_node) : _root_.List Value := [(Value.bool x.xthere), (Value.int .i64 x.xparent), (Sl.val x.xchildren)]
def S_kin_node.val (x : S_kin_node) : Value := .agg (S_kin_node.cells x).toArray
def S_kin_node.ty : Ty := tStruct [tBool, (tInt .i64), tSl] S_kin_node.val S_kin_node.cells (fun y => ⟨y.1, y.2.1, y.2.2⟩) (fun _ => rfl) (fun _ => rfl) (fun _ => rfl)
structure S_slots_place_int where
  xstate : Int
  xc : S_api_Cap
  xv : Int
def S_slots_place_int.cells (x : S_slots_place_int) : _root_.List Value := [(Value.int .u8 x.xstate), (Value.int .i64 x.xc.Obj), (Value.int .u64 x.xc.Pass.Hi), (Value.int .u64 x.xc.Pass.Lo), (Value.int .i64 x.xv)]
def S_slots_place_int.val (x : S_slots_place_int) : Value := .agg (S_slots_place_int.cells x).toArray
def S_slots_place_int.ty : Ty := tStruct [(tInt .u8), (tInt .i64), (tInt .u64), (tInt .u64), (tInt .i64)] S_slots_place_int.val S_slots_place_int.cells (fun y => ⟨y.1, ⟨y.2.1, ⟨y.2.2.1, y.2.2.2.1⟩⟩, y.2.2.2.2⟩) (fun _ => rfl) (fun _ => rfl) (fun _ => rfl)
structure S_api_Token where
  Cap : S_api_Cap
  Rights : Int
  Parent : Int
def S_api_Token.cells (x : S_api_Token) : _root_.List Value := [(Value.int .i64 x.Cap.Obj), (Value.int .u64 x.Cap.Pass.Hi), (Value.int .u64 x.Cap.Pass.Lo), (Value.int .i64 x.Rights), (Value.int .i64 x.Parent)]
def S_api_Token.val (x : S_api_Token) : Value := .agg (S_api_Token.cells x).toArray
def S_api_Token.ty : Ty := tStruct [(tInt .i64), (tInt .u64), (tInt .u64), (tInt .i64), (tInt .i64)] S_api_Token.val S_api_Token.cells (fun y => ⟨⟨y.1, ⟨y.2.1, y.2.2.1⟩⟩, y.2.2.2.1, y.2.2.2.2⟩) (fun _ => rfl) (fun _ => rfl) (fun _ => rfl)
structure S_ref11_Place where
  Live : Bool
  Cap : S_api_Cap
  Rights : Int
  Parent : Int
  When : Int
def S_ref11_Place.cells (x : S_ref11_Place) : _root_.List Value := [(Value.bool x.Live), (Value.int .i64 x.Cap.Obj), (Value.int .u64 x.Cap.Pass.Hi), (Value.int .u64 x.Cap.Pass.Lo), (Value.int .i64 x.Rights), (Value.int .i64 x.Parent), (Value.int .i64 x.When)]
def S_ref11_Place.val (x : S_ref11_Place) : Value := .agg (S_ref11_Place.cells x).toArray
def S_ref11_Place.ty : Ty := tStruct [tBool, (tInt .i64), (tInt .u64), (tInt .u64), (tInt .i64), (tInt .i64), (tInt .i64)] S_ref11_Place.val S_ref11_Place.cells (fun y => ⟨y.1, ⟨y.2.1, ⟨y.2.2.1, y.2.2.2.1⟩⟩, y.2.2.2.2.1, y.2.2.2.2.2.1, y.2.2.2.2.2.2⟩) (fun _ => rfl) (fun _ => rfl) (fun _ => rfl)
structure S_law11_Pair where
  P : Option Addr
  R : Option Addr
def S_law11_Pair.cells (x : S_law11_Pair) : _root_.List Value := [(Value.pointer x.P), (Value.pointer x.R)]
def S_law11_Pair.val (x : S_law11_Pair) : Value := .agg (S_law11_Pair.cells x).toArray
def S_law11_Pair.ty : Ty := tStruct [tPtr, tPtr] S_law11_Pair.val S_law11_Pair.cells (fun y => ⟨y.1, y.2⟩) (fun _ => rfl) (fun _ => rfl) (fun _ => rfl)
structure S_law11_Step where
  Second : Bool
  Kind : Int
  N : Int
  C : S_api_Cap
  Rights : Int
def S_law11_Step.cells (x : S_law11_Step) : _root_.List Value := [(Value.bool x.Second), (Value.int .i64 x.Kind), (Value.int .i64 x.N), (Value.int .i64 x.C.Obj), (Value.int .u64 x.C.Pass.Hi), (Value.int .u64 x.C.Pass.Lo), (Value.int .i64 x.Rights)]
def S_law11_Step.val (x : S_law11_Step) : Value := .agg (S_law11_Step.cells x).toArray
def S_law11_Step.ty : Ty := tStruct [tBool, (tInt .i64), (tInt .i64), (tInt .i64), (tInt .u64), (tInt .u64), (tInt .i64)] S_law11_Step.val S_law11_Step.cells (fun y => ⟨y.1, y.2.1, y.2.2.1, ⟨y.2.2.2.1, ⟨y.2.2.2.2.1, y.2.2.2.2.2.1⟩⟩, y.2.2.2.2.2.2⟩) (fun _ => rfl) (fun _ => rfl) (fun _ => rfl)
structure S_law11_Sizes where
  Entries : Int
  Knob : Int
  Other : Int
  Twist : Int
def S_law11_Sizes.cells (x : S_law11_Sizes) : _root_.List Value := [(Value.int .i64 x.Entries), (Value.int .i64 x.Knob), (Value.int .i64 x.Other), (Value.int .i64 x.Twist)]
def S_law11_Sizes.val (x : S_law11_Sizes) : Value := .agg (S_law11_Sizes.cells x).toArray
def S_law11_Sizes.ty : Ty := tStruct [(tInt .i64), (tInt .i64), (tInt .i64), (tInt .i64)] S_law11_Sizes.val S_law11_Sizes.cells (fun y => ⟨y.1, y.2.1, y.2.2.1, y.2.2.2⟩) (fun _ => rfl) (fun _ => rfl) (fun _ => rfl)
structure S_quota_Quota where
  xeach : Int
  xall : Int
  xcount : Option Nat
def S_quota_Quota.cells (x : S_quota_Quota) : _root_.List Value := [(Value.int .i64 x.xeach), (Value.int .i64 x.xall), (Value.map x.xcount)]
def S_quota_Quota.val (x : S_quota_Quota) : Value := .agg (S_quota_Quota.cells x).toArray
def S_quota_Quota.ty : Ty := tStruct [(tInt .i64), (tInt .i64), tMap] S_quota_Quota.val S_quota_Quota.cells (fun y => ⟨y.1, y.2.1, y.2.2⟩) (fun _ => rfl) (fun _ => rfl) (fun _ => rfl)
structure S_ref12_Quota where
  Each : Int
  Most : Int
  L : Sl
def S_ref12_Quota.cells (x : S_ref12_Quota) : _root_.List Value := [(Value.int .i64 x.Each), (Value.int .i64 x.Most), (Sl.val x.L)]
def S_ref12_Quota.val (x : S_ref12_Quota) : Value := .agg (S_ref12_Quota.cells x).toArray
def S_ref12_Quota.ty : Ty := tStruct [(tInt .i64), (tInt .i64), tSl] S_ref12_Quota.val S_ref12_Quota.cells (fun y => ⟨y.1, y.2.1, y.2.2⟩) (fun _ => rfl) (fun _ => rfl) (fun _ => rfl)
structure S_law12_Op where
  Kind : Int
  Which : Int
  Obj : Int
  N : Int
def S_law12_Op.cells (x : S_law12_Op) : _root_.List Value := [(Value.int .i64 x.Kind), (Value.int .i64 x.Which), (Value.int .i64 x.Obj), (Value.int .i64 x.N)]
def S_law12_Op.val (x : S_law12_Op) : Value := .agg (S_law12_Op.cells x).toArray
def S_law12_Op.ty : Ty := tStruct [(tInt .i64), (tInt .i64), (tInt .i64), (tInt .i64)] S_law12_Op.val S_law12_Op.cells (fun y => ⟨y.1, y.2.1, y.2.2.1, y.2.2.2⟩) (fun _ => rfl) (fun _ => rfl) (fun _ => rfl)
structure S_runtime_boundsError where
  xx : Int
  xy : Int
  xsigned : Bool
  xcode : Int
def S_runtime_boundsError.cells (x : S_runtime_boundsError) : _root_.List Value := [(Value.int .i64 x.xx), (Value.int .i64 x.xy), (Value.bool x.xsigned), (Value.int .u8 x.xcode)]
def S_runtime_boundsError.val (x : S_runtime_boundsError) : Value := .agg (S_runtime_boundsError.cells x).toArray
def S_runtime_boundsError.ty : Ty := tStruct [(tInt .i64), (tInt .i64), tBool, (tInt .u8)] S_runtime_boundsError.val S_runtime_boundsError.cells (fun y => ⟨y.1, y.2.1, y.2.2.1, y.2.2.2⟩) (fun _ => rfl) (fun _ => rfl) (fun _ => rfl)
structure S_runtime_errorAddressString where
  xmsg : ByteArray
  xaddr : Int
def S_runtime_errorAddressString.cells (x : S_runtime_errorAddressString) : _root_.List Value := [(Value.string x.xmsg), (Value.int .u64 x.xaddr)]
def S_runtime_errorAddressString.val (x : S_runtime_errorAddressString) : Value := .agg (S_runtime_errorAddressString.cells x).toArray
def S_runtime_errorAddressString.ty : Ty := tStruct [tStr, (tInt .u64)] S_runtime_errorAddressString.val S_runtime_errorAddressString.cells (fun y => ⟨y.1, y.2⟩) (fun _ => rfl) (fun _ => rfl) (fun _ => rfl)
structure S_internal_runtime_maps_unhashableTypeError where
  xtyp : Option Addr
def S_internal_runtime_maps_unhashableTypeError.cells (x : S_internal_runtime_maps_unhashableTypeError) : _root_.List Value := [(Value.pointer x.xtyp)]
def S_internal_runtime_maps_unhashableTypeError.val (x : S_internal_runtime_maps_unhashableTypeError) : Value := .agg (S_internal_runtime_maps_unhashableTypeError.cells x).toArray
def S_internal_runtime_maps_unhashableTypeError.ty : Ty := tStruct [tPtr] S_internal_runtime_maps_unhashableTypeError.val S_internal_runtime_maps_unhashableTypeError.cells (fun y => ⟨y⟩) (fun _ => rfl) (fun _ => rfl) (fun _ => rfl)
structure S_law13_Put where
  Parent : Int
  C : S_api_Cap
  Rights : Int
def S_law13_Put.cells (x : S_law13_Put) : _root_.List Value := [(Value.int .i64 x.Parent), (Value.int .i64 x.C.Obj), (Value.int .u64 x.C.Pass.Hi), (Value.int .u64 x.C.Pass.Lo), (Value.int .i64 x.Rights)]
def S_law13_Put.val (x : S_law13_Put) : Value := .agg (S_law13_Put.cells x).toArray
def S_law13_Put.ty : Ty := tStruct [(tInt .i64), (tInt .i64), (tInt .u64), (tInt .u64), (tInt .i64)] S_law13_Put.val S_law13_Put.cells (fun y => ⟨y.1, ⟨y.2.1, ⟨y.2.2.1, y.2.2.2.1⟩⟩, y.2.2.2.2⟩) (fun _ => rfl) (fun _ => rfl) (fun _ => rfl)
structure S_runtime_TypeAssertionError where
  x_interface : Option Addr
  xconcrete : Option Addr
  xasserted : Option Addr
  xmissingMethod : ByteArray
def S_runtime_TypeAssertionError.cells (x : S_runtime_TypeAssertionError) : _root_.List Value := [(Value.pointer x.x_interface), (Value.pointer x.xconcrete), (Value.pointer x.xasserted), (Value.string x.xmissingMethod)]
def S_runtime_TypeAssertionError.val (x : S_runtime_TypeAssertionError) : Value := .agg (S_runtime_TypeAssertionError.cells x).toArray
def S_runtime_TypeAssertionError.ty : Ty := tStruct [tPtr, tPtr, tPtr, tStr] S_runtime_TypeAssertionError.val S_runtime_TypeAssertionError.cells (fun y => ⟨y.1, y.2.1, y.2.2.1, y.2.2.2⟩) (fun _ => rfl) (fun _ => rfl) (fun _ => rfl)
structure S_internal_abi_Type where
  Size_ : Int
  PtrBytes : Int
  Hash : Int
  TFlag : Int
  Align_ : Int
  FieldAlign_ : Int
  Kind_ : Int
  Equal : PV
  GCData : Option Addr
  Str : Int
  PtrToThis : Int
def S_internal_abi_Type.cells (x : S_internal_abi_Type) : _root_.List Value := [(Value.int .u64 x.Size_), (Value.int .u64 x.PtrBytes), (Value.int .u32 x.Hash), (Value.int .u8 x.TFlag), (Value.int .u8 x.Align_), (Value.int .u8 x.FieldAlign_), (Value.int .u8 x.Kind_), x.Equal.1, (Value.pointer x.GCData), (Value.int .i32 x.Str), (Value.int .i32 x.PtrToThis)]
def S_internal_abi_Type.val (x : S_internal_abi_Type) : Value := .agg (S_internal_abi_Type.cells x).toArray
def S_internal_abi_Type.ty : Ty := tStruct [(tInt .u64), (tInt .u64), (tInt .u32), (tInt .u8), (tInt .u8), (tInt .u8), (tInt .u8), tPV, tPtr, (tInt .i32), (tInt .i32)] S_internal_abi_Type.val S_internal_abi_Type.cells (fun y => ⟨y.1, y.2.1, y.2.2.1, y.2.2.2.1, y.2.2.2.2.1, y.2.2.2.2.2.1, y.2.2.2.2.2.2.1, y.2.2.2.2.2.2.2.1, y.2.2.2.2.2.2.2.2.1, y.2.2.2.2.2.2.2.2.2.1, y.2.2.2.2.2.2.2.2.2.2⟩) (fun _ => rfl) (fun _ => rfl) (fun _ => rfl)
abbrev N_i64 : Nat := 2
abbrev N_bool : Nat := 4
abbrev N_u8 : Nat := 5
abbrev N_internal_abi_BoundsErrorCode : Nat := 6
abbrev U_internal_abi_BoundsErrorCode := @Try.underlying6
abbrev N_runtime_boundsError : Nat := 8
abbrev U_runtime_boundsError := @Try.underlying8
abbrev N_string : Nat := 9
abbrev N_runtime_errorString : Nat := 10
abbrev U_runtime_errorString := @Try.underlying10
abbrev N_runtime_plainError : Nat := 11
abbrev U_runtime_plainError := @Try.underlying11
abbrev N_u64 : Nat := 12
abbrev N_runtime_errorAddressString : Nat := 14
abbrev U_runtime_errorAddressString := @Try.underlying14
abbrev N_P_runtime_TypeAssertionError : Nat := 15
abbrev N_P_runtime_PanicNilError : Nat := 16
abbrev N_P_internal_abi_Type : Nat := 17
abbrev N_internal_runtime_maps_unhashableTypeError : Nat := 19
abbrev U_internal_runtime_maps_unhashableTypeError := @Try.underlying19
abbrev N_i32 : Nat := 21
abbrev N_api_Config : Nat := 23
abbrev U_api_Config := @Try.underlying23
abbrev N_Sl_api_Word : Nat := 24
abbrev N_Sl_api_Call : Nat := 25
abbrev N_P_ref21_Model : Nat := 28
abbrev N_P_book_Book : Nat := 30
abbrev N_P_ref24_Book : Nat := 32
abbrev N_Sl_api_Cap : Nat := 34
abbrev N_api_Word : Nat := 37
abbrev U_api_Word := @Try.underlying37
abbrev N_api_Cap : Nat := 39
abbrev U_api_Cap := @Try.underlying39
abbrev N_Sl_u8 : Nat := 40
abbrev N_Sl_i64 : Nat := 41
abbrev N_api_Call : Nat := 43
abbrev U_api_Call := @Try.underlying43
abbrev N_api_Errno : Nat := 45
abbrev U_api_Errno := @Try.underlying45
abbrev N_api_Reply : Nat := 47
abbrev U_api_Reply := @Try.underlying47
abbrev N_Sl_api_Reply : Nat := 57
abbrev N_Sl_book_Link : Nat := 64
abbrev N_Sl_law13_Put : Nat := 69
abbrev N_P_ref04_Draws : Nat := 70
abbrev N_P_draws_Draws : Nat := 73
abbrev N_P_catalogue_Catalogue : Nat := 76
abbrev N_P_ref11_Catalogue : Nat := 79
abbrev N_law13_Put : Nat := 83
abbrev U_law13_Put := @Try.underlying83
abbrev N_law11_Sizes : Nat := 97
abbrev U_law11_Sizes := @Try.underlying97
abbrev N_Sl_law11_Step : Nat := 98
abbrev N_law11_Pair : Nat := 100
abbrev U_law11_Pair := @Try.underlying100
abbrev N_law11_Step : Nat := 102
abbrev U_law11_Step := @Try.underlying102
abbrev N_Sl_api_Token : Nat := 107
abbrev N_Sl_bool : Nat := 108
abbrev N_api_Token : Nat := 110
abbrev U_api_Token := @Try.underlying110
abbrev N_Sl_Sl_api_Cap : Nat := 122
abbrev N_Sl_law12_Op : Nat := 123
abbrev N_P_quota_Quota : Nat := 124
abbrev N_P_ref12_Quota : Nat := 127
abbrev N_law12_Op : Nat := 132
abbrev U_law12_Op := @Try.underlying132
abbrev N_ref12_Quota : Nat := 136
abbrev U_ref12_Quota := @Try.underlying136
abbrev N_A2_P_quota_Quota : Nat := 138
abbrev N_A2_P_ref12_Quota : Nat := 139
abbrev N_book_Link : Nat := 143
abbrev U_book_Link := @Try.underlying143
abbrev N_api_Process : Nat := 146
abbrev U_api_Process := @Try.underlying146
abbrev N_Sl_api_Process : Nat := 147
abbrev N_Sl_api_Object : Nat := 148
abbrev N_Sl_ref21_Held : Nat := 149
abbrev N_ref21_Model : Nat := 151
abbrev U_ref21_Model := @Try.underlying151
abbrev N_M_api_Cap_book_token : Nat := 152
abbrev N_M_i64_Sl_api_Cap : Nat := 153
abbrev N_M_book_whom_Sl_book_Link : Nat := 154
abbrev N_M_i64_M_i64_book_laid : Nat := 155
abbrev N_book_Book : Nat := 157
abbrev U_book_Book := @Try.underlying157
abbrev N_ref24_List : Nat := 159
abbrev U_ref24_List := @Try.underlying159
abbrev N_Sl_ref24_List : Nat := 160
abbrev N_Sl_ref24_Telling : Nat := 161
abbrev N_Sl_ref24_Token : Nat := 162
abbrev N_Sl_ref24_Object : Nat := 163
abbrev N_ref24_Book : Nat := 165
abbrev U_ref24_Book := @Try.underlying165
abbrev N_ref24_Token : Nat := 172
abbrev U_ref24_Token := @Try.underlying172
abbrev N_Sl_ref24_Laid : Nat := 173
abbrev N_ref24_Object : Nat := 175
abbrev U_ref24_Object := @Try.underlying175
abbrev N_Sl_ref24_Link : Nat := 182
abbrev N_book_token : Nat := 187
abbrev U_book_token := @Try.underlying187
abbrev N_book_whom : Nat := 191
abbrev U_book_whom := @Try.underlying191
abbrev N_ref04_Draws : Nat := 201
abbrev U_ref04_Draws := @Try.underlying201
abbrev N_draws_words : Nat := 202
abbrev U_draws_words := @Try.underlying202
abbrev N_draws_Draws : Nat := 204
abbrev U_draws_Draws := @Try.underlying204
abbrev N_P_slots_Table_int : Nat := 205
abbrev N_P_kin_Tree : Nat := 208
abbrev N_catalogue_parts : Nat := 212
abbrev U_catalogue_parts := @Try.underlying212
abbrev N_M_i64_i64 : Nat := 213
abbrev N_catalogue_Catalogue : Nat := 215
abbrev U_catalogue_Catalogue := @Try.underlying215
abbrev N_Sl_ref11_Place : Nat := 216
abbrev N_ref11_Catalogue : Nat := 218
abbrev U_ref11_Catalogue := @Try.underlying218
abbrev N_ref11_Place : Nat := 225
abbrev U_ref11_Place := @Try.underlying225
abbrev N_iter_Seq_int : Nat := 233
abbrev U_iter_Seq_int := @Try.underlying233
abbrev N_quota_Quota : Nat := 238
abbrev U_quota_Quota := @Try.underlying238
abbrev N_api_Object : Nat := 243
abbrev U_api_Object := @Try.underlying243
abbrev N_ref21_Held : Nat := 245
abbrev U_ref21_Held := @Try.underlying245
abbrev N_ref24_Link : Nat := 250
abbrev U_ref24_Link := @Try.underlying250
abbrev N_ref24_Telling : Nat := 252
abbrev U_ref24_Telling := @Try.underlying252
abbrev N_ref24_Laid : Nat := 255
abbrev U_ref24_Laid := @Try.underlying255
abbrev N_M_i64_book_laid : Nat := 258
abbrev N_book_laid : Nat := 262
abbrev U_book_laid := @Try.underlying262
abbrev N_Sl_slots_place_int : Nat := 267
abbrev N_slots_Table_int : Nat := 269
abbrev U_slots_Table_int := @Try.underlying269
abbrev N_Sl_kin_node : Nat := 270
abbrev N_kin_Tree : Nat := 272
abbrev U_kin_Tree := @Try.underlying272
abbrev N_slots_state : Nat := 276
abbrev U_slots_state := @Try.underlying276
abbrev N_slots_place_int : Nat := 278
abbrev U_slots_place_int := @Try.underlying278
abbrev N_kin_node : Nat := 286
abbrev U_kin_node := @Try.underlying286
abbrev N_P_kin_node : Nat := 287
abbrev N_P_slots_place_int : Nat := 296
abbrev N_slices_sortedHint : Nat := 299
abbrev U_slices_sortedHint := @Try.underlying299
abbrev N_u32 : Nat := 306
abbrev N_slices_xorshift : Nat := 310
abbrev U_slices_xorshift := @Try.underlying310
abbrev N_P_i64 : Nat := 314
abbrev N_P_slices_xorshift : Nat := 316
abbrev N_runtime_TypeAssertionError : Nat := 320
abbrev U_runtime_TypeAssertionError := @Try.underlying320
abbrev N_A0_P_runtime_PanicNilError : Nat := 321
abbrev N_runtime_PanicNilError : Nat := 323
abbrev U_runtime_PanicNilError := @Try.underlying323
abbrev N_internal_abi_TFlag : Nat := 324
abbrev U_internal_abi_TFlag := @Try.underlying324
abbrev N_internal_abi_Kind : Nat := 325
abbrev U_internal_abi_Kind := @Try.underlying325
abbrev N_P_u8 : Nat := 327
abbrev N_internal_abi_NameOff : Nat := 328
abbrev U_internal_abi_NameOff := @Try.underlying328
abbrev N_internal_abi_TypeOff : Nat := 329
abbrev U_internal_abi_TypeOff := @Try.underlying329
abbrev N_internal_abi_Type : Nat := 331
abbrev U_internal_abi_Type := @Try.underlying331
abbrev N_unsafePointer : Nat := 332
def tys : List (Nat × Ty) := [(1, tPV), (2, (tInt .i64)), (3, (tInt .i64)), (4, tBool), (5, (tInt .u8)), (6, (tInt .u8)), (7, S_runtime_boundsError.ty), (8, S_runtime_boundsError.ty), (9, tStr), (10, tStr), (11, tStr), (12, (tInt .u64)), (13, S_runtime_errorAddressString.ty), (14, S_runtime_errorAddressString.ty), (15, tPtr), (16, tPtr), (17, tPtr), (18, S_internal_runtime_maps_unhashableTypeError.ty), (19, S_internal_runtime_maps_unhashableTypeError.ty), (20, tPV), (21, (tInt .i32)), (22, S_api_Config.ty), (23, S_api_Config.ty), (24, tSl), (25, tSl), (26, tPV), (27, tPV), (28, tPtr), (29, tPV), (30, tPtr), (31, tPV), (32, tPtr), (33, tPV), (34, tSl), (35, (tInt .u64)), (36, S_api_Word.ty), (37, S_api_Word.ty), (38, S_api_Cap.ty), (39, S_api_Cap.ty), (40, tSl), (41, tSl), (42, S_api_Call.ty), (43, S_api_Call.ty), (44, tPV), (45, (tInt .i64)), (46, S_api_Reply.ty), (47, S_api_Reply.ty), (48, tPV), (49, tPV), (50, tPV), (51, tPV), (52, tPV), (53, tPV), (54, tPV), (55, tPV), (56, tPV), (57, tSl), (59, tPV), (60, tPV), (62, tPV), (63, tPV), (64, tSl), (66, tPV), (67, tPV), (68, tPV), (69, tSl), (70, tPtr), (72, tPV), (73, tPtr), (75, tPV), (76, tPtr), (78, tPV), (79, tPtr), (81, tPV), (82, S_law13_Put.ty), (83, S_law13_Put.ty), (85, tPV), (87, tPV), (88, tPV), (89, tPV), (91, tPV), (93, tPV), (94, tPV), (95, tPV), (96, S_law11_Sizes.ty), (97, S_law11_Sizes.ty), (98, tSl), (99, S_law11_Pair.ty), (100, S_law11_Pair.ty), (101, S_law11_Step.ty), (102, S_law11_Step.ty), (103, tPV), (104, tPV), (105, tPV), (106, tPV), (107, tSl), (108, tSl), (109, S_api_Token.ty), (110, S_api_Token.ty), (112, tPV), (113, tPV), (114, tPV), (116, tPV), (117, tPV), (118, tPV), (119, tPV), (120, tPV), (121, tPV), (122, tSl), (123, tSl), (124, tPtr), (126, tPV), (127, tPtr), (129, tPV), (130, tPV), (131, S_law12_Op.ty), (132, S_law12_Op.ty), (133, tPV), (134, tPV), (135, S_ref12_Quota.ty), (136, S_ref12_Quota.ty), (137, tPV), (140, tPV), (141, tPV), (142, S_book_Link.ty), (143, S_book_Link.ty), (144, tPV), (145, S_api_Process.ty), (146, S_api_Process.ty), (147, tSl), (148, tSl), (149, tSl), (150, S_ref21_Model.ty), (151, S_ref21_Model.ty), (152, tMap), (153, tMap), (154, tMap), (155, tMap), (156, S_book_Book.ty), (157, S_book_Book.ty), (158, S_ref24_List.ty), (159, S_ref24_List.ty), (160, tSl), (161, tSl), (162, tSl), (163, tSl), (164, S_ref24_Book.ty), (165, S_ref24_Book.ty), (166, tPV), (167, tPV), (168, tPV), (169, tPV), (170, tPV), (171, S_ref24_Token.ty), (172, S_ref24_Token.ty), (173, tSl), (174, S_ref24_Object.ty), (175, S_ref24_Object.ty), (176, tPV), (177, tPV), (178, tPV), (179, tPV), (180, tPV), (181, tPV), (182, tSl), (184, tPV), (185, tPV), (186, S_book_token.ty), (187, S_book_token.ty), (188, tPV), (189, tPV), (190, S_book_whom.ty), (191, S_book_whom.ty), (192, tPV), (193, tPV), (194, tPV), (195, tPV), (196, tPV), (198, tPV), (199, tPV), (200, S_ref04_Draws.ty), (201, S_ref04_Draws.ty), (202, tSl), (203, S_draws_Draws.ty), (204, S_draws_Draws.ty), (205, tPtr), (207, tPV), (208, tPtr), (210, tPV), (211, S_catalogue_parts.ty), (212, S_catalogue_parts.ty), (213, tMap), (214, S_catalogue_Catalogue.ty), (215, S_catalogue_Catalogue.ty), (216, tSl), (217, S_ref11_Catalogue.ty), (218, S_ref11_Catalogue.ty), (219, tPV), (220, tPV), (221, tPV), (222, tPV), (223, tPV), (224, S_ref11_Place.ty), (225, S_ref11_Place.ty), (226, tPV), (227, tPV), (228, tPV), (229, tPV), (231, tPV), (232, tPV), (233, tPV), (234, tPV), (235, tPV), (236, tPV), (237, S_quota_Quota.ty), (238, S_quota_Quota.ty), (239, tPV), (240, tPV), (241, tPV), (242, S_api_Object.ty), (243, S_api_Object.ty), (244, S_ref21_Held.ty), (245, S_ref21_Held.ty), (246, tPV), (247, tPV), (248, tPV), (249, (tInt .u64)), (250, S_book_Link.ty), (251, S_ref24_Telling.ty), (252, S_ref24_Telling.ty), (253, tPV), (254, S_ref24_Laid.ty), (255, S_ref24_Laid.ty), (256, tPV), (257, tPV), (258, tMap), (260, tPV), (261, S_book_laid.ty), (262, S_book_laid.ty), (264, tPV), (265, tPV), (266, tPV), (267, tSl), (268, S_slots_Table_int.ty), (269, S_slots_Table_int.ty), (270, tSl), (271, S_kin_Tree.ty), (272, S_kin_Tree.ty), (273, tPV), (274, tPV), (275, tPV), (276, (tInt .u8)), (277, S_slots_place_int.ty), (278, S_slots_place_int.ty), (279, tPV), (280, tPV), (281, tPV), (282, tPV), (283, tPV), (284, tPV), (285, S_kin_node.ty), (286, S_kin_node.ty), (287, tPtr), (288, tPV), (289, tPV), (290, tPV), (291, tPV), (292, tPV), (293, tPV), (294, tPV), (295, tPV), (296, tPtr), (297, tPV), (298, tPV), (299, (tInt .i64)), (301, tPV), (302, tPV), (303, tPV), (304, tPV), (305, tPV), (306, (tInt .u32)), (307, tPV), (308, tPV), (309, tPV), (310, (tInt .u64)), (311, tPV), (312, tPV), (313, tPV), (314, tPtr), (315, tPV), (316, tPtr), (317, tPV), (318, tPV), (319, S_runtime_TypeAssertionError.ty), (320, S_runtime_TypeAssertionError.ty), (324, (tInt .u8)), (325, (tInt .u8)), (326, tPV), (327, tPtr), (328, (tInt .i32)), (329, (tInt .i32)), (330, S_internal_abi_Type.ty), (331, S_internal_abi_Type.ty)]
theorem callee3 : Callee Try.prog 3 Try.f3 := ⟨Try.func3, by kernel_rfl, by kernel_rfl⟩
theorem callee4 : Callee Try.prog 4 Try.f4 := ⟨Try.func4, by kernel_rfl, by kernel_rfl⟩
theorem callee5 : Callee Try.prog 5 Try.f5 := ⟨Try.func5, by kernel_rfl, by kernel_rfl⟩
theorem callee9 : Callee Try.prog 9 Try.f9 := ⟨Try.func9, by kernel_rfl, by kernel_rfl⟩
theorem callee10 : Callee Try.prog 10 Try.f10 := ⟨Try.func10, by kernel_rfl, by kernel_rfl⟩
theorem callee11 : Callee Try.prog 11 Try.f11 := ⟨Try.func11, by kernel_rfl, by kernel_rfl⟩
theorem callee12 : Callee Try.prog 12 Try.f12 := ⟨Try.func12, by kernel_rfl, by kernel_rfl⟩
theorem callee13 : Callee Try.prog 13 Try.f13 := ⟨Try.func13, by kernel_rfl, by kernel_rfl⟩
theorem callee14 : Callee Try.prog 14 Try.f14 := ⟨Try.func14, by kernel_rfl, by kernel_rfl⟩
theorem callee15 : Callee Try.prog 15 Try.f15 := ⟨Try.func15, by kernel_rfl, by kernel_rfl⟩
theorem callee16 : Callee Try.prog 16 Try.f16 := ⟨Try.func16, by kernel_rfl, by kernel_rfl⟩
theorem callee17 : Callee Try.prog 17 Try.f17 := ⟨Try.func17, by kernel_rfl, by kernel_rfl⟩
theorem callee18 : Callee Try.prog 18 Try.f18 := ⟨Try.func18, by kernel_rfl, by kernel_rfl⟩
theorem callee19 : Callee Try.prog 19 Try.f19 := ⟨Try.func19, by kernel_rfl, by kernel_rfl⟩
theorem callee20 : Callee Try.prog 20 Try.f20 := ⟨Try.func20, by kernel_rfl, by kernel_rfl⟩
theorem callee21 : Callee Try.prog 21 Try.f21 := ⟨Try.func21, by kernel_rfl, by kernel_rfl⟩
theorem callee22 : Callee Try.prog 22 Try.f22 := ⟨Try.func22, by kernel_rfl, by kernel_rfl⟩
theorem callee23 : Callee Try.prog 23 Try.f23 := ⟨Try.func23, by kernel_rfl, by kernel_rfl⟩
theorem callee24 : Callee Try.prog 24 Try.f24 := ⟨Try.func24, by kernel_rfl, by kernel_rfl⟩
theorem callee25 : Callee Try.prog 25 Try.f25 := ⟨Try.func25, by kernel_rfl, by kernel_rfl⟩
theorem callee26 : Callee Try.prog 26 Try.f26 := ⟨Try.func26, by kernel_rfl, by kernel_rfl⟩
theorem callee27 : Callee Try.prog 27 Try.f27 := ⟨Try.func27, by kernel_rfl, by kernel_rfl⟩
theorem callee28 : Callee Try.prog 28 Try.f28 := ⟨Try.func28, by kernel_rfl, by kernel_rfl⟩
theorem callee29 : Callee Try.prog 29 Try.f29 := ⟨Try.func29, by kernel_rfl, by kernel_rfl⟩
theorem callee30 : Callee Try.prog 30 Try.f30 := ⟨Try.func30, by kernel_rfl, by kernel_rfl⟩
theorem callee31 : Callee Try.prog 31 Try.f31 := ⟨Try.func31, by kernel_rfl, by kernel_rfl⟩
theorem callee32 : Callee Try.prog 32 Try.f32 := ⟨Try.func32, by kernel_rfl, by kernel_rfl⟩
theorem callee33 : Callee Try.prog 33 Try.f33 := ⟨Try.func33, by kernel_rfl, by kernel_rfl⟩
theorem callee34 : Callee Try.prog 34 Try.f34 := ⟨Try.func34, by kernel_rfl, by kernel_rfl⟩
theorem callee35 : Callee Try.prog 35 Try.f35 := ⟨Try.func35, by kernel_rfl, by kernel_rfl⟩
theorem callee36 : Callee Try.prog 36 Try.f36 := ⟨Try.func36, by kernel_rfl, by kernel_rfl⟩
theorem callee37 : Callee Try.prog 37 Try.f37 := ⟨Try.func37, by kernel_rfl, by kernel_rfl⟩
theorem callee38 : Callee Try.prog 38 Try.f38 := ⟨Try.func38, by kernel_rfl, by kernel_rfl⟩
theorem callee39 : Callee Try.prog 39 Try.f39 := ⟨Try.func39, by kernel_rfl, by kernel_rfl⟩
theorem callee40 : Callee Try.prog 40 Try.f40 := ⟨Try.func40, by kernel_rfl, by kernel_rfl⟩
theorem callee41 : Callee Try.prog 41 Try.f41 := ⟨Try.func41, by kernel_rfl, by kernel_rfl⟩
theorem callee42 : Callee Try.prog 42 Try.f42 := ⟨Try.func42, by kernel_rfl, by kernel_rfl⟩
theorem callee43 : Callee Try.prog 43 Try.f43 := ⟨Try.func43, by kernel_rfl, by kernel_rfl⟩
theorem callee44 : Callee Try.prog 44 Try.f44 := ⟨Try.func44, by kernel_rfl, by kernel_rfl⟩
theorem callee45 : Callee Try.prog 45 Try.f45 := ⟨Try.func45, by kernel_rfl, by kernel_rfl⟩
theorem callee46 : Callee Try.prog 46 Try.f46 := ⟨Try.func46, by kernel_rfl, by kernel_rfl⟩
theorem callee47 : Callee Try.prog 47 Try.f47 := ⟨Try.func47, by kernel_rfl, by kernel_rfl⟩
theorem callee48 : Callee Try.prog 48 Try.f48 := ⟨Try.func48, by kernel_rfl, by kernel_rfl⟩
theorem callee49 : Callee Try.prog 49 Try.f49 := ⟨Try.func49, by kernel_rfl, by kernel_rfl⟩
theorem callee50 : Callee Try.prog 50 Try.f50 := ⟨Try.func50, by kernel_rfl, by kernel_rfl⟩
theorem callee51 : Callee Try.prog 51 Try.f51 := ⟨Try.func51, by kernel_rfl, by kernel_rfl⟩
theorem callee53 : Callee Try.prog 53 Try.f53 := ⟨Try.func53, by kernel_rfl, by kernel_rfl⟩
theorem callee54 : Callee Try.prog 54 Try.f54 := ⟨Try.func54, by kernel_rfl, by kernel_rfl⟩
theorem callee55 : Callee Try.prog 55 Try.f55 := ⟨Try.func55, by kernel_rfl, by kernel_rfl⟩
theorem callee56 : Callee Try.prog 56 Try.f56 := ⟨Try.func56, by kernel_rfl, by kernel_rfl⟩
theorem callee57 : Callee Try.prog 57 Try.f57 := ⟨Try.func57, by kernel_rfl, by kernel_rfl⟩
theorem callee59 : Callee Try.prog 59 Try.f59 := ⟨Try.func59, by kernel_rfl, by kernel_rfl⟩
theorem callee60 : Callee Try.prog 60 Try.f60 := ⟨Try.func60, by kernel_rfl, by kernel_rfl⟩
theorem callee61 : Callee Try.prog 61 Try.f61 := ⟨Try.func61, by kernel_rfl, by kernel_rfl⟩
theorem callee62 : Callee Try.prog 62 Try.f62 := ⟨Try.func62, by kernel_rfl, by kernel_rfl⟩
theorem callee63 : Callee Try.prog 63 Try.f63 := ⟨Try.func63, by kernel_rfl, by kernel_rfl⟩
theorem callee64 : Callee Try.prog 64 Try.f64 := ⟨Try.func64, by kernel_rfl, by kernel_rfl⟩
theorem callee65 : Callee Try.prog 65 Try.f65 := ⟨Try.func65, by kernel_rfl, by kernel_rfl⟩
theorem callee66 : Callee Try.prog 66 Try.f66 := ⟨Try.func66, by kernel_rfl, by kernel_rfl⟩
theorem callee67 : Callee Try.prog 67 Try.f67 := ⟨Try.func67, by kernel_rfl, by kernel_rfl⟩
theorem callee68 : Callee Try.prog 68 Try.f68 := ⟨Try.func68, by kernel_rfl, by kernel_rfl⟩
theorem callee69 : Callee Try.prog 69 Try.f69 := ⟨Try.func69, by kernel_rfl, by kernel_rfl⟩
theorem callee70 : Callee Try.prog 70 Try.f70 := ⟨Try.func70, by kernel_rfl, by kernel_rfl⟩
theorem callee71 : Callee Try.prog 71 Try.f71 := ⟨Try.func71, by kernel_rfl, by kernel_rfl⟩
theorem callee72 : Callee Try.prog 72 Try.f72 := ⟨Try.func72, by kernel_rfl, by kernel_rfl⟩
theorem callee73 : Callee Try.prog 73 Try.f73 := ⟨Try.func73, by kernel_rfl, by kernel_rfl⟩
theorem callee74 : Callee Try.prog 74 Try.f74 := ⟨Try.func74, by kernel_rfl, by kernel_rfl⟩
theorem callee75 : Callee Try.prog 75 Try.f75 := ⟨Try.func75, by kernel_rfl, by kernel_rfl⟩
theorem callee76 : Callee Try.prog 76 Try.f76 := ⟨Try.func76, by kernel_rfl, by kernel_rfl⟩
theorem callee77 : Callee Try.prog 77 Try.f77 := ⟨Try.func77, by kernel_rfl, by kernel_rfl⟩
theorem callee78 : Callee Try.prog 78 Try.f78 := ⟨Try.func78, by kernel_rfl, by kernel_rfl⟩
theorem callee79 : Callee Try.prog 79 Try.f79 := ⟨Try.func79, by kernel_rfl, by kernel_rfl⟩
theorem callee80 : Callee Try.prog 80 Try.f80 := ⟨Try.func80, by kernel_rfl, by kernel_rfl⟩
theorem callee81 : Callee Try.prog 81 Try.f81 := ⟨Try.func81, by kernel_rfl, by kernel_rfl⟩
theorem callee82 : Callee Try.prog 82 Try.f82 := ⟨Try.func82, by kernel_rfl, by kernel_rfl⟩
theorem callee83 : Callee Try.prog 83 Try.f83 := ⟨Try.func83, by kernel_rfl, by kernel_rfl⟩
theorem callee84 : Callee Try.prog 84 Try.f84 := ⟨Try.func84, by kernel_rfl, by kernel_rfl⟩
theorem callee85 : Callee Try.prog 85 Try.f85 := ⟨Try.func85, by kernel_rfl, by kernel_rfl⟩
theorem callee86 : Callee Try.prog 86 Try.f86 := ⟨Try.func86, by kernel_rfl, by kernel_rfl⟩
theorem callee87 : Callee Try.prog 87 Try.f87 := ⟨Try.func87, by kernel_rfl, by kernel_rfl⟩
theorem callee88 : Callee Try.prog 88 Try.f88 := ⟨Try.func88, by kernel_rfl, by kernel_rfl⟩
theorem callee89 : Callee Try.prog 89 Try.f89 := ⟨Try.func89, by kernel_rfl, by kernel_rfl⟩
theorem callee90 : Callee Try.prog 90 Try.f90 := ⟨Try.func90, by kernel_rfl, by kernel_rfl⟩
theorem callee91 : Callee Try.prog 91 Try.f91 := ⟨Try.func91, by kernel_rfl, by kernel_rfl⟩
theorem callee92 : Callee Try.prog 92 Try.f92 := ⟨Try.func92, by kernel_rfl, by kernel_rfl⟩
theorem callee93 : Callee Try.prog 93 Try.f93 := ⟨Try.func93, by kernel_rfl, by kernel_rfl⟩
theorem callee94 : Callee Try.prog 94 Try.f94 := ⟨Try.func94, by kernel_rfl, by kernel_rfl⟩
theorem callee95 : Callee Try.prog 95 Try.f95 := ⟨Try.func95, by kernel_rfl, by kernel_rfl⟩
theorem callee96 : Callee Try.prog 96 Try.f96 := ⟨Try.func96, by kernel_rfl, by kernel_rfl⟩
theorem callee97 : Callee Try.prog 97 Try.f97 := ⟨Try.func97, by kernel_rfl, by kernel_rfl⟩
theorem callee98 : Callee Try.prog 98 Try.f98 := ⟨Try.func98, by kernel_rfl, by kernel_rfl⟩
theorem callee99 : Callee Try.prog 99 Try.f99 := ⟨Try.func99, by kernel_rfl, by kernel_rfl⟩
theorem callee100 : Callee Try.prog 100 Try.f100 := ⟨Try.func100, by kernel_rfl, by kernel_rfl⟩
theorem callee101 : Callee Try.prog 101 Try.f101 := ⟨Try.func101, by kernel_rfl, by kernel_rfl⟩
theorem callee102 : Callee Try.prog 102 Try.f102 := ⟨Try.func102, by kernel_rfl, by kernel_rfl⟩
theorem callee103 : Callee Try.prog 103 Try.f103 := ⟨Try.func103, by kernel_rfl, by kernel_rfl⟩
theorem callee104 : Callee Try.prog 104 Try.f104 := ⟨Try.func104, by kernel_rfl, by kernel_rfl⟩
theorem callee105 : Callee Try.prog 105 Try.f105 := ⟨Try.func105, by kernel_rfl, by kernel_rfl⟩
theorem callee106 : Callee Try.prog 106 Try.f106 := ⟨Try.func106, by kernel_rfl, by kernel_rfl⟩
theorem callee107 : Callee Try.prog 107 Try.f107 := ⟨Try.func107, by kernel_rfl, by kernel_rfl⟩
theorem callee108 : Callee Try.prog 108 Try.f108 := ⟨Try.func108, by kernel_rfl, by kernel_rfl⟩
theorem callee109 : Callee Try.prog 109 Try.f109 := ⟨Try.func109, by kernel_rfl, by kernel_rfl⟩
theorem callee110 : Callee Try.prog 110 Try.f110 := ⟨Try.func110, by kernel_rfl, by kernel_rfl⟩
theorem callee111 : Callee Try.prog 111 Try.f111 := ⟨Try.func111, by kernel_rfl, by kernel_rfl⟩
theorem callee112 : Callee Try.prog 112 Try.f112 := ⟨Try.func112, by kernel_rfl, by kernel_rfl⟩
theorem callee113 : Callee Try.prog 113 Try.f113 := ⟨Try.func113, by kernel_rfl, by kernel_rfl⟩
theorem callee114 : Callee Try.prog 114 Try.f114 := ⟨Try.func114, by kernel_rfl, by kernel_rfl⟩
theorem callee115 : Callee Try.prog 115 Try.f115 := ⟨Try.func115, by kernel_rfl, by kernel_rfl⟩
theorem callee116 : Callee Try.prog 116 Try.f116 := ⟨Try.func116, by kernel_rfl, by kernel_rfl⟩
theorem callee117 : Callee Try.prog 117 Try.f117 := ⟨Try.func117, by kernel_rfl, by kernel_rfl⟩
theorem callee118 : Callee Try.prog 118 Try.f118 := ⟨Try.func118, by kernel_rfl, by kernel_rfl⟩
theorem callee119 : Callee Try.prog 119 Try.f119 := ⟨Try.func119, by kernel_rfl, by kernel_rfl⟩
theorem callee120 : Callee Try.prog 120 Try.f120 := ⟨Try.func120, by kernel_rfl, by kernel_rfl⟩
theorem callee121 : Callee Try.prog 121 Try.f121 := ⟨Try.func121, by kernel_rfl, by kernel_rfl⟩
theorem callee122 : Callee Try.prog 122 Try.f122 := ⟨Try.func122, by kernel_rfl, by kernel_rfl⟩
theorem callee123 : Callee Try.prog 123 Try.f123 := ⟨Try.func123, by kernel_rfl, by kernel_rfl⟩
theorem callee124 : Callee Try.prog 124 Try.f124 := ⟨Try.func124, by kernel_rfl, by kernel_rfl⟩
theorem callee125 : Callee Try.prog 125 Try.f125 := ⟨Try.func125, by kernel_rfl, by kernel_rfl⟩
theorem callee126 : Callee Try.prog 126 Try.f126 := ⟨Try.func126, by kernel_rfl, by kernel_rfl⟩
theorem callee127 : Callee Try.prog 127 Try.f127 := ⟨Try.func127, by kernel_rfl, by kernel_rfl⟩
theorem callee128 : Callee Try.prog 128 Try.f128 := ⟨Try.func128, by kernel_rfl, by kernel_rfl⟩
theorem callee129 : Callee Try.prog 129 Try.f129 := ⟨Try.func129, by kernel_rfl, by kernel_rfl⟩
theorem callee130 : Callee Try.prog 130 Try.f130 := ⟨Try.func130, by kernel_rfl, by kernel_rfl⟩
theorem callee131 : Callee Try.prog 131 Try.f131 := ⟨Try.func131, by kernel_rfl, by kernel_rfl⟩
theorem callee132 : Callee Try.prog 132 Try.f132 := ⟨Try.func132, by kernel_rfl, by kernel_rfl⟩
theorem callee133 : Callee Try.prog 133 Try.f133 := ⟨Try.func133, by kernel_rfl, by kernel_rfl⟩
theorem callee134 : Callee Try.prog 134 Try.f134 := ⟨Try.func134, by kernel_rfl, by kernel_rfl⟩
theorem callee135 : Callee Try.prog 135 Try.f135 := ⟨Try.func135, by kernel_rfl, by kernel_rfl⟩
theorem callee136 : Callee Try.prog 136 Try.f136 := ⟨Try.func136, by kernel_rfl, by kernel_rfl⟩
theorem callee137 : Callee Try.prog 137 Try.f137 := ⟨Try.func137, by kernel_rfl, by kernel_rfl⟩
theorem callee138 : Callee Try.prog 138 Try.f138 := ⟨Try.func138, by kernel_rfl, by kernel_rfl⟩
theorem callee139 : Callee Try.prog 139 Try.f139 := ⟨Try.func139, by kernel_rfl, by kernel_rfl⟩
theorem callee140 : Callee Try.prog 140 Try.f140 := ⟨Try.func140, by kernel_rfl, by kernel_rfl⟩
theorem callee141 : Callee Try.prog 141 Try.f141 := ⟨Try.func141, by kernel_rfl, by kernel_rfl⟩
theorem callee142 : Callee Try.prog 142 Try.f142 := ⟨Try.func142, by kernel_rfl, by kernel_rfl⟩
theorem callee143 : Callee Try.prog 143 Try.f143 := ⟨Try.func143, by kernel_rfl, by kernel_rfl⟩
theorem callee144 : Callee Try.prog 144 Try.f144 := ⟨Try.func144, by kernel_rfl, by kernel_rfl⟩
theorem callee145 : Callee Try.prog 145 Try.f145 := ⟨Try.func145, by kernel_rfl, by kernel_rfl⟩
theorem callee146 : Callee Try.prog 146 Try.f146 := ⟨Try.func146, by kernel_rfl, by kernel_rfl⟩
theorem callee147 : Callee Try.prog 147 Try.f147 := ⟨Try.func147, by kernel_rfl, by kernel_rfl⟩
theorem callee148 : Callee Try.prog 148 Try.f148 := ⟨Try.func148, by kernel_rfl, by kernel_rfl⟩
theorem callee149 : Callee Try.prog 149 Try.f149 := ⟨Try.func149, by kernel_rfl, by kernel_rfl⟩
theorem callee150 : Callee Try.prog 150 Try.f150 := ⟨Try.func150, by kernel_rfl, by kernel_rfl⟩
theorem callee151 : Callee Try.prog 151 Try.f151 := ⟨Try.func151, by kernel_rfl, by kernel_rfl⟩
theorem callee152 : Callee Try.prog 152 Try.f152 := ⟨Try.func152, by kernel_rfl, by kernel_rfl⟩
theorem callee153 : Callee Try.prog 153 Try.f153 := ⟨Try.func153, by kernel_rfl, by kernel_rfl⟩
theorem callee154 : Callee Try.prog 154 Try.f154 := ⟨Try.func154, by kernel_rfl, by kernel_rfl⟩
theorem callee155 : Callee Try.prog 155 Try.f155 := ⟨Try.func155, by kernel_rfl, by kernel_rfl⟩
theorem callee156 : Callee Try.prog 156 Try.f156 := ⟨Try.func156, by kernel_rfl, by kernel_rfl⟩
theorem callee157 : Callee Try.prog 157 Try.f157 := ⟨Try.func157, by kernel_rfl, by kernel_rfl⟩
theorem callee158 : Callee Try.prog 158 Try.f158 := ⟨Try.func158, by kernel_rfl, by kernel_rfl⟩
theorem callee159 : Callee Try.prog 159 Try.f159 := ⟨Try.func159, by kernel_rfl, by kernel_rfl⟩
theorem callee160 : Callee Try.prog 160 Try.f160 := ⟨Try.func160, by kernel_rfl, by kernel_rfl⟩
theorem callee161 : Callee Try.prog 161 Try.f161 := ⟨Try.func161, by kernel_rfl, by kernel_rfl⟩
theorem callee162 : Callee Try.prog 162 Try.f162 := ⟨Try.func162, by kernel_rfl, by kernel_rfl⟩
theorem callee163 : Callee Try.prog 163 Try.f163 := ⟨Try.func163, by kernel_rfl, by kernel_rfl⟩
theorem callee164 : Callee Try.prog 164 Try.f164 := ⟨Try.func164, by kernel_rfl, by kernel_rfl⟩
theorem callee165 : Callee Try.prog 165 Try.f165 := ⟨Try.func165, by kernel_rfl, by kernel_rfl⟩
theorem callee166 : Callee Try.prog 166 Try.f166 := ⟨Try.func166, by kernel_rfl, by kernel_rfl⟩
theorem callee167 : Callee Try.prog 167 Try.f167 := ⟨Try.func167, by kernel_rfl, by kernel_rfl⟩
theorem callee168 : Callee Try.prog 168 Try.f168 := ⟨Try.func168, by kernel_rfl, by kernel_rfl⟩
theorem callee169 : Callee Try.prog 169 Try.f169 := ⟨Try.func169, by kernel_rfl, by kernel_rfl⟩
theorem callee170 : Callee Try.prog 170 Try.f170 := ⟨Try.func170, by kernel_rfl, by kernel_rfl⟩
theorem callee171 : Callee Try.prog 171 Try.f171 := ⟨Try.func171, by kernel_rfl, by kernel_rfl⟩
theorem callee172 : Callee Try.prog 172 Try.f172 := ⟨Try.func172, by kernel_rfl, by kernel_rfl⟩
theorem callee173 : Callee Try.prog 173 Try.f173 := ⟨Try.func173, by kernel_rfl, by kernel_rfl⟩
theorem callee174 : Callee Try.prog 174 Try.f174 := ⟨Try.func174, by kernel_rfl, by kernel_rfl⟩
theorem callee175 : Callee Try.prog 175 Try.f175 := ⟨Try.func175, by kernel_rfl, by kernel_rfl⟩
theorem callee176 : Callee Try.prog 176 Try.f176 := ⟨Try.func176, by kernel_rfl, by kernel_rfl⟩
theorem callee177 : Callee Try.prog 177 Try.f177 := ⟨Try.func177, by kernel_rfl, by kernel_rfl⟩
theorem callee178 : Callee Try.prog 178 Try.f178 := ⟨Try.func178, by kernel_rfl, by kernel_rfl⟩
theorem callee179 : Callee Try.prog 179 Try.f179 := ⟨Try.func179, by kernel_rfl, by kernel_rfl⟩
theorem callee180 : Callee Try.prog 180 Try.f180 := ⟨Try.func180, by kernel_rfl, by kernel_rfl⟩
theorem callee181 : Callee Try.prog 181 Try.f181 := ⟨Try.func181, by kernel_rfl, by kernel_rfl⟩
theorem callee182 : Callee Try.prog 182 Try.f182 := ⟨Try.func182, by kernel_rfl, by kernel_rfl⟩
theorem callee183 : Callee Try.prog 183 Try.f183 := ⟨Try.func183, by kernel_rfl, by kernel_rfl⟩
theorem callee184 : Callee Try.prog 184 Try.f184 := ⟨Try.func184, by kernel_rfl, by kernel_rfl⟩
theorem callee185 : Callee Try.prog 185 Try.f185 := ⟨Try.func185, by kernel_rfl, by kernel_rfl⟩
theorem callee186 : Callee Try.prog 186 Try.f186 := ⟨Try.func186, by kernel_rfl, by kernel_rfl⟩
theorem callee187 : Callee Try.prog 187 Try.f187 := ⟨Try.func187, by kernel_rfl, by kernel_rfl⟩
theorem callee188 : Callee Try.prog 188 Try.f188 := ⟨Try.func188, by kernel_rfl, by kernel_rfl⟩
theorem callee189 : Callee Try.prog 189 Try.f189 := ⟨Try.func189, by kernel_rfl, by kernel_rfl⟩
theorem callee190 : Callee Try.prog 190 Try.f190 := ⟨Try.func190, by kernel_rfl, by kernel_rfl⟩
theorem callee191 : Callee Try.prog 191 Try.f191 := ⟨Try.func191, by kernel_rfl, by kernel_rfl⟩
theorem callee192 : Callee Try.prog 192 Try.f192 := ⟨Try.func192, by kernel_rfl, by kernel_rfl⟩
theorem callee193 : Callee Try.prog 193 Try.f193 := ⟨Try.func193, by kernel_rfl, by kernel_rfl⟩
theorem callee194 : Callee Try.prog 194 Try.f194 := ⟨Try.func194, by kernel_rfl, by kernel_rfl⟩
theorem callee195 : Callee Try.prog 195 Try.f195 := ⟨Try.func195, by kernel_rfl, by kernel_rfl⟩
theorem callee196 : Callee Try.prog 196 Try.f196 := ⟨Try.func196, by kernel_rfl, by kernel_rfl⟩
theorem callee197 : Callee Try.prog 197 Try.f197 := ⟨Try.func197, by kernel_rfl, by kernel_rfl⟩
theorem callee198 : Callee Try.prog 198 Try.f198 := ⟨Try.func198, by kernel_rfl, by kernel_rfl⟩
theorem callee199 : Callee Try.prog 199 Try.f199 := ⟨Try.func199, by kernel_rfl, by kernel_rfl⟩
theorem callee200 : Callee Try.prog 200 Try.f200 := ⟨Try.func200, by kernel_rfl, by kernel_rfl⟩
theorem callee201 : Callee Try.prog 201 Try.f201 := ⟨Try.func201, by kernel_rfl, by kernel_rfl⟩
theorem callee202 : Callee Try.prog 202 Try.f202 := ⟨Try.func202, by kernel_rfl, by kernel_rfl⟩
theorem callee203 : Callee Try.prog 203 Try.f203 := ⟨Try.func203, by kernel_rfl, by kernel_rfl⟩
theorem callee204 : Callee Try.prog 204 Try.f204 := ⟨Try.func204, by kernel_rfl, by kernel_rfl⟩
theorem callee205 : Callee Try.prog 205 Try.f205 := ⟨Try.func205, by kernel_rfl, by kernel_rfl⟩
theorem callee206 : Callee Try.prog 206 Try.f206 := ⟨Try.func206, by kernel_rfl, by kernel_rfl⟩
theorem callee207 : Callee Try.prog 207 Try.f207 := ⟨Try.func207, by kernel_rfl, by kernel_rfl⟩
theorem callee208 : Callee Try.prog 208 Try.f208 := ⟨Try.func208, by kernel_rfl, by kernel_rfl⟩
theorem callee209 : Callee Try.prog 209 Try.f209 := ⟨Try.func209, by kernel_rfl, by kernel_rfl⟩
theorem callee210 : Callee Try.prog 210 Try.f210 := ⟨Try.func210, by kernel_rfl, by kernel_rfl⟩
theorem callee211 : Callee Try.prog 211 Try.f211 := ⟨Try.func211, by kernel_rfl, by kernel_rfl⟩
theorem callee212 : Callee Try.prog 212 Try.f212 := ⟨Try.func212, by kernel_rfl, by kernel_rfl⟩
theorem callee213 : Callee Try.prog 213 Try.f213 := ⟨Try.func213, by kernel_rfl, by kernel_rfl⟩
end Go.Proofs.Ytlnlmideghepnaa.K
