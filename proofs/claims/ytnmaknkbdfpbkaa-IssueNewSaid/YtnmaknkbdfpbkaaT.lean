/- Types and functions of the program, as the printed functions need them. -/
import Derived.Test.YtnmaknkbdfpbkaaProg
import Derived.Test.YtnmaknkbdfpbkaaK10
import Derived.KernelRfl
namespace Go.Proofs.Ytnmaknkbdfpbkaa.K
open Go Go.Proofs
theorem mixed : Try.prog.follows .mixedOrders = true := by kernel_rfl
structure S_api_Word where
  Hi : Int
  Lo : Int
def S_api_Word.cells (x : S_api_Word) : List Value := [(Value.int .u64 x.Hi), (Value.int .u64 x.Lo)]
def S_api_Word.val (x : S_api_Word) : Value := .agg (S_api_Word.cells x).toArray
structure S_draws_Draws where
  xall : Sl
  xtaken : Int
def S_draws_Draws.cells (x : S_draws_Draws) : List Value := [(Sl.val x.xall), (Value.int .i64 x.xtaken)]
def S_draws_Draws.val (x : S_draws_Draws) : Value := .agg (S_draws_Draws.cells x).toArray
structure S_ref04_Draws where
  L : Sl
  Width : Int
  At : Int
def S_ref04_Draws.cells (x : S_ref04_Draws) : List Value := [(Sl.val x.L), (Value.int .i64 x.Width), (Value.int .i64 x.At)]
def S_ref04_Draws.val (x : S_ref04_Draws) : Value := .agg (S_ref04_Draws.cells x).toArray
structure S_law04_Pair where
  P : Option Addr
  R : Option Addr
def S_law04_Pair.cells (x : S_law04_Pair) : List Value := [(Value.pointer x.P), (Value.pointer x.R)]
def S_law04_Pair.val (x : S_law04_Pair) : Value := .agg (S_law04_Pair.cells x).toArray
structure S_law04_Step where
  Second : Bool
  Kind : Int
  N : Int
def S_law04_Step.cells (x : S_law04_Step) : List Value := [(Value.bool x.Second), (Value.int .i64 x.Kind), (Value.int .i64 x.N)]
def S_law04_Step.val (x : S_law04_Step) : Value := .agg (S_law04_Step.cells x).toArray
structure S_api_Cap where
  Obj : Int
  Pass : S_api_Word
def S_api_Cap.cells (x : S_api_Cap) : List Value := [(Value.int .i64 x.Obj), (Value.int .u64 x.Pass.Hi), (Value.int .u64 x.Pass.Lo)]
def S_api_Cap.val (x : S_api_Cap) : Value := .agg (S_api_Cap.cells x).toArray
structure S_book_whom where
  xproc : Int
  xc : S_api_Cap
def S_book_whom.cells (x : S_book_whom) : List Value := [(Value.int .i64 x.xproc), (Value.int .i64 x.xc.Obj), (Value.int .u64 x.xc.Pass.Hi), (Value.int .u64 x.xc.Pass.Lo)]
def S_book_whom.val (x : S_book_whom) : Value := .agg (S_book_whom.cells x).toArray
structure S_book_Link where
  Step : Int
  Kind : Int
  By : Int
  To : Int
  Cap : S_api_Cap
def S_book_Link.cells (x : S_book_Link) : List Value := [(Value.int .i64 x.Step), (Value.int .i64 x.Kind), (Value.int .i64 x.By), (Value.int .i64 x.To), (Value.int .i64 x.Cap.Obj), (Value.int .u64 x.Cap.Pass.Hi), (Value.int .u64 x.Cap.Pass.Lo)]
def S_book_Link.val (x : S_book_Link) : Value := .agg (S_book_Link.cells x).toArray
structure S_book_token where
  xrights : Int
  xparent : S_api_Cap
  xroot : Bool
def S_book_token.cells (x : S_book_token) : List Value := [(Value.int .i64 x.xrights), (Value.int .i64 x.xparent.Obj), (Value.int .u64 x.xparent.Pass.Hi), (Value.int .u64 x.xparent.Pass.Lo), (Value.bool x.xroot)]
def S_book_token.val (x : S_book_token) : Value := .agg (S_book_token.cells x).toArray
structure S_book_laid where
  xby : Int
  xc : S_api_Cap
  xway : Sl
def S_book_laid.cells (x : S_book_laid) : List Value := [(Value.int .i64 x.xby), (Value.int .i64 x.xc.Obj), (Value.int .u64 x.xc.Pass.Hi), (Value.int .u64 x.xc.Pass.Lo), (Sl.val x.xway)]
def S_book_laid.val (x : S_book_laid) : Value := .agg (S_book_laid.cells x).toArray
structure S_api_Call where
  Op : Int
  By : Int
  Size : Int
  Cap : S_api_Cap
  Given : Bool
  Rights : Int
  Off : Int
  N : Int
  Data : Sl
  Index : Int
  Gifts : Sl
def S_api_Call.cells (x : S_api_Call) : List Value := [(Value.int .i64 x.Op), (Value.int .i64 x.By), (Value.int .i64 x.Size), (Value.int .i64 x.Cap.Obj), (Value.int .u64 x.Cap.Pass.Hi), (Value.int .u64 x.Cap.Pass.Lo), (Value.bool x.Given), (Value.int .i64 x.Rights), (Value.int .i64 x.Off), (Value.int .i64 x.N), (Sl.val x.Data), (Value.int .i64 x.Index), (Sl.val x.Gifts)]
def S_api_Call.val (x : S_api_Call) : Value := .agg (S_api_Call.cells x).toArray
structure S_api_Reply where
  Code : Int
  Cap : S_api_Cap
  Data : Sl
  Number : Int
def S_api_Reply.cells (x : S_api_Reply) : List Value := [(Value.int .i64 x.Code), (Value.int .i64 x.Cap.Obj), (Value.int .u64 x.Cap.Pass.Hi), (Value.int .u64 x.Cap.Pass.Lo), (Sl.val x.Data), (Value.int .i64 x.Number)]
def S_api_Reply.val (x : S_api_Reply) : Value := .agg (S_api_Reply.cells x).toArray
theorem i3 : Try.prog.info? 3 = some Try.t3 := by kernel_rfl
theorem i4 : Try.prog.info? 4 = some Try.t4 := by kernel_rfl
theorem i5 : Try.prog.info? 5 = some Try.t5 := by kernel_rfl
theorem i9 : Try.prog.info? 9 = some Try.t9 := by kernel_rfl
theorem i22 : Try.prog.info? 22 = some Try.t22 := by kernel_rfl
theorem i23 : Try.prog.info? 23 = some Try.t23 := by kernel_rfl
theorem i25 : Try.prog.info? 25 = some Try.t25 := by kernel_rfl
theorem i26 : Try.prog.info? 26 = some Try.t26 := by kernel_rfl
theorem i27 : Try.prog.info? 27 = some Try.t27 := by kernel_rfl
theorem i36 : Try.prog.info? 36 = some Try.t36 := by kernel_rfl
theorem i37 : Try.prog.info? 37 = some Try.t37 := by kernel_rfl
theorem i41 : Try.prog.info? 41 = some Try.t41 := by kernel_rfl
theorem i43 : Try.prog.info? 43 = some Try.t43 := by kernel_rfl
theorem i46 : Try.prog.info? 46 = some Try.t46 := by kernel_rfl
theorem i49 : Try.prog.info? 49 = some Try.t49 := by kernel_rfl
theorem i51 : Try.prog.info? 51 = some Try.t51 := by kernel_rfl
theorem i68 : Try.prog.info? 68 = some Try.t68 := by kernel_rfl
theorem i74 : Try.prog.info? 74 = some Try.t74 := by kernel_rfl
theorem i79 : Try.prog.info? 79 = some Try.t79 := by kernel_rfl
theorem i81 : Try.prog.info? 81 = some Try.t81 := by kernel_rfl
theorem i84 : Try.prog.info? 84 = some Try.t84 := by kernel_rfl
theorem i86 : Try.prog.info? 86 = some Try.t86 := by kernel_rfl
theorem i89 : Try.prog.info? 89 = some Try.t89 := by kernel_rfl
theorem i93 : Try.prog.info? 93 = some Try.t93 := by kernel_rfl
theorem i95 : Try.prog.info? 95 = some Try.t95 := by kernel_rfl
theorem i97 : Try.prog.info? 97 = some Try.t97 := by kernel_rfl
theorem i100 : Try.prog.info? 100 = some Try.t100 := by kernel_rfl
theorem i109 : Try.prog.info? 109 = some Try.t109 := by kernel_rfl
theorem i110 : Try.prog.info? 110 = some Try.t110 := by kernel_rfl
theorem i111 : Try.prog.info? 111 = some Try.t111 := by kernel_rfl
theorem i112 : Try.prog.info? 112 = some Try.t112 := by kernel_rfl
theorem i113 : Try.prog.info? 113 = some Try.t113 := by kernel_rfl
theorem i115 : Try.prog.info? 115 = some Try.t115 := by kernel_rfl
theorem i121 : Try.prog.info? 121 = some Try.t121 := by kernel_rfl
theorem i125 : Try.prog.info? 125 = some Try.t125 := by kernel_rfl
theorem i141 : Try.prog.info? 141 = some Try.t141 := by kernel_rfl
theorem callee13 : Callee Try.prog 13 Try.f13 := ⟨Try.func13, by kernel_rfl, by kernel_rfl⟩
theorem callee14 : Callee Try.prog 14 Try.f14 := ⟨Try.func14, by kernel_rfl, by kernel_rfl⟩
theorem callee15 : Callee Try.prog 15 Try.f15 := ⟨Try.func15, by kernel_rfl, by kernel_rfl⟩
theorem callee16 : Callee Try.prog 16 Try.f16 := ⟨Try.func16, by kernel_rfl, by kernel_rfl⟩
theorem callee17 : Callee Try.prog 17 Try.f17 := ⟨Try.func17, by kernel_rfl, by kernel_rfl⟩
theorem callee18 : Callee Try.prog 18 Try.f18 := ⟨Try.func18, by kernel_rfl, by kernel_rfl⟩
theorem callee19 : Callee Try.prog 19 Try.f19 := ⟨Try.func19, by kernel_rfl, by kernel_rfl⟩
theorem callee20 : Callee Try.prog 20 Try.f20 := ⟨Try.func20, by kernel_rfl, by kernel_rfl⟩
theorem callee21 : Callee Try.prog 21 Try.f21 := ⟨Try.func21, by kernel_rfl, by kernel_rfl⟩
theorem callee22 : Callee Try.prog 22 Try.f22 := ⟨Try.func22, by kernel_rfl, by kernel_rfl⟩
theorem callee23 : Callee Try.prog 23 Try.f23 := ⟨Try.func23, by kernel_rfl, by kernel_rfl⟩
theorem callee24 : Callee Try.prog 24 Try.f24 := ⟨Try.func24, by kernel_rfl, by kernel_rfl⟩
theorem callee25 : Callee Try.prog 25 Try.f25 := ⟨Try.func25, by kernel_rfl, by kernel_rfl⟩
theorem callee26 : Callee Try.prog 26 Try.f26 := ⟨Try.func26, by kernel_rfl, by kernel_rfl⟩
theorem callee27 : Callee Try.prog 27 Try.f27 := ⟨Try.func27, by kernel_rfl, by kernel_rfl⟩
theorem callee28 : Callee Try.prog 28 Try.f28 := ⟨Try.func28, by kernel_rfl, by kernel_rfl⟩
theorem callee29 : Callee Try.prog 29 Try.f29 := ⟨Try.func29, by kernel_rfl, by kernel_rfl⟩
theorem callee30 : Callee Try.prog 30 Try.f30 := ⟨Try.func30, by kernel_rfl, by kernel_rfl⟩
theorem callee31 : Callee Try.prog 31 Try.f31 := ⟨Try.func31, by kernel_rfl, by kernel_rfl⟩
theorem callee32 : Callee Try.prog 32 Try.f32 := ⟨Try.func32, by kernel_rfl, by kernel_rfl⟩
theorem callee33 : Callee Try.prog 33 Try.f33 := ⟨Try.func33, by kernel_rfl, by kernel_rfl⟩
theorem callee34 : Callee Try.prog 34 Try.f34 := ⟨Try.func34, by kernel_rfl, by kernel_rfl⟩
theorem callee36 : Callee Try.prog 36 Try.f36 := ⟨Try.func36, by kernel_rfl, by kernel_rfl⟩
theorem callee37 : Callee Try.prog 37 Try.f37 := ⟨Try.func37, by kernel_rfl, by kernel_rfl⟩
theorem callee38 : Callee Try.prog 38 Try.f38 := ⟨Try.func38, by kernel_rfl, by kernel_rfl⟩
theorem callee39 : Callee Try.prog 39 Try.f39 := ⟨Try.func39, by kernel_rfl, by kernel_rfl⟩
theorem callee40 : Callee Try.prog 40 Try.f40 := ⟨Try.func40, by kernel_rfl, by kernel_rfl⟩
theorem callee41 : Callee Try.prog 41 Try.f41 := ⟨Try.func41, by kernel_rfl, by kernel_rfl⟩
theorem callee42 : Callee Try.prog 42 Try.f42 := ⟨Try.func42, by kernel_rfl, by kernel_rfl⟩
theorem callee43 : Callee Try.prog 43 Try.f43 := ⟨Try.func43, by kernel_rfl, by kernel_rfl⟩
theorem callee45 : Callee Try.prog 45 Try.f45 := ⟨Try.func45, by kernel_rfl, by kernel_rfl⟩
theorem callee46 : Callee Try.prog 46 Try.f46 := ⟨Try.func46, by kernel_rfl, by kernel_rfl⟩
theorem callee52 : Callee Try.prog 52 Try.f52 := ⟨Try.func52, by kernel_rfl, by kernel_rfl⟩
theorem callee53 : Callee Try.prog 53 Try.f53 := ⟨Try.func53, by kernel_rfl, by kernel_rfl⟩
theorem callee54 : Callee Try.prog 54 Try.f54 := ⟨Try.func54, by kernel_rfl, by kernel_rfl⟩
theorem callee55 : Callee Try.prog 55 Try.f55 := ⟨Try.func55, by kernel_rfl, by kernel_rfl⟩
theorem callee56 : Callee Try.prog 56 Try.f56 := ⟨Try.func56, by kernel_rfl, by kernel_rfl⟩
theorem callee57 : Callee Try.prog 57 Try.f57 := ⟨Try.func57, by kernel_rfl, by kernel_rfl⟩
theorem callee58 : Callee Try.prog 58 Try.f58 := ⟨Try.func58, by kernel_rfl, by kernel_rfl⟩
theorem callee59 : Callee Try.prog 59 Try.f59 := ⟨Try.func59, by kernel_rfl, by kernel_rfl⟩
theorem callee60 : Callee Try.prog 60 Try.f60 := ⟨Try.func60, by kernel_rfl, by kernel_rfl⟩
theorem callee61 : Callee Try.prog 61 Try.f61 := ⟨Try.func61, by kernel_rfl, by kernel_rfl⟩
theorem callee64 : Callee Try.prog 64 Try.f64 := ⟨Try.func64, by kernel_rfl, by kernel_rfl⟩
theorem callee67 : Callee Try.prog 67 Try.f67 := ⟨Try.func67, by kernel_rfl, by kernel_rfl⟩
theorem callee76 : Callee Try.prog 76 Try.f76 := ⟨Try.func76, by kernel_rfl, by kernel_rfl⟩
theorem callee81 : Callee Try.prog 81 Try.f81 := ⟨Try.func81, by kernel_rfl, by kernel_rfl⟩
theorem callee84 : Callee Try.prog 84 Try.f84 := ⟨Try.func84, by kernel_rfl, by kernel_rfl⟩
end Go.Proofs.Ytnmaknkbdfpbkaa.K
