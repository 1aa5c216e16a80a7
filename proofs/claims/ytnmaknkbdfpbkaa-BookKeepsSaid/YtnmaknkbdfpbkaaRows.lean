/-
  No cell of these rows narrows 'for every input' (looked for: loops, veiled, ifaces, maps, wideKeys, modest, calm, conditions, laid).
  DERIVED. THE GIVEN ROWS OF THIS SEAT. 10 by the template 'for every input the law returns true; each argument reads behind the call as it read before'; 0 by the template 'total and deterministic' (their statements: YtnmaknkbdfpbkaaTotals.lean).
  GIVEN WITH THE SEED: the statements are not yours to turn. If you find one false, say at which input.
  Laid BY PROGRAM, IN A SANDBOX (cutbox-rows.mjs): the forced cells as the released guide's own fill.sh prints them over the translation 1b0fd89ed72656ee… (all of the seat's roots in one cut). By AI agents, Wed Nov 11 2026. No macro, syntax, notation, axiom, sorry.
-/
import Derived.Test.YtnmaknkbdfpbkaaChecked
import GoSem.Claim
import GoSem.ClaimJoined
import GoSem.ClaimMapViews
import Derived.JoinedTies
import Derived.KernelRfl
namespace Go.Proofs.Ytnmaknkbdfpbkaa
/- THE CELL 'sum', in the pinned program and in every row, IS THE sha256 OF THE DUMP (.gsa) THAT YtnmaknkbdfpbkaaProg.lean LOADS. Nothing in Lean hashes anything: it is a label: what it is worth is what the hold of that sum in a sandbox is worth. -/
noncomputable def Try.pinned : Pinned := { name := "ytnmaknkbdfpbkaa", sum := "1b0fd89ed72656ee221397711ee6741e8eae8adb9fa3e6033c614857b970b32b", checked := Try.checked }
namespace Rows
def none {H : Type} : Left H := { results := [], args := [] }

/-- 'sesamelaw04.DrawsApart': WHATEVER THE INPUT: true; the input reads as it did. -/
def drawsApartSpec : ChangeSpec := { name := "drawsApart", fn := fun _ => fun
  | [d1, d2] => { results := [.lit (.bool true)], args := [d1, d2] }
  | _ => none }
def drawsApartRow : OpenClaim := { program := "ytnmaknkbdfpbkaa", sum := "1b0fd89ed72656ee221397711ee6741e8eae8adb9fa3e6033c614857b970b32b", func := "sesame/sesamelaw04.DrawsApart", spec := "drawsApart", plainKeys := false, apart := false }
def DrawsApartSaid : Prop := drawsApartRow.holds Try.pinned (OpenSpec.ofChange drawsApartSpec)

/-- ITS FALSE NEIGHBOUR: 'it returns false'. Refute it at one input. -/
def drawsApartWrong : ChangeSpec := { name := "drawsApart", fn := fun _ => fun
  | [d1, d2] => { results := [.lit (.bool false)], args := [d1, d2] }
  | _ => none }
def DrawsApartWrongFalsely : Prop := drawsApartRow.holds Try.pinned (OpenSpec.ofChange drawsApartWrong)

/-- 'sesamelaw04.DrawsAll': WHATEVER THE INPUT: true; the input reads as it did. -/
def drawsAllSpec : ChangeSpec := { name := "drawsAll", fn := fun _ => fun
  | [d1, d2, d3, d4] => { results := [.lit (.bool true)], args := [d1, d2, d3, d4] }
  | _ => none }
def drawsAllRow : OpenClaim := { program := "ytnmaknkbdfpbkaa", sum := "1b0fd89ed72656ee221397711ee6741e8eae8adb9fa3e6033c614857b970b32b", func := "sesame/sesamelaw04.DrawsAll", spec := "drawsAll", plainKeys := false, apart := false }
def DrawsAllSaid : Prop := drawsAllRow.holds Try.pinned (OpenSpec.ofChange drawsAllSpec)

/-- ITS FALSE NEIGHBOUR: 'it returns false'. Refute it at one input. -/
def drawsAllWrong : ChangeSpec := { name := "drawsAll", fn := fun _ => fun
  | [d1, d2, d3, d4] => { results := [.lit (.bool false)], args := [d1, d2, d3, d4] }
  | _ => none }
def DrawsAllWrongFalsely : Prop := drawsAllRow.holds Try.pinned (OpenSpec.ofChange drawsAllWrong)

/-- 'sesamelaw04.DrawsInOrder': WHATEVER THE INPUT: true; the input reads as it did. -/
def drawsInOrderSpec : ChangeSpec := { name := "drawsInOrder", fn := fun _ => fun
  | [d1, d2, d3] => { results := [.lit (.bool true)], args := [d1, d2, d3] }
  | _ => none }
def drawsInOrderRow : OpenClaim := { program := "ytnmaknkbdfpbkaa", sum := "1b0fd89ed72656ee221397711ee6741e8eae8adb9fa3e6033c614857b970b32b", func := "sesame/sesamelaw04.DrawsInOrder", spec := "drawsInOrder", plainKeys := false, apart := false }
def DrawsInOrderSaid : Prop := drawsInOrderRow.holds Try.pinned (OpenSpec.ofChange drawsInOrderSpec)

/-- ITS FALSE NEIGHBOUR: 'it returns false'. Refute it at one input. -/
def drawsInOrderWrong : ChangeSpec := { name := "drawsInOrder", fn := fun _ => fun
  | [d1, d2, d3] => { results := [.lit (.bool false)], args := [d1, d2, d3] }
  | _ => none }
def DrawsInOrderWrongFalsely : Prop := drawsInOrderRow.holds Try.pinned (OpenSpec.ofChange drawsInOrderWrong)

/-- 'sesamelaw13.IssueDraws': WHATEVER THE INPUT: true; the input reads as it did. -/
def issueDrawsSpec : ChangeSpec := { name := "issueDraws", fn := fun _ => fun
  | [d1, d2, d3] => { results := [.lit (.bool true)], args := [d1, d2, d3] }
  | _ => none }
def issueDrawsRow : OpenClaim := { program := "ytnmaknkbdfpbkaa", sum := "1b0fd89ed72656ee221397711ee6741e8eae8adb9fa3e6033c614857b970b32b", func := "sesame/sesamelaw13.IssueDraws", spec := "issueDraws", unfollowed := true, recurses := true, plainKeys := false, apart := false }
def IssueDrawsSaid : Prop := issueDrawsRow.holds Try.pinned (OpenSpec.ofChange issueDrawsSpec)

/-- ITS FALSE NEIGHBOUR: 'it returns false'. Refute it at one input. -/
def issueDrawsWrong : ChangeSpec := { name := "issueDraws", fn := fun _ => fun
  | [d1, d2, d3] => { results := [.lit (.bool false)], args := [d1, d2, d3] }
  | _ => none }
def IssueDrawsWrongFalsely : Prop := issueDrawsRow.holds Try.pinned (OpenSpec.ofChange issueDrawsWrong)

/-- 'sesamelaw13.IssueNew': WHATEVER THE INPUT: true; the input reads as it did. -/
def issueNewSpec : ChangeSpec := { name := "issueNew", fn := fun _ => fun
  | [d1, d2, d3, d4] => { results := [.lit (.bool true)], args := [d1, d2, d3, d4] }
  | _ => none }
def issueNewRow : OpenClaim := { program := "ytnmaknkbdfpbkaa", sum := "1b0fd89ed72656ee221397711ee6741e8eae8adb9fa3e6033c614857b970b32b", func := "sesame/sesamelaw13.IssueNew", spec := "issueNew", unfollowed := true, recurses := true, plainKeys := false, apart := false }
def IssueNewSaid : Prop := issueNewRow.holds Try.pinned (OpenSpec.ofChange issueNewSpec)

/-- ITS FALSE NEIGHBOUR: 'it returns false'. Refute it at one input. -/
def issueNewWrong : ChangeSpec := { name := "issueNew", fn := fun _ => fun
  | [d1, d2, d3, d4] => { results := [.lit (.bool false)], args := [d1, d2, d3, d4] }
  | _ => none }
def IssueNewWrongFalsely : Prop := issueNewRow.holds Try.pinned (OpenSpec.ofChange issueNewWrong)

/-- 'sesamelaw01.WideOrder': WHATEVER THE INPUT: true; the input reads as it did. -/
def wideOrderSpec : ChangeSpec := { name := "wideOrder", fn := fun _ => fun
  | [d1, d2, d3, d4] => { results := [.lit (.bool true)], args := [d1, d2, d3, d4] }
  | _ => none }
def wideOrderRow : OpenClaim := { program := "ytnmaknkbdfpbkaa", sum := "1b0fd89ed72656ee221397711ee6741e8eae8adb9fa3e6033c614857b970b32b", func := "sesame/sesamelaw01.WideOrder", spec := "wideOrder", plainKeys := false, apart := false }
def WideOrderSaid : Prop := wideOrderRow.holds Try.pinned (OpenSpec.ofChange wideOrderSpec)

/-- ITS FALSE NEIGHBOUR: 'it returns false'. Refute it at one input. -/
def wideOrderWrong : ChangeSpec := { name := "wideOrder", fn := fun _ => fun
  | [d1, d2, d3, d4] => { results := [.lit (.bool false)], args := [d1, d2, d3, d4] }
  | _ => none }
def WideOrderWrongFalsely : Prop := wideOrderRow.holds Try.pinned (OpenSpec.ofChange wideOrderWrong)

/-- 'sesamelaw01.WideAll': WHATEVER THE INPUT: true; the input reads as it did. -/
def wideAllSpec : ChangeSpec := { name := "wideAll", fn := fun _ => fun
  | [d1, d2, d3, d4] => { results := [.lit (.bool true)], args := [d1, d2, d3, d4] }
  | _ => none }
def wideAllRow : OpenClaim := { program := "ytnmaknkbdfpbkaa", sum := "1b0fd89ed72656ee221397711ee6741e8eae8adb9fa3e6033c614857b970b32b", func := "sesame/sesamelaw01.WideAll", spec := "wideAll", plainKeys := false, apart := false }
def WideAllSaid : Prop := wideAllRow.holds Try.pinned (OpenSpec.ofChange wideAllSpec)

/-- ITS FALSE NEIGHBOUR: 'it returns false'. Refute it at one input. -/
def wideAllWrong : ChangeSpec := { name := "wideAll", fn := fun _ => fun
  | [d1, d2, d3, d4] => { results := [.lit (.bool false)], args := [d1, d2, d3, d4] }
  | _ => none }
def WideAllWrongFalsely : Prop := wideAllRow.holds Try.pinned (OpenSpec.ofChange wideAllWrong)

/-- 'sesamelaw01.WideBack': WHATEVER THE INPUT: true; the input reads as it did. -/
def wideBackSpec : ChangeSpec := { name := "wideBack", fn := fun _ => fun
  | [d1, d2, d3] => { results := [.lit (.bool true)], args := [d1, d2, d3] }
  | _ => none }
def wideBackRow : OpenClaim := { program := "ytnmaknkbdfpbkaa", sum := "1b0fd89ed72656ee221397711ee6741e8eae8adb9fa3e6033c614857b970b32b", func := "sesame/sesamelaw01.WideBack", spec := "wideBack", plainKeys := false, apart := false }
def WideBackSaid : Prop := wideBackRow.holds Try.pinned (OpenSpec.ofChange wideBackSpec)

/-- ITS FALSE NEIGHBOUR: 'it returns false'. Refute it at one input. -/
def wideBackWrong : ChangeSpec := { name := "wideBack", fn := fun _ => fun
  | [d1, d2, d3] => { results := [.lit (.bool false)], args := [d1, d2, d3] }
  | _ => none }
def WideBackWrongFalsely : Prop := wideBackRow.holds Try.pinned (OpenSpec.ofChange wideBackWrong)

/-- 'sesamelaw01.WideFresh': WHATEVER THE INPUT: true; the input reads as it did. -/
def wideFreshSpec : ChangeSpec := { name := "wideFresh", fn := fun _ => fun
  | [d1, d2] => { results := [.lit (.bool true)], args := [d1, d2] }
  | _ => none }
def wideFreshRow : OpenClaim := { program := "ytnmaknkbdfpbkaa", sum := "1b0fd89ed72656ee221397711ee6741e8eae8adb9fa3e6033c614857b970b32b", func := "sesame/sesamelaw01.WideFresh", spec := "wideFresh", plainKeys := false, apart := false }
def WideFreshSaid : Prop := wideFreshRow.holds Try.pinned (OpenSpec.ofChange wideFreshSpec)

/-- ITS FALSE NEIGHBOUR: 'it returns false'. Refute it at one input. -/
def wideFreshWrong : ChangeSpec := { name := "wideFresh", fn := fun _ => fun
  | [d1, d2] => { results := [.lit (.bool false)], args := [d1, d2] }
  | _ => none }
def WideFreshWrongFalsely : Prop := wideFreshRow.holds Try.pinned (OpenSpec.ofChange wideFreshWrong)

/-- 'sesamelaw24.BookKeeps': WHATEVER THE INPUT: true; the input reads as it did. -/
def bookKeepsSpec : ChangeSpec := { name := "bookKeeps", fn := fun _ => fun
  | [d] => { results := [.lit (.bool true)], args := [d] }
  | _ => none }
def bookKeepsRow : OpenClaim := { program := "ytnmaknkbdfpbkaa", sum := "1b0fd89ed72656ee221397711ee6741e8eae8adb9fa3e6033c614857b970b32b", func := "sesame/sesamelaw24.BookKeeps", spec := "bookKeeps", plainKeys := false, apart := false }
def BookKeepsSaid : Prop := bookKeepsRow.holds Try.pinned (OpenSpec.ofChange bookKeepsSpec)

/-- ITS FALSE NEIGHBOUR: 'it returns false'. Refute it at one input. -/
def bookKeepsWrong : ChangeSpec := { name := "bookKeeps", fn := fun _ => fun
  | [d] => { results := [.lit (.bool false)], args := [d] }
  | _ => none }
def BookKeepsWrongFalsely : Prop := bookKeepsRow.holds Try.pinned (OpenSpec.ofChange bookKeepsWrong)

/- THE SECOND FORM. 'bulk': how many values and letters a reading holds, each counted each time it is reached (what is shared counts as often as it is met; a slice's spare places count too). A statement '..UptoSaid' is the law's where the arguments, and the package variables that the reading takes, are together of bulk at most 1048576: NARROWER than '..Said'. Prove '..Said' where nothing that the law and all that it calls make is longer than what came in: it says more and counts as full. Else prove '..UptoSaid'. A law counts once. -/
mutual
def uptoBulk {H : Type} : DataW H → Nat
  | .lit (.string bytes) => bytes.length + 1
  | .lit _ => 1
  | .nil => 1
  | .ptr d => uptoBulk d + 1
  | .slice elems spare => uptoBulkAll elems + uptoBulkAll spare + 1
  | .agg parts => uptoBulkAll parts + 1
  | .iface _ d => uptoBulk d + 1
  | .map entries => uptoBulkEntries entries + 1
  | .held _ => 1
def uptoBulkAll {H : Type} : List (DataW H) → Nat
  | [] => 0
  | d :: r => uptoBulk d + uptoBulkAll r
def uptoBulkEntries {H : Type} : List (Lit × DataW H) → Nat
  | [] => 0
  | x :: r => uptoBulkEntry x + uptoBulkEntries r
def uptoBulkEntry {H : Type} : Lit × DataW H → Nat
  | (.string bytes, d) => bytes.length + uptoBulk d + 1
  | (_, d) => uptoBulk d + 1
 end
def uptoSmall : (H : Type) → List (DataW H) → Bool := fun _ ds => decide (uptoBulkAll ds ≤ 1048576)
def OpenSpec.upto (s : _root_.Go.ChangeSpec) : _root_.Go.OpenSpec := { _root_.Go.OpenSpec.ofChange s with cond := some uptoSmall }

/-- 'sesamelaw04.DrawsApart', WHERE WHAT IT READS IS OF BULK AT MOST 1048576: true; the input reads as it did. -/
def drawsApartUptoRow : OpenClaim := { program := "ytnmaknkbdfpbkaa", sum := "1b0fd89ed72656ee221397711ee6741e8eae8adb9fa3e6033c614857b970b32b", func := "sesame/sesamelaw04.DrawsApart", spec := "drawsApart", plainKeys := false, apart := false, narrowed := true }
def DrawsApartUptoSaid : Prop := drawsApartUptoRow.holds Try.pinned (OpenSpec.upto drawsApartSpec)

/-- 'sesamelaw04.DrawsAll', WHERE WHAT IT READS IS OF BULK AT MOST 1048576: true; the input reads as it did. -/
def drawsAllUptoRow : OpenClaim := { program := "ytnmaknkbdfpbkaa", sum := "1b0fd89ed72656ee221397711ee6741e8eae8adb9fa3e6033c614857b970b32b", func := "sesame/sesamelaw04.DrawsAll", spec := "drawsAll", plainKeys := false, apart := false, narrowed := true }
def DrawsAllUptoSaid : Prop := drawsAllUptoRow.holds Try.pinned (OpenSpec.upto drawsAllSpec)

/-- 'sesamelaw04.DrawsInOrder', WHERE WHAT IT READS IS OF BULK AT MOST 1048576: true; the input reads as it did. -/
def drawsInOrderUptoRow : OpenClaim := { program := "ytnmaknkbdfpbkaa", sum := "1b0fd89ed72656ee221397711ee6741e8eae8adb9fa3e6033c614857b970b32b", func := "sesame/sesamelaw04.DrawsInOrder", spec := "drawsInOrder", plainKeys := false, apart := false, narrowed := true }
def DrawsInOrderUptoSaid : Prop := drawsInOrderUptoRow.holds Try.pinned (OpenSpec.upto drawsInOrderSpec)

/-- 'sesamelaw13.IssueDraws', WHERE WHAT IT READS IS OF BULK AT MOST 1048576: true; the input reads as it did. -/
def issueDrawsUptoRow : OpenClaim := { program := "ytnmaknkbdfpbkaa", sum := "1b0fd89ed72656ee221397711ee6741e8eae8adb9fa3e6033c614857b970b32b", func := "sesame/sesamelaw13.IssueDraws", spec := "issueDraws", unfollowed := true, recurses := true, plainKeys := false, apart := false, narrowed := true }
def IssueDrawsUptoSaid : Prop := issueDrawsUptoRow.holds Try.pinned (OpenSpec.upto issueDrawsSpec)

/-- 'sesamelaw13.IssueNew', WHERE WHAT IT READS IS OF BULK AT MOST 1048576: true; the input reads as it did. -/
def issueNewUptoRow : OpenClaim := { program := "ytnmaknkbdfpbkaa", sum := "1b0fd89ed72656ee221397711ee6741e8eae8adb9fa3e6033c614857b970b32b", func := "sesame/sesamelaw13.IssueNew", spec := "issueNew", unfollowed := true, recurses := true, plainKeys := false, apart := false, narrowed := true }
def IssueNewUptoSaid : Prop := issueNewUptoRow.holds Try.pinned (OpenSpec.upto issueNewSpec)

/-- 'sesamelaw01.WideOrder', WHERE WHAT IT READS IS OF BULK AT MOST 1048576: true; the input reads as it did. -/
def wideOrderUptoRow : OpenClaim := { program := "ytnmaknkbdfpbkaa", sum := "1b0fd89ed72656ee221397711ee6741e8eae8adb9fa3e6033c614857b970b32b", func := "sesame/sesamelaw01.WideOrder", spec := "wideOrder", plainKeys := false, apart := false, narrowed := true }
def WideOrderUptoSaid : Prop := wideOrderUptoRow.holds Try.pinned (OpenSpec.upto wideOrderSpec)

/-- 'sesamelaw01.WideAll', WHERE WHAT IT READS IS OF BULK AT MOST 1048576: true; the input reads as it did. -/
def wideAllUptoRow : OpenClaim := { program := "ytnmaknkbdfpbkaa", sum := "1b0fd89ed72656ee221397711ee6741e8eae8adb9fa3e6033c614857b970b32b", func := "sesame/sesamelaw01.WideAll", spec := "wideAll", plainKeys := false, apart := false, narrowed := true }
def WideAllUptoSaid : Prop := wideAllUptoRow.holds Try.pinned (OpenSpec.upto wideAllSpec)

/-- 'sesamelaw01.WideBack', WHERE WHAT IT READS IS OF BULK AT MOST 1048576: true; the input reads as it did. -/
def wideBackUptoRow : OpenClaim := { program := "ytnmaknkbdfpbkaa", sum := "1b0fd89ed72656ee221397711ee6741e8eae8adb9fa3e6033c614857b970b32b", func := "sesame/sesamelaw01.WideBack", spec := "wideBack", plainKeys := false, apart := false, narrowed := true }
def WideBackUptoSaid : Prop := wideBackUptoRow.holds Try.pinned (OpenSpec.upto wideBackSpec)

/-- 'sesamelaw01.WideFresh', WHERE WHAT IT READS IS OF BULK AT MOST 1048576: true; the input reads as it did. -/
def wideFreshUptoRow : OpenClaim := { program := "ytnmaknkbdfpbkaa", sum := "1b0fd89ed72656ee221397711ee6741e8eae8adb9fa3e6033c614857b970b32b", func := "sesame/sesamelaw01.WideFresh", spec := "wideFresh", plainKeys := false, apart := false, narrowed := true }
def WideFreshUptoSaid : Prop := wideFreshUptoRow.holds Try.pinned (OpenSpec.upto wideFreshSpec)

/-- 'sesamelaw24.BookKeeps', WHERE WHAT IT READS IS OF BULK AT MOST 1048576: true; the input reads as it did. -/
def bookKeepsUptoRow : OpenClaim := { program := "ytnmaknkbdfpbkaa", sum := "1b0fd89ed72656ee221397711ee6741e8eae8adb9fa3e6033c614857b970b32b", func := "sesame/sesamelaw24.BookKeeps", spec := "bookKeeps", plainKeys := false, apart := false, narrowed := true }
def BookKeepsUptoSaid : Prop := bookKeepsUptoRow.holds Try.pinned (OpenSpec.upto bookKeepsSpec)

end Rows
end Go.Proofs.Ytnmaknkbdfpbkaa
