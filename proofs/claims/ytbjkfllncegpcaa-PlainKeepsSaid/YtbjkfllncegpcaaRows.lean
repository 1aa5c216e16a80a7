/-
  No cell of these rows narrows 'for every input' (looked for: loops, veiled, ifaces, maps, wideKeys, modest, calm, conditions, laid).
  DERIVED. THE GIVEN ROWS OF THIS SEAT. 5 by the template 'for every input the law returns true; each argument reads behind the call as it read before'; 0 by the template 'total and deterministic' (their statements: YtbjkfllncegpcaaTotals.lean).
  GIVEN WITH THE SEED: the statements are not yours to turn. If you find one false, say at which input.
  Laid BY PROGRAM, IN A SANDBOX (cutbox-rows.mjs): the forced cells as the released guide's own fill.sh prints them over the translation ceac9a334e99b373… (all of the seat's roots in one cut). By AI agents, Wed Nov 11 2026. No macro, syntax, notation, axiom, sorry.
-/
import Derived.Test.YtbjkfllncegpcaaChecked
import GoSem.Claim
import GoSem.ClaimJoined
import GoSem.ClaimMapViews
import Derived.JoinedTies
import Derived.KernelRfl
namespace Go.Proofs.Ytbjkfllncegpcaa
/- THE CELL 'sum', in the pinned program and in every row, IS THE sha256 OF THE DUMP (.gsa) THAT YtbjkfllncegpcaaProg.lean LOADS. Nothing in Lean hashes anything: it is a label: what it is worth is what the hold of that sum in a sandbox is worth. -/
noncomputable def Try.pinned : Pinned := { name := "ytbjkfllncegpcaa", sum := "ceac9a334e99b373a98b769e6c20e04ed43e9c3fb26a38af76ac2fcd65178ea3", checked := Try.checked }
namespace Rows
def none {H : Type} : Left H := { results := [], args := [] }

/-- 'sesamelaw24.BookAll': WHATEVER THE INPUT: true; the input reads as it did. -/
def bookAllSpec : ChangeSpec := { name := "bookAll", fn := fun _ => fun
  | [d1, d2, d3] => { results := [.lit (.bool true)], args := [d1, d2, d3] }
  | _ => none }
def bookAllRow : OpenClaim := { program := "ytbjkfllncegpcaa", sum := "ceac9a334e99b373a98b769e6c20e04ed43e9c3fb26a38af76ac2fcd65178ea3", func := "sesame/sesamelaw24.BookAll", spec := "bookAll", plainKeys := false, apart := false }
def BookAllSaid : Prop := bookAllRow.holds Try.pinned (OpenSpec.ofChange bookAllSpec)

/-- ITS FALSE NEIGHBOUR: 'it returns false'. Refute it at one input. -/
def bookAllWrong : ChangeSpec := { name := "bookAll", fn := fun _ => fun
  | [d1, d2, d3] => { results := [.lit (.bool false)], args := [d1, d2, d3] }
  | _ => none }
def BookAllWrongFalsely : Prop := bookAllRow.holds Try.pinned (OpenSpec.ofChange bookAllWrong)

/-- 'sesamelaw23.ImageChecks': WHATEVER THE INPUT: true; the input reads as it did. -/
def imageChecksSpec : ChangeSpec := { name := "imageChecks", fn := fun _ => fun
  | [d1, d2, d3] => { results := [.lit (.bool true)], args := [d1, d2, d3] }
  | _ => none }
def imageChecksRow : OpenClaim := { program := "ytbjkfllncegpcaa", sum := "ceac9a334e99b373a98b769e6c20e04ed43e9c3fb26a38af76ac2fcd65178ea3", func := "sesame/sesamelaw23.ImageChecks", spec := "imageChecks", unfollowed := true, recurses := true, plainKeys := false, apart := false }
def ImageChecksSaid : Prop := imageChecksRow.holds Try.pinned (OpenSpec.ofChange imageChecksSpec)

/-- ITS FALSE NEIGHBOUR: 'it returns false'. Refute it at one input. -/
def imageChecksWrong : ChangeSpec := { name := "imageChecks", fn := fun _ => fun
  | [d1, d2, d3] => { results := [.lit (.bool false)], args := [d1, d2, d3] }
  | _ => none }
def ImageChecksWrongFalsely : Prop := imageChecksRow.holds Try.pinned (OpenSpec.ofChange imageChecksWrong)

/-- 'sesamelaw23.ImageParses': WHATEVER THE INPUT: true; the input reads as it did. -/
def imageParsesSpec : ChangeSpec := { name := "imageParses", fn := fun _ => fun
  | [d] => { results := [.lit (.bool true)], args := [d] }
  | _ => none }
def imageParsesRow : OpenClaim := { program := "ytbjkfllncegpcaa", sum := "ceac9a334e99b373a98b769e6c20e04ed43e9c3fb26a38af76ac2fcd65178ea3", func := "sesame/sesamelaw23.ImageParses", spec := "imageParses", unfollowed := true, recurses := true, plainKeys := false, apart := false }
def ImageParsesSaid : Prop := imageParsesRow.holds Try.pinned (OpenSpec.ofChange imageParsesSpec)

/-- ITS FALSE NEIGHBOUR: 'it returns false'. Refute it at one input. -/
def imageParsesWrong : ChangeSpec := { name := "imageParses", fn := fun _ => fun
  | [d] => { results := [.lit (.bool false)], args := [d] }
  | _ => none }
def ImageParsesWrongFalsely : Prop := imageParsesRow.holds Try.pinned (OpenSpec.ofChange imageParsesWrong)

/-- 'sesamelaw22.PlainRuns': WHATEVER THE INPUT: true; the input reads as it did. -/
def plainRunsSpec : ChangeSpec := { name := "plainRuns", fn := fun _ => fun
  | [d1, d2, d3] => { results := [.lit (.bool true)], args := [d1, d2, d3] }
  | _ => none }
def plainRunsRow : OpenClaim := { program := "ytbjkfllncegpcaa", sum := "ceac9a334e99b373a98b769e6c20e04ed43e9c3fb26a38af76ac2fcd65178ea3", func := "sesame/sesamelaw22.PlainRuns", spec := "plainRuns", unfollowed := true, recurses := true, plainKeys := false, apart := false }
def PlainRunsSaid : Prop := plainRunsRow.holds Try.pinned (OpenSpec.ofChange plainRunsSpec)

/-- ITS FALSE NEIGHBOUR: 'it returns false'. Refute it at one input. -/
def plainRunsWrong : ChangeSpec := { name := "plainRuns", fn := fun _ => fun
  | [d1, d2, d3] => { results := [.lit (.bool false)], args := [d1, d2, d3] }
  | _ => none }
def PlainRunsWrongFalsely : Prop := plainRunsRow.holds Try.pinned (OpenSpec.ofChange plainRunsWrong)

/-- 'sesamelaw22.PlainKeeps': WHATEVER THE INPUT: true; the input reads as it did. -/
def plainKeepsSpec : ChangeSpec := { name := "plainKeeps", fn := fun _ => fun
  | [d1, d2, d3] => { results := [.lit (.bool true)], args := [d1, d2, d3] }
  | _ => none }
def plainKeepsRow : OpenClaim := { program := "ytbjkfllncegpcaa", sum := "ceac9a334e99b373a98b769e6c20e04ed43e9c3fb26a38af76ac2fcd65178ea3", func := "sesame/sesamelaw22.PlainKeeps", spec := "plainKeeps", unfollowed := true, recurses := true, plainKeys := false, apart := false }
def PlainKeepsSaid : Prop := plainKeepsRow.holds Try.pinned (OpenSpec.ofChange plainKeepsSpec)

/-- ITS FALSE NEIGHBOUR: 'it returns false'. Refute it at one input. -/
def plainKeepsWrong : ChangeSpec := { name := "plainKeeps", fn := fun _ => fun
  | [d1, d2, d3] => { results := [.lit (.bool false)], args := [d1, d2, d3] }
  | _ => none }
def PlainKeepsWrongFalsely : Prop := plainKeepsRow.holds Try.pinned (OpenSpec.ofChange plainKeepsWrong)

/- THE SECOND FORM. 'bulk': how many values and letters a reading holds, each counted each time it is reached (what is shared counts as often as it is met; a slice's spare places count too). A statement '..UptoSaid' is the law's where the arguments, and the package variables that the reading takes, are together of bulk at most 1048576: NARROWER than '..Said'. Prove '..Said' where nothing that the law and all that it calls make is longer than what came in: it says more and counts as full. Else prove '..UptoSaid'. A law counts once. -/
mutual
def uptoBulk {H : Type} : DataW H → Nat
  | .lit (.string bytes) => bytes.length + 1
  | .lit _ => 1
  | .nil => 1
  | .ptr d => uptoBulk d + 1
  | .slice elems spare => uptoBulkAll elems + uptoBulkAll spare + 1
  | .agg parts => uptoBulkAll parts + 1
  | .iface _ d => uptoBulk d + 1
  | .map entries => uptoBulkEntries entries + 1
  | .held _ => 1
def uptoBulkAll {H : Type} : List (DataW H) → Nat
  | [] => 0
  | d :: r => uptoBulk d + uptoBulkAll r
def uptoBulkEntries {H : Type} : List (Lit × DataW H) → Nat
  | [] => 0
  | x :: r => uptoBulkEntry x + uptoBulkEntries r
def uptoBulkEntry {H : Type} : Lit × DataW H → Nat
  | (.string bytes, d) => bytes.length + uptoBulk d + 1
  | (_, d) => uptoBulk d + 1
 end
def uptoSmall : (H : Type) → List (DataW H) → Bool := fun _ ds => decide (uptoBulkAll ds ≤ 1048576)
def OpenSpec.upto (s : _root_.Go.ChangeSpec) : _root_.Go.OpenSpec := { _root_.Go.OpenSpec.ofChange s with cond := some uptoSmall }

/-- 'sesamelaw24.BookAll', WHERE WHAT IT READS IS OF BULK AT MOST 1048576: true; the input reads as it did. -/
def bookAllUptoRow : OpenClaim := { program := "ytbjkfllncegpcaa", sum := "ceac9a334e99b373a98b769e6c20e04ed43e9c3fb26a38af76ac2fcd65178ea3", func := "sesame/sesamelaw24.BookAll", spec := "bookAll", plainKeys := false, apart := false, narrowed := true }
def BookAllUptoSaid : Prop := bookAllUptoRow.holds Try.pinned (OpenSpec.upto bookAllSpec)

/-- 'sesamelaw23.ImageChecks', WHERE WHAT IT READS IS OF BULK AT MOST 1048576: true; the input reads as it did. -/
def imageChecksUptoRow : OpenClaim := { program := "ytbjkfllncegpcaa", sum := "ceac9a334e99b373a98b769e6c20e04ed43e9c3fb26a38af76ac2fcd65178ea3", func := "sesame/sesamelaw23.ImageChecks", spec := "imageChecks", unfollowed := true, recurses := true, plainKeys := false, apart := false, narrowed := true }
def ImageChecksUptoSaid : Prop := imageChecksUptoRow.holds Try.pinned (OpenSpec.upto imageChecksSpec)

/-- 'sesamelaw23.ImageParses', WHERE WHAT IT READS IS OF BULK AT MOST 1048576: true; the input reads as it did. -/
def imageParsesUptoRow : OpenClaim := { program := "ytbjkfllncegpcaa", sum := "ceac9a334e99b373a98b769e6c20e04ed43e9c3fb26a38af76ac2fcd65178ea3", func := "sesame/sesamelaw23.ImageParses", spec := "imageParses", unfollowed := true, recurses := true, plainKeys := false, apart := false, narrowed := true }
def ImageParsesUptoSaid : Prop := imageParsesUptoRow.holds Try.pinned (OpenSpec.upto imageParsesSpec)

/-- 'sesamelaw22.PlainRuns', WHERE WHAT IT READS IS OF BULK AT MOST 1048576: true; the input reads as it did. -/
def plainRunsUptoRow : OpenClaim := { program := "ytbjkfllncegpcaa", sum := "ceac9a334e99b373a98b769e6c20e04ed43e9c3fb26a38af76ac2fcd65178ea3", func := "sesame/sesamelaw22.PlainRuns", spec := "plainRuns", unfollowed := true, recurses := true, plainKeys := false, apart := false, narrowed := true }
def PlainRunsUptoSaid : Prop := plainRunsUptoRow.holds Try.pinned (OpenSpec.upto plainRunsSpec)

/-- 'sesamelaw22.PlainKeeps', WHERE WHAT IT READS IS OF BULK AT MOST 1048576: true; the input reads as it did. -/
def plainKeepsUptoRow : OpenClaim := { program := "ytbjkfllncegpcaa", sum := "ceac9a334e99b373a98b769e6c20e04ed43e9c3fb26a38af76ac2fcd65178ea3", func := "sesame/sesamelaw22.PlainKeeps", spec := "plainKeeps", unfollowed := true, recurses := true, plainKeys := false, apart := false, narrowed := true }
def PlainKeepsUptoSaid : Prop := plainKeepsUptoRow.holds Try.pinned (OpenSpec.upto plainKeepsSpec)

end Rows
end Go.Proofs.Ytbjkfllncegpcaa
