/-
  No cell of these rows narrows 'for every input' (looked for: loops, veiled, ifaces, maps, wideKeys, modest, calm, conditions, laid).
  DERIVED. THE GIVEN ROWS OF THIS SEAT. 10 by the template 'for every input the law returns true; each argument reads behind the call as it read before'; 0 by the template 'total and deterministic' (their statements: YtiajjcboddaenaaTotals.lean).
  GIVEN WITH THE SEED: the statements are not yours to turn. If you find one false, say at which input.
  Laid BY PROGRAM, IN A SANDBOX (cutbox-rows.mjs): the forced cells as the released guide's own fill.sh prints them over the translation 4e5c72e35330b6ce… (all of the seat's roots in one cut). By AI agents, Wed Nov 11 2026. No macro, syntax, notation, axiom, sorry.
-/
import Derived.Test.YtiajjcboddaenaaChecked
import GoSem.Claim
import GoSem.ClaimJoined
import GoSem.ClaimMapViews
import Derived.JoinedTies
import Derived.KernelRfl
namespace Go.Proofs.Ytiajjcboddaenaa
/- THE CELL 'sum', in the pinned program and in every row, IS THE sha256 OF THE DUMP (.gsa) THAT YtiajjcboddaenaaProg.lean LOADS. Nothing in Lean hashes anything: it is a label: what it is worth is what the hold of that sum in a sandbox is worth. -/
noncomputable def Try.pinned : Pinned := { name := "ytiajjcboddaenaa", sum := "4e5c72e35330b6ce572a646633dc538d188b42a73a7152aa2c9a42769eaf02ed", checked := Try.checked }
namespace Rows
def none {H : Type} : Left H := { results := [], args := [] }

/-- 'sesamelaw24.BookAll': WHATEVER THE INPUT: true; the input reads as it did. -/
def bookAllSpec : ChangeSpec := { name := "bookAll", fn := fun _ => fun
  | [d1, d2, d3] => { results := [.lit (.bool true)], args := [d1, d2, d3] }
  | _ => none }
def bookAllRow : OpenClaim := { program := "ytiajjcboddaenaa", sum := "4e5c72e35330b6ce572a646633dc538d188b42a73a7152aa2c9a42769eaf02ed", func := "sesame/sesamelaw24.BookAll", spec := "bookAll", plainKeys := false, apart := false }
def BookAllSaid : Prop := bookAllRow.holds Try.pinned (OpenSpec.ofChange bookAllSpec)

/-- ITS FALSE NEIGHBOUR: 'it returns false'. Refute it at one input. -/
def bookAllWrong : ChangeSpec := { name := "bookAll", fn := fun _ => fun
  | [d1, d2, d3] => { results := [.lit (.bool false)], args := [d1, d2, d3] }
  | _ => none }
def BookAllWrongFalsely : Prop := bookAllRow.holds Try.pinned (OpenSpec.ofChange bookAllWrong)

/-- 'sesamelaw13.IssueObjects': WHATEVER THE INPUT: true; the input reads as it did. -/
def issueObjectsSpec : ChangeSpec := { name := "issueObjects", fn := fun _ => fun
  | [d1, d2, d3, d4] => { results := [.lit (.bool true)], args := [d1, d2, d3, d4] }
  | _ => none }
def issueObjectsRow : OpenClaim := { program := "ytiajjcboddaenaa", sum := "4e5c72e35330b6ce572a646633dc538d188b42a73a7152aa2c9a42769eaf02ed", func := "sesame/sesamelaw13.IssueObjects", spec := "issueObjects", unfollowed := true, recurses := true, plainKeys := false, apart := false }
def IssueObjectsSaid : Prop := issueObjectsRow.holds Try.pinned (OpenSpec.ofChange issueObjectsSpec)

/-- ITS FALSE NEIGHBOUR: 'it returns false'. Refute it at one input. -/
def issueObjectsWrong : ChangeSpec := { name := "issueObjects", fn := fun _ => fun
  | [d1, d2, d3, d4] => { results := [.lit (.bool false)], args := [d1, d2, d3, d4] }
  | _ => none }
def IssueObjectsWrongFalsely : Prop := issueObjectsRow.holds Try.pinned (OpenSpec.ofChange issueObjectsWrong)

/-- 'sesamelaw11.CatalogueAll': WHATEVER THE INPUT: true; the input reads as it did. -/
def catalogueAllSpec : ChangeSpec := { name := "catalogueAll", fn := fun _ => fun
  | [d1, d2] => { results := [.lit (.bool true)], args := [d1, d2] }
  | _ => none }
def catalogueAllRow : OpenClaim := { program := "ytiajjcboddaenaa", sum := "4e5c72e35330b6ce572a646633dc538d188b42a73a7152aa2c9a42769eaf02ed", func := "sesame/sesamelaw11.CatalogueAll", spec := "catalogueAll", unfollowed := true, recurses := true, plainKeys := false, apart := false }
def CatalogueAllSaid : Prop := catalogueAllRow.holds Try.pinned (OpenSpec.ofChange catalogueAllSpec)

/-- ITS FALSE NEIGHBOUR: 'it returns false'. Refute it at one input. -/
def catalogueAllWrong : ChangeSpec := { name := "catalogueAll", fn := fun _ => fun
  | [d1, d2] => { results := [.lit (.bool false)], args := [d1, d2] }
  | _ => none }
def CatalogueAllWrongFalsely : Prop := catalogueAllRow.holds Try.pinned (OpenSpec.ofChange catalogueAllWrong)

/-- 'sesamelaw11.CatalogueFalls': WHATEVER THE INPUT: true; the input reads as it did. -/
def catalogueFallsSpec : ChangeSpec := { name := "catalogueFalls", fn := fun _ => fun
  | [d1, d2, d3, d4] => { results := [.lit (.bool true)], args := [d1, d2, d3, d4] }
  | _ => none }
def catalogueFallsRow : OpenClaim := { program := "ytiajjcboddaenaa", sum := "4e5c72e35330b6ce572a646633dc538d188b42a73a7152aa2c9a42769eaf02ed", func := "sesame/sesamelaw11.CatalogueFalls", spec := "catalogueFalls", unfollowed := true, recurses := true, plainKeys := false, apart := false }
def CatalogueFallsSaid : Prop := catalogueFallsRow.holds Try.pinned (OpenSpec.ofChange catalogueFallsSpec)

/-- ITS FALSE NEIGHBOUR: 'it returns false'. Refute it at one input. -/
def catalogueFallsWrong : ChangeSpec := { name := "catalogueFalls", fn := fun _ => fun
  | [d1, d2, d3, d4] => { results := [.lit (.bool false)], args := [d1, d2, d3, d4] }
  | _ => none }
def CatalogueFallsWrongFalsely : Prop := catalogueFallsRow.holds Try.pinned (OpenSpec.ofChange catalogueFallsWrong)

/-- 'sesamelaw11.CatalogueFresh': WHATEVER THE INPUT: true; the input reads as it did. -/
def catalogueFreshSpec : ChangeSpec := { name := "catalogueFresh", fn := fun _ => fun
  | [d1, d2, d3, d4] => { results := [.lit (.bool true)], args := [d1, d2, d3, d4] }
  | _ => none }
def catalogueFreshRow : OpenClaim := { program := "ytiajjcboddaenaa", sum := "4e5c72e35330b6ce572a646633dc538d188b42a73a7152aa2c9a42769eaf02ed", func := "sesame/sesamelaw11.CatalogueFresh", spec := "catalogueFresh", unfollowed := true, recurses := true, plainKeys := false, apart := false }
def CatalogueFreshSaid : Prop := catalogueFreshRow.holds Try.pinned (OpenSpec.ofChange catalogueFreshSpec)

/-- ITS FALSE NEIGHBOUR: 'it returns false'. Refute it at one input. -/
def catalogueFreshWrong : ChangeSpec := { name := "catalogueFresh", fn := fun _ => fun
  | [d1, d2, d3, d4] => { results := [.lit (.bool false)], args := [d1, d2, d3, d4] }
  | _ => none }
def CatalogueFreshWrongFalsely : Prop := catalogueFreshRow.holds Try.pinned (OpenSpec.ofChange catalogueFreshWrong)

/-- 'sesamelaw19.ValidateSame': WHATEVER THE INPUT: true; the input reads as it did. -/
def validateSameSpec : ChangeSpec := { name := "validateSame", fn := fun _ => fun
  | [d1, d2, d3, d4] => { results := [.lit (.bool true)], args := [d1, d2, d3, d4] }
  | _ => none }
def validateSameRow : OpenClaim := { program := "ytiajjcboddaenaa", sum := "4e5c72e35330b6ce572a646633dc538d188b42a73a7152aa2c9a42769eaf02ed", func := "sesame/sesamelaw19.ValidateSame", spec := "validateSame", unfollowed := true, recurses := true, plainKeys := false, apart := false }
def ValidateSameSaid : Prop := validateSameRow.holds Try.pinned (OpenSpec.ofChange validateSameSpec)

/-- ITS FALSE NEIGHBOUR: 'it returns false'. Refute it at one input. -/
def validateSameWrong : ChangeSpec := { name := "validateSame", fn := fun _ => fun
  | [d1, d2, d3, d4] => { results := [.lit (.bool false)], args := [d1, d2, d3, d4] }
  | _ => none }
def ValidateSameWrongFalsely : Prop := validateSameRow.holds Try.pinned (OpenSpec.ofChange validateSameWrong)

/-- 'sesamelaw19.ValidateGone': WHATEVER THE INPUT: true; the input reads as it did. -/
def validateGoneSpec : ChangeSpec := { name := "validateGone", fn := fun _ => fun
  | [d1, d2, d3, d4, d5] => { results := [.lit (.bool true)], args := [d1, d2, d3, d4, d5] }
  | _ => none }
def validateGoneRow : OpenClaim := { program := "ytiajjcboddaenaa", sum := "4e5c72e35330b6ce572a646633dc538d188b42a73a7152aa2c9a42769eaf02ed", func := "sesame/sesamelaw19.ValidateGone", spec := "validateGone", unfollowed := true, recurses := true, plainKeys := false, apart := false }
def ValidateGoneSaid : Prop := validateGoneRow.holds Try.pinned (OpenSpec.ofChange validateGoneSpec)

/-- ITS FALSE NEIGHBOUR: 'it returns false'. Refute it at one input. -/
def validateGoneWrong : ChangeSpec := { name := "validateGone", fn := fun _ => fun
  | [d1, d2, d3, d4, d5] => { results := [.lit (.bool false)], args := [d1, d2, d3, d4, d5] }
  | _ => none }
def ValidateGoneWrongFalsely : Prop := validateGoneRow.holds Try.pinned (OpenSpec.ofChange validateGoneWrong)

/-- 'sesamelaw19.ValidateScripts': WHATEVER THE INPUT: true; the input reads as it did. -/
def validateScriptsSpec : ChangeSpec := { name := "validateScripts", fn := fun _ => fun
  | [d1, d2, d3] => { results := [.lit (.bool true)], args := [d1, d2, d3] }
  | _ => none }
def validateScriptsRow : OpenClaim := { program := "ytiajjcboddaenaa", sum := "4e5c72e35330b6ce572a646633dc538d188b42a73a7152aa2c9a42769eaf02ed", func := "sesame/sesamelaw19.ValidateScripts", spec := "validateScripts", unfollowed := true, recurses := true, plainKeys := false, apart := false }
def ValidateScriptsSaid : Prop := validateScriptsRow.holds Try.pinned (OpenSpec.ofChange validateScriptsSpec)

/-- ITS FALSE NEIGHBOUR: 'it returns false'. Refute it at one input. -/
def validateScriptsWrong : ChangeSpec := { name := "validateScripts", fn := fun _ => fun
  | [d1, d2, d3] => { results := [.lit (.bool false)], args := [d1, d2, d3] }
  | _ => none }
def ValidateScriptsWrongFalsely : Prop := validateScriptsRow.holds Try.pinned (OpenSpec.ofChange validateScriptsWrong)

/-- 'sesamelaw22.PlainRuns': WHATEVER THE INPUT: true; the input reads as it did. -/
def plainRunsSpec : ChangeSpec := { name := "plainRuns", fn := fun _ => fun
  | [d1, d2, d3] => { results := [.lit (.bool true)], args := [d1, d2, d3] }
  | _ => none }
def plainRunsRow : OpenClaim := { program := "ytiajjcboddaenaa", sum := "4e5c72e35330b6ce572a646633dc538d188b42a73a7152aa2c9a42769eaf02ed", func := "sesame/sesamelaw22.PlainRuns", spec := "plainRuns", unfollowed := true, recurses := true, plainKeys := false, apart := false }
def PlainRunsSaid : Prop := plainRunsRow.holds Try.pinned (OpenSpec.ofChange plainRunsSpec)

/-- ITS FALSE NEIGHBOUR: 'it returns false'. Refute it at one input. -/
def plainRunsWrong : ChangeSpec := { name := "plainRuns", fn := fun _ => fun
  | [d1, d2, d3] => { results := [.lit (.bool false)], args := [d1, d2, d3] }
  | _ => none }
def PlainRunsWrongFalsely : Prop := plainRunsRow.holds Try.pinned (OpenSpec.ofChange plainRunsWrong)

/-- 'sesamelaw22.PlainKeeps': WHATEVER THE INPUT: true; the input reads as it did. -/
def plainKeepsSpec : ChangeSpec := { name := "plainKeeps", fn := fun _ => fun
  | [d1, d2, d3] => { results := [.lit (.bool true)], args := [d1, d2, d3] }
  | _ => none }
def plainKeepsRow : OpenClaim := { program := "ytiajjcboddaenaa", sum := "4e5c72e35330b6ce572a646633dc538d188b42a73a7152aa2c9a42769eaf02ed", func := "sesame/sesamelaw22.PlainKeeps", spec := "plainKeeps", unfollowed := true, recurses := true, plainKeys := false, apart := false }
def PlainKeepsSaid : Prop := plainKeepsRow.holds Try.pinned (OpenSpec.ofChange plainKeepsSpec)

/-- ITS FALSE NEIGHBOUR: 'it returns false'. Refute it at one input. -/
def plainKeepsWrong : ChangeSpec := { name := "plainKeeps", fn := fun _ => fun
  | [d1, d2, d3] => { results := [.lit (.bool false)], args := [d1, d2, d3] }
  | _ => none }
def PlainKeepsWrongFalsely : Prop := plainKeepsRow.holds Try.pinned (OpenSpec.ofChange plainKeepsWrong)

/- THE SECOND FORM. 'bulk': how many values and letters a reading holds, each counted each time it is reached (what is shared counts as often as it is met; a slice's spare places count too). A statement '..UptoSaid' is the law's where the arguments, and the package variables that the reading takes, are together of bulk at most 1048576: NARROWER than '..Said'. Prove '..Said' where nothing that the law and all that it calls make is longer than what came in: it says more and counts as full. Else prove '..UptoSaid'. A law counts once. -/
mutual
def uptoBulk {H : Type} : DataW H → Nat
  | .lit (.string bytes) => bytes.length + 1
  | .lit _ => 1
  | .nil => 1
  | .ptr d => uptoBulk d + 1
  | .slice elems spare => uptoBulkAll elems + uptoBulkAll spare + 1
  | .agg parts => uptoBulkAll parts + 1
  | .iface _ d => uptoBulk d + 1
  | .map entries => uptoBulkEntries entries + 1
  | .held _ => 1
def uptoBulkAll {H : Type} : List (DataW H) → Nat
  | [] => 0
  | d :: r => uptoBulk d + uptoBulkAll r
def uptoBulkEntries {H : Type} : List (Lit × DataW H) → Nat
  | [] => 0
  | x :: r => uptoBulkEntry x + uptoBulkEntries r
def uptoBulkEntry {H : Type} : Lit × DataW H → Nat
  | (.string bytes, d) => bytes.length + uptoBulk d + 1
  | (_, d) => uptoBulk d + 1
 end
def uptoSmall : (H : Type) → List (DataW H) → Bool := fun _ ds => decide (uptoBulkAll ds ≤ 1048576)
def OpenSpec.upto (s : _root_.Go.ChangeSpec) : _root_.Go.OpenSpec := { _root_.Go.OpenSpec.ofChange s with cond := some uptoSmall }

/-- 'sesamelaw24.BookAll', WHERE WHAT IT READS IS OF BULK AT MOST 1048576: true; the input reads as it did. -/
def bookAllUptoRow : OpenClaim := { program := "ytiajjcboddaenaa", sum := "4e5c72e35330b6ce572a646633dc538d188b42a73a7152aa2c9a42769eaf02ed", func := "sesame/sesamelaw24.BookAll", spec := "bookAll", plainKeys := false, apart := false, narrowed := true }
def BookAllUptoSaid : Prop := bookAllUptoRow.holds Try.pinned (OpenSpec.upto bookAllSpec)

/-- 'sesamelaw13.IssueObjects', WHERE WHAT IT READS IS OF BULK AT MOST 1048576: true; the input reads as it did. -/
def issueObjectsUptoRow : OpenClaim := { program := "ytiajjcboddaenaa", sum := "4e5c72e35330b6ce572a646633dc538d188b42a73a7152aa2c9a42769eaf02ed", func := "sesame/sesamelaw13.IssueObjects", spec := "issueObjects", unfollowed := true, recurses := true, plainKeys := false, apart := false, narrowed := true }
def IssueObjectsUptoSaid : Prop := issueObjectsUptoRow.holds Try.pinned (OpenSpec.upto issueObjectsSpec)

/-- 'sesamelaw11.CatalogueAll', WHERE WHAT IT READS IS OF BULK AT MOST 1048576: true; the input reads as it did. -/
def catalogueAllUptoRow : OpenClaim := { program := "ytiajjcboddaenaa", sum := "4e5c72e35330b6ce572a646633dc538d188b42a73a7152aa2c9a42769eaf02ed", func := "sesame/sesamelaw11.CatalogueAll", spec := "catalogueAll", unfollowed := true, recurses := true, plainKeys := false, apart := false, narrowed := true }
def CatalogueAllUptoSaid : Prop := catalogueAllUptoRow.holds Try.pinned (OpenSpec.upto catalogueAllSpec)

/-- 'sesamelaw11.CatalogueFalls', WHERE WHAT IT READS IS OF BULK AT MOST 1048576: true; the input reads as it did. -/
def catalogueFallsUptoRow : OpenClaim := { program := "ytiajjcboddaenaa", sum := "4e5c72e35330b6ce572a646633dc538d188b42a73a7152aa2c9a42769eaf02ed", func := "sesame/sesamelaw11.CatalogueFalls", spec := "catalogueFalls", unfollowed := true, recurses := true, plainKeys := false, apart := false, narrowed := true }
def CatalogueFallsUptoSaid : Prop := catalogueFallsUptoRow.holds Try.pinned (OpenSpec.upto catalogueFallsSpec)

/-- 'sesamelaw11.CatalogueFresh', WHERE WHAT IT READS IS OF BULK AT MOST 1048576: true; the input reads as it did. -/
def catalogueFreshUptoRow : OpenClaim := { program := "ytiajjcboddaenaa", sum := "4e5c72e35330b6ce572a646633dc538d188b42a73a7152aa2c9a42769eaf02ed", func := "sesame/sesamelaw11.CatalogueFresh", spec := "catalogueFresh", unfollowed := true, recurses := true, plainKeys := false, apart := false, narrowed := true }
def CatalogueFreshUptoSaid : Prop := catalogueFreshUptoRow.holds Try.pinned (OpenSpec.upto catalogueFreshSpec)

/-- 'sesamelaw19.ValidateSame', WHERE WHAT IT READS IS OF BULK AT MOST 1048576: true; the input reads as it did. -/
def validateSameUptoRow : OpenClaim := { program := "ytiajjcboddaenaa", sum := "4e5c72e35330b6ce572a646633dc538d188b42a73a7152aa2c9a42769eaf02ed", func := "sesame/sesamelaw19.ValidateSame", spec := "validateSame", unfollowed := true, recurses := true, plainKeys := false, apart := false, narrowed := true }
def ValidateSameUptoSaid : Prop := validateSameUptoRow.holds Try.pinned (OpenSpec.upto validateSameSpec)

/-- 'sesamelaw19.ValidateGone', WHERE WHAT IT READS IS OF BULK AT MOST 1048576: true; the input reads as it did. -/
def validateGoneUptoRow : OpenClaim := { program := "ytiajjcboddaenaa", sum := "4e5c72e35330b6ce572a646633dc538d188b42a73a7152aa2c9a42769eaf02ed", func := "sesame/sesamelaw19.ValidateGone", spec := "validateGone", unfollowed := true, recurses := true, plainKeys := false, apart := false, narrowed := true }
def ValidateGoneUptoSaid : Prop := validateGoneUptoRow.holds Try.pinned (OpenSpec.upto validateGoneSpec)

/-- 'sesamelaw19.ValidateScripts', WHERE WHAT IT READS IS OF BULK AT MOST 1048576: true; the input reads as it did. -/
def validateScriptsUptoRow : OpenClaim := { program := "ytiajjcboddaenaa", sum := "4e5c72e35330b6ce572a646633dc538d188b42a73a7152aa2c9a42769eaf02ed", func := "sesame/sesamelaw19.ValidateScripts", spec := "validateScripts", unfollowed := true, recurses := true, plainKeys := false, apart := false, narrowed := true }
def ValidateScriptsUptoSaid : Prop := validateScriptsUptoRow.holds Try.pinned (OpenSpec.upto validateScriptsSpec)

/-- 'sesamelaw22.PlainRuns', WHERE WHAT IT READS IS OF BULK AT MOST 1048576: true; the input reads as it did. -/
def plainRunsUptoRow : OpenClaim := { program := "ytiajjcboddaenaa", sum := "4e5c72e35330b6ce572a646633dc538d188b42a73a7152aa2c9a42769eaf02ed", func := "sesame/sesamelaw22.PlainRuns", spec := "plainRuns", unfollowed := true, recurses := true, plainKeys := false, apart := false, narrowed := true }
def PlainRunsUptoSaid : Prop := plainRunsUptoRow.holds Try.pinned (OpenSpec.upto plainRunsSpec)

/-- 'sesamelaw22.PlainKeeps', WHERE WHAT IT READS IS OF BULK AT MOST 1048576: true; the input reads as it did. -/
def plainKeepsUptoRow : OpenClaim := { program := "ytiajjcboddaenaa", sum := "4e5c72e35330b6ce572a646633dc538d188b42a73a7152aa2c9a42769eaf02ed", func := "sesame/sesamelaw22.PlainKeeps", spec := "plainKeeps", unfollowed := true, recurses := true, plainKeys := false, apart := false, narrowed := true }
def PlainKeepsUptoSaid : Prop := plainKeepsUptoRow.holds Try.pinned (OpenSpec.upto plainKeepsSpec)

end Rows
end Go.Proofs.Ytiajjcboddaenaa
