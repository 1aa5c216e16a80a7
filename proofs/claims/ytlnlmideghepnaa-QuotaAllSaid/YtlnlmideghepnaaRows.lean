/-
  No cell of these rows narrows 'for every input' (looked for: loops, veiled, ifaces, maps, wideKeys, modest, calm, conditions, laid).
  DERIVED. THE GIVEN ROWS OF THIS SEAT. 9 by the template 'for every input the law returns true; each argument reads behind the call as it read before'; 0 by the template 'total and deterministic' (their statements: YtlnlmideghepnaaTotals.lean).
  GIVEN WITH THE SEED: the statements are not yours to turn. If you find one false, say at which input.
  Laid BY PROGRAM, IN A SANDBOX (cutbox-rows.mjs): the forced cells as the released guide's own fill.sh prints them over the translation cc05deabbfa379f5… (all of the seat's roots in one cut). By AI agents, Wed Nov 11 2026. No macro, syntax, notation, axiom, sorry.
-/
import Derived.Test.YtlnlmideghepnaaChecked
import GoSem.Claim
import GoSem.ClaimJoined
import GoSem.ClaimMapViews
import Derived.JoinedTies
import Derived.KernelRfl
namespace Go.Proofs.Ytlnlmideghepnaa
/- THE CELL 'sum', in the pinned program and in every row, IS THE sha256 OF THE DUMP (.gsa) THAT YtlnlmideghepnaaProg.lean LOADS. Nothing in Lean hashes anything: it is a label: what it is worth is what the hold of that sum in a sandbox is worth. -/
noncomputable def Try.pinned : Pinned := { name := "ytlnlmideghepnaa", sum := "cc05deabbfa379f58b6ab615619961737cb0e76522ad5d1da95ff60230113336", checked := Try.checked }
namespace Rows
def none {H : Type} : Left H := { results := [], args := [] }

/-- 'sesamelaw24.BookAll': WHATEVER THE INPUT: true; the input reads as it did. -/
def bookAllSpec : ChangeSpec := { name := "bookAll", fn := fun _ => fun
  | [d1, d2, d3] => { results := [.lit (.bool true)], args := [d1, d2, d3] }
  | _ => none }
def bookAllRow : OpenClaim := { program := "ytlnlmideghepnaa", sum := "cc05deabbfa379f58b6ab615619961737cb0e76522ad5d1da95ff60230113336", func := "sesame/sesamelaw24.BookAll", spec := "bookAll", plainKeys := false, apart := false }
def BookAllSaid : Prop := bookAllRow.holds Try.pinned (OpenSpec.ofChange bookAllSpec)

/-- ITS FALSE NEIGHBOUR: 'it returns false'. Refute it at one input. -/
def bookAllWrong : ChangeSpec := { name := "bookAll", fn := fun _ => fun
  | [d1, d2, d3] => { results := [.lit (.bool false)], args := [d1, d2, d3] }
  | _ => none }
def BookAllWrongFalsely : Prop := bookAllRow.holds Try.pinned (OpenSpec.ofChange bookAllWrong)

/-- 'sesamelaw24.BookEnds': WHATEVER THE INPUT: true; the input reads as it did. -/
def bookEndsSpec : ChangeSpec := { name := "bookEnds", fn := fun _ => fun
  | [d1, d2, d3] => { results := [.lit (.bool true)], args := [d1, d2, d3] }
  | _ => none }
def bookEndsRow : OpenClaim := { program := "ytlnlmideghepnaa", sum := "cc05deabbfa379f58b6ab615619961737cb0e76522ad5d1da95ff60230113336", func := "sesame/sesamelaw24.BookEnds", spec := "bookEnds", plainKeys := false, apart := false }
def BookEndsSaid : Prop := bookEndsRow.holds Try.pinned (OpenSpec.ofChange bookEndsSpec)

/-- ITS FALSE NEIGHBOUR: 'it returns false'. Refute it at one input. -/
def bookEndsWrong : ChangeSpec := { name := "bookEnds", fn := fun _ => fun
  | [d1, d2, d3] => { results := [.lit (.bool false)], args := [d1, d2, d3] }
  | _ => none }
def BookEndsWrongFalsely : Prop := bookEndsRow.holds Try.pinned (OpenSpec.ofChange bookEndsWrong)

/-- 'sesamelaw13.IssueObjects': WHATEVER THE INPUT: true; the input reads as it did. -/
def issueObjectsSpec : ChangeSpec := { name := "issueObjects", fn := fun _ => fun
  | [d1, d2, d3, d4] => { results := [.lit (.bool true)], args := [d1, d2, d3, d4] }
  | _ => none }
def issueObjectsRow : OpenClaim := { program := "ytlnlmideghepnaa", sum := "cc05deabbfa379f58b6ab615619961737cb0e76522ad5d1da95ff60230113336", func := "sesame/sesamelaw13.IssueObjects", spec := "issueObjects", unfollowed := true, recurses := true, plainKeys := false, apart := false }
def IssueObjectsSaid : Prop := issueObjectsRow.holds Try.pinned (OpenSpec.ofChange issueObjectsSpec)

/-- ITS FALSE NEIGHBOUR: 'it returns false'. Refute it at one input. -/
def issueObjectsWrong : ChangeSpec := { name := "issueObjects", fn := fun _ => fun
  | [d1, d2, d3, d4] => { results := [.lit (.bool false)], args := [d1, d2, d3, d4] }
  | _ => none }
def IssueObjectsWrongFalsely : Prop := issueObjectsRow.holds Try.pinned (OpenSpec.ofChange issueObjectsWrong)

/-- 'sesamelaw11.CatalogueAll': WHATEVER THE INPUT: true; the input reads as it did. -/
def catalogueAllSpec : ChangeSpec := { name := "catalogueAll", fn := fun _ => fun
  | [d1, d2] => { results := [.lit (.bool true)], args := [d1, d2] }
  | _ => none }
def catalogueAllRow : OpenClaim := { program := "ytlnlmideghepnaa", sum := "cc05deabbfa379f58b6ab615619961737cb0e76522ad5d1da95ff60230113336", func := "sesame/sesamelaw11.CatalogueAll", spec := "catalogueAll", unfollowed := true, recurses := true, plainKeys := false, apart := false }
def CatalogueAllSaid : Prop := catalogueAllRow.holds Try.pinned (OpenSpec.ofChange catalogueAllSpec)

/-- ITS FALSE NEIGHBOUR: 'it returns false'. Refute it at one input. -/
def catalogueAllWrong : ChangeSpec := { name := "catalogueAll", fn := fun _ => fun
  | [d1, d2] => { results := [.lit (.bool false)], args := [d1, d2] }
  | _ => none }
def CatalogueAllWrongFalsely : Prop := catalogueAllRow.holds Try.pinned (OpenSpec.ofChange catalogueAllWrong)

/-- 'sesamelaw11.CatalogueFalls': WHATEVER THE INPUT: true; the input reads as it did. -/
def catalogueFallsSpec : ChangeSpec := { name := "catalogueFalls", fn := fun _ => fun
  | [d1, d2, d3, d4] => { results := [.lit (.bool true)], args := [d1, d2, d3, d4] }
  | _ => none }
def catalogueFallsRow : OpenClaim := { program := "ytlnlmideghepnaa", sum := "cc05deabbfa379f58b6ab615619961737cb0e76522ad5d1da95ff60230113336", func := "sesame/sesamelaw11.CatalogueFalls", spec := "catalogueFalls", unfollowed := true, recurses := true, plainKeys := false, apart := false }
def CatalogueFallsSaid : Prop := catalogueFallsRow.holds Try.pinned (OpenSpec.ofChange catalogueFallsSpec)

/-- ITS FALSE NEIGHBOUR: 'it returns false'. Refute it at one input. -/
def catalogueFallsWrong : ChangeSpec := { name := "catalogueFalls", fn := fun _ => fun
  | [d1, d2, d3, d4] => { results := [.lit (.bool false)], args := [d1, d2, d3, d4] }
  | _ => none }
def CatalogueFallsWrongFalsely : Prop := catalogueFallsRow.holds Try.pinned (OpenSpec.ofChange catalogueFallsWrong)

/-- 'sesamelaw11.CatalogueFresh': WHATEVER THE INPUT: true; the input reads as it did. -/
def catalogueFreshSpec : ChangeSpec := { name := "catalogueFresh", fn := fun _ => fun
  | [d1, d2, d3, d4] => { results := [.lit (.bool true)], args := [d1, d2, d3, d4] }
  | _ => none }
def catalogueFreshRow : OpenClaim := { program := "ytlnlmideghepnaa", sum := "cc05deabbfa379f58b6ab615619961737cb0e76522ad5d1da95ff60230113336", func := "sesame/sesamelaw11.CatalogueFresh", spec := "catalogueFresh", unfollowed := true, recurses := true, plainKeys := false, apart := false }
def CatalogueFreshSaid : Prop := catalogueFreshRow.holds Try.pinned (OpenSpec.ofChange catalogueFreshSpec)

/-- ITS FALSE NEIGHBOUR: 'it returns false'. Refute it at one input. -/
def catalogueFreshWrong : ChangeSpec := { name := "catalogueFresh", fn := fun _ => fun
  | [d1, d2, d3, d4] => { results := [.lit (.bool false)], args := [d1, d2, d3, d4] }
  | _ => none }
def CatalogueFreshWrongFalsely : Prop := catalogueFreshRow.holds Try.pinned (OpenSpec.ofChange catalogueFreshWrong)

/-- 'sesamelaw12.QuotaFresh': WHATEVER THE INPUT: true; the input reads as it did. -/
def quotaFreshSpec : ChangeSpec := { name := "quotaFresh", fn := fun _ => fun
  | [d] => { results := [.lit (.bool true)], args := [d] }
  | _ => none }
def quotaFreshRow : OpenClaim := { program := "ytlnlmideghepnaa", sum := "cc05deabbfa379f58b6ab615619961737cb0e76522ad5d1da95ff60230113336", func := "sesame/sesamelaw12.QuotaFresh", spec := "quotaFresh", recurses := true, plainKeys := false, apart := false }
def QuotaFreshSaid : Prop := quotaFreshRow.holds Try.pinned (OpenSpec.ofChange quotaFreshSpec)

/-- ITS FALSE NEIGHBOUR: 'it returns false'. Refute it at one input. -/
def quotaFreshWrong : ChangeSpec := { name := "quotaFresh", fn := fun _ => fun
  | [d] => { results := [.lit (.bool false)], args := [d] }
  | _ => none }
def QuotaFreshWrongFalsely : Prop := quotaFreshRow.holds Try.pinned (OpenSpec.ofChange quotaFreshWrong)

/-- 'sesamelaw12.QuotaAll': WHATEVER THE INPUT: true; the input reads as it did. -/
def quotaAllSpec : ChangeSpec := { name := "quotaAll", fn := fun _ => fun
  | [d1, d2, d3] => { results := [.lit (.bool true)], args := [d1, d2, d3] }
  | _ => none }
def quotaAllRow : OpenClaim := { program := "ytlnlmideghepnaa", sum := "cc05deabbfa379f58b6ab615619961737cb0e76522ad5d1da95ff60230113336", func := "sesame/sesamelaw12.QuotaAll", spec := "quotaAll", recurses := true, plainKeys := false, apart := false }
def QuotaAllSaid : Prop := quotaAllRow.holds Try.pinned (OpenSpec.ofChange quotaAllSpec)

/-- ITS FALSE NEIGHBOUR: 'it returns false'. Refute it at one input. -/
def quotaAllWrong : ChangeSpec := { name := "quotaAll", fn := fun _ => fun
  | [d1, d2, d3] => { results := [.lit (.bool false)], args := [d1, d2, d3] }
  | _ => none }
def QuotaAllWrongFalsely : Prop := quotaAllRow.holds Try.pinned (OpenSpec.ofChange quotaAllWrong)

/-- 'sesamelaw12.QuotaSums': WHATEVER THE INPUT: true; the input reads as it did. -/
def quotaSumsSpec : ChangeSpec := { name := "quotaSums", fn := fun _ => fun
  | [d1, d2, d3] => { results := [.lit (.bool true)], args := [d1, d2, d3] }
  | _ => none }
def quotaSumsRow : OpenClaim := { program := "ytlnlmideghepnaa", sum := "cc05deabbfa379f58b6ab615619961737cb0e76522ad5d1da95ff60230113336", func := "sesame/sesamelaw12.QuotaSums", spec := "quotaSums", recurses := true, plainKeys := false, apart := false }
def QuotaSumsSaid : Prop := quotaSumsRow.holds Try.pinned (OpenSpec.ofChange quotaSumsSpec)

/-- ITS FALSE NEIGHBOUR: 'it returns false'. Refute it at one input. -/
def quotaSumsWrong : ChangeSpec := { name := "quotaSums", fn := fun _ => fun
  | [d1, d2, d3] => { results := [.lit (.bool false)], args := [d1, d2, d3] }
  | _ => none }
def QuotaSumsWrongFalsely : Prop := quotaSumsRow.holds Try.pinned (OpenSpec.ofChange quotaSumsWrong)

/- THE SECOND FORM. 'bulk': how many values and letters a reading holds, each counted each time it is reached (what is shared counts as often as it is met; a slice's spare places count too). A statement '..UptoSaid' is the law's where the arguments, and the package variables that the reading takes, are together of bulk at most 1048576: NARROWER than '..Said'. Prove '..Said' where nothing that the law and all that it calls make is longer than what came in: it says more and counts as full. Else prove '..UptoSaid'. A law counts once. -/
mutual
def uptoBulk {H : Type} : DataW H → Nat
  | .lit (.string bytes) => bytes.length + 1
  | .lit _ => 1
  | .nil => 1
  | .ptr d => uptoBulk d + 1
  | .slice elems spare => uptoBulkAll elems + uptoBulkAll spare + 1
  | .agg parts => uptoBulkAll parts + 1
  | .iface _ d => uptoBulk d + 1
  | .map entries => uptoBulkEntries entries + 1
  | .held _ => 1
def uptoBulkAll {H : Type} : List (DataW H) → Nat
  | [] => 0
  | d :: r => uptoBulk d + uptoBulkAll r
def uptoBulkEntries {H : Type} : List (Lit × DataW H) → Nat
  | [] => 0
  | x :: r => uptoBulkEntry x + uptoBulkEntries r
def uptoBulkEntry {H : Type} : Lit × DataW H → Nat
  | (.string bytes, d) => bytes.length + uptoBulk d + 1
  | (_, d) => uptoBulk d + 1
 end
def uptoSmall : (H : Type) → List (DataW H) → Bool := fun _ ds => decide (uptoBulkAll ds ≤ 1048576)
def OpenSpec.upto (s : _root_.Go.ChangeSpec) : _root_.Go.OpenSpec := { _root_.Go.OpenSpec.ofChange s with cond := some uptoSmall }

/-- 'sesamelaw24.BookAll', WHERE WHAT IT READS IS OF BULK AT MOST 1048576: true; the input reads as it did. -/
def bookAllUptoRow : OpenClaim := { program := "ytlnlmideghepnaa", sum := "cc05deabbfa379f58b6ab615619961737cb0e76522ad5d1da95ff60230113336", func := "sesame/sesamelaw24.BookAll", spec := "bookAll", plainKeys := false, apart := false, narrowed := true }
def BookAllUptoSaid : Prop := bookAllUptoRow.holds Try.pinned (OpenSpec.upto bookAllSpec)

/-- 'sesamelaw24.BookEnds', WHERE WHAT IT READS IS OF BULK AT MOST 1048576: true; the input reads as it did. -/
def bookEndsUptoRow : OpenClaim := { program := "ytlnlmideghepnaa", sum := "cc05deabbfa379f58b6ab615619961737cb0e76522ad5d1da95ff60230113336", func := "sesame/sesamelaw24.BookEnds", spec := "bookEnds", plainKeys := false, apart := false, narrowed := true }
def BookEndsUptoSaid : Prop := bookEndsUptoRow.holds Try.pinned (OpenSpec.upto bookEndsSpec)

/-- 'sesamelaw13.IssueObjects', WHERE WHAT IT READS IS OF BULK AT MOST 1048576: true; the input reads as it did. -/
def issueObjectsUptoRow : OpenClaim := { program := "ytlnlmideghepnaa", sum := "cc05deabbfa379f58b6ab615619961737cb0e76522ad5d1da95ff60230113336", func := "sesame/sesamelaw13.IssueObjects", spec := "issueObjects", unfollowed := true, recurses := true, plainKeys := false, apart := false, narrowed := true }
def IssueObjectsUptoSaid : Prop := issueObjectsUptoRow.holds Try.pinned (OpenSpec.upto issueObjectsSpec)

/-- 'sesamelaw11.CatalogueAll', WHERE WHAT IT READS IS OF BULK AT MOST 1048576: true; the input reads as it did. -/
def catalogueAllUptoRow : OpenClaim := { program := "ytlnlmideghepnaa", sum := "cc05deabbfa379f58b6ab615619961737cb0e76522ad5d1da95ff60230113336", func := "sesame/sesamelaw11.CatalogueAll", spec := "catalogueAll", unfollowed := true, recurses := true, plainKeys := false, apart := false, narrowed := true }
def CatalogueAllUptoSaid : Prop := catalogueAllUptoRow.holds Try.pinned (OpenSpec.upto catalogueAllSpec)

/-- 'sesamelaw11.CatalogueFalls', WHERE WHAT IT READS IS OF BULK AT MOST 1048576: true; the input reads as it did. -/
def catalogueFallsUptoRow : OpenClaim := { program := "ytlnlmideghepnaa", sum := "cc05deabbfa379f58b6ab615619961737cb0e76522ad5d1da95ff60230113336", func := "sesame/sesamelaw11.CatalogueFalls", spec := "catalogueFalls", unfollowed := true, recurses := true, plainKeys := false, apart := false, narrowed := true }
def CatalogueFallsUptoSaid : Prop := catalogueFallsUptoRow.holds Try.pinned (OpenSpec.upto catalogueFallsSpec)

/-- 'sesamelaw11.CatalogueFresh', WHERE WHAT IT READS IS OF BULK AT MOST 1048576: true; the input reads as it did. -/
def catalogueFreshUptoRow : OpenClaim := { program := "ytlnlmideghepnaa", sum := "cc05deabbfa379f58b6ab615619961737cb0e76522ad5d1da95ff60230113336", func := "sesame/sesamelaw11.CatalogueFresh", spec := "catalogueFresh", unfollowed := true, recurses := true, plainKeys := false, apart := false, narrowed := true }
def CatalogueFreshUptoSaid : Prop := catalogueFreshUptoRow.holds Try.pinned (OpenSpec.upto catalogueFreshSpec)

/-- 'sesamelaw12.QuotaFresh', WHERE WHAT IT READS IS OF BULK AT MOST 1048576: true; the input reads as it did. -/
def quotaFreshUptoRow : OpenClaim := { program := "ytlnlmideghepnaa", sum := "cc05deabbfa379f58b6ab615619961737cb0e76522ad5d1da95ff60230113336", func := "sesame/sesamelaw12.QuotaFresh", spec := "quotaFresh", recurses := true, plainKeys := false, apart := false, narrowed := true }
def QuotaFreshUptoSaid : Prop := quotaFreshUptoRow.holds Try.pinned (OpenSpec.upto quotaFreshSpec)

/-- 'sesamelaw12.QuotaAll', WHERE WHAT IT READS IS OF BULK AT MOST 1048576: true; the input reads as it did. -/
def quotaAllUptoRow : OpenClaim := { program := "ytlnlmideghepnaa", sum := "cc05deabbfa379f58b6ab615619961737cb0e76522ad5d1da95ff60230113336", func := "sesame/sesamelaw12.QuotaAll", spec := "quotaAll", recurses := true, plainKeys := false, apart := false, narrowed := true }
def QuotaAllUptoSaid : Prop := quotaAllUptoRow.holds Try.pinned (OpenSpec.upto quotaAllSpec)

/-- 'sesamelaw12.QuotaSums', WHERE WHAT IT READS IS OF BULK AT MOST 1048576: true; the input reads as it did. -/
def quotaSumsUptoRow : OpenClaim := { program := "ytlnlmideghepnaa", sum := "cc05deabbfa379f58b6ab615619961737cb0e76522ad5d1da95ff60230113336", func := "sesame/sesamelaw12.QuotaSums", spec := "quotaSums", recurses := true, plainKeys := false, apart := false, narrowed := true }
def QuotaSumsUptoSaid : Prop := quotaSumsUptoRow.holds Try.pinned (OpenSpec.upto quotaSumsSpec)

end Rows
end Go.Proofs.Ytlnlmideghepnaa
