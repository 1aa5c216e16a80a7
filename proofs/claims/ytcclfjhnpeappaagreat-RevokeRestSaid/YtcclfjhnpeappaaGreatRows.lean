/-
  No cell of these rows narrows 'for every input' (looked for: loops, veiled, ifaces, maps, wideKeys, modest, calm, conditions, laid).
  DERIVED. THE GIVEN ROWS OF THIS SEAT. 4 by the template 'for every input the law returns true; each argument reads behind the call as it read before'; 0 by the template 'total and deterministic' (their statements: YtcclfjhnpeappaaGreatTotals.lean).
  GIVEN WITH THE SEED: the statements are not yours to turn. If you find one false, say at which input.
  Laid BY PROGRAM, IN A SANDBOX (cutbox-rows.mjs): the forced cells as the released guide's own fill.sh prints them over the translation 4fb5d08729ed92ac… (all of the seat's roots in one cut). By AI agents, Wed Nov 11 2026. No macro, syntax, notation, axiom, sorry.
-/
import Derived.Test.YtcclfjhnpeappaaGreatChecked
import GoSem.Claim
import GoSem.ClaimJoined
import GoSem.ClaimMapViews
import Derived.JoinedTies
import Derived.KernelRfl
namespace Go.Proofs.YtcclfjhnpeappaaGreat
/- THE CELL 'sum', in the pinned program and in every row, IS THE sha256 OF THE DUMP (.gsa) THAT YtcclfjhnpeappaaGreatProg.lean LOADS. Nothing in Lean hashes anything: it is a label: what it is worth is what the hold of that sum in a sandbox is worth. -/
noncomputable def Tryz.pinned : Pinned := { name := "ytcclfjhnpeappaagreat", sum := "4fb5d08729ed92aca40250ff1944cd78d7638e2574f2815b8af2640391d070c4", checked := Tryz.checked }
namespace Rows
def none {H : Type} : Left H := { results := [], args := [] }

/-- 'sesamelaw22.PlainPlays': WHATEVER THE INPUT: true; the input reads as it did. -/
def plainPlaysSpec : ChangeSpec := { name := "plainPlays", fn := fun _ => fun
  | [d1, d2, d3] => { results := [.lit (.bool true)], args := [d1, d2, d3] }
  | _ => none }
def plainPlaysRow : OpenClaim := { program := "ytcclfjhnpeappaagreat", sum := "4fb5d08729ed92aca40250ff1944cd78d7638e2574f2815b8af2640391d070c4", func := "sesame/sesamelaw22.PlainPlays", spec := "plainPlays", unfollowed := true, recurses := true, apart := false }
def PlainPlaysSaid : Prop := plainPlaysRow.holds Tryz.pinned (OpenSpec.ofChange plainPlaysSpec)

/-- ITS FALSE NEIGHBOUR: 'it returns false'. Refute it at one input. -/
def plainPlaysWrong : ChangeSpec := { name := "plainPlays", fn := fun _ => fun
  | [d1, d2, d3] => { results := [.lit (.bool false)], args := [d1, d2, d3] }
  | _ => none }
def PlainPlaysWrongFalsely : Prop := plainPlaysRow.holds Tryz.pinned (OpenSpec.ofChange plainPlaysWrong)

/-- 'sesamelaw15.RevokeAll': WHATEVER THE INPUT: true; the input reads as it did. -/
def revokeAllSpec : ChangeSpec := { name := "revokeAll", fn := fun _ => fun
  | [d1, d2, d3] => { results := [.lit (.bool true)], args := [d1, d2, d3] }
  | _ => none }
def revokeAllRow : OpenClaim := { program := "ytcclfjhnpeappaagreat", sum := "4fb5d08729ed92aca40250ff1944cd78d7638e2574f2815b8af2640391d070c4", func := "sesame/sesamelaw15.RevokeAll", spec := "revokeAll", unfollowed := true, recurses := true, apart := false }
def RevokeAllSaid : Prop := revokeAllRow.holds Tryz.pinned (OpenSpec.ofChange revokeAllSpec)

/-- ITS FALSE NEIGHBOUR: 'it returns false'. Refute it at one input. -/
def revokeAllWrong : ChangeSpec := { name := "revokeAll", fn := fun _ => fun
  | [d1, d2, d3] => { results := [.lit (.bool false)], args := [d1, d2, d3] }
  | _ => none }
def RevokeAllWrongFalsely : Prop := revokeAllRow.holds Tryz.pinned (OpenSpec.ofChange revokeAllWrong)

/-- 'sesamelaw15.RevokeRest': WHATEVER THE INPUT: true; the input reads as it did. -/
def revokeRestSpec : ChangeSpec := { name := "revokeRest", fn := fun _ => fun
  | [d1, d2, d3] => { results := [.lit (.bool true)], args := [d1, d2, d3] }
  | _ => none }
def revokeRestRow : OpenClaim := { program := "ytcclfjhnpeappaagreat", sum := "4fb5d08729ed92aca40250ff1944cd78d7638e2574f2815b8af2640391d070c4", func := "sesame/sesamelaw15.RevokeRest", spec := "revokeRest", unfollowed := true, recurses := true, apart := false }
def RevokeRestSaid : Prop := revokeRestRow.holds Tryz.pinned (OpenSpec.ofChange revokeRestSpec)

/-- ITS FALSE NEIGHBOUR: 'it returns false'. Refute it at one input. -/
def revokeRestWrong : ChangeSpec := { name := "revokeRest", fn := fun _ => fun
  | [d1, d2, d3] => { results := [.lit (.bool false)], args := [d1, d2, d3] }
  | _ => none }
def RevokeRestWrongFalsely : Prop := revokeRestRow.holds Tryz.pinned (OpenSpec.ofChange revokeRestWrong)

/-- 'sesamelaw15.RevokeFresh': WHATEVER THE INPUT: true; the input reads as it did. -/
def revokeFreshSpec : ChangeSpec := { name := "revokeFresh", fn := fun _ => fun
  | [d] => { results := [.lit (.bool true)], args := [d] }
  | _ => none }
def revokeFreshRow : OpenClaim := { program := "ytcclfjhnpeappaagreat", sum := "4fb5d08729ed92aca40250ff1944cd78d7638e2574f2815b8af2640391d070c4", func := "sesame/sesamelaw15.RevokeFresh", spec := "revokeFresh", unfollowed := true, recurses := true, apart := false }
def RevokeFreshSaid : Prop := revokeFreshRow.holds Tryz.pinned (OpenSpec.ofChange revokeFreshSpec)

/-- ITS FALSE NEIGHBOUR: 'it returns false'. Refute it at one input. -/
def revokeFreshWrong : ChangeSpec := { name := "revokeFresh", fn := fun _ => fun
  | [d] => { results := [.lit (.bool false)], args := [d] }
  | _ => none }
def RevokeFreshWrongFalsely : Prop := revokeFreshRow.holds Tryz.pinned (OpenSpec.ofChange revokeFreshWrong)

/- THE SECOND FORM. 'bulk': how many values and letters a reading holds, each counted each time it is reached (what is shared counts as often as it is met; a slice's spare places count too). A statement '..UptoSaid' is the law's where the arguments, and the package variables that the reading takes, are together of bulk at most 1048576: NARROWER than '..Said'. Prove '..Said' where nothing that the law and all that it calls make is longer than what came in: it says more and counts as full. Else prove '..UptoSaid'. A law counts once. -/
mutual
def uptoBulk {H : Type} : DataW H → Nat
  | .lit (.string bytes) => bytes.length + 1
  | .lit _ => 1
  | .nil => 1
  | .ptr d => uptoBulk d + 1
  | .slice elems spare => uptoBulkAll elems + uptoBulkAll spare + 1
  | .agg parts => uptoBulkAll parts + 1
  | .iface _ d => uptoBulk d + 1
  | .map entries => uptoBulkEntries entries + 1
  | .held _ => 1
def uptoBulkAll {H : Type} : List (DataW H) → Nat
  | [] => 0
  | d :: r => uptoBulk d + uptoBulkAll r
def uptoBulkEntries {H : Type} : List (Lit × DataW H) → Nat
  | [] => 0
  | x :: r => uptoBulkEntry x + uptoBulkEntries r
def uptoBulkEntry {H : Type} : Lit × DataW H → Nat
  | (.string bytes, d) => bytes.length + uptoBulk d + 1
  | (_, d) => uptoBulk d + 1
 end
def uptoSmall : (H : Type) → List (DataW H) → Bool := fun _ ds => decide (uptoBulkAll ds ≤ 1048576)
def OpenSpec.upto (s : _root_.Go.ChangeSpec) : _root_.Go.OpenSpec := { _root_.Go.OpenSpec.ofChange s with cond := some uptoSmall }

/-- 'sesamelaw22.PlainPlays', WHERE WHAT IT READS IS OF BULK AT MOST 1048576: true; the input reads as it did. -/
def plainPlaysUptoRow : OpenClaim := { program := "ytcclfjhnpeappaagreat", sum := "4fb5d08729ed92aca40250ff1944cd78d7638e2574f2815b8af2640391d070c4", func := "sesame/sesamelaw22.PlainPlays", spec := "plainPlays", unfollowed := true, recurses := true, apart := false, narrowed := true }
def PlainPlaysUptoSaid : Prop := plainPlaysUptoRow.holds Tryz.pinned (OpenSpec.upto plainPlaysSpec)

/-- 'sesamelaw15.RevokeAll', WHERE WHAT IT READS IS OF BULK AT MOST 1048576: true; the input reads as it did. -/
def revokeAllUptoRow : OpenClaim := { program := "ytcclfjhnpeappaagreat", sum := "4fb5d08729ed92aca40250ff1944cd78d7638e2574f2815b8af2640391d070c4", func := "sesame/sesamelaw15.RevokeAll", spec := "revokeAll", unfollowed := true, recurses := true, apart := false, narrowed := true }
def RevokeAllUptoSaid : Prop := revokeAllUptoRow.holds Tryz.pinned (OpenSpec.upto revokeAllSpec)

/-- 'sesamelaw15.RevokeRest', WHERE WHAT IT READS IS OF BULK AT MOST 1048576: true; the input reads as it did. -/
def revokeRestUptoRow : OpenClaim := { program := "ytcclfjhnpeappaagreat", sum := "4fb5d08729ed92aca40250ff1944cd78d7638e2574f2815b8af2640391d070c4", func := "sesame/sesamelaw15.RevokeRest", spec := "revokeRest", unfollowed := true, recurses := true, apart := false, narrowed := true }
def RevokeRestUptoSaid : Prop := revokeRestUptoRow.holds Tryz.pinned (OpenSpec.upto revokeRestSpec)

/-- 'sesamelaw15.RevokeFresh', WHERE WHAT IT READS IS OF BULK AT MOST 1048576: true; the input reads as it did. -/
def revokeFreshUptoRow : OpenClaim := { program := "ytcclfjhnpeappaagreat", sum := "4fb5d08729ed92aca40250ff1944cd78d7638e2574f2815b8af2640391d070c4", func := "sesame/sesamelaw15.RevokeFresh", spec := "revokeFresh", unfollowed := true, recurses := true, apart := false, narrowed := true }
def RevokeFreshUptoSaid : Prop := revokeFreshUptoRow.holds Tryz.pinned (OpenSpec.upto revokeFreshSpec)

end Rows
end Go.Proofs.YtcclfjhnpeappaaGreat
