/-
  No cell of these rows narrows 'for every input' (looked for: loops, veiled, ifaces, maps, wideKeys, modest, calm, conditions, laid).
  DERIVED. THE GIVEN ROWS OF THIS SEAT. 5 by the template 'for every input the law returns true; each argument reads behind the call as it read before'; 0 by the template 'total and deterministic' (their statements: YteeaelemfalkbaaTotals.lean).
  GIVEN WITH THE SEED: the statements are not yours to turn. If you find one false, say at which input.
  Laid BY PROGRAM, IN A SANDBOX (cutbox-rows.mjs): the forced cells as the released guide's own fill.sh prints them over the translation 473746dadd12c52b… (all of the seat's roots in one cut). By AI agents, Wed Nov 11 2026. No macro, syntax, notation, axiom, sorry.
-/
import Derived.Test.YteeaelemfalkbaaChecked
import GoSem.Claim
import GoSem.ClaimJoined
import GoSem.ClaimMapViews
import Derived.JoinedTies
import Derived.KernelRfl
namespace Go.Proofs.Yteeaelemfalkbaa
/- THE CELL 'sum', in the pinned program and in every row, IS THE sha256 OF THE DUMP (.gsa) THAT YteeaelemfalkbaaProg.lean LOADS. Nothing in Lean hashes anything: it is a label: what it is worth is what the hold of that sum in a sandbox is worth. -/
noncomputable def Try.pinned : Pinned := { name := "yteeaelemfalkbaa", sum := "473746dadd12c52b2f6616b93a95c57f31d8fed433028e613c70dbd7ebf52594", checked := Try.checked }
namespace Rows
def none {H : Type} : Left H := { results := [], args := [] }

/-- 'sesamelaw23.ImageChecks': WHATEVER THE INPUT: true; the input reads as it did. -/
def imageChecksSpec : ChangeSpec := { name := "imageChecks", fn := fun _ => fun
  | [d1, d2, d3] => { results := [.lit (.bool true)], args := [d1, d2, d3] }
  | _ => none }
def imageChecksRow : OpenClaim := { program := "yteeaelemfalkbaa", sum := "473746dadd12c52b2f6616b93a95c57f31d8fed433028e613c70dbd7ebf52594", func := "sesame/sesamelaw23.ImageChecks", spec := "imageChecks", unfollowed := true, recurses := true, apart := false }
def ImageChecksSaid : Prop := imageChecksRow.holds Try.pinned (OpenSpec.ofChange imageChecksSpec)

/-- ITS FALSE NEIGHBOUR: 'it returns false'. Refute it at one input. -/
def imageChecksWrong : ChangeSpec := { name := "imageChecks", fn := fun _ => fun
  | [d1, d2, d3] => { results := [.lit (.bool false)], args := [d1, d2, d3] }
  | _ => none }
def ImageChecksWrongFalsely : Prop := imageChecksRow.holds Try.pinned (OpenSpec.ofChange imageChecksWrong)

/-- 'sesamelaw23.ImageParses': WHATEVER THE INPUT: true; the input reads as it did. -/
def imageParsesSpec : ChangeSpec := { name := "imageParses", fn := fun _ => fun
  | [d] => { results := [.lit (.bool true)], args := [d] }
  | _ => none }
def imageParsesRow : OpenClaim := { program := "yteeaelemfalkbaa", sum := "473746dadd12c52b2f6616b93a95c57f31d8fed433028e613c70dbd7ebf52594", func := "sesame/sesamelaw23.ImageParses", spec := "imageParses", unfollowed := true, recurses := true, apart := false }
def ImageParsesSaid : Prop := imageParsesRow.holds Try.pinned (OpenSpec.ofChange imageParsesSpec)

/-- ITS FALSE NEIGHBOUR: 'it returns false'. Refute it at one input. -/
def imageParsesWrong : ChangeSpec := { name := "imageParses", fn := fun _ => fun
  | [d] => { results := [.lit (.bool false)], args := [d] }
  | _ => none }
def ImageParsesWrongFalsely : Prop := imageParsesRow.holds Try.pinned (OpenSpec.ofChange imageParsesWrong)

/-- 'sesamelaw07.StoreLives': WHATEVER THE INPUT: true; the input reads as it did. -/
def storeLivesSpec : ChangeSpec := { name := "storeLives", fn := fun _ => fun
  | [d] => { results := [.lit (.bool true)], args := [d] }
  | _ => none }
def storeLivesRow : OpenClaim := { program := "yteeaelemfalkbaa", sum := "473746dadd12c52b2f6616b93a95c57f31d8fed433028e613c70dbd7ebf52594", func := "sesame/sesamelaw07.StoreLives", spec := "storeLives", unfollowed := true, recurses := true, apart := false }
def StoreLivesSaid : Prop := storeLivesRow.holds Try.pinned (OpenSpec.ofChange storeLivesSpec)

/-- ITS FALSE NEIGHBOUR: 'it returns false'. Refute it at one input. -/
def storeLivesWrong : ChangeSpec := { name := "storeLives", fn := fun _ => fun
  | [d] => { results := [.lit (.bool false)], args := [d] }
  | _ => none }
def StoreLivesWrongFalsely : Prop := storeLivesRow.holds Try.pinned (OpenSpec.ofChange storeLivesWrong)

/-- 'sesamelaw07.StoreFresh': WHATEVER THE INPUT: true; the input reads as it did. -/
def storeFreshSpec : ChangeSpec := { name := "storeFresh", fn := fun _ => fun
  | [d1, d2, d3] => { results := [.lit (.bool true)], args := [d1, d2, d3] }
  | _ => none }
def storeFreshRow : OpenClaim := { program := "yteeaelemfalkbaa", sum := "473746dadd12c52b2f6616b93a95c57f31d8fed433028e613c70dbd7ebf52594", func := "sesame/sesamelaw07.StoreFresh", spec := "storeFresh", unfollowed := true, recurses := true, apart := false }
def StoreFreshSaid : Prop := storeFreshRow.holds Try.pinned (OpenSpec.ofChange storeFreshSpec)

/-- ITS FALSE NEIGHBOUR: 'it returns false'. Refute it at one input. -/
def storeFreshWrong : ChangeSpec := { name := "storeFresh", fn := fun _ => fun
  | [d1, d2, d3] => { results := [.lit (.bool false)], args := [d1, d2, d3] }
  | _ => none }
def StoreFreshWrongFalsely : Prop := storeFreshRow.holds Try.pinned (OpenSpec.ofChange storeFreshWrong)

/-- 'sesamelaw07.StoreAll': WHATEVER THE INPUT: true; the input reads as it did. -/
def storeAllSpec : ChangeSpec := { name := "storeAll", fn := fun _ => fun
  | [d1, d2, d3] => { results := [.lit (.bool true)], args := [d1, d2, d3] }
  | _ => none }
def storeAllRow : OpenClaim := { program := "yteeaelemfalkbaa", sum := "473746dadd12c52b2f6616b93a95c57f31d8fed433028e613c70dbd7ebf52594", func := "sesame/sesamelaw07.StoreAll", spec := "storeAll", unfollowed := true, recurses := true, apart := false }
def StoreAllSaid : Prop := storeAllRow.holds Try.pinned (OpenSpec.ofChange storeAllSpec)

/-- ITS FALSE NEIGHBOUR: 'it returns false'. Refute it at one input. -/
def storeAllWrong : ChangeSpec := { name := "storeAll", fn := fun _ => fun
  | [d1, d2, d3] => { results := [.lit (.bool false)], args := [d1, d2, d3] }
  | _ => none }
def StoreAllWrongFalsely : Prop := storeAllRow.holds Try.pinned (OpenSpec.ofChange storeAllWrong)

/- THE SECOND FORM. 'bulk': how many values and letters a reading holds, each counted each time it is reached (what is shared counts as often as it is met; a slice's spare places count too). A statement '..UptoSaid' is the law's where the arguments, and the package variables that the reading takes, are together of bulk at most 1048576: NARROWER than '..Said'. Prove '..Said' where nothing that the law and all that it calls make is longer than what came in: it says more and counts as full. Else prove '..UptoSaid'. A law counts once. -/
mutual
def uptoBulk {H : Type} : DataW H → Nat
  | .lit (.string bytes) => bytes.length + 1
  | .lit _ => 1
  | .nil => 1
  | .ptr d => uptoBulk d + 1
  | .slice elems spare => uptoBulkAll elems + uptoBulkAll spare + 1
  | .agg parts => uptoBulkAll parts + 1
  | .iface _ d => uptoBulk d + 1
  | .map entries => uptoBulkEntries entries + 1
  | .held _ => 1
def uptoBulkAll {H : Type} : List (DataW H) → Nat
  | [] => 0
  | d :: r => uptoBulk d + uptoBulkAll r
def uptoBulkEntries {H : Type} : List (Lit × DataW H) → Nat
  | [] => 0
  | x :: r => uptoBulkEntry x + uptoBulkEntries r
def uptoBulkEntry {H : Type} : Lit × DataW H → Nat
  | (.string bytes, d) => bytes.length + uptoBulk d + 1
  | (_, d) => uptoBulk d + 1
 end
def uptoSmall : (H : Type) → List (DataW H) → Bool := fun _ ds => decide (uptoBulkAll ds ≤ 1048576)
def OpenSpec.upto (s : _root_.Go.ChangeSpec) : _root_.Go.OpenSpec := { _root_.Go.OpenSpec.ofChange s with cond := some uptoSmall }

/-- 'sesamelaw23.ImageChecks', WHERE WHAT IT READS IS OF BULK AT MOST 1048576: true; the input reads as it did. -/
def imageChecksUptoRow : OpenClaim := { program := "yteeaelemfalkbaa", sum := "473746dadd12c52b2f6616b93a95c57f31d8fed433028e613c70dbd7ebf52594", func := "sesame/sesamelaw23.ImageChecks", spec := "imageChecks", unfollowed := true, recurses := true, apart := false, narrowed := true }
def ImageChecksUptoSaid : Prop := imageChecksUptoRow.holds Try.pinned (OpenSpec.upto imageChecksSpec)

/-- 'sesamelaw23.ImageParses', WHERE WHAT IT READS IS OF BULK AT MOST 1048576: true; the input reads as it did. -/
def imageParsesUptoRow : OpenClaim := { program := "yteeaelemfalkbaa", sum := "473746dadd12c52b2f6616b93a95c57f31d8fed433028e613c70dbd7ebf52594", func := "sesame/sesamelaw23.ImageParses", spec := "imageParses", unfollowed := true, recurses := true, apart := false, narrowed := true }
def ImageParsesUptoSaid : Prop := imageParsesUptoRow.holds Try.pinned (OpenSpec.upto imageParsesSpec)

/-- 'sesamelaw07.StoreLives', WHERE WHAT IT READS IS OF BULK AT MOST 1048576: true; the input reads as it did. -/
def storeLivesUptoRow : OpenClaim := { program := "yteeaelemfalkbaa", sum := "473746dadd12c52b2f6616b93a95c57f31d8fed433028e613c70dbd7ebf52594", func := "sesame/sesamelaw07.StoreLives", spec := "storeLives", unfollowed := true, recurses := true, apart := false, narrowed := true }
def StoreLivesUptoSaid : Prop := storeLivesUptoRow.holds Try.pinned (OpenSpec.upto storeLivesSpec)

/-- 'sesamelaw07.StoreFresh', WHERE WHAT IT READS IS OF BULK AT MOST 1048576: true; the input reads as it did. -/
def storeFreshUptoRow : OpenClaim := { program := "yteeaelemfalkbaa", sum := "473746dadd12c52b2f6616b93a95c57f31d8fed433028e613c70dbd7ebf52594", func := "sesame/sesamelaw07.StoreFresh", spec := "storeFresh", unfollowed := true, recurses := true, apart := false, narrowed := true }
def StoreFreshUptoSaid : Prop := storeFreshUptoRow.holds Try.pinned (OpenSpec.upto storeFreshSpec)

/-- 'sesamelaw07.StoreAll', WHERE WHAT IT READS IS OF BULK AT MOST 1048576: true; the input reads as it did. -/
def storeAllUptoRow : OpenClaim := { program := "yteeaelemfalkbaa", sum := "473746dadd12c52b2f6616b93a95c57f31d8fed433028e613c70dbd7ebf52594", func := "sesame/sesamelaw07.StoreAll", spec := "storeAll", unfollowed := true, recurses := true, apart := false, narrowed := true }
def StoreAllUptoSaid : Prop := storeAllUptoRow.holds Try.pinned (OpenSpec.upto storeAllSpec)

end Rows
end Go.Proofs.Yteeaelemfalkbaa
