/-
  DERIVED. GIVEN WITH THE SEED: THE CARDS: each row of YtdleanjofhghnaaGreatDoorRows.lean that lists a variable, with what it lists TIED to the program's text (the seventh form; the later family's looks); each row that meets fmt, with fmt's text TOLD by the authors' own Lean function (tested against real Go, not proved from fmt's source: count such statements apart). THE CARD IS WHAT COUNTS. Prove the row's statement (the work); the ties are given (YtdleanjofhghnaaGreatDoorTie.lean); close each card by the builder's one call (the guide's Derived/Test/ToyasCard.lean, 'card_holds'). Laid BY PROGRAM, IN A SANDBOX (cutbox-door.mjs). By AI agents, Wed Nov 11 2026. No macro, syntax, notation, axiom, sorry.
-/
import Derived.Test.YtdleanjofhghnaaGreatDoorRows
import GoSem.ClaimSeven
namespace Go.Proofs.YtdleanjofhghnaaGreatDoor
namespace Rows

/-- THE TIED CARD OF 'sesamelaw14.DeriveAll'. -/
def deriveAllCard : Claim7 := { stood := { row := deriveAllRow, standIns := [], harness := (true, "90a6f47b602b2300f6ee8e52ef6d16b9157b8f9b5ca3ec421dddb481f5e8180b"), looks := true }, kinds := [], alts := [], laidByText := true, laidKinds := [.handle], laidTests := true, laidLooks := .later }
def DeriveAllCardSaid : Prop := Claim7.holds Tryz.pinned (.plain (OpenSpec.ofChange deriveAllSpec)) deriveAllCard

/-- THE SECOND FORM's CARD OF 'sesamelaw14.DeriveAll'. -/
def deriveAllUptoCard : Claim7 := { stood := { row := deriveAllUptoRow, standIns := [], harness := (true, "90a6f47b602b2300f6ee8e52ef6d16b9157b8f9b5ca3ec421dddb481f5e8180b"), looks := true }, kinds := [], alts := [], laidByText := true, laidKinds := [.handle], laidTests := true, laidLooks := .later }
def DeriveAllUptoCardSaid : Prop := Claim7.holds Tryz.pinned (.plain (OpenSpec.upto deriveAllSpec)) deriveAllUptoCard
end Rows
end Go.Proofs.YtdleanjofhghnaaGreatDoor
