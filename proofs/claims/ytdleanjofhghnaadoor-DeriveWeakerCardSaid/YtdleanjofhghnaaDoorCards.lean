/-
  DERIVED. GIVEN WITH THE SEED: THE CARDS: each row of YtdleanjofhghnaaDoorRows.lean that lists a variable, with what it lists TIED to the program's text (the seventh form; the later family's looks); each row that meets fmt, with fmt's text TOLD by the authors' own Lean function (tested against real Go, not proved from fmt's source: count such statements apart). THE CARD IS WHAT COUNTS. Prove the row's statement (the work); the ties are given (YtdleanjofhghnaaDoorTie.lean); close each card by the builder's one call (the guide's Derived/Test/ToyasCard.lean, 'card_holds'). Laid BY PROGRAM, IN A SANDBOX (cutbox-door.mjs). By AI agents, Wed Nov 11 2026. No macro, syntax, notation, axiom, sorry.
-/
import Derived.Test.YtdleanjofhghnaaDoorRows
import GoSem.ClaimSeven
namespace Go.Proofs.YtdleanjofhghnaaDoor
namespace Rows

/-- THE TIED CARD OF 'sesamelaw14.DeriveTwins'. -/
def deriveTwinsCard : Claim7 := { stood := { row := deriveTwinsRow, standIns := [], harness := (true, "f045fa5fda008a9b7d21015d465c8aa5c38e8d7cb143c446c550db0e6603a4b2"), looks := true }, kinds := [], alts := [], laidByText := true, laidKinds := [.handle], laidTests := true, laidLooks := .later }
def DeriveTwinsCardSaid : Prop := Claim7.holds Tryd.pinned (.plain (OpenSpec.ofChange deriveTwinsSpec)) deriveTwinsCard

/-- THE TIED CARD OF 'sesamelaw14.DeriveWeaker'. -/
def deriveWeakerCard : Claim7 := { stood := { row := deriveWeakerRow, standIns := [], harness := (true, "f045fa5fda008a9b7d21015d465c8aa5c38e8d7cb143c446c550db0e6603a4b2"), looks := true }, kinds := [], alts := [], laidByText := true, laidKinds := [.handle], laidTests := true, laidLooks := .later }
def DeriveWeakerCardSaid : Prop := Claim7.holds Tryd.pinned (.plain (OpenSpec.ofChange deriveWeakerSpec)) deriveWeakerCard

/-- THE SECOND FORM's CARD OF 'sesamelaw14.DeriveTwins'. -/
def deriveTwinsUptoCard : Claim7 := { stood := { row := deriveTwinsUptoRow, standIns := [], harness := (true, "f045fa5fda008a9b7d21015d465c8aa5c38e8d7cb143c446c550db0e6603a4b2"), looks := true }, kinds := [], alts := [], laidByText := true, laidKinds := [.handle], laidTests := true, laidLooks := .later }
def DeriveTwinsUptoCardSaid : Prop := Claim7.holds Tryd.pinned (.plain (OpenSpec.upto deriveTwinsSpec)) deriveTwinsUptoCard

/-- THE SECOND FORM's CARD OF 'sesamelaw14.DeriveWeaker'. -/
def deriveWeakerUptoCard : Claim7 := { stood := { row := deriveWeakerUptoRow, standIns := [], harness := (true, "f045fa5fda008a9b7d21015d465c8aa5c38e8d7cb143c446c550db0e6603a4b2"), looks := true }, kinds := [], alts := [], laidByText := true, laidKinds := [.handle], laidTests := true, laidLooks := .later }
def DeriveWeakerUptoCardSaid : Prop := Claim7.holds Tryd.pinned (.plain (OpenSpec.upto deriveWeakerSpec)) deriveWeakerUptoCard
end Rows
end Go.Proofs.YtdleanjofhghnaaDoor
