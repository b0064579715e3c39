/-
  DERIVED. GIVEN WITH THE SEED: THE CARDS: each row of YtfbfjhppppoilaaGreatDoorRows.lean that lists a variable, with what it lists TIED to the program's text (the seventh form; the later family's looks); each row that meets fmt, with fmt's text TOLD by the authors' own Lean function (tested against real Go, not proved from fmt's source: count such statements apart). THE CARD IS WHAT COUNTS. Prove the row's statement (the work); the ties are given (YtfbfjhppppoilaaGreatDoorTie.lean); close each card by the builder's one call (the guide's Derived/Test/ToyasCard.lean, 'card_holds'). Laid BY PROGRAM, IN A SANDBOX (cutbox-door.mjs). By AI agents, Wed Nov 11 2026. No macro, syntax, notation, axiom, sorry.
-/
import Derived.Test.YtfbfjhppppoilaaGreatDoorRows
import GoSem.ClaimSeven
namespace Go.Proofs.YtfbfjhppppoilaaGreatDoor
namespace Rows

/-- THE TIED CARD OF 'selvagelaw2.SimfsPlays'. -/
def simfsPlaysCard : Claim7 := { stood := { row := simfsPlaysRow, standIns := [], harness := (true, "4521869e8e984adf712006bbbc9c04e419bfd0c459391035edd7affef9ad6bf4"), looks := true }, kinds := [], alts := [], laidByText := true, laidKinds := [.data, .pinned], laidTests := true, laidLooks := .later }
def SimfsPlaysCardSaid : Prop := Claim7.holds Tryz.pinned (.plain (OpenSpec.ofChange simfsPlaysSpec)) simfsPlaysCard

/-- THE SECOND FORM's CARD OF 'selvagelaw2.SimfsPlays'. -/
def simfsPlaysUptoCard : Claim7 := { stood := { row := simfsPlaysUptoRow, standIns := [], harness := (true, "4521869e8e984adf712006bbbc9c04e419bfd0c459391035edd7affef9ad6bf4"), looks := true }, kinds := [], alts := [], laidByText := true, laidKinds := [.data, .pinned], laidTests := true, laidLooks := .later }
def SimfsPlaysUptoCardSaid : Prop := Claim7.holds Tryz.pinned (.plain (OpenSpec.upto simfsPlaysSpec)) simfsPlaysUptoCard
end Rows
end Go.Proofs.YtfbfjhppppoilaaGreatDoor
