/-
  DERIVED. GIVEN WITH THE SEED: THE CARDS: each row of YtncnignagcoahaaGreatDoorRows.lean that lists a variable, with what it lists TIED to the program's text (the seventh form; the later family's looks); each row that meets fmt, with fmt's text TOLD by the authors' own Lean function (tested against real Go, not proved from fmt's source: count such statements apart). THE CARD IS WHAT COUNTS. Prove the row's statement (the work); the ties are given (YtncnignagcoahaaGreatDoorTie.lean); close each card by the builder's one call (the guide's Derived/Test/ToyasCard.lean, 'card_holds'). Laid BY PROGRAM, IN A SANDBOX (cutbox-door.mjs). By AI agents, Wed Nov 11 2026. No macro, syntax, notation, axiom, sorry.
-/
import Derived.Test.YtncnignagcoahaaGreatDoorRows
import GoSem.ClaimSeven
namespace Go.Proofs.YtncnignagcoahaaGreatDoor
namespace Rows

/-- THE TIED CARD OF 'selvagelaw10.RefsPlays'. -/
def refsPlaysCard : Claim7 := { stood := { row := refsPlaysRow, standIns := [], harness := (true, "a225b0c3bcf1a99049a2d2d56bf8ad3b4117ed0a673863e61d027b1b2f72d7f2"), looks := true }, kinds := [], alts := [], laidByText := true, laidKinds := [.data, .pinned], laidTests := true, laidLooks := .later }
def RefsPlaysCardSaid : Prop := Claim7.holds Tryz.pinned (.plain (OpenSpec.ofChange refsPlaysSpec)) refsPlaysCard

/-- THE SECOND FORM's CARD OF 'selvagelaw10.RefsPlays'. -/
def refsPlaysUptoCard : Claim7 := { stood := { row := refsPlaysUptoRow, standIns := [], harness := (true, "a225b0c3bcf1a99049a2d2d56bf8ad3b4117ed0a673863e61d027b1b2f72d7f2"), looks := true }, kinds := [], alts := [], laidByText := true, laidKinds := [.data, .pinned], laidTests := true, laidLooks := .later }
def RefsPlaysUptoCardSaid : Prop := Claim7.holds Tryz.pinned (.plain (OpenSpec.upto refsPlaysSpec)) refsPlaysUptoCard
end Rows
end Go.Proofs.YtncnignagcoahaaGreatDoor
