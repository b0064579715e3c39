/-
  DERIVED. GIVEN WITH THE SEED: THE CARDS: each row of YtdliddjkacbggaaGreatDoorRows.lean that lists a variable, with what it lists TIED to the program's text (the seventh form; the later family's looks); each row that meets fmt, with fmt's text TOLD by the authors' own Lean function (tested against real Go, not proved from fmt's source: count such statements apart). THE CARD IS WHAT COUNTS. Prove the row's statement (the work); the ties are given (YtdliddjkacbggaaGreatDoorTie.lean); close each card by the builder's one call (the guide's Derived/Test/ToyasCard.lean, 'card_holds'). Laid BY PROGRAM, IN A SANDBOX (cutbox-door.mjs). By AI agents, Wed Nov 11 2026. No macro, syntax, notation, axiom, sorry.
-/
import Derived.Test.YtdliddjkacbggaaGreatDoorRows
import GoSem.ClaimSeven
namespace Go.Proofs.YtdliddjkacbggaaGreatDoor
namespace Rows

/-- THE TIED CARD OF 'selvagelaw3.WalAppends'. -/
def walAppendsCard : Claim7 := { stood := { row := walAppendsRow, standIns := [], harness := (true, "82594558ed92c88a76b593e56a9dfb313e44a5180c85392d97f935bc6344968e"), looks := true }, kinds := [], alts := [], laidByText := true, laidKinds := [.data, .pinned], laidTests := true, laidLooks := .later }
def WalAppendsCardSaid : Prop := Claim7.holds Tryz.pinned (.plain (OpenSpec.ofChange walAppendsSpec)) walAppendsCard

/-- THE TIED CARD OF 'selvagelaw3.WalCrashes'. -/
def walCrashesCard : Claim7 := { stood := { row := walCrashesRow, standIns := [], harness := (true, "82594558ed92c88a76b593e56a9dfb313e44a5180c85392d97f935bc6344968e"), looks := true }, kinds := [], alts := [], laidByText := true, laidKinds := [.data, .pinned], laidTests := true, laidLooks := .later }
def WalCrashesCardSaid : Prop := Claim7.holds Tryz.pinned (.plain (OpenSpec.ofChange walCrashesSpec)) walCrashesCard

/-- THE TIED CARD OF 'selvagelaw3.WalPlays'. -/
def walPlaysCard : Claim7 := { stood := { row := walPlaysRow, standIns := [], harness := (true, "82594558ed92c88a76b593e56a9dfb313e44a5180c85392d97f935bc6344968e"), looks := true }, kinds := [], alts := [], laidByText := true, laidKinds := [.data, .pinned], laidTests := true, laidLooks := .later }
def WalPlaysCardSaid : Prop := Claim7.holds Tryz.pinned (.plain (OpenSpec.ofChange walPlaysSpec)) walPlaysCard

/-- THE SECOND FORM's CARD OF 'selvagelaw3.WalAppends'. -/
def walAppendsUptoCard : Claim7 := { stood := { row := walAppendsUptoRow, standIns := [], harness := (true, "82594558ed92c88a76b593e56a9dfb313e44a5180c85392d97f935bc6344968e"), looks := true }, kinds := [], alts := [], laidByText := true, laidKinds := [.data, .pinned], laidTests := true, laidLooks := .later }
def WalAppendsUptoCardSaid : Prop := Claim7.holds Tryz.pinned (.plain (OpenSpec.upto walAppendsSpec)) walAppendsUptoCard

/-- THE SECOND FORM's CARD OF 'selvagelaw3.WalCrashes'. -/
def walCrashesUptoCard : Claim7 := { stood := { row := walCrashesUptoRow, standIns := [], harness := (true, "82594558ed92c88a76b593e56a9dfb313e44a5180c85392d97f935bc6344968e"), looks := true }, kinds := [], alts := [], laidByText := true, laidKinds := [.data, .pinned], laidTests := true, laidLooks := .later }
def WalCrashesUptoCardSaid : Prop := Claim7.holds Tryz.pinned (.plain (OpenSpec.upto walCrashesSpec)) walCrashesUptoCard

/-- THE SECOND FORM's CARD OF 'selvagelaw3.WalPlays'. -/
def walPlaysUptoCard : Claim7 := { stood := { row := walPlaysUptoRow, standIns := [], harness := (true, "82594558ed92c88a76b593e56a9dfb313e44a5180c85392d97f935bc6344968e"), looks := true }, kinds := [], alts := [], laidByText := true, laidKinds := [.data, .pinned], laidTests := true, laidLooks := .later }
def WalPlaysUptoCardSaid : Prop := Claim7.holds Tryz.pinned (.plain (OpenSpec.upto walPlaysSpec)) walPlaysUptoCard
end Rows
end Go.Proofs.YtdliddjkacbggaaGreatDoor
