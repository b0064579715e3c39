/-
  DERIVED. GIVEN WITH THE SEED: THE CARDS: each row of YtdliddjkacbggaaDoorRows.lean that lists a variable, with what it lists TIED to the program's text (the seventh form; the later family's looks); each row that meets fmt, with fmt's text TOLD by the authors' own Lean function (tested against real Go, not proved from fmt's source: count such statements apart). THE CARD IS WHAT COUNTS. Prove the row's statement (the work); the ties are given (YtdliddjkacbggaaDoorTie.lean); close each card by the builder's one call (the guide's Derived/Test/ToyasCard.lean, 'card_holds'). Laid BY PROGRAM, IN A SANDBOX (cutbox-door.mjs). By AI agents, Wed Nov 11 2026. No macro, syntax, notation, axiom, sorry.
-/
import Derived.Test.YtdliddjkacbggaaDoorRows
import GoSem.ClaimSeven
namespace Go.Proofs.YtdliddjkacbggaaDoor
namespace Rows

/-- THE TIED CARD OF 'selvagelaw3.WalBytes'. -/
def walBytesCard : Claim7 := { stood := { row := walBytesRow, standIns := [], harness := (true, "9071729b5f1b6f6198c29448660deb73f81bbb965c3c0ab45ff9352fd2745b6a"), looks := true }, kinds := [], alts := [], laidByText := true, laidKinds := [.data, .pinned], laidTests := true, laidLooks := .later }
def WalBytesCardSaid : Prop := Claim7.holds Tryd.pinned (.plain (OpenSpec.ofChange walBytesSpec)) walBytesCard

/-- THE TIED CARD OF 'selvagelaw3.WalTurns'. -/
def walTurnsCard : Claim7 := { stood := { row := walTurnsRow, standIns := [], harness := (true, "9071729b5f1b6f6198c29448660deb73f81bbb965c3c0ab45ff9352fd2745b6a"), looks := true }, kinds := [], alts := [], laidByText := true, laidKinds := [.data, .pinned], laidTests := true, laidLooks := .later }
def WalTurnsCardSaid : Prop := Claim7.holds Tryd.pinned (.plain (OpenSpec.ofChange walTurnsSpec)) walTurnsCard

/-- THE TIED CARD OF 'selvagelaw3.WalFull'. -/
def walFullCard : Claim7 := { stood := { row := walFullRow, standIns := [], harness := (true, "9071729b5f1b6f6198c29448660deb73f81bbb965c3c0ab45ff9352fd2745b6a"), looks := true }, kinds := [], alts := [], laidByText := true, laidKinds := [.data, .pinned], laidTests := true, laidLooks := .later }
def WalFullCardSaid : Prop := Claim7.holds Tryd.pinned (.plain (OpenSpec.ofChange walFullSpec)) walFullCard

/-- THE TIED CARD OF 'selvagelaw3.WalBack'. -/
def walBackCard : Claim7 := { stood := { row := walBackRow, standIns := [], harness := (true, "9071729b5f1b6f6198c29448660deb73f81bbb965c3c0ab45ff9352fd2745b6a"), looks := true }, kinds := [], alts := [], laidByText := true, laidKinds := [.data, .pinned], laidTests := true, laidLooks := .later }
def WalBackCardSaid : Prop := Claim7.holds Tryd.pinned (.plain (OpenSpec.ofChange walBackSpec)) walBackCard

/-- THE SECOND FORM's CARD OF 'selvagelaw3.WalBytes'. -/
def walBytesUptoCard : Claim7 := { stood := { row := walBytesUptoRow, standIns := [], harness := (true, "9071729b5f1b6f6198c29448660deb73f81bbb965c3c0ab45ff9352fd2745b6a"), looks := true }, kinds := [], alts := [], laidByText := true, laidKinds := [.data, .pinned], laidTests := true, laidLooks := .later }
def WalBytesUptoCardSaid : Prop := Claim7.holds Tryd.pinned (.plain (OpenSpec.upto walBytesSpec)) walBytesUptoCard

/-- THE SECOND FORM's CARD OF 'selvagelaw3.WalTurns'. -/
def walTurnsUptoCard : Claim7 := { stood := { row := walTurnsUptoRow, standIns := [], harness := (true, "9071729b5f1b6f6198c29448660deb73f81bbb965c3c0ab45ff9352fd2745b6a"), looks := true }, kinds := [], alts := [], laidByText := true, laidKinds := [.data, .pinned], laidTests := true, laidLooks := .later }
def WalTurnsUptoCardSaid : Prop := Claim7.holds Tryd.pinned (.plain (OpenSpec.upto walTurnsSpec)) walTurnsUptoCard

/-- THE SECOND FORM's CARD OF 'selvagelaw3.WalFull'. -/
def walFullUptoCard : Claim7 := { stood := { row := walFullUptoRow, standIns := [], harness := (true, "9071729b5f1b6f6198c29448660deb73f81bbb965c3c0ab45ff9352fd2745b6a"), looks := true }, kinds := [], alts := [], laidByText := true, laidKinds := [.data, .pinned], laidTests := true, laidLooks := .later }
def WalFullUptoCardSaid : Prop := Claim7.holds Tryd.pinned (.plain (OpenSpec.upto walFullSpec)) walFullUptoCard

/-- THE SECOND FORM's CARD OF 'selvagelaw3.WalBack'. -/
def walBackUptoCard : Claim7 := { stood := { row := walBackUptoRow, standIns := [], harness := (true, "9071729b5f1b6f6198c29448660deb73f81bbb965c3c0ab45ff9352fd2745b6a"), looks := true }, kinds := [], alts := [], laidByText := true, laidKinds := [.data, .pinned], laidTests := true, laidLooks := .later }
def WalBackUptoCardSaid : Prop := Claim7.holds Tryd.pinned (.plain (OpenSpec.upto walBackSpec)) walBackUptoCard
end Rows
end Go.Proofs.YtdliddjkacbggaaDoor
