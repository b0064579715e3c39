/-
  DERIVED. GIVEN WITH THE SEED: THE CARDS: each row of YtfbfjhppppoilaaDoorRows.lean that lists a variable, with what it lists TIED to the program's text (the seventh form; the later family's looks); each row that meets fmt, with fmt's text TOLD by the authors' own Lean function (tested against real Go, not proved from fmt's source: count such statements apart). THE CARD IS WHAT COUNTS. Prove the row's statement (the work); the ties are given (YtfbfjhppppoilaaDoorTie.lean); close each card by the builder's one call (the guide's Derived/Test/ToyasCard.lean, 'card_holds'). Laid BY PROGRAM, IN A SANDBOX (cutbox-door.mjs). By AI agents, Wed Nov 11 2026. No macro, syntax, notation, axiom, sorry.
-/
import Derived.Test.YtfbfjhppppoilaaDoorRows
import GoSem.ClaimSeven
namespace Go.Proofs.YtfbfjhppppoilaaDoor
namespace Rows

/-- THE TIED CARD OF 'selvagelaw2.SimfsNames'. -/
def simfsNamesCard : Claim7 := { stood := { row := simfsNamesRow, standIns := [], harness := (true, "33e538c409ba066bfb195c9c69a4a244a22d32615f6b8020f3909ac0a046a655"), looks := true }, kinds := [], alts := [], laidByText := true, laidKinds := [.data, .pinned], laidTests := true, laidLooks := .later }
def SimfsNamesCardSaid : Prop := Claim7.holds Tryd.pinned (.plain (OpenSpec.ofChange simfsNamesSpec)) simfsNamesCard

/-- THE TIED CARD OF 'selvagelaw2.SimfsOwn'. -/
def simfsOwnCard : Claim7 := { stood := { row := simfsOwnRow, standIns := [], harness := (true, "33e538c409ba066bfb195c9c69a4a244a22d32615f6b8020f3909ac0a046a655"), looks := true }, kinds := [], alts := [], laidByText := true, laidKinds := [.data, .pinned], laidTests := true, laidLooks := .later }
def SimfsOwnCardSaid : Prop := Claim7.holds Tryd.pinned (.plain (OpenSpec.ofChange simfsOwnSpec)) simfsOwnCard

/-- THE TIED CARD OF 'selvagelaw2.SimfsFull'. -/
def simfsFullCard : Claim7 := { stood := { row := simfsFullRow, standIns := [], harness := (true, "33e538c409ba066bfb195c9c69a4a244a22d32615f6b8020f3909ac0a046a655"), looks := true }, kinds := [], alts := [], laidByText := true, laidKinds := [.data, .pinned], laidTests := true, laidLooks := .later }
def SimfsFullCardSaid : Prop := Claim7.holds Tryd.pinned (.plain (OpenSpec.ofChange simfsFullSpec)) simfsFullCard

/-- THE TIED CARD OF 'selvagelaw2.SimfsTorn'. -/
def simfsTornCard : Claim7 := { stood := { row := simfsTornRow, standIns := [], harness := (true, "33e538c409ba066bfb195c9c69a4a244a22d32615f6b8020f3909ac0a046a655"), looks := true }, kinds := [], alts := [], laidByText := true, laidKinds := [.data, .pinned], laidTests := true, laidLooks := .later }
def SimfsTornCardSaid : Prop := Claim7.holds Tryd.pinned (.plain (OpenSpec.ofChange simfsTornSpec)) simfsTornCard

/-- THE TIED CARD OF 'selvagelaw2.SimfsOrder'. -/
def simfsOrderCard : Claim7 := { stood := { row := simfsOrderRow, standIns := [], harness := (true, "33e538c409ba066bfb195c9c69a4a244a22d32615f6b8020f3909ac0a046a655"), looks := true }, kinds := [], alts := [], laidByText := true, laidKinds := [.data, .pinned], laidTests := true, laidLooks := .later }
def SimfsOrderCardSaid : Prop := Claim7.holds Tryd.pinned (.plain (OpenSpec.ofChange simfsOrderSpec)) simfsOrderCard

/-- THE TIED CARD OF 'selvagelaw2.SimfsPublish'. -/
def simfsPublishCard : Claim7 := { stood := { row := simfsPublishRow, standIns := [], harness := (true, "33e538c409ba066bfb195c9c69a4a244a22d32615f6b8020f3909ac0a046a655"), looks := true }, kinds := [], alts := [], laidByText := true, laidKinds := [.data, .pinned], laidTests := true, laidLooks := .later }
def SimfsPublishCardSaid : Prop := Claim7.holds Tryd.pinned (.plain (OpenSpec.ofChange simfsPublishSpec)) simfsPublishCard

/-- THE TIED CARD OF 'selvagelaw2.SimfsStays'. -/
def simfsStaysCard : Claim7 := { stood := { row := simfsStaysRow, standIns := [], harness := (true, "33e538c409ba066bfb195c9c69a4a244a22d32615f6b8020f3909ac0a046a655"), looks := true }, kinds := [], alts := [], laidByText := true, laidKinds := [.data, .pinned], laidTests := true, laidLooks := .later }
def SimfsStaysCardSaid : Prop := Claim7.holds Tryd.pinned (.plain (OpenSpec.ofChange simfsStaysSpec)) simfsStaysCard

/-- THE TIED CARD OF 'selvagelaw2.SimfsDead'. -/
def simfsDeadCard : Claim7 := { stood := { row := simfsDeadRow, standIns := [], harness := (true, "33e538c409ba066bfb195c9c69a4a244a22d32615f6b8020f3909ac0a046a655"), looks := true }, kinds := [], alts := [], laidByText := true, laidKinds := [.data, .pinned], laidTests := true, laidLooks := .later }
def SimfsDeadCardSaid : Prop := Claim7.holds Tryd.pinned (.plain (OpenSpec.ofChange simfsDeadSpec)) simfsDeadCard

/-- THE SECOND FORM's CARD OF 'selvagelaw2.SimfsNames'. -/
def simfsNamesUptoCard : Claim7 := { stood := { row := simfsNamesUptoRow, standIns := [], harness := (true, "33e538c409ba066bfb195c9c69a4a244a22d32615f6b8020f3909ac0a046a655"), looks := true }, kinds := [], alts := [], laidByText := true, laidKinds := [.data, .pinned], laidTests := true, laidLooks := .later }
def SimfsNamesUptoCardSaid : Prop := Claim7.holds Tryd.pinned (.plain (OpenSpec.upto simfsNamesSpec)) simfsNamesUptoCard

/-- THE SECOND FORM's CARD OF 'selvagelaw2.SimfsOwn'. -/
def simfsOwnUptoCard : Claim7 := { stood := { row := simfsOwnUptoRow, standIns := [], harness := (true, "33e538c409ba066bfb195c9c69a4a244a22d32615f6b8020f3909ac0a046a655"), looks := true }, kinds := [], alts := [], laidByText := true, laidKinds := [.data, .pinned], laidTests := true, laidLooks := .later }
def SimfsOwnUptoCardSaid : Prop := Claim7.holds Tryd.pinned (.plain (OpenSpec.upto simfsOwnSpec)) simfsOwnUptoCard

/-- THE SECOND FORM's CARD OF 'selvagelaw2.SimfsFull'. -/
def simfsFullUptoCard : Claim7 := { stood := { row := simfsFullUptoRow, standIns := [], harness := (true, "33e538c409ba066bfb195c9c69a4a244a22d32615f6b8020f3909ac0a046a655"), looks := true }, kinds := [], alts := [], laidByText := true, laidKinds := [.data, .pinned], laidTests := true, laidLooks := .later }
def SimfsFullUptoCardSaid : Prop := Claim7.holds Tryd.pinned (.plain (OpenSpec.upto simfsFullSpec)) simfsFullUptoCard

/-- THE SECOND FORM's CARD OF 'selvagelaw2.SimfsTorn'. -/
def simfsTornUptoCard : Claim7 := { stood := { row := simfsTornUptoRow, standIns := [], harness := (true, "33e538c409ba066bfb195c9c69a4a244a22d32615f6b8020f3909ac0a046a655"), looks := true }, kinds := [], alts := [], laidByText := true, laidKinds := [.data, .pinned], laidTests := true, laidLooks := .later }
def SimfsTornUptoCardSaid : Prop := Claim7.holds Tryd.pinned (.plain (OpenSpec.upto simfsTornSpec)) simfsTornUptoCard

/-- THE SECOND FORM's CARD OF 'selvagelaw2.SimfsOrder'. -/
def simfsOrderUptoCard : Claim7 := { stood := { row := simfsOrderUptoRow, standIns := [], harness := (true, "33e538c409ba066bfb195c9c69a4a244a22d32615f6b8020f3909ac0a046a655"), looks := true }, kinds := [], alts := [], laidByText := true, laidKinds := [.data, .pinned], laidTests := true, laidLooks := .later }
def SimfsOrderUptoCardSaid : Prop := Claim7.holds Tryd.pinned (.plain (OpenSpec.upto simfsOrderSpec)) simfsOrderUptoCard

/-- THE SECOND FORM's CARD OF 'selvagelaw2.SimfsPublish'. -/
def simfsPublishUptoCard : Claim7 := { stood := { row := simfsPublishUptoRow, standIns := [], harness := (true, "33e538c409ba066bfb195c9c69a4a244a22d32615f6b8020f3909ac0a046a655"), looks := true }, kinds := [], alts := [], laidByText := true, laidKinds := [.data, .pinned], laidTests := true, laidLooks := .later }
def SimfsPublishUptoCardSaid : Prop := Claim7.holds Tryd.pinned (.plain (OpenSpec.upto simfsPublishSpec)) simfsPublishUptoCard

/-- THE SECOND FORM's CARD OF 'selvagelaw2.SimfsStays'. -/
def simfsStaysUptoCard : Claim7 := { stood := { row := simfsStaysUptoRow, standIns := [], harness := (true, "33e538c409ba066bfb195c9c69a4a244a22d32615f6b8020f3909ac0a046a655"), looks := true }, kinds := [], alts := [], laidByText := true, laidKinds := [.data, .pinned], laidTests := true, laidLooks := .later }
def SimfsStaysUptoCardSaid : Prop := Claim7.holds Tryd.pinned (.plain (OpenSpec.upto simfsStaysSpec)) simfsStaysUptoCard

/-- THE SECOND FORM's CARD OF 'selvagelaw2.SimfsDead'. -/
def simfsDeadUptoCard : Claim7 := { stood := { row := simfsDeadUptoRow, standIns := [], harness := (true, "33e538c409ba066bfb195c9c69a4a244a22d32615f6b8020f3909ac0a046a655"), looks := true }, kinds := [], alts := [], laidByText := true, laidKinds := [.data, .pinned], laidTests := true, laidLooks := .later }
def SimfsDeadUptoCardSaid : Prop := Claim7.holds Tryd.pinned (.plain (OpenSpec.upto simfsDeadSpec)) simfsDeadUptoCard
end Rows
end Go.Proofs.YtfbfjhppppoilaaDoor
