/-
  DERIVED. GIVEN WITH THE SEED: THE CARDS: each row of YtfjmpninmdjcaaaGreatDoorRows.lean that lists a variable, with what it lists TIED to the program's text (the seventh form; the later family's looks); each row that meets fmt, with fmt's text TOLD by the authors' own Lean function (tested against real Go, not proved from fmt's source: count such statements apart). THE CARD IS WHAT COUNTS. Prove the row's statement (the work); the ties are given (YtfjmpninmdjcaaaGreatDoorTie.lean); close each card by the builder's one call (the guide's Derived/Test/ToyasCard.lean, 'card_holds'). Laid BY PROGRAM, IN A SANDBOX (cutbox-door.mjs). By AI agents, Wed Nov 11 2026. No macro, syntax, notation, axiom, sorry.
-/
import Derived.Test.YtfjmpninmdjcaaaGreatDoorRows
import GoSem.ClaimSeven
namespace Go.Proofs.YtfjmpninmdjcaaaGreatDoor
namespace Rows

/-- THE TIED CARD OF 'selvagelaw10.RefsTogether'. -/
def refsTogetherCard : Claim7 := { stood := { row := refsTogetherRow, standIns := [], harness := (true, "76b7d0fa07e0a572cbec332872821c98ac4dba70b81b7f883b378cee10a8334c"), looks := true }, kinds := [], alts := [], laidByText := true, laidKinds := [.data, .pinned], laidTests := true, laidLooks := .later }
def RefsTogetherCardSaid : Prop := Claim7.holds Tryz.pinned (.plain (OpenSpec.ofChange refsTogetherSpec)) refsTogetherCard

/-- THE TIED CARD OF 'selvagelaw10.RefsLogs'. -/
def refsLogsCard : Claim7 := { stood := { row := refsLogsRow, standIns := [], harness := (true, "76b7d0fa07e0a572cbec332872821c98ac4dba70b81b7f883b378cee10a8334c"), looks := true }, kinds := [], alts := [], laidByText := true, laidKinds := [.data, .pinned], laidTests := true, laidLooks := .later }
def RefsLogsCardSaid : Prop := Claim7.holds Tryz.pinned (.plain (OpenSpec.ofChange refsLogsSpec)) refsLogsCard

/-- THE TIED CARD OF 'selvagelaw10.RefsMany'. -/
def refsManyCard : Claim7 := { stood := { row := refsManyRow, standIns := [], harness := (true, "76b7d0fa07e0a572cbec332872821c98ac4dba70b81b7f883b378cee10a8334c"), looks := true }, kinds := [], alts := [], laidByText := true, laidKinds := [.data, .pinned], laidTests := true, laidLooks := .later }
def RefsManyCardSaid : Prop := Claim7.holds Tryz.pinned (.plain (OpenSpec.ofChange refsManySpec)) refsManyCard

/-- THE TIED CARD OF 'selvagelaw10.RefsOrder'. -/
def refsOrderCard : Claim7 := { stood := { row := refsOrderRow, standIns := [], harness := (true, "76b7d0fa07e0a572cbec332872821c98ac4dba70b81b7f883b378cee10a8334c"), looks := true }, kinds := [], alts := [], laidByText := true, laidKinds := [.data, .pinned], laidTests := true, laidLooks := .later }
def RefsOrderCardSaid : Prop := Claim7.holds Tryz.pinned (.plain (OpenSpec.ofChange refsOrderSpec)) refsOrderCard

/-- THE TIED CARD OF 'selvagelaw10.RefsChecks'. -/
def refsChecksCard : Claim7 := { stood := { row := refsChecksRow, standIns := [], harness := (true, "76b7d0fa07e0a572cbec332872821c98ac4dba70b81b7f883b378cee10a8334c"), looks := true }, kinds := [], alts := [], laidByText := true, laidKinds := [.data, .pinned], laidTests := true, laidLooks := .later }
def RefsChecksCardSaid : Prop := Claim7.holds Tryz.pinned (.plain (OpenSpec.ofChange refsChecksSpec)) refsChecksCard

/-- THE TIED CARD OF 'selvagelaw10.RefsSame'. -/
def refsSameCard : Claim7 := { stood := { row := refsSameRow, standIns := [], harness := (true, "76b7d0fa07e0a572cbec332872821c98ac4dba70b81b7f883b378cee10a8334c"), looks := true }, kinds := [], alts := [], laidByText := true, laidKinds := [.data, .pinned], laidTests := true, laidLooks := .later }
def RefsSameCardSaid : Prop := Claim7.holds Tryz.pinned (.plain (OpenSpec.ofChange refsSameSpec)) refsSameCard

/-- THE TIED CARD OF 'selvagelaw10.RefsPlays'. -/
def refsPlaysCard : Claim7 := { stood := { row := refsPlaysRow, standIns := [], harness := (true, "76b7d0fa07e0a572cbec332872821c98ac4dba70b81b7f883b378cee10a8334c"), looks := true }, kinds := [], alts := [], laidByText := true, laidKinds := [.data, .pinned], laidTests := true, laidLooks := .later }
def RefsPlaysCardSaid : Prop := Claim7.holds Tryz.pinned (.plain (OpenSpec.ofChange refsPlaysSpec)) refsPlaysCard

/-- THE TIED CARD OF 'selvagelaw10.RefsCrashes'. -/
def refsCrashesCard : Claim7 := { stood := { row := refsCrashesRow, standIns := [], harness := (true, "76b7d0fa07e0a572cbec332872821c98ac4dba70b81b7f883b378cee10a8334c"), looks := true }, kinds := [], alts := [], laidByText := true, laidKinds := [.data, .pinned], laidTests := true, laidLooks := .later }
def RefsCrashesCardSaid : Prop := Claim7.holds Tryz.pinned (.plain (OpenSpec.ofChange refsCrashesSpec)) refsCrashesCard

/-- THE SECOND FORM's CARD OF 'selvagelaw10.RefsTogether'. -/
def refsTogetherUptoCard : Claim7 := { stood := { row := refsTogetherUptoRow, standIns := [], harness := (true, "76b7d0fa07e0a572cbec332872821c98ac4dba70b81b7f883b378cee10a8334c"), looks := true }, kinds := [], alts := [], laidByText := true, laidKinds := [.data, .pinned], laidTests := true, laidLooks := .later }
def RefsTogetherUptoCardSaid : Prop := Claim7.holds Tryz.pinned (.plain (OpenSpec.upto refsTogetherSpec)) refsTogetherUptoCard

/-- THE SECOND FORM's CARD OF 'selvagelaw10.RefsLogs'. -/
def refsLogsUptoCard : Claim7 := { stood := { row := refsLogsUptoRow, standIns := [], harness := (true, "76b7d0fa07e0a572cbec332872821c98ac4dba70b81b7f883b378cee10a8334c"), looks := true }, kinds := [], alts := [], laidByText := true, laidKinds := [.data, .pinned], laidTests := true, laidLooks := .later }
def RefsLogsUptoCardSaid : Prop := Claim7.holds Tryz.pinned (.plain (OpenSpec.upto refsLogsSpec)) refsLogsUptoCard

/-- THE SECOND FORM's CARD OF 'selvagelaw10.RefsMany'. -/
def refsManyUptoCard : Claim7 := { stood := { row := refsManyUptoRow, standIns := [], harness := (true, "76b7d0fa07e0a572cbec332872821c98ac4dba70b81b7f883b378cee10a8334c"), looks := true }, kinds := [], alts := [], laidByText := true, laidKinds := [.data, .pinned], laidTests := true, laidLooks := .later }
def RefsManyUptoCardSaid : Prop := Claim7.holds Tryz.pinned (.plain (OpenSpec.upto refsManySpec)) refsManyUptoCard

/-- THE SECOND FORM's CARD OF 'selvagelaw10.RefsOrder'. -/
def refsOrderUptoCard : Claim7 := { stood := { row := refsOrderUptoRow, standIns := [], harness := (true, "76b7d0fa07e0a572cbec332872821c98ac4dba70b81b7f883b378cee10a8334c"), looks := true }, kinds := [], alts := [], laidByText := true, laidKinds := [.data, .pinned], laidTests := true, laidLooks := .later }
def RefsOrderUptoCardSaid : Prop := Claim7.holds Tryz.pinned (.plain (OpenSpec.upto refsOrderSpec)) refsOrderUptoCard

/-- THE SECOND FORM's CARD OF 'selvagelaw10.RefsChecks'. -/
def refsChecksUptoCard : Claim7 := { stood := { row := refsChecksUptoRow, standIns := [], harness := (true, "76b7d0fa07e0a572cbec332872821c98ac4dba70b81b7f883b378cee10a8334c"), looks := true }, kinds := [], alts := [], laidByText := true, laidKinds := [.data, .pinned], laidTests := true, laidLooks := .later }
def RefsChecksUptoCardSaid : Prop := Claim7.holds Tryz.pinned (.plain (OpenSpec.upto refsChecksSpec)) refsChecksUptoCard

/-- THE SECOND FORM's CARD OF 'selvagelaw10.RefsSame'. -/
def refsSameUptoCard : Claim7 := { stood := { row := refsSameUptoRow, standIns := [], harness := (true, "76b7d0fa07e0a572cbec332872821c98ac4dba70b81b7f883b378cee10a8334c"), looks := true }, kinds := [], alts := [], laidByText := true, laidKinds := [.data, .pinned], laidTests := true, laidLooks := .later }
def RefsSameUptoCardSaid : Prop := Claim7.holds Tryz.pinned (.plain (OpenSpec.upto refsSameSpec)) refsSameUptoCard

/-- THE SECOND FORM's CARD OF 'selvagelaw10.RefsPlays'. -/
def refsPlaysUptoCard : Claim7 := { stood := { row := refsPlaysUptoRow, standIns := [], harness := (true, "76b7d0fa07e0a572cbec332872821c98ac4dba70b81b7f883b378cee10a8334c"), looks := true }, kinds := [], alts := [], laidByText := true, laidKinds := [.data, .pinned], laidTests := true, laidLooks := .later }
def RefsPlaysUptoCardSaid : Prop := Claim7.holds Tryz.pinned (.plain (OpenSpec.upto refsPlaysSpec)) refsPlaysUptoCard

/-- THE SECOND FORM's CARD OF 'selvagelaw10.RefsCrashes'. -/
def refsCrashesUptoCard : Claim7 := { stood := { row := refsCrashesUptoRow, standIns := [], harness := (true, "76b7d0fa07e0a572cbec332872821c98ac4dba70b81b7f883b378cee10a8334c"), looks := true }, kinds := [], alts := [], laidByText := true, laidKinds := [.data, .pinned], laidTests := true, laidLooks := .later }
def RefsCrashesUptoCardSaid : Prop := Claim7.holds Tryz.pinned (.plain (OpenSpec.upto refsCrashesSpec)) refsCrashesUptoCard
end Rows
end Go.Proofs.YtfjmpninmdjcaaaGreatDoor
