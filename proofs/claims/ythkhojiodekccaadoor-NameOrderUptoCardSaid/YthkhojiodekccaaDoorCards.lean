/-
  DERIVED. GIVEN WITH THE SEED: THE CARDS: each row of YthkhojiodekccaaDoorRows.lean that lists a variable, with what it lists TIED to the program's text (the seventh form; the later family's looks); each row that meets fmt, with fmt's text TOLD by the authors' own Lean function (tested against real Go, not proved from fmt's source: count such statements apart). THE CARD IS WHAT COUNTS. Prove the row's statement (the work); the ties are given (YthkhojiodekccaaDoorTie.lean); close each card by the builder's one call (the guide's Derived/Test/ToyasCard.lean, 'card_holds'). Laid BY PROGRAM, IN A SANDBOX (cutbox-door.mjs). By AI agents, Wed Nov 11 2026. No macro, syntax, notation, axiom, sorry.
-/
import Derived.Test.YthkhojiodekccaaDoorRows
import GoSem.ClaimSeven
namespace Go.Proofs.YthkhojiodekccaaDoor
namespace Rows

/-- THE TIED CARD OF 'selvagelaw9.NameChecks'. -/
def nameChecksCard : Claim7 := { stood := { row := nameChecksRow, standIns := [], harness := (true, "ecafcded150994dfd93decbdaabb98aec4bcc556dbf89c1f1313d7fbfb29d6cf"), looks := false }, kinds := [], alts := [], laidByText := true, laidKinds := [.data, .pinned], laidTests := true, laidLooks := .later }
def NameChecksCardSaid : Prop := Claim7.holds Tryd.pinned (.plain (OpenSpec.ofChange nameChecksSpec)) nameChecksCard

/-- THE TIED CARD OF 'selvagelaw9.NameFits'. -/
def nameFitsCard : Claim7 := { stood := { row := nameFitsRow, standIns := [], harness := (true, "ecafcded150994dfd93decbdaabb98aec4bcc556dbf89c1f1313d7fbfb29d6cf"), looks := false }, kinds := [], alts := [], laidByText := true, laidKinds := [.data, .pinned], laidTests := true, laidLooks := .later }
def NameFitsCardSaid : Prop := Claim7.holds Tryd.pinned (.plain (OpenSpec.ofChange nameFitsSpec)) nameFitsCard

/-- THE TIED CARD OF 'selvagelaw9.NameParts'. -/
def namePartsCard : Claim7 := { stood := { row := namePartsRow, standIns := [], harness := (true, "ecafcded150994dfd93decbdaabb98aec4bcc556dbf89c1f1313d7fbfb29d6cf"), looks := false }, kinds := [], alts := [], laidByText := true, laidKinds := [.data, .pinned], laidTests := true, laidLooks := .later }
def NamePartsCardSaid : Prop := Claim7.holds Tryd.pinned (.plain (OpenSpec.ofChange namePartsSpec)) namePartsCard

/-- THE TIED CARD OF 'selvagelaw9.NameOrder'. -/
def nameOrderCard : Claim7 := { stood := { row := nameOrderRow, standIns := [], harness := (true, "ecafcded150994dfd93decbdaabb98aec4bcc556dbf89c1f1313d7fbfb29d6cf"), looks := false }, kinds := [], alts := [], laidByText := true, laidKinds := [.data, .pinned], laidTests := true, laidLooks := .later }
def NameOrderCardSaid : Prop := Claim7.holds Tryd.pinned (.plain (OpenSpec.ofChange nameOrderSpec)) nameOrderCard

/-- THE SECOND FORM's CARD OF 'selvagelaw9.NameChecks'. -/
def nameChecksUptoCard : Claim7 := { stood := { row := nameChecksUptoRow, standIns := [], harness := (true, "ecafcded150994dfd93decbdaabb98aec4bcc556dbf89c1f1313d7fbfb29d6cf"), looks := false }, kinds := [], alts := [], laidByText := true, laidKinds := [.data, .pinned], laidTests := true, laidLooks := .later }
def NameChecksUptoCardSaid : Prop := Claim7.holds Tryd.pinned (.plain (OpenSpec.upto nameChecksSpec)) nameChecksUptoCard

/-- THE SECOND FORM's CARD OF 'selvagelaw9.NameFits'. -/
def nameFitsUptoCard : Claim7 := { stood := { row := nameFitsUptoRow, standIns := [], harness := (true, "ecafcded150994dfd93decbdaabb98aec4bcc556dbf89c1f1313d7fbfb29d6cf"), looks := false }, kinds := [], alts := [], laidByText := true, laidKinds := [.data, .pinned], laidTests := true, laidLooks := .later }
def NameFitsUptoCardSaid : Prop := Claim7.holds Tryd.pinned (.plain (OpenSpec.upto nameFitsSpec)) nameFitsUptoCard

/-- THE SECOND FORM's CARD OF 'selvagelaw9.NameParts'. -/
def namePartsUptoCard : Claim7 := { stood := { row := namePartsUptoRow, standIns := [], harness := (true, "ecafcded150994dfd93decbdaabb98aec4bcc556dbf89c1f1313d7fbfb29d6cf"), looks := false }, kinds := [], alts := [], laidByText := true, laidKinds := [.data, .pinned], laidTests := true, laidLooks := .later }
def NamePartsUptoCardSaid : Prop := Claim7.holds Tryd.pinned (.plain (OpenSpec.upto namePartsSpec)) namePartsUptoCard

/-- THE SECOND FORM's CARD OF 'selvagelaw9.NameOrder'. -/
def nameOrderUptoCard : Claim7 := { stood := { row := nameOrderUptoRow, standIns := [], harness := (true, "ecafcded150994dfd93decbdaabb98aec4bcc556dbf89c1f1313d7fbfb29d6cf"), looks := false }, kinds := [], alts := [], laidByText := true, laidKinds := [.data, .pinned], laidTests := true, laidLooks := .later }
def NameOrderUptoCardSaid : Prop := Claim7.holds Tryd.pinned (.plain (OpenSpec.upto nameOrderSpec)) nameOrderUptoCard
end Rows
end Go.Proofs.YthkhojiodekccaaDoor
