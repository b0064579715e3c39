/-
  DERIVED. GIVEN WITH THE SEED: THE CARDS: each row of YtabopjdbgkhacaaDoorRows.lean that lists a variable, with what it lists TIED to the program's text (the seventh form; the later family's looks); each row that meets fmt, with fmt's text TOLD by the authors' own Lean function (tested against real Go, not proved from fmt's source: count such statements apart). THE CARD IS WHAT COUNTS. Prove the row's statement (the work); the ties are given (YtabopjdbgkhacaaDoorTie.lean); close each card by the builder's one call (the guide's Derived/Test/ToyasCard.lean, 'card_holds'). Laid BY PROGRAM, IN A SANDBOX (cutbox-door.mjs). By AI agents, Wed Nov 11 2026. No macro, syntax, notation, axiom, sorry.
-/
import Derived.Test.YtabopjdbgkhacaaDoorRows
import GoSem.ClaimSeven
namespace Go.Proofs.YtabopjdbgkhacaaDoor
namespace Rows

/-- THE TIED CARD OF 'selvagelaw20.SeqSteps'. -/
def seqStepsCard : Claim7 := { stood := { row := seqStepsRow, standIns := [], harness := (true, "1959df1ddf339397c0f429981b55c034ffe698e5e653d2edb138879d56f17b18"), looks := false }, kinds := [], alts := [], laidByText := true, laidKinds := [.data, .pinned], laidTests := true, laidLooks := .later }
def SeqStepsCardSaid : Prop := Claim7.holds Tryd.pinned (.plain (OpenSpec.ofChange seqStepsSpec)) seqStepsCard

/-- THE TIED CARD OF 'selvagelaw20.SeqEnds'. -/
def seqEndsCard : Claim7 := { stood := { row := seqEndsRow, standIns := [], harness := (true, "1959df1ddf339397c0f429981b55c034ffe698e5e653d2edb138879d56f17b18"), looks := false }, kinds := [], alts := [], laidByText := true, laidKinds := [.data, .pinned], laidTests := true, laidLooks := .later }
def SeqEndsCardSaid : Prop := Claim7.holds Tryd.pinned (.plain (OpenSpec.ofChange seqEndsSpec)) seqEndsCard

/-- THE SECOND FORM's CARD OF 'selvagelaw20.SeqSteps'. -/
def seqStepsUptoCard : Claim7 := { stood := { row := seqStepsUptoRow, standIns := [], harness := (true, "1959df1ddf339397c0f429981b55c034ffe698e5e653d2edb138879d56f17b18"), looks := false }, kinds := [], alts := [], laidByText := true, laidKinds := [.data, .pinned], laidTests := true, laidLooks := .later }
def SeqStepsUptoCardSaid : Prop := Claim7.holds Tryd.pinned (.plain (OpenSpec.upto seqStepsSpec)) seqStepsUptoCard

/-- THE SECOND FORM's CARD OF 'selvagelaw20.SeqEnds'. -/
def seqEndsUptoCard : Claim7 := { stood := { row := seqEndsUptoRow, standIns := [], harness := (true, "1959df1ddf339397c0f429981b55c034ffe698e5e653d2edb138879d56f17b18"), looks := false }, kinds := [], alts := [], laidByText := true, laidKinds := [.data, .pinned], laidTests := true, laidLooks := .later }
def SeqEndsUptoCardSaid : Prop := Claim7.holds Tryd.pinned (.plain (OpenSpec.upto seqEndsSpec)) seqEndsUptoCard
end Rows
end Go.Proofs.YtabopjdbgkhacaaDoor
