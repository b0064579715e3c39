/-
  No cell of these rows narrows 'for every input' (looked for: loops, veiled, ifaces, maps, wideKeys, modest, calm, conditions, laid).
  DERIVED. THE GIVEN ROWS OF THIS SEAT. 4 by the template 'for every input the law returns true; each argument reads behind the call as it read before'; 0 by the template 'total and deterministic' (their statements: YtgcnkjnbdeihhaaTotals.lean).
  GIVEN WITH THE SEED: the statements are not yours to turn. If you find one false, say at which input.
  Laid BY PROGRAM, IN A SANDBOX (cutbox-rows.mjs): the forced cells as the released guide's own fill.sh prints them over the translation 66a8f8f93301a251… (all of the seat's roots in one cut). By AI agents, Wed Nov 11 2026. No macro, syntax, notation, axiom, sorry.
-/
import Derived.Test.YtgcnkjnbdeihhaaChecked
import GoSem.Claim
import GoSem.ClaimJoined
import GoSem.ClaimMapViews
import Derived.JoinedTies
import Derived.KernelRfl
namespace Go.Proofs.Ytgcnkjnbdeihhaa
/- THE CELL 'sum', in the pinned program and in every row, IS THE sha256 OF THE DUMP (.gsa) THAT YtgcnkjnbdeihhaaProg.lean LOADS. Nothing in Lean hashes anything: it is a label: what it is worth is what the hold of that sum in a sandbox is worth. -/
noncomputable def Try.pinned : Pinned := { name := "ytgcnkjnbdeihhaa", sum := "66a8f8f93301a251b06c0eb499178082ce6aca8c9576a004ab463abae598c8c5", checked := Try.checked }
namespace Rows
def none {H : Type} : Left H := { results := [], args := [] }

/-- 'selvagelaw1.SumRows': WHATEVER THE INPUT: true; the input reads as it did. -/
def sumRowsSpec : ChangeSpec := { name := "sumRows", fn := fun _ => fun
  | [d] => { results := [.lit (.bool true)], args := [d] }
  | _ => none }
def sumRowsRow : OpenClaim := { program := "ytgcnkjnbdeihhaa", sum := "66a8f8f93301a251b06c0eb499178082ce6aca8c9576a004ab463abae598c8c5", func := "selvage/selvagelaw1.SumRows", spec := "sumRows", apart := false }
def SumRowsSaid : Prop := sumRowsRow.holds Try.pinned (OpenSpec.ofChange sumRowsSpec)

/-- ITS FALSE NEIGHBOUR: 'it returns false'. Refute it at one input. -/
def sumRowsWrong : ChangeSpec := { name := "sumRows", fn := fun _ => fun
  | [d] => { results := [.lit (.bool false)], args := [d] }
  | _ => none }
def SumRowsWrongFalsely : Prop := sumRowsRow.holds Try.pinned (OpenSpec.ofChange sumRowsWrong)

/-- 'selvagelaw1.SumWrites': WHATEVER THE INPUT: true; the input reads as it did. -/
def sumWritesSpec : ChangeSpec := { name := "sumWrites", fn := fun _ => fun
  | [d1, d2] => { results := [.lit (.bool true)], args := [d1, d2] }
  | _ => none }
def sumWritesRow : OpenClaim := { program := "ytgcnkjnbdeihhaa", sum := "66a8f8f93301a251b06c0eb499178082ce6aca8c9576a004ab463abae598c8c5", func := "selvage/selvagelaw1.SumWrites", spec := "sumWrites", apart := false }
def SumWritesSaid : Prop := sumWritesRow.holds Try.pinned (OpenSpec.ofChange sumWritesSpec)

/-- ITS FALSE NEIGHBOUR: 'it returns false'. Refute it at one input. -/
def sumWritesWrong : ChangeSpec := { name := "sumWrites", fn := fun _ => fun
  | [d1, d2] => { results := [.lit (.bool false)], args := [d1, d2] }
  | _ => none }
def SumWritesWrongFalsely : Prop := sumWritesRow.holds Try.pinned (OpenSpec.ofChange sumWritesWrong)

/-- 'selvagelaw1.SumLengths': WHATEVER THE INPUT: true; the input reads as it did. -/
def sumLengthsSpec : ChangeSpec := { name := "sumLengths", fn := fun _ => fun
  | [d1, d2] => { results := [.lit (.bool true)], args := [d1, d2] }
  | _ => none }
def sumLengthsRow : OpenClaim := { program := "ytgcnkjnbdeihhaa", sum := "66a8f8f93301a251b06c0eb499178082ce6aca8c9576a004ab463abae598c8c5", func := "selvage/selvagelaw1.SumLengths", spec := "sumLengths", apart := false }
def SumLengthsSaid : Prop := sumLengthsRow.holds Try.pinned (OpenSpec.ofChange sumLengthsSpec)

/-- ITS FALSE NEIGHBOUR: 'it returns false'. Refute it at one input. -/
def sumLengthsWrong : ChangeSpec := { name := "sumLengths", fn := fun _ => fun
  | [d1, d2] => { results := [.lit (.bool false)], args := [d1, d2] }
  | _ => none }
def SumLengthsWrongFalsely : Prop := sumLengthsRow.holds Try.pinned (OpenSpec.ofChange sumLengthsWrong)

/-- 'selvagelaw1.SumDigits': WHATEVER THE INPUT: true; the input reads as it did. -/
def sumDigitsSpec : ChangeSpec := { name := "sumDigits", fn := fun _ => fun
  | [d1, d2, d3] => { results := [.lit (.bool true)], args := [d1, d2, d3] }
  | _ => none }
def sumDigitsRow : OpenClaim := { program := "ytgcnkjnbdeihhaa", sum := "66a8f8f93301a251b06c0eb499178082ce6aca8c9576a004ab463abae598c8c5", func := "selvage/selvagelaw1.SumDigits", spec := "sumDigits", inPlace := ["internal/bytealg.Compare"], apart := false }
def SumDigitsSaid : Prop := sumDigitsRow.holds Try.pinned (OpenSpec.ofChange sumDigitsSpec)

/-- ITS FALSE NEIGHBOUR: 'it returns false'. Refute it at one input. -/
def sumDigitsWrong : ChangeSpec := { name := "sumDigits", fn := fun _ => fun
  | [d1, d2, d3] => { results := [.lit (.bool false)], args := [d1, d2, d3] }
  | _ => none }
def SumDigitsWrongFalsely : Prop := sumDigitsRow.holds Try.pinned (OpenSpec.ofChange sumDigitsWrong)

/- THE SECOND FORM. 'bulk': how many values and letters a reading holds, each counted each time it is reached (what is shared counts as often as it is met; a slice's spare places count too). A statement '..UptoSaid' is the law's where the arguments, and the package variables that the reading takes, are together of bulk at most 1048576: NARROWER than '..Said'. Prove '..Said' where nothing that the law and all that it calls make is longer than what came in: it says more and counts as full. Else prove '..UptoSaid'. A law counts once. -/
mutual
def uptoBulk {H : Type} : DataW H → Nat
  | .lit (.string bytes) => bytes.length + 1
  | .lit _ => 1
  | .nil => 1
  | .ptr d => uptoBulk d + 1
  | .slice elems spare => uptoBulkAll elems + uptoBulkAll spare + 1
  | .agg parts => uptoBulkAll parts + 1
  | .iface _ d => uptoBulk d + 1
  | .map entries => uptoBulkEntries entries + 1
  | .held _ => 1
def uptoBulkAll {H : Type} : List (DataW H) → Nat
  | [] => 0
  | d :: r => uptoBulk d + uptoBulkAll r
def uptoBulkEntries {H : Type} : List (Lit × DataW H) → Nat
  | [] => 0
  | x :: r => uptoBulkEntry x + uptoBulkEntries r
def uptoBulkEntry {H : Type} : Lit × DataW H → Nat
  | (.string bytes, d) => bytes.length + uptoBulk d + 1
  | (_, d) => uptoBulk d + 1
 end
def uptoSmall : (H : Type) → List (DataW H) → Bool := fun _ ds => decide (uptoBulkAll ds ≤ 1048576)
def OpenSpec.upto (s : _root_.Go.ChangeSpec) : _root_.Go.OpenSpec := { _root_.Go.OpenSpec.ofChange s with cond := some uptoSmall }

/-- 'selvagelaw1.SumRows', WHERE WHAT IT READS IS OF BULK AT MOST 1048576: true; the input reads as it did. -/
def sumRowsUptoRow : OpenClaim := { program := "ytgcnkjnbdeihhaa", sum := "66a8f8f93301a251b06c0eb499178082ce6aca8c9576a004ab463abae598c8c5", func := "selvage/selvagelaw1.SumRows", spec := "sumRows", apart := false, narrowed := true }
def SumRowsUptoSaid : Prop := sumRowsUptoRow.holds Try.pinned (OpenSpec.upto sumRowsSpec)

/-- 'selvagelaw1.SumWrites', WHERE WHAT IT READS IS OF BULK AT MOST 1048576: true; the input reads as it did. -/
def sumWritesUptoRow : OpenClaim := { program := "ytgcnkjnbdeihhaa", sum := "66a8f8f93301a251b06c0eb499178082ce6aca8c9576a004ab463abae598c8c5", func := "selvage/selvagelaw1.SumWrites", spec := "sumWrites", apart := false, narrowed := true }
def SumWritesUptoSaid : Prop := sumWritesUptoRow.holds Try.pinned (OpenSpec.upto sumWritesSpec)

/-- 'selvagelaw1.SumLengths', WHERE WHAT IT READS IS OF BULK AT MOST 1048576: true; the input reads as it did. -/
def sumLengthsUptoRow : OpenClaim := { program := "ytgcnkjnbdeihhaa", sum := "66a8f8f93301a251b06c0eb499178082ce6aca8c9576a004ab463abae598c8c5", func := "selvage/selvagelaw1.SumLengths", spec := "sumLengths", apart := false, narrowed := true }
def SumLengthsUptoSaid : Prop := sumLengthsUptoRow.holds Try.pinned (OpenSpec.upto sumLengthsSpec)

/-- 'selvagelaw1.SumDigits', WHERE WHAT IT READS IS OF BULK AT MOST 1048576: true; the input reads as it did. -/
def sumDigitsUptoRow : OpenClaim := { program := "ytgcnkjnbdeihhaa", sum := "66a8f8f93301a251b06c0eb499178082ce6aca8c9576a004ab463abae598c8c5", func := "selvage/selvagelaw1.SumDigits", spec := "sumDigits", inPlace := ["internal/bytealg.Compare"], apart := false, narrowed := true }
def SumDigitsUptoSaid : Prop := sumDigitsUptoRow.holds Try.pinned (OpenSpec.upto sumDigitsSpec)

end Rows
end Go.Proofs.Ytgcnkjnbdeihhaa
