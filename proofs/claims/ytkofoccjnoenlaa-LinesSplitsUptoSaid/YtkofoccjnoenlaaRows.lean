/-
  No cell of these rows narrows 'for every input' (looked for: loops, veiled, ifaces, maps, wideKeys, modest, calm, conditions, laid).
  DERIVED. THE GIVEN ROWS OF THIS SEAT. 7 by the template 'for every input the law returns true; each argument reads behind the call as it read before'; 0 by the template 'total and deterministic' (their statements: YtkofoccjnoenlaaTotals.lean).
  GIVEN WITH THE SEED: the statements are not yours to turn. If you find one false, say at which input.
  Laid BY PROGRAM, IN A SANDBOX (cutbox-rows.mjs): the forced cells as the released guide's own fill.sh prints them over the translation 1774959147dc64b3… (all of the seat's roots in one cut). By AI agents, Wed Nov 11 2026. No macro, syntax, notation, axiom, sorry.
-/
import Derived.Test.YtkofoccjnoenlaaChecked
import GoSem.Claim
import GoSem.ClaimJoined
import GoSem.ClaimMapViews
import Derived.JoinedTies
import Derived.KernelRfl
namespace Go.Proofs.Ytkofoccjnoenlaa
/- THE CELL 'sum', in the pinned program and in every row, IS THE sha256 OF THE DUMP (.gsa) THAT YtkofoccjnoenlaaProg.lean LOADS. Nothing in Lean hashes anything: it is a label: what it is worth is what the hold of that sum in a sandbox is worth. -/
noncomputable def Try.pinned : Pinned := { name := "ytkofoccjnoenlaa", sum := "1774959147dc64b34e668088abd0ec8bc2a9949509efdd90371a1043ee0575c5", checked := Try.checked }
namespace Rows
def none {H : Type} : Left H := { results := [], args := [] }

/-- 'selvagelaw12.LinesDiffs': WHATEVER THE INPUT: true; the input reads as it did. -/
def linesDiffsSpec : ChangeSpec := { name := "linesDiffs", fn := fun _ => fun
  | [d1, d2] => { results := [.lit (.bool true)], args := [d1, d2] }
  | _ => none }
def linesDiffsRow : OpenClaim := { program := "ytkofoccjnoenlaa", sum := "1774959147dc64b34e668088abd0ec8bc2a9949509efdd90371a1043ee0575c5", func := "selvage/selvagelaw12.LinesDiffs", spec := "linesDiffs", apart := false }
def LinesDiffsSaid : Prop := linesDiffsRow.holds Try.pinned (OpenSpec.ofChange linesDiffsSpec)

/-- ITS FALSE NEIGHBOUR: 'it returns false'. Refute it at one input. -/
def linesDiffsWrong : ChangeSpec := { name := "linesDiffs", fn := fun _ => fun
  | [d1, d2] => { results := [.lit (.bool false)], args := [d1, d2] }
  | _ => none }
def LinesDiffsWrongFalsely : Prop := linesDiffsRow.holds Try.pinned (OpenSpec.ofChange linesDiffsWrong)

/-- 'selvagelaw12.LinesLeast': WHATEVER THE INPUT: true; the input reads as it did. -/
def linesLeastSpec : ChangeSpec := { name := "linesLeast", fn := fun _ => fun
  | [d1, d2, d3] => { results := [.lit (.bool true)], args := [d1, d2, d3] }
  | _ => none }
def linesLeastRow : OpenClaim := { program := "ytkofoccjnoenlaa", sum := "1774959147dc64b34e668088abd0ec8bc2a9949509efdd90371a1043ee0575c5", func := "selvage/selvagelaw12.LinesLeast", spec := "linesLeast", apart := false }
def LinesLeastSaid : Prop := linesLeastRow.holds Try.pinned (OpenSpec.ofChange linesLeastSpec)

/-- ITS FALSE NEIGHBOUR: 'it returns false'. Refute it at one input. -/
def linesLeastWrong : ChangeSpec := { name := "linesLeast", fn := fun _ => fun
  | [d1, d2, d3] => { results := [.lit (.bool false)], args := [d1, d2, d3] }
  | _ => none }
def LinesLeastWrongFalsely : Prop := linesLeastRow.holds Try.pinned (OpenSpec.ofChange linesLeastWrong)

/-- 'selvagelaw12.LinesMany': WHATEVER THE INPUT: true; the input reads as it did. -/
def linesManySpec : ChangeSpec := { name := "linesMany", fn := fun _ => fun
  | [d1, d2] => { results := [.lit (.bool true)], args := [d1, d2] }
  | _ => none }
def linesManyRow : OpenClaim := { program := "ytkofoccjnoenlaa", sum := "1774959147dc64b34e668088abd0ec8bc2a9949509efdd90371a1043ee0575c5", func := "selvage/selvagelaw12.LinesMany", spec := "linesMany", apart := false }
def LinesManySaid : Prop := linesManyRow.holds Try.pinned (OpenSpec.ofChange linesManySpec)

/-- ITS FALSE NEIGHBOUR: 'it returns false'. Refute it at one input. -/
def linesManyWrong : ChangeSpec := { name := "linesMany", fn := fun _ => fun
  | [d1, d2] => { results := [.lit (.bool false)], args := [d1, d2] }
  | _ => none }
def LinesManyWrongFalsely : Prop := linesManyRow.holds Try.pinned (OpenSpec.ofChange linesManyWrong)

/-- 'selvagelaw12.LinesFirst': WHATEVER THE INPUT: true; the input reads as it did. -/
def linesFirstSpec : ChangeSpec := { name := "linesFirst", fn := fun _ => fun
  | [d1, d2] => { results := [.lit (.bool true)], args := [d1, d2] }
  | _ => none }
def linesFirstRow : OpenClaim := { program := "ytkofoccjnoenlaa", sum := "1774959147dc64b34e668088abd0ec8bc2a9949509efdd90371a1043ee0575c5", func := "selvage/selvagelaw12.LinesFirst", spec := "linesFirst", apart := false }
def LinesFirstSaid : Prop := linesFirstRow.holds Try.pinned (OpenSpec.ofChange linesFirstSpec)

/-- ITS FALSE NEIGHBOUR: 'it returns false'. Refute it at one input. -/
def linesFirstWrong : ChangeSpec := { name := "linesFirst", fn := fun _ => fun
  | [d1, d2] => { results := [.lit (.bool false)], args := [d1, d2] }
  | _ => none }
def LinesFirstWrongFalsely : Prop := linesFirstRow.holds Try.pinned (OpenSpec.ofChange linesFirstWrong)

/-- 'selvagelaw12.LinesSplits': WHATEVER THE INPUT: true; the input reads as it did. -/
def linesSplitsSpec : ChangeSpec := { name := "linesSplits", fn := fun _ => fun
  | [d1, d2] => { results := [.lit (.bool true)], args := [d1, d2] }
  | _ => none }
def linesSplitsRow : OpenClaim := { program := "ytkofoccjnoenlaa", sum := "1774959147dc64b34e668088abd0ec8bc2a9949509efdd90371a1043ee0575c5", func := "selvage/selvagelaw12.LinesSplits", spec := "linesSplits", inPlace := ["internal/bytealg.IndexByte"], apart := false }
def LinesSplitsSaid : Prop := linesSplitsRow.holds Try.pinned (OpenSpec.ofChange linesSplitsSpec)

/-- ITS FALSE NEIGHBOUR: 'it returns false'. Refute it at one input. -/
def linesSplitsWrong : ChangeSpec := { name := "linesSplits", fn := fun _ => fun
  | [d1, d2] => { results := [.lit (.bool false)], args := [d1, d2] }
  | _ => none }
def LinesSplitsWrongFalsely : Prop := linesSplitsRow.holds Try.pinned (OpenSpec.ofChange linesSplitsWrong)

/-- 'selvagelaw12.LinesApplies': WHATEVER THE INPUT: true; the input reads as it did. -/
def linesAppliesSpec : ChangeSpec := { name := "linesApplies", fn := fun _ => fun
  | [d1, d2, d3] => { results := [.lit (.bool true)], args := [d1, d2, d3] }
  | _ => none }
def linesAppliesRow : OpenClaim := { program := "ytkofoccjnoenlaa", sum := "1774959147dc64b34e668088abd0ec8bc2a9949509efdd90371a1043ee0575c5", func := "selvage/selvagelaw12.LinesApplies", spec := "linesApplies", apart := false }
def LinesAppliesSaid : Prop := linesAppliesRow.holds Try.pinned (OpenSpec.ofChange linesAppliesSpec)

/-- ITS FALSE NEIGHBOUR: 'it returns false'. Refute it at one input. -/
def linesAppliesWrong : ChangeSpec := { name := "linesApplies", fn := fun _ => fun
  | [d1, d2, d3] => { results := [.lit (.bool false)], args := [d1, d2, d3] }
  | _ => none }
def LinesAppliesWrongFalsely : Prop := linesAppliesRow.holds Try.pinned (OpenSpec.ofChange linesAppliesWrong)

/-- 'selvagelaw12.LinesBack': WHATEVER THE INPUT: true; the input reads as it did. -/
def linesBackSpec : ChangeSpec := { name := "linesBack", fn := fun _ => fun
  | [d1, d2] => { results := [.lit (.bool true)], args := [d1, d2] }
  | _ => none }
def linesBackRow : OpenClaim := { program := "ytkofoccjnoenlaa", sum := "1774959147dc64b34e668088abd0ec8bc2a9949509efdd90371a1043ee0575c5", func := "selvage/selvagelaw12.LinesBack", spec := "linesBack", apart := false }
def LinesBackSaid : Prop := linesBackRow.holds Try.pinned (OpenSpec.ofChange linesBackSpec)

/-- ITS FALSE NEIGHBOUR: 'it returns false'. Refute it at one input. -/
def linesBackWrong : ChangeSpec := { name := "linesBack", fn := fun _ => fun
  | [d1, d2] => { results := [.lit (.bool false)], args := [d1, d2] }
  | _ => none }
def LinesBackWrongFalsely : Prop := linesBackRow.holds Try.pinned (OpenSpec.ofChange linesBackWrong)

/- THE SECOND FORM. 'bulk': how many values and letters a reading holds, each counted each time it is reached (what is shared counts as often as it is met; a slice's spare places count too). A statement '..UptoSaid' is the law's where the arguments, and the package variables that the reading takes, are together of bulk at most 1048576: NARROWER than '..Said'. Prove '..Said' where nothing that the law and all that it calls make is longer than what came in: it says more and counts as full. Else prove '..UptoSaid'. A law counts once. -/
mutual
def uptoBulk {H : Type} : DataW H → Nat
  | .lit (.string bytes) => bytes.length + 1
  | .lit _ => 1
  | .nil => 1
  | .ptr d => uptoBulk d + 1
  | .slice elems spare => uptoBulkAll elems + uptoBulkAll spare + 1
  | .agg parts => uptoBulkAll parts + 1
  | .iface _ d => uptoBulk d + 1
  | .map entries => uptoBulkEntries entries + 1
  | .held _ => 1
def uptoBulkAll {H : Type} : List (DataW H) → Nat
  | [] => 0
  | d :: r => uptoBulk d + uptoBulkAll r
def uptoBulkEntries {H : Type} : List (Lit × DataW H) → Nat
  | [] => 0
  | x :: r => uptoBulkEntry x + uptoBulkEntries r
def uptoBulkEntry {H : Type} : Lit × DataW H → Nat
  | (.string bytes, d) => bytes.length + uptoBulk d + 1
  | (_, d) => uptoBulk d + 1
 end
def uptoSmall : (H : Type) → List (DataW H) → Bool := fun _ ds => decide (uptoBulkAll ds ≤ 1048576)
def OpenSpec.upto (s : _root_.Go.ChangeSpec) : _root_.Go.OpenSpec := { _root_.Go.OpenSpec.ofChange s with cond := some uptoSmall }

/-- 'selvagelaw12.LinesDiffs', WHERE WHAT IT READS IS OF BULK AT MOST 1048576: true; the input reads as it did. -/
def linesDiffsUptoRow : OpenClaim := { program := "ytkofoccjnoenlaa", sum := "1774959147dc64b34e668088abd0ec8bc2a9949509efdd90371a1043ee0575c5", func := "selvage/selvagelaw12.LinesDiffs", spec := "linesDiffs", apart := false, narrowed := true }
def LinesDiffsUptoSaid : Prop := linesDiffsUptoRow.holds Try.pinned (OpenSpec.upto linesDiffsSpec)

/-- 'selvagelaw12.LinesLeast', WHERE WHAT IT READS IS OF BULK AT MOST 1048576: true; the input reads as it did. -/
def linesLeastUptoRow : OpenClaim := { program := "ytkofoccjnoenlaa", sum := "1774959147dc64b34e668088abd0ec8bc2a9949509efdd90371a1043ee0575c5", func := "selvage/selvagelaw12.LinesLeast", spec := "linesLeast", apart := false, narrowed := true }
def LinesLeastUptoSaid : Prop := linesLeastUptoRow.holds Try.pinned (OpenSpec.upto linesLeastSpec)

/-- 'selvagelaw12.LinesMany', WHERE WHAT IT READS IS OF BULK AT MOST 1048576: true; the input reads as it did. -/
def linesManyUptoRow : OpenClaim := { program := "ytkofoccjnoenlaa", sum := "1774959147dc64b34e668088abd0ec8bc2a9949509efdd90371a1043ee0575c5", func := "selvage/selvagelaw12.LinesMany", spec := "linesMany", apart := false, narrowed := true }
def LinesManyUptoSaid : Prop := linesManyUptoRow.holds Try.pinned (OpenSpec.upto linesManySpec)

/-- 'selvagelaw12.LinesFirst', WHERE WHAT IT READS IS OF BULK AT MOST 1048576: true; the input reads as it did. -/
def linesFirstUptoRow : OpenClaim := { program := "ytkofoccjnoenlaa", sum := "1774959147dc64b34e668088abd0ec8bc2a9949509efdd90371a1043ee0575c5", func := "selvage/selvagelaw12.LinesFirst", spec := "linesFirst", apart := false, narrowed := true }
def LinesFirstUptoSaid : Prop := linesFirstUptoRow.holds Try.pinned (OpenSpec.upto linesFirstSpec)

/-- 'selvagelaw12.LinesSplits', WHERE WHAT IT READS IS OF BULK AT MOST 1048576: true; the input reads as it did. -/
def linesSplitsUptoRow : OpenClaim := { program := "ytkofoccjnoenlaa", sum := "1774959147dc64b34e668088abd0ec8bc2a9949509efdd90371a1043ee0575c5", func := "selvage/selvagelaw12.LinesSplits", spec := "linesSplits", inPlace := ["internal/bytealg.IndexByte"], apart := false, narrowed := true }
def LinesSplitsUptoSaid : Prop := linesSplitsUptoRow.holds Try.pinned (OpenSpec.upto linesSplitsSpec)

/-- 'selvagelaw12.LinesApplies', WHERE WHAT IT READS IS OF BULK AT MOST 1048576: true; the input reads as it did. -/
def linesAppliesUptoRow : OpenClaim := { program := "ytkofoccjnoenlaa", sum := "1774959147dc64b34e668088abd0ec8bc2a9949509efdd90371a1043ee0575c5", func := "selvage/selvagelaw12.LinesApplies", spec := "linesApplies", apart := false, narrowed := true }
def LinesAppliesUptoSaid : Prop := linesAppliesUptoRow.holds Try.pinned (OpenSpec.upto linesAppliesSpec)

/-- 'selvagelaw12.LinesBack', WHERE WHAT IT READS IS OF BULK AT MOST 1048576: true; the input reads as it did. -/
def linesBackUptoRow : OpenClaim := { program := "ytkofoccjnoenlaa", sum := "1774959147dc64b34e668088abd0ec8bc2a9949509efdd90371a1043ee0575c5", func := "selvage/selvagelaw12.LinesBack", spec := "linesBack", apart := false, narrowed := true }
def LinesBackUptoSaid : Prop := linesBackUptoRow.holds Try.pinned (OpenSpec.upto linesBackSpec)

end Rows
end Go.Proofs.Ytkofoccjnoenlaa
