/-
  No cell of these rows narrows 'for every input' (looked for: loops, veiled, ifaces, maps, wideKeys, modest, calm, conditions, laid).
  DERIVED. THE GIVEN ROWS OF THIS SEAT. 7 by the template 'for every input the law returns true; each argument reads behind the call as it read before'; 0 by the template 'total and deterministic' (their statements: YtclhnkmkejijjaaTotals.lean).
  GIVEN WITH THE SEED: the statements are not yours to turn. If you find one false, say at which input.
  Laid BY PROGRAM, IN A SANDBOX (cutbox-rows.mjs): the forced cells as the released guide's own fill.sh prints them over the translation 20f34555c943aa3e… (all of the seat's roots in one cut). By AI agents, Wed Nov 11 2026. No macro, syntax, notation, axiom, sorry.
-/
import Derived.Test.YtclhnkmkejijjaaChecked
import GoSem.Claim
import GoSem.ClaimJoined
import GoSem.ClaimMapViews
import Derived.JoinedTies
import Derived.KernelRfl
namespace Go.Proofs.Ytclhnkmkejijjaa
/- THE CELL 'sum', in the pinned program and in every row, IS THE sha256 OF THE DUMP (.gsa) THAT YtclhnkmkejijjaaProg.lean LOADS. Nothing in Lean hashes anything: it is a label: what it is worth is what the hold of that sum in a sandbox is worth. -/
noncomputable def Try.pinned : Pinned := { name := "ytclhnkmkejijjaa", sum := "20f34555c943aa3e73ba7cab4d78d4ccb018e8af76a88e99ed63bb17109836cc", checked := Try.checked }
namespace Rows
def none {H : Type} : Left H := { results := [], args := [] }

/-- 'selvagelaw16.RenameScores': WHATEVER THE INPUT: true; the input reads as it did. -/
def renameScoresSpec : ChangeSpec := { name := "renameScores", fn := fun _ => fun
  | [d1, d2] => { results := [.lit (.bool true)], args := [d1, d2] }
  | _ => none }
def renameScoresRow : OpenClaim := { program := "ytclhnkmkejijjaa", sum := "20f34555c943aa3e73ba7cab4d78d4ccb018e8af76a88e99ed63bb17109836cc", func := "selvage/selvagelaw16.RenameScores", spec := "renameScores", inPlace := ["internal/bytealg.IndexByte"], unfollowed := true, recurses := true, apart := false }
def RenameScoresSaid : Prop := renameScoresRow.holds Try.pinned (OpenSpec.ofChange renameScoresSpec)

/-- ITS FALSE NEIGHBOUR: 'it returns false'. Refute it at one input. -/
def renameScoresWrong : ChangeSpec := { name := "renameScores", fn := fun _ => fun
  | [d1, d2] => { results := [.lit (.bool false)], args := [d1, d2] }
  | _ => none }
def RenameScoresWrongFalsely : Prop := renameScoresRow.holds Try.pinned (OpenSpec.ofChange renameScoresWrong)

/-- 'selvagelaw16.RenameDetects': WHATEVER THE INPUT: true; the input reads as it did. -/
def renameDetectsSpec : ChangeSpec := { name := "renameDetects", fn := fun _ => fun
  | [d1, d2] => { results := [.lit (.bool true)], args := [d1, d2] }
  | _ => none }
def renameDetectsRow : OpenClaim := { program := "ytclhnkmkejijjaa", sum := "20f34555c943aa3e73ba7cab4d78d4ccb018e8af76a88e99ed63bb17109836cc", func := "selvage/selvagelaw16.RenameDetects", spec := "renameDetects", inPlace := ["internal/bytealg.IndexByte"], unfollowed := true, recurses := true, apart := false }
def RenameDetectsSaid : Prop := renameDetectsRow.holds Try.pinned (OpenSpec.ofChange renameDetectsSpec)

/-- ITS FALSE NEIGHBOUR: 'it returns false'. Refute it at one input. -/
def renameDetectsWrong : ChangeSpec := { name := "renameDetects", fn := fun _ => fun
  | [d1, d2] => { results := [.lit (.bool false)], args := [d1, d2] }
  | _ => none }
def RenameDetectsWrongFalsely : Prop := renameDetectsRow.holds Try.pinned (OpenSpec.ofChange renameDetectsWrong)

/-- 'selvagelaw16.RenameOnce': WHATEVER THE INPUT: true; the input reads as it did. -/
def renameOnceSpec : ChangeSpec := { name := "renameOnce", fn := fun _ => fun
  | [d1, d2] => { results := [.lit (.bool true)], args := [d1, d2] }
  | _ => none }
def renameOnceRow : OpenClaim := { program := "ytclhnkmkejijjaa", sum := "20f34555c943aa3e73ba7cab4d78d4ccb018e8af76a88e99ed63bb17109836cc", func := "selvage/selvagelaw16.RenameOnce", spec := "renameOnce", inPlace := ["internal/bytealg.IndexByte"], unfollowed := true, recurses := true, apart := false }
def RenameOnceSaid : Prop := renameOnceRow.holds Try.pinned (OpenSpec.ofChange renameOnceSpec)

/-- ITS FALSE NEIGHBOUR: 'it returns false'. Refute it at one input. -/
def renameOnceWrong : ChangeSpec := { name := "renameOnce", fn := fun _ => fun
  | [d1, d2] => { results := [.lit (.bool false)], args := [d1, d2] }
  | _ => none }
def RenameOnceWrongFalsely : Prop := renameOnceRow.holds Try.pinned (OpenSpec.ofChange renameOnceWrong)

/-- 'selvagelaw16.RenameMoves': WHATEVER THE INPUT: true; the input reads as it did. -/
def renameMovesSpec : ChangeSpec := { name := "renameMoves", fn := fun _ => fun
  | [d1, d2, d3] => { results := [.lit (.bool true)], args := [d1, d2, d3] }
  | _ => none }
def renameMovesRow : OpenClaim := { program := "ytclhnkmkejijjaa", sum := "20f34555c943aa3e73ba7cab4d78d4ccb018e8af76a88e99ed63bb17109836cc", func := "selvage/selvagelaw16.RenameMoves", spec := "renameMoves", inPlace := ["internal/bytealg.IndexByte"], unfollowed := true, recurses := true, apart := false }
def RenameMovesSaid : Prop := renameMovesRow.holds Try.pinned (OpenSpec.ofChange renameMovesSpec)

/-- ITS FALSE NEIGHBOUR: 'it returns false'. Refute it at one input. -/
def renameMovesWrong : ChangeSpec := { name := "renameMoves", fn := fun _ => fun
  | [d1, d2, d3] => { results := [.lit (.bool false)], args := [d1, d2, d3] }
  | _ => none }
def RenameMovesWrongFalsely : Prop := renameMovesRow.holds Try.pinned (OpenSpec.ofChange renameMovesWrong)

/-- 'selvagelaw16.RenameNames': WHATEVER THE INPUT: true; the input reads as it did. -/
def renameNamesSpec : ChangeSpec := { name := "renameNames", fn := fun _ => fun
  | [d1, d2, d3] => { results := [.lit (.bool true)], args := [d1, d2, d3] }
  | _ => none }
def renameNamesRow : OpenClaim := { program := "ytclhnkmkejijjaa", sum := "20f34555c943aa3e73ba7cab4d78d4ccb018e8af76a88e99ed63bb17109836cc", func := "selvage/selvagelaw16.RenameNames", spec := "renameNames", inPlace := ["internal/bytealg.IndexByte"], unfollowed := true, recurses := true, apart := false }
def RenameNamesSaid : Prop := renameNamesRow.holds Try.pinned (OpenSpec.ofChange renameNamesSpec)

/-- ITS FALSE NEIGHBOUR: 'it returns false'. Refute it at one input. -/
def renameNamesWrong : ChangeSpec := { name := "renameNames", fn := fun _ => fun
  | [d1, d2, d3] => { results := [.lit (.bool false)], args := [d1, d2, d3] }
  | _ => none }
def RenameNamesWrongFalsely : Prop := renameNamesRow.holds Try.pinned (OpenSpec.ofChange renameNamesWrong)

/-- 'selvagelaw16.RenameChanged': WHATEVER THE INPUT: true; the input reads as it did. -/
def renameChangedSpec : ChangeSpec := { name := "renameChanged", fn := fun _ => fun
  | [d1, d2] => { results := [.lit (.bool true)], args := [d1, d2] }
  | _ => none }
def renameChangedRow : OpenClaim := { program := "ytclhnkmkejijjaa", sum := "20f34555c943aa3e73ba7cab4d78d4ccb018e8af76a88e99ed63bb17109836cc", func := "selvage/selvagelaw16.RenameChanged", spec := "renameChanged", inPlace := ["internal/bytealg.IndexByte"], unfollowed := true, recurses := true, apart := false }
def RenameChangedSaid : Prop := renameChangedRow.holds Try.pinned (OpenSpec.ofChange renameChangedSpec)

/-- ITS FALSE NEIGHBOUR: 'it returns false'. Refute it at one input. -/
def renameChangedWrong : ChangeSpec := { name := "renameChanged", fn := fun _ => fun
  | [d1, d2] => { results := [.lit (.bool false)], args := [d1, d2] }
  | _ => none }
def RenameChangedWrongFalsely : Prop := renameChangedRow.holds Try.pinned (OpenSpec.ofChange renameChangedWrong)

/-- 'selvagelaw16.RenameNever': WHATEVER THE INPUT: true; the input reads as it did. -/
def renameNeverSpec : ChangeSpec := { name := "renameNever", fn := fun _ => fun
  | [d1, d2] => { results := [.lit (.bool true)], args := [d1, d2] }
  | _ => none }
def renameNeverRow : OpenClaim := { program := "ytclhnkmkejijjaa", sum := "20f34555c943aa3e73ba7cab4d78d4ccb018e8af76a88e99ed63bb17109836cc", func := "selvage/selvagelaw16.RenameNever", spec := "renameNever", inPlace := ["internal/bytealg.IndexByte"], unfollowed := true, recurses := true, apart := false }
def RenameNeverSaid : Prop := renameNeverRow.holds Try.pinned (OpenSpec.ofChange renameNeverSpec)

/-- ITS FALSE NEIGHBOUR: 'it returns false'. Refute it at one input. -/
def renameNeverWrong : ChangeSpec := { name := "renameNever", fn := fun _ => fun
  | [d1, d2] => { results := [.lit (.bool false)], args := [d1, d2] }
  | _ => none }
def RenameNeverWrongFalsely : Prop := renameNeverRow.holds Try.pinned (OpenSpec.ofChange renameNeverWrong)

/- THE SECOND FORM. 'bulk': how many values and letters a reading holds, each counted each time it is reached (what is shared counts as often as it is met; a slice's spare places count too). A statement '..UptoSaid' is the law's where the arguments, and the package variables that the reading takes, are together of bulk at most 1048576: NARROWER than '..Said'. Prove '..Said' where nothing that the law and all that it calls make is longer than what came in: it says more and counts as full. Else prove '..UptoSaid'. A law counts once. -/
mutual
def uptoBulk {H : Type} : DataW H → Nat
  | .lit (.string bytes) => bytes.length + 1
  | .lit _ => 1
  | .nil => 1
  | .ptr d => uptoBulk d + 1
  | .slice elems spare => uptoBulkAll elems + uptoBulkAll spare + 1
  | .agg parts => uptoBulkAll parts + 1
  | .iface _ d => uptoBulk d + 1
  | .map entries => uptoBulkEntries entries + 1
  | .held _ => 1
def uptoBulkAll {H : Type} : List (DataW H) → Nat
  | [] => 0
  | d :: r => uptoBulk d + uptoBulkAll r
def uptoBulkEntries {H : Type} : List (Lit × DataW H) → Nat
  | [] => 0
  | x :: r => uptoBulkEntry x + uptoBulkEntries r
def uptoBulkEntry {H : Type} : Lit × DataW H → Nat
  | (.string bytes, d) => bytes.length + uptoBulk d + 1
  | (_, d) => uptoBulk d + 1
 end
def uptoSmall : (H : Type) → List (DataW H) → Bool := fun _ ds => decide (uptoBulkAll ds ≤ 1048576)
def OpenSpec.upto (s : _root_.Go.ChangeSpec) : _root_.Go.OpenSpec := { _root_.Go.OpenSpec.ofChange s with cond := some uptoSmall }

/-- 'selvagelaw16.RenameScores', WHERE WHAT IT READS IS OF BULK AT MOST 1048576: true; the input reads as it did. -/
def renameScoresUptoRow : OpenClaim := { program := "ytclhnkmkejijjaa", sum := "20f34555c943aa3e73ba7cab4d78d4ccb018e8af76a88e99ed63bb17109836cc", func := "selvage/selvagelaw16.RenameScores", spec := "renameScores", inPlace := ["internal/bytealg.IndexByte"], unfollowed := true, recurses := true, apart := false, narrowed := true }
def RenameScoresUptoSaid : Prop := renameScoresUptoRow.holds Try.pinned (OpenSpec.upto renameScoresSpec)

/-- 'selvagelaw16.RenameDetects', WHERE WHAT IT READS IS OF BULK AT MOST 1048576: true; the input reads as it did. -/
def renameDetectsUptoRow : OpenClaim := { program := "ytclhnkmkejijjaa", sum := "20f34555c943aa3e73ba7cab4d78d4ccb018e8af76a88e99ed63bb17109836cc", func := "selvage/selvagelaw16.RenameDetects", spec := "renameDetects", inPlace := ["internal/bytealg.IndexByte"], unfollowed := true, recurses := true, apart := false, narrowed := true }
def RenameDetectsUptoSaid : Prop := renameDetectsUptoRow.holds Try.pinned (OpenSpec.upto renameDetectsSpec)

/-- 'selvagelaw16.RenameOnce', WHERE WHAT IT READS IS OF BULK AT MOST 1048576: true; the input reads as it did. -/
def renameOnceUptoRow : OpenClaim := { program := "ytclhnkmkejijjaa", sum := "20f34555c943aa3e73ba7cab4d78d4ccb018e8af76a88e99ed63bb17109836cc", func := "selvage/selvagelaw16.RenameOnce", spec := "renameOnce", inPlace := ["internal/bytealg.IndexByte"], unfollowed := true, recurses := true, apart := false, narrowed := true }
def RenameOnceUptoSaid : Prop := renameOnceUptoRow.holds Try.pinned (OpenSpec.upto renameOnceSpec)

/-- 'selvagelaw16.RenameMoves', WHERE WHAT IT READS IS OF BULK AT MOST 1048576: true; the input reads as it did. -/
def renameMovesUptoRow : OpenClaim := { program := "ytclhnkmkejijjaa", sum := "20f34555c943aa3e73ba7cab4d78d4ccb018e8af76a88e99ed63bb17109836cc", func := "selvage/selvagelaw16.RenameMoves", spec := "renameMoves", inPlace := ["internal/bytealg.IndexByte"], unfollowed := true, recurses := true, apart := false, narrowed := true }
def RenameMovesUptoSaid : Prop := renameMovesUptoRow.holds Try.pinned (OpenSpec.upto renameMovesSpec)

/-- 'selvagelaw16.RenameNames', WHERE WHAT IT READS IS OF BULK AT MOST 1048576: true; the input reads as it did. -/
def renameNamesUptoRow : OpenClaim := { program := "ytclhnkmkejijjaa", sum := "20f34555c943aa3e73ba7cab4d78d4ccb018e8af76a88e99ed63bb17109836cc", func := "selvage/selvagelaw16.RenameNames", spec := "renameNames", inPlace := ["internal/bytealg.IndexByte"], unfollowed := true, recurses := true, apart := false, narrowed := true }
def RenameNamesUptoSaid : Prop := renameNamesUptoRow.holds Try.pinned (OpenSpec.upto renameNamesSpec)

/-- 'selvagelaw16.RenameChanged', WHERE WHAT IT READS IS OF BULK AT MOST 1048576: true; the input reads as it did. -/
def renameChangedUptoRow : OpenClaim := { program := "ytclhnkmkejijjaa", sum := "20f34555c943aa3e73ba7cab4d78d4ccb018e8af76a88e99ed63bb17109836cc", func := "selvage/selvagelaw16.RenameChanged", spec := "renameChanged", inPlace := ["internal/bytealg.IndexByte"], unfollowed := true, recurses := true, apart := false, narrowed := true }
def RenameChangedUptoSaid : Prop := renameChangedUptoRow.holds Try.pinned (OpenSpec.upto renameChangedSpec)

/-- 'selvagelaw16.RenameNever', WHERE WHAT IT READS IS OF BULK AT MOST 1048576: true; the input reads as it did. -/
def renameNeverUptoRow : OpenClaim := { program := "ytclhnkmkejijjaa", sum := "20f34555c943aa3e73ba7cab4d78d4ccb018e8af76a88e99ed63bb17109836cc", func := "selvage/selvagelaw16.RenameNever", spec := "renameNever", inPlace := ["internal/bytealg.IndexByte"], unfollowed := true, recurses := true, apart := false, narrowed := true }
def RenameNeverUptoSaid : Prop := renameNeverUptoRow.holds Try.pinned (OpenSpec.upto renameNeverSpec)

end Rows
end Go.Proofs.Ytclhnkmkejijjaa
