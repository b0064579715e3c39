/-
  No cell of these rows narrows 'for every input' (looked for: loops, veiled, ifaces, maps, wideKeys, modest, calm, conditions, laid).
  DERIVED. THE GIVEN ROWS OF THIS SEAT. 4 by the template 'for every input the law returns true; each argument reads behind the call as it read before'; 0 by the template 'total and deterministic' (their statements: YtegfnfhdgbcjbaaTotals.lean).
  GIVEN WITH THE SEED: the statements are not yours to turn. If you find one false, say at which input.
  Laid BY PROGRAM, IN A SANDBOX (cutbox-rows.mjs): the forced cells as the released guide's own fill.sh prints them over the translation 5814735c1a337a67… (all of the seat's roots in one cut). By AI agents, Wed Nov 11 2026. No macro, syntax, notation, axiom, sorry.
-/
import Derived.Test.YtegfnfhdgbcjbaaChecked
import GoSem.Claim
import GoSem.ClaimJoined
import GoSem.ClaimMapViews
import Derived.JoinedTies
import Derived.KernelRfl
namespace Go.Proofs.Ytegfnfhdgbcjbaa
/- THE CELL 'sum', in the pinned program and in every row, IS THE sha256 OF THE DUMP (.gsa) THAT YtegfnfhdgbcjbaaProg.lean LOADS. Nothing in Lean hashes anything: it is a label: what it is worth is what the hold of that sum in a sandbox is worth. -/
noncomputable def Try.pinned : Pinned := { name := "ytegfnfhdgbcjbaa", sum := "5814735c1a337a679323a73ec2e672b04cc6a59d3b1ab878ccebabb2cf0a1179", checked := Try.checked }
namespace Rows
def none {H : Type} : Left H := { results := [], args := [] }

/-- 'selvagelaw19.RerereKeys': WHATEVER THE INPUT: true; the input reads as it did. -/
def rerereKeysSpec : ChangeSpec := { name := "rerereKeys", fn := fun _ => fun
  | [d] => { results := [.lit (.bool true)], args := [d] }
  | _ => none }
def rerereKeysRow : OpenClaim := { program := "ytegfnfhdgbcjbaa", sum := "5814735c1a337a679323a73ec2e672b04cc6a59d3b1ab878ccebabb2cf0a1179", func := "selvage/selvagelaw19.RerereKeys", spec := "rerereKeys", inPlace := ["internal/bytealg.IndexByte", "internal/bytealg.Compare"], unfollowed := true, recurses := true, apart := false }
def RerereKeysSaid : Prop := rerereKeysRow.holds Try.pinned (OpenSpec.ofChange rerereKeysSpec)

/-- ITS FALSE NEIGHBOUR: 'it returns false'. Refute it at one input. -/
def rerereKeysWrong : ChangeSpec := { name := "rerereKeys", fn := fun _ => fun
  | [d] => { results := [.lit (.bool false)], args := [d] }
  | _ => none }
def RerereKeysWrongFalsely : Prop := rerereKeysRow.holds Try.pinned (OpenSpec.ofChange rerereKeysWrong)

/-- 'selvagelaw19.RerereMerges': WHATEVER THE INPUT: true; the input reads as it did. -/
def rerereMergesSpec : ChangeSpec := { name := "rerereMerges", fn := fun _ => fun
  | [d1, d2, d3] => { results := [.lit (.bool true)], args := [d1, d2, d3] }
  | _ => none }
def rerereMergesRow : OpenClaim := { program := "ytegfnfhdgbcjbaa", sum := "5814735c1a337a679323a73ec2e672b04cc6a59d3b1ab878ccebabb2cf0a1179", func := "selvage/selvagelaw19.RerereMerges", spec := "rerereMerges", inPlace := ["internal/bytealg.IndexByte", "internal/bytealg.Compare"], unfollowed := true, recurses := true, apart := false }
def RerereMergesSaid : Prop := rerereMergesRow.holds Try.pinned (OpenSpec.ofChange rerereMergesSpec)

/-- ITS FALSE NEIGHBOUR: 'it returns false'. Refute it at one input. -/
def rerereMergesWrong : ChangeSpec := { name := "rerereMerges", fn := fun _ => fun
  | [d1, d2, d3] => { results := [.lit (.bool false)], args := [d1, d2, d3] }
  | _ => none }
def RerereMergesWrongFalsely : Prop := rerereMergesRow.holds Try.pinned (OpenSpec.ofChange rerereMergesWrong)

/-- 'selvagelaw19.RerereParts': WHATEVER THE INPUT: true; the input reads as it did. -/
def rererePartsSpec : ChangeSpec := { name := "rerereParts", fn := fun _ => fun
  | [d1, d2, d3, d4, d5] => { results := [.lit (.bool true)], args := [d1, d2, d3, d4, d5] }
  | _ => none }
def rererePartsRow : OpenClaim := { program := "ytegfnfhdgbcjbaa", sum := "5814735c1a337a679323a73ec2e672b04cc6a59d3b1ab878ccebabb2cf0a1179", func := "selvage/selvagelaw19.RerereParts", spec := "rerereParts", inPlace := ["internal/bytealg.IndexByte", "internal/bytealg.Compare"], unfollowed := true, recurses := true, apart := false }
def RererePartsSaid : Prop := rererePartsRow.holds Try.pinned (OpenSpec.ofChange rererePartsSpec)

/-- ITS FALSE NEIGHBOUR: 'it returns false'. Refute it at one input. -/
def rererePartsWrong : ChangeSpec := { name := "rerereParts", fn := fun _ => fun
  | [d1, d2, d3, d4, d5] => { results := [.lit (.bool false)], args := [d1, d2, d3, d4, d5] }
  | _ => none }
def RererePartsWrongFalsely : Prop := rererePartsRow.holds Try.pinned (OpenSpec.ofChange rererePartsWrong)

/-- 'selvagelaw19.RerereAdds': WHATEVER THE INPUT: true; the input reads as it did. -/
def rerereAddsSpec : ChangeSpec := { name := "rerereAdds", fn := fun _ => fun
  | [d1, d2, d3] => { results := [.lit (.bool true)], args := [d1, d2, d3] }
  | _ => none }
def rerereAddsRow : OpenClaim := { program := "ytegfnfhdgbcjbaa", sum := "5814735c1a337a679323a73ec2e672b04cc6a59d3b1ab878ccebabb2cf0a1179", func := "selvage/selvagelaw19.RerereAdds", spec := "rerereAdds", inPlace := ["internal/bytealg.IndexByte", "internal/bytealg.Compare", "slices.overlaps[selvage/api.Memory]"], unfollowed := true, recurses := true, apart := false }
def RerereAddsSaid : Prop := rerereAddsRow.holds Try.pinned (OpenSpec.ofChange rerereAddsSpec)

/-- ITS FALSE NEIGHBOUR: 'it returns false'. Refute it at one input. -/
def rerereAddsWrong : ChangeSpec := { name := "rerereAdds", fn := fun _ => fun
  | [d1, d2, d3] => { results := [.lit (.bool false)], args := [d1, d2, d3] }
  | _ => none }
def RerereAddsWrongFalsely : Prop := rerereAddsRow.holds Try.pinned (OpenSpec.ofChange rerereAddsWrong)

/- THE SECOND FORM. 'bulk': how many values and letters a reading holds, each counted each time it is reached (what is shared counts as often as it is met; a slice's spare places count too). A statement '..UptoSaid' is the law's where the arguments, and the package variables that the reading takes, are together of bulk at most 1048576: NARROWER than '..Said'. Prove '..Said' where nothing that the law and all that it calls make is longer than what came in: it says more and counts as full. Else prove '..UptoSaid'. A law counts once. -/
mutual
def uptoBulk {H : Type} : DataW H → Nat
  | .lit (.string bytes) => bytes.length + 1
  | .lit _ => 1
  | .nil => 1
  | .ptr d => uptoBulk d + 1
  | .slice elems spare => uptoBulkAll elems + uptoBulkAll spare + 1
  | .agg parts => uptoBulkAll parts + 1
  | .iface _ d => uptoBulk d + 1
  | .map entries => uptoBulkEntries entries + 1
  | .held _ => 1
def uptoBulkAll {H : Type} : List (DataW H) → Nat
  | [] => 0
  | d :: r => uptoBulk d + uptoBulkAll r
def uptoBulkEntries {H : Type} : List (Lit × DataW H) → Nat
  | [] => 0
  | x :: r => uptoBulkEntry x + uptoBulkEntries r
def uptoBulkEntry {H : Type} : Lit × DataW H → Nat
  | (.string bytes, d) => bytes.length + uptoBulk d + 1
  | (_, d) => uptoBulk d + 1
 end
def uptoSmall : (H : Type) → List (DataW H) → Bool := fun _ ds => decide (uptoBulkAll ds ≤ 1048576)
def OpenSpec.upto (s : _root_.Go.ChangeSpec) : _root_.Go.OpenSpec := { _root_.Go.OpenSpec.ofChange s with cond := some uptoSmall }

/-- 'selvagelaw19.RerereKeys', WHERE WHAT IT READS IS OF BULK AT MOST 1048576: true; the input reads as it did. -/
def rerereKeysUptoRow : OpenClaim := { program := "ytegfnfhdgbcjbaa", sum := "5814735c1a337a679323a73ec2e672b04cc6a59d3b1ab878ccebabb2cf0a1179", func := "selvage/selvagelaw19.RerereKeys", spec := "rerereKeys", inPlace := ["internal/bytealg.IndexByte", "internal/bytealg.Compare"], unfollowed := true, recurses := true, apart := false, narrowed := true }
def RerereKeysUptoSaid : Prop := rerereKeysUptoRow.holds Try.pinned (OpenSpec.upto rerereKeysSpec)

/-- 'selvagelaw19.RerereMerges', WHERE WHAT IT READS IS OF BULK AT MOST 1048576: true; the input reads as it did. -/
def rerereMergesUptoRow : OpenClaim := { program := "ytegfnfhdgbcjbaa", sum := "5814735c1a337a679323a73ec2e672b04cc6a59d3b1ab878ccebabb2cf0a1179", func := "selvage/selvagelaw19.RerereMerges", spec := "rerereMerges", inPlace := ["internal/bytealg.IndexByte", "internal/bytealg.Compare"], unfollowed := true, recurses := true, apart := false, narrowed := true }
def RerereMergesUptoSaid : Prop := rerereMergesUptoRow.holds Try.pinned (OpenSpec.upto rerereMergesSpec)

/-- 'selvagelaw19.RerereParts', WHERE WHAT IT READS IS OF BULK AT MOST 1048576: true; the input reads as it did. -/
def rererePartsUptoRow : OpenClaim := { program := "ytegfnfhdgbcjbaa", sum := "5814735c1a337a679323a73ec2e672b04cc6a59d3b1ab878ccebabb2cf0a1179", func := "selvage/selvagelaw19.RerereParts", spec := "rerereParts", inPlace := ["internal/bytealg.IndexByte", "internal/bytealg.Compare"], unfollowed := true, recurses := true, apart := false, narrowed := true }
def RererePartsUptoSaid : Prop := rererePartsUptoRow.holds Try.pinned (OpenSpec.upto rererePartsSpec)

/-- 'selvagelaw19.RerereAdds', WHERE WHAT IT READS IS OF BULK AT MOST 1048576: true; the input reads as it did. -/
def rerereAddsUptoRow : OpenClaim := { program := "ytegfnfhdgbcjbaa", sum := "5814735c1a337a679323a73ec2e672b04cc6a59d3b1ab878ccebabb2cf0a1179", func := "selvage/selvagelaw19.RerereAdds", spec := "rerereAdds", inPlace := ["internal/bytealg.IndexByte", "internal/bytealg.Compare", "slices.overlaps[selvage/api.Memory]"], unfollowed := true, recurses := true, apart := false, narrowed := true }
def RerereAddsUptoSaid : Prop := rerereAddsUptoRow.holds Try.pinned (OpenSpec.upto rerereAddsSpec)

end Rows
end Go.Proofs.Ytegfnfhdgbcjbaa
