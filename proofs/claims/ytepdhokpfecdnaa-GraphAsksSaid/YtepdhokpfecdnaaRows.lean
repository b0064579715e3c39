/-
  No cell of these rows narrows 'for every input' (looked for: loops, veiled, ifaces, maps, wideKeys, modest, calm, conditions, laid).
  DERIVED. THE GIVEN ROWS OF THIS SEAT. 7 by the template 'for every input the law returns true; each argument reads behind the call as it read before'; 0 by the template 'total and deterministic' (their statements: YtepdhokpfecdnaaTotals.lean).
  GIVEN WITH THE SEED: the statements are not yours to turn. If you find one false, say at which input.
  Laid BY PROGRAM, IN A SANDBOX (cutbox-rows.mjs): the forced cells as the released guide's own fill.sh prints them over the translation ec8b0f680e90be40… (all of the seat's roots in one cut). By AI agents, Wed Nov 11 2026. No macro, syntax, notation, axiom, sorry.
-/
import Derived.Test.YtepdhokpfecdnaaChecked
import GoSem.Claim
import GoSem.ClaimJoined
import GoSem.ClaimMapViews
import Derived.JoinedTies
import Derived.KernelRfl
namespace Go.Proofs.Ytepdhokpfecdnaa
/- THE CELL 'sum', in the pinned program and in every row, IS THE sha256 OF THE DUMP (.gsa) THAT YtepdhokpfecdnaaProg.lean LOADS. Nothing in Lean hashes anything: it is a label: what it is worth is what the hold of that sum in a sandbox is worth. -/
noncomputable def Try.pinned : Pinned := { name := "ytepdhokpfecdnaa", sum := "ec8b0f680e90be4096fd794e0283662378742ce0af6d3731fc2830a961370187", checked := Try.checked }
namespace Rows
def none {H : Type} : Left H := { results := [], args := [] }

/-- 'selvagelaw11.GraphAll': WHATEVER THE INPUT: true; the input reads as it did. -/
def graphAllSpec : ChangeSpec := { name := "graphAll", fn := fun _ => fun
  | [d1, d2] => { results := [.lit (.bool true)], args := [d1, d2] }
  | _ => none }
def graphAllRow : OpenClaim := { program := "ytepdhokpfecdnaa", sum := "ec8b0f680e90be4096fd794e0283662378742ce0af6d3731fc2830a961370187", func := "selvage/selvagelaw11.GraphAll", spec := "graphAll", inPlace := ["internal/bytealg.Compare", "slices.overlaps[selvage/api.Id]"], unfollowed := true, recurses := true, plainKeys := false, apart := false }
def GraphAllSaid : Prop := graphAllRow.holds Try.pinned (OpenSpec.ofChange graphAllSpec)

/-- ITS FALSE NEIGHBOUR: 'it returns false'. Refute it at one input. -/
def graphAllWrong : ChangeSpec := { name := "graphAll", fn := fun _ => fun
  | [d1, d2] => { results := [.lit (.bool false)], args := [d1, d2] }
  | _ => none }
def GraphAllWrongFalsely : Prop := graphAllRow.holds Try.pinned (OpenSpec.ofChange graphAllWrong)

/-- 'selvagelaw11.GraphOrder': WHATEVER THE INPUT: true; the input reads as it did. -/
def graphOrderSpec : ChangeSpec := { name := "graphOrder", fn := fun _ => fun
  | [d1, d2, d3] => { results := [.lit (.bool true)], args := [d1, d2, d3] }
  | _ => none }
def graphOrderRow : OpenClaim := { program := "ytepdhokpfecdnaa", sum := "ec8b0f680e90be4096fd794e0283662378742ce0af6d3731fc2830a961370187", func := "selvage/selvagelaw11.GraphOrder", spec := "graphOrder", inPlace := ["internal/bytealg.Compare", "slices.overlaps[selvage/api.Id]"], unfollowed := true, recurses := true, plainKeys := false, apart := false }
def GraphOrderSaid : Prop := graphOrderRow.holds Try.pinned (OpenSpec.ofChange graphOrderSpec)

/-- ITS FALSE NEIGHBOUR: 'it returns false'. Refute it at one input. -/
def graphOrderWrong : ChangeSpec := { name := "graphOrder", fn := fun _ => fun
  | [d1, d2, d3] => { results := [.lit (.bool false)], args := [d1, d2, d3] }
  | _ => none }
def GraphOrderWrongFalsely : Prop := graphOrderRow.holds Try.pinned (OpenSpec.ofChange graphOrderWrong)

/-- 'selvagelaw11.GraphGen': WHATEVER THE INPUT: true; the input reads as it did. -/
def graphGenSpec : ChangeSpec := { name := "graphGen", fn := fun _ => fun
  | [d] => { results := [.lit (.bool true)], args := [d] }
  | _ => none }
def graphGenRow : OpenClaim := { program := "ytepdhokpfecdnaa", sum := "ec8b0f680e90be4096fd794e0283662378742ce0af6d3731fc2830a961370187", func := "selvage/selvagelaw11.GraphGen", spec := "graphGen", inPlace := ["internal/bytealg.Compare", "slices.overlaps[selvage/api.Id]"], unfollowed := true, recurses := true, plainKeys := false, apart := false }
def GraphGenSaid : Prop := graphGenRow.holds Try.pinned (OpenSpec.ofChange graphGenSpec)

/-- ITS FALSE NEIGHBOUR: 'it returns false'. Refute it at one input. -/
def graphGenWrong : ChangeSpec := { name := "graphGen", fn := fun _ => fun
  | [d] => { results := [.lit (.bool false)], args := [d] }
  | _ => none }
def GraphGenWrongFalsely : Prop := graphGenRow.holds Try.pinned (OpenSpec.ofChange graphGenWrong)

/-- 'selvagelaw11.GraphAsked': WHATEVER THE INPUT: true; the input reads as it did. -/
def graphAskedSpec : ChangeSpec := { name := "graphAsked", fn := fun _ => fun
  | [d] => { results := [.lit (.bool true)], args := [d] }
  | _ => none }
def graphAskedRow : OpenClaim := { program := "ytepdhokpfecdnaa", sum := "ec8b0f680e90be4096fd794e0283662378742ce0af6d3731fc2830a961370187", func := "selvage/selvagelaw11.GraphAsked", spec := "graphAsked", inPlace := ["internal/bytealg.Compare", "slices.overlaps[selvage/api.Id]"], unfollowed := true, recurses := true, plainKeys := false, apart := false }
def GraphAskedSaid : Prop := graphAskedRow.holds Try.pinned (OpenSpec.ofChange graphAskedSpec)

/-- ITS FALSE NEIGHBOUR: 'it returns false'. Refute it at one input. -/
def graphAskedWrong : ChangeSpec := { name := "graphAsked", fn := fun _ => fun
  | [d] => { results := [.lit (.bool false)], args := [d] }
  | _ => none }
def GraphAskedWrongFalsely : Prop := graphAskedRow.holds Try.pinned (OpenSpec.ofChange graphAskedWrong)

/-- 'selvagelaw11.GraphBases': WHATEVER THE INPUT: true; the input reads as it did. -/
def graphBasesSpec : ChangeSpec := { name := "graphBases", fn := fun _ => fun
  | [d1, d2, d3] => { results := [.lit (.bool true)], args := [d1, d2, d3] }
  | _ => none }
def graphBasesRow : OpenClaim := { program := "ytepdhokpfecdnaa", sum := "ec8b0f680e90be4096fd794e0283662378742ce0af6d3731fc2830a961370187", func := "selvage/selvagelaw11.GraphBases", spec := "graphBases", inPlace := ["internal/bytealg.Compare", "slices.overlaps[selvage/api.Id]", "internal/reflectlite.TypeOf"], unfollowed := true, recurses := true, plainKeys := false, apart := false }
def GraphBasesSaid : Prop := graphBasesRow.holds Try.pinned (OpenSpec.ofChange graphBasesSpec)

/-- ITS FALSE NEIGHBOUR: 'it returns false'. Refute it at one input. -/
def graphBasesWrong : ChangeSpec := { name := "graphBases", fn := fun _ => fun
  | [d1, d2, d3] => { results := [.lit (.bool false)], args := [d1, d2, d3] }
  | _ => none }
def GraphBasesWrongFalsely : Prop := graphBasesRow.holds Try.pinned (OpenSpec.ofChange graphBasesWrong)

/-- 'selvagelaw11.GraphAsks': WHATEVER THE INPUT: true; the input reads as it did. -/
def graphAsksSpec : ChangeSpec := { name := "graphAsks", fn := fun _ => fun
  | [d1, d2, d3, d4, d5] => { results := [.lit (.bool true)], args := [d1, d2, d3, d4, d5] }
  | _ => none }
def graphAsksRow : OpenClaim := { program := "ytepdhokpfecdnaa", sum := "ec8b0f680e90be4096fd794e0283662378742ce0af6d3731fc2830a961370187", func := "selvage/selvagelaw11.GraphAsks", spec := "graphAsks", inPlace := ["internal/bytealg.Compare", "slices.overlaps[selvage/api.Id]", "internal/reflectlite.TypeOf"], unfollowed := true, recurses := true, plainKeys := false, apart := false }
def GraphAsksSaid : Prop := graphAsksRow.holds Try.pinned (OpenSpec.ofChange graphAsksSpec)

/-- ITS FALSE NEIGHBOUR: 'it returns false'. Refute it at one input. -/
def graphAsksWrong : ChangeSpec := { name := "graphAsks", fn := fun _ => fun
  | [d1, d2, d3, d4, d5] => { results := [.lit (.bool false)], args := [d1, d2, d3, d4, d5] }
  | _ => none }
def GraphAsksWrongFalsely : Prop := graphAsksRow.holds Try.pinned (OpenSpec.ofChange graphAsksWrong)

/-- 'selvagelaw11.GraphLong': WHATEVER THE INPUT: true; the input reads as it did. -/
def graphLongSpec : ChangeSpec := { name := "graphLong", fn := fun _ => fun
  | [d1, d2] => { results := [.lit (.bool true)], args := [d1, d2] }
  | _ => none }
def graphLongRow : OpenClaim := { program := "ytepdhokpfecdnaa", sum := "ec8b0f680e90be4096fd794e0283662378742ce0af6d3731fc2830a961370187", func := "selvage/selvagelaw11.GraphLong", spec := "graphLong", inPlace := ["internal/bytealg.Compare", "slices.overlaps[selvage/api.Id]", "internal/reflectlite.TypeOf"], unfollowed := true, recurses := true, plainKeys := false, apart := false }
def GraphLongSaid : Prop := graphLongRow.holds Try.pinned (OpenSpec.ofChange graphLongSpec)

/-- ITS FALSE NEIGHBOUR: 'it returns false'. Refute it at one input. -/
def graphLongWrong : ChangeSpec := { name := "graphLong", fn := fun _ => fun
  | [d1, d2] => { results := [.lit (.bool false)], args := [d1, d2] }
  | _ => none }
def GraphLongWrongFalsely : Prop := graphLongRow.holds Try.pinned (OpenSpec.ofChange graphLongWrong)

/- THE SECOND FORM. 'bulk': how many values and letters a reading holds, each counted each time it is reached (what is shared counts as often as it is met; a slice's spare places count too). A statement '..UptoSaid' is the law's where the arguments, and the package variables that the reading takes, are together of bulk at most 1048576: NARROWER than '..Said'. Prove '..Said' where nothing that the law and all that it calls make is longer than what came in: it says more and counts as full. Else prove '..UptoSaid'. A law counts once. -/
mutual
def uptoBulk {H : Type} : DataW H → Nat
  | .lit (.string bytes) => bytes.length + 1
  | .lit _ => 1
  | .nil => 1
  | .ptr d => uptoBulk d + 1
  | .slice elems spare => uptoBulkAll elems + uptoBulkAll spare + 1
  | .agg parts => uptoBulkAll parts + 1
  | .iface _ d => uptoBulk d + 1
  | .map entries => uptoBulkEntries entries + 1
  | .held _ => 1
def uptoBulkAll {H : Type} : List (DataW H) → Nat
  | [] => 0
  | d :: r => uptoBulk d + uptoBulkAll r
def uptoBulkEntries {H : Type} : List (Lit × DataW H) → Nat
  | [] => 0
  | x :: r => uptoBulkEntry x + uptoBulkEntries r
def uptoBulkEntry {H : Type} : Lit × DataW H → Nat
  | (.string bytes, d) => bytes.length + uptoBulk d + 1
  | (_, d) => uptoBulk d + 1
 end
def uptoSmall : (H : Type) → List (DataW H) → Bool := fun _ ds => decide (uptoBulkAll ds ≤ 1048576)
def OpenSpec.upto (s : _root_.Go.ChangeSpec) : _root_.Go.OpenSpec := { _root_.Go.OpenSpec.ofChange s with cond := some uptoSmall }

/-- 'selvagelaw11.GraphAll', WHERE WHAT IT READS IS OF BULK AT MOST 1048576: true; the input reads as it did. -/
def graphAllUptoRow : OpenClaim := { program := "ytepdhokpfecdnaa", sum := "ec8b0f680e90be4096fd794e0283662378742ce0af6d3731fc2830a961370187", func := "selvage/selvagelaw11.GraphAll", spec := "graphAll", inPlace := ["internal/bytealg.Compare", "slices.overlaps[selvage/api.Id]"], unfollowed := true, recurses := true, plainKeys := false, apart := false, narrowed := true }
def GraphAllUptoSaid : Prop := graphAllUptoRow.holds Try.pinned (OpenSpec.upto graphAllSpec)

/-- 'selvagelaw11.GraphOrder', WHERE WHAT IT READS IS OF BULK AT MOST 1048576: true; the input reads as it did. -/
def graphOrderUptoRow : OpenClaim := { program := "ytepdhokpfecdnaa", sum := "ec8b0f680e90be4096fd794e0283662378742ce0af6d3731fc2830a961370187", func := "selvage/selvagelaw11.GraphOrder", spec := "graphOrder", inPlace := ["internal/bytealg.Compare", "slices.overlaps[selvage/api.Id]"], unfollowed := true, recurses := true, plainKeys := false, apart := false, narrowed := true }
def GraphOrderUptoSaid : Prop := graphOrderUptoRow.holds Try.pinned (OpenSpec.upto graphOrderSpec)

/-- 'selvagelaw11.GraphGen', WHERE WHAT IT READS IS OF BULK AT MOST 1048576: true; the input reads as it did. -/
def graphGenUptoRow : OpenClaim := { program := "ytepdhokpfecdnaa", sum := "ec8b0f680e90be4096fd794e0283662378742ce0af6d3731fc2830a961370187", func := "selvage/selvagelaw11.GraphGen", spec := "graphGen", inPlace := ["internal/bytealg.Compare", "slices.overlaps[selvage/api.Id]"], unfollowed := true, recurses := true, plainKeys := false, apart := false, narrowed := true }
def GraphGenUptoSaid : Prop := graphGenUptoRow.holds Try.pinned (OpenSpec.upto graphGenSpec)

/-- 'selvagelaw11.GraphAsked', WHERE WHAT IT READS IS OF BULK AT MOST 1048576: true; the input reads as it did. -/
def graphAskedUptoRow : OpenClaim := { program := "ytepdhokpfecdnaa", sum := "ec8b0f680e90be4096fd794e0283662378742ce0af6d3731fc2830a961370187", func := "selvage/selvagelaw11.GraphAsked", spec := "graphAsked", inPlace := ["internal/bytealg.Compare", "slices.overlaps[selvage/api.Id]"], unfollowed := true, recurses := true, plainKeys := false, apart := false, narrowed := true }
def GraphAskedUptoSaid : Prop := graphAskedUptoRow.holds Try.pinned (OpenSpec.upto graphAskedSpec)

/-- 'selvagelaw11.GraphBases', WHERE WHAT IT READS IS OF BULK AT MOST 1048576: true; the input reads as it did. -/
def graphBasesUptoRow : OpenClaim := { program := "ytepdhokpfecdnaa", sum := "ec8b0f680e90be4096fd794e0283662378742ce0af6d3731fc2830a961370187", func := "selvage/selvagelaw11.GraphBases", spec := "graphBases", inPlace := ["internal/bytealg.Compare", "slices.overlaps[selvage/api.Id]", "internal/reflectlite.TypeOf"], unfollowed := true, recurses := true, plainKeys := false, apart := false, narrowed := true }
def GraphBasesUptoSaid : Prop := graphBasesUptoRow.holds Try.pinned (OpenSpec.upto graphBasesSpec)

/-- 'selvagelaw11.GraphAsks', WHERE WHAT IT READS IS OF BULK AT MOST 1048576: true; the input reads as it did. -/
def graphAsksUptoRow : OpenClaim := { program := "ytepdhokpfecdnaa", sum := "ec8b0f680e90be4096fd794e0283662378742ce0af6d3731fc2830a961370187", func := "selvage/selvagelaw11.GraphAsks", spec := "graphAsks", inPlace := ["internal/bytealg.Compare", "slices.overlaps[selvage/api.Id]", "internal/reflectlite.TypeOf"], unfollowed := true, recurses := true, plainKeys := false, apart := false, narrowed := true }
def GraphAsksUptoSaid : Prop := graphAsksUptoRow.holds Try.pinned (OpenSpec.upto graphAsksSpec)

/-- 'selvagelaw11.GraphLong', WHERE WHAT IT READS IS OF BULK AT MOST 1048576: true; the input reads as it did. -/
def graphLongUptoRow : OpenClaim := { program := "ytepdhokpfecdnaa", sum := "ec8b0f680e90be4096fd794e0283662378742ce0af6d3731fc2830a961370187", func := "selvage/selvagelaw11.GraphLong", spec := "graphLong", inPlace := ["internal/bytealg.Compare", "slices.overlaps[selvage/api.Id]", "internal/reflectlite.TypeOf"], unfollowed := true, recurses := true, plainKeys := false, apart := false, narrowed := true }
def GraphLongUptoSaid : Prop := graphLongUptoRow.holds Try.pinned (OpenSpec.upto graphLongSpec)

end Rows
end Go.Proofs.Ytepdhokpfecdnaa
