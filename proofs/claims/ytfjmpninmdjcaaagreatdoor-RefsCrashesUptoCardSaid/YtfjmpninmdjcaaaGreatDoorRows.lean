/-
  NARROWER THAN 'FOR EVERY INPUT', by the rows' own cells (each row's printed sentence says how): RefsTogether: laid · RefsLogs: laid · RefsMany: laid · RefsOrder: laid · RefsChecks: laid · RefsSame: laid · RefsPlays: laid · RefsCrashes: laid.
  DERIVED. THE GIVEN ROWS OF THIS SEAT. 8 by the template 'for every input the law returns true; each argument reads behind the call as it read before'; 0 by the template 'total and deterministic' (their statements: YtfjmpninmdjcaaaGreatDoorTotals.lean).
  GIVEN WITH THE SEED: the statements are not yours to turn. If you find one false, say at which input.
  Laid BY PROGRAM, IN A SANDBOX (cutbox-rows.mjs): the forced cells as the released guide's own fill.sh prints them over the translation 0824c5eb457b528a… (all of the seat's roots in one cut). By AI agents, Wed Nov 11 2026. No macro, syntax, notation, axiom, sorry.
-/
import Derived.Test.YtfjmpninmdjcaaaGreatDoorChecked
import GoSem.PinnedTables
import GoSem.Claim
import GoSem.ClaimJoined
import GoSem.ClaimMapViews
import Derived.JoinedTies
import Derived.KernelRfl
namespace Go.Proofs.YtfjmpninmdjcaaaGreatDoor
/- THE CELL 'sum', in the pinned program and in every row, IS THE sha256 OF THE DUMP (.gsa) THAT YtfjmpninmdjcaaaGreatDoorProg.lean LOADS. Nothing in Lean hashes anything: it is a label: what it is worth is what the hold of that sum in a sandbox is worth. -/
noncomputable def Tryz.pinned : Pinned := { name := "ytfjmpninmdjcaaagreatdoor", sum := "0824c5eb457b528ad3507c6baad521fa86f6bbc9f5a018901db96babb60baa14", checked := Tryz.checked }
namespace Rows
def none {H : Type} : Left H := { results := [], args := [] }

/- WHAT THE LISTED PACKAGE-LEVEL VARIABLES READ AS WHEN THE CALL BEGINS. Each datum BY PROGRAM (the guide's laid-datum.mjs) off the statement by which the dump's own 'gosem.cut.vars' lays the variable. In a bare row this is a premise. The card (YtfjmpninmdjcaaaGreatDoorCards.lean) ties it to the program's text. -/
def laid_unicode_utf8_acceptRanges {H : Type} : DataW H := .agg [.agg [.lit (.int .u8 128), .lit (.int .u8 191)], .agg [.lit (.int .u8 160), .lit (.int .u8 191)], .agg [.lit (.int .u8 128), .lit (.int .u8 159)], .agg [.lit (.int .u8 144), .lit (.int .u8 191)], .agg [.lit (.int .u8 128), .lit (.int .u8 143)], .agg [.lit (.int .u8 0), .lit (.int .u8 0)], .agg [.lit (.int .u8 0), .lit (.int .u8 0)], .agg [.lit (.int .u8 0), .lit (.int .u8 0)], .agg [.lit (.int .u8 0), .lit (.int .u8 0)], .agg [.lit (.int .u8 0), .lit (.int .u8 0)], .agg [.lit (.int .u8 0), .lit (.int .u8 0)], .agg [.lit (.int .u8 0), .lit (.int .u8 0)], .agg [.lit (.int .u8 0), .lit (.int .u8 0)], .agg [.lit (.int .u8 0), .lit (.int .u8 0)], .agg [.lit (.int .u8 0), .lit (.int .u8 0)], .agg [.lit (.int .u8 0), .lit (.int .u8 0)]]
/-- One of Go's own tables, pinned by name: the form's constant. -/
def laid_unicode_utf8_first : DataW Unit := Go.Pinned.utf8First

/-- 'selvagelaw10.RefsTogether': WHATEVER THE INPUT: true; the input reads as it did. -/
def refsTogetherSpec : ChangeSpec := { name := "refsTogether", fn := fun _ => fun
  | [d1, d2, d3, d4] => { results := [.lit (.bool true)], args := [d1, d2, d3, d4] }
  | _ => none }
def refsTogetherRow : OpenClaim := { program := "ytfjmpninmdjcaaagreatdoor", sum := "0824c5eb457b528ad3507c6baad521fa86f6bbc9f5a018901db96babb60baa14", func := "selvage/selvagelaw10.RefsTogether", spec := "refsTogether", inPlace := ["internal/bytealg.IndexByteString", "internal/bytealg.IndexString", "sync/atomic.AddInt64", "maps.clone", "internal/bytealg.CountString", "internal/bytealg.Compare", "slices.overlaps[selvage/api.Memory]"], unfollowed := true, recurses := true, named := ["unicode/utf8.first", "unicode/utf8.acceptRanges", "internal/bytealg.MaxLen"], plainKeys := false, apart := false, laid := [("unicode/utf8.acceptRanges", laid_unicode_utf8_acceptRanges), ("unicode/utf8.first", laid_unicode_utf8_first)] }
def RefsTogetherSaid : Prop := refsTogetherRow.holds Tryz.pinned (OpenSpec.ofChange refsTogetherSpec)

/-- ITS FALSE NEIGHBOUR: 'it returns false'. Refute it at one input. -/
def refsTogetherWrong : ChangeSpec := { name := "refsTogether", fn := fun _ => fun
  | [d1, d2, d3, d4] => { results := [.lit (.bool false)], args := [d1, d2, d3, d4] }
  | _ => none }
def RefsTogetherWrongFalsely : Prop := refsTogetherRow.holds Tryz.pinned (OpenSpec.ofChange refsTogetherWrong)

/-- 'selvagelaw10.RefsLogs': WHATEVER THE INPUT: true; the input reads as it did. -/
def refsLogsSpec : ChangeSpec := { name := "refsLogs", fn := fun _ => fun
  | [d1, d2] => { results := [.lit (.bool true)], args := [d1, d2] }
  | _ => none }
def refsLogsRow : OpenClaim := { program := "ytfjmpninmdjcaaagreatdoor", sum := "0824c5eb457b528ad3507c6baad521fa86f6bbc9f5a018901db96babb60baa14", func := "selvage/selvagelaw10.RefsLogs", spec := "refsLogs", inPlace := ["internal/bytealg.IndexByteString", "internal/bytealg.IndexString", "sync/atomic.AddInt64", "maps.clone", "internal/bytealg.CountString", "internal/bytealg.Compare", "slices.overlaps[selvage/api.Memory]"], unfollowed := true, recurses := true, named := ["unicode/utf8.first", "unicode/utf8.acceptRanges", "internal/bytealg.MaxLen"], plainKeys := false, apart := false, laid := [("unicode/utf8.acceptRanges", laid_unicode_utf8_acceptRanges), ("unicode/utf8.first", laid_unicode_utf8_first)] }
def RefsLogsSaid : Prop := refsLogsRow.holds Tryz.pinned (OpenSpec.ofChange refsLogsSpec)

/-- ITS FALSE NEIGHBOUR: 'it returns false'. Refute it at one input. -/
def refsLogsWrong : ChangeSpec := { name := "refsLogs", fn := fun _ => fun
  | [d1, d2] => { results := [.lit (.bool false)], args := [d1, d2] }
  | _ => none }
def RefsLogsWrongFalsely : Prop := refsLogsRow.holds Tryz.pinned (OpenSpec.ofChange refsLogsWrong)

/-- 'selvagelaw10.RefsMany': WHATEVER THE INPUT: true; the input reads as it did. -/
def refsManySpec : ChangeSpec := { name := "refsMany", fn := fun _ => fun
  | [d1, d2] => { results := [.lit (.bool true)], args := [d1, d2] }
  | _ => none }
def refsManyRow : OpenClaim := { program := "ytfjmpninmdjcaaagreatdoor", sum := "0824c5eb457b528ad3507c6baad521fa86f6bbc9f5a018901db96babb60baa14", func := "selvage/selvagelaw10.RefsMany", spec := "refsMany", inPlace := ["internal/bytealg.IndexByteString", "internal/bytealg.IndexString", "sync/atomic.AddInt64", "maps.clone", "internal/bytealg.CountString", "internal/bytealg.Compare", "slices.overlaps[selvage/api.Memory]"], unfollowed := true, recurses := true, named := ["unicode/utf8.first", "unicode/utf8.acceptRanges", "internal/bytealg.MaxLen"], plainKeys := false, apart := false, laid := [("unicode/utf8.acceptRanges", laid_unicode_utf8_acceptRanges), ("unicode/utf8.first", laid_unicode_utf8_first)] }
def RefsManySaid : Prop := refsManyRow.holds Tryz.pinned (OpenSpec.ofChange refsManySpec)

/-- ITS FALSE NEIGHBOUR: 'it returns false'. Refute it at one input. -/
def refsManyWrong : ChangeSpec := { name := "refsMany", fn := fun _ => fun
  | [d1, d2] => { results := [.lit (.bool false)], args := [d1, d2] }
  | _ => none }
def RefsManyWrongFalsely : Prop := refsManyRow.holds Tryz.pinned (OpenSpec.ofChange refsManyWrong)

/-- 'selvagelaw10.RefsOrder': WHATEVER THE INPUT: true; the input reads as it did. -/
def refsOrderSpec : ChangeSpec := { name := "refsOrder", fn := fun _ => fun
  | [d1, d2] => { results := [.lit (.bool true)], args := [d1, d2] }
  | _ => none }
def refsOrderRow : OpenClaim := { program := "ytfjmpninmdjcaaagreatdoor", sum := "0824c5eb457b528ad3507c6baad521fa86f6bbc9f5a018901db96babb60baa14", func := "selvage/selvagelaw10.RefsOrder", spec := "refsOrder", inPlace := ["internal/bytealg.IndexByteString", "internal/bytealg.IndexString", "sync/atomic.AddInt64", "maps.clone", "internal/bytealg.CountString", "internal/bytealg.Compare", "slices.overlaps[selvage/api.Memory]"], unfollowed := true, recurses := true, named := ["unicode/utf8.first", "unicode/utf8.acceptRanges", "internal/bytealg.MaxLen"], plainKeys := false, apart := false, laid := [("unicode/utf8.acceptRanges", laid_unicode_utf8_acceptRanges), ("unicode/utf8.first", laid_unicode_utf8_first)] }
def RefsOrderSaid : Prop := refsOrderRow.holds Tryz.pinned (OpenSpec.ofChange refsOrderSpec)

/-- ITS FALSE NEIGHBOUR: 'it returns false'. Refute it at one input. -/
def refsOrderWrong : ChangeSpec := { name := "refsOrder", fn := fun _ => fun
  | [d1, d2] => { results := [.lit (.bool false)], args := [d1, d2] }
  | _ => none }
def RefsOrderWrongFalsely : Prop := refsOrderRow.holds Tryz.pinned (OpenSpec.ofChange refsOrderWrong)

/-- 'selvagelaw10.RefsChecks': WHATEVER THE INPUT: true; the input reads as it did. -/
def refsChecksSpec : ChangeSpec := { name := "refsChecks", fn := fun _ => fun
  | [d1, d2, d3] => { results := [.lit (.bool true)], args := [d1, d2, d3] }
  | _ => none }
def refsChecksRow : OpenClaim := { program := "ytfjmpninmdjcaaagreatdoor", sum := "0824c5eb457b528ad3507c6baad521fa86f6bbc9f5a018901db96babb60baa14", func := "selvage/selvagelaw10.RefsChecks", spec := "refsChecks", inPlace := ["internal/bytealg.IndexByteString", "internal/bytealg.IndexString", "sync/atomic.AddInt64", "maps.clone", "internal/bytealg.CountString", "internal/bytealg.Compare", "slices.overlaps[selvage/api.Memory]"], unfollowed := true, recurses := true, named := ["unicode/utf8.first", "unicode/utf8.acceptRanges", "internal/bytealg.MaxLen"], plainKeys := false, apart := false, laid := [("unicode/utf8.acceptRanges", laid_unicode_utf8_acceptRanges), ("unicode/utf8.first", laid_unicode_utf8_first)] }
def RefsChecksSaid : Prop := refsChecksRow.holds Tryz.pinned (OpenSpec.ofChange refsChecksSpec)

/-- ITS FALSE NEIGHBOUR: 'it returns false'. Refute it at one input. -/
def refsChecksWrong : ChangeSpec := { name := "refsChecks", fn := fun _ => fun
  | [d1, d2, d3] => { results := [.lit (.bool false)], args := [d1, d2, d3] }
  | _ => none }
def RefsChecksWrongFalsely : Prop := refsChecksRow.holds Tryz.pinned (OpenSpec.ofChange refsChecksWrong)

/-- 'selvagelaw10.RefsSame': WHATEVER THE INPUT: true; the input reads as it did. -/
def refsSameSpec : ChangeSpec := { name := "refsSame", fn := fun _ => fun
  | [d1, d2, d3] => { results := [.lit (.bool true)], args := [d1, d2, d3] }
  | _ => none }
def refsSameRow : OpenClaim := { program := "ytfjmpninmdjcaaagreatdoor", sum := "0824c5eb457b528ad3507c6baad521fa86f6bbc9f5a018901db96babb60baa14", func := "selvage/selvagelaw10.RefsSame", spec := "refsSame", inPlace := ["internal/bytealg.IndexByteString", "internal/bytealg.IndexString", "sync/atomic.AddInt64", "maps.clone", "internal/bytealg.CountString", "internal/bytealg.Compare", "slices.overlaps[selvage/api.Memory]"], unfollowed := true, recurses := true, named := ["unicode/utf8.first", "unicode/utf8.acceptRanges", "internal/bytealg.MaxLen"], plainKeys := false, apart := false, laid := [("unicode/utf8.acceptRanges", laid_unicode_utf8_acceptRanges), ("unicode/utf8.first", laid_unicode_utf8_first)] }
def RefsSameSaid : Prop := refsSameRow.holds Tryz.pinned (OpenSpec.ofChange refsSameSpec)

/-- ITS FALSE NEIGHBOUR: 'it returns false'. Refute it at one input. -/
def refsSameWrong : ChangeSpec := { name := "refsSame", fn := fun _ => fun
  | [d1, d2, d3] => { results := [.lit (.bool false)], args := [d1, d2, d3] }
  | _ => none }
def RefsSameWrongFalsely : Prop := refsSameRow.holds Tryz.pinned (OpenSpec.ofChange refsSameWrong)

/-- 'selvagelaw10.RefsPlays': WHATEVER THE INPUT: true; the input reads as it did. -/
def refsPlaysSpec : ChangeSpec := { name := "refsPlays", fn := fun _ => fun
  | [d1, d2] => { results := [.lit (.bool true)], args := [d1, d2] }
  | _ => none }
def refsPlaysRow : OpenClaim := { program := "ytfjmpninmdjcaaagreatdoor", sum := "0824c5eb457b528ad3507c6baad521fa86f6bbc9f5a018901db96babb60baa14", func := "selvage/selvagelaw10.RefsPlays", spec := "refsPlays", inPlace := ["internal/bytealg.IndexByteString", "internal/bytealg.IndexString", "sync/atomic.AddInt64", "maps.clone", "internal/bytealg.CountString", "internal/bytealg.Compare", "slices.overlaps[selvage/api.Memory]"], unfollowed := true, recurses := true, named := ["unicode/utf8.first", "unicode/utf8.acceptRanges", "internal/bytealg.MaxLen"], plainKeys := false, apart := false, laid := [("unicode/utf8.acceptRanges", laid_unicode_utf8_acceptRanges), ("unicode/utf8.first", laid_unicode_utf8_first)] }
def RefsPlaysSaid : Prop := refsPlaysRow.holds Tryz.pinned (OpenSpec.ofChange refsPlaysSpec)

/-- ITS FALSE NEIGHBOUR: 'it returns false'. Refute it at one input. -/
def refsPlaysWrong : ChangeSpec := { name := "refsPlays", fn := fun _ => fun
  | [d1, d2] => { results := [.lit (.bool false)], args := [d1, d2] }
  | _ => none }
def RefsPlaysWrongFalsely : Prop := refsPlaysRow.holds Tryz.pinned (OpenSpec.ofChange refsPlaysWrong)

/-- 'selvagelaw10.RefsCrashes': WHATEVER THE INPUT: true; the input reads as it did. -/
def refsCrashesSpec : ChangeSpec := { name := "refsCrashes", fn := fun _ => fun
  | [d1, d2, d3, d4, d5] => { results := [.lit (.bool true)], args := [d1, d2, d3, d4, d5] }
  | _ => none }
def refsCrashesRow : OpenClaim := { program := "ytfjmpninmdjcaaagreatdoor", sum := "0824c5eb457b528ad3507c6baad521fa86f6bbc9f5a018901db96babb60baa14", func := "selvage/selvagelaw10.RefsCrashes", spec := "refsCrashes", inPlace := ["internal/bytealg.IndexByteString", "internal/bytealg.IndexString", "sync/atomic.AddInt64", "maps.clone", "internal/bytealg.CountString", "internal/bytealg.Compare", "slices.overlaps[selvage/api.Memory]"], unfollowed := true, recurses := true, named := ["unicode/utf8.first", "unicode/utf8.acceptRanges", "internal/bytealg.MaxLen"], plainKeys := false, apart := false, laid := [("unicode/utf8.acceptRanges", laid_unicode_utf8_acceptRanges), ("unicode/utf8.first", laid_unicode_utf8_first)] }
def RefsCrashesSaid : Prop := refsCrashesRow.holds Tryz.pinned (OpenSpec.ofChange refsCrashesSpec)

/-- ITS FALSE NEIGHBOUR: 'it returns false'. Refute it at one input. -/
def refsCrashesWrong : ChangeSpec := { name := "refsCrashes", fn := fun _ => fun
  | [d1, d2, d3, d4, d5] => { results := [.lit (.bool false)], args := [d1, d2, d3, d4, d5] }
  | _ => none }
def RefsCrashesWrongFalsely : Prop := refsCrashesRow.holds Tryz.pinned (OpenSpec.ofChange refsCrashesWrong)

/- THE SECOND FORM. 'bulk': how many values and letters a reading holds, each counted each time it is reached (what is shared counts as often as it is met; a slice's spare places count too). A statement '..UptoSaid' is the law's where the arguments, and the package variables that the reading takes, are together of bulk at most 1048576: NARROWER than '..Said'. Prove '..Said' where nothing that the law and all that it calls make is longer than what came in: it says more and counts as full. Else prove '..UptoSaid'. A law counts once. -/
mutual
def uptoBulk {H : Type} : DataW H → Nat
  | .lit (.string bytes) => bytes.length + 1
  | .lit _ => 1
  | .nil => 1
  | .ptr d => uptoBulk d + 1
  | .slice elems spare => uptoBulkAll elems + uptoBulkAll spare + 1
  | .agg parts => uptoBulkAll parts + 1
  | .iface _ d => uptoBulk d + 1
  | .map entries => uptoBulkEntries entries + 1
  | .held _ => 1
def uptoBulkAll {H : Type} : List (DataW H) → Nat
  | [] => 0
  | d :: r => uptoBulk d + uptoBulkAll r
def uptoBulkEntries {H : Type} : List (Lit × DataW H) → Nat
  | [] => 0
  | x :: r => uptoBulkEntry x + uptoBulkEntries r
def uptoBulkEntry {H : Type} : Lit × DataW H → Nat
  | (.string bytes, d) => bytes.length + uptoBulk d + 1
  | (_, d) => uptoBulk d + 1
 end
def uptoSmall : (H : Type) → List (DataW H) → Bool := fun _ ds => decide (uptoBulkAll ds ≤ 1048576)
def OpenSpec.upto (s : _root_.Go.ChangeSpec) : _root_.Go.OpenSpec := { _root_.Go.OpenSpec.ofChange s with cond := some uptoSmall }

/-- 'selvagelaw10.RefsTogether', WHERE WHAT IT READS IS OF BULK AT MOST 1048576: true; the input reads as it did. -/
def refsTogetherUptoRow : OpenClaim := { program := "ytfjmpninmdjcaaagreatdoor", sum := "0824c5eb457b528ad3507c6baad521fa86f6bbc9f5a018901db96babb60baa14", func := "selvage/selvagelaw10.RefsTogether", spec := "refsTogether", inPlace := ["internal/bytealg.IndexByteString", "internal/bytealg.IndexString", "sync/atomic.AddInt64", "maps.clone", "internal/bytealg.CountString", "internal/bytealg.Compare", "slices.overlaps[selvage/api.Memory]"], unfollowed := true, recurses := true, named := ["unicode/utf8.first", "unicode/utf8.acceptRanges", "internal/bytealg.MaxLen"], plainKeys := false, apart := false, laid := [("unicode/utf8.acceptRanges", laid_unicode_utf8_acceptRanges), ("unicode/utf8.first", laid_unicode_utf8_first)], narrowed := true }
def RefsTogetherUptoSaid : Prop := refsTogetherUptoRow.holds Tryz.pinned (OpenSpec.upto refsTogetherSpec)

/-- 'selvagelaw10.RefsLogs', WHERE WHAT IT READS IS OF BULK AT MOST 1048576: true; the input reads as it did. -/
def refsLogsUptoRow : OpenClaim := { program := "ytfjmpninmdjcaaagreatdoor", sum := "0824c5eb457b528ad3507c6baad521fa86f6bbc9f5a018901db96babb60baa14", func := "selvage/selvagelaw10.RefsLogs", spec := "refsLogs", inPlace := ["internal/bytealg.IndexByteString", "internal/bytealg.IndexString", "sync/atomic.AddInt64", "maps.clone", "internal/bytealg.CountString", "internal/bytealg.Compare", "slices.overlaps[selvage/api.Memory]"], unfollowed := true, recurses := true, named := ["unicode/utf8.first", "unicode/utf8.acceptRanges", "internal/bytealg.MaxLen"], plainKeys := false, apart := false, laid := [("unicode/utf8.acceptRanges", laid_unicode_utf8_acceptRanges), ("unicode/utf8.first", laid_unicode_utf8_first)], narrowed := true }
def RefsLogsUptoSaid : Prop := refsLogsUptoRow.holds Tryz.pinned (OpenSpec.upto refsLogsSpec)

/-- 'selvagelaw10.RefsMany', WHERE WHAT IT READS IS OF BULK AT MOST 1048576: true; the input reads as it did. -/
def refsManyUptoRow : OpenClaim := { program := "ytfjmpninmdjcaaagreatdoor", sum := "0824c5eb457b528ad3507c6baad521fa86f6bbc9f5a018901db96babb60baa14", func := "selvage/selvagelaw10.RefsMany", spec := "refsMany", inPlace := ["internal/bytealg.IndexByteString", "internal/bytealg.IndexString", "sync/atomic.AddInt64", "maps.clone", "internal/bytealg.CountString", "internal/bytealg.Compare", "slices.overlaps[selvage/api.Memory]"], unfollowed := true, recurses := true, named := ["unicode/utf8.first", "unicode/utf8.acceptRanges", "internal/bytealg.MaxLen"], plainKeys := false, apart := false, laid := [("unicode/utf8.acceptRanges", laid_unicode_utf8_acceptRanges), ("unicode/utf8.first", laid_unicode_utf8_first)], narrowed := true }
def RefsManyUptoSaid : Prop := refsManyUptoRow.holds Tryz.pinned (OpenSpec.upto refsManySpec)

/-- 'selvagelaw10.RefsOrder', WHERE WHAT IT READS IS OF BULK AT MOST 1048576: true; the input reads as it did. -/
def refsOrderUptoRow : OpenClaim := { program := "ytfjmpninmdjcaaagreatdoor", sum := "0824c5eb457b528ad3507c6baad521fa86f6bbc9f5a018901db96babb60baa14", func := "selvage/selvagelaw10.RefsOrder", spec := "refsOrder", inPlace := ["internal/bytealg.IndexByteString", "internal/bytealg.IndexString", "sync/atomic.AddInt64", "maps.clone", "internal/bytealg.CountString", "internal/bytealg.Compare", "slices.overlaps[selvage/api.Memory]"], unfollowed := true, recurses := true, named := ["unicode/utf8.first", "unicode/utf8.acceptRanges", "internal/bytealg.MaxLen"], plainKeys := false, apart := false, laid := [("unicode/utf8.acceptRanges", laid_unicode_utf8_acceptRanges), ("unicode/utf8.first", laid_unicode_utf8_first)], narrowed := true }
def RefsOrderUptoSaid : Prop := refsOrderUptoRow.holds Tryz.pinned (OpenSpec.upto refsOrderSpec)

/-- 'selvagelaw10.RefsChecks', WHERE WHAT IT READS IS OF BULK AT MOST 1048576: true; the input reads as it did. -/
def refsChecksUptoRow : OpenClaim := { program := "ytfjmpninmdjcaaagreatdoor", sum := "0824c5eb457b528ad3507c6baad521fa86f6bbc9f5a018901db96babb60baa14", func := "selvage/selvagelaw10.RefsChecks", spec := "refsChecks", inPlace := ["internal/bytealg.IndexByteString", "internal/bytealg.IndexString", "sync/atomic.AddInt64", "maps.clone", "internal/bytealg.CountString", "internal/bytealg.Compare", "slices.overlaps[selvage/api.Memory]"], unfollowed := true, recurses := true, named := ["unicode/utf8.first", "unicode/utf8.acceptRanges", "internal/bytealg.MaxLen"], plainKeys := false, apart := false, laid := [("unicode/utf8.acceptRanges", laid_unicode_utf8_acceptRanges), ("unicode/utf8.first", laid_unicode_utf8_first)], narrowed := true }
def RefsChecksUptoSaid : Prop := refsChecksUptoRow.holds Tryz.pinned (OpenSpec.upto refsChecksSpec)

/-- 'selvagelaw10.RefsSame', WHERE WHAT IT READS IS OF BULK AT MOST 1048576: true; the input reads as it did. -/
def refsSameUptoRow : OpenClaim := { program := "ytfjmpninmdjcaaagreatdoor", sum := "0824c5eb457b528ad3507c6baad521fa86f6bbc9f5a018901db96babb60baa14", func := "selvage/selvagelaw10.RefsSame", spec := "refsSame", inPlace := ["internal/bytealg.IndexByteString", "internal/bytealg.IndexString", "sync/atomic.AddInt64", "maps.clone", "internal/bytealg.CountString", "internal/bytealg.Compare", "slices.overlaps[selvage/api.Memory]"], unfollowed := true, recurses := true, named := ["unicode/utf8.first", "unicode/utf8.acceptRanges", "internal/bytealg.MaxLen"], plainKeys := false, apart := false, laid := [("unicode/utf8.acceptRanges", laid_unicode_utf8_acceptRanges), ("unicode/utf8.first", laid_unicode_utf8_first)], narrowed := true }
def RefsSameUptoSaid : Prop := refsSameUptoRow.holds Tryz.pinned (OpenSpec.upto refsSameSpec)

/-- 'selvagelaw10.RefsPlays', WHERE WHAT IT READS IS OF BULK AT MOST 1048576: true; the input reads as it did. -/
def refsPlaysUptoRow : OpenClaim := { program := "ytfjmpninmdjcaaagreatdoor", sum := "0824c5eb457b528ad3507c6baad521fa86f6bbc9f5a018901db96babb60baa14", func := "selvage/selvagelaw10.RefsPlays", spec := "refsPlays", inPlace := ["internal/bytealg.IndexByteString", "internal/bytealg.IndexString", "sync/atomic.AddInt64", "maps.clone", "internal/bytealg.CountString", "internal/bytealg.Compare", "slices.overlaps[selvage/api.Memory]"], unfollowed := true, recurses := true, named := ["unicode/utf8.first", "unicode/utf8.acceptRanges", "internal/bytealg.MaxLen"], plainKeys := false, apart := false, laid := [("unicode/utf8.acceptRanges", laid_unicode_utf8_acceptRanges), ("unicode/utf8.first", laid_unicode_utf8_first)], narrowed := true }
def RefsPlaysUptoSaid : Prop := refsPlaysUptoRow.holds Tryz.pinned (OpenSpec.upto refsPlaysSpec)

/-- 'selvagelaw10.RefsCrashes', WHERE WHAT IT READS IS OF BULK AT MOST 1048576: true; the input reads as it did. -/
def refsCrashesUptoRow : OpenClaim := { program := "ytfjmpninmdjcaaagreatdoor", sum := "0824c5eb457b528ad3507c6baad521fa86f6bbc9f5a018901db96babb60baa14", func := "selvage/selvagelaw10.RefsCrashes", spec := "refsCrashes", inPlace := ["internal/bytealg.IndexByteString", "internal/bytealg.IndexString", "sync/atomic.AddInt64", "maps.clone", "internal/bytealg.CountString", "internal/bytealg.Compare", "slices.overlaps[selvage/api.Memory]"], unfollowed := true, recurses := true, named := ["unicode/utf8.first", "unicode/utf8.acceptRanges", "internal/bytealg.MaxLen"], plainKeys := false, apart := false, laid := [("unicode/utf8.acceptRanges", laid_unicode_utf8_acceptRanges), ("unicode/utf8.first", laid_unicode_utf8_first)], narrowed := true }
def RefsCrashesUptoSaid : Prop := refsCrashesUptoRow.holds Tryz.pinned (OpenSpec.upto refsCrashesSpec)

end Rows
end Go.Proofs.YtfjmpninmdjcaaaGreatDoor
