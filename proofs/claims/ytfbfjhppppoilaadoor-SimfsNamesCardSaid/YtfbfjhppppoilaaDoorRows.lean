/-
  NARROWER THAN 'FOR EVERY INPUT', by the rows' own cells (each row's printed sentence says how): SimfsNames: laid · SimfsOwn: laid · SimfsFull: laid · SimfsTorn: laid · SimfsOrder: laid · SimfsPublish: laid · SimfsStays: laid · SimfsDead: laid.
  DERIVED. THE GIVEN ROWS OF THIS SEAT. 8 by the template 'for every input the law returns true; each argument reads behind the call as it read before'; 0 by the template 'total and deterministic' (their statements: YtfbfjhppppoilaaDoorTotals.lean).
  GIVEN WITH THE SEED: the statements are not yours to turn. If you find one false, say at which input.
  Laid BY PROGRAM, IN A SANDBOX (cutbox-rows.mjs): the forced cells as the released guide's own fill.sh prints them over the translation cceb083e56b33340… (all of the seat's roots in one cut). By AI agents, Wed Nov 11 2026. No macro, syntax, notation, axiom, sorry.
-/
import Derived.Test.YtfbfjhppppoilaaDoorChecked
import GoSem.PinnedTables
import GoSem.Claim
import GoSem.ClaimJoined
import GoSem.ClaimMapViews
import Derived.JoinedTies
import Derived.KernelRfl
namespace Go.Proofs.YtfbfjhppppoilaaDoor
/- THE CELL 'sum', in the pinned program and in every row, IS THE sha256 OF THE DUMP (.gsa) THAT YtfbfjhppppoilaaDoorProg.lean LOADS. Nothing in Lean hashes anything: it is a label: what it is worth is what the hold of that sum in a sandbox is worth. -/
noncomputable def Tryd.pinned : Pinned := { name := "ytfbfjhppppoilaadoor", sum := "cceb083e56b33340b85b507e08e463607a4b306308b055b96ab15b38f1f13c86", checked := Tryd.checked }
namespace Rows
def none {H : Type} : Left H := { results := [], args := [] }

/- WHAT THE LISTED PACKAGE-LEVEL VARIABLES READ AS WHEN THE CALL BEGINS. Each datum BY PROGRAM (the guide's laid-datum.mjs) off the statement by which the dump's own 'gosem.cut.vars' lays the variable. In a bare row this is a premise. The card (YtfbfjhppppoilaaDoorCards.lean) ties it to the program's text. -/
def laid_unicode_utf8_acceptRanges {H : Type} : DataW H := .agg [.agg [.lit (.int .u8 128), .lit (.int .u8 191)], .agg [.lit (.int .u8 160), .lit (.int .u8 191)], .agg [.lit (.int .u8 128), .lit (.int .u8 159)], .agg [.lit (.int .u8 144), .lit (.int .u8 191)], .agg [.lit (.int .u8 128), .lit (.int .u8 143)], .agg [.lit (.int .u8 0), .lit (.int .u8 0)], .agg [.lit (.int .u8 0), .lit (.int .u8 0)], .agg [.lit (.int .u8 0), .lit (.int .u8 0)], .agg [.lit (.int .u8 0), .lit (.int .u8 0)], .agg [.lit (.int .u8 0), .lit (.int .u8 0)], .agg [.lit (.int .u8 0), .lit (.int .u8 0)], .agg [.lit (.int .u8 0), .lit (.int .u8 0)], .agg [.lit (.int .u8 0), .lit (.int .u8 0)], .agg [.lit (.int .u8 0), .lit (.int .u8 0)], .agg [.lit (.int .u8 0), .lit (.int .u8 0)], .agg [.lit (.int .u8 0), .lit (.int .u8 0)]]
/-- One of Go's own tables, pinned by name: the form's constant. -/
def laid_unicode_utf8_first : DataW Unit := Go.Pinned.utf8First

/-- 'selvagelaw2.SimfsNames': WHATEVER THE INPUT: true; the input reads as it did. -/
def simfsNamesSpec : ChangeSpec := { name := "simfsNames", fn := fun _ => fun
  | [d] => { results := [.lit (.bool true)], args := [d] }
  | _ => none }
def simfsNamesRow : OpenClaim := { program := "ytfbfjhppppoilaadoor", sum := "cceb083e56b33340b85b507e08e463607a4b306308b055b96ab15b38f1f13c86", func := "selvage/selvagelaw2.SimfsNames", spec := "simfsNames", inPlace := ["sync/atomic.AddInt64", "internal/bytealg.IndexByteString", "internal/bytealg.IndexString", "maps.clone"], unfollowed := true, recurses := true, named := ["unicode/utf8.first", "unicode/utf8.acceptRanges", "internal/bytealg.MaxLen"], apart := false, laid := [("unicode/utf8.acceptRanges", laid_unicode_utf8_acceptRanges), ("unicode/utf8.first", laid_unicode_utf8_first)] }
def SimfsNamesSaid : Prop := simfsNamesRow.holds Tryd.pinned (OpenSpec.ofChange simfsNamesSpec)

/-- ITS FALSE NEIGHBOUR: 'it returns false'. Refute it at one input. -/
def simfsNamesWrong : ChangeSpec := { name := "simfsNames", fn := fun _ => fun
  | [d] => { results := [.lit (.bool false)], args := [d] }
  | _ => none }
def SimfsNamesWrongFalsely : Prop := simfsNamesRow.holds Tryd.pinned (OpenSpec.ofChange simfsNamesWrong)

/-- 'selvagelaw2.SimfsOwn': WHATEVER THE INPUT: true; the input reads as it did. -/
def simfsOwnSpec : ChangeSpec := { name := "simfsOwn", fn := fun _ => fun
  | [d] => { results := [.lit (.bool true)], args := [d] }
  | _ => none }
def simfsOwnRow : OpenClaim := { program := "ytfbfjhppppoilaadoor", sum := "cceb083e56b33340b85b507e08e463607a4b306308b055b96ab15b38f1f13c86", func := "selvage/selvagelaw2.SimfsOwn", spec := "simfsOwn", inPlace := ["sync/atomic.AddInt64", "internal/bytealg.IndexByteString", "internal/bytealg.IndexString", "maps.clone"], unfollowed := true, recurses := true, named := ["unicode/utf8.first", "unicode/utf8.acceptRanges", "internal/bytealg.MaxLen"], apart := false, laid := [("unicode/utf8.acceptRanges", laid_unicode_utf8_acceptRanges), ("unicode/utf8.first", laid_unicode_utf8_first)] }
def SimfsOwnSaid : Prop := simfsOwnRow.holds Tryd.pinned (OpenSpec.ofChange simfsOwnSpec)

/-- ITS FALSE NEIGHBOUR: 'it returns false'. Refute it at one input. -/
def simfsOwnWrong : ChangeSpec := { name := "simfsOwn", fn := fun _ => fun
  | [d] => { results := [.lit (.bool false)], args := [d] }
  | _ => none }
def SimfsOwnWrongFalsely : Prop := simfsOwnRow.holds Tryd.pinned (OpenSpec.ofChange simfsOwnWrong)

/-- 'selvagelaw2.SimfsFull': WHATEVER THE INPUT: true; the input reads as it did. -/
def simfsFullSpec : ChangeSpec := { name := "simfsFull", fn := fun _ => fun
  | [d1, d2, d3] => { results := [.lit (.bool true)], args := [d1, d2, d3] }
  | _ => none }
def simfsFullRow : OpenClaim := { program := "ytfbfjhppppoilaadoor", sum := "cceb083e56b33340b85b507e08e463607a4b306308b055b96ab15b38f1f13c86", func := "selvage/selvagelaw2.SimfsFull", spec := "simfsFull", inPlace := ["sync/atomic.AddInt64", "internal/bytealg.IndexByteString", "internal/bytealg.IndexString", "maps.clone"], unfollowed := true, recurses := true, named := ["unicode/utf8.first", "unicode/utf8.acceptRanges", "internal/bytealg.MaxLen"], apart := false, laid := [("unicode/utf8.acceptRanges", laid_unicode_utf8_acceptRanges), ("unicode/utf8.first", laid_unicode_utf8_first)] }
def SimfsFullSaid : Prop := simfsFullRow.holds Tryd.pinned (OpenSpec.ofChange simfsFullSpec)

/-- ITS FALSE NEIGHBOUR: 'it returns false'. Refute it at one input. -/
def simfsFullWrong : ChangeSpec := { name := "simfsFull", fn := fun _ => fun
  | [d1, d2, d3] => { results := [.lit (.bool false)], args := [d1, d2, d3] }
  | _ => none }
def SimfsFullWrongFalsely : Prop := simfsFullRow.holds Tryd.pinned (OpenSpec.ofChange simfsFullWrong)

/-- 'selvagelaw2.SimfsTorn': WHATEVER THE INPUT: true; the input reads as it did. -/
def simfsTornSpec : ChangeSpec := { name := "simfsTorn", fn := fun _ => fun
  | [d1, d2, d3, d4] => { results := [.lit (.bool true)], args := [d1, d2, d3, d4] }
  | _ => none }
def simfsTornRow : OpenClaim := { program := "ytfbfjhppppoilaadoor", sum := "cceb083e56b33340b85b507e08e463607a4b306308b055b96ab15b38f1f13c86", func := "selvage/selvagelaw2.SimfsTorn", spec := "simfsTorn", inPlace := ["sync/atomic.AddInt64", "internal/bytealg.IndexByteString", "internal/bytealg.IndexString", "maps.clone"], unfollowed := true, recurses := true, named := ["unicode/utf8.first", "unicode/utf8.acceptRanges", "internal/bytealg.MaxLen"], apart := false, laid := [("unicode/utf8.acceptRanges", laid_unicode_utf8_acceptRanges), ("unicode/utf8.first", laid_unicode_utf8_first)] }
def SimfsTornSaid : Prop := simfsTornRow.holds Tryd.pinned (OpenSpec.ofChange simfsTornSpec)

/-- ITS FALSE NEIGHBOUR: 'it returns false'. Refute it at one input. -/
def simfsTornWrong : ChangeSpec := { name := "simfsTorn", fn := fun _ => fun
  | [d1, d2, d3, d4] => { results := [.lit (.bool false)], args := [d1, d2, d3, d4] }
  | _ => none }
def SimfsTornWrongFalsely : Prop := simfsTornRow.holds Tryd.pinned (OpenSpec.ofChange simfsTornWrong)

/-- 'selvagelaw2.SimfsOrder': WHATEVER THE INPUT: true; the input reads as it did. -/
def simfsOrderSpec : ChangeSpec := { name := "simfsOrder", fn := fun _ => fun
  | [d1, d2] => { results := [.lit (.bool true)], args := [d1, d2] }
  | _ => none }
def simfsOrderRow : OpenClaim := { program := "ytfbfjhppppoilaadoor", sum := "cceb083e56b33340b85b507e08e463607a4b306308b055b96ab15b38f1f13c86", func := "selvage/selvagelaw2.SimfsOrder", spec := "simfsOrder", inPlace := ["sync/atomic.AddInt64", "internal/bytealg.IndexByteString", "internal/bytealg.IndexString", "maps.clone"], unfollowed := true, recurses := true, named := ["unicode/utf8.first", "unicode/utf8.acceptRanges", "internal/bytealg.MaxLen"], apart := false, laid := [("unicode/utf8.acceptRanges", laid_unicode_utf8_acceptRanges), ("unicode/utf8.first", laid_unicode_utf8_first)] }
def SimfsOrderSaid : Prop := simfsOrderRow.holds Tryd.pinned (OpenSpec.ofChange simfsOrderSpec)

/-- ITS FALSE NEIGHBOUR: 'it returns false'. Refute it at one input. -/
def simfsOrderWrong : ChangeSpec := { name := "simfsOrder", fn := fun _ => fun
  | [d1, d2] => { results := [.lit (.bool false)], args := [d1, d2] }
  | _ => none }
def SimfsOrderWrongFalsely : Prop := simfsOrderRow.holds Tryd.pinned (OpenSpec.ofChange simfsOrderWrong)

/-- 'selvagelaw2.SimfsPublish': WHATEVER THE INPUT: true; the input reads as it did. -/
def simfsPublishSpec : ChangeSpec := { name := "simfsPublish", fn := fun _ => fun
  | [d1, d2, d3, d4] => { results := [.lit (.bool true)], args := [d1, d2, d3, d4] }
  | _ => none }
def simfsPublishRow : OpenClaim := { program := "ytfbfjhppppoilaadoor", sum := "cceb083e56b33340b85b507e08e463607a4b306308b055b96ab15b38f1f13c86", func := "selvage/selvagelaw2.SimfsPublish", spec := "simfsPublish", inPlace := ["sync/atomic.AddInt64", "internal/bytealg.IndexByteString", "internal/bytealg.IndexString", "maps.clone"], unfollowed := true, recurses := true, named := ["unicode/utf8.first", "unicode/utf8.acceptRanges", "internal/bytealg.MaxLen"], apart := false, laid := [("unicode/utf8.acceptRanges", laid_unicode_utf8_acceptRanges), ("unicode/utf8.first", laid_unicode_utf8_first)] }
def SimfsPublishSaid : Prop := simfsPublishRow.holds Tryd.pinned (OpenSpec.ofChange simfsPublishSpec)

/-- ITS FALSE NEIGHBOUR: 'it returns false'. Refute it at one input. -/
def simfsPublishWrong : ChangeSpec := { name := "simfsPublish", fn := fun _ => fun
  | [d1, d2, d3, d4] => { results := [.lit (.bool false)], args := [d1, d2, d3, d4] }
  | _ => none }
def SimfsPublishWrongFalsely : Prop := simfsPublishRow.holds Tryd.pinned (OpenSpec.ofChange simfsPublishWrong)

/-- 'selvagelaw2.SimfsStays': WHATEVER THE INPUT: true; the input reads as it did. -/
def simfsStaysSpec : ChangeSpec := { name := "simfsStays", fn := fun _ => fun
  | [d1, d2, d3, d4] => { results := [.lit (.bool true)], args := [d1, d2, d3, d4] }
  | _ => none }
def simfsStaysRow : OpenClaim := { program := "ytfbfjhppppoilaadoor", sum := "cceb083e56b33340b85b507e08e463607a4b306308b055b96ab15b38f1f13c86", func := "selvage/selvagelaw2.SimfsStays", spec := "simfsStays", inPlace := ["sync/atomic.AddInt64", "internal/bytealg.IndexByteString", "internal/bytealg.IndexString", "maps.clone"], unfollowed := true, recurses := true, named := ["unicode/utf8.first", "unicode/utf8.acceptRanges", "internal/bytealg.MaxLen"], apart := false, laid := [("unicode/utf8.acceptRanges", laid_unicode_utf8_acceptRanges), ("unicode/utf8.first", laid_unicode_utf8_first)] }
def SimfsStaysSaid : Prop := simfsStaysRow.holds Tryd.pinned (OpenSpec.ofChange simfsStaysSpec)

/-- ITS FALSE NEIGHBOUR: 'it returns false'. Refute it at one input. -/
def simfsStaysWrong : ChangeSpec := { name := "simfsStays", fn := fun _ => fun
  | [d1, d2, d3, d4] => { results := [.lit (.bool false)], args := [d1, d2, d3, d4] }
  | _ => none }
def SimfsStaysWrongFalsely : Prop := simfsStaysRow.holds Tryd.pinned (OpenSpec.ofChange simfsStaysWrong)

/-- 'selvagelaw2.SimfsDead': WHATEVER THE INPUT: true; the input reads as it did. -/
def simfsDeadSpec : ChangeSpec := { name := "simfsDead", fn := fun _ => fun
  | [d1, d2] => { results := [.lit (.bool true)], args := [d1, d2] }
  | _ => none }
def simfsDeadRow : OpenClaim := { program := "ytfbfjhppppoilaadoor", sum := "cceb083e56b33340b85b507e08e463607a4b306308b055b96ab15b38f1f13c86", func := "selvage/selvagelaw2.SimfsDead", spec := "simfsDead", inPlace := ["sync/atomic.AddInt64", "internal/bytealg.IndexByteString", "internal/bytealg.IndexString", "maps.clone", "sync/atomic.LoadInt64"], unfollowed := true, recurses := true, named := ["unicode/utf8.first", "unicode/utf8.acceptRanges", "internal/bytealg.MaxLen"], apart := false, laid := [("unicode/utf8.acceptRanges", laid_unicode_utf8_acceptRanges), ("unicode/utf8.first", laid_unicode_utf8_first)] }
def SimfsDeadSaid : Prop := simfsDeadRow.holds Tryd.pinned (OpenSpec.ofChange simfsDeadSpec)

/-- ITS FALSE NEIGHBOUR: 'it returns false'. Refute it at one input. -/
def simfsDeadWrong : ChangeSpec := { name := "simfsDead", fn := fun _ => fun
  | [d1, d2] => { results := [.lit (.bool false)], args := [d1, d2] }
  | _ => none }
def SimfsDeadWrongFalsely : Prop := simfsDeadRow.holds Tryd.pinned (OpenSpec.ofChange simfsDeadWrong)

/- THE SECOND FORM. 'bulk': how many values and letters a reading holds, each counted each time it is reached (what is shared counts as often as it is met; a slice's spare places count too). A statement '..UptoSaid' is the law's where the arguments, and the package variables that the reading takes, are together of bulk at most 1048576: NARROWER than '..Said'. Prove '..Said' where nothing that the law and all that it calls make is longer than what came in: it says more and counts as full. Else prove '..UptoSaid'. A law counts once. -/
mutual
def uptoBulk {H : Type} : DataW H → Nat
  | .lit (.string bytes) => bytes.length + 1
  | .lit _ => 1
  | .nil => 1
  | .ptr d => uptoBulk d + 1
  | .slice elems spare => uptoBulkAll elems + uptoBulkAll spare + 1
  | .agg parts => uptoBulkAll parts + 1
  | .iface _ d => uptoBulk d + 1
  | .map entries => uptoBulkEntries entries + 1
  | .held _ => 1
def uptoBulkAll {H : Type} : List (DataW H) → Nat
  | [] => 0
  | d :: r => uptoBulk d + uptoBulkAll r
def uptoBulkEntries {H : Type} : List (Lit × DataW H) → Nat
  | [] => 0
  | x :: r => uptoBulkEntry x + uptoBulkEntries r
def uptoBulkEntry {H : Type} : Lit × DataW H → Nat
  | (.string bytes, d) => bytes.length + uptoBulk d + 1
  | (_, d) => uptoBulk d + 1
 end
def uptoSmall : (H : Type) → List (DataW H) → Bool := fun _ ds => decide (uptoBulkAll ds ≤ 1048576)
def OpenSpec.upto (s : _root_.Go.ChangeSpec) : _root_.Go.OpenSpec := { _root_.Go.OpenSpec.ofChange s with cond := some uptoSmall }

/-- 'selvagelaw2.SimfsNames', WHERE WHAT IT READS IS OF BULK AT MOST 1048576: true; the input reads as it did. -/
def simfsNamesUptoRow : OpenClaim := { program := "ytfbfjhppppoilaadoor", sum := "cceb083e56b33340b85b507e08e463607a4b306308b055b96ab15b38f1f13c86", func := "selvage/selvagelaw2.SimfsNames", spec := "simfsNames", inPlace := ["sync/atomic.AddInt64", "internal/bytealg.IndexByteString", "internal/bytealg.IndexString", "maps.clone"], unfollowed := true, recurses := true, named := ["unicode/utf8.first", "unicode/utf8.acceptRanges", "internal/bytealg.MaxLen"], apart := false, laid := [("unicode/utf8.acceptRanges", laid_unicode_utf8_acceptRanges), ("unicode/utf8.first", laid_unicode_utf8_first)], narrowed := true }
def SimfsNamesUptoSaid : Prop := simfsNamesUptoRow.holds Tryd.pinned (OpenSpec.upto simfsNamesSpec)

/-- 'selvagelaw2.SimfsOwn', WHERE WHAT IT READS IS OF BULK AT MOST 1048576: true; the input reads as it did. -/
def simfsOwnUptoRow : OpenClaim := { program := "ytfbfjhppppoilaadoor", sum := "cceb083e56b33340b85b507e08e463607a4b306308b055b96ab15b38f1f13c86", func := "selvage/selvagelaw2.SimfsOwn", spec := "simfsOwn", inPlace := ["sync/atomic.AddInt64", "internal/bytealg.IndexByteString", "internal/bytealg.IndexString", "maps.clone"], unfollowed := true, recurses := true, named := ["unicode/utf8.first", "unicode/utf8.acceptRanges", "internal/bytealg.MaxLen"], apart := false, laid := [("unicode/utf8.acceptRanges", laid_unicode_utf8_acceptRanges), ("unicode/utf8.first", laid_unicode_utf8_first)], narrowed := true }
def SimfsOwnUptoSaid : Prop := simfsOwnUptoRow.holds Tryd.pinned (OpenSpec.upto simfsOwnSpec)

/-- 'selvagelaw2.SimfsFull', WHERE WHAT IT READS IS OF BULK AT MOST 1048576: true; the input reads as it did. -/
def simfsFullUptoRow : OpenClaim := { program := "ytfbfjhppppoilaadoor", sum := "cceb083e56b33340b85b507e08e463607a4b306308b055b96ab15b38f1f13c86", func := "selvage/selvagelaw2.SimfsFull", spec := "simfsFull", inPlace := ["sync/atomic.AddInt64", "internal/bytealg.IndexByteString", "internal/bytealg.IndexString", "maps.clone"], unfollowed := true, recurses := true, named := ["unicode/utf8.first", "unicode/utf8.acceptRanges", "internal/bytealg.MaxLen"], apart := false, laid := [("unicode/utf8.acceptRanges", laid_unicode_utf8_acceptRanges), ("unicode/utf8.first", laid_unicode_utf8_first)], narrowed := true }
def SimfsFullUptoSaid : Prop := simfsFullUptoRow.holds Tryd.pinned (OpenSpec.upto simfsFullSpec)

/-- 'selvagelaw2.SimfsTorn', WHERE WHAT IT READS IS OF BULK AT MOST 1048576: true; the input reads as it did. -/
def simfsTornUptoRow : OpenClaim := { program := "ytfbfjhppppoilaadoor", sum := "cceb083e56b33340b85b507e08e463607a4b306308b055b96ab15b38f1f13c86", func := "selvage/selvagelaw2.SimfsTorn", spec := "simfsTorn", inPlace := ["sync/atomic.AddInt64", "internal/bytealg.IndexByteString", "internal/bytealg.IndexString", "maps.clone"], unfollowed := true, recurses := true, named := ["unicode/utf8.first", "unicode/utf8.acceptRanges", "internal/bytealg.MaxLen"], apart := false, laid := [("unicode/utf8.acceptRanges", laid_unicode_utf8_acceptRanges), ("unicode/utf8.first", laid_unicode_utf8_first)], narrowed := true }
def SimfsTornUptoSaid : Prop := simfsTornUptoRow.holds Tryd.pinned (OpenSpec.upto simfsTornSpec)

/-- 'selvagelaw2.SimfsOrder', WHERE WHAT IT READS IS OF BULK AT MOST 1048576: true; the input reads as it did. -/
def simfsOrderUptoRow : OpenClaim := { program := "ytfbfjhppppoilaadoor", sum := "cceb083e56b33340b85b507e08e463607a4b306308b055b96ab15b38f1f13c86", func := "selvage/selvagelaw2.SimfsOrder", spec := "simfsOrder", inPlace := ["sync/atomic.AddInt64", "internal/bytealg.IndexByteString", "internal/bytealg.IndexString", "maps.clone"], unfollowed := true, recurses := true, named := ["unicode/utf8.first", "unicode/utf8.acceptRanges", "internal/bytealg.MaxLen"], apart := false, laid := [("unicode/utf8.acceptRanges", laid_unicode_utf8_acceptRanges), ("unicode/utf8.first", laid_unicode_utf8_first)], narrowed := true }
def SimfsOrderUptoSaid : Prop := simfsOrderUptoRow.holds Tryd.pinned (OpenSpec.upto simfsOrderSpec)

/-- 'selvagelaw2.SimfsPublish', WHERE WHAT IT READS IS OF BULK AT MOST 1048576: true; the input reads as it did. -/
def simfsPublishUptoRow : OpenClaim := { program := "ytfbfjhppppoilaadoor", sum := "cceb083e56b33340b85b507e08e463607a4b306308b055b96ab15b38f1f13c86", func := "selvage/selvagelaw2.SimfsPublish", spec := "simfsPublish", inPlace := ["sync/atomic.AddInt64", "internal/bytealg.IndexByteString", "internal/bytealg.IndexString", "maps.clone"], unfollowed := true, recurses := true, named := ["unicode/utf8.first", "unicode/utf8.acceptRanges", "internal/bytealg.MaxLen"], apart := false, laid := [("unicode/utf8.acceptRanges", laid_unicode_utf8_acceptRanges), ("unicode/utf8.first", laid_unicode_utf8_first)], narrowed := true }
def SimfsPublishUptoSaid : Prop := simfsPublishUptoRow.holds Tryd.pinned (OpenSpec.upto simfsPublishSpec)

/-- 'selvagelaw2.SimfsStays', WHERE WHAT IT READS IS OF BULK AT MOST 1048576: true; the input reads as it did. -/
def simfsStaysUptoRow : OpenClaim := { program := "ytfbfjhppppoilaadoor", sum := "cceb083e56b33340b85b507e08e463607a4b306308b055b96ab15b38f1f13c86", func := "selvage/selvagelaw2.SimfsStays", spec := "simfsStays", inPlace := ["sync/atomic.AddInt64", "internal/bytealg.IndexByteString", "internal/bytealg.IndexString", "maps.clone"], unfollowed := true, recurses := true, named := ["unicode/utf8.first", "unicode/utf8.acceptRanges", "internal/bytealg.MaxLen"], apart := false, laid := [("unicode/utf8.acceptRanges", laid_unicode_utf8_acceptRanges), ("unicode/utf8.first", laid_unicode_utf8_first)], narrowed := true }
def SimfsStaysUptoSaid : Prop := simfsStaysUptoRow.holds Tryd.pinned (OpenSpec.upto simfsStaysSpec)

/-- 'selvagelaw2.SimfsDead', WHERE WHAT IT READS IS OF BULK AT MOST 1048576: true; the input reads as it did. -/
def simfsDeadUptoRow : OpenClaim := { program := "ytfbfjhppppoilaadoor", sum := "cceb083e56b33340b85b507e08e463607a4b306308b055b96ab15b38f1f13c86", func := "selvage/selvagelaw2.SimfsDead", spec := "simfsDead", inPlace := ["sync/atomic.AddInt64", "internal/bytealg.IndexByteString", "internal/bytealg.IndexString", "maps.clone", "sync/atomic.LoadInt64"], unfollowed := true, recurses := true, named := ["unicode/utf8.first", "unicode/utf8.acceptRanges", "internal/bytealg.MaxLen"], apart := false, laid := [("unicode/utf8.acceptRanges", laid_unicode_utf8_acceptRanges), ("unicode/utf8.first", laid_unicode_utf8_first)], narrowed := true }
def SimfsDeadUptoSaid : Prop := simfsDeadUptoRow.holds Tryd.pinned (OpenSpec.upto simfsDeadSpec)

end Rows
end Go.Proofs.YtfbfjhppppoilaaDoor
