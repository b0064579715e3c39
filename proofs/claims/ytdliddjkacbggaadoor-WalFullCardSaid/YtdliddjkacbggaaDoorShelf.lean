/-
  DERIVED: THE SHELF's CONTRACTS AT THIS DUMP, IN PLAIN WORDS (tools/lay-plain.mjs out of 'YtdliddjkacbggaaDoorShelf0.lean', which tools/lay-shelf.mjs wrote): THE SAME DECLARATIONS UNDER THE SAME NAMES: 'import', 'namespace', 'open', 'def', 'theorem' AND NOTHING ELSE: no command of the shelf's: FOR A HAND-IN. Each laying: the table of numbers ('.._ren') and one theorem, a field a fact of the dump's own or the kernel's comparison; each contract: ONE APPLICATION.
-/
import Derived.Shelf.Strings.Search3
import Derived.Shelf.Strings.Trim
import Derived.Shelf.Small.Strs
import Derived.Shelf.Sort.Plain
import Derived.Shelf.Slices.In.SortNone
import Derived.Test.YtdliddjkacbggaaDoorChecked
namespace Go.Proofs
open Go.Shelf
def Tryd.lays144_ren : Go.Shelf.Ren := ⟨fun | 144 => 43 | 143 => 67 | 219 => 81 | 217 => 68 | 225 => 93 | 224 => 94 | 267 => 95 | 266 => 82 | 314 => 98 | n => n, fun | 9 => 9 | 4 => 4 | 3 => 3 | 5 => 5 | 46 => 51 | 146 => 146 | 51 => 106 | n => n, fun | 1 => 0 | n => n⟩
theorem Tryd.lays144 : Go.Proofs.Lays.n144 Tryd.prog Tryd.lays144_ren := {
  mixed := by kernel_rfl
  f143 := Tryd.func67.trans (congrArg some (by kernel_rfl))
  f144 := Tryd.func43.trans (congrArg some (by kernel_rfl))
  f217 := Tryd.func68.trans (congrArg some (by kernel_rfl))
  f219 := Tryd.func81.trans (congrArg some (by kernel_rfl))
  f224 := Tryd.func94.trans (congrArg some (by kernel_rfl))
  f225 := Tryd.func93.trans (congrArg some (by kernel_rfl))
  f266 := Tryd.func82.trans (congrArg some (by kernel_rfl))
  f267 := Tryd.func95.trans (congrArg some (by kernel_rfl))
  f314 := Tryd.func98.trans (congrArg some (by kernel_rfl))
  t3 := Tryd.underlying3
  a3 := Tryd.isAgg3
  z3 := Tryd.sizeOf3
  v3 := Tryd.zeroValue3
  t4 := Tryd.underlying4
  a4 := Tryd.isAgg4
  z4 := Tryd.sizeOf4
  v4 := Tryd.zeroValue4
  t5 := Tryd.underlying5
  a5 := Tryd.isAgg5
  z5 := Tryd.sizeOf5
  v5 := Tryd.zeroValue5
  t9 := Tryd.underlying9
  a9 := Tryd.isAgg9
  z9 := Tryd.sizeOf9
  v9 := Tryd.zeroValue9
  t46 := Tryd.underlying51
  a46 := Tryd.isAgg51
  z46 := Tryd.sizeOf51
  v46 := Tryd.zeroValue51
  t51 := Tryd.underlying106
  a51 := Tryd.isAgg106
  z51 := Tryd.sizeOf106
  v51 := Tryd.zeroValue106
  t146 := Tryd.underlying146
  a146 := Tryd.isAgg146
  z146 := Tryd.sizeOf146
  v146 := Tryd.zeroValue146
  g1 := by kernel_rfl }
def Tryd.lays160_ren : Go.Shelf.Ren := ⟨fun | 160 => 42 | 232 => 61 | 231 => 60 | 227 => 62 | 234 => 64 | 233 => 63 | 236 => 66 | 235 => 65 | 228 => 77 | 271 => 80 | 151 => 79 | 197 => 78 | 120 => 92 | 152 => 91 | 260 => 90 | 137 => 44 | 119 => 97 | 224 => 94 | 225 => 93 | 217 => 68 | 266 => 82 | n => n, fun | 9 => 9 | 4 => 4 | 3 => 3 | 5 => 5 | 117 => 114 | 116 => 113 | 0 => 0 | 124 => 117 | 21 => 21 | 105 => 129 | 46 => 51 | 119 => 141 | 139 => 144 | 138 => 143 | n => n, fun | 3 => 1 | 4 => 2 | n => n⟩
theorem Tryd.lays160 : Go.Proofs.Lays.n160 Tryd.prog Tryd.lays160_ren := {
  mixed := by kernel_rfl
  f119 := Tryd.func97.trans (congrArg some (by kernel_rfl))
  f120 := Tryd.func92.trans (congrArg some (by kernel_rfl))
  f137 := Tryd.func44.trans (congrArg some (by kernel_rfl))
  f151 := Tryd.func79.trans (congrArg some (by kernel_rfl))
  f152 := Tryd.func91.trans (congrArg some (by kernel_rfl))
  f160 := Tryd.func42.trans (congrArg some (by kernel_rfl))
  f197 := Tryd.func78.trans (congrArg some (by kernel_rfl))
  f217 := Tryd.func68.trans (congrArg some (by kernel_rfl))
  f224 := Tryd.func94.trans (congrArg some (by kernel_rfl))
  f225 := Tryd.func93.trans (congrArg some (by kernel_rfl))
  f227 := Tryd.func62.trans (congrArg some (by kernel_rfl))
  f228 := Tryd.func77.trans (congrArg some (by kernel_rfl))
  f231 := Tryd.func60.trans (congrArg some (by kernel_rfl))
  f232 := Tryd.func61.trans (congrArg some (by kernel_rfl))
  f233 := Tryd.func63.trans (congrArg some (by kernel_rfl))
  f234 := Tryd.func64.trans (congrArg some (by kernel_rfl))
  f235 := Tryd.func65.trans (congrArg some (by kernel_rfl))
  f236 := Tryd.func66.trans (congrArg some (by kernel_rfl))
  f260 := Tryd.func90.trans (congrArg some (by kernel_rfl))
  f266 := Tryd.func82.trans (congrArg some (by kernel_rfl))
  f271 := Tryd.func80.trans (congrArg some (by kernel_rfl))
  t0 := Tryd.underlying0
  a0 := Tryd.isAgg0
  z0 := Tryd.sizeOf0
  v0 := Tryd.zeroValue0
  t3 := Tryd.underlying3
  a3 := Tryd.isAgg3
  z3 := Tryd.sizeOf3
  v3 := Tryd.zeroValue3
  t4 := Tryd.underlying4
  a4 := Tryd.isAgg4
  z4 := Tryd.sizeOf4
  v4 := Tryd.zeroValue4
  t5 := Tryd.underlying5
  a5 := Tryd.isAgg5
  z5 := Tryd.sizeOf5
  v5 := Tryd.zeroValue5
  t9 := Tryd.underlying9
  a9 := Tryd.isAgg9
  z9 := Tryd.sizeOf9
  v9 := Tryd.zeroValue9
  t21 := Tryd.underlying21
  a21 := Tryd.isAgg21
  z21 := Tryd.sizeOf21
  v21 := Tryd.zeroValue21
  t46 := Tryd.underlying51
  a46 := Tryd.isAgg51
  z46 := Tryd.sizeOf51
  v46 := Tryd.zeroValue51
  t105 := Tryd.underlying129
  a105 := Tryd.isAgg129
  z105 := Tryd.sizeOf129
  v105 := Tryd.zeroValue129
  t116 := Tryd.underlying113
  a116 := Tryd.isAgg113
  z116 := Tryd.sizeOf113
  t117 := Tryd.underlying114
  a117 := Tryd.isAgg114
  z117 := Tryd.sizeOf114
  v117 := Tryd.zeroValue114
  t119 := Tryd.underlying141
  a119 := Tryd.isAgg141
  z119 := Tryd.sizeOf141
  t124 := Tryd.underlying117
  a124 := Tryd.isAgg117
  z124 := Tryd.sizeOf117
  v124 := Tryd.zeroValue117
  t138 := Tryd.underlying143
  a138 := Tryd.isAgg143
  z138 := Tryd.sizeOf143
  v138 := Tryd.zeroValue143
  t139 := Tryd.underlying144
  a139 := Tryd.isAgg144
  z139 := Tryd.sizeOf144
  v139 := Tryd.zeroValue144
  g3 := by kernel_rfl
  g4 := by kernel_rfl }
def Tryd.lays137_ren : Go.Shelf.Ren := ⟨fun | 137 => 44 | 217 => 68 | 266 => 82 | n => n, fun | 9 => 9 | 5 => 5 | 3 => 3 | n => n, fun | n => n⟩
theorem Tryd.lays137 : Go.Proofs.Lays.n137 Tryd.prog Tryd.lays137_ren := {
  mixed := by kernel_rfl
  f137 := Tryd.func44.trans (congrArg some (by kernel_rfl))
  f217 := Tryd.func68.trans (congrArg some (by kernel_rfl))
  f266 := Tryd.func82.trans (congrArg some (by kernel_rfl))
  t3 := Tryd.underlying3
  a3 := Tryd.isAgg3
  z3 := Tryd.sizeOf3
  v3 := Tryd.zeroValue3
  t5 := Tryd.underlying5
  a5 := Tryd.isAgg5
  z5 := Tryd.sizeOf5
  v5 := Tryd.zeroValue5
  t9 := Tryd.underlying9
  a9 := Tryd.isAgg9
  z9 := Tryd.sizeOf9
  v9 := Tryd.zeroValue9 }
end Go.Proofs
