/-
  Layings of library contracts at this program.
-/
import Derived.Shelf.SlMaps.Clone
import Derived.Test.YtncnignagcoahaaGreatDoorChecked
namespace Go.Proofs
open Go.Shelf
def Tryz.mclone33_ren:Ren:=⟨fun|5=>33|7=>92|n=>n,fun|23=>115|25=>9|3=>122|4=>4|20=>20|n=>n,fun|n=>n⟩
theorem Tryz.mclone33:Go.Proofs.SlLaysW.n5 Tryz.prog Tryz.mclone33_ren:=by constructor<;>intros<;>first|kernel_rfl|exact⟨Tryz.f33.name, by decide, Tryz.func33.trans (congrArg some (by kernel_rfl))⟩
end Go.Proofs
