/-
  Layings of library contracts at this program.
-/
import Derived.Shelf.Strings.Search3
import Derived.Shelf.Strings.Trim
import Derived.Shelf.Small.Strs
import Derived.Shelf.Sort.Plain
import Derived.Shelf.Slices.In.SortNone
import Derived.Shelf.Strings.Split
import Derived.Shelf.Strings.Prefix
import Derived.Test.YtncnignagcoahaaGreatDoorChecked
namespace Go.Proofs
open Go.Shelf
def Tryz.lays144_ren:Ren:=⟨fun|144=>124|143=>187|219=>224|217=>188|225=>245|224=>246|267=>247|266=>225|314=>253|n=>n,fun|9=>9|4=>4|3=>3|5=>5|46=>254|146=>347|51=>311|n=>n,fun|1=>0|n=>n⟩
theorem Tryz.lays144:Go.Proofs.Lays.n144 Tryz.prog Tryz.lays144_ren:=by constructor<;>intros<;>kernel_rfl
def Tryz.lays160_ren:Ren:=⟨fun|160=>123|232=>181|231=>180|227=>182|234=>184|233=>183|236=>186|235=>185|228=>220|271=>223|151=>222|197=>221|120=>244|152=>243|260=>242|137=>125|119=>252|224=>246|225=>245|217=>188|266=>225|n=>n,fun|9=>9|4=>4|3=>3|5=>5|117=>288|116=>287|0=>0|124=>291|21=>21|105=>317|46=>254|119=>342|139=>345|138=>344|n=>n,fun|3=>1|4=>2|n=>n⟩
theorem Tryz.lays160:Go.Proofs.Lays.n160 Tryz.prog Tryz.lays160_ren:=by constructor<;>intros<;>kernel_rfl
def Tryz.lays190_ren:Ren:=⟨fun|190=>90|125=>169|258=>168|128=>213|129=>214|302=>204|303=>205|304=>206|305=>207|306=>208|307=>209|308=>210|309=>211|310=>212|333=>235|329=>236|330=>237|334=>238|335=>239|336=>240|344=>251|n=>n,fun|31=>108|9=>9|3=>3|46=>254|0=>0|51=>311|53=>173|4=>4|183=>305|182=>304|131=>196|5=>5|218=>326|222=>330|228=>339|229=>340|n=>n,fun|n=>n⟩
theorem Tryz.lays190:Go.Proofs.Lays.n190 Tryz.prog Tryz.lays190_ren:=by constructor<;>intros<;>kernel_rfl
def Tryz.lays137_ren:Ren:=⟨fun|137=>125|217=>188|266=>225|n=>n,fun|9=>9|5=>5|3=>3|n=>n,fun|n=>n⟩
theorem Tryz.lays137:Go.Proofs.Lays.n137 Tryz.prog Tryz.lays137_ren:=by constructor<;>intros<;>kernel_rfl
def Tryz.lays146_ren:Ren:=⟨fun|146=>145|221=>195|268=>230|138=>231|143=>187|195=>249|197=>221|218=>250|219=>224|260=>242|217=>188|225=>245|224=>246|267=>247|266=>225|314=>253|n=>n,fun|9=>9|31=>108|3=>3|4=>4|0=>0|105=>317|21=>21|5=>5|46=>254|119=>342|139=>345|138=>344|146=>347|51=>311|n=>n,fun|1=>0|3=>1|4=>2|n=>n⟩
theorem Tryz.lays146:Go.Proofs.Lays.n146 Tryz.prog Tryz.lays146_ren:=by constructor<;>intros<;>kernel_rfl
def Tryz.lays99_ren:Ren:=⟨fun|99=>198|206=>233|n=>n,fun|9=>9|4=>4|3=>3|n=>n,fun|n=>n⟩
theorem Tryz.lays99:Go.Proofs.Lays.n99 Tryz.prog Tryz.lays99_ren:=by constructor<;>intros<;>kernel_rfl
end Go.Proofs
