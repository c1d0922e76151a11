/- ShP. -/
import Derived.Shelf.Strings.Builder1
import Derived.Shelf.Small.Strs
import Derived.Shelf.Slices.CompactI
import Derived.Ground.Names2Prog
import Derived.Ground.NamesProg
import Derived.Ground.SlsfProg
import Derived.Shelf.SlSortCmp.NoneTotal
import Derived.Test.YtlaoaleoeknhoaaGreatDoorProg
import Derived.Shelf.Sort.Plain
import Derived.Shelf.Slices.In.SortNone
import Derived.Ground.SlgfProg
set_option linter.unusedSimpArgs false
set_option linter.unusedVariables false
namespace Go.Proofs
open Go.Shelf
set_option maxRecDepth 100000
theorem fx_{P:Program}{k:Nat}{f:Func}{C:String->Prop}{g:String->Func}(h:P.funcs[k]? =some f)(d:C f.name:=by decide)(e:f=g f.name:=by kernel_rfl):∃n,C n/\P.funcs[k]? =some (g n):=⟨f.name,d,h.trans (congrArg some e)⟩
def Tryz.laysCompact_ren:Go.Shelf.Ren:=⟨λ|20=>88|n=>n,λ|22=>22|3=>3|4=>4|0=>0|n=>n,λ|n=>n⟩
theorem Tryz.laysCompact:Go.Proofs.Lays2.n20 Tryz.prog Tryz.laysCompact_ren:=by repeat' first|kernel_rfl|intro _;kernel_rfl|constructor
def Tryz.laysCmpStr_ren:Go.Shelf.Ren:=⟨λ|106=>198|213=>273|265=>333|n=>n,λ|9=>9|3=>3|n=>n,λ|n=>n⟩
theorem Tryz.laysCmpStr:Go.Proofs.Lays.n106 Tryz.prog Tryz.laysCmpStr_ren:=by repeat' first|kernel_rfl|intro _;kernel_rfl|constructor
def Tryz.laysBStr_ren:Go.Shelf.Ren:=⟨λ|169=>270|n=>n,λ|70=>290|9=>9|0=>0|72=>292|37=>123|127=>347|3=>3|5=>5|n=>n,λ|n=>n⟩
theorem Tryz.laysBStr:Go.Proofs.Lays.n169 Tryz.prog Tryz.laysBStr_ren:=by repeat' first|kernel_rfl|intro _;kernel_rfl|constructor
theorem Tryz.laysBStrX:Builder.Extra Tryz.prog Tryz.laysBStr_ren:=by repeat' first|kernel_rfl|intro _;kernel_rfl|decide|constructor
def Tryz.sortStm_ren:Go.Shelf.Ren:=⟨λ|6=>199|15=>173|14=>274|28=>233|29=>234|20=>334|21=>335|22=>336|23=>337|24=>338|25=>339|26=>340|27=>341|46=>385|47=>291|48=>292|49=>386|50=>387|57=>425|n=>n,λ|22=>32|24=>75|25=>230|3=>3|39=>127|0=>0|53=>177|55=>179|4=>4|46=>268|45=>267|50=>238|5=>5|9=>9|66=>324|70=>328|76=>380|77=>381|n=>n,λ|n=>n⟩
theorem Tryz.sortStm:Go.Proofs.SlLaysF0.n6 Tryz.prog Tryz.sortStm_ren:=by repeat' first|kernel_rfl|intro _;kernel_rfl|exact fx_ Tryz.func199|exact fx_ Tryz.func274|exact fx_ Tryz.func334|exact fx_ Tryz.func335|exact fx_ Tryz.func336|exact fx_ Tryz.func337|exact fx_ Tryz.func338|exact fx_ Tryz.func339|exact fx_ Tryz.func340|exact fx_ Tryz.func341|exact fx_ Tryz.func385|exact fx_ Tryz.func386|exact fx_ Tryz.func387|exact fx_ Tryz.func425|constructor
def Tryz.sortCase_ren:Go.Shelf.Ren:=⟨λ|6=>134|15=>173|14=>183|28=>233|29=>234|20=>253|21=>254|22=>255|23=>256|24=>257|25=>258|26=>259|27=>260|46=>309|47=>291|48=>292|49=>310|50=>311|57=>374|n=>n,λ|22=>94|24=>64|25=>199|3=>3|39=>127|0=>0|53=>177|55=>179|4=>4|46=>268|45=>267|50=>238|5=>5|9=>9|66=>324|70=>328|76=>380|77=>381|n=>n,λ|n=>n⟩
theorem Tryz.sortCase:Go.Proofs.SlLaysF0.n6 Tryz.prog Tryz.sortCase_ren:=by repeat' first|kernel_rfl|intro _;kernel_rfl|exact fx_ Tryz.func134|exact fx_ Tryz.func183|exact fx_ Tryz.func253|exact fx_ Tryz.func254|exact fx_ Tryz.func255|exact fx_ Tryz.func256|exact fx_ Tryz.func257|exact fx_ Tryz.func258|exact fx_ Tryz.func259|exact fx_ Tryz.func260|exact fx_ Tryz.func309|exact fx_ Tryz.func310|exact fx_ Tryz.func311|exact fx_ Tryz.func374|constructor
def Tryz.sortVote_ren:Go.Shelf.Ren:=⟨λ|6=>194|15=>173|14=>272|28=>233|29=>234|20=>325|21=>326|22=>327|23=>328|24=>329|25=>330|26=>331|27=>332|46=>382|47=>291|48=>292|49=>383|50=>384|57=>424|n=>n,λ|22=>204|24=>195|25=>243|3=>3|39=>127|0=>0|53=>177|55=>179|4=>4|46=>268|45=>267|50=>238|5=>5|9=>9|66=>324|70=>328|76=>380|77=>381|n=>n,λ|n=>n⟩
theorem Tryz.sortVote:Go.Proofs.SlLaysF0.n6 Tryz.prog Tryz.sortVote_ren:=by repeat' first|kernel_rfl|intro _;kernel_rfl|exact fx_ Tryz.func194|exact fx_ Tryz.func272|exact fx_ Tryz.func325|exact fx_ Tryz.func326|exact fx_ Tryz.func327|exact fx_ Tryz.func328|exact fx_ Tryz.func329|exact fx_ Tryz.func330|exact fx_ Tryz.func331|exact fx_ Tryz.func332|exact fx_ Tryz.func382|exact fx_ Tryz.func383|exact fx_ Tryz.func384|exact fx_ Tryz.func424|constructor
def Tryz.sortCount_ren:Go.Shelf.Ren:=⟨λ|6=>191|15=>173|14=>271|28=>233|29=>234|20=>317|21=>318|22=>319|23=>320|24=>321|25=>322|26=>323|27=>324|46=>379|47=>291|48=>292|49=>380|50=>381|57=>423|n=>n,λ|22=>202|24=>207|25=>242|3=>3|39=>127|0=>0|53=>177|55=>179|4=>4|46=>268|45=>267|50=>238|5=>5|9=>9|66=>324|70=>328|76=>380|77=>381|n=>n,λ|n=>n⟩
theorem Tryz.sortCount:Go.Proofs.SlLaysF0.n6 Tryz.prog Tryz.sortCount_ren:=by repeat' first|kernel_rfl|intro _;kernel_rfl|exact fx_ Tryz.func191|exact fx_ Tryz.func271|exact fx_ Tryz.func317|exact fx_ Tryz.func318|exact fx_ Tryz.func319|exact fx_ Tryz.func320|exact fx_ Tryz.func321|exact fx_ Tryz.func322|exact fx_ Tryz.func323|exact fx_ Tryz.func324|exact fx_ Tryz.func379|exact fx_ Tryz.func380|exact fx_ Tryz.func381|exact fx_ Tryz.func423|constructor
end Go.Proofs

/- The library's contract of Sort at this program, in plain words (the tool lay-plain). -/
namespace Go.Proofs
open Go.Shelf
def Tryz.laysSort_ren:Go.Shelf.Ren:=⟨λ|189=>124|125=>173|257=>172|128=>233|129=>234|294=>224|295=>225|296=>226|297=>227|298=>228|299=>229|216=>230|300=>231|301=>232|328=>290|329=>291|330=>292|331=>293|332=>294|215=>184|343=>356|n=>n,λ|28=>22|3=>3|46=>127|0=>0|51=>177|53=>179|4=>4|183=>268|182=>267|131=>238|5=>5|9=>9|218=>324|222=>328|228=>380|229=>381|n=>n,λ|n=>n⟩
theorem Tryz.laysSort:Go.Proofs.Lays.n189 Tryz.prog Tryz.laysSort_ren:=by repeat' first|kernel_rfl|intro _;kernel_rfl|constructor
end Go.Proofs
