/- the library's contracts at this program -/
import Derived.Shelf.Small.Bits
import Derived.Shelf.Strconv.Itoa0
import Derived.Ground.SlgfProg
import Derived.Shelf.SlicesE.IndexFunc
import Derived.Ground.SlsfProg
import Derived.Shelf.SlSortCmp.NoneTotal
import Derived.Test.YtcmkopogafchiaaGreatProg
namespace Go.Proofs
open Go.Shelf
def Tryz.laysSortC_ren:Go.Shelf.Ren:=⟨fun |6=>64|15=>110|14=>109|28=>170|29=>171|20=>162|21=>163|22=>164|23=>165|24=>166|25=>167|26=>168|27=>169|46=>204|47=>205|48=>206|49=>207|50=>208|57=>230|n=>n,fun |22=>30|24=>45|25=>113|3=>3|39=>157|0=>0|53=>219|55=>170|4=>4|46=>213|45=>212|50=>164|5=>5|9=>9|66=>249|70=>253|76=>266|77=>267|n=>n,fun |n=>n⟩
theorem Tryz.laysSortC : Go.Proofs.SlLaysF0.n6 Tryz.prog Tryz.laysSortC_ren := {
 mixed:=by kernel_rfl
 f6:=⟨Tryz.f64.name, by decide, Tryz.func64.trans (congrArg some (by kernel_rfl))⟩
 f14:=⟨Tryz.f109.name, by decide, Tryz.func109.trans (congrArg some (by kernel_rfl))⟩
 f15:=Tryz.func110.trans (congrArg some (by kernel_rfl))
 f20:=⟨Tryz.f162.name, by decide, Tryz.func162.trans (congrArg some (by kernel_rfl))⟩
 f21:=⟨Tryz.f163.name, by decide, Tryz.func163.trans (congrArg some (by kernel_rfl))⟩
 f22:=⟨Tryz.f164.name, by decide, Tryz.func164.trans (congrArg some (by kernel_rfl))⟩
 f23:=⟨Tryz.f165.name, by decide, Tryz.func165.trans (congrArg some (by kernel_rfl))⟩
 f24:=⟨Tryz.f166.name, by decide, Tryz.func166.trans (congrArg some (by kernel_rfl))⟩
 f25:=⟨Tryz.f167.name, by decide, Tryz.func167.trans (congrArg some (by kernel_rfl))⟩
 f26:=⟨Tryz.f168.name, by decide, Tryz.func168.trans (congrArg some (by kernel_rfl))⟩
 f27:=⟨Tryz.f169.name, by decide, Tryz.func169.trans (congrArg some (by kernel_rfl))⟩
 f28:=Tryz.func170.trans (congrArg some (by kernel_rfl))
 f29:=Tryz.func171.trans (congrArg some (by kernel_rfl))
 f46:=⟨Tryz.f204.name, by decide, Tryz.func204.trans (congrArg some (by kernel_rfl))⟩
 f47:=Tryz.func205.trans (congrArg some (by kernel_rfl))
 f48:=Tryz.func206.trans (congrArg some (by kernel_rfl))
 f49:=⟨Tryz.f207.name, by decide, Tryz.func207.trans (congrArg some (by kernel_rfl))⟩
 f50:=⟨Tryz.f208.name, by decide, Tryz.func208.trans (congrArg some (by kernel_rfl))⟩
 f57:=⟨Tryz.f230.name, by decide, Tryz.func230.trans (congrArg some (by kernel_rfl))⟩
 t0:=Tryz.underlying0
 a0:=Tryz.isAgg0
 z0:=Tryz.sizeOf0
 v0:=Tryz.zeroValue0
 t3:=Tryz.underlying3
 a3:=Tryz.isAgg3
 z3:=Tryz.sizeOf3
 v3:=Tryz.zeroValue3
 t4:=Tryz.underlying4
 a4:=Tryz.isAgg4
 z4:=Tryz.sizeOf4
 v4:=Tryz.zeroValue4
 t5:=Tryz.underlying5
 a5:=Tryz.isAgg5
 z5:=Tryz.sizeOf5
 v5:=Tryz.zeroValue5
 t9:=Tryz.underlying9
 a9:=Tryz.isAgg9
 z9:=Tryz.sizeOf9
 v9:=Tryz.zeroValue9
 t22:=Tryz.underlying30
 a22:=Tryz.isAgg30
 z22:=Tryz.sizeOf30
 v22:=Tryz.zeroValue30
 t25:=Tryz.underlying113
 a25:=Tryz.isAgg113
 z25:=Tryz.sizeOf113
 v25:=Tryz.zeroValue113
 t39:=Tryz.underlying157
 a39:=Tryz.isAgg157
 z39:=Tryz.sizeOf157
 v39:=Tryz.zeroValue157
 t45:=Tryz.underlying212
 a45:=Tryz.isAgg212
 z45:=Tryz.sizeOf212
 v45:=Tryz.zeroValue212
 t46:=Tryz.underlying213
 a46:=Tryz.isAgg213
 z46:=Tryz.sizeOf213
 v46:=Tryz.zeroValue213
 t50:=Tryz.underlying164
 a50:=Tryz.isAgg164
 z50:=Tryz.sizeOf164
 v50:=Tryz.zeroValue164
 t53:=Tryz.underlying219
 a53:=Tryz.isAgg219
 z53:=Tryz.sizeOf219
 v53:=Tryz.zeroValue219
 t55:=Tryz.underlying170
 a55:=Tryz.isAgg170
 z55:=Tryz.sizeOf170
 v55:=Tryz.zeroValue170
 t66:=Tryz.underlying249
 a66:=Tryz.isAgg249
 z66:=Tryz.sizeOf249
 v66:=Tryz.zeroValue249
 t70:=Tryz.underlying253
 a70:=Tryz.isAgg253
 z70:=Tryz.sizeOf253
 v70:=Tryz.zeroValue253
 t76:=Tryz.underlying266
 a76:=Tryz.isAgg266
 z76:=Tryz.sizeOf266
 v76:=Tryz.zeroValue266
 t77:=Tryz.underlying267
 a77:=Tryz.isAgg267
 z77:=Tryz.sizeOf267
 v77:=Tryz.zeroValue267 }
def Tryz.laysIns_ren:Go.Shelf.Ren:=⟨fun |20=>173|n=>n,fun |24=>82|22=>79|3=>3|25=>116|4=>4|0=>0|n=>n,fun |n=>n⟩
theorem Tryz.laysIns : Go.Proofs.SlLaysF0.n20 Tryz.prog Tryz.laysIns_ren := {
 mixed:=by kernel_rfl
 f20:=⟨Tryz.f173.name, by decide, Tryz.func173.trans (congrArg some (by kernel_rfl))⟩
 t0:=Tryz.underlying0
 a0:=Tryz.isAgg0
 z0:=Tryz.sizeOf0
 v0:=Tryz.zeroValue0
 t3:=Tryz.underlying3
 a3:=Tryz.isAgg3
 z3:=Tryz.sizeOf3
 v3:=Tryz.zeroValue3
 t4:=Tryz.underlying4
 a4:=Tryz.isAgg4
 z4:=Tryz.sizeOf4
 v4:=Tryz.zeroValue4
 t22:=Tryz.underlying79
 a22:=Tryz.isAgg79
 z22:=Tryz.sizeOf79
 v22:=Tryz.zeroValue79
 t25:=Tryz.underlying116
 a25:=Tryz.isAgg116
 z25:=Tryz.sizeOf116
 v25:=Tryz.zeroValue116 }
end Go.Proofs
