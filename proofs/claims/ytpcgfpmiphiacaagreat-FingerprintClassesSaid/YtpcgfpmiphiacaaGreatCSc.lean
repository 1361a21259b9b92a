/- the library's contracts at this program -/
import Derived.Shelf.Small.Bits
import Derived.Shelf.Small.Wraps
import Derived.Shelf.Strconv.Itoa0
import Derived.Shelf.Bits.Mul64
import Derived.Ground.SlgnProg
import Derived.Shelf.SlicesE.Clone
import Derived.Ground.SlgfProg
import Derived.Shelf.SlicesE.IndexFunc
import Derived.Ground.SlsfProg
import Derived.Shelf.SlSortCmp.Insertion
import Derived.Shelf.SlSortCmp.SiftDown1
import Derived.Shelf.SlSortCmp.HeapSort1
import Derived.Shelf.SlSortCmp.Insertion1
import Derived.Shelf.SlSortCmp.Median1
import Derived.Shelf.SlSortCmp.Pivot1
import Derived.Shelf.SlSortCmp.ReverseRange1
import Derived.Shelf.SlSortCmp.PartialInsertion1
import Derived.Shelf.SlSortCmp.PartitionEqual1
import Derived.Shelf.SlSortCmp.Partition1
import Derived.Shelf.SlSortCmp.Pdq1
import Derived.Shelf.SlSortCmp.Whole1
import Derived.Shelf.SlSortCmp.NoneTotal
import Derived.Ground.SlsfProg
import Derived.Shelf.SlSortCmp.NoneTotal
import Derived.Test.YtpcgfpmiphiacaaGreatProg
namespace Go.Proofs
open Go.Shelf
def Tryz.laysSortC_ren:Go.Shelf.Ren:=⟨fun |6=>78|15=>144|14=>143|28=>210|29=>201|20=>202|21=>203|22=>204|23=>205|24=>206|25=>207|26=>208|27=>209|46=>248|47=>249|48=>250|49=>251|50=>252|57=>275|n=>n,fun |22=>50|24=>71|25=>90|3=>3|39=>212|0=>0|53=>271|55=>168|4=>4|46=>265|45=>264|50=>173|5=>5|9=>9|66=>293|70=>297|76=>309|77=>310|n=>n,fun |n=>n⟩
theorem Tryz.laysSortC : Go.Proofs.SlLaysF0.n6 Tryz.prog Tryz.laysSortC_ren := {
 mixed:=by kernel_rfl
 f6:=⟨Tryz.f78.name, by decide, Tryz.func78.trans (congrArg some (by kernel_rfl))⟩
 f14:=⟨Tryz.f143.name, by decide, Tryz.func143.trans (congrArg some (by kernel_rfl))⟩
 f15:=Tryz.func144.trans (congrArg some (by kernel_rfl))
 f20:=⟨Tryz.f202.name, by decide, Tryz.func202.trans (congrArg some (by kernel_rfl))⟩
 f21:=⟨Tryz.f203.name, by decide, Tryz.func203.trans (congrArg some (by kernel_rfl))⟩
 f22:=⟨Tryz.f204.name, by decide, Tryz.func204.trans (congrArg some (by kernel_rfl))⟩
 f23:=⟨Tryz.f205.name, by decide, Tryz.func205.trans (congrArg some (by kernel_rfl))⟩
 f24:=⟨Tryz.f206.name, by decide, Tryz.func206.trans (congrArg some (by kernel_rfl))⟩
 f25:=⟨Tryz.f207.name, by decide, Tryz.func207.trans (congrArg some (by kernel_rfl))⟩
 f26:=⟨Tryz.f208.name, by decide, Tryz.func208.trans (congrArg some (by kernel_rfl))⟩
 f27:=⟨Tryz.f209.name, by decide, Tryz.func209.trans (congrArg some (by kernel_rfl))⟩
 f28:=Tryz.func210.trans (congrArg some (by kernel_rfl))
 f29:=Tryz.func201.trans (congrArg some (by kernel_rfl))
 f46:=⟨Tryz.f248.name, by decide, Tryz.func248.trans (congrArg some (by kernel_rfl))⟩
 f47:=Tryz.func249.trans (congrArg some (by kernel_rfl))
 f48:=Tryz.func250.trans (congrArg some (by kernel_rfl))
 f49:=⟨Tryz.f251.name, by decide, Tryz.func251.trans (congrArg some (by kernel_rfl))⟩
 f50:=⟨Tryz.f252.name, by decide, Tryz.func252.trans (congrArg some (by kernel_rfl))⟩
 f57:=⟨Tryz.f275.name, by decide, Tryz.func275.trans (congrArg some (by kernel_rfl))⟩
 t0:=Tryz.underlying0
 a0:=Tryz.isAgg0
 z0:=Tryz.sizeOf0
 v0:=Tryz.zeroValue0
 t3:=Tryz.underlying3
 a3:=Tryz.isAgg3
 z3:=Tryz.sizeOf3
 v3:=Tryz.zeroValue3
 t4:=Tryz.underlying4
 a4:=Tryz.isAgg4
 z4:=Tryz.sizeOf4
 v4:=Tryz.zeroValue4
 t5:=Tryz.underlying5
 a5:=Tryz.isAgg5
 z5:=Tryz.sizeOf5
 v5:=Tryz.zeroValue5
 t9:=Tryz.underlying9
 a9:=Tryz.isAgg9
 z9:=Tryz.sizeOf9
 v9:=Tryz.zeroValue9
 t22:=Tryz.underlying50
 a22:=Tryz.isAgg50
 z22:=Tryz.sizeOf50
 v22:=Tryz.zeroValue50
 t25:=Tryz.underlying90
 a25:=Tryz.isAgg90
 z25:=Tryz.sizeOf90
 v25:=Tryz.zeroValue90
 t39:=Tryz.underlying212
 a39:=Tryz.isAgg212
 z39:=Tryz.sizeOf212
 v39:=Tryz.zeroValue212
 t45:=Tryz.underlying264
 a45:=Tryz.isAgg264
 z45:=Tryz.sizeOf264
 v45:=Tryz.zeroValue264
 t46:=Tryz.underlying265
 a46:=Tryz.isAgg265
 z46:=Tryz.sizeOf265
 v46:=Tryz.zeroValue265
 t50:=Tryz.underlying173
 a50:=Tryz.isAgg173
 z50:=Tryz.sizeOf173
 v50:=Tryz.zeroValue173
 t53:=Tryz.underlying271
 a53:=Tryz.isAgg271
 z53:=Tryz.sizeOf271
 v53:=Tryz.zeroValue271
 t55:=Tryz.underlying168
 a55:=Tryz.isAgg168
 z55:=Tryz.sizeOf168
 v55:=Tryz.zeroValue168
 t66:=Tryz.underlying293
 a66:=Tryz.isAgg293
 z66:=Tryz.sizeOf293
 v66:=Tryz.zeroValue293
 t70:=Tryz.underlying297
 a70:=Tryz.isAgg297
 z70:=Tryz.sizeOf297
 v70:=Tryz.zeroValue297
 t76:=Tryz.underlying309
 a76:=Tryz.isAgg309
 z76:=Tryz.sizeOf309
 v76:=Tryz.zeroValue309
 t77:=Tryz.underlying310
 a77:=Tryz.isAgg310
 z77:=Tryz.sizeOf310
 v77:=Tryz.zeroValue310 }
def Tryz.laysIns_ren:Go.Shelf.Ren:=⟨fun |20=>145|n=>n,fun |24=>52|22=>53|3=>3|25=>89|4=>4|0=>0|n=>n,fun |n=>n⟩
theorem Tryz.laysIns : Go.Proofs.SlLaysF0.n20 Tryz.prog Tryz.laysIns_ren := {
 mixed:=by kernel_rfl
 f20:=⟨Tryz.f145.name, by decide, Tryz.func145.trans (congrArg some (by kernel_rfl))⟩
 t0:=Tryz.underlying0
 a0:=Tryz.isAgg0
 z0:=Tryz.sizeOf0
 v0:=Tryz.zeroValue0
 t3:=Tryz.underlying3
 a3:=Tryz.isAgg3
 z3:=Tryz.sizeOf3
 v3:=Tryz.zeroValue3
 t4:=Tryz.underlying4
 a4:=Tryz.isAgg4
 z4:=Tryz.sizeOf4
 v4:=Tryz.zeroValue4
 t22:=Tryz.underlying53
 a22:=Tryz.isAgg53
 z22:=Tryz.sizeOf53
 v22:=Tryz.zeroValue53
 t25:=Tryz.underlying89
 a25:=Tryz.isAgg89
 z25:=Tryz.sizeOf89
 v25:=Tryz.zeroValue89 }
end Go.Proofs
