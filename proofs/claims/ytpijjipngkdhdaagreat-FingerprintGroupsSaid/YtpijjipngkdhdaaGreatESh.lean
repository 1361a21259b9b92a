/- the library's contracts at this program -/
import Derived.Shelf.Small.Bits
import Derived.Shelf.Small.Wraps
import Derived.Shelf.Strconv.Itoa0
import Derived.Shelf.Bits.Mul64
import Derived.Ground.SlgnProg
import Derived.Shelf.SlicesE.Clone
import Derived.Ground.SlgfProg
import Derived.Shelf.SlicesE.IndexFunc
import Derived.Ground.SlsfProg
import Derived.Shelf.SlSortCmp.Insertion
import Derived.Shelf.SlSortCmp.SiftDown1
import Derived.Shelf.SlSortCmp.HeapSort1
import Derived.Shelf.SlSortCmp.Insertion1
import Derived.Shelf.SlSortCmp.Median1
import Derived.Shelf.SlSortCmp.Pivot1
import Derived.Shelf.SlSortCmp.ReverseRange1
import Derived.Shelf.SlSortCmp.PartialInsertion1
import Derived.Shelf.SlSortCmp.PartitionEqual1
import Derived.Shelf.SlSortCmp.Partition1
import Derived.Shelf.SlSortCmp.Pdq1
import Derived.Shelf.SlSortCmp.Whole1
import Derived.Shelf.SlSortCmp.NoneTotal
import Derived.Ground.SlsfProg
import Derived.Shelf.SlSortCmp.NoneTotal
import Derived.Shelf.Spec.BitsCarry
import Derived.Ground.Names7Prog
import Derived.Shelf.Lays7
import Derived.Test.YtpijjipngkdhdaaGreatProg
namespace Go.Proofs
open Go.Shelf
def Tryz.lays129_ren:Go.Shelf.Ren:=⟨fun |129=>269|n=>n,fun |53=>237|3=>3|4=>4|46=>290|5=>5|9=>9|n=>n,fun |n=>n⟩
theorem Tryz.lays129 : Go.Proofs.Lays.n129 Tryz.prog Tryz.lays129_ren := {
 mixed:=by kernel_rfl
 f129:=Tryz.func269.trans (congrArg some (by kernel_rfl))
 t3:=Tryz.underlying3
 a3:=Tryz.isAgg3
 z3:=Tryz.sizeOf3
 v3:=Tryz.zeroValue3
 t4:=Tryz.underlying4
 a4:=Tryz.isAgg4
 z4:=Tryz.sizeOf4
 v4:=Tryz.zeroValue4
 t5:=Tryz.underlying5
 a5:=Tryz.isAgg5
 z5:=Tryz.sizeOf5
 v5:=Tryz.zeroValue5
 t9:=Tryz.underlying9
 a9:=Tryz.isAgg9
 z9:=Tryz.sizeOf9
 v9:=Tryz.zeroValue9
 t46:=Tryz.underlying290
 a46:=Tryz.isAgg290
 z46:=Tryz.sizeOf290
 v46:=Tryz.zeroValue290
 t53:=Tryz.underlying237
 a53:=Tryz.isAgg237
 z53:=Tryz.sizeOf237
 v53:=Tryz.zeroValue237 }
theorem Tryz.bits_Len64 (x : Int) (w : World) (h0 : 0 ≤ x) (h1 : x ≤ 18446744073709551615) :
    Calls Tryz.prog 269 #[.int .u64 x] w fun e w' => e = .returned (.int .i64 (Lib.bitLen x.toNat)) ∧ w' = w := Any.bits_Len64 Tryz.lays129 x w h0 h1
def Tryz.lays264_ren:Go.Shelf.Ren:=⟨fun |264=>272|n=>n,fun |53=>237|46=>290|n=>n,fun |n=>n⟩
theorem Tryz.lays264 : Go.Proofs.Lays.n264 Tryz.prog Tryz.lays264_ren := {
 mixed:=by kernel_rfl
 f264:=Tryz.func272.trans (congrArg some (by kernel_rfl))
 t46:=Tryz.underlying290
 a46:=Tryz.isAgg290
 z46:=Tryz.sizeOf290
 v46:=Tryz.zeroValue290
 t53:=Tryz.underlying237
 a53:=Tryz.isAgg237
 z53:=Tryz.sizeOf237
 v53:=Tryz.zeroValue237 }
open Go.RowKit Go.Lib in
theorem Tryz.bits_Mul64 (x y : Nat) (hx : x < 18446744073709551616) (hy : y < 18446744073709551616) (w : World) :
    Calls Tryz.prog 272 #[.int .u64 x, .int .u64 y] w fun e w' => e = .returned (.tuple #[.int .u64 ((x * y / 18446744073709551616 : Nat) : Int), .int .u64 ((x * y % 18446744073709551616 : Nat) : Int)]) ∧ w' = w := Any.bits_Mul64 Tryz.lays264 x y hx hy w
def Tryz.laysSlH6_f279_ren:Go.Shelf.Ren:=⟨fun |6=>279|n=>n,fun |22=>31|23=>2|25=>329|3=>3|0=>0|4=>4|n=>n,fun |n=>n⟩
theorem Tryz.laysSlH6_f279 : Go.Proofs.SlLaysH.n6 Tryz.prog Tryz.laysSlH6_f279_ren := {
 mixed:=by kernel_rfl
 f6:=⟨Tryz.f279.name, by decide, Tryz.func279.trans (congrArg some (by kernel_rfl))⟩
 t0:=Tryz.underlying0
 a0:=Tryz.isAgg0
 z0:=Tryz.sizeOf0
 v0:=Tryz.zeroValue0
 t3:=Tryz.underlying3
 a3:=Tryz.isAgg3
 z3:=Tryz.sizeOf3
 v3:=Tryz.zeroValue3
 t4:=Tryz.underlying4
 a4:=Tryz.isAgg4
 z4:=Tryz.sizeOf4
 v4:=Tryz.zeroValue4
 t22:=Tryz.underlying31
 a22:=Tryz.isAgg31
 z22:=Tryz.sizeOf31
 v22:=Tryz.zeroValue31
 a23:=Tryz.isAgg2
 z23:=Tryz.sizeOf2
 t25:=Tryz.underlying329
 a25:=Tryz.isAgg329
 z25:=Tryz.sizeOf329
 v25:=Tryz.zeroValue329 }
open Go.RowKit Go.Lib in
theorem Tryz.slices_IndexFunc {α : Type} [Inhabited α] (enc : α → Value) (p : α → Bool) (g : Nat) (lb : Array Value) (eg : ∀ args w, (callFunc g args).run Tryz.prog w = .ok (.enter g args) w) (b off n c : Nat) (zs : List α) (w : World) (hp : PredAt Tryz.prog g lb enc p w) (hz : n ≤ zs.length) (hbig : n ≤ 9223372036854775807) (hc : ∀ j, j < zs.length → w.cell? ⟨b, off + j, none⟩ = some (enc zs[j]!)) :
    Calls Tryz.prog 279 #[.slice (some ⟨b, off, none⟩) n c, .func (.func g) #[] lb] w fun e w' => e = .returned (.int .i64 (Lib.idxBy (fun _ y => p y) (zs.take n) default)) ∧ ∃ q, w' = w.drewN q := AnyE.slices_IndexFunc Tryz.laysSlH6_f279 enc p g lb eg b off n c zs w hp hz hbig hc
open Go.RowKit Go.Lib in
theorem Tryz.slices_IndexFunc_empty {α : Type} [Inhabited α] (a : Option Addr) (c : Nat) (fv : Value) (w : World) :
    Calls Tryz.prog 279 #[.slice a 0 c, fv] w fun e w' => e = .returned (.int .i64 (-1)) ∧ w' = w := AnyE.slices_IndexFunc_empty Tryz.laysSlH6_f279 a c fv w
def Tryz.laysSort_ren:Go.Shelf.Ren:=⟨fun |6=>282|15=>243|14=>344|28=>305|29=>269|20=>366|21=>367|22=>368|23=>369|24=>370|25=>371|26=>372|27=>373|46=>385|47=>348|48=>349|49=>386|50=>387|57=>395|n=>n,fun |22=>274|24=>279|25=>273|3=>3|39=>290|0=>0|53=>305|55=>237|4=>4|46=>346|45=>345|50=>168|5=>5|9=>9|66=>374|70=>378|76=>389|77=>390|n=>n,fun |n=>n⟩
theorem Tryz.laysSort : Go.Proofs.SlLaysF0.n6 Tryz.prog Tryz.laysSort_ren := {
 mixed:=by kernel_rfl
 f6:=⟨Tryz.f282.name, by decide, Tryz.func282.trans (congrArg some (by kernel_rfl))⟩
 f14:=⟨Tryz.f344.name, by decide, Tryz.func344.trans (congrArg some (by kernel_rfl))⟩
 f15:=Tryz.func243.trans (congrArg some (by kernel_rfl))
 f20:=⟨Tryz.f366.name, by decide, Tryz.func366.trans (congrArg some (by kernel_rfl))⟩
 f21:=⟨Tryz.f367.name, by decide, Tryz.func367.trans (congrArg some (by kernel_rfl))⟩
 f22:=⟨Tryz.f368.name, by decide, Tryz.func368.trans (congrArg some (by kernel_rfl))⟩
 f23:=⟨Tryz.f369.name, by decide, Tryz.func369.trans (congrArg some (by kernel_rfl))⟩
 f24:=⟨Tryz.f370.name, by decide, Tryz.func370.trans (congrArg some (by kernel_rfl))⟩
 f25:=⟨Tryz.f371.name, by decide, Tryz.func371.trans (congrArg some (by kernel_rfl))⟩
 f26:=⟨Tryz.f372.name, by decide, Tryz.func372.trans (congrArg some (by kernel_rfl))⟩
 f27:=⟨Tryz.f373.name, by decide, Tryz.func373.trans (congrArg some (by kernel_rfl))⟩
 f28:=Tryz.func305.trans (congrArg some (by kernel_rfl))
 f29:=Tryz.func269.trans (congrArg some (by kernel_rfl))
 f46:=⟨Tryz.f385.name, by decide, Tryz.func385.trans (congrArg some (by kernel_rfl))⟩
 f47:=Tryz.func348.trans (congrArg some (by kernel_rfl))
 f48:=Tryz.func349.trans (congrArg some (by kernel_rfl))
 f49:=⟨Tryz.f386.name, by decide, Tryz.func386.trans (congrArg some (by kernel_rfl))⟩
 f50:=⟨Tryz.f387.name, by decide, Tryz.func387.trans (congrArg some (by kernel_rfl))⟩
 f57:=⟨Tryz.f395.name, by decide, Tryz.func395.trans (congrArg some (by kernel_rfl))⟩
 t0:=Tryz.underlying0
 a0:=Tryz.isAgg0
 z0:=Tryz.sizeOf0
 v0:=Tryz.zeroValue0
 t3:=Tryz.underlying3
 a3:=Tryz.isAgg3
 z3:=Tryz.sizeOf3
 v3:=Tryz.zeroValue3
 t4:=Tryz.underlying4
 a4:=Tryz.isAgg4
 z4:=Tryz.sizeOf4
 v4:=Tryz.zeroValue4
 t5:=Tryz.underlying5
 a5:=Tryz.isAgg5
 z5:=Tryz.sizeOf5
 v5:=Tryz.zeroValue5
 t9:=Tryz.underlying9
 a9:=Tryz.isAgg9
 z9:=Tryz.sizeOf9
 v9:=Tryz.zeroValue9
 t22:=Tryz.underlying274
 a22:=Tryz.isAgg274
 z22:=Tryz.sizeOf274
 v22:=Tryz.zeroValue274
 t25:=Tryz.underlying273
 a25:=Tryz.isAgg273
 z25:=Tryz.sizeOf273
 v25:=Tryz.zeroValue273
 t39:=Tryz.underlying290
 a39:=Tryz.isAgg290
 z39:=Tryz.sizeOf290
 v39:=Tryz.zeroValue290
 t45:=Tryz.underlying345
 a45:=Tryz.isAgg345
 z45:=Tryz.sizeOf345
 v45:=Tryz.zeroValue345
 t46:=Tryz.underlying346
 a46:=Tryz.isAgg346
 z46:=Tryz.sizeOf346
 v46:=Tryz.zeroValue346
 t50:=Tryz.underlying168
 a50:=Tryz.isAgg168
 z50:=Tryz.sizeOf168
 v50:=Tryz.zeroValue168
 t53:=Tryz.underlying305
 a53:=Tryz.isAgg305
 z53:=Tryz.sizeOf305
 v53:=Tryz.zeroValue305
 t55:=Tryz.underlying237
 a55:=Tryz.isAgg237
 z55:=Tryz.sizeOf237
 v55:=Tryz.zeroValue237
 t66:=Tryz.underlying374
 a66:=Tryz.isAgg374
 z66:=Tryz.sizeOf374
 v66:=Tryz.zeroValue374
 t70:=Tryz.underlying378
 a70:=Tryz.isAgg378
 z70:=Tryz.sizeOf378
 v70:=Tryz.zeroValue378
 t76:=Tryz.underlying389
 a76:=Tryz.isAgg389
 z76:=Tryz.sizeOf389
 v76:=Tryz.zeroValue389
 t77:=Tryz.underlying390
 a77:=Tryz.isAgg390
 z77:=Tryz.sizeOf390
 v77:=Tryz.zeroValue390 }
def Tryz.lays7n25_ren:Go.Shelf.Ren:=⟨fun |25=>342|n=>n,fun |22=>237|n=>n,fun |n=>n⟩
theorem Tryz.lays7n25 : Go.Proofs.Lays7.n25 Tryz.prog Tryz.lays7n25_ren := {
 mixed:=by kernel_rfl
 f25:=Tryz.func342.trans (congrArg some (by kernel_rfl))
 t22:=Tryz.underlying237
 a22:=Tryz.isAgg237
 z22:=Tryz.sizeOf237
 v22:=Tryz.zeroValue237
 i22:=by kernel_rfl }
def Tryz.lays7n26_ren:Go.Shelf.Ren:=⟨fun |26=>343|n=>n,fun |22=>237|n=>n,fun |n=>n⟩
theorem Tryz.lays7n26 : Go.Proofs.Lays7.n26 Tryz.prog Tryz.lays7n26_ren := {
 mixed:=by kernel_rfl
 f26:=Tryz.func343.trans (congrArg some (by kernel_rfl))
 t22:=Tryz.underlying237
 a22:=Tryz.isAgg237
 z22:=Tryz.sizeOf237
 v22:=Tryz.zeroValue237
 i22:=by kernel_rfl }
end Go.Proofs
