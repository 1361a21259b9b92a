/- the library's contracts at this program -/
import Derived.Shelf.Small.Bits
import Derived.Shelf.Small.Wraps
import Derived.Shelf.Strconv.Itoa0
import Derived.Shelf.Bits.Mul64
import Derived.Ground.SlgnProg
import Derived.Shelf.SlicesE.Clone
import Derived.Ground.SlgfProg
import Derived.Shelf.SlicesE.IndexFunc
import Derived.Ground.SlsfProg
import Derived.Shelf.SlSortCmp.Insertion
import Derived.Shelf.SlSortCmp.SiftDown1
import Derived.Shelf.SlSortCmp.HeapSort1
import Derived.Shelf.SlSortCmp.Insertion1
import Derived.Shelf.SlSortCmp.Median1
import Derived.Shelf.SlSortCmp.Pivot1
import Derived.Shelf.SlSortCmp.ReverseRange1
import Derived.Shelf.SlSortCmp.PartialInsertion1
import Derived.Shelf.SlSortCmp.PartitionEqual1
import Derived.Shelf.SlSortCmp.Partition1
import Derived.Shelf.SlSortCmp.Pdq1
import Derived.Shelf.SlSortCmp.Whole1
import Derived.Shelf.SlSortCmp.NoneTotal
import Derived.Ground.SlsfProg
import Derived.Shelf.SlSortCmp.NoneTotal
import Derived.Shelf.Spec.BitsCarry
import Derived.Ground.Names7Prog
import Derived.Shelf.Lays7
import Derived.Test.YtpcgfpmiphiacaaGreatProg
namespace Go.Proofs
open Go.Shelf
def Tryz.lays129_ren:Go.Shelf.Ren:=⟨fun |129=>201|n=>n,fun |53=>168|3=>3|4=>4|46=>212|5=>5|9=>9|n=>n,fun |n=>n⟩
theorem Tryz.lays129 : Go.Proofs.Lays.n129 Tryz.prog Tryz.lays129_ren := {
 mixed:=by kernel_rfl
 f129:=Tryz.func201.trans (congrArg some (by kernel_rfl))
 t3:=Tryz.underlying3
 a3:=Tryz.isAgg3
 z3:=Tryz.sizeOf3
 v3:=Tryz.zeroValue3
 t4:=Tryz.underlying4
 a4:=Tryz.isAgg4
 z4:=Tryz.sizeOf4
 v4:=Tryz.zeroValue4
 t5:=Tryz.underlying5
 a5:=Tryz.isAgg5
 z5:=Tryz.sizeOf5
 v5:=Tryz.zeroValue5
 t9:=Tryz.underlying9
 a9:=Tryz.isAgg9
 z9:=Tryz.sizeOf9
 v9:=Tryz.zeroValue9
 t46:=Tryz.underlying212
 a46:=Tryz.isAgg212
 z46:=Tryz.sizeOf212
 v46:=Tryz.zeroValue212
 t53:=Tryz.underlying168
 a53:=Tryz.isAgg168
 z53:=Tryz.sizeOf168
 v53:=Tryz.zeroValue168 }
theorem Tryz.bits_Len64 (x : Int) (w : World) (h0 : 0 ≤ x) (h1 : x ≤ 18446744073709551615) :
    Calls Tryz.prog 201 #[.int .u64 x] w fun e w' => e = .returned (.int .i64 (Lib.bitLen x.toNat)) ∧ w' = w := Any.bits_Len64 Tryz.lays129 x w h0 h1
def Tryz.lays264_ren:Go.Shelf.Ren:=⟨fun |264=>235|n=>n,fun |53=>168|46=>212|n=>n,fun |n=>n⟩
theorem Tryz.lays264 : Go.Proofs.Lays.n264 Tryz.prog Tryz.lays264_ren := {
 mixed:=by kernel_rfl
 f264:=Tryz.func235.trans (congrArg some (by kernel_rfl))
 t46:=Tryz.underlying212
 a46:=Tryz.isAgg212
 z46:=Tryz.sizeOf212
 v46:=Tryz.zeroValue212
 t53:=Tryz.underlying168
 a53:=Tryz.isAgg168
 z53:=Tryz.sizeOf168
 v53:=Tryz.zeroValue168 }
open Go.RowKit Go.Lib in
theorem Tryz.bits_Mul64 (x y : Nat) (hx : x < 18446744073709551616) (hy : y < 18446744073709551616) (w : World) :
    Calls Tryz.prog 235 #[.int .u64 x, .int .u64 y] w fun e w' => e = .returned (.tuple #[.int .u64 ((x * y / 18446744073709551616 : Nat) : Int), .int .u64 ((x * y % 18446744073709551616 : Nat) : Int)]) ∧ w' = w := Any.bits_Mul64 Tryz.lays264 x y hx hy w
def Tryz.laysSlH6_f194_ren:Go.Shelf.Ren:=⟨fun |6=>194|n=>n,fun |22=>35|23=>2|25=>215|3=>3|0=>0|4=>4|n=>n,fun |n=>n⟩
theorem Tryz.laysSlH6_f194 : Go.Proofs.SlLaysH.n6 Tryz.prog Tryz.laysSlH6_f194_ren := {
 mixed:=by kernel_rfl
 f6:=⟨Tryz.f194.name, by decide, Tryz.func194.trans (congrArg some (by kernel_rfl))⟩
 t0:=Tryz.underlying0
 a0:=Tryz.isAgg0
 z0:=Tryz.sizeOf0
 v0:=Tryz.zeroValue0
 t3:=Tryz.underlying3
 a3:=Tryz.isAgg3
 z3:=Tryz.sizeOf3
 v3:=Tryz.zeroValue3
 t4:=Tryz.underlying4
 a4:=Tryz.isAgg4
 z4:=Tryz.sizeOf4
 v4:=Tryz.zeroValue4
 t22:=Tryz.underlying35
 a22:=Tryz.isAgg35
 z22:=Tryz.sizeOf35
 v22:=Tryz.zeroValue35
 a23:=Tryz.isAgg2
 z23:=Tryz.sizeOf2
 t25:=Tryz.underlying215
 a25:=Tryz.isAgg215
 z25:=Tryz.sizeOf215
 v25:=Tryz.zeroValue215 }
open Go.RowKit Go.Lib in
theorem Tryz.slices_IndexFunc {α : Type} [Inhabited α] (enc : α → Value) (p : α → Bool) (g : Nat) (lb : Array Value) (eg : ∀ args w, (callFunc g args).run Tryz.prog w = .ok (.enter g args) w) (b off n c : Nat) (zs : List α) (w : World) (hp : PredAt Tryz.prog g lb enc p w) (hz : n ≤ zs.length) (hbig : n ≤ 9223372036854775807) (hc : ∀ j, j < zs.length → w.cell? ⟨b, off + j, none⟩ = some (enc zs[j]!)) :
    Calls Tryz.prog 194 #[.slice (some ⟨b, off, none⟩) n c, .func (.func g) #[] lb] w fun e w' => e = .returned (.int .i64 (Lib.idxBy (fun _ y => p y) (zs.take n) default)) ∧ ∃ q, w' = w.drewN q := AnyE.slices_IndexFunc Tryz.laysSlH6_f194 enc p g lb eg b off n c zs w hp hz hbig hc
open Go.RowKit Go.Lib in
theorem Tryz.slices_IndexFunc_empty {α : Type} [Inhabited α] (a : Option Addr) (c : Nat) (fv : Value) (w : World) :
    Calls Tryz.prog 194 #[.slice a 0 c, fv] w fun e w' => e = .returned (.int .i64 (-1)) ∧ w' = w := AnyE.slices_IndexFunc_empty Tryz.laysSlH6_f194 a c fv w
def Tryz.laysSort_ren:Go.Shelf.Ren:=⟨fun |6=>196|15=>144|14=>238|28=>210|29=>201|20=>265|21=>266|22=>267|23=>268|24=>269|25=>270|26=>271|27=>272|46=>284|47=>249|48=>250|49=>285|50=>286|57=>293|n=>n,fun |22=>195|24=>201|25=>194|3=>3|39=>212|0=>0|53=>271|55=>168|4=>4|46=>265|45=>264|50=>173|5=>5|9=>9|66=>293|70=>297|76=>309|77=>310|n=>n,fun |n=>n⟩
theorem Tryz.laysSort : Go.Proofs.SlLaysF0.n6 Tryz.prog Tryz.laysSort_ren := {
 mixed:=by kernel_rfl
 f6:=⟨Tryz.f196.name, by decide, Tryz.func196.trans (congrArg some (by kernel_rfl))⟩
 f14:=⟨Tryz.f238.name, by decide, Tryz.func238.trans (congrArg some (by kernel_rfl))⟩
 f15:=Tryz.func144.trans (congrArg some (by kernel_rfl))
 f20:=⟨Tryz.f265.name, by decide, Tryz.func265.trans (congrArg some (by kernel_rfl))⟩
 f21:=⟨Tryz.f266.name, by decide, Tryz.func266.trans (congrArg some (by kernel_rfl))⟩
 f22:=⟨Tryz.f267.name, by decide, Tryz.func267.trans (congrArg some (by kernel_rfl))⟩
 f23:=⟨Tryz.f268.name, by decide, Tryz.func268.trans (congrArg some (by kernel_rfl))⟩
 f24:=⟨Tryz.f269.name, by decide, Tryz.func269.trans (congrArg some (by kernel_rfl))⟩
 f25:=⟨Tryz.f270.name, by decide, Tryz.func270.trans (congrArg some (by kernel_rfl))⟩
 f26:=⟨Tryz.f271.name, by decide, Tryz.func271.trans (congrArg some (by kernel_rfl))⟩
 f27:=⟨Tryz.f272.name, by decide, Tryz.func272.trans (congrArg some (by kernel_rfl))⟩
 f28:=Tryz.func210.trans (congrArg some (by kernel_rfl))
 f29:=Tryz.func201.trans (congrArg some (by kernel_rfl))
 f46:=⟨Tryz.f284.name, by decide, Tryz.func284.trans (congrArg some (by kernel_rfl))⟩
 f47:=Tryz.func249.trans (congrArg some (by kernel_rfl))
 f48:=Tryz.func250.trans (congrArg some (by kernel_rfl))
 f49:=⟨Tryz.f285.name, by decide, Tryz.func285.trans (congrArg some (by kernel_rfl))⟩
 f50:=⟨Tryz.f286.name, by decide, Tryz.func286.trans (congrArg some (by kernel_rfl))⟩
 f57:=⟨Tryz.f293.name, by decide, Tryz.func293.trans (congrArg some (by kernel_rfl))⟩
 t0:=Tryz.underlying0
 a0:=Tryz.isAgg0
 z0:=Tryz.sizeOf0
 v0:=Tryz.zeroValue0
 t3:=Tryz.underlying3
 a3:=Tryz.isAgg3
 z3:=Tryz.sizeOf3
 v3:=Tryz.zeroValue3
 t4:=Tryz.underlying4
 a4:=Tryz.isAgg4
 z4:=Tryz.sizeOf4
 v4:=Tryz.zeroValue4
 t5:=Tryz.underlying5
 a5:=Tryz.isAgg5
 z5:=Tryz.sizeOf5
 v5:=Tryz.zeroValue5
 t9:=Tryz.underlying9
 a9:=Tryz.isAgg9
 z9:=Tryz.sizeOf9
 v9:=Tryz.zeroValue9
 t22:=Tryz.underlying195
 a22:=Tryz.isAgg195
 z22:=Tryz.sizeOf195
 v22:=Tryz.zeroValue195
 t25:=Tryz.underlying194
 a25:=Tryz.isAgg194
 z25:=Tryz.sizeOf194
 v25:=Tryz.zeroValue194
 t39:=Tryz.underlying212
 a39:=Tryz.isAgg212
 z39:=Tryz.sizeOf212
 v39:=Tryz.zeroValue212
 t45:=Tryz.underlying264
 a45:=Tryz.isAgg264
 z45:=Tryz.sizeOf264
 v45:=Tryz.zeroValue264
 t46:=Tryz.underlying265
 a46:=Tryz.isAgg265
 z46:=Tryz.sizeOf265
 v46:=Tryz.zeroValue265
 t50:=Tryz.underlying173
 a50:=Tryz.isAgg173
 z50:=Tryz.sizeOf173
 v50:=Tryz.zeroValue173
 t53:=Tryz.underlying271
 a53:=Tryz.isAgg271
 z53:=Tryz.sizeOf271
 v53:=Tryz.zeroValue271
 t55:=Tryz.underlying168
 a55:=Tryz.isAgg168
 z55:=Tryz.sizeOf168
 v55:=Tryz.zeroValue168
 t66:=Tryz.underlying293
 a66:=Tryz.isAgg293
 z66:=Tryz.sizeOf293
 v66:=Tryz.zeroValue293
 t70:=Tryz.underlying297
 a70:=Tryz.isAgg297
 z70:=Tryz.sizeOf297
 v70:=Tryz.zeroValue297
 t76:=Tryz.underlying309
 a76:=Tryz.isAgg309
 z76:=Tryz.sizeOf309
 v76:=Tryz.zeroValue309
 t77:=Tryz.underlying310
 a77:=Tryz.isAgg310
 z77:=Tryz.sizeOf310
 v77:=Tryz.zeroValue310 }
def Tryz.lays7n25_ren:Go.Shelf.Ren:=⟨fun |25=>236|n=>n,fun |22=>168|n=>n,fun |n=>n⟩
theorem Tryz.lays7n25 : Go.Proofs.Lays7.n25 Tryz.prog Tryz.lays7n25_ren := {
 mixed:=by kernel_rfl
 f25:=Tryz.func236.trans (congrArg some (by kernel_rfl))
 t22:=Tryz.underlying168
 a22:=Tryz.isAgg168
 z22:=Tryz.sizeOf168
 v22:=Tryz.zeroValue168
 i22:=by kernel_rfl }
def Tryz.lays7n26_ren:Go.Shelf.Ren:=⟨fun |26=>237|n=>n,fun |22=>168|n=>n,fun |n=>n⟩
theorem Tryz.lays7n26 : Go.Proofs.Lays7.n26 Tryz.prog Tryz.lays7n26_ren := {
 mixed:=by kernel_rfl
 f26:=Tryz.func237.trans (congrArg some (by kernel_rfl))
 t22:=Tryz.underlying168
 a22:=Tryz.isAgg168
 z22:=Tryz.sizeOf168
 v22:=Tryz.zeroValue168
 i22:=by kernel_rfl }
end Go.Proofs
