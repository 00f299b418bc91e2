
import Derived.Shelf.SlMaps.Clone
import Derived.Test.YtmmdikhljefeiaaGreatProg
namespace Go.Proofs
open Go.Shelf
def Tryz.cloneG_ren:Go.Shelf.Ren:=⟨λ| 5=>88 | 7=>91 | n=>n,λ| 23=>145 | 25=>3 | 3=>3 | 4=>4 | 20=>20 | n=>n,λ| n=>n⟩
theorem Tryz.cloneG:Go.Proofs.SlLaysW.n5 Tryz.prog Tryz.cloneG_ren:={
 mixed:=by kernel_rfl
 f5:=⟨Tryz.f88.name,by decide,Tryz.func88.trans (congrArg some (by kernel_rfl))⟩
 f7:=Tryz.func91.trans (congrArg some (by kernel_rfl))
 t4:=Tryz.underlying4
 a4:=Tryz.isAgg4
 z4:=Tryz.sizeOf4
 v4:=Tryz.zeroValue4
 t20:=Tryz.underlying20
 a20:=Tryz.isAgg20
 z20:=Tryz.sizeOf20
 v20:=Tryz.zeroValue20
 t23:=Tryz.underlying145
 a23:=Tryz.isAgg145
 z23:=Tryz.sizeOf145
 v23:=Tryz.zeroValue145}
def Tryz.cloneN_ren:Go.Shelf.Ren:=⟨λ| 5=>90 | 7=>91 | n=>n,λ| 23=>150 | 25=>9 | 3=>3 | 4=>4 | 20=>20 | n=>n,λ| n=>n⟩
theorem Tryz.cloneN:Go.Proofs.SlLaysW.n5 Tryz.prog Tryz.cloneN_ren:={
 mixed:=by kernel_rfl
 f5:=⟨Tryz.f90.name,by decide,Tryz.func90.trans (congrArg some (by kernel_rfl))⟩
 f7:=Tryz.func91.trans (congrArg some (by kernel_rfl))
 t4:=Tryz.underlying4
 a4:=Tryz.isAgg4
 z4:=Tryz.sizeOf4
 v4:=Tryz.zeroValue4
 t20:=Tryz.underlying20
 a20:=Tryz.isAgg20
 z20:=Tryz.sizeOf20
 v20:=Tryz.zeroValue20
 t23:=Tryz.underlying150
 a23:=Tryz.isAgg150
 z23:=Tryz.sizeOf150
 v23:=Tryz.zeroValue150}
end Go.Proofs
