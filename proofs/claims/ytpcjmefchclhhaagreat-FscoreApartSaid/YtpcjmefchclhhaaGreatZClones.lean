/- A part of the proof. -/
import Derived.Shelf.SlMaps.Clone
import Derived.Test.YtpcjmefchclhhaaGreatProg
namespace Go.Proofs
open Go.Shelf
def Tryz.cloneG_ren : Go.Shelf.Ren := ⟨fun | 5 => 48 | 7 => 78 | n => n, fun | 23 => 64 | 25 => 3 | 3 => 3 | 4 => 4 | 20 => 20 | n => n, fun | n => n⟩
theorem Tryz.cloneG : Go.Proofs.SlLaysW.n5 Tryz.prog Tryz.cloneG_ren := {
 mixed := by kernel_rfl
 f5 := ⟨Tryz.f48.name, by decide, Tryz.func48.trans (congrArg some (by kernel_rfl))⟩
 f7 := Tryz.func78.trans (congrArg some (by kernel_rfl))
 t4 := Tryz.underlying4
 a4 := Tryz.isAgg4
 z4 := Tryz.sizeOf4
 v4 := Tryz.zeroValue4
 t20 := Tryz.underlying20
 a20 := Tryz.isAgg20
 z20 := Tryz.sizeOf20
 v20 := Tryz.zeroValue20
 t23 := Tryz.underlying64
 a23 := Tryz.isAgg64
 z23 := Tryz.sizeOf64
 v23 := Tryz.zeroValue64 }
def Tryz.cloneN_ren : Go.Shelf.Ren := ⟨fun | 5 => 50 | 7 => 78 | n => n, fun | 23 => 69 | 25 => 9 | 3 => 3 | 4 => 4 | 20 => 20 | n => n, fun | n => n⟩
theorem Tryz.cloneN : Go.Proofs.SlLaysW.n5 Tryz.prog Tryz.cloneN_ren := {
 mixed := by kernel_rfl
 f5 := ⟨Tryz.f50.name, by decide, Tryz.func50.trans (congrArg some (by kernel_rfl))⟩
 f7 := Tryz.func78.trans (congrArg some (by kernel_rfl))
 t4 := Tryz.underlying4
 a4 := Tryz.isAgg4
 z4 := Tryz.sizeOf4
 v4 := Tryz.zeroValue4
 t20 := Tryz.underlying20
 a20 := Tryz.isAgg20
 z20 := Tryz.sizeOf20
 v20 := Tryz.zeroValue20
 t23 := Tryz.underlying69
 a23 := Tryz.isAgg69
 z23 := Tryz.sizeOf69
 v23 := Tryz.zeroValue69 }
end Go.Proofs
