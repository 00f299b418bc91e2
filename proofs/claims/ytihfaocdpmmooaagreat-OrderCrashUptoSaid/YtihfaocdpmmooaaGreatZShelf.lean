
import Derived.Shelf.Small.Wraps
import Derived.Shelf.Sort.Plain
import Derived.Shelf.Slices.In.SortNone
import Derived.Test.YtihfaocdpmmooaaGreatProg
namespace Go.Proofs
open Go.Shelf
def Tryz.lays189_ren:Go.Shelf.Ren:=⟨fun | 189=>135 | 125=>146 | 257=>145 | 128=>162 | 129=>163 | 294=>153 | 295=>154 | 296=>155 | 297=>156 | 298=>157 | 299=>158 | 216=>159 | 300=>160 | 301=>161 | 328=>164 | 329=>165 | 330=>166 | 331=>167 | 332=>168 | 215=>169 | 343=>170 | n=>n,fun | 28=>75 | 3=>3 | 46=>176 | 0=>0 | 51=>208 | 53=>146 | 4=>4 | 183=>202 | 182=>201 | 131=>157 | 5=>5 | 9=>9 | 218=>210 | 222=>214 | 228=>216 | 229=>48 | n=>n,fun | n=>n⟩
theorem Tryz.lays189:Go.Proofs.Lays.n189 Tryz.prog Tryz.lays189_ren:={
 mixed:=by kernel_rfl
 f125:=Tryz.func146.trans (congrArg some (by kernel_rfl))
 f128:=Tryz.func162.trans (congrArg some (by kernel_rfl))
 f129:=Tryz.func163.trans (congrArg some (by kernel_rfl))
 f189:=Tryz.func135.trans (congrArg some (by kernel_rfl))
 f215:=Tryz.func169.trans (congrArg some (by kernel_rfl))
 f216:=Tryz.func159.trans (congrArg some (by kernel_rfl))
 f257:=Tryz.func145.trans (congrArg some (by kernel_rfl))
 f294:=Tryz.func153.trans (congrArg some (by kernel_rfl))
 f295:=Tryz.func154.trans (congrArg some (by kernel_rfl))
 f296:=Tryz.func155.trans (congrArg some (by kernel_rfl))
 f297:=Tryz.func156.trans (congrArg some (by kernel_rfl))
 f298:=Tryz.func157.trans (congrArg some (by kernel_rfl))
 f299:=Tryz.func158.trans (congrArg some (by kernel_rfl))
 f300:=Tryz.func160.trans (congrArg some (by kernel_rfl))
 f301:=Tryz.func161.trans (congrArg some (by kernel_rfl))
 f328:=Tryz.func164.trans (congrArg some (by kernel_rfl))
 f329:=Tryz.func165.trans (congrArg some (by kernel_rfl))
 f330:=Tryz.func166.trans (congrArg some (by kernel_rfl))
 f331:=Tryz.func167.trans (congrArg some (by kernel_rfl))
 f332:=Tryz.func168.trans (congrArg some (by kernel_rfl))
 f343:=Tryz.func170.trans (congrArg some (by kernel_rfl))
 t0:=Tryz.underlying0
 a0:=Tryz.isAgg0
 z0:=Tryz.sizeOf0
 v0:=Tryz.zeroValue0
 t3:=Tryz.underlying3
 a3:=Tryz.isAgg3
 z3:=Tryz.sizeOf3
 v3:=Tryz.zeroValue3
 t4:=Tryz.underlying4
 a4:=Tryz.isAgg4
 z4:=Tryz.sizeOf4
 v4:=Tryz.zeroValue4
 t5:=Tryz.underlying5
 a5:=Tryz.isAgg5
 z5:=Tryz.sizeOf5
 v5:=Tryz.zeroValue5
 t9:=Tryz.underlying9
 a9:=Tryz.isAgg9
 z9:=Tryz.sizeOf9
 v9:=Tryz.zeroValue9
 t28:=Tryz.underlying75
 a28:=Tryz.isAgg75
 z28:=Tryz.sizeOf75
 v28:=Tryz.zeroValue75
 t46:=Tryz.underlying176
 a46:=Tryz.isAgg176
 z46:=Tryz.sizeOf176
 v46:=Tryz.zeroValue176
 t51:=Tryz.underlying208
 a51:=Tryz.isAgg208
 z51:=Tryz.sizeOf208
 v51:=Tryz.zeroValue208
 t53:=Tryz.underlying146
 a53:=Tryz.isAgg146
 z53:=Tryz.sizeOf146
 v53:=Tryz.zeroValue146
 t131:=Tryz.underlying157
 a131:=Tryz.isAgg157
 z131:=Tryz.sizeOf157
 v131:=Tryz.zeroValue157
 t182:=Tryz.underlying201
 a182:=Tryz.isAgg201
 z182:=Tryz.sizeOf201
 v182:=Tryz.zeroValue201
 t183:=Tryz.underlying202
 a183:=Tryz.isAgg202
 z183:=Tryz.sizeOf202
 v183:=Tryz.zeroValue202
 t218:=Tryz.underlying210
 a218:=Tryz.isAgg210
 z218:=Tryz.sizeOf210
 v218:=Tryz.zeroValue210
 t222:=Tryz.underlying214
 a222:=Tryz.isAgg214
 z222:=Tryz.sizeOf214
 v222:=Tryz.zeroValue214
 t228:=Tryz.underlying216
 a228:=Tryz.isAgg216
 z228:=Tryz.sizeOf216
 v228:=Tryz.zeroValue216
 t229:=Tryz.underlying48
 a229:=Tryz.isAgg48
 z229:=Tryz.sizeOf48
 v229:=Tryz.zeroValue48}
open Go.Sort Go.RowKit in
theorem Tryz.slices_Sort_int (blk off cap:Nat)(b:List Int)(w:World)(hH:Holds (Value.int .i64) w blk off b.toArray)(a:blk < w.heap.size)(c:b.length < 4611686018427387904) :
  Calls Tryz.prog 135 #[.slice (some ⟨blk,off,none⟩) b.length cap] w fun e w' =>
   e=.returned (.tuple #[])∧∃n os,w'=grow (putRow (Value.int .i64) (Sort.ahead w n) blk off (b.mergeSort fun x y=>decide (x≤y)).toArray) os:=Any.slices_Sort_int Tryz.lays189 blk off cap b w hH a c
end Go.Proofs
