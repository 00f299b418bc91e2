
import Derived.Test.YtihfaocdpmmooaaGreatZRange
namespace Go.Proofs.YtihfaocdpmmooaaGreat
open Go.RowKit Go.MapKept
def Z70 (k:Int):Value:=.int .i64 k
def Wm (s:ByteArray):Value:=.string s
theorem Kz {P:Program}{kt:TypeId}(h:P.underlying kt=some (.int .i64)):KeyOk P kt Z70 where
 chk e a w:=by
  show(Instr.checkKey e (9999+1) kt (Z70 a)).run P w=_
  rw[Instr.checkKey]
  simp[Z70,run_underlying h]
 same:=⟨_,h,fun a b=>by simp only[Z70,Instr.sameNow,if_true,Option.some.injEq];rw[Bool.eq_iff_iff];simp only[beq_iff_eq,decide_eq_true_eq]⟩
 bits a:=by simp[Z70,Instr.sameBits]
theorem Zee (a b:ByteArray):(a==b)=decide (a=b):=by
 obtain⟨⟨x⟩⟩:=a
 obtain⟨⟨y⟩⟩:=b
 show((⟨x⟩:Array UInt8)==⟨y⟩)=_
 rw[Bool.eq_iff_iff,beq_iff_eq,decide_eq_true_eq]
 simp
theorem Hn {P:Program}{kt:TypeId}(h:P.underlying kt=some .string):KeyOk P kt Wm where
 chk e a w:=by
  show(Instr.checkKey e (9999+1) kt (Wm a)).run P w=_
  rw[Instr.checkKey]
  simp[Wm,run_underlying h]
 same:=⟨_,h,fun a b=>by simp only[Wm,Instr.sameNow,Option.some.injEq];exact Zee a b⟩
 bits a:=by simp[Wm,Instr.sameBits,Zee]
end Go.Proofs.YtihfaocdpmmooaaGreat
