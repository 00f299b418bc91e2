
import Derived.Test.YtihfaocdpmmooaaGreatZRange
namespace Go.Proofs.YtihfaocdpmmooaaGreat
open Go.RowKit Go.MapKept
def Z5u (k:Int):Value:=.int .i64 k
def Wc (s:ByteArray):Value:=.string s
theorem Kf {P:Program}{kt:TypeId}(h:P.underlying kt=some (.int .i64)):KeyOk P kt Z5u where
 chk e a w:=by
  show(Instr.checkKey e (9999+1) kt (Z5u a)).run P w=_
  rw[Instr.checkKey]
  simp[Z5u,run_underlying h]
 same:=⟨_,h,fun a b=>by simp only[Z5u,Instr.sameNow,if_true,Option.some.injEq];rw[Bool.eq_iff_iff];simp only[beq_iff_eq,decide_eq_true_eq]⟩
 bits a:=by simp[Z5u,Instr.sameBits]
theorem Zdp (a b:ByteArray):(a==b)=decide (a=b):=by
 obtain⟨⟨x⟩⟩:=a
 obtain⟨⟨y⟩⟩:=b
 show((⟨x⟩:Array UInt8)==⟨y⟩)=_
 rw[Bool.eq_iff_iff,beq_iff_eq,decide_eq_true_eq]
 simp
theorem Hf {P:Program}{kt:TypeId}(h:P.underlying kt=some .string):KeyOk P kt Wc where
 chk e a w:=by
  show(Instr.checkKey e (9999+1) kt (Wc a)).run P w=_
  rw[Instr.checkKey]
  simp[Wc,run_underlying h]
 same:=⟨_,h,fun a b=>by simp only[Wc,Instr.sameNow,Option.some.injEq];exact Zdp a b⟩
 bits a:=by simp[Wc,Instr.sameBits,Zdp]
end Go.Proofs.YtihfaocdpmmooaaGreat
