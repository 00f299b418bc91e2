
import Derived.Test.YtmmdikhljefeiaaGreatYShA
import Derived.Test.YtmmdikhljefeiaaGreatYRow
namespace Go.Proofs.YtmmdikhljefeiaaGreat
open Go.RowKit Go.MapKept
def Cn (bl:List (Nat × List UInt8))(k j:Nat):Nat:=(List.range j).countP λi=>(Az bl (k+i)).isNone
theorem Dc (bl:List (Nat × List UInt8))(k j:Nat):Cn bl k (j+1)=Cn bl k j+if(Az bl (k+j)).isNone then 1 else 0:=by unfold Cn;rw[List.range_succ,List.countP_append];simp[List.countP_cons]
theorem Wk (bl:List (Nat × List UInt8))(k j:Nat):Cn bl k j<=j:=by unfold Cn;exact cn List.countP_le_length (by simp)
def S1 (bl:List (Nat × List UInt8))(a:Int)(n:Nat):Nat:=if D9 a n=true/\0 < n then Cn bl (a.toNat / 16) ((a.toNat+n - 1) / 16 - a.toNat / 16+1) else 0
def Z6q:Value:=.agg #[.int .u8 0,.int .u8 0,.int .u8 0,.int .u8 0,.int .u8 0,.int .u8 0,.int .u8 0,.int .u8 0,.int .u8 0,.int .u8 0,.int .u8 0,.int .u8 0,.int .u8 0,.int .u8 0,.int .u8 0,.int .u8 0]
theorem Hd (w:World):(zeroValue 234).run Tryz.prog w=.ok Z6q w:=by kernel_rfl
theorem Eg:(Tryz.prog.info? 234).map (·.size)=some 16:=by kernel_rfl
def Do (bl:List (Nat × List UInt8))(k:Nat):List UInt8:=(Az bl k).getD (List.replicate 16 0)
theorem La (bl:List (Nat × List UInt8))(k:Nat):((Az bl k).map Ze4).getD Z6q=.agg ((Do bl k).map B3).toArray:=by
 unfold Do;cases Az bl k with
 | none=>rfl
 | some v=>rfl
theorem Fu {bl:List (Nat × List UInt8)}(h:∀p∈bl,p.2.length=16)(k:Nat):(Do bl k).length=16:=by
 unfold Do;cases hg:Az bl k with
 | none=>simp
 | some v=>exact h _ (Ee hg)
theorem E0 (l:List UInt8):∀v∈((l.map B3).toArray).toList,v.oneCell'=true:=by intro v a;obtain⟨x,_,rfl⟩:=bk.1 (by simpa using a);rfl
set_option maxRecDepth 100000 in
set_option maxHeartbeats 1000000 in
theorem Z6d {w:World}{b m size:Nat}{bl:List (Nat × List UInt8)}(h:Raw w b m size bl)(a:Int)(A:Option Addr)(n c:Nat)(hn:n<=maxLen) :
  Calls Tryz.prog 102 #[.pointer (some ⟨b,0,none⟩),.int .i64 a,.slice A n c] w
   λe w'=>e=.returned (.int .i64 (S1 bl a n:Nat))/\Below w.heap.size w w':=by
 have HF:=aa (Ua a A n c hn w);have hb:=ab w.heap.size w;unfold maxLen at hn;by_cases hf:D9 a n=true/\0 < n
 .obtain⟨hf1,hn0⟩:=hf;have HE:=aa (show S1 bl a n=_ from dq ⟨hf1,hn0⟩);rw[hf1] at HF;have hf2:=of_decide_eq_true hf1;obtain⟨ha,hn1,ha1⟩:=hf2;obtain⟨a,rfl⟩:=al ha;rw[bj] at HE;generalize hJ:(a+n - 1) / 16 - a / 16+1=J at HE;have hJ1:J<=65537:=by omega
  have hnz:((n:Int)==0)=false:=beq_eq_false_iff_ne.2 (by omega);have hk0:((a:Int) / 16)=((a / 16+0:Nat):Int):=by omega
  have HK0:=aa hk0;have HJ:=aa hJ;clear hk0 hJ hf1
  go_enter Tryz.func102,Tryz.ntmps102
  go_wp2_with (go_at_call 121;(with_reducible refine HF.out.mono ?_);rintro e w1 ⟨rfl,rfl⟩)
  go_loopw [7,8] (λvn vk wr=>∃j:Nat,j<=J/\vk=.int .i64 ((a / 16+j:Nat):Int)/\vn=.int .i64 (Cn bl (a / 16) j:Nat)/\Below w.heap.size w wr) (λ_ vk _=>J+a / 16 - (intOf vk).toNat)
  case atStart=>exact⟨0,aw _,by rw[<-HK0.out],rfl,hb⟩
  case round =>
   obtain⟨j,hj,rfl,rfl,hbr⟩:=hrel;have hml:=Wk bl (a / 16) j;have hJJ:=HJ.out;by_cases hlt:j < J
   .have ht:decide (((a / 16+j:Nat):Int)<=((a:Int)+n - 1) / 16)=true:=by rw[decide_eq_true_eq];omega
    have hR:=h.below hbr;have c1:=hR.c1;have hl:=Ca (P:=Tryz.prog) K64 Z7g (Hd wr) hR.map (a / 16+j);rw[La] at hl;have HL:=aa (Fu hR.full (a / 16+j));have HS:=aa (Dc bl (a / 16) j);unfold N1 at hl;clear hR hJJ;have hkb:a / 16+j<=200000:=by omega
    generalize hk:a / 16+j=k at *;have HK:=aa hk;clear hk;have HZ:=aa (show 16=((Do bl k).map B3).toArray.size by rw[List.size_toArray,ap,HL.out]);have HI:=aa (show(Tryz.prog.info? 234).map (·.size)=some ((Do bl k).map B3).toArray.size by rw[<-HZ.out];exact Eg);have hbn:=hbr.alloc hbr.size (Obj.cells ((Do bl k).map B3).toArray 234);cases hg:(Az bl k).isNone
    .have hs:(Az bl k).isSome=true:=by rw[Option.isNone_eq_false_iff] at hg;exact hg
     rw[hs] at hl;rw[hg] at HS;clear hg hs HL
     go_wp2_with (refine As rfl 234 (.tmp 9) (.tmp 39) rfl wr _ _ _ rfl rfl HZ.out HI.out (E0 _) ?_)
     go_roundw
     case rel=>exact⟨j+1,by omega,by rw[<-dc,HK.out];go_num,by rw[HS.out];rfl,hbn⟩
     case measure=>have:=HK.out;simp[intOf];omega
    .have hs:(Az bl k).isSome=false:=by rw[Option.isNone_iff_eq_none] at hg;rw[hg];rfl
     rw[hs] at hl;rw[hg] at HS;clear hg hs HL
     go_wp2_with (refine As rfl 234 (.tmp 9) (.tmp 39) rfl wr _ _ _ rfl rfl HZ.out HI.out (E0 _) ?_)
     go_roundw
     case rel=>exact⟨j+1,by omega,by rw[<-dc,HK.out];go_num,by rw[HS.out];go_num,hbn⟩
     case measure=>have:=HK.out;simp[intOf];omega
   .have hjJ:j=J:=by omega
    have ht:decide (((a / 16+j:Nat):Int)<=((a:Int)+n - 1) / 16)=false:=by rw[decide_eq_false_iff_not];omega
    have HD:=aa hjJ;clear hjJ hJJ;generalize hk:a / 16+j=k at *;clear hk
    go_wp2
    go_ret
    exact⟨Kh (by rw[HE.out,HD.out]),hbr⟩
 .have HE:=aa (show S1 bl a n=0 from dp hf);cases hf1:D9 a n
  .rw[hf1] at HF;clear hf hf1
   go_enter Tryz.func102,Tryz.ntmps102
   go_wp2_with (go_at_call 121;(with_reducible refine HF.out.mono ?_);rintro e w1 ⟨rfl,rfl⟩)
   go_ret
   exact⟨Kh (by rw[HE.out];rfl),hb⟩
  .rw[hf1] at HF;have hn0:n=0:=by
    rcases ak n with h0 | h0
    .exact h0
    .exact dt ⟨hf1,h0⟩ hf
   have hnz:((n:Int)==0)=true:=by rw[hn0];rfl
   clear hf hf1 hn0
   go_enter Tryz.func102,Tryz.ntmps102
   go_wp2_with (go_at_call 121;(with_reducible refine HF.out.mono ?_);rintro e w1 ⟨rfl,rfl⟩)
   go_ret
   exact⟨Kh (by rw[HE.out];rfl),hb⟩
end Go.Proofs.YtmmdikhljefeiaaGreat
