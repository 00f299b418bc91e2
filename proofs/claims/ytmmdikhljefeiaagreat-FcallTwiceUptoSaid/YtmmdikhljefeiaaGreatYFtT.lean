
import Derived.Test.YtmmdikhljefeiaaGreatQM1
import Derived.Test.YtmmdikhljefeiaaGreatWA
namespace Go.Proofs.YtmmdikhljefeiaaGreat
open Go.RowKit Go.MapKept
set_option maxHeartbeats 1000000 in
theorem Xc {w:World}{f mi mg K:Nat}{r:RFs}{N:List Nd}(h:FsN w f mi mg r N)(hW:Wf r K)(i g:Int) :
  Calls Tryz.prog 79 #[.pointer (some ⟨f,0,none⟩),.agg #[.int .i64 i,.int .i64 g]] w λe w'=>e=.returned (.tuple #[.string (D4 r (i,g)).1,.int .i64 (D4 r (i,g)).2])/\Below w.heap.size w w':=by
 obtain⟨w1,hw1,hB,hs1,hb0⟩:=Ht w #[.int .i64 i,.int .i64 g] 31;have t0:w1.cell? ⟨w.heap.size,0,none⟩=some (.int .i64 i):=by rw[A1 hb0];rfl
 have t1:w1.cell? ⟨w.heap.size,1,none⟩=some (.int .i64 g):=by rw[A1 hb0];rfl
 have h1:=h.below hW hB;have HW1:=aa hw1;have HB:=aa hB;cases hl:Aj r (i,g)
 .have hT:D4 r (i,g)=(Jr,175):=by unfold D4;rw[hl];rfl
  rw[hT];have HFd:=aa (Hv h1 hW i g hl);clear hw1 hB hb0 h1 h hW hl hT
  go_enter Tryz.func79,Tryz.ntmps79
  go_wp2_with fail
  rw[HW1.out]
  go_wp2_with (go_at_call 81;(with_reducible refine HFd.out.mono ?_);rintro e w2 ⟨rfl,hB2⟩)
  go_ret2
  exact⟨rfl,HB.out.trans (hB2.mono HB.out.size)⟩
 .obtain⟨m1,m2,m3⟩:=Ac hl;obtain⟨n,hn,hr⟩:=h1.at_ hW m1;have HFd:=aa (Ec h1 hW i g hl hn (hr.id.trans m2));unfold De at HFd;have hxk:=hW.kind _ m1;have HX:=aa (show ∀w3,Below w1.heap.size w1 w3->NodeR w3 r (A3 r.ins i) n from λw3 hb=>hr.below hxk hb);have hT:D4 r (i,g)=if(A3 r.ins i).kind=3 then((A3 r.ins i).target,0) else(Jr,1):=by unfold D4;rw[dq hl]
  rw[hT];obtain⟨x,hxe⟩:∃x,A3 r.ins i=x:=⟨_,rfl⟩;rw[hxe] at hr hxk HX⊢;clear hw1 hB hb0 h1 h hW hl hT m1 m2 m3 hn hr hxe;by_cases hk:x.kind=3
  .have hta:∀w,(Instr.typeAssert (Ad x n) 20 9 true).run Tryz.prog w=.ok (.tuple #[.string x.target,.bool true]) w:=λw=>by rw[Z11,dq (by omega)]
   rw[dq hk];have HX5:=aa (show ∀w3,Below w1.heap.size w1 w3->w3.cell? ⟨n.blk,5,none⟩=some (Ad x n) from λw3 hb=>by obtain⟨-,-,-,-,-,c5⟩:=(HX.out w3 hb).cells;exact c5);clear HX;generalize Ad x n=hv at *
   go_enter Tryz.func79,Tryz.ntmps79
   go_wp2_with fail
   rw[HW1.out]
   go_wp2_with (go_at_call 81;(with_reducible refine HFd.out.mono ?_);rintro e w2 ⟨rfl,hB2⟩;have c5:=HX5.out w2 hB2)
   go_ret2
   exact⟨rfl,HB.out.trans (hB2.mono HB.out.size)⟩
  .have hta:∀w,(Instr.typeAssert (Ad x n) 20 9 true).run Tryz.prog w=.ok (.tuple #[.string Jr,.bool false]) w:=λw=>by rw[Z11,dp (by omega)]
   rw[dp hk];have HX5:=aa (show ∀w3,Below w1.heap.size w1 w3->w3.cell? ⟨n.blk,5,none⟩=some (Ad x n) from λw3 hb=>by obtain⟨-,-,-,-,-,c5⟩:=(HX.out w3 hb).cells;exact c5);clear HX;generalize Ad x n=hv at *
   go_enter Tryz.func79,Tryz.ntmps79
   go_wp2_with fail
   rw[HW1.out]
   go_wp2_with (go_at_call 81;(with_reducible refine HFd.out.mono ?_);rintro e w2 ⟨rfl,hB2⟩;have c5:=HX5.out w2 hB2)
   go_ret2
   exact⟨rfl,HB.out.trans (hB2.mono HB.out.size)⟩
end Go.Proofs.YtmmdikhljefeiaaGreat
