
import Derived.Test.YtihfaocdpmmooaaGreatZNl
namespace Go.Proofs.YtihfaocdpmmooaaGreat
open Go.RowKit
set_option maxRecDepth 100000
theorem Zq (n:PN)(p:Ob)(er:Int):FnO Tryz.prog 131 [.ptr 0 0,gI er] [.blk (Ad n (.ptr 1 0) (.osl 2) (.osl 3)) tNd,.abs p,.slc (n.log.map enE) tEn 3,.slc (n.out.map pkG) tPk 3] fun g rs=>g=.v (.bool (er==0))∧rs=[.blk (Ad (Dp n er) (.ptr 1 0) (.osl 4) (.osl 5)) tNd,.abs p,.gone,.gone,.slc ((Dp n er).log.map enE) tEn 3,.slc ((Dp n er).out.map pkG) tPk 3]:=by
 refine Bd Tryz.func131 (by kernel_rfl) rfl (Nat.le_of_ble_eq_true (by kernel_rfl)) (by kernel_rfl) (C1 _ _) ?_
 refine EvIf.bne (fun h=>?_) fun h=>?_
 ·have h:er≠0:=h
  have e1:Dp n er={n with dead:=true,out:=[]}:=by unfold Dp;rw[if_pos h]
  rw[e1]
  exact .gh (.nil 0 (Z6j n (.osl 2)) [.tt] tNd tPk 3 rfl (by decide) (.seen 0 _ _ rfl (.rnm 0 2 [gI n.self,gI n.many,.ptr 1 0,gI n.pmd,gI n.normal] (Za9 {n with dead:=true,out:=[]} (.osl 4)) tNd _ tEn 3 rfl rfl (.drop 3 _ rfl (.done ⟨[⟨[(0,.blk (Ad {n with dead:=true,out:=[]} (.ptr 1 0) (.osl 4) (.osl 5)) tNd)],[(0,0)],false⟩,⟨[(0,.abs p)],[(0,1)],false⟩,⟨[(0,.gone)],[(0,2)],false⟩,⟨[(0,.gone)],[(0,3)],false⟩,⟨[(0,.slc (n.log.map enE) tEn 3)],[(0,5)],false⟩,⟨[(0,.slc (([]:List RPk).map pkG) tPk 3)],[(0,4)],false⟩],_,⟨⟨⟨_,rfl,rfl,rfl⟩,⟨_,rfl,rfl,rfl⟩,⟨_,rfl,rfl,rfl⟩,⟨_,rfl,rfl,rfl⟩,⟨_,rfl,rfl,rfl⟩,⟨_,rfl,rfl,rfl⟩,trivial⟩,rfl,⟨_,rfl⟩,rfl,rfl,⟨rfl,rfl⟩⟩⟩)))))
 ·have h:er=0:=h
  have e1:Dp n er=n:=by unfold Dp;rw[if_neg (fun hh=>hh h)]
  rw[e1]
  exact .gh (.rnm 0 2 [gI n.self,gI n.many,.ptr 1 0,gI n.pmd,gI n.normal] (Za9 n (.osl 3)) tNd _ tEn 3 rfl rfl (.rnm 0 3 (Z6j n (.osl 4)) [.v (.bool n.dead)] tNd _ tPk 3 rfl rfl (.done ⟨[⟨[(0,.blk (Ad n (.ptr 1 0) (.osl 4) (.osl 5)) tNd)],[(0,0)],false⟩,⟨[(0,.abs p)],[(0,1)],false⟩,⟨[(0,.gone)],[(0,2)],false⟩,⟨[(0,.gone)],[(0,3)],false⟩,⟨[(0,.slc (n.log.map enE) tEn 3)],[(0,4)],false⟩,⟨[(0,.slc (n.out.map pkG) tPk 3)],[(0,5)],false⟩],_,⟨⟨⟨_,rfl,rfl,rfl⟩,⟨_,rfl,rfl,rfl⟩,⟨_,rfl,rfl,rfl⟩,⟨_,rfl,rfl,rfl⟩,⟨_,rfl,rfl,rfl⟩,⟨_,rfl,rfl,rfl⟩,trivial⟩,rfl,⟨_,rfl⟩,rfl,rfl,⟨rfl,rfl⟩⟩⟩)))
theorem T3 (n:PN)(er:Int):∃o d,Dp n er={n with out:=o,dead:=d}:=⟨_,_,(Le n er).1⟩
theorem Z9q (n:PN)(e:Nat)(h:WK n.st)(hl:n.log.length≤198)(r:ByteArray)(hr:r.size≤1000000):FnO Tryz.prog 95 [.ptr 0 0,.v (.string r)] [.blk (Ad n (.ptr 1 0) (.osl 2) (.osl 3)) tNd,.abs (cl (oLs n.st e)),.slc (n.log.map enE) tEn 3,.slc (n.out.map pkG) tPk 3] fun g rs=>g=.v (.bool (Ch n r))∧rs=[.blk (Ad (Bf n r) (.ptr 1 0) (.osl 4) (.osl 5)) tNd,.abs (cl (oLs (Bf n r).st e)),.gone,.gone,.slc ((Bf n r).log.map enE) tEn 3,.slc ((Bf n r).out.map pkG) tPk 3]:=by
 refine Bd Tryz.func95 (by kernel_rfl) rfl (Nat.le_of_ble_eq_true (by kernel_rfl)) (by kernel_rfl) (C1 _ _) ?_
 obtain⟨hwa,hwt⟩:=T9 h r
 refine EvCall.lend ((Na n.st e h.wa r hr).cal fun q rs hq=>?_)
 obtain⟨rfl,rfl⟩:=hq
 refine EvIf.beq (fun(h5:Fx n.st r=51)=>?_) fun(h5:Fx n.st r≠51)=>?_
 ·have eN:Bf n r=Dp {n with st:=Fc (Bc n.st r) (Bp n)} (J8 (Bc n.st r) (Bp n)):=by unfold Bf;rw[if_pos h5]
  have eB:Ch n r=decide (J8 (Bc n.st r) (Bp n)=0):=by unfold Ch;rw[if_pos h5]
  rw[eN,eB]
  refine⟨?_,?_⟩
  all_goals
   refine EvCall.lend ((Z51 n _ (by omega)).cal fun q rs hq=>?_)
   obtain⟨rfl,rfl⟩:=hq
   refine EvCall.gh (.frz 6 _ _ _ rfl (.done (.see (.same ((G6 (Bc n.st r) e hwa (by omega) (Bp n) (by rw[Iq];omega) (Fz n)).cal fun q rs hq=>?_)))))
   obtain⟨rfl,rfl⟩:=hq
   refine .done ?_
   have hD:=Zq {n with st:=Fc (Bc n.st r) (Bp n)} (cl (oLs (Fc (Bc n.st r) (Bp n)) e)) (J8 (Bc n.st r) (Bp n))
   obtain⟨o,dd,hd⟩:=T3 {n with st:=Fc (Bc n.st r) (Bp n)} (J8 (Bc n.st r) (Bp n))
   rw[hd] at hD⊢
   refine EvCall.lend (hD.cal fun q rs hq=>?_)
   obtain⟨rfl,rfl⟩:=hq
   exact .inl ⟨[⟨[(0,.blk (Ad {n with st:=Fc (Bc n.st r) (Bp n),out:=o,dead:=dd} (.ptr 1 0) (.osl 4) (.osl 5)) tNd)],[(0,0)],false⟩,⟨[(0,.abs (cl (oLs (Fc (Bc n.st r) (Bp n)) e)))],[(0,1)],false⟩,⟨[(0,.gone)],[(0,2)],false⟩,⟨[(0,.gone)],[(0,3)],false⟩,⟨[(0,.slc (n.log.map enE) tEn 3)],[(0,7)],false⟩,⟨[(0,.slc (o.map pkG) tPk 3)],[(0,8)],false⟩],_,⟨⟨⟨_,rfl,rfl,rfl⟩,⟨_,rfl,rfl,rfl⟩,⟨_,rfl,rfl,rfl⟩,⟨_,rfl,rfl,rfl⟩,⟨_,rfl,rfl,rfl⟩,⟨_,rfl,rfl,rfl⟩,trivial⟩,rfl,⟨_,rfl⟩,rfl,rfl,⟨rfl,rfl⟩⟩⟩
 ·have eN0:Fx n.st r=0→Bf n r=Dp {n with st:=Ja (Bc n.st r)} (Og (Bc n.st r)):=fun h0=>by unfold Bf;rw[if_neg h5,if_neg (fun h=>h h0)]
  have eB0:Fx n.st r=0→Ch n r=decide (Og (Bc n.st r)=0):=fun h0=>by unfold Ch;rw[if_neg h5,if_neg (fun h=>h h0)]
  have hD:=Zq {n with st:=Bc n.st r} (cl (oLs (Bc n.st r) e)) (Fx n.st r)
  obtain⟨o,dd,hd⟩:=T3 {n with st:=Bc n.st r} (Fx n.st r)
  rw[hd] at hD
  refine EvCall.lend (hD.cal fun q rs hq=>?_)
  obtain⟨rfl,rfl⟩:=hq
  refine EvIf.beq (fun h0=>?_) fun h0=>?_
  ·have eD:Dp {n with st:=Bc n.st r} (Fx n.st r)={n with st:=Bc n.st r}:=by unfold Dp;rw[if_neg (fun h=>h h0)]
   rw[eN0 h0,eB0 h0]
   rw[eD] at hd
   obtain⟨rfl,rfl⟩:n.out=o∧n.dead=dd:=⟨congrArg PN.out hd,congrArg PN.dead hd⟩
   refine EvCall.lend ((Zz (Bc n.st r) e hwa).cal fun q rs hq=>?_)
   obtain⟨rfl,rfl⟩:=hq
   have hD:=Zq {n with st:=Ja (Bc n.st r)} (cl (oLs (Ja (Bc n.st r)) e)) (Og (Bc n.st r))
   obtain⟨o,dd,hd⟩:=T3 {n with st:=Ja (Bc n.st r)} (Og (Bc n.st r))
   rw[hd] at hD⊢
   refine EvCall.lend (hD.cal fun q rs hq=>?_)
   obtain⟨rfl,rfl⟩:=hq
   exact .inl ⟨[⟨[(0,.blk (Ad {n with st:=Ja (Bc n.st r),out:=o,dead:=dd} (.ptr 1 0) (.osl 4) (.osl 5)) tNd)],[(0,0)],false⟩,⟨[(0,.abs (cl (oLs (Ja (Bc n.st r)) e)))],[(0,1)],false⟩,⟨[(0,.gone)],[(0,2)],false⟩,⟨[(0,.gone)],[(0,3)],false⟩,⟨[(0,.slc (n.log.map enE) tEn 3)],[(0,6)],false⟩,⟨[(0,.slc (o.map pkG) tPk 3)],[(0,7)],false⟩],_,⟨⟨⟨_,rfl,rfl,rfl⟩,⟨_,rfl,rfl,rfl⟩,⟨_,rfl,rfl,rfl⟩,⟨_,rfl,rfl,rfl⟩,⟨_,rfl,rfl,rfl⟩,⟨_,rfl,rfl,rfl⟩,trivial⟩,rfl,⟨_,rfl⟩,rfl,rfl,⟨rfl,rfl⟩⟩⟩
  ·have eN:Bf n r=Dp {n with st:=Bc n.st r} (Fx n.st r):=by unfold Bf;rw[if_neg h5,if_pos h0]
   have eB:Ch n r=false:=by unfold Ch;rw[if_neg h5,if_pos h0]
   have e0:(Fx n.st r==0)=false:=by simpa using h0
   rw[eN,eB,e0,hd]
   exact .inl ⟨[⟨[(0,.blk (Ad {n with st:=Bc n.st r,out:=o,dead:=dd} (.ptr 1 0) (.osl 4) (.osl 5)) tNd)],[(0,0)],false⟩,⟨[(0,.abs (cl (oLs (Bc n.st r) e)))],[(0,1)],false⟩,⟨[(0,.gone)],[(0,2)],false⟩,⟨[(0,.gone)],[(0,3)],false⟩,⟨[(0,.slc (n.log.map enE) tEn 3)],[(0,4)],false⟩,⟨[(0,.slc (o.map pkG) tPk 3)],[(0,5)],false⟩],_,⟨⟨⟨_,rfl,rfl,rfl⟩,⟨_,rfl,rfl,rfl⟩,⟨_,rfl,rfl,rfl⟩,⟨_,rfl,rfl,rfl⟩,⟨_,rfl,rfl,rfl⟩,⟨_,rfl,rfl,rfl⟩,trivial⟩,rfl,⟨_,rfl⟩,rfl,rfl,⟨rfl,rfl⟩⟩⟩
theorem Z77 (n:PN)(e:Nat)(h:WK n.st)(hl:n.log.length≤190)(x:REnt):FnO Tryz.prog 65 [.ptr 0 0,.agg (enE x)] [.blk (Ad n (.ptr 1 0) (.osl 2) (.osl 3)) tNd,.abs (cl (oLs n.st e)),.slc (n.log.map enE) tEn 3,.slc (n.out.map pkG) tPk 3] fun g rs=>g=.v (.bool (Xt n x))∧rs=[.blk (Ad (He n x) (.ptr 1 0) (.osl 4) (.osl 5)) tNd,.abs (cl (oLs (He n x).st e)),.gone,.gone,.slc ((He n x).log.map enE) tEn 3,.slc ((He n x).out.map pkG) tPk 3]:=by
 refine Bd Tryz.func65 (by kernel_rfl) rfl (Nat.le_of_ble_eq_true (by kernel_rfl)) (by kernel_rfl) (C1 _ _) ?_
 refine⟨by simp;omega,?_⟩
 refine(Dl _ _ _ _).cal fun q hq=>?_
 subst hq
 have hK:=Z9q {n with log:=n.log++[x]} e h (by show(n.log++[x]).length≤_;simp;omega) (Cb 3 x.v x.n x.b) (by have:=Ec 3 x.v x.n x.b;omega)
 have em:(n.log++[x]).map enE=n.log.map enE++[enE x]:=List.map_append
 dsimp only at hK
 obtain⟨st',out',dead',eA,hol⟩:=By {n with log:=n.log++[x]} (Cb 3 x.v x.n x.b)
 have eA2:He n x={n with log:=n.log++[x],st:=st',out:=out',dead:=dead'}:=eA
 rw[eA] at hK
 dsimp only at hK
 rw[em] at hK
 rw[eA2]
 refine EvCall.lend (hK.cal fun q rs hq=>?_)
 obtain⟨rfl,rfl⟩:=hq
 exact .inl ⟨[⟨[(0,.blk (Ad {n with log:=n.log++[x],st:=st',out:=out',dead:=dead'} (.ptr 1 0) (.osl 4) (.osl 5)) tNd)],[(0,0)],false⟩,⟨[(0,.abs (cl (oLs st' e)))],[(0,1)],false⟩,⟨[(0,.gone)],[(0,2)],false⟩,⟨[(0,.gone)],[(0,3)],false⟩,⟨[(0,.slc (n.log.map enE++[enE x]) tEn 3)],[(0,7)],false⟩,⟨[(0,.slc (out'.map pkG) tPk 3)],[(0,8)],false⟩],_,⟨⟨⟨_,rfl,rfl,rfl⟩,⟨_,rfl,rfl,rfl⟩,⟨_,rfl,rfl,rfl⟩,⟨_,rfl,rfl,rfl⟩,⟨_,rfl,rfl,rfl⟩,⟨_,rfl,rfl,rfl⟩,trivial⟩,rfl,⟨_,rfl⟩,rfl,rfl,⟨rfl,by rw[em];rfl⟩⟩⟩
end Go.Proofs.YtihfaocdpmmooaaGreat
namespace Go.Proofs.YtihfaocdpmmooaaGreat
open Go.RowKit
set_option maxRecDepth 100000
theorem WSt.more {k j:Nat}{l:LD}(h:WSt k l)(hj:k≤j):WSt j l:=⟨h.d,h.many,h.armed,h.wait,h.half,h.b,h.len,Nat.le_trans h.mark hj,h.dead,h.dd⟩
set_option maxHeartbeats 4000000 in
theorem Z33 (k:Nat)(n:PN)(b e:Nat)(h:WSt k n.st)(hk:k≤900000000)(hl:n.log.length≤150)(m:List REnt)(hm:m.length≤150)(hml:∀e∈m,e.n≤150):FnO Tryz.prog 105 [.ptr 0 0,.sl (m.map enE)] (cA n b e) fun g rs=>g=.v (.bool (Aj m (vw 1 n.log) n).2)∧rs=cA (Aj m (vw 1 n.log) n).1 b e:=by
 refine Bd Tryz.func105 (by kernel_rfl) rfl (Nat.le_of_ble_eq_true (by kernel_rfl)) (by kernel_rfl) (A6 (O:=oAs n b e) (n0:=5) rfl) ?_
 refine EvIf.dec (fun h0=>?_) fun h0=>?_
 ·rw[List.length_map] at h0
  refine⟨by rw[List.length_map];omega,?_⟩
  refine⟨⟨by rw[List.length_map];omega,by rw[List.length_map];omega⟩,?_⟩
  obtain⟨x,hx⟩:∃x,n.log[n.log.length - 1]?=some x:=⟨_,List.getElem?_eq_getElem (by omega)⟩
  have hv:vw 1 n.log=x.v:=by unfold vw;rw[List.getLast?_eq_getElem?,hx];rfl
  have hi1:(((n.log.map enE).length:Nat):Int) - 1=((n.log.length - 1:Nat):Int):=by rw[List.length_map];omega
  rw[hi1]
  refine EvIdx.at (f:=enE) hx ?_
  rw[hv]
  refine D2 [0,4,27,28] [4] (fun y:Nat × Int × PN=>[(29,gI y.1),(5,gI y.2.1)]) (fun y=>[(0,.blk (Ad y.2.2 (.ptr 1 0) (.osl 2) (.osl 3)) tNd),(1,.abs (cl (oLs y.2.2.st e))),(2,.slc (y.2.2.log.map enE) tEn 3),(3,.slc (y.2.2.out.map pkG) tPk 3)]) (fun y=>y.1≤m.length∧Aj (m.drop y.1) y.2.1 y.2.2=Aj m x.v n∧WSt (k+y.1) y.2.2.st∧y.2.2.log.length≤150) (fun y=>m.length - y.1) (0,x.v,n) ⟨Nat.zero_le _,rfl,h,hl⟩ ⟨⟨rfl,rfl⟩,⟨rfl,rfl⟩,trivial⟩ (by exact RL4) rfl fun⟨i,v,n'⟩ hI=>?_
  obtain⟨hi,hA,hw,hll⟩:=hI
  dsimp only at hi hA hw hll
  rw[←hA]
  refine EvIf.dec (fun hlt=>?_) fun hge=>?_
  ·rw[List.length_map] at hlt
   obtain⟨c,hc⟩:∃c,m[i]?=some c:=⟨_,List.getElem?_eq_getElem (by omega)⟩
   have hdr:m.drop i=c::m.drop (i+1):=by
    have e2:=(List.getElem?_eq_some_iff.1 hc).2
    rw[←e2,List.getElem_cons_drop]
   rw[hdr] at hA⊢
   have hcn:=hml c (List.mem_of_getElem? hc)
   have hlen:((n'.log.map enE).length:Nat)=n'.log.length:=List.length_map ..
   refine EvIdx.at hc ?_
   refine⟨by rw[hlen];omega,?_⟩
   refine EvIf.dec (fun h1=>?_) fun h1=>?_
   ·have h1:c.n > ((n'.log.map enE).length:Int)+1:=h1
    rw[hlen] at h1
    have e1:Aj (c::m.drop (i+1)) v n'=(n',true):=by unfold Aj;rw[if_pos h1]
    rw[e1]
    conv=>whnf
    refine Gh.done ?_
    exact .inl (A1 (oAs n' b e) [] (by exact RL5) rfl ⟨_,rfl⟩ rfl rfl ⟨rfl,rfl⟩)
   have h1:¬c.n > ((n'.log.map enE).length:Int)+1:=h1
   rw[hlen] at h1
   have hskip:c.n≤n'.log.length∨c.v < v→Aj (c::m.drop (i+1)) v n'=Aj (m.drop (i+1)) v n':=fun hh=>by
    show(if c.n > n'.log.length+1 then _ else _)=_
    rw[if_neg h1,if_pos hh]
   refine EvIf.dec (fun h2=>?_) fun h2=>?_
   ·have h2:c.n≤((n'.log.map enE).length:Int):=h2
    rw[hlen] at h2
    rw[hskip (.inl h2)] at hA⊢
    refine⟨by omega,.done ⟨(i+1,v,n'),[],⟨by dsimp only;omega,rfl,hw.more (by omega),hll⟩,(by dsimp only;omega),?_⟩⟩
    refine⟨?_,?_,rfl⟩<;>repeat' (first | exact True.intro | with_reducible rfl | exact rfl | refine And.intro ?_ ?_)
   have h2:¬c.n≤((n'.log.map enE).length:Int):=h2
   rw[hlen] at h2
   refine EvIf.dec (fun h3=>?_) fun h3=>?_
   ·have h3:c.v < v:=h3
    rw[hskip (.inr h3)] at hA⊢
    refine⟨by omega,.done ⟨(i+1,v,n'),[],⟨by dsimp only;omega,rfl,hw.more (by omega),hll⟩,(by dsimp only;omega),?_⟩⟩
    refine⟨?_,?_,rfl⟩<;>repeat' (first | exact True.intro | with_reducible rfl | exact rfl | refine And.intro ?_ ?_)
   have h3:¬c.v < v:=h3
   have hadd:Aj (c::m.drop (i+1)) v n'=if Xt n' c=true then Aj (m.drop (i+1)) c.v (He n' c) else(He n' c,false):=by
    show(if c.n > n'.log.length+1 then _ else _)=_
    rw[if_neg h1,if_neg (by rintro(h | h);exact h2 h;exact h3 h)]
   refine EvCall.lend ((Z77 n' e (hw.wk (by omega)) (by omega) c).cal fun q rs hq=>?_)
   obtain⟨rfl,rfl⟩:=hq
   refine EvIf.mk (fun hb=>?_) fun hb=>?_
   ·have hb:Xt n' c=false:=by simpa using hb
    rw[hadd,if_neg (by rw[hb];decide)]
    conv=>whnf
    refine Gh.done ?_
    exact .inl (A1 (oAs (He n' c) b e) [(2,6),(3,7)] (by exact RL5) rfl ⟨_,rfl⟩ rfl rfl ⟨rfl,rfl⟩)
   ·have hb:Xt n' c=true:=by simpa using hb
    rw[hadd,if_pos hb] at hA⊢
    obtain⟨w1,-,-⟩:=Jm (n:={n' with log:=n'.log++[c]}) hw (Cb 3 c.v c.n c.b) hb
    have hlg:(He n' c).log=n'.log++[c]:=by
     obtain⟨st',out',dead',eA,hol⟩:=By {n' with log:=n'.log++[c]} (Cb 3 c.v c.n c.b)
     exact congrArg PN.log eA
    refine⟨by omega,.done ⟨(i+1,c.v,He n' c),[(2,6),(3,7)],⟨by dsimp only;omega,rfl,w1,by rw[hlg];simp;omega⟩,(by dsimp only;omega),?_⟩⟩
    refine⟨?_,?_,rfl⟩<;>repeat' (first | exact True.intro | with_reducible rfl | exact rfl | refine And.intro ?_ ?_)
  ·rw[List.length_map] at hge
   have hdr:m.drop i=[]:=List.drop_eq_nil_of_le (by omega)
   rw[hdr]
   conv=>whnf
   refine Gh.done ?_
   exact .inl (A1 (oAs n' b e) [] (by exact RL5) rfl ⟨_,rfl⟩ rfl rfl ⟨rfl,rfl⟩)
 ·rw[List.length_map] at h0
  have hv:vw 1 n.log=1:=by
   have:n.log=[]:=List.eq_nil_of_length_eq_zero (by omega)
   rw[this];rfl
  rw[hv]
  refine D2 [0,4,27,28] [4] (fun x:Nat × Int × PN=>[(29,gI x.1),(5,gI x.2.1)]) (fun x=>[(0,.blk (Ad x.2.2 (.ptr 1 0) (.osl 2) (.osl 3)) tNd),(1,.abs (cl (oLs x.2.2.st e))),(2,.slc (x.2.2.log.map enE) tEn 3),(3,.slc (x.2.2.out.map pkG) tPk 3)]) (fun x=>x.1≤m.length∧Aj (m.drop x.1) x.2.1 x.2.2=Aj m (1:Int) n∧WSt (k+x.1) x.2.2.st∧x.2.2.log.length≤150) (fun x=>m.length - x.1) (0,(1:Int),n) ⟨Nat.zero_le _,rfl,h,hl⟩ ⟨⟨rfl,rfl⟩,⟨rfl,rfl⟩,trivial⟩ (by exact RL4) rfl fun⟨i,v,n'⟩ hI=>?_
  obtain⟨hi,hA,hw,hll⟩:=hI
  dsimp only at hi hA hw hll
  rw[←hA]
  refine EvIf.dec (fun hlt=>?_) fun hge=>?_
  ·rw[List.length_map] at hlt
   obtain⟨c,hc⟩:∃c,m[i]?=some c:=⟨_,List.getElem?_eq_getElem (by omega)⟩
   have hdr:m.drop i=c::m.drop (i+1):=by
    have e2:=(List.getElem?_eq_some_iff.1 hc).2
    rw[←e2,List.getElem_cons_drop]
   rw[hdr] at hA⊢
   have hcn:=hml c (List.mem_of_getElem? hc)
   have hlen:((n'.log.map enE).length:Nat)=n'.log.length:=List.length_map ..
   refine EvIdx.at hc ?_
   refine⟨by rw[hlen];omega,?_⟩
   refine EvIf.dec (fun h1=>?_) fun h1=>?_
   ·have h1:c.n > ((n'.log.map enE).length:Int)+1:=h1
    rw[hlen] at h1
    have e1:Aj (c::m.drop (i+1)) v n'=(n',true):=by unfold Aj;rw[if_pos h1]
    rw[e1]
    conv=>whnf
    refine Gh.done ?_
    exact .inl (A1 (oAs n' b e) [] (by exact RL5) rfl ⟨_,rfl⟩ rfl rfl ⟨rfl,rfl⟩)
   have h1:¬c.n > ((n'.log.map enE).length:Int)+1:=h1
   rw[hlen] at h1
   have hskip:c.n≤n'.log.length∨c.v < v→Aj (c::m.drop (i+1)) v n'=Aj (m.drop (i+1)) v n':=fun hh=>by
    show(if c.n > n'.log.length+1 then _ else _)=_
    rw[if_neg h1,if_pos hh]
   refine EvIf.dec (fun h2=>?_) fun h2=>?_
   ·have h2:c.n≤((n'.log.map enE).length:Int):=h2
    rw[hlen] at h2
    rw[hskip (.inl h2)] at hA⊢
    refine⟨by omega,.done ⟨(i+1,v,n'),[],⟨by dsimp only;omega,rfl,hw.more (by omega),hll⟩,(by dsimp only;omega),?_⟩⟩
    refine⟨?_,?_,rfl⟩<;>repeat' (first | exact True.intro | with_reducible rfl | exact rfl | refine And.intro ?_ ?_)
   have h2:¬c.n≤((n'.log.map enE).length:Int):=h2
   rw[hlen] at h2
   refine EvIf.dec (fun h3=>?_) fun h3=>?_
   ·have h3:c.v < v:=h3
    rw[hskip (.inr h3)] at hA⊢
    refine⟨by omega,.done ⟨(i+1,v,n'),[],⟨by dsimp only;omega,rfl,hw.more (by omega),hll⟩,(by dsimp only;omega),?_⟩⟩
    refine⟨?_,?_,rfl⟩<;>repeat' (first | exact True.intro | with_reducible rfl | exact rfl | refine And.intro ?_ ?_)
   have h3:¬c.v < v:=h3
   have hadd:Aj (c::m.drop (i+1)) v n'=if Xt n' c=true then Aj (m.drop (i+1)) c.v (He n' c) else(He n' c,false):=by
    show(if c.n > n'.log.length+1 then _ else _)=_
    rw[if_neg h1,if_neg (by rintro(h | h);exact h2 h;exact h3 h)]
   refine EvCall.lend ((Z77 n' e (hw.wk (by omega)) (by omega) c).cal fun q rs hq=>?_)
   obtain⟨rfl,rfl⟩:=hq
   refine EvIf.mk (fun hb=>?_) fun hb=>?_
   ·have hb:Xt n' c=false:=by simpa using hb
    rw[hadd,if_neg (by rw[hb];decide)]
    conv=>whnf
    refine Gh.done ?_
    exact .inl (A1 (oAs (He n' c) b e) [(2,6),(3,7)] (by exact RL5) rfl ⟨_,rfl⟩ rfl rfl ⟨rfl,rfl⟩)
   ·have hb:Xt n' c=true:=by simpa using hb
    rw[hadd,if_pos hb] at hA⊢
    obtain⟨w1,-,-⟩:=Jm (n:={n' with log:=n'.log++[c]}) hw (Cb 3 c.v c.n c.b) hb
    have hlg:(He n' c).log=n'.log++[c]:=by
     obtain⟨st',out',dead',eA,hol⟩:=By {n' with log:=n'.log++[c]} (Cb 3 c.v c.n c.b)
     exact congrArg PN.log eA
    refine⟨by omega,.done ⟨(i+1,c.v,He n' c),[(2,6),(3,7)],⟨by dsimp only;omega,rfl,w1,by rw[hlg];simp;omega⟩,(by dsimp only;omega),?_⟩⟩
    refine⟨?_,?_,rfl⟩<;>repeat' (first | exact True.intro | with_reducible rfl | exact rfl | refine And.intro ?_ ?_)
  ·rw[List.length_map] at hge
   have hdr:m.drop i=[]:=List.drop_eq_nil_of_le (by omega)
   rw[hdr]
   conv=>whnf
   refine Gh.done ?_
   exact .inl (A1 (oAs n' b e) [] (by exact RL5) rfl ⟨_,rfl⟩ rfl rfl ⟨rfl,rfl⟩)
end Go.Proofs.YtihfaocdpmmooaaGreat
