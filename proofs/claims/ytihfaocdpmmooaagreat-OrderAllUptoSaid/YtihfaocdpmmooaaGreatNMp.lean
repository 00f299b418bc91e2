
import Derived.Test.YtihfaocdpmmooaaGreatZNl
namespace Go.Proofs.YtihfaocdpmmooaaGreat
open Go.RowKit
set_option maxRecDepth 100000
theorem Z24 (n:PN)(p:Ob)(er:Int):FnO Tryz.prog 131 [.ptr 0 0,gI er] [.blk (Ad n (.ptr 1 0) (.osl 2) (.osl 3)) tNd,.abs p,.slc (n.log.map enE) tEn 3,.slc (n.out.map pkG) tPk 3] fun g rs=>g=.v (.bool (er==0))∧rs=[.blk (Ad (E3 n er) (.ptr 1 0) (.osl 4) (.osl 5)) tNd,.abs p,.gone,.gone,.slc ((E3 n er).log.map enE) tEn 3,.slc ((E3 n er).out.map pkG) tPk 3]:=by
 refine Ba Tryz.func131 (C3 _ _) ?_
 refine di (fun h=>?_) fun h=>?_
 ·have h:er≠0:=h
  have e1:E3 n er={n with dead:=true,out:=[]}:=by unfold E3;rw[db h]
  rw[e1]
  exact .gh (.nil 0 (Z8b n (.osl 2)) [.tt] tNd tPk 3 rfl (by decide) (.seen 0 _ _ rfl (.rnm 0 2 [gI n.self,gI n.many,.ptr 1 0,gI n.pmd,gI n.normal] (Zbx {n with dead:=true,out:=[]} (.osl 4)) tNd _ tEn 3 rfl rfl (.drop 3 _ rfl (.done ⟨[⟨[(0,.blk (Ad {n with dead:=true,out:=[]} (.ptr 1 0) (.osl 4) (.osl 5)) tNd)],[(0,0)],false⟩,⟨[(0,.abs p)],[(0,1)],false⟩,⟨[(0,.gone)],[(0,2)],false⟩,⟨[(0,.gone)],[(0,3)],false⟩,⟨[(0,.slc (n.log.map enE) tEn 3)],[(0,5)],false⟩,⟨[(0,.slc (([]:List RPk).map pkG) tPk 3)],[(0,4)],false⟩],_,⟨⟨⟨_,rfl,rfl,rfl⟩,⟨_,rfl,rfl,rfl⟩,⟨_,rfl,rfl,rfl⟩,⟨_,rfl,rfl,rfl⟩,⟨_,rfl,rfl,rfl⟩,⟨_,rfl,rfl,rfl⟩,trivial⟩,rfl,⟨_,rfl⟩,rfl,rfl,⟨rfl,rfl⟩⟩⟩)))))
 ·have h:er=0:=h
  have e1:E3 n er=n:=by unfold E3;rw[da (fun hh=>hh h)]
  rw[e1]
  exact .gh (.rnm 0 2 [gI n.self,gI n.many,.ptr 1 0,gI n.pmd,gI n.normal] (Zbx n (.osl 3)) tNd _ tEn 3 rfl rfl (.rnm 0 3 (Z8b n (.osl 4)) [.v (.bool n.dead)] tNd _ tPk 3 rfl rfl (.done ⟨[⟨[(0,.blk (Ad n (.ptr 1 0) (.osl 4) (.osl 5)) tNd)],[(0,0)],false⟩,⟨[(0,.abs p)],[(0,1)],false⟩,⟨[(0,.gone)],[(0,2)],false⟩,⟨[(0,.gone)],[(0,3)],false⟩,⟨[(0,.slc (n.log.map enE) tEn 3)],[(0,4)],false⟩,⟨[(0,.slc (n.out.map pkG) tPk 3)],[(0,5)],false⟩],_,⟨⟨⟨_,rfl,rfl,rfl⟩,⟨_,rfl,rfl,rfl⟩,⟨_,rfl,rfl,rfl⟩,⟨_,rfl,rfl,rfl⟩,⟨_,rfl,rfl,rfl⟩,⟨_,rfl,rfl,rfl⟩,trivial⟩,rfl,⟨_,rfl⟩,rfl,rfl,⟨rfl,rfl⟩⟩⟩)))
theorem Tb (n:PN)(er:Int):∃o d,E3 n er={n with out:=o,dead:=d}:=⟨_,_,(Lu n er).1⟩
theorem Zap (n:PN)(e:Nat)(h:WK n.st)(hl:n.log.length≤198)(r:ByteArray)(hr:r.size≤1000000):FnO Tryz.prog 95 [.ptr 0 0,.v (.string r)] [.blk (Ad n (.ptr 1 0) (.osl 2) (.osl 3)) tNd,.abs (cl (oLs n.st e)),.slc (n.log.map enE) tEn 3,.slc (n.out.map pkG) tPk 3] fun g rs=>g=.v (.bool (Cu n r))∧rs=[.blk (Ad (Br n r) (.ptr 1 0) (.osl 4) (.osl 5)) tNd,.abs (cl (oLs (Br n r).st e)),.gone,.gone,.slc ((Br n r).log.map enE) tEn 3,.slc ((Br n r).out.map pkG) tPk 3]:=by
 refine Ba Tryz.func95 (C3 _ _) ?_
 obtain⟨hwa,hwt⟩:=Rr h r
 refine dh ((Or n.st e h.wa r hr).cal fun q rs hq=>?_)
 obtain⟨rfl,rfl⟩:=hq
 refine de (fun(h5:Gc n.st r=51)=>?_) fun(h5:Gc n.st r≠51)=>?_
 ·have eN:Br n r=E3 {n with st:=Fq (Bk n.st r) (Bz n)} (Jv (Bk n.st r) (Bz n)):=by unfold Br;rw[db h5]
  have eB:Cu n r=decide (Jv (Bk n.st r) (Bz n)=0):=by unfold Cu;rw[db h5]
  rw[eN,eB]
  refine⟨?_,?_⟩
  all_goals
   refine dh ((Z4g n _ (by omega)).cal fun q rs hq=>?_)
   obtain⟨rfl,rfl⟩:=hq
   refine dg (.frz 6 _ _ _ rfl (.done (.see (.same ((Gt (Bk n.st r) e hwa (by omega) (Bz n) (by rw[J0];omega) (Gi n)).cal fun q rs hq=>?_)))))
   obtain⟨rfl,rfl⟩:=hq
   refine .done ?_
   have hD:=Z24 {n with st:=Fq (Bk n.st r) (Bz n)} (cl (oLs (Fq (Bk n.st r) (Bz n)) e)) (Jv (Bk n.st r) (Bz n))
   obtain⟨o,dd,hd⟩:=Tb {n with st:=Fq (Bk n.st r) (Bz n)} (Jv (Bk n.st r) (Bz n))
   rw[hd] at hD⊢
   refine dh (hD.cal fun q rs hq=>?_)
   obtain⟨rfl,rfl⟩:=hq
   exact .inl ⟨[⟨[(0,.blk (Ad {n with st:=Fq (Bk n.st r) (Bz n),out:=o,dead:=dd} (.ptr 1 0) (.osl 4) (.osl 5)) tNd)],[(0,0)],false⟩,⟨[(0,.abs (cl (oLs (Fq (Bk n.st r) (Bz n)) e)))],[(0,1)],false⟩,⟨[(0,.gone)],[(0,2)],false⟩,⟨[(0,.gone)],[(0,3)],false⟩,⟨[(0,.slc (n.log.map enE) tEn 3)],[(0,7)],false⟩,⟨[(0,.slc (o.map pkG) tPk 3)],[(0,8)],false⟩],_,⟨⟨⟨_,rfl,rfl,rfl⟩,⟨_,rfl,rfl,rfl⟩,⟨_,rfl,rfl,rfl⟩,⟨_,rfl,rfl,rfl⟩,⟨_,rfl,rfl,rfl⟩,⟨_,rfl,rfl,rfl⟩,trivial⟩,rfl,⟨_,rfl⟩,rfl,rfl,⟨rfl,rfl⟩⟩⟩
 ·have eN0:Gc n.st r=0→Br n r=E3 {n with st:=K2 (Bk n.st r)} (P0 (Bk n.st r)):=fun h0=>by unfold Br;rw[da h5,da (fun h=>h h0)]
  have eB0:Gc n.st r=0→Cu n r=decide (P0 (Bk n.st r)=0):=fun h0=>by unfold Cu;rw[da h5,da (fun h=>h h0)]
  have hD:=Z24 {n with st:=Bk n.st r} (cl (oLs (Bk n.st r) e)) (Gc n.st r)
  obtain⟨o,dd,hd⟩:=Tb {n with st:=Bk n.st r} (Gc n.st r)
  rw[hd] at hD
  refine dh (hD.cal fun q rs hq=>?_)
  obtain⟨rfl,rfl⟩:=hq
  refine de (fun h0=>?_) fun h0=>?_
  ·have eD:E3 {n with st:=Bk n.st r} (Gc n.st r)={n with st:=Bk n.st r}:=by unfold E3;rw[da (fun h=>h h0)]
   rw[eN0 h0,eB0 h0]
   rw[eD] at hd
   obtain⟨rfl,rfl⟩:n.out=o∧n.dead=dd:=⟨congrArg PN.out hd,congrArg PN.dead hd⟩
   refine dh ((Z09 (Bk n.st r) e hwa).cal fun q rs hq=>?_)
   obtain⟨rfl,rfl⟩:=hq
   have hD:=Z24 {n with st:=K2 (Bk n.st r)} (cl (oLs (K2 (Bk n.st r)) e)) (P0 (Bk n.st r))
   obtain⟨o,dd,hd⟩:=Tb {n with st:=K2 (Bk n.st r)} (P0 (Bk n.st r))
   rw[hd] at hD⊢
   refine dh (hD.cal fun q rs hq=>?_)
   obtain⟨rfl,rfl⟩:=hq
   exact .inl ⟨[⟨[(0,.blk (Ad {n with st:=K2 (Bk n.st r),out:=o,dead:=dd} (.ptr 1 0) (.osl 4) (.osl 5)) tNd)],[(0,0)],false⟩,⟨[(0,.abs (cl (oLs (K2 (Bk n.st r)) e)))],[(0,1)],false⟩,⟨[(0,.gone)],[(0,2)],false⟩,⟨[(0,.gone)],[(0,3)],false⟩,⟨[(0,.slc (n.log.map enE) tEn 3)],[(0,6)],false⟩,⟨[(0,.slc (o.map pkG) tPk 3)],[(0,7)],false⟩],_,⟨⟨⟨_,rfl,rfl,rfl⟩,⟨_,rfl,rfl,rfl⟩,⟨_,rfl,rfl,rfl⟩,⟨_,rfl,rfl,rfl⟩,⟨_,rfl,rfl,rfl⟩,⟨_,rfl,rfl,rfl⟩,trivial⟩,rfl,⟨_,rfl⟩,rfl,rfl,⟨rfl,rfl⟩⟩⟩
  ·have eN:Br n r=E3 {n with st:=Bk n.st r} (Gc n.st r):=by unfold Br;rw[da h5,db h0]
   have eB:Cu n r=false:=by unfold Cu;rw[da h5,db h0]
   have e0:(Gc n.st r==0)=false:=by simpa using h0
   rw[eN,eB,e0,hd]
   exact .inl ⟨[⟨[(0,.blk (Ad {n with st:=Bk n.st r,out:=o,dead:=dd} (.ptr 1 0) (.osl 4) (.osl 5)) tNd)],[(0,0)],false⟩,⟨[(0,.abs (cl (oLs (Bk n.st r) e)))],[(0,1)],false⟩,⟨[(0,.gone)],[(0,2)],false⟩,⟨[(0,.gone)],[(0,3)],false⟩,⟨[(0,.slc (n.log.map enE) tEn 3)],[(0,4)],false⟩,⟨[(0,.slc (o.map pkG) tPk 3)],[(0,5)],false⟩],_,⟨⟨⟨_,rfl,rfl,rfl⟩,⟨_,rfl,rfl,rfl⟩,⟨_,rfl,rfl,rfl⟩,⟨_,rfl,rfl,rfl⟩,⟨_,rfl,rfl,rfl⟩,⟨_,rfl,rfl,rfl⟩,trivial⟩,rfl,⟨_,rfl⟩,rfl,rfl,⟨rfl,rfl⟩⟩⟩
theorem Z8m (n:PN)(e:Nat)(h:WK n.st)(hl:n.log.length≤190)(x:REnt):FnO Tryz.prog 65 [.ptr 0 0,.agg (enE x)] [.blk (Ad n (.ptr 1 0) (.osl 2) (.osl 3)) tNd,.abs (cl (oLs n.st e)),.slc (n.log.map enE) tEn 3,.slc (n.out.map pkG) tPk 3] fun g rs=>g=.v (.bool (Ye n x))∧rs=[.blk (Ad (Kf n x) (.ptr 1 0) (.osl 4) (.osl 5)) tNd,.abs (cl (oLs (Kf n x).st e)),.gone,.gone,.slc ((Kf n x).log.map enE) tEn 3,.slc ((Kf n x).out.map pkG) tPk 3]:=by
 refine Ba Tryz.func65 (C3 _ _) ?_
 refine⟨by simp;omega,?_⟩
 refine(Ds _ _ _ _).cal fun q hq=>?_
 subst hq
 have hK:=Zap {n with log:=n.log++[x]} e h (by show(n.log++[x]).length≤_;simp;omega) (Cp 3 x.v x.n x.b) (by have:=Eg 3 x.v x.n x.b;omega)
 have em:(n.log++[x]).map enE=n.log.map enE++[enE x]:=am
 dsimp only at hK
 obtain⟨st',out',dead',eA,hol⟩:=Cm {n with log:=n.log++[x]} (Cp 3 x.v x.n x.b)
 have eA2:Kf n x={n with log:=n.log++[x],st:=st',out:=out',dead:=dead'}:=eA
 rw[eA] at hK
 dsimp only at hK
 rw[em] at hK
 rw[eA2]
 refine dh (hK.cal fun q rs hq=>?_)
 obtain⟨rfl,rfl⟩:=hq
 exact .inl ⟨[⟨[(0,.blk (Ad {n with log:=n.log++[x],st:=st',out:=out',dead:=dead'} (.ptr 1 0) (.osl 4) (.osl 5)) tNd)],[(0,0)],false⟩,⟨[(0,.abs (cl (oLs st' e)))],[(0,1)],false⟩,⟨[(0,.gone)],[(0,2)],false⟩,⟨[(0,.gone)],[(0,3)],false⟩,⟨[(0,.slc (n.log.map enE++[enE x]) tEn 3)],[(0,7)],false⟩,⟨[(0,.slc (out'.map pkG) tPk 3)],[(0,8)],false⟩],_,⟨⟨⟨_,rfl,rfl,rfl⟩,⟨_,rfl,rfl,rfl⟩,⟨_,rfl,rfl,rfl⟩,⟨_,rfl,rfl,rfl⟩,⟨_,rfl,rfl,rfl⟩,⟨_,rfl,rfl,rfl⟩,trivial⟩,rfl,⟨_,rfl⟩,rfl,rfl,⟨rfl,by rw[em];rfl⟩⟩⟩
theorem WSt.more {k j:Nat}{l:LD}(h:WSt k l)(hj:k≤j):WSt j l:=⟨h.d,h.many,h.armed,h.wait,h.half,h.b,h.len,b9 h.mark hj,h.dead,h.dd⟩
set_option maxHeartbeats 4000000 in
theorem Z4u (k:Nat)(n:PN)(b e:Nat)(h:WSt k n.st)(hk:k≤900000000)(hl:n.log.length≤150)(m:List REnt)(hm:m.length≤150)(hml:∀e∈m,e.n≤150):FnO Tryz.prog 105 [.ptr 0 0,.sl (m.map enE)] (cA n b e) fun g rs=>g=.v (.bool (Ao m (vw 1 n.log) n).2)∧rs=cA (Ao m (vw 1 n.log) n).1 b e:=by
 refine Ba Tryz.func105 (A5 (O:=oAs n b e) (n0:=5) rfl) ?_
 refine df (fun h0=>?_) fun h0=>?_
 ·rw[aa] at h0
  refine⟨by rw[aa];omega,?_⟩
  refine⟨⟨by rw[aa];omega,by rw[aa];omega⟩,?_⟩
  obtain⟨x,hx⟩:∃x,n.log[n.log.length - 1]?=some x:=⟨_,ab (by omega)⟩
  have hv:vw 1 n.log=x.v:=by unfold vw;rw[List.getLast?_eq_getElem?,hx];rfl
  have hi1:(((n.log.map enE).length:Nat):Int) - 1=((n.log.length - 1:Nat):Int):=by rw[aa];omega
  rw[hi1]
  refine dk (f:=enE) hx ?_
  rw[hv]
  refine D2 [0,4,27,28] [4] (fun y:Nat × Int × PN=>[(29,gI y.1),(5,gI y.2.1)]) (fun y=>[(0,.blk (Ad y.2.2 (.ptr 1 0) (.osl 2) (.osl 3)) tNd),(1,.abs (cl (oLs y.2.2.st e))),(2,.slc (y.2.2.log.map enE) tEn 3),(3,.slc (y.2.2.out.map pkG) tPk 3)]) (fun y=>y.1≤m.length∧Ao (m.drop y.1) y.2.1 y.2.2=Ao m x.v n∧WSt (k+y.1) y.2.2.st∧y.2.2.log.length≤150) (fun y=>m.length - y.1) (0,x.v,n) ⟨ah _,rfl,h,hl⟩ ⟨⟨rfl,rfl⟩,⟨rfl,rfl⟩,trivial⟩ (by exact RL4) rfl fun⟨i,v,n'⟩ hI=>?_
  obtain⟨hi,hA,hw,hll⟩:=hI
  dsimp only at hi hA hw hll
  rw[←hA]
  refine df (fun hlt=>?_) fun hge=>?_
  ·rw[aa] at hlt
   obtain⟨c,hc⟩:∃c,m[i]?=some c:=⟨_,ab (by omega)⟩
   have hdr:m.drop i=c::m.drop (i+1):=by
    have e2:=(ac.1 hc).2
    rw[←e2,List.getElem_cons_drop]
   rw[hdr] at hA⊢
   have hcn:=hml c (ae hc)
   have hlen:((n'.log.map enE).length:Nat)=n'.log.length:=aa ..
   refine dk hc ?_
   refine⟨by rw[hlen];omega,?_⟩
   refine df (fun h1=>?_) fun h1=>?_
   ·have h1:c.n > ((n'.log.map enE).length:Int)+1:=h1
    rw[hlen] at h1
    have e1:Ao (c::m.drop (i+1)) v n'=(n',true):=by unfold Ao;rw[db h1]
    rw[e1]
    conv=>whnf
    refine Gh.done ?_
    exact .inl (A1 (oAs n' b e) [] (by exact RL5) rfl ⟨_,rfl⟩ rfl rfl ⟨rfl,rfl⟩)
   have h1:¬c.n > ((n'.log.map enE).length:Int)+1:=h1
   rw[hlen] at h1
   have hskip:c.n≤n'.log.length∨c.v < v→Ao (c::m.drop (i+1)) v n'=Ao (m.drop (i+1)) v n':=fun hh=>by
    show(if c.n > n'.log.length+1 then _ else _)=_
    rw[da h1,db hh]
   refine df (fun h2=>?_) fun h2=>?_
   ·have h2:c.n≤((n'.log.map enE).length:Int):=h2
    rw[hlen] at h2
    rw[hskip (.inl h2)] at hA⊢
    refine⟨by omega,.done ⟨(i+1,v,n'),[],⟨by dsimp only;omega,rfl,hw.more (by omega),hll⟩,(by dsimp only;omega),?_⟩⟩
    refine⟨?_,?_,rfl⟩<;>repeat' (first|exact trivial|with_reducible rfl|exact rfl|refine And.intro ?_ ?_)
   have h2:¬c.n≤((n'.log.map enE).length:Int):=h2
   rw[hlen] at h2
   refine df (fun h3=>?_) fun h3=>?_
   ·have h3:c.v < v:=h3
    rw[hskip (.inr h3)] at hA⊢
    refine⟨by omega,.done ⟨(i+1,v,n'),[],⟨by dsimp only;omega,rfl,hw.more (by omega),hll⟩,(by dsimp only;omega),?_⟩⟩
    refine⟨?_,?_,rfl⟩<;>repeat' (first|exact trivial|with_reducible rfl|exact rfl|refine And.intro ?_ ?_)
   have h3:¬c.v < v:=h3
   have hadd:Ao (c::m.drop (i+1)) v n'=if Ye n' c=true then Ao (m.drop (i+1)) c.v (Kf n' c) else(Kf n' c,false):=by
    show(if c.n > n'.log.length+1 then _ else _)=_
    rw[da h1,da (by rintro(h | h);exact h2 h;exact h3 h)]
   refine dh ((Z8m n' e (hw.wk (by omega)) (by omega) c).cal fun q rs hq=>?_)
   obtain⟨rfl,rfl⟩:=hq
   refine dj (fun hb=>?_) fun hb=>?_
   ·have hb:Ye n' c=false:=by simpa using hb
    rw[hadd,da (by rw[hb];decide)]
    conv=>whnf
    refine Gh.done ?_
    exact .inl (A1 (oAs (Kf n' c) b e) [(2,6),(3,7)] (by exact RL5) rfl ⟨_,rfl⟩ rfl rfl ⟨rfl,rfl⟩)
   ·have hb:Ye n' c=true:=by simpa using hb
    rw[hadd,db hb] at hA⊢
    obtain⟨w1,-,-⟩:=Jn (n:={n' with log:=n'.log++[c]}) hw (Cp 3 c.v c.n c.b) hb
    have hlg:(Kf n' c).log=n'.log++[c]:=by
     obtain⟨st',out',dead',eA,hol⟩:=Cm {n' with log:=n'.log++[c]} (Cp 3 c.v c.n c.b)
     exact congrArg PN.log eA
    refine⟨by omega,.done ⟨(i+1,c.v,Kf n' c),[(2,6),(3,7)],⟨by dsimp only;omega,rfl,w1,by rw[hlg];simp;omega⟩,(by dsimp only;omega),?_⟩⟩
    refine⟨?_,?_,rfl⟩<;>repeat' (first|exact trivial|with_reducible rfl|exact rfl|refine And.intro ?_ ?_)
  ·rw[aa] at hge
   have hdr:m.drop i=[]:=c7 (by omega)
   rw[hdr]
   conv=>whnf
   refine Gh.done ?_
   exact .inl (A1 (oAs n' b e) [] (by exact RL5) rfl ⟨_,rfl⟩ rfl rfl ⟨rfl,rfl⟩)
 ·rw[aa] at h0
  have hv:vw 1 n.log=1:=by
   have:n.log=[]:=al (by omega)
   rw[this];rfl
  rw[hv]
  refine D2 [0,4,27,28] [4] (fun x:Nat × Int × PN=>[(29,gI x.1),(5,gI x.2.1)]) (fun x=>[(0,.blk (Ad x.2.2 (.ptr 1 0) (.osl 2) (.osl 3)) tNd),(1,.abs (cl (oLs x.2.2.st e))),(2,.slc (x.2.2.log.map enE) tEn 3),(3,.slc (x.2.2.out.map pkG) tPk 3)]) (fun x=>x.1≤m.length∧Ao (m.drop x.1) x.2.1 x.2.2=Ao m (1:Int) n∧WSt (k+x.1) x.2.2.st∧x.2.2.log.length≤150) (fun x=>m.length - x.1) (0,(1:Int),n) ⟨ah _,rfl,h,hl⟩ ⟨⟨rfl,rfl⟩,⟨rfl,rfl⟩,trivial⟩ (by exact RL4) rfl fun⟨i,v,n'⟩ hI=>?_
  obtain⟨hi,hA,hw,hll⟩:=hI
  dsimp only at hi hA hw hll
  rw[←hA]
  refine df (fun hlt=>?_) fun hge=>?_
  ·rw[aa] at hlt
   obtain⟨c,hc⟩:∃c,m[i]?=some c:=⟨_,ab (by omega)⟩
   have hdr:m.drop i=c::m.drop (i+1):=by
    have e2:=(ac.1 hc).2
    rw[←e2,List.getElem_cons_drop]
   rw[hdr] at hA⊢
   have hcn:=hml c (ae hc)
   have hlen:((n'.log.map enE).length:Nat)=n'.log.length:=aa ..
   refine dk hc ?_
   refine⟨by rw[hlen];omega,?_⟩
   refine df (fun h1=>?_) fun h1=>?_
   ·have h1:c.n > ((n'.log.map enE).length:Int)+1:=h1
    rw[hlen] at h1
    have e1:Ao (c::m.drop (i+1)) v n'=(n',true):=by unfold Ao;rw[db h1]
    rw[e1]
    conv=>whnf
    refine Gh.done ?_
    exact .inl (A1 (oAs n' b e) [] (by exact RL5) rfl ⟨_,rfl⟩ rfl rfl ⟨rfl,rfl⟩)
   have h1:¬c.n > ((n'.log.map enE).length:Int)+1:=h1
   rw[hlen] at h1
   have hskip:c.n≤n'.log.length∨c.v < v→Ao (c::m.drop (i+1)) v n'=Ao (m.drop (i+1)) v n':=fun hh=>by
    show(if c.n > n'.log.length+1 then _ else _)=_
    rw[da h1,db hh]
   refine df (fun h2=>?_) fun h2=>?_
   ·have h2:c.n≤((n'.log.map enE).length:Int):=h2
    rw[hlen] at h2
    rw[hskip (.inl h2)] at hA⊢
    refine⟨by omega,.done ⟨(i+1,v,n'),[],⟨by dsimp only;omega,rfl,hw.more (by omega),hll⟩,(by dsimp only;omega),?_⟩⟩
    refine⟨?_,?_,rfl⟩<;>repeat' (first|exact trivial|with_reducible rfl|exact rfl|refine And.intro ?_ ?_)
   have h2:¬c.n≤((n'.log.map enE).length:Int):=h2
   rw[hlen] at h2
   refine df (fun h3=>?_) fun h3=>?_
   ·have h3:c.v < v:=h3
    rw[hskip (.inr h3)] at hA⊢
    refine⟨by omega,.done ⟨(i+1,v,n'),[],⟨by dsimp only;omega,rfl,hw.more (by omega),hll⟩,(by dsimp only;omega),?_⟩⟩
    refine⟨?_,?_,rfl⟩<;>repeat' (first|exact trivial|with_reducible rfl|exact rfl|refine And.intro ?_ ?_)
   have h3:¬c.v < v:=h3
   have hadd:Ao (c::m.drop (i+1)) v n'=if Ye n' c=true then Ao (m.drop (i+1)) c.v (Kf n' c) else(Kf n' c,false):=by
    show(if c.n > n'.log.length+1 then _ else _)=_
    rw[da h1,da (by rintro(h | h);exact h2 h;exact h3 h)]
   refine dh ((Z8m n' e (hw.wk (by omega)) (by omega) c).cal fun q rs hq=>?_)
   obtain⟨rfl,rfl⟩:=hq
   refine dj (fun hb=>?_) fun hb=>?_
   ·have hb:Ye n' c=false:=by simpa using hb
    rw[hadd,da (by rw[hb];decide)]
    conv=>whnf
    refine Gh.done ?_
    exact .inl (A1 (oAs (Kf n' c) b e) [(2,6),(3,7)] (by exact RL5) rfl ⟨_,rfl⟩ rfl rfl ⟨rfl,rfl⟩)
   ·have hb:Ye n' c=true:=by simpa using hb
    rw[hadd,db hb] at hA⊢
    obtain⟨w1,-,-⟩:=Jn (n:={n' with log:=n'.log++[c]}) hw (Cp 3 c.v c.n c.b) hb
    have hlg:(Kf n' c).log=n'.log++[c]:=by
     obtain⟨st',out',dead',eA,hol⟩:=Cm {n' with log:=n'.log++[c]} (Cp 3 c.v c.n c.b)
     exact congrArg PN.log eA
    refine⟨by omega,.done ⟨(i+1,c.v,Kf n' c),[(2,6),(3,7)],⟨by dsimp only;omega,rfl,w1,by rw[hlg];simp;omega⟩,(by dsimp only;omega),?_⟩⟩
    refine⟨?_,?_,rfl⟩<;>repeat' (first|exact trivial|with_reducible rfl|exact rfl|refine And.intro ?_ ?_)
  ·rw[aa] at hge
   have hdr:m.drop i=[]:=c7 (by omega)
   rw[hdr]
   conv=>whnf
   refine Gh.done ?_
   exact .inl (A1 (oAs n' b e) [] (by exact RL5) rfl ⟨_,rfl⟩ rfl rfl ⟨rfl,rfl⟩)
end Go.Proofs.YtihfaocdpmmooaaGreat
