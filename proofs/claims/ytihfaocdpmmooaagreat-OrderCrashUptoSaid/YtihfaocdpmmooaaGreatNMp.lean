
import Derived.Test.YtihfaocdpmmooaaGreatZNl
namespace Go.Proofs.YtihfaocdpmmooaaGreat
open Go.RowKit
set_option maxRecDepth 100000
theorem Z1j (n:PN)(p:Ob)(a:Int):FnO Tryz.prog 131 [.ptr 0 0,gI a] [.blk (Af n (.ptr 1 0) (.osl 2) (.osl 3)) tNd,.abs p,.slc (n.log.map enE) tEn 3,.slc (n.out.map pkG) tPk 3] fun g rs=>g=.v (.bool (a==0))∧rs=[.blk (Af (D8 n a) (.ptr 1 0) (.osl 4) (.osl 5)) tNd,.abs p,.gone,.gone,.slc ((D8 n a).log.map enE) tEn 3,.slc ((D8 n a).out.map pkG) tPk 3]:=by
 refine Bq Tryz.func131 (Ci _ _) ?_;refine dj (fun h=>?_) fun h=>?_
 ·have h:a≠0:=h;have b:D8 n a={n with dead:=true,out:=[]}:=by unfold D8;rw[dc h]
  rw[b];exact .gh (.nil 0 (Zax n (.osl 2)) [.tt] tNd tPk 3 rfl (by decide) (.seen 0 _ _ rfl (.rnm 0 2 [gI n.self,gI n.many,.ptr 1 0,gI n.pmd,gI n.normal] (Zek {n with dead:=true,out:=[]} (.osl 4)) tNd _ tEn 3 rfl rfl (.drop 3 _ rfl (.done ⟨[⟨[(0,.blk (Af {n with dead:=true,out:=[]} (.ptr 1 0) (.osl 4) (.osl 5)) tNd)],[(0,0)],false⟩,⟨[(0,.abs p)],[(0,1)],false⟩,⟨[(0,.gone)],[(0,2)],false⟩,⟨[(0,.gone)],[(0,3)],false⟩,⟨[(0,.slc (n.log.map enE) tEn 3)],[(0,5)],false⟩,⟨[(0,.slc (([]:List RPk).map pkG) tPk 3)],[(0,4)],false⟩],_,⟨⟨⟨_,rfl,rfl,rfl⟩,⟨_,rfl,rfl,rfl⟩,⟨_,rfl,rfl,rfl⟩,⟨_,rfl,rfl,rfl⟩,⟨_,rfl,rfl,rfl⟩,⟨_,rfl,rfl,rfl⟩,trivial⟩,rfl,⟨_,rfl⟩,rfl,rfl,⟨rfl,rfl⟩⟩⟩)))))
 ·have h:a=0:=h;have b:D8 n a=n:=by unfold D8;rw[db (fun c=>c h)]
  rw[b];exact .gh (.rnm 0 2 [gI n.self,gI n.many,.ptr 1 0,gI n.pmd,gI n.normal] (Zek n (.osl 3)) tNd _ tEn 3 rfl rfl (.rnm 0 3 (Zax n (.osl 4)) [.v (.bool n.dead)] tNd _ tPk 3 rfl rfl (.done ⟨[⟨[(0,.blk (Af n (.ptr 1 0) (.osl 4) (.osl 5)) tNd)],[(0,0)],false⟩,⟨[(0,.abs p)],[(0,1)],false⟩,⟨[(0,.gone)],[(0,2)],false⟩,⟨[(0,.gone)],[(0,3)],false⟩,⟨[(0,.slc (n.log.map enE) tEn 3)],[(0,4)],false⟩,⟨[(0,.slc (n.out.map pkG) tPk 3)],[(0,5)],false⟩],_,⟨⟨⟨_,rfl,rfl,rfl⟩,⟨_,rfl,rfl,rfl⟩,⟨_,rfl,rfl,rfl⟩,⟨_,rfl,rfl,rfl⟩,⟨_,rfl,rfl,rfl⟩,⟨_,rfl,rfl,rfl⟩,trivial⟩,rfl,⟨_,rfl⟩,rfl,rfl,⟨rfl,rfl⟩⟩⟩)))
theorem Um (n:PN)(a:Int):∃o d,D8 n a={n with out:=o,dead:=d}:=⟨_,_,(Mm n a).1⟩
theorem Zbg (n:PN)(e:Nat)(h:WK n.st)(s:n.log.length≤198)(r:ByteArray)(hr:r.size≤1000000):FnO Tryz.prog 95 [.ptr 0 0,.v (.string r)] [.blk (Af n (.ptr 1 0) (.osl 2) (.osl 3)) tNd,.abs (cl (oLs n.st e)),.slc (n.log.map enE) tEn 3,.slc (n.out.map pkG) tPk 3] fun g rs=>g=.v (.bool (C9 n r))∧rs=[.blk (Af (B3 n r) (.ptr 1 0) (.osl 4) (.osl 5)) tNd,.abs (cl (oLs (B3 n r).st e)),.gone,.gone,.slc ((B3 n r).log.map enE) tEn 3,.slc ((B3 n r).out.map pkG) tPk 3]:=by
 refine Bq Tryz.func95 (Ci _ _) ?_;obtain⟨f,p⟩:=Uw h r;refine di ((Oq n.st e h.wa r hr).cal fun q rs a=>?_);obtain⟨rfl,rfl⟩:=a;refine df (fun(d:Eb n.st r=51)=>?_) fun(d:Eb n.st r≠51)=>?_
 ·have k:B3 n r=D8 {n with st:=Eo (Bj n.st r) (C0 n)} (Id (Bj n.st r) (C0 n)):=by unfold B3;rw[dc d]
  have i:C9 n r=decide (Id (Bj n.st r) (C0 n)=0):=by unfold C9;rw[dc d]
  rw[k,i];refine⟨?_,?_⟩
  all_goals
   refine di ((Z9d n _ (by omega)).cal fun q rs a=>?_);obtain⟨rfl,rfl⟩:=a;refine dh (.frz 6 _ _ _ rfl (.done (.see (.same ((Hk (Bj n.st r) e f (by omega) (C0 n) (by rw[Jp];omega) (Hb n)).cal fun q rs a=>?_)))));obtain⟨rfl,rfl⟩:=a;refine .done ?_;have c:=Z1j {n with st:=Eo (Bj n.st r) (C0 n)} (cl (oLs (Eo (Bj n.st r) (C0 n)) e)) (Id (Bj n.st r) (C0 n));obtain⟨o,dd,hd⟩:=Um {n with st:=Eo (Bj n.st r) (C0 n)} (Id (Bj n.st r) (C0 n));rw[hd] at c⊢;refine di (c.cal fun q rs a=>?_);obtain⟨rfl,rfl⟩:=a;exact .inl ⟨[⟨[(0,.blk (Af {n with st:=Eo (Bj n.st r) (C0 n),out:=o,dead:=dd} (.ptr 1 0) (.osl 4) (.osl 5)) tNd)],[(0,0)],false⟩,⟨[(0,.abs (cl (oLs (Eo (Bj n.st r) (C0 n)) e)))],[(0,1)],false⟩,⟨[(0,.gone)],[(0,2)],false⟩,⟨[(0,.gone)],[(0,3)],false⟩,⟨[(0,.slc (n.log.map enE) tEn 3)],[(0,7)],false⟩,⟨[(0,.slc (o.map pkG) tPk 3)],[(0,8)],false⟩],_,⟨⟨⟨_,rfl,rfl,rfl⟩,⟨_,rfl,rfl,rfl⟩,⟨_,rfl,rfl,rfl⟩,⟨_,rfl,rfl,rfl⟩,⟨_,rfl,rfl,rfl⟩,⟨_,rfl,rfl,rfl⟩,trivial⟩,rfl,⟨_,rfl⟩,rfl,rfl,⟨rfl,rfl⟩⟩⟩
 ·have l:Eb n.st r=0→B3 n r=D8 {n with st:=Ic (Bj n.st r)} (N9 (Bj n.st r)):=fun b=>by unfold B3;rw[db d,db (fun h=>h b)]
  have j:Eb n.st r=0→C9 n r=decide (N9 (Bj n.st r)=0):=fun b=>by unfold C9;rw[db d,db (fun h=>h b)]
  have c:=Z1j {n with st:=Bj n.st r} (cl (oLs (Bj n.st r) e)) (Eb n.st r);obtain⟨o,dd,hd⟩:=Um {n with st:=Bj n.st r} (Eb n.st r);rw[hd] at c;refine di (c.cal fun q rs a=>?_);obtain⟨rfl,rfl⟩:=a;refine df (fun b=>?_) fun b=>?_
  ·have eD:D8 {n with st:=Bj n.st r} (Eb n.st r)={n with st:=Bj n.st r}:=by unfold D8;rw[db (fun h=>h b)]
   rw[l b,j b];rw[eD] at hd;obtain⟨rfl,rfl⟩:n.out=o∧n.dead=dd:=⟨congrArg PN.out hd,congrArg PN.dead hd⟩;refine di ((Z48 (Bj n.st r) e f).cal fun q rs a=>?_);obtain⟨rfl,rfl⟩:=a;have c:=Z1j {n with st:=Ic (Bj n.st r)} (cl (oLs (Ic (Bj n.st r)) e)) (N9 (Bj n.st r));obtain⟨o,dd,hd⟩:=Um {n with st:=Ic (Bj n.st r)} (N9 (Bj n.st r));rw[hd] at c⊢;refine di (c.cal fun q rs a=>?_);obtain⟨rfl,rfl⟩:=a;exact .inl ⟨[⟨[(0,.blk (Af {n with st:=Ic (Bj n.st r),out:=o,dead:=dd} (.ptr 1 0) (.osl 4) (.osl 5)) tNd)],[(0,0)],false⟩,⟨[(0,.abs (cl (oLs (Ic (Bj n.st r)) e)))],[(0,1)],false⟩,⟨[(0,.gone)],[(0,2)],false⟩,⟨[(0,.gone)],[(0,3)],false⟩,⟨[(0,.slc (n.log.map enE) tEn 3)],[(0,6)],false⟩,⟨[(0,.slc (o.map pkG) tPk 3)],[(0,7)],false⟩],_,⟨⟨⟨_,rfl,rfl,rfl⟩,⟨_,rfl,rfl,rfl⟩,⟨_,rfl,rfl,rfl⟩,⟨_,rfl,rfl,rfl⟩,⟨_,rfl,rfl,rfl⟩,⟨_,rfl,rfl,rfl⟩,trivial⟩,rfl,⟨_,rfl⟩,rfl,rfl,⟨rfl,rfl⟩⟩⟩
  ·have k:B3 n r=D8 {n with st:=Bj n.st r} (Eb n.st r):=by unfold B3;rw[db d,dc b]
   have i:C9 n r=false:=by unfold C9;rw[db d,dc b]
   have m:(Eb n.st r==0)=false:=by simpa using b
   rw[k,i,m,hd];exact .inl ⟨[⟨[(0,.blk (Af {n with st:=Bj n.st r,out:=o,dead:=dd} (.ptr 1 0) (.osl 4) (.osl 5)) tNd)],[(0,0)],false⟩,⟨[(0,.abs (cl (oLs (Bj n.st r) e)))],[(0,1)],false⟩,⟨[(0,.gone)],[(0,2)],false⟩,⟨[(0,.gone)],[(0,3)],false⟩,⟨[(0,.slc (n.log.map enE) tEn 3)],[(0,4)],false⟩,⟨[(0,.slc (o.map pkG) tPk 3)],[(0,5)],false⟩],_,⟨⟨⟨_,rfl,rfl,rfl⟩,⟨_,rfl,rfl,rfl⟩,⟨_,rfl,rfl,rfl⟩,⟨_,rfl,rfl,rfl⟩,⟨_,rfl,rfl,rfl⟩,⟨_,rfl,rfl,rfl⟩,trivial⟩,rfl,⟨_,rfl⟩,rfl,rfl,⟨rfl,rfl⟩⟩⟩
theorem Za0 (n:PN)(e:Nat)(h:WK n.st)(m:n.log.length≤190)(x:REnt):FnO Tryz.prog 65 [.ptr 0 0,.agg (enE x)] [.blk (Af n (.ptr 1 0) (.osl 2) (.osl 3)) tNd,.abs (cl (oLs n.st e)),.slc (n.log.map enE) tEn 3,.slc (n.out.map pkG) tPk 3] fun g rs=>g=.v (.bool (Lx n x))∧rs=[.blk (Af (F8 n x) (.ptr 1 0) (.osl 4) (.osl 5)) tNd,.abs (cl (oLs (F8 n x).st e)),.gone,.gone,.slc ((F8 n x).log.map enE) tEn 3,.slc ((F8 n x).out.map pkG) tPk 3]:=by refine Bq Tryz.func65 (Ci _ _) ?_;refine⟨by simp;omega,?_⟩;refine(Ec _ _ _ _).cal fun q i=>?_;subst i;have f:=Zbg {n with log:=n.log++[x]} e h (by show(n.log++[x]).length≤_;simp;omega) (Ce 3 x.v x.n x.b) (by have:=Fb 3 x.v x.n x.b;omega);have em:(n.log++[x]).map enE=n.log.map enE++[enE x]:=ao;dsimp only at f;obtain⟨d,c,a,k,l⟩:=D4 {n with log:=n.log++[x]} (Ce 3 x.v x.n x.b);have j:F8 n x={n with log:=n.log++[x],st:=d,out:=c,dead:=a}:=k;rw[k] at f;dsimp only at f;rw[em] at f;rw[j];refine di (f.cal fun q rs i=>?_);obtain⟨rfl,rfl⟩:=i;exact .inl ⟨[⟨[(0,.blk (Af {n with log:=n.log++[x],st:=d,out:=c,dead:=a} (.ptr 1 0) (.osl 4) (.osl 5)) tNd)],[(0,0)],false⟩,⟨[(0,.abs (cl (oLs d e)))],[(0,1)],false⟩,⟨[(0,.gone)],[(0,2)],false⟩,⟨[(0,.gone)],[(0,3)],false⟩,⟨[(0,.slc (n.log.map enE++[enE x]) tEn 3)],[(0,7)],false⟩,⟨[(0,.slc (c.map pkG) tPk 3)],[(0,8)],false⟩],_,⟨⟨⟨_,rfl,rfl,rfl⟩,⟨_,rfl,rfl,rfl⟩,⟨_,rfl,rfl,rfl⟩,⟨_,rfl,rfl,rfl⟩,⟨_,rfl,rfl,rfl⟩,⟨_,rfl,rfl,rfl⟩,trivial⟩,rfl,⟨_,rfl⟩,rfl,rfl,⟨rfl,by rw[em];rfl⟩⟩⟩
theorem WSt.more {k j:Nat}{l:LD}(h:WSt k l)(a:k≤j):WSt j l:=⟨h.d,h.many,h.armed,h.wait,h.half,h.b,h.len,ca h.mark a,h.dead,h.dd⟩
set_option maxHeartbeats 4000000 in
theorem Z9b (k:Nat)(n:PN)(b e:Nat)(h:WSt k n.st)(V:k≤900000000)(T:n.log.length≤150)(m:List REnt)(W:m.length≤150)(E:∀e∈m,e.n≤150):FnO Tryz.prog 105 [.ptr 0 0,.sl (m.map enE)] (cA n b e) fun g rs=>g=.v (.bool (Ac m (vw 1 n.log) n).2)∧rs=cA (Ac m (vw 1 n.log) n).1 b e:=by
 refine Bq Tryz.func105 (A6 (O:=oAs n b e) (n0:=5) rfl) ?_;refine dg (fun M=>?_) fun M=>?_
 ·rw[aa] at M;refine⟨by rw[aa];omega,?_⟩;refine⟨⟨by rw[aa];omega,by rw[aa];omega⟩,?_⟩;obtain⟨x,U⟩:∃x,n.log[n.log.length - 1]?=some x:=⟨_,ab (by omega)⟩;have N:vw 1 n.log=x.v:=by unfold vw;rw[List.getLast?_eq_getElem?,U];rfl
  have R:(((n.log.map enE).length:Nat):Int) - 1=((n.log.length - 1:Nat):Int):=by rw[aa];omega
  rw[R];refine dl (f:=enE) U ?_;rw[N];refine D2 [0,4,27,28] [4] (fun y:Nat × Int × PN=>[(29,gI y.1),(5,gI y.2.1)]) (fun y=>[(0,.blk (Af y.2.2 (.ptr 1 0) (.osl 2) (.osl 3)) tNd),(1,.abs (cl (oLs y.2.2.st e))),(2,.slc (y.2.2.log.map enE) tEn 3),(3,.slc (y.2.2.out.map pkG) tPk 3)]) (fun y=>y.1≤m.length∧Ac (m.drop y.1) y.2.1 y.2.2=Ac m x.v n∧WSt (k+y.1) y.2.2.st∧y.2.2.log.length≤150) (fun y=>m.length - y.1) (0,x.v,n) ⟨ah _,rfl,h,T⟩ ⟨⟨rfl,rfl⟩,⟨rfl,rfl⟩,trivial⟩ (by exact RL4) rfl fun⟨i,v,n'⟩ hI=>?_;obtain⟨hi,u,w,s⟩:=hI;dsimp only at hi u w s;rw[←u];refine dg (fun B=>?_) fun D=>?_
  ·rw[aa] at B;obtain⟨c,A⟩:∃c,m[i]?=some c:=⟨_,ab (by omega)⟩;have t:m.drop i=c::m.drop (i+1):=by
    have G:=(ac.1 A).2;rw[←G,List.getElem_cons_drop]
   rw[t] at u⊢;have H:=E c (ae A);have a:((n'.log.map enE).length:Nat)=n'.log.length:=aa ..;refine dl A ?_;refine⟨by rw[a];omega,?_⟩;refine dg (fun j=>?_) fun j=>?_
   ·have j:c.n > ((n'.log.map enE).length:Int)+1:=j;rw[a] at j;have I:Ac (c::m.drop (i+1)) v n'=(n',true):=by unfold Ac;rw[dc j]
    rw[I]
    conv=>whnf
    refine Gh.done ?_;exact .inl (A1 (oAs n' b e) [] (by exact RL5) rfl ⟨_,rfl⟩ rfl rfl ⟨rfl,rfl⟩)
   have j:¬c.n > ((n'.log.map enE).length:Int)+1:=j;rw[a] at j;have d:c.n≤n'.log.length∨c.v < v→Ac (c::m.drop (i+1)) v n'=Ac (m.drop (i+1)) v n':=fun J=>by show(if c.n > n'.log.length+1 then _ else _)=_;rw[db j,dc J]
   refine dg (fun l=>?_) fun l=>?_
   ·have l:c.n≤((n'.log.map enE).length:Int):=l;rw[a] at l;rw[d (.inl l)] at u⊢;refine⟨by omega,.done ⟨(i+1,v,n'),[],⟨by dsimp only;omega,rfl,w.more (by omega),s⟩,(by dsimp only;omega),?_⟩⟩;refine⟨?_,?_,rfl⟩<;>repeat' (first|exact trivial|with_reducible rfl|exact rfl|refine And.intro ?_ ?_)
   have l:¬c.n≤((n'.log.map enE).length:Int):=l;rw[a] at l;refine dg (fun r=>?_) fun r=>?_
   ·have r:c.v < v:=r;rw[d (.inr r)] at u⊢;refine⟨by omega,.done ⟨(i+1,v,n'),[],⟨by dsimp only;omega,rfl,w.more (by omega),s⟩,(by dsimp only;omega),?_⟩⟩;refine⟨?_,?_,rfl⟩<;>repeat' (first|exact trivial|with_reducible rfl|exact rfl|refine And.intro ?_ ?_)
   have r:¬c.v < v:=r;have p:Ac (c::m.drop (i+1)) v n'=if Lx n' c=true then Ac (m.drop (i+1)) c.v (F8 n' c) else(F8 n' c,false):=by show(if c.n > n'.log.length+1 then _ else _)=_;rw[db j,db (by rintro(h | h);exact l h;exact r h)]
   refine di ((Za0 n' e (w.wk (by omega)) (by omega) c).cal fun q rs S=>?_);obtain⟨rfl,rfl⟩:=S;refine dk (fun o=>?_) fun o=>?_
   ·have o:Lx n' c=false:=by simpa using o
    rw[p,db (by rw[o];decide)]
    conv=>whnf
    refine Gh.done ?_;exact .inl (A1 (oAs (F8 n' c) b e) [(2,6),(3,7)] (by exact RL5) rfl ⟨_,rfl⟩ rfl rfl ⟨rfl,rfl⟩)
   ·have o:Lx n' c=true:=by simpa using o
    rw[p,dc o] at u⊢;obtain⟨K,-,-⟩:=Fr (n:={n' with log:=n'.log++[c]}) w (Ce 3 c.v c.n c.b) o;have C:(F8 n' c).log=n'.log++[c]:=by obtain⟨L,F,z,Q,P⟩:=D4 {n' with log:=n'.log++[c]} (Ce 3 c.v c.n c.b);exact congrArg PN.log Q
    refine⟨by omega,.done ⟨(i+1,c.v,F8 n' c),[(2,6),(3,7)],⟨by dsimp only;omega,rfl,K,by rw[C];simp;omega⟩,(by dsimp only;omega),?_⟩⟩;refine⟨?_,?_,rfl⟩<;>repeat' (first|exact trivial|with_reducible rfl|exact rfl|refine And.intro ?_ ?_)
  ·rw[aa] at D;have t:m.drop i=[]:=c8 (by omega);rw[t]
   conv=>whnf
   refine Gh.done ?_;exact .inl (A1 (oAs n' b e) [] (by exact RL5) rfl ⟨_,rfl⟩ rfl rfl ⟨rfl,rfl⟩)
 ·rw[aa] at M;have N:vw 1 n.log=1:=by
   have:n.log=[]:=am (by omega);rw[this];rfl
  rw[N];refine D2 [0,4,27,28] [4] (fun x:Nat × Int × PN=>[(29,gI x.1),(5,gI x.2.1)]) (fun x=>[(0,.blk (Af x.2.2 (.ptr 1 0) (.osl 2) (.osl 3)) tNd),(1,.abs (cl (oLs x.2.2.st e))),(2,.slc (x.2.2.log.map enE) tEn 3),(3,.slc (x.2.2.out.map pkG) tPk 3)]) (fun x=>x.1≤m.length∧Ac (m.drop x.1) x.2.1 x.2.2=Ac m (1:Int) n∧WSt (k+x.1) x.2.2.st∧x.2.2.log.length≤150) (fun x=>m.length - x.1) (0,(1:Int),n) ⟨ah _,rfl,h,T⟩ ⟨⟨rfl,rfl⟩,⟨rfl,rfl⟩,trivial⟩ (by exact RL4) rfl fun⟨i,v,n'⟩ hI=>?_;obtain⟨hi,u,w,s⟩:=hI;dsimp only at hi u w s;rw[←u];refine dg (fun B=>?_) fun D=>?_
  ·rw[aa] at B;obtain⟨c,A⟩:∃c,m[i]?=some c:=⟨_,ab (by omega)⟩;have t:m.drop i=c::m.drop (i+1):=by
    have G:=(ac.1 A).2;rw[←G,List.getElem_cons_drop]
   rw[t] at u⊢;have H:=E c (ae A);have a:((n'.log.map enE).length:Nat)=n'.log.length:=aa ..;refine dl A ?_;refine⟨by rw[a];omega,?_⟩;refine dg (fun j=>?_) fun j=>?_
   ·have j:c.n > ((n'.log.map enE).length:Int)+1:=j;rw[a] at j;have I:Ac (c::m.drop (i+1)) v n'=(n',true):=by unfold Ac;rw[dc j]
    rw[I]
    conv=>whnf
    refine Gh.done ?_;exact .inl (A1 (oAs n' b e) [] (by exact RL5) rfl ⟨_,rfl⟩ rfl rfl ⟨rfl,rfl⟩)
   have j:¬c.n > ((n'.log.map enE).length:Int)+1:=j;rw[a] at j;have d:c.n≤n'.log.length∨c.v < v→Ac (c::m.drop (i+1)) v n'=Ac (m.drop (i+1)) v n':=fun J=>by show(if c.n > n'.log.length+1 then _ else _)=_;rw[db j,dc J]
   refine dg (fun l=>?_) fun l=>?_
   ·have l:c.n≤((n'.log.map enE).length:Int):=l;rw[a] at l;rw[d (.inl l)] at u⊢;refine⟨by omega,.done ⟨(i+1,v,n'),[],⟨by dsimp only;omega,rfl,w.more (by omega),s⟩,(by dsimp only;omega),?_⟩⟩;refine⟨?_,?_,rfl⟩<;>repeat' (first|exact trivial|with_reducible rfl|exact rfl|refine And.intro ?_ ?_)
   have l:¬c.n≤((n'.log.map enE).length:Int):=l;rw[a] at l;refine dg (fun r=>?_) fun r=>?_
   ·have r:c.v < v:=r;rw[d (.inr r)] at u⊢;refine⟨by omega,.done ⟨(i+1,v,n'),[],⟨by dsimp only;omega,rfl,w.more (by omega),s⟩,(by dsimp only;omega),?_⟩⟩;refine⟨?_,?_,rfl⟩<;>repeat' (first|exact trivial|with_reducible rfl|exact rfl|refine And.intro ?_ ?_)
   have r:¬c.v < v:=r;have p:Ac (c::m.drop (i+1)) v n'=if Lx n' c=true then Ac (m.drop (i+1)) c.v (F8 n' c) else(F8 n' c,false):=by show(if c.n > n'.log.length+1 then _ else _)=_;rw[db j,db (by rintro(h | h);exact l h;exact r h)]
   refine di ((Za0 n' e (w.wk (by omega)) (by omega) c).cal fun q rs S=>?_);obtain⟨rfl,rfl⟩:=S;refine dk (fun o=>?_) fun o=>?_
   ·have o:Lx n' c=false:=by simpa using o
    rw[p,db (by rw[o];decide)]
    conv=>whnf
    refine Gh.done ?_;exact .inl (A1 (oAs (F8 n' c) b e) [(2,6),(3,7)] (by exact RL5) rfl ⟨_,rfl⟩ rfl rfl ⟨rfl,rfl⟩)
   ·have o:Lx n' c=true:=by simpa using o
    rw[p,dc o] at u⊢;obtain⟨K,-,-⟩:=Fr (n:={n' with log:=n'.log++[c]}) w (Ce 3 c.v c.n c.b) o;have C:(F8 n' c).log=n'.log++[c]:=by obtain⟨L,F,z,Q,P⟩:=D4 {n' with log:=n'.log++[c]} (Ce 3 c.v c.n c.b);exact congrArg PN.log Q
    refine⟨by omega,.done ⟨(i+1,c.v,F8 n' c),[(2,6),(3,7)],⟨by dsimp only;omega,rfl,K,by rw[C];simp;omega⟩,(by dsimp only;omega),?_⟩⟩;refine⟨?_,?_,rfl⟩<;>repeat' (first|exact trivial|with_reducible rfl|exact rfl|refine And.intro ?_ ?_)
  ·rw[aa] at D;have t:m.drop i=[]:=c8 (by omega);rw[t]
   conv=>whnf
   refine Gh.done ?_;exact .inl (A1 (oAs n' b e) [] (by exact RL5) rfl ⟨_,rfl⟩ rfl rfl ⟨rfl,rfl⟩)
end Go.Proofs.YtihfaocdpmmooaaGreat
