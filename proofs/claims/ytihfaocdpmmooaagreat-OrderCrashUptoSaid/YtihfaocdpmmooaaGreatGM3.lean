
import Derived.Test.YtihfaocdpmmooaaGreatZGq
import Derived.Test.YtihfaocdpmmooaaGreatZGc
namespace Go.Proofs.YtihfaocdpmmooaaGreat
def aS:ByteArray:=⟨#[97]⟩
def al0:RN:=(Cx (J1 1 3) 1).1
def al1:List RN × List RPk:=Gt 3000 [J1 0 3,K9 al0,J1 2 3] (De [] al0.out)
def alN (i:Nat)(l:List RN):RN:=l[i]?.getD (J1 0 0)
def al2:RN:=(Bd (alN 1 al1.1) aS).1
def al3:List RN × List RPk:=Gt 3000 (al1.1.set 1 (K9 al2)) (De al1.2 al2.out)
def Zkm:Bool:=(Cx (J1 1 3) 1).2&&(Bd (alN 1 al1.1) aS).2&&decide ((alN 1 al3.1).phase=2)&&decide ((alN 1 al3.1).cmt=1)&&decide ((alN 0 al3.1).cmt=1)&&decide ((alN 2 al3.1).log.length=1)
theorem Zf2:Zkm=true:=by decide +kernel
open Go.RowKit
set_option maxRecDepth 100000
theorem Vi {k:Nat}{sh:Bool}{n:PN}(hi:NI k n)(j:ShN sh n)(s:ByteArray):ShN sh (Bc n s).1:=by
 unfold Bc;by_cases d:n.dead=true∨n.std=false∨n.log.length ≥ 150∨s.size > 200
 ·rw[dc d];exact j
 ·have a:n.std=true:=by
   cases h:n.std with
   | true=>rfl
   | false=>exact de (.inr (.inl h)) d
  obtain⟨m,q,w,y,v⟩:=hi.st a;have g:=hi.ld m;have t:=hi.nv.p;obtain⟨r,x,st,l,-⟩:=Lr hi (e:=⟨n.pmd,A3 n.log+1,s⟩) rfl (Uo (by rw[←q];exact hi.nv.top) g.2) g.2 (by show n.pmd≤_;omega) (by show s.size≤200;omega) (by omega);rw[db d,dc r,l];obtain⟨c,o,e⟩:=Cb (An {n with log:=n.log++[⟨n.pmd,A3 n.log+1,s⟩],st:=st,aks:=fun i=>if i=n.self then A3 n.log+1 else n.aks i} ⟨4,n.pmd,0,A3 n.log+1 - 1,[⟨n.pmd,A3 n.log+1,s⟩]⟩);obtain⟨u,f⟩:=(A2 {n with log:=n.log++[⟨n.pmd,A3 n.log+1,s⟩],st:=st,aks:=fun i=>if i=n.self then A3 n.log+1 else n.aks i} ⟨4,n.pmd,0,A3 n.log+1 - 1,[⟨n.pmd,A3 n.log+1,s⟩]⟩).to;rw[f] at e;refine⟨fun h=>de (j.b h).1 (by rw[a];decide),fun _ _ _=>?_⟩;show(Cj (An _ _)).std=true;rw[f,e];exact a
def Qm (x:GM)(s:ByteArray):GM:=⟨x.s,(Bc x.n s).1,x.b,x.e,(Bd x.r s).1⟩
theorem MOk.offer {k:Nat}{x:GM}(h:MOk k x)(d:k+1≤900000000)(s:ByteArray):MOk (k+1) (Qm x s)∧(Bc x.n s).2=(Bd x.r s).2:=by obtain⟨a,b,c⟩:=M1 h.sim h.ni d s;exact⟨⟨b,c,Y9 h.nj s,Vi h.ni h.sh s⟩,a⟩
theorem Kk (r:RN)(s:ByteArray):(Bd r s).1.self=r.self∧(Bd r s).1.many=r.many:=by
 have b:∀(n:RN) (k:Nat) (f:RN→Nat→RN),(∀n i,(f n i).self=n.self∧(f n i).many=n.many)→(Ma f n k).self=n.self∧(Ma f n k).many=n.many:=fun n k f hf=>by
  induction k with
  | zero=>exact⟨rfl,rfl⟩
  | succ k ih =>
   rw[Dh];split
   ·exact ih
   ·exact⟨(hf _ _).1.trans ih.1,(hf _ _).2.trans ih.2⟩
 have a:∀(n:RN) (m:RM),(Au n m).self=n.self∧(Au n m).many=n.many:=fun n m=>b n _ _ fun n i=>⟨rfl,rfl⟩;have e:∀n:RN,(Ck n).self=n.self∧(Ck n).many=n.many:=fun n=>by
  unfold Ck;split
  ·exact a {n with cmt:=Bi n.aks} _
  ·exact⟨rfl,rfl⟩
 unfold Bd;split
 ·exact⟨rfl,rfl⟩
 ·have c:=e (Au (Bp (J9 r (Ej r s)) r.self (Ej r s).n) ⟨4,r.pmd,0,(Ej r s).n - 1,[Ej r s]⟩);have d:=a (Bp (J9 r (Ej r s)) r.self (Ej r s).n) ⟨4,r.pmd,0,(Ej r s).n - 1,[Ej r s]⟩;exact⟨c.1.trans d.1,c.2.trans d.2⟩
theorem Z5o {l:List GM}(c:l.length=3)(h:Fresh 3 l):l.map GM.r=[J1 0 3,J1 1 3,J1 2 3]:=by
 have key:∀(i:Nat) (x:GM),l[i]?=some x→x.r=J1 i 3:=fun i x a=>by obtain⟨_,_,e⟩:=h i x a;rw[e];rfl
 refine cp fun i=>?_;rw[aj];by_cases hi:i < 3
 ·obtain⟨x,a⟩:∃x,l[i]?=some x:=⟨_,ab (by omega)⟩;have b:=key i x a;rw[a];show some x.r=_;rw[b];have:i=0∨i=1∨i=2:=by omega
  rcases this with rfl | rfl | rfl<;>rfl
 ·rw[b9 (by omega),b9 (by show 3≤i;omega)];rfl
theorem Wg {m:Nat}{l:List GM}(d:l.length=m)(c:m≤7)(h:Fresh m l):GI 0 m l∧Still l:=by
 refine⟨⟨d,c,fun i x a=>?_⟩,fun i x a=>?_⟩
 ·obtain⟨b,e,rfl⟩:=h i x a;have:=(ac.1 a).1;exact⟨Z2h (by omega) c b e,rfl,rfl⟩
 ·obtain⟨b,e,rfl⟩:=h i x a;rfl
theorem Z6w:(Cx (J1 1 3) 1).2=true∧(Bd (alN 1 al1.1) aS).2=true∧(alN 1 al3.1).phase=2∧(alN 1 al3.1).cmt=1∧(alN 0 al3.1).cmt=1∧(alN 2 al3.1).log.length=1:=by have h:=Zf2;unfold Zkm at h;simp only[Bool.and_eq_true,decide_eq_true_iff] at h;exact⟨h.1.1.1.1.1,h.1.1.1.1.2,h.1.1.1.2,h.1.1.2,h.1.2,h.2⟩
theorem Z7j:(alN 1 al1.1).pmd≤(alN 1 al1.1).normal∧(alN 0 al3.1).pmd≤(alN 0 al3.1).normal∧(alN 1 al3.1).pmd≤(alN 1 al3.1).normal∧(alN 2 al3.1).pmd≤(alN 2 al3.1).normal:=by decide +kernel
theorem Ox {k:Nat}{x:GM}(h:MOk k x)(hr:x.r.pmd≤x.r.normal):x.s=true:=by
 cases hs:x.s with
 | true=>rfl
 | false =>
  have a:=(h.sh.b hs).2;have d:=h.sim.pmd;have c:=h.sim.normal;omega
theorem Vz:al0.self=1∧al0.many=3:=by decide +kernel
theorem Z0w {l:List GM}{i:Nat}{x:GM}(h:l[i]?=some x):alN i (l.map GM.r)=x.r:=Xw h _
set_option maxHeartbeats 8000000 in
theorem Jw:FnV Tryz.prog 10 [] fun g=>g=.v (.bool true):=by
 obtain⟨a1,a2,a3,a4,a5,a6⟩:=Z6w;refine fnG Tryz.func10 ?_;refine dh (.done (.same ((Z3r 3 (by omega) (by omega)).cal fun q rs w=>?_)));obtain⟨rfl,l,hl,hF,rfl⟩:=w;refine .opn 0 _ _ _ rfl rfl rfl (.done ?_);obtain⟨hG0,hS0⟩:=Wg hl (by omega) hF;have V:=Z5o hl hF;generalize ((List.range 3).map fun i:Nat=>J1 i (3:Nat))=pl;obtain⟨x1,B⟩:∃x,l[1]?=some x:=⟨_,ab (by omega)⟩;obtain⟨b1,F,rfl⟩:=hF 1 x1 B;refine⟨⟨by omega,by rw[aa,hl];omega⟩,?_⟩;refine dl (f:=pN) (i:=1) B ?_;have C:=(hG0.ok 1 _ B).1;have hS:=P3 C.sim C.ni (by omega) 1;have hL:(C3 (Da 1 3 (0,0,[]) stN) 1).2=true:=hS.1.trans a1;refine dh (.take 5 1 _ (cl (oAs (Da 1 3 (0,0,[]) stN) b1 F)) rfl (Eg B) (.opn 6 _ _ _ rfl rfl rfl (.dup 10 6 b1 rfl (.close (oAs (Da 1 3 (0,0,[]) stN) b1 F) [(0,6),(1,7),(2,8),(3,9),(4,10)] (by exact RL5) ⟨_,rfl⟩ rfl (.done (.raw 11 6 rfl (.same ((Z9j (Da 1 3 (0,0,[]) stN) b1 F 0 (fun _=>C.ni.wn (ah _)) 1).cal fun q rs w=>?_))))))));obtain⟨a,s1,rfl,hs1⟩:=w;rw[hL] at a;subst a;refine .put 5 1 6 _ _ rfl (by simp only[List.length_set,List.length_map];omega) rfl (.drop 11 _ rfl (.done ?_));refine dk (fun h=>(by cases h)) fun _=>?_;generalize hy:(⟨s1,(C3 (Da 1 3 (0,0,[]) stN) 1).1,b1,F,al0⟩:GM)=d;have u:d.b=b1∧d.e=F∧d.r=al0∧mOb d=cl (oSs s1 (C3 (Da 1 3 (0,0,[]) stN) 1).1 b1 F):=by subst hy;exact⟨rfl,rfl,rfl,rfl⟩
 have O:MOk 2 d:=by subst hy;exact⟨hS.2.1,hS.2.2,Z27 (Km rfl) 1,hs1 C.sh⟩
 have D:=Sim.selfN O.sim (i:=1) (m:=3) (by rw[u.2.2.1];exact Vz.1) (by rw[u.2.2.1];exact Vz.2);have hG1:GI 2 3 (l.set 1 d):=(hG0.up (j:=2) (by omega) (by omega)).set B O D.1 D.2;have hy1:(l.set 1 d)[1]?=some d:=c7 (by omega);have hob:OB 100 d.r:=by rw[u.2.2.1];exact(Z28 (c:=0) (k:=3) ⟨ah _,by nofun⟩ rfl 1).up (by omega)
 have a:∀(j:Nat) (z:GM),(l.set 1 d)[j]?=some z→j≠1→z.r.out=[]:=fun j z I hj=>by rw[ce (fun e=>hj e.symm)] at I;exact hS0 j z I
 have hm1:(((l.set 1 d).set 1 (Hh d)).map GM.r,De [] d.r.out)=([J1 0 3,K9 al0,J1 2 3],De [] al0.out):=by rw[List.set_set,Jx,V,u.2.2.1];show([J1 0 3,K9 d.r,J1 2 3],_)=_;rw[u.2.2.1]
 clear hy;refine dh (.close (oGs (l.set 1 d) pl []) [] ⟨RL1,⟨rfl,rfl,eqR (H1 B u.1).symm⟩,⟨rfl,rfl,eqR (Gy B u.2.1).symm⟩,RL1,RL1,⟨rfl,rfl,Ff (by rw[←u.2.2.2];exact E2 l 1 d)⟩,trivial⟩ ⟨_,rfl⟩ rfl (.done (.same ((Zb2 2 3 (l.set 1 d) pl [] 1 d hG1 hy1 hob a (ah _) (by nofun) (by omega)).cal fun q rs w=>?_))));obtain⟨rfl,H,w2,rfl,hG2,hS2,N,hw2,ho2⟩:=w;refine .opn 0 _ _ _ rfl rfl rfl (.done ?_);have N:(H.map GM.r,w2)=al1:=by rw[N];show Gt 3000 (((l.set 1 d).set 1 (Hh d)).map GM.r,De [] d.r.out).1 (((l.set 1 d).set 1 (Hh d)).map GM.r,De [] d.r.out).2=_;rw[hm1];rfl
 have hl2:=hG2.len;obtain⟨z,I⟩:∃x,H[1]?=some x:=⟨_,ab (by omega)⟩;have hzr:z.r=alN 1 al1.1:=by rw[←N];exact(Z0w I).symm
 refine⟨⟨by omega,by rw[aa,hl2];omega⟩,?_⟩;refine dl (f:=pN) (i:=1) I ?_;obtain⟨o,hzs,W⟩:=hG2.ok 1 z I;obtain⟨U,hO⟩:=o.offer (by omega) aS;have hO:(Bc z.n aS).2=true:=hO.trans (by rw[hzr];exact a2);have J:=hS2 1 z I;have Z:z.n.out=[]:=o.sim.out.symm.trans J;have hos:=Sim.selfN U.sim (i:=1) (m:=3) (by have:=(Kk z.r aS).1;exact this.trans (by rw[o.sim.self,hzs])) (by have:=(Kk z.r aS).2;exact this.trans (by rw[o.sim.many,W]));have hG3:GI 450003 3 (H.set 1 (Qm z aS)):=(hG2.up (j:=450003) (by omega) (by omega)).set I U (hos.1.trans hzs.symm) (hos.2.trans W.symm);have R:OB 100 (Qm z aS).r:=(We (c:=0) (k:=3) ⟨by rw[J];exact ah _,by rw[J];nofun⟩ (by rw[o.sim.many,W]) aS).up (by omega);have hq2:∀(j:Nat) (y:GM),(H.set 1 (Qm z aS))[j]?=some y→j≠1→y.r.out=[]:=fun j y hy hj=>by rw[ce (fun e=>hj e.symm)] at hy;exact hS2 j y hy
 have hm2:Gt 3000 (((H.set 1 (Qm z aS)).set 1 (Hh (Qm z aS))).map GM.r) (De w2 (Qm z aS).r.out)=al3:=by rw[List.set_set,Jx];unfold al3 al2;rw[←N];show Gt 3000 ((H.map GM.r).set 1 (K9 (Bd z.r aS).1)) (De w2 (Bd z.r aS).1.out)=Gt 3000 ((H.map GM.r).set 1 (K9 (Bd (alN 1 (H.map GM.r)) aS).1)) (De w2 (Bd (alN 1 (H.map GM.r)) aS).1.out);rw[Z0w I]
 have hoG:(H.set 1 (Qm z aS))[1]?=some (Qm z aS):=c7 (by omega);have hzsh:=Ox o (by rw[hzr];exact Z7j.1);obtain⟨s,n,b,e,r⟩:=z;obtain rfl:s=true:=hzsh;have hwn:n.dead=false→WNk _ n:=fun _=>o.ni.wn (by have Z:n.out=[]:=Z;rw[Z];exact ah _);refine dh (.take 16 1 _ (cl (oAs n b e)) rfl (Eg I) (.opn 17 _ _ _ rfl rfl rfl (.dup 21 17 b rfl (.close (oAs n b e) [(0,17),(1,18),(2,19),(3,20),(4,21)] (by exact RL5) ⟨_,rfl⟩ rfl (.done (.raw 22 17 rfl (.same ((Z4o n b e (fun h=>(hwn h).nb) aS).cal fun q rs w=>?_))))))));obtain⟨a,rfl⟩:=w;rw[show(Bc n aS).2=true from hO] at a;subst a;refine .put 16 1 17 _ _ rfl (by simp only[List.length_set,List.length_map];omega) rfl (.drop 22 _ rfl (.done ?_));refine dh (.close (oGs (H.set 1 (Qm ⟨true,n,b,e,r⟩ aS)) pl w2) [(0,0),(1,12),(2,13),(3,14),(4,15),(5,16)] ⟨RL1,⟨rfl,rfl,eqR (H1 (y:=Qm ⟨true,n,b,e,r⟩ aS) I rfl).symm⟩,⟨rfl,rfl,eqR (Gy (y:=Qm ⟨true,n,b,e,r⟩ aS) I rfl).symm⟩,RL1,RL1,⟨rfl,rfl,Ff (E2 H 1 (Qm ⟨true,n,b,e,r⟩ aS))⟩,trivial⟩ ⟨_,rfl⟩ rfl (.done (.same ((Zb2 450003 3 _ pl w2 1 _ hG3 hoG R hq2 hw2 ho2 (by omega)).cal fun q rs w=>?_))));obtain⟨rfl,P,w3,rfl,t,hS4,hR3,-,-⟩:=w;rw[hm2] at hR3;refine .opn 0 _ _ _ rfl rfl rfl (.done ?_);refine dk (fun _=>?_) fun h=>(by cases h);clear hm2 hq2 R hG3 hoG;have L:=t.len;have hv:∀(i:Nat) (x:GM),P[i]?=some x→x.r=alN i al3.1:=fun i x hx=>by rw[←hR3];exact(Z0w hx).symm
 obtain⟨d,p⟩:∃x,P[1]?=some x:=⟨_,ab (by omega)⟩;obtain⟨y0,E⟩:∃x,P[0]?=some x:=⟨_,ab (by omega)⟩;obtain⟨y2,K⟩:∃x,P[2]?=some x:=⟨_,ab (by omega)⟩;have M:=hv 1 d p;have X:=hv 0 y0 E;have Y:=hv 2 y2 K;have S:d.n.lds=true:=by
  have h:=(t.ok 1 d p).1.sim.st.1;rw[M,a3] at h;cases hh:d.n.lds with
  | true=>rfl
  | false=>exact de (h.2 hh) (by decide)
 have T:d.n.cmt=1:=by rw[←(t.ok 1 d p).1.sim.cmt,M];exact a4
 have Q:y0.n.cmt=1:=by rw[←(t.ok 0 y0 E).1.sim.cmt,X];exact a5
 have A:y2.n.log.length=1:=by rw[←(t.ok 2 y2 K).1.sim.log,Y];exact a6
 have hs1':=Ox (t.ok 1 d p).1 (by rw[M];exact Z7j.2.2.1);have hs0':=Ox (t.ok 0 y0 E).1 (by rw[X];exact Z7j.2.1);have hs2':=Ox (t.ok 2 y2 K).1 (by rw[Y];exact Z7j.2.2.2);clear hv X M Y;obtain⟨s1,n1,b1,d1,r1⟩:=d;obtain⟨s0,n0,b0,d0,r0⟩:=y0;obtain⟨s2,n2,b2,d2,r2⟩:=y2;obtain rfl:s1=true:=hs1';obtain rfl:s0=true:=hs0';obtain rfl:s2=true:=hs2';dsimp only at S T Q A;refine⟨⟨by omega,by rw[aa,L];omega⟩,?_⟩;refine dl (f:=pN) (i:=1) p ?_;have F:((P.map mOb).set 1 T5).set 1 (cl (oAs n1 b1 d1))=P.map mOb:=Fl p;refine dh (.take 27 1 _ (cl (oAs n1 b1 d1)) rfl (Eg p) (.opn 28 _ _ _ rfl rfl rfl (.dup 32 28 b1 rfl (.close (oAs n1 b1 d1) [(0,28),(1,29),(2,30),(3,31),(4,32)] (by exact RL5) ⟨_,rfl⟩ rfl (.done (.raw 33 28 rfl (.same ((Z0s n1 b1 d1).cal fun q rs w=>?_))))))));obtain⟨a,rfl⟩:=w;rw[S] at a;subst a;refine .put 27 1 28 _ _ rfl (by simp only[List.length_set,List.length_map];omega) rfl (.drop 33 _ rfl (.done ?_));refine dk (fun _=>?_) fun h=>de h (by decide);refine⟨⟨by omega,by rw[aa,L];omega⟩,?_⟩;refine dl (f:=pN) (i:=1) p ?_;refine dh (.take 27 1 _ (cl (oAs n1 b1 d1)) rfl (by rw[F];exact Eg p) (.opn 34 _ _ _ rfl rfl rfl (.dup 38 34 b1 rfl (.close (oAs n1 b1 d1) [(0,34),(1,35),(2,36),(3,37),(4,38)] (by exact RL5) ⟨_,rfl⟩ rfl (.done (.raw 39 34 rfl (.same ((Pg n1 b1 d1).cal fun q rs w=>?_))))))));obtain⟨a,rfl⟩:=w;rw[T] at a;subst a;refine .put 27 1 34 _ _ rfl (by simp only[List.length_set,List.length_map];omega) rfl (.drop 39 _ rfl (.done ?_));refine dk (fun _=>?_) fun h=>de h (by decide);refine⟨⟨by omega,by rw[aa,L];omega⟩,?_⟩;refine dl (f:=pN) (i:=0) E ?_;have e0:((P.map mOb).set 0 T5).set 0 (cl (oAs n0 b0 d0))=P.map mOb:=Fl E;refine dh (.take 27 0 _ (cl (oAs n0 b0 d0)) rfl (by rw[F,F];exact Eg E) (.opn 40 _ _ _ rfl rfl rfl (.dup 44 40 b0 rfl (.close (oAs n0 b0 d0) [(0,40),(1,41),(2,42),(3,43),(4,44)] (by exact RL5) ⟨_,rfl⟩ rfl (.done (.raw 45 40 rfl (.same ((Pg n0 b0 d0).cal fun q rs w=>?_))))))));obtain⟨a,rfl⟩:=w;rw[Q] at a;subst a;refine .put 27 0 40 _ _ rfl (by simp only[List.length_set,List.length_map];omega) rfl (.drop 45 _ rfl (.done ?_));refine dk (fun _=>?_) fun h=>de h (by decide);refine⟨⟨by omega,by rw[aa,L];omega⟩,?_⟩;refine dl (f:=pN) (i:=2) K ?_;refine dh (.take 27 2 _ (cl (oAs n2 b2 d2)) rfl (by rw[F,F,e0];exact Eg K) (.opn 46 _ _ _ rfl rfl rfl (.dup 50 46 b2 rfl (.close (oAs n2 b2 d2) [(0,46),(1,47),(2,48),(3,49),(4,50)] (by exact RL5) ⟨_,rfl⟩ rfl (.done (.raw 51 46 rfl (.same ((Zfp n2 b2 d2 (by rw[A];decide)).cal fun q rs w=>?_))))))));obtain⟨a,rfl⟩:=w;subst a;refine .put 27 2 46 _ _ rfl (by simp only[List.length_set,List.length_map];omega) rfl (.drop 51 _ rfl (.done ?_));exact(congrArg (fun k:Nat=>G.v (.bool ((k:Int)==1))) (show(n2.log.map enE).length=1 by rw[aa];exact A)).trans rfl
end Go.Proofs.YtihfaocdpmmooaaGreat
