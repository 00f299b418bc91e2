
import Derived.Test.YtihfaocdpmmooaaGreatHM2
import Derived.Test.YtihfaocdpmmooaaGreatJM1
import Derived.Test.YtihfaocdpmmooaaGreatGM6
namespace Go.Proofs.YtihfaocdpmmooaaGreat
open Go.RowKit
set_option maxRecDepth 100000
theorem Sim.uz {n:PN}{r:RN}(h:Sim (zN n) r):Sim n r:=⟨h.self,h.many,h.pmd,h.normal,h.log,h.cmt,h.out,h.phase,h.jns,h.aks⟩
theorem NA.wn {k:Nat}{n:PN}(h:NA k n)(a:n.out.length≤700000):WNk k n:=by have:=h.ni.wn (n:=zN n) a;exact⟨h.ws,this.kk,this.m0,this.m7,this.self,this.log,this.out,this.jns,this.np,this.st⟩
structure MA (k:Nat)(x:GM):Prop where
 sim:Sim (zN x.n) x.r
 ni:NI k (zN x.n)
 nj:NJr x.r
 sh:ShN x.s x.n
def Mid (k c:Nat)(y x:GM):Prop:=x.r.hrd.length≤c∧x.r.self=1∧x.r.many=3∧((x.n.dead=false∧MA k x∧OB 100 x.r)∨(x.n.dead=true∧Left k x.n (Nc y.n) (Ju x.r)))
theorem Zhl (l:List GM)(p:List RN)(way:List RPk)(i:Nat)(x:GM)(m:l[i]?=some x)(t:p[i]?=some x.r)(A:x.n.out=[]):FnO Tryz.prog 75 [.ptr 0 0,gI i] (cG l p way) fun g rs=>∃b,g=.v (.bool b)∧rs=cG (l.set i (Hh x)) (p.set i (K9 x.r)) way:=by
 obtain⟨s,n,b,e,r⟩:=x;dsimp only at A t;have c:=(ac.1 m).1;have w:=(ac.1 t).1;have d:(l.map mOb)[i]?=some (cl (oSs s n b e)):=by rw[aj,m];rfl
 have B:(l.set i (Hh ⟨s,n,b,e,r⟩)).map pN=l.map pN:=H1 m rfl;have eD:(l.set i (Hh ⟨s,n,b,e,r⟩)).map pD=l.map pD:=Gy m rfl;have j:=E2 l i (Hh ⟨s,n,b,e,r⟩);refine Bq Tryz.func75 (A6 (O:=oGs l p way) (n0:=6) rfl) ?_;refine⟨⟨by omega,by rw[aa];omega⟩,?_⟩;refine dl (f:=Cl) t ?_;refine(Z2m r).cal fun q o=>?_;subst o;refine⟨⟨by omega,by rw[aa];omega⟩,?_⟩;refine dn (f:=Cl) (i:=i) (y:=K9 r) t (fun q o=>o) rfl ?_;refine⟨⟨by omega,by rw[aa];omega⟩,?_⟩;refine dl (f:=pN) m ?_;refine dh (.take 5 i _ (mOb ⟨s,n,b,e,r⟩) rfl d (.lies 7 b _ rfl (G0 ⟨s,n,b,e,r⟩) (.done (.raw 8 7 rfl (.same ((Zbf s n b e).cal fun q rs o=>?_))))));obtain⟨rfl,rfl⟩:=o;refine .put 5 i 7 _ _ rfl (by rw[bh,aa];exact c) rfl (.drop 8 _ rfl (.done ?_));rw[A];generalize C:l.set i (Hh ⟨s,n,b,e,r⟩)=l' at *;generalize a:p.set i (K9 r)=pl';refine dj (fun h=>?_) fun _=>?_
 ·exact .inl (A1 (oGs l' pl' way) [] ⟨RL1,⟨rfl,rfl,eqR B.symm⟩,⟨rfl,rfl,eqR eD.symm⟩,⟨rfl,rfl,by rw[←a];rfl⟩,RL1,⟨rfl,rfl,Ff j⟩,trivial⟩ rfl ⟨_,rfl⟩ rfl rfl ⟨_,rfl,rfl⟩)
 refine D2 [0,6,7,41] [1,2,3,9] (fun z:Nat=>[(42,gI z)]) (fun z=>[(0,.blk [.osl 1,.osl 2,.osl 3,.osl 4] tGr),(4,.vw (way.map pkG) tPk 3),(5,.fam (l'.map mOb))]) (fun z=>z=0) (fun z=>0) 0 rfl ⟨⟨rfl,rfl⟩,trivial⟩ ⟨RL1,RL1,⟨rfl,rfl,Ff j⟩,trivial⟩ rfl fun k D=>?_;subst D;refine dg (fun u=>de u (by decide)) fun E=>?_;exact Gh.done (.inl (A1 (oGs l' pl' way) [] ⟨RL1,⟨rfl,rfl,eqR B.symm⟩,⟨rfl,rfl,eqR eD.symm⟩,⟨rfl,rfl,by rw[←a];rfl⟩,RL1,RL1,trivial⟩ rfl ⟨_,rfl⟩ rfl rfl ⟨_,rfl,rfl⟩))
def Z0l (l m:List REnt):Bool:=decide (((l.map enE).length:Int)=((m.map enE).length:Nat))&&decide (((Cd l m:Nat):Int)=((l.map enE).length:Nat))
def S3 (n:PN)(r:RN):Bool:=decide (n.pmd=r.pmd)&&(decide (n.normal=r.normal)&&(decide (n.cmt=r.cmt)&&((decide ((if n.lds=true then(1:Int) else 0) > 0)==decide (r.phase > 0))&&Z0l n.log r.log)))
theorem Zc1 (l m:List REnt)(a:l.length≤1000000):FnV Tryz.prog 52 [.sl (l.map enE),.sl (m.map enE)] fun g=>g=.v (.bool (Z0l l m)):=by
 refine fnG Tryz.func52 ?_;unfold Z0l;refine df (fun h=>?_) fun h=>?_
 ·refine(J3 l m a).cal fun q b=>?_;subst b;rw[decide_eq_true (p:=((l.map enE).length:Int)=((m.map enE).length:Nat)) h];exact rfl
 ·rw[decide_eq_false (p:=((l.map enE).length:Int)=((m.map enE).length:Nat)) h];exact rfl
theorem P9 (n:PN)(r:RN)(f:n.log.length≤1000000):FnV Tryz.prog 33 [.agg (Zko n),.agg (Cl r)] fun g=>g=.v (.bool (S3 n r)):=by
 refine fnG Tryz.func33 ?_;unfold S3;refine df (fun(b:n.pmd=r.pmd)=>?_) fun(b:¬n.pmd=r.pmd)=>?_
 rotate_left
 ·rw[decide_eq_false b];exact rfl
 rw[decide_eq_true b];refine df (fun(d:n.normal=r.normal)=>?_) fun(d:¬n.normal=r.normal)=>?_
 rotate_left
 ·rw[decide_eq_false d];exact rfl
 rw[decide_eq_true d];refine df (fun(c:n.cmt=r.cmt)=>?_) fun(c:¬n.cmt=r.cmt)=>?_
 rotate_left
 ·rw[decide_eq_false c];exact rfl
 rw[decide_eq_true c];refine dk (fun a=>?_) fun a=>?_
 ·have a:(decide ((if n.lds=true then(1:Int) else 0) > 0)==decide (r.phase > 0))=true:=a;rw[a];refine(Zc1 n.log r.log f).cal fun q e=>?_;subst e;exact rfl
 ·have a:(decide ((if n.lds=true then(1:Int) else 0) > 0)==decide (r.phase > 0))=false:=a;rw[a];exact rfl
theorem Zi7 (l:List GM)(c:List RN)(way:List RPk)(i:Nat)(x:GM)(a:l[i]?=some x)(k:c[i]?=some x.r)(o:x.n.log.length≤1000000):FnO Tryz.prog 76 [.ptr 0 0,gI i] (cG l c way) fun g rs=>∃b,g=.v (.bool b)∧rs=cG l c way:=by
 have d:=(ac.1 a).1;have m:=(ac.1 k).1;refine Bq Tryz.func76 (A6 (O:=oGs l c way) (n0:=6) rfl) ?_;refine⟨⟨by omega,by rw[aa];omega⟩,?_⟩;refine dl (f:=pN) a ?_;refine⟨⟨by omega,by rw[aa];omega⟩,?_⟩;refine dl (f:=Cl) k ?_;refine(Z1v l i x a o).cal fun q rs j=>?_;obtain⟨rfl,rfl⟩:=j;refine(P9 x.n x.r o).cal fun q j=>?_;subst j;refine dk (fun _=>?_) fun h=>?_
 rotate_left
 ·exact .inl (A1 (oGs l c way) [] (by exact RL6) rfl ⟨_,rfl⟩ rfl rfl ⟨_,rfl,rfl⟩)
 refine⟨⟨by omega,by rw[aa];omega⟩,?_⟩;refine dl (f:=pN) a ?_;obtain⟨sh,n,b,e,r⟩:=x;refine dh (.take 5 i _ _ rfl (Eg a) (.lies 6 b _ rfl (G0 ⟨sh,n,b,e,r⟩) (.done (.raw 7 6 rfl (.same ((Z17 sh n b e).cal fun q rs j=>?_))))));obtain⟨rfl,rfl⟩:=j;refine .put 5 i 6 _ _ rfl (by rw[bh,aa];exact d) rfl (.drop 7 _ rfl (.done ?_));exact .inl (A1 (oGs l c way) [] ⟨RL1,RL1,RL1,RL1,RL1,⟨rfl,rfl,Ff (Fl (x:=⟨sh,n,b,e,r⟩) a)⟩,trivial⟩ rfl ⟨_,rfl⟩ rfl rfl ⟨_,rfl,rfl⟩)
theorem Zfu {k c:Nat}{y x:GM}(l:List GM)(f:List RN)(way:List RPk)(w:l[1]?=some x)(q:f[1]?=some x.r)(z:Mid k c y x)(m:way.length≤1000)(e:∀p∈way,OkP p):FnO Tryz.prog 75 [.ptr 0 0,gI 1] (cG l f way) fun g rs=>∃b j,g=.v (.bool b)∧rs=cG (l.set 1 (Hh x)) (f.set 1 (K9 x.r)) j∧Mid k c y (Hh x)∧(x.n.dead=false→b=true)∧j.length≤1000∧∀p∈j,OkP p:=by
 obtain⟨s,u,t,d⟩:=z;rcases d with⟨d,h5,h6⟩ | ⟨d,h5⟩
 ·have o:x.r.out=x.n.out:=h5.sim.out;refine(Zhp l f way 1 x w q o m (by rw[←o];have:=h6.1;omega)).mono fun g rs i=>⟨true,_,i.1,i.2,⟨s,u,t,.inl ⟨d,⟨⟨h5.sim.self,h5.sim.many,h5.sim.pmd,h5.sim.normal,h5.sim.log,h5.sim.cmt,rfl,h5.sim.phase,h5.sim.jns,h5.sim.aks⟩,h5.ni.snd [],h5.nj,⟨h5.sh.b,h5.sh.a⟩⟩,⟨ah _,nofun⟩⟩⟩,fun _=>rfl,G8 (by omega) _ m,Jb _ e (by rw[←o];exact h6.2)⟩
 ·refine(Zhl l f way 1 x w q h5.out).mono fun g rs ⟨b,i,hr⟩=>⟨b,_,i,hr,⟨s,u,t,.inr ⟨d,⟨h5.wd,h5.wait,rfl,h5.log,h5.got⟩⟩⟩,fun h=>de d (by rw[h];decide),m,e⟩
theorem Zf9 {k c:Nat}{y x:GM}(l:List GM)(d:List RN)(way:List RPk)(i:l[1]?=some x)(f:d[1]?=some x.r)(j:Mid k c y x):FnO Tryz.prog 76 [.ptr 0 0,gI 1] (cG l d way) fun g rs=>∃b,g=.v (.bool b)∧rs=cG l d way∧(x.n.dead=false→b=true):=by
 obtain⟨o,q,p,a⟩:=j;rcases a with⟨a,h5,h6⟩ | ⟨a,h5⟩
 ·have m:x.n.log.length≤150:=h5.ni.nv.ents.1;exact(Zev l d way 1 x i f h5.sim.uz a (by omega)).mono fun g rs e=>⟨true,e.1,e.2,fun _=>rfl⟩
 ·have m:=h5.log;exact(Zi7 l d way 1 x i f (by omega)).mono fun g rs ⟨b,e,hr⟩=>⟨b,e,hr,fun h=>de a (by rw[h];decide)⟩
theorem Z1n {k:Nat}{n:PN}{a b:Tri}(h:Left k n a b)(u:k≤900000000)(kp t:Int):∃X st,Btw a b X∧NT X∧Nd (Ef n.st.d kp t) ((1:Nat):Int) ((3:Nat):Int)=some (Da 1 3 X st)∧SL k (Da 1 3 X st)∧st.d.armed=0:=by
 obtain⟨m,hf,all,X,q,f,g,r,j,l⟩:=h.got kp t;have e:big=4611686018427387904:=rfl;have s:=S5 g (by omega) j;obtain⟨i,o⟩:=Wa h.wd g j;refine⟨X,_,q,f,?_,⟨i.up r,o,u,l⟩,rfl⟩;have c:(Ef n.st.d kp t).now.length=1100:=i.many;unfold Nd;rw[db,s]
 ·dsimp only;rw[l];dsimp only;rw[dc ⟨f.log,f.p.2.1,f.top⟩,az,az]
 ·rw[c];rintro(h | h | h | h)
  ·exact Mz (m:=3) (by omega) (by omega) h
  ·omega
  ·omega
  ·exact de h (by decide)
theorem Z12 {l:LD}(h:l.d.armed=0):zL l=l:=by obtain⟨a,b,c,d,e,f,g⟩:=l;obtain⟨x,y,z,u,v⟩:=g;obtain rfl:u=0:=h;rfl
theorem Z8k {k:Nat}{X:Tri}{st:LD}(b e:Nat){r:RN}(a:SL k (Da 1 3 X st))(ha:st.d.armed=0)(c:NT X)(hr:Ju r=X)(i:r.self=1)(l:r.many=3)(j:r.cmt=0)(g:r.phase=0)(m:r.out=[]):MA k ⟨true,Da 1 3 X st,b,e,r⟩:=by
 have f:zN (Da 1 3 X st)=Da 1 3 X st:=by show({Da 1 3 X st with st:=zL st}:PN)=_;rw[Z12 ha];rfl
 refine⟨?_,?_,Km g,⟨fun h=>(by cases h),fun _ _ h=>(by cases h)⟩⟩
 ·rw[f];exact Sim.fol i l (congrArg Prod.fst hr) (congrArg (fun x=>x.2.1) hr) (congrArg (fun x=>x.2.2) hr) j m g rfl
 ·rw[f];exact NI.fol ⟨a.ws,a.rl,a.kk,a.ld⟩ ha ⟨c.p,c.log,c.top⟩ rfl (by show 1 < 3;decide) (by show 3≤7;decide) ⟨br _,by show(0:Int)≤(X.2.2.length:Int);omega⟩ rfl rfl fun _=>ah _
theorem S2 {x y:REnt}:Qa x y=true↔x=y:=by unfold Qa;rw[←Z2z,Qc];obtain⟨a,b,c⟩:=x;obtain⟨e,d,f⟩:=y;simp[and_assoc]
theorem I6:∀{l m:List REnt},l <+: m→Cd l m=l.length
 | [],m,_=>by cases m<;>rfl
 | x::l,[],h=>by cases(List.prefix_nil.1 h)
 | x::l,y::m,h=>by obtain⟨rfl,a⟩:=List.cons_prefix_cons.1 h;show(if Qa x x=true then Cd l m+1 else 0)=_;rw[dc (S2.2 rfl),I6 a];rfl
theorem Og:∀{l m:List REnt},Cd l m=l.length→l <+: m
 | [],m,_=>List.nil_prefix
 | x::l,[],h=>by cases h
 | x::l,y::m,h=>by
  have h:(if Qa x y=true then Cd l m+1 else 0)=l.length+1:=h;split at h
  ·next e=>rw[S2.1 e];exact List.cons_prefix_cons.2 ⟨rfl,Og (by omega)⟩
  ·cases h
theorem Z0o {l m:List REnt}:Z0l l m=true↔l=m:=by
 unfold Z0l;rw[au,decide_eq_true_iff,decide_eq_true_iff,aa,aa];constructor
 ·rintro⟨a,h2⟩;exact List.IsPrefix.eq_of_length (Og (by omega)) (by omega)
 ·rintro rfl;exact⟨rfl,by rw[I6 (List.prefix_refl l)]⟩
theorem Ll {X:Tri}{st:LD}{r:RN}(d:r.cmt=0)(e:r.phase=0):S3 (Da 1 3 X st) r=true↔Ju r=X:=by
 obtain⟨p,q,l⟩:=X;unfold S3 Ju;rw[d,e,au,au,au,au,decide_eq_true_iff,decide_eq_true_iff,Z0o];constructor
 ·rintro⟨a,c,-,-,b⟩;have a:p=r.pmd:=a;have c:q=r.normal:=c;have b:l=r.log:=b;rw[a,c,b]
 ·intro h;injection h with a h;injection h with c b;exact⟨a.symm,c.symm,rfl,rfl,b.symm⟩
def Zi6 (a x b:RN):Bool:=decide (a.pmd=b.pmd)&&(decide (a.normal=b.normal)&&(decide (x.pmd=a.pmd)&&(decide (x.normal=a.normal)&&(decide (((x.log.map enE).length:Int) ≥ ((a.log.map enE).length:Nat))&&(decide (((Cd x.log b.log:Nat):Int)=((x.log.map enE).length:Nat))&&decide (((Cd a.log x.log:Nat):Int)=((a.log.map enE).length:Nat)))))))
theorem Zgq {a x b:RN}(d:a.pmd=b.pmd)(g:a.normal=b.normal)(e:x.pmd=a.pmd)(h:x.normal=a.normal)(c:a.log <+: x.log)(f:x.log <+: b.log):Zi6 a x b=true:=by unfold Zi6;have:=c.length_le;rw[decide_eq_true d,decide_eq_true g,decide_eq_true e,decide_eq_true h,decide_eq_true (by rw[aa,aa];omega),decide_eq_true (by rw[aa,I6 f]),decide_eq_true (by rw[aa,I6 c])];rfl
theorem Z9u {P:Program}{f:FuncId}{z:List G}{rs:List R}{Q:G→List R→Prop}(y:Ent P f)(h:Gh (fun own n=>Z0e P f own n (fun g own n=>g=.tup []∧∃j u,Z5v (List.range rs.length) own n g Q j u) z) (Bk rs 0) rs.length):FnO P f z rs Q :=
 ⟨y,fun I V w vs hH m q=>by
  obtain⟨B,N,O,t,p⟩:=Po h m hH;obtain⟨-,L⟩:=Ps t p.has rfl (q.mono fun _ _ h=>h.to_t.mono p.fro.mono p.va);refine L.mono fun e w' ⟨x,g,own2,I2,V2,y,⟨hs,j,u,hE⟩,o,hx⟩=>?_;have d:=p.trans o;have v:PRes I2 V2 g x:=by subst hs;obtain⟨cs,e,q⟩:=hx;exact⟨cs,e,by cases cs with | nil=>exact .nil | cons c cs=>exact de q.1 (by simp)⟩
  obtain⟨K,A,F,H,M,E,D⟩:=Pc hE o.has v V.s;have a:=d.fro;refine⟨x,u,j.map It.res,I2,K,y,hE.post,by simpa using A,F,H,⟨a.os,a.tape,a.output,a.size,a.blk,a.mono,fun i r b hi C d=>?_⟩,?_,fun i hi=>⟨?_,D i (by rw[List.length_range];omega)⟩⟩
  ·obtain⟨k,r',t,J⟩:=M i b C;exact a.foot k r' b t J d
  ·rw[A,m];obtain⟨l,o⟩:=hE.rts;have:=congrArg List.length o;simp at this;omega
  ·have hr:(List.range rs.length)[i]?=some i:=by rw[cq (by omega)]
   rw[(E i _ hr).1,(d.va.2 _ (by omega)).1]⟩
def Zd7 (n:PN)(k:Int):PN:={n with st:={n.st with d:=Zj7 n.st.d k}}
def Ib (x:GM)(k:Int):GM:=⟨x.s,Zd7 x.n k,x.b,x.e,x.r⟩
theorem Zi0 (d:RD)(k:Int):FnO Tryz.prog 35 [.ptr 0 0,gI k] (cD d) fun g rs=>g=.tup []∧rs=cD (Zj7 d k):=by refine Bq Tryz.func35 (A6 (O:=oDs d) (n0:=4) rfl) ?_;exact .inl (A1 (oDs (Zj7 d k)) [] (by exact RL4) rfl ⟨_,rfl⟩ rfl rfl ⟨rfl,rfl⟩)
theorem Zjj (l:List GM)(i:Nat)(x:GM)(f:l[i]?=some x)(k:Int):FnO Tryz.prog 35 [.v (.pointer (some ⟨x.e,0,none⟩)),gI k] [.fam (l.map mOb)] fun g rs=>g=.tup []∧rs=[.fam ((l.set i (Ib x k)).map mOb)]:=by
 have a:=(ac.1 f).1;have hf:=E2 l i (Ib x k);obtain⟨s,n,b,e,r⟩:=x;cases s
 ·refine Z9u ⟨_,Tryz.func35,by kernel_rfl,by kernel_rfl⟩ (.take 0 i _ (cl (oBs n b e)) rfl (Eg f) (.opn 1 _ _ _ rfl rfl rfl (.opn 2 _ _ _ rfl rfl rfl (.done (.raw 8 6 rfl (.same ((Zi0 n.st.d k).cal fun q rs c=>?_)))))));obtain⟨rfl,rfl⟩:=c;refine .close (oLs (Zd7 n k).st e) [(0,2),(1,6),(2,7),(3,8)] (by exact RL4) ⟨_,rfl⟩ rfl (.close (oBs (Zd7 n k) b e) [(0,1),(1,2),(2,3),(3,4),(4,5)] (by exact RL5) ⟨_,rfl⟩ rfl (.put 0 i 1 _ _ rfl (by rw[bh,aa];exact a) rfl (.done ⟨rfl,[⟨[(0,.fam (((l.map mOb).set i T5).set i (cl (oBs (Zd7 n k) b e))))],[(0,0)],false⟩],.tup [],⟨⟨⟨_,rfl,rfl,rfl⟩,trivial⟩,rfl,⟨[],rfl⟩,rfl,rfl,⟨rfl,?_⟩⟩⟩)));exact congrArg (fun q=>[R.fam q]) hf
 ·refine Z9u ⟨_,Tryz.func35,by kernel_rfl,by kernel_rfl⟩ (.take 0 i _ (cl (oAs n b e)) rfl (Eg f) (.opn 1 _ _ _ rfl rfl rfl (.opn 2 _ _ _ rfl rfl rfl (.done (.raw 8 6 rfl (.same ((Zi0 n.st.d k).cal fun q rs c=>?_)))))));obtain⟨rfl,rfl⟩:=c;refine .close (oLs (Zd7 n k).st e) [(0,2),(1,6),(2,7),(3,8)] (by exact RL4) ⟨_,rfl⟩ rfl (.close (oAs (Zd7 n k) b e) [(0,1),(1,2),(2,3),(3,4),(4,5)] (by exact RL5) ⟨_,rfl⟩ rfl (.put 0 i 1 _ _ rfl (by rw[bh,aa];exact a) rfl (.done ⟨rfl,[⟨[(0,.fam (((l.map mOb).set i T5).set i (cl (oAs (Zd7 n k) b e))))],[(0,0)],false⟩],.tup [],⟨⟨⟨_,rfl,rfl,rfl⟩,trivial⟩,rfl,⟨[],rfl⟩,rfl,rfl,⟨rfl,?_⟩⟩⟩)));exact congrArg (fun q=>[R.fam q]) hf
theorem Zfr (l:List GM)(i:Nat)(x:GM)(c:l[i]?=some x):FnO Tryz.prog 37 [.v (.pointer (some ⟨x.b,0,none⟩))] [.fam (l.map mOb)] fun g rs=>g=.v (.bool x.n.dead)∧rs=[.fam (l.map mOb)]:=by have a:=(ac.1 c).1;obtain⟨s,n,b,e,r⟩:=x;refine Zhg ⟨_,Tryz.func37,by kernel_rfl,by kernel_rfl⟩ (.take 0 i _ _ rfl (Eg c) (.lies 1 b _ rfl (G0 ⟨s,n,b,e,r⟩) (.done (.raw 2 1 rfl (.same ((Z17 s n b e).cal fun q rs d=>?_))))));obtain⟨rfl,rfl⟩:=d;refine .put 0 i 1 _ _ rfl (by rw[bh,aa];exact a) rfl (.drop 2 _ rfl (.done ⟨rfl,[⟨[(0,.fam (((l.map mOb).set i T5).set i (cl (oSs s n b e))))],[(0,0)],false⟩],.v (.bool n.dead),⟨⟨⟨_,rfl,rfl,rfl⟩,trivial⟩,rfl,⟨[],rfl⟩,rfl,rfl,⟨rfl,?_⟩⟩⟩));exact congrArg (fun q=>[R.fam q]) (Fl c)
theorem Zfc {k:Nat}{x:GM}(h:MA k x){a:Int}(ha:a≤9223372036854775807):MA k (Ib x a)∧NA k (Ib x a).n :=
 ⟨⟨h.sim,h.ni,h.nj,⟨h.sh.b,h.sh.a⟩⟩,⟨h.ni,⟨by show 0≤max a 0;omega,by show max a 0≤_;omega⟩⟩⟩
def Zfk (k c:Nat)(l:List GM)(y:GM)(g:G)(rs:List R):Prop:=∃b x w,g=.v (.bool b)∧rs=cG (l.set 1 x) ((l.map GM.r).set 1 x.r) w∧Mid k c y x∧(x.n.dead=false→b=true∧x.r.out=[])∧w.length≤1000∧∀p∈w,OkP p
theorem Rx {k c:Nat}{l:List GM}{w:List RPk}{y o x:GM}(hy:l[1]?=some o)(t:Mid k c y x)(m:w.length≤1000)(s:∀p∈w,OkP p) :
  FnO Tryz.prog 75 [.ptr 0 0,gI 1] (cG (l.set 1 x) ((l.map GM.r).set 1 x.r) w) (fun g rs=>∃b e d,g=.v (.bool b)∧rs=cG (l.set 1 e) ((l.map GM.r).set 1 e.r) d∧(e.n.dead=false→b=true∧e.r.out=[])∧Mid k c y e∧d.length≤1000∧(∀p∈d,OkP p) ∧
   FnO Tryz.prog 76 [.ptr 0 0,gI 1] (cG (l.set 1 e) ((l.map GM.r).set 1 e.r) d) (fun g rs=>Zfk k c l y g rs)):=by
 have a:=(ac.1 hy).1;have q:(l.set 1 x)[1]?=some x:=c7 a;have j:((l.map GM.r).set 1 x.r)[1]?=some x.r:=c7 (by rw[aa];exact a);refine(Zfu (l.set 1 x) ((l.map GM.r).set 1 x.r) w q j t m s).mono fun g rs ⟨b,d,hg,hr,hM,hb,w1,w3⟩=>?_;rw[List.set_set,List.set_set] at hr;have f:(l.set 1 (Hh x))[1]?=some (Hh x):=c7 a;have i:((l.map GM.r).set 1 (K9 x.r))[1]?=some (Hh x).r:=c7 (by rw[aa];exact a);refine⟨b,Hh x,d,hg,hr,fun h=>⟨hb h,rfl⟩,hM,w1,w3,(Zf9 (l.set 1 (Hh x)) ((l.map GM.r).set 1 (K9 x.r)) d f i hM).mono fun g rs ⟨b2,hg2,hr2,hb2⟩=>⟨b2,Hh x,d,hg2,hr2,hM,fun h=>⟨hb2 h,rfl⟩,w1,w3⟩⟩
structure TC (k c:Nat)(l:List GM)(y:GM)(w:List RPk):Prop where
 len:l.length=3
 hy:l[1]?=some y
 ma:MA k y
 na:NA k y.n
 self:y.n.self=1
 many:y.n.many=3
 out:y.r.out=[]
 hd:y.r.hrd.length≤c
 way:w.length≤1000
 ok:∀p∈w,OkP p
theorem TC.rb {k c:Nat}{l:List GM}{y:GM}{w:List RPk}(h:TC k c l y w)(f:c≤900000):RB y.r:=by have d:MOk k ⟨y.s,zN y.n,y.b,y.e,y.r⟩:=⟨h.ma.sim,h.ma.ni,h.ma.nj,⟨h.ma.sh.b,h.ma.sh.a⟩⟩;exact d.rb h.out (ca h.hd f)
theorem Rn {k k' c:Nat}{l:List GM}{y:GM}{w:List RPk}(h:TC k c l y w){x:GM}(a:x.r.self=y.r.self∧x.r.many=y.r.many)(b:HB y.r x.r)(ha:x.n.dead=false→MA k' x∧OB 100 x.r)(hd:x.n.dead=true→Left k' x.n (Nc y.n) (Ju x.r)):Mid k' (c+1) y x:=by
 have d:=h.hd;refine⟨by unfold HB at b;omega,?_,?_,?_⟩
 ·rw[a.1,h.ma.sim.self];show(y.n.self:Int)=1;rw[h.self];rfl
 ·rw[a.2,h.ma.sim.many];show(y.n.many:Int)=3;rw[h.many];rfl
 ·cases e:x.n.dead with
  | false=>exact .inl ⟨rfl,ha e⟩
  | true=>exact .inr ⟨rfl,hd e⟩
theorem Z3l {k k' c:Nat}{l:List GM}{y:GM}{w:List RPk}(h:TC k c l y w)(b:k≤k')(a:k'≤900000000):Mid k' (c+1) y y :=
 Rn h ⟨rfl,rfl⟩ (.same rfl) (fun _=>⟨⟨h.ma.sim,h.ma.ni.up b a,h.ma.nj,h.ma.sh⟩,by rw[h.out];exact ah _,by rw[h.out];nofun⟩) fun hd=>de (show y.n.dead=false from h.ma.ni.dead) (by rw[hd];decide)
theorem Z62 {k c:Nat}{l:List GM}{s m b e r w}(h:TC k c l ⟨s,m,b,e,r⟩ w)(j:k+150≤900000000)(q:RPk)(i:Bool)(t:ShN i (Dd m q)):Mid (k+150) (c+1) ⟨s,m,b,e,r⟩ (Ia ⟨s,m,b,e,r⟩ i q):=by have hi:=h.ma.ni;have f:=h.ma.nj;refine Rn h (Me r q) (Zcb r q) (fun hd=>?_) fun hd=>take_left h.ma.sim h.na j f hd;have o:=Zf6 (n:=m) (p:=q) hd;obtain⟨a,d⟩:=Xs h.ma.sim hi j f q;rw[o] at a d;have g:=Z3h (c:=0) (n:=r) ⟨by have:=h.out;dsimp only at this;rw[this];exact af _,by have:=h.out;dsimp only at this;rw[this];nofun⟩ (k:=3) (by rw[h.ma.sim.many];show(m.many:Int)=_;rw[show m.many=3 from h.many]) q;exact⟨⟨a,d,Z34 f q,t⟩,g.up (by omega)⟩
theorem Z7v {k c:Nat}{l:List GM}{s m b e r w}(h:TC k c l ⟨s,m,b,e,r⟩ w)(o:k+150≤900000000)(v:Int)(g:Bool)(p:ShN g (C3 m v).1):Mid (k+150) (c+1) ⟨s,m,b,e,r⟩ ⟨g,(C3 m v).1,b,e,(Cx r v).1⟩:=by have hi:=h.ma.ni;refine Rn h (Z1p r v) (Zby r v) (fun hd=>?_) fun hd=>(Z3z h.ma.sim h.na h.many hd).mono (by omega) fun x q=>q;have j:=Zgv (n:=m) (v:=v) hd;obtain⟨t,a,d⟩:=P3 h.ma.sim hi (by omega) v;rw[j] at a d;have i:r.out=[]:=h.out;have f:=Z28 (c:=0) (n:=r) ⟨by rw[i];exact af _,by rw[i];nofun⟩ (k:=3) (by rw[h.ma.sim.many];show(m.many:Int)=_;rw[show m.many=3 from h.many]) v;exact⟨⟨a,d.up (by omega) o,Z27 h.ma.nj v,p⟩,f.up (by omega)⟩
theorem Z59 {k c:Nat}{l:List GM}{s m b e r w}(h:TC k c l ⟨s,m,b,e,r⟩ w)(o:k+150≤900000000)(t:ByteArray):Mid (k+150) (c+1) ⟨s,m,b,e,r⟩ (Qm ⟨s,m,b,e,r⟩ t):=by have hi:=h.ma.ni;refine Rn h (Kk r t) (Z6v r t) (fun hd=>?_) fun hd=>(Zm h.ma.sim h.na hd).mono (by omega) fun x p=>p;have j:=Zdr (n:=m) (s:=t) hd;obtain⟨q,a,d⟩:=M1 h.ma.sim hi (by omega) t;have g:=Vi (sh:=s) hi ⟨h.ma.sh.b,h.ma.sh.a⟩ t;rw[j] at a d g;have i:r.out=[]:=h.out;have f:=We (c:=0) (n:=r) ⟨by rw[i];exact af _,by rw[i];nofun⟩ (k:=3) (by rw[h.ma.sim.many];show(m.many:Int)=_;rw[show m.many=3 from h.many]) t;exact⟨⟨a,d.up (by omega) o,Y9 h.ma.nj t,⟨g.b,g.a⟩⟩,f.up (by omega)⟩
theorem Z1c {k c:Nat}{l:List GM}{s m b e r w}(h:TC k c l ⟨s,m,b,e,r⟩ w)(j:k+150≤900000000):Mid (k+150) (c+1) ⟨s,m,b,e,r⟩ ⟨s,Bv m,b,e,Do r⟩:=by
 have hi:=h.ma.ni;refine Rn h (Z2 r) (Z7w r) (fun hd=>?_) fun hd=>?_
 rotate_left
 ·have g:(Bv m).dead=true:=hd;rw[Ys,show m.dead=false from hi.dead] at g;cases g
 obtain⟨a,d⟩:=Z4n h.ma.sim hi;have o:=Z8d (n:=m) h.ma.sh;rw[Zc2] at a d;have i:r.out=[]:=h.out;have f:=Z95 (c:=0) (n:=r) ⟨by rw[i];exact af _,by rw[i];nofun⟩ (k:=3) (by rw[h.ma.sim.many];show(m.many:Int)=_;rw[show m.many=3 from h.many]);exact⟨⟨a,d.up (by omega) j,Z87 h.ma.nj,o⟩,f.up (by omega)⟩
theorem Z9o (n:PN)(v:Int):(C3 n v).2=!decide (n.dead=true∨v≤n.pmd∨A8 v n.many≠n.self):=by
 unfold C3;by_cases h:n.dead=true∨v≤n.pmd∨A8 v n.many≠n.self
 ·rw[dc h,decide_eq_true h];rfl
 ·rw[db h,decide_eq_false h];split<;>rfl
theorem Z4s (n:PN)(s:ByteArray):(Bc n s).2=!decide (n.dead=true∨n.std=false∨n.log.length ≥ 150∨s.size > 200):=by
 unfold Bc;by_cases h:n.dead=true∨n.std=false∨n.log.length ≥ 150∨s.size > 200
 ·rw[dc h,decide_eq_true h];rfl
 ·rw[db h,decide_eq_false h];split<;>rfl
set_option maxHeartbeats 8000000 in
theorem Zb5 (k c:Nat)(l:List GM)(y:GM)(way:List RPk)(kd n:Int)(body:ByteArray)(A z:Int)(w:ByteArray)(h:TC k c l y way)(hkd:kd=7∨kd≤2)(Q:w.size≤2000000)(P:k+150≤900000000)(hc:c≤900000) :
  FnO Tryz.prog 34 [.ptr 0 0,.agg [gI kd,gI 1,gI n,.v (.string body),gI A,gI z,.v (.string w)]] (cG l (l.map GM.r) way) (Zfk (k+150) (c+1) l y):=by
 have hlm:=h.len;have lenL:(l.map GM.r).length=l.length:=aa ..;have N:=h.way;have D:=h.ok;have hy:=h.hy;have t:=h.rb hc;have j:(l.map GM.r)[1]?=some y.r:=by rw[aj,hy];rfl
 have u:y.n.out.length≤700000:=by have:=h.ma.sim.out;rw[←show y.r.out=y.n.out from this,h.out];exact ah _
 have m:y.n.dead=false:=h.ma.ni.dead;refine Bq Tryz.func34 (A6 (O:=oGs l (l.map GM.r) way) (n0:=6) rfl) ?_;refine dg (fun(h3:kd ≥ 3)=>?_) fun(h3:¬kd ≥ 3)=>?_
 ·refine dj (fun(h6:kd≠6)=>?_) fun(h6:kd=6)=>(by omega);have h7:kd=7:=by omega
  have V:=Z39 l (l.map GM.r) way kd 1 n body A z w N;have T:Z03 way ⟨kd,1,n,body,⟨A,z,w⟩⟩=(1,⟨A,z,w⟩,true,way):=by unfold Z03;rw[dc h7]
  rw[T] at V;dsimp only at V;refine dh (.close (oGs l (l.map GM.r) way) [] (by exact RL6) ⟨_,rfl⟩ rfl (.done (.same (V.cal fun q rs a=>?_))));obtain⟨rfl,rfl⟩:=a;refine .opn 0 _ _ _ rfl rfl rfl (.done ?_);refine dk (fun g=>(by cases g)) fun _=>?_;refine dg (fun(h1:(1:Int) < 0)=>de h1 (by decide)) fun _=>?_;refine dg (fun R=>?_) fun R=>?_
  ·have R:(1:Int) ≥ ((l.map pN).length:Nat):=R;rw[aa] at R;omega
  refine⟨⟨by omega,by rw[aa];omega⟩,?_⟩;refine dl (f:=pN) (i:=1) hy ?_;obtain⟨s,d,b,e,r⟩:=y;dsimp only at u j t m;refine dh (.take 11 1 _ _ rfl (Eg hy) (.lies 13 b _ rfl (G0 ⟨s,d,b,e,r⟩) (.done (.raw 14 13 rfl (.same ((Z9x _ s d b e ⟨A,z,w⟩ (fun _=>h.na.wn u) (fun _=>h.ma.sh) Q).cal fun q rs a=>?_))))));obtain⟨rfl,C,rfl,M⟩:=a;refine .put 11 1 13 _ _ rfl (by rw[bh,aa];omega) rfl (.drop 14 _ rfl (.done ?_));refine⟨⟨by omega,by rw[aa,aa];omega⟩,?_⟩;refine dl (f:=Cl) (i:=1) j ?_;refine(Zg5 r ⟨A,z,w⟩ t Q).cal fun q a=>?_;subst a;refine⟨⟨by omega,by rw[aa,aa];omega⟩,?_⟩;refine dn (f:=Cl) (i:=1) (y:=Dw r ⟨A,z,w⟩) j (fun q a=>a) rfl ?_;have E:=Rx (x:=Ia ⟨s,d,b,e,r⟩ C ⟨A,z,w⟩) hy (Z62 h P ⟨A,z,w⟩ C (M m)) N D;refine dh (.close (oGs (l.set 1 (Ia ⟨s,d,b,e,r⟩ C ⟨A,z,w⟩)) ((l.map GM.r).set 1 (Dw r ⟨A,z,w⟩)) way) [(1,7),(2,8),(3,9),(4,10),(5,11)] ⟨RL1,⟨rfl,rfl,eqR (H1 (y:=Ia ⟨s,d,b,e,r⟩ C ⟨A,z,w⟩) hy rfl).symm⟩,⟨rfl,rfl,eqR (Gy (y:=Ia ⟨s,d,b,e,r⟩ C ⟨A,z,w⟩) hy rfl).symm⟩,RL1,RL1,⟨rfl,rfl,Ff (E2 l 1 (Ia ⟨s,d,b,e,r⟩ C ⟨A,z,w⟩))⟩,trivial⟩ ⟨_,rfl⟩ rfl (.done (.same (E.cal fun q rs a=>?_))));obtain⟨b1,J,B,rfl,rfl,p,o,G,L,H⟩:=a;refine .done ?_;refine dk (fun _=>?_) fun g=>?_
  ·refine dh (.done (.same (H.cal fun q rs a=>?_)));obtain⟨I,K,F,rfl,rfl,a⟩:=a;exact .done (.inl (A7 rfl rfl ⟨I,K,F,rfl,rfl,a⟩))
  ·have g:b1=false:=g;subst g;exact .inl (A7 rfl rfl ⟨false,J,B,rfl,rfl,o,p,G,L⟩)
 ·refine dg (fun(w1:(1:Int) < 0)=>de w1 (by decide)) fun _=>?_;refine dg (fun B=>?_) fun B=>?_
  ·have B:(1:Int) ≥ ((l.map pN).length:Nat):=B;rw[aa] at B;omega
  have S:=Z3l (y:=y) h (k':=k+150) (by omega) P;refine df (fun(k0:kd=0)=>?_) fun(k0:kd≠0)=>?_
  ·subst k0;have hN:=Zfy l (l.map GM.r) way 0 1 n body A z w 1 y hy rfl;generalize (if n≠0 then n else Le y.n.pmd 1 l.length)=v at hN;refine dh (.close (oGs l (l.map GM.r) way) [] (by exact RL6) ⟨_,rfl⟩ rfl (.done (.same (hN.cal fun q rs a=>?_))));obtain⟨rfl,rfl⟩:=a;refine .opn 0 _ _ _ rfl rfl rfl (.done ?_);refine⟨⟨by omega,by rw[aa];omega⟩,?_⟩;refine dl (f:=pN) (i:=1) hy ?_;obtain⟨s,d,b,e,r⟩:=y;dsimp only at u j t m;have U:(C3 d v).2=(Cx r v).2:=(Z9o d v).trans ((Z9o (zN d) v).symm.trans (P3 h.ma.sim h.ma.ni (by omega) v).1);refine dh (.take 11 1 _ _ rfl (Eg hy) (.lies 12 b _ rfl (G0 ⟨s,d,b,e,r⟩) (.done (.raw 13 12 rfl (.same ((Zgd s d b e k (fun _=>h.na.wn u) v).cal fun q rs a=>?_))))));obtain⟨rfl,C,rfl,M⟩:=a;refine .put 11 1 12 _ _ rfl (by rw[bh,aa];omega) rfl (.drop 13 _ rfl (.done ?_));refine⟨⟨by omega,by rw[aa,aa];omega⟩,?_⟩;refine dl (f:=Cl) (i:=1) j ?_;refine(Zh3 r v t).cal fun q a=>?_;subst a;refine⟨⟨by omega,by rw[aa,aa];omega⟩,?_⟩;refine dn (f:=Cl) (i:=1) (y:=(Cx r v).1) j (fun q a=>a) rfl ?_;refine Z68 (c:=true) (by rw[U];exact beq_self_eq_true _) ?_;have E:=Rx (x:=⟨C,(C3 d v).1,b,e,(Cx r v).1⟩) hy (Z7v h P v C (M h.ma.sh)) N D;refine dh (.close (oGs (l.set 1 ⟨C,(C3 d v).1,b,e,(Cx r v).1⟩) ((l.map GM.r).set 1 (Cx r v).1) way) [(1,7),(2,8),(3,9),(4,10),(5,11)] ⟨RL1,⟨rfl,rfl,eqR (H1 (y:=⟨C,(C3 d v).1,b,e,(Cx r v).1⟩) hy rfl).symm⟩,⟨rfl,rfl,eqR (Gy (y:=⟨C,(C3 d v).1,b,e,(Cx r v).1⟩) hy rfl).symm⟩,RL1,RL1,⟨rfl,rfl,Ff (E2 l 1 ⟨C,(C3 d v).1,b,e,(Cx r v).1⟩)⟩,trivial⟩ ⟨_,rfl⟩ rfl (.done (.same (E.cal fun q rs a=>?_))));obtain⟨b1,J,B,rfl,rfl,p,o,G,L,H⟩:=a;refine .done ?_;refine dk (fun _=>?_) fun g=>?_
   ·refine dh (.done (.same (H.cal fun q rs a=>?_)));obtain⟨I,K,F,rfl,rfl,a⟩:=a;exact .done (.inl (A7 rfl rfl ⟨I,K,F,rfl,rfl,a⟩))
   ·have g:b1=false:=g;subst g;exact .inl (A7 rfl rfl ⟨false,J,B,rfl,rfl,o,p,G,L⟩)
  refine df (fun(X:kd=1)=>?_) fun(X:kd≠1)=>?_
  ·subst X;refine⟨⟨by omega,by rw[aa];omega⟩,?_⟩;refine dl (f:=pN) (i:=1) hy ?_;obtain⟨s,d,b,e,r⟩:=y;dsimp only at u j t m;have U:(Bc d body).2=(Bd r body).2:=(Z4s d body).trans ((Z4s (zN d) body).symm.trans (M1 h.ma.sim h.ma.ni (by omega) body).1);refine dh (.take 5 1 _ _ rfl (Eg hy) (.lies 7 b _ rfl (G0 ⟨s,d,b,e,r⟩) (.done (.raw 8 7 rfl (.same ((Zcy s d b e (fun _=>(h.na.wn u).nb) h.ma.sh body).cal fun q rs a=>?_))))));obtain⟨rfl,rfl⟩:=a;refine .put 5 1 7 _ _ rfl (by rw[bh,aa];omega) rfl (.drop 8 _ rfl (.done ?_));refine⟨⟨by omega,by rw[aa,aa];omega⟩,?_⟩;refine dl (f:=Cl) (i:=1) j ?_;refine(Zbu r body t).cal fun q a=>?_;subst a;refine⟨⟨by omega,by rw[aa,aa];omega⟩,?_⟩;refine dn (f:=Cl) (i:=1) (y:=(Bd r body).1) j (fun q a=>a) rfl ?_;refine Z68 (c:=true) (by rw[U];exact beq_self_eq_true _) ?_;have E:=Rx (x:=Qm ⟨s,d,b,e,r⟩ body) hy (Z59 h P body) N D;refine dh (.close (oGs (l.set 1 (Qm ⟨s,d,b,e,r⟩ body)) ((l.map GM.r).set 1 (Bd r body).1) way) [] ⟨RL1,⟨rfl,rfl,eqR (H1 (y:=(Qm ⟨s,d,b,e,r⟩ body)) hy rfl).symm⟩,⟨rfl,rfl,eqR (Gy (y:=(Qm ⟨s,d,b,e,r⟩ body)) hy rfl).symm⟩,RL1,RL1,⟨rfl,rfl,Ff (E2 l 1 (Qm ⟨s,d,b,e,r⟩ body))⟩,trivial⟩ ⟨_,rfl⟩ rfl (.done (.same (E.cal fun q rs a=>?_))));obtain⟨b1,J,B,rfl,rfl,p,o,G,L,H⟩:=a;refine .done ?_;refine dk (fun _=>?_) fun g=>?_
   ·refine dh (.done (.same (H.cal fun q rs a=>?_)));obtain⟨I,K,F,rfl,rfl,a⟩:=a;exact .done (.inl (A7 rfl rfl ⟨I,K,F,rfl,rfl,a⟩))
   ·have g:b1=false:=g;subst g;exact .inl (A7 rfl rfl ⟨false,J,B,rfl,rfl,o,p,G,L⟩)
  refine df (fun(Z:kd=2)=>?_) fun(Z:kd≠2)=>?_
  ·subst Z;refine⟨⟨by omega,by rw[aa];omega⟩,?_⟩;refine dl (f:=pN) (i:=1) hy ?_;obtain⟨s,d,b,e,r⟩:=y;dsimp only at u j t m;have W:d.log.length≤150:=h.ma.ni.nv.ents.1;refine dh (.take 5 1 _ _ rfl (Eg hy) (.lies 7 b _ rfl (G0 ⟨s,d,b,e,r⟩) (.done (.raw 8 7 rfl (.same ((Zdi s d b e h.ma.sh h.ma.ni.m7 (by omega) u (fun g=>⟨(h.ma.ni.st g).2.2.1,(h.ma.ni.st g).2.2.2.1⟩)).cal fun q rs a=>?_))))));obtain⟨rfl,rfl⟩:=a;refine .put 5 1 7 _ _ rfl (by rw[bh,aa];omega) rfl (.drop 8 _ rfl (.done ?_));refine⟨⟨by omega,by rw[aa,aa];omega⟩,?_⟩;refine dl (f:=Cl) (i:=1) j ?_;refine(Zdf r t).cal fun q a=>?_;subst a;refine⟨⟨by omega,by rw[aa,aa];omega⟩,?_⟩;refine dn (f:=Cl) (i:=1) (y:=Do r) j (fun q a=>a) rfl ?_;refine dk (fun _=>?_) fun g=>(by cases g);have E:=Rx (x:=⟨s,Bv d,b,e,Do r⟩) hy (Z1c h P) N D;refine dh (.close (oGs (l.set 1 ⟨s,Bv d,b,e,Do r⟩) ((l.map GM.r).set 1 (Do r)) way) [] ⟨RL1,⟨rfl,rfl,eqR (H1 (y:=⟨s,Bv d,b,e,Do r⟩) hy rfl).symm⟩,⟨rfl,rfl,eqR (Gy (y:=⟨s,Bv d,b,e,Do r⟩) hy rfl).symm⟩,RL1,RL1,⟨rfl,rfl,Ff (E2 l 1 ⟨s,Bv d,b,e,Do r⟩)⟩,trivial⟩ ⟨_,rfl⟩ rfl (.done (.same (E.cal fun q rs a=>?_))));obtain⟨b1,J,B,rfl,rfl,p,o,G,L,H⟩:=a;refine .done ?_;refine dk (fun _=>?_) fun g=>?_
   ·refine dh (.done (.same (H.cal fun q rs a=>?_)));obtain⟨I,K,F,rfl,rfl,a⟩:=a;exact .done (.inl (A7 rfl rfl ⟨I,K,F,rfl,rfl,a⟩))
   ·have g:b1=false:=g;subst g;exact .inl (A7 rfl rfl ⟨false,J,B,rfl,rfl,o,p,G,L⟩)
  refine df (fun(Y:kd=6)=>de Y (by omega)) fun(Y:kd≠6)=>?_;have E:=Rx (x:=y) hy S N D;rw[Z26 hy,Z26 j] at E;refine dk (fun _=>?_) fun g=>(by cases g);refine dh (.close (oGs l (l.map GM.r) way) [] (by exact RL6) ⟨_,rfl⟩ rfl (.done (.same (E.cal fun q rs a=>?_))));obtain⟨b1,J,B,rfl,rfl,p,o,G,L,H⟩:=a;refine .done ?_;refine dk (fun _=>?_) fun g=>?_
  ·refine dh (.done (.same (H.cal fun q rs a=>?_)));obtain⟨I,K,F,rfl,rfl,a⟩:=a;exact .done (.inl (A7 rfl rfl ⟨I,K,F,rfl,rfl,a⟩))
  ·have g:b1=false:=g;subst g;exact .inl (A7 rfl rfl ⟨false,J,B,rfl,rfl,o,p,G,L⟩)
theorem Z0a (a x b:RN)(k:x.log.length≤1000000)(ha:a.log.length≤1000000):FnV Tryz.prog 40 [.agg (Cl a),.agg (Cl x),.agg (Cl b)] fun g=>g=.v (.bool (Zi6 a x b)):=by
 refine fnG Tryz.func40 ?_;unfold Zi6;refine df (fun(e:a.pmd=b.pmd)=>?_) fun(e:¬a.pmd=b.pmd)=>?_
 rotate_left
 ·rw[decide_eq_false e];exact rfl
 rw[decide_eq_true e];refine df (fun(c:a.normal=b.normal)=>?_) fun(c:¬a.normal=b.normal)=>?_
 rotate_left
 ·rw[decide_eq_false c];exact rfl
 rw[decide_eq_true c];refine df (fun(h:x.pmd=a.pmd)=>?_) fun(h:¬x.pmd=a.pmd)=>?_
 rotate_left
 ·rw[decide_eq_false h];exact rfl
 rw[decide_eq_true h];refine df (fun(j:x.normal=a.normal)=>?_) fun(j:¬x.normal=a.normal)=>?_
 rotate_left
 ·rw[decide_eq_false j];exact rfl
 rw[decide_eq_true j];refine dg (fun f=>?_) fun f=>?_
 rotate_left
 ·rw[decide_eq_false (p:=((x.log.map enE).length:Int) ≥ ((a.log.map enE).length:Nat)) f];exact rfl
 rw[decide_eq_true (p:=((x.log.map enE).length:Int) ≥ ((a.log.map enE).length:Nat)) f];refine(J3 x.log b.log k).cal fun q d=>?_;subst d;refine df (fun i=>?_) fun i=>?_
 rotate_left
 ·rw[decide_eq_false (p:=((Cd x.log b.log:Nat):Int)=((x.log.map enE).length:Nat)) i];exact rfl
 rw[decide_eq_true (p:=((Cd x.log b.log:Nat):Int)=((x.log.map enE).length:Nat)) i];refine(J3 a.log x.log ha).cal fun q d=>?_;subst d;exact rfl
abbrev Zib (p:Int × Int × Int):List G:=[gI p.1,gI p.2.1,gI p.2.2]
structure GC (k c:Nat)(l:List GM)(y:GM)(w:List RPk):Prop where
 len:l.length=3
 hy:l[1]?=some y
 ma:MA k y
 self:y.n.self=1
 many:y.n.many=3
 out:y.r.out=[]
 hd:y.r.hrd.length≤c
 way:w.length≤1000
 ok:∀p∈w,OkP p
theorem MOk.ma {k:Nat}{x:GM}(h:MOk k x):MA k x:=by
 have e:zN x.n=x.n:=by show({x.n with st:=zL x.n.st}:PN)=x.n;rw[Z12 h.ni.arm]
 exact⟨by rw[e];exact h.sim,by rw[e];exact h.ni,h.nj,h.sh⟩
theorem GC.up {k k' c a:Nat}{l:List GM}{y:GM}{w:List RPk}(h:GC k c l y w)(d:k≤k')(e:c≤a)(b:k'≤900000000):GC k' a l y w :=
 ⟨h.len,h.hy,⟨h.ma.sim,h.ma.ni.up d b,h.ma.nj,h.ma.sh⟩,h.self,h.many,h.out,ca h.hd e,h.way,h.ok⟩
theorem GC.tc {k c:Nat}{l:List GM}{y:GM}{w:List RPk}(h:GC k c l y w){a:Int}(ha:a≤9223372036854775807):TC k c (l.set 1 (Ib y a)) (Ib y a) w:=by have b:=(ac.1 h.hy).1;obtain⟨a1,a2⟩:=Zfc h.ma ha;exact⟨by rw[bh];exact h.len,c7 b,a1,a2,h.self,h.many,h.out,h.hd,h.way,h.ok⟩
theorem Zju {l:List GM}{y:GM}(h:l[1]?=some y)(a:Int):(l.set 1 (Ib y a)).map GM.r=l.map GM.r:=by rw[List.map_set];exact Z26 (by rw[aj,h];rfl)
theorem Z1d {k c:Nat}{L:List GM}{w:List RPk}(j:L.length=3){X:Tri}{st:LD}(b e:Nat){r:RN}(q:SL k (Da 1 3 X st))(ha:st.d.armed=0)(o:NT X)(hr:Ju r=X)(i:r.self=1)(n:r.many=3)(m:r.cmt=0)(h:r.phase=0)(f:r.out=[])(l:r.hrd=[])(g:w.length≤1000)(a:∀p∈w,OkP p):GC k c (L.set 1 ⟨true,Da 1 3 X st,b,e,r⟩) ⟨true,Da 1 3 X st,b,e,r⟩ w :=
 ⟨by rw[bh];exact j,c7 (by omega),Z8k b e q ha o hr i n m h f,rfl,rfl,f,by show r.hrd.length≤c;rw[l];exact ah _,g,a⟩
theorem Zbm {β:Type}{f:GM→β}(hf:∀s n b e r r',f ⟨s,n,b,e,r⟩=f ⟨s,n,b,e,r'⟩)(L:List GM)(i:Nat)(s:Bool)(n:PN)(b e:Nat)(r r':RN):(L.set i ⟨s,n,b,e,r⟩).map f=(L.set i ⟨s,n,b,e,r'⟩).map f:=by rw[List.map_set,List.map_set,hf s n b e r r']
set_option maxHeartbeats 8000000 in
theorem Rq (P:List GSt)(pk:List (Int × Int × Int))(hsc:∀s∈P,s.p.body.size≤2000000)(hpk:∀p∈pk,p.2.2≤9223372036854775807):FnV Tryz.prog 9 [.sl (P.map Z8q),.sl (pk.map Zib)] fun q=>q=.v (.bool true):=by
 refine fnG Tryz.func9 ?_;have al:∀{K:G→Prop},K (.v (.bool true))→FnV Tryz.prog 10 [] K:=fun h=>(Jw).mono fun q c=>by subst c;exact h
 refine dg (fun _=>?_) fun A=>?_
 ·refine(Jw).cal fun q c=>?_;subst c;exact rfl
 refine dg (fun _=>?_) fun h2=>?_
 ·refine(Jw).cal fun q c=>?_;subst c;exact rfl
 have A:P.length≤100:=by have A:¬(((P.map Z8q).length:Nat):Int) > 100:=A;rw[aa] at A;omega
 refine dh (.done (.same ((Z3r 3 (by decide) (by decide)).cal fun q rs c=>?_)));obtain⟨rfl,l0,S,hF,rfl⟩:=c;have hG0:=Z66 S (by omega) hF;rw[Zdp S hF];refine .opn 0 _ _ _ rfl rfl rfl (.done ?_);obtain⟨y0,hy0⟩:∃y,l0[1]?=some y:=⟨_,ab (by omega)⟩;have hC0:GC 0 0 l0 y0 []:=by obtain⟨b,e,he⟩:=hF 1 y0 hy0;have U:=(Z2h (i:=1) (m:=3) (by decide) (by decide) b e).ma;rw[←he] at U;exact⟨S,hy0,U,by rw[he];rfl,by rw[he];rfl,by rw[he];rfl,by rw[he];exact af _,ah _,nofun⟩
 refine D2 [0,1,5,26,27] [] (fun z:Nat × List GM × GM × List RPk=>[(28,gI z.1)]) (fun z=>[(0,.blk [.osl 1,.osl 2,.osl 3,.osl 4] tGr),(1,.slc (z.2.1.map pN) tNp 1),(2,.slc (z.2.1.map pD) tDp 1),(3,.slc ((z.2.1.map GM.r).map Cl) tRN 12),(4,.vw (z.2.2.2.map pkG) tPk 3),(5,.fam (z.2.1.map mOb))]) (fun z=>z.1≤P.length∧GC (150 * z.1) z.1 z.2.1 z.2.2.1 z.2.2.2) (fun z=>P.length - z.1) (0,l0,y0,[]) ⟨ah _,hC0⟩ ⟨⟨rfl,rfl⟩,trivial⟩ (by exact RL6) rfl fun⟨i,l,y,w⟩ hI=>?_;obtain⟨hi,g⟩:=hI;dsimp only at hi g;refine dg (fun hlt=>?_) fun hge=>?_
 rotate_left
 ·refine Gh.done ?_;refine(Jw).cal fun q c=>?_;subst c;exact rfl
 rw[aa] at hlt;obtain⟨s,o⟩:∃s,P[i]?=some s:=⟨_,ab (by omega)⟩;have hsb:=hsc s (ae o);refine dl (f:=Z8q) o ?_;obtain⟨kd,who,n,body,pf,pt,pb⟩:=s;refine dj (fun(h7:kd≠7)=>?p1) fun(h7:kd=7)=>?p2
 case' p1 =>
  refine dg (fun(h8:kd > 2)=>?p3) fun(h8:¬kd > 2)=>?p4
  case p3 =>
   refine⟨by dsimp only;omega,.done ⟨(i+1,l,y,w),[],⟨by dsimp only;omega,?_⟩,(by dsimp only;omega),?_⟩⟩
   rotate_left
   ·refine⟨?_,?_,rfl⟩<;>repeat' (first|exact trivial|with_reducible rfl|exact rfl|refine And.intro ?_ ?_)
   exact g.up (by omega) (by omega) (by omega)
  have Z:kd=7∨kd≤2:=.inr (by omega)
 case' p2=>have Z:kd=7∨kd≤2:=.inl h7
 all_goals refine dg (fun h5=>?_) fun h5=>?_
 all_goals first
  | (rw[aa] at h5
     obtain⟨⟨ka,kb,d⟩,hp⟩:∃p,pk[i]?=some p:=⟨_,ab (by omega)⟩;have hpb:=hpk _ (ae hp);refine dl (f:=Zib) hp ?_)
  | (let ka:Int:=0
     let kb:Int:=0;let d:Int:=0;have hpb:d≤9223372036854775807:=(by decide:(0:Int)≤9223372036854775807))
 all_goals
  have hyr:(l.map GM.r)[1]?=some y.r:=by rw[aj,g.hy];rfl
  refine⟨⟨by decide,by show(1:Int) < ((l.map pD).length:Nat);rw[aa,g.len];decide⟩,?_⟩;refine dl (f:=pD) g.hy ?_;refine⟨by decide,?_⟩;refine(Zjj l 1 y g.hy d).cal fun q rs c=>?_;obtain⟨rfl,rfl⟩:=c;have hT:=g.tc (a:=d) hpb;refine⟨⟨by decide,by show(1:Int) < (((l.map GM.r).map Cl).length:Nat);rw[aa,aa,g.len];decide⟩,?_⟩;refine dl (f:=Cl) hyr ?_;refine(S0 y.r).cal fun q c=>?_;subst c;have cT:=Zb5 (150 * i) i _ _ w kd n body pf pt pb hT Z hsb (by omega) (by omega);rw[Zju g.hy] at cT;refine dh (.close (oGs (l.set 1 (Ib y d)) (l.map GM.r) w) [] ⟨RL1,⟨rfl,rfl,eqR (H1 (y:=Ib y d) g.hy rfl).symm⟩,⟨rfl,rfl,eqR (Gy (y:=Ib y d) g.hy rfl).symm⟩,RL1,RL1,RL1,trivial⟩ ⟨_,rfl⟩ rfl (.done (.same (cT.cal fun q rs c=>?_))));obtain⟨b,x,T,rfl,rfl,hM,hb,C,t⟩:=c;refine .opn 0 _ _ _ rfl rfl rfl (.done ?_);have I:((l.set 1 (Ib y d)).set 1 x).length=3:=by rw[bh,bh];exact g.len
  have E:((l.set 1 (Ib y d)).set 1 x)[1]?=some x:=c7 (by rw[bh,g.len];decide);have hr2:((l.set 1 (Ib y d)).map GM.r).set 1 x.r=((l.set 1 (Ib y d)).set 1 x).map GM.r:=List.map_set.symm;have B:(((l.set 1 (Ib y d)).map GM.r).set 1 x.r)[1]?=some x.r:=c7 (by rw[aa,bh,g.len];decide);have H:(((l.set 1 (Ib y d)).map GM.r).set 1 x.r).length=3:=by rw[bh,aa,bh];exact g.len
  have u:150 * (i+1)=150 * i+150:=by omega
  refine⟨⟨by decide,by rw[aa,I];decide⟩,?_⟩;refine dl (f:=pN) E ?_;refine(Zfr _ 1 x E).cal fun q rs c=>?_;obtain⟨rfl,rfl⟩:=c;obtain⟨hM1,Y,hM3,k⟩:=hM;refine dk (fun hd=>?_) fun hd=>?_
  ·have hd:x.n.dead=false:=by simpa using hd
   obtain⟨rfl,W⟩:=hb hd;refine dk (fun h=>(by cases h)) fun _=>?_;rcases k with⟨k,hMA,-⟩ | ⟨k,-⟩
   rotate_left
   ·rw[hd] at k;cases k
   refine⟨by dsimp only;omega,.done ⟨(i+1,(l.set 1 (Ib y d)).set 1 x,x,T),[(1,9),(2,10),(3,11),(4,12),(5,13)],⟨by dsimp only;omega,?_⟩,(by dsimp only;omega),?_⟩⟩
   rotate_left
   ·refine⟨?_,?_,rfl⟩<;>repeat' (first|exact trivial|with_reducible rfl|exact rfl|refine And.intro ?_ ?_)
    exact eqR (congrArg (List.map Cl) hr2)
   have o:=hMA.sim.self;have U:=hMA.sim.many;rw[Y] at o;rw[hM3] at U;have o:(1:Int)=x.n.self:=o;have U:(3:Int)=x.n.many:=U;rw[u];exact⟨I,E,hMA,by show x.n.self=1;omega,by show x.n.many=3;omega,W,hM1,C,t⟩
  ·rcases k with⟨k,-⟩ | ⟨-,hL⟩
   ·rw[k] at hd;cases hd
   obtain⟨X,st,hX1,F,hX3,Q,M⟩:=Z1n hL (by omega) ka kb;refine⟨⟨by decide,by rw[aa,H];decide⟩,?_⟩;refine dl (f:=Cl) B ?_;refine(S0 x.r).cal fun q c=>?_;subst c;refine(Z2m (Ay x.r)).cal fun q c=>?_;subst c;refine⟨by decide,⟨by decide,?_⟩⟩;have J:(((l.set 1 (Ib y d)).set 1 x).length:Int)=((3:Nat):Int):=by rw[I]
   refine dh (.close (oGs ((l.set 1 (Ib y d)).set 1 x) (((l.set 1 (Ib y d)).map GM.r).set 1 x.r) T) [(1,9),(2,10),(3,11),(4,12),(5,13)] (by exact RL6) ⟨_,rfl⟩ rfl (.done (.same ((Zdd _ _ T 1 x (Da 1 3 X st) E ka kb hL.wd hL.wait (by rw[J];exact hX3)).cal fun q rs c=>?_))));obtain⟨rfl,nb,ne,c⟩:=c;obtain rfl:=c (Ay y.r);refine .opn 0 _ _ _ rfl rfl rfl (.done ?_);refine dk (fun h=>(by cases h)) fun _=>?_;have V:(((l.set 1 (Ib y d)).set 1 x).set 1 ⟨true,Da 1 3 X st,nb,ne,Ay y.r⟩)[1]?=some ⟨true,Da 1 3 X st,nb,ne,Ay y.r⟩:=c7 (by rw[I];decide);have D:(Da 1 3 X st).log.length≤1000000:=by have A:=F.log;unfold Bo at A;rw[au,decide_eq_true_iff] at A;have:=A.2;show X.2.2.length≤_;omega
   refine⟨⟨by decide,by rw[aa,bh,I];decide⟩,?_⟩;refine dl (f:=pN) V ?_;refine(Z1v _ 1 _ V D).cal fun q rs c=>?_;obtain⟨rfl,rfl⟩:=c;refine(P9 (Da 1 3 X st) (Ay y.r) D).cal fun q c=>?_;subst c;have O:∀r,(((l.set 1 (Ib y d)).map GM.r).set 1 x.r).set 1 r=(((l.set 1 (Ib y d)).set 1 x).set 1 ⟨true,Da 1 3 X st,nb,ne,r⟩).map GM.r:=fun r=>(congrArg (fun z=>List.set z 1 r) hr2).trans (Jx _ 1 ⟨true,Da 1 3 X st,nb,ne,r⟩).symm;have N:∀r,(((l.set 1 (Ib y d)).set 1 x).set 1 ⟨true,Da 1 3 X st,nb,ne,Ay y.r⟩).map pN=(((l.set 1 (Ib y d)).set 1 x).set 1 ⟨true,Da 1 3 X st,nb,ne,r⟩).map pN:=fun r=>Zbm (fun _ _ _ _ _ _=>rfl) _ _ _ _ _ _ _ _;have L:∀r,(((l.set 1 (Ib y d)).set 1 x).set 1 ⟨true,Da 1 3 X st,nb,ne,Ay y.r⟩).map pD=(((l.set 1 (Ib y d)).set 1 x).set 1 ⟨true,Da 1 3 X st,nb,ne,r⟩).map pD:=fun r=>Zbm (fun _ _ _ _ _ _=>rfl) _ _ _ _ _ _ _ _;have R:∀r,(((l.set 1 (Ib y d)).set 1 x).set 1 ⟨true,Da 1 3 X st,nb,ne,Ay y.r⟩).map mOb=(((l.set 1 (Ib y d)).set 1 x).set 1 ⟨true,Da 1 3 X st,nb,ne,r⟩).map mOb:=fun r=>Zbm (fun _ _ _ _ _ _=>rfl) _ _ _ _ _ _ _ _;have hys:y.r.self=1:=by have:=g.ma.sim.self;rw[this];show(y.n.self:Int)=1;rw[g.self];rfl
   have hym:y.r.many=3:=by have:=g.ma.sim.many;rw[this];show(y.n.many:Int)=3;rw[g.many];rfl
   have hya:Nc (Ib y d).n=Ju (Ay y.r):=by have s:=g.ma.sim;show(y.n.pmd,y.n.normal,y.n.log)=(y.r.pmd,y.r.normal,y.r.log);rw[show y.r.pmd=y.n.pmd from s.pmd,show y.r.normal=y.n.normal from s.normal,show y.r.log=y.n.log from s.log]
   refine dk (fun o=>?_) fun o=>?_
   ·have o:S3 (Da 1 3 X st) (Ay y.r)=true:=o;have o:=(Ll rfl rfl).1 o;refine⟨⟨by decide,by rw[aa,H];decide⟩,?_⟩;refine dn (f:=Cl) (i:=1) (y:=Ay y.r) B (fun q c=>c) rfl ?_;refine⟨by dsimp only;omega,.done ⟨(i+1,((l.set 1 (Ib y d)).set 1 x).set 1 ⟨true,Da 1 3 X st,nb,ne,Ay y.r⟩,⟨true,Da 1 3 X st,nb,ne,Ay y.r⟩,T),[(1,15),(2,16),(3,17),(4,18),(5,19)],⟨by dsimp only;omega,?_⟩,(by dsimp only;omega),?_⟩⟩
    rotate_left
    ·refine⟨?_,?_,rfl⟩<;>repeat' (first|exact trivial|with_reducible rfl|exact rfl|refine And.intro ?_ ?_)
     all_goals first | exact eqR (congrArg (List.map Cl) (O _)) | exact eqR (N _) | exact eqR (L _) | exact Ff (R _)
    rw[u];exact Z1d I nb ne Q M F o hys hym rfl rfl rfl rfl C t
   have o:S3 (Da 1 3 X st) (Ay y.r)=false:=o;refine(P9 (Da 1 3 X st) (K9 (Ay x.r)) D).cal fun q c=>?_;subst c;refine dk (fun j=>?_) fun j=>?_
   ·have j:S3 (Da 1 3 X st) (K9 (Ay x.r))=true:=j;have j:=(Ll rfl rfl).1 j;refine⟨⟨by decide,by rw[aa,H];decide⟩,?_⟩;refine dn (f:=Cl) (i:=1) (y:=K9 (Ay x.r)) B (fun q c=>c) rfl ?_;refine⟨by dsimp only;omega,.done ⟨(i+1,((l.set 1 (Ib y d)).set 1 x).set 1 ⟨true,Da 1 3 X st,nb,ne,K9 (Ay x.r)⟩,⟨true,Da 1 3 X st,nb,ne,K9 (Ay x.r)⟩,T),[(1,15),(2,16),(3,17),(4,18),(5,19)],⟨by dsimp only;omega,?_⟩,(by dsimp only;omega),?_⟩⟩
    rotate_left
    ·refine⟨?_,?_,rfl⟩<;>repeat' (first|exact trivial|with_reducible rfl|exact rfl|refine And.intro ?_ ?_)
     all_goals first | exact eqR (congrArg (List.map Cl) (O _)) | exact eqR (N _) | exact eqR (L _) | exact Ff (R _)
    rw[u];exact Z1d I nb ne Q M F j Y hM3 rfl rfl rfl rfl C t
   have j:S3 (Da 1 3 X st) (K9 (Ay x.r))=false:=j;have hbt:Zi6 (Ay y.r) ⟨0,0,X.1,X.2.1,X.2.2,0,0,[],[],0,[],[]⟩ (K9 (Ay x.r))=true:=by
    rw[hya] at hX1;rcases hX1 with A | A | ⟨q1,q2,q3,q4,q5,q6⟩
    ·rw[(Ll (st:=st) rfl rfl).2 A.symm] at o;cases o
    ·rw[(Ll (st:=st) (r:=K9 (Ay x.r)) rfl rfl).2 A.symm] at j;cases j
    ·exact Zgq q1 q2 q3 q4 q5 q6
   refine(Z0a (Ay y.r) ⟨0,0,X.1,X.2.1,X.2.2,0,0,[],[],0,[],[]⟩ (K9 (Ay x.r)) D (by have:y.n.log.length≤150:=g.ma.ni.nv.ents.1;have e:y.r.log=y.n.log:=g.ma.sim.log;show y.r.log.length≤_;rw[e];omega)).cal fun q c=>?_;subst c;refine dk (fun _=>?_) fun h=>?_
   rotate_left
   ·exact de h (by rw[hbt];decide)
   refine⟨⟨by decide,by rw[aa,H];decide⟩,?_⟩;refine dn (f:=Cl) (i:=1) (y:=⟨1,3,X.1,X.2.1,X.2.2,0,0,[],[],0,[],[]⟩) B (fun q c=>c) rfl ?_;refine⟨by dsimp only;omega,.done ⟨(i+1,((l.set 1 (Ib y d)).set 1 x).set 1 ⟨true,Da 1 3 X st,nb,ne,⟨1,3,X.1,X.2.1,X.2.2,0,0,[],[],0,[],[]⟩⟩,⟨true,Da 1 3 X st,nb,ne,⟨1,3,X.1,X.2.1,X.2.2,0,0,[],[],0,[],[]⟩⟩,T),[(1,15),(2,16),(3,17),(4,18),(5,19)],⟨by dsimp only;omega,?_⟩,(by dsimp only;omega),?_⟩⟩
   rotate_left
   ·refine⟨?_,?_,rfl⟩<;>repeat' (first|exact trivial|with_reducible rfl|exact rfl|refine And.intro ?_ ?_)
    all_goals first | exact eqR (congrArg (List.map Cl) (O _)) | exact eqR (N _) | exact eqR (L _) | exact Ff (R _)
   rw[u];exact Z1d I nb ne Q M F rfl rfl rfl rfl rfl rfl rfl C t
theorem Z6r {g:G}(h:TyL [.sl [.i .i64,.i .i64,.i .i64]] [g]):∃l:List (Int × Int × Int),g=.sl (l.map Zib)∧∀p∈l,p.2.2≤9223372036854775807:=by
 obtain⟨rows,r,e,-,hr,h⟩:=h.sl_inv;obtain rfl:=h.nil_inv;have e:g=.sl rows:=by simpa using e
 subst e;obtain⟨l,rfl,k⟩:=Z1l (f:=Zib) (Q:=fun p=>p.2.2≤9223372036854775807) fun r d=>by obtain⟨a,r,rfl,-,h⟩:=(hr r d).i_inv;obtain⟨b,r,rfl,-,h⟩:=h.i_inv;obtain⟨c,r,rfl,j,h⟩:=h.i_inv;obtain rfl:=h.nil_inv;exact⟨(a,b,c),rfl,j.2⟩
 exact⟨l,rfl,k⟩
end Go.Proofs.YtihfaocdpmmooaaGreat
