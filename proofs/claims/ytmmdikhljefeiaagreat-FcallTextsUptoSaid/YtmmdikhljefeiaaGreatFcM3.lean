
import Derived.Test.YtmmdikhljefeiaaGreatFcM2
import Derived.Test.YtmmdikhljefeiaaGreatPKN
import Derived.Test.YtmmdikhljefeiaaGreatQM1
import Derived.Test.YtmmdikhljefeiaaGreatWA
import Derived.Test.YtmmdikhljefeiaaGreatYFsR
import Derived.Test.YtmmdikhljefeiaaGreatFsXW
import Derived.Test.YtmmdikhljefeiaaGreatLaM
import Derived.Test.YtmmdikhljefeiaaGreatFcM1
import Derived.Test.YtmmdikhljefeiaaGreatSxMc
namespace Go.Proofs.YtmmdikhljefeiaaGreat
open Go.RowKit
set_option maxRecDepth 100000
theorem Z95 (c:RCl)(h:1<=c.kind/\c.kind<=11):FnV Tryz.prog 55 [.agg (enC c)] λg=>g=.agg (enC (R1 c)):=by
 refine fnG Tryz.func55 ?_;obtain⟨client,number,kind,a,g,name,other,m,fo,pos,n,time,b⟩:=c;dsimp only at h;rcases Er h with rfl | rfl | rfl | rfl | rfl | rfl | rfl | rfl | rfl | rfl | rfl
 all_goals
  repeat first | refine Md (c:=true) rfl ?_ | refine Md (c:=false) rfl ?_
  exact rfl
theorem Z69 (c:RCl):FnV Tryz.prog 24 [.agg (enC c)] λg=>g=.v (.bool (okB c)):=by
 refine fnG Tryz.func24 ?_;have no:¬Zbv c->G.v (.bool false)=G.v (.bool (okB c)):=λh=>by rw[Hx.2 λj=>h j.1]
 refine du (λa=>no λh=>by have:=h.1;omega) λa=>?_;refine du (λd=>no λh=>by have:=h.2.1;omega) λd=>?_;refine du (λl=>no λh=>by have:=h.2.2.1;omega) λl=>?_;refine du (λi=>no λh=>by have:=h.2.2.2.1;unfold big at this;omega) λi=>?_;refine du (λb=>no λh=>by have:=h.2.2.2.2.1;omega) λb=>?_;refine du (λk=>no λh=>by have:=h.2.2.2.2.2;omega) λk=>?_;refine(Z95 c ⟨by omega,by omega⟩).cal λq f=>?_;subst f;refine EvEq.flat shC (Ka c) (Ka (R1 c)) (by kernel_rfl) (by kernel_rfl) (by kernel_rfl) rfl rfl rfl rfl (λe=>?_) λe=>?_
 .have e:enC c=enC (R1 c):=congrArg (List.map G.v) e;have:okB c=true:=Hj.2 ⟨⟨by omega,by omega,by omega,by unfold big;omega,by omega,by omega⟩,Yb e⟩;rw[this];exact rfl
 .have:okB c=false:=Hx.2 λh=>e (congrArg Ka h.2);rw[this];exact rfl
theorem Rm (n:Int):FnV Tryz.prog 66 [gI n] λg=>g=.agg (N1 (wF n)):=by refine fnG Tryz.func66 ?_;exact rfl
theorem Z5e (s:ByteArray):FnV Tryz.prog 67 [gS s] λg=>g=.agg (N1 (tF s)):=by refine fnG Tryz.func67 ?_;exact rfl
theorem Lz {own:Os}{n:Nat}{P:Program}{f:FuncId}{gs:List G}{g:G}{K:G->Os->Nat->Prop}{B C:Prop}(h:FnV P f gs λq=>q=g)(a:Yc [] own n g [] K):EvCall (FnO P f gs [] λg rs=>Yc [] own n g rs K) B C:=h.cal λq e=>by rw[e];exact a
set_option maxHeartbeats 4000000 in
theorem Ul (c:RCl)(h:1<=c.kind/\c.kind<=11):FnV Tryz.prog 38 [.agg (enC c)] λg=>g=.sl ((Fu c).map N1):=by
 refine fnG Tryz.func38 ?_;obtain⟨client,number,kind,a,g,name,other,m,fo,pos,n,time,b⟩:=c;dsimp only at h;rcases Er h with rfl | rfl | rfl | rfl | rfl | rfl | rfl | rfl | rfl | rfl | rfl
 case' inr.inr.inl=>cases fo
 all_goals
  iterate 4 refine(Rm _).con rfl ?_
  repeat first
  | refine Md (c:=true) rfl ?_
  | refine Md (c:=false) rfl ?_
  | refine EvRoom.mk (dm rfl) ?_
  | refine Lz (Z5e _) ?_
  | refine Lz (Rm _) ?_
  | refine(Rm _).con rfl ?_
  | refine(Z5e _).con rfl ?_
  exact rfl
set_option maxHeartbeats 4000000 in
theorem Z4z {k:Int}(h:1<=k/\k<=11)(f:List RFd)(a:f.map RFd.kind=ksC k)(d:∀x,f[2]?=some x->x.n=k):FnV Tryz.prog 44 [gI k,.sl (f.map N1)] λg=>g=.agg (enC (F0 (kC0 k) (Eg k) f)):=by
 refine fnG Tryz.func44 ?_;obtain⟨_,_,rfl,_,a⟩:=List.map_eq_cons_iff.1 a;obtain⟨_,_,rfl,_,a⟩:=List.map_eq_cons_iff.1 a;obtain⟨⟨i,b,e⟩,_,rfl,_,a⟩:=List.map_eq_cons_iff.1 a;obtain rfl:b=k:=d _ rfl;rcases Er h with rfl | rfl | rfl | rfl | rfl | rfl | rfl | rfl | rfl | rfl | rfl
 all_goals
  repeat obtain⟨_,_,rfl,_,a⟩:=List.map_eq_cons_iff.1 a
  obtain rfl:=List.map_eq_nil_iff.1 a
  repeat first
  | refine dz rfl ?_
  | refine Md (c:=true) rfl ?_
  | refine Md (c:=false) rfl ?_
  exact rfl
theorem Tj (c:RCl)(hr:1<=c.kind/\c.kind<=11):(Fu c).length<=18:=by rw[Hz,ao,<-Uh hr];exact Qb _ _
theorem Pn (c:RCl):FnV Tryz.prog 12 [.agg (enC c)] λg=>g=wrC c:=by
 refine fnG Tryz.func12 ?_;refine Lz (Z69 c) ?_;refine dy (λb=>?_) λb=>?_
 .have b:okB c=false:=by simpa using b
  exact J4 λh=>Hx.1 b h.1
 have b:okB c=true:=by simpa using b
 have e:=Hj.1 b;have hr:=e.1.2.2.2.2;have j:=Tj c hr;refine Lz (Ul c hr) ?_;refine Lz (Z1q (Fu c) (by omega)) ?_;refine dx (fun(d:Jl (Fu c)≠0)=>J4 λh=>d h.2.1) λd=>?_;have d:Jl (Fu c)=0:=d;have i:Z60 (Fu c)=Fp (Fu c):=dp d;rw[i];refine du (λa=>J4 λh=>?_) λa=>?_
 .have:=h.2.2;have a:(((Fp (Fu c)).map gBy).length:Int) > 200:=a;rw[ao] at a;omega
 .have a:¬(((Fp (Fu c)).map gBy).length:Int) > 200:=a;rw[ao] at a;have f:okW c:=⟨e,d,by omega⟩;refine⟨_,rfl,?_⟩;unfold wrC bC eC;rw[dp f,dp f];exact rfl
theorem Xg {k:Int}(h:1<=k/\k<=11):(Fu (kC0 k)).map RFd.kind=ksC k:=Qf (kC0 k) h
theorem Yf (s:ByteArray)(I:s.size<=2000000):FnV Tryz.prog 16 [gS s] λg=>g=rdC s.data.toList:=by
 refine fnG Tryz.func16 ?_;have D:s.data.toList.length=s.size:=rfl;refine Lz (Z5s N5 s.data.toList (by decide) (by omega)) ?_;unfold smG;refine dx (fun(o:(Ay N5 s.data.toList).e≠0)=>E5 λh=>o h.1.1) λo=>?_;have o:(Ay N5 s.data.toList).e=0:=o;obtain⟨K,L,a,B,f⟩:=Z54 o;have d:(Ay N5 s.data.toList).l[2]?=some a:=by rw[B];rfl
 refine dz d (du (λr=>E5 λh=>?_) λr=>?_)
 .have:=h.1.2.1;rw[f] at this;have r:a.n < 1:=r;omega
 refine dz d (du (λp=>E5 λh=>?_) λp=>?_)
 .have:=h.1.2.2;rw[f] at this;have p:a.n > 11:=p;omega
 have r:¬a.n < 1:=r;have p:¬a.n > 11:=p;refine dz d ?_;have hr:1<=a.n/\a.n<=11:=by omega
 have w:=Tj (kC0 a.n) hr;refine Lz (Ul (kC0 a.n) hr) ?_;refine Dt [0,2,7,8] [0] (λi:Nat=>[(10,gI i),(9,.osl 2)]) (λi=>[(2,.slc ((((Fu (kC0 a.n)).take i).map RFd.kind).map gNi) 3 1)]) (λi=>i<=(Fu (kC0 a.n)).length) (λi=>(Fu (kC0 a.n)).length - i) 0 (av _) ⟨⟨rfl,rfl⟩,⟨rfl,rfl⟩,trivial⟩ ⟨RL1,trivial⟩ rfl λi z=>?_;refine du (λk=>?_) (λk=>?_)
 .refine EvIdx.of (by simpa using k) λx c=>?_;refine⟨by simp;omega,⟨by omega,i+1,by have:=Ek c;omega,(by dsimp only;have:=Ek c;omega),?_⟩⟩;refine⟨?_,?_,rfl⟩<;>repeat' (first|exact trivial|with_reducible rfl|exact rfl|refine And.intro ?_ ?_)
  exact eqR (by rw[Bu c,az,az];rfl)
 have z:i=(Fu (kC0 a.n)).length:=by simp at k;omega
 subst z;rw[List.take_length,Xg hr];refine Lz (Z1l (ksC a.n) s.data.toList (by rw[<-Xg hr,ao];omega) (by omega)) ?_;have bad:∀h:(Hr (ksC a.n) s.data.toList).e≠0,¬okR s.data.toList:=λh G=>by have:=G.2.1;rw[f] at this;exact h this
 refine dx (fun(m:(Hr (ksC a.n) s.data.toList).e≠0)=>E5 (bad m)) λm=>?_;have m:(Hr (ksC a.n) s.data.toList).e=0:=m;have hH:okH s.data.toList:=⟨o,by rw[f];exact hr⟩;have j:(Hr (ksC (hdK s.data.toList)) s.data.toList).e=0:=by rw[f];exact m
 have q:=Z0q hH j;obtain⟨C,J,A⟩:=Sq m;have t:=(T9 _ _ C).2.2;rw[<-A] at t;have u:∀x,(Hr (ksC a.n) s.data.toList).l[2]?=some x->x.n=a.n:=λx c=>by have b:=Oc hH j;rw[f] at b;rw[<-b.1] at c;have c:some (⟨1,(reC s.data.toList).kind,eS⟩:RFd)=some x:=c;cases c;exact b.2.1
 refine Lz (Z4z hr _ t u) ?_;have F:F0 (kC0 a.n) (Eg a.n) (Hr (ksC a.n) s.data.toList).l=reC s.data.toList:=by unfold reC;rw[f]
 rw[F];refine Lz (Pn (reC s.data.toList)) ?_;unfold wrC;refine dx (fun(b:eC (reC s.data.toList)≠0)=>E5 λh=>b ?_) λb=>?_
 .unfold eC;rw[dp (q.1 h).1]
 have b:eC (reC s.data.toList)=0:=b;have H:okW (reC s.data.toList):=by
  unfold eC at b;split at b
  .assumption
  .cases b
 have v:=(Z7f hH j).1 H;have E:(⟨(bC (reC s.data.toList)).toArray⟩:ByteArray)=s:=by rw[(q.1 v).2]
 refine EvIf.bneS (λy=>dq E y) λy=>?_;unfold rdC dC edC;rw[dp v,dp v];exact rfl
theorem Zay (c:RCl):FnV Tryz.prog 11 [.agg (enC c)] λg=>g=.agg (enC c):=by refine fnG Tryz.func11 ?_;exact rfl
theorem Zj (c:RCl):FnV Tryz.prog 15 [.agg (enC c)] λg=>g=.agg (enC c):=by refine fnG Tryz.func15 ?_;exact rfl
def aS:ByteArray:=⟨#[97]⟩
def cA:RCl:={c00 with client:=1,number:=1,kind:=1,h:=(1,1),name:=aS,m:=⟨1,0,0,eS⟩}
def anA:RAn:={an0 with h:=(2,1)}
theorem Z8b:(D9 (Hv 9) (1,1) aS ⟨1,0,0,eS⟩).2=((2,1),0):=by decide +kernel
theorem Z7n:okC cA:=⟨by unfold Zbv;decide,rfl⟩
theorem Z9l:okW cA:=⟨Z7n,by decide +kernel,by decide +kernel⟩
theorem Z7j:(Dw ⟨Hv 9,[]⟩ cA).2=anA/\(Dw ⟨Hv 9,[]⟩ cA).1.l=[⟨1,1,anA⟩]:=by
 have e:(Ev (Hv 9) cA).2=anA:=by unfold Ev;rw[dp (show cA.kind=1 from rfl)];show {an0 with h:=(D9 (Hv 9) (1,1) aS ⟨1,0,0,eS⟩).2.1,code:=(D9 (Hv 9) (1,1) aS ⟨1,0,0,eS⟩).2.2}=anA;rw[Z8b];rfl
 rw[Sl Z7n (by decide) (by decide)];exact⟨e,by rw[e];rfl⟩
theorem Z72 {t:RTb}(h:t.l=[⟨1,1,anA⟩]):Dw t cA=(t,anA):=by
 have e:Fa t.l cA.client=⟨1,1,anA⟩:=by rw[h];rfl
 rw[Zs Z7n (by rw[e];show ¬((1:Int) < 1\/((1:Int)=0/\_));omega) (by rw[e];rfl),e]
theorem smA:SmC cA:=⟨by decide,by decide,by decide,by decide⟩
theorem eA:eC cA=0:=dp Z9l
theorem dA:dC (⟨(bC cA).toArray⟩:ByteArray).data.toList=cA:=(Z88 Z9l).2
theorem edA:edC (⟨(bC cA).toArray⟩:ByteArray).data.toList=0:=dp (Z88 Z9l).1
theorem bA:(⟨(bC cA).toArray⟩:ByteArray).size<=2000000:=by have h:=Z9l.2.2;have e:(⟨(bC cA).toArray⟩:ByteArray).size=(bC cA).length:=rfl;rw[e];unfold bC;rw[dp Z9l];omega
set_option maxHeartbeats 4000000 in
theorem Pd:FnV Tryz.prog 14 [] λq=>q=.v (.bool true):=by
 refine fnG Tryz.func14 ?_;refine(Zb5 9 (by decide)).cal λq rs a=>?_;obtain⟨rfl,rfl,d⟩:=a;refine(Zek d).cal λq rs a=>?_;obtain⟨rfl,rfl⟩:=a;obtain⟨f,g⟩:=Z7j;have k:=Z72 g
 repeat' first
  | refine And.intro ?_ ?_
  | (refine(Xk d (by decide) cA smA).cal λq rs a=>?_
     rw[ApP,f] at a;obtain⟨rfl,m,o,l,c,rfl⟩:=a)
  | (refine(Xk c (by omega) cA smA).cal λq rs a=>?_
     rw[ApP,k] at a;obtain⟨rfl,p,n,e,j,rfl⟩:=a)
 all_goals
  refine dv (.seen 4 _ _ rfl (.done (.see (.same ((L7 cA).toO.cal λq rs a=>?_)))));obtain⟨rfl,rfl⟩:=a;refine .done ?_;unfold wrC;rw[eA];refine Lz (Lr _ bA) ?_;unfold rdC;rw[dA,edA];refine dt (λ_=>?_) λb=>dq rfl b;refine EvEq.flat [.i .i64,.i .i64] [_,_] [_,_] (by kernel_rfl) (by kernel_rfl) (by kernel_rfl) rfl rfl rfl rfl (λ_=>dy (λ_=>?_) λh=>by cases h) (λh=>dq rfl h);refine EvEq.flat [.i .i64,.i .i64] [_,_] [_,_] (by kernel_rfl) (by kernel_rfl) (by kernel_rfl) rfl rfl rfl rfl (λ_=>dy (λ_=>?_) λh=>by cases h) (λh=>dq rfl h);refine dt (λ_=>?_) λb=>dq rfl b;refine dt (λ_=>?_) λb=>dq rfl b;refine EvEq.flat shC (Ka cA) (Ka cA) (by kernel_rfl) (by kernel_rfl) (by kernel_rfl) rfl rfl rfl rfl (λ_=>?_) (λh=>dq rfl h);exact rfl
theorem Z6l (c:RCl):(⟨(bC c).toArray⟩:ByteArray).size<=2000000:=by
 have e:(⟨(bC c).toArray⟩:ByteArray).size=(bC c).length:=rfl;rw[e];unfold bC;split
 .next h=>have:=h.2.2;omega
 .exact av _
set_option maxHeartbeats 4000000 in
theorem Og (c:RCl):FnV Tryz.prog 3 [.agg (enC c)] λq=>q=.v (.bool true):=by
 refine fnG Tryz.func3 ?_;refine Lz (Zay c) ?_;refine Lz (L7 c) ?_;unfold wrC;have hr:FnV Tryz.prog 12 [.agg (enC c)] λg=>g=.tup [.v (.string ⟨(bC c).toArray⟩),gI (eC c)]:=Pn c;refine Lz hr ?_;refine dx (λh=>dq rfl h) λ_=>?_;refine EvIf.bneS (λh=>dq rfl h) λ_=>?_;have hd:FnV Tryz.prog 13 [.v (.string ⟨(bC c).toArray⟩)] λg=>g=.tup [.agg (enC (dC (bC c))),gI (edC (bC c))]:=Lr _ (Z6l c);refine Lz hd ?_;refine Lz Pd ?_;refine dy (λ_=>?_) λh=>by cases h
 by_cases a:okW c
 .have b:eC c=0:=dp a;obtain⟨e,d⟩:=Z88 a;have f:edC (bC c)=0:=dp e;rw[b,f,d];refine dx (λh=>dq rfl h) λ_=>?_;refine dt (λ_=>?_) λh=>dq rfl h;refine Lz (Zj c) ?_;refine EvEq.flat shC (Ka c) (Ka c) (by kernel_rfl) (by kernel_rfl) (by kernel_rfl) rfl rfl rfl rfl (λ_=>?_) (λh=>dq rfl h);exact rfl
 .have b:eC c=180:=dn a;rw[b];refine dx (λ_=>?_) λh=>by cases h
  exact rfl
set_option maxHeartbeats 4000000 in
theorem Qt (s:ByteArray)(c:s.size<=2000000):FnV Tryz.prog 4 [gS s] λq=>q=.v (.bool true):=by
 refine fnG Tryz.func4 ?_;refine Lz (Lr s c) ?_;refine Lz (Yf s c) ?_;unfold rdC;refine dx (λh=>dq rfl h) λ_=>?_;refine Lz (Zj _) ?_;refine EvEq.flat shC (Ka (dC s.data.toList)) (Ka (dC s.data.toList)) (by kernel_rfl) (by kernel_rfl) (by kernel_rfl) rfl rfl rfl rfl (λ_=>?_) (λh=>dq rfl h);refine dy (λh=>by cases h) λ_=>?_;refine Lz (L7 _) ?_;unfold wrC;refine Lz Pd ?_;refine dy (λ_=>?_) λh=>by cases h
 by_cases hr:okR s.data.toList
 .have a:edC s.data.toList=0:=dp hr;obtain⟨e,d⟩:=Zdc hr;have f:eC (dC s.data.toList)=0:=dp e;rw[a,f,d];refine dx (λh=>dq rfl h) λ_=>?_;refine dt (λ_=>?_) λh=>dq rfl h;have:(s.toList==s.toList)=true:=by simp
  exact congrArg (λb=>G.v (.bool b)) this
 .have a:edC s.data.toList=180:=dn hr;rw[a];refine dx (λ_=>?_) λh=>by cases h
  exact rfl
def Zdo:List Sp:=[.i .i64,.i .i64,.i .i64,.i .i64,.i .i64,.i .i64,.i .i64,.s,.s,.i .i64,.i .i64,.i .i64,.s,.b,.i .i64,.i .i64,.i .i64,.s]
theorem Z8f {r:List G}(h:TyL Zdo r):∃c:RCl,r=enC c/\SmC c:=by obtain⟨m,r,rfl,-,h⟩:=h.i_inv;obtain⟨q,r,rfl,-,h⟩:=h.i_inv;obtain⟨l,r,rfl,-,h⟩:=h.i_inv;obtain⟨d,r,rfl,-,h⟩:=h.i_inv;obtain⟨e,r,rfl,-,h⟩:=h.i_inv;obtain⟨v,r,rfl,-,h⟩:=h.i_inv;obtain⟨t,r,rfl,-,h⟩:=h.i_inv;obtain⟨k,r,rfl,i,h⟩:=h.s_inv;obtain⟨n,r,rfl,j,h⟩:=h.s_inv;obtain⟨f,r,rfl,-,h⟩:=h.i_inv;obtain⟨g,r,rfl,-,h⟩:=h.i_inv;obtain⟨w,r,rfl,-,h⟩:=h.i_inv;obtain⟨x,r,rfl,b,h⟩:=h.s_inv;obtain⟨y,r,rfl,-,h⟩:=h.b_inv;obtain⟨u,r,rfl,-,h⟩:=h.i_inv;obtain⟨p,r,rfl,-,h⟩:=h.i_inv;obtain⟨o,r,rfl,-,h⟩:=h.i_inv;obtain⟨s,r,rfl,a,h⟩:=h.s_inv;obtain rfl:=h.nil_inv;exact⟨⟨m,q,l,(d,e),(v,t),k,n,⟨f,g,w,x⟩,y,u,p,o,s⟩,rfl,⟨i,j,b,a⟩⟩
theorem Z6w {g:G}(h:TyL [.s] [g])(a:Ny g<=1048576):∃s:ByteArray,g=gS s/\s.size<=2000000:=by
 obtain⟨s,r,e,-,h⟩:=h.s_inv;obtain rfl:=h.nil_inv;have e:g=.v (.string s):=by simpa using e
 subst e;simp only[Ny] at a;exact⟨s,rfl,by omega⟩
end Go.Proofs.YtmmdikhljefeiaaGreat
