
import Derived.Test.YtmmdikhljefeiaaGreatFcM2
import Derived.Test.YtmmdikhljefeiaaGreatPKN
import Derived.Test.YtmmdikhljefeiaaGreatQM1
import Derived.Test.YtmmdikhljefeiaaGreatFcM1
import Derived.Test.YtmmdikhljefeiaaGreatSxMc
namespace Go.Proofs.YtmmdikhljefeiaaGreat
open Go.RowKit
set_option maxRecDepth 100000
theorem Zbj (c:RCl)(h:1<=c.kind/\c.kind<=11):FnV Tryz.prog 55 [.agg (enC c)] λg=>g=.agg (enC (Qz c)):=by
 refine fnG Tryz.func55 ?_;obtain⟨client,number,kind,a,g,name,other,m,fo,pos,n,time,b⟩:=c;dsimp only at h;rcases Hn h with rfl | rfl | rfl | rfl | rfl | rfl | rfl | rfl | rfl | rfl | rfl
 all_goals
  repeat first | refine Xt (c:=true) rfl ?_ | refine Xt (c:=false) rfl ?_
  exact rfl
theorem Zai (c:RCl):FnV Tryz.prog 24 [.agg (enC c)] λg=>g=.v (.bool (okB c)):=by
 refine fnG Tryz.func24 ?_;have no:¬Zdy c->G.v (.bool false)=G.v (.bool (okB c)):=λh=>by rw[Jm.2 λj=>h j.1]
 refine dw (λa=>no λh=>by have:=h.1;omega) λa=>?_;refine dw (λd=>no λh=>by have:=h.2.1;omega) λd=>?_;refine dw (λi=>no λh=>by have:=h.2.2.1;omega) λi=>?_;refine dw (λk=>no λh=>by have:=h.2.2.2.1;unfold big at this;omega) λk=>?_;refine dw (λb=>no λh=>by have:=h.2.2.2.2.1;omega) λb=>?_;refine dw (λf=>no λh=>by have:=h.2.2.2.2.2;omega) λf=>?_;refine(Zbj c ⟨by omega,by omega⟩).cal λq l=>?_;subst l;refine EvEq.flat shC (S2 c) (S2 (Qz c)) (by kernel_rfl) (by kernel_rfl) (by kernel_rfl) rfl rfl rfl rfl (λe=>?_) λe=>?_
 .have e:enC c=enC (Qz c):=congrArg (List.map G.v) e;have:okB c=true:=Ie.2 ⟨⟨by omega,by omega,by omega,by unfold big;omega,by omega,by omega⟩,Zp e⟩;rw[this];exact rfl
 .have:okB c=false:=Jm.2 λh=>e (congrArg S2 h.2);rw[this];exact rfl
theorem Ht {own:Os}{n:Nat}{P:Program}{f:FuncId}{gs:List G}{g:G}{K:G->Os->Nat->Prop}{B C:Prop}(h:FnV P f gs λq=>q=g)(a:Z13 [] own n g [] K):EvCall (FnO P f gs [] λg rs=>Z13 [] own n g rs K) B C:=h.cal λq e=>by rw[e];exact a
def Z8n (x:RLs):List G:=gI x.client::gI x.number::Fq x.a
def tbC (r:RFs)(l:List RLs):List G:=[.v (.int .i64 r.room),.sl (r.ins.map enI),.sl (r.nms.map enN),.sl (r.gens.map enG),.sl (l.map Z8n)]
theorem Zab (r:RFs)(l:List RLs)(x:RLs):tbC r (l++[x])=[.v (.int .i64 r.room),.sl (r.ins.map enI),.sl (r.nms.map enN),.sl (r.gens.map enG),.sl (l.map Z8n++[Z8n x])]:=by unfold tbC;rw[az];rfl
theorem Z0 (room:Int):FnV Tryz.prog 22 [gI room] λg=>g=.agg (tbC (Et room) []):=by refine fnG Tryz.func22 ?_;refine(Zev room).cal λq a=>?_;subst a;exact rfl
theorem Zdo (r:RFs)(l:List RLs)(f:l.length<=1000000)(id:Int):FnV Tryz.prog 25 [.agg (tbC r l),gI id] λg=>g=.agg (Z8n (B4 l id)):=by
 refine fnG Tryz.func25 ?_;refine As [1,2,4] [0,1] (λi:Nat=>[(5,gI i)]) (λ_=>[]) (λi=>i<=l.length/\∀x∈l.take i,x.client≠id) (λi=>l.length - i) 0 ⟨av _,λx c=>by simp at c⟩ ⟨⟨rfl,rfl⟩,trivial⟩ trivial rfl λi ⟨e,hno⟩=>?_;refine dw (λa=>?_) (λa=>?_)
 .refine ef (by simpa using a) λx c=>?_;have a:=B8 c;refine dv (fun(d:x.client=id)=>?_) fun(d:¬x.client=id)=>?_
  .refine ee c ?_;have:B4 l id=x:=by
    unfold B4;rw[<-dj i l,List.find?_append,List.find?_eq_none.2 λy b=>by simpa using hno y b,Option.none_or,List.drop_eq_getElem_cons a,List.find?_cons_of_pos (by rw[ap a] at c;cases c;simpa using d)];rw[ap a] at c;cases c;rfl
   rw[this];exact rfl
  .refine⟨by omega,i+1,⟨by omega,λy b=>?_⟩,(by dsimp only;omega),?_⟩
   .rw[Bb c] at b;rcases ce.1 b with b | b
    .exact hno y b
    .rw[bx.1 b];exact d
   .refine⟨?_,?_,rfl⟩<;>repeat' (first|exact trivial|with_reducible rfl|exact rfl|refine And.intro ?_ ?_)
 .have e:i=l.length:=by simp at a;omega
  subst e;rw[List.take_length] at hno;have:B4 l id=⟨0,0,an0⟩:=by unfold B4;rw[List.find?_eq_none.2 λy b=>by simpa using hno y b];rfl
  rw[this];exact rfl
theorem Z2z (a:RAn)(f:a.names.length<=1000000):FnV Tryz.prog 26 [.agg (Fq a),.agg (Fq a)] λg=>g=.v (.bool true):=by
 refine fnG Tryz.func26 ?_;refine dz (λh=>du rfl h) λ_=>?_;refine EvEq.flat [.i .i64,.i .i64] [_,_] [_,_] (by kernel_rfl) (by kernel_rfl) (by kernel_rfl) rfl rfl rfl rfl (λ_=>ec (λc=>by cases c) λ_=>?_) (λh=>du rfl h);refine EvIf.bneS (λh=>du rfl h) λ_=>?_;refine EvEq.flat [.i .i64,.i .i64,.i .i64,.i .i64,.i .i64,.i .i64,.i .i64,.i .i64] [_,_,_,_,_,_,_,_] [_,_,_,_,_,_,_,_] (by kernel_rfl) (by kernel_rfl) (by kernel_rfl) rfl rfl rfl rfl (λ_=>ec (λc=>by cases c) λ_=>?_) (λh=>du rfl h);refine dz (λh=>du rfl h) λ_=>?_;refine As [2,3] [0,1] (λn:Nat=>[(5,gI n)]) (λ_=>[]) (λn=>n<=a.names.length) (λn=>a.names.length - n) 0 (av _) ⟨⟨rfl,rfl⟩,trivial⟩ trivial rfl λn e=>?_;refine dw (λb=>?_) (λb=>?_)
 .refine ef (by simpa using b) λx d=>?_;refine ee d ?_;have:=B8 d;refine EvIf.bneS (λc=>du rfl c) λ_=>⟨by omega,n+1,by omega,(by dsimp only;omega),?_⟩;refine⟨?_,?_,rfl⟩<;>repeat' (first|exact trivial|with_reducible rfl|exact rfl|refine And.intro ?_ ?_)
 .exact rfl
theorem Zeu (r:RFs)(l:List RLs){K:Nat}(e:Gd r K)(A:K<=999999)(c:RCl)(i:SmC c)(B:1<=c.kind/\c.kind<=11):FnV Tryz.prog 80 [.agg (tbC r l),.agg (enC c)] λg=>g=.tup [.agg (tbC (Eb r c).1 l),.agg (Fq (Eb r c).2)]:=by
 refine fnG Tryz.func80 ?_;have f:=Z7k e.wf (by omega);obtain⟨X,a⟩:∃X,X=Eb r c:=⟨_,rfl⟩;rw[<-a];unfold Eb at a;refine dv (fun(y:c.kind=1)=>(Zcn r f e.wf (by omega) c.h.1 c.h.2 c.name i.nm c.m i.tg).cal λq d=>?_) (fun(y:¬c.kind=1)=>?_)
 .subst d;rw[dt y] at a;rw[a];exact rfl
 rw[dq y] at a;refine dv (fun(k:c.kind=2)=>(Zdb r f c.h.1 c.h.2 c.g.1 c.g.2 c.name i.nm).cal λq d=>?_) (fun(k:¬c.kind=2)=>?_)
 .subst d;rw[dt k] at a;rw[a];exact rfl
 rw[dq k] at a;refine dv (fun(p:c.kind=3)=>(Z5r r f e.wf c.h.1 c.h.2 c.name i.nm c.fo).cal λq d=>?_) (fun(p:¬c.kind=3)=>?_)
 .subst d;rw[dt p] at a;rw[a];exact rfl
 rw[dq p] at a;refine dv (fun(z:c.kind=4)=>(Z49 r f e.wf A c.h.1 c.h.2 c.name i.nm c.g.1 c.g.2 c.other i.ot).cal λq d=>?_) (fun(z:¬c.kind=4)=>?_)
 .subst d;rw[dt z] at a;rw[a];exact rfl
 rw[dq z] at a;refine dv (fun(v:c.kind=5)=>(Z5c r f e.wf e.shs c.h.1 c.h.2 c.pos c.b.data.toList (by have:=i.b;exact this) c.time).cal λq d=>?_) (fun(v:¬c.kind=5)=>?_)
 .subst d;rw[dt v] at a;rw[a];exact rfl
 rw[dq v] at a;refine dv (fun(o:c.kind=6)=>(Zb7 r f e.wf e.shs c.h.1 c.h.2 c.n c.time).cal λq d=>?_) (fun(o:¬c.kind=6)=>?_)
 .subst d;rw[dt o] at a;rw[a];exact rfl
 rw[dq o] at a;refine dv (fun(s:c.kind=7)=>(Zcz r f e.wf c.h.1 c.h.2 c.name i.nm).cal λq d=>?_) (fun(s:¬c.kind=7)=>?_)
 .subst d;rw[dt s] at a;rw[a];exact rfl
 rw[dq s] at a;refine dv (fun(t:c.kind=8)=>(Z8c r f e.wf e.shs c.h.1 c.h.2 c.pos c.n).cal λq d=>?_) (fun(t:¬c.kind=8)=>?_)
 .subst d;rw[dt t] at a;rw[a];refine⟨⟨cd _,by omega,by omega⟩,⟨λr hr=>(by obtain⟨x,-,rfl⟩:=bj.1 hr;rfl),?_⟩⟩;refine EvBytes.mk ⟨(Ct r c.h c.pos c.n).1.take 1000,Lb gBy _ 1000,?_⟩;exact rfl
 rw[dq t] at a;refine dv (fun(u:c.kind=9)=>(Z7g r f e.wf c.h.1 c.h.2).cal λq d=>?_) (fun(u:¬c.kind=9)=>?_)
 .subst d;rw[dt u] at a;rw[a,P2];exact rfl
 rw[dq u] at a;refine dv (fun(j:c.kind=10)=>(Zdc r f c.h.1 c.h.2).cal λq d=>?_) (fun(j:¬c.kind=10)=>?_)
 .subst d;rw[dt j] at a;rw[a];refine⟨⟨cd _,by omega,by omega⟩,⟨λr hr=>(by obtain⟨x,-,rfl⟩:=bj.1 hr;rfl),?_⟩⟩;rw[show Fr ((Fd r (c.h.1,c.h.2)).map gSt) (Int.toNat 0) (min (((Fd r (c.h.1,c.h.2)).map gSt).length:Int) 50).toNat=((Fd r c.h).take 50).map gSt from Lb gSt (Fd r c.h) 50];exact rfl
 rw[dq j] at a;have w:c.kind=11:=by omega
 refine dv (λ_=>(Z5q r f c.h.1 c.h.2).cal λq d=>?_) (λh=>du w h);subst d;rw[a];exact rfl
theorem Z86 (t:RTb){K:Nat}(w:Gd t.r K)(A:K<=999999)(B:t.l.length<=999999)(c:RCl)(y:SmC c):FnV Tryz.prog 49 [.agg (tbC t.r t.l),.agg (enC c)] λg=>g=.tup [.agg (tbC (By t c).1.r (By t c).1.l),.agg (Fq (By t c).2)]:=by
 refine fnG Tryz.func49 ?_;refine Ht (Zai c) ?_;refine ec (λd=>?_) λd=>?_
 .have d:okB c=false:=by simpa using d
  rw[Qf (Jm.1 d)];exact rfl
 have d:okB c=true:=by simpa using d
 have b:=Ie.1 d;refine Ht (Zdo t.r t.l (by omega) c.client) ?_;have m:(c.number < (B4 t.l c.client).number\/((B4 t.l c.client).number=0/\t.l.length >= 100))->By t c=(t,Mp 1):=Pn b;refine dw (fun(n:c.number < (B4 t.l c.client).number)=>?_) fun(n:¬c.number < (B4 t.l c.client).number)=>?_
 .rw[m (.inl n)];exact rfl
 refine dv (fun(o:(B4 t.l c.client).number=0)=>dw (λk=>?_) λk=>?_) fun(o:¬(B4 t.l c.client).number=0)=>?_
 .have k:((t.l.map Z8n).length:Int) >= 100:=k;rw[ao] at k;rw[m (.inr ⟨o,by omega⟩)];exact rfl
 all_goals
  have f:¬(c.number < (B4 t.l c.client).number\/((B4 t.l c.client).number=0/\t.l.length >= 100)):=λh=>by
   rcases h with h | ⟨h,h'⟩
   .exact n h
   .first
    | exact o h
    | exact k (by show((t.l.map Z8n).length:Int) >= 100;rw[ao];omega)
  refine dv (fun(q:c.number=(B4 t.l c.client).number)=>?_) fun(q:¬c.number=(B4 t.l c.client).number)=>?_
  .rw[Pr b f q];exact rfl
  rw[Lu b f q];refine Ht (Zeu t.r t.l w A c y b.1.2.2.2.2) ?_;refine As [2,3,4,5,7] [0,1,2,3,5] (λi:Nat=>[(9,gI i),(8,.osl 6)]) (λi=>[(6,.slc (((t.l.take i).filter (λx=>decide (x.client≠c.client))).map Z8n) 76 15)]) (λi=>i<=t.l.length) (λi=>t.l.length - i) 0 (av _) ⟨⟨rfl,rfl⟩,⟨rfl,rfl⟩,trivial⟩ ⟨RL1,trivial⟩ rfl λi v=>?_;have e:∀j,((t.l.take j).filter (λx=>decide (x.client≠c.client))).length<=t.l.length:=λj=>co (ah _ _) (by rw[be];omega);refine dw (λa=>?_) (λa=>?_)
  .refine ef (by simpa using a) λx s=>?_;have a:=B8 s;have u:=Bb s;refine dz (fun(p:x.client≠c.client)=>ee s ?_) fun(p:x.client=c.client)=>?_
   .refine⟨by have:=e i;rw[ao];show _+1<=_;omega,⟨by omega,i+1,by omega,(by dsimp only;omega),?_⟩⟩;refine⟨?_,?_,rfl⟩<;>repeat' (first|exact trivial|with_reducible rfl|exact rfl|refine And.intro ?_ ?_)
    exact eqR (by rw[u,List.filter_append,az,List.filter_cons_of_pos (by simpa using p)];rfl)
   .refine⟨by omega,i+1,by omega,(by dsimp only;omega),?_⟩;refine⟨?_,?_,rfl⟩<;>repeat' (first|exact trivial|with_reducible rfl|exact rfl|refine And.intro ?_ ?_)
    exact eqR (by rw[u,List.filter_append,List.filter_cons_of_neg (by simpa using p),List.filter_nil,dl])
  have v:i=t.l.length:=by simp at a;omega
  subst v;have:=e t.l.length;rw[List.take_length] at this⊢;refine⟨by rw[ao];show _+1<=_;omega,?_⟩;exact congrArg (λz=>G.tup [.agg z,.agg (Fq (Eb t.r c).2)]) (Zab (Eb t.r c).1 (t.l.filter (λx=>decide (x.client≠c.client))) ⟨c.client,c.number,(Eb t.r c).2⟩).symm
theorem Z6y (c:RCl):FnV Tryz.prog 11 [.agg (enC c)] λg=>g=.agg (enC c):=by refine fnG Tryz.func11 ?_;exact rfl
theorem Q0 (a:RAn):FnV Tryz.prog 27 [.agg (Fq a)] λg=>g=.agg (Fq a):=by refine fnG Tryz.func27 ?_;exact rfl
def Z3h (c:RCl):Bool:=!(decide ((c.b.size:Int) > 2000)||(decide (c.pos > 5000)&&decide (c.pos < 1048576))||(decide (c.n > 5000)&&decide (c.n<=1048576)))
def Zfg (c:RCl):Prop:=¬(c.b.size:Int) > 2000/\¬(c.pos > 5000/\c.pos < 1048576)/\¬(c.n > 5000/\c.n<=1048576)
theorem Vy {c:RCl}:Z3h c=true↔Zfg c:=by unfold Z3h Zfg;simp only[Bool.not_eq_true',Bool.or_eq_false_iff,Bool.and_eq_false_iff,decide_eq_false_iff_not];omega
def Sl (l:List RCl):Bool:=decide (l.length<=200)&&l.all Z3h
theorem Nf (l:List RCl):FnV Tryz.prog 18 [.sl (l.map enC)] λg=>g=.v (.bool (Sl l)):=by
 refine fnG Tryz.func18 ?_;refine dw (λh=>?_) λh=>?_
 .have h:((l.map enC).length:Int) > 200:=h;rw[ao] at h;have:Sl l=false:=by unfold Sl;rw[decide_eq_false (by omega)];rfl
  rw[this];exact rfl
 have h:¬((l.map enC).length:Int) > 200:=h;rw[ao] at h;have no:∀{c:RCl} {i:Nat},l[i]?=some c->Z3h c=false->G.v (.bool false)=G.v (.bool (Sl l)):=λ{c i} d r=>by
  have:l.all Z3h=false:=by rw[List.all_eq_false];exact⟨c,ar d,by rw[r];decide⟩
  unfold Sl;rw[this,Bool.and_false]
 refine As [8,9] [] (λi:Nat=>[(10,gI i)]) (λ_=>[]) (λi=>i<=l.length/\(l.take i).all Z3h=true) (λi=>l.length - i) 0 ⟨av _,rfl⟩ ⟨⟨rfl,rfl⟩,trivial⟩ trivial rfl λi ⟨p,ha⟩=>?_;refine dw (λa=>?_) (λa=>?_)
 .refine ef (by simpa using a) λc d=>?_;have a:=B8 d;have q:Z3h c=true->(l.take (i+1)).all Z3h=true:=λh=>by rw[Bb d,List.all_append,ha];simpa using h
  have no:¬Zfg c->G.v (.bool false)=G.v (.bool (Sl l)):=λh=>no d (by
   cases e:Z3h c with
   | false=>rfl
   | true=>exact du (Vy.1 e) h)
  refine dw (fun(f:(c.b.size:Int) > 2000)=>no λh=>h.1 f) fun(f:¬(c.b.size:Int) > 2000)=>?_;refine dw (fun(k:c.pos > 5000)=>dw (fun(o:c.pos < 1048576)=>no λh=>h.2.1 ⟨k,o⟩) fun(o:¬c.pos < 1048576)=>?_) fun(k:¬c.pos > 5000)=>?_
  all_goals
   refine dw (fun(m:c.n > 5000)=>dw (fun(j:c.n<=1048576)=>no λh=>h.2.2 ⟨m,j⟩) fun(j:¬c.n<=1048576)=>?_) fun(m:¬c.n > 5000)=>?_
  all_goals
   refine⟨by omega,i+1,⟨by omega,q (Vy.2 ⟨f,by omega,by omega⟩)⟩,(by dsimp only;omega),?_⟩;refine⟨?_,?_,rfl⟩<;>repeat' (first|exact trivial|with_reducible rfl|exact rfl|refine And.intro ?_ ?_)
 .have p:i=l.length:=by simp at a;omega
  subst p;rw[List.take_length] at ha;have:Sl l=true:=by unfold Sl;rw[ha,decide_eq_true (by omega)];rfl
  rw[this];exact rfl
noncomputable def Mi (t:RTb) (l:List RCl):RTb:=l.foldl (λt c=>(By t c).1) t
theorem Rh {t:RTb}{l:List RCl}{i:Nat}{c:RCl}(h:l[i]?=some c):Mi t (l.take (i+1))=(By (Mi t (l.take i)) c).1:=by unfold Mi;rw[Bb h,List.foldl_append];rfl
theorem Z17 (t:RTb)(c:RCl):(By t c).1.l.length<=t.l.length+1:=by
 unfold By;split
 .exact Nat.le_succ _
 split
 .exact Nat.le_succ _
 split
 .exact Nat.le_succ _
 .show(_++[_]).length<=_;rw[bf];have:=ah (λx:RLs=>decide (x.client≠c.client)) t.l;show _+1<=_;omega
theorem J7 (t:RTb)(l:List RCl):(Mi t l).l.length<=t.l.length+l.length:=by
 induction l generalizing t with
 | nil=>exact au _
 | cons c l ih =>
  have b:=ih (By t c).1;have a:=Z17 t c;show(Mi (By t c).1 l).l.length<=t.l.length+(l.length+1);omega
def PlP (t:RTb)(K:Nat)(l:List RCl)(g:G)(rs:List R):Prop:=g=.tup [.agg (tbC (Mi t l).r (Mi t l).l),.v (.bool true)]/\∃a b,a<=K+l.length/\FM (Mi t l) a b/\rs=oT (Mi t l).r a b
abbrev tRT:Nat:=65
theorem Zgt {t a:RTb}{ty:Nat}(h:t=a):(some (R.blk (tbC t.r t.l) ty):Option R)=some (R.blk (tbC a.r a.l) ty):=by rw[h]
theorem Z10 {t:RTb}{K:Nat}{L:List (Int × G)}(b:FM t K L)(c:RCl):(By t c).2.names.length<=1000000:=by
 unfold By;split
 .exact av _
 split
 .exact av _
 split
 .show(B4 t.l c.client).a.names.length<=_;cases hf:t.l.find? (λx=>decide (x.client=c.client)) with
  | none=>rw[Ff hf];exact av _
  | some x=>rw[(Dk hf).1];exact b.nm x (Dk hf).2.1
 .exact Qk t.r c
theorem Gt (t:RTb){K:Nat}{L:List (Int × G)}(s:FM t K L)(l:List RCl)(u:K+l.length<=900000)(w:t.l.length+l.length<=900000)(n:∀c∈l,SmC c):FnO Tryz.prog 21 [.ptr 0 0,.agg (tbC t.r t.l),.sl (l.map enC)] (oT t.r K L) (PlP t K l):=by
 refine Z4u Tryz.func21 (Cj _ _) ?_;refine As [0,4,6,12,13] [4] (λx:Nat × Nat × List (Int × G)=>[(14,gI x.1)]) (λx=>[(0,.blk [.ptr 1 0,.mp 2] tTb),(1,.abs (fsP (Mi t (l.take x.1)).r x.2.1)),(2,.mpI x.2.2),(3,.blk (tbC (Mi t (l.take x.1)).r (Mi t (l.take x.1)).l) tRT)]) (λx=>x.1<=l.length/\x.2.1<=K+x.1/\FM (Mi t (l.take x.1)) x.2.1 x.2.2) (λx=>l.length - x.1) (0,K,L) ⟨av _,au _,s⟩ ⟨⟨rfl,rfl⟩,trivial⟩ (by exact RL4) rfl fun⟨i,K',L'⟩ ⟨hi,hK',hM'⟩=>?_;dsimp only at hi hK' hM';refine dw (λa=>?_) (λa=>?_)
 .refine ef (by simpa using a) λc h=>?_;have a:=B8 h;have d:=n c (ar h);have e:=Rh (t:=t) h;have b:=J7 t (l.take i);rw[be] at b;refine Ht (Z86 (Mi t (l.take i)) hM'.gd (by omega) (by omega) c d) ?_;refine Ht (Z6y c) ?_;refine(Q7 hM' (by omega) c d).cal λq rs p=>?_;obtain⟨rfl,m,k,j,g,rfl⟩:=p;refine Ht (Q0 _) ?_;refine Ht (Z2z _ (Z10 hM' c)) ?_;refine ec (λo=>by cases o) λ_=>?_;refine⟨by omega,(i+1,m,k),⟨by dsimp only;omega,by dsimp only;omega,by rw[e];exact g⟩,(by dsimp only;omega),?_⟩;refine⟨?_,?_,rfl⟩<;>repeat' (first|exact trivial|with_reducible rfl|exact rfl|refine And.intro ?_ ?_)
  .rw[e];exact rfl
  .exact Zgt e.symm
 .have f:i=l.length:=by simp at a;omega
  subst f;rw[List.take_length] at hM'⊢;exact(Cu _ _ _ (.tup [.agg (tbC (Mi t l).r (Mi t l).l),.v (.bool true)]) rfl rfl rfl rfl rfl ⟨rfl,K',L',hK',hM',rfl⟩)
theorem Hg {t:RTb}{K:Nat}{L:List (Int × G)}(e:FM t K L)(p:K<=900000)(l:List RLs)(s:l.length<=900000)(h:∀x∈l,B4 t.l x.client=x):FnO Tryz.prog 23 [.ptr 0 0,.agg (tbC t.r l)] (oT t.r K L) λg rs=>g=.v (.bool true)/\rs=oT t.r K L:=by
 refine Z4u Tryz.func23 (Cj _ _) ?_;have m:=Z7k e.gd.wf (by omega);have u:=m.i;refine As [0,3,4,19,20] [0,1,2,3] (λi:Nat=>[(21,gI i)]) (λ_=>[]) (λi=>i<=l.length) (λi=>l.length - i) 0 (av _) ⟨⟨rfl,rfl⟩,trivial⟩ trivial rfl λi o=>?_;refine dw (λb=>?_) (λb=>?_)
 .refine ef (by simpa using b) λx k=>?_;have b:=B8 k;have f:=h x (ar k);refine(Ve e x.client).cal λq rs d=>?_;rw[f] at d;obtain⟨rfl,rfl⟩:=d;refine dz (λc=>du rfl c) λ_=>?_;refine Ht (Q0 _) ?_;have n:x.a.names.length<=1000000:=by
   rw[<-f];cases hf:t.l.find? (λy=>decide (y.client=x.client)) with
   | none=>rw[Ff hf];exact av _
   | some y=>rw[(Dk hf).1];exact e.nm y (Dk hf).2.1
  refine Ht (Z2z _ n) ?_;refine ec (λc=>by cases c) λ_=>⟨by omega,i+1,by omega,(by dsimp only;omega),?_⟩;refine⟨?_,?_,rfl⟩<;>repeat' (first|exact trivial|with_reducible rfl|exact rfl|refine And.intro ?_ ?_)
 refine(Zfm e).cal λq rs d=>?_;obtain⟨rfl,rfl⟩:=d;refine As [0,3,4,9,49,50] [0,1,2,3,4] (λi:Nat=>[(51,gI i)]) (λ_=>[]) (λi=>i<=t.r.ins.length) (λi=>t.r.ins.length - i) 0 (av _) ⟨⟨rfl,rfl⟩,trivial⟩ trivial rfl λi o=>?_;refine dw (λb=>?_) (λb=>?_)
 .refine ef (by simpa using b) λx k=>?_;have b:=B8 k;refine(Z7t (x.id,x.gen)).cal λq rs d=>?_;obtain⟨rfl,rfl⟩:=d;have j:=Z7g t.r m e.gd.wf x.id x.gen;rw[P2] at j⊢;refine Ht j ?_;refine dz (λc=>du rfl c) λ_=>?_;refine Ht (Q0 {an0 with i:=Z02 t.r (x.id,x.gen)}) ?_;refine EvEq.flat [.i .i64,.i .i64,.i .i64,.i .i64,.i .i64,.i .i64,.i .i64,.i .i64] [_,_,_,_,_,_,_,_] [_,_,_,_,_,_,_,_] (by kernel_rfl) (by kernel_rfl) (by kernel_rfl) rfl rfl rfl rfl (λ_=>?_) (λh=>du rfl h);refine ec (λc=>by cases c) λ_=>⟨by omega,i+1,by omega,(by dsimp only;omega),?_⟩;refine⟨?_,?_,rfl⟩<;>repeat' (first|exact trivial|with_reducible rfl|exact rfl|refine And.intro ?_ ?_)
 refine(Zb2).cal λq rs d=>?_;obtain⟨rfl,rfl⟩:=d;refine Ht (Z78 t.r m e.gd.wf) ?_;refine dv (λ_=>?_) λc=>du rfl c;refine⟨by simp;omega,?_⟩;exact Cu _ _ _ (.v (.bool ((200 - (t.r.ins.length:Int))==(200 - ((t.r.ins.map enI).length:Int))))) rfl rfl rfl rfl rfl ⟨by simp,rfl⟩
def aS:ByteArray:=⟨#[97]⟩
def cA:RCl:={c00 with client:=1,number:=1,kind:=1,h:=(1,1),name:=aS,m:=⟨1,0,0,eS⟩}
def anA:RAn:={an0 with h:=(2,1)}
theorem Z85:(D7 (Et 9) (1,1) aS ⟨1,0,0,eS⟩).2=((2,1),0):=by decide +kernel
theorem Z8t:okC cA:=⟨by unfold Zdy;decide,rfl⟩
theorem Zcj:okW cA:=⟨Z8t,by decide +kernel,by decide +kernel⟩
theorem Z8k:(By ⟨Et 9,[]⟩ cA).2=anA/\(By ⟨Et 9,[]⟩ cA).1.l=[⟨1,1,anA⟩]:=by
 have e:(Eb (Et 9) cA).2=anA:=by unfold Eb;rw[dt (show cA.kind=1 from rfl)];show {an0 with h:=(D7 (Et 9) (1,1) aS ⟨1,0,0,eS⟩).2.1,code:=(D7 (Et 9) (1,1) aS ⟨1,0,0,eS⟩).2.2}=anA;rw[Z85];rfl
 rw[Lu Z8t (by decide) (by decide)];exact⟨e,by rw[e];rfl⟩
theorem Z84 {t:RTb}(h:t.l=[⟨1,1,anA⟩]):By t cA=(t,anA):=by
 have e:B4 t.l cA.client=⟨1,1,anA⟩:=by rw[h];rfl
 rw[Pr Z8t (by rw[e];show ¬((1:Int) < 1\/((1:Int)=0/\_));omega) (by rw[e];rfl),e]
theorem smA:SmC cA:=⟨by decide,by decide,by decide,by decide⟩
theorem eA:eC cA=0:=dt Zcj
theorem dA:dC (⟨(bC cA).toArray⟩:ByteArray).data.toList=cA:=(Zaz Zcj).2
theorem edA:edC (⟨(bC cA).toArray⟩:ByteArray).data.toList=0:=dt (Zaz Zcj).1
theorem bA:(⟨(bC cA).toArray⟩:ByteArray).size<=2000000:=by have h:=Zcj.2.2;have e:(⟨(bC cA).toArray⟩:ByteArray).size=(bC cA).length:=rfl;rw[e];unfold bC;rw[dt Zcj];omega
set_option maxHeartbeats 4000000 in
theorem Dz:FnV Tryz.prog 14 [] λq=>q=.v (.bool true):=by
 refine fnG Tryz.func14 ?_;refine(Qq 9 (by decide)).cal λq rs a=>?_;obtain⟨rfl,rfl,d⟩:=a;refine(Zfm d).cal λq rs a=>?_;obtain⟨rfl,rfl⟩:=a;obtain⟨g,l⟩:=Z8k;have f:=Z84 l
 repeat' first
  | refine And.intro ?_ ?_
  | (refine(Q7 d (by decide) cA smA).cal λq rs a=>?_
     rw[ApP,g] at a;obtain⟨rfl,n,m,e,c,rfl⟩:=a)
  | (refine(Q7 c (by omega) cA smA).cal λq rs a=>?_
     rw[ApP,f] at a;obtain⟨rfl,p,o,j,k,rfl⟩:=a)
 all_goals
  refine dx (.seen 4 _ _ rfl (.done (.see (.same ((Z29 cA).toO.cal λq rs a=>?_)))));obtain⟨rfl,rfl⟩:=a;refine .done ?_;unfold wrC;rw[eA];refine Ht (Z0q _ bA) ?_;unfold rdC;rw[dA,edA];refine dv (λ_=>?_) λb=>du rfl b;refine EvEq.flat [.i .i64,.i .i64] [_,_] [_,_] (by kernel_rfl) (by kernel_rfl) (by kernel_rfl) rfl rfl rfl rfl (λ_=>ec (λ_=>?_) λh=>by cases h) (λh=>du rfl h);refine EvEq.flat [.i .i64,.i .i64] [_,_] [_,_] (by kernel_rfl) (by kernel_rfl) (by kernel_rfl) rfl rfl rfl rfl (λ_=>ec (λ_=>?_) λh=>by cases h) (λh=>du rfl h);refine dv (λ_=>?_) λb=>du rfl b;refine dv (λ_=>?_) λb=>du rfl b;refine EvEq.flat shC (S2 cA) (S2 cA) (by kernel_rfl) (by kernel_rfl) (by kernel_rfl) rfl rfl rfl rfl (λ_=>?_) (λh=>du rfl h);exact rfl
theorem Jj {l:List RCl}(h:Sl l=true):l.length<=200:=by unfold Sl at h;rw[bd] at h;simpa using h.1
theorem Ua {l:List RLs}(h:(l.map RLs.client).Nodup):∀x∈l,B4 l x.client=x:=by
 induction l with
 | nil=>intro x a;cases a
 | cons y l ih =>
  rw[cw,List.nodup_cons] at h;intro x a;unfold B4 at ih⊢;rcases bq.1 a with rfl | a
  .rw[List.find?_cons_of_pos (by simp)];rfl
  .have:y.client≠x.client:=λe=>h.1 (by rw[e];exact bj.2 ⟨x,a,rfl⟩);rw[List.find?_cons_of_neg (by simpa using this)];exact ih h.2 x a
set_option maxHeartbeats 4000000 in
theorem Y6 (room:Int)(hr:room<=9223372036854775807)(l:List RCl)(h:∀c∈l,SmC c):FnV Tryz.prog 6 [gI room,.sl (l.map enC)] λq=>q=.v (.bool true):=by
 refine fnG Tryz.func6 ?_;refine(Qq room hr).cal λq rs e=>?_;obtain⟨rfl,rfl,i⟩:=e;refine Ht (Nf l) ?_;cases hb:Sl l with
 | false =>
  refine ec (λ_=>?_) λb=>by cases b
  refine Ht Dz ?_;exact rfl
 | true =>
  have f:=Jj hb;refine ec (λb=>by cases b) λ_=>?_;refine Ht (Z0 room) ?_;refine(Gt ⟨Et room,[]⟩ i l (by omega) (by show 0+l.length<=900000;omega) h).cal λq rs e=>?_;obtain⟨rfl,j,k,g,d,rfl⟩:=e;refine Ht Dz ?_
  repeat' first
   | refine ec (λ_=>?_) λb=>by cases b
  have a:=J7 ⟨Et room,[]⟩ l;refine(Hg d (by omega) _ (by have a:_<=0+l.length:=a;omega) (Ua d.nd)).cal λq rs e=>?_;obtain⟨rfl,rfl⟩:=e;exact rfl
set_option maxHeartbeats 4000000 in
theorem Rc (l:List RCl)(s:∀c∈l,SmC c)(c:RCl)(j:SmC c):FnV Tryz.prog 8 [.sl (l.map enC),.agg (enC c)] λq=>q=.v (.bool true):=by
 refine fnG Tryz.func8 ?_;refine(Qq 50 (by decide)).cal λq rs d=>?_;obtain⟨rfl,rfl,t⟩:=d;refine Ht (Nf l) ?_;cases hb:Sl l
 case' true =>
  have n:=Jj hb;refine ec (λa=>by cases a) λ_=>?_;refine Ht (Nf [c]) ?_;cases hb1:Sl [c]
  case' true =>
   refine ec (λa=>by cases a) λ_=>?_;refine Ht (Ov c.kind) ?_;refine ec (λhr=>?_) λhr=>?main
 case main =>
  have hr:7<=c.kind/\c.kind<=11:=by simpa using hr
  refine Ht (Z0 50) ?_;refine(Gt ⟨Et 50,[]⟩ t l (by omega) (by show 0+l.length<=900000;omega) s).cal λq rs d=>?_;obtain⟨rfl,m,w,r,i,rfl⟩:=d;have p:(Mi ⟨Et 50,[]⟩ l).l.length<=0+l.length:=J7 ⟨Et 50,[]⟩ l;refine(Gt _ i [c] (by show m+1<=_;omega) (by show _+1<=_;omega) (λx g=>by rw[bx.1 g];exact j)).cal λq rs d=>?_;obtain⟨rfl,o,u,e,k,rfl⟩:=d;refine Ht Dz ?_
  repeat' first
   | refine ec (λ_=>?_) λa=>by cases a
  refine(Hg k (by have e:o<=m+1:=e;omega) [] (by decide) (λx g=>by cases g)).cal λq rs d=>?_;obtain⟨rfl,rfl⟩:=d;exact rfl
 all_goals
  try refine ec (λ_=>?_) λa=>by cases a
  refine Ht Dz ?_;refine ec (λ_=>?_) λa=>by cases a
  refine Ht (Ov c.kind) ?_;refine dw (λf=>?_) λf=>?_
  .exact congrArg (λb=>G.v (.bool b)) (beq_iff_eq.2 (decide_eq_decide.2 ⟨λh=>h.2,λh=>⟨f,h⟩⟩))
  .exact congrArg (λb=>G.v (.bool b)) (beq_iff_eq.2 (decide_eq_false λh=>f h.1))
def Z6z:List Sp:=[.i .i64,.i .i64,.i .i64,.i .i64,.i .i64,.i .i64,.i .i64,.s,.s,.i .i64,.i .i64,.i .i64,.s,.b,.i .i64,.i .i64,.i .i64,.s]
theorem Z0d {r:List G}(h:TyL Z6z r):∃c:RCl,r=enC c/\SmC c:=by obtain⟨t,r,rfl,-,h⟩:=h.i_inv;obtain⟨a1,r,rfl,-,h⟩:=h.i_inv;obtain⟨a2,r,rfl,-,h⟩:=h.i_inv;obtain⟨k,r,rfl,-,h⟩:=h.i_inv;obtain⟨w,r,rfl,-,h⟩:=h.i_inv;obtain⟨v,r,rfl,-,h⟩:=h.i_inv;obtain⟨n,r,rfl,-,h⟩:=h.i_inv;obtain⟨d,r,rfl,j,h⟩:=h.s_inv;obtain⟨o,r,rfl,m,h⟩:=h.s_inv;obtain⟨u,r,rfl,-,h⟩:=h.i_inv;obtain⟨f,r,rfl,-,h⟩:=h.i_inv;obtain⟨e,r,rfl,-,h⟩:=h.i_inv;obtain⟨g,r,rfl,a,h⟩:=h.s_inv;obtain⟨p,r,rfl,-,h⟩:=h.b_inv;obtain⟨l,r,rfl,-,h⟩:=h.i_inv;obtain⟨i,r,rfl,-,h⟩:=h.i_inv;obtain⟨q,r,rfl,-,h⟩:=h.i_inv;obtain⟨s,r,rfl,b,h⟩:=h.s_inv;obtain rfl:=h.nil_inv;exact⟨⟨t,a1,a2,(k,w),(v,n),d,o,⟨u,f,e,g⟩,p,l,i,q,s⟩,rfl,⟨j,m,a,b⟩⟩
theorem Gf {g:G}(h:TyL [.sl Z6z] [g]):∃l:List RCl,g=.sl (l.map enC)/\∀c∈l,SmC c:=by obtain⟨a,r,e,d,hr,h⟩:=h.sl_inv;obtain rfl:=h.nil_inv;obtain⟨l,rfl,b⟩:=Za1 (f:=enC) (Q:=SmC) λr h=>Z0d (hr r h);exact⟨l,by simpa using e,b⟩
theorem Zr {g:G}(h:TyL [.i .i64] [g]):∃n:Int,g=gI n/\n<=9223372036854775807:=by
 obtain⟨n,r,e,a,h⟩:=h.i_inv;obtain rfl:=h.nil_inv;have b:IntKind.i64.max=9223372036854775807:=by decide
 rw[b] at a;exact⟨n,by simpa using e,a.2⟩
theorem Z1l (t:RTb)(c:RCl)(id:Int):(c.client≠id->(B4 (By t c).1.l id).number=(B4 t.l id).number)/\(B4 t.l id).number<=(B4 (By t c).1.l id).number:=by
 by_cases a:okC c
 case neg=>rw[Qf a];exact⟨λ_=>rfl,cd _⟩
 by_cases b:c.number < (B4 t.l c.client).number\/((B4 t.l c.client).number=0/\t.l.length >= 100)
 .rw[Pn a b];exact⟨λ_=>rfl,cd _⟩
 by_cases d:c.number=(B4 t.l c.client).number
 .rw[Pr a b d];exact⟨λ_=>rfl,cd _⟩
 rw[Lu a b d];obtain⟨y,f⟩:∃y:RLs,y=⟨c.client,c.number,(Eb t.r c).2⟩:=⟨_,rfl⟩;have e:B4 (t.l.filter (λx=>decide (x.client≠y.client))++[y]) id=if y.client=id then y else B4 t.l id:=by unfold B4;rw[Vk];split<;>rfl
 rw[f] at e;show(_->(B4 (_++_) id).number=_)/\_<=(B4 (_++_) id).number;rw[e];refine⟨λh=>by rw[dq h],?_⟩;split
 .next h =>
  have h:c.client=id:=h;show(B4 t.l id).number<=c.number;rw[<-h];omega
 .exact cd _
set_option maxHeartbeats 4000000 in
theorem N0 (l:List RCl)(y:∀c∈l,SmC c)(id:Int):FnV Tryz.prog 5 [.sl (l.map enC),gI id] λq=>q=.v (.bool true):=by
 refine fnG Tryz.func5 ?_;refine(Qq 50 (by decide)).cal λq rs d=>?_;obtain⟨rfl,rfl,z⟩:=d;refine Ht (Nf l) ?_;cases hb:Sl l with
 | false =>
  refine ec (λ_=>?_) λg=>by cases g
  refine Ht Dz ?_;exact rfl
 | true =>
 have u:=Jj hb;refine ec (λg=>by cases g) λ_=>?_;refine As [1,5,28,29] [] (λx:Nat × Nat × List (Int × G)=>[(30,gI x.1),(6,gI (B4 (Mi ⟨Et 50,[]⟩ (l.take x.1)).l id).number)]) (λx=>[(0,.blk [.ptr 1 0,.mp 2] tTb),(1,.abs (fsP (Mi ⟨Et 50,[]⟩ (l.take x.1)).r x.2.1)),(2,.mpI x.2.2)]) (λx=>x.1<=l.length/\x.2.1<=x.1/\FM (Mi ⟨Et 50,[]⟩ (l.take x.1)) x.2.1 x.2.2) (λx=>l.length - x.1) (0,0,[]) ⟨av _,au _,z⟩ ⟨⟨rfl,rfl⟩,⟨rfl,rfl⟩,trivial⟩ (by exact RL3) rfl fun⟨i,K',L'⟩ ⟨hi,hK',hM'⟩=>?_;dsimp only at hi hK' hM';refine dw (λa=>?_) (λa=>?_)
 .refine ef (by simpa using a) λc n=>?_;have a:=B8 n;have m:=y c (ar n);have f:=Rh (t:=⟨Et 50,[]⟩) n;have k:=Z1l (Mi ⟨Et 50,[]⟩ (l.take i)) c id;refine(Ve hM' id).cal λq rs d=>?_;obtain⟨rfl,rfl⟩:=d;refine Ht (Z6y c) ?_;refine(Q7 hM' (by omega) c m).cal λq rs d=>?_;obtain⟨rfl,p,o,w,e,rfl⟩:=d;refine(Ve e id).cal λq rs d=>?_;obtain⟨rfl,rfl⟩:=d;refine dz (fun(s:c.client≠id)=>?_) fun(s:c.client=id)=>?_
  .refine dz (λh=>du (k.1 s) h) λ_=>?_;refine dw (λh=>du k.2 (by omega)) λ_=>?_;refine⟨by dsimp only;omega,(i+1,p,o),⟨by dsimp only;omega,by dsimp only;omega,by rw[f];exact e⟩,(by dsimp only;omega),?_⟩;refine⟨?_,?_,rfl⟩<;>repeat' (first|exact trivial|with_reducible rfl|exact rfl|refine And.intro ?_ ?_)
   .rw[f];exact rfl
   .rw[f];exact rfl
  .refine dw (λh=>du k.2 (by omega)) λ_=>?_;refine⟨by dsimp only;omega,(i+1,p,o),⟨by dsimp only;omega,by dsimp only;omega,by rw[f];exact e⟩,(by dsimp only;omega),?_⟩;refine⟨?_,?_,rfl⟩<;>repeat' (first|exact trivial|with_reducible rfl|exact rfl|refine And.intro ?_ ?_)
   .rw[f];exact rfl
   .rw[f];exact rfl
 .have j:i=l.length:=by simp at a;omega
  subst j;refine(Ve hM' id).cal λq rs d=>?_;obtain⟨rfl,rfl⟩:=d;refine Ht Dz ?_;refine ec (λ_=>?_) λg=>by cases g
  exact congrArg (λb=>G.v (.bool b)) (beq_self_eq_true _)
theorem Z1b (a:RAn)(b:a.names.length<=1000000):FnO Tryz.prog 46 [.agg (Fq a)] [] λg rs=>g=.oag (Zd7 a (.osl 0))/\rs=[.slc (a.names.map gSt) Z72 1]:=by refine Z5 Tryz.func46 (Z3m _) ?_;refine(Uk a.names b).cal λq rs c=>?_;obtain⟨rfl,rfl⟩:=c;exact .inl ⟨itL [(2,.slc (a.names.map gSt) Z72 1)],.oag (Zd7 a (.osl 0)),⟨⟨⟨_,rfl,rfl,rfl⟩,trivial⟩,rfl,⟨_,rfl⟩,rfl,rfl,⟨rfl,rfl⟩⟩⟩
theorem Ns {t:RTb}{K:Nat}{L:List (Int × G)}(b:FM t K L)(id:Int):(B4 t.l id).a.names.length<=1000000:=by
 cases hf:t.l.find? (λy=>decide (y.client=id)) with
 | none=>rw[Ff hf];exact av _
 | some y=>rw[(Dk hf).1];exact b.nm y (Dk hf).2.1
theorem Zcg {t:RTb}{K:Nat}{L:List (Int × G)}(i:FM t K L)(id:Int):FnO Tryz.prog 19 [.ptr 0 0,gI id] (oT t.r K L) λg rs=>g=.tup [gI (B4 t.l id).number,.oag (Zd7 (B4 t.l id).a (.osl 3))]/\rs=oT t.r K L++[.slc ((B4 t.l id).a.names.map gSt) Z72 1]:=by
 refine Z5 Tryz.func19 (Cj _ _) ?_;have b:=i.lk id;have c:=Ns i id;cases hf:t.l.find? (λx=>decide (x.client=id)) with
 | none =>
  rw[hf] at b;have d:=Ff hf;rw[d];refine⟨λg e=>(by rw[b] at e;cases e),λ_=>?_⟩;refine(Z1b an0 (av _)).cal λq rs h=>?_;obtain⟨rfl,rfl⟩:=h;exact .inl ⟨itL [(0,.blk [.ptr 1 0,.mp 2] tTb),(1,.abs (fsP t.r K)),(2,.mpI L),(5,.slc (an0.names.map gSt) Z72 1)],.tup [gI 0,.oag (Zd7 an0 (.osl 3))],⟨⟨⟨_,rfl,rfl,rfl⟩,⟨_,rfl,rfl,rfl⟩,⟨_,rfl,rfl,rfl⟩,⟨_,rfl,rfl,rfl⟩,trivial⟩,rfl,⟨_,rfl⟩,rfl,rfl,⟨rfl,rfl⟩⟩⟩
 | some x =>
  rw[hf] at b;obtain⟨f,k,j⟩:=Dk hf;rw[f] at c⊢;refine⟨λg e=>?_,λe=>by rw[b] at e;cases e⟩;rw[b] at e;cases e;refine(Z1b x.a c).cal λq rs h=>?_;obtain⟨rfl,rfl⟩:=h;exact .inl ⟨itL [(0,.blk [.ptr 1 0,.mp 2] tTb),(1,.abs (fsP t.r K)),(2,.mpI L),(5,.slc (x.a.names.map gSt) Z72 1)],.tup [gI x.number,.oag (Zd7 x.a (.osl 3))],⟨⟨⟨_,rfl,rfl,rfl⟩,⟨_,rfl,rfl,rfl⟩,⟨_,rfl,rfl,rfl⟩,⟨_,rfl,rfl,rfl⟩,trivial⟩,rfl,⟨_,rfl⟩,rfl,rfl,⟨rfl,rfl⟩⟩⟩
set_option maxHeartbeats 4000000 in
theorem Sd (l m:List RCl)(B:∀c∈l,SmC c)(u:∀c∈m,SmC c):FnV Tryz.prog 9 [.sl (l.map enC),.sl (m.map enC)] λq=>q=.v (.bool true):=by
 refine fnG Tryz.func9 ?_;refine(Qq 50 (by decide)).cal λq rs b=>?_;obtain⟨rfl,rfl,E⟩:=b;refine Ht (Nf l) ?_;cases hb:Sl l
 case' true =>
  have t:=Jj hb;refine ec (λg=>by cases g) λ_=>?_;refine Ht (Nf m) ?_;cases hb1:Sl m
  case' true=>refine ec (λg=>by cases g) λ_=>?_
 case true.true =>
  have p:=Jj hb1;refine Ht (Z0 50) ?_;refine(Gt ⟨Et 50,[]⟩ E l (by omega) (by show 0+l.length<=900000;omega) B).cal λq rs b=>?_;obtain⟨rfl,z,J,A,d,rfl⟩:=b;have o:(Mi ⟨Et 50,[]⟩ l).l.length<=0+l.length:=J7 ⟨Et 50,[]⟩ l;obtain⟨T,hT⟩:∃T,T=Mi ⟨Et 50,[]⟩ l:=⟨_,rfl⟩;rw[<-hT] at d o⊢;refine(Z3d d).cal λq rs b=>?_;obtain⟨rfl,rfl⟩:=b;refine(Zfm d).cal λq rs b=>?_;obtain⟨rfl,rfl⟩:=b;refine ec (λg=>by cases g) λ_=>?_;refine(Zbe).cal λq rs b=>?_;obtain⟨rfl,rfl⟩:=b;refine(Z7r (r:=T.r) (K:=z) (by omega) (1,1) ⟨#[109,105,110,101]⟩ (by decide) ⟨1,0,0,eS⟩ (by decide)).cal λq rs b=>?_;obtain⟨rfl,rfl,-⟩:=b;refine As [1,5,6,8,62,63] [0,1,2,3,4,5,6] (λi:Nat=>[(64,gI i)]) (λ_=>[]) (λi=>i<=T.l.length) (λi=>T.l.length - i) 0 (av _) ⟨⟨rfl,rfl⟩,trivial⟩ trivial rfl λi s=>?_;refine dw (λh=>?_) (λh=>?_)
  .refine ef (by simpa using h) λx C=>?_;have h:=B8 C;have w:=Ns d x.client;refine(Zcg d x.client).cal λq rs b=>?_;obtain⟨rfl,rfl⟩:=b;refine As [1,5,6,8,62,63,64,13,77] [0,1,2,3,4,5,6,10] (λx:Nat × List ByteArray=>[(78,gI x.1)]) (λy=>[(9,.slc (y.2.map gSt) Z72 1)]) (λy=>y.1<=(B4 T.l x.client).a.names.length/\y.2.length=(B4 T.l x.client).a.names.length) (λy=>(B4 T.l x.client).a.names.length - y.1) (0,(B4 T.l x.client).a.names) ⟨av _,rfl⟩ ⟨⟨rfl,rfl⟩,trivial⟩ ⟨RL1,trivial⟩ rfl fun⟨j,nms⟩ ⟨hj,hnms⟩=>?_;dsimp only at hj hnms;refine dw (λe=>?_) (λe=>?_)
   .have e:j < (B4 T.l x.client).a.names.length:=by simpa using e
    obtain⟨y,D⟩:∃y,nms[j]?=some y:=⟨_,ap (by omega)⟩;refine⟨⟨by omega,by rw[ao];omega⟩,?_⟩;refine EvSet.at (f:=gSt) (i:=j) (y:=⟨#[109,105,110,101]⟩) D (λq b=>b) rfl ?_;refine⟨by dsimp only;omega,(j+1,nms.set j ⟨#[109,105,110,101]⟩),⟨by dsimp only;omega,by dsimp only;rw[bp];exact hnms⟩,(by dsimp only;omega),?_⟩;refine⟨?_,?_,rfl⟩<;>repeat' (first|exact trivial|with_reducible rfl|exact rfl|refine And.intro ?_ ?_)
   .refine⟨by omega,i+1,by omega,(by dsimp only;omega),?_⟩;refine⟨?_,?_,rfl⟩<;>repeat' (first|exact trivial|with_reducible rfl|exact rfl|refine And.intro ?_ ?_)
  have s:i=T.l.length:=by simp at h;omega
  subst s;have n:∀c∈m,SmC c:=u;refine(Gt T d m (by omega) (by omega) n).cal λq rs b=>?_;obtain⟨rfl,I,H,F,k,rfl⟩:=b;refine Ht Dz ?_
  repeat' first
   | refine ec (λ_=>?_) λg=>by cases g
  have G:=J7 T m;refine(Hg k (by omega) _ (by omega) (Ua k.nd)).cal λq rs b=>?_;obtain⟨rfl,rfl⟩:=b
  repeat' first
   | refine ec (λ_=>?_) λg=>by cases g
  refine(Hg d (by omega) _ (by omega) (Ua d.nd)).cal λq rs b=>?_;obtain⟨rfl,rfl⟩:=b;exact rfl
 all_goals
  try refine ec (λ_=>?_) λg=>by cases g
  refine Ht Dz ?_;exact rfl
end Go.Proofs.YtmmdikhljefeiaaGreat
