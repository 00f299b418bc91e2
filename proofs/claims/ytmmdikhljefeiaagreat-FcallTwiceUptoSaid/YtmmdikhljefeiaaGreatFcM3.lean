
import Derived.Test.YtmmdikhljefeiaaGreatFcM2
import Derived.Test.YtmmdikhljefeiaaGreatPKN
import Derived.Test.YtmmdikhljefeiaaGreatQM1
import Derived.Test.YtmmdikhljefeiaaGreatFcM1
import Derived.Test.YtmmdikhljefeiaaGreatSxMc
namespace Go.Proofs.YtmmdikhljefeiaaGreat
open Go.RowKit
set_option maxRecDepth 100000
theorem Zb0 (c:RCl)(h:1<=c.kind/\c.kind<=11):FnV Tryz.prog 55 [.agg (enC c)] λg=>g=.agg (enC (Qr c)):=by
 refine fnG Tryz.func55 ?_;obtain⟨client,number,kind,a,g,name,other,m,fo,pos,n,time,b⟩:=c;dsimp only at h;rcases Ha h with rfl | rfl | rfl | rfl | rfl | rfl | rfl | rfl | rfl | rfl | rfl
 all_goals
  repeat first | refine Ww (c:=true) rfl ?_ | refine Ww (c:=false) rfl ?_
  exact rfl
theorem Z8 (c:RCl):FnV Tryz.prog 24 [.agg (enC c)] λg=>g=.v (.bool (okB c)):=by
 refine fnG Tryz.func24 ?_;have no:¬Ze3 c->G.v (.bool false)=G.v (.bool (okB c)):=λh=>by rw[J7.2 λb=>h b.1]
 refine dv (λf=>no λh=>by have:=h.1;omega) λf=>?_;refine dv (λa=>no λh=>by have:=h.2.1;omega) λa=>?_;refine dv (λl=>no λh=>by have:=h.2.2.1;omega) λl=>?_;refine dv (λi=>no λh=>by have:=h.2.2.2.1;unfold big at this;omega) λi=>?_;refine dv (λj=>no λh=>by have:=h.2.2.2.2.1;omega) λj=>?_;refine dv (λk=>no λh=>by have:=h.2.2.2.2.2;omega) λk=>?_;refine(Zb0 c ⟨by omega,by omega⟩).cal λq d=>?_;subst d;refine EvEq.flat shC (Qc c) (Qc (Qr c)) (by kernel_rfl) (by kernel_rfl) (by kernel_rfl) rfl rfl rfl rfl (λe=>?_) λe=>?_
 .have e:enC c=enC (Qr c):=congrArg (List.map G.v) e;have:okB c=true:=Gj.2 ⟨⟨by omega,by omega,by omega,by unfold big;omega,by omega,by omega⟩,Z26 e⟩;rw[this];exact rfl
 .have:okB c=false:=J7.2 λh=>e (congrArg Qc h.2);rw[this];exact rfl
theorem Jh {own:Os}{n:Nat}{P:Program}{f:FuncId}{gs:List G}{g:G}{K:G->Os->Nat->Prop}{B C:Prop}(h:FnV P f gs λq=>q=g)(a:Z1b [] own n g [] K):EvCall (FnO P f gs [] λg rs=>Z1b [] own n g rs K) B C:=h.cal λq e=>by rw[e];exact a
def Z8z (x:RLs):List G:=gI x.client::gI x.number::Fv x.a
def tbC (r:RFs)(l:List RLs):List G:=[.v (.int .i64 r.room),.sl (r.ins.map enI),.sl (r.nms.map enN),.sl (r.gens.map enG),.sl (l.map Z8z)]
theorem Z93 (r:RFs)(l:List RLs)(x:RLs):tbC r (l++[x])=[.v (.int .i64 r.room),.sl (r.ins.map enI),.sl (r.nms.map enN),.sl (r.gens.map enG),.sl (l.map Z8z++[Z8z x])]:=by unfold tbC;rw[ba];rfl
theorem Zbx (room:Int):FnV Tryz.prog 22 [gI room] λg=>g=.agg (tbC (Fc room) []):=by refine fnG Tryz.func22 ?_;refine(Zek room).cal λq a=>?_;subst a;exact rfl
theorem Z7j (r:RFs)(l:List RLs)(f:l.length<=1000000)(id:Int):FnV Tryz.prog 25 [.agg (tbC r l),gI id] λg=>g=.agg (Z8z (Bo l id)):=by
 refine fnG Tryz.func25 ?_;refine Ax [1,2,4] [0,1] (λi:Nat=>[(5,gI i)]) (λ_=>[]) (λi=>i<=l.length/\∀x∈l.take i,x.client≠id) (λi=>l.length - i) 0 ⟨aw _,λx c=>by simp at c⟩ ⟨⟨rfl,rfl⟩,trivial⟩ trivial rfl λi ⟨e,hno⟩=>?_;refine dv (λa=>?_) (λa=>?_)
 .refine ee (by simpa using a) λx c=>?_;have a:=Bd c;refine du (fun(d:x.client=id)=>?_) fun(d:¬x.client=id)=>?_
  .refine ec c ?_;have:Bo l id=x:=by
    unfold Bo;rw[<-dh i l,List.find?_append,List.find?_eq_none.2 λy b=>by simpa using hno y b,Option.none_or,List.drop_eq_getElem_cons a,List.find?_cons_of_pos (by rw[aq a] at c;cases c;simpa using d)];rw[aq a] at c;cases c;rfl
   rw[this];exact rfl
  .refine⟨by omega,i+1,⟨by omega,λy b=>?_⟩,(by dsimp only;omega),?_⟩
   .rw[B9 c] at b;rcases cd.1 b with b | b
    .exact hno y b
    .rw[bx.1 b];exact d
   .refine⟨?_,?_,rfl⟩<;>repeat' (first|exact trivial|with_reducible rfl|exact rfl|refine And.intro ?_ ?_)
 .have e:i=l.length:=by simp at a;omega
  subst e;rw[List.take_length] at hno;have:Bo l id=⟨0,0,an0⟩:=by unfold Bo;rw[List.find?_eq_none.2 λy b=>by simpa using hno y b];rfl
  rw[this];exact rfl
theorem Pb (a:RAn)(f:a.names.length<=1000000):FnV Tryz.prog 26 [.agg (Fv a),.agg (Fv a)] λg=>g=.v (.bool true):=by
 refine fnG Tryz.func26 ?_;refine dy (λh=>dt rfl h) λ_=>?_;refine EvEq.flat [.i .i64,.i .i64] [_,_] [_,_] (by kernel_rfl) (by kernel_rfl) (by kernel_rfl) rfl rfl rfl rfl (λ_=>dz (λb=>by cases b) λ_=>?_) (λh=>dt rfl h);refine EvIf.bneS (λh=>dt rfl h) λ_=>?_;refine EvEq.flat [.i .i64,.i .i64,.i .i64,.i .i64,.i .i64,.i .i64,.i .i64,.i .i64] [_,_,_,_,_,_,_,_] [_,_,_,_,_,_,_,_] (by kernel_rfl) (by kernel_rfl) (by kernel_rfl) rfl rfl rfl rfl (λ_=>dz (λb=>by cases b) λ_=>?_) (λh=>dt rfl h);refine dy (λh=>dt rfl h) λ_=>?_;refine Ax [2,3] [0,1] (λn:Nat=>[(5,gI n)]) (λ_=>[]) (λn=>n<=a.names.length) (λn=>a.names.length - n) 0 (aw _) ⟨⟨rfl,rfl⟩,trivial⟩ trivial rfl λn e=>?_;refine dv (λc=>?_) (λc=>?_)
 .refine ee (by simpa using c) λx d=>?_;refine ec d ?_;have:=Bd d;refine EvIf.bneS (λb=>dt rfl b) λ_=>⟨by omega,n+1,by omega,(by dsimp only;omega),?_⟩;refine⟨?_,?_,rfl⟩<;>repeat' (first|exact trivial|with_reducible rfl|exact rfl|refine And.intro ?_ ?_)
 .exact rfl
theorem Zf2 (r:RFs)(l:List RLs){K:Nat}(e:Gd r K)(A:K<=999999)(c:RCl)(i:SmC c)(B:1<=c.kind/\c.kind<=11):FnV Tryz.prog 80 [.agg (tbC r l),.agg (enC c)] λg=>g=.tup [.agg (tbC (E9 r c).1 l),.agg (Fv (E9 r c).2)]:=by
 refine fnG Tryz.func80 ?_;have f:=Z6k e.wf (by omega);obtain⟨X,a⟩:∃X,X=E9 r c:=⟨_,rfl⟩;rw[<-a];unfold E9 at a;refine du (fun(u:c.kind=1)=>(Zbs r f e.wf (by omega) c.h.1 c.h.2 c.name i.nm c.m i.tg).cal λq d=>?_) (fun(u:¬c.kind=1)=>?_)
 .subst d;rw[dq u] at a;rw[a];exact rfl
 rw[dp u] at a;refine du (fun(p:c.kind=2)=>(Zdg r f c.h.1 c.h.2 c.g.1 c.g.2 c.name i.nm).cal λq d=>?_) (fun(p:¬c.kind=2)=>?_)
 .subst d;rw[dq p] at a;rw[a];exact rfl
 rw[dp p] at a;refine du (fun(k:c.kind=3)=>(Z2s r f e.wf c.h.1 c.h.2 c.name i.nm c.fo).cal λq d=>?_) (fun(k:¬c.kind=3)=>?_)
 .subst d;rw[dq k] at a;rw[a];exact rfl
 rw[dp k] at a;refine du (fun(z:c.kind=4)=>(Z5x r f e.wf A c.h.1 c.h.2 c.name i.nm c.g.1 c.g.2 c.other i.ot).cal λq d=>?_) (fun(z:¬c.kind=4)=>?_)
 .subst d;rw[dq z] at a;rw[a];exact rfl
 rw[dp z] at a;refine du (fun(s:c.kind=5)=>(Z66 r f e.wf e.shs c.h.1 c.h.2 c.pos c.b.data.toList (by have:=i.b;exact this) c.time).cal λq d=>?_) (fun(s:¬c.kind=5)=>?_)
 .subst d;rw[dq s] at a;rw[a];exact rfl
 rw[dp s] at a;refine du (fun(y:c.kind=6)=>(Zbi r f e.wf e.shs c.h.1 c.h.2 c.n c.time).cal λq d=>?_) (fun(y:¬c.kind=6)=>?_)
 .subst d;rw[dq y] at a;rw[a];exact rfl
 rw[dp y] at a;refine du (fun(t:c.kind=7)=>(Zc6 r f e.wf c.h.1 c.h.2 c.name i.nm).cal λq d=>?_) (fun(t:¬c.kind=7)=>?_)
 .subst d;rw[dq t] at a;rw[a];exact rfl
 rw[dp t] at a;refine du (fun(o:c.kind=8)=>(Z8c r f e.wf e.shs c.h.1 c.h.2 c.pos c.n).cal λq d=>?_) (fun(o:¬c.kind=8)=>?_)
 .subst d;rw[dq o] at a;rw[a];refine⟨⟨Int.le_refl _,by omega,by omega⟩,⟨λr hr=>(by obtain⟨x,-,rfl⟩:=bk.1 hr;rfl),?_⟩⟩;refine EvBytes.mk ⟨(Ct r c.h c.pos c.n).1.take 1000,L6 gBy _ 1000,?_⟩;exact rfl
 rw[dp o] at a;refine du (fun(v:c.kind=9)=>(Z74 r f e.wf c.h.1 c.h.2).cal λq d=>?_) (fun(v:¬c.kind=9)=>?_)
 .subst d;rw[dq v] at a;rw[a,Oa];exact rfl
 rw[dp v] at a;refine du (fun(w:c.kind=10)=>(Zby r f c.h.1 c.h.2).cal λq d=>?_) (fun(w:¬c.kind=10)=>?_)
 .subst d;rw[dq w] at a;rw[a];refine⟨⟨Int.le_refl _,by omega,by omega⟩,⟨λr hr=>(by obtain⟨x,-,rfl⟩:=bk.1 hr;rfl),?_⟩⟩;rw[show Fo ((Fb r (c.h.1,c.h.2)).map gSt) (Int.toNat 0) (min (((Fb r (c.h.1,c.h.2)).map gSt).length:Int) 50).toNat=((Fb r c.h).take 50).map gSt from L6 gSt (Fb r c.h) 50];exact rfl
 rw[dp w] at a;have j:c.kind=11:=by omega
 refine du (λ_=>(Z3z r f c.h.1 c.h.2).cal λq d=>?_) (λh=>dt j h);subst d;rw[a];exact rfl
theorem Z8x (t:RTb){K:Nat}(w:Gd t.r K)(y:K<=999999)(B:t.l.length<=999999)(c:RCl)(A:SmC c):FnV Tryz.prog 49 [.agg (tbC t.r t.l),.agg (enC c)] λg=>g=.tup [.agg (tbC (Bi t c).1.r (Bi t c).1.l),.agg (Fv (Bi t c).2)]:=by
 refine fnG Tryz.func49 ?_;refine Jh (Z8 c) ?_;refine dz (λd=>?_) λd=>?_
 .have d:okB c=false:=by simpa using d
  rw[Tf (J7.1 d)];exact rfl
 have d:okB c=true:=by simpa using d
 have a:=Gj.1 d;refine Jh (Z7j t.r t.l (by omega) c.client) ?_;have e:(c.number < (Bo t.l c.client).number\/((Bo t.l c.client).number=0/\t.l.length >= 100))->Bi t c=(t,Kd 1):=Oz a;refine dv (fun(o:c.number < (Bo t.l c.client).number)=>?_) fun(o:¬c.number < (Bo t.l c.client).number)=>?_
 .rw[e (.inl o)];exact rfl
 refine du (fun(n:(Bo t.l c.client).number=0)=>dv (λm=>?_) λm=>?_) fun(n:¬(Bo t.l c.client).number=0)=>?_
 .have m:((t.l.map Z8z).length:Int) >= 100:=m;rw[ap] at m;rw[e (.inr ⟨n,by omega⟩)];exact rfl
 all_goals
  have k:¬(c.number < (Bo t.l c.client).number\/((Bo t.l c.client).number=0/\t.l.length >= 100)):=λh=>by
   rcases h with h | ⟨h,h'⟩
   .exact o h
   .first
    | exact n h
    | exact m (by show((t.l.map Z8z).length:Int) >= 100;rw[ap];omega)
  refine du (fun(p:c.number=(Bo t.l c.client).number)=>?_) fun(p:¬c.number=(Bo t.l c.client).number)=>?_
  .rw[Me a k p];exact rfl
  rw[Lg a k p];refine Jh (Zf2 t.r t.l w y c A a.1.2.2.2.2) ?_;refine Ax [2,3,4,5,7] [0,1,2,3,5] (λi:Nat=>[(9,gI i),(8,.osl 6)]) (λi=>[(6,.slc (((t.l.take i).filter (λx=>decide (x.client≠c.client))).map Z8z) 76 15)]) (λi=>i<=t.l.length) (λi=>t.l.length - i) 0 (aw _) ⟨⟨rfl,rfl⟩,⟨rfl,rfl⟩,trivial⟩ ⟨RL1,trivial⟩ rfl λi u=>?_;have f:∀j,((t.l.take j).filter (λx=>decide (x.client≠c.client))).length<=t.l.length:=λj=>cn (ah _ _) (by rw[bf];omega);refine dv (λb=>?_) (λb=>?_)
  .refine ee (by simpa using b) λx s=>?_;have b:=Bd s;have v:=B9 s;refine dy (fun(q:x.client≠c.client)=>ec s ?_) fun(q:x.client=c.client)=>?_
   .refine⟨by have:=f i;rw[ap];show _+1<=_;omega,⟨by omega,i+1,by omega,(by dsimp only;omega),?_⟩⟩;refine⟨?_,?_,rfl⟩<;>repeat' (first|exact trivial|with_reducible rfl|exact rfl|refine And.intro ?_ ?_)
    exact eqR (by rw[v,List.filter_append,ba,List.filter_cons_of_pos (by simpa using q)];rfl)
   .refine⟨by omega,i+1,by omega,(by dsimp only;omega),?_⟩;refine⟨?_,?_,rfl⟩<;>repeat' (first|exact trivial|with_reducible rfl|exact rfl|refine And.intro ?_ ?_)
    exact eqR (by rw[v,List.filter_append,List.filter_cons_of_neg (by simpa using q),List.filter_nil,dk])
  have u:i=t.l.length:=by simp at b;omega
  subst u;have:=f t.l.length;rw[List.take_length] at this⊢;refine⟨by rw[ap];show _+1<=_;omega,?_⟩;exact congrArg (λz=>G.tup [.agg z,.agg (Fv (E9 t.r c).2)]) (Z93 (E9 t.r c).1 (t.l.filter (λx=>decide (x.client≠c.client))) ⟨c.client,c.number,(E9 t.r c).2⟩).symm
theorem Yh (c:RCl):FnV Tryz.prog 11 [.agg (enC c)] λg=>g=.agg (enC c):=by refine fnG Tryz.func11 ?_;exact rfl
theorem Ja (a:RAn):FnV Tryz.prog 27 [.agg (Fv a)] λg=>g=.agg (Fv a):=by refine fnG Tryz.func27 ?_;exact rfl
def Z68 (c:RCl):Bool:=!(decide ((c.b.size:Int) > 2000)||(decide (c.pos > 5000)&&decide (c.pos < 1048576))||(decide (c.n > 5000)&&decide (c.n<=1048576)))
def Zfh (c:RCl):Prop:=¬(c.b.size:Int) > 2000/\¬(c.pos > 5000/\c.pos < 1048576)/\¬(c.n > 5000/\c.n<=1048576)
theorem Um {c:RCl}:Z68 c=true↔Zfh c:=by unfold Z68 Zfh;simp only[Bool.not_eq_true',Bool.or_eq_false_iff,Bool.and_eq_false_iff,decide_eq_false_iff_not];omega
def Y0 (l:List RCl):Bool:=decide (l.length<=200)&&l.all Z68
theorem Z6z (l:List RCl):FnV Tryz.prog 18 [.sl (l.map enC)] λg=>g=.v (.bool (Y0 l)):=by
 refine fnG Tryz.func18 ?_;refine dv (λh=>?_) λh=>?_
 .have h:((l.map enC).length:Int) > 200:=h;rw[ap] at h;have:Y0 l=false:=by unfold Y0;rw[decide_eq_false (by omega)];rfl
  rw[this];exact rfl
 have h:¬((l.map enC).length:Int) > 200:=h;rw[ap] at h;have no:∀{c:RCl} {i:Nat},l[i]?=some c->Z68 c=false->G.v (.bool false)=G.v (.bool (Y0 l)):=λ{c i} d q=>by
  have:l.all Z68=false:=by rw[List.all_eq_false];exact⟨c,au d,by rw[q];decide⟩
  unfold Y0;rw[this,Bool.and_false]
 refine Ax [8,9] [] (λi:Nat=>[(10,gI i)]) (λ_=>[]) (λi=>i<=l.length/\(l.take i).all Z68=true) (λi=>l.length - i) 0 ⟨aw _,rfl⟩ ⟨⟨rfl,rfl⟩,trivial⟩ trivial rfl λi ⟨m,ha⟩=>?_;refine dv (λa=>?_) (λa=>?_)
 .refine ee (by simpa using a) λc d=>?_;have a:=Bd d;have r:Z68 c=true->(l.take (i+1)).all Z68=true:=λh=>by rw[B9 d,List.all_append,ha];simpa using h
  have no:¬Zfh c->G.v (.bool false)=G.v (.bool (Y0 l)):=λh=>no d (by
   cases e:Z68 c with
   | false=>rfl
   | true=>exact dt (Um.1 e) h)
  refine dv (fun(f:(c.b.size:Int) > 2000)=>no λh=>h.1 f) fun(f:¬(c.b.size:Int) > 2000)=>?_;refine dv (fun(j:c.pos > 5000)=>dv (fun(p:c.pos < 1048576)=>no λh=>h.2.1 ⟨j,p⟩) fun(p:¬c.pos < 1048576)=>?_) fun(j:¬c.pos > 5000)=>?_
  all_goals
   refine dv (fun(k:c.n > 5000)=>dv (fun(o:c.n<=1048576)=>no λh=>h.2.2 ⟨k,o⟩) fun(o:¬c.n<=1048576)=>?_) fun(k:¬c.n > 5000)=>?_
  all_goals
   refine⟨by omega,i+1,⟨by omega,r (Um.2 ⟨f,by omega,by omega⟩)⟩,(by dsimp only;omega),?_⟩;refine⟨?_,?_,rfl⟩<;>repeat' (first|exact trivial|with_reducible rfl|exact rfl|refine And.intro ?_ ?_)
 .have m:i=l.length:=by simp at a;omega
  subst m;rw[List.take_length] at ha;have:Y0 l=true:=by unfold Y0;rw[ha,decide_eq_true (by omega)];rfl
  rw[this];exact rfl
noncomputable def Mn (t:RTb) (l:List RCl):RTb:=l.foldl (λt c=>(Bi t c).1) t
theorem Z1c {t:RTb}{l:List RCl}{i:Nat}{c:RCl}(h:l[i]?=some c):Mn t (l.take (i+1))=(Bi (Mn t (l.take i)) c).1:=by unfold Mn;rw[B9 h,List.foldl_append];rfl
theorem Z0g (t:RTb)(c:RCl):(Bi t c).1.l.length<=t.l.length+1:=by
 unfold Bi;split
 .exact Nat.le_succ _
 split
 .exact Nat.le_succ _
 split
 .exact Nat.le_succ _
 .show(_++[_]).length<=_;rw[bg];have:=ah (λx:RLs=>decide (x.client≠c.client)) t.l;show _+1<=_;omega
theorem Uw (t:RTb)(l:List RCl):(Mn t l).l.length<=t.l.length+l.length:=by
 induction l generalizing t with
 | nil=>exact av _
 | cons c l ih =>
  have a:=ih (Bi t c).1;have b:=Z0g t c;show(Mn (Bi t c).1 l).l.length<=t.l.length+(l.length+1);omega
def PlP (t:RTb)(K:Nat)(l:List RCl)(g:G)(rs:List R):Prop:=g=.tup [.agg (tbC (Mn t l).r (Mn t l).l),.v (.bool true)]/\∃a b,a<=K+l.length/\FM (Mn t l) a b/\rs=oT (Mn t l).r a b
abbrev tRT:Nat:=65
theorem Zgz {t a:RTb}{ty:Nat}(h:t=a):(some (R.blk (tbC t.r t.l) ty):Option R)=some (R.blk (tbC a.r a.l) ty):=by rw[h]
theorem Qb {t:RTb}{K:Nat}{L:List (Int × G)}(b:FM t K L)(c:RCl):(Bi t c).2.names.length<=1000000:=by
 unfold Bi;split
 .exact aw _
 split
 .exact aw _
 split
 .show(Bo t.l c.client).a.names.length<=_;cases hf:t.l.find? (λx=>decide (x.client=c.client)) with
  | none=>rw[J4 hf];exact aw _
  | some x=>rw[(En hf).1];exact b.nm x (En hf).2.1
 .exact Qj t.r c
theorem Yp (t:RTb){K:Nat}{L:List (Int × G)}(m:FM t K L)(l:List RCl)(w:K+l.length<=900000)(u:t.l.length+l.length<=900000)(o:∀c∈l,SmC c):FnO Tryz.prog 21 [.ptr 0 0,.agg (tbC t.r t.l),.sl (l.map enC)] (oT t.r K L) (PlP t K l):=by
 refine Z8l Tryz.func21 (Dh _ _) ?_;refine Ax [0,4,6,12,13] [4] (λx:Nat × Nat × List (Int × G)=>[(14,gI x.1)]) (λx=>[(0,.blk [.ptr 1 0,.mp 2] tTb),(1,.abs (fsP (Mn t (l.take x.1)).r x.2.1)),(2,.mpI x.2.2),(3,.blk (tbC (Mn t (l.take x.1)).r (Mn t (l.take x.1)).l) tRT)]) (λx=>x.1<=l.length/\x.2.1<=K+x.1/\FM (Mn t (l.take x.1)) x.2.1 x.2.2) (λx=>l.length - x.1) (0,K,L) ⟨aw _,av _,m⟩ ⟨⟨rfl,rfl⟩,trivial⟩ (by exact RL4) rfl fun⟨i,K',L'⟩ ⟨hi,hK',hM'⟩=>?_;dsimp only at hi hK' hM';refine dv (λa=>?_) (λa=>?_)
 .refine ee (by simpa using a) λc g=>?_;have a:=Bd g;have d:=o c (au g);have f:=Z1c (t:=t) g;have b:=Uw t (l.take i);rw[bf] at b;refine Jh (Z8x (Mn t (l.take i)) hM'.gd (by omega) (by omega) c d) ?_;refine Jh (Yh c) ?_;refine(Jw hM' (by omega) c d).cal λq rs p=>?_;obtain⟨rfl,n,s,k,h,rfl⟩:=p;refine Jh (Ja _) ?_;refine Jh (Pb _ (Qb hM' c)) ?_;refine dz (λj=>by cases j) λ_=>?_;refine⟨by omega,(i+1,n,s),⟨by dsimp only;omega,by dsimp only;omega,by rw[f];exact h⟩,(by dsimp only;omega),?_⟩;refine⟨?_,?_,rfl⟩<;>repeat' (first|exact trivial|with_reducible rfl|exact rfl|refine And.intro ?_ ?_)
  .rw[f];exact rfl
  .exact Zgz f.symm
 .have e:i=l.length:=by simp at a;omega
  subst e;rw[List.take_length] at hM'⊢;exact(Cs _ _ _ (.tup [.agg (tbC (Mn t l).r (Mn t l).l),.v (.bool true)]) rfl rfl rfl rfl rfl ⟨rfl,K',L',hK',hM',rfl⟩)
theorem W6 {t:RTb}{K:Nat}{L:List (Int × G)}(e:FM t K L)(s:K<=900000)(l:List RLs)(p:l.length<=900000)(h:∀x∈l,Bo t.l x.client=x):FnO Tryz.prog 23 [.ptr 0 0,.agg (tbC t.r l)] (oT t.r K L) λg rs=>g=.v (.bool true)/\rs=oT t.r K L:=by
 refine Z8l Tryz.func23 (Dh _ _) ?_;have o:=Z6k e.gd.wf (by omega);have u:=o.i;refine Ax [0,3,4,19,20] [0,1,2,3] (λi:Nat=>[(21,gI i)]) (λ_=>[]) (λi=>i<=l.length) (λi=>l.length - i) 0 (aw _) ⟨⟨rfl,rfl⟩,trivial⟩ trivial rfl λi n=>?_;refine dv (λb=>?_) (λb=>?_)
 .refine ee (by simpa using b) λx k=>?_;have b:=Bd k;have j:=h x (au k);refine(Zc3 e x.client).cal λq rs d=>?_;rw[j] at d;obtain⟨rfl,rfl⟩:=d;refine dy (λc=>dt rfl c) λ_=>?_;refine Jh (Ja _) ?_;have m:x.a.names.length<=1000000:=by
   rw[<-j];cases hf:t.l.find? (λy=>decide (y.client=x.client)) with
   | none=>rw[J4 hf];exact aw _
   | some y=>rw[(En hf).1];exact e.nm y (En hf).2.1
  refine Jh (Pb _ m) ?_;refine dz (λc=>by cases c) λ_=>⟨by omega,i+1,by omega,(by dsimp only;omega),?_⟩;refine⟨?_,?_,rfl⟩<;>repeat' (first|exact trivial|with_reducible rfl|exact rfl|refine And.intro ?_ ?_)
 refine(Zg5 e).cal λq rs d=>?_;obtain⟨rfl,rfl⟩:=d;refine Ax [0,3,4,9,49,50] [0,1,2,3,4] (λi:Nat=>[(51,gI i)]) (λ_=>[]) (λi=>i<=t.r.ins.length) (λi=>t.r.ins.length - i) 0 (aw _) ⟨⟨rfl,rfl⟩,trivial⟩ trivial rfl λi n=>?_;refine dv (λb=>?_) (λb=>?_)
 .refine ee (by simpa using b) λx k=>?_;have b:=Bd k;refine(Z7c (x.id,x.gen)).cal λq rs d=>?_;obtain⟨rfl,rfl⟩:=d;have f:=Z74 t.r o e.gd.wf x.id x.gen;rw[Oa] at f⊢;refine Jh f ?_;refine dy (λc=>dt rfl c) λ_=>?_;refine Jh (Ja {an0 with i:=Zw t.r (x.id,x.gen)}) ?_;refine EvEq.flat [.i .i64,.i .i64,.i .i64,.i .i64,.i .i64,.i .i64,.i .i64,.i .i64] [_,_,_,_,_,_,_,_] [_,_,_,_,_,_,_,_] (by kernel_rfl) (by kernel_rfl) (by kernel_rfl) rfl rfl rfl rfl (λ_=>?_) (λh=>dt rfl h);refine dz (λc=>by cases c) λ_=>⟨by omega,i+1,by omega,(by dsimp only;omega),?_⟩;refine⟨?_,?_,rfl⟩<;>repeat' (first|exact trivial|with_reducible rfl|exact rfl|refine And.intro ?_ ?_)
 refine(Zbp).cal λq rs d=>?_;obtain⟨rfl,rfl⟩:=d;refine Jh (Z7h t.r o e.gd.wf) ?_;refine du (λ_=>?_) λc=>dt rfl c;refine⟨by simp;omega,?_⟩;exact Cs _ _ _ (.v (.bool ((200 - (t.r.ins.length:Int))==(200 - ((t.r.ins.map enI).length:Int))))) rfl rfl rfl rfl rfl ⟨by simp,rfl⟩
def aS:ByteArray:=⟨#[97]⟩
def cA:RCl:={c00 with client:=1,number:=1,kind:=1,h:=(1,1),name:=aS,m:=⟨1,0,0,eS⟩}
def anA:RAn:={an0 with h:=(2,1)}
theorem Z7s:(Db (Fc 9) (1,1) aS ⟨1,0,0,eS⟩).2=((2,1),0):=by decide +kernel
theorem Za8:okC cA:=⟨by unfold Ze3;decide,rfl⟩
theorem Zbm:okW cA:=⟨Za8,by decide +kernel,by decide +kernel⟩
theorem Z7z:(Bi ⟨Fc 9,[]⟩ cA).2=anA/\(Bi ⟨Fc 9,[]⟩ cA).1.l=[⟨1,1,anA⟩]:=by
 have e:(E9 (Fc 9) cA).2=anA:=by unfold E9;rw[dq (show cA.kind=1 from rfl)];show {an0 with h:=(Db (Fc 9) (1,1) aS ⟨1,0,0,eS⟩).2.1,code:=(Db (Fc 9) (1,1) aS ⟨1,0,0,eS⟩).2.2}=anA;rw[Z7s];rfl
 rw[Lg Za8 (by decide) (by decide)];exact⟨e,by rw[e];rfl⟩
theorem Z8n {t:RTb}(h:t.l=[⟨1,1,anA⟩]):Bi t cA=(t,anA):=by
 have e:Bo t.l cA.client=⟨1,1,anA⟩:=by rw[h];rfl
 rw[Me Za8 (by rw[e];show ¬((1:Int) < 1\/((1:Int)=0/\_));omega) (by rw[e];rfl),e]
theorem smA:SmC cA:=⟨by decide,by decide,by decide,by decide⟩
theorem eA:eC cA=0:=dq Zbm
theorem dA:dC (⟨(bC cA).toArray⟩:ByteArray).data.toList=cA:=(Zas Zbm).2
theorem edA:edC (⟨(bC cA).toArray⟩:ByteArray).data.toList=0:=dq (Zas Zbm).1
theorem bA:(⟨(bC cA).toArray⟩:ByteArray).size<=2000000:=by have h:=Zbm.2.2;have e:(⟨(bC cA).toArray⟩:ByteArray).size=(bC cA).length:=rfl;rw[e];unfold bC;rw[dq Zbm];omega
set_option maxHeartbeats 4000000 in
theorem J6:FnV Tryz.prog 14 [] λq=>q=.v (.bool true):=by
 refine fnG Tryz.func14 ?_;refine(Z79 9 (by decide)).cal λq rs a=>?_;obtain⟨rfl,rfl,d⟩:=a;refine(Zg5 d).cal λq rs a=>?_;obtain⟨rfl,rfl⟩:=a;obtain⟨k,l⟩:=Z7z;have e:=Z8n l
 repeat' first
  | refine And.intro ?_ ?_
  | (refine(Jw d (by decide) cA smA).cal λq rs a=>?_
     rw[ApP,k] at a;obtain⟨rfl,n,p,f,c,rfl⟩:=a)
  | (refine(Jw c (by omega) cA smA).cal λq rs a=>?_
     rw[ApP,e] at a;obtain⟨rfl,o,m,j,g,rfl⟩:=a)
 all_goals
  refine dw (.seen 4 _ _ rfl (.done (.see (.same ((Z29 cA).toO.cal λq rs a=>?_)))));obtain⟨rfl,rfl⟩:=a;refine .done ?_;unfold wrC;rw[eA];refine Jh (Z17 _ bA) ?_;unfold rdC;rw[dA,edA];refine du (λ_=>?_) λb=>dt rfl b;refine EvEq.flat [.i .i64,.i .i64] [_,_] [_,_] (by kernel_rfl) (by kernel_rfl) (by kernel_rfl) rfl rfl rfl rfl (λ_=>dz (λ_=>?_) λh=>by cases h) (λh=>dt rfl h);refine EvEq.flat [.i .i64,.i .i64] [_,_] [_,_] (by kernel_rfl) (by kernel_rfl) (by kernel_rfl) rfl rfl rfl rfl (λ_=>dz (λ_=>?_) λh=>by cases h) (λh=>dt rfl h);refine du (λ_=>?_) λb=>dt rfl b;refine du (λ_=>?_) λb=>dt rfl b;refine EvEq.flat shC (Qc cA) (Qc cA) (by kernel_rfl) (by kernel_rfl) (by kernel_rfl) rfl rfl rfl rfl (λ_=>?_) (λh=>dt rfl h);exact rfl
theorem Z56 {l:List RCl}(h:Y0 l=true):l.length<=200:=by unfold Y0 at h;rw[be] at h;simpa using h.1
theorem Z65 (l:List RCl):∀r∈l.map enC,r.length=18/\r.all G.one=true:=λr hr=>by obtain⟨c,-,rfl⟩:=bk.1 hr;exact⟨rfl,rfl⟩
theorem Z9y {l:List RLs}(h:(l.map RLs.client).Nodup):∀x∈l,Bo l x.client=x:=by
 induction l with
 | nil=>intro x a;cases a
 | cons y l ih =>
  rw[cv,List.nodup_cons] at h;intro x a;unfold Bo at ih⊢;rcases bq.1 a with rfl | a
  .rw[List.find?_cons_of_pos (by simp)];rfl
  .have:y.client≠x.client:=λe=>h.1 (by rw[e];exact bk.2 ⟨x,a,rfl⟩);rw[List.find?_cons_of_neg (by simpa using this)];exact ih h.2 x a
theorem Z35 (t:RTb)(l:List RCl)(c:RCl):Mn t (l++[c])=(Bi (Mn t l) c).1:=by unfold Mn;rw[List.foldl_append];rfl
theorem Z5b (l:List RLs)(y:RLs):Bo (l.filter (λx=>decide (x.client≠y.client))++[y]) y.client=y:=by have h:=Vk (l:=l) (y:=y) y.client;rw[dq rfl] at h;exact(En h).1
theorem Z91 {t:RTb}{c:RCl}(h:okC c):(Bo (Bi t c).1.l c.client).number=c.number\/((Bi t c).1=t/\Bi t c=(t,Kd 1)):=by
 by_cases b:c.number < (Bo t.l c.client).number\/((Bo t.l c.client).number=0/\t.l.length >= 100)
 .rw[Oz h b];exact .inr ⟨rfl,rfl⟩
 by_cases a:c.number=(Bo t.l c.client).number
 .rw[Me h b a];exact .inl a.symm
 .rw[Lg h b a];have:=Z5b t.l ⟨c.client,c.number,(E9 t.r c).2⟩;exact .inl (by rw[show Bo _ c.client=_ from this])
theorem Z7u {t:RTb}{c:RCl}(h:okC c)(b:(Bo (Bi t c).1.l c.client).number≠c.number):(Bi (Bi t c).1 c).2=Kd 1:=by
 rcases Z91 (t:=t) h with a | ⟨a,h2⟩
 .exact dt a b
 .rw[a,h2]
theorem Yx {t:RTb}{c:RCl}(h:okC c)(b:(Bo t.l c.client).number=c.number):Bi t c=(t,(Bo t.l c.client).a):=by have d:=h.1.2.2.1;exact Me h (by rw[b];omega) b.symm
def c9 (c:RCl):RCl:={c00 with client:=c.client,number:=c.number,kind:=9}
theorem Zet {c:RCl}(h:okC c):okC (c9 c):=⟨⟨h.1.1,h.1.2.1,h.1.2.2.1,h.1.2.2.2.1,show(1:Int)<=9 by decide,show(9:Int)<=11 by decide⟩,rfl⟩
theorem Zfg (c:RCl):SmC (c9 c) :=
 have h:eS.size<=maxLen:=by decide
 ⟨h,h,h,h⟩
theorem jnT {α β:Type}{P T1 T2 T3 T4 T5 T6 T7 T8 T9 T10 T11 T12 T13 T14 T15 T16 T17 T18:α->β->Prop}{G:Prop}(f:(∀a b,P a b->T1 a b)->(∀a b,P a b->T2 a b)->(∀a b,P a b->T3 a b)->(∀a b,P a b->T4 a b)->(∀a b,P a b->T5 a b)->(∀a b,P a b->T6 a b)->(∀a b,P a b->T7 a b)->(∀a b,P a b->T8 a b)->(∀a b,P a b->T9 a b)->(∀a b,P a b->T10 a b)->(∀a b,P a b->T11 a b)->(∀a b,P a b->T12 a b)->(∀a b,P a b->T13 a b)->(∀a b,P a b->T14 a b)->(∀a b,P a b->T15 a b)->(∀a b,P a b->T16 a b)->(∀a b,P a b->T17 a b)->(∀a b,P a b->T18 a b)->G)(n:∀a b,P a b->T1 a b)(q:∀a b,P a b->T2 a b)(s:∀a b,P a b->T3 a b)(p:∀a b,P a b->T4 a b)(u:∀a b,P a b->T5 a b)(m:∀a b,P a b->T6 a b)(t:∀a b,P a b->T7 a b)(r:∀a b,P a b->T8 a b)(o:∀a b,P a b->T9 a b)(h:∀a b,P a b->T10 a b)(i:∀a b,P a b->T11 a b)(d:∀a b,P a b->T12 a b)(c:∀a b,P a b->T13 a b)(k:∀a b,P a b->T14 a b)(j:∀a b,P a b->T15 a b)(e:∀a b,P a b->T16 a b)(g:∀a b,P a b->T17 a b)(l:∀a b,P a b->T18 a b):G:=f n q s p u m t r o h i d c k j e g l
set_option maxHeartbeats 40000000 in
theorem Qu (l:List RCl)(Y:∀c∈l,SmC c)(c:RCl)(m:SmC c):FnV Tryz.prog 7 [.sl (l.map enC),.agg (enC c)] λq=>q=.v (.bool true):=by
 refine fnG Tryz.func7 ?_;refine(Z79 50 (by decide)).cal λq rs f=>?_;obtain⟨rfl,rfl,L⟩:=f;refine Jh (Z6z l) ?_;cases hb:Y0 l
 case' true =>
  have K:=Z56 hb;refine dz (λd=>by cases d) λ_=>?_;refine Jh (Z6z [c]) ?_;cases hb1:Y0 [c]
  case' true =>
   refine dz (λd=>by cases d) λ_=>?_
 case true.true =>
  have I:∀x∈l++[c],SmC x:=λx s=>by
   rcases cd.1 s with s | s
   .exact Y x s
   .rw[bx.1 s];exact m
  have hP:FnO Tryz.prog 21 [.ptr 0 0,.agg (tbC (Fc 50) []),.sl (([]++l.map enC)++[enC c])] (oT (Fc 50) 0 []) (PlP ⟨Fc 50,[]⟩ 0 (l++[c])):=by have h:=Yp ⟨Fc 50,[]⟩ L (l++[c]) (by rw[bg];show 0+(_+1)<=_;omega) (by rw[bg];show 0+(_+1)<=_;omega) I;rw[ba] at h;exact h
  refine jnT (P:=λp A=>p<=0+(l++[c]).length/\FM (Mn ⟨Fc 50,[]⟩ (l++[c])) p A) (T1:=?T1) (T2:=?T2) (T3:=?T3) (T4:=?T4) (T5:=?T5) (T6:=?T6) (T7:=?T7) (T8:=?T8) (T9:=?T9) (T10:=?T10) (T11:=?T11) (T12:=?T12) (T13:=?T13) (T14:=?T14) (T15:=?T15) (T16:=?T16) (T17:=?T17) (T18:=?T18) (λR O h3 S N U Q M h9 u D J y E w F H C=>?a1) ?b1 ?b2 ?b3 ?b4 ?b5 ?b6 ?b7 ?b8 ?b9 ?b10 ?b11 ?b12 ?b13 ?b14 ?b15 ?b16 ?b17 ?b18
  case a1 =>
   repeat' ((conv=>whnf);first
    | with_reducible refine And.intro ?_ ?_
    | refine Jh (Zbx 50) ?_
    | refine⟨Z65 l,?_⟩
    | refine EvRoom.mk (by simp;omega) ?_
    | (refine hP.cal λq rs f=>?_
       obtain⟨rfl,p,A,b,a,rfl⟩:=f))
   all_goals (conv=>whnf)
   all_goals first
    | with_reducible exact R _ _ ⟨b,a⟩
    | with_reducible exact O _ _ ⟨b,a⟩
    | with_reducible exact h3 _ _ ⟨b,a⟩
    | with_reducible exact S _ _ ⟨b,a⟩
    | with_reducible exact N _ _ ⟨b,a⟩
    | with_reducible exact U _ _ ⟨b,a⟩
    | with_reducible exact Q _ _ ⟨b,a⟩
    | with_reducible exact M _ _ ⟨b,a⟩
    | with_reducible exact h9 _ _ ⟨b,a⟩
    | with_reducible exact u _ _ ⟨b,a⟩
    | with_reducible exact D _ _ ⟨b,a⟩
    | with_reducible exact J _ _ ⟨b,a⟩
    | with_reducible exact y _ _ ⟨b,a⟩
    | with_reducible exact E _ _ ⟨b,a⟩
    | with_reducible exact w _ _ ⟨b,a⟩
    | with_reducible exact F _ _ ⟨b,a⟩
    | with_reducible exact H _ _ ⟨b,a⟩
    | with_reducible exact C _ _ ⟨b,a⟩
  all_goals
   intro p A ⟨b,a⟩;have g:(Mn ⟨Fc 50,[]⟩ (l++[c])).l.length<=0+(l++[c]).length:=Uw ⟨Fc 50,[]⟩ (l++[c]);rw[bg] at b g;have b:p<=0+(l.length+1):=b;have g:_<=0+(l.length+1):=g;have i:=Z35 ⟨Fc 50,[]⟩ l c;obtain⟨T,hT⟩:∃T,T=Mn ⟨Fc 50,[]⟩ (l++[c]):=⟨_,rfl⟩;rw[<-hT] at a g i⊢;refine dz (λd=>by cases d) λ_=>?_;refine Jh (Z8 c) ?_;cases hk:okB c
   case false =>
    refine dz (λ_=>?_) λd=>by cases d
    refine dz (λ_=>?_) λd=>by cases d
    refine Jh J6 ?_;exact rfl
   case true =>
    have j:=Gj.1 hk;refine dz (λd=>by cases d) λ_=>?_;refine Jh (Z7j T.r T.l (by omega) c.client) ?_;refine dy (λz=>?_) λo=>?_
    .have e:=Z7u (t:=Mn ⟨Fc 50,[]⟩ l) j (by rw[<-i];exact z);rw[<-i] at e;refine Jh J6 ?_;refine dz (λ_=>?_) λd=>by cases d
     refine Jh (Yh c) ?_;refine(Jw a (by omega) c m).cal λq rs f=>?_;unfold ApP at f;rw[e] at f;obtain⟨rfl,W,V,G,n,rfl⟩:=f;exact rfl
    .have e:=Yx (t:=T) j o;have Z:=Yx (t:=T) (Zet j) o;have k:=Qb a c;rw[e] at k;refine Jh (Yh c) ?_;refine(Jw a (by omega) c m).cal λq rs f=>?_;unfold ApP at f;rw[e] at f;obtain⟨rfl,W,V,G,n,rfl⟩:=f;refine(Jw n (by omega) (c9 c) (Zfg c)).cal λq rs f=>?_;unfold ApP at f;rw[Z] at f;obtain⟨rfl,K3,L3,X,B,rfl⟩:=f;refine Jh J6 ?_;refine dz (λ_=>?_) λd=>by cases d
     refine Jh (Ja _) ?_;refine Jh (Pb _ k) ?_;refine dz (λ_=>?_) λd=>by cases d
     refine Jh (Ja _) ?_;refine Jh (Pb _ k) ?_;refine dz (λ_=>?_) λd=>by cases d
     refine(W6 B (by omega) T.l (by omega) (Z9y a.nd)).cal λq rs f=>?_;obtain⟨rfl,rfl⟩:=f;exact rfl
 all_goals
  try refine dz (λ_=>?_) λd=>by cases d
  refine Jh J6 ?_;exact rfl
def Zea:List Sp:=[.i .i64,.i .i64,.i .i64,.i .i64,.i .i64,.i .i64,.i .i64,.s,.s,.i .i64,.i .i64,.i .i64,.s,.b,.i .i64,.i .i64,.i .i64,.s]
theorem Z2d {r:List G}(h:TyL Zea r):∃c:RCl,r=enC c/\SmC c:=by obtain⟨i,r,rfl,-,h⟩:=h.i_inv;obtain⟨a1,r,rfl,-,h⟩:=h.i_inv;obtain⟨a2,r,rfl,-,h⟩:=h.i_inv;obtain⟨l,r,rfl,-,h⟩:=h.i_inv;obtain⟨n,r,rfl,-,h⟩:=h.i_inv;obtain⟨f,r,rfl,-,h⟩:=h.i_inv;obtain⟨g,r,rfl,-,h⟩:=h.i_inv;obtain⟨d,r,rfl,e,h⟩:=h.s_inv;obtain⟨j,r,rfl,k,h⟩:=h.s_inv;obtain⟨m,r,rfl,-,h⟩:=h.i_inv;obtain⟨o,r,rfl,-,h⟩:=h.i_inv;obtain⟨b1,r,rfl,-,h⟩:=h.i_inv;obtain⟨b2,r,rfl,b,h⟩:=h.s_inv;obtain⟨b3,r,rfl,-,h⟩:=h.b_inv;obtain⟨b4,r,rfl,-,h⟩:=h.i_inv;obtain⟨b5,r,rfl,-,h⟩:=h.i_inv;obtain⟨b6,r,rfl,-,h⟩:=h.i_inv;obtain⟨b7,r,rfl,a,h⟩:=h.s_inv;obtain rfl:=h.nil_inv;exact⟨⟨i,a1,a2,(l,n),(f,g),d,j,⟨m,o,b1,b2⟩,b3,b4,b5,b6,b7⟩,rfl,⟨e,k,b,a⟩⟩
theorem Zk {g:G}(h:TyL [.sl Zea] [g]):∃l:List RCl,g=.sl (l.map enC)/\∀c∈l,SmC c:=by obtain⟨a,r,e,d,hr,h⟩:=h.sl_inv;obtain rfl:=h.nil_inv;obtain⟨l,rfl,b⟩:=Z7x (f:=enC) (Q:=SmC) λr h=>Z2d (hr r h);exact⟨l,by simpa using e,b⟩
end Go.Proofs.YtmmdikhljefeiaaGreat
