
import Derived.Test.YtmmdikhljefeiaaGreatSxMc
import Derived.Test.YtmmdikhljefeiaaGreatSM1
import Derived.Test.YtmmdikhljefeiaaGreatYFsE
import Derived.Test.YtmmdikhljefeiaaGreatWA
import Derived.Test.YtmmdikhljefeiaaGreatYFsR
import Derived.Test.YtmmdikhljefeiaaGreatFsXW
import Derived.Test.YtmmdikhljefeiaaGreatLaM
import Derived.Test.YtmmdikhljefeiaaGreatOP
import Derived.Test.YtmmdikhljefeiaaGreatYFtL
import Derived.Sort.Walk0
namespace Go.Proofs.YtmmdikhljefeiaaGreat
open Go.RowKit
set_option maxRecDepth 100000
def gNu (n:Nat):List G:=[.v (.int .i64 n)]
def enI (x:RIn):List G:=[.v (.int .i64 x.id),.v (.int .i64 x.gen),.v (.int .i64 x.kind),.v (.int .i64 x.mode),.v (.int .i64 x.time),.v (.int .i64 x.parent),.v (.string x.target),.sl (x.B.map gBy),.sl (x.On.map gNu)]
def enN (x:RNm):List G:=[.v (.int .i64 x.dir),.v (.string x.name),.v (.int .i64 x.id)]
def enG (n:Int):List G:=[.v (.int .i64 n)]
def enF (r:RFs):G:=.agg [.v (.int .i64 r.room),.sl (r.ins.map enI),.sl (r.nms.map enN),.sl (r.gens.map enG)]
structure Few (r:RFs):Prop where
 i:r.ins.length<=1000
 n:r.nms.length<=1000000
 g:r.gens.length<=1000
theorem Jb (r:RFs)(d:Few r)(id:Int):FnV Tryz.prog 118 [enF r,.v (.int .i64 id)] λg=>g=.agg (enI (A3 r.ins id)):=by
 refine fnG Tryz.func118 ?_;have f:=d.i;refine Ax [1,2,4] [0,1] (λi:Nat=>[(5,.v (.int .i64 i))]) (λ_=>[]) (λi=>i<=r.ins.length/\∀x∈r.ins.take i,¬x.id=id) (λi=>r.ins.length - i) 0 ⟨by omega,by simp⟩ ⟨⟨rfl,rfl⟩,trivial⟩ trivial rfl λi ⟨j,hno⟩=>?_;refine dv (λh=>?_) (λh=>?_)
 .refine ee (by simpa using h) λx a=>du (λb=>?_) (λb=>?_)
  .refine ec a ?_;have e:A3 r.ins id=x:=by
    unfold A3;rw[Z0b a (λy c=>decide_eq_false (hno y c)) (decide_eq_true b)];rfl
   show G.agg (enI x)=_;rw[e]
  .have:=Bd a;refine⟨by omega,i+1,⟨by omega,Oi a hno b⟩,(by dsimp only;omega),?_⟩;refine⟨?_,?_,rfl⟩<;>repeat' (first|exact trivial|with_reducible rfl|exact rfl|refine And.intro ?_ ?_)
 .rw[show A3 r.ins id=Z71 from Jz (L8 (by simpa using h) hno)];rfl
theorem Lm (r:RFs)(c:Few r)(i g:Int):FnV Tryz.prog 84 [enF r,.agg [.v (.int .i64 i),.v (.int .i64 g)]] λq=>q=.tup [.agg (enI (if Aj r (i,g)=true then A3 r.ins i else Z71)),.v (.int .i64 (Bu r (i,g)))]:=by
 refine fnG Tryz.func84 ?_;refine(Jb r c i).cal λq b=>?_;subst b;have e:Aj r (i,g)=decide ((A3 r.ins i).id≠0/\(A3 r.ins i).gen=g):=rfl;refine du (λh=>?_) (λh=>dy (λa=>?_) (λa=>?_))
 .have:Aj r (i,g)=false:=by rw[e];simp[h]
  simp only[Bu,this,Bool.false_eq_true,if_false];rfl
 .have:Aj r (i,g)=false:=by rw[e];simp[a]
  simp only[Bu,this,Bool.false_eq_true,if_false];rfl
 .have:Aj r (i,g)=true:=by rw[e];simp[h,a]
  simp only[Bu,this,if_true];rfl
theorem I4 {r:RFs}{i g:Int}:(Aj r (i,g)=true/\Bu r (i,g)=0)\/(Aj r (i,g)=false/\Bu r (i,g)=175/\Ab r (i,g)=175):=by unfold Bu Ab;cases Aj r (i,g)<;>simp
theorem Fy (r:RFs)(d:Few r)(i g:Int):FnV Tryz.prog 127 [enF r,.agg [.v (.int .i64 i),.v (.int .i64 g)]] λq=>q=.tup [.agg (enI (if Ab r (i,g)=0 then A3 r.ins i else Z71)),.v (.int .i64 (Ab r (i,g)))]:=by
 refine fnG Tryz.func127 ?_;refine(Lm r d i g).cal λq c=>?_;subst c;rcases I4 (r:=r) (i:=i) (g:=g) with⟨b,he⟩ | ⟨b,he,a⟩
 .rw[b,he,dq rfl];refine du (λ_=>dy (λh=>?_) (λh=>?_)) (λh=>dt rfl h)
  .have a:Ab r (i,g)=173:=by unfold Ab;rw[b];exact(dp h:ite _ _ _=_)
   rw[a];exact rfl
  .have a:Ab r (i,g)=0:=by unfold Ab;rw[b];exact(dq h:ite _ _ _=_)
   rw[a];exact rfl
 .rw[b,he,a];exact du (λh=>by cases h) (λ_=>by exact rfl)
def Td (r:RFs)(h:Int × Int):Int:=if Aj r h=true then(if(A3 r.ins h.1).kind=2 then 172 else if(A3 r.ins h.1).kind=3 then 1 else 0) else 175
theorem Zb (r:RFs)(d:Few r)(i g:Int):FnV Tryz.prog 137 [enF r,.agg [.v (.int .i64 i),.v (.int .i64 g)]] λq=>q=.tup [.agg (enI (if Aj r (i,g)=true then A3 r.ins i else Z71)),.v (.int .i64 (Td r (i,g)))]:=by
 refine fnG Tryz.func137 ?_;refine(Lm r d i g).cal λq c=>?_;subst c;rcases I4 (r:=r) (i:=i) (g:=g) with⟨a,he⟩ | ⟨a,he,hf⟩
 .have e:Td r (i,g)=if(A3 r.ins i).kind=2 then 172 else if(A3 r.ins i).kind=3 then 1 else 0:=by unfold Td;rw[a];rfl
  rw[a,he,e,dq rfl];refine dy (λh=>dt rfl h) (λ_=>du (λh=>?_) (λh=>?_))
  .rw[dq h];exact rfl
  .rw[dp h];refine du (λb=>?_) (λb=>?_)
   .rw[dq b];exact rfl
   .rw[dp b];exact rfl
 .have e:Td r (i,g)=175:=by unfold Td;rw[a];rfl
  rw[a,he,e];exact dy (λh=>by exact rfl) (λh=>by cases h)
theorem Kf (s:ByteArray)(l:s.size<=maxLen):FnV Tryz.prog 128 [.v (.string s)] λg=>g=.v (.bool (Ae s)):=by
 refine fnG Tryz.func128 ?_;unfold maxLen at l;refine Ax [0] [] (λi:Nat=>[(3,.v (.int .i64 i))]) (λ_=>[]) (λi=>i<=s.size/\∀c∈s.data.toList.take i,¬(c=47\/c=0)) (λi=>s.size - i) 0 ⟨by omega,by simp⟩ ⟨⟨rfl,rfl⟩,trivial⟩ trivial rfl λi ⟨q,hno⟩=>?_;refine dv (λh=>?_) (λh=>?_)
 .have n:i < s.data.toList.length:=by simpa using h
  have bad:∀c,s.data.toList[i]?=some c->(c=47\/c=0)->Ae s=false:=λc d h=>by
   have:(s.data.toList.all λc=>decide (c≠47/\c≠0))=false:=by rw[List.all_eq_false];exact⟨c,au d,by rcases h with h | h<;>simp[h]⟩
   unfold Ae;rw[this,Bool.and_false]
  refine⟨⟨by omega,by omega⟩,λc d=>du (λb=>?_) (λb=>⟨⟨by omega,by omega⟩,λk f=>du (λa=>?_) (λa=>?_)⟩)⟩
  .rw[bad c (by simpa using d) (.inl (UInt8.toNat_inj.1 (by simpa using (by omega:c.toNat=47))))];rfl
  .rw[bad k (by simpa using f) (.inr (UInt8.toNat_inj.1 (by simpa using (by omega:k.toNat=0))))];rfl
  .rw[d] at f;obtain rfl:=cu f;refine⟨by omega,i+1,⟨by omega,?_⟩,(by dsimp only;omega),?_⟩
   .refine Oi (by simpa using d) hno ?_;rintro(rfl | rfl)
    .exact b rfl
    .exact a rfl
   .refine⟨?_,?_,rfl⟩<;>repeat' (first|exact trivial|with_reducible rfl|exact rfl|refine And.intro ?_ ?_)
 .have ok:(s.data.toList.all λc=>decide (c≠47/\c≠0))=true:=by
   rw[List.all_eq_true];intro c d;have:=L8 (p:=λc=>¬(c=47\/c=0)) (by simpa using h) hno c d;simp at this⊢;exact this
  have e:Ae s=decide (1<=s.size/\s.size<=60/\s≠Mu/\s≠dot2S):=by unfold Ae;rw[ok,Bool.and_true]
  rw[e];have o:Mu=⟨#[46]⟩:=rfl;have m:dot2S=⟨#[46,46]⟩:=rfl;refine dv (λb=>dv (λa=>EvIf.bneS (λj=>?_) (λj=>?_)) (λa=>?_)) (λb=>?_)
  .show G.v (.bool (!(s.toList==dot2S.toList)))=_;rw[Iu];have j:s≠Mu:=j;have b:1<=s.size:=by omega
   have a:s.size<=60:=by omega
   simp[b,a,j]
  .have:¬(1<=s.size/\s.size<=60/\s≠Mu/\s≠dot2S):=λh=>h.2.2.1 j;rw[decide_eq_false this];exact rfl
  .have:¬(1<=s.size/\s.size<=60/\s≠Mu/\s≠dot2S):=λh=>a (by have:=h.2.1;omega);rw[decide_eq_false this];exact rfl
  .have:¬(1<=s.size/\s.size<=60/\s≠Mu/\s≠dot2S):=λh=>b (by have:=h.1;show(s.size:Int) >= 1;omega);rw[decide_eq_false this];exact rfl
theorem I8 (r:RFs)(k:Few r)(dir:Int)(s:ByteArray):FnV Tryz.prog 130 [enF r,.v (.int .i64 dir),.v (.string s)] λg=>g=.v (.int .i64 (A2 r.nms dir s)):=by
 refine fnG Tryz.func130 ?_;have l:=k.n;refine Ax [1,2,3] [0] (λi:Nat=>[(7,.v (.int .i64 i))]) (λ_=>[]) (λi=>i<=r.nms.length/\∀n∈r.nms.take i,¬(n.dir=dir/\n.name=s)) (λi=>r.nms.length - i) 0 ⟨by omega,by simp⟩ ⟨⟨rfl,rfl⟩,trivial⟩ trivial rfl λi ⟨m,hno⟩=>?_;refine dv (λh=>?_) (λh=>?_)
 .refine ee (by simpa using h) λx a=>?_;have j:=Bd a;have nx:¬(x.dir=dir/\x.name=s)->i+1<=r.nms.length/\∀n∈r.nms.take (i+1),¬(n.dir=dir/\n.name=s):=λh=>⟨by omega,Oi a hno h⟩;refine du (λc=>ec a (EvIf.beqS (λb=>ec a ?_) (λb=>?_))) (λc=>?_)
  .have e:A2 r.nms dir s=x.id:=by
    unfold A2;rw[Z0b a (λy d=>decide_eq_false (hno y d)) (decide_eq_true ⟨c,b⟩)];rfl
   rw[e];exact rfl
  .refine⟨by omega,i+1,nx λh=>b h.2,(by dsimp only;omega),?_⟩;refine⟨?_,?_,rfl⟩<;>repeat' (first|exact trivial|with_reducible rfl|exact rfl|refine And.intro ?_ ?_)
  .refine⟨by omega,i+1,nx λh=>c h.1,(by dsimp only;omega),?_⟩;refine⟨?_,?_,rfl⟩<;>repeat' (first|exact trivial|with_reducible rfl|exact rfl|refine And.intro ?_ ?_)
 .have e:A2 r.nms dir s=0:=by
   unfold A2;rw[List.find?_eq_none.2 λn f=>by simpa using L8 (by simpa using h) hno n f];rfl
  rw[e];exact rfl
theorem Z6p (r:RFs)(f:Few r)(dir:Int):FnV Tryz.prog 86 [enF r,.v (.int .i64 dir)] λg=>g=.v (.int .i64 (Dz r.nms dir:Int)):=by
 refine fnG Tryz.func86 ?_;have j:=f.n;refine Ax [1,2] [0] (λi:Nat=>[(6,.v (.int .i64 i)),(5,.v (.int .i64 (Dz (r.nms.take i) dir:Int)))]) (λ_=>[]) (λi=>i<=r.nms.length) (λi=>r.nms.length - i) 0 (by omega) ⟨⟨rfl,rfl⟩,⟨rfl,rfl⟩,trivial⟩ trivial rfl λi k=>?_;refine dv (λh=>?_) (λh=>?_)
 .refine ee (by simpa using h) λx b=>?_;have d:=Bd b;have e:=Mf (λn:RNm=>decide (n.dir=dir)) b;have c:Dz (r.nms.take i) dir<=i:=cn List.countP_le_length (List.length_take_le _ _);refine du (λa=>⟨by omega,⟨by omega,i+1,by omega,(by dsimp only;omega),?_⟩⟩) (λa=>⟨by omega,i+1,by omega,(by dsimp only;omega),?_⟩)
  .refine⟨?_,?_,rfl⟩<;>repeat' (first|exact trivial|with_reducible rfl|exact rfl|refine And.intro ?_ ?_)
   exact Zcq (show Dz (r.nms.take (i+1)) dir=Dz (r.nms.take i) dir+1 by unfold Dz;rw[e];simp[show x.dir=dir from a])
  .refine⟨?_,?_,rfl⟩<;>repeat' (first|exact trivial|with_reducible rfl|exact rfl|refine And.intro ?_ ?_)
   exact eqN (show Dz (r.nms.take (i+1)) dir=Dz (r.nms.take i) dir by unfold Dz;rw[e];simp[show ¬x.dir=dir from a])
 .rw[bc (by simp at h;omega)];exact rfl
def lkB (r:RFs)(x:RIn)(n:RNm):Bool:=if x.kind=2 then decide (n.dir=x.id/\(A3 r.ins n.id).kind=2) else decide (n.id=x.id)
theorem Yk (r:RFs)(x:RIn):A5 r x=r.nms.countP (lkB r x)+if x.kind=2 then 2 else 0:=by unfold A5 lkB;split<;>simp[*]
theorem Lv (r:RFs)(l:Few r)(x:RIn):FnV Tryz.prog 85 [enF r,.agg (enI x)] λg=>g=.v (.int .i64 (A5 r x:Int)):=by
 refine fnG Tryz.func85 ?_;have o:=l.n;refine Ax [2,3,4] [0,1] (λi:Nat=>[(6,.v (.int .i64 i)),(5,.v (.int .i64 ((r.nms.take i).countP (lkB r x):Int)))]) (λ_=>[]) (λi=>i<=r.nms.length) (λi=>r.nms.length - i) 0 (by omega) ⟨⟨rfl,rfl⟩,⟨rfl,rfl⟩,trivial⟩ trivial rfl λi p=>?_;have f:(r.nms.take i).countP (lkB r x)<=i:=cn List.countP_le_length (List.length_take_le _ _);refine dv (λh=>?_) (λh=>?_)
 .have j:i < r.nms.length:=by simpa using h
  obtain⟨n,d⟩:∃n,r.nms[i]?=some n:=⟨_,aq j⟩;have e:=Mf (lkB r x) d;have yes:lkB r x n=true->(r.nms.take (i+1)).countP (lkB r x)=(r.nms.take i).countP (lkB r x)+1:=λh=>by rw[e,h];rfl
  have no:lkB r x n=false->(r.nms.take (i+1)).countP (lkB r x)=(r.nms.take i).countP (lkB r x):=λh=>by rw[e,h];rfl
  refine du (λc=>?_) (λc=>?_)
  .have a:x.kind=2:=c;refine ec d (du (λb=>ec d ((Jb r l n.id).cal λq m=>?_)) (λb=>?_))
   .subst m;refine du (λk=>⟨by omega,?_⟩) (λk=>?_)
    .refine dy (λh=>dt a h) (λ_=>⟨by omega,i+1,by omega,(by dsimp only;omega),?_⟩);refine⟨?_,?_,rfl⟩<;>repeat' (first|exact trivial|with_reducible rfl|exact rfl|refine And.intro ?_ ?_)
     exact Zcq (yes (by unfold lkB;rw[dq a];exact decide_eq_true ⟨b,k⟩))
    .refine dy (λh=>dt a h) (λ_=>⟨by omega,i+1,by omega,(by dsimp only;omega),?_⟩);refine⟨?_,?_,rfl⟩<;>repeat' (first|exact trivial|with_reducible rfl|exact rfl|refine And.intro ?_ ?_)
     exact eqN (no (by unfold lkB;rw[dq a];exact decide_eq_false λh=>k h.2))
   .refine dy (λh=>dt a h) (λ_=>⟨by omega,i+1,by omega,(by dsimp only;omega),?_⟩);refine⟨?_,?_,rfl⟩<;>repeat' (first|exact trivial|with_reducible rfl|exact rfl|refine And.intro ?_ ?_)
    exact eqN (no (by unfold lkB;rw[dq a];exact decide_eq_false λh=>b h.1))
  .have a:¬x.kind=2:=c;refine dy (λ_=>ec d (du (λb=>⟨by omega,⟨by omega,i+1,by omega,(by dsimp only;omega),?_⟩⟩) (λb=>⟨by omega,i+1,by omega,(by dsimp only;omega),?_⟩))) (λh=>dt h a)
   .refine⟨?_,?_,rfl⟩<;>repeat' (first|exact trivial|with_reducible rfl|exact rfl|refine And.intro ?_ ?_)
    exact Zcq (yes (by unfold lkB;rw[dp a];exact decide_eq_true b))
   .refine⟨?_,?_,rfl⟩<;>repeat' (first|exact trivial|with_reducible rfl|exact rfl|refine And.intro ?_ ?_)
    exact eqN (no (by unfold lkB;rw[dp a];exact decide_eq_false b))
 .rw[bc (by simp at h;omega)] at f⊢;have e:=Yk r x;refine du (λc=>⟨by omega,?_⟩) (λc=>?_)
  .have a:x.kind=2:=c;rw[dq a] at e;rw[e];exact rfl
  .have a:¬x.kind=2:=c;rw[dp a] at e;rw[e];exact rfl
theorem Z50 (r:RFs)(h:Int × Int)(s:ByteArray):Fe r h s=if Ab r h≠0 then((0,0),Ab r h) else if s=Mu then(h,0) else if s=dot2S then(((A3 r.ins h.1).parent,(A3 r.ins (A3 r.ins h.1).parent).gen),0)
  else if Ae s=false then((0,0),176) else if A2 r.nms h.1 s=0 then((0,0),170) else((A2 r.nms h.1 s,(A3 r.ins (A2 r.nms h.1 s)).gen),0):=by
 unfold Fe B2;by_cases c:Ab r h=0<;>by_cases b:s=Mu<;>by_cases a:s=dot2S<;>cases Ae s<;>simp[c,b,a]<;>simp_all
def Zgh (p:(Int × Int) × Int):G:=.tup [.agg [.v (.int .i64 p.1.1),.v (.int .i64 p.1.2)],.v (.int .i64 p.2)]
theorem Gu {r:RFs}{i g:Int}(h:Ab r (i,g)=0):(A3 r.ins i).id=i:=by
 have:Aj r (i,g)=true:=by
  unfold Ab at h;cases hl:Aj r (i,g) with
  | true=>rfl
  | false=>rw[hl] at h;cases h
 exact(Ac this).2.1
theorem Zc6 (r:RFs)(j:Few r){K:Nat}(l:Wf r K)(i g:Int)(s:ByteArray)(n:s.size<=maxLen):FnV Tryz.prog 114 [enF r,.agg [.v (.int .i64 i),.v (.int .i64 g)],.v (.string s)] λq=>q=Zgh (Fe r (i,g) s):=by
 refine fnG Tryz.func114 ?_;refine(Fy r j i g).cal λq b=>?_;subst b;rw[Z50];by_cases a:Ab r (i,g)=0
 .rw[a,dq rfl,dp (by simp)];have hid:=Gu a;refine dy (λh=>dt rfl h) λ_=>EvIf.beqS (fun(h:s=Mu)=>?_) (fun(h:¬s=Mu)=>?_)
  .rw[dq h];exact rfl
  .rw[dp h];refine EvIf.bneS (fun(k:¬s=dot2S)=>?_) (fun(k:s=dot2S)=>?_)
   .rw[dp k];refine(Kf s n).cal λq b=>?_;subst b;cases hv:Ae s with
    | false=>exact⟨λ_=>(by rw[dq rfl];exact rfl),λh=>by cases h⟩
    | true =>
     rw[dp (by simp)];refine⟨λh=>(by cases h),λ_=>(I8 r j _ s).cal λq b=>?_⟩;rw[hid] at b;subst b;refine du (λc=>?_) (λc=>?_)
     .rw[dq c];exact rfl
     .rw[dp c];refine(Jb r j _).cal λq b=>?_;subst b;exact rfl
   .rw[dq k];refine du (λc=>?_) (λc=>?_)
    .exfalso;have f:Aj r (i,g)=true:=by
      unfold Ab at a;cases f:Aj r (i,g) with
      | true=>rfl
      | false=>rw[f] at a;cases a
     have d:(A3 r.ins i).kind=2:=by
      unfold Ab at a;rw[f] at a;by_cases d:(A3 r.ins i).kind=2
      .exact d
      .simp[d] at a
     obtain⟨p,m,e,-⟩:=l.par _ (Ac f).1 d;have:=l.ne0 m;exact this (e.trans c)
    .refine(Jb r j _).cal λq b=>?_;subst b;exact rfl
 .rw[dq a];exact dy (λ_=>by exact rfl) (λh=>dt h a)
def D4 (r:RFs)(h:Int × Int):ByteArray × Int:=if Aj r h=true then(if(A3 r.ins h.1).kind=3 then((A3 r.ins h.1).target,0) else(Jr,1)) else(Jr,175)
theorem Z3z (r:RFs)(c:Few r)(i g:Int):FnV Tryz.prog 117 [enF r,.agg [.v (.int .i64 i),.v (.int .i64 g)]] λq=>q=.tup [.v (.string (D4 r (i,g)).1),.v (.int .i64 (D4 r (i,g)).2)]:=by
 refine fnG Tryz.func117 ?_;refine(Lm r c i g).cal λq b=>?_;subst b;unfold D4;rcases I4 (r:=r) (i:=i) (g:=g) with⟨a,he⟩ | ⟨a,he,hf⟩
 .rw[a,he,dq rfl,dq rfl];refine dy (λh=>dt rfl h) λ_=>dy (λh=>?_) (λh=>?_)
  .rw[dp h];exact rfl
  .rw[dq h];exact rfl
 .rw[a,he,dp (by simp)];exact dy (λh=>by exact rfl) (λh=>by cases h)
theorem Z80 (r:RFs)(c:Few r)(id:Int)(fo:Bool)(hid:(A3 r.ins id).kind=2->(A3 r.ins id).id=id):FnV Tryz.prog 133 [enF r,.v (.int .i64 id),.v (.bool fo)] λq=>q=.v (.int .i64 (Fp r (A3 r.ins id) fo)):=by
 refine fnG Tryz.func133 ?_;refine(Jb r c id).cal λq b=>?_;subst b;unfold Fp;refine du (λh=>?_) (λh=>?_)
 .rw[dq h,hid h];cases fo with
  | false=>exact⟨λ_=>(by rw[dp (by simp)];exact rfl),λh=>by cases h⟩
  | true =>
   rw[dq rfl];refine⟨λh=>(by cases h),λ_=>dy (λa=>dt h a) λ_=>du (λ_=>(Z6p r c id).cal λq b=>?_) (λa=>dt h a)⟩;subst b;refine dv (λh=>?_) (λh=>?_)
   .rw[dq (by omega)];exact rfl
   .rw[dp (by omega)];exact rfl
 .rw[dp h];refine dy (λ_=>?_) (λa=>dt a h);cases fo with
  | false=>exact⟨λh=>(by cases h),λ_=>du (λa=>dt a h) λ_=>(by rw[dp (by simp)];exact rfl)⟩
  | true=>exact⟨λ_=>(by rw[dq rfl];exact rfl),λh=>by cases h⟩
theorem Lr {α:Type}(p:α->Bool){L:List α}{i:Nat}{m:α}(h:L[i]?=some m):(L.take (i+1)).filter p=(L.take i).filter p++if p m=true then [m] else []:=by rw[B9 h,List.filter_append];cases hp:p m<;>simp[hp]
theorem Eh {α β:Type}(p:α->Bool)(f:α->β){L:List α}{i:Nat}{m:α}(h:L[i]?=some m)(a:p m=true):((L.take i).filter p).map f++[f m]=((L.take (i+1)).filter p).map f:=by rw[Lr p h,dq a];simp
theorem Iq {α β:Type}(p:α->Bool)(f:α->β){L:List α}{i:Nat}{m:α}(h:L[i]?=some m)(a:p m=false):((L.take i).filter p).map f=((L.take (i+1)).filter p).map f:=by rw[Lr p h,a];simp
theorem Ip {α:Type}(p:α->Bool)(L:List α)(i:Nat):((L.take i).filter p).length<=L.length:=cn (ah _ _) (List.length_take_le' _ _)
theorem Zfc (m:RMk)(d:m.target.size<=maxLen):FnV Tryz.prog 129 [.agg [.v (.int .i64 m.kind),.v (.int .i64 m.mode),.v (.int .i64 m.time),.v (.string m.target)]] λq=>q=.v (.bool (!Cw m)):=by
 refine fnG Tryz.func129 ?_;have no:¬(1<=m.kind/\m.kind<=3/\0<=m.mode/\m.mode < 4096/\0<=m.time/\m.time<=1099511627776)->Cw m=false:=λh=>decide_eq_false λa=>h ⟨a.1,a.2.1,a.2.2.1,a.2.2.2.1,a.2.2.2.2.1,a.2.2.2.2.2.1⟩;unfold maxLen at d;have em:m.target=⟨#[]⟩↔m.target.size=0:=⟨λh=>by rw[h];rfl,λh=>by exact Zbg h⟩
 refine dv (fun(h:m.kind < 1)=>?_) fun(f:¬m.kind < 1)=>dv (fun(h:m.kind > 3)=>?_) fun(e:¬m.kind > 3)=>dv (fun(h:m.mode < 0)=>?_) fun(l:¬m.mode < 0)=>dv (fun(h:m.mode > 4095)=>?_) fun(g:¬m.mode > 4095) =>
  dv (fun(h:m.time < 0)=>?_) fun(k:¬m.time < 0)=>dv (fun(h:m.time > 1099511627776)=>?_) fun(i:¬m.time > 1099511627776)=>du (fun(h:m.kind=3)=>EvIf.beqS (λc=>?_) λc=>?_) (fun(h:m.kind≠3)=>?_)
 iterate 6 (rw[no (by omega)];exact rfl)
 .have:Cw m=false:=decide_eq_false λa=>by have:=(a.2.2.2.2.2.2.1 h).1;have:=em.1 c;omega
  rw[this];exact rfl
 .have j:m.target.size≠0:=λh=>c (em.2 h);have:(!Cw m)=decide ((m.target.size:Int) > 100):=by
   unfold Cw;by_cases b:m.target.size<=100
   .rw[decide_eq_true ⟨by omega,by omega,by omega,by omega,by omega,by omega,λ_=>⟨by omega,b⟩,λa=>dt h a⟩,decide_eq_false (by omega)];rfl
   .rw[decide_eq_false (λa=>b (a.2.2.2.2.2.2.1 h).2),decide_eq_true (by omega)];rfl
  rw[this];exact rfl
 .have:(!Cw m)=!(m.target.toList==(⟨#[]⟩:ByteArray).toList):=by
   rw[Iu];unfold Cw;by_cases b:m.target.size=0
   .rw[decide_eq_true ⟨by omega,by omega,by omega,by omega,by omega,by omega,λa=>dt a h,λ_=>b⟩,decide_eq_true (em.2 b)]
   .rw[decide_eq_false (λa=>b (a.2.2.2.2.2.2.2 h)),decide_eq_false (λa=>b (em.1 a))]
  rw[this];exact rfl
theorem Qq (r:RFs)(j:Few r)(x:RIn):FnV Tryz.prog 131 [enF r,.agg (enI x)] λq=>q=enF (Hn r x):=by
 refine fnG Tryz.func131 ?_;have k:=j.i;obtain⟨p,b⟩:∃p:RIn->Bool,p=λy=>decide (y.id≠x.id):=⟨_,rfl⟩;refine Ax [2,3,4] [0,1,2] (λi:Nat=>[(6,.v (.int .i64 i)),(5,.osl 3)]) (λi=>[(3,.slc (((r.ins.take i).filter p).map enI) 124 9)]) (λi=>i<=r.ins.length) (λi=>r.ins.length - i) 0 (by omega) ⟨⟨rfl,rfl⟩,⟨rfl,rfl⟩,trivial⟩ ⟨RL1,trivial⟩ rfl λi l=>?_;have d:=Ip p r.ins i;refine dv (λh=>?_) (λh=>?_)
 .refine ee (by simpa using h) λy a=>?_;have g:=Bd a;refine dy (λc=>ec a ⟨by simp;omega,⟨by omega,i+1,by omega,(by dsimp only;omega),?_⟩⟩) (λc=>⟨by omega,i+1,by omega,(by dsimp only;omega),?_⟩)
  .refine⟨?_,?_,rfl⟩<;>repeat' (first|exact trivial|with_reducible rfl|exact rfl|refine And.intro ?_ ?_)
   exact eqR (Eh p enI a (by rw[b];exact decide_eq_true c))
  .refine⟨?_,?_,rfl⟩<;>repeat' (first|exact trivial|with_reducible rfl|exact rfl|refine And.intro ?_ ?_)
   exact eqR (Iq p enI a (by rw[b];exact decide_eq_false λf=>f c))
 .rw[bc (by simp at h;omega)] at d⊢;refine⟨by simp;omega,?_⟩;have e:enF (Hn r x)=.agg [.v (.int .i64 r.room),.sl ((r.ins.filter p).map enI++[enI x]),.sl (r.nms.map enN),.sl (r.gens.map enG)]:=by
   unfold Hn enF;rw[b];simp
  rw[e];exact rfl
theorem Zcl (r:RFs)(j:Few r)(id:Int):FnV Tryz.prog 148 [enF r,.v (.int .i64 id)] λq=>q=enF (Hk r id):=by
 refine fnG Tryz.func148 ?_;have k:=j.i;obtain⟨p,b⟩:∃p:RIn->Bool,p=λy=>decide (y.id≠id):=⟨_,rfl⟩;refine Ax [1,2,4] [0,1] (λi:Nat=>[(6,.v (.int .i64 i)),(5,.osl 2)]) (λi=>[(2,.slc (((r.ins.take i).filter p).map enI) 124 9)]) (λi=>i<=r.ins.length) (λi=>r.ins.length - i) 0 (by omega) ⟨⟨rfl,rfl⟩,⟨rfl,rfl⟩,trivial⟩ ⟨RL1,trivial⟩ rfl λi l=>?_;have f:=Ip p r.ins i;refine dv (λh=>?_) (λh=>?_)
 .refine ee (by simpa using h) λy a=>?_;have g:=Bd a;refine dy (λc=>ec a ⟨by simp;omega,⟨by omega,i+1,by omega,(by dsimp only;omega),?_⟩⟩) (λc=>⟨by omega,i+1,by omega,(by dsimp only;omega),?_⟩)
  .refine⟨?_,?_,rfl⟩<;>repeat' (first|exact trivial|with_reducible rfl|exact rfl|refine And.intro ?_ ?_)
   exact eqR (Eh p enI a (by rw[b];exact decide_eq_true c))
  .refine⟨?_,?_,rfl⟩<;>repeat' (first|exact trivial|with_reducible rfl|exact rfl|refine And.intro ?_ ?_)
   exact eqR (Iq p enI a (by rw[b];exact decide_eq_false λd=>d c))
 .rw[bc (by simp at h;omega)];have e:enF (Hk r id)=.agg [.v (.int .i64 r.room),.sl ((r.ins.filter p).map enI),.sl (r.nms.map enN),.sl (r.gens.map enG)]:=by
   unfold Hk enF;rw[b]
  rw[e];exact rfl
theorem Fh (r:RFs)(j:Few r)(dir:Int)(s:ByteArray):FnV Tryz.prog 136 [enF r,.v (.int .i64 dir),.v (.string s)] λq=>q=enF (A7 r dir s):=by
 refine fnG Tryz.func136 ?_;have k:=j.n;obtain⟨p,d⟩:∃p:RNm->Bool,p=λn=>!decide (n.dir=dir/\n.name=s):=⟨_,rfl⟩;refine Ax [1,2,3,6] [0,1] (λi:Nat=>[(8,.v (.int .i64 i)),(7,.osl 2)]) (λi=>[(2,.slc (((r.nms.take i).filter p).map enN) 230 3)]) (λi=>i<=r.nms.length) (λi=>r.nms.length - i) 0 (by omega) ⟨⟨rfl,rfl⟩,⟨rfl,rfl⟩,trivial⟩ ⟨RL1,trivial⟩ rfl λi l=>?_;have f:=Ip p r.nms i;refine dv (λh=>?_) (λh=>?_)
 .refine ee (by simpa using h) λy a=>?_;have g:=Bd a;refine dy (λc=>?_) (λc=>ec a (EvIf.bneS (λb=>?_) (λb=>⟨by omega,i+1,by omega,(by dsimp only;omega),?_⟩)))
  .refine ec a ⟨by simp;omega,⟨by omega,i+1,by omega,(by dsimp only;omega),?_⟩⟩;refine⟨?_,?_,rfl⟩<;>repeat' (first|exact trivial|with_reducible rfl|exact rfl|refine And.intro ?_ ?_)
   exact eqR (Eh p enN a (by rw[d];have c:¬y.dir=dir:=c;simp[c]))
  .refine ec a ⟨by simp;omega,⟨by omega,i+1,by omega,(by dsimp only;omega),?_⟩⟩;refine⟨?_,?_,rfl⟩<;>repeat' (first|exact trivial|with_reducible rfl|exact rfl|refine And.intro ?_ ?_)
   exact eqR (Eh p enN a (by rw[d];have b:¬y.name=s:=b;simp[b]))
  .refine⟨?_,?_,rfl⟩<;>repeat' (first|exact trivial|with_reducible rfl|exact rfl|refine And.intro ?_ ?_)
   exact eqR (Iq p enN a (by rw[d];have c:y.dir=dir:=c;have b:y.name=s:=b;simp[c,b]))
 .rw[bc (by simp at h;omega)];have e:enF (A7 r dir s)=.agg [.v (.int .i64 r.room),.sl (r.ins.map enI),.sl ((r.nms.filter p).map enN),.sl (r.gens.map enG)]:=by
   unfold A7 enF;rw[d]
  rw[e];exact rfl
theorem J9 {α:Type}{f:α->List G}{sz:Nat}(a:∀x,(f x).length=sz/\(f x).all G.one=true)(l:List α):∀r∈l.map f,r.length=sz/\r.all G.one=true:=λr hr=>by obtain⟨x,-,rfl⟩:=bk.1 hr;exact a x
theorem Ia (r:RFs)(a:Few r)(dir:Int)(s:ByteArray)(id:Int):FnV Tryz.prog 132 [enF r,.v (.int .i64 dir),.v (.string s),.v (.int .i64 id)] λq=>q=enF (Ai r dir s id):=by
 refine fnG Tryz.func132 ?_;have b:=a.n;refine⟨J9 (f:=enN) (λx=>⟨rfl,rfl⟩) _,⟨by simp;omega,⟨by simp;omega,?_⟩⟩⟩;have e:enF (Ai r dir s id)=.agg [.v (.int .i64 r.room),.sl (r.ins.map enI),.sl (([]++r.nms.map enN)++[enN ⟨dir,s,id⟩]),.sl (r.gens.map enG)]:=by unfold Ai enF;simp
 rw[e];exact rfl
theorem Da {r:RFs}(h:Few r)(dir:Int)(s:ByteArray):Few (A7 r dir s):=⟨h.i,cn (ah _ _) h.n,h.g⟩
theorem Z28 (r:RFs)(b:Few r)(dir:Int)(s:ByteArray)(d:(A3 r.ins (A2 r.nms dir s)).id=A2 r.nms dir s):FnV Tryz.prog 134 [enF r,.v (.int .i64 dir),.v (.string s)] λq=>q=enF (Au r dir s):=by
 refine fnG Tryz.func134 ?_;have e:=Da b dir s;have k:FnV Tryz.prog 148 [enF (A7 r dir s),.v (.int .i64 (A3 r.ins (A2 r.nms dir s)).id)] λq=>q=enF (Hk (A7 r dir s) (A2 r.nms dir s)):=by rw[d];exact Zcl _ e _
 have j:(A3 r.ins (A2 r.nms dir s)).kind=2\/A5 (A7 r dir s) (A3 r.ins (A2 r.nms dir s))=0->Au r dir s=Hk (A7 r dir s) (A2 r.nms dir s):=λh=>dq h;have l:¬((A3 r.ins (A2 r.nms dir s)).kind=2\/A5 (A7 r dir s) (A3 r.ins (A2 r.nms dir s))=0)->Au r dir s=A7 r dir s:=λh=>dp h;have i:=I8 r b dir s;have c:=Jb r b (A2 r.nms dir s);refine⟨i.cal λq a=>?_,i.cal λq a=>?_⟩<;>subst a
 case' refine_1=>refine⟨c.cal λq a=>?_,c.cal λq a=>?_⟩
 case' refine_2=>refine c.cal λq a=>?_
 all_goals
  subst a;refine(Fh r b dir s).cal λq a=>?_;subst a;refine du (λh=>?_) (λh=>(Lv _ e _).cal λq a=>?_)
  .refine k.cal λq a=>?_;rw[j (.inl h),a];exact rfl
  .subst a;refine du (λf=>?_) (λf=>?_)
   .refine k.cal λq a=>?_;rw[j (.inr (by omega)),a];exact rfl
   .rw[l (λg=>g.elim h (λg=>f (by omega)))];exact rfl
theorem Z9c (r:RFs)(n:Few r){K:Nat}(g:Wf r K)(a:Int){x:RIn}(l:x∈r.ins)(c:x.kind=2):FnV Tryz.prog 135 [enF r,.v (.int .i64 x.id),.v (.int .i64 a)] λq=>q=.v (.bool (Be r x.id a)):=by
 refine fnG Tryz.func135 ?_;obtain⟨ρ,hρ⟩:=g.tree;refine Ax [2,3] [0] (λy:RIn=>[(1,.v (.int .i64 y.id))]) (λ_=>[]) (λy=>y∈r.ins/\y.kind=2/\Be r y.id a=Be r x.id a) (λy=>ρ y.id) x ⟨l,c,rfl⟩ ⟨⟨rfl,rfl⟩,trivial⟩ trivial rfl λy ⟨d,c,hb⟩=>?_;have done:y.id=a\/y.id=1->Be r x.id a=(y.id==a):=λh=>by
  rw[<-hb];by_cases b:y.id=a
  .rw[b,Pf];simp
  .rcases h with h | h
   .exact dt h b
   .rw[h] at b⊢;rw[Ns b];simp[b]
 refine dy (λi=>dy (λf=>(Jb r n _).cal λq m=>?_) (λf=>?_)) (λi=>?_)
 .subst m;obtain⟨p,k,e,j⟩:=g.par y d c;rw[g.byId d];refine⟨p,⟨k,j,?_⟩,?_,?_⟩
  .rw[<-hb,Na i f,g.byId d,e]
  .show ρ p.id < ρ y.id;rw[e];exact hρ y d c f
  .refine⟨?_,?_,rfl⟩<;>repeat' (first|exact trivial|with_reducible rfl|exact rfl|refine And.intro ?_ ?_)
   exact eqI e.symm
 .rw[done (.inr f)];exact rfl
 .rw[done (.inl i)];exact rfl
theorem Mi (r:RFs)(h:Int × Int)(s:ByteArray):B2 r h s false=if Ab r h≠0 then Ab r h else if Ae s=true then 0 else 176:=by unfold B2;simp
theorem Xi (r:RFs)(h:Int × Int)(s:ByteArray)(fo:Bool):C4 r h s fo=if Ab r h≠0 then(r,Ab r h) else if Ae s=false then(r,176) else if A2 r.nms h.1 s=0 then(r,170)
  else if Fp r (A3 r.ins (A2 r.nms h.1 s)) fo≠0 then(r,Fp r (A3 r.ins (A2 r.nms h.1 s)) fo) else(Au r h.1 s,0):=by
 unfold C4;rw[Mi];by_cases a:Ab r h=0<;>cases h2:Ae s<;>simp[a]
theorem Z3t (r:RFs)(h d:Int × Int)(s:ByteArray):E7 r h d s=if Aj r h=false then(r,175) else if Ab r d≠0 then(r,Ab r d) else if Ae s=false then(r,176) else if(A3 r.ins h.1).kind=2 then(r,172)
  else if A2 r.nms d.1 s≠0 then(r,171) else if 20<=A5 r (A3 r.ins h.1) then(r,179) else(Ai r d.1 s h.1,0):=by
 unfold E7;rw[Mi];by_cases a:Ab r d=0<;>cases h2:Ae s<;>simp[a]
def Zc2 (p:RFs × Int):G:=.tup [enF p.1,.v (.int .i64 p.2)]
theorem Z2s (r:RFs)(d:Few r){K:Nat}(k:Wf r K)(i g:Int)(s:ByteArray)(m:s.size<=maxLen)(fo:Bool):FnV Tryz.prog 110 [enF r,.agg [.v (.int .i64 i),.v (.int .i64 g)],.v (.string s),.v (.bool fo)] λq=>q=Zc2 (C4 r (i,g) s fo):=by
 refine fnG Tryz.func110 ?_;rw[Xi];refine(Fy r d i g).cal λq a=>?_;subst a;by_cases c:Ab r (i,g)=0
 case neg=>rw[dq c];exact dy (λ_=>by exact rfl) (λh=>dt h c)
 have hid:=Gu c;rw[c,dq rfl,dp (by simp)];refine dy (λh=>dt rfl h) λ_=>(Kf s m).cal λq a=>?_;subst a;cases hv:Ae s with
 | false=>exact⟨λ_=>(by rw[dq rfl];exact rfl),λh=>(by cases h)⟩
 | true =>
  rw[dp (by simp)];refine⟨λh=>(by cases h),λ_=>(I8 r d _ s).cal λq a=>?_⟩;rw[hid] at a;subst a;refine du (fun(h:A2 r.nms i s=0)=>?_) (fun(h:¬A2 r.nms i s=0)=>?_)
  .rw[dq h];exact rfl
  .rw[dp h];obtain⟨n,p,-,-,e⟩:=B4 h;obtain⟨-,y,l,j⟩:=k.nmI n p;have o:A3 r.ins (A2 r.nms i s)=y:=by rw[<-e,<-j];exact k.byId l
   have b:(A3 r.ins (A2 r.nms i s)).id=A2 r.nms i s:=by rw[o,j,e]
   refine(Z80 r d _ fo λ_=>b).cal λq a=>?_;subst a;refine dy (λf=>?_) (λf=>?_)
   .rw[dq f];exact rfl
   .rw[dp (by simpa using f)];have hd:FnV Tryz.prog 134 [enF r,.v (.int .i64 (A3 r.ins i).id),.v (.string s)] λq=>q=enF (Au r i s):=by rw[hid];exact Z28 r d i s b
    refine hd.cal λq a=>?_;subst a;exact rfl
theorem Zdg (r:RFs)(b:Few r)(j e i g:Int)(s:ByteArray)(l:s.size<=maxLen):FnV Tryz.prog 109 [enF r,.agg [.v (.int .i64 j),.v (.int .i64 e)],.agg [.v (.int .i64 i),.v (.int .i64 g)],.v (.string s)] λq=>q=Zc2 (E7 r (j,e) (i,g) s):=by
 refine fnG Tryz.func109 ?_;rw[Z3t];refine(Lm r b j e).cal λq a=>?_;subst a;rcases I4 (r:=r) (i:=j) (g:=e) with⟨c,he⟩ | ⟨c,he,-⟩
 case inr=>rw[c,he,dq rfl];exact dy (λ_=>by exact rfl) (λh=>by cases h)
 rw[c,he,dq rfl,dp (by simp)];have k:=(Ac c).2.1;refine dy (λh=>dt rfl h) λ_=>(Fy r b i g).cal λq a=>?_;subst a;by_cases d:Ab r (i,g)=0
 case neg=>rw[dq d];exact dy (λ_=>by exact rfl) (λh=>dt h d)
 have hid:=Gu d;rw[d,dq rfl,dp (by simp)];refine dy (λh=>dt rfl h) λ_=>(Kf s l).cal λq a=>?_;subst a;cases hv:Ae s with
 | false=>exact⟨λ_=>(by rw[dq rfl];exact rfl),λh=>(by cases h)⟩
 | true =>
  rw[dp (by simp)];refine⟨λh=>(by cases h),λ_=>du (fun(h:(A3 r.ins j).kind=2)=>?_) (fun(h:¬(A3 r.ins j).kind=2)=>(I8 r b _ s).cal λq a=>?_)⟩
  .rw[dq h];exact rfl
  .rw[dp h];rw[hid] at a;subst a;refine dy (λf=>?_) (λf=>(Lv r b (A3 r.ins j)).cal λq a=>?_)
   .rw[dq f];exact rfl
   .rw[dp (by simpa using f)];subst a;refine dv (λm=>?_) (λm=>?_)
    .rw[dq (show 20<=A5 r (A3 r.ins j) by omega)];exact rfl
    .rw[dp (show ¬20<=A5 r (A3 r.ins j) by omega)];have hd:FnV Tryz.prog 132 [enF r,.v (.int .i64 (A3 r.ins i).id),.v (.string s),.v (.int .i64 (A3 r.ins j).id)] λq=>q=enF (Ai r i s j):=by rw[hid,k];exact Ia r b i s j
     refine hd.cal λq a=>?_;subst a;exact rfl
theorem Wx (r:RFs)(h:Int × Int)(s:ByteArray)(g:Int × Int)(t:ByteArray):D5 r h s g t=if Aj r h=false\/Aj r g=false then(r,175) else if(A3 r.ins h.1).kind≠2\/(A3 r.ins g.1).kind≠2 then(r,173) else if ¬(Ae s=true/\Ae t=true) then(r,176)
  else if A2 r.nms h.1 s=0 then(r,170) else if A2 r.nms h.1 s=A2 r.nms g.1 t then(r,0)
  else if(A3 r.ins (A2 r.nms h.1 s)).kind=2/\Be r g.1 (A2 r.nms h.1 s)=true then(r,178)
  else if A2 r.nms g.1 t≠0 then
   (if Fp r (A3 r.ins (A2 r.nms g.1 t)) (decide ((A3 r.ins (A2 r.nms h.1 s)).kind=2))≠0 then(r,Fp r (A3 r.ins (A2 r.nms g.1 t)) (decide ((A3 r.ins (A2 r.nms h.1 s)).kind=2)))
    else(Ah (Au r g.1 t) h.1 s g.1 t (A3 r.ins (A2 r.nms h.1 s)),0))
  else if(A3 r.ins (A2 r.nms h.1 s)).kind=2/\h.1≠g.1/\20<=A5 r (A3 r.ins g.1) then(r,179)
  else(Ah r h.1 s g.1 t (A3 r.ins (A2 r.nms h.1 s)),0):=by
 unfold D5 Di;by_cases a:Aj r h=false\/Aj r g=false
 .rw[dq a,dq (by simp),dq a]
 .by_cases b:(A3 r.ins h.1).kind≠2\/(A3 r.ins g.1).kind≠2
  .rw[dp a,dq b,dq (by simp),dp a,dq b]
  .by_cases c:Ae s=true/\Ae t=true
   .rw[dp a,dp b,dq c,dp (show ¬((0:Int)≠0) by simp),dp (show ¬¬(Ae s=true/\Ae t=true) from λh=>h c)];simp only[a,b,if_false]
   .rw[dp a,dp b,dp c,dq (by simp),dp a,dp b,dq c]
theorem Vb {r:RFs}(h:Few r)(d:Int)(u:ByteArray):Few (Au r d u)/\(Au r d u).nms.length<=r.nms.length:=by
 unfold Au;split
 .exact⟨⟨cn (ah _ _) h.i,cn (ah _ _) h.n,h.g⟩,ah _ _⟩
 .exact⟨Da h d u,ah _ _⟩
set_option maxHeartbeats 4000000 in
theorem Z5x (r:RFs)(f:Few r){K:Nat}(M:Wf r K)(hK:K<=999999)(i g:Int)(s:ByteArray)(hs:s.size<=maxLen)(j I:Int)(t:ByteArray)(Y:t.size<=maxLen):FnV Tryz.prog 111 [enF r,.agg [.v (.int .i64 i),.v (.int .i64 g),.v (.string s),.v (.int .i64 j),.v (.int .i64 I),.v (.string t)]] λq=>q=Zc2 (D5 r (i,g) s (j,I) t):=by
 refine fnG Tryz.func111 ?_;obtain⟨X,b⟩:∃X,X=D5 r (i,g) s (j,I) t:=⟨_,rfl⟩;rw[<-b];rw[Wx] at b;refine(Lm r f i g).cal λq a=>?_;subst a;refine(Lm r f j I).cal λq a=>?_;subst a;rcases I4 (r:=r) (i:=i) (g:=g) with⟨D,he⟩ | ⟨D,he,-⟩
 case inr =>
  rw[dq (.inl D)] at b;rw[D,he,b];exact dy (λ_=>by exact rfl) (λh=>by cases h)
 rcases I4 (r:=r) (i:=j) (g:=I) with⟨p,he2⟩ | ⟨p,he2,-⟩
 case inr =>
  rw[dq (.inr p)] at b;rw[D,he,p,he2,b];exact dy (λh=>dt rfl h) (λ_=>dy (λ_=>by exact rfl) (λh=>by cases h))
 rw[D,he,p,he2];rw[dp (by rw[D,p];simp)] at b;refine dy (λh=>dt rfl h) (λ_=>dy (λh=>dt rfl h) (λ_=>?_));refine(Fy r f i g).cal λq a=>?_;subst a;refine(Fy r f j I).cal λq a=>?_;subst a;have U:∀h:Int × Int,Aj r h=true->Ab r h=if(A3 r.ins h.1).kind=2 then 0 else 173:=λh hh=>by unfold Ab;simp[hh]
 have G:=U _ D;have L:=U _ p;dsimp only at G L b;by_cases Q:(A3 r.ins i).kind=2
 case neg =>
  rw[dp Q] at G;rw[dq (.inl Q)] at b;rw[G,b];exact dy (λ_=>by exact rfl) (λh=>by cases h)
 rw[dq Q] at G;by_cases N:(A3 r.ins j).kind=2
 case neg =>
  rw[dp N] at L;rw[dq (.inr N)] at b;rw[G,L,b];exact dy (λh=>dt rfl h) (λ_=>dy (λ_=>by exact rfl) (λh=>by cases h))
 rw[dq N] at L;rw[dp (by omega)] at b;rw[G,L,dq (show(0:Int)=0 from rfl),dq (show(0:Int)=0 from rfl)];have H:(A3 r.ins i).id=i:=(Ac D).2.1;have w:(A3 r.ins j).id=j:=(Ac p).2.1;refine dy (λh=>dt rfl h) (λ_=>dy (λh=>dt rfl h) (λ_=>?_));refine(Kf s hs).cal λq a=>?_;subst a;cases hv:Ae s with
 | false =>
  rw[dq (by simp[hv])] at b;rw[b];exact⟨λ_=>(by exact rfl),λh=>(by cases h)⟩
 | true =>
 refine⟨λh=>(by cases h),λ_=>(Kf t Y).cal λq a=>?_⟩;subst a;cases hv2:Ae t with
 | false =>
  rw[dq (by simp[hv2])] at b;rw[b];exact⟨λ_=>(by exact rfl),λh=>(by cases h)⟩
 | true =>
 rw[dp (by simp[hv,hv2])] at b;refine⟨λh=>(by cases h),λ_=>(I8 r f _ s).cal λq a=>?_⟩;rw[H] at a;subst a;refine(I8 r f _ t).cal λq a=>?_;rw[w] at a;subst a;refine du (fun(x:A2 r.nms i s=0)=>?_) (fun(x:¬A2 r.nms i s=0)=>du (fun(T:A2 r.nms i s=A2 r.nms j t)=>?_) (fun(T:¬A2 r.nms i s=A2 r.nms j t)=>(Jb r f _).cal λq a=>?_))
 .rw[dq x] at b;rw[b];exact rfl
 .rw[dp x,dq T] at b;rw[b];exact rfl
 subst a;rw[dp x,dp T] at b;have c:∀{d:Int} {u:ByteArray},A2 r.nms d u≠0->(A3 r.ins (A2 r.nms d u)).id=A2 r.nms d u:=λh=>by obtain⟨n,W,-,-,e⟩:=B4 h;obtain⟨-,y,Z,e2⟩:=M.nmI n W;have O:=M.byId Z;rw[<-e,<-e2,O]
 have V:=M.nmK;have S:A3 r.ins j∈r.ins:=(Ac p).1;have A:=Z9c r f M (A2 r.nms i s) S N;rw[w] at A;have A:FnV Tryz.prog 135 [enF r,.v (.int .i64 (A3 r.ins j).id),.v (.int .i64 (A2 r.nms i s))] λq=>q=.v (.bool (Be r j (A2 r.nms i s))):=by rw[w];exact A
 refine du (fun(F:(A3 r.ins (A2 r.nms i s)).kind=2)=>A.cal λq a=>?_) (fun(F:¬(A3 r.ins (A2 r.nms i s)).kind=2)=>?_)
 .subst a;cases O:Be r j (A2 r.nms i s) with
  | true =>
   rw[dq ⟨F,O⟩] at b;rw[b];exact⟨λ_=>(by exact rfl),λh=>(by cases h)⟩
  | false =>
   rw[dp (λh=>by rw[O] at h;cases h.2)] at b;refine⟨λh=>(by cases h),λ_=>?_⟩;refine dy (fun(z:A2 r.nms j t≠0)=>?_) (fun(z:A2 r.nms j t=0)=>?_)
   .rw[dq z] at b;refine(Z80 r f _ ((A3 r.ins (A2 r.nms i s)).kind==2) λ_=>c z).cal λq a=>?_;subst a;refine dy (λB=>?_) (λB=>?_)
    .rw[dq (show Fp r _ (decide _)≠0 from B)] at b;rw[b];exact rfl
    .rw[dp (show ¬Fp r _ (decide _)≠0 from λh=>h B)] at b;have E:FnV Tryz.prog 134 [enF r,.v (.int .i64 (A3 r.ins j).id),.v (.string t)] λq=>q=enF (Au r j t):=by rw[w];exact Z28 r f j t (c z)
     refine E.cal λq a=>?_;subst a;obtain⟨J,P⟩:=Vb f j t;have m:=Da J i s;have C:Few (Ai (A7 (Au r j t) i s) j t (A2 r.nms i s)):=⟨m.i,by show((A7 (Au r j t) i s).nms++[_]).length<=1000000;rw[bg];have:=ah (λn:RNm=>!decide (n.dir=i/\n.name=s)) (Au r j t).nms;show(List.filter _ _).length+1<=1000000;omega,m.g⟩;have k:FnV Tryz.prog 136 [enF (Au r j t),.v (.int .i64 (A3 r.ins i).id),.v (.string s)] λq=>q=enF (A7 (Au r j t) i s):=by rw[H];exact Fh _ J i s
     have o:FnV Tryz.prog 132 [enF (A7 (Au r j t) i s),.v (.int .i64 (A3 r.ins j).id),.v (.string t),.v (.int .i64 (A2 r.nms i s))] λq=>q=enF (Ai (A7 (Au r j t) i s) j t (A2 r.nms i s)):=by rw[w];exact Ia _ m j t _
     refine k.cal λq a=>?_;subst a;refine o.cal λq a=>?_;subst a;refine du (λl=>(Qq _ C (upP (A3 r.ins (A2 r.nms i s)) (A3 r.ins j).id)).cal λq a=>?_) (λl=>?_)
     .subst a;have e:Ah (Au r j t) i s j t (A3 r.ins (A2 r.nms i s))=Hn (Ai (A7 (Au r j t) i s) j t (A2 r.nms i s)) (upP (A3 r.ins (A2 r.nms i s)) (A3 r.ins j).id):=by unfold Ah;rw[dq l,c x,w]
      rw[b,e];exact rfl
     .have e:Ah (Au r j t) i s j t (A3 r.ins (A2 r.nms i s))=Ai (A7 (Au r j t) i s) j t (A2 r.nms i s):=by unfold Ah;rw[dp l,c x]
      rw[b,e];exact rfl
   .rw[dp (by simpa using z)] at b;have R:=f.n;refine du (λ_=>dy (fun(B:(A3 r.ins i).id≠(A3 r.ins j).id)=>(Lv r f _).cal λq a=>?_) (fun(B:(A3 r.ins i).id=(A3 r.ins j).id)=>?_)) (λh=>dt F h)
    .subst a;refine dv (λh6=>?_) (λh6=>?_)
     .rw[dq ⟨F,by omega,by omega⟩] at b;rw[b];exact rfl
     .rw[dp (λh=>by have:=h.2.2;omega)] at b;have m:=Da f i s;have C:Few (Ai (A7 r i s) j t (A2 r.nms i s)):=⟨m.i,by show((A7 r i s).nms++[_]).length<=1000000;rw[bg];have:=ah (λn:RNm=>!decide (n.dir=i/\n.name=s)) (r).nms;show(List.filter _ _).length+1<=1000000;omega,m.g⟩;have k:FnV Tryz.prog 136 [enF (r),.v (.int .i64 (A3 r.ins i).id),.v (.string s)] λq=>q=enF (A7 (r) i s):=by rw[H];exact Fh _ f i s
      have o:FnV Tryz.prog 132 [enF (A7 (r) i s),.v (.int .i64 (A3 r.ins j).id),.v (.string t),.v (.int .i64 (A2 r.nms i s))] λq=>q=enF (Ai (A7 (r) i s) j t (A2 r.nms i s)):=by rw[w];exact Ia _ m j t _
      refine k.cal λq a=>?_;subst a;refine o.cal λq a=>?_;subst a;refine du (λl=>(Qq _ C (upP (A3 r.ins (A2 r.nms i s)) (A3 r.ins j).id)).cal λq a=>?_) (λl=>?_)
      .subst a;have e:Ah (r) i s j t (A3 r.ins (A2 r.nms i s))=Hn (Ai (A7 (r) i s) j t (A2 r.nms i s)) (upP (A3 r.ins (A2 r.nms i s)) (A3 r.ins j).id):=by unfold Ah;rw[dq l,c x,w]
       rw[b,e];exact rfl
      .have e:Ah (r) i s j t (A3 r.ins (A2 r.nms i s))=Ai (A7 (r) i s) j t (A2 r.nms i s):=by unfold Ah;rw[dp l,c x]
       rw[b,e];exact rfl
    .rw[dp (λh=>by have:=h.2.1;omega)] at b;have m:=Da f i s;have C:Few (Ai (A7 r i s) j t (A2 r.nms i s)):=⟨m.i,by show((A7 r i s).nms++[_]).length<=1000000;rw[bg];have:=ah (λn:RNm=>!decide (n.dir=i/\n.name=s)) (r).nms;show(List.filter _ _).length+1<=1000000;omega,m.g⟩;have k:FnV Tryz.prog 136 [enF (r),.v (.int .i64 (A3 r.ins i).id),.v (.string s)] λq=>q=enF (A7 (r) i s):=by rw[H];exact Fh _ f i s
     have o:FnV Tryz.prog 132 [enF (A7 (r) i s),.v (.int .i64 (A3 r.ins j).id),.v (.string t),.v (.int .i64 (A2 r.nms i s))] λq=>q=enF (Ai (A7 (r) i s) j t (A2 r.nms i s)):=by rw[w];exact Ia _ m j t _
     refine k.cal λq a=>?_;subst a;refine o.cal λq a=>?_;subst a;refine du (λl=>(Qq _ C (upP (A3 r.ins (A2 r.nms i s)) (A3 r.ins j).id)).cal λq a=>?_) (λl=>?_)
     .subst a;have e:Ah (r) i s j t (A3 r.ins (A2 r.nms i s))=Hn (Ai (A7 (r) i s) j t (A2 r.nms i s)) (upP (A3 r.ins (A2 r.nms i s)) (A3 r.ins j).id):=by unfold Ah;rw[dq l,c x,w]
      rw[b,e];exact rfl
     .have e:Ah (r) i s j t (A3 r.ins (A2 r.nms i s))=Ai (A7 (r) i s) j t (A2 r.nms i s):=by unfold Ah;rw[dp l,c x]
      rw[b,e];exact rfl
 .rw[dp (λh=>F h.1)] at b;refine dy (fun(z:A2 r.nms j t≠0)=>?_) (fun(z:A2 r.nms j t=0)=>?_)
  .rw[dq z] at b;refine(Z80 r f _ ((A3 r.ins (A2 r.nms i s)).kind==2) λ_=>c z).cal λq a=>?_;subst a;refine dy (λB=>?_) (λB=>?_)
   .rw[dq (show Fp r _ (decide _)≠0 from B)] at b;rw[b];exact rfl
   .rw[dp (show ¬Fp r _ (decide _)≠0 from λh=>h B)] at b;have E:FnV Tryz.prog 134 [enF r,.v (.int .i64 (A3 r.ins j).id),.v (.string t)] λq=>q=enF (Au r j t):=by rw[w];exact Z28 r f j t (c z)
    refine E.cal λq a=>?_;subst a;obtain⟨J,P⟩:=Vb f j t;have m:=Da J i s;have C:Few (Ai (A7 (Au r j t) i s) j t (A2 r.nms i s)):=⟨m.i,by show((A7 (Au r j t) i s).nms++[_]).length<=1000000;rw[bg];have:=ah (λn:RNm=>!decide (n.dir=i/\n.name=s)) (Au r j t).nms;show(List.filter _ _).length+1<=1000000;omega,m.g⟩;have k:FnV Tryz.prog 136 [enF (Au r j t),.v (.int .i64 (A3 r.ins i).id),.v (.string s)] λq=>q=enF (A7 (Au r j t) i s):=by rw[H];exact Fh _ J i s
    have o:FnV Tryz.prog 132 [enF (A7 (Au r j t) i s),.v (.int .i64 (A3 r.ins j).id),.v (.string t),.v (.int .i64 (A2 r.nms i s))] λq=>q=enF (Ai (A7 (Au r j t) i s) j t (A2 r.nms i s)):=by rw[w];exact Ia _ m j t _
    refine k.cal λq a=>?_;subst a;refine o.cal λq a=>?_;subst a;refine du (λl=>(Qq _ C (upP (A3 r.ins (A2 r.nms i s)) (A3 r.ins j).id)).cal λq a=>?_) (λl=>?_)
    .subst a;have e:Ah (Au r j t) i s j t (A3 r.ins (A2 r.nms i s))=Hn (Ai (A7 (Au r j t) i s) j t (A2 r.nms i s)) (upP (A3 r.ins (A2 r.nms i s)) (A3 r.ins j).id):=by unfold Ah;rw[dq l,c x,w]
     rw[b,e];exact rfl
    .have e:Ah (Au r j t) i s j t (A3 r.ins (A2 r.nms i s))=Ai (A7 (Au r j t) i s) j t (A2 r.nms i s):=by unfold Ah;rw[dp l,c x]
     rw[b,e];exact rfl
  .rw[dp (by simpa using z)] at b;have R:=f.n;refine du (λh=>dt h F) (λ_=>?_);rw[dp (λh=>F h.1)] at b;have m:=Da f i s;have C:Few (Ai (A7 r i s) j t (A2 r.nms i s)):=⟨m.i,by show((A7 r i s).nms++[_]).length<=1000000;rw[bg];have:=ah (λn:RNm=>!decide (n.dir=i/\n.name=s)) (r).nms;show(List.filter _ _).length+1<=1000000;omega,m.g⟩;have k:FnV Tryz.prog 136 [enF (r),.v (.int .i64 (A3 r.ins i).id),.v (.string s)] λq=>q=enF (A7 (r) i s):=by rw[H];exact Fh _ f i s
   have o:FnV Tryz.prog 132 [enF (A7 (r) i s),.v (.int .i64 (A3 r.ins j).id),.v (.string t),.v (.int .i64 (A2 r.nms i s))] λq=>q=enF (Ai (A7 (r) i s) j t (A2 r.nms i s)):=by rw[w];exact Ia _ m j t _
   refine k.cal λq a=>?_;subst a;refine o.cal λq a=>?_;subst a;refine du (λl=>(Qq _ C (upP (A3 r.ins (A2 r.nms i s)) (A3 r.ins j).id)).cal λq a=>?_) (λl=>?_)
   .subst a;have e:Ah (r) i s j t (A3 r.ins (A2 r.nms i s))=Hn (Ai (A7 (r) i s) j t (A2 r.nms i s)) (upP (A3 r.ins (A2 r.nms i s)) (A3 r.ins j).id):=by unfold Ah;rw[dq l,c x,w]
    rw[b,e];exact rfl
   .have e:Ah (r) i s j t (A3 r.ins (A2 r.nms i s))=Ai (A7 (r) i s) j t (A2 r.nms i s):=by unfold Ah;rw[dp l,c x]
    rw[b,e];exact rfl
def Z44 (B:List UInt8)(On:List Nat):G:=.agg [.sl (B.map gBy),.sl (On.map gNu)]
structure Zan (B:List UInt8)(On:List Nat):Prop where
 b:B.length<=1048576
 o:On.length<=65536
theorem Z6m (a:Int)(n:Nat):FnV Tryz.prog 149 [.v (.int .i64 a),.v (.int .i64 n)] λq=>q=.v (.bool (D9 a n)):=by
 refine fnG Tryz.func149 ?_;unfold D9;refine dv (λh=>?_) (λh=>?_)
 .refine dv (λc=>?_) (λc=>?_)
  .refine⟨by omega,?_⟩;have:decide (0<=a/\n<=1048576/\a<=1048576 - n)=decide (a<=1048576 - (n:Int)):=decide_eq_decide.2 ⟨λh=>h.2.2,λb=>⟨h,by omega,b⟩⟩;rw[this];exact rfl
  .rw[decide_eq_false (by omega)];exact rfl
 .rw[decide_eq_false (by omega)];exact rfl
theorem Zgx (B:List UInt8)(On:List Nat)(e:Zan B On)(k:Nat):FnV Tryz.prog 151 [Z44 B On,.v (.int .i64 k)] λq=>q=.v (.bool (decide (k∈On))):=by
 refine fnG Tryz.func151 ?_;have g:=e.o;refine Ax [1,2] [0] (λi:Nat=>[(5,.v (.int .i64 i))]) (λ_=>[]) (λi=>i<=On.length/\∀x∈On.take i,¬x=k) (λi=>On.length - i) 0 ⟨by omega,by simp⟩ ⟨⟨rfl,rfl⟩,trivial⟩ trivial rfl λi ⟨j,hno⟩=>?_;refine dv (λh=>?_) (λh=>?_)
 .refine ee (by simpa using h) λx b=>?_;have d:=Bd b;refine du (λc=>?_) (λc=>?_)
  .have a:x=k:=by omega
   rw[decide_eq_true (p:=k∈On) (a ▸ au b)];exact rfl
  .have a:¬x=k:=by omega
   refine⟨by omega,i+1,⟨by omega,Oi b hno a⟩,(by dsimp only;omega),?_⟩;refine⟨?_,?_,rfl⟩<;>repeat' (first|exact trivial|with_reducible rfl|exact rfl|refine And.intro ?_ ?_)
 .have a:=L8 (by simpa using h) hno;rw[decide_eq_false (p:=k∈On) (λf=>a k f rfl)];exact rfl
def wS (k:Nat)(l:List Nat)(i:Nat):List Nat × Bool:=(l.take i).foldl (wst k) ([],false)
theorem Zf {k:Nat}{l:List Nat}{i x:Nat}(h:l[i]?=some x):wS k l (i+1)=wst k (wS k l i) x:=by unfold wS;rw[B9 h,List.foldl_append];rfl
theorem Zdh (k:Nat)(l:List Nat)(i:Nat)(a:i<=l.length):(wS k l i).1.length<=2 * i:=by
 induction i with
 | zero=>simp[wS]
 | succ i ih =>
  rw[Zf (aq (by omega))];have:=ih (by omega);unfold wst;simp only[List.length_append];split<;>split<;>simp<;>omega
theorem Zde (l:List Nat)(o:l.length<=4000000)(k:Nat):FnV Tryz.prog 150 [.sl (l.map gNu),.v (.int .i64 k)] λq=>q=.sl ((O2 k l).map gNu):=by
 refine fnG Tryz.func150 ?_;refine Ax [0,1] [] (λp:Nat × List Nat × Bool=>[(7,.v (.int .i64 p.1)),(6,gB p.2.2),(5,.osl 1)]) (λp=>[(1,.slc (p.2.1.map gNu) 3 1)]) (λp=>p.1<=l.length/\wS k l p.1=p.2) (λp=>l.length - p.1) (0,[],false) ⟨by simp,rfl⟩ ⟨⟨rfl,rfl⟩,⟨rfl,rfl⟩,⟨rfl,rfl⟩,trivial⟩ ⟨RL1,trivial⟩ rfl λp ⟨m,hs⟩=>?_;obtain⟨i,out,d⟩:=p;dsimp only at m hs;have f:=Zdh k l i m;rw[hs] at f;dsimp only at f;refine dv (λh=>?_) (λh=>?_)
 .obtain⟨x,b⟩:∃x,l[i]?=some x:=⟨_,aq (by simpa using h)⟩;have a:=Zf (k:=k) b;rw[hs] at a;have n:=Bd b;cases d with
  | false =>
   refine ec b (dv (fun(j:(x:Int) >= k)=>?_) (fun(j:¬(x:Int) >= k)=>?_))
   .refine⟨by simp;omega,ec b (dy (fun(c:(x:Int)≠k)=>ec b ⟨by simp;omega,⟨by omega,(i+1,out++[k]++[x],true),⟨by dsimp only;omega,a.trans ?_⟩,(by dsimp only;omega),?_⟩⟩) (fun(c:(x:Int)=k)=>⟨by omega,(i+1,out++[k],true),⟨by dsimp only;omega,a.trans ?_⟩,(by dsimp only;omega),?_⟩))⟩
    .unfold wst;rw[dq ⟨rfl,by omega⟩,dp (by omega),decide_eq_true (by omega)];rfl
    .refine⟨?_,?_,rfl⟩<;>repeat' (first|exact trivial|with_reducible rfl|exact rfl|refine And.intro ?_ ?_)
     exact eqR (by simp[gNu])
    .unfold wst;rw[dq ⟨rfl,by omega⟩,dq (by omega),decide_eq_true (by omega)];simp
    .refine⟨?_,?_,rfl⟩<;>repeat' (first|exact trivial|with_reducible rfl|exact rfl|refine And.intro ?_ ?_)
     exact eqR (by simp[gNu])
   .refine ec b (dy (fun(c:(x:Int)≠k)=>ec b ⟨by simp;omega,⟨by omega,(i+1,out++[x],false),⟨by dsimp only;omega,a.trans ?_⟩,(by dsimp only;omega),?_⟩⟩) (fun(c:(x:Int)=k)=>dt (show(x:Int) >= k by omega) j))
    .unfold wst;rw[dp (by simp;omega),dp (by omega),decide_eq_false (by omega)];simp
    .refine⟨?_,?_,rfl⟩<;>repeat' (first|exact trivial|with_reducible rfl|exact rfl|refine And.intro ?_ ?_)
     exact eqR (by simp[gNu])
  | true =>
   refine ec b (dy (fun(c:(x:Int)≠k)=>ec b ⟨by simp;omega,⟨by omega,(i+1,out++[x],true),⟨by dsimp only;omega,a.trans ?_⟩,(by dsimp only;omega),?_⟩⟩) (fun(c:(x:Int)=k)=>⟨by omega,(i+1,out,true),⟨by dsimp only;omega,a.trans ?_⟩,(by dsimp only;omega),?_⟩))
   .unfold wst;rw[dp (by simp),dp (by omega)];simp
   .refine⟨?_,?_,rfl⟩<;>repeat' (first|exact trivial|with_reducible rfl|exact rfl|refine And.intro ?_ ?_)
    exact eqR (by simp[gNu])
   .unfold wst;rw[dp (by simp),dq (by omega)];simp
   .refine⟨?_,?_,rfl⟩<;>repeat' (first|exact trivial|with_reducible rfl|exact rfl|refine And.intro ?_ ?_)
 .have g:Z7k k (out,d)=O2 k l:=by
   have:=Rs k l [];unfold wS at hs;rw[bc (by simp at h;omega)] at hs;rw[hs] at this;simpa using this
  rw[<-g];cases d with
  | false =>
   have e:(Z7k k (out,false)).map gNu=out.map gNu++[[.v (.int .i64 k)]]:=by simp[Z7k,gNu]
   rw[e];exact⟨by simp;omega,rfl⟩
  | true=>exact rfl
theorem Z8b (B:List UInt8)(On:List Nat)(i:Zan B On)(a n:Int):FnV Tryz.prog 141 [Z44 B On,.v (.int .i64 a),.v (.int .i64 n)] λq=>q=.sl ((Ej B a n).map gBy):=by
 refine fnG Tryz.func141 ?_;have o:=i.b;unfold Ej N8;refine dv (λg=>?_) (λg=>?_)
 .rw[decide_eq_false (p:=0<=a/\0<=n/\a < B.length) (by omega)];exact rfl
 refine dv (λf=>?_) (λf=>?_)
 .rw[decide_eq_false (p:=0<=a/\0<=n/\a < B.length) (by omega)];exact rfl
 refine dv (λe=>?_) (λe=>?_)
 .rw[ap] at e;rw[decide_eq_false (p:=0<=a/\0<=n/\a < B.length) (by omega)];exact rfl
 rw[ap] at e;rw[decide_eq_true (p:=0<=a/\0<=n/\a < B.length) (by omega),dq rfl];have key:∀m:Int,0<=m->(m=n\/B.length - a=m/\m<=n)->((B.drop a.toNat).take n.toNat).map gBy=Fo (B.map gBy) a.toNat (a+m).toNat:=λm l d=>by
  unfold Fo;rw[List.drop_take,<-List.map_drop,<-de]
  congr 1
  rcases d with rfl | ⟨k,h6⟩
  .rw[show(a+m).toNat - a.toNat=m.toNat by omega]
  .rw[bc (by simp;omega),bc (by simp;omega)]
 have c:∀r∈B.map gBy,r.length=1:=λr hr=>by obtain⟨x,-,rfl⟩:=bk.1 hr;rfl
 have j:((B.map gBy).length:Int)=B.length:=by rw[ap]
 refine⟨by omega,dv (λh=>?_) (λh=>?_)⟩
 .rw[key ((B.map gBy).length - a) (by omega) (.inr ⟨by omega,by omega⟩)];exact⟨by omega,⟨by omega,⟨⟨by omega,by omega,by omega⟩,⟨c,rfl⟩⟩⟩⟩
 .rw[key n (by omega) (.inl rfl)];exact⟨by omega,⟨⟨by omega,by omega,by omega⟩,⟨c,rfl⟩⟩⟩
theorem Z0s {a:Int}{i:Nat}(h:0<=a):(a+i).tdiv 16=(((a.toNat+i) / 16:Nat):Int):=by obtain⟨k,rfl⟩:=al h;rfl
theorem Z6g {a:Int}{i:Nat}(h:0<=a):(a+i).tmod 16=(((a.toNat+i) % 16:Nat):Int):=by obtain⟨k,rfl⟩:=al h;rfl
def ndB (On:List Nat)(a:Int)(i:Nat):Bool:=Gz a.toNat i&&!decide ((a.toNat+i) / 16∈On)
theorem Zdk (B:List UInt8)(On:List Nat)(x:Zan B On)(a:Int)(b:List UInt8)(u:b.length<=maxLen):FnV Tryz.prog 139 [Z44 B On,.v (.int .i64 a),.sl (b.map gBy)] λq=>q=.v (.int .i64 (Gt On a b.length:Int)):=by
 refine fnG Tryz.func139 ?_;unfold maxLen at u;have n:=Z6m a b.length;rw[<-ap (f:=gBy)] at n;have r:(b.map gBy).length=b.length:=ap _;refine Ax [1,2,3] [0] (λi:Nat=>[(8,.v (.int .i64 i)),(7,.v (.int .i64 ((List.range i).countP (ndB On a):Int)))]) (λ_=>[]) (λi=>i<=b.length/\(0 < i->D9 a b.length=true)) (λi=>b.length - i) 0 ⟨by omega,λh=>by omega⟩ ⟨⟨rfl,rfl⟩,⟨rfl,rfl⟩,trivial⟩ trivial rfl λi ⟨A,hfi⟩=>?_;have z:(List.range i).countP (ndB On a)<=i:=cn List.countP_le_length (by simp);have l:(List.range (i+1)).countP (ndB On a)=(List.range i).countP (ndB On a)+if ndB On a i=true then 1 else 0:=by rw[List.range_succ,List.countP_append];simp[List.countP_cons]
 have d:¬i < b.length\/D9 a b.length=false->(List.range i).countP (ndB On a)=Gt On a b.length:=λh=>by
  unfold Gt;cases hf:D9 a b.length with
  | false =>
   have:i=0:=by
    rcases ak i with p | p
    .exact p
    .have:=hfi p;rw[hf] at this;cases this
   rw[this,dp (by simp)];rfl
  | true =>
   rw[dq rfl];have:i=b.length:=by
    rcases h with h | h
    .omega
    .rw[hf] at h;cases h
   rw[this];rfl
 refine dv (λh=>n.cal λq o=>?_) (λh=>?_)
 .subst o;rw[r];cases hf:D9 a b.length with
  | false=>exact⟨λh=>(by cases h),λ_=>(by rw[d (.inr hf)];exact rfl)⟩
  | true =>
   refine⟨λ_=>?_,λh=>(by cases h)⟩;have e:0<=a/\b.length<=1048576/\a<=1048576 - b.length:=of_decide_eq_true hf;have j:FnV Tryz.prog 151 [Z44 B On,.v (.int .i64 ((a+i).tdiv 16))] λq=>q=.v (.bool (decide ((a.toNat+i) / 16∈On))):=by rw[Z0s e.1];exact Zgx B On x _
   have y:=Z6g (i:=i) e.1;have hd:=Z0s (i:=i) e.1;have w:i < b.length:=by omega
   have yes:ndB On a i=true->(List.range (i+1)).countP (ndB On a)=(List.range i).countP (ndB On a)+1:=λh=>by rw[l,dq h]
   have no:ndB On a i=false->(List.range (i+1)).countP (ndB On a)=(List.range i).countP (ndB On a):=λh=>by rw[l,h];rfl
   have c:i+1<=b.length/\(0 < i+1->true=true):=⟨by omega,λ_=>rfl⟩;have m:(i=0\/(a.toNat+i) % 16=0)->ndB On a i=!decide ((a.toNat+i) / 16∈On):=λh=>by unfold ndB Gz;rw[decide_eq_true h,Bool.true_and]
   refine du (λt=>⟨by omega,⟨by omega,⟨by omega,j.cal λq o=>?_⟩⟩⟩) (λt=>⟨by omega,⟨by omega,du (λs=>⟨by omega,⟨by omega,⟨by omega,j.cal λq o=>?_⟩⟩⟩) (λs=>?_)⟩⟩)
   .subst o;have k:=m (.inl (by omega));refine⟨λg=>⟨by omega,⟨by omega,i+1,c,(by dsimp only;omega),?_⟩⟩,λg=>⟨by omega,i+1,c,(by dsimp only;omega),?_⟩⟩
    .refine⟨?_,?_,rfl⟩<;>repeat' (first|exact trivial|with_reducible rfl|exact rfl|refine And.intro ?_ ?_)
     exact Zcq (yes (k.trans g))
    .refine⟨?_,?_,rfl⟩<;>repeat' (first|exact trivial|with_reducible rfl|exact rfl|refine And.intro ?_ ?_)
     exact eqN (no (k.trans g))
   .subst o;have k:=m (.inr (by omega));refine⟨λg=>⟨by omega,⟨by omega,i+1,c,(by dsimp only;omega),?_⟩⟩,λg=>⟨by omega,i+1,c,(by dsimp only;omega),?_⟩⟩
    .refine⟨?_,?_,rfl⟩<;>repeat' (first|exact trivial|with_reducible rfl|exact rfl|refine And.intro ?_ ?_)
     exact Zcq (yes (k.trans g))
    .refine⟨?_,?_,rfl⟩<;>repeat' (first|exact trivial|with_reducible rfl|exact rfl|refine And.intro ?_ ?_)
     exact eqN (no (k.trans g))
   .refine⟨by omega,i+1,c,(by dsimp only;omega),?_⟩;refine⟨?_,?_,rfl⟩<;>repeat' (first|exact trivial|with_reducible rfl|exact rfl|refine And.intro ?_ ?_)
    exact eqN (no (by unfold ndB Gz;rw[decide_eq_false (by omega)];rfl))
 .rw[d (.inl (by omega))];exact rfl
def gtS (x s:ByteArray):Bool:=!(Op.bytesLess x.toList s.toList||x.toList==s.toList)
def Qm (s:ByteArray)(p:List ByteArray × Bool)(x:ByteArray):List ByteArray × Bool:=(p.1++(if p.2=false/\gtS x s=true then [s] else [])++[x],p.2||gtS x s)
def Zae (s:ByteArray)(out:List ByteArray):List ByteArray:=if(out.foldl (Qm s) ([],false)).2=true then(out.foldl (Qm s) ([],false)).1 else(out.foldl (Qm s) ([],false)).1++[s]
def N2 (d:Int)(out:List ByteArray)(n:RNm):List ByteArray:=if n.dir=d then Zae n.name out else out
def Fb (r:RFs)(h:Int × Int):List ByteArray:=if Ab r h=0 then r.nms.foldl (N2 h.1) [] else []
theorem Zr (s:ByteArray)(out:List ByteArray)(i:Nat)(a:i<=out.length):((out.take i).foldl (Qm s) ([],false)).1.length+(if((out.take i).foldl (Qm s) ([],false)).2=true then 0 else 1)=i+1:=by
 induction i with
 | zero=>simp
 | succ i ih =>
  rw[Jy _ _ (aq (by omega))];have:=ih (by omega);revert this;generalize (out.take i).foldl (Qm s) ([],false)=p;obtain⟨l,d⟩:=p;intro this;unfold Qm;dsimp only at this⊢;simp only[List.length_append,List.length_singleton];cases d<;>cases hg:gtS out[i] s<;>simp at this⊢<;>omega
theorem Zby (r:RFs)(C:Few r)(i g:Int):FnV Tryz.prog 116 [enF r,.agg [.v (.int .i64 i),.v (.int .i64 g)]] λq=>q=.tup [.sl ((Fb r (i,g)).map gSt),.v (.int .i64 (Ab r (i,g)))]:=by
 refine fnG Tryz.func116 ?_;have I:=C.n;refine(Fy r C i g).cal λq s=>?_;subst s;refine Ax [2,3,6,7] [0,1,3] (λp:Nat × List ByteArray=>[(9,.v (.int .i64 p.1)),(8,.osl 4)]) (λp=>[(4,.slc (p.2.map gSt) 9 1)]) (λp=>p.1<=r.nms.length/\(r.nms.take p.1).foldl (N2 i) []=p.2/\p.2.length<=p.1/\(0 < p.1->Ab r (i,g)=0)) (λp=>r.nms.length - p.1) (0,[]) ⟨by simp,rfl,by simp,λh=>by simp at h⟩ ⟨⟨rfl,rfl⟩,⟨rfl,rfl⟩,trivial⟩ ⟨RL1,trivial⟩ rfl λp ⟨F,hp,hpl,hpf⟩=>?_;obtain⟨k,out⟩:=p;dsimp only at F hp hpl hpf;refine dv (λh=>du (fun(b:Ab r (i,g)=0)=>?_) (fun(b:¬Ab r (i,g)=0)=>?_)) (λh=>?_)
 .refine ee (by simpa using h) λx z=>?_;have hid:=Gu b;have G:=Bd z;have o:=Jy (N2 i) [] z;rw[hp] at o;rw[dq b];refine dy (fun(l:x.dir≠(A3 r.ins i).id)=>?_) (fun(l:x.dir=(A3 r.ins i).id)=>ec z ?_)
  .refine⟨by omega,(k+1,out),⟨by dsimp only;omega,o.trans (dp (by omega)),by dsimp only;omega,λ_=>b⟩,(by dsimp only;omega),?_⟩;refine⟨?_,?_,rfl⟩<;>repeat' (first|exact trivial|with_reducible rfl|exact rfl|refine And.intro ?_ ?_)
  .have m:(r.nms.take (k+1)).foldl (N2 i) []=Zae x.name out:=o.trans (dq (by omega));refine Ax [2,3,6,7,8,9,10] [0,1,3,4] (λp:Nat × List ByteArray × Bool=>[(13,.v (.int .i64 p.1)),(12,gB p.2.2),(11,.osl 5)]) (λp=>[(5,.slc (p.2.1.map gSt) 9 1)]) (λp=>p.1<=out.length/\(out.take p.1).foldl (Qm x.name) ([],false)=p.2) (λp=>out.length - p.1) (0,[],false) ⟨by simp,rfl⟩ ⟨⟨rfl,rfl⟩,⟨rfl,rfl⟩,⟨rfl,rfl⟩,trivial⟩ ⟨RL1,trivial⟩ rfl λp ⟨B,s⟩=>?_;obtain⟨j,nx,d⟩:=p;dsimp only at B s;have a:=Zr x.name out j B;rw[s] at a;dsimp only at a;have A:nx.length<=j+1:=by split at a<;>omega
   refine dv (λw=>?_) (λw=>?_)
   .obtain⟨y,t⟩:∃y,out[j]?=some y:=⟨_,aq (by simpa using w)⟩;have c:=Jy (Qm x.name) ([],false) t;rw[s] at c;have E:=Bd t;have rg:0<=(j:Int)/\(j:Int) < (out.map gSt).length:=⟨by omega,by simp;omega⟩;cases d with
    | false =>
     refine⟨rg,ec t ?_⟩;refine⟨λf=>?_,λf=>?_⟩
     .have f:gtS y x.name=true:=f;refine⟨by simp;omega,⟨rg,ec t ?_⟩⟩;refine⟨by simp;omega,⟨by omega,(j+1,nx++[x.name]++[y],true),⟨by dsimp only;omega,c.trans ?_⟩,(by dsimp only;omega),?_⟩⟩
      .unfold Qm;rw[dq ⟨rfl,f⟩,f];rfl
      .refine⟨?_,?_,rfl⟩<;>repeat' (first|exact trivial|with_reducible rfl|exact rfl|refine And.intro ?_ ?_)
       exact eqR (by simp[gSt])
     .have f:gtS y x.name=false:=f;refine⟨rg,ec t ?_⟩;refine⟨by simp;omega,⟨by omega,(j+1,nx++[y],false),⟨by dsimp only;omega,c.trans ?_⟩,(by dsimp only;omega),?_⟩⟩
      .unfold Qm;rw[dp (by simp[f]),f];simp
      .refine⟨?_,?_,rfl⟩<;>repeat' (first|exact trivial|with_reducible rfl|exact rfl|refine And.intro ?_ ?_)
       exact eqR (by simp[gSt])
    | true =>
     refine⟨rg,ec t ?_⟩;refine⟨by simp;omega,⟨by omega,(j+1,nx++[y],true),⟨by dsimp only;omega,c.trans ?_⟩,(by dsimp only;omega),?_⟩⟩
     .unfold Qm;rw[dp (by simp)];simp
     .refine⟨?_,?_,rfl⟩<;>repeat' (first|exact trivial|with_reducible rfl|exact rfl|refine And.intro ?_ ?_)
      exact eqR (by simp[gSt])
   .have D:j=out.length:=by simp at w;omega
    rw[bc (by omega)] at s;have u:Zae x.name out=if d=true then nx else nx++[x.name]:=by unfold Zae;rw[s]
    cases d with
    | false =>
     refine⟨by simp;omega,⟨by omega,(k+1,nx++[x.name]),⟨by dsimp only;omega,m.trans u,?_,λ_=>b⟩,(by dsimp only;omega),?_⟩⟩
     .simp at a⊢;omega
     .refine⟨?_,?_,rfl⟩<;>repeat' (first|exact trivial|with_reducible rfl|exact rfl|refine And.intro ?_ ?_)
      exact eqR (by simp[gSt])
    | true =>
     refine⟨by omega,(k+1,nx),⟨by dsimp only;omega,m.trans u,?_,λ_=>b⟩,(by dsimp only;omega),?_⟩
     .simp at a⊢;omega
     .refine⟨?_,?_,rfl⟩<;>repeat' (first|exact trivial|with_reducible rfl|exact rfl|refine And.intro ?_ ?_)
 .have:k=0:=by
   rcases ak k with l | l
   .exact l
   .exact dt (hpf l) b
  subst this;have:out=[]:=az (by omega);subst this;have e:Fb r (i,g)=[]:=dp b;rw[e];exact rfl
 .have H:k=r.nms.length:=by simp at h;omega
  rw[bc (by omega)] at hp;have e:Fb r (i,g)=out:=by
   unfold Fb;split
   .exact hp
   .rename_i b
    rcases ak k with l | l
    .have:out=[]:=az (by omega);exact this.symm
    .exact dt (hpf l) b
  rw[e];exact rfl
theorem Zek (room:Int):FnV Tryz.prog 50 [.v (.int .i64 room)] λq=>q=enF (Fc room):=by refine fnG Tryz.func50 ?_;exact rfl
def P3 (r:RFs)(i:Nat):Nat:=((r.ins.take i).map λx=>x.On.length).sum
theorem Yg {r:RFs}{i:Nat}{x:RIn}(h:r.ins[i]?=some x):P3 r (i+1)=P3 r i+x.On.length:=by unfold P3;rw[B9 h];simp
theorem Zq (r:RFs)(i:Nat):P3 r i<=Dn r:=by
 unfold P3 Dn;have:r.ins=r.ins.take i++r.ins.drop i:=(dh i r.ins).symm
 conv=>rhs;rw[this,ba,List.sum_append]
 omega
theorem Z7h (r:RFs)(d:Few r){K:Nat}(a:Wf r K):FnV Tryz.prog 54 [enF r] λq=>q=.v (.int .i64 (K4 r)):=by
 refine fnG Tryz.func54 ?_;have f:=a.rm;have e:(Dn r:Int)<=r.room:=a.sp;refine Ax [1,2] [0] (λi:Nat=>[(4,.v (.int .i64 i)),(3,.v (.int .i64 (r.room - P3 r i)))]) (λ_=>[]) (λi=>i<=r.ins.length) (λi=>r.ins.length - i) 0 (by omega) ⟨⟨rfl,rfl⟩,⟨rfl,eqI (by simp[P3])⟩,trivial⟩ trivial rfl λi k=>?_;have m:=Zq r i;have g:=d.i;refine dv (λh=>?_) (λh=>?_)
 .refine ee (by simpa using h) λx b=>?_;have j:=Yg b;have l:=Zq r (i+1);have c:=Bd b;refine⟨?_,?_⟩
  .simp;omega
  refine⟨by omega,i+1,by omega,(by dsimp only;omega),?_⟩;refine⟨?_,?_,rfl⟩<;>repeat' (first|exact trivial|with_reducible rfl|exact rfl|refine And.intro ?_ ?_)
  exact eqI (by simp;omega)
 .have:r.room - (P3 r i:Int)=K4 r:=by unfold K4 Dn P3;rw[bc (by simp at h;omega)]
  rw[this];exact rfl
def Xa (r:RFs)(h:Int × Int):G:=if Aj r h=true then .tup [.agg [.v (.int .i64 h.1),.v (.int .i64 h.2),.v (.int .i64 (A3 r.ins h.1).kind),.v (.int .i64 (A3 r.ins h.1).mode),.v (.int .i64 (A5 r (A3 r.ins h.1):Int)),.v (.int .i64 (G9 r (A3 r.ins h.1))),.v (.int .i64 ((A3 r.ins h.1).On.length:Int)),.v (.int .i64 (A3 r.ins h.1).time)],.v (.int .i64 0)]
 else .tup [.agg [.v (.int .i64 0),.v (.int .i64 0),.v (.int .i64 0),.v (.int .i64 0),.v (.int .i64 0),.v (.int .i64 0),.v (.int .i64 0),.v (.int .i64 0)],.v (.int .i64 175)]
theorem Z74 (r:RFs)(j:Few r){K:Nat}(o:Wf r K)(i g:Int):FnV Tryz.prog 52 [enF r,.agg [.v (.int .i64 i),.v (.int .i64 g)]] λq=>q=Xa r (i,g):=by
 refine fnG Tryz.func52 ?_;refine(Lm r j i g).cal λq a=>?_;subst a;unfold Xa;rcases I4 (r:=r) (i:=i) (g:=g) with⟨c,he⟩ | ⟨c,he,-⟩
 case inr=>rw[c,he,dp (by simp)];exact dy (λ_=>by exact rfl) (λh=>by cases h)
 rw[c,he,dq rfl,dq rfl];obtain⟨k,f,l⟩:=Ac c;dsimp only at f l k;obtain⟨x,p⟩:∃x,x=A3 r.ins i:=⟨_,rfl⟩;dsimp only;rw[<-p] at f l k⊢;subst f l;have s:=o.kind x k;have n:(x.On.length:Int)=(x.On.map gNu).length:=by simp
 rw[n];refine dy (λh=>dt rfl h) λ_=>?_;have b:=Lv r j x;refine⟨b.cal λq a=>?_,b.cal λq a=>?_⟩<;>subst a
 all_goals
  refine du (fun(d:x.kind=2)=>(Z6p r j _).cal λq a=>?_) (fun(d:¬x.kind=2)=>?_)
  .subst a;refine du (fun(m:x.kind=3)=>?_) (fun(m:¬x.kind=3)=>?_)
   .omega
   .have:G9 r x=Dz r.nms x.id:=by unfold G9;rw[dp (by omega),dq d]
    rw[this];exact rfl
  .refine du (fun(m:x.kind=3)=>?_) (fun(m:¬x.kind=3)=>?_)
   .have:G9 r x=x.target.size:=by unfold G9;rw[dp (by omega),dp d]
    rw[this];exact rfl
   .have:G9 r x=x.B.length:=by unfold G9;rw[dq (by omega)]
    have e:G9 r x=(x.B.map gBy).length:=by rw[this];simp
    rw[e];exact rfl
theorem eqS {a b:List (List G)}(h:a=b):(some (G.sl a):Option G)=some (G.sl b):=by rw[h]
theorem Vh (k:Nat):∀l:List Nat,(O2 k l).length<=l.length+1
 | []=>by simp[O2]
 | x::l=>by
  unfold O2;split
  .have:=ah (λy=>decide (y≠k)) (x::l);simp only[List.length_cons] at *;omega
  .have:=Vh k l;simp only[List.length_cons];omega
theorem Zz (On:List Nat)(a n:Nat):(Fw On a n).length<=On.length+n:=by
 induction n with
 | zero=>exact av _
 | succ n ih =>
  rw[Hc];split
  .have:=Vh ((a+n) / 16) (Fw On a n);omega
  .omega
def Xo (B:List UInt8)(On:List Nat)(b:Bool):G:=.tup [Z44 B On,.v (.bool b)]
theorem Z63 (B:List UInt8)(On:List Nat)(y:Zan B On)(a:Int)(b:List UInt8)(F:b.length<=maxLen):FnV Tryz.prog 138 [Z44 B On,.v (.int .i64 a),.sl (b.map gBy)] λq=>q=Xo (rwB B a b) (Z2j On a b.length) (D9 a b.length):=by
 refine fnG Tryz.func138 ?_;unfold maxLen at F;have H:=y.b;have I:=y.o;have l:=Z6m a b.length;rw[<-ap (f:=gBy)] at l;have s:(b.map gBy).length=b.length:=ap _;refine l.cal λq m=>?_;subst m;rw[s];unfold rwB Z2j;cases hf:D9 a b.length with
 | false=>exact⟨λ_=>(by exact rfl),λh=>(by cases h)⟩
 | true =>
  have k:0<=a/\b.length<=1048576/\a<=1048576 - b.length:=of_decide_eq_true hf;refine⟨λh=>(by cases h),λ_=>du (λD=>?_) (λD=>?_)⟩
  .have p:b.length=0:=by omega
   rw[dp (by omega),dq rfl,p];exact rfl
  .have p:0 < b.length:=by omega
   rw[dq ⟨rfl,p⟩,dq rfl];refine⟨J9 (f:=gBy) (λx=>⟨rfl,rfl⟩) _,⟨by simp;omega,?_⟩⟩;refine Ax [1,2,3,6] [0,1] (λ_:Nat=>[(8,.osl 3)]) (λj=>[(3,.slc ((B++List.replicate j 0).map gBy) 5 1)]) (λj=>j<=a.toNat+b.length - B.length) (λj=>a.toNat+b.length - B.length - j) 0 (by omega) ⟨⟨rfl,rfl⟩,trivial⟩ ⟨⟨rfl,rfl,eqR (by simp)⟩,trivial⟩ rfl λj J=>?_;have c:((B++List.replicate j 0).map gBy).length=B.length+j:=by simp
   refine⟨by omega,dv (λu=>?_) (λu=>?_)⟩
   .refine⟨by rw[c];simp;omega,j+1,by omega,(by dsimp only;omega),?_⟩;refine⟨?_,?_,rfl⟩<;>repeat' (first|exact trivial|with_reducible rfl|exact rfl|refine And.intro ?_ ?_)
    exact eqR (by rw[List.replicate_succ'];simp[gBy])
   .have z:¬B.length+j < a.toNat+b.length:=λn=>u (by rw[c];omega);have C:B++List.replicate j 0=Hz B (a.toNat+b.length):=by
     unfold Hz;rcases ak (a.toNat+b.length - B.length) with n | n
     .rw[n,show j=0 by omega]
     .rw[show j=a.toNat+b.length - B.length by omega]
    obtain⟨R,d⟩:∃R:List (List G),R=(B++List.replicate j 0).map gBy:=⟨_,rfl⟩;have key:(splice (Hz B (a.toNat+b.length)) a.toNat b).map gBy=R.take a.toNat++(b.map gBy).take (min (b.map gBy).length (R.length - a.toNat))++R.drop (a.toNat+min (b.map gBy).length (R.length - a.toNat)):=by
     rw[d,C,s];have L:((Hz B (a.toNat+b.length)).map gBy).length=max B.length (a.toNat+b.length):=by rw[ap,Fl]
     rw[show min b.length (((Hz B (a.toNat+b.length)).map gBy).length - a.toNat)=b.length by omega];unfold splice;rw[bc (by omega:(b.map gBy).length<=b.length)];simp[List.map_take,List.map_drop]
    have e:Xo (splice (Hz B (a.toNat+b.length)) a.toNat b) (Fw On a.toNat b.length) true=.tup [.agg [.sl (R.take a.toNat++(b.map gBy).take (min (b.map gBy).length (R.length - a.toNat))++R.drop (a.toNat+min (b.map gBy).length (R.length - a.toNat))),.sl ((Fw On a.toNat b.length).map gNu)],.v (.bool true)]:=by unfold Xo Z44;rw[key]
    rw[e];rw[<-d] at c⊢;refine⟨⟨by omega,by omega,by omega⟩,⟨J9 (f:=gBy) (λx=>⟨rfl,rfl⟩) _,?_⟩⟩;refine Ax [1,2,3,6,8] [0,1,3] (λi:Nat=>[(10,.v (.int .i64 i)),(9,.sl ((Fw On a.toNat i).map gNu))]) (λ_=>[]) (λi=>i<=b.length) (λi=>b.length - i) 0 (by omega) ⟨⟨rfl,rfl⟩,⟨rfl,rfl⟩,trivial⟩ trivial rfl λi M=>?_;have w:=Zz On a.toNat i;have g:=Hc On a.toNat i;have K:=Z6g (i:=i) k.1;have hd:=Z0s (i:=i) k.1;refine dv (λn=>?_) (λn=>?_)
    .have t:FnV Tryz.prog 150 [.sl ((Fw On a.toNat i).map gNu),.v (.int .i64 ((a+i).tdiv 16))] λq=>q=.sl ((O2 ((a.toNat+i) / 16) (Fw On a.toNat i)).map gNu):=by rw[hd];exact Zde _ (by omega) _
     have yes:i=0\/(a.toNat+i) % 16=0->Fw On a.toNat (i+1)=O2 ((a.toNat+i) / 16) (Fw On a.toNat i):=λh=>by rw[g,dq (show Gz a.toNat i=true from decide_eq_true h)]
     have no:¬(i=0\/(a.toNat+i) % 16=0)->Fw On a.toNat (i+1)=Fw On a.toNat i:=λh=>by rw[g,dp (by unfold Gz;rw[decide_eq_false h];simp)]
     refine du (λE=>⟨by omega,⟨by omega,⟨by omega,t.cal λq m=>?_⟩⟩⟩) (λE=>⟨by omega,⟨by omega,du (λA=>⟨by omega,⟨by omega,⟨by omega,t.cal λq m=>?_⟩⟩⟩) (λA=>?_)⟩⟩)
     .subst m;refine⟨by omega,i+1,by omega,(by dsimp only;omega),?_⟩;refine⟨?_,?_,rfl⟩<;>repeat' (first|exact trivial|with_reducible rfl|exact rfl|refine And.intro ?_ ?_)
      exact eqS (by rw[yes (.inl (by omega))])
     .subst m;refine⟨by omega,i+1,by omega,(by dsimp only;omega),?_⟩;refine⟨?_,?_,rfl⟩<;>repeat' (first|exact trivial|with_reducible rfl|exact rfl|refine And.intro ?_ ?_)
      exact eqS (by rw[yes (.inr (by omega))])
     .refine⟨by omega,i+1,by omega,(by dsimp only;omega),?_⟩;refine⟨?_,?_,rfl⟩<;>repeat' (first|exact trivial|with_reducible rfl|exact rfl|refine And.intro ?_ ?_)
      exact eqS (by rw[no (by omega)])
    .have r:i=b.length:=by omega
     rw[<-r];exact rfl
def ctB (B:List UInt8)(n:Int)(k:Nat):Bool:=decide (16 * k < n.toNat\/B.length<=n.toNat)
theorem Z4k (B:List UInt8)(On:List Nat)(p:Zan B On)(m:∀k∈On,k < 65536)(n:Int):FnV Tryz.prog 140 [Z44 B On,.v (.int .i64 n)] λq=>q=Xo (rcB B n) (Un B On n) (G7 n):=by
 refine fnG Tryz.func140 ?_;have D:=p.b;have E:=p.o;unfold rcB Un;have bad:¬(0<=n/\n<=1048576)->G7 n=false:=λh=>decide_eq_false h;refine dv (λt=>?_) (λt=>dv (λl=>?_) (λl=>?_))
 .rw[bad (by omega)];exact rfl
 .rw[bad (by omega)];exact rfl
 rw[show G7 n=true from decide_eq_true ⟨by omega,by omega⟩,dq rfl,dq rfl];refine⟨J9 (f:=gBy) (λx=>⟨rfl,rfl⟩) _,⟨by simp;omega,?_⟩⟩;refine Ax [1,2,4] [0,1] (λ_:Nat=>[(6,.osl 3)]) (λj=>[(3,.slc ((B++List.replicate j 0).map gBy) 5 1)]) (λj=>j<=n.toNat - B.length) (λj=>n.toNat - B.length - j) 0 (by omega) ⟨⟨rfl,rfl⟩,trivial⟩ ⟨⟨rfl,rfl,eqR (by simp)⟩,trivial⟩ rfl λj F=>?_;have a:((B++List.replicate j 0).map gBy).length=B.length+j:=by simp
 refine dv (λl=>?_) (λl=>?_)
 .refine⟨by rw[a];simp;omega,j+1,by omega,(by dsimp only;omega),?_⟩;refine⟨?_,?_,rfl⟩<;>repeat' (first|exact trivial|with_reducible rfl|exact rfl|refine And.intro ?_ ?_)
  exact eqR (by rw[List.replicate_succ'];simp[gBy])
 .have z:¬B.length+j < n.toNat:=λc=>l (by rw[a];omega);have r:B++List.replicate j 0=Hz B n.toNat:=by
   unfold Hz;rcases ak (n.toNat - B.length) with c | c
   .rw[c,show j=0 by omega]
   .rw[show j=n.toNat - B.length by omega]
  obtain⟨R,g⟩:∃R:List (List G),R=(B++List.replicate j 0).map gBy:=⟨_,rfl⟩;have e:Xo ((Hz B n.toNat).take n.toNat) (On.filter (λk=>decide (16 * k < n.toNat\/B.length<=n.toNat))) true=.tup [.agg [.sl (Fo R 0 n.toNat),.sl ((On.filter (ctB B n)).map gNu)],.v (.bool true)]:=by unfold Xo Z44 Fo ctB;rw[g,r];simp[List.map_take]
  rw[e];rw[<-g] at a⊢;refine Ax [1,2,4,6] [0,1,3] (λi:Nat=>[(8,.v (.int .i64 i)),(7,.osl 4)]) (λi=>[(4,.slc (((On.take i).filter (ctB B n)).map gNu) 3 1)]) (λi=>i<=On.length) (λi=>On.length - i) 0 (by omega) ⟨⟨rfl,rfl⟩,⟨rfl,rfl⟩,trivial⟩ ⟨RL1,trivial⟩ rfl λi H=>?_;have w:=Ip (ctB B n) On i;refine dv (λc=>?_) (λc=>?_)
  .refine ee (by simpa using c) λx d=>?_;have A:=Bd d;have y:=m x (au d);have yes:16 * x < n.toNat\/B.length<=n.toNat->ctB B n x=true:=λh=>decide_eq_true h;have s:((B.map gBy).length:Int)=B.length:=by rw[ap]
   refine⟨by omega,dv (λu=>?_) (λu=>dv (λC=>?_) (λC=>?_))⟩
   .refine ec d ⟨by simp;omega,⟨by omega,i+1,by omega,(by dsimp only;omega),?_⟩⟩;refine⟨?_,?_,rfl⟩<;>repeat' (first|exact trivial|with_reducible rfl|exact rfl|refine And.intro ?_ ?_)
    exact eqR (Eh (ctB B n) gNu d (yes (by omega)))
   .refine ec d ⟨by simp;omega,⟨by omega,i+1,by omega,(by dsimp only;omega),?_⟩⟩;refine⟨?_,?_,rfl⟩<;>repeat' (first|exact trivial|with_reducible rfl|exact rfl|refine And.intro ?_ ?_)
    exact eqR (Eh (ctB B n) gNu d (yes (by omega)))
   .refine⟨by omega,i+1,by omega,(by dsimp only;omega),?_⟩;refine⟨?_,?_,rfl⟩<;>repeat' (first|exact trivial|with_reducible rfl|exact rfl|refine And.intro ?_ ?_)
    exact eqR (Iq (ctB B n) gNu d (decide_eq_false (by omega)))
  .rw[bc (by simp at c;omega)];exact⟨⟨by omega,by omega,by omega⟩,rfl⟩
theorem Js {r:RFs}{K:Nat}(a:Wf r K)(h:Int × Int):Td r h=B7 r h:=by
 unfold Td B7;cases hl:Aj r h with
 | false=>rfl
 | true =>
  rw[dq rfl,dq rfl];rcases a.kind _ (Ac hl).1 with h | h | h<;>rw[h]<;>rfl
def Shs (r:RFs):Prop:=∀x∈r.ins,Zan x.B x.On/\∀k∈x.On,k < 65536
theorem Z8c (r:RFs)(m:Few r){K:Nat}(k:Wf r K)(l:Shs r)(i g a n:Int):FnV Tryz.prog 115 [enF r,.agg [.v (.int .i64 i),.v (.int .i64 g)],.v (.int .i64 a),.v (.int .i64 n)] λq=>q=.tup [.sl ((Ct r (i,g) a n).1.map gBy),.v (.int .i64 (Ct r (i,g) a n).2)]:=by
 refine fnG Tryz.func115 ?_;refine(Zb r m i g).cal λq c=>?_;subst c;rw[Js k];unfold Ct;by_cases b:B7 r (i,g)=0
 case neg=>rw[dq b];exact du (λh=>dt h b) (λ_=>dy (λ_=>by exact rfl) (λh=>dt h b))
 obtain⟨f,o⟩:=Dt b;rw[b,f,dq rfl,dp (show ¬((0:Int)≠0) by simp)];have j:=(Ac f).1;dsimp only at j;refine du (λ_=>dv (λe=>?_) (λe=>dv (λd=>?_) (λd=>?_))) (λh=>dt rfl h)
 .rw[dq (.inl e)];exact dy (λ_=>by exact rfl) (λh=>dt h (by decide))
 .rw[dq (.inr d)];exact dy (λ_=>by exact rfl) (λh=>dt h (by decide))
 .rw[dp (by omega)];refine dy (λh=>dt rfl h) λ_=>(Z8b _ _ (l _ j).1 a n).cal λq c=>?_;subst c;exact rfl
theorem Zbi (r:RFs)(k:Few r){K:Nat}(m:Wf r K)(j:Shs r)(i g n t:Int):FnV Tryz.prog 113 [enF r,.agg [.v (.int .i64 i),.v (.int .i64 g)],.v (.int .i64 n),.v (.int .i64 t)] λq=>q=Zc2 (Fk r (i,g) n t):=by
 refine fnG Tryz.func113 ?_;refine(Zb r k i g).cal λq b=>?_;subst b;rw[Js m];unfold Fk;by_cases c:B7 r (i,g)=0
 case neg=>rw[dq c];exact dy (λ_=>by exact rfl) (λh=>dt h c)
 obtain⟨f,p⟩:=Dt c;rw[c,f,dq rfl,dp (show ¬((0:Int)≠0) by simp)];have d:=(Ac f).1;dsimp only at d;have a:¬(0<=t/\t<=1099511627776)->Em t=false:=λh=>decide_eq_false h;refine dy (λh=>dt rfl h) λ_=>dv (λe=>?_) (λe=>dv (λl=>?_) (λl=>dv (λo=>?_) (λo=>?_)))
 .rw[dq (.inl e)];exact rfl
 .rw[dq (.inr (a (by omega)))];exact rfl
 .rw[dq (.inr (a (by omega)))];exact rfl
 .rw[dp (by rw[show Em t=true from decide_eq_true ⟨by omega,by omega⟩];simp;omega)];refine(Z4k _ _ (j _ d).1 (j _ d).2 n).cal λq b=>?_;subst b;cases hc:G7 n with
  | false=>exact⟨λ_=>(by rw[dq rfl];exact rfl),λh=>(by cases h)⟩
  | true =>
   rw[dp (by simp)];refine⟨λh=>(by cases h),λ_=>(Qq r k (Gl (A3 r.ins i) (rcB (A3 r.ins i).B n) (Un (A3 r.ins i).B (A3 r.ins i).On n) t)).cal λq b=>?_⟩;subst b;exact rfl
theorem Z66 (r:RFs)(k:Few r){K:Nat}(m:Wf r K)(s:Shs r)(i g a:Int)(b:List UInt8)(p:b.length<=maxLen)(t:Int):FnV Tryz.prog 112 [enF r,.agg [.v (.int .i64 i),.v (.int .i64 g)],.v (.int .i64 a),.sl (b.map gBy),.v (.int .i64 t)] λq=>q=Zc2 (Bz r (i,g) a b t):=by
 refine fnG Tryz.func112 ?_;refine(Zb r k i g).cal λq c=>?_;subst c;rw[Js m];unfold Bz;by_cases e:B7 r (i,g)=0
 case neg=>rw[dq e];exact dy (λ_=>by exact rfl) (λh=>dt h e)
 obtain⟨o,y⟩:=Dt e;rw[e,o,dq rfl,dp (show ¬((0:Int)≠0) by simp)];have l:=(Ac o).1;dsimp only at l;have d:¬(0<=t/\t<=1099511627776)->Em t=false:=λh=>decide_eq_false h;refine dy (λh=>dt rfl h) λ_=>dv (λn=>?_) (λn=>dv (λu=>?_) (λu=>dv (λx=>?_) (λx=>?_)))
 .rw[dq (.inl n)];exact rfl
 .rw[dq (.inr (d (by omega)))];exact rfl
 .rw[dq (.inr (d (by omega)))];exact rfl
 .rw[dp (by rw[show Em t=true from decide_eq_true ⟨by omega,by omega⟩];simp;omega)];refine(Z63 _ _ (s _ l).1 a b p).cal λq c=>?_;subst c;have f:=Zdk (A3 r.ins i).B _ (s _ l).1 a b p;have j:=Z7h r k m;cases hc:D9 a b.length with
  | false=>exact⟨λ_=>(by rw[dq (.inr rfl)];exact rfl),λh=>(by cases h)⟩
  | true =>
   refine⟨λh=>(by cases h),λ_=>f.cal λq c=>?_⟩;subst c;refine j.cal λq c=>?_;subst c;refine dv (λw=>?_) (λw=>?_)
   .rw[dq (.inl (show K4 r < (Gt (A3 r.ins i).On a b.length:Int) by omega))];exact rfl
   .rw[dp (by simp;omega)];refine(Qq r k (Gl (A3 r.ins i) (rwB (A3 r.ins i).B a b) (Z2j (A3 r.ins i).On a b.length) t)).cal λq c=>?_;subst c;exact rfl
def Zag (s:ByteArray)(p:List ByteArray × Bool):List ByteArray:=if p.2=true then p.1 else p.1++[s]
def Y1 (s:ByteArray):List ByteArray->List ByteArray
 | []=>[s]
 | x::l=>if gtS x s=true then s::x::l else x::Y1 s l
theorem Qz (s:ByteArray):∀(l a:List ByteArray),l.foldl (Qm s) (a,true)=(a++l,true)
 | [],a=>by simp
 | x::l,a=>by rw[List.foldl_cons];show l.foldl (Qm s) (a++(if true=false/\gtS x s=true then [s] else [])++[x],true||gtS x s)=_;rw[dp (by simp),Bool.true_or,Qz s l];simp
theorem Vx (s:ByteArray):∀(l a:List ByteArray),Zag s (l.foldl (Qm s) (a,false))=a++Y1 s l
 | [],a=>by simp[Zag,Y1]
 | x::l,a=>by
  rw[List.foldl_cons];cases h:gtS x s with
  | true =>
   show Zag s (l.foldl (Qm s) (a++(if false=false/\gtS x s=true then [s] else [])++[x],false||gtS x s))=_;rw[dq ⟨rfl,h⟩,h,Bool.or_true,Qz,Y1,dq h];simp[Zag]
  | false =>
   show Zag s (l.foldl (Qm s) (a++(if false=false/\gtS x s=true then [s] else [])++[x],false||gtS x s))=_;rw[dp (by simp[h]),h,Bool.or_false,Vx s l,Y1,dp (by simp[h])];simp
theorem Z81 (s:ByteArray)(l:List ByteArray):Zae s l=Y1 s l:=by have:=Vx s l [];simpa [Zag,Zae] using this
theorem Lh (s:ByteArray):∀l,(Y1 s l).Perm (s::l)
 | []=>.refl _
 | x::l=>by
  unfold Y1;split
  .exact .refl _
  .exact((Lh s l).cons x).trans (.swap _ _ _)
theorem Z0t {x s:ByteArray}(h:gtS x s=true):s.toList<=x.toList:=by unfold gtS at h;rw[Go.Proofs.bytesLess_eq] at h;simp at h;exact List.not_lt.1 h.1
theorem Zc5 {x s:ByteArray}(h:gtS x s=false):x.toList<=s.toList:=by
 unfold gtS at h;rw[Go.Proofs.bytesLess_eq] at h;simp at h;rcases Classical.em (x.toList < s.toList) with a | a
 .exact List.le_of_lt a
 .rw[h (List.not_lt.1 a)];exact List.le_refl _
theorem Ly (s:ByteArray):∀{l:List ByteArray},l.Pairwise (λa b=>a.toList<=b.toList)->(Y1 s l).Pairwise (λa b=>a.toList<=b.toList)
 | [],_=>by simp[Y1]
 | x::l,h=>by
  obtain⟨d,e⟩:=List.pairwise_cons.1 h;unfold Y1;cases hg:gtS x s with
  | true =>
   rw[dq rfl];refine List.pairwise_cons.2 ⟨λy c=>?_,h⟩;rcases bq.1 c with rfl | c
   .exact Z0t hg
   .exact List.le_trans (Z0t hg) (d y c)
  | false =>
   rw[dp (by simp)];refine List.pairwise_cons.2 ⟨λy c=>?_,Ly s e⟩;rcases bq.1 ((Lh s l).mem_iff.1 c) with rfl | c
   .exact Zc5 hg
   .exact d y c
theorem Pr (d:Int):∀(l:List RNm) (out:List ByteArray),out.Pairwise (λa b=>a.toList<=b.toList)->(l.foldl (N2 d) out).Pairwise (λa b=>a.toList<=b.toList)/\(l.foldl (N2 d) out).Perm (((l.filter λn=>decide (n.dir=d)).map λn=>n.name)++out)
 | [],out,h=>⟨h,by simp⟩
 | n::l,out,h=>by
  rw[List.foldl_cons];by_cases hd:n.dir=d
  .have e:N2 d out n=Y1 n.name out:=by unfold N2;rw[dq hd,Z81]
   rw[e];obtain⟨f,c⟩:=Pr d l _ (Ly n.name h);refine⟨f,c.trans ?_⟩;rw[List.filter_cons,dq (by simp[hd])];exact((Lh n.name out).append_left _).trans List.perm_middle
  .have e:N2 d out n=out:=dp hd;rw[e,List.filter_cons,dp (by simp[hd])];exact Pr d l out h
theorem Q9 (r:RFs)(h:Int × Int)(g:Ab r h=0):(Fb r h).map (λc=>c.data.toList)=Fr (Aa r.nms h.1):=by
 have e:Fb r h=r.nms.foldl (N2 h.1) []:=dq g;obtain⟨f,d⟩:=Pr h.1 r.nms [] .nil;rw[e];rw[dk] at d;refine List.Perm.eq_of_pairwise (le:=λa b:List UInt8=>a<=b) (λa b _ _ f d=>List.le_antisymm f d) ?_ ?_ (?_:List.Perm _ _)
 .refine List.pairwise_map.2 (f.imp λh=>?_);rw[toList_data,toList_data] at h;exact h
 .exact(List.pairwise_mergeSort Mq Lj _).imp (λh=>by simpa using h)
 .refine(d.map _).trans (List.Perm.trans ?_ (Gf _).symm);unfold Aa;rw[List.map_map,List.map_map];exact .refl _
theorem Z5q (r:RFs)(h:Int × Int)(s:ByteArray)(m:RMk):Db r h s m=if Ab r h≠0 then(r,(0,0),Ab r h) else if Ae s=false then(r,(0,0),176) else if Cw m=false then(r,(0,0),1) else if A2 r.nms h.1 s≠0 then(r,(0,0),171)
  else if m.kind=2/\20<=A5 r (A3 r.ins h.1) then(r,(0,0),179) else if 200<=r.ins.length then(r,(0,0),177)
  else(Ai (Id r (Fa r h m)) h.1 s (Df r.ins),(Df r.ins,Aq r.gens (Df r.ins)+1),0):=by
 unfold Db;rw[Mi];by_cases a:Ab r h=0<;>cases h2:Ae s<;>simp[a]
theorem Wy {l:List Int}{q j:Nat}(c:q<=j+2 - l.length)(b:¬l.length+q<=j+1):By l ((j:Int)+1)=(l++List.replicate q 0).set (j+1) (Aq l ((j:Int)+1)+1)/\(l++List.replicate q 0)[j+1]?=some (Aq l ((j:Int)+1)):=by
 have e:((j:Int)+1).toNat=j+1:=by omega
 have a:q=j+1+1 - l.length:=by omega
 refine⟨by unfold By;rw[e,a],?_⟩;unfold Aq;rw[dq (by omega),e];rcases Nat.lt_or_ge (j+1) l.length with h | h
 .rw[bu h,List.getD_eq_getElem?_getD,aq h];rfl
 .rw[bp h,List.getD_eq_getElem?_getD,cm h,List.getElem?_replicate,dq (by omega)];rfl
theorem Z9v {r:RFs}{x:RIn}{id:Int}(a:x.id=id)(c:∀y∈r.ins,y.id≠id):Hn {r with gens:=By r.gens id} x=Id r x:=by
 unfold Hn Id;have:(r.ins.filter λy=>decide (y.id≠x.id))=r.ins:=List.filter_eq_self.2 λy b=>by rw[a];exact decide_eq_true (c y b)
 rw[a] at this⊢;show({r with ins:=(r.ins.filter λy=>decide (y.id≠id))++[x],gens:=_}:RFs)=_;rw[this]
theorem Zx {r:RFs}{K:Nat}(a:Wf r K)(id:Int):0<=Aq r.gens id/\Aq r.gens id<=(K:Int)+1:=by
 unfold Aq;split
 .rw[List.getD_eq_getElem?_getD];cases h:r.gens[id.toNat]? with
  | none=>simp;omega
  | some g=>exact a.genK g (au h)
 .omega
def Za5 (l:List Int)(m:Nat):List Int:=l++List.replicate m 0
def Zgu (p:RFs × (Int × Int) × Int):G:=.tup [enF p.1,.agg [.v (.int .i64 p.2.1.1),.v (.int .i64 p.2.1.2)],.v (.int .i64 p.2.2)]
set_option maxHeartbeats 4000000 in
theorem Zbs (r:RFs)(o:Few r){K:Nat}(E:Wf r K)(W:K<=1000000)(i g:Int)(s:ByteArray)(N:s.size<=maxLen)(m:RMk)(Q:m.target.size<=maxLen):FnV Tryz.prog 108 [enF r,.agg [.v (.int .i64 i),.v (.int .i64 g)],.v (.string s),.agg [.v (.int .i64 m.kind),.v (.int .i64 m.mode),.v (.int .i64 m.time),.v (.string m.target)]] λq=>q=Zgu (Db r (i,g) s m):=by
 refine fnG Tryz.func108 ?_;rw[Z5q];refine(Fy r o i g).cal λq c=>?_;subst c;by_cases B:Ab r (i,g)=0
 case neg=>rw[dq B];exact dy (λ_=>by exact rfl) (λh=>dt h B)
 have hid:=Gu B;rw[B,dq rfl,dp (by simp)];refine dy (λh=>dt rfl h) λ_=>(Kf s N).cal λq c=>?_;subst c;cases hv:Ae s with
 | false=>exact⟨λ_=>(by rw[dq rfl];exact rfl),λh=>(by cases h)⟩
 | true =>
 rw[dp (by simp)];refine⟨λh=>(by cases h),λ_=>(Zfc m Q).cal λq c=>?_⟩;subst c;cases hr:Cw m with
 | false=>exact⟨λ_=>(by rw[dq rfl];exact rfl),λh=>(by cases h)⟩
 | true =>
 rw[dp (by simp)];refine⟨λh=>(by cases h),λ_=>(I8 r o _ s).cal λq c=>?_⟩;rw[hid] at c;subst c;refine dy (λh=>?_) (λh=>?_)
 .rw[dq h];exact rfl
 rw[dp (by simpa using h)];have T:=o.g;refine du (λC=>(Lv r o (A3 r.ins i)).cal λq c=>?a) (λC=>?b)
 case' a =>
  subst c;refine dv (λt=>?a1) (λt=>?a2)
 case a1=>rw[dq ⟨C,(show 20<=A5 r (A3 r.ins i) by omega)⟩];exact rfl
 case' a2=>rw[dp (λD=>t (by have:20<=A5 r (A3 r.ins i):=D.2;omega))];clear t
 case' b=>rw[dp (λD=>C D.1)]
 all_goals
  clear C;refine dv (λt=>?_) (λt=>?_)
  .rw[dq (by simp at t;omega)];exact rfl
  have U:¬200<=r.ins.length:=by simp at t;omega
  rw[dp U];refine Ax [2,4,5,7,8,9,11] [0,1,2,3,4,5] (λj:Nat=>[(13,.v (.int .i64 ((j:Int)+1)))]) (λ_=>[]) (λj=>j<=200/\∀k,k < j->(A3 r.ins ((k:Int)+1)).id≠0) (λj=>202 - j) 0 ⟨by omega,λk h=>by omega⟩ ⟨⟨rfl,rfl⟩,trivial⟩ trivial rfl λj ⟨V,hno⟩=>?_;refine(Jb r o _).cal λq c=>?_;subst c;refine dy (λH=>?_) (λH=>?_)
  .have l:∀k,k < j+1->(A3 r.ins ((k:Int)+1)).id≠0:=λk M=>by
    rcases Nat.lt_or_ge k j with h | h
    .exact hno k h
    .rw[show k=j by omega];exact H
   have:=Nw E l;refine⟨by omega,j+1,⟨by omega,l⟩,(by dsimp only;omega),?_⟩;refine⟨?_,?_,rfl⟩<;>repeat' (first|exact trivial|with_reducible rfl|exact rfl|refine And.intro ?_ ?_)
  have d:Df r.ins=(j:Int)+1:=Jf (by omega) H hno;refine⟨J9 (f:=enG) (λx=>⟨rfl,rfl⟩) _,⟨by simp;omega,?_⟩⟩;refine Ax [2,4,5,7,8,9,11,13] [0,1,2,3,4,5] (λ_:Nat=>[(14,.osl 7)]) (λq=>[(7,.slc ((Za5 r.gens q).map enG) 3 1)]) (λq=>q<=j+2 - r.gens.length) (λq=>j+3 - r.gens.length - q) 0 (by omega) ⟨⟨rfl,rfl⟩,trivial⟩ ⟨⟨rfl,rfl,by unfold Za5;exact eqR (by simp)⟩,trivial⟩ rfl λq c=>?_;have e:(Za5 r.gens q).length=r.gens.length+q:=by unfold Za5;simp
  refine dv (λG=>?_) (λG=>?_)
  .have A:r.gens.length+q<=j+1:=by simp[e] at G;omega
   refine⟨by simp[e];omega,q+1,by omega,(by dsimp only;omega),?_⟩;refine⟨?_,?_,rfl⟩<;>repeat' (first|exact trivial|with_reducible rfl|exact rfl|refine And.intro ?_ ?_)
   exact eqR (by unfold Za5;rw[List.replicate_succ'];simp[enG])
  have A:¬r.gens.length+q<=j+1:=by simp[e] at G;omega
  obtain⟨L,F⟩:=Wy c A;have u:(Za5 r.gens q)[((j:Int)+1).toNat]?=some (Aq r.gens ((j:Int)+1)):=by rw[show((j:Int)+1).toNat=j+1 by omega];exact F
  have S:=Zx E ((j:Int)+1);have p:(Za5 r.gens q).set ((j:Int)+1).toNat (Aq r.gens ((j:Int)+1)+1)=By r.gens ((j:Int)+1):=by rw[show((j:Int)+1).toNat=j+1 by omega,L];rfl
  have w:(By r.gens ((j:Int)+1))[((j:Int)+1).toNat]?=some (Aq r.gens ((j:Int)+1)+1):=by rw[<-p,List.getElem?_set_self];exact(ar.1 u).1
  have R:(By r.gens ((j:Int)+1)).length=r.gens.length+q:=by rw[<-p];simp[e]
  refine⟨by rw[ap];omega,ec u ⟨by omega,⟨by rw[ap];omega,EvSet.at (y:=Aq r.gens ((j:Int)+1)+1) u (λk M=>M) p ?_⟩⟩⟩;have J:Few {r with gens:=By r.gens ((j:Int)+1)}:=⟨o.i,o.n,by show(By _ _).length<=1000;omega⟩;have O:Fa r (i,g) m=⟨(j:Int)+1,Aq r.gens ((j:Int)+1)+1,m.kind,m.mode,m.time,(A3 r.ins i).id,m.target,[],[]⟩:=by unfold Fa;rw[d,hid]
  have z:Hn {r with gens:=By r.gens ((j:Int)+1)} (Fa r (i,g) m)=Id r (Fa r (i,g) m):=Z9v (by show Df _=_;exact d) (by rw[<-d];exact(Vw E (by omega)).2.2);have I:Few (Id r (Fa r (i,g) m)):=⟨by show(r.ins++[_]).length<=1000;simp;omega,o.n,by show(By _ (Df r.ins)).length<=1000;rw[d];omega⟩;rw[d];refine⟨by rw[ap];omega,ec w ?_⟩;refine(Qq _ J ⟨(j:Int)+1,Aq r.gens ((j:Int)+1)+1,m.kind,m.mode,m.time,(A3 r.ins i).id,m.target,[],[]⟩).cal λq c=>?_;rw[<-O,z] at c;subst c;have P:FnV Tryz.prog 132 [enF (Id r (Fa r (i,g) m)),.v (.int .i64 (A3 r.ins i).id),.v (.string s),.v (.int .i64 ((j:Int)+1))] λq=>q=enF (Ai (Id r (Fa r (i,g) m)) i s ((j:Int)+1)):=by rw[hid];exact Ia _ I i s _
  refine EvIdx.atI (by omega) w (P.cal λq c=>?_);subst c;exact rfl
end Go.Proofs.YtmmdikhljefeiaaGreat
