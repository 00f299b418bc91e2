
import Derived.Test.YtmmdikhljefeiaaGreatSxMc
import Derived.Test.YtmmdikhljefeiaaGreatSM1
import Derived.Test.YtmmdikhljefeiaaGreatYFsE
import Derived.Test.YtmmdikhljefeiaaGreatWA
import Derived.Test.YtmmdikhljefeiaaGreatYFsR
import Derived.Test.YtmmdikhljefeiaaGreatFsXW
import Derived.Test.YtmmdikhljefeiaaGreatLaM
import Derived.Test.YtmmdikhljefeiaaGreatOP
import Derived.Test.YtmmdikhljefeiaaGreatYFtL
import Derived.Sort.Walk0
namespace Go.Proofs.YtmmdikhljefeiaaGreat
open Go.RowKit
set_option maxRecDepth 100000
def gNu (n:Nat):List G:=[.v (.int .i64 n)]
def enI (x:RIn):List G:=[.v (.int .i64 x.id),.v (.int .i64 x.gen),.v (.int .i64 x.kind),.v (.int .i64 x.mode),.v (.int .i64 x.time),.v (.int .i64 x.parent),.v (.string x.target),.sl (x.B.map gBy),.sl (x.On.map gNu)]
def enN (x:RNm):List G:=[.v (.int .i64 x.dir),.v (.string x.name),.v (.int .i64 x.id)]
def enG (n:Int):List G:=[.v (.int .i64 n)]
def enF (r:RFs):G:=.agg [.v (.int .i64 r.room),.sl (r.ins.map enI),.sl (r.nms.map enN),.sl (r.gens.map enG)]
structure Few (r:RFs):Prop where
 i:r.ins.length<=1000
 n:r.nms.length<=1000000
 g:r.gens.length<=1000
theorem Ix (r:RFs)(c:Few r)(id:Int):FnV Tryz.prog 118 [enF r,.v (.int .i64 id)] λg=>g=.agg (enI (A3 r.ins id)):=by
 refine fnG Tryz.func118 ?_;have f:=c.i;refine As [1,2,4] [0,1] (λi:Nat=>[(5,.v (.int .i64 i))]) (λ_=>[]) (λi=>i<=r.ins.length/\∀x∈r.ins.take i,¬x.id=id) (λi=>r.ins.length - i) 0 ⟨by omega,by simp⟩ ⟨⟨rfl,rfl⟩,trivial⟩ trivial rfl λi ⟨j,hno⟩=>?_;refine dw (λh=>?_) (λh=>?_)
 .refine ef (by simpa using h) λx a=>dv (λb=>?_) (λb=>?_)
  .refine ee a ?_;have e:A3 r.ins id=x:=by
    unfold A3;rw[Z19 a (λy d=>decide_eq_false (hno y d)) (decide_eq_true b)];rfl
   show G.agg (enI x)=_;rw[e]
  .have:=B8 a;refine⟨by omega,i+1,⟨by omega,Qa a hno b⟩,(by dsimp only;omega),?_⟩;refine⟨?_,?_,rfl⟩<;>repeat' (first|exact trivial|with_reducible rfl|exact rfl|refine And.intro ?_ ?_)
 .rw[show A3 r.ins id=Z7z from Ke (Le (by simpa using h) hno)];rfl
theorem Mt (r:RFs)(b:Few r)(i g:Int):FnV Tryz.prog 84 [enF r,.agg [.v (.int .i64 i),.v (.int .i64 g)]] λq=>q=.tup [.agg (enI (if Aj r (i,g)=true then A3 r.ins i else Z7z)),.v (.int .i64 (Bv r (i,g)))]:=by
 refine fnG Tryz.func84 ?_;refine(Ix r b i).cal λq c=>?_;subst c;have e:Aj r (i,g)=decide ((A3 r.ins i).id≠0/\(A3 r.ins i).gen=g):=rfl;refine dv (λh=>?_) (λh=>dz (λa=>?_) (λa=>?_))
 .have:Aj r (i,g)=false:=by rw[e];simp[h]
  simp only[Bv,this,Bool.false_eq_true,if_false];rfl
 .have:Aj r (i,g)=false:=by rw[e];simp[a]
  simp only[Bv,this,Bool.false_eq_true,if_false];rfl
 .have:Aj r (i,g)=true:=by rw[e];simp[h,a]
  simp only[Bv,this,if_true];rfl
theorem Ia {r:RFs}{i g:Int}:(Aj r (i,g)=true/\Bv r (i,g)=0)\/(Aj r (i,g)=false/\Bv r (i,g)=175/\Ab r (i,g)=175):=by unfold Bv Ab;cases Aj r (i,g)<;>simp
theorem Fv (r:RFs)(c:Few r)(i g:Int):FnV Tryz.prog 127 [enF r,.agg [.v (.int .i64 i),.v (.int .i64 g)]] λq=>q=.tup [.agg (enI (if Ab r (i,g)=0 then A3 r.ins i else Z7z)),.v (.int .i64 (Ab r (i,g)))]:=by
 refine fnG Tryz.func127 ?_;refine(Mt r c i g).cal λq d=>?_;subst d;rcases Ia (r:=r) (i:=i) (g:=g) with⟨a,he⟩ | ⟨a,he,b⟩
 .rw[a,he,dt rfl];refine dv (λ_=>dz (λh=>?_) (λh=>?_)) (λh=>du rfl h)
  .have b:Ab r (i,g)=173:=by unfold Ab;rw[a];exact(dq h:ite _ _ _=_)
   rw[b];exact rfl
  .have b:Ab r (i,g)=0:=by unfold Ab;rw[a];exact(dt h:ite _ _ _=_)
   rw[b];exact rfl
 .rw[a,he,b];exact dv (λh=>by cases h) (λ_=>by exact rfl)
def Uj (r:RFs)(h:Int × Int):Int:=if Aj r h=true then(if(A3 r.ins h.1).kind=2 then 172 else if(A3 r.ins h.1).kind=3 then 1 else 0) else 175
theorem Z31 (r:RFs)(c:Few r)(i g:Int):FnV Tryz.prog 137 [enF r,.agg [.v (.int .i64 i),.v (.int .i64 g)]] λq=>q=.tup [.agg (enI (if Aj r (i,g)=true then A3 r.ins i else Z7z)),.v (.int .i64 (Uj r (i,g)))]:=by
 refine fnG Tryz.func137 ?_;refine(Mt r c i g).cal λq d=>?_;subst d;rcases Ia (r:=r) (i:=i) (g:=g) with⟨a,he⟩ | ⟨a,he,hf⟩
 .have e:Uj r (i,g)=if(A3 r.ins i).kind=2 then 172 else if(A3 r.ins i).kind=3 then 1 else 0:=by unfold Uj;rw[a];rfl
  rw[a,he,e,dt rfl];refine dz (λh=>du rfl h) (λ_=>dv (λh=>?_) (λh=>?_))
  .rw[dt h];exact rfl
  .rw[dq h];refine dv (λb=>?_) (λb=>?_)
   .rw[dt b];exact rfl
   .rw[dq b];exact rfl
 .have e:Uj r (i,g)=175:=by unfold Uj;rw[a];rfl
  rw[a,he,e];exact dz (λh=>by exact rfl) (λh=>by cases h)
theorem Kn (s:ByteArray)(n:s.size<=maxLen):FnV Tryz.prog 128 [.v (.string s)] λg=>g=.v (.bool (Ad s)):=by
 refine fnG Tryz.func128 ?_;unfold maxLen at n;refine As [0] [] (λi:Nat=>[(3,.v (.int .i64 i))]) (λ_=>[]) (λi=>i<=s.size/\∀c∈s.data.toList.take i,¬(c=47\/c=0)) (λi=>s.size - i) 0 ⟨by omega,by simp⟩ ⟨⟨rfl,rfl⟩,trivial⟩ trivial rfl λi ⟨q,hno⟩=>?_;refine dw (λh=>?_) (λh=>?_)
 .have m:i < s.data.toList.length:=by simpa using h
  have bad:∀c,s.data.toList[i]?=some c->(c=47\/c=0)->Ad s=false:=λc f h=>by
   have:(s.data.toList.all λc=>decide (c≠47/\c≠0))=false:=by rw[List.all_eq_false];exact⟨c,ar f,by rcases h with h | h<;>simp[h]⟩
   unfold Ad;rw[this,Bool.and_false]
  refine⟨⟨by omega,by omega⟩,λc f=>dv (λa=>?_) (λa=>⟨⟨by omega,by omega⟩,λk d=>dv (λb=>?_) (λb=>?_)⟩)⟩
  .rw[bad c (by simpa using f) (.inl (UInt8.toNat_inj.1 (by simpa using (by omega:c.toNat=47))))];rfl
  .rw[bad k (by simpa using d) (.inr (UInt8.toNat_inj.1 (by simpa using (by omega:k.toNat=0))))];rfl
  .rw[f] at d;obtain rfl:=cv d;refine⟨by omega,i+1,⟨by omega,?_⟩,(by dsimp only;omega),?_⟩
   .refine Qa (by simpa using f) hno ?_;rintro(rfl | rfl)
    .exact a rfl
    .exact b rfl
   .refine⟨?_,?_,rfl⟩<;>repeat' (first|exact trivial|with_reducible rfl|exact rfl|refine And.intro ?_ ?_)
 .have ok:(s.data.toList.all λc=>decide (c≠47/\c≠0))=true:=by
   rw[List.all_eq_true];intro c f;have:=Le (p:=λc=>¬(c=47\/c=0)) (by simpa using h) hno c f;simp at this⊢;exact this
  have e:Ad s=decide (1<=s.size/\s.size<=60/\s≠Na/\s≠dot2S):=by unfold Ad;rw[ok,Bool.and_true]
  rw[e];have o:Na=⟨#[46]⟩:=rfl;have l:dot2S=⟨#[46,46]⟩:=rfl;refine dw (λa=>dw (λb=>EvIf.bneS (λj=>?_) (λj=>?_)) (λb=>?_)) (λa=>?_)
  .show G.v (.bool (!(s.toList==dot2S.toList)))=_;rw[Je];have j:s≠Na:=j;have a:1<=s.size:=by omega
   have b:s.size<=60:=by omega
   simp[a,b,j]
  .have:¬(1<=s.size/\s.size<=60/\s≠Na/\s≠dot2S):=λh=>h.2.2.1 j;rw[decide_eq_false this];exact rfl
  .have:¬(1<=s.size/\s.size<=60/\s≠Na/\s≠dot2S):=λh=>b (by have:=h.2.1;omega);rw[decide_eq_false this];exact rfl
  .have:¬(1<=s.size/\s.size<=60/\s≠Na/\s≠dot2S):=λh=>a (by have:=h.1;show(s.size:Int) >= 1;omega);rw[decide_eq_false this];exact rfl
theorem I8 (r:RFs)(d:Few r)(dir:Int)(s:ByteArray):FnV Tryz.prog 130 [enF r,.v (.int .i64 dir),.v (.string s)] λg=>g=.v (.int .i64 (A2 r.nms dir s)):=by
 refine fnG Tryz.func130 ?_;have l:=d.n;refine As [1,2,3] [0] (λi:Nat=>[(7,.v (.int .i64 i))]) (λ_=>[]) (λi=>i<=r.nms.length/\∀n∈r.nms.take i,¬(n.dir=dir/\n.name=s)) (λi=>r.nms.length - i) 0 ⟨by omega,by simp⟩ ⟨⟨rfl,rfl⟩,trivial⟩ trivial rfl λi ⟨m,hno⟩=>?_;refine dw (λh=>?_) (λh=>?_)
 .refine ef (by simpa using h) λx a=>?_;have j:=B8 a;have nx:¬(x.dir=dir/\x.name=s)->i+1<=r.nms.length/\∀n∈r.nms.take (i+1),¬(n.dir=dir/\n.name=s):=λh=>⟨by omega,Qa a hno h⟩;refine dv (λb=>ee a (EvIf.beqS (λc=>ee a ?_) (λc=>?_))) (λb=>?_)
  .have e:A2 r.nms dir s=x.id:=by
    unfold A2;rw[Z19 a (λy f=>decide_eq_false (hno y f)) (decide_eq_true ⟨b,c⟩)];rfl
   rw[e];exact rfl
  .refine⟨by omega,i+1,nx λh=>c h.2,(by dsimp only;omega),?_⟩;refine⟨?_,?_,rfl⟩<;>repeat' (first|exact trivial|with_reducible rfl|exact rfl|refine And.intro ?_ ?_)
  .refine⟨by omega,i+1,nx λh=>b h.1,(by dsimp only;omega),?_⟩;refine⟨?_,?_,rfl⟩<;>repeat' (first|exact trivial|with_reducible rfl|exact rfl|refine And.intro ?_ ?_)
 .have e:A2 r.nms dir s=0:=by
   unfold A2;rw[List.find?_eq_none.2 λn k=>by simpa using Le (by simpa using h) hno n k];rfl
  rw[e];exact rfl
theorem Z71 (r:RFs)(d:Few r)(dir:Int):FnV Tryz.prog 86 [enF r,.v (.int .i64 dir)] λg=>g=.v (.int .i64 (E0 r.nms dir:Int)):=by
 refine fnG Tryz.func86 ?_;have j:=d.n;refine As [1,2] [0] (λi:Nat=>[(6,.v (.int .i64 i)),(5,.v (.int .i64 (E0 (r.nms.take i) dir:Int)))]) (λ_=>[]) (λi=>i<=r.nms.length) (λi=>r.nms.length - i) 0 (by omega) ⟨⟨rfl,rfl⟩,⟨rfl,rfl⟩,trivial⟩ trivial rfl λi k=>?_;refine dw (λh=>?_) (λh=>?_)
 .refine ef (by simpa using h) λx b=>?_;have c:=B8 b;have e:=Lz (λn:RNm=>decide (n.dir=dir)) b;have f:E0 (r.nms.take i) dir<=i:=co List.countP_le_length (List.length_take_le _ _);refine dv (λa=>⟨by omega,⟨by omega,i+1,by omega,(by dsimp only;omega),?_⟩⟩) (λa=>⟨by omega,i+1,by omega,(by dsimp only;omega),?_⟩)
  .refine⟨?_,?_,rfl⟩<;>repeat' (first|exact trivial|with_reducible rfl|exact rfl|refine And.intro ?_ ?_)
   exact Zds (show E0 (r.nms.take (i+1)) dir=E0 (r.nms.take i) dir+1 by unfold E0;rw[e];simp[show x.dir=dir from a])
  .refine⟨?_,?_,rfl⟩<;>repeat' (first|exact trivial|with_reducible rfl|exact rfl|refine And.intro ?_ ?_)
   exact eqN (show E0 (r.nms.take (i+1)) dir=E0 (r.nms.take i) dir by unfold E0;rw[e];simp[show ¬x.dir=dir from a])
 .rw[ba (by simp at h;omega)];exact rfl
def lkB (r:RFs)(x:RIn)(n:RNm):Bool:=if x.kind=2 then decide (n.dir=x.id/\(A3 r.ins n.id).kind=2) else decide (n.id=x.id)
theorem Ys (r:RFs)(x:RIn):A5 r x=r.nms.countP (lkB r x)+if x.kind=2 then 2 else 0:=by unfold A5 lkB;split<;>simp[*]
theorem M5 (r:RFs)(l:Few r)(x:RIn):FnV Tryz.prog 85 [enF r,.agg (enI x)] λg=>g=.v (.int .i64 (A5 r x:Int)):=by
 refine fnG Tryz.func85 ?_;have o:=l.n;refine As [2,3,4] [0,1] (λi:Nat=>[(6,.v (.int .i64 i)),(5,.v (.int .i64 ((r.nms.take i).countP (lkB r x):Int)))]) (λ_=>[]) (λi=>i<=r.nms.length) (λi=>r.nms.length - i) 0 (by omega) ⟨⟨rfl,rfl⟩,⟨rfl,rfl⟩,trivial⟩ trivial rfl λi p=>?_;have f:(r.nms.take i).countP (lkB r x)<=i:=co List.countP_le_length (List.length_take_le _ _);refine dw (λh=>?_) (λh=>?_)
 .have j:i < r.nms.length:=by simpa using h
  obtain⟨n,d⟩:∃n,r.nms[i]?=some n:=⟨_,ap j⟩;have e:=Lz (lkB r x) d;have yes:lkB r x n=true->(r.nms.take (i+1)).countP (lkB r x)=(r.nms.take i).countP (lkB r x)+1:=λh=>by rw[e,h];rfl
  have no:lkB r x n=false->(r.nms.take (i+1)).countP (lkB r x)=(r.nms.take i).countP (lkB r x):=λh=>by rw[e,h];rfl
  refine dv (λb=>?_) (λb=>?_)
  .have a:x.kind=2:=b;refine ee d (dv (λc=>ee d ((Ix r l n.id).cal λq m=>?_)) (λc=>?_))
   .subst m;refine dv (λk=>⟨by omega,?_⟩) (λk=>?_)
    .refine dz (λh=>du a h) (λ_=>⟨by omega,i+1,by omega,(by dsimp only;omega),?_⟩);refine⟨?_,?_,rfl⟩<;>repeat' (first|exact trivial|with_reducible rfl|exact rfl|refine And.intro ?_ ?_)
     exact Zds (yes (by unfold lkB;rw[dt a];exact decide_eq_true ⟨c,k⟩))
    .refine dz (λh=>du a h) (λ_=>⟨by omega,i+1,by omega,(by dsimp only;omega),?_⟩);refine⟨?_,?_,rfl⟩<;>repeat' (first|exact trivial|with_reducible rfl|exact rfl|refine And.intro ?_ ?_)
     exact eqN (no (by unfold lkB;rw[dt a];exact decide_eq_false λh=>k h.2))
   .refine dz (λh=>du a h) (λ_=>⟨by omega,i+1,by omega,(by dsimp only;omega),?_⟩);refine⟨?_,?_,rfl⟩<;>repeat' (first|exact trivial|with_reducible rfl|exact rfl|refine And.intro ?_ ?_)
    exact eqN (no (by unfold lkB;rw[dt a];exact decide_eq_false λh=>c h.1))
  .have a:¬x.kind=2:=b;refine dz (λ_=>ee d (dv (λc=>⟨by omega,⟨by omega,i+1,by omega,(by dsimp only;omega),?_⟩⟩) (λc=>⟨by omega,i+1,by omega,(by dsimp only;omega),?_⟩))) (λh=>du h a)
   .refine⟨?_,?_,rfl⟩<;>repeat' (first|exact trivial|with_reducible rfl|exact rfl|refine And.intro ?_ ?_)
    exact Zds (yes (by unfold lkB;rw[dq a];exact decide_eq_true c))
   .refine⟨?_,?_,rfl⟩<;>repeat' (first|exact trivial|with_reducible rfl|exact rfl|refine And.intro ?_ ?_)
    exact eqN (no (by unfold lkB;rw[dq a];exact decide_eq_false c))
 .rw[ba (by simp at h;omega)] at f⊢;have e:=Ys r x;refine dv (λb=>⟨by omega,?_⟩) (λb=>?_)
  .have a:x.kind=2:=b;rw[dt a] at e;rw[e];exact rfl
  .have a:¬x.kind=2:=b;rw[dq a] at e;rw[e];exact rfl
theorem Z6t (r:RFs)(h:Int × Int)(s:ByteArray):Fk r h s=if Ab r h≠0 then((0,0),Ab r h) else if s=Na then(h,0) else if s=dot2S then(((A3 r.ins h.1).parent,(A3 r.ins (A3 r.ins h.1).parent).gen),0)
  else if Ad s=false then((0,0),176) else if A2 r.nms h.1 s=0 then((0,0),170) else((A2 r.nms h.1 s,(A3 r.ins (A2 r.nms h.1 s)).gen),0):=by
 unfold Fk B1;by_cases a:Ab r h=0<;>by_cases c:s=Na<;>by_cases b:s=dot2S<;>cases Ad s<;>simp[a,c,b]<;>simp_all
def Zh2 (p:(Int × Int) × Int):G:=.tup [.agg [.v (.int .i64 p.1.1),.v (.int .i64 p.1.2)],.v (.int .i64 p.2)]
theorem Hb {r:RFs}{i g:Int}(h:Ab r (i,g)=0):(A3 r.ins i).id=i:=by
 have:Aj r (i,g)=true:=by
  unfold Ab at h;cases hl:Aj r (i,g) with
  | true=>rfl
  | false=>rw[hl] at h;cases h
 exact(Ac this).2.1
theorem Zcz (r:RFs)(f:Few r){K:Nat}(l:Wf r K)(i g:Int)(s:ByteArray)(n:s.size<=maxLen):FnV Tryz.prog 114 [enF r,.agg [.v (.int .i64 i),.v (.int .i64 g)],.v (.string s)] λq=>q=Zh2 (Fk r (i,g) s):=by
 refine fnG Tryz.func114 ?_;refine(Fv r f i g).cal λq b=>?_;subst b;rw[Z6t];by_cases a:Ab r (i,g)=0
 .rw[a,dt rfl,dq (by simp)];have hid:=Hb a;refine dz (λh=>du rfl h) λ_=>EvIf.beqS (fun(h:s=Na)=>?_) (fun(h:¬s=Na)=>?_)
  .rw[dt h];exact rfl
  .rw[dq h];refine EvIf.bneS (fun(k:¬s=dot2S)=>?_) (fun(k:s=dot2S)=>?_)
   .rw[dq k];refine(Kn s n).cal λq b=>?_;subst b;cases hv:Ad s with
    | false=>exact⟨λ_=>(by rw[dt rfl];exact rfl),λh=>by cases h⟩
    | true =>
     rw[dq (by simp)];refine⟨λh=>(by cases h),λ_=>(I8 r f _ s).cal λq b=>?_⟩;rw[hid] at b;subst b;refine dv (λc=>?_) (λc=>?_)
     .rw[dt c];exact rfl
     .rw[dq c];refine(Ix r f _).cal λq b=>?_;subst b;exact rfl
   .rw[dt k];refine dv (λc=>?_) (λc=>?_)
    .exfalso;have j:Aj r (i,g)=true:=by
      unfold Ab at a;cases j:Aj r (i,g) with
      | true=>rfl
      | false=>rw[j] at a;cases a
     have d:(A3 r.ins i).kind=2:=by
      unfold Ab at a;rw[j] at a;by_cases d:(A3 r.ins i).kind=2
      .exact d
      .simp[d] at a
     obtain⟨p,m,e,-⟩:=l.par _ (Ac j).1 d;have:=l.ne0 m;exact this (e.trans c)
    .refine(Ix r f _).cal λq b=>?_;subst b;exact rfl
 .rw[dt a];exact dz (λ_=>by exact rfl) (λh=>du h a)
def D9 (r:RFs)(h:Int × Int):ByteArray × Int:=if Aj r h=true then(if(A3 r.ins h.1).kind=3 then((A3 r.ins h.1).target,0) else(Km,1)) else(Km,175)
theorem Z5q (r:RFs)(b:Few r)(i g:Int):FnV Tryz.prog 117 [enF r,.agg [.v (.int .i64 i),.v (.int .i64 g)]] λq=>q=.tup [.v (.string (D9 r (i,g)).1),.v (.int .i64 (D9 r (i,g)).2)]:=by
 refine fnG Tryz.func117 ?_;refine(Mt r b i g).cal λq c=>?_;subst c;unfold D9;rcases Ia (r:=r) (i:=i) (g:=g) with⟨a,he⟩ | ⟨a,he,hf⟩
 .rw[a,he,dt rfl,dt rfl];refine dz (λh=>du rfl h) λ_=>dz (λh=>?_) (λh=>?_)
  .rw[dq h];exact rfl
  .rw[dt h];exact rfl
 .rw[a,he,dq (by simp)];exact dz (λh=>by exact rfl) (λh=>by cases h)
theorem Zaf (r:RFs)(c:Few r)(id:Int)(fo:Bool)(hid:(A3 r.ins id).kind=2->(A3 r.ins id).id=id):FnV Tryz.prog 133 [enF r,.v (.int .i64 id),.v (.bool fo)] λq=>q=.v (.int .i64 (Fp r (A3 r.ins id) fo)):=by
 refine fnG Tryz.func133 ?_;refine(Ix r c id).cal λq b=>?_;subst b;unfold Fp;refine dv (λh=>?_) (λh=>?_)
 .rw[dt h,hid h];cases fo with
  | false=>exact⟨λ_=>(by rw[dq (by simp)];exact rfl),λh=>by cases h⟩
  | true =>
   rw[dt rfl];refine⟨λh=>(by cases h),λ_=>dz (λa=>du h a) λ_=>dv (λ_=>(Z71 r c id).cal λq b=>?_) (λa=>du h a)⟩;subst b;refine dw (λh=>?_) (λh=>?_)
   .rw[dt (by omega)];exact rfl
   .rw[dq (by omega)];exact rfl
 .rw[dq h];refine dz (λ_=>?_) (λa=>du a h);cases fo with
  | false=>exact⟨λh=>(by cases h),λ_=>dv (λa=>du a h) λ_=>(by rw[dq (by simp)];exact rfl)⟩
  | true=>exact⟨λ_=>(by rw[dt rfl];exact rfl),λh=>by cases h⟩
theorem Mh {α:Type}(p:α->Bool){L:List α}{i:Nat}{m:α}(h:L[i]?=some m):(L.take (i+1)).filter p=(L.take i).filter p++if p m=true then [m] else []:=by rw[Bb h,List.filter_append];cases hp:p m<;>simp[hp]
theorem Ej {α β:Type}(p:α->Bool)(f:α->β){L:List α}{i:Nat}{m:α}(h:L[i]?=some m)(a:p m=true):((L.take i).filter p).map f++[f m]=((L.take (i+1)).filter p).map f:=by rw[Mh p h,dt a];simp
theorem J0 {α β:Type}(p:α->Bool)(f:α->β){L:List α}{i:Nat}{m:α}(h:L[i]?=some m)(a:p m=false):((L.take i).filter p).map f=((L.take (i+1)).filter p).map f:=by rw[Mh p h,a];simp
theorem J3 {α:Type}(p:α->Bool)(L:List α)(i:Nat):((L.take i).filter p).length<=L.length:=co (ah _ _) (List.length_take_le' _ _)
theorem Zfq (m:RMk)(d:m.target.size<=maxLen):FnV Tryz.prog 129 [.agg [.v (.int .i64 m.kind),.v (.int .i64 m.mode),.v (.int .i64 m.time),.v (.string m.target)]] λq=>q=.v (.bool (!Cz m)):=by
 refine fnG Tryz.func129 ?_;have no:¬(1<=m.kind/\m.kind<=3/\0<=m.mode/\m.mode < 4096/\0<=m.time/\m.time<=1099511627776)->Cz m=false:=λh=>decide_eq_false λa=>h ⟨a.1,a.2.1,a.2.2.1,a.2.2.2.1,a.2.2.2.2.1,a.2.2.2.2.2.1⟩;unfold maxLen at d;have em:m.target=⟨#[]⟩↔m.target.size=0:=⟨λh=>by rw[h];rfl,λh=>by exact Zci h⟩
 refine dw (fun(h:m.kind < 1)=>?_) fun(e:¬m.kind < 1)=>dw (fun(h:m.kind > 3)=>?_) fun(g:¬m.kind > 3)=>dw (fun(h:m.mode < 0)=>?_) fun(l:¬m.mode < 0)=>dw (fun(h:m.mode > 4095)=>?_) fun(j:¬m.mode > 4095) =>
  dw (fun(h:m.time < 0)=>?_) fun(f:¬m.time < 0)=>dw (fun(h:m.time > 1099511627776)=>?_) fun(i:¬m.time > 1099511627776)=>dv (fun(h:m.kind=3)=>EvIf.beqS (λc=>?_) λc=>?_) (fun(h:m.kind≠3)=>?_)
 iterate 6 (rw[no (by omega)];exact rfl)
 .have:Cz m=false:=decide_eq_false λa=>by have:=(a.2.2.2.2.2.2.1 h).1;have:=em.1 c;omega
  rw[this];exact rfl
 .have k:m.target.size≠0:=λh=>c (em.2 h);have:(!Cz m)=decide ((m.target.size:Int) > 100):=by
   unfold Cz;by_cases b:m.target.size<=100
   .rw[decide_eq_true ⟨by omega,by omega,by omega,by omega,by omega,by omega,λ_=>⟨by omega,b⟩,λa=>du h a⟩,decide_eq_false (by omega)];rfl
   .rw[decide_eq_false (λa=>b (a.2.2.2.2.2.2.1 h).2),decide_eq_true (by omega)];rfl
  rw[this];exact rfl
 .have:(!Cz m)=!(m.target.toList==(⟨#[]⟩:ByteArray).toList):=by
   rw[Je];unfold Cz;by_cases b:m.target.size=0
   .rw[decide_eq_true ⟨by omega,by omega,by omega,by omega,by omega,by omega,λa=>du a h,λ_=>b⟩,decide_eq_true (em.2 b)]
   .rw[decide_eq_false (λa=>b (a.2.2.2.2.2.2.2 h)),decide_eq_false (λa=>b (em.1 a))]
  rw[this];exact rfl
theorem Ru (r:RFs)(g:Few r)(x:RIn):FnV Tryz.prog 131 [enF r,.agg (enI x)] λq=>q=enF (Hr r x):=by
 refine fnG Tryz.func131 ?_;have k:=g.i;obtain⟨p,c⟩:∃p:RIn->Bool,p=λy=>decide (y.id≠x.id):=⟨_,rfl⟩;refine As [2,3,4] [0,1,2] (λi:Nat=>[(6,.v (.int .i64 i)),(5,.osl 3)]) (λi=>[(3,.slc (((r.ins.take i).filter p).map enI) 124 9)]) (λi=>i<=r.ins.length) (λi=>r.ins.length - i) 0 (by omega) ⟨⟨rfl,rfl⟩,⟨rfl,rfl⟩,trivial⟩ ⟨RL1,trivial⟩ rfl λi l=>?_;have d:=J3 p r.ins i;refine dw (λh=>?_) (λh=>?_)
 .refine ef (by simpa using h) λy a=>?_;have f:=B8 a;refine dz (λb=>ee a ⟨by simp;omega,⟨by omega,i+1,by omega,(by dsimp only;omega),?_⟩⟩) (λb=>⟨by omega,i+1,by omega,(by dsimp only;omega),?_⟩)
  .refine⟨?_,?_,rfl⟩<;>repeat' (first|exact trivial|with_reducible rfl|exact rfl|refine And.intro ?_ ?_)
   exact eqR (Ej p enI a (by rw[c];exact decide_eq_true b))
  .refine⟨?_,?_,rfl⟩<;>repeat' (first|exact trivial|with_reducible rfl|exact rfl|refine And.intro ?_ ?_)
   exact eqR (J0 p enI a (by rw[c];exact decide_eq_false λj=>j b))
 .rw[ba (by simp at h;omega)] at d⊢;refine⟨by simp;omega,?_⟩;have e:enF (Hr r x)=.agg [.v (.int .i64 r.room),.sl ((r.ins.filter p).map enI++[enI x]),.sl (r.nms.map enN),.sl (r.gens.map enG)]:=by
   unfold Hr enF;rw[c];simp
  rw[e];exact rfl
theorem Zde (r:RFs)(f:Few r)(id:Int):FnV Tryz.prog 148 [enF r,.v (.int .i64 id)] λq=>q=enF (Hq r id):=by
 refine fnG Tryz.func148 ?_;have k:=f.i;obtain⟨p,c⟩:∃p:RIn->Bool,p=λy=>decide (y.id≠id):=⟨_,rfl⟩;refine As [1,2,4] [0,1] (λi:Nat=>[(6,.v (.int .i64 i)),(5,.osl 2)]) (λi=>[(2,.slc (((r.ins.take i).filter p).map enI) 124 9)]) (λi=>i<=r.ins.length) (λi=>r.ins.length - i) 0 (by omega) ⟨⟨rfl,rfl⟩,⟨rfl,rfl⟩,trivial⟩ ⟨RL1,trivial⟩ rfl λi l=>?_;have j:=J3 p r.ins i;refine dw (λh=>?_) (λh=>?_)
 .refine ef (by simpa using h) λy a=>?_;have d:=B8 a;refine dz (λb=>ee a ⟨by simp;omega,⟨by omega,i+1,by omega,(by dsimp only;omega),?_⟩⟩) (λb=>⟨by omega,i+1,by omega,(by dsimp only;omega),?_⟩)
  .refine⟨?_,?_,rfl⟩<;>repeat' (first|exact trivial|with_reducible rfl|exact rfl|refine And.intro ?_ ?_)
   exact eqR (Ej p enI a (by rw[c];exact decide_eq_true b))
  .refine⟨?_,?_,rfl⟩<;>repeat' (first|exact trivial|with_reducible rfl|exact rfl|refine And.intro ?_ ?_)
   exact eqR (J0 p enI a (by rw[c];exact decide_eq_false λg=>g b))
 .rw[ba (by simp at h;omega)];have e:enF (Hq r id)=.agg [.v (.int .i64 r.room),.sl ((r.ins.filter p).map enI),.sl (r.nms.map enN),.sl (r.gens.map enG)]:=by
   unfold Hq enF;rw[c]
  rw[e];exact rfl
theorem Fo (r:RFs)(g:Few r)(dir:Int)(s:ByteArray):FnV Tryz.prog 136 [enF r,.v (.int .i64 dir),.v (.string s)] λq=>q=enF (A7 r dir s):=by
 refine fnG Tryz.func136 ?_;have k:=g.n;obtain⟨p,d⟩:∃p:RNm->Bool,p=λn=>!decide (n.dir=dir/\n.name=s):=⟨_,rfl⟩;refine As [1,2,3,6] [0,1] (λi:Nat=>[(8,.v (.int .i64 i)),(7,.osl 2)]) (λi=>[(2,.slc (((r.nms.take i).filter p).map enN) 230 3)]) (λi=>i<=r.nms.length) (λi=>r.nms.length - i) 0 (by omega) ⟨⟨rfl,rfl⟩,⟨rfl,rfl⟩,trivial⟩ ⟨RL1,trivial⟩ rfl λi l=>?_;have j:=J3 p r.nms i;refine dw (λh=>?_) (λh=>?_)
 .refine ef (by simpa using h) λy c=>?_;have f:=B8 c;refine dz (λa=>?_) (λa=>ee c (EvIf.bneS (λb=>?_) (λb=>⟨by omega,i+1,by omega,(by dsimp only;omega),?_⟩)))
  .refine ee c ⟨by simp;omega,⟨by omega,i+1,by omega,(by dsimp only;omega),?_⟩⟩;refine⟨?_,?_,rfl⟩<;>repeat' (first|exact trivial|with_reducible rfl|exact rfl|refine And.intro ?_ ?_)
   exact eqR (Ej p enN c (by rw[d];have a:¬y.dir=dir:=a;simp[a]))
  .refine ee c ⟨by simp;omega,⟨by omega,i+1,by omega,(by dsimp only;omega),?_⟩⟩;refine⟨?_,?_,rfl⟩<;>repeat' (first|exact trivial|with_reducible rfl|exact rfl|refine And.intro ?_ ?_)
   exact eqR (Ej p enN c (by rw[d];have b:¬y.name=s:=b;simp[b]))
  .refine⟨?_,?_,rfl⟩<;>repeat' (first|exact trivial|with_reducible rfl|exact rfl|refine And.intro ?_ ?_)
   exact eqR (J0 p enN c (by rw[d];have a:y.dir=dir:=a;have b:y.name=s:=b;simp[a,b]))
 .rw[ba (by simp at h;omega)];have e:enF (A7 r dir s)=.agg [.v (.int .i64 r.room),.sl (r.ins.map enI),.sl ((r.nms.filter p).map enN),.sl (r.gens.map enG)]:=by
   unfold A7 enF;rw[d]
  rw[e];exact rfl
theorem Jo {α:Type}{f:α->List G}{sz:Nat}(a:∀x,(f x).length=sz/\(f x).all G.one=true)(l:List α):∀r∈l.map f,r.length=sz/\r.all G.one=true:=λr hr=>by obtain⟨x,-,rfl⟩:=bj.1 hr;exact a x
theorem Id (r:RFs)(a:Few r)(dir:Int)(s:ByteArray)(id:Int):FnV Tryz.prog 132 [enF r,.v (.int .i64 dir),.v (.string s),.v (.int .i64 id)] λq=>q=enF (Ai r dir s id):=by
 refine fnG Tryz.func132 ?_;have b:=a.n;refine⟨Jo (f:=enN) (λx=>⟨rfl,rfl⟩) _,⟨by simp;omega,⟨by simp;omega,?_⟩⟩⟩;have e:enF (Ai r dir s id)=.agg [.v (.int .i64 r.room),.sl (r.ins.map enI),.sl (([]++r.nms.map enN)++[enN ⟨dir,s,id⟩]),.sl (r.gens.map enG)]:=by unfold Ai enF;simp
 rw[e];exact rfl
theorem Dc {r:RFs}(h:Few r)(dir:Int)(s:ByteArray):Few (A7 r dir s):=⟨h.i,co (ah _ _) h.n,h.g⟩
theorem Z0e (r:RFs)(b:Few r)(dir:Int)(s:ByteArray)(c:(A3 r.ins (A2 r.nms dir s)).id=A2 r.nms dir s):FnV Tryz.prog 134 [enF r,.v (.int .i64 dir),.v (.string s)] λq=>q=enF (Av r dir s):=by
 refine fnG Tryz.func134 ?_;have i:=Dc b dir s;have g:FnV Tryz.prog 148 [enF (A7 r dir s),.v (.int .i64 (A3 r.ins (A2 r.nms dir s)).id)] λq=>q=enF (Hq (A7 r dir s) (A2 r.nms dir s)):=by rw[c];exact Zde _ i _
 have f:(A3 r.ins (A2 r.nms dir s)).kind=2\/A5 (A7 r dir s) (A3 r.ins (A2 r.nms dir s))=0->Av r dir s=Hq (A7 r dir s) (A2 r.nms dir s):=λh=>dt h;have l:¬((A3 r.ins (A2 r.nms dir s)).kind=2\/A5 (A7 r dir s) (A3 r.ins (A2 r.nms dir s))=0)->Av r dir s=A7 r dir s:=λh=>dq h;have j:=I8 r b dir s;have d:=Ix r b (A2 r.nms dir s);refine⟨j.cal λq a=>?_,j.cal λq a=>?_⟩<;>subst a
 case' refine_1=>refine⟨d.cal λq a=>?_,d.cal λq a=>?_⟩
 case' refine_2=>refine d.cal λq a=>?_
 all_goals
  subst a;refine(Fo r b dir s).cal λq a=>?_;subst a;refine dv (λh=>?_) (λh=>(M5 _ i _).cal λq a=>?_)
  .refine g.cal λq a=>?_;rw[f (.inl h),a];exact rfl
  .subst a;refine dv (λe=>?_) (λe=>?_)
   .refine g.cal λq a=>?_;rw[f (.inr (by omega)),a];exact rfl
   .rw[l (λk=>k.elim h (λk=>e (by omega)))];exact rfl
theorem Z9b (r:RFs)(k:Few r){K:Nat}(f:Wf r K)(a:Int){x:RIn}(m:x∈r.ins)(c:x.kind=2):FnV Tryz.prog 135 [enF r,.v (.int .i64 x.id),.v (.int .i64 a)] λq=>q=.v (.bool (Bf r x.id a)):=by
 refine fnG Tryz.func135 ?_;obtain⟨ρ,hρ⟩:=f.tree;refine As [2,3] [0] (λy:RIn=>[(1,.v (.int .i64 y.id))]) (λ_=>[]) (λy=>y∈r.ins/\y.kind=2/\Bf r y.id a=Bf r x.id a) (λy=>ρ y.id) x ⟨m,c,rfl⟩ ⟨⟨rfl,rfl⟩,trivial⟩ trivial rfl λy ⟨g,c,hb⟩=>?_;have done:y.id=a\/y.id=1->Bf r x.id a=(y.id==a):=λh=>by
  rw[<-hb];by_cases b:y.id=a
  .rw[b,Pa];simp
  .rcases h with h | h
   .exact du h b
   .rw[h] at b⊢;rw[Ng b];simp[b]
 refine dz (λi=>dz (λd=>(Ix r k _).cal λq n=>?_) (λd=>?_)) (λi=>?_)
 .subst n;obtain⟨p,l,e,j⟩:=f.par y g c;rw[f.byId g];refine⟨p,⟨l,j,?_⟩,?_,?_⟩
  .rw[<-hb,Nq i d,f.byId g,e]
  .show ρ p.id < ρ y.id;rw[e];exact hρ y g c d
  .refine⟨?_,?_,rfl⟩<;>repeat' (first|exact trivial|with_reducible rfl|exact rfl|refine And.intro ?_ ?_)
   exact eqI e.symm
 .rw[done (.inr d)];exact rfl
 .rw[done (.inl i)];exact rfl
theorem M7 (r:RFs)(h:Int × Int)(s:ByteArray):B1 r h s false=if Ab r h≠0 then Ab r h else if Ad s=true then 0 else 176:=by unfold B1;simp
theorem Xj (r:RFs)(h:Int × Int)(s:ByteArray)(fo:Bool):C3 r h s fo=if Ab r h≠0 then(r,Ab r h) else if Ad s=false then(r,176) else if A2 r.nms h.1 s=0 then(r,170)
  else if Fp r (A3 r.ins (A2 r.nms h.1 s)) fo≠0 then(r,Fp r (A3 r.ins (A2 r.nms h.1 s)) fo) else(Av r h.1 s,0):=by
 unfold C3;rw[M7];by_cases a:Ab r h=0<;>cases h2:Ad s<;>simp[a]
theorem Z4z (r:RFs)(h d:Int × Int)(s:ByteArray):E9 r h d s=if Aj r h=false then(r,175) else if Ab r d≠0 then(r,Ab r d) else if Ad s=false then(r,176) else if(A3 r.ins h.1).kind=2 then(r,172)
  else if A2 r.nms d.1 s≠0 then(r,171) else if 20<=A5 r (A3 r.ins h.1) then(r,179) else(Ai r d.1 s h.1,0):=by
 unfold E9;rw[M7];by_cases a:Ab r d=0<;>cases h2:Ad s<;>simp[a]
def Zdv (p:RFs × Int):G:=.tup [enF p.1,.v (.int .i64 p.2)]
theorem Z5r (r:RFs)(c:Few r){K:Nat}(j:Wf r K)(i g:Int)(s:ByteArray)(p:s.size<=maxLen)(fo:Bool):FnV Tryz.prog 110 [enF r,.agg [.v (.int .i64 i),.v (.int .i64 g)],.v (.string s),.v (.bool fo)] λq=>q=Zdv (C3 r (i,g) s fo):=by
 refine fnG Tryz.func110 ?_;rw[Xj];refine(Fv r c i g).cal λq a=>?_;subst a;by_cases d:Ab r (i,g)=0
 case neg=>rw[dt d];exact dz (λ_=>by exact rfl) (λh=>du h d)
 have hid:=Hb d;rw[d,dt rfl,dq (by simp)];refine dz (λh=>du rfl h) λ_=>(Kn s p).cal λq a=>?_;subst a;cases hv:Ad s with
 | false=>exact⟨λ_=>(by rw[dt rfl];exact rfl),λh=>(by cases h)⟩
 | true =>
  rw[dq (by simp)];refine⟨λh=>(by cases h),λ_=>(I8 r c _ s).cal λq a=>?_⟩;rw[hid] at a;subst a;refine dv (fun(h:A2 r.nms i s=0)=>?_) (fun(h:¬A2 r.nms i s=0)=>?_)
  .rw[dt h];exact rfl
  .rw[dq h];obtain⟨n,o,-,-,e⟩:=B5 h;obtain⟨-,y,m,k⟩:=j.nmI n o;have l:A3 r.ins (A2 r.nms i s)=y:=by rw[<-e,<-k];exact j.byId m
   have b:(A3 r.ins (A2 r.nms i s)).id=A2 r.nms i s:=by rw[l,k,e]
   refine(Zaf r c _ fo λ_=>b).cal λq a=>?_;subst a;refine dz (λf=>?_) (λf=>?_)
   .rw[dt f];exact rfl
   .rw[dq (by simpa using f)];have hd:FnV Tryz.prog 134 [enF r,.v (.int .i64 (A3 r.ins i).id),.v (.string s)] λq=>q=enF (Av r i s):=by rw[hid];exact Z0e r c i s b
    refine hd.cal λq a=>?_;subst a;exact rfl
theorem Zdb (r:RFs)(b:Few r)(j c i g:Int)(s:ByteArray)(l:s.size<=maxLen):FnV Tryz.prog 109 [enF r,.agg [.v (.int .i64 j),.v (.int .i64 c)],.agg [.v (.int .i64 i),.v (.int .i64 g)],.v (.string s)] λq=>q=Zdv (E9 r (j,c) (i,g) s):=by
 refine fnG Tryz.func109 ?_;rw[Z4z];refine(Mt r b j c).cal λq a=>?_;subst a;rcases Ia (r:=r) (i:=j) (g:=c) with⟨d,he⟩ | ⟨d,he,-⟩
 case inr=>rw[d,he,dt rfl];exact dz (λ_=>by exact rfl) (λh=>by cases h)
 rw[d,he,dt rfl,dq (by simp)];have k:=(Ac d).2.1;refine dz (λh=>du rfl h) λ_=>(Fv r b i g).cal λq a=>?_;subst a;by_cases e:Ab r (i,g)=0
 case neg=>rw[dt e];exact dz (λ_=>by exact rfl) (λh=>du h e)
 have hid:=Hb e;rw[e,dt rfl,dq (by simp)];refine dz (λh=>du rfl h) λ_=>(Kn s l).cal λq a=>?_;subst a;cases hv:Ad s with
 | false=>exact⟨λ_=>(by rw[dt rfl];exact rfl),λh=>(by cases h)⟩
 | true =>
  rw[dq (by simp)];refine⟨λh=>(by cases h),λ_=>dv (fun(h:(A3 r.ins j).kind=2)=>?_) (fun(h:¬(A3 r.ins j).kind=2)=>(I8 r b _ s).cal λq a=>?_)⟩
  .rw[dt h];exact rfl
  .rw[dq h];rw[hid] at a;subst a;refine dz (λf=>?_) (λf=>(M5 r b (A3 r.ins j)).cal λq a=>?_)
   .rw[dt f];exact rfl
   .rw[dq (by simpa using f)];subst a;refine dw (λm=>?_) (λm=>?_)
    .rw[dt (show 20<=A5 r (A3 r.ins j) by omega)];exact rfl
    .rw[dq (show ¬20<=A5 r (A3 r.ins j) by omega)];have hd:FnV Tryz.prog 132 [enF r,.v (.int .i64 (A3 r.ins i).id),.v (.string s),.v (.int .i64 (A3 r.ins j).id)] λq=>q=enF (Ai r i s j):=by rw[hid,k];exact Id r b i s j
     refine hd.cal λq a=>?_;subst a;exact rfl
theorem X7 (r:RFs)(h:Int × Int)(s:ByteArray)(g:Int × Int)(t:ByteArray):Da r h s g t=if Aj r h=false\/Aj r g=false then(r,175) else if(A3 r.ins h.1).kind≠2\/(A3 r.ins g.1).kind≠2 then(r,173) else if ¬(Ad s=true/\Ad t=true) then(r,176)
  else if A2 r.nms h.1 s=0 then(r,170) else if A2 r.nms h.1 s=A2 r.nms g.1 t then(r,0)
  else if(A3 r.ins (A2 r.nms h.1 s)).kind=2/\Bf r g.1 (A2 r.nms h.1 s)=true then(r,178)
  else if A2 r.nms g.1 t≠0 then
   (if Fp r (A3 r.ins (A2 r.nms g.1 t)) (decide ((A3 r.ins (A2 r.nms h.1 s)).kind=2))≠0 then(r,Fp r (A3 r.ins (A2 r.nms g.1 t)) (decide ((A3 r.ins (A2 r.nms h.1 s)).kind=2)))
    else(Ah (Av r g.1 t) h.1 s g.1 t (A3 r.ins (A2 r.nms h.1 s)),0))
  else if(A3 r.ins (A2 r.nms h.1 s)).kind=2/\h.1≠g.1/\20<=A5 r (A3 r.ins g.1) then(r,179)
  else(Ah r h.1 s g.1 t (A3 r.ins (A2 r.nms h.1 s)),0):=by
 unfold Da Dj;by_cases a:Aj r h=false\/Aj r g=false
 .rw[dt a,dt (by simp),dt a]
 .by_cases b:(A3 r.ins h.1).kind≠2\/(A3 r.ins g.1).kind≠2
  .rw[dq a,dt b,dt (by simp),dq a,dt b]
  .by_cases c:Ad s=true/\Ad t=true
   .rw[dq a,dq b,dt c,dq (show ¬((0:Int)≠0) by simp),dq (show ¬¬(Ad s=true/\Ad t=true) from λh=>h c)];simp only[a,b,if_false]
   .rw[dq a,dq b,dq c,dt (by simp),dq a,dq b,dt c]
theorem Uz {r:RFs}(h:Few r)(d:Int)(u:ByteArray):Few (Av r d u)/\(Av r d u).nms.length<=r.nms.length:=by
 unfold Av;split
 .exact⟨⟨co (ah _ _) h.i,co (ah _ _) h.n,h.g⟩,ah _ _⟩
 .exact⟨Dc h d u,ah _ _⟩
set_option maxHeartbeats 4000000 in
theorem Z49 (r:RFs)(f:Few r){K:Nat}(M:Wf r K)(hK:K<=999999)(i g:Int)(s:ByteArray)(hs:s.size<=maxLen)(j I:Int)(t:ByteArray)(Y:t.size<=maxLen):FnV Tryz.prog 111 [enF r,.agg [.v (.int .i64 i),.v (.int .i64 g),.v (.string s),.v (.int .i64 j),.v (.int .i64 I),.v (.string t)]] λq=>q=Zdv (Da r (i,g) s (j,I) t):=by
 refine fnG Tryz.func111 ?_;obtain⟨X,b⟩:∃X,X=Da r (i,g) s (j,I) t:=⟨_,rfl⟩;rw[<-b];rw[X7] at b;refine(Mt r f i g).cal λq a=>?_;subst a;refine(Mt r f j I).cal λq a=>?_;subst a;rcases Ia (r:=r) (i:=i) (g:=g) with⟨D,he⟩ | ⟨D,he,-⟩
 case inr =>
  rw[dt (.inl D)] at b;rw[D,he,b];exact dz (λ_=>by exact rfl) (λh=>by cases h)
 rcases Ia (r:=r) (i:=j) (g:=I) with⟨p,he2⟩ | ⟨p,he2,-⟩
 case inr =>
  rw[dt (.inr p)] at b;rw[D,he,p,he2,b];exact dz (λh=>du rfl h) (λ_=>dz (λ_=>by exact rfl) (λh=>by cases h))
 rw[D,he,p,he2];rw[dq (by rw[D,p];simp)] at b;refine dz (λh=>du rfl h) (λ_=>dz (λh=>du rfl h) (λ_=>?_));refine(Fv r f i g).cal λq a=>?_;subst a;refine(Fv r f j I).cal λq a=>?_;subst a;have U:∀h:Int × Int,Aj r h=true->Ab r h=if(A3 r.ins h.1).kind=2 then 0 else 173:=λh W=>by unfold Ab;simp[W]
 have H:=U _ D;have L:=U _ p;dsimp only at H L b;by_cases R:(A3 r.ins i).kind=2
 case neg =>
  rw[dq R] at H;rw[dt (.inl R)] at b;rw[H,b];exact dz (λ_=>by exact rfl) (λh=>by cases h)
 rw[dt R] at H;by_cases N:(A3 r.ins j).kind=2
 case neg =>
  rw[dq N] at L;rw[dt (.inr N)] at b;rw[H,L,b];exact dz (λh=>du rfl h) (λ_=>dz (λ_=>by exact rfl) (λh=>by cases h))
 rw[dt N] at L;rw[dq (by omega)] at b;rw[H,L,dt (show(0:Int)=0 from rfl),dt (show(0:Int)=0 from rfl)];have G:(A3 r.ins i).id=i:=(Ac D).2.1;have w:(A3 r.ins j).id=j:=(Ac p).2.1;refine dz (λh=>du rfl h) (λ_=>dz (λh=>du rfl h) (λ_=>?_));refine(Kn s hs).cal λq a=>?_;subst a;cases hv:Ad s with
 | false =>
  rw[dt (by simp[hv])] at b;rw[b];exact⟨λ_=>(by exact rfl),λh=>(by cases h)⟩
 | true =>
 refine⟨λh=>(by cases h),λ_=>(Kn t Y).cal λq a=>?_⟩;subst a;cases hv2:Ad t with
 | false =>
  rw[dt (by simp[hv2])] at b;rw[b];exact⟨λ_=>(by exact rfl),λh=>(by cases h)⟩
 | true =>
 rw[dq (by simp[hv,hv2])] at b;refine⟨λh=>(by cases h),λ_=>(I8 r f _ s).cal λq a=>?_⟩;rw[G] at a;subst a;refine(I8 r f _ t).cal λq a=>?_;rw[w] at a;subst a;refine dv (fun(x:A2 r.nms i s=0)=>?_) (fun(x:¬A2 r.nms i s=0)=>dv (fun(P:A2 r.nms i s=A2 r.nms j t)=>?_) (fun(P:¬A2 r.nms i s=A2 r.nms j t)=>(Ix r f _).cal λq a=>?_))
 .rw[dt x] at b;rw[b];exact rfl
 .rw[dq x,dt P] at b;rw[b];exact rfl
 subst a;rw[dq x,dq P] at b;have c:∀{d:Int} {u:ByteArray},A2 r.nms d u≠0->(A3 r.ins (A2 r.nms d u)).id=A2 r.nms d u:=λh=>by obtain⟨n,hn,-,-,e⟩:=B5 h;obtain⟨-,y,hy,Z⟩:=M.nmI n hn;have O:=M.byId hy;rw[<-e,<-Z,O]
 have hnk:=M.nmK;have T:A3 r.ins j∈r.ins:=(Ac p).1;have C:=Z9b r f M (A2 r.nms i s) T N;rw[w] at C;have C:FnV Tryz.prog 135 [enF r,.v (.int .i64 (A3 r.ins j).id),.v (.int .i64 (A2 r.nms i s))] λq=>q=.v (.bool (Bf r j (A2 r.nms i s))):=by rw[w];exact C
 refine dv (fun(E:(A3 r.ins (A2 r.nms i s)).kind=2)=>C.cal λq a=>?_) (fun(E:¬(A3 r.ins (A2 r.nms i s)).kind=2)=>?_)
 .subst a;cases O:Bf r j (A2 r.nms i s) with
  | true =>
   rw[dt ⟨E,O⟩] at b;rw[b];exact⟨λ_=>(by exact rfl),λh=>(by cases h)⟩
  | false =>
   rw[dq (λh=>by rw[O] at h;cases h.2)] at b;refine⟨λh=>(by cases h),λ_=>?_⟩;refine dz (fun(z:A2 r.nms j t≠0)=>?_) (fun(z:A2 r.nms j t=0)=>?_)
   .rw[dt z] at b;refine(Zaf r f _ ((A3 r.ins (A2 r.nms i s)).kind==2) λ_=>c z).cal λq a=>?_;subst a;refine dz (λA=>?_) (λA=>?_)
    .rw[dt (show Fp r _ (decide _)≠0 from A)] at b;rw[b];exact rfl
    .rw[dq (show ¬Fp r _ (decide _)≠0 from λh=>h A)] at b;have F:FnV Tryz.prog 134 [enF r,.v (.int .i64 (A3 r.ins j).id),.v (.string t)] λq=>q=enF (Av r j t):=by rw[w];exact Z0e r f j t (c z)
     refine F.cal λq a=>?_;subst a;obtain⟨J,Q⟩:=Uz f j t;have m:=Dc J i s;have B:Few (Ai (A7 (Av r j t) i s) j t (A2 r.nms i s)):=⟨m.i,by show((A7 (Av r j t) i s).nms++[_]).length<=1000000;rw[bf];have:=ah (λn:RNm=>!decide (n.dir=i/\n.name=s)) (Av r j t).nms;show(List.filter _ _).length+1<=1000000;omega,m.g⟩;have o:FnV Tryz.prog 136 [enF (Av r j t),.v (.int .i64 (A3 r.ins i).id),.v (.string s)] λq=>q=enF (A7 (Av r j t) i s):=by rw[G];exact Fo _ J i s
     have l:FnV Tryz.prog 132 [enF (A7 (Av r j t) i s),.v (.int .i64 (A3 r.ins j).id),.v (.string t),.v (.int .i64 (A2 r.nms i s))] λq=>q=enF (Ai (A7 (Av r j t) i s) j t (A2 r.nms i s)):=by rw[w];exact Id _ m j t _
     refine o.cal λq a=>?_;subst a;refine l.cal λq a=>?_;subst a;refine dv (λk=>(Ru _ B (upP (A3 r.ins (A2 r.nms i s)) (A3 r.ins j).id)).cal λq a=>?_) (λk=>?_)
     .subst a;have e:Ah (Av r j t) i s j t (A3 r.ins (A2 r.nms i s))=Hr (Ai (A7 (Av r j t) i s) j t (A2 r.nms i s)) (upP (A3 r.ins (A2 r.nms i s)) (A3 r.ins j).id):=by unfold Ah;rw[dt k,c x,w]
      rw[b,e];exact rfl
     .have e:Ah (Av r j t) i s j t (A3 r.ins (A2 r.nms i s))=Ai (A7 (Av r j t) i s) j t (A2 r.nms i s):=by unfold Ah;rw[dq k,c x]
      rw[b,e];exact rfl
   .rw[dq (by simpa using z)] at b;have S:=f.n;refine dv (λ_=>dz (fun(A:(A3 r.ins i).id≠(A3 r.ins j).id)=>(M5 r f _).cal λq a=>?_) (fun(A:(A3 r.ins i).id=(A3 r.ins j).id)=>?_)) (λh=>du E h)
    .subst a;refine dw (λV=>?_) (λV=>?_)
     .rw[dt ⟨E,by omega,by omega⟩] at b;rw[b];exact rfl
     .rw[dq (λh=>by have:=h.2.2;omega)] at b;have m:=Dc f i s;have B:Few (Ai (A7 r i s) j t (A2 r.nms i s)):=⟨m.i,by show((A7 r i s).nms++[_]).length<=1000000;rw[bf];have:=ah (λn:RNm=>!decide (n.dir=i/\n.name=s)) (r).nms;show(List.filter _ _).length+1<=1000000;omega,m.g⟩;have o:FnV Tryz.prog 136 [enF (r),.v (.int .i64 (A3 r.ins i).id),.v (.string s)] λq=>q=enF (A7 (r) i s):=by rw[G];exact Fo _ f i s
      have l:FnV Tryz.prog 132 [enF (A7 (r) i s),.v (.int .i64 (A3 r.ins j).id),.v (.string t),.v (.int .i64 (A2 r.nms i s))] λq=>q=enF (Ai (A7 (r) i s) j t (A2 r.nms i s)):=by rw[w];exact Id _ m j t _
      refine o.cal λq a=>?_;subst a;refine l.cal λq a=>?_;subst a;refine dv (λk=>(Ru _ B (upP (A3 r.ins (A2 r.nms i s)) (A3 r.ins j).id)).cal λq a=>?_) (λk=>?_)
      .subst a;have e:Ah (r) i s j t (A3 r.ins (A2 r.nms i s))=Hr (Ai (A7 (r) i s) j t (A2 r.nms i s)) (upP (A3 r.ins (A2 r.nms i s)) (A3 r.ins j).id):=by unfold Ah;rw[dt k,c x,w]
       rw[b,e];exact rfl
      .have e:Ah (r) i s j t (A3 r.ins (A2 r.nms i s))=Ai (A7 (r) i s) j t (A2 r.nms i s):=by unfold Ah;rw[dq k,c x]
       rw[b,e];exact rfl
    .rw[dq (λh=>by have:=h.2.1;omega)] at b;have m:=Dc f i s;have B:Few (Ai (A7 r i s) j t (A2 r.nms i s)):=⟨m.i,by show((A7 r i s).nms++[_]).length<=1000000;rw[bf];have:=ah (λn:RNm=>!decide (n.dir=i/\n.name=s)) (r).nms;show(List.filter _ _).length+1<=1000000;omega,m.g⟩;have o:FnV Tryz.prog 136 [enF (r),.v (.int .i64 (A3 r.ins i).id),.v (.string s)] λq=>q=enF (A7 (r) i s):=by rw[G];exact Fo _ f i s
     have l:FnV Tryz.prog 132 [enF (A7 (r) i s),.v (.int .i64 (A3 r.ins j).id),.v (.string t),.v (.int .i64 (A2 r.nms i s))] λq=>q=enF (Ai (A7 (r) i s) j t (A2 r.nms i s)):=by rw[w];exact Id _ m j t _
     refine o.cal λq a=>?_;subst a;refine l.cal λq a=>?_;subst a;refine dv (λk=>(Ru _ B (upP (A3 r.ins (A2 r.nms i s)) (A3 r.ins j).id)).cal λq a=>?_) (λk=>?_)
     .subst a;have e:Ah (r) i s j t (A3 r.ins (A2 r.nms i s))=Hr (Ai (A7 (r) i s) j t (A2 r.nms i s)) (upP (A3 r.ins (A2 r.nms i s)) (A3 r.ins j).id):=by unfold Ah;rw[dt k,c x,w]
      rw[b,e];exact rfl
     .have e:Ah (r) i s j t (A3 r.ins (A2 r.nms i s))=Ai (A7 (r) i s) j t (A2 r.nms i s):=by unfold Ah;rw[dq k,c x]
      rw[b,e];exact rfl
 .rw[dq (λh=>E h.1)] at b;refine dz (fun(z:A2 r.nms j t≠0)=>?_) (fun(z:A2 r.nms j t=0)=>?_)
  .rw[dt z] at b;refine(Zaf r f _ ((A3 r.ins (A2 r.nms i s)).kind==2) λ_=>c z).cal λq a=>?_;subst a;refine dz (λA=>?_) (λA=>?_)
   .rw[dt (show Fp r _ (decide _)≠0 from A)] at b;rw[b];exact rfl
   .rw[dq (show ¬Fp r _ (decide _)≠0 from λh=>h A)] at b;have F:FnV Tryz.prog 134 [enF r,.v (.int .i64 (A3 r.ins j).id),.v (.string t)] λq=>q=enF (Av r j t):=by rw[w];exact Z0e r f j t (c z)
    refine F.cal λq a=>?_;subst a;obtain⟨J,Q⟩:=Uz f j t;have m:=Dc J i s;have B:Few (Ai (A7 (Av r j t) i s) j t (A2 r.nms i s)):=⟨m.i,by show((A7 (Av r j t) i s).nms++[_]).length<=1000000;rw[bf];have:=ah (λn:RNm=>!decide (n.dir=i/\n.name=s)) (Av r j t).nms;show(List.filter _ _).length+1<=1000000;omega,m.g⟩;have o:FnV Tryz.prog 136 [enF (Av r j t),.v (.int .i64 (A3 r.ins i).id),.v (.string s)] λq=>q=enF (A7 (Av r j t) i s):=by rw[G];exact Fo _ J i s
    have l:FnV Tryz.prog 132 [enF (A7 (Av r j t) i s),.v (.int .i64 (A3 r.ins j).id),.v (.string t),.v (.int .i64 (A2 r.nms i s))] λq=>q=enF (Ai (A7 (Av r j t) i s) j t (A2 r.nms i s)):=by rw[w];exact Id _ m j t _
    refine o.cal λq a=>?_;subst a;refine l.cal λq a=>?_;subst a;refine dv (λk=>(Ru _ B (upP (A3 r.ins (A2 r.nms i s)) (A3 r.ins j).id)).cal λq a=>?_) (λk=>?_)
    .subst a;have e:Ah (Av r j t) i s j t (A3 r.ins (A2 r.nms i s))=Hr (Ai (A7 (Av r j t) i s) j t (A2 r.nms i s)) (upP (A3 r.ins (A2 r.nms i s)) (A3 r.ins j).id):=by unfold Ah;rw[dt k,c x,w]
     rw[b,e];exact rfl
    .have e:Ah (Av r j t) i s j t (A3 r.ins (A2 r.nms i s))=Ai (A7 (Av r j t) i s) j t (A2 r.nms i s):=by unfold Ah;rw[dq k,c x]
     rw[b,e];exact rfl
  .rw[dq (by simpa using z)] at b;have S:=f.n;refine dv (λh=>du h E) (λ_=>?_);rw[dq (λh=>E h.1)] at b;have m:=Dc f i s;have B:Few (Ai (A7 r i s) j t (A2 r.nms i s)):=⟨m.i,by show((A7 r i s).nms++[_]).length<=1000000;rw[bf];have:=ah (λn:RNm=>!decide (n.dir=i/\n.name=s)) (r).nms;show(List.filter _ _).length+1<=1000000;omega,m.g⟩;have o:FnV Tryz.prog 136 [enF (r),.v (.int .i64 (A3 r.ins i).id),.v (.string s)] λq=>q=enF (A7 (r) i s):=by rw[G];exact Fo _ f i s
   have l:FnV Tryz.prog 132 [enF (A7 (r) i s),.v (.int .i64 (A3 r.ins j).id),.v (.string t),.v (.int .i64 (A2 r.nms i s))] λq=>q=enF (Ai (A7 (r) i s) j t (A2 r.nms i s)):=by rw[w];exact Id _ m j t _
   refine o.cal λq a=>?_;subst a;refine l.cal λq a=>?_;subst a;refine dv (λk=>(Ru _ B (upP (A3 r.ins (A2 r.nms i s)) (A3 r.ins j).id)).cal λq a=>?_) (λk=>?_)
   .subst a;have e:Ah (r) i s j t (A3 r.ins (A2 r.nms i s))=Hr (Ai (A7 (r) i s) j t (A2 r.nms i s)) (upP (A3 r.ins (A2 r.nms i s)) (A3 r.ins j).id):=by unfold Ah;rw[dt k,c x,w]
    rw[b,e];exact rfl
   .have e:Ah (r) i s j t (A3 r.ins (A2 r.nms i s))=Ai (A7 (r) i s) j t (A2 r.nms i s):=by unfold Ah;rw[dq k,c x]
    rw[b,e];exact rfl
def Z4y (B:List UInt8)(On:List Nat):G:=.agg [.sl (B.map gBy),.sl (On.map gNu)]
structure Zaw (B:List UInt8)(On:List Nat):Prop where
 b:B.length<=1048576
 o:On.length<=65536
theorem Z7i (a:Int)(n:Nat):FnV Tryz.prog 149 [.v (.int .i64 a),.v (.int .i64 n)] λq=>q=.v (.bool (D5 a n)):=by
 refine fnG Tryz.func149 ?_;unfold D5;refine dw (λh=>?_) (λh=>?_)
 .refine dw (λc=>?_) (λc=>?_)
  .refine⟨by omega,?_⟩;have:decide (0<=a/\n<=1048576/\a<=1048576 - n)=decide (a<=1048576 - (n:Int)):=decide_eq_decide.2 ⟨λh=>h.2.2,λb=>⟨h,by omega,b⟩⟩;rw[this];exact rfl
  .rw[decide_eq_false (by omega)];exact rfl
 .rw[decide_eq_false (by omega)];exact rfl
theorem Zh8 (B:List UInt8)(On:List Nat)(e:Zaw B On)(k:Nat):FnV Tryz.prog 151 [Z4y B On,.v (.int .i64 k)] λq=>q=.v (.bool (decide (k∈On))):=by
 refine fnG Tryz.func151 ?_;have g:=e.o;refine As [1,2] [0] (λi:Nat=>[(5,.v (.int .i64 i))]) (λ_=>[]) (λi=>i<=On.length/\∀x∈On.take i,¬x=k) (λi=>On.length - i) 0 ⟨by omega,by simp⟩ ⟨⟨rfl,rfl⟩,trivial⟩ trivial rfl λi ⟨j,hno⟩=>?_;refine dw (λh=>?_) (λh=>?_)
 .refine ef (by simpa using h) λx b=>?_;have c:=B8 b;refine dv (λd=>?_) (λd=>?_)
  .have a:x=k:=by omega
   rw[decide_eq_true (p:=k∈On) (a ▸ ar b)];exact rfl
  .have a:¬x=k:=by omega
   refine⟨by omega,i+1,⟨by omega,Qa b hno a⟩,(by dsimp only;omega),?_⟩;refine⟨?_,?_,rfl⟩<;>repeat' (first|exact trivial|with_reducible rfl|exact rfl|refine And.intro ?_ ?_)
 .have a:=Le (by simpa using h) hno;rw[decide_eq_false (p:=k∈On) (λf=>a k f rfl)];exact rfl
def wS (k:Nat)(l:List Nat)(i:Nat):List Nat × Bool:=(l.take i).foldl (wst k) ([],false)
theorem Z0m {k:Nat}{l:List Nat}{i x:Nat}(h:l[i]?=some x):wS k l (i+1)=wst k (wS k l i) x:=by unfold wS;rw[Bb h,List.foldl_append];rfl
theorem Zcf (k:Nat)(l:List Nat)(i:Nat)(a:i<=l.length):(wS k l i).1.length<=2 * i:=by
 induction i with
 | zero=>simp[wS]
 | succ i ih =>
  rw[Z0m (ap (by omega))];have:=ih (by omega);unfold wst;simp only[List.length_append];split<;>split<;>simp<;>omega
theorem Zdm (l:List Nat)(o:l.length<=4000000)(k:Nat):FnV Tryz.prog 150 [.sl (l.map gNu),.v (.int .i64 k)] λq=>q=.sl ((Np k l).map gNu):=by
 refine fnG Tryz.func150 ?_;refine As [0,1] [] (λp:Nat × List Nat × Bool=>[(7,.v (.int .i64 p.1)),(6,gB p.2.2),(5,.osl 1)]) (λp=>[(1,.slc (p.2.1.map gNu) 3 1)]) (λp=>p.1<=l.length/\wS k l p.1=p.2) (λp=>l.length - p.1) (0,[],false) ⟨by simp,rfl⟩ ⟨⟨rfl,rfl⟩,⟨rfl,rfl⟩,⟨rfl,rfl⟩,trivial⟩ ⟨RL1,trivial⟩ rfl λp ⟨m,hs⟩=>?_;obtain⟨i,out,d⟩:=p;dsimp only at m hs;have f:=Zcf k l i m;rw[hs] at f;dsimp only at f;refine dw (λh=>?_) (λh=>?_)
 .obtain⟨x,b⟩:∃x,l[i]?=some x:=⟨_,ap (by simpa using h)⟩;have a:=Z0m (k:=k) b;rw[hs] at a;have n:=B8 b;cases d with
  | false =>
   refine ee b (dw (fun(j:(x:Int) >= k)=>?_) (fun(j:¬(x:Int) >= k)=>?_))
   .refine⟨by simp;omega,ee b (dz (fun(c:(x:Int)≠k)=>ee b ⟨by simp;omega,⟨by omega,(i+1,out++[k]++[x],true),⟨by dsimp only;omega,a.trans ?_⟩,(by dsimp only;omega),?_⟩⟩) (fun(c:(x:Int)=k)=>⟨by omega,(i+1,out++[k],true),⟨by dsimp only;omega,a.trans ?_⟩,(by dsimp only;omega),?_⟩))⟩
    .unfold wst;rw[dt ⟨rfl,by omega⟩,dq (by omega),decide_eq_true (by omega)];rfl
    .refine⟨?_,?_,rfl⟩<;>repeat' (first|exact trivial|with_reducible rfl|exact rfl|refine And.intro ?_ ?_)
     exact eqR (by simp[gNu])
    .unfold wst;rw[dt ⟨rfl,by omega⟩,dt (by omega),decide_eq_true (by omega)];simp
    .refine⟨?_,?_,rfl⟩<;>repeat' (first|exact trivial|with_reducible rfl|exact rfl|refine And.intro ?_ ?_)
     exact eqR (by simp[gNu])
   .refine ee b (dz (fun(c:(x:Int)≠k)=>ee b ⟨by simp;omega,⟨by omega,(i+1,out++[x],false),⟨by dsimp only;omega,a.trans ?_⟩,(by dsimp only;omega),?_⟩⟩) (fun(c:(x:Int)=k)=>du (show(x:Int) >= k by omega) j))
    .unfold wst;rw[dq (by simp;omega),dq (by omega),decide_eq_false (by omega)];simp
    .refine⟨?_,?_,rfl⟩<;>repeat' (first|exact trivial|with_reducible rfl|exact rfl|refine And.intro ?_ ?_)
     exact eqR (by simp[gNu])
  | true =>
   refine ee b (dz (fun(c:(x:Int)≠k)=>ee b ⟨by simp;omega,⟨by omega,(i+1,out++[x],true),⟨by dsimp only;omega,a.trans ?_⟩,(by dsimp only;omega),?_⟩⟩) (fun(c:(x:Int)=k)=>⟨by omega,(i+1,out,true),⟨by dsimp only;omega,a.trans ?_⟩,(by dsimp only;omega),?_⟩))
   .unfold wst;rw[dq (by simp),dq (by omega)];simp
   .refine⟨?_,?_,rfl⟩<;>repeat' (first|exact trivial|with_reducible rfl|exact rfl|refine And.intro ?_ ?_)
    exact eqR (by simp[gNu])
   .unfold wst;rw[dq (by simp),dt (by omega)];simp
   .refine⟨?_,?_,rfl⟩<;>repeat' (first|exact trivial|with_reducible rfl|exact rfl|refine And.intro ?_ ?_)
 .have g:Z7b k (out,d)=Np k l:=by
   have:=R2 k l [];unfold wS at hs;rw[ba (by simp at h;omega)] at hs;rw[hs] at this;simpa using this
  rw[<-g];cases d with
  | false =>
   have e:(Z7b k (out,false)).map gNu=out.map gNu++[[.v (.int .i64 k)]]:=by simp[Z7b,gNu]
   rw[e];exact⟨by simp;omega,rfl⟩
  | true=>exact rfl
theorem Z8f (B:List UInt8)(On:List Nat)(g:Zaw B On)(a n:Int):FnV Tryz.prog 141 [Z4y B On,.v (.int .i64 a),.v (.int .i64 n)] λq=>q=.sl ((Er B a n).map gBy):=by
 refine fnG Tryz.func141 ?_;have o:=g.b;unfold Er Ni;refine dw (λf=>?_) (λf=>?_)
 .rw[decide_eq_false (p:=0<=a/\0<=n/\a < B.length) (by omega)];exact rfl
 refine dw (λh=>?_) (λh=>?_)
 .rw[decide_eq_false (p:=0<=a/\0<=n/\a < B.length) (by omega)];exact rfl
 refine dw (λe=>?_) (λe=>?_)
 .rw[ao] at e;rw[decide_eq_false (p:=0<=a/\0<=n/\a < B.length) (by omega)];exact rfl
 rw[ao] at e;rw[decide_eq_true (p:=0<=a/\0<=n/\a < B.length) (by omega),dt rfl];have key:∀m:Int,0<=m->(m=n\/B.length - a=m/\m<=n)->((B.drop a.toNat).take n.toNat).map gBy=Fr (B.map gBy) a.toNat (a+m).toNat:=λm j d=>by
  unfold Fr;rw[List.drop_take,<-List.map_drop,<-dh]
  congr 1
  rcases d with rfl | ⟨k,h6⟩
  .rw[show(a+m).toNat - a.toNat=m.toNat by omega]
  .rw[ba (by simp;omega),ba (by simp;omega)]
 have c:∀r∈B.map gBy,r.length=1:=λr hr=>by obtain⟨x,-,rfl⟩:=bj.1 hr;rfl
 have l:((B.map gBy).length:Int)=B.length:=by rw[ao]
 refine⟨by omega,dw (λi=>?_) (λi=>?_)⟩
 .rw[key ((B.map gBy).length - a) (by omega) (.inr ⟨by omega,by omega⟩)];exact⟨by omega,⟨by omega,⟨⟨by omega,by omega,by omega⟩,⟨c,rfl⟩⟩⟩⟩
 .rw[key n (by omega) (.inl rfl)];exact⟨by omega,⟨⟨by omega,by omega,by omega⟩,⟨c,rfl⟩⟩⟩
theorem Z05 {a:Int}{i:Nat}(h:0<=a):(a+i).tdiv 16=(((a.toNat+i) / 16:Nat):Int):=by obtain⟨k,rfl⟩:=al h;rfl
theorem Z7l {a:Int}{i:Nat}(h:0<=a):(a+i).tmod 16=(((a.toNat+i) % 16:Nat):Int):=by obtain⟨k,rfl⟩:=al h;rfl
def ndB (On:List Nat)(a:Int)(i:Nat):Bool:=Gu a.toNat i&&!decide ((a.toNat+i) / 16∈On)
theorem Zbh (B:List UInt8)(On:List Nat)(s:Zaw B On)(a:Int)(b:List UInt8)(x:b.length<=maxLen):FnV Tryz.prog 139 [Z4y B On,.v (.int .i64 a),.sl (b.map gBy)] λq=>q=.v (.int .i64 (H8 On a b.length:Int)):=by
 refine fnG Tryz.func139 ?_;unfold maxLen at x;have o:=Z7i a b.length;rw[<-ao (f:=gBy)] at o;have w:(b.map gBy).length=b.length:=ao _;refine As [1,2,3] [0] (λi:Nat=>[(8,.v (.int .i64 i)),(7,.v (.int .i64 ((List.range i).countP (ndB On a):Int)))]) (λ_=>[]) (λi=>i<=b.length/\(0 < i->D5 a b.length=true)) (λi=>b.length - i) 0 ⟨by omega,λh=>by omega⟩ ⟨⟨rfl,rfl⟩,⟨rfl,rfl⟩,trivial⟩ trivial rfl λi ⟨z,hfi⟩=>?_;have A:(List.range i).countP (ndB On a)<=i:=co List.countP_le_length (by simp);have m:(List.range (i+1)).countP (ndB On a)=(List.range i).countP (ndB On a)+if ndB On a i=true then 1 else 0:=by rw[List.range_succ,List.countP_append];simp[List.countP_cons]
 have d:¬i < b.length\/D5 a b.length=false->(List.range i).countP (ndB On a)=H8 On a b.length:=λh=>by
  unfold H8;cases hf:D5 a b.length with
  | false =>
   have:i=0:=by
    rcases ak i with p | p
    .exact p
    .have:=hfi p;rw[hf] at this;cases this
   rw[this,dq (by simp)];rfl
  | true =>
   rw[dt rfl];have:i=b.length:=by
    rcases h with h | h
    .omega
    .rw[hf] at h;cases h
   rw[this];rfl
 refine dw (λh=>o.cal λq k=>?_) (λh=>?_)
 .subst k;rw[w];cases hf:D5 a b.length with
  | false=>exact⟨λh=>(by cases h),λ_=>(by rw[d (.inr hf)];exact rfl)⟩
  | true =>
   refine⟨λ_=>?_,λh=>(by cases h)⟩;have g:0<=a/\b.length<=1048576/\a<=1048576 - b.length:=of_decide_eq_true hf;have l:FnV Tryz.prog 151 [Z4y B On,.v (.int .i64 ((a+i).tdiv 16))] λq=>q=.v (.bool (decide ((a.toNat+i) / 16∈On))):=by rw[Z05 g.1];exact Zh8 B On s _
   have y:=Z7l (i:=i) g.1;have hd:=Z05 (i:=i) g.1;have u:i < b.length:=by omega
   have yes:ndB On a i=true->(List.range (i+1)).countP (ndB On a)=(List.range i).countP (ndB On a)+1:=λh=>by rw[m,dt h]
   have no:ndB On a i=false->(List.range (i+1)).countP (ndB On a)=(List.range i).countP (ndB On a):=λh=>by rw[m,h];rfl
   have c:i+1<=b.length/\(0 < i+1->true=true):=⟨by omega,λ_=>rfl⟩;have j:(i=0\/(a.toNat+i) % 16=0)->ndB On a i=!decide ((a.toNat+i) / 16∈On):=λh=>by unfold ndB Gu;rw[decide_eq_true h,Bool.true_and]
   refine dv (λr=>⟨by omega,⟨by omega,⟨by omega,l.cal λq k=>?_⟩⟩⟩) (λr=>⟨by omega,⟨by omega,dv (λt=>⟨by omega,⟨by omega,⟨by omega,l.cal λq k=>?_⟩⟩⟩) (λt=>?_)⟩⟩)
   .subst k;have n:=j (.inl (by omega));refine⟨λe=>⟨by omega,⟨by omega,i+1,c,(by dsimp only;omega),?_⟩⟩,λe=>⟨by omega,i+1,c,(by dsimp only;omega),?_⟩⟩
    .refine⟨?_,?_,rfl⟩<;>repeat' (first|exact trivial|with_reducible rfl|exact rfl|refine And.intro ?_ ?_)
     exact Zds (yes (n.trans e))
    .refine⟨?_,?_,rfl⟩<;>repeat' (first|exact trivial|with_reducible rfl|exact rfl|refine And.intro ?_ ?_)
     exact eqN (no (n.trans e))
   .subst k;have n:=j (.inr (by omega));refine⟨λe=>⟨by omega,⟨by omega,i+1,c,(by dsimp only;omega),?_⟩⟩,λe=>⟨by omega,i+1,c,(by dsimp only;omega),?_⟩⟩
    .refine⟨?_,?_,rfl⟩<;>repeat' (first|exact trivial|with_reducible rfl|exact rfl|refine And.intro ?_ ?_)
     exact Zds (yes (n.trans e))
    .refine⟨?_,?_,rfl⟩<;>repeat' (first|exact trivial|with_reducible rfl|exact rfl|refine And.intro ?_ ?_)
     exact eqN (no (n.trans e))
   .refine⟨by omega,i+1,c,(by dsimp only;omega),?_⟩;refine⟨?_,?_,rfl⟩<;>repeat' (first|exact trivial|with_reducible rfl|exact rfl|refine And.intro ?_ ?_)
    exact eqN (no (by unfold ndB Gu;rw[decide_eq_false (by omega)];rfl))
 .rw[d (.inl (by omega))];exact rfl
def gtS (x s:ByteArray):Bool:=!(Op.bytesLess x.toList s.toList||x.toList==s.toList)
def Sf (s:ByteArray)(p:List ByteArray × Bool)(x:ByteArray):List ByteArray × Bool:=(p.1++(if p.2=false/\gtS x s=true then [s] else [])++[x],p.2||gtS x s)
def Zav (s:ByteArray)(out:List ByteArray):List ByteArray:=if(out.foldl (Sf s) ([],false)).2=true then(out.foldl (Sf s) ([],false)).1 else(out.foldl (Sf s) ([],false)).1++[s]
def N4 (d:Int)(out:List ByteArray)(n:RNm):List ByteArray:=if n.dir=d then Zav n.name out else out
def Fd (r:RFs)(h:Int × Int):List ByteArray:=if Ab r h=0 then r.nms.foldl (N4 h.1) [] else []
theorem Z2j (s:ByteArray)(out:List ByteArray)(i:Nat)(a:i<=out.length):((out.take i).foldl (Sf s) ([],false)).1.length+(if((out.take i).foldl (Sf s) ([],false)).2=true then 0 else 1)=i+1:=by
 induction i with
 | zero=>simp
 | succ i ih =>
  rw[Kl _ _ (ap (by omega))];have:=ih (by omega);revert this;generalize (out.take i).foldl (Sf s) ([],false)=p;obtain⟨l,d⟩:=p;intro this;unfold Sf;dsimp only at this⊢;simp only[List.length_append,List.length_singleton];cases d<;>cases hg:gtS out[i] s<;>simp at this⊢<;>omega
theorem Zdc (r:RFs)(B:Few r)(i g:Int):FnV Tryz.prog 116 [enF r,.agg [.v (.int .i64 i),.v (.int .i64 g)]] λq=>q=.tup [.sl ((Fd r (i,g)).map gSt),.v (.int .i64 (Ab r (i,g)))]:=by
 refine fnG Tryz.func116 ?_;have H:=B.n;refine(Fv r B i g).cal λq o=>?_;subst o;refine As [2,3,6,7] [0,1,3] (λp:Nat × List ByteArray=>[(9,.v (.int .i64 p.1)),(8,.osl 4)]) (λp=>[(4,.slc (p.2.map gSt) 9 1)]) (λp=>p.1<=r.nms.length/\(r.nms.take p.1).foldl (N4 i) []=p.2/\p.2.length<=p.1/\(0 < p.1->Ab r (i,g)=0)) (λp=>r.nms.length - p.1) (0,[]) ⟨by simp,rfl,by simp,λh=>by simp at h⟩ ⟨⟨rfl,rfl⟩,⟨rfl,rfl⟩,trivial⟩ ⟨RL1,trivial⟩ rfl λp ⟨G,hp,hpl,hpf⟩=>?_;obtain⟨k,out⟩:=p;dsimp only at G hp hpl hpf;refine dw (λh=>dv (fun(b:Ab r (i,g)=0)=>?_) (fun(b:¬Ab r (i,g)=0)=>?_)) (λh=>?_)
 .refine ef (by simpa using h) λx w=>?_;have hid:=Hb b;have E:=B8 w;have s:=Kl (N4 i) [] w;rw[hp] at s;rw[dt b];refine dz (fun(l:x.dir≠(A3 r.ins i).id)=>?_) (fun(l:x.dir=(A3 r.ins i).id)=>ee w ?_)
  .refine⟨by omega,(k+1,out),⟨by dsimp only;omega,s.trans (dq (by omega)),by dsimp only;omega,λ_=>b⟩,(by dsimp only;omega),?_⟩;refine⟨?_,?_,rfl⟩<;>repeat' (first|exact trivial|with_reducible rfl|exact rfl|refine And.intro ?_ ?_)
  .have m:(r.nms.take (k+1)).foldl (N4 i) []=Zav x.name out:=s.trans (dt (by omega));refine As [2,3,6,7,8,9,10] [0,1,3,4] (λp:Nat × List ByteArray × Bool=>[(13,.v (.int .i64 p.1)),(12,gB p.2.2),(11,.osl 5)]) (λp=>[(5,.slc (p.2.1.map gSt) 9 1)]) (λp=>p.1<=out.length/\(out.take p.1).foldl (Sf x.name) ([],false)=p.2) (λp=>out.length - p.1) (0,[],false) ⟨by simp,rfl⟩ ⟨⟨rfl,rfl⟩,⟨rfl,rfl⟩,⟨rfl,rfl⟩,trivial⟩ ⟨RL1,trivial⟩ rfl λp ⟨A,o⟩=>?_;obtain⟨j,nx,d⟩:=p;dsimp only at A o;have a:=Z2j x.name out j A;rw[o] at a;dsimp only at a;have C:nx.length<=j+1:=by split at a<;>omega
   refine dw (λz=>?_) (λz=>?_)
   .obtain⟨y,t⟩:∃y,out[j]?=some y:=⟨_,ap (by simpa using z)⟩;have c:=Kl (Sf x.name) ([],false) t;rw[o] at c;have D:=B8 t;have rg:0<=(j:Int)/\(j:Int) < (out.map gSt).length:=⟨by omega,by simp;omega⟩;cases d with
    | false =>
     refine⟨rg,ee t ?_⟩;refine⟨λf=>?_,λf=>?_⟩
     .have f:gtS y x.name=true:=f;refine⟨by simp;omega,⟨rg,ee t ?_⟩⟩;refine⟨by simp;omega,⟨by omega,(j+1,nx++[x.name]++[y],true),⟨by dsimp only;omega,c.trans ?_⟩,(by dsimp only;omega),?_⟩⟩
      .unfold Sf;rw[dt ⟨rfl,f⟩,f];rfl
      .refine⟨?_,?_,rfl⟩<;>repeat' (first|exact trivial|with_reducible rfl|exact rfl|refine And.intro ?_ ?_)
       exact eqR (by simp[gSt])
     .have f:gtS y x.name=false:=f;refine⟨rg,ee t ?_⟩;refine⟨by simp;omega,⟨by omega,(j+1,nx++[y],false),⟨by dsimp only;omega,c.trans ?_⟩,(by dsimp only;omega),?_⟩⟩
      .unfold Sf;rw[dq (by simp[f]),f];simp
      .refine⟨?_,?_,rfl⟩<;>repeat' (first|exact trivial|with_reducible rfl|exact rfl|refine And.intro ?_ ?_)
       exact eqR (by simp[gSt])
    | true =>
     refine⟨rg,ee t ?_⟩;refine⟨by simp;omega,⟨by omega,(j+1,nx++[y],true),⟨by dsimp only;omega,c.trans ?_⟩,(by dsimp only;omega),?_⟩⟩
     .unfold Sf;rw[dq (by simp)];simp
     .refine⟨?_,?_,rfl⟩<;>repeat' (first|exact trivial|with_reducible rfl|exact rfl|refine And.intro ?_ ?_)
      exact eqR (by simp[gSt])
   .have F:j=out.length:=by simp at z;omega
    rw[ba (by omega)] at o;have u:Zav x.name out=if d=true then nx else nx++[x.name]:=by unfold Zav;rw[o]
    cases d with
    | false =>
     refine⟨by simp;omega,⟨by omega,(k+1,nx++[x.name]),⟨by dsimp only;omega,m.trans u,?_,λ_=>b⟩,(by dsimp only;omega),?_⟩⟩
     .simp at a⊢;omega
     .refine⟨?_,?_,rfl⟩<;>repeat' (first|exact trivial|with_reducible rfl|exact rfl|refine And.intro ?_ ?_)
      exact eqR (by simp[gSt])
    | true =>
     refine⟨by omega,(k+1,nx),⟨by dsimp only;omega,m.trans u,?_,λ_=>b⟩,(by dsimp only;omega),?_⟩
     .simp at a⊢;omega
     .refine⟨?_,?_,rfl⟩<;>repeat' (first|exact trivial|with_reducible rfl|exact rfl|refine And.intro ?_ ?_)
 .have:k=0:=by
   rcases ak k with l | l
   .exact l
   .exact du (hpf l) b
  subst this;have:out=[]:=ay (by omega);subst this;have e:Fd r (i,g)=[]:=dq b;rw[e];exact rfl
 .have I:k=r.nms.length:=by simp at h;omega
  rw[ba (by omega)] at hp;have e:Fd r (i,g)=out:=by
   unfold Fd;split
   .exact hp
   .rename_i b
    rcases ak k with l | l
    .have:out=[]:=ay (by omega);exact this.symm
    .exact du (hpf l) b
  rw[e];exact rfl
theorem Zev (room:Int):FnV Tryz.prog 50 [.v (.int .i64 room)] λq=>q=enF (Et room):=by refine fnG Tryz.func50 ?_;exact rfl
def P3 (r:RFs)(i:Nat):Nat:=((r.ins.take i).map λx=>x.On.length).sum
theorem Yt {r:RFs}{i:Nat}{x:RIn}(h:r.ins[i]?=some x):P3 r (i+1)=P3 r i+x.On.length:=by unfold P3;rw[Bb h];simp
theorem Z2i (r:RFs)(i:Nat):P3 r i<=Do r:=by
 unfold P3 Do;have:r.ins=r.ins.take i++r.ins.drop i:=(dj i r.ins).symm
 conv=>rhs;rw[this,az,List.sum_append]
 omega
theorem Z78 (r:RFs)(d:Few r){K:Nat}(a:Wf r K):FnV Tryz.prog 54 [enF r] λq=>q=.v (.int .i64 (Kh r)):=by
 refine fnG Tryz.func54 ?_;have e:=a.rm;have g:(Do r:Int)<=r.room:=a.sp;refine As [1,2] [0] (λi:Nat=>[(4,.v (.int .i64 i)),(3,.v (.int .i64 (r.room - P3 r i)))]) (λ_=>[]) (λi=>i<=r.ins.length) (λi=>r.ins.length - i) 0 (by omega) ⟨⟨rfl,rfl⟩,⟨rfl,eqI (by simp[P3])⟩,trivial⟩ trivial rfl λi m=>?_;have k:=Z2i r i;have l:=d.i;refine dw (λh=>?_) (λh=>?_)
 .refine ef (by simpa using h) λx b=>?_;have j:=Yt b;have f:=Z2i r (i+1);have c:=B8 b;refine⟨?_,?_⟩
  .simp;omega
  refine⟨by omega,i+1,by omega,(by dsimp only;omega),?_⟩;refine⟨?_,?_,rfl⟩<;>repeat' (first|exact trivial|with_reducible rfl|exact rfl|refine And.intro ?_ ?_)
  exact eqI (by simp;omega)
 .have:r.room - (P3 r i:Int)=Kh r:=by unfold Kh Do P3;rw[ba (by simp at h;omega)]
  rw[this];exact rfl
def Ya (r:RFs)(h:Int × Int):G:=if Aj r h=true then .tup [.agg [.v (.int .i64 h.1),.v (.int .i64 h.2),.v (.int .i64 (A3 r.ins h.1).kind),.v (.int .i64 (A3 r.ins h.1).mode),.v (.int .i64 (A5 r (A3 r.ins h.1):Int)),.v (.int .i64 (Gs r (A3 r.ins h.1))),.v (.int .i64 ((A3 r.ins h.1).On.length:Int)),.v (.int .i64 (A3 r.ins h.1).time)],.v (.int .i64 0)]
 else .tup [.agg [.v (.int .i64 0),.v (.int .i64 0),.v (.int .i64 0),.v (.int .i64 0),.v (.int .i64 0),.v (.int .i64 0),.v (.int .i64 0),.v (.int .i64 0)],.v (.int .i64 175)]
theorem Z7g (r:RFs)(f:Few r){K:Nat}(n:Wf r K)(i g:Int):FnV Tryz.prog 52 [enF r,.agg [.v (.int .i64 i),.v (.int .i64 g)]] λq=>q=Ya r (i,g):=by
 refine fnG Tryz.func52 ?_;refine(Mt r f i g).cal λq a=>?_;subst a;unfold Ya;rcases Ia (r:=r) (i:=i) (g:=g) with⟨c,he⟩ | ⟨c,he,-⟩
 case inr=>rw[c,he,dq (by simp)];exact dz (λ_=>by exact rfl) (λh=>by cases h)
 rw[c,he,dt rfl,dt rfl];obtain⟨d,m,k⟩:=Ac c;dsimp only at m k d;obtain⟨x,p⟩:∃x,x=A3 r.ins i:=⟨_,rfl⟩;dsimp only;rw[<-p] at m k d⊢;subst m k;have s:=n.kind x d;have o:(x.On.length:Int)=(x.On.map gNu).length:=by simp
 rw[o];refine dz (λh=>du rfl h) λ_=>?_;have b:=M5 r f x;refine⟨b.cal λq a=>?_,b.cal λq a=>?_⟩<;>subst a
 all_goals
  refine dv (fun(j:x.kind=2)=>(Z71 r f _).cal λq a=>?_) (fun(j:¬x.kind=2)=>?_)
  .subst a;refine dv (fun(l:x.kind=3)=>?_) (fun(l:¬x.kind=3)=>?_)
   .omega
   .have:Gs r x=E0 r.nms x.id:=by unfold Gs;rw[dq (by omega),dt j]
    rw[this];exact rfl
  .refine dv (fun(l:x.kind=3)=>?_) (fun(l:¬x.kind=3)=>?_)
   .have:Gs r x=x.target.size:=by unfold Gs;rw[dq (by omega),dq j]
    rw[this];exact rfl
   .have:Gs r x=x.B.length:=by unfold Gs;rw[dt (by omega)]
    have e:Gs r x=(x.B.map gBy).length:=by rw[this];simp
    rw[e];exact rfl
theorem eqS {a b:List (List G)}(h:a=b):(some (G.sl a):Option G)=some (G.sl b):=by rw[h]
theorem Wb (k:Nat):∀l:List Nat,(Np k l).length<=l.length+1
 | []=>by simp[Np]
 | x::l=>by
  unfold Np;split
  .have:=ah (λy=>decide (y≠k)) (x::l);simp only[List.length_cons] at *;omega
  .have:=Wb k l;simp only[List.length_cons];omega
theorem Z14 (On:List Nat)(a n:Nat):(G0 On a n).length<=On.length+n:=by
 induction n with
 | zero=>exact au _
 | succ n ih =>
  rw[Hi];split
  .have:=Wb ((a+n) / 16) (G0 On a n);omega
  .omega
def Xc (B:List UInt8)(On:List Nat)(b:Bool):G:=.tup [Z4y B On,.v (.bool b)]
theorem Z5s (B:List UInt8)(On:List Nat)(s:Zaw B On)(a:Int)(b:List UInt8)(E:b.length<=maxLen):FnV Tryz.prog 138 [Z4y B On,.v (.int .i64 a),.sl (b.map gBy)] λq=>q=Xc (rwB B a b) (Zu On a b.length) (D5 a b.length):=by
 refine fnG Tryz.func138 ?_;unfold maxLen at E;have M:=s.b;have L:=s.o;have n:=Z7i a b.length;rw[<-ao (f:=gBy)] at n;have w:(b.map gBy).length=b.length:=ao _;refine n.cal λq d=>?_;subst d;rw[w];unfold rwB Zu;cases hf:D5 a b.length with
 | false=>exact⟨λ_=>(by exact rfl),λh=>(by cases h)⟩
 | true =>
  have k:0<=a/\b.length<=1048576/\a<=1048576 - b.length:=of_decide_eq_true hf;refine⟨λh=>(by cases h),λ_=>dv (λz=>?_) (λz=>?_)⟩
  .have r:b.length=0:=by omega
   rw[dq (by omega),dt rfl,r];exact rfl
  .have r:0 < b.length:=by omega
   rw[dt ⟨rfl,r⟩,dt rfl];refine⟨Jo (f:=gBy) (λx=>⟨rfl,rfl⟩) _,⟨by simp;omega,?_⟩⟩;refine As [1,2,3,6] [0,1] (λ_:Nat=>[(8,.osl 3)]) (λj=>[(3,.slc ((B++List.replicate j 0).map gBy) 5 1)]) (λj=>j<=a.toNat+b.length - B.length) (λj=>a.toNat+b.length - B.length - j) 0 (by omega) ⟨⟨rfl,rfl⟩,trivial⟩ ⟨⟨rfl,rfl,eqR (by simp)⟩,trivial⟩ rfl λj I=>?_;have c:((B++List.replicate j 0).map gBy).length=B.length+j:=by simp
   refine⟨by omega,dw (λt=>?_) (λt=>?_)⟩
   .refine⟨by rw[c];simp;omega,j+1,by omega,(by dsimp only;omega),?_⟩;refine⟨?_,?_,rfl⟩<;>repeat' (first|exact trivial|with_reducible rfl|exact rfl|refine And.intro ?_ ?_)
    exact eqR (by rw[List.replicate_succ'];simp[gBy])
   .have F:¬B.length+j < a.toNat+b.length:=λl=>t (by rw[c];omega);have C:B++List.replicate j 0=Ih B (a.toNat+b.length):=by
     unfold Ih;rcases ak (a.toNat+b.length - B.length) with l | l
     .rw[l,show j=0 by omega]
     .rw[show j=a.toNat+b.length - B.length by omega]
    obtain⟨R,m⟩:∃R:List (List G),R=(B++List.replicate j 0).map gBy:=⟨_,rfl⟩;have key:(splice (Ih B (a.toNat+b.length)) a.toNat b).map gBy=R.take a.toNat++(b.map gBy).take (min (b.map gBy).length (R.length - a.toNat))++R.drop (a.toNat+min (b.map gBy).length (R.length - a.toNat)):=by
     rw[m,C,w];have K:((Ih B (a.toNat+b.length)).map gBy).length=max B.length (a.toNat+b.length):=by rw[ao,Fn]
     rw[show min b.length (((Ih B (a.toNat+b.length)).map gBy).length - a.toNat)=b.length by omega];unfold splice;rw[ba (by omega:(b.map gBy).length<=b.length)];simp[List.map_take,List.map_drop]
    have e:Xc (splice (Ih B (a.toNat+b.length)) a.toNat b) (G0 On a.toNat b.length) true=.tup [.agg [.sl (R.take a.toNat++(b.map gBy).take (min (b.map gBy).length (R.length - a.toNat))++R.drop (a.toNat+min (b.map gBy).length (R.length - a.toNat))),.sl ((G0 On a.toNat b.length).map gNu)],.v (.bool true)]:=by unfold Xc Z4y;rw[key]
    rw[e];rw[<-m] at c⊢;refine⟨⟨by omega,by omega,by omega⟩,⟨Jo (f:=gBy) (λx=>⟨rfl,rfl⟩) _,?_⟩⟩;refine As [1,2,3,6,8] [0,1,3] (λi:Nat=>[(10,.v (.int .i64 i)),(9,.sl ((G0 On a.toNat i).map gNu))]) (λ_=>[]) (λi=>i<=b.length) (λi=>b.length - i) 0 (by omega) ⟨⟨rfl,rfl⟩,⟨rfl,rfl⟩,trivial⟩ trivial rfl λi J=>?_;have u:=Z14 On a.toNat i;have g:=Hi On a.toNat i;have H:=Z7l (i:=i) k.1;have hd:=Z05 (i:=i) k.1;refine dw (λl=>?_) (λl=>?_)
    .have y:FnV Tryz.prog 150 [.sl ((G0 On a.toNat i).map gNu),.v (.int .i64 ((a+i).tdiv 16))] λq=>q=.sl ((Np ((a.toNat+i) / 16) (G0 On a.toNat i)).map gNu):=by rw[hd];exact Zdm _ (by omega) _
     have yes:i=0\/(a.toNat+i) % 16=0->G0 On a.toNat (i+1)=Np ((a.toNat+i) / 16) (G0 On a.toNat i):=λh=>by rw[g,dt (show Gu a.toNat i=true from decide_eq_true h)]
     have no:¬(i=0\/(a.toNat+i) % 16=0)->G0 On a.toNat (i+1)=G0 On a.toNat i:=λh=>by rw[g,dq (by unfold Gu;rw[decide_eq_false h];simp)]
     refine dv (λA=>⟨by omega,⟨by omega,⟨by omega,y.cal λq d=>?_⟩⟩⟩) (λA=>⟨by omega,⟨by omega,dv (λD=>⟨by omega,⟨by omega,⟨by omega,y.cal λq d=>?_⟩⟩⟩) (λD=>?_)⟩⟩)
     .subst d;refine⟨by omega,i+1,by omega,(by dsimp only;omega),?_⟩;refine⟨?_,?_,rfl⟩<;>repeat' (first|exact trivial|with_reducible rfl|exact rfl|refine And.intro ?_ ?_)
      exact eqS (by rw[yes (.inl (by omega))])
     .subst d;refine⟨by omega,i+1,by omega,(by dsimp only;omega),?_⟩;refine⟨?_,?_,rfl⟩<;>repeat' (first|exact trivial|with_reducible rfl|exact rfl|refine And.intro ?_ ?_)
      exact eqS (by rw[yes (.inr (by omega))])
     .refine⟨by omega,i+1,by omega,(by dsimp only;omega),?_⟩;refine⟨?_,?_,rfl⟩<;>repeat' (first|exact trivial|with_reducible rfl|exact rfl|refine And.intro ?_ ?_)
      exact eqS (by rw[no (by omega)])
    .have p:i=b.length:=by omega
     rw[<-p];exact rfl
def ctB (B:List UInt8)(n:Int)(k:Nat):Bool:=decide (16 * k < n.toNat\/B.length<=n.toNat)
theorem Z5w (B:List UInt8)(On:List Nat)(p:Zaw B On)(m:∀k∈On,k < 65536)(n:Int):FnV Tryz.prog 140 [Z4y B On,.v (.int .i64 n)] λq=>q=Xc (rcB B n) (V9 B On n) (Gb n):=by
 refine fnG Tryz.func140 ?_;have F:=p.b;have E:=p.o;unfold rcB V9;have bad:¬(0<=n/\n<=1048576)->Gb n=false:=λh=>decide_eq_false h;refine dw (λs=>?_) (λs=>dw (λl=>?_) (λl=>?_))
 .rw[bad (by omega)];exact rfl
 .rw[bad (by omega)];exact rfl
 rw[show Gb n=true from decide_eq_true ⟨by omega,by omega⟩,dt rfl,dt rfl];refine⟨Jo (f:=gBy) (λx=>⟨rfl,rfl⟩) _,⟨by simp;omega,?_⟩⟩;refine As [1,2,4] [0,1] (λ_:Nat=>[(6,.osl 3)]) (λj=>[(3,.slc ((B++List.replicate j 0).map gBy) 5 1)]) (λj=>j<=n.toNat - B.length) (λj=>n.toNat - B.length - j) 0 (by omega) ⟨⟨rfl,rfl⟩,trivial⟩ ⟨⟨rfl,rfl,eqR (by simp)⟩,trivial⟩ rfl λj D=>?_;have a:((B++List.replicate j 0).map gBy).length=B.length+j:=by simp
 refine dw (λl=>?_) (λl=>?_)
 .refine⟨by rw[a];simp;omega,j+1,by omega,(by dsimp only;omega),?_⟩;refine⟨?_,?_,rfl⟩<;>repeat' (first|exact trivial|with_reducible rfl|exact rfl|refine And.intro ?_ ?_)
  exact eqR (by rw[List.replicate_succ'];simp[gBy])
 .have A:¬B.length+j < n.toNat:=λd=>l (by rw[a];omega);have z:B++List.replicate j 0=Ih B n.toNat:=by
   unfold Ih;rcases ak (n.toNat - B.length) with d | d
   .rw[d,show j=0 by omega]
   .rw[show j=n.toNat - B.length by omega]
  obtain⟨R,g⟩:∃R:List (List G),R=(B++List.replicate j 0).map gBy:=⟨_,rfl⟩;have e:Xc ((Ih B n.toNat).take n.toNat) (On.filter (λk=>decide (16 * k < n.toNat\/B.length<=n.toNat))) true=.tup [.agg [.sl (Fr R 0 n.toNat),.sl ((On.filter (ctB B n)).map gNu)],.v (.bool true)]:=by unfold Xc Z4y Fr ctB;rw[g,z];simp[List.map_take]
  rw[e];rw[<-g] at a⊢;refine As [1,2,4,6] [0,1,3] (λi:Nat=>[(8,.v (.int .i64 i)),(7,.osl 4)]) (λi=>[(4,.slc (((On.take i).filter (ctB B n)).map gNu) 3 1)]) (λi=>i<=On.length) (λi=>On.length - i) 0 (by omega) ⟨⟨rfl,rfl⟩,⟨rfl,rfl⟩,trivial⟩ ⟨RL1,trivial⟩ rfl λi H=>?_;have y:=J3 (ctB B n) On i;refine dw (λd=>?_) (λd=>?_)
  .refine ef (by simpa using d) λx c=>?_;have r:=B8 c;have w:=m x (ar c);have yes:16 * x < n.toNat\/B.length<=n.toNat->ctB B n x=true:=λh=>decide_eq_true h;have C:((B.map gBy).length:Int)=B.length:=by rw[ao]
   refine⟨by omega,dw (λu=>?_) (λu=>dw (λt=>?_) (λt=>?_))⟩
   .refine ee c ⟨by simp;omega,⟨by omega,i+1,by omega,(by dsimp only;omega),?_⟩⟩;refine⟨?_,?_,rfl⟩<;>repeat' (first|exact trivial|with_reducible rfl|exact rfl|refine And.intro ?_ ?_)
    exact eqR (Ej (ctB B n) gNu c (yes (by omega)))
   .refine ee c ⟨by simp;omega,⟨by omega,i+1,by omega,(by dsimp only;omega),?_⟩⟩;refine⟨?_,?_,rfl⟩<;>repeat' (first|exact trivial|with_reducible rfl|exact rfl|refine And.intro ?_ ?_)
    exact eqR (Ej (ctB B n) gNu c (yes (by omega)))
   .refine⟨by omega,i+1,by omega,(by dsimp only;omega),?_⟩;refine⟨?_,?_,rfl⟩<;>repeat' (first|exact trivial|with_reducible rfl|exact rfl|refine And.intro ?_ ?_)
    exact eqR (J0 (ctB B n) gNu c (decide_eq_false (by omega)))
  .rw[ba (by simp at d;omega)];exact⟨⟨by omega,by omega,by omega⟩,rfl⟩
theorem K4 {r:RFs}{K:Nat}(a:Wf r K)(h:Int × Int):Uj r h=B9 r h:=by
 unfold Uj B9;cases hl:Aj r h with
 | false=>rfl
 | true =>
  rw[dt rfl,dt rfl];rcases a.kind _ (Ac hl).1 with h | h | h<;>rw[h]<;>rfl
def Shs (r:RFs):Prop:=∀x∈r.ins,Zaw x.B x.On/\∀k∈x.On,k < 65536
theorem Z8c (r:RFs)(k:Few r){K:Nat}(l:Wf r K)(m:Shs r)(i g a n:Int):FnV Tryz.prog 115 [enF r,.agg [.v (.int .i64 i),.v (.int .i64 g)],.v (.int .i64 a),.v (.int .i64 n)] λq=>q=.tup [.sl ((Ct r (i,g) a n).1.map gBy),.v (.int .i64 (Ct r (i,g) a n).2)]:=by
 refine fnG Tryz.func115 ?_;refine(Z31 r k i g).cal λq c=>?_;subst c;rw[K4 l];unfold Ct;by_cases b:B9 r (i,g)=0
 case neg=>rw[dt b];exact dv (λh=>du h b) (λ_=>dz (λ_=>by exact rfl) (λh=>du h b))
 obtain⟨j,o⟩:=Dv b;rw[b,j,dt rfl,dq (show ¬((0:Int)≠0) by simp)];have f:=(Ac j).1;dsimp only at f;refine dv (λ_=>dw (λd=>?_) (λd=>dw (λe=>?_) (λe=>?_))) (λh=>du rfl h)
 .rw[dt (.inl d)];exact dz (λ_=>by exact rfl) (λh=>du h (by decide))
 .rw[dt (.inr e)];exact dz (λ_=>by exact rfl) (λh=>du h (by decide))
 .rw[dq (by omega)];refine dz (λh=>du rfl h) λ_=>(Z8f _ _ (m _ f).1 a n).cal λq c=>?_;subst c;exact rfl
theorem Zb7 (r:RFs)(f:Few r){K:Nat}(m:Wf r K)(j:Shs r)(i g n t:Int):FnV Tryz.prog 113 [enF r,.agg [.v (.int .i64 i),.v (.int .i64 g)],.v (.int .i64 n),.v (.int .i64 t)] λq=>q=Zdv (Fm r (i,g) n t):=by
 refine fnG Tryz.func113 ?_;refine(Z31 r f i g).cal λq b=>?_;subst b;rw[K4 m];unfold Fm;by_cases c:B9 r (i,g)=0
 case neg=>rw[dt c];exact dz (λ_=>by exact rfl) (λh=>du h c)
 obtain⟨k,p⟩:=Dv c;rw[c,k,dt rfl,dq (show ¬((0:Int)≠0) by simp)];have d:=(Ac k).1;dsimp only at d;have a:¬(0<=t/\t<=1099511627776)->El t=false:=λh=>decide_eq_false h;refine dz (λh=>du rfl h) λ_=>dw (λe=>?_) (λe=>dw (λl=>?_) (λl=>dw (λo=>?_) (λo=>?_)))
 .rw[dt (.inl e)];exact rfl
 .rw[dt (.inr (a (by omega)))];exact rfl
 .rw[dt (.inr (a (by omega)))];exact rfl
 .rw[dq (by rw[show El t=true from decide_eq_true ⟨by omega,by omega⟩];simp;omega)];refine(Z5w _ _ (j _ d).1 (j _ d).2 n).cal λq b=>?_;subst b;cases hc:Gb n with
  | false=>exact⟨λ_=>(by rw[dt rfl];exact rfl),λh=>(by cases h)⟩
  | true =>
   rw[dq (by simp)];refine⟨λh=>(by cases h),λ_=>(Ru r f (Gp (A3 r.ins i) (rcB (A3 r.ins i).B n) (V9 (A3 r.ins i).B (A3 r.ins i).On n) t)).cal λq b=>?_⟩;subst b;exact rfl
theorem Z5c (r:RFs)(f:Few r){K:Nat}(n:Wf r K)(o:Shs r)(i g a:Int)(b:List UInt8)(p:b.length<=maxLen)(t:Int):FnV Tryz.prog 112 [enF r,.agg [.v (.int .i64 i),.v (.int .i64 g)],.v (.int .i64 a),.sl (b.map gBy),.v (.int .i64 t)] λq=>q=Zdv (Bz r (i,g) a b t):=by
 refine fnG Tryz.func112 ?_;refine(Z31 r f i g).cal λq c=>?_;subst c;rw[K4 n];unfold Bz;by_cases e:B9 r (i,g)=0
 case neg=>rw[dt e];exact dz (λ_=>by exact rfl) (λh=>du h e)
 obtain⟨s,y⟩:=Dv e;rw[e,s,dt rfl,dq (show ¬((0:Int)≠0) by simp)];have k:=(Ac s).1;dsimp only at k;have d:¬(0<=t/\t<=1099511627776)->El t=false:=λh=>decide_eq_false h;refine dz (λh=>du rfl h) λ_=>dw (λm=>?_) (λm=>dw (λu=>?_) (λu=>dw (λx=>?_) (λx=>?_)))
 .rw[dt (.inl m)];exact rfl
 .rw[dt (.inr (d (by omega)))];exact rfl
 .rw[dt (.inr (d (by omega)))];exact rfl
 .rw[dq (by rw[show El t=true from decide_eq_true ⟨by omega,by omega⟩];simp;omega)];refine(Z5s _ _ (o _ k).1 a b p).cal λq c=>?_;subst c;have l:=Zbh (A3 r.ins i).B _ (o _ k).1 a b p;have j:=Z78 r f n;cases hc:D5 a b.length with
  | false=>exact⟨λ_=>(by rw[dt (.inr rfl)];exact rfl),λh=>(by cases h)⟩
  | true =>
   refine⟨λh=>(by cases h),λ_=>l.cal λq c=>?_⟩;subst c;refine j.cal λq c=>?_;subst c;refine dw (λw=>?_) (λw=>?_)
   .rw[dt (.inl (show Kh r < (H8 (A3 r.ins i).On a b.length:Int) by omega))];exact rfl
   .rw[dq (by simp;omega)];refine(Ru r f (Gp (A3 r.ins i) (rwB (A3 r.ins i).B a b) (Zu (A3 r.ins i).On a b.length) t)).cal λq c=>?_;subst c;exact rfl
def Zar (s:ByteArray)(p:List ByteArray × Bool):List ByteArray:=if p.2=true then p.1 else p.1++[s]
def Yl (s:ByteArray):List ByteArray->List ByteArray
 | []=>[s]
 | x::l=>if gtS x s=true then s::x::l else x::Yl s l
theorem Rw (s:ByteArray):∀(l a:List ByteArray),l.foldl (Sf s) (a,true)=(a++l,true)
 | [],a=>by simp
 | x::l,a=>by rw[List.foldl_cons];show l.foldl (Sf s) (a++(if true=false/\gtS x s=true then [s] else [])++[x],true||gtS x s)=_;rw[dq (by simp),Bool.true_or,Rw s l];simp
theorem V7 (s:ByteArray):∀(l a:List ByteArray),Zar s (l.foldl (Sf s) (a,false))=a++Yl s l
 | [],a=>by simp[Zar,Yl]
 | x::l,a=>by
  rw[List.foldl_cons];cases h:gtS x s with
  | true =>
   show Zar s (l.foldl (Sf s) (a++(if false=false/\gtS x s=true then [s] else [])++[x],false||gtS x s))=_;rw[dt ⟨rfl,h⟩,h,Bool.or_true,Rw,Yl,dt h];simp[Zar]
  | false =>
   show Zar s (l.foldl (Sf s) (a++(if false=false/\gtS x s=true then [s] else [])++[x],false||gtS x s))=_;rw[dq (by simp[h]),h,Bool.or_false,V7 s l,Yl,dq (by simp[h])];simp
theorem Z9l (s:ByteArray)(l:List ByteArray):Zav s l=Yl s l:=by have:=V7 s l [];simpa [Zar,Zav] using this
theorem Mw (s:ByteArray):∀l,(Yl s l).Perm (s::l)
 | []=>.refl _
 | x::l=>by
  unfold Yl;split
  .exact .refl _
  .exact((Mw s l).cons x).trans (.swap _ _ _)
theorem Zc {x s:ByteArray}(h:gtS x s=true):s.toList<=x.toList:=by unfold gtS at h;rw[Go.Proofs.bytesLess_eq] at h;simp at h;exact List.not_lt.1 h.1
theorem Zdx {x s:ByteArray}(h:gtS x s=false):x.toList<=s.toList:=by
 unfold gtS at h;rw[Go.Proofs.bytesLess_eq] at h;simp at h;rcases Classical.em (x.toList < s.toList) with a | a
 .exact List.le_of_lt a
 .rw[h (List.not_lt.1 a)];exact List.le_refl _
theorem Mc (s:ByteArray):∀{l:List ByteArray},l.Pairwise (λa b=>a.toList<=b.toList)->(Yl s l).Pairwise (λa b=>a.toList<=b.toList)
 | [],_=>by simp[Yl]
 | x::l,h=>by
  obtain⟨d,e⟩:=List.pairwise_cons.1 h;unfold Yl;cases hg:gtS x s with
  | true =>
   rw[dt rfl];refine List.pairwise_cons.2 ⟨λy c=>?_,h⟩;rcases bq.1 c with rfl | c
   .exact Zc hg
   .exact List.le_trans (Zc hg) (d y c)
  | false =>
   rw[dq (by simp)];refine List.pairwise_cons.2 ⟨λy c=>?_,Mc s e⟩;rcases bq.1 ((Mw s l).mem_iff.1 c) with rfl | c
   .exact Zdx hg
   .exact d y c
theorem Oo (d:Int):∀(l:List RNm) (out:List ByteArray),out.Pairwise (λa b=>a.toList<=b.toList)->(l.foldl (N4 d) out).Pairwise (λa b=>a.toList<=b.toList)/\(l.foldl (N4 d) out).Perm (((l.filter λn=>decide (n.dir=d)).map λn=>n.name)++out)
 | [],out,h=>⟨h,by simp⟩
 | n::l,out,h=>by
  rw[List.foldl_cons];by_cases hd:n.dir=d
  .have e:N4 d out n=Yl n.name out:=by unfold N4;rw[dt hd,Z9l]
   rw[e];obtain⟨c,f⟩:=Oo d l _ (Mc n.name h);refine⟨c,f.trans ?_⟩;rw[List.filter_cons,dt (by simp[hd])];exact((Mw n.name out).append_left _).trans List.perm_middle
  .have e:N4 d out n=out:=dq hd;rw[e,List.filter_cons,dq (by simp[hd])];exact Oo d l out h
theorem Ra (r:RFs)(h:Int × Int)(g:Ab r h=0):(Fd r h).map (λc=>c.data.toList)=Fz (Aa r.nms h.1):=by
 have e:Fd r h=r.nms.foldl (N4 h.1) []:=dt g;obtain⟨f,d⟩:=Oo h.1 r.nms [] .nil;rw[e];rw[dl] at d;refine List.Perm.eq_of_pairwise (le:=λa b:List UInt8=>a<=b) (λa b _ _ f d=>List.le_antisymm f d) ?_ ?_ (?_:List.Perm _ _)
 .refine List.pairwise_map.2 (f.imp λh=>?_);rw[toList_data,toList_data] at h;exact h
 .exact(List.pairwise_mergeSort M6 Ll _).imp (λh=>by simpa using h)
 .refine(d.map _).trans (List.Perm.trans ?_ (Gr _).symm);unfold Aa;rw[List.map_map,List.map_map];exact .refl _
theorem Z5e (r:RFs)(h:Int × Int)(s:ByteArray)(m:RMk):D7 r h s m=if Ab r h≠0 then(r,(0,0),Ab r h) else if Ad s=false then(r,(0,0),176) else if Cz m=false then(r,(0,0),1) else if A2 r.nms h.1 s≠0 then(r,(0,0),171)
  else if m.kind=2/\20<=A5 r (A3 r.ins h.1) then(r,(0,0),179) else if 200<=r.ins.length then(r,(0,0),177)
  else(Ai (Im r (Fa r h m)) h.1 s (Dg r.ins),(Dg r.ins,Aq r.gens (Dg r.ins)+1),0):=by
 unfold D7;rw[M7];by_cases a:Ab r h=0<;>cases h2:Ad s<;>simp[a]
theorem Y5 {l:List Int}{q j:Nat}(b:q<=j+2 - l.length)(c:¬l.length+q<=j+1):Bx l ((j:Int)+1)=(l++List.replicate q 0).set (j+1) (Aq l ((j:Int)+1)+1)/\(l++List.replicate q 0)[j+1]?=some (Aq l ((j:Int)+1)):=by
 have e:((j:Int)+1).toNat=j+1:=by omega
 have a:q=j+1+1 - l.length:=by omega
 refine⟨by unfold Bx;rw[e,a],?_⟩;unfold Aq;rw[dt (by omega),e];rcases Nat.lt_or_ge (j+1) l.length with h | h
 .rw[bu h,List.getD_eq_getElem?_getD,ap h];rfl
 .rw[bo h,List.getD_eq_getElem?_getD,cn h,List.getElem?_replicate,dt (by omega)];rfl
theorem Z89 {r:RFs}{x:RIn}{id:Int}(a:x.id=id)(c:∀y∈r.ins,y.id≠id):Hr {r with gens:=Bx r.gens id} x=Im r x:=by
 unfold Hr Im;have:(r.ins.filter λy=>decide (y.id≠x.id))=r.ins:=List.filter_eq_self.2 λy b=>by rw[a];exact decide_eq_true (c y b)
 rw[a] at this⊢;show({r with ins:=(r.ins.filter λy=>decide (y.id≠id))++[x],gens:=_}:RFs)=_;rw[this]
theorem Z0b {r:RFs}{K:Nat}(a:Wf r K)(id:Int):0<=Aq r.gens id/\Aq r.gens id<=(K:Int)+1:=by
 unfold Aq;split
 .rw[List.getD_eq_getElem?_getD];cases h:r.gens[id.toNat]? with
  | none=>simp;omega
  | some g=>exact a.genK g (ar h)
 .omega
def Z9t (l:List Int)(m:Nat):List Int:=l++List.replicate m 0
def Zgv (p:RFs × (Int × Int) × Int):G:=.tup [enF p.1,.agg [.v (.int .i64 p.2.1.1),.v (.int .i64 p.2.1.2)],.v (.int .i64 p.2.2)]
set_option maxHeartbeats 4000000 in
theorem Zcn (r:RFs)(l:Few r){K:Nat}(E:Wf r K)(W:K<=1000000)(i g:Int)(s:ByteArray)(Q:s.size<=maxLen)(m:RMk)(N:m.target.size<=maxLen):FnV Tryz.prog 108 [enF r,.agg [.v (.int .i64 i),.v (.int .i64 g)],.v (.string s),.agg [.v (.int .i64 m.kind),.v (.int .i64 m.mode),.v (.int .i64 m.time),.v (.string m.target)]] λq=>q=Zgv (D7 r (i,g) s m):=by
 refine fnG Tryz.func108 ?_;rw[Z5e];refine(Fv r l i g).cal λq c=>?_;subst c;by_cases C:Ab r (i,g)=0
 case neg=>rw[dt C];exact dz (λ_=>by exact rfl) (λh=>du h C)
 have hid:=Hb C;rw[C,dt rfl,dq (by simp)];refine dz (λh=>du rfl h) λ_=>(Kn s Q).cal λq c=>?_;subst c;cases hv:Ad s with
 | false=>exact⟨λ_=>(by rw[dt rfl];exact rfl),λh=>(by cases h)⟩
 | true =>
 rw[dq (by simp)];refine⟨λh=>(by cases h),λ_=>(Zfq m N).cal λq c=>?_⟩;subst c;cases hr:Cz m with
 | false=>exact⟨λ_=>(by rw[dt rfl];exact rfl),λh=>(by cases h)⟩
 | true =>
 rw[dq (by simp)];refine⟨λh=>(by cases h),λ_=>(I8 r l _ s).cal λq c=>?_⟩;rw[hid] at c;subst c;refine dz (λh=>?_) (λh=>?_)
 .rw[dt h];exact rfl
 rw[dq (by simpa using h)];have S:=l.g;refine dv (λB=>(M5 r l (A3 r.ins i)).cal λq c=>?a) (λB=>?b)
 case' a =>
  subst c;refine dw (λp=>?a1) (λp=>?a2)
 case a1=>rw[dt ⟨B,(show 20<=A5 r (A3 r.ins i) by omega)⟩];exact rfl
 case' a2=>rw[dq (λL=>p (by have:20<=A5 r (A3 r.ins i):=L.2;omega))];clear p
 case' b=>rw[dq (λL=>B L.1)]
 all_goals
  clear B;refine dw (λp=>?_) (λp=>?_)
  .rw[dt (by simp at p;omega)];exact rfl
  have U:¬200<=r.ins.length:=by simp at p;omega
  rw[dq U];refine As [2,4,5,7,8,9,11] [0,1,2,3,4,5] (λj:Nat=>[(13,.v (.int .i64 ((j:Int)+1)))]) (λ_=>[]) (λj=>j<=200/\∀k,k < j->(A3 r.ins ((k:Int)+1)).id≠0) (λj=>202 - j) 0 ⟨by omega,λk h=>by omega⟩ ⟨⟨rfl,rfl⟩,trivial⟩ trivial rfl λj ⟨V,hno⟩=>?_;refine(Ix r l _).cal λq c=>?_;subst c;refine dz (λF=>?_) (λF=>?_)
  .have o:∀k,k < j+1->(A3 r.ins ((k:Int)+1)).id≠0:=λk M=>by
    rcases Nat.lt_or_ge k j with h | h
    .exact hno k h
    .rw[show k=j by omega];exact F
   have:=O6 E o;refine⟨by omega,j+1,⟨by omega,o⟩,(by dsimp only;omega),?_⟩;refine⟨?_,?_,rfl⟩<;>repeat' (first|exact trivial|with_reducible rfl|exact rfl|refine And.intro ?_ ?_)
  have d:Dg r.ins=(j:Int)+1:=Iq (by omega) F hno;refine⟨Jo (f:=enG) (λx=>⟨rfl,rfl⟩) _,⟨by simp;omega,?_⟩⟩;refine As [2,4,5,7,8,9,11,13] [0,1,2,3,4,5] (λ_:Nat=>[(14,.osl 7)]) (λq=>[(7,.slc ((Z9t r.gens q).map enG) 3 1)]) (λq=>q<=j+2 - r.gens.length) (λq=>j+3 - r.gens.length - q) 0 (by omega) ⟨⟨rfl,rfl⟩,trivial⟩ ⟨⟨rfl,rfl,by unfold Z9t;exact eqR (by simp)⟩,trivial⟩ rfl λq c=>?_;have e:(Z9t r.gens q).length=r.gens.length+q:=by unfold Z9t;simp
  refine dw (λG=>?_) (λG=>?_)
  .have z:r.gens.length+q<=j+1:=by simp[e] at G;omega
   refine⟨by simp[e];omega,q+1,by omega,(by dsimp only;omega),?_⟩;refine⟨?_,?_,rfl⟩<;>repeat' (first|exact trivial|with_reducible rfl|exact rfl|refine And.intro ?_ ?_)
   exact eqR (by unfold Z9t;rw[List.replicate_succ'];simp[enG])
  have z:¬r.gens.length+q<=j+1:=by simp[e] at G;omega
  obtain⟨D,J⟩:=Y5 c z;have t:(Z9t r.gens q)[((j:Int)+1).toNat]?=some (Aq r.gens ((j:Int)+1)):=by rw[show((j:Int)+1).toNat=j+1 by omega];exact J
  have O:=Z0b E ((j:Int)+1);have u:(Z9t r.gens q).set ((j:Int)+1).toNat (Aq r.gens ((j:Int)+1)+1)=Bx r.gens ((j:Int)+1):=by rw[show((j:Int)+1).toNat=j+1 by omega,D];rfl
  have w:(Bx r.gens ((j:Int)+1))[((j:Int)+1).toNat]?=some (Aq r.gens ((j:Int)+1)+1):=by rw[<-u,List.getElem?_set_self];exact(aq.1 t).1
  have R:(Bx r.gens ((j:Int)+1)).length=r.gens.length+q:=by rw[<-u];simp[e]
  refine⟨by rw[ao];omega,ee t ⟨by omega,⟨by rw[ao];omega,EvSet.at (y:=Aq r.gens ((j:Int)+1)+1) t (λk M=>M) u ?_⟩⟩⟩;have H:Few {r with gens:=Bx r.gens ((j:Int)+1)}:=⟨l.i,l.n,by show(Bx _ _).length<=1000;omega⟩;have P:Fa r (i,g) m=⟨(j:Int)+1,Aq r.gens ((j:Int)+1)+1,m.kind,m.mode,m.time,(A3 r.ins i).id,m.target,[],[]⟩:=by unfold Fa;rw[d,hid]
  have A:Hr {r with gens:=Bx r.gens ((j:Int)+1)} (Fa r (i,g) m)=Im r (Fa r (i,g) m):=Z89 (by show Dg _=_;exact d) (by rw[<-d];exact(W0 E (by omega)).2.2);have I:Few (Im r (Fa r (i,g) m)):=⟨by show(r.ins++[_]).length<=1000;simp;omega,l.n,by show(Bx _ (Dg r.ins)).length<=1000;rw[d];omega⟩;rw[d];refine⟨by rw[ao];omega,ee w ?_⟩;refine(Ru _ H ⟨(j:Int)+1,Aq r.gens ((j:Int)+1)+1,m.kind,m.mode,m.time,(A3 r.ins i).id,m.target,[],[]⟩).cal λq c=>?_;rw[<-P,A] at c;subst c;have T:FnV Tryz.prog 132 [enF (Im r (Fa r (i,g) m)),.v (.int .i64 (A3 r.ins i).id),.v (.string s),.v (.int .i64 ((j:Int)+1))] λq=>q=enF (Ai (Im r (Fa r (i,g) m)) i s ((j:Int)+1)):=by rw[hid];exact Id _ I i s _
  refine EvIdx.atI (by omega) w (T.cal λq c=>?_);subst c;exact rfl
end Go.Proofs.YtmmdikhljefeiaaGreat
