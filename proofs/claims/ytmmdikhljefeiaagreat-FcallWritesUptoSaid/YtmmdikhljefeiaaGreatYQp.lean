
import Derived.Test.YtmmdikhljefeiaaGreatQM1
import Derived.Test.YtmmdikhljefeiaaGreatWA
import Derived.Test.YtmmdikhljefeiaaGreatYFsR
import Derived.Test.YtmmdikhljefeiaaGreatFsXW
import Derived.Test.YtmmdikhljefeiaaGreatLaM
import Derived.Test.YtmmdikhljefeiaaGreatSxMc
import Derived.Test.YtmmdikhljefeiaaGreatYFtL
namespace Go.Proofs.YtmmdikhljefeiaaGreat
open Go.RowKit
def fsP (r:RFs)(K:Nat):Ob:=λ_ b S w=>∃c a N,FsN w b c a r N/\Wf r K/\∀k,S k↔k∈fpL b c a N
theorem Fy {b a c k:Nat}{N:List Nd}:k∈fpL b a c N↔(k=b\/k=a\/k=c\/∃n∈N,k∈n.foot):=by unfold fpL;simp only[List.mem_cons,List.mem_flatMap]
theorem Hf (r:RFs)(K:Nat):Loc (fsP r K):=λ_ _ _ _ _ _ ⟨c,mg,N,h,hW,hS⟩ _ _ _ hb=>by have a:∀k,k∈fpL _ c mg N->_:=λk b=>hb k ((hS k).2 b);exact⟨c,mg,N,h.keep (a _ (Fy.2 (.inl rfl))) (a _ (Fy.2 (.inr (.inl rfl)))) (a _ (Fy.2 (.inr (.inr (.inl rfl))))) (λn d k b=>a k (Fy.2 (.inr (.inr (.inr ⟨n,d,b⟩))))),hW,hS⟩
structure Gd (r:RFs)(K:Nat):Prop where
 wf:Wf r K
 shs:Shs r
theorem Z5t {w:World}{b q t K:Nat}{r:RFs}{N:List Nd}(h:FsN w b q t r N)(j:Wf r K):Shs r:=λx i=>by
 by_cases c:x.kind=1
 .obtain⟨n,s,hid⟩:=h.all x i;obtain⟨y,v,l⟩:=h.node n s;have g:y=x:=by
   have e:y.id=x.id:=l.id.symm.trans hid;exact Xo j.ids v i e
  subst g;obtain⟨size,bl,a,d⟩:=l.file c;have f:∀k∈y.On,k < 65536:=λk c=>by rw[d.on] at c;obtain⟨p,m,rfl⟩:=bi.1 ((Ca bl).mem_iff.1 c);exact a.keys p m
  refine⟨⟨by rw[d.len];exact a.small,?_⟩,f⟩;rw[d.on];have:(Fb bl).Nodup:=((Ca bl).nodup_iff).2 d.nodup;exact Z3s this (λk c=>f k (by rw[d.on];exact c))
 .obtain⟨o,u⟩:=j.file x i c;rw[o,u];exact⟨⟨by simp,by simp⟩,by simp⟩
theorem Jn {P:Program}{f:FuncId}{gs:List G}{r r':RFs}{K s:Nat}{v:G}(J:Ent P f)(Q:Bp Zc7 gs=true)
  (h:∀(I:Imm) (w:World) b i j N (vs:List Value),Mem I w->FsN w b i j r N->Wf r K->PW (VRep I) gs vs->Wf r' s/\Calls P f (.pointer (some ⟨b,0,none⟩)::vs).toArray w λe w'=>∃x,e=.returned x/\VR I v x/\Cm w w' b i j N r'):FnO P f (.ptr 0 0::gs) [.abs (fsP r K)] λg rs=>g=v/\rs=[.abs (fsP r' s)]/\Gd r' s :=
 ⟨J,λI V w vs hH q z=>by
  obtain⟨x,A,rfl,l,C⟩:=z.uncons;obtain⟨-,rfl⟩:=(show 0 < V.n/\x=.pointer (some ⟨V.b 0,0,none⟩) from l);obtain⟨-,i,j,N,B,E,m⟩:=hH.each 0 (.abs (fsP r K)) rfl;have c:=λb a=>hH.foot 0 (.abs (fsP r K)) b rfl a;obtain⟨d,L⟩:=h I w _ i j N A hH.mem B E (Z59 Q C);refine L.mono λe w' ⟨x,he,l,N',h1,h2,h3⟩=>⟨x,v,[.abs (fsP r' s)],I,V.setF 0 (λk=>k∈fpL (V.b 0) i j N'),he,⟨rfl,rfl,d,Z5t h1 d⟩,q,?_,?_,⟨h3.os,h3.tape,h3.output,h3.size,λb a y=>⟨h3.block b a λu=>y 0 _ rfl ((m b).2 u),λ_=>rfl⟩,λ_ _ _ h=>h,λk r b p a H=>?_⟩,⟨au _,λ_ _=>⟨rfl,rfl⟩⟩⟩
  .have F:Mem I w':=hH.mem.keep λb o x l=>h3.block b (hH.mem.lt l) λu=>by
    have:=(c b ((m b).2 u)).2 o;rw[l] at this;cases this
   refine Sa q F ⟨Hf _ _,i,j,N',h1,d,λk=>Iff.rfl⟩ λb a=>?_;have a:b∈fpL (V.b 0) i j N':=a;refine⟨?_,λo=>?_⟩
   .obtain⟨D,R,M,O⟩:=h1.lt d;rcases Fy.1 a with rfl | rfl | rfl | ⟨n,q,p⟩
    .exact D
    .exact R
    .exact M
    .exact O n q b p
   .rcases h2 b a with a | a
    .exact(c b ((m b).2 a)).2 o
    .cases hI:I b o with
     | none=>rfl
     | some x=>exact dq (hH.mem.lt hI) (by omega)
  .exact l.res
  .have t:k=0:=by
    rw[Bf] at p;cases k with
    | zero=>rfl
    | succ k=>simp at p
   subst t;have a:b∈fpL (V.b 0) i j N':=a;rcases h2 b a with a | a
   .exact⟨0,_,rfl,(m b).2 a⟩
   .omega⟩
theorem Lt {P:Program}{f:FuncId}{gs:List G}{r:RFs}{K:Nat}{q:G}(B:Ent P f)(C:Bp Zc7 gs=true)
  (h:∀(I:Imm) (w:World) b j l N (vs:List Value),Mem I w->FsN w b j l r N->Wf r K->PW (VRep I) gs vs->Calls P f (.pointer (some ⟨b,0,none⟩)::vs).toArray w λe w'=>∃x,e=.returned x/\VR (I.new w w') q x/\Below w.heap.size w w'):FnO P f (.ptr 0 0::gs) [.abs (fsP r K)] λg rs=>g=q/\rs=[.abs (fsP r K)] :=
 ⟨B,λI V w vs hH u v=>by
  obtain⟨x,y,rfl,m,z⟩:=v.uncons;obtain⟨-,rfl⟩:=(show 0 < V.n/\x=.pointer (some ⟨V.b 0,0,none⟩) from m);obtain⟨-,j,l,N,s,t,A⟩:=hH.each 0 (.abs (fsP r K)) rfl;have a:=λb c=>hH.foot 0 (.abs (fsP r K)) b rfl c;refine(h I w _ j l N y hH.mem s t (Z59 C z)).mono λe w' ⟨x,he,m,c⟩=>⟨x,q,[.abs (fsP r K)],I.new w w',V,he,⟨rfl,rfl⟩,u,?_,?_,⟨c.os,c.tape,c.output,c.size,λb d _=>⟨c.block b d,λo=>Imm.new_old d⟩,Imm.new_le hH.mem,λk r b p i _=>⟨k,r,p,i⟩⟩,.refl _⟩
  .refine Sa u (Imm.new_mem hH.mem c) ⟨Hf _ _,Hf r K _ _ _ _ _ _ ⟨j,l,N,s,t,A⟩ (Imm.new_le hH.mem) c.os c.size λk p=>c.block k (a k p).1⟩ λb i=>⟨bc (a b i).1 c.size,λo=>?_⟩;rw[Imm.new_old (a b i).1];exact(a b i).2 o
  .exact m.res⟩
theorem Vn {I:Imm}{w:World}{l:List UInt8}{x:Value}(B:Mem I w)(h:VRep I (.sl (l.map gBy)) x):∃A c,x=.slice A l.length c/\l.length<=c/\Rd w w.heap.size 1 Iq A l:=by
 obtain⟨A,c,rs,e,F,y,G,t,q,u⟩:=Z8 (sz:=1) h B (λr hr=>by obtain⟨b,-,rfl⟩:=bi.1 hr;rfl);refine⟨A,c,by simpa using e,by simpa using F,λi b z=>?_⟩;have k:(l.map gBy)[i]?=some (gBy b):=by rw[ax,z];rfl
 have D:=(aq.1 k).1;have f:i < rs.length:=by omega
 obtain⟨a,rfl⟩:∃a,A=some a:=by
  cases A with
  | some a=>exact⟨a,rfl⟩
  | none=>rw[(y rfl).1] at k;simp at k
 have s:=t i _ _ k (ap f);have p:rs[i].length=1:=q _ (bu f);have E:=s.2 0 _ rs[i][0] (by rfl:(gBy b)[0]?=_) (ap (by omega));have d:=(u a rfl (i * 1+0) _ (Ci q (ap f) (ap (by omega:0 < rs[i].length)))).2;have n:=World.block_lt_of_cell? w _ d;have g:a.block < w.heap.size:=by have m:=n;unfold Addr.add at m;split at m<;>exact m
 refine⟨a,rfl,g,λj v o=>?_⟩;cases j with
 | succ j=>simp[Iq] at o
 | zero =>
  simp[Iq] at o;subst o;rw[E9 E] at d;have C:(a.add (i * 1)).add 0=a.add (i * 1+0):=by simp[Addr.add]
  rw[C];exact d
abbrev gH (h:Int × Int):G:=.agg [.v (.int .i64 h.1),.v (.int .i64 h.2)]
abbrev fP (r:RFs)(K:Nat):List R:=[.abs (fsP r K)]
theorem F4 {I:Imm}{h:Int × Int}{x:Value}(a:VRep I (gH h) x):x=.agg #[.int .i64 h.1,.int .i64 h.2]:=Jt (cs:=[.int .i64 h.1,.int .i64 h.2]) a
theorem Zde {I:Imm}(h:Int × Int):VRep I (gH h) (.agg #[.int .i64 h.1,.int .i64 h.2]):=P2 [.int .i64 h.1,.int .i64 h.2]
section
variable {r:RFs} {K:Nat}
theorem Za3 (h d:Int × Int)(s:ByteArray)(l:s.size<=maxLen):FnO Tryz.prog 71 [.ptr 0 0,gH h,gH d,gS s] (fP r K) λg rs=>g=gI (Ee r h d s).2/\rs=fP (Ee r h d s).1 (K+1)/\Gd (Ee r h d s).1 (K+1) :=
 Jn ⟨_,Tryz.func71,by kernel_rfl,by kernel_rfl⟩ rfl λI w b p q N vs t f c a=>⟨Z8j c _ _ _,by obtain⟨u,vs,rfl,m,a⟩:=a.uncons;obtain⟨n,vs,rfl,i,a⟩:=a.uncons;obtain⟨o,vs,rfl,k,a⟩:=a.uncons;obtain rfl:=a.of_nil;rw[F4 m,F4 i,E9 k];exact(Z2p f c h.1 h.2 d.1 d.2 s l).mono λe w' ⟨j,hS⟩=>⟨_,j,.v _,hS⟩⟩
theorem Z2w (h:Int × Int)(s:ByteArray)(k:s.size<=maxLen)(fo:Bool):FnO Tryz.prog 72 [.ptr 0 0,gH h,gS s,.v (.bool fo)] (fP r K) λg rs=>g=gI (Cb r h s fo).2/\rs=fP (Cb r h s fo).1 K/\Gd (Cb r h s fo).1 K :=
 Jn ⟨_,Tryz.func72,by kernel_rfl,by kernel_rfl⟩ rfl λI w b o p N vs q d c a=>⟨Z07 c _ _ _,by obtain⟨t,vs,rfl,l,a⟩:=a.uncons;obtain⟨m,vs,rfl,f,a⟩:=a.uncons;obtain⟨n,vs,rfl,j,a⟩:=a.uncons;obtain rfl:=a.of_nil;rw[F4 l,E9 f,E9 j];exact(Wp d c h.1 h.2 s k fo).mono λe w' ⟨i,hS⟩=>⟨_,i,.v _,hS⟩⟩
theorem Z2z (h:Int × Int)(s:ByteArray)(n:s.size<=maxLen)(d:Int × Int)(t:ByteArray)(j:t.size<=maxLen):FnO Tryz.prog 73 [.ptr 0 0,gH h,gS s,gH d,gS t] (fP r K) λg rs=>g=gI (E6 r h s d t).2/\rs=fP (E6 r h s d t).1 K/\Gd (E6 r h s d t).1 K :=
 Jn ⟨_,Tryz.func73,by kernel_rfl,by kernel_rfl⟩ rfl λI w b x y N vs z f c a=>⟨X5 c _ _ _ _,by obtain⟨A,vs,rfl,o,a⟩:=a.uncons;obtain⟨p,vs,rfl,i,a⟩:=a.uncons;obtain⟨q,vs,rfl,m,a⟩:=a.uncons;obtain⟨u,vs,rfl,k,a⟩:=a.uncons;obtain rfl:=a.of_nil;rw[F4 o,E9 i,F4 m,E9 k];exact(Vl f c h.1 h.2 s n d.1 d.2 t j).mono λe w' ⟨l,hS⟩=>⟨_,l,.v _,hS⟩⟩
theorem Zcy (h:Int × Int)(n t:Int):FnO Tryz.prog 75 [.ptr 0 0,gH h,gI n,gI t] (fP r K) λg rs=>g=gI (Fs r h n t).2/\rs=fP (Fs r h n t).1 K/\Gd (Fs r h n t).1 K :=
 Jn ⟨_,Tryz.func75,by kernel_rfl,by kernel_rfl⟩ rfl λI w b o p N vs q d c a=>⟨Za5 c _ _ _,by obtain⟨s,vs,rfl,k,a⟩:=a.uncons;obtain⟨l,vs,rfl,f,a⟩:=a.uncons;obtain⟨m,vs,rfl,j,a⟩:=a.uncons;obtain rfl:=a.of_nil;rw[F4 k,E9 f,E9 j];exact(Z4k d c h.1 h.2 n t).mono λe w' ⟨i,hS⟩=>⟨_,i,.v _,hS⟩⟩
theorem Z6r (h:Int × Int)(a:Int)(l:List UInt8)(m:l.length<=maxLen)(t:Int):FnO Tryz.prog 74 [.ptr 0 0,gH h,gI a,.sl (l.map gBy),gI t] (fP r K) λg rs=>g=gI (Bz r h a l t).2/\rs=fP (Bz r h a l t).1 K/\Gd (Bz r h a l t).1 K :=
 Jn ⟨_,Tryz.func74,by kernel_rfl,by kernel_rfl⟩ rfl λI w b B C N vs s i j d=>⟨Z43 i j _ _ _ _,by obtain⟨D,vs,rfl,q,d⟩:=d.uncons;obtain⟨x,vs,rfl,k,d⟩:=d.uncons;obtain⟨y,vs,rfl,p,d⟩:=d.uncons;obtain⟨z,vs,rfl,n,d⟩:=d.uncons;obtain rfl:=d.of_nil;obtain⟨A,c,rfl,u,f⟩:=Vn s p;rw[F4 q,E9 k,E9 n];exact(W4 i j h.1 h.2 a A c l m u f t).mono λe w' ⟨o,hS⟩=>⟨_,o,.v _,hS⟩⟩
theorem Zb1 (f:K<=1000000)(h:Int × Int)(s:ByteArray)(l:s.size<=maxLen)(m:RMk)(o:m.target.size<=maxLen):FnO Tryz.prog 31 [.ptr 0 0,gH h,gS s,.agg [gI m.kind,gI m.mode,gI m.time,gS m.target]] (fP r K) λg rs=>g=.tup [gH (D9 r h s m).2.1,gI (D9 r h s m).2.2]/\rs=fP (D9 r h s m).1 (K+1)/\Gd (D9 r h s m).1 (K+1) :=
 Jn ⟨_,Tryz.func31,by kernel_rfl,by kernel_rfl⟩ rfl λI w b t u N vs x i d a=>⟨Ru d _ _ _,by obtain⟨y,vs,rfl,n,a⟩:=a.uncons;obtain⟨p,vs,rfl,j,a⟩:=a.uncons;obtain⟨q,vs,rfl,c,a⟩:=a.uncons;obtain rfl:=a.of_nil;have c:=Jt (cs:=[.int .i64 m.kind,.int .i64 m.mode,.int .i64 m.time,.string m.target]) c;rw[F4 n,E9 j,c];exact(Z29 i d f h.1 h.2 s l m.kind m.mode m.time m.target o).mono λe w' ⟨k,hS⟩=>⟨_,k,Gi (Zde _) (.v _),hS⟩⟩
theorem Z9q (h:Int × Int)(s:ByteArray)(i:s.size<=maxLen):FnO Tryz.prog 76 [.ptr 0 0,gH h,gS s] (fP r K) λg rs=>g=.tup [gH (Fz r h s).1,gI (Fz r h s).2]/\rs=fP r K :=
 Lt ⟨_,Tryz.func76,by kernel_rfl,by kernel_rfl⟩ rfl λI w b m n N vs o c k a=>by obtain⟨p,vs,rfl,j,a⟩:=a.uncons;obtain⟨l,vs,rfl,d,a⟩:=a.uncons;obtain rfl:=a.of_nil;rw[F4 j,E9 d];exact(Z35 c k h.1 h.2 s i).mono λe w' ⟨f,hb⟩=>⟨_,f,Gi (Zde _) (.v _),hb⟩
theorem Zap (h:Int × Int):FnO Tryz.prog 51 [.ptr 0 0,gH h] (fP r K) λg rs=>g=Z4v r h/\rs=fP r K :=
 Lt ⟨_,Tryz.func51,by kernel_rfl,by kernel_rfl⟩ rfl λI w b j k N vs l c i a=>by
  obtain⟨m,vs,rfl,f,a⟩:=a.uncons;obtain rfl:=a.of_nil;rw[F4 f];refine(Z3z c i h.1 h.2).mono λe w' ⟨d,hb⟩=>⟨_,d,?_,hb⟩;unfold Z4v Vr;split
  .exact Gi (P2 [_,_,_,_,_,_,_,_]) (.v _)
  .exact Gi (P2 [_,_,_,_,_,_,_,_]) (.v _)
theorem Z8c (h:Int × Int)(a n:Int):FnO Tryz.prog 77 [.ptr 0 0,gH h,gI a,gI n] (fP r K) λg rs=>g=.tup [.sl ((Da r h a n).1.map gBy),gI (Da r h a n).2]/\rs=fP r K :=
 Lt ⟨_,Tryz.func77,by kernel_rfl,by kernel_rfl⟩ rfl λI w b x y N vs z k p c=>by
  obtain⟨B,vs,rfl,d,c⟩:=c.uncons;obtain⟨s,vs,rfl,m,c⟩:=c.uncons;obtain⟨t,vs,rfl,o,c⟩:=c.uncons;obtain rfl:=c.of_nil;rw[F4 d,E9 m,E9 o];refine(Z2 k p h.1 h.2 a n).mono λe w' ⟨A,he,ho,hb⟩=>⟨_,he,Gi ?_ (.v _),hb⟩;generalize (Da r (h.1,h.2) a n).1=l at ho;rcases ho with⟨rfl,rfl⟩ | ⟨q,hq,rfl,hcell⟩
  .exact .sl [] none 0 1 (λ_ _=>undef) (au _) (λ_=>rfl) (by simp) (λi r h=>by simp at h) (λi r j g h=>by simp at h)
  .have key:=VRep.sl (I:=I.new w w') (l.map gBy) (some ⟨q,0,none⟩) l.length 1 (λi _=>((l[i]?).map Ax).getD undef) (by simp) (λe=>by cases e) (λr hr=>by obtain⟨b,-,rfl⟩:=bi.1 hr;rfl) (λi r hr=>⟨q,0,rfl,λj u=>?_⟩) (λi r j g hr f=>?_)
   .simpa using key
   .rw[ax] at hr;obtain⟨b,d,-⟩:=bg.1 hr;obtain rfl:j=0:=by omega
    unfold Imm.new;rw[dp hq,cell_of_row w' q _ _ _ (0,0) hcell,d];simp[d]
   .rw[ax] at hr;obtain⟨b,d,rfl⟩:=bg.1 hr;cases j with
    | succ j=>simp[gBy] at f
    | zero =>
     simp[gBy] at f;subst f;rw[d];exact .v _
theorem Z94 (m:K<=1000000)(h:Int × Int):FnO Tryz.prog 78 [.ptr 0 0,gH h] (fP r K) λg rs=>g=.tup [.sl ((Jb r h).map gSt),gI (Az r h)]/\rs=fP r K :=
 Lt ⟨_,Tryz.func78,by kernel_rfl,by kernel_rfl⟩ rfl λI w b D E N vs F n p k=>by
  obtain⟨G,vs,rfl,z,k⟩:=k.uncons;obtain rfl:=k.of_nil;rw[F4 z];refine(Z1s n p m h.1 h.2).mono λe w' ⟨d,hb⟩=>?_;unfold Xu at d;split at d
  .next a =>
   refine⟨_,d,Gi ?_ (.v _),hb⟩;have:Jb r h=[]:=dn a;rw[this];exact .sl [] none 0 1 (λ_ _=>undef) (au _) (λ_=>rfl) (by simp) (λi r h=>by simp at h) (λi r j g h=>by simp at h)
  .next a =>
   have a:Az r h=0:=by simpa using a
   obtain⟨A,c,t,l,B,u,C,o⟩:=d;rw[a];refine⟨_,t,Gi ?_ (.v _),hb⟩;have e:=Ql r h a;have y:((λs:List UInt8=>(⟨s.toArray⟩:ByteArray)) ∘ λc:ByteArray=>c.data.toList)=id:=by funext c;cases c;rfl
   have q:Jb r h=(Fk (A9 r.nms h.1)).map λs=>⟨s.toArray⟩:=by rw[<-e,List.map_map,y,List.map_id]
   rw[q,List.map_map];exact Z3w (f:=gSt ∘ λs=>⟨s.toArray⟩) l B u C o (λ_=>rfl) (λx=>.cons (.v _) .nil)
theorem Zcw (room:Int)(hr:room<=9223372036854775807):FnO Tryz.prog 45 [gI room] [] λg rs=>g=.ptr 0 0/\rs=fP (Hv room) 0/\Gd (Hv room) 0 :=
 ⟨⟨_,Tryz.func45,by kernel_rfl,by kernel_rfl⟩,λI V w vs hH i j=>by
  obtain⟨A,vs,rfl,p,j⟩:=j.uncons;obtain rfl:=j.of_nil;have i:V.n=0:=i;rw[E9 p];refine(Z33 room w).mono λe w' ⟨f,l,m,N,he,hF,p,h2,h3,h4,hB⟩=>?_;have a:∀k∈fpL f l m N,w.heap.size<=k:=λk c=>by
   rcases Fy.1 c with rfl | rfl | rfl | ⟨n,i,c⟩
   .exact p
   .exact h2
   .exact h3
   .exact h4 n i k c
  have t:Mem I w':=hH.mem.keep λb o x s=>hB.block b (hH.mem.lt s);refine⟨_,.ptr 0 0,_,I,⟨1,λ_=>f,λ_=>undef,λ_ k=>k∈fpL f l m N⟩,he,⟨rfl,rfl,Uv hr,Z5t hF (Uv hr)⟩,rfl,Sa rfl t ⟨Hf _ _,l,m,N,hF,Uv hr,λk=>Iff.rfl⟩ λb d=>⟨?_,λo=>?_⟩,⟨da _,rfl⟩,⟨hB.os,hB.tape,hB.output,hB.size,λb d _=>⟨hB.block b d,λ_=>rfl⟩,λ_ _ _ h=>h,λk r b c d u=>?_⟩,⟨by show V.n<=1;omega,λk c=>by omega⟩⟩
  .obtain⟨q,z,v,y⟩:=hF.lt (Uv hr);rcases Fy.1 d with rfl | rfl | rfl | ⟨n,i,c⟩
   .exact q
   .exact z
   .exact v
   .exact y n i b c
  .cases hI:I b o with
   | none=>rfl
   | some x=>exact dq (hH.mem.lt hI) (by have:=a b d;omega)
  .have:=a b d;omega⟩
end
end Go.Proofs.YtmmdikhljefeiaaGreat
