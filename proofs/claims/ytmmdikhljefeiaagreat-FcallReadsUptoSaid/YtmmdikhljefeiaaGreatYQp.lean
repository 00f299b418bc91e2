
import Derived.Test.YtmmdikhljefeiaaGreatQM1
import Derived.Test.YtmmdikhljefeiaaGreatSxMc
import Derived.Test.YtmmdikhljefeiaaGreatFsXW
import Derived.Test.YtmmdikhljefeiaaGreatWA
import Derived.Test.YtmmdikhljefeiaaGreatYFtL
namespace Go.Proofs.YtmmdikhljefeiaaGreat
open Go.RowKit
def fsP (r:RFs)(K:Nat):Ob:=λ_ b S w=>∃a c N,FsN w b a c r N/\Wf r K/\∀k,S k↔k∈fpL b a c N
theorem Hc {b a c k:Nat}{N:List Nd}:k∈fpL b a c N↔(k=b\/k=a\/k=c\/∃n∈N,k∈n.foot):=by unfold fpL;simp only[List.mem_cons,List.mem_flatMap]
theorem I4 (r:RFs)(K:Nat):Loc (fsP r K):=λ_ _ _ _ _ _ ⟨c,mg,N,h,hW,hS⟩ _ _ _ hb=>by have a:∀k,k∈fpL _ c mg N->_:=λk b=>hb k ((hS k).2 b);exact⟨c,mg,N,h.keep (a _ (Hc.2 (.inl rfl))) (a _ (Hc.2 (.inr (.inl rfl)))) (a _ (Hc.2 (.inr (.inr (.inl rfl))))) (λn d k b=>a k (Hc.2 (.inr (.inr (.inr ⟨n,d,b⟩))))),hW,hS⟩
structure Gd (r:RFs)(K:Nat):Prop where
 wf:Wf r K
 shs:Shs r
theorem Z7k {r:RFs}{K:Nat}(a:Wf r K)(b:K<=1000000):Few r:=⟨by have:=a.cnt;omega,co a.nmK b,by have:=a.genL;omega⟩
theorem Z74 {w:World}{b m v K:Nat}{r:RFs}{N:List Nd}(h:FsN w b m v r N)(j:Wf r K):Shs r:=λx g=>by
 by_cases c:x.kind=1
 .obtain⟨n,u,hid⟩:=h.all x g;obtain⟨y,t,l⟩:=h.node n u;have i:y=x:=by
   have e:y.id=x.id:=l.id.symm.trans hid;exact Yy j.ids t g e
  subst i;obtain⟨size,bl,a,f⟩:=l.file c;have d:∀k∈y.On,k < 65536:=λk c=>by rw[f.on] at c;obtain⟨p,q,rfl⟩:=bj.1 ((Cg bl).mem_iff.1 c);exact a.keys p q
  refine⟨⟨by rw[f.len];exact a.small,?_⟩,d⟩;rw[f.on];have:(Fg bl).Nodup:=((Cg bl).nodup_iff).2 f.nodup;exact Z5t this (λk c=>d k (by rw[f.on];exact c))
 .obtain⟨o,s⟩:=j.file x g c;rw[o,s];exact⟨⟨by simp,by simp⟩,by simp⟩
theorem Jw {P:Program}{f:FuncId}{gs:List G}{r r':RFs}{K m:Nat}{y:G}(A:Ent P f)(Q:Bp Zec gs=true)
  (h:∀(I:Imm) (w:World) b i j N (vs:List Value),Mem I w->FsN w b i j r N->Wf r K->PW (VRep I) gs vs->Wf r' m/\Calls P f (.pointer (some ⟨b,0,none⟩)::vs).toArray w λe w'=>∃x,e=.returned x/\VR I y x/\Cs w w' b i j N r'):FnO P f (.ptr 0 0::gs) [.abs (fsP r K)] λg rs=>g=y/\rs=[.abs (fsP r' m)]/\Gd r' m :=
 ⟨A,λI V w vs hH s M=>by
  obtain⟨x,O,rfl,l,F⟩:=M.uncons;obtain⟨-,rfl⟩:=(show 0 < V.n/\x=.pointer (some ⟨V.b 0,0,none⟩) from l);obtain⟨-,i,j,N,L,C,p⟩:=hH.each 0 (.abs (fsP r K)) rfl;have c:=λb a=>hH.foot 0 (.abs (fsP r K)) b rfl a;obtain⟨d,H⟩:=h I w _ i j N O hH.mem L C (Z77 Q F);refine H.mono λe w' ⟨x,he,l,N',h1,h2,h3⟩=>⟨x,y,[.abs (fsP r' m)],I,V.setF 0 (λk=>k∈fpL (V.b 0) i j N'),he,⟨rfl,rfl,d,Z74 h1 d⟩,s,?_,?_,⟨h3.os,h3.tape,h3.output,h3.size,λb a v=>⟨h3.block b a λt=>v 0 _ rfl ((p b).2 t),λ_=>rfl⟩,λ_ _ _ h=>h,λk r b q a J=>?_⟩,⟨au _,λ_ _=>⟨rfl,rfl⟩⟩⟩
  .have E:Mem I w':=hH.mem.keep λb o x l=>h3.block b (hH.mem.lt l) λt=>by
    have:=(c b ((p b).2 t)).2 o;rw[l] at this;cases this
   refine U0 s E ⟨I4 _ _,i,j,N',h1,d,λk=>Iff.rfl⟩ λb a=>?_;have a:b∈fpL (V.b 0) i j N':=a;refine⟨?_,λo=>?_⟩
   .obtain⟨z,D,R,B⟩:=h1.lt d;rcases Hc.1 a with rfl | rfl | rfl | ⟨n,s,q⟩
    .exact z
    .exact D
    .exact R
    .exact B n s b q
   .rcases h2 b a with a | a
    .exact(c b ((p b).2 a)).2 o
    .cases hI:I b o with
     | none=>rfl
     | some x=>exact du (hH.mem.lt hI) (by omega)
  .exact l.res
  .have u:k=0:=by
    rw[Bi] at q;cases k with
    | zero=>rfl
    | succ k=>simp at q
   subst u;have a:b∈fpL (V.b 0) i j N':=a;rcases h2 b a with a | a
   .exact⟨0,_,rfl,(p b).2 a⟩
   .omega⟩
theorem Kk {P:Program}{f:FuncId}{gs:List G}{r:RFs}{K:Nat}{q:G}(v:Ent P f)(C:Bp Zec gs=true)
  (h:∀(I:Imm) (w:World) b j l N (vs:List Value),Mem I w->FsN w b j l r N->Wf r K->PW (VRep I) gs vs->Calls P f (.pointer (some ⟨b,0,none⟩)::vs).toArray w λe w'=>∃x,e=.returned x/\VR (I.new w w') q x/\Below w.heap.size w w'):FnO P f (.ptr 0 0::gs) [.abs (fsP r K)] λg rs=>g=q/\rs=[.abs (fsP r K)] :=
 ⟨v,λI V w vs hH u A=>by
  obtain⟨x,B,rfl,m,z⟩:=A.uncons;obtain⟨-,rfl⟩:=(show 0 < V.n/\x=.pointer (some ⟨V.b 0,0,none⟩) from m);obtain⟨-,j,l,N,t,s,y⟩:=hH.each 0 (.abs (fsP r K)) rfl;have a:=λb c=>hH.foot 0 (.abs (fsP r K)) b rfl c;refine(h I w _ j l N B hH.mem t s (Z77 C z)).mono λe w' ⟨x,he,m,c⟩=>⟨x,q,[.abs (fsP r K)],I.new w w',V,he,⟨rfl,rfl⟩,u,?_,?_,⟨c.os,c.tape,c.output,c.size,λb d _=>⟨c.block b d,λo=>Imm.new_old d⟩,Imm.new_le hH.mem,λk r b p i _=>⟨k,r,p,i⟩⟩,.refl _⟩
  .refine U0 u (Imm.new_mem hH.mem c) ⟨I4 _ _,I4 r K _ _ _ _ _ _ ⟨j,l,N,t,s,y⟩ (Imm.new_le hH.mem) c.os c.size λk p=>c.block k (a k p).1⟩ λb i=>⟨bc (a b i).1 c.size,λo=>?_⟩;rw[Imm.new_old (a b i).1];exact(a b i).2 o
  .exact m.res⟩
theorem Y3 {I:Imm}{w:World}{l:List UInt8}{x:Value}(z:Mem I w)(h:VRep I (.sl (l.map gBy)) x):∃A c,x=.slice A l.length c/\l.length<=c/\Rd w w.heap.size 1 Jc A l:=by
 obtain⟨A,c,rs,e,B,E,G,s,q,u⟩:=Z04 (sz:=1) h z (λr hr=>by obtain⟨b,-,rfl⟩:=bj.1 hr;rfl);refine⟨A,c,by simpa using e,by simpa using B,λi b D=>?_⟩;have k:(l.map gBy)[i]?=some (gBy b):=by rw[ax,D];rfl
 have t:=(aq.1 k).1;have f:i < rs.length:=by omega
 obtain⟨a,rfl⟩:∃a,A=some a:=by
  cases A with
  | some a=>exact⟨a,rfl⟩
  | none=>rw[(E rfl).1] at k;simp at k
 have C:=s i _ _ k (ap f);have p:rs[i].length=1:=q _ (bw f);have F:=C.2 0 _ rs[i][0] (by rfl:(gBy b)[0]?=_) (ap (by omega));have d:=(u a rfl (i * 1+0) _ (Cm q (ap f) (ap (by omega:0 < rs[i].length)))).2;have o:=World.block_lt_of_cell? w _ d;have g:a.block < w.heap.size:=by have m:=o;unfold Addr.add at m;split at m<;>exact m
 refine⟨a,rfl,g,λj v n=>?_⟩;cases j with
 | succ j=>simp[Jc] at n
 | zero =>
  simp[Jc] at n;subst n;rw[En F] at d;have y:(a.add (i * 1)).add 0=a.add (i * 1+0):=by simp[Addr.add]
  rw[y];exact d
abbrev gH (h:Int × Int):G:=.agg [.v (.int .i64 h.1),.v (.int .i64 h.2)]
abbrev fP (r:RFs)(K:Nat):List R:=[.abs (fsP r K)]
theorem Fe {I:Imm}{h:Int × Int}{x:Value}(a:VRep I (gH h) x):x=.agg #[.int .i64 h.1,.int .i64 h.2]:=Ku (cs:=[.int .i64 h.1,.int .i64 h.2]) a
theorem Zgd {I:Imm}(h:Int × Int):VRep I (gH h) (.agg #[.int .i64 h.1,.int .i64 h.2]):=Pt [.int .i64 h.1,.int .i64 h.2]
section
variable {r:RFs} {K:Nat}
theorem Zbr (h d:Int × Int)(s:ByteArray)(m:s.size<=maxLen):FnO Tryz.prog 71 [.ptr 0 0,gH h,gH d,gS s] (fP r K) λg rs=>g=gI (E9 r h d s).2/\rs=fP (E9 r h d s).1 (K+1)/\Gd (E9 r h d s).1 (K+1) :=
 Jw ⟨_,Tryz.func71,by kernel_rfl,by kernel_rfl⟩ rfl λI w b n p N vs u j c a=>⟨Z9u c _ _ _,by obtain⟨q,vs,rfl,f,a⟩:=a.uncons;obtain⟨t,vs,rfl,i,a⟩:=a.uncons;obtain⟨o,vs,rfl,l,a⟩:=a.uncons;obtain rfl:=a.of_nil;rw[Fe f,Fe i,En l];exact(Z3s j c h.1 h.2 d.1 d.2 s m).mono λe w' ⟨k,hS⟩=>⟨_,k,.v _,hS⟩⟩
theorem Z42 (h:Int × Int)(s:ByteArray)(l:s.size<=maxLen)(fo:Bool):FnO Tryz.prog 72 [.ptr 0 0,gH h,gS s,.v (.bool fo)] (fP r K) λg rs=>g=gI (C3 r h s fo).2/\rs=fP (C3 r h s fo).1 K/\Gd (C3 r h s fo).1 K :=
 Jw ⟨_,Tryz.func72,by kernel_rfl,by kernel_rfl⟩ rfl λI w b m o N vs t i c a=>⟨Z18 c _ _ _,by obtain⟨p,vs,rfl,d,a⟩:=a.uncons;obtain⟨q,vs,rfl,f,a⟩:=a.uncons;obtain⟨n,vs,rfl,k,a⟩:=a.uncons;obtain rfl:=a.of_nil;rw[Fe d,En f,En k];exact(Xe i c h.1 h.2 s l fo).mono λe w' ⟨j,hS⟩=>⟨_,j,.v _,hS⟩⟩
theorem Z3e (h:Int × Int)(s:ByteArray)(o:s.size<=maxLen)(d:Int × Int)(t:ByteArray)(k:t.size<=maxLen):FnO Tryz.prog 73 [.ptr 0 0,gH h,gS s,gH d,gS t] (fP r K) λg rs=>g=gI (Da r h s d t).2/\rs=fP (Da r h s d t).1 K/\Gd (Da r h s d t).1 K :=
 Jw ⟨_,Tryz.func73,by kernel_rfl,by kernel_rfl⟩ rfl λI w b p x N vs A j c a=>⟨Z32 c _ _ _ _,by obtain⟨y,vs,rfl,f,a⟩:=a.uncons;obtain⟨z,vs,rfl,i,a⟩:=a.uncons;obtain⟨q,vs,rfl,n,a⟩:=a.uncons;obtain⟨u,vs,rfl,m,a⟩:=a.uncons;obtain rfl:=a.of_nil;rw[Fe f,En i,Fe n,En m];exact(Wo j c h.1 h.2 s o d.1 d.2 t k).mono λe w' ⟨l,hS⟩=>⟨_,l,.v _,hS⟩⟩
theorem Zft (h:Int × Int)(n t:Int):FnO Tryz.prog 75 [.ptr 0 0,gH h,gI n,gI t] (fP r K) λg rs=>g=gI (Fm r h n t).2/\rs=fP (Fm r h n t).1 K/\Gd (Fm r h n t).1 K :=
 Jw ⟨_,Tryz.func75,by kernel_rfl,by kernel_rfl⟩ rfl λI w b l o N vs s i c a=>⟨Zbs c _ _ _,by obtain⟨p,vs,rfl,d,a⟩:=a.uncons;obtain⟨q,vs,rfl,f,a⟩:=a.uncons;obtain⟨m,vs,rfl,k,a⟩:=a.uncons;obtain rfl:=a.of_nil;rw[Fe d,En f,En k];exact(Z5v i c h.1 h.2 n t).mono λe w' ⟨j,hS⟩=>⟨_,j,.v _,hS⟩⟩
theorem Z94 (h:Int × Int)(a:Int)(l:List UInt8)(s:l.length<=maxLen)(t:Int):FnO Tryz.prog 74 [.ptr 0 0,gH h,gI a,.sl (l.map gBy),gI t] (fP r K) λg rs=>g=gI (Bz r h a l t).2/\rs=fP (Bz r h a l t).1 K/\Gd (Bz r h a l t).1 K :=
 Jw ⟨_,Tryz.func74,by kernel_rfl,by kernel_rfl⟩ rfl λI w b x B N vs q i j d=>⟨Z3x i j _ _ _ _,by obtain⟨C,vs,rfl,k,d⟩:=d.uncons;obtain⟨D,vs,rfl,m,d⟩:=d.uncons;obtain⟨y,vs,rfl,p,d⟩:=d.uncons;obtain⟨z,vs,rfl,o,d⟩:=d.uncons;obtain rfl:=d.of_nil;obtain⟨A,c,rfl,u,f⟩:=Y3 q p;rw[Fe k,En m,En o];exact(Xg i j h.1 h.2 a A c l s u f t).mono λe w' ⟨n,hS⟩=>⟨_,n,.v _,hS⟩⟩
theorem Z7r (n:K<=1000000)(h:Int × Int)(s:ByteArray)(o:s.size<=maxLen)(m:RMk)(i:m.target.size<=maxLen):FnO Tryz.prog 31 [.ptr 0 0,gH h,gS s,.agg [gI m.kind,gI m.mode,gI m.time,gS m.target]] (fP r K) λg rs=>g=.tup [gH (D7 r h s m).2.1,gI (D7 r h s m).2.2]/\rs=fP (D7 r h s m).1 (K+1)/\Gd (D7 r h s m).1 (K+1) :=
 Jw ⟨_,Tryz.func31,by kernel_rfl,by kernel_rfl⟩ rfl λI w b p t N vs y k d a=>⟨Ud d _ _ _,by obtain⟨u,vs,rfl,f,a⟩:=a.uncons;obtain⟨x,vs,rfl,j,a⟩:=a.uncons;obtain⟨q,vs,rfl,c,a⟩:=a.uncons;obtain rfl:=a.of_nil;have c:=Ku (cs:=[.int .i64 m.kind,.int .i64 m.mode,.int .i64 m.time,.string m.target]) c;rw[Fe f,En j,c];exact(Z4r k d n h.1 h.2 s o m.kind m.mode m.time m.target i).mono λe w' ⟨l,hS⟩=>⟨_,l,Fw (Zgd _) (.v _),hS⟩⟩
theorem Zc4 (h:Int × Int)(s:ByteArray)(k:s.size<=maxLen):FnO Tryz.prog 76 [.ptr 0 0,gH h,gS s] (fP r K) λg rs=>g=.tup [gH (Fk r h s).1,gI (Fk r h s).2]/\rs=fP r K :=
 Kk ⟨_,Tryz.func76,by kernel_rfl,by kernel_rfl⟩ rfl λI w b l m N vs p f i a=>by obtain⟨n,vs,rfl,c,a⟩:=a.uncons;obtain⟨o,vs,rfl,d,a⟩:=a.uncons;obtain rfl:=a.of_nil;rw[Fe c,En d];exact(Z4x f i h.1 h.2 s k).mono λe w' ⟨j,hb⟩=>⟨_,j,Fw (Zgd _) (.v _),hb⟩
theorem Zbe:FnO Tryz.prog 32 [.ptr 0 0] (fP r K) λg rs=>g=gH (1,1)/\rs=fP r K:=by refine Z4u Tryz.func32 (Zeq _ _) ?_;exact Za5 rfl rfl ⟨rfl,rfl⟩
theorem Zb2:FnO Tryz.prog 53 [.ptr 0 0] (fP r K) λg rs=>g=.tup [gI (Kh r),gI (200 - (r.ins.length:Int))]/\rs=fP r K :=
 Kk ⟨_,Tryz.func53,by kernel_rfl,by kernel_rfl⟩ rfl λI w b h i N vs j a d c=>by obtain rfl:=c.of_nil;exact(Z60 a d).mono λe w' ⟨f,hb⟩=>⟨_,f,Fw (.v _) (.v _),hb⟩
theorem Z7t (h:Int × Int):FnO Tryz.prog 51 [.ptr 0 0,gH h] (fP r K) λg rs=>g=Ya r h/\rs=fP r K :=
 Kk ⟨_,Tryz.func51,by kernel_rfl,by kernel_rfl⟩ rfl λI w b j k N vs m d f a=>by
  obtain⟨l,vs,rfl,c,a⟩:=a.uncons;obtain rfl:=a.of_nil;rw[Fe c];refine(Z5a d f h.1 h.2).mono λe w' ⟨i,hb⟩=>⟨_,i,?_,hb⟩;unfold Ya Xz;split
  .exact Fw (Pt [_,_,_,_,_,_,_,_]) (.v _)
  .exact Fw (Pt [_,_,_,_,_,_,_,_]) (.v _)
theorem Z9v (h:Int × Int)(a n:Int):FnO Tryz.prog 77 [.ptr 0 0,gH h,gI a,gI n] (fP r K) λg rs=>g=.tup [.sl ((Ct r h a n).1.map gBy),gI (Ct r h a n).2]/\rs=fP r K :=
 Kk ⟨_,Tryz.func77,by kernel_rfl,by kernel_rfl⟩ rfl λI w b s x N vs B m o c=>by
  obtain⟨y,vs,rfl,d,c⟩:=c.uncons;obtain⟨z,vs,rfl,k,c⟩:=c.uncons;obtain⟨u,vs,rfl,p,c⟩:=c.uncons;obtain rfl:=c.of_nil;rw[Fe d,En k,En p];refine(Z11 m o h.1 h.2 a n).mono λe w' ⟨A,he,ho,hb⟩=>⟨_,he,Fw ?_ (.v _),hb⟩;generalize (Ct r (h.1,h.2) a n).1=l at ho;rcases ho with⟨rfl,rfl⟩ | ⟨q,hq,rfl,hcell⟩
  .exact .sl [] none 0 1 (λ_ _=>undef) (au _) (λ_=>rfl) (by simp) (λi r h=>by simp at h) (λi r j g h=>by simp at h)
  .have key:=VRep.sl (I:=I.new w w') (l.map gBy) (some ⟨q,0,none⟩) l.length 1 (λi _=>((l[i]?).map B3).getD undef) (by simp) (λe=>by cases e) (λr hr=>by obtain⟨b,-,rfl⟩:=bj.1 hr;rfl) (λi r hr=>⟨q,0,rfl,λj t=>?_⟩) (λi r j g hr f=>?_)
   .simpa using key
   .rw[ax] at hr;obtain⟨b,d,-⟩:=bg.1 hr;obtain rfl:j=0:=by omega
    unfold Imm.new;rw[dt hq,cell_of_row w' q _ _ _ (0,0) hcell,d];simp[d]
   .rw[ax] at hr;obtain⟨b,d,rfl⟩:=bg.1 hr;cases j with
    | succ j=>simp[gBy] at f
    | zero =>
     simp[gBy] at f;subst f;rw[d];exact .v _
theorem Zbb (o:K<=1000000)(h:Int × Int):FnO Tryz.prog 78 [.ptr 0 0,gH h] (fP r K) λg rs=>g=.tup [.sl ((Fd r h).map gSt),gI (Ab r h)]/\rs=fP r K :=
 Kk ⟨_,Tryz.func78,by kernel_rfl,by kernel_rfl⟩ rfl λI w b E F N vs D t n k=>by
  obtain⟨G,vs,rfl,m,k⟩:=k.uncons;obtain rfl:=k.of_nil;rw[Fe m];refine(Z4f t n o h.1 h.2).mono λe w' ⟨d,hb⟩=>?_;unfold Zo at d;split at d
  .next a =>
   refine⟨_,d,Fw ?_ (.v _),hb⟩;have:Fd r h=[]:=dq a;rw[this];exact .sl [] none 0 1 (λ_ _=>undef) (au _) (λ_=>rfl) (by simp) (λi r h=>by simp at h) (λi r j g h=>by simp at h)
  .next a =>
   have a:Ab r h=0:=by simpa using a
   obtain⟨A,c,u,l,B,C,q,z⟩:=d;rw[a];refine⟨_,u,Fw ?_ (.v _),hb⟩;have e:=Ra r h a;have p:((λs:List UInt8=>(⟨s.toArray⟩:ByteArray)) ∘ λc:ByteArray=>c.data.toList)=id:=by funext c;cases c;rfl
   have y:Fd r h=(Fz (Aa r.nms h.1)).map λs=>⟨s.toArray⟩:=by rw[<-e,List.map_map,p,List.map_id]
   rw[y,List.map_map];exact Z6l (f:=gSt ∘ λs=>⟨s.toArray⟩) l B C q z (λ_=>rfl) (λx=>.cons (.v _) .nil)
theorem Zf2 (room:Int)(hr:room<=9223372036854775807):FnO Tryz.prog 45 [gI room] [] λg rs=>g=.ptr 0 0/\rs=fP (Et room) 0/\Gd (Et room) 0 :=
 ⟨⟨_,Tryz.func45,by kernel_rfl,by kernel_rfl⟩,λI V w vs hH i m=>by
  obtain⟨A,vs,rfl,j,m⟩:=m.uncons;obtain rfl:=m.of_nil;have i:V.n=0:=i;rw[En j];refine(Z58 room w).mono λe w' ⟨f,l,p,N,he,hF,j,h2,h3,h4,hB⟩=>?_;have a:∀k∈fpL f l p N,w.heap.size<=k:=λk c=>by
   rcases Hc.1 c with rfl | rfl | rfl | ⟨n,i,c⟩
   .exact j
   .exact h2
   .exact h3
   .exact h4 n i k c
  have v:Mem I w':=hH.mem.keep λb o x t=>hB.block b (hH.mem.lt t);refine⟨_,.ptr 0 0,_,I,⟨1,λ_=>f,λ_=>undef,λ_ k=>k∈fpL f l p N⟩,he,⟨rfl,rfl,Vo hr,Z74 hF (Vo hr)⟩,rfl,U0 rfl v ⟨I4 _ _,l,p,N,hF,Vo hr,λk=>Iff.rfl⟩ λb d=>⟨?_,λo=>?_⟩,⟨dc _,rfl⟩,⟨hB.os,hB.tape,hB.output,hB.size,λb d _=>⟨hB.block b d,λ_=>rfl⟩,λ_ _ _ h=>h,λk r b c d y=>?_⟩,⟨by show V.n<=1;omega,λk c=>by omega⟩⟩
  .obtain⟨q,u,z,s⟩:=hF.lt (Vo hr);rcases Hc.1 d with rfl | rfl | rfl | ⟨n,i,c⟩
   .exact q
   .exact u
   .exact z
   .exact s n i b c
  .cases hI:I b o with
   | none=>rfl
   | some x=>exact du (hH.mem.lt hI) (by have:=a b d;omega)
  .have:=a b d;omega⟩
end
end Go.Proofs.YtmmdikhljefeiaaGreat
