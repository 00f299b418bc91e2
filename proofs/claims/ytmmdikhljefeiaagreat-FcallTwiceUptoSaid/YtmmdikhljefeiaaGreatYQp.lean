
import Derived.Test.YtmmdikhljefeiaaGreatQM1
import Derived.Test.YtmmdikhljefeiaaGreatSxMc
import Derived.Test.YtmmdikhljefeiaaGreatFsXW
import Derived.Test.YtmmdikhljefeiaaGreatWA
import Derived.Test.YtmmdikhljefeiaaGreatYFtL
namespace Go.Proofs.YtmmdikhljefeiaaGreat
open Go.RowKit
def fsP (r:RFs)(K:Nat):Ob:=λ_ b S w=>∃c a N,FsN w b c a r N/\Wf r K/\∀k,S k↔k∈fpL b c a N
theorem Gg {b c a k:Nat}{N:List Nd}:k∈fpL b c a N↔(k=b\/k=c\/k=a\/∃n∈N,k∈n.foot):=by unfold fpL;simp only[List.mem_cons,List.mem_flatMap]
theorem I9 (r:RFs)(K:Nat):Loc (fsP r K):=λ_ _ _ _ _ _ ⟨c,mg,N,h,hW,hS⟩ _ _ _ hb=>by have a:∀k,k∈fpL _ c mg N->_:=λk b=>hb k ((hS k).2 b);exact⟨c,mg,N,h.keep (a _ (Gg.2 (.inl rfl))) (a _ (Gg.2 (.inr (.inl rfl)))) (a _ (Gg.2 (.inr (.inr (.inl rfl))))) (λn d k b=>a k (Gg.2 (.inr (.inr (.inr ⟨n,d,b⟩))))),hW,hS⟩
structure Gd (r:RFs)(K:Nat):Prop where
 wf:Wf r K
 shs:Shs r
theorem Z6k {r:RFs}{K:Nat}(a:Wf r K)(b:K<=1000000):Few r:=⟨by have:=a.cnt;omega,cn a.nmK b,by have:=a.genL;omega⟩
theorem Z75 {w:World}{b t s K:Nat}{r:RFs}{N:List Nd}(h:FsN w b t s r N)(l:Wf r K):Shs r:=λx i=>by
 by_cases c:x.kind=1
 .obtain⟨n,u,hid⟩:=h.all x i;obtain⟨y,o,j⟩:=h.node n u;have g:y=x:=by
   have e:y.id=x.id:=j.id.symm.trans hid;exact Zs l.ids o i e
  subst g;obtain⟨size,bl,a,d⟩:=j.file c;have f:∀k∈y.On,k < 65536:=λk c=>by rw[d.on] at c;obtain⟨p,m,rfl⟩:=bk.1 ((Cg bl).mem_iff.1 c);exact a.keys p m
  refine⟨⟨by rw[d.len];exact a.small,?_⟩,f⟩;rw[d.on];have:(Fj bl).Nodup:=((Cg bl).nodup_iff).2 d.nodup;exact Z38 this (λk c=>f k (by rw[d.on];exact c))
 .obtain⟨v,q⟩:=l.file x i c;rw[v,q];exact⟨⟨by simp,by simp⟩,by simp⟩
theorem Kc {P:Program}{f:FuncId}{gs:List G}{r r':RFs}{K q:Nat}{v:G}(A:Ent P f)(L:Bw Zec gs=true)
  (h:∀(I:Imm) (w:World) b j i N (vs:List Value),Mem I w->FsN w b j i r N->Wf r K->PW (VRep I) gs vs->Wf r' q/\Calls P f (.pointer (some ⟨b,0,none⟩)::vs).toArray w λe w'=>∃x,e=.returned x/\VR I v x/\Cr w w' b j i N r'):FnO P f (.ptr 0 0::gs) [.abs (fsP r K)] λg rs=>g=v/\rs=[.abs (fsP r' q)]/\Gd r' q :=
 ⟨A,λI V w vs hH p J=>by
  obtain⟨x,E,rfl,l,O⟩:=J.uncons;obtain⟨-,rfl⟩:=(show 0 < V.n/\x=.pointer (some ⟨V.b 0,0,none⟩) from l);obtain⟨-,j,i,N,R,z,s⟩:=hH.each 0 (.abs (fsP r K)) rfl;have c:=λb a=>hH.foot 0 (.abs (fsP r K)) b rfl a;obtain⟨d,M⟩:=h I w _ j i N E hH.mem R z (Z78 L O);refine M.mono λe w' ⟨x,he,l,N',h1,h2,h3⟩=>⟨x,v,[.abs (fsP r' q)],I,V.setF 0 (λk=>k∈fpL (V.b 0) j i N'),he,⟨rfl,rfl,d,Z75 h1 d⟩,p,?_,?_,⟨h3.os,h3.tape,h3.output,h3.size,λb a y=>⟨h3.block b a λu=>y 0 _ rfl ((s b).2 u),λ_=>rfl⟩,λ_ _ _ h=>h,λk r b m a Q=>?_⟩,⟨av _,λ_ _=>⟨rfl,rfl⟩⟩⟩
  .have B:Mem I w':=hH.mem.keep λb o x l=>h3.block b (hH.mem.lt l) λu=>by
    have:=(c b ((s b).2 u)).2 o;rw[l] at this;cases this
   refine Sr p B ⟨I9 _ _,j,i,N',h1,d,λk=>Iff.rfl⟩ λb a=>?_;have a:b∈fpL (V.b 0) j i N':=a;refine⟨?_,λo=>?_⟩
   .obtain⟨C,D,H,F⟩:=h1.lt d;rcases Gg.1 a with rfl | rfl | rfl | ⟨n,p,m⟩
    .exact C
    .exact D
    .exact H
    .exact F n p b m
   .rcases h2 b a with a | a
    .exact(c b ((s b).2 a)).2 o
    .cases hI:I b o with
     | none=>rfl
     | some x=>exact dt (hH.mem.lt hI) (by omega)
  .exact l.res
  .have t:k=0:=by
    rw[Bl] at m;cases k with
    | zero=>rfl
    | succ k=>simp at m
   subst t;have a:b∈fpL (V.b 0) j i N':=a;rcases h2 b a with a | a
   .exact⟨0,_,rfl,(s b).2 a⟩
   .omega⟩
theorem Ki {P:Program}{f:FuncId}{gs:List G}{r:RFs}{K:Nat}{p:G}(v:Ent P f)(A:Bw Zec gs=true)
  (h:∀(I:Imm) (w:World) b l j N (vs:List Value),Mem I w->FsN w b l j r N->Wf r K->PW (VRep I) gs vs->Calls P f (.pointer (some ⟨b,0,none⟩)::vs).toArray w λe w'=>∃x,e=.returned x/\VR (I.new w w') p x/\Below w.heap.size w w'):FnO P f (.ptr 0 0::gs) [.abs (fsP r K)] λg rs=>g=p/\rs=[.abs (fsP r K)] :=
 ⟨v,λI V w vs hH t z=>by
  obtain⟨x,y,rfl,q,C⟩:=z.uncons;obtain⟨-,rfl⟩:=(show 0 < V.n/\x=.pointer (some ⟨V.b 0,0,none⟩) from q);obtain⟨-,l,j,N,u,s,B⟩:=hH.each 0 (.abs (fsP r K)) rfl;have a:=λb c=>hH.foot 0 (.abs (fsP r K)) b rfl c;refine(h I w _ l j N y hH.mem u s (Z78 A C)).mono λe w' ⟨x,he,q,c⟩=>⟨x,p,[.abs (fsP r K)],I.new w w',V,he,⟨rfl,rfl⟩,t,?_,?_,⟨c.os,c.tape,c.output,c.size,λb i _=>⟨c.block b i,λo=>Imm.new_old i⟩,Imm.new_le hH.mem,λk r b m d _=>⟨k,r,m,d⟩⟩,.refl _⟩
  .refine Sr t (Imm.new_mem hH.mem c) ⟨I9 _ _,I9 r K _ _ _ _ _ _ ⟨l,j,N,u,s,B⟩ (Imm.new_le hH.mem) c.os c.size λk m=>c.block k (a k m).1⟩ λb d=>⟨bd (a b d).1 c.size,λo=>?_⟩;rw[Imm.new_old (a b d).1];exact(a b d).2 o
  .exact q.res⟩
theorem Wh {I:Imm}{w:World}{l:List UInt8}{x:Value}(t:Mem I w)(h:VRep I (.sl (l.map gBy)) x):∃A c,x=.slice A l.length c/\l.length<=c/\Rd w w.heap.size 1 Ih A l:=by
 obtain⟨A,c,rs,e,F,u,G,B,q,E⟩:=Z1e (sz:=1) h t (λr hr=>by obtain⟨b,-,rfl⟩:=bk.1 hr;rfl);refine⟨A,c,by simpa using e,by simpa using F,λi b D=>?_⟩;have k:(l.map gBy)[i]?=some (gBy b):=by rw[ay,D];rfl
 have y:=(ar.1 k).1;have f:i < rs.length:=by omega
 obtain⟨a,rfl⟩:∃a,A=some a:=by
  cases A with
  | some a=>exact⟨a,rfl⟩
  | none=>rw[(u rfl).1] at k;simp at k
 have z:=B i _ _ k (aq f);have p:rs[i].length=1:=q _ (bw f);have C:=z.2 0 _ rs[i][0] (by rfl:(gBy b)[0]?=_) (aq (by omega));have d:=(E a rfl (i * 1+0) _ (Co q (aq f) (aq (by omega:0 < rs[i].length)))).2;have n:=World.block_lt_of_cell? w _ d;have g:a.block < w.heap.size:=by have o:=n;unfold Addr.add at o;split at o<;>exact o
 refine⟨a,rfl,g,λj v m=>?_⟩;cases j with
 | succ j=>simp[Ih] at m
 | zero =>
  simp[Ih] at m;subst m;rw[Ei C] at d;have s:(a.add (i * 1)).add 0=a.add (i * 1+0):=by simp[Addr.add]
  rw[s];exact d
abbrev gH (h:Int × Int):G:=.agg [.v (.int .i64 h.1),.v (.int .i64 h.2)]
abbrev fP (r:RFs)(K:Nat):List R:=[.abs (fsP r K)]
theorem Fm {I:Imm}{h:Int × Int}{x:Value}(a:VRep I (gH h) x):x=.agg #[.int .i64 h.1,.int .i64 h.2]:=Kr (cs:=[.int .i64 h.1,.int .i64 h.2]) a
theorem Zg1 {I:Imm}(h:Int × Int):VRep I (gH h) (.agg #[.int .i64 h.1,.int .i64 h.2]):=Pa [.int .i64 h.1,.int .i64 h.2]
section
variable {r:RFs} {K:Nat}
theorem Zd5 (h d:Int × Int)(s:ByteArray)(f:s.size<=maxLen):FnO Tryz.prog 71 [.ptr 0 0,gH h,gH d,gS s] (fP r K) λg rs=>g=gI (E7 r h d s).2/\rs=fP (E7 r h d s).1 (K+1)/\Gd (E7 r h d s).1 (K+1) :=
 Kc ⟨_,Tryz.func71,by kernel_rfl,by kernel_rfl⟩ rfl λI w b t n N vs o m c a=>⟨Z7w c _ _ _,by obtain⟨p,vs,rfl,j,a⟩:=a.uncons;obtain⟨u,vs,rfl,i,a⟩:=a.uncons;obtain⟨q,vs,rfl,l,a⟩:=a.uncons;obtain rfl:=a.of_nil;rw[Fm j,Fm i,Ei l];exact(Z69 m c h.1 h.2 d.1 d.2 s f).mono λe w' ⟨k,hS⟩=>⟨_,k,.v _,hS⟩⟩
theorem Z5g (h:Int × Int)(s:ByteArray)(d:s.size<=maxLen)(fo:Bool):FnO Tryz.prog 72 [.ptr 0 0,gH h,gS s,.v (.bool fo)] (fP r K) λg rs=>g=gI (C4 r h s fo).2/\rs=fP (C4 r h s fo).1 K/\Gd (C4 r h s fo).1 K :=
 Kc ⟨_,Tryz.func72,by kernel_rfl,by kernel_rfl⟩ rfl λI w b q m N vs n l c a=>⟨Z2l c _ _ _,by obtain⟨o,vs,rfl,i,a⟩:=a.uncons;obtain⟨t,vs,rfl,f,a⟩:=a.uncons;obtain⟨p,vs,rfl,k,a⟩:=a.uncons;obtain rfl:=a.of_nil;rw[Fm i,Ei f,Ei k];exact(W9 l c h.1 h.2 s d fo).mono λe w' ⟨j,hS⟩=>⟨_,j,.v _,hS⟩⟩
theorem Z5m (h:Int × Int)(s:ByteArray)(f:s.size<=maxLen)(d:Int × Int)(t:ByteArray)(k:t.size<=maxLen):FnO Tryz.prog 73 [.ptr 0 0,gH h,gS s,gH d,gS t] (fP r K) λg rs=>g=gI (D5 r h s d t).2/\rs=fP (D5 r h s d t).1 K/\Gd (D5 r h s d t).1 K :=
 Kc ⟨_,Tryz.func73,by kernel_rfl,by kernel_rfl⟩ rfl λI w b y p N vs q o c a=>⟨Z0 c _ _ _ _,by obtain⟨u,vs,rfl,j,a⟩:=a.uncons;obtain⟨z,vs,rfl,i,a⟩:=a.uncons;obtain⟨x,vs,rfl,n,a⟩:=a.uncons;obtain⟨A,vs,rfl,l,a⟩:=a.uncons;obtain rfl:=a.of_nil;rw[Fm j,Ei i,Fm n,Ei l];exact(Xe o c h.1 h.2 s f d.1 d.2 t k).mono λe w' ⟨m,hS⟩=>⟨_,m,.v _,hS⟩⟩
theorem Zei (h:Int × Int)(n t:Int):FnO Tryz.prog 75 [.ptr 0 0,gH h,gI n,gI t] (fP r K) λg rs=>g=gI (Fk r h n t).2/\rs=fP (Fk r h n t).1 K/\Gd (Fk r h n t).1 K :=
 Kc ⟨_,Tryz.func75,by kernel_rfl,by kernel_rfl⟩ rfl λI w b q l N vs m k c a=>⟨Zcw c _ _ _,by obtain⟨o,vs,rfl,f,a⟩:=a.uncons;obtain⟨s,vs,rfl,d,a⟩:=a.uncons;obtain⟨p,vs,rfl,j,a⟩:=a.uncons;obtain rfl:=a.of_nil;rw[Fm f,Ei d,Ei j];exact(Z3a k c h.1 h.2 n t).mono λe w' ⟨i,hS⟩=>⟨_,i,.v _,hS⟩⟩
theorem Z8e (h:Int × Int)(a:Int)(l:List UInt8)(n:l.length<=maxLen)(t:Int):FnO Tryz.prog 74 [.ptr 0 0,gH h,gI a,.sl (l.map gBy),gI t] (fP r K) λg rs=>g=gI (Bz r h a l t).2/\rs=fP (Bz r h a l t).1 K/\Gd (Bz r h a l t).1 K :=
 Kc ⟨_,Tryz.func74,by kernel_rfl,by kernel_rfl⟩ rfl λI w b B x N vs p j i d=>⟨Z2x j i _ _ _ _,by obtain⟨y,vs,rfl,m,d⟩:=d.uncons;obtain⟨C,vs,rfl,k,d⟩:=d.uncons;obtain⟨z,vs,rfl,u,d⟩:=d.uncons;obtain⟨D,vs,rfl,o,d⟩:=d.uncons;obtain rfl:=d.of_nil;obtain⟨A,c,rfl,q,f⟩:=Wh p u;rw[Fm m,Ei k,Ei o];exact(Xh j i h.1 h.2 a A c l n q f t).mono λe w' ⟨s,hS⟩=>⟨_,s,.v _,hS⟩⟩
theorem Zcd (k:K<=1000000)(h:Int × Int)(s:ByteArray)(f:s.size<=maxLen)(m:RMk)(n:m.target.size<=maxLen):FnO Tryz.prog 31 [.ptr 0 0,gH h,gS s,.agg [gI m.kind,gI m.mode,gI m.time,gS m.target]] (fP r K) λg rs=>g=.tup [gH (Db r h s m).2.1,gI (Db r h s m).2.2]/\rs=fP (Db r h s m).1 (K+1)/\Gd (Db r h s m).1 (K+1) :=
 Kc ⟨_,Tryz.func31,by kernel_rfl,by kernel_rfl⟩ rfl λI w b x p N vs q o d a=>⟨S4 d _ _ _,by obtain⟨t,vs,rfl,j,a⟩:=a.uncons;obtain⟨y,vs,rfl,i,a⟩:=a.uncons;obtain⟨u,vs,rfl,c,a⟩:=a.uncons;obtain rfl:=a.of_nil;have c:=Kr (cs:=[.int .i64 m.kind,.int .i64 m.mode,.int .i64 m.time,.string m.target]) c;rw[Fm j,Ei i,c];exact(Z4q o d k h.1 h.2 s f m.kind m.mode m.time m.target n).mono λe w' ⟨l,hS⟩=>⟨_,l,G0 (Zg1 _) (.v _),hS⟩⟩
theorem Zbe (h:Int × Int)(s:ByteArray)(c:s.size<=maxLen):FnO Tryz.prog 76 [.ptr 0 0,gH h,gS s] (fP r K) λg rs=>g=.tup [gH (Fe r h s).1,gI (Fe r h s).2]/\rs=fP r K :=
 Ki ⟨_,Tryz.func76,by kernel_rfl,by kernel_rfl⟩ rfl λI w b o l N vs m k f a=>by obtain⟨n,vs,rfl,i,a⟩:=a.uncons;obtain⟨p,vs,rfl,d,a⟩:=a.uncons;obtain rfl:=a.of_nil;rw[Fm i,Ei d];exact(Z3k k f h.1 h.2 s c).mono λe w' ⟨j,hb⟩=>⟨_,j,G0 (Zg1 _) (.v _),hb⟩
theorem Zbp:FnO Tryz.prog 53 [.ptr 0 0] (fP r K) λg rs=>g=.tup [gI (K4 r),gI (200 - (r.ins.length:Int))]/\rs=fP r K :=
 Ki ⟨_,Tryz.func53,by kernel_rfl,by kernel_rfl⟩ rfl λI w b j h N vs i d c a=>by obtain rfl:=a.of_nil;exact(Z4e d c).mono λe w' ⟨f,hb⟩=>⟨_,f,G0 (.v _) (.v _),hb⟩
theorem Z7c (h:Int × Int):FnO Tryz.prog 51 [.ptr 0 0,gH h] (fP r K) λg rs=>g=Xa r h/\rs=fP r K :=
 Ki ⟨_,Tryz.func51,by kernel_rfl,by kernel_rfl⟩ rfl λI w b m j N vs k i c a=>by
  obtain⟨l,vs,rfl,d,a⟩:=a.uncons;obtain rfl:=a.of_nil;rw[Fm d];refine(Z5d i c h.1 h.2).mono λe w' ⟨f,hb⟩=>⟨_,f,?_,hb⟩;unfold Xa Wl;split
  .exact G0 (Pa [_,_,_,_,_,_,_,_]) (.v _)
  .exact G0 (Pa [_,_,_,_,_,_,_,_]) (.v _)
theorem Z8g (h:Int × Int)(a n:Int):FnO Tryz.prog 77 [.ptr 0 0,gH h,gI a,gI n] (fP r K) λg rs=>g=.tup [.sl ((Ct r h a n).1.map gBy),gI (Ct r h a n).2]/\rs=fP r K :=
 Ki ⟨_,Tryz.func77,by kernel_rfl,by kernel_rfl⟩ rfl λI w b y s N vs t p m c=>by
  obtain⟨u,vs,rfl,d,c⟩:=c.uncons;obtain⟨B,vs,rfl,k,c⟩:=c.uncons;obtain⟨x,vs,rfl,o,c⟩:=c.uncons;obtain rfl:=c.of_nil;rw[Fm d,Ei k,Ei o];refine(Z06 p m h.1 h.2 a n).mono λe w' ⟨A,he,ho,hb⟩=>⟨_,he,G0 ?_ (.v _),hb⟩;generalize (Ct r (h.1,h.2) a n).1=l at ho;rcases ho with⟨rfl,rfl⟩ | ⟨q,hq,rfl,hcell⟩
  .exact .sl [] none 0 1 (λ_ _=>undef) (av _) (λ_=>rfl) (by simp) (λi r h=>by simp at h) (λi r j g h=>by simp at h)
  .have key:=VRep.sl (I:=I.new w w') (l.map gBy) (some ⟨q,0,none⟩) l.length 1 (λi _=>((l[i]?).map B3).getD undef) (by simp) (λe=>by cases e) (λr hr=>by obtain⟨b,-,rfl⟩:=bk.1 hr;rfl) (λi r hr=>⟨q,0,rfl,λj z=>?_⟩) (λi r j g hr f=>?_)
   .simpa using key
   .rw[ay] at hr;obtain⟨b,d,-⟩:=bh.1 hr;obtain rfl:j=0:=by omega
    unfold Imm.new;rw[dq hq,cell_of_row w' q _ _ _ (0,0) hcell,d];simp[d]
   .rw[ay] at hr;obtain⟨b,d,rfl⟩:=bh.1 hr;cases j with
    | succ j=>simp[gBy] at f
    | zero =>
     simp[gBy] at f;subst f;rw[d];exact .v _
theorem Zb6 (z:K<=1000000)(h:Int × Int):FnO Tryz.prog 78 [.ptr 0 0,gH h] (fP r K) λg rs=>g=.tup [.sl ((Fb r h).map gSt),gI (Ab r h)]/\rs=fP r K :=
 Ki ⟨_,Tryz.func78,by kernel_rfl,by kernel_rfl⟩ rfl λI w b G D N vs E C o l=>by
  obtain⟨F,vs,rfl,u,l⟩:=l.uncons;obtain rfl:=l.of_nil;rw[Fm u];refine(Z3d C o z h.1 h.2).mono λe w' ⟨d,hb⟩=>?_;unfold Z00 at d;split at d
  .next a =>
   refine⟨_,d,G0 ?_ (.v _),hb⟩;have:Fb r h=[]:=dp a;rw[this];exact .sl [] none 0 1 (λ_ _=>undef) (av _) (λ_=>rfl) (by simp) (λi r h=>by simp at h) (λi r j g h=>by simp at h)
  .next a =>
   have a:Ab r h=0:=by simpa using a
   obtain⟨A,c,B,k,p,m,y,t⟩:=d;rw[a];refine⟨_,B,G0 ?_ (.v _),hb⟩;have e:=Q9 r h a;have q:((λs:List UInt8=>(⟨s.toArray⟩:ByteArray)) ∘ λc:ByteArray=>c.data.toList)=id:=by funext c;cases c;rfl
   have n:Fb r h=(Fr (Aa r.nms h.1)).map λs=>⟨s.toArray⟩:=by rw[<-e,List.map_map,q,List.map_id]
   rw[n,List.map_map];exact Z3s (f:=gSt ∘ λs=>⟨s.toArray⟩) k p m y t (λ_=>rfl) (λx=>.cons (.v _) .nil)
theorem Zel (room:Int)(hr:room<=9223372036854775807):FnO Tryz.prog 45 [gI room] [] λg rs=>g=.ptr 0 0/\rs=fP (Fc room) 0/\Gd (Fc room) 0 :=
 ⟨⟨_,Tryz.func45,by kernel_rfl,by kernel_rfl⟩,λI V w vs hH d l=>by
  obtain⟨A,vs,rfl,m,l⟩:=l.uncons;obtain rfl:=l.of_nil;have d:V.n=0:=d;rw[Ei m];refine(Z33 room w).mono λe w' ⟨f,p,j,N,he,hF,m,h2,h3,h4,hB⟩=>?_;have a:∀k∈fpL f p j N,w.heap.size<=k:=λk c=>by
   rcases Gg.1 c with rfl | rfl | rfl | ⟨n,d,c⟩
   .exact m
   .exact h2
   .exact h3
   .exact h4 n d k c
  have q:Mem I w':=hH.mem.keep λb o x z=>hB.block b (hH.mem.lt z);refine⟨_,.ptr 0 0,_,I,⟨1,λ_=>f,λ_=>undef,λ_ k=>k∈fpL f p j N⟩,he,⟨rfl,rfl,Ut hr,Z75 hF (Ut hr)⟩,rfl,Sr rfl q ⟨I9 _ _,p,j,N,hF,Ut hr,λk=>Iff.rfl⟩ λb i=>⟨?_,λo=>?_⟩,⟨db _,rfl⟩,⟨hB.os,hB.tape,hB.output,hB.size,λb i _=>⟨hB.block b i,λ_=>rfl⟩,λ_ _ _ h=>h,λk r b c i y=>?_⟩,⟨by show V.n<=1;omega,λk c=>by omega⟩⟩
  .obtain⟨s,t,v,u⟩:=hF.lt (Ut hr);rcases Gg.1 i with rfl | rfl | rfl | ⟨n,d,c⟩
   .exact s
   .exact t
   .exact v
   .exact u n d b c
  .cases hI:I b o with
   | none=>rfl
   | some x=>exact dt (hH.mem.lt hI) (by have:=a b i;omega)
  .have:=a b i;omega⟩
end
end Go.Proofs.YtmmdikhljefeiaaGreat
