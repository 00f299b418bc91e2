
import Derived.Test.YtihfaocdpmmooaaGreatNM1
import Derived.Test.YtihfaocdpmmooaaGreatSxMe
import Derived.Test.YtihfaocdpmmooaaGreatOM1
import Derived.Test.YtihfaocdpmmooaaGreatSxMc
namespace Go.Proofs.YtihfaocdpmmooaaGreat
open Go.RowKit
set_option maxRecDepth 100000
def Zlx (n:PN)(p:Int × Int × List REnt):PN:={n with pmd:=p.1,normal:=p.2.1,log:=p.2.2}
def Zl1 (n:PN):Int × Int × List REnt:=(n.pmd,n.normal,n.log)
abbrev Zhr (n:PN)(s l o:G):List G:=[gI n.self,gI n.many,s,gI n.pmd,gI n.normal,l,gI 0,.v (.bool false),.v (.bool false),.v (.bool false),gI 0,.nl,.v (.bool false),gI 0,.nl,.v (.bool false),gI 0,.nl,.v (.bool false),gI 0,.nl,.v (.bool false),gI 0,.nl,.v (.bool false),gI 0,.nl,.v (.bool false),gI 0,.nl,gI 0,gI 0,gI 0,gI 0,gI 0,gI 0,gI 0,gI 0,.v (.bool false),.v (.bool false),.v (.bool false),.v (.bool false),.v (.bool false),.v (.bool false),.v (.bool false),o,.v (.bool false)]
abbrev oF (n:PN)(b e:Nat):List R:=[.blk (Zhr n (.ptr 1 0) (.osl 2) (.osl 3)) tNd,.abs (cl (oLs n.st e)),.slc (n.log.map enE) tEn 3,.slc [] tPk 3,.adr 0 b]
abbrev oFs (n:PN)(b e:Nat):Os:=Bk (oF n b e) 0
abbrev cF (n:PN)(b e:Nat):List R:=[.abs (cl (oFs n b e))]
set_option maxHeartbeats 4000000 in
theorem Zew (n:PN)(b e:Nat)(S:n.log.length≤1000000)(r:ByteArray)(hr:r.size≤1000000):FnO Tryz.prog 58 [.ptr 0 0,.v (.string r)] (cF n b e) fun g rs=>(Dj (Zl1 n) r=none∧g=.v (.bool false)∧rs=cF n b e)∨∃p,Dj (Zl1 n) r=some p∧g=.v (.bool true)∧rs=cF (Zlx n p) b e:=by
 obtain⟨D,E,G,A,B,H,I,J,K,C,L,M,N,F,P⟩:=n;refine Bq Tryz.func58 (A6 (O:=oFs ⟨D,E,G,A,B,H,I,J,K,C,L,M,N,F,P⟩ b e) (n0:=5) rfl) ?_;refine(Z94 [1,2,2,3] r.data.toList (by decide) (by rw[cd];exact ca hr (by decide))).cal fun q T=>?_;subst T;refine dj (fun w=>?_) fun w=>?_
 ·have m:Dj (G,A,B) r=none:=by unfold Dj;rw[dc w]
  exact .inl (A1 (oFs ⟨D,E,G,A,B,H,I,J,K,C,L,M,N,F,P⟩ b e) [] (by exact RL5) rfl ⟨_,rfl⟩ rfl rfl (.inl ⟨m,rfl,rfl⟩))
 have w:(K2 [1,2,2,3] r.data.toList).e=0:=w;obtain⟨U,V,R⟩:=M2 w;have u:=(Cu [1,2,2,3] r.data.toList).2 U;rw[←R] at u;obtain⟨j,k,o,t,Q⟩:∃j k o t,(K2 [1,2,2,3] r.data.toList).l=[j,k,o,t]:=by
  generalize (K2 [1,2,2,3] r.data.toList).l=l at u
  match l,u with
  | [a,b,c,d],_=>exact⟨a,b,c,d,rfl⟩
 rw[Q];have m:Dj (G,A,B) r=if j.n=1 then some (k.n,A,B) else if j.n=2 then some (G,k.n,B) else if j.n=3 then some (G,A,B++[⟨k.n,o.n,t.s⟩]) else none:=by unfold Dj;rw[db (fun h=>h w),Q]
 refine dl (f:=F1) (l:=[j,k,o,t]) (i:=0) rfl ?_;refine df (fun(x:j.n=1)=>?_) fun(x:j.n≠1)=>?_
 ·rw[dc x] at m;refine dl (f:=F1) (l:=[j,k,o,t]) (i:=1) rfl ?_;exact .inl (A1 (oFs ⟨D,E,k.n,A,B,H,I,J,K,C,L,M,N,F,P⟩ b e) [] (by exact RL5) rfl ⟨_,rfl⟩ rfl rfl (.inr ⟨_,m,rfl,rfl⟩))
 rw[db x] at m;refine df (fun(z:j.n=2)=>?_) fun(z:j.n≠2)=>?_
 ·rw[dc z] at m;refine dl (f:=F1) (l:=[j,k,o,t]) (i:=1) rfl ?_;exact .inl (A1 (oFs ⟨D,E,G,k.n,B,H,I,J,K,C,L,M,N,F,P⟩ b e) [] (by exact RL5) rfl ⟨_,rfl⟩ rfl rfl (.inr ⟨_,m,rfl,rfl⟩))
 rw[db z] at m;refine df (fun(y:j.n=3)=>?_) fun(y:j.n≠3)=>?_
 ·rw[dc y] at m;refine dl (f:=F1) (l:=[j,k,o,t]) (i:=1) rfl ?_;refine dl (f:=F1) (l:=[j,k,o,t]) (i:=2) rfl ?_;refine dl (f:=F1) (l:=[j,k,o,t]) (i:=3) rfl ?_;refine⟨by rw[aa];show B.length+1≤_;have:B.length≤1000000:=S;omega,?_⟩;exact .inl (A1 (oFs ⟨D,E,G,A,B++[⟨k.n,o.n,t.s⟩],H,I,J,K,C,L,M,N,F,P⟩ b e) [(2,7)] ⟨RL1,RL1,⟨rfl,rfl,eqR (by rw[ao];rfl)⟩,RL1,RL1,trivial⟩ rfl ⟨_,rfl⟩ rfl rfl (.inr ⟨_,m,rfl,rfl⟩))
 ·rw[db y] at m;exact .inl (A1 (oFs ⟨D,E,G,A,B,H,I,J,K,C,L,M,N,F,P⟩ b e) [] (by exact RL5) rfl ⟨_,rfl⟩ rfl rfl (.inl ⟨m,rfl,rfl⟩))
theorem Z86 {cs:List G}{t:TypeId}{rs:List R}{I:Imm}{b:Nat}{S:Nat→Prop}{w:World}(h:cl (Bk (.blk cs t::rs) 0) I b S w):cl (Bk (.blk (cs.map No) t::rs) 0) I b S w:=by
 obtain⟨V,f,i,z⟩:=h;have v:∀(c:List G),look 0 (Bk (R.blk c t::rs) 0)=some (.blk c t):=fun c=>rfl;have o:∀k,k≠0→look k (Bk (R.blk (cs.map No) t::rs) 0)=look k (Bk (R.blk cs t::rs) 0):=fun k a=>by
  cases k with
  | zero=>exact de rfl a
  | succ k=>rfl
 have d:∀{c l:List G} {k:Nat} {r:R},(c=cs∧l=cs.map No∨c=cs.map No∧l=cs)→look k (Bk (R.blk c t::rs) 0)=some r→∃r',look k (Bk (R.blk l t::rs) 0)=some r':=fun {c l k r} s a=>by
  by_cases e:k=0
  ·subst e;exact⟨_,v l⟩
  ·rcases s with⟨rfl,rfl⟩ | ⟨rfl,rfl⟩
   ·exact⟨r,by rw[o k e];exact a⟩
   ·exact⟨r,by rw[←o k e];exact a⟩
 refine⟨V,f,⟨fun k r a=>?_,fun k r a=>?_,fun k r b a f=>?_,fun k k' r r' b a m f p=>?_⟩,fun c=>⟨fun s=>?_,fun⟨k,r,a,hf⟩=>?_⟩⟩
 ·obtain⟨r',hr⟩:=d (.inr ⟨rfl,rfl⟩) a;exact i.num k r' hr
 ·by_cases e:k=0
  ·subst e;rw[v] at a;obtain rfl:=cj a;obtain⟨A,H,E,C,F⟩:=i.each 0 _ (v cs);refine⟨A,H,E,by rw[aa];exact C,fun j g u y D=>?_⟩;rw[aj] at y;obtain⟨g0,n,rfl⟩:=ay.1 y;exact Oh (F j g0 u n D)
  ·rw[o k e] at a;exact i.each k r a
 ·obtain⟨r',hr⟩:=d (.inr ⟨rfl,rfl⟩) a;exact i.lt k r' b hr f
 ·obtain⟨q,hr⟩:=d (.inr ⟨rfl,rfl⟩) a;obtain⟨B,x⟩:=d (.inr ⟨rfl,rfl⟩) m;exact i.disj k k' q B b hr x f p
 ·obtain⟨k,r,a,hf⟩:=(z c).1 s;obtain⟨r',hr⟩:=d (.inl ⟨rfl,rfl⟩) a;exact⟨k,r',hr,hf⟩
 ·obtain⟨r',hr⟩:=d (.inr ⟨rfl,rfl⟩) a;exact(z c).2 ⟨k,r',hr,hf⟩
theorem Zm2 (s m:Nat)(p:Int × Int × List REnt)(st:LD)(b e:Nat):WkR (.abs (cl (oFs (Da s m p st) b e))) (.abs (cl (oAs (Da s m p st) b e))) :=
 .inr ⟨_,_,rfl,rfl,Z23 _,fun _ _ _ _ h=>Z86 h⟩
theorem R2:∀(n:Nat) (b:Bs) (l:List ByteArray),Z5u n b=some l→4 * l.length≤b.length∧∀s∈l,s.size≤4096
 | 0,b,l,h=>by
  unfold Z5u at h;split at h
  ·cases h;exact⟨by simp,fun s a=>by cases a⟩
  ·cases h
 | n+1,b,l,h=>by
  unfold Z5u at h;split at h
  ·cases h;exact⟨by simp,fun s a=>by cases a⟩
  ·split at h
   ·cases h
   ·split at h
    ·cases h
    ·next e g f =>
     obtain⟨d,c,rfl⟩:=ay.1 h;obtain⟨a1,a2⟩:=R2 n _ d c;rw[bc] at a1;refine⟨by rw[bd];omega,fun s a=>?_⟩;rcases bi.1 a with rfl | a
     ·show(List.toArray _).size≤_;rw[List.size_toArray,aw];omega
     ·exact a2 s a
theorem Z0m {d:RD}{l:LD}(h:Z5g d=some l)(e:(D6 d (L8 d).half).length≤4000000):l.all.length≤1000000∧(∀s∈l.all,s.size≤4096)∧l.d=d∧l.dead=false:=by
 unfold Z5g at h;split at h
 ·cases h
 ·next a ha =>
  cases h;obtain⟨b,c⟩:=R2 _ _ a ha;rw[aw] at b;exact⟨by show a.length≤_;omega,c,rfl,rfl⟩
def Zej (d:RD)(self many:Int):Prop:=¬(Ag many=0∨self < 0∨self ≥ many∨(d.now.length:Int) < 1100)
theorem Z7h {m:Int}(h:Ag m≠0):1≤m∧m≤7:=by
 unfold Ag at h;split at h
 ·next a=>exact Ed a
 ·exact de rfl h
theorem Z7z {d:RD}(c:WD d)(h:Nat):(D6 d h).length≤35136:=by
 unfold D6;have key:∀L:List Sec,(∀x∈L,x.length=64)→L.flatten.length=L.length * 64:=fun L b=>by
  induction L with
  | nil=>rfl
  | cons s L ih=>rw[b8,ax,b s (by simp),ih fun x a=>b x (by simp[a]),bd];omega
 rw[key _ fun x a=>c.now x (b7 (be a)),aw];omega
theorem Z14 {p q:Int × Int × List REnt}{r:ByteArray}(h:Dj p r=some q):q.2.2.length≤p.2.2.length+1:=by
 unfold Dj at h;split at h
 ·cases h
 ·split at h
  ·split at h
   ·cases h;exact Nat.le_succ _
   ·split at h
    ·cases h;exact Nat.le_succ _
    ·split at h
     ·cases h;simp
     ·cases h
  ·cases h
set_option maxHeartbeats 4000000 in
theorem Z2u (d:RD)(D:WD d)(hd:d.dead=false)(self many:Int):FnO Tryz.prog 17 [.ptr 0 0,gI self,gI many] (cD d) fun g rs=>(Nd d self many=none∧g=.tup [.v (.pointer none),gI 130]∧(rs=cD d∨Zej d self many∧rs=[.gone]))∨∃n b e,Nd d self many=some n∧g=.tup [.ptr 1 0,gI 0]∧rs=[.gone,.abs (cl (oAs n b e)),.adr 0 e]:=by
 refine FnO.wk (Q:=fun g rs=>(Nd d self many=none∧g=.tup [.v (.pointer none),gI 130]∧(rs=cD d∨Zej d self many∧rs=[.gone]))∨∃s m p st b e,Nd d self many=some (Da s m p st)∧g=.tup [.ptr 1 0,gI 0]∧rs=[.gone,.abs (cl (oFs (Da s m p st) b e)),.adr 0 e]) ?_ fun g rs h=>?_
 rotate_left
 ·rcases h with h | ⟨s,m,p,st,b,e,r,A,rfl⟩
  ·exact⟨rs,WkL.refl _,.inl h⟩
  ·exact⟨[.gone,.abs (cl (oAs (Da s m p st) b e)),.adr 0 e],⟨.inl rfl,Zm2 s m p st b e,.inl rfl,trivial⟩,.inr ⟨_,b,e,r,A,rfl⟩⟩
 refine Bq Tryz.func17 (V7 _ _) ?_;have no:¬Zej d self many→Nd d self many=none:=fun h=>by unfold Nd;rw[dc (bz h)]
 have o:∀{own:Os} {n:Nat},look 0 own=some (.abs (cl (oDs d)))→¬Zej d self many→Z5z [0] own n (.tup [.v (.pointer none),gI 130]) (fun g rs=>(Nd d self many=none∧g=.tup [.v (.pointer none),gI 130]∧(rs=cD d∨Zej d self many∧rs=[.gone]))∨∃s m p st b e,Nd d self many=some (Da s m p st)∧g=.tup [.ptr 1 0,gI 0]∧rs=[.gone,.abs (cl (oFs (Da s m p st) b e)),.adr 0 e]):=fun P N =>
  .inl (A7 P rfl (.inl ⟨no N,rfl,.inl rfl⟩))
 refine di ((Z51 d).cal fun q rs k=>?_);obtain⟨rfl,rfl⟩:=k;refine dk (fun h=>de hd (by rw[h];decide)) fun _=>?_;refine(Xq _).cal fun q k=>?_;subst k;refine df (fun(k:Ag many=0)=>?_) fun(k:Ag many≠0)=>?_
 ·exact o rfl (fun h=>h (.inl k))
 refine dg (fun(H:self < 0)=>?_) fun(H:¬self < 0)=>?_
 ·exact o rfl (fun h=>h (.inr (.inl H)))
 refine dg (fun(K:self ≥ many)=>?_) fun(K:¬self ≥ many)=>?_
 ·exact o rfl (fun h=>h (.inr (.inr (.inl K))))
 refine di ((Z4z d).cal fun q rs k=>?_);obtain⟨rfl,rfl⟩:=k;refine dg (fun(I:(d.now.length:Int) < 1100)=>?_) fun(I:¬(d.now.length:Int) < 1100)=>?_
 ·exact o rfl (fun h=>h (.inr (.inr (.inr I))))
 have j:Zej d self many:=by
  rintro(h | h | h | h)
  ·exact k h
  ·exact H h
  ·exact K h
  ·exact I h
 have R:=Z7h k;obtain⟨s,rfl⟩:∃s:Nat,self=s:=⟨self.toNat,by omega⟩;obtain⟨m,rfl⟩:∃m:Nat,many=m:=⟨many.toNat,by omega⟩;refine di ((Zg9 d D (by omega) hd).cal fun q rs k=>?_);rcases k with⟨r,rfl,rfl⟩ | ⟨l,e,r,rfl,rfl⟩
 ·refine dj (fun _=>?_) fun h=>de h (by decide);have t:Nd d s m=none:=by unfold Nd;rw[db j,r]
  exact .inl (A7 rfl rfl (.inl ⟨t,rfl,.inl rfl⟩))
 refine dj (fun h=>de rfl h) fun _=>?_;obtain⟨M,S,U,V⟩:=Z0m r (ca (Z7z D _) (by decide));have t:Nd d s m=match B1 l.all (0,0,[]) with
   | none=>none
   | some p=>if Bo p.2.2=true∧p.2.1≤p.1∧Aw p.2.2 p.2.1=true then some (Da s m p l) else none:=by
  unfold Nd;rw[db j,r];rfl
 refine di ((Zkg l e M).cal fun q rs k=>?_);obtain⟨rfl,rfl⟩:=k;refine Z7i (.nil 3 [gI s,gI m,.ptr 1 0,gI 0,gI 0] [gI 0,.ff,.ff,.ff,gI 0,.nl,.ff,gI 0,.nl,.ff,gI 0,.nl,.ff,gI 0,.nl,.ff,gI 0,.nl,.ff,gI 0,.nl,.ff,gI 0,.nl,gI 0,gI 0,gI 0,gI 0,gI 0,gI 0,gI 0,gI 0,.ff,.ff,.ff,.ff,.ff,.ff,.ff,.nl,.ff] tNd tEn 3 rfl (by decide) (.nil 3 [gI s,gI m,.ptr 1 0,gI 0,gI 0,.osl 5,gI 0,.ff,.ff,.ff,gI 0,.nl,.ff,gI 0,.nl,.ff,gI 0,.nl,.ff,gI 0,.nl,.ff,gI 0,.nl,.ff,gI 0,.nl,.ff,gI 0,.nl,gI 0,gI 0,gI 0,gI 0,gI 0,gI 0,gI 0,gI 0,.ff,.ff,.ff,.ff,.ff,.ff,.ff] [.ff] tNd tPk 3 rfl (by decide) (.seen 3 _ _ rfl (.adr 3 _ rfl fun b=>.close (oFs (Da s m (0,0,[]) l) b e) [(0,3),(1,1),(2,5),(3,6),(4,7)] (by exact RL5) ⟨_,rfl⟩ rfl (.done ?_)))));refine D2 [10,47,48] [0,2,4] (fun x:Nat × (Int × Int × List REnt)=>[(49,gI x.1)]) (fun x=>[(3,.abs (cl (oFs (Da s m x.2 l) b e)))]) (fun x=>x.1≤l.all.length∧B1 (l.all.drop x.1) x.2=B1 l.all (0,0,[])∧x.2.2.2.length≤x.1) (fun x=>l.all.length - x.1) (0,(0,0,[])) ⟨ah _,rfl,af _⟩ ⟨⟨rfl,rfl⟩,trivial⟩ ⟨RL1,trivial⟩ rfl fun⟨i,p⟩ hI=>?_;obtain⟨hi,C,E⟩:=hI;dsimp only at hi C E;rw[←C] at t;refine dg (fun G=>?_) fun L=>?_
 ·rw[aa] at G;obtain⟨c,J⟩:∃c,l.all[i]?=some c:=⟨_,ab (by omega)⟩;have z:l.all.drop i=c::l.all.drop (i+1):=by
   have O:=(ac.1 J).2;rw[←O,List.getElem_cons_drop]
  rw[z] at C t;refine⟨⟨by omega,by rw[aa];omega⟩,?_⟩;refine dl (f:=gSt) J ?_;refine di ((Zew (Da s m p l) b e (by show p.2.2.length≤_;omega) c (by have:=S c (ae J);omega)).cal fun q rs k=>?_);rcases k with⟨w,rfl,rfl⟩ | ⟨p',w,rfl,rfl⟩
  ·have w:Dj p c=none:=w;have u:Nd d s m=none:=by rw[t];unfold B1;rw[w]
   refine dk (fun _=>?_) fun h=>(by cases h)
   conv=>whnf
   refine Gh.done ?_;exact .inl ⟨[⟨[(0,.gone)],[(0,0)],false⟩],.tup [.v (.pointer none),gI 130],⟨⟨⟨_,rfl,rfl,rfl⟩,trivial⟩,rfl,⟨[],rfl⟩,rfl,rfl,.inl ⟨u,rfl,.inr ⟨j,rfl⟩⟩⟩⟩
  ·have w:Dj p c=some p':=w;have u:B1 (c::l.all.drop (i+1)) p=B1 (l.all.drop (i+1)) p':=by
    show(match Dj p c with | none=>none | some p=>B1 (l.all.drop (i+1)) p)=_;rw[w]
   rw[u] at C;have T:=Z14 w;refine dk (fun h=>(by cases h)) fun _=>?_;refine⟨by omega,.done ⟨(i+1,p'),[],⟨by dsimp only;omega,C,by dsimp only;omega⟩,(by dsimp only;omega),?_⟩⟩;refine⟨?_,?_,rfl⟩<;>repeat' (first|exact trivial|with_reducible rfl|exact rfl|refine And.intro ?_ ?_)
 ·rw[aa] at L;have z:l.all.drop i=[]:=c8 (by omega);rw[z] at t;have t:Nd d s m=if Bo p.2.2=true∧p.2.1≤p.1∧Aw p.2.2 p.2.1=true then some (Da s m p l) else none:=t
  conv=>whnf
  refine Gh.opn 3 _ _ _ rfl rfl rfl (.done ?_);have y:p.2.2.length≤1000000:=by have:=M;omega
  refine dh (EvSn.peek ?a ?b)
  case a=>exact rfl
  refine(T8 p.2.2 y).mono fun g F=>?_;subst F;refine⟨rfl,?_⟩;have bad:¬(Bo p.2.2=true∧p.2.1≤p.1∧Aw p.2.2 p.2.1=true)→Nd d s m=none:=fun h=>by rw[t,db h]
  refine dk (fun r=>?_) fun r=>?_
  ·have u:=bad (fun h=>by rw[h.1] at r;cases r);exact .inl ⟨[⟨[(0,.gone)],[(0,0)],false⟩],.tup [.v (.pointer none),gI 130],⟨⟨⟨_,rfl,rfl,rfl⟩,trivial⟩,rfl,⟨[],rfl⟩,rfl,rfl,.inl ⟨u,rfl,.inr ⟨j,rfl⟩⟩⟩⟩
  have r:Bo p.2.2=true:=by simpa using r
  refine dg (fun A=>?_) fun A=>?_
  ·have A:p.2.1 > p.1:=A;have u:=bad (fun h=>by omega);exact .inl ⟨[⟨[(0,.gone)],[(0,0)],false⟩],.tup [.v (.pointer none),gI 130],⟨⟨⟨_,rfl,rfl,rfl⟩,trivial⟩,rfl,⟨[],rfl⟩,rfl,rfl,.inl ⟨u,rfl,.inr ⟨j,rfl⟩⟩⟩⟩
  have A:¬p.2.1 > p.1:=A;refine dh (EvSn.peek ?a2 ?b2)
  case a2=>exact rfl
  refine(Vr p.2.2 y p.2.1).mono fun g F=>?_;subst F;refine⟨rfl,?_⟩;refine dk (fun B=>?_) fun B=>?_
  ·have u:=bad (fun h=>by rw[h.2.2] at B;cases B);exact .inl ⟨[⟨[(0,.gone)],[(0,0)],false⟩],.tup [.v (.pointer none),gI 130],⟨⟨⟨_,rfl,rfl,rfl⟩,trivial⟩,rfl,⟨[],rfl⟩,rfl,rfl,.inl ⟨u,rfl,.inr ⟨j,rfl⟩⟩⟩⟩
  have B:Aw p.2.2 p.2.1=true:=by simpa using B
  rw[dc ⟨r,by omega,B⟩] at t;exact .inl ⟨[⟨[(0,.gone)],[(0,0)],false⟩,⟨oFs (Da s m p l) b e,[(0,3),(1,8),(2,9),(3,10),(4,11)],true⟩,⟨[(0,.adr 0 e)],[(0,2)],false⟩],.tup [.ptr 1 0,gI 0],⟨⟨⟨_,rfl,rfl,rfl⟩,⟨(by exact RL5),_,rfl⟩,⟨_,rfl,rfl,rfl⟩,trivial⟩,rfl,⟨_,rfl⟩,rfl,rfl,.inr ⟨s,m,p,l,b,e,t,rfl,rfl⟩⟩⟩
theorem Z6g (l:List Sec)(j:l.length≤1000000)(i:∀s∈l,s.length=64):FnO Tryz.prog 120 [.sl (l.map Et)] [] fun g rs=>g=.osl 0∧rs=[.slc (l.map Et) tSc 64]:=by
 refine Bq Tryz.func120 (S4 _) ?_;refine⟨fun b c=>?_⟩;refine dk (fun h=>?_) fun h=>?_
 ·have e:l.map Et=[]:=bz fun a=>by rw[c a] at h;cases h
  exact Hn (k:=1) rfl e.symm
 ·refine⟨fun r hr=>?_,?_⟩
  ·obtain⟨s,f,rfl⟩:=ba.1 hr;exact⟨(C6 s).trans (i s f),List.all_eq_true.2 fun g d=>P2 (Il d)⟩
  ·refine⟨by simp;omega,?_⟩;exact Hn (k:=2) rfl (cy _)
theorem Pt (l:List Sec)(b:l.length≤1000000)(c:∀s∈l,s.length=64):FnO Tryz.prog 120 [.osl 0] [.slc (l.map Et) tSc 64] fun g rs=>g=.osl 1∧rs=[.slc (l.map Et) tSc 64,.slc (l.map Et) tSc 64] :=
 FnO.peekN (Z6g l b c) rfl fun r hr g a=>by obtain⟨s,-,rfl⟩:=ba.1 hr;exact Il a
theorem Wb:∀l:List G,(l.map fun g=>[g]).flatten=l
 | []=>rfl
 | g::l=>by rw[ck,b8,Wb l];rfl
theorem Vv {l:List Sec}{i:Nat}{s:Sec}{tear:Int}{K:List (List G)→Prop}(hi:i < l.length)(d:s.length=64)(h:K ((l.set i (Ld (l[i]?.getD []) s tear)).map Et)):EvSet (l.map Et) i (fun row k=>k (row.take 0++(((Et s).map fun g=>[g]).take (min ((Et s).map fun g=>[g]).length (min (max tear 0) 64).toNat)).flatten++row.drop (0+min ((Et s).map fun g=>[g]).length (min (max tear 0) 64).toNat))) K:=by
 have b:l[i]?=some l[i]:=ab hi;refine dn (f:=Et) (y:=Ld l[i] s tear) b (fun k a=>?_) rfl (by rw[b] at h;exact h);have c:((Et s).map fun g=>[g]).length=64:=by rw[aa,C6,d]
 have hT:min 64 (min (max tear 0) 64).toNat=(min (max tear 0) 64).toNat:=by omega
 rw[c,hT,←cw,Wb,cb];have e:Et (Ld l[i] s tear)=[]++(Et s).take (min (max tear 0) 64).toNat++(Et l[i]).drop (min (max tear 0) 64).toNat:=by unfold Ld Et;rw[ao,cw,List.map_drop];rfl
 rw[e] at a;exact a
theorem Z38 (d:RD)(hd:WD d)(A:d.wait.length≤1000000)(keep tear:Int):FnO Tryz.prog 80 [.ptr 0 0,gI keep,gI tear] (cD d) fun g rs=>g=.ptr 1 0∧rs=[.abs (cl (oDs d)),.abs (cl (oDs (Ef d keep tear)))]:=by
 refine Bq Tryz.func80 (A6 (O:=oDs d) (n0:=4) rfl) ?_;have k:d.firm.length≤1000000:=by have:=hd.len;have:=hd.few;omega
 refine di ((Pt d.firm k hd.firm).cal fun q rs h=>?_);obtain⟨rfl,rfl⟩:=h;have p:((d.wait.map enW).length:Int)=(d.wait.length:Int):=by rw[aa]
 have hk0:0≤min (max keep 0) ((d.wait.map enW).length:Int)∧min (max keep 0) ((d.wait.map enW).length:Int)≤((d.wait.map enW).length:Int):=by omega
 have z:(min (max keep 0) ((d.wait.map enW).length:Int)).toNat=Iw d keep:=by unfold Iw;rw[aa]
 refine⟨⟨br _,hk0.1,hk0.2⟩,?_⟩
 conv=>whnf
 rw[z];have D:Iw d keep≤d.wait.length:=by unfold Iw;omega
 have m:Iw d keep=Iw d keep:=rfl;generalize t:Iw d keep=q at *;have m:=t;clear t;refine As [0,1,2,7,29,30] [0,1,2,3] (fun i:Nat=>[(31,gI i)]) (fun i=>[(4,.slc ((Gu d.firm (d.wait.take i)).map Et) tSc 64)]) (fun i=>i≤q) (fun i=>q - i) 0 (ah _) ⟨⟨rfl,rfl⟩,trivial⟩ ⟨RL1,trivial⟩ rfl fun i hi=>?_;have h:(Es (d.wait.map enW) 0 q).length=q:=by unfold Es;rw[bc,aw,aa];omega
 refine dg (fun o=>?_) fun o=>?_
 ·have o:((i:Nat):Int) < ((Es (d.wait.map enW) 0 q).length:Nat):=o;rw[h] at o;refine⟨⟨by omega,by omega⟩,dp (f:=enW) (l:=d.wait) (i:=0+((i:Nat):Int).toNat) (by rw[az];omega) fun x e=>?_⟩;have e:d.wait[0+((i:Nat):Int).toNat]?=some x:=e;rw[az,cb] at e;have a:=hd.wait x (ae e);refine⟨by rw[Dm a.2];exact af _,?_⟩
  conv=>whnf
  rw[Tb a.2];refine⟨⟨(Dm a.2),fun g b=>Rw b⟩,?_⟩;refine⟨⟨(Dm a.2),af _⟩,?_⟩
  conv=>whnf
  rw[U4];refine⟨by rw[Dm a.2];exact af _,?_⟩
  conv=>whnf
  rw[Zae a.2];refine⟨fun g b=>Fz (Il b),?_⟩;have c:(Gu d.firm (d.wait.take i)).length=d.now.length:=(Fg _ _).trans hd.len;refine⟨⟨by omega,by rw[aa,c];have:=a.1;omega⟩,?_⟩;refine⟨⟨(C6 _).trans a.2,fun g b=>Il b⟩,?_⟩;refine Uq (s:=x.2) (l:=Gu d.firm (d.wait.take i)) (by rw[c];have:=a.1;omega) (Fp _ _ hd.firm fun w A=>(hd.wait w (be A)).2) a.2 rfl ?_;refine⟨by omega,i+1,by omega,(by dsimp only;omega),?_⟩;refine⟨?_,?_,rfl⟩<;>repeat' (first|exact trivial|with_reducible rfl|exact rfl|refine And.intro ?_ ?_)
  exact eqR (by rw[Sa e];rfl)
 ·have o:¬((i:Nat):Int) < ((Es (d.wait.map enW) 0 q).length:Nat):=o;rw[h] at o;have C:i=q:=by omega
  subst C;have c:(Gu d.firm (d.wait.take i)).length=d.now.length:=(Fg _ _).trans hd.len;have F:∀s∈Gu d.firm (d.wait.take i),s.length=64:=Fp _ _ hd.firm fun w A=>(hd.wait w (be A)).2;refine dg (fun n=>?_) fun n=>?_
  ·have n:min (max keep 0) ((d.wait.map enW).length:Int) < ((d.wait.map enW).length:Int):=n;have B:i < d.wait.length:=by rw[aa] at n z;omega
   refine⟨⟨hk0.1,n⟩,dp (f:=enW) (l:=d.wait) (i:=(min (max keep 0) ((d.wait.map enW).length:Int)).toNat) (by rw[z];exact B) fun x e=>?_⟩;rw[z] at e;have a:=hd.wait x (ae e);refine⟨by rw[Dm a.2];exact af _,?_⟩
   conv=>whnf
   rw[Tb a.2];refine⟨⟨(Dm a.2),fun g b=>Rw b⟩,?_⟩;refine⟨⟨(Dm a.2),af _⟩,?_⟩
   conv=>whnf
   rw[U4];refine⟨⟨by omega,by rw[aa,c];have:=a.1;omega⟩,?_⟩;have j:x.1 < (Gu d.firm (d.wait.take i)).length:=by rw[c];exact a.1
   have E:List.drop (Nat.add 0 1) (enW x)=Et x.2:=rfl;have v:List.take 64 (List.drop (Nat.add 0 1) (enW x))=Et x.2:=by show List.take 64 (Et x.2)=_;exact ap (by rw[C6];omega)
   have u:∀r∈(List.take 64 (List.drop (Nat.add 0 1) (enW x))).map (fun g=>[g]),r.length=1∧r.all G.one=true:=fun r hr=>by obtain⟨g,b,rfl⟩:=ba.1 hr;exact⟨rfl,List.all_eq_true.2 fun y hy=>by rw[bo.1 hy];exact P2 (Rw (b7 (be b)))⟩
   refine⟨?_,?_⟩
   ·refine⟨⟨br _,by omega,by omega⟩,?_⟩;refine⟨⟨⟨by rw[aa];exact j,af _⟩,by decide⟩,?_⟩;refine⟨⟨by rw[Dm a.2];exact af _,fun g b=>Rw b⟩,?_⟩;refine⟨u,?_⟩;refine⟨by omega,?_⟩;rw[v];refine Vv (s:=x.2) (l:=Gu d.firm (d.wait.take i)) (tear:=tear) j a.2 ?_;rw[az];have p:Bb d keep tear=(Gu d.firm (d.wait.take i)).set x.1 (Ld ((Gu d.firm (d.wait.take i))[x.1]?.getD []) x.2 tear):=by unfold Bb;dsimp only;rw[m,e]
    rw[←p];refine di ((Pt (Bb d keep tear) (by rw[I5];exact k) (Fx hd keep tear).now).cal fun q rs h=>?_);obtain⟨rfl,rfl⟩:=h;exact .gh (.nil 7 [.osl 6,.osl 4] [gI 0,.ff] tDk tWr 65 rfl (by decide) (.seen 7 _ _ rfl (.done ⟨[⟨oDs d,[],true⟩,⟨oDs (Ef d keep tear),[(0,7),(1,6),(2,4),(3,8)],true⟩],.ptr 1 0,⟨⟨⟨(by exact RL4),_,rfl⟩,⟨(by exact RL4),_,rfl⟩,trivial⟩,rfl,⟨_,rfl⟩,rfl,rfl,⟨rfl,rfl⟩⟩⟩)))
   ·refine⟨⟨by rw[Dm a.2];exact af _,fun g b=>Rw b⟩,?_⟩;refine⟨⟨br _,by omega,by omega⟩,?_⟩;refine⟨⟨⟨by rw[aa];exact j,af _⟩,by decide⟩,?_⟩;refine⟨u,?_⟩;refine⟨by omega,?_⟩;rw[v];refine Vv (s:=x.2) (l:=Gu d.firm (d.wait.take i)) (tear:=tear) j a.2 ?_;rw[az];have p:Bb d keep tear=(Gu d.firm (d.wait.take i)).set x.1 (Ld ((Gu d.firm (d.wait.take i))[x.1]?.getD []) x.2 tear):=by unfold Bb;dsimp only;rw[m,e]
    rw[←p];refine di ((Pt (Bb d keep tear) (by rw[I5];exact k) (Fx hd keep tear).now).cal fun q rs h=>?_);obtain⟨rfl,rfl⟩:=h;exact .gh (.nil 7 [.osl 6,.osl 4] [gI 0,.ff] tDk tWr 65 rfl (by decide) (.seen 7 _ _ rfl (.done ⟨[⟨oDs d,[],true⟩,⟨oDs (Ef d keep tear),[(0,7),(1,6),(2,4),(3,8)],true⟩],.ptr 1 0,⟨⟨⟨(by exact RL4),_,rfl⟩,⟨(by exact RL4),_,rfl⟩,trivial⟩,rfl,⟨_,rfl⟩,rfl,rfl,⟨rfl,rfl⟩⟩⟩)))
  ·have n:¬min (max keep 0) ((d.wait.map enW).length:Int) < ((d.wait.map enW).length:Int):=n;have p:Bb d keep tear=Gu d.firm (d.wait.take i):=by unfold Bb;dsimp only;rw[m,b9 (by rw[aa] at n z;omega)]
   rw[←p];refine di ((Pt (Bb d keep tear) (by rw[I5];exact k) (Fx hd keep tear).now).cal fun q rs h=>?_);obtain⟨rfl,rfl⟩:=h;exact .gh (.nil 6 [.osl 5,.osl 4] [gI 0,.ff] tDk tWr 65 rfl (by decide) (.seen 6 _ _ rfl (.done ⟨[⟨oDs d,[],true⟩,⟨oDs (Ef d keep tear),[(0,6),(1,5),(2,4),(3,7)],true⟩],.ptr 1 0,⟨⟨⟨(by exact RL4),_,rfl⟩,⟨(by exact RL4),_,rfl⟩,trivial⟩,rfl,⟨_,rfl⟩,rfl,rfl,⟨rfl,rfl⟩⟩⟩)))
end Go.Proofs.YtihfaocdpmmooaaGreat
