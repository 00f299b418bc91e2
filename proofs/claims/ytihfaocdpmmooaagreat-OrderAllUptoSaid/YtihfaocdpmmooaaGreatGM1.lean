
import Derived.Test.YtihfaocdpmmooaaGreatNM1
import Derived.Test.YtihfaocdpmmooaaGreatSxMe
import Derived.Test.YtihfaocdpmmooaaGreatOM1
import Derived.Test.YtihfaocdpmmooaaGreatSxMc
namespace Go.Proofs.YtihfaocdpmmooaaGreat
open Go.RowKit
set_option maxRecDepth 100000
def Zij (n:PN)(p:Int × Int × List REnt):PN:={n with pmd:=p.1,normal:=p.2.1,log:=p.2.2}
def Zhq (n:PN):Int × Int × List REnt:=(n.pmd,n.normal,n.log)
abbrev Zcc (n:PN)(s l o:G):List G:=[gI n.self,gI n.many,s,gI n.pmd,gI n.normal,l,gI 0,.v (.bool false),.v (.bool false),.v (.bool false),gI 0,.nl,.v (.bool false),gI 0,.nl,.v (.bool false),gI 0,.nl,.v (.bool false),gI 0,.nl,.v (.bool false),gI 0,.nl,.v (.bool false),gI 0,.nl,.v (.bool false),gI 0,.nl,gI 0,gI 0,gI 0,gI 0,gI 0,gI 0,gI 0,gI 0,.v (.bool false),.v (.bool false),.v (.bool false),.v (.bool false),.v (.bool false),.v (.bool false),.v (.bool false),o,.v (.bool false)]
abbrev oF (n:PN)(b e:Nat):List R:=[.blk (Zcc n (.ptr 1 0) (.osl 2) (.osl 3)) tNd,.abs (cl (oLs n.st e)),.slc (n.log.map enE) tEn 3,.slc [] tPk 3,.adr 0 b]
abbrev oFs (n:PN)(b e:Nat):Os:=B7 (oF n b e) 0
abbrev cF (n:PN)(b e:Nat):List R:=[.abs (cl (oFs n b e))]
set_option maxHeartbeats 4000000 in
theorem Zf2 (n:PN)(b e:Nat)(hl:n.log.length≤1000000)(r:ByteArray)(hr:r.size≤1000000):FnO Tryz.prog 58 [.ptr 0 0,.v (.string r)] (cF n b e) fun g rs=>(Db (Zhq n) r=none∧g=.v (.bool false)∧rs=cF n b e)∨∃p,Db (Zhq n) r=some p∧g=.v (.bool true)∧rs=cF (Zij n p) b e:=by
 obtain⟨D,E,G,A,B,H,I,J,K,C,L,M,N,F,P⟩:=n
 refine Ba Tryz.func58 (A5 (O:=oFs ⟨D,E,G,A,B,H,I,J,K,C,L,M,N,F,P⟩ b e) (n0:=5) rfl) ?_
 refine(Z6a [1,2,2,3] r.data.toList (by decide) (by rw[cb];exact b9 hr (by decide))).cal fun q hq=>?_
 subst hq
 refine di (fun he=>?_) fun he=>?_
 ·have eL:Db (G,A,B) r=none:=by unfold Db;rw[db he]
  exact .inl (A1 (oFs ⟨D,E,G,A,B,H,I,J,K,C,L,M,N,F,P⟩ b e) [] (by exact RL5) rfl ⟨_,rfl⟩ rfl rfl (.inl ⟨eL,rfl,rfl⟩))
 have he:(Jy [1,2,2,3] r.data.toList).e=0:=he
 obtain⟨d1,d2,d3⟩:=Lc he
 have hLn:=(Cg [1,2,2,3] r.data.toList).2 d1
 rw[←d3] at hLn
 obtain⟨x0,x1,x2,x3,hL⟩:∃x0 x1 x2 x3,(Jy [1,2,2,3] r.data.toList).l=[x0,x1,x2,x3]:=by
  generalize (Jy [1,2,2,3] r.data.toList).l=l at hLn
  match l,hLn with
  | [a,b,c,d],_=>exact⟨a,b,c,d,rfl⟩
 rw[hL]
 have eL:Db (G,A,B) r=if x0.n=1 then some (x1.n,A,B) else if x0.n=2 then some (G,x1.n,B) else if x0.n=3 then some (G,A,B++[⟨x1.n,x2.n,x3.s⟩]) else none:=by
  unfold Db
  rw[da (fun h=>h he),hL]
 refine dk (f:=Ed) (l:=[x0,x1,x2,x3]) (i:=0) rfl ?_
 refine de (fun(h1:x0.n=1)=>?_) fun(h1:x0.n≠1)=>?_
 ·rw[db h1] at eL
  refine dk (f:=Ed) (l:=[x0,x1,x2,x3]) (i:=1) rfl ?_
  exact .inl (A1 (oFs ⟨D,E,x1.n,A,B,H,I,J,K,C,L,M,N,F,P⟩ b e) [] (by exact RL5) rfl ⟨_,rfl⟩ rfl rfl (.inr ⟨_,eL,rfl,rfl⟩))
 rw[da h1] at eL
 refine de (fun(h2:x0.n=2)=>?_) fun(h2:x0.n≠2)=>?_
 ·rw[db h2] at eL
  refine dk (f:=Ed) (l:=[x0,x1,x2,x3]) (i:=1) rfl ?_
  exact .inl (A1 (oFs ⟨D,E,G,x1.n,B,H,I,J,K,C,L,M,N,F,P⟩ b e) [] (by exact RL5) rfl ⟨_,rfl⟩ rfl rfl (.inr ⟨_,eL,rfl,rfl⟩))
 rw[da h2] at eL
 refine de (fun(h3:x0.n=3)=>?_) fun(h3:x0.n≠3)=>?_
 ·rw[db h3] at eL
  refine dk (f:=Ed) (l:=[x0,x1,x2,x3]) (i:=1) rfl ?_
  refine dk (f:=Ed) (l:=[x0,x1,x2,x3]) (i:=2) rfl ?_
  refine dk (f:=Ed) (l:=[x0,x1,x2,x3]) (i:=3) rfl ?_
  refine⟨by rw[aa];show B.length+1≤_;have:B.length≤1000000:=hl;omega,?_⟩
  exact .inl (A1 (oFs ⟨D,E,G,A,B++[⟨x1.n,x2.n,x3.s⟩],H,I,J,K,C,L,M,N,F,P⟩ b e) [(2,7)] ⟨RL1,RL1,⟨rfl,rfl,eqR (by rw[am];rfl)⟩,RL1,RL1,trivial⟩ rfl ⟨_,rfl⟩ rfl rfl (.inr ⟨_,eL,rfl,rfl⟩))
 ·rw[da h3] at eL
  exact .inl (A1 (oFs ⟨D,E,G,A,B,H,I,J,K,C,L,M,N,F,P⟩ b e) [] (by exact RL5) rfl ⟨_,rfl⟩ rfl rfl (.inl ⟨eL,rfl,rfl⟩))
theorem Z6u {cs:List G}{t:TypeId}{rs:List R}{I:Imm}{b:Nat}{S:Nat→Prop}{w:World}(h:cl (B7 (.blk cs t::rs) 0) I b S w):cl (B7 (.blk (cs.map Mi) t::rs) 0) I b S w:=by
 obtain⟨V,hb,hO,hS⟩:=h
 have l0:∀(c:List G),look 0 (B7 (R.blk c t::rs) 0)=some (.blk c t):=fun c=>rfl
 have hl:∀k,k≠0→look k (B7 (R.blk (cs.map Mi) t::rs) 0)=look k (B7 (R.blk cs t::rs) 0):=fun k hk=>by
  cases k with
  | zero=>exact dc rfl hk
  | succ k=>rfl
 have ex:∀{c c':List G} {k:Nat} {r:R},(c=cs∧c'=cs.map Mi∨c=cs.map Mi∧c'=cs)→look k (B7 (R.blk c t::rs) 0)=some r→∃r',look k (B7 (R.blk c' t::rs) 0)=some r':=fun {c c' k r} hc hk=>by
  by_cases h0:k=0
  ·subst h0;exact⟨_,l0 c'⟩
  ·rcases hc with⟨rfl,rfl⟩ | ⟨rfl,rfl⟩
   ·exact⟨r,by rw[hl k h0];exact hk⟩
   ·exact⟨r,by rw[←hl k h0];exact hk⟩
 refine⟨V,hb,⟨fun k r hk=>?_,fun k r hk=>?_,fun k r b hk hb=>?_,fun k k' r r' b hk hk' hb hb'=>?_⟩,fun c=>⟨fun hc=>?_,fun⟨k,r,hk,hf⟩=>?_⟩⟩
 ·obtain⟨r',hr⟩:=ex (.inr ⟨rfl,rfl⟩) hk
  exact hO.num k r' hr
 ·by_cases h0:k=0
  ·subst h0
   rw[l0] at hk
   obtain rfl:=cg hk
   obtain⟨h1,us,h2,h3,h4⟩:=hO.each 0 _ (l0 cs)
   refine⟨h1,us,h2,by rw[aa];exact h3,fun j g u hg hu=>?_⟩
   rw[aj] at hg
   obtain⟨g0,hg0,rfl⟩:=ax.1 hg
   exact Mu (h4 j g0 u hg0 hu)
  ·rw[hl k h0] at hk
   exact hO.each k r hk
 ·obtain⟨r',hr⟩:=ex (.inr ⟨rfl,rfl⟩) hk
  exact hO.lt k r' b hr hb
 ·obtain⟨q,hr⟩:=ex (.inr ⟨rfl,rfl⟩) hk
  obtain⟨q',hr'⟩:=ex (.inr ⟨rfl,rfl⟩) hk'
  exact hO.disj k k' q q' b hr hr' hb hb'
 ·obtain⟨k,r,hk,hf⟩:=(hS c).1 hc
  obtain⟨r',hr⟩:=ex (.inl ⟨rfl,rfl⟩) hk
  exact⟨k,r',hr,hf⟩
 ·obtain⟨r',hr⟩:=ex (.inr ⟨rfl,rfl⟩) hk
  exact(hS c).2 ⟨k,r',hr,hf⟩
theorem Zif (s m:Nat)(p:Int × Int × List REnt)(st:LD)(b e:Nat):WkR (.abs (cl (oFs (Ih s m p st) b e))) (.abs (cl (oAs (Ih s m p st) b e))) :=
 .inr ⟨_,_,rfl,rfl,Zw _,fun _ _ _ _ h=>Z6u h⟩
theorem Rb:∀(n:Nat) (b:Bs) (l:List ByteArray),Z3r n b=some l→4 * l.length≤b.length∧∀s∈l,s.size≤4096
 | 0,b,l,h=>by
  unfold Z3r at h
  split at h
  ·cases h;exact⟨by simp,fun s hs=>by cases hs⟩
  ·cases h
 | n+1,b,l,h=>by
  unfold Z3r at h
  split at h
  ·cases h;exact⟨by simp,fun s hs=>by cases hs⟩
  ·split at h
   ·cases h
   ·split at h
    ·cases h
    ·next h1 h2 h3 =>
     obtain⟨l',hl',rfl⟩:=ax.1 h
     obtain⟨a1,a2⟩:=Rb n _ l' hl'
     rw[ba] at a1
     refine⟨by rw[bc];omega,fun s hs=>?_⟩
     rcases bh.1 hs with rfl | hs
     ·show(List.toArray _).size≤_
      rw[List.size_toArray,au];omega
     ·exact a2 s hs
theorem Z31 {d:RD}{l:LD}(h:Yw d=some l)(hl:(Cr d (Ko d).half).length≤4000000):l.all.length≤1000000∧(∀s∈l.all,s.size≤4096)∧l.d=d∧l.dead=false:=by
 unfold Yw at h
 split at h
 ·cases h
 ·next a ha =>
  cases h
  obtain⟨h1,h2⟩:=Rb _ _ a ha
  rw[au] at h1
  exact⟨by show a.length≤_;omega,h2,rfl,rfl⟩
def Zby (d:RD)(self many:Int):Prop:=¬(Ag many=0∨self < 0∨self ≥ many∨(d.now.length:Int) < 1100)
theorem Z6y {m:Int}(h:Ag m≠0):1≤m∧m≤7:=by
 unfold Ag at h
 split at h
 ·next h1=>exact Dr h1
 ·exact dc rfl h
theorem Z76 {d:RD}(hw:WD d)(h:Nat):(Cr d h).length≤35136:=by
 unfold Cr
 have key:∀L:List Sec,(∀x∈L,x.length=64)→L.flatten.length=L.length * 64:=fun L hL=>by
  induction L with
  | nil=>rfl
  | cons s L ih=>rw[b7,aw,hL s (by simp),ih fun x hx=>hL x (by simp[hx]),bc];omega
 rw[key _ fun x hx=>hw.now x (bz (bd hx)),au]
 omega
theorem Z0i {p q:Int × Int × List REnt}{r:ByteArray}(h:Db p r=some q):q.2.2.length≤p.2.2.length+1:=by
 unfold Db at h
 split at h
 ·cases h
 ·split at h
  ·split at h
   ·cases h;exact Nat.le_succ _
   ·split at h
    ·cases h;exact Nat.le_succ _
    ·split at h
     ·cases h;simp
     ·cases h
  ·cases h
set_option maxHeartbeats 4000000 in
theorem Z2y (d:RD)(hwd:WD d)(hd:d.dead=false)(self many:Int):FnO Tryz.prog 17 [.ptr 0 0,gI self,gI many] (cD d) fun g rs=>(N4 d self many=none∧g=.tup [.v (.pointer none),gI 130]∧(rs=cD d∨Zby d self many∧rs=[.gone]))∨∃n b e,N4 d self many=some n∧g=.tup [.ptr 1 0,gI 0]∧rs=[.gone,.abs (cl (oAs n b e)),.adr 0 e]:=by
 refine FnO.wk (Q:=fun g rs=>(N4 d self many=none∧g=.tup [.v (.pointer none),gI 130]∧(rs=cD d∨Zby d self many∧rs=[.gone]))∨∃s m p st b e,N4 d self many=some (Ih s m p st)∧g=.tup [.ptr 1 0,gI 0]∧rs=[.gone,.abs (cl (oFs (Ih s m p st) b e)),.adr 0 e]) ?_ fun g rs h=>?_
 rotate_left
 ·rcases h with h | ⟨s,m,p,st,b,e,h1,h2,rfl⟩
  ·exact⟨rs,WkL.refl _,.inl h⟩
  ·exact⟨[.gone,.abs (cl (oAs (Ih s m p st) b e)),.adr 0 e],⟨.inl rfl,Zif s m p st b e,.inl rfl,trivial⟩,.inr ⟨_,b,e,h1,h2,rfl⟩⟩
 refine Ba Tryz.func17 (Tj _ _) ?_
 have no:¬Zby d self many→N4 d self many=none:=fun h=>by unfold N4;rw[db (bx h)]
 have end0:∀{own:Os} {n:Nat},look 0 own=some (.abs (cl (oDs d)))→¬Zby d self many→Z3l [0] own n (.tup [.v (.pointer none),gI 130]) (fun g rs=>(N4 d self many=none∧g=.tup [.v (.pointer none),gI 130]∧(rs=cD d∨Zby d self many∧rs=[.gone]))∨∃s m p st b e,N4 d self many=some (Ih s m p st)∧g=.tup [.ptr 1 0,gI 0]∧rs=[.gone,.abs (cl (oFs (Ih s m p st) b e)),.adr 0 e]):=fun h0 hp =>
  .inl (A7 h0 rfl (.inl ⟨no hp,rfl,.inl rfl⟩))
 refine dh ((Z2w d).cal fun q rs hq=>?_)
 obtain⟨rfl,rfl⟩:=hq
 refine dj (fun h=>dc hd (by rw[h];decide)) fun _=>?_
 refine(W1 _).cal fun q hq=>?_
 subst hq
 refine de (fun(hq:Ag many=0)=>?_) fun(hq:Ag many≠0)=>?_
 ·exact end0 rfl (fun h=>h (.inl hq))
 refine df (fun(hs:self < 0)=>?_) fun(hs:¬self < 0)=>?_
 ·exact end0 rfl (fun h=>h (.inr (.inl hs)))
 refine df (fun(hm:self ≥ many)=>?_) fun(hm:¬self ≥ many)=>?_
 ·exact end0 rfl (fun h=>h (.inr (.inr (.inl hm))))
 refine dh ((Za d).cal fun q rs hq=>?_)
 obtain⟨rfl,rfl⟩:=hq
 refine df (fun(hl:(d.now.length:Int) < 1100)=>?_) fun(hl:¬(d.now.length:Int) < 1100)=>?_
 ·exact end0 rfl (fun h=>h (.inr (.inr (.inr hl))))
 have hpar:Zby d self many:=by
  rintro(h | h | h | h)
  ·exact hq h
  ·exact hs h
  ·exact hm h
  ·exact hl h
 have hm7:=Z6y hq
 obtain⟨s,rfl⟩:∃s:Nat,self=s:=⟨self.toNat,by omega⟩
 obtain⟨m,rfl⟩:∃m:Nat,many=m:=⟨many.toNat,by omega⟩
 refine dh ((Zes d hwd (by omega) hd).cal fun q rs hq=>?_)
 rcases hq with⟨h1,rfl,rfl⟩ | ⟨l,e,h1,rfl,rfl⟩
 ·refine di (fun _=>?_) fun h=>dc h (by decide)
  have eO:N4 d s m=none:=by unfold N4;rw[da hpar,h1]
  exact .inl (A7 rfl rfl (.inl ⟨eO,rfl,.inl rfl⟩))
 refine di (fun h=>dc rfl h) fun _=>?_
 obtain⟨z1,z2,z3,z4⟩:=Z31 h1 (b9 (Z76 hwd _) (by decide))
 have eO:N4 d s m=match Bf l.all (0,0,[]) with
   | none=>none
   | some p=>if Bo p.2.2=true∧p.2.1≤p.1∧Au p.2.2 p.2.1=true then some (Ih s m p l) else none:=by
  unfold N4;rw[da hpar,h1];rfl
 refine dh ((Zgx l e z1).cal fun q rs hq=>?_)
 obtain⟨rfl,rfl⟩:=hq
 refine Z3z (.nil 3 [gI s,gI m,.ptr 1 0,gI 0,gI 0] [gI 0,.ff,.ff,.ff,gI 0,.nl,.ff,gI 0,.nl,.ff,gI 0,.nl,.ff,gI 0,.nl,.ff,gI 0,.nl,.ff,gI 0,.nl,.ff,gI 0,.nl,gI 0,gI 0,gI 0,gI 0,gI 0,gI 0,gI 0,gI 0,.ff,.ff,.ff,.ff,.ff,.ff,.ff,.nl,.ff] tNd tEn 3 rfl (by decide) (.nil 3 [gI s,gI m,.ptr 1 0,gI 0,gI 0,.osl 5,gI 0,.ff,.ff,.ff,gI 0,.nl,.ff,gI 0,.nl,.ff,gI 0,.nl,.ff,gI 0,.nl,.ff,gI 0,.nl,.ff,gI 0,.nl,.ff,gI 0,.nl,gI 0,gI 0,gI 0,gI 0,gI 0,gI 0,gI 0,gI 0,.ff,.ff,.ff,.ff,.ff,.ff,.ff] [.ff] tNd tPk 3 rfl (by decide) (.seen 3 _ _ rfl (.adr 3 _ rfl fun b=>.close (oFs (Ih s m (0,0,[]) l) b e) [(0,3),(1,1),(2,5),(3,6),(4,7)] (by exact RL5) ⟨_,rfl⟩ rfl (.done ?_)))))
 refine D2 [10,47,48] [0,2,4] (fun x:Nat × (Int × Int × List REnt)=>[(49,gI x.1)]) (fun x=>[(3,.abs (cl (oFs (Ih s m x.2 l) b e)))]) (fun x=>x.1≤l.all.length∧Bf (l.all.drop x.1) x.2=Bf l.all (0,0,[])∧x.2.2.2.length≤x.1) (fun x=>l.all.length - x.1) (0,(0,0,[])) ⟨ah _,rfl,af _⟩ ⟨⟨rfl,rfl⟩,trivial⟩ ⟨RL1,trivial⟩ rfl fun⟨i,p⟩ hI=>?_
 obtain⟨hi,hA,hpl⟩:=hI
 dsimp only at hi hA hpl
 rw[←hA] at eO
 refine df (fun hlt=>?_) fun hge=>?_
 ·rw[aa] at hlt
  obtain⟨c,hc⟩:∃c,l.all[i]?=some c:=⟨_,ab (by omega)⟩
  have hdr:l.all.drop i=c::l.all.drop (i+1):=by
   have e2:=(ac.1 hc).2
   rw[←e2,List.getElem_cons_drop]
  rw[hdr] at hA eO
  refine⟨⟨by omega,by rw[aa];omega⟩,?_⟩
  refine dk (f:=gSt) hc ?_
  refine dh ((Zf2 (Ih s m p l) b e (by show p.2.2.length≤_;omega) c (by have:=z2 c (ae hc);omega)).cal fun q rs hq=>?_)
  rcases hq with⟨k1,rfl,rfl⟩ | ⟨p',k1,rfl,rfl⟩
  ·have k1:Db p c=none:=k1
   have eN:N4 d s m=none:=by rw[eO];unfold Bf;rw[k1]
   refine dj (fun _=>?_) fun h=>(by cases h)
   conv=>whnf
   refine Gh.done ?_
   exact .inl ⟨[⟨[(0,.gone)],[(0,0)],false⟩],.tup [.v (.pointer none),gI 130],⟨⟨⟨_,rfl,rfl,rfl⟩,trivial⟩,rfl,⟨[],rfl⟩,rfl,rfl,.inl ⟨eN,rfl,.inr ⟨hpar,rfl⟩⟩⟩⟩
  ·have k1:Db p c=some p':=k1
   have eN:Bf (c::l.all.drop (i+1)) p=Bf (l.all.drop (i+1)) p':=by
    show(match Db p c with | none=>none | some p=>Bf (l.all.drop (i+1)) p)=_
    rw[k1]
   rw[eN] at hA
   have hp':=Z0i k1
   refine dj (fun h=>(by cases h)) fun _=>?_
   refine⟨by omega,.done ⟨(i+1,p'),[],⟨by dsimp only;omega,hA,by dsimp only;omega⟩,(by dsimp only;omega),?_⟩⟩
   refine⟨?_,?_,rfl⟩<;>repeat' (first|exact trivial|with_reducible rfl|exact rfl|refine And.intro ?_ ?_)
 ·rw[aa] at hge
  have hdr:l.all.drop i=[]:=c7 (by omega)
  rw[hdr] at eO
  have eO:N4 d s m=if Bo p.2.2=true∧p.2.1≤p.1∧Au p.2.2 p.2.1=true then some (Ih s m p l) else none:=eO
  conv=>whnf
  refine Gh.opn 3 _ _ _ rfl rfl rfl (.done ?_)
  have hpl2:p.2.2.length≤1000000:=by have:=z1;omega
  refine dg (EvSn.peek ?a ?b)
  case a=>exact rfl
  refine(T8 p.2.2 hpl2).mono fun g hg=>?_
  subst hg
  refine⟨rfl,?_⟩
  have bad:¬(Bo p.2.2=true∧p.2.1≤p.1∧Au p.2.2 p.2.1=true)→N4 d s m=none:=fun h=>by rw[eO,da h]
  refine dj (fun h1=>?_) fun h1=>?_
  ·have eN:=bad (fun h=>by rw[h.1] at h1;cases h1)
   exact .inl ⟨[⟨[(0,.gone)],[(0,0)],false⟩],.tup [.v (.pointer none),gI 130],⟨⟨⟨_,rfl,rfl,rfl⟩,trivial⟩,rfl,⟨[],rfl⟩,rfl,rfl,.inl ⟨eN,rfl,.inr ⟨hpar,rfl⟩⟩⟩⟩
  have h1:Bo p.2.2=true:=by simpa using h1
  refine df (fun h2=>?_) fun h2=>?_
  ·have h2:p.2.1 > p.1:=h2
   have eN:=bad (fun h=>by omega)
   exact .inl ⟨[⟨[(0,.gone)],[(0,0)],false⟩],.tup [.v (.pointer none),gI 130],⟨⟨⟨_,rfl,rfl,rfl⟩,trivial⟩,rfl,⟨[],rfl⟩,rfl,rfl,.inl ⟨eN,rfl,.inr ⟨hpar,rfl⟩⟩⟩⟩
  have h2:¬p.2.1 > p.1:=h2
  refine dg (EvSn.peek ?a2 ?b2)
  case a2=>exact rfl
  refine(U9 p.2.2 hpl2 p.2.1).mono fun g hg=>?_
  subst hg
  refine⟨rfl,?_⟩
  refine dj (fun h3=>?_) fun h3=>?_
  ·have eN:=bad (fun h=>by rw[h.2.2] at h3;cases h3)
   exact .inl ⟨[⟨[(0,.gone)],[(0,0)],false⟩],.tup [.v (.pointer none),gI 130],⟨⟨⟨_,rfl,rfl,rfl⟩,trivial⟩,rfl,⟨[],rfl⟩,rfl,rfl,.inl ⟨eN,rfl,.inr ⟨hpar,rfl⟩⟩⟩⟩
  have h3:Au p.2.2 p.2.1=true:=by simpa using h3
  rw[db ⟨h1,by omega,h3⟩] at eO
  exact .inl ⟨[⟨[(0,.gone)],[(0,0)],false⟩,⟨oFs (Ih s m p l) b e,[(0,3),(1,8),(2,9),(3,10),(4,11)],true⟩,⟨[(0,.adr 0 e)],[(0,2)],false⟩],.tup [.ptr 1 0,gI 0],⟨⟨⟨_,rfl,rfl,rfl⟩,⟨(by exact RL5),_,rfl⟩,⟨_,rfl,rfl,rfl⟩,trivial⟩,rfl,⟨_,rfl⟩,rfl,rfl,.inr ⟨s,m,p,l,b,e,eO,rfl,rfl⟩⟩⟩
theorem Z5s (l:List Sec)(hl:l.length≤1000000)(hs:∀s∈l,s.length=64):FnO Tryz.prog 120 [.sl (l.map E5)] [] fun g rs=>g=.osl 0∧rs=[.slc (l.map E5) tSc 64]:=by
 refine Ba Tryz.func120 (Q3 _) ?_
 refine⟨fun b hb=>?_⟩
 refine dj (fun h=>?_) fun h=>?_
 ·have e:l.map E5=[]:=bx fun hne=>by rw[hb hne] at h;cases h
  exact Gr (k:=1) rfl e.symm
 ·refine⟨fun r hr=>?_,?_⟩
  ·obtain⟨s,h1,rfl⟩:=az.1 hr
   exact⟨(Bw s).trans (hs s h1),List.all_eq_true.2 fun g hg=>Pd (Hq hg)⟩
  ·refine⟨by simp;omega,?_⟩
   exact Gr (k:=2) rfl (cx _)
theorem O5 (l:List Sec)(hl:l.length≤1000000)(hs:∀s∈l,s.length=64):FnO Tryz.prog 120 [.osl 0] [.slc (l.map E5) tSc 64] fun g rs=>g=.osl 1∧rs=[.slc (l.map E5) tSc 64,.slc (l.map E5) tSc 64] :=
 FnO.peekN (Z5s l hl hs) rfl fun r hr g hg=>by
  obtain⟨s,-,rfl⟩:=az.1 hr
  exact Hq hg
theorem Un:∀l:List G,(l.map fun g=>[g]).flatten=l
 | []=>rfl
 | g::l=>by rw[cj,b7,Un l];rfl
theorem Vt {l:List Sec}{i:Nat}{s:Sec}{tear:Int}{K:List (List G)→Prop}(hi:i < l.length)(hs:s.length=64)(h:K ((l.set i (Km (l[i]?.getD []) s tear)).map E5)):EvSet (l.map E5) i (fun row k=>k (row.take 0++(((E5 s).map fun g=>[g]).take (min ((E5 s).map fun g=>[g]).length (min (max tear 0) 64).toNat)).flatten++row.drop (0+min ((E5 s).map fun g=>[g]).length (min (max tear 0) 64).toNat))) K:=by
 have hx:l[i]?=some l[i]:=ab hi
 refine dm (f:=E5) (y:=Km l[i] s tear) hx (fun k hk=>?_) rfl (by rw[hx] at h;exact h)
 have hl:((E5 s).map fun g=>[g]).length=64:=by rw[aa,Bw,hs]
 have hT:min 64 (min (max tear 0) 64).toNat=(min (max tear 0) 64).toNat:=by omega
 rw[hl,hT,←cv,Un,ca]
 have e:E5 (Km l[i] s tear)=[]++(E5 s).take (min (max tear 0) 64).toNat++(E5 l[i]).drop (min (max tear 0) 64).toNat:=by
  unfold Km E5
  rw[am,cv,List.map_drop];rfl
 rw[e] at hk
 exact hk
theorem Z2t (d:RD)(hd:WD d)(hw:d.wait.length≤1000000)(keep tear:Int):FnO Tryz.prog 80 [.ptr 0 0,gI keep,gI tear] (cD d) fun g rs=>g=.ptr 1 0∧rs=[.abs (cl (oDs d)),.abs (cl (oDs (Eh d keep tear)))]:=by
 refine Ba Tryz.func80 (A5 (O:=oDs d) (n0:=4) rfl) ?_
 have hfl:d.firm.length≤1000000:=by have:=hd.len;have:=hd.few;omega
 refine dh ((O5 d.firm hfl hd.firm).cal fun q rs hq=>?_)
 obtain⟨rfl,rfl⟩:=hq
 have hL:((d.wait.map enW).length:Int)=(d.wait.length:Int):=by rw[aa]
 have hk0:0≤min (max keep 0) ((d.wait.map enW).length:Int)∧min (max keep 0) ((d.wait.map enW).length:Int)≤((d.wait.map enW).length:Int):=by omega
 have hK:(min (max keep 0) ((d.wait.map enW).length:Int)).toNat=Hz d keep:=by unfold Hz;rw[aa]
 refine⟨⟨bp _,hk0.1,hk0.2⟩,?_⟩
 conv=>whnf
 rw[hK]
 have hkl:Hz d keep≤d.wait.length:=by unfold Hz;omega
 have hq0:Hz d keep=Hz d keep:=rfl
 generalize hqe:Hz d keep=q at *
 have hq0:=hqe
 clear hqe
 refine Ap [0,1,2,7,29,30] [0,1,2,3] (fun i:Nat=>[(31,gI i)]) (fun i=>[(4,.slc ((Ge d.firm (d.wait.take i)).map E5) tSc 64)]) (fun i=>i≤q) (fun i=>q - i) 0 (ah _) ⟨⟨rfl,rfl⟩,trivial⟩ ⟨RL1,trivial⟩ rfl fun i hi=>?_
 have hq:(E6 (d.wait.map enW) 0 q).length=q:=by unfold E6;rw[ba,au,aa];omega
 refine df (fun h5=>?_) fun h5=>?_
 ·have h5:((i:Nat):Int) < ((E6 (d.wait.map enW) 0 q).length:Nat):=h5
  rw[hq] at h5
  refine⟨⟨by omega,by omega⟩,dn (f:=enW) (l:=d.wait) (i:=0+((i:Nat):Int).toNat) (by rw[ay];omega) fun x hx=>?_⟩
  have hx:d.wait[0+((i:Nat):Int).toNat]?=some x:=hx
  rw[ay,ca] at hx
  have hx2:=hd.wait x (ae hx)
  refine⟨by rw[D5 hx2.2];exact af _,?_⟩
  conv=>whnf
  rw[Sc hx2.2]
  refine⟨⟨(D5 hx2.2),fun g hg=>Qf hg⟩,?_⟩
  refine⟨⟨(D5 hx2.2),af _⟩,?_⟩
  conv=>whnf
  rw[Rn]
  refine⟨by rw[D5 hx2.2];exact af _,?_⟩
  conv=>whnf
  rw[Z89 hx2.2]
  refine⟨fun g hg=>Fe (Hq hg),?_⟩
  have hl2:(Ge d.firm (d.wait.take i)).length=d.now.length:=(F8 _ _).trans hd.len
  refine⟨⟨by omega,by rw[aa,hl2];have:=hx2.1;omega⟩,?_⟩
  refine⟨⟨(Bw _).trans hx2.2,fun g hg=>Hq hg⟩,?_⟩
  refine S2 (s:=x.2) (l:=Ge d.firm (d.wait.take i)) (by rw[hl2];have:=hx2.1;omega) (F6 _ _ hd.firm fun w hw=>(hd.wait w (bd hw)).2) hx2.2 rfl ?_
  refine⟨by omega,i+1,by omega,(by dsimp only;omega),?_⟩
  refine⟨?_,?_,rfl⟩<;>repeat' (first|exact trivial|with_reducible rfl|exact rfl|refine And.intro ?_ ?_)
  exact eqR (by rw[Qx hx];rfl)
 ·have h5:¬((i:Nat):Int) < ((E6 (d.wait.map enW) 0 q).length:Nat):=h5
  rw[hq] at h5
  have hi2:i=q:=by omega
  subst hi2
  have hl2:(Ge d.firm (d.wait.take i)).length=d.now.length:=(F8 _ _).trans hd.len
  have hs2:∀s∈Ge d.firm (d.wait.take i),s.length=64:=F6 _ _ hd.firm fun w hw=>(hd.wait w (bd hw)).2
  refine df (fun h6=>?_) fun h6=>?_
  ·have h6:min (max keep 0) ((d.wait.map enW).length:Int) < ((d.wait.map enW).length:Int):=h6
   have hi3:i < d.wait.length:=by rw[aa] at h6 hK;omega
   refine⟨⟨hk0.1,h6⟩,dn (f:=enW) (l:=d.wait) (i:=(min (max keep 0) ((d.wait.map enW).length:Int)).toNat) (by rw[hK];exact hi3) fun x hx=>?_⟩
   rw[hK] at hx
   have hx2:=hd.wait x (ae hx)
   refine⟨by rw[D5 hx2.2];exact af _,?_⟩
   conv=>whnf
   rw[Sc hx2.2]
   refine⟨⟨(D5 hx2.2),fun g hg=>Qf hg⟩,?_⟩
   refine⟨⟨(D5 hx2.2),af _⟩,?_⟩
   conv=>whnf
   rw[Rn]
   refine⟨⟨by omega,by rw[aa,hl2];have:=hx2.1;omega⟩,?_⟩
   have hxl:x.1 < (Ge d.firm (d.wait.take i)).length:=by rw[hl2];exact hx2.1
   have hpt:List.drop (Nat.add 0 1) (enW x)=E5 x.2:=rfl
   have e64:List.take 64 (List.drop (Nat.add 0 1) (enW x))=E5 x.2:=by
    show List.take 64 (E5 x.2)=_
    exact ao (by rw[Bw];omega)
   have hrw:∀r∈(List.take 64 (List.drop (Nat.add 0 1) (enW x))).map (fun g=>[g]),r.length=1∧r.all G.one=true:=fun r hr=>by
    obtain⟨g,hg,rfl⟩:=az.1 hr
    exact⟨rfl,List.all_eq_true.2 fun y hy=>by rw[bm.1 hy];exact Pd (Qf (bz (bd hg)))⟩
   refine⟨?_,?_⟩
   ·refine⟨⟨bp _,by omega,by omega⟩,?_⟩
    refine⟨⟨⟨by rw[aa];exact hxl,af _⟩,by decide⟩,?_⟩
    refine⟨⟨by rw[D5 hx2.2];exact af _,fun g hg=>Qf hg⟩,?_⟩
    refine⟨hrw,?_⟩
    refine⟨by omega,?_⟩
    rw[e64]
    refine Vt (s:=x.2) (l:=Ge d.firm (d.wait.take i)) (tear:=tear) hxl hx2.2 ?_
    rw[ay]
    have hL:Be d keep tear=(Ge d.firm (d.wait.take i)).set x.1 (Km ((Ge d.firm (d.wait.take i))[x.1]?.getD []) x.2 tear):=by unfold Be;dsimp only;rw[hq0,hx]
    rw[←hL]
    refine dh ((O5 (Be d keep tear) (by rw[H8];exact hfl) (Fo hd keep tear).now).cal fun q rs hq=>?_)
    obtain⟨rfl,rfl⟩:=hq
    exact .gh (.nil 7 [.osl 6,.osl 4] [gI 0,.ff] tDk tWr 65 rfl (by decide) (.seen 7 _ _ rfl (.done ⟨[⟨oDs d,[],true⟩,⟨oDs (Eh d keep tear),[(0,7),(1,6),(2,4),(3,8)],true⟩],.ptr 1 0,⟨⟨⟨(by exact RL4),_,rfl⟩,⟨(by exact RL4),_,rfl⟩,trivial⟩,rfl,⟨_,rfl⟩,rfl,rfl,⟨rfl,rfl⟩⟩⟩)))
   ·refine⟨⟨by rw[D5 hx2.2];exact af _,fun g hg=>Qf hg⟩,?_⟩
    refine⟨⟨bp _,by omega,by omega⟩,?_⟩
    refine⟨⟨⟨by rw[aa];exact hxl,af _⟩,by decide⟩,?_⟩
    refine⟨hrw,?_⟩
    refine⟨by omega,?_⟩
    rw[e64]
    refine Vt (s:=x.2) (l:=Ge d.firm (d.wait.take i)) (tear:=tear) hxl hx2.2 ?_
    rw[ay]
    have hL:Be d keep tear=(Ge d.firm (d.wait.take i)).set x.1 (Km ((Ge d.firm (d.wait.take i))[x.1]?.getD []) x.2 tear):=by unfold Be;dsimp only;rw[hq0,hx]
    rw[←hL]
    refine dh ((O5 (Be d keep tear) (by rw[H8];exact hfl) (Fo hd keep tear).now).cal fun q rs hq=>?_)
    obtain⟨rfl,rfl⟩:=hq
    exact .gh (.nil 7 [.osl 6,.osl 4] [gI 0,.ff] tDk tWr 65 rfl (by decide) (.seen 7 _ _ rfl (.done ⟨[⟨oDs d,[],true⟩,⟨oDs (Eh d keep tear),[(0,7),(1,6),(2,4),(3,8)],true⟩],.ptr 1 0,⟨⟨⟨(by exact RL4),_,rfl⟩,⟨(by exact RL4),_,rfl⟩,trivial⟩,rfl,⟨_,rfl⟩,rfl,rfl,⟨rfl,rfl⟩⟩⟩)))
  ·have h6:¬min (max keep 0) ((d.wait.map enW).length:Int) < ((d.wait.map enW).length:Int):=h6
   have hL:Be d keep tear=Ge d.firm (d.wait.take i):=by unfold Be;dsimp only;rw[hq0,b8 (by rw[aa] at h6 hK;omega)]
   rw[←hL]
   refine dh ((O5 (Be d keep tear) (by rw[H8];exact hfl) (Fo hd keep tear).now).cal fun q rs hq=>?_)
   obtain⟨rfl,rfl⟩:=hq
   exact .gh (.nil 6 [.osl 5,.osl 4] [gI 0,.ff] tDk tWr 65 rfl (by decide) (.seen 6 _ _ rfl (.done ⟨[⟨oDs d,[],true⟩,⟨oDs (Eh d keep tear),[(0,6),(1,5),(2,4),(3,7)],true⟩],.ptr 1 0,⟨⟨⟨(by exact RL4),_,rfl⟩,⟨(by exact RL4),_,rfl⟩,trivial⟩,rfl,⟨_,rfl⟩,rfl,rfl,⟨rfl,rfl⟩⟩⟩)))
end Go.Proofs.YtihfaocdpmmooaaGreat
