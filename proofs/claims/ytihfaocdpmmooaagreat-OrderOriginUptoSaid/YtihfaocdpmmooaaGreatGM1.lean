
import Derived.Test.YtihfaocdpmmooaaGreatNM1
import Derived.Test.YtihfaocdpmmooaaGreatSxMe
import Derived.Test.YtihfaocdpmmooaaGreatOM1
import Derived.Test.YtihfaocdpmmooaaGreatSxMc
namespace Go.Proofs.YtihfaocdpmmooaaGreat
open Go.RowKit
set_option maxRecDepth 100000
def Zh2 (n:PN)(p:Int × Int × List REnt):PN:={n with pmd:=p.1,normal:=p.2.1,log:=p.2.2}
def Zfw (n:PN):Int × Int × List REnt:=(n.pmd,n.normal,n.log)
abbrev Zcn (n:PN)(s l o:G):List G:=[gI n.self,gI n.many,s,gI n.pmd,gI n.normal,l,gI 0,.v (.bool false),.v (.bool false),.v (.bool false),gI 0,.nl,.v (.bool false),gI 0,.nl,.v (.bool false),gI 0,.nl,.v (.bool false),gI 0,.nl,.v (.bool false),gI 0,.nl,.v (.bool false),gI 0,.nl,.v (.bool false),gI 0,.nl,gI 0,gI 0,gI 0,gI 0,gI 0,gI 0,gI 0,gI 0,.v (.bool false),.v (.bool false),.v (.bool false),.v (.bool false),.v (.bool false),.v (.bool false),.v (.bool false),o,.v (.bool false)]
abbrev oF (n:PN)(b e:Nat):List R:=[.blk (Zcn n (.ptr 1 0) (.osl 2) (.osl 3)) tNd,.abs (cl (oLs n.st e)),.slc (n.log.map enE) tEn 3,.slc [] tPk 3,.adr 0 b]
abbrev oFs (n:PN)(b e:Nat):Os:=Aw (oF n b e) 0
abbrev cF (n:PN)(b e:Nat):List R:=[.abs (cl (oFs n b e))]
set_option maxHeartbeats 4000000 in
theorem Zd8 (n:PN)(b e:Nat)(hl:n.log.length≤1000000)(r:ByteArray)(hr:r.size≤1000000):FnO Tryz.prog 58 [.ptr 0 0,.v (.string r)] (cF n b e) fun g rs=>(Cu (Zfw n) r=none∧g=.v (.bool false)∧rs=cF n b e)∨∃p,Cu (Zfw n) r=some p∧g=.v (.bool true)∧rs=cF (Zh2 n p) b e:=by
 obtain⟨self,many,pmd,normal,log,cmt,lds,std,jns,first,aks,hrd,out,dead,st⟩:=n
 refine Bd Tryz.func58 (by kernel_rfl) rfl (Nat.le_of_ble_eq_true (by kernel_rfl)) (by kernel_rfl) (A6 (O:=oFs ⟨self,many,pmd,normal,log,cmt,lds,std,jns,first,aks,hrd,out,dead,st⟩ b e) (n0:=5) rfl) ?_
 refine(Z3q [1,2,2,3] r.data.toList (by decide) (by rw[Array.length_toList];exact Nat.le_trans hr (by decide))).cal fun q hq=>?_
 subst hq
 refine EvIf.bne (fun he=>?_) fun he=>?_
 ·have eL:Cu (pmd,normal,log) r=none:=by unfold Cu;rw[if_pos he]
  exact .inl (A1 (oFs ⟨self,many,pmd,normal,log,cmt,lds,std,jns,first,aks,hrd,out,dead,st⟩ b e) [] (by exact RL5) rfl ⟨_,rfl⟩ rfl rfl (.inl ⟨eL,rfl,rfl⟩))
 have he:(L8 [1,2,2,3] r.data.toList).e=0:=he
 obtain⟨d1,d2,d3⟩:=No he
 have hLn:=(Cx [1,2,2,3] r.data.toList).2 d1
 rw[←d3] at hLn
 obtain⟨x0,x1,x2,x3,hL⟩:∃x0 x1 x2 x3,(L8 [1,2,2,3] r.data.toList).l=[x0,x1,x2,x3]:=by
  generalize (L8 [1,2,2,3] r.data.toList).l=l at hLn
  match l,hLn with
  | [a,b,c,d],_=>exact⟨a,b,c,d,rfl⟩
 rw[hL]
 have eL:Cu (pmd,normal,log) r=if x0.n=1 then some (x1.n,normal,log) else if x0.n=2 then some (pmd,x1.n,log) else if x0.n=3 then some (pmd,normal,log++[⟨x1.n,x2.n,x3.s⟩]) else none:=by
  unfold Cu
  rw[if_neg (fun h=>h he),hL]
 refine EvIdx.at (f:=I6) (l:=[x0,x1,x2,x3]) (i:=0) rfl ?_
 refine EvIf.beq (fun(h1:x0.n=1)=>?_) fun(h1:x0.n≠1)=>?_
 ·rw[if_pos h1] at eL
  refine EvIdx.at (f:=I6) (l:=[x0,x1,x2,x3]) (i:=1) rfl ?_
  exact .inl (A1 (oFs ⟨self,many,x1.n,normal,log,cmt,lds,std,jns,first,aks,hrd,out,dead,st⟩ b e) [] (by exact RL5) rfl ⟨_,rfl⟩ rfl rfl (.inr ⟨_,eL,rfl,rfl⟩))
 rw[if_neg h1] at eL
 refine EvIf.beq (fun(h2:x0.n=2)=>?_) fun(h2:x0.n≠2)=>?_
 ·rw[if_pos h2] at eL
  refine EvIdx.at (f:=I6) (l:=[x0,x1,x2,x3]) (i:=1) rfl ?_
  exact .inl (A1 (oFs ⟨self,many,pmd,x1.n,log,cmt,lds,std,jns,first,aks,hrd,out,dead,st⟩ b e) [] (by exact RL5) rfl ⟨_,rfl⟩ rfl rfl (.inr ⟨_,eL,rfl,rfl⟩))
 rw[if_neg h2] at eL
 refine EvIf.beq (fun(h3:x0.n=3)=>?_) fun(h3:x0.n≠3)=>?_
 ·rw[if_pos h3] at eL
  refine EvIdx.at (f:=I6) (l:=[x0,x1,x2,x3]) (i:=1) rfl ?_
  refine EvIdx.at (f:=I6) (l:=[x0,x1,x2,x3]) (i:=2) rfl ?_
  refine EvIdx.at (f:=I6) (l:=[x0,x1,x2,x3]) (i:=3) rfl ?_
  refine⟨by rw[List.length_map];show log.length+1≤_;have:log.length≤1000000:=hl;omega,?_⟩
  exact .inl (A1 (oFs ⟨self,many,pmd,normal,log++[⟨x1.n,x2.n,x3.s⟩],cmt,lds,std,jns,first,aks,hrd,out,dead,st⟩ b e) [(2,7)] ⟨RL1,RL1,⟨rfl,rfl,eqR (by rw[List.map_append];rfl)⟩,RL1,RL1,trivial⟩ rfl ⟨_,rfl⟩ rfl rfl (.inr ⟨_,eL,rfl,rfl⟩))
 ·rw[if_neg h3] at eL
  exact .inl (A1 (oFs ⟨self,many,pmd,normal,log,cmt,lds,std,jns,first,aks,hrd,out,dead,st⟩ b e) [] (by exact RL5) rfl ⟨_,rfl⟩ rfl rfl (.inl ⟨eL,rfl,rfl⟩))
theorem Z31 {cs:List G}{t:TypeId}{rs:List R}{I:Imm}{b:Nat}{S:Nat→Prop}{w:World}(h:cl (Aw (.blk cs t::rs) 0) I b S w):cl (Aw (.blk (cs.map Ma) t::rs) 0) I b S w:=by
 obtain⟨V,hb,hO,hS⟩:=h
 have l0:∀(c:List G),look 0 (Aw (R.blk c t::rs) 0)=some (.blk c t):=fun c=>rfl
 have hl:∀k,k≠0→look k (Aw (R.blk (cs.map Ma) t::rs) 0)=look k (Aw (R.blk cs t::rs) 0):=fun k hk=>by
  cases k with
  | zero=>exact absurd rfl hk
  | succ k=>rfl
 have ex:∀{c c':List G} {k:Nat} {r:R},(c=cs∧c'=cs.map Ma∨c=cs.map Ma∧c'=cs)→look k (Aw (R.blk c t::rs) 0)=some r→∃r',look k (Aw (R.blk c' t::rs) 0)=some r':=fun {c c' k r} hc hk=>by
  by_cases h0:k=0
  ·subst h0;exact⟨_,l0 c'⟩
  ·rcases hc with⟨rfl,rfl⟩ | ⟨rfl,rfl⟩
   ·exact⟨r,by rw[hl k h0];exact hk⟩
   ·exact⟨r,by rw[←hl k h0];exact hk⟩
 refine⟨V,hb,⟨fun k r hk=>?_,fun k r hk=>?_,fun k r b hk hb=>?_,fun k k' r r' b hk hk' hb hb'=>?_⟩,fun c=>⟨fun hc=>?_,fun⟨k,r,hk,hf⟩=>?_⟩⟩
 ·obtain⟨r',hr⟩:=ex (.inr ⟨rfl,rfl⟩) hk
  exact hO.num k r' hr
 ·by_cases h0:k=0
  ·subst h0
   rw[l0] at hk
   obtain rfl:=Option.some.inj hk
   obtain⟨h1,us,h2,h3,h4⟩:=hO.each 0 _ (l0 cs)
   refine⟨h1,us,h2,by rw[List.length_map];exact h3,fun j g u hg hu=>?_⟩
   rw[List.getElem?_map] at hg
   obtain⟨g0,hg0,rfl⟩:=Option.map_eq_some_iff.1 hg
   exact Mg (h4 j g0 u hg0 hu)
  ·rw[hl k h0] at hk
   exact hO.each k r hk
 ·obtain⟨r',hr⟩:=ex (.inr ⟨rfl,rfl⟩) hk
  exact hO.lt k r' b hr hb
 ·obtain⟨q,hr⟩:=ex (.inr ⟨rfl,rfl⟩) hk
  obtain⟨q',hr'⟩:=ex (.inr ⟨rfl,rfl⟩) hk'
  exact hO.disj k k' q q' b hr hr' hb hb'
 ·obtain⟨k,r,hk,hf⟩:=(hS c).1 hc
  obtain⟨r',hr⟩:=ex (.inl ⟨rfl,rfl⟩) hk
  exact⟨k,r',hr,hf⟩
 ·obtain⟨r',hr⟩:=ex (.inr ⟨rfl,rfl⟩) hk
  exact(hS c).2 ⟨k,r',hr,hf⟩
theorem Zh8 (s m:Nat)(p:Int × Int × List REnt)(st:LD)(b e:Nat):WkR (.abs (cl (oFs (I4 s m p st) b e))) (.abs (cl (oAs (I4 s m p st) b e))) :=
 .inr ⟨_,_,rfl,rfl,Z0x _,fun _ _ _ _ h=>Z31 h⟩
theorem Qm:∀(n:Nat) (b:Bs) (l:List ByteArray),Z2u n b=some l→4 * l.length≤b.length∧∀s∈l,s.size≤4096
 | 0,b,l,h=>by
  unfold Z2u at h
  split at h
  ·cases h;exact⟨by simp,fun s hs=>by cases hs⟩
  ·cases h
 | n+1,b,l,h=>by
  unfold Z2u at h
  split at h
  ·cases h;exact⟨by simp,fun s hs=>by cases hs⟩
  ·split at h
   ·cases h
   ·split at h
    ·cases h
    ·next h1 h2 h3 =>
     obtain⟨l',hl',rfl⟩:=Option.map_eq_some_iff.1 h
     obtain⟨a1,a2⟩:=Qm n _ l' hl'
     rw[List.length_drop] at a1
     refine⟨by rw[List.length_cons];omega,fun s hs=>?_⟩
     rcases List.mem_cons.1 hs with rfl | hs
     ·show(List.toArray _).size≤_
      rw[List.size_toArray,List.length_take];omega
     ·exact a2 s hs
theorem Zo {d:RD}{l:LD}(h:Z08 d=some l)(hl:(Cf d (Kb d).half).length≤4000000):l.all.length≤1000000∧(∀s∈l.all,s.size≤4096)∧l.d=d∧l.dead=false:=by
 unfold Z08 at h
 split at h
 ·cases h
 ·next a ha =>
  cases h
  obtain⟨h1,h2⟩:=Qm _ _ a ha
  rw[List.length_take] at h1
  exact⟨by show a.length≤_;omega,h2,rfl,rfl⟩
end Go.Proofs.YtihfaocdpmmooaaGreat
namespace Go.Proofs.YtihfaocdpmmooaaGreat
open Go.RowKit
set_option maxRecDepth 100000
def Zah (d:RD)(self many:Int):Prop:=¬(Am many=0∨self < 0∨self ≥ many∨(d.now.length:Int) < 1100)
theorem Z3b {m:Int}(h:Am m≠0):1≤m∧m≤7:=by
 unfold Am at h
 split at h
 ·next h1=>exact E2 h1
 ·exact absurd rfl h
theorem Z3r {d:RD}(hw:WD d)(h:Nat):(Cf d h).length≤35136:=by
 unfold Cf
 have key:∀L:List Sec,(∀x∈L,x.length=64)→L.flatten.length=L.length * 64:=fun L hL=>by
  induction L with
  | nil=>rfl
  | cons s L ih=>rw[List.flatten_cons,List.length_append,hL s (by simp),ih fun x hx=>hL x (by simp[hx]),List.length_cons];omega
 rw[key _ fun x hx=>hw.now x (List.mem_of_mem_drop (List.mem_of_mem_take hx)),List.length_take]
 omega
theorem Z1b {p q:Int × Int × List REnt}{r:ByteArray}(h:Cu p r=some q):q.2.2.length≤p.2.2.length+1:=by
 unfold Cu at h
 split at h
 ·cases h
 ·split at h
  ·split at h
   ·cases h;exact Nat.le_succ _
   ·split at h
    ·cases h;exact Nat.le_succ _
    ·split at h
     ·cases h;simp
     ·cases h
  ·cases h
set_option maxHeartbeats 4000000 in
theorem Xx (d:RD)(hwd:WD d)(hd:d.dead=false)(self many:Int):FnO Tryz.prog 17 [.ptr 0 0,gI self,gI many] (cD d) fun g rs=>(Ml d self many=none∧g=.tup [.v (.pointer none),gI 130]∧(rs=cD d∨Zah d self many∧rs=[.gone]))∨∃n b e,Ml d self many=some n∧g=.tup [.ptr 1 0,gI 0]∧rs=[.gone,.abs (cl (oAs n b e)),.adr 0 e]:=by
 refine FnO.wk (Q:=fun g rs=>(Ml d self many=none∧g=.tup [.v (.pointer none),gI 130]∧(rs=cD d∨Zah d self many∧rs=[.gone]))∨∃s m p st b e,Ml d self many=some (I4 s m p st)∧g=.tup [.ptr 1 0,gI 0]∧rs=[.gone,.abs (cl (oFs (I4 s m p st) b e)),.adr 0 e]) ?_ fun g rs h=>?_
 rotate_left
 ·rcases h with h | ⟨s,m,p,st,b,e,h1,h2,rfl⟩
  ·exact⟨rs,WkL.refl _,.inl h⟩
  ·exact⟨[.gone,.abs (cl (oAs (I4 s m p st) b e)),.adr 0 e],⟨.inl rfl,Zh8 s m p st b e,.inl rfl,trivial⟩,.inr ⟨_,b,e,h1,h2,rfl⟩⟩
 refine Bd Tryz.func17 (by kernel_rfl) rfl (Nat.le_of_ble_eq_true (by kernel_rfl)) (by kernel_rfl) (Sy _ _) ?_
 have no:¬Zah d self many→Ml d self many=none:=fun h=>by unfold Ml;rw[if_pos (Classical.byContradiction h)]
 have end0:∀{own:Os} {n:Nat},look 0 own=some (.abs (cl (oDs d)))→¬Zah d self many→Z2n [0] own n (.tup [.v (.pointer none),gI 130]) (fun g rs=>(Ml d self many=none∧g=.tup [.v (.pointer none),gI 130]∧(rs=cD d∨Zah d self many∧rs=[.gone]))∨∃s m p st b e,Ml d self many=some (I4 s m p st)∧g=.tup [.ptr 1 0,gI 0]∧rs=[.gone,.abs (cl (oFs (I4 s m p st) b e)),.adr 0 e]):=fun h0 hp =>
  .inl (A7 h0 rfl (.inl ⟨no hp,rfl,.inl rfl⟩))
 refine EvCall.lend ((Z0w d).cal fun q rs hq=>?_)
 obtain⟨rfl,rfl⟩:=hq
 refine EvIf.mk (fun h=>absurd hd (by rw[h];decide)) fun _=>?_
 refine(Tx _).cal fun q hq=>?_
 subst hq
 refine EvIf.beq (fun(hq:Am many=0)=>?_) fun(hq:Am many≠0)=>?_
 ·exact end0 rfl (fun h=>h (.inl hq))
 refine EvIf.dec (fun(hs:self < 0)=>?_) fun(hs:¬self < 0)=>?_
 ·exact end0 rfl (fun h=>h (.inr (.inl hs)))
 refine EvIf.dec (fun(hm:self ≥ many)=>?_) fun(hm:¬self ≥ many)=>?_
 ·exact end0 rfl (fun h=>h (.inr (.inr (.inl hm))))
 refine EvCall.lend ((Zh d).cal fun q rs hq=>?_)
 obtain⟨rfl,rfl⟩:=hq
 refine EvIf.dec (fun(hl:(d.now.length:Int) < 1100)=>?_) fun(hl:¬(d.now.length:Int) < 1100)=>?_
 ·exact end0 rfl (fun h=>h (.inr (.inr (.inr hl))))
 have hpar:Zah d self many:=by
  rintro(h | h | h | h)
  ·exact hq h
  ·exact hs h
  ·exact hm h
  ·exact hl h
 have hm7:=Z3b hq
 obtain⟨s,rfl⟩:∃s:Nat,self=s:=⟨self.toNat,by omega⟩
 obtain⟨m,rfl⟩:∃m:Nat,many=m:=⟨many.toNat,by omega⟩
 refine EvCall.lend ((Zda d hwd (by omega) hd).cal fun q rs hq=>?_)
 rcases hq with⟨h1,rfl,rfl⟩ | ⟨l,e,h1,rfl,rfl⟩
 ·refine EvIf.bne (fun _=>?_) fun h=>absurd h (by decide)
  have eO:Ml d s m=none:=by unfold Ml;rw[if_neg hpar,h1]
  exact .inl (A7 rfl rfl (.inl ⟨eO,rfl,.inl rfl⟩))
 refine EvIf.bne (fun h=>absurd rfl h) fun _=>?_
 obtain⟨z1,z2,z3,z4⟩:=Zo h1 (Nat.le_trans (Z3r hwd _) (by decide))
 have eO:Ml d s m=match B6 l.all (0,0,[]) with
   | none=>none
   | some p=>if Bg p.2.2=true∧p.2.1≤p.1∧B9 p.2.2 p.2.1=true then some (I4 s m p l) else none:=by
  unfold Ml;rw[if_neg hpar,h1];rfl
 refine EvCall.lend ((Zf8 l e z1).cal fun q rs hq=>?_)
 obtain⟨rfl,rfl⟩:=hq
 refine Z20 (.nil 3 [gI s,gI m,.ptr 1 0,gI 0,gI 0] [gI 0,.ff,.ff,.ff,gI 0,.nl,.ff,gI 0,.nl,.ff,gI 0,.nl,.ff,gI 0,.nl,.ff,gI 0,.nl,.ff,gI 0,.nl,.ff,gI 0,.nl,gI 0,gI 0,gI 0,gI 0,gI 0,gI 0,gI 0,gI 0,.ff,.ff,.ff,.ff,.ff,.ff,.ff,.nl,.ff] tNd tEn 3 rfl (by decide) (.nil 3 [gI s,gI m,.ptr 1 0,gI 0,gI 0,.osl 5,gI 0,.ff,.ff,.ff,gI 0,.nl,.ff,gI 0,.nl,.ff,gI 0,.nl,.ff,gI 0,.nl,.ff,gI 0,.nl,.ff,gI 0,.nl,.ff,gI 0,.nl,gI 0,gI 0,gI 0,gI 0,gI 0,gI 0,gI 0,gI 0,.ff,.ff,.ff,.ff,.ff,.ff,.ff] [.ff] tNd tPk 3 rfl (by decide) (.seen 3 _ _ rfl (.adr 3 _ rfl fun b=>.close (oFs (I4 s m (0,0,[]) l) b e) [(0,3),(1,1),(2,5),(3,6),(4,7)] (by exact RL5) ⟨_,rfl⟩ rfl (.done ?_)))))
 refine D2 [10,47,48] [0,2,4] (fun x:Nat × (Int × Int × List REnt)=>[(49,gI x.1)]) (fun x=>[(3,.abs (cl (oFs (I4 s m x.2 l) b e)))]) (fun x=>x.1≤l.all.length∧B6 (l.all.drop x.1) x.2=B6 l.all (0,0,[])∧x.2.2.2.length≤x.1) (fun x=>l.all.length - x.1) (0,(0,0,[])) ⟨Nat.zero_le _,rfl,Nat.le_refl _⟩ ⟨⟨rfl,rfl⟩,trivial⟩ ⟨RL1,trivial⟩ rfl fun⟨i,p⟩ hI=>?_
 obtain⟨hi,hA,hpl⟩:=hI
 dsimp only at hi hA hpl
 rw[←hA] at eO
 refine EvIf.dec (fun hlt=>?_) fun hge=>?_
 ·rw[List.length_map] at hlt
  obtain⟨c,hc⟩:∃c,l.all[i]?=some c:=⟨_,List.getElem?_eq_getElem (by omega)⟩
  have hdr:l.all.drop i=c::l.all.drop (i+1):=by
   have e2:=(List.getElem?_eq_some_iff.1 hc).2
   rw[←e2,List.getElem_cons_drop]
  rw[hdr] at hA eO
  refine⟨⟨by omega,by rw[List.length_map];omega⟩,?_⟩
  refine EvIdx.at (f:=gSt) hc ?_
  refine EvCall.lend ((Zd8 (I4 s m p l) b e (by show p.2.2.length≤_;omega) c (by have:=z2 c (List.mem_of_getElem? hc);omega)).cal fun q rs hq=>?_)
  rcases hq with⟨k1,rfl,rfl⟩ | ⟨p',k1,rfl,rfl⟩
  ·have k1:Cu p c=none:=k1
   have eN:Ml d s m=none:=by rw[eO];unfold B6;rw[k1]
   refine EvIf.mk (fun _=>?_) fun h=>(by cases h)
   conv=>whnf
   refine Gh.done ?_
   exact .inl ⟨[⟨[(0,.gone)],[(0,0)],false⟩],.tup [.v (.pointer none),gI 130],⟨⟨⟨_,rfl,rfl,rfl⟩,trivial⟩,rfl,⟨[],rfl⟩,rfl,rfl,.inl ⟨eN,rfl,.inr ⟨hpar,rfl⟩⟩⟩⟩
  ·have k1:Cu p c=some p':=k1
   have eN:B6 (c::l.all.drop (i+1)) p=B6 (l.all.drop (i+1)) p':=by
    show(match Cu p c with | none=>none | some p=>B6 (l.all.drop (i+1)) p)=_
    rw[k1]
   rw[eN] at hA
   have hp':=Z1b k1
   refine EvIf.mk (fun h=>(by cases h)) fun _=>?_
   refine⟨by omega,.done ⟨(i+1,p'),[],⟨by dsimp only;omega,hA,by dsimp only;omega⟩,(by dsimp only;omega),?_⟩⟩
   refine⟨?_,?_,rfl⟩<;>repeat' (first | exact True.intro | with_reducible rfl | exact rfl | refine And.intro ?_ ?_)
 ·rw[List.length_map] at hge
  have hdr:l.all.drop i=[]:=List.drop_eq_nil_of_le (by omega)
  rw[hdr] at eO
  have eO:Ml d s m=if Bg p.2.2=true∧p.2.1≤p.1∧B9 p.2.2 p.2.1=true then some (I4 s m p l) else none:=eO
  conv=>whnf
  refine Gh.opn 3 _ _ _ rfl rfl rfl (.done ?_)
  have hpl2:p.2.2.length≤1000000:=by have:=z1;omega
  refine EvCall.gh (EvSn.peek ?a ?b)
  case a=>exact rfl
  refine(Rs p.2.2 hpl2).mono fun g hg=>?_
  subst hg
  refine⟨rfl,?_⟩
  have bad:¬(Bg p.2.2=true∧p.2.1≤p.1∧B9 p.2.2 p.2.1=true)→Ml d s m=none:=fun h=>by rw[eO,if_neg h]
  refine EvIf.mk (fun h1=>?_) fun h1=>?_
  ·have eN:=bad (fun h=>by rw[h.1] at h1;cases h1)
   exact .inl ⟨[⟨[(0,.gone)],[(0,0)],false⟩],.tup [.v (.pointer none),gI 130],⟨⟨⟨_,rfl,rfl,rfl⟩,trivial⟩,rfl,⟨[],rfl⟩,rfl,rfl,.inl ⟨eN,rfl,.inr ⟨hpar,rfl⟩⟩⟩⟩
  have h1:Bg p.2.2=true:=by simpa using h1
  refine EvIf.dec (fun h2=>?_) fun h2=>?_
  ·have h2:p.2.1 > p.1:=h2
   have eN:=bad (fun h=>by omega)
   exact .inl ⟨[⟨[(0,.gone)],[(0,0)],false⟩],.tup [.v (.pointer none),gI 130],⟨⟨⟨_,rfl,rfl,rfl⟩,trivial⟩,rfl,⟨[],rfl⟩,rfl,rfl,.inl ⟨eN,rfl,.inr ⟨hpar,rfl⟩⟩⟩⟩
  have h2:¬p.2.1 > p.1:=h2
  refine EvCall.gh (EvSn.peek ?a2 ?b2)
  case a2=>exact rfl
  refine(Tu p.2.2 hpl2 p.2.1).mono fun g hg=>?_
  subst hg
  refine⟨rfl,?_⟩
  refine EvIf.mk (fun h3=>?_) fun h3=>?_
  ·have eN:=bad (fun h=>by rw[h.2.2] at h3;cases h3)
   exact .inl ⟨[⟨[(0,.gone)],[(0,0)],false⟩],.tup [.v (.pointer none),gI 130],⟨⟨⟨_,rfl,rfl,rfl⟩,trivial⟩,rfl,⟨[],rfl⟩,rfl,rfl,.inl ⟨eN,rfl,.inr ⟨hpar,rfl⟩⟩⟩⟩
  have h3:B9 p.2.2 p.2.1=true:=by simpa using h3
  rw[if_pos ⟨h1,by omega,h3⟩] at eO
  exact .inl ⟨[⟨[(0,.gone)],[(0,0)],false⟩,⟨oFs (I4 s m p l) b e,[(0,3),(1,8),(2,9),(3,10),(4,11)],true⟩,⟨[(0,.adr 0 e)],[(0,2)],false⟩],.tup [.ptr 1 0,gI 0],⟨⟨⟨_,rfl,rfl,rfl⟩,⟨(by exact RL5),_,rfl⟩,⟨_,rfl,rfl,rfl⟩,trivial⟩,rfl,⟨_,rfl⟩,rfl,rfl,.inr ⟨s,m,p,l,b,e,eO,rfl,rfl⟩⟩⟩
end Go.Proofs.YtihfaocdpmmooaaGreat
namespace Go.Proofs.YtihfaocdpmmooaaGreat
open Go.RowKit
set_option maxRecDepth 100000
theorem Z5r (l:List Sec)(hl:l.length≤1000000)(hs:∀s∈l,s.length=64):FnO Tryz.prog 120 [.sl (l.map Dw)] [] fun g rs=>g=.osl 0∧rs=[.slc (l.map Dw) tSc 64]:=by
 refine Bd Tryz.func120 (by kernel_rfl) rfl (Nat.le_of_ble_eq_true (by kernel_rfl)) (by kernel_rfl) (Qy _) ?_
 refine⟨fun b hb=>?_⟩
 refine EvIf.mk (fun h=>?_) fun h=>?_
 ·have e:l.map Dw=[]:=Classical.byContradiction fun hne=>by rw[hb hne] at h;cases h
  exact Gi (k:=1) rfl e.symm
 ·refine⟨fun r hr=>?_,?_⟩
  ·obtain⟨s,h1,rfl⟩:=List.mem_map.1 hr
   exact⟨(Bk s).trans (hs s h1),List.all_eq_true.2 fun g hg=>P6 (Hd hg)⟩
  ·refine⟨by simp;omega,?_⟩
   exact Gi (k:=2) rfl (List.nil_append _)
theorem O9 (l:List Sec)(hl:l.length≤1000000)(hs:∀s∈l,s.length=64):FnO Tryz.prog 120 [.osl 0] [.slc (l.map Dw) tSc 64] fun g rs=>g=.osl 1∧rs=[.slc (l.map Dw) tSc 64,.slc (l.map Dw) tSc 64] :=
 FnO.peekN (Z5r l hl hs) rfl fun r hr g hg=>by
  obtain⟨s,-,rfl⟩:=List.mem_map.1 hr
  exact Hd hg
theorem Tn:∀l:List G,(l.map fun g=>[g]).flatten=l
 | []=>rfl
 | g::l=>by rw[List.map_cons,List.flatten_cons,Tn l];rfl
theorem Tt {l:List Sec}{i:Nat}{s:Sec}{tear:Int}{K:List (List G)→Prop}(hi:i < l.length)(hs:s.length=64)(h:K ((l.set i (K7 (l[i]?.getD []) s tear)).map Dw)):EvSet (l.map Dw) i (fun row k=>k (row.take 0++(((Dw s).map fun g=>[g]).take (min ((Dw s).map fun g=>[g]).length (min (max tear 0) 64).toNat)).flatten++row.drop (0+min ((Dw s).map fun g=>[g]).length (min (max tear 0) 64).toNat))) K:=by
 have hx:l[i]?=some l[i]:=List.getElem?_eq_getElem hi
 refine EvSet.at (f:=Dw) (y:=K7 l[i] s tear) hx (fun k hk=>?_) rfl (by rw[hx] at h;exact h)
 have hl:((Dw s).map fun g=>[g]).length=64:=by rw[List.length_map,Bk,hs]
 have hT:min 64 (min (max tear 0) 64).toNat=(min (max tear 0) 64).toNat:=by omega
 rw[hl,hT,←List.map_take,Tn,Nat.zero_add]
 have e:Dw (K7 l[i] s tear)=[]++(Dw s).take (min (max tear 0) 64).toNat++(Dw l[i]).drop (min (max tear 0) 64).toNat:=by
  unfold K7 Dw
  rw[List.map_append,List.map_take,List.map_drop];rfl
 rw[e] at hk
 exact hk
theorem Z1o (d:RD)(hd:WD d)(hw:d.wait.length≤1000000)(keep tear:Int):FnO Tryz.prog 80 [.ptr 0 0,gI keep,gI tear] (cD d) fun g rs=>g=.ptr 1 0∧rs=[.abs (cl (oDs d)),.abs (cl (oDs (Ei d keep tear)))]:=by
 refine Bd Tryz.func80 (by kernel_rfl) rfl (Nat.le_of_ble_eq_true (by kernel_rfl)) (by kernel_rfl) (A6 (O:=oDs d) (n0:=4) rfl) ?_
 have hfl:d.firm.length≤1000000:=by have:=hd.len;have:=hd.few;omega
 refine EvCall.lend ((O9 d.firm hfl hd.firm).cal fun q rs hq=>?_)
 obtain⟨rfl,rfl⟩:=hq
 have hL:((d.wait.map enW).length:Int)=(d.wait.length:Int):=by rw[List.length_map]
 have hk0:0≤min (max keep 0) ((d.wait.map enW).length:Int)∧min (max keep 0) ((d.wait.map enW).length:Int)≤((d.wait.map enW).length:Int):=by omega
 have hK:(min (max keep 0) ((d.wait.map enW).length:Int)).toNat=Hj d keep:=by unfold Hj;rw[List.length_map]
 refine⟨⟨Int.le_refl _,hk0.1,hk0.2⟩,?_⟩
 conv=>whnf
 rw[hK]
 have hkl:Hj d keep≤d.wait.length:=by unfold Hj;omega
 have hq0:Hj d keep=Hj d keep:=rfl
 generalize hqe:Hj d keep=q at *
 have hq0:=hqe
 clear hqe
 refine Bo [0,1,2,7,29,30] [0,1,2,3] (fun i:Nat=>[(31,gI i)]) (fun i=>[(4,.slc ((Fw d.firm (d.wait.take i)).map Dw) tSc 64)]) (fun i=>i≤q) (fun i=>q - i) 0 (Nat.zero_le _) ⟨⟨rfl,rfl⟩,trivial⟩ ⟨RL1,trivial⟩ rfl fun i hi=>?_
 have hq:(Ea (d.wait.map enW) 0 q).length=q:=by unfold Ea;rw[List.length_drop,List.length_take,List.length_map];omega
 refine EvIf.dec (fun h5=>?_) fun h5=>?_
 ·have h5:((i:Nat):Int) < ((Ea (d.wait.map enW) 0 q).length:Nat):=h5
  rw[hq] at h5
  refine⟨⟨by omega,by omega⟩,EvIdx.of (f:=enW) (l:=d.wait) (i:=0+((i:Nat):Int).toNat) (by rw[Int.toNat_natCast];omega) fun x hx=>?_⟩
  have hx:d.wait[0+((i:Nat):Int).toNat]?=some x:=hx
  rw[Int.toNat_natCast,Nat.zero_add] at hx
  have hx2:=hd.wait x (List.mem_of_getElem? hx)
  refine⟨by rw[Co hx2.2];exact Nat.le_refl _,?_⟩
  conv=>whnf
  rw[Rp hx2.2]
  refine⟨⟨(Co hx2.2),fun g hg=>Qg hg⟩,?_⟩
  refine⟨⟨(Co hx2.2),Nat.le_refl _⟩,?_⟩
  conv=>whnf
  rw[T7]
  refine⟨by rw[Co hx2.2];exact Nat.le_refl _,?_⟩
  conv=>whnf
  rw[Z6a hx2.2]
  refine⟨fun g hg=>Fh (Hd hg),?_⟩
  have hl2:(Fw d.firm (d.wait.take i)).length=d.now.length:=(Ew _ _).trans hd.len
  refine⟨⟨by omega,by rw[List.length_map,hl2];have:=hx2.1;omega⟩,?_⟩
  refine⟨⟨(Bk _).trans hx2.2,fun g hg=>Hd hg⟩,?_⟩
  refine Sa (s:=x.2) (l:=Fw d.firm (d.wait.take i)) (by rw[hl2];have:=hx2.1;omega) (Eu _ _ hd.firm fun w hw=>(hd.wait w (List.mem_of_mem_take hw)).2) hx2.2 rfl ?_
  refine⟨by omega,i+1,by omega,(by dsimp only;omega),?_⟩
  refine⟨?_,?_,rfl⟩<;>repeat' (first | exact True.intro | with_reducible rfl | exact rfl | refine And.intro ?_ ?_)
  exact eqR (by rw[Q9 hx];rfl)
 ·have h5:¬((i:Nat):Int) < ((Ea (d.wait.map enW) 0 q).length:Nat):=h5
  rw[hq] at h5
  have hi2:i=q:=by omega
  subst hi2
  have hl2:(Fw d.firm (d.wait.take i)).length=d.now.length:=(Ew _ _).trans hd.len
  have hs2:∀s∈Fw d.firm (d.wait.take i),s.length=64:=Eu _ _ hd.firm fun w hw=>(hd.wait w (List.mem_of_mem_take hw)).2
  refine EvIf.dec (fun h6=>?_) fun h6=>?_
  ·have h6:min (max keep 0) ((d.wait.map enW).length:Int) < ((d.wait.map enW).length:Int):=h6
   have hi3:i < d.wait.length:=by rw[List.length_map] at h6 hK;omega
   refine⟨⟨hk0.1,h6⟩,EvIdx.of (f:=enW) (l:=d.wait) (i:=(min (max keep 0) ((d.wait.map enW).length:Int)).toNat) (by rw[hK];exact hi3) fun x hx=>?_⟩
   rw[hK] at hx
   have hx2:=hd.wait x (List.mem_of_getElem? hx)
   refine⟨by rw[Co hx2.2];exact Nat.le_refl _,?_⟩
   conv=>whnf
   rw[Rp hx2.2]
   refine⟨⟨(Co hx2.2),fun g hg=>Qg hg⟩,?_⟩
   refine⟨⟨(Co hx2.2),Nat.le_refl _⟩,?_⟩
   conv=>whnf
   rw[T7]
   refine⟨⟨by omega,by rw[List.length_map,hl2];have:=hx2.1;omega⟩,?_⟩
   have hxl:x.1 < (Fw d.firm (d.wait.take i)).length:=by rw[hl2];exact hx2.1
   have hpt:List.drop (Nat.add 0 1) (enW x)=Dw x.2:=rfl
   have e64:List.take 64 (List.drop (Nat.add 0 1) (enW x))=Dw x.2:=by
    show List.take 64 (Dw x.2)=_
    exact List.take_of_length_le (by rw[Bk];omega)
   have hrw:∀r∈(List.take 64 (List.drop (Nat.add 0 1) (enW x))).map (fun g=>[g]),r.length=1∧r.all G.one=true:=fun r hr=>by
    obtain⟨g,hg,rfl⟩:=List.mem_map.1 hr
    exact⟨rfl,List.all_eq_true.2 fun y hy=>by rw[List.mem_singleton.1 hy];exact P6 (Qg (List.mem_of_mem_drop (List.mem_of_mem_take hg)))⟩
   refine⟨?_,?_⟩
   ·refine⟨⟨Int.le_refl _,by omega,by omega⟩,?_⟩
    refine⟨⟨⟨by rw[List.length_map];exact hxl,Nat.le_refl _⟩,by decide⟩,?_⟩
    refine⟨⟨by rw[Co hx2.2];exact Nat.le_refl _,fun g hg=>Qg hg⟩,?_⟩
    refine⟨hrw,?_⟩
    refine⟨by omega,?_⟩
    rw[e64]
    refine Tt (s:=x.2) (l:=Fw d.firm (d.wait.take i)) (tear:=tear) hxl hx2.2 ?_
    rw[Int.toNat_natCast]
    have hL:B7 d keep tear=(Fw d.firm (d.wait.take i)).set x.1 (K7 ((Fw d.firm (d.wait.take i))[x.1]?.getD []) x.2 tear):=by unfold B7;dsimp only;rw[hq0,hx]
    rw[←hL]
    refine EvCall.lend ((O9 (B7 d keep tear) (by rw[Gs];exact hfl) (F9 hd keep tear).now).cal fun q rs hq=>?_)
    obtain⟨rfl,rfl⟩:=hq
    exact .gh (.nil 7 [.osl 6,.osl 4] [gI 0,.ff] tDk tWr 65 rfl (by decide) (.seen 7 _ _ rfl (.done ⟨[⟨oDs d,[],true⟩,⟨oDs (Ei d keep tear),[(0,7),(1,6),(2,4),(3,8)],true⟩],.ptr 1 0,⟨⟨⟨(by exact RL4),_,rfl⟩,⟨(by exact RL4),_,rfl⟩,trivial⟩,rfl,⟨_,rfl⟩,rfl,rfl,⟨rfl,rfl⟩⟩⟩)))
   ·refine⟨⟨by rw[Co hx2.2];exact Nat.le_refl _,fun g hg=>Qg hg⟩,?_⟩
    refine⟨⟨Int.le_refl _,by omega,by omega⟩,?_⟩
    refine⟨⟨⟨by rw[List.length_map];exact hxl,Nat.le_refl _⟩,by decide⟩,?_⟩
    refine⟨hrw,?_⟩
    refine⟨by omega,?_⟩
    rw[e64]
    refine Tt (s:=x.2) (l:=Fw d.firm (d.wait.take i)) (tear:=tear) hxl hx2.2 ?_
    rw[Int.toNat_natCast]
    have hL:B7 d keep tear=(Fw d.firm (d.wait.take i)).set x.1 (K7 ((Fw d.firm (d.wait.take i))[x.1]?.getD []) x.2 tear):=by unfold B7;dsimp only;rw[hq0,hx]
    rw[←hL]
    refine EvCall.lend ((O9 (B7 d keep tear) (by rw[Gs];exact hfl) (F9 hd keep tear).now).cal fun q rs hq=>?_)
    obtain⟨rfl,rfl⟩:=hq
    exact .gh (.nil 7 [.osl 6,.osl 4] [gI 0,.ff] tDk tWr 65 rfl (by decide) (.seen 7 _ _ rfl (.done ⟨[⟨oDs d,[],true⟩,⟨oDs (Ei d keep tear),[(0,7),(1,6),(2,4),(3,8)],true⟩],.ptr 1 0,⟨⟨⟨(by exact RL4),_,rfl⟩,⟨(by exact RL4),_,rfl⟩,trivial⟩,rfl,⟨_,rfl⟩,rfl,rfl,⟨rfl,rfl⟩⟩⟩)))
  ·have h6:¬min (max keep 0) ((d.wait.map enW).length:Int) < ((d.wait.map enW).length:Int):=h6
   have hL:B7 d keep tear=Fw d.firm (d.wait.take i):=by unfold B7;dsimp only;rw[hq0,List.getElem?_eq_none (by rw[List.length_map] at h6 hK;omega)]
   rw[←hL]
   refine EvCall.lend ((O9 (B7 d keep tear) (by rw[Gs];exact hfl) (F9 hd keep tear).now).cal fun q rs hq=>?_)
   obtain⟨rfl,rfl⟩:=hq
   exact .gh (.nil 6 [.osl 5,.osl 4] [gI 0,.ff] tDk tWr 65 rfl (by decide) (.seen 6 _ _ rfl (.done ⟨[⟨oDs d,[],true⟩,⟨oDs (Ei d keep tear),[(0,6),(1,5),(2,4),(3,7)],true⟩],.ptr 1 0,⟨⟨⟨(by exact RL4),_,rfl⟩,⟨(by exact RL4),_,rfl⟩,trivial⟩,rfl,⟨_,rfl⟩,rfl,rfl,⟨rfl,rfl⟩⟩⟩)))
end Go.Proofs.YtihfaocdpmmooaaGreat
