
import Derived.Test.YtihfaocdpmmooaaGreatNM1
import Derived.Test.YtihfaocdpmmooaaGreatSxMe
import Derived.Test.YtihfaocdpmmooaaGreatOM1
import Derived.Test.YtihfaocdpmmooaaGreatSxMc
namespace Go.Proofs.YtihfaocdpmmooaaGreat
open Go.RowKit
set_option maxRecDepth 100000
def Ze1 (n:PN)(p:Int × Int × List REnt):PN:={n with pmd:=p.1,normal:=p.2.1,log:=p.2.2}
def Zdv (n:PN):Int × Int × List REnt:=(n.pmd,n.normal,n.log)
abbrev Za8 (n:PN)(s l o:G):List G:=[gI n.self,gI n.many,s,gI n.pmd,gI n.normal,l,gI 0,.v (.bool false),.v (.bool false),.v (.bool false),gI 0,.nl,.v (.bool false),gI 0,.nl,.v (.bool false),gI 0,.nl,.v (.bool false),gI 0,.nl,.v (.bool false),gI 0,.nl,.v (.bool false),gI 0,.nl,.v (.bool false),gI 0,.nl,gI 0,gI 0,gI 0,gI 0,gI 0,gI 0,gI 0,gI 0,.v (.bool false),.v (.bool false),.v (.bool false),.v (.bool false),.v (.bool false),.v (.bool false),.v (.bool false),o,.v (.bool false)]
abbrev oF (n:PN)(b e:Nat):List R:=[.blk (Za8 n (.ptr 1 0) (.osl 2) (.osl 3)) tNd,.abs (cl (oLs n.st e)),.slc (n.log.map enE) tEn 3,.slc [] tPk 3,.adr 0 b]
abbrev oFs (n:PN)(b e:Nat):Os:=B0 (oF n b e) 0
abbrev cF (n:PN)(b e:Nat):List R:=[.abs (cl (oFs n b e))]
set_option maxHeartbeats 4000000 in
theorem Z9p (n:PN)(b e:Nat)(hl:n.log.length≤1000000)(r:ByteArray)(hr:r.size≤1000000):FnO Tryz.prog 58 [.ptr 0 0,.v (.string r)] (cF n b e) fun g rs=>(Cn (Zdv n) r=none∧g=.v (.bool false)∧rs=cF n b e)∨∃p,Cn (Zdv n) r=some p∧g=.v (.bool true)∧rs=cF (Ze1 n p) b e:=by
 obtain⟨self,many,pmd,normal,log,cmt,lds,std,jns,first,aks,hrd,out,dead,st⟩:=n
 refine Bm Tryz.func58 (by kernel_rfl) rfl (Nat.le_of_ble_eq_true (by kernel_rfl)) (by kernel_rfl) (A8 (O:=oFs ⟨self,many,pmd,normal,log,cmt,lds,std,jns,first,aks,hrd,out,dead,st⟩ b e) (n0:=5) rfl) ?_
 refine(Z1l [1,2,2,3] r.data.toList (by decide) (by rw[Array.length_toList];exact Nat.le_trans hr (by decide))).cal fun q hq=>?_
 subst hq
 refine EvIf.bne (fun he=>?_) fun he=>?_
 ·have eL:Cn (pmd,normal,log) r=none:=by unfold Cn;rw[if_pos he]
  exact .inl (A1 (oFs ⟨self,many,pmd,normal,log,cmt,lds,std,jns,first,aks,hrd,out,dead,st⟩ b e) [] ⟨⟨rfl,rfl,rfl⟩,⟨rfl,rfl,rfl⟩,⟨rfl,rfl,rfl⟩,⟨rfl,rfl,rfl⟩,⟨rfl,rfl,rfl⟩,trivial⟩ rfl ⟨_,rfl⟩ rfl rfl (.inl ⟨eL,rfl,rfl⟩))
 have he:(L2 [1,2,2,3] r.data.toList).e=0:=he
 obtain⟨d1,d2,d3⟩:=Nu he
 have hLn:=(Cv [1,2,2,3] r.data.toList).2 d1
 rw[←d3] at hLn
 obtain⟨x0,x1,x2,x3,hL⟩:∃x0 x1 x2 x3,(L2 [1,2,2,3] r.data.toList).l=[x0,x1,x2,x3]:=by
  generalize (L2 [1,2,2,3] r.data.toList).l=l at hLn
  match l,hLn with
  | [a,b,c,d],_=>exact⟨a,b,c,d,rfl⟩
 rw[hL]
 have eL:Cn (pmd,normal,log) r=if x0.n=1 then some (x1.n,normal,log) else if x0.n=2 then some (pmd,x1.n,log) else if x0.n=3 then some (pmd,normal,log++[⟨x1.n,x2.n,x3.s⟩]) else none:=by
  unfold Cn
  rw[if_neg (fun h=>h he),hL]
 refine EvIdx.at (f:=Hb) (l:=[x0,x1,x2,x3]) (i:=0) rfl ?_
 refine EvIf.beq (fun(h1:x0.n=1)=>?_) fun(h1:x0.n≠1)=>?_
 ·rw[if_pos h1] at eL
  refine EvIdx.at (f:=Hb) (l:=[x0,x1,x2,x3]) (i:=1) rfl ?_
  exact .inl (A1 (oFs ⟨self,many,x1.n,normal,log,cmt,lds,std,jns,first,aks,hrd,out,dead,st⟩ b e) [] ⟨⟨rfl,rfl,rfl⟩,⟨rfl,rfl,rfl⟩,⟨rfl,rfl,rfl⟩,⟨rfl,rfl,rfl⟩,⟨rfl,rfl,rfl⟩,trivial⟩ rfl ⟨_,rfl⟩ rfl rfl (.inr ⟨_,eL,rfl,rfl⟩))
 rw[if_neg h1] at eL
 refine EvIf.beq (fun(h2:x0.n=2)=>?_) fun(h2:x0.n≠2)=>?_
 ·rw[if_pos h2] at eL
  refine EvIdx.at (f:=Hb) (l:=[x0,x1,x2,x3]) (i:=1) rfl ?_
  exact .inl (A1 (oFs ⟨self,many,pmd,x1.n,log,cmt,lds,std,jns,first,aks,hrd,out,dead,st⟩ b e) [] ⟨⟨rfl,rfl,rfl⟩,⟨rfl,rfl,rfl⟩,⟨rfl,rfl,rfl⟩,⟨rfl,rfl,rfl⟩,⟨rfl,rfl,rfl⟩,trivial⟩ rfl ⟨_,rfl⟩ rfl rfl (.inr ⟨_,eL,rfl,rfl⟩))
 rw[if_neg h2] at eL
 refine EvIf.beq (fun(h3:x0.n=3)=>?_) fun(h3:x0.n≠3)=>?_
 ·rw[if_pos h3] at eL
  refine EvIdx.at (f:=Hb) (l:=[x0,x1,x2,x3]) (i:=1) rfl ?_
  refine EvIdx.at (f:=Hb) (l:=[x0,x1,x2,x3]) (i:=2) rfl ?_
  refine EvIdx.at (f:=Hb) (l:=[x0,x1,x2,x3]) (i:=3) rfl ?_
  refine⟨by rw[List.length_map];show log.length+1≤_;have:log.length≤1000000:=hl;omega,?_⟩
  exact .inl (A1 (oFs ⟨self,many,pmd,normal,log++[⟨x1.n,x2.n,x3.s⟩],cmt,lds,std,jns,first,aks,hrd,out,dead,st⟩ b e) [(2,7)] ⟨⟨rfl,rfl,rfl⟩,⟨rfl,rfl,rfl⟩,⟨rfl,rfl,eqR (by rw[List.map_append];rfl)⟩,⟨rfl,rfl,rfl⟩,⟨rfl,rfl,rfl⟩,trivial⟩ rfl ⟨_,rfl⟩ rfl rfl (.inr ⟨_,eL,rfl,rfl⟩))
 ·rw[if_neg h3] at eL
  exact .inl (A1 (oFs ⟨self,many,pmd,normal,log,cmt,lds,std,jns,first,aks,hrd,out,dead,st⟩ b e) [] ⟨⟨rfl,rfl,rfl⟩,⟨rfl,rfl,rfl⟩,⟨rfl,rfl,rfl⟩,⟨rfl,rfl,rfl⟩,⟨rfl,rfl,rfl⟩,trivial⟩ rfl ⟨_,rfl⟩ rfl rfl (.inl ⟨eL,rfl,rfl⟩))
theorem Z1y {cs:List G}{t:TypeId}{rs:List R}{I:Imm}{b:Nat}{S:Nat→Prop}{w:World}(h:cl (B0 (.blk cs t::rs) 0) I b S w):cl (B0 (.blk (cs.map L8) t::rs) 0) I b S w:=by
 obtain⟨V,hb,hO,hS⟩:=h
 have l0:∀(c:List G),look 0 (B0 (R.blk c t::rs) 0)=some (.blk c t):=fun c=>rfl
 have hl:∀k,k≠0→look k (B0 (R.blk (cs.map L8) t::rs) 0)=look k (B0 (R.blk cs t::rs) 0):=fun k hk=>by
  cases k with
  | zero=>exact absurd rfl hk
  | succ k=>rfl
 have ex:∀{c c':List G} {k:Nat} {r:R},(c=cs∧c'=cs.map L8∨c=cs.map L8∧c'=cs)→look k (B0 (R.blk c t::rs) 0)=some r→∃r',look k (B0 (R.blk c' t::rs) 0)=some r':=fun {c c' k r} hc hk=>by
  by_cases h0:k=0
  ·subst h0;exact⟨_,l0 c'⟩
  ·rcases hc with⟨rfl,rfl⟩ | ⟨rfl,rfl⟩
   ·exact⟨r,by rw[hl k h0];exact hk⟩
   ·exact⟨r,by rw[←hl k h0];exact hk⟩
 refine⟨V,hb,⟨fun k r hk=>?_,fun k r hk=>?_,fun k r b hk hb=>?_,fun k k' r r' b hk hk' hb hb'=>?_⟩,fun c=>⟨fun hc=>?_,fun⟨k,r,hk,hf⟩=>?_⟩⟩
 ·obtain⟨r',hr⟩:=ex (.inr ⟨rfl,rfl⟩) hk
  exact hO.num k r' hr
 ·by_cases h0:k=0
  ·subst h0
   rw[l0] at hk
   obtain rfl:=Option.some.inj hk
   obtain⟨h1,us,h2,h3,h4⟩:=hO.each 0 _ (l0 cs)
   refine⟨h1,us,h2,by rw[List.length_map];exact h3,fun j g u hg hu=>?_⟩
   rw[List.getElem?_map] at hg
   obtain⟨g0,hg0,rfl⟩:=Option.map_eq_some_iff.1 hg
   exact Ly (h4 j g0 u hg0 hu)
  ·rw[hl k h0] at hk
   exact hO.each k r hk
 ·obtain⟨r',hr⟩:=ex (.inr ⟨rfl,rfl⟩) hk
  exact hO.lt k r' b hr hb
 ·obtain⟨q,hr⟩:=ex (.inr ⟨rfl,rfl⟩) hk
  obtain⟨q',hr'⟩:=ex (.inr ⟨rfl,rfl⟩) hk'
  exact hO.disj k k' q q' b hr hr' hb hb'
 ·obtain⟨k,r,hk,hf⟩:=(hS c).1 hc
  obtain⟨r',hr⟩:=ex (.inl ⟨rfl,rfl⟩) hk
  exact⟨k,r',hr,hf⟩
 ·obtain⟨r',hr⟩:=ex (.inr ⟨rfl,rfl⟩) hk
  exact(hS c).2 ⟨k,r',hr,hf⟩
theorem Ze9 (s m:Nat)(p:Int × Int × List REnt)(st:LD)(b e:Nat):WkR (.abs (cl (oFs (Hg s m p st) b e))) (.abs (cl (oAs (Hg s m p st) b e))) :=
 .inr ⟨_,_,rfl,rfl,Zp _,fun _ _ _ _ h=>Z1y h⟩
theorem Q3:∀(n:Nat) (b:Bs) (l:List ByteArray),Z0h n b=some l→4 * l.length≤b.length∧∀s∈l,s.size≤4096
 | 0,b,l,h=>by
  unfold Z0h at h
  split at h
  ·cases h;exact⟨by simp,fun s hs=>by cases hs⟩
  ·cases h
 | n+1,b,l,h=>by
  unfold Z0h at h
  split at h
  ·cases h;exact⟨by simp,fun s hs=>by cases hs⟩
  ·split at h
   ·cases h
   ·split at h
    ·cases h
    ·next h1 h2 h3 =>
     obtain⟨l',hl',rfl⟩:=Option.map_eq_some_iff.1 h
     obtain⟨a1,a2⟩:=Q3 n _ l' hl'
     rw[List.length_drop] at a1
     refine⟨by rw[List.length_cons];omega,fun s hs=>?_⟩
     rcases List.mem_cons.1 hs with rfl | hs
     ·show(List.toArray _).size≤_
      rw[List.size_toArray,List.length_take];omega
     ·exact a2 s hs
theorem Y0 {d:RD}{l:LD}(h:Z0l d=some l)(hl:(C7 d (J5 d).half).length≤4000000):l.all.length≤1000000∧(∀s∈l.all,s.size≤4096)∧l.d=d∧l.dead=false:=by
 unfold Z0l at h
 split at h
 ·cases h
 ·next a ha =>
  cases h
  obtain⟨h1,h2⟩:=Q3 _ _ a ha
  rw[List.length_take] at h1
  exact⟨by show a.length≤_;omega,h2,rfl,rfl⟩
end Go.Proofs.YtihfaocdpmmooaaGreat
namespace Go.Proofs.YtihfaocdpmmooaaGreat
open Go.RowKit
set_option maxRecDepth 100000
def Z2r (d:RD)(self many:Int):Prop:=¬(Ad many=0∨self < 0∨self ≥ many∨(d.now.length:Int) < 1100)
theorem Z20 {m:Int}(h:Ad m≠0):1≤m∧m≤7:=by
 unfold Ad at h
 split at h
 ·next h1=>exact Fw h1
 ·exact absurd rfl h
theorem Z3u {d:RD}(hw:WD d)(h:Nat):(C7 d h).length≤35136:=by
 unfold C7
 have key:∀L:List Sec,(∀x∈L,x.length=64)→L.flatten.length=L.length * 64:=fun L hL=>by
  induction L with
  | nil=>rfl
  | cons s L ih=>rw[List.flatten_cons,List.length_append,hL s (by simp),ih fun x hx=>hL x (by simp[hx]),List.length_cons];omega
 rw[key _ fun x hx=>hw.now x (List.mem_of_mem_drop (List.mem_of_mem_take hx)),List.length_take]
 omega
theorem Zg {p q:Int × Int × List REnt}{r:ByteArray}(h:Cn p r=some q):q.2.2.length≤p.2.2.length+1:=by
 unfold Cn at h
 split at h
 ·cases h
 ·split at h
  ·split at h
   ·cases h;exact Nat.le_succ _
   ·split at h
    ·cases h;exact Nat.le_succ _
    ·split at h
     ·cases h;simp
     ·cases h
  ·cases h
set_option maxHeartbeats 4000000 in
theorem Iw (d:RD)(hwd:WD d)(hd:d.dead=false)(self many:Int):FnO Tryz.prog 17 [.ptr 0 0,gI self,gI many] (cD d) fun g rs=>(Kh d self many=none∧g=.tup [.v (.pointer none),gI 130]∧(rs=cD d∨Z2r d self many∧rs=[.gone]))∨∃n b e,Kh d self many=some n∧g=.tup [.ptr 1 0,gI 0]∧rs=[.gone,.abs (cl (oAs n b e)),.adr 0 e]:=by
 refine FnO.wk (Q:=fun g rs=>(Kh d self many=none∧g=.tup [.v (.pointer none),gI 130]∧(rs=cD d∨Z2r d self many∧rs=[.gone]))∨∃s m p st b e,Kh d self many=some (Hg s m p st)∧g=.tup [.ptr 1 0,gI 0]∧rs=[.gone,.abs (cl (oFs (Hg s m p st) b e)),.adr 0 e]) ?_ fun g rs h=>?_
 rotate_left
 ·rcases h with h | ⟨s,m,p,st,b,e,h1,h2,rfl⟩
  ·exact⟨rs,WkL.refl _,.inl h⟩
  ·exact⟨[.gone,.abs (cl (oAs (Hg s m p st) b e)),.adr 0 e],⟨.inl rfl,Ze9 s m p st b e,.inl rfl,trivial⟩,.inr ⟨_,b,e,h1,h2,rfl⟩⟩
 refine Bm Tryz.func17 (by kernel_rfl) rfl (Nat.le_of_ble_eq_true (by kernel_rfl)) (by kernel_rfl) (Rr _ _) ?_
 have no:¬Z2r d self many→Kh d self many=none:=fun h=>by unfold Kh;rw[if_pos (Classical.byContradiction h)]
 have end0:∀{own:Os} {n:Nat},look 0 own=some (.abs (cl (oDs d)))→¬Z2r d self many→Z0q [0] own n (.tup [.v (.pointer none),gI 130]) (fun g rs=>(Kh d self many=none∧g=.tup [.v (.pointer none),gI 130]∧(rs=cD d∨Z2r d self many∧rs=[.gone]))∨∃s m p st b e,Kh d self many=some (Hg s m p st)∧g=.tup [.ptr 1 0,gI 0]∧rs=[.gone,.abs (cl (oFs (Hg s m p st) b e)),.adr 0 e]):=fun h0 hp =>
  .inl (A7 h0 rfl (.inl ⟨no hp,rfl,.inl rfl⟩))
 refine EvCall.lend ((Z5 d).cal fun q rs hq=>?_)
 obtain⟨rfl,rfl⟩:=hq
 refine EvIf.mk (fun h=>absurd hd (by rw[h];decide)) fun _=>?_
 refine(Ti _).cal fun q hq=>?_
 subst hq
 refine EvIf.beq (fun(hq:Ad many=0)=>?_) fun(hq:Ad many≠0)=>?_
 ·exact end0 rfl (fun h=>h (.inl hq))
 refine EvIf.dec (fun(hs:self < 0)=>?_) fun(hs:¬self < 0)=>?_
 ·exact end0 rfl (fun h=>h (.inr (.inl hs)))
 refine EvIf.dec (fun(hm:self ≥ many)=>?_) fun(hm:¬self ≥ many)=>?_
 ·exact end0 rfl (fun h=>h (.inr (.inr (.inl hm))))
 refine EvCall.lend ((Z03 d).cal fun q rs hq=>?_)
 obtain⟨rfl,rfl⟩:=hq
 refine EvIf.dec (fun(hl:(d.now.length:Int) < 1100)=>?_) fun(hl:¬(d.now.length:Int) < 1100)=>?_
 ·exact end0 rfl (fun h=>h (.inr (.inr (.inr hl))))
 have hpar:Z2r d self many:=by
  rintro(h | h | h | h)
  ·exact hq h
  ·exact hs h
  ·exact hm h
  ·exact hl h
 have hm7:=Z20 hq
 obtain⟨s,rfl⟩:∃s:Nat,self=s:=⟨self.toNat,by omega⟩
 obtain⟨m,rfl⟩:∃m:Nat,many=m:=⟨many.toNat,by omega⟩
 refine EvCall.lend ((Zau d hwd (by omega) hd).cal fun q rs hq=>?_)
 rcases hq with⟨h1,rfl,rfl⟩ | ⟨l,e,h1,rfl,rfl⟩
 ·refine EvIf.bne (fun _=>?_) fun h=>absurd h (by decide)
  have eO:Kh d s m=none:=by unfold Kh;rw[if_neg hpar,h1]
  exact .inl (A7 rfl rfl (.inl ⟨eO,rfl,.inl rfl⟩))
 refine EvIf.bne (fun h=>absurd rfl h) fun _=>?_
 obtain⟨z1,z2,z3,z4⟩:=Y0 h1 (Nat.le_trans (Z3u hwd _) (by decide))
 have eO:Kh d s m=match B5 l.all (0,0,[]) with
   | none=>none
   | some p=>if B2 p.2.2=true∧p.2.1≤p.1∧B7 p.2.2 p.2.1=true then some (Hg s m p l) else none:=by
  unfold Kh;rw[if_neg hpar,h1];rfl
 refine EvCall.lend ((Zcu l e z1).cal fun q rs hq=>?_)
 obtain⟨rfl,rfl⟩:=hq
 refine Or (.nil 3 [gI s,gI m,.ptr 1 0,gI 0,gI 0] [gI 0,.ff,.ff,.ff,gI 0,.nl,.ff,gI 0,.nl,.ff,gI 0,.nl,.ff,gI 0,.nl,.ff,gI 0,.nl,.ff,gI 0,.nl,.ff,gI 0,.nl,gI 0,gI 0,gI 0,gI 0,gI 0,gI 0,gI 0,gI 0,.ff,.ff,.ff,.ff,.ff,.ff,.ff,.nl,.ff] tNd tEn 3 rfl (by decide) (.nil 3 [gI s,gI m,.ptr 1 0,gI 0,gI 0,.osl 5,gI 0,.ff,.ff,.ff,gI 0,.nl,.ff,gI 0,.nl,.ff,gI 0,.nl,.ff,gI 0,.nl,.ff,gI 0,.nl,.ff,gI 0,.nl,.ff,gI 0,.nl,gI 0,gI 0,gI 0,gI 0,gI 0,gI 0,gI 0,gI 0,.ff,.ff,.ff,.ff,.ff,.ff,.ff] [.ff] tNd tPk 3 rfl (by decide) (.seen 3 _ _ rfl (.adr 3 _ rfl fun b=>.close (oFs (Hg s m (0,0,[]) l) b e) [(0,3),(1,1),(2,5),(3,6),(4,7)] ⟨⟨rfl,rfl,rfl⟩,⟨rfl,rfl,rfl⟩,⟨rfl,rfl,rfl⟩,⟨rfl,rfl,rfl⟩,⟨rfl,rfl,rfl⟩,trivial⟩ ⟨_,rfl⟩ rfl (.done ?_)))))
 refine C1 [10,47,48] [0,2,4] (fun x:Nat × (Int × Int × List REnt)=>[(49,gI x.1)]) (fun x=>[(3,.abs (cl (oFs (Hg s m x.2 l) b e)))]) (fun x=>x.1≤l.all.length∧B5 (l.all.drop x.1) x.2=B5 l.all (0,0,[])∧x.2.2.2.length≤x.1) (fun x=>l.all.length - x.1) (0,(0,0,[])) ⟨Nat.zero_le _,rfl,Nat.le_refl _⟩ ⟨⟨rfl,rfl⟩,trivial⟩ ⟨⟨rfl,rfl,rfl⟩,trivial⟩ rfl fun⟨i,p⟩ hI=>?_
 obtain⟨hi,hA,hpl⟩:=hI
 dsimp only at hi hA hpl
 rw[←hA] at eO
 refine EvIf.dec (fun hlt=>?_) fun hge=>?_
 ·rw[List.length_map] at hlt
  obtain⟨c,hc⟩:∃c,l.all[i]?=some c:=⟨_,List.getElem?_eq_getElem (by omega)⟩
  have hdr:l.all.drop i=c::l.all.drop (i+1):=by
   have e2:=(List.getElem?_eq_some_iff.1 hc).2
   rw[←e2,List.getElem_cons_drop]
  rw[hdr] at hA eO
  refine⟨⟨by omega,by rw[List.length_map];omega⟩,?_⟩
  refine EvIdx.at (f:=gSt) hc ?_
  refine EvCall.lend ((Z9p (Hg s m p l) b e (by show p.2.2.length≤_;omega) c (by have:=z2 c (List.mem_of_getElem? hc);omega)).cal fun q rs hq=>?_)
  rcases hq with⟨k1,rfl,rfl⟩ | ⟨p',k1,rfl,rfl⟩
  ·have k1:Cn p c=none:=k1
   have eN:Kh d s m=none:=by rw[eO];unfold B5;rw[k1]
   refine EvIf.mk (fun _=>?_) fun h=>(by cases h)
   conv=>whnf
   refine Gh.done ?_
   exact .inl ⟨[⟨[(0,.gone)],[(0,0)],false⟩],.tup [.v (.pointer none),gI 130],⟨⟨⟨_,rfl,rfl,rfl⟩,trivial⟩,rfl,⟨[],rfl⟩,rfl,rfl,.inl ⟨eN,rfl,.inr ⟨hpar,rfl⟩⟩⟩⟩
  ·have k1:Cn p c=some p':=k1
   have eN:B5 (c::l.all.drop (i+1)) p=B5 (l.all.drop (i+1)) p':=by
    show(match Cn p c with | none=>none | some p=>B5 (l.all.drop (i+1)) p)=_
    rw[k1]
   rw[eN] at hA
   have hp':=Zg k1
   refine EvIf.mk (fun h=>(by cases h)) fun _=>?_
   refine⟨by omega,.done ⟨(i+1,p'),[],⟨by dsimp only;omega,hA,by dsimp only;omega⟩,(by dsimp only;omega),?_⟩⟩
   refine⟨?_,?_,rfl⟩<;>repeat' (first | exact True.intro | with_reducible rfl | exact rfl | refine And.intro ?_ ?_)
 ·rw[List.length_map] at hge
  have hdr:l.all.drop i=[]:=List.drop_eq_nil_of_le (by omega)
  rw[hdr] at eO
  have eO:Kh d s m=if B2 p.2.2=true∧p.2.1≤p.1∧B7 p.2.2 p.2.1=true then some (Hg s m p l) else none:=eO
  conv=>whnf
  refine Gh.opn 3 _ _ _ rfl rfl rfl (.done ?_)
  have hpl2:p.2.2.length≤1000000:=by have:=z1;omega
  refine EvCall.gh (EvSn.peek ?a ?b)
  case a=>exact rfl
  refine(Qh p.2.2 hpl2).mono fun g hg=>?_
  subst hg
  refine⟨rfl,?_⟩
  have bad:¬(B2 p.2.2=true∧p.2.1≤p.1∧B7 p.2.2 p.2.1=true)→Kh d s m=none:=fun h=>by rw[eO,if_neg h]
  refine EvIf.mk (fun h1=>?_) fun h1=>?_
  ·have eN:=bad (fun h=>by rw[h.1] at h1;cases h1)
   exact .inl ⟨[⟨[(0,.gone)],[(0,0)],false⟩],.tup [.v (.pointer none),gI 130],⟨⟨⟨_,rfl,rfl,rfl⟩,trivial⟩,rfl,⟨[],rfl⟩,rfl,rfl,.inl ⟨eN,rfl,.inr ⟨hpar,rfl⟩⟩⟩⟩
  have h1:B2 p.2.2=true:=by simpa using h1
  refine EvIf.dec (fun h2=>?_) fun h2=>?_
  ·have h2:p.2.1 > p.1:=h2
   have eN:=bad (fun h=>by omega)
   exact .inl ⟨[⟨[(0,.gone)],[(0,0)],false⟩],.tup [.v (.pointer none),gI 130],⟨⟨⟨_,rfl,rfl,rfl⟩,trivial⟩,rfl,⟨[],rfl⟩,rfl,rfl,.inl ⟨eN,rfl,.inr ⟨hpar,rfl⟩⟩⟩⟩
  have h2:¬p.2.1 > p.1:=h2
  refine EvCall.gh (EvSn.peek ?a2 ?b2)
  case a2=>exact rfl
  refine(Uj p.2.2 hpl2 p.2.1).mono fun g hg=>?_
  subst hg
  refine⟨rfl,?_⟩
  refine EvIf.mk (fun h3=>?_) fun h3=>?_
  ·have eN:=bad (fun h=>by rw[h.2.2] at h3;cases h3)
   exact .inl ⟨[⟨[(0,.gone)],[(0,0)],false⟩],.tup [.v (.pointer none),gI 130],⟨⟨⟨_,rfl,rfl,rfl⟩,trivial⟩,rfl,⟨[],rfl⟩,rfl,rfl,.inl ⟨eN,rfl,.inr ⟨hpar,rfl⟩⟩⟩⟩
  have h3:B7 p.2.2 p.2.1=true:=by simpa using h3
  rw[if_pos ⟨h1,by omega,h3⟩] at eO
  exact .inl ⟨[⟨[(0,.gone)],[(0,0)],false⟩,⟨oFs (Hg s m p l) b e,[(0,3),(1,8),(2,9),(3,10),(4,11)],true⟩,⟨[(0,.adr 0 e)],[(0,2)],false⟩],.tup [.ptr 1 0,gI 0],⟨⟨⟨_,rfl,rfl,rfl⟩,⟨⟨⟨rfl,rfl,rfl⟩,⟨rfl,rfl,rfl⟩,⟨rfl,rfl,rfl⟩,⟨rfl,rfl,rfl⟩,⟨rfl,rfl,rfl⟩,trivial⟩,_,rfl⟩,⟨_,rfl,rfl,rfl⟩,trivial⟩,rfl,⟨_,rfl⟩,rfl,rfl,.inr ⟨s,m,p,l,b,e,eO,rfl,rfl⟩⟩⟩
end Go.Proofs.YtihfaocdpmmooaaGreat
