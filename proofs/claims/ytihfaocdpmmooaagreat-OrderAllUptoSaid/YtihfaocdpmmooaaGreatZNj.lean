
import Derived.Test.YtihfaocdpmmooaaGreatNM1
namespace Go.Proofs.YtihfaocdpmmooaaGreat
open Go.RowKit
set_option maxRecDepth 100000
abbrev tMk:Nat:=162
abbrev tEs:Nat:=22
theorem G4 (v:Int)(l:List REnt):FnV Tryz.prog 121 [gI v,.sl (l.map enE)] fun g=>g=.agg [gI v,gI (A4 l)]:=by
 refine fnG Tryz.func121 ?_
 exact rfl
theorem Z6p (n:PN)(i:Nat):jlN n (i+1)=if(n.jns i).is=true then jlN n i++[n.jns i] else jlN n i:=by
 unfold jlN
 rw[List.range_succ,am,List.filter_append]
 show _++List.filter RJ.is [n.jns i]=_
 cases h:(n.jns i).is with
 | true=>rw[List.filter_cons_of_pos h];rfl
 | false=>rw[List.filter_cons_of_neg (by rw[h];decide)];simp
theorem Yr (n:PN)(i:Nat):(jlN n i).length≤i:=by
 unfold jlN
 refine b9 (List.length_filter_le _ _) ?_
 simp
theorem Za7 {n:PN}{i:Nat}{j:RJ}(h:j∈jlN n i):∃k,k < i∧j=n.jns k:=by
 unfold jlN at h
 obtain⟨k,hk,rfl⟩:=az.1 (List.mem_filter.1 h).1
 exact⟨k,List.mem_range.1 hk,rfl⟩
theorem Yo {n:PN}(h1:1≤(Bp n).length):∃j,0≤Ga ((Bp n).map mkJ)∧(Bp n)[(Ga ((Bp n).map mkJ)).toNat]?=some j∧H7 n=j.l:=by
 obtain⟨p,hp⟩:=U6 ((Bp n).map mkJ) ((Bp n).map mkJ).length (by rw[aa];exact h1) (af _)
 have hb:=hp.best
 obtain⟨hk,-⟩:=hp
 rw[aa] at hk
 have e:(Bp n)[p]?=some (Bp n)[p]:=ab hk
 refine⟨(Bp n)[p],by rw[hb];omega,by rw[hb,ay];exact e,?_⟩
 unfold H7
 rw[hb,ay,e]
 rfl
theorem Wj {f:PN→Nat→PN}{c:Nat}(h:∀n i,(f n i).out.length≤n.out.length+c)(n:PN):∀k,(Kg f n k).out.length≤n.out.length+c * k
 | 0=>by simp[Kg]
 | k+1=>by
  have h1:=Wj h n k
  have h2:=h (Kg f n k) k
  rw[Fj,Nat.mul_succ]
  split<;>omega
theorem Aa (n:PN)(m:RM):(Ax n m).out.length≤n.out.length+n.many:=by
 have:=Wj (f:=fun n i=>Ay n i m) (c:=1) (fun n i=>Dh n i m) n n.many
 unfold Ax
 omega
theorem Lu (n:PN)(er:Int):E3 n er={n with out:=(E3 n er).out,dead:=(E3 n er).dead}∧(E3 n er).out.length≤n.out.length:=by
 unfold E3
 split
 ·exact⟨rfl,ah _⟩
 ·exact⟨rfl,af _⟩
theorem Ic (n:PN)(v:Int)(l:List REnt):∃st out dead,Cy n v l=⟨n.self,n.many,v,v,l,min n.cmt (A4 l),n.lds,n.std,n.jns,n.first,n.aks,n.hrd,out,dead,st⟩∧out.length≤n.out.length:=by
 obtain⟨h1,h2⟩:=Lu {Bt n v l with st:=Fq n.st (Bz (Bt n v l))} (Jv n.st (Bz (Bt n v l)))
 exact⟨Fq n.st (Bz (Bt n v l)),(Cy n v l).out,(Cy n v l).dead,h1,h2⟩
set_option maxHeartbeats 4000000 in
theorem Zbp (n:PN)(b e:Nat)(h0:1≤n.many)(h:n.many≤7)(hs:n.self < n.many)(hw:WK n.st)(hj:∀i,i < 7→(n.jns i).l.length≤150)(ho:n.out.length≤800000):FnO Tryz.prog 83 [.ptr 0 0] (cB n b e) fun g rs=>g=.tup []∧rs=if((Bp n).length:Int) < Ag n.many then cB (Cb n) b e else cA (Cb n) b e:=by
 refine Ba Tryz.func83 (A5 (O:=oBs n b e) (n0:=5) rfl) ?_
 refine⟨⟨by omega,by omega,by omega⟩,?_⟩
 refine Ap [0,13,14] [0,1,2,3,4] (fun i:Nat=>[(15,gI i),(2,.osl 5),(3,.osl 6)]) (fun i=>[(5,.slc (((jlN n i).map mkJ).map Zbm) tMk 2),(6,.slc ((jlN n i).map fun j=>[.sl (j.l.map enE)]) tEs 1)]) (fun i=>i≤n.many) (fun i=>n.many - i) 0 (ah _) ⟨⟨rfl,rfl⟩,⟨rfl,rfl⟩,⟨rfl,rfl⟩,trivial⟩ (by exact RL2) rfl fun i hi=>?_
 refine df (fun hlt=>?_) fun hge=>?_
 ·have hlt:i < n.many:=by omega
  have hst:=Z6p n i
  have hjl:=Yr n i
  have hi7:i=0∨i=1∨i=2∨i=3∨i=4∨i=5∨i=6:=by omega
  rcases hi7 with rfl | rfl | rfl | rfl | rfl | rfl | rfl
  ·refine⟨⟨by omega,by omega⟩,?_⟩
   refine dj (fun his=>?_) fun his=>?_
   ·rw[db his] at hst
    repeat' first
     | (refine(G4 _ _).cal fun q hq=>?_;subst hq)
     | (refine EvRoom.mk (by simp;omega) ?_)
     | (refine And.intro ?_ ?_)
    all_goals
     refine⟨by omega,0+1,by omega,(by dsimp only;omega),?_⟩
     refine⟨?_,?_,rfl⟩<;>repeat' (first|exact trivial|with_reducible rfl|exact rfl|refine And.intro ?_ ?_)
     all_goals first | exact eqR (by rw[hst,am,am];rfl) | exact eqR (by rw[hst,am];rfl)
   ·rw[da (by rw[his];decide)] at hst
    refine⟨by omega,0+1,by omega,(by dsimp only;omega),?_⟩
    refine⟨?_,?_,rfl⟩<;>repeat' (first|exact trivial|with_reducible rfl|exact rfl|refine And.intro ?_ ?_)
    all_goals exact eqR (by rw[hst])
  ·refine⟨⟨by omega,by omega⟩,?_⟩
   refine dj (fun his=>?_) fun his=>?_
   ·rw[db his] at hst
    repeat' first
     | (refine(G4 _ _).cal fun q hq=>?_;subst hq)
     | (refine EvRoom.mk (by simp;omega) ?_)
     | (refine And.intro ?_ ?_)
    all_goals
     refine⟨by omega,1+1,by omega,(by dsimp only;omega),?_⟩
     refine⟨?_,?_,rfl⟩<;>repeat' (first|exact trivial|with_reducible rfl|exact rfl|refine And.intro ?_ ?_)
     all_goals first | exact eqR (by rw[hst,am,am];rfl) | exact eqR (by rw[hst,am];rfl)
   ·rw[da (by rw[his];decide)] at hst
    refine⟨by omega,1+1,by omega,(by dsimp only;omega),?_⟩
    refine⟨?_,?_,rfl⟩<;>repeat' (first|exact trivial|with_reducible rfl|exact rfl|refine And.intro ?_ ?_)
    all_goals exact eqR (by rw[hst])
  ·refine⟨⟨by omega,by omega⟩,?_⟩
   refine dj (fun his=>?_) fun his=>?_
   ·rw[db his] at hst
    repeat' first
     | (refine(G4 _ _).cal fun q hq=>?_;subst hq)
     | (refine EvRoom.mk (by simp;omega) ?_)
     | (refine And.intro ?_ ?_)
    all_goals
     refine⟨by omega,2+1,by omega,(by dsimp only;omega),?_⟩
     refine⟨?_,?_,rfl⟩<;>repeat' (first|exact trivial|with_reducible rfl|exact rfl|refine And.intro ?_ ?_)
     all_goals first | exact eqR (by rw[hst,am,am];rfl) | exact eqR (by rw[hst,am];rfl)
   ·rw[da (by rw[his];decide)] at hst
    refine⟨by omega,2+1,by omega,(by dsimp only;omega),?_⟩
    refine⟨?_,?_,rfl⟩<;>repeat' (first|exact trivial|with_reducible rfl|exact rfl|refine And.intro ?_ ?_)
    all_goals exact eqR (by rw[hst])
  ·refine⟨⟨by omega,by omega⟩,?_⟩
   refine dj (fun his=>?_) fun his=>?_
   ·rw[db his] at hst
    repeat' first
     | (refine(G4 _ _).cal fun q hq=>?_;subst hq)
     | (refine EvRoom.mk (by simp;omega) ?_)
     | (refine And.intro ?_ ?_)
    all_goals
     refine⟨by omega,3+1,by omega,(by dsimp only;omega),?_⟩
     refine⟨?_,?_,rfl⟩<;>repeat' (first|exact trivial|with_reducible rfl|exact rfl|refine And.intro ?_ ?_)
     all_goals first | exact eqR (by rw[hst,am,am];rfl) | exact eqR (by rw[hst,am];rfl)
   ·rw[da (by rw[his];decide)] at hst
    refine⟨by omega,3+1,by omega,(by dsimp only;omega),?_⟩
    refine⟨?_,?_,rfl⟩<;>repeat' (first|exact trivial|with_reducible rfl|exact rfl|refine And.intro ?_ ?_)
    all_goals exact eqR (by rw[hst])
  ·refine⟨⟨by omega,by omega⟩,?_⟩
   refine dj (fun his=>?_) fun his=>?_
   ·rw[db his] at hst
    repeat' first
     | (refine(G4 _ _).cal fun q hq=>?_;subst hq)
     | (refine EvRoom.mk (by simp;omega) ?_)
     | (refine And.intro ?_ ?_)
    all_goals
     refine⟨by omega,4+1,by omega,(by dsimp only;omega),?_⟩
     refine⟨?_,?_,rfl⟩<;>repeat' (first|exact trivial|with_reducible rfl|exact rfl|refine And.intro ?_ ?_)
     all_goals first | exact eqR (by rw[hst,am,am];rfl) | exact eqR (by rw[hst,am];rfl)
   ·rw[da (by rw[his];decide)] at hst
    refine⟨by omega,4+1,by omega,(by dsimp only;omega),?_⟩
    refine⟨?_,?_,rfl⟩<;>repeat' (first|exact trivial|with_reducible rfl|exact rfl|refine And.intro ?_ ?_)
    all_goals exact eqR (by rw[hst])
  ·refine⟨⟨by omega,by omega⟩,?_⟩
   refine dj (fun his=>?_) fun his=>?_
   ·rw[db his] at hst
    repeat' first
     | (refine(G4 _ _).cal fun q hq=>?_;subst hq)
     | (refine EvRoom.mk (by simp;omega) ?_)
     | (refine And.intro ?_ ?_)
    all_goals
     refine⟨by omega,5+1,by omega,(by dsimp only;omega),?_⟩
     refine⟨?_,?_,rfl⟩<;>repeat' (first|exact trivial|with_reducible rfl|exact rfl|refine And.intro ?_ ?_)
     all_goals first | exact eqR (by rw[hst,am,am];rfl) | exact eqR (by rw[hst,am];rfl)
   ·rw[da (by rw[his];decide)] at hst
    refine⟨by omega,5+1,by omega,(by dsimp only;omega),?_⟩
    refine⟨?_,?_,rfl⟩<;>repeat' (first|exact trivial|with_reducible rfl|exact rfl|refine And.intro ?_ ?_)
    all_goals exact eqR (by rw[hst])
  ·refine⟨⟨by omega,by omega⟩,?_⟩
   refine dj (fun his=>?_) fun his=>?_
   ·rw[db his] at hst
    repeat' first
     | (refine(G4 _ _).cal fun q hq=>?_;subst hq)
     | (refine EvRoom.mk (by simp;omega) ?_)
     | (refine And.intro ?_ ?_)
    all_goals
     refine⟨by omega,6+1,by omega,(by dsimp only;omega),?_⟩
     refine⟨?_,?_,rfl⟩<;>repeat' (first|exact trivial|with_reducible rfl|exact rfl|refine And.intro ?_ ?_)
     all_goals first | exact eqR (by rw[hst,am,am];rfl) | exact eqR (by rw[hst,am];rfl)
   ·rw[da (by rw[his];decide)] at hst
    refine⟨by omega,6+1,by omega,(by dsimp only;omega),?_⟩
    refine⟨?_,?_,rfl⟩<;>repeat' (first|exact trivial|with_reducible rfl|exact rfl|refine And.intro ?_ ?_)
    all_goals exact eqR (by rw[hst])
 ·have hi2:i=n.many:=by omega
  subst hi2
  have hjl:=Yr n n.many
  refine(W1 n.many).cal fun q hq=>?_
  subst hq
  refine df (fun hq=>?_) fun hq=>?_
  ·rw[aa,aa] at hq
   have hq:((Bp n).length:Int) < Ag n.many:=hq
   have eB:Cb n=n:=by unfold Cb;rw[db hq]
   rw[db hq,eB]
   exact .inl (A1 (oBs n b e) [] (by exact RL5) rfl ⟨_,rfl⟩ rfl rfl ⟨rfl,rfl⟩)
  ·rw[aa,aa] at hq
   have hq:¬((Bp n).length:Int) < Ag n.many:=hq
   rw[da hq]
   have hq1:1≤Ag n.many:=by unfold Ag Bd;rw[db (by simp;omega)];omega
   obtain⟨j,b0,hjb,eb⟩:=Yo (n:=n) (by omega)
   refine(Zei ((Bp n).map mkJ) (by rw[aa];unfold Bp;omega)).cal fun q hq=>?_
   subst hq
   have hlt:(Ga ((Bp n).map mkJ)).toNat < (Bp n).length:=(ac.1 hjb).1
   refine⟨⟨b0,by rw[aa];show _ < ((Bp n).length:Int);omega⟩,?_⟩
   refine dk (f:=fun j:RJ=>[G.sl (j.l.map enE)]) hjb ?_
   obtain⟨k,hk,ej⟩:=Za7 (ae hjb)
   have hl:j.l.length≤150:=by rw[ej];exact hj k (by omega)
   clear ej hk k hjb hjl hlt b0
   refine dg (.close (oBs n b e) [] (by exact RL5) ⟨_,rfl⟩ rfl (.done (.same ((Yt n b e hw n.pmd j.l (by omega)).cal fun q rs hq=>?_))))
   obtain⟨rfl,rfl⟩:=hq
   by_cases ha:Dw n n.pmd j.l=true
   ·rw[ha]
    have eN:Cb n=Dy (Ax (Dt (Cy n n.pmd j.l)) ⟨3,n.pmd,0,0,j.l⟩):=by unfold Cb;rw[da hq,eb,db ha]
    rw[eN]
    obtain⟨st,out,dead,eA,hol⟩:=Ic n n.pmd j.l
    rw[eA]
    clear eN eA ha eb hq hq1
    obtain⟨self,many,pmd,normal,log,cmt,lds,std,jns,first,aks,hrd,out0,dead0,st0⟩:=n
    dsimp only at h0 h hs hw hj ho hol
    obtain⟨jj,jn,jl⟩:=j
    dsimp only at hl
    dsimp only
    generalize min cmt (A4 jl)=cm
    clear hj
    refine .opn 0 _ _ _ rfl rfl rfl (.done ?_)
    refine dj (fun h=>dc h (by decide)) fun _=>?_
    have hs7:self=0∨self=1∨self=2∨self=3∨self=4∨self=5∨self=6:=by omega
    rcases hs7 with rfl | rfl | rfl | rfl | rfl | rfl | rfl
    ·refine⟨⟨bj 0,by show((0:Nat):Int) < ((7:Nat):Int);decide⟩,?_⟩
     have eS:Dt ⟨0,many,pmd,pmd,jl,cm,lds,std,jns,first,aks,hrd,out,dead,st⟩=⟨0,many,pmd,pmd,jl,cm,lds,true,jns,A4 jl,fun i=>if i=0 then A4 jl else 0,fun _=>false,out,dead,st⟩:=rfl
     rw[eS]
     have hS:=Fu ⟨0,many,pmd,pmd,jl,cm,lds,true,jns,A4 jl,fun i=>if i=0 then A4 jl else 0,fun _=>false,out,dead,st⟩ (cl (oLs st e)) ⟨3,pmd,0,0,jl⟩ (.oag [gI 3,gI pmd,gI 0,gI 0,.osl 1]) rfl (by show jl.length≤_;omega) (by show many≤100;omega) (by show out.length≤_;omega)
     obtain⟨o,hs⟩:=(A2 ⟨0,many,pmd,pmd,jl,cm,lds,true,jns,A4 jl,fun i=>if i=0 then A4 jl else 0,fun _=>false,out,dead,st⟩ ⟨3,pmd,0,0,jl⟩).to
     have hol2:o.length≤out.length+many:=by
      have:=Aa ⟨0,many,pmd,pmd,jl,cm,lds,true,jns,A4 jl,fun i=>if i=0 then A4 jl else 0,fun _=>false,out,dead,st⟩ ⟨3,pmd,0,0,jl⟩
      rw[hs] at this
      exact this
     rw[hs] at hS⊢
     refine dg (.seen 0 _ _ rfl (.done (.same (hS.cal fun q rs hq=>?_))))
     obtain⟨rfl,rfl⟩:=hq
     refine .done ?_
     refine dg (.close (oAs ⟨0,many,pmd,pmd,jl,cm,lds,true,jns,A4 jl,fun i=>if i=0 then A4 jl else 0,fun _=>false,o,dead,st⟩ b e) [(1,7),(2,8),(3,11),(4,10)] (by exact RL5) ⟨_,rfl⟩ rfl (.done (.same ((Cv _ b e h0 h (by show o.length≤_;omega)).cal fun q rs hq=>?_))))
     obtain⟨rfl,rfl⟩:=hq
     refine .done ?_
     exact .inl (A7 rfl rfl ⟨rfl,rfl⟩)
    ·refine⟨⟨bj 1,by show((1:Nat):Int) < ((7:Nat):Int);decide⟩,?_⟩
     have eS:Dt ⟨1,many,pmd,pmd,jl,cm,lds,std,jns,first,aks,hrd,out,dead,st⟩=⟨1,many,pmd,pmd,jl,cm,lds,true,jns,A4 jl,fun i=>if i=1 then A4 jl else 0,fun _=>false,out,dead,st⟩:=rfl
     rw[eS]
     have hS:=Fu ⟨1,many,pmd,pmd,jl,cm,lds,true,jns,A4 jl,fun i=>if i=1 then A4 jl else 0,fun _=>false,out,dead,st⟩ (cl (oLs st e)) ⟨3,pmd,0,0,jl⟩ (.oag [gI 3,gI pmd,gI 0,gI 0,.osl 1]) rfl (by show jl.length≤_;omega) (by show many≤100;omega) (by show out.length≤_;omega)
     obtain⟨o,hs⟩:=(A2 ⟨1,many,pmd,pmd,jl,cm,lds,true,jns,A4 jl,fun i=>if i=1 then A4 jl else 0,fun _=>false,out,dead,st⟩ ⟨3,pmd,0,0,jl⟩).to
     have hol2:o.length≤out.length+many:=by
      have:=Aa ⟨1,many,pmd,pmd,jl,cm,lds,true,jns,A4 jl,fun i=>if i=1 then A4 jl else 0,fun _=>false,out,dead,st⟩ ⟨3,pmd,0,0,jl⟩
      rw[hs] at this
      exact this
     rw[hs] at hS⊢
     refine dg (.seen 0 _ _ rfl (.done (.same (hS.cal fun q rs hq=>?_))))
     obtain⟨rfl,rfl⟩:=hq
     refine .done ?_
     refine dg (.close (oAs ⟨1,many,pmd,pmd,jl,cm,lds,true,jns,A4 jl,fun i=>if i=1 then A4 jl else 0,fun _=>false,o,dead,st⟩ b e) [(1,7),(2,8),(3,11),(4,10)] (by exact RL5) ⟨_,rfl⟩ rfl (.done (.same ((Cv _ b e h0 h (by show o.length≤_;omega)).cal fun q rs hq=>?_))))
     obtain⟨rfl,rfl⟩:=hq
     refine .done ?_
     exact .inl (A7 rfl rfl ⟨rfl,rfl⟩)
    ·refine⟨⟨bj 2,by show((2:Nat):Int) < ((7:Nat):Int);decide⟩,?_⟩
     have eS:Dt ⟨2,many,pmd,pmd,jl,cm,lds,std,jns,first,aks,hrd,out,dead,st⟩=⟨2,many,pmd,pmd,jl,cm,lds,true,jns,A4 jl,fun i=>if i=2 then A4 jl else 0,fun _=>false,out,dead,st⟩:=rfl
     rw[eS]
     have hS:=Fu ⟨2,many,pmd,pmd,jl,cm,lds,true,jns,A4 jl,fun i=>if i=2 then A4 jl else 0,fun _=>false,out,dead,st⟩ (cl (oLs st e)) ⟨3,pmd,0,0,jl⟩ (.oag [gI 3,gI pmd,gI 0,gI 0,.osl 1]) rfl (by show jl.length≤_;omega) (by show many≤100;omega) (by show out.length≤_;omega)
     obtain⟨o,hs⟩:=(A2 ⟨2,many,pmd,pmd,jl,cm,lds,true,jns,A4 jl,fun i=>if i=2 then A4 jl else 0,fun _=>false,out,dead,st⟩ ⟨3,pmd,0,0,jl⟩).to
     have hol2:o.length≤out.length+many:=by
      have:=Aa ⟨2,many,pmd,pmd,jl,cm,lds,true,jns,A4 jl,fun i=>if i=2 then A4 jl else 0,fun _=>false,out,dead,st⟩ ⟨3,pmd,0,0,jl⟩
      rw[hs] at this
      exact this
     rw[hs] at hS⊢
     refine dg (.seen 0 _ _ rfl (.done (.same (hS.cal fun q rs hq=>?_))))
     obtain⟨rfl,rfl⟩:=hq
     refine .done ?_
     refine dg (.close (oAs ⟨2,many,pmd,pmd,jl,cm,lds,true,jns,A4 jl,fun i=>if i=2 then A4 jl else 0,fun _=>false,o,dead,st⟩ b e) [(1,7),(2,8),(3,11),(4,10)] (by exact RL5) ⟨_,rfl⟩ rfl (.done (.same ((Cv _ b e h0 h (by show o.length≤_;omega)).cal fun q rs hq=>?_))))
     obtain⟨rfl,rfl⟩:=hq
     refine .done ?_
     exact .inl (A7 rfl rfl ⟨rfl,rfl⟩)
    ·refine⟨⟨bj 3,by show((3:Nat):Int) < ((7:Nat):Int);decide⟩,?_⟩
     have eS:Dt ⟨3,many,pmd,pmd,jl,cm,lds,std,jns,first,aks,hrd,out,dead,st⟩=⟨3,many,pmd,pmd,jl,cm,lds,true,jns,A4 jl,fun i=>if i=3 then A4 jl else 0,fun _=>false,out,dead,st⟩:=rfl
     rw[eS]
     have hS:=Fu ⟨3,many,pmd,pmd,jl,cm,lds,true,jns,A4 jl,fun i=>if i=3 then A4 jl else 0,fun _=>false,out,dead,st⟩ (cl (oLs st e)) ⟨3,pmd,0,0,jl⟩ (.oag [gI 3,gI pmd,gI 0,gI 0,.osl 1]) rfl (by show jl.length≤_;omega) (by show many≤100;omega) (by show out.length≤_;omega)
     obtain⟨o,hs⟩:=(A2 ⟨3,many,pmd,pmd,jl,cm,lds,true,jns,A4 jl,fun i=>if i=3 then A4 jl else 0,fun _=>false,out,dead,st⟩ ⟨3,pmd,0,0,jl⟩).to
     have hol2:o.length≤out.length+many:=by
      have:=Aa ⟨3,many,pmd,pmd,jl,cm,lds,true,jns,A4 jl,fun i=>if i=3 then A4 jl else 0,fun _=>false,out,dead,st⟩ ⟨3,pmd,0,0,jl⟩
      rw[hs] at this
      exact this
     rw[hs] at hS⊢
     refine dg (.seen 0 _ _ rfl (.done (.same (hS.cal fun q rs hq=>?_))))
     obtain⟨rfl,rfl⟩:=hq
     refine .done ?_
     refine dg (.close (oAs ⟨3,many,pmd,pmd,jl,cm,lds,true,jns,A4 jl,fun i=>if i=3 then A4 jl else 0,fun _=>false,o,dead,st⟩ b e) [(1,7),(2,8),(3,11),(4,10)] (by exact RL5) ⟨_,rfl⟩ rfl (.done (.same ((Cv _ b e h0 h (by show o.length≤_;omega)).cal fun q rs hq=>?_))))
     obtain⟨rfl,rfl⟩:=hq
     refine .done ?_
     exact .inl (A7 rfl rfl ⟨rfl,rfl⟩)
    ·refine⟨⟨bj 4,by show((4:Nat):Int) < ((7:Nat):Int);decide⟩,?_⟩
     have eS:Dt ⟨4,many,pmd,pmd,jl,cm,lds,std,jns,first,aks,hrd,out,dead,st⟩=⟨4,many,pmd,pmd,jl,cm,lds,true,jns,A4 jl,fun i=>if i=4 then A4 jl else 0,fun _=>false,out,dead,st⟩:=rfl
     rw[eS]
     have hS:=Fu ⟨4,many,pmd,pmd,jl,cm,lds,true,jns,A4 jl,fun i=>if i=4 then A4 jl else 0,fun _=>false,out,dead,st⟩ (cl (oLs st e)) ⟨3,pmd,0,0,jl⟩ (.oag [gI 3,gI pmd,gI 0,gI 0,.osl 1]) rfl (by show jl.length≤_;omega) (by show many≤100;omega) (by show out.length≤_;omega)
     obtain⟨o,hs⟩:=(A2 ⟨4,many,pmd,pmd,jl,cm,lds,true,jns,A4 jl,fun i=>if i=4 then A4 jl else 0,fun _=>false,out,dead,st⟩ ⟨3,pmd,0,0,jl⟩).to
     have hol2:o.length≤out.length+many:=by
      have:=Aa ⟨4,many,pmd,pmd,jl,cm,lds,true,jns,A4 jl,fun i=>if i=4 then A4 jl else 0,fun _=>false,out,dead,st⟩ ⟨3,pmd,0,0,jl⟩
      rw[hs] at this
      exact this
     rw[hs] at hS⊢
     refine dg (.seen 0 _ _ rfl (.done (.same (hS.cal fun q rs hq=>?_))))
     obtain⟨rfl,rfl⟩:=hq
     refine .done ?_
     refine dg (.close (oAs ⟨4,many,pmd,pmd,jl,cm,lds,true,jns,A4 jl,fun i=>if i=4 then A4 jl else 0,fun _=>false,o,dead,st⟩ b e) [(1,7),(2,8),(3,11),(4,10)] (by exact RL5) ⟨_,rfl⟩ rfl (.done (.same ((Cv _ b e h0 h (by show o.length≤_;omega)).cal fun q rs hq=>?_))))
     obtain⟨rfl,rfl⟩:=hq
     refine .done ?_
     exact .inl (A7 rfl rfl ⟨rfl,rfl⟩)
    ·refine⟨⟨bj 5,by show((5:Nat):Int) < ((7:Nat):Int);decide⟩,?_⟩
     have eS:Dt ⟨5,many,pmd,pmd,jl,cm,lds,std,jns,first,aks,hrd,out,dead,st⟩=⟨5,many,pmd,pmd,jl,cm,lds,true,jns,A4 jl,fun i=>if i=5 then A4 jl else 0,fun _=>false,out,dead,st⟩:=rfl
     rw[eS]
     have hS:=Fu ⟨5,many,pmd,pmd,jl,cm,lds,true,jns,A4 jl,fun i=>if i=5 then A4 jl else 0,fun _=>false,out,dead,st⟩ (cl (oLs st e)) ⟨3,pmd,0,0,jl⟩ (.oag [gI 3,gI pmd,gI 0,gI 0,.osl 1]) rfl (by show jl.length≤_;omega) (by show many≤100;omega) (by show out.length≤_;omega)
     obtain⟨o,hs⟩:=(A2 ⟨5,many,pmd,pmd,jl,cm,lds,true,jns,A4 jl,fun i=>if i=5 then A4 jl else 0,fun _=>false,out,dead,st⟩ ⟨3,pmd,0,0,jl⟩).to
     have hol2:o.length≤out.length+many:=by
      have:=Aa ⟨5,many,pmd,pmd,jl,cm,lds,true,jns,A4 jl,fun i=>if i=5 then A4 jl else 0,fun _=>false,out,dead,st⟩ ⟨3,pmd,0,0,jl⟩
      rw[hs] at this
      exact this
     rw[hs] at hS⊢
     refine dg (.seen 0 _ _ rfl (.done (.same (hS.cal fun q rs hq=>?_))))
     obtain⟨rfl,rfl⟩:=hq
     refine .done ?_
     refine dg (.close (oAs ⟨5,many,pmd,pmd,jl,cm,lds,true,jns,A4 jl,fun i=>if i=5 then A4 jl else 0,fun _=>false,o,dead,st⟩ b e) [(1,7),(2,8),(3,11),(4,10)] (by exact RL5) ⟨_,rfl⟩ rfl (.done (.same ((Cv _ b e h0 h (by show o.length≤_;omega)).cal fun q rs hq=>?_))))
     obtain⟨rfl,rfl⟩:=hq
     refine .done ?_
     exact .inl (A7 rfl rfl ⟨rfl,rfl⟩)
    ·refine⟨⟨bj 6,by show((6:Nat):Int) < ((7:Nat):Int);decide⟩,?_⟩
     have eS:Dt ⟨6,many,pmd,pmd,jl,cm,lds,std,jns,first,aks,hrd,out,dead,st⟩=⟨6,many,pmd,pmd,jl,cm,lds,true,jns,A4 jl,fun i=>if i=6 then A4 jl else 0,fun _=>false,out,dead,st⟩:=rfl
     rw[eS]
     have hS:=Fu ⟨6,many,pmd,pmd,jl,cm,lds,true,jns,A4 jl,fun i=>if i=6 then A4 jl else 0,fun _=>false,out,dead,st⟩ (cl (oLs st e)) ⟨3,pmd,0,0,jl⟩ (.oag [gI 3,gI pmd,gI 0,gI 0,.osl 1]) rfl (by show jl.length≤_;omega) (by show many≤100;omega) (by show out.length≤_;omega)
     obtain⟨o,hs⟩:=(A2 ⟨6,many,pmd,pmd,jl,cm,lds,true,jns,A4 jl,fun i=>if i=6 then A4 jl else 0,fun _=>false,out,dead,st⟩ ⟨3,pmd,0,0,jl⟩).to
     have hol2:o.length≤out.length+many:=by
      have:=Aa ⟨6,many,pmd,pmd,jl,cm,lds,true,jns,A4 jl,fun i=>if i=6 then A4 jl else 0,fun _=>false,out,dead,st⟩ ⟨3,pmd,0,0,jl⟩
      rw[hs] at this
      exact this
     rw[hs] at hS⊢
     refine dg (.seen 0 _ _ rfl (.done (.same (hS.cal fun q rs hq=>?_))))
     obtain⟨rfl,rfl⟩:=hq
     refine .done ?_
     refine dg (.close (oAs ⟨6,many,pmd,pmd,jl,cm,lds,true,jns,A4 jl,fun i=>if i=6 then A4 jl else 0,fun _=>false,o,dead,st⟩ b e) [(1,7),(2,8),(3,11),(4,10)] (by exact RL5) ⟨_,rfl⟩ rfl (.done (.same ((Cv _ b e h0 h (by show o.length≤_;omega)).cal fun q rs hq=>?_))))
     obtain⟨rfl,rfl⟩:=hq
     refine .done ?_
     exact .inl (A7 rfl rfl ⟨rfl,rfl⟩)
   ·rw[Bool.not_eq_true] at ha
    have eN:Cb n=Cy n n.pmd j.l:=by unfold Cb;rw[da hq,eb,da (by rw[ha];decide)]
    rw[ha,eN]
    refine .done ?_
    refine dj (fun _=>?_) fun h=>dc h (by decide)
    exact .inl (A7 rfl rfl ⟨rfl,rfl⟩)
end Go.Proofs.YtihfaocdpmmooaaGreat
