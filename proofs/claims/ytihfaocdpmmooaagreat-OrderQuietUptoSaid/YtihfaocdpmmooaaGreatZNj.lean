
import Derived.Test.YtihfaocdpmmooaaGreatNM1
namespace Go.Proofs.YtihfaocdpmmooaaGreat
open Go.RowKit
set_option maxRecDepth 100000
abbrev tMk:Nat:=162
abbrev tEs:Nat:=22
theorem Fc (v:Int)(l:List REnt):FnV Tryz.prog 121 [gI v,.sl (l.map enE)] fun g=>g=.agg [gI v,gI (A5 l)]:=by
 refine fnG Tryz.func121 (by kernel_rfl) rfl (Nat.le_of_ble_eq_true (by kernel_rfl)) (by kernel_rfl) ?_
 exact rfl
theorem Z35 (n:PN)(i:Nat):jlN n (i+1)=if(n.jns i).is=true then jlN n i++[n.jns i] else jlN n i:=by
 unfold jlN
 rw[List.range_succ,List.map_append,List.filter_append]
 show _++List.filter RJ.is [n.jns i]=_
 cases h:(n.jns i).is with
 | true=>rw[List.filter_cons_of_pos h];rfl
 | false=>rw[List.filter_cons_of_neg (by rw[h];decide)];simp
theorem Xw (n:PN)(i:Nat):(jlN n i).length≤i:=by
 unfold jlN
 refine Nat.le_trans (List.length_filter_le _ _) ?_
 simp
theorem Z9m {n:PN}{i:Nat}{j:RJ}(h:j∈jlN n i):∃k,k < i∧j=n.jns k:=by
 unfold jlN at h
 obtain⟨k,hk,rfl⟩:=List.mem_map.1 (List.mem_filter.1 h).1
 exact⟨k,List.mem_range.1 hk,rfl⟩
theorem Z1v {n:PN}(h1:1≤(Bd n).length):∃j,0≤M1 ((Bd n).map mkJ)∧(Bd n)[(M1 ((Bd n).map mkJ)).toNat]?=some j∧Fr n=j.l:=by
 obtain⟨p,hp⟩:=Z6r ((Bd n).map mkJ) ((Bd n).map mkJ).length (by rw[List.length_map];exact h1) (Nat.le_refl _)
 have hb:=hp.best
 obtain⟨hk,-⟩:=hp
 rw[List.length_map] at hk
 have e:(Bd n)[p]?=some (Bd n)[p]:=List.getElem?_eq_getElem hk
 refine⟨(Bd n)[p],by rw[hb];omega,by rw[hb,Int.toNat_natCast];exact e,?_⟩
 unfold Fr
 rw[hb,Int.toNat_natCast,e]
 rfl
theorem Tb {f:PN→Nat→PN}{c:Nat}(h:∀n i,(f n i).out.length≤n.out.length+c)(n:PN):∀k,(Js f n k).out.length≤n.out.length+c * k
 | 0=>by simp[Js]
 | k+1=>by
  have h1:=Tb h n k
  have h2:=h (Js f n k) k
  rw[F3,Nat.mul_succ]
  split<;>omega
theorem A9 (n:PN)(m:RM):(Aq n m).out.length≤n.out.length+n.many:=by
 have:=Tb (f:=fun n i=>Ar n i m) (c:=1) (fun n i=>D1 n i m) n n.many
 unfold Aq
 omega
theorem L6 (n:PN)(er:Int):Dm n er={n with out:=(Dm n er).out,dead:=(Dm n er).dead}∧(Dm n er).out.length≤n.out.length:=by
 unfold Dm
 split
 ·exact⟨rfl,Nat.zero_le _⟩
 ·exact⟨rfl,Nat.le_refl _⟩
theorem Hl (n:PN)(v:Int)(l:List REnt):∃st out dead,Ci n v l=⟨n.self,n.many,v,v,l,min n.cmt (A5 l),n.lds,n.std,n.jns,n.first,n.aks,n.hrd,out,dead,st⟩∧out.length≤n.out.length:=by
 obtain⟨h1,h2⟩:=L6 {Bh n v l with st:=F5 n.st (Bl (Bh n v l))} (Jl n.st (Bl (Bh n v l)))
 exact⟨F5 n.st (Bl (Bh n v l)),(Ci n v l).out,(Ci n v l).dead,h1,h2⟩
set_option maxHeartbeats 4000000 in
theorem Z7l (n:PN)(b e:Nat)(h0:1≤n.many)(h:n.many≤7)(hs:n.self < n.many)(hw:WK n.st)(hj:∀i,i < 7→(n.jns i).l.length≤150)(ho:n.out.length≤800000):FnO Tryz.prog 83 [.ptr 0 0] (cB n b e) fun g rs=>g=.tup []∧rs=if((Bd n).length:Int) < Ak n.many then cB (C2 n) b e else cA (C2 n) b e:=by
 refine B9 Tryz.func83 (by kernel_rfl) rfl (Nat.le_of_ble_eq_true (by kernel_rfl)) (by kernel_rfl) (A6 (O:=oBs n b e) (n0:=5) rfl) ?_
 refine⟨⟨by omega,by omega,by omega⟩,?_⟩
 refine Bq [0,13,14] [0,1,2,3,4] (fun i:Nat=>[(15,gI i),(2,.osl 5),(3,.osl 6)]) (fun i=>[(5,.slc (((jlN n i).map mkJ).map Zfp) tMk 2),(6,.slc ((jlN n i).map fun j=>[.sl (j.l.map enE)]) tEs 1)]) (fun i=>i≤n.many) (fun i=>n.many - i) 0 (Nat.zero_le _) ⟨⟨rfl,rfl⟩,⟨rfl,rfl⟩,⟨rfl,rfl⟩,trivial⟩ (by exact RL2) rfl fun i hi=>?_
 refine EvIf.dec (fun hlt=>?_) fun hge=>?_
 ·have hlt:i < n.many:=by omega
  have hst:=Z35 n i
  have hjl:=Xw n i
  have hi7:i=0∨i=1∨i=2∨i=3∨i=4∨i=5∨i=6:=by omega
  rcases hi7 with rfl | rfl | rfl | rfl | rfl | rfl | rfl
  ·refine⟨⟨by omega,by omega⟩,?_⟩
   refine EvIf.mk (fun his=>?_) fun his=>?_
   ·rw[if_pos his] at hst
    repeat' first
     | (refine(Fc _ _).cal fun q hq=>?_;subst hq)
     | (refine EvRoom.mk (by simp;omega) ?_)
     | (refine And.intro ?_ ?_)
    all_goals
     refine⟨by omega,0+1,by omega,(by dsimp only;omega),?_⟩
     refine⟨?_,?_,rfl⟩<;>repeat' (first | exact True.intro | with_reducible rfl | exact rfl | refine And.intro ?_ ?_)
     all_goals first | exact eqR (by rw[hst,List.map_append,List.map_append];rfl) | exact eqR (by rw[hst,List.map_append];rfl)
   ·rw[if_neg (by rw[his];decide)] at hst
    refine⟨by omega,0+1,by omega,(by dsimp only;omega),?_⟩
    refine⟨?_,?_,rfl⟩<;>repeat' (first | exact True.intro | with_reducible rfl | exact rfl | refine And.intro ?_ ?_)
    all_goals exact eqR (by rw[hst])
  ·refine⟨⟨by omega,by omega⟩,?_⟩
   refine EvIf.mk (fun his=>?_) fun his=>?_
   ·rw[if_pos his] at hst
    repeat' first
     | (refine(Fc _ _).cal fun q hq=>?_;subst hq)
     | (refine EvRoom.mk (by simp;omega) ?_)
     | (refine And.intro ?_ ?_)
    all_goals
     refine⟨by omega,1+1,by omega,(by dsimp only;omega),?_⟩
     refine⟨?_,?_,rfl⟩<;>repeat' (first | exact True.intro | with_reducible rfl | exact rfl | refine And.intro ?_ ?_)
     all_goals first | exact eqR (by rw[hst,List.map_append,List.map_append];rfl) | exact eqR (by rw[hst,List.map_append];rfl)
   ·rw[if_neg (by rw[his];decide)] at hst
    refine⟨by omega,1+1,by omega,(by dsimp only;omega),?_⟩
    refine⟨?_,?_,rfl⟩<;>repeat' (first | exact True.intro | with_reducible rfl | exact rfl | refine And.intro ?_ ?_)
    all_goals exact eqR (by rw[hst])
  ·refine⟨⟨by omega,by omega⟩,?_⟩
   refine EvIf.mk (fun his=>?_) fun his=>?_
   ·rw[if_pos his] at hst
    repeat' first
     | (refine(Fc _ _).cal fun q hq=>?_;subst hq)
     | (refine EvRoom.mk (by simp;omega) ?_)
     | (refine And.intro ?_ ?_)
    all_goals
     refine⟨by omega,2+1,by omega,(by dsimp only;omega),?_⟩
     refine⟨?_,?_,rfl⟩<;>repeat' (first | exact True.intro | with_reducible rfl | exact rfl | refine And.intro ?_ ?_)
     all_goals first | exact eqR (by rw[hst,List.map_append,List.map_append];rfl) | exact eqR (by rw[hst,List.map_append];rfl)
   ·rw[if_neg (by rw[his];decide)] at hst
    refine⟨by omega,2+1,by omega,(by dsimp only;omega),?_⟩
    refine⟨?_,?_,rfl⟩<;>repeat' (first | exact True.intro | with_reducible rfl | exact rfl | refine And.intro ?_ ?_)
    all_goals exact eqR (by rw[hst])
  ·refine⟨⟨by omega,by omega⟩,?_⟩
   refine EvIf.mk (fun his=>?_) fun his=>?_
   ·rw[if_pos his] at hst
    repeat' first
     | (refine(Fc _ _).cal fun q hq=>?_;subst hq)
     | (refine EvRoom.mk (by simp;omega) ?_)
     | (refine And.intro ?_ ?_)
    all_goals
     refine⟨by omega,3+1,by omega,(by dsimp only;omega),?_⟩
     refine⟨?_,?_,rfl⟩<;>repeat' (first | exact True.intro | with_reducible rfl | exact rfl | refine And.intro ?_ ?_)
     all_goals first | exact eqR (by rw[hst,List.map_append,List.map_append];rfl) | exact eqR (by rw[hst,List.map_append];rfl)
   ·rw[if_neg (by rw[his];decide)] at hst
    refine⟨by omega,3+1,by omega,(by dsimp only;omega),?_⟩
    refine⟨?_,?_,rfl⟩<;>repeat' (first | exact True.intro | with_reducible rfl | exact rfl | refine And.intro ?_ ?_)
    all_goals exact eqR (by rw[hst])
  ·refine⟨⟨by omega,by omega⟩,?_⟩
   refine EvIf.mk (fun his=>?_) fun his=>?_
   ·rw[if_pos his] at hst
    repeat' first
     | (refine(Fc _ _).cal fun q hq=>?_;subst hq)
     | (refine EvRoom.mk (by simp;omega) ?_)
     | (refine And.intro ?_ ?_)
    all_goals
     refine⟨by omega,4+1,by omega,(by dsimp only;omega),?_⟩
     refine⟨?_,?_,rfl⟩<;>repeat' (first | exact True.intro | with_reducible rfl | exact rfl | refine And.intro ?_ ?_)
     all_goals first | exact eqR (by rw[hst,List.map_append,List.map_append];rfl) | exact eqR (by rw[hst,List.map_append];rfl)
   ·rw[if_neg (by rw[his];decide)] at hst
    refine⟨by omega,4+1,by omega,(by dsimp only;omega),?_⟩
    refine⟨?_,?_,rfl⟩<;>repeat' (first | exact True.intro | with_reducible rfl | exact rfl | refine And.intro ?_ ?_)
    all_goals exact eqR (by rw[hst])
  ·refine⟨⟨by omega,by omega⟩,?_⟩
   refine EvIf.mk (fun his=>?_) fun his=>?_
   ·rw[if_pos his] at hst
    repeat' first
     | (refine(Fc _ _).cal fun q hq=>?_;subst hq)
     | (refine EvRoom.mk (by simp;omega) ?_)
     | (refine And.intro ?_ ?_)
    all_goals
     refine⟨by omega,5+1,by omega,(by dsimp only;omega),?_⟩
     refine⟨?_,?_,rfl⟩<;>repeat' (first | exact True.intro | with_reducible rfl | exact rfl | refine And.intro ?_ ?_)
     all_goals first | exact eqR (by rw[hst,List.map_append,List.map_append];rfl) | exact eqR (by rw[hst,List.map_append];rfl)
   ·rw[if_neg (by rw[his];decide)] at hst
    refine⟨by omega,5+1,by omega,(by dsimp only;omega),?_⟩
    refine⟨?_,?_,rfl⟩<;>repeat' (first | exact True.intro | with_reducible rfl | exact rfl | refine And.intro ?_ ?_)
    all_goals exact eqR (by rw[hst])
  ·refine⟨⟨by omega,by omega⟩,?_⟩
   refine EvIf.mk (fun his=>?_) fun his=>?_
   ·rw[if_pos his] at hst
    repeat' first
     | (refine(Fc _ _).cal fun q hq=>?_;subst hq)
     | (refine EvRoom.mk (by simp;omega) ?_)
     | (refine And.intro ?_ ?_)
    all_goals
     refine⟨by omega,6+1,by omega,(by dsimp only;omega),?_⟩
     refine⟨?_,?_,rfl⟩<;>repeat' (first | exact True.intro | with_reducible rfl | exact rfl | refine And.intro ?_ ?_)
     all_goals first | exact eqR (by rw[hst,List.map_append,List.map_append];rfl) | exact eqR (by rw[hst,List.map_append];rfl)
   ·rw[if_neg (by rw[his];decide)] at hst
    refine⟨by omega,6+1,by omega,(by dsimp only;omega),?_⟩
    refine⟨?_,?_,rfl⟩<;>repeat' (first | exact True.intro | with_reducible rfl | exact rfl | refine And.intro ?_ ?_)
    all_goals exact eqR (by rw[hst])
 ·have hi2:i=n.many:=by omega
  subst hi2
  have hjl:=Xw n n.many
  refine(Us n.many).cal fun q hq=>?_
  subst hq
  refine EvIf.dec (fun hq=>?_) fun hq=>?_
  ·rw[List.length_map,List.length_map] at hq
   have hq:((Bd n).length:Int) < Ak n.many:=hq
   have eB:C2 n=n:=by unfold C2;rw[if_pos hq]
   rw[if_pos hq,eB]
   exact .inl (A1 (oBs n b e) [] (by exact RL5) rfl ⟨_,rfl⟩ rfl rfl ⟨rfl,rfl⟩)
  ·rw[List.length_map,List.length_map] at hq
   have hq:¬((Bd n).length:Int) < Ak n.many:=hq
   rw[if_neg hq]
   have hq1:1≤Ak n.many:=by unfold Ak Bc;rw[if_pos (by simp;omega)];omega
   obtain⟨j,b0,hjb,eb⟩:=Z1v (n:=n) (by omega)
   refine(Zbr ((Bd n).map mkJ) (by rw[List.length_map];unfold Bd;omega)).cal fun q hq=>?_
   subst hq
   have hlt:(M1 ((Bd n).map mkJ)).toNat < (Bd n).length:=(List.getElem?_eq_some_iff.1 hjb).1
   refine⟨⟨b0,by rw[List.length_map];show _ < ((Bd n).length:Int);omega⟩,?_⟩
   refine EvIdx.at (f:=fun j:RJ=>[G.sl (j.l.map enE)]) hjb ?_
   obtain⟨k,hk,ej⟩:=Z9m (List.mem_of_getElem? hjb)
   have hl:j.l.length≤150:=by rw[ej];exact hj k (by omega)
   clear ej hk k hjb hjl hlt b0
   refine EvCall.gh (.close (oBs n b e) [] (by exact RL5) ⟨_,rfl⟩ rfl (.done (.same ((Xr n b e hw n.pmd j.l (by omega)).cal fun q rs hq=>?_))))
   obtain⟨rfl,rfl⟩:=hq
   by_cases ha:Df n n.pmd j.l=true
   ·rw[ha]
    have eN:C2 n=Dg (Aq (Di (Ci n n.pmd j.l)) ⟨3,n.pmd,0,0,j.l⟩):=by unfold C2;rw[if_neg hq,eb,if_pos ha]
    rw[eN]
    obtain⟨st,out,dead,eA,hol⟩:=Hl n n.pmd j.l
    rw[eA]
    clear eN eA ha eb hq hq1
    obtain⟨self,many,pmd,normal,log,cmt,lds,std,jns,first,aks,hrd,out0,dead0,st0⟩:=n
    dsimp only at h0 h hs hw hj ho hol
    obtain⟨jj,jn,jl⟩:=j
    dsimp only at hl
    dsimp only
    generalize min cmt (A5 jl)=cm
    clear hj
    refine .opn 0 _ _ _ rfl rfl rfl (.done ?_)
    refine EvIf.mk (fun h=>absurd h (by decide)) fun _=>?_
    have hs7:self=0∨self=1∨self=2∨self=3∨self=4∨self=5∨self=6:=by omega
    rcases hs7 with rfl | rfl | rfl | rfl | rfl | rfl | rfl
    ·refine⟨⟨Int.natCast_nonneg 0,by show((0:Nat):Int) < ((7:Nat):Int);decide⟩,?_⟩
     have eS:Di ⟨0,many,pmd,pmd,jl,cm,lds,std,jns,first,aks,hrd,out,dead,st⟩=⟨0,many,pmd,pmd,jl,cm,lds,true,jns,A5 jl,fun i=>if i=0 then A5 jl else 0,fun _=>false,out,dead,st⟩:=rfl
     rw[eS]
     have hS:=Fg ⟨0,many,pmd,pmd,jl,cm,lds,true,jns,A5 jl,fun i=>if i=0 then A5 jl else 0,fun _=>false,out,dead,st⟩ (cl (oLs st e)) ⟨3,pmd,0,0,jl⟩ (.oag [gI 3,gI pmd,gI 0,gI 0,.osl 1]) rfl (by show jl.length≤_;omega) (by show many≤100;omega) (by show out.length≤_;omega)
     obtain⟨o,hs⟩:=(A2 ⟨0,many,pmd,pmd,jl,cm,lds,true,jns,A5 jl,fun i=>if i=0 then A5 jl else 0,fun _=>false,out,dead,st⟩ ⟨3,pmd,0,0,jl⟩).to
     have hol2:o.length≤out.length+many:=by
      have:=A9 ⟨0,many,pmd,pmd,jl,cm,lds,true,jns,A5 jl,fun i=>if i=0 then A5 jl else 0,fun _=>false,out,dead,st⟩ ⟨3,pmd,0,0,jl⟩
      rw[hs] at this
      exact this
     rw[hs] at hS⊢
     refine EvCall.gh (.seen 0 _ _ rfl (.done (.same (hS.cal fun q rs hq=>?_))))
     obtain⟨rfl,rfl⟩:=hq
     refine .done ?_
     refine EvCall.gh (.close (oAs ⟨0,many,pmd,pmd,jl,cm,lds,true,jns,A5 jl,fun i=>if i=0 then A5 jl else 0,fun _=>false,o,dead,st⟩ b e) [(1,7),(2,8),(3,11),(4,10)] (by exact RL5) ⟨_,rfl⟩ rfl (.done (.same ((Ce _ b e h0 h (by show o.length≤_;omega)).cal fun q rs hq=>?_))))
     obtain⟨rfl,rfl⟩:=hq
     refine .done ?_
     exact .inl (A7 rfl rfl ⟨rfl,rfl⟩)
    ·refine⟨⟨Int.natCast_nonneg 1,by show((1:Nat):Int) < ((7:Nat):Int);decide⟩,?_⟩
     have eS:Di ⟨1,many,pmd,pmd,jl,cm,lds,std,jns,first,aks,hrd,out,dead,st⟩=⟨1,many,pmd,pmd,jl,cm,lds,true,jns,A5 jl,fun i=>if i=1 then A5 jl else 0,fun _=>false,out,dead,st⟩:=rfl
     rw[eS]
     have hS:=Fg ⟨1,many,pmd,pmd,jl,cm,lds,true,jns,A5 jl,fun i=>if i=1 then A5 jl else 0,fun _=>false,out,dead,st⟩ (cl (oLs st e)) ⟨3,pmd,0,0,jl⟩ (.oag [gI 3,gI pmd,gI 0,gI 0,.osl 1]) rfl (by show jl.length≤_;omega) (by show many≤100;omega) (by show out.length≤_;omega)
     obtain⟨o,hs⟩:=(A2 ⟨1,many,pmd,pmd,jl,cm,lds,true,jns,A5 jl,fun i=>if i=1 then A5 jl else 0,fun _=>false,out,dead,st⟩ ⟨3,pmd,0,0,jl⟩).to
     have hol2:o.length≤out.length+many:=by
      have:=A9 ⟨1,many,pmd,pmd,jl,cm,lds,true,jns,A5 jl,fun i=>if i=1 then A5 jl else 0,fun _=>false,out,dead,st⟩ ⟨3,pmd,0,0,jl⟩
      rw[hs] at this
      exact this
     rw[hs] at hS⊢
     refine EvCall.gh (.seen 0 _ _ rfl (.done (.same (hS.cal fun q rs hq=>?_))))
     obtain⟨rfl,rfl⟩:=hq
     refine .done ?_
     refine EvCall.gh (.close (oAs ⟨1,many,pmd,pmd,jl,cm,lds,true,jns,A5 jl,fun i=>if i=1 then A5 jl else 0,fun _=>false,o,dead,st⟩ b e) [(1,7),(2,8),(3,11),(4,10)] (by exact RL5) ⟨_,rfl⟩ rfl (.done (.same ((Ce _ b e h0 h (by show o.length≤_;omega)).cal fun q rs hq=>?_))))
     obtain⟨rfl,rfl⟩:=hq
     refine .done ?_
     exact .inl (A7 rfl rfl ⟨rfl,rfl⟩)
    ·refine⟨⟨Int.natCast_nonneg 2,by show((2:Nat):Int) < ((7:Nat):Int);decide⟩,?_⟩
     have eS:Di ⟨2,many,pmd,pmd,jl,cm,lds,std,jns,first,aks,hrd,out,dead,st⟩=⟨2,many,pmd,pmd,jl,cm,lds,true,jns,A5 jl,fun i=>if i=2 then A5 jl else 0,fun _=>false,out,dead,st⟩:=rfl
     rw[eS]
     have hS:=Fg ⟨2,many,pmd,pmd,jl,cm,lds,true,jns,A5 jl,fun i=>if i=2 then A5 jl else 0,fun _=>false,out,dead,st⟩ (cl (oLs st e)) ⟨3,pmd,0,0,jl⟩ (.oag [gI 3,gI pmd,gI 0,gI 0,.osl 1]) rfl (by show jl.length≤_;omega) (by show many≤100;omega) (by show out.length≤_;omega)
     obtain⟨o,hs⟩:=(A2 ⟨2,many,pmd,pmd,jl,cm,lds,true,jns,A5 jl,fun i=>if i=2 then A5 jl else 0,fun _=>false,out,dead,st⟩ ⟨3,pmd,0,0,jl⟩).to
     have hol2:o.length≤out.length+many:=by
      have:=A9 ⟨2,many,pmd,pmd,jl,cm,lds,true,jns,A5 jl,fun i=>if i=2 then A5 jl else 0,fun _=>false,out,dead,st⟩ ⟨3,pmd,0,0,jl⟩
      rw[hs] at this
      exact this
     rw[hs] at hS⊢
     refine EvCall.gh (.seen 0 _ _ rfl (.done (.same (hS.cal fun q rs hq=>?_))))
     obtain⟨rfl,rfl⟩:=hq
     refine .done ?_
     refine EvCall.gh (.close (oAs ⟨2,many,pmd,pmd,jl,cm,lds,true,jns,A5 jl,fun i=>if i=2 then A5 jl else 0,fun _=>false,o,dead,st⟩ b e) [(1,7),(2,8),(3,11),(4,10)] (by exact RL5) ⟨_,rfl⟩ rfl (.done (.same ((Ce _ b e h0 h (by show o.length≤_;omega)).cal fun q rs hq=>?_))))
     obtain⟨rfl,rfl⟩:=hq
     refine .done ?_
     exact .inl (A7 rfl rfl ⟨rfl,rfl⟩)
    ·refine⟨⟨Int.natCast_nonneg 3,by show((3:Nat):Int) < ((7:Nat):Int);decide⟩,?_⟩
     have eS:Di ⟨3,many,pmd,pmd,jl,cm,lds,std,jns,first,aks,hrd,out,dead,st⟩=⟨3,many,pmd,pmd,jl,cm,lds,true,jns,A5 jl,fun i=>if i=3 then A5 jl else 0,fun _=>false,out,dead,st⟩:=rfl
     rw[eS]
     have hS:=Fg ⟨3,many,pmd,pmd,jl,cm,lds,true,jns,A5 jl,fun i=>if i=3 then A5 jl else 0,fun _=>false,out,dead,st⟩ (cl (oLs st e)) ⟨3,pmd,0,0,jl⟩ (.oag [gI 3,gI pmd,gI 0,gI 0,.osl 1]) rfl (by show jl.length≤_;omega) (by show many≤100;omega) (by show out.length≤_;omega)
     obtain⟨o,hs⟩:=(A2 ⟨3,many,pmd,pmd,jl,cm,lds,true,jns,A5 jl,fun i=>if i=3 then A5 jl else 0,fun _=>false,out,dead,st⟩ ⟨3,pmd,0,0,jl⟩).to
     have hol2:o.length≤out.length+many:=by
      have:=A9 ⟨3,many,pmd,pmd,jl,cm,lds,true,jns,A5 jl,fun i=>if i=3 then A5 jl else 0,fun _=>false,out,dead,st⟩ ⟨3,pmd,0,0,jl⟩
      rw[hs] at this
      exact this
     rw[hs] at hS⊢
     refine EvCall.gh (.seen 0 _ _ rfl (.done (.same (hS.cal fun q rs hq=>?_))))
     obtain⟨rfl,rfl⟩:=hq
     refine .done ?_
     refine EvCall.gh (.close (oAs ⟨3,many,pmd,pmd,jl,cm,lds,true,jns,A5 jl,fun i=>if i=3 then A5 jl else 0,fun _=>false,o,dead,st⟩ b e) [(1,7),(2,8),(3,11),(4,10)] (by exact RL5) ⟨_,rfl⟩ rfl (.done (.same ((Ce _ b e h0 h (by show o.length≤_;omega)).cal fun q rs hq=>?_))))
     obtain⟨rfl,rfl⟩:=hq
     refine .done ?_
     exact .inl (A7 rfl rfl ⟨rfl,rfl⟩)
    ·refine⟨⟨Int.natCast_nonneg 4,by show((4:Nat):Int) < ((7:Nat):Int);decide⟩,?_⟩
     have eS:Di ⟨4,many,pmd,pmd,jl,cm,lds,std,jns,first,aks,hrd,out,dead,st⟩=⟨4,many,pmd,pmd,jl,cm,lds,true,jns,A5 jl,fun i=>if i=4 then A5 jl else 0,fun _=>false,out,dead,st⟩:=rfl
     rw[eS]
     have hS:=Fg ⟨4,many,pmd,pmd,jl,cm,lds,true,jns,A5 jl,fun i=>if i=4 then A5 jl else 0,fun _=>false,out,dead,st⟩ (cl (oLs st e)) ⟨3,pmd,0,0,jl⟩ (.oag [gI 3,gI pmd,gI 0,gI 0,.osl 1]) rfl (by show jl.length≤_;omega) (by show many≤100;omega) (by show out.length≤_;omega)
     obtain⟨o,hs⟩:=(A2 ⟨4,many,pmd,pmd,jl,cm,lds,true,jns,A5 jl,fun i=>if i=4 then A5 jl else 0,fun _=>false,out,dead,st⟩ ⟨3,pmd,0,0,jl⟩).to
     have hol2:o.length≤out.length+many:=by
      have:=A9 ⟨4,many,pmd,pmd,jl,cm,lds,true,jns,A5 jl,fun i=>if i=4 then A5 jl else 0,fun _=>false,out,dead,st⟩ ⟨3,pmd,0,0,jl⟩
      rw[hs] at this
      exact this
     rw[hs] at hS⊢
     refine EvCall.gh (.seen 0 _ _ rfl (.done (.same (hS.cal fun q rs hq=>?_))))
     obtain⟨rfl,rfl⟩:=hq
     refine .done ?_
     refine EvCall.gh (.close (oAs ⟨4,many,pmd,pmd,jl,cm,lds,true,jns,A5 jl,fun i=>if i=4 then A5 jl else 0,fun _=>false,o,dead,st⟩ b e) [(1,7),(2,8),(3,11),(4,10)] (by exact RL5) ⟨_,rfl⟩ rfl (.done (.same ((Ce _ b e h0 h (by show o.length≤_;omega)).cal fun q rs hq=>?_))))
     obtain⟨rfl,rfl⟩:=hq
     refine .done ?_
     exact .inl (A7 rfl rfl ⟨rfl,rfl⟩)
    ·refine⟨⟨Int.natCast_nonneg 5,by show((5:Nat):Int) < ((7:Nat):Int);decide⟩,?_⟩
     have eS:Di ⟨5,many,pmd,pmd,jl,cm,lds,std,jns,first,aks,hrd,out,dead,st⟩=⟨5,many,pmd,pmd,jl,cm,lds,true,jns,A5 jl,fun i=>if i=5 then A5 jl else 0,fun _=>false,out,dead,st⟩:=rfl
     rw[eS]
     have hS:=Fg ⟨5,many,pmd,pmd,jl,cm,lds,true,jns,A5 jl,fun i=>if i=5 then A5 jl else 0,fun _=>false,out,dead,st⟩ (cl (oLs st e)) ⟨3,pmd,0,0,jl⟩ (.oag [gI 3,gI pmd,gI 0,gI 0,.osl 1]) rfl (by show jl.length≤_;omega) (by show many≤100;omega) (by show out.length≤_;omega)
     obtain⟨o,hs⟩:=(A2 ⟨5,many,pmd,pmd,jl,cm,lds,true,jns,A5 jl,fun i=>if i=5 then A5 jl else 0,fun _=>false,out,dead,st⟩ ⟨3,pmd,0,0,jl⟩).to
     have hol2:o.length≤out.length+many:=by
      have:=A9 ⟨5,many,pmd,pmd,jl,cm,lds,true,jns,A5 jl,fun i=>if i=5 then A5 jl else 0,fun _=>false,out,dead,st⟩ ⟨3,pmd,0,0,jl⟩
      rw[hs] at this
      exact this
     rw[hs] at hS⊢
     refine EvCall.gh (.seen 0 _ _ rfl (.done (.same (hS.cal fun q rs hq=>?_))))
     obtain⟨rfl,rfl⟩:=hq
     refine .done ?_
     refine EvCall.gh (.close (oAs ⟨5,many,pmd,pmd,jl,cm,lds,true,jns,A5 jl,fun i=>if i=5 then A5 jl else 0,fun _=>false,o,dead,st⟩ b e) [(1,7),(2,8),(3,11),(4,10)] (by exact RL5) ⟨_,rfl⟩ rfl (.done (.same ((Ce _ b e h0 h (by show o.length≤_;omega)).cal fun q rs hq=>?_))))
     obtain⟨rfl,rfl⟩:=hq
     refine .done ?_
     exact .inl (A7 rfl rfl ⟨rfl,rfl⟩)
    ·refine⟨⟨Int.natCast_nonneg 6,by show((6:Nat):Int) < ((7:Nat):Int);decide⟩,?_⟩
     have eS:Di ⟨6,many,pmd,pmd,jl,cm,lds,std,jns,first,aks,hrd,out,dead,st⟩=⟨6,many,pmd,pmd,jl,cm,lds,true,jns,A5 jl,fun i=>if i=6 then A5 jl else 0,fun _=>false,out,dead,st⟩:=rfl
     rw[eS]
     have hS:=Fg ⟨6,many,pmd,pmd,jl,cm,lds,true,jns,A5 jl,fun i=>if i=6 then A5 jl else 0,fun _=>false,out,dead,st⟩ (cl (oLs st e)) ⟨3,pmd,0,0,jl⟩ (.oag [gI 3,gI pmd,gI 0,gI 0,.osl 1]) rfl (by show jl.length≤_;omega) (by show many≤100;omega) (by show out.length≤_;omega)
     obtain⟨o,hs⟩:=(A2 ⟨6,many,pmd,pmd,jl,cm,lds,true,jns,A5 jl,fun i=>if i=6 then A5 jl else 0,fun _=>false,out,dead,st⟩ ⟨3,pmd,0,0,jl⟩).to
     have hol2:o.length≤out.length+many:=by
      have:=A9 ⟨6,many,pmd,pmd,jl,cm,lds,true,jns,A5 jl,fun i=>if i=6 then A5 jl else 0,fun _=>false,out,dead,st⟩ ⟨3,pmd,0,0,jl⟩
      rw[hs] at this
      exact this
     rw[hs] at hS⊢
     refine EvCall.gh (.seen 0 _ _ rfl (.done (.same (hS.cal fun q rs hq=>?_))))
     obtain⟨rfl,rfl⟩:=hq
     refine .done ?_
     refine EvCall.gh (.close (oAs ⟨6,many,pmd,pmd,jl,cm,lds,true,jns,A5 jl,fun i=>if i=6 then A5 jl else 0,fun _=>false,o,dead,st⟩ b e) [(1,7),(2,8),(3,11),(4,10)] (by exact RL5) ⟨_,rfl⟩ rfl (.done (.same ((Ce _ b e h0 h (by show o.length≤_;omega)).cal fun q rs hq=>?_))))
     obtain⟨rfl,rfl⟩:=hq
     refine .done ?_
     exact .inl (A7 rfl rfl ⟨rfl,rfl⟩)
   ·rw[Bool.not_eq_true] at ha
    have eN:C2 n=Ci n n.pmd j.l:=by unfold C2;rw[if_neg hq,eb,if_neg (by rw[ha];decide)]
    rw[ha,eN]
    refine .done ?_
    refine EvIf.mk (fun _=>?_) fun h=>absurd h (by decide)
    exact .inl (A7 rfl rfl ⟨rfl,rfl⟩)
end Go.Proofs.YtihfaocdpmmooaaGreat
