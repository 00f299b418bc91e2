
import Derived.Test.YtihfaocdpmmooaaGreatNM1
namespace Go.Proofs.YtihfaocdpmmooaaGreat
open Go.RowKit
set_option maxRecDepth 100000
abbrev tMk:Nat:=162
abbrev tEs:Nat:=22
theorem Fs (v:Int)(l:List REnt):FnV Tryz.prog 121 [gI v,.sl (l.map enE)] fun g=>g=.agg [gI v,gI (A5 l)]:=by
 refine fnG Tryz.func121 (by kernel_rfl) rfl (Nat.le_of_ble_eq_true (by kernel_rfl)) (by kernel_rfl) ?_
 exact rfl
theorem Z4x (n:PN)(i:Nat):jlN n (i+1)=if(n.jns i).is=true then jlN n i++[n.jns i] else jlN n i:=by
 unfold jlN
 rw[List.range_succ,List.map_append,List.filter_append]
 show _++List.filter RJ.is [n.jns i]=_
 cases h:(n.jns i).is with
 | true=>rw[List.filter_cons_of_pos h];rfl
 | false=>rw[List.filter_cons_of_neg (by rw[h];decide)];simp
theorem Z1x (n:PN)(i:Nat):(jlN n i).length≤i:=by
 unfold jlN
 refine Nat.le_trans (List.length_filter_le _ _) ?_
 simp
theorem Z9c {n:PN}{i:Nat}{j:RJ}(h:j∈jlN n i):∃k,k < i∧j=n.jns k:=by
 unfold jlN at h
 obtain⟨k,hk,rfl⟩:=List.mem_map.1 (List.mem_filter.1 h).1
 exact⟨k,List.mem_range.1 hk,rfl⟩
theorem Z0i {n:PN}(h1:1≤(B5 n).length):∃j,0≤M0 ((B5 n).map mkJ)∧(B5 n)[(M0 ((B5 n).map mkJ)).toNat]?=some j∧F1 n=j.l:=by
 obtain⟨p,hp⟩:=Z69 ((B5 n).map mkJ) ((B5 n).map mkJ).length (by rw[List.length_map];exact h1) (Nat.le_refl _)
 have hb:=hp.best
 obtain⟨hk,-⟩:=hp
 rw[List.length_map] at hk
 have e:(B5 n)[p]?=some (B5 n)[p]:=List.getElem?_eq_getElem hk
 refine⟨(B5 n)[p],by rw[hb];omega,by rw[hb,Int.toNat_natCast];exact e,?_⟩
 unfold F1
 rw[hb,Int.toNat_natCast,e]
 rfl
theorem Vm {f:PN→Nat→PN}{c:Nat}(h:∀n i,(f n i).out.length≤n.out.length+c)(n:PN):∀k,(Jt f n k).out.length≤n.out.length+c * k
 | 0=>by simp[Jt]
 | k+1=>by
  have h1:=Vm h n k
  have h2:=h (Jt f n k) k
  rw[Ee,Nat.mul_succ]
  split<;>omega
theorem A9 (n:PN)(m:RM):(Ao n m).out.length≤n.out.length+n.many:=by
 have:=Vm (f:=fun n i=>Aq n i m) (c:=1) (fun n i=>D6 n i m) n n.many
 unfold Ao
 omega
theorem Le (n:PN)(er:Int):Dp n er={n with out:=(Dp n er).out,dead:=(Dp n er).dead}∧(Dp n er).out.length≤n.out.length:=by
 unfold Dp
 split
 ·exact⟨rfl,Nat.zero_le _⟩
 ·exact⟨rfl,Nat.le_refl _⟩
theorem Hw (n:PN)(v:Int)(l:List REnt):∃st out dead,C8 n v l=⟨n.self,n.many,v,v,l,min n.cmt (A5 l),n.lds,n.std,n.jns,n.first,n.aks,n.hrd,out,dead,st⟩∧out.length≤n.out.length:=by
 obtain⟨h1,h2⟩:=Le {Bj n v l with st:=Fc n.st (Bp (Bj n v l))} (J8 n.st (Bp (Bj n v l)))
 exact⟨Fc n.st (Bp (Bj n v l)),(C8 n v l).out,(C8 n v l).dead,h1,h2⟩
set_option maxHeartbeats 4000000 in
theorem Z8x (n:PN)(b e:Nat)(h0:1≤n.many)(h:n.many≤7)(hs:n.self < n.many)(hw:WK n.st)(hj:∀i,i < 7→(n.jns i).l.length≤150)(ho:n.out.length≤800000):FnO Tryz.prog 83 [.ptr 0 0] (cB n b e) fun g rs=>g=.tup []∧rs=if((B5 n).length:Int) < Am n.many then cB (Br n) b e else cA (Br n) b e:=by
 refine Bd Tryz.func83 (by kernel_rfl) rfl (Nat.le_of_ble_eq_true (by kernel_rfl)) (by kernel_rfl) (A6 (O:=oBs n b e) (n0:=5) rfl) ?_
 refine⟨⟨by omega,by omega,by omega⟩,?_⟩
 refine Bo [0,13,14] [0,1,2,3,4] (fun i:Nat=>[(15,gI i),(2,.osl 5),(3,.osl 6)]) (fun i=>[(5,.slc (((jlN n i).map mkJ).map Zg4) tMk 2),(6,.slc ((jlN n i).map fun j=>[.sl (j.l.map enE)]) tEs 1)]) (fun i=>i≤n.many) (fun i=>n.many - i) 0 (Nat.zero_le _) ⟨⟨rfl,rfl⟩,⟨rfl,rfl⟩,⟨rfl,rfl⟩,trivial⟩ (by exact RL2) rfl fun i hi=>?_
 refine EvIf.dec (fun hlt=>?_) fun hge=>?_
 ·have hlt:i < n.many:=by omega
  have hst:=Z4x n i
  have hjl:=Z1x n i
  have hi7:i=0∨i=1∨i=2∨i=3∨i=4∨i=5∨i=6:=by omega
  rcases hi7 with rfl | rfl | rfl | rfl | rfl | rfl | rfl
  ·refine⟨⟨by omega,by omega⟩,?_⟩
   refine EvIf.mk (fun his=>?_) fun his=>?_
   ·rw[if_pos his] at hst
    repeat' first
     | (refine(Fs _ _).cal fun q hq=>?_;subst hq)
     | (refine EvRoom.mk (by simp;omega) ?_)
     | (refine And.intro ?_ ?_)
    all_goals
     refine⟨by omega,0+1,by omega,(by dsimp only;omega),?_⟩
     refine⟨?_,?_,rfl⟩<;>repeat' (first | exact True.intro | with_reducible rfl | exact rfl | refine And.intro ?_ ?_)
     all_goals first | exact eqR (by rw[hst,List.map_append,List.map_append];rfl) | exact eqR (by rw[hst,List.map_append];rfl)
   ·rw[if_neg (by rw[his];decide)] at hst
    refine⟨by omega,0+1,by omega,(by dsimp only;omega),?_⟩
    refine⟨?_,?_,rfl⟩<;>repeat' (first | exact True.intro | with_reducible rfl | exact rfl | refine And.intro ?_ ?_)
    all_goals exact eqR (by rw[hst])
  ·refine⟨⟨by omega,by omega⟩,?_⟩
   refine EvIf.mk (fun his=>?_) fun his=>?_
   ·rw[if_pos his] at hst
    repeat' first
     | (refine(Fs _ _).cal fun q hq=>?_;subst hq)
     | (refine EvRoom.mk (by simp;omega) ?_)
     | (refine And.intro ?_ ?_)
    all_goals
     refine⟨by omega,1+1,by omega,(by dsimp only;omega),?_⟩
     refine⟨?_,?_,rfl⟩<;>repeat' (first | exact True.intro | with_reducible rfl | exact rfl | refine And.intro ?_ ?_)
     all_goals first | exact eqR (by rw[hst,List.map_append,List.map_append];rfl) | exact eqR (by rw[hst,List.map_append];rfl)
   ·rw[if_neg (by rw[his];decide)] at hst
    refine⟨by omega,1+1,by omega,(by dsimp only;omega),?_⟩
    refine⟨?_,?_,rfl⟩<;>repeat' (first | exact True.intro | with_reducible rfl | exact rfl | refine And.intro ?_ ?_)
    all_goals exact eqR (by rw[hst])
  ·refine⟨⟨by omega,by omega⟩,?_⟩
   refine EvIf.mk (fun his=>?_) fun his=>?_
   ·rw[if_pos his] at hst
    repeat' first
     | (refine(Fs _ _).cal fun q hq=>?_;subst hq)
     | (refine EvRoom.mk (by simp;omega) ?_)
     | (refine And.intro ?_ ?_)
    all_goals
     refine⟨by omega,2+1,by omega,(by dsimp only;omega),?_⟩
     refine⟨?_,?_,rfl⟩<;>repeat' (first | exact True.intro | with_reducible rfl | exact rfl | refine And.intro ?_ ?_)
     all_goals first | exact eqR (by rw[hst,List.map_append,List.map_append];rfl) | exact eqR (by rw[hst,List.map_append];rfl)
   ·rw[if_neg (by rw[his];decide)] at hst
    refine⟨by omega,2+1,by omega,(by dsimp only;omega),?_⟩
    refine⟨?_,?_,rfl⟩<;>repeat' (first | exact True.intro | with_reducible rfl | exact rfl | refine And.intro ?_ ?_)
    all_goals exact eqR (by rw[hst])
  ·refine⟨⟨by omega,by omega⟩,?_⟩
   refine EvIf.mk (fun his=>?_) fun his=>?_
   ·rw[if_pos his] at hst
    repeat' first
     | (refine(Fs _ _).cal fun q hq=>?_;subst hq)
     | (refine EvRoom.mk (by simp;omega) ?_)
     | (refine And.intro ?_ ?_)
    all_goals
     refine⟨by omega,3+1,by omega,(by dsimp only;omega),?_⟩
     refine⟨?_,?_,rfl⟩<;>repeat' (first | exact True.intro | with_reducible rfl | exact rfl | refine And.intro ?_ ?_)
     all_goals first | exact eqR (by rw[hst,List.map_append,List.map_append];rfl) | exact eqR (by rw[hst,List.map_append];rfl)
   ·rw[if_neg (by rw[his];decide)] at hst
    refine⟨by omega,3+1,by omega,(by dsimp only;omega),?_⟩
    refine⟨?_,?_,rfl⟩<;>repeat' (first | exact True.intro | with_reducible rfl | exact rfl | refine And.intro ?_ ?_)
    all_goals exact eqR (by rw[hst])
  ·refine⟨⟨by omega,by omega⟩,?_⟩
   refine EvIf.mk (fun his=>?_) fun his=>?_
   ·rw[if_pos his] at hst
    repeat' first
     | (refine(Fs _ _).cal fun q hq=>?_;subst hq)
     | (refine EvRoom.mk (by simp;omega) ?_)
     | (refine And.intro ?_ ?_)
    all_goals
     refine⟨by omega,4+1,by omega,(by dsimp only;omega),?_⟩
     refine⟨?_,?_,rfl⟩<;>repeat' (first | exact True.intro | with_reducible rfl | exact rfl | refine And.intro ?_ ?_)
     all_goals first | exact eqR (by rw[hst,List.map_append,List.map_append];rfl) | exact eqR (by rw[hst,List.map_append];rfl)
   ·rw[if_neg (by rw[his];decide)] at hst
    refine⟨by omega,4+1,by omega,(by dsimp only;omega),?_⟩
    refine⟨?_,?_,rfl⟩<;>repeat' (first | exact True.intro | with_reducible rfl | exact rfl | refine And.intro ?_ ?_)
    all_goals exact eqR (by rw[hst])
  ·refine⟨⟨by omega,by omega⟩,?_⟩
   refine EvIf.mk (fun his=>?_) fun his=>?_
   ·rw[if_pos his] at hst
    repeat' first
     | (refine(Fs _ _).cal fun q hq=>?_;subst hq)
     | (refine EvRoom.mk (by simp;omega) ?_)
     | (refine And.intro ?_ ?_)
    all_goals
     refine⟨by omega,5+1,by omega,(by dsimp only;omega),?_⟩
     refine⟨?_,?_,rfl⟩<;>repeat' (first | exact True.intro | with_reducible rfl | exact rfl | refine And.intro ?_ ?_)
     all_goals first | exact eqR (by rw[hst,List.map_append,List.map_append];rfl) | exact eqR (by rw[hst,List.map_append];rfl)
   ·rw[if_neg (by rw[his];decide)] at hst
    refine⟨by omega,5+1,by omega,(by dsimp only;omega),?_⟩
    refine⟨?_,?_,rfl⟩<;>repeat' (first | exact True.intro | with_reducible rfl | exact rfl | refine And.intro ?_ ?_)
    all_goals exact eqR (by rw[hst])
  ·refine⟨⟨by omega,by omega⟩,?_⟩
   refine EvIf.mk (fun his=>?_) fun his=>?_
   ·rw[if_pos his] at hst
    repeat' first
     | (refine(Fs _ _).cal fun q hq=>?_;subst hq)
     | (refine EvRoom.mk (by simp;omega) ?_)
     | (refine And.intro ?_ ?_)
    all_goals
     refine⟨by omega,6+1,by omega,(by dsimp only;omega),?_⟩
     refine⟨?_,?_,rfl⟩<;>repeat' (first | exact True.intro | with_reducible rfl | exact rfl | refine And.intro ?_ ?_)
     all_goals first | exact eqR (by rw[hst,List.map_append,List.map_append];rfl) | exact eqR (by rw[hst,List.map_append];rfl)
   ·rw[if_neg (by rw[his];decide)] at hst
    refine⟨by omega,6+1,by omega,(by dsimp only;omega),?_⟩
    refine⟨?_,?_,rfl⟩<;>repeat' (first | exact True.intro | with_reducible rfl | exact rfl | refine And.intro ?_ ?_)
    all_goals exact eqR (by rw[hst])
 ·have hi2:i=n.many:=by omega
  subst hi2
  have hjl:=Z1x n n.many
  refine(Tx n.many).cal fun q hq=>?_
  subst hq
  refine EvIf.dec (fun hq=>?_) fun hq=>?_
  ·rw[List.length_map,List.length_map] at hq
   have hq:((B5 n).length:Int) < Am n.many:=hq
   have eB:Br n=n:=by unfold Br;rw[if_pos hq]
   rw[if_pos hq,eB]
   exact .inl (A1 (oBs n b e) [] (by exact RL5) rfl ⟨_,rfl⟩ rfl rfl ⟨rfl,rfl⟩)
  ·rw[List.length_map,List.length_map] at hq
   have hq:¬((B5 n).length:Int) < Am n.many:=hq
   rw[if_neg hq]
   have hq1:1≤Am n.many:=by unfold Am Bh;rw[if_pos (by simp;omega)];omega
   obtain⟨j,b0,hjb,eb⟩:=Z0i (n:=n) (by omega)
   refine(Zb0 ((B5 n).map mkJ) (by rw[List.length_map];unfold B5;omega)).cal fun q hq=>?_
   subst hq
   have hlt:(M0 ((B5 n).map mkJ)).toNat < (B5 n).length:=(List.getElem?_eq_some_iff.1 hjb).1
   refine⟨⟨b0,by rw[List.length_map];show _ < ((B5 n).length:Int);omega⟩,?_⟩
   refine EvIdx.at (f:=fun j:RJ=>[G.sl (j.l.map enE)]) hjb ?_
   obtain⟨k,hk,ej⟩:=Z9c (List.mem_of_getElem? hjb)
   have hl:j.l.length≤150:=by rw[ej];exact hj k (by omega)
   clear ej hk k hjb hjl hlt b0
   refine EvCall.gh (.close (oBs n b e) [] (by exact RL5) ⟨_,rfl⟩ rfl (.done (.same ((Z13 n b e hw n.pmd j.l (by omega)).cal fun q rs hq=>?_))))
   obtain⟨rfl,rfl⟩:=hq
   by_cases ha:Do n n.pmd j.l=true
   ·rw[ha]
    have eN:Br n=Cp (Ao (Dc (C8 n n.pmd j.l)) ⟨3,n.pmd,0,0,j.l⟩):=by unfold Br;rw[if_neg hq,eb,if_pos ha]
    rw[eN]
    obtain⟨st,out,dead,eA,hol⟩:=Hw n n.pmd j.l
    rw[eA]
    clear eN eA ha eb hq hq1
    obtain⟨self,many,pmd,normal,log,cmt,lds,std,jns,first,aks,hrd,out0,dead0,st0⟩:=n
    dsimp only at h0 h hs hw hj ho hol
    obtain⟨jj,jn,jl⟩:=j
    dsimp only at hl
    dsimp only
    generalize min cmt (A5 jl)=cm
    clear hj
    refine .opn 0 _ _ _ rfl rfl rfl (.done ?_)
    refine EvIf.mk (fun h=>absurd h (by decide)) fun _=>?_
    have hs7:self=0∨self=1∨self=2∨self=3∨self=4∨self=5∨self=6:=by omega
    rcases hs7 with rfl | rfl | rfl | rfl | rfl | rfl | rfl
    ·refine⟨⟨Int.natCast_nonneg 0,by show((0:Nat):Int) < ((7:Nat):Int);decide⟩,?_⟩
     have eS:Dc ⟨0,many,pmd,pmd,jl,cm,lds,std,jns,first,aks,hrd,out,dead,st⟩=⟨0,many,pmd,pmd,jl,cm,lds,true,jns,A5 jl,fun i=>if i=0 then A5 jl else 0,fun _=>false,out,dead,st⟩:=rfl
     rw[eS]
     have hS:=Fq ⟨0,many,pmd,pmd,jl,cm,lds,true,jns,A5 jl,fun i=>if i=0 then A5 jl else 0,fun _=>false,out,dead,st⟩ (cl (oLs st e)) ⟨3,pmd,0,0,jl⟩ (.oag [gI 3,gI pmd,gI 0,gI 0,.osl 1]) rfl (by show jl.length≤_;omega) (by show many≤100;omega) (by show out.length≤_;omega)
     obtain⟨o,hs⟩:=(A2 ⟨0,many,pmd,pmd,jl,cm,lds,true,jns,A5 jl,fun i=>if i=0 then A5 jl else 0,fun _=>false,out,dead,st⟩ ⟨3,pmd,0,0,jl⟩).to
     have hol2:o.length≤out.length+many:=by
      have:=A9 ⟨0,many,pmd,pmd,jl,cm,lds,true,jns,A5 jl,fun i=>if i=0 then A5 jl else 0,fun _=>false,out,dead,st⟩ ⟨3,pmd,0,0,jl⟩
      rw[hs] at this
      exact this
     rw[hs] at hS⊢
     refine EvCall.gh (.seen 0 _ _ rfl (.done (.same (hS.cal fun q rs hq=>?_))))
     obtain⟨rfl,rfl⟩:=hq
     refine .done ?_
     refine EvCall.gh (.close (oAs ⟨0,many,pmd,pmd,jl,cm,lds,true,jns,A5 jl,fun i=>if i=0 then A5 jl else 0,fun _=>false,o,dead,st⟩ b e) [(1,7),(2,8),(3,11),(4,10)] (by exact RL5) ⟨_,rfl⟩ rfl (.done (.same ((Cl _ b e h0 h (by show o.length≤_;omega)).cal fun q rs hq=>?_))))
     obtain⟨rfl,rfl⟩:=hq
     refine .done ?_
     exact .inl (A7 rfl rfl ⟨rfl,rfl⟩)
    ·refine⟨⟨Int.natCast_nonneg 1,by show((1:Nat):Int) < ((7:Nat):Int);decide⟩,?_⟩
     have eS:Dc ⟨1,many,pmd,pmd,jl,cm,lds,std,jns,first,aks,hrd,out,dead,st⟩=⟨1,many,pmd,pmd,jl,cm,lds,true,jns,A5 jl,fun i=>if i=1 then A5 jl else 0,fun _=>false,out,dead,st⟩:=rfl
     rw[eS]
     have hS:=Fq ⟨1,many,pmd,pmd,jl,cm,lds,true,jns,A5 jl,fun i=>if i=1 then A5 jl else 0,fun _=>false,out,dead,st⟩ (cl (oLs st e)) ⟨3,pmd,0,0,jl⟩ (.oag [gI 3,gI pmd,gI 0,gI 0,.osl 1]) rfl (by show jl.length≤_;omega) (by show many≤100;omega) (by show out.length≤_;omega)
     obtain⟨o,hs⟩:=(A2 ⟨1,many,pmd,pmd,jl,cm,lds,true,jns,A5 jl,fun i=>if i=1 then A5 jl else 0,fun _=>false,out,dead,st⟩ ⟨3,pmd,0,0,jl⟩).to
     have hol2:o.length≤out.length+many:=by
      have:=A9 ⟨1,many,pmd,pmd,jl,cm,lds,true,jns,A5 jl,fun i=>if i=1 then A5 jl else 0,fun _=>false,out,dead,st⟩ ⟨3,pmd,0,0,jl⟩
      rw[hs] at this
      exact this
     rw[hs] at hS⊢
     refine EvCall.gh (.seen 0 _ _ rfl (.done (.same (hS.cal fun q rs hq=>?_))))
     obtain⟨rfl,rfl⟩:=hq
     refine .done ?_
     refine EvCall.gh (.close (oAs ⟨1,many,pmd,pmd,jl,cm,lds,true,jns,A5 jl,fun i=>if i=1 then A5 jl else 0,fun _=>false,o,dead,st⟩ b e) [(1,7),(2,8),(3,11),(4,10)] (by exact RL5) ⟨_,rfl⟩ rfl (.done (.same ((Cl _ b e h0 h (by show o.length≤_;omega)).cal fun q rs hq=>?_))))
     obtain⟨rfl,rfl⟩:=hq
     refine .done ?_
     exact .inl (A7 rfl rfl ⟨rfl,rfl⟩)
    ·refine⟨⟨Int.natCast_nonneg 2,by show((2:Nat):Int) < ((7:Nat):Int);decide⟩,?_⟩
     have eS:Dc ⟨2,many,pmd,pmd,jl,cm,lds,std,jns,first,aks,hrd,out,dead,st⟩=⟨2,many,pmd,pmd,jl,cm,lds,true,jns,A5 jl,fun i=>if i=2 then A5 jl else 0,fun _=>false,out,dead,st⟩:=rfl
     rw[eS]
     have hS:=Fq ⟨2,many,pmd,pmd,jl,cm,lds,true,jns,A5 jl,fun i=>if i=2 then A5 jl else 0,fun _=>false,out,dead,st⟩ (cl (oLs st e)) ⟨3,pmd,0,0,jl⟩ (.oag [gI 3,gI pmd,gI 0,gI 0,.osl 1]) rfl (by show jl.length≤_;omega) (by show many≤100;omega) (by show out.length≤_;omega)
     obtain⟨o,hs⟩:=(A2 ⟨2,many,pmd,pmd,jl,cm,lds,true,jns,A5 jl,fun i=>if i=2 then A5 jl else 0,fun _=>false,out,dead,st⟩ ⟨3,pmd,0,0,jl⟩).to
     have hol2:o.length≤out.length+many:=by
      have:=A9 ⟨2,many,pmd,pmd,jl,cm,lds,true,jns,A5 jl,fun i=>if i=2 then A5 jl else 0,fun _=>false,out,dead,st⟩ ⟨3,pmd,0,0,jl⟩
      rw[hs] at this
      exact this
     rw[hs] at hS⊢
     refine EvCall.gh (.seen 0 _ _ rfl (.done (.same (hS.cal fun q rs hq=>?_))))
     obtain⟨rfl,rfl⟩:=hq
     refine .done ?_
     refine EvCall.gh (.close (oAs ⟨2,many,pmd,pmd,jl,cm,lds,true,jns,A5 jl,fun i=>if i=2 then A5 jl else 0,fun _=>false,o,dead,st⟩ b e) [(1,7),(2,8),(3,11),(4,10)] (by exact RL5) ⟨_,rfl⟩ rfl (.done (.same ((Cl _ b e h0 h (by show o.length≤_;omega)).cal fun q rs hq=>?_))))
     obtain⟨rfl,rfl⟩:=hq
     refine .done ?_
     exact .inl (A7 rfl rfl ⟨rfl,rfl⟩)
    ·refine⟨⟨Int.natCast_nonneg 3,by show((3:Nat):Int) < ((7:Nat):Int);decide⟩,?_⟩
     have eS:Dc ⟨3,many,pmd,pmd,jl,cm,lds,std,jns,first,aks,hrd,out,dead,st⟩=⟨3,many,pmd,pmd,jl,cm,lds,true,jns,A5 jl,fun i=>if i=3 then A5 jl else 0,fun _=>false,out,dead,st⟩:=rfl
     rw[eS]
     have hS:=Fq ⟨3,many,pmd,pmd,jl,cm,lds,true,jns,A5 jl,fun i=>if i=3 then A5 jl else 0,fun _=>false,out,dead,st⟩ (cl (oLs st e)) ⟨3,pmd,0,0,jl⟩ (.oag [gI 3,gI pmd,gI 0,gI 0,.osl 1]) rfl (by show jl.length≤_;omega) (by show many≤100;omega) (by show out.length≤_;omega)
     obtain⟨o,hs⟩:=(A2 ⟨3,many,pmd,pmd,jl,cm,lds,true,jns,A5 jl,fun i=>if i=3 then A5 jl else 0,fun _=>false,out,dead,st⟩ ⟨3,pmd,0,0,jl⟩).to
     have hol2:o.length≤out.length+many:=by
      have:=A9 ⟨3,many,pmd,pmd,jl,cm,lds,true,jns,A5 jl,fun i=>if i=3 then A5 jl else 0,fun _=>false,out,dead,st⟩ ⟨3,pmd,0,0,jl⟩
      rw[hs] at this
      exact this
     rw[hs] at hS⊢
     refine EvCall.gh (.seen 0 _ _ rfl (.done (.same (hS.cal fun q rs hq=>?_))))
     obtain⟨rfl,rfl⟩:=hq
     refine .done ?_
     refine EvCall.gh (.close (oAs ⟨3,many,pmd,pmd,jl,cm,lds,true,jns,A5 jl,fun i=>if i=3 then A5 jl else 0,fun _=>false,o,dead,st⟩ b e) [(1,7),(2,8),(3,11),(4,10)] (by exact RL5) ⟨_,rfl⟩ rfl (.done (.same ((Cl _ b e h0 h (by show o.length≤_;omega)).cal fun q rs hq=>?_))))
     obtain⟨rfl,rfl⟩:=hq
     refine .done ?_
     exact .inl (A7 rfl rfl ⟨rfl,rfl⟩)
    ·refine⟨⟨Int.natCast_nonneg 4,by show((4:Nat):Int) < ((7:Nat):Int);decide⟩,?_⟩
     have eS:Dc ⟨4,many,pmd,pmd,jl,cm,lds,std,jns,first,aks,hrd,out,dead,st⟩=⟨4,many,pmd,pmd,jl,cm,lds,true,jns,A5 jl,fun i=>if i=4 then A5 jl else 0,fun _=>false,out,dead,st⟩:=rfl
     rw[eS]
     have hS:=Fq ⟨4,many,pmd,pmd,jl,cm,lds,true,jns,A5 jl,fun i=>if i=4 then A5 jl else 0,fun _=>false,out,dead,st⟩ (cl (oLs st e)) ⟨3,pmd,0,0,jl⟩ (.oag [gI 3,gI pmd,gI 0,gI 0,.osl 1]) rfl (by show jl.length≤_;omega) (by show many≤100;omega) (by show out.length≤_;omega)
     obtain⟨o,hs⟩:=(A2 ⟨4,many,pmd,pmd,jl,cm,lds,true,jns,A5 jl,fun i=>if i=4 then A5 jl else 0,fun _=>false,out,dead,st⟩ ⟨3,pmd,0,0,jl⟩).to
     have hol2:o.length≤out.length+many:=by
      have:=A9 ⟨4,many,pmd,pmd,jl,cm,lds,true,jns,A5 jl,fun i=>if i=4 then A5 jl else 0,fun _=>false,out,dead,st⟩ ⟨3,pmd,0,0,jl⟩
      rw[hs] at this
      exact this
     rw[hs] at hS⊢
     refine EvCall.gh (.seen 0 _ _ rfl (.done (.same (hS.cal fun q rs hq=>?_))))
     obtain⟨rfl,rfl⟩:=hq
     refine .done ?_
     refine EvCall.gh (.close (oAs ⟨4,many,pmd,pmd,jl,cm,lds,true,jns,A5 jl,fun i=>if i=4 then A5 jl else 0,fun _=>false,o,dead,st⟩ b e) [(1,7),(2,8),(3,11),(4,10)] (by exact RL5) ⟨_,rfl⟩ rfl (.done (.same ((Cl _ b e h0 h (by show o.length≤_;omega)).cal fun q rs hq=>?_))))
     obtain⟨rfl,rfl⟩:=hq
     refine .done ?_
     exact .inl (A7 rfl rfl ⟨rfl,rfl⟩)
    ·refine⟨⟨Int.natCast_nonneg 5,by show((5:Nat):Int) < ((7:Nat):Int);decide⟩,?_⟩
     have eS:Dc ⟨5,many,pmd,pmd,jl,cm,lds,std,jns,first,aks,hrd,out,dead,st⟩=⟨5,many,pmd,pmd,jl,cm,lds,true,jns,A5 jl,fun i=>if i=5 then A5 jl else 0,fun _=>false,out,dead,st⟩:=rfl
     rw[eS]
     have hS:=Fq ⟨5,many,pmd,pmd,jl,cm,lds,true,jns,A5 jl,fun i=>if i=5 then A5 jl else 0,fun _=>false,out,dead,st⟩ (cl (oLs st e)) ⟨3,pmd,0,0,jl⟩ (.oag [gI 3,gI pmd,gI 0,gI 0,.osl 1]) rfl (by show jl.length≤_;omega) (by show many≤100;omega) (by show out.length≤_;omega)
     obtain⟨o,hs⟩:=(A2 ⟨5,many,pmd,pmd,jl,cm,lds,true,jns,A5 jl,fun i=>if i=5 then A5 jl else 0,fun _=>false,out,dead,st⟩ ⟨3,pmd,0,0,jl⟩).to
     have hol2:o.length≤out.length+many:=by
      have:=A9 ⟨5,many,pmd,pmd,jl,cm,lds,true,jns,A5 jl,fun i=>if i=5 then A5 jl else 0,fun _=>false,out,dead,st⟩ ⟨3,pmd,0,0,jl⟩
      rw[hs] at this
      exact this
     rw[hs] at hS⊢
     refine EvCall.gh (.seen 0 _ _ rfl (.done (.same (hS.cal fun q rs hq=>?_))))
     obtain⟨rfl,rfl⟩:=hq
     refine .done ?_
     refine EvCall.gh (.close (oAs ⟨5,many,pmd,pmd,jl,cm,lds,true,jns,A5 jl,fun i=>if i=5 then A5 jl else 0,fun _=>false,o,dead,st⟩ b e) [(1,7),(2,8),(3,11),(4,10)] (by exact RL5) ⟨_,rfl⟩ rfl (.done (.same ((Cl _ b e h0 h (by show o.length≤_;omega)).cal fun q rs hq=>?_))))
     obtain⟨rfl,rfl⟩:=hq
     refine .done ?_
     exact .inl (A7 rfl rfl ⟨rfl,rfl⟩)
    ·refine⟨⟨Int.natCast_nonneg 6,by show((6:Nat):Int) < ((7:Nat):Int);decide⟩,?_⟩
     have eS:Dc ⟨6,many,pmd,pmd,jl,cm,lds,std,jns,first,aks,hrd,out,dead,st⟩=⟨6,many,pmd,pmd,jl,cm,lds,true,jns,A5 jl,fun i=>if i=6 then A5 jl else 0,fun _=>false,out,dead,st⟩:=rfl
     rw[eS]
     have hS:=Fq ⟨6,many,pmd,pmd,jl,cm,lds,true,jns,A5 jl,fun i=>if i=6 then A5 jl else 0,fun _=>false,out,dead,st⟩ (cl (oLs st e)) ⟨3,pmd,0,0,jl⟩ (.oag [gI 3,gI pmd,gI 0,gI 0,.osl 1]) rfl (by show jl.length≤_;omega) (by show many≤100;omega) (by show out.length≤_;omega)
     obtain⟨o,hs⟩:=(A2 ⟨6,many,pmd,pmd,jl,cm,lds,true,jns,A5 jl,fun i=>if i=6 then A5 jl else 0,fun _=>false,out,dead,st⟩ ⟨3,pmd,0,0,jl⟩).to
     have hol2:o.length≤out.length+many:=by
      have:=A9 ⟨6,many,pmd,pmd,jl,cm,lds,true,jns,A5 jl,fun i=>if i=6 then A5 jl else 0,fun _=>false,out,dead,st⟩ ⟨3,pmd,0,0,jl⟩
      rw[hs] at this
      exact this
     rw[hs] at hS⊢
     refine EvCall.gh (.seen 0 _ _ rfl (.done (.same (hS.cal fun q rs hq=>?_))))
     obtain⟨rfl,rfl⟩:=hq
     refine .done ?_
     refine EvCall.gh (.close (oAs ⟨6,many,pmd,pmd,jl,cm,lds,true,jns,A5 jl,fun i=>if i=6 then A5 jl else 0,fun _=>false,o,dead,st⟩ b e) [(1,7),(2,8),(3,11),(4,10)] (by exact RL5) ⟨_,rfl⟩ rfl (.done (.same ((Cl _ b e h0 h (by show o.length≤_;omega)).cal fun q rs hq=>?_))))
     obtain⟨rfl,rfl⟩:=hq
     refine .done ?_
     exact .inl (A7 rfl rfl ⟨rfl,rfl⟩)
   ·rw[Bool.not_eq_true] at ha
    have eN:Br n=C8 n n.pmd j.l:=by unfold Br;rw[if_neg hq,eb,if_neg (by rw[ha];decide)]
    rw[ha,eN]
    refine .done ?_
    refine EvIf.mk (fun _=>?_) fun h=>absurd h (by decide)
    exact .inl (A7 rfl rfl ⟨rfl,rfl⟩)
end Go.Proofs.YtihfaocdpmmooaaGreat
