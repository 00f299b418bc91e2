
import Derived.Test.YtihfaocdpmmooaaGreatNM1
namespace Go.Proofs.YtihfaocdpmmooaaGreat
open Go.RowKit
set_option maxRecDepth 100000
abbrev tMk:Nat:=162
abbrev tEs:Nat:=22
theorem Ge (v:Int)(l:List REnt):FnV Tryz.prog 121 [gI v,.sl (l.map enE)] fun g=>g=.agg [gI v,gI (A3 l)]:=by refine fnG Tryz.func121 ?_;exact rfl
theorem Z8r (n:PN)(i:Nat):jlN n (i+1)=if(n.jns i).is=true then jlN n i++[n.jns i] else jlN n i:=by
 unfold jlN;rw[List.range_succ,ao,List.filter_append];show _++List.filter RJ.is [n.jns i]=_;cases h:(n.jns i).is with
 | true=>rw[List.filter_cons_of_pos h];rfl
 | false=>rw[List.filter_cons_of_neg (by rw[h];decide)];simp
theorem Z50 (n:PN)(i:Nat):(jlN n i).length≤i:=by unfold jlN;refine ca (List.length_filter_le _ _) ?_;simp
theorem Zd0 {n:PN}{i:Nat}{j:RJ}(h:j∈jlN n i):∃k,k < i∧j=n.jns k:=by unfold jlN at h;obtain⟨k,a,rfl⟩:=ba.1 (List.mem_filter.1 h).1;exact⟨k,List.mem_range.1 a,rfl⟩
theorem T6 {n:PN}(d:1≤(B7 n).length):∃j,0≤Gb ((B7 n).map mkJ)∧(B7 n)[(Gb ((B7 n).map mkJ)).toNat]?=some j∧C8 n=j.l:=by obtain⟨p,c⟩:=Xl ((B7 n).map mkJ) ((B7 n).map mkJ).length (by rw[aa];exact d) (af _);have a:=c.best;obtain⟨b,-⟩:=c;rw[aa] at b;have e:(B7 n)[p]?=some (B7 n)[p]:=ab b;refine⟨(B7 n)[p],by rw[a];omega,by rw[a,az];exact e,?_⟩;unfold C8;rw[a,az,e];rfl
theorem X4 {f:PN→Nat→PN}{c:Nat}(h:∀n i,(f n i).out.length≤n.out.length+c)(n:PN):∀k,(I8 f n k).out.length≤n.out.length+c * k
 | 0=>by simp[I8]
 | k+1=>by have a:=X4 h n k;have b:=h (I8 f n k) k;rw[Di,Nat.mul_succ];split<;>omega
theorem Ab (n:PN)(m:RM):(An n m).out.length≤n.out.length+n.many:=by have:=X4 (f:=fun n i=>Ao n i m) (c:=1) (fun n i=>Dr n i m) n n.many;unfold An;omega
theorem Mm (n:PN)(a:Int):D8 n a={n with out:=(D8 n a).out,dead:=(D8 n a).dead}∧(D8 n a).out.length≤n.out.length:=by
 unfold D8;split
 ·exact⟨rfl,ah _⟩
 ·exact⟨rfl,af _⟩
theorem Iy (n:PN)(v:Int)(l:List REnt):∃st out dead,Ba n v l=⟨n.self,n.many,v,v,l,min n.cmt (A3 l),n.lds,n.std,n.jns,n.first,n.aks,n.hrd,out,dead,st⟩∧out.length≤n.out.length:=by obtain⟨a,b⟩:=Mm {B6 n v l with st:=Eo n.st (C0 (B6 n v l))} (Id n.st (C0 (B6 n v l)));exact⟨Eo n.st (C0 (B6 n v l)),(Ba n v l).out,(Ba n v l).dead,a,b⟩
set_option maxHeartbeats 4000000 in
theorem Zbp (n:PN)(b e:Nat)(t:1≤n.many)(h:n.many≤7)(m:n.self < n.many)(J:WK n.st)(y:∀i,i < 7→(n.jns i).l.length≤150)(Q:n.out.length≤800000):FnO Tryz.prog 83 [.ptr 0 0] (cB n b e) fun g rs=>g=.tup []∧rs=if((B7 n).length:Int) < Ag n.many then cB (B2 n) b e else cA (B2 n) b e:=by
 refine Bq Tryz.func83 (A6 (O:=oBs n b e) (n0:=5) rfl) ?_;refine⟨⟨by omega,by omega,by omega⟩,?_⟩;refine As [0,13,14] [0,1,2,3,4] (fun i:Nat=>[(15,gI i),(2,.osl 5),(3,.osl 6)]) (fun i=>[(5,.slc (((jlN n i).map mkJ).map Zct) tMk 2),(6,.slc ((jlN n i).map fun j=>[.sl (j.l.map enE)]) tEs 1)]) (fun i=>i≤n.many) (fun i=>n.many - i) 0 (ah _) ⟨⟨rfl,rfl⟩,⟨rfl,rfl⟩,⟨rfl,rfl⟩,trivial⟩ (by exact RL2) rfl fun i hi=>?_;refine dg (fun u=>?_) fun R=>?_
 ·have u:i < n.many:=by omega
  have a:=Z8r n i;have v:=Z50 n i;have A:i=0∨i=1∨i=2∨i=3∨i=4∨i=5∨i=6:=by omega
  rcases A with rfl | rfl | rfl | rfl | rfl | rfl | rfl
  ·refine⟨⟨by omega,by omega⟩,?_⟩;refine dk (fun d=>?_) fun d=>?_
   ·rw[dc d] at a
    repeat' first
     | (refine(Ge _ _).cal fun q c=>?_;subst c)
     | (refine EvRoom.mk (by simp;omega) ?_)
     | (refine And.intro ?_ ?_)
    all_goals
     refine⟨by omega,0+1,by omega,(by dsimp only;omega),?_⟩;refine⟨?_,?_,rfl⟩<;>repeat' (first|exact trivial|with_reducible rfl|exact rfl|refine And.intro ?_ ?_)
     all_goals first | exact eqR (by rw[a,ao,ao];rfl) | exact eqR (by rw[a,ao];rfl)
   ·rw[db (by rw[d];decide)] at a;refine⟨by omega,0+1,by omega,(by dsimp only;omega),?_⟩;refine⟨?_,?_,rfl⟩<;>repeat' (first|exact trivial|with_reducible rfl|exact rfl|refine And.intro ?_ ?_)
    all_goals exact eqR (by rw[a])
  ·refine⟨⟨by omega,by omega⟩,?_⟩;refine dk (fun d=>?_) fun d=>?_
   ·rw[dc d] at a
    repeat' first
     | (refine(Ge _ _).cal fun q c=>?_;subst c)
     | (refine EvRoom.mk (by simp;omega) ?_)
     | (refine And.intro ?_ ?_)
    all_goals
     refine⟨by omega,1+1,by omega,(by dsimp only;omega),?_⟩;refine⟨?_,?_,rfl⟩<;>repeat' (first|exact trivial|with_reducible rfl|exact rfl|refine And.intro ?_ ?_)
     all_goals first | exact eqR (by rw[a,ao,ao];rfl) | exact eqR (by rw[a,ao];rfl)
   ·rw[db (by rw[d];decide)] at a;refine⟨by omega,1+1,by omega,(by dsimp only;omega),?_⟩;refine⟨?_,?_,rfl⟩<;>repeat' (first|exact trivial|with_reducible rfl|exact rfl|refine And.intro ?_ ?_)
    all_goals exact eqR (by rw[a])
  ·refine⟨⟨by omega,by omega⟩,?_⟩;refine dk (fun d=>?_) fun d=>?_
   ·rw[dc d] at a
    repeat' first
     | (refine(Ge _ _).cal fun q c=>?_;subst c)
     | (refine EvRoom.mk (by simp;omega) ?_)
     | (refine And.intro ?_ ?_)
    all_goals
     refine⟨by omega,2+1,by omega,(by dsimp only;omega),?_⟩;refine⟨?_,?_,rfl⟩<;>repeat' (first|exact trivial|with_reducible rfl|exact rfl|refine And.intro ?_ ?_)
     all_goals first | exact eqR (by rw[a,ao,ao];rfl) | exact eqR (by rw[a,ao];rfl)
   ·rw[db (by rw[d];decide)] at a;refine⟨by omega,2+1,by omega,(by dsimp only;omega),?_⟩;refine⟨?_,?_,rfl⟩<;>repeat' (first|exact trivial|with_reducible rfl|exact rfl|refine And.intro ?_ ?_)
    all_goals exact eqR (by rw[a])
  ·refine⟨⟨by omega,by omega⟩,?_⟩;refine dk (fun d=>?_) fun d=>?_
   ·rw[dc d] at a
    repeat' first
     | (refine(Ge _ _).cal fun q c=>?_;subst c)
     | (refine EvRoom.mk (by simp;omega) ?_)
     | (refine And.intro ?_ ?_)
    all_goals
     refine⟨by omega,3+1,by omega,(by dsimp only;omega),?_⟩;refine⟨?_,?_,rfl⟩<;>repeat' (first|exact trivial|with_reducible rfl|exact rfl|refine And.intro ?_ ?_)
     all_goals first | exact eqR (by rw[a,ao,ao];rfl) | exact eqR (by rw[a,ao];rfl)
   ·rw[db (by rw[d];decide)] at a;refine⟨by omega,3+1,by omega,(by dsimp only;omega),?_⟩;refine⟨?_,?_,rfl⟩<;>repeat' (first|exact trivial|with_reducible rfl|exact rfl|refine And.intro ?_ ?_)
    all_goals exact eqR (by rw[a])
  ·refine⟨⟨by omega,by omega⟩,?_⟩;refine dk (fun d=>?_) fun d=>?_
   ·rw[dc d] at a
    repeat' first
     | (refine(Ge _ _).cal fun q c=>?_;subst c)
     | (refine EvRoom.mk (by simp;omega) ?_)
     | (refine And.intro ?_ ?_)
    all_goals
     refine⟨by omega,4+1,by omega,(by dsimp only;omega),?_⟩;refine⟨?_,?_,rfl⟩<;>repeat' (first|exact trivial|with_reducible rfl|exact rfl|refine And.intro ?_ ?_)
     all_goals first | exact eqR (by rw[a,ao,ao];rfl) | exact eqR (by rw[a,ao];rfl)
   ·rw[db (by rw[d];decide)] at a;refine⟨by omega,4+1,by omega,(by dsimp only;omega),?_⟩;refine⟨?_,?_,rfl⟩<;>repeat' (first|exact trivial|with_reducible rfl|exact rfl|refine And.intro ?_ ?_)
    all_goals exact eqR (by rw[a])
  ·refine⟨⟨by omega,by omega⟩,?_⟩;refine dk (fun d=>?_) fun d=>?_
   ·rw[dc d] at a
    repeat' first
     | (refine(Ge _ _).cal fun q c=>?_;subst c)
     | (refine EvRoom.mk (by simp;omega) ?_)
     | (refine And.intro ?_ ?_)
    all_goals
     refine⟨by omega,5+1,by omega,(by dsimp only;omega),?_⟩;refine⟨?_,?_,rfl⟩<;>repeat' (first|exact trivial|with_reducible rfl|exact rfl|refine And.intro ?_ ?_)
     all_goals first | exact eqR (by rw[a,ao,ao];rfl) | exact eqR (by rw[a,ao];rfl)
   ·rw[db (by rw[d];decide)] at a;refine⟨by omega,5+1,by omega,(by dsimp only;omega),?_⟩;refine⟨?_,?_,rfl⟩<;>repeat' (first|exact trivial|with_reducible rfl|exact rfl|refine And.intro ?_ ?_)
    all_goals exact eqR (by rw[a])
  ·refine⟨⟨by omega,by omega⟩,?_⟩;refine dk (fun d=>?_) fun d=>?_
   ·rw[dc d] at a
    repeat' first
     | (refine(Ge _ _).cal fun q c=>?_;subst c)
     | (refine EvRoom.mk (by simp;omega) ?_)
     | (refine And.intro ?_ ?_)
    all_goals
     refine⟨by omega,6+1,by omega,(by dsimp only;omega),?_⟩;refine⟨?_,?_,rfl⟩<;>repeat' (first|exact trivial|with_reducible rfl|exact rfl|refine And.intro ?_ ?_)
     all_goals first | exact eqR (by rw[a,ao,ao];rfl) | exact eqR (by rw[a,ao];rfl)
   ·rw[db (by rw[d];decide)] at a;refine⟨by omega,6+1,by omega,(by dsimp only;omega),?_⟩;refine⟨?_,?_,rfl⟩<;>repeat' (first|exact trivial|with_reducible rfl|exact rfl|refine And.intro ?_ ?_)
    all_goals exact eqR (by rw[a])
 ·have z:i=n.many:=by omega
  subst z;have v:=Z50 n n.many;refine(Xq n.many).cal fun q c=>?_;subst c;refine dg (fun c=>?_) fun c=>?_
  ·rw[aa,aa] at c;have c:((B7 n).length:Int) < Ag n.many:=c;have M:B2 n=n:=by unfold B2;rw[dc c]
   rw[dc c,M];exact .inl (A1 (oBs n b e) [] (by exact RL5) rfl ⟨_,rfl⟩ rfl rfl ⟨rfl,rfl⟩)
  ·rw[aa,aa] at c;have c:¬((B7 n).length:Int) < Ag n.many:=c;rw[db c];have D:1≤Ag n.many:=by unfold Ag Bw;rw[dc (by simp;omega)];omega
   obtain⟨j,I,s,B⟩:=T6 (n:=n) (by omega);refine(Zh0 ((B7 n).map mkJ) (by rw[aa];unfold B7;omega)).cal fun q c=>?_;subst c;have u:(Gb ((B7 n).map mkJ)).toNat < (B7 n).length:=(ac.1 s).1;refine⟨⟨I,by rw[aa];show _ < ((B7 n).length:Int);omega⟩,?_⟩;refine dl (f:=fun j:RJ=>[G.sl (j.l.map enE)]) s ?_;obtain⟨k,N,H⟩:=Zd0 (ae s);have P:j.l.length≤150:=by rw[H];exact y k (by omega)
   clear H N k s v u I;refine dh (.close (oBs n b e) [] (by exact RL5) ⟨_,rfl⟩ rfl (.done (.same ((Z07 n b e J n.pmd j.l (by omega)).cal fun q rs c=>?_))));obtain⟨rfl,rfl⟩:=c;by_cases ha:Bu n n.pmd j.l=true
   ·rw[ha];have w:B2 n=Cj (An (D5 (Ba n n.pmd j.l)) ⟨3,n.pmd,0,0,j.l⟩):=by unfold B2;rw[db c,B,dc ha]
    rw[w];obtain⟨st,out,dead,K,E⟩:=Iy n n.pmd j.l;rw[K];clear w K ha B c D;obtain⟨self,many,pmd,normal,log,cmt,lds,std,jns,first,aks,hrd,F,C,L⟩:=n;dsimp only at t h m J y Q E;obtain⟨S,jn,jl⟩:=j;dsimp only at P;dsimp only;generalize min cmt (A3 jl)=cm;clear y;refine .opn 0 _ _ _ rfl rfl rfl (.done ?_);refine dk (fun h=>de h (by decide)) fun _=>?_;have x:self=0∨self=1∨self=2∨self=3∨self=4∨self=5∨self=6:=by omega
    rcases x with rfl | rfl | rfl | rfl | rfl | rfl | rfl
    ·refine⟨⟨bk 0,by show((0:Nat):Int) < ((7:Nat):Int);decide⟩,?_⟩;have eS:D5 ⟨0,many,pmd,pmd,jl,cm,lds,std,jns,first,aks,hrd,out,dead,st⟩=⟨0,many,pmd,pmd,jl,cm,lds,true,jns,A3 jl,fun i=>if i=0 then A3 jl else 0,fun _=>false,out,dead,st⟩:=rfl;rw[eS];have r:=G9 ⟨0,many,pmd,pmd,jl,cm,lds,true,jns,A3 jl,fun i=>if i=0 then A3 jl else 0,fun _=>false,out,dead,st⟩ (cl (oLs st e)) ⟨3,pmd,0,0,jl⟩ (.oag [gI 3,gI pmd,gI 0,gI 0,.osl 1]) rfl (by show jl.length≤_;omega) (by show many≤100;omega) (by show out.length≤_;omega);obtain⟨o,m⟩:=(A2 ⟨0,many,pmd,pmd,jl,cm,lds,true,jns,A3 jl,fun i=>if i=0 then A3 jl else 0,fun _=>false,out,dead,st⟩ ⟨3,pmd,0,0,jl⟩).to;have p:o.length≤out.length+many:=by
      have:=Ab ⟨0,many,pmd,pmd,jl,cm,lds,true,jns,A3 jl,fun i=>if i=0 then A3 jl else 0,fun _=>false,out,dead,st⟩ ⟨3,pmd,0,0,jl⟩;rw[m] at this;exact this
     rw[m] at r⊢;refine dh (.seen 0 _ _ rfl (.done (.same (r.cal fun q rs c=>?_))));obtain⟨rfl,rfl⟩:=c;refine .done ?_;refine dh (.close (oAs ⟨0,many,pmd,pmd,jl,cm,lds,true,jns,A3 jl,fun i=>if i=0 then A3 jl else 0,fun _=>false,o,dead,st⟩ b e) [(1,7),(2,8),(3,11),(4,10)] (by exact RL5) ⟨_,rfl⟩ rfl (.done (.same ((Dg _ b e t h (by show o.length≤_;omega)).cal fun q rs c=>?_))));obtain⟨rfl,rfl⟩:=c;refine .done ?_;exact .inl (A7 rfl rfl ⟨rfl,rfl⟩)
    ·refine⟨⟨bk 1,by show((1:Nat):Int) < ((7:Nat):Int);decide⟩,?_⟩;have eS:D5 ⟨1,many,pmd,pmd,jl,cm,lds,std,jns,first,aks,hrd,out,dead,st⟩=⟨1,many,pmd,pmd,jl,cm,lds,true,jns,A3 jl,fun i=>if i=1 then A3 jl else 0,fun _=>false,out,dead,st⟩:=rfl;rw[eS];have r:=G9 ⟨1,many,pmd,pmd,jl,cm,lds,true,jns,A3 jl,fun i=>if i=1 then A3 jl else 0,fun _=>false,out,dead,st⟩ (cl (oLs st e)) ⟨3,pmd,0,0,jl⟩ (.oag [gI 3,gI pmd,gI 0,gI 0,.osl 1]) rfl (by show jl.length≤_;omega) (by show many≤100;omega) (by show out.length≤_;omega);obtain⟨o,m⟩:=(A2 ⟨1,many,pmd,pmd,jl,cm,lds,true,jns,A3 jl,fun i=>if i=1 then A3 jl else 0,fun _=>false,out,dead,st⟩ ⟨3,pmd,0,0,jl⟩).to;have p:o.length≤out.length+many:=by
      have:=Ab ⟨1,many,pmd,pmd,jl,cm,lds,true,jns,A3 jl,fun i=>if i=1 then A3 jl else 0,fun _=>false,out,dead,st⟩ ⟨3,pmd,0,0,jl⟩;rw[m] at this;exact this
     rw[m] at r⊢;refine dh (.seen 0 _ _ rfl (.done (.same (r.cal fun q rs c=>?_))));obtain⟨rfl,rfl⟩:=c;refine .done ?_;refine dh (.close (oAs ⟨1,many,pmd,pmd,jl,cm,lds,true,jns,A3 jl,fun i=>if i=1 then A3 jl else 0,fun _=>false,o,dead,st⟩ b e) [(1,7),(2,8),(3,11),(4,10)] (by exact RL5) ⟨_,rfl⟩ rfl (.done (.same ((Dg _ b e t h (by show o.length≤_;omega)).cal fun q rs c=>?_))));obtain⟨rfl,rfl⟩:=c;refine .done ?_;exact .inl (A7 rfl rfl ⟨rfl,rfl⟩)
    ·refine⟨⟨bk 2,by show((2:Nat):Int) < ((7:Nat):Int);decide⟩,?_⟩;have eS:D5 ⟨2,many,pmd,pmd,jl,cm,lds,std,jns,first,aks,hrd,out,dead,st⟩=⟨2,many,pmd,pmd,jl,cm,lds,true,jns,A3 jl,fun i=>if i=2 then A3 jl else 0,fun _=>false,out,dead,st⟩:=rfl;rw[eS];have r:=G9 ⟨2,many,pmd,pmd,jl,cm,lds,true,jns,A3 jl,fun i=>if i=2 then A3 jl else 0,fun _=>false,out,dead,st⟩ (cl (oLs st e)) ⟨3,pmd,0,0,jl⟩ (.oag [gI 3,gI pmd,gI 0,gI 0,.osl 1]) rfl (by show jl.length≤_;omega) (by show many≤100;omega) (by show out.length≤_;omega);obtain⟨o,m⟩:=(A2 ⟨2,many,pmd,pmd,jl,cm,lds,true,jns,A3 jl,fun i=>if i=2 then A3 jl else 0,fun _=>false,out,dead,st⟩ ⟨3,pmd,0,0,jl⟩).to;have p:o.length≤out.length+many:=by
      have:=Ab ⟨2,many,pmd,pmd,jl,cm,lds,true,jns,A3 jl,fun i=>if i=2 then A3 jl else 0,fun _=>false,out,dead,st⟩ ⟨3,pmd,0,0,jl⟩;rw[m] at this;exact this
     rw[m] at r⊢;refine dh (.seen 0 _ _ rfl (.done (.same (r.cal fun q rs c=>?_))));obtain⟨rfl,rfl⟩:=c;refine .done ?_;refine dh (.close (oAs ⟨2,many,pmd,pmd,jl,cm,lds,true,jns,A3 jl,fun i=>if i=2 then A3 jl else 0,fun _=>false,o,dead,st⟩ b e) [(1,7),(2,8),(3,11),(4,10)] (by exact RL5) ⟨_,rfl⟩ rfl (.done (.same ((Dg _ b e t h (by show o.length≤_;omega)).cal fun q rs c=>?_))));obtain⟨rfl,rfl⟩:=c;refine .done ?_;exact .inl (A7 rfl rfl ⟨rfl,rfl⟩)
    ·refine⟨⟨bk 3,by show((3:Nat):Int) < ((7:Nat):Int);decide⟩,?_⟩;have eS:D5 ⟨3,many,pmd,pmd,jl,cm,lds,std,jns,first,aks,hrd,out,dead,st⟩=⟨3,many,pmd,pmd,jl,cm,lds,true,jns,A3 jl,fun i=>if i=3 then A3 jl else 0,fun _=>false,out,dead,st⟩:=rfl;rw[eS];have r:=G9 ⟨3,many,pmd,pmd,jl,cm,lds,true,jns,A3 jl,fun i=>if i=3 then A3 jl else 0,fun _=>false,out,dead,st⟩ (cl (oLs st e)) ⟨3,pmd,0,0,jl⟩ (.oag [gI 3,gI pmd,gI 0,gI 0,.osl 1]) rfl (by show jl.length≤_;omega) (by show many≤100;omega) (by show out.length≤_;omega);obtain⟨o,m⟩:=(A2 ⟨3,many,pmd,pmd,jl,cm,lds,true,jns,A3 jl,fun i=>if i=3 then A3 jl else 0,fun _=>false,out,dead,st⟩ ⟨3,pmd,0,0,jl⟩).to;have p:o.length≤out.length+many:=by
      have:=Ab ⟨3,many,pmd,pmd,jl,cm,lds,true,jns,A3 jl,fun i=>if i=3 then A3 jl else 0,fun _=>false,out,dead,st⟩ ⟨3,pmd,0,0,jl⟩;rw[m] at this;exact this
     rw[m] at r⊢;refine dh (.seen 0 _ _ rfl (.done (.same (r.cal fun q rs c=>?_))));obtain⟨rfl,rfl⟩:=c;refine .done ?_;refine dh (.close (oAs ⟨3,many,pmd,pmd,jl,cm,lds,true,jns,A3 jl,fun i=>if i=3 then A3 jl else 0,fun _=>false,o,dead,st⟩ b e) [(1,7),(2,8),(3,11),(4,10)] (by exact RL5) ⟨_,rfl⟩ rfl (.done (.same ((Dg _ b e t h (by show o.length≤_;omega)).cal fun q rs c=>?_))));obtain⟨rfl,rfl⟩:=c;refine .done ?_;exact .inl (A7 rfl rfl ⟨rfl,rfl⟩)
    ·refine⟨⟨bk 4,by show((4:Nat):Int) < ((7:Nat):Int);decide⟩,?_⟩;have eS:D5 ⟨4,many,pmd,pmd,jl,cm,lds,std,jns,first,aks,hrd,out,dead,st⟩=⟨4,many,pmd,pmd,jl,cm,lds,true,jns,A3 jl,fun i=>if i=4 then A3 jl else 0,fun _=>false,out,dead,st⟩:=rfl;rw[eS];have r:=G9 ⟨4,many,pmd,pmd,jl,cm,lds,true,jns,A3 jl,fun i=>if i=4 then A3 jl else 0,fun _=>false,out,dead,st⟩ (cl (oLs st e)) ⟨3,pmd,0,0,jl⟩ (.oag [gI 3,gI pmd,gI 0,gI 0,.osl 1]) rfl (by show jl.length≤_;omega) (by show many≤100;omega) (by show out.length≤_;omega);obtain⟨o,m⟩:=(A2 ⟨4,many,pmd,pmd,jl,cm,lds,true,jns,A3 jl,fun i=>if i=4 then A3 jl else 0,fun _=>false,out,dead,st⟩ ⟨3,pmd,0,0,jl⟩).to;have p:o.length≤out.length+many:=by
      have:=Ab ⟨4,many,pmd,pmd,jl,cm,lds,true,jns,A3 jl,fun i=>if i=4 then A3 jl else 0,fun _=>false,out,dead,st⟩ ⟨3,pmd,0,0,jl⟩;rw[m] at this;exact this
     rw[m] at r⊢;refine dh (.seen 0 _ _ rfl (.done (.same (r.cal fun q rs c=>?_))));obtain⟨rfl,rfl⟩:=c;refine .done ?_;refine dh (.close (oAs ⟨4,many,pmd,pmd,jl,cm,lds,true,jns,A3 jl,fun i=>if i=4 then A3 jl else 0,fun _=>false,o,dead,st⟩ b e) [(1,7),(2,8),(3,11),(4,10)] (by exact RL5) ⟨_,rfl⟩ rfl (.done (.same ((Dg _ b e t h (by show o.length≤_;omega)).cal fun q rs c=>?_))));obtain⟨rfl,rfl⟩:=c;refine .done ?_;exact .inl (A7 rfl rfl ⟨rfl,rfl⟩)
    ·refine⟨⟨bk 5,by show((5:Nat):Int) < ((7:Nat):Int);decide⟩,?_⟩;have eS:D5 ⟨5,many,pmd,pmd,jl,cm,lds,std,jns,first,aks,hrd,out,dead,st⟩=⟨5,many,pmd,pmd,jl,cm,lds,true,jns,A3 jl,fun i=>if i=5 then A3 jl else 0,fun _=>false,out,dead,st⟩:=rfl;rw[eS];have r:=G9 ⟨5,many,pmd,pmd,jl,cm,lds,true,jns,A3 jl,fun i=>if i=5 then A3 jl else 0,fun _=>false,out,dead,st⟩ (cl (oLs st e)) ⟨3,pmd,0,0,jl⟩ (.oag [gI 3,gI pmd,gI 0,gI 0,.osl 1]) rfl (by show jl.length≤_;omega) (by show many≤100;omega) (by show out.length≤_;omega);obtain⟨o,m⟩:=(A2 ⟨5,many,pmd,pmd,jl,cm,lds,true,jns,A3 jl,fun i=>if i=5 then A3 jl else 0,fun _=>false,out,dead,st⟩ ⟨3,pmd,0,0,jl⟩).to;have p:o.length≤out.length+many:=by
      have:=Ab ⟨5,many,pmd,pmd,jl,cm,lds,true,jns,A3 jl,fun i=>if i=5 then A3 jl else 0,fun _=>false,out,dead,st⟩ ⟨3,pmd,0,0,jl⟩;rw[m] at this;exact this
     rw[m] at r⊢;refine dh (.seen 0 _ _ rfl (.done (.same (r.cal fun q rs c=>?_))));obtain⟨rfl,rfl⟩:=c;refine .done ?_;refine dh (.close (oAs ⟨5,many,pmd,pmd,jl,cm,lds,true,jns,A3 jl,fun i=>if i=5 then A3 jl else 0,fun _=>false,o,dead,st⟩ b e) [(1,7),(2,8),(3,11),(4,10)] (by exact RL5) ⟨_,rfl⟩ rfl (.done (.same ((Dg _ b e t h (by show o.length≤_;omega)).cal fun q rs c=>?_))));obtain⟨rfl,rfl⟩:=c;refine .done ?_;exact .inl (A7 rfl rfl ⟨rfl,rfl⟩)
    ·refine⟨⟨bk 6,by show((6:Nat):Int) < ((7:Nat):Int);decide⟩,?_⟩;have eS:D5 ⟨6,many,pmd,pmd,jl,cm,lds,std,jns,first,aks,hrd,out,dead,st⟩=⟨6,many,pmd,pmd,jl,cm,lds,true,jns,A3 jl,fun i=>if i=6 then A3 jl else 0,fun _=>false,out,dead,st⟩:=rfl;rw[eS];have r:=G9 ⟨6,many,pmd,pmd,jl,cm,lds,true,jns,A3 jl,fun i=>if i=6 then A3 jl else 0,fun _=>false,out,dead,st⟩ (cl (oLs st e)) ⟨3,pmd,0,0,jl⟩ (.oag [gI 3,gI pmd,gI 0,gI 0,.osl 1]) rfl (by show jl.length≤_;omega) (by show many≤100;omega) (by show out.length≤_;omega);obtain⟨o,m⟩:=(A2 ⟨6,many,pmd,pmd,jl,cm,lds,true,jns,A3 jl,fun i=>if i=6 then A3 jl else 0,fun _=>false,out,dead,st⟩ ⟨3,pmd,0,0,jl⟩).to;have p:o.length≤out.length+many:=by
      have:=Ab ⟨6,many,pmd,pmd,jl,cm,lds,true,jns,A3 jl,fun i=>if i=6 then A3 jl else 0,fun _=>false,out,dead,st⟩ ⟨3,pmd,0,0,jl⟩;rw[m] at this;exact this
     rw[m] at r⊢;refine dh (.seen 0 _ _ rfl (.done (.same (r.cal fun q rs c=>?_))));obtain⟨rfl,rfl⟩:=c;refine .done ?_;refine dh (.close (oAs ⟨6,many,pmd,pmd,jl,cm,lds,true,jns,A3 jl,fun i=>if i=6 then A3 jl else 0,fun _=>false,o,dead,st⟩ b e) [(1,7),(2,8),(3,11),(4,10)] (by exact RL5) ⟨_,rfl⟩ rfl (.done (.same ((Dg _ b e t h (by show o.length≤_;omega)).cal fun q rs c=>?_))));obtain⟨rfl,rfl⟩:=c;refine .done ?_;exact .inl (A7 rfl rfl ⟨rfl,rfl⟩)
   ·rw[Bool.not_eq_true] at ha;have w:B2 n=Ba n n.pmd j.l:=by unfold B2;rw[db c,B,db (by rw[ha];decide)]
    rw[ha,w];refine .done ?_;refine dk (fun _=>?_) fun h=>de h (by decide);exact .inl (A7 rfl rfl ⟨rfl,rfl⟩)
end Go.Proofs.YtihfaocdpmmooaaGreat
