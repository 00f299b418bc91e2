
import Derived.Test.YtihfaocdpmmooaaGreatZNk
import Derived.Test.YtihfaocdpmmooaaGreatSxMe
namespace Go.Proofs.YtihfaocdpmmooaaGreat
open Go.RowKit
set_option maxRecDepth 100000
structure WNk (k:Nat)(n:PN):Prop where
 ws:WSt k n.st
 kk:k≤900000000
 m0:1≤n.many
 m7:n.many≤7
 self:n.self < n.many
 log:n.log.length≤150
 out:n.out.length≤700000
 jns:∀i,i < 7→(n.jns i).l.length≤150
 np:n.normal≤n.pmd
 st:n.std=true→(∀i,i < 7→0≤n.aks i∧n.aks i≤n.log.length)∧0≤n.first∧n.first≤n.log.length
theorem WNk.nb {k:Nat}{n:PN}(h:WNk k n):WNb n:=⟨h.ws.wk (by have:=h.kk;omega),h.m0,h.m7,h.self,h.log,h.out,h.jns⟩
structure ShN (s:Bool)(n:PN):Prop where
 b:s=false→n.std=false∧n.normal < n.pmd
 a:s=true→n.dead=false→n.lds=true→n.std=true
abbrev oSs (s:Bool)(n:PN)(b e:Nat):Os:=bif s then oAs n b e else oBs n b e
abbrev cS (s:Bool)(n:PN)(b e:Nat):List R:=[.abs (cl (oSs s n b e))]
theorem Z2j {l:LD}{s:ByteArray}(h:Gc l s=51):Bk l s=l:=by
 unfold Gc at h
 unfold Bk
 split at h
 ·cases h
 ·next h1 =>
  rw[da h1]
  split at h
  ·cases h
  ·next h2 =>
   rw[da h2]
   split at h
   ·next h3=>rw[db h3]
   ·split at h<;>cases h
theorem Jn {k:Nat}{n:PN}(h:WSt k n.st)(r:ByteArray)(hb:Cu n r=true):WSt (k+1) (Br n r).st∧(Br n r).dead=n.dead∧(Br n r).out=n.out:=by
 unfold Cu at hb
 unfold Br
 split
 ·next h5 =>
  rw[db h5] at hb
  have hb:=of_decide_eq_true hb
  rw[Z2j h5] at hb⊢
  unfold E3
  rw[da (by rw[hb];decide)]
  exact⟨(Z2a h (Bz n) hb).1,rfl,rfl⟩
 ·next h5 =>
  rw[da h5] at hb
  split
  ·next h0=>rw[db h0] at hb;cases hb
  ·next h0 =>
   rw[da h0] at hb
   have hb:=of_decide_eq_true hb
   unfold E3
   rw[da (by rw[hb];decide)]
   exact⟨(Z8a h r (Decidable.not_not.1 h0) hb).1,rfl,rfl⟩
theorem Of {m:Nat}(h0:1≤m)(h:m≤7):1≤Ag m:=by unfold Ag Bd;rw[db (by simp;omega)];omega
theorem Cz (n:PN):∃c o,Dy n={n with cmt:=c,out:=o}:=by
 unfold Dy
 split
 ·obtain⟨o,h⟩:=(A2 {n with cmt:=Bb (Bx n)} ⟨6,n.pmd,0,Bb (Bx n),[]⟩).to
  exact⟨_,o,h⟩
 ·exact⟨n.cmt,n.out,rfl⟩
theorem Jj {n:PN}{v:Int}{l:List REnt}(h:Dw n v l=false):(Cy n v l).dead=true:=by
 unfold Dw at h
 have h:=of_decide_eq_false h
 unfold Cy E3
 rw[db h]
theorem B1 (n:PN)(b e:Nat)(h0:1≤n.many)(h:n.many≤7)(hs:n.self < n.many)(hw:WK n.st)(hj:∀i,i < 7→(n.jns i).l.length≤150)(ho:n.out.length≤800000)(hn:n.std=false∧n.normal < n.pmd):FnO Tryz.prog 83 [.ptr 0 0] (cB n b e) fun g rs=>g=.tup []∧∃s,rs=cS s (Cb n) b e∧ShN s (Cb n):=by
 refine(Zbp n b e h0 h hs hw hj ho).mono fun g rs hq=>⟨hq.1,?_⟩
 by_cases hl:((Bp n).length:Int) < Ag n.many
 ·rw[db hl] at hq
  refine⟨false,hq.2,?_⟩
  unfold Cb
  rw[db hl]
  exact⟨fun _=>hn,fun h=>by cases h⟩
 ·rw[da hl] at hq
  refine⟨true,hq.2,?_⟩
  unfold Cb
  rw[da hl]
  by_cases ha:Dw n n.pmd (H7 n)=true
  ·rw[db ha]
   refine⟨fun h=>(by cases h),fun _ _ _=>?_⟩
   obtain⟨c,o,h1⟩:=Cz (Ax (Dt (Cy n n.pmd (H7 n))) ⟨3,n.pmd,0,0,H7 n⟩)
   obtain⟨o2,h2⟩:=(A2 (Dt (Cy n n.pmd (H7 n))) ⟨3,n.pmd,0,0,H7 n⟩).to
   rw[h1,h2]
   rfl
  ·rw[da ha]
   rw[Bool.not_eq_true] at ha
   exact⟨fun h=>(by cases h),fun _ hd=>by rw[Jj ha] at hd;cases hd⟩
set_option maxHeartbeats 4000000 in
theorem Z7h (n:PN)(b e:Nat)(k:Nat)(h:n.dead=false→WNk k n)(view:Int):FnO Tryz.prog 41 [.ptr 0 0,gI view] (cA n b e) fun g rs=>g=.v (.bool (Cn n view).2)∧∃s,rs=cS s (Cn n view).1 b e∧(ShN true n→ShN s (Cn n view).1):=by
 obtain⟨H,B,K,A,D,E,M,N,J,C,F,G,L,I,P⟩:=n
 have no:(I=true∨view≤K∨A9 view B≠H)→Cn ⟨H,B,K,A,D,E,M,N,J,C,F,G,L,I,P⟩ view=(⟨H,B,K,A,D,E,M,N,J,C,F,G,L,I,P⟩,false):=fun hh=>by
  unfold Cn;rw[db hh]
 refine Ba Tryz.func41 (A5 (O:=oAs ⟨H,B,K,A,D,E,M,N,J,C,F,G,L,I,P⟩ b e) (n0:=5) rfl) ?_
 refine dj (fun hd=>?_) fun hd=>?_
 ·rw[no (.inl hd)]
  exact .inl (A1 (oAs ⟨H,B,K,A,D,E,M,N,J,C,F,G,L,I,P⟩ b e) [] (by exact RL5) rfl ⟨_,rfl⟩ rfl rfl ⟨rfl,true,rfl,id⟩)
 have hd:I=false:=hd
 obtain⟨h1,hkk,h2,h3,h4,h5,h6,h7,hnp,-⟩:=h hd
 clear h
 dsimp only at h1 h2 h3 h4 h5 h6 h7
 refine df (fun hv=>?_) fun hv=>?_
 ·rw[no (.inr (.inl hv))]
  exact .inl (A1 (oAs ⟨H,B,K,A,D,E,M,N,J,C,F,G,L,I,P⟩ b e) [] (by exact RL5) rfl ⟨_,rfl⟩ rfl rfl ⟨rfl,true,rfl,id⟩)
 have hv:¬view≤K:=hv
 have hnp:A≤K:=hnp
 have hnv:A < view:=by omega
 refine(Ct _ _).cal fun q hq=>?_
 subst hq
 refine di (fun hp=>?_) fun hp=>?_
 ·rw[no (.inr (.inr hp))]
  exact .inl (A1 (oAs ⟨H,B,K,A,D,E,M,N,J,C,F,G,L,I,P⟩ b e) [] (by exact RL5) rfl ⟨_,rfl⟩ rfl rfl ⟨rfl,true,rfl,id⟩)
 have hp:A9 view B=H:=hp
 have hno:¬(I=true∨view≤K∨A9 view B≠H):=by
  rw[hd]
  rintro(h | h | h)
  ·cases h
  ·exact hv h
  ·exact h hp
 refine dg (.close (oAs ⟨H,B,K,A,D,E,M,N,J,C,F,G,L,I,P⟩ b e) [] (by exact RL5) ⟨_,rfl⟩ rfl (.done (.same ((Z8s ⟨H,B,K,A,D,E,M,N,J,C,F,G,L,I,P⟩ b e (h1.wk (by omega)) (by show D.length≤_;omega) view).cal fun q rs hq=>?_))))
 obtain⟨rfl,rfl⟩:=hq
 obtain⟨st',out',dead',eA,hol⟩:=Cm ⟨H,B,view,A,D,E,false,false,J,C,F,G,L,I,P⟩ (Cp 1 view 0 eS)
 have eA:Fl ⟨H,B,K,A,D,E,M,N,J,C,F,G,L,I,P⟩ view=⟨H,B,view,A,D,E,false,false,J,C,F,G,out',dead',st'⟩:=eA
 by_cases ha:Jw ⟨H,B,K,A,D,E,M,N,J,C,F,G,L,I,P⟩ view=true
 ·have eO:Cn ⟨H,B,K,A,D,E,M,N,J,C,F,G,L,I,P⟩ view=(Cb (Ax {Fl ⟨H,B,K,A,D,E,M,N,J,C,F,G,L,I,P⟩ view with lds:=true,jns:=fun i=>if i=H then⟨true,A,D⟩ else j0} ⟨1,view,0,0,[]⟩),true):=by
   unfold Cn;rw[da hno,db ha]
  obtain⟨w1,w2,w3⟩:=Jn (n:=⟨H,B,view,A,D,E,false,false,J,C,F,G,L,I,P⟩) h1 (Cp 1 view 0 eS) ha
  have eS:Br ⟨H,B,view,A,D,E,false,false,J,C,F,G,L,I,P⟩ (Cp 1 view 0 eS)=⟨H,B,view,A,D,E,false,false,J,C,F,G,out',dead',st'⟩:=eA
  rw[eS] at w1
  dsimp only at w1
  rw[ha,eO,eA]
  dsimp only at hol
  clear eO eA ha no hno hp hv eS w2 w3
  refine .opn 0 _ _ _ rfl rfl rfl (.done ?_)
  refine dj (fun h=>dc h (by decide)) fun _=>?_
  have hs7:H=0∨H=1∨H=2∨H=3∨H=4∨H=5∨H=6:=by omega
  rcases hs7 with rfl | rfl | rfl | rfl | rfl | rfl | rfl
  ·refine⟨⟨bj 0,by show((0:Nat):Int) < ((7:Nat):Int);decide⟩,?_⟩
   have hS:=C9 ⟨0,B,view,A,D,E,true,false,fun i=>if i=0 then⟨true,A,D⟩ else j0,C,F,G,out',dead',st'⟩ (cl (oLs st' e)) ⟨1,view,0,0,[]⟩ (ah _) (by show B≤100;omega) (by show out'.length≤_;omega)
   have hol2:=Aa ⟨0,B,view,A,D,E,true,false,fun i=>if i=0 then⟨true,A,D⟩ else j0,C,F,G,out',dead',st'⟩ ⟨1,view,0,0,[]⟩
   obtain⟨o,hs⟩:=(A2 ⟨0,B,view,A,D,E,true,false,fun i=>if i=0 then⟨true,A,D⟩ else j0,C,F,G,out',dead',st'⟩ ⟨1,view,0,0,[]⟩).to
   rw[hs] at hS hol2⊢
   have hol2:o.length≤out'.length+B:=hol2
   refine FnO.cal (FnO.seenE ?hc0 hS) fun q rs hq=>?hk0
   case hc0=>exact rfl
   obtain⟨rfl,rfl⟩:=hq
   have hjj:∀i,i < 7→((fun i=>if i=0 then(⟨true,A,D⟩:RJ) else j0) i).l.length≤150:=fun i hi=>by
    dsimp only
    split
    ·exact h5
    ·exact ah _
   refine dg (.close (oBs ⟨0,B,view,A,D,E,true,false,fun i=>if i=0 then⟨true,A,D⟩ else j0,C,F,G,o,dead',st'⟩ b e) [(1,5),(2,6),(3,9),(4,8)] (by exact RL5) ⟨_,rfl⟩ rfl (.done (.same ((B1 _ b e h2 h3 (by show 0 < B;omega) (w1.wk (by omega)) hjj (by show o.length≤_;omega) ⟨rfl,hnv⟩).cal fun q rs hq=>?_))))
   obtain⟨rfl,s,rfl,hsh⟩:=hq
   refine .done ?_
   exact .inl (A7 rfl rfl ⟨rfl,s,rfl,fun _=>hsh⟩)
  ·refine⟨⟨bj 1,by show((1:Nat):Int) < ((7:Nat):Int);decide⟩,?_⟩
   have hS:=C9 ⟨1,B,view,A,D,E,true,false,fun i=>if i=1 then⟨true,A,D⟩ else j0,C,F,G,out',dead',st'⟩ (cl (oLs st' e)) ⟨1,view,0,0,[]⟩ (ah _) (by show B≤100;omega) (by show out'.length≤_;omega)
   have hol2:=Aa ⟨1,B,view,A,D,E,true,false,fun i=>if i=1 then⟨true,A,D⟩ else j0,C,F,G,out',dead',st'⟩ ⟨1,view,0,0,[]⟩
   obtain⟨o,hs⟩:=(A2 ⟨1,B,view,A,D,E,true,false,fun i=>if i=1 then⟨true,A,D⟩ else j0,C,F,G,out',dead',st'⟩ ⟨1,view,0,0,[]⟩).to
   rw[hs] at hS hol2⊢
   have hol2:o.length≤out'.length+B:=hol2
   refine FnO.cal (FnO.seenE ?hc1 hS) fun q rs hq=>?hk1
   case hc1=>exact rfl
   obtain⟨rfl,rfl⟩:=hq
   have hjj:∀i,i < 7→((fun i=>if i=1 then(⟨true,A,D⟩:RJ) else j0) i).l.length≤150:=fun i hi=>by
    dsimp only
    split
    ·exact h5
    ·exact ah _
   refine dg (.close (oBs ⟨1,B,view,A,D,E,true,false,fun i=>if i=1 then⟨true,A,D⟩ else j0,C,F,G,o,dead',st'⟩ b e) [(1,5),(2,6),(3,9),(4,8)] (by exact RL5) ⟨_,rfl⟩ rfl (.done (.same ((B1 _ b e h2 h3 (by show 1 < B;omega) (w1.wk (by omega)) hjj (by show o.length≤_;omega) ⟨rfl,hnv⟩).cal fun q rs hq=>?_))))
   obtain⟨rfl,s,rfl,hsh⟩:=hq
   refine .done ?_
   exact .inl (A7 rfl rfl ⟨rfl,s,rfl,fun _=>hsh⟩)
  ·refine⟨⟨bj 2,by show((2:Nat):Int) < ((7:Nat):Int);decide⟩,?_⟩
   have hS:=C9 ⟨2,B,view,A,D,E,true,false,fun i=>if i=2 then⟨true,A,D⟩ else j0,C,F,G,out',dead',st'⟩ (cl (oLs st' e)) ⟨1,view,0,0,[]⟩ (ah _) (by show B≤100;omega) (by show out'.length≤_;omega)
   have hol2:=Aa ⟨2,B,view,A,D,E,true,false,fun i=>if i=2 then⟨true,A,D⟩ else j0,C,F,G,out',dead',st'⟩ ⟨1,view,0,0,[]⟩
   obtain⟨o,hs⟩:=(A2 ⟨2,B,view,A,D,E,true,false,fun i=>if i=2 then⟨true,A,D⟩ else j0,C,F,G,out',dead',st'⟩ ⟨1,view,0,0,[]⟩).to
   rw[hs] at hS hol2⊢
   have hol2:o.length≤out'.length+B:=hol2
   refine FnO.cal (FnO.seenE ?hc2 hS) fun q rs hq=>?hk2
   case hc2=>exact rfl
   obtain⟨rfl,rfl⟩:=hq
   have hjj:∀i,i < 7→((fun i=>if i=2 then(⟨true,A,D⟩:RJ) else j0) i).l.length≤150:=fun i hi=>by
    dsimp only
    split
    ·exact h5
    ·exact ah _
   refine dg (.close (oBs ⟨2,B,view,A,D,E,true,false,fun i=>if i=2 then⟨true,A,D⟩ else j0,C,F,G,o,dead',st'⟩ b e) [(1,5),(2,6),(3,9),(4,8)] (by exact RL5) ⟨_,rfl⟩ rfl (.done (.same ((B1 _ b e h2 h3 (by show 2 < B;omega) (w1.wk (by omega)) hjj (by show o.length≤_;omega) ⟨rfl,hnv⟩).cal fun q rs hq=>?_))))
   obtain⟨rfl,s,rfl,hsh⟩:=hq
   refine .done ?_
   exact .inl (A7 rfl rfl ⟨rfl,s,rfl,fun _=>hsh⟩)
  ·refine⟨⟨bj 3,by show((3:Nat):Int) < ((7:Nat):Int);decide⟩,?_⟩
   have hS:=C9 ⟨3,B,view,A,D,E,true,false,fun i=>if i=3 then⟨true,A,D⟩ else j0,C,F,G,out',dead',st'⟩ (cl (oLs st' e)) ⟨1,view,0,0,[]⟩ (ah _) (by show B≤100;omega) (by show out'.length≤_;omega)
   have hol2:=Aa ⟨3,B,view,A,D,E,true,false,fun i=>if i=3 then⟨true,A,D⟩ else j0,C,F,G,out',dead',st'⟩ ⟨1,view,0,0,[]⟩
   obtain⟨o,hs⟩:=(A2 ⟨3,B,view,A,D,E,true,false,fun i=>if i=3 then⟨true,A,D⟩ else j0,C,F,G,out',dead',st'⟩ ⟨1,view,0,0,[]⟩).to
   rw[hs] at hS hol2⊢
   have hol2:o.length≤out'.length+B:=hol2
   refine FnO.cal (FnO.seenE ?hc3 hS) fun q rs hq=>?hk3
   case hc3=>exact rfl
   obtain⟨rfl,rfl⟩:=hq
   have hjj:∀i,i < 7→((fun i=>if i=3 then(⟨true,A,D⟩:RJ) else j0) i).l.length≤150:=fun i hi=>by
    dsimp only
    split
    ·exact h5
    ·exact ah _
   refine dg (.close (oBs ⟨3,B,view,A,D,E,true,false,fun i=>if i=3 then⟨true,A,D⟩ else j0,C,F,G,o,dead',st'⟩ b e) [(1,5),(2,6),(3,9),(4,8)] (by exact RL5) ⟨_,rfl⟩ rfl (.done (.same ((B1 _ b e h2 h3 (by show 3 < B;omega) (w1.wk (by omega)) hjj (by show o.length≤_;omega) ⟨rfl,hnv⟩).cal fun q rs hq=>?_))))
   obtain⟨rfl,s,rfl,hsh⟩:=hq
   refine .done ?_
   exact .inl (A7 rfl rfl ⟨rfl,s,rfl,fun _=>hsh⟩)
  ·refine⟨⟨bj 4,by show((4:Nat):Int) < ((7:Nat):Int);decide⟩,?_⟩
   have hS:=C9 ⟨4,B,view,A,D,E,true,false,fun i=>if i=4 then⟨true,A,D⟩ else j0,C,F,G,out',dead',st'⟩ (cl (oLs st' e)) ⟨1,view,0,0,[]⟩ (ah _) (by show B≤100;omega) (by show out'.length≤_;omega)
   have hol2:=Aa ⟨4,B,view,A,D,E,true,false,fun i=>if i=4 then⟨true,A,D⟩ else j0,C,F,G,out',dead',st'⟩ ⟨1,view,0,0,[]⟩
   obtain⟨o,hs⟩:=(A2 ⟨4,B,view,A,D,E,true,false,fun i=>if i=4 then⟨true,A,D⟩ else j0,C,F,G,out',dead',st'⟩ ⟨1,view,0,0,[]⟩).to
   rw[hs] at hS hol2⊢
   have hol2:o.length≤out'.length+B:=hol2
   refine FnO.cal (FnO.seenE ?hc4 hS) fun q rs hq=>?hk4
   case hc4=>exact rfl
   obtain⟨rfl,rfl⟩:=hq
   have hjj:∀i,i < 7→((fun i=>if i=4 then(⟨true,A,D⟩:RJ) else j0) i).l.length≤150:=fun i hi=>by
    dsimp only
    split
    ·exact h5
    ·exact ah _
   refine dg (.close (oBs ⟨4,B,view,A,D,E,true,false,fun i=>if i=4 then⟨true,A,D⟩ else j0,C,F,G,o,dead',st'⟩ b e) [(1,5),(2,6),(3,9),(4,8)] (by exact RL5) ⟨_,rfl⟩ rfl (.done (.same ((B1 _ b e h2 h3 (by show 4 < B;omega) (w1.wk (by omega)) hjj (by show o.length≤_;omega) ⟨rfl,hnv⟩).cal fun q rs hq=>?_))))
   obtain⟨rfl,s,rfl,hsh⟩:=hq
   refine .done ?_
   exact .inl (A7 rfl rfl ⟨rfl,s,rfl,fun _=>hsh⟩)
  ·refine⟨⟨bj 5,by show((5:Nat):Int) < ((7:Nat):Int);decide⟩,?_⟩
   have hS:=C9 ⟨5,B,view,A,D,E,true,false,fun i=>if i=5 then⟨true,A,D⟩ else j0,C,F,G,out',dead',st'⟩ (cl (oLs st' e)) ⟨1,view,0,0,[]⟩ (ah _) (by show B≤100;omega) (by show out'.length≤_;omega)
   have hol2:=Aa ⟨5,B,view,A,D,E,true,false,fun i=>if i=5 then⟨true,A,D⟩ else j0,C,F,G,out',dead',st'⟩ ⟨1,view,0,0,[]⟩
   obtain⟨o,hs⟩:=(A2 ⟨5,B,view,A,D,E,true,false,fun i=>if i=5 then⟨true,A,D⟩ else j0,C,F,G,out',dead',st'⟩ ⟨1,view,0,0,[]⟩).to
   rw[hs] at hS hol2⊢
   have hol2:o.length≤out'.length+B:=hol2
   refine FnO.cal (FnO.seenE ?hc5 hS) fun q rs hq=>?hk5
   case hc5=>exact rfl
   obtain⟨rfl,rfl⟩:=hq
   have hjj:∀i,i < 7→((fun i=>if i=5 then(⟨true,A,D⟩:RJ) else j0) i).l.length≤150:=fun i hi=>by
    dsimp only
    split
    ·exact h5
    ·exact ah _
   refine dg (.close (oBs ⟨5,B,view,A,D,E,true,false,fun i=>if i=5 then⟨true,A,D⟩ else j0,C,F,G,o,dead',st'⟩ b e) [(1,5),(2,6),(3,9),(4,8)] (by exact RL5) ⟨_,rfl⟩ rfl (.done (.same ((B1 _ b e h2 h3 (by show 5 < B;omega) (w1.wk (by omega)) hjj (by show o.length≤_;omega) ⟨rfl,hnv⟩).cal fun q rs hq=>?_))))
   obtain⟨rfl,s,rfl,hsh⟩:=hq
   refine .done ?_
   exact .inl (A7 rfl rfl ⟨rfl,s,rfl,fun _=>hsh⟩)
  ·refine⟨⟨bj 6,by show((6:Nat):Int) < ((7:Nat):Int);decide⟩,?_⟩
   have hS:=C9 ⟨6,B,view,A,D,E,true,false,fun i=>if i=6 then⟨true,A,D⟩ else j0,C,F,G,out',dead',st'⟩ (cl (oLs st' e)) ⟨1,view,0,0,[]⟩ (ah _) (by show B≤100;omega) (by show out'.length≤_;omega)
   have hol2:=Aa ⟨6,B,view,A,D,E,true,false,fun i=>if i=6 then⟨true,A,D⟩ else j0,C,F,G,out',dead',st'⟩ ⟨1,view,0,0,[]⟩
   obtain⟨o,hs⟩:=(A2 ⟨6,B,view,A,D,E,true,false,fun i=>if i=6 then⟨true,A,D⟩ else j0,C,F,G,out',dead',st'⟩ ⟨1,view,0,0,[]⟩).to
   rw[hs] at hS hol2⊢
   have hol2:o.length≤out'.length+B:=hol2
   refine FnO.cal (FnO.seenE ?hc6 hS) fun q rs hq=>?hk6
   case hc6=>exact rfl
   obtain⟨rfl,rfl⟩:=hq
   have hjj:∀i,i < 7→((fun i=>if i=6 then(⟨true,A,D⟩:RJ) else j0) i).l.length≤150:=fun i hi=>by
    dsimp only
    split
    ·exact h5
    ·exact ah _
   refine dg (.close (oBs ⟨6,B,view,A,D,E,true,false,fun i=>if i=6 then⟨true,A,D⟩ else j0,C,F,G,o,dead',st'⟩ b e) [(1,5),(2,6),(3,9),(4,8)] (by exact RL5) ⟨_,rfl⟩ rfl (.done (.same ((B1 _ b e h2 h3 (by show 6 < B;omega) (w1.wk (by omega)) hjj (by show o.length≤_;omega) ⟨rfl,hnv⟩).cal fun q rs hq=>?_))))
   obtain⟨rfl,s,rfl,hsh⟩:=hq
   refine .done ?_
   exact .inl (A7 rfl rfl ⟨rfl,s,rfl,fun _=>hsh⟩)
 ·rw[Bool.not_eq_true] at ha
  have eO:Cn ⟨H,B,K,A,D,E,M,N,J,C,F,G,L,I,P⟩ view=(Fl ⟨H,B,K,A,D,E,M,N,J,C,F,G,L,I,P⟩ view,true):=by
   unfold Cn;rw[da hno,da (by rw[ha];decide)]
  rw[ha,eO]
  refine .done ?_
  refine dj (fun _=>?_) fun h=>dc h (by decide)
  refine .inl (A7 rfl rfl ⟨rfl,false,rfl,fun _=>?_⟩)
  rw[eA]
  exact⟨fun _=>⟨rfl,hnv⟩,fun h=>dc h (by decide)⟩
set_option maxHeartbeats 4000000 in
theorem Zfe (n:PN)(b e:Nat)(k:Nat)(h:n.dead=false→WNk k n)(view:Int):FnO Tryz.prog 41 [.ptr 0 0,gI view] (cB n b e) fun g rs=>g=.v (.bool (Cn n view).2)∧∃s,rs=cS s (Cn n view).1 b e∧(ShN false n→ShN s (Cn n view).1):=by
 obtain⟨H,B,K,A,D,E,M,N,J,C,F,G,L,I,P⟩:=n
 have no:(I=true∨view≤K∨A9 view B≠H)→Cn ⟨H,B,K,A,D,E,M,N,J,C,F,G,L,I,P⟩ view=(⟨H,B,K,A,D,E,M,N,J,C,F,G,L,I,P⟩,false):=fun hh=>by
  unfold Cn;rw[db hh]
 refine Ba Tryz.func41 (A5 (O:=oBs ⟨H,B,K,A,D,E,M,N,J,C,F,G,L,I,P⟩ b e) (n0:=5) rfl) ?_
 refine dj (fun hd=>?_) fun hd=>?_
 ·rw[no (.inl hd)]
  exact .inl (A1 (oBs ⟨H,B,K,A,D,E,M,N,J,C,F,G,L,I,P⟩ b e) [] (by exact RL5) rfl ⟨_,rfl⟩ rfl rfl ⟨rfl,false,rfl,id⟩)
 have hd:I=false:=hd
 obtain⟨h1,hkk,h2,h3,h4,h5,h6,h7,hnp,-⟩:=h hd
 clear h
 dsimp only at h1 h2 h3 h4 h5 h6 h7
 refine df (fun hv=>?_) fun hv=>?_
 ·rw[no (.inr (.inl hv))]
  exact .inl (A1 (oBs ⟨H,B,K,A,D,E,M,N,J,C,F,G,L,I,P⟩ b e) [] (by exact RL5) rfl ⟨_,rfl⟩ rfl rfl ⟨rfl,false,rfl,id⟩)
 have hv:¬view≤K:=hv
 have hnp:A≤K:=hnp
 have hnv:A < view:=by omega
 refine(Ct _ _).cal fun q hq=>?_
 subst hq
 refine di (fun hp=>?_) fun hp=>?_
 ·rw[no (.inr (.inr hp))]
  exact .inl (A1 (oBs ⟨H,B,K,A,D,E,M,N,J,C,F,G,L,I,P⟩ b e) [] (by exact RL5) rfl ⟨_,rfl⟩ rfl rfl ⟨rfl,false,rfl,id⟩)
 have hp:A9 view B=H:=hp
 have hno:¬(I=true∨view≤K∨A9 view B≠H):=by
  rw[hd]
  rintro(h | h | h)
  ·cases h
  ·exact hv h
  ·exact h hp
 refine dg (.close (oBs ⟨H,B,K,A,D,E,M,N,J,C,F,G,L,I,P⟩ b e) [] (by exact RL5) ⟨_,rfl⟩ rfl (.done (.same ((Z8r ⟨H,B,K,A,D,E,M,N,J,C,F,G,L,I,P⟩ b e (h1.wk (by omega)) (by show D.length≤_;omega) view).cal fun q rs hq=>?_))))
 obtain⟨rfl,rfl⟩:=hq
 obtain⟨st',out',dead',eA,hol⟩:=Cm ⟨H,B,view,A,D,E,false,false,J,C,F,G,L,I,P⟩ (Cp 1 view 0 eS)
 have eA:Fl ⟨H,B,K,A,D,E,M,N,J,C,F,G,L,I,P⟩ view=⟨H,B,view,A,D,E,false,false,J,C,F,G,out',dead',st'⟩:=eA
 by_cases ha:Jw ⟨H,B,K,A,D,E,M,N,J,C,F,G,L,I,P⟩ view=true
 ·have eO:Cn ⟨H,B,K,A,D,E,M,N,J,C,F,G,L,I,P⟩ view=(Cb (Ax {Fl ⟨H,B,K,A,D,E,M,N,J,C,F,G,L,I,P⟩ view with lds:=true,jns:=fun i=>if i=H then⟨true,A,D⟩ else j0} ⟨1,view,0,0,[]⟩),true):=by
   unfold Cn;rw[da hno,db ha]
  obtain⟨w1,w2,w3⟩:=Jn (n:=⟨H,B,view,A,D,E,false,false,J,C,F,G,L,I,P⟩) h1 (Cp 1 view 0 eS) ha
  have eS:Br ⟨H,B,view,A,D,E,false,false,J,C,F,G,L,I,P⟩ (Cp 1 view 0 eS)=⟨H,B,view,A,D,E,false,false,J,C,F,G,out',dead',st'⟩:=eA
  rw[eS] at w1
  dsimp only at w1
  rw[ha,eO,eA]
  dsimp only at hol
  clear eO eA ha no hno hp hv eS w2 w3
  refine .opn 0 _ _ _ rfl rfl rfl (.done ?_)
  refine dj (fun h=>dc h (by decide)) fun _=>?_
  have hs7:H=0∨H=1∨H=2∨H=3∨H=4∨H=5∨H=6:=by omega
  rcases hs7 with rfl | rfl | rfl | rfl | rfl | rfl | rfl
  ·refine⟨⟨bj 0,by show((0:Nat):Int) < ((7:Nat):Int);decide⟩,?_⟩
   have hS:=C9 ⟨0,B,view,A,D,E,true,false,fun i=>if i=0 then⟨true,A,D⟩ else j0,C,F,G,out',dead',st'⟩ (cl (oLs st' e)) ⟨1,view,0,0,[]⟩ (ah _) (by show B≤100;omega) (by show out'.length≤_;omega)
   have hol2:=Aa ⟨0,B,view,A,D,E,true,false,fun i=>if i=0 then⟨true,A,D⟩ else j0,C,F,G,out',dead',st'⟩ ⟨1,view,0,0,[]⟩
   obtain⟨o,hs⟩:=(A2 ⟨0,B,view,A,D,E,true,false,fun i=>if i=0 then⟨true,A,D⟩ else j0,C,F,G,out',dead',st'⟩ ⟨1,view,0,0,[]⟩).to
   rw[hs] at hS hol2⊢
   have hol2:o.length≤out'.length+B:=hol2
   refine FnO.cal (FnO.seenE ?hc0 hS) fun q rs hq=>?hk0
   case hc0=>exact rfl
   obtain⟨rfl,rfl⟩:=hq
   have hjj:∀i,i < 7→((fun i=>if i=0 then(⟨true,A,D⟩:RJ) else j0) i).l.length≤150:=fun i hi=>by
    dsimp only
    split
    ·exact h5
    ·exact ah _
   refine dg (.close (oBs ⟨0,B,view,A,D,E,true,false,fun i=>if i=0 then⟨true,A,D⟩ else j0,C,F,G,o,dead',st'⟩ b e) [(1,5),(2,6),(3,9),(4,8)] (by exact RL5) ⟨_,rfl⟩ rfl (.done (.same ((B1 _ b e h2 h3 (by show 0 < B;omega) (w1.wk (by omega)) hjj (by show o.length≤_;omega) ⟨rfl,hnv⟩).cal fun q rs hq=>?_))))
   obtain⟨rfl,s,rfl,hsh⟩:=hq
   refine .done ?_
   exact .inl (A7 rfl rfl ⟨rfl,s,rfl,fun _=>hsh⟩)
  ·refine⟨⟨bj 1,by show((1:Nat):Int) < ((7:Nat):Int);decide⟩,?_⟩
   have hS:=C9 ⟨1,B,view,A,D,E,true,false,fun i=>if i=1 then⟨true,A,D⟩ else j0,C,F,G,out',dead',st'⟩ (cl (oLs st' e)) ⟨1,view,0,0,[]⟩ (ah _) (by show B≤100;omega) (by show out'.length≤_;omega)
   have hol2:=Aa ⟨1,B,view,A,D,E,true,false,fun i=>if i=1 then⟨true,A,D⟩ else j0,C,F,G,out',dead',st'⟩ ⟨1,view,0,0,[]⟩
   obtain⟨o,hs⟩:=(A2 ⟨1,B,view,A,D,E,true,false,fun i=>if i=1 then⟨true,A,D⟩ else j0,C,F,G,out',dead',st'⟩ ⟨1,view,0,0,[]⟩).to
   rw[hs] at hS hol2⊢
   have hol2:o.length≤out'.length+B:=hol2
   refine FnO.cal (FnO.seenE ?hc1 hS) fun q rs hq=>?hk1
   case hc1=>exact rfl
   obtain⟨rfl,rfl⟩:=hq
   have hjj:∀i,i < 7→((fun i=>if i=1 then(⟨true,A,D⟩:RJ) else j0) i).l.length≤150:=fun i hi=>by
    dsimp only
    split
    ·exact h5
    ·exact ah _
   refine dg (.close (oBs ⟨1,B,view,A,D,E,true,false,fun i=>if i=1 then⟨true,A,D⟩ else j0,C,F,G,o,dead',st'⟩ b e) [(1,5),(2,6),(3,9),(4,8)] (by exact RL5) ⟨_,rfl⟩ rfl (.done (.same ((B1 _ b e h2 h3 (by show 1 < B;omega) (w1.wk (by omega)) hjj (by show o.length≤_;omega) ⟨rfl,hnv⟩).cal fun q rs hq=>?_))))
   obtain⟨rfl,s,rfl,hsh⟩:=hq
   refine .done ?_
   exact .inl (A7 rfl rfl ⟨rfl,s,rfl,fun _=>hsh⟩)
  ·refine⟨⟨bj 2,by show((2:Nat):Int) < ((7:Nat):Int);decide⟩,?_⟩
   have hS:=C9 ⟨2,B,view,A,D,E,true,false,fun i=>if i=2 then⟨true,A,D⟩ else j0,C,F,G,out',dead',st'⟩ (cl (oLs st' e)) ⟨1,view,0,0,[]⟩ (ah _) (by show B≤100;omega) (by show out'.length≤_;omega)
   have hol2:=Aa ⟨2,B,view,A,D,E,true,false,fun i=>if i=2 then⟨true,A,D⟩ else j0,C,F,G,out',dead',st'⟩ ⟨1,view,0,0,[]⟩
   obtain⟨o,hs⟩:=(A2 ⟨2,B,view,A,D,E,true,false,fun i=>if i=2 then⟨true,A,D⟩ else j0,C,F,G,out',dead',st'⟩ ⟨1,view,0,0,[]⟩).to
   rw[hs] at hS hol2⊢
   have hol2:o.length≤out'.length+B:=hol2
   refine FnO.cal (FnO.seenE ?hc2 hS) fun q rs hq=>?hk2
   case hc2=>exact rfl
   obtain⟨rfl,rfl⟩:=hq
   have hjj:∀i,i < 7→((fun i=>if i=2 then(⟨true,A,D⟩:RJ) else j0) i).l.length≤150:=fun i hi=>by
    dsimp only
    split
    ·exact h5
    ·exact ah _
   refine dg (.close (oBs ⟨2,B,view,A,D,E,true,false,fun i=>if i=2 then⟨true,A,D⟩ else j0,C,F,G,o,dead',st'⟩ b e) [(1,5),(2,6),(3,9),(4,8)] (by exact RL5) ⟨_,rfl⟩ rfl (.done (.same ((B1 _ b e h2 h3 (by show 2 < B;omega) (w1.wk (by omega)) hjj (by show o.length≤_;omega) ⟨rfl,hnv⟩).cal fun q rs hq=>?_))))
   obtain⟨rfl,s,rfl,hsh⟩:=hq
   refine .done ?_
   exact .inl (A7 rfl rfl ⟨rfl,s,rfl,fun _=>hsh⟩)
  ·refine⟨⟨bj 3,by show((3:Nat):Int) < ((7:Nat):Int);decide⟩,?_⟩
   have hS:=C9 ⟨3,B,view,A,D,E,true,false,fun i=>if i=3 then⟨true,A,D⟩ else j0,C,F,G,out',dead',st'⟩ (cl (oLs st' e)) ⟨1,view,0,0,[]⟩ (ah _) (by show B≤100;omega) (by show out'.length≤_;omega)
   have hol2:=Aa ⟨3,B,view,A,D,E,true,false,fun i=>if i=3 then⟨true,A,D⟩ else j0,C,F,G,out',dead',st'⟩ ⟨1,view,0,0,[]⟩
   obtain⟨o,hs⟩:=(A2 ⟨3,B,view,A,D,E,true,false,fun i=>if i=3 then⟨true,A,D⟩ else j0,C,F,G,out',dead',st'⟩ ⟨1,view,0,0,[]⟩).to
   rw[hs] at hS hol2⊢
   have hol2:o.length≤out'.length+B:=hol2
   refine FnO.cal (FnO.seenE ?hc3 hS) fun q rs hq=>?hk3
   case hc3=>exact rfl
   obtain⟨rfl,rfl⟩:=hq
   have hjj:∀i,i < 7→((fun i=>if i=3 then(⟨true,A,D⟩:RJ) else j0) i).l.length≤150:=fun i hi=>by
    dsimp only
    split
    ·exact h5
    ·exact ah _
   refine dg (.close (oBs ⟨3,B,view,A,D,E,true,false,fun i=>if i=3 then⟨true,A,D⟩ else j0,C,F,G,o,dead',st'⟩ b e) [(1,5),(2,6),(3,9),(4,8)] (by exact RL5) ⟨_,rfl⟩ rfl (.done (.same ((B1 _ b e h2 h3 (by show 3 < B;omega) (w1.wk (by omega)) hjj (by show o.length≤_;omega) ⟨rfl,hnv⟩).cal fun q rs hq=>?_))))
   obtain⟨rfl,s,rfl,hsh⟩:=hq
   refine .done ?_
   exact .inl (A7 rfl rfl ⟨rfl,s,rfl,fun _=>hsh⟩)
  ·refine⟨⟨bj 4,by show((4:Nat):Int) < ((7:Nat):Int);decide⟩,?_⟩
   have hS:=C9 ⟨4,B,view,A,D,E,true,false,fun i=>if i=4 then⟨true,A,D⟩ else j0,C,F,G,out',dead',st'⟩ (cl (oLs st' e)) ⟨1,view,0,0,[]⟩ (ah _) (by show B≤100;omega) (by show out'.length≤_;omega)
   have hol2:=Aa ⟨4,B,view,A,D,E,true,false,fun i=>if i=4 then⟨true,A,D⟩ else j0,C,F,G,out',dead',st'⟩ ⟨1,view,0,0,[]⟩
   obtain⟨o,hs⟩:=(A2 ⟨4,B,view,A,D,E,true,false,fun i=>if i=4 then⟨true,A,D⟩ else j0,C,F,G,out',dead',st'⟩ ⟨1,view,0,0,[]⟩).to
   rw[hs] at hS hol2⊢
   have hol2:o.length≤out'.length+B:=hol2
   refine FnO.cal (FnO.seenE ?hc4 hS) fun q rs hq=>?hk4
   case hc4=>exact rfl
   obtain⟨rfl,rfl⟩:=hq
   have hjj:∀i,i < 7→((fun i=>if i=4 then(⟨true,A,D⟩:RJ) else j0) i).l.length≤150:=fun i hi=>by
    dsimp only
    split
    ·exact h5
    ·exact ah _
   refine dg (.close (oBs ⟨4,B,view,A,D,E,true,false,fun i=>if i=4 then⟨true,A,D⟩ else j0,C,F,G,o,dead',st'⟩ b e) [(1,5),(2,6),(3,9),(4,8)] (by exact RL5) ⟨_,rfl⟩ rfl (.done (.same ((B1 _ b e h2 h3 (by show 4 < B;omega) (w1.wk (by omega)) hjj (by show o.length≤_;omega) ⟨rfl,hnv⟩).cal fun q rs hq=>?_))))
   obtain⟨rfl,s,rfl,hsh⟩:=hq
   refine .done ?_
   exact .inl (A7 rfl rfl ⟨rfl,s,rfl,fun _=>hsh⟩)
  ·refine⟨⟨bj 5,by show((5:Nat):Int) < ((7:Nat):Int);decide⟩,?_⟩
   have hS:=C9 ⟨5,B,view,A,D,E,true,false,fun i=>if i=5 then⟨true,A,D⟩ else j0,C,F,G,out',dead',st'⟩ (cl (oLs st' e)) ⟨1,view,0,0,[]⟩ (ah _) (by show B≤100;omega) (by show out'.length≤_;omega)
   have hol2:=Aa ⟨5,B,view,A,D,E,true,false,fun i=>if i=5 then⟨true,A,D⟩ else j0,C,F,G,out',dead',st'⟩ ⟨1,view,0,0,[]⟩
   obtain⟨o,hs⟩:=(A2 ⟨5,B,view,A,D,E,true,false,fun i=>if i=5 then⟨true,A,D⟩ else j0,C,F,G,out',dead',st'⟩ ⟨1,view,0,0,[]⟩).to
   rw[hs] at hS hol2⊢
   have hol2:o.length≤out'.length+B:=hol2
   refine FnO.cal (FnO.seenE ?hc5 hS) fun q rs hq=>?hk5
   case hc5=>exact rfl
   obtain⟨rfl,rfl⟩:=hq
   have hjj:∀i,i < 7→((fun i=>if i=5 then(⟨true,A,D⟩:RJ) else j0) i).l.length≤150:=fun i hi=>by
    dsimp only
    split
    ·exact h5
    ·exact ah _
   refine dg (.close (oBs ⟨5,B,view,A,D,E,true,false,fun i=>if i=5 then⟨true,A,D⟩ else j0,C,F,G,o,dead',st'⟩ b e) [(1,5),(2,6),(3,9),(4,8)] (by exact RL5) ⟨_,rfl⟩ rfl (.done (.same ((B1 _ b e h2 h3 (by show 5 < B;omega) (w1.wk (by omega)) hjj (by show o.length≤_;omega) ⟨rfl,hnv⟩).cal fun q rs hq=>?_))))
   obtain⟨rfl,s,rfl,hsh⟩:=hq
   refine .done ?_
   exact .inl (A7 rfl rfl ⟨rfl,s,rfl,fun _=>hsh⟩)
  ·refine⟨⟨bj 6,by show((6:Nat):Int) < ((7:Nat):Int);decide⟩,?_⟩
   have hS:=C9 ⟨6,B,view,A,D,E,true,false,fun i=>if i=6 then⟨true,A,D⟩ else j0,C,F,G,out',dead',st'⟩ (cl (oLs st' e)) ⟨1,view,0,0,[]⟩ (ah _) (by show B≤100;omega) (by show out'.length≤_;omega)
   have hol2:=Aa ⟨6,B,view,A,D,E,true,false,fun i=>if i=6 then⟨true,A,D⟩ else j0,C,F,G,out',dead',st'⟩ ⟨1,view,0,0,[]⟩
   obtain⟨o,hs⟩:=(A2 ⟨6,B,view,A,D,E,true,false,fun i=>if i=6 then⟨true,A,D⟩ else j0,C,F,G,out',dead',st'⟩ ⟨1,view,0,0,[]⟩).to
   rw[hs] at hS hol2⊢
   have hol2:o.length≤out'.length+B:=hol2
   refine FnO.cal (FnO.seenE ?hc6 hS) fun q rs hq=>?hk6
   case hc6=>exact rfl
   obtain⟨rfl,rfl⟩:=hq
   have hjj:∀i,i < 7→((fun i=>if i=6 then(⟨true,A,D⟩:RJ) else j0) i).l.length≤150:=fun i hi=>by
    dsimp only
    split
    ·exact h5
    ·exact ah _
   refine dg (.close (oBs ⟨6,B,view,A,D,E,true,false,fun i=>if i=6 then⟨true,A,D⟩ else j0,C,F,G,o,dead',st'⟩ b e) [(1,5),(2,6),(3,9),(4,8)] (by exact RL5) ⟨_,rfl⟩ rfl (.done (.same ((B1 _ b e h2 h3 (by show 6 < B;omega) (w1.wk (by omega)) hjj (by show o.length≤_;omega) ⟨rfl,hnv⟩).cal fun q rs hq=>?_))))
   obtain⟨rfl,s,rfl,hsh⟩:=hq
   refine .done ?_
   exact .inl (A7 rfl rfl ⟨rfl,s,rfl,fun _=>hsh⟩)
 ·rw[Bool.not_eq_true] at ha
  have eO:Cn ⟨H,B,K,A,D,E,M,N,J,C,F,G,L,I,P⟩ view=(Fl ⟨H,B,K,A,D,E,M,N,J,C,F,G,L,I,P⟩ view,true):=by
   unfold Cn;rw[da hno,da (by rw[ha];decide)]
  rw[ha,eO]
  refine .done ?_
  refine dj (fun _=>?_) fun h=>dc h (by decide)
  refine .inl (A7 rfl rfl ⟨rfl,false,rfl,fun _=>?_⟩)
  rw[eA]
  exact⟨fun _=>⟨rfl,hnv⟩,fun h=>dc h (by decide)⟩
end Go.Proofs.YtihfaocdpmmooaaGreat
