
import Derived.Test.YtihfaocdpmmooaaGreatZGq
import Derived.Test.YtihfaocdpmmooaaGreatZNu
namespace Go.Proofs.YtihfaocdpmmooaaGreat
open Go.RowKit
set_option maxRecDepth 100000
theorem Z8h (k:Nat)(s:Bool)(n:PN)(b e:Nat)(p:RPk)(h:n.dead=false→WNk k n)(hsh:n.dead=false→ShN s n)(hp:p.body.size≤2000000):FnO Tryz.prog 32 [.ptr 0 0,.agg (pkG p)] (cS s n b e) fun g rs=>g=.tup []∧∃s',rs=cS s' (El n p) b e∧(n.dead=false→ShN s' (El n p)):=by
 cases s
 ·exact Zej k n b e p h hsh hp
 ·exact Zfd k n b e p h hsh hp
set_option maxHeartbeats 4000000 in
theorem Z7i (k m:Nat)(l:List GM)(pl:List RN)(way:List RPk)(i:Nat)(x:GM)(hG:GI k m l)(hx:l[i]?=some x)(hob:OB 100 x.r)(hq:∀(j:Nat) (y:GM),l[j]?=some y→j≠i→y.r.out=[])(hw:way.length≤1000)(hwo:∀p∈way,OkP p)(hk:k+450000≤900000000) :
  FnO Tryz.prog 42 [.ptr 0 0,gI i] (cG l pl way) fun g rs=>g=.tup []∧∃l' w',rs=cG l' pl w'∧GI (k+450000) m l'∧Still l'∧(l'.map GM.r,w')=G9 3000 ((l.set i (Jq x)).map GM.r) (Cw way x.r.out)∧w'.length≤1000∧∀p∈w',OkP p:=by
 have hxo:x.n.out=x.r.out:=(hG.ok i x hx).1.sim.out.symm
 refine Ba Tryz.func42 (A5 (O:=oGs l pl way) (n0:=6) rfl) ?_
 refine dg (.close (oGs l pl way) [] (by exact RL6) ⟨_,rfl⟩ rfl (.done (.same ((W7 l pl way i x hx hw (by rw[hxo];have:=hob.1;omega)).cal fun q rs hq=>?_))))
 obtain⟨rfl,rfl⟩:=hq
 rw[hxo]
 refine .opn 0 _ _ _ rfl rfl rfl (.done ?_)
 have hG0:GI k m (l.set i (Jq x)):=hG.set hx (hG.ok i x hx).1.out rfl rfl
 have hS0:Still (l.set i (Jq x)):=Still.set hq rfl
 have hw0:(Cw way x.r.out).length≤1000:=Fh (by omega) _ hw
 have ho0:∀p∈Cw way x.r.out,OkP p:=Iq _ hwo hob.2
 generalize l.set i (Jq x)=l0 at *
 generalize Cw way x.r.out=w0 at *
 refine Z3z (.done ?_)
 refine D2 [0] [] (fun z:Nat × List GM × List RPk=>[(4,gI z.1)]) (fun z=>[(0,.blk [.osl 6,.osl 7,.osl 8,.osl 9] tGr),(6,.slc (z.2.1.map pN) tNp 1),(7,.slc (z.2.1.map pD) tDp 1),(8,.slc (pl.map D6) tRN 12),(9,.vw (z.2.2.map pkG) tPk 3),(10,.fam (z.2.1.map mOb))]) (fun z=>z.1≤3000∧GI (k+150 * z.1) m z.2.1∧Still z.2.1∧G9 (3000 - z.1) (z.2.1.map GM.r) z.2.2=G9 3000 (l0.map GM.r) w0∧z.2.2.length≤1000∧∀p∈z.2.2,OkP p) (fun z=>3000 - z.1) (0,l0,w0) ⟨ah _,hG0,hS0,rfl,hw0,ho0⟩ ⟨⟨rfl,rfl⟩,trivial⟩ (by exact RL6) rfl fun⟨c,l1,w⟩ hI=>?_
 obtain⟨hc,hG1,hS1,hR,hwl,hwp⟩:=hI
 dsimp only at hc hG1 hS1 hR hwl hwp
 have fin:(l1.map GM.r,w)=G9 3000 (l0.map GM.r) w0→∀{own:Os} {n:Nat},leI [(0,0),(1,6),(2,7),(3,8),(4,9),(5,10)] own n (oGs l1 pl w)→Z3l [0] own n (.tup []) (fun g rs=>g=.tup []∧∃l' w',rs=cG l' pl w'∧GI (k+450000) m l'∧Still l'∧(l'.map GM.r,w')=G9 3000 (l0.map GM.r) w0∧w'.length≤1000∧∀p∈w',OkP p):=fun hf own n hl=>.inl (A1 (oGs l1 pl w) [(0,0),(1,6),(2,7),(3,8),(4,9),(5,10)] hl rfl ⟨_,rfl⟩ rfl rfl ⟨rfl,l1,w,rfl,hG1.up (by omega) hk,hS1,hf,hwl,hwp⟩)
 refine df (fun h1=>?_) fun h1=>?_
 rotate_left
 ·have hc3:c=3000:=by have h1:¬(c:Int) < 3000:=h1;omega
  rw[hc3] at hR
  refine Gh.done (fin hR (by exact RL6))
 have h1:(c:Int) < 3000:=h1
 obtain⟨f,hf⟩:∃f,3000 - c=f+1:=⟨3000 - c - 1,by omega⟩
 rw[hf] at hR
 cases w with
 | nil =>
  refine df (fun h2=>dc h2 (by show ¬((0:Nat):Int) > 0;omega)) fun _=>?_
  refine Gh.done (fin hR (by exact RL6))
 | cons p w =>
  refine df (fun _=>?_) fun h2=>dc (show(((p::w).map pkG).length:Int) > 0 by rw[aa,bc];omega) h2
  refine⟨⟨by omega,by rw[aa];show(0:Int) < ((w.length+1:Nat):Int);omega⟩,?_⟩
  refine dk (f:=pkG) (l:=p::w) (i:=0) (x:=p) rfl ?_
  obtain⟨frm,to,body⟩:=p
  have hpO:OkP ⟨frm,to,body⟩:=hwp _ (by simp)
  have hwp2:∀p∈w,OkP p:=fun p hp=>hwp p (List.mem_cons_of_mem _ hp)
  have hwl2:w.length≤1000:=by rw[bc] at hwl;omega
  refine⟨by rw[aa];show 0≤(1:Int)∧(1:Int)≤((w.length+1:Nat):Int)∧((w.length+1:Nat):Int)≤((w.length+1:Nat):Int);omega,?_⟩
  have hRn:¬(0≤to∧to < l1.length)→G9 f (l1.map GM.r) w=G9 3000 (l0.map GM.r) w0:=fun hn=>by
   rw[←hR]
   show _=if 0≤to∧to < (l1.map GM.r).length then _ else _
   rw[aa,da hn]
  have e1:((⟨frm,to,body⟩::w:List RPk).map pkG).drop 1=w.map pkG:=rfl
  refine df (fun h2=>?_) fun h2=>?_
  ·refine df (fun h3=>?_) fun h3=>?_
   ·have h2:to ≥ 0:=h2
    have h3:to < ((l1.map pN).length:Int):=h3
    rw[aa] at h3
    obtain⟨j,rfl⟩:∃j:Nat,to=j:=⟨to.toNat,by omega⟩
    obtain⟨y,hy⟩:∃y,l1[j]?=some y:=⟨_,ab (by omega)⟩
    refine⟨⟨by dsimp only;omega,by dsimp only;rw[aa];omega⟩,?_⟩
    refine dk (f:=pN) (i:=j) (x:=y) hy ?_
    obtain⟨hok,hys,hym⟩:=hG1.ok j y hy
    have hstl:=hS1 j y hy
    have hk1:k+150 * c+150≤900000000:=by omega
    have hjl:j < l1.length:=by omega
    have hR2:G9 f ((l1.map GM.r).set j (Tt (Dk y.r ⟨frm,j,body⟩))) (Cw w (Dk y.r ⟨frm,j,body⟩).out)=G9 3000 (l0.map GM.r) w0:=by
     rw[←hR]
     show _=if 0≤(j:Int)∧(j:Int) < (l1.map GM.r).length then G9 f ((l1.map GM.r).set (j:Int).toNat (Tt (Dk ((l1.map GM.r)[(j:Int).toNat]?.getD (Hy 0 0)) ⟨frm,j,body⟩))) (Cw w (Dk ((l1.map GM.r)[(j:Int).toNat]?.getD (Hy 0 0)) ⟨frm,j,body⟩).out) else _
     rw[aa,db ⟨by omega,by omega⟩,ay,Um hy]
    have hobT:OB 100 (Dk y.r ⟨frm,j,body⟩):=(Zr (c:=0) (k:=m) ⟨by rw[hstl];exact ah _,by rw[hstl];nofun⟩ (by rw[hok.sim.many,hym]) _).up (by have:=hG1.m7;omega)
    obtain⟨s,n,b,e,r⟩:=y
    dsimp only at hys hym hstl hR2 hobT
    have hno:n.out.length≤700000:=by have h:=hok.sim.out;have h:r.out=n.out:=h;rw[←h,hstl];exact ah _
    have hfam:(l1.map mOb)[j]?=some (cl (oSs s n b e)):=by rw[aj,hy];rfl
    refine dg (.tail 0 9 1 _ [.osl 6,.osl 7,.osl 8] [] tGr _ _ _ rfl rfl ⟨by show 1≤((⟨frm,(j:Int),body⟩::w:List RPk).map pkG).length;rw[aa];exact Nat.succ_pos _,rfl⟩ (.take 10 j _ (mOb ⟨s,n,b,e,r⟩) rfl hfam (.lies 13 b _ rfl (Hn ⟨s,n,b,e,r⟩) (.done (.raw 14 13 rfl (.same ((Z8h _ s n b e ⟨frm,j,body⟩ (fun _=>hok.ni.wn hno) (fun _=>hok.sh) (b9 hpO (by omega))).cal fun q rs hq=>?_)))))))
    obtain⟨rfl,s',rfl,hs'⟩:=hq
    refine .put 10 j 13 _ _ rfl (by rw[bf,aa];exact hjl) rfl (.drop 14 _ rfl (.done ?_))
    have hT:=hok.take hk1 ⟨frm,j,body⟩ (hs' hok.ni.dead)
    have hself:=Sim.selfN hT.sim (i:=j) (m:=m) (by have:=(Lx r ⟨frm,j,body⟩).1;have h2:=hok.sim.self;have h2:r.self=n.self:=h2;rw[hys] at h2;exact this.trans h2) (by have:=(Lx r ⟨frm,j,body⟩).2;have h2:=hok.sim.many;have h2:r.many=n.many:=h2;rw[hym] at h2;exact this.trans h2)
    have hTo:(El n ⟨frm,j,body⟩).out=(Dk r ⟨frm,j,body⟩).out:=hT.sim.out.symm
    have hy2:(l1.set j (Hj ⟨s,n,b,e,r⟩ s' ⟨frm,j,body⟩))[j]?=some (Hj ⟨s,n,b,e,r⟩ s' ⟨frm,j,body⟩):=cz hjl
    refine dg (.close (oGs (l1.set j (Hj ⟨s,n,b,e,r⟩ s' ⟨frm,j,body⟩)) pl w) [(0,0),(1,6),(2,7),(3,8),(4,12),(5,10)] ⟨RL1,⟨rfl,rfl,eqR (Ik (y:=Hj ⟨s,n,b,e,r⟩ s' ⟨frm,j,body⟩) hy rfl).symm⟩,⟨rfl,rfl,eqR (Ix (y:=Hj ⟨s,n,b,e,r⟩ s' ⟨frm,j,body⟩) hy rfl).symm⟩,RL1,RL1,⟨rfl,rfl,Hi (E0 l1 j (Hj ⟨s,n,b,e,r⟩ s' ⟨frm,j,body⟩))⟩,trivial⟩ ⟨_,rfl⟩ rfl (.done (.same ((W7 _ pl w j _ hy2 hwl2 (by show(El n ⟨frm,j,body⟩).out.length≤1000000;rw[hTo];have:=hobT.1;omega)).cal fun q rs hq=>?_))))
    obtain⟨rfl,rfl⟩:=hq
    refine .opn 0 _ _ _ rfl rfl rfl (.done ?_)
    rw[List.set_set]
    have hG2:GI (k+150 * (c+1)) m (l1.set j (Jq (Hj ⟨s,n,b,e,r⟩ s' ⟨frm,j,body⟩))):=(hG1.up (j:=k+150 * (c+1)) (by omega) (by omega)).set hy (by have:=hT.out;rw[show k+150 * (c+1)=k+150 * c+150 by omega];exact this) (hself.1.trans hys.symm) (hself.2.trans hym.symm)
    have hS2:Still (l1.set j (Jq (Hj ⟨s,n,b,e,r⟩ s' ⟨frm,j,body⟩))):=Still.set (fun a z hz _=>hS1 a z hz) rfl
    refine⟨by dsimp only;omega,.done ⟨(c+1,l1.set j (Jq (Hj ⟨s,n,b,e,r⟩ s' ⟨frm,j,body⟩)),Cw w (El n ⟨frm,j,body⟩).out),[(6,15),(7,16),(8,17),(9,18),(10,19)],⟨by dsimp only;omega,hG2,hS2,?_,Fh (by omega) _ hwl2,Iq _ hwp2 (by rw[hTo];exact hobT.2)⟩,(by dsimp only;omega),?_⟩⟩
    ·dsimp only
     rw[show 3000 - (c+1)=f by omega,Li,hTo]
     exact hR2
    ·refine⟨?_,?_,rfl⟩<;>repeat' (first|exact trivial|with_reducible rfl|exact rfl|refine And.intro ?_ ?_)
   ·have h3:¬to < ((l1.map pN).length:Int):=h3
    rw[aa] at h3
    have hRn:=hRn (by omega)
    refine⟨by dsimp only;omega,.tail 0 9 1 _ [.osl 6,.osl 7,.osl 8] [] tGr _ _ _ rfl rfl ⟨by show 1≤((⟨frm,to,body⟩::w:List RPk).map pkG).length;rw[aa];exact Nat.succ_pos _,rfl⟩ (.done ⟨(c+1,l1,w),[(9,12)],⟨by dsimp only;omega,hG1.up (by dsimp only;omega) (by dsimp only;omega),hS1,by dsimp only;rw[show 3000 - (c+1)=f by omega];exact hRn,hwl2,hwp2⟩,(by dsimp only;omega),?_⟩)⟩
    refine⟨?_,?_,rfl⟩<;>repeat' (first|exact trivial|with_reducible rfl|exact rfl|refine And.intro ?_ ?_)
  ·have h2:¬to ≥ 0:=h2
   have hRn:=hRn (by omega)
   refine⟨by dsimp only;omega,.tail 0 9 1 _ [.osl 6,.osl 7,.osl 8] [] tGr _ _ _ rfl rfl ⟨by show 1≤((⟨frm,to,body⟩::w:List RPk).map pkG).length;rw[aa];exact Nat.succ_pos _,rfl⟩ (.done ⟨(c+1,l1,w),[(9,12)],⟨by dsimp only;omega,hG1.up (by dsimp only;omega) (by dsimp only;omega),hS1,by dsimp only;rw[show 3000 - (c+1)=f by omega];exact hRn,hwl2,hwp2⟩,(by dsimp only;omega),?_⟩)⟩
   refine⟨?_,?_,rfl⟩<;>repeat' (first|exact trivial|with_reducible rfl|exact rfl|refine And.intro ?_ ?_)
end Go.Proofs.YtihfaocdpmmooaaGreat
