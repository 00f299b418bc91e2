
import Derived.Test.YtmmdikhljefeiaaGreatWA
import Derived.Test.YtmmdikhljefeiaaGreatBM
import Derived.Deep.LoopGhost
import Derived.Deep.RegionHeld3
import Derived.IntWalk
namespace Go.Proofs.YtmmdikhljefeiaaGreat
open Go.RowKit Go.MapKept
def Dn (r:RFs):Nat:=(r.ins.map λx=>x.On.length).sum
def K4 (r:RFs):Int:=r.room - Dn r
def Kt (r:RFs)(k:Int):Nat:=(A3 r.ins k).On.length
theorem Z5z {r:RFs}{K:Nat}(b:Wf r K){D:List Int}(d:D.Nodup)(f:∀k,k∈D↔∃x∈r.ins,x.id=k):(D.map (Kt r)).sum=Dn r:=by
 have c:D.Perm (r.ins.map (·.id)):=(List.perm_ext_iff_of_nodup d b.ids).2 λk=>by
  rw[f];constructor
  .rintro⟨x,a,rfl⟩;exact bk.2 ⟨x,a,rfl⟩
  .intro h;obtain⟨x,a,e⟩:=bk.1 h;exact⟨x,a,e⟩
 rw[(c.map (Kt r)).sum_nat,List.map_map];unfold Dn
 congr 1
 apply List.map_congr_left;intro x a;show(A3 r.ins x.id).On.length=_;rw[b.byId a]
theorem NodeR.on {w:World}{r:RFs}{x:RIn}{n:Nd}(h:NodeR w r x n)(a:x.kind=1):x.On.length<=65536:=by
 obtain⟨sz,bl,b,d⟩:=h.file a;rw[Er d];have:=Iy 65536 (bl.map (·.1)) b.map.nodup (λk a=>by obtain⟨p,c,rfl⟩:=bk.1 a;exact b.keys p c)
 simpa using this
set_option maxRecDepth 100000 in
set_option maxHeartbeats 4000000 in
theorem Vp {w:World}{f mi mg K:Nat}{r:RFs}{N:List Nd}(h:FsN w f mi mg r N)(hW:Wf r K) :
  Calls Tryz.prog 87 #[.pointer (some ⟨f,0,none⟩)] w λe w'=>e=.returned (.int .i64 (Dn r:Int))/\Below w.heap.size w w':=by
 obtain⟨-,c1,-⟩:=h.cells;have HH:=aa h;have HW:=aa hW;have hlen:=h.len hW;have hi:=h.imap;obtain⟨L,hL⟩:∃L,(N.map λn=>(n.id,n.blk))=L:=⟨_,rfl⟩;rw[hL] at hi;have hLl:L.length=N.length:=by rw[<-hL];simp
 have HI:=aa hi;have HL:=aa hL;have HLl:=aa hLl;clear hi hL hLl;have hcnt:=hW.cnt;have HSum:Hid (∀D:List Int,D.length<=200->(D.map (Kt r)).sum<=D.length * 65536):=aa (by
  intro D _
  induction D with
  | nil=>simp
  | cons k D ih =>
   have hk:Kt r k<=65536:=by
    unfold Kt;by_cases e:(A3 r.ins k).id=0
    .rw[Jz]
     .simp[Z71]
     .intro x hx e2;rw[<-e2,hW.byId hx] at e;exact hW.ne0 hx e
    .obtain⟨m1,_⟩:=Cx e;obtain⟨n,hn,hr⟩:=h.at_ hW m1;by_cases e2:(A3 r.ins k).kind=1
     .exact hr.on e2
     .rw[(hW.file _ m1 e2).2];simp
   rw[cv,List.sum_cons,bn];have:=ih (by rename_i hh;simp at hh;omega);omega)
 clear h hW
 go_enter Tryz.func87,Tryz.ntmps87
 go_wp2_with (at_range;refine Hp rfl (.tmp 11) 144 rfl Tryz.underlying144 rfl HI.out ?_;intro w2 hr2 hb2 hs2)
 go_frame
 have HR2:=aa hr2;have HB2:=aa hb2;clear hr2 hb2;obtain⟨rr,hrr⟩:∃rr,w.heap.size=rr:=⟨_,rfl⟩;rw[hrr] at HR2⊢;have hrr':w.heap.size<=rr:=by omega
 clear hrr
 go_loopg [3] N.length (λgg v wr=>∃D:List Int,D.length+gg=N.length/\RanB wr rr mi Aw De L D/\v=.int .i64 (((D.map (Kt r)).sum:Nat):Int)/\Below w.heap.size w wr)
 case atStart=>exact⟨[],by simp,HR2.out,rfl,HB2.out⟩
 case round =>
  obtain⟨D,hD,hR,rfl,hbr⟩:=hrel;have HR:=aa hR;have HBr:=aa hbr;have hDs:=HSum.out D (by omega);clear hR hbr
  go_wp2_with (at_next;refine Im rfl (.tmp 12) rfl rfl HR.out ?_ ?_)
  .intro hall;have HAll:=aa hall;clear hall
   go_wp2
   go_ret
   refine⟨Kh ?_,HBr.out⟩;rw[Z5z HW.out HR.out.nodup];intro k;constructor
   .intro hk;obtain⟨v,hv⟩:=HR.out.sub k hk;rw[<-HL.out] at hv;obtain⟨n,hn,e⟩:=bk.1 hv;obtain⟨x,hx,hr⟩:=HH.out.node n hn;exact⟨x,hx,by rw[<-hr.id];exact(Prod.mk.inj e).1⟩
   .rintro⟨x,hx,rfl⟩;obtain⟨n,hn,e⟩:=HH.out.all x hx;have:=HAll.out n.id n.blk (by rw[<-HL.out];exact bk.2 ⟨n,hn,rfl⟩);rw[e] at this;exact this
  .intro k v w3 hkv hkD hR3 hg3 hs3 hen;have hlt:=HR.out.len_lt hkv hkD;rw[HLl.out] at hlt;rw[<-HL.out] at hkv;obtain⟨n,hn,e⟩:=bk.1 hkv;obtain⟨rfl,rfl⟩:=Prod.mk.inj e;obtain⟨g,rfl⟩:∃g,gk=g+1:=⟨gk - 1,by omega⟩;have hb3:=Below.grownBy HBr.out hg3 HBr.out.size (λk hk=>by injection hk with hk;omega);have h3:=HH.out.below HW.out hb3;obtain⟨x,hx,hr⟩:=h3.node n hn;obtain⟨-,-,-,-,-,c5⟩:=hr.cells;have hta:=λw=>M6 w x n;have hon:Kt r n.id=x.On.length:=by unfold Kt;rw[hr.id,HW.out.byId hx]
   have hsum:((D++[n.id]).map (Kt r)).sum=(D.map (Kt r)).sum+x.On.length:=by rw[ba,List.sum_append,cv,List.map_nil,List.sum_cons,List.sum_nil,hon];omega
   have HR3:=aa hR3;have HB3:=aa hb3;have HSm:=aa hsum;unfold Aw De at hen;by_cases hk:x.kind=1
   .simp only[hk,if_true,De] at hta;have hox:=hr.on hk;obtain⟨sz,bl,g1,g2⟩:=hr.file hk;have HBl:=aa (Nr g1);rw[<-Er g2] at HBl;generalize Ad x n=hv at *;generalize hol:x.On.length=ol at *;generalize hsd:(D.map (Kt r)).sum=sd at *;clear hkv hkD hR3 hg3 hb3 h3 hr hon hsum g1 g2 hol hsd hx hk e
    go_wp2_with (go_at_call 83;(with_reducible refine HBl.out.mono ?_);rintro e w4 ⟨rfl,rfl⟩)
    go_roundg g
    case rel=>exact⟨D++[n.id],by simp;omega,HR3.out,by rw[HSm.out];go_num,HB3.out⟩
    case measure=>omega
   .simp only[hk,if_false] at hta;have ho0:x.On.length=0:=by rw[(HW.out.file x hx hk).2];rfl
    rw[ho0] at HSm;generalize Ad x n=hv at *;generalize hsd:(D.map (Kt r)).sum=sd at *;clear hkv hkD hR3 hg3 hb3 h3 hr hon hsum hsd hx hk e ho0
    go_wp2
    go_roundg g
    case rel=>exact⟨D++[n.id],by simp;omega,HR3.out,by rw[HSm.out];rfl,HB3.out⟩
    case measure=>omega
set_option maxRecDepth 100000 in
set_option maxHeartbeats 4000000 in
theorem Z4e {w:World}{f mi mg K:Nat}{r:RFs}{N:List Nd}(h:FsN w f mi mg r N)(hW:Wf r K) :
  Calls Tryz.prog 53 #[.pointer (some ⟨f,0,none⟩)] w λe w'=>e=.returned (.tuple #[.int .i64 (K4 r),.int .i64 (200 - (r.ins.length:Int))])/\Below w.heap.size w w':=by
 have HU:=aa (show ∀w2,Below w.heap.size w w2->Calls Tryz.prog 87 #[.pointer (some ⟨f,0,none⟩)] w2 λe w'=>e=.returned (.int .i64 (Dn r:Int))/\Below w.heap.size w w' from λw2 hb=>(Vp (h.below hW hb) hW).mono λe w' ⟨a,b⟩=>⟨a,hb.trans (b.mono hb.size)⟩);have hk:∀w2,Below w.heap.size w w2->w2.cell? ⟨f,0,none⟩=some (.int .i64 r.room)/\w2.cell? ⟨f,1,none⟩=some (.map (some mi))/\(Builtin.len_ #[144] 3 #[.map (some mi)]).run Tryz.prog w2=.ok (.int .i64 (r.ins.length:Int)) w2:=λw2 hb=>by have h2:=h.below hW hb;have hl:=Bg (P:=Tryz.prog) (ty:=3) (t:=144) Tryz.underlying144 h2.imap;rw[ap,h.len hW] at hl;exact⟨h2.cells.1,h2.cells.2.1,hl⟩
 have hsp:=hW.sp;have hrm:=hW.rm;have hcnt:=hW.cnt
 change ((Dn r:Nat):Int)<=r.room at hsp
 have HRp:=aa (show K4 r=r.room - Dn r from rfl);have HK:=aa hk;obtain⟨c0,c1,c2⟩:=hk w (ab _ _);have hbz:=ab w.heap.size w;have hbz2:=hbz.drew;have hw1:IntKind.i64.wrap (r.room - (Dn r:Int))=r.room - (Dn r:Int):=IntWalk.i64_in _ (by omega);have hw2:IntKind.i64.wrap (200 - (r.ins.length:Int))=200 - (r.ins.length:Int):=IntWalk.i64_in _ (by omega);clear h hW hk;generalize Dn r=u at *;generalize r.ins.length=ln at *;generalize r.room=rm at *
 go_enter Tryz.func53,Tryz.ntmps53
 go_wp2
 go_region_held3 (λw'=>w'.cell? ⟨f,0,none⟩=some (.int .i64 rm)/\w'.cell? ⟨f,1,none⟩=some (.map (some mi))/\(Builtin.len_ #[144] 3 #[.map (some mi)]).run Tryz.prog w'=.ok (.int .i64 (ln:Int)) w')
  (first
   | exact HK.out _ (by assumption)
   | go_keep)
  (first
   | (go_at_call 87;(with_reducible refine(HU.out _ (by assumption)).mono ?_);rintro e w3 ⟨rfl,hb3⟩))
 all_goals
  go_wp2
  go_ret2
  rw[HRp.out];exact⟨rfl,by assumption⟩
theorem Z1s {w w':World}{f u l K:Nat}{r:RFs}{N:List Nd}(h:FsN w f u l r N)(I:Wf r K){x:RIn}{nx:Nd}(W:x∈r.ins)(n:x.kind=1)(i:nx∈N)(a:NodeR w r x nx){size:Nat}{bl:List (Nat × List UInt8)}
  (C:Frm [nx.b,nx.m] w w') (T:Raw w' nx.b nx.m size bl) (U:Kz size bl x.B x.On):FsN w' f u l r N:=by
 obtain⟨sz,S,z,X⟩:=a.file n;have J:nx.blk≠nx.b:=Av a.head z.head (by decide);have M:nx.m≠nx.blk:=A8 z.map a.head;have H:w'.heap[nx.blk]?=some (.cells (Ks x (A5 r x) nx) 143 (0,0)):=(C.block _ (An a.head) (by simp;exact⟨J,λe=>M e.symm⟩)).trans a.head;obtain⟨L,O,Q,P⟩:=h.lt I;obtain⟨D,R,V⟩:=h.off nx i;have c:nx.big=true:=by rw[a.big,n];rfl
 obtain⟨G,v,p⟩:=h.gmap;have j:∀k,k < w.heap.size->k ∉ nx.foot->w'.heap[k]?=w.heap[k]?:=λk s A=>C.block k s (by simp;exact⟨λe=>A (e ▸ Nd.b_mem c),λe=>A (e ▸ Nd.m_mem c)⟩);refine⟨(j f L D).trans h.head,h.imap.of_block (j u O R),⟨G,v.of_block (j l Q V),p⟩,λt d=>?_,h.all,h.sep,h.off,h.mm⟩;by_cases e:t=nx
 .subst e;exact⟨x,W,⟨a.id,H,a.big,λ_=>⟨size,bl,T,U⟩,λq=>dt (n.symm.trans q) (by decide)⟩⟩
 .obtain⟨y,E,o⟩:=h.node t d;exact⟨y,E,o.keep (λk g=>j k (P t d k g) (λF=>h.apart d i e k g F)) rfl (λ_=>rfl)⟩
def Bz (r:RFs)(h:Int × Int)(a:Int)(b:List UInt8)(t:Int):RFs × Int :=
 if B7 r h≠0 then(r,B7 r h) else if a < 0\/Em t=false then(r,1)
 else if K4 r < (Gt (A3 r.ins h.1).On a b.length:Int)\/D9 a b.length=false then(r,177)
 else(Hn r (Gl (A3 r.ins h.1) (rwB (A3 r.ins h.1).B a b) (Z2j (A3 r.ins h.1).On a b.length) t),0)
set_option maxRecDepth 100000 in
set_option linter.unusedSimpArgs false in
set_option maxHeartbeats 8000000 in
theorem Xh {w:World}{f mi mg K:Nat}{r:RFs}{N:List Nd}(h:FsN w f mi mg r N)(hW:Wf r K)(i g a:Int)(A:Option Addr)(c:Nat)(l:List UInt8)(hl0:l.length<=maxLen)(hlc:l.length<=c)(hrd:Rd w w.heap.size 1 Ih A l)(t:Int) :
  Calls Tryz.prog 74 #[.pointer (some ⟨f,0,none⟩),.agg #[.int .i64 i,.int .i64 g],.int .i64 a,.slice A l.length c,.int .i64 t] w
   λe w'=>e=.returned (.int .i64 (Bz r (i,g) a l t).2)/\Cr w w' f mi mg N (Bz r (i,g) a l t).1:=by
 obtain⟨w1,hw1,hB,hs1,hb0⟩:=Ht w #[.int .i64 i,.int .i64 g] 31;have t0:w1.cell? ⟨w.heap.size,0,none⟩=some (.int .i64 i):=by rw[A1 hb0];rfl
 have t1:w1.cell? ⟨w.heap.size,1,none⟩=some (.int .i64 g):=by rw[A1 hb0];rfl
 have h1:=h.below hW hB;have HW1:=aa hw1;have HB:=aa hB;have HSt:=aa (show ∀w',Below w.heap.size w w'->Cr w w' f mi mg N r from λw' hb=>Dv h hW hb);have HC:=aa (M9 t);by_cases he:B7 r (i,g)=0
 .obtain⟨hl,hk⟩:=Dt he;obtain⟨m1,m2,m3⟩:=Ac hl;obtain⟨nx,hn,hr⟩:=h1.at_ hW m1;have HSh:=aa (Lk h1 hW i g he hn (hr.id.trans m2));have hne:¬B7 r (i,g)≠0:=by simp[he]
  have hcs:(a < 0\/0<=a/\Em t=false)\/0<=a/\Em t=true/\(K4 r < (Gt (A3 r.ins i).On a l.length:Int)\/(Gt (A3 r.ins i).On a l.length:Int)<=K4 r/\(D9 a l.length=false\/D9 a l.length=true)):=by cases Em t<;>cases D9 a l.length<;>simp<;>omega
  have HNd:=aa (show ∀w2,Below w1.heap.size w1 w2->Calls Tryz.prog 102 #[.pointer (some ⟨nx.b,0,none⟩),.int .i64 a,.slice A l.length c] w2
    λe w'=>e=.returned (.int .i64 (Gt (A3 r.ins i).On a l.length:Nat))/\Below w1.heap.size w1 w' from λw2 hb=>by
   obtain⟨sz,bl,g1,g2⟩:=(hr.below (.inl hk) hb).file hk;rw[Qt g2];exact(Z6d g1 a A l.length c hl0).mono λe w' ⟨a1,a2⟩=>⟨a1,hb.trans (a2.mono hb.size)⟩)
  have HU:=aa (show ∀w2,Below w1.heap.size w1 w2->Calls Tryz.prog 87 #[.pointer (some ⟨f,0,none⟩)] w2 λe w'=>e=.returned (.int .i64 (Dn r:Int))/\Below w1.heap.size w1 w' from λw2 hb=>(Vp (h1.below hW hb) hW).mono λe w' ⟨a1,a2⟩=>⟨a1,hb.trans (a2.mono hb.size)⟩);have HWr:=aa (show ∀w2,Below w1.heap.size w1 w2->Calls Tryz.prog 103 #[.pointer (some ⟨nx.b,0,none⟩),.int .i64 a,.slice A l.length c] w2
    λe w'=>e=.returned (.bool (D9 a l.length))/\(D9 a l.length=false->Cr w w' f mi mg N r)/\w'.cell? ⟨nx.blk,3,none⟩=some (.int .i64 (A3 r.ins i).time)/\w'.frozen? ⟨nx.blk,3,none⟩=false/\w'.cell? ⟨f,0,none⟩=some (.int .i64 r.room) /\
     ∀w5,w'.setCell ⟨nx.blk,3,none⟩ (.int .i64 t)=w5->Cr w w5 f mi mg N (Hn r (Gl (A3 r.ins i) (rwB (A3 r.ins i).B a l) (Z2j (A3 r.ins i).On a l.length) t)) from λw2 hb=>by
   have hr2:=hr.below (.inl hk) hb;obtain⟨sz,bl,g1,g2⟩:=hr2.file hk;have hbw:Below w.heap.size w w2:=hB.trans (hb.mono hB.size);refine(Z0e g1 a A c l hl0 hlc ((hrd.below hbw).more hbw.size)).mono λe w' ⟨a1,a2,a3⟩=>?_;have n1:nx.blk≠nx.b:=Av hr2.head g1.head (by decide);have n2:nx.m≠nx.blk:=A8 g1.map hr2.head;have hh:w'.heap[nx.blk]?=_:=(a3.block nx.blk (An hr2.head) (by simp;exact⟨n1,λe=>n2 e.symm⟩)).trans hr2.head;have h2:=h1.below hW hb;have hbig:nx.big=true:=by rw[hr2.big,hk];rfl
   have hff:w'.heap[f]?=_:=(a3.block f (An h2.head) (by simp;exact⟨λe=>(h2.off nx hn).1 (e ▸ Nd.b_mem hbig),λe=>(h2.off nx hn).1 (e ▸ Nd.m_mem hbig)⟩)).trans h2.head;refine⟨a1,λq=>?_,by rw[A1 hh];rfl,frozen_of_row w' nx.blk 3 _ _ hh,by rw[A1 hff];rfl,λw5 hw5=>?_⟩
   .have hbl:Ms bl a l=bl:=by unfold Ms;rw[dp (by rw[q];simp)]
    have hsz:Ez sz a l.length=sz:=by unfold Ez;rw[dp (by rw[q];simp)]
    rw[hbl,hsz] at a2;refine⟨N,Z1s h2 hW m1 hk hn hr2 a3 a2 g2,λk hk=>.inl hk,((Frm.of_below hbw).trans (a3.mono λk hk'=>?_))⟩;simp at hk';rcases hk' with rfl | rfl
    .exact Ak hn (Nd.b_mem hbig)
    .exact Ak hn (Nd.m_mem hbig)
   .have:=Y9 (h1.below hW hb) hW m1 hk hn hr2 a3 a2 (Nc g2 a l) hw5;obtain⟨N',x1,x2,x3⟩:=this;exact⟨N',x1,λk hk=>by rcases x2 k hk with a | a;exact .inl a;exact .inr (cn hbw.size a),(Frm.of_below hbw).trans x3⟩)
  have HK:=aa (show ∀w2,Below w1.heap.size w1 w2->w2.cell? ⟨f,0,none⟩=some (.int .i64 r.room) from λw2 hb=>(h1.below hW hb).cells.1);have hsp:=hW.sp;have hrm:=hW.rm
  change ((Dn r:Nat):Int)<=r.room at hsp
  have hw1':IntKind.i64.wrap (r.room - (Dn r:Int))=r.room - (Dn r:Int):=IntWalk.i64_in _ (by omega);have hrp:K4 r=r.room - (Dn r:Int):=rfl;generalize (A3 r.ins i).time=tm0 at *;rcases hcs with q | ⟨q,qc,q2 | ⟨q2,q3 | q3⟩⟩
  .rw[show Bz r (i,g) a l t=(r,1) by unfold Bz;rw[dp hne,dq (by rcases q with q | q;exact .inl q;exact .inr q.2)]];generalize l.length=ll at *;clear hw1 hB hb0 h h1 hW he hl hk m1 m2 m3 hn hr hne HWr HNd HU HK hsp hrm hw1' hrp hrd hl0 hlc;rcases q with q | ⟨q,qc⟩
   .go_enter Tryz.func74,Tryz.ntmps74
    go_wp2_with fail
    rw[HW1.out]
    go_wp2_with (go_at_call 101;(with_reducible refine HSh.out.mono ?_);rintro e w3 ⟨rfl,hB3⟩;replace hB3:=aa hB3)
    go_ret
    exact⟨rfl,HSt.out _ (HB.out.trans (hB3.out.mono (by omega)))⟩
   .rw[qc] at HC
    go_enter Tryz.func74,Tryz.ntmps74
    go_wp2_with fail
    rw[HW1.out]
    go_wp2_with (first
     | (go_at_call 101;(with_reducible refine HSh.out.mono ?_);rintro e w3 ⟨rfl,hB3⟩;replace hB3:=aa hB3)
     | (go_at_call 94;(with_reducible refine(HC.out _).mono ?_);rintro e w4 ⟨rfl,rfl⟩))
    go_ret
    exact⟨rfl,HSt.out _ (HB.out.trans (hB3.out.mono (by omega)))⟩
  .rw[show Bz r (i,g) a l t=(r,177) by unfold Bz;rw[dp hne,dp (by rw[qc];simp;omega),dq (.inl q2)]];rw[qc] at HC;rw[hrp] at q2;have q4:decide (r.room - (Dn r:Int) < (Gt (A3 r.ins i).On a l.length:Int))=true:=decide_eq_true q2;generalize l.length=ll at *;generalize Gt (A3 r.ins i).On a ll=nd at *;generalize Dn r=u at *;generalize r.room=rm at *;clear hw1 hB hb0 h h1 hW he hl hk m1 m2 m3 hn hr hne qc hrd hl0 hlc HWr hrp
   go_enter Tryz.func74,Tryz.ntmps74
   go_wp2_with fail
   rw[HW1.out]
   go_upto_region 6 with(first
    | (go_at_call 101;(with_reducible refine HSh.out.mono ?_);rintro e w3 ⟨rfl,hB3⟩;have c0:=HK.out w3 hB3)
    | (go_at_call 94;(with_reducible refine(HC.out _).mono ?_);rintro e w4 ⟨rfl,rfl⟩))
   have hB3d:=hB3.drew;refine wp_region_held_drew (S:=λw'=>w'.cell? ⟨f,0,none⟩=some (.int .i64 rm)) (by kernel_rfl) (HK.out w3.drew hB3d) (λhHeld=>?_);refine wpAnyH_take (i:=0) (v:=?_) rfl (by kernel_rfl) (by kernel_rfl) (by kernel_rfl) (λ_ _ _ h=>h) (aj ⟨by rfl,?_⟩) (by assumption) ?_
   rotate_left
   .intro w hSw
    (try subst hSw)
    go_simp
    first | done | with_reducible rfl
   simp -failIfUnchanged only[Act.put,List.getElem_toArray,List.getElem_cons_zero,List.getElem_cons_succ,List.setIfInBounds_toArray,List.set_cons_zero,List.set_cons_succ];refine wpAnyH_take (i:=1) (v:=?_) rfl (by kernel_rfl) (by kernel_rfl) (by kernel_rfl) (λ_ _ _ h=>h) (aj ⟨by rfl,?_⟩) (by assumption) ?_
   rotate_left
   .intro w hSw
    (try subst hSw)
    go_simp
    first | done | with_reducible rfl
   simp -failIfUnchanged only[Act.put,List.getElem_toArray,List.getElem_cons_zero,List.getElem_cons_succ,List.setIfInBounds_toArray,List.set_cons_zero,List.set_cons_succ];refine wpAnyH_take (i:=2) (v:=?_) rfl (by kernel_rfl) (by kernel_rfl) (by kernel_rfl) (λ_ _ _ h=>h) (aj ⟨by rfl,?_⟩) (by assumption) ?_
   rotate_left
   .intro w hSw
    (try subst hSw)
    go_simp
    first | done | with_reducible rfl
   simp -failIfUnchanged only[Act.put,List.getElem_toArray,List.getElem_cons_zero,List.getElem_cons_succ,List.setIfInBounds_toArray,List.set_cons_zero,List.set_cons_succ];refine wpAnyH_take (i:=4) (v:=?_) rfl (by kernel_rfl) (by kernel_rfl) (by kernel_rfl) (λ_ _ _ h=>h) (aj ⟨by rfl,?_⟩) (by assumption) ?_
   rotate_left
   .intro w hSw
    (try subst hSw)
    go_simp
    first | done | with_reducible rfl
   simp -failIfUnchanged only[Act.put,List.getElem_toArray,List.getElem_cons_zero,List.getElem_cons_succ,List.setIfInBounds_toArray,List.set_cons_zero,List.set_cons_succ];refine wpAnyH_take (i:=5) (v:=?_) rfl (by kernel_rfl) (by kernel_rfl) (by kernel_rfl) (λ_ _ _ h=>h) (aj ⟨by rfl,?_⟩) (by assumption) ?_
   rotate_left
   .intro w hSw
    (try subst hSw)
    go_simp
    first | done | with_reducible rfl
   simp -failIfUnchanged only[Act.put,List.getElem_toArray,List.getElem_cons_zero,List.getElem_cons_succ,List.setIfInBounds_toArray,List.set_cons_zero,List.set_cons_succ];refine wpAnyH_take (i:=6) (v:=?_) rfl (by kernel_rfl) (by kernel_rfl) (by kernel_rfl) (λ_ _ _ h=>h) (aj ⟨by rfl,?_⟩) (by assumption) ?_
   rotate_left
   .intro w hSw
    (try subst hSw)
    go_simp
    first | done | with_reducible rfl
   simp -failIfUnchanged only[Act.put,List.getElem_toArray,List.getElem_cons_zero,List.getElem_cons_succ,List.setIfInBounds_toArray,List.set_cons_zero,List.set_cons_succ];refine wpAnyH_take (i:=7) (v:=?_) rfl (by kernel_rfl) (by kernel_rfl) (by kernel_rfl) (λ_ _ _ h=>h) (aj ⟨by rfl,?_⟩) (by assumption) ?_
   rotate_left
   .intro w hSw
    (try subst hSw)
    go_simp
    first | done | with_reducible rfl
   simp -failIfUnchanged only[Act.put,List.getElem_toArray,List.getElem_cons_zero,List.getElem_cons_succ,List.setIfInBounds_toArray,List.set_cons_zero,List.set_cons_succ];refine wpAnyH_take (i:=8) (v:=?_) rfl (by kernel_rfl) (by kernel_rfl) (by kernel_rfl) (λ_ _ _ h=>h) (aj ⟨by rfl,?_⟩) (by assumption) ?_
   rotate_left
   .intro w hSw
    (try subst hSw)
    go_simp
    first | done | with_reducible rfl
   simp -failIfUnchanged only[Act.put,List.getElem_toArray,List.getElem_cons_zero,List.getElem_cons_succ,List.setIfInBounds_toArray,List.set_cons_zero,List.set_cons_succ];refine wpAnyH_ready (rs:=[3]) (by kernel_rfl) (by simp) ?_;refine AllReadyH.cons rfl (λK hK=>?_) AllReadyH.nil
   go_simp
   refine(HNd.out _ (by assumption)).mono ?_;rintro e w5 ⟨rfl,hb5⟩
   go_wp2_with fail
   refine hK.out _ _ (HK.out _ hb5) (λhHeld2=>?_);clear hK;simp -failIfUnchanged only[Act.put,List.getElem_toArray,List.getElem_cons_zero,List.getElem_cons_succ,List.setIfInBounds_toArray,List.set_cons_zero,List.set_cons_succ];refine wpAnyH_ready (rs:=[9]) (by kernel_rfl) (by simp) ?_;refine AllReadyH.cons rfl (λK hK=>?_) AllReadyH.nil
   go_simp
   refine(HU.out _ (by assumption)).mono ?_;rintro e w6 ⟨rfl,hb6⟩
   go_wp2_with fail
   refine hK.out _ _ (HK.out _ hb6) (λhHeld2=>?_);clear hK;simp -failIfUnchanged only[Act.put,List.getElem_toArray,List.getElem_cons_zero,List.getElem_cons_succ,List.setIfInBounds_toArray,List.set_cons_zero,List.set_cons_succ];refine wpAnyH_take (i:=10) (v:=?_) rfl (by kernel_rfl) (by kernel_rfl) (by kernel_rfl) (λ_ _ _ h=>h) (aj ⟨by rfl,?_⟩) (by assumption) ?_
   rotate_left
   .intro w hSw
    (try subst hSw)
    go_simp
    first | done | with_reducible rfl
   simp -failIfUnchanged only[Act.put,List.getElem_toArray,List.getElem_cons_zero,List.getElem_cons_succ,List.setIfInBounds_toArray,List.set_cons_zero,List.set_cons_succ];refine wpAnyH_take (i:=11) (v:=?_) rfl (by kernel_rfl) (by kernel_rfl) (by kernel_rfl) (λ_ _ _ h=>h) (aj ⟨by rfl,?_⟩) (by assumption) ?_
   rotate_left
   .intro w hSw
    (try subst hSw)
    go_simp
    first | done | with_reducible rfl
   simp -failIfUnchanged only[Act.put,List.getElem_toArray,List.getElem_cons_zero,List.getElem_cons_succ,List.setIfInBounds_toArray,List.set_cons_zero,List.set_cons_succ];refine wpAnyH_take (i:=12) (v:=?_) rfl (by kernel_rfl) (by kernel_rfl) (by kernel_rfl) (λ_ _ _ h=>h) (aj ⟨by rfl,?_⟩) (by assumption) ?_
   rotate_left
   .intro w hSw
    (try subst hSw)
    go_simp
    first | done | with_reducible rfl
   simp -failIfUnchanged only[Act.put,List.getElem_toArray,List.getElem_cons_zero,List.getElem_cons_succ,List.setIfInBounds_toArray,List.set_cons_zero,List.set_cons_succ];refine wpAnyH_take (i:=13) (v:=undef) rfl (by kernel_rfl) (by kernel_rfl) (by kernel_rfl) (λ_ _ _ h=>h) (Or.inr ⟨by rfl,rfl⟩) (by assumption) ?_;simp -failIfUnchanged only[Act.put,List.getElem_toArray,List.getElem_cons_zero,List.getElem_cons_succ,List.setIfInBounds_toArray,List.set_cons_zero,List.set_cons_succ];refine wpAnyH_take (i:=14) (v:=undef) rfl (by kernel_rfl) (by kernel_rfl) (by kernel_rfl) (λ_ _ _ h=>h) (Or.inr ⟨by rfl,rfl⟩) (by assumption) ?_;simp -failIfUnchanged only[Act.put,List.getElem_toArray,List.getElem_cons_zero,List.getElem_cons_succ,List.setIfInBounds_toArray,List.set_cons_zero,List.set_cons_succ];refine wpAnyH_take (i:=15) (v:=undef) rfl (by kernel_rfl) (by kernel_rfl) (by kernel_rfl) (λ_ _ _ h=>h) (Or.inr ⟨by rfl,rfl⟩) (by assumption) ?_;simp -failIfUnchanged only[Act.put,List.getElem_toArray,List.getElem_cons_zero,List.getElem_cons_succ,List.setIfInBounds_toArray,List.set_cons_zero,List.set_cons_succ];refine wpAnyH_take (i:=16) (v:=undef) rfl (by kernel_rfl) (by kernel_rfl) (by kernel_rfl) (λ_ _ _ h=>h) (Or.inr ⟨by rfl,rfl⟩) (by assumption) ?_;simp -failIfUnchanged only[Act.put,List.getElem_toArray,List.getElem_cons_zero,List.getElem_cons_succ,List.setIfInBounds_toArray,List.set_cons_zero,List.set_cons_succ];refine wpAnyH_take (i:=17) (v:=undef) rfl (by kernel_rfl) (by kernel_rfl) (by kernel_rfl) (λ_ _ _ h=>h) (Or.inr ⟨by rfl,rfl⟩) (by assumption) ?_;simp -failIfUnchanged only[Act.put,List.getElem_toArray,List.getElem_cons_zero,List.getElem_cons_succ,List.setIfInBounds_toArray,List.set_cons_zero,List.set_cons_succ];refine wpAnyH_take (i:=18) (v:=?_) rfl (by kernel_rfl) (by kernel_rfl) (by kernel_rfl) (λ_ _ _ h=>h) (aj ⟨by rfl,?_⟩) (by assumption) ?_
   rotate_left
   .intro w hSw
    (try subst hSw)
    go_simp
    first | done | with_reducible rfl
   simp -failIfUnchanged only[Act.put,List.getElem_toArray,List.getElem_cons_zero,List.getElem_cons_succ,List.setIfInBounds_toArray,List.set_cons_zero,List.set_cons_succ];refine wpAnyH_take (i:=19) (v:=?_) rfl (by kernel_rfl) (by kernel_rfl) (by kernel_rfl) (λ_ _ _ h=>h) (aj ⟨by rfl,?_⟩) (by assumption) ?_
   rotate_left
   .intro w hSw
    (try subst hSw)
    go_simp
    first | done | with_reducible rfl
   simp -failIfUnchanged only[Act.put,List.getElem_toArray,List.getElem_cons_zero,List.getElem_cons_succ,List.setIfInBounds_toArray,List.set_cons_zero,List.set_cons_succ];refine wpAnyH_done (by kernel_rfl) ?_ _
   go_wp2_with fail
   go_ret
   exact⟨rfl,HSt.out _ (HB.out.trans (hb6.mono (by omega)))⟩
  .rw[show Bz r (i,g) a l t=(r,177) by unfold Bz;rw[dp hne,dp (by rw[qc];simp;omega),dq (.inr q3)]];rw[qc] at HC;rw[hrp] at q2;rw[q3] at HWr;have q4:decide (r.room - (Dn r:Int) < (Gt (A3 r.ins i).On a l.length:Int))=false:=decide_eq_false (by omega);generalize l.length=ll at *;generalize Gt (A3 r.ins i).On a ll=nd at *;generalize Dn r=u at *;generalize r.room=rm at *;clear hw1 hB hb0 h h1 hW he hl hk m1 m2 m3 hn hr hne qc hrd hl0 hlc hrp q3
   go_enter Tryz.func74,Tryz.ntmps74
   go_wp2_with fail
   rw[HW1.out]
   go_upto_region 6 with(first
    | (go_at_call 101;(with_reducible refine HSh.out.mono ?_);rintro e w3 ⟨rfl,hB3⟩;have c0:=HK.out w3 hB3)
    | (go_at_call 94;(with_reducible refine(HC.out _).mono ?_);rintro e w4 ⟨rfl,rfl⟩))
   have hB3d:=hB3.drew;refine wp_region_held_drew (S:=λw'=>w'.cell? ⟨f,0,none⟩=some (.int .i64 rm)) (by kernel_rfl) (HK.out w3.drew hB3d) (λhHeld=>?_);refine wpAnyH_take (i:=0) (v:=?_) rfl (by kernel_rfl) (by kernel_rfl) (by kernel_rfl) (λ_ _ _ h=>h) (aj ⟨by rfl,?_⟩) (by assumption) ?_
   rotate_left
   .intro w hSw
    (try subst hSw)
    go_simp
    first | done | with_reducible rfl
   simp -failIfUnchanged only[Act.put,List.getElem_toArray,List.getElem_cons_zero,List.getElem_cons_succ,List.setIfInBounds_toArray,List.set_cons_zero,List.set_cons_succ];refine wpAnyH_take (i:=1) (v:=?_) rfl (by kernel_rfl) (by kernel_rfl) (by kernel_rfl) (λ_ _ _ h=>h) (aj ⟨by rfl,?_⟩) (by assumption) ?_
   rotate_left
   .intro w hSw
    (try subst hSw)
    go_simp
    first | done | with_reducible rfl
   simp -failIfUnchanged only[Act.put,List.getElem_toArray,List.getElem_cons_zero,List.getElem_cons_succ,List.setIfInBounds_toArray,List.set_cons_zero,List.set_cons_succ];refine wpAnyH_take (i:=2) (v:=?_) rfl (by kernel_rfl) (by kernel_rfl) (by kernel_rfl) (λ_ _ _ h=>h) (aj ⟨by rfl,?_⟩) (by assumption) ?_
   rotate_left
   .intro w hSw
    (try subst hSw)
    go_simp
    first | done | with_reducible rfl
   simp -failIfUnchanged only[Act.put,List.getElem_toArray,List.getElem_cons_zero,List.getElem_cons_succ,List.setIfInBounds_toArray,List.set_cons_zero,List.set_cons_succ];refine wpAnyH_take (i:=4) (v:=?_) rfl (by kernel_rfl) (by kernel_rfl) (by kernel_rfl) (λ_ _ _ h=>h) (aj ⟨by rfl,?_⟩) (by assumption) ?_
   rotate_left
   .intro w hSw
    (try subst hSw)
    go_simp
    first | done | with_reducible rfl
   simp -failIfUnchanged only[Act.put,List.getElem_toArray,List.getElem_cons_zero,List.getElem_cons_succ,List.setIfInBounds_toArray,List.set_cons_zero,List.set_cons_succ];refine wpAnyH_take (i:=5) (v:=?_) rfl (by kernel_rfl) (by kernel_rfl) (by kernel_rfl) (λ_ _ _ h=>h) (aj ⟨by rfl,?_⟩) (by assumption) ?_
   rotate_left
   .intro w hSw
    (try subst hSw)
    go_simp
    first | done | with_reducible rfl
   simp -failIfUnchanged only[Act.put,List.getElem_toArray,List.getElem_cons_zero,List.getElem_cons_succ,List.setIfInBounds_toArray,List.set_cons_zero,List.set_cons_succ];refine wpAnyH_take (i:=6) (v:=?_) rfl (by kernel_rfl) (by kernel_rfl) (by kernel_rfl) (λ_ _ _ h=>h) (aj ⟨by rfl,?_⟩) (by assumption) ?_
   rotate_left
   .intro w hSw
    (try subst hSw)
    go_simp
    first | done | with_reducible rfl
   simp -failIfUnchanged only[Act.put,List.getElem_toArray,List.getElem_cons_zero,List.getElem_cons_succ,List.setIfInBounds_toArray,List.set_cons_zero,List.set_cons_succ];refine wpAnyH_take (i:=7) (v:=?_) rfl (by kernel_rfl) (by kernel_rfl) (by kernel_rfl) (λ_ _ _ h=>h) (aj ⟨by rfl,?_⟩) (by assumption) ?_
   rotate_left
   .intro w hSw
    (try subst hSw)
    go_simp
    first | done | with_reducible rfl
   simp -failIfUnchanged only[Act.put,List.getElem_toArray,List.getElem_cons_zero,List.getElem_cons_succ,List.setIfInBounds_toArray,List.set_cons_zero,List.set_cons_succ];refine wpAnyH_take (i:=8) (v:=?_) rfl (by kernel_rfl) (by kernel_rfl) (by kernel_rfl) (λ_ _ _ h=>h) (aj ⟨by rfl,?_⟩) (by assumption) ?_
   rotate_left
   .intro w hSw
    (try subst hSw)
    go_simp
    first | done | with_reducible rfl
   simp -failIfUnchanged only[Act.put,List.getElem_toArray,List.getElem_cons_zero,List.getElem_cons_succ,List.setIfInBounds_toArray,List.set_cons_zero,List.set_cons_succ];refine wpAnyH_ready (rs:=[3]) (by kernel_rfl) (by simp) ?_;refine AllReadyH.cons rfl (λK hK=>?_) AllReadyH.nil
   go_simp
   refine(HNd.out _ (by assumption)).mono ?_;rintro e w5 ⟨rfl,hb5⟩
   go_wp2_with fail
   refine hK.out _ _ (HK.out _ hb5) (λhHeld2=>?_);clear hK;simp -failIfUnchanged only[Act.put,List.getElem_toArray,List.getElem_cons_zero,List.getElem_cons_succ,List.setIfInBounds_toArray,List.set_cons_zero,List.set_cons_succ];refine wpAnyH_ready (rs:=[9]) (by kernel_rfl) (by simp) ?_;refine AllReadyH.cons rfl (λK hK=>?_) AllReadyH.nil
   go_simp
   refine(HU.out _ (by assumption)).mono ?_;rintro e w6 ⟨rfl,hb6⟩
   go_wp2_with fail
   refine hK.out _ _ (HK.out _ hb6) (λhHeld2=>?_);clear hK;simp -failIfUnchanged only[Act.put,List.getElem_toArray,List.getElem_cons_zero,List.getElem_cons_succ,List.setIfInBounds_toArray,List.set_cons_zero,List.set_cons_succ];refine wpAnyH_take (i:=10) (v:=?_) rfl (by kernel_rfl) (by kernel_rfl) (by kernel_rfl) (λ_ _ _ h=>h) (aj ⟨by rfl,?_⟩) (by assumption) ?_
   rotate_left
   .intro w hSw
    (try subst hSw)
    go_simp
    first | done | with_reducible rfl
   simp -failIfUnchanged only[Act.put,List.getElem_toArray,List.getElem_cons_zero,List.getElem_cons_succ,List.setIfInBounds_toArray,List.set_cons_zero,List.set_cons_succ];refine wpAnyH_take (i:=11) (v:=?_) rfl (by kernel_rfl) (by kernel_rfl) (by kernel_rfl) (λ_ _ _ h=>h) (aj ⟨by rfl,?_⟩) (by assumption) ?_
   rotate_left
   .intro w hSw
    (try subst hSw)
    go_simp
    first | done | with_reducible rfl
   simp -failIfUnchanged only[Act.put,List.getElem_toArray,List.getElem_cons_zero,List.getElem_cons_succ,List.setIfInBounds_toArray,List.set_cons_zero,List.set_cons_succ];refine wpAnyH_take (i:=12) (v:=?_) rfl (by kernel_rfl) (by kernel_rfl) (by kernel_rfl) (λ_ _ _ h=>h) (aj ⟨by rfl,?_⟩) (by assumption) ?_
   rotate_left
   .intro w hSw
    (try subst hSw)
    go_simp
    first | done | with_reducible rfl
   simp -failIfUnchanged only[Act.put,List.getElem_toArray,List.getElem_cons_zero,List.getElem_cons_succ,List.setIfInBounds_toArray,List.set_cons_zero,List.set_cons_succ];refine wpAnyH_take (i:=13) (v:=?_) rfl (by kernel_rfl) (by kernel_rfl) (by kernel_rfl) (λ_ _ _ h=>h) (aj ⟨by rfl,?_⟩) (by assumption) ?_
   rotate_left
   .intro w hSw
    (try subst hSw)
    go_simp
    first | done | with_reducible rfl
   simp -failIfUnchanged only[Act.put,List.getElem_toArray,List.getElem_cons_zero,List.getElem_cons_succ,List.setIfInBounds_toArray,List.set_cons_zero,List.set_cons_succ];refine wpAnyH_take (i:=14) (v:=?_) rfl (by kernel_rfl) (by kernel_rfl) (by kernel_rfl) (λ_ _ _ h=>h) (aj ⟨by rfl,?_⟩) (by assumption) ?_
   rotate_left
   .intro w hSw
    (try subst hSw)
    go_simp
    first | done | with_reducible rfl
   simp -failIfUnchanged only[Act.put,List.getElem_toArray,List.getElem_cons_zero,List.getElem_cons_succ,List.setIfInBounds_toArray,List.set_cons_zero,List.set_cons_succ];refine wpAnyH_take (i:=15) (v:=?_) rfl (by kernel_rfl) (by kernel_rfl) (by kernel_rfl) (λ_ _ _ h=>h) (aj ⟨by rfl,?_⟩) (by assumption) ?_
   rotate_left
   .intro w hSw
    (try subst hSw)
    go_simp
    first | done | with_reducible rfl
   simp -failIfUnchanged only[Act.put,List.getElem_toArray,List.getElem_cons_zero,List.getElem_cons_succ,List.setIfInBounds_toArray,List.set_cons_zero,List.set_cons_succ];refine wpAnyH_ready (rs:=[16]) (by kernel_rfl) (by simp) ?_;refine AllReadyH.cons rfl (λK hK=>?_) AllReadyH.nil
   go_simp
   refine(HWr.out _ (by assumption)).mono ?_;rintro e w7 ⟨rfl,hS7,-,-,hf7,-⟩
   go_wp2_with fail
   refine hK.out _ _ (hf7) (λhHeld2=>?_);clear hK;simp -failIfUnchanged only[Act.put,List.getElem_toArray,List.getElem_cons_zero,List.getElem_cons_succ,List.setIfInBounds_toArray,List.set_cons_zero,List.set_cons_succ];refine wpAnyH_take (i:=17) (v:=?_) rfl (by kernel_rfl) (by kernel_rfl) (by kernel_rfl) (λ_ _ _ h=>h) (aj ⟨by rfl,?_⟩) (by assumption) ?_
   rotate_left
   .intro w hSw
    (try subst hSw)
    go_simp
    first | done | with_reducible rfl
   simp -failIfUnchanged only[Act.put,List.getElem_toArray,List.getElem_cons_zero,List.getElem_cons_succ,List.setIfInBounds_toArray,List.set_cons_zero,List.set_cons_succ];refine wpAnyH_take (i:=18) (v:=?_) rfl (by kernel_rfl) (by kernel_rfl) (by kernel_rfl) (λ_ _ _ h=>h) (aj ⟨by rfl,?_⟩) (by assumption) ?_
   rotate_left
   .intro w hSw
    (try subst hSw)
    go_simp
    first | done | with_reducible rfl
   simp -failIfUnchanged only[Act.put,List.getElem_toArray,List.getElem_cons_zero,List.getElem_cons_succ,List.setIfInBounds_toArray,List.set_cons_zero,List.set_cons_succ];refine wpAnyH_take (i:=19) (v:=?_) rfl (by kernel_rfl) (by kernel_rfl) (by kernel_rfl) (λ_ _ _ h=>h) (aj ⟨by rfl,?_⟩) (by assumption) ?_
   rotate_left
   .intro w hSw
    (try subst hSw)
    go_simp
    first | done | with_reducible rfl
   simp -failIfUnchanged only[Act.put,List.getElem_toArray,List.getElem_cons_zero,List.getElem_cons_succ,List.setIfInBounds_toArray,List.set_cons_zero,List.set_cons_succ];refine wpAnyH_done (by kernel_rfl) ?_ _;have HS7:=aa (show Cr w w7 f mi mg N r by first | exact hS7 trivial | exact hS7 rfl);clear hS7
   go_wp2_with fail
   go_ret
   exact⟨rfl,HS7.out⟩
  .rw[show Bz r (i,g) a l t=(Hn r (Gl (A3 r.ins i) (rwB (A3 r.ins i).B a l) (Z2j (A3 r.ins i).On a l.length) t),0) by unfold Bz;rw[dp hne,dp (by rw[qc];simp;omega),dp (by rw[q3];simp;omega)]];rw[qc] at HC;rw[hrp] at q2;rw[q3] at HWr;have q4:decide (r.room - (Dn r:Int) < (Gt (A3 r.ins i).On a l.length:Int))=false:=decide_eq_false (by omega);generalize hll:l.length=ll at *;generalize Gt (A3 r.ins i).On a ll=nd at *;generalize Dn r=u at *;generalize hrm2:r.room=rm at *;clear hw1 hB hb0 h h1 hW he hl hk m1 m2 m3 hn hr hne qc hrd hl0 hlc hrp q3 hll hrm2
   go_enter Tryz.func74,Tryz.ntmps74
   go_wp2_with fail
   rw[HW1.out]
   go_upto_region 6 with(first
    | (go_at_call 101;(with_reducible refine HSh.out.mono ?_);rintro e w3 ⟨rfl,hB3⟩;have c0:=HK.out w3 hB3)
    | (go_at_call 94;(with_reducible refine(HC.out _).mono ?_);rintro e w4 ⟨rfl,rfl⟩))
   have hB3d:=hB3.drew;refine wp_region_held_drew (S:=λw'=>w'.cell? ⟨f,0,none⟩=some (.int .i64 rm)) (by kernel_rfl) (HK.out w3.drew hB3d) (λhHeld=>?_);refine wpAnyH_take (i:=0) (v:=?_) rfl (by kernel_rfl) (by kernel_rfl) (by kernel_rfl) (λ_ _ _ h=>h) (aj ⟨by rfl,?_⟩) (by assumption) ?_
   rotate_left
   .intro w hSw
    (try subst hSw)
    go_simp
    first | done | with_reducible rfl
   simp -failIfUnchanged only[Act.put,List.getElem_toArray,List.getElem_cons_zero,List.getElem_cons_succ,List.setIfInBounds_toArray,List.set_cons_zero,List.set_cons_succ];refine wpAnyH_take (i:=1) (v:=?_) rfl (by kernel_rfl) (by kernel_rfl) (by kernel_rfl) (λ_ _ _ h=>h) (aj ⟨by rfl,?_⟩) (by assumption) ?_
   rotate_left
   .intro w hSw
    (try subst hSw)
    go_simp
    first | done | with_reducible rfl
   simp -failIfUnchanged only[Act.put,List.getElem_toArray,List.getElem_cons_zero,List.getElem_cons_succ,List.setIfInBounds_toArray,List.set_cons_zero,List.set_cons_succ];refine wpAnyH_take (i:=2) (v:=?_) rfl (by kernel_rfl) (by kernel_rfl) (by kernel_rfl) (λ_ _ _ h=>h) (aj ⟨by rfl,?_⟩) (by assumption) ?_
   rotate_left
   .intro w hSw
    (try subst hSw)
    go_simp
    first | done | with_reducible rfl
   simp -failIfUnchanged only[Act.put,List.getElem_toArray,List.getElem_cons_zero,List.getElem_cons_succ,List.setIfInBounds_toArray,List.set_cons_zero,List.set_cons_succ];refine wpAnyH_take (i:=4) (v:=?_) rfl (by kernel_rfl) (by kernel_rfl) (by kernel_rfl) (λ_ _ _ h=>h) (aj ⟨by rfl,?_⟩) (by assumption) ?_
   rotate_left
   .intro w hSw
    (try subst hSw)
    go_simp
    first | done | with_reducible rfl
   simp -failIfUnchanged only[Act.put,List.getElem_toArray,List.getElem_cons_zero,List.getElem_cons_succ,List.setIfInBounds_toArray,List.set_cons_zero,List.set_cons_succ];refine wpAnyH_take (i:=5) (v:=?_) rfl (by kernel_rfl) (by kernel_rfl) (by kernel_rfl) (λ_ _ _ h=>h) (aj ⟨by rfl,?_⟩) (by assumption) ?_
   rotate_left
   .intro w hSw
    (try subst hSw)
    go_simp
    first | done | with_reducible rfl
   simp -failIfUnchanged only[Act.put,List.getElem_toArray,List.getElem_cons_zero,List.getElem_cons_succ,List.setIfInBounds_toArray,List.set_cons_zero,List.set_cons_succ];refine wpAnyH_take (i:=6) (v:=?_) rfl (by kernel_rfl) (by kernel_rfl) (by kernel_rfl) (λ_ _ _ h=>h) (aj ⟨by rfl,?_⟩) (by assumption) ?_
   rotate_left
   .intro w hSw
    (try subst hSw)
    go_simp
    first | done | with_reducible rfl
   simp -failIfUnchanged only[Act.put,List.getElem_toArray,List.getElem_cons_zero,List.getElem_cons_succ,List.setIfInBounds_toArray,List.set_cons_zero,List.set_cons_succ];refine wpAnyH_take (i:=7) (v:=?_) rfl (by kernel_rfl) (by kernel_rfl) (by kernel_rfl) (λ_ _ _ h=>h) (aj ⟨by rfl,?_⟩) (by assumption) ?_
   rotate_left
   .intro w hSw
    (try subst hSw)
    go_simp
    first | done | with_reducible rfl
   simp -failIfUnchanged only[Act.put,List.getElem_toArray,List.getElem_cons_zero,List.getElem_cons_succ,List.setIfInBounds_toArray,List.set_cons_zero,List.set_cons_succ];refine wpAnyH_take (i:=8) (v:=?_) rfl (by kernel_rfl) (by kernel_rfl) (by kernel_rfl) (λ_ _ _ h=>h) (aj ⟨by rfl,?_⟩) (by assumption) ?_
   rotate_left
   .intro w hSw
    (try subst hSw)
    go_simp
    first | done | with_reducible rfl
   simp -failIfUnchanged only[Act.put,List.getElem_toArray,List.getElem_cons_zero,List.getElem_cons_succ,List.setIfInBounds_toArray,List.set_cons_zero,List.set_cons_succ];refine wpAnyH_ready (rs:=[3]) (by kernel_rfl) (by simp) ?_;refine AllReadyH.cons rfl (λK hK=>?_) AllReadyH.nil
   go_simp
   refine(HNd.out _ (by assumption)).mono ?_;rintro e w5 ⟨rfl,hb5⟩
   go_wp2_with fail
   refine hK.out _ _ (HK.out _ hb5) (λhHeld2=>?_);clear hK;simp -failIfUnchanged only[Act.put,List.getElem_toArray,List.getElem_cons_zero,List.getElem_cons_succ,List.setIfInBounds_toArray,List.set_cons_zero,List.set_cons_succ];refine wpAnyH_ready (rs:=[9]) (by kernel_rfl) (by simp) ?_;refine AllReadyH.cons rfl (λK hK=>?_) AllReadyH.nil
   go_simp
   refine(HU.out _ (by assumption)).mono ?_;rintro e w6 ⟨rfl,hb6⟩
   go_wp2_with fail
   refine hK.out _ _ (HK.out _ hb6) (λhHeld2=>?_);clear hK;simp -failIfUnchanged only[Act.put,List.getElem_toArray,List.getElem_cons_zero,List.getElem_cons_succ,List.setIfInBounds_toArray,List.set_cons_zero,List.set_cons_succ];refine wpAnyH_take (i:=10) (v:=?_) rfl (by kernel_rfl) (by kernel_rfl) (by kernel_rfl) (λ_ _ _ h=>h) (aj ⟨by rfl,?_⟩) (by assumption) ?_
   rotate_left
   .intro w hSw
    (try subst hSw)
    go_simp
    first | done | with_reducible rfl
   simp -failIfUnchanged only[Act.put,List.getElem_toArray,List.getElem_cons_zero,List.getElem_cons_succ,List.setIfInBounds_toArray,List.set_cons_zero,List.set_cons_succ];refine wpAnyH_take (i:=11) (v:=?_) rfl (by kernel_rfl) (by kernel_rfl) (by kernel_rfl) (λ_ _ _ h=>h) (aj ⟨by rfl,?_⟩) (by assumption) ?_
   rotate_left
   .intro w hSw
    (try subst hSw)
    go_simp
    first | done | with_reducible rfl
   simp -failIfUnchanged only[Act.put,List.getElem_toArray,List.getElem_cons_zero,List.getElem_cons_succ,List.setIfInBounds_toArray,List.set_cons_zero,List.set_cons_succ];refine wpAnyH_take (i:=12) (v:=?_) rfl (by kernel_rfl) (by kernel_rfl) (by kernel_rfl) (λ_ _ _ h=>h) (aj ⟨by rfl,?_⟩) (by assumption) ?_
   rotate_left
   .intro w hSw
    (try subst hSw)
    go_simp
    first | done | with_reducible rfl
   simp -failIfUnchanged only[Act.put,List.getElem_toArray,List.getElem_cons_zero,List.getElem_cons_succ,List.setIfInBounds_toArray,List.set_cons_zero,List.set_cons_succ];refine wpAnyH_take (i:=13) (v:=?_) rfl (by kernel_rfl) (by kernel_rfl) (by kernel_rfl) (λ_ _ _ h=>h) (aj ⟨by rfl,?_⟩) (by assumption) ?_
   rotate_left
   .intro w hSw
    (try subst hSw)
    go_simp
    first | done | with_reducible rfl
   simp -failIfUnchanged only[Act.put,List.getElem_toArray,List.getElem_cons_zero,List.getElem_cons_succ,List.setIfInBounds_toArray,List.set_cons_zero,List.set_cons_succ];refine wpAnyH_take (i:=14) (v:=?_) rfl (by kernel_rfl) (by kernel_rfl) (by kernel_rfl) (λ_ _ _ h=>h) (aj ⟨by rfl,?_⟩) (by assumption) ?_
   rotate_left
   .intro w hSw
    (try subst hSw)
    go_simp
    first | done | with_reducible rfl
   simp -failIfUnchanged only[Act.put,List.getElem_toArray,List.getElem_cons_zero,List.getElem_cons_succ,List.setIfInBounds_toArray,List.set_cons_zero,List.set_cons_succ];refine wpAnyH_take (i:=15) (v:=?_) rfl (by kernel_rfl) (by kernel_rfl) (by kernel_rfl) (λ_ _ _ h=>h) (aj ⟨by rfl,?_⟩) (by assumption) ?_
   rotate_left
   .intro w hSw
    (try subst hSw)
    go_simp
    first | done | with_reducible rfl
   simp -failIfUnchanged only[Act.put,List.getElem_toArray,List.getElem_cons_zero,List.getElem_cons_succ,List.setIfInBounds_toArray,List.set_cons_zero,List.set_cons_succ];refine wpAnyH_ready (rs:=[16]) (by kernel_rfl) (by simp) ?_;refine AllReadyH.cons rfl (λK hK=>?_) AllReadyH.nil
   go_simp
   refine(HWr.out _ (by assumption)).mono ?_;rintro e w7 ⟨rfl,-,d1,d2,hf7,hS7⟩
   go_wp2_with fail
   refine hK.out _ _ (hf7) (λhHeld2=>?_);clear hK;simp -failIfUnchanged only[Act.put,List.getElem_toArray,List.getElem_cons_zero,List.getElem_cons_succ,List.setIfInBounds_toArray,List.set_cons_zero,List.set_cons_succ];refine wpAnyH_take (i:=17) (v:=?_) rfl (by kernel_rfl) (by kernel_rfl) (by kernel_rfl) (λ_ _ _ h=>h) (aj ⟨by rfl,?_⟩) (by assumption) ?_
   rotate_left
   .intro w hSw
    (try subst hSw)
    go_simp
    first | done | with_reducible rfl
   simp -failIfUnchanged only[Act.put,List.getElem_toArray,List.getElem_cons_zero,List.getElem_cons_succ,List.setIfInBounds_toArray,List.set_cons_zero,List.set_cons_succ];refine wpAnyH_take (i:=18) (v:=?_) rfl (by kernel_rfl) (by kernel_rfl) (by kernel_rfl) (λ_ _ _ h=>h) (aj ⟨by rfl,?_⟩) (by assumption) ?_
   rotate_left
   .intro w hSw
    (try subst hSw)
    go_simp
    first | done | with_reducible rfl
   simp -failIfUnchanged only[Act.put,List.getElem_toArray,List.getElem_cons_zero,List.getElem_cons_succ,List.setIfInBounds_toArray,List.set_cons_zero,List.set_cons_succ];refine wpAnyH_take (i:=19) (v:=?_) rfl (by kernel_rfl) (by kernel_rfl) (by kernel_rfl) (λ_ _ _ h=>h) (aj ⟨by rfl,?_⟩) (by assumption) ?_
   rotate_left
   .intro w hSw
    (try subst hSw)
    go_simp
    first | done | with_reducible rfl
   simp -failIfUnchanged only[Act.put,List.getElem_toArray,List.getElem_cons_zero,List.getElem_cons_succ,List.setIfInBounds_toArray,List.set_cons_zero,List.set_cons_succ];refine wpAnyH_done (by kernel_rfl) ?_ _;have HS7:=aa hS7;clear hS7
   go_wp2_with fail
   go_ret
   exact⟨rfl,HS7.out _ rfl⟩
 .have HSh:=aa (Ov h1 hW i g he);have hne:(B7 r (i,g) != 0)=true:=by rw[bne_iff_ne];exact he
  rw[show Bz r (i,g) a l t=(r,B7 r (i,g)) by unfold Bz;rw[dq he]];generalize B7 r (i,g)=se at *;clear hw1 hB hb0 h h1 hW he
  go_enter Tryz.func74,Tryz.ntmps74
  go_wp2_with fail
  rw[HW1.out]
  go_wp2_with (go_at_call 101;(with_reducible refine HSh.out.mono ?_);rintro e w3 ⟨rfl,hB3⟩;replace hB3:=aa hB3)
  go_ret
  exact⟨rfl,HSt.out _ (HB.out.trans (hB3.out.mono (by omega)))⟩
end Go.Proofs.YtmmdikhljefeiaaGreat
