
import Derived.Test.YtmmdikhljefeiaaGreatOP
import Derived.Test.YtmmdikhljefeiaaGreatYFsS
import Derived.Test.YtmmdikhljefeiaaGreatYShG
import Derived.Test.YtmmdikhljefeiaaGreatYClones
import Derived.Deep.DeepCutAuto
import Derived.Deep.RegionHeld3
namespace Go.Proofs.YtmmdikhljefeiaaGreat
open Go.RowKit Go.MapKept Go.Shelf
theorem Wc {m:Nat}{es:Array MapEntry}{clock:Nat}(w:World)(a:w.heap[m]?=some (.map es clock)) :
  Calls Tryz.prog 88 #[.map (some m)] w λe w'=>e=.returned (.map (some w.heap.size))/\w'=w.alloc (.map es clock) :=
 AnyW.maps_Clone Tryz.cloneG m es clock w a
theorem Xb {m:Nat}{es:Array MapEntry}{clock:Nat}(w:World)(a:w.heap[m]?=some (.map es clock)) :
  Calls Tryz.prog 90 #[.map (some m)] w λe w'=>e=.returned (.map (some w.heap.size))/\w'=w.alloc (.map es clock) :=
 AnyW.maps_Clone Tryz.cloneN m es clock w a
theorem Qn {κ β:Type}[DecidableEq κ]{b:κ->Value}{a:β->Value}{f:FuncId}(d:∀{m:Nat} {es:Array MapEntry} {clock:Nat} (w:World),w.heap[m]?=some (.map es clock)->Calls Tryz.prog f #[.map (some m)] w λe w'=>e=.returned (.map (some w.heap.size))/\w'=w.alloc (.map es clock))
  {w:World} {m:Nat} {L:List (κ × β)} (h:MapB w m b a L):Calls Tryz.prog f #[.map (some m)] w λe w'=>∃k,e=.returned (.map (some k))/\w.heap.size<=k/\MapB w' k b a L/\Below w.heap.size w w'/\w'.heap.size=k+1:=by
 obtain⟨es,clock,i,c,j⟩:=h;exact(d w i).mono λe w' ⟨g,h2⟩=>⟨_,g,av _,by rw[h2];exact⟨es,clock,heap_alloc_new w _,c,j⟩,by rw[h2];exact(ab _ _).alloc (av _) _,by rw[h2];simp⟩
structure Z88 (w w1:World)(r:RFs)(g0 mi' mg' rr mi:Nat)(L:List (Int × Nat))(G:List (Int × Int))(D:List Int)(N':List Nd):Prop where
 ran:RanB w1 rr mi Aw De L D
 head:w1.heap[g0]?=some (.cells #[.int .i64 r.room,.map (some mi'),.map (some mg')] 147 (0,0))
 imap:MapB w1 mi' Aw De (N'.map λn=>(n.id,n.blk))
 gmap:MapB w1 mg' Aw Aw G
 node:∀n∈N',∃x∈r.ins,NodeR w1 r x n
 ids:N'.map (·.id)=D
 sep:N'.Pairwise λn n'=>∀k∈n.foot,k ∉ n'.foot
 off:∀n∈N',g0 ∉ n.foot/\mi' ∉ n.foot/\mg' ∉ n.foot
 new:∀k∈fpL g0 mi' mg' N',w.heap.size<=k/\k≠rr
 blw:Below w.heap.size w w1
 mm:mi'≠mg'
 rr:w.heap.size<=rr
section
variable {w w1 w2 w3:World} {r:RFs} {g0 mi' mg' rr mi f mg K:Nat} {L:List (Int × Nat)} {G:List (Int × Int)} {D:List Int} {N N':List Nd}
theorem G3 {b k:Nat}:k∈fpL b mi mg N↔(k=b\/k=mi\/k=mg\/∃n∈N,k∈n.foot):=by unfold fpL;simp only[List.mem_cons,List.mem_flatMap]
theorem Z0y (hr:RanB w2 w1.heap.size mi Aw De L [])(e:Below w1.heap.size w1 w2)(a:w1.heap[g0]?=some (.cells #[.int .i64 r.room,.map (some mi'),.map (some mg')] 147 (0,0)))
  (b:MapB w1 mi' Aw De ([]:List (Int × Nat))) (c:MapB w1 mg' Aw Aw G) (h:Below w.heap.size w w1) (q:w.heap.size<=g0) (m:w.heap.size<=mi') (l:w.heap.size<=mg') (g:mi'≠mg') :
  Z88 w w2 r g0 mi' mg' w1.heap.size mi L G [] [] where
 ran:=hr
 head:=(e.block _ (An a)).trans a
 imap:=b.of_block (e.block _ b.lt)
 gmap:=c.of_block (e.block _ c.lt)
 node:=λn d=>by simp at d
 ids:=rfl
 sep:=.nil
 off:=λn d=>by simp at d
 new:=λk i=>by
  have o:=An a;have j:=b.lt;have p:=c.lt;rw[G3] at i;rcases i with rfl | rfl | rfl | ⟨n,d,-⟩
  .omega
  .omega
  .omega
  .simp at d
 blw:=h.trans (e.mono h.size)
 mm:=g
 rr:=h.size
theorem Z84 (h:Z88 w w1 r g0 mi' mg' rr mi L G D N')(m:FsN w f mi mg r N)(c:(N.map λn=>(n.id,n.blk))=L)(g:∀id,(Az G id).getD 0=Aq r.gens id)(a:∀k v,(k,v)∈L->k∈D):FsN w1 g0 mi' mg' r N' :=
 ⟨h.head,h.imap,⟨G,h.gmap,g⟩,h.node,λx l=>by obtain⟨n,d,e⟩:=m.all x l;have hd:=a n.id n.blk (by rw[<-c];exact bk.2 ⟨n,d,rfl⟩);rw[<-h.ids] at hd;obtain⟨i,b,j⟩:=bk.1 hd;exact⟨i,b,j.trans e⟩,h.sep,h.off,h.mm⟩
theorem Z32 {k:Int}{x:RIn}{l:Nd}(Q:Wf r K)(h:Z88 w w1 r g0 mi' mg' rr mi L G D N')(z:k ∉ D)(I:RanB w2 rr mi Aw De L (D++[k]))(T:∀b,b < w1.heap.size->b≠rr->w2.heap[b]?=w1.heap[b]?)(O:w2.heap.size=w1.heap.size)
  (q:∀b,b < w2.heap.size->b≠mi'->w3.heap[b]?=w2.heap[b]?) (Z:MapB w3 mi' Aw De (Gy (N'.map λn=>(n.id,n.blk)) k l.blk)) (B:mi < w.heap.size) (W:x∈r.ins) (P:x.id=k) (m:NodeR w3 r x l) (i:∀k∈l.foot,w2.heap.size<=k)
  (Y:Below w.heap.size w w3):Z88 w w3 r g0 mi' mg' rr mi L G (D++[k]) (N'++[l]):=by
 have t:∀n∈N',∀b∈n.foot,b < w1.heap.size:=λn g b d=>by obtain⟨y,C,hr⟩:=h.node n g;exact hr.lt (Q.kind y C) b d
 have j:∀b∈fpL g0 mi' mg' N',b≠rr:=λb d=>(h.new b d).2;have keep:∀b,b < w1.heap.size->b≠rr->b≠mi'->w3.heap[b]?=w1.heap[b]?:=λb U h2 p=>(q b (by omega) p).trans (T b U h2);have E:=I.lt;have F:=An h.head;have h1l:=h.imap.lt;have A:=h.gmap.lt;have R:g0∈fpL g0 mi' mg' N':=G3.2 (.inl rfl);have H:mi'∈fpL g0 mi' mg' N':=G3.2 (.inr (.inl rfl));have S:mg'∈fpL g0 mi' mg' N':=G3.2 (.inr (.inr (.inl rfl)));have J:∀n∈N',∀b∈n.foot,b∈fpL g0 mi' mg' N':=λn m b q=>G3.2 (.inr (.inr (.inr ⟨n,m,q⟩)));have X:mi'≠rr:=j _ H;have u:g0≠mi':=λe=>by have p:=h.head;obtain⟨es,c,M,-⟩:=h.imap;rw[e,M] at p;cases p
 have s:l.id=k:=m.id.trans P;have e:Gy (N'.map λn=>(n.id,n.blk)) k l.blk=(N'++[l]).map λn=>(n.id,n.blk):=by
  rw[C5,ba,cv,List.map_nil,s];cases hh:Az (N'.map λn=>(n.id,n.blk)) k with
  | none=>rfl
  | some v =>
   have:=Ee hh;obtain⟨n,m,e⟩:=bk.1 this;exact dt (by rw[<-h.ids];exact bk.2 ⟨n,m,(Prod.mk.inj e).1⟩) z
 refine⟨I.keep (q rr E (λe=>X e.symm)) (q mi (bd B (by have:=h.blw.size;omega)) (λe=>by have:=(h.new _ H).1;omega)),(keep g0 F (j _ R) u).trans h.head,by rw[<-e];exact Z,h.gmap.of_block (keep mg' A (j _ S) (λe=>h.mm e.symm)),λn g=>?_,by rw[ba,h.ids,cv,List.map_nil,s],?_,λn g=>?_,λb d=>?_,Y,h.mm,h.rr⟩
 .rcases cd.1 g with g | g
  .obtain⟨y,C,hr⟩:=h.node n g;exact⟨y,C,hr.keep (λb d=>keep b (t n g b d) (j _ (J n g b d)) (λe=>(h.off n g).2.1 (e ▸ d))) rfl (λ_=>rfl)⟩
  .rw[bx.1 g];exact⟨x,W,m⟩
 .refine List.pairwise_append.2 ⟨h.sep,by simp,λa ha b d c V o=>?_⟩;rw[bx.1 d] at o;have:=t a ha c V;have:=i c o;omega
 .rcases cd.1 g with g | g
  .exact h.off n g
  .rw[bx.1 g];exact⟨λe=>by have:=i _ e;omega,λe=>by have:=i _ e;omega,λe=>by have:=i _ e;omega⟩
 .rw[G3] at d;rcases d with d | d | d | ⟨n,g,d⟩
  .exact h.new b (G3.2 (.inl d))
  .exact h.new b (G3.2 (.inr (.inl d)))
  .exact h.new b (G3.2 (.inr (.inr (.inl d))))
  .rcases cd.1 g with g | g
   .exact h.new b (J n g b d)
   .rw[bx.1 g] at d;have p:=i b d;have M:=h.blw.size;exact⟨by omega,by omega⟩
theorem Tq {d:World}{o:Obj}{k:Int}{x:RIn}{i:Nd}(u:Wf r K)(h:Z88 w w1 r g0 mi' mg' rr mi L G D N')(p:k ∉ D)(t:RanB w2 rr mi Aw De L (D++[k]))(A:∀b,b < w1.heap.size->b≠rr->w2.heap[b]?=w1.heap[b]?)(g:w2.heap.size=w1.heap.size)
  (l:Below w2.heap.size w2 d) (z:MapB (putObj d mi' o) mi' Aw De (Gy (N'.map λn=>(n.id,n.blk)) k i.blk)) (q:mi < w.heap.size) (B:x∈r.ins) (s:x.id=k) (y:NodeR d r x i) (a:∀k∈i.foot,w2.heap.size<=k)
  (m:Below w.heap.size w w2):Z88 w (putObj d mi' o) r g0 mi' mg' rr mi L G (D++[k]) (N'++[i]):=by
 have C:=h.imap.lt;have v:=(h.new mi' (G3.2 (.inr (.inl rfl)))).1;refine Z32 u h p t A g (λb c j=>(A9 d o j).trans (l.block b c)) z q B s (y.keep (λb c=>A9 d o (λe=>by have:=a b c;omega)) rfl (λ_=>rfl)) a ?_;refine Frm.below (S:=[mi']) ((Frm.refl _ _).putObj (.inl (by simp)) o) (m.trans (l.mono m.size)) ?_ ?_
 .exact cn m.size l.size
 .simp;omega
theorem Zes:(Tryz.prog.info? 143).map (·.size)=some 6:=by kernel_rfl
theorem Ya (x:RIn)(n:Nd):(Ad x n).oneCell'=true:=by unfold Ad;split<;>(try split)<;>rfl
end
set_option maxRecDepth 100000 in
set_option maxHeartbeats 4000000 in
theorem Wg {w:World}{f mi mg K:Nat}{r:RFs}{N:List Nd}(h:FsN w f mi mg r N)(hW:Wf r K) :
  Calls Tryz.prog 56 #[.pointer (some ⟨f,0,none⟩)] w λe w'=>∃f' mi' mg' N',e=.returned (De f')/\FsN w' f' mi' mg' r N'/\Below w.heap.size w w'/\∀k∈fpL f' mi' mg' N',w.heap.size<=k:=by
 obtain⟨c0,c1,c2⟩:=h.cells;obtain⟨G,hG,hG2⟩:=h.gmap;have hmm:=@run_makeMap Tryz.prog;have hc:=λw2 (hb:Below w.heap.size w w2)=>Qn Wc (hG.of_block (hb.block _ hG.lt));have HC:=aa hc;have hbz:=ab w.heap.size w;have hbz2:=hbz.drew;have hbA:Below w.heap.size w (w.alloc (.map #[] 0)).drew:=((ab _ _).alloc (av _) _).drew;have hk:∀w2,Below w.heap.size w w2->w2.cell? ⟨f,0,none⟩=some (.int .i64 r.room)/\w2.cell? ⟨f,2,none⟩=some (.map (some mg)):=λw2 hb=>by have h2:=h.below hW hb;exact⟨h2.cells.1,h2.cells.2.2⟩
 have HK:=aa hk;have HH:=aa h;have HW:=aa hW;clear h hW hc hk
 go_enter Tryz.func56,Tryz.ntmps56
 go_upto_region 1 with fail
 go_cut [3] (λv wx=>∃g0 mi' mg',v=.pointer (some ⟨g0,0,none⟩)/\wx.heap[g0]?=some (.cells #[.int .i64 r.room,.map (some mi'),.map (some mg')] 147 (0,0))/\MapB wx mi' Aw De ([]:List (Int × Nat))/\MapB wx mg' Aw Aw G/\Below w.heap.size w wx/\w.heap.size<=g0/\w.heap.size<=mi'/\w.heap.size<=mg'/\mi'≠mg')
 case first =>
  go_region_held3 (λw'=>w'.cell? ⟨f,0,none⟩=some (.int .i64 r.room)/\w'.cell? ⟨f,2,none⟩=some (.map (some mg)))
   (first
    | exact HK.out _ (by assumption)
    | go_keep
    | skip)
   (first
    | (go_at_call 88;(with_reducible refine(HC.out _ hbz2).mono ?_);rintro e w3 ⟨k3,rfl,hk3,hm3,hb3,hs3⟩;have hB3:=hbz2.trans (hb3.mono hbz2.size))
    | (go_at_call 88;(with_reducible refine(HC.out _ hbA).mono ?_);rintro e w3 ⟨k3,rfl,hk3,hm3,hb3,hs3⟩;have hB3:=hbA.trans (hb3.mono hbA.size)))
  all_goals
   go_wp2_with fail
   go_meet
  .have hk:w.heap.size+1<=k3:=by simpa using hk3
   refine⟨k3+1,w.heap.size,k3,rfl,?_,?_,hm3.of_block (ae _ _ _ (by omega)),hB3.alloc hB3.size _,by omega,av _,by omega,by omega⟩
   .have:=heap_alloc_new w3 (.cells #[.int .i64 r.room,.map (some w.heap.size),.map (some k3)] 147);rw[hs3] at this;exact this
   .exact(Eb w Aw De).of_block ((ae _ _ _ (by omega)).trans (hb3.block w.heap.size (by simp)))
  .have hk:w.heap.size<=k3:=by simpa using hk3
   refine⟨k3+1+1,k3+1,k3,rfl,?_,?_,hm3.of_block ((ae _ _ _ (by simp;omega)).trans (ae _ _ _ (by omega))),(hB3.alloc hB3.size _).alloc (by simp;omega) _,by omega,by omega,by omega,by omega⟩
   .have:=heap_alloc_new (w3.alloc (.map #[] 0)) (.cells #[.int .i64 r.room,.map (some (k3+1)),.map (some k3)] 147);rw[show(w3.alloc (.map #[] 0)).heap.size=k3+1+1 by simp[hs3]] at this;exact this
   .have:=Eb w3 Aw De;rw[hs3] at this;exact this.of_block (ae _ _ _ (by simp;omega))
 case rest =>
  obtain⟨g0,mi',mg',rfl,hg0,hm1,hm2,hB1,hl0,hl1,hl2,hne⟩:=hcut;have HG0:=aa hg0;have HM1:=aa hm1;have HM2:=aa hm2;have HB1:=aa hB1;have hi:=(HH.out.below HW.out HB1.out).imap;have h1:=(HH.out.below HW.out HB1.out).cells.2.1;have hmil:=(HH.out.lt HW.out).2.1;obtain⟨L,hL⟩:∃L,(N.map λn=>(n.id,n.blk))=L:=⟨_,rfl⟩;rw[hL] at hi;have HI:=aa hi;have HL:=aa hL;have hn:=HI.out.lt;have HG2:=aa hG2;clear hg0 hm1 hm2 hB1 hi hL c0 c1 c2 hG hG2 hmm
  go_wp2_with (at_range;refine Hp rfl (.tmp 24) 144 rfl Tryz.underlying144 rfl HI.out ?_;intro w2 hr2 hb2 hs2)
  go_frame
  have HI0:=aa (Z0y hr2 hb2 HG0.out HM1.out HM2.out HB1.out hl0 hl1 hl2 hne);generalize wc.heap.size=rr at *;clear hr2 hb2 hs2 h1 HG0 HM1 HM2 HB1 hn hbz hbz2 hbA HK HC
  go_loopg [] N.length (λgg wr=>∃D N',D.length+gg=N.length/\Z88 w wr r g0 mi' mg' rr mi L G D N')
  case atStart=>exact⟨[],[],by simp,HI0.out⟩
  case round =>
   obtain⟨D,N',hD,hI⟩:=hrel;have HIr:=aa hI;have hR:=hI.ran;clear hI
   go_wp2_with (at_next;refine Im rfl (.tmp 25) rfl rfl hR ?_ ?_)
   .intro hall;have HAll:=aa hall;clear hall hR
    go_wp2
    go_ret
    exact⟨g0,mi',mg',N',rfl,Z84 HIr.out HH.out HL.out HG2.out (λk v hkv=>HAll.out k v hkv),HIr.out.blw,λk hk=>(HIr.out.new k hk).1⟩
   .intro k v w3 hkv hkD hR3 hg3 hs3 hen;have hlt:=hR.len_lt hkv hkD;have hLl:L.length=N.length:=by rw[<-HL.out];simp
    rw[hLl] at hlt;rw[<-HL.out] at hkv;obtain⟨n,hn,e⟩:=bk.1 hkv;obtain⟨rfl,rfl⟩:=Prod.mk.inj e;obtain⟨g,rfl⟩:∃g,gk=g+1:=⟨gk - 1,by omega⟩;have hb3:Below w.heap.size w w3:=Below.grownBy HIr.out.blw hg3 HIr.out.blw.size (λk hk=>by injection hk with hk;have:=HIr.out.rr;omega);have h3:=HH.out.below HW.out hb3;obtain⟨x,hx,hr⟩:=h3.node n hn;obtain⟨d0,d1,d2,d3,d4,d5⟩:=hr.cells;have hxk:=HW.out.kind x hx;have hnl:=hr.lt hxk;have HR3:=aa hR3;have HB3:=aa hb3;have HX:=aa hr;have HXm:=aa hx;have HG3:=aa (show ∀b,b < wr.heap.size->b≠rr->w3.heap[b]?=wr.heap[b]? from λb h1 h2=>hg3.block b h1 (λe=>h2 (cu e)));have HS3:=aa hs3;have HkD:=aa hkD;have HM3:=aa (show MapB w3 mi' Aw De (N'.map λn=>(n.id,n.blk)) from HIr.out.imap.of_block (hg3.block _ HIr.out.imap.lt (λe=>(HIr.out.new mi' (G3.2 (.inr (.inl rfl)))).2 (cu e))));have HH3:=aa (show w3.heap[g0]?=some (.cells #[.int .i64 r.room,.map (some mi'),.map (some mg')] 147 (0,0)) from(hg3.block _ (An HIr.out.head) (λe=>(HIr.out.new g0 (G3.2 (.inl rfl))).2 (cu e))).trans HIr.out.head);have t1:=λw=>M6 w x n;have t2:=λw=>Cl w x n;unfold Aw De at hen;clear hkv hkD hR3 hg3 hs3 hb3 h3 hr hx e hR hlt hLl;have hni:=HX.out.id;have HOne:=aa (show ∀v∈(#[.int .i64 x.id,.int .i64 x.gen,.int .i64 x.mode,.int .i64 x.time,.int .i64 (A5 r x:Int),Ad x n]:Array Value).toList,v.oneCell'=true from by intro v hv;simp at hv;rcases hv with rfl | rfl | rfl | rfl | rfl | rfl<;>first | rfl | exact Ya _ _)
    obtain⟨w4,hw4⟩:∃w4,w3.alloc (.cells #[.int .i64 x.id,.int .i64 x.gen,.int .i64 x.mode,.int .i64 x.time,.int .i64 (A5 r x:Int),Ad x n] 143)=w4:=⟨_,rfl⟩;have hB4:Below w3.heap.size w3 w4:=by rw[<-hw4];exact(ab _ _).alloc (av _) _
    have h4n:=heap_alloc_new w3 (.cells #[.int .i64 x.id,.int .i64 x.gen,.int .i64 x.mode,.int .i64 x.time,.int .i64 (A5 r x:Int),Ad x n] 143);rw[hw4] at h4n;have h4s:w4.heap.size=w3.heap.size+1:=by rw[<-hw4];simp
    have hm4:=HM3.out.of_block (hB4.block _ HM3.out.lt);have e5:w4.cell? ⟨n.blk,5,none⟩=some (Ad x n):=by rw[<-d5];exact ac (hB4.block _ (hnl _ n.blk_mem))
    rcases hxk with hk | hk | hk
    .simp only[hk,if_true,De] at t1;have hbig:n.big=true:=by rw[HX.out.big,hk];rfl
     obtain⟨sz,bl,g1,g2⟩:=HX.out.file hk;have HCl:=aa (Z12 (g1.keep (hB4.block _ (hnl _ (Nd.b_mem hbig))) (hB4.block _ (hnl _ (Nd.m_mem hbig)))));have HS:=aa g2;have H4n:=aa h4n;have HNi:=aa hni;have HB4:=aa hB4;have HW4:=aa hw4;have HI6:=aa Zes;have H4s:=aa h4s;have HM4:=aa hm4;have HG4:=aa ((hB4.block _ (An HH3.out)).trans HH3.out);have hg0n:g0≠w3.heap.size:=λe=>by have:=An HH3.out;omega
     have hm0n:mi'≠w3.heap.size:=λe=>by have:=HM3.out.lt;omega
     have hk':=aa hk;clear hB4 hw4 h4n h4s hm4 hnl hk g1 g2 hbig;generalize hhv:Ad x n=hv at *;clear hhv
     go_wp2_with (first
      | (refine As rfl 143 (.tmp 6) (.tmp 33) rfl w3 _ _ _ rfl rfl rfl HI6.out HOne.out ?_;rw[HW4.out])
      | (go_at_call 89;(with_reducible refine HCl.out.mono ?_);rintro e w5 ⟨b',m',rfl,hb',hm',hraw,hB5⟩;
         have h5n:=(hB5.block w3.heap.size (by have:=H4s.out;omega)).trans H4n.out;have x5:w5.cell? ⟨w3.heap.size,5,none⟩=some hv:=by rw[A1 h5n];rfl;
         have x5f:w5.frozen? ⟨w3.heap.size,5,none⟩=false:=frozen_of_row w5 w3.heap.size 5 _ _ h5n;have hm6:=(HM4.out.of_block (hB5.block _ HM4.out.lt)).of_block (A4 w5 w3.heap.size 5 mi' (.iface 148 (.pointer (some ⟨b',0,none⟩))) hm0n);obtain⟨o,hup,hmp⟩:=Am KI (t:=144) Tryz.underlying144 hm6 n.id w3.heap.size;have e0:(w5.setCell ⟨w3.heap.size,5,none⟩ (.iface 148 (.pointer (some ⟨b',0,none⟩)))).cell? ⟨g0,1,none⟩=some (.map (some mi')):=(by rw[A1 ((A4 w5 w3.heap.size 5 g0 _ hg0n).trans ((hB5.block _ (An HG4.out)).trans HG4.out))];rfl);rw[HNi.out] at hup;unfold Aw De at hup;have H5n:=aa h5n;have HUp:=aa hmp;have HRaw:=aa hraw;have HB5:=aa hB5;clear h5n hm6 hmp hraw hB5))
     go_roundg g
     case rel =>
      have q:=hk'.out;have q4:=H4s.out;have hnd:NodeR (w5.setCell ⟨w3.heap.size,5,none⟩ (.iface 148 (.pointer (some ⟨b',0,none⟩)))) r x ⟨x.id,w3.heap.size,b',m',true⟩ :=
       ⟨rfl,by rw[heap_setCell_same w5 w3.heap.size 5 _ _ _ H5n.out];unfold Ks Ad;rw[dq q];rfl,by simp[q],λ_=>⟨sz,bl,HRaw.out.keep (A4 _ _ _ _ _ (by omega)) (A4 _ _ _ _ _ (by omega)),HS.out⟩,λh=>by omega⟩
      exact⟨D++[n.id],N'++[⟨x.id,w3.heap.size,b',m',true⟩],by simp;omega,Tq HW.out HIr.out HkD.out HR3.out HG3.out HS3.out ((HB4.out.trans (HB5.out.mono HB4.out.size)).setCell (av _) _) HUp.out hmil HXm.out HNi.out.symm hnd (λk hk=>by simp[Nd.foot] at hk;omega) HB3.out⟩
     case measure=>omega
    .simp only[hk,if_true,De] at t1 t2;have hbig:n.big=true:=by rw[HX.out.big,hk];rfl
     obtain⟨g1,g2⟩:=HX.out.dir hk;have hm:=g2.of_block (hB4.block _ (hnl _ (Nd.m_mem hbig)));have HCl:=aa (Qn Xb (show MapB w4.drew n.m Ci Aw (Aa r.nms x.id) from hm.of_block rfl));have hd4:=(hB4.block _ (hnl _ (Nd.b_mem hbig))).trans g1;have hnbl:=hnl _ (Nd.b_mem hbig);have f0:w4.cell? ⟨n.b,0,none⟩=some (.map (some n.m)):=by rw[A1 hd4];rfl
     have f1:w4.cell? ⟨n.b,1,none⟩=some (.int .i64 x.parent):=by rw[A1 hd4];rfl
     have HD4:=aa hd4;have H4n:=aa h4n;have HNi:=aa hni;have HB4:=aa hB4;have HW4:=aa hw4;have HI6:=aa Zes;have H4s:=aa h4s;have HM4:=aa hm4;have HG4:=aa ((hB4.block _ (An HH3.out)).trans HH3.out);have hg0n:g0≠w3.heap.size:=λe=>by have:=An HH3.out;omega
     have hm0n:mi'≠w3.heap.size:=λe=>by have:=HM3.out.lt;omega
     have hk':=aa hk;clear hB4 hw4 h4n h4s hm4 hnl hk g1 g2 hbig hm hd4;generalize hhv:Ad x n=hv at *;clear hhv
     go_upto_region 12 with(first
      | (refine As rfl 143 (.tmp 6) (.tmp 33) rfl w3 _ _ _ rfl rfl rfl HI6.out HOne.out ?_;rw[HW4.out]))
     go_region_held3 (λw'=>w'.cell? ⟨n.b,0,none⟩=some (.map (some n.m))/\w'.cell? ⟨n.b,1,none⟩=some (.int .i64 x.parent))
      (first
       | assumption
       | go_keep
       | skip)
      (first
       | (go_at_call 90;(with_reducible refine HCl.out.mono ?_);rintro e w5 ⟨k5,rfl,hk5,hm5,hB5,hs5⟩;
          have hk5':w3.heap.size+1<=k5:=(by have:=H4s.out;simp at hk5;omega);have K5:∀b,b < w3.heap.size+1->w5.heap[b]?=w4.heap[b]?:=λb hb=>hB5.block b (by have:=H4s.out;simp;omega);have K6:∀b,b < w3.heap.size+1->(w5.alloc (.cells #[.map (some k5),.int .i64 x.parent] 152)).heap[b]?=w4.heap[b]?:=λb hb=>(ae w5 _ b (by omega)).trans (K5 b hb);have K7:∀b,b < w3.heap.size->((w5.alloc (.cells #[.map (some k5),.int .i64 x.parent] 152)).setCell ⟨w3.heap.size,5,none⟩ (.iface 135 (.pointer (some ⟨k5+1,0,none⟩)))).heap[b]?=w4.heap[b]?:=λb hb=>(A4 _ _ _ _ _ (by omega)).trans (K6 b (by omega));have s5:w5.cell? ⟨n.b,0,none⟩=some (.map (some n.m))/\w5.cell? ⟨n.b,1,none⟩=some (.int .i64 x.parent):=⟨(by rw[A1 ((K5 n.b (by omega)).trans HD4.out)];rfl),(by rw[A1 ((K5 n.b (by omega)).trans HD4.out)];rfl)⟩;have s6:(w5.alloc (.cells #[.map (some k5),.int .i64 x.parent] 152)).cell? ⟨n.b,0,none⟩=some (.map (some n.m))/\(w5.alloc (.cells #[.map (some k5),.int .i64 x.parent] 152)).cell? ⟨n.b,1,none⟩=some (.int .i64 x.parent):=⟨(by rw[A1 ((K6 n.b (by omega)).trans HD4.out)];rfl),(by rw[A1 ((K6 n.b (by omega)).trans HD4.out)];rfl)⟩;have s7:((w5.alloc (.cells #[.map (some k5),.int .i64 x.parent] 152)).setCell ⟨w3.heap.size,5,none⟩ (.iface 135 (.pointer (some ⟨k5+1,0,none⟩)))).cell? ⟨n.b,0,none⟩=some (.map (some n.m))/\((w5.alloc (.cells #[.map (some k5),.int .i64 x.parent] 152)).setCell ⟨w3.heap.size,5,none⟩ (.iface 135 (.pointer (some ⟨k5+1,0,none⟩)))).cell? ⟨n.b,1,none⟩=some (.int .i64 x.parent):=⟨(by rw[A1 ((K7 n.b hnbl).trans HD4.out)];rfl),(by rw[A1 ((K7 n.b hnbl).trans HD4.out)];rfl)⟩;have h6n:=(K6 w3.heap.size (by omega)).trans H4n.out;have x5:(w5.alloc (.cells #[.map (some k5),.int .i64 x.parent] 152)).cell? ⟨w3.heap.size,5,none⟩=some hv:=(by rw[A1 h6n];rfl);have x5f:(w5.alloc (.cells #[.map (some k5),.int .i64 x.parent] 152)).frozen? ⟨w3.heap.size,5,none⟩=false:=frozen_of_row _ w3.heap.size 5 _ _ h6n;have hm7:=HM4.out.of_block (K7 mi' (by have:=HM3.out.lt;omega));obtain⟨o,hup,hmp⟩:=Am KI (t:=144) Tryz.underlying144 hm7 n.id w3.heap.size;have e0:((w5.alloc (.cells #[.map (some k5),.int .i64 x.parent] 152)).setCell ⟨w3.heap.size,5,none⟩ (.iface 135 (.pointer (some ⟨k5+1,0,none⟩)))).cell? ⟨g0,1,none⟩=some (.map (some mi')):=(by rw[A1 ((K7 g0 (by have:=An HH3.out;omega)).trans HG4.out)];rfl);rw[HNi.out] at hup;unfold Aw De at hup;have H6n:=aa h6n;have HUp:=aa hmp;have HM5:=aa hm5;have HB5:=aa hB5;have HK5:=aa K5;clear h6n hm7 hmp hm5 hB5 K5 K6 K7))
     all_goals go_wp2_with fail
     go_roundg g
     case rel =>
      have q:=hk'.out;have hnd:NodeR ((w5.alloc (.cells #[.map (some k5),.int .i64 x.parent] 152)).setCell ⟨w3.heap.size,5,none⟩ (.iface 135 (.pointer (some ⟨k5+1,0,none⟩)))) r x ⟨x.id,w3.heap.size,k5+1,k5,true⟩ :=
       ⟨rfl,by rw[heap_setCell_same _ w3.heap.size 5 _ _ _ H6n.out];unfold Ks Ad;rw[dp (by omega),dq q];rfl,by simp[q],λh=>by omega,λ_=>⟨(A4 _ w3.heap.size 5 (k5+1) _ (by omega)).trans (by have:=heap_alloc_new w5 (.cells #[.map (some k5),.int .i64 x.parent] 152);rw[hs5] at this;exact this),HM5.out.of_block ((A4 _ w3.heap.size 5 k5 _ (by omega)).trans (ae w5 _ k5 (by omega)))⟩⟩
      have hBz:Below w3.heap.size w3 ((w5.alloc (.cells #[.map (some k5),.int .i64 x.parent] 152)).setCell ⟨w3.heap.size,5,none⟩ (.iface 135 (.pointer (some ⟨k5+1,0,none⟩)))):=((HB4.out.drew.trans (HB5.out.mono HB4.out.drew.size)).alloc (by omega) _).setCell (av _) _;exact⟨D++[n.id],N'++[⟨x.id,w3.heap.size,k5+1,k5,true⟩],by simp;omega,Tq HW.out HIr.out HkD.out HR3.out HG3.out HS3.out hBz HUp.out hmil HXm.out HNi.out.symm hnd (λk hk=>by simp[Nd.foot] at hk;omega) HB3.out⟩
     case measure=>omega
    .simp only[hk] at t1 t2;obtain⟨o,hup,hmp⟩:=Am KI (t:=144) Tryz.underlying144 hm4 n.id w3.heap.size;have e0:w4.cell? ⟨g0,1,none⟩=some (.map (some mi')):=by rw[A1 ((hB4.block _ (An HH3.out)).trans HH3.out)];rfl
     have HHv:=aa (show Ad x n=.iface 9 (.string x.target) by unfold Ad;rw[dp (by omega),dp (by omega)]);have HNd:=aa (show NodeR w4 r x ⟨x.id,w3.heap.size,0,0,false⟩ from⟨rfl,by rw[h4n];rw[HHv.out];unfold Ks Ad;rw[dp (by omega),dp (by omega)],by simp[hk],λh=>by omega,λh=>by omega⟩);rw[hni] at hup;have HUp:=aa hmp;have HNi:=aa hni;have HB4:=aa hB4;have HW4:=aa hw4;have HI6:=aa Zes;have hk':=aa hk;unfold Aw De at hup;clear hmp hB4 hw4 h4n h4s hm4 hnl hk;generalize hhv:Ad x n=hv at *;clear hhv
     go_wp2_with (first
      | (refine As rfl 143 (.tmp 6) (.tmp 33) rfl w3 _ _ _ rfl rfl rfl HI6.out HOne.out ?_;rw[HW4.out]))
     go_roundg g
     case rel=>exact⟨D++[n.id],N'++[⟨x.id,w3.heap.size,0,0,false⟩],by simp;omega,Tq HW.out HIr.out HkD.out HR3.out HG3.out HS3.out HB4.out HUp.out hmil HXm.out HNi.out.symm HNd.out (λk hk=>by simp[Nd.foot] at hk;omega) HB3.out⟩
     case measure=>omega
end Go.Proofs.YtmmdikhljefeiaaGreat
