
import Derived.Test.YtmmdikhljefeiaaGreatYFsD
import Derived.StillTailTactics
import Derived.Deep.RegionHeld3
namespace Go.Proofs.YtmmdikhljefeiaaGreat
open Go.RowKit Go.MapKept
theorem Ht (w:World)(cs:Array Value)(t:TypeId):∃a,w.alloc (.cells cs t)=a/\Below w.heap.size w a/\w.heap.size+1<=a.heap.size/\a.heap[w.heap.size]?=some (.cells cs t (0,0)) :=
 ⟨_,rfl,(ab _ _).alloc (av _) _,by simp,heap_alloc_new _ _⟩
theorem Gn (w:World)(cs a:Array Value)(t c:TypeId):∃b,(w.alloc (.cells cs t)).alloc (.cells a c)=b/\Below w.heap.size w b/\w.heap.size+2<=b.heap.size/\b.heap[w.heap.size]?=some (.cells cs t (0,0))/\b.heap[w.heap.size+1]?=some (.cells a c (0,0)):=by refine⟨_,rfl,((ab _ _).alloc (av _) _).alloc (by simp) _,by simp,(ae _ _ _ (by simp)).trans (heap_alloc_new _ _),?_⟩;have:=heap_alloc_new (w.alloc (.cells cs t)) (.cells a c);simpa using this
theorem Zbh (w:World)(cs d a:Array Value)(t f c:TypeId):∃b,((w.alloc (.cells cs t)).alloc (.cells d f)).alloc (.cells a c)=b/\Below w.heap.size w b/\w.heap.size+3<=b.heap.size/\b.heap[w.heap.size]?=some (.cells cs t (0,0))/\b.heap[w.heap.size+1]?=some (.cells d f (0,0))/\b.heap[w.heap.size+2]?=some (.cells a c (0,0)):=by
 obtain⟨b,e,h,k,j,i⟩:=Gn w cs d t f;have g:b.heap.size=w.heap.size+2:=by rw[<-e];simp
 rw[e];refine⟨_,rfl,h.alloc (by omega) _,by simp[g],(ae _ _ _ (by omega)).trans j,(ae _ _ _ (by omega)).trans i,?_⟩;have:=heap_alloc_new b (.cells a c);rw[g] at this;exact this
def Fe (r:RFs)(h:Int × Int)(s:ByteArray):(Int × Int) × Int :=
 if B2 r h s true≠0 then((0,0),B2 r h s true) else if s=Mu then(h,0)
 else if s=dot2S then(((A3 r.ins h.1).parent,(A3 r.ins (A3 r.ins h.1).parent).gen),0)
 else if A2 r.nms h.1 s=0 then((0,0),170) else((A2 r.nms h.1 s,(A3 r.ins (A2 r.nms h.1 s)).gen),0)
def Zak (p:(Int × Int) × Int):Value:=.tuple #[.agg #[.int .i64 p.1.1,.int .i64 p.1.2],.int .i64 p.2]
theorem C9 {r:RFs}{h:Int × Int}{s:ByteArray}{free:Bool}(a:B2 r h s free=0):Ab r h=0:=by
 unfold B2 at a;split at a
 .rename_i h1;exact dt a h1
 .rename_i h1;simpa using h1
set_option maxRecDepth 100000 in
set_option maxHeartbeats 4000000 in
theorem Z3k {w:World}{f mi mg K:Nat}{r:RFs}{N:List Nd}(h:FsN w f mi mg r N)(hW:Wf r K)(i g:Int)(s:ByteArray)(hs:s.size<=maxLen) :
  Calls Tryz.prog 76 #[.pointer (some ⟨f,0,none⟩),.agg #[.int .i64 i,.int .i64 g],.string s] w
   λe w'=>e=.returned (Zak (Fe r (i,g) s))/\Below w.heap.size w w':=by
 obtain⟨w2,hw2,hB,hs2,hb0,hb1⟩:=Gn w #[.int .i64 i,.int .i64 g] #[.int .i64 0,.int .i64 0] 31 31;have t0:w2.cell? ⟨w.heap.size,0,none⟩=some (.int .i64 i):=by rw[A1 hb0];rfl
 have t1:w2.cell? ⟨w.heap.size,1,none⟩=some (.int .i64 g):=by rw[A1 hb0];rfl
 have h2:=h.below hW hB;have HW2:=aa hw2;have HB:=aa hB;have HB1:=aa hb1;have HB0:=aa hb0;by_cases hp:B2 r (i,g) s true=0
 .have hf:=C9 hp;obtain⟨hl,hk2⟩:=Bn hf;obtain⟨m1,m2,m3⟩:=Ac hl;obtain⟨n,hn,hr⟩:=h2.at_ hW m1;have hni:n.id=i:=hr.id.trans m2;have hpl:=E5 h2 hW i g s hs true hf hn hni;rw[hp] at hpl;have HP:=aa hpl;by_cases q1:s=Mu
  .rw[show Fe r (i,g) s=((i,g),0) by unfold Fe;rw[dp (by simp[hp]),dq q1]];unfold Zak;subst q1;unfold Mu at *;clear hw2 hB hb0 hb1 h h2 hW hp hf hl hk2 m1 m2 m3 hn hr hni hpl
   go_enter Tryz.func76,Tryz.ntmps76
   go_wp2_with fail
   rw[HW2.out];have HPv:=aa (Ch i g)
   go_wp2_with (first
    | (go_at_call 58;(with_reducible refine HP.out.mono ?_);rintro e w3 ⟨rfl,hB3⟩;have hX3:=(hB3.block _ (by omega)).trans HB1.out;have hs3:=hB3.size;have hc:=(hB3.block _ (by omega)).trans HB0.out;have x0:∀o,(w3.alloc o).cell? ⟨w.heap.size,0,none⟩=_:=λo=>(World.cell?_alloc_lt w3 o _ (by simp;omega)).trans (A1 hc 0);have x1:∀o,(w3.alloc o).cell? ⟨w.heap.size,1,none⟩=_:=λo=>(World.cell?_alloc_lt w3 o _ (by simp;omega)).trans (A1 hc 1);clear hc;replace hB3:=aa hB3;replace hX3:=aa hX3)
    | (refine A6 rfl 31 (.tmp 6) (.tmp 26) rfl _ (w.heap.size+1) _ _ _ rfl rfl ((ae _ _ _ (by omega)).trans hX3.out) rfl Ji HPv.out ?_;intro w5 hX5 hG5))
   have hb5:=Below.grownBy ((HB.out.trans (hB3.out.mono (by omega))).alloc (by omega) _) hG5 (by simp;omega) (λk hk=>by injection hk with hk;omega);exact Ag (p:=6) (u:=7) rfl rfl hX5 Uz rfl Ji rfl rfl ⟨rfl,hb5⟩
  .by_cases q2:s=dot2S
   .rw[show Fe r (i,g) s=(((A3 r.ins i).parent,(A3 r.ins (A3 r.ins i).parent).gen),0) by unfold Fe;rw[dp (by simp[hp]),dp q1,dq q2]];unfold Zak;subst q2;unfold dot2S at *;obtain⟨p,hpm,hpi,hpk⟩:=hW.par _ m1 hk2;have hpb:A3 r.ins (A3 r.ins i).parent=p:=by rw[<-hpi];exact hW.byId hpm
    have HF:=aa h2;generalize hx:A3 r.ins i=x at *;rw[hpb];obtain⟨np,hnp,hrp0⟩:=h2.at_ hW hpm;have HF4:=aa (show ∀w4,Below w2.heap.size w2 w4->w4.cell? ⟨f,1,none⟩=some (.map (some mi))/\w4.cell? ⟨n.b,1,none⟩=some (.int .i64 x.parent)/\w4.cell? ⟨np.blk,0,none⟩=some (.int .i64 x.parent)/\w4.cell? ⟨np.blk,1,none⟩=some (.int .i64 p.gen) /\
      (Instr.lookup 144 (.map (some mi)) (.int .i64 x.parent) false).run Tryz.prog w4=.ok (.pointer (some ⟨np.blk,0,none⟩)) w4 from λw4 hb=>by
     have h4:=h2.below hW hb;have hrp:=hrp0.below (hW.kind _ hpm) hb;have hr4:=hr.below (hW.kind _ m1) hb;obtain⟨_,c1,_⟩:=h4.cells;obtain⟨d0,d1,_⟩:=hrp.cells;have hlk:=(h4.look x.parent).2;have hg:=h4.get hnp;rw[hrp.id,hpi] at hg;rw[hg] at hlk;rw[hpi] at d0;exact⟨c1,by rw[A1 (hr4.dir hk2).1];rfl,d0,d1,hlk⟩)
    generalize p.gen=pg at *;clear hw2 hB hb0 hb1 h h2 hW hp hf hl hk2 m1 m2 m3 hn hr hni hpl hpm hpi hpk hpb hx HF hnp hrp0;generalize x.parent=pp at *
    go_enter Tryz.func76,Tryz.ntmps76
    go_wp2_with fail
    rw[HW2.out];have HPv:=aa (Ch pp pg)
    go_upto_region 8 with(first
     | (go_at_call 58;(with_reducible refine HP.out.mono ?_);rintro e w3 ⟨rfl,hB3⟩;have hX3:=(hB3.block _ (by omega)).trans HB1.out;have hs3:=hB3.size;replace hB3:=aa hB3;replace hX3:=aa hX3))
    obtain⟨w4,hw4,hB4,hs4,hb4⟩:=Ht w3 #[.pointer (some ⟨n.blk,0,none⟩),.pointer (some ⟨n.b,0,none⟩),.string ⟨#[46,46]⟩] 137;rw[hw4];obtain⟨c1,c2,c3,c4,-⟩:=HF4.out w4 (hB3.out.trans (hB4.mono (by omega)));have c5:(Instr.lookup 144 (.map (some mi)) (.int .i64 pp) false).run Tryz.prog w4.drew=.ok (.pointer (some ⟨np.blk,0,none⟩)) w4.drew:=(HF4.out w4.drew (hB3.out.trans (hB4.mono (by omega))).drew).2.2.2.2;have c6:w4.cell? ⟨w3.heap.size,1,none⟩=some (.pointer (some ⟨n.b,0,none⟩)):=by rw[A1 hb4];rfl
    have HX4:=aa ((hB4.block _ (by omega)).trans hX3.out);have HB4:=aa hB4;clear hw4 hb4 hB4
    go_still_tail 13,(by kernel_rfl)
    change wpList _ _ _ _ _ w4.drew
    go_wp2_with (refine A6 rfl 31 (.tmp 6) (.tmp 41) rfl w4.drew (w.heap.size+1) _ _ _ rfl rfl HX4.out rfl Ji HPv.out ?_;intro w5 hX5 hG5)
    have hb5:=Below.grownBy (HB.out.trans ((hB3.out.trans (HB4.out.mono (by omega))).mono (by omega))).drew hG5 (show w.heap.size<=w4.heap.size by omega) (λk hk=>by injection hk with hk;omega);exact Ag (p:=6) (u:=7) rfl rfl hX5 Uz rfl Ji rfl rfl ⟨rfl,hb5⟩
   .have q5:(s.toList==[46])=false:=by rw[beq_eq_false_iff_ne];exact λe=>q1 (Dy e)
    have q6:(s.toList==[46,46])=false:=by rw[beq_eq_false_iff_ne];exact λe=>q2 (Dy e)
    have q7:¬s.toList=[46]:=λe=>q1 (Dy e);have q8:¬s.toList=[46,46]:=λe=>q2 (Dy e);have HAt:=aa (show ∀w4,Below w2.heap.size w2 w4->Calls Tryz.prog 59 #[.agg #[.pointer (some ⟨n.blk,0,none⟩),.pointer (some ⟨n.b,0,none⟩),.string s]] w4 λe w'=>e=.returned (.tuple #[.int .i64 (A2 r.nms i s),.bool (decide (A2 r.nms i s≠0))])/\Below w4.heap.size w4 w' from λw4 hb=>by have hr4:=hr.below (hW.kind _ m1) hb;have:=Bc hr4 hk2 (hr4.lt (hW.kind _ m1)) s (some ⟨n.blk,0,none⟩);rw[m2,hW.entry_some] at this;exact this)
    by_cases he:A2 r.nms i s=0
    .rw[show Fe r (i,g) s=((0,0),170) by unfold Fe;rw[dp (by simp[hp]),dp q1,dp q2,dq he]];unfold Zak;rw[he] at HAt;simp only[ne_eq,not_true_eq_false,decide_false] at HAt;clear hw2 hB hb0 hb1 h h2 hW hp hf hl hk2 m1 m2 m3 hn hr hni hpl q1 q2 he
     go_enter Tryz.func76,Tryz.ntmps76
     go_wp2_with fail
     rw[HW2.out];have HPv:=aa (Ch 0 0)
     go_upto_region 9 with(first
      | (go_at_call 58;(with_reducible refine HP.out.mono ?_);rintro e w3 ⟨rfl,hB3⟩;have hX3:=(hB3.block _ (by omega)).trans HB1.out;have hs3:=hB3.size;replace hB3:=aa hB3;replace hX3:=aa hX3))
     obtain⟨w4,hw4,hB4,hs4,hb4⟩:=Ht w3 #[.pointer (some ⟨n.blk,0,none⟩),.pointer (some ⟨n.b,0,none⟩),.string s] 137;rw[hw4];have c5:w4.cell? ⟨w3.heap.size,0,none⟩=some (.pointer (some ⟨n.blk,0,none⟩)):=by rw[A1 hb4];rfl
     have c6:w4.cell? ⟨w3.heap.size,1,none⟩=some (.pointer (some ⟨n.b,0,none⟩)):=by rw[A1 hb4];rfl
     have c7:w4.cell? ⟨w3.heap.size,2,none⟩=some (.string s):=by rw[A1 hb4];rfl
     have HX4:=aa ((hB4.block _ (by omega)).trans hX3.out);have HB4:=aa (hB3.out.trans (hB4.mono (by omega)));clear hw4 hb4 hB4
     go_wp2_with (first
      | (go_at_call 59;(with_reducible refine(HAt.out _ HB4.out).mono ?_);rintro e w5 ⟨rfl,hB5⟩;have hX5:=(hB5.block _ (by omega)).trans HX4.out;have hs5:=hB5.size;replace hB5:=aa hB5;replace hX5:=aa hX5)
      | (refine A6 rfl 31 (.tmp 6) (.tmp 49) rfl w5 (w.heap.size+1) _ _ _ rfl rfl hX5.out rfl Ji HPv.out ?_;intro w6 hX6 hG6))
     have hb6:=Below.grownBy ((HB.out.trans (HB4.out.mono (by omega))).trans (hB5.out.mono (by omega))) hG6 (by omega) (λk hk=>by injection hk with hk;omega);exact Ag (p:=6) (u:=7) rfl rfl hX6 Uz rfl Ji rfl rfl ⟨rfl,hb6⟩
    .rw[show Fe r (i,g) s=((A2 r.nms i s,(A3 r.ins (A2 r.nms i s)).gen),0) by unfold Fe;rw[dp (by simp[hp]),dp q1,dp q2,dp he]];unfold Zak;obtain⟨nm,hnm,_,_,e3⟩:=B4 he;obtain⟨_,p,hpm,hpi⟩:=hW.nmI nm hnm;rw[e3] at hpi;have hpb:A3 r.ins (A2 r.nms i s)=p:=by rw[<-hpi];exact hW.byId hpm
     obtain⟨np,hnp,hrp0⟩:=h2.at_ hW hpm;rw[hpb];have HF5:=aa (show ∀w4,Below w2.heap.size w2 w4->w4.cell? ⟨f,1,none⟩=some (.map (some mi))/\w4.cell? ⟨np.blk,0,none⟩=some (.int .i64 (A2 r.nms i s))/\w4.cell? ⟨np.blk,1,none⟩=some (.int .i64 p.gen) /\
       (Instr.lookup 144 (.map (some mi)) (.int .i64 (A2 r.nms i s)) false).run Tryz.prog w4=.ok (.pointer (some ⟨np.blk,0,none⟩)) w4 from λw4 hb=>by
      have h4:=h2.below hW hb;have hrp:=hrp0.below (hW.kind _ hpm) hb;obtain⟨_,c1,_⟩:=h4.cells;obtain⟨d0,d1,_⟩:=hrp.cells;have hlk:=(h4.look (A2 r.nms i s)).2;have hg:=h4.get hnp;rw[hrp.id,hpi] at hg;rw[hg] at hlk;rw[hpi] at d0;exact⟨c1,d0,d1,hlk⟩)
     simp only[ne_eq,he,not_false_eq_true,decide_true] at HAt;generalize A2 r.nms i s=ent at *;generalize p.gen=pg at *;clear hw2 hB hb0 hb1 h h2 hW hp hf hl hk2 m1 m2 m3 hn hr hni hpl q1 q2 he hpm hpi hpb hnp hrp0 e3 hnm
     go_enter Tryz.func76,Tryz.ntmps76
     go_wp2_with fail
     rw[HW2.out];have HPv:=aa (Ch ent pg)
     go_upto_region 9 with(first
      | (go_at_call 58;(with_reducible refine HP.out.mono ?_);rintro e w3 ⟨rfl,hB3⟩;have hX3:=(hB3.block _ (by omega)).trans HB1.out;have hs3:=hB3.size;replace hB3:=aa hB3;replace hX3:=aa hX3))
     obtain⟨w4,hw4,hB4,hs4,hb4⟩:=Ht w3 #[.pointer (some ⟨n.blk,0,none⟩),.pointer (some ⟨n.b,0,none⟩),.string s] 137;rw[hw4];have c5:w4.cell? ⟨w3.heap.size,0,none⟩=some (.pointer (some ⟨n.blk,0,none⟩)):=by rw[A1 hb4];rfl
     have c6:w4.cell? ⟨w3.heap.size,1,none⟩=some (.pointer (some ⟨n.b,0,none⟩)):=by rw[A1 hb4];rfl
     have c7:w4.cell? ⟨w3.heap.size,2,none⟩=some (.string s):=by rw[A1 hb4];rfl
     have HX4:=aa ((hB4.block _ (by omega)).trans hX3.out);have HB4:=aa (hB3.out.trans (hB4.mono (by omega)));clear hw4 hb4 hB4
     go_wp2_with (first
      | (go_at_call 59;(with_reducible refine(HAt.out _ HB4.out).mono ?_);rintro e w5 ⟨rfl,hB5⟩;have hX5:=(hB5.block _ (by omega)).trans HX4.out;have hs5:=hB5.size;obtain⟨d1,d2,d3,d4⟩:=HF5.out w5 (HB4.out.trans (hB5.mono (by omega)));replace hB5:=aa hB5;replace hX5:=aa hX5)
      | (refine A6 rfl 31 (.tmp 6) (.tmp 58) rfl w5 (w.heap.size+1) _ _ _ rfl rfl hX5.out rfl Ji HPv.out ?_;intro w6 hX6 hG6))
     have hb6:=Below.grownBy ((HB.out.trans (HB4.out.mono (by omega))).trans (hB5.out.mono (by omega))) hG6 (by omega) (λk hk=>by injection hk with hk;omega);exact Ag (p:=6) (u:=7) rfl rfl hX6 Uz rfl Ji rfl rfl ⟨rfl,hb6⟩
 .rw[show Fe r (i,g) s=((0,0),B2 r (i,g) s true) by unfold Fe;rw[dq hp]];unfold Zak;obtain⟨pa,pb,pc,hpl⟩:=L1 h2 hW i g s hs true hp;have HP:=aa hpl;have hne:(B2 r (i,g) s true != 0)=true:=by rw[bne_iff_ne];exact hp
  generalize B2 r (i,g) s true=pe at *;clear hw2 hB hb0 hb1 h h2 hW hp hpl
  go_enter Tryz.func76,Tryz.ntmps76
  go_wp2_with fail
  rw[HW2.out];have HPv:=aa (Ch 0 0)
  go_wp2_with (first
   | (go_at_call 58;(with_reducible refine HP.out.mono ?_);rintro e w3 ⟨rfl,hB3⟩;have hX3:=(hB3.block _ (by omega)).trans HB1.out;have hs3:=hB3.size;replace hB3:=aa hB3;replace hX3:=aa hX3)
   | (refine A6 rfl 31 (.tmp 6) (.tmp 21) rfl _ (w.heap.size+1) _ _ _ rfl rfl ((ae _ _ _ (by omega)).trans hX3.out) rfl Ji HPv.out ?_;intro w5 hX5 hG5))
  have hb5:=Below.grownBy ((HB.out.trans (hB3.out.mono (by omega))).alloc (by omega) _) hG5 (by simp;omega) (λk hk=>by injection hk with hk;omega);exact Ag (p:=6) (u:=7) rfl rfl hX5 Uz rfl Ji rfl rfl ⟨rfl,hb5⟩
end Go.Proofs.YtmmdikhljefeiaaGreat
