
import Derived.Test.YtmmdikhljefeiaaGreatWA
namespace Go.Proofs.YtmmdikhljefeiaaGreat
open Go.RowKit Go.MapKept
def mkR (p:RFs × (Int × Int) × Int):Value:=.tuple #[.agg #[.int .i64 p.2.1.1,.int .i64 p.2.1.2],.int .i64 p.2.2]
theorem Px {r:RFs}{K:Nat}(a:Wf r K)(id:Int):0<=Aq r.gens id/\Aq r.gens id<=(K:Int)+1:=by
 unfold Aq;split
 .rw[List.getD_eq_getElem?_getD];cases hg:r.gens[id.toNat]? with
  | none=>exact⟨by simp,by simp;omega⟩
  | some v=>exact a.genK v (au hg)
 .exact⟨by omega,by omega⟩
attribute [local go_sem] C8
set_option maxRecDepth 100000 in
set_option maxHeartbeats 16000000 in
theorem Z60 {w:World}{f mi mg K:Nat}{r:RFs}{N:List Nd}(h:FsN w f mi mg r N)(hW:Wf r K)(hK:K<=1000000)(i g:Int)(s:ByteArray)(hs:s.size<=maxLen)(md tm:Int)(tg:ByteArray)(ht:tg.size<=maxLen)
  (hp:B2 r (i,g) s false=0) (q:Cw ⟨1,md,tm,tg⟩=true) (q1:A2 r.nms i s=0) (q3:r.ins.length < 200) :
  Calls Tryz.prog 31 #[.pointer (some ⟨f,0,none⟩),.agg #[.int .i64 i,.int .i64 g],.string s,.agg #[.int .i64 1,.int .i64 md,.int .i64 tm,.string tg]] w
   λe w'=>e=.returned (.tuple #[.agg #[.int .i64 (Df r.ins),.int .i64 (Aq r.gens (Df r.ins)+1)],.int .i64 0])/\Cr w w' f mi mg N (Ai (Id r (Fa r (i,g) ⟨1,md,tm,tg⟩)) i s (Df r.ins)):=by
 obtain⟨w2,hw2,hB,hs2,hb0,hb1,hb2⟩:=Zbh w #[.int .i64 i,.int .i64 g] #[.int .i64 1,.int .i64 md,.int .i64 tm,.string tg] #[.int .i64 0,.int .i64 0] 31 32 31;have t0:w2.cell? ⟨w.heap.size,0,none⟩=some (.int .i64 i):=by rw[A1 hb0];rfl
 have t1:w2.cell? ⟨w.heap.size,1,none⟩=some (.int .i64 g):=by rw[A1 hb0];rfl
 have h2:=h.below hW hB;have HW2:=aa hw2;have HB:=aa hB;have HB2:=aa hb2;have HM:=aa (show ∀w',Below w2.heap.size w2 w'->w'.cell? ⟨w.heap.size+1,0,none⟩=some (.int .i64 1)/\w'.cell? ⟨w.heap.size+1,1,none⟩=some (.int .i64 md)/\w'.cell? ⟨w.heap.size+1,2,none⟩=some (.int .i64 tm)/\w'.cell? ⟨w.heap.size+1,3,none⟩=some (.string tg) from λw' hb=>by have e:=(hb.block (w.heap.size+1) (by omega)).trans hb1;exact⟨A1 e 0,A1 e 1,A1 e 2,A1 e 3⟩)
 have hf:=C9 hp;obtain⟨hl,hk2⟩:=Bn hf;obtain⟨m1,m2,m3⟩:=Ac hl;obtain⟨np,hn,hr⟩:=h2.at_ hW m1;have hni:np.id=i:=hr.id.trans m2;have hpl:=E5 h2 hW i g s hs false hf hn hni;rw[hp] at hpl;have HP:=aa hpl;clear hpl;have HAt:=aa (show ∀w4,Below w2.heap.size w2 w4->Calls Tryz.prog 59 #[.agg #[.pointer (some ⟨np.blk,0,none⟩),.pointer (some ⟨np.b,0,none⟩),.string s]] w4 λe w'=>e=.returned (.tuple #[.int .i64 (A2 r.nms i s),.bool (decide (A2 r.nms i s≠0))])/\Below w4.heap.size w4 w' from λw4 hb=>by have hr4:=hr.below (hW.kind _ m1) hb;have:=Bc hr4 hk2 (hr4.lt (hW.kind _ m1)) s (some ⟨np.blk,0,none⟩);rw[m2,hW.entry_some] at this;exact this)
 rw[q1] at HAt;simp only[ne_eq,not_true_eq_false,decide_false] at HAt;have HR:=aa (show ∀w,Calls Tryz.prog 60 #[.agg #[.int .i64 1,.int .i64 md,.int .i64 tm,.string tg]] w λe w'=>e=.returned (.bool true)/\Below w.heap.size w w' from λw=>by have:=Ik ⟨1,md,tm,tg⟩ w ht;rw[q] at this;exact this)
 have HD:=aa (show ∀w4,Below w2.heap.size w2 w4->NodeR w4 r (A3 r.ins i) np from λw4 hb=>hr.below (.inr (.inl hk2)) hb);have HF:=aa (show ∀w4,Below w2.heap.size w2 w4->FsN w4 f mi mg r N from λw4 hb=>h2.below hW hb);have HLen:=aa (h.len hW);have hlx:=hW.lim _ m1;have HW:=aa hW;have HH:=aa h;have HM1:=aa m1;have HM2:=aa m2;have HK2:=aa hk2;have HN:=aa hn;have HEn:=aa (show(Az (Aa r.nms i) s).isSome=false by rw[hW.entry_some];simp[q1]);have hgb:=λid=>Px hW id;have HGb:=aa hgb;have HLt:=aa (h.lt hW);have HRp:=aa hr;clear hw2 hB hb0 hb1 hb2 h h2 hW hp hf hl hk2 m1 m2 m3 hn hr hni q1 hgb q
 go_enter Tryz.func31,Tryz.ntmps31
 go_wp2_with fail
 rw[HW2.out]
 go_upto_region 4 with(go_at_call 58;(with_reducible refine HP.out.mono ?_);rintro e w3 ⟨rfl,hB3⟩;have hs3:=hB3.size;replace hB3:=aa hB3)
 obtain⟨w4,hw4,hB4,hs4,hb4⟩:=Ht w3 #[.pointer (some ⟨np.blk,0,none⟩),.pointer (some ⟨np.b,0,none⟩),.string s] 137;rw[hw4];have c5:w4.cell? ⟨w3.heap.size,0,none⟩=some (.pointer (some ⟨np.blk,0,none⟩)):=by rw[A1 hb4];rfl
 have c6:w4.cell? ⟨w3.heap.size,1,none⟩=some (.pointer (some ⟨np.b,0,none⟩)):=by rw[A1 hb4];rfl
 have c7:w4.cell? ⟨w3.heap.size,2,none⟩=some (.string s):=by rw[A1 hb4];rfl
 have HQ4:=aa hb4;replace hB4:=aa (hB3.out.trans (hB4.mono (by omega)));clear hw4 hb4
 go_wp2_with (first
  | (go_at_call 59;(with_reducible refine(HAt.out w4 hB4.out).mono ?_);rintro e w5 ⟨rfl,hB5⟩;have hs5:=hB5.size;have hqq:=(hB5.block _ (by omega)).trans HQ4.out;replace hB5:=aa (hB4.out.trans (hB5.mono (by omega)));obtain⟨v0,v1,v2,v3⟩:=HM.out w5 hB5.out;have HQ5:=aa hqq;clear hqq)
  | (go_at_call 60;(with_reducible refine(HR.out w5).mono ?_);rintro e w6 ⟨rfl,hB6⟩;have hs6:=hB6.size;have HQ6:=aa ((hB6.block _ (by omega)).trans HQ5.out);replace hB6:=aa (hB5.out.trans (hB6.mono (by omega)));obtain⟨u0,u1,u2,u3⟩:=HM.out w6 hB6.out;have p60:w6.cell? ⟨w3.heap.size,0,none⟩=_:=A1 HQ6.out 0;have p61:w6.cell? ⟨w3.heap.size,1,none⟩=_:=A1 HQ6.out 1;obtain⟨-,-,-,-,k4,-⟩:=(HD.out w6 hB6.out).cells;obtain⟨-,f1,f2⟩:=(HF.out w6 hB6.out).cells;have hlen:=Bg (P:=Tryz.prog) (ty:=3) (t:=144) Tryz.underlying144 (HF.out w6 hB6.out).imap;rw[ap,HLen.out] at hlen))
 go_loop [14] (λvi=>∃j:Nat,j<=r.ins.length/\vi=.int .i64 ((j:Int)+1)/\∀k:Nat,k < j->(A3 r.ins ((k:Int)+1)).id≠0) (λvi=>300 - (intOf vi).toNat)
 case atStart=>exact⟨0,aw _,rfl,λk hk=>dt hk (Nat.not_lt_zero k)⟩
 case round =>
  obtain⟨j,hj,rfl,hjl⟩:=hrel;have HJ:=aa hjl;clear hjl;have hlk:=((HF.out w6 hB6.out).look ((j:Int)+1)).2;by_cases hz:(A3 r.ins ((j:Int)+1)).id=0
  .rw[(HF.out w6 hB6.out).get_none HW.out hz] at hlk;simp only[Option.map_none,Option.getD_none] at hlk;have HId:=aa (Jf (by omega) hz HJ.out);have HFr:=aa (show ∀y∈r.ins,y.id≠(j:Int)+1 from λy hy e=>by
    rw[<-e,HW.out.byId hy] at hz;exact HW.out.ne0 hy hz)
   obtain⟨G,g1,g2⟩:=(HF.out w6 hB6.out).gmap;obtain⟨ga,hga⟩:∃ga,Aq r.gens ((j:Int)+1)=ga:=⟨_,rfl⟩;obtain⟨b1,b2⟩:=HGb.out ((j:Int)+1);rw[hga] at b1 b2;have hgl:=Ar KI (P:=Tryz.prog) (t:=145) (et:=3) Tryz.underlying145 (Za3 w6) g1 ((j:Int)+1);rw[show((Az G ((j:Int)+1)).map Aw).getD (.int .i64 0)=Aw ga by rw[<-hga,<-g2];cases Az G ((j:Int)+1)<;>rfl] at hgl;obtain⟨o1,hup1,hmp1⟩:=Am KI (P:=Tryz.prog) (t:=145) Tryz.underlying145 g1 ((j:Int)+1) (ga+1);have hF7:Frm (fpL f mi mg N) w6 (putObj w6 mg o1):=(Frm.refl _ _).putObj (.inl (by simp[fpL])) o1;have hs7:w6.heap.size<=(putObj w6 mg o1).heap.size:=by rw[C8];omega
   have hk7:∀k,k≠mg->(putObj w6 mg o1).heap[k]?=w6.heap[k]?:=λk hk=>A9 _ _ hk;obtain⟨w7,hw7⟩:∃w7,putObj w6 mg o1=w7:=⟨_,rfl⟩;rw[hw7] at hF7 hs7 hk7 hmp1;have hgl2:=Ar KI (P:=Tryz.prog) (w:=w7.drew) (t:=145) (et:=3) Tryz.underlying145 (Za3 w7.drew) (show MapB w7.drew mg Aw Aw _ from hmp1) ((j:Int)+1);rw[D0,dq rfl] at hgl2;simp only[Option.map_some,Option.getD_some] at hgl2;unfold Aw at hgl hup1 hgl2;have HG7:=aa (show ∃G,MapB w7 mg Aw Aw G/\∀id,(Az G id).getD 0=Aq (By r.gens ((j:Int)+1)) id from⟨_,hmp1,λid=>by
    rw[D0,Je _ (by omega)];by_cases e:id=(j:Int)+1
    .rw[dq e,dq e,hga];rfl
    .rw[dp e,dp e];exact g2 id⟩)
   have HGa:=aa hga;have F7:=aa hF7;have K7:=aa hk7;have HW7:=aa hw7;have l1:=HLt.out.2.2.1;have hB6s:=hB6.out.size;have e1:w7.cell? ⟨w.heap.size+1,1,none⟩=some (.int .i64 md):=(ac (hk7 _ (show w.heap.size+1≠mg by omega))).trans u1;have e2:w7.cell? ⟨w.heap.size+1,2,none⟩=some (.int .i64 tm):=(ac (hk7 _ (show w.heap.size+1≠mg by omega))).trans u2;have e3:w7.cell? ⟨f,2,none⟩=some (.map (some mg)):=(ac (hk7 _ (λe=>A8 g1 (HF.out w6 hB6.out).head e.symm))).trans f2;clear hz hw7 hF7 hk7 hmp1 g1 g2 hga
   go_upto_region 17 with fail
   rw[HW7.out];clear v0 v1 v2 v3 c5 c6 c7 hlk hlen hgl hup1 f1 f2 k4 p60 p61
   go_still_tail 13,(by kernel_rfl)
   change wpList _ _ _ _ _ w7.drew
   go_upto_region 18 with fail
   obtain⟨wa,hwa,hBa,hsa,hba⟩:=Ht w7 #[.int .i64 ((j:Int)+1),.int .i64 (ga+1),.int .i64 md,.int .i64 tm,.int .i64 1,.nilIface] 143;rw[hwa];obtain⟨w8,hw8⟩:∃w8,wa.drew=w8:=⟨_,rfl⟩;rw[hw8];have hB8:Below w7.heap.size w7 w8:=by rw[<-hw8];exact hBa.drew
   have hs8:w7.heap.size+1<=w8.heap.size:=by rw[<-hw8];exact hsa
   have hb8:w8.heap[w7.heap.size]?=some (.cells #[.int .i64 ((j:Int)+1),.int .i64 (ga+1),.int .i64 md,.int .i64 tm,.int .i64 1,.nilIface] 143 (0,0)):=by rw[<-hw8];exact hba
   clear hwa hBa hsa hba hw8;have hk8:∀k,k < w6.heap.size->k≠mg->w8.heap[k]?=w6.heap[k]?:=λk a b=>(hB8.block k (by omega)).trans (K7.out k b);have F8:=aa (F7.out.trans (Frm.of_below hB8));have HG8:=aa (show ∃G,MapB w8 mg Aw Aw G/\∀id,(Az G id).getD 0=Aq (By r.gens ((j:Int)+1)) id from by obtain⟨G,a,b⟩:=HG7.out;exact⟨G,a.of_block (hB8.block _ a.lt),b⟩)
   generalize hxb:w7.heap.size=xb at *;have hxb':w6.heap.size<=xb:=hs7;have e0:w8.cell? ⟨w.heap.size+1,0,none⟩=some (.int .i64 1):=(ac (hk8 _ (show w.heap.size+1 < w6.heap.size by omega) (show w.heap.size+1≠mg by omega))).trans u0;have X8:=aa hb8;have K8:=aa hk8;clear hB8 hb8 hk8 e1 e2 e3 hgl2 hs7 hxb;have hgm:mi≠mg:=(HF.out w6 hB6.out).mm;have l0:=HLt.out.1;have l2:=HLt.out.2.1;have hpb:np.big=true:=by rw[HRp.out.big,HK2.out];rfl
   have p1:=HLt.out.2.2.2 np HN.out _ np.blk_mem;have p2:=HLt.out.2.2.2 np HN.out _ (Nd.b_mem hpb);have p3:=HLt.out.2.2.2 np HN.out _ (Nd.m_mem hpb);obtain⟨of1,of2,of3⟩:=HH.out.off np HN.out;have HNe1:=aa (show mi≠np.blk from λe=>of2 (e ▸ np.blk_mem));have HNe3:=aa (show f≠np.blk from λe=>of1 (e ▸ np.blk_mem));have HNe4:=aa (show np.m≠mi from λe=>of2 (e ▸ Nd.m_mem hpb));have HNe5:=aa (show np.m≠mg from λe=>of3 (e ▸ Nd.m_mem hpb));have HNe8:=aa (show np.b≠mi from λe=>of2 (e ▸ Nd.b_mem hpb));have HNe9:=aa (show np.b≠mg from λe=>of3 (e ▸ Nd.b_mem hpb));have HNe6:=aa (show np.m≠np.blk from A8 (HRp.out.dir HK2.out).2 HRp.out.head);have HNe10:=aa (show np.b≠np.blk from Av (HRp.out.dir HK2.out).1 HRp.out.head (by decide));have HNe2:=aa (show f≠mg from λe=>by obtain⟨G,a,_⟩:=HH.out.gmap;exact A8 a HH.out.head e.symm)
   clear of1 of2 of3;have hrw:NodeR w r (A3 r.ins i) np:=by obtain⟨y,hy,hry⟩:=HH.out.node np HN.out;have a1:=HW.out.byId hy;rw[<-hry.id,HRp.out.id,HM2.out] at a1;rw[a1];exact hry
   have HRw:=aa hrw;have D6:=aa ((HD.out w6 hB6.out).head);clear hrw;have HNew:=aa (Z83 w8)
   go_upto_region 26 with(go_at_call 61;(with_reducible refine HNew.out.mono ?_);rintro e w9 ⟨b,m,rfl,hb,hm,hR9,hB9⟩;have x9:=(hB9.block xb (by omega)).trans X8.out;have x95:w9.cell? ⟨xb,5,none⟩=_:=A1 x9 5;have x9f:w9.frozen? ⟨xb,5,none⟩=false:=frozen_of_row w9 xb 5 _ _ x9;have X9:=aa x9;clear x9;have e09:w9.cell? ⟨w.heap.size+1,0,none⟩=some (.int .i64 1):=(ac (hB9.block _ (show w.heap.size+1 < w8.heap.size by omega))).trans e0;replace hR9:=aa hR9;replace hB9:=aa hB9)
   obtain⟨w10,hw10⟩:∃w10,w9.setCell ⟨xb,5,none⟩ (.iface 148 (.pointer (some ⟨b,0,none⟩)))=w10:=⟨_,rfl⟩;rw[hw10];have k10:∀k,k≠xb->w10.heap[k]?=w9.heap[k]?:=λk hk=>by rw[<-hw10];exact A4 _ _ _ _ _ hk
   have X10:=aa (show w10.heap[xb]?=some (.cells (Ks ⟨(j:Int)+1,ga+1,1,md,tm,i,tg,[],[]⟩ 1 ⟨(j:Int)+1,xb,b,m,true⟩) 143 (0,0)) by rw[<-hw10];exact heap_setCell_same w9 xb 5 _ _ _ X9.out);have F10:=aa (show Frm (fpL f mi mg N) w6 w10 by rw[<-hw10];exact(F8.out.trans (Frm.of_below hB9.out)).setCell (.inr hxb') _);have A10:=aa (show ∀k,k < w6.heap.size->k≠mg->k≠np.blk->w10.heap[k]?=w6.heap[k]? from λk a b _=>((k10 k (by omega)).trans (hB9.out.block k (by omega))).trans (K8.out k a b));have P10:=aa (show w10.heap[np.blk]?=some (.cells (Ks (A3 r.ins i) (A5 r (A3 r.ins i)+0) np) 143 (0,0)) from(((k10 np.blk (by omega)).trans (hB9.out.block np.blk (by omega))).trans (K8.out np.blk (by omega) (by have:=HNe9;intro e;exact(HH.out.off np HN.out).2.2 (e ▸ np.blk_mem)))).trans D6.out);have HG10:=aa (show ∃G,MapB w10 mg Aw Aw G/\∀id,(Az G id).getD 0=Aq (By r.gens ((j:Int)+1)) id from by obtain⟨G,a,c⟩:=HG8.out;exact⟨G,a.of_block ((k10 mg (by omega)).trans (hB9.out.block mg a.lt)),c⟩)
   have NC10:=aa (show ∀w',(∀k,k < w10.heap.size->w.heap.size+2 < k->w'.heap[k]?=w10.heap[k]?)->Raw w' b m 0 [] from λw' hk=>by
    have hsz:w9.heap.size<=w10.heap.size:=by rw[<-hw10];simp[World.setCell]
    have ht:=hR9.out.lt;have hm2:=hR9.out.map.lt;exact hR9.out.keep ((hk b (by omega) (by omega)).trans (k10 b (by omega))) ((hk m (by omega) (by omega)).trans (k10 m (by omega))))
   clear hw10 x95 x9f e09 k10;have i10:=(HF.out w6 hB6.out).imap.of_block (A10.out mi (by omega) hgm (HNe1.out));obtain⟨o2,hup2,hmp2⟩:=Am KI (P:=Tryz.prog) (t:=144) Tryz.underlying144 i10 ((j:Int)+1) xb;unfold Aw De at hup2;have f10:w10.cell? ⟨f,1,none⟩=some (.map (some mi)):=(ac (A10.out f (by omega) HNe2.out HNe3.out)).trans (HF.out w6 hB6.out).cells.2.1
   go_upto_region 27 with fail
   obtain⟨w11,hw11⟩:∃w11,putObj w10 mi o2=w11:=⟨_,rfl⟩;rw[hw11];have k11:∀k,k≠mi->w11.heap[k]?=w10.heap[k]?:=λk hk=>by rw[<-hw11];exact A9 _ _ hk
   have F11:=aa (show Frm (fpL f mi mg N) w6 w11 by rw[<-hw11];exact F10.out.putObj (.inl (by simp[fpL])) o2);rw[hw11] at hmp2;have I11:=aa hmp2;clear hw11 hup2 f10 hmp2;have hd6:=(HD.out w6 hB6.out).dir HK2.out;rw[HM2.out] at hd6;have m11:MapB w11 np.m Ci Aw (Aa r.nms i):=hd6.2.of_block ((k11 _ HNe4.out).trans (A10.out np.m (by have:=hd6.2.lt;omega) HNe5.out HNe6.out));obtain⟨o3,hup3,hmp3⟩:=Am KS (P:=Tryz.prog) (t:=150) Tryz.underlying150 m11 s ((j:Int)+1);unfold Ci Aw at hup3;have g0:w11.cell? ⟨w3.heap.size,1,none⟩=some (.pointer (some ⟨np.b,0,none⟩)):=(ac ((k11 _ (show w3.heap.size≠mi by omega)).trans (A10.out w3.heap.size (by omega) (by omega) (show w3.heap.size≠np.blk by omega)))).trans (A1 HQ6.out 1);have g1:w11.cell? ⟨np.b,0,none⟩=some (.map (some np.m)):=by rw[ac (w:=w6) ((k11 _ HNe8.out).trans (A10.out np.b (An hd6.1) HNe9.out HNe10.out)),A1 hd6.1];rfl
   clear m11
   go_upto_region 28 with fail
   obtain⟨w12,hw12⟩:∃w12,putObj w11 np.m o3=w12:=⟨_,rfl⟩;rw[hw12];have k12:∀k,k≠np.m->w12.heap[k]?=w11.heap[k]?:=λk hk=>by rw[<-hw12];exact A9 _ _ hk
   have F12:=aa (show Frm (fpL f mi mg N) w6 w12 by rw[<-hw12];exact F11.out.putObj (.inl (Ak HN.out (Nd.m_mem (by rw[HRp.out.big,HK2.out];rfl)))) o3);rw[hw12,C5 HEn.out] at hmp3;have M12:=aa hmp3;clear hw12 hup3 hmp3 g0 g1;have X12:=aa (((k12 xb (show xb≠np.m by omega)).trans (k11 xb (show xb≠mi by omega))).trans X10.out);have y0:w12.cell? ⟨xb,0,none⟩=some (.int .i64 ((j:Int)+1)):=by rw[A1 X12.out];rfl
   have y1:w12.cell? ⟨xb,1,none⟩=some (.int .i64 (ga+1)):=by rw[A1 X12.out];rfl
   have hQ:=((k12 _ (show w.heap.size+2≠np.m by omega)).trans ((k11 (w.heap.size+2) (by omega)).trans (A10.out (w.heap.size+2) (by omega) (by omega) (show w.heap.size+2≠np.blk by omega)))).trans ((hB6.out.block _ (by omega)).trans HB2.out);have HQ:=aa hQ;have HPv:=aa (Ch ((j:Int)+1) (ga+1));clear hQ;have hs12:=F12.out.size;have M12':=aa (show MapB w12 mi Aw De (N.map (λn=>(n.id,n.blk))++[((j:Int)+1,xb)]) from(I11.out.of_block (k12 mi (λe=>HNe4.out e.symm))) |> λh=>by
    rw[C5 (by rw[(HF.out w6 hB6.out).get_none HW.out (by
     cases hx:decide ((A3 r.ins ((j:Int)+1)).id=0)
     .exfalso;obtain⟨a,b⟩:=Cx (of_decide_eq_false hx);exact HFr.out _ a b
     .exact of_decide_eq_true hx)];rfl)] at h
    exact h)
   have KK:=aa (show ∀k,k < w.heap.size->k≠np.m->k≠np.blk->k≠mi->k≠mg->w12.heap[k]?=w.heap[k]? from λk a b c d e=>(((k12 k b).trans (k11 k d)).trans (A10.out k (by omega) e c)).trans ((HB.out.trans (hB6.out.mono (by omega))).block k a));have G12:=aa (show ∃G,MapB w12 mg Aw Aw G/\∀id,(Az G id).getD 0=Aq (By r.gens ((j:Int)+1)) id from by obtain⟨G,a,b⟩:=HG10.out;exact⟨G,a.of_block ((k12 mg (λe=>HNe5.out e.symm)).trans (k11 mg (λe=>hgm e.symm))),b⟩)
   have P12:=aa (((k12 np.blk (λe=>HNe6.out e.symm)).trans (k11 np.blk (λe=>HNe1.out e.symm))).trans P10.out);have HC12:=aa (NC10.out w12 (λk a b=>(k12 k (by omega)).trans (k11 k (by omega))));have HF12:=aa (show FsN w12 f mi mg (Ai (Id r ⟨(j:Int)+1,ga+1,1,md,tm,i,tg,[],[]⟩) i s ((j:Int)+1)) (N++[⟨(j:Int)+1,xb,b,m,true⟩]) by
    have hlk:=H9 (x:=⟨(j:Int)+1,ga+1,1,md,tm,i,tg,[],[]⟩) HW.out HFr.out HM1.out s;have:=T0 (nd:=⟨(j:Int)+1,xb,b,m,true⟩) HH.out HW.out (x:=⟨(j:Int)+1,ga+1,1,md,tm,i,tg,[],[]⟩) HM1.out HK2.out HN.out HRw.out HFr.out s KK.out (by rw[HM2.out];exact M12.out) M12'.out G12.out P12.out
     ⟨rfl,by rw[hlk];exact X12.out,rfl,λ_=>⟨0,[],HC12.out,Z18⟩,λq=>dt (show(1:Int)=2 from q) (by decide)⟩
     (λk hk=>by simp[Nd.foot] at hk;omega)
    rw[HM2.out] at this;exact this)
   have HNx:=aa (show Fa r (i,g) ⟨1,md,tm,tg⟩=⟨(j:Int)+1,ga+1,1,md,tm,i,tg,[],[]⟩ by unfold Fa;rw[HId.out,HGa.out])
   go_wp2_with (refine A6 rfl 31 (.tmp 8) (.tmp 150) rfl w12 (w.heap.size+2) _ _ _ rfl rfl HQ.out rfl Ji HPv.out ?_;intro w13 hX13 hG13)
   refine Ag (p:=8) (u:=9) rfl rfl hX13 Uz rfl Ji rfl rfl ⟨by rw[HId.out,HGa.out];rfl,?_⟩;rw[HNx.out,HId.out];have lt12:=HF12.out;have hx12:=X12.out;refine⟨_,lt12.keep (hG13.block _ (An lt12.head) (by simp;omega)) (hG13.block _ lt12.imap.lt (by simp;omega)) (hG13.block _ (by omega) (by simp;omega)) (λn hn k hk=>?_),λk hk=>?_,?_⟩
   .have hnn:k < w.heap.size\/w6.heap.size<=k:=by
     rcases cd.1 hn with hn | hn
     .exact .inl (HLt.out.2.2.2 n hn k hk)
     .simp only[List.mem_singleton] at hn;subst hn;simp[Nd.foot] at hk;omega
    have hk12:k < w12.heap.size:=by
     rcases cd.1 hn with hn | hn
     .have:=HLt.out.2.2.2 n hn k hk;omega
     .simp only[List.mem_singleton] at hn;subst hn;simp[Nd.foot] at hk
      (have:=HC12.out.lt;have:=HC12.out.map.lt;have:=An hx12;omega)
    exact hG13.block k hk12 (by simp;omega)
   .unfold fpL at hk⊢;simp only[List.mem_cons,List.mem_flatMap,List.mem_append] at hk⊢;rcases hk with h1 | h1 | h1 | ⟨n,hn | hn,h1⟩
    .exact .inl (.inl h1)
    .exact .inl (.inr (.inl h1))
    .exact .inl (.inr (.inr (.inl h1)))
    .exact .inl (.inr (.inr (.inr ⟨n,hn,h1⟩)))
    .simp only[List.not_mem_nil,or_false] at hn;subst hn;simp[Nd.foot] at h1;exact .inr (by omega)
   .refine((Frm.of_below (HB.out.trans (hB6.out.mono (by omega)))).trans F12.out).trans' hG13 (by omega)
  .obtain⟨z1,z2⟩:=Cx hz;obtain⟨nz,hnz,hrz⟩:=(HF.out w6 hB6.out).at_ HW.out z1;have hg:=(HF.out w6 hB6.out).get hnz;rw[hrz.id,z2] at hg;rw[hg] at hlk;simp only[Option.map_some,Option.getD_some,De] at hlk;have HJ2:=aa (show ∀k:Nat,k < j+1->(A3 r.ins ((k:Int)+1)).id≠0 from λk hk=>by
    rcases Nat.lt_or_ge k j with h1 | h1
    .exact HJ.out k h1
    .obtain rfl:k=j:=by omega
     exact hz)
   have hle:=Nw HW.out HJ2.out;clear hg hz z1 z2 hnz hrz
   go_wp2
   go_round
   case rel=>exact⟨j+1,hle,by go_num,HJ2.out⟩
   case measure=>simp[intOf];omega
set_option maxRecDepth 100000 in
set_option maxHeartbeats 16000000 in
theorem Z3m {w:World}{f mi mg K:Nat}{r:RFs}{N:List Nd}(h:FsN w f mi mg r N)(hW:Wf r K)(hK:K<=1000000)(i g:Int)(s:ByteArray)(hs:s.size<=maxLen)(md tm:Int)(tg:ByteArray)(ht:tg.size<=maxLen)
  (hp:B2 r (i,g) s false=0) (q:Cw ⟨2,md,tm,tg⟩=true) (q1:A2 r.nms i s=0) (q2:A5 r (A3 r.ins i) < 20) (q3:r.ins.length < 200) :
  Calls Tryz.prog 31 #[.pointer (some ⟨f,0,none⟩),.agg #[.int .i64 i,.int .i64 g],.string s,.agg #[.int .i64 2,.int .i64 md,.int .i64 tm,.string tg]] w
   λe w'=>e=.returned (.tuple #[.agg #[.int .i64 (Df r.ins),.int .i64 (Aq r.gens (Df r.ins)+1)],.int .i64 0])/\Cr w w' f mi mg N (Ai (Id r (Fa r (i,g) ⟨2,md,tm,tg⟩)) i s (Df r.ins)):=by
 obtain⟨w2,hw2,hB,hs2,hb0,hb1,hb2⟩:=Zbh w #[.int .i64 i,.int .i64 g] #[.int .i64 2,.int .i64 md,.int .i64 tm,.string tg] #[.int .i64 0,.int .i64 0] 31 32 31;have t0:w2.cell? ⟨w.heap.size,0,none⟩=some (.int .i64 i):=by rw[A1 hb0];rfl
 have t1:w2.cell? ⟨w.heap.size,1,none⟩=some (.int .i64 g):=by rw[A1 hb0];rfl
 have h2:=h.below hW hB;have HW2:=aa hw2;have HB:=aa hB;have HB2:=aa hb2;have HM:=aa (show ∀w',Below w2.heap.size w2 w'->w'.cell? ⟨w.heap.size+1,0,none⟩=some (.int .i64 2)/\w'.cell? ⟨w.heap.size+1,1,none⟩=some (.int .i64 md)/\w'.cell? ⟨w.heap.size+1,2,none⟩=some (.int .i64 tm)/\w'.cell? ⟨w.heap.size+1,3,none⟩=some (.string tg) from λw' hb=>by have e:=(hb.block (w.heap.size+1) (by omega)).trans hb1;exact⟨A1 e 0,A1 e 1,A1 e 2,A1 e 3⟩)
 have hf:=C9 hp;obtain⟨hl,hk2⟩:=Bn hf;obtain⟨m1,m2,m3⟩:=Ac hl;obtain⟨np,hn,hr⟩:=h2.at_ hW m1;have hni:np.id=i:=hr.id.trans m2;have hpl:=E5 h2 hW i g s hs false hf hn hni;rw[hp] at hpl;have HP:=aa hpl;clear hpl;have HAt:=aa (show ∀w4,Below w2.heap.size w2 w4->Calls Tryz.prog 59 #[.agg #[.pointer (some ⟨np.blk,0,none⟩),.pointer (some ⟨np.b,0,none⟩),.string s]] w4 λe w'=>e=.returned (.tuple #[.int .i64 (A2 r.nms i s),.bool (decide (A2 r.nms i s≠0))])/\Below w4.heap.size w4 w' from λw4 hb=>by have hr4:=hr.below (hW.kind _ m1) hb;have:=Bc hr4 hk2 (hr4.lt (hW.kind _ m1)) s (some ⟨np.blk,0,none⟩);rw[m2,hW.entry_some] at this;exact this)
 rw[q1] at HAt;simp only[ne_eq,not_true_eq_false,decide_false] at HAt;have HR:=aa (show ∀w,Calls Tryz.prog 60 #[.agg #[.int .i64 2,.int .i64 md,.int .i64 tm,.string tg]] w λe w'=>e=.returned (.bool true)/\Below w.heap.size w w' from λw=>by have:=Ik ⟨2,md,tm,tg⟩ w ht;rw[q] at this;exact this)
 have HD:=aa (show ∀w4,Below w2.heap.size w2 w4->NodeR w4 r (A3 r.ins i) np from λw4 hb=>hr.below (.inr (.inl hk2)) hb);have HF:=aa (show ∀w4,Below w2.heap.size w2 w4->FsN w4 f mi mg r N from λw4 hb=>h2.below hW hb);have HLen:=aa (h.len hW);have hlx:=hW.lim _ m1;have q4:decide (20<=(A5 r (A3 r.ins i):Int))=false:=decide_eq_false (by omega);have q5:decide (20<=A5 r (A3 r.ins i))=false:=decide_eq_false (by omega);have HW:=aa hW;have HH:=aa h;have HM1:=aa m1;have HM2:=aa m2;have HK2:=aa hk2;have HN:=aa hn;have HEn:=aa (show(Az (Aa r.nms i) s).isSome=false by rw[hW.entry_some];simp[q1]);have hgb:=λid=>Px hW id;have HGb:=aa hgb;have HLt:=aa (h.lt hW);have HRp:=aa hr;clear hw2 hB hb0 hb1 hb2 h h2 hW hp hf hl hk2 m1 m2 m3 hn hr hni q1 hgb q
 go_enter Tryz.func31,Tryz.ntmps31
 go_wp2_with fail
 rw[HW2.out]
 go_upto_region 4 with(go_at_call 58;(with_reducible refine HP.out.mono ?_);rintro e w3 ⟨rfl,hB3⟩;have hs3:=hB3.size;replace hB3:=aa hB3)
 obtain⟨w4,hw4,hB4,hs4,hb4⟩:=Ht w3 #[.pointer (some ⟨np.blk,0,none⟩),.pointer (some ⟨np.b,0,none⟩),.string s] 137;rw[hw4];have c5:w4.cell? ⟨w3.heap.size,0,none⟩=some (.pointer (some ⟨np.blk,0,none⟩)):=by rw[A1 hb4];rfl
 have c6:w4.cell? ⟨w3.heap.size,1,none⟩=some (.pointer (some ⟨np.b,0,none⟩)):=by rw[A1 hb4];rfl
 have c7:w4.cell? ⟨w3.heap.size,2,none⟩=some (.string s):=by rw[A1 hb4];rfl
 have HQ4:=aa hb4;replace hB4:=aa (hB3.out.trans (hB4.mono (by omega)));clear hw4 hb4
 go_wp2_with (first
  | (go_at_call 59;(with_reducible refine(HAt.out w4 hB4.out).mono ?_);rintro e w5 ⟨rfl,hB5⟩;have hs5:=hB5.size;have hqq:=(hB5.block _ (by omega)).trans HQ4.out;replace hB5:=aa (hB4.out.trans (hB5.mono (by omega)));obtain⟨v0,v1,v2,v3⟩:=HM.out w5 hB5.out;have HQ5:=aa hqq;clear hqq)
  | (go_at_call 60;(with_reducible refine(HR.out w5).mono ?_);rintro e w6 ⟨rfl,hB6⟩;have hs6:=hB6.size;have HQ6:=aa ((hB6.block _ (by omega)).trans HQ5.out);replace hB6:=aa (hB5.out.trans (hB6.mono (by omega)));obtain⟨u0,u1,u2,u3⟩:=HM.out w6 hB6.out;have p60:w6.cell? ⟨w3.heap.size,0,none⟩=_:=A1 HQ6.out 0;have p61:w6.cell? ⟨w3.heap.size,1,none⟩=_:=A1 HQ6.out 1;obtain⟨-,-,-,-,k4,-⟩:=(HD.out w6 hB6.out).cells;obtain⟨-,f1,f2⟩:=(HF.out w6 hB6.out).cells;have hlen:=Bg (P:=Tryz.prog) (ty:=3) (t:=144) Tryz.underlying144 (HF.out w6 hB6.out).imap;rw[ap,HLen.out] at hlen))
 go_loop [14] (λvi=>∃j:Nat,j<=r.ins.length/\vi=.int .i64 ((j:Int)+1)/\∀k:Nat,k < j->(A3 r.ins ((k:Int)+1)).id≠0) (λvi=>300 - (intOf vi).toNat)
 case atStart=>exact⟨0,aw _,rfl,λk hk=>dt hk (Nat.not_lt_zero k)⟩
 case round =>
  obtain⟨j,hj,rfl,hjl⟩:=hrel;have HJ:=aa hjl;clear hjl;have hlk:=((HF.out w6 hB6.out).look ((j:Int)+1)).2;by_cases hz:(A3 r.ins ((j:Int)+1)).id=0
  .rw[(HF.out w6 hB6.out).get_none HW.out hz] at hlk;simp only[Option.map_none,Option.getD_none] at hlk;have HId:=aa (Jf (by omega) hz HJ.out);have HFr:=aa (show ∀y∈r.ins,y.id≠(j:Int)+1 from λy hy e=>by
    rw[<-e,HW.out.byId hy] at hz;exact HW.out.ne0 hy hz)
   obtain⟨G,g1,g2⟩:=(HF.out w6 hB6.out).gmap;obtain⟨ga,hga⟩:∃ga,Aq r.gens ((j:Int)+1)=ga:=⟨_,rfl⟩;obtain⟨b1,b2⟩:=HGb.out ((j:Int)+1);rw[hga] at b1 b2;have hgl:=Ar KI (P:=Tryz.prog) (t:=145) (et:=3) Tryz.underlying145 (Za3 w6) g1 ((j:Int)+1);rw[show((Az G ((j:Int)+1)).map Aw).getD (.int .i64 0)=Aw ga by rw[<-hga,<-g2];cases Az G ((j:Int)+1)<;>rfl] at hgl;obtain⟨o1,hup1,hmp1⟩:=Am KI (P:=Tryz.prog) (t:=145) Tryz.underlying145 g1 ((j:Int)+1) (ga+1);have hF7:Frm (fpL f mi mg N) w6 (putObj w6 mg o1):=(Frm.refl _ _).putObj (.inl (by simp[fpL])) o1;have hs7:w6.heap.size<=(putObj w6 mg o1).heap.size:=by rw[C8];omega
   have hk7:∀k,k≠mg->(putObj w6 mg o1).heap[k]?=w6.heap[k]?:=λk hk=>A9 _ _ hk;obtain⟨w7,hw7⟩:∃w7,putObj w6 mg o1=w7:=⟨_,rfl⟩;rw[hw7] at hF7 hs7 hk7 hmp1;have hgl2:=Ar KI (P:=Tryz.prog) (w:=w7.drew) (t:=145) (et:=3) Tryz.underlying145 (Za3 w7.drew) (show MapB w7.drew mg Aw Aw _ from hmp1) ((j:Int)+1);rw[D0,dq rfl] at hgl2;simp only[Option.map_some,Option.getD_some] at hgl2;unfold Aw at hgl hup1 hgl2;have HG7:=aa (show ∃G,MapB w7 mg Aw Aw G/\∀id,(Az G id).getD 0=Aq (By r.gens ((j:Int)+1)) id from⟨_,hmp1,λid=>by
    rw[D0,Je _ (by omega)];by_cases e:id=(j:Int)+1
    .rw[dq e,dq e,hga];rfl
    .rw[dp e,dp e];exact g2 id⟩)
   have HGa:=aa hga;have F7:=aa hF7;have K7:=aa hk7;have HW7:=aa hw7;have l1:=HLt.out.2.2.1;have hB6s:=hB6.out.size;have e1:w7.cell? ⟨w.heap.size+1,1,none⟩=some (.int .i64 md):=(ac (hk7 _ (show w.heap.size+1≠mg by omega))).trans u1;have e2:w7.cell? ⟨w.heap.size+1,2,none⟩=some (.int .i64 tm):=(ac (hk7 _ (show w.heap.size+1≠mg by omega))).trans u2;have e3:w7.cell? ⟨f,2,none⟩=some (.map (some mg)):=(ac (hk7 _ (λe=>A8 g1 (HF.out w6 hB6.out).head e.symm))).trans f2;clear hz hw7 hF7 hk7 hmp1 g1 g2 hga
   go_upto_region 17 with fail
   rw[HW7.out];clear v0 v1 v2 v3 c5 c6 c7 hlk hlen hgl hup1 f1 f2 k4 p60 p61
   go_still_tail 13,(by kernel_rfl)
   change wpList _ _ _ _ _ w7.drew
   go_upto_region 18 with fail
   obtain⟨wa,hwa,hBa,hsa,hba⟩:=Ht w7 #[.int .i64 ((j:Int)+1),.int .i64 (ga+1),.int .i64 md,.int .i64 tm,.int .i64 1,.nilIface] 143;rw[hwa];obtain⟨w8,hw8⟩:∃w8,wa.drew=w8:=⟨_,rfl⟩;rw[hw8];have hB8:Below w7.heap.size w7 w8:=by rw[<-hw8];exact hBa.drew
   have hs8:w7.heap.size+1<=w8.heap.size:=by rw[<-hw8];exact hsa
   have hb8:w8.heap[w7.heap.size]?=some (.cells #[.int .i64 ((j:Int)+1),.int .i64 (ga+1),.int .i64 md,.int .i64 tm,.int .i64 1,.nilIface] 143 (0,0)):=by rw[<-hw8];exact hba
   clear hwa hBa hsa hba hw8;have hk8:∀k,k < w6.heap.size->k≠mg->w8.heap[k]?=w6.heap[k]?:=λk a b=>(hB8.block k (by omega)).trans (K7.out k b);have F8:=aa (F7.out.trans (Frm.of_below hB8));have HG8:=aa (show ∃G,MapB w8 mg Aw Aw G/\∀id,(Az G id).getD 0=Aq (By r.gens ((j:Int)+1)) id from by obtain⟨G,a,b⟩:=HG7.out;exact⟨G,a.of_block (hB8.block _ a.lt),b⟩)
   generalize hxb:w7.heap.size=xb at *;have hxb':w6.heap.size<=xb:=hs7;have e0:w8.cell? ⟨w.heap.size+1,0,none⟩=some (.int .i64 2):=(ac (hk8 _ (show w.heap.size+1 < w6.heap.size by omega) (show w.heap.size+1≠mg by omega))).trans u0;have X8:=aa hb8;have K8:=aa hk8;clear hB8 hb8 hk8 e1 e2 e3 hgl2 hs7 hxb;have hgm:mi≠mg:=(HF.out w6 hB6.out).mm;have l0:=HLt.out.1;have l2:=HLt.out.2.1;have hpb:np.big=true:=by rw[HRp.out.big,HK2.out];rfl
   have p1:=HLt.out.2.2.2 np HN.out _ np.blk_mem;have p2:=HLt.out.2.2.2 np HN.out _ (Nd.b_mem hpb);have p3:=HLt.out.2.2.2 np HN.out _ (Nd.m_mem hpb);obtain⟨of1,of2,of3⟩:=HH.out.off np HN.out;have HNe1:=aa (show mi≠np.blk from λe=>of2 (e ▸ np.blk_mem));have HNe3:=aa (show f≠np.blk from λe=>of1 (e ▸ np.blk_mem));have HNe4:=aa (show np.m≠mi from λe=>of2 (e ▸ Nd.m_mem hpb));have HNe5:=aa (show np.m≠mg from λe=>of3 (e ▸ Nd.m_mem hpb));have HNe8:=aa (show np.b≠mi from λe=>of2 (e ▸ Nd.b_mem hpb));have HNe9:=aa (show np.b≠mg from λe=>of3 (e ▸ Nd.b_mem hpb));have HNe6:=aa (show np.m≠np.blk from A8 (HRp.out.dir HK2.out).2 HRp.out.head);have HNe10:=aa (show np.b≠np.blk from Av (HRp.out.dir HK2.out).1 HRp.out.head (by decide));have HNe2:=aa (show f≠mg from λe=>by obtain⟨G,a,_⟩:=HH.out.gmap;exact A8 a HH.out.head e.symm)
   clear of1 of2 of3;have hrw:NodeR w r (A3 r.ins i) np:=by obtain⟨y,hy,hry⟩:=HH.out.node np HN.out;have a1:=HW.out.byId hy;rw[<-hry.id,HRp.out.id,HM2.out] at a1;rw[a1];exact hry
   have HRw:=aa hrw;have D6:=aa ((HD.out w6 hB6.out).head);clear hrw;have x84:w8.cell? ⟨xb,4,none⟩=_:=A1 X8.out 4;have x84f:w8.frozen? ⟨xb,4,none⟩=false:=frozen_of_row w8 xb 4 _ _ X8.out;have x85:w8.cell? ⟨xb,5,none⟩=_:=A1 X8.out 5;have x8f:w8.frozen? ⟨xb,5,none⟩=false:=frozen_of_row w8 xb 5 _ _ X8.out;have d8:w8.heap[np.blk]?=some (.cells (Ks (A3 r.ins i) (A5 r (A3 r.ins i)) np) 143 (0,0)):=(K8.out np.blk (by omega) (by intro e;exact(HH.out.off np HN.out).2.2 (e ▸ np.blk_mem))).trans D6.out;have y80:w8.cell? ⟨np.blk,0,none⟩=some (.int .i64 i):=by rw[A1 d8];show some (Value.int .i64 (A3 r.ins i).id)=_;rw[HM2.out]
   have y84:w8.cell? ⟨np.blk,4,none⟩=some (.int .i64 (A5 r (A3 r.ins i):Int)):=by rw[A1 d8];rfl
   have y84f:w8.frozen? ⟨np.blk,4,none⟩=false:=frozen_of_row w8 np.blk 4 _ _ d8;have ep0:w8.cell? ⟨w3.heap.size,0,none⟩=some (.pointer (some ⟨np.blk,0,none⟩)):=(ac (K8.out w3.heap.size (show w3.heap.size < w6.heap.size by omega) (show w3.heap.size≠mg by omega))).trans (A1 HQ6.out 0);have hl1:xb < w8.heap.size:=by omega
   have hl2:np.blk < w8.heap.size:=by omega
   have hl3:w3.heap.size < w8.heap.size:=by omega
   have hl4:w3.heap.size≠xb:=by omega
   have hl5:xb≠np.blk:=by omega
   have hl6:w.heap.size+1 < w8.heap.size:=by omega
   have hmm:=@run_makeMap Tryz.prog;have D8:=aa d8;clear d8;have hX9:=heap_setCell_same _ xb 4 _ _ (.int .i64 2) (heap_setCell_same w8 xb 5 _ _ (.iface 135 (.pointer (some ⟨w8.heap.size+1,0,none⟩))) X8.out);obtain⟨w9,hw9⟩:∃w9,((w8.setCell ⟨xb,5,none⟩ (.iface 135 (.pointer (some ⟨w8.heap.size+1,0,none⟩)))).setCell ⟨xb,4,none⟩ (.int .i64 2)).setCell ⟨np.blk,4,none⟩ (.int .i64 ((A5 r (A3 r.ins i):Int)+1))=w9:=⟨_,rfl⟩;have hs9:w9.heap.size=w8.heap.size:=by rw[<-hw9];simp[World.setCell]
   have k9:∀k,k≠xb->k≠np.blk->w9.heap[k]?=w8.heap[k]?:=λk hk hk2=>by rw[<-hw9];exact(A4 _ _ _ _ _ hk2).trans ((A4 _ _ _ _ _ hk).trans (A4 _ _ _ _ _ hk))
   have X9:=aa (show w9.heap[xb]?=some (.cells (Ks ⟨(j:Int)+1,ga+1,2,md,tm,i,tg,[],[]⟩ 2 ⟨(j:Int)+1,xb,w8.heap.size+1,w8.heap.size,true⟩) 143 (0,0)) by rw[<-hw9];exact(A4 _ _ _ _ _ hl5).trans hX9);have F9:=aa (show Frm (fpL f mi mg N) w6 w9 by rw[<-hw9];exact((F8.out.setCell (.inr hxb') _).setCell (.inr hxb') _).setCell (.inl (Ak HN.out np.blk_mem)) _);have P9:=aa (show w9.heap[np.blk]?=some (.cells (Ks (A3 r.ins i) (A5 r (A3 r.ins i)+1) np) 143 (0,0)) by rw[<-hw9];exact Bp (lk':=A5 r (A3 r.ins i)+1) ((A4 _ _ _ _ _ (λe=>hl5 e.symm)).trans ((A4 _ _ _ _ _ (λe=>hl5 e.symm)).trans D8.out)));obtain⟨w10,hw10,hB10,hs10,hm10,hd10⟩:∃w10,(w9.alloc (.map #[] 0)).alloc (.cells #[.map (some w8.heap.size),.int .i64 i] 152)=w10/\Below w9.heap.size w9 w10/\w8.heap.size+2<=w10.heap.size/\MapB w10 w8.heap.size Ci Aw ([]:List (ByteArray × Int))/\w10.heap[w8.heap.size+1]?=some (.cells #[.map (some w8.heap.size),.int .i64 i] 152 (0,0)):=by
    refine⟨_,rfl,((ab _ _).alloc (av _) _).alloc (by simp) _,by simp;omega,?_,?_⟩
    .have:=(Eb w9 Ci Aw).of_block (w':=(w9.alloc (.map #[] 0)).alloc (.cells #[.map (some w8.heap.size),.int .i64 i] 152)) (ae _ _ _ (by simp));rw[hs9] at this;exact this
    .have:=heap_alloc_new (w9.alloc (.map #[] 0)) (.cells #[.map (some w8.heap.size),.int .i64 i] 152);simpa [hs9] using this
   have HW9:=aa hw9;have HW10:=aa hw10;have HS9:=aa hs9;have HK9:=aa k9;have HM10:=aa hm10;have HD10:=aa hd10;have HB10:=aa hB10;clear hw9 hw10 hs9 k9 hm10 hd10 hB10 hX9
   go_upto_region 26 with fail
   rw[HW9.out,HW10.out];have hs9:=HS9.out;have hs9':w9.heap.size=w8.heap.size:=hs9;have X10:=aa ((HB10.out.block xb (by omega)).trans X9.out);have F10:=aa (F9.out.trans (Frm.of_below HB10.out));have A10:=aa (show ∀k,k < w6.heap.size->k≠mg->k≠np.blk->w10.heap[k]?=w6.heap[k]? from λk a b c=>((HB10.out.block k (by omega)).trans (HK9.out k (by omega) c)).trans (K8.out k a b));have P10:=aa ((HB10.out.block np.blk (by omega)).trans P9.out);have HG10:=aa (show ∃G,MapB w10 mg Aw Aw G/\∀id,(Az G id).getD 0=Aq (By r.gens ((j:Int)+1)) id from by obtain⟨G,a,c⟩:=HG8.out;have:=a.lt;exact⟨G,a.of_block ((HB10.out.block mg (by omega)).trans (HK9.out mg (by omega) (by intro e;exact(HH.out.off np HN.out).2.2 (e ▸ np.blk_mem)))),c⟩)
   have NC10:=aa (show ∀w',(∀k,k < w10.heap.size->w.heap.size+2 < k->w'.heap[k]?=w10.heap[k]?)->w'.heap[w8.heap.size+1]?=some (.cells #[.map (some w8.heap.size),.int .i64 i] 152 (0,0))/\MapB w' w8.heap.size Ci Aw ([]:List (ByteArray × Int)) from λw' hk =>
    ⟨(hk _ (by omega) (by omega)).trans HD10.out,HM10.out.of_block (hk _ (by omega) (by omega))⟩)
   clear x84 x84f x85 x8f y80 y84 y84f ep0 hmm hs9 hs9';have i10:=(HF.out w6 hB6.out).imap.of_block (A10.out mi (by omega) hgm (HNe1.out));obtain⟨o2,hup2,hmp2⟩:=Am KI (P:=Tryz.prog) (t:=144) Tryz.underlying144 i10 ((j:Int)+1) xb;unfold Aw De at hup2;have f10:w10.cell? ⟨f,1,none⟩=some (.map (some mi)):=(ac (A10.out f (by omega) HNe2.out HNe3.out)).trans (HF.out w6 hB6.out).cells.2.1
   go_upto_region 27 with fail
   obtain⟨w11,hw11⟩:∃w11,putObj w10 mi o2=w11:=⟨_,rfl⟩;rw[hw11];have k11:∀k,k≠mi->w11.heap[k]?=w10.heap[k]?:=λk hk=>by rw[<-hw11];exact A9 _ _ hk
   have F11:=aa (show Frm (fpL f mi mg N) w6 w11 by rw[<-hw11];exact F10.out.putObj (.inl (by simp[fpL])) o2);rw[hw11] at hmp2;have I11:=aa hmp2;clear hw11 hup2 f10 hmp2;have hd6:=(HD.out w6 hB6.out).dir HK2.out;rw[HM2.out] at hd6;have m11:MapB w11 np.m Ci Aw (Aa r.nms i):=hd6.2.of_block ((k11 _ HNe4.out).trans (A10.out np.m (by have:=hd6.2.lt;omega) HNe5.out HNe6.out));obtain⟨o3,hup3,hmp3⟩:=Am KS (P:=Tryz.prog) (t:=150) Tryz.underlying150 m11 s ((j:Int)+1);unfold Ci Aw at hup3;have g0:w11.cell? ⟨w3.heap.size,1,none⟩=some (.pointer (some ⟨np.b,0,none⟩)):=(ac ((k11 _ (show w3.heap.size≠mi by omega)).trans (A10.out w3.heap.size (by omega) (by omega) (show w3.heap.size≠np.blk by omega)))).trans (A1 HQ6.out 1);have g1:w11.cell? ⟨np.b,0,none⟩=some (.map (some np.m)):=by rw[ac (w:=w6) ((k11 _ HNe8.out).trans (A10.out np.b (An hd6.1) HNe9.out HNe10.out)),A1 hd6.1];rfl
   clear m11
   go_upto_region 28 with fail
   obtain⟨w12,hw12⟩:∃w12,putObj w11 np.m o3=w12:=⟨_,rfl⟩;rw[hw12];have k12:∀k,k≠np.m->w12.heap[k]?=w11.heap[k]?:=λk hk=>by rw[<-hw12];exact A9 _ _ hk
   have F12:=aa (show Frm (fpL f mi mg N) w6 w12 by rw[<-hw12];exact F11.out.putObj (.inl (Ak HN.out (Nd.m_mem (by rw[HRp.out.big,HK2.out];rfl)))) o3);rw[hw12,C5 HEn.out] at hmp3;have M12:=aa hmp3;clear hw12 hup3 hmp3 g0 g1;have X12:=aa (((k12 xb (show xb≠np.m by omega)).trans (k11 xb (show xb≠mi by omega))).trans X10.out);have y0:w12.cell? ⟨xb,0,none⟩=some (.int .i64 ((j:Int)+1)):=by rw[A1 X12.out];rfl
   have y1:w12.cell? ⟨xb,1,none⟩=some (.int .i64 (ga+1)):=by rw[A1 X12.out];rfl
   have hQ:=((k12 _ (show w.heap.size+2≠np.m by omega)).trans ((k11 (w.heap.size+2) (by omega)).trans (A10.out (w.heap.size+2) (by omega) (by omega) (show w.heap.size+2≠np.blk by omega)))).trans ((hB6.out.block _ (by omega)).trans HB2.out);have HQ:=aa hQ;have HPv:=aa (Ch ((j:Int)+1) (ga+1));clear hQ;have hs12:=F12.out.size;have M12':=aa (show MapB w12 mi Aw De (N.map (λn=>(n.id,n.blk))++[((j:Int)+1,xb)]) from(I11.out.of_block (k12 mi (λe=>HNe4.out e.symm))) |> λh=>by
    rw[C5 (by rw[(HF.out w6 hB6.out).get_none HW.out (by
     cases hx:decide ((A3 r.ins ((j:Int)+1)).id=0)
     .exfalso;obtain⟨a,b⟩:=Cx (of_decide_eq_false hx);exact HFr.out _ a b
     .exact of_decide_eq_true hx)];rfl)] at h
    exact h)
   have KK:=aa (show ∀k,k < w.heap.size->k≠np.m->k≠np.blk->k≠mi->k≠mg->w12.heap[k]?=w.heap[k]? from λk a b c d e=>(((k12 k b).trans (k11 k d)).trans (A10.out k (by omega) e c)).trans ((HB.out.trans (hB6.out.mono (by omega))).block k a));have G12:=aa (show ∃G,MapB w12 mg Aw Aw G/\∀id,(Az G id).getD 0=Aq (By r.gens ((j:Int)+1)) id from by obtain⟨G,a,b⟩:=HG10.out;exact⟨G,a.of_block ((k12 mg (λe=>HNe5.out e.symm)).trans (k11 mg (λe=>hgm e.symm))),b⟩)
   have P12:=aa (((k12 np.blk (λe=>HNe6.out e.symm)).trans (k11 np.blk (λe=>HNe1.out e.symm))).trans P10.out);have HC12:=aa (NC10.out w12 (λk a b=>(k12 k (by omega)).trans (k11 k (by omega))));have HF12:=aa (show FsN w12 f mi mg (Ai (Id r ⟨(j:Int)+1,ga+1,2,md,tm,i,tg,[],[]⟩) i s ((j:Int)+1)) (N++[⟨(j:Int)+1,xb,w8.heap.size+1,w8.heap.size,true⟩]) by
    have hlk:=H9 (x:=⟨(j:Int)+1,ga+1,2,md,tm,i,tg,[],[]⟩) HW.out HFr.out HM1.out s;have:=T0 (nd:=⟨(j:Int)+1,xb,w8.heap.size+1,w8.heap.size,true⟩) HH.out HW.out (x:=⟨(j:Int)+1,ga+1,2,md,tm,i,tg,[],[]⟩) HM1.out HK2.out HN.out HRw.out HFr.out s KK.out (by rw[HM2.out];exact M12.out) M12'.out G12.out P12.out
     ⟨rfl,by rw[hlk];exact X12.out,rfl,λq=>dt (show(2:Int)=1 from q) (by decide),λ_=>by rw[show Aa (Ai (Id r ⟨(j:Int)+1,ga+1,2,md,tm,i,tg,[],[]⟩) (A3 r.ins i).id s ((j:Int)+1)).nms ((j:Int)+1)=[] from Z1m HW.out HFr.out HM1.out s];exact HC12.out⟩
     (λk hk=>by simp[Nd.foot] at hk;omega)
    rw[HM2.out] at this;exact this)
   have HNx:=aa (show Fa r (i,g) ⟨2,md,tm,tg⟩=⟨(j:Int)+1,ga+1,2,md,tm,i,tg,[],[]⟩ by unfold Fa;rw[HId.out,HGa.out])
   go_wp2_with (refine A6 rfl 31 (.tmp 8) (.tmp 150) rfl w12 (w.heap.size+2) _ _ _ rfl rfl HQ.out rfl Ji HPv.out ?_;intro w13 hX13 hG13)
   refine Ag (p:=8) (u:=9) rfl rfl hX13 Uz rfl Ji rfl rfl ⟨by rw[HId.out,HGa.out];rfl,?_⟩;rw[HNx.out,HId.out];have lt12:=HF12.out;have hx12:=X12.out;refine⟨_,lt12.keep (hG13.block _ (An lt12.head) (by simp;omega)) (hG13.block _ lt12.imap.lt (by simp;omega)) (hG13.block _ (by omega) (by simp;omega)) (λn hn k hk=>?_),λk hk=>?_,?_⟩
   .have hnn:k < w.heap.size\/w6.heap.size<=k:=by
     rcases cd.1 hn with hn | hn
     .exact .inl (HLt.out.2.2.2 n hn k hk)
     .simp only[List.mem_singleton] at hn;subst hn;simp[Nd.foot] at hk;omega
    have hk12:k < w12.heap.size:=by
     rcases cd.1 hn with hn | hn
     .have:=HLt.out.2.2.2 n hn k hk;omega
     .simp only[List.mem_singleton] at hn;subst hn;simp[Nd.foot] at hk
      (have:=An HC12.out.1;have:=HC12.out.2.lt;have:=An hx12;omega)
    exact hG13.block k hk12 (by simp;omega)
   .unfold fpL at hk⊢;simp only[List.mem_cons,List.mem_flatMap,List.mem_append] at hk⊢;rcases hk with h1 | h1 | h1 | ⟨n,hn | hn,h1⟩
    .exact .inl (.inl h1)
    .exact .inl (.inr (.inl h1))
    .exact .inl (.inr (.inr (.inl h1)))
    .exact .inl (.inr (.inr (.inr ⟨n,hn,h1⟩)))
    .simp only[List.not_mem_nil,or_false] at hn;subst hn;simp[Nd.foot] at h1;exact .inr (by omega)
   .refine((Frm.of_below (HB.out.trans (hB6.out.mono (by omega)))).trans F12.out).trans' hG13 (by omega)
  .obtain⟨z1,z2⟩:=Cx hz;obtain⟨nz,hnz,hrz⟩:=(HF.out w6 hB6.out).at_ HW.out z1;have hg:=(HF.out w6 hB6.out).get hnz;rw[hrz.id,z2] at hg;rw[hg] at hlk;simp only[Option.map_some,Option.getD_some,De] at hlk;have HJ2:=aa (show ∀k:Nat,k < j+1->(A3 r.ins ((k:Int)+1)).id≠0 from λk hk=>by
    rcases Nat.lt_or_ge k j with h1 | h1
    .exact HJ.out k h1
    .obtain rfl:k=j:=by omega
     exact hz)
   have hle:=Nw HW.out HJ2.out;clear hg hz z1 z2 hnz hrz
   go_wp2
   go_round
   case rel=>exact⟨j+1,hle,by go_num,HJ2.out⟩
   case measure=>simp[intOf];omega
set_option maxRecDepth 100000 in
set_option maxHeartbeats 16000000 in
theorem Z46 {w:World}{f mi mg K:Nat}{r:RFs}{N:List Nd}(h:FsN w f mi mg r N)(hW:Wf r K)(hK:K<=1000000)(i g:Int)(s:ByteArray)(hs:s.size<=maxLen)(md tm:Int)(tg:ByteArray)(ht:tg.size<=maxLen)
  (hp:B2 r (i,g) s false=0) (q:Cw ⟨3,md,tm,tg⟩=true) (q1:A2 r.nms i s=0) (q3:r.ins.length < 200) :
  Calls Tryz.prog 31 #[.pointer (some ⟨f,0,none⟩),.agg #[.int .i64 i,.int .i64 g],.string s,.agg #[.int .i64 3,.int .i64 md,.int .i64 tm,.string tg]] w
   λe w'=>e=.returned (.tuple #[.agg #[.int .i64 (Df r.ins),.int .i64 (Aq r.gens (Df r.ins)+1)],.int .i64 0])/\Cr w w' f mi mg N (Ai (Id r (Fa r (i,g) ⟨3,md,tm,tg⟩)) i s (Df r.ins)):=by
 obtain⟨w2,hw2,hB,hs2,hb0,hb1,hb2⟩:=Zbh w #[.int .i64 i,.int .i64 g] #[.int .i64 3,.int .i64 md,.int .i64 tm,.string tg] #[.int .i64 0,.int .i64 0] 31 32 31;have t0:w2.cell? ⟨w.heap.size,0,none⟩=some (.int .i64 i):=by rw[A1 hb0];rfl
 have t1:w2.cell? ⟨w.heap.size,1,none⟩=some (.int .i64 g):=by rw[A1 hb0];rfl
 have h2:=h.below hW hB;have HW2:=aa hw2;have HB:=aa hB;have HB2:=aa hb2;have HM:=aa (show ∀w',Below w2.heap.size w2 w'->w'.cell? ⟨w.heap.size+1,0,none⟩=some (.int .i64 3)/\w'.cell? ⟨w.heap.size+1,1,none⟩=some (.int .i64 md)/\w'.cell? ⟨w.heap.size+1,2,none⟩=some (.int .i64 tm)/\w'.cell? ⟨w.heap.size+1,3,none⟩=some (.string tg) from λw' hb=>by have e:=(hb.block (w.heap.size+1) (by omega)).trans hb1;exact⟨A1 e 0,A1 e 1,A1 e 2,A1 e 3⟩)
 have hf:=C9 hp;obtain⟨hl,hk2⟩:=Bn hf;obtain⟨m1,m2,m3⟩:=Ac hl;obtain⟨np,hn,hr⟩:=h2.at_ hW m1;have hni:np.id=i:=hr.id.trans m2;have hpl:=E5 h2 hW i g s hs false hf hn hni;rw[hp] at hpl;have HP:=aa hpl;clear hpl;have HAt:=aa (show ∀w4,Below w2.heap.size w2 w4->Calls Tryz.prog 59 #[.agg #[.pointer (some ⟨np.blk,0,none⟩),.pointer (some ⟨np.b,0,none⟩),.string s]] w4 λe w'=>e=.returned (.tuple #[.int .i64 (A2 r.nms i s),.bool (decide (A2 r.nms i s≠0))])/\Below w4.heap.size w4 w' from λw4 hb=>by have hr4:=hr.below (hW.kind _ m1) hb;have:=Bc hr4 hk2 (hr4.lt (hW.kind _ m1)) s (some ⟨np.blk,0,none⟩);rw[m2,hW.entry_some] at this;exact this)
 rw[q1] at HAt;simp only[ne_eq,not_true_eq_false,decide_false] at HAt;have HR:=aa (show ∀w,Calls Tryz.prog 60 #[.agg #[.int .i64 3,.int .i64 md,.int .i64 tm,.string tg]] w λe w'=>e=.returned (.bool true)/\Below w.heap.size w w' from λw=>by have:=Ik ⟨3,md,tm,tg⟩ w ht;rw[q] at this;exact this)
 have HD:=aa (show ∀w4,Below w2.heap.size w2 w4->NodeR w4 r (A3 r.ins i) np from λw4 hb=>hr.below (.inr (.inl hk2)) hb);have HF:=aa (show ∀w4,Below w2.heap.size w2 w4->FsN w4 f mi mg r N from λw4 hb=>h2.below hW hb);have HLen:=aa (h.len hW);have hlx:=hW.lim _ m1;have HW:=aa hW;have HH:=aa h;have HM1:=aa m1;have HM2:=aa m2;have HK2:=aa hk2;have HN:=aa hn;have HEn:=aa (show(Az (Aa r.nms i) s).isSome=false by rw[hW.entry_some];simp[q1]);have hgb:=λid=>Px hW id;have HGb:=aa hgb;have HLt:=aa (h.lt hW);have HRp:=aa hr;clear hw2 hB hb0 hb1 hb2 h h2 hW hp hf hl hk2 m1 m2 m3 hn hr hni q1 hgb q
 go_enter Tryz.func31,Tryz.ntmps31
 go_wp2_with fail
 rw[HW2.out]
 go_upto_region 4 with(go_at_call 58;(with_reducible refine HP.out.mono ?_);rintro e w3 ⟨rfl,hB3⟩;have hs3:=hB3.size;replace hB3:=aa hB3)
 obtain⟨w4,hw4,hB4,hs4,hb4⟩:=Ht w3 #[.pointer (some ⟨np.blk,0,none⟩),.pointer (some ⟨np.b,0,none⟩),.string s] 137;rw[hw4];have c5:w4.cell? ⟨w3.heap.size,0,none⟩=some (.pointer (some ⟨np.blk,0,none⟩)):=by rw[A1 hb4];rfl
 have c6:w4.cell? ⟨w3.heap.size,1,none⟩=some (.pointer (some ⟨np.b,0,none⟩)):=by rw[A1 hb4];rfl
 have c7:w4.cell? ⟨w3.heap.size,2,none⟩=some (.string s):=by rw[A1 hb4];rfl
 have HQ4:=aa hb4;replace hB4:=aa (hB3.out.trans (hB4.mono (by omega)));clear hw4 hb4
 go_wp2_with (first
  | (go_at_call 59;(with_reducible refine(HAt.out w4 hB4.out).mono ?_);rintro e w5 ⟨rfl,hB5⟩;have hs5:=hB5.size;have hqq:=(hB5.block _ (by omega)).trans HQ4.out;replace hB5:=aa (hB4.out.trans (hB5.mono (by omega)));obtain⟨v0,v1,v2,v3⟩:=HM.out w5 hB5.out;have HQ5:=aa hqq;clear hqq)
  | (go_at_call 60;(with_reducible refine(HR.out w5).mono ?_);rintro e w6 ⟨rfl,hB6⟩;have hs6:=hB6.size;have HQ6:=aa ((hB6.block _ (by omega)).trans HQ5.out);replace hB6:=aa (hB5.out.trans (hB6.mono (by omega)));obtain⟨u0,u1,u2,u3⟩:=HM.out w6 hB6.out;have p60:w6.cell? ⟨w3.heap.size,0,none⟩=_:=A1 HQ6.out 0;have p61:w6.cell? ⟨w3.heap.size,1,none⟩=_:=A1 HQ6.out 1;obtain⟨-,-,-,-,k4,-⟩:=(HD.out w6 hB6.out).cells;obtain⟨-,f1,f2⟩:=(HF.out w6 hB6.out).cells;have hlen:=Bg (P:=Tryz.prog) (ty:=3) (t:=144) Tryz.underlying144 (HF.out w6 hB6.out).imap;rw[ap,HLen.out] at hlen))
 go_loop [14] (λvi=>∃j:Nat,j<=r.ins.length/\vi=.int .i64 ((j:Int)+1)/\∀k:Nat,k < j->(A3 r.ins ((k:Int)+1)).id≠0) (λvi=>300 - (intOf vi).toNat)
 case atStart=>exact⟨0,aw _,rfl,λk hk=>dt hk (Nat.not_lt_zero k)⟩
 case round =>
  obtain⟨j,hj,rfl,hjl⟩:=hrel;have HJ:=aa hjl;clear hjl;have hlk:=((HF.out w6 hB6.out).look ((j:Int)+1)).2;by_cases hz:(A3 r.ins ((j:Int)+1)).id=0
  .rw[(HF.out w6 hB6.out).get_none HW.out hz] at hlk;simp only[Option.map_none,Option.getD_none] at hlk;have HId:=aa (Jf (by omega) hz HJ.out);have HFr:=aa (show ∀y∈r.ins,y.id≠(j:Int)+1 from λy hy e=>by
    rw[<-e,HW.out.byId hy] at hz;exact HW.out.ne0 hy hz)
   obtain⟨G,g1,g2⟩:=(HF.out w6 hB6.out).gmap;obtain⟨ga,hga⟩:∃ga,Aq r.gens ((j:Int)+1)=ga:=⟨_,rfl⟩;obtain⟨b1,b2⟩:=HGb.out ((j:Int)+1);rw[hga] at b1 b2;have hgl:=Ar KI (P:=Tryz.prog) (t:=145) (et:=3) Tryz.underlying145 (Za3 w6) g1 ((j:Int)+1);rw[show((Az G ((j:Int)+1)).map Aw).getD (.int .i64 0)=Aw ga by rw[<-hga,<-g2];cases Az G ((j:Int)+1)<;>rfl] at hgl;obtain⟨o1,hup1,hmp1⟩:=Am KI (P:=Tryz.prog) (t:=145) Tryz.underlying145 g1 ((j:Int)+1) (ga+1);have hF7:Frm (fpL f mi mg N) w6 (putObj w6 mg o1):=(Frm.refl _ _).putObj (.inl (by simp[fpL])) o1;have hs7:w6.heap.size<=(putObj w6 mg o1).heap.size:=by rw[C8];omega
   have hk7:∀k,k≠mg->(putObj w6 mg o1).heap[k]?=w6.heap[k]?:=λk hk=>A9 _ _ hk;obtain⟨w7,hw7⟩:∃w7,putObj w6 mg o1=w7:=⟨_,rfl⟩;rw[hw7] at hF7 hs7 hk7 hmp1;have hgl2:=Ar KI (P:=Tryz.prog) (w:=w7.drew) (t:=145) (et:=3) Tryz.underlying145 (Za3 w7.drew) (show MapB w7.drew mg Aw Aw _ from hmp1) ((j:Int)+1);rw[D0,dq rfl] at hgl2;simp only[Option.map_some,Option.getD_some] at hgl2;unfold Aw at hgl hup1 hgl2;have HG7:=aa (show ∃G,MapB w7 mg Aw Aw G/\∀id,(Az G id).getD 0=Aq (By r.gens ((j:Int)+1)) id from⟨_,hmp1,λid=>by
    rw[D0,Je _ (by omega)];by_cases e:id=(j:Int)+1
    .rw[dq e,dq e,hga];rfl
    .rw[dp e,dp e];exact g2 id⟩)
   have HGa:=aa hga;have F7:=aa hF7;have K7:=aa hk7;have HW7:=aa hw7;have l1:=HLt.out.2.2.1;have hB6s:=hB6.out.size;have e1:w7.cell? ⟨w.heap.size+1,1,none⟩=some (.int .i64 md):=(ac (hk7 _ (show w.heap.size+1≠mg by omega))).trans u1;have e2:w7.cell? ⟨w.heap.size+1,2,none⟩=some (.int .i64 tm):=(ac (hk7 _ (show w.heap.size+1≠mg by omega))).trans u2;have e3:w7.cell? ⟨f,2,none⟩=some (.map (some mg)):=(ac (hk7 _ (λe=>A8 g1 (HF.out w6 hB6.out).head e.symm))).trans f2;clear hz hw7 hF7 hk7 hmp1 g1 g2 hga
   go_upto_region 17 with fail
   rw[HW7.out];clear v0 v1 v2 v3 c5 c6 c7 hlk hlen hgl hup1 f1 f2 k4 p60 p61
   go_still_tail 13,(by kernel_rfl)
   change wpList _ _ _ _ _ w7.drew
   go_upto_region 18 with fail
   obtain⟨wa,hwa,hBa,hsa,hba⟩:=Ht w7 #[.int .i64 ((j:Int)+1),.int .i64 (ga+1),.int .i64 md,.int .i64 tm,.int .i64 1,.nilIface] 143;rw[hwa];obtain⟨w8,hw8⟩:∃w8,wa.drew=w8:=⟨_,rfl⟩;rw[hw8];have hB8:Below w7.heap.size w7 w8:=by rw[<-hw8];exact hBa.drew
   have hs8:w7.heap.size+1<=w8.heap.size:=by rw[<-hw8];exact hsa
   have hb8:w8.heap[w7.heap.size]?=some (.cells #[.int .i64 ((j:Int)+1),.int .i64 (ga+1),.int .i64 md,.int .i64 tm,.int .i64 1,.nilIface] 143 (0,0)):=by rw[<-hw8];exact hba
   clear hwa hBa hsa hba hw8;have hk8:∀k,k < w6.heap.size->k≠mg->w8.heap[k]?=w6.heap[k]?:=λk a b=>(hB8.block k (by omega)).trans (K7.out k b);have F8:=aa (F7.out.trans (Frm.of_below hB8));have HG8:=aa (show ∃G,MapB w8 mg Aw Aw G/\∀id,(Az G id).getD 0=Aq (By r.gens ((j:Int)+1)) id from by obtain⟨G,a,b⟩:=HG7.out;exact⟨G,a.of_block (hB8.block _ a.lt),b⟩)
   generalize hxb:w7.heap.size=xb at *;have hxb':w6.heap.size<=xb:=hs7;have e0:w8.cell? ⟨w.heap.size+1,0,none⟩=some (.int .i64 3):=(ac (hk8 _ (show w.heap.size+1 < w6.heap.size by omega) (show w.heap.size+1≠mg by omega))).trans u0;have X8:=aa hb8;have K8:=aa hk8;clear hB8 hb8 hk8 e1 e2 e3 hgl2 hs7 hxb;have hgm:mi≠mg:=(HF.out w6 hB6.out).mm;have l0:=HLt.out.1;have l2:=HLt.out.2.1;have hpb:np.big=true:=by rw[HRp.out.big,HK2.out];rfl
   have p1:=HLt.out.2.2.2 np HN.out _ np.blk_mem;have p2:=HLt.out.2.2.2 np HN.out _ (Nd.b_mem hpb);have p3:=HLt.out.2.2.2 np HN.out _ (Nd.m_mem hpb);obtain⟨of1,of2,of3⟩:=HH.out.off np HN.out;have HNe1:=aa (show mi≠np.blk from λe=>of2 (e ▸ np.blk_mem));have HNe3:=aa (show f≠np.blk from λe=>of1 (e ▸ np.blk_mem));have HNe4:=aa (show np.m≠mi from λe=>of2 (e ▸ Nd.m_mem hpb));have HNe5:=aa (show np.m≠mg from λe=>of3 (e ▸ Nd.m_mem hpb));have HNe8:=aa (show np.b≠mi from λe=>of2 (e ▸ Nd.b_mem hpb));have HNe9:=aa (show np.b≠mg from λe=>of3 (e ▸ Nd.b_mem hpb));have HNe6:=aa (show np.m≠np.blk from A8 (HRp.out.dir HK2.out).2 HRp.out.head);have HNe10:=aa (show np.b≠np.blk from Av (HRp.out.dir HK2.out).1 HRp.out.head (by decide));have HNe2:=aa (show f≠mg from λe=>by obtain⟨G,a,_⟩:=HH.out.gmap;exact A8 a HH.out.head e.symm)
   clear of1 of2 of3;have hrw:NodeR w r (A3 r.ins i) np:=by obtain⟨y,hy,hry⟩:=HH.out.node np HN.out;have a1:=HW.out.byId hy;rw[<-hry.id,HRp.out.id,HM2.out] at a1;rw[a1];exact hry
   have HRw:=aa hrw;have D6:=aa ((HD.out w6 hB6.out).head);clear hrw;have x85:w8.cell? ⟨xb,5,none⟩=_:=A1 X8.out 5;have x8f:w8.frozen? ⟨xb,5,none⟩=false:=frozen_of_row w8 xb 5 _ _ X8.out;have e03:w8.cell? ⟨w.heap.size+1,3,none⟩=some (.string tg):=(ac (K8.out _ (show w.heap.size+1 < w6.heap.size by omega) (show w.heap.size+1≠mg by omega))).trans u3
   go_upto_region 26 with fail
   obtain⟨w10,hw10⟩:∃w10,w8.setCell ⟨xb,5,none⟩ (.iface 9 (.string tg))=w10:=⟨_,rfl⟩;rw[hw10];have k10:∀k,k≠xb->w10.heap[k]?=w8.heap[k]?:=λk hk=>by rw[<-hw10];exact A4 _ _ _ _ _ hk
   have X10:=aa (show w10.heap[xb]?=some (.cells (Ks ⟨(j:Int)+1,ga+1,3,md,tm,i,tg,[],[]⟩ 1 ⟨(j:Int)+1,xb,0,0,false⟩) 143 (0,0)) by rw[<-hw10];exact heap_setCell_same w8 xb 5 _ _ _ X8.out);have F10:=aa (show Frm (fpL f mi mg N) w6 w10 by rw[<-hw10];exact F8.out.setCell (.inr hxb') _);have A10:=aa (show ∀k,k < w6.heap.size->k≠mg->k≠np.blk->w10.heap[k]?=w6.heap[k]? from λk a b _=>(k10 k (by omega)).trans (K8.out k a b));have P10:=aa (show w10.heap[np.blk]?=some (.cells (Ks (A3 r.ins i) (A5 r (A3 r.ins i)+0) np) 143 (0,0)) from((k10 np.blk (by omega)).trans (K8.out np.blk (by omega) (by intro e;exact(HH.out.off np HN.out).2.2 (e ▸ np.blk_mem)))).trans D6.out);have HG10:=aa (show ∃G,MapB w10 mg Aw Aw G/\∀id,(Az G id).getD 0=Aq (By r.gens ((j:Int)+1)) id from by obtain⟨G,a,c⟩:=HG8.out;exact⟨G,a.of_block (k10 mg (by omega)),c⟩)
   have NC10:=aa (show ∀w':World,(∀k,k < w10.heap.size->w.heap.size+2 < k->w'.heap[k]?=w10.heap[k]?)->True from λ_ _=>trivial);clear hw10 x85 x8f e03 k10;have i10:=(HF.out w6 hB6.out).imap.of_block (A10.out mi (by omega) hgm (HNe1.out));obtain⟨o2,hup2,hmp2⟩:=Am KI (P:=Tryz.prog) (t:=144) Tryz.underlying144 i10 ((j:Int)+1) xb;unfold Aw De at hup2;have f10:w10.cell? ⟨f,1,none⟩=some (.map (some mi)):=(ac (A10.out f (by omega) HNe2.out HNe3.out)).trans (HF.out w6 hB6.out).cells.2.1
   go_upto_region 27 with fail
   obtain⟨w11,hw11⟩:∃w11,putObj w10 mi o2=w11:=⟨_,rfl⟩;rw[hw11];have k11:∀k,k≠mi->w11.heap[k]?=w10.heap[k]?:=λk hk=>by rw[<-hw11];exact A9 _ _ hk
   have F11:=aa (show Frm (fpL f mi mg N) w6 w11 by rw[<-hw11];exact F10.out.putObj (.inl (by simp[fpL])) o2);rw[hw11] at hmp2;have I11:=aa hmp2;clear hw11 hup2 f10 hmp2;have hd6:=(HD.out w6 hB6.out).dir HK2.out;rw[HM2.out] at hd6;have m11:MapB w11 np.m Ci Aw (Aa r.nms i):=hd6.2.of_block ((k11 _ HNe4.out).trans (A10.out np.m (by have:=hd6.2.lt;omega) HNe5.out HNe6.out));obtain⟨o3,hup3,hmp3⟩:=Am KS (P:=Tryz.prog) (t:=150) Tryz.underlying150 m11 s ((j:Int)+1);unfold Ci Aw at hup3;have g0:w11.cell? ⟨w3.heap.size,1,none⟩=some (.pointer (some ⟨np.b,0,none⟩)):=(ac ((k11 _ (show w3.heap.size≠mi by omega)).trans (A10.out w3.heap.size (by omega) (by omega) (show w3.heap.size≠np.blk by omega)))).trans (A1 HQ6.out 1);have g1:w11.cell? ⟨np.b,0,none⟩=some (.map (some np.m)):=by rw[ac (w:=w6) ((k11 _ HNe8.out).trans (A10.out np.b (An hd6.1) HNe9.out HNe10.out)),A1 hd6.1];rfl
   clear m11
   go_upto_region 28 with fail
   obtain⟨w12,hw12⟩:∃w12,putObj w11 np.m o3=w12:=⟨_,rfl⟩;rw[hw12];have k12:∀k,k≠np.m->w12.heap[k]?=w11.heap[k]?:=λk hk=>by rw[<-hw12];exact A9 _ _ hk
   have F12:=aa (show Frm (fpL f mi mg N) w6 w12 by rw[<-hw12];exact F11.out.putObj (.inl (Ak HN.out (Nd.m_mem (by rw[HRp.out.big,HK2.out];rfl)))) o3);rw[hw12,C5 HEn.out] at hmp3;have M12:=aa hmp3;clear hw12 hup3 hmp3 g0 g1;have X12:=aa (((k12 xb (show xb≠np.m by omega)).trans (k11 xb (show xb≠mi by omega))).trans X10.out);have y0:w12.cell? ⟨xb,0,none⟩=some (.int .i64 ((j:Int)+1)):=by rw[A1 X12.out];rfl
   have y1:w12.cell? ⟨xb,1,none⟩=some (.int .i64 (ga+1)):=by rw[A1 X12.out];rfl
   have hQ:=((k12 _ (show w.heap.size+2≠np.m by omega)).trans ((k11 (w.heap.size+2) (by omega)).trans (A10.out (w.heap.size+2) (by omega) (by omega) (show w.heap.size+2≠np.blk by omega)))).trans ((hB6.out.block _ (by omega)).trans HB2.out);have HQ:=aa hQ;have HPv:=aa (Ch ((j:Int)+1) (ga+1));clear hQ;have hs12:=F12.out.size;have M12':=aa (show MapB w12 mi Aw De (N.map (λn=>(n.id,n.blk))++[((j:Int)+1,xb)]) from(I11.out.of_block (k12 mi (λe=>HNe4.out e.symm))) |> λh=>by
    rw[C5 (by rw[(HF.out w6 hB6.out).get_none HW.out (by
     cases hx:decide ((A3 r.ins ((j:Int)+1)).id=0)
     .exfalso;obtain⟨a,b⟩:=Cx (of_decide_eq_false hx);exact HFr.out _ a b
     .exact of_decide_eq_true hx)];rfl)] at h
    exact h)
   have KK:=aa (show ∀k,k < w.heap.size->k≠np.m->k≠np.blk->k≠mi->k≠mg->w12.heap[k]?=w.heap[k]? from λk a b c d e=>(((k12 k b).trans (k11 k d)).trans (A10.out k (by omega) e c)).trans ((HB.out.trans (hB6.out.mono (by omega))).block k a));have G12:=aa (show ∃G,MapB w12 mg Aw Aw G/\∀id,(Az G id).getD 0=Aq (By r.gens ((j:Int)+1)) id from by obtain⟨G,a,b⟩:=HG10.out;exact⟨G,a.of_block ((k12 mg (λe=>HNe5.out e.symm)).trans (k11 mg (λe=>hgm e.symm))),b⟩)
   have P12:=aa (((k12 np.blk (λe=>HNe6.out e.symm)).trans (k11 np.blk (λe=>HNe1.out e.symm))).trans P10.out);have HC12:=aa (NC10.out w12 (λk a b=>(k12 k (by omega)).trans (k11 k (by omega))));have HF12:=aa (show FsN w12 f mi mg (Ai (Id r ⟨(j:Int)+1,ga+1,3,md,tm,i,tg,[],[]⟩) i s ((j:Int)+1)) (N++[⟨(j:Int)+1,xb,0,0,false⟩]) by
    have hlk:=H9 (x:=⟨(j:Int)+1,ga+1,3,md,tm,i,tg,[],[]⟩) HW.out HFr.out HM1.out s;have:=T0 (nd:=⟨(j:Int)+1,xb,0,0,false⟩) HH.out HW.out (x:=⟨(j:Int)+1,ga+1,3,md,tm,i,tg,[],[]⟩) HM1.out HK2.out HN.out HRw.out HFr.out s KK.out (by rw[HM2.out];exact M12.out) M12'.out G12.out P12.out
     ⟨rfl,by rw[hlk];exact X12.out,rfl,λq=>dt (show(3:Int)=1 from q) (by decide),λq=>dt (show(3:Int)=2 from q) (by decide)⟩
     (λk hk=>by simp[Nd.foot] at hk;omega)
    rw[HM2.out] at this;exact this)
   have HNx:=aa (show Fa r (i,g) ⟨3,md,tm,tg⟩=⟨(j:Int)+1,ga+1,3,md,tm,i,tg,[],[]⟩ by unfold Fa;rw[HId.out,HGa.out])
   go_wp2_with (refine A6 rfl 31 (.tmp 8) (.tmp 150) rfl w12 (w.heap.size+2) _ _ _ rfl rfl HQ.out rfl Ji HPv.out ?_;intro w13 hX13 hG13)
   refine Ag (p:=8) (u:=9) rfl rfl hX13 Uz rfl Ji rfl rfl ⟨by rw[HId.out,HGa.out];rfl,?_⟩;rw[HNx.out,HId.out];have lt12:=HF12.out;have hx12:=X12.out;refine⟨_,lt12.keep (hG13.block _ (An lt12.head) (by simp;omega)) (hG13.block _ lt12.imap.lt (by simp;omega)) (hG13.block _ (by omega) (by simp;omega)) (λn hn k hk=>?_),λk hk=>?_,?_⟩
   .have hnn:k < w.heap.size\/w6.heap.size<=k:=by
     rcases cd.1 hn with hn | hn
     .exact .inl (HLt.out.2.2.2 n hn k hk)
     .simp only[List.mem_singleton] at hn;subst hn;simp[Nd.foot] at hk;omega
    have hk12:k < w12.heap.size:=by
     rcases cd.1 hn with hn | hn
     .have:=HLt.out.2.2.2 n hn k hk;omega
     .simp only[List.mem_singleton] at hn;subst hn;simp[Nd.foot] at hk
      (have:=An hx12;omega)
    exact hG13.block k hk12 (by simp;omega)
   .unfold fpL at hk⊢;simp only[List.mem_cons,List.mem_flatMap,List.mem_append] at hk⊢;rcases hk with h1 | h1 | h1 | ⟨n,hn | hn,h1⟩
    .exact .inl (.inl h1)
    .exact .inl (.inr (.inl h1))
    .exact .inl (.inr (.inr (.inl h1)))
    .exact .inl (.inr (.inr (.inr ⟨n,hn,h1⟩)))
    .simp only[List.not_mem_nil,or_false] at hn;subst hn;simp[Nd.foot] at h1;exact .inr (by omega)
   .refine((Frm.of_below (HB.out.trans (hB6.out.mono (by omega)))).trans F12.out).trans' hG13 (by omega)
  .obtain⟨z1,z2⟩:=Cx hz;obtain⟨nz,hnz,hrz⟩:=(HF.out w6 hB6.out).at_ HW.out z1;have hg:=(HF.out w6 hB6.out).get hnz;rw[hrz.id,z2] at hg;rw[hg] at hlk;simp only[Option.map_some,Option.getD_some,De] at hlk;have HJ2:=aa (show ∀k:Nat,k < j+1->(A3 r.ins ((k:Int)+1)).id≠0 from λk hk=>by
    rcases Nat.lt_or_ge k j with h1 | h1
    .exact HJ.out k h1
    .obtain rfl:k=j:=by omega
     exact hz)
   have hle:=Nw HW.out HJ2.out;clear hg hz z1 z2 hnz hrz
   go_wp2
   go_round
   case rel=>exact⟨j+1,hle,by go_num,HJ2.out⟩
   case measure=>simp[intOf];omega
attribute [local go_sem] C8
set_option maxRecDepth 100000 in
set_option maxHeartbeats 16000000 in
theorem Z4q {w:World}{f mi mg K:Nat}{r:RFs}{N:List Nd}(h:FsN w f mi mg r N)(hW:Wf r K)(hK:K<=1000000)(i g:Int)(s:ByteArray)(hs:s.size<=maxLen)(kd md tm:Int)(tg:ByteArray)(ht:tg.size<=maxLen) :
  Calls Tryz.prog 31 #[.pointer (some ⟨f,0,none⟩),.agg #[.int .i64 i,.int .i64 g],.string s,.agg #[.int .i64 kd,.int .i64 md,.int .i64 tm,.string tg]] w
   λe w'=>e=.returned (mkR (Db r (i,g) s ⟨kd,md,tm,tg⟩))/\Cr w w' f mi mg N (Db r (i,g) s ⟨kd,md,tm,tg⟩).1:=by
 obtain⟨w2,hw2,hB,hs2,hb0,hb1,hb2⟩:=Zbh w #[.int .i64 i,.int .i64 g] #[.int .i64 kd,.int .i64 md,.int .i64 tm,.string tg] #[.int .i64 0,.int .i64 0] 31 32 31;have t0:w2.cell? ⟨w.heap.size,0,none⟩=some (.int .i64 i):=by rw[A1 hb0];rfl
 have t1:w2.cell? ⟨w.heap.size,1,none⟩=some (.int .i64 g):=by rw[A1 hb0];rfl
 have h2:=h.below hW hB;have HW2:=aa hw2;have HB:=aa hB;have HB2:=aa hb2;have HSt:=aa (show ∀w',Below w.heap.size w w'->Cr w w' f mi mg N r from λw' hb=>Dv h hW hb);have HM:=aa (show ∀w',Below w2.heap.size w2 w'->w'.cell? ⟨w.heap.size+1,0,none⟩=some (.int .i64 kd)/\w'.cell? ⟨w.heap.size+1,1,none⟩=some (.int .i64 md)/\w'.cell? ⟨w.heap.size+1,2,none⟩=some (.int .i64 tm)/\w'.cell? ⟨w.heap.size+1,3,none⟩=some (.string tg) from λw' hb=>by have e:=(hb.block (w.heap.size+1) (by omega)).trans hb1;exact⟨A1 e 0,A1 e 1,A1 e 2,A1 e 3⟩)
 by_cases hp:B2 r (i,g) s false=0
 .have hf:=C9 hp;obtain⟨hl,hk2⟩:=Bn hf;obtain⟨m1,m2,m3⟩:=Ac hl;obtain⟨np,hn,hr⟩:=h2.at_ hW m1;have hni:np.id=i:=hr.id.trans m2;have hpl:=E5 h2 hW i g s hs false hf hn hni;rw[hp] at hpl;have HP:=aa hpl;clear hpl;have HAt:=aa (show ∀w4,Below w2.heap.size w2 w4->Calls Tryz.prog 59 #[.agg #[.pointer (some ⟨np.blk,0,none⟩),.pointer (some ⟨np.b,0,none⟩),.string s]] w4 λe w'=>e=.returned (.tuple #[.int .i64 (A2 r.nms i s),.bool (decide (A2 r.nms i s≠0))])/\Below w4.heap.size w4 w' from λw4 hb=>by
   have hr4:=hr.below (hW.kind _ m1) hb;have:=Bc hr4 hk2 (hr4.lt (hW.kind _ m1)) s (some ⟨np.blk,0,none⟩);rw[m2,hW.entry_some] at this;exact this)
  have HR:=aa (show ∀w,Calls Tryz.prog 60 #[.agg #[.int .i64 kd,.int .i64 md,.int .i64 tm,.string tg]] w λe w'=>e=.returned (.bool (Cw ⟨kd,md,tm,tg⟩))/\Below w.heap.size w w' from λw=>Ik ⟨kd,md,tm,tg⟩ w ht);have HD:=aa (show ∀w4,Below w2.heap.size w2 w4->NodeR w4 r (A3 r.ins i) np from λw4 hb=>hr.below (.inr (.inl hk2)) hb);have HF:=aa (show ∀w4,Below w2.heap.size w2 w4->FsN w4 f mi mg r N from λw4 hb=>h2.below hW hb);have HLen:=aa (h.len hW);have hlx:=hW.lim _ m1;have hcnt:=hW.cnt;have hnp:¬B2 r (i,g) s false≠0:=by simp[hp]
  have hcs:Cw ⟨kd,md,tm,tg⟩=false\/Cw ⟨kd,md,tm,tg⟩=true/\(A2 r.nms i s≠0\/A2 r.nms i s=0/\((kd=2/\20<=A5 r (A3 r.ins i))\/((kd≠2\/kd=2/\A5 r (A3 r.ins i) < 20)/\(200<=r.ins.length\/r.ins.length < 200)))):=by
   cases Cw ⟨kd,md,tm,tg⟩
   .exact .inl rfl
   .exact .inr ⟨rfl,by omega⟩
  rcases hcs with q | ⟨q,q1 | ⟨q1,⟨q2,q3⟩ | ⟨q2,q3 | q3⟩⟩⟩
  .rw[show Db r (i,g) s ⟨kd,md,tm,tg⟩=(r,(0,0),1) by unfold Db;rw[dp hnp,dq q]];rw[q] at HR;unfold mkR;generalize A2 r.nms i s=ent at *;clear hw2 hB hb0 hb1 hb2 h h2 hW hp hf hl hk2 m1 m2 m3 hn hr hni hnp
   go_enter Tryz.func31,Tryz.ntmps31
   go_wp2_with fail
   rw[HW2.out]
   go_upto_region 4 with(go_at_call 58;(with_reducible refine HP.out.mono ?_);rintro e w3 ⟨rfl,hB3⟩;have hs3:=hB3.size;replace hB3:=aa hB3)
   obtain⟨w4,hw4,hB4,hs4,hb4⟩:=Ht w3 #[.pointer (some ⟨np.blk,0,none⟩),.pointer (some ⟨np.b,0,none⟩),.string s] 137;rw[hw4];have c5:w4.cell? ⟨w3.heap.size,0,none⟩=some (.pointer (some ⟨np.blk,0,none⟩)):=by rw[A1 hb4];rfl
   have c6:w4.cell? ⟨w3.heap.size,1,none⟩=some (.pointer (some ⟨np.b,0,none⟩)):=by rw[A1 hb4];rfl
   have c7:w4.cell? ⟨w3.heap.size,2,none⟩=some (.string s):=by rw[A1 hb4];rfl
   have HQ4:=aa hb4;replace hB4:=aa (hB3.out.trans (hB4.mono (by omega)));clear hw4 hb4;have HPv:=aa (Ch 0 0)
   go_wp2_with (first
    | (go_at_call 59;(with_reducible refine(HAt.out w4 hB4.out).mono ?_);rintro e w5 ⟨rfl,hB5⟩;have hs5:=hB5.size;have hqq:=(hB5.block _ (by omega)).trans HQ4.out;replace hB5:=aa (hB4.out.trans (hB5.mono (by omega)));obtain⟨v0,v1,v2,v3⟩:=HM.out w5 hB5.out;have HQ5:=aa hqq;clear hqq)
    | (go_at_call 60;(with_reducible refine(HR.out w5).mono ?_);rintro e w6 ⟨rfl,hB6⟩;have hs6:=hB6.size;have HQ6:=aa ((hB6.block _ (by omega)).trans HQ5.out);replace hB6:=aa (hB5.out.trans (hB6.mono (by omega)));obtain⟨u0,u1,u2,u3⟩:=HM.out w6 hB6.out;have p60:w6.cell? ⟨w3.heap.size,0,none⟩=_:=A1 HQ6.out 0;have p61:w6.cell? ⟨w3.heap.size,1,none⟩=_:=A1 HQ6.out 1;obtain⟨-,-,-,-,k4,-⟩:=(HD.out w6 hB6.out).cells;obtain⟨-,f1,f2⟩:=(HF.out w6 hB6.out).cells;have hlen:=Bg (P:=Tryz.prog) (ty:=3) (t:=144) Tryz.underlying144 (HF.out w6 hB6.out).imap;rw[ap,HLen.out] at hlen)
    | (refine A6 rfl 31 (.tmp 8) (.tmp 36) rfl w6 (w.heap.size+2) _ _ _ rfl rfl ((hB6.out.block _ (by omega)).trans HB2.out) rfl Ji HPv.out ?_;intro w9 hX9 hG9))
   have hb9:=Below.grownBy (HB.out.trans (hB6.out.mono (by omega))) hG9 (by omega) (λk hk=>by injection hk with hk;omega);exact Ag (p:=8) (u:=9) rfl rfl hX9 Uz rfl Ji rfl rfl ⟨rfl,HSt.out _ hb9⟩
  .rw[show Db r (i,g) s ⟨kd,md,tm,tg⟩=(r,(0,0),171) by unfold Db;rw[dp hnp,dp (by rw[q];simp),dq q1]];rw[q] at HR;rw[decide_eq_true q1] at HAt;unfold mkR;clear hw2 hB hb0 hb1 hb2 h h2 hW hp hf hl hk2 m1 m2 m3 hn hr hni hnp q1
   go_enter Tryz.func31,Tryz.ntmps31
   go_wp2_with fail
   rw[HW2.out]
   go_upto_region 4 with(go_at_call 58;(with_reducible refine HP.out.mono ?_);rintro e w3 ⟨rfl,hB3⟩;have hs3:=hB3.size;replace hB3:=aa hB3)
   obtain⟨w4,hw4,hB4,hs4,hb4⟩:=Ht w3 #[.pointer (some ⟨np.blk,0,none⟩),.pointer (some ⟨np.b,0,none⟩),.string s] 137;rw[hw4];have c5:w4.cell? ⟨w3.heap.size,0,none⟩=some (.pointer (some ⟨np.blk,0,none⟩)):=by rw[A1 hb4];rfl
   have c6:w4.cell? ⟨w3.heap.size,1,none⟩=some (.pointer (some ⟨np.b,0,none⟩)):=by rw[A1 hb4];rfl
   have c7:w4.cell? ⟨w3.heap.size,2,none⟩=some (.string s):=by rw[A1 hb4];rfl
   have HQ4:=aa hb4;replace hB4:=aa (hB3.out.trans (hB4.mono (by omega)));clear hw4 hb4;have HPv:=aa (Ch 0 0)
   go_wp2_with (first
    | (go_at_call 59;(with_reducible refine(HAt.out w4 hB4.out).mono ?_);rintro e w5 ⟨rfl,hB5⟩;have hs5:=hB5.size;have hqq:=(hB5.block _ (by omega)).trans HQ4.out;replace hB5:=aa (hB4.out.trans (hB5.mono (by omega)));obtain⟨v0,v1,v2,v3⟩:=HM.out w5 hB5.out;have HQ5:=aa hqq;clear hqq)
    | (go_at_call 60;(with_reducible refine(HR.out w5).mono ?_);rintro e w6 ⟨rfl,hB6⟩;have hs6:=hB6.size;have HQ6:=aa ((hB6.block _ (by omega)).trans HQ5.out);replace hB6:=aa (hB5.out.trans (hB6.mono (by omega)));obtain⟨u0,u1,u2,u3⟩:=HM.out w6 hB6.out;have p60:w6.cell? ⟨w3.heap.size,0,none⟩=_:=A1 HQ6.out 0;have p61:w6.cell? ⟨w3.heap.size,1,none⟩=_:=A1 HQ6.out 1;obtain⟨-,-,-,-,k4,-⟩:=(HD.out w6 hB6.out).cells;obtain⟨-,f1,f2⟩:=(HF.out w6 hB6.out).cells;have hlen:=Bg (P:=Tryz.prog) (ty:=3) (t:=144) Tryz.underlying144 (HF.out w6 hB6.out).imap;rw[ap,HLen.out] at hlen)
    | (refine A6 rfl 31 (.tmp 8) (.tmp 39) rfl w6 (w.heap.size+2) _ _ _ rfl rfl ((hB6.out.block _ (by omega)).trans HB2.out) rfl Ji HPv.out ?_;intro w9 hX9 hG9))
   have hb9:=Below.grownBy (HB.out.trans (hB6.out.mono (by omega))) hG9 (by omega) (λk hk=>by injection hk with hk;omega);exact Ag (p:=8) (u:=9) rfl rfl hX9 Uz rfl Ji rfl rfl ⟨rfl,HSt.out _ hb9⟩
  .rw[show Db r (i,g) s ⟨kd,md,tm,tg⟩=(r,(0,0),179) by unfold Db;rw[dp hnp,dp (by rw[q];simp),dp (by simp[q1]),dq ⟨q2,q3⟩]];rw[q] at HR;rw[q1] at HAt;simp only[ne_eq,not_true_eq_false,decide_false] at HAt;subst q2;have q4:decide (20<=(A5 r (A3 r.ins i):Int))=true:=decide_eq_true (by omega);have q5:decide (20<=A5 r (A3 r.ins i))=true:=decide_eq_true q3;unfold mkR;clear hw2 hB hb0 hb1 hb2 h h2 hW hp hf hl hk2 m1 m2 m3 hn hr hni hnp q1
   go_enter Tryz.func31,Tryz.ntmps31
   go_wp2_with fail
   rw[HW2.out]
   go_upto_region 4 with(go_at_call 58;(with_reducible refine HP.out.mono ?_);rintro e w3 ⟨rfl,hB3⟩;have hs3:=hB3.size;replace hB3:=aa hB3)
   obtain⟨w4,hw4,hB4,hs4,hb4⟩:=Ht w3 #[.pointer (some ⟨np.blk,0,none⟩),.pointer (some ⟨np.b,0,none⟩),.string s] 137;rw[hw4];have c5:w4.cell? ⟨w3.heap.size,0,none⟩=some (.pointer (some ⟨np.blk,0,none⟩)):=by rw[A1 hb4];rfl
   have c6:w4.cell? ⟨w3.heap.size,1,none⟩=some (.pointer (some ⟨np.b,0,none⟩)):=by rw[A1 hb4];rfl
   have c7:w4.cell? ⟨w3.heap.size,2,none⟩=some (.string s):=by rw[A1 hb4];rfl
   have HQ4:=aa hb4;replace hB4:=aa (hB3.out.trans (hB4.mono (by omega)));clear hw4 hb4;have HPv:=aa (Ch 0 0)
   go_wp2_with (first
    | (go_at_call 59;(with_reducible refine(HAt.out w4 hB4.out).mono ?_);rintro e w5 ⟨rfl,hB5⟩;have hs5:=hB5.size;have hqq:=(hB5.block _ (by omega)).trans HQ4.out;replace hB5:=aa (hB4.out.trans (hB5.mono (by omega)));obtain⟨v0,v1,v2,v3⟩:=HM.out w5 hB5.out;have HQ5:=aa hqq;clear hqq)
    | (go_at_call 60;(with_reducible refine(HR.out w5).mono ?_);rintro e w6 ⟨rfl,hB6⟩;have hs6:=hB6.size;have HQ6:=aa ((hB6.block _ (by omega)).trans HQ5.out);replace hB6:=aa (hB5.out.trans (hB6.mono (by omega)));obtain⟨u0,u1,u2,u3⟩:=HM.out w6 hB6.out;have p60:w6.cell? ⟨w3.heap.size,0,none⟩=_:=A1 HQ6.out 0;have p61:w6.cell? ⟨w3.heap.size,1,none⟩=_:=A1 HQ6.out 1;obtain⟨-,-,-,-,k4,-⟩:=(HD.out w6 hB6.out).cells;obtain⟨-,f1,f2⟩:=(HF.out w6 hB6.out).cells;have hlen:=Bg (P:=Tryz.prog) (ty:=3) (t:=144) Tryz.underlying144 (HF.out w6 hB6.out).imap;rw[ap,HLen.out] at hlen)
    | (refine A6 rfl 31 (.tmp 8) (.tmp 52) rfl w6 (w.heap.size+2) _ _ _ rfl rfl ((hB6.out.block _ (by omega)).trans HB2.out) rfl Ji HPv.out ?_;intro w9 hX9 hG9))
   have hb9:=Below.grownBy (HB.out.trans (hB6.out.mono (by omega))) hG9 (by omega) (λk hk=>by injection hk with hk;omega);exact Ag (p:=8) (u:=9) rfl rfl hX9 Uz rfl Ji rfl rfl ⟨rfl,HSt.out _ hb9⟩
  .have hq:¬(kd=2/\20<=A5 r (A3 r.ins i)):=by omega
   rw[show Db r (i,g) s ⟨kd,md,tm,tg⟩=(r,(0,0),177) by unfold Db;rw[dp hnp,dp (by rw[q];simp),dp (by simp[q1]),dp hq,dq q3]];rw[q] at HR;rw[q1] at HAt;simp only[ne_eq,not_true_eq_false,decide_false] at HAt;have q6:decide (200<=(r.ins.length:Int))=true:=decide_eq_true (by omega);have q7:decide (200<=r.ins.length)=true:=decide_eq_true q3;unfold mkR;clear hw2 hB hb0 hb1 hb2 h h2 hW hp hf hl hk2 m1 m2 m3 hn hr hni hnp q1 hq;rcases q2 with q2 | ⟨rfl,q2⟩
   .have q4:(kd==2)=false:=by rw[beq_eq_false_iff_ne];exact q2
    go_enter Tryz.func31,Tryz.ntmps31
    go_wp2_with fail
    rw[HW2.out]
    go_upto_region 4 with(go_at_call 58;(with_reducible refine HP.out.mono ?_);rintro e w3 ⟨rfl,hB3⟩;have hs3:=hB3.size;replace hB3:=aa hB3)
    obtain⟨w4,hw4,hB4,hs4,hb4⟩:=Ht w3 #[.pointer (some ⟨np.blk,0,none⟩),.pointer (some ⟨np.b,0,none⟩),.string s] 137;rw[hw4];have c5:w4.cell? ⟨w3.heap.size,0,none⟩=some (.pointer (some ⟨np.blk,0,none⟩)):=by rw[A1 hb4];rfl
    have c6:w4.cell? ⟨w3.heap.size,1,none⟩=some (.pointer (some ⟨np.b,0,none⟩)):=by rw[A1 hb4];rfl
    have c7:w4.cell? ⟨w3.heap.size,2,none⟩=some (.string s):=by rw[A1 hb4];rfl
    have HQ4:=aa hb4;replace hB4:=aa (hB3.out.trans (hB4.mono (by omega)));clear hw4 hb4;have HPv:=aa (Ch 0 0)
    go_wp2_with (first
     | (go_at_call 59;(with_reducible refine(HAt.out w4 hB4.out).mono ?_);rintro e w5 ⟨rfl,hB5⟩;have hs5:=hB5.size;have hqq:=(hB5.block _ (by omega)).trans HQ4.out;replace hB5:=aa (hB4.out.trans (hB5.mono (by omega)));obtain⟨v0,v1,v2,v3⟩:=HM.out w5 hB5.out;have HQ5:=aa hqq;clear hqq)
     | (go_at_call 60;(with_reducible refine(HR.out w5).mono ?_);rintro e w6 ⟨rfl,hB6⟩;have hs6:=hB6.size;have HQ6:=aa ((hB6.block _ (by omega)).trans HQ5.out);replace hB6:=aa (hB5.out.trans (hB6.mono (by omega)));obtain⟨u0,u1,u2,u3⟩:=HM.out w6 hB6.out;have p60:w6.cell? ⟨w3.heap.size,0,none⟩=_:=A1 HQ6.out 0;have p61:w6.cell? ⟨w3.heap.size,1,none⟩=_:=A1 HQ6.out 1;obtain⟨-,-,-,-,k4,-⟩:=(HD.out w6 hB6.out).cells;obtain⟨-,f1,f2⟩:=(HF.out w6 hB6.out).cells;have hlen:=Bg (P:=Tryz.prog) (ty:=3) (t:=144) Tryz.underlying144 (HF.out w6 hB6.out).imap;rw[ap,HLen.out] at hlen)
     | (refine A6 rfl 31 (.tmp 8) (.tmp 60) rfl w6 (w.heap.size+2) _ _ _ rfl rfl ((hB6.out.block _ (by omega)).trans HB2.out) rfl Ji HPv.out ?_;intro w9 hX9 hG9))
    have hb9:=Below.grownBy (HB.out.trans (hB6.out.mono (by omega))) hG9 (by omega) (λk hk=>by injection hk with hk;omega);exact Ag (p:=8) (u:=9) rfl rfl hX9 Uz rfl Ji rfl rfl ⟨rfl,HSt.out _ hb9⟩
   .have q4:decide (20<=(A5 r (A3 r.ins i):Int))=false:=decide_eq_false (by omega);have q5:decide (20<=A5 r (A3 r.ins i))=false:=decide_eq_false (by omega)
    go_enter Tryz.func31,Tryz.ntmps31
    go_wp2_with fail
    rw[HW2.out]
    go_upto_region 4 with(go_at_call 58;(with_reducible refine HP.out.mono ?_);rintro e w3 ⟨rfl,hB3⟩;have hs3:=hB3.size;replace hB3:=aa hB3)
    obtain⟨w4,hw4,hB4,hs4,hb4⟩:=Ht w3 #[.pointer (some ⟨np.blk,0,none⟩),.pointer (some ⟨np.b,0,none⟩),.string s] 137;rw[hw4];have c5:w4.cell? ⟨w3.heap.size,0,none⟩=some (.pointer (some ⟨np.blk,0,none⟩)):=by rw[A1 hb4];rfl
    have c6:w4.cell? ⟨w3.heap.size,1,none⟩=some (.pointer (some ⟨np.b,0,none⟩)):=by rw[A1 hb4];rfl
    have c7:w4.cell? ⟨w3.heap.size,2,none⟩=some (.string s):=by rw[A1 hb4];rfl
    have HQ4:=aa hb4;replace hB4:=aa (hB3.out.trans (hB4.mono (by omega)));clear hw4 hb4;have HPv:=aa (Ch 0 0)
    go_wp2_with (first
     | (go_at_call 59;(with_reducible refine(HAt.out w4 hB4.out).mono ?_);rintro e w5 ⟨rfl,hB5⟩;have hs5:=hB5.size;have hqq:=(hB5.block _ (by omega)).trans HQ4.out;replace hB5:=aa (hB4.out.trans (hB5.mono (by omega)));obtain⟨v0,v1,v2,v3⟩:=HM.out w5 hB5.out;have HQ5:=aa hqq;clear hqq)
     | (go_at_call 60;(with_reducible refine(HR.out w5).mono ?_);rintro e w6 ⟨rfl,hB6⟩;have hs6:=hB6.size;have HQ6:=aa ((hB6.block _ (by omega)).trans HQ5.out);replace hB6:=aa (hB5.out.trans (hB6.mono (by omega)));obtain⟨u0,u1,u2,u3⟩:=HM.out w6 hB6.out;have p60:w6.cell? ⟨w3.heap.size,0,none⟩=_:=A1 HQ6.out 0;have p61:w6.cell? ⟨w3.heap.size,1,none⟩=_:=A1 HQ6.out 1;obtain⟨-,-,-,-,k4,-⟩:=(HD.out w6 hB6.out).cells;obtain⟨-,f1,f2⟩:=(HF.out w6 hB6.out).cells;have hlen:=Bg (P:=Tryz.prog) (ty:=3) (t:=144) Tryz.underlying144 (HF.out w6 hB6.out).imap;rw[ap,HLen.out] at hlen)
     | (refine A6 rfl 31 (.tmp 8) (.tmp 60) rfl w6 (w.heap.size+2) _ _ _ rfl rfl ((hB6.out.block _ (by omega)).trans HB2.out) rfl Ji HPv.out ?_;intro w9 hX9 hG9))
    have hb9:=Below.grownBy (HB.out.trans (hB6.out.mono (by omega))) hG9 (by omega) (λk hk=>by injection hk with hk;omega);exact Ag (p:=8) (u:=9) rfl rfl hX9 Uz rfl Ji rfl rfl ⟨rfl,HSt.out _ hb9⟩
  .have hq:¬(kd=2/\20<=A5 r (A3 r.ins i)):=by omega
   rw[show Db r (i,g) s ⟨kd,md,tm,tg⟩=(Ai (Id r (Fa r (i,g) ⟨kd,md,tm,tg⟩)) i s (Df r.ins),(Df r.ins,Aq r.gens (Df r.ins)+1),0) by unfold Db;rw[dp hnp,dp (by rw[q];simp),dp (by simp[q1]),dp hq,dp (show ¬200<=r.ins.length by omega)]];unfold mkR;have hkd:kd=1\/kd=2\/kd=3:=by have:=of_decide_eq_true q;dsimp only at this;omega
   rcases hkd with rfl | rfl | rfl
   .exact Z60 h hW hK i g s hs md tm tg ht hp q q1 q3
   .exact Z3m h hW hK i g s hs md tm tg ht hp q q1 (by omega) q3
   .exact Z46 h hW hK i g s hs md tm tg ht hp q q1 q3
 .rw[show Db r (i,g) s ⟨kd,md,tm,tg⟩=(r,(0,0),B2 r (i,g) s false) by unfold Db;rw[dq hp]];obtain⟨pa,pb,pc,hpl⟩:=L1 h2 hW i g s hs false hp;have HP:=aa hpl;have hne:(B2 r (i,g) s false != 0)=true:=by rw[bne_iff_ne];exact hp
  generalize B2 r (i,g) s false=pe at *;unfold mkR;clear hw2 hB hb0 hb1 hb2 h h2 hW hp hpl
  go_enter Tryz.func31,Tryz.ntmps31
  go_wp2_with fail
  rw[HW2.out];have HPv:=aa (Ch 0 0)
  go_wp2_with (first
   | (go_at_call 58;(with_reducible refine HP.out.mono ?_);rintro e w3 ⟨rfl,hB3⟩;have hs3:=hB3.size;replace hB3:=aa hB3)
   | (refine A6 rfl 31 (.tmp 8) (.tmp 25) rfl _ (w.heap.size+2) _ _ _ rfl rfl ((ae _ _ _ (by omega)).trans ((hB3.out.block _ (by omega)).trans HB2.out)) rfl Ji HPv.out ?_;intro w9 hX9 hG9))
  have hb3:=HB.out.trans (hB3.out.mono (by omega));have hb9:=Below.grownBy (hb3.alloc hb3.size _) hG9 (by simp;omega) (λk hk=>by injection hk with hk;omega);exact Ag (p:=8) (u:=9) rfl rfl hX9 Uz rfl Ji rfl rfl ⟨rfl,HSt.out _ hb9⟩
end Go.Proofs.YtmmdikhljefeiaaGreat
