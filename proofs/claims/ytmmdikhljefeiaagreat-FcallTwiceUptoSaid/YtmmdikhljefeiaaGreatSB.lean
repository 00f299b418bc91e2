
import Derived.Test.YtmmdikhljefeiaaGreatYShB
import Derived.StillTailTactics
namespace Go.Proofs.YtmmdikhljefeiaaGreat
open Go.RowKit Go.MapKept
def wr1 (bl:List (Nat × List UInt8))(a:Nat)(b:List UInt8):List (Nat × List UInt8):=Gy bl (a / 16) (splice (Do bl (a / 16)) (a % 16) (b.take (16 - a % 16)))
def wrL:Nat->List (Nat × List UInt8)->Nat->List UInt8->List (Nat × List UInt8)
 | 0,bl,_,_=>bl
 | f+1,bl,a,b=>if b.length=0 then bl else wrL f (wr1 bl a b) (a+min b.length (16 - a % 16)) (b.drop (16 - a % 16))
theorem Vc:∀(f g:Nat) (bl:List (Nat × List UInt8)) (a:Nat) (b:List UInt8),b.length<=f->b.length<=g->wrL f bl a b=wrL g bl a b
 | 0,0,_,_,_,_,_=>rfl
 | 0,g+1,bl,a,b,h,_=>by simp[wrL,show b.length=0 by omega]
 | f+1,0,bl,a,b,_,h=>by simp[wrL,show b.length=0 by omega]
 | f+1,g+1,bl,a,b,h1,h2=>by
  simp only[wrL];split
  .rfl
  .exact Vc f g _ _ _ (by rw[bm];omega) (by rw[bm];omega)
theorem Z5y {bl:List (Nat × List UInt8)}{a:Nat}{b:List UInt8}{r:List (Nat × List UInt8)}(d:0 < b.length)(h:wrL b.length bl a b=r) :
  wrL (b.drop (16 - a % 16)).length (wr1 bl a b) (a+min b.length (16 - a % 16)) (b.drop (16 - a % 16))=r:=by
 obtain⟨f,c⟩:∃f,b.length=f+1:=⟨b.length - 1,by omega⟩;rw[c,wrL,dp (by omega)] at h;rw[<-h];have:=bm (i:=16 - a % 16) (l:=b);exact Vc _ _ _ _ _ (av _) (by omega)
theorem I5 {bl:List (Nat × List UInt8)}{k:Nat}{v:List UInt8}{p:Nat × List UInt8}(h:p∈Gy bl k v):p∈bl\/p=(k,v):=by
 unfold Gy at h;split at h
 .obtain⟨q,a,rfl⟩:=bk.1 h;split
  .exact .inr rfl
  .exact .inl a
 .rcases cd.1 h with h | h
  .exact .inl h
  .exact .inr (by simpa using h)
theorem P1 {bl:List (Nat × List UInt8)}(h:∀p∈bl,p.2.length=16)(a:Nat)(b:List UInt8):∀p∈wr1 bl a b,p.2.length=16:=λp c=>by
 rcases I5 c with c | rfl
 .exact h p c
 .have d:=Fu h (a / 16);show(splice (Do bl (a / 16)) (a % 16) (b.take (16 - a % 16))).length=16;rw[length_splice _ _ _ (by rw[d,bf];omega),d]
theorem Z3r {bl:List (Nat × List UInt8)}(h:∀p∈bl,p.1 < 65536){a:Nat}(ha:a < 1048576)(b:List UInt8):∀p∈wr1 bl a b,p.1 < 65536:=λp c=>by
 rcases I5 c with c | rfl
 .exact h p c
 .show a / 16 < 65536;omega
theorem Raw.setSize {w:World}{b m size:Nat}{bl:List (Nat × List UInt8)}(h:Raw w b m size bl){s:Nat}(a:s<=1048576):Raw (w.setCell ⟨b,0,none⟩ (.int .i64 (s:Int))) b m s bl :=
 ⟨by simp[World.setCell,Array.getElem?_modify,h.head],h.map.of_block (Below.heap_setCell w _ _ _ h.ne.symm),h.full,a,h.keys⟩
theorem Rd.frm {w w':World}{B b m size:Nat}{bl:List (Nat × List UInt8)}{A:Option Addr}{l:List UInt8}(h:Rd w B 1 Ih A l)(hr:Raw w b m size bl)(y:Frm [b,m] w w'):Rd w' B 1 Ih A l:=λi x z=>by
 obtain⟨a,rfl,u,t⟩:=h i x z;refine⟨a,rfl,u,λj v f=>?_⟩;have c:=t j v f;have o:((a.add (i * 1)).add j).block < w.heap.size:=block_lt_of_cell c;have q:v=B3 x:=by
  match j,f with
  | 0,f=>simpa [Ih] using f.symm
  | j+1,f=>simp[Ih] at f
 have n:((a.add (i * 1)).add j).block ∉ [b,m]:=by
  intro g;have d:((a.add (i * 1)).add j).block=b\/((a.add (i * 1)).add j).block=m:=by simpa using g
  generalize (a.add (i * 1)).add j=p at *;rcases d with e | e
  .have r:=hr.head;rw[<-e] at r;simp only[World.cell?,r] at c;split at c
   .cases c
   .rw[q] at c
    match p.off,c with
    | 0,c=>simp[B3] at c
    | 1,c=>simp[B3] at c
    | k+2,c=>simp at c
  .obtain⟨es,clock,s,_⟩:=hr.map;rw[<-e] at s;simp[World.cell?,s] at c
 rw[ac (w:=w) (y.block _ o n)];exact c
theorem Rd.cut {w:World}{B:Nat}{A:Option Addr}{l:List UInt8}{k cap:Nat}(h:Rd w B 1 Ih A l)(g:l.length<=cap):Rd w B 1 Ih (if cap=k then A else A.map (·.add k)) (l.drop k):=λi x c=>by rw[ce] at c;obtain⟨a,rfl,e,b⟩:=h _ x c;have f:=(ar.1 c).1;rw[dp (by omega)];refine⟨a.add k,rfl,by rw[Gx];exact e,λj v d=>?_⟩;have:=b j v d;rw[Fi] at this;rw[Fi,Fi];rw[show k+(i * 1+j)=(k+i) * 1+j by omega];exact this
theorem K0 {α β:Type}(f:α->β)(l:List α)(k:Nat)(c:List α):splice (l.map f) k (c.map f)=(splice l k c).map f:=by simp[splice,List.map_take,List.map_drop]
theorem Li (w:World)(g e:Nat)(b:e < 16):(Instr.sliceAt 234 (.pointer (some ⟨g,0,none⟩)) (some (.int .i64 (e:Int))) none none).run Tryz.prog w=.ok (.slice (some ⟨g,e,none⟩) (16 - e) (16 - e)) w:=by
 have ha:Tryz.prog.arrayLen 234=16:=by kernel_rfl
 rw[run_sliceAt_array_l w 234 ⟨g,0,none⟩ (by kernel_rfl) .i64 (e:Int) (by omega) (by rw[ha];omega)];have a:(sizeOf (Tryz.prog.elem 234)).run Tryz.prog w=.ok 1 w:=by kernel_rfl
 rw[a,ha];simp only[Result.andThen_ok,slicedAt,Int.toNat_natCast,Nat.mul_one];rw[dp (by omega)];have:Addr.add ⟨g,0,none⟩ e=⟨g,e,none⟩:=by unfold Addr.add;split<;>simp_all
 rw[this]
theorem Rd.src {w:World}{B:Nat}{A:Option Addr}{l:List UInt8}(h:Rd w B 1 Ih A l)(k:Nat)(d:0 < ((l.take k).map B3).length):∃a,A=some a/\∀j v,((l.take k).map B3)[j]?=some v->w.cell? (a.add j)=some v:=by
 have f:0 < l.length:=by rw[ap,bf] at d;omega
 obtain⟨a,rfl,_⟩:=h.addr f;refine⟨a,rfl,λj v c=>?_⟩;rw[ay] at c;obtain⟨x,b,rfl⟩:=bh.1 c;rw[br] at b;split at b
 .obtain⟨i,e,_,g⟩:=h j x b;injection e with e;subst e;have:=g 0 (B3 x) rfl;rw[Fi,Nat.mul_one] at this;exact this
 .cases b
theorem Kk {P:Program}{ops:Array Oper}{w:World}{Q:Act->Prop}{b:List Oper}{o:Oper}{a:Act}(c:o.guard=none)(ty:TypeId)(x:Operand)(d:o.op=.load ty x)(p:Addr)(v:Value)(e:a.eval x=.pointer (some p))(f:(loadVar ty p).run P w=.ok v w)
  (h:wpStill P ops w Q b (a.put o.dst v)):wpStill P ops w Q (o::b) a:=by
 unfold wpStill;rw[dq (by simp[Region.wanted,c])];unfold Oper.still execOp;simp only[d,e,Instr.loadAt,Instr.sureAddr,Sem.run_bind,Sem.run_pure,Result.andThen_ok,f];exact⟨rfl,h⟩
def Ez (size:Nat)(a:Int)(n:Nat):Nat:=if D9 a n=true/\0 < n then max size (a.toNat+n) else size
def Ms (bl:List (Nat × List UInt8))(a:Int)(l:List UInt8):List (Nat × List UInt8):=if D9 a l.length=true then wrL l.length bl a.toNat l else bl
set_option maxRecDepth 100000 in
set_option maxHeartbeats 2000000 in
theorem Z0e {w:World}{b m size:Nat}{bl:List (Nat × List UInt8)}(h:Raw w b m size bl)(a:Int)(A:Option Addr)(c:Nat)(l:List UInt8)(hl:l.length<=maxLen)(hlc:l.length<=c)(hrd:Rd w w.heap.size 1 Ih A l) :
  Calls Tryz.prog 103 #[.pointer (some ⟨b,0,none⟩),.int .i64 a,.slice A l.length c] w
   λe w'=>e=.returned (.bool (D9 a l.length))/\Raw w' b m (Ez size a l.length) (Ms bl a l)/\Frm [b,m] w w':=by
 have HF:=aa (Ua a A l.length c hl w);generalize hn:l.length=n at *;have HN:=aa hn;clear hn;cases hf:D9 a n
 .rw[hf] at HF;have HE:=aa hf;clear hf
  go_enter Tryz.func103,Tryz.ntmps103
  go_wp2_with (go_at_call 121;(with_reducible refine HF.out.mono ?_);rintro e w1 ⟨rfl,rfl⟩)
  go_ret
  refine⟨rfl,?_,Frm.refl _ _⟩;unfold Ez Ms;rw[HN.out,HE.out];simpa using h
 .rw[hf] at HF;have HE:=aa hf;obtain⟨ha,hn1,ha1⟩:=of_decide_eq_true hf;clear hf;obtain⟨a,rfl⟩:=al ha;rcases ak n with h0 | h0
  .have hl0:l.length=0:=by rw[HN.out,h0]
   have HE0:=aa (show Ms bl a l=bl by unfold Ms;rw[hl0];split<;>rfl);have HS0:=aa (show Ez size a n=size by unfold Ez;rw[dp (by omega)]);obtain rfl:=h0
   go_enter Tryz.func103,Tryz.ntmps103
   go_wp2_with (go_at_call 121;(with_reducible refine HF.out.mono ?_);rintro e w1 ⟨rfl,rfl⟩)
   go_loopw [1,2] (λva vb wr=>va=.int .i64 (a:Int)/\vb=.slice A 0 c/\wr=w) (λ_ _ _=>0)
   case atStart=>exact⟨rfl,rfl,rfl⟩
   case round =>
    obtain⟨rfl,rfl,rfl⟩:=hrel
    go_wp2
    go_ret
    exact⟨rfl,by rw[HE0.out,HS0.out];exact h,Frm.refl _ _⟩
  .have c0:=h.c0;have f0:=h.f0 0;have hsm:=h.small;have HR:=aa (show Ms bl a l=wrL l.length bl a l by unfold Ms;rw[HN.out,HE.out];rfl);generalize hR:Ms bl a l=R at HR;have HR':=aa hR;clear hR;obtain⟨s,hs,hs1⟩:∃s,s=max size (a+n)/\s<=1048576:=⟨_,rfl,by omega⟩;have HS:=aa (show Ez size a n=s by unfold Ez;rw[dq ⟨HE.out,h0⟩,bj,hs]);obtain⟨ws,hws,hwt⟩:∃ws,(a+n<=size->w.setCell ⟨b,0,none⟩ (.int .i64 (size:Int))=ws)/\(¬a+n<=size->w.setCell ⟨b,0,none⟩ (.int .i64 ((a:Int)+(n:Int)))=ws):=by
    by_cases hm:a+n<=size
    .exact⟨_,λ_=>rfl,λh=>dt hm h⟩
    .exact⟨_,λh=>dt h hm,λ_=>rfl⟩
   have hse:w.setCell ⟨b,0,none⟩ (.int .i64 (s:Int))=ws:=by
    by_cases hm:a+n<=size
    .rw[<-hws hm,show s=size by omega]
    .rw[<-hwt hm,show s=a+n by omega];rfl
   have hRs:=h.setSize hs1;have hFs:Frm [b,m] w (w.setCell ⟨b,0,none⟩ (.int .i64 (s:Int))):=(Frm.refl _ _).setCell (.inl (by simp)) _;rw[hse] at hRs hFs;have hRd:=hrd.frm h hFs;have HRa:=aa hRs;have HFa:=aa hFs;have HDa:=aa hRd;have HWs:=aa hws;have HWt:=aa hwt;have HNS:=aa hs;clear hRs hFs hRd hws hwt hrd h hs hse;by_cases hm:a+n<=size
   all_goals
    have HM:=aa hm
    go_enter Tryz.func103,Tryz.ntmps103
    go_wp2_with (go_at_call 121;(with_reducible refine HF.out.mono ?_);rintro e w1 ⟨rfl,rfl⟩)
    first | rw[HWs.out HM.out] | rw[HWt.out HM.out]
    clear hm HM c0 f0 HWs HWt
    go_loopw [1,2] (λva vb wr=>∃(a':Nat) (r:List UInt8) (bl':List (Nat × List UInt8)) (A':Option Addr) (c':Nat),va=.int .i64 (a':Int)/\vb=.slice A' r.length c'/\wrL r.length bl' a' r=R/\a'+r.length=a+n/\r.length<=c'/\c'<=c/\Raw wr b m s bl'/\Rd wr w.heap.size 1 Ih A' r/\Frm [b,m] w wr) (λva _ _=>a+n - (intOf va).toNat)
    case atStart=>exact⟨a,l,bl,A,c,rfl,by rw[HN.out],HR.out.symm,by rw[HN.out],by rw[HN.out];exact hlc,av _,HRa.out,HDa.out,HFa.out⟩
    case round =>
     obtain⟨a',r,bl',A',c',rfl,rfl,hw,har,hrc,hcc,hRw,hRd,hFr⟩:=hrel;generalize hq:r.length=q at *;have HQ:=aa hq;have HWL:=aa hw;have HRw:=aa hRw;have HRd:=aa hRd;have HFr:=aa hFr;clear hq hw hRd hFr HRa HFa HDa;rcases ak q with hq0 | hq0
     .obtain rfl:=hq0;have HZ:=aa (show bl'=R from HWL.out);clear hRw
      go_wp2
      go_ret
      exact⟨rfl,by rw[HS.out,<-HZ.out];exact HRw.out,HFr.out⟩
     .have c1:=hRw.c1;have hl1:=Ar (P:=Tryz.prog) K64 Z7g (Hd wr) hRw.map (a' / 16);rw[La] at hl1;have hcl:=Fu hRw.full (a' / 16);have e16:N1 (a' / 16)=.int .i64 ((a':Int) / 16):=by simp[N1]
      rw[e16] at hl1;have hlt:=hRw.lt;clear hRw e16;have HL:=aa hcl;clear hcl;have HZ:=aa (show 16=((Do bl' (a' / 16)).map B3).toArray.size by rw[List.size_toArray,ap,HL.out]);have HI:=aa (show(Tryz.prog.info? 234).map (·.size)=some ((Do bl' (a' / 16)).map B3).toArray.size by rw[<-HZ.out];exact Eg);have hsz:=HFr.out.size;have hB2:Below wr.heap.size wr (wr.alloc (Obj.cells ((Do bl' (a' / 16)).map B3).toArray 234)):=(ab _ _).alloc (av _) _;have HB2:=aa hB2;have he16:a' % 16 < 16:=Nat.mod_lt _ (by omega);have hsl:=Li (wr.alloc (Obj.cells ((Do bl' (a' / 16)).map B3).toArray 234)) wr.heap.size (a' % 16) he16;rw[show((a' % 16:Nat):Int)=(a':Int) % 16 by omega] at hsl;have HRs:=aa ((HRd.out.more hsz).alloc (av _) (Obj.cells ((Do bl' (a' / 16)).map B3).toArray 234));have H2:=aa (show((r.take (16 - a' % 16)).map B3).length=Nat.min q (16 - a' % 16) by rw[ap,bf,HQ.out];show min _ _=min _ _;omega);have H4:=aa (show a' % 16+((r.take (16 - a' % 16)).map B3).length<=((Do bl' (a' / 16)).map B3).length by rw[H2.out,ap,HL.out];show _+min _ _<=_;omega);have H5:=aa (show ∀v∈(r.take (16 - a' % 16)).map B3,v.oneCell'=true by intro v hv;obtain⟨x,_,rfl⟩:=bk.1 hv;rfl);clear hB2 he16
      go_wp2_with (first | (refine As rfl 234 (.tmp 9) (.tmp 42) rfl wr _ _ _ rfl rfl HZ.out HI.out (E0 _) ?_) | (refine wpList_copy_splice rfl (.tmp 44) (.tmp 45) 100 100 rfl 5 Tryz.underlying100 (by kernel_rfl) (some ⟨wr.heap.size,a' % 16,none⟩) A' (16 - a' % 16) (16 - a' % 16) q c' rfl rfl wr.heap.size (a' % 16) ((Do bl' (a' / 16)).map B3) 234 (heap_alloc_new wr _) ((r.take (16 - a' % 16)).map B3) H2.out (λh=>⟨rfl,HRs.out.src _ h⟩) H4.out H5.out wr.heap.size wr HB2.out (av _) ?_))
      intro w2 hc2 hb2;obtain⟨j,hj⟩:∃j,j=min q (16 - a' % 16):=⟨_,rfl⟩;have hj1:j<=q:=by omega
      have hj2:0 < j:=by omega
      have hlen:min (16 - a' % 16) r.length=j:=by rw[HQ.out];omega
      rw[hlen];have HJ:=aa hj;clear hlen hj hsl hl1;have hnb:w2.heap[wr.heap.size]?=some (.cells ((splice (Do bl' (a' / 16)) (a' % 16) (r.take (16 - a' % 16))).map B3).toArray 234 (0,0)):=by rw[hc2.out,<-K0,de]
      clear hc2;have hnl:(splice (Do bl' (a' / 16)) (a' % 16) (r.take (16 - a' % 16))).length=16:=by have:=H4.out;rw[ap,ap] at this;rw[length_splice _ _ _ this,HL.out]
      have HU:=aa (show wr1 bl' a' r=Gy bl' (a' / 16) (splice (Do bl' (a' / 16)) (a' % 16) (r.take (16 - a' % 16))) from rfl);generalize splice (Do bl' (a' / 16)) (a' % 16) (r.take (16 - a' % 16))=nb at hnb hnl HU;have hld:=run_loadVar_row (P:=Tryz.prog) {heap:=w2.heap,tape:=w2.tape,drawn:=w2.drawn+1,os:=w2.os,output:=w2.output} wr.heap.size 234 234 _ _ _ hnb Tryz.underlying234 rfl (by rw[List.size_toArray,ap,hnl];exact Eg);have HNL:=aa hnl;clear hnl hnb HB2 HRs H2 H4 H5 HZ HI;have hR2:=HRw.out.below hb2;have c1':=hR2.c1;have HR2:=aa hR2;have HB3:=aa hb2;clear c1 hR2 hb2
      go_wp2
      go_still_tail 6,(by kernel_rfl)
      refine Kk rfl 234 (.tmp 9) rfl ⟨wr.heap.size,0,none⟩ _ rfl hld ?_;refine wpStill_nil ?_
      change wpList _ _ _ _ _ w2.drew
      have hR3:Raw w2.drew b m s bl':=HR2.out.keep rfl rfl;have HF3:=aa (show Frm [b,m] w w2.drew from(HFr.out.trans (Frm.of_below HB3.out)).drew);have HD3:=aa (show Rd w2.drew w.heap.size 1 Ih A' r from(HRd.out.keep λp hp=>HB3.out.cell (bd hp hsz)).drew);clear HR2 HB3 c1' HRw HFr HRd;generalize w2.drew=w3 at *;have HR3:=aa hR3;obtain⟨o,hup,hmp⟩:=Am (P:=Tryz.prog) K64 Z7g hR3.map (a' / 16) nb;rw[show N1 (a' / 16)=.int .i64 ((a':Int) / 16) by simp[N1]] at hup
      change (Instr.mapUpdate _ _ _ (.agg (nb.map B3).toArray)).run _ _=_ at hup
      have HMP:=aa hmp;clear hmp hR3 hld
      go_wp2
      have hF4:Frm [b,m] w3 (putObj w3 m o):=(Frm.refl _ _).putObj (.inl (by simp)) o;have HF4:=aa (HF3.out.trans hF4);have HD4:=aa (HD3.out.frm HR3.out hF4);have HN4:=aa (show Raw (putObj w3 m o) b m s (wr1 bl' a' r) from⟨(A9 w3 o HR3.out.ne).trans HR3.out.head,by rw[HU.out];exact HMP.out,P1 HR3.out.full a' r,HR3.out.small,Z3r HR3.out.keys (by omega) r⟩);clear hF4 HF3 HD3 HR3 HMP hup;generalize putObj w3 m o=w4 at *
      go_wp2
      go_quiet (fail)
      have HDc:=(HD4.out.cut (k:=j) (cap:=c') (by rw[HQ.out];exact hrc));generalize (if c'=j then A' else A'.map (·.add j))=Ap at *;have HDd:=aa HDc;clear HDc HD4;have hdr:r.drop (16 - a' % 16)=r.drop j:=by
       have h1:=HJ.out;have h2:=HQ.out;rcases Nat.lt_or_ge q (16 - a' % 16) with h3 | h3
       .rw[dl (by omega),dl (by omega)]
       .rw[show j=16 - a' % 16 by omega]
      have hst:=Z5y (by rw[HQ.out];exact hq0) (show wrL r.length bl' a' r=R by rw[HQ.out];exact HWL.out);rw[hdr,HQ.out,<-HJ.out] at hst;have HST:=aa hst;have HLD:=aa (show(r.drop j).length=q - j by rw[bm,HQ.out]);clear hdr hst
      go_wp2
      go_roundw
      case rel=>exact⟨a'+j,r.drop j,wr1 bl' a' r,Ap,c' - j,by go_num,by rw[HLD.out],HST.out,by rw[HLD.out];omega,by rw[HLD.out];omega,by omega,HN4.out.keep rfl rfl,HDd.out,⟨HF4.out.os,HF4.out.tape,HF4.out.output,HF4.out.size,HF4.out.block⟩⟩
      case measure=>simp[intOf];omega
theorem Z8d (w:World):(zeroValue 5).run Tryz.prog w=.ok (.int .u8 0) w:=by kernel_rfl
theorem Oy (v:Value)(n:Nat):(Builtin.zeroCells #[v] n).toList=List.replicate n v:=by
 apply cy;intro i;rw[Array.getElem?_toList];unfold Builtin.zeroCells;rw[Array.getElem?_map,List.getElem?_replicate];by_cases h:i < n
 .rw[am (by simpa using h)];simp[h];rw[Nat.mod_one];rfl
 .rw[Array.getElem?_eq_none (by simp;omega)];simp[h]
theorem Kw {P:Program}{ops:Array Oper}{c:List Oper}{o:Oper}{a:Act}{Q:Exit->Act->World->Prop}(l:o.guard=none)(d:Operand)(m:TypeId)(p:o.op=.call {callee:=.builtin .clear,args:=#[d],argTypes:=#[m]})
  (elem:TypeId) (j:P.underlying m=some (.slice elem)) (w:World) (v:Value) (q:∀w,(zeroValue elem).run P w=.ok v w) (r:v.cells=#[v]) (i:v.oneCell'=true) (off n cap:Nat) (x:0 < n) (hd:a.eval d=.slice (some ⟨w.heap.size,off,none⟩) n cap)
  (b:List Value) (t:TypeId) (g:off+n<=b.length)
  (h:wpList P ops Q c (a.put o.dst (.tuple #[])) (w.alloc (.cells (splice b off (List.replicate n v)).toArray t))):wpList P ops Q (o::c) a (w.alloc (.cells b.toArray t)):=by
 refine wpList_plain l λK s=>?_;have f:=run_storeCells_at P w.heap.size off t (List.replicate n v) 0 b.toArray (w.alloc (.cells b.toArray t)) (heap_alloc_new w _) (by simpa using g) (λu j=>by rw[(List.mem_replicate.1 j).2];exact i);rw[Nx] at f;have e:(Builtin.clear_ #[m] o.type #[.slice (some ⟨w.heap.size,off,none⟩) n cap]).run P (w.alloc (.cells b.toArray t))=.ok (.tuple #[]) (w.alloc (.cells (splice b off (List.replicate n v)).toArray t)):=by obtain⟨n,rfl⟩:∃k,n=k+1:=⟨n - 1,by omega⟩;simp[Builtin.clear_,run_underlying j,q,r,Oy,f,splice]
 unfold Oper.wp;simp[execOp,p,resolve,invoke,builtin,hd,e,Result.andThen];exact s _ _ h
theorem Qf (w:World)(g f t:Nat)(b:f < t)(c:t<=16):(Instr.sliceAt 234 (.pointer (some ⟨g,0,none⟩)) (some (.int .i64 (f:Int))) (some (.int .i64 (t:Int))) none).run Tryz.prog w=.ok (.slice (some ⟨g,f,none⟩) (t - f) (16 - f)) w:=by
 have ha:Tryz.prog.arrayLen 234=16:=by kernel_rfl
 rw[run_sliceAt_array_lh w 234 ⟨g,0,none⟩ (by kernel_rfl) .i64 .i64 (f:Int) (t:Int) (by omega) (by omega) (by rw[ha];omega)];have a:(sizeOf (Tryz.prog.elem 234)).run Tryz.prog w=.ok 1 w:=by kernel_rfl
 rw[a,ha];simp only[Result.andThen_ok,slicedAt,Int.toNat_natCast,Nat.mul_one];rw[dp (by omega)];have:Addr.add ⟨g,0,none⟩ f=⟨g,f,none⟩:=by unfold Addr.add;split<;>simp_all
 rw[this]
def zr1 (bl:List (Nat × List UInt8))(k f t:Nat):List (Nat × List UInt8):=match Az bl k with
 | none=>bl
 | some v=>if t<=f then bl else if f=0/\t=16 then Hq bl k else Gy bl k (splice v f (List.replicate (t - f) 0))
set_option maxRecDepth 100000 in
set_option maxHeartbeats 2000000 in
theorem Z57 {w:World}{b m size:Nat}{bl:List (Nat × List UInt8)}(h:Raw w b m size bl)(k f t:Nat)(hk:k < 65536)(hf:f<=16)(ht:t<=16) :
  Calls Tryz.prog 144 #[.pointer (some ⟨b,0,none⟩),.int .i64 (k:Int),.int .i64 (f:Int),.int .i64 (t:Int)] w
   λe w'=>e=.returned (.tuple #[])/\Raw w' b m size (zr1 bl k f t)/\Frm [b,m] w w':=by
 have c1:=h.c1;have hl:=Ca (P:=Tryz.prog) K64 Z7g (Hd w) h.map k;rw[La] at hl;have HL:=aa (Fu h.full k);unfold N1 at hl;have HH:=aa h;have HZ:=aa (show 16=((Do bl k).map B3).toArray.size by rw[List.size_toArray,ap,HL.out]);have HI:=aa (show(Tryz.prog.info? 234).map (·.size)=some ((Do bl k).map B3).toArray.size by rw[<-HZ.out];exact Eg);have hba:Below w.heap.size w (w.alloc (.cells ((Do bl k).map B3).toArray 234)):=(ab _ _).alloc (av _) _;have HB:=aa hba;clear hba;cases hg:Az bl k with
 | none =>
  rw[hg] at hl;have HC:=aa hg;clear hg h
  go_enter Tryz.func144,Tryz.ntmps144
  go_wp2_with (refine As rfl 234 (.tmp 8) (.tmp 17) rfl w _ _ _ rfl rfl HZ.out HI.out (E0 _) ?_)
  ((try simp only[Exit.inBlock,Exit.then]);first | refine bodyPost_ret (results_none rfl _ _ _) rfl ?_ | refine bodyPost_end (results_none rfl _ _ _) rfl ?_)
  exact⟨rfl,by unfold zr1;rw[HC.out];exact HH.out.below HB.out,Frm.of_below HB.out⟩
 | some v =>
  rw[hg] at hl;have HC:=aa hg;clear hg h;by_cases hft:t<=f
  .have t1:decide ((t:Int)<=(f:Int))=true:=by rw[decide_eq_true_eq];omega
   go_enter Tryz.func144,Tryz.ntmps144
   go_wp2_with (refine As rfl 234 (.tmp 8) (.tmp 17) rfl w _ _ _ rfl rfl HZ.out HI.out (E0 _) ?_)
   ((try simp only[Exit.inBlock,Exit.then]);first | refine bodyPost_ret (results_none rfl _ _ _) rfl ?_ | refine bodyPost_end (results_none rfl _ _ _) rfl ?_)
   exact⟨rfl,by unfold zr1;rw[HC.out];simp only[if_pos hft];exact HH.out.below HB.out,Frm.of_below HB.out⟩
  .have t1:decide ((t:Int)<=(f:Int))=false:=by rw[decide_eq_false_iff_not];omega
   by_cases hall:f=0/\t=16
   .obtain⟨rfl,rfl⟩:=hall;have hRa:=HH.out.below HB.out;have c1':=hRa.c1;obtain⟨o,hdel,hmp⟩:=C0 (P:=Tryz.prog) (ty:=0) (tk:=3) K64 Z7g hRa.map k;unfold N1 at hdel;have HR:=aa (show Raw (putObj (w.alloc (.cells ((Do bl k).map B3).toArray 234)) m o) b m size (Hq bl k) from⟨(A9 _ o hRa.ne).trans hRa.head,hmp,λp hp=>hRa.full p (af.1 hp |>.1),hRa.small,λp hp=>hRa.keys p (af.1 hp |>.1)⟩);have HF:=aa (show Frm [b,m] w (putObj (w.alloc (.cells ((Do bl k).map B3).toArray 234)) m o) from(Frm.of_below HB.out).putObj (.inl (by simp)) o);clear hRa hmp
    go_enter Tryz.func144,Tryz.ntmps144
    go_wp2_with (refine As rfl 234 (.tmp 8) (.tmp 17) rfl w _ _ _ rfl rfl HZ.out HI.out (E0 _) ?_)
    ((try simp only[Exit.inBlock,Exit.then]);first | refine bodyPost_ret (results_none rfl _ _ _) rfl ?_ | refine bodyPost_end (results_none rfl _ _ _) rfl ?_)
    exact⟨rfl,by unfold zr1;rw[HC.out];exact HR.out,HF.out⟩
   .have hft':f < t:=by omega
    have hcv:Do bl k=v:=by unfold Do;rw[HC.out];rfl
    have hvl:v.length=16:=by rw[<-hcv];exact HL.out
    have HV:=aa hvl;have HCV:=aa hcv;have hsl:=Qf (w.alloc (.cells ((Do bl k).map B3).toArray 234)) w.heap.size f t hft' ht;have H0:=aa (show 0 < t - f by omega);have H1:=aa (show f+(t - f)<=((Do bl k).map B3).length by rw[ap,HL.out];omega);have H2:=aa (show splice ((Do bl k).map B3) f (List.replicate (t - f) (.int .u8 0))=(splice v f (List.replicate (t - f) 0)).map B3 by rw[hcv,<-K0,List.map_replicate];rfl);have H3:=aa (show zr1 bl k f t=Gy bl k (splice v f (List.replicate (t - f) 0)) by unfold zr1;rw[HC.out];simp only[if_neg hft,if_neg hall]);have H4:=aa (show(splice v f (List.replicate (t - f) (0:UInt8))).length=16 by rw[length_splice _ _ _ (by rw[List.length_replicate,hvl];omega),hvl]);clear hft' hcv hvl;have t23:((f:Int)==0)=false\/((f:Int)==0)=true/\((t:Int)==16)=false:=by rw[beq_eq_false_iff_ne,beq_eq_false_iff_ne,beq_iff_eq];omega
    clear hall hf ht;rcases t23 with t2 | ⟨t2,t3⟩
    all_goals
     go_enter Tryz.func144,Tryz.ntmps144
     go_wp2_with (first | (refine As rfl 234 (.tmp 8) (.tmp 17) rfl w _ _ _ rfl rfl HZ.out HI.out (E0 _) ?_) | (refine Kw rfl (.tmp 41) 100 rfl 5 Tryz.underlying100 w (.int .u8 0) Z8d rfl rfl f (t - f) (16 - f) H0.out rfl _ _ H1.out ?_))
     rw[H2.out];clear hsl hl;have HR2:=aa (HH.out.below ((ab w.heap.size w).alloc (av _) (.cells ((splice v f (List.replicate (t - f) (0:UInt8))).map B3).toArray 234)));have HF2:=aa (show Frm [b,m] w (w.alloc (.cells ((splice v f (List.replicate (t - f) (0:UInt8))).map B3).toArray 234)) from Frm.of_below ((ab w.heap.size w).alloc (av _) _));have HHG:=aa (heap_alloc_new w (.cells ((splice v f (List.replicate (t - f) (0:UInt8))).map B3).toArray 234));clear H1 H2 HZ HI HB HL;generalize splice v f (List.replicate (t - f) (0:UInt8))=nb at *;generalize w.alloc (.cells (nb.map B3).toArray 234)=w2 at *;have hld:=run_loadVar_row (P:=Tryz.prog) {heap:=w2.heap,tape:=w2.tape,drawn:=w2.drawn+1,os:=w2.os,output:=w2.output} w.heap.size 234 234 _ _ _ HHG.out Tryz.underlying234 rfl (by rw[List.size_toArray,ap,H4.out];exact Eg);have c1':=HR2.out.c1
     go_wp2
     go_still_tail 6,(by kernel_rfl)
     refine Kk rfl 234 (.tmp 8) rfl ⟨w.heap.size,0,none⟩ _ rfl hld ?_;refine wpStill_nil ?_
     change wpList _ _ _ _ _ w2.drew
     have hR3:Raw w2.drew b m size bl:=HR2.out.keep rfl rfl;have hF3:Frm [b,m] w w2.drew:=HF2.out.drew;clear HR2 HF2 c1' hld;generalize w2.drew=w3 at *;obtain⟨o,hup,hmp⟩:=Am (P:=Tryz.prog) K64 Z7g hR3.map k nb
     change (Instr.mapUpdate _ _ _ (.agg (nb.map B3).toArray)).run _ _=_ at hup
     unfold N1 at hup;have HR3:=aa (show Raw (putObj w3 m o) b m size (Gy bl k nb) from⟨(A9 _ o hR3.ne).trans hR3.head,hmp,λp hp=>by
      rcases I5 hp with hp | rfl
      .exact hR3.full p hp
      .exact H4.out,hR3.small,λp hp=>by
      rcases I5 hp with hp | rfl
      .exact hR3.keys p hp
      .exact hk⟩)
     have HF3:=aa (show Frm [b,m] w (putObj w3 m o) from hF3.putObj (.inl (by simp)) o);clear hR3 hF3 hmp
     go_wp2
     ((try simp only[Exit.inBlock,Exit.then]);first | refine bodyPost_ret (results_none rfl _ _ _) rfl ?_ | refine bodyPost_end (results_none rfl _ _ _) rfl ?_)
     exact⟨rfl,by rw[H3.out];exact HR3.out,HF3.out⟩
def G4 (n:Nat):Nat:=(n+15) / 16 * 16
set_option maxHeartbeats 400000 in
theorem Z7 (n:Nat)(hn:n<=1048576)(w:World):Calls Tryz.prog 123 #[.int .i64 (n:Int)] w λe w'=>e=.returned (.int .i64 (G4 n:Nat))/\w=w':=by
 go_enter Tryz.func123,Tryz.ntmps123
 go_wp2
 go_ret
 exact⟨Kh (by unfold G4;omega),rfl⟩
end Go.Proofs.YtmmdikhljefeiaaGreat
