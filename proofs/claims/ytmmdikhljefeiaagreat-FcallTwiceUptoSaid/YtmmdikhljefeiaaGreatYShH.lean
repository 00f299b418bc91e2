
import Derived.Test.YtmmdikhljefeiaaGreatSB
import Derived.Deep.RegionLaw
namespace Go.Proofs.YtmmdikhljefeiaaGreat
open Go.RowKit Go.MapKept
def Cj (bl:List (Nat × List UInt8))(i:Nat):UInt8:=(Do bl (i / 16)).getD (i % 16) 0
def Iw (bl:List (Nat × List UInt8))(a n:Nat):List UInt8:=(List.range n).map λi=>Cj bl (a+i)
theorem Gv (bl:List (Nat × List UInt8))(a n:Nat):(Iw bl a n).length=n:=by simp[Iw]
def O6 (bl:List (Nat × List UInt8))(a n d:Nat):List UInt8:=Iw bl a d++List.replicate (n - d) 0
theorem Z49 (bl:List (Nat × List UInt8))(a n d:Nat)(h:d<=n):(O6 bl a n d).length=n:=by simp[O6,Gv];omega
theorem Z5r (bl:List (Nat × List UInt8))(a n:Nat):O6 bl a n n=Iw bl a n:=by simp[O6]
theorem Z0p {bl:List (Nat × List UInt8)}(c:∀p∈bl,p.2.length=16)(a n d:Nat)(h:d < n) :
  splice (O6 bl a n d) d (((Do bl ((a+d) / 16)).drop ((a+d) % 16)).take (n - d))=O6 bl a n (d+min (n - d) (16 - (a+d) % 16)):=by
 have g:=Fu c ((a+d) / 16);have b:(((Do bl ((a+d) / 16)).drop ((a+d) % 16)).take (n - d))=(List.range (min (n - d) (16 - (a+d) % 16))).map λi=>Cj bl (a+(d+i)):=by
  apply cy;intro i;rw[br,ce,ay];by_cases e:i < min (n - d) (16 - (a+d) % 16)
  .rw[dq (by omega),cz e];simp only[Option.map_some];unfold Cj;rw[show(a+(d+i)) / 16=(a+d) / 16 by omega,show(a+(d+i)) % 16=(a+d) % 16+i by omega,List.getD_eq_getElem?_getD,aq (by omega)];rfl
  .rw[cm (l:=List.range _) (by simp;omega)];split
   .rw[cm (by omega)];rfl
   .rfl
 generalize f:min (n - d) (16 - (a+d) % 16)=j at *;rw[b];unfold splice O6;rw[ap,List.length_range,List.take_left' (Gv _ _ _),List.drop_append,Gv,dl (by rw[Gv];omega),dj,List.drop_replicate];have hr:Iw bl a (d+j)=Iw bl a d++(List.range j).map λi=>Cj bl (a+(d+i)):=by unfold Iw;rw[List.range_add,ba,List.map_map];rfl
 rw[hr,cf,show n - d - (d+j - d)=n - (d+j) by omega]
theorem Xf (N:Nat)(L:List UInt8)(a:L=List.replicate N 0):madeCells #[Value.int .u8 0] N=(L.map B3).toArray:=by apply Array.toList_inj.1;rw[toList_madeCells_one,a,List.map_replicate];rfl
set_option maxRecDepth 100000 in
theorem O0 (w:World)(N:Nat)(j:N<=1048576)(X:Int)(h:X=N)(L:List UInt8)(c:L=List.replicate N 0) :
  (Instr.makeSlice 100 (.int .i64 X) (.int .i64 X)).run Tryz.prog w=.ok (.slice (some ⟨w.heap.size,0,none⟩) N N) (w.alloc (.cells (L.map B3).toArray 5)):=by
 subst h;have f:(Tryz.prog.info? 5).map (λi=>(i.size,i.bytes,i.zero))=some (1,1,some (.int .u8 0)):=by kernel_rfl
 obtain⟨i,e,b⟩:=bh.1 f;simp only[Prod.mk.injEq] at b;obtain⟨a,g,d⟩:=b;rw[run_makeSlice w 100 5 i (.int .u8 0) Tryz.underlying100 e d .i64 .i64 N N (by omega) (by omega) (by rw[a,bj];omega) (by rw[g];omega) (by omega)];rw[a,bj,Nat.mul_one,<-Xf N L c];rfl
theorem Wm (n:Nat)(h:n<=1048576){x:Int}(a:x=(n:Int):=by push_cast;rfl):IntKind.i64.wrap x=(n:Int):=by subst a;rw[IntKind.wrap_i64];omega
def N8 (size:Nat)(a n:Int):Bool:=decide (0<=a/\0<=n/\a < size)
set_option maxRecDepth 100000 in
set_option maxHeartbeats 2000000 in
theorem Z5t {w:World}{b m size:Nat}{bl:List (Nat × List UInt8)}(h:Raw w b m size bl)(a n:Int) :
  Calls Tryz.prog 105 #[.pointer (some ⟨b,0,none⟩),.int .i64 a,.int .i64 n] w
   λe w'=>(N8 size a n=false->e=.returned (.slice none 0 0))/\(N8 size a n=true->∃g,w.heap.size<=g/\e=.returned (.slice (some ⟨g,0,none⟩) (min n.toNat (size - a.toNat)) (min n.toNat (size - a.toNat))) /\
    w'.heap[g]?=some (.cells ((Iw bl a.toNat (min n.toNat (size - a.toNat))).map B3).toArray 5 (0,0)))/\Below w.heap.size w w':=by
 have c0:=h.c0;have HH:=aa h;have hs:=h.small;cases hf:N8 size a n
 .have t0:=of_decide_eq_false hf;have t1:decide (a < 0)=true\/decide (a < 0)=false/\(decide (n < 0)=true\/decide (n < 0)=false/\decide ((size:Int)<=a)=true):=by
   simp only[decide_eq_true_eq,decide_eq_false_iff_not];omega
  clear t0 hf h;rcases t1 with t1 | ⟨t1,t2 | ⟨t2,t3⟩⟩
  all_goals
   go_enter Tryz.func105,Tryz.ntmps105
   go_wp2
   go_ret
   exact⟨λ_=>rfl,by simp,ab _ _⟩
 .obtain⟨h0,h1,h2⟩:=of_decide_eq_true hf;obtain⟨n,rfl⟩:=al h1;obtain⟨a,rfl⟩:=al h0;have has:a < size:=by omega
  have t1:decide ((a:Int) < 0)=false:=by rw[decide_eq_false_iff_not];omega
  have t2:decide ((n:Int) < 0)=false:=by rw[decide_eq_false_iff_not];omega
  have t3:decide (size<=a)=false:=by rw[decide_eq_false_iff_not];omega
  rw[bj,bj];obtain⟨N,hN⟩:∃N,min n (size - a)=N:=⟨_,rfl⟩;have HN:=aa hN;have hmin:min (n:Int) ((size:Int) - (a:Int))=(N:Int):=by omega
  rw[hN];have HOk:=aa hf;clear hf h h0 h1 h2 hN;have hN1:N<=1048576:=by omega
  have hm1:=λhX=>O0 w N hN1 (n:Int) hX (O6 bl a N 0) (by simp[O6,Iw]);have hm2:=λhX=>O0 w N hN1 ((size:Int) - (a:Int)) hX (O6 bl a N 0) (by simp[O6,Iw]);have hcase:(n:Int)<=(size:Int) - (a:Int)/\(n:Int)=(N:Int)\/(size:Int) - (a:Int) < (n:Int)/\(size:Int) - (a:Int)=(N:Int):=by omega
  clear hmin;have HR0:=aa (heap_alloc_new w (.cells ((O6 bl a N 0).map B3).toArray 5));have HB0:=aa (show Below w.heap.size w (w.alloc (.cells ((O6 bl a N 0).map B3).toArray 5)) from(ab _ _).alloc (av _) _);have hNs:a+N<=size:=by omega
  rcases hcase with⟨h3,h4⟩ | ⟨h3,h4⟩
  all_goals
   have hm3:=by first | exact hm1 h4 | exact hm2 h4
   clear hm1 hm2 h4
   go_enter Tryz.func105,Tryz.ntmps105
   go_wp2
   clear hm3 h3 c0 t1 t2 t3;generalize w.alloc (.cells ((O6 bl a N 0).map B3).toArray 5)=w1 at *
   go_loopw [8] (λvd wr=>∃d:Nat,d<=N/\vd=.int .i64 (d:Int)/\wr.heap[w.heap.size]?=some (.cells ((O6 bl a N d).map B3).toArray 5 (0,0))/\Below w.heap.size w wr) (λvd _=>N - (intOf vd).toNat)
   case atStart=>exact⟨0,aw _,rfl,HR0.out,HB0.out⟩
   case round =>
    obtain⟨d,hd,rfl,hrow,hbr⟩:=hrel;have HRow:=aa hrow;have HBr:=aa hbr;clear hrow hbr HR0 HB0;by_cases hlt:d < N
    .have hRw:=HH.out.below HBr.out;have c1:=hRw.c1;have hl1:=Ar (P:=Tryz.prog) K64 Z7g (Hd wr) hRw.map ((a+d) / 16);rw[La] at hl1;have HL:=aa (Fu hRw.full ((a+d) / 16));rw[show N1 ((a+d) / 16)=.int .i64 (((a:Int)+(d:Int)) / 16) by simp[N1]] at hl1;have HZ:=aa (show 16=((Do bl ((a+d) / 16)).map B3).toArray.size by rw[List.size_toArray,ap,HL.out]);have HI:=aa (show(Tryz.prog.info? 234).map (·.size)=some ((Do bl ((a+d) / 16)).map B3).toArray.size by rw[<-HZ.out];exact Eg);have hgs:w.heap.size < wr.heap.size:=(bz.1 HRow.out).1;clear hRw
     go_wp2_with (refine As rfl 234 (.tmp 11) (.tmp 52) rfl wr _ _ _ rfl rfl HZ.out HI.out (E0 _) ?_)
     have hB2:Below w.heap.size w (wr.alloc (.cells ((Do bl ((a+d) / 16)).map B3).toArray 234)).drew:=(HBr.out.alloc (Nat.le_of_lt hgs) _).drew;have hG2:(wr.alloc (.cells ((Do bl ((a+d) / 16)).map B3).toArray 234)).drew.heap[w.heap.size]?=some (.cells ((O6 bl a N d).map B3).toArray 5 (0,0)):=(ae _ _ _ hgs).trans HRow.out;have hX2:(wr.alloc (.cells ((Do bl ((a+d) / 16)).map B3).toArray 234)).drew.heap[wr.heap.size]?=some (.cells ((Do bl ((a+d) / 16)).map B3).toArray 234 (0,0)):=heap_alloc_new wr _;have HB2:=aa hB2;have HG2:=aa hG2;have HX2:=aa hX2;have hsl:=Li (wr.alloc (.cells ((Do bl ((a+d) / 16)).map B3).toArray 234)).drew wr.heap.size ((a+d) % 16) (Nat.mod_lt _ (by omega));rw[show(((a+d) % 16:Nat):Int)=((a:Int)+(d:Int)) % 16 by omega] at hsl;clear hB2 hG2 hX2 hl1;generalize wr.alloc (.cells ((Do bl ((a+d) / 16)).map B3).toArray 234)=w2 at *;have H1:=aa (show((((Do bl ((a+d) / 16)).drop ((a+d) % 16)).take (N - d)).map B3).length=Nat.min (16 - (a+d) % 16) (N - d) by rw[ap,bf,bm,HL.out];show min _ _=min _ _;omega);have H2:=aa (show d+((((Do bl ((a+d) / 16)).drop ((a+d) % 16)).take (N - d)).map B3).length<=((O6 bl a N d).map B3).length by rw[H1.out,ap,Z49 _ _ _ _ hd];show _+min _ _<=_;omega);have H3:=aa (show ∀v∈(((Do bl ((a+d) / 16)).drop ((a+d) % 16)).take (N - d)).map B3,v.oneCell'=true by intro v hv;obtain⟨x,_,rfl⟩:=bk.1 hv;rfl);have H4:=aa (show ∀j v,((((Do bl ((a+d) / 16)).drop ((a+d) % 16)).take (N - d)).map B3)[j]?=some v->w2.drew.cell? (Addr.add ⟨wr.heap.size,(a+d) % 16,none⟩ j)=some v from λj v hv=>by
      have e:Addr.add ⟨wr.heap.size,(a+d) % 16,none⟩ j=⟨wr.heap.size,(a+d) % 16+j,none⟩:=by unfold Addr.add;split<;>simp_all
      rw[e,A1 HX2.out];rw[ay,br] at hv;split at hv
      .rw[ce] at hv;simpa using hv
      .cases hv)
     have HNd:=aa (show ¬N=d by omega);have H6:=aa (Z0p HH.out.full a N d hlt)
     go_region_law (refine step_copy_splice rfl (.tmp 56) (.tmp 58) 100 100 rfl 5 Tryz.underlying100 (by kernel_rfl) (if N=d then some ⟨w.heap.size,0,none⟩ else some ⟨w.heap.size,d,none⟩) (some ⟨wr.heap.size,(a+d) % 16,none⟩) (N - d) (N - d) (16 - (a+d) % 16) (16 - (a+d) % 16) rfl rfl w.heap.size d ((O6 bl a N d).map B3) 5 HG2.out ((((Do bl ((a+d) / 16)).drop ((a+d) % 16)).take (N - d)).map B3) H1.out (λ_=>⟨dp HNd.out,_,rfl,H4.out⟩) H2.out H3.out w.heap.size w HB2.out (av _) ?_;intro w4 hg4 hb4)
     obtain⟨j,hj⟩:∃j,min (N - d) (16 - (a+d) % 16)=j:=⟨_,rfl⟩;have hjm:min (N - d) ((Do bl ((a+d) / 16)).length - (a+d) % 16)=j:=by rw[HL.out];exact hj
     have hwr:IntKind.i64.wrap ((d:Int)+(j:Int))=((d+j:Nat):Int):=Wm (d+j) (by omega);rw[hjm,hwr];have hj1:d+j<=N:=by omega
     have hj2:0 < j:=by omega
     have HR4:=aa (show w4.heap[w.heap.size]?=some (.cells ((O6 bl a N (d+j)).map B3).toArray 5 (0,0)) by rw[hg4.out,K0,H6.out,hj]);have HB4:=aa hb4;clear hj hjm hwr hg4 hb4 H1 H2 H3 H4 H6 HNd HB2 HG2 HX2 hsl
     go_wp2
     go_roundw
     case rel=>exact⟨d+j,hj1,rfl,HR4.out,HB4.out⟩
     case measure=>simp[intOf];omega
    .have hdN:d=N:=by omega
     have HE:=aa (show(O6 bl a N d)=Iw bl a N by rw[hdN];exact Z5r bl a N);clear hdN
     go_wp2
     go_ret
     exact⟨λh=>(by cases h),λ_=>⟨w.heap.size,av _,rfl,by rw[<-HE.out];exact HRow.out⟩,HBr.out⟩
end Go.Proofs.YtmmdikhljefeiaaGreat
