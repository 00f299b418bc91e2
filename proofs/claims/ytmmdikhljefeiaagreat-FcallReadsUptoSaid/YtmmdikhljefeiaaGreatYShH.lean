
import Derived.Test.YtmmdikhljefeiaaGreatSB
import Derived.Deep.RegionLaw
namespace Go.Proofs.YtmmdikhljefeiaaGreat
open Go.RowKit Go.MapKept
def Ck (bl:List (Nat × List UInt8))(i:Nat):UInt8:=(Dp bl (i / 16)).getD (i % 16) 0
def Iu (bl:List (Nat × List UInt8))(a n:Nat):List UInt8:=(List.range n).map λi=>Ck bl (a+i)
theorem Gc (bl:List (Nat × List UInt8))(a n:Nat):(Iu bl a n).length=n:=by simp[Iu]
def Nw (bl:List (Nat × List UInt8))(a n d:Nat):List UInt8:=Iu bl a d++List.replicate (n - d) 0
theorem Z4l (bl:List (Nat × List UInt8))(a n d:Nat)(h:d<=n):(Nw bl a n d).length=n:=by simp[Nw,Gc];omega
theorem Z6j (bl:List (Nat × List UInt8))(a n:Nat):Nw bl a n n=Iu bl a n:=by simp[Nw]
theorem Z1z {bl:List (Nat × List UInt8)}(c:∀p∈bl,p.2.length=16)(a n d:Nat)(h:d < n) :
  splice (Nw bl a n d) d (((Dp bl ((a+d) / 16)).drop ((a+d) % 16)).take (n - d))=Nw bl a n (d+min (n - d) (16 - (a+d) % 16)):=by
 have g:=Fx c ((a+d) / 16);have b:(((Dp bl ((a+d) / 16)).drop ((a+d) % 16)).take (n - d))=(List.range (min (n - d) (16 - (a+d) % 16))).map λi=>Ck bl (a+(d+i)):=by
  apply cz;intro i;rw[br,cf,ax];by_cases e:i < min (n - d) (16 - (a+d) % 16)
  .rw[dt (by omega),da e];simp only[Option.map_some];unfold Ck;rw[show(a+(d+i)) / 16=(a+d) / 16 by omega,show(a+(d+i)) % 16=(a+d) % 16+i by omega,List.getD_eq_getElem?_getD,ap (by omega)];rfl
  .rw[cn (l:=List.range _) (by simp;omega)];split
   .rw[cn (by omega)];rfl
   .rfl
 generalize f:min (n - d) (16 - (a+d) % 16)=j at *;rw[b];unfold splice Nw;rw[ao,List.length_range,List.take_left' (Gc _ _ _),List.drop_append,Gc,dm (by rw[Gc];omega),dk,List.drop_replicate];have hr:Iu bl a (d+j)=Iu bl a d++(List.range j).map λi=>Ck bl (a+(d+i)):=by unfold Iu;rw[List.range_add,az,List.map_map];rfl
 rw[hr,cg,show n - d - (d+j - d)=n - (d+j) by omega]
theorem Wt (N:Nat)(L:List UInt8)(a:L=List.replicate N 0):madeCells #[Value.int .u8 0] N=(L.map B3).toArray:=by apply Array.toList_inj.1;rw[toList_madeCells_one,a,List.map_replicate];rfl
set_option maxRecDepth 100000 in
theorem Od (w:World)(N:Nat)(j:N<=1048576)(X:Int)(g:X=N)(L:List UInt8)(f:L=List.replicate N 0) :
  (Instr.makeSlice 100 (.int .i64 X) (.int .i64 X)).run Tryz.prog w=.ok (.slice (some ⟨w.heap.size,0,none⟩) N N) (w.alloc (.cells (L.map B3).toArray 5)):=by
 subst g;have e:(Tryz.prog.info? 5).map (λi=>(i.size,i.bytes,i.zero))=some (1,1,some (.int .u8 0)):=by kernel_rfl
 obtain⟨i,h,a⟩:=bg.1 e;simp only[Prod.mk.injEq] at a;obtain⟨b,c,d⟩:=a;rw[run_makeSlice w 100 5 i (.int .u8 0) Tryz.underlying100 h d .i64 .i64 N N (by omega) (by omega) (by rw[b,bh];omega) (by rw[c];omega) (by omega)];rw[b,bh,Nat.mul_one,<-Wt N L f];rfl
theorem Xf (n:Nat)(h:n<=1048576){x:Int}(a:x=(n:Int):=by push_cast;rfl):IntKind.i64.wrap x=(n:Int):=by subst a;rw[IntKind.wrap_i64];omega
def Ni (size:Nat)(a n:Int):Bool:=decide (0<=a/\0<=n/\a < size)
set_option maxRecDepth 100000 in
set_option maxHeartbeats 2000000 in
theorem Z59 {w:World}{b m size:Nat}{bl:List (Nat × List UInt8)}(h:Raw w b m size bl)(a n:Int) :
  Calls Tryz.prog 105 #[.pointer (some ⟨b,0,none⟩),.int .i64 a,.int .i64 n] w
   λe w'=>(Ni size a n=false->e=.returned (.slice none 0 0))/\(Ni size a n=true->∃g,w.heap.size<=g/\e=.returned (.slice (some ⟨g,0,none⟩) (min n.toNat (size - a.toNat)) (min n.toNat (size - a.toNat))) /\
    w'.heap[g]?=some (.cells ((Iu bl a.toNat (min n.toNat (size - a.toNat))).map B3).toArray 5 (0,0)))/\Below w.heap.size w w':=by
 have c0:=h.c0;have HH:=aa h;have hs:=h.small;cases hf:Ni size a n
 .have t0:=of_decide_eq_false hf;have t1:decide (a < 0)=true\/decide (a < 0)=false/\(decide (n < 0)=true\/decide (n < 0)=false/\decide ((size:Int)<=a)=true):=by
   simp only[decide_eq_true_eq,decide_eq_false_iff_not];omega
  clear t0 hf h;rcases t1 with t1 | ⟨t1,t2 | ⟨t2,t3⟩⟩
  all_goals
   go_enter Tryz.func105,Tryz.ntmps105
   go_wp2
   go_ret
   exact⟨λ_=>rfl,by simp,ab _ _⟩
 .obtain⟨h0,h1,h2⟩:=of_decide_eq_true hf;obtain⟨n,rfl⟩:=al h1;obtain⟨a,rfl⟩:=al h0;have has:a < size:=by omega
  have t1:decide ((a:Int) < 0)=false:=by rw[decide_eq_false_iff_not];omega
  have t2:decide ((n:Int) < 0)=false:=by rw[decide_eq_false_iff_not];omega
  have t3:decide (size<=a)=false:=by rw[decide_eq_false_iff_not];omega
  rw[bh,bh];obtain⟨N,hN⟩:∃N,min n (size - a)=N:=⟨_,rfl⟩;have HN:=aa hN;have hmin:min (n:Int) ((size:Int) - (a:Int))=(N:Int):=by omega
  rw[hN];have HOk:=aa hf;clear hf h h0 h1 h2 hN;have hN1:N<=1048576:=by omega
  have hm1:=λhX=>Od w N hN1 (n:Int) hX (Nw bl a N 0) (by simp[Nw,Iu]);have hm2:=λhX=>Od w N hN1 ((size:Int) - (a:Int)) hX (Nw bl a N 0) (by simp[Nw,Iu]);have hcase:(n:Int)<=(size:Int) - (a:Int)/\(n:Int)=(N:Int)\/(size:Int) - (a:Int) < (n:Int)/\(size:Int) - (a:Int)=(N:Int):=by omega
  clear hmin;have HR0:=aa (heap_alloc_new w (.cells ((Nw bl a N 0).map B3).toArray 5));have HB0:=aa (show Below w.heap.size w (w.alloc (.cells ((Nw bl a N 0).map B3).toArray 5)) from(ab _ _).alloc (au _) _);have hNs:a+N<=size:=by omega
  rcases hcase with⟨h3,h4⟩ | ⟨h3,h4⟩
  all_goals
   have hm3:=by first | exact hm1 h4 | exact hm2 h4
   clear hm1 hm2 h4
   go_enter Tryz.func105,Tryz.ntmps105
   go_wp2
   clear hm3 h3 c0 t1 t2 t3;generalize w.alloc (.cells ((Nw bl a N 0).map B3).toArray 5)=w1 at *
   go_loopw [8] (λvd wr=>∃d:Nat,d<=N/\vd=.int .i64 (d:Int)/\wr.heap[w.heap.size]?=some (.cells ((Nw bl a N d).map B3).toArray 5 (0,0))/\Below w.heap.size w wr) (λvd _=>N - (intOf vd).toNat)
   case atStart=>exact⟨0,av _,rfl,HR0.out,HB0.out⟩
   case round =>
    obtain⟨d,hd,rfl,hrow,hbr⟩:=hrel;have HRow:=aa hrow;have HBr:=aa hbr;clear hrow hbr HR0 HB0;by_cases hlt:d < N
    .have hRw:=HH.out.below HBr.out;have c1:=hRw.c1;have hl1:=Ar (P:=Tryz.prog) K64 Z80 (Hl wr) hRw.map ((a+d) / 16);rw[Lc] at hl1;have HL:=aa (Fx hRw.full ((a+d) / 16));rw[show N9 ((a+d) / 16)=.int .i64 (((a:Int)+(d:Int)) / 16) by simp[N9]] at hl1;have HZ:=aa (show 16=((Dp bl ((a+d) / 16)).map B3).toArray.size by rw[List.size_toArray,ao,HL.out]);have HI:=aa (show(Tryz.prog.info? 234).map (·.size)=some ((Dp bl ((a+d) / 16)).map B3).toArray.size by rw[<-HZ.out];exact Ei);have hgs:w.heap.size < wr.heap.size:=(bz.1 HRow.out).1;clear hRw
     go_wp2_with (refine Au rfl 234 (.tmp 11) (.tmp 52) rfl wr _ _ _ rfl rfl HZ.out HI.out (E6 _) ?_)
     have hB2:Below w.heap.size w (wr.alloc (.cells ((Dp bl ((a+d) / 16)).map B3).toArray 234)).drew:=(HBr.out.alloc (Nat.le_of_lt hgs) _).drew;have hG2:(wr.alloc (.cells ((Dp bl ((a+d) / 16)).map B3).toArray 234)).drew.heap[w.heap.size]?=some (.cells ((Nw bl a N d).map B3).toArray 5 (0,0)):=(ae _ _ _ hgs).trans HRow.out;have hX2:(wr.alloc (.cells ((Dp bl ((a+d) / 16)).map B3).toArray 234)).drew.heap[wr.heap.size]?=some (.cells ((Dp bl ((a+d) / 16)).map B3).toArray 234 (0,0)):=heap_alloc_new wr _;have HB2:=aa hB2;have HG2:=aa hG2;have HX2:=aa hX2;have hsl:=M8 (wr.alloc (.cells ((Dp bl ((a+d) / 16)).map B3).toArray 234)).drew wr.heap.size ((a+d) % 16) (Nat.mod_lt _ (by omega));rw[show(((a+d) % 16:Nat):Int)=((a:Int)+(d:Int)) % 16 by omega] at hsl;clear hB2 hG2 hX2 hl1;generalize wr.alloc (.cells ((Dp bl ((a+d) / 16)).map B3).toArray 234)=w2 at *;have H1:=aa (show((((Dp bl ((a+d) / 16)).drop ((a+d) % 16)).take (N - d)).map B3).length=Nat.min (16 - (a+d) % 16) (N - d) by rw[ao,be,bk,HL.out];show min _ _=min _ _;omega);have H2:=aa (show d+((((Dp bl ((a+d) / 16)).drop ((a+d) % 16)).take (N - d)).map B3).length<=((Nw bl a N d).map B3).length by rw[H1.out,ao,Z4l _ _ _ _ hd];show _+min _ _<=_;omega);have H3:=aa (show ∀v∈(((Dp bl ((a+d) / 16)).drop ((a+d) % 16)).take (N - d)).map B3,v.oneCell'=true by intro v hv;obtain⟨x,_,rfl⟩:=bj.1 hv;rfl);have H4:=aa (show ∀j v,((((Dp bl ((a+d) / 16)).drop ((a+d) % 16)).take (N - d)).map B3)[j]?=some v->w2.drew.cell? (Addr.add ⟨wr.heap.size,(a+d) % 16,none⟩ j)=some v from λj v hv=>by
      have e:Addr.add ⟨wr.heap.size,(a+d) % 16,none⟩ j=⟨wr.heap.size,(a+d) % 16+j,none⟩:=by unfold Addr.add;split<;>simp_all
      rw[e,A1 HX2.out];rw[ax,br] at hv;split at hv
      .rw[cf] at hv;simpa using hv
      .cases hv)
     have HNd:=aa (show ¬N=d by omega);have H6:=aa (Z1z HH.out.full a N d hlt)
     go_region_law (refine step_copy_splice rfl (.tmp 56) (.tmp 58) 100 100 rfl 5 Tryz.underlying100 (by kernel_rfl) (if N=d then some ⟨w.heap.size,0,none⟩ else some ⟨w.heap.size,d,none⟩) (some ⟨wr.heap.size,(a+d) % 16,none⟩) (N - d) (N - d) (16 - (a+d) % 16) (16 - (a+d) % 16) rfl rfl w.heap.size d ((Nw bl a N d).map B3) 5 HG2.out ((((Dp bl ((a+d) / 16)).drop ((a+d) % 16)).take (N - d)).map B3) H1.out (λ_=>⟨dq HNd.out,_,rfl,H4.out⟩) H2.out H3.out w.heap.size w HB2.out (au _) ?_;intro w4 hg4 hb4)
     obtain⟨j,hj⟩:∃j,min (N - d) (16 - (a+d) % 16)=j:=⟨_,rfl⟩;have hjm:min (N - d) ((Dp bl ((a+d) / 16)).length - (a+d) % 16)=j:=by rw[HL.out];exact hj
     have hwr:IntKind.i64.wrap ((d:Int)+(j:Int))=((d+j:Nat):Int):=Xf (d+j) (by omega);rw[hjm,hwr];have hj1:d+j<=N:=by omega
     have hj2:0 < j:=by omega
     have HR4:=aa (show w4.heap[w.heap.size]?=some (.cells ((Nw bl a N (d+j)).map B3).toArray 5 (0,0)) by rw[hg4.out,K0,H6.out,hj]);have HB4:=aa hb4;clear hj hjm hwr hg4 hb4 H1 H2 H3 H4 H6 HNd HB2 HG2 HX2 hsl
     go_wp2
     go_roundw
     case rel=>exact⟨d+j,hj1,rfl,HR4.out,HB4.out⟩
     case measure=>simp[intOf];omega
    .have hdN:d=N:=by omega
     have HE:=aa (show(Nw bl a N d)=Iu bl a N by rw[hdN];exact Z6j bl a N);clear hdN
     go_wp2
     go_ret
     exact⟨λh=>(by cases h),λ_=>⟨w.heap.size,au _,rfl,by rw[<-HE.out];exact HRow.out⟩,HBr.out⟩
end Go.Proofs.YtmmdikhljefeiaaGreat
