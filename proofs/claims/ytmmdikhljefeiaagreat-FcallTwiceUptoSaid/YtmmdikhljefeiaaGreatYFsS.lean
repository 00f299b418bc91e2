
import Derived.Test.YtmmdikhljefeiaaGreatYFsE
namespace Go.Proofs.YtmmdikhljefeiaaGreat
open Go.RowKit Go.MapKept
theorem G8 {fn:Func}{p q u:Tmp}{ty:TypeId}(h:fn.results=#[.cell p ty,.cell q ty,.tmp u])(tmps:Array Value)(P:Program)(w:World) :
  (results fn tmps).run P w =
   ((asAddr (tmps.getD p undef)).run P w).andThen λa w₁=>((loadVar ty a).run P w₁).andThen λv w₂=>((asAddr (tmps.getD q undef)).run P w₂).andThen λb w₃=>((loadVar ty b).run P w₃).andThen λc w₄=>.ok (.tuple #[v,c,tmps.getD u undef]) w₄:=by
 simp only[results,h];simp[Sem.run_bind,Result.andThen]
theorem C2 {P:Program}{fn:Func}{R:Ending->World->Prop}{a:Act}{w:World}{p q u:Tmp}{ty:TypeId}(hr:fn.results=#[.cell p ty,.cell q ty,.tmp u]){g f:Nat}{cs b:Array Value}{t:TypeId}{c:Nat × Nat}{d:TypeDesc}
  (l:a.tmps.getD p undef=.pointer (some ⟨g,0,none⟩)) (x:w.heap[g]?=some (.cells cs t c)) (r:a.tmps.getD q undef=.pointer (some ⟨f,0,none⟩)) (i:w.heap[f]?=some (.cells b t c)) (k:P.underlying ty=some d) (ha:(match d with | .struct _ | .array _ _=>true | _=>false)=true) {n:Nat} (j:(P.info? ty).map (·.size)=some n) (s:cs.size=n) (h:b.size=n)
  (hd:a.defers=[]) (m:R (.returned (.tuple #[.agg cs,.agg b,a.tmps.getD u undef])) w):bodyPost P fn R .ret a w:=by
 refine bodyPost_ret (v:=.tuple #[.agg cs,.agg b,a.tmps.getD u undef]) ?_ hd m;rw[G8 hr,l,r];have o:=run_loadVar_row (P:=P) w g t ty cs c d x k ha (by rw[s];exact j);have e:=run_loadVar_row (P:=P) w f t ty b c d i k ha (by rw[h];exact j);simp[asAddr,o,e,Result.andThen]
theorem Z7l (w:World)(c1 i f d:Array Value)(b h g c:TypeId):∃a,(((w.alloc (.cells c1 b)).alloc (.cells i h)).alloc (.cells f g)).alloc (.cells d c)=a/\Below w.heap.size w a/\w.heap.size+4<=a.heap.size /\
  a.heap[w.heap.size]?=some (.cells c1 b (0,0))/\a.heap[w.heap.size+1]?=some (.cells i h (0,0))/\a.heap[w.heap.size+1+1]?=some (.cells f g (0,0))/\a.heap[w.heap.size+1+1+1]?=some (.cells d c (0,0)):=by
 obtain⟨a,e,k,o,n,l,m⟩:=Zbh w c1 i f b h g;have j:a.heap.size=w.heap.size+1+1+1:=by rw[<-e];simp
 rw[e];refine⟨_,rfl,k.alloc (by omega) _,by simp[j],(ae _ _ _ (by omega)).trans n,(ae _ _ _ (by omega)).trans l,(ae _ _ _ (by omega)).trans m,?_⟩;have:=heap_alloc_new a (.cells d c);rw[j] at this;exact this
def Di (r:RFs)(h:Int × Int)(s:ByteArray)(g:Int × Int)(t:ByteArray):Int :=
 if Aj r h=false\/Aj r g=false then 175 else if(A3 r.ins h.1).kind≠2\/(A3 r.ins g.1).kind≠2 then 173 else if Ae s=true/\Ae t=true then 0 else 176
theorem E8 {w:World}{f m l K:Nat}{r:RFs}{N:List Nd}(h:FsN w f m l r N)(c:Wf r K)(i g:Int) :
  ∃a,(∀b,Below w.heap.size w b->Calls Tryz.prog 81 #[.pointer (some ⟨f,0,none⟩),.agg #[.int .i64 i,.int .i64 g]] b λe w'=>e=.returned (.tuple #[.pointer a,.int .i64 (Bu r (i,g))])/\Below b.heap.size b w') /\
   (Aj r (i,g)=true->∃n∈N,NodeR w r (A3 r.ins i) n/\n.id=i/\a=some ⟨n.blk,0,none⟩):=by
 cases hl:Aj r (i,g)
 .refine⟨none,λb d=>?_,λh=>by cases h⟩;rw[show Bu r (i,g)=175 by unfold Bu;rw[hl];rfl];exact Hv (h.below c d) c i g hl
 .obtain⟨o,k,_⟩:=Ac hl;obtain⟨n,j,hr⟩:=h.at_ c o;refine⟨_,λb d=>?_,λ_=>⟨n,j,hr,hr.id.trans k,rfl⟩⟩;rw[show Bu r (i,g)=0 by unfold Bu;rw[dq hl]];exact Ec (h.below c d) c i g hl j (hr.id.trans k)
set_option maxRecDepth 100000 in
set_option maxHeartbeats 4000000 in
theorem Z55 {w:World}{f mi mg K:Nat}{r:RFs}{N:List Nd}(h:FsN w f mi mg r N)(hW:Wf r K)(i g:Int)(s:ByteArray)(hs:s.size<=maxLen)(i2 g2:Int)(s2:ByteArray)(hs2:s2.size<=maxLen)(hl:Aj r (i,g)=false) :
  Calls Tryz.prog 99 #[.pointer (some ⟨f,0,none⟩),.agg #[.int .i64 i,.int .i64 g],.string s,.agg #[.int .i64 i2,.int .i64 g2],.string s2] w
   λe w'=>e=.returned (.tuple #[.agg #[.pointer none,.pointer none,.string ⟨#[]⟩],.agg #[.pointer none,.pointer none,.string ⟨#[]⟩],.int .i64 175])/\Below w.heap.size w w':=by
 obtain⟨w2,hw2,hB,hz2,hb0,hb1,hb2,hb3⟩:=Z7l w #[.int .i64 i,.int .i64 g] #[.int .i64 i2,.int .i64 g2] #[.pointer none,.pointer none,.string ⟨#[]⟩] #[.pointer none,.pointer none,.string ⟨#[]⟩] 31 31 137 137;have t0:w2.cell? ⟨w.heap.size,0,none⟩=some (.int .i64 i):=by rw[A1 hb0];rfl
 have t1:w2.cell? ⟨w.heap.size,1,none⟩=some (.int .i64 g):=by rw[A1 hb0];rfl
 have h2:=h.below hW hB;have HW2:=aa hw2;have HB:=aa hB;have HB1:=aa hb1;have HB2:=aa hb2;have HB3:=aa hb3;have HNm:=aa (λw=>Bj s w hs);have HNm2:=aa (λw=>Bj s2 w hs2);obtain⟨a1,F1,G1⟩:=E8 h2 hW i g;obtain⟨a2,F2,G2⟩:=E8 h2 hW i2 g2;have HF1:=aa F1;have HF2:=aa F2;have fe1:Bu r (i,g)=175:=by unfold Bu;rw[hl];rfl
 rw[fe1] at HF1;generalize Bu r (i2,g2)=e2 at *;have HP1:=aa (Bx none none ⟨#[]⟩);have HP2:=aa (Bx none none ⟨#[]⟩);clear hw2 hB hb0 hb1 hb2 hb3 h h2 hW F1 F2 G1 G2 hl fe1
 go_enter Tryz.func99,Tryz.ntmps99
 go_wp2_with fail
 rw[HW2.out]
 go_wp2_with (first
  | (go_at_call 81;(with_reducible refine(HF1.out w2 (ab _ _)).mono ?_);rintro e w3 ⟨rfl,hB3⟩;have hs3:=hB3.size;have hY:=(hB3.block _ (by omega)).trans HB1.out;have y0:w3.cell? ⟨w.heap.size+1,0,none⟩=_:=A1 hY 0;have y1:w3.cell? ⟨w.heap.size+1,1,none⟩=_:=A1 hY 1;clear hY;replace hB3:=aa hB3)
  | (go_at_call 81;(with_reducible refine(HF2.out w3 hB3.out).mono ?_);rintro e w4 ⟨rfl,hB4⟩;have hs4:=hB4.size;have hB4':=aa (hB3.out.trans (hB4.mono hs3));clear hB4;have hXa:=aa ((hB4'.out.block _ (by omega)).trans HB2.out);have hXb:=aa ((hB4'.out.block _ (by omega)).trans HB3.out))
  | (go_at_call 93;(with_reducible refine(HNm.out _).mono ?_);rintro e w5 ⟨rfl,rfl⟩)
  | (go_at_call 93;(with_reducible refine(HNm2.out _).mono ?_);rintro e w5 ⟨rfl,rfl⟩)
  | (refine A6 rfl 137 (.tmp 10) (.tmp 37) rfl w4 (w.heap.size+1+1) _ _ _ rfl rfl hXa.out rfl Bh HP1.out ?_;intro w5 hX5 hG5;have hXb5:=aa ((hG5.block (w.heap.size+1+1+1) (by omega) (by intro e;injection e with e;omega)).trans hXb.out);replace hX5:=aa hX5;replace hG5:=aa hG5)
  | (refine A6 rfl 137 (.tmp 11) (.tmp 38) rfl w5 (w.heap.size+1+1+1) _ _ _ rfl rfl hXb5.out rfl Bh HP2.out ?_;intro w6 hX6 hG6))
 have hb5:=Below.grownBy (HB.out.trans (hB4'.out.mono (by omega))) hG5.out (by omega) (λk hk=>by injection hk with hk;omega);have hb6:=Below.grownBy hb5 hG6 hb5.size (λk hk=>by injection hk with hk;omega);have hX5':=(hG6.block (w.heap.size+1+1) (by have:=hG5.out.size;omega) (by intro e;injection e with e;omega)).trans hX5.out;exact C2 (p:=10) (q:=11) (u:=12) rfl rfl hX5' rfl hX6 Eu rfl Bh rfl rfl rfl ⟨rfl,hb6⟩
set_option maxRecDepth 100000 in
set_option maxHeartbeats 4000000 in
theorem Z41 {w:World}{f mi mg K:Nat}{r:RFs}{N:List Nd}(h:FsN w f mi mg r N)(hW:Wf r K)(i g:Int)(s:ByteArray)(hs:s.size<=maxLen)(i2 g2:Int)(s2:ByteArray)(hs2:s2.size<=maxLen)(hl:Aj r (i,g)=true)(hl2:Aj r (i2,g2)=false) :
  Calls Tryz.prog 99 #[.pointer (some ⟨f,0,none⟩),.agg #[.int .i64 i,.int .i64 g],.string s,.agg #[.int .i64 i2,.int .i64 g2],.string s2] w
   λe w'=>e=.returned (.tuple #[.agg #[.pointer none,.pointer none,.string ⟨#[]⟩],.agg #[.pointer none,.pointer none,.string ⟨#[]⟩],.int .i64 175])/\Below w.heap.size w w':=by
 obtain⟨w2,hw2,hB,hz2,hb0,hb1,hb2,hb3⟩:=Z7l w #[.int .i64 i,.int .i64 g] #[.int .i64 i2,.int .i64 g2] #[.pointer none,.pointer none,.string ⟨#[]⟩] #[.pointer none,.pointer none,.string ⟨#[]⟩] 31 31 137 137;have t0:w2.cell? ⟨w.heap.size,0,none⟩=some (.int .i64 i):=by rw[A1 hb0];rfl
 have t1:w2.cell? ⟨w.heap.size,1,none⟩=some (.int .i64 g):=by rw[A1 hb0];rfl
 have h2:=h.below hW hB;have HW2:=aa hw2;have HB:=aa hB;have HB1:=aa hb1;have HB2:=aa hb2;have HB3:=aa hb3;have HNm:=aa (λw=>Bj s w hs);have HNm2:=aa (λw=>Bj s2 w hs2);obtain⟨a1,F1,G1⟩:=E8 h2 hW i g;obtain⟨a2,F2,G2⟩:=E8 h2 hW i2 g2;have HF1:=aa F1;have HF2:=aa F2;have fe1:Bu r (i,g)=0:=by unfold Bu;rw[dq hl]
 rw[fe1] at HF1;have fe2:Bu r (i2,g2)=175:=by unfold Bu;rw[hl2];rfl
 rw[fe2] at HF2;have HP1:=aa (Bx none none ⟨#[]⟩);have HP2:=aa (Bx none none ⟨#[]⟩);clear hw2 hB hb0 hb1 hb2 hb3 h h2 hW F1 F2 G1 G2 hl hl2 fe1 fe2
 go_enter Tryz.func99,Tryz.ntmps99
 go_wp2_with fail
 rw[HW2.out]
 go_wp2_with (first
  | (go_at_call 81;(with_reducible refine(HF1.out w2 (ab _ _)).mono ?_);rintro e w3 ⟨rfl,hB3⟩;have hs3:=hB3.size;have hY:=(hB3.block _ (by omega)).trans HB1.out;have y0:w3.cell? ⟨w.heap.size+1,0,none⟩=_:=A1 hY 0;have y1:w3.cell? ⟨w.heap.size+1,1,none⟩=_:=A1 hY 1;clear hY;replace hB3:=aa hB3)
  | (go_at_call 81;(with_reducible refine(HF2.out w3 hB3.out).mono ?_);rintro e w4 ⟨rfl,hB4⟩;have hs4:=hB4.size;have hB4':=aa (hB3.out.trans (hB4.mono hs3));clear hB4;have hXa:=aa ((hB4'.out.block _ (by omega)).trans HB2.out);have hXb:=aa ((hB4'.out.block _ (by omega)).trans HB3.out))
  | (go_at_call 93;(with_reducible refine(HNm.out _).mono ?_);rintro e w5 ⟨rfl,rfl⟩)
  | (go_at_call 93;(with_reducible refine(HNm2.out _).mono ?_);rintro e w5 ⟨rfl,rfl⟩)
  | (refine A6 rfl 137 (.tmp 10) (.tmp 37) rfl w4 (w.heap.size+1+1) _ _ _ rfl rfl hXa.out rfl Bh HP1.out ?_;intro w5 hX5 hG5;have hXb5:=aa ((hG5.block (w.heap.size+1+1+1) (by omega) (by intro e;injection e with e;omega)).trans hXb.out);replace hX5:=aa hX5;replace hG5:=aa hG5)
  | (refine A6 rfl 137 (.tmp 11) (.tmp 38) rfl w5 (w.heap.size+1+1+1) _ _ _ rfl rfl hXb5.out rfl Bh HP2.out ?_;intro w6 hX6 hG6))
 have hb5:=Below.grownBy (HB.out.trans (hB4'.out.mono (by omega))) hG5.out (by omega) (λk hk=>by injection hk with hk;omega);have hb6:=Below.grownBy hb5 hG6 hb5.size (λk hk=>by injection hk with hk;omega);have hX5':=(hG6.block (w.heap.size+1+1) (by have:=hG5.out.size;omega) (by intro e;injection e with e;omega)).trans hX5.out;exact C2 (p:=10) (q:=11) (u:=12) rfl rfl hX5' rfl hX6 Eu rfl Bh rfl rfl rfl ⟨rfl,hb6⟩
set_option maxRecDepth 100000 in
set_option maxHeartbeats 4000000 in
theorem Z5c {w:World}{f mi mg K:Nat}{r:RFs}{N:List Nd}(h:FsN w f mi mg r N)(hW:Wf r K)(i g:Int)(s:ByteArray)(hs:s.size<=maxLen)(i2 g2:Int)(s2:ByteArray)(hs2:s2.size<=maxLen)(hl:Aj r (i,g)=true)(hl2:Aj r (i2,g2)=true)(hk:(A3 r.ins i).kind≠2)(hk2:(A3 r.ins i2).kind=2) :
  Calls Tryz.prog 99 #[.pointer (some ⟨f,0,none⟩),.agg #[.int .i64 i,.int .i64 g],.string s,.agg #[.int .i64 i2,.int .i64 g2],.string s2] w
   λe w'=>e=.returned (.tuple #[.agg #[.pointer none,.pointer none,.string ⟨#[]⟩],.agg #[.pointer none,.pointer none,.string ⟨#[]⟩],.int .i64 173])/\Below w.heap.size w w':=by
 obtain⟨w2,hw2,hB,hz2,hb0,hb1,hb2,hb3⟩:=Z7l w #[.int .i64 i,.int .i64 g] #[.int .i64 i2,.int .i64 g2] #[.pointer none,.pointer none,.string ⟨#[]⟩] #[.pointer none,.pointer none,.string ⟨#[]⟩] 31 31 137 137;have t0:w2.cell? ⟨w.heap.size,0,none⟩=some (.int .i64 i):=by rw[A1 hb0];rfl
 have t1:w2.cell? ⟨w.heap.size,1,none⟩=some (.int .i64 g):=by rw[A1 hb0];rfl
 have h2:=h.below hW hB;have HW2:=aa hw2;have HB:=aa hB;have HB1:=aa hb1;have HB2:=aa hb2;have HB3:=aa hb3;have HNm:=aa (λw=>Bj s w hs);have HNm2:=aa (λw=>Bj s2 w hs2);obtain⟨a1,F1,G1⟩:=E8 h2 hW i g;obtain⟨a2,F2,G2⟩:=E8 h2 hW i2 g2;have HF1:=aa F1;have HF2:=aa F2;have fe1:Bu r (i,g)=0:=by unfold Bu;rw[dq hl]
 rw[fe1] at HF1;have fe2:Bu r (i2,g2)=0:=by unfold Bu;rw[dq hl2]
 rw[fe2] at HF2;obtain⟨n1,hn1,hr1,hi1,rfl⟩:=G1 hl;have HD1:=aa (show ∀w',Below w2.heap.size w2 w'->Calls Tryz.prog 92 #[.pointer (some ⟨n1.blk,0,none⟩)] w' λe w''=>e=.returned (.tuple #[.pointer none,.int .i64 173])/\w'=w'' from λw' hb=>by have:=Cu (hr1.below (hW.kind _ (Ac hl).1) hb);rw[dp hk] at this;exact this)
 obtain⟨n2,hn2,hr2,hi2,rfl⟩:=G2 hl2;have HD2:=aa (show ∀w',Below w2.heap.size w2 w'->Calls Tryz.prog 92 #[.pointer (some ⟨n2.blk,0,none⟩)] w' λe w''=>e=.returned (.tuple #[.pointer (some ⟨n2.b,0,none⟩),.int .i64 0])/\w'=w'' from λw' hb=>by have:=Cu (hr2.below (hW.kind _ (Ac hl2).1) hb);rw[dq hk2] at this;exact this)
 have HP1:=aa (Bx none none ⟨#[]⟩);have HP2:=aa (Bx none none ⟨#[]⟩);clear hw2 hB hb0 hb1 hb2 hb3 h h2 hW F1 F2 G1 G2 hl hl2 fe1 fe2 hk hk2 hn1 hr1 hi1 hn2 hr2 hi2
 go_enter Tryz.func99,Tryz.ntmps99
 go_wp2_with fail
 rw[HW2.out]
 go_wp2_with (first
  | (go_at_call 81;(with_reducible refine(HF1.out w2 (ab _ _)).mono ?_);rintro e w3 ⟨rfl,hB3⟩;have hs3:=hB3.size;have hY:=(hB3.block _ (by omega)).trans HB1.out;have y0:w3.cell? ⟨w.heap.size+1,0,none⟩=_:=A1 hY 0;have y1:w3.cell? ⟨w.heap.size+1,1,none⟩=_:=A1 hY 1;clear hY;replace hB3:=aa hB3)
  | (go_at_call 81;(with_reducible refine(HF2.out w3 hB3.out).mono ?_);rintro e w4 ⟨rfl,hB4⟩;have hs4:=hB4.size;have hB4':=aa (hB3.out.trans (hB4.mono hs3));clear hB4;have hXa:=aa ((hB4'.out.block _ (by omega)).trans HB2.out);have hXb:=aa ((hB4'.out.block _ (by omega)).trans HB3.out))
  | (go_at_call 92;(with_reducible refine(HD1.out _ hB4'.out).mono ?_);rintro e w5 ⟨rfl,rfl⟩)
  | (go_at_call 92;(with_reducible refine(HD2.out _ hB4'.out).mono ?_);rintro e w5 ⟨rfl,rfl⟩)
  | (go_at_call 93;(with_reducible refine(HNm.out _).mono ?_);rintro e w5 ⟨rfl,rfl⟩)
  | (go_at_call 93;(with_reducible refine(HNm2.out _).mono ?_);rintro e w5 ⟨rfl,rfl⟩)
  | (refine A6 rfl 137 (.tmp 10) (.tmp 55) rfl w4 (w.heap.size+1+1) _ _ _ rfl rfl hXa.out rfl Bh HP1.out ?_;intro w5 hX5 hG5;have hXb5:=aa ((hG5.block (w.heap.size+1+1+1) (by omega) (by intro e;injection e with e;omega)).trans hXb.out);replace hX5:=aa hX5;replace hG5:=aa hG5)
  | (refine A6 rfl 137 (.tmp 11) (.tmp 56) rfl w5 (w.heap.size+1+1+1) _ _ _ rfl rfl hXb5.out rfl Bh HP2.out ?_;intro w6 hX6 hG6))
 have hb5:=Below.grownBy (HB.out.trans (hB4'.out.mono (by omega))) hG5.out (by omega) (λk hk=>by injection hk with hk;omega);have hb6:=Below.grownBy hb5 hG6 hb5.size (λk hk=>by injection hk with hk;omega);have hX5':=(hG6.block (w.heap.size+1+1) (by have:=hG5.out.size;omega) (by intro e;injection e with e;omega)).trans hX5.out;exact C2 (p:=10) (q:=11) (u:=12) rfl rfl hX5' rfl hX6 Eu rfl Bh rfl rfl rfl ⟨rfl,hb6⟩
set_option maxRecDepth 100000 in
set_option maxHeartbeats 4000000 in
theorem Z5p {w:World}{f mi mg K:Nat}{r:RFs}{N:List Nd}(h:FsN w f mi mg r N)(hW:Wf r K)(i g:Int)(s:ByteArray)(hs:s.size<=maxLen)(i2 g2:Int)(s2:ByteArray)(hs2:s2.size<=maxLen)(hl:Aj r (i,g)=true)(hl2:Aj r (i2,g2)=true)(hk:(A3 r.ins i).kind≠2)(hk2:(A3 r.ins i2).kind≠2) :
  Calls Tryz.prog 99 #[.pointer (some ⟨f,0,none⟩),.agg #[.int .i64 i,.int .i64 g],.string s,.agg #[.int .i64 i2,.int .i64 g2],.string s2] w
   λe w'=>e=.returned (.tuple #[.agg #[.pointer none,.pointer none,.string ⟨#[]⟩],.agg #[.pointer none,.pointer none,.string ⟨#[]⟩],.int .i64 173])/\Below w.heap.size w w':=by
 obtain⟨w2,hw2,hB,hz2,hb0,hb1,hb2,hb3⟩:=Z7l w #[.int .i64 i,.int .i64 g] #[.int .i64 i2,.int .i64 g2] #[.pointer none,.pointer none,.string ⟨#[]⟩] #[.pointer none,.pointer none,.string ⟨#[]⟩] 31 31 137 137;have t0:w2.cell? ⟨w.heap.size,0,none⟩=some (.int .i64 i):=by rw[A1 hb0];rfl
 have t1:w2.cell? ⟨w.heap.size,1,none⟩=some (.int .i64 g):=by rw[A1 hb0];rfl
 have h2:=h.below hW hB;have HW2:=aa hw2;have HB:=aa hB;have HB1:=aa hb1;have HB2:=aa hb2;have HB3:=aa hb3;have HNm:=aa (λw=>Bj s w hs);have HNm2:=aa (λw=>Bj s2 w hs2);obtain⟨a1,F1,G1⟩:=E8 h2 hW i g;obtain⟨a2,F2,G2⟩:=E8 h2 hW i2 g2;have HF1:=aa F1;have HF2:=aa F2;have fe1:Bu r (i,g)=0:=by unfold Bu;rw[dq hl]
 rw[fe1] at HF1;have fe2:Bu r (i2,g2)=0:=by unfold Bu;rw[dq hl2]
 rw[fe2] at HF2;obtain⟨n1,hn1,hr1,hi1,rfl⟩:=G1 hl;have HD1:=aa (show ∀w',Below w2.heap.size w2 w'->Calls Tryz.prog 92 #[.pointer (some ⟨n1.blk,0,none⟩)] w' λe w''=>e=.returned (.tuple #[.pointer none,.int .i64 173])/\w'=w'' from λw' hb=>by have:=Cu (hr1.below (hW.kind _ (Ac hl).1) hb);rw[dp hk] at this;exact this)
 obtain⟨n2,hn2,hr2,hi2,rfl⟩:=G2 hl2;have HD2:=aa (show ∀w',Below w2.heap.size w2 w'->Calls Tryz.prog 92 #[.pointer (some ⟨n2.blk,0,none⟩)] w' λe w''=>e=.returned (.tuple #[.pointer none,.int .i64 173])/\w'=w'' from λw' hb=>by have:=Cu (hr2.below (hW.kind _ (Ac hl2).1) hb);rw[dp hk2] at this;exact this)
 have HP1:=aa (Bx none none ⟨#[]⟩);have HP2:=aa (Bx none none ⟨#[]⟩);clear hw2 hB hb0 hb1 hb2 hb3 h h2 hW F1 F2 G1 G2 hl hl2 fe1 fe2 hk hk2 hn1 hr1 hi1 hn2 hr2 hi2
 go_enter Tryz.func99,Tryz.ntmps99
 go_wp2_with fail
 rw[HW2.out]
 go_wp2_with (first
  | (go_at_call 81;(with_reducible refine(HF1.out w2 (ab _ _)).mono ?_);rintro e w3 ⟨rfl,hB3⟩;have hs3:=hB3.size;have hY:=(hB3.block _ (by omega)).trans HB1.out;have y0:w3.cell? ⟨w.heap.size+1,0,none⟩=_:=A1 hY 0;have y1:w3.cell? ⟨w.heap.size+1,1,none⟩=_:=A1 hY 1;clear hY;replace hB3:=aa hB3)
  | (go_at_call 81;(with_reducible refine(HF2.out w3 hB3.out).mono ?_);rintro e w4 ⟨rfl,hB4⟩;have hs4:=hB4.size;have hB4':=aa (hB3.out.trans (hB4.mono hs3));clear hB4;have hXa:=aa ((hB4'.out.block _ (by omega)).trans HB2.out);have hXb:=aa ((hB4'.out.block _ (by omega)).trans HB3.out))
  | (go_at_call 92;(with_reducible refine(HD1.out _ hB4'.out).mono ?_);rintro e w5 ⟨rfl,rfl⟩)
  | (go_at_call 92;(with_reducible refine(HD2.out _ hB4'.out).mono ?_);rintro e w5 ⟨rfl,rfl⟩)
  | (go_at_call 93;(with_reducible refine(HNm.out _).mono ?_);rintro e w5 ⟨rfl,rfl⟩)
  | (go_at_call 93;(with_reducible refine(HNm2.out _).mono ?_);rintro e w5 ⟨rfl,rfl⟩)
  | (refine A6 rfl 137 (.tmp 10) (.tmp 55) rfl w4 (w.heap.size+1+1) _ _ _ rfl rfl hXa.out rfl Bh HP1.out ?_;intro w5 hX5 hG5;have hXb5:=aa ((hG5.block (w.heap.size+1+1+1) (by omega) (by intro e;injection e with e;omega)).trans hXb.out);replace hX5:=aa hX5;replace hG5:=aa hG5)
  | (refine A6 rfl 137 (.tmp 11) (.tmp 56) rfl w5 (w.heap.size+1+1+1) _ _ _ rfl rfl hXb5.out rfl Bh HP2.out ?_;intro w6 hX6 hG6))
 have hb5:=Below.grownBy (HB.out.trans (hB4'.out.mono (by omega))) hG5.out (by omega) (λk hk=>by injection hk with hk;omega);have hb6:=Below.grownBy hb5 hG6 hb5.size (λk hk=>by injection hk with hk;omega);have hX5':=(hG6.block (w.heap.size+1+1) (by have:=hG5.out.size;omega) (by intro e;injection e with e;omega)).trans hX5.out;exact C2 (p:=10) (q:=11) (u:=12) rfl rfl hX5' rfl hX6 Eu rfl Bh rfl rfl rfl ⟨rfl,hb6⟩
set_option maxRecDepth 100000 in
set_option maxHeartbeats 4000000 in
theorem Z4o {w:World}{f mi mg K:Nat}{r:RFs}{N:List Nd}(h:FsN w f mi mg r N)(hW:Wf r K)(i g:Int)(s:ByteArray)(hs:s.size<=maxLen)(i2 g2:Int)(s2:ByteArray)(hs2:s2.size<=maxLen)(hl:Aj r (i,g)=true)(hl2:Aj r (i2,g2)=true)(hk:(A3 r.ins i).kind=2)(hk2:(A3 r.ins i2).kind≠2) :
  Calls Tryz.prog 99 #[.pointer (some ⟨f,0,none⟩),.agg #[.int .i64 i,.int .i64 g],.string s,.agg #[.int .i64 i2,.int .i64 g2],.string s2] w
   λe w'=>e=.returned (.tuple #[.agg #[.pointer none,.pointer none,.string ⟨#[]⟩],.agg #[.pointer none,.pointer none,.string ⟨#[]⟩],.int .i64 173])/\Below w.heap.size w w':=by
 obtain⟨w2,hw2,hB,hz2,hb0,hb1,hb2,hb3⟩:=Z7l w #[.int .i64 i,.int .i64 g] #[.int .i64 i2,.int .i64 g2] #[.pointer none,.pointer none,.string ⟨#[]⟩] #[.pointer none,.pointer none,.string ⟨#[]⟩] 31 31 137 137;have t0:w2.cell? ⟨w.heap.size,0,none⟩=some (.int .i64 i):=by rw[A1 hb0];rfl
 have t1:w2.cell? ⟨w.heap.size,1,none⟩=some (.int .i64 g):=by rw[A1 hb0];rfl
 have h2:=h.below hW hB;have HW2:=aa hw2;have HB:=aa hB;have HB1:=aa hb1;have HB2:=aa hb2;have HB3:=aa hb3;have HNm:=aa (λw=>Bj s w hs);have HNm2:=aa (λw=>Bj s2 w hs2);obtain⟨a1,F1,G1⟩:=E8 h2 hW i g;obtain⟨a2,F2,G2⟩:=E8 h2 hW i2 g2;have HF1:=aa F1;have HF2:=aa F2;have fe1:Bu r (i,g)=0:=by unfold Bu;rw[dq hl]
 rw[fe1] at HF1;have fe2:Bu r (i2,g2)=0:=by unfold Bu;rw[dq hl2]
 rw[fe2] at HF2;obtain⟨n1,hn1,hr1,hi1,rfl⟩:=G1 hl;have HD1:=aa (show ∀w',Below w2.heap.size w2 w'->Calls Tryz.prog 92 #[.pointer (some ⟨n1.blk,0,none⟩)] w' λe w''=>e=.returned (.tuple #[.pointer (some ⟨n1.b,0,none⟩),.int .i64 0])/\w'=w'' from λw' hb=>by have:=Cu (hr1.below (hW.kind _ (Ac hl).1) hb);rw[dq hk] at this;exact this)
 obtain⟨n2,hn2,hr2,hi2,rfl⟩:=G2 hl2;have HD2:=aa (show ∀w',Below w2.heap.size w2 w'->Calls Tryz.prog 92 #[.pointer (some ⟨n2.blk,0,none⟩)] w' λe w''=>e=.returned (.tuple #[.pointer none,.int .i64 173])/\w'=w'' from λw' hb=>by have:=Cu (hr2.below (hW.kind _ (Ac hl2).1) hb);rw[dp hk2] at this;exact this)
 have HP1:=aa (Bx none none ⟨#[]⟩);have HP2:=aa (Bx none none ⟨#[]⟩);clear hw2 hB hb0 hb1 hb2 hb3 h h2 hW F1 F2 G1 G2 hl hl2 fe1 fe2 hk hk2 hn1 hr1 hi1 hn2 hr2 hi2
 go_enter Tryz.func99,Tryz.ntmps99
 go_wp2_with fail
 rw[HW2.out]
 go_wp2_with (first
  | (go_at_call 81;(with_reducible refine(HF1.out w2 (ab _ _)).mono ?_);rintro e w3 ⟨rfl,hB3⟩;have hs3:=hB3.size;have hY:=(hB3.block _ (by omega)).trans HB1.out;have y0:w3.cell? ⟨w.heap.size+1,0,none⟩=_:=A1 hY 0;have y1:w3.cell? ⟨w.heap.size+1,1,none⟩=_:=A1 hY 1;clear hY;replace hB3:=aa hB3)
  | (go_at_call 81;(with_reducible refine(HF2.out w3 hB3.out).mono ?_);rintro e w4 ⟨rfl,hB4⟩;have hs4:=hB4.size;have hB4':=aa (hB3.out.trans (hB4.mono hs3));clear hB4;have hXa:=aa ((hB4'.out.block _ (by omega)).trans HB2.out);have hXb:=aa ((hB4'.out.block _ (by omega)).trans HB3.out))
  | (go_at_call 92;(with_reducible refine(HD1.out _ hB4'.out).mono ?_);rintro e w5 ⟨rfl,rfl⟩)
  | (go_at_call 92;(with_reducible refine(HD2.out _ hB4'.out).mono ?_);rintro e w5 ⟨rfl,rfl⟩)
  | (go_at_call 93;(with_reducible refine(HNm.out _).mono ?_);rintro e w5 ⟨rfl,rfl⟩)
  | (go_at_call 93;(with_reducible refine(HNm2.out _).mono ?_);rintro e w5 ⟨rfl,rfl⟩)
  | (refine A6 rfl 137 (.tmp 10) (.tmp 55) rfl w4 (w.heap.size+1+1) _ _ _ rfl rfl hXa.out rfl Bh HP1.out ?_;intro w5 hX5 hG5;have hXb5:=aa ((hG5.block (w.heap.size+1+1+1) (by omega) (by intro e;injection e with e;omega)).trans hXb.out);replace hX5:=aa hX5;replace hG5:=aa hG5)
  | (refine A6 rfl 137 (.tmp 11) (.tmp 56) rfl w5 (w.heap.size+1+1+1) _ _ _ rfl rfl hXb5.out rfl Bh HP2.out ?_;intro w6 hX6 hG6))
 have hb5:=Below.grownBy (HB.out.trans (hB4'.out.mono (by omega))) hG5.out (by omega) (λk hk=>by injection hk with hk;omega);have hb6:=Below.grownBy hb5 hG6 hb5.size (λk hk=>by injection hk with hk;omega);have hX5':=(hG6.block (w.heap.size+1+1) (by have:=hG5.out.size;omega) (by intro e;injection e with e;omega)).trans hX5.out;exact C2 (p:=10) (q:=11) (u:=12) rfl rfl hX5' rfl hX6 Eu rfl Bh rfl rfl rfl ⟨rfl,hb6⟩
set_option maxRecDepth 100000 in
set_option maxHeartbeats 4000000 in
theorem Z3v {w:World}{f mi mg K:Nat}{r:RFs}{N:List Nd}(h:FsN w f mi mg r N)(hW:Wf r K)(i g:Int)(s:ByteArray)(hs:s.size<=maxLen)(i2 g2:Int)(s2:ByteArray)(hs2:s2.size<=maxLen)(hl:Aj r (i,g)=true)(hl2:Aj r (i2,g2)=true)(hk:(A3 r.ins i).kind=2)(hk2:(A3 r.ins i2).kind=2)(hv:¬Ae s=true) :
  Calls Tryz.prog 99 #[.pointer (some ⟨f,0,none⟩),.agg #[.int .i64 i,.int .i64 g],.string s,.agg #[.int .i64 i2,.int .i64 g2],.string s2] w
   λe w'=>e=.returned (.tuple #[.agg #[.pointer none,.pointer none,.string ⟨#[]⟩],.agg #[.pointer none,.pointer none,.string ⟨#[]⟩],.int .i64 176])/\Below w.heap.size w w':=by
 obtain⟨w2,hw2,hB,hz2,hb0,hb1,hb2,hb3⟩:=Z7l w #[.int .i64 i,.int .i64 g] #[.int .i64 i2,.int .i64 g2] #[.pointer none,.pointer none,.string ⟨#[]⟩] #[.pointer none,.pointer none,.string ⟨#[]⟩] 31 31 137 137;have t0:w2.cell? ⟨w.heap.size,0,none⟩=some (.int .i64 i):=by rw[A1 hb0];rfl
 have t1:w2.cell? ⟨w.heap.size,1,none⟩=some (.int .i64 g):=by rw[A1 hb0];rfl
 have h2:=h.below hW hB;have HW2:=aa hw2;have HB:=aa hB;have HB1:=aa hb1;have HB2:=aa hb2;have HB3:=aa hb3;have HNm:=aa (λw=>Bj s w hs);have HNm2:=aa (λw=>Bj s2 w hs2);obtain⟨a1,F1,G1⟩:=E8 h2 hW i g;obtain⟨a2,F2,G2⟩:=E8 h2 hW i2 g2;have HF1:=aa F1;have HF2:=aa F2;have fe1:Bu r (i,g)=0:=by unfold Bu;rw[dq hl]
 rw[fe1] at HF1;have fe2:Bu r (i2,g2)=0:=by unfold Bu;rw[dq hl2]
 rw[fe2] at HF2;rw[show Ed s=176 by unfold Ed;rw[dp hv]] at HNm;generalize Ed s2=e2 at *;obtain⟨n1,hn1,hr1,hi1,rfl⟩:=G1 hl;have HD1:=aa (show ∀w',Below w2.heap.size w2 w'->Calls Tryz.prog 92 #[.pointer (some ⟨n1.blk,0,none⟩)] w' λe w''=>e=.returned (.tuple #[.pointer (some ⟨n1.b,0,none⟩),.int .i64 0])/\w'=w'' from λw' hb=>by have:=Cu (hr1.below (hW.kind _ (Ac hl).1) hb);rw[dq hk] at this;exact this)
 obtain⟨n2,hn2,hr2,hi2,rfl⟩:=G2 hl2;have HD2:=aa (show ∀w',Below w2.heap.size w2 w'->Calls Tryz.prog 92 #[.pointer (some ⟨n2.blk,0,none⟩)] w' λe w''=>e=.returned (.tuple #[.pointer (some ⟨n2.b,0,none⟩),.int .i64 0])/\w'=w'' from λw' hb=>by have:=Cu (hr2.below (hW.kind _ (Ac hl2).1) hb);rw[dq hk2] at this;exact this)
 have HP1:=aa (Bx none none ⟨#[]⟩);have HP2:=aa (Bx none none ⟨#[]⟩);clear hw2 hB hb0 hb1 hb2 hb3 h h2 hW F1 F2 G1 G2 hl hl2 fe1 fe2 hk hk2 hv hn1 hr1 hi1 hn2 hr2 hi2
 go_enter Tryz.func99,Tryz.ntmps99
 go_wp2_with fail
 rw[HW2.out]
 go_wp2_with (first
  | (go_at_call 81;(with_reducible refine(HF1.out w2 (ab _ _)).mono ?_);rintro e w3 ⟨rfl,hB3⟩;have hs3:=hB3.size;have hY:=(hB3.block _ (by omega)).trans HB1.out;have y0:w3.cell? ⟨w.heap.size+1,0,none⟩=_:=A1 hY 0;have y1:w3.cell? ⟨w.heap.size+1,1,none⟩=_:=A1 hY 1;clear hY;replace hB3:=aa hB3)
  | (go_at_call 81;(with_reducible refine(HF2.out w3 hB3.out).mono ?_);rintro e w4 ⟨rfl,hB4⟩;have hs4:=hB4.size;have hB4':=aa (hB3.out.trans (hB4.mono hs3));clear hB4;have hXa:=aa ((hB4'.out.block _ (by omega)).trans HB2.out);have hXb:=aa ((hB4'.out.block _ (by omega)).trans HB3.out))
  | (go_at_call 92;(with_reducible refine(HD1.out _ hB4'.out).mono ?_);rintro e w5 ⟨rfl,rfl⟩)
  | (go_at_call 92;(with_reducible refine(HD2.out _ hB4'.out).mono ?_);rintro e w5 ⟨rfl,rfl⟩)
  | (go_at_call 93;(with_reducible refine(HNm.out _).mono ?_);rintro e w5 ⟨rfl,rfl⟩)
  | (go_at_call 93;(with_reducible refine(HNm2.out _).mono ?_);rintro e w5 ⟨rfl,rfl⟩)
  | (refine A6 rfl 137 (.tmp 10) (.tmp 65) rfl w4 (w.heap.size+1+1) _ _ _ rfl rfl hXa.out rfl Bh HP1.out ?_;intro w5 hX5 hG5;have hXb5:=aa ((hG5.block (w.heap.size+1+1+1) (by omega) (by intro e;injection e with e;omega)).trans hXb.out);replace hX5:=aa hX5;replace hG5:=aa hG5)
  | (refine A6 rfl 137 (.tmp 11) (.tmp 66) rfl w5 (w.heap.size+1+1+1) _ _ _ rfl rfl hXb5.out rfl Bh HP2.out ?_;intro w6 hX6 hG6))
 have hb5:=Below.grownBy (HB.out.trans (hB4'.out.mono (by omega))) hG5.out (by omega) (λk hk=>by injection hk with hk;omega);have hb6:=Below.grownBy hb5 hG6 hb5.size (λk hk=>by injection hk with hk;omega);have hX5':=(hG6.block (w.heap.size+1+1) (by have:=hG5.out.size;omega) (by intro e;injection e with e;omega)).trans hX5.out;exact C2 (p:=10) (q:=11) (u:=12) rfl rfl hX5' rfl hX6 Eu rfl Bh rfl rfl rfl ⟨rfl,hb6⟩
set_option maxRecDepth 100000 in
set_option maxHeartbeats 4000000 in
theorem Z34 {w:World}{f mi mg K:Nat}{r:RFs}{N:List Nd}(h:FsN w f mi mg r N)(hW:Wf r K)(i g:Int)(s:ByteArray)(hs:s.size<=maxLen)(i2 g2:Int)(s2:ByteArray)(hs2:s2.size<=maxLen)(hl:Aj r (i,g)=true)(hl2:Aj r (i2,g2)=true)(hk:(A3 r.ins i).kind=2)(hk2:(A3 r.ins i2).kind=2)(hv:Ae s=true)(hv2:¬Ae s2=true) :
  Calls Tryz.prog 99 #[.pointer (some ⟨f,0,none⟩),.agg #[.int .i64 i,.int .i64 g],.string s,.agg #[.int .i64 i2,.int .i64 g2],.string s2] w
   λe w'=>e=.returned (.tuple #[.agg #[.pointer none,.pointer none,.string ⟨#[]⟩],.agg #[.pointer none,.pointer none,.string ⟨#[]⟩],.int .i64 176])/\Below w.heap.size w w':=by
 obtain⟨w2,hw2,hB,hz2,hb0,hb1,hb2,hb3⟩:=Z7l w #[.int .i64 i,.int .i64 g] #[.int .i64 i2,.int .i64 g2] #[.pointer none,.pointer none,.string ⟨#[]⟩] #[.pointer none,.pointer none,.string ⟨#[]⟩] 31 31 137 137;have t0:w2.cell? ⟨w.heap.size,0,none⟩=some (.int .i64 i):=by rw[A1 hb0];rfl
 have t1:w2.cell? ⟨w.heap.size,1,none⟩=some (.int .i64 g):=by rw[A1 hb0];rfl
 have h2:=h.below hW hB;have HW2:=aa hw2;have HB:=aa hB;have HB1:=aa hb1;have HB2:=aa hb2;have HB3:=aa hb3;have HNm:=aa (λw=>Bj s w hs);have HNm2:=aa (λw=>Bj s2 w hs2);obtain⟨a1,F1,G1⟩:=E8 h2 hW i g;obtain⟨a2,F2,G2⟩:=E8 h2 hW i2 g2;have HF1:=aa F1;have HF2:=aa F2;have fe1:Bu r (i,g)=0:=by unfold Bu;rw[dq hl]
 rw[fe1] at HF1;have fe2:Bu r (i2,g2)=0:=by unfold Bu;rw[dq hl2]
 rw[fe2] at HF2;rw[show Ed s=0 by unfold Ed;rw[dq hv]] at HNm;rw[show Ed s2=176 by unfold Ed;rw[dp hv2]] at HNm2;obtain⟨n1,hn1,hr1,hi1,rfl⟩:=G1 hl;have HD1:=aa (show ∀w',Below w2.heap.size w2 w'->Calls Tryz.prog 92 #[.pointer (some ⟨n1.blk,0,none⟩)] w' λe w''=>e=.returned (.tuple #[.pointer (some ⟨n1.b,0,none⟩),.int .i64 0])/\w'=w'' from λw' hb=>by have:=Cu (hr1.below (hW.kind _ (Ac hl).1) hb);rw[dq hk] at this;exact this)
 obtain⟨n2,hn2,hr2,hi2,rfl⟩:=G2 hl2;have HD2:=aa (show ∀w',Below w2.heap.size w2 w'->Calls Tryz.prog 92 #[.pointer (some ⟨n2.blk,0,none⟩)] w' λe w''=>e=.returned (.tuple #[.pointer (some ⟨n2.b,0,none⟩),.int .i64 0])/\w'=w'' from λw' hb=>by have:=Cu (hr2.below (hW.kind _ (Ac hl2).1) hb);rw[dq hk2] at this;exact this)
 have HP1:=aa (Bx none none ⟨#[]⟩);have HP2:=aa (Bx none none ⟨#[]⟩);clear hw2 hB hb0 hb1 hb2 hb3 h h2 hW F1 F2 G1 G2 hl hl2 fe1 fe2 hk hk2 hv hv2 hn1 hr1 hi1 hn2 hr2 hi2
 go_enter Tryz.func99,Tryz.ntmps99
 go_wp2_with fail
 rw[HW2.out]
 go_wp2_with (first
  | (go_at_call 81;(with_reducible refine(HF1.out w2 (ab _ _)).mono ?_);rintro e w3 ⟨rfl,hB3⟩;have hs3:=hB3.size;have hY:=(hB3.block _ (by omega)).trans HB1.out;have y0:w3.cell? ⟨w.heap.size+1,0,none⟩=_:=A1 hY 0;have y1:w3.cell? ⟨w.heap.size+1,1,none⟩=_:=A1 hY 1;clear hY;replace hB3:=aa hB3)
  | (go_at_call 81;(with_reducible refine(HF2.out w3 hB3.out).mono ?_);rintro e w4 ⟨rfl,hB4⟩;have hs4:=hB4.size;have hB4':=aa (hB3.out.trans (hB4.mono hs3));clear hB4;have hXa:=aa ((hB4'.out.block _ (by omega)).trans HB2.out);have hXb:=aa ((hB4'.out.block _ (by omega)).trans HB3.out))
  | (go_at_call 92;(with_reducible refine(HD1.out _ hB4'.out).mono ?_);rintro e w5 ⟨rfl,rfl⟩)
  | (go_at_call 92;(with_reducible refine(HD2.out _ hB4'.out).mono ?_);rintro e w5 ⟨rfl,rfl⟩)
  | (go_at_call 93;(with_reducible refine(HNm.out _).mono ?_);rintro e w5 ⟨rfl,rfl⟩)
  | (go_at_call 93;(with_reducible refine(HNm2.out _).mono ?_);rintro e w5 ⟨rfl,rfl⟩)
  | (refine A6 rfl 137 (.tmp 10) (.tmp 65) rfl w4 (w.heap.size+1+1) _ _ _ rfl rfl hXa.out rfl Bh HP1.out ?_;intro w5 hX5 hG5;have hXb5:=aa ((hG5.block (w.heap.size+1+1+1) (by omega) (by intro e;injection e with e;omega)).trans hXb.out);replace hX5:=aa hX5;replace hG5:=aa hG5)
  | (refine A6 rfl 137 (.tmp 11) (.tmp 66) rfl w5 (w.heap.size+1+1+1) _ _ _ rfl rfl hXb5.out rfl Bh HP2.out ?_;intro w6 hX6 hG6))
 have hb5:=Below.grownBy (HB.out.trans (hB4'.out.mono (by omega))) hG5.out (by omega) (λk hk=>by injection hk with hk;omega);have hb6:=Below.grownBy hb5 hG6 hb5.size (λk hk=>by injection hk with hk;omega);have hX5':=(hG6.block (w.heap.size+1+1) (by have:=hG5.out.size;omega) (by intro e;injection e with e;omega)).trans hX5.out;exact C2 (p:=10) (q:=11) (u:=12) rfl rfl hX5' rfl hX6 Eu rfl Bh rfl rfl rfl ⟨rfl,hb6⟩
set_option maxRecDepth 100000 in
set_option maxHeartbeats 4000000 in
theorem Bv {w:World}{f mi mg K:Nat}{r:RFs}{N:List Nd}(h:FsN w f mi mg r N)(hW:Wf r K)(i g:Int)(s:ByteArray)(hs:s.size<=maxLen)(i2 g2:Int)(s2:ByteArray)(hs2:s2.size<=maxLen)(hl:Aj r (i,g)=true)(hl2:Aj r (i2,g2)=true)(hk:(A3 r.ins i).kind=2)(hk2:(A3 r.ins i2).kind=2)(hv:Ae s=true)(hv2:Ae s2=true){n1 n2:Nd}(hm1:n1∈N)(hm2:n2∈N)(hj1:n1.id=i)(hj2:n2.id=i2) :
  Calls Tryz.prog 99 #[.pointer (some ⟨f,0,none⟩),.agg #[.int .i64 i,.int .i64 g],.string s,.agg #[.int .i64 i2,.int .i64 g2],.string s2] w
   λe w'=>e=.returned (.tuple #[.agg #[.pointer (some ⟨n1.blk,0,none⟩),.pointer (some ⟨n1.b,0,none⟩),.string s],.agg #[.pointer (some ⟨n2.blk,0,none⟩),.pointer (some ⟨n2.b,0,none⟩),.string s2],.int .i64 0])/\Below w.heap.size w w':=by
 obtain⟨w2,hw2,hB,hz2,hb0,hb1,hb2,hb3⟩:=Z7l w #[.int .i64 i,.int .i64 g] #[.int .i64 i2,.int .i64 g2] #[.pointer none,.pointer none,.string ⟨#[]⟩] #[.pointer none,.pointer none,.string ⟨#[]⟩] 31 31 137 137;have t0:w2.cell? ⟨w.heap.size,0,none⟩=some (.int .i64 i):=by rw[A1 hb0];rfl
 have t1:w2.cell? ⟨w.heap.size,1,none⟩=some (.int .i64 g):=by rw[A1 hb0];rfl
 have h2:=h.below hW hB;have HW2:=aa hw2;have HB:=aa hB;have HB1:=aa hb1;have HB2:=aa hb2;have HB3:=aa hb3;have HNm:=aa (λw=>Bj s w hs);have HNm2:=aa (λw=>Bj s2 w hs2);obtain⟨a1,F1,G1⟩:=E8 h2 hW i g;obtain⟨a2,F2,G2⟩:=E8 h2 hW i2 g2;have HF1:=aa F1;have HF2:=aa F2;have fe1:Bu r (i,g)=0:=by unfold Bu;rw[dq hl]
 rw[fe1] at HF1;have fe2:Bu r (i2,g2)=0:=by unfold Bu;rw[dq hl2]
 rw[fe2] at HF2;rw[show Ed s=0 by unfold Ed;rw[dq hv]] at HNm;rw[show Ed s2=0 by unfold Ed;rw[dq hv2]] at HNm2;obtain⟨m1,hn1,hr1,hi1,rfl⟩:=G1 hl;obtain rfl:n1=m1:=Ba h.idU hm1 hn1 (hj1.trans hi1.symm);have HD1:=aa (show ∀w',Below w2.heap.size w2 w'->Calls Tryz.prog 92 #[.pointer (some ⟨n1.blk,0,none⟩)] w' λe w''=>e=.returned (.tuple #[.pointer (some ⟨n1.b,0,none⟩),.int .i64 0])/\w'=w'' from λw' hb=>by have:=Cu (hr1.below (hW.kind _ (Ac hl).1) hb);rw[dq hk] at this;exact this)
 obtain⟨m2,hn2,hr2,hi2,rfl⟩:=G2 hl2;obtain rfl:n2=m2:=Ba h.idU hm2 hn2 (hj2.trans hi2.symm);have HD2:=aa (show ∀w',Below w2.heap.size w2 w'->Calls Tryz.prog 92 #[.pointer (some ⟨n2.blk,0,none⟩)] w' λe w''=>e=.returned (.tuple #[.pointer (some ⟨n2.b,0,none⟩),.int .i64 0])/\w'=w'' from λw' hb=>by have:=Cu (hr2.below (hW.kind _ (Ac hl2).1) hb);rw[dq hk2] at this;exact this)
 have HP1:=aa (Bx (some ⟨n1.blk,0,none⟩) (some ⟨n1.b,0,none⟩) s);have HP2:=aa (Bx (some ⟨n2.blk,0,none⟩) (some ⟨n2.b,0,none⟩) s2);clear hw2 hB hb0 hb1 hb2 hb3 h h2 hW F1 F2 G1 G2 hl hl2 fe1 fe2 hk hk2 hv hv2 hj1 hj2 hn1 hr1 hi1 hn2 hr2 hi2
 go_enter Tryz.func99,Tryz.ntmps99
 go_wp2_with fail
 rw[HW2.out]
 go_wp2_with (first
  | (go_at_call 81;(with_reducible refine(HF1.out w2 (ab _ _)).mono ?_);rintro e w3 ⟨rfl,hB3⟩;have hs3:=hB3.size;have hY:=(hB3.block _ (by omega)).trans HB1.out;have y0:w3.cell? ⟨w.heap.size+1,0,none⟩=_:=A1 hY 0;have y1:w3.cell? ⟨w.heap.size+1,1,none⟩=_:=A1 hY 1;clear hY;replace hB3:=aa hB3)
  | (go_at_call 81;(with_reducible refine(HF2.out w3 hB3.out).mono ?_);rintro e w4 ⟨rfl,hB4⟩;have hs4:=hB4.size;have hB4':=aa (hB3.out.trans (hB4.mono hs3));clear hB4;have hXa:=aa ((hB4'.out.block _ (by omega)).trans HB2.out);have hXb:=aa ((hB4'.out.block _ (by omega)).trans HB3.out))
  | (go_at_call 92;(with_reducible refine(HD1.out _ hB4'.out).mono ?_);rintro e w5 ⟨rfl,rfl⟩)
  | (go_at_call 92;(with_reducible refine(HD2.out _ hB4'.out).mono ?_);rintro e w5 ⟨rfl,rfl⟩)
  | (go_at_call 93;(with_reducible refine(HNm.out _).mono ?_);rintro e w5 ⟨rfl,rfl⟩)
  | (go_at_call 93;(with_reducible refine(HNm2.out _).mono ?_);rintro e w5 ⟨rfl,rfl⟩)
  | (refine A6 rfl 137 (.tmp 10) (.tmp 70) rfl w4 (w.heap.size+1+1) _ _ _ rfl rfl hXa.out rfl Bh HP1.out ?_;intro w5 hX5 hG5;have hXb5:=aa ((hG5.block (w.heap.size+1+1+1) (by omega) (by intro e;injection e with e;omega)).trans hXb.out);replace hX5:=aa hX5;replace hG5:=aa hG5)
  | (refine A6 rfl 137 (.tmp 11) (.tmp 74) rfl w5 (w.heap.size+1+1+1) _ _ _ rfl rfl hXb5.out rfl Bh HP2.out ?_;intro w6 hX6 hG6))
 have hb5:=Below.grownBy (HB.out.trans (hB4'.out.mono (by omega))) hG5.out (by omega) (λk hk=>by injection hk with hk;omega);have hb6:=Below.grownBy hb5 hG6 hb5.size (λk hk=>by injection hk with hk;omega);have hX5':=(hG6.block (w.heap.size+1+1) (by have:=hG5.out.size;omega) (by intro e;injection e with e;omega)).trans hX5.out;exact C2 (p:=10) (q:=11) (u:=12) rfl rfl hX5' rfl hX6 Eu rfl Bh rfl rfl rfl ⟨rfl,hb6⟩
end Go.Proofs.YtmmdikhljefeiaaGreat
