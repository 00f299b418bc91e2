
import Derived.Test.YtmmdikhljefeiaaGreatYFsC
import Derived.Test.YtmmdikhljefeiaaGreatOwnM
namespace Go.Proofs.YtmmdikhljefeiaaGreat
open Go.RowKit Go.MapKept
theorem Bh:(Tryz.prog.info? 137).map (·.size)=some 3:=by kernel_rfl
theorem Eu:Tryz.prog.underlying 137=some (.struct (Tryz.prog.fieldsOf 137)):=by kernel_rfl
theorem Ji:(Tryz.prog.info? 31).map (·.size)=some 2:=by kernel_rfl
theorem Uz:Tryz.prog.underlying 31=some (.struct (Tryz.prog.fieldsOf 31)):=by kernel_rfl
theorem X7 {r:RFs}{h:Int × Int}{s:ByteArray}{free:Bool}(a:Ab r h=0):B2 r h s free=if free=true/\(s=Mu\/s=dot2S) then 0 else Ed s:=by unfold B2 Ed;rw[dp (by simp[a])]
theorem Bn {r:RFs}{h:Int × Int}(a:Ab r h=0):Aj r h=true/\(A3 r.ins h.1).kind=2:=by
 unfold Ab at a;split at a
 .rename_i h1
  split at a
  .rename_i h2;exact⟨h1,h2⟩
  .cases a
 .cases a
theorem Bx (a b:Option Addr)(s:ByteArray):∀v∈(#[.pointer a,.pointer b,.string s]:Array Value).toList,v.oneCell'=true:=λv c=>by simp at c;rcases c with rfl | rfl | rfl<;>rfl
theorem Ch (a b:Int):∀v∈(#[.int .i64 a,.int .i64 b]:Array Value).toList,v.oneCell'=true:=λv c=>by simp at c;rcases c with rfl | rfl<;>rfl
set_option maxRecDepth 100000 in
set_option maxHeartbeats 2000000 in
theorem E5 {w:World}{f mi mg K:Nat}{r:RFs}{N:List Nd}(h:FsN w f mi mg r N)(hW:Wf r K)(i g:Int)(s:ByteArray)(hs:s.size<=maxLen)(free:Bool)(hf:Ab r (i,g)=0){n:Nd}(hn:n∈N)(hi:n.id=i) :
  Calls Tryz.prog 58 #[.pointer (some ⟨f,0,none⟩),.agg #[.int .i64 i,.int .i64 g],.string s,.bool free] w
   λe w'=>e=.returned (.tuple #[.agg #[.pointer (some ⟨n.blk,0,none⟩),.pointer (some ⟨n.b,0,none⟩),.string s],.int .i64 (B2 r (i,g) s free)])/\Below w.heap.size w w':=by
 obtain⟨hl,hk2⟩:=Bn hf;rw[X7 hf];obtain⟨w2,hw2⟩:∃w2,(w.alloc (.cells #[.int .i64 i,.int .i64 g] 31)).alloc (.cells #[.pointer none,.pointer none,.string ⟨#[]⟩] 137)=w2:=⟨_,rfl⟩;have hB:Below w.heap.size w w2:=by rw[<-hw2];exact((ab _ _).alloc (av _) _).alloc (by simp) _
 have hs2:w2.heap.size=w.heap.size+1+1:=by rw[<-hw2];simp
 have hb0:w2.heap[w.heap.size]?=some (.cells #[.int .i64 i,.int .i64 g] 31 (0,0)):=by rw[<-hw2];exact(ae _ _ _ (by simp)).trans (heap_alloc_new _ _)
 have hb1:w2.heap[w.heap.size+1]?=some (.cells #[.pointer none,.pointer none,.string ⟨#[]⟩] 137 (0,0)):=by rw[<-hw2];have:=heap_alloc_new (w.alloc (.cells #[.int .i64 i,.int .i64 g] 31)) (.cells #[.pointer none,.pointer none,.string ⟨#[]⟩] 137);simpa using this
 have t0:w2.cell? ⟨w.heap.size,0,none⟩=some (.int .i64 i):=by rw[A1 hb0];rfl
 have t1:w2.cell? ⟨w.heap.size,1,none⟩=some (.int .i64 g):=by rw[A1 hb0];rfl
 have h2:=h.below hW hB;have HFd:=aa (Ec h2 hW i g hl hn hi);have HDr:=aa (show ∀w',Below w2.heap.size w2 w'->Calls Tryz.prog 92 #[.pointer (some ⟨n.blk,0,none⟩)] w' λe w''=>e=.returned (.tuple #[De n.b,.int .i64 0])/\w'=w'' from λw' hb=>by
  obtain⟨x,hx,hr⟩:=(h2.below hW hb).node n hn;have hkx:x.kind=2:=by have e:=hW.byId hx;rw[<-hr.id,hi] at e;rw[<-e];exact hk2
  have:=Cu hr;rw[dq hkx] at this;exact this)
 have HNm:=aa (λw=>Bj s w hs);have HW2:=aa hw2;have HB:=aa hB;have HB1:=aa hb1;have HPv:=aa (Bx (some ⟨n.blk,0,none⟩) (some ⟨n.b,0,none⟩) s);have key:∀(e0:Int),(∀w3,Below w2.heap.size w2 w3->True)->True:=λ_ _=>trivial;have hcs:free=false\/free=true/\(s=Mu\/s=dot2S\/¬s.toList=[46]/\¬s.toList=[46,46]/\s≠Mu/\s≠dot2S):=by
  by_cases h1:s=Mu
  .cases free<;>simp[h1]
  .by_cases h2:s=dot2S
   .cases free<;>simp[h2]
   .have h3:¬s.toList=[46]:=λe=>h1 (Dy e);have h4:¬s.toList=[46,46]:=λe=>h2 (Dy e);cases free<;>simp[h1,h2,h3,h4]
 clear hw2 hB hb0 hb1 h h2 hW hn hi hl hk2 hf key;unfold De at HFd HDr;rcases hcs with rfl | ⟨rfl,rfl | rfl | ⟨q1,q2,q3,q4⟩⟩
 .rw[dp (by simp)];generalize Ed s=ne at *
  go_enter Tryz.func58,Tryz.ntmps58
  go_wp2_with fail
  rw[HW2.out]
  go_wp2_with (first
   | (go_at_call 81;(with_reducible refine HFd.out.mono ?_);rintro e w3 ⟨rfl,hB3⟩;have hX3:=(hB3.block _ (by omega)).trans HB1.out;have hs3:=hB3.size;replace hB3:=aa hB3;replace hX3:=aa hX3)
   | (go_at_call 92;(with_reducible refine(HDr.out _ hB3.out).mono ?_);rintro e w4 ⟨rfl,rfl⟩)
   | (go_at_call 93;(with_reducible refine(HNm.out _).mono ?_);rintro e w4 ⟨rfl,rfl⟩)
   | (refine A6 rfl 137 (.tmp 8) (.tmp 47) rfl w3 (w.heap.size+1) _ _ _ rfl rfl hX3.out rfl Bh HPv.out ?_;intro w5 hX5 hG5))
  have hb5:=Below.grownBy (HB.out.trans (hB3.out.mono (by omega))) hG5 (by omega) (λk hk=>by injection hk with hk;omega);exact Ag (p:=8) (u:=9) rfl rfl hX5 Eu rfl Bh rfl rfl ⟨rfl,hb5⟩
 .rw[dq (by simp)];unfold Mu at *
  go_enter Tryz.func58,Tryz.ntmps58
  go_wp2_with fail
  rw[HW2.out]
  go_wp2_with (first
   | (go_at_call 81;(with_reducible refine HFd.out.mono ?_);rintro e w3 ⟨rfl,hB3⟩;have hX3:=(hB3.block _ (by omega)).trans HB1.out;have hs3:=hB3.size;replace hB3:=aa hB3;replace hX3:=aa hX3)
   | (go_at_call 92;(with_reducible refine(HDr.out _ hB3.out).mono ?_);rintro e w4 ⟨rfl,rfl⟩)
   | (go_at_call 93;(with_reducible refine(HNm.out _).mono ?_);rintro e w4 ⟨rfl,rfl⟩)
   | (refine A6 rfl 137 (.tmp 8) (.tmp 47) rfl w3 (w.heap.size+1) _ _ _ rfl rfl hX3.out rfl Bh HPv.out ?_;intro w5 hX5 hG5))
  have hb5:=Below.grownBy (HB.out.trans (hB3.out.mono (by omega))) hG5 (by omega) (λk hk=>by injection hk with hk;omega);exact Ag (p:=8) (u:=9) rfl rfl hX5 Eu rfl Bh rfl rfl ⟨rfl,hb5⟩
 .rw[dq (by simp)];unfold dot2S at *
  go_enter Tryz.func58,Tryz.ntmps58
  go_wp2_with fail
  rw[HW2.out]
  go_wp2_with (first
   | (go_at_call 81;(with_reducible refine HFd.out.mono ?_);rintro e w3 ⟨rfl,hB3⟩;have hX3:=(hB3.block _ (by omega)).trans HB1.out;have hs3:=hB3.size;replace hB3:=aa hB3;replace hX3:=aa hX3)
   | (go_at_call 92;(with_reducible refine(HDr.out _ hB3.out).mono ?_);rintro e w4 ⟨rfl,rfl⟩)
   | (go_at_call 93;(with_reducible refine(HNm.out _).mono ?_);rintro e w4 ⟨rfl,rfl⟩)
   | (refine A6 rfl 137 (.tmp 8) (.tmp 47) rfl w3 (w.heap.size+1) _ _ _ rfl rfl hX3.out rfl Bh HPv.out ?_;intro w5 hX5 hG5))
  have hb5:=Below.grownBy (HB.out.trans (hB3.out.mono (by omega))) hG5 (by omega) (λk hk=>by injection hk with hk;omega);exact Ag (p:=8) (u:=9) rfl rfl hX5 Eu rfl Bh rfl rfl ⟨rfl,hb5⟩
 .rw[dp (by simp[q3,q4])];generalize Ed s=ne at *;have q5:(s.toList==[46])=false:=by simp[q1]
  have q6:(s.toList==[46,46])=false:=by simp[q2]
  clear q1 q2 q3 q4
  go_enter Tryz.func58,Tryz.ntmps58
  go_wp2_with fail
  rw[HW2.out]
  go_wp2_with (first
   | (go_at_call 81;(with_reducible refine HFd.out.mono ?_);rintro e w3 ⟨rfl,hB3⟩;have hX3:=(hB3.block _ (by omega)).trans HB1.out;have hs3:=hB3.size;replace hB3:=aa hB3;replace hX3:=aa hX3)
   | (go_at_call 92;(with_reducible refine(HDr.out _ hB3.out).mono ?_);rintro e w4 ⟨rfl,rfl⟩)
   | (go_at_call 93;(with_reducible refine(HNm.out _).mono ?_);rintro e w4 ⟨rfl,rfl⟩)
   | (refine A6 rfl 137 (.tmp 8) (.tmp 47) rfl w3 (w.heap.size+1) _ _ _ rfl rfl hX3.out rfl Bh HPv.out ?_;intro w5 hX5 hG5))
  have hb5:=Below.grownBy (HB.out.trans (hB3.out.mono (by omega))) hG5 (by omega) (λk hk=>by injection hk with hk;omega);exact Ag (p:=8) (u:=9) rfl rfl hX5 Eu rfl Bh rfl rfl ⟨rfl,hb5⟩
set_option maxRecDepth 100000 in
set_option maxHeartbeats 2000000 in
theorem Z10 {w:World}{f mi mg K:Nat}{r:RFs}{N:List Nd}(h:FsN w f mi mg r N)(hW:Wf r K)(i g:Int)(s:ByteArray)(free:Bool)(hf:Ab r (i,g)≠0) :
  Calls Tryz.prog 58 #[.pointer (some ⟨f,0,none⟩),.agg #[.int .i64 i,.int .i64 g],.string s,.bool free] w
   λe w'=>e=.returned (.tuple #[.agg #[.pointer none,.pointer none,.string ⟨#[]⟩],.int .i64 (B2 r (i,g) s free)])/\Below w.heap.size w w':=by
 rw[show B2 r (i,g) s free=Ab r (i,g) by unfold B2;rw[dq hf]];obtain⟨w2,hw2⟩:∃w2,(w.alloc (.cells #[.int .i64 i,.int .i64 g] 31)).alloc (.cells #[.pointer none,.pointer none,.string ⟨#[]⟩] 137)=w2:=⟨_,rfl⟩;have hB:Below w.heap.size w w2:=by rw[<-hw2];exact((ab _ _).alloc (av _) _).alloc (by simp) _
 have hs2:w2.heap.size=w.heap.size+1+1:=by rw[<-hw2];simp
 have hb0:w2.heap[w.heap.size]?=some (.cells #[.int .i64 i,.int .i64 g] 31 (0,0)):=by rw[<-hw2];exact(ae _ _ _ (by simp)).trans (heap_alloc_new _ _)
 have hb1:w2.heap[w.heap.size+1]?=some (.cells #[.pointer none,.pointer none,.string ⟨#[]⟩] 137 (0,0)):=by rw[<-hw2];have:=heap_alloc_new (w.alloc (.cells #[.int .i64 i,.int .i64 g] 31)) (.cells #[.pointer none,.pointer none,.string ⟨#[]⟩] 137);simpa using this
 have t0:w2.cell? ⟨w.heap.size,0,none⟩=some (.int .i64 i):=by rw[A1 hb0];rfl
 have t1:w2.cell? ⟨w.heap.size,1,none⟩=some (.int .i64 g):=by rw[A1 hb0];rfl
 have h2:=h.below hW hB;have HW2:=aa hw2;have HB:=aa hB;have HB1:=aa hb1;have HPv:=aa (Bx none none ⟨#[]⟩);cases hl:Aj r (i,g)
 .rw[show Ab r (i,g)=175 by unfold Ab;rw[hl];rfl];have HFd:=aa (Hv h2 hW i g hl);clear hw2 hB hb0 hb1 h h2 hW hl hf
  go_enter Tryz.func58,Tryz.ntmps58
  go_wp2_with fail
  rw[HW2.out]
  go_wp2_with (first
   | (go_at_call 81;(with_reducible refine HFd.out.mono ?_);rintro e w3 ⟨rfl,hB3⟩;have hX3:=(hB3.block _ (by omega)).trans HB1.out;have hs3:=hB3.size;replace hB3:=aa hB3;replace hX3:=aa hX3)
   | (refine A6 rfl 137 (.tmp 8) (.tmp 21) rfl w3 (w.heap.size+1) _ _ _ rfl rfl hX3.out rfl Bh HPv.out ?_;intro w5 hX5 hG5))
  have hb5:=Below.grownBy (HB.out.trans (hB3.out.mono (by omega))) hG5 (by omega) (λk hk=>by injection hk with hk;omega);exact Ag (p:=8) (u:=9) rfl rfl hX5 Eu rfl Bh rfl rfl ⟨rfl,hb5⟩
 .have hk:(A3 r.ins i).kind≠2:=λe=>hf (by unfold Ab;rw[dq hl,dq e]);rw[show Ab r (i,g)=173 by unfold Ab;rw[dq hl,dp hk]];obtain⟨m1,m2,_⟩:=Ac hl;obtain⟨n,hn,hr⟩:=h2.at_ hW m1;have HFd:=aa (Ec h2 hW i g hl hn (hr.id.trans m2));have HDr:=aa (show ∀w',Below w2.heap.size w2 w'->Calls Tryz.prog 92 #[.pointer (some ⟨n.blk,0,none⟩)] w' λe w''=>e=.returned (.tuple #[.pointer none,.int .i64 173])/\w'=w'' from λw' hb=>by
   have:=Cu (hr.below (hW.kind _ m1) hb);rw[dp hk] at this;exact this)
  unfold De at HFd;clear hw2 hB hb0 hb1 h h2 hW hl hf hk m1 m2 hn hr
  go_enter Tryz.func58,Tryz.ntmps58
  go_wp2_with fail
  rw[HW2.out]
  go_wp2_with (first
   | (go_at_call 81;(with_reducible refine HFd.out.mono ?_);rintro e w3 ⟨rfl,hB3⟩;have hX3:=(hB3.block _ (by omega)).trans HB1.out;have hs3:=hB3.size;replace hB3:=aa hB3;replace hX3:=aa hX3)
   | (go_at_call 92;(with_reducible refine(HDr.out _ hB3.out).mono ?_);rintro e w4 ⟨rfl,rfl⟩)
   | (refine A6 rfl 137 (.tmp 8) (.tmp 30) rfl w3 (w.heap.size+1) _ _ _ rfl rfl hX3.out rfl Bh HPv.out ?_;intro w5 hX5 hG5))
  have hb5:=Below.grownBy (HB.out.trans (hB3.out.mono (by omega))) hG5 (by omega) (λk hk=>by injection hk with hk;omega);exact Ag (p:=8) (u:=9) rfl rfl hX5 Eu rfl Bh rfl rfl ⟨rfl,hb5⟩
theorem L1 {w:World}{f o k K:Nat}{r:RFs}{N:List Nd}(h:FsN w f o k r N)(d:Wf r K)(i g:Int)(s:ByteArray)(l:s.size<=maxLen)(free:Bool)(_hp:B2 r (i,g) s free≠0) :
  ∃a b c,Calls Tryz.prog 58 #[.pointer (some ⟨f,0,none⟩),.agg #[.int .i64 i,.int .i64 g],.string s,.bool free] w
   λe w'=>e=.returned (.tuple #[.agg #[.pointer a,.pointer b,.string c],.int .i64 (B2 r (i,g) s free)])/\Below w.heap.size w w':=by
 by_cases j:Ab r (i,g)=0
 .obtain⟨m,_⟩:=Bn j;obtain⟨t,q,_⟩:=Ac m;obtain⟨n,p,hr⟩:=h.at_ d t;exact⟨_,_,_,E5 h d i g s l free j p (hr.id.trans q)⟩
 .exact⟨_,_,_,Z10 h d i g s free j⟩
end Go.Proofs.YtmmdikhljefeiaaGreat
