
import Derived.Test.YtmmdikhljefeiaaGreatFsXW
import Derived.Test.YtmmdikhljefeiaaGreatYKeysS
namespace Go.Proofs.YtmmdikhljefeiaaGreat
open Go.RowKit Go.MapKept Go.Shelf Go.Sort Go.Maps
def Fr (l:List (ByteArray × Int)):List (List UInt8):=(l.map λp=>p.1.data.toList).mergeSort (λx y=>decide (x<=y))
theorem Gf (l:List (ByteArray × Int)):(Fr l).Perm (l.map λp=>p.1.data.toList):=List.mergeSort_perm _ _
theorem Lj (a b:List UInt8):(decide (a<=b)||decide (b<=a))=true:=by rcases List.le_total a b with h | h<;>simp[h]
theorem Mq (a b c:List UInt8)(e:decide (a<=b)=true)(d:decide (b<=c)=true):decide (a<=c)=true:=by simp at *;exact List.le_trans e d
theorem X0 {ss:List (List UInt8)}{l:List (ByteArray × Int)}(h:ss.Perm (l.map λp=>p.1.data.toList)):ss.mergeSort (λx y=>decide (x<=y))=Fr l:=by
 refine List.Perm.eq_of_pairwise (le:=λa b:List UInt8=>a<=b) (λa b _ _ d c=>List.le_antisymm d c) ?_ ?_ (((List.mergeSort_perm ss _).trans h).trans (Gf l).symm)
 .exact(List.pairwise_mergeSort Mq Lj ss).imp (λh=>by simpa using h)
 .exact(List.pairwise_mergeSort Mq Lj _).imp (λh=>by simpa using h)
def Zaf (_:Value):Option (DataW Unit × List MemPlace):=some (.lit (.bool false),[])
theorem Xt {w:World}{m:Nat}{l:List (ByteArray × Int)}(h:MapB w m Ci Aw l)(j:∀p∈l,p.1.size<=maxLen)(u:l.length<=maxLen) :
  ∃D:DataW Unit,w.ownsMap Tryz.prog 9 Zaf m l.length D/\Maps.size D=l.length/\(strKeys D).Perm (l.map λp=>p.1.data.toList):=by
 obtain⟨es,clock,n,g,e⟩:=h;have t:es.size=l.length:=by have:=congrArg List.length e;simpa using this
 have c:∀s:ByteArray,s.size<=maxLen->keyOf Tryz.prog 9 (Ci s)=some (.string s.data.toList):=λs k=>by have r:Tryz.prog.underlying 9=some .string:=Tryz.underlying9;simp[keyOf,r,mapKey,Ci,k]
 have b:es.toList.map (WideElems.rg Tryz.prog 9 Zaf)=l.map λp=>(Lit.string p.1.data.toList,(DataW.lit (.bool false):DataW Unit)):=by
  apply cy;intro i;have a:=congrArg (·[i]?) e;simp only[List.getElem?_map] at a⊢;cases d:es.toList[i]? with
  | none =>
   cases hy:l[i]? with
   | none=>rfl
   | some q=>rw[d,hy] at a;cases a
  | some x =>
   cases hy:l[i]? with
   | none=>rw[d,hy] at a;cases a
   | some q =>
    rw[d,hy] at a;simp only[Option.map_some,Option.some.injEq,Prod.mk.injEq] at a;have f:=j q (au hy);simp[WideElems.rg,WideElems.rd,a.1,c _ f,Zaf]
 refine⟨.map ((es.toList.map (WideElems.rg Tryz.prog 9 Zaf)).foldr DataW.insert []),⟨es,clock,n,⟨by omega,g,λx d=>?_⟩,by omega,rfl⟩,?_,?_⟩
 .obtain⟨i,o⟩:=List.getElem?_of_mem d;have a:=congrArg (·[i]?) e;simp only[List.getElem?_map,o,Option.map_some] at a;cases hy:l[i]? with
  | none=>rw[hy] at a;cases a
  | some q =>
   rw[hy] at a;simp only[Option.map_some,Option.some.injEq,Prod.mk.injEq] at a;have f:=j q (au hy);exact⟨(.string q.1.data.toList,.lit (.bool false)),by simp[WideElems.rd,a.1,c _ f,Zaf]⟩
 .show(List.foldr DataW.insert [] _).length=_;rw[(WideShapes.sorted_perm _).length_eq,b,ap]
 .show(List.map _ (List.foldr DataW.insert [] _)).Perm _;refine((WideShapes.sorted_perm _).map _).trans ?_;rw[b,List.map_map];exact List.Perm.of_eq rfl
theorem Z9p (m:Nat):AnyZ.SortsIn Tryz.prog Tryz.sortedSL_ren Fence.wide m :=
 ⟨λblk off cap ss W hH a b=>callsIn_wide.2 (AnyM.slices_Sort_string Tryz.sortSL blk off cap ss W hH a b),
  λp cap W=>callsIn_wide.2 (AnyM.slices_Sort_string_none Tryz.sortSL p cap W)⟩
def Zf4 (s:List UInt8):List Value:=[.string ⟨s.toArray⟩]
def Z00 (w w':World)(r:RFs)(h:Int × Int)(e:Ending):Prop :=
 if Ab r h≠0 then e=.returned (.tuple #[.slice none 0 0,.int .i64 (Ab r h)])
 else ∃A c,e=.returned (.tuple #[.slice A (Fr (Aa r.nms h.1)).length c,.int .i64 0])/\Rd w' w'.heap.size 1 Zf4 A (Fr (Aa r.nms h.1))/\(∀a,A=some a->w.heap.size<=a.block)/\(∀a,A=some a->a=⟨a.block,0,none⟩)/\(Fr (Aa r.nms h.1)).length<=c/\(A=none->c=0)
theorem Qg {w w':World}{r:RFs}{h:Int × Int}{k:Int}(a:Ab r h=k)(b:k≠0):Z00 w w' r h (.returned (.tuple #[.slice none 0 0,.int .i64 k])):=by unfold Z00;rw[a,dq b]
set_option maxHeartbeats 4000000 in
theorem Z3d {w:World}{f mi mg K:Nat}{r:RFs}{N:List Nd}(h:FsN w f mi mg r N)(hW:Wf r K)(hK:K<=1000000)(i g:Int) :
  Calls Tryz.prog 78 #[.pointer (some ⟨f,0,none⟩),.agg #[.int .i64 i,.int .i64 g]] w λe w'=>Z00 w w' r (i,g) e/\Below w.heap.size w w':=by
 refine(callsIn_wide (n:=6)).1 ?_;obtain⟨w1,hw1,hB,hs1,hb0⟩:=Ht w #[.int .i64 i,.int .i64 g] 31;have t0:w1.cell? ⟨w.heap.size,0,none⟩=some (.int .i64 i):=by rw[A1 hb0];rfl
 have t1:w1.cell? ⟨w.heap.size,1,none⟩=some (.int .i64 g):=by rw[A1 hb0];rfl
 have h1:=h.below hW hB;have HW1:=aa hw1;have HB:=aa hB;have hffind:Fence.wide.fn 81:=trivial;have hfdir:Fence.wide.fn 92:=trivial;cases hl:Aj r (i,g)
 .have hE:Ab r (i,g)=175:=by unfold Ab;rw[hl];rfl
  have HFd:=aa (callsIn_wide (n:=5).2 (Hv h1 hW i g hl));have HE:=aa hE;clear hw1 hB hb0 h1 h hW hl hE;refine callsIn_of_wp Tryz.func78 rfl trivial ?_ rfl;simp only[Tryz.ntmps78,List.size_toArray,List.length_cons,List.length_nil,Nat.reduceAdd,Nat.reduceSub,Array.replicate_succ,Array.replicate_zero,List.push_toArray,List.append_toArray,List.nil_append,List.cons_append]
  gi_wp2_with fail
  rw[HW1.out]
  gi_wp2_with (gi_at_call 81;(with_reducible refine HFd.out.mono ?_);rintro e w2 ⟨rfl,hB2⟩)
  go_ret2
  exact⟨Qg HE.out (by decide),HB.out.trans (hB2.mono HB.out.size)⟩
 .obtain⟨m1,m2,m3⟩:=Ac hl;obtain⟨n,hn,hr⟩:=h1.at_ hW m1;have HFd:=aa (callsIn_wide (n:=5).2 (Ec h1 hW i g hl hn (hr.id.trans m2)));unfold De at HFd;have hxk:=hW.kind _ m1;have HX:=aa (show ∀w3,Below w1.heap.size w1 w3->NodeR w3 r (A3 r.ins i) n from λw3 hb=>hr.below hxk hb);have HXi:=aa m2;have HMk:=aa (show ∀p∈Aa r.nms i,p.1.size<=maxLen from λp hp=>by
   unfold Aa at hp;obtain⟨q,hq,rfl⟩:=bk.1 hp;have:=hW.nmV q (af.1 hq).1;unfold Ae at this;simp only[Bool.and_eq_true,decide_eq_true_eq] at this;have h60:=this.1.2.1;unfold maxLen;show q.name.size<=_;omega)
  have hML:(Aa r.nms i).length<=1000000:=by rw[Jn];have h2:=List.countP_le_length (p:=λn:RNm=>decide (n.dir=i)) (l:=r.nms);have h3:=hW.nmK;unfold Dz;omega
  obtain⟨x,hxe⟩:∃x,A3 r.ins i=x:=⟨_,rfl⟩;rw[hxe] at m1 m2 m3 hr hxk HX HXi;clear HXi;have HXi:=aa m2;have hDr:=aa (show ∀w3,Below w1.heap.size w1 w3->Calls Tryz.prog 92 #[.pointer (some ⟨n.blk,0,none⟩)] w3 λe w'=>e=.returned (if x.kind=2 then .tuple #[De n.b,.int .i64 0] else .tuple #[.pointer none,.int .i64 173])/\w3=w' from λw3 hb=>Cu (HX.out w3 hb));by_cases hk:x.kind=2
  .have hE:Ab r (i,g)=0:=by unfold Ab;rw[dq hl];exact dq (by rw[hxe];exact hk)
   have HE:=aa hE;have HDr:=aa (show ∀w3,Below w1.heap.size w1 w3->CallsIn Fence.wide 5 Tryz.prog 92 #[.pointer (some ⟨n.blk,0,none⟩)] w3 λe w'=>e=.returned (.tuple #[.pointer (some ⟨n.b,0,none⟩),.int .i64 0])/\w3=w' from λw3 hb=>callsIn_wide.2 (by have:=hDr.out w3 hb;rw[dq hk] at this;exact this));have HL:=aa (show ∀w3,Below w1.heap.size w1 w3->w3.cell? ⟨n.b,0,none⟩=some (.map (some n.m))/\n.m < w3.heap.size/\∃D:DataW Unit,w3.ownsMap Tryz.prog 9 Zaf n.m (Aa r.nms i).length D/\Maps.size D=(Aa r.nms i).length/\(strKeys D).Perm ((Aa r.nms i).map λp=>p.1.data.toList) from λw3 hb=>by obtain⟨hd,hm⟩:=(HX.out w3 hb).dir hk;rw[HXi.out] at hm;exact⟨by rw[A1 hd];rfl,hm.lt,Xt hm HMk.out (by unfold maxLen;omega)⟩)
   have cK:∀mb W,CallsIn Fence.wide 5 Tryz.prog 107 #[.map mb] W λe w'=>e=.returned (.func (.func 126) #[] #[.pointer (some ⟨W.heap.size,0,none⟩)])/\w'=W.alloc (.cells #[.map mb] 150):=λmb W=>AnyZ.keys_in Tryz.keysSL Fence.wide 5 trivial rfl mb W;have HS:=aa (show ∀w3,Below w1.heap.size w1 w3->CallsIn Fence.wide 5 Tryz.prog 106 #[.func (.func 126) #[] #[.pointer (some ⟨w3.heap.size,0,none⟩)]] (w3.alloc (.cells #[.map (some n.m)] 150)) (λe w'=>∃(v:Value) (ss:List (List UInt8)),e=.returned v/\ss.Perm ((Aa r.nms i).map λp=>p.1.data.toList) /\
     w'.ownsRow (w3.alloc (.cells #[.map (some n.m)] 150)).heap.size 9 1 v ss.length ((ss.mergeSort (λx y=>decide (x<=y))).map encStr)/\(v=.slice none 0 0↔ss=[])/\Below (w3.alloc (.cells #[.map (some n.m)] 150)).heap.size (w3.alloc (.cells #[.map (some n.m)] 150)) w') from λw3 hb=>by
    obtain⟨c1,hmb,D,hown,hD1,hD2⟩:=HL.out w3 hb;have hseq:SeqGives Fence.wide 2 Tryz.prog 126 #[.pointer (some ⟨w3.heap.size,0,none⟩)] encStr (λss=>ss.Perm (strKeys D)) (Maps.size D) (w3.alloc (.cells #[.map (some n.m)] 150)) :=
     AnyZ.keys_gives (ρ:=Tryz.keysSL_ren) {Tryz.keysSL with} Fence.wide _ trivial rfl (by omega) w3.heap.size n.m (Aa r.nms i).length D _ (by simp) (by simp) (by obtain⟨es,clock,hb,Ft,hs,hD⟩:=hown;exact⟨es,clock,(ae _ _ n.m hmb).trans hb,Ft,hs,hD⟩)
    have cS:=AnyZ.sorted_in Tryz.sortedSL Fence.wide 5 trivial trivial trivial trivial rfl (by omega) (Z9p _) (enters_of Tryz.func125 (by kernel_rfl) rfl) 126 #[.pointer (some ⟨w3.heap.size,0,none⟩)] trivial (enters_of Tryz.func126 (by kernel_rfl) rfl) _ _ (by unfold maxLen;omega) (by omega) _ hseq;exact cS.mono λe w' ⟨v,ss,he,hS,h3,h4,h5⟩=>⟨v,ss,he,hS.trans hD2,h3,h4,h5⟩)
   have hfK:Fence.wide.fn 107:=trivial;have hfS:Fence.wide.fn 106:=trivial;clear hw1 hB hb0 h1 h hW hl hE m1 m2 m3 hn hr hxk hDr hk hxe;refine callsIn_of_wp Tryz.func78 rfl trivial ?_ rfl;simp only[Tryz.ntmps78,List.size_toArray,List.length_cons,List.length_nil,Nat.reduceAdd,Nat.reduceSub,Array.replicate_succ,Array.replicate_zero,List.push_toArray,List.append_toArray,List.nil_append,List.cons_append]
   gi_wp2_with fail
   rw[HW1.out]
   gi_wp2_with (first
    | (gi_at_call 81;(with_reducible refine HFd.out.mono ?_);rintro e w2 ⟨rfl,hB2⟩;have c1:=(HL.out w2 hB2).1)
    | (gi_at_call 92;(with_reducible refine(HDr.out w2 hB2).mono ?_);rintro e w3 ⟨rfl,rfl⟩)
    | (gi_at_call 107;refine(cK _ _).mono ?_;rintro e w' ⟨rfl,rfl⟩)
    | (gi_at_call 106;(with_reducible refine(HS.out w2 hB2).mono ?_);rintro e w' ⟨v,ss,rfl,hS,hrow,hnil,hb⟩))
   go_ret2
   have hBw:Below w.heap.size w w':=(HB.out.trans (hB2.mono HB.out.size)).trans ((((ab _ w2).alloc (av _) _).trans (hb.mono (by simp))).mono (cn HB.out.size hB2.size));refine⟨?_,hBw⟩;unfold Z00;rw[HE.out,dp (by decide)];have hlen:ss.length=(Fr (Aa r.nms i)).length:=by rw[hS.length_eq,(Gf _).length_eq]
   rw[X0 hS] at hrow;have hsz2:=hB2.size;rcases hrow.2 with⟨rfl,hz⟩ | ⟨g',cap,cur,rfl,hg,hgb,r1,r2,r3,r4⟩
   .have hk0:Fr (Aa r.nms i)=[]:=az (by omega);exact⟨none,0,by rw[hk0];rfl,by rw[hk0];exact Rd.nil _ _ _ _ _,λa ha=>(by cases ha),λa ha=>(by cases ha),by rw[hk0];simp,λ_=>rfl⟩
   .refine⟨some ⟨g',0,none⟩,cap,by rw[hlen];rfl,?_,λa ha=>(by injection ha with ha;subst ha;simp at hg⊢;omega),λa ha=>(by injection ha with ha;subst ha;rfl),by rw[<-hlen];exact r1,λe=>by cases e⟩;refine Pt hgb (bz.1 hgb).1 (λj x hx k v hv=>?_)
    match k,hv with
    | 0,hv =>
     have hv':v=encStr x:=by simpa [Zf4] using hv.symm
     subst hv';have h4:=congrArg (·[j]?) r4;simp only[List.getElem?_take,List.getElem?_map,hx,Option.map_some] at h4;split at h4
     .rw[Nat.mul_one,Nat.add_zero];simpa using h4
     .cases h4
    | k+1,hv=>simp[Zf4] at hv
  .have hE:Ab r (i,g)=173:=by unfold Ab;rw[dq hl];exact dp (by rw[hxe];exact hk)
   have HE:=aa hE;have HDr:=aa (show ∀w3,Below w1.heap.size w1 w3->CallsIn Fence.wide 5 Tryz.prog 92 #[.pointer (some ⟨n.blk,0,none⟩)] w3 λe w'=>e=.returned (.tuple #[.pointer none,.int .i64 173])/\w3=w' from λw3 hb=>callsIn_wide.2 (by have:=hDr.out w3 hb;rw[dp hk] at this;exact this));clear hw1 hB hb0 h1 h hW hl hE m1 m2 m3 hn hr hxk hDr hk hxe;refine callsIn_of_wp Tryz.func78 rfl trivial ?_ rfl;simp only[Tryz.ntmps78,List.size_toArray,List.length_cons,List.length_nil,Nat.reduceAdd,Nat.reduceSub,Array.replicate_succ,Array.replicate_zero,List.push_toArray,List.append_toArray,List.nil_append,List.cons_append]
   gi_wp2_with fail
   rw[HW1.out]
   gi_wp2_with (first
    | (gi_at_call 81;(with_reducible refine HFd.out.mono ?_);rintro e w2 ⟨rfl,hB2⟩)
    | (gi_at_call 92;(with_reducible refine(HDr.out w2 hB2).mono ?_);rintro e w3 ⟨rfl,rfl⟩))
   go_ret2
   exact⟨Qg HE.out (by decide),HB.out.trans (hB2.mono HB.out.size)⟩
end Go.Proofs.YtmmdikhljefeiaaGreat
