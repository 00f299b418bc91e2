
import Derived.Test.YtmmdikhljefeiaaGreatSB
import Derived.Test.YtmmdikhljefeiaaGreatYShelf
namespace Go.Proofs.YtmmdikhljefeiaaGreat
open Go.RowKit Go.MapKept Go.Shelf Go.Sort Go.Maps
theorem Iy:∀(n:Nat) (l:List Nat),l.Nodup->(∀x∈l,x < n)->l.length<=n
 | 0,[],_,_=>by simp
 | 0,x::l,_,h=>dt (h x (by simp)) (by omega)
 | n+1,l,hn,h=>by
  by_cases b:n∈l
  .have c:=Iy n (l.erase n) (hn.erase n) (λx a=>by
    have:=(List.Nodup.mem_erase_iff hn).1 a;have:=h x this.2;omega)
   rw[List.length_erase_of_mem b] at c;omega
  .have c:=Iy n l hn (λx a=>by
    have:=h x a;have:x≠n:=λe=>b (e ▸ a);omega)
   omega
def Fj (bl:List (Nat × List UInt8)):List Nat:=(bl.map (·.1)).mergeSort (λx y=>decide (x<=y))
theorem Cg (bl:List (Nat × List UInt8)):(Fj bl).Perm (bl.map (·.1)):=List.mergeSort_perm _ _
theorem Kn (bl:List (Nat × List UInt8)):(Fj bl).Pairwise (·<=·):=by have h:=List.pairwise_mergeSort (le:=λx y:Nat=>decide (x<=y)) (λa b c e d=>by simp at *;omega) (λa b=>by simp;omega) (bl.map (·.1));exact h.imp (λh=>by simpa using h)
theorem Z0m {ss:List Int}{bl:List (Nat × List UInt8)}(h:ss.Perm ((bl.map (·.1)).map Int.ofNat)):ss.mergeSort (λx y=>decide (x<=y))=(Fj bl).map Int.ofNat:=by
 refine List.Perm.eq_of_pairwise (le:=λa b:Int=>a<=b) (λa b _ _ e d=>by omega) ?_ ?_ (((List.mergeSort_perm ss _).trans h).trans ((Cg bl).map _).symm)
 .have h:=List.pairwise_mergeSort (le:=λx y:Int=>decide (x<=y)) (λa b c e d=>by simp at *;omega) (λa b=>by simp;omega) ss;exact h.imp (λh=>by simpa using h)
 .exact List.pairwise_map.2 ((Kn bl).imp (λh=>by exact Int.ofNat_le.2 h))
def noR (_:Value):Option (DataW Unit × List MemPlace):=some (.lit (.bool false),[])
theorem Z7n {w:World}{m:Nat}{bl:List (Nat × List UInt8)}(h:MapB w m N1 Ze4 bl)(e:∀p∈bl,p.1 < 65536)(t:bl.length<=maxLen) :
  ∃D:DataW Unit,w.ownsMap Tryz.prog 3 noR m bl.length D/\Maps.size D=bl.length/\(intKeys D).Perm ((bl.map (·.1)).map Int.ofNat):=by
 obtain⟨es,clock,n,j,f⟩:=h;have s:es.size=bl.length:=by have:=congrArg List.length f;simpa using this
 have c:∀k:Nat,k < 65536->keyOf Tryz.prog 3 (N1 k)=some (.int .i64 (k:Int)):=λk e=>by
  have r:Tryz.prog.underlying 3=some (.int .i64):=Tryz.underlying3;have l:(Lit.int .i64 (k:Int)).wf=true:=by simp only[Lit.wf,IntKind.max_i64,show IntKind.i64.min=-9223372036854775808 from rfl,Bool.and_eq_true,decide_eq_true_eq];omega
  simp[keyOf,r,mapKey,N1,l]
 have b:es.toList.map (WideElems.rg Tryz.prog 3 noR)=bl.map λp=>(Lit.int .i64 (p.1:Int),(DataW.lit (.bool false):DataW Unit)):=by
  apply cy;intro i;have a:=congrArg (·[i]?) f;simp only[List.getElem?_map] at a⊢;cases d:es.toList[i]? with
  | none =>
   cases hy:bl[i]? with
   | none=>rfl
   | some q=>rw[d,hy] at a;cases a
  | some x =>
   cases hy:bl[i]? with
   | none=>rw[d,hy] at a;cases a
   | some q =>
    rw[d,hy] at a;simp only[Option.map_some,Option.some.injEq,Prod.mk.injEq] at a;have g:=e q (au hy);simp[WideElems.rg,WideElems.rd,a.1,c _ g,noR]
 refine⟨.map ((es.toList.map (WideElems.rg Tryz.prog 3 noR)).foldr DataW.insert []),⟨es,clock,n,⟨by omega,j,λx d=>?_⟩,by omega,rfl⟩,?_,?_⟩
 .obtain⟨i,o⟩:=List.getElem?_of_mem d;have a:=congrArg (·[i]?) f;simp only[List.getElem?_map,o,Option.map_some] at a;cases hy:bl[i]? with
  | none=>rw[hy] at a;cases a
  | some q =>
   rw[hy] at a;simp only[Option.map_some,Option.some.injEq,Prod.mk.injEq] at a;have g:=e q (au hy);exact⟨(.int .i64 (q.1:Int),.lit (.bool false)),by simp[WideElems.rd,a.1,c _ g,noR]⟩
 .show(List.foldr DataW.insert [] _).length=_;rw[(WideShapes.sorted_perm _).length_eq,b,ap]
 .show(List.map _ (List.foldr DataW.insert [] _)).Perm _;refine((WideShapes.sorted_perm _).map _).trans ?_;rw[b,List.map_map,List.map_map];exact List.Perm.of_eq rfl
theorem Zax (m:Nat):AnyZI.SortsIn Tryz.prog Tryz.sortedL_ren Fence.wide m :=
 ⟨λblk off cap ss W hH a b=>callsIn_wide.2 (AnyM.slices_Sort_int Tryz.sortL blk off cap ss W hH a b),
  λp cap W=>callsIn_wide.2 (AnyM.slices_Sort_int_none Tryz.sortL p cap W)⟩
def Zf8 (k:Nat):List Value:=[.int .i64 (k:Int)]
set_option maxHeartbeats 1000000 in
theorem Z2f {w:World}{b m size:Nat}{bl:List (Nat × List UInt8)}(h:Raw w b m size bl) :
  Calls Tryz.prog 143 #[.pointer (some ⟨b,0,none⟩)] w
   λe w'=>∃A c,e=.returned (.slice A (Fj bl).length c)/\Rd w' w'.heap.size 1 Zf8 A (Fj bl)/\(∀a,A=some a->w.heap.size<=a.block)/\Below w.heap.size w w':=by
 refine(callsIn_wide (n:=6)).1 ?_;have hkeys:bl.length<=65536:=by
  have:=Iy 65536 (bl.map (·.1)) h.map.nodup (λx hx=>by obtain⟨p,hp,rfl⟩:=bk.1 hx;exact h.keys p hp)
  simpa using this
 have hml:bl.length<=maxLen:=by unfold maxLen;omega
 have hmb:=h.map.lt;obtain⟨D,hown,hD1,hD2⟩:=Z7n h.map h.keys hml;have c1:=h.c1;have hseq:SeqGives Fence.wide 2 Tryz.prog 168 #[.pointer (some ⟨w.heap.size,0,none⟩)] encZ (λss=>ss.Perm (intKeys D)) (Maps.size D) (w.alloc (.cells #[.map (some m)] 190)) :=
  AnyZI.keys_gives (ρ:=Tryz.keysL_ren) {Tryz.keysL with} Fence.wide _ trivial rfl (by omega) w.heap.size m bl.length D _ (by simp) (by simp) (by obtain⟨es,clock,hb,Ft,hs,hD⟩:=hown;exact⟨es,clock,(ae _ _ m hmb).trans hb,Ft,hs,hD⟩)
 have cK:∀mb W,CallsIn Fence.wide 5 Tryz.prog 154 #[.map mb] W λe w'=>e=.returned (.func (.func 168) #[] #[.pointer (some ⟨W.heap.size,0,none⟩)])/\w'=W.alloc (.cells #[.map mb] 190):=λmb W=>AnyZI.keys_in Tryz.keysL Fence.wide 5 trivial rfl mb W;have cS:=AnyZI.sorted_in Tryz.sortedL Fence.wide 5 trivial trivial trivial trivial rfl (by omega) (Zax _) (enters_of Tryz.func167 (by kernel_rfl) rfl) 168 #[.pointer (some ⟨w.heap.size,0,none⟩)] trivial (enters_of Tryz.func168 (by kernel_rfl) rfl) _ _ (by omega) (by omega) _ hseq
 change CallsIn _ _ Tryz.prog 153 _ _ _ at cS
 have HD1:=aa hD1;have HD2:=aa hD2;have hfK:Fence.wide.fn 154:=trivial;have hfS:Fence.wide.fn 153:=trivial;clear h hD1 hD2 hseq hown;refine callsIn_of_wp Tryz.func143 rfl trivial ?_ rfl;simp only[Tryz.ntmps143,List.size_toArray,List.length_cons,List.length_nil,Nat.reduceAdd,Nat.reduceSub,Array.replicate_succ,Array.replicate_zero,List.push_toArray,List.append_toArray,List.nil_append,List.cons_append]
 gi_wp2_with (first
  | (gi_at_call 154;refine(cK _ _).mono ?_;rintro e w' ⟨rfl,rfl⟩)
  | (gi_at_call 153;refine cS.mono ?_;rintro e w' ⟨v,ss,rfl,hS,hrow,hnil,hb⟩))
 go_ret
 have hB:Below w.heap.size w w':=((ab _ w).alloc (av _) _).trans (hb.mono (by simp));have hp:=hS.trans HD2.out;have hlen:ss.length=(Fj bl).length:=by rw[hp.length_eq,ap,<-(Cg bl).length_eq]
 rw[Z0m hp] at hrow;rcases hrow.2 with⟨rfl,hz⟩ | ⟨g,cap,cur,rfl,hg,hgb,r1,r2,r3,r4⟩
 .have hk0:Fj bl=[]:=az (by omega);exact⟨none,0,by rw[hk0];rfl,by rw[hk0];exact Rd.nil _ _ _ _ _,by simp,hB⟩
 .refine⟨some ⟨g,0,none⟩,cap,by rw[hlen];rfl,?_,λa ha=>by injection ha with ha;subst ha;simp at hg⊢;omega,hB⟩;refine Pt hgb (bz.1 hgb).1 (λi x hx j v hv=>?_)
  match j,hv with
  | 0,hv =>
   have hv':v=.int .i64 (x:Int):=by simpa [Zf8] using hv.symm
   subst hv';have h4:=congrArg (·[i]?) r4;simp only[List.getElem?_take,List.getElem?_map,hx,Option.map_some] at h4;split at h4
   .rw[Nat.mul_one,Nat.add_zero];simpa using h4
   .cases h4
  | j+1,hv=>simp[Zf8] at hv
open Go.RowKit Go.MapKept
theorem Rd.apart {α:Type}{w w':World}{S:List Nat}{B sz:Nat}{f:α->List Value}{A:Option Addr}{l:List α}(h:Rd w B sz f A l)(m:Frm S w w')(d:∀a,A=some a->a.block ∉ S):Rd w' B sz f A l:=λi x n=>by obtain⟨a,rfl,k,g⟩:=h i x n;refine⟨a,rfl,k,λj v e=>?_⟩;have b:=g j v e;have c:=block_lt_of_cell b;rw[ac (w:=w) (m.block _ c (by rw[Gx,Gx];exact d a rfl))];exact b
def wp1 (f t:Nat)(bl:List (Nat × List UInt8))(k:Nat):List (Nat × List UInt8):=if k * 16 < t/\f < k * 16+16 then zr1 bl k (f - k * 16) (min (t - k * 16) 16) else bl
def Mh (bl:List (Nat × List UInt8))(f t:Nat):List (Nat × List UInt8):=(Fj bl).foldl (wp1 f t) bl
theorem Z48 {w:World}{b m size:Nat}{bl:List (Nat × List UInt8)}(h:Raw w b m size bl)(k f t:Nat)(a:k < 65536)(d:f<=16)(c:t<=16)(F T:Int)(g:F=f)(hT:T=t) :
  Calls Tryz.prog 144 #[.pointer (some ⟨b,0,none⟩),.int .i64 (k:Int),.int .i64 F,.int .i64 T] w
   λe w'=>e=.returned (.tuple #[])/\Raw w' b m size (zr1 bl k f t)/\Frm [b,m] w w':=by
 subst g hT;exact Z57 h k f t a d c
set_option maxRecDepth 100000 in
set_option maxHeartbeats 2000000 in
theorem Z3y {w:World}{b m size:Nat}{bl:List (Nat × List UInt8)}(h:Raw w b m size bl)(f t:Nat)(hf:f<=2097152)(ht:t<=2097152) :
  Calls Tryz.prog 122 #[.pointer (some ⟨b,0,none⟩),.int .i64 (f:Int),.int .i64 (t:Int)] w
   λe w'=>e=.returned (.tuple #[])/\Raw w' b m size (Mh bl f t)/\Frm [b,m] w w':=by
 have HO:=aa (Z2f h);have HH:=aa h;have HK:=aa (show ∀k∈Fj bl,k < 65536 from λk hk=>by obtain⟨p,hp,rfl⟩:=bk.1 ((Cg bl).mem_iff.1 hk);exact h.keys p hp)
 obtain⟨R,hR⟩:∃R,(Fj bl).foldl (wp1 f t) bl=R:=⟨_,rfl⟩;have HR:=aa hR;have HR':=aa (show Mh bl f t=R from hR);have hn1:(Fj bl).length<=65536:=by
  have h1:=Iy 65536 (bl.map (·.1)) h.map.nodup (λx hx=>by obtain⟨p,hp,rfl⟩:=bk.1 hx;exact h.keys p hp)
  rw[(Cg bl).length_eq];exact h1
 clear h hR;generalize Fj bl=ks at *;generalize hn:ks.length=n at *;have HN:=aa hn;clear hn
 go_enter Tryz.func122,Tryz.ntmps122
 go_wp2_with (go_at_call 143;(with_reducible refine HO.out.mono ?_);rintro e w1 ⟨A,c,rfl,hrd,hA,hb1⟩)
 have hR1:=HH.out.below hb1;have hA':∀a,A=some a->a.block ∉ [b,m]:=λa ha hm=>by have h1:=hA a ha;have h2:=HH.out.lt;have h3:=HH.out.map.lt;rcases(by simpa using hm:a.block=b\/a.block=m) with e | e<;>omega
 have HA:=aa hA';have HF1:=aa (show Frm [b,m] w w1 from Frm.of_below hb1);have HR1:=aa hR1;have HD1:=aa hrd;clear hrd hA hb1 hR1 hA'
 go_loopw [12] (λvi wr=>∃(i:Nat) (bl':List (Nat × List UInt8)),i<=n/\vi=.int .i64 (i:Int)/\Raw wr b m size bl'/\Frm [b,m] w1 wr/\(ks.drop i).foldl (wp1 f t) bl'=R) (λvi _=>n - (intOf vi).toNat)
 case atStart=>exact⟨0,bl,aw _,rfl,HR1.out,Frm.refl _ _,HR.out⟩
 case round =>
  obtain⟨i,bl',hi,rfl,hRr,hFr,hfold⟩:=hrel;have HRr:=aa hRr;have HFr:=aa hFr;have HFo:=aa hfold;clear hRr hFr hfold;by_cases hin:i < n
  .have hdr:=HD1.out.apart HFr.out HA.out;have hil:i < ks.length:=by rw[HN.out];exact hin
   obtain⟨ad,had,-⟩:=hdr.addr hil;subst had;have hc:=hdr.cell hil (j:=0) (v:=.int .i64 (ks[i]:Int)) rfl;rw[Fi,Nat.mul_one,Nat.add_zero] at hc;have hfo:=HFo.out;rw[List.drop_eq_getElem_cons hil,List.foldl_cons] at hfo;have hk:=HK.out _ (bw hil);generalize ks[i]=k at *;have HFo2:=aa hfo;clear hfo hil hdr;by_cases h1:k * 16 < t
   .have t1:decide ((k:Int) * 16 < (t:Int))=true:=by rw[decide_eq_true_eq];omega
    by_cases h2:f < k * 16+16
    .have t2:decide ((f:Int) < (k:Int) * 16+16)=true:=by rw[decide_eq_true_eq];omega
     have HW1:=aa (show wp1 f t bl' k=zr1 bl' k (f - k * 16) (min (t - k * 16) 16) from dq ⟨h1,h2⟩);have HZ:=aa (Z48 HRr.out k (f - k * 16) (min (t - k * 16) 16) hk (by omega) (by omega) (max ((f:Int) - (k:Int) * 16) 0) (min ((t:Int) - (k:Int) * 16) 16) (by omega) (by omega))
     go_wp2_with (go_at_call 144;(with_reducible refine HZ.out.mono ?_);rintro e w2 ⟨rfl,hR2,hF2⟩)
     have HR2:=aa hR2;have HF2:=aa (HFr.out.trans hF2);clear hR2 hF2 HZ
     go_wp2
     go_roundw
     case rel=>exact⟨i+1,_,by omega,by go_num,HR2.out,HF2.out,by rw[<-HW1.out];exact HFo2.out⟩
     case measure=>simp[intOf];omega
    .have t2:decide ((f:Int) < (k:Int) * 16+16)=false:=by rw[decide_eq_false_iff_not];omega
     have HW1:=aa (show wp1 f t bl' k=bl' from dp (λh=>h2 h.2))
     go_wp2
     go_roundw
     case rel=>exact⟨i+1,bl',by omega,by go_num,HRr.out,HFr.out,by rw[<-HW1.out];exact HFo2.out⟩
     case measure=>simp[intOf];omega
   .have t1:decide ((k:Int) * 16 < (t:Int))=false:=by rw[decide_eq_false_iff_not];omega
    have HW1:=aa (show wp1 f t bl' k=bl' from dp (λh=>h1 h.1))
    go_wp2
    go_roundw
    case rel=>exact⟨i+1,bl',by omega,by go_num,HRr.out,HFr.out,by rw[<-HW1.out];exact HFo2.out⟩
    case measure=>simp[intOf];omega
  .have hin':i=n:=by omega
   have HFE:=aa (show bl'=R by have:=HFo.out;rw[dl (by rw[HN.out];omega)] at this;exact this);clear hin'
   go_wp2
   ((try simp only[Exit.inBlock,Exit.then]);first | refine bodyPost_ret (results_none rfl _ _ _) rfl ?_ | refine bodyPost_end (results_none rfl _ _ _) rfl ?_)
   exact⟨rfl,by rw[HR'.out,<-HFE.out];exact HRr.out,HF1.out.trans HFr.out⟩
def G7 (n:Int):Bool:=decide (0<=n/\n<=1048576)
def Gs (size:Nat)(bl:List (Nat × List UInt8))(n:Int):List (Nat × List UInt8):=if G7 n=true/\n.toNat < size then Mh bl n.toNat (G4 size) else bl
def Ds (size:Nat)(n:Int):Nat:=if G7 n=true then n.toNat else size
set_option maxRecDepth 100000 in
set_option maxHeartbeats 2000000 in
theorem Z8f {w:World}{b m size:Nat}{bl:List (Nat × List UInt8)}(h:Raw w b m size bl)(n:Int) :
  Calls Tryz.prog 104 #[.pointer (some ⟨b,0,none⟩),.int .i64 n] w
   λe w'=>e=.returned (.bool (G7 n))/\Raw w' b m (Ds size n) (Gs size bl n)/\Frm [b,m] w w':=by
 have c0:=h.c0;have HH:=aa h;have hs:=h.small;cases hf:G7 n
 .have HE:=aa hf;have t0:(decide (n < 0)||decide (n > 1048576))=true:=by
   have:=of_decide_eq_false hf;rw[Bool.or_eq_true,decide_eq_true_eq,decide_eq_true_eq];omega
  clear hf h;rw[Bool.or_eq_true,decide_eq_true_eq,decide_eq_true_eq] at t0;rcases Int.lt_or_le n 0 with h0 | h0
  all_goals
   go_enter Tryz.func104,Tryz.ntmps104
   go_wp2
   go_ret
   exact⟨rfl,by unfold Ds Gs;rw[HE.out];simpa using HH.out,Frm.refl _ _⟩
 .have HE:=aa hf;obtain⟨h0,h1⟩:=of_decide_eq_true hf;obtain⟨n,rfl⟩:=al h0;have hn1:n<=1048576:=by omega
  clear h0 h1;have t1:decide ((n:Int) < 0)=false:=by rw[decide_eq_false_iff_not];omega
  have t2:decide (1048576 < (n:Int))=false:=by rw[decide_eq_false_iff_not];omega
  have HS:=aa (show Ds size n=n by unfold Ds;rw[dq HE.out,bj]);clear hf h;by_cases hlt:n < size
  .have HB:=aa (show Gs size bl n=Mh bl n (G4 size) by unfold Gs;rw[dq ⟨HE.out,by rw[bj];exact hlt⟩,bj]);have HW:=aa (Z3y HH.out n (G4 size) (by omega) (by unfold G4;omega));have HV:=aa (Z7 size hs w)
   go_enter Tryz.func104,Tryz.ntmps104
   go_wp2_with (first | (go_at_call 123;(with_reducible refine HV.out.mono ?_);rintro e w1 ⟨rfl,rfl⟩) | (go_at_call 122;(with_reducible refine HW.out.mono ?_);rintro e w1 ⟨rfl,hR1,hF1⟩;have c1:=hR1.c0;have f1:=hR1.f0 0;have HR1:=aa hR1;have HF1:=aa hF1;clear hR1 hF1))
   go_ret
   exact⟨rfl,by rw[HS.out,HB.out];exact HR1.out.setSize (by omega),HF1.out.setCell (.inl (by simp)) _⟩
  .have HB:=aa (show Gs size bl n=bl by unfold Gs;rw[dp (by rw[bj];omega)]);have f0:=HH.out.f0 0
   go_enter Tryz.func104,Tryz.ntmps104
   go_wp2
   go_ret
   exact⟨rfl,by rw[HS.out,HB.out];exact HH.out.setSize (by omega),(Frm.refl _ _).setCell (.inl (by simp)) _⟩
end Go.Proofs.YtmmdikhljefeiaaGreat
