
import Derived.Test.YtihfaocdpmmooaaGreatSxMa
import Derived.Great.FillDense
import Derived.Deep.OwnRows
import Derived.Lib.MinMax
import Derived.ArgAppend
import Derived.Laws.IdiomStrings
import Derived.Laws.CopyRow
namespace Go.Proofs.YtihfaocdpmmooaaGreat
open Go.RowKit
theorem O6:∀(l:List Value) (k off:Nat) (arr:Array Value),off+k+l.length≤arr.size →
  (l.zipIdx k).foldl (fun cs p=>cs.setIfInBounds (off+p.2) p.1) arr=(arr.toList.take (off+k)++l++arr.toList.drop (off+k+l.length)).toArray
 | [],k,off,arr,_=>by simp
 | x::l,k,off,arr,h=>by
  simp only[List.length_cons] at h
  rw[List.zipIdx_cons,List.foldl_cons,O6 l (k+1) off _ (by simp;omega)]
  congr 1
  have hlt:off+k < arr.toList.length:=by simp;omega
  simp only[Array.toList_setIfInBounds]
  rw[List.drop_set_of_lt (by omega),List.take_set,←cu,List.take_succ_eq_append_getElem hlt,List.set_append_right _ _ (by simp;omega)]
  have hlt':off+k≤arr.size:=by omega
  simp[Nat.min_eq_left hlt',Nat.add_assoc,Nat.add_comm 1]
section
variable {P:Program} {tb:List (Nat × TI)} {N n:Nat} {I I' I0:Imm} {V V' V0:Va} {a:Act} {t:Ts} {own own' own0:Os} {w w' w0:World} {g:G} {y:Value} {d:Option Tmp}
variable {XL:List Nat} {S:World→Prop} {K:Ts→Os→Nat→Prop} {next:Act→World→Prop} {Q:Exit→Act→World→Prop} {o:Oper}
theorem Z7k (hT:∀t i,look t tb=some i→TIok P t i){F:List Field}(hz:∀f∈F,∃m,(P.info? f.type).map (·.size)=some (m+1)){places:List (Nat × Nat)}(hpl:F.mapM (fun f=>(P.info? f.type).map fun i=>(f.offset,i.size))=some places)(ha:ARep N I V a t)(hH:Has I V own w) :
  ∀{ps:List (Nat × Operand)} {l:List G} {cs:List Value} {K1:List G→Prop},Zc5 tb t own (F.map fun f=>(f.type,f.offset)) ps l K1→PW (CRep I V) l cs →
   ∃l' cs',K1 l'∧PW (CRep I V) l' cs'∧Instr.fill (places.toArray[·]?) cs.toArray (ps.map fun p=>(p.1,a.eval p.2))=some cs'.toArray
 | [],l,cs,K1,h,hp=>⟨l,cs,h,hp,rfl⟩
 | (i,x)::ps,l,cs,K1,h,hp=>by
  unfold Zc5 at h
  rw[E7] at h
  cases hf:(F.map fun f=>(f.type,f.offset))[i]? with
  | none=>rw[hf] at h;exact h.elim
  | some q =>
   obtain⟨ft,fo⟩:=q
   rw[hf] at h
   dsimp only at h
   cases hj:look ft tb with
   | none=>rw[hj] at h;exact h.elim
   | some j =>
    rw[hj] at h
    dsimp only at h
    obtain⟨g,h,hg⟩:=B0 h ha hH
    obtain⟨ds,h,hd,-⟩:=Hg h hg hH
    obtain⟨hb,h⟩:=Z39 h
    obtain⟨l1,h,hp1,hfit⟩:=R4 h hp hd
    obtain⟨l',cs',h1,h2,h3⟩:=Z7k hT hz hpl ha hH h hp1
    refine⟨l',cs',h1,h2,?_⟩
    rw[aj] at hf
    obtain⟨fd,hf1,hf2⟩:=ax.1 hf
    injection hf2 with e1 e2
    have hpi:places[i]?=some (fo,j.zero.length):=by
     have hs:=(hT ft j hj).size
     have key:∀(F:List Field) (pl:List (Nat × Nat)) (i:Nat),F.mapM (fun f=>(P.info? f.type).map fun i=>(f.offset,i.size))=some pl→F[i]?=some fd→pl[i]?=(P.info? fd.type).map fun i=>(fd.offset,i.size):=by
      intro F
      induction F with
      | nil=>intro pl i _ hi;simp at hi
      | cons f F ih =>
       intro pl i hm hi
       simp only[List.mapM_cons,Option.bind_eq_bind,Option.pure_def] at hm
       cases hq:P.info? f.type with
       | none=>simp[hq] at hm
       | some iq =>
        cases hr:F.mapM (fun f=>(P.info? f.type).map fun i=>(f.offset,i.size)) with
        | none=>simp[hq,hr] at hm
        | some rest =>
         simp[hq,hr] at hm
         subst hm
         cases i with
         | zero=>simp at hi;subst hi;simp[hq]
         | succ i=>simpa using ih rest i hr (by simpa using hi)
     rw[key F places i hpl hf1,e1,e2]
     cases hq:P.info? ft with
     | none=>rw[hq] at hs;simp at hs
     | some iq=>rw[hq] at hs;simp at hs;simp[hs]
    have hlen:(a.eval x).cells.size=j.zero.length:=by
     rw[←hb,hd.1];simp
    have hne:(a.eval x).cells.toList≠[]:=fun e=>by
     obtain⟨m,hm⟩:=hz fd (ae hf1)
     have hs:=(hT ft j hj).size
     rw[e1,hs] at hm
     injection hm with hm
     have:=congrArg List.length e
     simp at this
     rw[this] at hlen
     simp at hlen
     omega
    have hfl:=hfit hne
    have hlc:(a.eval x).cells.toList.length=(a.eval x).cells.size:=by simp
    show Instr.fill (places.toArray[·]?) cs.toArray ((i,a.eval x)::ps.map fun p=>(p.1,a.eval p.2))=_
    unfold Instr.fill
    have hpi':places.toArray[i]?=some (fo,j.zero.length):=by simpa using hpi
    simp only[hpi',hlen]
    rw[da (by simp;rw[←hlen,←hlc];exact hfl),←h3]
    congr 1
    rw[←Array.foldl_toList,Array.toList_zipIdx]
    have:=O6 (a.eval x).cells.toList 0 fo cs.toArray (by simpa using hfl)
    simpa using this
theorem Yh {m sz:Nat}(ha:ARep N I V a t)(hH:Has I V own w) :
  ∀{ps:List (Nat × Operand)} {l:List G} {cs:List Value} {K1:List G→Prop},Zdq t own m sz ps l K1→PW (CRep I V) l cs →
   ∃l' cs',K1 l'∧PW (CRep I V) l' cs'∧Instr.fill (fun i=>some (i * sz,sz)) cs.toArray (ps.map fun p=>(p.1,a.eval p.2))=some cs'.toArray
 | [],l,cs,K1,h,hp=>⟨l,cs,h,hp,rfl⟩
 | (i,x)::ps,l,cs,K1,h,hp=>by
  unfold Zdq at h
  split at h
  ·next h1 h2 =>
   have h2:=c9 h2
   obtain⟨g,h,hg⟩:=B0 h ha hH
   obtain⟨ds,h,hd,-⟩:=Hg h hg hH
   obtain⟨hb,h⟩:=Z39 h
   obtain⟨l1,h,hp1,hfit⟩:=R4 h hp hd
   obtain⟨l',cs',k1,k2,k3⟩:=Yh ha hH h hp1
   refine⟨l',cs',k1,k2,?_⟩
   have hlen:(a.eval x).cells.size=sz:=by rw[←hb,hd.1];simp
   have hne:(a.eval x).cells.toList≠[]:=fun e=>by
    have:=congrArg List.length e
    simp at this
    rw[this] at hlen
    simp at hlen
    omega
   have hfl:=hfit hne
   have hlc:(a.eval x).cells.toList.length=(a.eval x).cells.size:=by simp
   have hfl:i * sz+(a.eval x).cells.toList.length≤cs.length:=hfl
   show Instr.fill (fun i=>some (i * sz,sz)) cs.toArray ((i,a.eval x)::ps.map fun p=>(p.1,a.eval p.2))=_
   unfold Instr.fill
   simp only[hlen]
   rw[da (by have hfl':=hfl;rw[hlc,hlen] at hfl';simp;exact hfl'),←k3]
   congr 1
   rw[←Array.foldl_toList,Array.toList_zipIdx]
   have:=O6 (a.eval x).cells.toList 0 (i * sz) cs.toArray (by simpa using hfl)
   simpa using this
  ·exact h.elim
theorem Zer {sz:Nat}:∀{ps:List (Nat × Operand)} {i:Nat} {own:Os} {I:Imm} {V:Va} {K1:List (List G)→Os→Prop},bsK t sz ps i own K1→ARep N I V a t→Has I V own w →
  ∃rows own' I' V',∃vs:List Value,K1 rows own'∧(V'.n=V.n∧V.kp V')∧Later own I V w own' I' V' w∧ps.map (fun p=>(p.1,a.eval p.2))=(vs.zipIdx i).map (fun x=>(x.2,x.1))∧vs.length=rows.length∧ps.length=rows.length ∧
   (∀(i:Nat) r u,rows[i]?=some r→(vs.map fun v=>v.cells.toList)[i]?=some u→PW (VRep I') r u)∧(∀v∈vs,v.cells.size=sz)∧∀v∈vs,∀x∈v.cells.toList,x.oneCell'=true
 | [],i,own,I,V,K1,h,_,hH=>⟨[],own,I,V,[],h,⟨rfl,.refl _⟩,.refl hH,rfl,rfl,rfl,fun i r u h=>by simp at h,by simp,by simp⟩
 | (j,x)::ps,i,own,I,V,K1,h,ha,hH=>by
  unfold bsK at h
  cases hb:Nat.beq j i with
  | false=>rw[hb] at h;exact h.elim
  | true =>
   rw[hb] at h
   have hb:=ai hb
   subst hb
   obtain⟨g,h,hg⟩:=B0 h ha hH
   obtain⟨cs,h,hp,-⟩:=Hg h hg hH
   have main:∀{cs':List G} {o1:Os} {I1:Imm} {V1:Va},bsK t sz ps (j+1) o1 (fun rows w''=>K1 (cs'::rows) w'')→(V1.n=V.n∧V.kp V1)→Later own I V w o1 I1 V1 w→PW (VRep I1) cs' (a.eval x).cells.toList→cs'.length=sz→Av G.one cs'=true→∃rows own' I' V',∃vs:List Value,K1 rows own'∧(V'.n=V.n∧V.kp V')∧Later own I V w own' I' V' w∧(((j,x)::ps).map fun p=>(p.1,a.eval p.2))=(vs.zipIdx j).map (fun x=>(x.2,x.1))∧vs.length=rows.length∧((j,x)::ps).length=rows.length ∧
     (∀(i:Nat) r u,rows[i]?=some r→(vs.map fun v=>v.cells.toList)[i]?=some u→PW (VRep I') r u)∧(∀v∈vs,v.cells.size=sz)∧∀v∈vs,∀x∈v.cells.toList,x.oneCell'=true:=fun {cs' o1 I1 V1} h hn1 hl1 hv1 hb1 hb2=>by
    obtain⟨rows,o2,I2,V2,vs,h1,hn2,hl2,h2,h3,h4,h5,h6,h7⟩:=Zer (K1:=fun rows w''=>K1 (cs'::rows) w'') h (ha.mono hl1.fro.mono hl1.va) hl1.has
    refine⟨_,o2,I2,V2,a.eval x::vs,h1,⟨hn2.1.trans hn1.1,hn1.2.trans (Nat.le_of_eq hn1.1.symm) hn2.2⟩,hl1.trans hl2,by simp[h2,List.zipIdx_cons],by simp[h3],by simp[h4],fun i r u hr hu=>?_,fun v hv=>?_,fun v hv y hy=>?_⟩
    ·cases i with
     | zero=>simp at hr hu;subst hr hu;exact hv1.mono fun _ _ h=>h.mono hl2.fro.mono
     | succ i=>exact h5 i r u (by simpa using hr) (by simpa using hu)
    ·rcases bh.1 hv with rfl | hv
     ·have:=hv1.1;rw[hb1] at this;simpa using this.symm
     ·exact h6 v hv
    ·rcases bh.1 hv with rfl | hv
     ·obtain⟨m,hm,e⟩:=cf.1 hy
      have hm':m < cs'.length:=by rw[hv1.1];exact hm
      exact M0 (hv1.2 m cs'[m] y (ab hm') (by rw[ab hm,e])) (Ac hb2 _ (bl hm'))
     ·exact h7 v hv y hy
   split at h
   ·obtain⟨cs',o1,I1,V1,h,hn1,hl1,hv1⟩:=P4 h hp hH
    split at h
    ·next hb1 hb2=>exact main h hn1 hl1 hv1 (ai hb1) hb2
    ·exact h.elim
   ·obtain⟨⟨hb1,hb2⟩,h⟩:=h
    exact main h ⟨rfl,.refl _⟩ (.refl hH) ⟨hp.1,fun m g u h1 h2=>(hp.2 m g u h1 h2).to_v (Fe (hb2 g (ae h1)))⟩ hb1 (G1 fun g hg=>Pd (hb2 g hg))
variable (hT:∀t i,look t tb=some i→TIok P t i) (hK:NxtB N own I V w K next) (hH:Has I V own w) (ha:ARep N I V a t) (hd:∀i,o.dst=some i→i < N)
include hT hH ha
theorem Z9m {ty:TypeId}{parts:Array (Nat × Operand)}(ho:o.op=.build ty parts)(h:match look ty tb with
  | none=>False
  | some i=>match i.flds with
   | []=>match i.kd with
    | .arr m _ sz=>Zdq t own m sz parts.toList i.zero fun l=>Iv (Nat.mul m sz) l fun g=>K (put o.dst g t) own V.n
    | _=>False
   | f::fs=>Zc5 tb t own (f::fs) parts.toList i.zero fun l=>Iv i.zero.length l fun g=>K (put o.dst g t) own V.n):QOk S P I V own w a t o K:=by
 cases hl:look ty tb with
 | none=>rw[hl] at h;exact h.elim
 | some i =>
  rw[hl] at h
  have hi:=hT ty i hl
  dsimp only at h
  have hz0:PW (CRep I V) i.zero (i.zero.map G.val):=Z2n hi
  obtain⟨z,hz1,hz2⟩:=ax.1 hi.zero
  obtain⟨j,hj1,hj2⟩:=Option.bind_eq_some_iff.1 hz1
  by_cases hfl:i.flds=[]
  ·rw[hfl] at h
   dsimp only at h
   have hkd:=hi.kd
   split at h
   ·next m e sz hk =>
    rw[hk] at hkd
    obtain⟨hu,hsz⟩:=(show P.underlying ty=some (.array m e)∧(P.info? e).map (·.size)=some sz from hkd)
    obtain⟨ie,hie,hies⟩:=ax.1 hsz
    obtain⟨l',cs',h1,h2,h3⟩:=Yh ha hH h hz0
    obtain⟨g',h4,h5⟩:=Ja h1 h2
    refine⟨_,_,h4,h5,fun u _=>?_⟩
    have hb:P.built ty (parts.map fun p=>(p.1,a.eval p.2)).toList=some cs'.toArray:=by
     unfold Program.built
     have e:z.cells=(i.zero.map G.val).toArray:=by rw[←hz2]
     simp only[hj1,hu,hj2,hie,hies,e]
     simpa using h3
    have hr:=run_build (P:=P) u ty _ _ hb
    simp only[execOp,ho,Sem.run_bind,Sem.run_pure]
    rw[hr]
    rfl
   ·exact h.elim
  ·have h:Zc5 tb t own i.flds parts.toList i.zero fun l=>Iv i.zero.length l fun g=>K (put o.dst g t) own V.n:=by
    cases hq:i.flds with
    | nil=>exact dc hq hfl
    | cons f fs=>rw[hq] at h;exact h
   obtain⟨F,hF,hm,hz⟩:=hi.flds hfl
   have hpl:∃places,F.toList.mapM (fun f=>(P.info? f.type).map fun i=>(f.offset,i.size))=some places:=by
    generalize F.toList=L at hz
    induction L with
    | nil=>exact⟨[],rfl⟩
    | cons f L ih =>
     obtain⟨pl,hpl⟩:=ih fun f hf=>hz f (by simp[hf])
     obtain⟨m,hm⟩:=hz f (by simp)
     cases hq:P.info? f.type with
     | none=>rw[hq] at hm;simp at hm
     | some iq=>exact⟨_,by simp only[List.mapM_cons,hpl,hq];rfl⟩
   obtain⟨places,hpl⟩:=hpl
   rw[←hm] at h
   obtain⟨l',cs',h1,h2,h3⟩:=Z7k hT hz hpl ha hH h hz0
   obtain⟨g',h4,h5⟩:=Ja h1 h2
   refine⟨_,_,h4,h5,fun u _=>?_⟩
   have hb:P.built ty (parts.map fun p=>(p.1,a.eval p.2)).toList=some cs'.toArray:=by
    unfold Program.built
    have e:z.cells=(i.zero.map G.val).toArray:=by rw[←hz2]
    simp only[hj1,hF,hj2,hpl,e]
    simpa using h3
   have hr:=run_build (P:=P) u ty _ _ hb
   simp only[execOp,ho,Sem.run_bind,Sem.run_pure]
   rw[hr]
   rfl
include hK hd in
theorem Ok {mo:Mo}{ty:TypeId}{len:Nat}{parts:Array (Nat × Operand)}(ho:o.op=.buildSlice ty len parts)(h:match look ty tb with
  | some ⟨_,_,some (e,sz),_,_,_,_⟩=>match Nat.beq parts.toList.length len,Nat.ble (len * sz) 16777216 with
   | true,true=>bsK t sz parts.toList 0 own fun rows w'=>Zdp (Zab tb mo ty sz) ((V.n,.slc rows e sz)::w') V.n fun g w''=>K (put o.dst g t) w'' (V.n+1)
   | _,_=>False
  | _=>False):o.wp P a w next Q:=by
 split at h
 case h_2=>exact h.elim
 next ag ze e sz fl st ik kd hl =>
 split at h
 case h_2=>exact h.elim
 next hb1 hb2 =>
 have hb1:=ai hb1
 have hb2:=c9 hb2
 obtain⟨hu,ie,z,h1,h2,h3,h4,h5,-⟩:=(hT _ _ hl).elem e sz rfl
 obtain⟨rows,o1,I1,V1,vs,k1,⟨hn1,hkp⟩,hl1,k2,k3,k4,k5,k6,k7⟩:=Zer h ha hH
 have hlen:len=rows.length:=by rw[←hb1];exact k4
 have hfl:(vs.map fun v=>v.cells.toList).flatten.length=rows.length * sz:=by
  rw[B6 (sz:=sz) fun u hu=>by obtain⟨v,hv,rfl⟩:=az.1 hu;simpa using k6 v hv]
  simp[k3]
 have hrun:(execOp a.eval o).run P w=.ok (.value (.slice (some ⟨w.heap.size,0,none⟩) len len)) (w.alloc (.cells (vs.map fun v=>v.cells.toList).flatten.toArray e)):=by
  by_cases h0:len=0
  ·subst h0
   have hr0:rows=[]:=al hlen.symm
   have hv0:vs=[]:=al (by rw[k3,hr0];rfl)
   have hp0:parts=#[]:=Array.eq_empty_of_size_eq_zero (by simpa using hb1)
   subst hv0 hp0
   have hs:(sizeOf e).run P w=.ok sz w:=Bg (by rw[h1];simp[h3]) w
   have e0:(Array.range 0:Array Nat)=#[]:=Array.eq_empty_of_size_eq_zero (by simp)
   simp[execOp,ho,Instr.buildSlice,run_underlying hu,hs,Result.andThen,Instr.fill,newRow,e0]
  ·have hwp:=run_buildSlice (P:=P) w ty e len (parts.map fun p=>(p.1,a.eval p.2)) (vs.map fun v=>v.cells.toList).flatten.toArray ie z hu h1 h2 (by rw[h3];omega) (by rw[h3];exact Nat.mul_ne_zero h0 (by omega)) (by
    have hf:=Go.Great.fill_whole (s:=sz) h5 vs ((Array.range (len * ie.size)).map (z.cells[· % z.cells.size]!)) k6 (by simp[h3,k3,hlen])
    rw[h3]
    rw[←k2,h3] at hf
    simpa [List.flatMap_def] using hf)
   simp only[execOp,ho,Sem.run_bind,Sem.run_pure]
   rw[hwp]
   rfl
 have hln:=Df (r:=.slc rows e sz) hl1.has ((Below.refl _ _).alloc (af _) (.cells (vs.map fun v=>v.cells.toList).flatten.toArray e)) 0 (.slice (some ⟨w.heap.size,0,none⟩) len len) (·=w.heap.size) (fun k e=>⟨Nat.le_of_eq e.symm,by subst e;simp⟩) ⟨fun b=>by simp[Va.push,Value.ownBlock,eq_comm],vs.map fun v=>v.cells.toList,⟨hfl,.inr ⟨w.heap.size,len,_,by simp[Va.push,hlen],ah _,heap_alloc_new _ _,by omega,?_,by simp only[List.size_toArray];rw[hfl,hlen],by simp only;rw[←hfl];exact List.take_length⟩⟩,by simp[k3],fun i r u hr hu=>(k5 i r u hr hu),fun u hu=>by obtain⟨v,hv,rfl⟩:=az.1 hu;simpa using k6 v hv,fun u hu x hx=>by obtain⟨v,hv,rfl⟩:=az.1 hu;exact k7 v hv x hx,h5⟩
 ·have hpn:(V1.push 0 (.slice (some ⟨w.heap.size,0,none⟩) len len) (·=w.heap.size)).n=V.n+1:=by simp[Va.push,hn1]
  have hgr:CRep I1 (V1.push 0 (.slice (some ⟨w.heap.size,0,none⟩) len len) (·=w.heap.size)) (.osl V.n) (.slice (some ⟨w.heap.size,0,none⟩) len len):=⟨by show V.n < V1.n+1;omega,by simp[Va.push,hn1]⟩
  rw[←hn1] at k1
  cases hsb:Zab tb mo ty sz with
  | false =>
   rw[hsb] at k1
   exact Tm (Q:=Q) (g:=.osl V.n) hK ha hd hrun (hl1.trans hln) ((Below.refl _ _).alloc (af _) _) (hkp.trans (Nat.le_of_eq hn1.symm) (.push _ _ _ _)) (TRep.of_c (g:=.osl V.n) hgr) (by
    rw[hpn,←hn1]
    exact k1)
  | true =>
   rw[hsb] at k1
   have k1:Z8k ((V1.n,.slc rows e sz)::o1) (.osl V1.n) fun g w''=>K (put o.dst g t) w'' (V1.n+1):=k1
   rw[←hn1] at hgr
   obtain⟨g',o3,I3,V3,p1,⟨p2,p3⟩,p4,p5⟩:=Dn k1 hgr hln.has
   exact Tm (Q:=Q) (g:=g') hK ha hd hrun ((hl1.trans hln).trans p4) ((Below.refl _ _).alloc (af _) _) ((hkp.trans (Nat.le_of_eq hn1.symm) (.push _ _ _ _)).trans (by rw[hpn];omega) p3) (.of_v p5) (by
    rw[p2,hpn,←hn1]
    exact p1)
 ·have:len≤len * sz:=Nat.le_mul_of_pos_right _ h5
  unfold maxLen
  omega
omit hT hK hH ha hd in
theorem Zfw {I:Imm}{z x:Value}(h:VRep I (.v z) x):x=z:=by cases h;rfl
omit hT hK hH ha hd in
theorem Z5a {α:Type}(k:Nat)(x:α):(List.replicate k [x]).flatten=List.replicate k x:=by
 induction k with
 | zero=>rfl
 | succ k ih=>rw[List.replicate_succ,List.replicate_succ,b7,ih];rfl
omit hT hK hH ha hd in
theorem Z2d (zc:Array Value)(sz k:Nat)(hz:zc.size=sz)(hs:0 < sz):(madeCells zc (k * sz)).toList=(List.replicate k zc.toList).flatten:=by
 have hl:(List.replicate k zc.toList).flatten.length=k * sz:=by
  rw[B6 (sz:=sz) fun u hu=>by rw[cq hu];simpa using hz];simp
 refine List.ext_getElem (by rw[hl];simp[madeCells]) fun j h1 h2=>?_
 have hj:j < k * sz:=by rw[hl] at h2;exact h2
 have hq:j / sz < k:=(Nat.div_lt_iff_lt_mul hs).2 hj
 have hm:j % sz < sz:=Nat.mod_lt _ hs
 have e1:(madeCells zc (k * sz)).toList[j]=zc[j % sz]!:=by simp[madeCells,hz]
 have e2:(List.replicate k zc.toList).flatten[j / sz * sz+j % sz]?=some zc[j % sz]!:=D1 (u:=zc.toList) (fun u hu=>by rw[cq hu];simpa using hz) (by rw[List.getElem?_replicate,db hq]) (by
  have hm':j % sz < zc.size:=by omega
  rw[Array.getElem?_toList,Array.getElem?_eq_getElem hm',getElem!_pos zc _ hm'])
 rw[Nat.div_add_mod'] at e2
 rw[e1]
 rw[ab h2] at e2
 exact(cg e2).symm
include hK hd in
theorem Xj {ty:TypeId}{len cap:Operand}(ho:o.op=.makeSlice ty len cap){ag:Bool}{zr ze:List G}{e sz:Nat}{fl fl2:List (TypeId × Nat)}{st st2:Bool}{ik ik2:Option IntKind}{kd kd2:KD}{el2:Option (TypeId × Nat)}(hl:look ty tb=some ⟨ag,zr,some (e,sz),fl,st,ik,kd⟩)(hl2:look e tb=some ⟨true,ze,el2,fl2,st2,ik2,kd2⟩)(h:match Nat.beq sz ze.length,Av Gb ze with
        | true,true=>ev t own len fun p=>ev t own cap fun q=>match p,q with
         | .v (.int .i64 m),.v (.int .i64 c)=>(0≤m∧m≤1073741824∧c=m∧m * sz≤1073741824)∧K (put o.dst (.osl V.n) t) ((V.n,.slc (List.replicate m.toNat ze) e sz)::own) (V.n+1)
         | _,_=>False
        | _,_=>False):o.wp P a w next Q:=by
 split at h
 case h_2=>exact h.elim
 next hb1 hb2 =>
 have hb1:=ai hb1
 obtain⟨hu,ie,zv,h1,h2,h3,h4,h5,h6⟩:=(hT _ _ hl).elem e _ rfl
 have hz:=hT _ _ hl2
 obtain⟨p,h,hp⟩:=B0 h ha hH
 obtain⟨q,h,hq⟩:=B0 h ha hH
 split at h
 case h_2=>exact h.elim
 next m c =>
 obtain⟨⟨g1,g2,g3,g4⟩,h⟩:=h
 subst g3
 obtain⟨k,rfl⟩:=Int.eq_ofNat_of_zero_le g1
 have hp:a.eval len=.int .i64 k:=Zfw hp
 have hq:a.eval cap=.int .i64 k:=Zfw hq
 have hzz:(P.info? e).bind (·.zero)=some zv:=by rw[h1];exact h2
 have hz2:zv.cells.toList=ze.map G.val:=by
  have:=hz.zero
  rw[hzz] at this
  simpa using this
 have hzs:zv.cells.size=sz:=by rw[←cb,hz2,aa,hb1]
 have hmk:=run_make (P:=P) w ty e ie zv hu h1 h2 .i64 .i64 k k (by omega) (bp _) (by
  have:ie.bytes * k≤65536 * 1073741824:=Nat.mul_le_mul h6 (by omega)
  have e:(ie.bytes:Int) * (k:Int)=((ie.bytes * k:Nat):Int):=by rw[Int.natCast_mul]
  rw[e];omega) (by omega)
 simp only[Int.toNat_natCast,h3] at hmk
 have hrun:(execOp a.eval o).run P w=.ok (.value (.slice (some ⟨w.heap.size,0,none⟩) k k)) (w.alloc (.cells (madeCells zv.cells (k * sz)) e)):=by
  simp only[execOp,ho,hp,hq,Sem.run_bind,Sem.run_pure]
  rw[hmk]
  rfl
 have hcs:=Z2d zv.cells sz k hzs h5
 have hpz:∀I2:Imm,PW (VRep I2) ze zv.cells.toList:=fun I2=>by
  rw[hz2]
  refine⟨by simp,fun j g u hg hu=>?_⟩
  rw[aj,hg] at hu
  obtain⟨x,rfl,-⟩:=L9 (Ac hb2 g (ae hg))
  obtain rfl:x=u:=by simpa [G.val] using hu
  exact .v _
 have hone:∀x∈zv.cells.toList,x.oneCell'=true:=fun x hx=>by
  rw[hz2] at hx
  obtain⟨g,hg,rfl⟩:=az.1 hx
  obtain⟨y,rfl,hy⟩:=L9 (Ac hb2 g hg)
  exact hy
 have hrl:∀u∈List.replicate k zv.cells.toList,u.length=sz:=fun u hu=>by rw[cq hu];simpa using hzs
 have hln:=Df (r:=.slc (List.replicate k ze) e sz) hH ((Below.refl _ _).alloc (af _) (.cells (madeCells zv.cells (k * sz)) e)) 0 (.slice (some ⟨w.heap.size,0,none⟩) k k) (·=w.heap.size) (fun k e=>⟨Nat.le_of_eq e.symm,by subst e;simp⟩) ⟨fun b=>by simp[Va.push,Value.ownBlock,eq_comm],List.replicate k zv.cells.toList,⟨by rw[B6 hrl];simp,.inr ⟨w.heap.size,k,_,by simp[Va.push],ah _,heap_alloc_new _ _,by simp,?_,by rw[←cb,hcs,B6 hrl];simp,by rw[hcs,ao (by rw[B6 hrl];simp)]⟩⟩,by simp,fun i r u hr hu=>?_,hrl,fun u hu x hx=>by rw[cq hu] at hx;exact hone x hx,h5⟩
 ·exact Tm (Q:=Q) (g:=.osl V.n) hK ha hd hrun hln ((Below.refl _ _).alloc (af _) _) (.push _ _ _ _) (TRep.of_c (g:=.osl V.n) ⟨by show V.n < V.n+1;omega,by simp[Va.push]⟩) h
 ·unfold maxLen;omega
 ·rw[cq (ae hr),cq (ae hu)]
  exact hpz _
include hK hd in
theorem Pk {ty:TypeId}{len cap:Operand}(ho:o.op=.makeSlice ty len cap)(h:match look ty tb with
  | some ⟨_,_,some (e,sz),_,_,_,_⟩=>match look e tb with
   | some ⟨false,[z],_,_,_,_,_⟩=>match Nat.beq sz 1 with
    | true=>ev t own len fun p=>ev t own cap fun q=>match p,q with
     | .v (.int .i64 m),.v (.int .i64 c)=>(0≤m∧m≤1073741824∧c=m)∧K (put o.dst (.osl V.n) t) ((V.n,.slc (List.replicate m.toNat [z]) e 1)::own) (V.n+1)
     | _,_=>False
    | false=>False
   | some ⟨true,ze,_,_,_,_,_⟩=>match Nat.beq sz ze.length,Av Gb ze with
    | true,true=>ev t own len fun p=>ev t own cap fun q=>match p,q with
     | .v (.int .i64 m),.v (.int .i64 c)=>(0≤m∧m≤1073741824∧c=m∧m * sz≤1073741824)∧K (put o.dst (.osl V.n) t) ((V.n,.slc (List.replicate m.toNat ze) e sz)::own) (V.n+1)
     | _,_=>False
    | _,_=>False
   | _=>False
  | _=>False):o.wp P a w next Q:=by
 split at h
 case h_2=>exact h.elim
 next ag ze e sz fl st ik kd hl =>
 split at h
 case h_2 ze el2 fl2 st2 ik2 kd2 hl2=>exact Xj hT hK hH ha hd ho hl hl2 h
 case h_3=>exact h.elim
 next z el2 fl2 st2 ik2 kd2 hl2 =>
 split at h
 case h_2=>exact h.elim
 next hb1 =>
 have hb1:=ai hb1
 subst hb1
 obtain⟨hu,ie,zv,h1,h2,h3,h4,h5,h6⟩:=(hT _ _ hl).elem e _ rfl
 have hz:=hT _ _ hl2
 obtain⟨p,h,hp⟩:=B0 h ha hH
 obtain⟨q,h,hq⟩:=B0 h ha hH
 split at h
 case h_2=>exact h.elim
 next m c =>
 obtain⟨⟨g1,g2,g3⟩,h⟩:=h
 subst g3
 obtain⟨k,rfl⟩:=Int.eq_ofNat_of_zero_le g1
 have hp:a.eval len=.int .i64 k:=Zfw hp
 have hq:a.eval cap=.int .i64 k:=Zfw hq
 have hzz:(P.info? e).bind (·.zero)=some zv:=by rw[h1];exact h2
 have hz1:zv.cells=#[zv]:=by simpa using hz.zag zv hzz
 have hz2:zv=z.val:=by
  have:=hz.zero
  rw[hzz] at this
  simp[hz1] at this
  exact this
 have hinfo:(P.info? e).map (fun i=>(i.zero,i.size,i.bytes))=some (some zv,1,ie.bytes):=by rw[h1];simp[h2,h3]
 have hmk:=run_make_row' (P:=P) ty e zv ie.bytes hu hinfo hz1 .i64 .i64 k (by
  have:ie.bytes * k≤65536 * 1073741824:=Nat.mul_le_mul h6 (by omega)
  omega) (by omega) w
 have hrun:(execOp a.eval o).run P w=.ok (.value (.slice (some ⟨w.heap.size,0,none⟩) k k)) (w.alloc (.cells (madeCells #[zv] k) e)):=by
  simp only[execOp,ho,hp,hq,Sem.run_bind,Sem.run_pure]
  rw[hmk]
  rfl
 have hcs:(madeCells #[zv] k).toList=List.replicate k zv:=by
  refine List.ext_getElem (by simp[madeCells]) fun j h1 h2=>?_
  simp[madeCells,Nat.mod_one]
 have hfl:(List.replicate k [zv]).flatten=List.replicate k zv:=Z5a k zv
 have hpz:∀I2:Imm,VRep I2 z zv:=fun I2=>by
  have hzok:=hz.zok
  rw[hz2]
  have hzok:zOK z=true:=by simpa [Av] using hzok
  revert hzok
  cases z<;>intro hzok<;>first | (cases hzok;done) | exact .v _ | exact .ff | exact .tt | exact .nl | exact .un
 have hone:zv.oneCell'=true:=by
  have hzok:zOK z=true:=by simpa [Av] using hz.zok
  rw[hz2]
  revert hzok
  cases z<;>intro hzok<;>first | (cases hzok;done) | rfl | exact hzok | (simpa [zOK] using hzok)
 have hln:=Df (r:=.slc (List.replicate k [z]) e 1) hH ((Below.refl _ _).alloc (af _) (.cells (madeCells #[zv] k) e)) 0 (.slice (some ⟨w.heap.size,0,none⟩) k k) (·=w.heap.size) (fun k e=>⟨Nat.le_of_eq e.symm,by subst e;simp⟩) ⟨fun b=>by simp[Va.push,Value.ownBlock,eq_comm],List.replicate k [zv],⟨by rw[hfl];simp,.inr ⟨w.heap.size,k,_,by simp[Va.push],ah _,heap_alloc_new _ _,by simp,?_,by rw[←cb,hcs];simp,by rw[hcs,hfl];simp⟩⟩,by simp,fun i r u hr hu=>?_,fun u hu=>by rw[cq hu];rfl,fun u hu x hx=>by rw[cq hu] at hx;rw[bm.1 hx];exact hone,Nat.one_pos⟩
 ·exact Tm (Q:=Q) (g:=.osl V.n) hK ha hd hrun hln ((Below.refl _ _).alloc (af _) _) (.push _ _ _ _) (TRep.of_c (g:=.osl V.n) ⟨by show V.n < V.n+1;omega,by simp[Va.push]⟩) h
 ·unfold maxLen;omega
 ·rw[cq (ae hr),cq (ae hu)]
  exact .cons (hpz _) .nil
end
section
variable {P:Program} {tb:List (Nat × TI)} {N n:Nat} {I I' I0:Imm} {V V' V0:Va} {a:Act} {t:Ts} {own own' own0:Os} {w w' w0:World} {g:G} {y:Value} {d:Option Tmp}
variable {XL:List Nat} {S:World→Prop} {K:Ts→Os→Nat→Prop} {next:Act→World→Prop} {Q:Exit→Act→World→Prop} {o:Oper} {r:R}
theorem Zh {K1:List (List G)→Prop}(h:Si own g K1)(hg:TRep I V g y)(hH:Has I V own w):∃rows A c,K1 rows∧y=.slice A rows.length c∧(A=none→rows=[]):=by
 cases g with
 | nl=>cases(show VRep I .nl y from hg);exact⟨_,none,0,h,rfl,fun _=>rfl⟩
 | sl l =>
  cases(show VRep I (.sl l) y from hg) with
  | sl _ A c sz u hc hA hz hh hu=>exact⟨_,A,c,h,rfl,fun e=>al (by have:=hA e;omega)⟩
 | osl k =>
  obtain⟨hk,rfl⟩:=(show k < V.n∧y=V.s k from hg)
  unfold Si at h
  dsimp only at h
  split at h
  ·next rows e sz hr =>
   obtain⟨-,rs,⟨-,h6⟩,-⟩:=hH.each k _ hr
   rcases h6 with⟨h7,h8⟩ | ⟨b,cap,cur,h7,-⟩
   ·exact⟨_,none,0,h,by rw[h7,h8],fun _=>al h8⟩
   ·exact⟨_,_,_,h,h7,fun e=>by cases e⟩
  ·next rows sz hr =>
   have hv:=(hH.each k _ hr).2.1
   generalize V.s k=y at hv
   cases hv with
   | sl _ A c sz u hc hA hz hh hu=>exact⟨_,A,c,h,rfl,fun e=>al (by have:=hA e;omega)⟩
  ·next rows e sz hr =>
   obtain⟨-,rs,⟨-,h6⟩,-⟩:=hH.each k _ hr
   rcases h6 with⟨h7,h8⟩ | ⟨b,q,cap,cur,h7,-⟩
   ·exact⟨_,none,0,h,by rw[h7,h8],fun _=>al h8⟩
   ·exact⟨_,_,_,h,h7,fun e=>by cases e⟩
  ·exact h.elim
 | osv k sz lo hi =>
  obtain⟨hk,⟨hl1,hl2⟩,rfl⟩:=(show k < V.n∧(lo≤hi∧hi≤Mf (V.s k))∧y=Hc sz (V.s k) lo hi from hg)
  unfold Si at h
  dsimp only at h
  split at h
  ·next rows e sz' hr =>
   obtain⟨-,rs,⟨-,h6⟩,-⟩:=hH.each k _ hr
   have key:∃A c,V.s k=.slice A rows.length c∧(A=none→rows.length=0):=by
    rcases h6 with⟨h7,h8⟩ | ⟨b,cap,cur,h7,-⟩
    ·exact⟨none,0,by rw[h7,h8],fun _=>h8⟩
    ·exact⟨_,_,h7,fun e=>by cases e⟩
   obtain⟨A,c,e1,e2⟩:=key
   rw[e1] at hl2⊢
   have hl2:hi≤rows.length:=hl2
   have e3:(E6 rows lo hi).length=hi - lo:=by unfold E6;simp;omega
   refine⟨_,(if c=lo then A else A.map (·.add (lo * sz))),c - lo,h,by rw[e3];rfl,fun e=>al ?_⟩
   have hA:A=none:=by
    cases A with
    | none=>rfl
    | some x=>split at e<;>cases e
   have:=e2 hA
   rw[e3];omega
  ·exact h.elim
 | _=>exact False.elim h
theorem U7 {sz:Nat}{K1:List (List G)→Prop}(h:Z3p own g sz K1)(hg:TRep I V g y)(hH:Has I V own w):∃new A c,∃rs:List (List Value),K1 new∧y=.slice A new.length c∧(A=none→new.length=0∧c=0)∧rs.length=new.length∧(∀(i:Nat) r u,new[i]?=some r→rs[i]?=some u→PW (VRep I) r u)∧(∀u∈rs,u.length=sz)∧(∀u∈rs,∀x∈u,x.oneCell'=true)∧∀a,A=some a→∀(j:Nat) u,rs.flatten[j]?=some u→w.cell? (a.add j)=some u:=by
 cases g with
 | nl=>cases(show VRep I .nl y from hg);exact⟨[],none,0,[],h,rfl,fun _=>⟨rfl,rfl⟩,rfl,fun i r u h=>by simp at h,by simp,by simp,fun a e=>by cases e⟩
 | sl l =>
  obtain⟨hr,h⟩:=h
  obtain⟨A,c,rs,e,h1,h2,h3,h4,h5,h6⟩:=Zaz (show VRep I (.sl l) y from hg) hH.mem fun r hm=>(hr r hm).1
  refine⟨l,A,c,rs,h,e,fun e=>⟨by rw[(h2 e).1];rfl,(h2 e).2⟩,h3,h4,h5,fun u hu x hx=>?_,fun a ha j u hu=>(h6 a ha j u hu).2⟩
  obtain⟨i,hi,e⟩:=cf.1 hu
  have hi':i < l.length:=by omega
  have hp:=h4 i l[i] u (ab hi') (by rw[ab hi,e])
  obtain⟨m,hm,e2⟩:=cf.1 hx
  have hm':m < l[i].length:=by rw[hp.1];exact hm
  exact M0 (hp.2 m l[i][m] x (ab hm') (by rw[ab hm,e2])) (List.all_eq_true.1 (hr _ (bl hi')).2 _ (bl hm'))
 | osl k =>
  obtain⟨hk,rfl⟩:=(show k < V.n∧y=V.s k from hg)
  unfold Z3p at h
  dsimp only at h
  split at h
  ·next rows e sz' hr =>
   split at h
   ·next hb =>
    have hb:=ai hb
    subst hb
    obtain⟨-,rs,ho,h2,h3,h4,h5,h6⟩:=hH.each k _ hr
    rcases ho.2 with⟨h7,h8⟩ | ⟨b,cap,cur,h7,-⟩
    ·exact⟨rows,none,0,rs,h,by rw[h7,h8],fun _=>⟨h8,rfl⟩,h2,h3,h4,h5,fun a e=>by cases e⟩
    ·exact⟨rows,_,_,rs,h,h7,(fun e=>by cases e),h2,h3,h4,h5,fun a e j u hu=>by
      cases e
      exact ho.cells (g:=b) (by rw[h7];rfl) j u hu⟩
   ·exact h.elim
  ·exact h.elim
 | osv k sz0 lo hi =>
  obtain⟨hk,⟨b1,b2⟩,rfl⟩:=(show k < V.n∧(lo≤hi∧hi≤Mf (V.s k))∧y=Hc sz0 (V.s k) lo hi from hg)
  unfold Z3p at h
  dsimp only at h
  split at h
  ·next rows e sz' hr =>
   split at h
   ·next hb hb0 =>
    have hb:=ai hb
    have hb0:=ai hb0
    subst hb hb0
    obtain⟨-,rs,ho,h2,h3,h4,h5,h6⟩:=hH.each k _ hr
    have hsub:(E6 rows lo hi).length=hi - lo:=by unfold E6;rw[ba,au];rcases ho.2 with⟨h7,h8⟩ | ⟨b,cap,cur,h7,-⟩<;>(rw[h7] at b2;simp only[Mf] at b2;omega)
    have hR:∀(i:Nat) r u,(E6 rows lo hi)[i]?=some r→((rs.take hi).drop lo)[i]?=some u→PW (VRep I) r u:=fun i r u q1 q2=>by
     unfold E6 at q1
     rw[bu] at q1 q2
     have hlt:lo+i < hi:=by
      have:=(ac.1 q1).1
      rw[au] at this;omega
     rw[List.getElem?_take_of_lt hlt] at q1 q2
     exact h3 _ r u q1 q2
    rcases ho.2 with⟨h7,h8⟩ | ⟨b,cap,cur,h7,-,-,h9,-⟩
    ·have hl0:hi=0∧lo=0:=by rw[h7] at b2;simp only[Mf] at b2;omega
     obtain⟨rfl,rfl⟩:=hl0
     refine⟨E6 rows 0 0,none,0,(rs.take 0).drop 0,h,by rw[h7,hsub];rfl,fun _=>⟨hsub,rfl⟩,by rw[hsub];simp,hR,by simp,by simp,fun a e=>by cases e⟩
    ·refine⟨E6 rows lo hi,if cap=lo then some ⟨b,0,none⟩ else(some (⟨b,0,none⟩:Addr)).map (·.add (lo * sz0)),cap - lo,(rs.take hi).drop lo,h,by rw[h7,hsub];rfl,fun e=>(by split at e<;>cases e),by rw[hsub,ba,au];rw[h7] at b2;simp only[Mf] at b2;omega,hR,fun u hu=>h4 u (bd (bz hu)),fun u hu=>h5 u (bd (bz hu)),fun a e j u hu=>?_⟩
     have hlr:hi≤rs.length:=by rw[h2];rw[h7] at b2;simpa [Mf] using b2
     have hf:rs.flatten[lo * sz0+j]?=some u:=by
      have e1:rs=rs.take lo++((rs.take hi).drop lo++rs.drop hi):=by
       conv=>lhs;rw[←cw hi rs,←cw lo (rs.take hi),List.take_take,ce b1,bw]
      have e2:(rs.take lo).flatten.length=lo * sz0:=by
       have:∀(l:List (List Value)),(∀u∈l,u.length=sz0)→l.flatten.length=l.length * sz0:=fun l=>by
        induction l with
        | nil=>intro _;simp
        | cons u l ih=>intro h;rw[b7,aw,h u (by simp),ih fun x hx=>h x (by simp[hx]),bc,Nat.succ_mul];omega
       rw[this _ fun u hu=>h4 u (bd hu),au,ce (by omega)]
      rw[e1,List.flatten_append,be (by omega),e2,Nat.add_sub_cancel_left,List.flatten_append,bk (ac.1 hu).1]
      exact hu
     split at e
     ·next hc =>
      exfalso
      have:lo=hi:=by
       have:hi≤cap:=by rw[h7] at b2;simp only[Mf] at b2;omega
       omega
      subst this
      rw[List.drop_of_length_le (by rw[au];omega)] at hu
      simp at hu
     ·cases e
      have:=ho.cells (g:=b) (by rw[h7];rfl) (lo * sz0+j) u hf
      show w.cell? ((Addr.add ⟨b,0,none⟩ (lo * sz0)).add j)=some u
      rw[Addr.add_lit,Addr.add_lit]
      rw[Addr.add_lit] at this
      rw[show 0+lo * sz0+j=0+(lo * sz0+j) by omega]
      exact this
   ·exact h.elim
  ·next rows e' sz' hr =>
   split at h
   ·next hb hb0 =>
    have hb:=ai hb
    have hb0:=ai hb0
    subst hb hb0
    obtain⟨-,rs,ho,h2,h3,h4,h5,h6⟩:=hH.each k _ hr
    have hsub:(E6 rows lo hi).length=hi - lo:=by unfold E6;rw[ba,au];rcases ho.2 with⟨h7,h8⟩ | ⟨b,q,cap,cur,h7,-⟩<;>(rw[h7] at b2;simp only[Mf] at b2;omega)
    have hR:∀(i:Nat) r u,(E6 rows lo hi)[i]?=some r→((rs.take hi).drop lo)[i]?=some u→PW (VRep I) r u:=fun i r u q1 q2=>by
     unfold E6 at q1
     rw[bu] at q1 q2
     have hlt:lo+i < hi:=by
      have:=(ac.1 q1).1
      rw[au] at this;omega
     rw[List.getElem?_take_of_lt hlt] at q1 q2
     exact h3 _ r u q1 q2
    rcases ho.2 with⟨h7,h8⟩ | ⟨b,q,cap,cur,h7,hgg,h9,hcm,hcs,htk⟩
    ·have hl0:hi=0∧lo=0:=by rw[h7] at b2;simp only[Mf] at b2;omega
     obtain⟨rfl,rfl⟩:=hl0
     refine⟨E6 rows 0 0,none,0,(rs.take 0).drop 0,h,by rw[h7,hsub];rfl,fun _=>⟨hsub,rfl⟩,by rw[hsub];simp,hR,by simp,by simp,fun a e=>by cases e⟩
    ·refine⟨E6 rows lo hi,if cap=lo then some ⟨b,q,none⟩ else(some (⟨b,q,none⟩:Addr)).map (·.add (lo * sz0)),cap - lo,(rs.take hi).drop lo,h,by rw[h7,hsub];rfl,fun e=>(by split at e<;>cases e),by rw[hsub,ba,au];rw[h7] at b2;simp only[Mf] at b2;omega,hR,fun u hu=>h4 u (bd (bz hu)),fun u hu=>h5 u (bd (bz hu)),fun a e j u hu=>?_⟩
     have hlr:hi≤rs.length:=by rw[h2];rw[h7] at b2;simpa [Mf] using b2
     have hf:rs.flatten[lo * sz0+j]?=some u:=by
      have e1:rs=rs.take lo++((rs.take hi).drop lo++rs.drop hi):=by
       conv=>lhs;rw[←cw hi rs,←cw lo (rs.take hi),List.take_take,ce b1,bw]
      have e2:(rs.take lo).flatten.length=lo * sz0:=by
       have:∀(l:List (List Value)),(∀u∈l,u.length=sz0)→l.flatten.length=l.length * sz0:=fun l=>by
        induction l with
        | nil=>intro _;simp
        | cons u l ih=>intro h;rw[b7,aw,h u (by simp),ih fun x hx=>h x (by simp[hx]),bc,Nat.succ_mul];omega
       rw[this _ fun u hu=>h4 u (bd hu),au,ce (by omega)]
      rw[e1,List.flatten_append,be (by omega),e2,Nat.add_sub_cancel_left,List.flatten_append,bk (ac.1 hu).1]
      exact hu
     split at e
     ·next hc =>
      exfalso
      have:lo=hi:=by
       have:hi≤cap:=by rw[h7] at b2;simp only[Mf] at b2;omega
       omega
      subst this
      rw[List.drop_of_length_le (by rw[au];omega)] at hu
      simp at hu
     ·cases e
      show w.cell? ((Addr.add ⟨b,q,none⟩ (lo * sz0)).add j)=some u
      rw[Addr.add_lit,Addr.add_lit,cell_of_row w b _ cur e' (0,0) hgg]
      rw[←htk,bi] at hf
      split at hf
      ·rw[bu] at hf
       rw[show q+lo * sz0+j=q+(lo * sz0+j) by omega]
       simpa using hf
      ·cases hf
   ·exact h.elim
  ·exact h.elim
 | _=>exact False.elim h
theorem J8 (h:Has I V own w){k:Nat}{r0:R}(hk:look k own=some r0)(hos:w'.os=w.os)(htp:w'.tape=w.tape)(hou:w'.output=w.output)(hsz:w.heap.size≤w'.heap.size)(hbl:∀b,b < w.heap.size→¬V.f k b→w'.heap[b]?=w.heap[b]?)
  (s:Value) (f:Nat→Prop) (hf:∀b,f b→(V.f k b∨w.heap.size≤b)∧b < w'.heap.size) (hr:RRep I ((V.drop k).push 0 s f) V.n w' r):Later own I V w ((V.n,r)::(k,.gone)::own) I ((V.drop k).push 0 s f) w':=by
 have hkn:=h.num k r0 hk
 have hne:∀j r',look j own=some r'→j≠k→∀b,V.f j b→¬V.f k b:=fun j r' hj hne b hb hb'=>hne (h.disj j k r' r0 b hj hk hb hb')
 have hlk:∀j r',look j ((V.n,r)::(k,.gone)::own)=some r'→(j=V.n∧r'=r)∨(j≠V.n∧j=k∧r'=.gone)∨(j≠V.n∧j≠k∧look j own=some r'):=fun j r' hj=>by
  rw[A3] at hj
  split at hj
  ·next e=>cases hj;exact .inl ⟨e,rfl⟩
  ·next e =>
   rw[A3] at hj
   split at hj
   ·next e'=>cases hj;exact .inr (.inl ⟨e,e',rfl⟩)
   ·next e'=>exact .inr (.inr ⟨e,e',hj⟩)
 have hV:V.le ((V.drop k).push 0 s f):=⟨Nat.le_succ _,fun j hj=>by simp[Va.push,Va.drop,Nat.ne_of_lt hj]⟩
 have hfn:((V.drop k).push 0 s f).f V.n=f:=by simp[Va.push,Va.drop]
 have hfj:∀j,j≠V.n→j≠k→((V.drop k).push 0 s f).f j=V.f j:=fun j h1 h2=>by simp[Va.push,Va.drop,h1,h2]
 have hfk:∀b,¬((V.drop k).push 0 s f).f k b:=fun b=>by simp[Va.push,Va.drop,Nat.ne_of_lt hkn]
 refine⟨⟨h.mem.keep fun b o x hx=>hbl b (h.mem.lt hx) fun hfb=>(by have:=(h.foot k r0 b hk hfb).2 o;rw[hx] at this;cases this),fun j r' hj=>?_,fun j r' hj=>?_,fun j r' b hj hb=>?_,fun j j' r1 r2 b hj hj' hb hb'=>?_⟩,⟨hos,htp,hou,hsz,fun b hb hn=>⟨hbl b hb (hn k r0 hk),fun _=>rfl⟩,fun _ _ _ h=>h,fun j r' b hj hb hlt=>?_⟩,hV⟩
 ·rcases hlk j r' hj with⟨e,-⟩ | ⟨-,e,-⟩ | ⟨-,-,e⟩
  ·rw[e];exact ct _
  ·rw[e];exact Nat.lt_succ_of_lt hkn
  ·exact Nat.lt_succ_of_lt (h.num j r' e)
 ·rcases hlk j r' hj with⟨e,e'⟩ | ⟨-,e,e'⟩ | ⟨e1,e2,e⟩
  ·rw[e,e'];exact hr
  ·rw[e,e'];exact hfk
  ·exact(h.each j r' e).keep (.refl _) hV (h.num j r' e) (hfj j e1 e2) hos hsz fun b hb=>hbl b (h.foot j r' b e hb).1 (hne j r' e e2 b hb)
 ·rcases hlk j r' hj with⟨e,e'⟩ | ⟨-,e,e'⟩ | ⟨e1,e2,e⟩
  ·rw[e,hfn] at hb
   refine⟨(hf b hb).2,fun o=>?_⟩
   rcases(hf b hb).1 with h1 | h1
   ·exact(h.foot k r0 b hk h1).2 o
   ·cases hI:I b o with
    | none=>rfl
    | some x=>exact dc (h.mem.lt hI) (by omega)
  ·rw[e] at hb;exact dc hb (hfk b)
  ·rw[hfj j e1 e2] at hb
   exact⟨ap (h.foot j r' b e hb).1 hsz,(h.foot j r' b e hb).2⟩
 ·have key:∀j r',look j own=some r'→j≠V.n→j≠k→V.f j b→¬f b:=fun j r' hj e1 e2 hb hfb=>by
   rcases(hf b hfb).1 with h1 | h1
   ·exact hne j r' hj e2 b hb h1
   ·have:=(h.foot j r' b hj hb).1;omega
  rcases hlk j r1 hj with⟨e,-⟩ | ⟨-,e,-⟩ | ⟨e1,e2,e⟩
  ·rcases hlk j' r2 hj' with⟨e',-⟩ | ⟨-,e',-⟩ | ⟨e1',e2',e'⟩
   ·rw[e,e']
   ·rw[e'] at hb';exact dc hb' (hfk b)
   ·rw[e,hfn] at hb;rw[hfj j' e1' e2'] at hb';exact dc hb (key j' r2 e' e1' e2' hb')
  ·rw[e] at hb;exact dc hb (hfk b)
  ·rw[hfj j e1 e2] at hb
   rcases hlk j' r2 hj' with⟨e',-⟩ | ⟨-,e',-⟩ | ⟨e1',e2',e'⟩
   ·rw[e',hfn] at hb';exact dc hb' (key j r1 e e1 e2 hb)
   ·rw[e'] at hb';exact dc hb' (hfk b)
   ·rw[hfj j' e1' e2'] at hb';exact h.disj j j' r1 r2 b e e' hb hb'
 ·rcases hlk j r' hj with⟨e,-⟩ | ⟨-,e,-⟩ | ⟨e1,e2,e⟩
  ·rw[e,hfn] at hb
   rcases(hf b hb).1 with h1 | h1
   ·exact⟨k,r0,hk,h1⟩
   ·omega
  ·rw[e] at hb;exact dc hb (hfk b)
  ·rw[hfj j e1 e2] at hb;exact⟨j,r',e,hb⟩
theorem Py (t ty e:TypeId)(i:TypeInfo)(z:Value)(size bytes:Nat)(ht:P.underlying t=some (.slice e))(hi:P.info? e=some i)(hz:i.zero=some z)
  (hsize:i.size=size) (hby:i.bytes=bytes) (hzs:z.cells.size=size) (hsz:0 < size) (v:Value) (n:Nat) (xs:List Value) (hown:Dg w e size v n xs)
  (A:Option Addr) (m c:Nat) (news:List Value) (hl:news.length=m * size) (hA:A=none→m=0∧c=0) (hnews:∀a,A=some a→∀j u,news[j]?=some u→w.cell? (a.add j)=some u) (h1:∀u∈news,u.oneCell'=true)
  (h63:n+m≤maxLen) (hbytes:(n+m) * bytes≤140737488355328) :
  ∃v' w',(Builtin.append_ #[t,t] ty #[v,.slice A m c]).run P w=.ok v' w'∧Dg w' e size v' (n+m) (xs++news)∧w.grownBy w' v.ownBlock∧(v'.ownBlock=v.ownBlock∨∃g,v'.ownBlock=some g∧w.heap.size≤g∧g < w'.heap.size):=by
 rcases hown.2 with⟨rfl,rfl⟩ | ⟨g,q,cap,cur,rfl,hg,hn,hm,hc,htake⟩
 ·have hx:xs=[]:=al (by simpa using hown.1)
  subst hx
  obtain⟨v',w',r1,r2,r3,r4⟩:=Z0k (P:=P) (w:=w) t ty e i z size bytes ht hi hz hsize hby hzs hsz (.slice none 0 0) 0 [] (World.ownsRow_nil w 0 e size) A m c news hl hA hnews h1 h63 hbytes
  exact⟨v',w',r1,P8 r2,r3,r4⟩
 cases A with
 | none =>
  obtain⟨rfl,rfl⟩:=hA rfl
  have hnn:news=[]:=al (by simpa using hl)
  subst hnn
  refine⟨_,w,?_,by simpa using hown,World.grownBy.refl _ _,.inl rfl⟩
  simp[Builtin.append_,run_underlying ht,sizeOf,typeInfo,hi,Builtin.lenOf,Builtin.firstCells,hn,storeCells]
 | some a =>
  have hnews:=hnews a rfl
  by_cases hroom:n+m≤cap
  ·subst hsize
   have hmul:n * i.size+news.length≤cap * i.size:=by rw[hl,←Nat.add_mul];exact Nat.mul_le_mul_right _ hroom
   have hf:=run_firstCells_some (P:=P) w i.size m a m c news hl hnews
   have hst:=run_storeCells_at P g (q+n * i.size) e news 0 cur w hg (by omega) h1
   simp only[Nat.add_zero] at hst
   have hcl:cur.toList.length=cur.size:=cb
   refine⟨.slice (some ⟨g,q,none⟩) (n+m) cap,w.setRow g (cur.toList.take (q+n * i.size)++news++cur.toList.drop (q+n * i.size+news.length)).toArray,by simp[Builtin.append_,run_underlying ht,sizeOf,typeInfo,hi,Builtin.lenOf,hroom,hf,Addr.add_lit,hst],⟨by rw[aw,hown.1,hl,Nat.add_mul],.inr ⟨g,q,cap,_,rfl,setRow_heap w _ cur _ e _ hg,hroom,hm,?_,?_⟩⟩,⟨rfl,rfl,rfl,by simp[World.setRow],fun b hb hne=>setRow_other w _ b _ (fun e=>hne (by rw[e];rfl))⟩,.inl rfl⟩
   ·simp
    omega
   ·have hX:(cur.toList.take (q+n * i.size)).drop q=xs:=by rw[List.drop_take,Nat.add_sub_cancel_left];exact htake
    have hln:(n+m) * i.size=(xs++news).length:=by rw[aw,hown.1,hl,Nat.add_mul]
    show List.take _ (List.drop q (cur.toList.take (q+n * i.size)++news++cur.toList.drop (q+n * i.size+news.length)))=_
    rw[bw,List.drop_append_of_le_length (by rw[au,hcl];omega),hX,←bw,hln,List.take_left]
  ·obtain⟨v',w',r1,r2,r3⟩:=run_append_arg_grows (P:=P) w t ty e i z size bytes ht hi hz hsize hby hzs hsz ⟨g,q,none⟩ n cap xs hown.1 (fun j u hu=>by
    rw[Addr.add_lit,cell_of_row w g _ cur e (0,0) hg]
    rw[←htake,bi] at hu
    split at hu
    ·rw[bu] at hu
     simpa using hu
    ·cases hu) a m c news hl hnews (by omega) h63 hbytes
   refine⟨v',w',r1,P8 r2,⟨r3.os,r3.tape,r3.output,r3.size,fun b hb _=>r3.block b hb (by simp)⟩,?_⟩
   cases hv:v'.ownBlock with
   | none =>
    exfalso
    rcases r2.2 with⟨-,h0⟩ | ⟨g',cap',cur',rfl,-⟩
    ·omega
    ·cases hv
   | some g'=>exact .inr ⟨g',rfl,r2.lt g' hv⟩
theorem Xp {rs:List (List Value)}{sz:Nat}(h:∀u∈rs,u.length=sz):∀l,rs.flatten.take (l * sz)=(rs.take l).flatten:=by
 intro l
 induction l generalizing rs with
 | zero=>simp
 | succ l ih =>
  cases rs with
  | nil=>simp
  | cons u rs =>
   have hu:=h u (by simp)
   rw[b7,List.take_succ_cons,b7,←ih fun x hx=>h x (by simp[hx]),show(l+1) * sz=u.length+l * sz by rw[hu,Nat.succ_mul];omega,List.take_length_add_append]
theorem Z81 {rows new:List (List G)}{rs0 rs:List (List Value)}{k e sz:Nat}{w':World}{v':Value}(r1:Dg w' e sz v' (rows.length+new.length) (rs0.flatten++rs.flatten))(g2:rs0.length=rows.length)(g3:∀(i:Nat) r u,rows[i]?=some r→rs0[i]?=some u→PW (VRep I) r u)(g4:∀u∈rs0,u.length=sz)(g5:∀u∈rs0,∀x∈u,x.oneCell'=true)
  (k1:rs.length=new.length) (k2:∀(i:Nat) r u,new[i]?=some r→rs[i]?=some u→PW (VRep I) r u) (k3:∀u∈rs,u.length=sz) (k4:∀u∈rs,∀x∈u,x.oneCell'=true) (h5:0 < sz):RRep I ((V.drop k).push 0 v' fun b=>v'.ownBlock=some b) V.n w' (.vw (rows++new) e sz):=by
 refine⟨fun b=>by simp[Va.push,Va.drop],rs0++rs,?_,by simp[g2,k1],fun i r u hr hu=>?_,fun u hu=>?_,fun u hu=>?_,h5⟩
 ·have:((V.drop k).push 0 v' fun b=>v'.ownBlock=some b).s V.n=v':=by simp[Va.push,Va.drop]
  rw[this,aw,List.flatten_append]
  exact r1
 ·by_cases hi:i < rows.length
  ·rw[bk hi] at hr
   rw[bk (by omega)] at hu
   exact g3 i r u hr hu
  ·rw[be (by omega)] at hr
   rw[be (by omega),g2] at hu
   exact k2 _ r u hr hu
 ·rcases br.1 hu with hu | hu
  ·exact g4 u hu
  ·exact k3 u hu
 ·rcases br.1 hu with hu | hu
  ·exact g5 u hu
  ·exact k4 u hu
def Z9x (V:Va)(w w':World)(g:G):Prop:=match g with
 | .osl k=>∀b,b < w.heap.size→¬V.f k b→w'.heap[b]?=w.heap[b]?
 | .orv k _ _ _ _ _=>∀b,b < w.heap.size→¬V.f k b→w'.heap[b]?=w.heap[b]?
 | _=>∀b,b < w.heap.size→w'.heap[b]?=w.heap[b]?
theorem Zg0 {g0:G}(hKV:∀t own' I' V' a' w',K t own' V'.n→Later own I V w own' I' V' w'→Z9x V w w' g0→V.kp V'→ARep N I' V' a' t→next a' w')(ha:ARep N I V a t)(hd:∀i,o.dst=some i→i < N)
  (hr:(execOp a.eval o).run P w=.ok (.value y) w') (hl:Later own I V w own' I' V' w') (hf:Z9x V w w' g0) (hkp:V.kp V') (hy:TRep I' V' g y) (hk:K (put o.dst g t) own' V'.n):o.wp P a w next Q:=by
 unfold Oper.wp
 rw[hr]
 exact hKV _ _ _ _ _ _ hk hl hf hkp ((ha.mono hl.fro.mono hl.va).put hd hy)
variable (hT:∀t i,look t tb=some i→TIok P t i) (hH:Has I V own w) (hK:Nxt N own0 I0 V0 w0 K next) (hL:Since own0 I0 V0 w0 own I V w) (ha:ARep N I V a t) (hd:∀i,o.dst=some i→i < N)
include ha
include hH in
theorem Zcf {x:Operand}{ty:TypeId}(hty:P.underlying ty=some .string)(ho:o.op=.call {callee:=.builtin .len,args:=#[x],argTypes:=#[ty]})(h:ev t own x fun g=>match g with
  | .v (.string s)=>K (put o.dst (.v (.int .i64 s.size)) t) own V.n
  | _=>False):QOk S P I V own w a t o K:=by
 obtain⟨g,hk,hg⟩:=B0 h ha hH
 clear h
 split at hk
 ·next s =>
  have e:=As hg
  exact⟨_,_,hk,(.of_v (.v _)),fun u _=>(by simp[execOp,ho,resolve,invoke,builtin,Builtin.len_,run_underlying hty,e,goInt])⟩
 ·exact hk.elim
include hH in
theorem Zh9 {x z:Operand}{at':Array TypeId}(ho:o.op=.call {callee:=.builtin .max,args:=#[x,z],argTypes:=at'})(h:ev t own x fun g=>ev t own z fun q=>match g,q with
  | .v (.int .i64 a),.v (.int .i64 b)=>K (put o.dst (.v (.int .i64 (max a b))) t) own V.n
  | _,_=>False):QOk S P I V own w a t o K:=by
 obtain⟨g,hk1,hg⟩:=B0 h ha hH
 obtain⟨q,hk,hq⟩:=B0 hk1 ha hH
 clear h hk1
 split at hk
 ·have e:=As hg
  have e2:=As hq
  exact⟨_,_,hk,(.of_v (.v _)),fun u _=>(by simp[execOp,ho,resolve,invoke,builtin,e,e2,Go.Lib.run_max_ints])⟩
 ·exact hk.elim
include hH in
theorem Zgs {x z:Operand}{at':Array TypeId}(ho:o.op=.call {callee:=.builtin .min,args:=#[x,z],argTypes:=at'})(h:ev t own x fun g=>ev t own z fun q=>match g,q with
  | .v (.int .i64 a),.v (.int .i64 b)=>K (put o.dst (.v (.int .i64 (min a b))) t) own V.n
  | _,_=>False):QOk S P I V own w a t o K:=by
 obtain⟨g,hk1,hg⟩:=B0 h ha hH
 obtain⟨q,hk,hq⟩:=B0 hk1 ha hH
 clear h hk1
 split at hk
 ·have e:=As hg
  have e2:=As hq
  exact⟨_,_,hk,(.of_v (.v _)),fun u _=>(by simp[execOp,ho,resolve,invoke,builtin,e,e2,Go.Lib.run_min_ints])⟩
 ·exact hk.elim
include hH in
theorem Zf9 {x:Operand}{ty e:TypeId}(hty:P.underlying ty=some (.slice e))(ho:o.op=.call {callee:=.builtin .len,args:=#[x],argTypes:=#[ty]})(h:ev t own x fun g=>Zht own g fun m=>K (put o.dst (.v (.int .i64 m)) t) own V.n):QOk S P I V own w a t o K:=by
 obtain⟨g,hk,hg⟩:=B0 h ha hH
 have old:(Si own g fun rows=>K (put o.dst (.v (.int .i64 rows.length)) t) own V.n)→QOk S P I V own w a t o K:=fun hk=>by
  obtain⟨rows,A,c,hk,he,-⟩:=Zh hk hg hH
  exact⟨_,_,hk,(.of_v (.v _)),fun u _=>(by simp[execOp,ho,resolve,invoke,builtin,Builtin.len_,run_underlying hty,he,goInt])⟩
 cases g with
 | orv k i sz off len cap =>
  obtain⟨hkn,b,q,-,he⟩:=(show TRep1 I V (.orv k i sz off len cap) (a.eval x) from hg)
  exact⟨_,_,hk,(.of_v (.v _)),fun u _=>(by simp[execOp,ho,resolve,invoke,builtin,Builtin.len_,run_underlying hty,he,goInt])⟩
 | _=>exact old hk
include hH ha hd in
theorem M5 {x:Operand}{e sz:Nat}{g:G}(hKV:∀t own' I' V' a' w',K t own' V'.n→Later own I V w own' I' V' w'→Z9x V w w' g→V.kp V'→ARep N I' V' a' t→next a' w'){new:List (List G)}{rs:List (List Value)}(k1:rs.length=new.length)(k2:∀(i:Nat) r u,new[i]?=some r→rs[i]?=some u→PW (VRep I) r u)(k3:∀u∈rs,u.length=sz)(k4:∀u∈rs,∀x∈u,x.oneCell'=true)(h5:0 < sz)
  (hap:∀(v:Value) (rows:List (List G)) (rs0:List (List Value)),a.eval x=v→w.ownsRow 0 e sz v rows.length rs0.flatten→rows.length+new.length≤1073741824→∃v' w',(execOp a.eval o).run P w=.ok (.value v') w'∧w'.ownsRow 0 e sz v' (rows.length+new.length) (rs0.flatten++rs.flatten)∧w.grownBy w' v.ownBlock∧(v'.ownBlock=v.ownBlock∨∃g,v'.ownBlock=some g∧w.heap.size≤g∧g < w'.heap.size))
  (hg:TRep I V g (a.eval x)) (hk:Z9f t own V.n o.dst g new e sz K):o.wp P a w next Q:=by
 unfold Z9f at hk
 cases g with
 | nl =>
  obtain⟨hroom,hk⟩:=hk
  have hx:a.eval x=.slice none 0 0:=by generalize a.eval x=X at hg;cases(show VRep I .nl X from hg);rfl
  obtain⟨v',w',hr,r1,r2,r3⟩:=hap _ [] [] hx (World.ownsRow_nil w 0 e sz) (by simpa using hroom)
  simp only[List.length_nil,Nat.zero_add,List.flatten_nil,List.nil_append] at r1
  have hB:Below w.heap.size w w':=⟨r2.os,r2.tape,r2.output,r2.size,fun b hb=>r2.block b hb (by simp[Value.ownBlock])⟩
  refine Zg0 (g0:=.nl) (g:=.osl V.n) hKV ha hd hr (Df (r:=.slc new e sz) hH hB 0 v' (fun b=>v'.ownBlock=some b) (fun b hb=>?_) ⟨fun b=>by simp[Va.push],rs,by simpa [Va.push] using r1,k1,k2,k3,k4,h5⟩) (fun b hb=>hB.block b hb) (.push V 0 v' _) (TRep.of_c (g:=.osl V.n) ⟨ct _,by simp[Va.push]⟩) hk
  rcases r3 with h | ⟨b',h,hb'⟩
  ·rw[h] at hb;simp[Value.ownBlock] at hb
  ·rw[h] at hb;cases hb;exact hb'
 | osl k =>
  obtain⟨hkn,hx⟩:=(show k < V.n∧a.eval x=V.s k from hg)
  dsimp only at hk
  split at hk
  ·next rows e' sz' hr0 =>
   split at hk
   ·next hb1 hb2 =>
    have hb1:=ai hb1
    have hb2:=ai hb2
    subst hb1 hb2
    obtain⟨hroom,hk⟩:=hk
    obtain⟨hff,rs0,ho0,g2,g3,g4,g5,g6⟩:=hH.each k _ hr0
    obtain⟨v',w',hr,r1,r2,r3⟩:=hap _ rows rs0 hx ho0 hroom
    have hfit:∀b,v'.ownBlock=some b→b < w'.heap.size:=fun b hb=>(r1.lt b hb).2
    refine Zg0 (g0:=.osl k) (g:=.osl V.n) hKV ha hd hr (J8 (r:=.slc (rows++new) e sz) hH hr0 r2.os r2.tape r2.output r2.size (fun b hb hn=>r2.block b hb (fun e=>hn ((hff b).2 e.symm))) v' (fun b=>v'.ownBlock=some b) (fun b hb=>⟨?_,hfit b hb⟩) ⟨fun b=>by simp[Va.push,Va.drop],rs0++rs,?_,by simp[g2,k1],?_,?_,?_,h5⟩) (fun b hb hn=>r2.block b hb (fun e=>hn ((hff b).2 e.symm))) ((Va.kp.drop V k).trans (af _) (.push (V.drop k) 0 v' _)) (TRep.of_c (g:=.osl V.n) ⟨ct _,by simp[Va.push,Va.drop]⟩) hk
    ·rcases r3 with h | ⟨b',h,hb'⟩
     ·exact .inl ((hff b).2 (by rw[←h];exact hb))
     ·rw[h] at hb;cases hb;exact .inr hb'.1
    ·simpa [Va.push,Va.drop] using r1
    ·intro i r u hr' hu'
     rcases Nat.lt_or_ge i rows.length with hlt | hge
     ·rw[bk hlt] at hr'
      rw[bk (by omega)] at hu'
      exact g3 i r u hr' hu'
     ·rw[be hge] at hr'
      rw[be (by omega),g2] at hu'
      exact k2 _ r u hr' hu'
    ·intro u hu
     rcases br.1 hu with hu | hu
     ·exact g4 u hu
     ·exact k3 u hu
    ·intro u hu
     rcases br.1 hu with hu | hu
     ·exact g5 u hu
     ·exact k4 u hu
   ·exact hk.elim
  ·exact hk.elim
 | _=>exact hk.elim
include hH ha hd in
theorem Z27 {x:Operand}{e sz:Nat}{g:G}(hKV:∀t own' I' V' a' w',K t own' V'.n→Later own I V w own' I' V' w'→Z9x V w w' g→V.kp V'→ARep N I' V' a' t→next a' w'){new:List (List G)}{rs:List (List Value)}(k1:rs.length=new.length)(k2:∀(i:Nat) r u,new[i]?=some r→rs[i]?=some u→PW (VRep I) r u)(k3:∀u∈rs,u.length=sz)(k4:∀u∈rs,∀x∈u,x.oneCell'=true)(h5:0 < sz)
  (hap:∀(v:Value) (rows:List (List G)) (rs0:List (List Value)),a.eval x=v→w.ownsRow 0 e sz v rows.length rs0.flatten→rows.length+new.length≤1073741824→∃v' w',(execOp a.eval o).run P w=.ok (.value v') w'∧w'.ownsRow 0 e sz v' (rows.length+new.length) (rs0.flatten++rs.flatten)∧w.grownBy w' v.ownBlock∧(v'.ownBlock=v.ownBlock∨∃g,v'.ownBlock=some g∧w.heap.size≤g∧g < w'.heap.size))
  (hav:∀(v:Value) (n:Nat) (xs:List Value),a.eval x=v→Dg w e sz v n xs→n+new.length≤1073741824→∃v' w',(execOp a.eval o).run P w=.ok (.value v') w'∧Dg w' e sz v' (n+new.length) (xs++rs.flatten)∧w.grownBy w' v.ownBlock∧(v'.ownBlock=v.ownBlock∨∃g,v'.ownBlock=some g∧w.heap.size≤g∧g < w'.heap.size))
  (hg:TRep I V g (a.eval x)) (hk:Zcm t own V.n o.dst g new e sz K):o.wp P a w next Q:=by
 have lt:∀{w':World} {v':Value} {n:Nat} {xs:List Value},Dg w' e sz v' n xs→∀b,v'.ownBlock=some b→b < w'.heap.size:=fun {w' v' n xs} r b hb=>by
  rcases r.2 with⟨rfl,-⟩ | ⟨g',q',cap',cur',rfl,hg',-⟩
  ·cases hb
  ·cases hb;exact(bo.1 hg').1
 unfold Zcm at hk
 split at hk
 ·next k =>
  obtain⟨hkn,hx⟩:=(show k < V.n∧a.eval x=V.s k from hg)
  split at hk
  ·next rows e' sz' hr0 =>
   split at hk
   ·next hb1 hb2 =>
    have hb1:=ai hb1
    have hb2:=ai hb2
    subst hb1 hb2
    obtain⟨hroom,hk⟩:=hk
    obtain⟨hff,rs0,ho0,g2,g3,g4,g5,g6⟩:=hH.each k _ hr0
    obtain⟨v',w',hr,r1,r2,r3⟩:=hav _ rows.length rs0.flatten hx ho0 hroom
    refine Zg0 (g0:=.osl k) (g:=.osl V.n) hKV ha hd hr (J8 (r:=.vw (rows++new) e sz) hH hr0 r2.os r2.tape r2.output r2.size (fun b hb hn=>r2.block b hb (fun e=>hn ((hff b).2 e.symm))) v' (fun b=>v'.ownBlock=some b) (fun b hb=>⟨?_,lt r1 b hb⟩) (Z81 r1 g2 g3 g4 g5 k1 k2 k3 k4 h5)) (fun b hb hn=>r2.block b hb (fun e=>hn ((hff b).2 e.symm))) ((Va.kp.drop V k).trans (af _) (.push (V.drop k) 0 v' _)) (TRep.of_c (g:=.osl V.n) ⟨ct _,by simp[Va.push,Va.drop]⟩) hk
    rcases r3 with h | ⟨b',h,hb'⟩
    ·exact .inl ((hff b).2 (by rw[←h];exact hb))
    ·rw[h] at hb;cases hb;exact .inr hb'.1
   ·exact hk.elim
  ·exact M5 (hH:=hH) (hKV:=hKV) (ha:=ha) (hd:=hd) k1 k2 k3 k4 h5 hap hg hk
 ·next k s l c =>
  obtain⟨hkn,b,q,⟨n0,c0,hs⟩,hx⟩:=(show TRep1 I V (.orv k 0 (s+1) 0 l c) (a.eval x) from hg)
  split at hk
  ·next rows e' sz2 hr0 =>
   split at hk
   ·next hb1 hb2 hb3 hb4 hb5 =>
    have hb1:=ai hb1
    have hb2:=ai hb2
    have hb3:=ai hb3
    have hb4:=ai hb4
    have hb5:=c9 hb5
    subst hb1 hb3 hb4
    obtain⟨hroom,hk⟩:=hk
    have hff:=(hH.each k _ hr0).1
    obtain⟨rs0,cur,hcur,g2,g3,g4,g5,hn,hnc,hcm,hcs,ht,-⟩:=Ze7 hH hr0 hs
    have hx:a.eval x=.slice (some ⟨b,q,none⟩) l l:=by rw[hx];simp
    have hv:Dg w e sz (.slice (some ⟨b,q,none⟩) l l) (rows.take l).length (rs0.take l).flatten:=by
     have hl:(rows.take l).length=l:=by rw[au];omega
     refine⟨by rw[B6 fun u hu=>g4 u (bd hu),au,hl];congr 1;omega,.inr ⟨b,q,l,cur,by rw[hl],hcur,by rw[hl];exact af _,by omega,?_,?_⟩⟩
     ·have:l * sz≤c0 * sz:=Nat.mul_le_mul_right _ (by omega)
      omega
     ·rw[hl,←Xp g4,←ht,List.take_take,ce (Nat.mul_le_mul_right _ (by omega))]
    have hl:(rows.take l).length=l:=by rw[au];omega
    obtain⟨v',w',hr,r1,r2,r3⟩:=hav _ (rows.take l).length (rs0.take l).flatten hx hv (by rw[hl];exact hroom)
    have hob:(Value.slice (some ⟨b,q,none⟩) l l).ownBlock=some b:=rfl
    have hof:∀b',V.f k b'↔b=b':=fun b'=>by rw[hff b',hs];show some b=some b'↔_;simp
    rw[hob] at r2 r3
    refine Zg0 (g0:=.orv k 0 (s+1) 0 l l) (g:=.osl V.n) hKV ha hd hr (J8 (r:=.vw (rows.take l++new) e sz) hH hr0 r2.os r2.tape r2.output r2.size (fun b' hb hn=>r2.block b' hb (fun e=>hn ((hof b').2 (cg e.symm)))) v' (fun b=>v'.ownBlock=some b) (fun b' hb=>⟨?_,lt r1 b' hb⟩) (Z81 r1 (by rw[au,au,g2]) (fun i r u h1 h2=>?_) (fun u hu=>g4 u (bd hu)) (fun u hu=>g5 u (bd hu)) k1 k2 k3 k4 h5)) (fun b' hb hn=>r2.block b' hb (fun e=>hn ((hof b').2 (cg e.symm)))) ((Va.kp.drop V k).trans (af _) (.push (V.drop k) 0 v' _)) (TRep.of_c (g:=.osl V.n) ⟨ct _,by simp[Va.push,Va.drop]⟩) hk
    ·rcases r3 with h | ⟨b2,h,hb2⟩
     ·exact .inl ((hof b').2 (by rw[h] at hb;exact cg hb))
     ·rw[h] at hb;cases hb;exact .inr hb2.1
    ·rw[bi] at h1 h2
     split at h1
     ·next hlt=>rw[db hlt] at h2;exact g3 i r u h1 h2
     ·cases h1
   ·exact hk.elim
  ·exact hk.elim
 ·exact M5 (hH:=hH) (hKV:=hKV) (ha:=ha) (hd:=hd) k1 k2 k3 k4 h5 hap hg hk
include hT hH ha hd in
theorem Nm {g:G}(hKV:∀t own' I' V' a' w',K t own' V'.n→Later own I V w own' I' V' w'→Z9x V w w' g→V.kp V'→ARep N I' V' a' t→next a' w'){x z:Operand}{ty e sz:Nat}{ag:Bool}{ze:List G}{fl:List (TypeId × Nat)}{st:Bool}{ik:Option IntKind}{kd:KD}(hl:look ty tb=some ⟨ag,ze,some (e,sz),fl,st,ik,kd⟩)(ho:o.op=.call {callee:=.builtin .append,args:=#[x,z],argTypes:=#[ty,ty]})(hg:TRep I V g (a.eval x))(hk1:ev t own z fun q=>Z3p own q sz fun new=>Zcm t own V.n o.dst g new e sz K):o.wp P a w next Q:=by
 obtain⟨q,hk2,hq⟩:=B0 hk1 ha hH
 obtain⟨new,A,c,rs,hk,he,hA,k1,k2,k3,k4,k5⟩:=U7 hk2 hq hH
 clear hk1 hk2
 obtain⟨hu,ie,zv,h1,h2,h3,h4,h5,h6⟩:=(hT _ _ hl).elem e sz rfl
 have hfl:rs.flatten.length=new.length * sz:=by rw[B6 k3,k1]
 have hro:∀u∈rs.flatten,u.oneCell'=true:=fun u hu=>by
  obtain⟨v,hv,hu⟩:=List.mem_flatten.1 hu
  exact k4 v hv u hu
 have hap:∀(v:Value) (rows:List (List G)) (rs0:List (List Value)),a.eval x=v→w.ownsRow 0 e sz v rows.length rs0.flatten→rows.length+new.length≤1073741824→∃v' w',(execOp a.eval o).run P w=.ok (.value v') w'∧w'.ownsRow 0 e sz v' (rows.length+new.length) (rs0.flatten++rs.flatten)∧w.grownBy w' v.ownBlock∧(v'.ownBlock=v.ownBlock∨∃g,v'.ownBlock=some g∧w.heap.size≤g∧g < w'.heap.size):=fun v rows rs0 hx ho0 hroom=>by
  obtain⟨v',w',hr,r1,r2,r3⟩:=Z0k (P:=P) (w:=w) ty o.type e ie zv sz ie.bytes hu h1 h2 h3 rfl h4 h5 v rows.length rs0.flatten ho0 A new.length c rs.flatten hfl (fun e=>hA e) k5 hro (by unfold maxLen;omega) (by
   have:=Nat.mul_le_mul hroom h6
   omega)
  exact⟨v',w',by simp only[execOp,ho,resolve,invoke,builtin,Sem.run_bind,Sem.run_pure,Result.andThen_ok,List.map_toArray,List.map_cons,List.map_nil,hx,he,hr],r1,r2,r3⟩
 have hav:∀(v:Value) (n:Nat) (xs:List Value),a.eval x=v→Dg w e sz v n xs→n+new.length≤1073741824→∃v' w',(execOp a.eval o).run P w=.ok (.value v') w'∧Dg w' e sz v' (n+new.length) (xs++rs.flatten)∧w.grownBy w' v.ownBlock∧(v'.ownBlock=v.ownBlock∨∃g,v'.ownBlock=some g∧w.heap.size≤g∧g < w'.heap.size):=fun v n xs hx ho0 hroom=>by
  obtain⟨v',w',hr,r1,r2,r3⟩:=Py (P:=P) (w:=w) ty o.type e ie zv sz ie.bytes hu h1 h2 h3 rfl h4 h5 v n xs ho0 A new.length c rs.flatten hfl (fun e=>hA e) k5 hro (by unfold maxLen;omega) (by
   have:=Nat.mul_le_mul hroom h6
   omega)
  exact⟨v',w',by simp only[execOp,ho,resolve,invoke,builtin,Sem.run_bind,Sem.run_pure,Result.andThen_ok,List.map_toArray,List.map_cons,List.map_nil,hx,he,hr],r1,r2,r3⟩
 exact Z27 (hH:=hH) (hKV:=hKV) (ha:=ha) (hd:=hd) k1 k2 k3 k4 h5 hap hav hg hk
include hT hH ha hd in
theorem Hl {g:G}(hKV:∀t own' I' V' a' w',K t own' V'.n→Later own I V w own' I' V' w'→Z9x V w w' g→V.kp V'→ARep N I' V' a' t→next a' w'){x z:Operand}{ty ty' e:Nat}{ti tj:TI}(hl:look ty tb=some ti)(hel:ti.elem=some (e,1))(hl':look ty' tb=some tj)(hst:tj.str=true)(ho:o.op=.call {callee:=.builtin .append,args:=#[x,z],argTypes:=#[ty,ty']})(hg:TRep I V g (a.eval x))(hk1:ev t own z fun q=>Zev q fun s=>Z9f t own V.n o.dst g (s.data.toList.map gBy) e 1 K):o.wp P a w next Q:=by
 obtain⟨q,hk2,hq⟩:=B0 hk1 ha hH
 unfold Zev at hk2
 split at hk2
 ·next s =>
  have he:=As hq
  obtain⟨hu,ie,zv,h1,h2,h3,h4,h5,h6⟩:=(hT _ _ hl).elem e 1 hel
  have hux:=(hT _ _ hl').str hst
  have hfl:(s.data.toList.map fun b=>[Value.int .u8 b.toNat]).flatten=byteCells s:=by
   unfold byteCells
   induction s.data.toList with
   | nil=>rfl
   | cons c l ih=>rw[cj,b7,ih];rfl
  have hsz:(s.data.toList.map gBy).length=s.size:=by rw[aa,cb];rfl
  refine M5 (hH:=hH) (hKV:=hKV) (ha:=ha) (hd:=hd) (rs:=s.data.toList.map fun b=>[Value.int .u8 b.toNat]) (by simp) (fun i r u hr hu=>?_) (fun u hu=>?_) (fun u hu x hx=>?_) Nat.one_pos (fun v rows rs0 hx ho0 hroom=>?_) hg hk2
  ·rw[aj] at hr hu
   obtain⟨c,h7,rfl⟩:=ax.1 hr
   rw[h7] at hu;cases hu
   exact .cons (.v _) .nil
  ·obtain⟨c,-,rfl⟩:=az.1 hu;rfl
  ·obtain⟨c,-,rfl⟩:=az.1 hu
   rw[bm.1 hx];rfl
  ·rw[hsz] at hroom⊢
   obtain⟨v',w',hr,r1,r2,r3⟩:=S8 (P:=P) (w:=w) ty ty' o.type e ie zv hu hux h1 h2 h3 h4 v rows.length rs0.flatten ho0 s (by unfold maxLen;omega) (by
    have:=Nat.mul_le_mul hroom h6
    omega)
   rw[hfl]
   exact⟨v',w',by simp only[execOp,ho,resolve,invoke,builtin,Sem.run_bind,Sem.run_pure,Result.andThen_ok,List.map_toArray,List.map_cons,List.map_nil,hx,he,hr],r1,r2,r3⟩
 ·exact hk2.elim
include hT hK hL ha hd in
theorem Zz {x z:Operand}{ty e sz:Nat}{ag:Bool}{ze:List G}{fl:List (TypeId × Nat)}{st:Bool}{ik:Option IntKind}{kd:KD}(hl:look ty tb=some ⟨ag,ze,some (e,sz),fl,st,ik,kd⟩)(ho:o.op=.call {callee:=.builtin .append,args:=#[x,z],argTypes:=#[ty,ty]})(h:ev t own x fun g=>ev t own z fun q=>Z3p own q sz fun new=>Zcm t own V.n o.dst g new e sz K):o.wp P a w next Q:=by
 obtain⟨g,hk1,hg⟩:=B0 h ha hL.has
 exact Nm (g:=g) (hT:=hT) (hH:=hL.has) (ha:=ha) (hd:=hd) (fun t own' I' V' a' w' hk hl _ _ har=>hK _ _ _ _ _ _ hk (hL.trans hl) har) hl ho hg hk1
include hT hK hL ha hd in
theorem O3 {x z:Operand}{ty ty' e:Nat}{ti tj:TI}(hl:look ty tb=some ti)(hel:ti.elem=some (e,1))(hl':look ty' tb=some tj)(hst:tj.str=true)(ho:o.op=.call {callee:=.builtin .append,args:=#[x,z],argTypes:=#[ty,ty']})(h:ev t own x fun g=>ev t own z fun q=>Zev q fun s=>Z9f t own V.n o.dst g (s.data.toList.map gBy) e 1 K):o.wp P a w next Q:=by
 obtain⟨g,hk1,hg⟩:=B0 h ha hL.has
 exact Hl (g:=g) (hT:=hT) (hH:=hL.has) (ha:=ha) (hd:=hd) (fun t own' I' V' a' w' hk hl _ _ har=>hK _ _ _ _ _ _ hk (hL.trans hl) har) hl hel hl' hst ho hg hk1
end
section
variable {P:Program} {tb:List (Nat × TI)} {N n:Nat} {I I' I0:Imm} {V V' V0:Va} {a:Act} {t:Ts} {own own' own0:Os} {w w' w0:World} {g:G} {x y:Value} {d:Option Tmp}
variable {XL:List Nat} {S:World→Prop} {K:Ts→Os→Nat→Prop} {next:Act→World→Prop} {Q:Exit→Act→World→Prop} {o:Oper} {r:R}
theorem Fm {z:Option Operand}{d:Int}{K1:Int→Prop}(h:evO t own z d K1)(ha:ARep N I V a t)(hH:Has I V own w):∃n,K1 n∧(∀u,z=some u→a.eval u=.int .i64 n)∧(z=none→n=d):=by
 cases z with
 | none=>exact⟨d,h,fun u e=>(by cases e),fun _=>rfl⟩
 | some u =>
  unfold evO at h
  dsimp only at h
  obtain⟨q,hk,hq⟩:=B0 h ha hH
  clear h
  split at hk
  ·next m=>exact⟨m,hk,fun u e=>(by cases e;exact As hq),fun e=>(by cases e)⟩
  ·exact hk.elim
theorem He {sl:Bool}{len cap:Nat}{lo hi:Option Value}{l h:Int}(hl:(∀u,lo=some u→u=.int .i64 l)∧(lo=none→l=0))(hh:(∀u,hi=some u→u=.int .i64 h)∧(hi=none→h=len))(h1:0≤l)(h2:l≤h)(h3:h≤len)(h4:len≤cap)(w:World) :
  (Instr.sliceBounds sl len cap lo hi none).run P w=.ok (l.toNat,h.toNat,cap) w:=by
 unfold Instr.sliceBounds
 cases hi with
 | none =>
  have e:=hh.2 rfl
  subst e
  cases lo with
  | none =>
   have e:=hl.2 rfl
   subst e
   simp
  | some u =>
   have e:=hl.1 u rfl
   subst e
   have:l≤(len:Int):=h2
   simp[Instr.sliceBound,asIntOf,h1,this]
 | some v =>
  have e:=hh.1 v rfl
  subst e
  have h5:0≤h:=by omega
  have h6:h≤(cap:Int):=by omega
  cases lo with
  | none =>
   have e:=hl.2 rfl
   subst e
   simp[Instr.sliceBound,asIntOf,h5,h6]
  | some u =>
   have e:=hl.1 u rfl
   subst e
   have h7:(h.toNat:Int)=h:=Int.toNat_of_nonneg h5
   simp[Instr.sliceBound,asIntOf,h5,h6,h7,h1,h2]
theorem Gs {z:Option Operand}{m:Int}{d:Int}(h1:∀u,z=some u→a.eval u=.int .i64 m)(h2:z=none→m=d):(∀u,z.map a.eval=some u→u=.int .i64 m)∧(z.map a.eval=none→m=d):=by
 cases z with
 | none=>exact⟨fun u e=>(by cases e),fun _=>h2 rfl⟩
 | some v=>exact⟨fun u e=>(by cases e;exact h1 v rfl),fun e=>by cases e⟩
theorem Gu (hH:Has I V own w){k e sz:Nat}{rows:List (List G)}(hk:look k own=some (.slc rows e sz)):∃A c,V.s k=.slice A rows.length c∧rows.length≤c:=by
 obtain⟨-,rs,⟨-,h6⟩,-⟩:=hH.each k _ hk
 rcases h6 with⟨h7,h8⟩ | ⟨b,cap,cur,h7,-,-,h9,-⟩
 ·exact⟨none,0,by rw[h7,h8],by omega⟩
 ·exact⟨_,cap,h7,h9⟩
theorem Z61 (hH:Has I V own w){k e sz:Nat}{rows:List (List G)}(hk:look k own=some (.vw rows e sz)):∃A c,V.s k=.slice A rows.length c∧rows.length≤c:=by
 obtain⟨-,rs,⟨-,h6⟩,-⟩:=hH.each k _ hk
 rcases h6 with⟨h7,h8⟩ | ⟨b,q,cap,cur,h7,-,h9,-⟩
 ·exact⟨none,0,by rw[h7,h8],by omega⟩
 ·exact⟨_,cap,h7,h9⟩
theorem Z9z (hT:∀t i,look t tb=some i→TIok P t i)(hH:Has I V own w)(ha:ARep N I V a t){ty:TypeId}{z:Operand}{lo hi:Option Operand}(ho:o.op=.slice ty z lo hi none)(hq:(match look ty tb with
      | some ⟨_,_,none,_,false,_,.arr _ _ _⟩=>false
      | _=>true)=true) (h:match look ty tb with
      | some ⟨_,_,none,_,true,_,_⟩=>ev t own z fun g=>match g with
       | .v (.string s)=>evO t own lo 0 fun l=>evO t own hi s.size fun h=>Z10 l h s.size (K (put o.dst (.v (.string (s.extract l.toNat h.toNat))) t) own V.n)
       | _=>False
      | some ⟨_,_,some (_,sz),_,_,_,_⟩=>ev t own z fun g=>slK own g sz (fun K d=>evO t own lo d K) (fun K d=>evO t own hi d K) fun g=>K (put o.dst g t) own V.n
      | some ⟨_,_,none,_,false,_,.arr m _ 1⟩=>ev t own z fun g=>Z5d t own V.n ty m lo hi g fun g w n=>K (put o.dst g t) w n
      | some ⟨_,_,none,_,false,_,.arr m _ _⟩=>ev t own z fun g=>Z4x t own m lo hi g fun g=>K (put o.dst g t) own V.n
      | _=>False):QOk S P I V own w a t o K:=by
 split at h
 ·next hl =>
  have hty:=(hT _ _ hl).str rfl
  obtain⟨g,h,hg⟩:=B0 h ha hH
  split at h
  ·next s =>
   have e:=As hg
   obtain⟨l,h,l1,l2⟩:=Fm h ha hH
   obtain⟨q,h,q1,q2⟩:=Fm h ha hH
   obtain⟨⟨r1,r2,r3⟩,h⟩:=h
   refine⟨_,_,h,.of_v (.v _),fun u _=>?_⟩
   have hb:=He (P:=P) (sl:=false) (len:=s.size) (cap:=s.size) (Gs l1 l2) (Gs q1 q2) r1 r2 r3 (af _) u
   simp only[execOp,ho,Instr.sliceAt,Instr.slice,Sem.run_bind,run_underlying hty,Result.andThen_ok,e,Sem.run_pure,Option.map_none,Option.isSome_none,Bool.false_eq_true,if_false,hb]
  ·exact h.elim
 ·next e sz fl st ik kd hl =>
  obtain⟨hu,ie,zv,h1,h2,h3,h4,h5,h6⟩:=(hT _ _ hl).elem _ _ rfl
  have hsz:∀w,(sizeOf e).run P w=.ok sz w:=Bg (by rw[h1];simp[h3])
  obtain⟨g,h,hg⟩:=B0 h ha hH
  have run:∀{A:Option Addr} {len c:Nat} {l q:Int},a.eval z=.slice A len c→len≤c→(∀u,lo=some u→a.eval u=.int .i64 l)→(lo=none→l=0)→(∀u,hi=some u→a.eval u=.int .i64 q)→(hi=none→q=len)→0≤l→l≤q→q≤len→∀u,(execOp a.eval o).run P u=.ok (.value (Hc sz (.slice A len c) l.toNat q.toNat)) u:=fun he hc l1 l2 q1 q2 r1 r2 r3 u=>by
   have hb:=He (P:=P) (sl:=true) (Gs l1 l2) (Gs q1 q2) r1 r2 r3 hc u
   simp only[execOp,ho,Instr.sliceAt,Instr.slice,Sem.run_bind,run_underlying hu,Result.andThen_ok,he,Sem.run_pure,Option.map_none,hb,hsz,Hc]
  cases g with
  | sl rows =>
   unfold slK at h
   dsimp only at h
   obtain⟨l,h,l1,l2⟩:=Fm h ha hH
   obtain⟨q,h,q1,q2⟩:=Fm h ha hH
   obtain⟨⟨r1,r2,r3⟩,hr,h⟩:=h
   have hv:=(show VRep I (.sl rows) (a.eval z) from hg)
   obtain⟨A,c,he,hc⟩:∃A c,a.eval z=.slice A rows.length c∧rows.length≤c:=by
    generalize a.eval z=X at hv
    cases hv with
    | sl _ A c sz u hc=>exact⟨A,c,rfl,hc⟩
   rw[he] at hv
   exact⟨_,_,h,.of_v (Ut hv hr (by omega) (by omega)),fun u _=>run he hc l1 l2 q1 q2 r1 r2 r3 u⟩
  | osl k =>
   unfold slK at h
   dsimp only at h
   split at h
   ·next rows e' sz' hk =>
    split at h
    ·next hb =>
     have hb:=ai hb
     subst hb
     obtain⟨l,h,l1,l2⟩:=Fm h ha hH
     obtain⟨q,h,q1,q2⟩:=Fm h ha hH
     obtain⟨⟨r1,r2,r3⟩,h⟩:=h
     obtain⟨hkn,he⟩:=(show k < V.n∧a.eval z=V.s k from hg)
     obtain⟨A,c,hv,hc⟩:=Gu hH hk
     exact⟨_,_,h,.of_c (g:=.osv k sz l.toNat q.toNat) ⟨hkn,⟨by omega,by rw[hv];show q.toNat≤rows.length;omega⟩,rfl⟩,fun u _=>by rw[hv];exact run (he.trans hv) hc l1 l2 q1 q2 r1 r2 r3 u⟩
    ·exact h.elim
   ·next rows e' sz' hk =>
    split at h
    ·next hb =>
     have hb:=ai hb
     subst hb
     obtain⟨l,h,l1,l2⟩:=Fm h ha hH
     obtain⟨q,h,q1,q2⟩:=Fm h ha hH
     obtain⟨⟨r1,r2,r3⟩,h⟩:=h
     obtain⟨hkn,he⟩:=(show k < V.n∧a.eval z=V.s k from hg)
     obtain⟨A,c,hv,hc⟩:=Z61 hH hk
     exact⟨_,_,h,.of_c (g:=.osv k sz l.toNat q.toNat) ⟨hkn,⟨by omega,by rw[hv];show q.toNat≤rows.length;omega⟩,rfl⟩,fun u _=>by rw[hv];exact run (he.trans hv) hc l1 l2 q1 q2 r1 r2 r3 u⟩
    ·exact h.elim
   ·exact h.elim
  | _=>exact False.elim h
 ·next hl=>rw[hl] at hq;cases hq
 ·next hl=>rw[hl] at hq;cases hq
 ·exact h.elim
theorem Z5p {len cap:Nat}{h:Int}(h0:0≤h)(h1:h≤len)(h2:len≤cap)(w:World):(Instr.sliceBounds true len cap none (some (.int .i64 h)) (some (.int .i64 h))).run P w=.ok (0,h.toNat,h.toNat) w:=by
 unfold Instr.sliceBounds
 have e1:0≤h∧h≤(cap:Int):=⟨h0,by omega⟩
 have e2:¬max h 0 < h:=by omega
 simp[Instr.sliceBound,asIntOf,e1,e2]
theorem Z68 (hT:∀t i,look t tb=some i→TIok P t i)(hH:Has I V own w)(ha:ARep N I V a t){ty:TypeId}{z hx mx:Operand}(ho:o.op=.slice ty z none (some hx) (some mx))(h:match(none:Option Operand),some hx,look ty tb with
      | none,some h,some ⟨_,_,some (_,sz),_,_,_,_⟩=>ev t own z fun g=>ev t own h fun p=>ev t own mx fun q=>match p,q with
       | .v (.int .i64 a),.v (.int .i64 b)=>Et (a=b) (Zao own g sz a fun g=>K (put o.dst g t) own V.n)
       | _,_=>False
      | _,_,_=>False):QOk S P I V own w a t o K:=by
 split at h
 ·next hx' _ _ e sz _ _ _ _ _ h0 hl =>
  obtain rfl:=cg h0
  obtain⟨hu,ie,zv,h1,h2,h3,h4,h5,h6⟩:=(hT _ _ hl).elem _ _ rfl
  have hsz:∀w,(sizeOf e).run P w=.ok sz w:=Bg (by rw[h1];simp[h3])
  obtain⟨g,h,hg⟩:=B0 h ha hH
  obtain⟨p,h,hp⟩:=B0 h ha hH
  obtain⟨q,h,hq⟩:=B0 h ha hH
  split at h
  ·next x1 x1' =>
   have ep:=As hp
   have eq:=As hq
   obtain⟨h0,h⟩:=h
   subst h0
   cases g with
   | osl k =>
    unfold Zao at h
    dsimp only at h
    split at h
    ·next rows e' sz' hk =>
     split at h
     ·next hb =>
      have hb:=ai hb
      subst hb
      obtain⟨⟨r1,r2,r3⟩,⟨hne,h⟩⟩:=h
      obtain⟨hkn,he⟩:=(show k < V.n∧a.eval z=V.s k from hg)
      obtain⟨-,rs,⟨-,h7⟩,-,-,-,-,hs0⟩:=hH.each k _ hk
      rcases h7 with⟨-,h8⟩ | ⟨b,q0,cap,cur,h8,-,h9,-⟩
      ·exact dc (al h8) hne
      ·refine⟨_,_,h,.of_1 (g:=.orv k 0 sz 0 _ _) ⟨hkn,b,q0,(by cases sz with | zero=>omega | succ sz=>exact⟨_,cap,h8⟩),rfl⟩,fun u _=>?_⟩
       have hb:=Z5p (P:=P) r2 r3 h9 u
       simp only[execOp,ho,Instr.sliceAt,Instr.slice,Sem.run_bind,run_underlying hu,Result.andThen_ok,he,h8,Sem.run_pure,Option.map_some,Option.map_none,ep,eq,hb,hsz]
       split
       ·simp
       ·simp[C7]
     ·exact h.elim
    ·exact h.elim
   | _=>exact False.elim h
  ·exact h.elim
 ·exact h.elim
theorem Kw:∀{cs:List G} {us:List Value},Av Gb cs=true→PW (CRep I V) cs us→cs=us.map .v∧∀u∈us,u.oneCell'=true
 | [],us,_,h=>by rw[h.of_nil];exact⟨rfl,fun u hu=>by cases hu⟩
 | g::cs,us,hv,h=>by
  obtain⟨x,us',rfl,hx,hp⟩:=h.uncons
  have h1:=Ac hv g (by simp)
  have h2:Av Gb cs=true:=by unfold Av at hv;rw[h1] at hv;exact hv
  obtain⟨i1,i2⟩:=Kw h2 hp
  cases g with
  | v z =>
   cases(show VRep I (.v z) x from hx)
   exact⟨by rw[i1];rfl,fun u hu=>(bh.1 hu).elim (fun e=>by rw[e];exact h1) (i2 u)⟩
  | _=>cases h1
theorem Qr {α:Type}(l:List α):(l.map fun u=>[u]).flatten=l:=by
 induction l with
 | nil=>rfl
 | cons x l ih=>rw[cj,b7,ih];rfl
theorem Pn {α:Type}{cs:List α}{k n j:Nat}{v:α}(h:((cs.drop k).take n)[j]?=some v):cs[k+j]?=some v:=by
 rw[bi] at h
 split at h
 ·rwa [bu] at h
 ·cases h
theorem Zbb {m:Nat}{cs:List G}{A:Prop}(h:Zgn m cs A):cs.length=m∧Av Gb cs=true∧A:=by
 unfold Zgn at h
 split at h
 ·split at h
  ·next h1 h2=>exact⟨ai h1,h2,h⟩
  ·exact h.elim
 ·exact⟨h.fit.1,G1 h.fit.2,h.next⟩
theorem Z5n (hT:∀t i,look t tb=some i→TIok P t i)(hH:Has I V own w)(ha:ARep N I V a t)(hd:∀i,o.dst=some i→i < N)(hK:NxtB N own I V w K next){ty m e:TypeId}{z:Operand}{lo hi:Option Operand}{ag:Bool}{ze:List G}{fl:List (TypeId × Nat)}{ik:Option IntKind}(hl:look ty tb=some ⟨ag,ze,none,fl,false,ik,.arr m e 1⟩)(ho:o.op=.slice ty z lo hi none)
  (h:ev t own z fun g=>Z5d t own V.n ty m lo hi g fun g w n=>K (put o.dst g t) w n):o.wp P a w next Q:=by
 obtain⟨hu,hsz⟩:=(hT _ _ hl).kd
 have hsz:∀w,(sizeOf e).run P w=.ok 1 w:=Bg hsz
 obtain⟨g,h,hg⟩:=B0 h ha hH
 have run:∀{b off:Nat} {l q:Int},a.eval z=.pointer (some ⟨b,off,none⟩)→(∀u,lo=some u→a.eval u=.int .i64 l)→(lo=none→l=0)→(∀u,hi=some u→a.eval u=.int .i64 q)→(hi=none→q=m)→0≤l→l≤q→q≤m→∀u,(execOp a.eval o).run P u=.ok (.value (Hc 1 (.slice (some ⟨b,off,none⟩) m m) l.toNat q.toNat)) u:=fun {b off l q} he l1 l2 q1 q2 r1 r2 r3 u=>by
  have hb:=He (P:=P) (sl:=false) (len:=m) (cap:=m) (Gs l1 l2) (Gs q1 q2) r1 r2 r3 (af _) u
  simp only[execOp,ho,Instr.sliceAt,Instr.sureAddr,Sem.run_bind,run_underlying hu,Result.andThen_ok,he,Sem.run_pure,Option.map_none,hb,hsz,Hc]
  congr 3
  by_cases hm:m=l.toNat
  ·rw[db hm,db hm]
  ·rw[da hm,da hm];rfl
 have arv:∀{j:Nat} {K1:G→Prop} {b:Nat} {V2:Va},Zg2 t own m lo hi j K1→a.eval z=.pointer (some ⟨b,0,none⟩)→j < V2.n→V2.s j=.slice (some ⟨b,0,none⟩) m m→∃g v,K1 g∧CRep I V2 g v∧(execOp a.eval o).run P w=.ok (.value v) w:=fun {j K1 b V2} hk he hj hs=>by
  unfold Zg2 at hk
  split at hk
  ·have hr:=run (l:=0) (q:=m) he (fun u e=>by cases e) (fun _=>rfl) (fun u e=>by cases e) (fun _=>rfl) (by omega) (by omega) (by omega) w
   refine⟨_,V2.s j,hk,⟨hj,rfl⟩,hr.trans ?_⟩
   rw[hs]
   congr 2
   unfold Hc
   simp only[Int.toNat_natCast,Int.toNat_zero,Nat.zero_mul,Nat.sub_zero,Option.map_some]
   by_cases hm:m=0
   ·rw[db hm]
   ·rw[da hm];rfl
  ·obtain⟨l,hk,l1,l2⟩:=Fm hk ha hH
   obtain⟨q,hk,q1,q2⟩:=Fm hk ha hH
   obtain⟨⟨r1,r2,r3⟩,hk⟩:=hk
   exact⟨_,_,hk,⟨hj,⟨by omega,by rw[hs];show q.toNat≤m;omega⟩,rfl⟩,by rw[hs];exact run he l1 l2 q1 q2 r1 r2 r3 w⟩
 unfold Z5d at h
 cases g with
 | ptr k off =>
  obtain⟨hkn,he⟩:=C4 hg
  dsimp only at h
  split at h
  ·next cs ty' hr =>
   obtain⟨us,h1,h2,h3⟩:=Lv hH hr
   have hf:=(hH.each k _ hr).1
   have frz:∀{off:Nat},(match(generalizing:=false) lo,hi with
    | none,none=>Et (off+m≤cs.length∧∀g∈cs,Gb g=true) (K (put o.dst (.sl (((cs.drop off).take m).map fun g=>[g])) t) ((k,.gone)::own) V.n)
    | none,some x=>evO t own (some x) m fun h=>Z10 0 h m (K (put o.dst (.orv k 0 0 off h.toNat m) t) own V.n)
    | _,_=>False)→a.eval z=.pointer (some ⟨V.b k,off,none⟩)→o.wp P a w next Q:=fun {off} h he=>by
    split at h
    case h_2 =>
     obtain⟨q,h,q1,q2⟩:=Fm h ha hH
     obtain⟨⟨r1,r2,r3⟩,h⟩:=h
     have hr:=run (l:=0) (q:=q) he (fun u e=>by cases e) (fun _=>rfl) q1 q2 (by omega) r2 r3 w
     refine Tm (y:=.slice (some ⟨V.b k,0 * 0+off,none⟩) q.toNat m) hK ha hd (hr.trans ?_) (.refl hH) (Below.refl _ _) (.refl _) (.of_1 (g:=.orv k 0 0 off q.toNat m) ⟨hkn,V.b k,0,⟨rfl,rfl⟩,by simp⟩) h
     congr 2
     unfold Hc
     simp only[Int.toNat_zero,Nat.zero_mul,Nat.sub_zero,Option.map_some,Nat.zero_add]
     by_cases hm:m=0
     ·rw[db hm]
     ·rw[da hm];rfl
    case h_3=>exact h.elim
    obtain⟨⟨hfit,hv⟩,h⟩:=h
    obtain⟨e1,h4⟩:=Kw (G1 hv) h2
    have hlen:cs.length=us.length:=by rw[e1];simp
    have hno:=(hH.foot k _ (V.b k) hr ((hf _).2 rfl)).2
    let I':Imm:=fun b o=>if b=V.b k then us[o]? else I b o
    have hle:I.le I':=fun b o x hx=>by
     show(if b=V.b k then _ else I b o)=_
     rw[da (fun e=>by rw[e,hno o] at hx;cases hx)]
     exact hx
    have hmem:Mem I' w:=fun b o x hx=>by
     change (if b=V.b k then _ else I b o)=_ at hx
     split at hx
     ·next e=>rw[e,h3];exact hx
     ·exact hH.mem b o x hx
    have hla:Later own I V w ((k,.gone)::own) I' (V.drop k) w:=Fp hH hr hle hmem (fun b o hb=>by
     show(if b=V.b k then _ else I b o)=_
     rw[da (fun e=>hb ((hf b).2 e))]) (fun b=>by simp[Va.drop])
    have hl2:(((cs.drop off).take m).map fun g=>[g]).length=m:=by simp;omega
    have hvr:VRep I' (.sl (((cs.drop off).take m).map fun g=>[g])) (.slice (some ⟨V.b k,off,none⟩) m m):=by
     conv=>rhs;rw[←hl2]
     refine .sl _ (some ⟨V.b k,off,none⟩) _ 1 (fun i _=>us.getD (off+i) undef) (af _) (fun e=>by cases e) (fun r hr=>?_) (fun i r hr=>⟨V.b k,off,rfl,fun j hj=>?_⟩) fun i r j g hr hg=>?_
     ·obtain⟨g,-,rfl⟩:=az.1 hr
      rfl
     ·have hi:i < m:=by have:=(ac.1 hr).1;omega
      have e0:off+i * 1+j=off+i:=by omega
      rw[e0]
      show(if V.b k=V.b k then us[off+i]? else _)=_
      rw[db rfl]
      have:off+i < us.length:=by omega
      simp[this]
     ·rw[aj] at hr
      obtain⟨g0,h5,rfl⟩:=ax.1 hr
      have h5:=Pn h5
      rw[e1,aj] at h5
      obtain⟨u,h6,rfl⟩:=ax.1 h5
      cases j with
      | zero =>
       simp at hg
       subst hg
       simp only[List.getD,h6,Option.getD_some]
       exact .v u
      | succ j=>simp at hg
    refine Tm (y:=.slice (some ⟨V.b k,off,none⟩) m m) hK ha hd ?_ hla (Below.refl _ _) (.drop _ _) (.of_v hvr) h
    have hr:=run (l:=0) (q:=m) he (fun u e=>by cases e) (fun _=>rfl) (fun u e=>by cases e) (fun _=>rfl) (by omega) (by omega) (by omega) w
    refine hr.trans ?_
    congr 2
    unfold Hc
    simp only[Int.toNat_natCast,Int.toNat_zero,Nat.zero_mul,Nat.sub_zero,Option.map_some]
    by_cases hm:m=0
    ·rw[db hm]
    ·rw[da hm];rfl
   cases off with
   | succ off=>exact frz (off:=off+1) h he
   | zero =>
    cases hb0:Nat.beq ty' ty with
    | false=>rw[hb0] at h;exact frz (off:=0) h he
    | true =>
    cases hm0:Nat.ble m 1048576 with
    | false=>rw[hb0,hm0] at h;exact frz (off:=0) h he
    | true =>
    rw[hb0,hm0] at h
    have hm:=hm0
    have hm:=c9 hm
    obtain⟨hb,hv,h⟩:=Zbb h
    obtain⟨e1,h4⟩:=Kw hv h2
    have hlen:us.length=m:=by rw[←hb,e1];simp
    have hla:=J8 (w':=w) (r:=.slc (cs.map fun g=>[g]) ty' 1) hH hr rfl rfl rfl (af _) (fun _ _ _=>rfl) (.slice (some ⟨V.b k,0,none⟩) m m) (·=V.b k) (fun b e=>⟨.inl ((hf b).2 e),by rw[e];exact(bo.1 h1).1⟩) ⟨fun b=>by simp[Va.push,Va.drop,Value.ownBlock,eq_comm],us.map fun u=>[u],⟨by rw[Qr];simp[hlen,hb],.inr ⟨V.b k,m,us.toArray,by simp[Va.push,Va.drop,hb],ah _,h1,by simp[hb],by unfold maxLen;omega,by simp[hlen],by rw[Qr,aa,hb,Nat.mul_one];exact ao (Nat.le_of_eq hlen)⟩⟩,by simp[hlen,hb],fun i r u hr hu=>?_,fun u hu=>by obtain⟨x,-,rfl⟩:=az.1 hu;rfl,fun u hu x hx=>by
     obtain⟨y,hy,rfl⟩:=az.1 hu
     rw[bm.1 hx];exact h4 y hy,Nat.one_pos⟩
    ·have hk2:look k ((V.n,R.slc (cs.map fun g=>[g]) ty' 1)::(k,.gone)::own)=some .gone:=by
      rw[A3,da (by omega),A3,db rfl]
     have hkn':k≠V.n:=by omega
     have hl2:=hla.trans (Cs (w':=w) (r:=.lnk V.n) hla.has hk2 rfl rfl rfl rfl (fun _ _=>rfl) ⟨fun b=>by simp[Va.push,Va.drop,hkn'],by show V.n < V.n+1;omega,m,by simp[Va.push,Va.drop,hkn']⟩)
     obtain⟨g',v,k1,k2,k3⟩:=arv (V2:=(V.drop k).push 0 (.slice (some ⟨V.b k,0,none⟩) m m) (·=V.b k)) h he (by show V.n < V.n+1;omega) (by simp[Va.push,Va.drop])
     exact Tm (y:=v) hK ha hd k3 hl2 (Below.refl _ _) (fun j hj b hb=>by
      have hjn:j≠V.n:=by omega
      have hb:(if j=V.n then(·=V.b k) else(if j=k then fun _=>False else V.f j)) b:=hb
      rw[da hjn] at hb
      split at hb
      ·exact hb.elim
      ·exact hb) (.of_c k2) k1
    ·rw[aj] at hr hu
     obtain⟨g0,h5,rfl⟩:=ax.1 hr
     obtain⟨x,h6,rfl⟩:=ax.1 hu
     rw[e1,aj,h6] at h5
     cases h5
     exact .cons (.v x) .nil
  ·next j hr =>
   obtain⟨-,hjn,mm,hsj⟩:=hH.each k _ hr
   split at h
   ·next rows e' hrj =>
    obtain⟨hfit,h⟩:=h
    obtain⟨A,c,hv,-⟩:=Gu hH hrj
    rw[hsj] at hv
    injection hv with e1 e2 e3
    obtain⟨g',v,k1,k2,k3⟩:=arv (V2:=V) h he hjn (by rw[hsj,e2,hfit])
    exact Tm (y:=v) hK ha hd k3 (.refl hH) (Below.refl _ _) (.refl _) (.of_c k2) k1
   ·exact h.elim
  ·exact h.elim
 | oel k i sz off =>
  obtain⟨hkn,b,q0,n,c,hs,he⟩:=Kt hg
  dsimp only at h
  split at h
  ·next rows e' sz' hr hlo =>
   obtain rfl:=Z50 hH hr hs
   rw[ca] at he
   split at h
   ·next hb =>
    obtain⟨q,h,q1,q2⟩:=Fm h ha hH
    obtain⟨⟨r1,r2,r3⟩,⟨⟨hfit,hsz0⟩,h⟩⟩:=h
    have hr:=run (l:=0) (q:=q) he (fun u e=>by cases e) (fun _=>rfl) q1 q2 (by omega) r2 r3 w
    refine Tm (y:=.slice (some ⟨b,i * sz+off,none⟩) q.toNat m) hK ha hd (hr.trans ?_) (.refl hH) (Below.refl _ _) (.refl _) (.of_1 (g:=.orv k i sz off q.toNat m) ⟨hkn,b,0,by cases sz with | zero=>omega | succ sz=>exact⟨n,c,hs⟩,by simp⟩) h
    congr 2
    unfold Hc
    simp only[Int.toNat_zero,Nat.zero_mul,Nat.sub_zero,Option.map_some]
    by_cases hm:m=0
    ·rw[db hm]
    ·rw[da hm];rfl
   ·exact h.elim
  ·exact h.elim
 | _=>exact h.elim
theorem Z69 (hT:∀t i,look t tb=some i→TIok P t i)(hH:Has I V own w)(ha:ARep N I V a t)(hd:∀i,o.dst=some i→i < N)(hK:NxtB N own I V w K next){ty m e sz:TypeId}{z:Operand}{lo hi:Option Operand}{ag:Bool}{ze:List G}{fl:List (TypeId × Nat)}{ik:Option IntKind}(hl:look ty tb=some ⟨ag,ze,none,fl,false,ik,.arr m e sz⟩)(ho:o.op=.slice ty z lo hi none)
  (h:ev t own z fun g=>Z4x t own m lo hi g fun g=>K (put o.dst g t) own V.n):o.wp P a w next Q:=by
 obtain⟨hu,hsz⟩:=(hT _ _ hl).kd
 have hsz:∀w,(sizeOf e).run P w=.ok sz w:=Bg hsz
 obtain⟨g,h,hg⟩:=B0 h ha hH
 unfold Z4x at h
 cases g with
 | ptr k off =>
  cases lo with
  | some y=>exact h.elim
  | none =>
   cases hi with
   | none=>exact h.elim
   | some x =>
    obtain⟨hkn,he⟩:=C4 hg
    dsimp only at h
    split at h
    ·next cs ty' hr =>
     obtain⟨q,h,q1,q2⟩:=Fm h ha hH
     obtain⟨⟨r1,r2,r3⟩,h⟩:=h
     refine Tm (y:=.slice (some ⟨V.b k,0 * 0+off,none⟩) q.toNat m) hK ha hd ?_ (.refl hH) (Below.refl _ _) (.refl _) (.of_1 (g:=.orv k 0 0 off q.toNat m) ⟨hkn,V.b k,0,⟨rfl,rfl⟩,by simp⟩) h
     have hb:=He (P:=P) (sl:=false) (len:=m) (cap:=m) (Gs (a:=a) (z:=none) (m:=0) (d:=0) (fun u e=>by cases e) (fun _=>rfl)) (Gs q1 q2) (by omega) r2 r3 (af _) w
     rw[Option.map_none] at hb
     simp only[execOp,ho,Instr.sliceAt,Instr.sureAddr,Sem.run_bind,run_underlying hu,Result.andThen_ok,he,Sem.run_pure,Option.map_none,hsz,hb]
     congr 3
     by_cases hm:m=0
     ·simp[hm]
     ·simp[hm,Addr.add]
    ·exact h.elim
 | _=>exact h.elim
theorem TIok.u8 (hT:∀t i,look t tb=some i→TIok P t i){e:TypeId}(h:Zfa tb e=true):P.underlying e=some (.int .u8):=by
 unfold Zfa at h
 split at h
 ·next hl=>exact(hT _ _ hl).ik _ rfl
 ·cases h
theorem Z4i {bs:List UInt8}{rows:List (List G)}{A:Option Addr}{c:Nat}(he:rows=bs.map gBy)(hr:∃rs:List (List Value),rs.length=rows.length∧(∀(i:Nat) r u,rows[i]?=some r→rs[i]?=some u→PW (VRep I) r u)∧(∀u∈rs,u.length=1)∧∀a,A=some a→∀(m:Nat) x,rs.flatten[m]?=some x→w.cell? (a.add m)=some x)(hA:A=none→rows=[]){src dst e:TypeId}(hs:P.underlying src=some (.slice e))(hu:P.underlying e=some (.int .u8))(hd:P.underlying dst=some .string) :
  (convert src dst (.slice A rows.length c)).run P w=.ok (.string ⟨bs.toArray⟩) w:=by
 subst he
 cases A with
 | none =>
  have h0:bs=[]:=by simpa using hA rfl
  subst h0
  rw[run_convert_bytes_string w src dst e none _ c hs hu hd]
  simp[Conv.bytesToString];rfl
 | some ad =>
  obtain⟨rs,h1,h2,h3,h4⟩:=hr
  have:=run_convert_bytes_back (P:=P) w src dst e ad c bs hs hu hd fun j hj=>by
   have hj1:j < (bs.map gBy).length:=by simpa using hj
   have hj2:j < rs.length:=by omega
   have hp:=h2 j _ _ (ab hj1) (ab hj2)
   have hl:=h3 rs[j] (bl hj2)
   have hg:=D1 h3 (ab hj2) (ab (by omega:0 < rs[j].length))
   have hc:=h4 ad rfl _ _ hg
   rw[Nat.mul_one,Nat.add_zero] at hc
   rw[hc]
   have hv:=hp.2 0 (.v (.int .u8 (bs[j].toNat:Int))) rs[j][0] (by simp[gBy]) (ab _)
   generalize rs[j][0]=z at hv
   cases hv
   rfl
  rw[aa]
  exact this
theorem Has.below (h:Has I V own w)(hb:Below w.heap.size w w'):Has I V own w' :=
 (Fg h (h.mem.keep fun b _ _ hx=>hb.block b (h.mem.lt hx)) (.refl _) (fun _ _ _=>rfl) hb).has
theorem Zdw (hT:∀t i,look t tb=some i→TIok P t i)(hS:∀u,S u→Agree V XL w u)(hH:Has I V own w)(ha:ARep N I V a t){src dst:TypeId}{z:Operand}(ho:o.op=.convert src dst z){p q:TI}(hp:look src tb=some p)(hq:look dst tb=some q)(h:ev t own z fun g=>cvK own g p q (cvU tb p XL) fun g=>K (put o.dst g t) own V.n):QOk S P I V own w a t o K:=by
 obtain⟨g,h,hg⟩:=B0 h ha hH
 have hrun:∀{v u},(convert src dst (a.eval z)).run P u=.ok v u→(execOp a.eval o).run P u=.ok (.value v) u:=fun hr=>by
  simp only[execOp,ho,Sem.run_bind,hr,Result.andThen_ok,Sem.run_pure]
 have hp':=hT _ _ hp
 have hq':=hT _ _ hq
 obtain⟨pag,pz,pe,pf,ps,pk,pd⟩:=p
 obtain⟨qag,qz,qe,qf,qs,qk,qd⟩:=q
 unfold cvK cvU at h
 dsimp only at h
 cases pe with
 | some es =>
  obtain⟨e,sz⟩:=es
  cases qs with
  | false=>exact False.elim h
  | true =>
   cases XL with
   | cons k XL=>exact False.elim h
   | nil =>
   dsimp only at h
   cases hu:Zfa tb e with
   | false=>rw[hu] at h;exact h.elim
   | true =>
    rw[hu] at h
    dsimp only at h
    have hu8:=TIok.u8 hT hu
    have hst:=hq'.str rfl
    have hel:=(hp'.elem e sz rfl).1
    have main:∀{rows:List (List G)} {K1:List UInt8→Prop},EvBytes rows K1→Z3p own g 1 (fun r=>r=rows)→∃bs,K1 bs∧∀u,S u→(convert src dst (a.eval z)).run P u=.ok (.string ⟨bs.toArray⟩) u:=fun {rows K1} ⟨bs,e1,hk⟩ hn=>by
     refine⟨bs,hk,fun u hb=>?_⟩
     obtain⟨new,A,c,rs,e2,e3,k1,k2,k3,k4,-,k5⟩:=U7 hn (hg:TRep I V g (a.eval z)) hH
     subst e2
     rw[e3]
     refine Z4i e1 ⟨rs,k2,k3,k4,fun a ha m x hx=>?_⟩ (fun e=>al (k1 e).1) hel hu8 hst
     have hc:=k5 a ha m x hx
     have hlt:=World.block_lt_of_cell? w _ hc
     rw[World.cell?_of_block (w:=w) (w':=u) (hS u hb _ hlt (fun k hk=>by simp at hk))]
     exact hc
    have rws:∀{rows:List (List G)} {K1:List UInt8→Prop},EvBytes rows K1→∀r∈rows,r.length=1∧r.all G.one=true:=fun⟨bs,e1,_⟩ r hr=>by
     subst e1
     obtain⟨b,-,rfl⟩:=az.1 hr
     exact⟨rfl,rfl⟩
    cases g with
    | nl =>
     obtain⟨bs,hk,hr⟩:=main h rfl
     exact⟨_,_,hk,.of_v (.v _),fun u hb=>hrun (hr u hb)⟩
    | sl rows =>
     obtain⟨bs,hk,hr⟩:=main h ⟨rws h,rfl⟩
     exact⟨_,_,hk,.of_v (.v _),fun u hb=>hrun (hr u hb)⟩
    | osl k =>
     unfold byK at h
     dsimp only at h
     split at h
     ·next rows e' hk' =>
      obtain⟨bs,hk,hr⟩:=main h (by unfold Z3p;dsimp only;rw[hk'])
      exact⟨_,_,hk,.of_v (.v _),fun u hb=>hrun (hr u hb)⟩
     ·exact h.elim
    | _=>exact False.elim h
 | none =>
  cases ps with
  | true =>
   cases qs with
   | false=>exact False.elim h
   | true =>
    dsimp only at h
    split at h
    ·next s =>
     have e:=As hg
     exact⟨_,_,h,.of_v (.v _),fun u _=>hrun (by rw[e];simp[convert,run_underlying (hp'.str rfl),run_underlying (hq'.str rfl)])⟩
    ·exact h.elim
  | false =>
   cases pk with
   | none=>exact False.elim h
   | some k1 =>
    cases qs with
    | true=>exact False.elim h
    | false =>
     cases qk with
     | none=>exact False.elim h
     | some k2 =>
      dsimp only at h
      split at h
      ·next k n =>
       have e:=As hg
       have hc:∀u,(convert src dst (.int k n)).run P u=.ok (.int k2 (k2.wrap n)) u:=fun u=>by
        simp[convert,run_underlying (hp'.ik k1 rfl),run_underlying (hq'.ik k2 rfl),Conv.intToInt]
       cases k2 with
       | i64 =>
        obtain⟨hr,hk⟩:=h
        exact⟨_,_,hk,.of_v (.v _),fun u _=>hrun (by rw[e,hc,IntWalk.i64_in _ hr])⟩
       | u8=>exact⟨_,_,h,.of_v (.v _),fun u _=>hrun (by rw[e,hc,IntKind.wrap_u8])⟩
       | u64=>exact⟨_,_,h,.of_v (.v _),fun u _=>hrun (by rw[e,hc])⟩
       | _=>exact False.elim h
      ·exact h.elim
theorem Z56 (hH:Has I V own w)(ha:ARep N I V a t)(hd:∀i,o.dst=some i→i < N)(hK:NxtB N own I V w K next){src dst e:TypeId}{z:Operand}(ho:o.op=.convert src dst z)(hs:P.underlying src=some .string)(hde:P.underlying dst=some (.slice e))(hu:P.underlying e=some (.int .u8))(h:ev t own z fun g=>match g with
  | .v (.string s)=>K (put o.dst (.sl (s.data.toList.map gBy)) t) own V.n
  | _=>False):o.wp P a w next Q:=by
 obtain⟨g,h,hg⟩:=B0 h ha hH
 split at h
 ·next s =>
  have ez:=As hg
  have hr:=run_bytes_of_string (P:=P) w src dst e s hs hde hu
  obtain⟨w',hw'⟩:∃w',w'=(w.drew.alloc (.cells (bytesRow s (grownCap w s.size 0 e)) e ((bytesRow s (grownCap w s.size 0 e)).size,(bytesRow s (grownCap w s.size 0 e)).size+1))):=⟨_,rfl⟩
  rw[←hw'] at hr
  have hb:Below w.heap.size w w':=by rw[hw'];exact((Below.refl _ _).drew).alloc (af _) _
  have hh:w'.heap[w.heap.size]?=some (.cells (bytesRow s (grownCap w s.size 0 e)) e ((bytesRow s (grownCap w s.size 0 e)).size,(bytesRow s (grownCap w s.size 0 e)).size+1)):=by rw[hw'];exact heap_alloc_new w.drew _
  let I':Imm:=fun b o=>if b=w.heap.size then(bytesRow s (grownCap w s.size 0 e))[o]? else I b o
  have hle:I.le I':=fun b o x hx=>by
   show(if b=w.heap.size then _ else I b o)=_
   rw[da (fun e'=>by have:=hH.mem.lt hx;omega)]
   exact hx
  have hm:Mem I' w':=fun b o x hx=>by
   change (if b=w.heap.size then _ else I b o)=_ at hx
   split at hx
   ·next e'=>subst e';rw[cell_of_row w' _ o _ e _ hh];exact hx
   ·exact(hH.mem.keep (w':=w') fun b o x hx=>hb.block b (hH.mem.lt hx)) b o x hx
  have hl:=Fg hH hm hle (fun b o hlt=>da (Nat.ne_of_lt hlt)) hb
  have hcap:s.size≤grownCap w s.size 0 e:=grownCap_ge w s.size 0 e
  refine Tm (g:=.sl (s.data.toList.map gBy)) (y:=.slice (some ⟨w.heap.size,0,none⟩) s.size (grownCap w s.size 0 e)) hK ha hd (by simp only[execOp,ho,Sem.run_bind,ez,hr,Result.andThen_ok,Sem.run_pure]) hl hb (.refl _) (.of_v ?_) h
  have hrow:∀(i:Nat) (b:UInt8),s.data.toList[i]?=some b→(bytesRow s (grownCap w s.size 0 e))[i]?=some (Value.int .u8 (b.toNat:Int)):=fun i b hi=>by
   have hlt:=(ac.1 hi).1
   unfold bytesRow
   rw[Array.getElem?_append_left (by simpa using hlt)]
   have h2:s.data[i]?=some b:=by simpa using hi
   simp[h2]
  have hmap:∀(i:Nat) r,(s.data.toList.map gBy)[i]?=some r→∃b,s.data.toList[i]?=some b∧r=gBy b:=fun i r hr=>by
   rw[aj] at hr
   obtain⟨b,h1,h2⟩:=ax.1 hr
   exact⟨b,h1,h2.symm⟩
  have key:=VRep.sl (I:=I') (s.data.toList.map gBy) (some ⟨w.heap.size,0,none⟩) (grownCap w s.size 0 e) 1 (fun i _=>((bytesRow s (grownCap w s.size 0 e))[i]?).getD undef) (by simpa using hcap) (fun e=>by cases e) (fun r hr=>by obtain⟨b,-,rfl⟩:=az.1 hr;rfl) (fun i r hr=>⟨_,_,rfl,fun j hj=>?_⟩) (fun i r j g hr hg=>?_)
  ·simpa using key
  ·obtain⟨b,h1,-⟩:=hmap i r hr
   obtain rfl:j=0:=by omega
   show(if w.heap.size=w.heap.size then _ else _)=_
   rw[db rfl,ca,Nat.mul_one,Nat.add_zero,hrow i b h1]
   rfl
  ·obtain⟨b,h1,rfl⟩:=hmap i r hr
   cases j with
   | succ j=>simp[gBy] at hg
   | zero =>
    simp[gBy] at hg
    subst hg
    rw[hrow i b h1]
    exact .v _
 ·exact h.elim
theorem Ji:∀{rs:List (List Value)} (_:∀u∈rs,u.length=1) (k:Nat),(rs.take k).flatten=rs.flatten.take k∧(rs.drop k).flatten=rs.flatten.drop k
 | [],_,k=>by simp
 | u::rs,h,0=>by simp
 | u::rs,h,k+1=>by
  have hu:=h u (by simp)
  obtain⟨x,rfl⟩:∃x,u=[x]:=List.length_eq_one_iff.1 hu
  have ih:=Ji (rs:=rs) (fun u hu=>h u (by simp[hu])) k
  simp[ih.1,ih.2]
theorem Qg (hH:Has I V own w){k e lo d:Nat}{rows new:List (List G)}(hk:look k own=some (.slc rows e 1))(hlo:lo+d≤rows.length){A:Option Addr}{c:Nat}{rs:List (List Value)}(hA:A=none→new.length=0∧c=0)(k1:rs.length=new.length)(k2:∀(i:Nat) r u,new[i]?=some r→rs[i]?=some u→PW (VRep I) r u)(k3:∀u∈rs,u.length=1)(k4:∀u∈rs,∀x∈u,x.oneCell'=true)(k5:∀a,A=some a→∀(j:Nat) u,rs.flatten[j]?=some u→w.cell? (a.add j)=some u)
  {dT sT el:TypeId} (hu:P.underlying dT=some (.slice el)) (hs:(P.info? el).map (·.size)=some 1) (ty:TypeId) :
  ∃w',(Builtin.copy_ #[dT,sT] ty #[Hc 1 (V.s k) lo (lo+d),.slice A new.length c]).run P w=.ok (.int .i64 (min new.length d:Nat)) w'∧Later own I V w ((k,.slc (rows.take lo++new.take (min new.length d)++rows.drop (lo+min new.length d)) e 1)::own) I V w':=by
 obtain⟨hf,rs0,ho,g2,g3,g4,g5,g6⟩:=hH.each k _ hk
 obtain⟨m,hm⟩:∃m,m=min new.length d:=⟨_,rfl⟩
 have hmd:m≤d:=by rw[hm];exact Nat.min_le_right _ _
 have hmn:m≤new.length:=by rw[hm];exact Nat.min_le_left _ _
 rw[←hm]
 obtain⟨A0,c0,hv,hc0⟩:=Gu hH hk
 by_cases h0:m=0
 ·subst h0
  refine⟨w,?_,Cs hH hk rfl rfl rfl rfl (fun _ _=>rfl) ?_⟩
  ·rw[hv]
   unfold Hc
   dsimp only
   have:=run_copy_none (P:=P) w dT sT ty el (if c0=lo then A0 else A0.map (·.add (lo * 1))) A (lo+d - lo) (c0 - lo) new.length c hu hs (by rw[Nat.add_sub_cancel_left];exact hm.symm)
   exact this
  ·simpa using hH.each k _ hk
 ·rcases ho.2 with⟨h7,h8⟩ | ⟨b,cap,cur,h7,-,hg,hnc,hcm,hcs,ht⟩
  ·omega
  ·rw[h7] at hv
   injection hv with e1 e2 e3
   subst e1 e3
   cases A with
   | none=>have:=hA rfl;omega
   | some ad =>
    have hne:¬cap=lo:=by omega
    obtain⟨cs,hcsd⟩:∃cs,cs=(rs.take m).flatten:=⟨_,rfl⟩
    have k3':∀u∈rs.take m,u.length=1:=fun u hu=>k3 u (bd hu)
    have hl:cs.length=m:=by rw[hcsd,B6 k3'];simp;omega
    have hsub:∀j x,cs[j]?=some x→rs.flatten[j]?=some x:=fun j x hx=>by
     rw[hcsd] at hx
     obtain⟨i,q,u,rfl,hq,hu',hx'⟩:=O1 k3' hx
     exact D1 k3 (by rw[bi] at hu';(split at hu'<;>first | exact hu' | cases hu')) hx'
    have h1:∀v∈cs,v.oneCell'=true:=fun v hv=>by
     rw[hcsd] at hv
     obtain⟨u,hu',hv⟩:=List.mem_flatten.1 hv
     exact k4 u (bd hu') v hv
    have hrun:=run_copy_row (P:=P) w dT sT ty el b (0+lo * 1) (lo+d - lo) (cap - lo) ad new.length c cur e cs hu hs hg (by rw[hl,hm,Nat.add_sub_cancel_left]) (fun j v hv=>k5 ad rfl j v (hsub j v hv)) (by rw[hl];omega) h1
    rw[hl] at hrun
    have hrl:∀u∈rs0,u.length=1:=g4
    refine⟨w.setRow b (cur.toList.take (0+lo * 1)++cs++cur.toList.drop (0+lo * 1+m)).toArray,?_,Cs (w':=w.setRow b _) hH hk rfl rfl rfl (by simp[World.setRow]) (fun b' hb'=>setRow_other w _ b' _ (fun e=>hb' ((hf b').2 (by rw[h7,e];rfl)))) ⟨hf,rs0.take lo++rs.take m++rs0.drop (lo+m),⟨?_,.inr ⟨b,cap,_,(by rw[h7];congr 1;simp;first | done | omega),ah _,setRow_heap w b cur _ e _ hg,by simp;omega,hcm,by simp;omega,?_⟩⟩,by simp;omega,fun i r u hr hu'=>?_,fun u hu'=>?_,fun u hu'=>?_,g6⟩⟩
    ·rw[h7]
     unfold Hc
     dsimp only
     rw[da hne]
     simp only[Option.map_some,C7]
     exact hrun
    ·have:∀u∈rs0.take lo++rs.take m++rs0.drop (lo+m),u.length=1:=fun u hu'=>by
      rcases br.1 hu' with h | h
      ·rcases br.1 h with h | h
       ·exact g4 u (bd h)
       ·exact k3 u (bd h)
      ·exact g4 u (bz h)
     rw[B6 this]
     simp
     omega
    ·have ht':cur.toList.take (rows.length * 1)=rs0.flatten:=ht
     have hcl:cur.toList.length=cap * 1:=by simpa using hcs
     rw[List.flatten_append,List.flatten_append,(Ji g4 lo).1,(Ji g4 (lo+m)).2,←hcsd,←ht']
     have hn:(rows.take lo++new.take m++rows.drop (lo+m)).length=rows.length:=by simp;omega
     rw[hn,show 0+lo * 1=lo by omega]
     simp only[List.take_append,List.take_take,List.drop_take,List.length_take,List.length_append,hl]
     rw[Nat.min_eq_right (by omega:lo≤rows.length * 1),ce (by omega:lo≤rows.length * 1),ce (by omega:lo≤cur.toList.length),ao (by omega:cs.length≤rows.length * 1 - lo)]
    ·have e1:(rows.take lo).length=lo:=by simp;omega
     have e2:(rs0.take lo).length=lo:=by simp;omega
     have e3:(new.take m).length=m:=by simp;omega
     have e4:(rs.take m).length=m:=by simp;omega
     rcases Nat.lt_or_ge i (lo+m) with hlt | hge
     ·rw[bk (by simp;omega)] at hr hu'
      rcases Nat.lt_or_ge i lo with hlt2 | hge2
      ·rw[bk (by omega),bi,db hlt2] at hr hu'
       exact g3 i r u hr hu'
      ·rw[be (by omega),e1,bi,db (by omega)] at hr
       rw[be (by omega),e2,bi,db (by omega)] at hu'
       exact k2 _ r u hr hu'
     ·rw[be (by simp;omega)] at hr hu'
      have e5:(rows.take lo++new.take m).length=lo+m:=by simp;omega
      have e6:(rs0.take lo++rs.take m).length=lo+m:=by simp;omega
      rw[e5,bu] at hr
      rw[e6,bu] at hu'
      exact g3 _ r u hr hu'
    ·rcases br.1 hu' with h | h
     ·rcases br.1 h with h | h
      ·exact g4 u (bd h)
      ·exact k3 u (bd h)
     ·exact g4 u (bz h)
    ·rcases br.1 hu' with h | h
     ·rcases br.1 h with h | h
      ·exact g5 u (bd h)
      ·exact k4 u (bd h)
     ·exact g5 u (bz h)
theorem Zb0 (hH:Has I V own w){k j sz off e:Nat}{rows:List (List G)}(hr:look k own=some (.slc rows e sz)){b n c:Nat}(hs:V.s k=.slice (some ⟨b,0,none⟩) n c)(hlt:j < rows.length){ds:List Value}(hfit:off+ds.length≤sz)(hone:∀v∈ds,v.oneCell'=true) :
  ∃(u:List Value) (cur:Array Value),u.length=sz∧PW (VRep I) rows[j] u∧w.heap[b]?=some (.cells cur e (0,0))∧j * sz+off+ds.length≤cur.size∧∀row',PW (VRep I) row' (u.take off++ds++u.drop (off+ds.length))→Later own I V w ((k,.slc (rows.set j row') e sz)::own) I V (w.setRow b (cur.toList.take (j * sz+off)++ds++cur.toList.drop (j * sz+off+ds.length)).toArray):=by
   obtain⟨rs,cur,hg1,h2,h3,h4,h5,hn,hnc,hcm,hcs,ht,-⟩:=Ng hH hr hs
   have hj:j < rows.length:=hlt
   have hj':j < rs.length:=by omega
   have k3:=hfit
   have hu:=h4 rs[j] (bl hj')
   have hjn:j * sz+sz≤n * sz:=by rw[←Nat.succ_mul];exact Nat.mul_le_mul_right _ (by omega)
   have hnn:n * sz≤c * sz:=Nat.mul_le_mul_right _ hnc
   refine⟨rs[j],cur,hu,h3 j _ _ (ab hj) (ab hj'),hg1,by omega,fun row' k2=>?_⟩
   have hfl:=Uz h4 (ab hj') off ds k3
   have hfln:=B6 h4
   have hone':∀u∈rs.set j (rs[j].take off++ds++rs[j].drop (off+ds.length)),u.length=sz∧∀x∈u,x.oneCell'=true:=fun u hu'=>by
    rcases cn hu' with h | rfl
    ·exact⟨h4 u h,h5 u h⟩
    ·refine⟨by simp;omega,fun x hx=>?_⟩
     rcases br.1 hx with hx | hx
     ·rcases br.1 hx with hx | hx
      ·exact h5 _ (bl hj') x (bd hx)
      ·exact hone x hx
     ·exact h5 _ (bl hj') x (bz hx)
   refine(Cs (w':=w.setRow b (cur.toList.take (j * sz+off)++ds++cur.toList.drop (j * sz+off+ds.length)).toArray) (r:=.slc (rows.set j row') e sz) hH hr rfl rfl rfl (by simp[World.setRow]) (fun b' hb'=>setRow_other w _ b' _ (fun e=>hb' (((hH.each k _ hr).1 b').2 (by rw[hs,e];rfl)))) ⟨(hH.each k _ hr).1,rs.set j (rs[j].take off++ds++rs[j].drop (off+ds.length)),⟨?_,.inr ⟨b,c,_,by rw[hs,hn];simp,ah _,setRow_heap w _ cur _ e _ hg1,by simp;omega,hcm,?_,?_⟩⟩,by simp[h2],?_,fun u hu=>(hone' u hu).1,fun u hu=>(hone' u hu).2,(hH.each k _ hr).2.choose_spec.2.2.2.2.2⟩)
   ·rw[B6 fun u hu=>(hone' u hu).1];simp[h2]
   ·simp;omega
   ·rw[hfl]
    simp only[List.length_set,←hn]
    rw[←ht]
    have hcl:cur.toList.length=c * sz:=by simpa using hcs
    simp only[List.take_append,List.take_take,List.drop_take,List.length_take,List.length_append]
    rw[Nat.min_eq_right (by omega:j * sz+off≤n * sz),ce (by omega:j * sz+off≤n * sz),ce (by omega:j * sz+off≤cur.toList.length),ao (by omega:ds.length≤n * sz - (j * sz+off))]
   ·intro i r u hr' hu'
    rw[ck] at hr' hu'
    split at hr'
    ·next e' =>
     subst e'
     rw[db rfl,db hj'] at hu'
     cases hr';cases hu'
     exact k2
    ·next e' =>
     rw[da e'] at hu'
     exact h3 i r u hr' hu'
theorem Zbr (hT:∀t i,look t tb=some i→TIok P t i)(hK:Nxt N own0 I0 V0 w0 K next)(hL:Since own0 I0 V0 w0 own I V w)(ha:ARep N I V a t)(hd:∀i,o.dst=some i→i < N){x z:Operand}{ty ty':TypeId}{ag:Bool}{ze:List G}{e:Nat}{fl:List (TypeId × Nat)}{st:Bool}{ik:Option IntKind}{kd:KD}(hl:look ty tb=some ⟨ag,ze,some (e,1),fl,st,ik,kd⟩)(ho:o.op=.call {callee:=.builtin .copy,args:=#[x,z],argTypes:=#[ty,ty']})(h:ev t own x fun g=>ev t own z fun q=>Z3p own q 1 fun new=>match g with
          | .osl k=>match look k own with
           | some (.slc rows e 1)=>K (put o.dst (.v (.int .i64 (min new.length rows.length:Nat))) t) ((k,.slc (new.take (min new.length rows.length)++rows.drop (min new.length rows.length)) e 1)::own) V.n
           | _=>False
          | .osv k 1 lo hi=>match look k own with
           | some (.slc rows e 1)=>K (put o.dst (.v (.int .i64 (min new.length (hi - lo):Nat))) t) ((k,.slc (rows.take lo++new.take (min new.length (hi - lo))++rows.drop (lo+min new.length (hi - lo))) e 1)::own) V.n
           | _=>False
          | .orv k i sz off len _=>match look k own with
           | some (.slc rows e sz')=>match Nat.beq sz sz' with
            | true=>Et (off+len≤sz) (EvSet rows i (fun row k=>k (row.take off++(new.take (min new.length len)).flatten++row.drop (off+min new.length len))) fun rows'=>K (put o.dst (.v (.int .i64 (min new.length len:Nat))) t) ((k,.slc rows' e sz)::own) V.n)
            | false=>False
           | _=>False
          | _=>False):o.wp P a w next Q:=by
 obtain⟨g,hk1,hg⟩:=B0 h ha hL.has
 obtain⟨q,hk2,hq⟩:=B0 hk1 ha hL.has
 obtain⟨new,A,c,rs,hk,he,hA,k1,k2,k3,k4,k5⟩:=U7 hk2 hq hL.has
 clear h hk1 hk2
 obtain⟨hu,ie,zv,h1,h2,h3,h4,h5,h6⟩:=(hT _ _ hl).elem e 1 rfl
 have hs:(P.info? e).map (·.size)=some 1:=by rw[h1];simp[h3]
 have hrun:∀{v w'},(Builtin.copy_ #[ty,ty'] o.type #[a.eval x,.slice A new.length c]).run P w=.ok v w'→(execOp a.eval o).run P w=.ok (.value v) w':=fun hr=>by
  simp only[execOp,ho,resolve,invoke,builtin,Sem.run_bind,Sem.run_pure,Result.andThen_ok,List.map_toArray,List.map_cons,List.map_nil,he,hr]
 cases g with
 | osl k =>
  obtain⟨hkn,hx⟩:=(show k < V.n∧a.eval x=V.s k from hg)
  dsimp only at hk
  split at hk
  ·next rows e' hr0 =>
   obtain⟨w',c1,c2⟩:=Qg (P:=P) (lo:=0) (d:=rows.length) hL.has hr0 (by omega) hA k1 k2 k3 k4 k5 hu hs (sT:=ty') o.type
   obtain⟨A0,c0,hv,hc0⟩:=Gu hL.has hr0
   have e0:Hc 1 (V.s k) 0 (0+rows.length)=V.s k:=by
    rw[hv]
    unfold Hc
    dsimp only
    cases A0<;>simp[Addr.add]
   rw[e0] at c1
   refine fin hK hL ha hd (hrun (by rw[hx];exact c1)) c2 (.of_v (.v _)) ?_
   simpa using hk
  ·exact hk.elim
 | osv k sz lo hi =>
  obtain⟨hkn,⟨b1,b2⟩,hx⟩:=(show k < V.n∧(lo≤hi∧hi≤Mf (V.s k))∧a.eval x=Hc sz (V.s k) lo hi from hg)
  cases hsz:Nat.beq sz 1 with
  | false =>
   exfalso
   cases sz with
   | zero=>exact hk.elim
   | succ n=>cases n with
    | zero=>cases hsz
    | succ n=>exact hk.elim
  | true =>
   have hsz:=ai hsz
   subst hsz
   have hk:match look k own with
    | some (.slc rows e 1)=>K (put o.dst (.v (.int .i64 (min new.length (hi - lo):Nat))) t) ((k,.slc (rows.take lo++new.take (min new.length (hi - lo))++rows.drop (lo+min new.length (hi - lo))) e 1)::own) V.n
    | _=>False:=hk
   split at hk
   ·next rows e' hr0 =>
    obtain⟨A0,c0,hv,hc0⟩:=Gu hL.has hr0
    have b3:hi≤rows.length:=by rw[hv] at b2;exact b2
    obtain⟨w',c1,c2⟩:=Qg (P:=P) (lo:=lo) (d:=hi - lo) hL.has hr0 (by omega) hA k1 k2 k3 k4 k5 hu hs (sT:=ty') o.type
    rw[show lo+(hi - lo)=hi by omega] at c1
    exact fin hK hL ha hd (hrun (by rw[hx];exact c1)) c2 (.of_v (.v _)) hk
   ·exact hk.elim
 | orv k i sz off len cap =>
  obtain⟨hkn,b,q0,hob,hx⟩:=(show TRep1 I V (.orv k i sz off len cap) (a.eval x) from hg)
  dsimp only at hk
  split at hk
  ·next rows e' sz' hr0 =>
   split at hk
   ·next hb =>
    have hb:=ai hb
    subst hb
    obtain⟨n0,c0,hs0⟩:∃n c,V.s k=.slice (some ⟨b,q0,none⟩) n c:=by
     obtain⟨-,-,-,-,-,-,-,hz⟩:=hL.has.each k _ hr0
     cases sz with
     | zero=>omega
     | succ sz=>exact hob
    obtain rfl:=Z50 hL.has hr0 hs0
    rw[ca] at hx
    obtain⟨hfit,hlt,hk⟩:=hk
    obtain⟨m,hm⟩:∃m,m=min new.length len:=⟨_,rfl⟩
    rw[←hm] at hk
    obtain⟨ds,hds⟩:∃ds,ds=(rs.take m).flatten:=⟨_,rfl⟩
    have k3':∀u∈rs.take m,u.length=1:=fun u hu=>k3 u (bd hu)
    have hl:ds.length=m:=by rw[hds,B6 k3'];simp;omega
    have hone:∀v∈ds,v.oneCell'=true:=fun v hv=>by
     rw[hds] at hv
     obtain⟨u,hu',hv⟩:=List.mem_flatten.1 hv
     exact k4 u (bd hu') v hv
    obtain⟨u,cur,q1,q2,q3,q4,q5⟩:=Zb0 hL.has (off:=off) hr0 hs0 hlt (ds:=ds) (by omega) hone
    have hpd:PW (VRep I) (new.take m).flatten ds:=by
     rw[hds]
     refine Sw (by simp[k1]) fun i r u h1 h2=>?_
     rw[bi] at h1 h2
     split at h1
     ·next hlt=>rw[db hlt] at h2;exact k2 i r u h1 h2
     ·cases h1
    have hrow:PW (VRep I) (rows[i].take off++(new.take m).flatten++rows[i].drop (off+m)) (u.take off++ds++u.drop (off+ds.length)):=by
     rw[hl]
     have p1:=q2.part 0 off
     have p2:=q2.part (off+m) sz
     rw[List.drop_zero,List.drop_zero] at p1
     have e1:rows[i].length=sz:=by rw[q2.1,q1]
     rw[ao (by rw[ba];omega),ao (by rw[ba];omega)] at p2
     exact(p1.append hpd).append p2
    have hl2:=q5 _ hrow
    have hk2:=hk rows[i] (by simp)
    have hr3:(Builtin.copy_ #[ty,ty'] o.type #[a.eval x,.slice A new.length c]).run P w=.ok (.int .i64 (m:Nat)) (w.setRow b (cur.toList.take (i * sz+off)++ds++cur.toList.drop (i * sz+off+ds.length)).toArray):=by
     rw[hx]
     cases A with
     | none =>
      have h0:=(hA rfl).1
      have hm0:m=0:=by omega
      subst hm0
      have hd0:ds=[]:=al hl
      have hsf:w.setRow b (cur.toList.take (i * sz+off)++ds++cur.toList.drop (i * sz+off+ds.length)).toArray=w:=by
       subst hd0
       have e1:(cur.toList.take (i * sz+off)++[]++cur.toList.drop (i * sz+off+0)).toArray=cur:=by
        simp
       rw[show([]:List Value).length=0 from rfl,e1]
       unfold World.setRow
       refine congrArg (fun h=>({w with heap:=h}:World)) (?_:_=w.heap)
       apply Array.ext
       ·simp
       ·intro j h1 h2
        rw[Array.getElem_modify]
        split
        ·next e =>
         subst e
         have:=(bo.1 q3).2
         rw[this]
        ·rfl
      rw[hsf]
      refine run_copy_none (P:=P) w ty ty' o.type e (some ⟨b,i * sz+off,none⟩) none len cap new.length c hu hs ?_
      rw[h0]
      exact Nat.zero_min _
     | some ad =>
      have hsub:∀j x,ds[j]?=some x→rs.flatten[j]?=some x:=fun j x hx=>by
       rw[hds] at hx
       obtain⟨i,q,u,rfl,hq,hu',hx'⟩:=O1 k3' hx
       exact D1 k3 (by rw[bi] at hu';(split at hu'<;>first | exact hu' | cases hu')) hx'
      have hrun:=run_copy_row (P:=P) w ty ty' o.type e b (i * sz+off) len cap ad new.length c cur e' ds hu hs q3 (by rw[hl,hm]) (fun j v hv=>k5 ad rfl j v (hsub j v hv)) q4 hone
      rw[hl] at hrun⊢
      exact hrun
    exact fin hK hL ha hd (hrun hr3) hl2 (.of_v (.v _)) hk2
   ·exact hk.elim
  ·exact hk.elim
 | _=>exact hk.elim
end
theorem La:∀(rs:List R) (j i:Nat),look i (B7 rs j)=if j≤i then rs[i - j]? else none
 | [],j,i=>by simp[B7,look]
 | r::rs,j,i=>by
  rw[B7,A3,La rs (j+1) i]
  by_cases h:i=j
  ·subst h;simp
  ·by_cases h2:j≤i
   ·obtain⟨d,rfl⟩:=Nat.exists_eq_add_of_le h2
    cases d with
    | zero=>simp at h
    | succ d =>
     rw[da h,db (by omega),db h2,show j+(d+1) - (j+1)=d by omega,show j+(d+1) - j=d+1 by omega]
     simp
   ·rw[da h,da h2,da (by omega)]
theorem Af (rs:List R)(i:Nat):look i (B7 rs 0)=rs[i]?:=by rw[La];simp
def B8 (ks:List Nat)(n i:Nat):Nat:=match ks[i]? with
 | some k=>k
 | none=>n+(i - ks.length)
theorem Dq (n i:Nat):B8 [] n i=n+i:=by simp[B8]
theorem Ia (k:Nat)(ks:List Nat)(n i:Nat):B8 (k::ks) n (i+1)=B8 ks n i:=by
 unfold B8
 simp only[List.getElem?_cons_succ,List.length_cons]
 cases ks[i]? with
 | some k=>rfl
 | none=>simp only;congr 1;omega
theorem Le:∀(ks:List Nat) (n:Nat) (rs:List R) (j i:Nat),look i (Rj ks n rs j)=if j≤i∧i - j < rs.length then some (B8 ks n (i - j)) else none
 | [],n,[],j,i=>by simp[Rj,look]
 | k::ks,n,[],j,i=>by simp[Rj,look]
 | k::ks,n,r::rs,j,i=>by
  rw[Rj,A3,Le ks n rs (j+1) i]
  by_cases h:i=j
  ·subst h;simp[B8]
  ·by_cases h2:j+1≤i∧i - (j+1) < rs.length
   ·rw[da h,db h2,db ⟨by omega,by simp;omega⟩,show i - j=i - (j+1)+1 by omega,Ia]
   ·rw[da h,da h2,da (fun h3=>h2 ⟨by omega,by simp at h3;omega⟩)]
 | [],n,r::rs,j,i=>by
  rw[Rj,A3,Le [] (n+1) rs (j+1) i]
  by_cases h:i=j
  ·subst h;simp[B8]
  ·by_cases h2:j+1≤i∧i - (j+1) < rs.length
   ·rw[da h,db h2,db ⟨by omega,by simp;omega⟩,Dq,Dq];congr 1;omega
   ·rw[da h,da h2,da (fun h3=>h2 ⟨by omega,by simp at h3;omega⟩)]
def O9 (m:List (Nat × Nat)):List R→List Nat→Os→Nat→Os
 | [],_,own,_=>own
 | r::rs,k::ks,own,n=>O9 m rs ks ((k,Hs m r)::own) n
 | r::rs,[],own,n=>O9 m rs [] ((n,Hs m r)::own) (n+1)
theorem Wv {m:List (Nat × Nat)}{g:G}(h:Bm g=true):K7 m g=g:=by cases g<;>first | rfl | cases h
theorem Zk {m:List (Nat × Nat)}{l:List G}(h:Av Bm l=true):l.map (K7 m)=l:=by
 induction l with
 | nil=>rfl
 | cons g l ih =>
  have h1:=Ac h g (by simp)
  have h2:Av Bm l=true:=by
   unfold Av at h
   rw[h1] at h
   exact h
  rw[cj,Wv h1,ih h2]
theorem Jr {m:List (Nat × Nat)}{r:R}(h:J3 r=true):Hs m r=r:=by
 cases r with
 | blk cs t=>simp only[Hs,Zk (show Av Bm cs=true from h)]
 | lnk j=>cases h
 | adr j b=>cases h
 | _=>rfl
theorem Jk {m:List (Nat × Nat)}{g:G}(h:Gy g=true):Z3t m g=g:=by
 cases g with
 | oag l=>simp only[Z3t,Zk (show Av Bm l=true from h)]
 | clo f a c=>cases h
 | tup l=>cases h
 | ptr k o=>cases h
 | osl k=>cases h
 | osv k a b c=>cases h
 | oel k a b c=>cases h
 | orv k a b c d e=>cases h
 | mp k=>cases h
 | _=>rfl
theorem Ju {m:List (Nat × Nat)}{g:G}(h:Ki g=true):Pj m g=g:=by
 cases g with
 | tup l =>
  have key:∀l:List G,Av Gy l=true→l.map (Z3t m)=l:=fun l h=>by
   induction l with
   | nil=>rfl
   | cons g l ih =>
    have h1:=Ac h g (by simp)
    have h2:Av Gy l=true:=by
     unfold Av at h
     rw[h1] at h
     exact h
    rw[cj,Jk h1,ih h2]
  simp only[Pj,key l h]
 | v x=>exact Jk (m:=m) (g:=.v x) h
 | oag l=>exact Jk (m:=m) (g:=.oag l) h
 | clo f a c=>cases h
 | ptr k o=>cases h
 | osl k=>cases h
 | osv k a b c=>cases h
 | oel k a b c=>cases h
 | orv k a b c d e=>cases h
 | mp k=>cases h
 | _=>rfl
theorem Ku {m:List (Nat × Nat)}{K:Os→Nat→Prop}:∀{rs:List R} {ks:List Nat} {own:Os} {n:Nat},Kn m rs ks own n K→K (O9 m rs ks own n) (n+(rs.length - ks.length))
 | [],ks,own,n,h=>by simpa [Kn,O9] using h
 | r::rs,k::ks,own,n,h=>by
  have h2:Kn m rs ks ((k,Hs m r)::own) n K:=by
   unfold Kn at h
   split at h
   ·next e=>rw[Jr e];exact h
   ·exact h
  have:=Ku h2
  simpa [O9] using this
 | r::rs,[],own,n,h=>by
  have h2:Kn m rs [] ((n,Hs m r)::own) (n+1) K:=by
   unfold Kn at h
   split at h
   ·next e=>rw[Jr e];exact h
   ·exact h
  have:=Ku h2
  simp only[List.length_nil,Nat.sub_zero] at this
  simpa [O9,Nat.add_assoc,Nat.add_comm 1] using this
theorem Zb1 {ks:List Nat}{own:Os}{n:Nat}{g:G}{rs:List R}{K:G→Os→Nat→Prop}(h:Z60 ks own n g rs K):K (Pj (Rj ks n rs 0) g) (O9 (Rj ks n rs 0) rs ks own n) (n+(rs.length - ks.length)):=by
 unfold Z60 at h
 split at h
 ·next e=>rw[Ju e];exact Ku (K:=fun own n=>K g own n) h
 ·exact Ku (K:=fun own' n'=>K (Pj (Rj ks n rs 0) g) own' n') h
theorem Co {m:List (Nat × Nat)}:∀{rs:List R} {ks:List Nat} {own:Os} {n k:Nat} {r:R},look k (O9 m rs ks own n)=some r →
  (∃i r0,B8 ks n i=k∧rs[i]?=some r0∧r=Hs m r0)∨((∀i,i < rs.length→B8 ks n i≠k)∧look k own=some r)
 | [],ks,own,n,k,r,h=>.inr ⟨fun i hi=>by simp at hi,h⟩
 | r0::rs,k0::ks,own,n,k,r,h=>by
  rcases Co (rs:=rs) (ks:=ks) (own:=(k0,Hs m r0)::own) (n:=n) h with⟨i,r1,h1,h2,h3⟩ | ⟨h1,h2⟩
  ·exact .inl ⟨i+1,r1,by rw[Ia];exact h1,by simpa using h2,h3⟩
  ·rw[A3] at h2
   split at h2
   ·next e=>cases h2;exact .inl ⟨0,r0,by simp[B8,e],rfl,rfl⟩
   ·next e=>exact .inr ⟨fun i hi=>by
     cases i with
     | zero=>simp[B8];exact fun e'=>e e'.symm
     | succ i=>rw[Ia];exact h1 i (by simpa using hi),h2⟩
 | r0::rs,[],own,n,k,r,h=>by
  rcases Co (rs:=rs) (ks:=[]) (own:=(n,Hs m r0)::own) (n:=n+1) h with⟨i,r1,h1,h2,h3⟩ | ⟨h1,h2⟩
  ·exact .inl ⟨i+1,r1,by rw[Dq] at h1⊢;omega,by simpa using h2,h3⟩
  ·rw[A3] at h2
   split at h2
   ·next e=>cases h2;exact .inl ⟨0,r0,by rw[Dq];omega,rfl,rfl⟩
   ·next e=>exact .inr ⟨fun i hi=>by
     cases i with
     | zero=>rw[Dq];exact fun e'=>e (by omega)
     | succ i =>
      have:=h1 i (by simpa using hi)
      rw[Dq] at this⊢
      omega,h2⟩
section
variable {I I':Imm} {V V1 V':Va} {w w':World} {own:Os} {k n:Nat} {g:G} {x:Value} {r:R} {ks:List Nat} {rs:List R}
theorem VRep.cr (h:VRep I g x):CRep I V g x:=.of_v h
def Va.lend (V:Va)(ks:List Nat):Va:=⟨ks.length,fun i=>V.b (B8 ks 0 i),fun i=>V.s (B8 ks 0 i),fun i=>V.f (B8 ks 0 i)⟩
theorem Jo (hn:Bm g=true)(h:CRep I V g x):CRep I V' g x:=by
 cases g with
 | ptr k o=>cases hn
 | osl k=>cases hn
 | osv k a b c=>cases hn
 | oel k a b c=>cases hn
 | orv k a b c d e=>cases hn
 | mp k=>cases hn
 | _=>exact h
theorem Ug {cs:List G}{us:List Value}(hn:Av Bm cs=true)(h:PW (CRep I V) cs us):PW (CRep I V') cs us:=⟨h.1,fun j g u hg hu=>Jo (Ac hn g (ae hg)) (h.2 j g u hg hu)⟩
theorem RRep.lend (hn:J3 r=true)(h:RRep I V k w r){j:Nat}(hb:V'.b j=V.b k)(hs:V'.s j=V.s k)(hf:V'.f j=V.f k):RRep I V' j w r:=by
 cases r with
 | blk cs t =>
  obtain⟨h1,us,h2,h3⟩:=h
  exact⟨fun b=>by rw[hf,hb];exact h1 b,us,by rw[hb];exact h2,Ug hn h3⟩
 | slc rows e sz =>
  obtain⟨h1,h2⟩:=h
  exact⟨fun b=>by rw[hf,hs];exact h1 b,by rw[hs];exact h2⟩
 | vw rows e sz =>
  obtain⟨h1,h2⟩:=h
  exact⟨fun b=>by rw[hf,hs];exact h1 b,by rw[hs];exact h2⟩
 | froz rows sz=>exact⟨fun b=>by rw[hf];exact h.1 b,by rw[hs];exact h.2.1,h.2.2⟩
 | gone=>exact fun b=>by rw[hf];exact h b
 | mpI l=>exact⟨fun b=>by rw[hf,hb];exact h.1 b,by rw[hb];exact h.2⟩
 | mpS l=>exact⟨fun b=>by rw[hf,hb];exact h.1 b,by rw[hb];exact h.2⟩
 | sit s pos=>exact⟨fun b=>by rw[hf,hb];exact h.1 b,by rw[hb];exact h.2⟩
 | mpX l m ob=>exact⟨fun b=>by rw[hf,hb];exact h.1 b,by rw[hb];exact h.2⟩
 | mit i l D last m ob=>exact⟨fun b=>by rw[hf,hb];exact h.1 b,by rw[hb];exact h.2⟩
 | abs p=>exact⟨h.1,by rw[hf,hb];exact h.2⟩
 | lnk j=>cases hn
 | adr j b=>cases hn
 | fam ps=>exact⟨h.1,by rw[hf];exact h.2⟩
theorem B3 {i:Nat}(h:ks[i]?=some k):B8 ks n i=k:=by simp[B8,h]
def Va.back (V:Va)(ks:List Nat)(V1:Va):Va:=⟨V.n+(V1.n - ks.length),fun k=>if k < V.n then V.b k else V1.b (ks.length+(k - V.n)),fun k=>if k < V.n then V.s k else V1.s (ks.length+(k - V.n)),fun k b=>(∃i,i < V1.n∧B8 ks V.n i=k∧V1.f i b)∨((∀i,i < V1.n→B8 ks V.n i≠k)∧V.f k b)⟩
theorem X0 (hd:ks.Nodup)(hn:∀k∈ks,k < n){i j:Nat}(h:B8 ks n i=B8 ks n j):i=j:=by
 unfold B8 at h
 cases hi:ks[i]? with
 | some k =>
  cases hj:ks[j]? with
  | some k' =>
   rw[hi,hj] at h
   dsimp only at h
   subst h
   exact(List.getElem?_inj (ac.1 hi).1 hd).1 (by rw[hi,hj])
  | none =>
   rw[hi,hj] at h
   have:=hn k (ae hi)
   dsimp only at h
   omega
 | none =>
  have hi2:=List.getElem?_eq_none_iff.1 hi
  cases hj:ks[j]? with
  | some k' =>
   rw[hi,hj] at h
   have:=hn k' (ae hj)
   dsimp only at h
   omega
  | none =>
   have hj2:=List.getElem?_eq_none_iff.1 hj
   rw[hi,hj] at h
   dsimp only at h
   omega
theorem D4 {m:List (Nat × Nat)}{out:Nat→Nat}(hm:∀i,i < V1.n→(look i m).getD i=out i∧out i < V'.n∧V'.b (out i)=V1.b i∧V'.s (out i)=V1.s i)(h:CRep I V1 g x):CRep I V' (K7 m g) x:=by
 cases g with
 | ptr k o=>obtain⟨h1,h2,h3,-⟩:=hm k h.1;exact⟨by rw[h1];exact h2,by rw[h1,h3];exact h.2⟩
 | osl k=>obtain⟨h1,h2,-,h3⟩:=hm k h.1;exact⟨by rw[h1];exact h2,by rw[h1,h3];exact h.2⟩
 | osv k sz lo hi=>obtain⟨h1,h2,-,h3⟩:=hm k h.1;exact⟨by rw[h1];exact h2,by rw[h1,h3];exact h.2⟩
 | mp k=>obtain⟨h1,h2,h3,-⟩:=hm k h.1;exact⟨by rw[h1];exact h2,by rw[h1,h3];exact h.2⟩
 | _=>exact h
theorem Uf {m:List (Nat × Nat)}{out:Nat→Nat}(hm:∀i,i < V1.n→(look i m).getD i=out i∧out i < V'.n∧V'.b (out i)=V1.b i∧V'.s (out i)=V1.s i){l:List G}{us:List Value}(h:PW (CRep I V1) l us):PW (CRep I V') (l.map (K7 m)) us :=
 ⟨by simpa using h.1,fun j g u hg hu=>by
  rw[aj] at hg
  obtain⟨g0,h1,h2⟩:=ax.1 hg
  subst h2
  exact D4 hm (h.2 j g0 u h1 hu)⟩
theorem B5 {m:List (Nat × Nat)}{out:Nat→Nat}(hm:∀i,i < V1.n→(look i m).getD i=out i∧out i < V'.n∧V'.b (out i)=V1.b i∧V'.s (out i)=V1.s i)(h:TRep1 I V1 g x):TRep1 I V' (Z3t m g) x:=by
 cases g with
 | oag l =>
  obtain⟨cs,e,h⟩:=h
  exact⟨cs,e,Uf hm h⟩
 | clo f a c =>
  obtain⟨h0,us,cs,e,h1,h2⟩:=h
  refine⟨?_,us,cs,e,Uf hm h1,Uf hm h2⟩
  obtain⟨g,hg,hk⟩:=h0
  have hk2:Bm (K7 m g)=false:=by cases g<;>first | rfl | cases hk
  exact⟨K7 m g,hg.imp (fun h=>az.2 ⟨g,h,rfl⟩) (fun h=>az.2 ⟨g,h,rfl⟩),hk2⟩
 | oel k i sz off =>
  obtain⟨hk,h⟩:=h
  obtain⟨h1,h2,-,h3⟩:=hm k hk
  exact⟨by rw[h1];exact h2,by rw[h1,h3];exact h⟩
 | orv k i sz off len cap =>
  obtain⟨hk,b,q,ho,h⟩:=h
  obtain⟨h1,h2,h4,h3⟩:=hm k hk
  exact⟨by rw[h1];exact h2,b,q,ho.of (by rw[h1];exact h4) (by rw[h1];exact h3),h⟩
 | elp row off=>exact h
 | tup l=>exact h.elim
 | ptr k o=>exact D4 (I:=I) (m:=m) (g:=.ptr k o) hm h
 | osl k=>exact D4 (I:=I) (m:=m) (g:=.osl k) hm h
 | osv k a b c=>exact D4 (I:=I) (m:=m) (g:=.osv k a b c) hm h
 | mp k=>exact D4 (I:=I) (m:=m) (g:=.mp k) hm h
 | v y=>exact D4 (I:=I) (m:=m) (g:=.v y) hm h
 | tt=>exact D4 (I:=I) (m:=m) (g:=.tt) hm h
 | ff=>exact D4 (I:=I) (m:=m) (g:=.ff) hm h
 | un=>exact D4 (I:=I) (m:=m) (g:=.un) hm h
 | nl=>exact D4 (I:=I) (m:=m) (g:=.nl) hm h
 | agg l=>exact D4 (I:=I) (m:=m) (g:=.agg l) hm h
 | sl l=>exact D4 (I:=I) (m:=m) (g:=.sl l) hm h
theorem Z5j {m:List (Nat × Nat)}{out:Nat→Nat}(hm:∀i,i < V1.n→(look i m).getD i=out i∧out i < V'.n∧V'.b (out i)=V1.b i∧V'.s (out i)=V1.s i)(h:TRep I V1 g x):TRep I V' (Pj m g) x:=by
 cases g with
 | tup l =>
  obtain⟨cs,e,h⟩:=h
  exact⟨cs,e,by simpa using h.1,fun j g u hg hu=>by
   rw[aj] at hg
   obtain⟨g0,h1,h2⟩:=ax.1 hg
   subst h2
   exact B5 hm (h.2 j g0 u h1 hu)⟩
 | oag l=>exact .of_1 (B5 (I:=I) (m:=m) (g:=.oag l) hm h)
 | clo f a c=>exact .of_1 (B5 (I:=I) (m:=m) (g:=.clo f a c) hm h)
 | oel k i sz off=>exact .of_1 (B5 (I:=I) (m:=m) (g:=.oel k i sz off) hm h)
 | orv k i sz off l c=>exact .of_1 (B5 (I:=I) (m:=m) (g:=.orv k i sz off l c) hm h)
 | elp row off=>exact .of_1 (B5 (I:=I) (m:=m) (g:=.elp row off) hm h)
 | ptr k o=>exact .of_1 (B5 (I:=I) (m:=m) (g:=.ptr k o) hm h)
 | osl k=>exact .of_1 (B5 (I:=I) (m:=m) (g:=.osl k) hm h)
 | osv k a b c=>exact .of_1 (B5 (I:=I) (m:=m) (g:=.osv k a b c) hm h)
 | mp k=>exact .of_1 (B5 (I:=I) (m:=m) (g:=.mp k) hm h)
 | v y=>exact .of_1 (B5 (I:=I) (m:=m) (g:=.v y) hm h)
 | tt=>exact .of_1 (B5 (I:=I) (m:=m) (g:=.tt) hm h)
 | ff=>exact .of_1 (B5 (I:=I) (m:=m) (g:=.ff) hm h)
 | un=>exact .of_1 (B5 (I:=I) (m:=m) (g:=.un) hm h)
 | nl=>exact .of_1 (B5 (I:=I) (m:=m) (g:=.nl) hm h)
 | agg l=>exact .of_1 (B5 (I:=I) (m:=m) (g:=.agg l) hm h)
 | sl l=>exact .of_1 (B5 (I:=I) (m:=m) (g:=.sl l) hm h)
theorem Xv (hH:Has I V own w)(hd:ks.Nodup)(hl:rs.length=ks.length)(hr:∀(i k:Nat),ks[i]?=some k→∃r r',rs[i]?=some r'∧look k own=some r)
  {rs':List R} (hn:V1.n=rs'.length) (h1:Has I' V1 (B7 rs' 0) w') (hF:Fro (B7 rs 0) I (V.lend ks) w (B7 rs' 0) I' V1 w') (hV:(V.lend ks).le V1) :
  Later own I V w (O9 (Rj ks V.n rs' 0) rs' ks own V.n) I' (V.back ks V1) w'∧∀g x,TRep I' V1 g x→TRep I' (V.back ks V1) (Pj (Rj ks V.n rs' 0) g) x:=by
 have hkn:∀k∈ks,k < V.n:=fun k hk=>by
  obtain⟨i,hi,e⟩:=cf.1 hk
  obtain⟨r,-,-,h2⟩:=hr i k (by rw[ab hi,e])
  exact hH.num k r h2
 have hge:ks.length≤rs'.length:=by rw[←hn];exact hV.1
 have hout:∀i,i < V1.n→(look i (Rj ks V.n rs' 0)).getD i=B8 ks V.n i∧B8 ks V.n i < (V.back ks V1).n∧(V.back ks V1).b (B8 ks V.n i)=V1.b i∧(V.back ks V1).s (B8 ks V.n i)=V1.s i:=fun i hi=>by
  refine⟨by rw[Le,db ⟨by omega,by omega⟩];simp,?_⟩
  cases hk:ks[i]? with
  | some k =>
   have hlt:=hkn k (ae hk)
   have hi':=(ac.1 hk).1
   have h2:=hV.2 i hi'
   rw[B3 hk]
   refine⟨by show k < V.n+_;omega,?_,?_⟩
   ·show(if k < V.n then V.b k else _)=_
    rw[db hlt,h2.1];simp[Va.lend,B3 hk]
   ·show(if k < V.n then V.s k else _)=_
    rw[db hlt,h2.2];simp[Va.lend,B3 hk]
  | none =>
   have hi2:=List.getElem?_eq_none_iff.1 hk
   have e:B8 ks V.n i=V.n+(i - ks.length):=by simp[B8,hk]
   rw[e]
   have e2:ks.length+(V.n+(i - ks.length) - V.n)=i:=by omega
   refine⟨by show _ < V.n+_;omega,?_,?_⟩
   ·show(if _ < V.n then _ else _)=_
    rw[da (by omega),e2]
   ·show(if _ < V.n then _ else _)=_
    rw[da (by omega),e2]
 have hfo:∀i,i < V1.n→(V.back ks V1).f (B8 ks V.n i)=V1.f i:=fun i hi=>by
  funext b
  apply propext
  constructor
  ·rintro(⟨j,hj,e,hf⟩ | ⟨h,-⟩)
   ·have:=X0 hd hkn e
    subst this
    exact hf
   ·exact dc rfl (h i hi)
  ·exact fun hf=>.inl ⟨i,hi,rfl,hf⟩
 have hfk:∀k,(∀i,i < V1.n→B8 ks V.n i≠k)→(V.back ks V1).f k=V.f k:=fun k hk=>by
  funext b
  apply propext
  constructor
  ·rintro(⟨j,hj,e,-⟩ | ⟨-,hf⟩)
   ·exact dc e (hk j hj)
   ·exact hf
  ·exact fun hf=>.inr ⟨hk,hf⟩
 have hle:V.le (V.back ks V1):=⟨Nat.le_add_right _ _,fun k hk=>⟨db hk,db hk⟩⟩
 have lent:∀j r b,look j (B7 rs 0)=some r→(V.lend ks).f j b→∃k r,ks[j]?=some k∧look k own=some r∧V.f k b:=fun j r b h hf=>by
  rw[Af] at h
  have hj:=(ac.1 h).1
  have hj':j < ks.length:=by omega
  obtain⟨r0,r',k1,k2⟩:=hr j ks[j] (ab hj')
  refine⟨_,r0,ab hj',k2,?_⟩
  have:=B3 (n:=0) (ab hj':ks[j]?=some ks[j])
  simpa [Va.lend,this] using hf
 have hnl:∀k r,look k own=some r→(∀i,i < V1.n→B8 ks V.n i≠k)→∀b,V.f k b→∀j r',look j (B7 rs 0)=some r'→¬(V.lend ks).f j b:=fun k r hk hno b hb j r' hj hf=>by
  obtain⟨k',r2,h2,h3,h4⟩:=lent j r' b hj hf
  have:=hH.disj k k' r r2 b hk h3 hb h4
  subst this
  have hj':=(ac.1 h2).1
  exact hno j (by omega) (B3 h2)
 have hnot:∀k,(∀i,i < rs'.length→B8 ks V.n i≠k)→∀i,i < V1.n→B8 ks V.n i≠k:=fun k h i hi=>h i (by omega)
 refine⟨⟨⟨h1.mem,fun k r hk=>?_,fun k r hk=>?_,fun k r b hk hb=>?_,fun k k' r r' b hk hk' hb hb'=>?_⟩,⟨hF.os,hF.tape,hF.output,hF.size,fun b hb hn=>hF.blk b hb fun j r hj hf=>?_,hF.mono,fun k r b hk hb hlt=>?_⟩,hle⟩,fun g x h=>Z5j hout h⟩
 ·rcases Co hk with⟨i,r0,e,h2,-⟩ | ⟨h2,h3⟩
  ·have hi:=(ac.1 h2).1
   rw[←e]
   exact(hout i (by omega)).2.1
  ·exact ap (hH.num k r h3) hle.1
 ·rcases Co hk with⟨i,r0,e,h2,rfl⟩ | ⟨h2,h3⟩
  ·have hi:=(ac.1 h2).1
   have hi':i < V1.n:=by omega
   have hr0:=h1.each i r0 (by rw[Af];exact h2)
   obtain⟨-,o1,o2,o3⟩:=hout i hi'
   have o4:=hfo i hi'
   rw[←e]
   cases r0 with
   | blk cs t =>
    obtain⟨q1,us,q2,q3⟩:=hr0
    exact⟨fun b=>by rw[o4,o2];exact q1 b,us,by rw[o2];exact q2,Uf hout q3⟩
   | slc rows ty sz=>exact⟨fun b=>by rw[o4,o3];exact hr0.1 b,by rw[o3];exact hr0.2⟩
   | vw rows ty sz=>exact⟨fun b=>by rw[o4,o3];exact hr0.1 b,by rw[o3];exact hr0.2⟩
   | froz rows sz=>exact⟨fun b=>by rw[o4];exact hr0.1 b,by rw[o3];exact hr0.2.1,hr0.2.2⟩
   | gone=>exact fun b=>by rw[o4];exact hr0 b
   | mpI l=>exact⟨fun b=>by rw[o4,o2];exact hr0.1 b,by rw[o2];exact hr0.2⟩
   | mpS l=>exact⟨fun b=>by rw[o4,o2];exact hr0.1 b,by rw[o2];exact hr0.2⟩
   | sit s pos=>exact⟨fun b=>by rw[o4,o2];exact hr0.1 b,by rw[o2];exact hr0.2⟩
   | mpX l m ob=>exact⟨fun b=>by rw[o4,o2];exact hr0.1 b,by rw[o2];exact hr0.2⟩
   | mit j l D last m ob=>exact⟨fun b=>by rw[o4,o2];exact hr0.1 b,by rw[o2];exact hr0.2⟩
   | abs p=>exact⟨hr0.1,by rw[o4,o2];exact hr0.2⟩
   | lnk j =>
    obtain⟨q1,q2,m0,q3⟩:=hr0
    obtain⟨u1,u2,-,u4⟩:=hout j q2
    exact⟨fun b=>by rw[o4];exact q1 b,by rw[u1];exact u2,m0,by rw[u1,u4,o2];exact q3⟩
   | adr j b =>
    obtain⟨q1,q2,q3⟩:=hr0
    obtain⟨u1,u2,u3,-⟩:=hout j q2
    exact⟨fun b=>by rw[o4];exact q1 b,by rw[u1];exact u2,by rw[u1,u3];exact q3⟩
   | fam ps=>exact⟨hr0.1,by rw[o4];exact hr0.2⟩
  ·exact(hH.each k r h3).keep hF.mono hle (hH.num k r h3) (hfk k (hnot k h2)) hF.os hF.size fun b hb=>(hF.blk b (hH.foot k r b h3 hb).1 (hnl k r h3 (hnot k h2) b hb)).1
 ·rcases Co hk with⟨i,r0,e,h2,rfl⟩ | ⟨h2,h3⟩
  ·have hi:=(ac.1 h2).1
   rw[←e,hfo i (by omega)] at hb
   exact h1.foot i r0 b (by rw[Af];exact h2) hb
  ·rw[hfk k (hnot k h2)] at hb
   have h4:=hH.foot k r b h3 hb
   exact⟨ap h4.1 hF.size,fun o=>((hF.blk b h4.1 (hnl k r h3 (hnot k h2) b hb)).2 o).trans (h4.2 o)⟩
 ·have cross:∀i r0 k r,i < V1.n→rs'[i]?=some r0→V1.f i b→look k own=some r→(∀i,i < V1.n→B8 ks V.n i≠k)→V.f k b→False:=fun i r0 k r hi h2 hf hk hno hb=>by
   have h4:=(hH.foot k r b hk hb).1
   obtain⟨j,r',hj,hf'⟩:=hF.foot i r0 b (by rw[Af];exact h2) hf h4
   exact hnl k r hk hno b hb j r' hj hf'
  rcases Co hk with⟨i,r0,e,h2,-⟩ | ⟨h2,h3⟩
  ·have hi:=(ac.1 h2).1
   rw[←e,hfo i (by omega)] at hb
   rcases Co hk' with⟨i',r0',e',h2',-⟩ | ⟨h2',h3'⟩
   ·have hi':=(ac.1 h2').1
    rw[←e',hfo i' (by omega)] at hb'
    rw[←e,←e',h1.disj i i' r0 r0' b (by rw[Af];exact h2) (by rw[Af];exact h2') hb hb']
   ·rw[hfk k' (hnot k' h2')] at hb'
    exact(cross i r0 k' r' (by omega) h2 hb h3' (hnot k' h2') hb').elim
  ·rw[hfk k (hnot k h2)] at hb
   rcases Co hk' with⟨i',r0',e',h2',-⟩ | ⟨h2',h3'⟩
   ·have hi':=(ac.1 h2').1
    rw[←e',hfo i' (by omega)] at hb'
    exact(cross i' r0' k r (by omega) h2' hb' h3 (hnot k h2) hb).elim
   ·rw[hfk k' (hnot k' h2')] at hb'
    exact hH.disj k k' r r' b h3 h3' hb hb'
 ·obtain⟨k,r2,-,h3,h4⟩:=lent j r b hj hf
  exact hn k r2 h3 h4
 ·rcases Co hk with⟨i,r0,e,h2,-⟩ | ⟨h2,h3⟩
  ·have hi:=(ac.1 h2).1
   rw[←e,hfo i (by omega)] at hb
   obtain⟨j,r',hj,hf⟩:=hF.foot i r0 b (by rw[Af];exact h2) hb hlt
   obtain⟨k',r2,-,h4,h5⟩:=lent j r' b hj hf
   exact⟨k',r2,h4,h5⟩
  ·rw[hfk k (hnot k h2)] at hb
   exact⟨k,r,h3,hb⟩
end
def ren (m:List (Nat × Nat))(k:Nat):Nat:=(look k m).getD k
def Va.ren (V:Va)(m:List (Nat × Nat))(n:Nat):Va:=⟨n,fun k=>V.b (Go.Proofs.YtihfaocdpmmooaaGreat.ren m k),fun k=>V.s (Go.Proofs.YtihfaocdpmmooaaGreat.ren m k),fun k=>V.f (Go.Proofs.YtihfaocdpmmooaaGreat.ren m k)⟩
theorem Pm:∀{l:List Nat} {k:Nat},Fz k l=true↔k∈l
 | [],k=>by simp[Fz]
 | j::l,k=>by
  unfold Fz
  have ih:=Pm (l:=l) (k:=k)
  by_cases h:k=j
  ·subst h;simp[Nat.beq_refl]
  ·have h2:Nat.beq k j=false:=by
    cases hb:Nat.beq k j with
    | false=>rfl
    | true=>exact dc (ai hb) h
   simp[h2,ih,h]
section
variable {P:Program} {tb:List (Nat × TI)} {N n:Nat} {I I' I0:Imm} {V V' V0 V2:Va} {a:Act} {t t':Ts} {own own' own0:Os} {w w' w0:World} {g:G} {x y:Value} {d:Option Tmp} {m:List (Nat × Nat)} {r:R}
theorem Z6t (hk:Rf n g=true)(h:CRep I V (K7 m g) x):CRep I (V.ren m n) g x:=by
 cases g with
 | ptr k o=>exact⟨ap (c9 hk) (af _),h.2⟩
 | osl k=>exact⟨ap (c9 hk) (af _),h.2⟩
 | osv k sz lo hi=>exact⟨ap (c9 hk) (af _),h.2⟩
 | mp k=>exact⟨ap (c9 hk) (af _),h.2⟩
 | oel k i s o=>exact h
 | _=>exact h
theorem Zeo {cs:List G}{us:List Value}(hk:Av (Rf n) cs=true)(h:PW (CRep I V) (cs.map (K7 m)) us):PW (CRep I (V.ren m n)) cs us :=
 ⟨by have:=h.1;simpa using this,fun j g u hg hu=>Z6t (Ac hk g (ae hg)) (h.2 j _ u (by rw[aj,hg];rfl) hu)⟩
theorem Y6 (hlt:∀j,j < n→ren m j < V.n)(h:CRep I (V.ren m n) g x):CRep I V (K7 m g) x:=by
 cases g with
 | ptr k o=>exact⟨hlt k h.1,h.2⟩
 | osl k=>exact⟨hlt k h.1,h.2⟩
 | osv k sz lo hi=>exact⟨hlt k h.1,h.2⟩
 | mp k=>exact⟨hlt k h.1,h.2⟩
 | oel k i s o=>exact h
 | _=>exact h
theorem Z6d {cs:List G}{us:List Value}(hlt:∀j,j < n→ren m j < V.n)(h:PW (CRep I (V.ren m n)) cs us):PW (CRep I V) (cs.map (K7 m)) us :=
 ⟨by have:=h.1;simpa using this,fun j g u hg hu=>by
  rw[aj] at hg
  obtain⟨g0,h1,rfl⟩:=ax.1 hg
  exact Y6 hlt (h.2 j g0 u h1 hu)⟩
theorem Vn {m:List (Nat × Nat)}{k:Nat}(hk:X2 n r=true)(h:RRep I V (ren m k) w (Hs m r)):RRep I (V.ren m n) k w r:=by
 cases r with
 | blk cs ty =>
  obtain⟨q1,us,q2,q3⟩:=h
  exact⟨q1,us,q2,Zeo hk q3⟩
 | lnk j=>cases hk
 | adr j b =>
  obtain⟨q1,q2,q3⟩:=h
  exact⟨q1,c9 hk,q3⟩
 | _=>exact h
theorem Xw {m:List (Nat × Nat)}{k:Nat}(hlt:∀j,j < n→ren m j < V.n)(h:RRep I (V.ren m n) k w r):RRep I V (ren m k) w (Hs m r):=by
 cases r with
 | blk cs ty =>
  obtain⟨q1,us,q2,q3⟩:=h
  exact⟨q1,us,q2,Z6d hlt q3⟩
 | lnk j =>
  obtain⟨q1,q2,q3⟩:=h
  exact⟨q1,hlt j q2,q3⟩
 | adr j b =>
  obtain⟨q1,q2,q3⟩:=h
  exact⟨q1,hlt j q2,q3⟩
 | _=>exact h
theorem Cd:∀{T:Os},leI m own n T→∀{i r},look i T=some r→i < n∧X2 n r=true∧look (ren m i) own=some (Hs m r)
 | [],_,i,g,h=>by cases h
 | (j,g')::T,hT,i,g,h=>by
  rw[A3] at h
  split at h
  ·next e=>subst e;cases h;exact⟨c9 hT.1.1,hT.1.2⟩
  ·exact Cd hT.2 h
theorem M1 {α:Type}{k:Nat}{x:α}:∀{l:List (Nat × α)},look k l=some x→(k,x)∈l
 | [],h=>by cases h
 | (j,y)::l,h=>by
  rw[A3] at h
  split at h
  ·next e=>subst e;cases h;simp
  ·exact List.mem_cons_of_mem _ (M1 h)
theorem Nx:∀{l:Os},Mn (l.map fun p=>ren m p.1)=true→∀{k k' r r'},look k l=some r→look k' l=some r'→ren m k=ren m k'→k=k'
 | [],_,k,k',r,r',h,_,_=>by cases h
 | (j,q)::l,hn,k,k',r,r',h,h',e=>by
  simp only[List.map_cons,Mn] at hn
  cases hm:Fz (ren m j) (l.map fun p=>ren m p.1) with
  | true=>rw[hm] at hn;cases hn
  | false =>
   rw[hm] at hn
   have hno:∀k r,look k l=some r→ren m k≠ren m j:=fun k r hk he=>by
    have:ren m j∈l.map fun p=>ren m p.1:=az.2 ⟨(k,r),M1 hk,he⟩
    rw[Pm.2 this] at hm
    cases hm
   rw[A3] at h h'
   split at h<;>split at h'
   ·next e1 e2=>rw[e1,e2]
   ·next e1 e2=>exact dc (e ▸ e1 ▸ rfl:ren m k'=ren m j) (hno _ _ h')
   ·next e1 e2=>exact dc (e.trans (by rw[e2])) (hno _ _ h)
   ·exact Nx hn h h' e
theorem Z4o (hk:Rf n g=true)(hn:n≤V2.n)(hb:∀j,j < n→V2.b j=V.b j∧V2.s j=V.s j)(h:CRep I V g x):CRep I V2 g x:=by
 cases g with
 | ptr k o=>have:=c9 hk;exact⟨ap this hn,by rw[(hb k this).1];exact h.2⟩
 | mp k=>have:=c9 hk;exact⟨ap this hn,by rw[(hb k this).1];exact h.2⟩
 | osl k=>have:=c9 hk;exact⟨ap this hn,by rw[(hb k this).2];exact h.2⟩
 | osv k a b c=>have:=c9 hk;exact⟨ap this hn,by rw[(hb k this).2];exact h.2⟩
 | _=>exact h
theorem RRep.val (hk:X2 n r=true)(hn:n≤V2.n)(hb:∀j,j < n→V2.b j=V.b j∧V2.s j=V.s j){k:Nat}(hkn:k < n)(hf:V2.f k=V.f k)(h:RRep I V k w r):RRep I V2 k w r:=by
 have h1:=(hb k hkn).1
 have h2:=(hb k hkn).2
 cases r with
 | blk cs t =>
  obtain⟨q1,us,q2,q3⟩:=h
  exact⟨fun b=>by rw[hf,h1];exact q1 b,us,by rw[h1];exact q2,q3.1,fun j g u hg hu=>Z4o (Ac (show Av (Rf n) cs=true from hk) g (ae hg)) hn hb (q3.2 j g u hg hu)⟩
 | slc rows e sz=>exact⟨fun b=>by rw[hf,h2];exact h.1 b,by rw[h2];exact h.2⟩
 | vw rows e sz=>exact⟨fun b=>by rw[hf,h2];exact h.1 b,by rw[h2];exact h.2⟩
 | froz rows sz=>exact⟨fun b=>by rw[hf];exact h.1 b,by rw[h2];exact h.2.1,h.2.2⟩
 | gone=>exact fun b=>by rw[hf];exact h b
 | mpI l=>exact⟨fun b=>by rw[hf,h1];exact h.1 b,by rw[h1];exact h.2⟩
 | mpS l=>exact⟨fun b=>by rw[hf,h1];exact h.1 b,by rw[h1];exact h.2⟩
 | sit s pos=>exact⟨fun b=>by rw[hf,h1];exact h.1 b,by rw[h1];exact h.2⟩
 | mpX l m ob=>exact⟨fun b=>by rw[hf,h1];exact h.1 b,by rw[h1];exact h.2⟩
 | mit j l D last m ob=>exact⟨fun b=>by rw[hf,h1];exact h.1 b,by rw[h1];exact h.2⟩
 | abs p=>exact⟨h.1,by rw[hf,h1];exact h.2⟩
 | lnk j=>cases hk
 | adr j b =>
  have hj:=c9 (show Nat.blt j n=true from hk)
  exact⟨fun c=>by rw[hf];exact h.1 c,ap hj hn,by rw[(hb j hj).1];exact h.2.2⟩
 | fam ps=>exact⟨h.1,by rw[hf];exact h.2⟩
theorem Fn:∀{O:Os},S5 n O=true→∀{k r},look k O=some r→k < n∧X2 n r=true
 | [],_,k,r,h=>by cases h
 | (j,q)::O,hk,k,r,h=>by
  unfold S5 at hk
  split at hk
  ·next h1 h2 =>
   rw[A3] at h
   split at h
   ·next e=>subst e;cases h;exact⟨c9 h1,h2⟩
   ·exact Fn hk h
  ·cases hk
theorem P7:∀(rs:List R) (i n k:Nat),look k (opM i n rs)=if i≤k∧k - i < rs.length then some (n+(k - i)) else none
 | [],i,n,k=>by simp[opM,look]
 | r::rs,i,n,k=>by
  rw[opM,A3,P7 rs (i+1) (n+1) k]
  by_cases h:k=i
  ·subst h;simp
  ·by_cases h2:i+1≤k∧k - (i+1) < rs.length
   ·rw[da h,db h2,db ⟨by omega,by simp;omega⟩];congr 1;omega
   ·rw[da h,da h2,da (fun h3=>h2 ⟨by omega,by simp at h3;omega⟩)]
theorem Zw (O:Os):Loc (cl O):=fun I I' b S w w' ⟨V,h1,h2,h3⟩ hI hos hs hb=>by
 have hbl:∀k r,look k O=some r→∀c,V.f k c→w'.heap[c]?=w.heap[c]?:=fun k r hk c hf=>hb c ((h3 c).2 ⟨k,r,hk,hf⟩)
 exact⟨V,h1,⟨h2.num,fun k r hk=>(h2.each k r hk).keep hI (.refl _) (h2.num k r hk) rfl hos hs (hbl k r hk),fun k r c hk hf=>ap (h2.lt k r c hk hf) hs,h2.disj⟩,h3⟩
theorem Z0j (h:Has I V own w){k:Nat}{p q:List G}{ty e sz:Nat}(hk:look k own=some (.blk (p++.nl::q) ty))(hz:0 < sz):Later own I V w ((k,.blk (p++.osl V.n::q) ty)::(V.n,.slc [] e sz)::own) I (V.push 0 (.slice none 0 0) fun _=>False) w:=by
 have h1:Later own I V w ((V.n,.slc [] e sz)::own) I (V.push 0 (.slice none 0 0) fun _=>False) w:=by
  refine Df h (Below.refl _ _) 0 (.slice none 0 0) (fun _=>False) (fun k h=>h.elim) ⟨?_,[],?_,rfl,?_,by simp,by simp,hz⟩
  ·intro b;simp[Va.push,Value.ownBlock]
  ·simp[Va.push];exact World.ownsRow_nil w 0 e sz
  ·intro i r u hr;simp at hr
 have hkn:=h.num k _ hk
 have hk1:look k ((V.n,R.slc [] e sz)::own)=some (.blk (p++.nl::q) ty):=by rw[A3,da (by omega)];exact hk
 refine h1.trans (Cs h1.has hk1 rfl rfl rfl rfl (fun _ _=>rfl) ?_)
 obtain⟨q1,us,q2,q3⟩:=h1.has.each k _ hk1
 refine⟨q1,us,q2,by have:=q3.1;simpa using this,fun j g u hg hu=>?_⟩
 by_cases hj:j=p.length
 ·subst hj
  rw[be (af _),Nat.sub_self] at hg
  obtain rfl:G.osl V.n=g:=by simpa using hg
  have h3:=q3.2 p.length .nl u (by rw[be (af _),Nat.sub_self];rfl) hu
  cases(show VRep I .nl u from h3)
  exact⟨ct _,by simp[Va.push]⟩
 ·refine q3.2 j g u ?_ hu
  by_cases hlt:j < p.length
  ·rw[bk hlt] at hg⊢;exact hg
  ·rw[be (by omega)] at hg⊢
   obtain⟨i,hi⟩:∃i,j - p.length=i+1:=⟨j - p.length - 1,by omega⟩
   rw[hi] at hg⊢
   simpa using hg
theorem Mt:∀(l:List Nat) (k:Nat),look k (R9 l own)=if k∈l then some .gone else look k own
 | [],k=>by simp[R9]
 | j::l,k=>by
  rw[R9,A3,Mt l k]
  by_cases h:k=j
  ·subst h;simp
  ·simp[h]
theorem Rm (h:Has I V own w){O:Os}(hO:leI m own V.n O)(h0:∃r,look 0 O=some r)(hd:Mn (O.map fun p=>ren m p.1)=true):∃f,Later own I V w ((ren m 0,.abs (cl O))::R9 (O.map fun p=>ren m p.1) own) I ⟨V.n,V.b,V.s,f⟩ w:=by
 have lkO:∀{k r},look k O=some r→ren m k∈O.map fun p=>ren m p.1:=fun {k r} hk=>az.2 ⟨(k,r),M1 hk,rfl⟩
 let F:Nat→Prop:=fun b=>∃k r,look k O=some r∧V.f (ren m k) b
 let f:Nat→Nat→Prop:=fun j=>if j=ren m 0 then F else if j∈O.map (fun p=>ren m p.1) then fun _=>False else V.f j
 have fF:f (ren m 0)=F:=db rfl
 have fG:∀{j},j≠ren m 0→j∈O.map (fun p=>ren m p.1)→f j=fun _=>False:=fun {j} h1 h2=>by show(if _ then _ else _)=_;rw[da h1,db h2]
 have fV:∀{j},j≠ren m 0→j ∉ O.map (fun p=>ren m p.1)→f j=V.f j:=fun {j} h1 h2=>by show(if _ then _ else _)=_;rw[da h1,da h2]
 have lk:∀{j r},look j ((ren m 0,R.abs (cl O))::R9 (O.map fun p=>ren m p.1) own)=some r→(j=ren m 0∧r=.abs (cl O))∨(j≠ren m 0∧j∈O.map (fun p=>ren m p.1)∧r=.gone)∨(j≠ren m 0∧j ∉ O.map (fun p=>ren m p.1)∧look j own=some r):=fun {j r} hj=>by
  rw[A3,Mt] at hj
  split at hj
  ·next e=>cases hj;exact .inl ⟨e,rfl⟩
  ·next e =>
   split at hj
   ·next e2=>cases hj;exact .inr (.inl ⟨e,e2,rfl⟩)
   ·next e2=>exact .inr (.inr ⟨e,e2,hj⟩)
 have inV:∀{j r b},look j ((ren m 0,R.abs (cl O))::R9 (O.map fun p=>ren m p.1) own)=some r→f j b→∃k r',look k own=some r'∧V.f k b∧((j=ren m 0∧∃i r0,look i O=some r0∧k=ren m i)∨(j ∉ O.map (fun p=>ren m p.1)∧k=j)):=fun {j r b} hj hb=>by
  rcases lk hj with⟨e,-⟩ | ⟨e,e2,-⟩ | ⟨e,e2,e3⟩
  ·rw[e,fF] at hb
   obtain⟨k,r0,h1,h2⟩:=hb
   exact⟨_,_,(Cd hO h1).2.2,h2,.inl ⟨e,k,r0,h1,rfl⟩⟩
  ·rw[fG e e2] at hb;exact hb.elim
  ·rw[fV e e2] at hb;exact⟨j,r,e3,hb,.inr ⟨e2,rfl⟩⟩
 obtain⟨r00,h00⟩:=h0
 refine⟨f,⟨h.mem,fun j r hj=>?_,fun j r hj=>?_,fun j r b hj hb=>?_,fun j j' r r' b hj hj' hb hb'=>?_⟩,⟨rfl,rfl,rfl,af _,fun b hb hn=>⟨rfl,fun _=>rfl⟩,fun _ _ _ h=>h,fun j r b hj hb _=>?_⟩,⟨af _,fun k hk=>⟨rfl,rfl⟩⟩⟩
 ·rcases lk hj with⟨e,-⟩ | ⟨-,e2,-⟩ | ⟨-,-,e3⟩
  ·rw[e];exact h.num _ _ (Cd hO h00).2.2
  ·obtain⟨p,hp,e⟩:=az.1 e2
   obtain⟨r',hr'⟩:∃r',look p.1 O=some r':=by
    clear lk inV hO h00 r00 fV fG fF f F lkO hd hj e2 e
    induction O with
    | nil=>cases hp
    | cons q O ih =>
     rw[A3]
     split
     ·exact⟨_,rfl⟩
     ·next hne =>
      rcases bh.1 hp with rfl | hp
      ·exact dc rfl hne
      ·exact ih hp
   rw[←e];exact h.num _ _ (Cd hO hr').2.2
  ·exact h.num _ _ e3
 ·rcases lk hj with⟨e,rfl⟩ | ⟨e,e2,rfl⟩ | ⟨e,e2,e3⟩
  ·rw[e]
   refine⟨Zw O,V.ren m V.n,rfl,⟨fun k r hk=>(Cd hO hk).1,fun k r hk=>Vn (Cd hO hk).2.1 (h.each _ _ (Cd hO hk).2.2),fun k r b hk hf=>(h.foot _ _ b (Cd hO hk).2.2 hf).1,fun k k' r r' b hk hk' hf hf'=>?_⟩,fun c=>?_⟩
   ·exact Nx hd hk hk' (h.disj _ _ _ _ b (Cd hO hk).2.2 (Cd hO hk').2.2 hf hf')
   ·show f (ren m 0) c↔_
    rw[fF];exact Iff.rfl
  ·show ∀b,¬f j b
   rw[fG e e2];exact fun b hb=>hb
  ·exact(h.each j r e3).keep (.refl _) ⟨af _,fun k hk=>⟨rfl,rfl⟩⟩ (h.num j r e3) (fV e e2) rfl (af _) fun _ _=>rfl
 ·obtain⟨k,r',h1,h2,-⟩:=inV hj hb
  exact h.foot k r' b h1 h2
 ·obtain⟨k,r1,h1,h2,h3⟩:=inV hj hb
  obtain⟨k',r1',h1',h2',h3'⟩:=inV hj' hb'
  have hkk:=h.disj k k' r1 r1' b h1 h1' h2 h2'
  rcases h3 with⟨e,i,r0,hi,hki⟩ | ⟨e,hki⟩<;>rcases h3' with⟨e',i',r0',hi',hki'⟩ | ⟨e',hki'⟩
  ·rw[e,e']
  ·exact dc (lkO hi) (by rw[←hki,hkk,hki'];exact e')
  ·exact dc (lkO hi') (by rw[←hki',←hkk,hki];exact e)
  ·rw[←hki,←hki',hkk]
 ·obtain⟨k,r',h1,h2,-⟩:=inV hj hb
  exact⟨k,r',h1,h2⟩
theorem Vv {m:List (Nat × Nat)}:∀(rs:List R) (n k:Nat),look k (shO m rs n own)=if n≤k∧k - n < rs.length then(rs[k - n]?).map (Hs m) else look k own
 | [],n,k=>by simp[shO]
 | r::rs,n,k=>by
  rw[shO,A3,Vv rs (n+1) k]
  by_cases h:k=n
  ·subst h;simp
  ·rw[da h]
   by_cases h2:n+1≤k∧k - (n+1) < rs.length
   ·rw[db h2,db ⟨by omega,by simp;omega⟩]
    obtain⟨i,hi⟩:∃i,k - n=i+1:=⟨k - n - 1,by omega⟩
    rw[hi,show k - (n+1)=i by omega];simp
   ·rw[da h2,da (fun h3=>h2 ⟨by omega,by simp at h3;omega⟩)]
theorem Z9h {j:Nat}{s:Value}(h0:j=0→∃cs ty,r=.blk cs ty)(hs:Zhf r=true)(h:RRep I V j w r):RRep I ⟨V.n,V.b,fun i=>if i=0 then s else V.s i,V.f⟩ j w r:=by
 cases r with
 | blk cs ty =>
  obtain⟨q1,us,q2,q3⟩:=h
  refine⟨q1,us,q2,q3.1,fun i g u hg hu=>?_⟩
  have h1:=q3.2 i g u hg hu
  have h2:=Ac (show Av (Zc0 1) cs=true from hs) g (ae hg)
  cases g with
  | osl k=>exact⟨h1.1,by show u=if k=0 then s else V.s k;rw[da (by have:=c9 h2;omega)];exact h1.2⟩
  | osv k a b c =>
   have e:(if k=0 then s else V.s k)=V.s k:=da (by have:=c9 h2;omega)
   exact⟨h1.1,by show b≤c∧c≤Mf (if k=0 then s else V.s k);rw[e];exact h1.2.1,by show u=Hc a (if k=0 then s else V.s k) b c;rw[e];exact h1.2.2⟩
  | _=>exact h1
 | lnk i=>cases hs
 | _ =>
  have hj:j≠0:=fun e=>by obtain⟨_,_,e⟩:=h0 e;cases e
  have e:(if j=0 then s else V.s j)=V.s j:=da hj
  simp only[RRep,e] at h⊢
  exact h
theorem X3 (h:Has I V own w){k:Nat}{rs:List R}{cs:List G}{ty:Nat}(hk:look k own=some (.abs (cl (B7 (.blk cs ty::rs) 0))))(hb:S5 (rs.length+1) (B7 (.blk cs ty::rs) 0)=true)(hs:Av Zhf (.blk cs ty::rs)=true):∃V',V'.n=V.n+rs.length∧Later own I V w ((k,Hs ((0,k)::opM 1 V.n rs) (.blk cs ty))::shO ((0,k)::opM 1 V.n rs) rs V.n own) I V' w:=by
 obtain⟨-,V2,hb0,hO,hS⟩:=h.each k _ hk
 have hkn:=h.num k _ hk
 let σ:List (Nat × Nat):=(0,k)::opM 1 V.n rs
 let VZ:Va:=⟨V2.n,V2.b,fun i=>if i=0 then V.s k else V2.s i,V2.f⟩
 let V3:Va:=⟨V.n+rs.length,fun j=>if j < V.n then V.b j else V2.b (j - V.n+1),fun j=>if j < V.n then V.s j else V2.s (j - V.n+1),fun j=>if j=k then V2.f 0 else if j < V.n then V.f j else V2.f (j - V.n+1)⟩
 have σ0:ren σ 0=k:=rfl
 have σs:∀i,i < rs.length→ren σ (i+1)=V.n+i:=fun i hi=>by
  show(look (i+1) ((0,k)::opM 1 V.n rs)).getD (i+1)=_
  rw[A3,da (by omega),P7,db ⟨by omega,by omega⟩]
  simp
 have σlt:∀j,j < rs.length+1→ren σ j < V3.n:=fun j hj=>by
  cases j with
  | zero=>rw[σ0];show k < V.n+rs.length;omega
  | succ i=>rw[σs i (by omega)];show V.n+i < V.n+rs.length;omega
 have fn:∀i,V3.f (V.n+i)=V2.f (i+1):=fun i=>by
  show(if V.n+i=k then V2.f 0 else if V.n+i < V.n then _ else V2.f (V.n+i - V.n+1))=_
  rw[da (by omega),da (by omega),show V.n+i - V.n+1=i+1 by omega]
 have fk:V3.f k=V2.f 0:=db rfl
 have fo:∀j,j < V.n→j≠k→V3.f j=V.f j:=fun j h1 h2=>by
  show(if j=k then _ else if j < V.n then V.f j else _)=_
  rw[da h2,db h1]
 have sb:∀j,j < rs.length+1→(V3.ren σ (rs.length+1)).b j=VZ.b j∧(V3.ren σ (rs.length+1)).s j=VZ.s j:=fun j hj=>by
  cases j with
  | zero=>exact⟨by show(if k < V.n then V.b k else _)=V2.b 0;rw[db hkn,hb0],by show(if k < V.n then V.s k else _)=V.s k;rw[db hkn]⟩
  | succ i =>
   have e:=σs i (by omega)
   refine⟨?_,?_⟩
   ·show(if ren σ (i+1) < V.n then _ else V2.b (ren σ (i+1) - V.n+1))=V2.b (i+1)
    rw[e,da (by omega),show V.n+i - V.n+1=i+1 by omega]
   ·show(if ren σ (i+1) < V.n then _ else V2.s (ren σ (i+1) - V.n+1))=(if i+1=0 then V.s k else V2.s (i+1))
    rw[e,da (by omega),da (by omega),show V.n+i - V.n+1=i+1 by omega]
 have sf:∀j,j < rs.length+1→(V3.ren σ (rs.length+1)).f j=VZ.f j:=fun j hj=>by
  cases j with
  | zero=>exact fk
  | succ i =>
   show V3.f (ren σ (i+1))=_
   rw[σs i (by omega),fn]
 have rep:∀{j r},look j (B7 (.blk cs ty::rs) 0)=some r→RRep I V3 (ren σ j) w (Hs σ r):=fun {j r} hj=>by
  obtain⟨q1,q2⟩:=Fn hb hj
  have hm:r∈(R.blk cs ty::rs):=by rw[Af] at hj;exact ae hj
  refine Xw (V:=V3) (n:=rs.length+1) (m:=σ) σlt ((Z9h (s:=V.s k) (fun e=>?_) (Ac hs r hm) (hO.each j r hj)).val q2 (af _) sb q1 (sf j q1))
  subst e
  rw[Af] at hj
  exact⟨cs,ty,(cg hj).symm⟩
 have lk:∀{j r},look j ((k,Hs σ (.blk cs ty))::shO σ rs V.n own)=some r→(∃i r0,look i (B7 (.blk cs ty::rs) 0)=some r0∧j=ren σ i∧r=Hs σ r0∧V3.f j=V2.f i)∨(j < V.n∧j≠k∧look j own=some r):=fun {j r} hj=>by
  rw[A3,Vv] at hj
  split at hj
  ·next e=>cases hj;exact .inl ⟨0,.blk cs ty,by rw[Af];rfl,e,rfl,by rw[e];exact fk⟩
  ·next e =>
   split at hj
   ·next e2 =>
    obtain⟨i,rfl⟩:=Nat.exists_eq_add_of_le e2.1
    rw[Nat.add_sub_cancel_left] at hj e2
    obtain⟨r0,h1,h2⟩:=ax.1 hj
    exact .inl ⟨i+1,r0,by rw[Af];simpa using h1,(σs i e2.2).symm,h2.symm,fn i⟩
   ·exact .inr ⟨h.num j r hj,e,hj⟩
 have inS:∀{i r0 b},look i (B7 (.blk cs ty::rs) 0)=some r0→V2.f i b→V.f k b:=fun {i r0 b} hi hf=>(hS b).2 ⟨i,r0,hi,hf⟩
 refine⟨V3,rfl,⟨h.mem,fun j r hj=>?_,fun j r hj=>?_,fun j r b hj hb=>?_,fun j j' r r' b hj hj' hb hb'=>?_⟩,⟨rfl,rfl,rfl,af _,fun b hb hn=>⟨rfl,fun _=>rfl⟩,fun _ _ _ h=>h,fun j r b hj hb _=>?_⟩,⟨by show V.n≤V.n+rs.length;omega,fun j hj=>⟨db hj,db hj⟩⟩⟩
 ·rcases lk hj with⟨i,r0,h1,rfl,-,-⟩ | ⟨h1,-,-⟩
  ·exact σlt i (Fn hb h1).1
  ·show j < V.n+rs.length;omega
 ·rcases lk hj with⟨i,r0,h1,rfl,rfl,-⟩ | ⟨h1,h2,h3⟩
  ·exact rep h1
  ·exact(h.each j r h3).keep (.refl _) ⟨by show V.n≤V.n+rs.length;omega,fun j hj=>⟨db hj,db hj⟩⟩ h1 (fo j h1 h2) rfl (af _) fun _ _=>rfl
 ·rcases lk hj with⟨i,r0,h1,-,-,h2⟩ | ⟨h1,h2,h3⟩
  ·rw[h2] at hb;exact h.foot k _ b hk (inS h1 hb)
  ·rw[fo j h1 h2] at hb;exact h.foot j r b h3 hb
 ·rcases lk hj with⟨i,r0,h1,rfl,-,h2⟩ | ⟨h1,h2,h3⟩<;>rcases lk hj' with⟨i',r0',h1',rfl,-,h2'⟩ | ⟨h1',h2',h3'⟩
  ·rw[h2] at hb
   rw[h2'] at hb'
   rw[hO.disj i i' r0 r0' b h1 h1' hb hb']
  ·rw[h2] at hb
   rw[fo _ h1' h2'] at hb'
   exact dc (h.disj k _ _ _ b hk h3' (inS h1 hb) hb') (fun e=>h2' e.symm)
  ·rw[fo _ h1 h2] at hb
   rw[h2'] at hb'
   exact dc (h.disj _ k _ _ b h3 hk hb (inS h1' hb')) h2
  ·rw[fo _ h1 h2] at hb
   rw[fo _ h1' h2'] at hb'
   exact h.disj _ _ _ _ b h3 h3' hb hb'
 ·rcases lk hj with⟨i,r0,h1,-,-,h2⟩ | ⟨h1,h2,h3⟩
  ·rw[h2] at hb;exact⟨k,_,hk,inS h1 hb⟩
  ·rw[fo j h1 h2] at hb;exact⟨j,r,h3,hb⟩
theorem K6 (h:Has I V own w)(hr:RRep I (V.push 0 undef fun _=>False) V.n w r):Later own I V w ((V.n,r)::own) I (V.push 0 undef fun _=>False) w :=
 Df h (Below.refl _ _) 0 undef (fun _=>False) (fun _ h=>h.elim) hr
theorem R2 (h:Has I V own w){k:Nat}(hk:look k own=some r):Later own I V w ((V.n,.adr k (V.b k))::own) I (V.push 0 undef fun _=>False) w:=by
 have hkn:=h.num k r hk
 exact K6 h ⟨fun c hc=>by simp[Va.push] at hc,by show k < V.n+1;omega,by simp[Va.push,Nat.ne_of_lt hkn]⟩
theorem Z0 (h:Has I V own w):Later own I V w ((V.n,.fam [])::own) I (V.push 0 undef fun _=>False) w :=
 K6 h ⟨by simp,fun _ _=>False,fun c=>⟨fun hc=>by simp[Va.push] at hc,fun⟨_,_,hc⟩=>hc.elim⟩,fun _ _ _ _ _ hc=>hc.elim,fun i p hp=>by simp at hp⟩
theorem Rw (h:Has I V own w){j k:Nat}{ps:List Ob}{p:Ob}(hj:look j own=some (.fam ps))(hk:look k own=some (.abs p)):Later own I V w ((j,.fam (ps++[p]))::(k,.gone)::own) I ⟨V.n,V.b,V.s,fun i=>if i=j then fun c=>V.f j c∨V.f k c else if i=k then fun _=>False else V.f i⟩ w:=by
 have hjk:j≠k:=fun e=>by rw[e,hk] at hj;cases hj
 let V2:Va:=⟨V.n,V.b,V.s,fun i=>if i=j then fun c=>V.f j c∨V.f k c else if i=k then fun _=>False else V.f i⟩
 have fj:V2.f j=fun c=>V.f j c∨V.f k c:=db rfl
 have fk:V2.f k=fun _=>False:=by show(if k=j then _ else if k=k then _ else _)=_;rw[da (fun e=>hjk e.symm),db rfl]
 have fo:∀i,i≠j→i≠k→V2.f i=V.f i:=fun i h1 h2=>by show(if i=j then _ else if i=k then _ else _)=_;rw[da h1,da h2]
 have lk:∀{i r},look i ((j,R.fam (ps++[p]))::(k,.gone)::own)=some r→(i=j∧r=.fam (ps++[p]))∨(i=k∧r=.gone)∨(i≠j∧i≠k∧look i own=some r):=fun {i r} hi=>by
  rw[A3] at hi
  split at hi
  ·next e=>cases hi;exact .inl ⟨e,rfl⟩
  ·next e =>
   rw[A3] at hi
   split at hi
   ·next e2=>cases hi;exact .inr (.inl ⟨e2,rfl⟩)
   ·next e2=>exact .inr (.inr ⟨e,e2,hi⟩)
 have inV:∀{i r c},look i ((j,R.fam (ps++[p]))::(k,.gone)::own)=some r→V2.f i c→∃i' r',look i' own=some r'∧V.f i' c∧((i=j∧(i'=j∨i'=k))∨(i≠j∧i≠k∧i'=i)):=fun {i r c} hi hc=>by
  rcases lk hi with⟨e,-⟩ | ⟨e,-⟩ | ⟨e1,e2,e3⟩
  ·rw[e,fj] at hc
   rcases hc with hc | hc
   ·exact⟨j,_,hj,hc,.inl ⟨e,.inl rfl⟩⟩
   ·exact⟨k,_,hk,hc,.inl ⟨e,.inr rfl⟩⟩
  ·rw[e,fk] at hc;exact hc.elim
  ·rw[fo i e1 e2] at hc;exact⟨i,r,e3,hc,.inr ⟨e1,e2,rfl⟩⟩
 have hVl:V.le V2:=⟨af _,fun _ _=>⟨rfl,rfl⟩⟩
 refine⟨⟨h.mem,fun i r hi=>?_,fun i r hi=>?_,fun i r c hi hc=>?_,fun i i' r r' c hi hi' hc hc'=>?_⟩,⟨rfl,rfl,rfl,af _,fun b hb hn=>⟨rfl,fun _=>rfl⟩,fun _ _ _ h=>h,fun i r c hi hc _=>?_⟩,hVl⟩
 ·rcases lk hi with⟨e,-⟩ | ⟨e,-⟩ | ⟨-,-,e3⟩
  ·rw[e];exact h.num j _ hj
  ·rw[e];exact h.num k _ hk
  ·exact h.num i r e3
 ·rcases lk hi with⟨e,rfl⟩ | ⟨e,rfl⟩ | ⟨e1,e2,e3⟩
  ·rw[e]
   obtain⟨q1,F,q2,q3,q4⟩:=h.each j _ hj
   obtain⟨p1,p2⟩:=h.each k _ hk
   refine⟨fun q hq=>?_,fun i c=>if i=ps.length then V.f k c else F i c,fun c=>?_,fun a b c ha hb hca hcb=>?_,fun a q hq=>?_⟩
   ·rcases br.1 hq with hq | hq
    ·exact q1 q hq
    ·rw[bm.1 hq];exact p1
   ·rw[show V2.f j c↔(V.f j c∨V.f k c) by rw[fj],q2 c,aw,List.length_singleton]
    constructor
    ·rintro(⟨i,hi,hc⟩ | hc)
     ·exact⟨i,by omega,by dsimp only;rw[da (by omega)];exact hc⟩
     ·exact⟨ps.length,by omega,by dsimp only;rw[db rfl];exact hc⟩
    ·rintro⟨i,hi,hc⟩
     by_cases e:i=ps.length
     ·rw[db e] at hc;exact .inr hc
     ·rw[da e] at hc;exact .inl ⟨i,by omega,hc⟩
   ·rw[aw,List.length_singleton] at ha hb
    by_cases ea:a=ps.length<;>by_cases eb:b=ps.length
    ·omega
    ·rw[db ea] at hca
     rw[da eb] at hcb
     exact dc (h.disj j k _ _ c hj hk ((q2 c).2 ⟨b,by omega,hcb⟩) hca) hjk
    ·rw[da ea] at hca
     rw[db eb] at hcb
     exact dc (h.disj j k _ _ c hj hk ((q2 c).2 ⟨a,by omega,hca⟩) hcb) hjk
    ·rw[da ea] at hca
     rw[da eb] at hcb
     exact q3 a b c (by omega) (by omega) hca hcb
   ·by_cases ea:a=ps.length
    ·rw[ea,be (af _),Nat.sub_self] at hq
     obtain rfl:p=q:=by simpa using hq
     refine⟨V.b k,?_⟩
     have e:(fun c=>if a=ps.length then V.f k c else F a c)=V.f k:=by funext c;rw[db ea]
     show p I (V.b k) (fun c=>if a=ps.length then V.f k c else F a c) w
     rw[e];exact p2
    ·have hlt:a < ps.length:=by
      have:=(ac.1 hq).1
      rw[aw,List.length_singleton] at this;omega
     rw[bk hlt] at hq
     obtain⟨b,hb⟩:=q4 a q hq
     refine⟨b,?_⟩
     have e:(fun c=>if a=ps.length then V.f k c else F a c)=F a:=by funext c;rw[da ea]
     show q I b (fun c=>if a=ps.length then V.f k c else F a c) w
     rw[e];exact hb
  ·show ∀c,¬V2.f i c
   rw[e,fk];exact fun c hc=>hc
  ·exact(h.each i r e3).keep (.refl _) hVl (h.num i r e3) (fo i e1 e2) rfl (af _) fun _ _=>rfl
 ·obtain⟨i',r',h1,h2,-⟩:=inV hi hc
  exact h.foot i' r' c h1 h2
 ·obtain⟨a,ra,h1,h2,h3⟩:=inV hi hc
  obtain⟨a',ra',h1',h2',h3'⟩:=inV hi' hc'
  have hkk:=h.disj a a' ra ra' c h1 h1' h2 h2'
  rcases h3 with⟨e,h3⟩ | ⟨e1,e2,e3⟩<;>rcases h3' with⟨e',h3'⟩ | ⟨e1',e2',e3'⟩
  ·rw[e,e']
  ·exfalso;rcases h3 with h3 | h3<;>omega
  ·exfalso;rcases h3' with h3' | h3'<;>omega
  ·omega
 ·obtain⟨i',r',h1,h2,-⟩:=inV hi hc
  exact⟨i',r',h1,h2⟩
theorem Md (h:Has I V own w){g0:G}{u:Value}(h5:CRep I V g0 u):CRep I V (Eo own g0) u:=by
 cases g0 with
 | osl i =>
  cases hl:look i own with
  | none=>simp only[Eo,hl];exact h5
  | some r =>
   cases r with
   | froz rows sz =>
    simp only[Eo,hl]
    obtain⟨-,rfl⟩:=(show i < V.n∧u=V.s i from h5)
    exact(h.each i _ hl).2.1
   | _=>simp only[Eo,hl];exact h5
 | osv i sz lo hi =>
  cases hl:look i own with
  | none=>simp only[Eo,hl];exact h5
  | some r =>
   cases r with
   | froz rows sz' =>
    simp only[Eo,hl]
    cases hb:Nat.beq sz sz' with
    | false=>exact h5
    | true =>
     have hb:=ai hb
     subst hb
     obtain⟨-,⟨h6,h7⟩,rfl⟩:=(show i < V.n∧(lo≤hi∧hi≤Mf (V.s i))∧u=Hc sz (V.s i) lo hi from h5)
     obtain⟨-,h8,h9⟩:=h.each i _ hl
     have hln:Mf (V.s i)=rows.length:=by generalize V.s i=z at h8;cases h8;rfl
     exact Ut h8 h9 h6 (by omega)
   | _=>simp only[Eo,hl];exact h5
 | tt=>cases(show VRep I .tt u from h5);exact .v _
 | ff=>cases(show VRep I .ff u from h5);exact .v _
 | _=>exact h5
theorem Xm (h:Has I V own w){k:Nat}{cs:List G}{ty:Nat}(hk:look k own=some (.blk cs ty)):Later own I V w ((k,.blk (cs.map (Eo own)) ty)::own) I V w:=by
 refine Cs h hk rfl rfl rfl rfl (fun _ _=>rfl) ?_
 obtain⟨h1,us,h2,h3⟩:=h.each k _ hk
 refine⟨h1,us,h2,by simpa using h3.1,fun j g u hg hu=>?_⟩
 rw[aj] at hg
 obtain⟨g0,h4,rfl⟩:=ax.1 hg
 exact Md h (h3.2 j g0 u h4 hu)
theorem Il (h:Has I V own w)(hle:V.le V')(hnum:∀k r,look k own'=some r→k < V'.n)(heach:∀k r,look k own'=some r→RRep I V' k w r)(hin:∀k r c,look k own'=some r→V'.f k c→∃j r',look j own=some r'∧V.f j c)(hdis:∀k k' r r' b,look k own'=some r→look k' own'=some r'→V'.f k b→V'.f k' b→k=k'):Later own I V w own' I V' w :=
 ⟨⟨h.mem,hnum,heach,fun k r b hk hb=>by obtain⟨j,r',h1,h2⟩:=hin k r b hk hb;exact h.foot j r' b h1 h2,hdis⟩,⟨rfl,rfl,rfl,af _,fun b hb hn=>⟨rfl,fun _=>rfl⟩,fun _ _ _ h=>h,fun k r b hk hb _=>hin k r b hk hb⟩,hle⟩
theorem Z2 (h:Has I V own w){kb k:Nat}{p q:List G}{ty e sz:Nat}{rows:List (List G)}(hb:look kb own=some (.blk (p++.osl k::q) ty))(hk:look k own=some (.slc rows e sz)):∃V',V'.n=V.n+1∧Later own I V w ((kb,.blk (p++.osl V.n::q) ty)::(V.n,.slc rows e sz)::(k,.gone)::own) I V' w:=by
 have hkn:=h.num k _ hk
 have hbn:=h.num kb _ hb
 have hbk:kb≠k:=fun e=>by rw[e,hk] at hb;cases hb
 let V2:Va:=⟨V.n+1,fun x=>if x=V.n then V.b k else V.b x,fun x=>if x=V.n then V.s k else V.s x,fun x=>if x=V.n then V.f k else if x=k then fun _=>False else V.f x⟩
 have fn:V2.f V.n=V.f k:=db rfl
 have fk:V2.f k=fun _=>False:=by show(if k=V.n then _ else if k=k then _ else _)=_;rw[da (by omega),db rfl]
 have fo:∀x,x≠V.n→x≠k→V2.f x=V.f x:=fun x h1 h2=>by show(if x=V.n then _ else if x=k then _ else _)=_;rw[da h1,da h2]
 have hle:V.le V2:=⟨Nat.le_succ _,fun x hx=>⟨da (by omega),da (by omega)⟩⟩
 have lk:∀{x r},look x ((kb,R.blk (p++.osl V.n::q) ty)::(V.n,.slc rows e sz)::(k,.gone)::own)=some r→(x=kb∧r=.blk (p++.osl V.n::q) ty)∨(x=V.n∧r=.slc rows e sz)∨(x=k∧r=.gone)∨(x≠kb∧x≠V.n∧x≠k∧look x own=some r):=fun {x r} hx=>by
  rw[A3] at hx
  split at hx
  ·next e1=>cases hx;exact .inl ⟨e1,rfl⟩
  ·next e1 =>
   rw[A3] at hx
   split at hx
   ·next e2=>cases hx;exact .inr (.inl ⟨e2,rfl⟩)
   ·next e2 =>
    rw[A3] at hx
    split at hx
    ·next e3=>cases hx;exact .inr (.inr (.inl ⟨e3,rfl⟩))
    ·next e3=>exact .inr (.inr (.inr ⟨e1,e2,e3,hx⟩))
 refine⟨V2,rfl,Il h hle (fun x r hx=>?_) (fun x r hx=>?_) (fun x r c hx hc=>?_) fun x x' r r' c hx hx' hc hc'=>?_⟩
 ·rcases lk hx with⟨e,-⟩ | ⟨e,-⟩ | ⟨e,-⟩ | ⟨-,-,-,e3⟩
  ·rw[e];exact Nat.lt_succ_of_lt hbn
  ·rw[e];exact ct _
  ·rw[e];exact Nat.lt_succ_of_lt hkn
  ·exact Nat.lt_succ_of_lt (h.num x r e3)
 ·rcases lk hx with⟨e1,rfl⟩ | ⟨e1,rfl⟩ | ⟨e1,rfl⟩ | ⟨e1,e2,e3,e4⟩
  ·rw[e1]
   obtain⟨q1,us,q2,q3⟩:=h.each kb _ hb
   have fb:V2.f kb=V.f kb:=fo kb (by omega) hbk
   have bb:V2.b kb=V.b kb:=da (by omega)
   refine⟨fun b=>by rw[fb,bb];exact q1 b,us,by rw[bb];exact q2,by have:=q3.1;simpa using this,fun j g u hg hu=>?_⟩
   by_cases hj:j=p.length
   ·subst hj
    rw[be (af _),Nat.sub_self] at hg
    obtain rfl:G.osl V.n=g:=by simpa using hg
    have h3:=q3.2 p.length (.osl k) u (by rw[be (af _),Nat.sub_self];rfl) hu
    exact⟨ct _,by rw[h3.2];exact(db rfl).symm⟩
   ·refine CRep.mono (q3.2 j g u ?_ hu) (.refl _) hle
    by_cases hlt:j < p.length
    ·rw[bk hlt] at hg⊢;exact hg
    ·rw[be (by omega)] at hg⊢
     obtain⟨i,hi⟩:∃i,j - p.length=i+1:=⟨j - p.length - 1,by omega⟩
     rw[hi] at hg⊢
     simpa using hg
  ·rw[e1]
   have hs:V2.s V.n=V.s k:=db rfl
   obtain⟨q1,rs,q2,q3,q4,q5⟩:=h.each k _ hk
   exact⟨fun b=>by rw[fn,hs];exact q1 b,rs,by rw[hs];exact q2,q3,q4,q5⟩
  ·show ∀c,¬V2.f x c
   rw[e1,fk];exact fun c hc=>hc
  ·exact(h.each x r e4).keep (.refl _) hle (h.num x r e4) (fo x e2 e3) rfl (af _) fun _ _=>rfl
 ·rcases lk hx with⟨e1,-⟩ | ⟨e1,-⟩ | ⟨e1,-⟩ | ⟨e1,e2,e3,e4⟩
  ·rw[e1,fo kb (by omega) hbk] at hc;exact⟨kb,_,hb,hc⟩
  ·rw[e1,fn] at hc;exact⟨k,_,hk,hc⟩
  ·rw[e1,fk] at hc;exact hc.elim
  ·rw[fo x e2 e3] at hc;exact⟨x,r,e4,hc⟩
 ·have src:∀{x r},look x ((kb,R.blk (p++.osl V.n::q) ty)::(V.n,.slc rows e sz)::(k,.gone)::own)=some r→V2.f x c→∃y ry,look y own=some ry∧V.f y c∧((x=V.n∧y=k)∨(x≠V.n∧x≠k∧y=x)):=fun {x r} hx hc=>by
   rcases lk hx with⟨e1,-⟩ | ⟨e1,-⟩ | ⟨e1,-⟩ | ⟨e1,e2,e3,e4⟩
   ·rw[e1,fo kb (by omega) hbk] at hc
    exact⟨kb,_,hb,hc,.inr ⟨by omega,by rw[e1];exact hbk,e1.symm⟩⟩
   ·rw[e1,fn] at hc;exact⟨k,_,hk,hc,.inl ⟨e1,rfl⟩⟩
   ·rw[e1,fk] at hc;exact hc.elim
   ·rw[fo x e2 e3] at hc;exact⟨x,r,e4,hc,.inr ⟨e2,e3,rfl⟩⟩
  obtain⟨y,ry,h1,h2,h3⟩:=src hx hc
  obtain⟨y',ry',h1',h2',h3'⟩:=src hx' hc'
  have hyy:=h.disj y y' _ _ c h1 h1' h2 h2'
  rcases h3 with⟨e1,e2⟩ | ⟨e1,e2,e3⟩<;>rcases h3' with⟨e1',e2'⟩ | ⟨e1',e2',e3'⟩
  ·rw[e1,e1']
  ·exact dc (by rw[←e3',←hyy,e2]) e2'
  ·exact dc (by rw[←e3,hyy,e2']) e2
  ·rw[←e3,←e3',hyy]
theorem Zl {rs:List (List Value)}{sz:Nat}(h:∀u∈rs,u.length=sz):∀lo,rs.flatten.drop (lo * sz)=(rs.drop lo).flatten:=by
 intro lo
 induction lo generalizing rs with
 | zero=>simp
 | succ lo ih =>
  cases rs with
  | nil=>simp
  | cons u rs =>
   have hu:=h u (by simp)
   rw[b7,List.drop_succ_cons,←ih fun x hx=>h x (by simp[hx]),show(lo+1) * sz=u.length+lo * sz by rw[hu,Nat.succ_mul];omega,List.drop_append,c7 (by omega),cx,show u.length+lo * sz - u.length=lo * sz by omega]
theorem Z2m {e sz n lo hi:Nat}{v:Value}{xs:List Value}(h:Dg w e sz v n xs)(_h1:lo≤hi)(_h2:hi≤n):(Hc sz v lo hi).ownBlock=v.ownBlock:=by
 rcases h.2 with⟨rfl,h0⟩ | ⟨g,q,cap,cur,rfl,-⟩
 ·unfold Hc
  dsimp only
  split<;>rfl
 ·unfold Hc
  dsimp only
  split
  ·rfl
  ·show some ((⟨g,q,none⟩:Addr).add (lo * sz)).block=_
   rw[C7];rfl
theorem Z1w {e sz lo hi:Nat}{v:Value}{rows:List (List G)}{rs:List (List Value)}(h:Dg w e sz v rows.length rs.flatten)(hl:rs.length=rows.length)(hz:∀u∈rs,u.length=sz)(h1:lo≤hi∧hi=rows.length):Dg w e sz (Hc sz v lo hi) (rows.drop lo).length (rs.drop lo).flatten:=by
 obtain⟨h1,rfl⟩:=h1
 have hdl:(rows.drop lo).length=rows.length - lo:=ba ..
 refine⟨by rw[B6 fun u hu=>hz u (bz hu),ba,ba,hl],?_⟩
 rcases h.2 with⟨rfl,h0⟩ | ⟨g,q,cap,cur,rfl,hg,hn,hm,hc,ht⟩
 ·left
  have:lo=0:=by omega
  subst this
  refine⟨?_,by rw[hdl];omega⟩
  unfold Hc
  rw[h0]
  rfl
 ·right
  unfold Hc
  dsimp only
  by_cases hcl:cap=lo
  ·rw[db hcl]
   have hlr:lo=rows.length:=by omega
   refine⟨g,q,0,cur,by rw[hdl,hlr,hcl,hlr];simp,hg,by rw[hdl];omega,ah _,by omega,?_⟩
   rw[hdl,c7 (by omega:rs.length≤lo),show rows.length - lo=0 by omega]
   simp
  ·rw[da hcl]
   have hmul:lo * sz+(cap - lo) * sz=cap * sz:=by rw[←Nat.add_mul];congr 1;omega
   refine⟨g,q+lo * sz,cap - lo,cur,?_,hg,by rw[hdl];omega,by omega,by omega,?_⟩
   ·show Value.slice (some ((⟨g,q,none⟩:Addr).add (lo * sz))) _ _=_
    rw[C7,hdl]
   ·rw[hdl,←Zl hz,←ht,List.drop_take,List.drop_drop,Nat.sub_mul]
theorem Xr (h:Has I V own w){k e sz:Nat}{rows:List (List G)}(hk:look k own=some (.slc rows e sz)):Later own I V w ((k,.vw rows e sz)::own) I V w:=by
 obtain⟨q1,rs,q2,q3⟩:=h.each k _ hk
 exact Cs (w':=w) h hk rfl rfl rfl rfl (fun _ _=>rfl) ⟨q1,rs,P8 q2,q3⟩
theorem X9 (h:Has I V own w){kb k lo hi:Nat}{p q:List G}{ty e sz:Nat}{rows:List (List G)}(hb:look kb own=some (.blk (p++.osv k sz lo hi::q) ty))(hk:look k own=some (.vw rows e sz))(hlo:lo≤hi∧hi=rows.length):∃V',V'.n=V.n+1∧Later own I V w ((kb,.blk (p++.osl V.n::q) ty)::(V.n,.vw (rows.drop lo) e sz)::(k,.gone)::own) I V' w:=by
 have hkn:=h.num k _ hk
 have hbn:=h.num kb _ hb
 have hbk:kb≠k:=fun e=>by rw[e,hk] at hb;cases hb
 let V2:Va:=⟨V.n+1,fun x=>if x=V.n then V.b k else V.b x,fun x=>if x=V.n then Hc sz (V.s k) lo hi else V.s x,fun x=>if x=V.n then V.f k else if x=k then fun _=>False else V.f x⟩
 have fn:V2.f V.n=V.f k:=db rfl
 have fk:V2.f k=fun _=>False:=by show(if k=V.n then _ else if k=k then _ else _)=_;rw[da (by omega),db rfl]
 have fo:∀x,x≠V.n→x≠k→V2.f x=V.f x:=fun x h1 h2=>by show(if x=V.n then _ else if x=k then _ else _)=_;rw[da h1,da h2]
 have hle:V.le V2:=⟨Nat.le_succ _,fun x hx=>⟨da (by omega),da (by omega)⟩⟩
 have lk:∀{x r},look x ((kb,R.blk (p++.osl V.n::q) ty)::(V.n,.vw (rows.drop lo) e sz)::(k,.gone)::own)=some r→(x=kb∧r=.blk (p++.osl V.n::q) ty)∨(x=V.n∧r=.vw (rows.drop lo) e sz)∨(x=k∧r=.gone)∨(x≠kb∧x≠V.n∧x≠k∧look x own=some r):=fun {x r} hx=>by
  rw[A3] at hx
  split at hx
  ·next e1=>cases hx;exact .inl ⟨e1,rfl⟩
  ·next e1 =>
   rw[A3] at hx
   split at hx
   ·next e2=>cases hx;exact .inr (.inl ⟨e2,rfl⟩)
   ·next e2 =>
    rw[A3] at hx
    split at hx
    ·next e3=>cases hx;exact .inr (.inr (.inl ⟨e3,rfl⟩))
    ·next e3=>exact .inr (.inr (.inr ⟨e1,e2,e3,hx⟩))
 refine⟨V2,rfl,Il h hle (fun x r hx=>?_) (fun x r hx=>?_) (fun x r c hx hc=>?_) fun x x' r r' c hx hx' hc hc'=>?_⟩
 ·rcases lk hx with⟨e,-⟩ | ⟨e,-⟩ | ⟨e,-⟩ | ⟨-,-,-,e3⟩
  ·rw[e];exact Nat.lt_succ_of_lt hbn
  ·rw[e];exact ct _
  ·rw[e];exact Nat.lt_succ_of_lt hkn
  ·exact Nat.lt_succ_of_lt (h.num x r e3)
 ·rcases lk hx with⟨e1,rfl⟩ | ⟨e1,rfl⟩ | ⟨e1,rfl⟩ | ⟨e1,e2,e3,e4⟩
  ·rw[e1]
   obtain⟨q1,us,q2,q3⟩:=h.each kb _ hb
   have fb:V2.f kb=V.f kb:=fo kb (by omega) hbk
   have bb:V2.b kb=V.b kb:=da (by omega)
   refine⟨fun b=>by rw[fb,bb];exact q1 b,us,by rw[bb];exact q2,by have:=q3.1;simpa using this,fun j g u hg hu=>?_⟩
   by_cases hj:j=p.length
   ·subst hj
    rw[be (af _),Nat.sub_self] at hg
    obtain rfl:G.osl V.n=g:=by simpa using hg
    have h3:=q3.2 p.length (.osv k sz lo hi) u (by rw[be (af _),Nat.sub_self];rfl) hu
    exact⟨ct _,by rw[h3.2.2];exact(db rfl).symm⟩
   ·refine CRep.mono (q3.2 j g u ?_ hu) (.refl _) hle
    by_cases hlt:j < p.length
    ·rw[bk hlt] at hg⊢;exact hg
    ·rw[be (by omega)] at hg⊢
     obtain⟨i,hi⟩:∃i,j - p.length=i+1:=⟨j - p.length - 1,by omega⟩
     rw[hi] at hg⊢
     simpa using hg
  ·rw[e1]
   have hs:V2.s V.n=Hc sz (V.s k) lo hi:=db rfl
   obtain⟨q1,rs,q2,q3,q4,q5,q6,q7⟩:=h.each k _ hk
   refine⟨fun b=>by rw[fn,hs,q1 b,Z2m q2 hlo.1 (by omega)],rs.drop lo,by rw[hs];exact Z1w q2 q3 q5 hlo,by rw[ba,ba,q3],fun i r u hr hu=>q4 (lo+i) r u (by rw[bu] at hr;exact hr) (by rw[bu] at hu;exact hu),fun u hu=>q5 u (bz hu),fun u hu=>q6 u (bz hu),q7⟩
  ·show ∀c,¬V2.f x c
   rw[e1,fk];exact fun c hc=>hc
  ·exact(h.each x r e4).keep (.refl _) hle (h.num x r e4) (fo x e2 e3) rfl (af _) fun _ _=>rfl
 ·rcases lk hx with⟨e1,-⟩ | ⟨e1,-⟩ | ⟨e1,-⟩ | ⟨e1,e2,e3,e4⟩
  ·rw[e1,fo kb (by omega) hbk] at hc;exact⟨kb,_,hb,hc⟩
  ·rw[e1,fn] at hc;exact⟨k,_,hk,hc⟩
  ·rw[e1,fk] at hc;exact hc.elim
  ·rw[fo x e2 e3] at hc;exact⟨x,r,e4,hc⟩
 ·have src:∀{x r},look x ((kb,R.blk (p++.osl V.n::q) ty)::(V.n,.vw (rows.drop lo) e sz)::(k,.gone)::own)=some r→V2.f x c→∃y ry,look y own=some ry∧V.f y c∧((x=V.n∧y=k)∨(x≠V.n∧x≠k∧y=x)):=fun {x r} hx hc=>by
   rcases lk hx with⟨e1,-⟩ | ⟨e1,-⟩ | ⟨e1,-⟩ | ⟨e1,e2,e3,e4⟩
   ·rw[e1,fo kb (by omega) hbk] at hc
    exact⟨kb,_,hb,hc,.inr ⟨by omega,by rw[e1];exact hbk,e1.symm⟩⟩
   ·rw[e1,fn] at hc;exact⟨k,_,hk,hc,.inl ⟨e1,rfl⟩⟩
   ·rw[e1,fk] at hc;exact hc.elim
   ·rw[fo x e2 e3] at hc;exact⟨x,r,e4,hc,.inr ⟨e2,e3,rfl⟩⟩
  obtain⟨y,ry,h1,h2,h3⟩:=src hx hc
  obtain⟨y',ry',h1',h2',h3'⟩:=src hx' hc'
  have hyy:=h.disj y y' _ _ c h1 h1' h2 h2'
  rcases h3 with⟨e1,e2⟩ | ⟨e1,e2,e3⟩<;>rcases h3' with⟨e1',e2'⟩ | ⟨e1',e2',e3'⟩
  ·rw[e1,e1']
  ·exact dc (by rw[←e3',←hyy,e2]) e2'
  ·exact dc (by rw[←e3,hyy,e2']) e2
  ·rw[←e3,←e3',hyy]
theorem Z46:Loc Yf:=fun _ _ _ _ _ _ h _ _ _ _=>h
theorem Xc (h:Has I V own w){j i:Nat}{ps:List Ob}{p:Ob}(hj:look j own=some (.fam ps))(hi:ps[i]?=some p):∃V',V'.n=V.n+1∧Later own I V w ((V.n,.abs p)::(j,.fam (ps.set i Yf))::own) I V' w:=by
 obtain⟨q1,F,q2,q3,q4⟩:=h.each j _ hj
 obtain⟨b,hb⟩:=q4 i p hi
 have hil:=(ac.1 hi).1
 have hjn:=h.num j _ hj
 let V2:Va:=⟨V.n+1,fun k=>if k=V.n then b else V.b k,fun k=>if k=V.n then undef else V.s k,fun k=>if k=V.n then F i else if k=j then fun c=>∃a,a < ps.length∧a≠i∧F a c else V.f k⟩
 have fn:V2.f V.n=F i:=db rfl
 have fj:V2.f j=fun c=>∃a,a < ps.length∧a≠i∧F a c:=by show(if j=V.n then _ else if j=j then _ else _)=_;rw[da (by omega),db rfl]
 have fo:∀k,k≠V.n→k≠j→V2.f k=V.f k:=fun k h1 h2=>by show(if k=V.n then _ else if k=j then _ else _)=_;rw[da h1,da h2]
 have hle:V.le V2:=⟨Nat.le_succ _,fun k hk=>⟨da (by omega),da (by omega)⟩⟩
 have lk:∀{k r},look k ((V.n,R.abs p)::(j,.fam (ps.set i Yf))::own)=some r→(k=V.n∧r=.abs p)∨(k=j∧r=.fam (ps.set i Yf))∨(k≠V.n∧k≠j∧look k own=some r):=fun {k r} hk=>by
  rw[A3] at hk
  split at hk
  ·next e=>cases hk;exact .inl ⟨e,rfl⟩
  ·next e =>
   rw[A3] at hk
   split at hk
   ·next e2=>cases hk;exact .inr (.inl ⟨e2,rfl⟩)
   ·next e2=>exact .inr (.inr ⟨e,e2,hk⟩)
 refine⟨V2,rfl,Il h hle (fun k r hk=>?_) (fun k r hk=>?_) (fun k r c hk hc=>?_) fun k k' r r' c hk hk' hc hc'=>?_⟩
 ·rcases lk hk with⟨e,-⟩ | ⟨e,-⟩ | ⟨-,-,e3⟩
  ·rw[e];exact ct _
  ·rw[e];exact Nat.lt_succ_of_lt hjn
  ·exact Nat.lt_succ_of_lt (h.num k r e3)
 ·rcases lk hk with⟨e,rfl⟩ | ⟨e,rfl⟩ | ⟨e1,e2,e3⟩
  ·rw[e]
   refine⟨q1 p (ae hi),?_⟩
   rw[fn,show V2.b V.n=b from db rfl]
   exact hb
  ·rw[e]
   refine⟨fun q hq=>?_,fun a c=>a≠i∧F a c,fun c=>?_,fun a a' c ha ha' hc hc'=>?_,fun a q hq=>?_⟩
   ·rcases cn hq with hq | rfl
    ·exact q1 q hq
    ·exact Z46
   ·rw[fj,bf]
   ·rw[bf] at ha ha'
    exact q3 a a' c ha ha' hc.2 hc'.2
   ·rw[ck] at hq
    split at hq
    ·next e =>
     obtain rfl:Yf=q:=by simpa using hq
     exact⟨0,fun c hc=>hc.1 e.symm⟩
    ·next e =>
     obtain⟨b',hb'⟩:=q4 a q hq
     refine⟨b',?_⟩
     have e2:(fun c=>a≠i∧F a c)=F a:=by funext c;exact propext ⟨fun h=>h.2,fun h=>⟨fun e3=>e e3.symm,h⟩⟩
     show q I b' (fun c=>a≠i∧F a c) w
     rw[e2];exact hb'
  ·exact(h.each k r e3).keep (.refl _) hle (h.num k r e3) (fo k e1 e2) rfl (af _) fun _ _=>rfl
 ·rcases lk hk with⟨e,-⟩ | ⟨e,-⟩ | ⟨e1,e2,e3⟩
  ·rw[e,fn] at hc;exact⟨j,_,hj,(q2 c).2 ⟨i,hil,hc⟩⟩
  ·rw[e,fj] at hc
   obtain⟨a,h1,-,h2⟩:=hc
   exact⟨j,_,hj,(q2 c).2 ⟨a,h1,h2⟩⟩
  ·rw[fo k e1 e2] at hc;exact⟨k,r,e3,hc⟩
 ·have cross:∀{k r c},k≠j→look k own=some r→V.f k c→(∃a,a < ps.length∧F a c)→False:=fun {k r c} h1 h2 h3 h4=>h1 (h.disj k j _ _ c h2 hj h3 ((q2 c).2 h4))
  rcases lk hk with⟨e,-⟩ | ⟨e,-⟩ | ⟨e1,e2,e3⟩<;>rcases lk hk' with⟨e',-⟩ | ⟨e',-⟩ | ⟨e1',e2',e3'⟩
  ·rw[e,e']
  ·rw[e,fn] at hc
   rw[e',fj] at hc'
   obtain⟨a,h1,h2,h3⟩:=hc'
   exact dc (q3 a i c h1 hil h3 hc) h2
  ·rw[e,fn] at hc
   rw[fo k' e1' e2'] at hc'
   exact(cross e2' e3' hc' ⟨i,hil,hc⟩).elim
  ·rw[e',fn] at hc'
   rw[e,fj] at hc
   obtain⟨a,h1,h2,h3⟩:=hc
   exact dc (q3 a i c h1 hil h3 hc') h2
  ·rw[e,e']
  ·rw[e,fj] at hc
   rw[fo k' e1' e2'] at hc'
   obtain⟨a,h1,-,h3⟩:=hc
   exact(cross e2' e3' hc' ⟨a,h1,h3⟩).elim
  ·rw[fo k e1 e2] at hc
   rw[e',fn] at hc'
   exact(cross e2 e3 hc ⟨i,hil,hc'⟩).elim
  ·rw[fo k e1 e2] at hc
   rw[e',fj] at hc'
   obtain⟨a,h1,-,h3⟩:=hc'
   exact(cross e2 e3 hc ⟨a,h1,h3⟩).elim
  ·rw[fo k e1 e2] at hc
   rw[fo k' e1' e2'] at hc'
   exact h.disj k k' r r' c e3 e3' hc hc'
theorem Z3a (h:Has I V own w){j k b:Nat}(hj:look j own=some (.adr k b)):Later own I V w ((V.n,.adr k b)::own) I (V.push 0 undef fun _=>False) w:=by
 obtain⟨-,hkn,hb⟩:=h.each j _ hj
 exact K6 h ⟨fun c hc=>by simp[Va.push] at hc,by show k < V.n+1;omega,by simp[Va.push,Nat.ne_of_lt hkn];exact hb⟩
theorem Wo (h:Has I V own w){m k j1 j2 b:Nat}{p:Ob}(hm:look m own=some (.abs p))(hk:look k own=some .gone)(h1:look j1 own=some (.adr m b))(h2:look j2 own=some (.adr k b)):∃V',V'.n=V.n∧Later own I V w ((k,.abs p)::(m,.gone)::own) I V' w:=by
 obtain⟨-,hmn,hb1⟩:=h.each j1 _ h1
 obtain⟨-,hkn,hb2⟩:=h.each j2 _ h2
 obtain⟨p1,p2⟩:=h.each m _ hm
 have hmk:k≠m:=fun e=>by rw[e,hm] at hk;cases hk
 let V2:Va:=⟨V.n,V.b,V.s,fun x=>if x=k then V.f m else if x=m then fun _=>False else V.f x⟩
 have fk:V2.f k=V.f m:=db rfl
 have fm:V2.f m=fun _=>False:=by show(if m=k then _ else if m=m then _ else _)=_;rw[da (fun e=>hmk e.symm),db rfl]
 have fo:∀x,x≠k→x≠m→V2.f x=V.f x:=fun x h1 h2=>by show(if x=k then _ else if x=m then _ else _)=_;rw[da h1,da h2]
 have hle:V.le V2:=⟨af _,fun k hk=>⟨rfl,rfl⟩⟩
 have lk:∀{x r},look x ((k,R.abs p)::(m,.gone)::own)=some r→(x=k∧r=.abs p)∨(x=m∧r=.gone)∨(x≠k∧x≠m∧look x own=some r):=fun {x r} hx=>by
  rw[A3] at hx
  split at hx
  ·next e=>cases hx;exact .inl ⟨e,rfl⟩
  ·next e =>
   rw[A3] at hx
   split at hx
   ·next e2=>cases hx;exact .inr (.inl ⟨e2,rfl⟩)
   ·next e2=>exact .inr (.inr ⟨e,e2,hx⟩)
 refine⟨V2,rfl,Il h hle (fun x r hx=>?_) (fun x r hx=>?_) (fun x r c hx hc=>?_) fun x x' r r' c hx hx' hc hc'=>?_⟩
 ·rcases lk hx with⟨e,-⟩ | ⟨e,-⟩ | ⟨-,-,e3⟩
  ·rw[e];exact hkn
  ·rw[e];exact hmn
  ·exact h.num x r e3
 ·rcases lk hx with⟨e,rfl⟩ | ⟨e,rfl⟩ | ⟨e1,e2,e3⟩
  ·rw[e]
   refine⟨p1,?_⟩
   rw[fk,show V2.b k=V.b m from hb2.trans hb1.symm]
   exact p2
  ·show ∀c,¬V2.f x c
   rw[e,fm];exact fun c hc=>hc
  ·exact(h.each x r e3).keep (.refl _) hle (h.num x r e3) (fo x e1 e2) rfl (af _) fun _ _=>rfl
 ·rcases lk hx with⟨e,-⟩ | ⟨e,-⟩ | ⟨e1,e2,e3⟩
  ·rw[e,fk] at hc;exact⟨m,_,hm,hc⟩
  ·rw[e,fm] at hc;exact hc.elim
  ·rw[fo x e1 e2] at hc;exact⟨x,r,e3,hc⟩
 ·rcases lk hx with⟨e,-⟩ | ⟨e,-⟩ | ⟨e1,e2,e3⟩<;>rcases lk hx' with⟨e',-⟩ | ⟨e',-⟩ | ⟨e1',e2',e3'⟩
  ·rw[e,e']
  ·rw[e',fm] at hc';exact hc'.elim
  ·rw[e,fk] at hc
   rw[fo x' e1' e2'] at hc'
   exact dc (h.disj m x' _ _ c hm e3' hc hc') (fun e=>e2' e.symm)
  ·rw[e,fm] at hc;exact hc.elim
  ·rw[e,e']
  ·rw[e,fm] at hc;exact hc.elim
  ·rw[fo x e1 e2] at hc
   rw[e',fk] at hc'
   exact dc (h.disj x m _ _ c e3 hm hc hc') e2
  ·rw[e',fm] at hc';exact hc'.elim
  ·rw[fo x e1 e2] at hc
   rw[fo x' e1' e2'] at hc'
   exact h.disj x x' r r' c e3 e3' hc hc'
theorem Ze (h:Has I V own w){j i k:Nat}{ps:List Ob}{p:Ob}(hj:look j own=some (.fam ps))(hi:i < ps.length)(hk:look k own=some (.abs p)):∃V',V'.n=V.n∧Later own I V w ((j,.fam (ps.set i p))::(k,.gone)::own) I V' w:=by
 obtain⟨q1,F,q2,q3,q4⟩:=h.each j _ hj
 obtain⟨p1,p2⟩:=h.each k _ hk
 have hjk:j≠k:=fun e=>by rw[e,hk] at hj;cases hj
 have hjn:=h.num j _ hj
 have hkn:=h.num k _ hk
 let V2:Va:=⟨V.n,V.b,V.s,fun x=>if x=j then fun c=>∃a,a < ps.length∧(if a=i then V.f k c else F a c) else if x=k then fun _=>False else V.f x⟩
 have fj:V2.f j=fun c=>∃a,a < ps.length∧(if a=i then V.f k c else F a c):=db rfl
 have fk:V2.f k=fun _=>False:=by show(if k=j then _ else if k=k then _ else _)=_;rw[da (fun e=>hjk e.symm),db rfl]
 have fo:∀x,x≠j→x≠k→V2.f x=V.f x:=fun x h1 h2=>by show(if x=j then _ else if x=k then _ else _)=_;rw[da h1,da h2]
 have hle:V.le V2:=⟨af _,fun k hk=>⟨rfl,rfl⟩⟩
 have lk:∀{x r},look x ((j,R.fam (ps.set i p))::(k,.gone)::own)=some r→(x=j∧r=.fam (ps.set i p))∨(x=k∧r=.gone)∨(x≠j∧x≠k∧look x own=some r):=fun {x r} hx=>by
  rw[A3] at hx
  split at hx
  ·next e=>cases hx;exact .inl ⟨e,rfl⟩
  ·next e =>
   rw[A3] at hx
   split at hx
   ·next e2=>cases hx;exact .inr (.inl ⟨e2,rfl⟩)
   ·next e2=>exact .inr (.inr ⟨e,e2,hx⟩)
 have inJ:∀{a c},a < ps.length→(if a=i then V.f k c else F a c)→V.f k c∨V.f j c:=fun {a c} ha hc=>by
  split at hc
  ·exact .inl hc
  ·exact .inr ((q2 c).2 ⟨a,ha,hc⟩)
 refine⟨V2,rfl,Il h hle (fun x r hx=>?_) (fun x r hx=>?_) (fun x r c hx hc=>?_) fun x x' r r' c hx hx' hc hc'=>?_⟩
 ·rcases lk hx with⟨e,-⟩ | ⟨e,-⟩ | ⟨-,-,e3⟩
  ·rw[e];exact hjn
  ·rw[e];exact hkn
  ·exact h.num x r e3
 ·rcases lk hx with⟨e,rfl⟩ | ⟨e,rfl⟩ | ⟨e1,e2,e3⟩
  ·rw[e]
   refine⟨fun q hq=>?_,fun a c=>if a=i then V.f k c else F a c,fun c=>?_,fun a a' c ha ha' hc hc'=>?_,fun a q hq=>?_⟩
   ·rcases cn hq with hq | rfl
    ·exact q1 q hq
    ·exact p1
   ·rw[fj,bf]
   ·rw[bf] at ha ha'
    split at hc<;>split at hc'
    ·next e1 e2=>rw[e1,e2]
    ·exact dc (h.disj j k _ _ c hj hk ((q2 c).2 ⟨a',ha',hc'⟩) hc) hjk
    ·exact dc (h.disj j k _ _ c hj hk ((q2 c).2 ⟨a,ha,hc⟩) hc') hjk
    ·exact q3 a a' c ha ha' hc hc'
   ·rw[ck] at hq
    split at hq
    ·next e =>
     obtain rfl:p=q:=by simpa using hq
     refine⟨V.b k,?_⟩
     have e2:(fun c=>if a=i then V.f k c else F a c)=V.f k:=by funext c;rw[db e.symm]
     show p I (V.b k) (fun c=>if a=i then V.f k c else F a c) w
     rw[e2];exact p2
    ·next e =>
     obtain⟨b',hb'⟩:=q4 a q hq
     refine⟨b',?_⟩
     have e2:(fun c=>if a=i then V.f k c else F a c)=F a:=by funext c;rw[da (fun e3=>e e3.symm)]
     show q I b' (fun c=>if a=i then V.f k c else F a c) w
     rw[e2];exact hb'
  ·show ∀c,¬V2.f x c
   rw[e,fk];exact fun c hc=>hc
  ·exact(h.each x r e3).keep (.refl _) hle (h.num x r e3) (fo x e1 e2) rfl (af _) fun _ _=>rfl
 ·rcases lk hx with⟨e,-⟩ | ⟨e,-⟩ | ⟨e1,e2,e3⟩
  ·rw[e,fj] at hc
   obtain⟨a,h1,h2⟩:=hc
   rcases inJ h1 h2 with h3 | h3
   ·exact⟨k,_,hk,h3⟩
   ·exact⟨j,_,hj,h3⟩
  ·rw[e,fk] at hc;exact hc.elim
  ·rw[fo x e1 e2] at hc;exact⟨x,r,e3,hc⟩
 ·have cross:∀{x r c},x≠j→x≠k→look x own=some r→V.f x c→(∃a,a < ps.length∧(if a=i then V.f k c else F a c))→False:=fun {x r c} h0 h1 h2 h3 ⟨a,h4,h5⟩=>by
   rcases inJ h4 h5 with h6 | h6
   ·exact h1 (h.disj x k _ _ c h2 hk h3 h6)
   ·exact h0 (h.disj x j _ _ c h2 hj h3 h6)
  rcases lk hx with⟨e,-⟩ | ⟨e,-⟩ | ⟨e1,e2,e3⟩<;>rcases lk hx' with⟨e',-⟩ | ⟨e',-⟩ | ⟨e1',e2',e3'⟩
  ·rw[e,e']
  ·rw[e',fk] at hc';exact hc'.elim
  ·rw[e,fj] at hc
   rw[fo x' e1' e2'] at hc'
   exact(cross e1' e2' e3' hc' hc).elim
  ·rw[e,fk] at hc;exact hc.elim
  ·rw[e,e']
  ·rw[e,fk] at hc;exact hc.elim
  ·rw[fo x e1 e2] at hc
   rw[e',fj] at hc'
   exact(cross e1 e2 e3 hc hc').elim
  ·rw[e',fk] at hc';exact hc'.elim
  ·rw[fo x e1 e2] at hc
   rw[fo x' e1' e2'] at hc'
   exact h.disj x x' r r' c e3 e3' hc hc'
theorem Sv {n:Nat}{K:Os→Nat→Prop}(hg:Gh K own n):∀{V:Va},V.n=n→Has I V own w→∃own' I' V',K own' V'.n∧Later own I V w own' I' V' w:=by
 induction hg generalizing I with
 | done hk=>exact fun {V} hn h=>⟨_,I,V,by rw[hn];exact hk,.refl h⟩
 | nil k p q ty e sz hk hz _ ih =>
  intro V hn h
  subst hn
  have h1:=Z0j (e:=e) h hk hz
  obtain⟨o,I',V',h2,h3⟩:=ih (V:=V.push 0 (.slice none 0 0) fun _=>False) rfl h1.has
  exact⟨o,I',V',h2,h1.trans h3⟩
 | close O m hO h0 hd _ ih =>
  intro V hn h
  subst hn
  obtain⟨f,h1⟩:=Rm h hO h0 hd
  obtain⟨o,I',V',h2,h3⟩:=ih (V:=⟨V.n,V.b,V.s,f⟩) rfl h1.has
  exact⟨o,I',V',h2,h1.trans h3⟩
 | opn k cs ty rs hk hb hs _ ih =>
  intro V hn h
  subst hn
  obtain⟨V1,e1,h1⟩:=X3 h hk hb hs
  obtain⟨o,I',V',h2,h3⟩:=ih (V:=V1) e1 h1.has
  exact⟨o,I',V',h2,h1.trans h3⟩
 | adr k r hk _ ih =>
  intro V hn h
  subst hn
  have h1:=R2 h hk
  obtain⟨o,I',V',h2,h3⟩:=ih (V.b k) (V:=V.push 0 undef fun _=>False) rfl h1.has
  exact⟨o,I',V',h2,h1.trans h3⟩
 | lies k B p hk hp _ ih =>
  intro V hn h
  subst hn
  have h1:=R2 h hk
  rw[hp _ _ _ _ (h.each k _ hk).2] at h1
  obtain⟨o,I',V',h2,h3⟩:=ih (V:=V.push 0 undef fun _=>False) rfl h1.has
  exact⟨o,I',V',h2,h1.trans h3⟩
 | fam _ ih =>
  intro V hn h
  subst hn
  have h1:=Z0 h
  obtain⟨o,I',V',h2,h3⟩:=ih (V:=V.push 0 undef fun _=>False) rfl h1.has
  exact⟨o,I',V',h2,h1.trans h3⟩
 | adopt j k ps p hj hk _ ih =>
  intro V hn h
  subst hn
  have h1:=Rw h hj hk
  obtain⟨o,I',V',h2,h3⟩:=ih (V:=⟨V.n,V.b,V.s,fun i=>if i=j then fun c=>V.f j c∨V.f k c else if i=k then fun _=>False else V.f i⟩) rfl h1.has
  exact⟨o,I',V',h2,h1.trans h3⟩
 | frz k rows e sz hk _ ih =>
  intro V hn h
  subst hn
  obtain⟨I1,h1,-,-⟩:=Ec h hk
  obtain⟨o,I',V',h2,h3⟩:=ih (V:=V.drop k) rfl h1.has
  exact⟨o,I',V',h2,h1.trans h3⟩
 | rnm kb k p q ty rows e sz hb hk _ ih =>
  intro V hn h
  subst hn
  obtain⟨V1,e1,h1⟩:=Z2 h hb hk
  obtain⟨o,I',V',h2,h3⟩:=ih (V:=V1) e1 h1.has
  exact⟨o,I',V',h2,h1.trans h3⟩
 | dup j k b hj _ ih =>
  intro V hn h
  subst hn
  have h1:=Z3a h hj
  obtain⟨o,I',V',h2,h3⟩:=ih (V:=V.push 0 undef fun _=>False) rfl h1.has
  exact⟨o,I',V',h2,h1.trans h3⟩
 | move m k j1 j2 b p hm hk h1 h2 _ ih =>
  intro V hn h
  subst hn
  obtain⟨V1,e1,h3⟩:=Wo h hm hk h1 h2
  obtain⟨o,I',V',h4,h5⟩:=ih (V:=V1) e1 h3.has
  exact⟨o,I',V',h4,h3.trans h5⟩
 | take j i ps p hj hi _ ih =>
  intro V hn h
  subst hn
  obtain⟨V1,e1,h1⟩:=Xc h hj hi
  obtain⟨o,I',V',h2,h3⟩:=ih (V:=V1) e1 h1.has
  exact⟨o,I',V',h2,h1.trans h3⟩
 | put j i k ps p hj hi hk _ ih =>
  intro V hn h
  subst hn
  obtain⟨V1,e1,h1⟩:=Ze h hj hi hk
  obtain⟨o,I',V',h2,h3⟩:=ih (V:=V1) e1 h1.has
  exact⟨o,I',V',h2,h1.trans h3⟩
 | view k rows e sz hk _ ih =>
  intro V hn h
  subst hn
  have h1:=Xr h hk
  obtain⟨o,I',V',h2,h3⟩:=ih (V:=V) rfl h1.has
  exact⟨o,I',V',h2,h1.trans h3⟩
 | tail kb k lo hi p q ty rows e sz hb hk hl _ ih =>
  intro V hn h
  subst hn
  obtain⟨V1,e1,h1⟩:=X9 h hb hk hl
  obtain⟨o,I',V',h2,h3⟩:=ih (V:=V1) e1 h1.has
  exact⟨o,I',V',h2,h1.trans h3⟩
 | seen k cs ty hk _ ih =>
  intro V hn h
  subst hn
  have h1:=Xm h hk
  obtain⟨o,I',V',h2,h3⟩:=ih (V:=V) rfl h1.has
  exact⟨o,I',V',h2,h1.trans h3⟩
 | drop k r hk _ ih =>
  intro V hn h
  subst hn
  have h1:=Fp (r:=.gone) h hk (.refl _) h.mem (fun _ _ _=>rfl) (fun b=>by simp[Va.drop])
  obtain⟨o,I',V',h2,h3⟩:=ih (V:=V.drop k) rfl h1.has
  exact⟨o,I',V',h2,h1.trans h3⟩
end
def inC (k:Nat):G→Prop
 | .ptr j _ | .osl j | .osv j _ _ _ | .oel j _ _ _ | .mp j=>j=k
 | _=>False
def in1 (k:Nat):G→Prop
 | .oag l=>∃g∈l,inC k g
 | .clo _ a c=>∃g,(g∈a∨g∈c)∧inC k g
 | g=>inC k g
def Gath (F:List Nat→(List Nat→Prop)→Prop)(p:Nat→Prop):Prop:=∀l:List Nat,∃l':List Nat,(∀K:List Nat→Prop,F l K=K l')∧(∀j,j∈l→j∈l')∧(∀j,p j→j∈l')∧(l.Nodup→l'.Nodup)
theorem Gath.none:Gath (fun l K=>K l) (fun _=>False):=fun l=>⟨l,fun _=>rfl,fun _ h=>h,fun _ h=>h.elim,fun h=>h⟩
theorem Gath.seq {F F':List Nat→(List Nat→Prop)→Prop}{p p':Nat→Prop}(h:Gath F p)(h':Gath F' p'):Gath (fun l K=>F l fun l=>F' l K) (fun j=>p j∨p' j):=fun l=>by
 obtain⟨l1,a1,a2,a3,a4⟩:=h l
 obtain⟨l2,b1,b2,b3,b4⟩:=h' l1
 exact⟨l2,fun K=>(a1 _).trans (b1 K),fun j hj=>b2 j (a2 j hj),fun j hj=>hj.elim (fun h=>b2 j (a3 j h)) (fun h=>b3 j h),fun hn=>b4 (a4 hn)⟩
theorem Gath.sub {F:List Nat→(List Nat→Prop)→Prop}{p p':Nat→Prop}(h:Gath F p)(hp:∀j,p' j→p j):Gath F p':=fun l=>by
 obtain⟨l1,a1,a2,a3,a4⟩:=h l
 exact⟨l1,a1,a2,fun j hj=>a3 j (hp j hj),a4⟩
theorem Hh (k:Nat):Gath (fun l K=>Hk k l K) (fun j=>j=k):=fun l=>by
 induction l with
 | nil=>exact⟨[k],fun _=>rfl,fun j h=>by simp at h,fun j h=>by simp[h],fun _=>by simp⟩
 | cons i l ih =>
  obtain⟨l',h1,h2,h3,h4⟩:=ih
  have hsub:∀j,j∈l'→j∈l∨j=k:=by
   have:∀(l:List Nat) (l':List Nat),(∀K:List Nat→Prop,Hk k l K=K l')→∀j,j∈l'→j∈l∨j=k:=fun l=>by
    induction l with
    | nil=>intro l' h j hj;have e:=h (fun r=>r=[k]);simp[Hk] at e;rw[e] at hj;exact .inr (by simpa using hj)
    | cons i l ih =>
     intro l' h j hj
     cases hb:Nat.beq k i with
     | true =>
      have e:=h (fun r=>r=i::l)
      unfold Hk at e
      rw[hb] at e
      simp at e
      rw[e] at hj
      exact .inl hj
     | false =>
      have e:∃r,l'=i::r∧∀K:List Nat→Prop,Hk k l K=K r:=by
       have key:∀l:List Nat,∃r,∀K:List Nat→Prop,Hk k l K=K r:=fun l=>by
        induction l with
        | nil=>exact⟨[k],fun _=>rfl⟩
        | cons i l ih =>
         obtain⟨r,hr⟩:=ih
         cases hb:Nat.beq k i with
         | true=>exact⟨i::l,fun K=>by unfold Hk;rw[hb]⟩
         | false=>exact⟨i::r,fun K=>by unfold Hk;rw[hb];exact hr _⟩
       obtain⟨r,hr⟩:=key l
       refine⟨r,?_,hr⟩
       have e:=h (fun q=>q=i::r)
       unfold Hk at e
       rw[hb] at e
       dsimp only at e
       rw[hr] at e
       simp at e
       exact e
      obtain⟨r,rfl,hr⟩:=e
      rcases bh.1 hj with rfl | hj
      ·exact .inl (by simp)
      ·exact(ih r hr j hj).imp (fun h=>by simp[h]) id
   exact this l l' h1
  cases hb:Nat.beq k i with
  | true =>
   have:=ai hb
   subst this
   exact⟨k::l,fun K=>by show Hk k (k::l) K=_;unfold Hk;rw[hb],fun j hj=>hj,fun j hj=>by simp[hj],fun h=>h⟩
  | false =>
   refine⟨i::l',fun K=>by show Hk k (i::l) K=_;unfold Hk;rw[hb];exact h1 _,fun j hj=>?_,fun j hj=>by simp[h3 j hj],fun h=>?_⟩
   ·rcases bh.1 hj with rfl | hj
    ·simp
    ·simp[h2 j hj]
   ·have hn:=List.nodup_cons.1 h
    refine List.nodup_cons.2 ⟨fun hm=>?_,h4 hn.2⟩
    rcases hsub i hm with h | h
    ·exact hn.1 h
    ·subst h;rw[Nat.beq_refl] at hb;cases hb
theorem Nd (g:G):Gath (fun l K=>gkC g l K) (fun j=>inC j g):=by
 cases g with
 | ptr k o=>exact(Hh k).sub fun j h=>Eq.symm h
 | osl k=>exact(Hh k).sub fun j h=>Eq.symm h
 | osv k a b c=>exact(Hh k).sub fun j h=>Eq.symm h
 | oel k a b c=>exact(Hh k).sub fun j h=>Eq.symm h
 | mp k=>exact(Hh k).sub fun j h=>Eq.symm h
 | _=>exact Gath.none.sub fun j h=>h
theorem M4:∀l:List G,Gath (fun ks K=>Z9p l ks K) (fun j=>∃g∈l,inC j g)
 | []=>Gath.none.sub fun j h=>by simp at h
 | g::l=>((Nd g).seq (M4 l)).sub fun j ⟨g',h,hk⟩=>by
  rcases bh.1 h with rfl | h
  ·exact .inl hk
  ·exact .inr ⟨g',h,hk⟩
theorem Zf1 (g:G):Gath (fun l K=>gk1 g l K) (fun j=>in1 j g):=by
 cases g with
 | oag l=>exact M4 l
 | clo f a c=>exact((M4 a).seq (M4 c)).sub fun j ⟨g,h,hk⟩=>h.imp (fun h=>⟨g,h,hk⟩) (fun h=>⟨g,h,hk⟩)
 | ptr k o=>exact Nd (.ptr k o)
 | osl k=>exact Nd (.osl k)
 | osv k a b c=>exact Nd (.osv k a b c)
 | oel k a b c=>exact Nd (.oel k a b c)
 | mp k=>exact Nd (.mp k)
 | _=>exact Gath.none.sub fun j h=>h
theorem Z7w:∀l:List G,Gath (fun ks K=>gkL l ks K) (fun j=>∃g∈l,in1 j g)
 | []=>Gath.none.sub fun j h=>by simp at h
 | g::l=>((Zf1 g).seq (Z7w l)).sub fun j ⟨g',h,hk⟩=>by
  rcases bh.1 h with rfl | h
  ·exact .inl hk
  ·exact .inr ⟨g',h,hk⟩
theorem Iy {k:Nat}:∀{ks:List Nat} {j:Nat},k∈ks→∃i,look k (Is ks j)=some (j+i)∧ks[i]?=some k
 | [],_,h=>by simp at h
 | k0::ks,j,h=>by
  unfold Is
  rw[A3]
  by_cases e:k=k0
  ·subst e;exact⟨0,by simp,rfl⟩
  ·rw[da e]
   obtain⟨i,h1,h2⟩:=Iy (ks:=ks) (j:=j+1) ((bh.1 h).resolve_left e)
   exact⟨i+1,by rw[h1];congr 1;omega,by simpa using h2⟩
theorem Qz (own:Os):∀l:List Nat,Gath (fun acc K=>Oi own l acc K) (fun _=>False)
 | []=>Gath.none
 | k::l=>fun acc=>by
  have ih:=Qz own l
  show ∃l':List Nat,(∀K:List Nat→Prop,Oi own (k::l) acc K=K l')∧_
  unfold Oi
  split
  ·exact(((M4 _).seq ih).sub fun j h=>h.elim) acc
  ·exact ih acc
theorem Z28 (own:Os):∀n:Nat,Gath (fun ks K=>trK own n ks K) (fun _=>False)
 | 0=>Gath.none
 | n+1=>fun ks=>by
  obtain⟨l1,a1,a2,-,a4⟩:=Qz own ks ks
  obtain⟨l2,b1,b2,-,b4⟩:=Z28 own n l1
  exact⟨l2,fun K=>(a1 _).trans (b1 K),fun j h=>b2 j (a2 j h),fun j h=>h.elim,fun h=>b4 (a4 h)⟩
theorem Wy {ks:List Nat}{r:R}(h:J3 r=true):Z3m ks r=true:=by
 cases r with
 | lnk j=>cases h
 | adr j b=>cases h
 | blk cs t =>
  have key:∀{l:List G},Av Bm l=true→Av (Zfh ks) l=true:=fun {l}=>by
   induction l with
   | nil=>intro _;rfl
   | cons g l ih =>
    intro h
    unfold Av at h⊢
    cases hg:Bm g with
    | false=>rw[hg] at h;cases h
    | true =>
     rw[hg] at h
     have:Zfh ks g=true:=by cases g<;>first | rfl | cases hg
     rw[this]
     exact ih h
  exact key (show Av Bm cs=true from h)
 | _=>rfl
theorem Z83 {own:Os}{ks0:List Nat}:∀{ks:List Nat} {K:List R→Prop},rsK own ks0 ks K→∃rs:List R,K rs∧rs.length=ks.length∧∀(i k:Nat),ks[i]?=some k→∃r,rs[i]?=some (Hs (Is ks0 0) r)∧look k own=some r∧Z3m ks0 r=true
 | [],K,h=>⟨[],h,rfl,fun i k h=>by simp at h⟩
 | k::ks,K,h=>by
  unfold rsK at h
  cases hr:look k own with
  | none=>rw[hr] at h;exact h.elim
  | some r =>
   rw[hr] at h
   dsimp only at h
   have key:Z3m ks0 r=true→rsK own ks0 ks (fun rs=>K (Hs (Is ks0 0) r::rs))→∃rs:List R,K rs∧rs.length=(k::ks).length∧∀(i k':Nat),(k::ks)[i]?=some k'→∃r,rs[i]?=some (Hs (Is ks0 0) r)∧look k' own=some r∧Z3m ks0 r=true:=fun hi h=>by
    obtain⟨rs,h1,h2,h3⟩:=Z83 h
    refine⟨_,h1,by simp[h2],fun i k' hk=>?_⟩
    cases i with
    | zero=>simp at hk;subst hk;exact⟨r,rfl,hr,hi⟩
    | succ i=>simpa using h3 i k' (by simpa using hk)
   cases hn:J3 r with
   | true =>
    rw[hn] at h
    exact key (Wy hn) (by rw[Jr hn];exact h)
   | false =>
    rw[hn] at h
    dsimp only at h
    cases hi:Z3m ks0 r with
    | false=>rw[hi] at h;exact h.elim
    | true=>rw[hi] at h;exact key hi h
section
variable {P:Program} {I I' I0:Imm} {V V1 V' V0:Va} {w w' w0:World} {own own0 own':Os} {k n N:Nat} {g:G} {x y:Value} {r:R} {ks:List Nat} {rs:List R} {a:Act} {t:Ts} {o:Oper}
theorem L8 (hin:∀k,inC k g→k∈ks)(h:CRep I V g x):CRep I (V.lend ks) (K7 (Is ks 0) g) x:=by
 have key:∀k,inC k g→∃i,(look k (Is ks 0)).getD k=i∧i < ks.length∧(V.lend ks).b i=V.b k∧(V.lend ks).s i=V.s k:=fun k hk=>by
  obtain⟨i,h1,h2⟩:=Iy (j:=0) (hin k hk)
  refine⟨i,by rw[h1];simp,(ac.1 h2).1,?_,?_⟩<;>simp[Va.lend,B3 h2]
 cases g with
 | ptr k o=>obtain⟨i,h1,h2,h3,-⟩:=key k rfl;exact⟨by rw[h1];exact h2,by rw[h1,h3];exact h.2⟩
 | osl k=>obtain⟨i,h1,h2,-,h3⟩:=key k rfl;exact⟨by rw[h1];exact h2,by rw[h1,h3];exact h.2⟩
 | osv k a b c=>obtain⟨i,h1,h2,-,h3⟩:=key k rfl;exact⟨by rw[h1];exact h2,by rw[h1,h3];exact h.2⟩
 | mp k=>obtain⟨i,h1,h2,h3,-⟩:=key k rfl;exact⟨by rw[h1];exact h2,by rw[h1,h3];exact h.2⟩
 | _=>exact h
theorem Z62 {l:List G}{us:List Value}(hin:∀k g,g∈l→inC k g→k∈ks)(h:PW (CRep I V) l us):PW (CRep I (V.lend ks)) (l.map (K7 (Is ks 0))) us :=
 ⟨by simpa using h.1,fun j g u hg hu=>by
  rw[aj] at hg
  obtain⟨g0,h1,h2⟩:=ax.1 hg
  subst h2
  exact L8 (fun k hk=>hin k g0 (ae h1) hk) (h.2 j g0 u h1 hu)⟩
theorem RRep.lendK {j:Nat}(hin:Z3m ks r=true)(h:RRep I V k w r)(hb:(V.lend ks).b j=V.b k)(hs:(V.lend ks).s j=V.s k)(hf:(V.lend ks).f j=V.f k):RRep I (V.lend ks) j w (Hs (Is ks 0) r):=by
 cases r with
 | blk cs t =>
  obtain⟨h1,us,h2,h3⟩:=h
  refine⟨fun b=>by rw[hf,hb];exact h1 b,us,by rw[hb];exact h2,Z62 (fun k g hg hk=>?_) h3⟩
  have hc:=Ac (show Av (Zfh ks) cs=true from hin) g hg
  cases g<;>first | (obtain rfl:=(show _=k from hk);exact Ca.1 hc) | exact hk.elim
 | slc rows e sz=>exact⟨fun b=>by rw[hf,hs];exact h.1 b,by rw[hs];exact h.2⟩
 | vw rows e sz=>exact⟨fun b=>by rw[hf,hs];exact h.1 b,by rw[hs];exact h.2⟩
 | froz rows sz=>exact⟨fun b=>by rw[hf];exact h.1 b,by rw[hs];exact h.2.1,h.2.2⟩
 | gone=>exact fun b=>by rw[hf];exact h b
 | mpI l=>exact⟨fun b=>by rw[hf,hb];exact h.1 b,by rw[hb];exact h.2⟩
 | mpS l=>exact⟨fun b=>by rw[hf,hb];exact h.1 b,by rw[hb];exact h.2⟩
 | sit s pos=>exact⟨fun b=>by rw[hf,hb];exact h.1 b,by rw[hb];exact h.2⟩
 | mpX l m ob=>exact⟨fun b=>by rw[hf,hb];exact h.1 b,by rw[hb];exact h.2⟩
 | mit i l D last m ob=>exact⟨fun b=>by rw[hf,hb];exact h.1 b,by rw[hb];exact h.2⟩
 | abs p=>exact⟨h.1,by rw[hf,hb];exact h.2⟩
 | lnk j=>cases hin
 | adr i b =>
  obtain⟨q1,q2,q3⟩:=h
  obtain⟨i',h1,h2⟩:=Iy (j:=0) (Ca.1 (show Fz i ks=true from hin))
  have e:(look i (Is ks 0)).getD i=i':=by rw[h1];simp
  refine⟨fun c=>by rw[hf];exact q1 c,?_,?_⟩
  ·show(look i (Is ks 0)).getD i < (V.lend ks).n
   rw[e];exact(ac.1 h2).1
  ·show(V.lend ks).b ((look i (Is ks 0)).getD i)=b
   rw[e];simpa [Va.lend,B3 h2] using q3
 | fam ps=>exact⟨h.1,by rw[hf];exact h.2⟩
theorem Z5b (hH:Has I V own w)(hd:ks.Nodup)(hl:rs.length=ks.length)(hr:∀(i k:Nat),ks[i]?=some k→∃r,rs[i]?=some (Hs (Is ks 0) r)∧look k own=some r∧Z3m ks r=true):Has I (V.lend ks) (B7 rs 0) w:=by
 have key:∀i r',look i (B7 rs 0)=some r'→∃k r,ks[i]?=some k∧look k own=some r∧Z3m ks r=true∧r'=Hs (Is ks 0) r:=fun i r' h=>by
  rw[Af] at h
  have hi:=(ac.1 h).1
  have hi':i < ks.length:=by omega
  obtain⟨r,h1,h2,h3⟩:=hr i ks[i] (ab hi')
  rw[h] at h1
  cases h1
  exact⟨_,r,ab hi',h2,h3,rfl⟩
 refine⟨hH.mem,fun i r h=>?_,fun i r h=>?_,fun i r b h hf=>?_,fun i i' r r' b h h' hf hf'=>?_⟩
 ·obtain⟨k,-,h1,-⟩:=key i r h
  exact(ac.1 h1).1
 ·obtain⟨k,r0,h1,h2,h3,rfl⟩:=key i r h
  exact(hH.each k r0 h2).lendK h3 (by simp[Va.lend,B3 h1]) (by simp[Va.lend,B3 h1]) (by simp[Va.lend,B3 h1])
 ·obtain⟨k,r0,h1,h2,-⟩:=key i r h
  have hf:V.f k b:=by simpa [Va.lend,B3 h1] using hf
  exact hH.foot k r0 b h2 hf
 ·obtain⟨k,r0,h1,h2,-⟩:=key i r h
  obtain⟨k',r0',h1',h2',-⟩:=key i' r' h'
  have hf:V.f k b:=by simpa [Va.lend,B3 h1] using hf
  have hf':V.f k' b:=by simpa [Va.lend,B3 h1'] using hf'
  have:=hH.disj k k' r0 r0' b h2 h2' hf hf'
  subst this
  have hi:=(ac.1 h1).1
  exact(List.getElem?_inj hi hd).1 (by rw[h1,h1'])
theorem Z98 (hin:∀k,in1 k g→k∈ks)(h:PRep I V g x):PRep I (V.lend ks) (Pj (Is ks 0) g) x:=by
 cases g with
 | ptr k o=>exact L8 (I:=I) (g:=.ptr k o) hin h
 | osl k=>exact L8 (I:=I) (g:=.osl k) hin h
 | osv k a b c=>exact L8 (I:=I) (g:=.osv k a b c) hin h
 | mp k=>exact L8 (I:=I) (g:=.mp k) hin h
 | oel k i sz off =>
  obtain⟨hk,h⟩:=(show k < V.n∧_ from h)
  obtain⟨i',h1,h2⟩:=Iy (j:=0) (hin k rfl)
  have e:(look k (Is ks 0)).getD k=i':=by rw[h1];simp
  refine(show TRep1 I (V.lend ks) (.oel ((look k (Is ks 0)).getD k) i sz off) x from ?_)
  rw[e]
  exact⟨(ac.1 h2).1,by simpa [Va.lend,B3 h2] using h⟩
 | orv k i s o l c=>cases(show VRep I (.orv k i s o l c) x from h)
 | clo f a c =>
  obtain⟨h0,us,cs,e,h1,h2⟩:=h
  refine⟨?_,us,cs,e,Z62 (fun k g hg hk=>hin k ⟨g,.inl hg,hk⟩) h1,Z62 (fun k g hg hk=>hin k ⟨g,.inr hg,hk⟩) h2⟩
  obtain⟨g,hg,hk⟩:=h0
  have hk2:Bm (K7 (Is ks 0) g)=false:=by cases g<;>first | rfl | cases hk
  exact⟨K7 (Is ks 0) g,hg.imp (fun h=>az.2 ⟨g,h,rfl⟩) (fun h=>az.2 ⟨g,h,rfl⟩),hk2⟩
 | v z=>exact h
 | tt=>exact h
 | ff=>exact h
 | un=>exact h
 | nl=>exact h
 | agg l=>exact h
 | sl l=>exact h
 | oag l =>
  obtain⟨⟨g,hg,hk⟩,cs,e,hp⟩:=(show(∃g∈l,Bm g=false)∧TRep1 I V (.oag l) x from h)
  have hk2:Bm (K7 (Is ks 0) g)=false:=by cases g<;>first | rfl | cases hk
  exact(show(∃g∈l.map (K7 (Is ks 0)),Bm g=false)∧TRep1 I (V.lend ks) (.oag (l.map (K7 (Is ks 0)))) x from⟨⟨_,az.2 ⟨g,hg,rfl⟩,hk2⟩,cs,e,Z62 (fun k g hg hk=>hin k ⟨g,hg,hk⟩) hp⟩)
 | tup l=>cases(show VRep I (.tup l) x from h)
 | elp l o=>cases(show VRep I (.elp l o) x from h)
theorem Wh (own:Os):∀l:Os,Gath (fun ks K=>Ui own l ks K) (fun _=>False)
 | []=>Gath.none
 | (k,r)::l=>fun ks=>by
  have ih:=Wh own l
  have skip:(∀K:List Nat→Prop,Ui own ((k,r)::l) ks K=Ui own l ks K)→∃l':List Nat,(∀K:List Nat→Prop,Ui own ((k,r)::l) ks K=K l')∧(∀j,j∈ks→j∈l')∧(∀j,False→j∈l')∧(ks.Nodup→l'.Nodup):=fun he=>by
   obtain⟨l',h1,h2,h3,h4⟩:=ih ks
   exact⟨l',fun K=>(he K).trans (h1 K),h2,h3,h4⟩
  cases hl:look k own with
  | none=>exact skip fun K=>by show Ui own ((k,r)::l) ks K=_;conv=>lhs;unfold Ui;rw[hl]
  | some q =>
   cases q with
   | fam ps =>
    obtain⟨l1,a1,a2,-,a4⟩:=Hh k ks
    obtain⟨l2,b1,b2,-,b4⟩:=ih l1
    refine⟨l2,fun K=>?_,fun j h=>b2 j (a2 j h),fun j h=>h.elim,fun h=>b4 (a4 h)⟩
    show Ui own ((k,r)::l) ks K=_
    unfold Ui
    rw[hl]
    exact(a1 (fun r=>Ui own l r K)).trans (b1 K)
   | _=>exact skip fun K=>by show Ui own ((k,r)::l) ks K=_;conv=>lhs;unfold Ui;rw[hl]
theorem Z5i (vs:Bool)(gs:List G)(own:Os):Gath (fun ks K=>Za0 vs gs own ks K) (fun _=>False):=fun ks=>by
 cases hb:Zhv vs gs ks with
 | false=>exact⟨ks,fun K=>by show Za0 vs gs own ks K=_;unfold Za0;rw[hb],fun j h=>h,fun j h=>h.elim,fun h=>h⟩
 | true =>
  obtain⟨l',h1,h2,h3,h4⟩:=Wh own own ks
  exact⟨l',fun K=>by show Za0 vs gs own ks K=_;unfold Za0;rw[hb];exact h1 K,h2,h3,h4⟩
def Hb (mo:Mo)(own:Os)(I:Imm)(V:Va)(w:World)(K:G→Os→Nat→Prop)(e:Ending)(w':World):Prop :=
 ∃x g own' I' V',e=.returned x∧K g own' V'.n∧Later own I V w own' I' V' w'∧TRep I' V' g x∧(mo.loose=false→∃ks:List Nat,mo.lends ks=true∧(∀k∈ks,k < V.n)∧(∀b,b < w.heap.size→(∀k∈ks,¬V.f k b)→w'.heap[b]?=w.heap[b]?)∧∀k,k < V.n→∀b,V'.f k b→V.f k b∨(ks≠[]∧((∃k'∈ks,V.f k' b)∨w.heap.size≤b)))
theorem Vf {f:FuncId}{mo:Mo}{gs:List G}{vs:List Value}{B C:Prop}{K:G→Os→Nat→Prop}{Z:Prop}(h:Z1k P f mo gs own V.n B C K)(hH:Has I V own w)(hg:PW (PRep I V) gs vs)(hB:B→Z)(hC:C→Z)(hR:Ent P f∧Calls P f vs.toArray w (Hb mo own I V w K)→Z):Z:=by
 unfold Z1k at h
 obtain⟨ks0,q1,-,q3,q4⟩:=Z7w gs []
 obtain⟨ks1,r1,r2,-,r4⟩:=Z5i mo.isVs gs own ks0
 obtain⟨ks,k1,k2,-,k4⟩:=Z28 own 3 ks1
 have hd:ks.Nodup:=k4 (r4 (q4 (by simp)))
 have k3:∀j,(∃g∈gs,in1 j g)→j∈ks:=fun j h=>k2 j (r2 j (q3 j h))
 have q1:∀K:List Nat→Prop,gkL gs [] K=K ks0:=q1
 have r1:∀K:List Nat→Prop,Za0 mo.isVs gs own ks0 K=K ks1:=r1
 have k1:∀K:List Nat→Prop,trK own 3 ks1 K=K ks:=k1
 rw[q1,r1,k1] at h
 have hargs:PW (PRep I (V.lend ks)) (gs.map (Pj (Is ks 0))) vs:=⟨by simpa using hg.1,fun j g u h1 h2=>by
  rw[aj] at h1
  obtain⟨g0,h3,rfl⟩:=ax.1 h1
  exact Z98 (fun k hk=>k3 k ⟨g0,ae h3,hk⟩) (hg.2 j g0 u h3 h2)⟩
 have main:mo.lends ks=true→∀rs:List R,rs.length=ks.length→(∀(i k:Nat),ks[i]?=some k→∃r,rs[i]?=some (Hs (Is ks 0) r)∧look k own=some r∧Z3m ks r=true)→FnO P f (gs.map (Pj (Is ks 0))) rs (fun g rs=>Z60 ks own V.n g rs K)→Ent P f∧Calls P f vs.toArray w (Hb mo own I V w K):=fun hlend rs hl hr hF=>by
  refine⟨hF.1,(hF.2 I (V.lend ks) w vs (Z5b hH hd hl hr) (by rw[hl];rfl) hargs).mono fun e w' ⟨x,g,rs',I',V1,he,hq,hn,h1,hx,hfro,hle⟩=>?_⟩
  obtain⟨l1,l2⟩:=Xv hH hd hl (fun i k hk=>by obtain⟨r,h1,h2,-⟩:=hr i k hk;exact⟨r,_,h1,h2⟩) hn h1 hfro hle
  have lent:∀j r b,look j (B7 rs 0)=some r→(V.lend ks).f j b→∃k∈ks,V.f k b:=fun j r b h hf=>by
   rw[Af] at h
   have hj:=(ac.1 h).1
   have hj':j < ks.length:=by omega
   have e:=B3 (n:=0) (ab hj':ks[j]?=some ks[j])
   exact⟨ks[j],bl hj',by simpa [Va.lend,e] using hf⟩
  refine⟨x,_,_,I',V.back ks V1,he,(by
   have:=Zb1 hq
   rw[show V.n+(rs'.length - ks.length)=(V.back ks V1).n by show _=V.n+(V1.n - ks.length);rw[hn]] at this
   exact this),l1,l2 g x hx.to_t,fun _=>⟨ks,hlend,fun k hk=>?_,fun b hb hno=>(hfro.blk b hb fun j r hj hf=>?_).1,fun k hk b hb=>?_⟩⟩
  ·obtain⟨i,hi,e⟩:=cf.1 hk
   obtain⟨r,-,h2,-⟩:=hr i k (by rw[ab hi,e])
   exact hH.num k r h2
  ·obtain⟨k,h2,h3⟩:=lent j r b hj hf
   exact hno k h2 h3
  ·rcases hb with⟨i,hi,e,hf⟩ | ⟨-,hf⟩
   ·cases hks:ks with
    | nil=>subst hks;rw[Dq] at e;omega
    | cons k0 ks0 =>
     rw[←hks]
     refine .inr ⟨by rw[hks];simp,?_⟩
     by_cases hlt:b < w.heap.size
     ·have hi':i < rs'.length:=by omega
      obtain⟨j,r',hj,hf'⟩:=hfro.foot i _ b (by rw[Af];exact ab hi') hf hlt
      exact .inl (lent j r' b hj hf')
     ·exact .inr (by omega)
   ·exact .inl hf
 cases hlend:mo.lends ks with
 | false=>rw[hlend] at h;exact h.elim
 | true =>
  rw[hlend] at h
  dsimp only at h
  cases ks with
  | nil =>
   cases h with
   | lend h=>exact hB h
   | gh h=>exact hC h
   | pure h =>
    refine hR (main hlend [] rfl (fun i k h=>by simp at h) ?_)
    have e:gs.map (Pj (Is [] 0))=gs:=by
     show gs.map (Pj [])=gs
     rw[funext Vj];simp
    rw[e]
    exact h
  | cons k0 ks0 =>
   obtain⟨rs,h1,h2,h3⟩:=Z83 h
   cases h1 with
   | lend h=>exact hB h
   | gh h=>exact hC h
   | pure h=>exact hR (main hlend rs h2 h3 h)
theorem Zag (h:TRep I V g x)(hl:g.lent=true):PRep I V (Z8n g) x:=by
 cases g with
 | nl=>cases(show VRep I .nl x from h);exact .sl [] none 0 0 (fun _ _=>undef) (af _) (fun _=>rfl) (by simp) (fun i r h=>by simp at h) (fun i r j g h=>by simp at h)
 | tt=>cases(show VRep I .tt x from h);exact .v _
 | ff=>cases(show VRep I .ff x from h);exact .v _
 | oag l =>
  have key:∀{l:List G},Ri (fun g=>match Bm g with | true=>false | false=>true) l=true→∃g∈l,Bm g=false:=fun {l} hl=>by
   induction l with
   | nil=>cases hl
   | cons g l ih =>
    unfold Ri at hl
    cases hg:Bm g with
    | false=>exact⟨g,by simp,hg⟩
    | true =>
     rw[hg] at hl
     obtain⟨g',h1,h2⟩:=ih hl
     exact⟨g',by simp[h1],h2⟩
  exact⟨key hl,h⟩
 | tup l=>cases hl
 | orv k i s o l c=>cases hl
 | elp l o=>cases hl
 | _=>exact h
theorem Oj {f:FuncId}{mo:Mo}{gs:List G}{vs:List Value}{C:Prop}{K:G→Os→Nat→Prop}(h:lendK P f mo gs own V.n C K)(hH:Has I V own w)(hg:PW (TRep I V) gs vs)(hC:C→Ent P f∧Calls P f vs.toArray w (Hb mo own I V w K)):Ent P f∧Calls P f vs.toArray w (Hb mo own I V w K):=by
 unfold lendK at h
 split at h
 ·next hl =>
  refine Vf h hH ⟨by simpa using hg.1,fun j g u h1 h2=>?_⟩ False.elim hC id
  rw[aj] at h1
  obtain⟨g0,h3,rfl⟩:=ax.1 h1
  exact Zag (hg.2 j g0 u h3 h2) (Ac hl g0 (ae h3))
 ·exact h.elim
theorem Vy {k ty off l m:Nat}{cs:List G}(hH:Has I V own w)(hk:look k own=some (.blk cs ty))(hl:l≤m∧off+l≤cs.length)(hv:Av Gb ((cs.drop off).take l)=true):∃I':Imm,Mem I' w∧I.le I'∧(∀b o,b≠V.b k→I' b o=I b o)∧VRep I' (.sl (((cs.drop off).take l).map fun g=>[g])) (.slice (some ⟨V.b k,off,none⟩) l m):=by
 obtain⟨us,h1,h2,h3⟩:=Lv hH hk
 have hf:=(hH.each k _ hk).1
 have hno:=(hH.foot k _ (V.b k) hk ((hf _).2 rfl)).2
 have h2':PW (CRep I V) ((cs.drop off).take l) ((us.drop off).take l):=by
  refine⟨by have:=h2.1;simp;omega,fun j g u hg hu=>h2.2 (off+j) g u (Pn hg) ?_⟩
  rw[bi] at hu
  split at hu
  ·rwa [bu] at hu
  ·cases hu
 obtain⟨e1,-⟩:=Kw hv h2'
 refine⟨fun b o=>if b=V.b k then us[o]? else I b o,fun b o x hx=>?_,fun b o x hx=>?_,fun b o hb=>da hb,?_⟩
 ·change (if b=V.b k then _ else I b o)=_ at hx
  split at hx
  ·next e=>rw[e,h3];exact hx
  ·exact hH.mem b o x hx
 ·show(if b=V.b k then _ else I b o)=_
  rw[da (fun e=>by rw[e,hno o] at hx;cases hx)]
  exact hx
 ·have hl2:(((cs.drop off).take l).map fun g=>[g]).length=l:=by simp;omega
  conv=>rhs;rw[←hl2]
  refine .sl _ (some ⟨V.b k,off,none⟩) _ 1 (fun i _=>us.getD (off+i) undef) (by omega) (fun e=>by cases e) (fun r hr=>?_) (fun i r hr=>⟨V.b k,off,rfl,fun j hj=>?_⟩) fun i r j g hr hg=>?_
  ·obtain⟨g,-,rfl⟩:=az.1 hr
   rfl
  ·have hi:i < l:=by have:=(ac.1 hr).1;omega
   have e0:off+i * 1+j=off+i:=by omega
   rw[e0]
   show(if V.b k=V.b k then us[off+i]? else _)=_
   rw[db rfl]
   have:off+i < us.length:=by have:=h2.1;omega
   simp[this]
  ·rw[aj] at hr
   obtain⟨g0,h5,rfl⟩:=ax.1 hr
   rw[e1,aj] at h5
   obtain⟨u,h6,rfl⟩:=ax.1 h5
   have h6:us[off+i]?=some u:=by
    rw[bi] at h6
    split at h6
    ·rwa [bu] at h6
    ·cases h6
   cases j with
   | zero =>
    simp at hg
    subst hg
    simp only[List.getD,h6,Option.getD_some]
    exact .v u
   | succ j=>simp at hg
theorem Z7m {g:G}{x:Value}(hH:Has I V own w)(h:TRep I V g x):TRep I V (Z17 own g) x:=by
 have cc:∀{g:G} {x:Value},CRep I V g x→CRep I V (Eo own g) x:=fun {g x} h=>Md hH h
 cases g with
 | osl k=>exact .of_c (cc (g:=.osl k) h)
 | osv k sz lo hi=>exact .of_c (cc (g:=.osv k sz lo hi) h)
 | oag l =>
  unfold Z17
  dsimp only
  split
  ·next hp =>
   obtain⟨cs,rfl,h2⟩:=(show TRep1 I V (.oag l) x from h)
   refine .of_v (.agg _ cs (by simpa using h2.1) fun j g u h3 h4=>?_)
   have h5:=Ac hp g (ae h3)
   rw[aj] at h3
   obtain⟨g0,h6,rfl⟩:=ax.1 h3
   exact(cc (h2.2 j g0 u h6 h4)).to_v h5
  ·exact h
 | _=>exact h
theorem Z15 {f:FuncId}{gs:List G}{K:G→Os→Nat→Prop}{n:Nat}(h:Z3x P f own n K gs)(hH:Has I V own w):∀{vs:List Value},V.n=n→PW (TRep I V) gs vs→Ent P f∧Calls P f vs.toArray w fun e w'=>∃x g own' I' V',e=.returned x∧K g own' V'.n∧Later own I V w own' I' V' w'∧TRep I' V' g x:=by
 induction h with
 | same h =>
  intro vs hn hg
  subst hn
  obtain⟨k1,k2⟩:=Oj h hH hg False.elim
  refine⟨k1,k2.mono fun e w' ⟨x,g,own',I',V',he,h3,hl,hx,hm⟩=>?_⟩
  obtain⟨own2,I2,V2,hk,l2⟩:=Sv h3 rfl hl.has
  exact⟨x,g,own2,I2,V2,he,hk,hl.trans l2,hx.mono l2.fro.mono l2.va⟩
 | see _ ih =>
  intro vs hn hg
  refine ih hn ⟨by simpa using hg.1,fun j g u h1 h2=>?_⟩
  rw[aj] at h1
  obtain⟨g0,h3,rfl⟩:=ax.1 h1
  exact Z7m hH (hg.2 j g0 u h3 h2)
 | raw j k hj _ ih =>
  intro vs hn hg
  refine ih hn ?_
  obtain⟨v,vs',rfl,hv,hn⟩:=hg.uncons
  have e:=As hv
  subst e
  obtain⟨-,hkn,hb⟩:=hH.each j _ hj
  exact .cons (.of_c (g:=.ptr k _) ⟨hkn,by rw[hb]⟩) hn
 | snap cs ty u hk hl hv hf h =>
  intro vs hn hg
  subst hn
  obtain⟨v,vs',rfl,hx,hn⟩:=hg.uncons
  obtain rfl:=hn.of_nil
  obtain⟨I2,m1,m2,m3,m4⟩:=Vy hH hk hl hv
  obtain⟨hkn,b,q0,hb,hx⟩:=hx
  obtain⟨rfl,rfl⟩:=(show b=_∧q0=0 from hb)
  rw[Nat.zero_mul,ca,ca] at hx
  subst hx
  refine⟨hf.1,(hf.2 I2 w _ m1 (.cons m4 .nil)).mono fun e w' ⟨x,g,I',he,hq,hm,hx,_,_,hB⟩=>?_⟩
  subst hq
  cases(show VRep I' (.v u) x from hx)
  have hl:Later own I V w own I V w':=Fg hH (hH.mem.keep fun b _ _ hx=>hB.block b (hH.mem.lt hx)) (.refl _) (fun _ _ _=>rfl) hB
  obtain⟨own2,I3,V2,hk2,l2⟩:=Sv h rfl hl.has
  exact⟨_,_,own2,I3,V2,he,hk2,hl.trans l2,.of_v (.v _)⟩
open Classical in
theorem Z67 (hH:Has I V own w):∃I2:Imm,Mem I2 w∧∀g x,TRep I V g x→(Xa own g).pure=true→VRep I2 (Xa own g) x:=by
 refine⟨fun b o=>if ∃k rows e sz,look k own=some (.slc rows e sz)∧V.f k b then w.cell? ⟨b,o,none⟩ else I b o,fun b o x hx=>?_,fun g x h hp=>?_⟩
 ·change (if _ then _ else I b o)=_ at hx
  split at hx
  ·exact hx
  ·exact hH.mem b o x hx
 have hle:I.le (fun b o=>if ∃k rows e sz,look k own=some (.slc rows e sz)∧V.f k b then w.cell? ⟨b,o,none⟩ else I b o):=fun b o x hx=>by
  show(if _ then _ else I b o)=_
  rw[da]
  ·exact hx
  ·rintro⟨k,rows,e,sz,h1,h2⟩
   have:=(hH.foot k _ b h1 h2).2 o
   rw[hx] at this;cases this
 cases g with
 | osl k =>
  obtain⟨hkn,rfl⟩:=(show k < V.n∧x=V.s k from h)
  unfold Xa at hp⊢
  dsimp only at hp⊢
  split at hp
  ·next rows e sz hk =>
   obtain⟨hf,rs,⟨h0,h1⟩,h2,h3,h4,h5,h6⟩:=hH.each k _ hk
   rcases h1 with⟨e1,hr0⟩ | ⟨g,cap,cur,e1,-,hg,hn,hm,hc,ht⟩
   ·have hr:rows=[]:=al hr0
    subst hr
    rw[e1]
    exact .sl [] none 0 sz (fun _ _=>undef) (af _) (fun _=>rfl) (by simp) (fun i r h=>by simp at h) (fun i r j g h=>by simp at h)
   ·obtain⟨rs',cur',hg',g2,g3,g4,g5,-,-,-,-,-,g6⟩:=Ng hH hk e1
    have hfg:V.f k g:=(hf g).2 (by rw[e1];rfl)
    rw[e1]
    refine .sl rows (some ⟨g,0,none⟩) cap sz (fun i j=>((rs'[i]?.getD [])[j]?).getD undef) hn (fun e=>by cases e) (fun r hr=>?_) (fun i r hr=>⟨g,0,rfl,fun j hj=>?_⟩) fun i r j g' hr hgr=>?_
    ·obtain⟨i,hi,e⟩:=cf.1 hr
     have hi':i < rs'.length:=by omega
     have hp:=g3 i r rs'[i] (by rw[ab hi,e]) (ab hi')
     rw[hp.1];exact g4 _ (bl hi')
    ·have hi:=(ac.1 hr).1
     have hi':i < rs'.length:=by omega
     have hjl:j < rs'[i].length:=by rw[g4 _ (bl hi')];exact hj
     show(if _ then _ else _)=_
     rw[db ⟨k,rows,e,sz,hk,hfg⟩,ab hi']
     show _=some ((rs'[i][j]?).getD undef)
     rw[ab hjl]
     have:=g6 i rs'[i] j rs'[i][j] (ab hi') (ab hjl)
     rw[ca]
     exact this
    ·have hi:=(ac.1 hr).1
     have hi':i < rs'.length:=by omega
     have hp:=g3 i r rs'[i] hr (ab hi')
     have hjl:j < rs'[i].length:=by rw[←hp.1];exact(ac.1 hgr).1
     have:=hp.2 j g' rs'[i][j] hgr (ab hjl)
     rw[ab hi']
     show VRep _ g' ((rs'[i][j]?).getD undef)
     rw[ab hjl]
     exact this.mono hle
  ·cases hp
 | v z=>exact VRep.mono (show VRep I (.v z) x from h) hle
 | un=>exact VRep.mono (show VRep I .un x from h) hle
 | agg l=>exact VRep.mono (show VRep I (.agg l) x from h) hle
 | sl l=>exact VRep.mono (show VRep I (.sl l) x from h) hle
 | _=>cases hp
theorem Z1u {f:FuncId}{mo:Mo}{gs:List G}{vs:List Value}{K:G→Os→Nat→Prop}(h:ghK P f mo gs own V.n K)(hH:Has I V own w)(hg:PW (TRep I V) gs vs):Ent P f∧Calls P f vs.toArray w (Hb mo own I V w K):=by
 cases mo with
 | row =>
  obtain⟨own1,I1,V1,h2,l1⟩:=Sv h rfl hH
  obtain⟨k1,k2⟩:=Z15 h2 l1.has rfl (hg.mono fun _ _ h=>h.mono l1.fro.mono l1.va)
  exact⟨k1,k2.mono fun e w' ⟨x,g,own2,I2,V2,he,hk,hl,hx⟩=>⟨x,g,own2,I2,V2,he,hk,l1.trans hl,hx,fun hmo=>by cases hmo⟩⟩
 | late =>
  obtain⟨own1,I1,V1,h2,l1⟩:=Sv h rfl hH
  obtain⟨k1,k2⟩:=Z15 h2 l1.has rfl (hg.mono fun _ _ h=>h.mono l1.fro.mono l1.va)
  exact⟨k1,k2.mono fun e w' ⟨x,g,own2,I2,V2,he,hk,hl,hx⟩=>⟨x,g,own2,I2,V2,he,hk,l1.trans hl,hx,fun hmo=>by cases hmo⟩⟩
 | new =>
  cases(show EvSn P f own V.n K gs from h) with
  | snap cs ty u hk hl hv hf hK =>
   obtain⟨v,vs',rfl,hx,hn⟩:=hg.uncons
   obtain rfl:=hn.of_nil
   obtain⟨I2,m1,m2,m3,m4⟩:=Vy hH hk hl hv
   obtain⟨hkn,b,q0,hb,hx⟩:=hx
   obtain⟨rfl,rfl⟩:=(show b=_∧q0=0 from hb)
   rw[Nat.zero_mul,ca,ca] at hx
   subst hx
   refine⟨hf.1,(hf.2 I2 w _ m1 (.cons m4 .nil)).mono fun e w' ⟨x,g,I',he,hq,hm,hx,_,_,hB⟩=>?_⟩
   subst hq
   cases(show VRep I' (.v u) x from hx)
   have hl:Later own I V w own I V w':=Fg hH (hH.mem.keep fun b _ _ hx=>hB.block b (hH.mem.lt hx)) (.refl _) (fun _ _ _=>rfl) hB
   exact⟨_,_,own,I,V,he,hK,hl,.of_v (.v _),fun _=>⟨[],rfl,fun k hk=>(by cases hk),fun b hb _=>hB.block b hb,fun k _ b hf=>.inl hf⟩⟩
  | peek hp hf =>
   obtain⟨I2,m1,m2⟩:=Z67 hH
   have hpw:PW (VRep I2) (gs.map (Xa own)) vs:=⟨by simpa using hg.1,fun j g u h1 h2=>by
    rw[aj] at h1
    obtain⟨g0,h3,rfl⟩:=ax.1 h1
    exact m2 g0 u (hg.2 j g0 u h3 h2) (Ac hp _ (az.2 ⟨g0,ae h3,rfl⟩))⟩
   refine⟨hf.1,(hf.2 I2 w _ m1 hpw).mono fun e w' ⟨x,g,I',he,⟨hq,hK⟩,hm,hx,_,_,hB⟩=>?_⟩
   have hl:Later own I V w own I V w':=Fg hH (hH.mem.keep fun b _ _ hx=>hB.block b (hH.mem.lt hx)) (.refl _) (fun _ _ _=>rfl) hB
   have hgx:TRep I V g x:=by
    cases g with
    | v u =>
     cases(show VRep I' (.v u) x from hx)
     exact .of_v (.v _)
    | _=>cases hq
   exact⟨_,_,own,I,V,he,hK,hl,hgx,fun _=>⟨[],rfl,fun k hk=>(by cases hk),fun b hb _=>hB.block b hb,fun k _ b hf=>.inl hf⟩⟩
 | _=>exact h.elim
theorem Z3v {f:FuncId}{mo:Mo}{gs p q:List G}{vs:List Value}{K:G→Os→Nat→Prop}(h:Om P f mo gs p q own V.n K)(hH:Has I V own w)(hg:PW (TRep I V) (p++(gs++q)) vs):Ent P f∧Calls P f vs.toArray w (Hb mo own I V w K):=by
 unfold Om at h
 split at h
 ·exact Z1u h hH hg
 split at h
 ·exact Oj h hH hg fun hc=>Z1u hc hH hg
 ·obtain⟨gs',o1,I1,V1,h1,hn1,hl1,hv1⟩:=Z1m h hg hH
  have h1:Z1k P f mo gs' o1 V1.n (lendK P f mo (p++(gs++q)) own V.n False K) (ghK P f mo (p++(gs++q)) own V.n K) K:=by rw[hn1.1];exact h1
  refine Vf h1 hl1.has hv1 (fun hb=>Oj hb hH hg False.elim) (fun hc=>Z1u hc hH hg) fun⟨k1,k2⟩=>?_
  refine⟨k1,k2.mono fun e w' ⟨x,g,own',I',V',he,hk,hl,hx,hm⟩=>⟨x,g,own',I',V',he,hk,hl1.trans hl,hx,fun hmo=>?_⟩⟩
  obtain⟨ks,m1,m2,m3,m4⟩:=hm hmo
  have hkn:∀k∈ks,k < V.n:=fun k hk=>by have:=m2 k hk;omega
  refine⟨ks,m1,hkn,fun b hb hno=>m3 b hb fun k hk hf=>hno k hk (hn1.2 k (hkn k hk) b hf),fun k hk b hb=>?_⟩
  rcases m4 k (by omega) b hb with h | ⟨h,⟨k',h2,h3⟩ | h3⟩
  ·exact .inl (hn1.2 k hk b h)
  ·exact .inr ⟨h,.inl ⟨k',h2,hn1.2 k' (hkn k' h2) b h3⟩⟩
  ·exact .inr ⟨h,.inr h3⟩
theorem Pr {f:FuncId}(he:Ent P f)(w:World)(args:Array Value):(callFunc f args).run P w=.ok (.enter f args) w:=by
 obtain⟨fn,hf,hname,hbody⟩:=he
 have hname':¬fn.name="runtime.NumGoroutine" := by simpa using hname
 cases hb:fn.body with
 | none=>rw[hb] at hbody;cases hbody
 | some c=>simp[callFunc,hf,hname',hb]
def Zal (P:Program)(t:Ts)(own:Os)(n:Nat)(mo:Mo)(cl:Call)(d:Option Tmp)(fo:Operand)(K:Ts→Os→Nat→Prop):Prop:=match fo with
 | .func f=>evs t own cl.args.toList fun gs=>Om P f mo gs [] [] own n fun g w n=>K (put d g t) w n
 | .tmp j=>match look j t with
  | some (.clo f p q)=>evs t own cl.args.toList fun gs=>Om P f mo gs p q own n fun g w n=>K (put d g t) w n
  | some (.v (.func (.func f) p q))=>match p.toList,q.toList with
   | [],[]=>evs t own cl.args.toList fun gs=>Om P f mo gs [] [] own n fun g w n=>K (put d g t) w n
   | _,_=>False
  | _=>False
 | _=>False
theorem Zx {mo:Mo}{cl:Call}{K:Ts→Os→Nat→Prop}{d:Option Tmp}{fo:Operand}(ha:ARep N I V a t)(hH:Has I V own w)(h:Zal P t own n mo cl d fo K)(hfo:cl.callee=.value fo):∃(f:FuncId) (gs p q:List G) (vs:List Value),Om P f mo gs p q own n (fun g w n=>K (put d g t) w n)∧PW (TRep I V) (p++(gs++q)) vs∧∀ty (u:World),(do let d ←resolve a.eval cl ty;invoke d.target d.args:Sem Next).run P u=(callFunc f vs.toArray).run P u:=by
 unfold Zal at h
 obtain⟨callee,args,ats⟩:=cl
 dsimp only at hfo
 subst hfo
 have e:∀l:Array Operand,(l.toList.map a.eval).toArray=l.map a.eval:=fun l=>by cases l;simp
 cases fo with
 | func f =>
  dsimp only at h
  obtain⟨gs,hk,hg⟩:=Nj h ha hH
  refine⟨f,gs,[],[],_,hk,by simpa using hg,fun ty u=>?_⟩
  have hev:a.eval (.func f)=.func (.func f) #[] #[]:=rfl
  simp[resolve,Deferred.ofValue,hev,invoke,e]
 | tmp d =>
  dsimp only at h
  cases hl:look d t with
  | none=>rw[hl] at h;exact h.elim
  | some g =>
   rw[hl] at h
   obtain⟨z,hz,hgz⟩:=ha.get _ _ hl
   have hev:a.eval (.tmp d)=z:=by simp[Act.eval,hz]
   cases g with
   | clo f p q =>
    obtain⟨gs,hk,hg⟩:=Nj h ha hH
    obtain⟨-,us,cs,rfl,hp,hq⟩:=(show TRep1 I V (.clo f p q) z from hgz)
    refine⟨f,gs,p,q,us++(args.toList.map a.eval++cs),hk,(hp.mono fun _ _ h=>.of_c h).append (hg.append (hq.mono fun _ _ h=>.of_c h)),fun ty u=>?_⟩
    simp[resolve,Deferred.ofValue,hev,invoke,←e]
   | v z' =>
    have ez:=As hgz
    subst ez
    split at h
    ·next f p q heq =>
     cases heq
    ·next f p q heq =>
     cases heq
     split at h
     ·next h1 h2 =>
      obtain⟨gs,hk,hg⟩:=Nj h ha hH
      refine⟨f,gs,[],[],_,hk,by simpa using hg,fun ty u=>?_⟩
      have e1:p=#[]:=by cases p;simp at h1;simp[h1]
      have e2:q=#[]:=by cases q;simp at h2;simp[h2]
      subst e1 e2
      simp[resolve,Deferred.ofValue,hev,invoke,e]
     ·exact h.elim
    ·exact h.elim
   | _=>exact h.elim
 | _=>exact False.elim h
variable {XL:List Nat} {K:Ts→Os→Nat→Prop} {next:Act→World→Prop} {Q:Exit→Act→World→Prop}
theorem P2 {mo:Mo}{cl:Call}{fo:Operand}(ho:o.op=.call cl)(hfo:cl.callee=.value fo)(hH:Has I V own w)(ha:ARep N I V a t)(hd:∀i,o.dst=some i→i < N)(h:Zal P t own V.n mo cl o.dst fo K)
  (hn:∀t own' I' V' a' w',K t own' V'.n→Later own I V w own' I' V' w'→(mo.loose=false→∃ks:List Nat,mo.lends ks=true∧(∀k∈ks,k < V.n)∧(∀b,b < w.heap.size→(∀k∈ks,¬V.f k b)→w'.heap[b]?=w.heap[b]?)∧∀k,k < V.n→∀b,V'.f k b→V.f k b∨(ks≠[]∧((∃k'∈ks,V.f k' b)∨w.heap.size≤b)))→ARep N I' V' a' t→next a' w'):o.wp P a w next Q:=by
 obtain⟨f,gs,p,q,vs,hF,hg,hrun⟩:=Zx ha hH h hfo
 obtain⟨k1,k2⟩:=Z3v hF hH hg
 have hrun:(execOp a.eval o).run P w=.ok (.enter f vs.toArray) w:=by
  have:=(hrun o.type w).trans (Pr k1 w vs.toArray)
  simpa only[execOp,ho] using this
 unfold Oper.wp
 rw[hrun,Oper.upon_enter]
 refine k2.mono fun e w' ⟨x,g,own',I',V',he,hk,hl,hx,hm⟩=>?_
 subst he
 exact hn _ _ _ _ _ _ hk hl hm ((ha.mono hl.fro.mono hl.va).put hd hx)
theorem FnV.toO {f:FuncId}{gs:List G}{Q:G→Prop}(h:FnV P f gs Q):FnO P f gs [] fun g rs=>rs=[]∧Q g :=
 ⟨h.1,fun I V w vs hH hn hp=>by
  have hp':PW (VRep I) gs vs:=hp.mono fun g x h=>by
   have hn:V.n=0:=hn
   cases g with
   | ptr k o=>have:=h.1;omega
   | osl k=>have:=h.1;omega
   | osv k a b c=>have:=h.1;omega
   | oel k a b c=>have:=h.1;omega
   | orv k a b c d e=>cases(show VRep I (.orv k a b c d e) x from h)
   | mp k=>have:=h.1;omega
   | clo f a c =>
    obtain⟨⟨g,hg,hk⟩,us,cs,-,h1,h2⟩:=h
    have key:∀{l:List G} {us:List Value},g∈l→PW (CRep I V) l us→False:=fun hm hp=>by
     obtain⟨j,hj,e⟩:=cf.1 hm
     obtain⟨u,-,hr⟩:=hp.get (by rw[ab hj,e])
     cases g with
     | ptr k o=>have:=hr.1;omega
     | osl k=>have:=hr.1;omega
     | osv k a b c=>have:=hr.1;omega
     | oel k a b c=>exact hr
     | orv k a b c d e=>exact hr
     | mp k=>have:=hr.1;omega
     | _=>cases hk
    rcases hg with hg | hg
    ·exact(key hg h1).elim
    ·exact(key hg h2).elim
   | oag l =>
    obtain⟨⟨g,hg,hk⟩,cs,e,hp⟩:=(show(∃g∈l,Bm g=false)∧TRep1 I V (.oag l) x from h)
    exfalso
    obtain⟨j,hj,e⟩:=cf.1 hg
    obtain⟨u,-,hr⟩:=hp.get (by rw[ab hj,e])
    cases g with
    | ptr k o=>have:=hr.1;omega
    | osl k=>have:=hr.1;omega
    | osv k a b c=>have:=hr.1;omega
    | oel k a b c=>exact hr
    | orv k a b c d e=>exact hr
    | mp k=>have:=hr.1;omega
    | _=>cases hk
   | _=>exact h
  refine(h.2 I w vs hH.mem hp').mono fun e w' ⟨x,g,I',he,hq,hm,hx,hle,hI,hB⟩=>⟨x,g,[],I',V,he,⟨rfl,hq⟩,hn,⟨hm,fun k r h=>(by cases h),fun k r h=>(by cases h),fun k r b h=>(by cases h),fun k k' r r' b h=>(by cases h)⟩,?_,⟨hB.os,hB.tape,hB.output,hB.size,fun b hb _=>⟨hB.block b hb,fun o=>hI b o hb⟩,hle,fun k r b h=>(by cases h)⟩,.refl _⟩
  cases g with
  | tup l=>obtain⟨cs,e,hp⟩:=hx;exact⟨cs,e,hp.mono fun _ _ h=>.of_v h⟩
  | oag l=>cases(show VRep I' (.oag l) x from hx)
  | _=>exact PRep.of_v (V:=V) hx⟩
theorem FnO.mono {f:FuncId}{gs:List G}{rs:List R}{Q Q':G→List R→Prop}(h:FnO P f gs rs Q)(hq:∀g rs,Q g rs→Q' g rs):FnO P f gs rs Q' :=
 ⟨h.1,fun I V w vs h1 h2 h3=>(h.2 I V w vs h1 h2 h3).mono fun _ _ ⟨x,g,rs',I',V',e,k1,k2⟩=>⟨x,g,rs',I',V',e,hq _ _ k1,k2⟩⟩
theorem FnV.cal {f:FuncId}{gs:List G}{Q:G→Prop}{K:G→Os→Nat→Prop}{B C:Prop}(h:FnV P f gs Q)(hk:∀g,Q g→Z60 [] own n g [] K):EvCall (FnO P f gs [] fun g rs=>Z60 [] own n g rs K) B C :=
 .pure (h.toO.mono fun g rs ⟨e,hq⟩=>by rw[e];exact hk g hq)
theorem FnV.con {f:FuncId}{gs:List G}{g:G}{x:Value}{K:G→Prop}(h:FnV P f gs fun q=>q=g)(hx:Z8g g=some x)(hk:K g):Z97 P f gs K:=⟨g,x,hx,h,hk⟩
theorem FnO.cal {f:FuncId}{gs:List G}{rs:List R}{Q:G→List R→Prop}{K:G→Os→Nat→Prop}{B C:Prop}(h:FnO P f gs rs Q)(hk:∀g rs,Q g rs→Z60 ks own n g rs K):EvCall (FnO P f gs rs fun g rs=>Z60 ks own n g rs K) B C :=
 .pure (h.mono hk)
end
section
variable {κ:Type} {I:Imm} {u:G} {v:Value}
theorem Al.len:∀{l:List (κ × G)} {L:List (κ × Value)},Al I l L→L.length=l.length
 | [],[],_=>rfl
 | _::_,_::_,h=>by simp[Al.len h.2.2]
theorem Al.app (k:κ):∀{l:List (κ × G)} {L:List (κ × Value)},Al I l L→VRep I u v→Al I (l++[(k,u)]) (L++[(k,v)])
 | [],[],_,h=>⟨rfl,h,trivial⟩
 | _::_,_::_,h,h'=>⟨h.1,h.2.1,Al.app k h.2.2 h'⟩
variable [DecidableEq κ]
theorem Al.get (k:κ):∀{l:List (κ × G)} {L:List (κ × Value)},Al I l L→(Z6l l k=none→Z6l L k=none)∧∀g,Z6l l k=some g→∃v,Z6l L k=some v∧VRep I g v
 | [],[],_=>⟨fun _=>rfl,fun g h=>by cases h⟩
 | (j,g0)::l,(j',v0)::L,h=>by
  obtain⟨e,h1,h2⟩:=h
  have e:j'=j:=e
  subst e
  obtain⟨i1,i2⟩:=Al.get k h2
  rw[Qa,Qa]
  by_cases hk:j'=k
  ·subst hk
   simp only[if_pos]
   exact⟨fun h=>(by cases h),fun g h=>(by cases h;exact⟨_,rfl,h1⟩)⟩
  ·simp only[if_neg hk]
   exact⟨i1,i2⟩
theorem Al.upd (k:κ):∀{l:List (κ × G)} {L:List (κ × Value)},Al I l L→VRep I u v→Al I (l.map fun p=>if p.1=k then(k,u) else p) (L.map fun p=>if p.1=k then(k,v) else p)
 | [],[],_,_=>trivial
 | p::l,q::L,h,h'=>by
  have ih:=Al.upd k h.2.2 h'
  rw[cj,cj]
  by_cases e:p.1=k
  ·rw[db e,db (h.1.trans e)]
   exact⟨rfl,h',ih⟩
  ·rw[da e,da (fun e'=>e (h.1.symm.trans e'))]
   exact⟨h.1,h.2.1,ih⟩
theorem Al.put (k:κ){l:List (κ × G)}{L:List (κ × Value)}(h:Al I l L)(h':VRep I u v):Al I (Zgy l k u) (Zgy L k v):=by
 obtain⟨h1,h2⟩:=h.get k
 unfold Zgy
 cases hg:Z6l l k with
 | none=>rw[h1 hg];exact h.app k h'
 | some g =>
  obtain⟨x,e,-⟩:=h2 g hg
  rw[e]
  exact h.upd k h'
end
section
variable {P:Program} {tb:List (Nat × TI)} {N n:Nat} {I I' I0:Imm} {V V' V0:Va} {a:Act} {t:Ts} {own own' own0:Os} {w w' w0:World} {g:G} {x y:Value} {d:Option Tmp}
variable {XL:List Nat} {S:World→Prop} {K:Ts→Os→Nat→Prop} {next:Act→World→Prop} {Q:Exit→Act→World→Prop} {o:Oper} {r:R}
theorem Zbg {k:Nat}(h:TRep I V (.mp k) y):k < V.n∧y=.map (some (V.b k)):=h
theorem MapR.lt {κ:Type}{kf:κ→Value}{m:Nat}{l:List (κ × G)}(h:MapR I w m kf l):m < w.heap.size:=by
 obtain⟨L,hB,-⟩:=h
 exact hB.lt
theorem Zcr (hT:∀t i,look t tb=some i→TIok P t i)(hXL:∀k∈XL,∃r,look k own=some r)(hS:∀u,S u→Agree V XL w u)(hH:Has I V own w)(ha:ARep N I V a t){ty:TypeId}{z:Operand}{ti:TI}{str:Bool}{e:TypeId}(hl:look ty tb=some ti)(hkd:ti.kd=.map str e)(ho:o.op=.call {callee:=.builtin .len,args:=#[z],argTypes:=#[ty]})
  (h:ev t own z fun g=>match g with
        | .mp k=>match look k own,Fz k XL with
         | some (.mpS l),false=>K (put o.dst (.v (.int .i64 l.length)) t) own V.n
         | some (.mpI l),false=>K (put o.dst (.v (.int .i64 l.length)) t) own V.n
         | _,_=>False
        | _=>False):QOk S P I V own w a t o K:=by
 have hk:=(hT _ _ hl).kd
 rw[hkd] at hk
 obtain⟨kt,ht,-⟩:=hk
 obtain⟨g,hh,hg⟩:=B0 h ha hH
 clear h
 have h:=hh
 clear hh
 split at h
 ·next k =>
  obtain⟨hkn,e1⟩:=Zbg hg
  have fin:∀{κ:Type} {kf:κ→Value} {l:List (κ × G)},[DecidableEq κ]→MapR I w (V.b k) kf l→V.f k (V.b k)→(∃r,look k own=some r)→Fz k XL=false→K (put o.dst (.v (.int .i64 l.length)) t) own V.n→QOk S P I V own w a t o K:=fun {κ kf l _} hM hf ⟨r,hr⟩ hm hk=>by
   have hnm:k ∉ XL:=fun h=>by rw[Ca.2 h] at hm;cases hm
   have hlt:=hM.lt
   obtain⟨L,hB,hA⟩:=hM
   refine⟨_,_,hk,.of_v (.v _),fun u hu=>?_⟩
   have hsame:u.heap[V.b k]?=w.heap[V.b k]?:=hS u hu _ hlt fun k' hk' hf'=>by
    obtain⟨r',hr'⟩:=hXL k' hk'
    exact hnm (hH.disj k k' r r' _ hr hr' hf hf' ▸ hk')
   have hrun:=Rq (P:=P) (ty:=o.type) ht (hB.of_block hsame)
   rw[hA.len] at hrun
   simp[execOp,ho,resolve,invoke,builtin,e1,hrun]
  split at h
  ·next l hr hm =>
   have hR:=hH.each k _ hr
   exact fin hR.2 ((hR.1 _).2 rfl) ⟨_,hr⟩ hm h
  ·next l hr hm =>
   have hR:=hH.each k _ hr
   exact fin hR.2 ((hR.1 _).2 rfl) ⟨_,hr⟩ hm h
  ·exact h.elim
 ·exact h.elim
theorem Xk (hH:Has I V own w)(ha:ARep N I V a t){f:FuncId}{p q:Array Operand}(ho:o.op=.makeFunc (.func f) p q)(h:evs t own p.toList fun a=>evs t own q.toList fun c=>match Av G.cap a,Av G.cap c with
  | true,true=>match Av Bm a,Av Bm c with
   | true,true=>match a,c with
    | [],[]=>K (put o.dst (.v (.func (.func f) #[] #[])) t) own V.n
    | _,_=>False
   | _,_=>K (put o.dst (.clo f a c) t) own V.n
  | _,_=>False):QOk S P I V own w a t o K:=by
 obtain⟨a1,h,h1⟩:=Nj h ha hH
 obtain⟨c1,h,h2⟩:=Nj h ha hH
 have e:∀l:Array Operand,(l.toList.map a.eval).toArray=l.map a.eval:=fun l=>by cases l;simp
 have run:∀u:World,(execOp a.eval o).run P u=.ok (.value (.func (.func f) (p.toList.map a.eval).toArray (q.toList.map a.eval).toArray)) u:=fun u=>by
  simp only[execOp,ho,Instr.makeFunc,Sem.run_bind,Sem.run_pure,Result.andThen_ok,e]
 have cap:∀{l:List G} {us:List Value},Av G.cap l=true→PW (TRep I V) l us→PW (CRep I V) l us:=fun hc hp=>⟨hp.1,fun j g u hg hu=>by
  have hh:=hp.2 j g u hg hu
  have hc:=Ac hc g (ae hg)
  cases g<;>first | exact hh | cases hc⟩
 have ex:∀{l:List G},Av Bm l=false→∃g∈l,Bm g=false:=fun {l}=>by
  induction l with
  | nil=>intro h;cases h
  | cons g l ih =>
   intro h
   unfold Av at h
   cases hg:Bm g with
   | false=>exact⟨g,by simp,hg⟩
   | true =>
    rw[hg] at h
    obtain⟨g',h1,h2⟩:=ih h
    exact⟨g',by simp[h1],h2⟩
 split at h
 ·next hc1 hc2 =>
  split at h
  ·split at h
   ·have e1:p.toList=[]:=by have:=h1.of_nil;simpa using this
    have e2:q.toList=[]:=by have:=h2.of_nil;simpa using this
    refine⟨_,_,h,.of_v (.v _),fun u _=>?_⟩
    rw[run u,e1,e2]
    rfl
   ·exact h.elim
  ·next hno =>
   refine⟨_,_,h,.of_1 (⟨?_,_,_,rfl,cap hc1 h1,cap hc2 h2⟩:TRep1 I V (.clo f a1 c1) _),fun u _=>run u⟩
   cases hn1:Av Bm a1 with
   | false=>obtain⟨g,h3,h4⟩:=ex hn1;exact⟨g,.inl h3,h4⟩
   | true =>
    cases hn2:Av Bm c1 with
    | false=>obtain⟨g,h3,h4⟩:=ex hn2;exact⟨g,.inr h3,h4⟩
    | true=>exact(hno hn1 hn2).elim
 ·exact h.elim
theorem Al.keys {κ:Type}:∀{l:List (κ × G)} {L:List (κ × Value)},Al I l L→L.map (·.1)=l.map (·.1)
 | [],[],_=>rfl
 | p::l,q::L,h=>by simp[h.1,Al.keys h.2.2]
theorem Al.mem {κ:Type}{k:κ}{v:Value}:∀{l:List (κ × G)} {L:List (κ × Value)},Al I l L→(k,v)∈L→∃g,(k,g)∈l∧VRep I g v
 | [],[],_,hm=>by cases hm
 | p::l,q::L,h,hm=>by
  rcases bh.1 hm with e | hm
  ·subst e
   exact⟨p.2,by rw[show k=p.1 from h.1];simp,h.2.1⟩
  ·obtain⟨g,h1,h2⟩:=Al.mem h.2.2 hm
   exact⟨g,by simp[h1],h2⟩
theorem Zh8 (hT:∀t i,look t tb=some i→TIok P t i)(hH:Has I V own w)(ha:ARep N I V a t){ty:TypeId}{z:Operand}(ho:o.op=.sliceToArrayPointer ty z)(h:match look ty tb with
  | some ⟨_,_,none,_,false,_,.arr m _ 1⟩=>ev t own z fun g=>match g with
   | .sl rows=>Zeg rows m fun l=>K (put o.dst (.elp l 0) t) own V.n
   | _=>False
  | _=>False):QOk S P I V own w a t o K:=by
 split at h
 ·next ag ze fl ik m e hl =>
  obtain⟨g,hk,hg⟩:=B0 h ha hH
  clear h
  obtain⟨hu,-⟩:=(hT _ _ hl).kd
  split at hk
  ·next rows =>
   obtain⟨hm,r,h1,h2,hk⟩:=hk
   have hx:=(show VRep I (.sl rows) (a.eval z) from hg)
   generalize hax:a.eval z=X at hx
   cases hx with
   | sl _ A c sz0 u hc hA hz hh huu =>
    have hlen:m≤rows.length:=by
     have:=congrArg List.length h2
     simp at this
     omega
    have row:∀j (hj:j < m),rows[j]?=some [r[j]'(by omega)]:=fun j hj=>by
     have h3:(rows.take m)[j]?=rows[j]?:=by rw[bi,db hj]
     rw[←h3,h2,aj,ab (by omega)]
     rfl
    obtain⟨b,q0,rfl,hI⟩:=hh 0 _ (row 0 hm)
    have hs:sz0=1:=(hz _ (ae (row 0 hm))).symm
    subst hs
    refine⟨_,_,hk,(.of_1 (g:=.elp _ 0) ⟨b,q0,by rw[Nat.add_zero],fun j g hj=>?_⟩),fun v _=>by simp only[execOp,ho,hax,Instr.arrayAt,run_underlying hu,Nat.not_lt.2 hlen,if_false,Sem.run_bind,Result.andThen_ok,Sem.run_pure]⟩
    have hjl:=(ac.1 hj).1
    obtain⟨b',o',e',hI'⟩:=hh j _ (row j (by omega))
    cases e'
    refine⟨u j 0,?_,?_⟩
    ·have:=hI' 0 (by omega)
     rw[Nat.mul_one,Nat.add_zero] at this
     exact this
    ·have hg:g=r[j]'hjl:=(cg ((ab hjl).symm.trans hj)).symm
     exact huu j _ 0 g (row j (by omega)) (by rw[hg];rfl)
  ·exact hk.elim
 ·exact h.elim
theorem Zbh {q:G}{op:BinOp}{ty:TypeId}(h:Zct tb q op ty=true):q=.nl∧op=.eql∧∃i e sz,look ty tb=some i∧i.elem=some (e,sz):=by
 unfold Zct at h
 split at h
 ·next hl=>exact⟨rfl,rfl,_,_,_,hl,rfl⟩
 ·cases h
theorem Zci (hT:∀t i,look t tb=some i→TIok P t i)(hH:Has I V own w)(ha:ARep N I V a t){op:BinOp}{ty ty':TypeId}{x z:Operand}(ho:o.op=.binOp op ty x z ty')(h:ev t own x fun g=>ev t own z fun q=>match Zct tb q op ty with
  | true=>Si own g fun rows=>Zcx rows fun b=>K (put o.dst (.v (.bool b)) t) own V.n
  | false=>Zfy P tb ty op g q fun g=>K (put o.dst g t) own V.n):QOk S P I V own w a t o K:=by
 obtain⟨g,hk1,hg⟩:=B0 h ha hH
 obtain⟨q,hk,hq⟩:=B0 hk1 ha hH
 clear h hk1
 cases hn:Zct tb q op ty with
 | true =>
  rw[hn] at hk
  obtain⟨rfl,rfl,i,e,sz,hl,he1⟩:=Zbh hn
  obtain⟨hu,-⟩:=(hT _ _ hl).elem e sz he1
  obtain⟨rows,A,c,hk,he,hA⟩:=Zh hk hg hH
  have hz:a.eval z=.slice none 0 0:=by
   have hq:=(show VRep I .nl (a.eval z) from hq)
   generalize a.eval z=Z at hq
   cases hq
   rfl
  have hk:=hk.run A.isNone fun hne=>by
   cases A with
   | none=>exact dc (hA rfl) hne
   | some _=>rfl
  refine⟨_,_,hk,.of_v (.v _),fun u _=>?_⟩
  have h1:(Op.equal ty (.slice A rows.length c) (.slice none 0 0)).run P u=.ok A.isNone u:=by
   show(Op.equalIn 10000 ty (.slice A rows.length c) (.slice none 0 0)).run P u=_
   unfold Op.equalIn
   cases A<;>simp[run_underlying hu]
  simp only[execOp,ho,Sem.run_bind,he,hz]
  simp[eqGuard,binOp,h1]
 | false =>
  rw[hn] at hk
  obtain⟨r,v,hk,hr,hrun⟩:=Ze9 (P:=P) hT hk hg hq
  exact⟨_,_,hk,hr,fun u _=>by simp only[execOp,ho,Sem.run_bind,(hrun u x z).1,(hrun u x z).2,Result.andThen_ok,Sem.run_pure]⟩
theorem Xg (hH:Has I V own w)(ha:ARep N I V a t){z:Operand}(ho:o.op=.nilCheck z)(h:ev t own z fun g=>match g with
  | .ptr k off=>K (put o.dst (.ptr k off) t) own V.n
  | .clo f a c=>K (put o.dst (.clo f a c) t) own V.n
  | .v (.func (.func f) a c)=>K (put o.dst (.v (.func (.func f) a c)) t) own V.n
  | _=>False):QOk S P I V own w a t o K:=by
 obtain⟨g,hh,hg⟩:=B0 h ha hH
 clear h
 split at hh
 ·next k off =>
  obtain⟨-,e⟩:=C4 hg
  exact⟨_,_,hh,hg,fun u _=>by simp only[execOp,ho,e];rfl⟩
 ·next f p q =>
  have hg2:=hg
  obtain⟨-,us,cs,e,-⟩:=hg2
  exact⟨_,_,hh,hg,fun u _=>by simp only[execOp,ho,e];rfl⟩
 ·next f p q =>
  have e:=As hg
  exact⟨_,_,hh,hg,fun u _=>by simp only[execOp,ho,e];rfl⟩
 ·exact hh.elim
end
end Go.Proofs.YtihfaocdpmmooaaGreat
