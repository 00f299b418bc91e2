
import Derived.Test.YtihfaocdpmmooaaGreatSxMa
import Derived.Great.FillDense
import Derived.Deep.OwnRows
import Derived.Lib.MinMax
import Derived.ArgAppend
import Derived.Laws.IdiomStrings
import Derived.Laws.CopyRow
namespace Go.Proofs.YtihfaocdpmmooaaGreat
open Go.RowKit
theorem Nc:∀(l:List Value) (k off:Nat) (arr:Array Value),off+k+l.length≤arr.size →
  (l.zipIdx k).foldl (fun cs p=>cs.setIfInBounds (off+p.2) p.1) arr=(arr.toList.take (off+k)++l++arr.toList.drop (off+k+l.length)).toArray
 | [],k,off,arr,_=>by simp
 | x::l,k,off,arr,h=>by
  simp only[List.length_cons] at h
  rw[List.zipIdx_cons,List.foldl_cons,Nc l (k+1) off _ (by simp;omega)]
  congr 1
  have hlt:off+k < arr.toList.length:=by simp;omega
  simp only[Array.toList_setIfInBounds]
  rw[List.drop_set_of_lt (by omega),List.take_set,←Nat.add_assoc,List.take_succ_eq_append_getElem hlt,List.set_append_right _ _ (by simp;omega)]
  have hlt':off+k≤arr.size:=by omega
  simp[Nat.min_eq_left hlt',Nat.add_assoc,Nat.add_comm 1]
section
variable {P:Program} {tb:List (Nat × TI)} {N n:Nat} {I I' I0:Imm} {V V' V0:Va} {a:Act} {t:Ts} {own own' own0:Os} {w w' w0:World} {g:G} {y:Value} {d:Option Tmp}
variable {XL:List Nat} {S:World→Prop} {K:Ts→Os→Nat→Prop} {next:Act→World→Prop} {Q:Exit→Act→World→Prop} {o:Oper}
theorem Z6x (hT:∀t i,look t tb=some i→TIok P t i){F:List Field}(hz:∀f∈F,∃m,(P.info? f.type).map (·.size)=some (m+1)){places:List (Nat × Nat)}(hpl:F.mapM (fun f=>(P.info? f.type).map fun i=>(f.offset,i.size))=some places)(ha:ARep N I V a t)(hH:Has I V own w) :
  ∀{ps:List (Nat × Operand)} {l:List G} {cs:List Value} {K1:List G→Prop},Za8 tb t own (F.map fun f=>(f.type,f.offset)) ps l K1→PW (CRep I V) l cs →
   ∃l' cs',K1 l'∧PW (CRep I V) l' cs'∧Instr.fill (places.toArray[·]?) cs.toArray (ps.map fun p=>(p.1,a.eval p.2))=some cs'.toArray
 | [],l,cs,K1,h,hp=>⟨l,cs,h,hp,rfl⟩
 | (i,x)::ps,l,cs,K1,h,hp=>by
  unfold Za8 at h
  rw[Dt] at h
  cases hf:(F.map fun f=>(f.type,f.offset))[i]? with
  | none=>rw[hf] at h;exact h.elim
  | some q =>
   obtain⟨ft,fo⟩:=q
   rw[hf] at h
   dsimp only at h
   cases hj:look ft tb with
   | none=>rw[hj] at h;exact h.elim
   | some j =>
    rw[hj] at h
    dsimp only at h
    obtain⟨g,h,hg⟩:=Av h ha hH
    obtain⟨ds,h,hd,-⟩:=Gp h hg hH
    obtain⟨hb,h⟩:=Z3 h
    obtain⟨l1,h,hp1,hfit⟩:=Qk h hp hd
    obtain⟨l',cs',h1,h2,h3⟩:=Z6x hT hz hpl ha hH h hp1
    refine⟨l',cs',h1,h2,?_⟩
    rw[List.getElem?_map] at hf
    obtain⟨fd,hf1,hf2⟩:=Option.map_eq_some_iff.1 hf
    injection hf2 with e1 e2
    have hpi:places[i]?=some (fo,j.zero.length):=by
     have hs:=(hT ft j hj).size
     have key:∀(F:List Field) (pl:List (Nat × Nat)) (i:Nat),F.mapM (fun f=>(P.info? f.type).map fun i=>(f.offset,i.size))=some pl→F[i]?=some fd→pl[i]?=(P.info? fd.type).map fun i=>(fd.offset,i.size):=by
      intro F
      induction F with
      | nil=>intro pl i _ hi;simp at hi
      | cons f F ih =>
       intro pl i hm hi
       simp only[List.mapM_cons,Option.bind_eq_bind,Option.pure_def] at hm
       cases hq:P.info? f.type with
       | none=>simp[hq] at hm
       | some iq =>
        cases hr:F.mapM (fun f=>(P.info? f.type).map fun i=>(f.offset,i.size)) with
        | none=>simp[hq,hr] at hm
        | some rest =>
         simp[hq,hr] at hm
         subst hm
         cases i with
         | zero=>simp at hi;subst hi;simp[hq]
         | succ i=>simpa using ih rest i hr (by simpa using hi)
     rw[key F places i hpl hf1,e1,e2]
     cases hq:P.info? ft with
     | none=>rw[hq] at hs;simp at hs
     | some iq=>rw[hq] at hs;simp at hs;simp[hs]
    have hlen:(a.eval x).cells.size=j.zero.length:=by
     rw[←hb,hd.1];simp
    have hne:(a.eval x).cells.toList≠[]:=fun e=>by
     obtain⟨m,hm⟩:=hz fd (List.mem_of_getElem? hf1)
     have hs:=(hT ft j hj).size
     rw[e1,hs] at hm
     injection hm with hm
     have:=congrArg List.length e
     simp at this
     rw[this] at hlen
     simp at hlen
     omega
    have hfl:=hfit hne
    have hlc:(a.eval x).cells.toList.length=(a.eval x).cells.size:=by simp
    show Instr.fill (places.toArray[·]?) cs.toArray ((i,a.eval x)::ps.map fun p=>(p.1,a.eval p.2))=_
    unfold Instr.fill
    have hpi':places.toArray[i]?=some (fo,j.zero.length):=by simpa using hpi
    simp only[hpi',hlen]
    rw[if_neg (by simp;rw[←hlen,←hlc];exact hfl),←h3]
    congr 1
    rw[←Array.foldl_toList,Array.toList_zipIdx]
    have:=Nc (a.eval x).cells.toList 0 fo cs.toArray (by simpa using hfl)
    simpa using this
theorem Zu {m sz:Nat}(ha:ARep N I V a t)(hH:Has I V own w) :
  ∀{ps:List (Nat × Operand)} {l:List G} {cs:List Value} {K1:List G→Prop},Zdd t own m sz ps l K1→PW (CRep I V) l cs →
   ∃l' cs',K1 l'∧PW (CRep I V) l' cs'∧Instr.fill (fun i=>some (i * sz,sz)) cs.toArray (ps.map fun p=>(p.1,a.eval p.2))=some cs'.toArray
 | [],l,cs,K1,h,hp=>⟨l,cs,h,hp,rfl⟩
 | (i,x)::ps,l,cs,K1,h,hp=>by
  unfold Zdd at h
  split at h
  ·next h1 h2 =>
   have h2:=Nat.le_of_ble_eq_true h2
   obtain⟨g,h,hg⟩:=Av h ha hH
   obtain⟨ds,h,hd,-⟩:=Gp h hg hH
   obtain⟨hb,h⟩:=Z3 h
   obtain⟨l1,h,hp1,hfit⟩:=Qk h hp hd
   obtain⟨l',cs',k1,k2,k3⟩:=Zu ha hH h hp1
   refine⟨l',cs',k1,k2,?_⟩
   have hlen:(a.eval x).cells.size=sz:=by rw[←hb,hd.1];simp
   have hne:(a.eval x).cells.toList≠[]:=fun e=>by
    have:=congrArg List.length e
    simp at this
    rw[this] at hlen
    simp at hlen
    omega
   have hfl:=hfit hne
   have hlc:(a.eval x).cells.toList.length=(a.eval x).cells.size:=by simp
   have hfl:i * sz+(a.eval x).cells.toList.length≤cs.length:=hfl
   show Instr.fill (fun i=>some (i * sz,sz)) cs.toArray ((i,a.eval x)::ps.map fun p=>(p.1,a.eval p.2))=_
   unfold Instr.fill
   simp only[hlen]
   rw[if_neg (by have hfl':=hfl;rw[hlc,hlen] at hfl';simp;exact hfl'),←k3]
   congr 1
   rw[←Array.foldl_toList,Array.toList_zipIdx]
   have:=Nc (a.eval x).cells.toList 0 (i * sz) cs.toArray (by simpa using hfl)
   simpa using this
  ·exact h.elim
theorem Zbj {sz:Nat}:∀{ps:List (Nat × Operand)} {i:Nat} {own:Os} {I:Imm} {V:Va} {K1:List (List G)→Os→Prop},bsK t sz ps i own K1→ARep N I V a t→Has I V own w →
  ∃rows own' I' V',∃vs:List Value,K1 rows own'∧(V'.n=V.n∧V.kp V')∧Later own I V w own' I' V' w∧ps.map (fun p=>(p.1,a.eval p.2))=(vs.zipIdx i).map (fun x=>(x.2,x.1))∧vs.length=rows.length∧ps.length=rows.length ∧
   (∀(i:Nat) r u,rows[i]?=some r→(vs.map fun v=>v.cells.toList)[i]?=some u→PW (VRep I') r u)∧(∀v∈vs,v.cells.size=sz)∧∀v∈vs,∀x∈v.cells.toList,x.oneCell'=true
 | [],i,own,I,V,K1,h,_,hH=>⟨[],own,I,V,[],h,⟨rfl,.refl _⟩,.refl hH,rfl,rfl,rfl,fun i r u h=>by simp at h,by simp,by simp⟩
 | (j,x)::ps,i,own,I,V,K1,h,ha,hH=>by
  unfold bsK at h
  cases hb:Nat.beq j i with
  | false=>rw[hb] at h;exact h.elim
  | true =>
   rw[hb] at h
   have hb:=Nat.eq_of_beq_eq_true hb
   subst hb
   obtain⟨g,h,hg⟩:=Av h ha hH
   obtain⟨cs,h,hp,-⟩:=Gp h hg hH
   have main:∀{cs':List G} {o1:Os} {I1:Imm} {V1:Va},bsK t sz ps (j+1) o1 (fun rows w''=>K1 (cs'::rows) w'')→(V1.n=V.n∧V.kp V1)→Later own I V w o1 I1 V1 w→PW (VRep I1) cs' (a.eval x).cells.toList→cs'.length=sz→Ar G.one cs'=true→∃rows own' I' V',∃vs:List Value,K1 rows own'∧(V'.n=V.n∧V.kp V')∧Later own I V w own' I' V' w∧(((j,x)::ps).map fun p=>(p.1,a.eval p.2))=(vs.zipIdx j).map (fun x=>(x.2,x.1))∧vs.length=rows.length∧((j,x)::ps).length=rows.length ∧
     (∀(i:Nat) r u,rows[i]?=some r→(vs.map fun v=>v.cells.toList)[i]?=some u→PW (VRep I') r u)∧(∀v∈vs,v.cells.size=sz)∧∀v∈vs,∀x∈v.cells.toList,x.oneCell'=true:=fun {cs' o1 I1 V1} h hn1 hl1 hv1 hb1 hb2=>by
    obtain⟨rows,o2,I2,V2,vs,h1,hn2,hl2,h2,h3,h4,h5,h6,h7⟩:=Zbj (K1:=fun rows w''=>K1 (cs'::rows) w'') h (ha.mono hl1.fro.mono hl1.va) hl1.has
    refine⟨_,o2,I2,V2,a.eval x::vs,h1,⟨hn2.1.trans hn1.1,hn1.2.trans (Nat.le_of_eq hn1.1.symm) hn2.2⟩,hl1.trans hl2,by simp[h2,List.zipIdx_cons],by simp[h3],by simp[h4],fun i r u hr hu=>?_,fun v hv=>?_,fun v hv y hy=>?_⟩
    ·cases i with
     | zero=>simp at hr hu;subst hr hu;exact hv1.mono fun _ _ h=>h.mono hl2.fro.mono
     | succ i=>exact h5 i r u (by simpa using hr) (by simpa using hu)
    ·rcases List.mem_cons.1 hv with rfl | hv
     ·have:=hv1.1;rw[hb1] at this;simpa using this.symm
     ·exact h6 v hv
    ·rcases List.mem_cons.1 hv with rfl | hv
     ·obtain⟨m,hm,e⟩:=List.mem_iff_getElem.1 hy
      have hm':m < cs'.length:=by rw[hv1.1];exact hm
      exact Ls (hv1.2 m cs'[m] y (List.getElem?_eq_getElem hm') (by rw[List.getElem?_eq_getElem hm,e])) (Ac hb2 _ (List.getElem_mem hm'))
     ·exact h7 v hv y hy
   split at h
   ·obtain⟨cs',o1,I1,V1,h,hn1,hl1,hv1⟩:=Nr h hp hH
    split at h
    ·next hb1 hb2=>exact main h hn1 hl1 hv1 (Nat.eq_of_beq_eq_true hb1) hb2
    ·exact h.elim
   ·obtain⟨⟨hb1,hb2⟩,h⟩:=h
    exact main h ⟨rfl,.refl _⟩ (.refl hH) ⟨hp.1,fun m g u h1 h2=>(hp.2 m g u h1 h2).to_v (Fh (hb2 g (List.mem_of_getElem? h1)))⟩ hb1 (Fp fun g hg=>P6 (hb2 g hg))
variable (hT:∀t i,look t tb=some i→TIok P t i) (hK:NxtB N own I V w K next) (hH:Has I V own w) (ha:ARep N I V a t) (hd:∀i,o.dst=some i→i < N)
include hT hH ha
theorem Z8z {ty:TypeId}{parts:Array (Nat × Operand)}(ho:o.op=.build ty parts)(h:match look ty tb with
  | none=>False
  | some i=>match i.flds with
   | []=>match i.kd with
    | .arr m _ sz=>Zdd t own m sz parts.toList i.zero fun l=>Ik (Nat.mul m sz) l fun g=>K (put o.dst g t) own V.n
    | _=>False
   | f::fs=>Za8 tb t own (f::fs) parts.toList i.zero fun l=>Ik i.zero.length l fun g=>K (put o.dst g t) own V.n):QOk S P I V own w a t o K:=by
 cases hl:look ty tb with
 | none=>rw[hl] at h;exact h.elim
 | some i =>
  rw[hl] at h
  have hi:=hT ty i hl
  dsimp only at h
  have hz0:PW (CRep I V) i.zero (i.zero.map G.val):=Z2i hi
  obtain⟨z,hz1,hz2⟩:=Option.map_eq_some_iff.1 hi.zero
  obtain⟨j,hj1,hj2⟩:=Option.bind_eq_some_iff.1 hz1
  by_cases hfl:i.flds=[]
  ·rw[hfl] at h
   dsimp only at h
   have hkd:=hi.kd
   split at h
   ·next m e sz hk =>
    rw[hk] at hkd
    obtain⟨hu,hsz⟩:=(show P.underlying ty=some (.array m e)∧(P.info? e).map (·.size)=some sz from hkd)
    obtain⟨ie,hie,hies⟩:=Option.map_eq_some_iff.1 hsz
    obtain⟨l',cs',h1,h2,h3⟩:=Zu ha hH h hz0
    obtain⟨g',h4,h5⟩:=I9 h1 h2
    refine⟨_,_,h4,h5,fun u _=>?_⟩
    have hb:P.built ty (parts.map fun p=>(p.1,a.eval p.2)).toList=some cs'.toArray:=by
     unfold Program.built
     have e:z.cells=(i.zero.map G.val).toArray:=by rw[←hz2]
     simp only[hj1,hu,hj2,hie,hies,e]
     simpa using h3
    have hr:=run_build (P:=P) u ty _ _ hb
    simp only[execOp,ho,Sem.run_bind,Sem.run_pure]
    rw[hr]
    rfl
   ·exact h.elim
  ·have h:Za8 tb t own i.flds parts.toList i.zero fun l=>Ik i.zero.length l fun g=>K (put o.dst g t) own V.n:=by
    cases hq:i.flds with
    | nil=>exact absurd hq hfl
    | cons f fs=>rw[hq] at h;exact h
   obtain⟨F,hF,hm,hz⟩:=hi.flds hfl
   have hpl:∃places,F.toList.mapM (fun f=>(P.info? f.type).map fun i=>(f.offset,i.size))=some places:=by
    generalize F.toList=L at hz
    induction L with
    | nil=>exact⟨[],rfl⟩
    | cons f L ih =>
     obtain⟨pl,hpl⟩:=ih fun f hf=>hz f (by simp[hf])
     obtain⟨m,hm⟩:=hz f (by simp)
     cases hq:P.info? f.type with
     | none=>rw[hq] at hm;simp at hm
     | some iq=>exact⟨_,by simp only[List.mapM_cons,hpl,hq];rfl⟩
   obtain⟨places,hpl⟩:=hpl
   rw[←hm] at h
   obtain⟨l',cs',h1,h2,h3⟩:=Z6x hT hz hpl ha hH h hz0
   obtain⟨g',h4,h5⟩:=I9 h1 h2
   refine⟨_,_,h4,h5,fun u _=>?_⟩
   have hb:P.built ty (parts.map fun p=>(p.1,a.eval p.2)).toList=some cs'.toArray:=by
    unfold Program.built
    have e:z.cells=(i.zero.map G.val).toArray:=by rw[←hz2]
    simp only[hj1,hF,hj2,hpl,e]
    simpa using h3
   have hr:=run_build (P:=P) u ty _ _ hb
   simp only[execOp,ho,Sem.run_bind,Sem.run_pure]
   rw[hr]
   rfl
include hK hd in
theorem Oo {mo:Mo}{ty:TypeId}{len:Nat}{parts:Array (Nat × Operand)}(ho:o.op=.buildSlice ty len parts)(h:match look ty tb with
  | some ⟨_,_,some (e,sz),_,_,_,_⟩=>match Nat.beq parts.toList.length len,Nat.ble (len * sz) 16777216 with
   | true,true=>bsK t sz parts.toList 0 own fun rows w'=>Zbo (Z9v tb mo ty sz) ((V.n,.slc rows e sz)::w') V.n fun g w''=>K (put o.dst g t) w'' (V.n+1)
   | _,_=>False
  | _=>False):o.wp P a w next Q:=by
 split at h
 case h_2=>exact h.elim
 next ag ze e sz fl st ik kd hl =>
 split at h
 case h_2=>exact h.elim
 next hb1 hb2 =>
 have hb1:=Nat.eq_of_beq_eq_true hb1
 have hb2:=Nat.le_of_ble_eq_true hb2
 obtain⟨hu,ie,z,h1,h2,h3,h4,h5,-⟩:=(hT _ _ hl).elem e sz rfl
 obtain⟨rows,o1,I1,V1,vs,k1,⟨hn1,hkp⟩,hl1,k2,k3,k4,k5,k6,k7⟩:=Zbj h ha hH
 have hlen:len=rows.length:=by rw[←hb1];exact k4
 have hfl:(vs.map fun v=>v.cells.toList).flatten.length=rows.length * sz:=by
  rw[B1 (sz:=sz) fun u hu=>by obtain⟨v,hv,rfl⟩:=List.mem_map.1 hu;simpa using k6 v hv]
  simp[k3]
 have hrun:(execOp a.eval o).run P w=.ok (.value (.slice (some ⟨w.heap.size,0,none⟩) len len)) (w.alloc (.cells (vs.map fun v=>v.cells.toList).flatten.toArray e)):=by
  by_cases h0:len=0
  ·subst h0
   have hr0:rows=[]:=List.eq_nil_of_length_eq_zero hlen.symm
   have hv0:vs=[]:=List.eq_nil_of_length_eq_zero (by rw[k3,hr0];rfl)
   have hp0:parts=#[]:=Array.eq_empty_of_size_eq_zero (by simpa using hb1)
   subst hv0 hp0
   have hs:(sizeOf e).run P w=.ok sz w:=Bb (by rw[h1];simp[h3]) w
   have e0:(Array.range 0:Array Nat)=#[]:=Array.eq_empty_of_size_eq_zero (by simp)
   simp[execOp,ho,Instr.buildSlice,run_underlying hu,hs,Result.andThen,Instr.fill,newRow,e0]
  ·have hwp:=run_buildSlice (P:=P) w ty e len (parts.map fun p=>(p.1,a.eval p.2)) (vs.map fun v=>v.cells.toList).flatten.toArray ie z hu h1 h2 (by rw[h3];omega) (by rw[h3];exact Nat.mul_ne_zero h0 (by omega)) (by
    have hf:=Go.Great.fill_whole (s:=sz) h5 vs ((Array.range (len * ie.size)).map (z.cells[· % z.cells.size]!)) k6 (by simp[h3,k3,hlen])
    rw[h3]
    rw[←k2,h3] at hf
    simpa [List.flatMap_def] using hf)
   simp only[execOp,ho,Sem.run_bind,Sem.run_pure]
   rw[hwp]
   rfl
 have hln:=D3 (r:=.slc rows e sz) hl1.has ((Below.refl _ _).alloc (Nat.le_refl _) (.cells (vs.map fun v=>v.cells.toList).flatten.toArray e)) 0 (.slice (some ⟨w.heap.size,0,none⟩) len len) (·=w.heap.size) (fun k e=>⟨Nat.le_of_eq e.symm,by subst e;simp⟩) ⟨fun b=>by simp[Va.push,Value.ownBlock,eq_comm],vs.map fun v=>v.cells.toList,⟨hfl,.inr ⟨w.heap.size,len,_,by simp[Va.push,hlen],Nat.zero_le _,heap_alloc_new _ _,by omega,?_,by simp only[List.size_toArray];rw[hfl,hlen],by simp only;rw[←hfl];exact List.take_length⟩⟩,by simp[k3],fun i r u hr hu=>(k5 i r u hr hu),fun u hu=>by obtain⟨v,hv,rfl⟩:=List.mem_map.1 hu;simpa using k6 v hv,fun u hu x hx=>by obtain⟨v,hv,rfl⟩:=List.mem_map.1 hu;exact k7 v hv x hx,h5⟩
 ·have hpn:(V1.push 0 (.slice (some ⟨w.heap.size,0,none⟩) len len) (·=w.heap.size)).n=V.n+1:=by simp[Va.push,hn1]
  have hgr:CRep I1 (V1.push 0 (.slice (some ⟨w.heap.size,0,none⟩) len len) (·=w.heap.size)) (.osl V.n) (.slice (some ⟨w.heap.size,0,none⟩) len len):=⟨by show V.n < V1.n+1;omega,by simp[Va.push,hn1]⟩
  rw[←hn1] at k1
  cases hsb:Z9v tb mo ty sz with
  | false =>
   rw[hsb] at k1
   exact So (Q:=Q) (g:=.osl V.n) hK ha hd hrun (hl1.trans hln) ((Below.refl _ _).alloc (Nat.le_refl _) _) (hkp.trans (Nat.le_of_eq hn1.symm) (.push _ _ _ _)) (TRep.of_c (g:=.osl V.n) hgr) (by
    rw[hpn,←hn1]
    exact k1)
  | true =>
   rw[hsb] at k1
   have k1:Z7g ((V1.n,.slc rows e sz)::o1) (.osl V1.n) fun g w''=>K (put o.dst g t) w'' (V1.n+1):=k1
   rw[←hn1] at hgr
   obtain⟨g',o3,I3,V3,p1,⟨p2,p3⟩,p4,p5⟩:=Dj k1 hgr hln.has
   exact So (Q:=Q) (g:=g') hK ha hd hrun ((hl1.trans hln).trans p4) ((Below.refl _ _).alloc (Nat.le_refl _) _) ((hkp.trans (Nat.le_of_eq hn1.symm) (.push _ _ _ _)).trans (by rw[hpn];omega) p3) (.of_v p5) (by
    rw[p2,hpn,←hn1]
    exact p1)
 ·have:len≤len * sz:=Nat.le_mul_of_pos_right _ h5
  unfold maxLen
  omega
omit hT hK hH ha hd in
theorem Zdo {I:Imm}{z x:Value}(h:VRep I (.v z) x):x=z:=by cases h;rfl
omit hT hK hH ha hd in
theorem Z3p {α:Type}(k:Nat)(x:α):(List.replicate k [x]).flatten=List.replicate k x:=by
 induction k with
 | zero=>rfl
 | succ k ih=>rw[List.replicate_succ,List.replicate_succ,List.flatten_cons,ih];rfl
omit hT hK hH ha hd in
theorem Z03 (zc:Array Value)(sz k:Nat)(hz:zc.size=sz)(hs:0 < sz):(madeCells zc (k * sz)).toList=(List.replicate k zc.toList).flatten:=by
 have hl:(List.replicate k zc.toList).flatten.length=k * sz:=by
  rw[B1 (sz:=sz) fun u hu=>by rw[List.eq_of_mem_replicate hu];simpa using hz];simp
 refine List.ext_getElem (by rw[hl];simp[madeCells]) fun j h1 h2=>?_
 have hj:j < k * sz:=by rw[hl] at h2;exact h2
 have hq:j / sz < k:=(Nat.div_lt_iff_lt_mul hs).2 hj
 have hm:j % sz < sz:=Nat.mod_lt _ hs
 have e1:(madeCells zc (k * sz)).toList[j]=zc[j % sz]!:=by simp[madeCells,hz]
 have e2:(List.replicate k zc.toList).flatten[j / sz * sz+j % sz]?=some zc[j % sz]!:=Ci (u:=zc.toList) (fun u hu=>by rw[List.eq_of_mem_replicate hu];simpa using hz) (by rw[List.getElem?_replicate,if_pos hq]) (by
  have hm':j % sz < zc.size:=by omega
  rw[Array.getElem?_toList,Array.getElem?_eq_getElem hm',getElem!_pos zc _ hm'])
 rw[Nat.div_add_mod'] at e2
 rw[e1]
 rw[List.getElem?_eq_getElem h2] at e2
 exact(Option.some.inj e2).symm
include hK hd in
theorem Xq {ty:TypeId}{len cap:Operand}(ho:o.op=.makeSlice ty len cap){ag:Bool}{zr ze:List G}{e sz:Nat}{fl fl2:List (TypeId × Nat)}{st st2:Bool}{ik ik2:Option IntKind}{kd kd2:KD}{el2:Option (TypeId × Nat)}(hl:look ty tb=some ⟨ag,zr,some (e,sz),fl,st,ik,kd⟩)(hl2:look e tb=some ⟨true,ze,el2,fl2,st2,ik2,kd2⟩)(h:match Nat.beq sz ze.length,Ar Fy ze with
        | true,true=>ev t own len fun p=>ev t own cap fun q=>match p,q with
         | .v (.int .i64 m),.v (.int .i64 c)=>(0≤m∧m≤1073741824∧c=m∧m * sz≤1073741824)∧K (put o.dst (.osl V.n) t) ((V.n,.slc (List.replicate m.toNat ze) e sz)::own) (V.n+1)
         | _,_=>False
        | _,_=>False):o.wp P a w next Q:=by
 split at h
 case h_2=>exact h.elim
 next hb1 hb2 =>
 have hb1:=Nat.eq_of_beq_eq_true hb1
 obtain⟨hu,ie,zv,h1,h2,h3,h4,h5,h6⟩:=(hT _ _ hl).elem e _ rfl
 have hz:=hT _ _ hl2
 obtain⟨p,h,hp⟩:=Av h ha hH
 obtain⟨q,h,hq⟩:=Av h ha hH
 split at h
 case h_2=>exact h.elim
 next m c =>
 obtain⟨⟨g1,g2,g3,g4⟩,h⟩:=h
 subst g3
 obtain⟨k,rfl⟩:=Int.eq_ofNat_of_zero_le g1
 have hp:a.eval len=.int .i64 k:=Zdo hp
 have hq:a.eval cap=.int .i64 k:=Zdo hq
 have hzz:(P.info? e).bind (·.zero)=some zv:=by rw[h1];exact h2
 have hz2:zv.cells.toList=ze.map G.val:=by
  have:=hz.zero
  rw[hzz] at this
  simpa using this
 have hzs:zv.cells.size=sz:=by rw[←Array.length_toList,hz2,List.length_map,hb1]
 have hmk:=run_make (P:=P) w ty e ie zv hu h1 h2 .i64 .i64 k k (by omega) (Int.le_refl _) (by
  have:ie.bytes * k≤65536 * 1073741824:=Nat.mul_le_mul h6 (by omega)
  have e:(ie.bytes:Int) * (k:Int)=((ie.bytes * k:Nat):Int):=by rw[Int.natCast_mul]
  rw[e];omega) (by omega)
 simp only[Int.toNat_natCast,h3] at hmk
 have hrun:(execOp a.eval o).run P w=.ok (.value (.slice (some ⟨w.heap.size,0,none⟩) k k)) (w.alloc (.cells (madeCells zv.cells (k * sz)) e)):=by
  simp only[execOp,ho,hp,hq,Sem.run_bind,Sem.run_pure]
  rw[hmk]
  rfl
 have hcs:=Z03 zv.cells sz k hzs h5
 have hpz:∀I2:Imm,PW (VRep I2) ze zv.cells.toList:=fun I2=>by
  rw[hz2]
  refine⟨by simp,fun j g u hg hu=>?_⟩
  rw[List.getElem?_map,hg] at hu
  obtain⟨x,rfl,-⟩:=L7 (Ac hb2 g (List.mem_of_getElem? hg))
  obtain rfl:x=u:=by simpa [G.val] using hu
  exact .v _
 have hone:∀x∈zv.cells.toList,x.oneCell'=true:=fun x hx=>by
  rw[hz2] at hx
  obtain⟨g,hg,rfl⟩:=List.mem_map.1 hx
  obtain⟨y,rfl,hy⟩:=L7 (Ac hb2 g hg)
  exact hy
 have hrl:∀u∈List.replicate k zv.cells.toList,u.length=sz:=fun u hu=>by rw[List.eq_of_mem_replicate hu];simpa using hzs
 have hln:=D3 (r:=.slc (List.replicate k ze) e sz) hH ((Below.refl _ _).alloc (Nat.le_refl _) (.cells (madeCells zv.cells (k * sz)) e)) 0 (.slice (some ⟨w.heap.size,0,none⟩) k k) (·=w.heap.size) (fun k e=>⟨Nat.le_of_eq e.symm,by subst e;simp⟩) ⟨fun b=>by simp[Va.push,Value.ownBlock,eq_comm],List.replicate k zv.cells.toList,⟨by rw[B1 hrl];simp,.inr ⟨w.heap.size,k,_,by simp[Va.push],Nat.zero_le _,heap_alloc_new _ _,by simp,?_,by rw[←Array.length_toList,hcs,B1 hrl];simp,by rw[hcs,List.take_of_length_le (by rw[B1 hrl];simp)]⟩⟩,by simp,fun i r u hr hu=>?_,hrl,fun u hu x hx=>by rw[List.eq_of_mem_replicate hu] at hx;exact hone x hx,h5⟩
 ·exact So (Q:=Q) (g:=.osl V.n) hK ha hd hrun hln ((Below.refl _ _).alloc (Nat.le_refl _) _) (.push _ _ _ _) (TRep.of_c (g:=.osl V.n) ⟨by show V.n < V.n+1;omega,by simp[Va.push]⟩) h
 ·unfold maxLen;omega
 ·rw[List.eq_of_mem_replicate (List.mem_of_getElem? hr),List.eq_of_mem_replicate (List.mem_of_getElem? hu)]
  exact hpz _
include hK hd in
theorem Pu {ty:TypeId}{len cap:Operand}(ho:o.op=.makeSlice ty len cap)(h:match look ty tb with
  | some ⟨_,_,some (e,sz),_,_,_,_⟩=>match look e tb with
   | some ⟨false,[z],_,_,_,_,_⟩=>match Nat.beq sz 1 with
    | true=>ev t own len fun p=>ev t own cap fun q=>match p,q with
     | .v (.int .i64 m),.v (.int .i64 c)=>(0≤m∧m≤1073741824∧c=m)∧K (put o.dst (.osl V.n) t) ((V.n,.slc (List.replicate m.toNat [z]) e 1)::own) (V.n+1)
     | _,_=>False
    | false=>False
   | some ⟨true,ze,_,_,_,_,_⟩=>match Nat.beq sz ze.length,Ar Fy ze with
    | true,true=>ev t own len fun p=>ev t own cap fun q=>match p,q with
     | .v (.int .i64 m),.v (.int .i64 c)=>(0≤m∧m≤1073741824∧c=m∧m * sz≤1073741824)∧K (put o.dst (.osl V.n) t) ((V.n,.slc (List.replicate m.toNat ze) e sz)::own) (V.n+1)
     | _,_=>False
    | _,_=>False
   | _=>False
  | _=>False):o.wp P a w next Q:=by
 split at h
 case h_2=>exact h.elim
 next ag ze e sz fl st ik kd hl =>
 split at h
 case h_2 ze el2 fl2 st2 ik2 kd2 hl2=>exact Xq hT hK hH ha hd ho hl hl2 h
 case h_3=>exact h.elim
 next z el2 fl2 st2 ik2 kd2 hl2 =>
 split at h
 case h_2=>exact h.elim
 next hb1 =>
 have hb1:=Nat.eq_of_beq_eq_true hb1
 subst hb1
 obtain⟨hu,ie,zv,h1,h2,h3,h4,h5,h6⟩:=(hT _ _ hl).elem e _ rfl
 have hz:=hT _ _ hl2
 obtain⟨p,h,hp⟩:=Av h ha hH
 obtain⟨q,h,hq⟩:=Av h ha hH
 split at h
 case h_2=>exact h.elim
 next m c =>
 obtain⟨⟨g1,g2,g3⟩,h⟩:=h
 subst g3
 obtain⟨k,rfl⟩:=Int.eq_ofNat_of_zero_le g1
 have hp:a.eval len=.int .i64 k:=Zdo hp
 have hq:a.eval cap=.int .i64 k:=Zdo hq
 have hzz:(P.info? e).bind (·.zero)=some zv:=by rw[h1];exact h2
 have hz1:zv.cells=#[zv]:=by simpa using hz.zag zv hzz
 have hz2:zv=z.val:=by
  have:=hz.zero
  rw[hzz] at this
  simp[hz1] at this
  exact this
 have hinfo:(P.info? e).map (fun i=>(i.zero,i.size,i.bytes))=some (some zv,1,ie.bytes):=by rw[h1];simp[h2,h3]
 have hmk:=run_make_row' (P:=P) ty e zv ie.bytes hu hinfo hz1 .i64 .i64 k (by
  have:ie.bytes * k≤65536 * 1073741824:=Nat.mul_le_mul h6 (by omega)
  omega) (by omega) w
 have hrun:(execOp a.eval o).run P w=.ok (.value (.slice (some ⟨w.heap.size,0,none⟩) k k)) (w.alloc (.cells (madeCells #[zv] k) e)):=by
  simp only[execOp,ho,hp,hq,Sem.run_bind,Sem.run_pure]
  rw[hmk]
  rfl
 have hcs:(madeCells #[zv] k).toList=List.replicate k zv:=by
  refine List.ext_getElem (by simp[madeCells]) fun j h1 h2=>?_
  simp[madeCells,Nat.mod_one]
 have hfl:(List.replicate k [zv]).flatten=List.replicate k zv:=Z3p k zv
 have hpz:∀I2:Imm,VRep I2 z zv:=fun I2=>by
  have hzok:=hz.zok
  rw[hz2]
  have hzok:zOK z=true:=by simpa [Ar] using hzok
  revert hzok
  cases z<;>intro hzok<;>first | (cases hzok;done) | exact .v _ | exact .ff | exact .tt | exact .nl | exact .un
 have hone:zv.oneCell'=true:=by
  have hzok:zOK z=true:=by simpa [Ar] using hz.zok
  rw[hz2]
  revert hzok
  cases z<;>intro hzok<;>first | (cases hzok;done) | rfl | exact hzok | (simpa [zOK] using hzok)
 have hln:=D3 (r:=.slc (List.replicate k [z]) e 1) hH ((Below.refl _ _).alloc (Nat.le_refl _) (.cells (madeCells #[zv] k) e)) 0 (.slice (some ⟨w.heap.size,0,none⟩) k k) (·=w.heap.size) (fun k e=>⟨Nat.le_of_eq e.symm,by subst e;simp⟩) ⟨fun b=>by simp[Va.push,Value.ownBlock,eq_comm],List.replicate k [zv],⟨by rw[hfl];simp,.inr ⟨w.heap.size,k,_,by simp[Va.push],Nat.zero_le _,heap_alloc_new _ _,by simp,?_,by rw[←Array.length_toList,hcs];simp,by rw[hcs,hfl];simp⟩⟩,by simp,fun i r u hr hu=>?_,fun u hu=>by rw[List.eq_of_mem_replicate hu];rfl,fun u hu x hx=>by rw[List.eq_of_mem_replicate hu] at hx;rw[List.mem_singleton.1 hx];exact hone,Nat.one_pos⟩
 ·exact So (Q:=Q) (g:=.osl V.n) hK ha hd hrun hln ((Below.refl _ _).alloc (Nat.le_refl _) _) (.push _ _ _ _) (TRep.of_c (g:=.osl V.n) ⟨by show V.n < V.n+1;omega,by simp[Va.push]⟩) h
 ·unfold maxLen;omega
 ·rw[List.eq_of_mem_replicate (List.mem_of_getElem? hr),List.eq_of_mem_replicate (List.mem_of_getElem? hu)]
  exact .cons (hpz _) .nil
end
end Go.Proofs.YtihfaocdpmmooaaGreat
namespace Go.Proofs.YtihfaocdpmmooaaGreat
open Go.RowKit
section
variable {P:Program} {tb:List (Nat × TI)} {N n:Nat} {I I' I0:Imm} {V V' V0:Va} {a:Act} {t:Ts} {own own' own0:Os} {w w' w0:World} {g:G} {y:Value} {d:Option Tmp}
variable {XL:List Nat} {S:World→Prop} {K:Ts→Os→Nat→Prop} {next:Act→World→Prop} {Q:Exit→Act→World→Prop} {o:Oper} {r:R}
theorem Z02 {K1:List (List G)→Prop}(h:T2 own g K1)(hg:TRep I V g y)(hH:Has I V own w):∃rows A c,K1 rows∧y=.slice A rows.length c∧(A=none→rows=[]):=by
 cases g with
 | nl=>cases(show VRep I .nl y from hg);exact⟨_,none,0,h,rfl,fun _=>rfl⟩
 | sl l =>
  cases(show VRep I (.sl l) y from hg) with
  | sl _ A c sz u hc hA hz hh hu=>exact⟨_,A,c,h,rfl,fun e=>List.eq_nil_of_length_eq_zero (by have:=hA e;omega)⟩
 | osl k =>
  obtain⟨hk,rfl⟩:=(show k < V.n∧y=V.s k from hg)
  unfold T2 at h
  dsimp only at h
  split at h
  ·next rows e sz hr =>
   obtain⟨-,rs,⟨-,h6⟩,-⟩:=hH.each k _ hr
   rcases h6 with⟨h7,h8⟩ | ⟨b,cap,cur,h7,-⟩
   ·exact⟨_,none,0,h,by rw[h7,h8],fun _=>List.eq_nil_of_length_eq_zero h8⟩
   ·exact⟨_,_,_,h,h7,fun e=>by cases e⟩
  ·next rows sz hr =>
   have hv:=(hH.each k _ hr).2.1
   generalize V.s k=y at hv
   cases hv with
   | sl _ A c sz u hc hA hz hh hu=>exact⟨_,A,c,h,rfl,fun e=>List.eq_nil_of_length_eq_zero (by have:=hA e;omega)⟩
  ·next rows e sz hr =>
   obtain⟨-,rs,⟨-,h6⟩,-⟩:=hH.each k _ hr
   rcases h6 with⟨h7,h8⟩ | ⟨b,q,cap,cur,h7,-⟩
   ·exact⟨_,none,0,h,by rw[h7,h8],fun _=>List.eq_nil_of_length_eq_zero h8⟩
   ·exact⟨_,_,_,h,h7,fun e=>by cases e⟩
  ·exact h.elim
 | osv k sz lo hi =>
  obtain⟨hk,⟨hl1,hl2⟩,rfl⟩:=(show k < V.n∧(lo≤hi∧hi≤M3 (V.s k))∧y=Gx sz (V.s k) lo hi from hg)
  unfold T2 at h
  dsimp only at h
  split at h
  ·next rows e sz' hr =>
   obtain⟨-,rs,⟨-,h6⟩,-⟩:=hH.each k _ hr
   have key:∃A c,V.s k=.slice A rows.length c∧(A=none→rows.length=0):=by
    rcases h6 with⟨h7,h8⟩ | ⟨b,cap,cur,h7,-⟩
    ·exact⟨none,0,by rw[h7,h8],fun _=>h8⟩
    ·exact⟨_,_,h7,fun e=>by cases e⟩
   obtain⟨A,c,e1,e2⟩:=key
   rw[e1] at hl2⊢
   have hl2:hi≤rows.length:=hl2
   have e3:(Ea rows lo hi).length=hi - lo:=by unfold Ea;simp;omega
   refine⟨_,(if c=lo then A else A.map (·.add (lo * sz))),c - lo,h,by rw[e3];rfl,fun e=>List.eq_nil_of_length_eq_zero ?_⟩
   have hA:A=none:=by
    cases A with
    | none=>rfl
    | some x=>split at e<;>cases e
   have:=e2 hA
   rw[e3];omega
  ·exact h.elim
 | _=>exact False.elim h
theorem U9 {sz:Nat}{K1:List (List G)→Prop}(h:Z2r own g sz K1)(hg:TRep I V g y)(hH:Has I V own w):∃new A c,∃rs:List (List Value),K1 new∧y=.slice A new.length c∧(A=none→new.length=0∧c=0)∧rs.length=new.length∧(∀(i:Nat) r u,new[i]?=some r→rs[i]?=some u→PW (VRep I) r u)∧(∀u∈rs,u.length=sz)∧(∀u∈rs,∀x∈u,x.oneCell'=true)∧∀a,A=some a→∀(j:Nat) u,rs.flatten[j]?=some u→w.cell? (a.add j)=some u:=by
 cases g with
 | nl=>cases(show VRep I .nl y from hg);exact⟨[],none,0,[],h,rfl,fun _=>⟨rfl,rfl⟩,rfl,fun i r u h=>by simp at h,by simp,by simp,fun a e=>by cases e⟩
 | sl l =>
  obtain⟨hr,h⟩:=h
  obtain⟨A,c,rs,e,h1,h2,h3,h4,h5,h6⟩:=Z7q (show VRep I (.sl l) y from hg) hH.mem fun r hm=>(hr r hm).1
  refine⟨l,A,c,rs,h,e,fun e=>⟨by rw[(h2 e).1];rfl,(h2 e).2⟩,h3,h4,h5,fun u hu x hx=>?_,fun a ha j u hu=>(h6 a ha j u hu).2⟩
  obtain⟨i,hi,e⟩:=List.mem_iff_getElem.1 hu
  have hi':i < l.length:=by omega
  have hp:=h4 i l[i] u (List.getElem?_eq_getElem hi') (by rw[List.getElem?_eq_getElem hi,e])
  obtain⟨m,hm,e2⟩:=List.mem_iff_getElem.1 hx
  have hm':m < l[i].length:=by rw[hp.1];exact hm
  exact Ls (hp.2 m l[i][m] x (List.getElem?_eq_getElem hm') (by rw[List.getElem?_eq_getElem hm,e2])) (List.all_eq_true.1 (hr _ (List.getElem_mem hi')).2 _ (List.getElem_mem hm'))
 | osl k =>
  obtain⟨hk,rfl⟩:=(show k < V.n∧y=V.s k from hg)
  unfold Z2r at h
  dsimp only at h
  split at h
  ·next rows e sz' hr =>
   split at h
   ·next hb =>
    have hb:=Nat.eq_of_beq_eq_true hb
    subst hb
    obtain⟨-,rs,ho,h2,h3,h4,h5,h6⟩:=hH.each k _ hr
    rcases ho.2 with⟨h7,h8⟩ | ⟨b,cap,cur,h7,-⟩
    ·exact⟨rows,none,0,rs,h,by rw[h7,h8],fun _=>⟨h8,rfl⟩,h2,h3,h4,h5,fun a e=>by cases e⟩
    ·exact⟨rows,_,_,rs,h,h7,(fun e=>by cases e),h2,h3,h4,h5,fun a e j u hu=>by
      cases e
      exact ho.cells (g:=b) (by rw[h7];rfl) j u hu⟩
   ·exact h.elim
  ·exact h.elim
 | osv k sz0 lo hi =>
  obtain⟨hk,⟨b1,b2⟩,rfl⟩:=(show k < V.n∧(lo≤hi∧hi≤M3 (V.s k))∧y=Gx sz0 (V.s k) lo hi from hg)
  unfold Z2r at h
  dsimp only at h
  split at h
  ·next rows e sz' hr =>
   split at h
   ·next hb hb0 =>
    have hb:=Nat.eq_of_beq_eq_true hb
    have hb0:=Nat.eq_of_beq_eq_true hb0
    subst hb hb0
    obtain⟨-,rs,ho,h2,h3,h4,h5,h6⟩:=hH.each k _ hr
    have hsub:(Ea rows lo hi).length=hi - lo:=by unfold Ea;rw[List.length_drop,List.length_take];rcases ho.2 with⟨h7,h8⟩ | ⟨b,cap,cur,h7,-⟩<;>(rw[h7] at b2;simp only[M3] at b2;omega)
    have hR:∀(i:Nat) r u,(Ea rows lo hi)[i]?=some r→((rs.take hi).drop lo)[i]?=some u→PW (VRep I) r u:=fun i r u q1 q2=>by
     unfold Ea at q1
     rw[List.getElem?_drop] at q1 q2
     have hlt:lo+i < hi:=by
      have:=(List.getElem?_eq_some_iff.1 q1).1
      rw[List.length_take] at this;omega
     rw[List.getElem?_take_of_lt hlt] at q1 q2
     exact h3 _ r u q1 q2
    rcases ho.2 with⟨h7,h8⟩ | ⟨b,cap,cur,h7,-,-,h9,-⟩
    ·have hl0:hi=0∧lo=0:=by rw[h7] at b2;simp only[M3] at b2;omega
     obtain⟨rfl,rfl⟩:=hl0
     refine⟨Ea rows 0 0,none,0,(rs.take 0).drop 0,h,by rw[h7,hsub];rfl,fun _=>⟨hsub,rfl⟩,by rw[hsub];simp,hR,by simp,by simp,fun a e=>by cases e⟩
    ·refine⟨Ea rows lo hi,if cap=lo then some ⟨b,0,none⟩ else(some (⟨b,0,none⟩:Addr)).map (·.add (lo * sz0)),cap - lo,(rs.take hi).drop lo,h,by rw[h7,hsub];rfl,fun e=>(by split at e<;>cases e),by rw[hsub,List.length_drop,List.length_take];rw[h7] at b2;simp only[M3] at b2;omega,hR,fun u hu=>h4 u (List.mem_of_mem_take (List.mem_of_mem_drop hu)),fun u hu=>h5 u (List.mem_of_mem_take (List.mem_of_mem_drop hu)),fun a e j u hu=>?_⟩
     have hlr:hi≤rs.length:=by rw[h2];rw[h7] at b2;simpa [M3] using b2
     have hf:rs.flatten[lo * sz0+j]?=some u:=by
      have e1:rs=rs.take lo++((rs.take hi).drop lo++rs.drop hi):=by
       conv=>lhs;rw[←List.take_append_drop hi rs,←List.take_append_drop lo (rs.take hi),List.take_take,Nat.min_eq_left b1,List.append_assoc]
      have e2:(rs.take lo).flatten.length=lo * sz0:=by
       have:∀(l:List (List Value)),(∀u∈l,u.length=sz0)→l.flatten.length=l.length * sz0:=fun l=>by
        induction l with
        | nil=>intro _;simp
        | cons u l ih=>intro h;rw[List.flatten_cons,List.length_append,h u (by simp),ih fun x hx=>h x (by simp[hx]),List.length_cons,Nat.succ_mul];omega
       rw[this _ fun u hu=>h4 u (List.mem_of_mem_take hu),List.length_take,Nat.min_eq_left (by omega)]
      rw[e1,List.flatten_append,List.getElem?_append_right (by omega),e2,Nat.add_sub_cancel_left,List.flatten_append,List.getElem?_append_left (List.getElem?_eq_some_iff.1 hu).1]
      exact hu
     split at e
     ·next hc =>
      exfalso
      have:lo=hi:=by
       have:hi≤cap:=by rw[h7] at b2;simp only[M3] at b2;omega
       omega
      subst this
      rw[List.drop_of_length_le (by rw[List.length_take];omega)] at hu
      simp at hu
     ·cases e
      have:=ho.cells (g:=b) (by rw[h7];rfl) (lo * sz0+j) u hf
      show w.cell? ((Addr.add ⟨b,0,none⟩ (lo * sz0)).add j)=some u
      rw[Addr.add_lit,Addr.add_lit]
      rw[Addr.add_lit] at this
      rw[show 0+lo * sz0+j=0+(lo * sz0+j) by omega]
      exact this
   ·exact h.elim
  ·next rows e' sz' hr =>
   split at h
   ·next hb hb0 =>
    have hb:=Nat.eq_of_beq_eq_true hb
    have hb0:=Nat.eq_of_beq_eq_true hb0
    subst hb hb0
    obtain⟨-,rs,ho,h2,h3,h4,h5,h6⟩:=hH.each k _ hr
    have hsub:(Ea rows lo hi).length=hi - lo:=by unfold Ea;rw[List.length_drop,List.length_take];rcases ho.2 with⟨h7,h8⟩ | ⟨b,q,cap,cur,h7,-⟩<;>(rw[h7] at b2;simp only[M3] at b2;omega)
    have hR:∀(i:Nat) r u,(Ea rows lo hi)[i]?=some r→((rs.take hi).drop lo)[i]?=some u→PW (VRep I) r u:=fun i r u q1 q2=>by
     unfold Ea at q1
     rw[List.getElem?_drop] at q1 q2
     have hlt:lo+i < hi:=by
      have:=(List.getElem?_eq_some_iff.1 q1).1
      rw[List.length_take] at this;omega
     rw[List.getElem?_take_of_lt hlt] at q1 q2
     exact h3 _ r u q1 q2
    rcases ho.2 with⟨h7,h8⟩ | ⟨b,q,cap,cur,h7,hgg,h9,hcm,hcs,htk⟩
    ·have hl0:hi=0∧lo=0:=by rw[h7] at b2;simp only[M3] at b2;omega
     obtain⟨rfl,rfl⟩:=hl0
     refine⟨Ea rows 0 0,none,0,(rs.take 0).drop 0,h,by rw[h7,hsub];rfl,fun _=>⟨hsub,rfl⟩,by rw[hsub];simp,hR,by simp,by simp,fun a e=>by cases e⟩
    ·refine⟨Ea rows lo hi,if cap=lo then some ⟨b,q,none⟩ else(some (⟨b,q,none⟩:Addr)).map (·.add (lo * sz0)),cap - lo,(rs.take hi).drop lo,h,by rw[h7,hsub];rfl,fun e=>(by split at e<;>cases e),by rw[hsub,List.length_drop,List.length_take];rw[h7] at b2;simp only[M3] at b2;omega,hR,fun u hu=>h4 u (List.mem_of_mem_take (List.mem_of_mem_drop hu)),fun u hu=>h5 u (List.mem_of_mem_take (List.mem_of_mem_drop hu)),fun a e j u hu=>?_⟩
     have hlr:hi≤rs.length:=by rw[h2];rw[h7] at b2;simpa [M3] using b2
     have hf:rs.flatten[lo * sz0+j]?=some u:=by
      have e1:rs=rs.take lo++((rs.take hi).drop lo++rs.drop hi):=by
       conv=>lhs;rw[←List.take_append_drop hi rs,←List.take_append_drop lo (rs.take hi),List.take_take,Nat.min_eq_left b1,List.append_assoc]
      have e2:(rs.take lo).flatten.length=lo * sz0:=by
       have:∀(l:List (List Value)),(∀u∈l,u.length=sz0)→l.flatten.length=l.length * sz0:=fun l=>by
        induction l with
        | nil=>intro _;simp
        | cons u l ih=>intro h;rw[List.flatten_cons,List.length_append,h u (by simp),ih fun x hx=>h x (by simp[hx]),List.length_cons,Nat.succ_mul];omega
       rw[this _ fun u hu=>h4 u (List.mem_of_mem_take hu),List.length_take,Nat.min_eq_left (by omega)]
      rw[e1,List.flatten_append,List.getElem?_append_right (by omega),e2,Nat.add_sub_cancel_left,List.flatten_append,List.getElem?_append_left (List.getElem?_eq_some_iff.1 hu).1]
      exact hu
     split at e
     ·next hc =>
      exfalso
      have:lo=hi:=by
       have:hi≤cap:=by rw[h7] at b2;simp only[M3] at b2;omega
       omega
      subst this
      rw[List.drop_of_length_le (by rw[List.length_take];omega)] at hu
      simp at hu
     ·cases e
      show w.cell? ((Addr.add ⟨b,q,none⟩ (lo * sz0)).add j)=some u
      rw[Addr.add_lit,Addr.add_lit,cell_of_row w b _ cur e' (0,0) hgg]
      rw[←htk,List.getElem?_take] at hf
      split at hf
      ·rw[List.getElem?_drop] at hf
       rw[show q+lo * sz0+j=q+(lo * sz0+j) by omega]
       simpa using hf
      ·cases hf
   ·exact h.elim
  ·exact h.elim
 | _=>exact False.elim h
theorem Is (h:Has I V own w){k:Nat}{r0:R}(hk:look k own=some r0)(hos:w'.os=w.os)(htp:w'.tape=w.tape)(hou:w'.output=w.output)(hsz:w.heap.size≤w'.heap.size)(hbl:∀b,b < w.heap.size→¬V.f k b→w'.heap[b]?=w.heap[b]?)
  (s:Value) (f:Nat→Prop) (hf:∀b,f b→(V.f k b∨w.heap.size≤b)∧b < w'.heap.size) (hr:RRep I ((V.drop k).push 0 s f) V.n w' r):Later own I V w ((V.n,r)::(k,.gone)::own) I ((V.drop k).push 0 s f) w':=by
 have hkn:=h.num k r0 hk
 have hne:∀j r',look j own=some r'→j≠k→∀b,V.f j b→¬V.f k b:=fun j r' hj hne b hb hb'=>hne (h.disj j k r' r0 b hj hk hb hb')
 have hlk:∀j r',look j ((V.n,r)::(k,.gone)::own)=some r'→(j=V.n∧r'=r)∨(j≠V.n∧j=k∧r'=.gone)∨(j≠V.n∧j≠k∧look j own=some r'):=fun j r' hj=>by
  rw[A3] at hj
  split at hj
  ·next e=>cases hj;exact .inl ⟨e,rfl⟩
  ·next e =>
   rw[A3] at hj
   split at hj
   ·next e'=>cases hj;exact .inr (.inl ⟨e,e',rfl⟩)
   ·next e'=>exact .inr (.inr ⟨e,e',hj⟩)
 have hV:V.le ((V.drop k).push 0 s f):=⟨Nat.le_succ _,fun j hj=>by simp[Va.push,Va.drop,Nat.ne_of_lt hj]⟩
 have hfn:((V.drop k).push 0 s f).f V.n=f:=by simp[Va.push,Va.drop]
 have hfj:∀j,j≠V.n→j≠k→((V.drop k).push 0 s f).f j=V.f j:=fun j h1 h2=>by simp[Va.push,Va.drop,h1,h2]
 have hfk:∀b,¬((V.drop k).push 0 s f).f k b:=fun b=>by simp[Va.push,Va.drop,Nat.ne_of_lt hkn]
 refine⟨⟨h.mem.keep fun b o x hx=>hbl b (h.mem.lt hx) fun hfb=>(by have:=(h.foot k r0 b hk hfb).2 o;rw[hx] at this;cases this),fun j r' hj=>?_,fun j r' hj=>?_,fun j r' b hj hb=>?_,fun j j' r1 r2 b hj hj' hb hb'=>?_⟩,⟨hos,htp,hou,hsz,fun b hb hn=>⟨hbl b hb (hn k r0 hk),fun _=>rfl⟩,fun _ _ _ h=>h,fun j r' b hj hb hlt=>?_⟩,hV⟩
 ·rcases hlk j r' hj with⟨e,-⟩ | ⟨-,e,-⟩ | ⟨-,-,e⟩
  ·rw[e];exact Nat.lt_succ_self _
  ·rw[e];exact Nat.lt_succ_of_lt hkn
  ·exact Nat.lt_succ_of_lt (h.num j r' e)
 ·rcases hlk j r' hj with⟨e,e'⟩ | ⟨-,e,e'⟩ | ⟨e1,e2,e⟩
  ·rw[e,e'];exact hr
  ·rw[e,e'];exact hfk
  ·exact(h.each j r' e).keep (.refl _) hV (h.num j r' e) (hfj j e1 e2) hos hsz fun b hb=>hbl b (h.foot j r' b e hb).1 (hne j r' e e2 b hb)
 ·rcases hlk j r' hj with⟨e,e'⟩ | ⟨-,e,e'⟩ | ⟨e1,e2,e⟩
  ·rw[e,hfn] at hb
   refine⟨(hf b hb).2,fun o=>?_⟩
   rcases(hf b hb).1 with h1 | h1
   ·exact(h.foot k r0 b hk h1).2 o
   ·cases hI:I b o with
    | none=>rfl
    | some x=>exact absurd (h.mem.lt hI) (by omega)
  ·rw[e] at hb;exact absurd hb (hfk b)
  ·rw[hfj j e1 e2] at hb
   exact⟨Nat.lt_of_lt_of_le (h.foot j r' b e hb).1 hsz,(h.foot j r' b e hb).2⟩
 ·have key:∀j r',look j own=some r'→j≠V.n→j≠k→V.f j b→¬f b:=fun j r' hj e1 e2 hb hfb=>by
   rcases(hf b hfb).1 with h1 | h1
   ·exact hne j r' hj e2 b hb h1
   ·have:=(h.foot j r' b hj hb).1;omega
  rcases hlk j r1 hj with⟨e,-⟩ | ⟨-,e,-⟩ | ⟨e1,e2,e⟩
  ·rcases hlk j' r2 hj' with⟨e',-⟩ | ⟨-,e',-⟩ | ⟨e1',e2',e'⟩
   ·rw[e,e']
   ·rw[e'] at hb';exact absurd hb' (hfk b)
   ·rw[e,hfn] at hb;rw[hfj j' e1' e2'] at hb';exact absurd hb (key j' r2 e' e1' e2' hb')
  ·rw[e] at hb;exact absurd hb (hfk b)
  ·rw[hfj j e1 e2] at hb
   rcases hlk j' r2 hj' with⟨e',-⟩ | ⟨-,e',-⟩ | ⟨e1',e2',e'⟩
   ·rw[e',hfn] at hb';exact absurd hb' (key j r1 e e1 e2 hb)
   ·rw[e'] at hb';exact absurd hb' (hfk b)
   ·rw[hfj j' e1' e2'] at hb';exact h.disj j j' r1 r2 b e e' hb hb'
 ·rcases hlk j r' hj with⟨e,-⟩ | ⟨-,e,-⟩ | ⟨e1,e2,e⟩
  ·rw[e,hfn] at hb
   rcases(hf b hb).1 with h1 | h1
   ·exact⟨k,r0,hk,h1⟩
   ·omega
  ·rw[e] at hb;exact absurd hb (hfk b)
  ·rw[hfj j e1 e2] at hb;exact⟨j,r',e,hb⟩
theorem Pt (t ty e:TypeId)(i:TypeInfo)(z:Value)(size bytes:Nat)(ht:P.underlying t=some (.slice e))(hi:P.info? e=some i)(hz:i.zero=some z)
  (hsize:i.size=size) (hby:i.bytes=bytes) (hzs:z.cells.size=size) (hsz:0 < size) (v:Value) (n:Nat) (xs:List Value) (hown:D1 w e size v n xs)
  (A:Option Addr) (m c:Nat) (news:List Value) (hl:news.length=m * size) (hA:A=none→m=0∧c=0) (hnews:∀a,A=some a→∀j u,news[j]?=some u→w.cell? (a.add j)=some u) (h1:∀u∈news,u.oneCell'=true)
  (h63:n+m≤maxLen) (hbytes:(n+m) * bytes≤140737488355328) :
  ∃v' w',(Builtin.append_ #[t,t] ty #[v,.slice A m c]).run P w=.ok v' w'∧D1 w' e size v' (n+m) (xs++news)∧w.grownBy w' v.ownBlock∧(v'.ownBlock=v.ownBlock∨∃g,v'.ownBlock=some g∧w.heap.size≤g∧g < w'.heap.size):=by
 rcases hown.2 with⟨rfl,rfl⟩ | ⟨g,q,cap,cur,rfl,hg,hn,hm,hc,htake⟩
 ·have hx:xs=[]:=List.eq_nil_of_length_eq_zero (by simpa using hown.1)
  subst hx
  obtain⟨v',w',r1,r2,r3,r4⟩:=Z1r (P:=P) (w:=w) t ty e i z size bytes ht hi hz hsize hby hzs hsz (.slice none 0 0) 0 [] (World.ownsRow_nil w 0 e size) A m c news hl hA hnews h1 h63 hbytes
  exact⟨v',w',r1,Nl r2,r3,r4⟩
 cases A with
 | none =>
  obtain⟨rfl,rfl⟩:=hA rfl
  have hnn:news=[]:=List.eq_nil_of_length_eq_zero (by simpa using hl)
  subst hnn
  refine⟨_,w,?_,by simpa using hown,World.grownBy.refl _ _,.inl rfl⟩
  simp[Builtin.append_,run_underlying ht,sizeOf,typeInfo,hi,Builtin.lenOf,Builtin.firstCells,hn,storeCells]
 | some a =>
  have hnews:=hnews a rfl
  by_cases hroom:n+m≤cap
  ·subst hsize
   have hmul:n * i.size+news.length≤cap * i.size:=by rw[hl,←Nat.add_mul];exact Nat.mul_le_mul_right _ hroom
   have hf:=run_firstCells_some (P:=P) w i.size m a m c news hl hnews
   have hst:=run_storeCells_at P g (q+n * i.size) e news 0 cur w hg (by omega) h1
   simp only[Nat.add_zero] at hst
   have hcl:cur.toList.length=cur.size:=Array.length_toList
   refine⟨.slice (some ⟨g,q,none⟩) (n+m) cap,w.setRow g (cur.toList.take (q+n * i.size)++news++cur.toList.drop (q+n * i.size+news.length)).toArray,by simp[Builtin.append_,run_underlying ht,sizeOf,typeInfo,hi,Builtin.lenOf,hroom,hf,Addr.add_lit,hst],⟨by rw[List.length_append,hown.1,hl,Nat.add_mul],.inr ⟨g,q,cap,_,rfl,setRow_heap w _ cur _ e _ hg,hroom,hm,?_,?_⟩⟩,⟨rfl,rfl,rfl,by simp[World.setRow],fun b hb hne=>setRow_other w _ b _ (fun e=>hne (by rw[e];rfl))⟩,.inl rfl⟩
   ·simp
    omega
   ·have hX:(cur.toList.take (q+n * i.size)).drop q=xs:=by rw[List.drop_take,Nat.add_sub_cancel_left];exact htake
    have hln:(n+m) * i.size=(xs++news).length:=by rw[List.length_append,hown.1,hl,Nat.add_mul]
    show List.take _ (List.drop q (cur.toList.take (q+n * i.size)++news++cur.toList.drop (q+n * i.size+news.length)))=_
    rw[List.append_assoc,List.drop_append_of_le_length (by rw[List.length_take,hcl];omega),hX,←List.append_assoc,hln,List.take_left]
  ·obtain⟨v',w',r1,r2,r3⟩:=run_append_arg_grows (P:=P) w t ty e i z size bytes ht hi hz hsize hby hzs hsz ⟨g,q,none⟩ n cap xs hown.1 (fun j u hu=>by
    rw[Addr.add_lit,cell_of_row w g _ cur e (0,0) hg]
    rw[←htake,List.getElem?_take] at hu
    split at hu
    ·rw[List.getElem?_drop] at hu
     simpa using hu
    ·cases hu) a m c news hl hnews (by omega) h63 hbytes
   refine⟨v',w',r1,Nl r2,⟨r3.os,r3.tape,r3.output,r3.size,fun b hb _=>r3.block b hb (by simp)⟩,?_⟩
   cases hv:v'.ownBlock with
   | none =>
    exfalso
    rcases r2.2 with⟨-,h0⟩ | ⟨g',cap',cur',rfl,-⟩
    ·omega
    ·cases hv
   | some g'=>exact .inr ⟨g',rfl,r2.lt g' hv⟩
theorem W7 {rs:List (List Value)}{sz:Nat}(h:∀u∈rs,u.length=sz):∀l,rs.flatten.take (l * sz)=(rs.take l).flatten:=by
 intro l
 induction l generalizing rs with
 | zero=>simp
 | succ l ih =>
  cases rs with
  | nil=>simp
  | cons u rs =>
   have hu:=h u (by simp)
   rw[List.flatten_cons,List.take_succ_cons,List.flatten_cons,←ih fun x hx=>h x (by simp[hx]),show(l+1) * sz=u.length+l * sz by rw[hu,Nat.succ_mul];omega,List.take_length_add_append]
theorem Z7f {rows new:List (List G)}{rs0 rs:List (List Value)}{k e sz:Nat}{w':World}{v':Value}(r1:D1 w' e sz v' (rows.length+new.length) (rs0.flatten++rs.flatten))(g2:rs0.length=rows.length)(g3:∀(i:Nat) r u,rows[i]?=some r→rs0[i]?=some u→PW (VRep I) r u)(g4:∀u∈rs0,u.length=sz)(g5:∀u∈rs0,∀x∈u,x.oneCell'=true)
  (k1:rs.length=new.length) (k2:∀(i:Nat) r u,new[i]?=some r→rs[i]?=some u→PW (VRep I) r u) (k3:∀u∈rs,u.length=sz) (k4:∀u∈rs,∀x∈u,x.oneCell'=true) (h5:0 < sz):RRep I ((V.drop k).push 0 v' fun b=>v'.ownBlock=some b) V.n w' (.vw (rows++new) e sz):=by
 refine⟨fun b=>by simp[Va.push,Va.drop],rs0++rs,?_,by simp[g2,k1],fun i r u hr hu=>?_,fun u hu=>?_,fun u hu=>?_,h5⟩
 ·have:((V.drop k).push 0 v' fun b=>v'.ownBlock=some b).s V.n=v':=by simp[Va.push,Va.drop]
  rw[this,List.length_append,List.flatten_append]
  exact r1
 ·by_cases hi:i < rows.length
  ·rw[List.getElem?_append_left hi] at hr
   rw[List.getElem?_append_left (by omega)] at hu
   exact g3 i r u hr hu
  ·rw[List.getElem?_append_right (by omega)] at hr
   rw[List.getElem?_append_right (by omega),g2] at hu
   exact k2 _ r u hr hu
 ·rcases List.mem_append.1 hu with hu | hu
  ·exact g4 u hu
  ·exact k3 u hu
 ·rcases List.mem_append.1 hu with hu | hu
  ·exact g5 u hu
  ·exact k4 u hu
def Z97 (V:Va)(w w':World)(g:G):Prop:=match g with
 | .osl k=>∀b,b < w.heap.size→¬V.f k b→w'.heap[b]?=w.heap[b]?
 | .orv k _ _ _ _ _=>∀b,b < w.heap.size→¬V.f k b→w'.heap[b]?=w.heap[b]?
 | _=>∀b,b < w.heap.size→w'.heap[b]?=w.heap[b]?
theorem Zdx {g0:G}(hKV:∀t own' I' V' a' w',K t own' V'.n→Later own I V w own' I' V' w'→Z97 V w w' g0→V.kp V'→ARep N I' V' a' t→next a' w')(ha:ARep N I V a t)(hd:∀i,o.dst=some i→i < N)
  (hr:(execOp a.eval o).run P w=.ok (.value y) w') (hl:Later own I V w own' I' V' w') (hf:Z97 V w w' g0) (hkp:V.kp V') (hy:TRep I' V' g y) (hk:K (put o.dst g t) own' V'.n):o.wp P a w next Q:=by
 unfold Oper.wp
 rw[hr]
 exact hKV _ _ _ _ _ _ hk hl hf hkp ((ha.mono hl.fro.mono hl.va).put hd hy)
variable (hT:∀t i,look t tb=some i→TIok P t i) (hH:Has I V own w) (hK:Nxt N own0 I0 V0 w0 K next) (hL:Since own0 I0 V0 w0 own I V w) (ha:ARep N I V a t) (hd:∀i,o.dst=some i→i < N)
include ha
include hH in
theorem Zdm {x:Operand}{ty:TypeId}(hty:P.underlying ty=some .string)(ho:o.op=.call {callee:=.builtin .len,args:=#[x],argTypes:=#[ty]})(h:ev t own x fun g=>match g with
  | .v (.string s)=>K (put o.dst (.v (.int .i64 s.size)) t) own V.n
  | _=>False):QOk S P I V own w a t o K:=by
 obtain⟨g,hk,hg⟩:=Av h ha hH
 clear h
 split at hk
 ·next s =>
  have e:=Ap hg
  exact⟨_,_,hk,(.of_v (.v _)),fun u _=>(by simp[execOp,ho,resolve,invoke,builtin,Builtin.len_,run_underlying hty,e,goInt])⟩
 ·exact hk.elim
include hH in
theorem Zfd {x z:Operand}{at':Array TypeId}(ho:o.op=.call {callee:=.builtin .max,args:=#[x,z],argTypes:=at'})(h:ev t own x fun g=>ev t own z fun q=>match g,q with
  | .v (.int .i64 a),.v (.int .i64 b)=>K (put o.dst (.v (.int .i64 (max a b))) t) own V.n
  | _,_=>False):QOk S P I V own w a t o K:=by
 obtain⟨g,hk1,hg⟩:=Av h ha hH
 obtain⟨q,hk,hq⟩:=Av hk1 ha hH
 clear h hk1
 split at hk
 ·have e:=Ap hg
  have e2:=Ap hq
  exact⟨_,_,hk,(.of_v (.v _)),fun u _=>(by simp[execOp,ho,resolve,invoke,builtin,e,e2,Go.Lib.run_max_ints])⟩
 ·exact hk.elim
include hH in
theorem Zfj {x z:Operand}{at':Array TypeId}(ho:o.op=.call {callee:=.builtin .min,args:=#[x,z],argTypes:=at'})(h:ev t own x fun g=>ev t own z fun q=>match g,q with
  | .v (.int .i64 a),.v (.int .i64 b)=>K (put o.dst (.v (.int .i64 (min a b))) t) own V.n
  | _,_=>False):QOk S P I V own w a t o K:=by
 obtain⟨g,hk1,hg⟩:=Av h ha hH
 obtain⟨q,hk,hq⟩:=Av hk1 ha hH
 clear h hk1
 split at hk
 ·have e:=Ap hg
  have e2:=Ap hq
  exact⟨_,_,hk,(.of_v (.v _)),fun u _=>(by simp[execOp,ho,resolve,invoke,builtin,e,e2,Go.Lib.run_min_ints])⟩
 ·exact hk.elim
include hH in
theorem Zc4 {x:Operand}{ty e:TypeId}(hty:P.underlying ty=some (.slice e))(ho:o.op=.call {callee:=.builtin .len,args:=#[x],argTypes:=#[ty]})(h:ev t own x fun g=>Zfy own g fun m=>K (put o.dst (.v (.int .i64 m)) t) own V.n):QOk S P I V own w a t o K:=by
 obtain⟨g,hk,hg⟩:=Av h ha hH
 have old:(T2 own g fun rows=>K (put o.dst (.v (.int .i64 rows.length)) t) own V.n)→QOk S P I V own w a t o K:=fun hk=>by
  obtain⟨rows,A,c,hk,he,-⟩:=Z02 hk hg hH
  exact⟨_,_,hk,(.of_v (.v _)),fun u _=>(by simp[execOp,ho,resolve,invoke,builtin,Builtin.len_,run_underlying hty,he,goInt])⟩
 cases g with
 | orv k i sz off len cap =>
  obtain⟨hkn,b,q,-,he⟩:=(show TRep1 I V (.orv k i sz off len cap) (a.eval x) from hg)
  exact⟨_,_,hk,(.of_v (.v _)),fun u _=>(by simp[execOp,ho,resolve,invoke,builtin,Builtin.len_,run_underlying hty,he,goInt])⟩
 | _=>exact old hk
include hH ha hd in
theorem Ln {x:Operand}{e sz:Nat}{g:G}(hKV:∀t own' I' V' a' w',K t own' V'.n→Later own I V w own' I' V' w'→Z97 V w w' g→V.kp V'→ARep N I' V' a' t→next a' w'){new:List (List G)}{rs:List (List Value)}(k1:rs.length=new.length)(k2:∀(i:Nat) r u,new[i]?=some r→rs[i]?=some u→PW (VRep I) r u)(k3:∀u∈rs,u.length=sz)(k4:∀u∈rs,∀x∈u,x.oneCell'=true)(h5:0 < sz)
  (hap:∀(v:Value) (rows:List (List G)) (rs0:List (List Value)),a.eval x=v→w.ownsRow 0 e sz v rows.length rs0.flatten→rows.length+new.length≤1073741824→∃v' w',(execOp a.eval o).run P w=.ok (.value v') w'∧w'.ownsRow 0 e sz v' (rows.length+new.length) (rs0.flatten++rs.flatten)∧w.grownBy w' v.ownBlock∧(v'.ownBlock=v.ownBlock∨∃g,v'.ownBlock=some g∧w.heap.size≤g∧g < w'.heap.size))
  (hg:TRep I V g (a.eval x)) (hk:Z7t t own V.n o.dst g new e sz K):o.wp P a w next Q:=by
 unfold Z7t at hk
 cases g with
 | nl =>
  obtain⟨hroom,hk⟩:=hk
  have hx:a.eval x=.slice none 0 0:=by generalize a.eval x=X at hg;cases(show VRep I .nl X from hg);rfl
  obtain⟨v',w',hr,r1,r2,r3⟩:=hap _ [] [] hx (World.ownsRow_nil w 0 e sz) (by simpa using hroom)
  simp only[List.length_nil,Nat.zero_add,List.flatten_nil,List.nil_append] at r1
  have hB:Below w.heap.size w w':=⟨r2.os,r2.tape,r2.output,r2.size,fun b hb=>r2.block b hb (by simp[Value.ownBlock])⟩
  refine Zdx (g0:=.nl) (g:=.osl V.n) hKV ha hd hr (D3 (r:=.slc new e sz) hH hB 0 v' (fun b=>v'.ownBlock=some b) (fun b hb=>?_) ⟨fun b=>by simp[Va.push],rs,by simpa [Va.push] using r1,k1,k2,k3,k4,h5⟩) (fun b hb=>hB.block b hb) (.push V 0 v' _) (TRep.of_c (g:=.osl V.n) ⟨Nat.lt_succ_self _,by simp[Va.push]⟩) hk
  rcases r3 with h | ⟨b',h,hb'⟩
  ·rw[h] at hb;simp[Value.ownBlock] at hb
  ·rw[h] at hb;cases hb;exact hb'
 | osl k =>
  obtain⟨hkn,hx⟩:=(show k < V.n∧a.eval x=V.s k from hg)
  dsimp only at hk
  split at hk
  ·next rows e' sz' hr0 =>
   split at hk
   ·next hb1 hb2 =>
    have hb1:=Nat.eq_of_beq_eq_true hb1
    have hb2:=Nat.eq_of_beq_eq_true hb2
    subst hb1 hb2
    obtain⟨hroom,hk⟩:=hk
    obtain⟨hff,rs0,ho0,g2,g3,g4,g5,g6⟩:=hH.each k _ hr0
    obtain⟨v',w',hr,r1,r2,r3⟩:=hap _ rows rs0 hx ho0 hroom
    have hfit:∀b,v'.ownBlock=some b→b < w'.heap.size:=fun b hb=>(r1.lt b hb).2
    refine Zdx (g0:=.osl k) (g:=.osl V.n) hKV ha hd hr (Is (r:=.slc (rows++new) e sz) hH hr0 r2.os r2.tape r2.output r2.size (fun b hb hn=>r2.block b hb (fun e=>hn ((hff b).2 e.symm))) v' (fun b=>v'.ownBlock=some b) (fun b hb=>⟨?_,hfit b hb⟩) ⟨fun b=>by simp[Va.push,Va.drop],rs0++rs,?_,by simp[g2,k1],?_,?_,?_,h5⟩) (fun b hb hn=>r2.block b hb (fun e=>hn ((hff b).2 e.symm))) ((Va.kp.drop V k).trans (Nat.le_refl _) (.push (V.drop k) 0 v' _)) (TRep.of_c (g:=.osl V.n) ⟨Nat.lt_succ_self _,by simp[Va.push,Va.drop]⟩) hk
    ·rcases r3 with h | ⟨b',h,hb'⟩
     ·exact .inl ((hff b).2 (by rw[←h];exact hb))
     ·rw[h] at hb;cases hb;exact .inr hb'.1
    ·simpa [Va.push,Va.drop] using r1
    ·intro i r u hr' hu'
     rcases Nat.lt_or_ge i rows.length with hlt | hge
     ·rw[List.getElem?_append_left hlt] at hr'
      rw[List.getElem?_append_left (by omega)] at hu'
      exact g3 i r u hr' hu'
     ·rw[List.getElem?_append_right hge] at hr'
      rw[List.getElem?_append_right (by omega),g2] at hu'
      exact k2 _ r u hr' hu'
    ·intro u hu
     rcases List.mem_append.1 hu with hu | hu
     ·exact g4 u hu
     ·exact k3 u hu
    ·intro u hu
     rcases List.mem_append.1 hu with hu | hu
     ·exact g5 u hu
     ·exact k4 u hu
   ·exact hk.elim
  ·exact hk.elim
 | _=>exact hk.elim
include hH ha hd in
theorem Z0y {x:Operand}{e sz:Nat}{g:G}(hKV:∀t own' I' V' a' w',K t own' V'.n→Later own I V w own' I' V' w'→Z97 V w w' g→V.kp V'→ARep N I' V' a' t→next a' w'){new:List (List G)}{rs:List (List Value)}(k1:rs.length=new.length)(k2:∀(i:Nat) r u,new[i]?=some r→rs[i]?=some u→PW (VRep I) r u)(k3:∀u∈rs,u.length=sz)(k4:∀u∈rs,∀x∈u,x.oneCell'=true)(h5:0 < sz)
  (hap:∀(v:Value) (rows:List (List G)) (rs0:List (List Value)),a.eval x=v→w.ownsRow 0 e sz v rows.length rs0.flatten→rows.length+new.length≤1073741824→∃v' w',(execOp a.eval o).run P w=.ok (.value v') w'∧w'.ownsRow 0 e sz v' (rows.length+new.length) (rs0.flatten++rs.flatten)∧w.grownBy w' v.ownBlock∧(v'.ownBlock=v.ownBlock∨∃g,v'.ownBlock=some g∧w.heap.size≤g∧g < w'.heap.size))
  (hav:∀(v:Value) (n:Nat) (xs:List Value),a.eval x=v→D1 w e sz v n xs→n+new.length≤1073741824→∃v' w',(execOp a.eval o).run P w=.ok (.value v') w'∧D1 w' e sz v' (n+new.length) (xs++rs.flatten)∧w.grownBy w' v.ownBlock∧(v'.ownBlock=v.ownBlock∨∃g,v'.ownBlock=some g∧w.heap.size≤g∧g < w'.heap.size))
  (hg:TRep I V g (a.eval x)) (hk:Zco t own V.n o.dst g new e sz K):o.wp P a w next Q:=by
 have lt:∀{w':World} {v':Value} {n:Nat} {xs:List Value},D1 w' e sz v' n xs→∀b,v'.ownBlock=some b→b < w'.heap.size:=fun {w' v' n xs} r b hb=>by
  rcases r.2 with⟨rfl,-⟩ | ⟨g',q',cap',cur',rfl,hg',-⟩
  ·cases hb
  ·cases hb;exact(Array.getElem?_eq_some_iff.1 hg').1
 unfold Zco at hk
 split at hk
 ·next k =>
  obtain⟨hkn,hx⟩:=(show k < V.n∧a.eval x=V.s k from hg)
  split at hk
  ·next rows e' sz' hr0 =>
   split at hk
   ·next hb1 hb2 =>
    have hb1:=Nat.eq_of_beq_eq_true hb1
    have hb2:=Nat.eq_of_beq_eq_true hb2
    subst hb1 hb2
    obtain⟨hroom,hk⟩:=hk
    obtain⟨hff,rs0,ho0,g2,g3,g4,g5,g6⟩:=hH.each k _ hr0
    obtain⟨v',w',hr,r1,r2,r3⟩:=hav _ rows.length rs0.flatten hx ho0 hroom
    refine Zdx (g0:=.osl k) (g:=.osl V.n) hKV ha hd hr (Is (r:=.vw (rows++new) e sz) hH hr0 r2.os r2.tape r2.output r2.size (fun b hb hn=>r2.block b hb (fun e=>hn ((hff b).2 e.symm))) v' (fun b=>v'.ownBlock=some b) (fun b hb=>⟨?_,lt r1 b hb⟩) (Z7f r1 g2 g3 g4 g5 k1 k2 k3 k4 h5)) (fun b hb hn=>r2.block b hb (fun e=>hn ((hff b).2 e.symm))) ((Va.kp.drop V k).trans (Nat.le_refl _) (.push (V.drop k) 0 v' _)) (TRep.of_c (g:=.osl V.n) ⟨Nat.lt_succ_self _,by simp[Va.push,Va.drop]⟩) hk
    rcases r3 with h | ⟨b',h,hb'⟩
    ·exact .inl ((hff b).2 (by rw[←h];exact hb))
    ·rw[h] at hb;cases hb;exact .inr hb'.1
   ·exact hk.elim
  ·exact Ln (hH:=hH) (hKV:=hKV) (ha:=ha) (hd:=hd) k1 k2 k3 k4 h5 hap hg hk
 ·next k s l c =>
  obtain⟨hkn,b,q,⟨n0,c0,hs⟩,hx⟩:=(show TRep1 I V (.orv k 0 (s+1) 0 l c) (a.eval x) from hg)
  split at hk
  ·next rows e' sz2 hr0 =>
   split at hk
   ·next hb1 hb2 hb3 hb4 hb5 =>
    have hb1:=Nat.eq_of_beq_eq_true hb1
    have hb2:=Nat.eq_of_beq_eq_true hb2
    have hb3:=Nat.eq_of_beq_eq_true hb3
    have hb4:=Nat.eq_of_beq_eq_true hb4
    have hb5:=Nat.le_of_ble_eq_true hb5
    subst hb1 hb3 hb4
    obtain⟨hroom,hk⟩:=hk
    have hff:=(hH.each k _ hr0).1
    obtain⟨rs0,cur,hcur,g2,g3,g4,g5,hn,hnc,hcm,hcs,ht,-⟩:=Zcf hH hr0 hs
    have hx:a.eval x=.slice (some ⟨b,q,none⟩) l l:=by rw[hx];simp
    have hv:D1 w e sz (.slice (some ⟨b,q,none⟩) l l) (rows.take l).length (rs0.take l).flatten:=by
     have hl:(rows.take l).length=l:=by rw[List.length_take];omega
     refine⟨by rw[B1 fun u hu=>g4 u (List.mem_of_mem_take hu),List.length_take,hl];congr 1;omega,.inr ⟨b,q,l,cur,by rw[hl],hcur,by rw[hl];exact Nat.le_refl _,by omega,?_,?_⟩⟩
     ·have:l * sz≤c0 * sz:=Nat.mul_le_mul_right _ (by omega)
      omega
     ·rw[hl,←W7 g4,←ht,List.take_take,Nat.min_eq_left (Nat.mul_le_mul_right _ (by omega))]
    have hl:(rows.take l).length=l:=by rw[List.length_take];omega
    obtain⟨v',w',hr,r1,r2,r3⟩:=hav _ (rows.take l).length (rs0.take l).flatten hx hv (by rw[hl];exact hroom)
    have hob:(Value.slice (some ⟨b,q,none⟩) l l).ownBlock=some b:=rfl
    have hof:∀b',V.f k b'↔b=b':=fun b'=>by rw[hff b',hs];show some b=some b'↔_;simp
    rw[hob] at r2 r3
    refine Zdx (g0:=.orv k 0 (s+1) 0 l l) (g:=.osl V.n) hKV ha hd hr (Is (r:=.vw (rows.take l++new) e sz) hH hr0 r2.os r2.tape r2.output r2.size (fun b' hb hn=>r2.block b' hb (fun e=>hn ((hof b').2 (Option.some.inj e.symm)))) v' (fun b=>v'.ownBlock=some b) (fun b' hb=>⟨?_,lt r1 b' hb⟩) (Z7f r1 (by rw[List.length_take,List.length_take,g2]) (fun i r u h1 h2=>?_) (fun u hu=>g4 u (List.mem_of_mem_take hu)) (fun u hu=>g5 u (List.mem_of_mem_take hu)) k1 k2 k3 k4 h5)) (fun b' hb hn=>r2.block b' hb (fun e=>hn ((hof b').2 (Option.some.inj e.symm)))) ((Va.kp.drop V k).trans (Nat.le_refl _) (.push (V.drop k) 0 v' _)) (TRep.of_c (g:=.osl V.n) ⟨Nat.lt_succ_self _,by simp[Va.push,Va.drop]⟩) hk
    ·rcases r3 with h | ⟨b2,h,hb2⟩
     ·exact .inl ((hof b').2 (by rw[h] at hb;exact Option.some.inj hb))
     ·rw[h] at hb;cases hb;exact .inr hb2.1
    ·rw[List.getElem?_take] at h1 h2
     split at h1
     ·next hlt=>rw[if_pos hlt] at h2;exact g3 i r u h1 h2
     ·cases h1
   ·exact hk.elim
  ·exact hk.elim
 ·exact Ln (hH:=hH) (hKV:=hKV) (ha:=ha) (hd:=hd) k1 k2 k3 k4 h5 hap hg hk
include hT hH ha hd in
theorem N4 {g:G}(hKV:∀t own' I' V' a' w',K t own' V'.n→Later own I V w own' I' V' w'→Z97 V w w' g→V.kp V'→ARep N I' V' a' t→next a' w'){x z:Operand}{ty e sz:Nat}{ag:Bool}{ze:List G}{fl:List (TypeId × Nat)}{st:Bool}{ik:Option IntKind}{kd:KD}(hl:look ty tb=some ⟨ag,ze,some (e,sz),fl,st,ik,kd⟩)(ho:o.op=.call {callee:=.builtin .append,args:=#[x,z],argTypes:=#[ty,ty]})(hg:TRep I V g (a.eval x))(hk1:ev t own z fun q=>Z2r own q sz fun new=>Zco t own V.n o.dst g new e sz K):o.wp P a w next Q:=by
 obtain⟨q,hk2,hq⟩:=Av hk1 ha hH
 obtain⟨new,A,c,rs,hk,he,hA,k1,k2,k3,k4,k5⟩:=U9 hk2 hq hH
 clear hk1 hk2
 obtain⟨hu,ie,zv,h1,h2,h3,h4,h5,h6⟩:=(hT _ _ hl).elem e sz rfl
 have hfl:rs.flatten.length=new.length * sz:=by rw[B1 k3,k1]
 have hro:∀u∈rs.flatten,u.oneCell'=true:=fun u hu=>by
  obtain⟨v,hv,hu⟩:=List.mem_flatten.1 hu
  exact k4 v hv u hu
 have hap:∀(v:Value) (rows:List (List G)) (rs0:List (List Value)),a.eval x=v→w.ownsRow 0 e sz v rows.length rs0.flatten→rows.length+new.length≤1073741824→∃v' w',(execOp a.eval o).run P w=.ok (.value v') w'∧w'.ownsRow 0 e sz v' (rows.length+new.length) (rs0.flatten++rs.flatten)∧w.grownBy w' v.ownBlock∧(v'.ownBlock=v.ownBlock∨∃g,v'.ownBlock=some g∧w.heap.size≤g∧g < w'.heap.size):=fun v rows rs0 hx ho0 hroom=>by
  obtain⟨v',w',hr,r1,r2,r3⟩:=Z1r (P:=P) (w:=w) ty o.type e ie zv sz ie.bytes hu h1 h2 h3 rfl h4 h5 v rows.length rs0.flatten ho0 A new.length c rs.flatten hfl (fun e=>hA e) k5 hro (by unfold maxLen;omega) (by
   have:=Nat.mul_le_mul hroom h6
   omega)
  exact⟨v',w',by simp only[execOp,ho,resolve,invoke,builtin,Sem.run_bind,Sem.run_pure,Result.andThen_ok,List.map_toArray,List.map_cons,List.map_nil,hx,he,hr],r1,r2,r3⟩
 have hav:∀(v:Value) (n:Nat) (xs:List Value),a.eval x=v→D1 w e sz v n xs→n+new.length≤1073741824→∃v' w',(execOp a.eval o).run P w=.ok (.value v') w'∧D1 w' e sz v' (n+new.length) (xs++rs.flatten)∧w.grownBy w' v.ownBlock∧(v'.ownBlock=v.ownBlock∨∃g,v'.ownBlock=some g∧w.heap.size≤g∧g < w'.heap.size):=fun v n xs hx ho0 hroom=>by
  obtain⟨v',w',hr,r1,r2,r3⟩:=Pt (P:=P) (w:=w) ty o.type e ie zv sz ie.bytes hu h1 h2 h3 rfl h4 h5 v n xs ho0 A new.length c rs.flatten hfl (fun e=>hA e) k5 hro (by unfold maxLen;omega) (by
   have:=Nat.mul_le_mul hroom h6
   omega)
  exact⟨v',w',by simp only[execOp,ho,resolve,invoke,builtin,Sem.run_bind,Sem.run_pure,Result.andThen_ok,List.map_toArray,List.map_cons,List.map_nil,hx,he,hr],r1,r2,r3⟩
 exact Z0y (hH:=hH) (hKV:=hKV) (ha:=ha) (hd:=hd) k1 k2 k3 k4 h5 hap hav hg hk
include hT hH ha hd in
theorem H9 {g:G}(hKV:∀t own' I' V' a' w',K t own' V'.n→Later own I V w own' I' V' w'→Z97 V w w' g→V.kp V'→ARep N I' V' a' t→next a' w'){x z:Operand}{ty ty' e:Nat}{ti tj:TI}(hl:look ty tb=some ti)(hel:ti.elem=some (e,1))(hl':look ty' tb=some tj)(hst:tj.str=true)(ho:o.op=.call {callee:=.builtin .append,args:=#[x,z],argTypes:=#[ty,ty']})(hg:TRep I V g (a.eval x))(hk1:ev t own z fun q=>Zbf q fun s=>Z7t t own V.n o.dst g (s.data.toList.map gBy) e 1 K):o.wp P a w next Q:=by
 obtain⟨q,hk2,hq⟩:=Av hk1 ha hH
 unfold Zbf at hk2
 split at hk2
 ·next s =>
  have he:=Ap hq
  obtain⟨hu,ie,zv,h1,h2,h3,h4,h5,h6⟩:=(hT _ _ hl).elem e 1 hel
  have hux:=(hT _ _ hl').str hst
  have hfl:(s.data.toList.map fun b=>[Value.int .u8 b.toNat]).flatten=byteCells s:=by
   unfold byteCells
   induction s.data.toList with
   | nil=>rfl
   | cons c l ih=>rw[List.map_cons,List.flatten_cons,ih];rfl
  have hsz:(s.data.toList.map gBy).length=s.size:=by rw[List.length_map,Array.length_toList];rfl
  refine Ln (hH:=hH) (hKV:=hKV) (ha:=ha) (hd:=hd) (rs:=s.data.toList.map fun b=>[Value.int .u8 b.toNat]) (by simp) (fun i r u hr hu=>?_) (fun u hu=>?_) (fun u hu x hx=>?_) Nat.one_pos (fun v rows rs0 hx ho0 hroom=>?_) hg hk2
  ·rw[List.getElem?_map] at hr hu
   obtain⟨c,h7,rfl⟩:=Option.map_eq_some_iff.1 hr
   rw[h7] at hu;cases hu
   exact .cons (.v _) .nil
  ·obtain⟨c,-,rfl⟩:=List.mem_map.1 hu;rfl
  ·obtain⟨c,-,rfl⟩:=List.mem_map.1 hu
   rw[List.mem_singleton.1 hx];rfl
  ·rw[hsz] at hroom⊢
   obtain⟨v',w',hr,r1,r2,r3⟩:=S7 (P:=P) (w:=w) ty ty' o.type e ie zv hu hux h1 h2 h3 h4 v rows.length rs0.flatten ho0 s (by unfold maxLen;omega) (by
    have:=Nat.mul_le_mul hroom h6
    omega)
   rw[hfl]
   exact⟨v',w',by simp only[execOp,ho,resolve,invoke,builtin,Sem.run_bind,Sem.run_pure,Result.andThen_ok,List.map_toArray,List.map_cons,List.map_nil,hx,he,hr],r1,r2,r3⟩
 ·exact hk2.elim
include hT hK hL ha hd in
theorem Zp {x z:Operand}{ty e sz:Nat}{ag:Bool}{ze:List G}{fl:List (TypeId × Nat)}{st:Bool}{ik:Option IntKind}{kd:KD}(hl:look ty tb=some ⟨ag,ze,some (e,sz),fl,st,ik,kd⟩)(ho:o.op=.call {callee:=.builtin .append,args:=#[x,z],argTypes:=#[ty,ty]})(h:ev t own x fun g=>ev t own z fun q=>Z2r own q sz fun new=>Zco t own V.n o.dst g new e sz K):o.wp P a w next Q:=by
 obtain⟨g,hk1,hg⟩:=Av h ha hL.has
 exact N4 (g:=g) (hT:=hT) (hH:=hL.has) (ha:=ha) (hd:=hd) (fun t own' I' V' a' w' hk hl _ _ har=>hK _ _ _ _ _ _ hk (hL.trans hl) har) hl ho hg hk1
include hT hK hL ha hd in
theorem Nv {x z:Operand}{ty ty' e:Nat}{ti tj:TI}(hl:look ty tb=some ti)(hel:ti.elem=some (e,1))(hl':look ty' tb=some tj)(hst:tj.str=true)(ho:o.op=.call {callee:=.builtin .append,args:=#[x,z],argTypes:=#[ty,ty']})(h:ev t own x fun g=>ev t own z fun q=>Zbf q fun s=>Z7t t own V.n o.dst g (s.data.toList.map gBy) e 1 K):o.wp P a w next Q:=by
 obtain⟨g,hk1,hg⟩:=Av h ha hL.has
 exact H9 (g:=g) (hT:=hT) (hH:=hL.has) (ha:=ha) (hd:=hd) (fun t own' I' V' a' w' hk hl _ _ har=>hK _ _ _ _ _ _ hk (hL.trans hl) har) hl hel hl' hst ho hg hk1
end
end Go.Proofs.YtihfaocdpmmooaaGreat
namespace Go.Proofs.YtihfaocdpmmooaaGreat
open Go.RowKit
section
variable {P:Program} {tb:List (Nat × TI)} {N n:Nat} {I I' I0:Imm} {V V' V0:Va} {a:Act} {t:Ts} {own own' own0:Os} {w w' w0:World} {g:G} {x y:Value} {d:Option Tmp}
variable {XL:List Nat} {S:World→Prop} {K:Ts→Os→Nat→Prop} {next:Act→World→Prop} {Q:Exit→Act→World→Prop} {o:Oper} {r:R}
theorem F6 {z:Option Operand}{d:Int}{K1:Int→Prop}(h:evO t own z d K1)(ha:ARep N I V a t)(hH:Has I V own w):∃n,K1 n∧(∀u,z=some u→a.eval u=.int .i64 n)∧(z=none→n=d):=by
 cases z with
 | none=>exact⟨d,h,fun u e=>(by cases e),fun _=>rfl⟩
 | some u =>
  unfold evO at h
  dsimp only at h
  obtain⟨q,hk,hq⟩:=Av h ha hH
  clear h
  split at hk
  ·next m=>exact⟨m,hk,fun u e=>(by cases e;exact Ap hq),fun e=>(by cases e)⟩
  ·exact hk.elim
theorem Gy {sl:Bool}{len cap:Nat}{lo hi:Option Value}{l h:Int}(hl:(∀u,lo=some u→u=.int .i64 l)∧(lo=none→l=0))(hh:(∀u,hi=some u→u=.int .i64 h)∧(hi=none→h=len))(h1:0≤l)(h2:l≤h)(h3:h≤len)(h4:len≤cap)(w:World) :
  (Instr.sliceBounds sl len cap lo hi none).run P w=.ok (l.toNat,h.toNat,cap) w:=by
 unfold Instr.sliceBounds
 cases hi with
 | none =>
  have e:=hh.2 rfl
  subst e
  cases lo with
  | none =>
   have e:=hl.2 rfl
   subst e
   simp
  | some u =>
   have e:=hl.1 u rfl
   subst e
   have:l≤(len:Int):=h2
   simp[Instr.sliceBound,asIntOf,h1,this]
 | some v =>
  have e:=hh.1 v rfl
  subst e
  have h5:0≤h:=by omega
  have h6:h≤(cap:Int):=by omega
  cases lo with
  | none =>
   have e:=hl.2 rfl
   subst e
   simp[Instr.sliceBound,asIntOf,h5,h6]
  | some u =>
   have e:=hl.1 u rfl
   subst e
   have h7:(h.toNat:Int)=h:=Int.toNat_of_nonneg h5
   simp[Instr.sliceBound,asIntOf,h5,h6,h7,h1,h2]
theorem Gf {z:Option Operand}{m:Int}{d:Int}(h1:∀u,z=some u→a.eval u=.int .i64 m)(h2:z=none→m=d):(∀u,z.map a.eval=some u→u=.int .i64 m)∧(z.map a.eval=none→m=d):=by
 cases z with
 | none=>exact⟨fun u e=>(by cases e),fun _=>h2 rfl⟩
 | some v=>exact⟨fun u e=>(by cases e;exact h1 v rfl),fun e=>by cases e⟩
theorem Gl (hH:Has I V own w){k e sz:Nat}{rows:List (List G)}(hk:look k own=some (.slc rows e sz)):∃A c,V.s k=.slice A rows.length c∧rows.length≤c:=by
 obtain⟨-,rs,⟨-,h6⟩,-⟩:=hH.each k _ hk
 rcases h6 with⟨h7,h8⟩ | ⟨b,cap,cur,h7,-,-,h9,-⟩
 ·exact⟨none,0,by rw[h7,h8],by omega⟩
 ·exact⟨_,cap,h7,h9⟩
theorem Z49 (hH:Has I V own w){k e sz:Nat}{rows:List (List G)}(hk:look k own=some (.vw rows e sz)):∃A c,V.s k=.slice A rows.length c∧rows.length≤c:=by
 obtain⟨-,rs,⟨-,h6⟩,-⟩:=hH.each k _ hk
 rcases h6 with⟨h7,h8⟩ | ⟨b,q,cap,cur,h7,-,h9,-⟩
 ·exact⟨none,0,by rw[h7,h8],by omega⟩
 ·exact⟨_,cap,h7,h9⟩
theorem Z7k (hT:∀t i,look t tb=some i→TIok P t i)(hH:Has I V own w)(ha:ARep N I V a t){ty:TypeId}{z:Operand}{lo hi:Option Operand}(ho:o.op=.slice ty z lo hi none)(hq:(match look ty tb with
      | some ⟨_,_,none,_,false,_,.arr _ _ _⟩=>false
      | _=>true)=true) (h:match look ty tb with
      | some ⟨_,_,none,_,true,_,_⟩=>ev t own z fun g=>match g with
       | .v (.string s)=>evO t own lo 0 fun l=>evO t own hi s.size fun h=>Z1v l h s.size (K (put o.dst (.v (.string (s.extract l.toNat h.toNat))) t) own V.n)
       | _=>False
      | some ⟨_,_,some (_,sz),_,_,_,_⟩=>ev t own z fun g=>slK own g sz (fun K d=>evO t own lo d K) (fun K d=>evO t own hi d K) fun g=>K (put o.dst g t) own V.n
      | some ⟨_,_,none,_,false,_,.arr m _ 1⟩=>ev t own z fun g=>Z38 t own V.n ty m lo hi g fun g w n=>K (put o.dst g t) w n
      | some ⟨_,_,none,_,false,_,.arr m _ _⟩=>ev t own z fun g=>Z5w t own m lo hi g fun g=>K (put o.dst g t) own V.n
      | _=>False):QOk S P I V own w a t o K:=by
 split at h
 ·next hl =>
  have hty:=(hT _ _ hl).str rfl
  obtain⟨g,h,hg⟩:=Av h ha hH
  split at h
  ·next s =>
   have e:=Ap hg
   obtain⟨l,h,l1,l2⟩:=F6 h ha hH
   obtain⟨q,h,q1,q2⟩:=F6 h ha hH
   obtain⟨⟨r1,r2,r3⟩,h⟩:=h
   refine⟨_,_,h,.of_v (.v _),fun u _=>?_⟩
   have hb:=Gy (P:=P) (sl:=false) (len:=s.size) (cap:=s.size) (Gf l1 l2) (Gf q1 q2) r1 r2 r3 (Nat.le_refl _) u
   simp only[execOp,ho,Instr.sliceAt,Instr.slice,Sem.run_bind,run_underlying hty,Result.andThen_ok,e,Sem.run_pure,Option.map_none,Option.isSome_none,Bool.false_eq_true,if_false,hb]
  ·exact h.elim
 ·next e sz fl st ik kd hl =>
  obtain⟨hu,ie,zv,h1,h2,h3,h4,h5,h6⟩:=(hT _ _ hl).elem _ _ rfl
  have hsz:∀w,(sizeOf e).run P w=.ok sz w:=Bb (by rw[h1];simp[h3])
  obtain⟨g,h,hg⟩:=Av h ha hH
  have run:∀{A:Option Addr} {len c:Nat} {l q:Int},a.eval z=.slice A len c→len≤c→(∀u,lo=some u→a.eval u=.int .i64 l)→(lo=none→l=0)→(∀u,hi=some u→a.eval u=.int .i64 q)→(hi=none→q=len)→0≤l→l≤q→q≤len→∀u,(execOp a.eval o).run P u=.ok (.value (Gx sz (.slice A len c) l.toNat q.toNat)) u:=fun he hc l1 l2 q1 q2 r1 r2 r3 u=>by
   have hb:=Gy (P:=P) (sl:=true) (Gf l1 l2) (Gf q1 q2) r1 r2 r3 hc u
   simp only[execOp,ho,Instr.sliceAt,Instr.slice,Sem.run_bind,run_underlying hu,Result.andThen_ok,he,Sem.run_pure,Option.map_none,hb,hsz,Gx]
  cases g with
  | sl rows =>
   unfold slK at h
   dsimp only at h
   obtain⟨l,h,l1,l2⟩:=F6 h ha hH
   obtain⟨q,h,q1,q2⟩:=F6 h ha hH
   obtain⟨⟨r1,r2,r3⟩,hr,h⟩:=h
   have hv:=(show VRep I (.sl rows) (a.eval z) from hg)
   obtain⟨A,c,he,hc⟩:∃A c,a.eval z=.slice A rows.length c∧rows.length≤c:=by
    generalize a.eval z=X at hv
    cases hv with
    | sl _ A c sz u hc=>exact⟨A,c,rfl,hc⟩
   rw[he] at hv
   exact⟨_,_,h,.of_v (Ti hv hr (by omega) (by omega)),fun u _=>run he hc l1 l2 q1 q2 r1 r2 r3 u⟩
  | osl k =>
   unfold slK at h
   dsimp only at h
   split at h
   ·next rows e' sz' hk =>
    split at h
    ·next hb =>
     have hb:=Nat.eq_of_beq_eq_true hb
     subst hb
     obtain⟨l,h,l1,l2⟩:=F6 h ha hH
     obtain⟨q,h,q1,q2⟩:=F6 h ha hH
     obtain⟨⟨r1,r2,r3⟩,h⟩:=h
     obtain⟨hkn,he⟩:=(show k < V.n∧a.eval z=V.s k from hg)
     obtain⟨A,c,hv,hc⟩:=Gl hH hk
     exact⟨_,_,h,.of_c (g:=.osv k sz l.toNat q.toNat) ⟨hkn,⟨by omega,by rw[hv];show q.toNat≤rows.length;omega⟩,rfl⟩,fun u _=>by rw[hv];exact run (he.trans hv) hc l1 l2 q1 q2 r1 r2 r3 u⟩
    ·exact h.elim
   ·next rows e' sz' hk =>
    split at h
    ·next hb =>
     have hb:=Nat.eq_of_beq_eq_true hb
     subst hb
     obtain⟨l,h,l1,l2⟩:=F6 h ha hH
     obtain⟨q,h,q1,q2⟩:=F6 h ha hH
     obtain⟨⟨r1,r2,r3⟩,h⟩:=h
     obtain⟨hkn,he⟩:=(show k < V.n∧a.eval z=V.s k from hg)
     obtain⟨A,c,hv,hc⟩:=Z49 hH hk
     exact⟨_,_,h,.of_c (g:=.osv k sz l.toNat q.toNat) ⟨hkn,⟨by omega,by rw[hv];show q.toNat≤rows.length;omega⟩,rfl⟩,fun u _=>by rw[hv];exact run (he.trans hv) hc l1 l2 q1 q2 r1 r2 r3 u⟩
    ·exact h.elim
   ·exact h.elim
  | _=>exact False.elim h
 ·next hl=>rw[hl] at hq;cases hq
 ·next hl=>rw[hl] at hq;cases hq
 ·exact h.elim
theorem Z3s {len cap:Nat}{h:Int}(h0:0≤h)(h1:h≤len)(h2:len≤cap)(w:World):(Instr.sliceBounds true len cap none (some (.int .i64 h)) (some (.int .i64 h))).run P w=.ok (0,h.toNat,h.toNat) w:=by
 unfold Instr.sliceBounds
 have e1:0≤h∧h≤(cap:Int):=⟨h0,by omega⟩
 have e2:¬max h 0 < h:=by omega
 simp[Instr.sliceBound,asIntOf,e1,e2]
theorem Z37 (hT:∀t i,look t tb=some i→TIok P t i)(hH:Has I V own w)(ha:ARep N I V a t){ty:TypeId}{z hx mx:Operand}(ho:o.op=.slice ty z none (some hx) (some mx))(h:match(none:Option Operand),some hx,look ty tb with
      | none,some h,some ⟨_,_,some (_,sz),_,_,_,_⟩=>ev t own z fun g=>ev t own h fun p=>ev t own mx fun q=>match p,q with
       | .v (.int .i64 a),.v (.int .i64 b)=>Ed (a=b) (Z8c own g sz a fun g=>K (put o.dst g t) own V.n)
       | _,_=>False
      | _,_,_=>False):QOk S P I V own w a t o K:=by
 split at h
 ·next hx' _ _ e sz _ _ _ _ _ h0 hl =>
  obtain rfl:=Option.some.inj h0
  obtain⟨hu,ie,zv,h1,h2,h3,h4,h5,h6⟩:=(hT _ _ hl).elem _ _ rfl
  have hsz:∀w,(sizeOf e).run P w=.ok sz w:=Bb (by rw[h1];simp[h3])
  obtain⟨g,h,hg⟩:=Av h ha hH
  obtain⟨p,h,hp⟩:=Av h ha hH
  obtain⟨q,h,hq⟩:=Av h ha hH
  split at h
  ·next x1 x1' =>
   have ep:=Ap hp
   have eq:=Ap hq
   obtain⟨h0,h⟩:=h
   subst h0
   cases g with
   | osl k =>
    unfold Z8c at h
    dsimp only at h
    split at h
    ·next rows e' sz' hk =>
     split at h
     ·next hb =>
      have hb:=Nat.eq_of_beq_eq_true hb
      subst hb
      obtain⟨⟨r1,r2,r3⟩,⟨hne,h⟩⟩:=h
      obtain⟨hkn,he⟩:=(show k < V.n∧a.eval z=V.s k from hg)
      obtain⟨-,rs,⟨-,h7⟩,-,-,-,-,hs0⟩:=hH.each k _ hk
      rcases h7 with⟨-,h8⟩ | ⟨b,q0,cap,cur,h8,-,h9,-⟩
      ·exact absurd (List.eq_nil_of_length_eq_zero h8) hne
      ·refine⟨_,_,h,.of_1 (g:=.orv k 0 sz 0 _ _) ⟨hkn,b,q0,(by cases sz with | zero=>omega | succ sz=>exact⟨_,cap,h8⟩),rfl⟩,fun u _=>?_⟩
       have hb:=Z3s (P:=P) r2 r3 h9 u
       simp only[execOp,ho,Instr.sliceAt,Instr.slice,Sem.run_bind,run_underlying hu,Result.andThen_ok,he,h8,Sem.run_pure,Option.map_some,Option.map_none,ep,eq,hb,hsz]
       split
       ·simp
       ·simp[C0]
     ·exact h.elim
    ·exact h.elim
   | _=>exact False.elim h
  ·exact h.elim
 ·exact h.elim
theorem Ko:∀{cs:List G} {us:List Value},Ar Fy cs=true→PW (CRep I V) cs us→cs=us.map .v∧∀u∈us,u.oneCell'=true
 | [],us,_,h=>by rw[h.of_nil];exact⟨rfl,fun u hu=>by cases hu⟩
 | g::cs,us,hv,h=>by
  obtain⟨x,us',rfl,hx,hp⟩:=h.uncons
  have h1:=Ac hv g (by simp)
  have h2:Ar Fy cs=true:=by unfold Ar at hv;rw[h1] at hv;exact hv
  obtain⟨i1,i2⟩:=Ko h2 hp
  cases g with
  | v z =>
   cases(show VRep I (.v z) x from hx)
   exact⟨by rw[i1];rfl,fun u hu=>(List.mem_cons.1 hu).elim (fun e=>by rw[e];exact h1) (i2 u)⟩
  | _=>cases h1
theorem Qh {α:Type}(l:List α):(l.map fun u=>[u]).flatten=l:=by
 induction l with
 | nil=>rfl
 | cons x l ih=>rw[List.map_cons,List.flatten_cons,ih];rfl
theorem Pj {α:Type}{cs:List α}{k n j:Nat}{v:α}(h:((cs.drop k).take n)[j]?=some v):cs[k+j]?=some v:=by
 rw[List.getElem?_take] at h
 split at h
 ·rwa [List.getElem?_drop] at h
 ·cases h
theorem Z8l {m:Nat}{cs:List G}{A:Prop}(h:Zfo m cs A):cs.length=m∧Ar Fy cs=true∧A:=by
 unfold Zfo at h
 split at h
 ·split at h
  ·next h1 h2=>exact⟨Nat.eq_of_beq_eq_true h1,h2,h⟩
  ·exact h.elim
 ·exact⟨h.fit.1,Fp h.fit.2,h.next⟩
theorem Z4g (hT:∀t i,look t tb=some i→TIok P t i)(hH:Has I V own w)(ha:ARep N I V a t)(hd:∀i,o.dst=some i→i < N)(hK:NxtB N own I V w K next){ty m e:TypeId}{z:Operand}{lo hi:Option Operand}{ag:Bool}{ze:List G}{fl:List (TypeId × Nat)}{ik:Option IntKind}(hl:look ty tb=some ⟨ag,ze,none,fl,false,ik,.arr m e 1⟩)(ho:o.op=.slice ty z lo hi none)
  (h:ev t own z fun g=>Z38 t own V.n ty m lo hi g fun g w n=>K (put o.dst g t) w n):o.wp P a w next Q:=by
 obtain⟨hu,hsz⟩:=(hT _ _ hl).kd
 have hsz:∀w,(sizeOf e).run P w=.ok 1 w:=Bb hsz
 obtain⟨g,h,hg⟩:=Av h ha hH
 have run:∀{b off:Nat} {l q:Int},a.eval z=.pointer (some ⟨b,off,none⟩)→(∀u,lo=some u→a.eval u=.int .i64 l)→(lo=none→l=0)→(∀u,hi=some u→a.eval u=.int .i64 q)→(hi=none→q=m)→0≤l→l≤q→q≤m→∀u,(execOp a.eval o).run P u=.ok (.value (Gx 1 (.slice (some ⟨b,off,none⟩) m m) l.toNat q.toNat)) u:=fun {b off l q} he l1 l2 q1 q2 r1 r2 r3 u=>by
  have hb:=Gy (P:=P) (sl:=false) (len:=m) (cap:=m) (Gf l1 l2) (Gf q1 q2) r1 r2 r3 (Nat.le_refl _) u
  simp only[execOp,ho,Instr.sliceAt,Instr.sureAddr,Sem.run_bind,run_underlying hu,Result.andThen_ok,he,Sem.run_pure,Option.map_none,hb,hsz,Gx]
  congr 3
  by_cases hm:m=l.toNat
  ·rw[if_pos hm,if_pos hm]
  ·rw[if_neg hm,if_neg hm];rfl
 have arv:∀{j:Nat} {K1:G→Prop} {b:Nat} {V2:Va},Zdu t own m lo hi j K1→a.eval z=.pointer (some ⟨b,0,none⟩)→j < V2.n→V2.s j=.slice (some ⟨b,0,none⟩) m m→∃g v,K1 g∧CRep I V2 g v∧(execOp a.eval o).run P w=.ok (.value v) w:=fun {j K1 b V2} hk he hj hs=>by
  unfold Zdu at hk
  split at hk
  ·have hr:=run (l:=0) (q:=m) he (fun u e=>by cases e) (fun _=>rfl) (fun u e=>by cases e) (fun _=>rfl) (by omega) (by omega) (by omega) w
   refine⟨_,V2.s j,hk,⟨hj,rfl⟩,hr.trans ?_⟩
   rw[hs]
   congr 2
   unfold Gx
   simp only[Int.toNat_natCast,Int.toNat_zero,Nat.zero_mul,Nat.sub_zero,Option.map_some]
   by_cases hm:m=0
   ·rw[if_pos hm]
   ·rw[if_neg hm];rfl
  ·obtain⟨l,hk,l1,l2⟩:=F6 hk ha hH
   obtain⟨q,hk,q1,q2⟩:=F6 hk ha hH
   obtain⟨⟨r1,r2,r3⟩,hk⟩:=hk
   exact⟨_,_,hk,⟨hj,⟨by omega,by rw[hs];show q.toNat≤m;omega⟩,rfl⟩,by rw[hs];exact run he l1 l2 q1 q2 r1 r2 r3 w⟩
 unfold Z38 at h
 cases g with
 | ptr k off =>
  obtain⟨hkn,he⟩:=Bt hg
  dsimp only at h
  split at h
  ·next cs ty' hr =>
   obtain⟨us,h1,h2,h3⟩:=Lm hH hr
   have hf:=(hH.each k _ hr).1
   have frz:∀{off:Nat},(match(generalizing:=false) lo,hi with
    | none,none=>Ed (off+m≤cs.length∧∀g∈cs,Fy g=true) (K (put o.dst (.sl (((cs.drop off).take m).map fun g=>[g])) t) ((k,.gone)::own) V.n)
    | none,some x=>evO t own (some x) m fun h=>Z1v 0 h m (K (put o.dst (.orv k 0 0 off h.toNat m) t) own V.n)
    | _,_=>False)→a.eval z=.pointer (some ⟨V.b k,off,none⟩)→o.wp P a w next Q:=fun {off} h he=>by
    split at h
    case h_2 =>
     obtain⟨q,h,q1,q2⟩:=F6 h ha hH
     obtain⟨⟨r1,r2,r3⟩,h⟩:=h
     have hr:=run (l:=0) (q:=q) he (fun u e=>by cases e) (fun _=>rfl) q1 q2 (by omega) r2 r3 w
     refine So (y:=.slice (some ⟨V.b k,0 * 0+off,none⟩) q.toNat m) hK ha hd (hr.trans ?_) (.refl hH) (Below.refl _ _) (.refl _) (.of_1 (g:=.orv k 0 0 off q.toNat m) ⟨hkn,V.b k,0,⟨rfl,rfl⟩,by simp⟩) h
     congr 2
     unfold Gx
     simp only[Int.toNat_zero,Nat.zero_mul,Nat.sub_zero,Option.map_some,Nat.zero_add]
     by_cases hm:m=0
     ·rw[if_pos hm]
     ·rw[if_neg hm];rfl
    case h_3=>exact h.elim
    obtain⟨⟨hfit,hv⟩,h⟩:=h
    obtain⟨e1,h4⟩:=Ko (Fp hv) h2
    have hlen:cs.length=us.length:=by rw[e1];simp
    have hno:=(hH.foot k _ (V.b k) hr ((hf _).2 rfl)).2
    let I':Imm:=fun b o=>if b=V.b k then us[o]? else I b o
    have hle:I.le I':=fun b o x hx=>by
     show(if b=V.b k then _ else I b o)=_
     rw[if_neg (fun e=>by rw[e,hno o] at hx;cases hx)]
     exact hx
    have hmem:Mem I' w:=fun b o x hx=>by
     change (if b=V.b k then _ else I b o)=_ at hx
     split at hx
     ·next e=>rw[e,h3];exact hx
     ·exact hH.mem b o x hx
    have hla:Later own I V w ((k,.gone)::own) I' (V.drop k) w:=Fe hH hr hle hmem (fun b o hb=>by
     show(if b=V.b k then _ else I b o)=_
     rw[if_neg (fun e=>hb ((hf b).2 e))]) (fun b=>by simp[Va.drop])
    have hl2:(((cs.drop off).take m).map fun g=>[g]).length=m:=by simp;omega
    have hvr:VRep I' (.sl (((cs.drop off).take m).map fun g=>[g])) (.slice (some ⟨V.b k,off,none⟩) m m):=by
     conv=>rhs;rw[←hl2]
     refine .sl _ (some ⟨V.b k,off,none⟩) _ 1 (fun i _=>us.getD (off+i) undef) (Nat.le_refl _) (fun e=>by cases e) (fun r hr=>?_) (fun i r hr=>⟨V.b k,off,rfl,fun j hj=>?_⟩) fun i r j g hr hg=>?_
     ·obtain⟨g,-,rfl⟩:=List.mem_map.1 hr
      rfl
     ·have hi:i < m:=by have:=(List.getElem?_eq_some_iff.1 hr).1;omega
      have e0:off+i * 1+j=off+i:=by omega
      rw[e0]
      show(if V.b k=V.b k then us[off+i]? else _)=_
      rw[if_pos rfl]
      have:off+i < us.length:=by omega
      simp[this]
     ·rw[List.getElem?_map] at hr
      obtain⟨g0,h5,rfl⟩:=Option.map_eq_some_iff.1 hr
      have h5:=Pj h5
      rw[e1,List.getElem?_map] at h5
      obtain⟨u,h6,rfl⟩:=Option.map_eq_some_iff.1 h5
      cases j with
      | zero =>
       simp at hg
       subst hg
       simp only[List.getD,h6,Option.getD_some]
       exact .v u
      | succ j=>simp at hg
    refine So (y:=.slice (some ⟨V.b k,off,none⟩) m m) hK ha hd ?_ hla (Below.refl _ _) (.drop _ _) (.of_v hvr) h
    have hr:=run (l:=0) (q:=m) he (fun u e=>by cases e) (fun _=>rfl) (fun u e=>by cases e) (fun _=>rfl) (by omega) (by omega) (by omega) w
    refine hr.trans ?_
    congr 2
    unfold Gx
    simp only[Int.toNat_natCast,Int.toNat_zero,Nat.zero_mul,Nat.sub_zero,Option.map_some]
    by_cases hm:m=0
    ·rw[if_pos hm]
    ·rw[if_neg hm];rfl
   cases off with
   | succ off=>exact frz (off:=off+1) h he
   | zero =>
    cases hb0:Nat.beq ty' ty with
    | false=>rw[hb0] at h;exact frz (off:=0) h he
    | true =>
    cases hm0:Nat.ble m 1048576 with
    | false=>rw[hb0,hm0] at h;exact frz (off:=0) h he
    | true =>
    rw[hb0,hm0] at h
    have hm:=hm0
    have hm:=Nat.le_of_ble_eq_true hm
    obtain⟨hb,hv,h⟩:=Z8l h
    obtain⟨e1,h4⟩:=Ko hv h2
    have hlen:us.length=m:=by rw[←hb,e1];simp
    have hla:=Is (w':=w) (r:=.slc (cs.map fun g=>[g]) ty' 1) hH hr rfl rfl rfl (Nat.le_refl _) (fun _ _ _=>rfl) (.slice (some ⟨V.b k,0,none⟩) m m) (·=V.b k) (fun b e=>⟨.inl ((hf b).2 e),by rw[e];exact(Array.getElem?_eq_some_iff.1 h1).1⟩) ⟨fun b=>by simp[Va.push,Va.drop,Value.ownBlock,eq_comm],us.map fun u=>[u],⟨by rw[Qh];simp[hlen,hb],.inr ⟨V.b k,m,us.toArray,by simp[Va.push,Va.drop,hb],Nat.zero_le _,h1,by simp[hb],by unfold maxLen;omega,by simp[hlen],by rw[Qh,List.length_map,hb,Nat.mul_one];exact List.take_of_length_le (Nat.le_of_eq hlen)⟩⟩,by simp[hlen,hb],fun i r u hr hu=>?_,fun u hu=>by obtain⟨x,-,rfl⟩:=List.mem_map.1 hu;rfl,fun u hu x hx=>by
     obtain⟨y,hy,rfl⟩:=List.mem_map.1 hu
     rw[List.mem_singleton.1 hx];exact h4 y hy,Nat.one_pos⟩
    ·have hk2:look k ((V.n,R.slc (cs.map fun g=>[g]) ty' 1)::(k,.gone)::own)=some .gone:=by
      rw[A3,if_neg (by omega),A3,if_pos rfl]
     have hkn':k≠V.n:=by omega
     have hl2:=hla.trans (Cj (w':=w) (r:=.lnk V.n) hla.has hk2 rfl rfl rfl rfl (fun _ _=>rfl) ⟨fun b=>by simp[Va.push,Va.drop,hkn'],by show V.n < V.n+1;omega,m,by simp[Va.push,Va.drop,hkn']⟩)
     obtain⟨g',v,k1,k2,k3⟩:=arv (V2:=(V.drop k).push 0 (.slice (some ⟨V.b k,0,none⟩) m m) (·=V.b k)) h he (by show V.n < V.n+1;omega) (by simp[Va.push,Va.drop])
     exact So (y:=v) hK ha hd k3 hl2 (Below.refl _ _) (fun j hj b hb=>by
      have hjn:j≠V.n:=by omega
      have hb:(if j=V.n then(·=V.b k) else(if j=k then fun _=>False else V.f j)) b:=hb
      rw[if_neg hjn] at hb
      split at hb
      ·exact hb.elim
      ·exact hb) (.of_c k2) k1
    ·rw[List.getElem?_map] at hr hu
     obtain⟨g0,h5,rfl⟩:=Option.map_eq_some_iff.1 hr
     obtain⟨x,h6,rfl⟩:=Option.map_eq_some_iff.1 hu
     rw[e1,List.getElem?_map,h6] at h5
     cases h5
     exact .cons (.v x) .nil
  ·next j hr =>
   obtain⟨-,hjn,mm,hsj⟩:=hH.each k _ hr
   split at h
   ·next rows e' hrj =>
    obtain⟨hfit,h⟩:=h
    obtain⟨A,c,hv,-⟩:=Gl hH hrj
    rw[hsj] at hv
    injection hv with e1 e2 e3
    obtain⟨g',v,k1,k2,k3⟩:=arv (V2:=V) h he hjn (by rw[hsj,e2,hfit])
    exact So (y:=v) hK ha hd k3 (.refl hH) (Below.refl _ _) (.refl _) (.of_c k2) k1
   ·exact h.elim
  ·exact h.elim
 | oel k i sz off =>
  obtain⟨hkn,b,q0,n,c,hs,he⟩:=Ki hg
  dsimp only at h
  split at h
  ·next rows e' sz' hr hlo =>
   obtain rfl:=Z55 hH hr hs
   rw[Nat.zero_add] at he
   split at h
   ·next hb =>
    obtain⟨q,h,q1,q2⟩:=F6 h ha hH
    obtain⟨⟨r1,r2,r3⟩,⟨⟨hfit,hsz0⟩,h⟩⟩:=h
    have hr:=run (l:=0) (q:=q) he (fun u e=>by cases e) (fun _=>rfl) q1 q2 (by omega) r2 r3 w
    refine So (y:=.slice (some ⟨b,i * sz+off,none⟩) q.toNat m) hK ha hd (hr.trans ?_) (.refl hH) (Below.refl _ _) (.refl _) (.of_1 (g:=.orv k i sz off q.toNat m) ⟨hkn,b,0,by cases sz with | zero=>omega | succ sz=>exact⟨n,c,hs⟩,by simp⟩) h
    congr 2
    unfold Gx
    simp only[Int.toNat_zero,Nat.zero_mul,Nat.sub_zero,Option.map_some]
    by_cases hm:m=0
    ·rw[if_pos hm]
    ·rw[if_neg hm];rfl
   ·exact h.elim
  ·exact h.elim
 | _=>exact h.elim
theorem Z5j (hT:∀t i,look t tb=some i→TIok P t i)(hH:Has I V own w)(ha:ARep N I V a t)(hd:∀i,o.dst=some i→i < N)(hK:NxtB N own I V w K next){ty m e sz:TypeId}{z:Operand}{lo hi:Option Operand}{ag:Bool}{ze:List G}{fl:List (TypeId × Nat)}{ik:Option IntKind}(hl:look ty tb=some ⟨ag,ze,none,fl,false,ik,.arr m e sz⟩)(ho:o.op=.slice ty z lo hi none)
  (h:ev t own z fun g=>Z5w t own m lo hi g fun g=>K (put o.dst g t) own V.n):o.wp P a w next Q:=by
 obtain⟨hu,hsz⟩:=(hT _ _ hl).kd
 have hsz:∀w,(sizeOf e).run P w=.ok sz w:=Bb hsz
 obtain⟨g,h,hg⟩:=Av h ha hH
 unfold Z5w at h
 cases g with
 | ptr k off =>
  cases lo with
  | some y=>exact h.elim
  | none =>
   cases hi with
   | none=>exact h.elim
   | some x =>
    obtain⟨hkn,he⟩:=Bt hg
    dsimp only at h
    split at h
    ·next cs ty' hr =>
     obtain⟨q,h,q1,q2⟩:=F6 h ha hH
     obtain⟨⟨r1,r2,r3⟩,h⟩:=h
     refine So (y:=.slice (some ⟨V.b k,0 * 0+off,none⟩) q.toNat m) hK ha hd ?_ (.refl hH) (Below.refl _ _) (.refl _) (.of_1 (g:=.orv k 0 0 off q.toNat m) ⟨hkn,V.b k,0,⟨rfl,rfl⟩,by simp⟩) h
     have hb:=Gy (P:=P) (sl:=false) (len:=m) (cap:=m) (Gf (a:=a) (z:=none) (m:=0) (d:=0) (fun u e=>by cases e) (fun _=>rfl)) (Gf q1 q2) (by omega) r2 r3 (Nat.le_refl _) w
     rw[Option.map_none] at hb
     simp only[execOp,ho,Instr.sliceAt,Instr.sureAddr,Sem.run_bind,run_underlying hu,Result.andThen_ok,he,Sem.run_pure,Option.map_none,hsz,hb]
     congr 3
     by_cases hm:m=0
     ·simp[hm]
     ·simp[hm,Addr.add]
    ·exact h.elim
 | _=>exact h.elim
theorem TIok.u8 (hT:∀t i,look t tb=some i→TIok P t i){e:TypeId}(h:Zd7 tb e=true):P.underlying e=some (.int .u8):=by
 unfold Zd7 at h
 split at h
 ·next hl=>exact(hT _ _ hl).ik _ rfl
 ·cases h
theorem Z5e {bs:List UInt8}{rows:List (List G)}{A:Option Addr}{c:Nat}(he:rows=bs.map gBy)(hr:∃rs:List (List Value),rs.length=rows.length∧(∀(i:Nat) r u,rows[i]?=some r→rs[i]?=some u→PW (VRep I) r u)∧(∀u∈rs,u.length=1)∧∀a,A=some a→∀(m:Nat) x,rs.flatten[m]?=some x→w.cell? (a.add m)=some x)(hA:A=none→rows=[]){src dst e:TypeId}(hs:P.underlying src=some (.slice e))(hu:P.underlying e=some (.int .u8))(hd:P.underlying dst=some .string) :
  (convert src dst (.slice A rows.length c)).run P w=.ok (.string ⟨bs.toArray⟩) w:=by
 subst he
 cases A with
 | none =>
  have h0:bs=[]:=by simpa using hA rfl
  subst h0
  rw[run_convert_bytes_string w src dst e none _ c hs hu hd]
  simp[Conv.bytesToString];rfl
 | some ad =>
  obtain⟨rs,h1,h2,h3,h4⟩:=hr
  have:=run_convert_bytes_back (P:=P) w src dst e ad c bs hs hu hd fun j hj=>by
   have hj1:j < (bs.map gBy).length:=by simpa using hj
   have hj2:j < rs.length:=by omega
   have hp:=h2 j _ _ (List.getElem?_eq_getElem hj1) (List.getElem?_eq_getElem hj2)
   have hl:=h3 rs[j] (List.getElem_mem hj2)
   have hg:=Ci h3 (List.getElem?_eq_getElem hj2) (List.getElem?_eq_getElem (by omega:0 < rs[j].length))
   have hc:=h4 ad rfl _ _ hg
   rw[Nat.mul_one,Nat.add_zero] at hc
   rw[hc]
   have hv:=hp.2 0 (.v (.int .u8 (bs[j].toNat:Int))) rs[j][0] (by simp[gBy]) (List.getElem?_eq_getElem _)
   generalize rs[j][0]=z at hv
   cases hv
   rfl
  rw[List.length_map]
  exact this
theorem Has.below (h:Has I V own w)(hb:Below w.heap.size w w'):Has I V own w' :=
 (Fg h (h.mem.keep fun b _ _ hx=>hb.block b (h.mem.lt hx)) (.refl _) (fun _ _ _=>rfl) hb).has
theorem Zck (hT:∀t i,look t tb=some i→TIok P t i)(hS:∀u,S u→Agree V XL w u)(hH:Has I V own w)(ha:ARep N I V a t){src dst:TypeId}{z:Operand}(ho:o.op=.convert src dst z){p q:TI}(hp:look src tb=some p)(hq:look dst tb=some q)(h:ev t own z fun g=>cvK own g p q (cvU tb p XL) fun g=>K (put o.dst g t) own V.n):QOk S P I V own w a t o K:=by
 obtain⟨g,h,hg⟩:=Av h ha hH
 have hrun:∀{v u},(convert src dst (a.eval z)).run P u=.ok v u→(execOp a.eval o).run P u=.ok (.value v) u:=fun hr=>by
  simp only[execOp,ho,Sem.run_bind,hr,Result.andThen_ok,Sem.run_pure]
 have hp':=hT _ _ hp
 have hq':=hT _ _ hq
 obtain⟨pag,pz,pe,pf,ps,pk,pd⟩:=p
 obtain⟨qag,qz,qe,qf,qs,qk,qd⟩:=q
 unfold cvK cvU at h
 dsimp only at h
 cases pe with
 | some es =>
  obtain⟨e,sz⟩:=es
  cases qs with
  | false=>exact False.elim h
  | true =>
   cases XL with
   | cons k XL=>exact False.elim h
   | nil =>
   dsimp only at h
   cases hu:Zd7 tb e with
   | false=>rw[hu] at h;exact h.elim
   | true =>
    rw[hu] at h
    dsimp only at h
    have hu8:=TIok.u8 hT hu
    have hst:=hq'.str rfl
    have hel:=(hp'.elem e sz rfl).1
    have main:∀{rows:List (List G)} {K1:List UInt8→Prop},EvBytes rows K1→Z2r own g 1 (fun r=>r=rows)→∃bs,K1 bs∧∀u,S u→(convert src dst (a.eval z)).run P u=.ok (.string ⟨bs.toArray⟩) u:=fun {rows K1} ⟨bs,e1,hk⟩ hn=>by
     refine⟨bs,hk,fun u hb=>?_⟩
     obtain⟨new,A,c,rs,e2,e3,k1,k2,k3,k4,-,k5⟩:=U9 hn (hg:TRep I V g (a.eval z)) hH
     subst e2
     rw[e3]
     refine Z5e e1 ⟨rs,k2,k3,k4,fun a ha m x hx=>?_⟩ (fun e=>List.eq_nil_of_length_eq_zero (k1 e).1) hel hu8 hst
     have hc:=k5 a ha m x hx
     have hlt:=World.block_lt_of_cell? w _ hc
     rw[World.cell?_of_block (w:=w) (w':=u) (hS u hb _ hlt (fun k hk=>by simp at hk))]
     exact hc
    have rws:∀{rows:List (List G)} {K1:List UInt8→Prop},EvBytes rows K1→∀r∈rows,r.length=1∧r.all G.one=true:=fun⟨bs,e1,_⟩ r hr=>by
     subst e1
     obtain⟨b,-,rfl⟩:=List.mem_map.1 hr
     exact⟨rfl,rfl⟩
    cases g with
    | nl =>
     obtain⟨bs,hk,hr⟩:=main h rfl
     exact⟨_,_,hk,.of_v (.v _),fun u hb=>hrun (hr u hb)⟩
    | sl rows =>
     obtain⟨bs,hk,hr⟩:=main h ⟨rws h,rfl⟩
     exact⟨_,_,hk,.of_v (.v _),fun u hb=>hrun (hr u hb)⟩
    | osl k =>
     unfold byK at h
     dsimp only at h
     split at h
     ·next rows e' hk' =>
      obtain⟨bs,hk,hr⟩:=main h (by unfold Z2r;dsimp only;rw[hk'])
      exact⟨_,_,hk,.of_v (.v _),fun u hb=>hrun (hr u hb)⟩
     ·exact h.elim
    | _=>exact False.elim h
 | none =>
  cases ps with
  | true =>
   cases qs with
   | false=>exact False.elim h
   | true =>
    dsimp only at h
    split at h
    ·next s =>
     have e:=Ap hg
     exact⟨_,_,h,.of_v (.v _),fun u _=>hrun (by rw[e];simp[convert,run_underlying (hp'.str rfl),run_underlying (hq'.str rfl)])⟩
    ·exact h.elim
  | false =>
   cases pk with
   | none=>exact False.elim h
   | some k1 =>
    cases qs with
    | true=>exact False.elim h
    | false =>
     cases qk with
     | none=>exact False.elim h
     | some k2 =>
      dsimp only at h
      split at h
      ·next k n =>
       have e:=Ap hg
       have hc:∀u,(convert src dst (.int k n)).run P u=.ok (.int k2 (k2.wrap n)) u:=fun u=>by
        simp[convert,run_underlying (hp'.ik k1 rfl),run_underlying (hq'.ik k2 rfl),Conv.intToInt]
       cases k2 with
       | i64 =>
        obtain⟨hr,hk⟩:=h
        exact⟨_,_,hk,.of_v (.v _),fun u _=>hrun (by rw[e,hc,IntWalk.i64_in _ hr])⟩
       | u8=>exact⟨_,_,h,.of_v (.v _),fun u _=>hrun (by rw[e,hc,IntKind.wrap_u8])⟩
       | u64=>exact⟨_,_,h,.of_v (.v _),fun u _=>hrun (by rw[e,hc])⟩
       | _=>exact False.elim h
      ·exact h.elim
theorem Z4e (hH:Has I V own w)(ha:ARep N I V a t)(hd:∀i,o.dst=some i→i < N)(hK:NxtB N own I V w K next){src dst e:TypeId}{z:Operand}(ho:o.op=.convert src dst z)(hs:P.underlying src=some .string)(hde:P.underlying dst=some (.slice e))(hu:P.underlying e=some (.int .u8))(h:ev t own z fun g=>match g with
  | .v (.string s)=>K (put o.dst (.sl (s.data.toList.map gBy)) t) own V.n
  | _=>False):o.wp P a w next Q:=by
 obtain⟨g,h,hg⟩:=Av h ha hH
 split at h
 ·next s =>
  have ez:=Ap hg
  have hr:=run_bytes_of_string (P:=P) w src dst e s hs hde hu
  obtain⟨w',hw'⟩:∃w',w'=(w.drew.alloc (.cells (bytesRow s (grownCap w s.size 0 e)) e ((bytesRow s (grownCap w s.size 0 e)).size,(bytesRow s (grownCap w s.size 0 e)).size+1))):=⟨_,rfl⟩
  rw[←hw'] at hr
  have hb:Below w.heap.size w w':=by rw[hw'];exact((Below.refl _ _).drew).alloc (Nat.le_refl _) _
  have hh:w'.heap[w.heap.size]?=some (.cells (bytesRow s (grownCap w s.size 0 e)) e ((bytesRow s (grownCap w s.size 0 e)).size,(bytesRow s (grownCap w s.size 0 e)).size+1)):=by rw[hw'];exact heap_alloc_new w.drew _
  let I':Imm:=fun b o=>if b=w.heap.size then(bytesRow s (grownCap w s.size 0 e))[o]? else I b o
  have hle:I.le I':=fun b o x hx=>by
   show(if b=w.heap.size then _ else I b o)=_
   rw[if_neg (fun e'=>by have:=hH.mem.lt hx;omega)]
   exact hx
  have hm:Mem I' w':=fun b o x hx=>by
   change (if b=w.heap.size then _ else I b o)=_ at hx
   split at hx
   ·next e'=>subst e';rw[cell_of_row w' _ o _ e _ hh];exact hx
   ·exact(hH.mem.keep (w':=w') fun b o x hx=>hb.block b (hH.mem.lt hx)) b o x hx
  have hl:=Fg hH hm hle (fun b o hlt=>if_neg (Nat.ne_of_lt hlt)) hb
  have hcap:s.size≤grownCap w s.size 0 e:=grownCap_ge w s.size 0 e
  refine So (g:=.sl (s.data.toList.map gBy)) (y:=.slice (some ⟨w.heap.size,0,none⟩) s.size (grownCap w s.size 0 e)) hK ha hd (by simp only[execOp,ho,Sem.run_bind,ez,hr,Result.andThen_ok,Sem.run_pure]) hl hb (.refl _) (.of_v ?_) h
  have hrow:∀(i:Nat) (b:UInt8),s.data.toList[i]?=some b→(bytesRow s (grownCap w s.size 0 e))[i]?=some (Value.int .u8 (b.toNat:Int)):=fun i b hi=>by
   have hlt:=(List.getElem?_eq_some_iff.1 hi).1
   unfold bytesRow
   rw[Array.getElem?_append_left (by simpa using hlt)]
   have h2:s.data[i]?=some b:=by simpa using hi
   simp[h2]
  have hmap:∀(i:Nat) r,(s.data.toList.map gBy)[i]?=some r→∃b,s.data.toList[i]?=some b∧r=gBy b:=fun i r hr=>by
   rw[List.getElem?_map] at hr
   obtain⟨b,h1,h2⟩:=Option.map_eq_some_iff.1 hr
   exact⟨b,h1,h2.symm⟩
  have key:=VRep.sl (I:=I') (s.data.toList.map gBy) (some ⟨w.heap.size,0,none⟩) (grownCap w s.size 0 e) 1 (fun i _=>((bytesRow s (grownCap w s.size 0 e))[i]?).getD undef) (by simpa using hcap) (fun e=>by cases e) (fun r hr=>by obtain⟨b,-,rfl⟩:=List.mem_map.1 hr;rfl) (fun i r hr=>⟨_,_,rfl,fun j hj=>?_⟩) (fun i r j g hr hg=>?_)
  ·simpa using key
  ·obtain⟨b,h1,-⟩:=hmap i r hr
   obtain rfl:j=0:=by omega
   show(if w.heap.size=w.heap.size then _ else _)=_
   rw[if_pos rfl,Nat.zero_add,Nat.mul_one,Nat.add_zero,hrow i b h1]
   rfl
  ·obtain⟨b,h1,rfl⟩:=hmap i r hr
   cases j with
   | succ j=>simp[gBy] at hg
   | zero =>
    simp[gBy] at hg
    subst hg
    rw[hrow i b h1]
    exact .v _
 ·exact h.elim
theorem J4:∀{rs:List (List Value)} (_:∀u∈rs,u.length=1) (k:Nat),(rs.take k).flatten=rs.flatten.take k∧(rs.drop k).flatten=rs.flatten.drop k
 | [],_,k=>by simp
 | u::rs,h,0=>by simp
 | u::rs,h,k+1=>by
  have hu:=h u (by simp)
  obtain⟨x,rfl⟩:∃x,u=[x]:=List.length_eq_one_iff.1 hu
  have ih:=J4 (rs:=rs) (fun u hu=>h u (by simp[hu])) k
  simp[ih.1,ih.2]
theorem Pw (hH:Has I V own w){k e lo d:Nat}{rows new:List (List G)}(hk:look k own=some (.slc rows e 1))(hlo:lo+d≤rows.length){A:Option Addr}{c:Nat}{rs:List (List Value)}(hA:A=none→new.length=0∧c=0)(k1:rs.length=new.length)(k2:∀(i:Nat) r u,new[i]?=some r→rs[i]?=some u→PW (VRep I) r u)(k3:∀u∈rs,u.length=1)(k4:∀u∈rs,∀x∈u,x.oneCell'=true)(k5:∀a,A=some a→∀(j:Nat) u,rs.flatten[j]?=some u→w.cell? (a.add j)=some u)
  {dT sT el:TypeId} (hu:P.underlying dT=some (.slice el)) (hs:(P.info? el).map (·.size)=some 1) (ty:TypeId) :
  ∃w',(Builtin.copy_ #[dT,sT] ty #[Gx 1 (V.s k) lo (lo+d),.slice A new.length c]).run P w=.ok (.int .i64 (min new.length d:Nat)) w'∧Later own I V w ((k,.slc (rows.take lo++new.take (min new.length d)++rows.drop (lo+min new.length d)) e 1)::own) I V w':=by
 obtain⟨hf,rs0,ho,g2,g3,g4,g5,g6⟩:=hH.each k _ hk
 obtain⟨m,hm⟩:∃m,m=min new.length d:=⟨_,rfl⟩
 have hmd:m≤d:=by rw[hm];exact Nat.min_le_right _ _
 have hmn:m≤new.length:=by rw[hm];exact Nat.min_le_left _ _
 rw[←hm]
 obtain⟨A0,c0,hv,hc0⟩:=Gl hH hk
 by_cases h0:m=0
 ·subst h0
  refine⟨w,?_,Cj hH hk rfl rfl rfl rfl (fun _ _=>rfl) ?_⟩
  ·rw[hv]
   unfold Gx
   dsimp only
   have:=run_copy_none (P:=P) w dT sT ty el (if c0=lo then A0 else A0.map (·.add (lo * 1))) A (lo+d - lo) (c0 - lo) new.length c hu hs (by rw[Nat.add_sub_cancel_left];exact hm.symm)
   exact this
  ·simpa using hH.each k _ hk
 ·rcases ho.2 with⟨h7,h8⟩ | ⟨b,cap,cur,h7,-,hg,hnc,hcm,hcs,ht⟩
  ·omega
  ·rw[h7] at hv
   injection hv with e1 e2 e3
   subst e1 e3
   cases A with
   | none=>have:=hA rfl;omega
   | some ad =>
    have hne:¬cap=lo:=by omega
    obtain⟨cs,hcsd⟩:∃cs,cs=(rs.take m).flatten:=⟨_,rfl⟩
    have k3':∀u∈rs.take m,u.length=1:=fun u hu=>k3 u (List.mem_of_mem_take hu)
    have hl:cs.length=m:=by rw[hcsd,B1 k3'];simp;omega
    have hsub:∀j x,cs[j]?=some x→rs.flatten[j]?=some x:=fun j x hx=>by
     rw[hcsd] at hx
     obtain⟨i,q,u,rfl,hq,hu',hx'⟩:=O5 k3' hx
     exact Ci k3 (by rw[List.getElem?_take] at hu';(split at hu'<;>first | exact hu' | cases hu')) hx'
    have h1:∀v∈cs,v.oneCell'=true:=fun v hv=>by
     rw[hcsd] at hv
     obtain⟨u,hu',hv⟩:=List.mem_flatten.1 hv
     exact k4 u (List.mem_of_mem_take hu') v hv
    have hrun:=run_copy_row (P:=P) w dT sT ty el b (0+lo * 1) (lo+d - lo) (cap - lo) ad new.length c cur e cs hu hs hg (by rw[hl,hm,Nat.add_sub_cancel_left]) (fun j v hv=>k5 ad rfl j v (hsub j v hv)) (by rw[hl];omega) h1
    rw[hl] at hrun
    have hrl:∀u∈rs0,u.length=1:=g4
    refine⟨w.setRow b (cur.toList.take (0+lo * 1)++cs++cur.toList.drop (0+lo * 1+m)).toArray,?_,Cj (w':=w.setRow b _) hH hk rfl rfl rfl (by simp[World.setRow]) (fun b' hb'=>setRow_other w _ b' _ (fun e=>hb' ((hf b').2 (by rw[h7,e];rfl)))) ⟨hf,rs0.take lo++rs.take m++rs0.drop (lo+m),⟨?_,.inr ⟨b,cap,_,(by rw[h7];congr 1;simp;first | done | omega),Nat.zero_le _,setRow_heap w b cur _ e _ hg,by simp;omega,hcm,by simp;omega,?_⟩⟩,by simp;omega,fun i r u hr hu'=>?_,fun u hu'=>?_,fun u hu'=>?_,g6⟩⟩
    ·rw[h7]
     unfold Gx
     dsimp only
     rw[if_neg hne]
     simp only[Option.map_some,C0]
     exact hrun
    ·have:∀u∈rs0.take lo++rs.take m++rs0.drop (lo+m),u.length=1:=fun u hu'=>by
      rcases List.mem_append.1 hu' with h | h
      ·rcases List.mem_append.1 h with h | h
       ·exact g4 u (List.mem_of_mem_take h)
       ·exact k3 u (List.mem_of_mem_take h)
      ·exact g4 u (List.mem_of_mem_drop h)
     rw[B1 this]
     simp
     omega
    ·have ht':cur.toList.take (rows.length * 1)=rs0.flatten:=ht
     have hcl:cur.toList.length=cap * 1:=by simpa using hcs
     rw[List.flatten_append,List.flatten_append,(J4 g4 lo).1,(J4 g4 (lo+m)).2,←hcsd,←ht']
     have hn:(rows.take lo++new.take m++rows.drop (lo+m)).length=rows.length:=by simp;omega
     rw[hn,show 0+lo * 1=lo by omega]
     simp only[List.take_append,List.take_take,List.drop_take,List.length_take,List.length_append,hl]
     rw[Nat.min_eq_right (by omega:lo≤rows.length * 1),Nat.min_eq_left (by omega:lo≤rows.length * 1),Nat.min_eq_left (by omega:lo≤cur.toList.length),List.take_of_length_le (by omega:cs.length≤rows.length * 1 - lo)]
    ·have e1:(rows.take lo).length=lo:=by simp;omega
     have e2:(rs0.take lo).length=lo:=by simp;omega
     have e3:(new.take m).length=m:=by simp;omega
     have e4:(rs.take m).length=m:=by simp;omega
     rcases Nat.lt_or_ge i (lo+m) with hlt | hge
     ·rw[List.getElem?_append_left (by simp;omega)] at hr hu'
      rcases Nat.lt_or_ge i lo with hlt2 | hge2
      ·rw[List.getElem?_append_left (by omega),List.getElem?_take,if_pos hlt2] at hr hu'
       exact g3 i r u hr hu'
      ·rw[List.getElem?_append_right (by omega),e1,List.getElem?_take,if_pos (by omega)] at hr
       rw[List.getElem?_append_right (by omega),e2,List.getElem?_take,if_pos (by omega)] at hu'
       exact k2 _ r u hr hu'
     ·rw[List.getElem?_append_right (by simp;omega)] at hr hu'
      have e5:(rows.take lo++new.take m).length=lo+m:=by simp;omega
      have e6:(rs0.take lo++rs.take m).length=lo+m:=by simp;omega
      rw[e5,List.getElem?_drop] at hr
      rw[e6,List.getElem?_drop] at hu'
      exact g3 _ r u hr hu'
    ·rcases List.mem_append.1 hu' with h | h
     ·rcases List.mem_append.1 h with h | h
      ·exact g4 u (List.mem_of_mem_take h)
      ·exact k3 u (List.mem_of_mem_take h)
     ·exact g4 u (List.mem_of_mem_drop h)
    ·rcases List.mem_append.1 hu' with h | h
     ·rcases List.mem_append.1 h with h | h
      ·exact g5 u (List.mem_of_mem_take h)
      ·exact k4 u (List.mem_of_mem_take h)
     ·exact g5 u (List.mem_of_mem_drop h)
theorem Z9b (hH:Has I V own w){k j sz off e:Nat}{rows:List (List G)}(hr:look k own=some (.slc rows e sz)){b n c:Nat}(hs:V.s k=.slice (some ⟨b,0,none⟩) n c)(hlt:j < rows.length){ds:List Value}(hfit:off+ds.length≤sz)(hone:∀v∈ds,v.oneCell'=true) :
  ∃(u:List Value) (cur:Array Value),u.length=sz∧PW (VRep I) rows[j] u∧w.heap[b]?=some (.cells cur e (0,0))∧j * sz+off+ds.length≤cur.size∧∀row',PW (VRep I) row' (u.take off++ds++u.drop (off+ds.length))→Later own I V w ((k,.slc (rows.set j row') e sz)::own) I V (w.setRow b (cur.toList.take (j * sz+off)++ds++cur.toList.drop (j * sz+off+ds.length)).toArray):=by
   obtain⟨rs,cur,hg1,h2,h3,h4,h5,hn,hnc,hcm,hcs,ht,-⟩:=N1 hH hr hs
   have hj:j < rows.length:=hlt
   have hj':j < rs.length:=by omega
   have k3:=hfit
   have hu:=h4 rs[j] (List.getElem_mem hj')
   have hjn:j * sz+sz≤n * sz:=by rw[←Nat.succ_mul];exact Nat.mul_le_mul_right _ (by omega)
   have hnn:n * sz≤c * sz:=Nat.mul_le_mul_right _ hnc
   refine⟨rs[j],cur,hu,h3 j _ _ (List.getElem?_eq_getElem hj) (List.getElem?_eq_getElem hj'),hg1,by omega,fun row' k2=>?_⟩
   have hfl:=Up h4 (List.getElem?_eq_getElem hj') off ds k3
   have hfln:=B1 h4
   have hone':∀u∈rs.set j (rs[j].take off++ds++rs[j].drop (off+ds.length)),u.length=sz∧∀x∈u,x.oneCell'=true:=fun u hu'=>by
    rcases List.mem_or_eq_of_mem_set hu' with h | rfl
    ·exact⟨h4 u h,h5 u h⟩
    ·refine⟨by simp;omega,fun x hx=>?_⟩
     rcases List.mem_append.1 hx with hx | hx
     ·rcases List.mem_append.1 hx with hx | hx
      ·exact h5 _ (List.getElem_mem hj') x (List.mem_of_mem_take hx)
      ·exact hone x hx
     ·exact h5 _ (List.getElem_mem hj') x (List.mem_of_mem_drop hx)
   refine(Cj (w':=w.setRow b (cur.toList.take (j * sz+off)++ds++cur.toList.drop (j * sz+off+ds.length)).toArray) (r:=.slc (rows.set j row') e sz) hH hr rfl rfl rfl (by simp[World.setRow]) (fun b' hb'=>setRow_other w _ b' _ (fun e=>hb' (((hH.each k _ hr).1 b').2 (by rw[hs,e];rfl)))) ⟨(hH.each k _ hr).1,rs.set j (rs[j].take off++ds++rs[j].drop (off+ds.length)),⟨?_,.inr ⟨b,c,_,by rw[hs,hn];simp,Nat.zero_le _,setRow_heap w _ cur _ e _ hg1,by simp;omega,hcm,?_,?_⟩⟩,by simp[h2],?_,fun u hu=>(hone' u hu).1,fun u hu=>(hone' u hu).2,(hH.each k _ hr).2.choose_spec.2.2.2.2.2⟩)
   ·rw[B1 fun u hu=>(hone' u hu).1];simp[h2]
   ·simp;omega
   ·rw[hfl]
    simp only[List.length_set,←hn]
    rw[←ht]
    have hcl:cur.toList.length=c * sz:=by simpa using hcs
    simp only[List.take_append,List.take_take,List.drop_take,List.length_take,List.length_append]
    rw[Nat.min_eq_right (by omega:j * sz+off≤n * sz),Nat.min_eq_left (by omega:j * sz+off≤n * sz),Nat.min_eq_left (by omega:j * sz+off≤cur.toList.length),List.take_of_length_le (by omega:ds.length≤n * sz - (j * sz+off))]
   ·intro i r u hr' hu'
    rw[List.getElem?_set] at hr' hu'
    split at hr'
    ·next e' =>
     subst e'
     rw[if_pos rfl,if_pos hj'] at hu'
     cases hr';cases hu'
     exact k2
    ·next e' =>
     rw[if_neg e'] at hu'
     exact h3 i r u hr' hu'
theorem Z8i (hT:∀t i,look t tb=some i→TIok P t i)(hK:Nxt N own0 I0 V0 w0 K next)(hL:Since own0 I0 V0 w0 own I V w)(ha:ARep N I V a t)(hd:∀i,o.dst=some i→i < N){x z:Operand}{ty ty':TypeId}{ag:Bool}{ze:List G}{e:Nat}{fl:List (TypeId × Nat)}{st:Bool}{ik:Option IntKind}{kd:KD}(hl:look ty tb=some ⟨ag,ze,some (e,1),fl,st,ik,kd⟩)(ho:o.op=.call {callee:=.builtin .copy,args:=#[x,z],argTypes:=#[ty,ty']})(h:ev t own x fun g=>ev t own z fun q=>Z2r own q 1 fun new=>match g with
          | .osl k=>match look k own with
           | some (.slc rows e 1)=>K (put o.dst (.v (.int .i64 (min new.length rows.length:Nat))) t) ((k,.slc (new.take (min new.length rows.length)++rows.drop (min new.length rows.length)) e 1)::own) V.n
           | _=>False
          | .osv k 1 lo hi=>match look k own with
           | some (.slc rows e 1)=>K (put o.dst (.v (.int .i64 (min new.length (hi - lo):Nat))) t) ((k,.slc (rows.take lo++new.take (min new.length (hi - lo))++rows.drop (lo+min new.length (hi - lo))) e 1)::own) V.n
           | _=>False
          | .orv k i sz off len _=>match look k own with
           | some (.slc rows e sz')=>match Nat.beq sz sz' with
            | true=>Ed (off+len≤sz) (EvSet rows i (fun row k=>k (row.take off++(new.take (min new.length len)).flatten++row.drop (off+min new.length len))) fun rows'=>K (put o.dst (.v (.int .i64 (min new.length len:Nat))) t) ((k,.slc rows' e sz)::own) V.n)
            | false=>False
           | _=>False
          | _=>False):o.wp P a w next Q:=by
 obtain⟨g,hk1,hg⟩:=Av h ha hL.has
 obtain⟨q,hk2,hq⟩:=Av hk1 ha hL.has
 obtain⟨new,A,c,rs,hk,he,hA,k1,k2,k3,k4,k5⟩:=U9 hk2 hq hL.has
 clear h hk1 hk2
 obtain⟨hu,ie,zv,h1,h2,h3,h4,h5,h6⟩:=(hT _ _ hl).elem e 1 rfl
 have hs:(P.info? e).map (·.size)=some 1:=by rw[h1];simp[h3]
 have hrun:∀{v w'},(Builtin.copy_ #[ty,ty'] o.type #[a.eval x,.slice A new.length c]).run P w=.ok v w'→(execOp a.eval o).run P w=.ok (.value v) w':=fun hr=>by
  simp only[execOp,ho,resolve,invoke,builtin,Sem.run_bind,Sem.run_pure,Result.andThen_ok,List.map_toArray,List.map_cons,List.map_nil,he,hr]
 cases g with
 | osl k =>
  obtain⟨hkn,hx⟩:=(show k < V.n∧a.eval x=V.s k from hg)
  dsimp only at hk
  split at hk
  ·next rows e' hr0 =>
   obtain⟨w',c1,c2⟩:=Pw (P:=P) (lo:=0) (d:=rows.length) hL.has hr0 (by omega) hA k1 k2 k3 k4 k5 hu hs (sT:=ty') o.type
   obtain⟨A0,c0,hv,hc0⟩:=Gl hL.has hr0
   have e0:Gx 1 (V.s k) 0 (0+rows.length)=V.s k:=by
    rw[hv]
    unfold Gx
    dsimp only
    cases A0<;>simp[Addr.add]
   rw[e0] at c1
   refine fin hK hL ha hd (hrun (by rw[hx];exact c1)) c2 (.of_v (.v _)) ?_
   simpa using hk
  ·exact hk.elim
 | osv k sz lo hi =>
  obtain⟨hkn,⟨b1,b2⟩,hx⟩:=(show k < V.n∧(lo≤hi∧hi≤M3 (V.s k))∧a.eval x=Gx sz (V.s k) lo hi from hg)
  cases hsz:Nat.beq sz 1 with
  | false =>
   exfalso
   cases sz with
   | zero=>exact hk.elim
   | succ n=>cases n with
    | zero=>cases hsz
    | succ n=>exact hk.elim
  | true =>
   have hsz:=Nat.eq_of_beq_eq_true hsz
   subst hsz
   have hk:match look k own with
    | some (.slc rows e 1)=>K (put o.dst (.v (.int .i64 (min new.length (hi - lo):Nat))) t) ((k,.slc (rows.take lo++new.take (min new.length (hi - lo))++rows.drop (lo+min new.length (hi - lo))) e 1)::own) V.n
    | _=>False:=hk
   split at hk
   ·next rows e' hr0 =>
    obtain⟨A0,c0,hv,hc0⟩:=Gl hL.has hr0
    have b3:hi≤rows.length:=by rw[hv] at b2;exact b2
    obtain⟨w',c1,c2⟩:=Pw (P:=P) (lo:=lo) (d:=hi - lo) hL.has hr0 (by omega) hA k1 k2 k3 k4 k5 hu hs (sT:=ty') o.type
    rw[show lo+(hi - lo)=hi by omega] at c1
    exact fin hK hL ha hd (hrun (by rw[hx];exact c1)) c2 (.of_v (.v _)) hk
   ·exact hk.elim
 | orv k i sz off len cap =>
  obtain⟨hkn,b,q0,hob,hx⟩:=(show TRep1 I V (.orv k i sz off len cap) (a.eval x) from hg)
  dsimp only at hk
  split at hk
  ·next rows e' sz' hr0 =>
   split at hk
   ·next hb =>
    have hb:=Nat.eq_of_beq_eq_true hb
    subst hb
    obtain⟨n0,c0,hs0⟩:∃n c,V.s k=.slice (some ⟨b,q0,none⟩) n c:=by
     obtain⟨-,-,-,-,-,-,-,hz⟩:=hL.has.each k _ hr0
     cases sz with
     | zero=>omega
     | succ sz=>exact hob
    obtain rfl:=Z55 hL.has hr0 hs0
    rw[Nat.zero_add] at hx
    obtain⟨hfit,hlt,hk⟩:=hk
    obtain⟨m,hm⟩:∃m,m=min new.length len:=⟨_,rfl⟩
    rw[←hm] at hk
    obtain⟨ds,hds⟩:∃ds,ds=(rs.take m).flatten:=⟨_,rfl⟩
    have k3':∀u∈rs.take m,u.length=1:=fun u hu=>k3 u (List.mem_of_mem_take hu)
    have hl:ds.length=m:=by rw[hds,B1 k3'];simp;omega
    have hone:∀v∈ds,v.oneCell'=true:=fun v hv=>by
     rw[hds] at hv
     obtain⟨u,hu',hv⟩:=List.mem_flatten.1 hv
     exact k4 u (List.mem_of_mem_take hu') v hv
    obtain⟨u,cur,q1,q2,q3,q4,q5⟩:=Z9b hL.has (off:=off) hr0 hs0 hlt (ds:=ds) (by omega) hone
    have hpd:PW (VRep I) (new.take m).flatten ds:=by
     rw[hds]
     refine Sj (by simp[k1]) fun i r u h1 h2=>?_
     rw[List.getElem?_take] at h1 h2
     split at h1
     ·next hlt=>rw[if_pos hlt] at h2;exact k2 i r u h1 h2
     ·cases h1
    have hrow:PW (VRep I) (rows[i].take off++(new.take m).flatten++rows[i].drop (off+m)) (u.take off++ds++u.drop (off+ds.length)):=by
     rw[hl]
     have p1:=q2.part 0 off
     have p2:=q2.part (off+m) sz
     rw[List.drop_zero,List.drop_zero] at p1
     have e1:rows[i].length=sz:=by rw[q2.1,q1]
     rw[List.take_of_length_le (by rw[List.length_drop];omega),List.take_of_length_le (by rw[List.length_drop];omega)] at p2
     exact(p1.append hpd).append p2
    have hl2:=q5 _ hrow
    have hk2:=hk rows[i] (by simp)
    have hr3:(Builtin.copy_ #[ty,ty'] o.type #[a.eval x,.slice A new.length c]).run P w=.ok (.int .i64 (m:Nat)) (w.setRow b (cur.toList.take (i * sz+off)++ds++cur.toList.drop (i * sz+off+ds.length)).toArray):=by
     rw[hx]
     cases A with
     | none =>
      have h0:=(hA rfl).1
      have hm0:m=0:=by omega
      subst hm0
      have hd0:ds=[]:=List.eq_nil_of_length_eq_zero hl
      have hsf:w.setRow b (cur.toList.take (i * sz+off)++ds++cur.toList.drop (i * sz+off+ds.length)).toArray=w:=by
       subst hd0
       have e1:(cur.toList.take (i * sz+off)++[]++cur.toList.drop (i * sz+off+0)).toArray=cur:=by
        simp
       rw[show([]:List Value).length=0 from rfl,e1]
       unfold World.setRow
       refine congrArg (fun h=>({w with heap:=h}:World)) (?_:_=w.heap)
       apply Array.ext
       ·simp
       ·intro j h1 h2
        rw[Array.getElem_modify]
        split
        ·next e =>
         subst e
         have:=(Array.getElem?_eq_some_iff.1 q3).2
         rw[this]
        ·rfl
      rw[hsf]
      refine run_copy_none (P:=P) w ty ty' o.type e (some ⟨b,i * sz+off,none⟩) none len cap new.length c hu hs ?_
      rw[h0]
      exact Nat.zero_min _
     | some ad =>
      have hsub:∀j x,ds[j]?=some x→rs.flatten[j]?=some x:=fun j x hx=>by
       rw[hds] at hx
       obtain⟨i,q,u,rfl,hq,hu',hx'⟩:=O5 k3' hx
       exact Ci k3 (by rw[List.getElem?_take] at hu';(split at hu'<;>first | exact hu' | cases hu')) hx'
      have hrun:=run_copy_row (P:=P) w ty ty' o.type e b (i * sz+off) len cap ad new.length c cur e' ds hu hs q3 (by rw[hl,hm]) (fun j v hv=>k5 ad rfl j v (hsub j v hv)) q4 hone
      rw[hl] at hrun⊢
      exact hrun
    exact fin hK hL ha hd (hrun hr3) hl2 (.of_v (.v _)) hk2
   ·exact hk.elim
  ·exact hk.elim
 | _=>exact hk.elim
end
end Go.Proofs.YtihfaocdpmmooaaGreat
namespace Go.Proofs.YtihfaocdpmmooaaGreat
open Go.RowKit
theorem Kx:∀(rs:List R) (j i:Nat),look i (Aw rs j)=if j≤i then rs[i - j]? else none
 | [],j,i=>by simp[Aw,look]
 | r::rs,j,i=>by
  rw[Aw,A3,Kx rs (j+1) i]
  by_cases h:i=j
  ·subst h;simp
  ·by_cases h2:j≤i
   ·obtain⟨d,rfl⟩:=Nat.exists_eq_add_of_le h2
    cases d with
    | zero=>simp at h
    | succ d =>
     rw[if_neg h,if_pos (by omega),if_pos h2,show j+(d+1) - (j+1)=d by omega,show j+(d+1) - j=d+1 by omega]
     simp
   ·rw[if_neg h,if_neg h2,if_neg (by omega)]
theorem Af (rs:List R)(i:Nat):look i (Aw rs 0)=rs[i]?:=by rw[Kx];simp
def B4 (ks:List Nat)(n i:Nat):Nat:=match ks[i]? with
 | some k=>k
 | none=>n+(i - ks.length)
theorem Dk (n i:Nat):B4 [] n i=n+i:=by simp[B4]
theorem Hl (k:Nat)(ks:List Nat)(n i:Nat):B4 (k::ks) n (i+1)=B4 ks n i:=by
 unfold B4
 simp only[List.getElem?_cons_succ,List.length_cons]
 cases ks[i]? with
 | some k=>rfl
 | none=>simp only;congr 1;omega
theorem Lf:∀(ks:List Nat) (n:Nat) (rs:List R) (j i:Nat),look i (Rh ks n rs j)=if j≤i∧i - j < rs.length then some (B4 ks n (i - j)) else none
 | [],n,[],j,i=>by simp[Rh,look]
 | k::ks,n,[],j,i=>by simp[Rh,look]
 | k::ks,n,r::rs,j,i=>by
  rw[Rh,A3,Lf ks n rs (j+1) i]
  by_cases h:i=j
  ·subst h;simp[B4]
  ·by_cases h2:j+1≤i∧i - (j+1) < rs.length
   ·rw[if_neg h,if_pos h2,if_pos ⟨by omega,by simp;omega⟩,show i - j=i - (j+1)+1 by omega,Hl]
   ·rw[if_neg h,if_neg h2,if_neg (fun h3=>h2 ⟨by omega,by simp at h3;omega⟩)]
 | [],n,r::rs,j,i=>by
  rw[Rh,A3,Lf [] (n+1) rs (j+1) i]
  by_cases h:i=j
  ·subst h;simp[B4]
  ·by_cases h2:j+1≤i∧i - (j+1) < rs.length
   ·rw[if_neg h,if_pos h2,if_pos ⟨by omega,by simp;omega⟩,Dk,Dk];congr 1;omega
   ·rw[if_neg h,if_neg h2,if_neg (fun h3=>h2 ⟨by omega,by simp at h3;omega⟩)]
def Oz (m:List (Nat × Nat)):List R→List Nat→Os→Nat→Os
 | [],_,own,_=>own
 | r::rs,k::ks,own,n=>Oz m rs ks ((k,H3 m r)::own) n
 | r::rs,[],own,n=>Oz m rs [] ((n,H3 m r)::own) (n+1)
theorem Wu {m:List (Nat × Nat)}{g:G}(h:Be g=true):Jp m g=g:=by cases g<;>first | rfl | cases h
theorem Z1g {m:List (Nat × Nat)}{l:List G}(h:Ar Be l=true):l.map (Jp m)=l:=by
 induction l with
 | nil=>rfl
 | cons g l ih =>
  have h1:=Ac h g (by simp)
  have h2:Ar Be l=true:=by
   unfold Ar at h
   rw[h1] at h
   exact h
  rw[List.map_cons,Wu h1,ih h2]
theorem J6 {m:List (Nat × Nat)}{r:R}(h:J0 r=true):H3 m r=r:=by
 cases r with
 | blk cs t=>simp only[H3,Z1g (show Ar Be cs=true from h)]
 | lnk j=>cases h
 | adr j b=>cases h
 | _=>rfl
theorem Jf {m:List (Nat × Nat)}{g:G}(h:G9 g=true):Z2t m g=g:=by
 cases g with
 | oag l=>simp only[Z2t,Z1g (show Ar Be l=true from h)]
 | clo f a c=>cases h
 | tup l=>cases h
 | ptr k o=>cases h
 | osl k=>cases h
 | osv k a b c=>cases h
 | oel k a b c=>cases h
 | orv k a b c d e=>cases h
 | mp k=>cases h
 | _=>rfl
theorem Jl {m:List (Nat × Nat)}{g:G}(h:Ii g=true):Pc m g=g:=by
 cases g with
 | tup l =>
  have key:∀l:List G,Ar G9 l=true→l.map (Z2t m)=l:=fun l h=>by
   induction l with
   | nil=>rfl
   | cons g l ih =>
    have h1:=Ac h g (by simp)
    have h2:Ar G9 l=true:=by
     unfold Ar at h
     rw[h1] at h
     exact h
    rw[List.map_cons,Jf h1,ih h2]
  simp only[Pc,key l h]
 | v x=>exact Jf (m:=m) (g:=.v x) h
 | oag l=>exact Jf (m:=m) (g:=.oag l) h
 | clo f a c=>cases h
 | ptr k o=>cases h
 | osl k=>cases h
 | osv k a b c=>cases h
 | oel k a b c=>cases h
 | orv k a b c d e=>cases h
 | mp k=>cases h
 | _=>rfl
theorem Kf {m:List (Nat × Nat)}{K:Os→Nat→Prop}:∀{rs:List R} {ks:List Nat} {own:Os} {n:Nat},K9 m rs ks own n K→K (Oz m rs ks own n) (n+(rs.length - ks.length))
 | [],ks,own,n,h=>by simpa [K9,Oz] using h
 | r::rs,k::ks,own,n,h=>by
  have h2:K9 m rs ks ((k,H3 m r)::own) n K:=by
   unfold K9 at h
   split at h
   ·next e=>rw[J6 e];exact h
   ·exact h
  have:=Kf h2
  simpa [Oz] using this
 | r::rs,[],own,n,h=>by
  have h2:K9 m rs [] ((n,H3 m r)::own) (n+1) K:=by
   unfold K9 at h
   split at h
   ·next e=>rw[J6 e];exact h
   ·exact h
  have:=Kf h2
  simp only[List.length_nil,Nat.sub_zero] at this
  simpa [Oz,Nat.add_assoc,Nat.add_comm 1] using this
theorem Z95 {ks:List Nat}{own:Os}{n:Nat}{g:G}{rs:List R}{K:G→Os→Nat→Prop}(h:Z4s ks own n g rs K):K (Pc (Rh ks n rs 0) g) (Oz (Rh ks n rs 0) rs ks own n) (n+(rs.length - ks.length)):=by
 unfold Z4s at h
 split at h
 ·next e=>rw[Jl e];exact Kf (K:=fun own n=>K g own n) h
 ·exact Kf (K:=fun own' n'=>K (Pc (Rh ks n rs 0) g) own' n') h
theorem Cc {m:List (Nat × Nat)}:∀{rs:List R} {ks:List Nat} {own:Os} {n k:Nat} {r:R},look k (Oz m rs ks own n)=some r →
  (∃i r0,B4 ks n i=k∧rs[i]?=some r0∧r=H3 m r0)∨((∀i,i < rs.length→B4 ks n i≠k)∧look k own=some r)
 | [],ks,own,n,k,r,h=>.inr ⟨fun i hi=>by simp at hi,h⟩
 | r0::rs,k0::ks,own,n,k,r,h=>by
  rcases Cc (rs:=rs) (ks:=ks) (own:=(k0,H3 m r0)::own) (n:=n) h with⟨i,r1,h1,h2,h3⟩ | ⟨h1,h2⟩
  ·exact .inl ⟨i+1,r1,by rw[Hl];exact h1,by simpa using h2,h3⟩
  ·rw[A3] at h2
   split at h2
   ·next e=>cases h2;exact .inl ⟨0,r0,by simp[B4,e],rfl,rfl⟩
   ·next e=>exact .inr ⟨fun i hi=>by
     cases i with
     | zero=>simp[B4];exact fun e'=>e e'.symm
     | succ i=>rw[Hl];exact h1 i (by simpa using hi),h2⟩
 | r0::rs,[],own,n,k,r,h=>by
  rcases Cc (rs:=rs) (ks:=[]) (own:=(n,H3 m r0)::own) (n:=n+1) h with⟨i,r1,h1,h2,h3⟩ | ⟨h1,h2⟩
  ·exact .inl ⟨i+1,r1,by rw[Dk] at h1⊢;omega,by simpa using h2,h3⟩
  ·rw[A3] at h2
   split at h2
   ·next e=>cases h2;exact .inl ⟨0,r0,by rw[Dk];omega,rfl,rfl⟩
   ·next e=>exact .inr ⟨fun i hi=>by
     cases i with
     | zero=>rw[Dk];exact fun e'=>e (by omega)
     | succ i =>
      have:=h1 i (by simpa using hi)
      rw[Dk] at this⊢
      omega,h2⟩
section
variable {I I':Imm} {V V1 V':Va} {w w':World} {own:Os} {k n:Nat} {g:G} {x:Value} {r:R} {ks:List Nat} {rs:List R}
theorem VRep.cr (h:VRep I g x):CRep I V g x:=.of_v h
def Va.lend (V:Va)(ks:List Nat):Va:=⟨ks.length,fun i=>V.b (B4 ks 0 i),fun i=>V.s (B4 ks 0 i),fun i=>V.f (B4 ks 0 i)⟩
theorem J3 (hn:Be g=true)(h:CRep I V g x):CRep I V' g x:=by
 cases g with
 | ptr k o=>cases hn
 | osl k=>cases hn
 | osv k a b c=>cases hn
 | oel k a b c=>cases hn
 | orv k a b c d e=>cases hn
 | mp k=>cases hn
 | _=>exact h
theorem Vi {cs:List G}{us:List Value}(hn:Ar Be cs=true)(h:PW (CRep I V) cs us):PW (CRep I V') cs us:=⟨h.1,fun j g u hg hu=>J3 (Ac hn g (List.mem_of_getElem? hg)) (h.2 j g u hg hu)⟩
theorem RRep.lend (hn:J0 r=true)(h:RRep I V k w r){j:Nat}(hb:V'.b j=V.b k)(hs:V'.s j=V.s k)(hf:V'.f j=V.f k):RRep I V' j w r:=by
 cases r with
 | blk cs t =>
  obtain⟨h1,us,h2,h3⟩:=h
  exact⟨fun b=>by rw[hf,hb];exact h1 b,us,by rw[hb];exact h2,Vi hn h3⟩
 | slc rows e sz =>
  obtain⟨h1,h2⟩:=h
  exact⟨fun b=>by rw[hf,hs];exact h1 b,by rw[hs];exact h2⟩
 | vw rows e sz =>
  obtain⟨h1,h2⟩:=h
  exact⟨fun b=>by rw[hf,hs];exact h1 b,by rw[hs];exact h2⟩
 | froz rows sz=>exact⟨fun b=>by rw[hf];exact h.1 b,by rw[hs];exact h.2.1,h.2.2⟩
 | gone=>exact fun b=>by rw[hf];exact h b
 | mpI l=>exact⟨fun b=>by rw[hf,hb];exact h.1 b,by rw[hb];exact h.2⟩
 | mpS l=>exact⟨fun b=>by rw[hf,hb];exact h.1 b,by rw[hb];exact h.2⟩
 | sit s pos=>exact⟨fun b=>by rw[hf,hb];exact h.1 b,by rw[hb];exact h.2⟩
 | mpX l m ob=>exact⟨fun b=>by rw[hf,hb];exact h.1 b,by rw[hb];exact h.2⟩
 | mit i l D last m ob=>exact⟨fun b=>by rw[hf,hb];exact h.1 b,by rw[hb];exact h.2⟩
 | abs p=>exact⟨h.1,by rw[hf,hb];exact h.2⟩
 | lnk j=>cases hn
 | adr j b=>cases hn
 | fam ps=>exact⟨h.1,by rw[hf];exact h.2⟩
theorem B0 {i:Nat}(h:ks[i]?=some k):B4 ks n i=k:=by simp[B4,h]
def Va.back (V:Va)(ks:List Nat)(V1:Va):Va:=⟨V.n+(V1.n - ks.length),fun k=>if k < V.n then V.b k else V1.b (ks.length+(k - V.n)),fun k=>if k < V.n then V.s k else V1.s (ks.length+(k - V.n)),fun k b=>(∃i,i < V1.n∧B4 ks V.n i=k∧V1.f i b)∨((∀i,i < V1.n→B4 ks V.n i≠k)∧V.f k b)⟩
theorem Wk (hd:ks.Nodup)(hn:∀k∈ks,k < n){i j:Nat}(h:B4 ks n i=B4 ks n j):i=j:=by
 unfold B4 at h
 cases hi:ks[i]? with
 | some k =>
  cases hj:ks[j]? with
  | some k' =>
   rw[hi,hj] at h
   dsimp only at h
   subst h
   exact(List.getElem?_inj (List.getElem?_eq_some_iff.1 hi).1 hd).1 (by rw[hi,hj])
  | none =>
   rw[hi,hj] at h
   have:=hn k (List.mem_of_getElem? hi)
   dsimp only at h
   omega
 | none =>
  have hi2:=List.getElem?_eq_none_iff.1 hi
  cases hj:ks[j]? with
  | some k' =>
   rw[hi,hj] at h
   have:=hn k' (List.mem_of_getElem? hj)
   dsimp only at h
   omega
  | none =>
   have hj2:=List.getElem?_eq_none_iff.1 hj
   rw[hi,hj] at h
   dsimp only at h
   omega
theorem Cm {m:List (Nat × Nat)}{out:Nat→Nat}(hm:∀i,i < V1.n→(look i m).getD i=out i∧out i < V'.n∧V'.b (out i)=V1.b i∧V'.s (out i)=V1.s i)(h:CRep I V1 g x):CRep I V' (Jp m g) x:=by
 cases g with
 | ptr k o=>obtain⟨h1,h2,h3,-⟩:=hm k h.1;exact⟨by rw[h1];exact h2,by rw[h1,h3];exact h.2⟩
 | osl k=>obtain⟨h1,h2,-,h3⟩:=hm k h.1;exact⟨by rw[h1];exact h2,by rw[h1,h3];exact h.2⟩
 | osv k sz lo hi=>obtain⟨h1,h2,-,h3⟩:=hm k h.1;exact⟨by rw[h1];exact h2,by rw[h1,h3];exact h.2⟩
 | mp k=>obtain⟨h1,h2,h3,-⟩:=hm k h.1;exact⟨by rw[h1];exact h2,by rw[h1,h3];exact h.2⟩
 | _=>exact h
theorem Uz {m:List (Nat × Nat)}{out:Nat→Nat}(hm:∀i,i < V1.n→(look i m).getD i=out i∧out i < V'.n∧V'.b (out i)=V1.b i∧V'.s (out i)=V1.s i){l:List G}{us:List Value}(h:PW (CRep I V1) l us):PW (CRep I V') (l.map (Jp m)) us :=
 ⟨by simpa using h.1,fun j g u hg hu=>by
  rw[List.getElem?_map] at hg
  obtain⟨g0,h1,h2⟩:=Option.map_eq_some_iff.1 hg
  subst h2
  exact Cm hm (h.2 j g0 u h1 hu)⟩
theorem B2 {m:List (Nat × Nat)}{out:Nat→Nat}(hm:∀i,i < V1.n→(look i m).getD i=out i∧out i < V'.n∧V'.b (out i)=V1.b i∧V'.s (out i)=V1.s i)(h:TRep1 I V1 g x):TRep1 I V' (Z2t m g) x:=by
 cases g with
 | oag l =>
  obtain⟨cs,e,h⟩:=h
  exact⟨cs,e,Uz hm h⟩
 | clo f a c =>
  obtain⟨h0,us,cs,e,h1,h2⟩:=h
  refine⟨?_,us,cs,e,Uz hm h1,Uz hm h2⟩
  obtain⟨g,hg,hk⟩:=h0
  have hk2:Be (Jp m g)=false:=by cases g<;>first | rfl | cases hk
  exact⟨Jp m g,hg.imp (fun h=>List.mem_map.2 ⟨g,h,rfl⟩) (fun h=>List.mem_map.2 ⟨g,h,rfl⟩),hk2⟩
 | oel k i sz off =>
  obtain⟨hk,h⟩:=h
  obtain⟨h1,h2,-,h3⟩:=hm k hk
  exact⟨by rw[h1];exact h2,by rw[h1,h3];exact h⟩
 | orv k i sz off len cap =>
  obtain⟨hk,b,q,ho,h⟩:=h
  obtain⟨h1,h2,h4,h3⟩:=hm k hk
  exact⟨by rw[h1];exact h2,b,q,ho.of (by rw[h1];exact h4) (by rw[h1];exact h3),h⟩
 | elp row off=>exact h
 | tup l=>exact h.elim
 | ptr k o=>exact Cm (I:=I) (m:=m) (g:=.ptr k o) hm h
 | osl k=>exact Cm (I:=I) (m:=m) (g:=.osl k) hm h
 | osv k a b c=>exact Cm (I:=I) (m:=m) (g:=.osv k a b c) hm h
 | mp k=>exact Cm (I:=I) (m:=m) (g:=.mp k) hm h
 | v y=>exact Cm (I:=I) (m:=m) (g:=.v y) hm h
 | tt=>exact Cm (I:=I) (m:=m) (g:=.tt) hm h
 | ff=>exact Cm (I:=I) (m:=m) (g:=.ff) hm h
 | un=>exact Cm (I:=I) (m:=m) (g:=.un) hm h
 | nl=>exact Cm (I:=I) (m:=m) (g:=.nl) hm h
 | agg l=>exact Cm (I:=I) (m:=m) (g:=.agg l) hm h
 | sl l=>exact Cm (I:=I) (m:=m) (g:=.sl l) hm h
theorem Z4b {m:List (Nat × Nat)}{out:Nat→Nat}(hm:∀i,i < V1.n→(look i m).getD i=out i∧out i < V'.n∧V'.b (out i)=V1.b i∧V'.s (out i)=V1.s i)(h:TRep I V1 g x):TRep I V' (Pc m g) x:=by
 cases g with
 | tup l =>
  obtain⟨cs,e,h⟩:=h
  exact⟨cs,e,by simpa using h.1,fun j g u hg hu=>by
   rw[List.getElem?_map] at hg
   obtain⟨g0,h1,h2⟩:=Option.map_eq_some_iff.1 hg
   subst h2
   exact B2 hm (h.2 j g0 u h1 hu)⟩
 | oag l=>exact .of_1 (B2 (I:=I) (m:=m) (g:=.oag l) hm h)
 | clo f a c=>exact .of_1 (B2 (I:=I) (m:=m) (g:=.clo f a c) hm h)
 | oel k i sz off=>exact .of_1 (B2 (I:=I) (m:=m) (g:=.oel k i sz off) hm h)
 | orv k i sz off l c=>exact .of_1 (B2 (I:=I) (m:=m) (g:=.orv k i sz off l c) hm h)
 | elp row off=>exact .of_1 (B2 (I:=I) (m:=m) (g:=.elp row off) hm h)
 | ptr k o=>exact .of_1 (B2 (I:=I) (m:=m) (g:=.ptr k o) hm h)
 | osl k=>exact .of_1 (B2 (I:=I) (m:=m) (g:=.osl k) hm h)
 | osv k a b c=>exact .of_1 (B2 (I:=I) (m:=m) (g:=.osv k a b c) hm h)
 | mp k=>exact .of_1 (B2 (I:=I) (m:=m) (g:=.mp k) hm h)
 | v y=>exact .of_1 (B2 (I:=I) (m:=m) (g:=.v y) hm h)
 | tt=>exact .of_1 (B2 (I:=I) (m:=m) (g:=.tt) hm h)
 | ff=>exact .of_1 (B2 (I:=I) (m:=m) (g:=.ff) hm h)
 | un=>exact .of_1 (B2 (I:=I) (m:=m) (g:=.un) hm h)
 | nl=>exact .of_1 (B2 (I:=I) (m:=m) (g:=.nl) hm h)
 | agg l=>exact .of_1 (B2 (I:=I) (m:=m) (g:=.agg l) hm h)
 | sl l=>exact .of_1 (B2 (I:=I) (m:=m) (g:=.sl l) hm h)
theorem Wl (hH:Has I V own w)(hd:ks.Nodup)(hl:rs.length=ks.length)(hr:∀(i k:Nat),ks[i]?=some k→∃r r',rs[i]?=some r'∧look k own=some r)
  {rs':List R} (hn:V1.n=rs'.length) (h1:Has I' V1 (Aw rs' 0) w') (hF:Fro (Aw rs 0) I (V.lend ks) w (Aw rs' 0) I' V1 w') (hV:(V.lend ks).le V1) :
  Later own I V w (Oz (Rh ks V.n rs' 0) rs' ks own V.n) I' (V.back ks V1) w'∧∀g x,TRep I' V1 g x→TRep I' (V.back ks V1) (Pc (Rh ks V.n rs' 0) g) x:=by
 have hkn:∀k∈ks,k < V.n:=fun k hk=>by
  obtain⟨i,hi,e⟩:=List.mem_iff_getElem.1 hk
  obtain⟨r,-,-,h2⟩:=hr i k (by rw[List.getElem?_eq_getElem hi,e])
  exact hH.num k r h2
 have hge:ks.length≤rs'.length:=by rw[←hn];exact hV.1
 have hout:∀i,i < V1.n→(look i (Rh ks V.n rs' 0)).getD i=B4 ks V.n i∧B4 ks V.n i < (V.back ks V1).n∧(V.back ks V1).b (B4 ks V.n i)=V1.b i∧(V.back ks V1).s (B4 ks V.n i)=V1.s i:=fun i hi=>by
  refine⟨by rw[Lf,if_pos ⟨by omega,by omega⟩];simp,?_⟩
  cases hk:ks[i]? with
  | some k =>
   have hlt:=hkn k (List.mem_of_getElem? hk)
   have hi':=(List.getElem?_eq_some_iff.1 hk).1
   have h2:=hV.2 i hi'
   rw[B0 hk]
   refine⟨by show k < V.n+_;omega,?_,?_⟩
   ·show(if k < V.n then V.b k else _)=_
    rw[if_pos hlt,h2.1];simp[Va.lend,B0 hk]
   ·show(if k < V.n then V.s k else _)=_
    rw[if_pos hlt,h2.2];simp[Va.lend,B0 hk]
  | none =>
   have hi2:=List.getElem?_eq_none_iff.1 hk
   have e:B4 ks V.n i=V.n+(i - ks.length):=by simp[B4,hk]
   rw[e]
   have e2:ks.length+(V.n+(i - ks.length) - V.n)=i:=by omega
   refine⟨by show _ < V.n+_;omega,?_,?_⟩
   ·show(if _ < V.n then _ else _)=_
    rw[if_neg (by omega),e2]
   ·show(if _ < V.n then _ else _)=_
    rw[if_neg (by omega),e2]
 have hfo:∀i,i < V1.n→(V.back ks V1).f (B4 ks V.n i)=V1.f i:=fun i hi=>by
  funext b
  apply propext
  constructor
  ·rintro(⟨j,hj,e,hf⟩ | ⟨h,-⟩)
   ·have:=Wk hd hkn e
    subst this
    exact hf
   ·exact absurd rfl (h i hi)
  ·exact fun hf=>.inl ⟨i,hi,rfl,hf⟩
 have hfk:∀k,(∀i,i < V1.n→B4 ks V.n i≠k)→(V.back ks V1).f k=V.f k:=fun k hk=>by
  funext b
  apply propext
  constructor
  ·rintro(⟨j,hj,e,-⟩ | ⟨-,hf⟩)
   ·exact absurd e (hk j hj)
   ·exact hf
  ·exact fun hf=>.inr ⟨hk,hf⟩
 have hle:V.le (V.back ks V1):=⟨Nat.le_add_right _ _,fun k hk=>⟨if_pos hk,if_pos hk⟩⟩
 have lent:∀j r b,look j (Aw rs 0)=some r→(V.lend ks).f j b→∃k r,ks[j]?=some k∧look k own=some r∧V.f k b:=fun j r b h hf=>by
  rw[Af] at h
  have hj:=(List.getElem?_eq_some_iff.1 h).1
  have hj':j < ks.length:=by omega
  obtain⟨r0,r',k1,k2⟩:=hr j ks[j] (List.getElem?_eq_getElem hj')
  refine⟨_,r0,List.getElem?_eq_getElem hj',k2,?_⟩
  have:=B0 (n:=0) (List.getElem?_eq_getElem hj':ks[j]?=some ks[j])
  simpa [Va.lend,this] using hf
 have hnl:∀k r,look k own=some r→(∀i,i < V1.n→B4 ks V.n i≠k)→∀b,V.f k b→∀j r',look j (Aw rs 0)=some r'→¬(V.lend ks).f j b:=fun k r hk hno b hb j r' hj hf=>by
  obtain⟨k',r2,h2,h3,h4⟩:=lent j r' b hj hf
  have:=hH.disj k k' r r2 b hk h3 hb h4
  subst this
  have hj':=(List.getElem?_eq_some_iff.1 h2).1
  exact hno j (by omega) (B0 h2)
 have hnot:∀k,(∀i,i < rs'.length→B4 ks V.n i≠k)→∀i,i < V1.n→B4 ks V.n i≠k:=fun k h i hi=>h i (by omega)
 refine⟨⟨⟨h1.mem,fun k r hk=>?_,fun k r hk=>?_,fun k r b hk hb=>?_,fun k k' r r' b hk hk' hb hb'=>?_⟩,⟨hF.os,hF.tape,hF.output,hF.size,fun b hb hn=>hF.blk b hb fun j r hj hf=>?_,hF.mono,fun k r b hk hb hlt=>?_⟩,hle⟩,fun g x h=>Z4b hout h⟩
 ·rcases Cc hk with⟨i,r0,e,h2,-⟩ | ⟨h2,h3⟩
  ·have hi:=(List.getElem?_eq_some_iff.1 h2).1
   rw[←e]
   exact(hout i (by omega)).2.1
  ·exact Nat.lt_of_lt_of_le (hH.num k r h3) hle.1
 ·rcases Cc hk with⟨i,r0,e,h2,rfl⟩ | ⟨h2,h3⟩
  ·have hi:=(List.getElem?_eq_some_iff.1 h2).1
   have hi':i < V1.n:=by omega
   have hr0:=h1.each i r0 (by rw[Af];exact h2)
   obtain⟨-,o1,o2,o3⟩:=hout i hi'
   have o4:=hfo i hi'
   rw[←e]
   cases r0 with
   | blk cs t =>
    obtain⟨q1,us,q2,q3⟩:=hr0
    exact⟨fun b=>by rw[o4,o2];exact q1 b,us,by rw[o2];exact q2,Uz hout q3⟩
   | slc rows ty sz=>exact⟨fun b=>by rw[o4,o3];exact hr0.1 b,by rw[o3];exact hr0.2⟩
   | vw rows ty sz=>exact⟨fun b=>by rw[o4,o3];exact hr0.1 b,by rw[o3];exact hr0.2⟩
   | froz rows sz=>exact⟨fun b=>by rw[o4];exact hr0.1 b,by rw[o3];exact hr0.2.1,hr0.2.2⟩
   | gone=>exact fun b=>by rw[o4];exact hr0 b
   | mpI l=>exact⟨fun b=>by rw[o4,o2];exact hr0.1 b,by rw[o2];exact hr0.2⟩
   | mpS l=>exact⟨fun b=>by rw[o4,o2];exact hr0.1 b,by rw[o2];exact hr0.2⟩
   | sit s pos=>exact⟨fun b=>by rw[o4,o2];exact hr0.1 b,by rw[o2];exact hr0.2⟩
   | mpX l m ob=>exact⟨fun b=>by rw[o4,o2];exact hr0.1 b,by rw[o2];exact hr0.2⟩
   | mit j l D last m ob=>exact⟨fun b=>by rw[o4,o2];exact hr0.1 b,by rw[o2];exact hr0.2⟩
   | abs p=>exact⟨hr0.1,by rw[o4,o2];exact hr0.2⟩
   | lnk j =>
    obtain⟨q1,q2,m0,q3⟩:=hr0
    obtain⟨u1,u2,-,u4⟩:=hout j q2
    exact⟨fun b=>by rw[o4];exact q1 b,by rw[u1];exact u2,m0,by rw[u1,u4,o2];exact q3⟩
   | adr j b =>
    obtain⟨q1,q2,q3⟩:=hr0
    obtain⟨u1,u2,u3,-⟩:=hout j q2
    exact⟨fun b=>by rw[o4];exact q1 b,by rw[u1];exact u2,by rw[u1,u3];exact q3⟩
   | fam ps=>exact⟨hr0.1,by rw[o4];exact hr0.2⟩
  ·exact(hH.each k r h3).keep hF.mono hle (hH.num k r h3) (hfk k (hnot k h2)) hF.os hF.size fun b hb=>(hF.blk b (hH.foot k r b h3 hb).1 (hnl k r h3 (hnot k h2) b hb)).1
 ·rcases Cc hk with⟨i,r0,e,h2,rfl⟩ | ⟨h2,h3⟩
  ·have hi:=(List.getElem?_eq_some_iff.1 h2).1
   rw[←e,hfo i (by omega)] at hb
   exact h1.foot i r0 b (by rw[Af];exact h2) hb
  ·rw[hfk k (hnot k h2)] at hb
   have h4:=hH.foot k r b h3 hb
   exact⟨Nat.lt_of_lt_of_le h4.1 hF.size,fun o=>((hF.blk b h4.1 (hnl k r h3 (hnot k h2) b hb)).2 o).trans (h4.2 o)⟩
 ·have cross:∀i r0 k r,i < V1.n→rs'[i]?=some r0→V1.f i b→look k own=some r→(∀i,i < V1.n→B4 ks V.n i≠k)→V.f k b→False:=fun i r0 k r hi h2 hf hk hno hb=>by
   have h4:=(hH.foot k r b hk hb).1
   obtain⟨j,r',hj,hf'⟩:=hF.foot i r0 b (by rw[Af];exact h2) hf h4
   exact hnl k r hk hno b hb j r' hj hf'
  rcases Cc hk with⟨i,r0,e,h2,-⟩ | ⟨h2,h3⟩
  ·have hi:=(List.getElem?_eq_some_iff.1 h2).1
   rw[←e,hfo i (by omega)] at hb
   rcases Cc hk' with⟨i',r0',e',h2',-⟩ | ⟨h2',h3'⟩
   ·have hi':=(List.getElem?_eq_some_iff.1 h2').1
    rw[←e',hfo i' (by omega)] at hb'
    rw[←e,←e',h1.disj i i' r0 r0' b (by rw[Af];exact h2) (by rw[Af];exact h2') hb hb']
   ·rw[hfk k' (hnot k' h2')] at hb'
    exact(cross i r0 k' r' (by omega) h2 hb h3' (hnot k' h2') hb').elim
  ·rw[hfk k (hnot k h2)] at hb
   rcases Cc hk' with⟨i',r0',e',h2',-⟩ | ⟨h2',h3'⟩
   ·have hi':=(List.getElem?_eq_some_iff.1 h2').1
    rw[←e',hfo i' (by omega)] at hb'
    exact(cross i' r0' k r (by omega) h2' hb' h3 (hnot k h2) hb).elim
   ·rw[hfk k' (hnot k' h2')] at hb'
    exact hH.disj k k' r r' b h3 h3' hb hb'
 ·obtain⟨k,r2,-,h3,h4⟩:=lent j r b hj hf
  exact hn k r2 h3 h4
 ·rcases Cc hk with⟨i,r0,e,h2,-⟩ | ⟨h2,h3⟩
  ·have hi:=(List.getElem?_eq_some_iff.1 h2).1
   rw[←e,hfo i (by omega)] at hb
   obtain⟨j,r',hj,hf⟩:=hF.foot i r0 b (by rw[Af];exact h2) hb hlt
   obtain⟨k',r2,-,h4,h5⟩:=lent j r' b hj hf
   exact⟨k',r2,h4,h5⟩
  ·rw[hfk k (hnot k h2)] at hb
   exact⟨k,r,h3,hb⟩
end
end Go.Proofs.YtihfaocdpmmooaaGreat
namespace Go.Proofs.YtihfaocdpmmooaaGreat
open Go.RowKit
def ren (m:List (Nat × Nat))(k:Nat):Nat:=(look k m).getD k
def Va.ren (V:Va)(m:List (Nat × Nat))(n:Nat):Va:=⟨n,fun k=>V.b (Go.Proofs.YtihfaocdpmmooaaGreat.ren m k),fun k=>V.s (Go.Proofs.YtihfaocdpmmooaaGreat.ren m k),fun k=>V.f (Go.Proofs.YtihfaocdpmmooaaGreat.ren m k)⟩
theorem Qe:∀{l:List Nat} {k:Nat},Fr k l=true↔k∈l
 | [],k=>by simp[Fr]
 | j::l,k=>by
  unfold Fr
  have ih:=Qe (l:=l) (k:=k)
  by_cases h:k=j
  ·subst h;simp[Nat.beq_refl]
  ·have h2:Nat.beq k j=false:=by
    cases hb:Nat.beq k j with
    | false=>rfl
    | true=>exact absurd (Nat.eq_of_beq_eq_true hb) h
   simp[h2,ih,h]
section
variable {P:Program} {tb:List (Nat × TI)} {N n:Nat} {I I' I0:Imm} {V V' V0 V2:Va} {a:Act} {t t':Ts} {own own' own0:Os} {w w' w0:World} {g:G} {x y:Value} {d:Option Tmp} {m:List (Nat × Nat)} {r:R}
theorem Z4y (hk:Re n g=true)(h:CRep I V (Jp m g) x):CRep I (V.ren m n) g x:=by
 cases g with
 | ptr k o=>exact⟨Nat.lt_of_lt_of_le (Nat.le_of_ble_eq_true hk) (Nat.le_refl _),h.2⟩
 | osl k=>exact⟨Nat.lt_of_lt_of_le (Nat.le_of_ble_eq_true hk) (Nat.le_refl _),h.2⟩
 | osv k sz lo hi=>exact⟨Nat.lt_of_lt_of_le (Nat.le_of_ble_eq_true hk) (Nat.le_refl _),h.2⟩
 | mp k=>exact⟨Nat.lt_of_lt_of_le (Nat.le_of_ble_eq_true hk) (Nat.le_refl _),h.2⟩
 | oel k i s o=>exact h
 | _=>exact h
theorem Zci {cs:List G}{us:List Value}(hk:Ar (Re n) cs=true)(h:PW (CRep I V) (cs.map (Jp m)) us):PW (CRep I (V.ren m n)) cs us :=
 ⟨by have:=h.1;simpa using this,fun j g u hg hu=>Z4y (Ac hk g (List.mem_of_getElem? hg)) (h.2 j _ u (by rw[List.getElem?_map,hg];rfl) hu)⟩
theorem Wg (hlt:∀j,j < n→ren m j < V.n)(h:CRep I (V.ren m n) g x):CRep I V (Jp m g) x:=by
 cases g with
 | ptr k o=>exact⟨hlt k h.1,h.2⟩
 | osl k=>exact⟨hlt k h.1,h.2⟩
 | osv k sz lo hi=>exact⟨hlt k h.1,h.2⟩
 | mp k=>exact⟨hlt k h.1,h.2⟩
 | oel k i s o=>exact h
 | _=>exact h
theorem Z4h {cs:List G}{us:List Value}(hlt:∀j,j < n→ren m j < V.n)(h:PW (CRep I (V.ren m n)) cs us):PW (CRep I V) (cs.map (Jp m)) us :=
 ⟨by have:=h.1;simpa using this,fun j g u hg hu=>by
  rw[List.getElem?_map] at hg
  obtain⟨g0,h1,rfl⟩:=Option.map_eq_some_iff.1 hg
  exact Wg hlt (h.2 j g0 u h1 hu)⟩
theorem Ol {m:List (Nat × Nat)}{k:Nat}(hk:Tv n r=true)(h:RRep I V (ren m k) w (H3 m r)):RRep I (V.ren m n) k w r:=by
 cases r with
 | blk cs ty =>
  obtain⟨q1,us,q2,q3⟩:=h
  exact⟨q1,us,q2,Zci hk q3⟩
 | lnk j=>cases hk
 | adr j b =>
  obtain⟨q1,q2,q3⟩:=h
  exact⟨q1,Nat.le_of_ble_eq_true hk,q3⟩
 | _=>exact h
theorem X6 {m:List (Nat × Nat)}{k:Nat}(hlt:∀j,j < n→ren m j < V.n)(h:RRep I (V.ren m n) k w r):RRep I V (ren m k) w (H3 m r):=by
 cases r with
 | blk cs ty =>
  obtain⟨q1,us,q2,q3⟩:=h
  exact⟨q1,us,q2,Z4h hlt q3⟩
 | lnk j =>
  obtain⟨q1,q2,q3⟩:=h
  exact⟨q1,hlt j q2,q3⟩
 | adr j b =>
  obtain⟨q1,q2,q3⟩:=h
  exact⟨q1,hlt j q2,q3⟩
 | _=>exact h
theorem C2:∀{T:Os},leI m own n T→∀{i r},look i T=some r→i < n∧Tv n r=true∧look (ren m i) own=some (H3 m r)
 | [],_,i,g,h=>by cases h
 | (j,g')::T,hT,i,g,h=>by
  rw[A3] at h
  split at h
  ·next e=>subst e;cases h;exact⟨Nat.le_of_ble_eq_true hT.1.1,hT.1.2⟩
  ·exact C2 hT.2 h
theorem Ll {α:Type}{k:Nat}{x:α}:∀{l:List (Nat × α)},look k l=some x→(k,x)∈l
 | [],h=>by cases h
 | (j,y)::l,h=>by
  rw[A3] at h
  split at h
  ·next e=>subst e;cases h;simp
  ·exact List.mem_cons_of_mem _ (Ll h)
theorem Ni:∀{l:Os},Mb (l.map fun p=>ren m p.1)=true→∀{k k' r r'},look k l=some r→look k' l=some r'→ren m k=ren m k'→k=k'
 | [],_,k,k',r,r',h,_,_=>by cases h
 | (j,q)::l,hn,k,k',r,r',h,h',e=>by
  simp only[List.map_cons,Mb] at hn
  cases hm:Fr (ren m j) (l.map fun p=>ren m p.1) with
  | true=>rw[hm] at hn;cases hn
  | false =>
   rw[hm] at hn
   have hno:∀k r,look k l=some r→ren m k≠ren m j:=fun k r hk he=>by
    have:ren m j∈l.map fun p=>ren m p.1:=List.mem_map.2 ⟨(k,r),Ll hk,he⟩
    rw[Qe.2 this] at hm
    cases hm
   rw[A3] at h h'
   split at h<;>split at h'
   ·next e1 e2=>rw[e1,e2]
   ·next e1 e2=>exact absurd (e ▸ e1 ▸ rfl:ren m k'=ren m j) (hno _ _ h')
   ·next e1 e2=>exact absurd (e.trans (by rw[e2])) (hno _ _ h)
   ·exact Ni hn h h' e
theorem Z5p (hk:Re n g=true)(hn:n≤V2.n)(hb:∀j,j < n→V2.b j=V.b j∧V2.s j=V.s j)(h:CRep I V g x):CRep I V2 g x:=by
 cases g with
 | ptr k o=>have:=Nat.le_of_ble_eq_true hk;exact⟨Nat.lt_of_lt_of_le this hn,by rw[(hb k this).1];exact h.2⟩
 | mp k=>have:=Nat.le_of_ble_eq_true hk;exact⟨Nat.lt_of_lt_of_le this hn,by rw[(hb k this).1];exact h.2⟩
 | osl k=>have:=Nat.le_of_ble_eq_true hk;exact⟨Nat.lt_of_lt_of_le this hn,by rw[(hb k this).2];exact h.2⟩
 | osv k a b c=>have:=Nat.le_of_ble_eq_true hk;exact⟨Nat.lt_of_lt_of_le this hn,by rw[(hb k this).2];exact h.2⟩
 | _=>exact h
theorem RRep.val (hk:Tv n r=true)(hn:n≤V2.n)(hb:∀j,j < n→V2.b j=V.b j∧V2.s j=V.s j){k:Nat}(hkn:k < n)(hf:V2.f k=V.f k)(h:RRep I V k w r):RRep I V2 k w r:=by
 have h1:=(hb k hkn).1
 have h2:=(hb k hkn).2
 cases r with
 | blk cs t =>
  obtain⟨q1,us,q2,q3⟩:=h
  exact⟨fun b=>by rw[hf,h1];exact q1 b,us,by rw[h1];exact q2,q3.1,fun j g u hg hu=>Z5p (Ac (show Ar (Re n) cs=true from hk) g (List.mem_of_getElem? hg)) hn hb (q3.2 j g u hg hu)⟩
 | slc rows e sz=>exact⟨fun b=>by rw[hf,h2];exact h.1 b,by rw[h2];exact h.2⟩
 | vw rows e sz=>exact⟨fun b=>by rw[hf,h2];exact h.1 b,by rw[h2];exact h.2⟩
 | froz rows sz=>exact⟨fun b=>by rw[hf];exact h.1 b,by rw[h2];exact h.2.1,h.2.2⟩
 | gone=>exact fun b=>by rw[hf];exact h b
 | mpI l=>exact⟨fun b=>by rw[hf,h1];exact h.1 b,by rw[h1];exact h.2⟩
 | mpS l=>exact⟨fun b=>by rw[hf,h1];exact h.1 b,by rw[h1];exact h.2⟩
 | sit s pos=>exact⟨fun b=>by rw[hf,h1];exact h.1 b,by rw[h1];exact h.2⟩
 | mpX l m ob=>exact⟨fun b=>by rw[hf,h1];exact h.1 b,by rw[h1];exact h.2⟩
 | mit j l D last m ob=>exact⟨fun b=>by rw[hf,h1];exact h.1 b,by rw[h1];exact h.2⟩
 | abs p=>exact⟨h.1,by rw[hf,h1];exact h.2⟩
 | lnk j=>cases hk
 | adr j b =>
  have hj:=Nat.le_of_ble_eq_true (show Nat.blt j n=true from hk)
  exact⟨fun c=>by rw[hf];exact h.1 c,Nat.lt_of_lt_of_le hj hn,by rw[(hb j hj).1];exact h.2.2⟩
 | fam ps=>exact⟨h.1,by rw[hf];exact h.2⟩
theorem F5:∀{O:Os},Sn n O=true→∀{k r},look k O=some r→k < n∧Tv n r=true
 | [],_,k,r,h=>by cases h
 | (j,q)::O,hk,k,r,h=>by
  unfold Sn at hk
  split at hk
  ·next h1 h2 =>
   rw[A3] at h
   split at h
   ·next e=>subst e;cases h;exact⟨Nat.le_of_ble_eq_true h1,h2⟩
   ·exact F5 hk h
  ·cases hk
theorem O2:∀(rs:List R) (i n k:Nat),look k (opM i n rs)=if i≤k∧k - i < rs.length then some (n+(k - i)) else none
 | [],i,n,k=>by simp[opM,look]
 | r::rs,i,n,k=>by
  rw[opM,A3,O2 rs (i+1) (n+1) k]
  by_cases h:k=i
  ·subst h;simp
  ·by_cases h2:i+1≤k∧k - (i+1) < rs.length
   ·rw[if_neg h,if_pos h2,if_pos ⟨by omega,by simp;omega⟩];congr 1;omega
   ·rw[if_neg h,if_neg h2,if_neg (fun h3=>h2 ⟨by omega,by simp at h3;omega⟩)]
theorem Z0x (O:Os):Loc (cl O):=fun I I' b S w w' ⟨V,h1,h2,h3⟩ hI hos hs hb=>by
 have hbl:∀k r,look k O=some r→∀c,V.f k c→w'.heap[c]?=w.heap[c]?:=fun k r hk c hf=>hb c ((h3 c).2 ⟨k,r,hk,hf⟩)
 exact⟨V,h1,⟨h2.num,fun k r hk=>(h2.each k r hk).keep hI (.refl _) (h2.num k r hk) rfl hos hs (hbl k r hk),fun k r c hk hf=>Nat.lt_of_lt_of_le (h2.lt k r c hk hf) hs,h2.disj⟩,h3⟩
theorem Z6 (h:Has I V own w){k:Nat}{p q:List G}{ty e sz:Nat}(hk:look k own=some (.blk (p++.nl::q) ty))(hz:0 < sz):Later own I V w ((k,.blk (p++.osl V.n::q) ty)::(V.n,.slc [] e sz)::own) I (V.push 0 (.slice none 0 0) fun _=>False) w:=by
 have h1:Later own I V w ((V.n,.slc [] e sz)::own) I (V.push 0 (.slice none 0 0) fun _=>False) w:=by
  refine D3 h (Below.refl _ _) 0 (.slice none 0 0) (fun _=>False) (fun k h=>h.elim) ⟨?_,[],?_,rfl,?_,by simp,by simp,hz⟩
  ·intro b;simp[Va.push,Value.ownBlock]
  ·simp[Va.push];exact World.ownsRow_nil w 0 e sz
  ·intro i r u hr;simp at hr
 have hkn:=h.num k _ hk
 have hk1:look k ((V.n,R.slc [] e sz)::own)=some (.blk (p++.nl::q) ty):=by rw[A3,if_neg (by omega)];exact hk
 refine h1.trans (Cj h1.has hk1 rfl rfl rfl rfl (fun _ _=>rfl) ?_)
 obtain⟨q1,us,q2,q3⟩:=h1.has.each k _ hk1
 refine⟨q1,us,q2,by have:=q3.1;simpa using this,fun j g u hg hu=>?_⟩
 by_cases hj:j=p.length
 ·subst hj
  rw[List.getElem?_append_right (Nat.le_refl _),Nat.sub_self] at hg
  obtain rfl:G.osl V.n=g:=by simpa using hg
  have h3:=q3.2 p.length .nl u (by rw[List.getElem?_append_right (Nat.le_refl _),Nat.sub_self];rfl) hu
  cases(show VRep I .nl u from h3)
  exact⟨Nat.lt_succ_self _,by simp[Va.push]⟩
 ·refine q3.2 j g u ?_ hu
  by_cases hlt:j < p.length
  ·rw[List.getElem?_append_left hlt] at hg⊢;exact hg
  ·rw[List.getElem?_append_right (by omega)] at hg⊢
   obtain⟨i,hi⟩:∃i,j - p.length=i+1:=⟨j - p.length - 1,by omega⟩
   rw[hi] at hg⊢
   simpa using hg
theorem Mm:∀(l:List Nat) (k:Nat),look k (Qi l own)=if k∈l then some .gone else look k own
 | [],k=>by simp[Qi]
 | j::l,k=>by
  rw[Qi,A3,Mm l k]
  by_cases h:k=j
  ·subst h;simp
  ·simp[h]
theorem S1 (h:Has I V own w){O:Os}(hO:leI m own V.n O)(h0:∃r,look 0 O=some r)(hd:Mb (O.map fun p=>ren m p.1)=true):∃f,Later own I V w ((ren m 0,.abs (cl O))::Qi (O.map fun p=>ren m p.1) own) I ⟨V.n,V.b,V.s,f⟩ w:=by
 have lkO:∀{k r},look k O=some r→ren m k∈O.map fun p=>ren m p.1:=fun {k r} hk=>List.mem_map.2 ⟨(k,r),Ll hk,rfl⟩
 let F:Nat→Prop:=fun b=>∃k r,look k O=some r∧V.f (ren m k) b
 let f:Nat→Nat→Prop:=fun j=>if j=ren m 0 then F else if j∈O.map (fun p=>ren m p.1) then fun _=>False else V.f j
 have fF:f (ren m 0)=F:=if_pos rfl
 have fG:∀{j},j≠ren m 0→j∈O.map (fun p=>ren m p.1)→f j=fun _=>False:=fun {j} h1 h2=>by show(if _ then _ else _)=_;rw[if_neg h1,if_pos h2]
 have fV:∀{j},j≠ren m 0→j ∉ O.map (fun p=>ren m p.1)→f j=V.f j:=fun {j} h1 h2=>by show(if _ then _ else _)=_;rw[if_neg h1,if_neg h2]
 have lk:∀{j r},look j ((ren m 0,R.abs (cl O))::Qi (O.map fun p=>ren m p.1) own)=some r→(j=ren m 0∧r=.abs (cl O))∨(j≠ren m 0∧j∈O.map (fun p=>ren m p.1)∧r=.gone)∨(j≠ren m 0∧j ∉ O.map (fun p=>ren m p.1)∧look j own=some r):=fun {j r} hj=>by
  rw[A3,Mm] at hj
  split at hj
  ·next e=>cases hj;exact .inl ⟨e,rfl⟩
  ·next e =>
   split at hj
   ·next e2=>cases hj;exact .inr (.inl ⟨e,e2,rfl⟩)
   ·next e2=>exact .inr (.inr ⟨e,e2,hj⟩)
 have inV:∀{j r b},look j ((ren m 0,R.abs (cl O))::Qi (O.map fun p=>ren m p.1) own)=some r→f j b→∃k r',look k own=some r'∧V.f k b∧((j=ren m 0∧∃i r0,look i O=some r0∧k=ren m i)∨(j ∉ O.map (fun p=>ren m p.1)∧k=j)):=fun {j r b} hj hb=>by
  rcases lk hj with⟨e,-⟩ | ⟨e,e2,-⟩ | ⟨e,e2,e3⟩
  ·rw[e,fF] at hb
   obtain⟨k,r0,h1,h2⟩:=hb
   exact⟨_,_,(C2 hO h1).2.2,h2,.inl ⟨e,k,r0,h1,rfl⟩⟩
  ·rw[fG e e2] at hb;exact hb.elim
  ·rw[fV e e2] at hb;exact⟨j,r,e3,hb,.inr ⟨e2,rfl⟩⟩
 obtain⟨r00,h00⟩:=h0
 refine⟨f,⟨h.mem,fun j r hj=>?_,fun j r hj=>?_,fun j r b hj hb=>?_,fun j j' r r' b hj hj' hb hb'=>?_⟩,⟨rfl,rfl,rfl,Nat.le_refl _,fun b hb hn=>⟨rfl,fun _=>rfl⟩,fun _ _ _ h=>h,fun j r b hj hb _=>?_⟩,⟨Nat.le_refl _,fun k hk=>⟨rfl,rfl⟩⟩⟩
 ·rcases lk hj with⟨e,-⟩ | ⟨-,e2,-⟩ | ⟨-,-,e3⟩
  ·rw[e];exact h.num _ _ (C2 hO h00).2.2
  ·obtain⟨p,hp,e⟩:=List.mem_map.1 e2
   obtain⟨r',hr'⟩:∃r',look p.1 O=some r':=by
    clear lk inV hO h00 r00 fV fG fF f F lkO hd hj e2 e
    induction O with
    | nil=>cases hp
    | cons q O ih =>
     rw[A3]
     split
     ·exact⟨_,rfl⟩
     ·next hne =>
      rcases List.mem_cons.1 hp with rfl | hp
      ·exact absurd rfl hne
      ·exact ih hp
   rw[←e];exact h.num _ _ (C2 hO hr').2.2
  ·exact h.num _ _ e3
 ·rcases lk hj with⟨e,rfl⟩ | ⟨e,e2,rfl⟩ | ⟨e,e2,e3⟩
  ·rw[e]
   refine⟨Z0x O,V.ren m V.n,rfl,⟨fun k r hk=>(C2 hO hk).1,fun k r hk=>Ol (C2 hO hk).2.1 (h.each _ _ (C2 hO hk).2.2),fun k r b hk hf=>(h.foot _ _ b (C2 hO hk).2.2 hf).1,fun k k' r r' b hk hk' hf hf'=>?_⟩,fun c=>?_⟩
   ·exact Ni hd hk hk' (h.disj _ _ _ _ b (C2 hO hk).2.2 (C2 hO hk').2.2 hf hf')
   ·show f (ren m 0) c↔_
    rw[fF];exact Iff.rfl
  ·show ∀b,¬f j b
   rw[fG e e2];exact fun b hb=>hb
  ·exact(h.each j r e3).keep (.refl _) ⟨Nat.le_refl _,fun k hk=>⟨rfl,rfl⟩⟩ (h.num j r e3) (fV e e2) rfl (Nat.le_refl _) fun _ _=>rfl
 ·obtain⟨k,r',h1,h2,-⟩:=inV hj hb
  exact h.foot k r' b h1 h2
 ·obtain⟨k,r1,h1,h2,h3⟩:=inV hj hb
  obtain⟨k',r1',h1',h2',h3'⟩:=inV hj' hb'
  have hkk:=h.disj k k' r1 r1' b h1 h1' h2 h2'
  rcases h3 with⟨e,i,r0,hi,hki⟩ | ⟨e,hki⟩<;>rcases h3' with⟨e',i',r0',hi',hki'⟩ | ⟨e',hki'⟩
  ·rw[e,e']
  ·exact absurd (lkO hi) (by rw[←hki,hkk,hki'];exact e')
  ·exact absurd (lkO hi') (by rw[←hki',←hkk,hki];exact e)
  ·rw[←hki,←hki',hkk]
 ·obtain⟨k,r',h1,h2,-⟩:=inV hj hb
  exact⟨k,r',h1,h2⟩
theorem U5 {m:List (Nat × Nat)}:∀(rs:List R) (n k:Nat),look k (shO m rs n own)=if n≤k∧k - n < rs.length then(rs[k - n]?).map (H3 m) else look k own
 | [],n,k=>by simp[shO]
 | r::rs,n,k=>by
  rw[shO,A3,U5 rs (n+1) k]
  by_cases h:k=n
  ·subst h;simp
  ·rw[if_neg h]
   by_cases h2:n+1≤k∧k - (n+1) < rs.length
   ·rw[if_pos h2,if_pos ⟨by omega,by simp;omega⟩]
    obtain⟨i,hi⟩:∃i,k - n=i+1:=⟨k - n - 1,by omega⟩
    rw[hi,show k - (n+1)=i by omega];simp
   ·rw[if_neg h2,if_neg (fun h3=>h2 ⟨by omega,by simp at h3;omega⟩)]
theorem Z7l {j:Nat}{s:Value}(h0:j=0→∃cs ty,r=.blk cs ty)(hs:Zf9 r=true)(h:RRep I V j w r):RRep I ⟨V.n,V.b,fun i=>if i=0 then s else V.s i,V.f⟩ j w r:=by
 cases r with
 | blk cs ty =>
  obtain⟨q1,us,q2,q3⟩:=h
  refine⟨q1,us,q2,q3.1,fun i g u hg hu=>?_⟩
  have h1:=q3.2 i g u hg hu
  have h2:=Ac (show Ar (Zaa 1) cs=true from hs) g (List.mem_of_getElem? hg)
  cases g with
  | osl k=>exact⟨h1.1,by show u=if k=0 then s else V.s k;rw[if_neg (by have:=Nat.le_of_ble_eq_true h2;omega)];exact h1.2⟩
  | osv k a b c =>
   have e:(if k=0 then s else V.s k)=V.s k:=if_neg (by have:=Nat.le_of_ble_eq_true h2;omega)
   exact⟨h1.1,by show b≤c∧c≤M3 (if k=0 then s else V.s k);rw[e];exact h1.2.1,by show u=Gx a (if k=0 then s else V.s k) b c;rw[e];exact h1.2.2⟩
  | _=>exact h1
 | lnk i=>cases hs
 | _ =>
  have hj:j≠0:=fun e=>by obtain⟨_,_,e⟩:=h0 e;cases e
  have e:(if j=0 then s else V.s j)=V.s j:=if_neg hj
  simp only[RRep,e] at h⊢
  exact h
theorem Xa (h:Has I V own w){k:Nat}{rs:List R}{cs:List G}{ty:Nat}(hk:look k own=some (.abs (cl (Aw (.blk cs ty::rs) 0))))(hb:Sn (rs.length+1) (Aw (.blk cs ty::rs) 0)=true)(hs:Ar Zf9 (.blk cs ty::rs)=true):∃V',V'.n=V.n+rs.length∧Later own I V w ((k,H3 ((0,k)::opM 1 V.n rs) (.blk cs ty))::shO ((0,k)::opM 1 V.n rs) rs V.n own) I V' w:=by
 obtain⟨-,V2,hb0,hO,hS⟩:=h.each k _ hk
 have hkn:=h.num k _ hk
 let σ:List (Nat × Nat):=(0,k)::opM 1 V.n rs
 let VZ:Va:=⟨V2.n,V2.b,fun i=>if i=0 then V.s k else V2.s i,V2.f⟩
 let V3:Va:=⟨V.n+rs.length,fun j=>if j < V.n then V.b j else V2.b (j - V.n+1),fun j=>if j < V.n then V.s j else V2.s (j - V.n+1),fun j=>if j=k then V2.f 0 else if j < V.n then V.f j else V2.f (j - V.n+1)⟩
 have σ0:ren σ 0=k:=rfl
 have σs:∀i,i < rs.length→ren σ (i+1)=V.n+i:=fun i hi=>by
  show(look (i+1) ((0,k)::opM 1 V.n rs)).getD (i+1)=_
  rw[A3,if_neg (by omega),O2,if_pos ⟨by omega,by omega⟩]
  simp
 have σlt:∀j,j < rs.length+1→ren σ j < V3.n:=fun j hj=>by
  cases j with
  | zero=>rw[σ0];show k < V.n+rs.length;omega
  | succ i=>rw[σs i (by omega)];show V.n+i < V.n+rs.length;omega
 have fn:∀i,V3.f (V.n+i)=V2.f (i+1):=fun i=>by
  show(if V.n+i=k then V2.f 0 else if V.n+i < V.n then _ else V2.f (V.n+i - V.n+1))=_
  rw[if_neg (by omega),if_neg (by omega),show V.n+i - V.n+1=i+1 by omega]
 have fk:V3.f k=V2.f 0:=if_pos rfl
 have fo:∀j,j < V.n→j≠k→V3.f j=V.f j:=fun j h1 h2=>by
  show(if j=k then _ else if j < V.n then V.f j else _)=_
  rw[if_neg h2,if_pos h1]
 have sb:∀j,j < rs.length+1→(V3.ren σ (rs.length+1)).b j=VZ.b j∧(V3.ren σ (rs.length+1)).s j=VZ.s j:=fun j hj=>by
  cases j with
  | zero=>exact⟨by show(if k < V.n then V.b k else _)=V2.b 0;rw[if_pos hkn,hb0],by show(if k < V.n then V.s k else _)=V.s k;rw[if_pos hkn]⟩
  | succ i =>
   have e:=σs i (by omega)
   refine⟨?_,?_⟩
   ·show(if ren σ (i+1) < V.n then _ else V2.b (ren σ (i+1) - V.n+1))=V2.b (i+1)
    rw[e,if_neg (by omega),show V.n+i - V.n+1=i+1 by omega]
   ·show(if ren σ (i+1) < V.n then _ else V2.s (ren σ (i+1) - V.n+1))=(if i+1=0 then V.s k else V2.s (i+1))
    rw[e,if_neg (by omega),if_neg (by omega),show V.n+i - V.n+1=i+1 by omega]
 have sf:∀j,j < rs.length+1→(V3.ren σ (rs.length+1)).f j=VZ.f j:=fun j hj=>by
  cases j with
  | zero=>exact fk
  | succ i =>
   show V3.f (ren σ (i+1))=_
   rw[σs i (by omega),fn]
 have rep:∀{j r},look j (Aw (.blk cs ty::rs) 0)=some r→RRep I V3 (ren σ j) w (H3 σ r):=fun {j r} hj=>by
  obtain⟨q1,q2⟩:=F5 hb hj
  have hm:r∈(R.blk cs ty::rs):=by rw[Af] at hj;exact List.mem_of_getElem? hj
  refine X6 (V:=V3) (n:=rs.length+1) (m:=σ) σlt ((Z7l (s:=V.s k) (fun e=>?_) (Ac hs r hm) (hO.each j r hj)).val q2 (Nat.le_refl _) sb q1 (sf j q1))
  subst e
  rw[Af] at hj
  exact⟨cs,ty,(Option.some.inj hj).symm⟩
 have lk:∀{j r},look j ((k,H3 σ (.blk cs ty))::shO σ rs V.n own)=some r→(∃i r0,look i (Aw (.blk cs ty::rs) 0)=some r0∧j=ren σ i∧r=H3 σ r0∧V3.f j=V2.f i)∨(j < V.n∧j≠k∧look j own=some r):=fun {j r} hj=>by
  rw[A3,U5] at hj
  split at hj
  ·next e=>cases hj;exact .inl ⟨0,.blk cs ty,by rw[Af];rfl,e,rfl,by rw[e];exact fk⟩
  ·next e =>
   split at hj
   ·next e2 =>
    obtain⟨i,rfl⟩:=Nat.exists_eq_add_of_le e2.1
    rw[Nat.add_sub_cancel_left] at hj e2
    obtain⟨r0,h1,h2⟩:=Option.map_eq_some_iff.1 hj
    exact .inl ⟨i+1,r0,by rw[Af];simpa using h1,(σs i e2.2).symm,h2.symm,fn i⟩
   ·exact .inr ⟨h.num j r hj,e,hj⟩
 have inS:∀{i r0 b},look i (Aw (.blk cs ty::rs) 0)=some r0→V2.f i b→V.f k b:=fun {i r0 b} hi hf=>(hS b).2 ⟨i,r0,hi,hf⟩
 refine⟨V3,rfl,⟨h.mem,fun j r hj=>?_,fun j r hj=>?_,fun j r b hj hb=>?_,fun j j' r r' b hj hj' hb hb'=>?_⟩,⟨rfl,rfl,rfl,Nat.le_refl _,fun b hb hn=>⟨rfl,fun _=>rfl⟩,fun _ _ _ h=>h,fun j r b hj hb _=>?_⟩,⟨by show V.n≤V.n+rs.length;omega,fun j hj=>⟨if_pos hj,if_pos hj⟩⟩⟩
 ·rcases lk hj with⟨i,r0,h1,rfl,-,-⟩ | ⟨h1,-,-⟩
  ·exact σlt i (F5 hb h1).1
  ·show j < V.n+rs.length;omega
 ·rcases lk hj with⟨i,r0,h1,rfl,rfl,-⟩ | ⟨h1,h2,h3⟩
  ·exact rep h1
  ·exact(h.each j r h3).keep (.refl _) ⟨by show V.n≤V.n+rs.length;omega,fun j hj=>⟨if_pos hj,if_pos hj⟩⟩ h1 (fo j h1 h2) rfl (Nat.le_refl _) fun _ _=>rfl
 ·rcases lk hj with⟨i,r0,h1,-,-,h2⟩ | ⟨h1,h2,h3⟩
  ·rw[h2] at hb;exact h.foot k _ b hk (inS h1 hb)
  ·rw[fo j h1 h2] at hb;exact h.foot j r b h3 hb
 ·rcases lk hj with⟨i,r0,h1,rfl,-,h2⟩ | ⟨h1,h2,h3⟩<;>rcases lk hj' with⟨i',r0',h1',rfl,-,h2'⟩ | ⟨h1',h2',h3'⟩
  ·rw[h2] at hb
   rw[h2'] at hb'
   rw[hO.disj i i' r0 r0' b h1 h1' hb hb']
  ·rw[h2] at hb
   rw[fo _ h1' h2'] at hb'
   exact absurd (h.disj k _ _ _ b hk h3' (inS h1 hb) hb') (fun e=>h2' e.symm)
  ·rw[fo _ h1 h2] at hb
   rw[h2'] at hb'
   exact absurd (h.disj _ k _ _ b h3 hk hb (inS h1' hb')) h2
  ·rw[fo _ h1 h2] at hb
   rw[fo _ h1' h2'] at hb'
   exact h.disj _ _ _ _ b h3 h3' hb hb'
 ·rcases lk hj with⟨i,r0,h1,-,-,h2⟩ | ⟨h1,h2,h3⟩
  ·rw[h2] at hb;exact⟨k,_,hk,inS h1 hb⟩
  ·rw[fo j h1 h2] at hb;exact⟨j,r,h3,hb⟩
theorem Jb (h:Has I V own w)(hr:RRep I (V.push 0 undef fun _=>False) V.n w r):Later own I V w ((V.n,r)::own) I (V.push 0 undef fun _=>False) w :=
 D3 h (Below.refl _ _) 0 undef (fun _=>False) (fun _ h=>h.elim) hr
theorem R6 (h:Has I V own w){k:Nat}(hk:look k own=some r):Later own I V w ((V.n,.adr k (V.b k))::own) I (V.push 0 undef fun _=>False) w:=by
 have hkn:=h.num k r hk
 exact Jb h ⟨fun c hc=>by simp[Va.push] at hc,by show k < V.n+1;omega,by simp[Va.push,Nat.ne_of_lt hkn]⟩
theorem Z2h (h:Has I V own w):Later own I V w ((V.n,.fam [])::own) I (V.push 0 undef fun _=>False) w :=
 Jb h ⟨by simp,fun _ _=>False,fun c=>⟨fun hc=>by simp[Va.push] at hc,fun⟨_,_,hc⟩=>hc.elim⟩,fun _ _ _ _ _ hc=>hc.elim,fun i p hp=>by simp at hp⟩
theorem T4 (h:Has I V own w){j k:Nat}{ps:List Ob}{p:Ob}(hj:look j own=some (.fam ps))(hk:look k own=some (.abs p)):Later own I V w ((j,.fam (ps++[p]))::(k,.gone)::own) I ⟨V.n,V.b,V.s,fun i=>if i=j then fun c=>V.f j c∨V.f k c else if i=k then fun _=>False else V.f i⟩ w:=by
 have hjk:j≠k:=fun e=>by rw[e,hk] at hj;cases hj
 let V2:Va:=⟨V.n,V.b,V.s,fun i=>if i=j then fun c=>V.f j c∨V.f k c else if i=k then fun _=>False else V.f i⟩
 have fj:V2.f j=fun c=>V.f j c∨V.f k c:=if_pos rfl
 have fk:V2.f k=fun _=>False:=by show(if k=j then _ else if k=k then _ else _)=_;rw[if_neg (fun e=>hjk e.symm),if_pos rfl]
 have fo:∀i,i≠j→i≠k→V2.f i=V.f i:=fun i h1 h2=>by show(if i=j then _ else if i=k then _ else _)=_;rw[if_neg h1,if_neg h2]
 have lk:∀{i r},look i ((j,R.fam (ps++[p]))::(k,.gone)::own)=some r→(i=j∧r=.fam (ps++[p]))∨(i=k∧r=.gone)∨(i≠j∧i≠k∧look i own=some r):=fun {i r} hi=>by
  rw[A3] at hi
  split at hi
  ·next e=>cases hi;exact .inl ⟨e,rfl⟩
  ·next e =>
   rw[A3] at hi
   split at hi
   ·next e2=>cases hi;exact .inr (.inl ⟨e2,rfl⟩)
   ·next e2=>exact .inr (.inr ⟨e,e2,hi⟩)
 have inV:∀{i r c},look i ((j,R.fam (ps++[p]))::(k,.gone)::own)=some r→V2.f i c→∃i' r',look i' own=some r'∧V.f i' c∧((i=j∧(i'=j∨i'=k))∨(i≠j∧i≠k∧i'=i)):=fun {i r c} hi hc=>by
  rcases lk hi with⟨e,-⟩ | ⟨e,-⟩ | ⟨e1,e2,e3⟩
  ·rw[e,fj] at hc
   rcases hc with hc | hc
   ·exact⟨j,_,hj,hc,.inl ⟨e,.inl rfl⟩⟩
   ·exact⟨k,_,hk,hc,.inl ⟨e,.inr rfl⟩⟩
  ·rw[e,fk] at hc;exact hc.elim
  ·rw[fo i e1 e2] at hc;exact⟨i,r,e3,hc,.inr ⟨e1,e2,rfl⟩⟩
 have hVl:V.le V2:=⟨Nat.le_refl _,fun _ _=>⟨rfl,rfl⟩⟩
 refine⟨⟨h.mem,fun i r hi=>?_,fun i r hi=>?_,fun i r c hi hc=>?_,fun i i' r r' c hi hi' hc hc'=>?_⟩,⟨rfl,rfl,rfl,Nat.le_refl _,fun b hb hn=>⟨rfl,fun _=>rfl⟩,fun _ _ _ h=>h,fun i r c hi hc _=>?_⟩,hVl⟩
 ·rcases lk hi with⟨e,-⟩ | ⟨e,-⟩ | ⟨-,-,e3⟩
  ·rw[e];exact h.num j _ hj
  ·rw[e];exact h.num k _ hk
  ·exact h.num i r e3
 ·rcases lk hi with⟨e,rfl⟩ | ⟨e,rfl⟩ | ⟨e1,e2,e3⟩
  ·rw[e]
   obtain⟨q1,F,q2,q3,q4⟩:=h.each j _ hj
   obtain⟨p1,p2⟩:=h.each k _ hk
   refine⟨fun q hq=>?_,fun i c=>if i=ps.length then V.f k c else F i c,fun c=>?_,fun a b c ha hb hca hcb=>?_,fun a q hq=>?_⟩
   ·rcases List.mem_append.1 hq with hq | hq
    ·exact q1 q hq
    ·rw[List.mem_singleton.1 hq];exact p1
   ·rw[show V2.f j c↔(V.f j c∨V.f k c) by rw[fj],q2 c,List.length_append,List.length_singleton]
    constructor
    ·rintro(⟨i,hi,hc⟩ | hc)
     ·exact⟨i,by omega,by dsimp only;rw[if_neg (by omega)];exact hc⟩
     ·exact⟨ps.length,by omega,by dsimp only;rw[if_pos rfl];exact hc⟩
    ·rintro⟨i,hi,hc⟩
     by_cases e:i=ps.length
     ·rw[if_pos e] at hc;exact .inr hc
     ·rw[if_neg e] at hc;exact .inl ⟨i,by omega,hc⟩
   ·rw[List.length_append,List.length_singleton] at ha hb
    by_cases ea:a=ps.length<;>by_cases eb:b=ps.length
    ·omega
    ·rw[if_pos ea] at hca
     rw[if_neg eb] at hcb
     exact absurd (h.disj j k _ _ c hj hk ((q2 c).2 ⟨b,by omega,hcb⟩) hca) hjk
    ·rw[if_neg ea] at hca
     rw[if_pos eb] at hcb
     exact absurd (h.disj j k _ _ c hj hk ((q2 c).2 ⟨a,by omega,hca⟩) hcb) hjk
    ·rw[if_neg ea] at hca
     rw[if_neg eb] at hcb
     exact q3 a b c (by omega) (by omega) hca hcb
   ·by_cases ea:a=ps.length
    ·rw[ea,List.getElem?_append_right (Nat.le_refl _),Nat.sub_self] at hq
     obtain rfl:p=q:=by simpa using hq
     refine⟨V.b k,?_⟩
     have e:(fun c=>if a=ps.length then V.f k c else F a c)=V.f k:=by funext c;rw[if_pos ea]
     show p I (V.b k) (fun c=>if a=ps.length then V.f k c else F a c) w
     rw[e];exact p2
    ·have hlt:a < ps.length:=by
      have:=(List.getElem?_eq_some_iff.1 hq).1
      rw[List.length_append,List.length_singleton] at this;omega
     rw[List.getElem?_append_left hlt] at hq
     obtain⟨b,hb⟩:=q4 a q hq
     refine⟨b,?_⟩
     have e:(fun c=>if a=ps.length then V.f k c else F a c)=F a:=by funext c;rw[if_neg ea]
     show q I b (fun c=>if a=ps.length then V.f k c else F a c) w
     rw[e];exact hb
  ·show ∀c,¬V2.f i c
   rw[e,fk];exact fun c hc=>hc
  ·exact(h.each i r e3).keep (.refl _) hVl (h.num i r e3) (fo i e1 e2) rfl (Nat.le_refl _) fun _ _=>rfl
 ·obtain⟨i',r',h1,h2,-⟩:=inV hi hc
  exact h.foot i' r' c h1 h2
 ·obtain⟨a,ra,h1,h2,h3⟩:=inV hi hc
  obtain⟨a',ra',h1',h2',h3'⟩:=inV hi' hc'
  have hkk:=h.disj a a' ra ra' c h1 h1' h2 h2'
  rcases h3 with⟨e,h3⟩ | ⟨e1,e2,e3⟩<;>rcases h3' with⟨e',h3'⟩ | ⟨e1',e2',e3'⟩
  ·rw[e,e']
  ·exfalso;rcases h3 with h3 | h3<;>omega
  ·exfalso;rcases h3' with h3' | h3'<;>omega
  ·omega
 ·obtain⟨i',r',h1,h2,-⟩:=inV hi hc
  exact⟨i',r',h1,h2⟩
theorem Lb (h:Has I V own w){g0:G}{u:Value}(h5:CRep I V g0 u):CRep I V (Eb own g0) u:=by
 cases g0 with
 | osl i =>
  cases hl:look i own with
  | none=>simp only[Eb,hl];exact h5
  | some r =>
   cases r with
   | froz rows sz =>
    simp only[Eb,hl]
    obtain⟨-,rfl⟩:=(show i < V.n∧u=V.s i from h5)
    exact(h.each i _ hl).2.1
   | _=>simp only[Eb,hl];exact h5
 | osv i sz lo hi =>
  cases hl:look i own with
  | none=>simp only[Eb,hl];exact h5
  | some r =>
   cases r with
   | froz rows sz' =>
    simp only[Eb,hl]
    cases hb:Nat.beq sz sz' with
    | false=>exact h5
    | true =>
     have hb:=Nat.eq_of_beq_eq_true hb
     subst hb
     obtain⟨-,⟨h6,h7⟩,rfl⟩:=(show i < V.n∧(lo≤hi∧hi≤M3 (V.s i))∧u=Gx sz (V.s i) lo hi from h5)
     obtain⟨-,h8,h9⟩:=h.each i _ hl
     have hln:M3 (V.s i)=rows.length:=by generalize V.s i=z at h8;cases h8;rfl
     exact Ti h8 h9 h6 (by omega)
   | _=>simp only[Eb,hl];exact h5
 | tt=>cases(show VRep I .tt u from h5);exact .v _
 | ff=>cases(show VRep I .ff u from h5);exact .v _
 | _=>exact h5
theorem Wa (h:Has I V own w){k:Nat}{cs:List G}{ty:Nat}(hk:look k own=some (.blk cs ty)):Later own I V w ((k,.blk (cs.map (Eb own)) ty)::own) I V w:=by
 refine Cj h hk rfl rfl rfl rfl (fun _ _=>rfl) ?_
 obtain⟨h1,us,h2,h3⟩:=h.each k _ hk
 refine⟨h1,us,h2,by simpa using h3.1,fun j g u hg hu=>?_⟩
 rw[List.getElem?_map] at hg
 obtain⟨g0,h4,rfl⟩:=Option.map_eq_some_iff.1 hg
 exact Lb h (h3.2 j g0 u h4 hu)
theorem If (h:Has I V own w)(hle:V.le V')(hnum:∀k r,look k own'=some r→k < V'.n)(heach:∀k r,look k own'=some r→RRep I V' k w r)(hin:∀k r c,look k own'=some r→V'.f k c→∃j r',look j own=some r'∧V.f j c)(hdis:∀k k' r r' b,look k own'=some r→look k' own'=some r'→V'.f k b→V'.f k' b→k=k'):Later own I V w own' I V' w :=
 ⟨⟨h.mem,hnum,heach,fun k r b hk hb=>by obtain⟨j,r',h1,h2⟩:=hin k r b hk hb;exact h.foot j r' b h1 h2,hdis⟩,⟨rfl,rfl,rfl,Nat.le_refl _,fun b hb hn=>⟨rfl,fun _=>rfl⟩,fun _ _ _ h=>h,fun k r b hk hb _=>hin k r b hk hb⟩,hle⟩
theorem Z04 (h:Has I V own w){kb k:Nat}{p q:List G}{ty e sz:Nat}{rows:List (List G)}(hb:look kb own=some (.blk (p++.osl k::q) ty))(hk:look k own=some (.slc rows e sz)):∃V',V'.n=V.n+1∧Later own I V w ((kb,.blk (p++.osl V.n::q) ty)::(V.n,.slc rows e sz)::(k,.gone)::own) I V' w:=by
 have hkn:=h.num k _ hk
 have hbn:=h.num kb _ hb
 have hbk:kb≠k:=fun e=>by rw[e,hk] at hb;cases hb
 let V2:Va:=⟨V.n+1,fun x=>if x=V.n then V.b k else V.b x,fun x=>if x=V.n then V.s k else V.s x,fun x=>if x=V.n then V.f k else if x=k then fun _=>False else V.f x⟩
 have fn:V2.f V.n=V.f k:=if_pos rfl
 have fk:V2.f k=fun _=>False:=by show(if k=V.n then _ else if k=k then _ else _)=_;rw[if_neg (by omega),if_pos rfl]
 have fo:∀x,x≠V.n→x≠k→V2.f x=V.f x:=fun x h1 h2=>by show(if x=V.n then _ else if x=k then _ else _)=_;rw[if_neg h1,if_neg h2]
 have hle:V.le V2:=⟨Nat.le_succ _,fun x hx=>⟨if_neg (by omega),if_neg (by omega)⟩⟩
 have lk:∀{x r},look x ((kb,R.blk (p++.osl V.n::q) ty)::(V.n,.slc rows e sz)::(k,.gone)::own)=some r→(x=kb∧r=.blk (p++.osl V.n::q) ty)∨(x=V.n∧r=.slc rows e sz)∨(x=k∧r=.gone)∨(x≠kb∧x≠V.n∧x≠k∧look x own=some r):=fun {x r} hx=>by
  rw[A3] at hx
  split at hx
  ·next e1=>cases hx;exact .inl ⟨e1,rfl⟩
  ·next e1 =>
   rw[A3] at hx
   split at hx
   ·next e2=>cases hx;exact .inr (.inl ⟨e2,rfl⟩)
   ·next e2 =>
    rw[A3] at hx
    split at hx
    ·next e3=>cases hx;exact .inr (.inr (.inl ⟨e3,rfl⟩))
    ·next e3=>exact .inr (.inr (.inr ⟨e1,e2,e3,hx⟩))
 refine⟨V2,rfl,If h hle (fun x r hx=>?_) (fun x r hx=>?_) (fun x r c hx hc=>?_) fun x x' r r' c hx hx' hc hc'=>?_⟩
 ·rcases lk hx with⟨e,-⟩ | ⟨e,-⟩ | ⟨e,-⟩ | ⟨-,-,-,e3⟩
  ·rw[e];exact Nat.lt_succ_of_lt hbn
  ·rw[e];exact Nat.lt_succ_self _
  ·rw[e];exact Nat.lt_succ_of_lt hkn
  ·exact Nat.lt_succ_of_lt (h.num x r e3)
 ·rcases lk hx with⟨e1,rfl⟩ | ⟨e1,rfl⟩ | ⟨e1,rfl⟩ | ⟨e1,e2,e3,e4⟩
  ·rw[e1]
   obtain⟨q1,us,q2,q3⟩:=h.each kb _ hb
   have fb:V2.f kb=V.f kb:=fo kb (by omega) hbk
   have bb:V2.b kb=V.b kb:=if_neg (by omega)
   refine⟨fun b=>by rw[fb,bb];exact q1 b,us,by rw[bb];exact q2,by have:=q3.1;simpa using this,fun j g u hg hu=>?_⟩
   by_cases hj:j=p.length
   ·subst hj
    rw[List.getElem?_append_right (Nat.le_refl _),Nat.sub_self] at hg
    obtain rfl:G.osl V.n=g:=by simpa using hg
    have h3:=q3.2 p.length (.osl k) u (by rw[List.getElem?_append_right (Nat.le_refl _),Nat.sub_self];rfl) hu
    exact⟨Nat.lt_succ_self _,by rw[h3.2];exact(if_pos rfl).symm⟩
   ·refine CRep.mono (q3.2 j g u ?_ hu) (.refl _) hle
    by_cases hlt:j < p.length
    ·rw[List.getElem?_append_left hlt] at hg⊢;exact hg
    ·rw[List.getElem?_append_right (by omega)] at hg⊢
     obtain⟨i,hi⟩:∃i,j - p.length=i+1:=⟨j - p.length - 1,by omega⟩
     rw[hi] at hg⊢
     simpa using hg
  ·rw[e1]
   have hs:V2.s V.n=V.s k:=if_pos rfl
   obtain⟨q1,rs,q2,q3,q4,q5⟩:=h.each k _ hk
   exact⟨fun b=>by rw[fn,hs];exact q1 b,rs,by rw[hs];exact q2,q3,q4,q5⟩
  ·show ∀c,¬V2.f x c
   rw[e1,fk];exact fun c hc=>hc
  ·exact(h.each x r e4).keep (.refl _) hle (h.num x r e4) (fo x e2 e3) rfl (Nat.le_refl _) fun _ _=>rfl
 ·rcases lk hx with⟨e1,-⟩ | ⟨e1,-⟩ | ⟨e1,-⟩ | ⟨e1,e2,e3,e4⟩
  ·rw[e1,fo kb (by omega) hbk] at hc;exact⟨kb,_,hb,hc⟩
  ·rw[e1,fn] at hc;exact⟨k,_,hk,hc⟩
  ·rw[e1,fk] at hc;exact hc.elim
  ·rw[fo x e2 e3] at hc;exact⟨x,r,e4,hc⟩
 ·have src:∀{x r},look x ((kb,R.blk (p++.osl V.n::q) ty)::(V.n,.slc rows e sz)::(k,.gone)::own)=some r→V2.f x c→∃y ry,look y own=some ry∧V.f y c∧((x=V.n∧y=k)∨(x≠V.n∧x≠k∧y=x)):=fun {x r} hx hc=>by
   rcases lk hx with⟨e1,-⟩ | ⟨e1,-⟩ | ⟨e1,-⟩ | ⟨e1,e2,e3,e4⟩
   ·rw[e1,fo kb (by omega) hbk] at hc
    exact⟨kb,_,hb,hc,.inr ⟨by omega,by rw[e1];exact hbk,e1.symm⟩⟩
   ·rw[e1,fn] at hc;exact⟨k,_,hk,hc,.inl ⟨e1,rfl⟩⟩
   ·rw[e1,fk] at hc;exact hc.elim
   ·rw[fo x e2 e3] at hc;exact⟨x,r,e4,hc,.inr ⟨e2,e3,rfl⟩⟩
  obtain⟨y,ry,h1,h2,h3⟩:=src hx hc
  obtain⟨y',ry',h1',h2',h3'⟩:=src hx' hc'
  have hyy:=h.disj y y' _ _ c h1 h1' h2 h2'
  rcases h3 with⟨e1,e2⟩ | ⟨e1,e2,e3⟩<;>rcases h3' with⟨e1',e2'⟩ | ⟨e1',e2',e3'⟩
  ·rw[e1,e1']
  ·exact absurd (by rw[←e3',←hyy,e2]) e2'
  ·exact absurd (by rw[←e3,hyy,e2']) e2
  ·rw[←e3,←e3',hyy]
theorem Z2d {rs:List (List Value)}{sz:Nat}(h:∀u∈rs,u.length=sz):∀lo,rs.flatten.drop (lo * sz)=(rs.drop lo).flatten:=by
 intro lo
 induction lo generalizing rs with
 | zero=>simp
 | succ lo ih =>
  cases rs with
  | nil=>simp
  | cons u rs =>
   have hu:=h u (by simp)
   rw[List.flatten_cons,List.drop_succ_cons,←ih fun x hx=>h x (by simp[hx]),show(lo+1) * sz=u.length+lo * sz by rw[hu,Nat.succ_mul];omega,List.drop_append,List.drop_eq_nil_of_le (by omega),List.nil_append,show u.length+lo * sz - u.length=lo * sz by omega]
theorem Y7 {e sz n lo hi:Nat}{v:Value}{xs:List Value}(h:D1 w e sz v n xs)(_h1:lo≤hi)(_h2:hi≤n):(Gx sz v lo hi).ownBlock=v.ownBlock:=by
 rcases h.2 with⟨rfl,h0⟩ | ⟨g,q,cap,cur,rfl,-⟩
 ·unfold Gx
  dsimp only
  split<;>rfl
 ·unfold Gx
  dsimp only
  split
  ·rfl
  ·show some ((⟨g,q,none⟩:Addr).add (lo * sz)).block=_
   rw[C0];rfl
theorem Yn {e sz lo hi:Nat}{v:Value}{rows:List (List G)}{rs:List (List Value)}(h:D1 w e sz v rows.length rs.flatten)(hl:rs.length=rows.length)(hz:∀u∈rs,u.length=sz)(h1:lo≤hi∧hi=rows.length):D1 w e sz (Gx sz v lo hi) (rows.drop lo).length (rs.drop lo).flatten:=by
 obtain⟨h1,rfl⟩:=h1
 have hdl:(rows.drop lo).length=rows.length - lo:=List.length_drop ..
 refine⟨by rw[B1 fun u hu=>hz u (List.mem_of_mem_drop hu),List.length_drop,List.length_drop,hl],?_⟩
 rcases h.2 with⟨rfl,h0⟩ | ⟨g,q,cap,cur,rfl,hg,hn,hm,hc,ht⟩
 ·left
  have:lo=0:=by omega
  subst this
  refine⟨?_,by rw[hdl];omega⟩
  unfold Gx
  rw[h0]
  rfl
 ·right
  unfold Gx
  dsimp only
  by_cases hcl:cap=lo
  ·rw[if_pos hcl]
   have hlr:lo=rows.length:=by omega
   refine⟨g,q,0,cur,by rw[hdl,hlr,hcl,hlr];simp,hg,by rw[hdl];omega,Nat.zero_le _,by omega,?_⟩
   rw[hdl,List.drop_eq_nil_of_le (by omega:rs.length≤lo),show rows.length - lo=0 by omega]
   simp
  ·rw[if_neg hcl]
   have hmul:lo * sz+(cap - lo) * sz=cap * sz:=by rw[←Nat.add_mul];congr 1;omega
   refine⟨g,q+lo * sz,cap - lo,cur,?_,hg,by rw[hdl];omega,by omega,by omega,?_⟩
   ·show Value.slice (some ((⟨g,q,none⟩:Addr).add (lo * sz))) _ _=_
    rw[C0,hdl]
   ·rw[hdl,←Z2d hz,←ht,List.drop_take,List.drop_drop,Nat.sub_mul]
theorem Xm (h:Has I V own w){k e sz:Nat}{rows:List (List G)}(hk:look k own=some (.slc rows e sz)):Later own I V w ((k,.vw rows e sz)::own) I V w:=by
 obtain⟨q1,rs,q2,q3⟩:=h.each k _ hk
 exact Cj (w':=w) h hk rfl rfl rfl rfl (fun _ _=>rfl) ⟨q1,rs,Nl q2,q3⟩
theorem Xi (h:Has I V own w){kb k lo hi:Nat}{p q:List G}{ty e sz:Nat}{rows:List (List G)}(hb:look kb own=some (.blk (p++.osv k sz lo hi::q) ty))(hk:look k own=some (.vw rows e sz))(hlo:lo≤hi∧hi=rows.length):∃V',V'.n=V.n+1∧Later own I V w ((kb,.blk (p++.osl V.n::q) ty)::(V.n,.vw (rows.drop lo) e sz)::(k,.gone)::own) I V' w:=by
 have hkn:=h.num k _ hk
 have hbn:=h.num kb _ hb
 have hbk:kb≠k:=fun e=>by rw[e,hk] at hb;cases hb
 let V2:Va:=⟨V.n+1,fun x=>if x=V.n then V.b k else V.b x,fun x=>if x=V.n then Gx sz (V.s k) lo hi else V.s x,fun x=>if x=V.n then V.f k else if x=k then fun _=>False else V.f x⟩
 have fn:V2.f V.n=V.f k:=if_pos rfl
 have fk:V2.f k=fun _=>False:=by show(if k=V.n then _ else if k=k then _ else _)=_;rw[if_neg (by omega),if_pos rfl]
 have fo:∀x,x≠V.n→x≠k→V2.f x=V.f x:=fun x h1 h2=>by show(if x=V.n then _ else if x=k then _ else _)=_;rw[if_neg h1,if_neg h2]
 have hle:V.le V2:=⟨Nat.le_succ _,fun x hx=>⟨if_neg (by omega),if_neg (by omega)⟩⟩
 have lk:∀{x r},look x ((kb,R.blk (p++.osl V.n::q) ty)::(V.n,.vw (rows.drop lo) e sz)::(k,.gone)::own)=some r→(x=kb∧r=.blk (p++.osl V.n::q) ty)∨(x=V.n∧r=.vw (rows.drop lo) e sz)∨(x=k∧r=.gone)∨(x≠kb∧x≠V.n∧x≠k∧look x own=some r):=fun {x r} hx=>by
  rw[A3] at hx
  split at hx
  ·next e1=>cases hx;exact .inl ⟨e1,rfl⟩
  ·next e1 =>
   rw[A3] at hx
   split at hx
   ·next e2=>cases hx;exact .inr (.inl ⟨e2,rfl⟩)
   ·next e2 =>
    rw[A3] at hx
    split at hx
    ·next e3=>cases hx;exact .inr (.inr (.inl ⟨e3,rfl⟩))
    ·next e3=>exact .inr (.inr (.inr ⟨e1,e2,e3,hx⟩))
 refine⟨V2,rfl,If h hle (fun x r hx=>?_) (fun x r hx=>?_) (fun x r c hx hc=>?_) fun x x' r r' c hx hx' hc hc'=>?_⟩
 ·rcases lk hx with⟨e,-⟩ | ⟨e,-⟩ | ⟨e,-⟩ | ⟨-,-,-,e3⟩
  ·rw[e];exact Nat.lt_succ_of_lt hbn
  ·rw[e];exact Nat.lt_succ_self _
  ·rw[e];exact Nat.lt_succ_of_lt hkn
  ·exact Nat.lt_succ_of_lt (h.num x r e3)
 ·rcases lk hx with⟨e1,rfl⟩ | ⟨e1,rfl⟩ | ⟨e1,rfl⟩ | ⟨e1,e2,e3,e4⟩
  ·rw[e1]
   obtain⟨q1,us,q2,q3⟩:=h.each kb _ hb
   have fb:V2.f kb=V.f kb:=fo kb (by omega) hbk
   have bb:V2.b kb=V.b kb:=if_neg (by omega)
   refine⟨fun b=>by rw[fb,bb];exact q1 b,us,by rw[bb];exact q2,by have:=q3.1;simpa using this,fun j g u hg hu=>?_⟩
   by_cases hj:j=p.length
   ·subst hj
    rw[List.getElem?_append_right (Nat.le_refl _),Nat.sub_self] at hg
    obtain rfl:G.osl V.n=g:=by simpa using hg
    have h3:=q3.2 p.length (.osv k sz lo hi) u (by rw[List.getElem?_append_right (Nat.le_refl _),Nat.sub_self];rfl) hu
    exact⟨Nat.lt_succ_self _,by rw[h3.2.2];exact(if_pos rfl).symm⟩
   ·refine CRep.mono (q3.2 j g u ?_ hu) (.refl _) hle
    by_cases hlt:j < p.length
    ·rw[List.getElem?_append_left hlt] at hg⊢;exact hg
    ·rw[List.getElem?_append_right (by omega)] at hg⊢
     obtain⟨i,hi⟩:∃i,j - p.length=i+1:=⟨j - p.length - 1,by omega⟩
     rw[hi] at hg⊢
     simpa using hg
  ·rw[e1]
   have hs:V2.s V.n=Gx sz (V.s k) lo hi:=if_pos rfl
   obtain⟨q1,rs,q2,q3,q4,q5,q6,q7⟩:=h.each k _ hk
   refine⟨fun b=>by rw[fn,hs,q1 b,Y7 q2 hlo.1 (by omega)],rs.drop lo,by rw[hs];exact Yn q2 q3 q5 hlo,by rw[List.length_drop,List.length_drop,q3],fun i r u hr hu=>q4 (lo+i) r u (by rw[List.getElem?_drop] at hr;exact hr) (by rw[List.getElem?_drop] at hu;exact hu),fun u hu=>q5 u (List.mem_of_mem_drop hu),fun u hu=>q6 u (List.mem_of_mem_drop hu),q7⟩
  ·show ∀c,¬V2.f x c
   rw[e1,fk];exact fun c hc=>hc
  ·exact(h.each x r e4).keep (.refl _) hle (h.num x r e4) (fo x e2 e3) rfl (Nat.le_refl _) fun _ _=>rfl
 ·rcases lk hx with⟨e1,-⟩ | ⟨e1,-⟩ | ⟨e1,-⟩ | ⟨e1,e2,e3,e4⟩
  ·rw[e1,fo kb (by omega) hbk] at hc;exact⟨kb,_,hb,hc⟩
  ·rw[e1,fn] at hc;exact⟨k,_,hk,hc⟩
  ·rw[e1,fk] at hc;exact hc.elim
  ·rw[fo x e2 e3] at hc;exact⟨x,r,e4,hc⟩
 ·have src:∀{x r},look x ((kb,R.blk (p++.osl V.n::q) ty)::(V.n,.vw (rows.drop lo) e sz)::(k,.gone)::own)=some r→V2.f x c→∃y ry,look y own=some ry∧V.f y c∧((x=V.n∧y=k)∨(x≠V.n∧x≠k∧y=x)):=fun {x r} hx hc=>by
   rcases lk hx with⟨e1,-⟩ | ⟨e1,-⟩ | ⟨e1,-⟩ | ⟨e1,e2,e3,e4⟩
   ·rw[e1,fo kb (by omega) hbk] at hc
    exact⟨kb,_,hb,hc,.inr ⟨by omega,by rw[e1];exact hbk,e1.symm⟩⟩
   ·rw[e1,fn] at hc;exact⟨k,_,hk,hc,.inl ⟨e1,rfl⟩⟩
   ·rw[e1,fk] at hc;exact hc.elim
   ·rw[fo x e2 e3] at hc;exact⟨x,r,e4,hc,.inr ⟨e2,e3,rfl⟩⟩
  obtain⟨y,ry,h1,h2,h3⟩:=src hx hc
  obtain⟨y',ry',h1',h2',h3'⟩:=src hx' hc'
  have hyy:=h.disj y y' _ _ c h1 h1' h2 h2'
  rcases h3 with⟨e1,e2⟩ | ⟨e1,e2,e3⟩<;>rcases h3' with⟨e1',e2'⟩ | ⟨e1',e2',e3'⟩
  ·rw[e1,e1']
  ·exact absurd (by rw[←e3',←hyy,e2]) e2'
  ·exact absurd (by rw[←e3,hyy,e2']) e2
  ·rw[←e3,←e3',hyy]
theorem Z4q:Loc Sz:=fun _ _ _ _ _ _ h _ _ _ _=>h
theorem Wr (h:Has I V own w){j i:Nat}{ps:List Ob}{p:Ob}(hj:look j own=some (.fam ps))(hi:ps[i]?=some p):∃V',V'.n=V.n+1∧Later own I V w ((V.n,.abs p)::(j,.fam (ps.set i Sz))::own) I V' w:=by
 obtain⟨q1,F,q2,q3,q4⟩:=h.each j _ hj
 obtain⟨b,hb⟩:=q4 i p hi
 have hil:=(List.getElem?_eq_some_iff.1 hi).1
 have hjn:=h.num j _ hj
 let V2:Va:=⟨V.n+1,fun k=>if k=V.n then b else V.b k,fun k=>if k=V.n then undef else V.s k,fun k=>if k=V.n then F i else if k=j then fun c=>∃a,a < ps.length∧a≠i∧F a c else V.f k⟩
 have fn:V2.f V.n=F i:=if_pos rfl
 have fj:V2.f j=fun c=>∃a,a < ps.length∧a≠i∧F a c:=by show(if j=V.n then _ else if j=j then _ else _)=_;rw[if_neg (by omega),if_pos rfl]
 have fo:∀k,k≠V.n→k≠j→V2.f k=V.f k:=fun k h1 h2=>by show(if k=V.n then _ else if k=j then _ else _)=_;rw[if_neg h1,if_neg h2]
 have hle:V.le V2:=⟨Nat.le_succ _,fun k hk=>⟨if_neg (by omega),if_neg (by omega)⟩⟩
 have lk:∀{k r},look k ((V.n,R.abs p)::(j,.fam (ps.set i Sz))::own)=some r→(k=V.n∧r=.abs p)∨(k=j∧r=.fam (ps.set i Sz))∨(k≠V.n∧k≠j∧look k own=some r):=fun {k r} hk=>by
  rw[A3] at hk
  split at hk
  ·next e=>cases hk;exact .inl ⟨e,rfl⟩
  ·next e =>
   rw[A3] at hk
   split at hk
   ·next e2=>cases hk;exact .inr (.inl ⟨e2,rfl⟩)
   ·next e2=>exact .inr (.inr ⟨e,e2,hk⟩)
 refine⟨V2,rfl,If h hle (fun k r hk=>?_) (fun k r hk=>?_) (fun k r c hk hc=>?_) fun k k' r r' c hk hk' hc hc'=>?_⟩
 ·rcases lk hk with⟨e,-⟩ | ⟨e,-⟩ | ⟨-,-,e3⟩
  ·rw[e];exact Nat.lt_succ_self _
  ·rw[e];exact Nat.lt_succ_of_lt hjn
  ·exact Nat.lt_succ_of_lt (h.num k r e3)
 ·rcases lk hk with⟨e,rfl⟩ | ⟨e,rfl⟩ | ⟨e1,e2,e3⟩
  ·rw[e]
   refine⟨q1 p (List.mem_of_getElem? hi),?_⟩
   rw[fn,show V2.b V.n=b from if_pos rfl]
   exact hb
  ·rw[e]
   refine⟨fun q hq=>?_,fun a c=>a≠i∧F a c,fun c=>?_,fun a a' c ha ha' hc hc'=>?_,fun a q hq=>?_⟩
   ·rcases List.mem_or_eq_of_mem_set hq with hq | rfl
    ·exact q1 q hq
    ·exact Z4q
   ·rw[fj,List.length_set]
   ·rw[List.length_set] at ha ha'
    exact q3 a a' c ha ha' hc.2 hc'.2
   ·rw[List.getElem?_set] at hq
    split at hq
    ·next e =>
     obtain rfl:Sz=q:=by simpa using hq
     exact⟨0,fun c hc=>hc.1 e.symm⟩
    ·next e =>
     obtain⟨b',hb'⟩:=q4 a q hq
     refine⟨b',?_⟩
     have e2:(fun c=>a≠i∧F a c)=F a:=by funext c;exact propext ⟨fun h=>h.2,fun h=>⟨fun e3=>e e3.symm,h⟩⟩
     show q I b' (fun c=>a≠i∧F a c) w
     rw[e2];exact hb'
  ·exact(h.each k r e3).keep (.refl _) hle (h.num k r e3) (fo k e1 e2) rfl (Nat.le_refl _) fun _ _=>rfl
 ·rcases lk hk with⟨e,-⟩ | ⟨e,-⟩ | ⟨e1,e2,e3⟩
  ·rw[e,fn] at hc;exact⟨j,_,hj,(q2 c).2 ⟨i,hil,hc⟩⟩
  ·rw[e,fj] at hc
   obtain⟨a,h1,-,h2⟩:=hc
   exact⟨j,_,hj,(q2 c).2 ⟨a,h1,h2⟩⟩
  ·rw[fo k e1 e2] at hc;exact⟨k,r,e3,hc⟩
 ·have cross:∀{k r c},k≠j→look k own=some r→V.f k c→(∃a,a < ps.length∧F a c)→False:=fun {k r c} h1 h2 h3 h4=>h1 (h.disj k j _ _ c h2 hj h3 ((q2 c).2 h4))
  rcases lk hk with⟨e,-⟩ | ⟨e,-⟩ | ⟨e1,e2,e3⟩<;>rcases lk hk' with⟨e',-⟩ | ⟨e',-⟩ | ⟨e1',e2',e3'⟩
  ·rw[e,e']
  ·rw[e,fn] at hc
   rw[e',fj] at hc'
   obtain⟨a,h1,h2,h3⟩:=hc'
   exact absurd (q3 a i c h1 hil h3 hc) h2
  ·rw[e,fn] at hc
   rw[fo k' e1' e2'] at hc'
   exact(cross e2' e3' hc' ⟨i,hil,hc⟩).elim
  ·rw[e',fn] at hc'
   rw[e,fj] at hc
   obtain⟨a,h1,h2,h3⟩:=hc
   exact absurd (q3 a i c h1 hil h3 hc') h2
  ·rw[e,e']
  ·rw[e,fj] at hc
   rw[fo k' e1' e2'] at hc'
   obtain⟨a,h1,-,h3⟩:=hc
   exact(cross e2' e3' hc' ⟨a,h1,h3⟩).elim
  ·rw[fo k e1 e2] at hc
   rw[e',fn] at hc'
   exact(cross e2 e3 hc ⟨i,hil,hc'⟩).elim
  ·rw[fo k e1 e2] at hc
   rw[e',fj] at hc'
   obtain⟨a,h1,-,h3⟩:=hc'
   exact(cross e2 e3 hc ⟨a,h1,h3⟩).elim
  ·rw[fo k e1 e2] at hc
   rw[fo k' e1' e2'] at hc'
   exact h.disj k k' r r' c e3 e3' hc hc'
theorem Yt (h:Has I V own w){j k b:Nat}(hj:look j own=some (.adr k b)):Later own I V w ((V.n,.adr k b)::own) I (V.push 0 undef fun _=>False) w:=by
 obtain⟨-,hkn,hb⟩:=h.each j _ hj
 exact Jb h ⟨fun c hc=>by simp[Va.push] at hc,by show k < V.n+1;omega,by simp[Va.push,Nat.ne_of_lt hkn];exact hb⟩
theorem Ws (h:Has I V own w){m k j1 j2 b:Nat}{p:Ob}(hm:look m own=some (.abs p))(hk:look k own=some .gone)(h1:look j1 own=some (.adr m b))(h2:look j2 own=some (.adr k b)):∃V',V'.n=V.n∧Later own I V w ((k,.abs p)::(m,.gone)::own) I V' w:=by
 obtain⟨-,hmn,hb1⟩:=h.each j1 _ h1
 obtain⟨-,hkn,hb2⟩:=h.each j2 _ h2
 obtain⟨p1,p2⟩:=h.each m _ hm
 have hmk:k≠m:=fun e=>by rw[e,hm] at hk;cases hk
 let V2:Va:=⟨V.n,V.b,V.s,fun x=>if x=k then V.f m else if x=m then fun _=>False else V.f x⟩
 have fk:V2.f k=V.f m:=if_pos rfl
 have fm:V2.f m=fun _=>False:=by show(if m=k then _ else if m=m then _ else _)=_;rw[if_neg (fun e=>hmk e.symm),if_pos rfl]
 have fo:∀x,x≠k→x≠m→V2.f x=V.f x:=fun x h1 h2=>by show(if x=k then _ else if x=m then _ else _)=_;rw[if_neg h1,if_neg h2]
 have hle:V.le V2:=⟨Nat.le_refl _,fun k hk=>⟨rfl,rfl⟩⟩
 have lk:∀{x r},look x ((k,R.abs p)::(m,.gone)::own)=some r→(x=k∧r=.abs p)∨(x=m∧r=.gone)∨(x≠k∧x≠m∧look x own=some r):=fun {x r} hx=>by
  rw[A3] at hx
  split at hx
  ·next e=>cases hx;exact .inl ⟨e,rfl⟩
  ·next e =>
   rw[A3] at hx
   split at hx
   ·next e2=>cases hx;exact .inr (.inl ⟨e2,rfl⟩)
   ·next e2=>exact .inr (.inr ⟨e,e2,hx⟩)
 refine⟨V2,rfl,If h hle (fun x r hx=>?_) (fun x r hx=>?_) (fun x r c hx hc=>?_) fun x x' r r' c hx hx' hc hc'=>?_⟩
 ·rcases lk hx with⟨e,-⟩ | ⟨e,-⟩ | ⟨-,-,e3⟩
  ·rw[e];exact hkn
  ·rw[e];exact hmn
  ·exact h.num x r e3
 ·rcases lk hx with⟨e,rfl⟩ | ⟨e,rfl⟩ | ⟨e1,e2,e3⟩
  ·rw[e]
   refine⟨p1,?_⟩
   rw[fk,show V2.b k=V.b m from hb2.trans hb1.symm]
   exact p2
  ·show ∀c,¬V2.f x c
   rw[e,fm];exact fun c hc=>hc
  ·exact(h.each x r e3).keep (.refl _) hle (h.num x r e3) (fo x e1 e2) rfl (Nat.le_refl _) fun _ _=>rfl
 ·rcases lk hx with⟨e,-⟩ | ⟨e,-⟩ | ⟨e1,e2,e3⟩
  ·rw[e,fk] at hc;exact⟨m,_,hm,hc⟩
  ·rw[e,fm] at hc;exact hc.elim
  ·rw[fo x e1 e2] at hc;exact⟨x,r,e3,hc⟩
 ·rcases lk hx with⟨e,-⟩ | ⟨e,-⟩ | ⟨e1,e2,e3⟩<;>rcases lk hx' with⟨e',-⟩ | ⟨e',-⟩ | ⟨e1',e2',e3'⟩
  ·rw[e,e']
  ·rw[e',fm] at hc';exact hc'.elim
  ·rw[e,fk] at hc
   rw[fo x' e1' e2'] at hc'
   exact absurd (h.disj m x' _ _ c hm e3' hc hc') (fun e=>e2' e.symm)
  ·rw[e,fm] at hc;exact hc.elim
  ·rw[e,e']
  ·rw[e,fm] at hc;exact hc.elim
  ·rw[fo x e1 e2] at hc
   rw[e',fk] at hc'
   exact absurd (h.disj x m _ _ c e3 hm hc hc') e2
  ·rw[e',fm] at hc';exact hc'.elim
  ·rw[fo x e1 e2] at hc
   rw[fo x' e1' e2'] at hc'
   exact h.disj x x' r r' c e3 e3' hc hc'
theorem Zk (h:Has I V own w){j i k:Nat}{ps:List Ob}{p:Ob}(hj:look j own=some (.fam ps))(hi:i < ps.length)(hk:look k own=some (.abs p)):∃V',V'.n=V.n∧Later own I V w ((j,.fam (ps.set i p))::(k,.gone)::own) I V' w:=by
 obtain⟨q1,F,q2,q3,q4⟩:=h.each j _ hj
 obtain⟨p1,p2⟩:=h.each k _ hk
 have hjk:j≠k:=fun e=>by rw[e,hk] at hj;cases hj
 have hjn:=h.num j _ hj
 have hkn:=h.num k _ hk
 let V2:Va:=⟨V.n,V.b,V.s,fun x=>if x=j then fun c=>∃a,a < ps.length∧(if a=i then V.f k c else F a c) else if x=k then fun _=>False else V.f x⟩
 have fj:V2.f j=fun c=>∃a,a < ps.length∧(if a=i then V.f k c else F a c):=if_pos rfl
 have fk:V2.f k=fun _=>False:=by show(if k=j then _ else if k=k then _ else _)=_;rw[if_neg (fun e=>hjk e.symm),if_pos rfl]
 have fo:∀x,x≠j→x≠k→V2.f x=V.f x:=fun x h1 h2=>by show(if x=j then _ else if x=k then _ else _)=_;rw[if_neg h1,if_neg h2]
 have hle:V.le V2:=⟨Nat.le_refl _,fun k hk=>⟨rfl,rfl⟩⟩
 have lk:∀{x r},look x ((j,R.fam (ps.set i p))::(k,.gone)::own)=some r→(x=j∧r=.fam (ps.set i p))∨(x=k∧r=.gone)∨(x≠j∧x≠k∧look x own=some r):=fun {x r} hx=>by
  rw[A3] at hx
  split at hx
  ·next e=>cases hx;exact .inl ⟨e,rfl⟩
  ·next e =>
   rw[A3] at hx
   split at hx
   ·next e2=>cases hx;exact .inr (.inl ⟨e2,rfl⟩)
   ·next e2=>exact .inr (.inr ⟨e,e2,hx⟩)
 have inJ:∀{a c},a < ps.length→(if a=i then V.f k c else F a c)→V.f k c∨V.f j c:=fun {a c} ha hc=>by
  split at hc
  ·exact .inl hc
  ·exact .inr ((q2 c).2 ⟨a,ha,hc⟩)
 refine⟨V2,rfl,If h hle (fun x r hx=>?_) (fun x r hx=>?_) (fun x r c hx hc=>?_) fun x x' r r' c hx hx' hc hc'=>?_⟩
 ·rcases lk hx with⟨e,-⟩ | ⟨e,-⟩ | ⟨-,-,e3⟩
  ·rw[e];exact hjn
  ·rw[e];exact hkn
  ·exact h.num x r e3
 ·rcases lk hx with⟨e,rfl⟩ | ⟨e,rfl⟩ | ⟨e1,e2,e3⟩
  ·rw[e]
   refine⟨fun q hq=>?_,fun a c=>if a=i then V.f k c else F a c,fun c=>?_,fun a a' c ha ha' hc hc'=>?_,fun a q hq=>?_⟩
   ·rcases List.mem_or_eq_of_mem_set hq with hq | rfl
    ·exact q1 q hq
    ·exact p1
   ·rw[fj,List.length_set]
   ·rw[List.length_set] at ha ha'
    split at hc<;>split at hc'
    ·next e1 e2=>rw[e1,e2]
    ·exact absurd (h.disj j k _ _ c hj hk ((q2 c).2 ⟨a',ha',hc'⟩) hc) hjk
    ·exact absurd (h.disj j k _ _ c hj hk ((q2 c).2 ⟨a,ha,hc⟩) hc') hjk
    ·exact q3 a a' c ha ha' hc hc'
   ·rw[List.getElem?_set] at hq
    split at hq
    ·next e =>
     obtain rfl:p=q:=by simpa using hq
     refine⟨V.b k,?_⟩
     have e2:(fun c=>if a=i then V.f k c else F a c)=V.f k:=by funext c;rw[if_pos e.symm]
     show p I (V.b k) (fun c=>if a=i then V.f k c else F a c) w
     rw[e2];exact p2
    ·next e =>
     obtain⟨b',hb'⟩:=q4 a q hq
     refine⟨b',?_⟩
     have e2:(fun c=>if a=i then V.f k c else F a c)=F a:=by funext c;rw[if_neg (fun e3=>e e3.symm)]
     show q I b' (fun c=>if a=i then V.f k c else F a c) w
     rw[e2];exact hb'
  ·show ∀c,¬V2.f x c
   rw[e,fk];exact fun c hc=>hc
  ·exact(h.each x r e3).keep (.refl _) hle (h.num x r e3) (fo x e1 e2) rfl (Nat.le_refl _) fun _ _=>rfl
 ·rcases lk hx with⟨e,-⟩ | ⟨e,-⟩ | ⟨e1,e2,e3⟩
  ·rw[e,fj] at hc
   obtain⟨a,h1,h2⟩:=hc
   rcases inJ h1 h2 with h3 | h3
   ·exact⟨k,_,hk,h3⟩
   ·exact⟨j,_,hj,h3⟩
  ·rw[e,fk] at hc;exact hc.elim
  ·rw[fo x e1 e2] at hc;exact⟨x,r,e3,hc⟩
 ·have cross:∀{x r c},x≠j→x≠k→look x own=some r→V.f x c→(∃a,a < ps.length∧(if a=i then V.f k c else F a c))→False:=fun {x r c} h0 h1 h2 h3 ⟨a,h4,h5⟩=>by
   rcases inJ h4 h5 with h6 | h6
   ·exact h1 (h.disj x k _ _ c h2 hk h3 h6)
   ·exact h0 (h.disj x j _ _ c h2 hj h3 h6)
  rcases lk hx with⟨e,-⟩ | ⟨e,-⟩ | ⟨e1,e2,e3⟩<;>rcases lk hx' with⟨e',-⟩ | ⟨e',-⟩ | ⟨e1',e2',e3'⟩
  ·rw[e,e']
  ·rw[e',fk] at hc';exact hc'.elim
  ·rw[e,fj] at hc
   rw[fo x' e1' e2'] at hc'
   exact(cross e1' e2' e3' hc' hc).elim
  ·rw[e,fk] at hc;exact hc.elim
  ·rw[e,e']
  ·rw[e,fk] at hc;exact hc.elim
  ·rw[fo x e1 e2] at hc
   rw[e',fj] at hc'
   exact(cross e1 e2 e3 hc hc').elim
  ·rw[e',fk] at hc';exact hc'.elim
  ·rw[fo x e1 e2] at hc
   rw[fo x' e1' e2'] at hc'
   exact h.disj x x' r r' c e3 e3' hc hc'
theorem Q6 {n:Nat}{K:Os→Nat→Prop}(hg:Gh K own n):∀{V:Va},V.n=n→Has I V own w→∃own' I' V',K own' V'.n∧Later own I V w own' I' V' w:=by
 induction hg generalizing I with
 | done hk=>exact fun {V} hn h=>⟨_,I,V,by rw[hn];exact hk,.refl h⟩
 | nil k p q ty e sz hk hz _ ih =>
  intro V hn h
  subst hn
  have h1:=Z6 (e:=e) h hk hz
  obtain⟨o,I',V',h2,h3⟩:=ih (V:=V.push 0 (.slice none 0 0) fun _=>False) rfl h1.has
  exact⟨o,I',V',h2,h1.trans h3⟩
 | close O m hO h0 hd _ ih =>
  intro V hn h
  subst hn
  obtain⟨f,h1⟩:=S1 h hO h0 hd
  obtain⟨o,I',V',h2,h3⟩:=ih (V:=⟨V.n,V.b,V.s,f⟩) rfl h1.has
  exact⟨o,I',V',h2,h1.trans h3⟩
 | opn k cs ty rs hk hb hs _ ih =>
  intro V hn h
  subst hn
  obtain⟨V1,e1,h1⟩:=Xa h hk hb hs
  obtain⟨o,I',V',h2,h3⟩:=ih (V:=V1) e1 h1.has
  exact⟨o,I',V',h2,h1.trans h3⟩
 | adr k r hk _ ih =>
  intro V hn h
  subst hn
  have h1:=R6 h hk
  obtain⟨o,I',V',h2,h3⟩:=ih (V.b k) (V:=V.push 0 undef fun _=>False) rfl h1.has
  exact⟨o,I',V',h2,h1.trans h3⟩
 | lies k B p hk hp _ ih =>
  intro V hn h
  subst hn
  have h1:=R6 h hk
  rw[hp _ _ _ _ (h.each k _ hk).2] at h1
  obtain⟨o,I',V',h2,h3⟩:=ih (V:=V.push 0 undef fun _=>False) rfl h1.has
  exact⟨o,I',V',h2,h1.trans h3⟩
 | fam _ ih =>
  intro V hn h
  subst hn
  have h1:=Z2h h
  obtain⟨o,I',V',h2,h3⟩:=ih (V:=V.push 0 undef fun _=>False) rfl h1.has
  exact⟨o,I',V',h2,h1.trans h3⟩
 | adopt j k ps p hj hk _ ih =>
  intro V hn h
  subst hn
  have h1:=T4 h hj hk
  obtain⟨o,I',V',h2,h3⟩:=ih (V:=⟨V.n,V.b,V.s,fun i=>if i=j then fun c=>V.f j c∨V.f k c else if i=k then fun _=>False else V.f i⟩) rfl h1.has
  exact⟨o,I',V',h2,h1.trans h3⟩
 | frz k rows e sz hk _ ih =>
  intro V hn h
  subst hn
  obtain⟨I1,h1,-,-⟩:=E9 h hk
  obtain⟨o,I',V',h2,h3⟩:=ih (V:=V.drop k) rfl h1.has
  exact⟨o,I',V',h2,h1.trans h3⟩
 | rnm kb k p q ty rows e sz hb hk _ ih =>
  intro V hn h
  subst hn
  obtain⟨V1,e1,h1⟩:=Z04 h hb hk
  obtain⟨o,I',V',h2,h3⟩:=ih (V:=V1) e1 h1.has
  exact⟨o,I',V',h2,h1.trans h3⟩
 | dup j k b hj _ ih =>
  intro V hn h
  subst hn
  have h1:=Yt h hj
  obtain⟨o,I',V',h2,h3⟩:=ih (V:=V.push 0 undef fun _=>False) rfl h1.has
  exact⟨o,I',V',h2,h1.trans h3⟩
 | move m k j1 j2 b p hm hk h1 h2 _ ih =>
  intro V hn h
  subst hn
  obtain⟨V1,e1,h3⟩:=Ws h hm hk h1 h2
  obtain⟨o,I',V',h4,h5⟩:=ih (V:=V1) e1 h3.has
  exact⟨o,I',V',h4,h3.trans h5⟩
 | take j i ps p hj hi _ ih =>
  intro V hn h
  subst hn
  obtain⟨V1,e1,h1⟩:=Wr h hj hi
  obtain⟨o,I',V',h2,h3⟩:=ih (V:=V1) e1 h1.has
  exact⟨o,I',V',h2,h1.trans h3⟩
 | put j i k ps p hj hi hk _ ih =>
  intro V hn h
  subst hn
  obtain⟨V1,e1,h1⟩:=Zk h hj hi hk
  obtain⟨o,I',V',h2,h3⟩:=ih (V:=V1) e1 h1.has
  exact⟨o,I',V',h2,h1.trans h3⟩
 | view k rows e sz hk _ ih =>
  intro V hn h
  subst hn
  have h1:=Xm h hk
  obtain⟨o,I',V',h2,h3⟩:=ih (V:=V) rfl h1.has
  exact⟨o,I',V',h2,h1.trans h3⟩
 | tail kb k lo hi p q ty rows e sz hb hk hl _ ih =>
  intro V hn h
  subst hn
  obtain⟨V1,e1,h1⟩:=Xi h hb hk hl
  obtain⟨o,I',V',h2,h3⟩:=ih (V:=V1) e1 h1.has
  exact⟨o,I',V',h2,h1.trans h3⟩
 | seen k cs ty hk _ ih =>
  intro V hn h
  subst hn
  have h1:=Wa h hk
  obtain⟨o,I',V',h2,h3⟩:=ih (V:=V) rfl h1.has
  exact⟨o,I',V',h2,h1.trans h3⟩
 | drop k r hk _ ih =>
  intro V hn h
  subst hn
  have h1:=Fe (r:=.gone) h hk (.refl _) h.mem (fun _ _ _=>rfl) (fun b=>by simp[Va.drop])
  obtain⟨o,I',V',h2,h3⟩:=ih (V:=V.drop k) rfl h1.has
  exact⟨o,I',V',h2,h1.trans h3⟩
end
end Go.Proofs.YtihfaocdpmmooaaGreat
namespace Go.Proofs.YtihfaocdpmmooaaGreat
open Go.RowKit
def inC (k:Nat):G→Prop
 | .ptr j _ | .osl j | .osv j _ _ _ | .oel j _ _ _ | .mp j=>j=k
 | _=>False
def in1 (k:Nat):G→Prop
 | .oag l=>∃g∈l,inC k g
 | .clo _ a c=>∃g,(g∈a∨g∈c)∧inC k g
 | g=>inC k g
def Gath (F:List Nat→(List Nat→Prop)→Prop)(p:Nat→Prop):Prop:=∀l:List Nat,∃l':List Nat,(∀K:List Nat→Prop,F l K=K l')∧(∀j,j∈l→j∈l')∧(∀j,p j→j∈l')∧(l.Nodup→l'.Nodup)
theorem Gath.none:Gath (fun l K=>K l) (fun _=>False):=fun l=>⟨l,fun _=>rfl,fun _ h=>h,fun _ h=>h.elim,fun h=>h⟩
theorem Gath.seq {F F':List Nat→(List Nat→Prop)→Prop}{p p':Nat→Prop}(h:Gath F p)(h':Gath F' p'):Gath (fun l K=>F l fun l=>F' l K) (fun j=>p j∨p' j):=fun l=>by
 obtain⟨l1,a1,a2,a3,a4⟩:=h l
 obtain⟨l2,b1,b2,b3,b4⟩:=h' l1
 exact⟨l2,fun K=>(a1 _).trans (b1 K),fun j hj=>b2 j (a2 j hj),fun j hj=>hj.elim (fun h=>b2 j (a3 j h)) (fun h=>b3 j h),fun hn=>b4 (a4 hn)⟩
theorem Gath.sub {F:List Nat→(List Nat→Prop)→Prop}{p p':Nat→Prop}(h:Gath F p)(hp:∀j,p' j→p j):Gath F p':=fun l=>by
 obtain⟨l1,a1,a2,a3,a4⟩:=h l
 exact⟨l1,a1,a2,fun j hj=>a3 j (hp j hj),a4⟩
theorem Gw (k:Nat):Gath (fun l K=>H7 k l K) (fun j=>j=k):=fun l=>by
 induction l with
 | nil=>exact⟨[k],fun _=>rfl,fun j h=>by simp at h,fun j h=>by simp[h],fun _=>by simp⟩
 | cons i l ih =>
  obtain⟨l',h1,h2,h3,h4⟩:=ih
  have hsub:∀j,j∈l'→j∈l∨j=k:=by
   have:∀(l:List Nat) (l':List Nat),(∀K:List Nat→Prop,H7 k l K=K l')→∀j,j∈l'→j∈l∨j=k:=fun l=>by
    induction l with
    | nil=>intro l' h j hj;have e:=h (fun r=>r=[k]);simp[H7] at e;rw[e] at hj;exact .inr (by simpa using hj)
    | cons i l ih =>
     intro l' h j hj
     cases hb:Nat.beq k i with
     | true =>
      have e:=h (fun r=>r=i::l)
      unfold H7 at e
      rw[hb] at e
      simp at e
      rw[e] at hj
      exact .inl hj
     | false =>
      have e:∃r,l'=i::r∧∀K:List Nat→Prop,H7 k l K=K r:=by
       have key:∀l:List Nat,∃r,∀K:List Nat→Prop,H7 k l K=K r:=fun l=>by
        induction l with
        | nil=>exact⟨[k],fun _=>rfl⟩
        | cons i l ih =>
         obtain⟨r,hr⟩:=ih
         cases hb:Nat.beq k i with
         | true=>exact⟨i::l,fun K=>by unfold H7;rw[hb]⟩
         | false=>exact⟨i::r,fun K=>by unfold H7;rw[hb];exact hr _⟩
       obtain⟨r,hr⟩:=key l
       refine⟨r,?_,hr⟩
       have e:=h (fun q=>q=i::r)
       unfold H7 at e
       rw[hb] at e
       dsimp only at e
       rw[hr] at e
       simp at e
       exact e
      obtain⟨r,rfl,hr⟩:=e
      rcases List.mem_cons.1 hj with rfl | hj
      ·exact .inl (by simp)
      ·exact(ih r hr j hj).imp (fun h=>by simp[h]) id
   exact this l l' h1
  cases hb:Nat.beq k i with
  | true =>
   have:=Nat.eq_of_beq_eq_true hb
   subst this
   exact⟨k::l,fun K=>by show H7 k (k::l) K=_;unfold H7;rw[hb],fun j hj=>hj,fun j hj=>by simp[hj],fun h=>h⟩
  | false =>
   refine⟨i::l',fun K=>by show H7 k (i::l) K=_;unfold H7;rw[hb];exact h1 _,fun j hj=>?_,fun j hj=>by simp[h3 j hj],fun h=>?_⟩
   ·rcases List.mem_cons.1 hj with rfl | hj
    ·simp
    ·simp[h2 j hj]
   ·have hn:=List.nodup_cons.1 h
    refine List.nodup_cons.2 ⟨fun hm=>?_,h4 hn.2⟩
    rcases hsub i hm with h | h
    ·exact hn.1 h
    ·subst h;rw[Nat.beq_refl] at hb;cases hb
theorem Mu (g:G):Gath (fun l K=>gkC g l K) (fun j=>inC j g):=by
 cases g with
 | ptr k o=>exact(Gw k).sub fun j h=>Eq.symm h
 | osl k=>exact(Gw k).sub fun j h=>Eq.symm h
 | osv k a b c=>exact(Gw k).sub fun j h=>Eq.symm h
 | oel k a b c=>exact(Gw k).sub fun j h=>Eq.symm h
 | mp k=>exact(Gw k).sub fun j h=>Eq.symm h
 | _=>exact Gath.none.sub fun j h=>h
theorem Li:∀l:List G,Gath (fun ks K=>Z7u l ks K) (fun j=>∃g∈l,inC j g)
 | []=>Gath.none.sub fun j h=>by simp at h
 | g::l=>((Mu g).seq (Li l)).sub fun j ⟨g',h,hk⟩=>by
  rcases List.mem_cons.1 h with rfl | h
  ·exact .inl hk
  ·exact .inr ⟨g',h,hk⟩
theorem Zaq (g:G):Gath (fun l K=>gk1 g l K) (fun j=>in1 j g):=by
 cases g with
 | oag l=>exact Li l
 | clo f a c=>exact((Li a).seq (Li c)).sub fun j ⟨g,h,hk⟩=>h.imp (fun h=>⟨g,h,hk⟩) (fun h=>⟨g,h,hk⟩)
 | ptr k o=>exact Mu (.ptr k o)
 | osl k=>exact Mu (.osl k)
 | osv k a b c=>exact Mu (.osv k a b c)
 | oel k a b c=>exact Mu (.oel k a b c)
 | mp k=>exact Mu (.mp k)
 | _=>exact Gath.none.sub fun j h=>h
theorem Z76:∀l:List G,Gath (fun ks K=>gkL l ks K) (fun j=>∃g∈l,in1 j g)
 | []=>Gath.none.sub fun j h=>by simp at h
 | g::l=>((Zaq g).seq (Z76 l)).sub fun j ⟨g',h,hk⟩=>by
  rcases List.mem_cons.1 h with rfl | h
  ·exact .inl hk
  ·exact .inr ⟨g',h,hk⟩
theorem J1 {k:Nat}:∀{ks:List Nat} {j:Nat},k∈ks→∃i,look k (I5 ks j)=some (j+i)∧ks[i]?=some k
 | [],_,h=>by simp at h
 | k0::ks,j,h=>by
  unfold I5
  rw[A3]
  by_cases e:k=k0
  ·subst e;exact⟨0,by simp,rfl⟩
  ·rw[if_neg e]
   obtain⟨i,h1,h2⟩:=J1 (ks:=ks) (j:=j+1) ((List.mem_cons.1 h).resolve_left e)
   exact⟨i+1,by rw[h1];congr 1;omega,by simpa using h2⟩
theorem Ra (own:Os):∀l:List Nat,Gath (fun acc K=>O6 own l acc K) (fun _=>False)
 | []=>Gath.none
 | k::l=>fun acc=>by
  have ih:=Ra own l
  show ∃l':List Nat,(∀K:List Nat→Prop,O6 own (k::l) acc K=K l')∧_
  unfold O6
  split
  ·exact(((Li _).seq ih).sub fun j h=>h.elim) acc
  ·exact ih acc
theorem Z0l (own:Os):∀n:Nat,Gath (fun ks K=>trK own n ks K) (fun _=>False)
 | 0=>Gath.none
 | n+1=>fun ks=>by
  obtain⟨l1,a1,a2,-,a4⟩:=Ra own ks ks
  obtain⟨l2,b1,b2,-,b4⟩:=Z0l own n l1
  exact⟨l2,fun K=>(a1 _).trans (b1 K),fun j h=>b2 j (a2 j h),fun j h=>h.elim,fun h=>b4 (a4 h)⟩
theorem Xg {ks:List Nat}{r:R}(h:J0 r=true):Z2q ks r=true:=by
 cases r with
 | lnk j=>cases h
 | adr j b=>cases h
 | blk cs t =>
  have key:∀{l:List G},Ar Be l=true→Ar (Ze4 ks) l=true:=fun {l}=>by
   induction l with
   | nil=>intro _;rfl
   | cons g l ih =>
    intro h
    unfold Ar at h⊢
    cases hg:Be g with
    | false=>rw[hg] at h;cases h
    | true =>
     rw[hg] at h
     have:Ze4 ks g=true:=by cases g<;>first | rfl | cases hg
     rw[this]
     exact ih h
  exact key (show Ar Be cs=true from h)
 | _=>rfl
theorem Z67 {own:Os}{ks0:List Nat}:∀{ks:List Nat} {K:List R→Prop},rsK own ks0 ks K→∃rs:List R,K rs∧rs.length=ks.length∧∀(i k:Nat),ks[i]?=some k→∃r,rs[i]?=some (H3 (I5 ks0 0) r)∧look k own=some r∧Z2q ks0 r=true
 | [],K,h=>⟨[],h,rfl,fun i k h=>by simp at h⟩
 | k::ks,K,h=>by
  unfold rsK at h
  cases hr:look k own with
  | none=>rw[hr] at h;exact h.elim
  | some r =>
   rw[hr] at h
   dsimp only at h
   have key:Z2q ks0 r=true→rsK own ks0 ks (fun rs=>K (H3 (I5 ks0 0) r::rs))→∃rs:List R,K rs∧rs.length=(k::ks).length∧∀(i k':Nat),(k::ks)[i]?=some k'→∃r,rs[i]?=some (H3 (I5 ks0 0) r)∧look k' own=some r∧Z2q ks0 r=true:=fun hi h=>by
    obtain⟨rs,h1,h2,h3⟩:=Z67 h
    refine⟨_,h1,by simp[h2],fun i k' hk=>?_⟩
    cases i with
    | zero=>simp at hk;subst hk;exact⟨r,rfl,hr,hi⟩
    | succ i=>simpa using h3 i k' (by simpa using hk)
   cases hn:J0 r with
   | true =>
    rw[hn] at h
    exact key (Xg hn) (by rw[J6 hn];exact h)
   | false =>
    rw[hn] at h
    dsimp only at h
    cases hi:Z2q ks0 r with
    | false=>rw[hi] at h;exact h.elim
    | true=>rw[hi] at h;exact key hi h
section
variable {P:Program} {I I' I0:Imm} {V V1 V' V0:Va} {w w' w0:World} {own own0 own':Os} {k n N:Nat} {g:G} {x y:Value} {r:R} {ks:List Nat} {rs:List R} {a:Act} {t:Ts} {o:Oper}
theorem Ly (hin:∀k,inC k g→k∈ks)(h:CRep I V g x):CRep I (V.lend ks) (Jp (I5 ks 0) g) x:=by
 have key:∀k,inC k g→∃i,(look k (I5 ks 0)).getD k=i∧i < ks.length∧(V.lend ks).b i=V.b k∧(V.lend ks).s i=V.s k:=fun k hk=>by
  obtain⟨i,h1,h2⟩:=J1 (j:=0) (hin k hk)
  refine⟨i,by rw[h1];simp,(List.getElem?_eq_some_iff.1 h2).1,?_,?_⟩<;>simp[Va.lend,B0 h2]
 cases g with
 | ptr k o=>obtain⟨i,h1,h2,h3,-⟩:=key k rfl;exact⟨by rw[h1];exact h2,by rw[h1,h3];exact h.2⟩
 | osl k=>obtain⟨i,h1,h2,-,h3⟩:=key k rfl;exact⟨by rw[h1];exact h2,by rw[h1,h3];exact h.2⟩
 | osv k a b c=>obtain⟨i,h1,h2,-,h3⟩:=key k rfl;exact⟨by rw[h1];exact h2,by rw[h1,h3];exact h.2⟩
 | mp k=>obtain⟨i,h1,h2,h3,-⟩:=key k rfl;exact⟨by rw[h1];exact h2,by rw[h1,h3];exact h.2⟩
 | _=>exact h
theorem Z5q {l:List G}{us:List Value}(hin:∀k g,g∈l→inC k g→k∈ks)(h:PW (CRep I V) l us):PW (CRep I (V.lend ks)) (l.map (Jp (I5 ks 0))) us :=
 ⟨by simpa using h.1,fun j g u hg hu=>by
  rw[List.getElem?_map] at hg
  obtain⟨g0,h1,h2⟩:=Option.map_eq_some_iff.1 hg
  subst h2
  exact Ly (fun k hk=>hin k g0 (List.mem_of_getElem? h1) hk) (h.2 j g0 u h1 hu)⟩
theorem RRep.lendK {j:Nat}(hin:Z2q ks r=true)(h:RRep I V k w r)(hb:(V.lend ks).b j=V.b k)(hs:(V.lend ks).s j=V.s k)(hf:(V.lend ks).f j=V.f k):RRep I (V.lend ks) j w (H3 (I5 ks 0) r):=by
 cases r with
 | blk cs t =>
  obtain⟨h1,us,h2,h3⟩:=h
  refine⟨fun b=>by rw[hf,hb];exact h1 b,us,by rw[hb];exact h2,Z5q (fun k g hg hk=>?_) h3⟩
  have hc:=Ac (show Ar (Ze4 ks) cs=true from hin) g hg
  cases g<;>first | (obtain rfl:=(show _=k from hk);exact C6.1 hc) | exact hk.elim
 | slc rows e sz=>exact⟨fun b=>by rw[hf,hs];exact h.1 b,by rw[hs];exact h.2⟩
 | vw rows e sz=>exact⟨fun b=>by rw[hf,hs];exact h.1 b,by rw[hs];exact h.2⟩
 | froz rows sz=>exact⟨fun b=>by rw[hf];exact h.1 b,by rw[hs];exact h.2.1,h.2.2⟩
 | gone=>exact fun b=>by rw[hf];exact h b
 | mpI l=>exact⟨fun b=>by rw[hf,hb];exact h.1 b,by rw[hb];exact h.2⟩
 | mpS l=>exact⟨fun b=>by rw[hf,hb];exact h.1 b,by rw[hb];exact h.2⟩
 | sit s pos=>exact⟨fun b=>by rw[hf,hb];exact h.1 b,by rw[hb];exact h.2⟩
 | mpX l m ob=>exact⟨fun b=>by rw[hf,hb];exact h.1 b,by rw[hb];exact h.2⟩
 | mit i l D last m ob=>exact⟨fun b=>by rw[hf,hb];exact h.1 b,by rw[hb];exact h.2⟩
 | abs p=>exact⟨h.1,by rw[hf,hb];exact h.2⟩
 | lnk j=>cases hin
 | adr i b =>
  obtain⟨q1,q2,q3⟩:=h
  obtain⟨i',h1,h2⟩:=J1 (j:=0) (C6.1 (show Fr i ks=true from hin))
  have e:(look i (I5 ks 0)).getD i=i':=by rw[h1];simp
  refine⟨fun c=>by rw[hf];exact q1 c,?_,?_⟩
  ·show(look i (I5 ks 0)).getD i < (V.lend ks).n
   rw[e];exact(List.getElem?_eq_some_iff.1 h2).1
  ·show(V.lend ks).b ((look i (I5 ks 0)).getD i)=b
   rw[e];simpa [Va.lend,B0 h2] using q3
 | fam ps=>exact⟨h.1,by rw[hf];exact h.2⟩
theorem Z42 (hH:Has I V own w)(hd:ks.Nodup)(hl:rs.length=ks.length)(hr:∀(i k:Nat),ks[i]?=some k→∃r,rs[i]?=some (H3 (I5 ks 0) r)∧look k own=some r∧Z2q ks r=true):Has I (V.lend ks) (Aw rs 0) w:=by
 have key:∀i r',look i (Aw rs 0)=some r'→∃k r,ks[i]?=some k∧look k own=some r∧Z2q ks r=true∧r'=H3 (I5 ks 0) r:=fun i r' h=>by
  rw[Af] at h
  have hi:=(List.getElem?_eq_some_iff.1 h).1
  have hi':i < ks.length:=by omega
  obtain⟨r,h1,h2,h3⟩:=hr i ks[i] (List.getElem?_eq_getElem hi')
  rw[h] at h1
  cases h1
  exact⟨_,r,List.getElem?_eq_getElem hi',h2,h3,rfl⟩
 refine⟨hH.mem,fun i r h=>?_,fun i r h=>?_,fun i r b h hf=>?_,fun i i' r r' b h h' hf hf'=>?_⟩
 ·obtain⟨k,-,h1,-⟩:=key i r h
  exact(List.getElem?_eq_some_iff.1 h1).1
 ·obtain⟨k,r0,h1,h2,h3,rfl⟩:=key i r h
  exact(hH.each k r0 h2).lendK h3 (by simp[Va.lend,B0 h1]) (by simp[Va.lend,B0 h1]) (by simp[Va.lend,B0 h1])
 ·obtain⟨k,r0,h1,h2,-⟩:=key i r h
  have hf:V.f k b:=by simpa [Va.lend,B0 h1] using hf
  exact hH.foot k r0 b h2 hf
 ·obtain⟨k,r0,h1,h2,-⟩:=key i r h
  obtain⟨k',r0',h1',h2',-⟩:=key i' r' h'
  have hf:V.f k b:=by simpa [Va.lend,B0 h1] using hf
  have hf':V.f k' b:=by simpa [Va.lend,B0 h1'] using hf'
  have:=hH.disj k k' r0 r0' b h2 h2' hf hf'
  subst this
  have hi:=(List.getElem?_eq_some_iff.1 h1).1
  exact(List.getElem?_inj hi hd).1 (by rw[h1,h1'])
theorem Z8b (hin:∀k,in1 k g→k∈ks)(h:PRep I V g x):PRep I (V.lend ks) (Pc (I5 ks 0) g) x:=by
 cases g with
 | ptr k o=>exact Ly (I:=I) (g:=.ptr k o) hin h
 | osl k=>exact Ly (I:=I) (g:=.osl k) hin h
 | osv k a b c=>exact Ly (I:=I) (g:=.osv k a b c) hin h
 | mp k=>exact Ly (I:=I) (g:=.mp k) hin h
 | oel k i sz off =>
  obtain⟨hk,h⟩:=(show k < V.n∧_ from h)
  obtain⟨i',h1,h2⟩:=J1 (j:=0) (hin k rfl)
  have e:(look k (I5 ks 0)).getD k=i':=by rw[h1];simp
  refine(show TRep1 I (V.lend ks) (.oel ((look k (I5 ks 0)).getD k) i sz off) x from ?_)
  rw[e]
  exact⟨(List.getElem?_eq_some_iff.1 h2).1,by simpa [Va.lend,B0 h2] using h⟩
 | orv k i s o l c=>cases(show VRep I (.orv k i s o l c) x from h)
 | clo f a c =>
  obtain⟨h0,us,cs,e,h1,h2⟩:=h
  refine⟨?_,us,cs,e,Z5q (fun k g hg hk=>hin k ⟨g,.inl hg,hk⟩) h1,Z5q (fun k g hg hk=>hin k ⟨g,.inr hg,hk⟩) h2⟩
  obtain⟨g,hg,hk⟩:=h0
  have hk2:Be (Jp (I5 ks 0) g)=false:=by cases g<;>first | rfl | cases hk
  exact⟨Jp (I5 ks 0) g,hg.imp (fun h=>List.mem_map.2 ⟨g,h,rfl⟩) (fun h=>List.mem_map.2 ⟨g,h,rfl⟩),hk2⟩
 | v z=>exact h
 | tt=>exact h
 | ff=>exact h
 | un=>exact h
 | nl=>exact h
 | agg l=>exact h
 | sl l=>exact h
 | oag l =>
  obtain⟨⟨g,hg,hk⟩,cs,e,hp⟩:=(show(∃g∈l,Be g=false)∧TRep1 I V (.oag l) x from h)
  have hk2:Be (Jp (I5 ks 0) g)=false:=by cases g<;>first | rfl | cases hk
  exact(show(∃g∈l.map (Jp (I5 ks 0)),Be g=false)∧TRep1 I (V.lend ks) (.oag (l.map (Jp (I5 ks 0)))) x from⟨⟨_,List.mem_map.2 ⟨g,hg,rfl⟩,hk2⟩,cs,e,Z5q (fun k g hg hk=>hin k ⟨g,hg,hk⟩) hp⟩)
 | tup l=>cases(show VRep I (.tup l) x from h)
 | elp l o=>cases(show VRep I (.elp l o) x from h)
theorem Tm (own:Os):∀l:Os,Gath (fun ks K=>Vp own l ks K) (fun _=>False)
 | []=>Gath.none
 | (k,r)::l=>fun ks=>by
  have ih:=Tm own l
  have skip:(∀K:List Nat→Prop,Vp own ((k,r)::l) ks K=Vp own l ks K)→∃l':List Nat,(∀K:List Nat→Prop,Vp own ((k,r)::l) ks K=K l')∧(∀j,j∈ks→j∈l')∧(∀j,False→j∈l')∧(ks.Nodup→l'.Nodup):=fun he=>by
   obtain⟨l',h1,h2,h3,h4⟩:=ih ks
   exact⟨l',fun K=>(he K).trans (h1 K),h2,h3,h4⟩
  cases hl:look k own with
  | none=>exact skip fun K=>by show Vp own ((k,r)::l) ks K=_;conv=>lhs;unfold Vp;rw[hl]
  | some q =>
   cases q with
   | fam ps =>
    obtain⟨l1,a1,a2,-,a4⟩:=Gw k ks
    obtain⟨l2,b1,b2,-,b4⟩:=ih l1
    refine⟨l2,fun K=>?_,fun j h=>b2 j (a2 j h),fun j h=>h.elim,fun h=>b4 (a4 h)⟩
    show Vp own ((k,r)::l) ks K=_
    unfold Vp
    rw[hl]
    exact(a1 (fun r=>Vp own l r K)).trans (b1 K)
   | _=>exact skip fun K=>by show Vp own ((k,r)::l) ks K=_;conv=>lhs;unfold Vp;rw[hl]
theorem Z3v (vs:Bool)(gs:List G)(own:Os):Gath (fun ks K=>Z7p vs gs own ks K) (fun _=>False):=fun ks=>by
 cases hb:Zg3 vs gs ks with
 | false=>exact⟨ks,fun K=>by show Z7p vs gs own ks K=_;unfold Z7p;rw[hb],fun j h=>h,fun j h=>h.elim,fun h=>h⟩
 | true =>
  obtain⟨l',h1,h2,h3,h4⟩:=Tm own own ks
  exact⟨l',fun K=>by show Z7p vs gs own ks K=_;unfold Z7p;rw[hb];exact h1 K,h2,h3,h4⟩
def Gz (mo:Mo)(own:Os)(I:Imm)(V:Va)(w:World)(K:G→Os→Nat→Prop)(e:Ending)(w':World):Prop :=
 ∃x g own' I' V',e=.returned x∧K g own' V'.n∧Later own I V w own' I' V' w'∧TRep I' V' g x∧(mo.loose=false→∃ks:List Nat,mo.lends ks=true∧(∀k∈ks,k < V.n)∧(∀b,b < w.heap.size→(∀k∈ks,¬V.f k b)→w'.heap[b]?=w.heap[b]?)∧∀k,k < V.n→∀b,V'.f k b→V.f k b∨(ks≠[]∧((∃k'∈ks,V.f k' b)∨w.heap.size≤b)))
theorem Vj {f:FuncId}{mo:Mo}{gs:List G}{vs:List Value}{B C:Prop}{K:G→Os→Nat→Prop}{Z:Prop}(h:Ya P f mo gs own V.n B C K)(hH:Has I V own w)(hg:PW (PRep I V) gs vs)(hB:B→Z)(hC:C→Z)(hR:Ent P f∧Calls P f vs.toArray w (Gz mo own I V w K)→Z):Z:=by
 unfold Ya at h
 obtain⟨ks0,q1,-,q3,q4⟩:=Z76 gs []
 obtain⟨ks1,r1,r2,-,r4⟩:=Z3v mo.isVs gs own ks0
 obtain⟨ks,k1,k2,-,k4⟩:=Z0l own 3 ks1
 have hd:ks.Nodup:=k4 (r4 (q4 (by simp)))
 have k3:∀j,(∃g∈gs,in1 j g)→j∈ks:=fun j h=>k2 j (r2 j (q3 j h))
 have q1:∀K:List Nat→Prop,gkL gs [] K=K ks0:=q1
 have r1:∀K:List Nat→Prop,Z7p mo.isVs gs own ks0 K=K ks1:=r1
 have k1:∀K:List Nat→Prop,trK own 3 ks1 K=K ks:=k1
 rw[q1,r1,k1] at h
 have hargs:PW (PRep I (V.lend ks)) (gs.map (Pc (I5 ks 0))) vs:=⟨by simpa using hg.1,fun j g u h1 h2=>by
  rw[List.getElem?_map] at h1
  obtain⟨g0,h3,rfl⟩:=Option.map_eq_some_iff.1 h1
  exact Z8b (fun k hk=>k3 k ⟨g0,List.mem_of_getElem? h3,hk⟩) (hg.2 j g0 u h3 h2)⟩
 have main:mo.lends ks=true→∀rs:List R,rs.length=ks.length→(∀(i k:Nat),ks[i]?=some k→∃r,rs[i]?=some (H3 (I5 ks 0) r)∧look k own=some r∧Z2q ks r=true)→FnO P f (gs.map (Pc (I5 ks 0))) rs (fun g rs=>Z4s ks own V.n g rs K)→Ent P f∧Calls P f vs.toArray w (Gz mo own I V w K):=fun hlend rs hl hr hF=>by
  refine⟨hF.1,(hF.2 I (V.lend ks) w vs (Z42 hH hd hl hr) (by rw[hl];rfl) hargs).mono fun e w' ⟨x,g,rs',I',V1,he,hq,hn,h1,hx,hfro,hle⟩=>?_⟩
  obtain⟨l1,l2⟩:=Wl hH hd hl (fun i k hk=>by obtain⟨r,h1,h2,-⟩:=hr i k hk;exact⟨r,_,h1,h2⟩) hn h1 hfro hle
  have lent:∀j r b,look j (Aw rs 0)=some r→(V.lend ks).f j b→∃k∈ks,V.f k b:=fun j r b h hf=>by
   rw[Af] at h
   have hj:=(List.getElem?_eq_some_iff.1 h).1
   have hj':j < ks.length:=by omega
   have e:=B0 (n:=0) (List.getElem?_eq_getElem hj':ks[j]?=some ks[j])
   exact⟨ks[j],List.getElem_mem hj',by simpa [Va.lend,e] using hf⟩
  refine⟨x,_,_,I',V.back ks V1,he,(by
   have:=Z95 hq
   rw[show V.n+(rs'.length - ks.length)=(V.back ks V1).n by show _=V.n+(V1.n - ks.length);rw[hn]] at this
   exact this),l1,l2 g x hx.to_t,fun _=>⟨ks,hlend,fun k hk=>?_,fun b hb hno=>(hfro.blk b hb fun j r hj hf=>?_).1,fun k hk b hb=>?_⟩⟩
  ·obtain⟨i,hi,e⟩:=List.mem_iff_getElem.1 hk
   obtain⟨r,-,h2,-⟩:=hr i k (by rw[List.getElem?_eq_getElem hi,e])
   exact hH.num k r h2
  ·obtain⟨k,h2,h3⟩:=lent j r b hj hf
   exact hno k h2 h3
  ·rcases hb with⟨i,hi,e,hf⟩ | ⟨-,hf⟩
   ·cases hks:ks with
    | nil=>subst hks;rw[Dk] at e;omega
    | cons k0 ks0 =>
     rw[←hks]
     refine .inr ⟨by rw[hks];simp,?_⟩
     by_cases hlt:b < w.heap.size
     ·have hi':i < rs'.length:=by omega
      obtain⟨j,r',hj,hf'⟩:=hfro.foot i _ b (by rw[Af];exact List.getElem?_eq_getElem hi') hf hlt
      exact .inl (lent j r' b hj hf')
     ·exact .inr (by omega)
   ·exact .inl hf
 cases hlend:mo.lends ks with
 | false=>rw[hlend] at h;exact h.elim
 | true =>
  rw[hlend] at h
  dsimp only at h
  cases ks with
  | nil =>
   cases h with
   | lend h=>exact hB h
   | gh h=>exact hC h
   | pure h =>
    refine hR (main hlend [] rfl (fun i k h=>by simp at h) ?_)
    have e:gs.map (Pc (I5 [] 0))=gs:=by
     show gs.map (Pc [])=gs
     rw[funext Tz];simp
    rw[e]
    exact h
  | cons k0 ks0 =>
   obtain⟨rs,h1,h2,h3⟩:=Z67 h
   cases h1 with
   | lend h=>exact hB h
   | gh h=>exact hC h
   | pure h=>exact hR (main hlend rs h2 h3 h)
theorem Za2 (h:TRep I V g x)(hl:g.lent=true):PRep I V (Z7d g) x:=by
 cases g with
 | nl=>cases(show VRep I .nl x from h);exact .sl [] none 0 0 (fun _ _=>undef) (Nat.le_refl _) (fun _=>rfl) (by simp) (fun i r h=>by simp at h) (fun i r j g h=>by simp at h)
 | tt=>cases(show VRep I .tt x from h);exact .v _
 | ff=>cases(show VRep I .ff x from h);exact .v _
 | oag l =>
  have key:∀{l:List G},Rc (fun g=>match Be g with | true=>false | false=>true) l=true→∃g∈l,Be g=false:=fun {l} hl=>by
   induction l with
   | nil=>cases hl
   | cons g l ih =>
    unfold Rc at hl
    cases hg:Be g with
    | false=>exact⟨g,by simp,hg⟩
    | true =>
     rw[hg] at hl
     obtain⟨g',h1,h2⟩:=ih hl
     exact⟨g',by simp[h1],h2⟩
  exact⟨key hl,h⟩
 | tup l=>cases hl
 | orv k i s o l c=>cases hl
 | elp l o=>cases hl
 | _=>exact h
theorem Nb {f:FuncId}{mo:Mo}{gs:List G}{vs:List Value}{C:Prop}{K:G→Os→Nat→Prop}(h:lendK P f mo gs own V.n C K)(hH:Has I V own w)(hg:PW (TRep I V) gs vs)(hC:C→Ent P f∧Calls P f vs.toArray w (Gz mo own I V w K)):Ent P f∧Calls P f vs.toArray w (Gz mo own I V w K):=by
 unfold lendK at h
 split at h
 ·next hl =>
  refine Vj h hH ⟨by simpa using hg.1,fun j g u h1 h2=>?_⟩ False.elim hC id
  rw[List.getElem?_map] at h1
  obtain⟨g0,h3,rfl⟩:=Option.map_eq_some_iff.1 h1
  exact Za2 (hg.2 j g0 u h3 h2) (Ac hl g0 (List.mem_of_getElem? h3))
 ·exact h.elim
theorem Ug {k ty off l m:Nat}{cs:List G}(hH:Has I V own w)(hk:look k own=some (.blk cs ty))(hl:l≤m∧off+l≤cs.length)(hv:Ar Fy ((cs.drop off).take l)=true):∃I':Imm,Mem I' w∧I.le I'∧(∀b o,b≠V.b k→I' b o=I b o)∧VRep I' (.sl (((cs.drop off).take l).map fun g=>[g])) (.slice (some ⟨V.b k,off,none⟩) l m):=by
 obtain⟨us,h1,h2,h3⟩:=Lm hH hk
 have hf:=(hH.each k _ hk).1
 have hno:=(hH.foot k _ (V.b k) hk ((hf _).2 rfl)).2
 have h2':PW (CRep I V) ((cs.drop off).take l) ((us.drop off).take l):=by
  refine⟨by have:=h2.1;simp;omega,fun j g u hg hu=>h2.2 (off+j) g u (Pj hg) ?_⟩
  rw[List.getElem?_take] at hu
  split at hu
  ·rwa [List.getElem?_drop] at hu
  ·cases hu
 obtain⟨e1,-⟩:=Ko hv h2'
 refine⟨fun b o=>if b=V.b k then us[o]? else I b o,fun b o x hx=>?_,fun b o x hx=>?_,fun b o hb=>if_neg hb,?_⟩
 ·change (if b=V.b k then _ else I b o)=_ at hx
  split at hx
  ·next e=>rw[e,h3];exact hx
  ·exact hH.mem b o x hx
 ·show(if b=V.b k then _ else I b o)=_
  rw[if_neg (fun e=>by rw[e,hno o] at hx;cases hx)]
  exact hx
 ·have hl2:(((cs.drop off).take l).map fun g=>[g]).length=l:=by simp;omega
  conv=>rhs;rw[←hl2]
  refine .sl _ (some ⟨V.b k,off,none⟩) _ 1 (fun i _=>us.getD (off+i) undef) (by omega) (fun e=>by cases e) (fun r hr=>?_) (fun i r hr=>⟨V.b k,off,rfl,fun j hj=>?_⟩) fun i r j g hr hg=>?_
  ·obtain⟨g,-,rfl⟩:=List.mem_map.1 hr
   rfl
  ·have hi:i < l:=by have:=(List.getElem?_eq_some_iff.1 hr).1;omega
   have e0:off+i * 1+j=off+i:=by omega
   rw[e0]
   show(if V.b k=V.b k then us[off+i]? else _)=_
   rw[if_pos rfl]
   have:off+i < us.length:=by have:=h2.1;omega
   simp[this]
  ·rw[List.getElem?_map] at hr
   obtain⟨g0,h5,rfl⟩:=Option.map_eq_some_iff.1 hr
   rw[e1,List.getElem?_map] at h5
   obtain⟨u,h6,rfl⟩:=Option.map_eq_some_iff.1 h5
   have h6:us[off+i]?=some u:=by
    rw[List.getElem?_take] at h6
    split at h6
    ·rwa [List.getElem?_drop] at h6
    ·cases h6
   cases j with
   | zero =>
    simp at hg
    subst hg
    simp only[List.getD,h6,Option.getD_some]
    exact .v u
   | succ j=>simp at hg
theorem Z71 {g:G}{x:Value}(hH:Has I V own w)(h:TRep I V g x):TRep I V (Z06 own g) x:=by
 have cc:∀{g:G} {x:Value},CRep I V g x→CRep I V (Eb own g) x:=fun {g x} h=>Lb hH h
 cases g with
 | osl k=>exact .of_c (cc (g:=.osl k) h)
 | osv k sz lo hi=>exact .of_c (cc (g:=.osv k sz lo hi) h)
 | oag l =>
  unfold Z06
  dsimp only
  split
  ·next hp =>
   obtain⟨cs,rfl,h2⟩:=(show TRep1 I V (.oag l) x from h)
   refine .of_v (.agg _ cs (by simpa using h2.1) fun j g u h3 h4=>?_)
   have h5:=Ac hp g (List.mem_of_getElem? h3)
   rw[List.getElem?_map] at h3
   obtain⟨g0,h6,rfl⟩:=Option.map_eq_some_iff.1 h3
   exact(cc (h2.2 j g0 u h6 h4)).to_v h5
  ·exact h
 | _=>exact h
theorem T0 {f:FuncId}{gs:List G}{K:G→Os→Nat→Prop}{n:Nat}(h:Z2o P f own n K gs)(hH:Has I V own w):∀{vs:List Value},V.n=n→PW (TRep I V) gs vs→Ent P f∧Calls P f vs.toArray w fun e w'=>∃x g own' I' V',e=.returned x∧K g own' V'.n∧Later own I V w own' I' V' w'∧TRep I' V' g x:=by
 induction h with
 | same h =>
  intro vs hn hg
  subst hn
  obtain⟨k1,k2⟩:=Nb h hH hg False.elim
  refine⟨k1,k2.mono fun e w' ⟨x,g,own',I',V',he,h3,hl,hx,hm⟩=>?_⟩
  obtain⟨own2,I2,V2,hk,l2⟩:=Q6 h3 rfl hl.has
  exact⟨x,g,own2,I2,V2,he,hk,hl.trans l2,hx.mono l2.fro.mono l2.va⟩
 | see _ ih =>
  intro vs hn hg
  refine ih hn ⟨by simpa using hg.1,fun j g u h1 h2=>?_⟩
  rw[List.getElem?_map] at h1
  obtain⟨g0,h3,rfl⟩:=Option.map_eq_some_iff.1 h1
  exact Z71 hH (hg.2 j g0 u h3 h2)
 | raw j k hj _ ih =>
  intro vs hn hg
  refine ih hn ?_
  obtain⟨v,vs',rfl,hv,hn⟩:=hg.uncons
  have e:=Ap hv
  subst e
  obtain⟨-,hkn,hb⟩:=hH.each j _ hj
  exact .cons (.of_c (g:=.ptr k _) ⟨hkn,by rw[hb]⟩) hn
 | snap cs ty u hk hl hv hf h =>
  intro vs hn hg
  subst hn
  obtain⟨v,vs',rfl,hx,hn⟩:=hg.uncons
  obtain rfl:=hn.of_nil
  obtain⟨I2,m1,m2,m3,m4⟩:=Ug hH hk hl hv
  obtain⟨hkn,b,q0,hb,hx⟩:=hx
  obtain⟨rfl,rfl⟩:=(show b=_∧q0=0 from hb)
  rw[Nat.zero_mul,Nat.zero_add,Nat.zero_add] at hx
  subst hx
  refine⟨hf.1,(hf.2 I2 w _ m1 (.cons m4 .nil)).mono fun e w' ⟨x,g,I',he,hq,hm,hx,_,_,hB⟩=>?_⟩
  subst hq
  cases(show VRep I' (.v u) x from hx)
  have hl:Later own I V w own I V w':=Fg hH (hH.mem.keep fun b _ _ hx=>hB.block b (hH.mem.lt hx)) (.refl _) (fun _ _ _=>rfl) hB
  obtain⟨own2,I3,V2,hk2,l2⟩:=Q6 h rfl hl.has
  exact⟨_,_,own2,I3,V2,he,hk2,hl.trans l2,.of_v (.v _)⟩
open Classical in
theorem Z5n (hH:Has I V own w):∃I2:Imm,Mem I2 w∧∀g x,TRep I V g x→(X7 own g).pure=true→VRep I2 (X7 own g) x:=by
 refine⟨fun b o=>if ∃k rows e sz,look k own=some (.slc rows e sz)∧V.f k b then w.cell? ⟨b,o,none⟩ else I b o,fun b o x hx=>?_,fun g x h hp=>?_⟩
 ·change (if _ then _ else I b o)=_ at hx
  split at hx
  ·exact hx
  ·exact hH.mem b o x hx
 have hle:I.le (fun b o=>if ∃k rows e sz,look k own=some (.slc rows e sz)∧V.f k b then w.cell? ⟨b,o,none⟩ else I b o):=fun b o x hx=>by
  show(if _ then _ else I b o)=_
  rw[if_neg]
  ·exact hx
  ·rintro⟨k,rows,e,sz,h1,h2⟩
   have:=(hH.foot k _ b h1 h2).2 o
   rw[hx] at this;cases this
 cases g with
 | osl k =>
  obtain⟨hkn,rfl⟩:=(show k < V.n∧x=V.s k from h)
  unfold X7 at hp⊢
  dsimp only at hp⊢
  split at hp
  ·next rows e sz hk =>
   obtain⟨hf,rs,⟨h0,h1⟩,h2,h3,h4,h5,h6⟩:=hH.each k _ hk
   rcases h1 with⟨e1,hr0⟩ | ⟨g,cap,cur,e1,-,hg,hn,hm,hc,ht⟩
   ·have hr:rows=[]:=List.eq_nil_of_length_eq_zero hr0
    subst hr
    rw[e1]
    exact .sl [] none 0 sz (fun _ _=>undef) (Nat.le_refl _) (fun _=>rfl) (by simp) (fun i r h=>by simp at h) (fun i r j g h=>by simp at h)
   ·obtain⟨rs',cur',hg',g2,g3,g4,g5,-,-,-,-,-,g6⟩:=N1 hH hk e1
    have hfg:V.f k g:=(hf g).2 (by rw[e1];rfl)
    rw[e1]
    refine .sl rows (some ⟨g,0,none⟩) cap sz (fun i j=>((rs'[i]?.getD [])[j]?).getD undef) hn (fun e=>by cases e) (fun r hr=>?_) (fun i r hr=>⟨g,0,rfl,fun j hj=>?_⟩) fun i r j g' hr hgr=>?_
    ·obtain⟨i,hi,e⟩:=List.mem_iff_getElem.1 hr
     have hi':i < rs'.length:=by omega
     have hp:=g3 i r rs'[i] (by rw[List.getElem?_eq_getElem hi,e]) (List.getElem?_eq_getElem hi')
     rw[hp.1];exact g4 _ (List.getElem_mem hi')
    ·have hi:=(List.getElem?_eq_some_iff.1 hr).1
     have hi':i < rs'.length:=by omega
     have hjl:j < rs'[i].length:=by rw[g4 _ (List.getElem_mem hi')];exact hj
     show(if _ then _ else _)=_
     rw[if_pos ⟨k,rows,e,sz,hk,hfg⟩,List.getElem?_eq_getElem hi']
     show _=some ((rs'[i][j]?).getD undef)
     rw[List.getElem?_eq_getElem hjl]
     have:=g6 i rs'[i] j rs'[i][j] (List.getElem?_eq_getElem hi') (List.getElem?_eq_getElem hjl)
     rw[Nat.zero_add]
     exact this
    ·have hi:=(List.getElem?_eq_some_iff.1 hr).1
     have hi':i < rs'.length:=by omega
     have hp:=g3 i r rs'[i] hr (List.getElem?_eq_getElem hi')
     have hjl:j < rs'[i].length:=by rw[←hp.1];exact(List.getElem?_eq_some_iff.1 hgr).1
     have:=hp.2 j g' rs'[i][j] hgr (List.getElem?_eq_getElem hjl)
     rw[List.getElem?_eq_getElem hi']
     show VRep _ g' ((rs'[i][j]?).getD undef)
     rw[List.getElem?_eq_getElem hjl]
     exact this.mono hle
  ·cases hp
 | v z=>exact VRep.mono (show VRep I (.v z) x from h) hle
 | un=>exact VRep.mono (show VRep I .un x from h) hle
 | agg l=>exact VRep.mono (show VRep I (.agg l) x from h) hle
 | sl l=>exact VRep.mono (show VRep I (.sl l) x from h) hle
 | _=>cases hp
theorem Z0b {f:FuncId}{mo:Mo}{gs:List G}{vs:List Value}{K:G→Os→Nat→Prop}(h:ghK P f mo gs own V.n K)(hH:Has I V own w)(hg:PW (TRep I V) gs vs):Ent P f∧Calls P f vs.toArray w (Gz mo own I V w K):=by
 cases mo with
 | row =>
  obtain⟨own1,I1,V1,h2,l1⟩:=Q6 h rfl hH
  obtain⟨k1,k2⟩:=T0 h2 l1.has rfl (hg.mono fun _ _ h=>h.mono l1.fro.mono l1.va)
  exact⟨k1,k2.mono fun e w' ⟨x,g,own2,I2,V2,he,hk,hl,hx⟩=>⟨x,g,own2,I2,V2,he,hk,l1.trans hl,hx,fun hmo=>by cases hmo⟩⟩
 | late =>
  obtain⟨own1,I1,V1,h2,l1⟩:=Q6 h rfl hH
  obtain⟨k1,k2⟩:=T0 h2 l1.has rfl (hg.mono fun _ _ h=>h.mono l1.fro.mono l1.va)
  exact⟨k1,k2.mono fun e w' ⟨x,g,own2,I2,V2,he,hk,hl,hx⟩=>⟨x,g,own2,I2,V2,he,hk,l1.trans hl,hx,fun hmo=>by cases hmo⟩⟩
 | new =>
  cases(show EvSn P f own V.n K gs from h) with
  | snap cs ty u hk hl hv hf hK =>
   obtain⟨v,vs',rfl,hx,hn⟩:=hg.uncons
   obtain rfl:=hn.of_nil
   obtain⟨I2,m1,m2,m3,m4⟩:=Ug hH hk hl hv
   obtain⟨hkn,b,q0,hb,hx⟩:=hx
   obtain⟨rfl,rfl⟩:=(show b=_∧q0=0 from hb)
   rw[Nat.zero_mul,Nat.zero_add,Nat.zero_add] at hx
   subst hx
   refine⟨hf.1,(hf.2 I2 w _ m1 (.cons m4 .nil)).mono fun e w' ⟨x,g,I',he,hq,hm,hx,_,_,hB⟩=>?_⟩
   subst hq
   cases(show VRep I' (.v u) x from hx)
   have hl:Later own I V w own I V w':=Fg hH (hH.mem.keep fun b _ _ hx=>hB.block b (hH.mem.lt hx)) (.refl _) (fun _ _ _=>rfl) hB
   exact⟨_,_,own,I,V,he,hK,hl,.of_v (.v _),fun _=>⟨[],rfl,fun k hk=>(by cases hk),fun b hb _=>hB.block b hb,fun k _ b hf=>.inl hf⟩⟩
  | peek hp hf =>
   obtain⟨I2,m1,m2⟩:=Z5n hH
   have hpw:PW (VRep I2) (gs.map (X7 own)) vs:=⟨by simpa using hg.1,fun j g u h1 h2=>by
    rw[List.getElem?_map] at h1
    obtain⟨g0,h3,rfl⟩:=Option.map_eq_some_iff.1 h1
    exact m2 g0 u (hg.2 j g0 u h3 h2) (Ac hp _ (List.mem_map.2 ⟨g0,List.mem_of_getElem? h3,rfl⟩))⟩
   refine⟨hf.1,(hf.2 I2 w _ m1 hpw).mono fun e w' ⟨x,g,I',he,⟨hq,hK⟩,hm,hx,_,_,hB⟩=>?_⟩
   have hl:Later own I V w own I V w':=Fg hH (hH.mem.keep fun b _ _ hx=>hB.block b (hH.mem.lt hx)) (.refl _) (fun _ _ _=>rfl) hB
   have hgx:TRep I V g x:=by
    cases g with
    | v u =>
     cases(show VRep I' (.v u) x from hx)
     exact .of_v (.v _)
    | _=>cases hq
   exact⟨_,_,own,I,V,he,hK,hl,hgx,fun _=>⟨[],rfl,fun k hk=>(by cases hk),fun b hb _=>hB.block b hb,fun k _ b hf=>.inl hf⟩⟩
 | _=>exact h.elim
theorem Z3l {f:FuncId}{mo:Mo}{gs p q:List G}{vs:List Value}{K:G→Os→Nat→Prop}(h:Nd P f mo gs p q own V.n K)(hH:Has I V own w)(hg:PW (TRep I V) (p++(gs++q)) vs):Ent P f∧Calls P f vs.toArray w (Gz mo own I V w K):=by
 unfold Nd at h
 split at h
 ·exact Z0b h hH hg
 split at h
 ·exact Nb h hH hg fun hc=>Z0b hc hH hg
 ·obtain⟨gs',o1,I1,V1,h1,hn1,hl1,hv1⟩:=Z1k h hg hH
  have h1:Ya P f mo gs' o1 V1.n (lendK P f mo (p++(gs++q)) own V.n False K) (ghK P f mo (p++(gs++q)) own V.n K) K:=by rw[hn1.1];exact h1
  refine Vj h1 hl1.has hv1 (fun hb=>Nb hb hH hg False.elim) (fun hc=>Z0b hc hH hg) fun⟨k1,k2⟩=>?_
  refine⟨k1,k2.mono fun e w' ⟨x,g,own',I',V',he,hk,hl,hx,hm⟩=>⟨x,g,own',I',V',he,hk,hl1.trans hl,hx,fun hmo=>?_⟩⟩
  obtain⟨ks,m1,m2,m3,m4⟩:=hm hmo
  have hkn:∀k∈ks,k < V.n:=fun k hk=>by have:=m2 k hk;omega
  refine⟨ks,m1,hkn,fun b hb hno=>m3 b hb fun k hk hf=>hno k hk (hn1.2 k (hkn k hk) b hf),fun k hk b hb=>?_⟩
  rcases m4 k (by omega) b hb with h | ⟨h,⟨k',h2,h3⟩ | h3⟩
  ·exact .inl (hn1.2 k hk b h)
  ·exact .inr ⟨h,.inl ⟨k',h2,hn1.2 k' (hkn k' h2) b h3⟩⟩
  ·exact .inr ⟨h,.inr h3⟩
theorem Pr {f:FuncId}(he:Ent P f)(w:World)(args:Array Value):(callFunc f args).run P w=.ok (.enter f args) w:=by
 obtain⟨fn,hf,hname,hbody⟩:=he
 have hname':¬fn.name="runtime.NumGoroutine" := by simpa using hname
 cases hb:fn.body with
 | none=>rw[hb] at hbody;cases hbody
 | some c=>simp[callFunc,hf,hname',hb]
def Z8d (P:Program)(t:Ts)(own:Os)(n:Nat)(mo:Mo)(cl:Call)(d:Option Tmp)(fo:Operand)(K:Ts→Os→Nat→Prop):Prop:=match fo with
 | .func f=>evs t own cl.args.toList fun gs=>Nd P f mo gs [] [] own n fun g w n=>K (put d g t) w n
 | .tmp j=>match look j t with
  | some (.clo f p q)=>evs t own cl.args.toList fun gs=>Nd P f mo gs p q own n fun g w n=>K (put d g t) w n
  | some (.v (.func (.func f) p q))=>match p.toList,q.toList with
   | [],[]=>evs t own cl.args.toList fun gs=>Nd P f mo gs [] [] own n fun g w n=>K (put d g t) w n
   | _,_=>False
  | _=>False
 | _=>False
theorem Z27 {mo:Mo}{cl:Call}{K:Ts→Os→Nat→Prop}{d:Option Tmp}{fo:Operand}(ha:ARep N I V a t)(hH:Has I V own w)(h:Z8d P t own n mo cl d fo K)(hfo:cl.callee=.value fo):∃(f:FuncId) (gs p q:List G) (vs:List Value),Nd P f mo gs p q own n (fun g w n=>K (put d g t) w n)∧PW (TRep I V) (p++(gs++q)) vs∧∀ty (u:World),(do let d ←resolve a.eval cl ty;invoke d.target d.args:Sem Next).run P u=(callFunc f vs.toArray).run P u:=by
 unfold Z8d at h
 obtain⟨callee,args,ats⟩:=cl
 dsimp only at hfo
 subst hfo
 have e:∀l:Array Operand,(l.toList.map a.eval).toArray=l.map a.eval:=fun l=>by cases l;simp
 cases fo with
 | func f =>
  dsimp only at h
  obtain⟨gs,hk,hg⟩:=Mr h ha hH
  refine⟨f,gs,[],[],_,hk,by simpa using hg,fun ty u=>?_⟩
  have hev:a.eval (.func f)=.func (.func f) #[] #[]:=rfl
  simp[resolve,Deferred.ofValue,hev,invoke,e]
 | tmp d =>
  dsimp only at h
  cases hl:look d t with
  | none=>rw[hl] at h;exact h.elim
  | some g =>
   rw[hl] at h
   obtain⟨z,hz,hgz⟩:=ha.get _ _ hl
   have hev:a.eval (.tmp d)=z:=by simp[Act.eval,hz]
   cases g with
   | clo f p q =>
    obtain⟨gs,hk,hg⟩:=Mr h ha hH
    obtain⟨-,us,cs,rfl,hp,hq⟩:=(show TRep1 I V (.clo f p q) z from hgz)
    refine⟨f,gs,p,q,us++(args.toList.map a.eval++cs),hk,(hp.mono fun _ _ h=>.of_c h).append (hg.append (hq.mono fun _ _ h=>.of_c h)),fun ty u=>?_⟩
    simp[resolve,Deferred.ofValue,hev,invoke,←e]
   | v z' =>
    have ez:=Ap hgz
    subst ez
    split at h
    ·next f p q heq =>
     cases heq
    ·next f p q heq =>
     cases heq
     split at h
     ·next h1 h2 =>
      obtain⟨gs,hk,hg⟩:=Mr h ha hH
      refine⟨f,gs,[],[],_,hk,by simpa using hg,fun ty u=>?_⟩
      have e1:p=#[]:=by cases p;simp at h1;simp[h1]
      have e2:q=#[]:=by cases q;simp at h2;simp[h2]
      subst e1 e2
      simp[resolve,Deferred.ofValue,hev,invoke,e]
     ·exact h.elim
    ·exact h.elim
   | _=>exact h.elim
 | _=>exact False.elim h
variable {XL:List Nat} {K:Ts→Os→Nat→Prop} {next:Act→World→Prop} {Q:Exit→Act→World→Prop}
theorem Oi {mo:Mo}{cl:Call}{fo:Operand}(ho:o.op=.call cl)(hfo:cl.callee=.value fo)(hH:Has I V own w)(ha:ARep N I V a t)(hd:∀i,o.dst=some i→i < N)(h:Z8d P t own V.n mo cl o.dst fo K)
  (hn:∀t own' I' V' a' w',K t own' V'.n→Later own I V w own' I' V' w'→(mo.loose=false→∃ks:List Nat,mo.lends ks=true∧(∀k∈ks,k < V.n)∧(∀b,b < w.heap.size→(∀k∈ks,¬V.f k b)→w'.heap[b]?=w.heap[b]?)∧∀k,k < V.n→∀b,V'.f k b→V.f k b∨(ks≠[]∧((∃k'∈ks,V.f k' b)∨w.heap.size≤b)))→ARep N I' V' a' t→next a' w'):o.wp P a w next Q:=by
 obtain⟨f,gs,p,q,vs,hF,hg,hrun⟩:=Z27 ha hH h hfo
 obtain⟨k1,k2⟩:=Z3l hF hH hg
 have hrun:(execOp a.eval o).run P w=.ok (.enter f vs.toArray) w:=by
  have:=(hrun o.type w).trans (Pr k1 w vs.toArray)
  simpa only[execOp,ho] using this
 unfold Oper.wp
 rw[hrun,Oper.upon_enter]
 refine k2.mono fun e w' ⟨x,g,own',I',V',he,hk,hl,hx,hm⟩=>?_
 subst he
 exact hn _ _ _ _ _ _ hk hl hm ((ha.mono hl.fro.mono hl.va).put hd hx)
theorem FnV.toO {f:FuncId}{gs:List G}{Q:G→Prop}(h:FnV P f gs Q):FnO P f gs [] fun g rs=>rs=[]∧Q g :=
 ⟨h.1,fun I V w vs hH hn hp=>by
  have hp':PW (VRep I) gs vs:=hp.mono fun g x h=>by
   have hn:V.n=0:=hn
   cases g with
   | ptr k o=>have:=h.1;omega
   | osl k=>have:=h.1;omega
   | osv k a b c=>have:=h.1;omega
   | oel k a b c=>have:=h.1;omega
   | orv k a b c d e=>cases(show VRep I (.orv k a b c d e) x from h)
   | mp k=>have:=h.1;omega
   | clo f a c =>
    obtain⟨⟨g,hg,hk⟩,us,cs,-,h1,h2⟩:=h
    have key:∀{l:List G} {us:List Value},g∈l→PW (CRep I V) l us→False:=fun hm hp=>by
     obtain⟨j,hj,e⟩:=List.mem_iff_getElem.1 hm
     obtain⟨u,-,hr⟩:=hp.get (by rw[List.getElem?_eq_getElem hj,e])
     cases g with
     | ptr k o=>have:=hr.1;omega
     | osl k=>have:=hr.1;omega
     | osv k a b c=>have:=hr.1;omega
     | oel k a b c=>exact hr
     | orv k a b c d e=>exact hr
     | mp k=>have:=hr.1;omega
     | _=>cases hk
    rcases hg with hg | hg
    ·exact(key hg h1).elim
    ·exact(key hg h2).elim
   | oag l =>
    obtain⟨⟨g,hg,hk⟩,cs,e,hp⟩:=(show(∃g∈l,Be g=false)∧TRep1 I V (.oag l) x from h)
    exfalso
    obtain⟨j,hj,e⟩:=List.mem_iff_getElem.1 hg
    obtain⟨u,-,hr⟩:=hp.get (by rw[List.getElem?_eq_getElem hj,e])
    cases g with
    | ptr k o=>have:=hr.1;omega
    | osl k=>have:=hr.1;omega
    | osv k a b c=>have:=hr.1;omega
    | oel k a b c=>exact hr
    | orv k a b c d e=>exact hr
    | mp k=>have:=hr.1;omega
    | _=>cases hk
   | _=>exact h
  refine(h.2 I w vs hH.mem hp').mono fun e w' ⟨x,g,I',he,hq,hm,hx,hle,hI,hB⟩=>⟨x,g,[],I',V,he,⟨rfl,hq⟩,hn,⟨hm,fun k r h=>(by cases h),fun k r h=>(by cases h),fun k r b h=>(by cases h),fun k k' r r' b h=>(by cases h)⟩,?_,⟨hB.os,hB.tape,hB.output,hB.size,fun b hb _=>⟨hB.block b hb,fun o=>hI b o hb⟩,hle,fun k r b h=>(by cases h)⟩,.refl _⟩
  cases g with
  | tup l=>obtain⟨cs,e,hp⟩:=hx;exact⟨cs,e,hp.mono fun _ _ h=>.of_v h⟩
  | oag l=>cases(show VRep I' (.oag l) x from hx)
  | _=>exact PRep.of_v (V:=V) hx⟩
theorem FnO.mono {f:FuncId}{gs:List G}{rs:List R}{Q Q':G→List R→Prop}(h:FnO P f gs rs Q)(hq:∀g rs,Q g rs→Q' g rs):FnO P f gs rs Q' :=
 ⟨h.1,fun I V w vs h1 h2 h3=>(h.2 I V w vs h1 h2 h3).mono fun _ _ ⟨x,g,rs',I',V',e,k1,k2⟩=>⟨x,g,rs',I',V',e,hq _ _ k1,k2⟩⟩
theorem FnV.cal {f:FuncId}{gs:List G}{Q:G→Prop}{K:G→Os→Nat→Prop}{B C:Prop}(h:FnV P f gs Q)(hk:∀g,Q g→Z4s [] own n g [] K):EvCall (FnO P f gs [] fun g rs=>Z4s [] own n g rs K) B C :=
 .pure (h.toO.mono fun g rs ⟨e,hq⟩=>by rw[e];exact hk g hq)
theorem FnV.con {f:FuncId}{gs:List G}{g:G}{x:Value}{K:G→Prop}(h:FnV P f gs fun q=>q=g)(hx:Z60 g=some x)(hk:K g):Z8t P f gs K:=⟨g,x,hx,h,hk⟩
theorem FnO.cal {f:FuncId}{gs:List G}{rs:List R}{Q:G→List R→Prop}{K:G→Os→Nat→Prop}{B C:Prop}(h:FnO P f gs rs Q)(hk:∀g rs,Q g rs→Z4s ks own n g rs K):EvCall (FnO P f gs rs fun g rs=>Z4s ks own n g rs K) B C :=
 .pure (h.mono hk)
end
end Go.Proofs.YtihfaocdpmmooaaGreat
namespace Go.Proofs.YtihfaocdpmmooaaGreat
open Go.RowKit
section
variable {κ:Type} {I:Imm} {u:G} {v:Value}
theorem Al.len:∀{l:List (κ × G)} {L:List (κ × Value)},Al I l L→L.length=l.length
 | [],[],_=>rfl
 | _::_,_::_,h=>by simp[Al.len h.2.2]
theorem Al.app (k:κ):∀{l:List (κ × G)} {L:List (κ × Value)},Al I l L→VRep I u v→Al I (l++[(k,u)]) (L++[(k,v)])
 | [],[],_,h=>⟨rfl,h,trivial⟩
 | _::_,_::_,h,h'=>⟨h.1,h.2.1,Al.app k h.2.2 h'⟩
variable [DecidableEq κ]
theorem Al.get (k:κ):∀{l:List (κ × G)} {L:List (κ × Value)},Al I l L→(Z56 l k=none→Z56 L k=none)∧∀g,Z56 l k=some g→∃v,Z56 L k=some v∧VRep I g v
 | [],[],_=>⟨fun _=>rfl,fun g h=>by cases h⟩
 | (j,g0)::l,(j',v0)::L,h=>by
  obtain⟨e,h1,h2⟩:=h
  have e:j'=j:=e
  subst e
  obtain⟨i1,i2⟩:=Al.get k h2
  rw[Ph,Ph]
  by_cases hk:j'=k
  ·subst hk
   simp only[if_pos]
   exact⟨fun h=>(by cases h),fun g h=>(by cases h;exact⟨_,rfl,h1⟩)⟩
  ·simp only[if_neg hk]
   exact⟨i1,i2⟩
theorem Al.upd (k:κ):∀{l:List (κ × G)} {L:List (κ × Value)},Al I l L→VRep I u v→Al I (l.map fun p=>if p.1=k then(k,u) else p) (L.map fun p=>if p.1=k then(k,v) else p)
 | [],[],_,_=>trivial
 | p::l,q::L,h,h'=>by
  have ih:=Al.upd k h.2.2 h'
  rw[List.map_cons,List.map_cons]
  by_cases e:p.1=k
  ·rw[if_pos e,if_pos (h.1.trans e)]
   exact⟨rfl,h',ih⟩
  ·rw[if_neg e,if_neg (fun e'=>e (h.1.symm.trans e'))]
   exact⟨h.1,h.2.1,ih⟩
theorem Al.put (k:κ){l:List (κ × G)}{L:List (κ × Value)}(h:Al I l L)(h':VRep I u v):Al I (Zfm l k u) (Zfm L k v):=by
 obtain⟨h1,h2⟩:=h.get k
 unfold Zfm
 cases hg:Z56 l k with
 | none=>rw[h1 hg];exact h.app k h'
 | some g =>
  obtain⟨x,e,-⟩:=h2 g hg
  rw[e]
  exact h.upd k h'
end
section
variable {P:Program} {tb:List (Nat × TI)} {N n:Nat} {I I' I0:Imm} {V V' V0:Va} {a:Act} {t:Ts} {own own' own0:Os} {w w' w0:World} {g:G} {x y:Value} {d:Option Tmp}
variable {XL:List Nat} {S:World→Prop} {K:Ts→Os→Nat→Prop} {next:Act→World→Prop} {Q:Exit→Act→World→Prop} {o:Oper} {r:R}
theorem Z81 {k:Nat}(h:TRep I V (.mp k) y):k < V.n∧y=.map (some (V.b k)):=h
theorem MapR.lt {κ:Type}{kf:κ→Value}{m:Nat}{l:List (κ × G)}(h:MapR I w m kf l):m < w.heap.size:=by
 obtain⟨L,hB,-⟩:=h
 exact hB.lt
theorem Zd4 (hT:∀t i,look t tb=some i→TIok P t i)(hXL:∀k∈XL,∃r,look k own=some r)(hS:∀u,S u→Agree V XL w u)(hH:Has I V own w)(ha:ARep N I V a t){ty:TypeId}{z:Operand}{ti:TI}{str:Bool}{e:TypeId}(hl:look ty tb=some ti)(hkd:ti.kd=.map str e)(ho:o.op=.call {callee:=.builtin .len,args:=#[z],argTypes:=#[ty]})
  (h:ev t own z fun g=>match g with
        | .mp k=>match look k own,Fr k XL with
         | some (.mpS l),false=>K (put o.dst (.v (.int .i64 l.length)) t) own V.n
         | some (.mpI l),false=>K (put o.dst (.v (.int .i64 l.length)) t) own V.n
         | _,_=>False
        | _=>False):QOk S P I V own w a t o K:=by
 have hk:=(hT _ _ hl).kd
 rw[hkd] at hk
 obtain⟨kt,ht,-⟩:=hk
 obtain⟨g,hh,hg⟩:=Av h ha hH
 clear h
 have h:=hh
 clear hh
 split at h
 ·next k =>
  obtain⟨hkn,e1⟩:=Z81 hg
  have fin:∀{κ:Type} {kf:κ→Value} {l:List (κ × G)},[DecidableEq κ]→MapR I w (V.b k) kf l→V.f k (V.b k)→(∃r,look k own=some r)→Fr k XL=false→K (put o.dst (.v (.int .i64 l.length)) t) own V.n→QOk S P I V own w a t o K:=fun {κ kf l _} hM hf ⟨r,hr⟩ hm hk=>by
   have hnm:k ∉ XL:=fun h=>by rw[C6.2 h] at hm;cases hm
   have hlt:=hM.lt
   obtain⟨L,hB,hA⟩:=hM
   refine⟨_,_,hk,.of_v (.v _),fun u hu=>?_⟩
   have hsame:u.heap[V.b k]?=w.heap[V.b k]?:=hS u hu _ hlt fun k' hk' hf'=>by
    obtain⟨r',hr'⟩:=hXL k' hk'
    exact hnm (hH.disj k k' r r' _ hr hr' hf hf' ▸ hk')
   have hrun:=Ro (P:=P) (ty:=o.type) ht (hB.of_block hsame)
   rw[hA.len] at hrun
   simp[execOp,ho,resolve,invoke,builtin,e1,hrun]
  split at h
  ·next l hr hm =>
   have hR:=hH.each k _ hr
   exact fin hR.2 ((hR.1 _).2 rfl) ⟨_,hr⟩ hm h
  ·next l hr hm =>
   have hR:=hH.each k _ hr
   exact fin hR.2 ((hR.1 _).2 rfl) ⟨_,hr⟩ hm h
  ·exact h.elim
 ·exact h.elim
theorem X2 (hH:Has I V own w)(ha:ARep N I V a t){f:FuncId}{p q:Array Operand}(ho:o.op=.makeFunc (.func f) p q)(h:evs t own p.toList fun a=>evs t own q.toList fun c=>match Ar G.cap a,Ar G.cap c with
  | true,true=>match Ar Be a,Ar Be c with
   | true,true=>match a,c with
    | [],[]=>K (put o.dst (.v (.func (.func f) #[] #[])) t) own V.n
    | _,_=>False
   | _,_=>K (put o.dst (.clo f a c) t) own V.n
  | _,_=>False):QOk S P I V own w a t o K:=by
 obtain⟨a1,h,h1⟩:=Mr h ha hH
 obtain⟨c1,h,h2⟩:=Mr h ha hH
 have e:∀l:Array Operand,(l.toList.map a.eval).toArray=l.map a.eval:=fun l=>by cases l;simp
 have run:∀u:World,(execOp a.eval o).run P u=.ok (.value (.func (.func f) (p.toList.map a.eval).toArray (q.toList.map a.eval).toArray)) u:=fun u=>by
  simp only[execOp,ho,Instr.makeFunc,Sem.run_bind,Sem.run_pure,Result.andThen_ok,e]
 have cap:∀{l:List G} {us:List Value},Ar G.cap l=true→PW (TRep I V) l us→PW (CRep I V) l us:=fun hc hp=>⟨hp.1,fun j g u hg hu=>by
  have hh:=hp.2 j g u hg hu
  have hc:=Ac hc g (List.mem_of_getElem? hg)
  cases g<;>first | exact hh | cases hc⟩
 have ex:∀{l:List G},Ar Be l=false→∃g∈l,Be g=false:=fun {l}=>by
  induction l with
  | nil=>intro h;cases h
  | cons g l ih =>
   intro h
   unfold Ar at h
   cases hg:Be g with
   | false=>exact⟨g,by simp,hg⟩
   | true =>
    rw[hg] at h
    obtain⟨g',h1,h2⟩:=ih h
    exact⟨g',by simp[h1],h2⟩
 split at h
 ·next hc1 hc2 =>
  split at h
  ·split at h
   ·have e1:p.toList=[]:=by have:=h1.of_nil;simpa using this
    have e2:q.toList=[]:=by have:=h2.of_nil;simpa using this
    refine⟨_,_,h,.of_v (.v _),fun u _=>?_⟩
    rw[run u,e1,e2]
    rfl
   ·exact h.elim
  ·next hno =>
   refine⟨_,_,h,.of_1 (⟨?_,_,_,rfl,cap hc1 h1,cap hc2 h2⟩:TRep1 I V (.clo f a1 c1) _),fun u _=>run u⟩
   cases hn1:Ar Be a1 with
   | false=>obtain⟨g,h3,h4⟩:=ex hn1;exact⟨g,.inl h3,h4⟩
   | true =>
    cases hn2:Ar Be c1 with
    | false=>obtain⟨g,h3,h4⟩:=ex hn2;exact⟨g,.inr h3,h4⟩
    | true=>exact(hno hn1 hn2).elim
 ·exact h.elim
theorem Al.keys {κ:Type}:∀{l:List (κ × G)} {L:List (κ × Value)},Al I l L→L.map (·.1)=l.map (·.1)
 | [],[],_=>rfl
 | p::l,q::L,h=>by simp[h.1,Al.keys h.2.2]
theorem Al.mem {κ:Type}{k:κ}{v:Value}:∀{l:List (κ × G)} {L:List (κ × Value)},Al I l L→(k,v)∈L→∃g,(k,g)∈l∧VRep I g v
 | [],[],_,hm=>by cases hm
 | p::l,q::L,h,hm=>by
  rcases List.mem_cons.1 hm with e | hm
  ·subst e
   exact⟨p.2,by rw[show k=p.1 from h.1];simp,h.2.1⟩
  ·obtain⟨g,h1,h2⟩:=Al.mem h.2.2 hm
   exact⟨g,by simp[h1],h2⟩
theorem Zf5 (hT:∀t i,look t tb=some i→TIok P t i)(hH:Has I V own w)(ha:ARep N I V a t){ty:TypeId}{z:Operand}(ho:o.op=.sliceToArrayPointer ty z)(h:match look ty tb with
  | some ⟨_,_,none,_,false,_,.arr m _ 1⟩=>ev t own z fun g=>match g with
   | .sl rows=>Zay rows m fun l=>K (put o.dst (.elp l 0) t) own V.n
   | _=>False
  | _=>False):QOk S P I V own w a t o K:=by
 split at h
 ·next ag ze fl ik m e hl =>
  obtain⟨g,hk,hg⟩:=Av h ha hH
  clear h
  obtain⟨hu,-⟩:=(hT _ _ hl).kd
  split at hk
  ·next rows =>
   obtain⟨hm,r,h1,h2,hk⟩:=hk
   have hx:=(show VRep I (.sl rows) (a.eval z) from hg)
   generalize hax:a.eval z=X at hx
   cases hx with
   | sl _ A c sz0 u hc hA hz hh huu =>
    have hlen:m≤rows.length:=by
     have:=congrArg List.length h2
     simp at this
     omega
    have row:∀j (hj:j < m),rows[j]?=some [r[j]'(by omega)]:=fun j hj=>by
     have h3:(rows.take m)[j]?=rows[j]?:=by rw[List.getElem?_take,if_pos hj]
     rw[←h3,h2,List.getElem?_map,List.getElem?_eq_getElem (by omega)]
     rfl
    obtain⟨b,q0,rfl,hI⟩:=hh 0 _ (row 0 hm)
    have hs:sz0=1:=(hz _ (List.mem_of_getElem? (row 0 hm))).symm
    subst hs
    refine⟨_,_,hk,(.of_1 (g:=.elp _ 0) ⟨b,q0,by rw[Nat.add_zero],fun j g hj=>?_⟩),fun v _=>by simp only[execOp,ho,hax,Instr.arrayAt,run_underlying hu,Nat.not_lt.2 hlen,if_false,Sem.run_bind,Result.andThen_ok,Sem.run_pure]⟩
    have hjl:=(List.getElem?_eq_some_iff.1 hj).1
    obtain⟨b',o',e',hI'⟩:=hh j _ (row j (by omega))
    cases e'
    refine⟨u j 0,?_,?_⟩
    ·have:=hI' 0 (by omega)
     rw[Nat.mul_one,Nat.add_zero] at this
     exact this
    ·have hg:g=r[j]'hjl:=(Option.some.inj ((List.getElem?_eq_getElem hjl).symm.trans hj)).symm
     exact huu j _ 0 g (row j (by omega)) (by rw[hg];rfl)
  ·exact hk.elim
 ·exact h.elim
theorem Z8e {q:G}{op:BinOp}{ty:TypeId}(h:Zcu tb q op ty=true):q=.nl∧op=.eql∧∃i e sz,look ty tb=some i∧i.elem=some (e,sz):=by
 unfold Zcu at h
 split at h
 ·next hl=>exact⟨rfl,rfl,_,_,_,hl,rfl⟩
 ·cases h
theorem Zbl (hT:∀t i,look t tb=some i→TIok P t i)(hH:Has I V own w)(ha:ARep N I V a t){op:BinOp}{ty ty':TypeId}{x z:Operand}(ho:o.op=.binOp op ty x z ty')(h:ev t own x fun g=>ev t own z fun q=>match Zcu tb q op ty with
  | true=>T2 own g fun rows=>Zb9 rows fun b=>K (put o.dst (.v (.bool b)) t) own V.n
  | false=>Ze5 P tb ty op g q fun g=>K (put o.dst g t) own V.n):QOk S P I V own w a t o K:=by
 obtain⟨g,hk1,hg⟩:=Av h ha hH
 obtain⟨q,hk,hq⟩:=Av hk1 ha hH
 clear h hk1
 cases hn:Zcu tb q op ty with
 | true =>
  rw[hn] at hk
  obtain⟨rfl,rfl,i,e,sz,hl,he1⟩:=Z8e hn
  obtain⟨hu,-⟩:=(hT _ _ hl).elem e sz he1
  obtain⟨rows,A,c,hk,he,hA⟩:=Z02 hk hg hH
  have hz:a.eval z=.slice none 0 0:=by
   have hq:=(show VRep I .nl (a.eval z) from hq)
   generalize a.eval z=Z at hq
   cases hq
   rfl
  have hk:=hk.run A.isNone fun hne=>by
   cases A with
   | none=>exact absurd (hA rfl) hne
   | some _=>rfl
  refine⟨_,_,hk,.of_v (.v _),fun u _=>?_⟩
  have h1:(Op.equal ty (.slice A rows.length c) (.slice none 0 0)).run P u=.ok A.isNone u:=by
   show(Op.equalIn 10000 ty (.slice A rows.length c) (.slice none 0 0)).run P u=_
   unfold Op.equalIn
   cases A<;>simp[run_underlying hu]
  simp only[execOp,ho,Sem.run_bind,he,hz]
  simp[eqGuard,binOp,h1]
 | false =>
  rw[hn] at hk
  obtain⟨r,v,hk,hr,hrun⟩:=Zb8 (P:=P) hT hk hg hq
  exact⟨_,_,hk,hr,fun u _=>by simp only[execOp,ho,Sem.run_bind,(hrun u x z).1,(hrun u x z).2,Result.andThen_ok,Sem.run_pure]⟩
theorem Wd (hH:Has I V own w)(ha:ARep N I V a t){z:Operand}(ho:o.op=.nilCheck z)(h:ev t own z fun g=>match g with
  | .ptr k off=>K (put o.dst (.ptr k off) t) own V.n
  | .clo f a c=>K (put o.dst (.clo f a c) t) own V.n
  | .v (.func (.func f) a c)=>K (put o.dst (.v (.func (.func f) a c)) t) own V.n
  | _=>False):QOk S P I V own w a t o K:=by
 obtain⟨g,hh,hg⟩:=Av h ha hH
 clear h
 split at hh
 ·next k off =>
  obtain⟨-,e⟩:=Bt hg
  exact⟨_,_,hh,hg,fun u _=>by simp only[execOp,ho,e];rfl⟩
 ·next f p q =>
  have hg2:=hg
  obtain⟨-,us,cs,e,-⟩:=hg2
  exact⟨_,_,hh,hg,fun u _=>by simp only[execOp,ho,e];rfl⟩
 ·next f p q =>
  have e:=Ap hg
  exact⟨_,_,hh,hg,fun u _=>by simp only[execOp,ho,e];rfl⟩
 ·exact hh.elim
end
end Go.Proofs.YtihfaocdpmmooaaGreat
