
import Derived.Test.YtmmdikhljefeiaaGreatSxMa
import Derived.Great.FillDense
import Derived.Deep.OwnRows
import Derived.Lib.MinMax
import Derived.ArgAppend
import Derived.Laws.IdiomStrings
import Derived.Laws.CopyRow
namespace Go.Proofs.YtmmdikhljefeiaaGreat
open Go.RowKit
theorem Pj:∀(l:List Value) (k off:Nat) (arr:Array Value),off+k+l.length<=arr.size ->
  (l.zipIdx k).foldl (λcs p=>cs.setIfInBounds (off+p.2) p.1) arr=(arr.toList.take (off+k)++l++arr.toList.drop (off+k+l.length)).toArray
 | [],k,off,arr,_=>by simp
 | x::l,k,off,arr,h=>by
  simp only[List.length_cons] at h;rw[List.zipIdx_cons,List.foldl_cons,Pj l (k+1) off _ (by simp;omega)]
  congr 1
  have c:off+k < arr.toList.length:=by simp;omega
  simp only[Array.toList_setIfInBounds];rw[List.drop_set_of_lt (by omega),List.take_set,<-de,List.take_succ_eq_append_getElem c,List.set_append_right _ _ (by simp;omega)];have b:off+k<=arr.size:=by omega
  simp[Nat.min_eq_left b,Nat.add_assoc,Nat.add_comm 1]
section
variable {P:Program} {tb:List (Nat × TI)} {N n:Nat} {I I' I0:Imm} {V V' V0:Va} {a:Act} {t:Ts} {own own' own0:Os} {w w' w0:World} {g:G} {y:Value} {d:Option Tmp}
variable {XL:List Nat} {S:World->Prop} {K:Ts->Os->Nat->Prop} {next:Act->World->Prop} {Q:Exit->Act->World->Prop} {o:Oper}
theorem Z7h (hT:∀t i,look t tb=some i->TIok P t i){F:List Field}(hz:∀f∈F,∃m,(P.info? f.type).map (·.size)=some (m+1)){b:List (Nat × Nat)}(H:F.mapM (λf=>(P.info? f.type).map λi=>(f.offset,i.size))=some b)(ha:ARep N I V a t)(hH:Has I V own w) :
  ∀{T:List (Nat × Operand)} {l:List G} {cs:List Value} {K1:List G->Prop},Zas tb t own (F.map λf=>(f.type,f.offset)) T l K1->PW (CRep I V) l cs ->
   ∃M s,K1 M/\PW (CRep I V) M s/\Instr.fill (b.toArray[·]?) cs.toArray (T.map λp=>(p.1,a.eval p.2))=some s.toArray
 | [],l,cs,K1,h,hp=>⟨l,cs,h,hp,rfl⟩
 | (i,x)::T,l,cs,K1,h,hp=>by
  unfold Zas at h;rw[Ea] at h;cases hf:(F.map λf=>(f.type,f.offset))[i]? with
  | none=>rw[hf] at h;exact h.elim
  | some q =>
   obtain⟨U,fo⟩:=q;rw[hf] at h;dsimp only at h;cases hj:look U tb with
   | none=>rw[hj] at h;exact h.elim
   | some j =>
    rw[hj] at h;dsimp only at h;obtain⟨g,h,hg⟩:=B7 h ha hH;obtain⟨ds,h,hd,-⟩:=He h hg hH;obtain⟨hb,h⟩:=Ym h;obtain⟨l1,h,Z,E⟩:=Rj h hp hd;obtain⟨M,s,h1,h2,h3⟩:=Z7h hT hz H ha hH h Z;refine⟨M,s,h1,h2,?_⟩;rw[ax] at hf;obtain⟨L,B,X⟩:=bg.1 hf;injection X with e1 e2;have hpi:b[i]?=some (fo,j.zero.length):=by
     have A:=(hT U j hj).size;have key:∀(F:List Field) (O:List (Nat × Nat)) (i:Nat),F.mapM (λf=>(P.info? f.type).map λi=>(f.offset,i.size))=some O->F[i]?=some L->O[i]?=(P.info? L.type).map λi=>(L.offset,i.size):=by
      intro F
      induction F with
      | nil=>intro O i _ C;simp at C
      | cons f F ih =>
       intro O i z C;simp only[List.mapM_cons,Option.bind_eq_bind,Option.pure_def] at z;cases hq:P.info? f.type with
       | none=>simp[hq] at z
       | some iq =>
        cases hr:F.mapM (λf=>(P.info? f.type).map λi=>(f.offset,i.size)) with
        | none=>simp[hq,hr] at z
        | some rest =>
         simp[hq,hr] at z;subst z;cases i with
         | zero=>simp at C;subst C;simp[hq]
         | succ i=>simpa using ih rest i hr (by simpa using C)
     rw[key F b i H B,e1,e2];cases hq:P.info? U with
     | none=>rw[hq] at A;simp at A
     | some iq=>rw[hq] at A;simp at A;simp[A]
    have c:(a.eval x).cells.size=j.zero.length:=by rw[<-hb,hd.1];simp
    have W:(a.eval x).cells.toList≠[]:=λe=>by obtain⟨m,z⟩:=hz L (ar B);have A:=(hT U j hj).size;rw[e1,A] at z;injection z with z;have:=congrArg List.length e;simp at this;rw[this] at c;simp at c;omega
    have D:=E W;have Y:(a.eval x).cells.toList.length=(a.eval x).cells.size:=by simp
    show Instr.fill (b.toArray[·]?) cs.toArray ((i,a.eval x)::T.map λp=>(p.1,a.eval p.2))=_;unfold Instr.fill;have J:b.toArray[i]?=some (fo,j.zero.length):=by simpa using hpi
    simp only[J,c];rw[dq (by simp;rw[<-c,<-Y];exact D),<-h3]
    congr 1
    rw[<-Array.foldl_toList,Array.toList_zipIdx];have:=Pj (a.eval x).cells.toList 0 fo cs.toArray (by simpa using D);simpa using this
theorem Z1f {m sz:Nat}(ha:ARep N I V a t)(hH:Has I V own w) :
  ∀{z:List (Nat × Operand)} {l:List G} {cs:List Value} {K1:List G->Prop},Zdt t own m sz z l K1->PW (CRep I V) l cs ->
   ∃s c,K1 s/\PW (CRep I V) s c/\Instr.fill (λi=>some (i * sz,sz)) cs.toArray (z.map λp=>(p.1,a.eval p.2))=some c.toArray
 | [],l,cs,K1,h,hp=>⟨l,cs,h,hp,rfl⟩
 | (i,x)::z,l,cs,K1,h,hp=>by
  unfold Zdt at h;split at h
  .next M D =>
   have D:=dp D;obtain⟨g,h,H⟩:=B7 h ha hH;obtain⟨ds,h,hd,-⟩:=He h H hH;obtain⟨J,h⟩:=Ym h;obtain⟨O,h,C,q⟩:=Rj h hp hd;obtain⟨s,c,F,L,E⟩:=Z1f ha hH h C;refine⟨s,c,F,L,?_⟩;have b:(a.eval x).cells.size=sz:=by rw[<-J,hd.1];simp
   have B:(a.eval x).cells.toList≠[]:=λe=>by have:=congrArg List.length e;simp at this;rw[this] at b;simp at b;omega
   have f:=q B;have A:(a.eval x).cells.toList.length=(a.eval x).cells.size:=by simp
   have f:i * sz+(a.eval x).cells.toList.length<=cs.length:=f;show Instr.fill (λi=>some (i * sz,sz)) cs.toArray ((i,a.eval x)::z.map λp=>(p.1,a.eval p.2))=_;unfold Instr.fill;simp only[b];rw[dq (by have j:=f;rw[A,b] at j;simp;exact j),<-E]
   congr 1
   rw[<-Array.foldl_toList,Array.toList_zipIdx];have:=Pj (a.eval x).cells.toList 0 (i * sz) cs.toArray (by simpa using f);simpa using this
  .exact h.elim
theorem Zco {sz:Nat}:∀{B:List (Nat × Operand)} {i:Nat} {own:Os} {I:Imm} {V:Va} {K1:List (List G)->Os->Prop},bsK t sz B i own K1->ARep N I V a t->Has I V own w ->
  ∃b own' I' V',∃vs:List Value,K1 b own'/\(V'.n=V.n/\V.kp V')/\Later own I V w own' I' V' w/\B.map (λp=>(p.1,a.eval p.2))=(vs.zipIdx i).map (λx=>(x.2,x.1))/\vs.length=b.length/\B.length=b.length /\
   (∀(i:Nat) r u,b[i]?=some r->(vs.map λv=>v.cells.toList)[i]?=some u->PW (VRep I') r u)/\(∀v∈vs,v.cells.size=sz)/\∀v∈vs,∀x∈v.cells.toList,x.oneCell'=true
 | [],i,own,I,V,K1,h,_,hH=>⟨[],own,I,V,[],h,⟨rfl,.refl _⟩,.refl hH,rfl,rfl,rfl,λi r u h=>by simp at h,by simp,by simp⟩
 | (j,x)::B,i,own,I,V,K1,h,ha,hH=>by
  unfold bsK at h;cases E:Nat.beq j i with
  | false=>rw[E] at h;exact h.elim
  | true =>
   rw[E] at h;have E:=aw E;subst E;obtain⟨g,h,T⟩:=B7 h ha hH;obtain⟨cs,h,W,-⟩:=He h T hH;have main:∀{c:List G} {L:Os} {M:Imm} {V1:Va},bsK t sz B (j+1) L (λb A=>K1 (c::b) A)->(V1.n=V.n/\V.kp V1)->Later own I V w L M V1 w->PW (VRep M) c (a.eval x).cells.toList->c.length=sz->Bp G.one c=true->∃b own' I' V',∃vs:List Value,K1 b own'/\(V'.n=V.n/\V.kp V')/\Later own I V w own' I' V' w/\(((j,x)::B).map λp=>(p.1,a.eval p.2))=(vs.zipIdx j).map (λx=>(x.2,x.1))/\vs.length=b.length/\((j,x)::B).length=b.length /\
     (∀(i:Nat) r u,b[i]?=some r->(vs.map λv=>v.cells.toList)[i]?=some u->PW (VRep I') r u)/\(∀v∈vs,v.cells.size=sz)/\∀v∈vs,∀x∈v.cells.toList,x.oneCell'=true:=λ{c L M V1} h z l f s q=>by
    obtain⟨b,o2,I2,V2,vs,J,F,H,O,h3,h4,h5,Z,h7⟩:=Zco (K1:=λb A=>K1 (c::b) A) h (ha.mono l.fro.mono l.va) l.has;refine⟨_,o2,I2,V2,a.eval x::vs,J,⟨F.1.trans z.1,z.2.trans (Nat.le_of_eq z.1.symm) F.2⟩,l.trans H,by simp[O,List.zipIdx_cons],by simp[h3],by simp[h4],λi r u hr U=>?_,λv C=>?_,λv C y Y=>?_⟩
    .cases i with
     | zero=>simp at hr U;subst hr U;exact f.mono λ_ _ h=>h.mono H.fro.mono
     | succ i=>exact h5 i r u (by simpa using hr) (by simpa using U)
    .rcases bq.1 C with rfl | C
     .have:=f.1;rw[s] at this;simpa using this.symm
     .exact Z v C
    .rcases bq.1 C with rfl | C
     .obtain⟨m,X,e⟩:=cu.1 Y;have D:m < c.length:=by rw[f.1];exact X
      exact Lt (f.2 m c[m] y (ap D) (by rw[ap X,e])) (Ao q _ (bw D))
     .exact h7 v C y Y
   split at h
   .obtain⟨c,L,M,V1,h,z,l,f⟩:=P5 h W hH;split at h
    .next s q=>exact main h z l f (aw s) q
    .exact h.elim
   .obtain⟨⟨s,q⟩,h⟩:=h;exact main h ⟨rfl,.refl _⟩ (.refl hH) ⟨W.1,λm g u J O=>(W.2 m g u J O).to_v (Mg (q g (ar J)))⟩ s (Fu λg T=>Z62 (q g T))
variable (hT:∀t i,look t tb=some i->TIok P t i) (hK:NxtB N own I V w K next) (hH:Has I V own w) (ha:ARep N I V a t) (hd:∀i,o.dst=some i->i < N)
include hT hH ha
theorem Z8u {ty:TypeId}{b:Array (Nat × Operand)}(ho:o.op=.build ty b)(h:match look ty tb with
  | none=>False
  | some i=>match i.flds with
   | []=>match i.kd with
    | .arr m _ sz=>Zdt t own m sz b.toList i.zero λl=>Hu (Nat.mul m sz) l λg=>K (put o.dst g t) own V.n
    | _=>False
   | f::fs=>Zas tb t own (f::fs) b.toList i.zero λl=>Hu i.zero.length l λg=>K (put o.dst g t) own V.n):QOk S P I V own w a t o K:=by
 cases hl:look ty tb with
 | none=>rw[hl] at h;exact h.elim
 | some i =>
  rw[hl] at h;have T:=hT ty i hl;dsimp only at h;have E:PW (CRep I V) i.zero (i.zero.map G.val):=Ss T;obtain⟨z,hz1,B⟩:=bg.1 T.zero;obtain⟨j,H,D⟩:=Option.bind_eq_some_iff.1 hz1;by_cases A:i.flds=[]
  .rw[A] at h;dsimp only at h;have J:=T.kd;split at h
   .next m e sz hk =>
    rw[hk] at J;obtain⟨hu,Z⟩:=(show P.underlying ty=some (.array m e)/\(P.info? e).map (·.size)=some sz from J);obtain⟨ie,X,C⟩:=bg.1 Z;obtain⟨l',s,U,W,h3⟩:=Z1f ha hH h E;obtain⟨g',Y,h5⟩:=Iw U W;refine⟨_,_,Y,h5,λu _=>?_⟩;have hb:P.built ty (b.map λp=>(p.1,a.eval p.2)).toList=some s.toArray:=by
     unfold Program.built;have e:z.cells=(i.zero.map G.val).toArray:=by rw[<-B]
     simp only[H,hu,D,X,C,e];simpa using h3
    have hr:=run_build (P:=P) u ty _ _ hb;simp only[execOp,ho,Sem.run_bind,Sem.run_pure];rw[hr];rfl
   .exact h.elim
  .have h:Zas tb t own i.flds b.toList i.zero λl=>Hu i.zero.length l λg=>K (put o.dst g t) own V.n:=by
    cases hq:i.flds with
    | nil=>exact du hq A
    | cons f fs=>rw[hq] at h;exact h
   obtain⟨F,hF,M,O⟩:=T.flds A;have q:∃c,F.toList.mapM (λf=>(P.info? f.type).map λi=>(f.offset,i.size))=some c:=by
    generalize F.toList=L at O
    induction L with
    | nil=>exact⟨[],rfl⟩
    | cons f L ih =>
     obtain⟨pl,q⟩:=ih λf hf=>O f (by simp[hf]);obtain⟨m,M⟩:=O f (by simp);cases hq:P.info? f.type with
     | none=>rw[hq] at M;simp at M
     | some iq=>exact⟨_,by simp only[List.mapM_cons,q,hq];rfl⟩
   obtain⟨c,q⟩:=q;rw[<-M] at h;obtain⟨l',s,U,W,h3⟩:=Z7h hT O q ha hH h E;obtain⟨g',Y,h5⟩:=Iw U W;refine⟨_,_,Y,h5,λu _=>?_⟩;have hb:P.built ty (b.map λp=>(p.1,a.eval p.2)).toList=some s.toArray:=by
    unfold Program.built;have e:z.cells=(i.zero.map G.val).toArray:=by rw[<-B]
    simp only[H,hF,D,q,e];simpa using h3
   have hr:=run_build (P:=P) u ty _ _ hb;simp only[execOp,ho,Sem.run_bind,Sem.run_pure];rw[hr];rfl
include hK hd in
theorem P1 {mo:Mo}{ty:TypeId}{len:Nat}{c:Array (Nat × Operand)}(ho:o.op=.buildSlice ty len c)(h:match look ty tb with
  | some ⟨_,_,some (e,sz),_,_,_,_⟩=>match Nat.beq c.toList.length len,Nat.ble (len * sz) 16777216 with
   | true,true=>bsK t sz c.toList 0 own λf w'=>Zd5 (Za3 tb mo ty sz) ((V.n,.slc f e sz)::w') V.n λg F=>K (put o.dst g t) F (V.n+1)
   | _,_=>False
  | _=>False):o.wp P a w next Q:=by
 split at h
 case h_2=>exact h.elim
 next ag ze e sz fl st ik kd hl =>
 split at h
 case h_2=>exact h.elim
 next A O =>
 have A:=aw A;have O:=dp O;obtain⟨q,ie,z,h1,h2,M,h4,Y,-⟩:=(hT _ _ hl).elem e sz rfl;obtain⟨f,o1,I1,V1,vs,J,⟨j,T⟩,D,k2,W,k4,k5,k6,k7⟩:=Zco h ha hH;have l:len=f.length:=by rw[<-A];exact k4
 have H:(vs.map λv=>v.cells.toList).flatten.length=f.length * sz:=by rw[Bq (sz:=sz) λu q=>by obtain⟨v,U,rfl⟩:=bj.1 q;simpa using k6 v U];simp[W]
 have B:(execOp a.eval o).run P w=.ok (.value (.slice (some ⟨w.heap.size,0,none⟩) len len)) (w.alloc (.cells (vs.map λv=>v.cells.toList).flatten.toArray e)):=by
  by_cases h0:len=0
  .subst h0;have Z:f=[]:=ay l.symm;have X:vs=[]:=ay (by rw[W,Z];rfl);have hp0:c=#[]:=Array.eq_empty_of_size_eq_zero (by simpa using A);subst X hp0;have hs:(sizeOf e).run P w=.ok sz w:=Bt (by rw[h1];simp[M]) w;have e0:(Array.range 0:Array Nat)=#[]:=Array.eq_empty_of_size_eq_zero (by simp);simp[execOp,ho,Instr.buildSlice,run_underlying q,hs,Result.andThen,Instr.fill,newRow,e0]
  .have hwp:=run_buildSlice (P:=P) w ty e len (c.map λp=>(p.1,a.eval p.2)) (vs.map λv=>v.cells.toList).flatten.toArray ie z q h1 h2 (by rw[M];omega) (by rw[M];exact Nat.mul_ne_zero h0 (by omega)) (by
    have hf:=Go.Great.fill_whole (s:=sz) Y vs ((Array.range (len * ie.size)).map (z.cells[· % z.cells.size]!)) k6 (by simp[M,W,l]);rw[M];rw[<-k2,M] at hf;simpa [List.flatMap_def] using hf)
   simp only[execOp,ho,Sem.run_bind,Sem.run_pure];rw[hwp];rfl
 have E:=Dl (r:=.slc f e sz) D.has ((ab _ _).alloc (au _) (.cells (vs.map λv=>v.cells.toList).flatten.toArray e)) 0 (.slice (some ⟨w.heap.size,0,none⟩) len len) (·=w.heap.size) (λk e=>⟨Nat.le_of_eq e.symm,by subst e;simp⟩) ⟨λb=>by simp[Va.push,Value.ownBlock,eq_comm],vs.map λv=>v.cells.toList,⟨H,.inr ⟨w.heap.size,len,_,by simp[Va.push,l],av _,heap_alloc_new _ _,by omega,?_,by simp only[List.size_toArray];rw[H,l],by simp only;rw[<-H];exact List.take_length⟩⟩,by simp[W],λi r u hr q=>(k5 i r u hr q),λu q=>by obtain⟨v,U,rfl⟩:=bj.1 q;simpa using k6 v U,λu q x hx=>by obtain⟨v,U,rfl⟩:=bj.1 q;exact k7 v U x hx,Y⟩
 .have C:(V1.push 0 (.slice (some ⟨w.heap.size,0,none⟩) len len) (·=w.heap.size)).n=V.n+1:=by simp[Va.push,j]
  have L:CRep I1 (V1.push 0 (.slice (some ⟨w.heap.size,0,none⟩) len len) (·=w.heap.size)) (.osl V.n) (.slice (some ⟨w.heap.size,0,none⟩) len len):=⟨by show V.n < V1.n+1;omega,by simp[Va.push,j]⟩;rw[<-j] at J;cases hsb:Za3 tb mo ty sz with
  | false =>
   rw[hsb] at J;exact Sg (Q:=Q) (g:=.osl V.n) hK ha hd B (D.trans E) ((ab _ _).alloc (au _) _) (T.trans (Nat.le_of_eq j.symm) (.push _ _ _ _)) (TRep.of_c (g:=.osl V.n) L) (by rw[C,<-j];exact J)
  | true =>
   rw[hsb] at J;have J:Z3g ((V1.n,.slc f e sz)::o1) (.osl V1.n) λg F=>K (put o.dst g t) F (V1.n+1):=J;rw[<-j] at L;obtain⟨g',o3,I3,V3,p1,⟨p2,p3⟩,p4,p5⟩:=Di J L E.has;exact Sg (Q:=Q) (g:=g') hK ha hd B ((D.trans E).trans p4) ((ab _ _).alloc (au _) _) ((T.trans (Nat.le_of_eq j.symm) (.push _ _ _ _)).trans (by rw[C];omega) p3) (.of_v p5) (by rw[p2,C,<-j];exact p1)
 .have:len<=len * sz:=Nat.le_mul_of_pos_right _ Y;unfold maxLen;omega
omit hT hK hH ha hd in
theorem Zek {I:Imm}{z x:Value}(h:VRep I (.v z) x):x=z:=by cases h;rfl
omit hT hK hH ha hd in
theorem Z4t {α:Type}(k:Nat)(x:α):(List.replicate k [x]).flatten=List.replicate k x:=by
 induction k with
 | zero=>rfl
 | succ k ih=>rw[List.replicate_succ,List.replicate_succ,cm,ih];rfl
omit hT hK hH ha hd in
theorem Z0g (b:Array Value)(sz k:Nat)(e:b.size=sz)(q:0 < sz):(madeCells b (k * sz)).toList=(List.replicate k b.toList).flatten:=by
 have p:(List.replicate k b.toList).flatten.length=k * sz:=by rw[Bq (sz:=sz) λu l=>by rw[db l];simpa using e];simp
 refine List.ext_getElem (by rw[p];simp[madeCells]) λj C f=>?_;have s:j < k * sz:=by rw[p] at f;exact f
 have A:j / sz < k:=(Nat.div_lt_iff_lt_mul q).2 s;have B:j % sz < sz:=Nat.mod_lt _ q;have z:(madeCells b (k * sz)).toList[j]=b[j % sz]!:=by simp[madeCells,e]
 have h:(List.replicate k b.toList).flatten[j / sz * sz+j % sz]?=some b[j % sz]!:=Cm (u:=b.toList) (λu l=>by rw[db l];simpa using e) (by rw[List.getElem?_replicate,dt A]) (by
  have c:j % sz < b.size:=by omega
  rw[Array.getElem?_toList,am c,getElem!_pos b _ c])
 rw[Nat.div_add_mod'] at h;rw[z];rw[ap f] at h;exact(cv h).symm
include hK hd in
theorem Wp {ty:TypeId}{len cap:Operand}(ho:o.op=.makeSlice ty len cap){ag:Bool}{zr A:List G}{e sz:Nat}{fl U:List (TypeId × Nat)}{st st2:Bool}{ik ik2:Option IntKind}{kd kd2:KD}{X:Option (TypeId × Nat)}(hl:look ty tb=some ⟨ag,zr,some (e,sz),fl,st,ik,kd⟩)(Y:look e tb=some ⟨true,A,X,U,st2,ik2,kd2⟩)(h:match Nat.beq sz A.length,Bp Nm A with
        | true,true=>ev t own len λp=>ev t own cap λq=>match p,q with
         | .v (.int .i64 m),.v (.int .i64 c)=>(0<=m/\m<=1073741824/\c=m/\m * sz<=1073741824)/\K (put o.dst (.osl V.n) t) ((V.n,.slc (List.replicate m.toNat A) e sz)::own) (V.n+1)
         | _,_=>False
        | _,_=>False):o.wp P a w next Q:=by
 split at h
 case h_2=>exact h.elim
 next B L =>
 have B:=aw B;obtain⟨l,O,f,h1,h2,h3,h4,h5,h6⟩:=(hT _ _ hl).elem e _ rfl;have hz:=hT _ _ Y;obtain⟨p,h,hp⟩:=B7 h ha hH;obtain⟨q,h,hq⟩:=B7 h ha hH;split at h
 case h_2=>exact h.elim
 next m c =>
 obtain⟨⟨g1,g2,g3,g4⟩,h⟩:=h;subst g3;obtain⟨k,rfl⟩:=al g1;have hp:a.eval len=.int .i64 k:=Zek hp;have hq:a.eval cap=.int .i64 k:=Zek hq;have Z:(P.info? e).bind (·.zero)=some f:=by rw[h1];exact h2
 have z:f.cells.toList=A.map G.val:=by have:=hz.zero;rw[Z] at this;simpa using this
 have C:f.cells.size=sz:=by rw[<-cq,z,ao,B]
 have J:=run_make (P:=P) w ty e O f l h1 h2 .i64 .i64 k k (by omega) (cd _) (by
  have:O.bytes * k<=65536 * 1073741824:=Nat.mul_le_mul h6 (by omega);have e:(O.bytes:Int) * (k:Int)=((O.bytes * k:Nat):Int):=by rw[Int.natCast_mul]
  rw[e];omega) (by omega)
 simp only[Int.toNat_natCast,h3] at J;have E:(execOp a.eval o).run P w=.ok (.value (.slice (some ⟨w.heap.size,0,none⟩) k k)) (w.alloc (.cells (madeCells f.cells (k * sz)) e)):=by simp only[execOp,ho,hp,hq,Sem.run_bind,Sem.run_pure];rw[J];rfl
 have F:=Z0g f.cells sz k C h5;have W:∀I2:Imm,PW (VRep I2) A f.cells.toList:=λI2=>by
  rw[z];refine⟨by simp,λj g u M l=>?_⟩;rw[ax,M] at l;obtain⟨x,rfl,-⟩:=Ly (Ao L g (ar M));obtain rfl:x=u:=by simpa [G.val] using l
  exact .v _
 have H:∀x∈f.cells.toList,x.oneCell'=true:=λx D=>by rw[z] at D;obtain⟨g,M,rfl⟩:=bj.1 D;obtain⟨y,rfl,hy⟩:=Ly (Ao L g M);exact hy
 have s:∀u∈List.replicate k f.cells.toList,u.length=sz:=λu l=>by rw[db l];simpa using C
 have T:=Dl (r:=.slc (List.replicate k A) e sz) hH ((ab _ _).alloc (au _) (.cells (madeCells f.cells (k * sz)) e)) 0 (.slice (some ⟨w.heap.size,0,none⟩) k k) (·=w.heap.size) (λk e=>⟨Nat.le_of_eq e.symm,by subst e;simp⟩) ⟨λb=>by simp[Va.push,Value.ownBlock,eq_comm],List.replicate k f.cells.toList,⟨by rw[Bq s];simp,.inr ⟨w.heap.size,k,_,by simp[Va.push],av _,heap_alloc_new _ _,by simp,?_,by rw[<-cq,F,Bq s];simp,by rw[F,ba (by rw[Bq s];simp)]⟩⟩,by simp,λi r u hr l=>?_,s,λu l x D=>by rw[db l] at D;exact H x D,h5⟩
 .exact Sg (Q:=Q) (g:=.osl V.n) hK ha hd E T ((ab _ _).alloc (au _) _) (.push _ _ _ _) (TRep.of_c (g:=.osl V.n) ⟨by show V.n < V.n+1;omega,by simp[Va.push]⟩) h
 .unfold maxLen;omega
 .rw[db (ar hr),db (ar l)];exact W _
include hK hd in
theorem Sb {ty:TypeId}{len cap:Operand}(ho:o.op=.makeSlice ty len cap)(h:match look ty tb with
  | some ⟨_,_,some (e,sz),_,_,_,_⟩=>match look e tb with
   | some ⟨false,[z],_,_,_,_,_⟩=>match Nat.beq sz 1 with
    | true=>ev t own len λp=>ev t own cap λq=>match p,q with
     | .v (.int .i64 m),.v (.int .i64 c)=>(0<=m/\m<=1073741824/\c=m)/\K (put o.dst (.osl V.n) t) ((V.n,.slc (List.replicate m.toNat [z]) e 1)::own) (V.n+1)
     | _,_=>False
    | false=>False
   | some ⟨true,D,_,_,_,_,_⟩=>match Nat.beq sz D.length,Bp Nm D with
    | true,true=>ev t own len λp=>ev t own cap λq=>match p,q with
     | .v (.int .i64 m),.v (.int .i64 c)=>(0<=m/\m<=1073741824/\c=m/\m * sz<=1073741824)/\K (put o.dst (.osl V.n) t) ((V.n,.slc (List.replicate m.toNat D) e sz)::own) (V.n+1)
     | _,_=>False
    | _,_=>False
   | _=>False
  | _=>False):o.wp P a w next Q:=by
 split at h
 case h_2=>exact h.elim
 next ag D e sz fl st ik kd hl =>
 split at h
 case h_2 D Z Y st2 ik2 kd2 C=>exact Wp hT hK hH ha hd ho hl C h
 case h_3=>exact h.elim
 next z Z Y st2 ik2 kd2 C =>
 split at h
 case h_2=>exact h.elim
 next s =>
 have s:=aw s;subst s;obtain⟨A,ie,l,U,W,h3,h4,h5,h6⟩:=(hT _ _ hl).elem e _ rfl;have T:=hT _ _ C;obtain⟨p,h,hp⟩:=B7 h ha hH;obtain⟨q,h,hq⟩:=B7 h ha hH;split at h
 case h_2=>exact h.elim
 next m c =>
 obtain⟨⟨g1,g2,g3⟩,h⟩:=h;subst g3;obtain⟨k,rfl⟩:=al g1;have hp:a.eval len=.int .i64 k:=Zek hp;have hq:a.eval cap=.int .i64 k:=Zek hq;have H:(P.info? e).bind (·.zero)=some l:=by rw[U];exact W
 have J:l.cells=#[l]:=by simpa using T.zag l H
 have E:l=z.val:=by have:=T.zero;rw[H] at this;simp[J] at this;exact this
 have B:(P.info? e).map (λi=>(i.zero,i.size,i.bytes))=some (some l,1,ie.bytes):=by rw[U];simp[W,h3]
 have hmk:=run_make_row' (P:=P) ty e l ie.bytes A B J .i64 .i64 k (by have:ie.bytes * k<=65536 * 1073741824:=Nat.mul_le_mul h6 (by omega);omega) (by omega) w
 have L:(execOp a.eval o).run P w=.ok (.value (.slice (some ⟨w.heap.size,0,none⟩) k k)) (w.alloc (.cells (madeCells #[l] k) e)):=by simp only[execOp,ho,hp,hq,Sem.run_bind,Sem.run_pure];rw[hmk];rfl
 have M:(madeCells #[l] k).toList=List.replicate k l:=by refine List.ext_getElem (by simp[madeCells]) λj U W=>?_;simp[madeCells,Nat.mod_one]
 have F:(List.replicate k [l]).flatten=List.replicate k l:=Z4t k l;have hpz:∀I2:Imm,VRep I2 z l:=λI2=>by
  have f:=T.zok;rw[E];have f:zOK z=true:=by simpa [Bp] using f
  revert f;cases z<;>intro f<;>first | (cases f;done) | exact .v _ | exact .ff | exact .tt | exact .nl | exact .un
 have O:l.oneCell'=true:=by
  have f:zOK z=true:=by simpa [Bp] using T.zok
  rw[E];revert f;cases z<;>intro f<;>first | (cases f;done) | rfl | exact f | (simpa [zOK] using f)
 have X:=Dl (r:=.slc (List.replicate k [z]) e 1) hH ((ab _ _).alloc (au _) (.cells (madeCells #[l] k) e)) 0 (.slice (some ⟨w.heap.size,0,none⟩) k k) (·=w.heap.size) (λk e=>⟨Nat.le_of_eq e.symm,by subst e;simp⟩) ⟨λb=>by simp[Va.push,Value.ownBlock,eq_comm],List.replicate k [l],⟨by rw[F];simp,.inr ⟨w.heap.size,k,_,by simp[Va.push],av _,heap_alloc_new _ _,by simp,?_,by rw[<-cq,M];simp,by rw[M,F];simp⟩⟩,by simp,λi r u hr A=>?_,λu A=>by rw[db A];rfl,λu A x hx=>by rw[db A] at hx;rw[bx.1 hx];exact O,Nat.one_pos⟩
 .exact Sg (Q:=Q) (g:=.osl V.n) hK ha hd L X ((ab _ _).alloc (au _) _) (.push _ _ _ _) (TRep.of_c (g:=.osl V.n) ⟨by show V.n < V.n+1;omega,by simp[Va.push]⟩) h
 .unfold maxLen;omega
 .rw[db (ar hr),db (ar A)];exact .cons (hpz _) .nil
end
section
variable {P:Program} {tb:List (Nat × TI)} {N n:Nat} {I I' I0:Imm} {V V' V0:Va} {a:Act} {t:Ts} {own own' own0:Os} {w w' w0:World} {g:G} {y:Value} {d:Option Tmp}
variable {XL:List Nat} {S:World->Prop} {K:Ts->Os->Nat->Prop} {next:Act->World->Prop} {Q:Exit->Act->World->Prop} {o:Oper} {r:R}
theorem Z1n {K1:List (List G)->Prop}(h:U9 own g K1)(C:TRep I V g y)(hH:Has I V own w):∃f A c,K1 f/\y=.slice A f.length c/\(A=none->f=[]):=by
 cases g with
 | nl=>cases(show VRep I .nl y from C);exact⟨_,none,0,h,rfl,λ_=>rfl⟩
 | sl l =>
  cases(show VRep I (.sl l) y from C) with
  | sl _ A c sz u hc B hz hh hu=>exact⟨_,A,c,h,rfl,λe=>ay (by have:=B e;omega)⟩
 | osl k =>
  obtain⟨F,rfl⟩:=(show k < V.n/\y=V.s k from C);unfold U9 at h;dsimp only at h;split at h
  .next f e sz hr =>
   obtain⟨-,rs,⟨-,z⟩,-⟩:=hH.each k _ hr;rcases z with⟨j,h8⟩ | ⟨b,cap,cur,j,-⟩
   .exact⟨_,none,0,h,by rw[j,h8],λ_=>ay h8⟩
   .exact⟨_,_,_,h,j,λe=>by cases e⟩
  .next f sz hr =>
   have E:=(hH.each k _ hr).2.1;generalize V.s k=y at E;cases E with
   | sl _ A c sz u hc B hz hh hu=>exact⟨_,A,c,h,rfl,λe=>ay (by have:=B e;omega)⟩
  .next f e sz hr =>
   obtain⟨-,rs,⟨-,z⟩,-⟩:=hH.each k _ hr;rcases z with⟨j,h8⟩ | ⟨b,q,cap,cur,j,-⟩
   .exact⟨_,none,0,h,by rw[j,h8],λ_=>ay h8⟩
   .exact⟨_,_,_,h,j,λe=>by cases e⟩
  .exact h.elim
 | osv k sz lo hi =>
  obtain⟨F,⟨L,p⟩,rfl⟩:=(show k < V.n/\(lo<=hi/\hi<=N6 (V.s k))/\y=L6 sz (V.s k) lo hi from C);unfold U9 at h;dsimp only at h;split at h
  .next f e J hr =>
   obtain⟨-,rs,⟨-,z⟩,-⟩:=hH.each k _ hr;have key:∃A c,V.s k=.slice A f.length c/\(A=none->f.length=0):=by
    rcases z with⟨j,h8⟩ | ⟨b,cap,cur,j,-⟩
    .exact⟨none,0,by rw[j,h8],λ_=>h8⟩
    .exact⟨_,_,j,λe=>by cases e⟩
   obtain⟨A,c,H,M⟩:=key;rw[H] at p⊢;have p:hi<=f.length:=p;have D:(Fr f lo hi).length=hi - lo:=by unfold Fr;simp;omega
   refine⟨_,(if c=lo then A else A.map (·.add (lo * sz))),c - lo,h,by rw[D];rfl,λe=>ay ?_⟩;have B:A=none:=by
    cases A with
    | none=>rfl
    | some x=>split at e<;>cases e
   have:=M B;rw[D];omega
  .exact h.elim
 | _=>exact False.elim h
theorem V6 {sz:Nat}{K1:List (List G)->Prop}(h:Z37 own g sz K1)(hg:TRep I V g y)(hH:Has I V own w):∃new A c,∃rs:List (List Value),K1 new/\y=.slice A new.length c/\(A=none->new.length=0/\c=0)/\rs.length=new.length/\(∀(i:Nat) r u,new[i]?=some r->rs[i]?=some u->PW (VRep I) r u)/\(∀u∈rs,u.length=sz)/\(∀u∈rs,∀x∈u,x.oneCell'=true)/\∀a,A=some a->∀(j:Nat) u,rs.flatten[j]?=some u->w.cell? (a.add j)=some u:=by
 cases g with
 | nl=>cases(show VRep I .nl y from hg);exact⟨[],none,0,[],h,rfl,λ_=>⟨rfl,rfl⟩,rfl,λi r u h=>by simp at h,by simp,by simp,λa e=>by cases e⟩
 | sl l =>
  obtain⟨hr,h⟩:=h;obtain⟨A,c,rs,e,h1,L,T,H,O,h6⟩:=Z04 (show VRep I (.sl l) y from hg) hH.mem λr hm=>(hr r hm).1;refine⟨l,A,c,rs,h,e,λe=>⟨by rw[(L e).1];rfl,(L e).2⟩,T,H,O,λu B x Z=>?_,λa ha j u B=>(h6 a ha j u B).2⟩;obtain⟨i,p,e⟩:=cu.1 B;have hi':i < l.length:=by omega
  have hp:=H i l[i] u (ap hi') (by rw[ap p,e]);obtain⟨m,hm,e2⟩:=cu.1 Z;have hm':m < l[i].length:=by rw[hp.1];exact hm
  exact Lt (hp.2 m l[i][m] x (ap hm') (by rw[ap hm,e2])) (List.all_eq_true.1 (hr _ (bw hi')).2 _ (bw hm'))
 | osl k =>
  obtain⟨hk,rfl⟩:=(show k < V.n/\y=V.s k from hg);unfold Z37 at h;dsimp only at h;split at h
  .next f e sz' hr =>
   split at h
   .next J =>
    have J:=aw J;subst J;obtain⟨-,rs,M,L,T,H,O,h6⟩:=hH.each k _ hr;rcases M.2 with⟨C,h8⟩ | ⟨b,cap,cur,C,-⟩
    .exact⟨f,none,0,rs,h,by rw[C,h8],λ_=>⟨h8,rfl⟩,L,T,H,O,λa e=>by cases e⟩
    .exact⟨f,_,_,rs,h,C,(λe=>by cases e),L,T,H,O,λa e j u B=>by cases e;exact M.cells (g:=b) (by rw[C];rfl) j u B⟩
   .exact h.elim
  .exact h.elim
 | osv k sz0 lo p =>
  obtain⟨hk,⟨b1,D⟩,rfl⟩:=(show k < V.n/\(lo<=p/\p<=N6 (V.s k))/\y=L6 sz0 (V.s k) lo p from hg);unfold Z37 at h;dsimp only at h;split at h
  .next f e sz' hr =>
   split at h
   .next J E =>
    have J:=aw J;have E:=aw E;subst J E;obtain⟨-,rs,M,L,T,H,O,h6⟩:=hH.each k _ hr;have z:(Fr f lo p).length=p - lo:=by unfold Fr;rw[bk,be];rcases M.2 with⟨C,h8⟩ | ⟨b,cap,cur,C,-⟩<;>(rw[C] at D;simp only[N6] at D;omega)
    have hR:∀(i:Nat) r u,(Fr f lo p)[i]?=some r->((rs.take p).drop lo)[i]?=some u->PW (VRep I) r u:=λi r u F X=>by
     unfold Fr at F;rw[cf] at F X;have W:lo+i < p:=by have:=(aq.1 F).1;rw[be] at this;omega
     rw[List.getElem?_take_of_lt W] at F X;exact T _ r u F X
    rcases M.2 with⟨C,h8⟩ | ⟨b,cap,cur,C,-,-,h9,-⟩
    .have U:p=0/\lo=0:=by rw[C] at D;simp only[N6] at D;omega
     obtain⟨rfl,rfl⟩:=U;refine⟨Fr f 0 0,none,0,(rs.take 0).drop 0,h,by rw[C,z];rfl,λ_=>⟨z,rfl⟩,by rw[z];simp,hR,by simp,by simp,λa e=>by cases e⟩
    .refine⟨Fr f lo p,if cap=lo then some ⟨b,0,none⟩ else(some (⟨b,0,none⟩:Addr)).map (·.add (lo * sz0)),cap - lo,(rs.take p).drop lo,h,by rw[C,z];rfl,λe=>(by split at e<;>cases e),by rw[z,bk,be];rw[C] at D;simp only[N6] at D;omega,hR,λu B=>H u (bn (ck B)),λu B=>O u (bn (ck B)),λa e j u B=>?_⟩;have hlr:p<=rs.length:=by rw[L];rw[C] at D;simpa [N6] using D
     have Y:rs.flatten[lo * sz0+j]?=some u:=by
      have e1:rs=rs.take lo++((rs.take p).drop lo++rs.drop p):=by
       conv=>lhs;rw[<-dj p rs,<-dj lo (rs.take p),List.take_take,ct b1,cg]
      have e2:(rs.take lo).flatten.length=lo * sz0:=by
       have:∀(l:List (List Value)),(∀u∈l,u.length=sz0)->l.flatten.length=l.length * sz0:=λl=>by
        induction l with
        | nil=>intro _;simp
        | cons u l ih=>intro h;rw[cm,bf,h u (by simp),ih λx Z=>h x (by simp[Z]),bm,Nat.succ_mul];omega
       rw[this _ λu B=>H u (bn B),be,ct (by omega)]
      rw[e1,List.flatten_append,bo (by omega),e2,Nat.add_sub_cancel_left,List.flatten_append,bu (aq.1 B).1];exact B
     split at e
     .next hc =>
      exfalso;have:lo=p:=by
       have:p<=cap:=by rw[C] at D;simp only[N6] at D;omega
       omega
      subst this;rw[List.drop_of_length_le (by rw[be];omega)] at B;simp at B
     .cases e;have:=M.cells (g:=b) (by rw[C];rfl) (lo * sz0+j) u Y;show w.cell? ((Addr.add ⟨b,0,none⟩ (lo * sz0)).add j)=some u;rw[Addr.add_lit,Addr.add_lit];rw[Addr.add_lit] at this;rw[show 0+lo * sz0+j=0+(lo * sz0+j) by omega];exact this
   .exact h.elim
  .next f e' sz' hr =>
   split at h
   .next J E =>
    have J:=aw J;have E:=aw E;subst J E;obtain⟨-,rs,M,L,T,H,O,h6⟩:=hH.each k _ hr;have z:(Fr f lo p).length=p - lo:=by unfold Fr;rw[bk,be];rcases M.2 with⟨C,h8⟩ | ⟨b,q,cap,cur,C,-⟩<;>(rw[C] at D;simp only[N6] at D;omega)
    have hR:∀(i:Nat) r u,(Fr f lo p)[i]?=some r->((rs.take p).drop lo)[i]?=some u->PW (VRep I) r u:=λi r u F X=>by
     unfold Fr at F;rw[cf] at F X;have W:lo+i < p:=by have:=(aq.1 F).1;rw[be] at this;omega
     rw[List.getElem?_take_of_lt W] at F X;exact T _ r u F X
    rcases M.2 with⟨C,h8⟩ | ⟨b,q,cap,cur,C,hgg,h9,hcm,hcs,htk⟩
    .have U:p=0/\lo=0:=by rw[C] at D;simp only[N6] at D;omega
     obtain⟨rfl,rfl⟩:=U;refine⟨Fr f 0 0,none,0,(rs.take 0).drop 0,h,by rw[C,z];rfl,λ_=>⟨z,rfl⟩,by rw[z];simp,hR,by simp,by simp,λa e=>by cases e⟩
    .refine⟨Fr f lo p,if cap=lo then some ⟨b,q,none⟩ else(some (⟨b,q,none⟩:Addr)).map (·.add (lo * sz0)),cap - lo,(rs.take p).drop lo,h,by rw[C,z];rfl,λe=>(by split at e<;>cases e),by rw[z,bk,be];rw[C] at D;simp only[N6] at D;omega,hR,λu B=>H u (bn (ck B)),λu B=>O u (bn (ck B)),λa e j u B=>?_⟩;have hlr:p<=rs.length:=by rw[L];rw[C] at D;simpa [N6] using D
     have Y:rs.flatten[lo * sz0+j]?=some u:=by
      have e1:rs=rs.take lo++((rs.take p).drop lo++rs.drop p):=by
       conv=>lhs;rw[<-dj p rs,<-dj lo (rs.take p),List.take_take,ct b1,cg]
      have e2:(rs.take lo).flatten.length=lo * sz0:=by
       have:∀(l:List (List Value)),(∀u∈l,u.length=sz0)->l.flatten.length=l.length * sz0:=λl=>by
        induction l with
        | nil=>intro _;simp
        | cons u l ih=>intro h;rw[cm,bf,h u (by simp),ih λx Z=>h x (by simp[Z]),bm,Nat.succ_mul];omega
       rw[this _ λu B=>H u (bn B),be,ct (by omega)]
      rw[e1,List.flatten_append,bo (by omega),e2,Nat.add_sub_cancel_left,List.flatten_append,bu (aq.1 B).1];exact B
     split at e
     .next hc =>
      exfalso;have:lo=p:=by
       have:p<=cap:=by rw[C] at D;simp only[N6] at D;omega
       omega
      subst this;rw[List.drop_of_length_le (by rw[be];omega)] at B;simp at B
     .cases e;show w.cell? ((Addr.add ⟨b,q,none⟩ (lo * sz0)).add j)=some u;rw[Addr.add_lit,Addr.add_lit,cell_of_row w b _ cur e' (0,0) hgg];rw[<-htk,br] at Y;split at Y
      .rw[cf] at Y;rw[show q+lo * sz0+j=q+(lo * sz0+j) by omega];simpa using Y
      .cases Y
   .exact h.elim
  .exact h.elim
 | _=>exact False.elim h
theorem Ja (h:Has I V own w){k:Nat}{O:R}(T:look k own=some O)(W:w'.os=w.os)(htp:w'.tape=w.tape)(hou:w'.output=w.output)(L:w.heap.size<=w'.heap.size)(M:∀b,b < w.heap.size->¬V.f k b->w'.heap[b]?=w.heap[b]?)
  (s:Value) (f:Nat->Prop) (hf:∀b,f b->(V.f k b\/w.heap.size<=b)/\b < w'.heap.size) (hr:RRep I ((V.drop k).push 0 s f) V.n w' r):Later own I V w ((V.n,r)::(k,.gone)::own) I ((V.drop k).push 0 s f) w':=by
 have X:=h.num k O T;have H:∀j r',look j own=some r'->j≠k->∀b,V.f j b->¬V.f k b:=λj r' p H b c l=>H (h.disj j k r' O b p T c l);have z:∀j r',look j ((V.n,r)::(k,.gone)::own)=some r'->(j=V.n/\r'=r)\/(j≠V.n/\j=k/\r'=.gone)\/(j≠V.n/\j≠k/\look j own=some r'):=λj r' p=>by
  rw[Af] at p;split at p
  .next e=>cases p;exact .inl ⟨e,rfl⟩
  .next e =>
   rw[Af] at p;split at p
   .next q=>cases p;exact .inr (.inl ⟨e,q,rfl⟩)
   .next q=>exact .inr (.inr ⟨e,q,p⟩)
 have hV:V.le ((V.drop k).push 0 s f):=⟨Nat.le_succ _,λj p=>by simp[Va.push,Va.drop,Nat.ne_of_lt p]⟩;have F:((V.drop k).push 0 s f).f V.n=f:=by simp[Va.push,Va.drop]
 have A:∀j,j≠V.n->j≠k->((V.drop k).push 0 s f).f j=V.f j:=λj D h2=>by simp[Va.push,Va.drop,D,h2]
 have B:∀b,¬((V.drop k).push 0 s f).f k b:=λb=>by simp[Va.push,Va.drop,Nat.ne_of_lt X]
 refine⟨⟨h.mem.keep λb o x hx=>M b (h.mem.lt hx) λJ=>(by have:=(h.foot k O b T J).2 o;rw[hx] at this;cases this),λj r' p=>?_,λj r' p=>?_,λj r' b p c=>?_,λj U r1 Z b p Y c l=>?_⟩,⟨W,htp,hou,L,λb c hn=>⟨M b c (hn k O T),λ_=>rfl⟩,λ_ _ _ h=>h,λj r' b p c hlt=>?_⟩,hV⟩
 .rcases z j r' p with⟨e,-⟩ | ⟨-,e,-⟩ | ⟨-,-,e⟩
  .rw[e];exact dc _
  .rw[e];exact Nat.lt_succ_of_lt X
  .exact Nat.lt_succ_of_lt (h.num j r' e)
 .rcases z j r' p with⟨e,q⟩ | ⟨-,e,q⟩ | ⟨E,C,e⟩
  .rw[e,q];exact hr
  .rw[e,q];exact B
  .exact(h.each j r' e).keep (.refl _) hV (h.num j r' e) (A j E C) W L λb c=>M b (h.foot j r' b e c).1 (H j r' e C b c)
 .rcases z j r' p with⟨e,q⟩ | ⟨-,e,q⟩ | ⟨E,C,e⟩
  .rw[e,F] at c;refine⟨(hf b c).2,λo=>?_⟩;rcases(hf b c).1 with D | D
   .exact(h.foot k O b T D).2 o
   .cases hI:I b o with
    | none=>rfl
    | some x=>exact du (h.mem.lt hI) (by omega)
  .rw[e] at c;exact du c (B b)
  .rw[A j E C] at c;exact⟨bc (h.foot j r' b e c).1 L,(h.foot j r' b e c).2⟩
 .have key:∀j r',look j own=some r'->j≠V.n->j≠k->V.f j b->¬f b:=λj r' p E C c J=>by
   rcases(hf b J).1 with D | D
   .exact H j r' p C b c D
   .have:=(h.foot j r' b p c).1;omega
  rcases z j r1 p with⟨e,-⟩ | ⟨-,e,-⟩ | ⟨E,C,e⟩
  .rcases z U Z Y with⟨q,-⟩ | ⟨-,q,-⟩ | ⟨e1',e2',q⟩
   .rw[e,q]
   .rw[q] at l;exact du l (B b)
   .rw[e,F] at c;rw[A U e1' e2'] at l;exact du c (key U Z q e1' e2' l)
  .rw[e] at c;exact du c (B b)
  .rw[A j E C] at c;rcases z U Z Y with⟨q,-⟩ | ⟨-,q,-⟩ | ⟨e1',e2',q⟩
   .rw[q,F] at l;exact du l (key j r1 e E C c)
   .rw[q] at l;exact du l (B b)
   .rw[A U e1' e2'] at l;exact h.disj j U r1 Z b e q c l
 .rcases z j r' p with⟨e,-⟩ | ⟨-,e,-⟩ | ⟨E,C,e⟩
  .rw[e,F] at c;rcases(hf b c).1 with D | D
   .exact⟨k,O,T,D⟩
   .omega
  .rw[e] at c;exact du c (B b)
  .rw[A j E C] at c;exact⟨j,r',e,c⟩
theorem Rq (t ty e:TypeId)(i:TypeInfo)(z:Value)(size bytes:Nat)(U:P.underlying t=some (.slice e))(W:P.info? e=some i)(hz:i.zero=some z)
  (p:i.size=size) (T:i.bytes=bytes) (H:z.cells.size=size) (L:0 < size) (v:Value) (n:Nat) (xs:List Value) (l:Ep w e size v n xs)
  (A:Option Addr) (m c:Nat) (f:List Value) (D:f.length=m * size) (hA:A=none->m=0/\c=0) (h:∀a,A=some a->∀j u,f[j]?=some u->w.cell? (a.add j)=some u) (h1:∀u∈f,u.oneCell'=true)
  (F:n+m<=maxLen) (B:(n+m) * bytes<=140737488355328) :
  ∃C w',(Builtin.append_ #[t,t] ty #[v,.slice A m c]).run P w=.ok C w'/\Ep w' e size C (n+m) (xs++f)/\w.grownBy w' v.ownBlock/\(C.ownBlock=v.ownBlock\/∃g,C.ownBlock=some g/\w.heap.size<=g/\g < w'.heap.size):=by
 rcases l.2 with⟨rfl,rfl⟩ | ⟨g,q,cap,cur,rfl,hg,hn,hm,hc,htake⟩
 .have hx:xs=[]:=ay (by simpa using l.1);subst hx;obtain⟨C,w',r1,O,E,r4⟩:=Z2l (P:=P) (w:=w) t ty e i z size bytes U W hz p T H L (.slice none 0 0) 0 [] (World.ownsRow_nil w 0 e size) A m c f D hA h h1 F B;exact⟨C,w',r1,Wd O,E,r4⟩
 cases A with
 | none =>
  obtain⟨rfl,rfl⟩:=hA rfl;have X:f=[]:=ay (by simpa using D);subst X;refine⟨_,w,?_,by simpa using l,World.grownBy.refl _ _,.inl rfl⟩;simp[Builtin.append_,run_underlying U,sizeOf,typeInfo,W,Builtin.lenOf,Builtin.firstCells,hn,storeCells]
 | some a =>
  have h:=h a rfl;by_cases s:n+m<=cap
  .subst p;have hmul:n * i.size+f.length<=cap * i.size:=by rw[D,<-Nat.add_mul];exact Nat.mul_le_mul_right _ s
   have hf:=run_firstCells_some (P:=P) w i.size m a m c f D h;have M:=run_storeCells_at P g (q+n * i.size) e f 0 cur w hg (by omega) h1;simp only[Nat.add_zero] at M;have Y:cur.toList.length=cur.size:=cq;refine⟨.slice (some ⟨g,q,none⟩) (n+m) cap,w.setRow g (cur.toList.take (q+n * i.size)++f++cur.toList.drop (q+n * i.size+f.length)).toArray,by simp[Builtin.append_,run_underlying U,sizeOf,typeInfo,W,Builtin.lenOf,s,hf,Addr.add_lit,M],⟨by rw[bf,l.1,D,Nat.add_mul],.inr ⟨g,q,cap,_,rfl,setRow_heap w _ cur _ e _ hg,s,hm,?_,?_⟩⟩,⟨rfl,rfl,rfl,by simp[World.setRow],λb hb hne=>setRow_other w _ b _ (λe=>hne (by rw[e];rfl))⟩,.inl rfl⟩
   .simp;omega
   .have hX:(cur.toList.take (q+n * i.size)).drop q=xs:=by rw[List.drop_take,Nat.add_sub_cancel_left];exact htake
    have Z:(n+m) * i.size=(xs++f).length:=by rw[bf,l.1,D,Nat.add_mul]
    show List.take _ (List.drop q (cur.toList.take (q+n * i.size)++f++cur.toList.drop (q+n * i.size+f.length)))=_;rw[cg,List.drop_append_of_le_length (by rw[be,Y];omega),hX,<-cg,Z,List.take_left]
  .obtain⟨C,w',r1,O,E⟩:=run_append_arg_grows (P:=P) w t ty e i z size bytes U W hz p T H L ⟨g,q,none⟩ n cap xs l.1 (λj u J=>by
    rw[Addr.add_lit,cell_of_row w g _ cur e (0,0) hg];rw[<-htake,br] at J;split at J
    .rw[cf] at J;simpa using J
    .cases J) a m c f D h (by omega) F B
   refine⟨C,w',r1,Wd O,⟨E.os,E.tape,E.output,E.size,λb hb _=>E.block b hb (by simp)⟩,?_⟩;cases hv:C.ownBlock with
   | none =>
    exfalso;rcases O.2 with⟨-,h0⟩ | ⟨g',cap',cur',rfl,-⟩
    .omega
    .cases hv
   | some g'=>exact .inr ⟨g',rfl,O.lt g' hv⟩
theorem Ws {rs:List (List Value)}{sz:Nat}(h:∀u∈rs,u.length=sz):∀l,rs.flatten.take (l * sz)=(rs.take l).flatten:=by
 intro l
 induction l generalizing rs with
 | zero=>simp
 | succ l ih =>
  cases rs with
  | nil=>simp
  | cons u rs =>
   have c:=h u (by simp);rw[cm,List.take_succ_cons,cm,<-ih λx b=>h x (by simp[b]),show(l+1) * sz=u.length+l * sz by rw[c,Nat.succ_mul];omega,List.take_length_add_append]
theorem Z7x {c new:List (List G)}{h rs:List (List Value)}{k e sz:Nat}{w':World}{j:Value}(E:Ep w' e sz j (c.length+new.length) (h.flatten++rs.flatten))(l:h.length=c.length)(D:∀(i:Nat) r u,c[i]?=some r->h[i]?=some u->PW (VRep I) r u)(B:∀u∈h,u.length=sz)(p:∀u∈h,∀x∈u,x.oneCell'=true)
  (A:rs.length=new.length) (F:∀(i:Nat) r u,new[i]?=some r->rs[i]?=some u->PW (VRep I) r u) (z:∀u∈rs,u.length=sz) (C:∀u∈rs,∀x∈u,x.oneCell'=true) (q:0 < sz):RRep I ((V.drop k).push 0 j λb=>j.ownBlock=some b) V.n w' (.vw (c++new) e sz):=by
 refine⟨λb=>by simp[Va.push,Va.drop],h++rs,?_,by simp[l,A],λi r u hr f=>?_,λu f=>?_,λu f=>?_,q⟩
 .have:((V.drop k).push 0 j λb=>j.ownBlock=some b).s V.n=j:=by simp[Va.push,Va.drop]
  rw[this,bf,List.flatten_append];exact E
 .by_cases H:i < c.length
  .rw[bu H] at hr;rw[bu (by omega)] at f;exact D i r u hr f
  .rw[bo (by omega)] at hr;rw[bo (by omega),l] at f;exact F _ r u hr f
 .rcases ce.1 f with f | f
  .exact B u f
  .exact z u f
 .rcases ce.1 f with f | f
  .exact p u f
  .exact C u f
def Z9z (V:Va)(w w':World)(g:G):Prop:=match g with
 | .osl k=>∀b,b < w.heap.size->¬V.f k b->w'.heap[b]?=w.heap[b]?
 | .orv k _ _ _ _ _=>∀b,b < w.heap.size->¬V.f k b->w'.heap[b]?=w.heap[b]?
 | _=>∀b,b < w.heap.size->w'.heap[b]?=w.heap[b]?
theorem Zej {g0:G}(hKV:∀t own' I' V' e w',K t own' V'.n->Later own I V w own' I' V' w'->Z9z V w w' g0->V.kp V'->ARep N I' V' e t->next e w')(ha:ARep N I V a t)(hd:∀i,o.dst=some i->i < N)
  (hr:(execOp a.eval o).run P w=.ok (.value y) w') (c:Later own I V w own' I' V' w') (f:Z9z V w w' g0) (b:V.kp V') (h:TRep I' V' g y) (j:K (put o.dst g t) own' V'.n):o.wp P a w next Q:=by
 unfold Oper.wp;rw[hr];exact hKV _ _ _ _ _ _ j c f b ((ha.mono c.fro.mono c.va).put hd h)
variable (hT:∀t i,look t tb=some i->TIok P t i) (hH:Has I V own w) (hK:Nxt N own0 I0 V0 w0 K next) (hL:Since own0 I0 V0 w0 own I V w) (ha:ARep N I V a t) (hd:∀i,o.dst=some i->i < N)
include ha
include hH in
theorem Zca {x:Operand}{ty:TypeId}(c:P.underlying ty=some .string)(j:o.op=.call {callee:=.builtin .len,args:=#[x],argTypes:=#[ty]})(h:ev t own x λg=>match g with
  | .v (.string s)=>K (put o.dst (.v (.int .i64 s.size)) t) own V.n
  | _=>False):QOk S P I V own w a t o K:=by
 obtain⟨g,b,f⟩:=B7 h ha hH;clear h;split at b
 .next s =>
  have e:=B0 f;exact⟨_,_,b,(.of_v (.v _)),λu _=>(by simp[execOp,j,resolve,invoke,builtin,Builtin.len_,run_underlying c,e,goInt])⟩
 .exact b.elim
include hH in
theorem Zf4 {x z:Operand}{f:Array TypeId}(l:o.op=.call {callee:=.builtin .max,args:=#[x,z],argTypes:=f})(h:ev t own x λg=>ev t own z λq=>match g,q with
  | .v (.int .i64 a),.v (.int .i64 b)=>K (put o.dst (.v (.int .i64 (max a b))) t) own V.n
  | _,_=>False):QOk S P I V own w a t o K:=by
 obtain⟨g,c,s⟩:=B7 h ha hH;obtain⟨q,j,A⟩:=B7 c ha hH;clear h c;split at j
 .have e:=B0 s;have p:=B0 A;exact⟨_,_,j,(.of_v (.v _)),λu _=>(by simp[execOp,l,resolve,invoke,builtin,e,p,Go.Lib.run_max_ints])⟩
 .exact j.elim
include hH in
theorem Zer {x z:Operand}{f:Array TypeId}(l:o.op=.call {callee:=.builtin .min,args:=#[x,z],argTypes:=f})(h:ev t own x λg=>ev t own z λq=>match g,q with
  | .v (.int .i64 a),.v (.int .i64 b)=>K (put o.dst (.v (.int .i64 (min a b))) t) own V.n
  | _,_=>False):QOk S P I V own w a t o K:=by
 obtain⟨g,c,s⟩:=B7 h ha hH;obtain⟨q,j,A⟩:=B7 c ha hH;clear h c;split at j
 .have e:=B0 s;have p:=B0 A;exact⟨_,_,j,(.of_v (.v _)),λu _=>(by simp[execOp,l,resolve,invoke,builtin,e,p,Go.Lib.run_min_ints])⟩
 .exact j.elim
include hH in
theorem Zbw {x:Operand}{ty e:TypeId}(l:P.underlying ty=some (.slice e))(z:o.op=.call {callee:=.builtin .len,args:=#[x],argTypes:=#[ty]})(h:ev t own x λg=>Zg8 own g λm=>K (put o.dst (.v (.int .i64 m)) t) own V.n):QOk S P I V own w a t o K:=by
 obtain⟨g,j,s⟩:=B7 h ha hH;have old:(U9 own g λf=>K (put o.dst (.v (.int .i64 f.length)) t) own V.n)->QOk S P I V own w a t o K:=λj=>by obtain⟨f,A,c,j,p,-⟩:=Z1n j s hH;exact⟨_,_,j,(.of_v (.v _)),λu _=>(by simp[execOp,z,resolve,invoke,builtin,Builtin.len_,run_underlying l,p,goInt])⟩
 cases g with
 | orv k i sz off len cap =>
  obtain⟨B,b,q,-,p⟩:=(show TRep1 I V (.orv k i sz off len cap) (a.eval x) from s);exact⟨_,_,j,(.of_v (.v _)),λu _=>(by simp[execOp,z,resolve,invoke,builtin,Builtin.len_,run_underlying l,p,goInt])⟩
 | _=>exact old j
include hH ha hd in
theorem Ln {x:Operand}{e sz:Nat}{g:G}(hKV:∀t own' I' V' a' w',K t own' V'.n->Later own I V w own' I' V' w'->Z9z V w w' g->V.kp V'->ARep N I' V' a' t->next a' w'){new:List (List G)}{rs:List (List Value)}(k1:rs.length=new.length)(k2:∀(i:Nat) r u,new[i]?=some r->rs[i]?=some u->PW (VRep I) r u)(k3:∀u∈rs,u.length=sz)(k4:∀u∈rs,∀x∈u,x.oneCell'=true)(h5:0 < sz)
  (M:∀(v:Value) (c:List (List G)) (A:List (List Value)),a.eval x=v->w.ownsRow 0 e sz v c.length A.flatten->c.length+new.length<=1073741824->∃p w',(execOp a.eval o).run P w=.ok (.value p) w'/\w'.ownsRow 0 e sz p (c.length+new.length) (A.flatten++rs.flatten)/\w.grownBy w' v.ownBlock/\(p.ownBlock=v.ownBlock\/∃g,p.ownBlock=some g/\w.heap.size<=g/\g < w'.heap.size))
  (O:TRep I V g (a.eval x)) (l:Z8j t own V.n o.dst g new e sz K):o.wp P a w next Q:=by
 unfold Z8j at l;cases g with
 | nl =>
  obtain⟨j,l⟩:=l;have T:a.eval x=.slice none 0 0:=by generalize a.eval x=X at O;cases(show VRep I .nl X from O);rfl
  obtain⟨p,w',hr,L,q,W⟩:=M _ [] [] T (World.ownsRow_nil w 0 e sz) (by simpa using j);simp only[List.length_nil,Nat.zero_add,List.flatten_nil,List.nil_append] at L;have hB:Below w.heap.size w w':=⟨q.os,q.tape,q.output,q.size,λb f=>q.block b f (by simp[Value.ownBlock])⟩;refine Zej (g0:=.nl) (g:=.osl V.n) hKV ha hd hr (Dl (r:=.slc new e sz) hH hB 0 p (λb=>p.ownBlock=some b) (λb f=>?_) ⟨λb=>by simp[Va.push],rs,by simpa [Va.push] using L,k1,k2,k3,k4,h5⟩) (λb f=>hB.block b f) (.push V 0 p _) (TRep.of_c (g:=.osl V.n) ⟨dc _,by simp[Va.push]⟩) l;rcases W with h | ⟨b',h,hb'⟩
  .rw[h] at f;simp[Value.ownBlock] at f
  .rw[h] at f;cases f;exact hb'
 | osl k =>
  obtain⟨hkn,T⟩:=(show k < V.n/\a.eval x=V.s k from O);dsimp only at l;split at l
  .next c e' sz' J =>
   split at l
   .next D F =>
    have D:=aw D;have F:=aw F;subst D F;obtain⟨j,l⟩:=l;obtain⟨E,A,Y,g2,g3,g4,g5,g6⟩:=hH.each k _ J;obtain⟨p,w',hr,L,q,W⟩:=M _ c A T Y j;have H:∀b,p.ownBlock=some b->b < w'.heap.size:=λb f=>(L.lt b f).2;refine Zej (g0:=.osl k) (g:=.osl V.n) hKV ha hd hr (Ja (r:=.slc (c++new) e sz) hH J q.os q.tape q.output q.size (λb f Z=>q.block b f (λe=>Z ((E b).2 e.symm))) p (λb=>p.ownBlock=some b) (λb f=>⟨?_,H b f⟩) ⟨λb=>by simp[Va.push,Va.drop],A++rs,?_,by simp[g2,k1],?_,?_,?_,h5⟩) (λb f Z=>q.block b f (λe=>Z ((E b).2 e.symm))) ((Va.kp.drop V k).trans (au _) (.push (V.drop k) 0 p _)) (TRep.of_c (g:=.osl V.n) ⟨dc _,by simp[Va.push,Va.drop]⟩) l
    .rcases W with h | ⟨b',h,hb'⟩
     .exact .inl ((E b).2 (by rw[<-h];exact f))
     .rw[h] at f;cases f;exact .inr hb'.1
    .simpa [Va.push,Va.drop] using L
    .intro i r u C B;rcases Nat.lt_or_ge i c.length with U | hge
     .rw[bu U] at C;rw[bu (by omega)] at B;exact g3 i r u C B
     .rw[bo hge] at C;rw[bo (by omega),g2] at B;exact k2 _ r u C B
    .intro u z;rcases ce.1 z with z | z
     .exact g4 u z
     .exact k3 u z
    .intro u z;rcases ce.1 z with z | z
     .exact g5 u z
     .exact k4 u z
   .exact l.elim
  .exact l.elim
 | _=>exact l.elim
include hH ha hd in
theorem Z1p {x:Operand}{e sz:Nat}{g:G}(hKV:∀t own' I' V' a' w',K t own' V'.n->Later own I V w own' I' V' w'->Z9z V w w' g->V.kp V'->ARep N I' V' a' t->next a' w'){new:List (List G)}{rs:List (List Value)}(k1:rs.length=new.length)(k2:∀(i:Nat) r u,new[i]?=some r->rs[i]?=some u->PW (VRep I) r u)(k3:∀u∈rs,u.length=sz)(k4:∀u∈rs,∀x∈u,x.oneCell'=true)(h5:0 < sz)
  (hap:∀(v:Value) (j:List (List G)) (E:List (List Value)),a.eval x=v->w.ownsRow 0 e sz v j.length E.flatten->j.length+new.length<=1073741824->∃z w',(execOp a.eval o).run P w=.ok (.value z) w'/\w'.ownsRow 0 e sz z (j.length+new.length) (E.flatten++rs.flatten)/\w.grownBy w' v.ownBlock/\(z.ownBlock=v.ownBlock\/∃g,z.ownBlock=some g/\w.heap.size<=g/\g < w'.heap.size))
  (hav:∀(v:Value) (n:Nat) (xs:List Value),a.eval x=v->Ep w e sz v n xs->n+new.length<=1073741824->∃z w',(execOp a.eval o).run P w=.ok (.value z) w'/\Ep w' e sz z (n+new.length) (xs++rs.flatten)/\w.grownBy w' v.ownBlock/\(z.ownBlock=v.ownBlock\/∃g,z.ownBlock=some g/\w.heap.size<=g/\g < w'.heap.size))
  (hg:TRep I V g (a.eval x)) (B:Zcr t own V.n o.dst g new e sz K):o.wp P a w next Q:=by
 have lt:∀{w':World} {z:Value} {n:Nat} {xs:List Value},Ep w' e sz z n xs->∀b,z.ownBlock=some b->b < w'.heap.size:=λ{w' z n xs} r b p=>by
  rcases r.2 with⟨rfl,-⟩ | ⟨g',q',cap',cur',rfl,hg',-⟩
  .cases p
  .cases p;exact(bz.1 hg').1
 unfold Zcr at B;split at B
 .next k =>
  obtain⟨hkn,X⟩:=(show k < V.n/\a.eval x=V.s k from hg);split at B
  .next j e' sz' J =>
   split at B
   .next D A =>
    have D:=aw D;have A:=aw A;subst D A;obtain⟨F,B⟩:=B;obtain⟨L,E,ho0,g2,g3,Z,g5,g6⟩:=hH.each k _ J;obtain⟨z,w',hr,Y,H,r3⟩:=hav _ j.length E.flatten X ho0 F;refine Zej (g0:=.osl k) (g:=.osl V.n) hKV ha hd hr (Ja (r:=.vw (j++new) e sz) hH J H.os H.tape H.output H.size (λb p M=>H.block b p (λe=>M ((L b).2 e.symm))) z (λb=>z.ownBlock=some b) (λb p=>⟨?_,lt Y b p⟩) (Z7x Y g2 g3 Z g5 k1 k2 k3 k4 h5)) (λb p M=>H.block b p (λe=>M ((L b).2 e.symm))) ((Va.kp.drop V k).trans (au _) (.push (V.drop k) 0 z _)) (TRep.of_c (g:=.osl V.n) ⟨dc _,by simp[Va.push,Va.drop]⟩) B;rcases r3 with h | ⟨C,h,hb'⟩
    .exact .inl ((L b).2 (by rw[<-h];exact p))
    .rw[h] at p;cases p;exact .inr hb'.1
   .exact B.elim
  .exact Ln (hH:=hH) (hKV:=hKV) (ha:=ha) (hd:=hd) k1 k2 k3 k4 h5 hap hg B
 .next k s l c =>
  obtain⟨hkn,b,q,⟨n0,c0,hs⟩,X⟩:=(show TRep1 I V (.orv k 0 (s+1) 0 l c) (a.eval x) from hg);split at B
  .next j e' sz2 J =>
   split at B
   .next D A U O hb5 =>
    have D:=aw D;have A:=aw A;have U:=aw U;have O:=aw O;have hb5:=dp hb5;subst D U O;obtain⟨F,B⟩:=B;have L:=(hH.each k _ J).1;obtain⟨E,cur,hcur,g2,g3,Z,g5,M,hnc,hcm,hcs,ht,-⟩:=Zd6 hH J hs;have X:a.eval x=.slice (some ⟨b,q,none⟩) l l:=by rw[X];simp
    have hv:Ep w e sz (.slice (some ⟨b,q,none⟩) l l) (j.take l).length (E.take l).flatten:=by
     have W:(j.take l).length=l:=by rw[be];omega
     refine⟨by rw[Bq λu hu=>Z u (bn hu),be,W];congr 1;omega,.inr ⟨b,q,l,cur,by rw[W],hcur,by rw[W];exact au _,by omega,?_,?_⟩⟩
     .have:l * sz<=c0 * sz:=Nat.mul_le_mul_right _ (by omega);omega
     .rw[W,<-Ws Z,<-ht,List.take_take,ct (Nat.mul_le_mul_right _ (by omega))]
    have W:(j.take l).length=l:=by rw[be];omega
    obtain⟨z,w',hr,Y,H,r3⟩:=hav _ (j.take l).length (E.take l).flatten X hv (by rw[W];exact F);have hob:(Value.slice (some ⟨b,q,none⟩) l l).ownBlock=some b:=rfl;have T:∀C,V.f k C↔b=C:=λC=>by rw[L C,hs];show some b=some C↔_;simp
    rw[hob] at H r3;refine Zej (g0:=.orv k 0 (s+1) 0 l l) (g:=.osl V.n) hKV ha hd hr (Ja (r:=.vw (j.take l++new) e sz) hH J H.os H.tape H.output H.size (λC p M=>H.block C p (λe=>M ((T C).2 (cv e.symm)))) z (λb=>z.ownBlock=some b) (λC p=>⟨?_,lt Y C p⟩) (Z7x Y (by rw[be,be,g2]) (λi r u h1 h2=>?_) (λu hu=>Z u (bn hu)) (λu hu=>g5 u (bn hu)) k1 k2 k3 k4 h5)) (λC p M=>H.block C p (λe=>M ((T C).2 (cv e.symm)))) ((Va.kp.drop V k).trans (au _) (.push (V.drop k) 0 z _)) (TRep.of_c (g:=.osl V.n) ⟨dc _,by simp[Va.push,Va.drop]⟩) B
    .rcases r3 with h | ⟨b2,h,A⟩
     .exact .inl ((T C).2 (by rw[h] at p;exact cv p))
     .rw[h] at p;cases p;exact .inr A.1
    .rw[br] at h1 h2;split at h1
     .next hlt=>rw[dt hlt] at h2;exact g3 i r u h1 h2
     .cases h1
   .exact B.elim
  .exact B.elim
 .exact Ln (hH:=hH) (hKV:=hKV) (ha:=ha) (hd:=hd) k1 k2 k3 k4 h5 hap hg B
include hT hH ha hd in
theorem O4 {g:G}(hKV:∀t own' I' V' a' w',K t own' V'.n->Later own I V w own' I' V' w'->Z9z V w w' g->V.kp V'->ARep N I' V' a' t->next a' w'){x z:Operand}{ty e sz:Nat}{ag:Bool}{ze:List G}{fl:List (TypeId × Nat)}{st:Bool}{ik:Option IntKind}{kd:KD}(hl:look ty tb=some ⟨ag,ze,some (e,sz),fl,st,ik,kd⟩)(ho:o.op=.call {callee:=.builtin .append,args:=#[x,z],argTypes:=#[ty,ty]})(hg:TRep I V g (a.eval x))(D:ev t own z λq=>Z37 own q sz λnew=>Zcr t own V.n o.dst g new e sz K):o.wp P a w next Q:=by
 obtain⟨q,s,hq⟩:=B7 D ha hH;obtain⟨new,A,c,rs,hk,he,hA,k1,k2,W,k4,k5⟩:=V6 s hq hH;clear D s;obtain⟨p,E,Z,U,X,h3,h4,J,Y⟩:=(hT _ _ hl).elem e sz rfl;have B:rs.flatten.length=new.length * sz:=by rw[Bq W,k1]
 have C:∀u∈rs.flatten,u.oneCell'=true:=λu p=>by obtain⟨v,hv,p⟩:=List.mem_flatten.1 p;exact k4 v hv u p
 have T:∀(v:Value) (b:List (List G)) (j:List (List Value)),a.eval x=v->w.ownsRow 0 e sz v b.length j.flatten->b.length+new.length<=1073741824->∃h w',(execOp a.eval o).run P w=.ok (.value h) w'/\w'.ownsRow 0 e sz h (b.length+new.length) (j.flatten++rs.flatten)/\w.grownBy w' v.ownBlock/\(h.ownBlock=v.ownBlock\/∃g,h.ownBlock=some g/\w.heap.size<=g/\g < w'.heap.size):=λv b j F l f=>by
  obtain⟨h,w',hr,O,M,L⟩:=Z2l (P:=P) (w:=w) ty o.type e E Z sz E.bytes p U X h3 rfl h4 J v b.length j.flatten l A new.length c rs.flatten B (λe=>hA e) k5 C (by unfold maxLen;omega) (by have:=Nat.mul_le_mul f Y;omega)
  exact⟨h,w',by simp only[execOp,ho,resolve,invoke,builtin,Sem.run_bind,Sem.run_pure,Result.andThen_ok,List.map_toArray,List.map_cons,List.map_nil,F,he,hr],O,M,L⟩
 have H:∀(v:Value) (n:Nat) (xs:List Value),a.eval x=v->Ep w e sz v n xs->n+new.length<=1073741824->∃h w',(execOp a.eval o).run P w=.ok (.value h) w'/\Ep w' e sz h (n+new.length) (xs++rs.flatten)/\w.grownBy w' v.ownBlock/\(h.ownBlock=v.ownBlock\/∃g,h.ownBlock=some g/\w.heap.size<=g/\g < w'.heap.size):=λv n xs F l f=>by
  obtain⟨h,w',hr,O,M,L⟩:=Rq (P:=P) (w:=w) ty o.type e E Z sz E.bytes p U X h3 rfl h4 J v n xs l A new.length c rs.flatten B (λe=>hA e) k5 C (by unfold maxLen;omega) (by have:=Nat.mul_le_mul f Y;omega)
  exact⟨h,w',by simp only[execOp,ho,resolve,invoke,builtin,Sem.run_bind,Sem.run_pure,Result.andThen_ok,List.map_toArray,List.map_cons,List.map_nil,F,he,hr],O,M,L⟩
 exact Z1p (hH:=hH) (hKV:=hKV) (ha:=ha) (hd:=hd) k1 k2 W k4 J T H hg hk
include hT hH ha hd in
theorem Hv {g:G}(hKV:∀t own' I' V' W w',K t own' V'.n->Later own I V w own' I' V' w'->Z9z V w w' g->V.kp V'->ARep N I' V' W t->next W w'){x z:Operand}{ty p e:Nat}{T U:TI}(hl:look ty tb=some T)(M:T.elem=some (e,1))(B:look p tb=some U)(H:U.str=true)(ho:o.op=.call {callee:=.builtin .append,args:=#[x,z],argTypes:=#[ty,p]})(hg:TRep I V g (a.eval x))(O:ev t own z λq=>Zbv q λs=>Z8j t own V.n o.dst g (s.data.toList.map gBy) e 1 K):o.wp P a w next Q:=by
 obtain⟨q,h,hq⟩:=B7 O ha hH;unfold Zbv at h;split at h
 .next s =>
  have he:=B0 hq;obtain⟨j,ie,zv,X,Y,h3,h4,h5,Z⟩:=(hT _ _ hl).elem e 1 M;have L:=(hT _ _ B).str H;have C:(s.data.toList.map λb=>[Value.int .u8 b.toNat]).flatten=byteCells s:=by
   unfold byteCells
   induction s.data.toList with
   | nil=>rfl
   | cons c l ih=>rw[cw,cm,ih];rfl
  have E:(s.data.toList.map gBy).length=s.size:=by rw[ao,cq];rfl
  refine Ln (hH:=hH) (hKV:=hKV) (ha:=ha) (hd:=hd) (rs:=s.data.toList.map λb=>[Value.int .u8 b.toNat]) (by simp) (λi r u hr j=>?_) (λu j=>?_) (λu j x D=>?_) Nat.one_pos (λv A J D F f=>?_) hg h
  .rw[ax] at hr j;obtain⟨c,h7,rfl⟩:=bg.1 hr;rw[h7] at j;cases j;exact .cons (.v _) .nil
  .obtain⟨c,-,rfl⟩:=bj.1 j;rfl
  .obtain⟨c,-,rfl⟩:=bj.1 j;rw[bx.1 D];rfl
  .rw[E] at f⊢;obtain⟨v',w',hr,r1,r2,r3⟩:=Tt (P:=P) (w:=w) ty p o.type e ie zv j L X Y h3 h4 v A.length J.flatten F s (by unfold maxLen;omega) (by
    have:=Nat.mul_le_mul f Z;omega)
   rw[C];exact⟨v',w',by simp only[execOp,ho,resolve,invoke,builtin,Sem.run_bind,Sem.run_pure,Result.andThen_ok,List.map_toArray,List.map_cons,List.map_nil,D,he,hr],r1,r2,r3⟩
 .exact h.elim
include hT hK hL ha hd in
theorem Yp {x z:Operand}{ty e sz:Nat}{C:Bool}{l:List G}{A:List (TypeId × Nat)}{B:Bool}{ik:Option IntKind}{kd:KD}(b:look ty tb=some ⟨C,l,some (e,sz),A,B,ik,kd⟩)(s:o.op=.call {callee:=.builtin .append,args:=#[x,z],argTypes:=#[ty,ty]})(h:ev t own x λg=>ev t own z λq=>Z37 own q sz λnew=>Zcr t own V.n o.dst g new e sz K):o.wp P a w next Q:=by obtain⟨g,f,p⟩:=B7 h ha hL.has;exact O4 (g:=g) (hT:=hT) (hH:=hL.has) (ha:=ha) (hd:=hd) (λt own' I' V' D w' j b _ _ c=>hK _ _ _ _ _ _ j (hL.trans b) c) b s p f
include hT hK hL ha hd in
theorem Pb {x z:Operand}{ty b e:Nat}{B C:TI}(l:look ty tb=some B)(j:B.elem=some (e,1))(f:look b tb=some C)(c:C.str=true)(F:o.op=.call {callee:=.builtin .append,args:=#[x,z],argTypes:=#[ty,b]})(h:ev t own x λg=>ev t own z λq=>Zbv q λs=>Z8j t own V.n o.dst g (s.data.toList.map gBy) e 1 K):o.wp P a w next Q:=by obtain⟨g,A,E⟩:=B7 h ha hL.has;exact Hv (g:=g) (hT:=hT) (hH:=hL.has) (ha:=ha) (hd:=hd) (λt own' I' V' H w' D l _ _ p=>hK _ _ _ _ _ _ D (hL.trans l) p) l j f c F E A
end
section
variable {P:Program} {tb:List (Nat × TI)} {N n:Nat} {I I' I0:Imm} {V V' V0:Va} {a:Act} {t:Ts} {own own' own0:Os} {w w' w0:World} {g:G} {x y:Value} {d:Option Tmp}
variable {XL:List Nat} {S:World->Prop} {K:Ts->Os->Nat->Prop} {next:Act->World->Prop} {Q:Exit->Act->World->Prop} {o:Oper} {r:R}
theorem Fl {z:Option Operand}{d:Int}{K1:Int->Prop}(h:evO t own z d K1)(ha:ARep N I V a t)(hH:Has I V own w):∃n,K1 n/\(∀u,z=some u->a.eval u=.int .i64 n)/\(z=none->n=d):=by
 cases z with
 | none=>exact⟨d,h,λu e=>(by cases e),λ_=>rfl⟩
 | some u =>
  unfold evO at h;dsimp only at h;obtain⟨q,b,c⟩:=B7 h ha hH;clear h;split at b
  .next m=>exact⟨m,b,λu e=>(by cases e;exact B0 c),λe=>(by cases e)⟩
  .exact b.elim
theorem Hj {sl:Bool}{len cap:Nat}{lo c:Option Value}{l h:Int}(b:(∀u,lo=some u->u=.int .i64 l)/\(lo=none->l=0))(s:(∀u,c=some u->u=.int .i64 h)/\(c=none->h=len))(j:0<=l)(p:l<=h)(B:h<=len)(A:len<=cap)(w:World) :
  (Instr.sliceBounds sl len cap lo c none).run P w=.ok (l.toNat,h.toNat,cap) w:=by
 unfold Instr.sliceBounds;cases c with
 | none =>
  have e:=s.2 rfl;subst e;cases lo with
  | none =>
   have e:=b.2 rfl;subst e;simp
  | some u =>
   have e:=b.1 u rfl;subst e;have:l<=(len:Int):=p;simp[Instr.sliceBound,asIntOf,j,this]
 | some v =>
  have e:=s.1 v rfl;subst e;have f:0<=h:=by omega
  have q:h<=(cap:Int):=by omega
  cases lo with
  | none =>
   have e:=b.2 rfl;subst e;simp[Instr.sliceBound,asIntOf,f,q]
  | some u =>
   have e:=b.1 u rfl;subst e;have z:(h.toNat:Int)=h:=Int.toNat_of_nonneg f;simp[Instr.sliceBound,asIntOf,f,q,z,j,p]
theorem Gw {z:Option Operand}{m:Int}{d:Int}(b:∀u,z=some u->a.eval u=.int .i64 m)(c:z=none->m=d):(∀u,z.map a.eval=some u->u=.int .i64 m)/\(z.map a.eval=none->m=d):=by
 cases z with
 | none=>exact⟨λu e=>(by cases e),λ_=>c rfl⟩
 | some v=>exact⟨λu e=>(by cases e;exact b v rfl),λe=>by cases e⟩
theorem H7 (hH:Has I V own w){k e sz:Nat}{f:List (List G)}(j:look k own=some (.slc f e sz)):∃A c,V.s k=.slice A f.length c/\f.length<=c:=by
 obtain⟨-,rs,⟨-,l⟩,-⟩:=hH.each k _ j;rcases l with⟨h,h8⟩ | ⟨b,cap,cur,h,-,-,h9,-⟩
 .exact⟨none,0,by rw[h,h8],by omega⟩
 .exact⟨_,cap,h,h9⟩
theorem Z5j (hH:Has I V own w){k e sz:Nat}{f:List (List G)}(j:look k own=some (.vw f e sz)):∃A c,V.s k=.slice A f.length c/\f.length<=c:=by
 obtain⟨-,rs,⟨-,l⟩,-⟩:=hH.each k _ j;rcases l with⟨h,h8⟩ | ⟨b,q,cap,cur,h,-,h9,-⟩
 .exact⟨none,0,by rw[h,h8],by omega⟩
 .exact⟨_,cap,h,h9⟩
theorem Z8s (hT:∀t i,look t tb=some i->TIok P t i)(hH:Has I V own w)(ha:ARep N I V a t){ty:TypeId}{z:Operand}{lo T:Option Operand}(ho:o.op=.slice ty z lo T none)(W:(match look ty tb with
      | some ⟨_,_,none,_,false,_,.arr _ _ _⟩=>false
      | _=>true)=true) (h:match look ty tb with
      | some ⟨_,_,none,_,true,_,_⟩=>ev t own z λg=>match g with
       | .v (.string s)=>evO t own lo 0 λl=>evO t own T s.size λh=>Yq l h s.size (K (put o.dst (.v (.string (s.extract l.toNat h.toNat))) t) own V.n)
       | _=>False
      | some ⟨_,_,some (_,sz),_,_,_,_⟩=>ev t own z λg=>slK own g sz (λK d=>evO t own lo d K) (λK d=>evO t own T d K) λg=>K (put o.dst g t) own V.n
      | some ⟨_,_,none,_,false,_,.arr m _ 1⟩=>ev t own z λg=>Z3r t own V.n ty m lo T g λg w n=>K (put o.dst g t) w n
      | some ⟨_,_,none,_,false,_,.arr m _ _⟩=>ev t own z λg=>Z6k t own m lo T g λg=>K (put o.dst g t) own V.n
      | _=>False):QOk S P I V own w a t o K:=by
 split at h
 .next M =>
  have Y:=(hT _ _ M).str rfl;obtain⟨g,h,U⟩:=B7 h ha hH;split at h
  .next s =>
   have e:=B0 U;obtain⟨l,h,p,C⟩:=Fl h ha hH;obtain⟨q,h,B,H⟩:=Fl h ha hH;obtain⟨⟨J,F,E⟩,h⟩:=h;refine⟨_,_,h,.of_v (.v _),λu _=>?_⟩;have j:=Hj (P:=P) (sl:=false) (len:=s.size) (cap:=s.size) (Gw p C) (Gw B H) J F E (au _) u;simp only[execOp,ho,Instr.sliceAt,Instr.slice,Sem.run_bind,run_underlying Y,Result.andThen_ok,e,Sem.run_pure,Option.map_none,Option.isSome_none,Bool.false_eq_true,if_false,j]
  .exact h.elim
 .next e sz fl st ik kd M =>
  obtain⟨hu,ie,zv,h1,h2,h3,h4,h5,h6⟩:=(hT _ _ M).elem _ _ rfl;have Z:∀w,(sizeOf e).run P w=.ok sz w:=Bt (by rw[h1];simp[h3]);obtain⟨g,h,U⟩:=B7 h ha hH;have run:∀{A:Option Addr} {len c:Nat} {l q:Int},a.eval z=.slice A len c->len<=c->(∀u,lo=some u->a.eval u=.int .i64 l)->(lo=none->l=0)->(∀u,T=some u->a.eval u=.int .i64 q)->(T=none->q=len)->0<=l->l<=q->q<=len->∀u,(execOp a.eval o).run P u=.ok (.value (L6 sz (.slice A len c) l.toNat q.toNat)) u:=λL D p C B H J F E u=>by have j:=Hj (P:=P) (sl:=true) (Gw p C) (Gw B H) J F E D u;simp only[execOp,ho,Instr.sliceAt,Instr.slice,Sem.run_bind,run_underlying hu,Result.andThen_ok,L,Sem.run_pure,Option.map_none,j,Z,L6]
  cases g with
  | sl b =>
   unfold slK at h;dsimp only at h;obtain⟨l,h,p,C⟩:=Fl h ha hH;obtain⟨q,h,B,H⟩:=Fl h ha hH;obtain⟨⟨J,F,E⟩,hr,h⟩:=h;have f:=(show VRep I (.sl b) (a.eval z) from U);obtain⟨A,c,L,D⟩:∃A c,a.eval z=.slice A b.length c/\b.length<=c:=by
    generalize a.eval z=X at f;cases f with
    | sl _ A c sz u D=>exact⟨A,c,rfl,D⟩
   rw[L] at f;exact⟨_,_,h,.of_v (Uy f hr (by omega) (by omega)),λu _=>run L D p C B H J F E u⟩
  | osl k =>
   unfold slK at h;dsimp only at h;split at h
   .next b e' sz' hk =>
    split at h
    .next j =>
     have j:=aw j;subst j;obtain⟨l,h,p,C⟩:=Fl h ha hH;obtain⟨q,h,B,H⟩:=Fl h ha hH;obtain⟨⟨J,F,E⟩,h⟩:=h;obtain⟨O,L⟩:=(show k < V.n/\a.eval z=V.s k from U);obtain⟨A,c,f,D⟩:=H7 hH hk;exact⟨_,_,h,.of_c (g:=.osv k sz l.toNat q.toNat) ⟨O,⟨by omega,by rw[f];show q.toNat<=b.length;omega⟩,rfl⟩,λu _=>by rw[f];exact run (L.trans f) D p C B H J F E u⟩
    .exact h.elim
   .next b e' sz' hk =>
    split at h
    .next j =>
     have j:=aw j;subst j;obtain⟨l,h,p,C⟩:=Fl h ha hH;obtain⟨q,h,B,H⟩:=Fl h ha hH;obtain⟨⟨J,F,E⟩,h⟩:=h;obtain⟨O,L⟩:=(show k < V.n/\a.eval z=V.s k from U);obtain⟨A,c,f,D⟩:=Z5j hH hk;exact⟨_,_,h,.of_c (g:=.osv k sz l.toNat q.toNat) ⟨O,⟨by omega,by rw[f];show q.toNat<=b.length;omega⟩,rfl⟩,λu _=>by rw[f];exact run (L.trans f) D p C B H J F E u⟩
    .exact h.elim
   .exact h.elim
  | _=>exact False.elim h
 .next M=>rw[M] at W;cases W
 .next M=>rw[M] at W;cases W
 .exact h.elim
theorem Z66 {len cap:Nat}{h:Int}(b:0<=h)(f:h<=len)(j:len<=cap)(w:World):(Instr.sliceBounds true len cap none (some (.int .i64 h)) (some (.int .i64 h))).run P w=.ok (0,h.toNat,h.toNat) w:=by
 unfold Instr.sliceBounds;have c:0<=h/\h<=(cap:Int):=⟨b,by omega⟩;have e:¬max h 0 < h:=by omega
 simp[Instr.sliceBound,asIntOf,c,e]
theorem Z64 (hT:∀t i,look t tb=some i->TIok P t i)(hH:Has I V own w)(ha:ARep N I V a t){ty:TypeId}{z B D:Operand}(J:o.op=.slice ty z none (some B) (some D))(h:match(none:Option Operand),some B,look ty tb with
      | none,some h,some ⟨_,_,some (_,sz),_,_,_,_⟩=>ev t own z λg=>ev t own h λp=>ev t own D λq=>match p,q with
       | .v (.int .i64 a),.v (.int .i64 b)=>Eu (a=b) (Z92 own g sz a λg=>K (put o.dst g t) own V.n)
       | _,_=>False
      | _,_,_=>False):QOk S P I V own w a t o K:=by
 split at h
 .next M _ _ e sz _ _ _ _ _ A O =>
  obtain rfl:=cv A;obtain⟨L,ie,zv,E,h2,h3,h4,h5,h6⟩:=(hT _ _ O).elem _ _ rfl;have j:∀w,(sizeOf e).run P w=.ok sz w:=Bt (by rw[E];simp[h3]);obtain⟨g,h,H⟩:=B7 h ha hH;obtain⟨p,h,Y⟩:=B7 h ha hH;obtain⟨q,h,T⟩:=B7 h ha hH;split at h
  .next x1 x1' =>
   have ep:=B0 Y;have eq:=B0 T;obtain⟨A,h⟩:=h;subst A;cases g with
   | osl k =>
    unfold Z92 at h;dsimp only at h;split at h
    .next C e' X U =>
     split at h
     .next c =>
      have c:=aw c;subst c;obtain⟨⟨r1,r2,W⟩,⟨f,h⟩⟩:=h;obtain⟨l,Z⟩:=(show k < V.n/\a.eval z=V.s k from H);obtain⟨-,rs,⟨-,h7⟩,-,-,-,-,F⟩:=hH.each k _ U;rcases h7 with⟨-,h8⟩ | ⟨b,q0,cap,cur,h8,-,h9,-⟩
      .exact du (ay h8) f
      .refine⟨_,_,h,.of_1 (g:=.orv k 0 sz 0 _ _) ⟨l,b,q0,(by cases sz with | zero=>omega | succ sz=>exact⟨_,cap,h8⟩),rfl⟩,λu _=>?_⟩;have c:=Z66 (P:=P) r2 W h9 u;simp only[execOp,J,Instr.sliceAt,Instr.slice,Sem.run_bind,run_underlying L,Result.andThen_ok,Z,h8,Sem.run_pure,Option.map_some,Option.map_none,ep,eq,c,j];split
       .simp
       .simp[Cv]
     .exact h.elim
    .exact h.elim
   | _=>exact False.elim h
  .exact h.elim
 .exact h.elim
theorem Oz:∀{cs:List G} {b:List Value},Bp Nm cs=true->PW (CRep I V) cs b->cs=b.map .v/\∀u∈b,u.oneCell'=true
 | [],b,_,h=>by rw[h.of_nil];exact⟨rfl,λu f=>by cases f⟩
 | g::cs,b,hv,h=>by
  obtain⟨x,A,rfl,j,s⟩:=h.uncons;have c:=Ao hv g (by simp);have l:Bp Nm cs=true:=by unfold Bp at hv;rw[c] at hv;exact hv
  obtain⟨p,q⟩:=Oz l s;cases g with
  | v z =>
   cases(show VRep I (.v z) x from j);exact⟨by rw[p];rfl,λu f=>(bq.1 f).elim (λe=>by rw[e];exact c) (q u)⟩
  | _=>cases c
theorem Qt {α:Type}(l:List α):(l.map λu=>[u]).flatten=l:=by
 induction l with
 | nil=>rfl
 | cons x l ih=>rw[cw,cm,ih];rfl
theorem Z33 {α:Type}{cs:List α}{k n j:Nat}{v:α}(h:((cs.drop k).take n)[j]?=some v):cs[k+j]?=some v:=by
 rw[br] at h;split at h
 .rwa [cf] at h
 .cases h
theorem Z9s {m:Nat}{cs:List G}{A:Prop}(h:Zf6 m cs A):cs.length=m/\Bp Nm cs=true/\A:=by
 unfold Zf6 at h;split at h
 .split at h
  .next b c=>exact⟨aw b,c,h⟩
  .exact h.elim
 .exact⟨h.fit.1,Fu h.fit.2,h.next⟩
theorem Z46 (hT:∀t i,look t tb=some i->TIok P t i)(hH:Has I V own w)(ha:ARep N I V a t)(hd:∀i,o.dst=some i->i < N)(hK:NxtB N own I V w K next){ty m e:TypeId}{z:Operand}{lo hi:Option Operand}{ag:Bool}{ze:List G}{fl:List (TypeId × Nat)}{ik:Option IntKind}(hl:look ty tb=some ⟨ag,ze,none,fl,false,ik,.arr m e 1⟩)(ho:o.op=.slice ty z lo hi none)
  (h:ev t own z λg=>Z3r t own V.n ty m lo hi g λg w n=>K (put o.dst g t) w n):o.wp P a w next Q:=by
 obtain⟨M,T⟩:=(hT _ _ hl).kd;have T:∀w,(sizeOf e).run P w=.ok 1 w:=Bt T;obtain⟨g,h,hg⟩:=B7 h ha hH;have run:∀{b off:Nat} {l q:Int},a.eval z=.pointer (some ⟨b,off,none⟩)->(∀u,lo=some u->a.eval u=.int .i64 l)->(lo=none->l=0)->(∀u,hi=some u->a.eval u=.int .i64 q)->(hi=none->q=m)->0<=l->l<=q->q<=m->∀u,(execOp a.eval o).run P u=.ok (.value (L6 1 (.slice (some ⟨b,off,none⟩) m m) l.toNat q.toNat)) u:=λ{b off l q} D l1 l2 q1 Z r1 Y X u=>by
  have B:=Hj (P:=P) (sl:=false) (len:=m) (cap:=m) (Gw l1 l2) (Gw q1 Z) r1 Y X (au _) u;simp only[execOp,ho,Instr.sliceAt,Instr.sureAddr,Sem.run_bind,run_underlying M,Result.andThen_ok,D,Sem.run_pure,Option.map_none,B,T,L6]
  congr 3
  by_cases p:m=l.toNat
  .rw[dt p,dt p]
  .rw[dq p,dq p];rfl
 have arv:∀{j:Nat} {K1:G->Prop} {b:Nat} {V2:Va},Ze4 t own m lo hi j K1->a.eval z=.pointer (some ⟨b,0,none⟩)->j < V2.n->V2.s j=.slice (some ⟨b,0,none⟩) m m->∃g v,K1 g/\CRep I V2 g v/\(execOp a.eval o).run P w=.ok (.value v) w:=λ{j K1 b V2} H D hj hs=>by
  unfold Ze4 at H;split at H
  .have hr:=run (l:=0) (q:=m) D (λu e=>by cases e) (λ_=>rfl) (λu e=>by cases e) (λ_=>rfl) (by omega) (by omega) (by omega) w;refine⟨_,V2.s j,H,⟨hj,rfl⟩,hr.trans ?_⟩;rw[hs]
   congr 2
   unfold L6;simp only[Int.toNat_natCast,Int.toNat_zero,Nat.zero_mul,Nat.sub_zero,Option.map_some];by_cases p:m=0
   .rw[dt p]
   .rw[dq p];rfl
  .obtain⟨l,H,l1,l2⟩:=Fl H ha hH;obtain⟨q,H,q1,Z⟩:=Fl H ha hH;obtain⟨⟨r1,Y,X⟩,H⟩:=H;exact⟨_,_,H,⟨hj,⟨by omega,by rw[hs];show q.toNat<=m;omega⟩,rfl⟩,by rw[hs];exact run D l1 l2 q1 Z r1 Y X w⟩
 unfold Z3r at h;cases g with
 | ptr k off =>
  obtain⟨hkn,D⟩:=C9 hg;dsimp only at h;split at h
  .next cs ty' hr =>
   obtain⟨O,h1,h2,h3⟩:=Oi hH hr;have hf:=(hH.each k _ hr).1;have frz:∀{off:Nat},(match(generalizing:=false) lo,hi with
    | none,none=>Eu (off+m<=cs.length/\∀g∈cs,Nm g=true) (K (put o.dst (.sl (((cs.drop off).take m).map λg=>[g])) t) ((k,.gone)::own) V.n)
    | none,some x=>evO t own (some x) m λh=>Yq 0 h m (K (put o.dst (.orv k 0 0 off h.toNat m) t) own V.n)
    | _,_=>False)->a.eval z=.pointer (some ⟨V.b k,off,none⟩)->o.wp P a w next Q:=λ{off} h D=>by
    split at h
    case h_2 =>
     obtain⟨q,h,q1,Z⟩:=Fl h ha hH;obtain⟨⟨r1,Y,X⟩,h⟩:=h;have hr:=run (l:=0) (q:=q) D (λu e=>by cases e) (λ_=>rfl) q1 Z (by omega) Y X w;refine Sg (y:=.slice (some ⟨V.b k,0 * 0+off,none⟩) q.toNat m) hK ha hd (hr.trans ?_) (.refl hH) (ab _ _) (.refl _) (.of_1 (g:=.orv k 0 0 off q.toNat m) ⟨hkn,V.b k,0,⟨rfl,rfl⟩,by simp⟩) h
     congr 2
     unfold L6;simp only[Int.toNat_zero,Nat.zero_mul,Nat.sub_zero,Option.map_some,Nat.zero_add];by_cases p:m=0
     .rw[dt p]
     .rw[dq p];rfl
    case h_3=>exact h.elim
    obtain⟨⟨E,hv⟩,h⟩:=h;obtain⟨e1,h4⟩:=Oz (Fu hv) h2;have C:cs.length=O.length:=by rw[e1];simp
    have hno:=(hH.foot k _ (V.b k) hr ((hf _).2 rfl)).2;let I':Imm:=λb o=>if b=V.b k then O[o]? else I b o;have hle:I.le I':=λb o x F=>by show(if b=V.b k then _ else I b o)=_;rw[dq (λe=>by rw[e,hno o] at F;cases F)];exact F
    have hmem:Mem I' w:=λb o x F=>by
     change (if b=V.b k then _ else I b o)=_ at F
     split at F
     .next e=>rw[e,h3];exact F
     .exact hH.mem b o x F
    have J:Later own I V w ((k,.gone)::own) I' (V.drop k) w:=Hk hH hr hle hmem (λb o B=>by show(if b=V.b k then _ else I b o)=_;rw[dq (λe=>B ((hf b).2 e))]) (λb=>by simp[Va.drop])
    have U:(((cs.drop off).take m).map λg=>[g]).length=m:=by simp;omega
    have hvr:VRep I' (.sl (((cs.drop off).take m).map λg=>[g])) (.slice (some ⟨V.b k,off,none⟩) m m):=by
     conv=>rhs;rw[<-U]
     refine .sl _ (some ⟨V.b k,off,none⟩) _ 1 (λi _=>O.getD (off+i) undef) (au _) (λe=>by cases e) (λr hr=>?_) (λi r hr=>⟨V.b k,off,rfl,λj hj=>?_⟩) λi r j g hr hg=>?_
     .obtain⟨g,-,rfl⟩:=bj.1 hr;rfl
     .have hi:i < m:=by have:=(aq.1 hr).1;omega
      have e0:off+i * 1+j=off+i:=by omega
      rw[e0];show(if V.b k=V.b k then O[off+i]? else _)=_;rw[dt rfl];have:off+i < O.length:=by omega
      simp[this]
     .rw[ax] at hr;obtain⟨g0,W,rfl⟩:=bg.1 hr;have W:=Z33 W;rw[e1,ax] at W;obtain⟨u,h6,rfl⟩:=bg.1 W;cases j with
      | zero =>
       simp at hg;subst hg;simp only[List.getD,h6,Option.getD_some];exact .v u
      | succ j=>simp at hg
    refine Sg (y:=.slice (some ⟨V.b k,off,none⟩) m m) hK ha hd ?_ J (ab _ _) (.drop _ _) (.of_v hvr) h;have hr:=run (l:=0) (q:=m) D (λu e=>by cases e) (λ_=>rfl) (λu e=>by cases e) (λ_=>rfl) (by omega) (by omega) (by omega) w;refine hr.trans ?_
    congr 2
    unfold L6;simp only[Int.toNat_natCast,Int.toNat_zero,Nat.zero_mul,Nat.sub_zero,Option.map_some];by_cases p:m=0
    .rw[dt p]
    .rw[dq p];rfl
   cases off with
   | succ off=>exact frz (off:=off+1) h D
   | zero =>
    cases hb0:Nat.beq ty' ty with
    | false=>rw[hb0] at h;exact frz (off:=0) h D
    | true =>
    cases hm0:Nat.ble m 1048576 with
    | false=>rw[hb0,hm0] at h;exact frz (off:=0) h D
    | true =>
    rw[hb0,hm0] at h;have p:=hm0;have p:=dp p;obtain⟨B,hv,h⟩:=Z9s h;obtain⟨e1,h4⟩:=Oz hv h2;have C:O.length=m:=by rw[<-B,e1];simp
    have J:=Ja (w':=w) (r:=.slc (cs.map λg=>[g]) ty' 1) hH hr rfl rfl rfl (au _) (λ_ _ _=>rfl) (.slice (some ⟨V.b k,0,none⟩) m m) (·=V.b k) (λb e=>⟨.inl ((hf b).2 e),by rw[e];exact(bz.1 h1).1⟩) ⟨λb=>by simp[Va.push,Va.drop,Value.ownBlock,eq_comm],O.map λu=>[u],⟨by rw[Qt];simp[C,B],.inr ⟨V.b k,m,O.toArray,by simp[Va.push,Va.drop,B],av _,h1,by simp[B],by unfold maxLen;omega,by simp[C],by rw[Qt,ao,B,Nat.mul_one];exact ba (Nat.le_of_eq C)⟩⟩,by simp[C,B],λi r u hr M=>?_,λu M=>by obtain⟨x,-,rfl⟩:=bj.1 M;rfl,λu M x F=>by obtain⟨y,hy,rfl⟩:=bj.1 M;rw[bx.1 F];exact h4 y hy,Nat.one_pos⟩
    .have hk2:look k ((V.n,R.slc (cs.map λg=>[g]) ty' 1)::(k,.gone)::own)=some .gone:=by
      rw[Af,dq (by omega),Af,dt rfl]
     have L:k≠V.n:=by omega
     have U:=J.trans (Dm (w':=w) (r:=.lnk V.n) J.has hk2 rfl rfl rfl rfl (λ_ _=>rfl) ⟨λb=>by simp[Va.push,Va.drop,L],by show V.n < V.n+1;omega,m,by simp[Va.push,Va.drop,L]⟩);obtain⟨g',v,k1,k2,k3⟩:=arv (V2:=(V.drop k).push 0 (.slice (some ⟨V.b k,0,none⟩) m m) (·=V.b k)) h D (by show V.n < V.n+1;omega) (by simp[Va.push,Va.drop]);exact Sg (y:=v) hK ha hd k3 U (ab _ _) (λj hj b B=>by
      have hjn:j≠V.n:=by omega
      have B:(if j=V.n then(·=V.b k) else(if j=k then λ_=>False else V.f j)) b:=B;rw[dq hjn] at B;split at B
      .exact B.elim
      .exact B) (.of_c k2) k1
    .rw[ax] at hr M;obtain⟨g0,W,rfl⟩:=bg.1 hr;obtain⟨x,h6,rfl⟩:=bg.1 M;rw[e1,ax,h6] at W;cases W;exact .cons (.v x) .nil
  .next j hr =>
   obtain⟨-,hjn,mm,hsj⟩:=hH.each k _ hr;split at h
   .next rows e' hrj =>
    obtain⟨E,h⟩:=h;obtain⟨A,c,hv,-⟩:=H7 hH hrj;rw[hsj] at hv;injection hv with e1 e2 e3;obtain⟨g',v,k1,k2,k3⟩:=arv (V2:=V) h D hjn (by rw[hsj,e2,E]);exact Sg (y:=v) hK ha hd k3 (.refl hH) (ab _ _) (.refl _) (.of_c k2) k1
   .exact h.elim
  .exact h.elim
 | oel k i sz off =>
  obtain⟨hkn,b,q0,n,c,hs,D⟩:=Lf hg;dsimp only at h;split at h
  .next rows e' sz' hr hlo =>
   obtain rfl:=Z4v hH hr hs;rw[cp] at D;split at h
   .next B =>
    obtain⟨q,h,q1,Z⟩:=Fl h ha hH;obtain⟨⟨r1,Y,X⟩,⟨⟨E,hsz0⟩,h⟩⟩:=h;have hr:=run (l:=0) (q:=q) D (λu e=>by cases e) (λ_=>rfl) q1 Z (by omega) Y X w;refine Sg (y:=.slice (some ⟨b,i * sz+off,none⟩) q.toNat m) hK ha hd (hr.trans ?_) (.refl hH) (ab _ _) (.refl _) (.of_1 (g:=.orv k i sz off q.toNat m) ⟨hkn,b,0,by cases sz with | zero=>omega | succ sz=>exact⟨n,c,hs⟩,by simp⟩) h
    congr 2
    unfold L6;simp only[Int.toNat_zero,Nat.zero_mul,Nat.sub_zero,Option.map_some];by_cases p:m=0
    .rw[dt p]
    .rw[dq p];rfl
   .exact h.elim
  .exact h.elim
 | _=>exact h.elim
theorem Z4k (hT:∀t i,look t tb=some i->TIok P t i)(hH:Has I V own w)(ha:ARep N I V a t)(hd:∀i,o.dst=some i->i < N)(hK:NxtB N own I V w K next){ty m e sz:TypeId}{z:Operand}{lo j:Option Operand}{T:Bool}{s:List G}{O:List (TypeId × Nat)}{ik:Option IntKind}(E:look ty tb=some ⟨T,s,none,O,false,ik,.arr m e sz⟩)(C:o.op=.slice ty z lo j none)
  (h:ev t own z λg=>Z6k t own m lo j g λg=>K (put o.dst g t) own V.n):o.wp P a w next Q:=by
 obtain⟨D,c⟩:=(hT _ _ E).kd;have c:∀w,(sizeOf e).run P w=.ok sz w:=Bt c;obtain⟨g,h,B⟩:=B7 h ha hH;unfold Z6k at h;cases g with
 | ptr k off =>
  cases lo with
  | some y=>exact h.elim
  | none =>
   cases j with
   | none=>exact h.elim
   | some x =>
    obtain⟨f,J⟩:=C9 B;dsimp only at h;split at h
    .next cs F hr =>
     obtain⟨q,h,A,M⟩:=Fl h ha hH;obtain⟨⟨U,L,H⟩,h⟩:=h;refine Sg (y:=.slice (some ⟨V.b k,0 * 0+off,none⟩) q.toNat m) hK ha hd ?_ (.refl hH) (ab _ _) (.refl _) (.of_1 (g:=.orv k 0 0 off q.toNat m) ⟨f,V.b k,0,⟨rfl,rfl⟩,by simp⟩) h;have p:=Hj (P:=P) (sl:=false) (len:=m) (cap:=m) (Gw (a:=a) (z:=none) (m:=0) (d:=0) (λu e=>by cases e) (λ_=>rfl)) (Gw A M) (by omega) L H (au _) w;rw[Option.map_none] at p;simp only[execOp,C,Instr.sliceAt,Instr.sureAddr,Sem.run_bind,run_underlying D,Result.andThen_ok,J,Sem.run_pure,Option.map_none,c,p]
     congr 3
     by_cases l:m=0
     .simp[l]
     .simp[l,Addr.add]
    .exact h.elim
 | _=>exact h.elim
theorem TIok.u8 (hT:∀t i,look t tb=some i->TIok P t i){e:TypeId}(h:Zba tb e=true):P.underlying e=some (.int .u8):=by
 unfold Zba at h;split at h
 .next b=>exact(hT _ _ b).ik _ rfl
 .cases h
theorem Z3p {h:List UInt8}{b:List (List G)}{A:Option Addr}{c:Nat}(L:b=h.map gBy)(hr:∃rs:List (List Value),rs.length=b.length/\(∀(i:Nat) r u,b[i]?=some r->rs[i]?=some u->PW (VRep I) r u)/\(∀u∈rs,u.length=1)/\∀a,A=some a->∀(m:Nat) x,rs.flatten[m]?=some x->w.cell? (a.add m)=some x)(M:A=none->b=[]){src dst e:TypeId}(C:P.underlying src=some (.slice e))(p:P.underlying e=some (.int .u8))(hd:P.underlying dst=some .string) :
  (convert src dst (.slice A b.length c)).run P w=.ok (.string ⟨h.toArray⟩) w:=by
 subst L;cases A with
 | none =>
  have O:h=[]:=by simpa using M rfl
  subst O;rw[run_convert_bytes_string w src dst e none _ c C p hd];simp[Conv.bytesToString];rfl
 | some ad =>
  obtain⟨rs,T,E,s,H⟩:=hr;have:=run_convert_bytes_back (P:=P) w src dst e ad c h C p hd λj D=>by
   have l:j < (h.map gBy).length:=by simpa using D
   have f:j < rs.length:=by omega
   have J:=E j _ _ (ap l) (ap f);have U:=s rs[j] (bw f);have F:=Cm s (ap f) (ap (by omega:0 < rs[j].length));have q:=H ad rfl _ _ F;rw[Nat.mul_one,Nat.add_zero] at q;rw[q];have B:=J.2 0 (.v (.int .u8 (h[j].toNat:Int))) rs[j][0] (by simp[gBy]) (ap _);generalize rs[j][0]=z at B;cases B;rfl
  rw[ao];exact this
theorem Has.below (h:Has I V own w)(c:Below w.heap.size w w'):Has I V own w' :=
 (Nv h (h.mem.keep λb _ _ e=>c.block b (h.mem.lt e)) (.refl _) (λ_ _ _=>rfl) c).has
theorem Zb0 (hT:∀t i,look t tb=some i->TIok P t i)(hS:∀u,S u->Agree V XL w u)(hH:Has I V own w)(ha:ARep N I V a t){src dst:TypeId}{z:Operand}(ho:o.op=.convert src dst z){p q:TI}(hp:look src tb=some p)(hq:look dst tb=some q)(h:ev t own z λg=>cvK own g p q (cvU tb p XL) λg=>K (put o.dst g t) own V.n):QOk S P I V own w a t o K:=by
 obtain⟨g,h,L⟩:=B7 h ha hH;have j:∀{v u},(convert src dst (a.eval z)).run P u=.ok v u->(execOp a.eval o).run P u=.ok (.value v) u:=λhr=>by simp only[execOp,ho,Sem.run_bind,hr,Result.andThen_ok,Sem.run_pure]
 have C:=hT _ _ hp;have D:=hT _ _ hq;obtain⟨pag,pz,pe,pf,ps,pk,pd⟩:=p;obtain⟨Z,qz,qe,qf,T,qk,qd⟩:=q;unfold cvK cvU at h;dsimp only at h;cases pe with
 | some es =>
  obtain⟨e,sz⟩:=es;cases T with
  | false=>exact False.elim h
  | true =>
   cases XL with
   | cons k XL=>exact False.elim h
   | nil =>
   dsimp only at h;cases hu:Zba tb e with
   | false=>rw[hu] at h;exact h.elim
   | true =>
    rw[hu] at h;dsimp only at h;have X:=TIok.u8 hT hu;have O:=D.str rfl;have W:=(C.elem e sz rfl).1;have main:∀{f:List (List G)} {K1:List UInt8->Prop},EvBytes f K1->Z37 own g 1 (λr=>r=f)->∃B,K1 B/\∀u,S u->(convert src dst (a.eval z)).run P u=.ok (.string ⟨B.toArray⟩) u:=λ{f K1} ⟨B,e1,l⟩ hn=>by refine⟨B,l,λu E=>?_⟩;obtain⟨new,A,c,rs,e2,e3,U,F,k3,k4,-,k5⟩:=V6 hn (L:TRep I V g (a.eval z)) hH;subst e2;rw[e3];refine Z3p e1 ⟨rs,F,k3,k4,λa ha m x hx=>?_⟩ (λe=>ay (U e).1) W X O;have H:=k5 a ha m x hx;have M:=World.block_lt_of_cell? w _ H;rw[ac (w:=w) (w':=u) (hS u E _ M (λk l=>by simp at l))];exact H
    have J:∀{f:List (List G)} {K1:List UInt8->Prop},EvBytes f K1->∀r∈f,r.length=1/\r.all G.one=true:=fun⟨B,e1,_⟩ r hr=>by subst e1;obtain⟨b,-,rfl⟩:=bj.1 hr;exact⟨rfl,rfl⟩
    cases g with
    | nl =>
     obtain⟨B,l,hr⟩:=main h rfl;exact⟨_,_,l,.of_v (.v _),λu E=>j (hr u E)⟩
    | sl f =>
     obtain⟨B,l,hr⟩:=main h ⟨J h,rfl⟩;exact⟨_,_,l,.of_v (.v _),λu E=>j (hr u E)⟩
    | osl k =>
     unfold byK at h;dsimp only at h;split at h
     .next f e' Y =>
      obtain⟨B,l,hr⟩:=main h (by unfold Z37;dsimp only;rw[Y]);exact⟨_,_,l,.of_v (.v _),λu E=>j (hr u E)⟩
     .exact h.elim
    | _=>exact False.elim h
 | none =>
  cases ps with
  | true =>
   cases T with
   | false=>exact False.elim h
   | true =>
    dsimp only at h;split at h
    .next s =>
     have e:=B0 L;exact⟨_,_,h,.of_v (.v _),λu _=>j (by rw[e];simp[convert,run_underlying (C.str rfl),run_underlying (D.str rfl)])⟩
    .exact h.elim
  | false =>
   cases pk with
   | none=>exact False.elim h
   | some U =>
    cases T with
    | true=>exact False.elim h
    | false =>
     cases qk with
     | none=>exact False.elim h
     | some F =>
      dsimp only at h;split at h
      .next k n =>
       have e:=B0 L;have H:∀u,(convert src dst (.int k n)).run P u=.ok (.int F (F.wrap n)) u:=λu=>by simp[convert,run_underlying (C.ik U rfl),run_underlying (D.ik F rfl),Conv.intToInt]
       cases F with
       | i64 =>
        obtain⟨hr,l⟩:=h;exact⟨_,_,l,.of_v (.v _),λu _=>j (by rw[e,H,IntWalk.i64_in _ hr])⟩
       | u8=>exact⟨_,_,h,.of_v (.v _),λu _=>j (by rw[e,H,IntKind.wrap_u8])⟩
       | u64=>exact⟨_,_,h,.of_v (.v _),λu _=>j (by rw[e,H])⟩
       | _=>exact False.elim h
      .exact h.elim
theorem Z43 (hH:Has I V own w)(ha:ARep N I V a t)(hd:∀i,o.dst=some i->i < N)(hK:NxtB N own I V w K next){src dst e:TypeId}{z:Operand}(T:o.op=.convert src dst z)(Y:P.underlying src=some .string)(H:P.underlying dst=some (.slice e))(W:P.underlying e=some (.int .u8))(h:ev t own z λg=>match g with
  | .v (.string s)=>K (put o.dst (.sl (s.data.toList.map gBy)) t) own V.n
  | _=>False):o.wp P a w next Q:=by
 obtain⟨g,h,B⟩:=B7 h ha hH;split at h
 .next s =>
  have U:=B0 B;have hr:=run_bytes_of_string (P:=P) w src dst e s Y H W;obtain⟨w',q⟩:∃w',w'=(w.drew.alloc (.cells (bytesRow s (grownCap w s.size 0 e)) e ((bytesRow s (grownCap w s.size 0 e)).size,(bytesRow s (grownCap w s.size 0 e)).size+1))):=⟨_,rfl⟩;rw[<-q] at hr;have F:Below w.heap.size w w':=by rw[q];exact((ab _ _).drew).alloc (au _) _
  have O:w'.heap[w.heap.size]?=some (.cells (bytesRow s (grownCap w s.size 0 e)) e ((bytesRow s (grownCap w s.size 0 e)).size,(bytesRow s (grownCap w s.size 0 e)).size+1)):=by rw[q];exact heap_alloc_new w.drew _
  let I':Imm:=λb o=>if b=w.heap.size then(bytesRow s (grownCap w s.size 0 e))[o]? else I b o;have E:I.le I':=λb o x c=>by show(if b=w.heap.size then _ else I b o)=_;rw[dq (λJ=>by have:=hH.mem.lt c;omega)];exact c
  have M:Mem I' w':=λb o x c=>by
   change (if b=w.heap.size then _ else I b o)=_ at c
   split at c
   .next J=>subst J;rw[cell_of_row w' _ o _ e _ O];exact c
   .exact(hH.mem.keep (w':=w') λb o x c=>F.block b (hH.mem.lt c)) b o x c
  have X:=Nv hH M E (λb o p=>dq (Nat.ne_of_lt p)) F;have C:s.size<=grownCap w s.size 0 e:=grownCap_ge w s.size 0 e;refine Sg (g:=.sl (s.data.toList.map gBy)) (y:=.slice (some ⟨w.heap.size,0,none⟩) s.size (grownCap w s.size 0 e)) hK ha hd (by simp only[execOp,T,Sem.run_bind,U,hr,Result.andThen_ok,Sem.run_pure]) X F (.refl _) (.of_v ?_) h;have f:∀(i:Nat) (b:UInt8),s.data.toList[i]?=some b->(bytesRow s (grownCap w s.size 0 e))[i]?=some (Value.int .u8 (b.toNat:Int)):=λi b L=>by
   have p:=(aq.1 L).1;unfold bytesRow;rw[Array.getElem?_append_left (by simpa using p)];have D:s.data[i]?=some b:=by simpa using L
   simp[D]
  have l:∀(i:Nat) r,(s.data.toList.map gBy)[i]?=some r->∃b,s.data.toList[i]?=some b/\r=gBy b:=λi r hr=>by rw[ax] at hr;obtain⟨b,A,D⟩:=bg.1 hr;exact⟨b,A,D.symm⟩
  have key:=VRep.sl (I:=I') (s.data.toList.map gBy) (some ⟨w.heap.size,0,none⟩) (grownCap w s.size 0 e) 1 (λi _=>((bytesRow s (grownCap w s.size 0 e))[i]?).getD undef) (by simpa using C) (λe=>by cases e) (λr hr=>by obtain⟨b,-,rfl⟩:=bj.1 hr;rfl) (λi r hr=>⟨_,_,rfl,λj Z=>?_⟩) (λi r j g hr B=>?_)
  .simpa using key
  .obtain⟨b,A,-⟩:=l i r hr;obtain rfl:j=0:=by omega
   show(if w.heap.size=w.heap.size then _ else _)=_;rw[dt rfl,cp,Nat.mul_one,Nat.add_zero,f i b A];rfl
  .obtain⟨b,A,rfl⟩:=l i r hr;cases j with
   | succ j=>simp[gBy] at B
   | zero =>
    simp[gBy] at B;subst B;rw[f i b A];exact .v _
 .exact h.elim
theorem Kb:∀{rs:List (List Value)} (_:∀u∈rs,u.length=1) (k:Nat),(rs.take k).flatten=rs.flatten.take k/\(rs.drop k).flatten=rs.flatten.drop k
 | [],_,k=>by simp
 | u::rs,h,0=>by simp
 | u::rs,h,k+1=>by have b:=h u (by simp);obtain⟨x,rfl⟩:∃x,u=[x]:=List.length_eq_one_iff.1 b;have c:=Kb (rs:=rs) (λu b=>h u (by simp[b])) k;simp[c.1,c.2]
theorem Rm (hH:Has I V own w){k e lo d:Nat}{l new:List (List G)}(M:look k own=some (.slc l e 1))(hlo:lo+d<=l.length){A:Option Addr}{c:Nat}{rs:List (List Value)}(hA:A=none->new.length=0/\c=0)(k1:rs.length=new.length)(k2:∀(i:Nat) r u,new[i]?=some r->rs[i]?=some u->PW (VRep I) r u)(U:∀u∈rs,u.length=1)(k4:∀u∈rs,∀x∈u,x.oneCell'=true)(k5:∀a,A=some a->∀(j:Nat) u,rs.flatten[j]?=some u->w.cell? (a.add j)=some u)
  {X sT T:TypeId} (W:P.underlying X=some (.slice T)) (hs:(P.info? T).map (·.size)=some 1) (ty:TypeId) :
  ∃w',(Builtin.copy_ #[X,sT] ty #[L6 1 (V.s k) lo (lo+d),.slice A new.length c]).run P w=.ok (.int .i64 (min new.length d:Nat)) w'/\Later own I V w ((k,.slc (l.take lo++new.take (min new.length d)++l.drop (lo+min new.length d)) e 1)::own) I V w':=by
 obtain⟨hf,p,ho,g2,g3,D,g5,g6⟩:=hH.each k _ M;obtain⟨m,L⟩:∃m,m=min new.length d:=⟨_,rfl⟩;have hmd:m<=d:=by rw[L];exact Nat.min_le_right _ _
 have hmn:m<=new.length:=by rw[L];exact Nat.min_le_left _ _
 rw[<-L];obtain⟨A0,c0,B,hc0⟩:=H7 hH M;by_cases h0:m=0
 .subst h0;refine⟨w,?_,Dm hH M rfl rfl rfl rfl (λ_ _=>rfl) ?_⟩
  .rw[B];unfold L6;dsimp only;have:=run_copy_none (P:=P) w X sT ty T (if c0=lo then A0 else A0.map (·.add (lo * 1))) A (lo+d - lo) (c0 - lo) new.length c W hs (by rw[Nat.add_sub_cancel_left];exact L.symm);exact this
  .simpa using hH.each k _ M
 .rcases ho.2 with⟨H,h8⟩ | ⟨b,cap,cur,H,-,hg,hnc,hcm,hcs,ht⟩
  .omega
  .rw[H] at B;injection B with e1 e2 e3;subst e1 e3;cases A with
   | none=>have:=hA rfl;omega
   | some ad =>
    have Y:¬cap=lo:=by omega
    obtain⟨cs,z⟩:∃cs,cs=(rs.take m).flatten:=⟨_,rfl⟩;have F:∀u∈rs.take m,u.length=1:=λu W=>U u (bn W);have O:cs.length=m:=by rw[z,Bq F];simp;omega
    have J:∀j x,cs[j]?=some x->rs.flatten[j]?=some x:=λj x hx=>by rw[z] at hx;obtain⟨i,q,u,rfl,hq,f,Z⟩:=Qd F hx;exact Cm U (by rw[br] at f;(split at f<;>first | exact f | cases f)) Z
    have h1:∀v∈cs,v.oneCell'=true:=λv B=>by rw[z] at B;obtain⟨u,f,B⟩:=List.mem_flatten.1 B;exact k4 u (bn f) v B
    have C:=run_copy_row (P:=P) w X sT ty T b (0+lo * 1) (lo+d - lo) (cap - lo) ad new.length c cur e cs W hs hg (by rw[O,L,Nat.add_sub_cancel_left]) (λj v B=>k5 ad rfl j v (J j v B)) (by rw[O];omega) h1;rw[O] at C;have hrl:∀u∈p,u.length=1:=D;refine⟨w.setRow b (cur.toList.take (0+lo * 1)++cs++cur.toList.drop (0+lo * 1+m)).toArray,?_,Dm (w':=w.setRow b _) hH M rfl rfl rfl (by simp[World.setRow]) (λb' hb'=>setRow_other w _ b' _ (λe=>hb' ((hf b').2 (by rw[H,e];rfl)))) ⟨hf,p.take lo++rs.take m++p.drop (lo+m),⟨?_,.inr ⟨b,cap,_,(by rw[H];congr 1;simp;first | done | omega),av _,setRow_heap w b cur _ e _ hg,by simp;omega,hcm,by simp;omega,?_⟩⟩,by simp;omega,λi r u hr f=>?_,λu f=>?_,λu f=>?_,g6⟩⟩
    .rw[H];unfold L6;dsimp only;rw[dq Y];simp only[Option.map_some,Cv];exact C
    .have:∀u∈p.take lo++rs.take m++p.drop (lo+m),u.length=1:=λu f=>by
      rcases ce.1 f with h | h
      .rcases ce.1 h with h | h
       .exact D u (bn h)
       .exact U u (bn h)
      .exact D u (ck h)
     rw[Bq this];simp;omega
    .have ht':cur.toList.take (l.length * 1)=p.flatten:=ht;have hcl:cur.toList.length=cap * 1:=by simpa using hcs
     rw[List.flatten_append,List.flatten_append,(Kb D lo).1,(Kb D (lo+m)).2,<-z,<-ht'];have hn:(l.take lo++new.take m++l.drop (lo+m)).length=l.length:=by simp;omega
     rw[hn,show 0+lo * 1=lo by omega];simp only[List.take_append,List.take_take,List.drop_take,List.length_take,List.length_append,O];rw[Nat.min_eq_right (by omega:lo<=l.length * 1),ct (by omega:lo<=l.length * 1),ct (by omega:lo<=cur.toList.length),ba (by omega:cs.length<=l.length * 1 - lo)]
    .have e1:(l.take lo).length=lo:=by simp;omega
     have e2:(p.take lo).length=lo:=by simp;omega
     have e3:(new.take m).length=m:=by simp;omega
     have e4:(rs.take m).length=m:=by simp;omega
     rcases Nat.lt_or_ge i (lo+m) with hlt | hge
     .rw[bu (by simp;omega)] at hr f;rcases Nat.lt_or_ge i lo with E | hge2
      .rw[bu (by omega),br,dt E] at hr f;exact g3 i r u hr f
      .rw[bo (by omega),e1,br,dt (by omega)] at hr;rw[bo (by omega),e2,br,dt (by omega)] at f;exact k2 _ r u hr f
     .rw[bo (by simp;omega)] at hr f;have e5:(l.take lo++new.take m).length=lo+m:=by simp;omega
      have e6:(p.take lo++rs.take m).length=lo+m:=by simp;omega
      rw[e5,cf] at hr;rw[e6,cf] at f;exact g3 _ r u hr f
    .rcases ce.1 f with h | h
     .rcases ce.1 h with h | h
      .exact D u (bn h)
      .exact U u (bn h)
     .exact D u (ck h)
    .rcases ce.1 f with h | h
     .rcases ce.1 h with h | h
      .exact g5 u (bn h)
      .exact k4 u (bn h)
     .exact g5 u (ck h)
theorem Z9x (hH:Has I V own w){k j sz off e:Nat}{l:List (List G)}(hr:look k own=some (.slc l e sz)){b n c:Nat}(U:V.s k=.slice (some ⟨b,0,none⟩) n c)(X:j < l.length){ds:List Value}(F:off+ds.length<=sz)(H:∀v∈ds,v.oneCell'=true) :
  ∃(u:List Value) (f:Array Value),u.length=sz/\PW (VRep I) l[j] u/\w.heap[b]?=some (.cells f e (0,0))/\j * sz+off+ds.length<=f.size/\∀z,PW (VRep I) z (u.take off++ds++u.drop (off+ds.length))->Later own I V w ((k,.slc (l.set j z) e sz)::own) I V (w.setRow b (f.toList.take (j * sz+off)++ds++f.toList.drop (j * sz+off+ds.length)).toArray):=by
   obtain⟨rs,f,E,h2,h3,J,Y,hn,W,L,Z,ht,-⟩:=S3 hH hr U;have hj:j < l.length:=X;have A:j < rs.length:=by omega
   have k3:=F;have D:=J rs[j] (bw A);have hjn:j * sz+sz<=n * sz:=by rw[<-Nat.succ_mul];exact Nat.mul_le_mul_right _ (by omega)
   have hnn:n * sz<=c * sz:=Nat.mul_le_mul_right _ W;refine⟨rs[j],f,D,h3 j _ _ (ap hj) (ap A),E,by omega,λz k2=>?_⟩;have O:=Ut J (ap A) off ds k3;have hfln:=Bq J;have q:∀u∈rs.set j (rs[j].take off++ds++rs[j].drop (off+ds.length)),u.length=sz/\∀x∈u,x.oneCell'=true:=λu p=>by
    rcases cy p with h | rfl
    .exact⟨J u h,Y u h⟩
    .refine⟨by simp;omega,λx B=>?_⟩;rcases ce.1 B with B | B
     .rcases ce.1 B with B | B
      .exact Y _ (bw A) x (bn B)
      .exact H x B
     .exact Y _ (bw A) x (ck B)
   refine(Dm (w':=w.setRow b (f.toList.take (j * sz+off)++ds++f.toList.drop (j * sz+off+ds.length)).toArray) (r:=.slc (l.set j z) e sz) hH hr rfl rfl rfl (by simp[World.setRow]) (λb' T=>setRow_other w _ b' _ (λe=>T (((hH.each k _ hr).1 b').2 (by rw[U,e];rfl)))) ⟨(hH.each k _ hr).1,rs.set j (rs[j].take off++ds++rs[j].drop (off+ds.length)),⟨?_,.inr ⟨b,c,_,by rw[U,hn];simp,av _,setRow_heap w _ f _ e _ E,by simp;omega,L,?_,?_⟩⟩,by simp[h2],?_,λu D=>(q u D).1,λu D=>(q u D).2,(hH.each k _ hr).2.choose_spec.2.2.2.2.2⟩)
   .rw[Bq λu D=>(q u D).1];simp[h2]
   .simp;omega
   .rw[O];simp only[List.length_set,<-hn];rw[<-ht];have hcl:f.toList.length=c * sz:=by simpa using Z
    simp only[List.take_append,List.take_take,List.drop_take,List.length_take,List.length_append];rw[Nat.min_eq_right (by omega:j * sz+off<=n * sz),ct (by omega:j * sz+off<=n * sz),ct (by omega:j * sz+off<=f.toList.length),ba (by omega:ds.length<=n * sz - (j * sz+off))]
   .intro i r u C p;rw[cx] at C p;split at C
    .next M =>
     subst M;rw[dt rfl,dt A] at p;cases C;cases p;exact k2
    .next M =>
     rw[dq M] at p;exact h3 i r u C p
theorem Zad (hT:∀t i,look t tb=some i->TIok P t i)(hK:Nxt N own0 I0 V0 w0 K next)(hL:Since own0 I0 V0 w0 own I V w)(ha:ARep N I V a t)(hd:∀i,o.dst=some i->i < N){x z:Operand}{ty D:TypeId}{ag:Bool}{ze:List G}{e:Nat}{fl:List (TypeId × Nat)}{st:Bool}{ik:Option IntKind}{kd:KD}(X:look ty tb=some ⟨ag,ze,some (e,1),fl,st,ik,kd⟩)(ho:o.op=.call {callee:=.builtin .copy,args:=#[x,z],argTypes:=#[ty,D]})(h:ev t own x λg=>ev t own z λq=>Z37 own q 1 λnew=>match g with
          | .osl k=>match look k own with
           | some (.slc f e 1)=>K (put o.dst (.v (.int .i64 (min new.length f.length:Nat))) t) ((k,.slc (new.take (min new.length f.length)++f.drop (min new.length f.length)) e 1)::own) V.n
           | _=>False
          | .osv k 1 lo hi=>match look k own with
           | some (.slc f e 1)=>K (put o.dst (.v (.int .i64 (min new.length (hi - lo):Nat))) t) ((k,.slc (f.take lo++new.take (min new.length (hi - lo))++f.drop (lo+min new.length (hi - lo))) e 1)::own) V.n
           | _=>False
          | .orv k i sz off len _=>match look k own with
           | some (.slc f e sz')=>match Nat.beq sz sz' with
            | true=>Eu (off+len<=sz) (EvSet f i (λrow k=>k (row.take off++(new.take (min new.length len)).flatten++row.drop (off+min new.length len))) λU=>K (put o.dst (.v (.int .i64 (min new.length len:Nat))) t) ((k,.slc U e sz)::own) V.n)
            | false=>False
           | _=>False
          | _=>False):o.wp P a w next Q:=by
 obtain⟨g,hk1,hg⟩:=B7 h ha hL.has;obtain⟨q,H,hq⟩:=B7 hk1 ha hL.has;obtain⟨new,A,c,rs,l,he,hA,k1,k2,k3,k4,k5⟩:=V6 H hq hL.has;clear h hk1 H;obtain⟨Y,ie,zv,T,Z,h3,h4,h5,h6⟩:=(hT _ _ X).elem e 1 rfl;have hs:(P.info? e).map (·.size)=some 1:=by rw[T];simp[h3]
 have p:∀{v w'},(Builtin.copy_ #[ty,D] o.type #[a.eval x,.slice A new.length c]).run P w=.ok v w'->(execOp a.eval o).run P w=.ok (.value v) w':=λhr=>by simp only[execOp,ho,resolve,invoke,builtin,Sem.run_bind,Sem.run_pure,Result.andThen_ok,List.map_toArray,List.map_cons,List.map_nil,he,hr]
 cases g with
 | osl k =>
  obtain⟨hkn,L⟩:=(show k < V.n/\a.eval x=V.s k from hg);dsimp only at l;split at l
  .next f e' B =>
   obtain⟨w',c1,c2⟩:=Rm (P:=P) (lo:=0) (d:=f.length) hL.has B (by omega) hA k1 k2 k3 k4 k5 Y hs (sT:=D) o.type;obtain⟨A0,c0,F,hc0⟩:=H7 hL.has B;have e0:L6 1 (V.s k) 0 (0+f.length)=V.s k:=by rw[F];unfold L6;dsimp only;cases A0<;>simp[Addr.add]
   rw[e0] at c1;refine fin hK hL ha hd (p (by rw[L];exact c1)) c2 (.of_v (.v _)) ?_;simpa using l
  .exact l.elim
 | osv k sz lo hi =>
  obtain⟨hkn,⟨b1,b2⟩,L⟩:=(show k < V.n/\(lo<=hi/\hi<=N6 (V.s k))/\a.eval x=L6 sz (V.s k) lo hi from hg);cases M:Nat.beq sz 1 with
  | false =>
   exfalso;cases sz with
   | zero=>exact l.elim
   | succ n=>cases n with
    | zero=>cases M
    | succ n=>exact l.elim
  | true =>
   have M:=aw M;subst M;have l:match look k own with
    | some (.slc f e 1)=>K (put o.dst (.v (.int .i64 (min new.length (hi - lo):Nat))) t) ((k,.slc (f.take lo++new.take (min new.length (hi - lo))++f.drop (lo+min new.length (hi - lo))) e 1)::own) V.n
    | _=>False:=l
   split at l
   .next f e' B =>
    obtain⟨A0,c0,F,hc0⟩:=H7 hL.has B;have b3:hi<=f.length:=by rw[F] at b2;exact b2
    obtain⟨w',c1,c2⟩:=Rm (P:=P) (lo:=lo) (d:=hi - lo) hL.has B (by omega) hA k1 k2 k3 k4 k5 Y hs (sT:=D) o.type;rw[show lo+(hi - lo)=hi by omega] at c1;exact fin hK hL ha hd (p (by rw[L];exact c1)) c2 (.of_v (.v _)) l
   .exact l.elim
 | orv k i sz off len cap =>
  obtain⟨hkn,b,q0,hob,L⟩:=(show TRep1 I V (.orv k i sz off len cap) (a.eval x) from hg);dsimp only at l;split at l
  .next f e' sz' B =>
   split at l
   .next hb =>
    have hb:=aw hb;subst hb;obtain⟨n0,c0,hs0⟩:∃n c,V.s k=.slice (some ⟨b,q0,none⟩) n c:=by
     obtain⟨-,-,-,-,-,-,-,hz⟩:=hL.has.each k _ B;cases sz with
     | zero=>omega
     | succ sz=>exact hob
    obtain rfl:=Z4v hL.has B hs0;rw[cp] at L;obtain⟨hfit,W,l⟩:=l;obtain⟨m,hm⟩:∃m,m=min new.length len:=⟨_,rfl⟩;rw[<-hm] at l;obtain⟨ds,J⟩:∃ds,ds=(rs.take m).flatten:=⟨_,rfl⟩;have k3':∀u∈rs.take m,u.length=1:=λu Y=>k3 u (bn Y);have X:ds.length=m:=by rw[J,Bq k3'];simp;omega
    have O:∀v∈ds,v.oneCell'=true:=λv F=>by rw[J] at F;obtain⟨u,E,F⟩:=List.mem_flatten.1 F;exact k4 u (bn E) v F
    obtain⟨u,C,q1,q2,q3,q4,q5⟩:=Z9x hL.has (off:=off) B hs0 W (ds:=ds) (by omega) O;have hpd:PW (VRep I) (new.take m).flatten ds:=by
     rw[J];refine Tk (by simp[k1]) λi r u T Z=>?_;rw[br] at T Z;split at T
     .next W=>rw[dt W] at Z;exact k2 i r u T Z
     .cases T
    have hrow:PW (VRep I) (f[i].take off++(new.take m).flatten++f[i].drop (off+m)) (u.take off++ds++u.drop (off+ds.length)):=by
     rw[X];have p1:=q2.part 0 off;have p2:=q2.part (off+m) sz;rw[List.drop_zero,List.drop_zero] at p1;have e1:f[i].length=sz:=by rw[q2.1,q1]
     rw[ba (by rw[bk];omega),ba (by rw[bk];omega)] at p2;exact(p1.append hpd).append p2
    have hl2:=q5 _ hrow;have H:=l f[i] (by simp);have hr3:(Builtin.copy_ #[ty,D] o.type #[a.eval x,.slice A new.length c]).run P w=.ok (.int .i64 (m:Nat)) (w.setRow b (C.toList.take (i * sz+off)++ds++C.toList.drop (i * sz+off+ds.length)).toArray):=by
     rw[L];cases A with
     | none =>
      have h0:=(hA rfl).1;have hm0:m=0:=by omega
      subst hm0;have hd0:ds=[]:=ay X;have hsf:w.setRow b (C.toList.take (i * sz+off)++ds++C.toList.drop (i * sz+off+ds.length)).toArray=w:=by
       subst hd0;have e1:(C.toList.take (i * sz+off)++[]++C.toList.drop (i * sz+off+0)).toArray=C:=by simp
       rw[show([]:List Value).length=0 from rfl,e1];unfold World.setRow;refine congrArg (λh=>({w with heap:=h}:World)) (?_:_=w.heap);apply Array.ext
       .simp
       .intro j T Z;rw[Array.getElem_modify];split
        .next e =>
         subst e;have:=(bz.1 q3).2;rw[this]
        .rfl
      rw[hsf];refine run_copy_none (P:=P) w ty D o.type e (some ⟨b,i * sz+off,none⟩) none len cap new.length c Y hs ?_;rw[h0];exact Nat.zero_min _
     | some ad =>
      have hsub:∀j x,ds[j]?=some x->rs.flatten[j]?=some x:=λj x L=>by rw[J] at L;obtain⟨i,q,u,rfl,hq,E,hx'⟩:=Qd k3' L;exact Cm k3 (by rw[br] at E;(split at E<;>first | exact E | cases E)) hx'
      have p:=run_copy_row (P:=P) w ty D o.type e b (i * sz+off) len cap ad new.length c C e' ds Y hs q3 (by rw[X,hm]) (λj v F=>k5 ad rfl j v (hsub j v F)) q4 O;rw[X] at p⊢;exact p
    exact fin hK hL ha hd (p hr3) hl2 (.of_v (.v _)) H
   .exact l.elim
  .exact l.elim
 | _=>exact l.elim
end
theorem S7:∀(rs:List R) (j i:Nat),look i (Ev rs j)=if j<=i then rs[i - j]? else none
 | [],j,i=>by simp[Ev,look]
 | r::rs,j,i=>by
  rw[Ev,Af,S7 rs (j+1) i];by_cases h:i=j
  .subst h;simp
  .by_cases b:j<=i
   .obtain⟨d,rfl⟩:=Nat.exists_eq_add_of_le b;cases d with
    | zero=>simp at h
    | succ d =>
     rw[dq h,dt (by omega),dt b,show j+(d+1) - (j+1)=d by omega,show j+(d+1) - j=d+1 by omega];simp
   .rw[dq h,dq b,dq (by omega)]
theorem Bi (rs:List R)(i:Nat):look i (Ev rs 0)=rs[i]?:=by rw[S7];simp
def Bm (ks:List Nat)(n i:Nat):Nat:=match ks[i]? with
 | some k=>k
 | none=>n+(i - ks.length)
theorem Dr (n i:Nat):Bm [] n i=n+i:=by simp[Bm]
theorem I5 (k:Nat)(ks:List Nat)(n i:Nat):Bm (k::ks) n (i+1)=Bm ks n i:=by
 unfold Bm;simp only[List.getElem?_cons_succ,List.length_cons];cases ks[i]? with
 | some k=>rfl
 | none=>simp only;congr 1;omega
theorem Mj:∀(ks:List Nat) (n:Nat) (rs:List R) (j i:Nat),look i (Sn ks n rs j)=if j<=i/\i - j < rs.length then some (Bm ks n (i - j)) else none
 | [],n,[],j,i=>by simp[Sn,look]
 | k::ks,n,[],j,i=>by simp[Sn,look]
 | k::ks,n,r::rs,j,i=>by
  rw[Sn,Af,Mj ks n rs (j+1) i];by_cases h:i=j
  .subst h;simp[Bm]
  .by_cases b:j+1<=i/\i - (j+1) < rs.length
   .rw[dq h,dt b,dt ⟨by omega,by simp;omega⟩,show i - j=i - (j+1)+1 by omega,I5]
   .rw[dq h,dq b,dq (λc=>b ⟨by omega,by simp at c;omega⟩)]
 | [],n,r::rs,j,i=>by
  rw[Sn,Af,Mj [] (n+1) rs (j+1) i];by_cases h:i=j
  .subst h;simp[Bm]
  .by_cases b:j+1<=i/\i - (j+1) < rs.length
   .rw[dq h,dt b,dt ⟨by omega,by simp;omega⟩,Dr,Dr];congr 1;omega
   .rw[dq h,dq b,dq (λc=>b ⟨by omega,by simp at c;omega⟩)]
def Pp (m:List (Nat × Nat)):List R->List Nat->Os->Nat->Os
 | [],_,own,_=>own
 | r::rs,k::ks,own,n=>Pp m rs ks ((k,Lh m r)::own) n
 | r::rs,[],own,n=>Pp m rs [] ((n,Lh m r)::own) (n+1)
theorem Xv {m:List (Nat × Nat)}{g:G}(h:C7 g=true):My m g=g:=by cases g<;>first | rfl | cases h
theorem Z07 {m:List (Nat × Nat)}{l:List G}(h:Bp C7 l=true):l.map (My m)=l:=by
 induction l with
 | nil=>rfl
 | cons g l ih =>
  have b:=Ao h g (by simp);have c:Bp C7 l=true:=by unfold Bp at h;rw[b] at h;exact h
  rw[cw,Xv b,ih c]
theorem Kj {m:List (Nat × Nat)}{r:R}(h:M0 r=true):Lh m r=r:=by
 cases r with
 | blk cs t=>simp only[Lh,Z07 (show Bp C7 cs=true from h)]
 | lnk j=>cases h
 | adr j b=>cases h
 | _=>rfl
theorem K9 {m:List (Nat × Nat)}{g:G}(h:Jk g=true):Z3a m g=g:=by
 cases g with
 | oag l=>simp only[Z3a,Z07 (show Bp C7 l=true from h)]
 | clo f a c=>cases h
 | tup l=>cases h
 | ptr k o=>cases h
 | osl k=>cases h
 | osv k a b c=>cases h
 | oel k a b c=>cases h
 | orv k a b c d e=>cases h
 | mp k=>cases h
 | _=>rfl
theorem Nj {m:List (Nat × Nat)}{g:G}(h:S5 g=true):R3 m g=g:=by
 cases g with
 | tup l =>
  have key:∀l:List G,Bp Jk l=true->l.map (Z3a m)=l:=λl h=>by
   induction l with
   | nil=>rfl
   | cons g l ih =>
    have j:=Ao h g (by simp);have p:Bp Jk l=true:=by unfold Bp at h;rw[j] at h;exact h
    rw[cw,K9 j,ih p]
  simp only[R3,key l h]
 | v x=>exact K9 (m:=m) (g:=.v x) h
 | oag l=>exact K9 (m:=m) (g:=.oag l) h
 | clo f a c=>cases h
 | ptr k o=>cases h
 | osl k=>cases h
 | osv k a b c=>cases h
 | oel k a b c=>cases h
 | orv k a b c d e=>cases h
 | mp k=>cases h
 | _=>rfl
theorem Lg {m:List (Nat × Nat)}{K:Os->Nat->Prop}:∀{rs:List R} {ks:List Nat} {own:Os} {n:Nat},L5 m rs ks own n K->K (Pp m rs ks own n) (n+(rs.length - ks.length))
 | [],ks,own,n,h=>by simpa [L5,Pp] using h
 | r::rs,k::ks,own,n,h=>by
  have b:L5 m rs ks ((k,Lh m r)::own) n K:=by
   unfold L5 at h;split at h
   .next e=>rw[Kj e];exact h
   .exact h
  have:=Lg b;simpa [Pp] using this
 | r::rs,[],own,n,h=>by
  have b:L5 m rs [] ((n,Lh m r)::own) (n+1) K:=by
   unfold L5 at h;split at h
   .next e=>rw[Kj e];exact h
   .exact h
  have:=Lg b;simp only[List.length_nil,Nat.sub_zero] at this;simpa [Pp,Nat.add_assoc,Nat.add_comm 1] using this
theorem Za7 {ks:List Nat}{own:Os}{n:Nat}{g:G}{rs:List R}{K:G->Os->Nat->Prop}(h:Z13 ks own n g rs K):K (R3 (Sn ks n rs 0) g) (Pp (Sn ks n rs 0) rs ks own n) (n+(rs.length - ks.length)):=by
 unfold Z13 at h;split at h
 .next e=>rw[Nj e];exact Lg (K:=λown n=>K g own n) h
 .exact Lg (K:=λown' b=>K (R3 (Sn ks n rs 0) g) own' b) h
theorem Cr {m:List (Nat × Nat)}:∀{rs:List R} {ks:List Nat} {own:Os} {n k:Nat} {r:R},look k (Pp m rs ks own n)=some r ->
  (∃i b,Bm ks n i=k/\rs[i]?=some b/\r=Lh m b)\/((∀i,i < rs.length->Bm ks n i≠k)/\look k own=some r)
 | [],ks,own,n,k,r,h=>.inr ⟨λi c=>by simp at c,h⟩
 | b::rs,k0::ks,own,n,k,r,h=>by
  rcases Cr (rs:=rs) (ks:=ks) (own:=(k0,Lh m b)::own) (n:=n) h with⟨i,r1,h1,h2,h3⟩ | ⟨h1,h2⟩
  .exact .inl ⟨i+1,r1,by rw[I5];exact h1,by simpa using h2,h3⟩
  .rw[Af] at h2;split at h2
   .next e=>cases h2;exact .inl ⟨0,b,by simp[Bm,e],rfl,rfl⟩
   .next e=>exact .inr ⟨λi c=>by
     cases i with
     | zero=>simp[Bm];exact λf=>e f.symm
     | succ i=>rw[I5];exact h1 i (by simpa using c),h2⟩
 | b::rs,[],own,n,k,r,h=>by
  rcases Cr (rs:=rs) (ks:=[]) (own:=(n,Lh m b)::own) (n:=n+1) h with⟨i,r1,h1,h2,h3⟩ | ⟨h1,h2⟩
  .exact .inl ⟨i+1,r1,by rw[Dr] at h1⊢;omega,by simpa using h2,h3⟩
  .rw[Af] at h2;split at h2
   .next e=>cases h2;exact .inl ⟨0,b,by rw[Dr];omega,rfl,rfl⟩
   .next e=>exact .inr ⟨λi c=>by
     cases i with
     | zero=>rw[Dr];exact λf=>e (by omega)
     | succ i =>
      have:=h1 i (by simpa using c);rw[Dr] at this⊢;omega,h2⟩
section
variable {I I':Imm} {V V1 V':Va} {w w':World} {own:Os} {k n:Nat} {g:G} {x:Value} {r:R} {ks:List Nat} {rs:List R}
theorem VRep.cr (h:VRep I g x):CRep I V g x:=.of_v h
def Va.lend (V:Va)(ks:List Nat):Va:=⟨ks.length,λi=>V.b (Bm ks 0 i),λi=>V.s (Bm ks 0 i),λi=>V.f (Bm ks 0 i)⟩
theorem Y7 (f:C7 g=true)(h:CRep I V g x):CRep I V' g x:=by
 cases g with
 | ptr k o=>cases f
 | osl k=>cases f
 | osv k a b c=>cases f
 | oel k a b c=>cases f
 | orv k a b c d e=>cases f
 | mp k=>cases f
 | _=>exact h
theorem Z50 {cs:List G}{b:List Value}(e:Bp C7 cs=true)(h:PW (CRep I V) cs b):PW (CRep I V') cs b:=⟨h.1,λj g u c f=>Y7 (Ao e g (ar c)) (h.2 j g u c f)⟩
theorem RRep.lend (C:M0 r=true)(h:RRep I V k w r){j:Nat}(c:V'.b j=V.b k)(B:V'.s j=V.s k)(q:V'.f j=V.f k):RRep I V' j w r:=by
 cases r with
 | blk cs t =>
  obtain⟨z,E,A,F⟩:=h;exact⟨λb=>by rw[q,c];exact z b,E,by rw[c];exact A,Z50 C F⟩
 | slc rows e sz =>
  obtain⟨z,A⟩:=h;exact⟨λb=>by rw[q,B];exact z b,by rw[B];exact A⟩
 | vw rows e sz =>
  obtain⟨z,A⟩:=h;exact⟨λb=>by rw[q,B];exact z b,by rw[B];exact A⟩
 | froz rows sz=>exact⟨λb=>by rw[q];exact h.1 b,by rw[B];exact h.2.1,h.2.2⟩
 | gone=>exact λb=>by rw[q];exact h b
 | mpI l=>exact⟨λb=>by rw[q,c];exact h.1 b,by rw[c];exact h.2⟩
 | mpS l=>exact⟨λb=>by rw[q,c];exact h.1 b,by rw[c];exact h.2⟩
 | sit s pos=>exact⟨λb=>by rw[q,c];exact h.1 b,by rw[c];exact h.2⟩
 | mpX l m ob=>exact⟨λb=>by rw[q,c];exact h.1 b,by rw[c];exact h.2⟩
 | mit i l D last m ob=>exact⟨λb=>by rw[q,c];exact h.1 b,by rw[c];exact h.2⟩
 | abs p=>exact⟨h.1,by rw[q,c];exact h.2⟩
 | lnk j=>cases C
 | adr j b=>cases C
 | fam ps=>exact⟨h.1,by rw[q];exact h.2⟩
theorem Bg {i:Nat}(h:ks[i]?=some k):Bm ks n i=k:=by simp[Bm,h]
def Va.back (V:Va)(ks:List Nat)(V1:Va):Va:=⟨V.n+(V1.n - ks.length),λk=>if k < V.n then V.b k else V1.b (ks.length+(k - V.n)),λk=>if k < V.n then V.s k else V1.s (ks.length+(k - V.n)),λk b=>(∃i,i < V1.n/\Bm ks V.n i=k/\V1.f i b)\/((∀i,i < V1.n->Bm ks V.n i≠k)/\V.f k b)⟩
theorem Wx (hd:ks.Nodup)(b:∀k∈ks,k < n){i j:Nat}(h:Bm ks n i=Bm ks n j):i=j:=by
 unfold Bm at h;cases hi:ks[i]? with
 | some k =>
  cases hj:ks[j]? with
  | some k' =>
   rw[hi,hj] at h;dsimp only at h;subst h;exact(List.getElem?_inj (aq.1 hi).1 hd).1 (by rw[hi,hj])
  | none =>
   rw[hi,hj] at h;have:=b k (ar hi);dsimp only at h;omega
 | none =>
  have c:=List.getElem?_eq_none_iff.1 hi;cases hj:ks[j]? with
  | some k' =>
   rw[hi,hj] at h;have:=b k' (ar hj);dsimp only at h;omega
  | none =>
   have e:=List.getElem?_eq_none_iff.1 hj;rw[hi,hj] at h;dsimp only at h;omega
theorem D0 {m:List (Nat × Nat)}{out:Nat->Nat}(j:∀i,i < V1.n->(look i m).getD i=out i/\out i < V'.n/\V'.b (out i)=V1.b i/\V'.s (out i)=V1.s i)(h:CRep I V1 g x):CRep I V' (My m g) x:=by
 cases g with
 | ptr k o=>obtain⟨c,f,e,-⟩:=j k h.1;exact⟨by rw[c];exact f,by rw[c,e];exact h.2⟩
 | osl k=>obtain⟨c,f,-,e⟩:=j k h.1;exact⟨by rw[c];exact f,by rw[c,e];exact h.2⟩
 | osv k sz lo hi=>obtain⟨c,f,-,e⟩:=j k h.1;exact⟨by rw[c];exact f,by rw[c,e];exact h.2⟩
 | mp k=>obtain⟨c,f,e,-⟩:=j k h.1;exact⟨by rw[c];exact f,by rw[c,e];exact h.2⟩
 | _=>exact h
theorem Up {m:List (Nat × Nat)}{out:Nat->Nat}(f:∀i,i < V1.n->(look i m).getD i=out i/\out i < V'.n/\V'.b (out i)=V1.b i/\V'.s (out i)=V1.s i){l:List G}{c:List Value}(h:PW (CRep I V1) l c):PW (CRep I V') (l.map (My m)) c :=
 ⟨by simpa using h.1,λj g u e z=>by rw[ax] at e;obtain⟨g0,p,q⟩:=bg.1 e;subst q;exact D0 f (h.2 j g0 u p z)⟩
theorem Bl {m:List (Nat × Nat)}{out:Nat->Nat}(j:∀i,i < V1.n->(look i m).getD i=out i/\out i < V'.n/\V'.b (out i)=V1.b i/\V'.s (out i)=V1.s i)(h:TRep1 I V1 g x):TRep1 I V' (Z3a m g) x:=by
 cases g with
 | oag l =>
  obtain⟨cs,e,h⟩:=h;exact⟨cs,e,Up j h⟩
 | clo f a c =>
  obtain⟨J,H,cs,e,p,A⟩:=h;refine⟨?_,H,cs,e,Up j p,Up j A⟩;obtain⟨g,D,z⟩:=J;have B:C7 (My m g)=false:=by cases g<;>first | rfl | cases z
  exact⟨My m g,D.imp (λh=>bj.2 ⟨g,h,rfl⟩) (λh=>bj.2 ⟨g,h,rfl⟩),B⟩
 | oel k i sz off =>
  obtain⟨z,h⟩:=h;obtain⟨p,A,-,C⟩:=j k z;exact⟨by rw[p];exact A,by rw[p,C];exact h⟩
 | orv k i sz off len cap =>
  obtain⟨z,b,q,E,h⟩:=h;obtain⟨p,A,F,C⟩:=j k z;exact⟨by rw[p];exact A,b,q,E.of (by rw[p];exact F) (by rw[p];exact C),h⟩
 | elp row off=>exact h
 | tup l=>exact h.elim
 | ptr k o=>exact D0 (I:=I) (m:=m) (g:=.ptr k o) j h
 | osl k=>exact D0 (I:=I) (m:=m) (g:=.osl k) j h
 | osv k a b c=>exact D0 (I:=I) (m:=m) (g:=.osv k a b c) j h
 | mp k=>exact D0 (I:=I) (m:=m) (g:=.mp k) j h
 | v y=>exact D0 (I:=I) (m:=m) (g:=.v y) j h
 | tt=>exact D0 (I:=I) (m:=m) (g:=.tt) j h
 | ff=>exact D0 (I:=I) (m:=m) (g:=.ff) j h
 | un=>exact D0 (I:=I) (m:=m) (g:=.un) j h
 | nl=>exact D0 (I:=I) (m:=m) (g:=.nl) j h
 | agg l=>exact D0 (I:=I) (m:=m) (g:=.agg l) j h
 | sl l=>exact D0 (I:=I) (m:=m) (g:=.sl l) j h
theorem Z54 {m:List (Nat × Nat)}{out:Nat->Nat}(p:∀i,i < V1.n->(look i m).getD i=out i/\out i < V'.n/\V'.b (out i)=V1.b i/\V'.s (out i)=V1.s i)(h:TRep I V1 g x):TRep I V' (R3 m g) x:=by
 cases g with
 | tup l =>
  obtain⟨cs,e,h⟩:=h;exact⟨cs,e,by simpa using h.1,λj g u q B=>by rw[ax] at q;obtain⟨g0,z,A⟩:=bg.1 q;subst A;exact Bl p (h.2 j g0 u z B)⟩
 | oag l=>exact .of_1 (Bl (I:=I) (m:=m) (g:=.oag l) p h)
 | clo f a c=>exact .of_1 (Bl (I:=I) (m:=m) (g:=.clo f a c) p h)
 | oel k i sz off=>exact .of_1 (Bl (I:=I) (m:=m) (g:=.oel k i sz off) p h)
 | orv k i sz off l c=>exact .of_1 (Bl (I:=I) (m:=m) (g:=.orv k i sz off l c) p h)
 | elp row off=>exact .of_1 (Bl (I:=I) (m:=m) (g:=.elp row off) p h)
 | ptr k o=>exact .of_1 (Bl (I:=I) (m:=m) (g:=.ptr k o) p h)
 | osl k=>exact .of_1 (Bl (I:=I) (m:=m) (g:=.osl k) p h)
 | osv k a b c=>exact .of_1 (Bl (I:=I) (m:=m) (g:=.osv k a b c) p h)
 | mp k=>exact .of_1 (Bl (I:=I) (m:=m) (g:=.mp k) p h)
 | v y=>exact .of_1 (Bl (I:=I) (m:=m) (g:=.v y) p h)
 | tt=>exact .of_1 (Bl (I:=I) (m:=m) (g:=.tt) p h)
 | ff=>exact .of_1 (Bl (I:=I) (m:=m) (g:=.ff) p h)
 | un=>exact .of_1 (Bl (I:=I) (m:=m) (g:=.un) p h)
 | nl=>exact .of_1 (Bl (I:=I) (m:=m) (g:=.nl) p h)
 | agg l=>exact .of_1 (Bl (I:=I) (m:=m) (g:=.agg l) p h)
 | sl l=>exact .of_1 (Bl (I:=I) (m:=m) (g:=.sl l) p h)
theorem Xa (hH:Has I V own w)(hd:ks.Nodup)(hl:rs.length=ks.length)(hr:∀(i k:Nat),ks[i]?=some k->∃r r',rs[i]?=some r'/\look k own=some r)
  {C:List R} (hn:V1.n=C.length) (h1:Has I' V1 (Ev C 0) w') (M:Fro (Ev rs 0) I (V.lend ks) w (Ev C 0) I' V1 w') (hV:(V.lend ks).le V1) :
  Later own I V w (Pp (Sn ks V.n C 0) C ks own V.n) I' (V.back ks V1) w'/\∀g x,TRep I' V1 g x->TRep I' (V.back ks V1) (R3 (Sn ks V.n C 0) g) x:=by
 have hkn:∀k∈ks,k < V.n:=λk A=>by obtain⟨i,Y,e⟩:=cu.1 A;obtain⟨r,-,-,q⟩:=hr i k (by rw[ap Y,e]);exact hH.num k r q
 have hge:ks.length<=C.length:=by rw[<-hn];exact hV.1
 have E:∀i,i < V1.n->(look i (Sn ks V.n C 0)).getD i=Bm ks V.n i/\Bm ks V.n i < (V.back ks V1).n/\(V.back ks V1).b (Bm ks V.n i)=V1.b i/\(V.back ks V1).s (Bm ks V.n i)=V1.s i:=λi Y=>by
  refine⟨by rw[Mj,dt ⟨by omega,by omega⟩];simp,?_⟩;cases A:ks[i]? with
  | some k =>
   have hlt:=hkn k (ar A);have X:=(aq.1 A).1;have q:=hV.2 i X;rw[Bg A];refine⟨by show k < V.n+_;omega,?_,?_⟩
   .show(if k < V.n then V.b k else _)=_;rw[dt hlt,q.1];simp[Va.lend,Bg A]
   .show(if k < V.n then V.s k else _)=_;rw[dt hlt,q.2];simp[Va.lend,Bg A]
  | none =>
   have hi2:=List.getElem?_eq_none_iff.1 A;have e:Bm ks V.n i=V.n+(i - ks.length):=by simp[Bm,A]
   rw[e];have e2:ks.length+(V.n+(i - ks.length) - V.n)=i:=by omega
   refine⟨by show _ < V.n+_;omega,?_,?_⟩
   .show(if _ < V.n then _ else _)=_;rw[dq (by omega),e2]
   .show(if _ < V.n then _ else _)=_;rw[dq (by omega),e2]
 have W:∀i,i < V1.n->(V.back ks V1).f (Bm ks V.n i)=V1.f i:=λi Y=>by
  funext b;apply propext;constructor
  .rintro(⟨j,Z,e,J⟩ | ⟨h,-⟩)
   .have:=Wx hd hkn e;subst this;exact J
   .exact du rfl (h i Y)
  .exact λJ=>.inl ⟨i,Y,rfl,J⟩
 have U:∀k,(∀i,i < V1.n->Bm ks V.n i≠k)->(V.back ks V1).f k=V.f k:=λk A=>by
  funext b;apply propext;constructor
  .rintro(⟨j,Z,e,-⟩ | ⟨-,J⟩)
   .exact du e (A j Z)
   .exact J
  .exact λJ=>.inr ⟨A,J⟩
 have hle:V.le (V.back ks V1):=⟨Nat.le_add_right _ _,λk A=>⟨dt A,dt A⟩⟩;have lent:∀j r b,look j (Ev rs 0)=some r->(V.lend ks).f j b->∃k r,ks[j]?=some k/\look k own=some r/\V.f k b:=λj r b h J=>by
  rw[Bi] at h;have Z:=(aq.1 h).1;have hj':j < ks.length:=by omega
  obtain⟨L,r',k1,k2⟩:=hr j ks[j] (ap hj');refine⟨_,L,ap hj',k2,?_⟩;have:=Bg (n:=0) (ap hj':ks[j]?=some ks[j]);simpa [Va.lend,this] using J
 have hnl:∀k r,look k own=some r->(∀i,i < V1.n->Bm ks V.n i≠k)->∀b,V.f k b->∀j r',look j (Ev rs 0)=some r'->¬(V.lend ks).f j b:=λk r A hno b B j r' Z J=>by obtain⟨k',r2,q,F,h4⟩:=lent j r' b Z J;have:=hH.disj k k' r r2 b A F B h4;subst this;have hj':=(aq.1 q).1;exact hno j (by omega) (Bg q)
 have z:∀k,(∀i,i < C.length->Bm ks V.n i≠k)->∀i,i < V1.n->Bm ks V.n i≠k:=λk h i Y=>h i (by omega);refine⟨⟨⟨h1.mem,λk r A=>?_,λk r A=>?_,λk r b A B=>?_,λk k' r r' b A hk' B H=>?_⟩,⟨M.os,M.tape,M.output,M.size,λb B hn=>M.blk b B λj r Z J=>?_,M.mono,λk r b A B hlt=>?_⟩,hle⟩,λg x h=>Z54 E h⟩
 .rcases Cr A with⟨i,L,e,q,-⟩ | ⟨q,F⟩
  .have Y:=(aq.1 q).1;rw[<-e];exact(E i (by omega)).2.1
  .exact bc (hH.num k r F) hle.1
 .rcases Cr A with⟨i,L,e,q,rfl⟩ | ⟨q,F⟩
  .have Y:=(aq.1 q).1;have X:i < V1.n:=by omega
   have c:=h1.each i L (by rw[Bi];exact q);obtain⟨-,o1,T,o3⟩:=E i X;have O:=W i X;rw[<-e];cases L with
   | blk cs t =>
    obtain⟨q1,us,q2,q3⟩:=c;exact⟨λb=>by rw[O,T];exact q1 b,us,by rw[T];exact q2,Up E q3⟩
   | slc rows ty sz=>exact⟨λb=>by rw[O,o3];exact c.1 b,by rw[o3];exact c.2⟩
   | vw rows ty sz=>exact⟨λb=>by rw[O,o3];exact c.1 b,by rw[o3];exact c.2⟩
   | froz rows sz=>exact⟨λb=>by rw[O];exact c.1 b,by rw[o3];exact c.2.1,c.2.2⟩
   | gone=>exact λb=>by rw[O];exact c b
   | mpI l=>exact⟨λb=>by rw[O,T];exact c.1 b,by rw[T];exact c.2⟩
   | mpS l=>exact⟨λb=>by rw[O,T];exact c.1 b,by rw[T];exact c.2⟩
   | sit s pos=>exact⟨λb=>by rw[O,T];exact c.1 b,by rw[T];exact c.2⟩
   | mpX l m ob=>exact⟨λb=>by rw[O,T];exact c.1 b,by rw[T];exact c.2⟩
   | mit j l D last m ob=>exact⟨λb=>by rw[O,T];exact c.1 b,by rw[T];exact c.2⟩
   | abs p=>exact⟨c.1,by rw[O,T];exact c.2⟩
   | lnk j =>
    obtain⟨q1,q2,m0,q3⟩:=c;obtain⟨u1,u2,-,u4⟩:=E j q2;exact⟨λb=>by rw[O];exact q1 b,by rw[u1];exact u2,m0,by rw[u1,u4,T];exact q3⟩
   | adr j b =>
    obtain⟨q1,q2,q3⟩:=c;obtain⟨u1,u2,u3,-⟩:=E j q2;exact⟨λb=>by rw[O];exact q1 b,by rw[u1];exact u2,by rw[u1,u3];exact q3⟩
   | fam ps=>exact⟨c.1,by rw[O];exact c.2⟩
  .exact(hH.each k r F).keep M.mono hle (hH.num k r F) (U k (z k q)) M.os M.size λb B=>(M.blk b (hH.foot k r b F B).1 (hnl k r F (z k q) b B)).1
 .rcases Cr A with⟨i,L,e,q,rfl⟩ | ⟨q,F⟩
  .have Y:=(aq.1 q).1;rw[<-e,W i (by omega)] at B;exact h1.foot i L b (by rw[Bi];exact q) B
  .rw[U k (z k q)] at B;have h4:=hH.foot k r b F B;exact⟨bc h4.1 M.size,λo=>((M.blk b h4.1 (hnl k r F (z k q) b B)).2 o).trans (h4.2 o)⟩
 .have cross:∀i L k r,i < V1.n->C[i]?=some L->V1.f i b->look k own=some r->(∀i,i < V1.n->Bm ks V.n i≠k)->V.f k b->False:=λi L k r Y q J A hno B=>by
   have h4:=(hH.foot k r b A B).1;obtain⟨j,r',Z,hf'⟩:=M.foot i L b (by rw[Bi];exact q) J h4;exact hnl k r A hno b B j r' Z hf'
  rcases Cr A with⟨i,L,e,q,-⟩ | ⟨q,F⟩
  .have Y:=(aq.1 q).1;rw[<-e,W i (by omega)] at B;rcases Cr hk' with⟨i',r0',e',h2',-⟩ | ⟨h2',h3'⟩
   .have X:=(aq.1 h2').1;rw[<-e',W i' (by omega)] at H;rw[<-e,<-e',h1.disj i i' L r0' b (by rw[Bi];exact q) (by rw[Bi];exact h2') B H]
   .rw[U k' (z k' h2')] at H;exact(cross i L k' r' (by omega) q B h3' (z k' h2') H).elim
  .rw[U k (z k q)] at B;rcases Cr hk' with⟨i',r0',e',h2',-⟩ | ⟨h2',h3'⟩
   .have X:=(aq.1 h2').1;rw[<-e',W i' (by omega)] at H;exact(cross i' r0' k r (by omega) h2' H F (z k q) B).elim
   .rw[U k' (z k' h2')] at H;exact hH.disj k k' r r' b F h3' B H
 .obtain⟨k,r2,-,F,h4⟩:=lent j r b Z J;exact hn k r2 F h4
 .rcases Cr A with⟨i,L,e,q,-⟩ | ⟨q,F⟩
  .have Y:=(aq.1 q).1;rw[<-e,W i (by omega)] at B;obtain⟨j,r',Z,J⟩:=M.foot i L b (by rw[Bi];exact q) B hlt;obtain⟨k',r2,-,h4,h5⟩:=lent j r' b Z J;exact⟨k',r2,h4,h5⟩
  .rw[U k (z k q)] at B;exact⟨k,r,F,B⟩
end
def ren (m:List (Nat × Nat))(k:Nat):Nat:=(look k m).getD k
def Va.ren (V:Va)(m:List (Nat × Nat))(n:Nat):Va:=⟨n,λk=>V.b (Go.Proofs.YtmmdikhljefeiaaGreat.ren m k),λk=>V.s (Go.Proofs.YtmmdikhljefeiaaGreat.ren m k),λk=>V.f (Go.Proofs.YtmmdikhljefeiaaGreat.ren m k)⟩
theorem Qm:∀{l:List Nat} {k:Nat},Fs k l=true↔k∈l
 | [],k=>by simp[Fs]
 | j::l,k=>by
  unfold Fs;have b:=Qm (l:=l) (k:=k);by_cases h:k=j
  .subst h;simp[Nat.beq_refl]
  .have c:Nat.beq k j=false:=by
    cases hb:Nat.beq k j with
    | false=>rfl
    | true=>exact du (aw hb) h
   simp[c,b,h]
section
variable {P:Program} {tb:List (Nat × TI)} {N n:Nat} {I I' I0:Imm} {V V' V0 V2:Va} {a:Act} {t t':Ts} {own own' own0:Os} {w w' w0:World} {g:G} {x y:Value} {d:Option Tmp} {m:List (Nat × Nat)} {r:R}
theorem Z4b (b:Si n g=true)(h:CRep I V (My m g) x):CRep I (V.ren m n) g x:=by
 cases g with
 | ptr k o=>exact⟨bc (dp b) (au _),h.2⟩
 | osl k=>exact⟨bc (dp b) (au _),h.2⟩
 | osv k sz lo hi=>exact⟨bc (dp b) (au _),h.2⟩
 | mp k=>exact⟨bc (dp b) (au _),h.2⟩
 | oel k i s o=>exact h
 | _=>exact h
theorem Zcp {cs:List G}{b:List Value}(e:Bp (Si n) cs=true)(h:PW (CRep I V) (cs.map (My m)) b):PW (CRep I (V.ren m n)) cs b :=
 ⟨by have:=h.1;simpa using this,λj g u c f=>Z4b (Ao e g (ar c)) (h.2 j _ u (by rw[ax,c];rfl) f)⟩
theorem Z55 {m:List (Nat × Nat)}{k:Nat}(e:Z0u n r=true)(h:RRep I V (ren m k) w (Lh m r)):RRep I (V.ren m n) k w r:=by
 cases r with
 | blk cs ty =>
  obtain⟨f,p,l,c⟩:=h;exact⟨f,p,l,Zcp e c⟩
 | lnk j=>cases e
 | adr j b =>
  obtain⟨f,l,c⟩:=h;exact⟨f,dp e,c⟩
 | _=>exact h
theorem Gy:∀{T:Os},leI m own n T->∀{i r},look i T=some r->i < n/\Z0u n r=true/\look (ren m i) own=some (Lh m r)
 | [],_,i,g,h=>by cases h
 | (j,g')::T,hT,i,g,h=>by
  rw[Af] at h;split at h
  .next e=>subst e;cases h;exact⟨dp hT.1.1,hT.1.2⟩
  .exact Gy hT.2 h
theorem S0 {α:Type}{k:Nat}{x:α}:∀{l:List (Nat × α)},look k l=some x->(k,x)∈l
 | [],h=>by cases h
 | (j,y)::l,h=>by
  rw[Af] at h;split at h
  .next e=>subst e;cases h;simp
  .exact List.mem_cons_of_mem _ (S0 h)
theorem Tz:∀{l:Os},Sk (l.map λp=>ren m p.1)=true->∀{k b r r'},look k l=some r->look b l=some r'->ren m k=ren m b->k=b
 | [],_,k,b,r,r',h,_,_=>by cases h
 | (j,q)::l,hn,k,b,r,r',h,h',e=>by
  simp only[List.map_cons,Sk] at hn;cases hm:Fs (ren m j) (l.map λp=>ren m p.1) with
  | true=>rw[hm] at hn;cases hn
  | false =>
   rw[hm] at hn;have c:∀k r,look k l=some r->ren m k≠ren m j:=λk r z A=>by have:ren m j∈l.map λp=>ren m p.1:=bj.2 ⟨(k,r),S0 z,A⟩;rw[Qm.2 this] at hm;cases hm
   rw[Af] at h h';split at h<;>split at h'
   .next f s=>rw[f,s]
   .next f s=>exact du (e ▸ f ▸ rfl:ren m b=ren m j) (c _ _ h')
   .next f s=>exact du (e.trans (by rw[s])) (c _ _ h)
   .exact Tz hn h h' e
theorem Z6o (f:Si n g=true)(l:n<=V2.n)(e:∀j,j < n->V2.b j=V.b j/\V2.s j=V.s j)(h:CRep I V g x):CRep I V2 g x:=by
 cases g with
 | ptr k o=>have:=dp f;exact⟨bc this l,by rw[(e k this).1];exact h.2⟩
 | mp k=>have:=dp f;exact⟨bc this l,by rw[(e k this).1];exact h.2⟩
 | osl k=>have:=dp f;exact⟨bc this l,by rw[(e k this).2];exact h.2⟩
 | osv k a b c=>have:=dp f;exact⟨bc this l,by rw[(e k this).2];exact h.2⟩
 | _=>exact h
theorem RRep.val (E:Z0u n r=true)(L:n<=V2.n)(C:∀j,j < n->V2.b j=V.b j/\V2.s j=V.s j){k:Nat}(B:k < n)(z:V2.f k=V.f k)(h:RRep I V k w r):RRep I V2 k w r:=by
 have q:=(C k B).1;have A:=(C k B).2;cases r with
 | blk cs t =>
  obtain⟨M,T,O,J⟩:=h;exact⟨λb=>by rw[z,q];exact M b,T,by rw[q];exact O,J.1,λj g u H U=>Z6o (Ao (show Bp (Si n) cs=true from E) g (ar H)) L C (J.2 j g u H U)⟩
 | slc rows e sz=>exact⟨λb=>by rw[z,A];exact h.1 b,by rw[A];exact h.2⟩
 | vw rows e sz=>exact⟨λb=>by rw[z,A];exact h.1 b,by rw[A];exact h.2⟩
 | froz rows sz=>exact⟨λb=>by rw[z];exact h.1 b,by rw[A];exact h.2.1,h.2.2⟩
 | gone=>exact λb=>by rw[z];exact h b
 | mpI l=>exact⟨λb=>by rw[z,q];exact h.1 b,by rw[q];exact h.2⟩
 | mpS l=>exact⟨λb=>by rw[z,q];exact h.1 b,by rw[q];exact h.2⟩
 | sit s pos=>exact⟨λb=>by rw[z,q];exact h.1 b,by rw[q];exact h.2⟩
 | mpX l m ob=>exact⟨λb=>by rw[z,q];exact h.1 b,by rw[q];exact h.2⟩
 | mit j l D last m ob=>exact⟨λb=>by rw[z,q];exact h.1 b,by rw[q];exact h.2⟩
 | abs p=>exact⟨h.1,by rw[z,q];exact h.2⟩
 | lnk j=>cases E
 | adr j b =>
  have F:=dp (show Nat.blt j n=true from E);exact⟨λc=>by rw[z];exact h.1 c,bc F L,by rw[(C j F).1];exact h.2.2⟩
 | fam ps=>exact⟨h.1,by rw[z];exact h.2⟩
theorem Zbu (O:Os):Loc (cl O):=λI I' b S w w' ⟨V,h1,h2,h3⟩ hI hos hs hb=>by have h:∀k r,look k O=some r->∀c,V.f k c->w'.heap[c]?=w.heap[c]?:=λk r e c j=>hb c ((h3 c).2 ⟨k,r,e,j⟩);exact⟨V,h1,⟨h2.num,λk r e=>(h2.each k r e).keep hI (.refl _) (h2.num k r e) rfl hos hs (h k r e),λk r c e j=>bc (h2.lt k r c e j) hs,h2.disj⟩,h3⟩
theorem Wq (h:Has I V own w)(hr:RRep I (V.push 0 undef λ_=>False) V.n w r):Later own I V w ((V.n,r)::own) I (V.push 0 undef λ_=>False) w :=
 Dl h (ab _ _) 0 undef (λ_=>False) (λ_ h=>h.elim) hr
theorem Z1j (h:Has I V own w){k:Nat}(f:look k own=some r):Later own I V w ((V.n,.adr k (V.b k))::own) I (V.push 0 undef λ_=>False) w:=by have e:=h.num k r f;exact Wq h ⟨λc j=>by simp[Va.push] at j,by show k < V.n+1;omega,by simp[Va.push,Nat.ne_of_lt e]⟩
theorem Jl (h:Has I V own w){g0:G}{u:Value}(b:CRep I V g0 u):CRep I V (Dh own g0) u:=by
 cases g0 with
 | osl i =>
  cases hl:look i own with
  | none=>simp only[Dh,hl];exact b
  | some r =>
   cases r with
   | froz rows sz =>
    simp only[Dh,hl];obtain⟨-,rfl⟩:=(show i < V.n/\u=V.s i from b);exact(h.each i _ hl).2.1
   | _=>simp only[Dh,hl];exact b
 | osv i sz lo hi =>
  cases hl:look i own with
  | none=>simp only[Dh,hl];exact b
  | some r =>
   cases r with
   | froz rows sz' =>
    simp only[Dh,hl];cases c:Nat.beq sz sz' with
    | false=>exact b
    | true =>
     have c:=aw c;subst c;obtain⟨-,⟨j,p⟩,rfl⟩:=(show i < V.n/\(lo<=hi/\hi<=N6 (V.s i))/\u=L6 sz (V.s i) lo hi from b);obtain⟨-,e,f⟩:=h.each i _ hl;have l:N6 (V.s i)=rows.length:=by generalize V.s i=z at e;cases e;rfl
     exact Uy e f j (by omega)
   | _=>simp only[Dh,hl];exact b
 | tt=>cases(show VRep I .tt u from b);exact .v _
 | ff=>cases(show VRep I .ff u from b);exact .v _
 | _=>exact b
theorem Wy (h:Has I V own w){k:Nat}{cs:List G}{ty:Nat}(b:look k own=some (.blk cs ty)):Later own I V w ((k,.blk (cs.map (Dh own)) ty)::own) I V w:=by refine Dm h b rfl rfl rfl rfl (λ_ _=>rfl) ?_;obtain⟨l,f,p,c⟩:=h.each k _ b;refine⟨l,f,p,by simpa using c.1,λj g u e s=>?_⟩;rw[ax] at e;obtain⟨g0,q,rfl⟩:=bg.1 e;exact Jl h (c.2 j g0 u q s)
theorem Yb {n:Nat}{K:Os->Nat->Prop}(p:Gh K own n):∀{V:Va},V.n=n->Has I V own w->∃own' I' V',K own' V'.n/\Later own I V w own' I' V' w:=by
 induction p generalizing I with
 | done hk=>exact λ{V} f h=>⟨_,I,V,by rw[f];exact hk,.refl h⟩
 | adr k r hk _ ih =>
  intro V f h;subst f;have c:=Z1j h hk;obtain⟨o,I',V',j,l⟩:=ih (V.b k) (V:=V.push 0 undef λ_=>False) rfl c.has;exact⟨o,I',V',j,c.trans l⟩
 | frz k rows e sz hk _ ih =>
  intro V f h;subst f;obtain⟨q,c,-,-⟩:=Kf h hk;obtain⟨o,I',V',j,l⟩:=ih (V:=V.drop k) rfl c.has;exact⟨o,I',V',j,c.trans l⟩
 | seen k cs ty hk _ ih =>
  intro V f h;subst f;have c:=Wy h hk;obtain⟨o,I',V',j,l⟩:=ih (V:=V) rfl c.has;exact⟨o,I',V',j,c.trans l⟩
end
def inC (k:Nat):G->Prop
 | .ptr j _ | .osl j | .osv j _ _ _ | .oel j _ _ _ | .mp j=>j=k
 | _=>False
def in1 (k:Nat):G->Prop
 | .oag l=>∃g∈l,inC k g
 | .clo _ a c=>∃g,(g∈a\/g∈c)/\inC k g
 | g=>inC k g
def Gath (F:List Nat->(List Nat->Prop)->Prop)(p:Nat->Prop):Prop:=∀l:List Nat,∃b:List Nat,(∀K:List Nat->Prop,F l K=K b)/\(∀j,j∈l->j∈b)/\(∀j,p j->j∈b)/\(l.Nodup->b.Nodup)
theorem Gath.none:Gath (λl K=>K l) (λ_=>False):=λl=>⟨l,λ_=>rfl,λ_ h=>h,λ_ h=>h.elim,λh=>h⟩
theorem Gath.seq {F c:List Nat->(List Nat->Prop)->Prop}{p e:Nat->Prop}(h:Gath F p)(E:Gath c e):Gath (λl K=>F l λl=>c l K) (λj=>p j\/e j):=λl=>by obtain⟨q,a1,a2,z,H⟩:=h l;obtain⟨D,s,f,B,A⟩:=E q;exact⟨D,λK=>(a1 _).trans (s K),λj b=>f j (a2 j b),λj b=>b.elim (λh=>f j (z j h)) (λh=>B j h),λC=>A (H C)⟩
theorem Gath.sub {F:List Nat->(List Nat->Prop)->Prop}{p b:Nat->Prop}(h:Gath F p)(f:∀j,b j->p j):Gath F b:=λl=>by obtain⟨c,a1,a2,q,s⟩:=h l;exact⟨c,a1,a2,λj e=>q j (f j e),s⟩
theorem Ho (k:Nat):Gath (λl K=>Hs k l K) (λj=>j=k):=λl=>by
 induction l with
 | nil=>exact⟨[k],λ_=>rfl,λj h=>by simp at h,λj h=>by simp[h],λ_=>by simp⟩
 | cons i l ih =>
  obtain⟨c,p,A,C,B⟩:=ih;have f:∀j,j∈c->j∈l\/j=k:=by
   have:∀(l:List Nat) (c:List Nat),(∀K:List Nat->Prop,Hs k l K=K c)->∀j,j∈c->j∈l\/j=k:=λl=>by
    induction l with
    | nil=>intro c h j b;have e:=h (λr=>r=[k]);simp[Hs] at e;rw[e] at b;exact .inr (by simpa using b)
    | cons i l ih =>
     intro c h j b;cases hb:Nat.beq k i with
     | true =>
      have e:=h (λr=>r=i::l);unfold Hs at e;rw[hb] at e;simp at e;rw[e] at b;exact .inl b
     | false =>
      have e:∃r,c=i::r/\∀K:List Nat->Prop,Hs k l K=K r:=by
       have key:∀l:List Nat,∃r,∀K:List Nat->Prop,Hs k l K=K r:=λl=>by
        induction l with
        | nil=>exact⟨[k],λ_=>rfl⟩
        | cons i l ih =>
         obtain⟨r,hr⟩:=ih;cases hb:Nat.beq k i with
         | true=>exact⟨i::l,λK=>by unfold Hs;rw[hb]⟩
         | false=>exact⟨i::r,λK=>by unfold Hs;rw[hb];exact hr _⟩
       obtain⟨r,hr⟩:=key l;refine⟨r,?_,hr⟩;have e:=h (λq=>q=i::r);unfold Hs at e;rw[hb] at e;dsimp only at e;rw[hr] at e;simp at e;exact e
      obtain⟨r,rfl,hr⟩:=e;rcases bq.1 b with rfl | b
      .exact .inl (by simp)
      .exact(ih r hr j b).imp (λh=>by simp[h]) id
   exact this l c p
  cases hb:Nat.beq k i with
  | true =>
   have:=aw hb;subst this;exact⟨k::l,λK=>by show Hs k (k::l) K=_;unfold Hs;rw[hb],λj b=>b,λj b=>by simp[b],λh=>h⟩
  | false =>
   refine⟨i::c,λK=>by show Hs k (i::l) K=_;unfold Hs;rw[hb];exact p _,λj b=>?_,λj b=>by simp[C j b],λh=>?_⟩
   .rcases bq.1 b with rfl | b
    .simp
    .simp[A j b]
   .have s:=List.nodup_cons.1 h;refine List.nodup_cons.2 ⟨λz=>?_,B s.2⟩;rcases f i z with h | h
    .exact s.1 h
    .subst h;rw[Nat.beq_refl] at hb;cases hb
theorem Of (g:G):Gath (λl K=>gkC g l K) (λj=>inC j g):=by
 cases g with
 | ptr k o=>exact(Ho k).sub λj h=>Eq.symm h
 | osl k=>exact(Ho k).sub λj h=>Eq.symm h
 | osv k a b c=>exact(Ho k).sub λj h=>Eq.symm h
 | oel k a b c=>exact(Ho k).sub λj h=>Eq.symm h
 | mp k=>exact(Ho k).sub λj h=>Eq.symm h
 | _=>exact Gath.none.sub λj h=>h
theorem Mu:∀l:List G,Gath (λks K=>Z9r l ks K) (λj=>∃g∈l,inC j g)
 | []=>Gath.none.sub λj h=>by simp at h
 | g::l=>((Of g).seq (Mu l)).sub λj ⟨b,h,hk⟩=>by
  rcases bq.1 h with rfl | h
  .exact .inl hk
  .exact .inr ⟨b,h,hk⟩
theorem Zc6 (g:G):Gath (λl K=>gk1 g l K) (λj=>in1 j g):=by
 cases g with
 | oag l=>exact Mu l
 | clo f a c=>exact((Mu a).seq (Mu c)).sub λj ⟨g,h,hk⟩=>h.imp (λh=>⟨g,h,hk⟩) (λh=>⟨g,h,hk⟩)
 | ptr k o=>exact Of (.ptr k o)
 | osl k=>exact Of (.osl k)
 | osv k a b c=>exact Of (.osv k a b c)
 | oel k a b c=>exact Of (.oel k a b c)
 | mp k=>exact Of (.mp k)
 | _=>exact Gath.none.sub λj h=>h
theorem Z7p:∀l:List G,Gath (λks K=>gkL l ks K) (λj=>∃g∈l,in1 j g)
 | []=>Gath.none.sub λj h=>by simp at h
 | g::l=>((Zc6 g).seq (Z7p l)).sub λj ⟨b,h,hk⟩=>by
  rcases bq.1 h with rfl | h
  .exact .inl hk
  .exact .inr ⟨b,h,hk⟩
theorem Jb {k:Nat}:∀{ks:List Nat} {j:Nat},k∈ks->∃i,look k (J6 ks j)=some (j+i)/\ks[i]?=some k
 | [],_,h=>by simp at h
 | k0::ks,j,h=>by
  unfold J6;rw[Af];by_cases e:k=k0
  .subst e;exact⟨0,by simp,rfl⟩
  .rw[dq e];obtain⟨i,b,c⟩:=Jb (ks:=ks) (j:=j+1) ((bq.1 h).resolve_left e);exact⟨i+1,by rw[b];congr 1;omega,by simpa using c⟩
theorem Qn (own:Os):∀l:List Nat,Gath (λb K=>Px own l b K) (λ_=>False)
 | []=>Gath.none
 | k::l=>λb=>by
  have c:=Qn own l;show ∃e:List Nat,(∀K:List Nat->Prop,Px own (k::l) b K=K e)/\_;unfold Px;split
  .exact(((Mu _).seq c).sub λj h=>h.elim) b
  .exact c b
theorem Z16 (own:Os):∀n:Nat,Gath (λks K=>trK own n ks K) (λ_=>False)
 | 0=>Gath.none
 | n+1=>λks=>by obtain⟨c,a1,a2,-,p⟩:=Qn own ks ks;obtain⟨e,f,l,-,b⟩:=Z16 own n c;exact⟨e,λK=>(a1 _).trans (f K),λj h=>l j (a2 j h),λj h=>h.elim,λh=>b (p h)⟩
theorem Xd {ks:List Nat}{r:R}(h:M0 r=true):Z35 ks r=true:=by
 cases r with
 | lnk j=>cases h
 | adr j b=>cases h
 | blk cs t =>
  have key:∀{l:List G},Bp C7 l=true->Bp (Ze6 ks) l=true:=λ{l}=>by
   induction l with
   | nil=>intro _;rfl
   | cons g l ih =>
    intro h;unfold Bp at h⊢;cases hg:C7 g with
    | false=>rw[hg] at h;cases h
    | true =>
     rw[hg] at h;have:Ze6 ks g=true:=by cases g<;>first | rfl | cases hg
     rw[this];exact ih h
  exact key (show Bp C7 cs=true from h)
 | _=>rfl
theorem Z76 {own:Os}{b:List Nat}:∀{ks:List Nat} {K:List R->Prop},rsK own b ks K->∃rs:List R,K rs/\rs.length=ks.length/\∀(i k:Nat),ks[i]?=some k->∃r,rs[i]?=some (Lh (J6 b 0) r)/\look k own=some r/\Z35 b r=true
 | [],K,h=>⟨[],h,rfl,λi k h=>by simp at h⟩
 | k::ks,K,h=>by
  unfold rsK at h;cases hr:look k own with
  | none=>rw[hr] at h;exact h.elim
  | some r =>
   rw[hr] at h;dsimp only at h;have key:Z35 b r=true->rsK own b ks (λrs=>K (Lh (J6 b 0) r::rs))->∃rs:List R,K rs/\rs.length=(k::ks).length/\∀(i e:Nat),(k::ks)[i]?=some e->∃r,rs[i]?=some (Lh (J6 b 0) r)/\look e own=some r/\Z35 b r=true:=λc h=>by
    obtain⟨rs,j,l,p⟩:=Z76 h;refine⟨_,j,by simp[l],λi e f=>?_⟩;cases i with
    | zero=>simp at f;subst f;exact⟨r,rfl,hr,c⟩
    | succ i=>simpa using p i e (by simpa using f)
   cases hn:M0 r with
   | true =>
    rw[hn] at h;exact key (Xd hn) (by rw[Kj hn];exact h)
   | false =>
    rw[hn] at h;dsimp only at h;cases c:Z35 b r with
    | false=>rw[c] at h;exact h.elim
    | true=>rw[c] at h;exact key c h
section
variable {P:Program} {I I' I0:Imm} {V V1 V' V0:Va} {w w' w0:World} {own own0 own':Os} {k n N:Nat} {g:G} {x y:Value} {r:R} {ks:List Nat} {rs:List R} {a:Act} {t:Ts} {o:Oper}
theorem M4 (p:∀k,inC k g->k∈ks)(h:CRep I V g x):CRep I (V.lend ks) (My (J6 ks 0) g) x:=by
 have key:∀k,inC k g->∃i,(look k (J6 ks 0)).getD k=i/\i < ks.length/\(V.lend ks).b i=V.b k/\(V.lend ks).s i=V.s k:=λk q=>by obtain⟨i,e,f⟩:=Jb (j:=0) (p k q);refine⟨i,by rw[e];simp,(aq.1 f).1,?_,?_⟩<;>simp[Va.lend,Bg f]
 cases g with
 | ptr k o=>obtain⟨i,e,f,l,-⟩:=key k rfl;exact⟨by rw[e];exact f,by rw[e,l];exact h.2⟩
 | osl k=>obtain⟨i,e,f,-,l⟩:=key k rfl;exact⟨by rw[e];exact f,by rw[e,l];exact h.2⟩
 | osv k a b c=>obtain⟨i,e,f,-,l⟩:=key k rfl;exact⟨by rw[e];exact f,by rw[e,l];exact h.2⟩
 | mp k=>obtain⟨i,e,f,l,-⟩:=key k rfl;exact⟨by rw[e];exact f,by rw[e,l];exact h.2⟩
 | _=>exact h
theorem Z3n {l:List G}{c:List Value}(b:∀k g,g∈l->inC k g->k∈ks)(h:PW (CRep I V) l c):PW (CRep I (V.lend ks)) (l.map (My (J6 ks 0))) c :=
 ⟨by simpa using h.1,λj g u f s=>by rw[ax] at f;obtain⟨g0,e,q⟩:=bg.1 f;subst q;exact M4 (λk p=>b k g0 (ar e) p) (h.2 j g0 u e s)⟩
theorem RRep.lendK {j:Nat}(A:Z35 ks r=true)(h:RRep I V k w r)(z:(V.lend ks).b j=V.b k)(B:(V.lend ks).s j=V.s k)(q:(V.lend ks).f j=V.f k):RRep I (V.lend ks) j w (Lh (J6 ks 0) r):=by
 cases r with
 | blk cs t =>
  obtain⟨E,M,C,T⟩:=h;refine⟨λb=>by rw[q,z];exact E b,M,by rw[z];exact C,Z3n (λk g J F=>?_) T⟩;have U:=Ao (show Bp (Ze6 ks) cs=true from A) g J;cases g<;>first | (obtain rfl:=(show _=k from F);exact Ca.1 U) | exact F.elim
 | slc rows e sz=>exact⟨λb=>by rw[q,B];exact h.1 b,by rw[B];exact h.2⟩
 | vw rows e sz=>exact⟨λb=>by rw[q,B];exact h.1 b,by rw[B];exact h.2⟩
 | froz rows sz=>exact⟨λb=>by rw[q];exact h.1 b,by rw[B];exact h.2.1,h.2.2⟩
 | gone=>exact λb=>by rw[q];exact h b
 | mpI l=>exact⟨λb=>by rw[q,z];exact h.1 b,by rw[z];exact h.2⟩
 | mpS l=>exact⟨λb=>by rw[q,z];exact h.1 b,by rw[z];exact h.2⟩
 | sit s pos=>exact⟨λb=>by rw[q,z];exact h.1 b,by rw[z];exact h.2⟩
 | mpX l m ob=>exact⟨λb=>by rw[q,z];exact h.1 b,by rw[z];exact h.2⟩
 | mit i l D last m ob=>exact⟨λb=>by rw[q,z];exact h.1 b,by rw[z];exact h.2⟩
 | abs p=>exact⟨h.1,by rw[q,z];exact h.2⟩
 | lnk j=>cases A
 | adr i b =>
  obtain⟨H,W,O⟩:=h;obtain⟨L,E,C⟩:=Jb (j:=0) (Ca.1 (show Fs i ks=true from A));have e:(look i (J6 ks 0)).getD i=L:=by rw[E];simp
  refine⟨λc=>by rw[q];exact H c,?_,?_⟩
  .show(look i (J6 ks 0)).getD i < (V.lend ks).n;rw[e];exact(aq.1 C).1
  .show(V.lend ks).b ((look i (J6 ks 0)).getD i)=b;rw[e];simpa [Va.lend,Bg C] using O
 | fam ps=>exact⟨h.1,by rw[q];exact h.2⟩
theorem Z5p (hH:Has I V own w)(hd:ks.Nodup)(H:rs.length=ks.length)(hr:∀(i k:Nat),ks[i]?=some k->∃r,rs[i]?=some (Lh (J6 ks 0) r)/\look k own=some r/\Z35 ks r=true):Has I (V.lend ks) (Ev rs 0) w:=by
 have key:∀i r',look i (Ev rs 0)=some r'->∃k r,ks[i]?=some k/\look k own=some r/\Z35 ks r=true/\r'=Lh (J6 ks 0) r:=λi r' h=>by
  rw[Bi] at h;have D:=(aq.1 h).1;have q:i < ks.length:=by omega
  obtain⟨r,c,e,B⟩:=hr i ks[i] (ap q);rw[h] at c;cases c;exact⟨_,r,ap q,e,B,rfl⟩
 refine⟨hH.mem,λi r h=>?_,λi r h=>?_,λi r b h l=>?_,λi E r r' b h F l j=>?_⟩
 .obtain⟨k,-,c,-⟩:=key i r h;exact(aq.1 c).1
 .obtain⟨k,s,c,e,B,rfl⟩:=key i r h;exact(hH.each k s e).lendK B (by simp[Va.lend,Bg c]) (by simp[Va.lend,Bg c]) (by simp[Va.lend,Bg c])
 .obtain⟨k,s,c,e,-⟩:=key i r h;have l:V.f k b:=by simpa [Va.lend,Bg c] using l
  exact hH.foot k s b e l
 .obtain⟨k,s,c,e,-⟩:=key i r h;obtain⟨C,z,p,A,-⟩:=key E r' F;have l:V.f k b:=by simpa [Va.lend,Bg c] using l
  have j:V.f C b:=by simpa [Va.lend,Bg p] using j
  have:=hH.disj k C s z b e A l j;subst this;have D:=(aq.1 c).1;exact(List.getElem?_inj D hd).1 (by rw[c,p])
theorem Zal (p:∀k,in1 k g->k∈ks)(h:PRep I V g x):PRep I (V.lend ks) (R3 (J6 ks 0) g) x:=by
 cases g with
 | ptr k o=>exact M4 (I:=I) (g:=.ptr k o) p h
 | osl k=>exact M4 (I:=I) (g:=.osl k) p h
 | osv k a b c=>exact M4 (I:=I) (g:=.osv k a b c) p h
 | mp k=>exact M4 (I:=I) (g:=.mp k) p h
 | oel k i sz off =>
  obtain⟨q,h⟩:=(show k < V.n/\_ from h);obtain⟨F,D,C⟩:=Jb (j:=0) (p k rfl);have e:(look k (J6 ks 0)).getD k=F:=by rw[D];simp
  refine(show TRep1 I (V.lend ks) (.oel ((look k (J6 ks 0)).getD k) i sz off) x from ?_);rw[e];exact⟨(aq.1 C).1,by simpa [Va.lend,Bg C] using h⟩
 | orv k i s o l c=>cases(show VRep I (.orv k i s o l c) x from h)
 | clo f a c =>
  obtain⟨J,H,cs,e,D,C⟩:=h;refine⟨?_,H,cs,e,Z3n (λk g A q=>p k ⟨g,.inl A,q⟩) D,Z3n (λk g A q=>p k ⟨g,.inr A,q⟩) C⟩;obtain⟨g,A,q⟩:=J;have B:C7 (My (J6 ks 0) g)=false:=by cases g<;>first | rfl | cases q
  exact⟨My (J6 ks 0) g,A.imp (λh=>bj.2 ⟨g,h,rfl⟩) (λh=>bj.2 ⟨g,h,rfl⟩),B⟩
 | v z=>exact h
 | tt=>exact h
 | ff=>exact h
 | un=>exact h
 | nl=>exact h
 | agg l=>exact h
 | sl l=>exact h
 | oag l =>
  obtain⟨⟨g,A,q⟩,cs,e,E⟩:=(show(∃g∈l,C7 g=false)/\TRep1 I V (.oag l) x from h);have B:C7 (My (J6 ks 0) g)=false:=by cases g<;>first | rfl | cases q
  exact(show(∃g∈l.map (My (J6 ks 0)),C7 g=false)/\TRep1 I (V.lend ks) (.oag (l.map (My (J6 ks 0)))) x from⟨⟨_,bj.2 ⟨g,A,rfl⟩,B⟩,cs,e,Z3n (λk g A q=>p k ⟨g,A,q⟩) E⟩)
 | tup l=>cases(show VRep I (.tup l) x from h)
 | elp l o=>cases(show VRep I (.elp l o) x from h)
theorem Vj (own:Os):∀l:Os,Gath (λks K=>Wm own l ks K) (λ_=>False)
 | []=>Gath.none
 | (k,r)::l=>λks=>by
  have c:=Vj own l;have skip:(∀K:List Nat->Prop,Wm own ((k,r)::l) ks K=Wm own l ks K)->∃b:List Nat,(∀K:List Nat->Prop,Wm own ((k,r)::l) ks K=K b)/\(∀j,j∈ks->j∈b)/\(∀j,False->j∈b)/\(ks.Nodup->b.Nodup):=λA=>by obtain⟨b,e,p,E,C⟩:=c ks;exact⟨b,λK=>(A K).trans (e K),p,E,C⟩
  cases hl:look k own with
  | none=>exact skip λK=>by show Wm own ((k,r)::l) ks K=_;conv=>lhs;unfold Wm;rw[hl]
  | some q =>
   cases q with
   | fam ps =>
    obtain⟨f,a1,a2,-,F⟩:=Ho k ks;obtain⟨D,s,z,-,B⟩:=c f;refine⟨D,λK=>?_,λj h=>z j (a2 j h),λj h=>h.elim,λh=>B (F h)⟩;show Wm own ((k,r)::l) ks K=_;unfold Wm;rw[hl];exact(a1 (λr=>Wm own l r K)).trans (s K)
   | _=>exact skip λK=>by show Wm own ((k,r)::l) ks K=_;conv=>lhs;unfold Wm;rw[hl]
theorem Z6a (vs:Bool)(gs:List G)(own:Os):Gath (λks K=>Zaj vs gs own ks K) (λ_=>False):=λks=>by
 cases hb:Zfx vs gs ks with
 | false=>exact⟨ks,λK=>by show Zaj vs gs own ks K=_;unfold Zaj;rw[hb],λj h=>h,λj h=>h.elim,λh=>h⟩
 | true =>
  obtain⟨c,b,e,f,l⟩:=Vj own own ks;exact⟨c,λK=>by show Zaj vs gs own ks K=_;unfold Zaj;rw[hb];exact b K,e,f,l⟩
def Hh (mo:Mo)(own:Os)(I:Imm)(V:Va)(w:World)(K:G->Os->Nat->Prop)(e:Ending)(w':World):Prop :=
 ∃x g own' I' V',e=.returned x/\K g own' V'.n/\Later own I V w own' I' V' w'/\TRep I' V' g x/\(mo.loose=false->∃ks:List Nat,mo.lends ks=true/\(∀k∈ks,k < V.n)/\(∀b,b < w.heap.size->(∀k∈ks,¬V.f k b)->w'.heap[b]?=w.heap[b]?)/\∀k,k < V.n->∀b,V'.f k b->V.f k b\/(ks≠[]/\((∃c∈ks,V.f c b)\/w.heap.size<=b)))
theorem Vw {f:FuncId}{mo:Mo}{gs:List G}{vs:List Value}{B C:Prop}{K:G->Os->Nat->Prop}{Z:Prop}(h:Z2d P f mo gs own V.n B C K)(hH:Has I V own w)(hg:PW (PRep I V) gs vs)(hB:B->Z)(hC:C->Z)(hR:Ent P f/\Calls P f vs.toArray w (Hh mo own I V w K)->Z):Z:=by
 unfold Z2d at h;obtain⟨l,L,-,q3,q4⟩:=Z7p gs [];obtain⟨s,Y,r2,-,r4⟩:=Z6a mo.isVs gs own l;obtain⟨ks,U,k2,-,k4⟩:=Z16 own 3 s;have hd:ks.Nodup:=k4 (r4 (q4 (by simp)));have k3:∀j,(∃g∈gs,in1 j g)->j∈ks:=λj h=>k2 j (r2 j (q3 j h));have L:∀K:List Nat->Prop,gkL gs [] K=K l:=L;have Y:∀K:List Nat->Prop,Zaj mo.isVs gs own l K=K s:=Y;have U:∀K:List Nat->Prop,trK own 3 s K=K ks:=U;rw[L,Y,U] at h;have z:PW (PRep I (V.lend ks)) (gs.map (R3 (J6 ks 0))) vs:=⟨by simpa using hg.1,λj g u q p=>by rw[ax] at q;obtain⟨g0,E,rfl⟩:=bg.1 q;exact Zal (λk D=>k3 k ⟨g0,ar E,D⟩) (hg.2 j g0 u E p)⟩
 have main:mo.lends ks=true->∀rs:List R,rs.length=ks.length->(∀(i k:Nat),ks[i]?=some k->∃r,rs[i]?=some (Lh (J6 ks 0) r)/\look k own=some r/\Z35 ks r=true)->FnO P f (gs.map (R3 (J6 ks 0))) rs (λg rs=>Z13 ks own V.n g rs K)->Ent P f/\Calls P f vs.toArray w (Hh mo own I V w K):=λc rs O hr hF=>by
  refine⟨hF.1,(hF.2 I (V.lend ks) w vs (Z5p hH hd O hr) (by rw[O];rfl) z).mono λe w' ⟨x,g,rs',I',V1,he,hq,hn,q,hx,hfro,hle⟩=>?_⟩;obtain⟨l1,l2⟩:=Xa hH hd O (λi k D=>by obtain⟨r,q,p,-⟩:=hr i k D;exact⟨r,_,q,p⟩) hn q hfro hle;have lent:∀j r b,look j (Ev rs 0)=some r->(V.lend ks).f j b->∃k∈ks,V.f k b:=λj r b h A=>by
   rw[Bi] at h;have H:=(aq.1 h).1;have F:j < ks.length:=by omega
   have e:=Bg (n:=0) (ap F:ks[j]?=some ks[j]);exact⟨ks[j],bw F,by simpa [Va.lend,e] using A⟩
  refine⟨x,_,_,I',V.back ks V1,he,(by have:=Za7 hq;rw[show V.n+(rs'.length - ks.length)=(V.back ks V1).n by show _=V.n+(V1.n - ks.length);rw[hn]] at this;exact this),l1,l2 g x hx.to_t,λ_=>⟨ks,c,λk D=>?_,λb W M=>(hfro.blk b W λj r H A=>?_).1,λk D b W=>?_⟩⟩
  .obtain⟨i,hi,e⟩:=cu.1 D;obtain⟨r,-,p,-⟩:=hr i k (by rw[ap hi,e]);exact hH.num k r p
  .obtain⟨k,p,E⟩:=lent j r b H A;exact M k p E
  .rcases W with⟨i,hi,e,A⟩ | ⟨-,A⟩
   .cases hks:ks with
    | nil=>subst hks;rw[Dr] at e;omega
    | cons k0 l =>
     rw[<-hks];refine .inr ⟨by rw[hks];simp,?_⟩;by_cases T:b < w.heap.size
     .have X:i < rs'.length:=by omega
      obtain⟨j,r',H,J⟩:=hfro.foot i _ b (by rw[Bi];exact ap X) A T;exact .inl (lent j r' b H J)
     .exact .inr (by omega)
   .exact .inl A
 cases c:mo.lends ks with
 | false=>rw[c] at h;exact h.elim
 | true =>
  rw[c] at h;dsimp only at h;cases ks with
  | nil =>
   cases h with
   | lend h=>exact hB h
   | gh h=>exact hC h
   | pure h =>
    refine hR (main c [] rfl (λi k h=>by simp at h) ?_);have e:gs.map (R3 (J6 [] 0))=gs:=by show gs.map (R3 [])=gs;rw[funext Z45];simp
    rw[e];exact h
  | cons k0 l =>
   obtain⟨rs,q,p,E⟩:=Z76 h;cases q with
   | lend h=>exact hB h
   | gh h=>exact hC h
   | pure h=>exact hR (main c rs p E h)
theorem Z9j (h:TRep I V g x)(b:g.lent=true):PRep I V (Z39 g) x:=by
 cases g with
 | nl=>cases(show VRep I .nl x from h);exact .sl [] none 0 0 (λ_ _=>undef) (au _) (λ_=>rfl) (by simp) (λi r h=>by simp at h) (λi r j g h=>by simp at h)
 | tt=>cases(show VRep I .tt x from h);exact .v _
 | ff=>cases(show VRep I .ff x from h);exact .v _
 | oag l =>
  have key:∀{l:List G},N5 (λg=>match C7 g with | true=>false | false=>true) l=true->∃g∈l,C7 g=false:=λ{l} b=>by
   induction l with
   | nil=>cases b
   | cons g l ih =>
    unfold N5 at b;cases hg:C7 g with
    | false=>exact⟨g,by simp,hg⟩
    | true =>
     rw[hg] at b;obtain⟨f,e,p⟩:=ih b;exact⟨f,by simp[e],p⟩
  exact⟨key b,h⟩
 | tup l=>cases b
 | orv k i s o l c=>cases b
 | elp l o=>cases b
 | _=>exact h
theorem Pc {f:FuncId}{mo:Mo}{gs:List G}{vs:List Value}{C:Prop}{K:G->Os->Nat->Prop}(h:lendK P f mo gs own V.n C K)(hH:Has I V own w)(c:PW (TRep I V) gs vs)(q:C->Ent P f/\Calls P f vs.toArray w (Hh mo own I V w K)):Ent P f/\Calls P f vs.toArray w (Hh mo own I V w K):=by
 unfold lendK at h;split at h
 .next p =>
  refine Vw h hH ⟨by simpa using c.1,λj g u b l=>?_⟩ False.elim q id;rw[ax] at b;obtain⟨g0,e,rfl⟩:=bg.1 b;exact Z9j (c.2 j g0 u e l) (Ao p g0 (ar e))
 .exact h.elim
theorem Zcl {g:G}{x:Value}(hH:Has I V own w)(h:TRep I V g x):TRep I V (Zf9 own g) x:=by
 have c:∀{g:G} {x:Value},CRep I V g x->CRep I V (Dh own g) x:=λ{g x} h=>Jl hH h;cases g with
 | osl k=>exact .of_c (c (g:=.osl k) h)
 | osv k sz lo hi=>exact .of_c (c (g:=.osv k sz lo hi) h)
 | oag l =>
  unfold Zf9;dsimp only;split
  .next q =>
   obtain⟨cs,rfl,e⟩:=(show TRep1 I V (.oag l) x from h);refine .of_v (.agg _ cs (by simpa using e.1) λj g u b s=>?_);have f:=Ao q g (ar b);rw[ax] at b;obtain⟨g0,p,rfl⟩:=bg.1 b;exact(c (e.2 j g0 u p s)).to_v f
  .exact h
 | _=>exact h
theorem Z2q {f:FuncId}{gs:List G}{K:G->Os->Nat->Prop}{n:Nat}(h:Z7m P f own n K gs)(hH:Has I V own w):∀{vs:List Value},V.n=n->PW (TRep I V) gs vs->Ent P f/\Calls P f vs.toArray w λe w'=>∃x g own' I' V',e=.returned x/\K g own' V'.n/\Later own I V w own' I' V' w'/\TRep I' V' g x:=by
 induction h with
 | same h =>
  intro vs l z;subst l;obtain⟨L,F⟩:=Pc h hH z False.elim;refine⟨L,F.mono λe w' ⟨x,g,own',I',V',he,E,hl,hx,s⟩=>?_⟩;obtain⟨B,O,V2,J,C⟩:=Yb E rfl hl.has;exact⟨x,g,B,O,V2,he,J,hl.trans C,hx.mono C.fro.mono C.va⟩
 | see _ ih =>
  intro vs l z;refine ih l ⟨by simpa using z.1,λj g u c A=>?_⟩;rw[ax] at c;obtain⟨g0,E,rfl⟩:=bg.1 c;exact Zcl hH (z.2 j g0 u E A)
 | @rawA p q gs b off j k hj _ ih =>
  intro vs l z;refine ih l ?_;obtain⟨v,H,rfl,T,l⟩:=z.uncons;obtain⟨-,D,M⟩:=hH.each j _ hj;cases(show VRep I (.agg _) v from T) with
  | agg _ cs hl hc =>
   refine .cons (show TRep I V (.oag _) _ from⟨cs,rfl,by simpa using hl,λm g u c A=>?_⟩) l;rcases Nat.lt_trichotomy m p.length with s | s | s
   .rw[bu s] at c;exact .of_v (hc m g u (by rw[bu s];exact c) A)
   .subst s;rw[bo (au _),Nat.sub_self] at c;cases c;have e:=hc p.length (.v (.pointer (some ⟨_,_,none⟩))) u (by rw[bo (au _),Nat.sub_self];rfl) A;cases e;exact⟨D,by rw[M]⟩
   .obtain⟨i,rfl⟩:∃i,m=p.length+(i+1):=⟨m - p.length - 1,by omega⟩;rw[bo (by omega),Nat.add_sub_cancel_left] at c;exact .of_v (hc _ g u (by rw[bo (by omega),Nat.add_sub_cancel_left];exact c) A)
theorem Z0o {f:FuncId}{mo:Mo}{gs:List G}{vs:List Value}{K:G->Os->Nat->Prop}(h:ghK P f mo gs own V.n K)(hH:Has I V own w)(s:PW (TRep I V) gs vs):Ent P f/\Calls P f vs.toArray w (Hh mo own I V w K):=by
 cases mo with
 | row =>
  obtain⟨j,z,V1,l,b⟩:=Yb h rfl hH;obtain⟨p,q⟩:=Z2q l b.has rfl (s.mono λ_ _ h=>h.mono b.fro.mono b.va);exact⟨p,q.mono λe w' ⟨x,g,own2,I2,V2,he,hk,hl,hx⟩=>⟨x,g,own2,I2,V2,he,hk,b.trans hl,hx,λc=>by cases c⟩⟩
 | late =>
  obtain⟨j,z,V1,l,b⟩:=Yb h rfl hH;obtain⟨p,q⟩:=Z2q l b.has rfl (s.mono λ_ _ h=>h.mono b.fro.mono b.va);exact⟨p,q.mono λe w' ⟨x,g,own2,I2,V2,he,hk,hl,hx⟩=>⟨x,g,own2,I2,V2,he,hk,b.trans hl,hx,λc=>by cases c⟩⟩
 | _=>exact h.elim
theorem Z5n {f:FuncId}{mo:Mo}{gs p q:List G}{vs:List Value}{K:G->Os->Nat->Prop}(h:Oq P f mo gs p q own V.n K)(hH:Has I V own w)(s:PW (TRep I V) (p++(gs++q)) vs):Ent P f/\Calls P f vs.toArray w (Hh mo own I V w K):=by
 unfold Oq at h;split at h
 .exact Z0o h hH s
 split at h
 .exact Pc h hH s λH=>Z0o H hH s
 .obtain⟨E,M,W,V1,B,c,z,C⟩:=Z2c h s hH;have B:Z2d P f mo E M V1.n (lendK P f mo (p++(gs++q)) own V.n False K) (ghK P f mo (p++(gs++q)) own V.n K) K:=by rw[c.1];exact B
  refine Vw B z.has C (λA=>Pc A hH s False.elim) (λH=>Z0o H hH s) fun⟨k1,k2⟩=>?_;refine⟨k1,k2.mono λe w' ⟨x,g,own',I',V',he,j,hl,hx,hm⟩=>⟨x,g,own',I',V',he,j,z.trans hl,hx,λD=>?_⟩⟩;obtain⟨ks,J,O,L,T⟩:=hm D;have l:∀k∈ks,k < V.n:=λk j=>by have:=O k j;omega
  refine⟨ks,J,l,λb A F=>L b A λk j U=>F k j (c.2 k (l k j) b U),λk j b A=>?_⟩;rcases T k (by omega) b A with h | ⟨h,⟨k',h2,h3⟩ | h3⟩
  .exact .inl (c.2 k j b h)
  .exact .inr ⟨h,.inl ⟨k',h2,c.2 k' (l k' h2) b h3⟩⟩
  .exact .inr ⟨h,.inr h3⟩
theorem R7 {f:FuncId}(j:Ent P f)(w:World)(args:Array Value):(callFunc f args).run P w=.ok (.enter f args) w:=by
 obtain⟨fn,l,h,b⟩:=j;have e:¬fn.name="runtime.NumGoroutine" := by simpa using h
 cases hb:fn.body with
 | none=>rw[hb] at b;cases b
 | some c=>simp[callFunc,l,e,hb]
def Z98 (P:Program)(t:Ts)(own:Os)(n:Nat)(mo:Mo)(cl:Call)(d:Option Tmp)(fo:Operand)(K:Ts->Os->Nat->Prop):Prop:=match fo with
 | .func f=>evs t own cl.args.toList λgs=>Oq P f mo gs [] [] own n λg w n=>K (put d g t) w n
 | .tmp j=>match look j t with
  | some (.clo f p q)=>evs t own cl.args.toList λgs=>Oq P f mo gs p q own n λg w n=>K (put d g t) w n
  | some (.v (.func (.func f) p q))=>match p.toList,q.toList with
   | [],[]=>evs t own cl.args.toList λgs=>Oq P f mo gs [] [] own n λg w n=>K (put d g t) w n
   | _,_=>False
  | _=>False
 | _=>False
theorem Z1i {mo:Mo}{cl:Call}{K:Ts->Os->Nat->Prop}{d:Option Tmp}{fo:Operand}(ha:ARep N I V a t)(hH:Has I V own w)(h:Z98 P t own n mo cl d fo K)(B:cl.callee=.value fo):∃(f:FuncId) (gs p q:List G) (vs:List Value),Oq P f mo gs p q own n (λg w n=>K (put d g t) w n)/\PW (TRep I V) (p++(gs++q)) vs/\∀ty (u:World),(do let d <-resolve a.eval cl ty;invoke d.target d.args:Sem Next).run P u=(callFunc f vs.toArray).run P u:=by
 unfold Z98 at h;obtain⟨callee,args,H⟩:=cl;dsimp only at B;subst B;have e:∀l:Array Operand,(l.toList.map a.eval).toArray=l.map a.eval:=λl=>by cases l;simp
 cases fo with
 | func f =>
  dsimp only at h;obtain⟨gs,A,j⟩:=Nh h ha hH;refine⟨f,gs,[],[],_,A,by simpa using j,λty u=>?_⟩;have b:a.eval (.func f)=.func (.func f) #[] #[]:=rfl;simp[resolve,Deferred.ofValue,b,invoke,e]
 | tmp d =>
  dsimp only at h;cases hl:look d t with
  | none=>rw[hl] at h;exact h.elim
  | some g =>
   rw[hl] at h;obtain⟨z,L,s⟩:=ha.get _ _ hl;have b:a.eval (.tmp d)=z:=by simp[Act.eval,L]
   cases g with
   | clo f p q =>
    obtain⟨gs,A,j⟩:=Nh h ha hH;obtain⟨-,T,cs,rfl,M,J⟩:=(show TRep1 I V (.clo f p q) z from s);refine⟨f,gs,p,q,T++(args.toList.map a.eval++cs),A,(M.mono λ_ _ h=>.of_c h).append (j.append (J.mono λ_ _ h=>.of_c h)),λty u=>?_⟩;simp[resolve,Deferred.ofValue,b,invoke,<-e]
   | v z' =>
    have F:=B0 s;subst F;split at h
    .next f p q c =>
     cases c
    .next f p q c =>
     cases c;split at h
     .next C D =>
      obtain⟨gs,A,j⟩:=Nh h ha hH;refine⟨f,gs,[],[],_,A,by simpa using j,λty u=>?_⟩;have E:p=#[]:=by cases p;simp at C;simp[C]
      have O:q=#[]:=by cases q;simp at D;simp[D]
      subst E O;simp[resolve,Deferred.ofValue,b,invoke,e]
     .exact h.elim
    .exact h.elim
   | _=>exact h.elim
 | _=>exact False.elim h
variable {XL:List Nat} {K:Ts->Os->Nat->Prop} {next:Act->World->Prop} {Q:Exit->Act->World->Prop}
theorem Ol {mo:Mo}{cl:Call}{fo:Operand}(C:o.op=.call cl)(j:cl.callee=.value fo)(hH:Has I V own w)(ha:ARep N I V a t)(hd:∀i,o.dst=some i->i < N)(h:Z98 P t own V.n mo cl o.dst fo K)
  (D:∀t own' I' V' l w',K t own' V'.n->Later own I V w own' I' V' w'->(mo.loose=false->∃ks:List Nat,mo.lends ks=true/\(∀k∈ks,k < V.n)/\(∀b,b < w.heap.size->(∀k∈ks,¬V.f k b)->w'.heap[b]?=w.heap[b]?)/\∀k,k < V.n->∀b,V'.f k b->V.f k b\/(ks≠[]/\((∃A∈ks,V.f A b)\/w.heap.size<=b)))->ARep N I' V' l t->next l w'):o.wp P a w next Q:=by
 obtain⟨f,gs,p,q,vs,s,B,c⟩:=Z1i ha hH h j;obtain⟨z,E⟩:=Z5n s hH B;have c:(execOp a.eval o).run P w=.ok (.enter f vs.toArray) w:=by have:=(c o.type w).trans (R7 z w vs.toArray);simpa only[execOp,C] using this
 unfold Oper.wp;rw[c,Oper.upon_enter];refine E.mono λe w' ⟨x,g,own',I',V',he,hk,hl,hx,hm⟩=>?_;subst he;exact D _ _ _ _ _ _ hk hl hm ((ha.mono hl.fro.mono hl.va).put hd hx)
theorem FnV.toO {f:FuncId}{gs:List G}{Q:G->Prop}(h:FnV P f gs Q):FnO P f gs [] λg rs=>rs=[]/\Q g :=
 ⟨h.1,λI V w vs hH C q=>by
  have z:PW (VRep I) gs vs:=q.mono λg x h=>by
   have C:V.n=0:=C;cases g with
   | ptr k o=>have:=h.1;omega
   | osl k=>have:=h.1;omega
   | osv k a b c=>have:=h.1;omega
   | oel k a b c=>have:=h.1;omega
   | orv k a b c d e=>cases(show VRep I (.orv k a b c d e) x from h)
   | mp k=>have:=h.1;omega
   | clo f a c =>
    obtain⟨⟨g,p,B⟩,E,cs,-,F,H⟩:=h;have key:∀{l:List G} {E:List Value},g∈l->PW (CRep I V) l E->False:=λs q=>by
     obtain⟨j,A,e⟩:=cu.1 s;obtain⟨u,-,hr⟩:=q.get (by rw[ap A,e]);cases g with
     | ptr k o=>have:=hr.1;omega
     | osl k=>have:=hr.1;omega
     | osv k a b c=>have:=hr.1;omega
     | oel k a b c=>exact hr
     | orv k a b c d e=>exact hr
     | mp k=>have:=hr.1;omega
     | _=>cases B
    rcases p with p | p
    .exact(key p F).elim
    .exact(key p H).elim
   | oag l =>
    obtain⟨⟨g,p,B⟩,cs,e,q⟩:=(show(∃g∈l,C7 g=false)/\TRep1 I V (.oag l) x from h);exfalso;obtain⟨j,A,e⟩:=cu.1 p;obtain⟨u,-,hr⟩:=q.get (by rw[ap A,e]);cases g with
    | ptr k o=>have:=hr.1;omega
    | osl k=>have:=hr.1;omega
    | osv k a b c=>have:=hr.1;omega
    | oel k a b c=>exact hr
    | orv k a b c d e=>exact hr
    | mp k=>have:=hr.1;omega
    | _=>cases B
   | _=>exact h
  refine(h.2 I w vs hH.mem z).mono λe w' ⟨x,g,I',he,hq,s,hx,hle,hI,hB⟩=>⟨x,g,[],I',V,he,⟨rfl,hq⟩,C,⟨s,λk r h=>(by cases h),λk r h=>(by cases h),λk r b h=>(by cases h),λk J r r' b h=>(by cases h)⟩,?_,⟨hB.os,hB.tape,hB.output,hB.size,λb D _=>⟨hB.block b D,λo=>hI b o D⟩,hle,λk r b h=>(by cases h)⟩,.refl _⟩;cases g with
  | tup l=>obtain⟨cs,e,q⟩:=hx;exact⟨cs,e,q.mono λ_ _ h=>.of_v h⟩
  | oag l=>cases(show VRep I' (.oag l) x from hx)
  | _=>exact PRep.of_v (V:=V) hx⟩
theorem FnO.mono {f:FuncId}{gs:List G}{rs:List R}{Q b:G->List R->Prop}(h:FnO P f gs rs Q)(l:∀g rs,Q g rs->b g rs):FnO P f gs rs b :=
 ⟨h.1,λI V w vs c j p=>(h.2 I V w vs c j p).mono λ_ _ ⟨x,g,rs',I',V',e,k1,k2⟩=>⟨x,g,rs',I',V',e,l _ _ k1,k2⟩⟩
theorem FnV.cal {f:FuncId}{gs:List G}{Q:G->Prop}{K:G->Os->Nat->Prop}{B C:Prop}(h:FnV P f gs Q)(b:∀g,Q g->Z13 [] own n g [] K):EvCall (FnO P f gs [] λg rs=>Z13 [] own n g rs K) B C :=
 .pure (h.toO.mono λg rs ⟨e,hq⟩=>by rw[e];exact b g hq)
theorem FnO.cal {f:FuncId}{gs:List G}{rs:List R}{Q:G->List R->Prop}{K:G->Os->Nat->Prop}{B C:Prop}(h:FnO P f gs rs Q)(b:∀g rs,Q g rs->Z13 ks own n g rs K):EvCall (FnO P f gs rs λg rs=>Z13 ks own n g rs K) B C :=
 .pure (h.mono b)
end
section
variable {κ:Type} {I:Imm} {u:G} {v:Value}
theorem Al.len:∀{l:List (κ × G)} {L:List (κ × Value)},Al I l L->L.length=l.length
 | [],[],_=>rfl
 | _::_,_::_,h=>by simp[Al.len h.2.2]
theorem Al.app (k:κ):∀{l:List (κ × G)} {L:List (κ × Value)},Al I l L->VRep I u v->Al I (l++[(k,u)]) (L++[(k,v)])
 | [],[],_,h=>⟨rfl,h,trivial⟩
 | _::_,_::_,h,h'=>⟨h.1,h.2.1,Al.app k h.2.2 h'⟩
variable [DecidableEq κ]
theorem Al.get (k:κ):∀{l:List (κ × G)} {L:List (κ × Value)},Al I l L->(Az l k=none->Az L k=none)/\∀g,Az l k=some g->∃v,Az L k=some v/\VRep I g v
 | [],[],_=>⟨λ_=>rfl,λg h=>by cases h⟩
 | (j,g0)::l,(j',v0)::L,h=>by
  obtain⟨e,c,f⟩:=h;have e:j'=j:=e;subst e;obtain⟨p,q⟩:=Al.get k f;rw[C8,C8];by_cases b:j'=k
  .subst b;simp only[if_pos];exact⟨λh=>(by cases h),λg h=>(by cases h;exact⟨_,rfl,c⟩)⟩
  .simp only[if_neg b];exact⟨p,q⟩
theorem Al.upd (k:κ):∀{l:List (κ × G)} {L:List (κ × Value)},Al I l L->VRep I u v->Al I (l.map λp=>if p.1=k then(k,u) else p) (L.map λp=>if p.1=k then(k,v) else p)
 | [],[],_,_=>trivial
 | p::l,q::L,h,h'=>by
  have b:=Al.upd k h.2.2 h';rw[cw,cw];by_cases e:p.1=k
  .rw[dt e,dt (h.1.trans e)];exact⟨rfl,h',b⟩
  .rw[dq e,dq (λc=>e (h.1.symm.trans c))];exact⟨h.1,h.2.1,b⟩
theorem Al.put (k:κ){l:List (κ × G)}{L:List (κ × Value)}(h:Al I l L)(b:VRep I u v):Al I (Gq l k u) (Gq L k v):=by
 obtain⟨c,f⟩:=h.get k;unfold Gq;cases hg:Az l k with
 | none=>rw[c hg];exact h.app k b
 | some g =>
  obtain⟨x,e,-⟩:=f g hg;rw[e];exact h.upd k b
end
section
variable {P:Program} {tb:List (Nat × TI)} {N n:Nat} {I I' I0:Imm} {V V' V0:Va} {a:Act} {t:Ts} {own own' own0:Os} {w w' w0:World} {g:G} {x y:Value} {d:Option Tmp}
variable {XL:List Nat} {S:World->Prop} {K:Ts->Os->Nat->Prop} {next:Act->World->Prop} {Q:Exit->Act->World->Prop} {o:Oper} {r:R}
theorem T5 {k:Nat}(h:TRep I V (.mp k) y):k < V.n/\y=.map (some (V.b k)):=h
theorem Z8d {e:TypeId}{i:TI}(B:TIok P e i){K1:G->Prop}(h:Tb i K1):∃g z,K1 g/\TRep1 I V g z/\∀w:World,(zeroValue e).run P w=.ok z w:=by
 obtain⟨z,q,b⟩:=bg.1 B.zero;obtain⟨j,D,C⟩:=Option.bind_eq_some_iff.1 q;have f:∀w:World,(zeroValue e).run P w=.ok z w:=λw=>by simp[zeroValue,typeInfo,D,C]
 have l:PW (CRep I V) i.zero (i.zero.map G.val):=Ss B;have c:=B.zag z q;unfold Tb at h;cases hb:i.agg with
 | true =>
  rw[hb,dt rfl] at c;obtain⟨cs,rfl⟩:=c;rw[hb] at h;have A:cs=(i.zero.map G.val).toArray:=by rw[<-b];rfl
  subst A;dsimp only at h;unfold Hu at h;rw[show U5 0=false from rfl] at h;dsimp only at h;split at h
  .next p=>exact⟨_,_,h,.of_c (.of_v (.agg i.zero _ l.1 λj g u s E=>(l.2 j g u s E).to_v (Ao p g (ar s)))),f⟩
  .exact⟨_,_,h,(⟨_,rfl,l⟩:TRep1 I V (.oag i.zero) _),f⟩
 | false =>
  rw[hb,dq (by simp)] at c;rw[hb] at h;dsimp only at h;rw[c] at b;split at h
  .next g s =>
   rw[s] at b l;have A:z=G.val g:=by simpa using b
   subst A;exact⟨_,_,h,.of_c (l.2 0 g _ rfl rfl),f⟩
  .exact h.elim
theorem Z9w {κ:Type}[DecidableEq κ]{B:κ->Value}{T e ty:TypeId}{m:Nat}{l:List (κ × G)}{O:TI}(D:KeyOk P T B)(E:P.underlying ty=some (.map T e))(q:TIok P e O)(Z:MapR I w m B l)(key:κ){K1:G->Bool->Prop}(h:Z1u (Az l key) (λg=>K1 g true) (Tb O λg=>K1 g false)) :
  ∃g b v,K1 g b/\TRep1 I V g v/\∀u:World,u.heap[m]?=w.heap[m]?->(Instr.lookup ty (.map (some m)) (B key) true).run P u=.ok (.tuple #[v,.bool b]) u/\(Instr.lookup ty (.map (some m)) (B key) false).run P u=.ok v u:=by
 obtain⟨L,U,hA⟩:=Z;obtain⟨W,X⟩:=hA.get key;have C:∃z,∀w:World,(zeroValue e).run P w=.ok z w:=by obtain⟨z,p,f⟩:=bg.1 q.zero;obtain⟨j,J,H⟩:=Option.bind_eq_some_iff.1 p;exact⟨z,λw=>by simp[zeroValue,typeInfo,J,H]⟩
 cases hg:Az l key with
 | some g =>
  obtain⟨v,Y,hv⟩:=X g hg;obtain⟨z,C⟩:=C;refine⟨g,true,v,h.yes g hg,.of_c (.of_v hv),λu F=>?_⟩;have c:=U.of_block F;have A:=Cb (P:=P) D E (C u) c key;have s:=Ar (P:=P) D E (C u) c key;rw[Y] at A s;exact⟨A,s⟩
 | none =>
  obtain⟨g,z,M,p,f⟩:=Z8d (I:=I) (V:=V) q (h.no hg);refine⟨g,false,z,M,p,λu F=>?_⟩;have c:=U.of_block F;have A:=Cb (P:=P) D E (f u) c key;have s:=Ar (P:=P) D E (f u) c key;rw[W hg] at A s;exact⟨A,s⟩
theorem MapR.lt {κ:Type}{b:κ->Value}{m:Nat}{l:List (κ × G)}(h:MapR I w m b l):m < w.heap.size:=by obtain⟨L,c,-⟩:=h;exact c.lt
theorem Z4c (hT:∀t i,look t tb=some i->TIok P t i)(X:∀k∈XL,∃r,look k own=some r)(hS:∀u,S u->Agree V XL w u)(hH:Has I V own w)(ha:ARep N I V a t){ty:TypeId}{z i:Operand}{ok:Bool}(ho:o.op=.lookup ty z i ok)
  (h:match Qi tb ty with
   | .map str e=>match look e tb with
    | some ti=>ev t own z λg=>ev t own i λq=>Zaa own XL g q str ti (lkK ok λg=>K (put o.dst g t) own V.n)
    | none=>False
   | _=>False):QOk S P I V own w a t o K:=by
 unfold Qi at h;cases hl:look ty tb with
 | none=>rw[hl] at h;exact h.elim
 | some ti0 =>
  rw[hl] at h;dsimp only at h;have F:=(hT _ _ hl).kd;split at h
  .next str e he =>
   rw[he] at F;obtain⟨kt,ht,A⟩:=F;cases hle:look e tb with
   | none=>rw[hle] at h;exact h.elim
   | some ti =>
    rw[hle] at h;dsimp only at h;have M:=hT _ _ hle;obtain⟨g,C,hg⟩:=B7 h ha hH;clear h;have h:=C;clear C;obtain⟨q,C,T⟩:=B7 h ha hH;clear h;have h:=C;clear C;obtain⟨K1,D⟩:∃K1:G->Bool->Prop,K1=lkK ok λg=>K (put o.dst g t) own V.n:=⟨_,rfl⟩;rw[<-D] at h;have fin:∀{κ:Type} [DecidableEq κ] {J:κ->Value} {l:List (κ × G)} (key:κ) {k:Nat},KeyOk P kt J->a.eval z=.map (some (V.b k))->a.eval i=J key->MapR I w (V.b k) J l->V.f k (V.b k)->(∃r,look k own=some r)->k ∉ XL->Z1u (Az l key) (λg=>K1 g true) (Tb ti λg=>K1 g false)->QOk S P I V own w a t o K:=λ{κ _ J l} key {k} U B e2 hM hf ⟨r,hr⟩ hkX hev=>by
     obtain⟨g,b,v,W,k2,Z⟩:=Z9w (V:=V) U ht M hM key hev;have c:∀u,S u->u.heap[V.b k]?=w.heap[V.b k]?:=λu E=>hS u E _ hM.lt λk' H L=>by obtain⟨r',O⟩:=X k' H;exact hkX (hH.disj k k' r r' _ hr O hf L ▸ H)
     rw[D] at W;cases ok with
     | true=>exact⟨_,_,W,(⟨[v,.bool b],rfl,.cons k2 (.cons (by cases b;exact .of_c (.of_v .ff);exact .of_c (.of_v .tt)) .nil)⟩:TRep I V (.tup _) (.tuple [v,.bool b].toArray)),λu E=>by simp only[execOp,ho,Sem.run_bind,B,e2,(Z u (c u E)).1,Result.andThen_ok,Sem.run_pure]⟩
     | false=>exact⟨_,_,W,.of_1 k2,λu E=>by simp only[execOp,ho,Sem.run_bind,B,e2,(Z u (c u E)).2,Result.andThen_ok,Sem.run_pure]⟩
    unfold Zaa at h;split at h
    .next k =>
     obtain⟨hkn,B⟩:=T5 hg;split at h
     .exact h.elim
     .next Y =>
      have p:k ∉ XL:=λh=>by rw[Ca.2 h] at Y;cases Y
      split at h
      .next l s hr =>
       have j:=hH.each k _ hr;exact fin s (Jp (by simpa using A)) B (B0 T) j.2 ((j.1 _).2 rfl) ⟨_,hr⟩ p h
      .next l n hr =>
       have j:=hH.each k _ hr;exact fin n (Mm (by simpa using A)) B (B0 T) j.2 ((j.1 _).2 rfl) ⟨_,hr⟩ p h
      .next l m ob s hr =>
       have j:=hH.each k _ hr;exact fin s (Jp (by simpa using A)) B (B0 T) (by rw[j.2.1];exact j.2.2.2) ((j.1 _).2 rfl) ⟨_,hr⟩ p h
      .exact h.elim
    .exact h.elim
  .exact h.elim
theorem Zd8 (hT:∀t i,look t tb=some i->TIok P t i)(H:∀k∈XL,∃r,look k own=some r)(Y:∀u,S u->Agree V XL w u)(hH:Has I V own w)(ha:ARep N I V a t){ty:TypeId}{z:Operand}{J:TI}{str:Bool}{e:TypeId}(hl:look ty tb=some J)(F:J.kd=.map str e)(ho:o.op=.call {callee:=.builtin .len,args:=#[z],argTypes:=#[ty]})
  (h:ev t own z λg=>match g with
        | .mp k=>match look k own,Fs k XL with
         | some (.mpS l),false=>K (put o.dst (.v (.int .i64 l.length)) t) own V.n
         | some (.mpI l),false=>K (put o.dst (.v (.int .i64 l.length)) t) own V.n
         | _,_=>False
        | _=>False):QOk S P I V own w a t o K:=by
 have A:=(hT _ _ hl).kd;rw[F] at A;obtain⟨kt,ht,-⟩:=A;obtain⟨g,T,Z⟩:=B7 h ha hH;clear h;have h:=T;clear T;split at h
 .next k =>
  obtain⟨hkn,X⟩:=T5 Z;have fin:∀{κ:Type} {M:κ->Value} {l:List (κ × G)},[DecidableEq κ]->MapR I w (V.b k) M l->V.f k (V.b k)->(∃r,look k own=some r)->Fs k XL=false->K (put o.dst (.v (.int .i64 l.length)) t) own V.n->QOk S P I V own w a t o K:=λ{κ M l _} U W ⟨r,hr⟩ p A=>by
   have B:k ∉ XL:=λh=>by rw[Ca.2 h] at p;cases p
   have E:=U.lt;obtain⟨L,hB,hA⟩:=U;refine⟨_,_,A,.of_v (.v _),λu hu=>?_⟩;have j:u.heap[V.b k]?=w.heap[V.b k]?:=Y u hu _ E λO s C=>by obtain⟨r',D⟩:=H O s;exact B (hH.disj k O r r' _ hr D W C ▸ s)
   have c:=Bh (P:=P) (ty:=o.type) ht (hB.of_block j);rw[hA.len] at c;simp[execOp,ho,resolve,invoke,builtin,X,c]
  split at h
  .next l hr p =>
   have q:=hH.each k _ hr;exact fin q.2 ((q.1 _).2 rfl) ⟨_,hr⟩ p h
  .next l hr p =>
   have q:=hH.each k _ hr;exact fin q.2 ((q.1 _).2 rfl) ⟨_,hr⟩ p h
  .exact h.elim
 .exact h.elim
theorem Y9 (hH:Has I V own w)(ha:ARep N I V a t){f:FuncId}{p q:Array Operand}(U:o.op=.makeFunc (.func f) p q)(h:evs t own p.toList λa=>evs t own q.toList λc=>match Bp G.cap a,Bp G.cap c with
  | true,true=>match Bp C7 a,Bp C7 c with
   | true,true=>match a,c with
    | [],[]=>K (put o.dst (.v (.func (.func f) #[] #[])) t) own V.n
    | _,_=>False
   | _,_=>K (put o.dst (.clo f a c) t) own V.n
  | _,_=>False):QOk S P I V own w a t o K:=by
 obtain⟨a1,h,s⟩:=Nh h ha hH;obtain⟨c1,h,z⟩:=Nh h ha hH;have e:∀l:Array Operand,(l.toList.map a.eval).toArray=l.map a.eval:=λl=>by cases l;simp
 have run:∀u:World,(execOp a.eval o).run P u=.ok (.value (.func (.func f) (p.toList.map a.eval).toArray (q.toList.map a.eval).toArray)) u:=λu=>by simp only[execOp,U,Instr.makeFunc,Sem.run_bind,Sem.run_pure,Result.andThen_ok,e]
 have cap:∀{l:List G} {L:List Value},Bp G.cap l=true->PW (TRep I V) l L->PW (CRep I V) l L:=λF J=>⟨J.1,λj g u b X=>by have T:=J.2 j g u b X;have F:=Ao F g (ar b);cases g<;>first | exact T | cases F⟩
 have H:∀{l:List G},Bp C7 l=false->∃g∈l,C7 g=false:=λ{l}=>by
  induction l with
  | nil=>intro h;cases h
  | cons g l ih =>
   intro h;unfold Bp at h;cases b:C7 g with
   | false=>exact⟨g,by simp,b⟩
   | true =>
    rw[b] at h;obtain⟨W,s,z⟩:=ih h;exact⟨W,by simp[s],z⟩
 split at h
 .next A B =>
  split at h
  .split at h
   .have M:p.toList=[]:=by have:=s.of_nil;simpa using this
    have O:q.toList=[]:=by have:=z.of_nil;simpa using this
    refine⟨_,_,h,.of_v (.v _),λu _=>?_⟩;rw[run u,M,O];rfl
   .exact h.elim
  .next D =>
   refine⟨_,_,h,.of_1 (⟨?_,_,_,rfl,cap A s,cap B z⟩:TRep1 I V (.clo f a1 c1) _),λu _=>run u⟩;cases hn1:Bp C7 a1 with
   | false=>obtain⟨g,E,C⟩:=H hn1;exact⟨g,.inl E,C⟩
   | true =>
    cases hn2:Bp C7 c1 with
    | false=>obtain⟨g,E,C⟩:=H hn2;exact⟨g,.inr E,C⟩
    | true=>exact(D hn1 hn2).elim
 .exact h.elim
theorem X1 (hH:Has I V own w)(ha:ARep N I V a t)(hd:∀i,o.dst=some i->i < N)(hK:NxtB N own I V w K next){ty:TypeId}(j:o.op=.makeMap ty none)(h:match Qi tb ty with
  | .map true _=>K (put o.dst (.mp V.n) t) ((V.n,.mpS [])::own) (V.n+1)
  | .map false _=>K (put o.dst (.mp V.n) t) ((V.n,.mpI [])::own) (V.n+1)
  | _=>False):o.wp P a w next Q:=by
 have c:(execOp a.eval o).run P w=.ok (.value (.map (some w.heap.size))) (w.alloc (.map #[] 0)):=by simp only[execOp,j,Instr.makeMap,Option.map_none,Sem.run_bind,run_newObj_alloc,Sem.run_pure,Result.andThen_ok]
 have fin:∀r:R,RRep I (V.push w.heap.size undef (·=w.heap.size)) V.n (w.alloc (.map #[] 0)) r->K (put o.dst (.mp V.n) t) ((V.n,r)::own) (V.n+1)->o.wp P a w next Q:=λr hr f =>
  Sg (g:=.mp V.n) (y:=.map (some w.heap.size)) hK ha hd c (Dl hH ((ab _ _).alloc (au _) _) w.heap.size undef (·=w.heap.size) (λk e=>⟨Nat.le_of_eq e.symm,by subst e;simp⟩) hr) ((ab _ _).alloc (au _) _) (.push _ _ _ _) (TRep.of_c (g:=.mp V.n) ⟨dc _,by simp[Va.push]⟩) f
 split at h
 .exact fin (.mpS []) ⟨λb=>by simp[Va.push],[],by simpa [Va.push] using Eg w Ci id,trivial⟩ h
 .exact fin (.mpI []) ⟨λb=>by simp[Va.push],[],by simpa [Va.push] using Eg w Ax id,trivial⟩ h
 .exact h.elim
theorem Z0k (h:Has I V own w){k:Nat}{p r:R}(l:look k own=some p)(q:∀b,V.f k b↔b=V.b k){c:Obj}(hr:RRep I V k (putObj w (V.b k) c) r):Later own I V w ((k,r)::own) I V (putObj w (V.b k) c) :=
 Dm h l rfl rfl rfl (Cc _ _ _) (λb j=>A9 w c λe=>j ((q b).2 e)) hr
theorem Z1g (hT:∀t i,look t tb=some i->TIok P t i)(hL:Since own0 I0 V0 w0 own I V w)(hK:Nxt N own0 I0 V0 w0 K next)(ha:ARep N I V a t)(hd:∀i,o.dst=some i->i < N){ty:TypeId}{m k z:Operand}(H:o.op=.mapUpdate ty m k z\/o.op=.insert ty m k z)(h:match Qi tb ty with
  | .map str _=>ev t own m λg=>ev t own k λq=>ev t own z λu=>Z6i own g q u str λw=>K (put o.dst .un t) w V.n
  | _=>False):o.wp P a w next Q:=by
 unfold Qi at h;cases hl:look ty tb with
 | none=>rw[hl] at h;exact h.elim
 | some ti =>
  rw[hl] at h;dsimp only at h;have C:=(hT _ _ hl).kd;split at h
  .next str e he =>
   rw[he] at C;obtain⟨kt,ht,B⟩:=C;obtain⟨g,p,O⟩:=B7 h ha hL.has;clear h;have h:=p;clear p;obtain⟨q,p,J⟩:=B7 h ha hL.has;clear h;have h:=p;clear p;obtain⟨u,p,hu⟩:=B7 h ha hL.has;clear h;have h:=p;clear p;unfold Z6i at h;obtain⟨Z,X,I1,V1,p,W,c,M⟩:=Z2k h hu hL.has;clear h;have h:=p;clear p;replace O:=O.mono c.fro.mono c.va;replace J:=J.mono c.fro.mono c.va;have fin:∀{κ:Type} [DecidableEq κ] {F:κ->Value} {l:List (κ × G)} (key:κ) {j:Nat} (mk:List (κ × G)->R),(∀l w,RRep I1 V1 j w (mk l)↔(∀b,V1.f j b↔b=V1.b j)/\MapR I1 w (V1.b j) F l)->KeyOk P kt F->a.eval m=.map (some (V1.b j))->a.eval k=F key->look j X=some (mk l)->K (put o.dst .un t) ((j,mk (Gq l key Z))::X) V.n->o.wp P a w next Q:=λ{κ _ F l} key {j} mk D U E e2 hr hk=>by
    obtain⟨hf,L,hB,hA⟩:=(D l w).1 (c.has.each j _ hr);obtain⟨Y,A,T⟩:=Am (P:=P) U ht hB key (a.eval z);refine Pg hK hL ha hd (w':=putObj w (V1.b j) Y) ?_ (c.trans (Z0k (r:=mk (Gq l key Z)) c.has hr hf ((D _ _).2 ⟨hf,_,T,hA.put _ M⟩))) (W.1 ▸ hk);have A:(Instr.mapUpdate ty (a.eval m) (a.eval k) (a.eval z)).run P w=.ok () (putObj w (V1.b j) Y):=by rw[E,e2];exact A
    rcases H with H | H<;>simp only[execOp,H,Sem.run_bind,A,Result.andThen_ok,Sem.run_pure]
   split at h
   .next j =>
    obtain⟨hjn,E⟩:=T5 O;split at h
    .next l s hr=>exact fin s .mpS (λl w=>Iff.rfl) (Jp (by simpa using B)) E (B0 J) hr h
    .next l n hr=>exact fin n .mpI (λl w=>Iff.rfl) (Mm (by simpa using B)) E (B0 J) hr h
    .exact h.elim
   .exact h.elim
  .exact h.elim
theorem Al.keys {κ:Type}:∀{l:List (κ × G)} {L:List (κ × Value)},Al I l L->L.map (·.1)=l.map (·.1)
 | [],[],_=>rfl
 | p::l,q::L,h=>by simp[h.1,Al.keys h.2.2]
theorem Al.mem {κ:Type}{k:κ}{v:Value}:∀{l:List (κ × G)} {L:List (κ × Value)},Al I l L->(k,v)∈L->∃g,(k,g)∈l/\VRep I g v
 | [],[],_,b=>by cases b
 | p::l,q::L,h,b=>by
  rcases bq.1 b with e | b
  .subst e;exact⟨p.2,by rw[show k=p.1 from h.1];simp,h.2.1⟩
  .obtain⟨g,c,f⟩:=Al.mem h.2.2 b;exact⟨g,by simp[c],f⟩
theorem Zfn (hT:∀t i,look t tb=some i->TIok P t i)(hH:Has I V own w)(ha:ARep N I V a t){ty:TypeId}{z:Operand}(U:o.op=.sliceToArrayPointer ty z)(h:match look ty tb with
  | some ⟨_,_,none,_,false,_,.arr m _ 1⟩=>ev t own z λg=>match g with
   | .sl f=>Zd3 f m λl=>K (put o.dst (.elp l 0) t) own V.n
   | _=>False
  | _=>False):QOk S P I V own w a t o K:=by
 split at h
 .next ag ze fl ik m e L =>
  obtain⟨g,s,C⟩:=B7 h ha hH;clear h;obtain⟨Y,-⟩:=(hT _ _ L).kd;split at s
  .next f =>
   obtain⟨J,r,Z,F,s⟩:=s;have H:=(show VRep I (.sl f) (a.eval z) from C);generalize E:a.eval z=X at H;cases H with
   | sl _ A c sz0 u hc hA hz hh huu =>
    have q:m<=f.length:=by have:=congrArg List.length F;simp at this;omega
    have row:∀j (p:j < m),f[j]?=some [r[j]'(by omega)]:=λj p=>by
     have M:(f.take m)[j]?=f[j]?:=by rw[br,dt p]
     rw[<-M,F,ax,ap (by omega)];rfl
    obtain⟨b,W,rfl,hI⟩:=hh 0 _ (row 0 J);have O:sz0=1:=(hz _ (ar (row 0 J))).symm;subst O;refine⟨_,_,s,(.of_1 (g:=.elp _ 0) ⟨b,W,by rw[Nat.add_zero],λj g p=>?_⟩),λv _=>by simp only[execOp,U,E,Instr.arrayAt,run_underlying Y,Nat.not_lt.2 q,if_false,Sem.run_bind,Result.andThen_ok,Sem.run_pure]⟩;have B:=(aq.1 p).1;obtain⟨b',o',T,D⟩:=hh j _ (row j (by omega));cases T;refine⟨u j 0,?_,?_⟩
    .have:=D 0 (by omega);rw[Nat.mul_one,Nat.add_zero] at this;exact this
    .have C:g=r[j]'B:=(cv ((ap B).symm.trans p)).symm;exact huu j _ 0 g (row j (by omega)) (by rw[C];rfl)
  .exact s.elim
 .exact h.elim
theorem Zam {q:G}{op:BinOp}{ty:TypeId}(h:Zb1 tb q op ty=true):q=.nl/\op=.eql/\∃i e sz,look ty tb=some i/\i.elem=some (e,sz):=by
 unfold Zb1 at h;split at h
 .next b=>exact⟨rfl,rfl,_,_,_,b,rfl⟩
 .cases h
theorem Zdh (hT:∀t i,look t tb=some i->TIok P t i)(hH:Has I V own w)(ha:ARep N I V a t){op:BinOp}{ty D:TypeId}{x z:Operand}(F:o.op=.binOp op ty x z D)(h:ev t own x λg=>ev t own z λq=>match Zb1 tb q op ty with
  | true=>U9 own g λf=>Zcb f λb=>K (put o.dst (.v (.bool b)) t) own V.n
  | false=>Zei P tb ty op g q λg=>K (put o.dst g t) own V.n):QOk S P I V own w a t o K:=by
 obtain⟨g,s,E⟩:=B7 h ha hH;obtain⟨q,j,p⟩:=B7 s ha hH;clear h s;cases hn:Zb1 tb q op ty with
 | true =>
  rw[hn] at j;obtain⟨rfl,rfl,i,e,sz,L,B⟩:=Zam hn;obtain⟨J,-⟩:=(hT _ _ L).elem e sz B;obtain⟨f,A,c,j,O,T⟩:=Z1n j E hH;have M:a.eval z=.slice none 0 0:=by have p:=(show VRep I .nl (a.eval z) from p);generalize a.eval z=Z at p;cases p;rfl
  have j:=j.run A.isNone λC=>by
   cases A with
   | none=>exact du (T rfl) C
   | some _=>rfl
  refine⟨_,_,j,.of_v (.v _),λu _=>?_⟩;have H:(Op.equal ty (.slice A f.length c) (.slice none 0 0)).run P u=.ok A.isNone u:=by show(Op.equalIn 10000 ty (.slice A f.length c) (.slice none 0 0)).run P u=_;unfold Op.equalIn;cases A<;>simp[run_underlying J]
  simp only[execOp,F,Sem.run_bind,O,M];simp[eqGuard,binOp,H]
 | false =>
  rw[hn] at j;obtain⟨r,v,j,hr,l⟩:=Zd2 (P:=P) hT j E p;exact⟨_,_,j,hr,λu _=>by simp only[execOp,F,Sem.run_bind,(l u x z).1,(l u x z).2,Result.andThen_ok,Sem.run_pure]⟩
theorem Xp (hH:Has I V own w)(ha:ARep N I V a t){z:Operand}(l:o.op=.nilCheck z)(h:ev t own z λg=>match g with
  | .ptr k off=>K (put o.dst (.ptr k off) t) own V.n
  | .clo f a c=>K (put o.dst (.clo f a c) t) own V.n
  | .v (.func (.func f) a c)=>K (put o.dst (.v (.func (.func f) a c)) t) own V.n
  | _=>False):QOk S P I V own w a t o K:=by
 obtain⟨g,j,b⟩:=B7 h ha hH;clear h;split at j
 .next k off =>
  obtain⟨-,e⟩:=C9 b;exact⟨_,_,j,b,λu _=>by simp only[execOp,l,e];rfl⟩
 .next f p q =>
  have s:=b;obtain⟨-,A,cs,e,-⟩:=s;exact⟨_,_,j,b,λu _=>by simp only[execOp,l,e];rfl⟩
 .next f p q =>
  have e:=B0 b;exact⟨_,_,j,b,λu _=>by simp only[execOp,l,e];rfl⟩
 .exact j.elim
end
end Go.Proofs.YtmmdikhljefeiaaGreat
