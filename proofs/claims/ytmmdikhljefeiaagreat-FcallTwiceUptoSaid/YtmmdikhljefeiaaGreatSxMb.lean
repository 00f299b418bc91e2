
import Derived.Test.YtmmdikhljefeiaaGreatSxMa
import Derived.Great.FillDense
import Derived.Deep.OwnRows
import Derived.Lib.MinMax
import Derived.ArgAppend
import Derived.Laws.IdiomStrings
import Derived.Laws.CopyRow
namespace Go.Proofs.YtmmdikhljefeiaaGreat
open Go.RowKit
theorem Pp:∀(l:List Value) (k off:Nat) (arr:Array Value),off+k+l.length<=arr.size ->
  (l.zipIdx k).foldl (λcs p=>cs.setIfInBounds (off+p.2) p.1) arr=(arr.toList.take (off+k)++l++arr.toList.drop (off+k+l.length)).toArray
 | [],k,off,arr,_=>by simp
 | x::l,k,off,arr,h=>by
  simp only[List.length_cons] at h;rw[List.zipIdx_cons,List.foldl_cons,Pp l (k+1) off _ (by simp;omega)]
  congr 1
  have c:off+k < arr.toList.length:=by simp;omega
  simp only[Array.toList_setIfInBounds];rw[List.drop_set_of_lt (by omega),List.take_set,<-dc,List.take_succ_eq_append_getElem c,List.set_append_right _ _ (by simp;omega)];have b:off+k<=arr.size:=by omega
  simp[Nat.min_eq_left b,Nat.add_assoc,Nat.add_comm 1]
section
variable {P:Program} {tb:List (Nat × TI)} {N n:Nat} {I I' I0:Imm} {V V' V0:Va} {a:Act} {t:Ts} {own own' own0:Os} {w w' w0:World} {g:G} {y:Value} {d:Option Tmp}
variable {XL:List Nat} {S:World->Prop} {K:Ts->Os->Nat->Prop} {next:Act->World->Prop} {Q:Exit->Act->World->Prop} {o:Oper}
theorem Z6r (hT:∀t i,look t tb=some i->TIok P t i){F:List Field}(hz:∀f∈F,∃m,(P.info? f.type).map (·.size)=some (m+1)){b:List (Nat × Nat)}(B:F.mapM (λf=>(P.info? f.type).map λi=>(f.offset,i.size))=some b)(ha:ARep N I V a t)(hH:Has I V own w) :
  ∀{L:List (Nat × Operand)} {l:List G} {cs:List Value} {K1:List G->Prop},Zad tb t own (F.map λf=>(f.type,f.offset)) L l K1->PW (CRep I V) l cs ->
   ∃O s,K1 O/\PW (CRep I V) O s/\Instr.fill (b.toArray[·]?) cs.toArray (L.map λp=>(p.1,a.eval p.2))=some s.toArray
 | [],l,cs,K1,h,hp=>⟨l,cs,h,hp,rfl⟩
 | (i,x)::L,l,cs,K1,h,hp=>by
  unfold Zad at h;rw[Ea] at h;cases hf:(F.map λf=>(f.type,f.offset))[i]? with
  | none=>rw[hf] at h;exact h.elim
  | some q =>
   obtain⟨U,fo⟩:=q;rw[hf] at h;dsimp only at h;cases hj:look U tb with
   | none=>rw[hj] at h;exact h.elim
   | some j =>
    rw[hj] at h;dsimp only at h;obtain⟨g,h,hg⟩:=B5 h ha hH;obtain⟨ds,h,hd,-⟩:=He h hg hH;obtain⟨hb,h⟩:=Zc h;obtain⟨l1,h,W,J⟩:=Qw h hp hd;obtain⟨O,s,h1,h2,h3⟩:=Z6r hT hz B ha hH h W;refine⟨O,s,h1,h2,?_⟩;rw[ay] at hf;obtain⟨T,E,Y⟩:=bh.1 hf;injection Y with e1 e2;have hpi:b[i]?=some (fo,j.zero.length):=by
     have A:=(hT U j hj).size;have key:∀(F:List Field) (M:List (Nat × Nat)) (i:Nat),F.mapM (λf=>(P.info? f.type).map λi=>(f.offset,i.size))=some M->F[i]?=some T->M[i]?=(P.info? T.type).map λi=>(T.offset,i.size):=by
      intro F
      induction F with
      | nil=>intro M i _ D;simp at D
      | cons f F ih =>
       intro M i z D;simp only[List.mapM_cons,Option.bind_eq_bind,Option.pure_def] at z;cases hq:P.info? f.type with
       | none=>simp[hq] at z
       | some iq =>
        cases hr:F.mapM (λf=>(P.info? f.type).map λi=>(f.offset,i.size)) with
        | none=>simp[hq,hr] at z
        | some rest =>
         simp[hq,hr] at z;subst z;cases i with
         | zero=>simp at D;subst D;simp[hq]
         | succ i=>simpa using ih rest i hr (by simpa using D)
     rw[key F b i B E,e1,e2];cases hq:P.info? U with
     | none=>rw[hq] at A;simp at A
     | some iq=>rw[hq] at A;simp at A;simp[A]
    have c:(a.eval x).cells.size=j.zero.length:=by rw[<-hb,hd.1];simp
    have Z:(a.eval x).cells.toList≠[]:=λe=>by obtain⟨m,z⟩:=hz T (au E);have A:=(hT U j hj).size;rw[e1,A] at z;injection z with z;have:=congrArg List.length e;simp at this;rw[this] at c;simp at c;omega
    have C:=J Z;have X:(a.eval x).cells.toList.length=(a.eval x).cells.size:=by simp
    show Instr.fill (b.toArray[·]?) cs.toArray ((i,a.eval x)::L.map λp=>(p.1,a.eval p.2))=_;unfold Instr.fill;have H:b.toArray[i]?=some (fo,j.zero.length):=by simpa using hpi
    simp only[H,c];rw[dp (by simp;rw[<-c,<-X];exact C),<-h3]
    congr 1
    rw[<-Array.foldl_toList,Array.toList_zipIdx];have:=Pp (a.eval x).cells.toList 0 fo cs.toArray (by simpa using C);simpa using this
theorem Yf {m sz:Nat}(ha:ARep N I V a t)(hH:Has I V own w) :
  ∀{z:List (Nat × Operand)} {l:List G} {cs:List Value} {K1:List G->Prop},Zaz t own m sz z l K1->PW (CRep I V) l cs ->
   ∃s c,K1 s/\PW (CRep I V) s c/\Instr.fill (λi=>some (i * sz,sz)) cs.toArray (z.map λp=>(p.1,a.eval p.2))=some c.toArray
 | [],l,cs,K1,h,hp=>⟨l,cs,h,hp,rfl⟩
 | (i,x)::z,l,cs,K1,h,hp=>by
  unfold Zaz at h;split at h
  .next M D =>
   have D:=dn D;obtain⟨g,h,L⟩:=B5 h ha hH;obtain⟨ds,h,hd,-⟩:=He h L hH;obtain⟨F,h⟩:=Zc h;obtain⟨O,h,A,q⟩:=Qw h hp hd;obtain⟨s,c,J,E,H⟩:=Yf ha hH h A;refine⟨s,c,J,E,?_⟩;have b:(a.eval x).cells.size=sz:=by rw[<-F,hd.1];simp
   have B:(a.eval x).cells.toList≠[]:=λe=>by have:=congrArg List.length e;simp at this;rw[this] at b;simp at b;omega
   have f:=q B;have C:(a.eval x).cells.toList.length=(a.eval x).cells.size:=by simp
   have f:i * sz+(a.eval x).cells.toList.length<=cs.length:=f;show Instr.fill (λi=>some (i * sz,sz)) cs.toArray ((i,a.eval x)::z.map λp=>(p.1,a.eval p.2))=_;unfold Instr.fill;simp only[b];rw[dp (by have j:=f;rw[C,b] at j;simp;exact j),<-H]
   congr 1
   rw[<-Array.foldl_toList,Array.toList_zipIdx];have:=Pp (a.eval x).cells.toList 0 (i * sz) cs.toArray (by simpa using f);simpa using this
  .exact h.elim
theorem Zb7 {sz:Nat}:∀{B:List (Nat × Operand)} {i:Nat} {own:Os} {I:Imm} {V:Va} {K1:List (List G)->Os->Prop},bsK t sz B i own K1->ARep N I V a t->Has I V own w ->
  ∃b own' I' V',∃vs:List Value,K1 b own'/\(V'.n=V.n/\V.kp V')/\Later own I V w own' I' V' w/\B.map (λp=>(p.1,a.eval p.2))=(vs.zipIdx i).map (λx=>(x.2,x.1))/\vs.length=b.length/\B.length=b.length /\
   (∀(i:Nat) r u,b[i]?=some r->(vs.map λv=>v.cells.toList)[i]?=some u->PW (VRep I') r u)/\(∀v∈vs,v.cells.size=sz)/\∀v∈vs,∀x∈v.cells.toList,x.oneCell'=true
 | [],i,own,I,V,K1,h,_,hH=>⟨[],own,I,V,[],h,⟨rfl,.refl _⟩,.refl hH,rfl,rfl,rfl,λi r u h=>by simp at h,by simp,by simp⟩
 | (j,x)::B,i,own,I,V,K1,h,ha,hH=>by
  unfold bsK at h;cases H:Nat.beq j i with
  | false=>rw[H] at h;exact h.elim
  | true =>
   rw[H] at h;have H:=ax H;subst H;obtain⟨g,h,T⟩:=B5 h ha hH;obtain⟨cs,h,U,-⟩:=He h T hH;have A:∀{c:List G} {L:Os} {M:Imm} {V1:Va},bsK t sz B (j+1) L (λb D=>K1 (c::b) D)->(V1.n=V.n/\V.kp V1)->Later own I V w L M V1 w->PW (VRep M) c (a.eval x).cells.toList->c.length=sz->Bw G.one c=true->∃b own' I' V',∃vs:List Value,K1 b own'/\(V'.n=V.n/\V.kp V')/\Later own I V w own' I' V' w/\(((j,x)::B).map λp=>(p.1,a.eval p.2))=(vs.zipIdx j).map (λx=>(x.2,x.1))/\vs.length=b.length/\((j,x)::B).length=b.length /\
     (∀(i:Nat) r u,b[i]?=some r->(vs.map λv=>v.cells.toList)[i]?=some u->PW (VRep I') r u)/\(∀v∈vs,v.cells.size=sz)/\∀v∈vs,∀x∈v.cells.toList,x.oneCell'=true:=λ{c L M V1} h z f q s l=>by
    obtain⟨b,o2,I2,V2,vs,O,F,E,W,h3,h4,h5,h6,h7⟩:=Zb7 (K1:=λb D=>K1 (c::b) D) h (ha.mono f.fro.mono f.va) f.has;refine⟨_,o2,I2,V2,a.eval x::vs,O,⟨F.1.trans z.1,z.2.trans (Nat.le_of_eq z.1.symm) F.2⟩,f.trans E,by simp[W,List.zipIdx_cons],by simp[h3],by simp[h4],λi r u hr X=>?_,λv C=>?_,λv C y Y=>?_⟩
    .cases i with
     | zero=>simp at hr X;subst hr X;exact q.mono λ_ _ h=>h.mono E.fro.mono
     | succ i=>exact h5 i r u (by simpa using hr) (by simpa using X)
    .rcases bq.1 C with rfl | C
     .have:=q.1;rw[s] at this;simpa using this.symm
     .exact h6 v C
    .rcases bq.1 C with rfl | C
     .obtain⟨m,Z,e⟩:=ct.1 Y;have J:m < c.length:=by rw[q.1];exact Z
      exact Lx (q.2 m c[m] y (aq J) (by rw[aq Z,e])) (Ao l _ (bw J))
     .exact h7 v C y Y
   split at h
   .obtain⟨c,L,M,V1,h,z,f,q⟩:=Pq h U hH;split at h
    .next s l=>exact A h z f q (ax s) l
    .exact h.elim
   .obtain⟨⟨s,l⟩,h⟩:=h;exact A h ⟨rfl,.refl _⟩ (.refl hH) ⟨U.1,λm g u O W=>(U.2 m g u O W).to_v (Lw (l g (au O)))⟩ s (Fs λg T=>Z5s (l g T))
variable (hT:∀t i,look t tb=some i->TIok P t i) (hK:NxtB N own I V w K next) (hH:Has I V own w) (ha:ARep N I V a t) (hd:∀i,o.dst=some i->i < N)
include hT hH ha
theorem Z9b {ty:TypeId}{b:Array (Nat × Operand)}(ho:o.op=.build ty b)(h:match look ty tb with
  | none=>False
  | some i=>match i.flds with
   | []=>match i.kd with
    | .arr m _ sz=>Zaz t own m sz b.toList i.zero λl=>Hm (Nat.mul m sz) l λg=>K (put o.dst g t) own V.n
    | _=>False
   | f::fs=>Zad tb t own (f::fs) b.toList i.zero λl=>Hm i.zero.length l λg=>K (put o.dst g t) own V.n):QOk S P I V own w a t o K:=by
 cases hl:look ty tb with
 | none=>rw[hl] at h;exact h.elim
 | some i =>
  rw[hl] at h;have T:=hT ty i hl;dsimp only at h;have B:PW (CRep I V) i.zero (i.zero.map G.val):=Sw T;obtain⟨z,hz1,D⟩:=bh.1 T.zero;obtain⟨j,J,E⟩:=Option.bind_eq_some_iff.1 hz1;by_cases A:i.flds=[]
  .rw[A] at h;dsimp only at h;have H:=T.kd;split at h
   .next m e sz hk =>
    rw[hk] at H;obtain⟨hu,hsz⟩:=(show P.underlying ty=some (.array m e)/\(P.info? e).map (·.size)=some sz from H);obtain⟨ie,U,C⟩:=bh.1 hsz;obtain⟨l',s,Y,X,h3⟩:=Yf ha hH h B;obtain⟨g',Z,W⟩:=Il Y X;refine⟨_,_,Z,W,λu _=>?_⟩;have hb:P.built ty (b.map λp=>(p.1,a.eval p.2)).toList=some s.toArray:=by
     unfold Program.built;have e:z.cells=(i.zero.map G.val).toArray:=by rw[<-D]
     simp only[J,hu,E,U,C,e];simpa using h3
    have hr:=run_build (P:=P) u ty _ _ hb;simp only[execOp,ho,Sem.run_bind,Sem.run_pure];rw[hr];rfl
   .exact h.elim
  .have h:Zad tb t own i.flds b.toList i.zero λl=>Hm i.zero.length l λg=>K (put o.dst g t) own V.n:=by
    cases hq:i.flds with
    | nil=>exact dt hq A
    | cons f fs=>rw[hq] at h;exact h
   obtain⟨F,hF,M,O⟩:=T.flds A;have q:∃c,F.toList.mapM (λf=>(P.info? f.type).map λi=>(f.offset,i.size))=some c:=by
    generalize F.toList=L at O
    induction L with
    | nil=>exact⟨[],rfl⟩
    | cons f L ih =>
     obtain⟨pl,q⟩:=ih λf hf=>O f (by simp[hf]);obtain⟨m,M⟩:=O f (by simp);cases hq:P.info? f.type with
     | none=>rw[hq] at M;simp at M
     | some iq=>exact⟨_,by simp only[List.mapM_cons,q,hq];rfl⟩
   obtain⟨c,q⟩:=q;rw[<-M] at h;obtain⟨l',s,Y,X,h3⟩:=Z6r hT O q ha hH h B;obtain⟨g',Z,W⟩:=Il Y X;refine⟨_,_,Z,W,λu _=>?_⟩;have hb:P.built ty (b.map λp=>(p.1,a.eval p.2)).toList=some s.toArray:=by
    unfold Program.built;have e:z.cells=(i.zero.map G.val).toArray:=by rw[<-D]
    simp only[J,hF,E,q,e];simpa using h3
   have hr:=run_build (P:=P) u ty _ _ hb;simp only[execOp,ho,Sem.run_bind,Sem.run_pure];rw[hr];rfl
include hK hd in
theorem P4 {mo:Mo}{ty:TypeId}{len:Nat}{c:Array (Nat × Operand)}(ho:o.op=.buildSlice ty len c)(h:match look ty tb with
  | some ⟨_,_,some (e,sz),_,_,_,_⟩=>match Nat.beq c.toList.length len,Nat.ble (len * sz) 16777216 with
   | true,true=>bsK t sz c.toList 0 own λf w'=>Zaw (Z9t tb mo ty sz) ((V.n,.slc f e sz)::w') V.n λg F=>K (put o.dst g t) F (V.n+1)
   | _,_=>False
  | _=>False):o.wp P a w next Q:=by
 split at h
 case h_2=>exact h.elim
 next ag ze e sz fl st ik kd hl =>
 split at h
 case h_2=>exact h.elim
 next A T =>
 have A:=ax A;have T:=dn T;obtain⟨q,ie,z,h1,h2,M,h4,h5,-⟩:=(hT _ _ hl).elem e sz rfl;obtain⟨f,o1,I1,V1,vs,E,⟨j,O⟩,H,k2,W,k4,k5,k6,k7⟩:=Zb7 h ha hH;have l:len=f.length:=by rw[<-A];exact k4
 have D:(vs.map λv=>v.cells.toList).flatten.length=f.length * sz:=by rw[Bq (sz:=sz) λu q=>by obtain⟨v,U,rfl⟩:=bk.1 q;simpa using k6 v U];simp[W]
 have B:(execOp a.eval o).run P w=.ok (.value (.slice (some ⟨w.heap.size,0,none⟩) len len)) (w.alloc (.cells (vs.map λv=>v.cells.toList).flatten.toArray e)):=by
  by_cases h0:len=0
  .subst h0;have Z:f=[]:=az l.symm;have Y:vs=[]:=az (by rw[W,Z];rfl);have hp0:c=#[]:=Array.eq_empty_of_size_eq_zero (by simpa using A);subst Y hp0;have hs:(sizeOf e).run P w=.ok sz w:=Br (by rw[h1];simp[M]) w;have e0:(Array.range 0:Array Nat)=#[]:=Array.eq_empty_of_size_eq_zero (by simp);simp[execOp,ho,Instr.buildSlice,run_underlying q,hs,Result.andThen,Instr.fill,newRow,e0]
  .have X:=run_buildSlice (P:=P) w ty e len (c.map λp=>(p.1,a.eval p.2)) (vs.map λv=>v.cells.toList).flatten.toArray ie z q h1 h2 (by rw[M];omega) (by rw[M];exact Nat.mul_ne_zero h0 (by omega)) (by
    have hf:=Go.Great.fill_whole (s:=sz) h5 vs ((Array.range (len * ie.size)).map (z.cells[· % z.cells.size]!)) k6 (by simp[M,W,l]);rw[M];rw[<-k2,M] at hf;simpa [List.flatMap_def] using hf)
   simp only[execOp,ho,Sem.run_bind,Sem.run_pure];rw[X];rfl
 have C:=Dl (r:=.slc f e sz) H.has ((ab _ _).alloc (av _) (.cells (vs.map λv=>v.cells.toList).flatten.toArray e)) 0 (.slice (some ⟨w.heap.size,0,none⟩) len len) (·=w.heap.size) (λk e=>⟨Nat.le_of_eq e.symm,by subst e;simp⟩) ⟨λb=>by simp[Va.push,Value.ownBlock,eq_comm],vs.map λv=>v.cells.toList,⟨D,.inr ⟨w.heap.size,len,_,by simp[Va.push,l],aw _,heap_alloc_new _ _,by omega,?_,by simp only[List.size_toArray];rw[D,l],by simp only;rw[<-D];exact List.take_length⟩⟩,by simp[W],λi r u hr q=>(k5 i r u hr q),λu q=>by obtain⟨v,U,rfl⟩:=bk.1 q;simpa using k6 v U,λu q x hx=>by obtain⟨v,U,rfl⟩:=bk.1 q;exact k7 v U x hx,h5⟩
 .have L:(V1.push 0 (.slice (some ⟨w.heap.size,0,none⟩) len len) (·=w.heap.size)).n=V.n+1:=by simp[Va.push,j]
  have J:CRep I1 (V1.push 0 (.slice (some ⟨w.heap.size,0,none⟩) len len) (·=w.heap.size)) (.osl V.n) (.slice (some ⟨w.heap.size,0,none⟩) len len):=⟨by show V.n < V1.n+1;omega,by simp[Va.push,j]⟩;rw[<-j] at E;cases hsb:Z9t tb mo ty sz with
  | false =>
   rw[hsb] at E;exact Ry (Q:=Q) (g:=.osl V.n) hK ha hd B (H.trans C) ((ab _ _).alloc (av _) _) (O.trans (Nat.le_of_eq j.symm) (.push _ _ _ _)) (TRep.of_c (g:=.osl V.n) J) (by rw[L,<-j];exact E)
  | true =>
   rw[hsb] at E;have E:Z4g ((V1.n,.slc f e sz)::o1) (.osl V1.n) λg F=>K (put o.dst g t) F (V1.n+1):=E;rw[<-j] at J;obtain⟨g',o3,I3,V3,p1,⟨p2,p3⟩,p4,p5⟩:=Dg E J C.has;exact Ry (Q:=Q) (g:=g') hK ha hd B ((H.trans C).trans p4) ((ab _ _).alloc (av _) _) ((O.trans (Nat.le_of_eq j.symm) (.push _ _ _ _)).trans (by rw[L];omega) p3) (.of_v p5) (by rw[p2,L,<-j];exact p1)
 .have:len<=len * sz:=Nat.le_mul_of_pos_right _ h5;unfold maxLen;omega
omit hT hK hH ha hd in
theorem Ze8 {I:Imm}{z x:Value}(h:VRep I (.v z) x):x=z:=by cases h;rfl
omit hT hK hH ha hd in
theorem Z5h {α:Type}(k:Nat)(x:α):(List.replicate k [x]).flatten=List.replicate k x:=by
 induction k with
 | zero=>rfl
 | succ k ih=>rw[List.replicate_succ,List.replicate_succ,ck,ih];rfl
omit hT hK hH ha hd in
theorem Z1v (b:Array Value)(sz k:Nat)(h:b.size=sz)(p:0 < sz):(madeCells b (k * sz)).toList=(List.replicate k b.toList).flatten:=by
 have q:(List.replicate k b.toList).flatten.length=k * sz:=by rw[Bq (sz:=sz) λu l=>by rw[da l];simpa using h];simp
 refine List.ext_getElem (by rw[q];simp[madeCells]) λj B f=>?_;have s:j < k * sz:=by rw[q] at f;exact f
 have z:j / sz < k:=(Nat.div_lt_iff_lt_mul p).2 s;have C:j % sz < sz:=Nat.mod_lt _ p;have A:(madeCells b (k * sz)).toList[j]=b[j % sz]!:=by simp[madeCells,h]
 have e:(List.replicate k b.toList).flatten[j / sz * sz+j % sz]?=some b[j % sz]!:=Co (u:=b.toList) (λu l=>by rw[da l];simpa using h) (by rw[List.getElem?_replicate,dq z]) (by
  have c:j % sz < b.size:=by omega
  rw[Array.getElem?_toList,am c,getElem!_pos b _ c])
 rw[Nat.div_add_mod'] at e;rw[A];rw[aq f] at e;exact(cu e).symm
include hK hd in
theorem Xy {ty:TypeId}{len cap:Operand}(ho:o.op=.makeSlice ty len cap){ag:Bool}{zr B:List G}{e sz:Nat}{fl fl2:List (TypeId × Nat)}{st W:Bool}{ik X:Option IntKind}{kd Z:KD}{T:Option (TypeId × Nat)}(hl:look ty tb=some ⟨ag,zr,some (e,sz),fl,st,ik,kd⟩)(Y:look e tb=some ⟨true,B,T,fl2,W,X,Z⟩)(h:match Nat.beq sz B.length,Bw O3 B with
        | true,true=>ev t own len λp=>ev t own cap λq=>match p,q with
         | .v (.int .i64 m),.v (.int .i64 c)=>(0<=m/\m<=1073741824/\c=m/\m * sz<=1073741824)/\K (put o.dst (.osl V.n) t) ((V.n,.slc (List.replicate m.toNat B) e sz)::own) (V.n+1)
         | _,_=>False
        | _,_=>False):o.wp P a w next Q:=by
 split at h
 case h_2=>exact h.elim
 next A F =>
 have A:=ax A;obtain⟨l,M,f,h1,h2,h3,h4,h5,h6⟩:=(hT _ _ hl).elem e _ rfl;have hz:=hT _ _ Y;obtain⟨p,h,hp⟩:=B5 h ha hH;obtain⟨q,h,hq⟩:=B5 h ha hH;split at h
 case h_2=>exact h.elim
 next m c =>
 obtain⟨⟨g1,g2,g3,g4⟩,h⟩:=h;subst g3;obtain⟨k,rfl⟩:=al g1;have hp:a.eval len=.int .i64 k:=Ze8 hp;have hq:a.eval cap=.int .i64 k:=Ze8 hq;have hzz:(P.info? e).bind (·.zero)=some f:=by rw[h1];exact h2
 have z:f.cells.toList=B.map G.val:=by have:=hz.zero;rw[hzz] at this;simpa using this
 have J:f.cells.size=sz:=by rw[<-cp,z,ap,A]
 have H:=run_make (P:=P) w ty e M f l h1 h2 .i64 .i64 k k (by omega) (Int.le_refl _) (by
  have:M.bytes * k<=65536 * 1073741824:=Nat.mul_le_mul h6 (by omega);have e:(M.bytes:Int) * (k:Int)=((M.bytes * k:Nat):Int):=by rw[Int.natCast_mul]
  rw[e];omega) (by omega)
 simp only[Int.toNat_natCast,h3] at H;have D:(execOp a.eval o).run P w=.ok (.value (.slice (some ⟨w.heap.size,0,none⟩) k k)) (w.alloc (.cells (madeCells f.cells (k * sz)) e)):=by simp only[execOp,ho,hp,hq,Sem.run_bind,Sem.run_pure];rw[H];rfl
 have E:=Z1v f.cells sz k J h5;have hpz:∀I2:Imm,PW (VRep I2) B f.cells.toList:=λI2=>by
  rw[z];refine⟨by simp,λj g u O l=>?_⟩;rw[ay,O] at l;obtain⟨x,rfl,-⟩:=Lq (Ao F g (au O));obtain rfl:x=u:=by simpa [G.val] using l
  exact .v _
 have C:∀x∈f.cells.toList,x.oneCell'=true:=λx L=>by rw[z] at L;obtain⟨g,O,rfl⟩:=bk.1 L;obtain⟨y,rfl,hy⟩:=Lq (Ao F g O);exact hy
 have s:∀u∈List.replicate k f.cells.toList,u.length=sz:=λu l=>by rw[da l];simpa using J
 have U:=Dl (r:=.slc (List.replicate k B) e sz) hH ((ab _ _).alloc (av _) (.cells (madeCells f.cells (k * sz)) e)) 0 (.slice (some ⟨w.heap.size,0,none⟩) k k) (·=w.heap.size) (λk e=>⟨Nat.le_of_eq e.symm,by subst e;simp⟩) ⟨λb=>by simp[Va.push,Value.ownBlock,eq_comm],List.replicate k f.cells.toList,⟨by rw[Bq s];simp,.inr ⟨w.heap.size,k,_,by simp[Va.push],aw _,heap_alloc_new _ _,by simp,?_,by rw[<-cp,E,Bq s];simp,by rw[E,bc (by rw[Bq s];simp)]⟩⟩,by simp,λi r u hr l=>?_,s,λu l x L=>by rw[da l] at L;exact C x L,h5⟩
 .exact Ry (Q:=Q) (g:=.osl V.n) hK ha hd D U ((ab _ _).alloc (av _) _) (.push _ _ _ _) (TRep.of_c (g:=.osl V.n) ⟨by show V.n < V.n+1;omega,by simp[Va.push]⟩) h
 .unfold maxLen;omega
 .rw[da (au hr),da (au l)];exact hpz _
include hK hd in
theorem Qx {ty:TypeId}{len cap:Operand}(ho:o.op=.makeSlice ty len cap)(h:match look ty tb with
  | some ⟨_,_,some (e,sz),_,_,_,_⟩=>match look e tb with
   | some ⟨false,[z],_,_,_,_,_⟩=>match Nat.beq sz 1 with
    | true=>ev t own len λp=>ev t own cap λq=>match p,q with
     | .v (.int .i64 m),.v (.int .i64 c)=>(0<=m/\m<=1073741824/\c=m)/\K (put o.dst (.osl V.n) t) ((V.n,.slc (List.replicate m.toNat [z]) e 1)::own) (V.n+1)
     | _,_=>False
    | false=>False
   | some ⟨true,M,_,_,_,_,_⟩=>match Nat.beq sz M.length,Bw O3 M with
    | true,true=>ev t own len λp=>ev t own cap λq=>match p,q with
     | .v (.int .i64 m),.v (.int .i64 c)=>(0<=m/\m<=1073741824/\c=m/\m * sz<=1073741824)/\K (put o.dst (.osl V.n) t) ((V.n,.slc (List.replicate m.toNat M) e sz)::own) (V.n+1)
     | _,_=>False
    | _,_=>False
   | _=>False
  | _=>False):o.wp P a w next Q:=by
 split at h
 case h_2=>exact h.elim
 next ag M e sz fl st ik kd hl =>
 split at h
 case h_2 M U fl2 X Y kd2 s=>exact Xy hT hK hH ha hd ho hl s h
 case h_3=>exact h.elim
 next z U fl2 X Y kd2 s =>
 split at h
 case h_2=>exact h.elim
 next A =>
 have A:=ax A;subst A;obtain⟨C,Z,l,h1,h2,h3,h4,h5,h6⟩:=(hT _ _ hl).elem e _ rfl;have T:=hT _ _ s;obtain⟨p,h,hp⟩:=B5 h ha hH;obtain⟨q,h,hq⟩:=B5 h ha hH;split at h
 case h_2=>exact h.elim
 next m c =>
 obtain⟨⟨g1,g2,g3⟩,h⟩:=h;subst g3;obtain⟨k,rfl⟩:=al g1;have hp:a.eval len=.int .i64 k:=Ze8 hp;have hq:a.eval cap=.int .i64 k:=Ze8 hq;have O:(P.info? e).bind (·.zero)=some l:=by rw[h1];exact h2
 have H:l.cells=#[l]:=by simpa using T.zag l O
 have J:l=z.val:=by have:=T.zero;rw[O] at this;simp[H] at this;exact this
 have B:(P.info? e).map (λi=>(i.zero,i.size,i.bytes))=some (some l,1,Z.bytes):=by rw[h1];simp[h2,h3]
 have hmk:=run_make_row' (P:=P) ty e l Z.bytes C B H .i64 .i64 k (by have:Z.bytes * k<=65536 * 1073741824:=Nat.mul_le_mul h6 (by omega);omega) (by omega) w
 have E:(execOp a.eval o).run P w=.ok (.value (.slice (some ⟨w.heap.size,0,none⟩) k k)) (w.alloc (.cells (madeCells #[l] k) e)):=by simp only[execOp,ho,hp,hq,Sem.run_bind,Sem.run_pure];rw[hmk];rfl
 have F:(madeCells #[l] k).toList=List.replicate k l:=by refine List.ext_getElem (by simp[madeCells]) λj h1 h2=>?_;simp[madeCells,Nat.mod_one]
 have L:(List.replicate k [l]).flatten=List.replicate k l:=Z5h k l;have hpz:∀I2:Imm,VRep I2 z l:=λI2=>by
  have f:=T.zok;rw[J];have f:zOK z=true:=by simpa [Bw] using f
  revert f;cases z<;>intro f<;>first | (cases f;done) | exact .v _ | exact .ff | exact .tt | exact .nl | exact .un
 have D:l.oneCell'=true:=by
  have f:zOK z=true:=by simpa [Bw] using T.zok
  rw[J];revert f;cases z<;>intro f<;>first | (cases f;done) | rfl | exact f | (simpa [zOK] using f)
 have W:=Dl (r:=.slc (List.replicate k [z]) e 1) hH ((ab _ _).alloc (av _) (.cells (madeCells #[l] k) e)) 0 (.slice (some ⟨w.heap.size,0,none⟩) k k) (·=w.heap.size) (λk e=>⟨Nat.le_of_eq e.symm,by subst e;simp⟩) ⟨λb=>by simp[Va.push,Value.ownBlock,eq_comm],List.replicate k [l],⟨by rw[L];simp,.inr ⟨w.heap.size,k,_,by simp[Va.push],aw _,heap_alloc_new _ _,by simp,?_,by rw[<-cp,F];simp,by rw[F,L];simp⟩⟩,by simp,λi r u hr C=>?_,λu C=>by rw[da C];rfl,λu C x hx=>by rw[da C] at hx;rw[bx.1 hx];exact D,Nat.one_pos⟩
 .exact Ry (Q:=Q) (g:=.osl V.n) hK ha hd E W ((ab _ _).alloc (av _) _) (.push _ _ _ _) (TRep.of_c (g:=.osl V.n) ⟨by show V.n < V.n+1;omega,by simp[Va.push]⟩) h
 .unfold maxLen;omega
 .rw[da (au hr),da (au C)];exact .cons (hpz _) .nil
end
section
variable {P:Program} {tb:List (Nat × TI)} {N n:Nat} {I I' I0:Imm} {V V' V0:Va} {a:Act} {t:Ts} {own own' own0:Os} {w w' w0:World} {g:G} {y:Value} {d:Option Tmp}
variable {XL:List Nat} {S:World->Prop} {K:Ts->Os->Nat->Prop} {next:Act->World->Prop} {Q:Exit->Act->World->Prop} {o:Oper} {r:R}
theorem Yu {K1:List (List G)->Prop}(h:U9 own g K1)(C:TRep I V g y)(hH:Has I V own w):∃f A c,K1 f/\y=.slice A f.length c/\(A=none->f=[]):=by
 cases g with
 | nl=>cases(show VRep I .nl y from C);exact⟨_,none,0,h,rfl,λ_=>rfl⟩
 | sl l =>
  cases(show VRep I (.sl l) y from C) with
  | sl _ A c sz u hc z hz hh hu=>exact⟨_,A,c,h,rfl,λe=>az (by have:=z e;omega)⟩
 | osl k =>
  obtain⟨F,rfl⟩:=(show k < V.n/\y=V.s k from C);unfold U9 at h;dsimp only at h;split at h
  .next f e sz hr =>
   obtain⟨-,rs,⟨-,B⟩,-⟩:=hH.each k _ hr;rcases B with⟨j,h8⟩ | ⟨b,cap,cur,j,-⟩
   .exact⟨_,none,0,h,by rw[j,h8],λ_=>az h8⟩
   .exact⟨_,_,_,h,j,λe=>by cases e⟩
  .next f sz hr =>
   have D:=(hH.each k _ hr).2.1;generalize V.s k=y at D;cases D with
   | sl _ A c sz u hc z hz hh hu=>exact⟨_,A,c,h,rfl,λe=>az (by have:=z e;omega)⟩
  .next f e sz hr =>
   obtain⟨-,rs,⟨-,B⟩,-⟩:=hH.each k _ hr;rcases B with⟨j,h8⟩ | ⟨b,q,cap,cur,j,-⟩
   .exact⟨_,none,0,h,by rw[j,h8],λ_=>az h8⟩
   .exact⟨_,_,_,h,j,λe=>by cases e⟩
  .exact h.elim
 | osv k sz lo hi =>
  obtain⟨F,⟨J,p⟩,rfl⟩:=(show k < V.n/\(lo<=hi/\hi<=Mz (V.s k))/\y=Kv sz (V.s k) lo hi from C);unfold U9 at h;dsimp only at h;split at h
  .next f e L hr =>
   obtain⟨-,rs,⟨-,B⟩,-⟩:=hH.each k _ hr;have key:∃A c,V.s k=.slice A f.length c/\(A=none->f.length=0):=by
    rcases B with⟨j,h8⟩ | ⟨b,cap,cur,j,-⟩
    .exact⟨none,0,by rw[j,h8],λ_=>h8⟩
    .exact⟨_,_,j,λe=>by cases e⟩
   obtain⟨A,c,M,H⟩:=key;rw[M] at p⊢;have p:hi<=f.length:=p;have E:(Fo f lo hi).length=hi - lo:=by unfold Fo;simp;omega
   refine⟨_,(if c=lo then A else A.map (·.add (lo * sz))),c - lo,h,by rw[E];rfl,λe=>az ?_⟩;have z:A=none:=by
    cases A with
    | none=>rfl
    | some x=>split at e<;>cases e
   have:=H z;rw[E];omega
  .exact h.elim
 | _=>exact False.elim h
theorem Vi {sz:Nat}{K1:List (List G)->Prop}(h:Z2p own g sz K1)(hg:TRep I V g y)(hH:Has I V own w):∃new A c,∃rs:List (List Value),K1 new/\y=.slice A new.length c/\(A=none->new.length=0/\c=0)/\rs.length=new.length/\(∀(i:Nat) r u,new[i]?=some r->rs[i]?=some u->PW (VRep I) r u)/\(∀u∈rs,u.length=sz)/\(∀u∈rs,∀x∈u,x.oneCell'=true)/\∀a,A=some a->∀(j:Nat) u,rs.flatten[j]?=some u->w.cell? (a.add j)=some u:=by
 cases g with
 | nl=>cases(show VRep I .nl y from hg);exact⟨[],none,0,[],h,rfl,λ_=>⟨rfl,rfl⟩,rfl,λi r u h=>by simp at h,by simp,by simp,λa e=>by cases e⟩
 | sl l =>
  obtain⟨hr,h⟩:=h;obtain⟨A,c,rs,e,h1,L,O,F,M,h6⟩:=Z1e (show VRep I (.sl l) y from hg) hH.mem λr hm=>(hr r hm).1;refine⟨l,A,c,rs,h,e,λe=>⟨by rw[(L e).1];rfl,(L e).2⟩,O,F,M,λu C x hx=>?_,λa ha j u C=>(h6 a ha j u C).2⟩;obtain⟨i,z,e⟩:=ct.1 C;have hi':i < l.length:=by omega
  have hp:=F i l[i] u (aq hi') (by rw[aq z,e]);obtain⟨m,hm,Y⟩:=ct.1 hx;have hm':m < l[i].length:=by rw[hp.1];exact hm
  exact Lx (hp.2 m l[i][m] x (aq hm') (by rw[aq hm,Y])) (List.all_eq_true.1 (hr _ (bw hi')).2 _ (bw hm'))
 | osl k =>
  obtain⟨hk,rfl⟩:=(show k < V.n/\y=V.s k from hg);unfold Z2p at h;dsimp only at h;split at h
  .next f e sz' hr =>
   split at h
   .next E =>
    have E:=ax E;subst E;obtain⟨-,rs,J,L,O,F,M,h6⟩:=hH.each k _ hr;rcases J.2 with⟨B,h8⟩ | ⟨b,cap,cur,B,-⟩
    .exact⟨f,none,0,rs,h,by rw[B,h8],λ_=>⟨h8,rfl⟩,L,O,F,M,λa e=>by cases e⟩
    .exact⟨f,_,_,rs,h,B,(λe=>by cases e),L,O,F,M,λa e j u C=>by cases e;exact J.cells (g:=b) (by rw[B];rfl) j u C⟩
   .exact h.elim
  .exact h.elim
 | osv k sz0 lo z =>
  obtain⟨hk,⟨b1,b2⟩,rfl⟩:=(show k < V.n/\(lo<=z/\z<=Mz (V.s k))/\y=Kv sz0 (V.s k) lo z from hg);unfold Z2p at h;dsimp only at h;split at h
  .next f e sz' hr =>
   split at h
   .next E D =>
    have E:=ax E;have D:=ax D;subst E D;obtain⟨-,rs,J,L,O,F,M,h6⟩:=hH.each k _ hr;have p:(Fo f lo z).length=z - lo:=by unfold Fo;rw[bm,bf];rcases J.2 with⟨B,h8⟩ | ⟨b,cap,cur,B,-⟩<;>(rw[B] at b2;simp only[Mz] at b2;omega)
    have Z:∀(i:Nat) r u,(Fo f lo z)[i]?=some r->((rs.take z).drop lo)[i]?=some u->PW (VRep I) r u:=λi r u H T=>by
     unfold Fo at H;rw[ce] at H T;have X:lo+i < z:=by have:=(ar.1 H).1;rw[bf] at this;omega
     rw[List.getElem?_take_of_lt X] at H T;exact O _ r u H T
    rcases J.2 with⟨B,h8⟩ | ⟨b,cap,cur,B,-,-,h9,-⟩
    .have W:z=0/\lo=0:=by rw[B] at b2;simp only[Mz] at b2;omega
     obtain⟨rfl,rfl⟩:=W;refine⟨Fo f 0 0,none,0,(rs.take 0).drop 0,h,by rw[B,p];rfl,λ_=>⟨p,rfl⟩,by rw[p];simp,Z,by simp,by simp,λa e=>by cases e⟩
    .refine⟨Fo f lo z,if cap=lo then some ⟨b,0,none⟩ else(some (⟨b,0,none⟩:Addr)).map (·.add (lo * sz0)),cap - lo,(rs.take z).drop lo,h,by rw[B,p];rfl,λe=>(by split at e<;>cases e),by rw[p,bm,bf];rw[B] at b2;simp only[Mz] at b2;omega,Z,λu C=>F u (bo (cj C)),λu C=>M u (bo (cj C)),λa e j u C=>?_⟩;have hlr:z<=rs.length:=by rw[L];rw[B] at b2;simpa [Mz] using b2
     have U:rs.flatten[lo * sz0+j]?=some u:=by
      have e1:rs=rs.take lo++((rs.take z).drop lo++rs.drop z):=by
       conv=>lhs;rw[<-dh z rs,<-dh lo (rs.take z),List.take_take,cq b1,cf]
      have Y:(rs.take lo).flatten.length=lo * sz0:=by
       have:∀(l:List (List Value)),(∀u∈l,u.length=sz0)->l.flatten.length=l.length * sz0:=λl=>by
        induction l with
        | nil=>intro _;simp
        | cons u l ih=>intro h;rw[ck,bg,h u (by simp),ih λx hx=>h x (by simp[hx]),bn,Nat.succ_mul];omega
       rw[this _ λu C=>F u (bo C),bf,cq (by omega)]
      rw[e1,List.flatten_append,bp (by omega),Y,Nat.add_sub_cancel_left,List.flatten_append,bu (ar.1 C).1];exact C
     split at e
     .next hc =>
      exfalso;have:lo=z:=by
       have:z<=cap:=by rw[B] at b2;simp only[Mz] at b2;omega
       omega
      subst this;rw[List.drop_of_length_le (by rw[bf];omega)] at C;simp at C
     .cases e;have:=J.cells (g:=b) (by rw[B];rfl) (lo * sz0+j) u U;show w.cell? ((Addr.add ⟨b,0,none⟩ (lo * sz0)).add j)=some u;rw[Addr.add_lit,Addr.add_lit];rw[Addr.add_lit] at this;rw[show 0+lo * sz0+j=0+(lo * sz0+j) by omega];exact this
   .exact h.elim
  .next f e' sz' hr =>
   split at h
   .next E D =>
    have E:=ax E;have D:=ax D;subst E D;obtain⟨-,rs,J,L,O,F,M,h6⟩:=hH.each k _ hr;have p:(Fo f lo z).length=z - lo:=by unfold Fo;rw[bm,bf];rcases J.2 with⟨B,h8⟩ | ⟨b,q,cap,cur,B,-⟩<;>(rw[B] at b2;simp only[Mz] at b2;omega)
    have Z:∀(i:Nat) r u,(Fo f lo z)[i]?=some r->((rs.take z).drop lo)[i]?=some u->PW (VRep I) r u:=λi r u H T=>by
     unfold Fo at H;rw[ce] at H T;have X:lo+i < z:=by have:=(ar.1 H).1;rw[bf] at this;omega
     rw[List.getElem?_take_of_lt X] at H T;exact O _ r u H T
    rcases J.2 with⟨B,h8⟩ | ⟨b,q,cap,cur,B,hgg,h9,hcm,hcs,htk⟩
    .have W:z=0/\lo=0:=by rw[B] at b2;simp only[Mz] at b2;omega
     obtain⟨rfl,rfl⟩:=W;refine⟨Fo f 0 0,none,0,(rs.take 0).drop 0,h,by rw[B,p];rfl,λ_=>⟨p,rfl⟩,by rw[p];simp,Z,by simp,by simp,λa e=>by cases e⟩
    .refine⟨Fo f lo z,if cap=lo then some ⟨b,q,none⟩ else(some (⟨b,q,none⟩:Addr)).map (·.add (lo * sz0)),cap - lo,(rs.take z).drop lo,h,by rw[B,p];rfl,λe=>(by split at e<;>cases e),by rw[p,bm,bf];rw[B] at b2;simp only[Mz] at b2;omega,Z,λu C=>F u (bo (cj C)),λu C=>M u (bo (cj C)),λa e j u C=>?_⟩;have hlr:z<=rs.length:=by rw[L];rw[B] at b2;simpa [Mz] using b2
     have U:rs.flatten[lo * sz0+j]?=some u:=by
      have e1:rs=rs.take lo++((rs.take z).drop lo++rs.drop z):=by
       conv=>lhs;rw[<-dh z rs,<-dh lo (rs.take z),List.take_take,cq b1,cf]
      have Y:(rs.take lo).flatten.length=lo * sz0:=by
       have:∀(l:List (List Value)),(∀u∈l,u.length=sz0)->l.flatten.length=l.length * sz0:=λl=>by
        induction l with
        | nil=>intro _;simp
        | cons u l ih=>intro h;rw[ck,bg,h u (by simp),ih λx hx=>h x (by simp[hx]),bn,Nat.succ_mul];omega
       rw[this _ λu C=>F u (bo C),bf,cq (by omega)]
      rw[e1,List.flatten_append,bp (by omega),Y,Nat.add_sub_cancel_left,List.flatten_append,bu (ar.1 C).1];exact C
     split at e
     .next hc =>
      exfalso;have:lo=z:=by
       have:z<=cap:=by rw[B] at b2;simp only[Mz] at b2;omega
       omega
      subst this;rw[List.drop_of_length_le (by rw[bf];omega)] at C;simp at C
     .cases e;show w.cell? ((Addr.add ⟨b,q,none⟩ (lo * sz0)).add j)=some u;rw[Addr.add_lit,Addr.add_lit,cell_of_row w b _ cur e' (0,0) hgg];rw[<-htk,br] at U;split at U
      .rw[ce] at U;rw[show q+lo * sz0+j=q+(lo * sz0+j) by omega];simpa using U
      .cases U
   .exact h.elim
  .exact h.elim
 | _=>exact False.elim h
theorem Ij (h:Has I V own w){k:Nat}{O:R}(T:look k own=some O)(X:w'.os=w.os)(htp:w'.tape=w.tape)(hou:w'.output=w.output)(M:w.heap.size<=w'.heap.size)(L:∀b,b < w.heap.size->¬V.f k b->w'.heap[b]?=w.heap[b]?)
  (s:Value) (f:Nat->Prop) (Z:∀b,f b->(V.f k b\/w.heap.size<=b)/\b < w'.heap.size) (hr:RRep I ((V.drop k).push 0 s f) V.n w' r):Later own I V w ((V.n,r)::(k,.gone)::own) I ((V.drop k).push 0 s f) w':=by
 have Y:=h.num k O T;have E:∀j r',look j own=some r'->j≠k->∀b,V.f j b->¬V.f k b:=λj r' p E b c l=>E (h.disj j k r' O b p T c l);have z:∀j r',look j ((V.n,r)::(k,.gone)::own)=some r'->(j=V.n/\r'=r)\/(j≠V.n/\j=k/\r'=.gone)\/(j≠V.n/\j≠k/\look j own=some r'):=λj r' p=>by
  rw[Af] at p;split at p
  .next e=>cases p;exact .inl ⟨e,rfl⟩
  .next e =>
   rw[Af] at p;split at p
   .next q=>cases p;exact .inr (.inl ⟨e,q,rfl⟩)
   .next q=>exact .inr (.inr ⟨e,q,p⟩)
 have hV:V.le ((V.drop k).push 0 s f):=⟨Nat.le_succ _,λj p=>by simp[Va.push,Va.drop,Nat.ne_of_lt p]⟩;have H:((V.drop k).push 0 s f).f V.n=f:=by simp[Va.push,Va.drop]
 have A:∀j,j≠V.n->j≠k->((V.drop k).push 0 s f).f j=V.f j:=λj D h2=>by simp[Va.push,Va.drop,D,h2]
 have B:∀b,¬((V.drop k).push 0 s f).f k b:=λb=>by simp[Va.push,Va.drop,Nat.ne_of_lt Y]
 refine⟨⟨h.mem.keep λb o x hx=>L b (h.mem.lt hx) λJ=>(by have:=(h.foot k O b T J).2 o;rw[hx] at this;cases this),λj r' p=>?_,λj r' p=>?_,λj r' b p c=>?_,λj U r1 r2 b p W c l=>?_⟩,⟨X,htp,hou,M,λb c hn=>⟨L b c (hn k O T),λ_=>rfl⟩,λ_ _ _ h=>h,λj r' b p c hlt=>?_⟩,hV⟩
 .rcases z j r' p with⟨e,-⟩ | ⟨-,e,-⟩ | ⟨-,-,e⟩
  .rw[e];exact db _
  .rw[e];exact Nat.lt_succ_of_lt Y
  .exact Nat.lt_succ_of_lt (h.num j r' e)
 .rcases z j r' p with⟨e,q⟩ | ⟨-,e,q⟩ | ⟨F,C,e⟩
  .rw[e,q];exact hr
  .rw[e,q];exact B
  .exact(h.each j r' e).keep (.refl _) hV (h.num j r' e) (A j F C) X M λb c=>L b (h.foot j r' b e c).1 (E j r' e C b c)
 .rcases z j r' p with⟨e,q⟩ | ⟨-,e,q⟩ | ⟨F,C,e⟩
  .rw[e,H] at c;refine⟨(Z b c).2,λo=>?_⟩;rcases(Z b c).1 with D | D
   .exact(h.foot k O b T D).2 o
   .cases hI:I b o with
    | none=>rfl
    | some x=>exact dt (h.mem.lt hI) (by omega)
  .rw[e] at c;exact dt c (B b)
  .rw[A j F C] at c;exact⟨bd (h.foot j r' b e c).1 M,(h.foot j r' b e c).2⟩
 .have key:∀j r',look j own=some r'->j≠V.n->j≠k->V.f j b->¬f b:=λj r' p F C c J=>by
   rcases(Z b J).1 with D | D
   .exact E j r' p C b c D
   .have:=(h.foot j r' b p c).1;omega
  rcases z j r1 p with⟨e,-⟩ | ⟨-,e,-⟩ | ⟨F,C,e⟩
  .rcases z U r2 W with⟨q,-⟩ | ⟨-,q,-⟩ | ⟨e1',e2',q⟩
   .rw[e,q]
   .rw[q] at l;exact dt l (B b)
   .rw[e,H] at c;rw[A U e1' e2'] at l;exact dt c (key U r2 q e1' e2' l)
  .rw[e] at c;exact dt c (B b)
  .rw[A j F C] at c;rcases z U r2 W with⟨q,-⟩ | ⟨-,q,-⟩ | ⟨e1',e2',q⟩
   .rw[q,H] at l;exact dt l (key j r1 e F C c)
   .rw[q] at l;exact dt l (B b)
   .rw[A U e1' e2'] at l;exact h.disj j U r1 r2 b e q c l
 .rcases z j r' p with⟨e,-⟩ | ⟨-,e,-⟩ | ⟨F,C,e⟩
  .rw[e,H] at c;rcases(Z b c).1 with D | D
   .exact⟨k,O,T,D⟩
   .omega
  .rw[e] at c;exact dt c (B b)
  .rw[A j F C] at c;exact⟨j,r',e,c⟩
theorem Rj (t ty e:TypeId)(i:TypeInfo)(z:Value)(size bytes:Nat)(U:P.underlying t=some (.slice e))(W:P.info? e=some i)(hz:i.zero=some z)
  (p:i.size=size) (J:i.bytes=bytes) (M:z.cells.size=size) (T:0 < size) (v:Value) (n:Nat) (xs:List Value) (l:Ep w e size v n xs)
  (A:Option Addr) (m c:Nat) (f:List Value) (D:f.length=m * size) (hA:A=none->m=0/\c=0) (h:∀a,A=some a->∀j u,f[j]?=some u->w.cell? (a.add j)=some u) (h1:∀u∈f,u.oneCell'=true)
  (F:n+m<=maxLen) (B:(n+m) * bytes<=140737488355328) :
  ∃C w',(Builtin.append_ #[t,t] ty #[v,.slice A m c]).run P w=.ok C w'/\Ep w' e size C (n+m) (xs++f)/\w.grownBy w' v.ownBlock/\(C.ownBlock=v.ownBlock\/∃g,C.ownBlock=some g/\w.heap.size<=g/\g < w'.heap.size):=by
 rcases l.2 with⟨rfl,rfl⟩ | ⟨g,q,cap,cur,rfl,hg,hn,hm,hc,htake⟩
 .have hx:xs=[]:=az (by simpa using l.1);subst hx;obtain⟨C,w',r1,L,E,r4⟩:=Z4 (P:=P) (w:=w) t ty e i z size bytes U W hz p J M T (.slice none 0 0) 0 [] (World.ownsRow_nil w 0 e size) A m c f D hA h h1 F B;exact⟨C,w',r1,Vy L,E,r4⟩
 cases A with
 | none =>
  obtain⟨rfl,rfl⟩:=hA rfl;have X:f=[]:=az (by simpa using D);subst X;refine⟨_,w,?_,by simpa using l,World.grownBy.refl _ _,.inl rfl⟩;simp[Builtin.append_,run_underlying U,sizeOf,typeInfo,W,Builtin.lenOf,Builtin.firstCells,hn,storeCells]
 | some a =>
  have h:=h a rfl;by_cases s:n+m<=cap
  .subst p;have hmul:n * i.size+f.length<=cap * i.size:=by rw[D,<-Nat.add_mul];exact Nat.mul_le_mul_right _ s
   have hf:=run_firstCells_some (P:=P) w i.size m a m c f D h;have H:=run_storeCells_at P g (q+n * i.size) e f 0 cur w hg (by omega) h1;simp only[Nat.add_zero] at H;have hcl:cur.toList.length=cur.size:=cp;refine⟨.slice (some ⟨g,q,none⟩) (n+m) cap,w.setRow g (cur.toList.take (q+n * i.size)++f++cur.toList.drop (q+n * i.size+f.length)).toArray,by simp[Builtin.append_,run_underlying U,sizeOf,typeInfo,W,Builtin.lenOf,s,hf,Addr.add_lit,H],⟨by rw[bg,l.1,D,Nat.add_mul],.inr ⟨g,q,cap,_,rfl,setRow_heap w _ cur _ e _ hg,s,hm,?_,?_⟩⟩,⟨rfl,rfl,rfl,by simp[World.setRow],λb hb Z=>setRow_other w _ b _ (λe=>Z (by rw[e];rfl))⟩,.inl rfl⟩
   .simp;omega
   .have hX:(cur.toList.take (q+n * i.size)).drop q=xs:=by rw[List.drop_take,Nat.add_sub_cancel_left];exact htake
    have Y:(n+m) * i.size=(xs++f).length:=by rw[bg,l.1,D,Nat.add_mul]
    show List.take _ (List.drop q (cur.toList.take (q+n * i.size)++f++cur.toList.drop (q+n * i.size+f.length)))=_;rw[cf,List.drop_append_of_le_length (by rw[bf,hcl];omega),hX,<-cf,Y,List.take_left]
  .obtain⟨C,w',r1,L,E⟩:=run_append_arg_grows (P:=P) w t ty e i z size bytes U W hz p J M T ⟨g,q,none⟩ n cap xs l.1 (λj u O=>by
    rw[Addr.add_lit,cell_of_row w g _ cur e (0,0) hg];rw[<-htake,br] at O;split at O
    .rw[ce] at O;simpa using O
    .cases O) a m c f D h (by omega) F B
   refine⟨C,w',r1,Vy L,⟨E.os,E.tape,E.output,E.size,λb hb _=>E.block b hb (by simp)⟩,?_⟩;cases hv:C.ownBlock with
   | none =>
    exfalso;rcases L.2 with⟨-,h0⟩ | ⟨g',cap',cur',rfl,-⟩
    .omega
    .cases hv
   | some g'=>exact .inr ⟨g',rfl,L.lt g' hv⟩
theorem Xg {rs:List (List Value)}{sz:Nat}(h:∀u∈rs,u.length=sz):∀l,rs.flatten.take (l * sz)=(rs.take l).flatten:=by
 intro l
 induction l generalizing rs with
 | zero=>simp
 | succ l ih =>
  cases rs with
  | nil=>simp
  | cons u rs =>
   have c:=h u (by simp);rw[ck,List.take_succ_cons,ck,<-ih λx b=>h x (by simp[b]),show(l+1) * sz=u.length+l * sz by rw[c,Nat.succ_mul];omega,List.take_length_add_append]
theorem Z6o {c new:List (List G)}{h rs:List (List Value)}{k e sz:Nat}{w':World}{j:Value}(p:Ep w' e sz j (c.length+new.length) (h.flatten++rs.flatten))(l:h.length=c.length)(F:∀(i:Nat) r u,c[i]?=some r->h[i]?=some u->PW (VRep I) r u)(D:∀u∈h,u.length=sz)(z:∀u∈h,∀x∈u,x.oneCell'=true)
  (H:rs.length=new.length) (q:∀(i:Nat) r u,new[i]?=some r->rs[i]?=some u->PW (VRep I) r u) (B:∀u∈rs,u.length=sz) (A:∀u∈rs,∀x∈u,x.oneCell'=true) (E:0 < sz):RRep I ((V.drop k).push 0 j λb=>j.ownBlock=some b) V.n w' (.vw (c++new) e sz):=by
 refine⟨λb=>by simp[Va.push,Va.drop],h++rs,?_,by simp[l,H],λi r u hr f=>?_,λu f=>?_,λu f=>?_,E⟩
 .have:((V.drop k).push 0 j λb=>j.ownBlock=some b).s V.n=j:=by simp[Va.push,Va.drop]
  rw[this,bg,List.flatten_append];exact p
 .by_cases C:i < c.length
  .rw[bu C] at hr;rw[bu (by omega)] at f;exact F i r u hr f
  .rw[bp (by omega)] at hr;rw[bp (by omega),l] at f;exact q _ r u hr f
 .rcases cd.1 f with f | f
  .exact D u f
  .exact B u f
 .rcases cd.1 f with f | f
  .exact z u f
  .exact A u f
def Za1 (V:Va)(w w':World)(g:G):Prop:=match g with
 | .osl k=>∀b,b < w.heap.size->¬V.f k b->w'.heap[b]?=w.heap[b]?
 | .orv k _ _ _ _ _=>∀b,b < w.heap.size->¬V.f k b->w'.heap[b]?=w.heap[b]?
 | _=>∀b,b < w.heap.size->w'.heap[b]?=w.heap[b]?
theorem Zeb {g0:G}(hKV:∀t own' I' V' e w',K t own' V'.n->Later own I V w own' I' V' w'->Za1 V w w' g0->V.kp V'->ARep N I' V' e t->next e w')(ha:ARep N I V a t)(hd:∀i,o.dst=some i->i < N)
  (hr:(execOp a.eval o).run P w=.ok (.value y) w') (c:Later own I V w own' I' V' w') (j:Za1 V w w' g0) (b:V.kp V') (h:TRep I' V' g y) (f:K (put o.dst g t) own' V'.n):o.wp P a w next Q:=by
 unfold Oper.wp;rw[hr];exact hKV _ _ _ _ _ _ f c j b ((ha.mono c.fro.mono c.va).put hd h)
variable (hT:∀t i,look t tb=some i->TIok P t i) (hH:Has I V own w) (hK:Nxt N own0 I0 V0 w0 K next) (hL:Since own0 I0 V0 w0 own I V w) (ha:ARep N I V a t) (hd:∀i,o.dst=some i->i < N)
include ha
include hH in
theorem Zdm {x:Operand}{ty:TypeId}(c:P.underlying ty=some .string)(f:o.op=.call {callee:=.builtin .len,args:=#[x],argTypes:=#[ty]})(h:ev t own x λg=>match g with
  | .v (.string s)=>K (put o.dst (.v (.int .i64 s.size)) t) own V.n
  | _=>False):QOk S P I V own w a t o K:=by
 obtain⟨g,b,j⟩:=B5 h ha hH;clear h;split at b
 .next s =>
  have e:=B0 j;exact⟨_,_,b,(.of_v (.v _)),λu _=>(by simp[execOp,f,resolve,invoke,builtin,Builtin.len_,run_underlying c,e,goInt])⟩
 .exact b.elim
include hH in
theorem Zef {x z:Operand}{j:Array TypeId}(s:o.op=.call {callee:=.builtin .max,args:=#[x,z],argTypes:=j})(h:ev t own x λg=>ev t own z λq=>match g,q with
  | .v (.int .i64 a),.v (.int .i64 b)=>K (put o.dst (.v (.int .i64 (max a b))) t) own V.n
  | _,_=>False):QOk S P I V own w a t o K:=by
 obtain⟨g,c,A⟩:=B5 h ha hH;obtain⟨q,f,p⟩:=B5 c ha hH;clear h c;split at f
 .have e:=B0 A;have l:=B0 p;exact⟨_,_,f,(.of_v (.v _)),λu _=>(by simp[execOp,s,resolve,invoke,builtin,e,l,Go.Lib.run_max_ints])⟩
 .exact f.elim
include hH in
theorem Zf1 {x z:Operand}{j:Array TypeId}(s:o.op=.call {callee:=.builtin .min,args:=#[x,z],argTypes:=j})(h:ev t own x λg=>ev t own z λq=>match g,q with
  | .v (.int .i64 a),.v (.int .i64 b)=>K (put o.dst (.v (.int .i64 (min a b))) t) own V.n
  | _,_=>False):QOk S P I V own w a t o K:=by
 obtain⟨g,c,A⟩:=B5 h ha hH;obtain⟨q,f,p⟩:=B5 c ha hH;clear h c;split at f
 .have e:=B0 A;have l:=B0 p;exact⟨_,_,f,(.of_v (.v _)),λu _=>(by simp[execOp,s,resolve,invoke,builtin,e,l,Go.Lib.run_min_ints])⟩
 .exact f.elim
include hH in
theorem Zce {x:Operand}{ty e:TypeId}(l:P.underlying ty=some (.slice e))(s:o.op=.call {callee:=.builtin .len,args:=#[x],argTypes:=#[ty]})(h:ev t own x λg=>Zg2 own g λm=>K (put o.dst (.v (.int .i64 m)) t) own V.n):QOk S P I V own w a t o K:=by
 obtain⟨g,j,z⟩:=B5 h ha hH;have old:(U9 own g λf=>K (put o.dst (.v (.int .i64 f.length)) t) own V.n)->QOk S P I V own w a t o K:=λj=>by obtain⟨f,A,c,j,p,-⟩:=Yu j z hH;exact⟨_,_,j,(.of_v (.v _)),λu _=>(by simp[execOp,s,resolve,invoke,builtin,Builtin.len_,run_underlying l,p,goInt])⟩
 cases g with
 | orv k i sz off len cap =>
  obtain⟨B,b,q,-,p⟩:=(show TRep1 I V (.orv k i sz off len cap) (a.eval x) from z);exact⟨_,_,j,(.of_v (.v _)),λu _=>(by simp[execOp,s,resolve,invoke,builtin,Builtin.len_,run_underlying l,p,goInt])⟩
 | _=>exact old j
include hH ha hd in
theorem Mk {x:Operand}{e sz:Nat}{g:G}(hKV:∀t own' I' V' a' w',K t own' V'.n->Later own I V w own' I' V' w'->Za1 V w w' g->V.kp V'->ARep N I' V' a' t->next a' w'){new:List (List G)}{rs:List (List Value)}(k1:rs.length=new.length)(k2:∀(i:Nat) r u,new[i]?=some r->rs[i]?=some u->PW (VRep I) r u)(k3:∀u∈rs,u.length=sz)(k4:∀u∈rs,∀x∈u,x.oneCell'=true)(h5:0 < sz)
  (J:∀(v:Value) (c:List (List G)) (z:List (List Value)),a.eval x=v->w.ownsRow 0 e sz v c.length z.flatten->c.length+new.length<=1073741824->∃p w',(execOp a.eval o).run P w=.ok (.value p) w'/\w'.ownsRow 0 e sz p (c.length+new.length) (z.flatten++rs.flatten)/\w.grownBy w' v.ownBlock/\(p.ownBlock=v.ownBlock\/∃g,p.ownBlock=some g/\w.heap.size<=g/\g < w'.heap.size))
  (U:TRep I V g (a.eval x)) (l:Z9a t own V.n o.dst g new e sz K):o.wp P a w next Q:=by
 unfold Z9a at l;cases g with
 | nl =>
  obtain⟨j,l⟩:=l;have hx:a.eval x=.slice none 0 0:=by generalize a.eval x=X at U;cases(show VRep I .nl X from U);rfl
  obtain⟨p,w',hr,H,q,O⟩:=J _ [] [] hx (World.ownsRow_nil w 0 e sz) (by simpa using j);simp only[List.length_nil,Nat.zero_add,List.flatten_nil,List.nil_append] at H;have hB:Below w.heap.size w w':=⟨q.os,q.tape,q.output,q.size,λb f=>q.block b f (by simp[Value.ownBlock])⟩;refine Zeb (g0:=.nl) (g:=.osl V.n) hKV ha hd hr (Dl (r:=.slc new e sz) hH hB 0 p (λb=>p.ownBlock=some b) (λb f=>?_) ⟨λb=>by simp[Va.push],rs,by simpa [Va.push] using H,k1,k2,k3,k4,h5⟩) (λb f=>hB.block b f) (.push V 0 p _) (TRep.of_c (g:=.osl V.n) ⟨db _,by simp[Va.push]⟩) l;rcases O with h | ⟨b',h,hb'⟩
  .rw[h] at f;simp[Value.ownBlock] at f
  .rw[h] at f;cases f;exact hb'
 | osl k =>
  obtain⟨hkn,hx⟩:=(show k < V.n/\a.eval x=V.s k from U);dsimp only at l;split at l
  .next c e' sz' L =>
   split at l
   .next F E =>
    have F:=ax F;have E:=ax E;subst F E;obtain⟨j,l⟩:=l;obtain⟨D,z,Y,g2,g3,g4,g5,g6⟩:=hH.each k _ L;obtain⟨p,w',hr,H,q,O⟩:=J _ c z hx Y j;have M:∀b,p.ownBlock=some b->b < w'.heap.size:=λb f=>(H.lt b f).2;refine Zeb (g0:=.osl k) (g:=.osl V.n) hKV ha hd hr (Ij (r:=.slc (c++new) e sz) hH L q.os q.tape q.output q.size (λb f T=>q.block b f (λe=>T ((D b).2 e.symm))) p (λb=>p.ownBlock=some b) (λb f=>⟨?_,M b f⟩) ⟨λb=>by simp[Va.push,Va.drop],z++rs,?_,by simp[g2,k1],?_,?_,?_,h5⟩) (λb f T=>q.block b f (λe=>T ((D b).2 e.symm))) ((Va.kp.drop V k).trans (av _) (.push (V.drop k) 0 p _)) (TRep.of_c (g:=.osl V.n) ⟨db _,by simp[Va.push,Va.drop]⟩) l
    .rcases O with h | ⟨b',h,hb'⟩
     .exact .inl ((D b).2 (by rw[<-h];exact f))
     .rw[h] at f;cases f;exact .inr hb'.1
    .simpa [Va.push,Va.drop] using H
    .intro i r u C B;rcases Nat.lt_or_ge i c.length with Z | W
     .rw[bu Z] at C;rw[bu (by omega)] at B;exact g3 i r u C B
     .rw[bp W] at C;rw[bp (by omega),g2] at B;exact k2 _ r u C B
    .intro u A;rcases cd.1 A with A | A
     .exact g4 u A
     .exact k3 u A
    .intro u A;rcases cd.1 A with A | A
     .exact g5 u A
     .exact k4 u A
   .exact l.elim
  .exact l.elim
 | _=>exact l.elim
include hH ha hd in
theorem Ys {x:Operand}{e sz:Nat}{g:G}(hKV:∀t own' I' V' a' w',K t own' V'.n->Later own I V w own' I' V' w'->Za1 V w w' g->V.kp V'->ARep N I' V' a' t->next a' w'){new:List (List G)}{rs:List (List Value)}(k1:rs.length=new.length)(k2:∀(i:Nat) r u,new[i]?=some r->rs[i]?=some u->PW (VRep I) r u)(k3:∀u∈rs,u.length=sz)(k4:∀u∈rs,∀x∈u,x.oneCell'=true)(h5:0 < sz)
  (hap:∀(v:Value) (j:List (List G)) (D:List (List Value)),a.eval x=v->w.ownsRow 0 e sz v j.length D.flatten->j.length+new.length<=1073741824->∃p w',(execOp a.eval o).run P w=.ok (.value p) w'/\w'.ownsRow 0 e sz p (j.length+new.length) (D.flatten++rs.flatten)/\w.grownBy w' v.ownBlock/\(p.ownBlock=v.ownBlock\/∃g,p.ownBlock=some g/\w.heap.size<=g/\g < w'.heap.size))
  (Z:∀(v:Value) (n:Nat) (xs:List Value),a.eval x=v->Ep w e sz v n xs->n+new.length<=1073741824->∃p w',(execOp a.eval o).run P w=.ok (.value p) w'/\Ep w' e sz p (n+new.length) (xs++rs.flatten)/\w.grownBy w' v.ownBlock/\(p.ownBlock=v.ownBlock\/∃g,p.ownBlock=some g/\w.heap.size<=g/\g < w'.heap.size))
  (hg:TRep I V g (a.eval x)) (A:Zd0 t own V.n o.dst g new e sz K):o.wp P a w next Q:=by
 have lt:∀{w':World} {p:Value} {n:Nat} {xs:List Value},Ep w' e sz p n xs->∀b,p.ownBlock=some b->b < w'.heap.size:=λ{w' p n xs} r b z=>by
  rcases r.2 with⟨rfl,-⟩ | ⟨g',q',cap',cur',rfl,hg',-⟩
  .cases z
  .cases z;exact(bz.1 hg').1
 unfold Zd0 at A;split at A
 .next k =>
  obtain⟨hkn,Y⟩:=(show k < V.n/\a.eval x=V.s k from hg);split at A
  .next j e' sz' J =>
   split at A
   .next E B =>
    have E:=ax E;have B:=ax B;subst E B;obtain⟨F,A⟩:=A;obtain⟨L,D,ho0,g2,g3,g4,g5,g6⟩:=hH.each k _ J;obtain⟨p,w',hr,r1,H,r3⟩:=Z _ j.length D.flatten Y ho0 F;refine Zeb (g0:=.osl k) (g:=.osl V.n) hKV ha hd hr (Ij (r:=.vw (j++new) e sz) hH J H.os H.tape H.output H.size (λb z M=>H.block b z (λe=>M ((L b).2 e.symm))) p (λb=>p.ownBlock=some b) (λb z=>⟨?_,lt r1 b z⟩) (Z6o r1 g2 g3 g4 g5 k1 k2 k3 k4 h5)) (λb z M=>H.block b z (λe=>M ((L b).2 e.symm))) ((Va.kp.drop V k).trans (av _) (.push (V.drop k) 0 p _)) (TRep.of_c (g:=.osl V.n) ⟨db _,by simp[Va.push,Va.drop]⟩) A;rcases r3 with h | ⟨C,h,hb'⟩
    .exact .inl ((L b).2 (by rw[<-h];exact z))
    .rw[h] at z;cases z;exact .inr hb'.1
   .exact A.elim
  .exact Mk (hH:=hH) (hKV:=hKV) (ha:=ha) (hd:=hd) k1 k2 k3 k4 h5 hap hg A
 .next k s l c =>
  obtain⟨hkn,b,q,⟨n0,c0,hs⟩,Y⟩:=(show TRep1 I V (.orv k 0 (s+1) 0 l c) (a.eval x) from hg);split at A
  .next j e' sz2 J =>
   split at A
   .next E B U T hb5 =>
    have E:=ax E;have B:=ax B;have U:=ax U;have T:=ax T;have hb5:=dn hb5;subst E U T;obtain⟨F,A⟩:=A;have L:=(hH.each k _ J).1;obtain⟨D,cur,hcur,g2,g3,g4,g5,M,hnc,hcm,hcs,ht,-⟩:=Zb2 hH J hs;have Y:a.eval x=.slice (some ⟨b,q,none⟩) l l:=by rw[Y];simp
    have hv:Ep w e sz (.slice (some ⟨b,q,none⟩) l l) (j.take l).length (D.take l).flatten:=by
     have W:(j.take l).length=l:=by rw[bf];omega
     refine⟨by rw[Bq λu X=>g4 u (bo X),bf,W];congr 1;omega,.inr ⟨b,q,l,cur,by rw[W],hcur,by rw[W];exact av _,by omega,?_,?_⟩⟩
     .have:l * sz<=c0 * sz:=Nat.mul_le_mul_right _ (by omega);omega
     .rw[W,<-Xg g4,<-ht,List.take_take,cq (Nat.mul_le_mul_right _ (by omega))]
    have W:(j.take l).length=l:=by rw[bf];omega
    obtain⟨p,w',hr,r1,H,r3⟩:=Z _ (j.take l).length (D.take l).flatten Y hv (by rw[W];exact F);have hob:(Value.slice (some ⟨b,q,none⟩) l l).ownBlock=some b:=rfl;have O:∀C,V.f k C↔b=C:=λC=>by rw[L C,hs];show some b=some C↔_;simp
    rw[hob] at H r3;refine Zeb (g0:=.orv k 0 (s+1) 0 l l) (g:=.osl V.n) hKV ha hd hr (Ij (r:=.vw (j.take l++new) e sz) hH J H.os H.tape H.output H.size (λC z M=>H.block C z (λe=>M ((O C).2 (cu e.symm)))) p (λb=>p.ownBlock=some b) (λC z=>⟨?_,lt r1 C z⟩) (Z6o r1 (by rw[bf,bf,g2]) (λi r u h1 h2=>?_) (λu X=>g4 u (bo X)) (λu X=>g5 u (bo X)) k1 k2 k3 k4 h5)) (λC z M=>H.block C z (λe=>M ((O C).2 (cu e.symm)))) ((Va.kp.drop V k).trans (av _) (.push (V.drop k) 0 p _)) (TRep.of_c (g:=.osl V.n) ⟨db _,by simp[Va.push,Va.drop]⟩) A
    .rcases r3 with h | ⟨b2,h,B⟩
     .exact .inl ((O C).2 (by rw[h] at z;exact cu z))
     .rw[h] at z;cases z;exact .inr B.1
    .rw[br] at h1 h2;split at h1
     .next hlt=>rw[dq hlt] at h2;exact g3 i r u h1 h2
     .cases h1
   .exact A.elim
  .exact A.elim
 .exact Mk (hH:=hH) (hKV:=hKV) (ha:=ha) (hd:=hd) k1 k2 k3 k4 h5 hap hg A
include hT hH ha hd in
theorem Nn {g:G}(hKV:∀t own' I' V' Y w',K t own' V'.n->Later own I V w own' I' V' w'->Za1 V w w' g->V.kp V'->ARep N I' V' Y t->next Y w'){x z:Operand}{ty e sz:Nat}{ag:Bool}{ze:List G}{fl:List (TypeId × Nat)}{st:Bool}{ik:Option IntKind}{kd:KD}(hl:look ty tb=some ⟨ag,ze,some (e,sz),fl,st,ik,kd⟩)(U:o.op=.call {callee:=.builtin .append,args:=#[x,z],argTypes:=#[ty,ty]})(hg:TRep I V g (a.eval x))(B:ev t own z λq=>Z2p own q sz λnew=>Zd0 t own V.n o.dst g new e sz K):o.wp P a w next Q:=by
 obtain⟨q,D,hq⟩:=B5 B ha hH;obtain⟨new,A,c,rs,hk,he,hA,Z,k2,k3,X,k5⟩:=Vi D hq hH;clear B D;obtain⟨p,E,W,h1,h2,h3,h4,H,h6⟩:=(hT _ _ hl).elem e sz rfl;have s:rs.flatten.length=new.length * sz:=by rw[Bq k3,Z]
 have C:∀u∈rs.flatten,u.oneCell'=true:=λu p=>by obtain⟨v,hv,p⟩:=List.mem_flatten.1 p;exact X v hv u p
 have M:∀(v:Value) (b:List (List G)) (j:List (List Value)),a.eval x=v->w.ownsRow 0 e sz v b.length j.flatten->b.length+new.length<=1073741824->∃h w',(execOp a.eval o).run P w=.ok (.value h) w'/\w'.ownsRow 0 e sz h (b.length+new.length) (j.flatten++rs.flatten)/\w.grownBy w' v.ownBlock/\(h.ownBlock=v.ownBlock\/∃g,h.ownBlock=some g/\w.heap.size<=g/\g < w'.heap.size):=λv b j O l f=>by
  obtain⟨h,w',hr,L,J,F⟩:=Z4 (P:=P) (w:=w) ty o.type e E W sz E.bytes p h1 h2 h3 rfl h4 H v b.length j.flatten l A new.length c rs.flatten s (λe=>hA e) k5 C (by unfold maxLen;omega) (by have:=Nat.mul_le_mul f h6;omega)
  exact⟨h,w',by simp only[execOp,U,resolve,invoke,builtin,Sem.run_bind,Sem.run_pure,Result.andThen_ok,List.map_toArray,List.map_cons,List.map_nil,O,he,hr],L,J,F⟩
 have T:∀(v:Value) (n:Nat) (xs:List Value),a.eval x=v->Ep w e sz v n xs->n+new.length<=1073741824->∃h w',(execOp a.eval o).run P w=.ok (.value h) w'/\Ep w' e sz h (n+new.length) (xs++rs.flatten)/\w.grownBy w' v.ownBlock/\(h.ownBlock=v.ownBlock\/∃g,h.ownBlock=some g/\w.heap.size<=g/\g < w'.heap.size):=λv n xs O l f=>by
  obtain⟨h,w',hr,L,J,F⟩:=Rj (P:=P) (w:=w) ty o.type e E W sz E.bytes p h1 h2 h3 rfl h4 H v n xs l A new.length c rs.flatten s (λe=>hA e) k5 C (by unfold maxLen;omega) (by have:=Nat.mul_le_mul f h6;omega)
  exact⟨h,w',by simp only[execOp,U,resolve,invoke,builtin,Sem.run_bind,Sem.run_pure,Result.andThen_ok,List.map_toArray,List.map_cons,List.map_nil,O,he,hr],L,J,F⟩
 exact Ys (hH:=hH) (hKV:=hKV) (ha:=ha) (hd:=hd) Z k2 k3 X H M T hg hk
include hT hH ha hd in
theorem Hr {g:G}(hKV:∀t own' I' V' T w',K t own' V'.n->Later own I V w own' I' V' w'->Za1 V w w' g->V.kp V'->ARep N I' V' T t->next T w'){x z:Operand}{ty p e:Nat}{U W:TI}(Z:look ty tb=some U)(O:U.elem=some (e,1))(B:look p tb=some W)(E:W.str=true)(X:o.op=.call {callee:=.builtin .append,args:=#[x,z],argTypes:=#[ty,p]})(hg:TRep I V g (a.eval x))(H:ev t own z λq=>Zbd q λs=>Z9a t own V.n o.dst g (s.data.toList.map gBy) e 1 K):o.wp P a w next Q:=by
 obtain⟨q,j,hq⟩:=B5 H ha hH;unfold Zbd at j;split at j
 .next s =>
  have he:=B0 hq;obtain⟨h,ie,Y,h1,h2,h3,h4,h5,h6⟩:=(hT _ _ Z).elem e 1 O;have F:=(hT _ _ B).str E;have D:(s.data.toList.map λb=>[Value.int .u8 b.toNat]).flatten=byteCells s:=by
   unfold byteCells
   induction s.data.toList with
   | nil=>rfl
   | cons c l ih=>rw[cv,ck,ih];rfl
  have M:(s.data.toList.map gBy).length=s.size:=by rw[ap,cp];rfl
  refine Mk (hH:=hH) (hKV:=hKV) (ha:=ha) (hd:=hd) (rs:=s.data.toList.map λb=>[Value.int .u8 b.toNat]) (by simp) (λi r u hr h=>?_) (λu h=>?_) (λu h x L=>?_) Nat.one_pos (λv A C L J f=>?_) hg j
  .rw[ay] at hr h;obtain⟨c,h7,rfl⟩:=bh.1 hr;rw[h7] at h;cases h;exact .cons (.v _) .nil
  .obtain⟨c,-,rfl⟩:=bk.1 h;rfl
  .obtain⟨c,-,rfl⟩:=bk.1 h;rw[bx.1 L];rfl
  .rw[M] at f⊢;obtain⟨v',w',hr,r1,r2,r3⟩:=Tv (P:=P) (w:=w) ty p o.type e ie Y h F h1 h2 h3 h4 v A.length C.flatten J s (by unfold maxLen;omega) (by
    have:=Nat.mul_le_mul f h6;omega)
   rw[D];exact⟨v',w',by simp only[execOp,X,resolve,invoke,builtin,Sem.run_bind,Sem.run_pure,Result.andThen_ok,List.map_toArray,List.map_cons,List.map_nil,L,he,hr],r1,r2,r3⟩
 .exact j.elim
include hT hK hL ha hd in
theorem Z01 {x z:Operand}{ty e sz:Nat}{A:Bool}{p:List G}{C:List (TypeId × Nat)}{s:Bool}{ik:Option IntKind}{kd:KD}(b:look ty tb=some ⟨A,p,some (e,sz),C,s,ik,kd⟩)(l:o.op=.call {callee:=.builtin .append,args:=#[x,z],argTypes:=#[ty,ty]})(h:ev t own x λg=>ev t own z λq=>Z2p own q sz λnew=>Zd0 t own V.n o.dst g new e sz K):o.wp P a w next Q:=by obtain⟨g,c,B⟩:=B5 h ha hL.has;exact Nn (g:=g) (hT:=hT) (hH:=hL.has) (ha:=ha) (hd:=hd) (λt own' I' V' D w' j b _ _ f=>hK _ _ _ _ _ _ j (hL.trans b) f) b l B c
include hT hK hL ha hd in
theorem Pm {x z:Operand}{ty b e:Nat}{C B:TI}(f:look ty tb=some C)(A:C.elem=some (e,1))(c:look b tb=some B)(l:B.str=true)(E:o.op=.call {callee:=.builtin .append,args:=#[x,z],argTypes:=#[ty,b]})(h:ev t own x λg=>ev t own z λq=>Zbd q λs=>Z9a t own V.n o.dst g (s.data.toList.map gBy) e 1 K):o.wp P a w next Q:=by obtain⟨g,j,F⟩:=B5 h ha hL.has;exact Hr (g:=g) (hT:=hT) (hH:=hL.has) (ha:=ha) (hd:=hd) (λt own' I' V' H w' D f _ _ p=>hK _ _ _ _ _ _ D (hL.trans f) p) f A c l E F j
end
section
variable {P:Program} {tb:List (Nat × TI)} {N n:Nat} {I I' I0:Imm} {V V' V0:Va} {a:Act} {t:Ts} {own own' own0:Os} {w w' w0:World} {g:G} {x y:Value} {d:Option Tmp}
variable {XL:List Nat} {S:World->Prop} {K:Ts->Os->Nat->Prop} {next:Act->World->Prop} {Q:Exit->Act->World->Prop} {o:Oper} {r:R}
theorem Fg {z:Option Operand}{d:Int}{K1:Int->Prop}(h:evO t own z d K1)(ha:ARep N I V a t)(hH:Has I V own w):∃n,K1 n/\(∀u,z=some u->a.eval u=.int .i64 n)/\(z=none->n=d):=by
 cases z with
 | none=>exact⟨d,h,λu e=>(by cases e),λ_=>rfl⟩
 | some u =>
  unfold evO at h;dsimp only at h;obtain⟨q,b,c⟩:=B5 h ha hH;clear h;split at b
  .next m=>exact⟨m,b,λu e=>(by cases e;exact B0 c),λe=>(by cases e)⟩
  .exact b.elim
theorem H8 {sl:Bool}{len cap:Nat}{lo c:Option Value}{l h:Int}(b:(∀u,lo=some u->u=.int .i64 l)/\(lo=none->l=0))(j:(∀u,c=some u->u=.int .i64 h)/\(c=none->h=len))(q:0<=l)(p:l<=h)(B:h<=len)(A:len<=cap)(w:World) :
  (Instr.sliceBounds sl len cap lo c none).run P w=.ok (l.toNat,h.toNat,cap) w:=by
 unfold Instr.sliceBounds;cases c with
 | none =>
  have e:=j.2 rfl;subst e;cases lo with
  | none =>
   have e:=b.2 rfl;subst e;simp
  | some u =>
   have e:=b.1 u rfl;subst e;have:l<=(len:Int):=p;simp[Instr.sliceBound,asIntOf,q,this]
 | some v =>
  have e:=j.1 v rfl;subst e;have f:0<=h:=by omega
  have s:h<=(cap:Int):=by omega
  cases lo with
  | none =>
   have e:=b.2 rfl;subst e;simp[Instr.sliceBound,asIntOf,f,s]
  | some u =>
   have e:=b.1 u rfl;subst e;have z:(h.toNat:Int)=h:=Int.toNat_of_nonneg f;simp[Instr.sliceBound,asIntOf,f,s,z,q,p]
theorem Gc {z:Option Operand}{m:Int}{d:Int}(c:∀u,z=some u->a.eval u=.int .i64 m)(b:z=none->m=d):(∀u,z.map a.eval=some u->u=.int .i64 m)/\(z.map a.eval=none->m=d):=by
 cases z with
 | none=>exact⟨λu e=>(by cases e),λ_=>b rfl⟩
 | some v=>exact⟨λu e=>(by cases e;exact c v rfl),λe=>by cases e⟩
theorem Gi (hH:Has I V own w){k e sz:Nat}{f:List (List G)}(j:look k own=some (.slc f e sz)):∃A c,V.s k=.slice A f.length c/\f.length<=c:=by
 obtain⟨-,rs,⟨-,l⟩,-⟩:=hH.each k _ j;rcases l with⟨h,h8⟩ | ⟨b,cap,cur,h,-,-,h9,-⟩
 .exact⟨none,0,by rw[h,h8],by omega⟩
 .exact⟨_,cap,h,h9⟩
theorem Z59 (hH:Has I V own w){k e sz:Nat}{f:List (List G)}(j:look k own=some (.vw f e sz)):∃A c,V.s k=.slice A f.length c/\f.length<=c:=by
 obtain⟨-,rs,⟨-,l⟩,-⟩:=hH.each k _ j;rcases l with⟨h,h8⟩ | ⟨b,q,cap,cur,h,-,h9,-⟩
 .exact⟨none,0,by rw[h,h8],by omega⟩
 .exact⟨_,cap,h,h9⟩
theorem Z96 (hT:∀t i,look t tb=some i->TIok P t i)(hH:Has I V own w)(ha:ARep N I V a t){ty:TypeId}{z:Operand}{lo T:Option Operand}(ho:o.op=.slice ty z lo T none)(W:(match look ty tb with
      | some ⟨_,_,none,_,false,_,.arr _ _ _⟩=>false
      | _=>true)=true) (h:match look ty tb with
      | some ⟨_,_,none,_,true,_,_⟩=>ev t own z λg=>match g with
       | .v (.string s)=>evO t own lo 0 λl=>evO t own T s.size λh=>Z0n l h s.size (K (put o.dst (.v (.string (s.extract l.toNat h.toNat))) t) own V.n)
       | _=>False
      | some ⟨_,_,some (_,sz),_,_,_,_⟩=>ev t own z λg=>slK own g sz (λK d=>evO t own lo d K) (λK d=>evO t own T d K) λg=>K (put o.dst g t) own V.n
      | some ⟨_,_,none,_,false,_,.arr m _ 1⟩=>ev t own z λg=>Z61 t own V.n ty m lo T g λg w n=>K (put o.dst g t) w n
      | some ⟨_,_,none,_,false,_,.arr m _ _⟩=>ev t own z λg=>Z4h t own m lo T g λg=>K (put o.dst g t) own V.n
      | _=>False):QOk S P I V own w a t o K:=by
 split at h
 .next M =>
  have Z:=(hT _ _ M).str rfl;obtain⟨g,h,U⟩:=B5 h ha hH;split at h
  .next s =>
   have e:=B0 U;obtain⟨l,h,B,C⟩:=Fg h ha hH;obtain⟨q,h,J,p⟩:=Fg h ha hH;obtain⟨⟨E,F,D⟩,h⟩:=h;refine⟨_,_,h,.of_v (.v _),λu _=>?_⟩;have j:=H8 (P:=P) (sl:=false) (len:=s.size) (cap:=s.size) (Gc B C) (Gc J p) E F D (av _) u;simp only[execOp,ho,Instr.sliceAt,Instr.slice,Sem.run_bind,run_underlying Z,Result.andThen_ok,e,Sem.run_pure,Option.map_none,Option.isSome_none,Bool.false_eq_true,if_false,j]
  .exact h.elim
 .next e sz fl st ik kd M =>
  obtain⟨hu,ie,zv,h1,h2,h3,h4,h5,h6⟩:=(hT _ _ M).elem _ _ rfl;have hsz:∀w,(sizeOf e).run P w=.ok sz w:=Br (by rw[h1];simp[h3]);obtain⟨g,h,U⟩:=B5 h ha hH;have run:∀{A:Option Addr} {len c:Nat} {l q:Int},a.eval z=.slice A len c->len<=c->(∀u,lo=some u->a.eval u=.int .i64 l)->(lo=none->l=0)->(∀u,T=some u->a.eval u=.int .i64 q)->(T=none->q=len)->0<=l->l<=q->q<=len->∀u,(execOp a.eval o).run P u=.ok (.value (Kv sz (.slice A len c) l.toNat q.toNat)) u:=λL H B C J p E F D u=>by have j:=H8 (P:=P) (sl:=true) (Gc B C) (Gc J p) E F D H u;simp only[execOp,ho,Instr.sliceAt,Instr.slice,Sem.run_bind,run_underlying hu,Result.andThen_ok,L,Sem.run_pure,Option.map_none,j,hsz,Kv]
  cases g with
  | sl b =>
   unfold slK at h;dsimp only at h;obtain⟨l,h,B,C⟩:=Fg h ha hH;obtain⟨q,h,J,p⟩:=Fg h ha hH;obtain⟨⟨E,F,D⟩,hr,h⟩:=h;have f:=(show VRep I (.sl b) (a.eval z) from U);obtain⟨A,c,L,H⟩:∃A c,a.eval z=.slice A b.length c/\b.length<=c:=by
    generalize a.eval z=X at f;cases f with
    | sl _ A c sz u H=>exact⟨A,c,rfl,H⟩
   rw[L] at f;exact⟨_,_,h,.of_v (V7 f hr (by omega) (by omega)),λu _=>run L H B C J p E F D u⟩
  | osl k =>
   unfold slK at h;dsimp only at h;split at h
   .next b e' sz' Y =>
    split at h
    .next j =>
     have j:=ax j;subst j;obtain⟨l,h,B,C⟩:=Fg h ha hH;obtain⟨q,h,J,p⟩:=Fg h ha hH;obtain⟨⟨E,F,D⟩,h⟩:=h;obtain⟨O,L⟩:=(show k < V.n/\a.eval z=V.s k from U);obtain⟨A,c,f,H⟩:=Gi hH Y;exact⟨_,_,h,.of_c (g:=.osv k sz l.toNat q.toNat) ⟨O,⟨by omega,by rw[f];show q.toNat<=b.length;omega⟩,rfl⟩,λu _=>by rw[f];exact run (L.trans f) H B C J p E F D u⟩
    .exact h.elim
   .next b e' sz' Y =>
    split at h
    .next j =>
     have j:=ax j;subst j;obtain⟨l,h,B,C⟩:=Fg h ha hH;obtain⟨q,h,J,p⟩:=Fg h ha hH;obtain⟨⟨E,F,D⟩,h⟩:=h;obtain⟨O,L⟩:=(show k < V.n/\a.eval z=V.s k from U);obtain⟨A,c,f,H⟩:=Z59 hH Y;exact⟨_,_,h,.of_c (g:=.osv k sz l.toNat q.toNat) ⟨O,⟨by omega,by rw[f];show q.toNat<=b.length;omega⟩,rfl⟩,λu _=>by rw[f];exact run (L.trans f) H B C J p E F D u⟩
    .exact h.elim
   .exact h.elim
  | _=>exact False.elim h
 .next M=>rw[M] at W;cases W
 .next M=>rw[M] at W;cases W
 .exact h.elim
theorem Z4a {len cap:Nat}{h:Int}(e:0<=h)(j:h<=len)(f:len<=cap)(w:World):(Instr.sliceBounds true len cap none (some (.int .i64 h)) (some (.int .i64 h))).run P w=.ok (0,h.toNat,h.toNat) w:=by
 unfold Instr.sliceBounds;have c:0<=h/\h<=(cap:Int):=⟨e,by omega⟩;have b:¬max h 0 < h:=by omega
 simp[Instr.sliceBound,asIntOf,c,b]
theorem Z4v (hT:∀t i,look t tb=some i->TIok P t i)(hH:Has I V own w)(ha:ARep N I V a t){ty:TypeId}{z B C:Operand}(F:o.op=.slice ty z none (some B) (some C))(h:match(none:Option Operand),some B,look ty tb with
      | none,some h,some ⟨_,_,some (_,sz),_,_,_,_⟩=>ev t own z λg=>ev t own h λp=>ev t own C λq=>match p,q with
       | .v (.int .i64 a),.v (.int .i64 b)=>Es (a=b) (Z7t own g sz a λg=>K (put o.dst g t) own V.n)
       | _,_=>False
      | _,_,_=>False):QOk S P I V own w a t o K:=by
 split at h
 .next Z _ _ e sz _ _ _ _ _ j H =>
  obtain rfl:=cu j;obtain⟨hu,ie,zv,X,h2,h3,h4,h5,h6⟩:=(hT _ _ H).elem _ _ rfl;have A:∀w,(sizeOf e).run P w=.ok sz w:=Br (by rw[X];simp[h3]);obtain⟨g,h,O⟩:=B5 h ha hH;obtain⟨p,h,T⟩:=B5 h ha hH;obtain⟨q,h,hq⟩:=B5 h ha hH;split at h
  .next x1 J =>
   have ep:=B0 T;have eq:=B0 hq;obtain⟨j,h⟩:=h;subst j;cases g with
   | osl k =>
    unfold Z7t at h;dsimp only at h;split at h
    .next D e' sz' E =>
     split at h
     .next c =>
      have c:=ax c;subst c;obtain⟨⟨r1,U,M⟩,⟨f,h⟩⟩:=h;obtain⟨l,Y⟩:=(show k < V.n/\a.eval z=V.s k from O);obtain⟨-,rs,⟨-,W⟩,-,-,-,-,L⟩:=hH.each k _ E;rcases W with⟨-,h8⟩ | ⟨b,q0,cap,cur,h8,-,h9,-⟩
      .exact dt (az h8) f
      .refine⟨_,_,h,.of_1 (g:=.orv k 0 sz 0 _ _) ⟨l,b,q0,(by cases sz with | zero=>omega | succ sz=>exact⟨_,cap,h8⟩),rfl⟩,λu _=>?_⟩;have c:=Z4a (P:=P) U M h9 u;simp only[execOp,F,Instr.sliceAt,Instr.slice,Sem.run_bind,run_underlying hu,Result.andThen_ok,Y,h8,Sem.run_pure,Option.map_some,Option.map_none,ep,eq,c,A];split
       .simp
       .simp[Cv]
     .exact h.elim
    .exact h.elim
   | _=>exact False.elim h
  .exact h.elim
 .exact h.elim
theorem Pw:∀{cs:List G} {b:List Value},Bw O3 cs=true->PW (CRep I V) cs b->cs=b.map .v/\∀u∈b,u.oneCell'=true
 | [],b,_,h=>by rw[h.of_nil];exact⟨rfl,λu c=>by cases c⟩
 | g::cs,b,hv,h=>by
  obtain⟨x,s,rfl,A,l⟩:=h.uncons;have f:=Ao hv g (by simp);have q:Bw O3 cs=true:=by unfold Bw at hv;rw[f] at hv;exact hv
  obtain⟨j,p⟩:=Pw q l;cases g with
  | v z =>
   cases(show VRep I (.v z) x from A);exact⟨by rw[j];rfl,λu c=>(bq.1 c).elim (λe=>by rw[e];exact f) (p u)⟩
  | _=>cases f
theorem R4 {α:Type}(l:List α):(l.map λu=>[u]).flatten=l:=by
 induction l with
 | nil=>rfl
 | cons x l ih=>rw[cv,ck,ih];rfl
theorem Yo {α:Type}{cs:List α}{k n j:Nat}{v:α}(h:((cs.drop k).take n)[j]?=some v):cs[k+j]?=some v:=by
 rw[br] at h;split at h
 .rwa [ce] at h
 .cases h
theorem Za6 {m:Nat}{cs:List G}{A:Prop}(h:Zep m cs A):cs.length=m/\Bw O3 cs=true/\A:=by
 unfold Zep at h;split at h
 .split at h
  .next c b=>exact⟨ax c,b,h⟩
  .exact h.elim
 .exact⟨h.fit.1,Fs h.fit.2,h.next⟩
theorem Z3u (hT:∀t i,look t tb=some i->TIok P t i)(hH:Has I V own w)(ha:ARep N I V a t)(hd:∀i,o.dst=some i->i < N)(hK:NxtB N own I V w K next){ty m e:TypeId}{z:Operand}{lo X:Option Operand}{ag:Bool}{ze:List G}{fl:List (TypeId × Nat)}{ik:Option IntKind}(hl:look ty tb=some ⟨ag,ze,none,fl,false,ik,.arr m e 1⟩)(ho:o.op=.slice ty z lo X none)
  (h:ev t own z λg=>Z61 t own V.n ty m lo X g λg w n=>K (put o.dst g t) w n):o.wp P a w next Q:=by
 obtain⟨L,Y⟩:=(hT _ _ hl).kd;have Y:∀w,(sizeOf e).run P w=.ok 1 w:=Br Y;obtain⟨g,h,hg⟩:=B5 h ha hH;have run:∀{b off:Nat} {l q:Int},a.eval z=.pointer (some ⟨b,off,none⟩)->(∀u,lo=some u->a.eval u=.int .i64 l)->(lo=none->l=0)->(∀u,X=some u->a.eval u=.int .i64 q)->(X=none->q=m)->0<=l->l<=q->q<=m->∀u,(execOp a.eval o).run P u=.ok (.value (Kv 1 (.slice (some ⟨b,off,none⟩) m m) l.toNat q.toNat)) u:=λ{b off l q} D l1 l2 W Z r1 r2 T u=>by
  have B:=H8 (P:=P) (sl:=false) (len:=m) (cap:=m) (Gc l1 l2) (Gc W Z) r1 r2 T (av _) u;simp only[execOp,ho,Instr.sliceAt,Instr.sureAddr,Sem.run_bind,run_underlying L,Result.andThen_ok,D,Sem.run_pure,Option.map_none,B,Y,Kv]
  congr 3
  by_cases p:m=l.toNat
  .rw[dq p,dq p]
  .rw[dp p,dp p];rfl
 have arv:∀{j:Nat} {K1:G->Prop} {b:Nat} {V2:Va},Zdr t own m lo X j K1->a.eval z=.pointer (some ⟨b,0,none⟩)->j < V2.n->V2.s j=.slice (some ⟨b,0,none⟩) m m->∃g v,K1 g/\CRep I V2 g v/\(execOp a.eval o).run P w=.ok (.value v) w:=λ{j K1 b V2} F D hj hs=>by
  unfold Zdr at F;split at F
  .have hr:=run (l:=0) (q:=m) D (λu e=>by cases e) (λ_=>rfl) (λu e=>by cases e) (λ_=>rfl) (by omega) (by omega) (by omega) w;refine⟨_,V2.s j,F,⟨hj,rfl⟩,hr.trans ?_⟩;rw[hs]
   congr 2
   unfold Kv;simp only[Int.toNat_natCast,Int.toNat_zero,Nat.zero_mul,Nat.sub_zero,Option.map_some];by_cases p:m=0
   .rw[dq p]
   .rw[dp p];rfl
  .obtain⟨l,F,l1,l2⟩:=Fg F ha hH;obtain⟨q,F,W,Z⟩:=Fg F ha hH;obtain⟨⟨r1,r2,T⟩,F⟩:=F;exact⟨_,_,F,⟨hj,⟨by omega,by rw[hs];show q.toNat<=m;omega⟩,rfl⟩,by rw[hs];exact run D l1 l2 W Z r1 r2 T w⟩
 unfold Z61 at h;cases g with
 | ptr k off =>
  obtain⟨U,D⟩:=Cb hg;dsimp only at h;split at h
  .next cs ty' hr =>
   obtain⟨O,h1,h2,h3⟩:=N9 hH hr;have hf:=(hH.each k _ hr).1;have frz:∀{off:Nat},(match(generalizing:=false) lo,X with
    | none,none=>Es (off+m<=cs.length/\∀g∈cs,O3 g=true) (K (put o.dst (.sl (((cs.drop off).take m).map λg=>[g])) t) ((k,.gone)::own) V.n)
    | none,some x=>evO t own (some x) m λh=>Z0n 0 h m (K (put o.dst (.orv k 0 0 off h.toNat m) t) own V.n)
    | _,_=>False)->a.eval z=.pointer (some ⟨V.b k,off,none⟩)->o.wp P a w next Q:=λ{off} h D=>by
    split at h
    case h_2 =>
     obtain⟨q,h,W,Z⟩:=Fg h ha hH;obtain⟨⟨r1,r2,T⟩,h⟩:=h;have hr:=run (l:=0) (q:=q) D (λu e=>by cases e) (λ_=>rfl) W Z (by omega) r2 T w;refine Ry (y:=.slice (some ⟨V.b k,0 * 0+off,none⟩) q.toNat m) hK ha hd (hr.trans ?_) (.refl hH) (ab _ _) (.refl _) (.of_1 (g:=.orv k 0 0 off q.toNat m) ⟨U,V.b k,0,⟨rfl,rfl⟩,by simp⟩) h
     congr 2
     unfold Kv;simp only[Int.toNat_zero,Nat.zero_mul,Nat.sub_zero,Option.map_some,Nat.zero_add];by_cases p:m=0
     .rw[dq p]
     .rw[dp p];rfl
    case h_3=>exact h.elim
    obtain⟨⟨E,hv⟩,h⟩:=h;obtain⟨e1,h4⟩:=Pw (Fs hv) h2;have C:cs.length=O.length:=by rw[e1];simp
    have hno:=(hH.foot k _ (V.b k) hr ((hf _).2 rfl)).2;let I':Imm:=λb o=>if b=V.b k then O[o]? else I b o;have hle:I.le I':=λb o x H=>by show(if b=V.b k then _ else I b o)=_;rw[dp (λe=>by rw[e,hno o] at H;cases H)];exact H
    have hmem:Mem I' w:=λb o x H=>by
     change (if b=V.b k then _ else I b o)=_ at H
     split at H
     .next e=>rw[e,h3];exact H
     .exact hH.mem b o x H
    have J:Later own I V w ((k,.gone)::own) I' (V.drop k) w:=Hf hH hr hle hmem (λb o B=>by show(if b=V.b k then _ else I b o)=_;rw[dp (λe=>B ((hf b).2 e))]) (λb=>by simp[Va.drop])
    have hl2:(((cs.drop off).take m).map λg=>[g]).length=m:=by simp;omega
    have hvr:VRep I' (.sl (((cs.drop off).take m).map λg=>[g])) (.slice (some ⟨V.b k,off,none⟩) m m):=by
     conv=>rhs;rw[<-hl2]
     refine .sl _ (some ⟨V.b k,off,none⟩) _ 1 (λi _=>O.getD (off+i) undef) (av _) (λe=>by cases e) (λr hr=>?_) (λi r hr=>⟨V.b k,off,rfl,λj hj=>?_⟩) λi r j g hr hg=>?_
     .obtain⟨g,-,rfl⟩:=bk.1 hr;rfl
     .have X:i < m:=by have:=(ar.1 hr).1;omega
      have e0:off+i * 1+j=off+i:=by omega
      rw[e0];show(if V.b k=V.b k then O[off+i]? else _)=_;rw[dq rfl];have:off+i < O.length:=by omega
      simp[this]
     .rw[ay] at hr;obtain⟨g0,h5,rfl⟩:=bh.1 hr;have h5:=Yo h5;rw[e1,ay] at h5;obtain⟨u,h6,rfl⟩:=bh.1 h5;cases j with
      | zero =>
       simp at hg;subst hg;simp only[List.getD,h6,Option.getD_some];exact .v u
      | succ j=>simp at hg
    refine Ry (y:=.slice (some ⟨V.b k,off,none⟩) m m) hK ha hd ?_ J (ab _ _) (.drop _ _) (.of_v hvr) h;have hr:=run (l:=0) (q:=m) D (λu e=>by cases e) (λ_=>rfl) (λu e=>by cases e) (λ_=>rfl) (by omega) (by omega) (by omega) w;refine hr.trans ?_
    congr 2
    unfold Kv;simp only[Int.toNat_natCast,Int.toNat_zero,Nat.zero_mul,Nat.sub_zero,Option.map_some];by_cases p:m=0
    .rw[dq p]
    .rw[dp p];rfl
   cases off with
   | succ off=>exact frz (off:=off+1) h D
   | zero =>
    cases hb0:Nat.beq ty' ty with
    | false=>rw[hb0] at h;exact frz (off:=0) h D
    | true =>
    cases hm0:Nat.ble m 1048576 with
    | false=>rw[hb0,hm0] at h;exact frz (off:=0) h D
    | true =>
    rw[hb0,hm0] at h;have p:=hm0;have p:=dn p;obtain⟨B,hv,h⟩:=Za6 h;obtain⟨e1,h4⟩:=Pw hv h2;have C:O.length=m:=by rw[<-B,e1];simp
    have J:=Ij (w':=w) (r:=.slc (cs.map λg=>[g]) ty' 1) hH hr rfl rfl rfl (av _) (λ_ _ _=>rfl) (.slice (some ⟨V.b k,0,none⟩) m m) (·=V.b k) (λb e=>⟨.inl ((hf b).2 e),by rw[e];exact(bz.1 h1).1⟩) ⟨λb=>by simp[Va.push,Va.drop,Value.ownBlock,eq_comm],O.map λu=>[u],⟨by rw[R4];simp[C,B],.inr ⟨V.b k,m,O.toArray,by simp[Va.push,Va.drop,B],aw _,h1,by simp[B],by unfold maxLen;omega,by simp[C],by rw[R4,ap,B,Nat.mul_one];exact bc (Nat.le_of_eq C)⟩⟩,by simp[C,B],λi r u hr L=>?_,λu L=>by obtain⟨x,-,rfl⟩:=bk.1 L;rfl,λu L x H=>by obtain⟨y,hy,rfl⟩:=bk.1 L;rw[bx.1 H];exact h4 y hy,Nat.one_pos⟩
    .have hk2:look k ((V.n,R.slc (cs.map λg=>[g]) ty' 1)::(k,.gone)::own)=some .gone:=by
      rw[Af,dp (by omega),Af,dq rfl]
     have M:k≠V.n:=by omega
     have hl2:=J.trans (Dj (w':=w) (r:=.lnk V.n) J.has hk2 rfl rfl rfl rfl (λ_ _=>rfl) ⟨λb=>by simp[Va.push,Va.drop,M],by show V.n < V.n+1;omega,m,by simp[Va.push,Va.drop,M]⟩);obtain⟨g',v,k1,k2,k3⟩:=arv (V2:=(V.drop k).push 0 (.slice (some ⟨V.b k,0,none⟩) m m) (·=V.b k)) h D (by show V.n < V.n+1;omega) (by simp[Va.push,Va.drop]);exact Ry (y:=v) hK ha hd k3 hl2 (ab _ _) (λj hj b B=>by
      have hjn:j≠V.n:=by omega
      have B:(if j=V.n then(·=V.b k) else(if j=k then λ_=>False else V.f j)) b:=B;rw[dp hjn] at B;split at B
      .exact B.elim
      .exact B) (.of_c k2) k1
    .rw[ay] at hr L;obtain⟨g0,h5,rfl⟩:=bh.1 hr;obtain⟨x,h6,rfl⟩:=bh.1 L;rw[e1,ay,h6] at h5;cases h5;exact .cons (.v x) .nil
  .next j hr =>
   obtain⟨-,hjn,mm,hsj⟩:=hH.each k _ hr;split at h
   .next rows e' hrj =>
    obtain⟨E,h⟩:=h;obtain⟨A,c,hv,-⟩:=Gi hH hrj;rw[hsj] at hv;injection hv with e1 e2 e3;obtain⟨g',v,k1,k2,k3⟩:=arv (V2:=V) h D hjn (by rw[hsj,e2,E]);exact Ry (y:=v) hK ha hd k3 (.refl hH) (ab _ _) (.refl _) (.of_c k2) k1
   .exact h.elim
  .exact h.elim
 | oel k i sz off =>
  obtain⟨U,b,q0,n,c,hs,D⟩:=L9 hg;dsimp only at h;split at h
  .next rows e' sz' hr hlo =>
   obtain rfl:=Z3f hH hr hs;rw[co] at D;split at h
   .next B =>
    obtain⟨q,h,W,Z⟩:=Fg h ha hH;obtain⟨⟨r1,r2,T⟩,⟨⟨E,hsz0⟩,h⟩⟩:=h;have hr:=run (l:=0) (q:=q) D (λu e=>by cases e) (λ_=>rfl) W Z (by omega) r2 T w;refine Ry (y:=.slice (some ⟨b,i * sz+off,none⟩) q.toNat m) hK ha hd (hr.trans ?_) (.refl hH) (ab _ _) (.refl _) (.of_1 (g:=.orv k i sz off q.toNat m) ⟨U,b,0,by cases sz with | zero=>omega | succ sz=>exact⟨n,c,hs⟩,by simp⟩) h
    congr 2
    unfold Kv;simp only[Int.toNat_zero,Nat.zero_mul,Nat.sub_zero,Option.map_some];by_cases p:m=0
    .rw[dq p]
    .rw[dp p];rfl
   .exact h.elim
  .exact h.elim
 | _=>exact h.elim
theorem Z3i (hT:∀t i,look t tb=some i->TIok P t i)(hH:Has I V own w)(ha:ARep N I V a t)(hd:∀i,o.dst=some i->i < N)(hK:NxtB N own I V w K next){ty m e sz:TypeId}{z:Operand}{lo j:Option Operand}{E:Bool}{J:List G}{T:List (TypeId × Nat)}{ik:Option IntKind}(B:look ty tb=some ⟨E,J,none,T,false,ik,.arr m e sz⟩)(s:o.op=.slice ty z lo j none)
  (h:ev t own z λg=>Z4h t own m lo j g λg=>K (put o.dst g t) own V.n):o.wp P a w next Q:=by
 obtain⟨O,c⟩:=(hT _ _ B).kd;have c:∀w,(sizeOf e).run P w=.ok sz w:=Br c;obtain⟨g,h,D⟩:=B5 h ha hH;unfold Z4h at h;cases g with
 | ptr k off =>
  cases lo with
  | some y=>exact h.elim
  | none =>
   cases j with
   | none=>exact h.elim
   | some x =>
    obtain⟨f,L⟩:=Cb D;dsimp only at h;split at h
    .next cs F hr =>
     obtain⟨q,h,M,A⟩:=Fg h ha hH;obtain⟨⟨U,H,C⟩,h⟩:=h;refine Ry (y:=.slice (some ⟨V.b k,0 * 0+off,none⟩) q.toNat m) hK ha hd ?_ (.refl hH) (ab _ _) (.refl _) (.of_1 (g:=.orv k 0 0 off q.toNat m) ⟨f,V.b k,0,⟨rfl,rfl⟩,by simp⟩) h;have p:=H8 (P:=P) (sl:=false) (len:=m) (cap:=m) (Gc (a:=a) (z:=none) (m:=0) (d:=0) (λu e=>by cases e) (λ_=>rfl)) (Gc M A) (by omega) H C (av _) w;rw[Option.map_none] at p;simp only[execOp,s,Instr.sliceAt,Instr.sureAddr,Sem.run_bind,run_underlying O,Result.andThen_ok,L,Sem.run_pure,Option.map_none,c,p]
     congr 3
     by_cases l:m=0
     .simp[l]
     .simp[l,Addr.add]
    .exact h.elim
 | _=>exact h.elim
theorem TIok.u8 (hT:∀t i,look t tb=some i->TIok P t i){e:TypeId}(h:Zcu tb e=true):P.underlying e=some (.int .u8):=by
 unfold Zcu at h;split at h
 .next b=>exact(hT _ _ b).ik _ rfl
 .cases h
theorem Z4y {h:List UInt8}{b:List (List G)}{A:Option Addr}{c:Nat}(O:b=h.map gBy)(hr:∃rs:List (List Value),rs.length=b.length/\(∀(i:Nat) r u,b[i]?=some r->rs[i]?=some u->PW (VRep I) r u)/\(∀u∈rs,u.length=1)/\∀a,A=some a->∀(m:Nat) x,rs.flatten[m]?=some x->w.cell? (a.add m)=some x)(H:A=none->b=[]){src dst e:TypeId}(p:P.underlying src=some (.slice e))(B:P.underlying e=some (.int .u8))(hd:P.underlying dst=some .string) :
  (convert src dst (.slice A b.length c)).run P w=.ok (.string ⟨h.toArray⟩) w:=by
 subst O;cases A with
 | none =>
  have D:h=[]:=by simpa using H rfl
  subst D;rw[run_convert_bytes_string w src dst e none _ c p B hd];simp[Conv.bytesToString];rfl
 | some ad =>
  obtain⟨rs,U,L,C,M⟩:=hr;have:=run_convert_bytes_back (P:=P) w src dst e ad c h p B hd λj E=>by
   have l:j < (h.map gBy).length:=by simpa using E
   have f:j < rs.length:=by omega
   have J:=L j _ _ (aq l) (aq f);have T:=C rs[j] (bw f);have F:=Co C (aq f) (aq (by omega:0 < rs[j].length));have s:=M ad rfl _ _ F;rw[Nat.mul_one,Nat.add_zero] at s;rw[s];have q:=J.2 0 (.v (.int .u8 (h[j].toNat:Int))) rs[j][0] (by simp[gBy]) (aq _);generalize rs[j][0]=z at q;cases q;rfl
  rw[ap];exact this
theorem Has.below (h:Has I V own w)(c:Below w.heap.size w w'):Has I V own w' :=
 (N3 h (h.mem.keep λb _ _ e=>c.block b (h.mem.lt e)) (.refl _) (λ_ _ _=>rfl) c).has
theorem Zbn (hT:∀t i,look t tb=some i->TIok P t i)(hS:∀u,S u->Agree V XL w u)(hH:Has I V own w)(ha:ARep N I V a t){src dst:TypeId}{z:Operand}(ho:o.op=.convert src dst z){p q:TI}(hp:look src tb=some p)(hq:look dst tb=some q)(h:ev t own z λg=>cvK own g p q (cvU tb p XL) λg=>K (put o.dst g t) own V.n):QOk S P I V own w a t o K:=by
 obtain⟨g,h,O⟩:=B5 h ha hH;have j:∀{v u},(convert src dst (a.eval z)).run P u=.ok v u->(execOp a.eval o).run P u=.ok (.value v) u:=λhr=>by simp only[execOp,ho,Sem.run_bind,hr,Result.andThen_ok,Sem.run_pure]
 have F:=hT _ _ hp;have D:=hT _ _ hq;obtain⟨pag,pz,pe,pf,ps,pk,pd⟩:=p;obtain⟨qag,qz,qe,qf,L,qk,qd⟩:=q;unfold cvK cvU at h;dsimp only at h;cases pe with
 | some es =>
  obtain⟨e,sz⟩:=es;cases L with
  | false=>exact False.elim h
  | true =>
   cases XL with
   | cons k XL=>exact False.elim h
   | nil =>
   dsimp only at h;cases hu:Zcu tb e with
   | false=>rw[hu] at h;exact h.elim
   | true =>
    rw[hu] at h;dsimp only at h;have X:=TIok.u8 hT hu;have M:=D.str rfl;have Z:=(F.elem e sz rfl).1;have B:∀{f:List (List G)} {K1:List UInt8->Prop},EvBytes f K1->Z2p own g 1 (λr=>r=f)->∃C,K1 C/\∀u,S u->(convert src dst (a.eval z)).run P u=.ok (.string ⟨C.toArray⟩) u:=λ{f K1} ⟨C,e1,l⟩ hn=>by refine⟨C,l,λu E=>?_⟩;obtain⟨new,A,c,rs,e2,e3,T,H,k3,k4,-,k5⟩:=Vi hn (O:TRep I V g (a.eval z)) hH;subst e2;rw[e3];refine Z4y e1 ⟨rs,H,k3,k4,λa ha m x hx=>?_⟩ (λe=>az (T e).1) Z X M;have J:=k5 a ha m x hx;have Y:=World.block_lt_of_cell? w _ J;rw[ac (w:=w) (w':=u) (hS u E _ Y (λk l=>by simp at l))];exact J
    have W:∀{f:List (List G)} {K1:List UInt8->Prop},EvBytes f K1->∀r∈f,r.length=1/\r.all G.one=true:=fun⟨C,e1,_⟩ r hr=>by subst e1;obtain⟨b,-,rfl⟩:=bk.1 hr;exact⟨rfl,rfl⟩
    cases g with
    | nl =>
     obtain⟨C,l,hr⟩:=B h rfl;exact⟨_,_,l,.of_v (.v _),λu E=>j (hr u E)⟩
    | sl f =>
     obtain⟨C,l,hr⟩:=B h ⟨W h,rfl⟩;exact⟨_,_,l,.of_v (.v _),λu E=>j (hr u E)⟩
    | osl k =>
     unfold byK at h;dsimp only at h;split at h
     .next f e' U =>
      obtain⟨C,l,hr⟩:=B h (by unfold Z2p;dsimp only;rw[U]);exact⟨_,_,l,.of_v (.v _),λu E=>j (hr u E)⟩
     .exact h.elim
    | _=>exact False.elim h
 | none =>
  cases ps with
  | true =>
   cases L with
   | false=>exact False.elim h
   | true =>
    dsimp only at h;split at h
    .next s =>
     have e:=B0 O;exact⟨_,_,h,.of_v (.v _),λu _=>j (by rw[e];simp[convert,run_underlying (F.str rfl),run_underlying (D.str rfl)])⟩
    .exact h.elim
  | false =>
   cases pk with
   | none=>exact False.elim h
   | some T =>
    cases L with
    | true=>exact False.elim h
    | false =>
     cases qk with
     | none=>exact False.elim h
     | some H =>
      dsimp only at h;split at h
      .next k n =>
       have e:=B0 O;have J:∀u,(convert src dst (.int k n)).run P u=.ok (.int H (H.wrap n)) u:=λu=>by simp[convert,run_underlying (F.ik T rfl),run_underlying (D.ik H rfl),Conv.intToInt]
       cases H with
       | i64 =>
        obtain⟨hr,l⟩:=h;exact⟨_,_,l,.of_v (.v _),λu _=>j (by rw[e,J,IntWalk.i64_in _ hr])⟩
       | u8=>exact⟨_,_,h,.of_v (.v _),λu _=>j (by rw[e,J,IntKind.wrap_u8])⟩
       | u64=>exact⟨_,_,h,.of_v (.v _),λu _=>j (by rw[e,J])⟩
       | _=>exact False.elim h
      .exact h.elim
theorem Z4n (hH:Has I V own w)(ha:ARep N I V a t)(hd:∀i,o.dst=some i->i < N)(hK:NxtB N own I V w K next){src dst e:TypeId}{z:Operand}(O:o.op=.convert src dst z)(M:P.underlying src=some .string)(D:P.underlying dst=some (.slice e))(Y:P.underlying e=some (.int .u8))(h:ev t own z λg=>match g with
  | .v (.string s)=>K (put o.dst (.sl (s.data.toList.map gBy)) t) own V.n
  | _=>False):o.wp P a w next Q:=by
 obtain⟨g,h,B⟩:=B5 h ha hH;split at h
 .next s =>
  have W:=B0 B;have hr:=run_bytes_of_string (P:=P) w src dst e s M D Y;obtain⟨w',p⟩:∃w',w'=(w.drew.alloc (.cells (bytesRow s (grownCap w s.size 0 e)) e ((bytesRow s (grownCap w s.size 0 e)).size,(bytesRow s (grownCap w s.size 0 e)).size+1))):=⟨_,rfl⟩;rw[<-p] at hr;have F:Below w.heap.size w w':=by rw[p];exact((ab _ _).drew).alloc (av _) _
  have T:w'.heap[w.heap.size]?=some (.cells (bytesRow s (grownCap w s.size 0 e)) e ((bytesRow s (grownCap w s.size 0 e)).size,(bytesRow s (grownCap w s.size 0 e)).size+1)):=by rw[p];exact heap_alloc_new w.drew _
  let I':Imm:=λb o=>if b=w.heap.size then(bytesRow s (grownCap w s.size 0 e))[o]? else I b o;have H:I.le I':=λb o x c=>by show(if b=w.heap.size then _ else I b o)=_;rw[dp (λL=>by have:=hH.mem.lt c;omega)];exact c
  have X:Mem I' w':=λb o x c=>by
   change (if b=w.heap.size then _ else I b o)=_ at c
   split at c
   .next L=>subst L;rw[cell_of_row w' _ o _ e _ T];exact c
   .exact(hH.mem.keep (w':=w') λb o x c=>F.block b (hH.mem.lt c)) b o x c
  have U:=N3 hH X H (λb o q=>dp (Nat.ne_of_lt q)) F;have A:s.size<=grownCap w s.size 0 e:=grownCap_ge w s.size 0 e;refine Ry (g:=.sl (s.data.toList.map gBy)) (y:=.slice (some ⟨w.heap.size,0,none⟩) s.size (grownCap w s.size 0 e)) hK ha hd (by simp only[execOp,O,Sem.run_bind,W,hr,Result.andThen_ok,Sem.run_pure]) U F (.refl _) (.of_v ?_) h;have l:∀(i:Nat) (b:UInt8),s.data.toList[i]?=some b->(bytesRow s (grownCap w s.size 0 e))[i]?=some (Value.int .u8 (b.toNat:Int)):=λi b J=>by
   have q:=(ar.1 J).1;unfold bytesRow;rw[Array.getElem?_append_left (by simpa using q)];have E:s.data[i]?=some b:=by simpa using J
   simp[E]
  have f:∀(i:Nat) r,(s.data.toList.map gBy)[i]?=some r->∃b,s.data.toList[i]?=some b/\r=gBy b:=λi r hr=>by rw[ay] at hr;obtain⟨b,C,E⟩:=bh.1 hr;exact⟨b,C,E.symm⟩
  have key:=VRep.sl (I:=I') (s.data.toList.map gBy) (some ⟨w.heap.size,0,none⟩) (grownCap w s.size 0 e) 1 (λi _=>((bytesRow s (grownCap w s.size 0 e))[i]?).getD undef) (by simpa using A) (λe=>by cases e) (λr hr=>by obtain⟨b,-,rfl⟩:=bk.1 hr;rfl) (λi r hr=>⟨_,_,rfl,λj Z=>?_⟩) (λi r j g hr B=>?_)
  .simpa using key
  .obtain⟨b,C,-⟩:=f i r hr;obtain rfl:j=0:=by omega
   show(if w.heap.size=w.heap.size then _ else _)=_;rw[dq rfl,co,Nat.mul_one,Nat.add_zero,l i b C];rfl
  .obtain⟨b,C,rfl⟩:=f i r hr;cases j with
   | succ j=>simp[gBy] at B
   | zero =>
    simp[gBy] at B;subst B;rw[l i b C];exact .v _
 .exact h.elim
theorem Kj:∀{rs:List (List Value)} (_:∀u∈rs,u.length=1) (k:Nat),(rs.take k).flatten=rs.flatten.take k/\(rs.drop k).flatten=rs.flatten.drop k
 | [],_,k=>by simp
 | u::rs,h,0=>by simp
 | u::rs,h,k+1=>by have b:=h u (by simp);obtain⟨x,rfl⟩:∃x,u=[x]:=List.length_eq_one_iff.1 b;have c:=Kj (rs:=rs) (λu b=>h u (by simp[b])) k;simp[c.1,c.2]
theorem Qy (hH:Has I V own w){k e lo d:Nat}{l new:List (List G)}(E:look k own=some (.slc l e 1))(hlo:lo+d<=l.length){A:Option Addr}{c:Nat}{rs:List (List Value)}(hA:A=none->new.length=0/\c=0)(k1:rs.length=new.length)(k2:∀(i:Nat) r u,new[i]?=some r->rs[i]?=some u->PW (VRep I) r u)(U:∀u∈rs,u.length=1)(k4:∀u∈rs,∀x∈u,x.oneCell'=true)(k5:∀a,A=some a->∀(j:Nat) u,rs.flatten[j]?=some u->w.cell? (a.add j)=some u)
  {T sT O:TypeId} (W:P.underlying T=some (.slice O)) (hs:(P.info? O).map (·.size)=some 1) (ty:TypeId) :
  ∃w',(Builtin.copy_ #[T,sT] ty #[Kv 1 (V.s k) lo (lo+d),.slice A new.length c]).run P w=.ok (.int .i64 (min new.length d:Nat)) w'/\Later own I V w ((k,.slc (l.take lo++new.take (min new.length d)++l.drop (lo+min new.length d)) e 1)::own) I V w':=by
 obtain⟨hf,p,ho,g2,g3,D,g5,g6⟩:=hH.each k _ E;obtain⟨m,J⟩:∃m,m=min new.length d:=⟨_,rfl⟩;have hmd:m<=d:=by rw[J];exact Nat.min_le_right _ _
 have hmn:m<=new.length:=by rw[J];exact Nat.min_le_left _ _
 rw[<-J];obtain⟨A0,c0,B,hc0⟩:=Gi hH E;by_cases h0:m=0
 .subst h0;refine⟨w,?_,Dj hH E rfl rfl rfl rfl (λ_ _=>rfl) ?_⟩
  .rw[B];unfold Kv;dsimp only;have:=run_copy_none (P:=P) w T sT ty O (if c0=lo then A0 else A0.map (·.add (lo * 1))) A (lo+d - lo) (c0 - lo) new.length c W hs (by rw[Nat.add_sub_cancel_left];exact J.symm);exact this
  .simpa using hH.each k _ E
 .rcases ho.2 with⟨F,h8⟩ | ⟨b,cap,cur,F,-,hg,hnc,hcm,hcs,ht⟩
  .omega
  .rw[F] at B;injection B with Z e2 e3;subst Z e3;cases A with
   | none=>have:=hA rfl;omega
   | some ad =>
    have hne:¬cap=lo:=by omega
    obtain⟨cs,z⟩:∃cs,cs=(rs.take m).flatten:=⟨_,rfl⟩;have L:∀u∈rs.take m,u.length=1:=λu W=>U u (bo W);have X:cs.length=m:=by rw[z,Bq L];simp;omega
    have M:∀j x,cs[j]?=some x->rs.flatten[j]?=some x:=λj x hx=>by rw[z] at hx;obtain⟨i,q,u,rfl,hq,f,hx'⟩:=Pu L hx;exact Co U (by rw[br] at f;(split at f<;>first | exact f | cases f)) hx'
    have h1:∀v∈cs,v.oneCell'=true:=λv B=>by rw[z] at B;obtain⟨u,f,B⟩:=List.mem_flatten.1 B;exact k4 u (bo f) v B
    have C:=run_copy_row (P:=P) w T sT ty O b (0+lo * 1) (lo+d - lo) (cap - lo) ad new.length c cur e cs W hs hg (by rw[X,J,Nat.add_sub_cancel_left]) (λj v B=>k5 ad rfl j v (M j v B)) (by rw[X];omega) h1;rw[X] at C;have hrl:∀u∈p,u.length=1:=D;refine⟨w.setRow b (cur.toList.take (0+lo * 1)++cs++cur.toList.drop (0+lo * 1+m)).toArray,?_,Dj (w':=w.setRow b _) hH E rfl rfl rfl (by simp[World.setRow]) (λb' hb'=>setRow_other w _ b' _ (λe=>hb' ((hf b').2 (by rw[F,e];rfl)))) ⟨hf,p.take lo++rs.take m++p.drop (lo+m),⟨?_,.inr ⟨b,cap,_,(by rw[F];congr 1;simp;first | done | omega),aw _,setRow_heap w b cur _ e _ hg,by simp;omega,hcm,by simp;omega,?_⟩⟩,by simp;omega,λi r u hr f=>?_,λu f=>?_,λu f=>?_,g6⟩⟩
    .rw[F];unfold Kv;dsimp only;rw[dp hne];simp only[Option.map_some,Cv];exact C
    .have:∀u∈p.take lo++rs.take m++p.drop (lo+m),u.length=1:=λu f=>by
      rcases cd.1 f with h | h
      .rcases cd.1 h with h | h
       .exact D u (bo h)
       .exact U u (bo h)
      .exact D u (cj h)
     rw[Bq this];simp;omega
    .have Y:cur.toList.take (l.length * 1)=p.flatten:=ht;have hcl:cur.toList.length=cap * 1:=by simpa using hcs
     rw[List.flatten_append,List.flatten_append,(Kj D lo).1,(Kj D (lo+m)).2,<-z,<-Y];have hn:(l.take lo++new.take m++l.drop (lo+m)).length=l.length:=by simp;omega
     rw[hn,show 0+lo * 1=lo by omega];simp only[List.take_append,List.take_take,List.drop_take,List.length_take,List.length_append,X];rw[Nat.min_eq_right (by omega:lo<=l.length * 1),cq (by omega:lo<=l.length * 1),cq (by omega:lo<=cur.toList.length),bc (by omega:cs.length<=l.length * 1 - lo)]
    .have Z:(l.take lo).length=lo:=by simp;omega
     have e2:(p.take lo).length=lo:=by simp;omega
     have e3:(new.take m).length=m:=by simp;omega
     have e4:(rs.take m).length=m:=by simp;omega
     rcases Nat.lt_or_ge i (lo+m) with hlt | hge
     .rw[bu (by simp;omega)] at hr f;rcases Nat.lt_or_ge i lo with H | hge2
      .rw[bu (by omega),br,dq H] at hr f;exact g3 i r u hr f
      .rw[bp (by omega),Z,br,dq (by omega)] at hr;rw[bp (by omega),e2,br,dq (by omega)] at f;exact k2 _ r u hr f
     .rw[bp (by simp;omega)] at hr f;have e5:(l.take lo++new.take m).length=lo+m:=by simp;omega
      have e6:(p.take lo++rs.take m).length=lo+m:=by simp;omega
      rw[e5,ce] at hr;rw[e6,ce] at f;exact g3 _ r u hr f
    .rcases cd.1 f with h | h
     .rcases cd.1 h with h | h
      .exact D u (bo h)
      .exact U u (bo h)
     .exact D u (cj h)
    .rcases cd.1 f with h | h
     .rcases cd.1 h with h | h
      .exact g5 u (bo h)
      .exact k4 u (bo h)
     .exact g5 u (cj h)
theorem Z7y (hH:Has I V own w){k j sz off e:Nat}{l:List (List G)}(hr:look k own=some (.slc l e sz)){b n c:Nat}(L:V.s k=.slice (some ⟨b,0,none⟩) n c)(X:j < l.length){ds:List Value}(F:off+ds.length<=sz)(E:∀v∈ds,v.oneCell'=true) :
  ∃(u:List Value) (f:Array Value),u.length=sz/\PW (VRep I) l[j] u/\w.heap[b]?=some (.cells f e (0,0))/\j * sz+off+ds.length<=f.size/\∀z,PW (VRep I) z (u.take off++ds++u.drop (off+ds.length))->Later own I V w ((k,.slc (l.set j z) e sz)::own) I V (w.setRow b (f.toList.take (j * sz+off)++ds++f.toList.drop (j * sz+off+ds.length)).toArray):=by
   obtain⟨rs,f,H,h2,h3,J,T,hn,U,Y,M,ht,-⟩:=Qo hH hr L;have hj:j < l.length:=X;have A:j < rs.length:=by omega
   have k3:=F;have D:=J rs[j] (bw A);have hjn:j * sz+sz<=n * sz:=by rw[<-Nat.succ_mul];exact Nat.mul_le_mul_right _ (by omega)
   have hnn:n * sz<=c * sz:=Nat.mul_le_mul_right _ U;refine⟨rs[j],f,D,h3 j _ _ (aq hj) (aq A),H,by omega,λz k2=>?_⟩;have O:=Vl J (aq A) off ds k3;have hfln:=Bq J;have p:∀u∈rs.set j (rs[j].take off++ds++rs[j].drop (off+ds.length)),u.length=sz/\∀x∈u,x.oneCell'=true:=λu q=>by
    rcases cx q with h | rfl
    .exact⟨J u h,T u h⟩
    .refine⟨by simp;omega,λx C=>?_⟩;rcases cd.1 C with C | C
     .rcases cd.1 C with C | C
      .exact T _ (bw A) x (bo C)
      .exact E x C
     .exact T _ (bw A) x (cj C)
   refine(Dj (w':=w.setRow b (f.toList.take (j * sz+off)++ds++f.toList.drop (j * sz+off+ds.length)).toArray) (r:=.slc (l.set j z) e sz) hH hr rfl rfl rfl (by simp[World.setRow]) (λb' W=>setRow_other w _ b' _ (λe=>W (((hH.each k _ hr).1 b').2 (by rw[L,e];rfl)))) ⟨(hH.each k _ hr).1,rs.set j (rs[j].take off++ds++rs[j].drop (off+ds.length)),⟨?_,.inr ⟨b,c,_,by rw[L,hn];simp,aw _,setRow_heap w _ f _ e _ H,by simp;omega,Y,?_,?_⟩⟩,by simp[h2],?_,λu D=>(p u D).1,λu D=>(p u D).2,(hH.each k _ hr).2.choose_spec.2.2.2.2.2⟩)
   .rw[Bq λu D=>(p u D).1];simp[h2]
   .simp;omega
   .rw[O];simp only[List.length_set,<-hn];rw[<-ht];have hcl:f.toList.length=c * sz:=by simpa using M
    simp only[List.take_append,List.take_take,List.drop_take,List.length_take,List.length_append];rw[Nat.min_eq_right (by omega:j * sz+off<=n * sz),cq (by omega:j * sz+off<=n * sz),cq (by omega:j * sz+off<=f.toList.length),bc (by omega:ds.length<=n * sz - (j * sz+off))]
   .intro i r u B q;rw[cw] at B q;split at B
    .next Z =>
     subst Z;rw[dq rfl,dq A] at q;cases B;cases q;exact k2
    .next Z =>
     rw[dp Z] at q;exact h3 i r u B q
theorem Z7q (hT:∀t i,look t tb=some i->TIok P t i)(hK:Nxt N own0 I0 V0 w0 K next)(hL:Since own0 I0 V0 w0 own I V w)(ha:ARep N I V a t)(hd:∀i,o.dst=some i->i < N){x z:Operand}{ty D:TypeId}{ag:Bool}{ze:List G}{e:Nat}{fl:List (TypeId × Nat)}{st:Bool}{ik:Option IntKind}{kd:KD}(Y:look ty tb=some ⟨ag,ze,some (e,1),fl,st,ik,kd⟩)(ho:o.op=.call {callee:=.builtin .copy,args:=#[x,z],argTypes:=#[ty,D]})(h:ev t own x λg=>ev t own z λq=>Z2p own q 1 λnew=>match g with
          | .osl k=>match look k own with
           | some (.slc f e 1)=>K (put o.dst (.v (.int .i64 (min new.length f.length:Nat))) t) ((k,.slc (new.take (min new.length f.length)++f.drop (min new.length f.length)) e 1)::own) V.n
           | _=>False
          | .osv k 1 lo hi=>match look k own with
           | some (.slc f e 1)=>K (put o.dst (.v (.int .i64 (min new.length (hi - lo):Nat))) t) ((k,.slc (f.take lo++new.take (min new.length (hi - lo))++f.drop (lo+min new.length (hi - lo))) e 1)::own) V.n
           | _=>False
          | .orv k i sz off len _=>match look k own with
           | some (.slc f e sz')=>match Nat.beq sz sz' with
            | true=>Es (off+len<=sz) (EvSet f i (λrow k=>k (row.take off++(new.take (min new.length len)).flatten++row.drop (off+min new.length len))) λU=>K (put o.dst (.v (.int .i64 (min new.length len:Nat))) t) ((k,.slc U e sz)::own) V.n)
            | false=>False
           | _=>False
          | _=>False):o.wp P a w next Q:=by
 obtain⟨g,hk1,hg⟩:=B5 h ha hL.has;obtain⟨q,M,hq⟩:=B5 hk1 ha hL.has;obtain⟨new,A,c,rs,l,he,hA,k1,k2,k3,k4,k5⟩:=Vi M hq hL.has;clear h hk1 M;obtain⟨X,ie,zv,T,h2,h3,h4,h5,h6⟩:=(hT _ _ Y).elem e 1 rfl;have hs:(P.info? e).map (·.size)=some 1:=by rw[T];simp[h3]
 have p:∀{v w'},(Builtin.copy_ #[ty,D] o.type #[a.eval x,.slice A new.length c]).run P w=.ok v w'->(execOp a.eval o).run P w=.ok (.value v) w':=λhr=>by simp only[execOp,ho,resolve,invoke,builtin,Sem.run_bind,Sem.run_pure,Result.andThen_ok,List.map_toArray,List.map_cons,List.map_nil,he,hr]
 cases g with
 | osl k =>
  obtain⟨hkn,J⟩:=(show k < V.n/\a.eval x=V.s k from hg);dsimp only at l;split at l
  .next f e' B =>
   obtain⟨w',c1,c2⟩:=Qy (P:=P) (lo:=0) (d:=f.length) hL.has B (by omega) hA k1 k2 k3 k4 k5 X hs (sT:=D) o.type;obtain⟨A0,c0,F,hc0⟩:=Gi hL.has B;have e0:Kv 1 (V.s k) 0 (0+f.length)=V.s k:=by rw[F];unfold Kv;dsimp only;cases A0<;>simp[Addr.add]
   rw[e0] at c1;refine fin hK hL ha hd (p (by rw[J];exact c1)) c2 (.of_v (.v _)) ?_;simpa using l
  .exact l.elim
 | osv k sz lo hi =>
  obtain⟨hkn,⟨b1,b2⟩,J⟩:=(show k < V.n/\(lo<=hi/\hi<=Mz (V.s k))/\a.eval x=Kv sz (V.s k) lo hi from hg);cases L:Nat.beq sz 1 with
  | false =>
   exfalso;cases sz with
   | zero=>exact l.elim
   | succ n=>cases n with
    | zero=>cases L
    | succ n=>exact l.elim
  | true =>
   have L:=ax L;subst L;have l:match look k own with
    | some (.slc f e 1)=>K (put o.dst (.v (.int .i64 (min new.length (hi - lo):Nat))) t) ((k,.slc (f.take lo++new.take (min new.length (hi - lo))++f.drop (lo+min new.length (hi - lo))) e 1)::own) V.n
    | _=>False:=l
   split at l
   .next f e' B =>
    obtain⟨A0,c0,F,hc0⟩:=Gi hL.has B;have b3:hi<=f.length:=by rw[F] at b2;exact b2
    obtain⟨w',c1,c2⟩:=Qy (P:=P) (lo:=lo) (d:=hi - lo) hL.has B (by omega) hA k1 k2 k3 k4 k5 X hs (sT:=D) o.type;rw[show lo+(hi - lo)=hi by omega] at c1;exact fin hK hL ha hd (p (by rw[J];exact c1)) c2 (.of_v (.v _)) l
   .exact l.elim
 | orv k i sz off len cap =>
  obtain⟨hkn,b,q0,hob,J⟩:=(show TRep1 I V (.orv k i sz off len cap) (a.eval x) from hg);dsimp only at l;split at l
  .next f e' sz' B =>
   split at l
   .next hb =>
    have hb:=ax hb;subst hb;obtain⟨n0,c0,Z⟩:∃n c,V.s k=.slice (some ⟨b,q0,none⟩) n c:=by
     obtain⟨-,-,-,-,-,-,-,hz⟩:=hL.has.each k _ B;cases sz with
     | zero=>omega
     | succ sz=>exact hob
    obtain rfl:=Z3f hL.has B Z;rw[co] at J;obtain⟨hfit,W,l⟩:=l;obtain⟨m,hm⟩:∃m,m=min new.length len:=⟨_,rfl⟩;rw[<-hm] at l;obtain⟨ds,H⟩:∃ds,ds=(rs.take m).flatten:=⟨_,rfl⟩;have k3':∀u∈rs.take m,u.length=1:=λu X=>k3 u (bo X);have Y:ds.length=m:=by rw[H,Bq k3'];simp;omega
    have O:∀v∈ds,v.oneCell'=true:=λv F=>by rw[H] at F;obtain⟨u,E,F⟩:=List.mem_flatten.1 F;exact k4 u (bo E) v F
    obtain⟨u,C,q1,q2,q3,q4,q5⟩:=Z7y hL.has (off:=off) B Z W (ds:=ds) (by omega) O;have hpd:PW (VRep I) (new.take m).flatten ds:=by
     rw[H];refine Sc (by simp[k1]) λi r u T h2=>?_;rw[br] at T h2;split at T
     .next W=>rw[dq W] at h2;exact k2 i r u T h2
     .cases T
    have hrow:PW (VRep I) (f[i].take off++(new.take m).flatten++f[i].drop (off+m)) (u.take off++ds++u.drop (off+ds.length)):=by
     rw[Y];have p1:=q2.part 0 off;have p2:=q2.part (off+m) sz;rw[List.drop_zero,List.drop_zero] at p1;have e1:f[i].length=sz:=by rw[q2.1,q1]
     rw[bc (by rw[bm];omega),bc (by rw[bm];omega)] at p2;exact(p1.append hpd).append p2
    have hl2:=q5 _ hrow;have M:=l f[i] (by simp);have hr3:(Builtin.copy_ #[ty,D] o.type #[a.eval x,.slice A new.length c]).run P w=.ok (.int .i64 (m:Nat)) (w.setRow b (C.toList.take (i * sz+off)++ds++C.toList.drop (i * sz+off+ds.length)).toArray):=by
     rw[J];cases A with
     | none =>
      have h0:=(hA rfl).1;have hm0:m=0:=by omega
      subst hm0;have hd0:ds=[]:=az Y;have hsf:w.setRow b (C.toList.take (i * sz+off)++ds++C.toList.drop (i * sz+off+ds.length)).toArray=w:=by
       subst hd0;have e1:(C.toList.take (i * sz+off)++[]++C.toList.drop (i * sz+off+0)).toArray=C:=by simp
       rw[show([]:List Value).length=0 from rfl,e1];unfold World.setRow;refine congrArg (λh=>({w with heap:=h}:World)) (?_:_=w.heap);apply Array.ext
       .simp
       .intro j T h2;rw[Array.getElem_modify];split
        .next e =>
         subst e;have:=(bz.1 q3).2;rw[this]
        .rfl
      rw[hsf];refine run_copy_none (P:=P) w ty D o.type e (some ⟨b,i * sz+off,none⟩) none len cap new.length c X hs ?_;rw[h0];exact Nat.zero_min _
     | some ad =>
      have hsub:∀j x,ds[j]?=some x->rs.flatten[j]?=some x:=λj x J=>by rw[H] at J;obtain⟨i,q,u,rfl,hq,E,hx'⟩:=Pu k3' J;exact Co k3 (by rw[br] at E;(split at E<;>first | exact E | cases E)) hx'
      have p:=run_copy_row (P:=P) w ty D o.type e b (i * sz+off) len cap ad new.length c C e' ds X hs q3 (by rw[Y,hm]) (λj v F=>k5 ad rfl j v (hsub j v F)) q4 O;rw[Y] at p⊢;exact p
    exact fin hK hL ha hd (p hr3) hl2 (.of_v (.v _)) M
   .exact l.elim
  .exact l.elim
 | _=>exact l.elim
end
theorem Rb:∀(rs:List R) (j i:Nat),look i (Ev rs j)=if j<=i then rs[i - j]? else none
 | [],j,i=>by simp[Ev,look]
 | r::rs,j,i=>by
  rw[Ev,Af,Rb rs (j+1) i];by_cases h:i=j
  .subst h;simp
  .by_cases b:j<=i
   .obtain⟨d,rfl⟩:=Nat.exists_eq_add_of_le b;cases d with
    | zero=>simp at h
    | succ d =>
     rw[dp h,dq (by omega),dq b,show j+(d+1) - (j+1)=d by omega,show j+(d+1) - j=d+1 by omega];simp
   .rw[dp h,dp b,dp (by omega)]
theorem Bl (rs:List R)(i:Nat):look i (Ev rs 0)=rs[i]?:=by rw[Rb];simp
def Bm (ks:List Nat)(n i:Nat):Nat:=match ks[i]? with
 | some k=>k
 | none=>n+(i - ks.length)
theorem Dp (n i:Nat):Bm [] n i=n+i:=by simp[Bm]
theorem I7 (k:Nat)(ks:List Nat)(n i:Nat):Bm (k::ks) n (i+1)=Bm ks n i:=by
 unfold Bm;simp only[List.getElem?_cons_succ,List.length_cons];cases ks[i]? with
 | some k=>rfl
 | none=>simp only;congr 1;omega
theorem Lf:∀(ks:List Nat) (n:Nat) (rs:List R) (j i:Nat),look i (Rx ks n rs j)=if j<=i/\i - j < rs.length then some (Bm ks n (i - j)) else none
 | [],n,[],j,i=>by simp[Rx,look]
 | k::ks,n,[],j,i=>by simp[Rx,look]
 | k::ks,n,r::rs,j,i=>by
  rw[Rx,Af,Lf ks n rs (j+1) i];by_cases h:i=j
  .subst h;simp[Bm]
  .by_cases b:j+1<=i/\i - (j+1) < rs.length
   .rw[dp h,dq b,dq ⟨by omega,by simp;omega⟩,show i - j=i - (j+1)+1 by omega,I7]
   .rw[dp h,dp b,dp (λc=>b ⟨by omega,by simp at c;omega⟩)]
 | [],n,r::rs,j,i=>by
  rw[Rx,Af,Lf [] (n+1) rs (j+1) i];by_cases h:i=j
  .subst h;simp[Bm]
  .by_cases b:j+1<=i/\i - (j+1) < rs.length
   .rw[dp h,dq b,dq ⟨by omega,by simp;omega⟩,Dp,Dp];congr 1;omega
   .rw[dp h,dp b,dp (λc=>b ⟨by omega,by simp at c;omega⟩)]
def Of (m:List (Nat × Nat)):List R->List Nat->Os->Nat->Os
 | [],_,own,_=>own
 | r::rs,k::ks,own,n=>Of m rs ks ((k,Lc m r)::own) n
 | r::rs,[],own,n=>Of m rs [] ((n,Lc m r)::own) (n+1)
theorem Xm {m:List (Nat × Nat)}{g:G}(h:Cd g=true):Mt m g=g:=by cases g<;>first | rfl | cases h
theorem Z0i {m:List (Nat × Nat)}{l:List G}(h:Bw Cd l=true):l.map (Mt m)=l:=by
 induction l with
 | nil=>rfl
 | cons g l ih =>
  have b:=Ao h g (by simp);have c:Bw Cd l=true:=by unfold Bw at h;rw[b] at h;exact h
  rw[cv,Xm b,ih c]
theorem Ke {m:List (Nat × Nat)}{r:R}(h:Lp r=true):Lc m r=r:=by
 cases r with
 | blk cs t=>simp only[Lc,Z0i (show Bw Cd cs=true from h)]
 | lnk j=>cases h
 | adr j b=>cases h
 | _=>rfl
theorem Ka {m:List (Nat × Nat)}{g:G}(h:Q7 g=true):Z2o m g=g:=by
 cases g with
 | oag l=>simp only[Z2o,Z0i (show Bw Cd l=true from h)]
 | clo f a c=>cases h
 | tup l=>cases h
 | ptr k o=>cases h
 | osl k=>cases h
 | osv k a b c=>cases h
 | oel k a b c=>cases h
 | orv k a b c d e=>cases h
 | mp k=>cases h
 | _=>rfl
theorem Wj {m:List (Nat × Nat)}{g:G}(h:Z76 g=true):Q1 m g=g:=by
 cases g with
 | tup l =>
  have key:∀l:List G,Bw Q7 l=true->l.map (Z2o m)=l:=λl h=>by
   induction l with
   | nil=>rfl
   | cons g l ih =>
    have j:=Ao h g (by simp);have p:Bw Q7 l=true:=by unfold Bw at h;rw[j] at h;exact h
    rw[cv,Ka j,ih p]
  simp only[Q1,key l h]
 | v x=>exact Ka (m:=m) (g:=.v x) h
 | oag l=>exact Ka (m:=m) (g:=.oag l) h
 | clo f a c=>cases h
 | ptr k o=>cases h
 | osl k=>cases h
 | osv k a b c=>cases h
 | oel k a b c=>cases h
 | orv k a b c d e=>cases h
 | mp k=>cases h
 | _=>rfl
theorem L7 {m:List (Nat × Nat)}{K:Os->Nat->Prop}:∀{rs:List R} {ks:List Nat} {own:Os} {n:Nat},L0 m rs ks own n K->K (Of m rs ks own n) (n+(rs.length - ks.length))
 | [],ks,own,n,h=>by simpa [L0,Of] using h
 | r::rs,k::ks,own,n,h=>by
  have b:L0 m rs ks ((k,Lc m r)::own) n K:=by
   unfold L0 at h;split at h
   .next e=>rw[Ke e];exact h
   .exact h
  have:=L7 b;simpa [Of] using this
 | r::rs,[],own,n,h=>by
  have b:L0 m rs [] ((n,Lc m r)::own) (n+1) K:=by
   unfold L0 at h;split at h
   .next e=>rw[Ke e];exact h
   .exact h
  have:=L7 b;simp only[List.length_nil,Nat.sub_zero] at this;simpa [Of,Nat.add_assoc,Nat.add_comm 1] using this
theorem Z8a {ks:List Nat}{own:Os}{n:Nat}{g:G}{rs:List R}{K:G->Os->Nat->Prop}(h:Z1b ks own n g rs K):K (Q1 (Rx ks n rs 0) g) (Of (Rx ks n rs 0) rs ks own n) (n+(rs.length - ks.length)):=by
 unfold Z1b at h;split at h
 .next e=>rw[Wj e];exact L7 (K:=λown n=>K g own n) h
 .exact L7 (K:=λown' b=>K (Q1 (Rx ks n rs 0) g) own' b) h
theorem Cq {m:List (Nat × Nat)}:∀{rs:List R} {ks:List Nat} {own:Os} {n k:Nat} {r:R},look k (Of m rs ks own n)=some r ->
  (∃i b,Bm ks n i=k/\rs[i]?=some b/\r=Lc m b)\/((∀i,i < rs.length->Bm ks n i≠k)/\look k own=some r)
 | [],ks,own,n,k,r,h=>.inr ⟨λi c=>by simp at c,h⟩
 | b::rs,k0::ks,own,n,k,r,h=>by
  rcases Cq (rs:=rs) (ks:=ks) (own:=(k0,Lc m b)::own) (n:=n) h with⟨i,r1,h1,h2,h3⟩ | ⟨h1,h2⟩
  .exact .inl ⟨i+1,r1,by rw[I7];exact h1,by simpa using h2,h3⟩
  .rw[Af] at h2;split at h2
   .next e=>cases h2;exact .inl ⟨0,b,by simp[Bm,e],rfl,rfl⟩
   .next e=>exact .inr ⟨λi c=>by
     cases i with
     | zero=>simp[Bm];exact λf=>e f.symm
     | succ i=>rw[I7];exact h1 i (by simpa using c),h2⟩
 | b::rs,[],own,n,k,r,h=>by
  rcases Cq (rs:=rs) (ks:=[]) (own:=(n,Lc m b)::own) (n:=n+1) h with⟨i,r1,h1,h2,h3⟩ | ⟨h1,h2⟩
  .exact .inl ⟨i+1,r1,by rw[Dp] at h1⊢;omega,by simpa using h2,h3⟩
  .rw[Af] at h2;split at h2
   .next e=>cases h2;exact .inl ⟨0,b,by rw[Dp];omega,rfl,rfl⟩
   .next e=>exact .inr ⟨λi c=>by
     cases i with
     | zero=>rw[Dp];exact λf=>e (by omega)
     | succ i =>
      have:=h1 i (by simpa using c);rw[Dp] at this⊢;omega,h2⟩
section
variable {I I':Imm} {V V1 V':Va} {w w':World} {own:Os} {k n:Nat} {g:G} {x:Value} {r:R} {ks:List Nat} {rs:List R}
theorem VRep.cr (h:VRep I g x):CRep I V g x:=.of_v h
def Va.lend (V:Va)(ks:List Nat):Va:=⟨ks.length,λi=>V.b (Bm ks 0 i),λi=>V.s (Bm ks 0 i),λi=>V.f (Bm ks 0 i)⟩
theorem Xr (f:Cd g=true)(h:CRep I V g x):CRep I V' g x:=by
 cases g with
 | ptr k o=>cases f
 | osl k=>cases f
 | osv k a b c=>cases f
 | oel k a b c=>cases f
 | orv k a b c d e=>cases f
 | mp k=>cases f
 | _=>exact h
theorem Z51 {cs:List G}{c:List Value}(e:Bw Cd cs=true)(h:PW (CRep I V) cs c):PW (CRep I V') cs c:=⟨h.1,λj g u b f=>Xr (Ao e g (au b)) (h.2 j g u b f)⟩
theorem RRep.lend (C:Lp r=true)(h:RRep I V k w r){j:Nat}(c:V'.b j=V.b k)(z:V'.s j=V.s k)(q:V'.f j=V.f k):RRep I V' j w r:=by
 cases r with
 | blk cs t =>
  obtain⟨B,F,A,E⟩:=h;exact⟨λb=>by rw[q,c];exact B b,F,by rw[c];exact A,Z51 C E⟩
 | slc rows e sz =>
  obtain⟨B,A⟩:=h;exact⟨λb=>by rw[q,z];exact B b,by rw[z];exact A⟩
 | vw rows e sz =>
  obtain⟨B,A⟩:=h;exact⟨λb=>by rw[q,z];exact B b,by rw[z];exact A⟩
 | froz rows sz=>exact⟨λb=>by rw[q];exact h.1 b,by rw[z];exact h.2.1,h.2.2⟩
 | gone=>exact λb=>by rw[q];exact h b
 | mpI l=>exact⟨λb=>by rw[q,c];exact h.1 b,by rw[c];exact h.2⟩
 | mpS l=>exact⟨λb=>by rw[q,c];exact h.1 b,by rw[c];exact h.2⟩
 | sit s pos=>exact⟨λb=>by rw[q,c];exact h.1 b,by rw[c];exact h.2⟩
 | mpX l m ob=>exact⟨λb=>by rw[q,c];exact h.1 b,by rw[c];exact h.2⟩
 | mit i l D last m ob=>exact⟨λb=>by rw[q,c];exact h.1 b,by rw[c];exact h.2⟩
 | abs p=>exact⟨h.1,by rw[q,c];exact h.2⟩
 | lnk j=>cases C
 | adr j b=>cases C
 | fam ps=>exact⟨h.1,by rw[q];exact h.2⟩
theorem Bf {i:Nat}(h:ks[i]?=some k):Bm ks n i=k:=by simp[Bm,h]
def Va.back (V:Va)(ks:List Nat)(V1:Va):Va:=⟨V.n+(V1.n - ks.length),λk=>if k < V.n then V.b k else V1.b (ks.length+(k - V.n)),λk=>if k < V.n then V.s k else V1.s (ks.length+(k - V.n)),λk b=>(∃i,i < V1.n/\Bm ks V.n i=k/\V1.f i b)\/((∀i,i < V1.n->Bm ks V.n i≠k)/\V.f k b)⟩
theorem Wu (hd:ks.Nodup)(b:∀k∈ks,k < n){i j:Nat}(h:Bm ks n i=Bm ks n j):i=j:=by
 unfold Bm at h;cases hi:ks[i]? with
 | some k =>
  cases hj:ks[j]? with
  | some k' =>
   rw[hi,hj] at h;dsimp only at h;subst h;exact(List.getElem?_inj (ar.1 hi).1 hd).1 (by rw[hi,hj])
  | none =>
   rw[hi,hj] at h;have:=b k (au hi);dsimp only at h;omega
 | none =>
  have c:=List.getElem?_eq_none_iff.1 hi;cases hj:ks[j]? with
  | some k' =>
   rw[hi,hj] at h;have:=b k' (au hj);dsimp only at h;omega
  | none =>
   have e:=List.getElem?_eq_none_iff.1 hj;rw[hi,hj] at h;dsimp only at h;omega
theorem Cz {m:List (Nat × Nat)}{out:Nat->Nat}(j:∀i,i < V1.n->(look i m).getD i=out i/\out i < V'.n/\V'.b (out i)=V1.b i/\V'.s (out i)=V1.s i)(h:CRep I V1 g x):CRep I V' (Mt m g) x:=by
 cases g with
 | ptr k o=>obtain⟨c,f,e,-⟩:=j k h.1;exact⟨by rw[c];exact f,by rw[c,e];exact h.2⟩
 | osl k=>obtain⟨c,f,-,e⟩:=j k h.1;exact⟨by rw[c];exact f,by rw[c,e];exact h.2⟩
 | osv k sz lo hi=>obtain⟨c,f,-,e⟩:=j k h.1;exact⟨by rw[c];exact f,by rw[c,e];exact h.2⟩
 | mp k=>obtain⟨c,f,e,-⟩:=j k h.1;exact⟨by rw[c];exact f,by rw[c,e];exact h.2⟩
 | _=>exact h
theorem Ui {m:List (Nat × Nat)}{out:Nat->Nat}(z:∀i,i < V1.n->(look i m).getD i=out i/\out i < V'.n/\V'.b (out i)=V1.b i/\V'.s (out i)=V1.s i){l:List G}{e:List Value}(h:PW (CRep I V1) l e):PW (CRep I V') (l.map (Mt m)) e :=
 ⟨by simpa using h.1,λj g u c p=>by rw[ay] at c;obtain⟨g0,q,f⟩:=bh.1 c;subst f;exact Cz z (h.2 j g0 u q p)⟩
theorem Bk {m:List (Nat × Nat)}{out:Nat->Nat}(j:∀i,i < V1.n->(look i m).getD i=out i/\out i < V'.n/\V'.b (out i)=V1.b i/\V'.s (out i)=V1.s i)(h:TRep1 I V1 g x):TRep1 I V' (Z2o m g) x:=by
 cases g with
 | oag l =>
  obtain⟨cs,e,h⟩:=h;exact⟨cs,e,Ui j h⟩
 | clo f a c =>
  obtain⟨H,F,cs,e,p,A⟩:=h;refine⟨?_,F,cs,e,Ui j p,Ui j A⟩;obtain⟨g,J,z⟩:=H;have C:Cd (Mt m g)=false:=by cases g<;>first | rfl | cases z
  exact⟨Mt m g,J.imp (λh=>bk.2 ⟨g,h,rfl⟩) (λh=>bk.2 ⟨g,h,rfl⟩),C⟩
 | oel k i sz off =>
  obtain⟨z,h⟩:=h;obtain⟨p,A,-,B⟩:=j k z;exact⟨by rw[p];exact A,by rw[p,B];exact h⟩
 | orv k i sz off len cap =>
  obtain⟨z,b,q,D,h⟩:=h;obtain⟨p,A,E,B⟩:=j k z;exact⟨by rw[p];exact A,b,q,D.of (by rw[p];exact E) (by rw[p];exact B),h⟩
 | elp row off=>exact h
 | tup l=>exact h.elim
 | ptr k o=>exact Cz (I:=I) (m:=m) (g:=.ptr k o) j h
 | osl k=>exact Cz (I:=I) (m:=m) (g:=.osl k) j h
 | osv k a b c=>exact Cz (I:=I) (m:=m) (g:=.osv k a b c) j h
 | mp k=>exact Cz (I:=I) (m:=m) (g:=.mp k) j h
 | v y=>exact Cz (I:=I) (m:=m) (g:=.v y) j h
 | tt=>exact Cz (I:=I) (m:=m) (g:=.tt) j h
 | ff=>exact Cz (I:=I) (m:=m) (g:=.ff) j h
 | un=>exact Cz (I:=I) (m:=m) (g:=.un) j h
 | nl=>exact Cz (I:=I) (m:=m) (g:=.nl) j h
 | agg l=>exact Cz (I:=I) (m:=m) (g:=.agg l) j h
 | sl l=>exact Cz (I:=I) (m:=m) (g:=.sl l) j h
theorem Z2z {m:List (Nat × Nat)}{out:Nat->Nat}(p:∀i,i < V1.n->(look i m).getD i=out i/\out i < V'.n/\V'.b (out i)=V1.b i/\V'.s (out i)=V1.s i)(h:TRep I V1 g x):TRep I V' (Q1 m g) x:=by
 cases g with
 | tup l =>
  obtain⟨cs,e,h⟩:=h;exact⟨cs,e,by simpa using h.1,λj g u q A=>by rw[ay] at q;obtain⟨g0,B,z⟩:=bh.1 q;subst z;exact Bk p (h.2 j g0 u B A)⟩
 | oag l=>exact .of_1 (Bk (I:=I) (m:=m) (g:=.oag l) p h)
 | clo f a c=>exact .of_1 (Bk (I:=I) (m:=m) (g:=.clo f a c) p h)
 | oel k i sz off=>exact .of_1 (Bk (I:=I) (m:=m) (g:=.oel k i sz off) p h)
 | orv k i sz off l c=>exact .of_1 (Bk (I:=I) (m:=m) (g:=.orv k i sz off l c) p h)
 | elp row off=>exact .of_1 (Bk (I:=I) (m:=m) (g:=.elp row off) p h)
 | ptr k o=>exact .of_1 (Bk (I:=I) (m:=m) (g:=.ptr k o) p h)
 | osl k=>exact .of_1 (Bk (I:=I) (m:=m) (g:=.osl k) p h)
 | osv k a b c=>exact .of_1 (Bk (I:=I) (m:=m) (g:=.osv k a b c) p h)
 | mp k=>exact .of_1 (Bk (I:=I) (m:=m) (g:=.mp k) p h)
 | v y=>exact .of_1 (Bk (I:=I) (m:=m) (g:=.v y) p h)
 | tt=>exact .of_1 (Bk (I:=I) (m:=m) (g:=.tt) p h)
 | ff=>exact .of_1 (Bk (I:=I) (m:=m) (g:=.ff) p h)
 | un=>exact .of_1 (Bk (I:=I) (m:=m) (g:=.un) p h)
 | nl=>exact .of_1 (Bk (I:=I) (m:=m) (g:=.nl) p h)
 | agg l=>exact .of_1 (Bk (I:=I) (m:=m) (g:=.agg l) p h)
 | sl l=>exact .of_1 (Bk (I:=I) (m:=m) (g:=.sl l) p h)
theorem Wb (hH:Has I V own w)(hd:ks.Nodup)(hl:rs.length=ks.length)(hr:∀(i k:Nat),ks[i]?=some k->∃r r',rs[i]?=some r'/\look k own=some r)
  {C:List R} (hn:V1.n=C.length) (h1:Has I' V1 (Ev C 0) w') (T:Fro (Ev rs 0) I (V.lend ks) w (Ev C 0) I' V1 w') (hV:(V.lend ks).le V1) :
  Later own I V w (Of (Rx ks V.n C 0) C ks own V.n) I' (V.back ks V1) w'/\∀g x,TRep I' V1 g x->TRep I' (V.back ks V1) (Q1 (Rx ks V.n C 0) g) x:=by
 have hkn:∀k∈ks,k < V.n:=λk A=>by obtain⟨i,Y,e⟩:=ct.1 A;obtain⟨r,-,-,q⟩:=hr i k (by rw[aq Y,e]);exact hH.num k r q
 have hge:ks.length<=C.length:=by rw[<-hn];exact hV.1
 have E:∀i,i < V1.n->(look i (Rx ks V.n C 0)).getD i=Bm ks V.n i/\Bm ks V.n i < (V.back ks V1).n/\(V.back ks V1).b (Bm ks V.n i)=V1.b i/\(V.back ks V1).s (Bm ks V.n i)=V1.s i:=λi Y=>by
  refine⟨by rw[Lf,dq ⟨by omega,by omega⟩];simp,?_⟩;cases A:ks[i]? with
  | some k =>
   have hlt:=hkn k (au A);have U:=(ar.1 A).1;have q:=hV.2 i U;rw[Bf A];refine⟨by show k < V.n+_;omega,?_,?_⟩
   .show(if k < V.n then V.b k else _)=_;rw[dq hlt,q.1];simp[Va.lend,Bf A]
   .show(if k < V.n then V.s k else _)=_;rw[dq hlt,q.2];simp[Va.lend,Bf A]
  | none =>
   have hi2:=List.getElem?_eq_none_iff.1 A;have e:Bm ks V.n i=V.n+(i - ks.length):=by simp[Bm,A]
   rw[e];have e2:ks.length+(V.n+(i - ks.length) - V.n)=i:=by omega
   refine⟨by show _ < V.n+_;omega,?_,?_⟩
   .show(if _ < V.n then _ else _)=_;rw[dp (by omega),e2]
   .show(if _ < V.n then _ else _)=_;rw[dp (by omega),e2]
 have W:∀i,i < V1.n->(V.back ks V1).f (Bm ks V.n i)=V1.f i:=λi Y=>by
  funext b;apply propext;constructor
  .rintro(⟨j,Z,e,H⟩ | ⟨h,-⟩)
   .have:=Wu hd hkn e;subst this;exact H
   .exact dt rfl (h i Y)
  .exact λH=>.inl ⟨i,Y,rfl,H⟩
 have X:∀k,(∀i,i < V1.n->Bm ks V.n i≠k)->(V.back ks V1).f k=V.f k:=λk A=>by
  funext b;apply propext;constructor
  .rintro(⟨j,Z,e,-⟩ | ⟨-,H⟩)
   .exact dt e (A j Z)
   .exact H
  .exact λH=>.inr ⟨A,H⟩
 have hle:V.le (V.back ks V1):=⟨Nat.le_add_right _ _,λk A=>⟨dq A,dq A⟩⟩;have lent:∀j r b,look j (Ev rs 0)=some r->(V.lend ks).f j b->∃k r,ks[j]?=some k/\look k own=some r/\V.f k b:=λj r b h H=>by
  rw[Bl] at h;have Z:=(ar.1 h).1;have hj':j < ks.length:=by omega
  obtain⟨L,r',k1,k2⟩:=hr j ks[j] (aq hj');refine⟨_,L,aq hj',k2,?_⟩;have:=Bf (n:=0) (aq hj':ks[j]?=some ks[j]);simpa [Va.lend,this] using H
 have hnl:∀k r,look k own=some r->(∀i,i < V1.n->Bm ks V.n i≠k)->∀b,V.f k b->∀j r',look j (Ev rs 0)=some r'->¬(V.lend ks).f j b:=λk r A hno b B j r' Z H=>by obtain⟨k',r2,q,F,h4⟩:=lent j r' b Z H;have:=hH.disj k k' r r2 b A F B h4;subst this;have hj':=(ar.1 q).1;exact hno j (by omega) (Bf q)
 have z:∀k,(∀i,i < C.length->Bm ks V.n i≠k)->∀i,i < V1.n->Bm ks V.n i≠k:=λk h i Y=>h i (by omega);refine⟨⟨⟨h1.mem,λk r A=>?_,λk r A=>?_,λk r b A B=>?_,λk k' r r' b A hk' B J=>?_⟩,⟨T.os,T.tape,T.output,T.size,λb B hn=>T.blk b B λj r Z H=>?_,T.mono,λk r b A B hlt=>?_⟩,hle⟩,λg x h=>Z2z E h⟩
 .rcases Cq A with⟨i,L,e,q,-⟩ | ⟨q,F⟩
  .have Y:=(ar.1 q).1;rw[<-e];exact(E i (by omega)).2.1
  .exact bd (hH.num k r F) hle.1
 .rcases Cq A with⟨i,L,e,q,rfl⟩ | ⟨q,F⟩
  .have Y:=(ar.1 q).1;have U:i < V1.n:=by omega
   have c:=h1.each i L (by rw[Bl];exact q);obtain⟨-,o1,O,o3⟩:=E i U;have M:=W i U;rw[<-e];cases L with
   | blk cs t =>
    obtain⟨q1,us,q2,q3⟩:=c;exact⟨λb=>by rw[M,O];exact q1 b,us,by rw[O];exact q2,Ui E q3⟩
   | slc rows ty sz=>exact⟨λb=>by rw[M,o3];exact c.1 b,by rw[o3];exact c.2⟩
   | vw rows ty sz=>exact⟨λb=>by rw[M,o3];exact c.1 b,by rw[o3];exact c.2⟩
   | froz rows sz=>exact⟨λb=>by rw[M];exact c.1 b,by rw[o3];exact c.2.1,c.2.2⟩
   | gone=>exact λb=>by rw[M];exact c b
   | mpI l=>exact⟨λb=>by rw[M,O];exact c.1 b,by rw[O];exact c.2⟩
   | mpS l=>exact⟨λb=>by rw[M,O];exact c.1 b,by rw[O];exact c.2⟩
   | sit s pos=>exact⟨λb=>by rw[M,O];exact c.1 b,by rw[O];exact c.2⟩
   | mpX l m ob=>exact⟨λb=>by rw[M,O];exact c.1 b,by rw[O];exact c.2⟩
   | mit j l D last m ob=>exact⟨λb=>by rw[M,O];exact c.1 b,by rw[O];exact c.2⟩
   | abs p=>exact⟨c.1,by rw[M,O];exact c.2⟩
   | lnk j =>
    obtain⟨q1,q2,m0,q3⟩:=c;obtain⟨u1,u2,-,u4⟩:=E j q2;exact⟨λb=>by rw[M];exact q1 b,by rw[u1];exact u2,m0,by rw[u1,u4,O];exact q3⟩
   | adr j b =>
    obtain⟨q1,q2,q3⟩:=c;obtain⟨u1,u2,u3,-⟩:=E j q2;exact⟨λb=>by rw[M];exact q1 b,by rw[u1];exact u2,by rw[u1,u3];exact q3⟩
   | fam ps=>exact⟨c.1,by rw[M];exact c.2⟩
  .exact(hH.each k r F).keep T.mono hle (hH.num k r F) (X k (z k q)) T.os T.size λb B=>(T.blk b (hH.foot k r b F B).1 (hnl k r F (z k q) b B)).1
 .rcases Cq A with⟨i,L,e,q,rfl⟩ | ⟨q,F⟩
  .have Y:=(ar.1 q).1;rw[<-e,W i (by omega)] at B;exact h1.foot i L b (by rw[Bl];exact q) B
  .rw[X k (z k q)] at B;have h4:=hH.foot k r b F B;exact⟨bd h4.1 T.size,λo=>((T.blk b h4.1 (hnl k r F (z k q) b B)).2 o).trans (h4.2 o)⟩
 .have cross:∀i L k r,i < V1.n->C[i]?=some L->V1.f i b->look k own=some r->(∀i,i < V1.n->Bm ks V.n i≠k)->V.f k b->False:=λi L k r Y q H A hno B=>by
   have h4:=(hH.foot k r b A B).1;obtain⟨j,r',Z,hf'⟩:=T.foot i L b (by rw[Bl];exact q) H h4;exact hnl k r A hno b B j r' Z hf'
  rcases Cq A with⟨i,L,e,q,-⟩ | ⟨q,F⟩
  .have Y:=(ar.1 q).1;rw[<-e,W i (by omega)] at B;rcases Cq hk' with⟨i',r0',e',h2',-⟩ | ⟨h2',h3'⟩
   .have U:=(ar.1 h2').1;rw[<-e',W i' (by omega)] at J;rw[<-e,<-e',h1.disj i i' L r0' b (by rw[Bl];exact q) (by rw[Bl];exact h2') B J]
   .rw[X k' (z k' h2')] at J;exact(cross i L k' r' (by omega) q B h3' (z k' h2') J).elim
  .rw[X k (z k q)] at B;rcases Cq hk' with⟨i',r0',e',h2',-⟩ | ⟨h2',h3'⟩
   .have U:=(ar.1 h2').1;rw[<-e',W i' (by omega)] at J;exact(cross i' r0' k r (by omega) h2' J F (z k q) B).elim
   .rw[X k' (z k' h2')] at J;exact hH.disj k k' r r' b F h3' B J
 .obtain⟨k,r2,-,F,h4⟩:=lent j r b Z H;exact hn k r2 F h4
 .rcases Cq A with⟨i,L,e,q,-⟩ | ⟨q,F⟩
  .have Y:=(ar.1 q).1;rw[<-e,W i (by omega)] at B;obtain⟨j,r',Z,H⟩:=T.foot i L b (by rw[Bl];exact q) B hlt;obtain⟨k',r2,-,h4,h5⟩:=lent j r' b Z H;exact⟨k',r2,h4,h5⟩
  .rw[X k (z k q)] at B;exact⟨k,r,F,B⟩
end
def ren (m:List (Nat × Nat))(k:Nat):Nat:=(look k m).getD k
def Va.ren (V:Va)(m:List (Nat × Nat))(n:Nat):Va:=⟨n,λk=>V.b (Go.Proofs.YtmmdikhljefeiaaGreat.ren m k),λk=>V.s (Go.Proofs.YtmmdikhljefeiaaGreat.ren m k),λk=>V.f (Go.Proofs.YtmmdikhljefeiaaGreat.ren m k)⟩
theorem Ra:∀{l:List Nat} {k:Nat},Fn k l=true↔k∈l
 | [],k=>by simp[Fn]
 | j::l,k=>by
  unfold Fn;have c:=Ra (l:=l) (k:=k);by_cases h:k=j
  .subst h;simp[Nat.beq_refl]
  .have b:Nat.beq k j=false:=by
    cases hb:Nat.beq k j with
    | false=>rfl
    | true=>exact dt (ax hb) h
   simp[b,c,h]
section
variable {P:Program} {tb:List (Nat × TI)} {N n:Nat} {I I' I0:Imm} {V V' V0 V2:Va} {a:Act} {t t':Ts} {own own' own0:Os} {w w' w0:World} {g:G} {x y:Value} {d:Option Tmp} {m:List (Nat × Nat)} {r:R}
theorem Z3c (b:Sz n g=true)(h:CRep I V (Mt m g) x):CRep I (V.ren m n) g x:=by
 cases g with
 | ptr k o=>exact⟨bd (dn b) (av _),h.2⟩
 | osl k=>exact⟨bd (dn b) (av _),h.2⟩
 | osv k sz lo hi=>exact⟨bd (dn b) (av _),h.2⟩
 | mp k=>exact⟨bd (dn b) (av _),h.2⟩
 | oel k i s o=>exact h
 | _=>exact h
theorem Zc8 {cs:List G}{c:List Value}(e:Bw (Sz n) cs=true)(h:PW (CRep I V) (cs.map (Mt m)) c):PW (CRep I (V.ren m n)) cs c :=
 ⟨by have:=h.1;simpa using this,λj g u b f=>Z3c (Ao e g (au b)) (h.2 j _ u (by rw[ay,b];rfl) f)⟩
theorem Z42 {m:List (Nat × Nat)}{k:Nat}(c:Z0u n r=true)(h:RRep I V (ren m k) w (Lc m r)):RRep I (V.ren m n) k w r:=by
 cases r with
 | blk cs ty =>
  obtain⟨e,p,l,f⟩:=h;exact⟨e,p,l,Zc8 c f⟩
 | lnk j=>cases c
 | adr j b =>
  obtain⟨e,l,f⟩:=h;exact⟨e,dn c,f⟩
 | _=>exact h
theorem Gb:∀{T:Os},leI m own n T->∀{i r},look i T=some r->i < n/\Z0u n r=true/\look (ren m i) own=some (Lc m r)
 | [],_,i,g,h=>by cases h
 | (j,g')::T,hT,i,g,h=>by
  rw[Af] at h;split at h
  .next e=>subst e;cases h;exact⟨dn hT.1.1,hT.1.2⟩
  .exact Gb hT.2 h
theorem R5 {α:Type}{k:Nat}{x:α}:∀{l:List (Nat × α)},look k l=some x->(k,x)∈l
 | [],h=>by cases h
 | (j,y)::l,h=>by
  rw[Af] at h;split at h
  .next e=>subst e;cases h;simp
  .exact List.mem_cons_of_mem _ (R5 h)
theorem Tp:∀{l:Os},Rw (l.map λp=>ren m p.1)=true->∀{k b r r'},look k l=some r->look b l=some r'->ren m k=ren m b->k=b
 | [],_,k,b,r,r',h,_,_=>by cases h
 | (j,q)::l,hn,k,b,r,r',h,h',e=>by
  simp only[List.map_cons,Rw] at hn;cases hm:Fn (ren m j) (l.map λp=>ren m p.1) with
  | true=>rw[hm] at hn;cases hn
  | false =>
   rw[hm] at hn;have c:∀k r,look k l=some r->ren m k≠ren m j:=λk r z A=>by have:ren m j∈l.map λp=>ren m p.1:=bk.2 ⟨(k,r),R5 z,A⟩;rw[Ra.2 this] at hm;cases hm
   rw[Af] at h h';split at h<;>split at h'
   .next s f=>rw[s,f]
   .next s f=>exact dt (e ▸ s ▸ rfl:ren m b=ren m j) (c _ _ h')
   .next s f=>exact dt (e.trans (by rw[f])) (c _ _ h)
   .exact Tp hn h h' e
theorem Z4t (e:Sz n g=true)(f:n<=V2.n)(l:∀j,j < n->V2.b j=V.b j/\V2.s j=V.s j)(h:CRep I V g x):CRep I V2 g x:=by
 cases g with
 | ptr k o=>have:=dn e;exact⟨bd this f,by rw[(l k this).1];exact h.2⟩
 | mp k=>have:=dn e;exact⟨bd this f,by rw[(l k this).1];exact h.2⟩
 | osl k=>have:=dn e;exact⟨bd this f,by rw[(l k this).2];exact h.2⟩
 | osv k a b c=>have:=dn e;exact⟨bd this f,by rw[(l k this).2];exact h.2⟩
 | _=>exact h
theorem RRep.val (E:Z0u n r=true)(J:n<=V2.n)(C:∀j,j < n->V2.b j=V.b j/\V2.s j=V.s j){k:Nat}(B:k < n)(z:V2.f k=V.f k)(h:RRep I V k w r):RRep I V2 k w r:=by
 have q:=(C k B).1;have A:=(C k B).2;cases r with
 | blk cs t =>
  obtain⟨T,O,M,F⟩:=h;exact⟨λb=>by rw[z,q];exact T b,O,by rw[q];exact M,F.1,λj g u L U=>Z4t (Ao (show Bw (Sz n) cs=true from E) g (au L)) J C (F.2 j g u L U)⟩
 | slc rows e sz=>exact⟨λb=>by rw[z,A];exact h.1 b,by rw[A];exact h.2⟩
 | vw rows e sz=>exact⟨λb=>by rw[z,A];exact h.1 b,by rw[A];exact h.2⟩
 | froz rows sz=>exact⟨λb=>by rw[z];exact h.1 b,by rw[A];exact h.2.1,h.2.2⟩
 | gone=>exact λb=>by rw[z];exact h b
 | mpI l=>exact⟨λb=>by rw[z,q];exact h.1 b,by rw[q];exact h.2⟩
 | mpS l=>exact⟨λb=>by rw[z,q];exact h.1 b,by rw[q];exact h.2⟩
 | sit s pos=>exact⟨λb=>by rw[z,q];exact h.1 b,by rw[q];exact h.2⟩
 | mpX l m ob=>exact⟨λb=>by rw[z,q];exact h.1 b,by rw[q];exact h.2⟩
 | mit j l D last m ob=>exact⟨λb=>by rw[z,q];exact h.1 b,by rw[q];exact h.2⟩
 | abs p=>exact⟨h.1,by rw[z,q];exact h.2⟩
 | lnk j=>cases E
 | adr j b =>
  have H:=dn (show Nat.blt j n=true from E);exact⟨λc=>by rw[z];exact h.1 c,bd H J,by rw[(C j H).1];exact h.2.2⟩
 | fam ps=>exact⟨h.1,by rw[z];exact h.2⟩
theorem Zck (O:Os):Loc (cl O):=λI I' b S w w' ⟨V,h1,h2,h3⟩ hI hos hs hb=>by have j:∀k r,look k O=some r->∀c,V.f k c->w'.heap[c]?=w.heap[c]?:=λk r e c h=>hb c ((h3 c).2 ⟨k,r,e,h⟩);exact⟨V,h1,⟨h2.num,λk r e=>(h2.each k r e).keep hI (.refl _) (h2.num k r e) rfl hos hs (j k r e),λk r c e h=>bd (h2.lt k r c e h) hs,h2.disj⟩,h3⟩
theorem W5 (h:Has I V own w)(hr:RRep I (V.push 0 undef λ_=>False) V.n w r):Later own I V w ((V.n,r)::own) I (V.push 0 undef λ_=>False) w :=
 Dl h (ab _ _) 0 undef (λ_=>False) (λ_ h=>h.elim) hr
theorem Z2 (h:Has I V own w){k:Nat}(j:look k own=some r):Later own I V w ((V.n,.adr k (V.b k))::own) I (V.push 0 undef λ_=>False) w:=by have e:=h.num k r j;exact W5 h ⟨λc f=>by simp[Va.push] at f,by show k < V.n+1;omega,by simp[Va.push,Nat.ne_of_lt e]⟩
theorem Jd (h:Has I V own w){g0:G}{u:Value}(b:CRep I V g0 u):CRep I V (Dk own g0) u:=by
 cases g0 with
 | osl i =>
  cases hl:look i own with
  | none=>simp only[Dk,hl];exact b
  | some r =>
   cases r with
   | froz rows sz =>
    simp only[Dk,hl];obtain⟨-,rfl⟩:=(show i < V.n/\u=V.s i from b);exact(h.each i _ hl).2.1
   | _=>simp only[Dk,hl];exact b
 | osv i sz lo hi =>
  cases hl:look i own with
  | none=>simp only[Dk,hl];exact b
  | some r =>
   cases r with
   | froz rows sz' =>
    simp only[Dk,hl];cases e:Nat.beq sz sz' with
    | false=>exact b
    | true =>
     have e:=ax e;subst e;obtain⟨-,⟨l,p⟩,rfl⟩:=(show i < V.n/\(lo<=hi/\hi<=Mz (V.s i))/\u=Kv sz (V.s i) lo hi from b);obtain⟨-,c,j⟩:=h.each i _ hl;have f:Mz (V.s i)=rows.length:=by generalize V.s i=z at c;cases c;rfl
     exact V7 c j l (by omega)
   | _=>simp only[Dk,hl];exact b
 | tt=>cases(show VRep I .tt u from b);exact .v _
 | ff=>cases(show VRep I .ff u from b);exact .v _
 | _=>exact b
theorem Xu (h:Has I V own w){k:Nat}{cs:List G}{ty:Nat}(b:look k own=some (.blk cs ty)):Later own I V w ((k,.blk (cs.map (Dk own)) ty)::own) I V w:=by refine Dj h b rfl rfl rfl rfl (λ_ _=>rfl) ?_;obtain⟨p,s,f,e⟩:=h.each k _ b;refine⟨p,s,f,by simpa using e.1,λj g u c l=>?_⟩;rw[ay] at c;obtain⟨g0,q,rfl⟩:=bh.1 c;exact Jd h (e.2 j g0 u q l)
theorem X1 {n:Nat}{K:Os->Nat->Prop}(p:Gh K own n):∀{V:Va},V.n=n->Has I V own w->∃own' I' V',K own' V'.n/\Later own I V w own' I' V' w:=by
 induction p generalizing I with
 | done hk=>exact λ{V} f h=>⟨_,I,V,by rw[f];exact hk,.refl h⟩
 | adr k r hk _ ih =>
  intro V f h;subst f;have c:=Z2 h hk;obtain⟨o,I',V',j,l⟩:=ih (V.b k) (V:=V.push 0 undef λ_=>False) rfl c.has;exact⟨o,I',V',j,c.trans l⟩
 | frz k rows e sz hk _ ih =>
  intro V f h;subst f;obtain⟨q,c,-,-⟩:=Jx h hk;obtain⟨o,I',V',j,l⟩:=ih (V:=V.drop k) rfl c.has;exact⟨o,I',V',j,c.trans l⟩
 | seen k cs ty hk _ ih =>
  intro V f h;subst f;have c:=Xu h hk;obtain⟨o,I',V',j,l⟩:=ih (V:=V) rfl c.has;exact⟨o,I',V',j,c.trans l⟩
end
def inC (k:Nat):G->Prop
 | .ptr j _ | .osl j | .osv j _ _ _ | .oel j _ _ _ | .mp j=>j=k
 | _=>False
def in1 (k:Nat):G->Prop
 | .oag l=>∃g∈l,inC k g
 | .clo _ a c=>∃g,(g∈a\/g∈c)/\inC k g
 | g=>inC k g
def Gath (F:List Nat->(List Nat->Prop)->Prop)(p:Nat->Prop):Prop:=∀l:List Nat,∃b:List Nat,(∀K:List Nat->Prop,F l K=K b)/\(∀j,j∈l->j∈b)/\(∀j,p j->j∈b)/\(l.Nodup->b.Nodup)
theorem Gath.none:Gath (λl K=>K l) (λ_=>False):=λl=>⟨l,λ_=>rfl,λ_ h=>h,λ_ h=>h.elim,λh=>h⟩
theorem Gath.seq {F e:List Nat->(List Nat->Prop)->Prop}{p c:Nat->Prop}(h:Gath F p)(f:Gath e c):Gath (λl K=>F l λl=>e l K) (λj=>p j\/c j):=λl=>by obtain⟨q,a1,a2,A,B⟩:=h l;obtain⟨s,b1,b2,b3,b4⟩:=f q;exact⟨s,λK=>(a1 _).trans (b1 K),λj b=>b2 j (a2 j b),λj b=>b.elim (λh=>b2 j (A j h)) (λh=>b3 j h),λz=>b4 (B z)⟩
theorem Gath.sub {F:List Nat->(List Nat->Prop)->Prop}{p b:Nat->Prop}(h:Gath F p)(c:∀j,b j->p j):Gath F b:=λl=>by obtain⟨q,a1,a2,f,s⟩:=h l;exact⟨q,a1,a2,λj e=>f j (c j e),s⟩
theorem Hi (k:Nat):Gath (λl K=>Hl k l K) (λj=>j=k):=λl=>by
 induction l with
 | nil=>exact⟨[k],λ_=>rfl,λj h=>by simp at h,λj h=>by simp[h],λ_=>by simp⟩
 | cons i l ih =>
  obtain⟨c,p,z,C,A⟩:=ih;have f:∀j,j∈c->j∈l\/j=k:=by
   have:∀(l:List Nat) (c:List Nat),(∀K:List Nat->Prop,Hl k l K=K c)->∀j,j∈c->j∈l\/j=k:=λl=>by
    induction l with
    | nil=>intro c h j b;have e:=h (λr=>r=[k]);simp[Hl] at e;rw[e] at b;exact .inr (by simpa using b)
    | cons i l ih =>
     intro c h j b;cases hb:Nat.beq k i with
     | true =>
      have e:=h (λr=>r=i::l);unfold Hl at e;rw[hb] at e;simp at e;rw[e] at b;exact .inl b
     | false =>
      have e:∃r,c=i::r/\∀K:List Nat->Prop,Hl k l K=K r:=by
       have key:∀l:List Nat,∃r,∀K:List Nat->Prop,Hl k l K=K r:=λl=>by
        induction l with
        | nil=>exact⟨[k],λ_=>rfl⟩
        | cons i l ih =>
         obtain⟨r,hr⟩:=ih;cases hb:Nat.beq k i with
         | true=>exact⟨i::l,λK=>by unfold Hl;rw[hb]⟩
         | false=>exact⟨i::r,λK=>by unfold Hl;rw[hb];exact hr _⟩
       obtain⟨r,hr⟩:=key l;refine⟨r,?_,hr⟩;have e:=h (λq=>q=i::r);unfold Hl at e;rw[hb] at e;dsimp only at e;rw[hr] at e;simp at e;exact e
      obtain⟨r,rfl,hr⟩:=e;rcases bq.1 b with rfl | b
      .exact .inl (by simp)
      .exact(ih r hr j b).imp (λh=>by simp[h]) id
   exact this l c p
  cases hb:Nat.beq k i with
  | true =>
   have:=ax hb;subst this;exact⟨k::l,λK=>by show Hl k (k::l) K=_;unfold Hl;rw[hb],λj b=>b,λj b=>by simp[b],λh=>h⟩
  | false =>
   refine⟨i::c,λK=>by show Hl k (i::l) K=_;unfold Hl;rw[hb];exact p _,λj b=>?_,λj b=>by simp[C j b],λh=>?_⟩
   .rcases bq.1 b with rfl | b
    .simp
    .simp[z j b]
   .have s:=List.nodup_cons.1 h;refine List.nodup_cons.2 ⟨λB=>?_,A s.2⟩;rcases f i B with h | h
    .exact s.1 h
    .subst h;rw[Nat.beq_refl] at hb;cases hb
theorem Nu (g:G):Gath (λl K=>gkC g l K) (λj=>inC j g):=by
 cases g with
 | ptr k o=>exact(Hi k).sub λj h=>Eq.symm h
 | osl k=>exact(Hi k).sub λj h=>Eq.symm h
 | osv k a b c=>exact(Hi k).sub λj h=>Eq.symm h
 | oel k a b c=>exact(Hi k).sub λj h=>Eq.symm h
 | mp k=>exact(Hi k).sub λj h=>Eq.symm h
 | _=>exact Gath.none.sub λj h=>h
theorem Mb:∀l:List G,Gath (λks K=>Z9u l ks K) (λj=>∃g∈l,inC j g)
 | []=>Gath.none.sub λj h=>by simp at h
 | g::l=>((Nu g).seq (Mb l)).sub λj ⟨b,h,hk⟩=>by
  rcases bq.1 h with rfl | h
  .exact .inl hk
  .exact .inr ⟨b,h,hk⟩
theorem Zc4 (g:G):Gath (λl K=>gk1 g l K) (λj=>in1 j g):=by
 cases g with
 | oag l=>exact Mb l
 | clo f a c=>exact((Mb a).seq (Mb c)).sub λj ⟨g,h,hk⟩=>h.imp (λh=>⟨g,h,hk⟩) (λh=>⟨g,h,hk⟩)
 | ptr k o=>exact Nu (.ptr k o)
 | osl k=>exact Nu (.osl k)
 | osv k a b c=>exact Nu (.osv k a b c)
 | oel k a b c=>exact Nu (.oel k a b c)
 | mp k=>exact Nu (.mp k)
 | _=>exact Gath.none.sub λj h=>h
theorem Z7e:∀l:List G,Gath (λks K=>gkL l ks K) (λj=>∃g∈l,in1 j g)
 | []=>Gath.none.sub λj h=>by simp at h
 | g::l=>((Zc4 g).seq (Z7e l)).sub λj ⟨b,h,hk⟩=>by
  rcases bq.1 h with rfl | h
  .exact .inl hk
  .exact .inr ⟨b,h,hk⟩
theorem J0 {k:Nat}:∀{ks:List Nat} {j:Nat},k∈ks->∃i,look k (Ii ks j)=some (j+i)/\ks[i]?=some k
 | [],_,h=>by simp at h
 | k0::ks,j,h=>by
  unfold Ii;rw[Af];by_cases e:k=k0
  .subst e;exact⟨0,by simp,rfl⟩
  .rw[dp e];obtain⟨i,c,b⟩:=J0 (ks:=ks) (j:=j+1) ((bq.1 h).resolve_left e);exact⟨i+1,by rw[c];congr 1;omega,by simpa using b⟩
theorem R3 (own:Os):∀l:List Nat,Gath (λb K=>O7 own l b K) (λ_=>False)
 | []=>Gath.none
 | k::l=>λb=>by
  have c:=R3 own l;show ∃e:List Nat,(∀K:List Nat->Prop,O7 own (k::l) b K=K e)/\_;unfold O7;split
  .exact(((Mb _).seq c).sub λj h=>h.elim) b
  .exact c b
theorem Yq (own:Os):∀n:Nat,Gath (λks K=>trK own n ks K) (λ_=>False)
 | 0=>Gath.none
 | n+1=>λks=>by obtain⟨b,a1,a2,-,e⟩:=R3 own ks ks;obtain⟨c,b1,b2,-,b4⟩:=Yq own n b;exact⟨c,λK=>(a1 _).trans (b1 K),λj h=>b2 j (a2 j h),λj h=>h.elim,λh=>b4 (e h)⟩
theorem Wq {ks:List Nat}{r:R}(h:Lp r=true):Z2m ks r=true:=by
 cases r with
 | lnk j=>cases h
 | adr j b=>cases h
 | blk cs t =>
  have key:∀{l:List G},Bw Cd l=true->Bw (Ze6 ks) l=true:=λ{l}=>by
   induction l with
   | nil=>intro _;rfl
   | cons g l ih =>
    intro h;unfold Bw at h⊢;cases hg:Cd g with
    | false=>rw[hg] at h;cases h
    | true =>
     rw[hg] at h;have:Ze6 ks g=true:=by cases g<;>first | rfl | cases hg
     rw[this];exact ih h
  exact key (show Bw Cd cs=true from h)
 | _=>rfl
theorem Z6i {own:Os}{b:List Nat}:∀{ks:List Nat} {K:List R->Prop},rsK own b ks K->∃rs:List R,K rs/\rs.length=ks.length/\∀(i k:Nat),ks[i]?=some k->∃r,rs[i]?=some (Lc (Ii b 0) r)/\look k own=some r/\Z2m b r=true
 | [],K,h=>⟨[],h,rfl,λi k h=>by simp at h⟩
 | k::ks,K,h=>by
  unfold rsK at h;cases hr:look k own with
  | none=>rw[hr] at h;exact h.elim
  | some r =>
   rw[hr] at h;dsimp only at h;have key:Z2m b r=true->rsK own b ks (λrs=>K (Lc (Ii b 0) r::rs))->∃rs:List R,K rs/\rs.length=(k::ks).length/\∀(i e:Nat),(k::ks)[i]?=some e->∃r,rs[i]?=some (Lc (Ii b 0) r)/\look e own=some r/\Z2m b r=true:=λc h=>by
    obtain⟨rs,l,j,p⟩:=Z6i h;refine⟨_,l,by simp[j],λi e f=>?_⟩;cases i with
    | zero=>simp at f;subst f;exact⟨r,rfl,hr,c⟩
    | succ i=>simpa using p i e (by simpa using f)
   cases hn:Lp r with
   | true =>
    rw[hn] at h;exact key (Wq hn) (by rw[Ke hn];exact h)
   | false =>
    rw[hn] at h;dsimp only at h;cases c:Z2m b r with
    | false=>rw[c] at h;exact h.elim
    | true=>rw[c] at h;exact key c h
section
variable {P:Program} {I I' I0:Imm} {V V1 V' V0:Va} {w w' w0:World} {own own0 own':Os} {k n N:Nat} {g:G} {x y:Value} {r:R} {ks:List Nat} {rs:List R} {a:Act} {t:Ts} {o:Oper}
theorem Lz (p:∀k,inC k g->k∈ks)(h:CRep I V g x):CRep I (V.lend ks) (Mt (Ii ks 0) g) x:=by
 have key:∀k,inC k g->∃i,(look k (Ii ks 0)).getD k=i/\i < ks.length/\(V.lend ks).b i=V.b k/\(V.lend ks).s i=V.s k:=λk q=>by obtain⟨i,e,f⟩:=J0 (j:=0) (p k q);refine⟨i,by rw[e];simp,(ar.1 f).1,?_,?_⟩<;>simp[Va.lend,Bf f]
 cases g with
 | ptr k o=>obtain⟨i,e,f,l,-⟩:=key k rfl;exact⟨by rw[e];exact f,by rw[e,l];exact h.2⟩
 | osl k=>obtain⟨i,e,f,-,l⟩:=key k rfl;exact⟨by rw[e];exact f,by rw[e,l];exact h.2⟩
 | osv k a b c=>obtain⟨i,e,f,-,l⟩:=key k rfl;exact⟨by rw[e];exact f,by rw[e,l];exact h.2⟩
 | mp k=>obtain⟨i,e,f,l,-⟩:=key k rfl;exact⟨by rw[e];exact f,by rw[e,l];exact h.2⟩
 | _=>exact h
theorem Z36 {l:List G}{f:List Value}(b:∀k g,g∈l->inC k g->k∈ks)(h:PW (CRep I V) l f):PW (CRep I (V.lend ks)) (l.map (Mt (Ii ks 0))) f :=
 ⟨by simpa using h.1,λj g u e s=>by rw[ay] at e;obtain⟨g0,c,q⟩:=bh.1 e;subst q;exact Lz (λk p=>b k g0 (au c) p) (h.2 j g0 u c s)⟩
theorem RRep.lendK {j:Nat}(A:Z2m ks r=true)(h:RRep I V k w r)(q:(V.lend ks).b j=V.b k)(B:(V.lend ks).s j=V.s k)(z:(V.lend ks).f j=V.f k):RRep I (V.lend ks) j w (Lc (Ii ks 0) r):=by
 cases r with
 | blk cs t =>
  obtain⟨E,L,C,U⟩:=h;refine⟨λb=>by rw[z,q];exact E b,L,by rw[q];exact C,Z36 (λk g T F=>?_) U⟩;have J:=Ao (show Bw (Ze6 ks) cs=true from A) g T;cases g<;>first | (obtain rfl:=(show _=k from F);exact Cc.1 J) | exact F.elim
 | slc rows e sz=>exact⟨λb=>by rw[z,B];exact h.1 b,by rw[B];exact h.2⟩
 | vw rows e sz=>exact⟨λb=>by rw[z,B];exact h.1 b,by rw[B];exact h.2⟩
 | froz rows sz=>exact⟨λb=>by rw[z];exact h.1 b,by rw[B];exact h.2.1,h.2.2⟩
 | gone=>exact λb=>by rw[z];exact h b
 | mpI l=>exact⟨λb=>by rw[z,q];exact h.1 b,by rw[q];exact h.2⟩
 | mpS l=>exact⟨λb=>by rw[z,q];exact h.1 b,by rw[q];exact h.2⟩
 | sit s pos=>exact⟨λb=>by rw[z,q];exact h.1 b,by rw[q];exact h.2⟩
 | mpX l m ob=>exact⟨λb=>by rw[z,q];exact h.1 b,by rw[q];exact h.2⟩
 | mit i l D last m ob=>exact⟨λb=>by rw[z,q];exact h.1 b,by rw[q];exact h.2⟩
 | abs p=>exact⟨h.1,by rw[z,q];exact h.2⟩
 | lnk j=>cases A
 | adr i b =>
  obtain⟨M,W,H⟩:=h;obtain⟨O,E,C⟩:=J0 (j:=0) (Cc.1 (show Fn i ks=true from A));have e:(look i (Ii ks 0)).getD i=O:=by rw[E];simp
  refine⟨λc=>by rw[z];exact M c,?_,?_⟩
  .show(look i (Ii ks 0)).getD i < (V.lend ks).n;rw[e];exact(ar.1 C).1
  .show(V.lend ks).b ((look i (Ii ks 0)).getD i)=b;rw[e];simpa [Va.lend,Bf C] using H
 | fam ps=>exact⟨h.1,by rw[z];exact h.2⟩
theorem Z45 (hH:Has I V own w)(hd:ks.Nodup)(H:rs.length=ks.length)(hr:∀(i k:Nat),ks[i]?=some k->∃r,rs[i]?=some (Lc (Ii ks 0) r)/\look k own=some r/\Z2m ks r=true):Has I (V.lend ks) (Ev rs 0) w:=by
 have key:∀i r',look i (Ev rs 0)=some r'->∃k r,ks[i]?=some k/\look k own=some r/\Z2m ks r=true/\r'=Lc (Ii ks 0) r:=λi r' h=>by
  rw[Bl] at h;have C:=(ar.1 h).1;have q:i < ks.length:=by omega
  obtain⟨r,c,j,B⟩:=hr i ks[i] (aq q);rw[h] at c;cases c;exact⟨_,r,aq q,j,B,rfl⟩
 refine⟨hH.mem,λi r h=>?_,λi r h=>?_,λi r b h l=>?_,λi F r r' b h E l e=>?_⟩
 .obtain⟨k,-,c,-⟩:=key i r h;exact(ar.1 c).1
 .obtain⟨k,s,c,j,B,rfl⟩:=key i r h;exact(hH.each k s j).lendK B (by simp[Va.lend,Bf c]) (by simp[Va.lend,Bf c]) (by simp[Va.lend,Bf c])
 .obtain⟨k,s,c,j,-⟩:=key i r h;have l:V.f k b:=by simpa [Va.lend,Bf c] using l
  exact hH.foot k s b j l
 .obtain⟨k,s,c,j,-⟩:=key i r h;obtain⟨D,z,p,A,-⟩:=key F r' E;have l:V.f k b:=by simpa [Va.lend,Bf c] using l
  have e:V.f D b:=by simpa [Va.lend,Bf p] using e
  have:=hH.disj k D s z b j A l e;subst this;have C:=(ar.1 c).1;exact(List.getElem?_inj C hd).1 (by rw[c,p])
theorem Z90 (p:∀k,in1 k g->k∈ks)(h:PRep I V g x):PRep I (V.lend ks) (Q1 (Ii ks 0) g) x:=by
 cases g with
 | ptr k o=>exact Lz (I:=I) (g:=.ptr k o) p h
 | osl k=>exact Lz (I:=I) (g:=.osl k) p h
 | osv k a b c=>exact Lz (I:=I) (g:=.osv k a b c) p h
 | mp k=>exact Lz (I:=I) (g:=.mp k) p h
 | oel k i sz off =>
  obtain⟨q,h⟩:=(show k < V.n/\_ from h);obtain⟨J,D,C⟩:=J0 (j:=0) (p k rfl);have e:(look k (Ii ks 0)).getD k=J:=by rw[D];simp
  refine(show TRep1 I (V.lend ks) (.oel ((look k (Ii ks 0)).getD k) i sz off) x from ?_);rw[e];exact⟨(ar.1 C).1,by simpa [Va.lend,Bf C] using h⟩
 | orv k i s o l c=>cases(show VRep I (.orv k i s o l c) x from h)
 | clo f a c =>
  obtain⟨H,F,cs,e,D,C⟩:=h;refine⟨?_,F,cs,e,Z36 (λk g A q=>p k ⟨g,.inl A,q⟩) D,Z36 (λk g A q=>p k ⟨g,.inr A,q⟩) C⟩;obtain⟨g,A,q⟩:=H;have B:Cd (Mt (Ii ks 0) g)=false:=by cases g<;>first | rfl | cases q
  exact⟨Mt (Ii ks 0) g,A.imp (λh=>bk.2 ⟨g,h,rfl⟩) (λh=>bk.2 ⟨g,h,rfl⟩),B⟩
 | v z=>exact h
 | tt=>exact h
 | ff=>exact h
 | un=>exact h
 | nl=>exact h
 | agg l=>exact h
 | sl l=>exact h
 | oag l =>
  obtain⟨⟨g,A,q⟩,cs,e,E⟩:=(show(∃g∈l,Cd g=false)/\TRep1 I V (.oag l) x from h);have B:Cd (Mt (Ii ks 0) g)=false:=by cases g<;>first | rfl | cases q
  exact(show(∃g∈l.map (Mt (Ii ks 0)),Cd g=false)/\TRep1 I (V.lend ks) (.oag (l.map (Mt (Ii ks 0)))) x from⟨⟨_,bk.2 ⟨g,A,rfl⟩,B⟩,cs,e,Z36 (λk g A q=>p k ⟨g,A,q⟩) E⟩)
 | tup l=>cases(show VRep I (.tup l) x from h)
 | elp l o=>cases(show VRep I (.elp l o) x from h)
theorem Ux (own:Os):∀l:Os,Gath (λks K=>Vo own l ks K) (λ_=>False)
 | []=>Gath.none
 | (k,r)::l=>λks=>by
  have c:=Ux own l;have skip:(∀K:List Nat->Prop,Vo own ((k,r)::l) ks K=Vo own l ks K)->∃b:List Nat,(∀K:List Nat->Prop,Vo own ((k,r)::l) ks K=K b)/\(∀j,j∈ks->j∈b)/\(∀j,False->j∈b)/\(ks.Nodup->b.Nodup):=λA=>by obtain⟨b,f,e,B,p⟩:=c ks;exact⟨b,λK=>(A K).trans (f K),e,B,p⟩
  cases hl:look k own with
  | none=>exact skip λK=>by show Vo own ((k,r)::l) ks K=_;conv=>lhs;unfold Vo;rw[hl]
  | some q =>
   cases q with
   | fam ps =>
    obtain⟨s,a1,a2,-,C⟩:=Hi k ks;obtain⟨z,b1,b2,-,b4⟩:=c s;refine⟨z,λK=>?_,λj h=>b2 j (a2 j h),λj h=>h.elim,λh=>b4 (C h)⟩;show Vo own ((k,r)::l) ks K=_;unfold Vo;rw[hl];exact(a1 (λr=>Vo own l r K)).trans (b1 K)
   | _=>exact skip λK=>by show Vo own ((k,r)::l) ks K=_;conv=>lhs;unfold Vo;rw[hl]
theorem Z52 (vs:Bool)(gs:List G)(own:Os):Gath (λks K=>Z8q vs gs own ks K) (λ_=>False):=λks=>by
 cases hb:Zfr vs gs ks with
 | false=>exact⟨ks,λK=>by show Z8q vs gs own ks K=_;unfold Z8q;rw[hb],λj h=>h,λj h=>h.elim,λh=>h⟩
 | true =>
  obtain⟨f,c,b,l,e⟩:=Ux own own ks;exact⟨f,λK=>by show Z8q vs gs own ks K=_;unfold Z8q;rw[hb];exact c K,b,l,e⟩
def Hj (mo:Mo)(own:Os)(I:Imm)(V:Va)(w:World)(K:G->Os->Nat->Prop)(e:Ending)(w':World):Prop :=
 ∃x g own' I' V',e=.returned x/\K g own' V'.n/\Later own I V w own' I' V' w'/\TRep I' V' g x/\(mo.loose=false->∃ks:List Nat,mo.lends ks=true/\(∀k∈ks,k < V.n)/\(∀b,b < w.heap.size->(∀k∈ks,¬V.f k b)->w'.heap[b]?=w.heap[b]?)/\∀k,k < V.n->∀b,V'.f k b->V.f k b\/(ks≠[]/\((∃c∈ks,V.f c b)\/w.heap.size<=b)))
theorem W2 {f:FuncId}{mo:Mo}{gs:List G}{vs:List Value}{B C:Prop}{K:G->Os->Nat->Prop}{Z:Prop}(h:Z27 P f mo gs own V.n B C K)(hH:Has I V own w)(hg:PW (PRep I V) gs vs)(hB:B->Z)(hC:C->Z)(hR:Ent P f/\Calls P f vs.toArray w (Hj mo own I V w K)->Z):Z:=by
 unfold Z27 at h;obtain⟨l,X,-,q3,q4⟩:=Z7e gs [];obtain⟨D,O,r2,-,r4⟩:=Z52 mo.isVs gs own l;obtain⟨ks,M,k2,-,k4⟩:=Yq own 3 D;have hd:ks.Nodup:=k4 (r4 (q4 (by simp)));have k3:∀j,(∃g∈gs,in1 j g)->j∈ks:=λj h=>k2 j (r2 j (q3 j h));have X:∀K:List Nat->Prop,gkL gs [] K=K l:=X;have O:∀K:List Nat->Prop,Z8q mo.isVs gs own l K=K D:=O;have M:∀K:List Nat->Prop,trK own 3 D K=K ks:=M;rw[X,O,M] at h;have A:PW (PRep I (V.lend ks)) (gs.map (Q1 (Ii ks 0))) vs:=⟨by simpa using hg.1,λj g u s p=>by rw[ay] at s;obtain⟨g0,F,rfl⟩:=bh.1 s;exact Z90 (λk E=>k3 k ⟨g0,au F,E⟩) (hg.2 j g0 u F p)⟩
 have q:mo.lends ks=true->∀rs:List R,rs.length=ks.length->(∀(i k:Nat),ks[i]?=some k->∃r,rs[i]?=some (Lc (Ii ks 0) r)/\look k own=some r/\Z2m ks r=true)->FnO P f (gs.map (Q1 (Ii ks 0))) rs (λg rs=>Z1b ks own V.n g rs K)->Ent P f/\Calls P f vs.toArray w (Hj mo own I V w K):=λc rs L hr hF=>by
  refine⟨hF.1,(hF.2 I (V.lend ks) w vs (Z45 hH hd L hr) (by rw[L];rfl) A).mono λe w' ⟨x,g,rs',I',V1,he,hq,hn,s,hx,hfro,hle⟩=>?_⟩;obtain⟨l1,l2⟩:=Wb hH hd L (λi k E=>by obtain⟨r,s,p,-⟩:=hr i k E;exact⟨r,_,s,p⟩) hn s hfro hle;have lent:∀j r b,look j (Ev rs 0)=some r->(V.lend ks).f j b->∃k∈ks,V.f k b:=λj r b h z=>by
   rw[Bl] at h;have J:=(ar.1 h).1;have H:j < ks.length:=by omega
   have e:=Bf (n:=0) (aq H:ks[j]?=some ks[j]);exact⟨ks[j],bw H,by simpa [Va.lend,e] using z⟩
  refine⟨x,_,_,I',V.back ks V1,he,(by have:=Z8a hq;rw[show V.n+(rs'.length - ks.length)=(V.back ks V1).n by show _=V.n+(V1.n - ks.length);rw[hn]] at this;exact this),l1,l2 g x hx.to_t,λ_=>⟨ks,c,λk E=>?_,λb U Y=>(hfro.blk b U λj r J z=>?_).1,λk E b U=>?_⟩⟩
  .obtain⟨i,hi,e⟩:=ct.1 E;obtain⟨r,-,p,-⟩:=hr i k (by rw[aq hi,e]);exact hH.num k r p
  .obtain⟨k,p,F⟩:=lent j r b J z;exact Y k p F
  .rcases U with⟨i,hi,e,z⟩ | ⟨-,z⟩
   .cases hks:ks with
    | nil=>subst hks;rw[Dp] at e;omega
    | cons k0 l =>
     rw[<-hks];refine .inr ⟨by rw[hks];simp,?_⟩;by_cases hlt:b < w.heap.size
     .have W:i < rs'.length:=by omega
      obtain⟨j,r',J,T⟩:=hfro.foot i _ b (by rw[Bl];exact aq W) z hlt;exact .inl (lent j r' b J T)
     .exact .inr (by omega)
   .exact .inl z
 cases c:mo.lends ks with
 | false=>rw[c] at h;exact h.elim
 | true =>
  rw[c] at h;dsimp only at h;cases ks with
  | nil =>
   cases h with
   | lend h=>exact hB h
   | gh h=>exact hC h
   | pure h =>
    refine hR (q c [] rfl (λi k h=>by simp at h) ?_);have e:gs.map (Q1 (Ii [] 0))=gs:=by show gs.map (Q1 [])=gs;rw[funext Z43];simp
    rw[e];exact h
  | cons k0 l =>
   obtain⟨rs,s,p,F⟩:=Z6i h;cases s with
   | lend h=>exact hB h
   | gh h=>exact hC h
   | pure h=>exact hR (q c rs p F h)
theorem Z9o (h:TRep I V g x)(b:g.lent=true):PRep I V (Z2q g) x:=by
 cases g with
 | nl=>cases(show VRep I .nl x from h);exact .sl [] none 0 0 (λ_ _=>undef) (av _) (λ_=>rfl) (by simp) (λi r h=>by simp at h) (λi r j g h=>by simp at h)
 | tt=>cases(show VRep I .tt x from h);exact .v _
 | ff=>cases(show VRep I .ff x from h);exact .v _
 | oag l =>
  have key:∀{l:List G},Mv (λg=>match Cd g with | true=>false | false=>true) l=true->∃g∈l,Cd g=false:=λ{l} b=>by
   induction l with
   | nil=>cases b
   | cons g l ih =>
    unfold Mv at b;cases hg:Cd g with
    | false=>exact⟨g,by simp,hg⟩
    | true =>
     rw[hg] at b;obtain⟨f,p,e⟩:=ih b;exact⟨f,by simp[p],e⟩
  exact⟨key b,h⟩
 | tup l=>cases b
 | orv k i s o l c=>cases b
 | elp l o=>cases b
 | _=>exact h
theorem Po {f:FuncId}{mo:Mo}{gs:List G}{vs:List Value}{C:Prop}{K:G->Os->Nat->Prop}(h:lendK P f mo gs own V.n C K)(hH:Has I V own w)(e:PW (TRep I V) gs vs)(q:C->Ent P f/\Calls P f vs.toArray w (Hj mo own I V w K)):Ent P f/\Calls P f vs.toArray w (Hj mo own I V w K):=by
 unfold lendK at h;split at h
 .next p =>
  refine W2 h hH ⟨by simpa using e.1,λj g u b l=>?_⟩ False.elim q id;rw[ay] at b;obtain⟨g0,c,rfl⟩:=bh.1 b;exact Z9o (e.2 j g0 u c l) (Ao p g0 (au c))
 .exact h.elim
theorem Zau {g:G}{x:Value}(hH:Has I V own w)(h:TRep I V g x):TRep I V (Zen own g) x:=by
 have c:∀{g:G} {x:Value},CRep I V g x->CRep I V (Dk own g) x:=λ{g x} h=>Jd hH h;cases g with
 | osl k=>exact .of_c (c (g:=.osl k) h)
 | osv k sz lo hi=>exact .of_c (c (g:=.osv k sz lo hi) h)
 | oag l =>
  unfold Zen;dsimp only;split
  .next f =>
   obtain⟨cs,rfl,e⟩:=(show TRep1 I V (.oag l) x from h);refine .of_v (.agg _ cs (by simpa using e.1) λj g u b p=>?_);have q:=Ao f g (au b);rw[ay] at b;obtain⟨g0,s,rfl⟩:=bh.1 b;exact(c (e.2 j g0 u s p)).to_v q
  .exact h
 | _=>exact h
theorem Z1j {f:FuncId}{gs:List G}{K:G->Os->Nat->Prop}{n:Nat}(h:Z6l P f own n K gs)(hH:Has I V own w):∀{vs:List Value},V.n=n->PW (TRep I V) gs vs->Ent P f/\Calls P f vs.toArray w λe w'=>∃x g own' I' V',e=.returned x/\K g own' V'.n/\Later own I V w own' I' V' w'/\TRep I' V' g x:=by
 induction h with
 | same h =>
  intro vs l s;subst l;obtain⟨M,H⟩:=Po h hH s False.elim;refine⟨M,H.mono λe w' ⟨x,g,own',I',V',he,E,hl,hx,z⟩=>?_⟩;obtain⟨A,J,V2,F,C⟩:=X1 E rfl hl.has;exact⟨x,g,A,J,V2,he,F,hl.trans C,hx.mono C.fro.mono C.va⟩
 | see _ ih =>
  intro vs l s;refine ih l ⟨by simpa using s.1,λj g u c B=>?_⟩;rw[ay] at c;obtain⟨g0,E,rfl⟩:=bh.1 c;exact Zau hH (s.2 j g0 u E B)
 | @rawA p q gs b off j k hj _ ih =>
  intro vs l s;refine ih l ?_;obtain⟨v,L,rfl,O,l⟩:=s.uncons;obtain⟨-,D,T⟩:=hH.each j _ hj;cases(show VRep I (.agg _) v from O) with
  | agg _ cs hl hc =>
   refine .cons (show TRep I V (.oag _) _ from⟨cs,rfl,by simpa using hl,λm g u c B=>?_⟩) l;rcases Nat.lt_trichotomy m p.length with z | z | z
   .rw[bu z] at c;exact .of_v (hc m g u (by rw[bu z];exact c) B)
   .subst z;rw[bp (av _),Nat.sub_self] at c;cases c;have e:=hc p.length (.v (.pointer (some ⟨_,_,none⟩))) u (by rw[bp (av _),Nat.sub_self];rfl) B;cases e;exact⟨D,by rw[T]⟩
   .obtain⟨i,rfl⟩:∃i,m=p.length+(i+1):=⟨m - p.length - 1,by omega⟩;rw[bp (by omega),Nat.add_sub_cancel_left] at c;exact .of_v (hc _ g u (by rw[bp (by omega),Nat.add_sub_cancel_left];exact c) B)
theorem Y7 {f:FuncId}{mo:Mo}{gs:List G}{vs:List Value}{K:G->Os->Nat->Prop}(h:ghK P f mo gs own V.n K)(hH:Has I V own w)(s:PW (TRep I V) gs vs):Ent P f/\Calls P f vs.toArray w (Hj mo own I V w K):=by
 cases mo with
 | row =>
  obtain⟨j,z,V1,l,b⟩:=X1 h rfl hH;obtain⟨q,p⟩:=Z1j l b.has rfl (s.mono λ_ _ h=>h.mono b.fro.mono b.va);exact⟨q,p.mono λe w' ⟨x,g,own2,I2,V2,he,hk,hl,hx⟩=>⟨x,g,own2,I2,V2,he,hk,b.trans hl,hx,λc=>by cases c⟩⟩
 | late =>
  obtain⟨j,z,V1,l,b⟩:=X1 h rfl hH;obtain⟨q,p⟩:=Z1j l b.has rfl (s.mono λ_ _ h=>h.mono b.fro.mono b.va);exact⟨q,p.mono λe w' ⟨x,g,own2,I2,V2,he,hk,hl,hx⟩=>⟨x,g,own2,I2,V2,he,hk,b.trans hl,hx,λc=>by cases c⟩⟩
 | _=>exact h.elim
theorem Z4m {f:FuncId}{mo:Mo}{gs p q:List G}{vs:List Value}{K:G->Os->Nat->Prop}(h:Oc P f mo gs p q own V.n K)(hH:Has I V own w)(s:PW (TRep I V) (p++(gs++q)) vs):Ent P f/\Calls P f vs.toArray w (Hj mo own I V w K):=by
 unfold Oc at h;split at h
 .exact Y7 h hH s
 split at h
 .exact Po h hH s λD=>Y7 D hH s
 .obtain⟨H,J,W,V1,C,c,A,E⟩:=Z1q h s hH;have C:Z27 P f mo H J V1.n (lendK P f mo (p++(gs++q)) own V.n False K) (ghK P f mo (p++(gs++q)) own V.n K) K:=by rw[c.1];exact C
  refine W2 C A.has E (λz=>Po z hH s False.elim) (λD=>Y7 D hH s) fun⟨k1,k2⟩=>?_;refine⟨k1,k2.mono λe w' ⟨x,g,own',I',V',he,j,hl,hx,hm⟩=>⟨x,g,own',I',V',he,j,A.trans hl,hx,λB=>?_⟩⟩;obtain⟨ks,T,O,L,U⟩:=hm B;have l:∀k∈ks,k < V.n:=λk j=>by have:=O k j;omega
  refine⟨ks,T,l,λb z F=>L b z λk j M=>F k j (c.2 k (l k j) b M),λk j b z=>?_⟩;rcases U k (by omega) b z with h | ⟨h,⟨k',h2,h3⟩ | h3⟩
  .exact .inl (c.2 k j b h)
  .exact .inr ⟨h,.inl ⟨k',h2,c.2 k' (l k' h2) b h3⟩⟩
  .exact .inr ⟨h,.inr h3⟩
theorem Qk {f:FuncId}(l:Ent P f)(w:World)(args:Array Value):(callFunc f args).run P w=.ok (.enter f args) w:=by
 obtain⟨fn,j,h,b⟩:=l;have e:¬fn.name="runtime.NumGoroutine" := by simpa using h
 cases hb:fn.body with
 | none=>rw[hb] at b;cases b
 | some c=>simp[callFunc,j,e,hb]
def Z8v (P:Program)(t:Ts)(own:Os)(n:Nat)(mo:Mo)(cl:Call)(d:Option Tmp)(fo:Operand)(K:Ts->Os->Nat->Prop):Prop:=match fo with
 | .func f=>evs t own cl.args.toList λgs=>Oc P f mo gs [] [] own n λg w n=>K (put d g t) w n
 | .tmp j=>match look j t with
  | some (.clo f p q)=>evs t own cl.args.toList λgs=>Oc P f mo gs p q own n λg w n=>K (put d g t) w n
  | some (.v (.func (.func f) p q))=>match p.toList,q.toList with
   | [],[]=>evs t own cl.args.toList λgs=>Oc P f mo gs [] [] own n λg w n=>K (put d g t) w n
   | _,_=>False
  | _=>False
 | _=>False
theorem Z0h {mo:Mo}{cl:Call}{K:Ts->Os->Nat->Prop}{d:Option Tmp}{fo:Operand}(ha:ARep N I V a t)(hH:Has I V own w)(h:Z8v P t own n mo cl d fo K)(B:cl.callee=.value fo):∃(f:FuncId) (gs p q:List G) (vs:List Value),Oc P f mo gs p q own n (λg w n=>K (put d g t) w n)/\PW (TRep I V) (p++(gs++q)) vs/\∀ty (u:World),(do let d <-resolve a.eval cl ty;invoke d.target d.args:Sem Next).run P u=(callFunc f vs.toArray).run P u:=by
 unfold Z8v at h;obtain⟨callee,args,T⟩:=cl;dsimp only at B;subst B;have e:∀l:Array Operand,(l.toList.map a.eval).toArray=l.map a.eval:=λl=>by cases l;simp
 cases fo with
 | func f =>
  dsimp only at h;obtain⟨gs,j,s⟩:=Nq h ha hH;refine⟨f,gs,[],[],_,j,by simpa using s,λty u=>?_⟩;have b:a.eval (.func f)=.func (.func f) #[] #[]:=rfl;simp[resolve,Deferred.ofValue,b,invoke,e]
 | tmp d =>
  dsimp only at h;cases hl:look d t with
  | none=>rw[hl] at h;exact h.elim
  | some g =>
   rw[hl] at h;obtain⟨z,M,A⟩:=ha.get _ _ hl;have b:a.eval (.tmp d)=z:=by simp[Act.eval,M]
   cases g with
   | clo f p q =>
    obtain⟨gs,j,s⟩:=Nq h ha hH;obtain⟨-,F,cs,rfl,L,O⟩:=(show TRep1 I V (.clo f p q) z from A);refine⟨f,gs,p,q,F++(args.toList.map a.eval++cs),j,(L.mono λ_ _ h=>.of_c h).append (s.append (O.mono λ_ _ h=>.of_c h)),λty u=>?_⟩;simp[resolve,Deferred.ofValue,b,invoke,<-e]
   | v z' =>
    have H:=B0 A;subst H;split at h
    .next f p q c =>
     cases c
    .next f p q c =>
     cases c;split at h
     .next D C =>
      obtain⟨gs,j,s⟩:=Nq h ha hH;refine⟨f,gs,[],[],_,j,by simpa using s,λty u=>?_⟩;have J:p=#[]:=by cases p;simp at D;simp[D]
      have E:q=#[]:=by cases q;simp at C;simp[C]
      subst J E;simp[resolve,Deferred.ofValue,b,invoke,e]
     .exact h.elim
    .exact h.elim
   | _=>exact h.elim
 | _=>exact False.elim h
variable {XL:List Nat} {K:Ts->Os->Nat->Prop} {next:Act->World->Prop} {Q:Exit->Act->World->Prop}
theorem Pv {mo:Mo}{cl:Call}{fo:Operand}(s:o.op=.call cl)(j:cl.callee=.value fo)(hH:Has I V own w)(ha:ARep N I V a t)(hd:∀i,o.dst=some i->i < N)(h:Z8v P t own V.n mo cl o.dst fo K)
  (A:∀t own' I' V' l w',K t own' V'.n->Later own I V w own' I' V' w'->(mo.loose=false->∃ks:List Nat,mo.lends ks=true/\(∀k∈ks,k < V.n)/\(∀b,b < w.heap.size->(∀k∈ks,¬V.f k b)->w'.heap[b]?=w.heap[b]?)/\∀k,k < V.n->∀b,V'.f k b->V.f k b\/(ks≠[]/\((∃B∈ks,V.f B b)\/w.heap.size<=b)))->ARep N I' V' l t->next l w'):o.wp P a w next Q:=by
 obtain⟨f,gs,p,q,vs,C,E,c⟩:=Z0h ha hH h j;obtain⟨D,z⟩:=Z4m C hH E;have c:(execOp a.eval o).run P w=.ok (.enter f vs.toArray) w:=by have:=(c o.type w).trans (Qk D w vs.toArray);simpa only[execOp,s] using this
 unfold Oper.wp;rw[c,Oper.upon_enter];refine z.mono λe w' ⟨x,g,own',I',V',he,hk,hl,hx,hm⟩=>?_;subst he;exact A _ _ _ _ _ _ hk hl hm ((ha.mono hl.fro.mono hl.va).put hd hx)
theorem FnV.toO {f:FuncId}{gs:List G}{Q:G->Prop}(h:FnV P f gs Q):FnO P f gs [] λg rs=>rs=[]/\Q g :=
 ⟨h.1,λI V w vs hH A q=>by
  have C:PW (VRep I) gs vs:=q.mono λg x h=>by
   have A:V.n=0:=A;cases g with
   | ptr k o=>have:=h.1;omega
   | osl k=>have:=h.1;omega
   | osv k a b c=>have:=h.1;omega
   | oel k a b c=>have:=h.1;omega
   | orv k a b c d e=>cases(show VRep I (.orv k a b c d e) x from h)
   | mp k=>have:=h.1;omega
   | clo f a c =>
    obtain⟨⟨g,p,s⟩,D,cs,-,H,F⟩:=h;have key:∀{l:List G} {D:List Value},g∈l->PW (CRep I V) l D->False:=λB q=>by
     obtain⟨j,z,e⟩:=ct.1 B;obtain⟨u,-,hr⟩:=q.get (by rw[aq z,e]);cases g with
     | ptr k o=>have:=hr.1;omega
     | osl k=>have:=hr.1;omega
     | osv k a b c=>have:=hr.1;omega
     | oel k a b c=>exact hr
     | orv k a b c d e=>exact hr
     | mp k=>have:=hr.1;omega
     | _=>cases s
    rcases p with p | p
    .exact(key p H).elim
    .exact(key p F).elim
   | oag l =>
    obtain⟨⟨g,p,s⟩,cs,e,q⟩:=(show(∃g∈l,Cd g=false)/\TRep1 I V (.oag l) x from h);exfalso;obtain⟨j,z,e⟩:=ct.1 p;obtain⟨u,-,hr⟩:=q.get (by rw[aq z,e]);cases g with
    | ptr k o=>have:=hr.1;omega
    | osl k=>have:=hr.1;omega
    | osv k a b c=>have:=hr.1;omega
    | oel k a b c=>exact hr
    | orv k a b c d e=>exact hr
    | mp k=>have:=hr.1;omega
    | _=>cases s
   | _=>exact h
  refine(h.2 I w vs hH.mem C).mono λe w' ⟨x,g,I',he,hq,B,hx,hle,hI,hB⟩=>⟨x,g,[],I',V,he,⟨rfl,hq⟩,A,⟨B,λk r h=>(by cases h),λk r h=>(by cases h),λk r b h=>(by cases h),λk J r r' b h=>(by cases h)⟩,?_,⟨hB.os,hB.tape,hB.output,hB.size,λb E _=>⟨hB.block b E,λo=>hI b o E⟩,hle,λk r b h=>(by cases h)⟩,.refl _⟩;cases g with
  | tup l=>obtain⟨cs,e,q⟩:=hx;exact⟨cs,e,q.mono λ_ _ h=>.of_v h⟩
  | oag l=>cases(show VRep I' (.oag l) x from hx)
  | _=>exact PRep.of_v (V:=V) hx⟩
theorem FnO.mono {f:FuncId}{gs:List G}{rs:List R}{Q b:G->List R->Prop}(h:FnO P f gs rs Q)(j:∀g rs,Q g rs->b g rs):FnO P f gs rs b :=
 ⟨h.1,λI V w vs l c p=>(h.2 I V w vs l c p).mono λ_ _ ⟨x,g,rs',I',V',e,k1,k2⟩=>⟨x,g,rs',I',V',e,j _ _ k1,k2⟩⟩
theorem FnV.cal {f:FuncId}{gs:List G}{Q:G->Prop}{K:G->Os->Nat->Prop}{B C:Prop}(h:FnV P f gs Q)(b:∀g,Q g->Z1b [] own n g [] K):EvCall (FnO P f gs [] λg rs=>Z1b [] own n g rs K) B C :=
 .pure (h.toO.mono λg rs ⟨e,hq⟩=>by rw[e];exact b g hq)
theorem FnO.cal {f:FuncId}{gs:List G}{rs:List R}{Q:G->List R->Prop}{K:G->Os->Nat->Prop}{B C:Prop}(h:FnO P f gs rs Q)(b:∀g rs,Q g rs->Z1b ks own n g rs K):EvCall (FnO P f gs rs λg rs=>Z1b ks own n g rs K) B C :=
 .pure (h.mono b)
end
section
variable {κ:Type} {I:Imm} {u:G} {v:Value}
theorem Al.len:∀{l:List (κ × G)} {L:List (κ × Value)},Al I l L->L.length=l.length
 | [],[],_=>rfl
 | _::_,_::_,h=>by simp[Al.len h.2.2]
theorem Al.app (k:κ):∀{l:List (κ × G)} {L:List (κ × Value)},Al I l L->VRep I u v->Al I (l++[(k,u)]) (L++[(k,v)])
 | [],[],_,h=>⟨rfl,h,trivial⟩
 | _::_,_::_,h,h'=>⟨h.1,h.2.1,Al.app k h.2.2 h'⟩
variable [DecidableEq κ]
theorem Al.get (k:κ):∀{l:List (κ × G)} {L:List (κ × Value)},Al I l L->(Az l k=none->Az L k=none)/\∀g,Az l k=some g->∃v,Az L k=some v/\VRep I g v
 | [],[],_=>⟨λ_=>rfl,λg h=>by cases h⟩
 | (j,g0)::l,(j',v0)::L,h=>by
  obtain⟨e,q,p⟩:=h;have e:j'=j:=e;subst e;obtain⟨c,f⟩:=Al.get k p;rw[C6,C6];by_cases b:j'=k
  .subst b;simp only[if_pos];exact⟨λh=>(by cases h),λg h=>(by cases h;exact⟨_,rfl,q⟩)⟩
  .simp only[if_neg b];exact⟨c,f⟩
theorem Al.upd (k:κ):∀{l:List (κ × G)} {L:List (κ × Value)},Al I l L->VRep I u v->Al I (l.map λp=>if p.1=k then(k,u) else p) (L.map λp=>if p.1=k then(k,v) else p)
 | [],[],_,_=>trivial
 | p::l,q::L,h,h'=>by
  have b:=Al.upd k h.2.2 h';rw[cv,cv];by_cases e:p.1=k
  .rw[dq e,dq (h.1.trans e)];exact⟨rfl,h',b⟩
  .rw[dp e,dp (λc=>e (h.1.symm.trans c))];exact⟨h.1,h.2.1,b⟩
theorem Al.put (k:κ){l:List (κ × G)}{L:List (κ × Value)}(h:Al I l L)(b:VRep I u v):Al I (Gy l k u) (Gy L k v):=by
 obtain⟨f,c⟩:=h.get k;unfold Gy;cases hg:Az l k with
 | none=>rw[f hg];exact h.app k b
 | some g =>
  obtain⟨x,e,-⟩:=c g hg;rw[e];exact h.upd k b
end
section
variable {P:Program} {tb:List (Nat × TI)} {N n:Nat} {I I' I0:Imm} {V V' V0:Va} {a:Act} {t:Ts} {own own' own0:Os} {w w' w0:World} {g:G} {x y:Value} {d:Option Tmp}
variable {XL:List Nat} {S:World->Prop} {K:Ts->Os->Nat->Prop} {next:Act->World->Prop} {Q:Exit->Act->World->Prop} {o:Oper} {r:R}
theorem Tt {k:Nat}(h:TRep I V (.mp k) y):k < V.n/\y=.map (some (V.b k)):=h
theorem Z9z {e:TypeId}{i:TI}(C:TIok P e i){K1:G->Prop}(h:To i K1):∃g z,K1 g/\TRep1 I V g z/\∀w:World,(zeroValue e).run P w=.ok z w:=by
 obtain⟨z,q,c⟩:=bh.1 C.zero;obtain⟨j,D,B⟩:=Option.bind_eq_some_iff.1 q;have f:∀w:World,(zeroValue e).run P w=.ok z w:=λw=>by simp[zeroValue,typeInfo,D,B]
 have l:PW (CRep I V) i.zero (i.zero.map G.val):=Sw C;have b:=C.zag z q;unfold To at h;cases hb:i.agg with
 | true =>
  rw[hb,dq rfl] at b;obtain⟨cs,rfl⟩:=b;rw[hb] at h;have A:cs=(i.zero.map G.val).toArray:=by rw[<-c];rfl
  subst A;dsimp only at h;unfold Hm at h;rw[show Ty 0=false from rfl] at h;dsimp only at h;split at h
  .next p=>exact⟨_,_,h,.of_c (.of_v (.agg i.zero _ l.1 λj g u s E=>(l.2 j g u s E).to_v (Ao p g (au s)))),f⟩
  .exact⟨_,_,h,(⟨_,rfl,l⟩:TRep1 I V (.oag i.zero) _),f⟩
 | false =>
  rw[hb,dp (by simp)] at b;rw[hb] at h;dsimp only at h;rw[b] at c;split at h
  .next g s =>
   rw[s] at c l;have A:z=G.val g:=by simpa using c
   subst A;exact⟨_,_,h,.of_c (l.2 0 g _ rfl rfl),f⟩
  .exact h.elim
theorem Zaa {κ:Type}[DecidableEq κ]{C:κ->Value}{O e ty:TypeId}{m:Nat}{l:List (κ × G)}{U:TI}(B:KeyOk P O C)(E:P.underlying ty=some (.map O e))(q:TIok P e U)(W:MapR I w m C l)(key:κ){K1:G->Bool->Prop}(h:Z1y (Az l key) (λg=>K1 g true) (To U λg=>K1 g false)) :
  ∃g b v,K1 g b/\TRep1 I V g v/\∀u:World,u.heap[m]?=w.heap[m]?->(Instr.lookup ty (.map (some m)) (C key) true).run P u=.ok (.tuple #[v,.bool b]) u/\(Instr.lookup ty (.map (some m)) (C key) false).run P u=.ok v u:=by
 obtain⟨L,T,Y⟩:=W;obtain⟨h1,Z⟩:=Y.get key;have D:∃z,∀w:World,(zeroValue e).run P w=.ok z w:=by obtain⟨z,p,f⟩:=bh.1 q.zero;obtain⟨j,J,F⟩:=Option.bind_eq_some_iff.1 p;exact⟨z,λw=>by simp[zeroValue,typeInfo,J,F]⟩
 cases hg:Az l key with
 | some g =>
  obtain⟨v,X,hv⟩:=Z g hg;obtain⟨z,D⟩:=D;refine⟨g,true,v,h.yes g hg,.of_c (.of_v hv),λu M=>?_⟩;have c:=T.of_block M;have A:=Ca (P:=P) B E (D u) c key;have s:=Ar (P:=P) B E (D u) c key;rw[X] at A s;exact⟨A,s⟩
 | none =>
  obtain⟨g,z,H,p,f⟩:=Z9z (I:=I) (V:=V) q (h.no hg);refine⟨g,false,z,H,p,λu M=>?_⟩;have c:=T.of_block M;have A:=Ca (P:=P) B E (f u) c key;have s:=Ar (P:=P) B E (f u) c key;rw[h1 hg] at A s;exact⟨A,s⟩
theorem MapR.lt {κ:Type}{b:κ->Value}{m:Nat}{l:List (κ × G)}(h:MapR I w m b l):m < w.heap.size:=by obtain⟨L,c,-⟩:=h;exact c.lt
theorem Z53 (hT:∀t i,look t tb=some i->TIok P t i)(M:∀k∈XL,∃r,look k own=some r)(hS:∀u,S u->Agree V XL w u)(hH:Has I V own w)(ha:ARep N I V a t){ty:TypeId}{z i:Operand}{ok:Bool}(Z:o.op=.lookup ty z i ok)
  (h:match Py tb ty with
   | .map str e=>match look e tb with
    | some ti=>ev t own z λg=>ev t own i λq=>Z9m own XL g q str ti (lkK ok λg=>K (put o.dst g t) own V.n)
    | none=>False
   | _=>False):QOk S P I V own w a t o K:=by
 unfold Py at h;cases hl:look ty tb with
 | none=>rw[hl] at h;exact h.elim
 | some ti0 =>
  rw[hl] at h;dsimp only at h;have F:=(hT _ _ hl).kd;split at h
  .next str e he =>
   rw[he] at F;obtain⟨kt,ht,p⟩:=F;cases hle:look e tb with
   | none=>rw[hle] at h;exact h.elim
   | some ti =>
    rw[hle] at h;dsimp only at h;have L:=hT _ _ hle;obtain⟨g,C,hg⟩:=B5 h ha hH;clear h;have h:=C;clear C;obtain⟨q,C,X⟩:=B5 h ha hH;clear h;have h:=C;clear C;obtain⟨K1,D⟩:∃K1:G->Bool->Prop,K1=lkK ok λg=>K (put o.dst g t) own V.n:=⟨_,rfl⟩;rw[<-D] at h;have fin:∀{κ:Type} [DecidableEq κ] {J:κ->Value} {l:List (κ × G)} (key:κ) {k:Nat},KeyOk P kt J->a.eval z=.map (some (V.b k))->a.eval i=J key->MapR I w (V.b k) J l->V.f k (V.b k)->(∃r,look k own=some r)->k ∉ XL->Z1y (Az l key) (λg=>K1 g true) (To ti λg=>K1 g false)->QOk S P I V own w a t o K:=λ{κ _ J l} key {k} O B Y hM hf ⟨r,hr⟩ hkX hev=>by
     obtain⟨g,b,v,T,k2,k3⟩:=Zaa (V:=V) O ht L hM key hev;have c:∀u,S u->u.heap[V.b k]?=w.heap[V.b k]?:=λu H=>hS u H _ hM.lt λk' E U=>by obtain⟨r',W⟩:=M k' E;exact hkX (hH.disj k k' r r' _ hr W hf U ▸ E)
     rw[D] at T;cases ok with
     | true=>exact⟨_,_,T,(⟨[v,.bool b],rfl,.cons k2 (.cons (by cases b;exact .of_c (.of_v .ff);exact .of_c (.of_v .tt)) .nil)⟩:TRep I V (.tup _) (.tuple [v,.bool b].toArray)),λu H=>by simp only[execOp,Z,Sem.run_bind,B,Y,(k3 u (c u H)).1,Result.andThen_ok,Sem.run_pure]⟩
     | false=>exact⟨_,_,T,.of_1 k2,λu H=>by simp only[execOp,Z,Sem.run_bind,B,Y,(k3 u (c u H)).2,Result.andThen_ok,Sem.run_pure]⟩
    unfold Z9m at h;split at h
    .next k =>
     obtain⟨hkn,B⟩:=Tt hg;split at h
     .exact h.elim
     .next hm =>
      have A:k ∉ XL:=λh=>by rw[Cc.2 h] at hm;cases hm
      split at h
      .next l s hr =>
       have j:=hH.each k _ hr;exact fin s (J5 (by simpa using p)) B (B0 X) j.2 ((j.1 _).2 rfl) ⟨_,hr⟩ A h
      .next l n hr =>
       have j:=hH.each k _ hr;exact fin n (Mp (by simpa using p)) B (B0 X) j.2 ((j.1 _).2 rfl) ⟨_,hr⟩ A h
      .next l m ob s hr =>
       have j:=hH.each k _ hr;exact fin s (J5 (by simpa using p)) B (B0 X) (by rw[j.2.1];exact j.2.2.2) ((j.1 _).2 rfl) ⟨_,hr⟩ A h
      .exact h.elim
    .exact h.elim
  .exact h.elim
theorem Zb8 (hT:∀t i,look t tb=some i->TIok P t i)(B:∀k∈XL,∃r,look k own=some r)(hS:∀u,S u->Agree V XL w u)(hH:Has I V own w)(ha:ARep N I V a t){ty:TypeId}{z:Operand}{U:TI}{str:Bool}{e:TypeId}(X:look ty tb=some U)(E:U.kd=.map str e)(W:o.op=.call {callee:=.builtin .len,args:=#[z],argTypes:=#[ty]})
  (h:ev t own z λg=>match g with
        | .mp k=>match look k own,Fn k XL with
         | some (.mpS l),false=>K (put o.dst (.v (.int .i64 l.length)) t) own V.n
         | some (.mpI l),false=>K (put o.dst (.v (.int .i64 l.length)) t) own V.n
         | _,_=>False
        | _=>False):QOk S P I V own w a t o K:=by
 have A:=(hT _ _ X).kd;rw[E] at A;obtain⟨kt,ht,-⟩:=A;obtain⟨g,J,hg⟩:=B5 h ha hH;clear h;have h:=J;clear J;split at h
 .next k =>
  obtain⟨hkn,e1⟩:=Tt hg;have fin:∀{κ:Type} {T:κ->Value} {l:List (κ × G)},[DecidableEq κ]->MapR I w (V.b k) T l->V.f k (V.b k)->(∃r,look k own=some r)->Fn k XL=false->K (put o.dst (.v (.int .i64 l.length)) t) own V.n->QOk S P I V own w a t o K:=λ{κ T l _} M Z ⟨r,hr⟩ p A=>by
   have C:k ∉ XL:=λh=>by rw[Cc.2 h] at p;cases p
   have H:=M.lt;obtain⟨L,Y,hA⟩:=M;refine⟨_,_,A,.of_v (.v _),λu hu=>?_⟩;have j:u.heap[V.b k]?=w.heap[V.b k]?:=hS u hu _ H λO q D=>by obtain⟨r',F⟩:=B O q;exact C (hH.disj k O r r' _ hr F Z D ▸ q)
   have c:=Bg (P:=P) (ty:=o.type) ht (Y.of_block j);rw[hA.len] at c;simp[execOp,W,resolve,invoke,builtin,e1,c]
  split at h
  .next l hr p =>
   have s:=hH.each k _ hr;exact fin s.2 ((s.1 _).2 rfl) ⟨_,hr⟩ p h
  .next l hr p =>
   have s:=hH.each k _ hr;exact fin s.2 ((s.1 _).2 rfl) ⟨_,hr⟩ p h
  .exact h.elim
 .exact h.elim
theorem Xx (hH:Has I V own w)(ha:ARep N I V a t){f:FuncId}{p q:Array Operand}(T:o.op=.makeFunc (.func f) p q)(h:evs t own p.toList λa=>evs t own q.toList λc=>match Bw G.cap a,Bw G.cap c with
  | true,true=>match Bw Cd a,Bw Cd c with
   | true,true=>match a,c with
    | [],[]=>K (put o.dst (.v (.func (.func f) #[] #[])) t) own V.n
    | _,_=>False
   | _,_=>K (put o.dst (.clo f a c) t) own V.n
  | _,_=>False):QOk S P I V own w a t o K:=by
 obtain⟨a1,h,z⟩:=Nq h ha hH;obtain⟨c1,h,s⟩:=Nq h ha hH;have e:∀l:Array Operand,(l.toList.map a.eval).toArray=l.map a.eval:=λl=>by cases l;simp
 have run:∀u:World,(execOp a.eval o).run P u=.ok (.value (.func (.func f) (p.toList.map a.eval).toArray (q.toList.map a.eval).toArray)) u:=λu=>by simp only[execOp,T,Instr.makeFunc,Sem.run_bind,Sem.run_pure,Result.andThen_ok,e]
 have cap:∀{l:List G} {J:List Value},Bw G.cap l=true->PW (TRep I V) l J->PW (CRep I V) l J:=λB H=>⟨H.1,λj g u b W=>by have M:=H.2 j g u b W;have B:=Ao B g (au b);cases g<;>first | exact M | cases B⟩
 have L:∀{l:List G},Bw Cd l=false->∃g∈l,Cd g=false:=λ{l}=>by
  induction l with
  | nil=>intro h;cases h
  | cons g l ih =>
   intro h;unfold Bw at h;cases b:Cd g with
   | false=>exact⟨g,by simp,b⟩
   | true =>
    rw[b] at h;obtain⟨U,z,s⟩:=ih h;exact⟨U,by simp[z],s⟩
 split at h
 .next F C =>
  split at h
  .split at h
   .have X:p.toList=[]:=by have:=z.of_nil;simpa using this
    have O:q.toList=[]:=by have:=s.of_nil;simpa using this
    refine⟨_,_,h,.of_v (.v _),λu _=>?_⟩;rw[run u,X,O];rfl
   .exact h.elim
  .next D =>
   refine⟨_,_,h,.of_1 (⟨?_,_,_,rfl,cap F z,cap C s⟩:TRep1 I V (.clo f a1 c1) _),λu _=>run u⟩;cases hn1:Bw Cd a1 with
   | false=>obtain⟨g,E,A⟩:=L hn1;exact⟨g,.inl E,A⟩
   | true =>
    cases hn2:Bw Cd c1 with
    | false=>obtain⟨g,E,A⟩:=L hn2;exact⟨g,.inr E,A⟩
    | true=>exact(D hn1 hn2).elim
 .exact h.elim
theorem Wp (hH:Has I V own w)(ha:ARep N I V a t)(hd:∀i,o.dst=some i->i < N)(hK:NxtB N own I V w K next){ty:TypeId}(j:o.op=.makeMap ty none)(h:match Py tb ty with
  | .map true _=>K (put o.dst (.mp V.n) t) ((V.n,.mpS [])::own) (V.n+1)
  | .map false _=>K (put o.dst (.mp V.n) t) ((V.n,.mpI [])::own) (V.n+1)
  | _=>False):o.wp P a w next Q:=by
 have c:(execOp a.eval o).run P w=.ok (.value (.map (some w.heap.size))) (w.alloc (.map #[] 0)):=by simp only[execOp,j,Instr.makeMap,Option.map_none,Sem.run_bind,run_newObj_alloc,Sem.run_pure,Result.andThen_ok]
 have fin:∀r:R,RRep I (V.push w.heap.size undef (·=w.heap.size)) V.n (w.alloc (.map #[] 0)) r->K (put o.dst (.mp V.n) t) ((V.n,r)::own) (V.n+1)->o.wp P a w next Q:=λr hr f =>
  Ry (g:=.mp V.n) (y:=.map (some w.heap.size)) hK ha hd c (Dl hH ((ab _ _).alloc (av _) _) w.heap.size undef (·=w.heap.size) (λk e=>⟨Nat.le_of_eq e.symm,by subst e;simp⟩) hr) ((ab _ _).alloc (av _) _) (.push _ _ _ _) (TRep.of_c (g:=.mp V.n) ⟨db _,by simp[Va.push]⟩) f
 split at h
 .exact fin (.mpS []) ⟨λb=>by simp[Va.push],[],by simpa [Va.push] using Eb w Ci id,trivial⟩ h
 .exact fin (.mpI []) ⟨λb=>by simp[Va.push],[],by simpa [Va.push] using Eb w Aw id,trivial⟩ h
 .exact h.elim
theorem Yt (h:Has I V own w){k:Nat}{q r:R}(j:look k own=some q)(l:∀b,V.f k b↔b=V.b k){c:Obj}(hr:RRep I V k (putObj w (V.b k) c) r):Later own I V w ((k,r)::own) I V (putObj w (V.b k) c) :=
 Dj h j rfl rfl rfl (C8 _ _ _) (λb p=>A9 w c λe=>p ((l b).2 e)) hr
theorem Za (hT:∀t i,look t tb=some i->TIok P t i)(hL:Since own0 I0 V0 w0 own I V w)(hK:Nxt N own0 I0 V0 w0 K next)(ha:ARep N I V a t)(hd:∀i,o.dst=some i->i < N){ty:TypeId}{m k z:Operand}(E:o.op=.mapUpdate ty m k z\/o.op=.insert ty m k z)(h:match Py tb ty with
  | .map str _=>ev t own m λg=>ev t own k λq=>ev t own z λu=>Z3x own g q u str λw=>K (put o.dst .un t) w V.n
  | _=>False):o.wp P a w next Q:=by
 unfold Py at h;cases hl:look ty tb with
 | none=>rw[hl] at h;exact h.elim
 | some ti =>
  rw[hl] at h;dsimp only at h;have D:=(hT _ _ hl).kd;split at h
  .next str e he =>
   rw[he] at D;obtain⟨kt,ht,B⟩:=D;obtain⟨g,p,O⟩:=B5 h ha hL.has;clear h;have h:=p;clear p;obtain⟨q,p,J⟩:=B5 h ha hL.has;clear h;have h:=p;clear p;obtain⟨u,p,hu⟩:=B5 h ha hL.has;clear h;have h:=p;clear p;unfold Z3x at h;obtain⟨u',X,Z,V1,p,U,c,W⟩:=Zt h hu hL.has;clear h;have h:=p;clear p;replace O:=O.mono c.fro.mono c.va;replace J:=J.mono c.fro.mono c.va;have fin:∀{κ:Type} [DecidableEq κ] {F:κ->Value} {l:List (κ × G)} (key:κ) {j:Nat} (mk:List (κ × G)->R),(∀l w,RRep Z V1 j w (mk l)↔(∀b,V1.f j b↔b=V1.b j)/\MapR Z w (V1.b j) F l)->KeyOk P kt F->a.eval m=.map (some (V1.b j))->a.eval k=F key->look j X=some (mk l)->K (put o.dst .un t) ((j,mk (Gy l key u'))::X) V.n->o.wp P a w next Q:=λ{κ _ F l} key {j} mk C M H e2 hr hk=>by
    obtain⟨hf,L,hB,hA⟩:=(C l w).1 (c.has.each j _ hr);obtain⟨Y,A,T⟩:=Am (P:=P) M ht hB key (a.eval z);refine Ph hK hL ha hd (w':=putObj w (V1.b j) Y) ?_ (c.trans (Yt (r:=mk (Gy l key u')) c.has hr hf ((C _ _).2 ⟨hf,_,T,hA.put _ W⟩))) (U.1 ▸ hk);have A:(Instr.mapUpdate ty (a.eval m) (a.eval k) (a.eval z)).run P w=.ok () (putObj w (V1.b j) Y):=by rw[H,e2];exact A
    rcases E with E | E<;>simp only[execOp,E,Sem.run_bind,A,Result.andThen_ok,Sem.run_pure]
   split at h
   .next j =>
    obtain⟨hjn,H⟩:=Tt O;split at h
    .next l s hr=>exact fin s .mpS (λl w=>Iff.rfl) (J5 (by simpa using B)) H (B0 J) hr h
    .next l n hr=>exact fin n .mpI (λl w=>Iff.rfl) (Mp (by simpa using B)) H (B0 J) hr h
    .exact h.elim
   .exact h.elim
  .exact h.elim
theorem Al.keys {κ:Type}:∀{l:List (κ × G)} {L:List (κ × Value)},Al I l L->L.map (·.1)=l.map (·.1)
 | [],[],_=>rfl
 | p::l,q::L,h=>by simp[h.1,Al.keys h.2.2]
theorem Al.mem {κ:Type}{k:κ}{v:Value}:∀{l:List (κ × G)} {L:List (κ × Value)},Al I l L->(k,v)∈L->∃g,(k,g)∈l/\VRep I g v
 | [],[],_,b=>by cases b
 | p::l,q::L,h,b=>by
  rcases bq.1 b with e | b
  .subst e;exact⟨p.2,by rw[show k=p.1 from h.1];simp,h.2.1⟩
  .obtain⟨g,f,c⟩:=Al.mem h.2.2 b;exact⟨g,by simp[f],c⟩
theorem Zff (hT:∀t i,look t tb=some i->TIok P t i)(hH:Has I V own w)(ha:ARep N I V a t){ty:TypeId}{z:Operand}(U:o.op=.sliceToArrayPointer ty z)(h:match look ty tb with
  | some ⟨_,_,none,_,false,_,.arr m _ 1⟩=>ev t own z λg=>match g with
   | .sl f=>Zbw f m λl=>K (put o.dst (.elp l 0) t) own V.n
   | _=>False
  | _=>False):QOk S P I V own w a t o K:=by
 split at h
 .next ag ze fl ik m e W =>
  obtain⟨g,p,C⟩:=B5 h ha hH;clear h;obtain⟨M,-⟩:=(hT _ _ W).kd;split at p
  .next f =>
   obtain⟨H,r,h1,J,p⟩:=p;have F:=(show VRep I (.sl f) (a.eval z) from C);generalize E:a.eval z=X at F;cases F with
   | sl _ A c sz0 u hc hA hz hh huu =>
    have s:m<=f.length:=by have:=congrArg List.length J;simp at this;omega
    have row:∀j (B:j < m),f[j]?=some [r[j]'(by omega)]:=λj B=>by
     have O:(f.take m)[j]?=f[j]?:=by rw[br,dq B]
     rw[<-O,J,ay,aq (by omega)];rfl
    obtain⟨b,L,rfl,Z⟩:=hh 0 _ (row 0 H);have T:sz0=1:=(hz _ (au (row 0 H))).symm;subst T;refine⟨_,_,p,(.of_1 (g:=.elp _ 0) ⟨b,L,by rw[Nat.add_zero],λj g B=>?_⟩),λv _=>by simp only[execOp,U,E,Instr.arrayAt,run_underlying M,Nat.not_lt.2 s,if_false,Sem.run_bind,Result.andThen_ok,Sem.run_pure]⟩;have q:=(ar.1 B).1;obtain⟨b',o',Y,D⟩:=hh j _ (row j (by omega));cases Y;refine⟨u j 0,?_,?_⟩
    .have:=D 0 (by omega);rw[Nat.mul_one,Nat.add_zero] at this;exact this
    .have C:g=r[j]'q:=(cu ((aq q).symm.trans B)).symm;exact huu j _ 0 g (row j (by omega)) (by rw[C];rfl)
  .exact p.elim
 .exact h.elim
theorem Z9d {q:G}{op:BinOp}{ty:TypeId}(h:Zbu tb q op ty=true):q=.nl/\op=.eql/\∃i e sz,look ty tb=some i/\i.elem=some (e,sz):=by
 unfold Zbu at h;split at h
 .next b=>exact⟨rfl,rfl,_,_,_,b,rfl⟩
 .cases h
theorem Zd9 (hT:∀t i,look t tb=some i->TIok P t i)(hH:Has I V own w)(ha:ARep N I V a t){op:BinOp}{ty D:TypeId}{x z:Operand}(E:o.op=.binOp op ty x z D)(h:ev t own x λg=>ev t own z λq=>match Zbu tb q op ty with
  | true=>U9 own g λf=>Zbj f λb=>K (put o.dst (.v (.bool b)) t) own V.n
  | false=>Zdx P tb ty op g q λg=>K (put o.dst g t) own V.n):QOk S P I V own w a t o K:=by
 obtain⟨g,p,F⟩:=B5 h ha hH;obtain⟨q,j,s⟩:=B5 p ha hH;clear h p;cases hn:Zbu tb q op ty with
 | true =>
  rw[hn] at j;obtain⟨rfl,rfl,i,e,sz,H,C⟩:=Z9d hn;obtain⟨T,-⟩:=(hT _ _ H).elem e sz C;obtain⟨f,A,c,j,O,J⟩:=Yu j F hH;have L:a.eval z=.slice none 0 0:=by have s:=(show VRep I .nl (a.eval z) from s);generalize a.eval z=Z at s;cases s;rfl
  have j:=j.run A.isNone λB=>by
   cases A with
   | none=>exact dt (J rfl) B
   | some _=>rfl
  refine⟨_,_,j,.of_v (.v _),λu _=>?_⟩;have M:(Op.equal ty (.slice A f.length c) (.slice none 0 0)).run P u=.ok A.isNone u:=by show(Op.equalIn 10000 ty (.slice A f.length c) (.slice none 0 0)).run P u=_;unfold Op.equalIn;cases A<;>simp[run_underlying T]
  simp only[execOp,E,Sem.run_bind,O,L];simp[eqGuard,binOp,M]
 | false =>
  rw[hn] at j;obtain⟨r,v,j,hr,l⟩:=Zdc (P:=P) hT j F s;exact⟨_,_,j,hr,λu _=>by simp only[execOp,E,Sem.run_bind,(l u x z).1,(l u x z).2,Result.andThen_ok,Sem.run_pure]⟩
theorem Wd (hH:Has I V own w)(ha:ARep N I V a t){z:Operand}(l:o.op=.nilCheck z)(h:ev t own z λg=>match g with
  | .ptr k off=>K (put o.dst (.ptr k off) t) own V.n
  | .clo f a c=>K (put o.dst (.clo f a c) t) own V.n
  | .v (.func (.func f) a c)=>K (put o.dst (.v (.func (.func f) a c)) t) own V.n
  | _=>False):QOk S P I V own w a t o K:=by
 obtain⟨g,j,b⟩:=B5 h ha hH;clear h;split at j
 .next k off =>
  obtain⟨-,e⟩:=Cb b;exact⟨_,_,j,b,λu _=>by simp only[execOp,l,e];rfl⟩
 .next f p q =>
  have s:=b;obtain⟨-,A,cs,e,-⟩:=s;exact⟨_,_,j,b,λu _=>by simp only[execOp,l,e];rfl⟩
 .next f p q =>
  have e:=B0 b;exact⟨_,_,j,b,λu _=>by simp only[execOp,l,e];rfl⟩
 .exact j.elim
end
end Go.Proofs.YtmmdikhljefeiaaGreat
