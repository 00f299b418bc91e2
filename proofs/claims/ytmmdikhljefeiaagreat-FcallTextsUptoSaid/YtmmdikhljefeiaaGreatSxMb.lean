
import Derived.Test.YtmmdikhljefeiaaGreatSxMa
import Derived.Great.FillDense
import Derived.Deep.OwnRows
import Derived.Lib.MinMax
import Derived.ArgAppend
import Derived.Laws.IdiomStrings
import Derived.Laws.CopyRow
namespace Go.Proofs.YtmmdikhljefeiaaGreat
open Go.RowKit
theorem Nt:∀(l:List Value) (k off:Nat) (arr:Array Value),off+k+l.length<=arr.size ->
  (l.zipIdx k).foldl (λcs p=>cs.setIfInBounds (off+p.2) p.1) arr=(arr.toList.take (off+k)++l++arr.toList.drop (off+k+l.length)).toArray
 | [],k,off,arr,_=>by simp
 | x::l,k,off,arr,h=>by
  simp only[List.length_cons] at h;rw[List.zipIdx_cons,List.foldl_cons,Nt l (k+1) off _ (by simp;omega)]
  congr 1
  have c:off+k < arr.toList.length:=by simp;omega
  simp only[Array.toList_setIfInBounds];rw[List.drop_set_of_lt (by omega),List.take_set,<-db,List.take_succ_eq_append_getElem c,List.set_append_right _ _ (by simp;omega)];have b:off+k<=arr.size:=by omega
  simp[Nat.min_eq_left b,Nat.add_assoc,Nat.add_comm 1]
section
variable {P:Program} {tb:List (Nat × TI)} {N n:Nat} {I I' I0:Imm} {V V' V0:Va} {a:Act} {t:Ts} {own own' own0:Os} {w w' w0:World} {g:G} {y:Value} {d:Option Tmp}
variable {XL:List Nat} {S:World->Prop} {K:Ts->Os->Nat->Prop} {next:Act->World->Prop} {Q:Exit->Act->World->Prop} {o:Oper}
theorem Z5d (hT:∀t i,look t tb=some i->TIok P t i){F:List Field}(hz:∀f∈F,∃m,(P.info? f.type).map (·.size)=some (m+1)){b:List (Nat × Nat)}(C:F.mapM (λf=>(P.info? f.type).map λi=>(f.offset,i.size))=some b)(ha:ARep N I V a t)(hH:Has I V own w) :
  ∀{T:List (Nat × Operand)} {l:List G} {cs:List Value} {K1:List G->Prop},Z8r tb t own (F.map λf=>(f.type,f.offset)) T l K1->PW (CRep I V) l cs ->
   ∃U z,K1 U/\PW (CRep I V) U z/\Instr.fill (b.toArray[·]?) cs.toArray (T.map λp=>(p.1,a.eval p.2))=some z.toArray
 | [],l,cs,K1,h,hp=>⟨l,cs,h,hp,rfl⟩
 | (i,x)::T,l,cs,K1,h,hp=>by
  unfold Z8r at h;rw[Du] at h;cases hf:(F.map λf=>(f.type,f.offset))[i]? with
  | none=>rw[hf] at h;exact h.elim
  | some q =>
   obtain⟨M,fo⟩:=q;rw[hf] at h;dsimp only at h;cases hj:look M tb with
   | none=>rw[hj] at h;exact h.elim
   | some j =>
    rw[hj] at h;dsimp only at h;obtain⟨g,h,hg⟩:=B1 h ha hH;obtain⟨ds,h,hd,-⟩:=Gr h hg hH;obtain⟨hb,h⟩:=Z5 h;obtain⟨l1,h,X,J⟩:=Qy h hp hd;obtain⟨U,z,h1,h2,h3⟩:=Z5d hT hz C ha hH h X;refine⟨U,z,h1,h2,?_⟩;rw[ax] at hf;obtain⟨O,D,Z⟩:=bg.1 hf;injection Z with e1 e2;have Y:b[i]?=some (fo,j.zero.length):=by
     have A:=(hT M j hj).size;have key:∀(F:List Field) (L:List (Nat × Nat)) (i:Nat),F.mapM (λf=>(P.info? f.type).map λi=>(f.offset,i.size))=some L->F[i]?=some O->L[i]?=(P.info? O.type).map λi=>(O.offset,i.size):=by
      intro F
      induction F with
      | nil=>intro L i _ B;simp at B
      | cons f F ih =>
       intro L i s B;simp only[List.mapM_cons,Option.bind_eq_bind,Option.pure_def] at s;cases hq:P.info? f.type with
       | none=>simp[hq] at s
       | some iq =>
        cases hr:F.mapM (λf=>(P.info? f.type).map λi=>(f.offset,i.size)) with
        | none=>simp[hq,hr] at s
        | some rest =>
         simp[hq,hr] at s;subst s;cases i with
         | zero=>simp at B;subst B;simp[hq]
         | succ i=>simpa using ih rest i hr (by simpa using B)
     rw[key F b i C D,e1,e2];cases hq:P.info? M with
     | none=>rw[hq] at A;simp at A
     | some iq=>rw[hq] at A;simp at A;simp[A]
    have c:(a.eval x).cells.size=j.zero.length:=by rw[<-hb,hd.1];simp
    have hne:(a.eval x).cells.toList≠[]:=λe=>by obtain⟨m,s⟩:=hz O (ar D);have A:=(hT M j hj).size;rw[e1,A] at s;injection s with s;have:=congrArg List.length e;simp at this;rw[this] at c;simp at c;omega
    have H:=J hne;have W:(a.eval x).cells.toList.length=(a.eval x).cells.size:=by simp
    show Instr.fill (b.toArray[·]?) cs.toArray ((i,a.eval x)::T.map λp=>(p.1,a.eval p.2))=_;unfold Instr.fill;have E:b.toArray[i]?=some (fo,j.zero.length):=by simpa using Y
    simp only[E,c];rw[dn (by simp;rw[<-c,<-W];exact H),<-h3]
    congr 1
    rw[<-Array.foldl_toList,Array.toList_zipIdx];have:=Nt (a.eval x).cells.toList 0 fo cs.toArray (by simpa using H);simpa using this
theorem Y6 {m sz:Nat}(ha:ARep N I V a t)(hH:Has I V own w) :
  ∀{z:List (Nat × Operand)} {l:List G} {cs:List Value} {K1:List G->Prop},Zaj t own m sz z l K1->PW (CRep I V) l cs ->
   ∃s c,K1 s/\PW (CRep I V) s c/\Instr.fill (λi=>some (i * sz,sz)) cs.toArray (z.map λp=>(p.1,a.eval p.2))=some c.toArray
 | [],l,cs,K1,h,hp=>⟨l,cs,h,hp,rfl⟩
 | (i,x)::z,l,cs,K1,h,hp=>by
  unfold Zaj at h;split at h
  .next O D =>
   have D:=dm D;obtain⟨g,h,H⟩:=B1 h ha hH;obtain⟨ds,h,hd,-⟩:=Gr h H hH;obtain⟨J,h⟩:=Z5 h;obtain⟨M,h,A,q⟩:=Qy h hp hd;obtain⟨s,c,F,E,L⟩:=Y6 ha hH h A;refine⟨s,c,F,E,?_⟩;have b:(a.eval x).cells.size=sz:=by rw[<-J,hd.1];simp
   have C:(a.eval x).cells.toList≠[]:=λe=>by have:=congrArg List.length e;simp at this;rw[this] at b;simp at b;omega
   have f:=q C;have B:(a.eval x).cells.toList.length=(a.eval x).cells.size:=by simp
   have f:i * sz+(a.eval x).cells.toList.length<=cs.length:=f;show Instr.fill (λi=>some (i * sz,sz)) cs.toArray ((i,a.eval x)::z.map λp=>(p.1,a.eval p.2))=_;unfold Instr.fill;simp only[b];rw[dn (by have j:=f;rw[B,b] at j;simp;exact j),<-L]
   congr 1
   rw[<-Array.foldl_toList,Array.toList_zipIdx];have:=Nt (a.eval x).cells.toList 0 (i * sz) cs.toArray (by simpa using f);simpa using this
  .exact h.elim
theorem Zbc {sz:Nat}:∀{B:List (Nat × Operand)} {i:Nat} {own:Os} {I:Imm} {V:Va} {K1:List (List G)->Os->Prop},bsK t sz B i own K1->ARep N I V a t->Has I V own w ->
  ∃b own' I' V',∃vs:List Value,K1 b own'/\(V'.n=V.n/\V.kp V')/\Later own I V w own' I' V' w/\B.map (λp=>(p.1,a.eval p.2))=(vs.zipIdx i).map (λx=>(x.2,x.1))/\vs.length=b.length/\B.length=b.length /\
   (∀(i:Nat) r u,b[i]?=some r->(vs.map λv=>v.cells.toList)[i]?=some u->PW (VRep I') r u)/\(∀v∈vs,v.cells.size=sz)/\∀v∈vs,∀x∈v.cells.toList,x.oneCell'=true
 | [],i,own,I,V,K1,h,_,hH=>⟨[],own,I,V,[],h,⟨rfl,.refl _⟩,.refl hH,rfl,rfl,rfl,λi r u h=>by simp at h,by simp,by simp⟩
 | (j,x)::B,i,own,I,V,K1,h,ha,hH=>by
  unfold bsK at h;cases H:Nat.beq j i with
  | false=>rw[H] at h;exact h.elim
  | true =>
   rw[H] at h;have H:=aw H;subst H;obtain⟨g,h,X⟩:=B1 h ha hH;obtain⟨cs,h,T,-⟩:=Gr h X hH;have A:∀{c:List G} {M:Os} {L:Imm} {V1:Va},bsK t sz B (j+1) M (λb D=>K1 (c::b) D)->(V1.n=V.n/\V.kp V1)->Later own I V w M L V1 w->PW (VRep L) c (a.eval x).cells.toList->c.length=sz->Bp G.one c=true->∃b own' I' V',∃vs:List Value,K1 b own'/\(V'.n=V.n/\V.kp V')/\Later own I V w own' I' V' w/\(((j,x)::B).map λp=>(p.1,a.eval p.2))=(vs.zipIdx j).map (λx=>(x.2,x.1))/\vs.length=b.length/\((j,x)::B).length=b.length /\
     (∀(i:Nat) r u,b[i]?=some r->(vs.map λv=>v.cells.toList)[i]?=some u->PW (VRep I') r u)/\(∀v∈vs,v.cells.size=sz)/\∀v∈vs,∀x∈v.cells.toList,x.oneCell'=true:=λ{c M L V1} h s q f z l=>by
    obtain⟨b,o2,I2,V2,vs,O,F,E,U,h3,h4,h5,h6,h7⟩:=Zbc (K1:=λb D=>K1 (c::b) D) h (ha.mono q.fro.mono q.va) q.has;refine⟨_,o2,I2,V2,a.eval x::vs,O,⟨F.1.trans s.1,s.2.trans (Nat.le_of_eq s.1.symm) F.2⟩,q.trans E,by simp[U,List.zipIdx_cons],by simp[h3],by simp[h4],λi r u hr W=>?_,λv C=>?_,λv C y Z=>?_⟩
    .cases i with
     | zero=>simp at hr W;subst hr W;exact f.mono λ_ _ h=>h.mono E.fro.mono
     | succ i=>exact h5 i r u (by simpa using hr) (by simpa using W)
    .rcases bo.1 C with rfl | C
     .have:=f.1;rw[z] at this;simpa using this.symm
     .exact h6 v C
    .rcases bo.1 C with rfl | C
     .obtain⟨m,Y,e⟩:=cq.1 Z;have J:m < c.length:=by rw[f.1];exact Y
      exact Kp (f.2 m c[m] y (ap J) (by rw[ap Y,e])) (Ai l _ (bu J))
     .exact h7 v C y Z
   split at h
   .obtain⟨c,M,L,V1,h,s,q,f⟩:=Nz h T hH;split at h
    .next z l=>exact A h s q f (aw z) l
    .exact h.elim
   .obtain⟨⟨z,l⟩,h⟩:=h;exact A h ⟨rfl,.refl _⟩ (.refl hH) ⟨T.1,λm g u O U=>(T.2 m g u O U).to_v (Ld (l g (ar O)))⟩ z (Fj λg X=>Z2h (l g X))
variable (hT:∀t i,look t tb=some i->TIok P t i) (hK:NxtB N own I V w K next) (hH:Has I V own w) (ha:ARep N I V a t) (hd:∀i,o.dst=some i->i < N)
include hT hH ha
theorem Z6c {ty:TypeId}{b:Array (Nat × Operand)}(ho:o.op=.build ty b)(h:match look ty tb with
  | none=>False
  | some i=>match i.flds with
   | []=>match i.kd with
    | .arr m _ sz=>Zaj t own m sz b.toList i.zero λl=>Ha (Nat.mul m sz) l λg=>K (put o.dst g t) own V.n
    | _=>False
   | f::fs=>Z8r tb t own (f::fs) b.toList i.zero λl=>Ha i.zero.length l λg=>K (put o.dst g t) own V.n):QOk S P I V own w a t o K:=by
 cases hl:look ty tb with
 | none=>rw[hl] at h;exact h.elim
 | some i =>
  rw[hl] at h;have T:=hT ty i hl;dsimp only at h;have C:PW (CRep I V) i.zero (i.zero.map G.val):=S7 T;obtain⟨z,Z,H⟩:=bg.1 T.zero;obtain⟨j,B,E⟩:=Option.bind_eq_some_iff.1 Z;by_cases A:i.flds=[]
  .rw[A] at h;dsimp only at h;have J:=T.kd;split at h
   .next m e sz hk =>
    rw[hk] at J;obtain⟨hu,hsz⟩:=(show P.underlying ty=some (.array m e)/\(P.info? e).map (·.size)=some sz from J);obtain⟨ie,Y,D⟩:=bg.1 hsz;obtain⟨l',s,h1,U,h3⟩:=Y6 ha hH h C;obtain⟨g',W,h5⟩:=Hy h1 U;refine⟨_,_,W,h5,λu _=>?_⟩;have X:P.built ty (b.map λp=>(p.1,a.eval p.2)).toList=some s.toArray:=by
     unfold Program.built;have e:z.cells=(i.zero.map G.val).toArray:=by rw[<-H]
     simp only[B,hu,E,Y,D,e];simpa using h3
    have hr:=run_build (P:=P) u ty _ _ X;simp only[execOp,ho,Sem.run_bind,Sem.run_pure];rw[hr];rfl
   .exact h.elim
  .have h:Z8r tb t own i.flds b.toList i.zero λl=>Ha i.zero.length l λg=>K (put o.dst g t) own V.n:=by
    cases hq:i.flds with
    | nil=>exact dq hq A
    | cons f fs=>rw[hq] at h;exact h
   obtain⟨F,hF,M,O⟩:=T.flds A;have q:∃c,F.toList.mapM (λf=>(P.info? f.type).map λi=>(f.offset,i.size))=some c:=by
    generalize F.toList=L at O
    induction L with
    | nil=>exact⟨[],rfl⟩
    | cons f L ih =>
     obtain⟨pl,q⟩:=ih λf hf=>O f (by simp[hf]);obtain⟨m,M⟩:=O f (by simp);cases hq:P.info? f.type with
     | none=>rw[hq] at M;simp at M
     | some iq=>exact⟨_,by simp only[List.mapM_cons,q,hq];rfl⟩
   obtain⟨c,q⟩:=q;rw[<-M] at h;obtain⟨l',s,h1,U,h3⟩:=Z5d hT O q ha hH h C;obtain⟨g',W,h5⟩:=Hy h1 U;refine⟨_,_,W,h5,λu _=>?_⟩;have X:P.built ty (b.map λp=>(p.1,a.eval p.2)).toList=some s.toArray:=by
    unfold Program.built;have e:z.cells=(i.zero.map G.val).toArray:=by rw[<-H]
    simp only[B,hF,E,q,e];simpa using h3
   have hr:=run_build (P:=P) u ty _ _ X;simp only[execOp,ho,Sem.run_bind,Sem.run_pure];rw[hr];rfl
include hK hd in
theorem Od {mo:Mo}{ty:TypeId}{len:Nat}{c:Array (Nat × Operand)}(ho:o.op=.buildSlice ty len c)(h:match look ty tb with
  | some ⟨_,_,some (e,sz),_,_,_,_⟩=>match Nat.beq c.toList.length len,Nat.ble (len * sz) 16777216 with
   | true,true=>bsK t sz c.toList 0 own λf w'=>Zaf (Z6o tb mo ty sz) ((V.n,.slc f e sz)::w') V.n λg L=>K (put o.dst g t) L (V.n+1)
   | _,_=>False
  | _=>False):o.wp P a w next Q:=by
 split at h
 case h_2=>exact h.elim
 next ag ze e sz fl st ik kd hl =>
 split at h
 case h_2=>exact h.elim
 next A T =>
 have A:=aw A;have T:=dm T;obtain⟨q,ie,z,h1,h2,M,h4,h5,-⟩:=(hT _ _ hl).elem e sz rfl;obtain⟨f,o1,I1,V1,vs,H,⟨j,O⟩,F,k2,W,k4,k5,Y,k7⟩:=Zbc h ha hH;have l:len=f.length:=by rw[<-A];exact k4
 have J:(vs.map λv=>v.cells.toList).flatten.length=f.length * sz:=by rw[Bk (sz:=sz) λu q=>by obtain⟨v,U,rfl⟩:=bi.1 q;simpa using Y v U];simp[W]
 have B:(execOp a.eval o).run P w=.ok (.value (.slice (some ⟨w.heap.size,0,none⟩) len len)) (w.alloc (.cells (vs.map λv=>v.cells.toList).flatten.toArray e)):=by
  by_cases h0:len=0
  .subst h0;have hr0:f=[]:=ay l.symm;have X:vs=[]:=ay (by rw[W,hr0];rfl);have hp0:c=#[]:=Array.eq_empty_of_size_eq_zero (by simpa using A);subst X hp0;have hs:(sizeOf e).run P w=.ok sz w:=Bm (by rw[h1];simp[M]) w;have e0:(Array.range 0:Array Nat)=#[]:=Array.eq_empty_of_size_eq_zero (by simp);simp[execOp,ho,Instr.buildSlice,run_underlying q,hs,Result.andThen,Instr.fill,newRow,e0]
  .have Z:=run_buildSlice (P:=P) w ty e len (c.map λp=>(p.1,a.eval p.2)) (vs.map λv=>v.cells.toList).flatten.toArray ie z q h1 h2 (by rw[M];omega) (by rw[M];exact Nat.mul_ne_zero h0 (by omega)) (by
    have hf:=Go.Great.fill_whole (s:=sz) h5 vs ((Array.range (len * ie.size)).map (z.cells[· % z.cells.size]!)) Y (by simp[M,W,l]);rw[M];rw[<-k2,M] at hf;simpa [List.flatMap_def] using hf)
   simp only[execOp,ho,Sem.run_bind,Sem.run_pure];rw[Z];rfl
 have C:=D2 (r:=.slc f e sz) F.has ((ab _ _).alloc (au _) (.cells (vs.map λv=>v.cells.toList).flatten.toArray e)) 0 (.slice (some ⟨w.heap.size,0,none⟩) len len) (·=w.heap.size) (λk e=>⟨Nat.le_of_eq e.symm,by subst e;simp⟩) ⟨λb=>by simp[Va.push,Value.ownBlock,eq_comm],vs.map λv=>v.cells.toList,⟨J,.inr ⟨w.heap.size,len,_,by simp[Va.push,l],av _,heap_alloc_new _ _,by omega,?_,by simp only[List.size_toArray];rw[J,l],by simp only;rw[<-J];exact List.take_length⟩⟩,by simp[W],λi r u hr q=>(k5 i r u hr q),λu q=>by obtain⟨v,U,rfl⟩:=bi.1 q;simpa using Y v U,λu q x hx=>by obtain⟨v,U,rfl⟩:=bi.1 q;exact k7 v U x hx,h5⟩
 .have D:(V1.push 0 (.slice (some ⟨w.heap.size,0,none⟩) len len) (·=w.heap.size)).n=V.n+1:=by simp[Va.push,j]
  have E:CRep I1 (V1.push 0 (.slice (some ⟨w.heap.size,0,none⟩) len len) (·=w.heap.size)) (.osl V.n) (.slice (some ⟨w.heap.size,0,none⟩) len len):=⟨by show V.n < V1.n+1;omega,by simp[Va.push,j]⟩;rw[<-j] at H;cases hsb:Z6o tb mo ty sz with
  | false =>
   rw[hsb] at H;exact Rc (Q:=Q) (g:=.osl V.n) hK ha hd B (F.trans C) ((ab _ _).alloc (au _) _) (O.trans (Nat.le_of_eq j.symm) (.push _ _ _ _)) (TRep.of_c (g:=.osl V.n) E) (by rw[D,<-j];exact H)
  | true =>
   rw[hsb] at H;have H:Z42 ((V1.n,.slc f e sz)::o1) (.osl V1.n) λg L=>K (put o.dst g t) L (V1.n+1):=H;rw[<-j] at E;obtain⟨g',o3,I3,V3,p1,⟨p2,p3⟩,p4,p5⟩:=D5 H E C.has;exact Rc (Q:=Q) (g:=g') hK ha hd B ((F.trans C).trans p4) ((ab _ _).alloc (au _) _) ((O.trans (Nat.le_of_eq j.symm) (.push _ _ _ _)).trans (by rw[D];omega) p3) (.of_v p5) (by rw[p2,D,<-j];exact p1)
 .have:len<=len * sz:=Nat.le_mul_of_pos_right _ h5;unfold maxLen;omega
omit hT hK hH ha hd in
theorem Zbi {I:Imm}{z x:Value}(h:VRep I (.v z) x):x=z:=by cases h;rfl
omit hT hK hH ha hd in
theorem Z3k {α:Type}(k:Nat)(x:α):(List.replicate k [x]).flatten=List.replicate k x:=by
 induction k with
 | zero=>rfl
 | succ k ih=>rw[List.replicate_succ,List.replicate_succ,cj,ih];rfl
omit hT hK hH ha hd in
theorem Z11 (b:Array Value)(sz k:Nat)(e:b.size=sz)(q:0 < sz):(madeCells b (k * sz)).toList=(List.replicate k b.toList).flatten:=by
 have p:(List.replicate k b.toList).flatten.length=k * sz:=by rw[Bk (sz:=sz) λu h=>by rw[cz h];simpa using e];simp
 refine List.ext_getElem (by rw[p];simp[madeCells]) λj B f=>?_;have z:j < k * sz:=by rw[p] at f;exact f
 have s:j / sz < k:=(Nat.div_lt_iff_lt_mul q).2 z;have C:j % sz < sz:=Nat.mod_lt _ q;have A:(madeCells b (k * sz)).toList[j]=b[j % sz]!:=by simp[madeCells,e]
 have l:(List.replicate k b.toList).flatten[j / sz * sz+j % sz]?=some b[j % sz]!:=Ci (u:=b.toList) (λu h=>by rw[cz h];simpa using e) (by rw[List.getElem?_replicate,dp s]) (by
  have c:j % sz < b.size:=by omega
  rw[Array.getElem?_toList,am c,getElem!_pos b _ c])
 rw[Nat.div_add_mod'] at l;rw[A];rw[ap f] at l;exact(ct l).symm
include hK hd in
theorem Wg {ty:TypeId}{len cap:Operand}(ho:o.op=.makeSlice ty len cap){ag:Bool}{zr z:List G}{e sz:Nat}{fl X:List (TypeId × Nat)}{st st2:Bool}{ik ik2:Option IntKind}{kd kd2:KD}{Y:Option (TypeId × Nat)}(hl:look ty tb=some ⟨ag,zr,some (e,sz),fl,st,ik,kd⟩)(Z:look e tb=some ⟨true,z,Y,X,st2,ik2,kd2⟩)(h:match Nat.beq sz z.length,Bp N6 z with
        | true,true=>ev t own len λp=>ev t own cap λq=>match p,q with
         | .v (.int .i64 m),.v (.int .i64 c)=>(0<=m/\m<=1073741824/\c=m/\m * sz<=1073741824)/\K (put o.dst (.osl V.n) t) ((V.n,.slc (List.replicate m.toNat z) e sz)::own) (V.n+1)
         | _,_=>False
        | _,_=>False):o.wp P a w next Q:=by
 split at h
 case h_2=>exact h.elim
 next A E =>
 have A:=aw A;obtain⟨l,M,f,h1,h2,h3,h4,h5,h6⟩:=(hT _ _ hl).elem e _ rfl;have hz:=hT _ _ Z;obtain⟨p,h,T⟩:=B1 h ha hH;obtain⟨q,h,U⟩:=B1 h ha hH;split at h
 case h_2=>exact h.elim
 next m c =>
 obtain⟨⟨g1,g2,g3,g4⟩,h⟩:=h;subst g3;obtain⟨k,rfl⟩:=al g1;have T:a.eval len=.int .i64 k:=Zbi T;have U:a.eval cap=.int .i64 k:=Zbi U;have hzz:(P.info? e).bind (·.zero)=some f:=by rw[h1];exact h2
 have B:f.cells.toList=z.map G.val:=by have:=hz.zero;rw[hzz] at this;simpa using this
 have F:f.cells.size=sz:=by rw[<-co,B,ao,A]
 have L:=run_make (P:=P) w ty e M f l h1 h2 .i64 .i64 k k (by omega) (Int.le_refl _) (by
  have:M.bytes * k<=65536 * 1073741824:=Nat.mul_le_mul h6 (by omega);have e:(M.bytes:Int) * (k:Int)=((M.bytes * k:Nat):Int):=by rw[Int.natCast_mul]
  rw[e];omega) (by omega)
 simp only[Int.toNat_natCast,h3] at L;have H:(execOp a.eval o).run P w=.ok (.value (.slice (some ⟨w.heap.size,0,none⟩) k k)) (w.alloc (.cells (madeCells f.cells (k * sz)) e)):=by simp only[execOp,ho,T,U,Sem.run_bind,Sem.run_pure];rw[L];rfl
 have J:=Z11 f.cells sz k F h5;have hpz:∀I2:Imm,PW (VRep I2) z f.cells.toList:=λI2=>by
  rw[B];refine⟨by simp,λj g u O l=>?_⟩;rw[ax,O] at l;obtain⟨x,rfl,-⟩:=L5 (Ai E g (ar O));obtain rfl:x=u:=by simpa [G.val] using l
  exact .v _
 have D:∀x∈f.cells.toList,x.oneCell'=true:=λx C=>by rw[B] at C;obtain⟨g,O,rfl⟩:=bi.1 C;obtain⟨y,rfl,hy⟩:=L5 (Ai E g O);exact hy
 have s:∀u∈List.replicate k f.cells.toList,u.length=sz:=λu l=>by rw[cz l];simpa using F
 have W:=D2 (r:=.slc (List.replicate k z) e sz) hH ((ab _ _).alloc (au _) (.cells (madeCells f.cells (k * sz)) e)) 0 (.slice (some ⟨w.heap.size,0,none⟩) k k) (·=w.heap.size) (λk e=>⟨Nat.le_of_eq e.symm,by subst e;simp⟩) ⟨λb=>by simp[Va.push,Value.ownBlock,eq_comm],List.replicate k f.cells.toList,⟨by rw[Bk s];simp,.inr ⟨w.heap.size,k,_,by simp[Va.push],av _,heap_alloc_new _ _,by simp,?_,by rw[<-co,J,Bk s];simp,by rw[J,ba (by rw[Bk s];simp)]⟩⟩,by simp,λi r u hr l=>?_,s,λu l x C=>by rw[cz l] at C;exact D x C,h5⟩
 .exact Rc (Q:=Q) (g:=.osl V.n) hK ha hd H W ((ab _ _).alloc (au _) _) (.push _ _ _ _) (TRep.of_c (g:=.osl V.n) ⟨by show V.n < V.n+1;omega,by simp[Va.push]⟩) h
 .unfold maxLen;omega
 .rw[cz (ar hr),cz (ar l)];exact hpz _
include hK hd in
theorem Pk {ty:TypeId}{len cap:Operand}(ho:o.op=.makeSlice ty len cap)(h:match look ty tb with
  | some ⟨_,_,some (e,sz),_,_,_,_⟩=>match look e tb with
   | some ⟨false,[z],_,_,_,_,_⟩=>match Nat.beq sz 1 with
    | true=>ev t own len λp=>ev t own cap λq=>match p,q with
     | .v (.int .i64 m),.v (.int .i64 c)=>(0<=m/\m<=1073741824/\c=m)/\K (put o.dst (.osl V.n) t) ((V.n,.slc (List.replicate m.toNat [z]) e 1)::own) (V.n+1)
     | _,_=>False
    | false=>False
   | some ⟨true,L,_,_,_,_,_⟩=>match Nat.beq sz L.length,Bp N6 L with
    | true,true=>ev t own len λp=>ev t own cap λq=>match p,q with
     | .v (.int .i64 m),.v (.int .i64 c)=>(0<=m/\m<=1073741824/\c=m/\m * sz<=1073741824)/\K (put o.dst (.osl V.n) t) ((V.n,.slc (List.replicate m.toNat L) e sz)::own) (V.n+1)
     | _,_=>False
    | _,_=>False
   | _=>False
  | _=>False):o.wp P a w next Q:=by
 split at h
 case h_2=>exact h.elim
 next ag L e sz fl st ik kd hl =>
 split at h
 case h_2 L el2 Z st2 ik2 kd2 B=>exact Wg hT hK hH ha hd ho hl B h
 case h_3=>exact h.elim
 next z el2 Z st2 ik2 kd2 B =>
 split at h
 case h_2=>exact h.elim
 next C =>
 have C:=aw C;subst C;obtain⟨A,ie,l,h1,W,h3,h4,h5,h6⟩:=(hT _ _ hl).elem e _ rfl;have T:=hT _ _ B;obtain⟨p,h,U⟩:=B1 h ha hH;obtain⟨q,h,X⟩:=B1 h ha hH;split at h
 case h_2=>exact h.elim
 next m c =>
 obtain⟨⟨g1,g2,g3⟩,h⟩:=h;subst g3;obtain⟨k,rfl⟩:=al g1;have U:a.eval len=.int .i64 k:=Zbi U;have X:a.eval cap=.int .i64 k:=Zbi X;have D:(P.info? e).bind (·.zero)=some l:=by rw[h1];exact W
 have J:l.cells=#[l]:=by simpa using T.zag l D
 have M:l=z.val:=by have:=T.zero;rw[D] at this;simp[J] at this;exact this
 have s:(P.info? e).map (λi=>(i.zero,i.size,i.bytes))=some (some l,1,ie.bytes):=by rw[h1];simp[W,h3]
 have hmk:=run_make_row' (P:=P) ty e l ie.bytes A s J .i64 .i64 k (by have:ie.bytes * k<=65536 * 1073741824:=Nat.mul_le_mul h6 (by omega);omega) (by omega) w
 have F:(execOp a.eval o).run P w=.ok (.value (.slice (some ⟨w.heap.size,0,none⟩) k k)) (w.alloc (.cells (madeCells #[l] k) e)):=by simp only[execOp,ho,U,X,Sem.run_bind,Sem.run_pure];rw[hmk];rfl
 have H:(madeCells #[l] k).toList=List.replicate k l:=by refine List.ext_getElem (by simp[madeCells]) λj h1 W=>?_;simp[madeCells,Nat.mod_one]
 have O:(List.replicate k [l]).flatten=List.replicate k l:=Z3k k l;have hpz:∀I2:Imm,VRep I2 z l:=λI2=>by
  have f:=T.zok;rw[M];have f:zOK z=true:=by simpa [Bp] using f
  revert f;cases z<;>intro f<;>first | (cases f;done) | exact .v _ | exact .ff | exact .tt | exact .nl | exact .un
 have E:l.oneCell'=true:=by
  have f:zOK z=true:=by simpa [Bp] using T.zok
  rw[M];revert f;cases z<;>intro f<;>first | (cases f;done) | rfl | exact f | (simpa [zOK] using f)
 have Y:=D2 (r:=.slc (List.replicate k [z]) e 1) hH ((ab _ _).alloc (au _) (.cells (madeCells #[l] k) e)) 0 (.slice (some ⟨w.heap.size,0,none⟩) k k) (·=w.heap.size) (λk e=>⟨Nat.le_of_eq e.symm,by subst e;simp⟩) ⟨λb=>by simp[Va.push,Value.ownBlock,eq_comm],List.replicate k [l],⟨by rw[O];simp,.inr ⟨w.heap.size,k,_,by simp[Va.push],av _,heap_alloc_new _ _,by simp,?_,by rw[<-co,H];simp,by rw[H,O];simp⟩⟩,by simp,λi r u hr A=>?_,λu A=>by rw[cz A];rfl,λu A x hx=>by rw[cz A] at hx;rw[bw.1 hx];exact E,Nat.one_pos⟩
 .exact Rc (Q:=Q) (g:=.osl V.n) hK ha hd F Y ((ab _ _).alloc (au _) _) (.push _ _ _ _) (TRep.of_c (g:=.osl V.n) ⟨by show V.n < V.n+1;omega,by simp[Va.push]⟩) h
 .unfold maxLen;omega
 .rw[cz (ar hr),cz (ar A)];exact .cons (hpz _) .nil
end
section
variable {P:Program} {tb:List (Nat × TI)} {N n:Nat} {I I' I0:Imm} {V V' V0:Va} {a:Act} {t:Ts} {own own' own0:Os} {w w' w0:World} {g:G} {y:Value} {d:Option Tmp}
variable {XL:List Nat} {S:World->Prop} {K:Ts->Os->Nat->Prop} {next:Act->World->Prop} {Q:Exit->Act->World->Prop} {o:Oper} {r:R}
theorem Ym {K1:List (List G)->Prop}(h:S1 own g K1)(C:TRep I V g y)(hH:Has I V own w):∃f A c,K1 f/\y=.slice A f.length c/\(A=none->f=[]):=by
 cases g with
 | nl=>cases(show VRep I .nl y from C);exact⟨_,none,0,h,rfl,λ_=>rfl⟩
 | sl l =>
  cases(show VRep I (.sl l) y from C) with
  | sl _ A c sz u hc z hz hh hu=>exact⟨_,A,c,h,rfl,λe=>ay (by have:=z e;omega)⟩
 | osl k =>
  obtain⟨J,rfl⟩:=(show k < V.n/\y=V.s k from C);unfold S1 at h;dsimp only at h;split at h
  .next f e sz hr =>
   obtain⟨-,rs,⟨-,B⟩,-⟩:=hH.each k _ hr;rcases B with⟨j,h8⟩ | ⟨b,cap,cur,j,-⟩
   .exact⟨_,none,0,h,by rw[j,h8],λ_=>ay h8⟩
   .exact⟨_,_,_,h,j,λe=>by cases e⟩
  .next f sz hr =>
   have D:=(hH.each k _ hr).2.1;generalize V.s k=y at D;cases D with
   | sl _ A c sz u hc z hz hh hu=>exact⟨_,A,c,h,rfl,λe=>ay (by have:=z e;omega)⟩
  .next f e sz hr =>
   obtain⟨-,rs,⟨-,B⟩,-⟩:=hH.each k _ hr;rcases B with⟨j,h8⟩ | ⟨b,q,cap,cur,j,-⟩
   .exact⟨_,none,0,h,by rw[j,h8],λ_=>ay h8⟩
   .exact⟨_,_,_,h,j,λe=>by cases e⟩
  .exact h.elim
 | osv k sz lo hi =>
  obtain⟨J,⟨F,p⟩,rfl⟩:=(show k < V.n/\(lo<=hi/\hi<=Mb (V.s k))/\y=K0 sz (V.s k) lo hi from C);unfold S1 at h;dsimp only at h;split at h
  .next f e M hr =>
   obtain⟨-,rs,⟨-,B⟩,-⟩:=hH.each k _ hr;have key:∃A c,V.s k=.slice A f.length c/\(A=none->f.length=0):=by
    rcases B with⟨j,h8⟩ | ⟨b,cap,cur,j,-⟩
    .exact⟨none,0,by rw[j,h8],λ_=>h8⟩
    .exact⟨_,_,j,λe=>by cases e⟩
   obtain⟨A,c,H,L⟩:=key;rw[H] at p⊢;have p:hi<=f.length:=p;have E:(Fo f lo hi).length=hi - lo:=by unfold Fo;simp;omega
   refine⟨_,(if c=lo then A else A.map (·.add (lo * sz))),c - lo,h,by rw[E];rfl,λe=>ay ?_⟩;have z:A=none:=by
    cases A with
    | none=>rfl
    | some x=>split at e<;>cases e
   have:=L z;rw[E];omega
  .exact h.elim
 | _=>exact False.elim h
theorem Tm {sz:Nat}{K1:List (List G)->Prop}(h:Z1e own g sz K1)(hg:TRep I V g y)(hH:Has I V own w):∃new A c,∃rs:List (List Value),K1 new/\y=.slice A new.length c/\(A=none->new.length=0/\c=0)/\rs.length=new.length/\(∀(i:Nat) r u,new[i]?=some r->rs[i]?=some u->PW (VRep I) r u)/\(∀u∈rs,u.length=sz)/\(∀u∈rs,∀x∈u,x.oneCell'=true)/\∀a,A=some a->∀(j:Nat) u,rs.flatten[j]?=some u->w.cell? (a.add j)=some u:=by
 cases g with
 | nl=>cases(show VRep I .nl y from hg);exact⟨[],none,0,[],h,rfl,λ_=>⟨rfl,rfl⟩,rfl,λi r u h=>by simp at h,by simp,by simp,λa e=>by cases e⟩
 | sl l =>
  obtain⟨hr,h⟩:=h;obtain⟨A,c,rs,e,h1,L,O,F,T,h6⟩:=Z8 (show VRep I (.sl l) y from hg) hH.mem λr hm=>(hr r hm).1;refine⟨l,A,c,rs,h,e,λe=>⟨by rw[(L e).1];rfl,(L e).2⟩,O,F,T,λu C x Z=>?_,λa ha j u C=>(h6 a ha j u C).2⟩;obtain⟨i,z,e⟩:=cq.1 C;have hi':i < l.length:=by omega
  have hp:=F i l[i] u (ap hi') (by rw[ap z,e]);obtain⟨m,hm,e2⟩:=cq.1 Z;have hm':m < l[i].length:=by rw[hp.1];exact hm
  exact Kp (hp.2 m l[i][m] x (ap hm') (by rw[ap hm,e2])) (List.all_eq_true.1 (hr _ (bu hi')).2 _ (bu hm'))
 | osl k =>
  obtain⟨hk,rfl⟩:=(show k < V.n/\y=V.s k from hg);unfold Z1e at h;dsimp only at h;split at h
  .next f e sz' hr =>
   split at h
   .next H =>
    have H:=aw H;subst H;obtain⟨-,rs,M,L,O,F,T,h6⟩:=hH.each k _ hr;rcases M.2 with⟨B,h8⟩ | ⟨b,cap,cur,B,-⟩
    .exact⟨f,none,0,rs,h,by rw[B,h8],λ_=>⟨h8,rfl⟩,L,O,F,T,λa e=>by cases e⟩
    .exact⟨f,_,_,rs,h,B,(λe=>by cases e),L,O,F,T,λa e j u C=>by cases e;exact M.cells (g:=b) (by rw[B];rfl) j u C⟩
   .exact h.elim
  .exact h.elim
 | osv k sz0 lo z =>
  obtain⟨hk,⟨b1,D⟩,rfl⟩:=(show k < V.n/\(lo<=z/\z<=Mb (V.s k))/\y=K0 sz0 (V.s k) lo z from hg);unfold Z1e at h;dsimp only at h;split at h
  .next f e sz' hr =>
   split at h
   .next H E =>
    have H:=aw H;have E:=aw E;subst H E;obtain⟨-,rs,M,L,O,F,T,h6⟩:=hH.each k _ hr;have p:(Fo f lo z).length=z - lo:=by unfold Fo;rw[bj,be];rcases M.2 with⟨B,h8⟩ | ⟨b,cap,cur,B,-⟩<;>(rw[B] at D;simp only[Mb] at D;omega)
    have hR:∀(i:Nat) r u,(Fo f lo z)[i]?=some r->((rs.take z).drop lo)[i]?=some u->PW (VRep I) r u:=λi r u J X=>by
     unfold Fo at J;rw[cd] at J X;have W:lo+i < z:=by have:=(aq.1 J).1;rw[be] at this;omega
     rw[List.getElem?_take_of_lt W] at J X;exact O _ r u J X
    rcases M.2 with⟨B,h8⟩ | ⟨b,cap,cur,B,-,-,h9,-⟩
    .have U:z=0/\lo=0:=by rw[B] at D;simp only[Mb] at D;omega
     obtain⟨rfl,rfl⟩:=U;refine⟨Fo f 0 0,none,0,(rs.take 0).drop 0,h,by rw[B,p];rfl,λ_=>⟨p,rfl⟩,by rw[p];simp,hR,by simp,by simp,λa e=>by cases e⟩
    .refine⟨Fo f lo z,if cap=lo then some ⟨b,0,none⟩ else(some (⟨b,0,none⟩:Addr)).map (·.add (lo * sz0)),cap - lo,(rs.take z).drop lo,h,by rw[B,p];rfl,λe=>(by split at e<;>cases e),by rw[p,bj,be];rw[B] at D;simp only[Mb] at D;omega,hR,λu C=>F u (bm (cg C)),λu C=>T u (bm (cg C)),λa e j u C=>?_⟩;have hlr:z<=rs.length:=by rw[L];rw[B] at D;simpa [Mb] using D
     have Y:rs.flatten[lo * sz0+j]?=some u:=by
      have e1:rs=rs.take lo++((rs.take z).drop lo++rs.drop z):=by
       conv=>lhs;rw[<-de z rs,<-de lo (rs.take z),List.take_take,cp b1,ce]
      have e2:(rs.take lo).flatten.length=lo * sz0:=by
       have:∀(l:List (List Value)),(∀u∈l,u.length=sz0)->l.flatten.length=l.length * sz0:=λl=>by
        induction l with
        | nil=>intro _;simp
        | cons u l ih=>intro h;rw[cj,bf,h u (by simp),ih λx Z=>h x (by simp[Z]),bk,Nat.succ_mul];omega
       rw[this _ λu C=>F u (bm C),be,cp (by omega)]
      rw[e1,List.flatten_append,bn (by omega),e2,Nat.add_sub_cancel_left,List.flatten_append,br (aq.1 C).1];exact C
     split at e
     .next hc =>
      exfalso;have:lo=z:=by
       have:z<=cap:=by rw[B] at D;simp only[Mb] at D;omega
       omega
      subst this;rw[List.drop_of_length_le (by rw[be];omega)] at C;simp at C
     .cases e;have:=M.cells (g:=b) (by rw[B];rfl) (lo * sz0+j) u Y;show w.cell? ((Addr.add ⟨b,0,none⟩ (lo * sz0)).add j)=some u;rw[Addr.add_lit,Addr.add_lit];rw[Addr.add_lit] at this;rw[show 0+lo * sz0+j=0+(lo * sz0+j) by omega];exact this
   .exact h.elim
  .next f e' sz' hr =>
   split at h
   .next H E =>
    have H:=aw H;have E:=aw E;subst H E;obtain⟨-,rs,M,L,O,F,T,h6⟩:=hH.each k _ hr;have p:(Fo f lo z).length=z - lo:=by unfold Fo;rw[bj,be];rcases M.2 with⟨B,h8⟩ | ⟨b,q,cap,cur,B,-⟩<;>(rw[B] at D;simp only[Mb] at D;omega)
    have hR:∀(i:Nat) r u,(Fo f lo z)[i]?=some r->((rs.take z).drop lo)[i]?=some u->PW (VRep I) r u:=λi r u J X=>by
     unfold Fo at J;rw[cd] at J X;have W:lo+i < z:=by have:=(aq.1 J).1;rw[be] at this;omega
     rw[List.getElem?_take_of_lt W] at J X;exact O _ r u J X
    rcases M.2 with⟨B,h8⟩ | ⟨b,q,cap,cur,B,hgg,h9,hcm,hcs,htk⟩
    .have U:z=0/\lo=0:=by rw[B] at D;simp only[Mb] at D;omega
     obtain⟨rfl,rfl⟩:=U;refine⟨Fo f 0 0,none,0,(rs.take 0).drop 0,h,by rw[B,p];rfl,λ_=>⟨p,rfl⟩,by rw[p];simp,hR,by simp,by simp,λa e=>by cases e⟩
    .refine⟨Fo f lo z,if cap=lo then some ⟨b,q,none⟩ else(some (⟨b,q,none⟩:Addr)).map (·.add (lo * sz0)),cap - lo,(rs.take z).drop lo,h,by rw[B,p];rfl,λe=>(by split at e<;>cases e),by rw[p,bj,be];rw[B] at D;simp only[Mb] at D;omega,hR,λu C=>F u (bm (cg C)),λu C=>T u (bm (cg C)),λa e j u C=>?_⟩;have hlr:z<=rs.length:=by rw[L];rw[B] at D;simpa [Mb] using D
     have Y:rs.flatten[lo * sz0+j]?=some u:=by
      have e1:rs=rs.take lo++((rs.take z).drop lo++rs.drop z):=by
       conv=>lhs;rw[<-de z rs,<-de lo (rs.take z),List.take_take,cp b1,ce]
      have e2:(rs.take lo).flatten.length=lo * sz0:=by
       have:∀(l:List (List Value)),(∀u∈l,u.length=sz0)->l.flatten.length=l.length * sz0:=λl=>by
        induction l with
        | nil=>intro _;simp
        | cons u l ih=>intro h;rw[cj,bf,h u (by simp),ih λx Z=>h x (by simp[Z]),bk,Nat.succ_mul];omega
       rw[this _ λu C=>F u (bm C),be,cp (by omega)]
      rw[e1,List.flatten_append,bn (by omega),e2,Nat.add_sub_cancel_left,List.flatten_append,br (aq.1 C).1];exact C
     split at e
     .next hc =>
      exfalso;have:lo=z:=by
       have:z<=cap:=by rw[B] at D;simp only[Mb] at D;omega
       omega
      subst this;rw[List.drop_of_length_le (by rw[be];omega)] at C;simp at C
     .cases e;show w.cell? ((Addr.add ⟨b,q,none⟩ (lo * sz0)).add j)=some u;rw[Addr.add_lit,Addr.add_lit,cell_of_row w b _ cur e' (0,0) hgg];rw[<-htk,bp] at Y;split at Y
      .rw[cd] at Y;rw[show q+lo * sz0+j=q+(lo * sz0+j) by omega];simpa using Y
      .cases Y
   .exact h.elim
  .exact h.elim
 | _=>exact False.elim h
theorem Ii (h:Has I V own w){k:Nat}{L:R}(T:look k own=some L)(W:w'.os=w.os)(htp:w'.tape=w.tape)(hou:w'.output=w.output)(M:w.heap.size<=w'.heap.size)(O:∀b,b < w.heap.size->¬V.f k b->w'.heap[b]?=w.heap[b]?)
  (s:Value) (f:Nat->Prop) (Z:∀b,f b->(V.f k b\/w.heap.size<=b)/\b < w'.heap.size) (hr:RRep I ((V.drop k).push 0 s f) V.n w' r):Later own I V w ((V.n,r)::(k,.gone)::own) I ((V.drop k).push 0 s f) w':=by
 have Y:=h.num k L T;have H:∀j r',look j own=some r'->j≠k->∀b,V.f j b->¬V.f k b:=λj r' p H b c l=>H (h.disj j k r' L b p T c l);have z:∀j r',look j ((V.n,r)::(k,.gone)::own)=some r'->(j=V.n/\r'=r)\/(j≠V.n/\j=k/\r'=.gone)\/(j≠V.n/\j≠k/\look j own=some r'):=λj r' p=>by
  rw[Ac] at p;split at p
  .next e=>cases p;exact .inl ⟨e,rfl⟩
  .next e =>
   rw[Ac] at p;split at p
   .next q=>cases p;exact .inr (.inl ⟨e,q,rfl⟩)
   .next q=>exact .inr (.inr ⟨e,q,p⟩)
 have hV:V.le ((V.drop k).push 0 s f):=⟨Nat.le_succ _,λj p=>by simp[Va.push,Va.drop,Nat.ne_of_lt p]⟩;have E:((V.drop k).push 0 s f).f V.n=f:=by simp[Va.push,Va.drop]
 have A:∀j,j≠V.n->j≠k->((V.drop k).push 0 s f).f j=V.f j:=λj D h2=>by simp[Va.push,Va.drop,D,h2]
 have B:∀b,¬((V.drop k).push 0 s f).f k b:=λb=>by simp[Va.push,Va.drop,Nat.ne_of_lt Y]
 refine⟨⟨h.mem.keep λb o x hx=>O b (h.mem.lt hx) λJ=>(by have:=(h.foot k L b T J).2 o;rw[hx] at this;cases this),λj r' p=>?_,λj r' p=>?_,λj r' b p c=>?_,λj U r1 r2 b p X c l=>?_⟩,⟨W,htp,hou,M,λb c hn=>⟨O b c (hn k L T),λ_=>rfl⟩,λ_ _ _ h=>h,λj r' b p c hlt=>?_⟩,hV⟩
 .rcases z j r' p with⟨e,-⟩ | ⟨-,e,-⟩ | ⟨-,-,e⟩
  .rw[e];exact da _
  .rw[e];exact Nat.lt_succ_of_lt Y
  .exact Nat.lt_succ_of_lt (h.num j r' e)
 .rcases z j r' p with⟨e,q⟩ | ⟨-,e,q⟩ | ⟨F,C,e⟩
  .rw[e,q];exact hr
  .rw[e,q];exact B
  .exact(h.each j r' e).keep (.refl _) hV (h.num j r' e) (A j F C) W M λb c=>O b (h.foot j r' b e c).1 (H j r' e C b c)
 .rcases z j r' p with⟨e,q⟩ | ⟨-,e,q⟩ | ⟨F,C,e⟩
  .rw[e,E] at c;refine⟨(Z b c).2,λo=>?_⟩;rcases(Z b c).1 with D | D
   .exact(h.foot k L b T D).2 o
   .cases hI:I b o with
    | none=>rfl
    | some x=>exact dq (h.mem.lt hI) (by omega)
  .rw[e] at c;exact dq c (B b)
  .rw[A j F C] at c;exact⟨bc (h.foot j r' b e c).1 M,(h.foot j r' b e c).2⟩
 .have key:∀j r',look j own=some r'->j≠V.n->j≠k->V.f j b->¬f b:=λj r' p F C c J=>by
   rcases(Z b J).1 with D | D
   .exact H j r' p C b c D
   .have:=(h.foot j r' b p c).1;omega
  rcases z j r1 p with⟨e,-⟩ | ⟨-,e,-⟩ | ⟨F,C,e⟩
  .rcases z U r2 X with⟨q,-⟩ | ⟨-,q,-⟩ | ⟨e1',e2',q⟩
   .rw[e,q]
   .rw[q] at l;exact dq l (B b)
   .rw[e,E] at c;rw[A U e1' e2'] at l;exact dq c (key U r2 q e1' e2' l)
  .rw[e] at c;exact dq c (B b)
  .rw[A j F C] at c;rcases z U r2 X with⟨q,-⟩ | ⟨-,q,-⟩ | ⟨e1',e2',q⟩
   .rw[q,E] at l;exact dq l (key j r1 e F C c)
   .rw[q] at l;exact dq l (B b)
   .rw[A U e1' e2'] at l;exact h.disj j U r1 r2 b e q c l
 .rcases z j r' p with⟨e,-⟩ | ⟨-,e,-⟩ | ⟨F,C,e⟩
  .rw[e,E] at c;rcases(Z b c).1 with D | D
   .exact⟨k,L,T,D⟩
   .omega
  .rw[e] at c;exact dq c (B b)
  .rw[A j F C] at c;exact⟨j,r',e,c⟩
theorem Qa (t ty e:TypeId)(i:TypeInfo)(z:Value)(size bytes:Nat)(U:P.underlying t=some (.slice e))(W:P.info? e=some i)(hz:i.zero=some z)
  (s:i.size=size) (F:i.bytes=bytes) (L:z.cells.size=size) (M:0 < size) (v:Value) (n:Nat) (xs:List Value) (l:Eb w e size v n xs)
  (A:Option Addr) (m c:Nat) (f:List Value) (D:f.length=m * size) (hA:A=none->m=0/\c=0) (h:∀a,A=some a->∀j u,f[j]?=some u->w.cell? (a.add j)=some u) (h1:∀u∈f,u.oneCell'=true)
  (O:n+m<=maxLen) (B:(n+m) * bytes<=140737488355328) :
  ∃C w',(Builtin.append_ #[t,t] ty #[v,.slice A m c]).run P w=.ok C w'/\Eb w' e size C (n+m) (xs++f)/\w.grownBy w' v.ownBlock/\(C.ownBlock=v.ownBlock\/∃g,C.ownBlock=some g/\w.heap.size<=g/\g < w'.heap.size):=by
 rcases l.2 with⟨rfl,rfl⟩ | ⟨g,q,cap,cur,rfl,hg,hn,hm,hc,htake⟩
 .have hx:xs=[]:=ay (by simpa using l.1);subst hx;obtain⟨C,w',Y,T,E,r4⟩:=Ya (P:=P) (w:=w) t ty e i z size bytes U W hz s F L M (.slice none 0 0) 0 [] (World.ownsRow_nil w 0 e size) A m c f D hA h h1 O B;exact⟨C,w',Y,U1 T,E,r4⟩
 cases A with
 | none =>
  obtain⟨rfl,rfl⟩:=hA rfl;have hnn:f=[]:=ay (by simpa using D);subst hnn;refine⟨_,w,?_,by simpa using l,World.grownBy.refl _ _,.inl rfl⟩;simp[Builtin.append_,run_underlying U,sizeOf,typeInfo,W,Builtin.lenOf,Builtin.firstCells,hn,storeCells]
 | some a =>
  have h:=h a rfl;by_cases p:n+m<=cap
  .subst s;have hmul:n * i.size+f.length<=cap * i.size:=by rw[D,<-Nat.add_mul];exact Nat.mul_le_mul_right _ p
   have hf:=run_firstCells_some (P:=P) w i.size m a m c f D h;have J:=run_storeCells_at P g (q+n * i.size) e f 0 cur w hg (by omega) h1;simp only[Nat.add_zero] at J;have Z:cur.toList.length=cur.size:=co;refine⟨.slice (some ⟨g,q,none⟩) (n+m) cap,w.setRow g (cur.toList.take (q+n * i.size)++f++cur.toList.drop (q+n * i.size+f.length)).toArray,by simp[Builtin.append_,run_underlying U,sizeOf,typeInfo,W,Builtin.lenOf,p,hf,Addr.add_lit,J],⟨by rw[bf,l.1,D,Nat.add_mul],.inr ⟨g,q,cap,_,rfl,setRow_heap w _ cur _ e _ hg,p,hm,?_,?_⟩⟩,⟨rfl,rfl,rfl,by simp[World.setRow],λb hb hne=>setRow_other w _ b _ (λe=>hne (by rw[e];rfl))⟩,.inl rfl⟩
   .simp;omega
   .have hX:(cur.toList.take (q+n * i.size)).drop q=xs:=by rw[List.drop_take,Nat.add_sub_cancel_left];exact htake
    have X:(n+m) * i.size=(xs++f).length:=by rw[bf,l.1,D,Nat.add_mul]
    show List.take _ (List.drop q (cur.toList.take (q+n * i.size)++f++cur.toList.drop (q+n * i.size+f.length)))=_;rw[ce,List.drop_append_of_le_length (by rw[be,Z];omega),hX,<-ce,X,List.take_left]
  .obtain⟨C,w',Y,T,E⟩:=run_append_arg_grows (P:=P) w t ty e i z size bytes U W hz s F L M ⟨g,q,none⟩ n cap xs l.1 (λj u H=>by
    rw[Addr.add_lit,cell_of_row w g _ cur e (0,0) hg];rw[<-htake,bp] at H;split at H
    .rw[cd] at H;simpa using H
    .cases H) a m c f D h (by omega) O B
   refine⟨C,w',Y,U1 T,⟨E.os,E.tape,E.output,E.size,λb hb _=>E.block b hb (by simp)⟩,?_⟩;cases hv:C.ownBlock with
   | none =>
    exfalso;rcases T.2 with⟨-,h0⟩ | ⟨g',cap',cur',rfl,-⟩
    .omega
    .cases hv
   | some g'=>exact .inr ⟨g',rfl,T.lt g' hv⟩
theorem Wd {rs:List (List Value)}{sz:Nat}(h:∀u∈rs,u.length=sz):∀l,rs.flatten.take (l * sz)=(rs.take l).flatten:=by
 intro l
 induction l generalizing rs with
 | zero=>simp
 | succ l ih =>
  cases rs with
  | nil=>simp
  | cons u rs =>
   have b:=h u (by simp);rw[cj,List.take_succ_cons,cj,<-ih λx c=>h x (by simp[c]),show(l+1) * sz=u.length+l * sz by rw[b,Nat.succ_mul];omega,List.take_length_add_append]
theorem Z5p {c new:List (List G)}{h rs:List (List Value)}{k e sz:Nat}{w':World}{j:Value}(D:Eb w' e sz j (c.length+new.length) (h.flatten++rs.flatten))(l:h.length=c.length)(z:∀(i:Nat) r u,c[i]?=some r->h[i]?=some u->PW (VRep I) r u)(p:∀u∈h,u.length=sz)(A:∀u∈h,∀x∈u,x.oneCell'=true)
  (C:rs.length=new.length) (B:∀(i:Nat) r u,new[i]?=some r->rs[i]?=some u->PW (VRep I) r u) (F:∀u∈rs,u.length=sz) (H:∀u∈rs,∀x∈u,x.oneCell'=true) (E:0 < sz):RRep I ((V.drop k).push 0 j λb=>j.ownBlock=some b) V.n w' (.vw (c++new) e sz):=by
 refine⟨λb=>by simp[Va.push,Va.drop],h++rs,?_,by simp[l,C],λi r u hr f=>?_,λu f=>?_,λu f=>?_,E⟩
 .have:((V.drop k).push 0 j λb=>j.ownBlock=some b).s V.n=j:=by simp[Va.push,Va.drop]
  rw[this,bf,List.flatten_append];exact D
 .by_cases q:i < c.length
  .rw[br q] at hr;rw[br (by omega)] at f;exact z i r u hr f
  .rw[bn (by omega)] at hr;rw[bn (by omega),l] at f;exact B _ r u hr f
 .rcases bz.1 f with f | f
  .exact p u f
  .exact F u f
 .rcases bz.1 f with f | f
  .exact A u f
  .exact H u f
def Z8a (V:Va)(w w':World)(g:G):Prop:=match g with
 | .osl k=>∀b,b < w.heap.size->¬V.f k b->w'.heap[b]?=w.heap[b]?
 | .orv k _ _ _ _ _=>∀b,b < w.heap.size->¬V.f k b->w'.heap[b]?=w.heap[b]?
 | _=>∀b,b < w.heap.size->w'.heap[b]?=w.heap[b]?
theorem Zbm {g0:G}(hKV:∀t own' I' V' e w',K t own' V'.n->Later own I V w own' I' V' w'->Z8a V w w' g0->V.kp V'->ARep N I' V' e t->next e w')(ha:ARep N I V a t)(hd:∀i,o.dst=some i->i < N)
  (hr:(execOp a.eval o).run P w=.ok (.value y) w') (b:Later own I V w own' I' V' w') (h:Z8a V w w' g0) (c:V.kp V') (f:TRep I' V' g y) (j:K (put o.dst g t) own' V'.n):o.wp P a w next Q:=by
 unfold Oper.wp;rw[hr];exact hKV _ _ _ _ _ _ j b h c ((ha.mono b.fro.mono b.va).put hd f)
variable (hT:∀t i,look t tb=some i->TIok P t i) (hH:Has I V own w) (hK:Nxt N own0 I0 V0 w0 K next) (hL:Since own0 I0 V0 w0 own I V w) (ha:ARep N I V a t) (hd:∀i,o.dst=some i->i < N)
include ha
include hH in
theorem Z9g {x:Operand}{ty:TypeId}(b:P.underlying ty=some .string)(f:o.op=.call {callee:=.builtin .len,args:=#[x],argTypes:=#[ty]})(h:ev t own x λg=>match g with
  | .v (.string s)=>K (put o.dst (.v (.int .i64 s.size)) t) own V.n
  | _=>False):QOk S P I V own w a t o K:=by
 obtain⟨g,c,j⟩:=B1 h ha hH;clear h;split at c
 .next s =>
  have e:=Av j;exact⟨_,_,c,(.of_v (.v _)),λu _=>(by simp[execOp,f,resolve,invoke,builtin,Builtin.len_,run_underlying b,e,goInt])⟩
 .exact c.elim
include hH in
theorem Zcz {x z:Operand}{j:Array TypeId}(s:o.op=.call {callee:=.builtin .max,args:=#[x,z],argTypes:=j})(h:ev t own x λg=>ev t own z λq=>match g,q with
  | .v (.int .i64 a),.v (.int .i64 b)=>K (put o.dst (.v (.int .i64 (max a b))) t) own V.n
  | _,_=>False):QOk S P I V own w a t o K:=by
 obtain⟨g,c,A⟩:=B1 h ha hH;obtain⟨q,f,l⟩:=B1 c ha hH;clear h c;split at f
 .have e:=Av A;have p:=Av l;exact⟨_,_,f,(.of_v (.v _)),λu _=>(by simp[execOp,s,resolve,invoke,builtin,e,p,Go.Lib.run_max_ints])⟩
 .exact f.elim
include hH in
theorem Zco {x z:Operand}{j:Array TypeId}(s:o.op=.call {callee:=.builtin .min,args:=#[x,z],argTypes:=j})(h:ev t own x λg=>ev t own z λq=>match g,q with
  | .v (.int .i64 a),.v (.int .i64 b)=>K (put o.dst (.v (.int .i64 (min a b))) t) own V.n
  | _,_=>False):QOk S P I V own w a t o K:=by
 obtain⟨g,c,A⟩:=B1 h ha hH;obtain⟨q,f,l⟩:=B1 c ha hH;clear h c;split at f
 .have e:=Av A;have p:=Av l;exact⟨_,_,f,(.of_v (.v _)),λu _=>(by simp[execOp,s,resolve,invoke,builtin,e,p,Go.Lib.run_min_ints])⟩
 .exact f.elim
include hH in
theorem Zab {x:Operand}{ty e:TypeId}(l:P.underlying ty=some (.slice e))(s:o.op=.call {callee:=.builtin .len,args:=#[x],argTypes:=#[ty]})(h:ev t own x λg=>Zdg own g λm=>K (put o.dst (.v (.int .i64 m)) t) own V.n):QOk S P I V own w a t o K:=by
 obtain⟨g,j,z⟩:=B1 h ha hH;have old:(S1 own g λf=>K (put o.dst (.v (.int .i64 f.length)) t) own V.n)->QOk S P I V own w a t o K:=λj=>by obtain⟨f,A,c,j,p,-⟩:=Ym j z hH;exact⟨_,_,j,(.of_v (.v _)),λu _=>(by simp[execOp,s,resolve,invoke,builtin,Builtin.len_,run_underlying l,p,goInt])⟩
 cases g with
 | orv k i sz off len cap =>
  obtain⟨B,b,q,-,p⟩:=(show TRep1 I V (.orv k i sz off len cap) (a.eval x) from z);exact⟨_,_,j,(.of_v (.v _)),λu _=>(by simp[execOp,s,resolve,invoke,builtin,Builtin.len_,run_underlying l,p,goInt])⟩
 | _=>exact old j
include hH ha hd in
theorem Ks {x:Operand}{e sz:Nat}{g:G}(hKV:∀t own' I' V' a' w',K t own' V'.n->Later own I V w own' I' V' w'->Z8a V w w' g->V.kp V'->ARep N I' V' a' t->next a' w'){new:List (List G)}{rs:List (List Value)}(k1:rs.length=new.length)(k2:∀(i:Nat) r u,new[i]?=some r->rs[i]?=some u->PW (VRep I) r u)(k3:∀u∈rs,u.length=sz)(k4:∀u∈rs,∀x∈u,x.oneCell'=true)(h5:0 < sz)
  (M:∀(v:Value) (c:List (List G)) (z:List (List Value)),a.eval x=v->w.ownsRow 0 e sz v c.length z.flatten->c.length+new.length<=1073741824->∃p w',(execOp a.eval o).run P w=.ok (.value p) w'/\w'.ownsRow 0 e sz p (c.length+new.length) (z.flatten++rs.flatten)/\w.grownBy w' v.ownBlock/\(p.ownBlock=v.ownBlock\/∃g,p.ownBlock=some g/\w.heap.size<=g/\g < w'.heap.size))
  (hg:TRep I V g (a.eval x)) (l:Z6h t own V.n o.dst g new e sz K):o.wp P a w next Q:=by
 unfold Z6h at l;cases g with
 | nl =>
  obtain⟨j,l⟩:=l;have T:a.eval x=.slice none 0 0:=by generalize a.eval x=X at hg;cases(show VRep I .nl X from hg);rfl
  obtain⟨p,w',hr,H,q,Y⟩:=M _ [] [] T (World.ownsRow_nil w 0 e sz) (by simpa using j);simp only[List.length_nil,Nat.zero_add,List.flatten_nil,List.nil_append] at H;have hB:Below w.heap.size w w':=⟨q.os,q.tape,q.output,q.size,λb f=>q.block b f (by simp[Value.ownBlock])⟩;refine Zbm (g0:=.nl) (g:=.osl V.n) hKV ha hd hr (D2 (r:=.slc new e sz) hH hB 0 p (λb=>p.ownBlock=some b) (λb f=>?_) ⟨λb=>by simp[Va.push],rs,by simpa [Va.push] using H,k1,k2,k3,k4,h5⟩) (λb f=>hB.block b f) (.push V 0 p _) (TRep.of_c (g:=.osl V.n) ⟨da _,by simp[Va.push]⟩) l;rcases Y with h | ⟨b',h,hb'⟩
  .rw[h] at f;simp[Value.ownBlock] at f
  .rw[h] at f;cases f;exact hb'
 | osl k =>
  obtain⟨hkn,T⟩:=(show k < V.n/\a.eval x=V.s k from hg);dsimp only at l;split at l
  .next c e' sz' J =>
   split at l
   .next F E =>
    have F:=aw F;have E:=aw E;subst F E;obtain⟨j,l⟩:=l;obtain⟨D,z,W,g2,g3,g4,g5,g6⟩:=hH.each k _ J;obtain⟨p,w',hr,H,q,Y⟩:=M _ c z T W j;have L:∀b,p.ownBlock=some b->b < w'.heap.size:=λb f=>(H.lt b f).2;refine Zbm (g0:=.osl k) (g:=.osl V.n) hKV ha hd hr (Ii (r:=.slc (c++new) e sz) hH J q.os q.tape q.output q.size (λb f Z=>q.block b f (λe=>Z ((D b).2 e.symm))) p (λb=>p.ownBlock=some b) (λb f=>⟨?_,L b f⟩) ⟨λb=>by simp[Va.push,Va.drop],z++rs,?_,by simp[g2,k1],?_,?_,?_,h5⟩) (λb f Z=>q.block b f (λe=>Z ((D b).2 e.symm))) ((Va.kp.drop V k).trans (au _) (.push (V.drop k) 0 p _)) (TRep.of_c (g:=.osl V.n) ⟨da _,by simp[Va.push,Va.drop]⟩) l
    .rcases Y with h | ⟨b',h,hb'⟩
     .exact .inl ((D b).2 (by rw[<-h];exact f))
     .rw[h] at f;cases f;exact .inr hb'.1
    .simpa [Va.push,Va.drop] using H
    .intro i r u B C;rcases Nat.lt_or_ge i c.length with U | O
     .rw[br U] at B;rw[br (by omega)] at C;exact g3 i r u B C
     .rw[bn O] at B;rw[bn (by omega),g2] at C;exact k2 _ r u B C
    .intro u A;rcases bz.1 A with A | A
     .exact g4 u A
     .exact k3 u A
    .intro u A;rcases bz.1 A with A | A
     .exact g5 u A
     .exact k4 u A
   .exact l.elim
  .exact l.elim
 | _=>exact l.elim
include hH ha hd in
theorem Yr {x:Operand}{e sz:Nat}{g:G}(hKV:∀t own' I' V' a' w',K t own' V'.n->Later own I V w own' I' V' w'->Z8a V w w' g->V.kp V'->ARep N I' V' a' t->next a' w'){new:List (List G)}{rs:List (List Value)}(k1:rs.length=new.length)(k2:∀(i:Nat) r u,new[i]?=some r->rs[i]?=some u->PW (VRep I) r u)(k3:∀u∈rs,u.length=sz)(k4:∀u∈rs,∀x∈u,x.oneCell'=true)(h5:0 < sz)
  (hap:∀(v:Value) (j:List (List G)) (C:List (List Value)),a.eval x=v->w.ownsRow 0 e sz v j.length C.flatten->j.length+new.length<=1073741824->∃z w',(execOp a.eval o).run P w=.ok (.value z) w'/\w'.ownsRow 0 e sz z (j.length+new.length) (C.flatten++rs.flatten)/\w.grownBy w' v.ownBlock/\(z.ownBlock=v.ownBlock\/∃g,z.ownBlock=some g/\w.heap.size<=g/\g < w'.heap.size))
  (Z:∀(v:Value) (n:Nat) (xs:List Value),a.eval x=v->Eb w e sz v n xs->n+new.length<=1073741824->∃z w',(execOp a.eval o).run P w=.ok (.value z) w'/\Eb w' e sz z (n+new.length) (xs++rs.flatten)/\w.grownBy w' v.ownBlock/\(z.ownBlock=v.ownBlock\/∃g,z.ownBlock=some g/\w.heap.size<=g/\g < w'.heap.size))
  (hg:TRep I V g (a.eval x)) (A:Z9a t own V.n o.dst g new e sz K):o.wp P a w next Q:=by
 have lt:∀{w':World} {z:Value} {n:Nat} {xs:List Value},Eb w' e sz z n xs->∀b,z.ownBlock=some b->b < w'.heap.size:=λ{w' z n xs} r b p=>by
  rcases r.2 with⟨rfl,-⟩ | ⟨g',q',cap',cur',rfl,hg',-⟩
  .cases p
  .cases p;exact(bx.1 hg').1
 unfold Z9a at A;split at A
 .next k =>
  obtain⟨hkn,hx⟩:=(show k < V.n/\a.eval x=V.s k from hg);split at A
  .next j e' sz' J =>
   split at A
   .next E B =>
    have E:=aw E;have B:=aw B;subst E B;obtain⟨F,A⟩:=A;obtain⟨L,C,ho0,g2,g3,Y,g5,g6⟩:=hH.each k _ J;obtain⟨z,w',hr,r1,H,r3⟩:=Z _ j.length C.flatten hx ho0 F;refine Zbm (g0:=.osl k) (g:=.osl V.n) hKV ha hd hr (Ii (r:=.vw (j++new) e sz) hH J H.os H.tape H.output H.size (λb p M=>H.block b p (λe=>M ((L b).2 e.symm))) z (λb=>z.ownBlock=some b) (λb p=>⟨?_,lt r1 b p⟩) (Z5p r1 g2 g3 Y g5 k1 k2 k3 k4 h5)) (λb p M=>H.block b p (λe=>M ((L b).2 e.symm))) ((Va.kp.drop V k).trans (au _) (.push (V.drop k) 0 z _)) (TRep.of_c (g:=.osl V.n) ⟨da _,by simp[Va.push,Va.drop]⟩) A;rcases r3 with h | ⟨D,h,hb'⟩
    .exact .inl ((L b).2 (by rw[<-h];exact p))
    .rw[h] at p;cases p;exact .inr hb'.1
   .exact A.elim
  .exact Ks (hH:=hH) (hKV:=hKV) (ha:=ha) (hd:=hd) k1 k2 k3 k4 h5 hap hg A
 .next k s l c =>
  obtain⟨hkn,b,q,⟨n0,c0,hs⟩,hx⟩:=(show TRep1 I V (.orv k 0 (s+1) 0 l c) (a.eval x) from hg);split at A
  .next j e' sz2 J =>
   split at A
   .next E B O U hb5 =>
    have E:=aw E;have B:=aw B;have O:=aw O;have U:=aw U;have hb5:=dm hb5;subst E O U;obtain⟨F,A⟩:=A;have L:=(hH.each k _ J).1;obtain⟨C,cur,hcur,g2,g3,Y,g5,M,hnc,hcm,hcs,ht,-⟩:=Z90 hH J hs;have hx:a.eval x=.slice (some ⟨b,q,none⟩) l l:=by rw[hx];simp
    have hv:Eb w e sz (.slice (some ⟨b,q,none⟩) l l) (j.take l).length (C.take l).flatten:=by
     have W:(j.take l).length=l:=by rw[be];omega
     refine⟨by rw[Bk λu X=>Y u (bm X),be,W];congr 1;omega,.inr ⟨b,q,l,cur,by rw[W],hcur,by rw[W];exact au _,by omega,?_,?_⟩⟩
     .have:l * sz<=c0 * sz:=Nat.mul_le_mul_right _ (by omega);omega
     .rw[W,<-Wd Y,<-ht,List.take_take,cp (Nat.mul_le_mul_right _ (by omega))]
    have W:(j.take l).length=l:=by rw[be];omega
    obtain⟨z,w',hr,r1,H,r3⟩:=Z _ (j.take l).length (C.take l).flatten hx hv (by rw[W];exact F);have hob:(Value.slice (some ⟨b,q,none⟩) l l).ownBlock=some b:=rfl;have T:∀D,V.f k D↔b=D:=λD=>by rw[L D,hs];show some b=some D↔_;simp
    rw[hob] at H r3;refine Zbm (g0:=.orv k 0 (s+1) 0 l l) (g:=.osl V.n) hKV ha hd hr (Ii (r:=.vw (j.take l++new) e sz) hH J H.os H.tape H.output H.size (λD p M=>H.block D p (λe=>M ((T D).2 (ct e.symm)))) z (λb=>z.ownBlock=some b) (λD p=>⟨?_,lt r1 D p⟩) (Z5p r1 (by rw[be,be,g2]) (λi r u h1 h2=>?_) (λu X=>Y u (bm X)) (λu X=>g5 u (bm X)) k1 k2 k3 k4 h5)) (λD p M=>H.block D p (λe=>M ((T D).2 (ct e.symm)))) ((Va.kp.drop V k).trans (au _) (.push (V.drop k) 0 z _)) (TRep.of_c (g:=.osl V.n) ⟨da _,by simp[Va.push,Va.drop]⟩) A
    .rcases r3 with h | ⟨b2,h,B⟩
     .exact .inl ((T D).2 (by rw[h] at p;exact ct p))
     .rw[h] at p;cases p;exact .inr B.1
    .rw[bp] at h1 h2;split at h1
     .next hlt=>rw[dp hlt] at h2;exact g3 i r u h1 h2
     .cases h1
   .exact A.elim
  .exact A.elim
 .exact Ks (hH:=hH) (hKV:=hKV) (ha:=ha) (hd:=hd) k1 k2 k3 k4 h5 hap hg A
include hT hH ha hd in
theorem N4 {g:G}(hKV:∀t own' I' V' a' w',K t own' V'.n->Later own I V w own' I' V' w'->Z8a V w w' g->V.kp V'->ARep N I' V' a' t->next a' w'){x z:Operand}{ty e sz:Nat}{ag:Bool}{ze:List G}{fl:List (TypeId × Nat)}{st:Bool}{ik:Option IntKind}{kd:KD}(hl:look ty tb=some ⟨ag,ze,some (e,sz),fl,st,ik,kd⟩)(ho:o.op=.call {callee:=.builtin .append,args:=#[x,z],argTypes:=#[ty,ty]})(hg:TRep I V g (a.eval x))(s:ev t own z λq=>Z1e own q sz λnew=>Z9a t own V.n o.dst g new e sz K):o.wp P a w next Q:=by
 obtain⟨q,B,hq⟩:=B1 s ha hH;obtain⟨new,A,c,rs,hk,he,Z,X,k2,k3,k4,k5⟩:=Tm B hq hH;clear s B;obtain⟨p,E,zv,h1,U,Y,W,M,h6⟩:=(hT _ _ hl).elem e sz rfl;have D:rs.flatten.length=new.length * sz:=by rw[Bk k3,X]
 have C:∀u∈rs.flatten,u.oneCell'=true:=λu p=>by obtain⟨v,hv,p⟩:=List.mem_flatten.1 p;exact k4 v hv u p
 have O:∀(v:Value) (b:List (List G)) (j:List (List Value)),a.eval x=v->w.ownsRow 0 e sz v b.length j.flatten->b.length+new.length<=1073741824->∃h w',(execOp a.eval o).run P w=.ok (.value h) w'/\w'.ownsRow 0 e sz h (b.length+new.length) (j.flatten++rs.flatten)/\w.grownBy w' v.ownBlock/\(h.ownBlock=v.ownBlock\/∃g,h.ownBlock=some g/\w.heap.size<=g/\g < w'.heap.size):=λv b j H l f=>by
  obtain⟨h,w',hr,J,T,L⟩:=Ya (P:=P) (w:=w) ty o.type e E zv sz E.bytes p h1 U Y rfl W M v b.length j.flatten l A new.length c rs.flatten D (λe=>Z e) k5 C (by unfold maxLen;omega) (by have:=Nat.mul_le_mul f h6;omega)
  exact⟨h,w',by simp only[execOp,ho,resolve,invoke,builtin,Sem.run_bind,Sem.run_pure,Result.andThen_ok,List.map_toArray,List.map_cons,List.map_nil,H,he,hr],J,T,L⟩
 have F:∀(v:Value) (n:Nat) (xs:List Value),a.eval x=v->Eb w e sz v n xs->n+new.length<=1073741824->∃h w',(execOp a.eval o).run P w=.ok (.value h) w'/\Eb w' e sz h (n+new.length) (xs++rs.flatten)/\w.grownBy w' v.ownBlock/\(h.ownBlock=v.ownBlock\/∃g,h.ownBlock=some g/\w.heap.size<=g/\g < w'.heap.size):=λv n xs H l f=>by
  obtain⟨h,w',hr,J,T,L⟩:=Qa (P:=P) (w:=w) ty o.type e E zv sz E.bytes p h1 U Y rfl W M v n xs l A new.length c rs.flatten D (λe=>Z e) k5 C (by unfold maxLen;omega) (by have:=Nat.mul_le_mul f h6;omega)
  exact⟨h,w',by simp only[execOp,ho,resolve,invoke,builtin,Sem.run_bind,Sem.run_pure,Result.andThen_ok,List.map_toArray,List.map_cons,List.map_nil,H,he,hr],J,T,L⟩
 exact Yr (hH:=hH) (hKV:=hKV) (ha:=ha) (hd:=hd) X k2 k3 k4 M O F hg hk
include hT hH ha hd in
theorem Hd {g:G}(hKV:∀t own' I' V' W w',K t own' V'.n->Later own I V w own' I' V' w'->Z8a V w w' g->V.kp V'->ARep N I' V' W t->next W w'){x z:Operand}{ty p e:Nat}{U T:TI}(Z:look ty tb=some U)(D:U.elem=some (e,1))(H:look p tb=some T)(J:T.str=true)(ho:o.op=.call {callee:=.builtin .append,args:=#[x,z],argTypes:=#[ty,p]})(hg:TRep I V g (a.eval x))(B:ev t own z λq=>Zav q λs=>Z6h t own V.n o.dst g (s.data.toList.map gBy) e 1 K):o.wp P a w next Q:=by
 obtain⟨q,j,X⟩:=B1 B ha hH;unfold Zav at j;split at j
 .next s =>
  have he:=Av X;obtain⟨h,ie,zv,h1,Y,h3,h4,h5,h6⟩:=(hT _ _ Z).elem e 1 D;have C:=(hT _ _ H).str J;have O:(s.data.toList.map λb=>[Value.int .u8 b.toNat]).flatten=byteCells s:=by
   unfold byteCells
   induction s.data.toList with
   | nil=>rfl
   | cons c l ih=>rw[cu,cj,ih];rfl
  have M:(s.data.toList.map gBy).length=s.size:=by rw[ao,co];rfl
  refine Ks (hH:=hH) (hKV:=hKV) (ha:=ha) (hd:=hd) (rs:=s.data.toList.map λb=>[Value.int .u8 b.toNat]) (by simp) (λi r u hr h=>?_) (λu h=>?_) (λu h x F=>?_) Nat.one_pos (λv A E F L f=>?_) hg j
  .rw[ax] at hr h;obtain⟨c,h7,rfl⟩:=bg.1 hr;rw[h7] at h;cases h;exact .cons (.v _) .nil
  .obtain⟨c,-,rfl⟩:=bi.1 h;rfl
  .obtain⟨c,-,rfl⟩:=bi.1 h;rw[bw.1 F];rfl
  .rw[M] at f⊢;obtain⟨v',w',hr,r1,r2,r3⟩:=S2 (P:=P) (w:=w) ty p o.type e ie zv h C h1 Y h3 h4 v A.length E.flatten L s (by unfold maxLen;omega) (by
    have:=Nat.mul_le_mul f h6;omega)
   rw[O];exact⟨v',w',by simp only[execOp,ho,resolve,invoke,builtin,Sem.run_bind,Sem.run_pure,Result.andThen_ok,List.map_toArray,List.map_cons,List.map_nil,F,he,hr],r1,r2,r3⟩
 .exact j.elim
include hT hK hL ha hd in
theorem Yz {x z:Operand}{ty e sz:Nat}{j:Bool}{A:List G}{B:List (TypeId × Nat)}{p:Bool}{ik:Option IntKind}{kd:KD}(c:look ty tb=some ⟨j,A,some (e,sz),B,p,ik,kd⟩)(l:o.op=.call {callee:=.builtin .append,args:=#[x,z],argTypes:=#[ty,ty]})(h:ev t own x λg=>ev t own z λq=>Z1e own q sz λnew=>Z9a t own V.n o.dst g new e sz K):o.wp P a w next Q:=by obtain⟨g,b,C⟩:=B1 h ha hL.has;exact N4 (g:=g) (hT:=hT) (hH:=hL.has) (ha:=ha) (hd:=hd) (λt own' I' V' D w' s c _ _ f=>hK _ _ _ _ _ _ s (hL.trans c) f) c l C b
include hT hK hL ha hd in
theorem Pa {x z:Operand}{ty b e:Nat}{C B:TI}(j:look ty tb=some C)(f:C.elem=some (e,1))(p:look b tb=some B)(A:B.str=true)(D:o.op=.call {callee:=.builtin .append,args:=#[x,z],argTypes:=#[ty,b]})(h:ev t own x λg=>ev t own z λq=>Zav q λs=>Z6h t own V.n o.dst g (s.data.toList.map gBy) e 1 K):o.wp P a w next Q:=by obtain⟨g,c,F⟩:=B1 h ha hL.has;exact Hd (g:=g) (hT:=hT) (hH:=hL.has) (ha:=ha) (hd:=hd) (λt own' I' V' H w' E j _ _ l=>hK _ _ _ _ _ _ E (hL.trans j) l) j f p A D F c
end
section
variable {P:Program} {tb:List (Nat × TI)} {N n:Nat} {I I' I0:Imm} {V V' V0:Va} {a:Act} {t:Ts} {own own' own0:Os} {w w' w0:World} {g:G} {x y:Value} {d:Option Tmp}
variable {XL:List Nat} {S:World->Prop} {K:Ts->Os->Nat->Prop} {next:Act->World->Prop} {Q:Exit->Act->World->Prop} {o:Oper} {r:R}
theorem Fc {z:Option Operand}{d:Int}{K1:Int->Prop}(h:evO t own z d K1)(ha:ARep N I V a t)(hH:Has I V own w):∃n,K1 n/\(∀u,z=some u->a.eval u=.int .i64 n)/\(z=none->n=d):=by
 cases z with
 | none=>exact⟨d,h,λu e=>(by cases e),λ_=>rfl⟩
 | some u =>
  unfold evO at h;dsimp only at h;obtain⟨q,b,c⟩:=B1 h ha hH;clear h;split at b
  .next m=>exact⟨m,b,λu e=>(by cases e;exact Av c),λe=>(by cases e)⟩
  .exact b.elim
theorem Gt {sl:Bool}{len cap:Nat}{lo b:Option Value}{l h:Int}(c:(∀u,lo=some u->u=.int .i64 l)/\(lo=none->l=0))(p:(∀u,b=some u->u=.int .i64 h)/\(b=none->h=len))(q:0<=l)(j:l<=h)(B:h<=len)(A:len<=cap)(w:World) :
  (Instr.sliceBounds sl len cap lo b none).run P w=.ok (l.toNat,h.toNat,cap) w:=by
 unfold Instr.sliceBounds;cases b with
 | none =>
  have e:=p.2 rfl;subst e;cases lo with
  | none =>
   have e:=c.2 rfl;subst e;simp
  | some u =>
   have e:=c.1 u rfl;subst e;have:l<=(len:Int):=j;simp[Instr.sliceBound,asIntOf,q,this]
 | some v =>
  have e:=p.1 v rfl;subst e;have f:0<=h:=by omega
  have s:h<=(cap:Int):=by omega
  cases lo with
  | none =>
   have e:=c.2 rfl;subst e;simp[Instr.sliceBound,asIntOf,f,s]
  | some u =>
   have e:=c.1 u rfl;subst e;have z:(h.toNat:Int)=h:=Int.toNat_of_nonneg f;simp[Instr.sliceBound,asIntOf,f,s,z,q,j]
theorem G9 {z:Option Operand}{m:Int}{d:Int}(b:∀u,z=some u->a.eval u=.int .i64 m)(c:z=none->m=d):(∀u,z.map a.eval=some u->u=.int .i64 m)/\(z.map a.eval=none->m=d):=by
 cases z with
 | none=>exact⟨λu e=>(by cases e),λ_=>c rfl⟩
 | some v=>exact⟨λu e=>(by cases e;exact b v rfl),λe=>by cases e⟩
theorem Fw (hH:Has I V own w){k e sz:Nat}{f:List (List G)}(j:look k own=some (.slc f e sz)):∃A c,V.s k=.slice A f.length c/\f.length<=c:=by
 obtain⟨-,rs,⟨-,l⟩,-⟩:=hH.each k _ j;rcases l with⟨h,h8⟩ | ⟨b,cap,cur,h,-,-,h9,-⟩
 .exact⟨none,0,by rw[h,h8],by omega⟩
 .exact⟨_,cap,h,h9⟩
theorem Z1w (hH:Has I V own w){k e sz:Nat}{f:List (List G)}(j:look k own=some (.vw f e sz)):∃A c,V.s k=.slice A f.length c/\f.length<=c:=by
 obtain⟨-,rs,⟨-,l⟩,-⟩:=hH.each k _ j;rcases l with⟨h,h8⟩ | ⟨b,q,cap,cur,h,-,h9,-⟩
 .exact⟨none,0,by rw[h,h8],by omega⟩
 .exact⟨_,cap,h,h9⟩
theorem Z78 (hT:∀t i,look t tb=some i->TIok P t i)(hH:Has I V own w)(ha:ARep N I V a t){ty:TypeId}{z:Operand}{lo T:Option Operand}(ho:o.op=.slice ty z lo T none)(W:(match look ty tb with
      | some ⟨_,_,none,_,false,_,.arr _ _ _⟩=>false
      | _=>true)=true) (h:match look ty tb with
      | some ⟨_,_,none,_,true,_,_⟩=>ev t own z λg=>match g with
       | .v (.string s)=>evO t own lo 0 λl=>evO t own T s.size λh=>Z0p l h s.size (K (put o.dst (.v (.string (s.extract l.toNat h.toNat))) t) own V.n)
       | _=>False
      | some ⟨_,_,some (_,sz),_,_,_,_⟩=>ev t own z λg=>slK own g sz (λK d=>evO t own lo d K) (λK d=>evO t own T d K) λg=>K (put o.dst g t) own V.n
      | some ⟨_,_,none,_,false,_,.arr m _ 1⟩=>ev t own z λg=>Z4l t own V.n ty m lo T g λg w n=>K (put o.dst g t) w n
      | some ⟨_,_,none,_,false,_,.arr m _ _⟩=>ev t own z λg=>Z4q t own m lo T g λg=>K (put o.dst g t) own V.n
      | _=>False):QOk S P I V own w a t o K:=by
 split at h
 .next M =>
  have Z:=(hT _ _ M).str rfl;obtain⟨g,h,U⟩:=B1 h ha hH;split at h
  .next s =>
   have e:=Av U;obtain⟨l,h,p,H⟩:=Fc h ha hH;obtain⟨q,h,D,E⟩:=Fc h ha hH;obtain⟨⟨B,J,F⟩,h⟩:=h;refine⟨_,_,h,.of_v (.v _),λu _=>?_⟩;have j:=Gt (P:=P) (sl:=false) (len:=s.size) (cap:=s.size) (G9 p H) (G9 D E) B J F (au _) u;simp only[execOp,ho,Instr.sliceAt,Instr.slice,Sem.run_bind,run_underlying Z,Result.andThen_ok,e,Sem.run_pure,Option.map_none,Option.isSome_none,Bool.false_eq_true,if_false,j]
  .exact h.elim
 .next e sz fl st ik kd M =>
  obtain⟨hu,ie,zv,h1,h2,h3,h4,h5,h6⟩:=(hT _ _ M).elem _ _ rfl;have hsz:∀w,(sizeOf e).run P w=.ok sz w:=Bm (by rw[h1];simp[h3]);obtain⟨g,h,U⟩:=B1 h ha hH;have run:∀{A:Option Addr} {len c:Nat} {l q:Int},a.eval z=.slice A len c->len<=c->(∀u,lo=some u->a.eval u=.int .i64 l)->(lo=none->l=0)->(∀u,T=some u->a.eval u=.int .i64 q)->(T=none->q=len)->0<=l->l<=q->q<=len->∀u,(execOp a.eval o).run P u=.ok (.value (K0 sz (.slice A len c) l.toNat q.toNat)) u:=λL C p H D E B J F u=>by have j:=Gt (P:=P) (sl:=true) (G9 p H) (G9 D E) B J F C u;simp only[execOp,ho,Instr.sliceAt,Instr.slice,Sem.run_bind,run_underlying hu,Result.andThen_ok,L,Sem.run_pure,Option.map_none,j,hsz,K0]
  cases g with
  | sl b =>
   unfold slK at h;dsimp only at h;obtain⟨l,h,p,H⟩:=Fc h ha hH;obtain⟨q,h,D,E⟩:=Fc h ha hH;obtain⟨⟨B,J,F⟩,hr,h⟩:=h;have f:=(show VRep I (.sl b) (a.eval z) from U);obtain⟨A,c,L,C⟩:∃A c,a.eval z=.slice A b.length c/\b.length<=c:=by
    generalize a.eval z=X at f;cases f with
    | sl _ A c sz u C=>exact⟨A,c,rfl,C⟩
   rw[L] at f;exact⟨_,_,h,.of_v (Ux f hr (by omega) (by omega)),λu _=>run L C p H D E B J F u⟩
  | osl k =>
   unfold slK at h;dsimp only at h;split at h
   .next b e' sz' Y =>
    split at h
    .next j =>
     have j:=aw j;subst j;obtain⟨l,h,p,H⟩:=Fc h ha hH;obtain⟨q,h,D,E⟩:=Fc h ha hH;obtain⟨⟨B,J,F⟩,h⟩:=h;obtain⟨O,L⟩:=(show k < V.n/\a.eval z=V.s k from U);obtain⟨A,c,f,C⟩:=Fw hH Y;exact⟨_,_,h,.of_c (g:=.osv k sz l.toNat q.toNat) ⟨O,⟨by omega,by rw[f];show q.toNat<=b.length;omega⟩,rfl⟩,λu _=>by rw[f];exact run (L.trans f) C p H D E B J F u⟩
    .exact h.elim
   .next b e' sz' Y =>
    split at h
    .next j =>
     have j:=aw j;subst j;obtain⟨l,h,p,H⟩:=Fc h ha hH;obtain⟨q,h,D,E⟩:=Fc h ha hH;obtain⟨⟨B,J,F⟩,h⟩:=h;obtain⟨O,L⟩:=(show k < V.n/\a.eval z=V.s k from U);obtain⟨A,c,f,C⟩:=Z1w hH Y;exact⟨_,_,h,.of_c (g:=.osv k sz l.toNat q.toNat) ⟨O,⟨by omega,by rw[f];show q.toNat<=b.length;omega⟩,rfl⟩,λu _=>by rw[f];exact run (L.trans f) C p H D E B J F u⟩
    .exact h.elim
   .exact h.elim
  | _=>exact False.elim h
 .next M=>rw[M] at W;cases W
 .next M=>rw[M] at W;cases W
 .exact h.elim
theorem Z1r {len cap:Nat}{h:Int}(b:0<=h)(f:h<=len)(j:len<=cap)(w:World):(Instr.sliceBounds true len cap none (some (.int .i64 h)) (some (.int .i64 h))).run P w=.ok (0,h.toNat,h.toNat) w:=by
 unfold Instr.sliceBounds;have e:0<=h/\h<=(cap:Int):=⟨b,by omega⟩;have c:¬max h 0 < h:=by omega
 simp[Instr.sliceBound,asIntOf,e,c]
theorem Z3y (hT:∀t i,look t tb=some i->TIok P t i)(hH:Has I V own w)(ha:ARep N I V a t){ty:TypeId}{z B D:Operand}(W:o.op=.slice ty z none (some B) (some D))(h:match(none:Option Operand),some B,look ty tb with
      | none,some h,some ⟨_,_,some (_,sz),_,_,_,_⟩=>ev t own z λg=>ev t own h λp=>ev t own D λq=>match p,q with
       | .v (.int .i64 a),.v (.int .i64 b)=>Eh (a=b) (Z64 own g sz a λg=>K (put o.dst g t) own V.n)
       | _,_=>False
      | _,_,_=>False):QOk S P I V own w a t o K:=by
 split at h
 .next T _ _ e sz _ _ _ _ _ j F =>
  obtain rfl:=ct j;obtain⟨L,ie,zv,Z,h2,h3,h4,h5,h6⟩:=(hT _ _ F).elem _ _ rfl;have l:∀w,(sizeOf e).run P w=.ok sz w:=Bm (by rw[Z];simp[h3]);obtain⟨g,h,hg⟩:=B1 h ha hH;obtain⟨p,h,E⟩:=B1 h ha hH;obtain⟨q,h,H⟩:=B1 h ha hH;split at h
  .next x1 M =>
   have ep:=Av E;have eq:=Av H;obtain⟨j,h⟩:=h;subst j;cases g with
   | osl k =>
    unfold Z64 at h;dsimp only at h;split at h
    .next C e' sz' O =>
     split at h
     .next c =>
      have c:=aw c;subst c;obtain⟨⟨r1,r2,Y⟩,⟨A,h⟩⟩:=h;obtain⟨f,X⟩:=(show k < V.n/\a.eval z=V.s k from hg);obtain⟨-,rs,⟨-,J⟩,-,-,-,-,U⟩:=hH.each k _ O;rcases J with⟨-,h8⟩ | ⟨b,q0,cap,cur,h8,-,h9,-⟩
      .exact dq (ay h8) A
      .refine⟨_,_,h,.of_1 (g:=.orv k 0 sz 0 _ _) ⟨f,b,q0,(by cases sz with | zero=>omega | succ sz=>exact⟨_,cap,h8⟩),rfl⟩,λu _=>?_⟩;have c:=Z1r (P:=P) r2 Y h9 u;simp only[execOp,W,Instr.sliceAt,Instr.slice,Sem.run_bind,run_underlying L,Result.andThen_ok,X,h8,Sem.run_pure,Option.map_some,Option.map_none,ep,eq,c,l];split
       .simp
       .simp[Co]
     .exact h.elim
    .exact h.elim
   | _=>exact False.elim h
  .exact h.elim
 .exact h.elim
theorem O2:∀{cs:List G} {b:List Value},Bp N6 cs=true->PW (CRep I V) cs b->cs=b.map .v/\∀u∈b,u.oneCell'=true
 | [],b,_,h=>by rw[h.of_nil];exact⟨rfl,λu f=>by cases f⟩
 | g::cs,b,hv,h=>by
  obtain⟨x,s,rfl,p,j⟩:=h.uncons;have c:=Ai hv g (by simp);have l:Bp N6 cs=true:=by unfold Bp at hv;rw[c] at hv;exact hv
  obtain⟨q,A⟩:=O2 l j;cases g with
  | v z =>
   cases(show VRep I (.v z) x from p);exact⟨by rw[q];rfl,λu f=>(bo.1 f).elim (λe=>by rw[e];exact c) (A u)⟩
  | _=>cases c
theorem Pt {α:Type}(l:List α):(l.map λu=>[u]).flatten=l:=by
 induction l with
 | nil=>rfl
 | cons x l ih=>rw[cu,cj,ih];rfl
theorem Z0u {α:Type}{cs:List α}{k n j:Nat}{v:α}(h:((cs.drop k).take n)[j]?=some v):cs[k+j]?=some v:=by
 rw[bp] at h;split at h
 .rwa [cd] at h
 .cases h
theorem Z67 {m:Nat}{cs:List G}{A:Prop}(h:Zdb m cs A):cs.length=m/\Bp N6 cs=true/\A:=by
 unfold Zdb at h;split at h
 .split at h
  .next b c=>exact⟨aw b,c,h⟩
  .exact h.elim
 .exact⟨h.fit.1,Fj h.fit.2,h.next⟩
theorem Z22 (hT:∀t i,look t tb=some i->TIok P t i)(hH:Has I V own w)(ha:ARep N I V a t)(hd:∀i,o.dst=some i->i < N)(hK:NxtB N own I V w K next){ty m e:TypeId}{z:Operand}{lo W:Option Operand}{ag:Bool}{ze:List G}{fl:List (TypeId × Nat)}{ik:Option IntKind}(hl:look ty tb=some ⟨ag,ze,none,fl,false,ik,.arr m e 1⟩)(ho:o.op=.slice ty z lo W none)
  (h:ev t own z λg=>Z4l t own V.n ty m lo W g λg w n=>K (put o.dst g t) w n):o.wp P a w next Q:=by
 obtain⟨L,hsz⟩:=(hT _ _ hl).kd;have hsz:∀w,(sizeOf e).run P w=.ok 1 w:=Bm hsz;obtain⟨g,h,hg⟩:=B1 h ha hH;have run:∀{b off:Nat} {l q:Int},a.eval z=.pointer (some ⟨b,off,none⟩)->(∀u,lo=some u->a.eval u=.int .i64 l)->(lo=none->l=0)->(∀u,W=some u->a.eval u=.int .i64 q)->(W=none->q=m)->0<=l->l<=q->q<=m->∀u,(execOp a.eval o).run P u=.ok (.value (K0 1 (.slice (some ⟨b,off,none⟩) m m) l.toNat q.toNat)) u:=λ{b off l q} D l1 l2 q1 X r1 Z r3 u=>by
  have B:=Gt (P:=P) (sl:=false) (len:=m) (cap:=m) (G9 l1 l2) (G9 q1 X) r1 Z r3 (au _) u;simp only[execOp,ho,Instr.sliceAt,Instr.sureAddr,Sem.run_bind,run_underlying L,Result.andThen_ok,D,Sem.run_pure,Option.map_none,B,hsz,K0]
  congr 3
  by_cases p:m=l.toNat
  .rw[dp p,dp p]
  .rw[dn p,dn p];rfl
 have arv:∀{j:Nat} {K1:G->Prop} {b:Nat} {V2:Va},Zc5 t own m lo W j K1->a.eval z=.pointer (some ⟨b,0,none⟩)->j < V2.n->V2.s j=.slice (some ⟨b,0,none⟩) m m->∃g v,K1 g/\CRep I V2 g v/\(execOp a.eval o).run P w=.ok (.value v) w:=λ{j K1 b V2} H D hj hs=>by
  unfold Zc5 at H;split at H
  .have hr:=run (l:=0) (q:=m) D (λu e=>by cases e) (λ_=>rfl) (λu e=>by cases e) (λ_=>rfl) (by omega) (by omega) (by omega) w;refine⟨_,V2.s j,H,⟨hj,rfl⟩,hr.trans ?_⟩;rw[hs]
   congr 2
   unfold K0;simp only[Int.toNat_natCast,Int.toNat_zero,Nat.zero_mul,Nat.sub_zero,Option.map_some];by_cases p:m=0
   .rw[dp p]
   .rw[dn p];rfl
  .obtain⟨l,H,l1,l2⟩:=Fc H ha hH;obtain⟨q,H,q1,X⟩:=Fc H ha hH;obtain⟨⟨r1,Z,r3⟩,H⟩:=H;exact⟨_,_,H,⟨hj,⟨by omega,by rw[hs];show q.toNat<=m;omega⟩,rfl⟩,by rw[hs];exact run D l1 l2 q1 X r1 Z r3 w⟩
 unfold Z4l at h;cases g with
 | ptr k off =>
  obtain⟨U,D⟩:=C6 hg;dsimp only at h;split at h
  .next cs T hr =>
   obtain⟨M,h1,h2,h3⟩:=Na hH hr;have hf:=(hH.each k _ hr).1;have frz:∀{off:Nat},(match(generalizing:=false) lo,W with
    | none,none=>Eh (off+m<=cs.length/\∀g∈cs,N6 g=true) (K (put o.dst (.sl (((cs.drop off).take m).map λg=>[g])) t) ((k,.gone)::own) V.n)
    | none,some x=>evO t own (some x) m λh=>Z0p 0 h m (K (put o.dst (.orv k 0 0 off h.toNat m) t) own V.n)
    | _,_=>False)->a.eval z=.pointer (some ⟨V.b k,off,none⟩)->o.wp P a w next Q:=λ{off} h D=>by
    split at h
    case h_2 =>
     obtain⟨q,h,q1,X⟩:=Fc h ha hH;obtain⟨⟨r1,Z,r3⟩,h⟩:=h;have hr:=run (l:=0) (q:=q) D (λu e=>by cases e) (λ_=>rfl) q1 X (by omega) Z r3 w;refine Rc (y:=.slice (some ⟨V.b k,0 * 0+off,none⟩) q.toNat m) hK ha hd (hr.trans ?_) (.refl hH) (ab _ _) (.refl _) (.of_1 (g:=.orv k 0 0 off q.toNat m) ⟨U,V.b k,0,⟨rfl,rfl⟩,by simp⟩) h
     congr 2
     unfold K0;simp only[Int.toNat_zero,Nat.zero_mul,Nat.sub_zero,Option.map_some,Nat.zero_add];by_cases p:m=0
     .rw[dp p]
     .rw[dn p];rfl
    case h_3=>exact h.elim
    obtain⟨⟨E,hv⟩,h⟩:=h;obtain⟨e1,h4⟩:=O2 (Fj hv) h2;have C:cs.length=M.length:=by rw[e1];simp
    have hno:=(hH.foot k _ (V.b k) hr ((hf _).2 rfl)).2;let I':Imm:=λb o=>if b=V.b k then M[o]? else I b o;have hle:I.le I':=λb o x F=>by show(if b=V.b k then _ else I b o)=_;rw[dn (λe=>by rw[e,hno o] at F;cases F)];exact F
    have hmem:Mem I' w:=λb o x F=>by
     change (if b=V.b k then _ else I b o)=_ at F
     split at F
     .next e=>rw[e,h3];exact F
     .exact hH.mem b o x F
    have J:Later own I V w ((k,.gone)::own) I' (V.drop k) w:=H7 hH hr hle hmem (λb o B=>by show(if b=V.b k then _ else I b o)=_;rw[dn (λe=>B ((hf b).2 e))]) (λb=>by simp[Va.drop])
    have hl2:(((cs.drop off).take m).map λg=>[g]).length=m:=by simp;omega
    have hvr:VRep I' (.sl (((cs.drop off).take m).map λg=>[g])) (.slice (some ⟨V.b k,off,none⟩) m m):=by
     conv=>rhs;rw[<-hl2]
     refine .sl _ (some ⟨V.b k,off,none⟩) _ 1 (λi _=>M.getD (off+i) undef) (au _) (λe=>by cases e) (λr hr=>?_) (λi r hr=>⟨V.b k,off,rfl,λj hj=>?_⟩) λi r j g hr hg=>?_
     .obtain⟨g,-,rfl⟩:=bi.1 hr;rfl
     .have W:i < m:=by have:=(aq.1 hr).1;omega
      have e0:off+i * 1+j=off+i:=by omega
      rw[e0];show(if V.b k=V.b k then M[off+i]? else _)=_;rw[dp rfl];have:off+i < M.length:=by omega
      simp[this]
     .rw[ax] at hr;obtain⟨g0,h5,rfl⟩:=bg.1 hr;have h5:=Z0u h5;rw[e1,ax] at h5;obtain⟨u,h6,rfl⟩:=bg.1 h5;cases j with
      | zero =>
       simp at hg;subst hg;simp only[List.getD,h6,Option.getD_some];exact .v u
      | succ j=>simp at hg
    refine Rc (y:=.slice (some ⟨V.b k,off,none⟩) m m) hK ha hd ?_ J (ab _ _) (.drop _ _) (.of_v hvr) h;have hr:=run (l:=0) (q:=m) D (λu e=>by cases e) (λ_=>rfl) (λu e=>by cases e) (λ_=>rfl) (by omega) (by omega) (by omega) w;refine hr.trans ?_
    congr 2
    unfold K0;simp only[Int.toNat_natCast,Int.toNat_zero,Nat.zero_mul,Nat.sub_zero,Option.map_some];by_cases p:m=0
    .rw[dp p]
    .rw[dn p];rfl
   cases off with
   | succ off=>exact frz (off:=off+1) h D
   | zero =>
    cases hb0:Nat.beq T ty with
    | false=>rw[hb0] at h;exact frz (off:=0) h D
    | true =>
    cases hm0:Nat.ble m 1048576 with
    | false=>rw[hb0,hm0] at h;exact frz (off:=0) h D
    | true =>
    rw[hb0,hm0] at h;have p:=hm0;have p:=dm p;obtain⟨B,hv,h⟩:=Z67 h;obtain⟨e1,h4⟩:=O2 hv h2;have C:M.length=m:=by rw[<-B,e1];simp
    have J:=Ii (w':=w) (r:=.slc (cs.map λg=>[g]) T 1) hH hr rfl rfl rfl (au _) (λ_ _ _=>rfl) (.slice (some ⟨V.b k,0,none⟩) m m) (·=V.b k) (λb e=>⟨.inl ((hf b).2 e),by rw[e];exact(bx.1 h1).1⟩) ⟨λb=>by simp[Va.push,Va.drop,Value.ownBlock,eq_comm],M.map λu=>[u],⟨by rw[Pt];simp[C,B],.inr ⟨V.b k,m,M.toArray,by simp[Va.push,Va.drop,B],av _,h1,by simp[B],by unfold maxLen;omega,by simp[C],by rw[Pt,ao,B,Nat.mul_one];exact ba (Nat.le_of_eq C)⟩⟩,by simp[C,B],λi r u hr L=>?_,λu L=>by obtain⟨x,-,rfl⟩:=bi.1 L;rfl,λu L x F=>by obtain⟨y,hy,rfl⟩:=bi.1 L;rw[bw.1 F];exact h4 y hy,Nat.one_pos⟩
    .have hk2:look k ((V.n,R.slc (cs.map λg=>[g]) T 1)::(k,.gone)::own)=some .gone:=by
      rw[Ac,dn (by omega),Ac,dp rfl]
     have O:k≠V.n:=by omega
     have hl2:=J.trans (D7 (w':=w) (r:=.lnk V.n) J.has hk2 rfl rfl rfl rfl (λ_ _=>rfl) ⟨λb=>by simp[Va.push,Va.drop,O],by show V.n < V.n+1;omega,m,by simp[Va.push,Va.drop,O]⟩);obtain⟨g',v,k1,k2,k3⟩:=arv (V2:=(V.drop k).push 0 (.slice (some ⟨V.b k,0,none⟩) m m) (·=V.b k)) h D (by show V.n < V.n+1;omega) (by simp[Va.push,Va.drop]);exact Rc (y:=v) hK ha hd k3 hl2 (ab _ _) (λj hj b B=>by
      have Y:j≠V.n:=by omega
      have B:(if j=V.n then(·=V.b k) else(if j=k then λ_=>False else V.f j)) b:=B;rw[dn Y] at B;split at B
      .exact B.elim
      .exact B) (.of_c k2) k1
    .rw[ax] at hr L;obtain⟨g0,h5,rfl⟩:=bg.1 hr;obtain⟨x,h6,rfl⟩:=bg.1 L;rw[e1,ax,h6] at h5;cases h5;exact .cons (.v x) .nil
  .next j hr =>
   obtain⟨-,Y,mm,hsj⟩:=hH.each k _ hr;split at h
   .next rows e' hrj =>
    obtain⟨E,h⟩:=h;obtain⟨A,c,hv,-⟩:=Fw hH hrj;rw[hsj] at hv;injection hv with e1 e2 e3;obtain⟨g',v,k1,k2,k3⟩:=arv (V2:=V) h D Y (by rw[hsj,e2,E]);exact Rc (y:=v) hK ha hd k3 (.refl hH) (ab _ _) (.refl _) (.of_c k2) k1
   .exact h.elim
  .exact h.elim
 | oel k i sz off =>
  obtain⟨U,b,q0,n,c,hs,D⟩:=Km hg;dsimp only at h;split at h
  .next rows e' sz' hr hlo =>
   obtain rfl:=Z2n hH hr hs;rw[cn] at D;split at h
   .next B =>
    obtain⟨q,h,q1,X⟩:=Fc h ha hH;obtain⟨⟨r1,Z,r3⟩,⟨⟨E,hsz0⟩,h⟩⟩:=h;have hr:=run (l:=0) (q:=q) D (λu e=>by cases e) (λ_=>rfl) q1 X (by omega) Z r3 w;refine Rc (y:=.slice (some ⟨b,i * sz+off,none⟩) q.toNat m) hK ha hd (hr.trans ?_) (.refl hH) (ab _ _) (.refl _) (.of_1 (g:=.orv k i sz off q.toNat m) ⟨U,b,0,by cases sz with | zero=>omega | succ sz=>exact⟨n,c,hs⟩,by simp⟩) h
    congr 2
    unfold K0;simp only[Int.toNat_zero,Nat.zero_mul,Nat.sub_zero,Option.map_some];by_cases p:m=0
    .rw[dp p]
    .rw[dn p];rfl
   .exact h.elim
  .exact h.elim
 | _=>exact h.elim
theorem Z47 (hT:∀t i,look t tb=some i->TIok P t i)(hH:Has I V own w)(ha:ARep N I V a t)(hd:∀i,o.dst=some i->i < N)(hK:NxtB N own I V w K next){ty m e sz:TypeId}{z:Operand}{lo j:Option Operand}{T:Bool}{J:List G}{L:List (TypeId × Nat)}{ik:Option IntKind}(s:look ty tb=some ⟨T,J,none,L,false,ik,.arr m e sz⟩)(E:o.op=.slice ty z lo j none)
  (h:ev t own z λg=>Z4q t own m lo j g λg=>K (put o.dst g t) own V.n):o.wp P a w next Q:=by
 obtain⟨A,c⟩:=(hT _ _ s).kd;have c:∀w,(sizeOf e).run P w=.ok sz w:=Bm c;obtain⟨g,h,M⟩:=B1 h ha hH;unfold Z4q at h;cases g with
 | ptr k off =>
  cases lo with
  | some y=>exact h.elim
  | none =>
   cases j with
   | none=>exact h.elim
   | some x =>
    obtain⟨f,F⟩:=C6 M;dsimp only at h;split at h
    .next cs B hr =>
     obtain⟨q,h,C,D⟩:=Fc h ha hH;obtain⟨⟨U,O,H⟩,h⟩:=h;refine Rc (y:=.slice (some ⟨V.b k,0 * 0+off,none⟩) q.toNat m) hK ha hd ?_ (.refl hH) (ab _ _) (.refl _) (.of_1 (g:=.orv k 0 0 off q.toNat m) ⟨f,V.b k,0,⟨rfl,rfl⟩,by simp⟩) h;have p:=Gt (P:=P) (sl:=false) (len:=m) (cap:=m) (G9 (a:=a) (z:=none) (m:=0) (d:=0) (λu e=>by cases e) (λ_=>rfl)) (G9 C D) (by omega) O H (au _) w;rw[Option.map_none] at p;simp only[execOp,E,Instr.sliceAt,Instr.sureAddr,Sem.run_bind,run_underlying A,Result.andThen_ok,F,Sem.run_pure,Option.map_none,c,p]
     congr 3
     by_cases l:m=0
     .simp[l]
     .simp[l,Addr.add]
    .exact h.elim
 | _=>exact h.elim
theorem TIok.u8 (hT:∀t i,look t tb=some i->TIok P t i){e:TypeId}(h:Z9i tb e=true):P.underlying e=some (.int .u8):=by
 unfold Z9i at h;split at h
 .next b=>exact(hT _ _ b).ik _ rfl
 .cases h
theorem Z3r {h:List UInt8}{b:List (List G)}{A:Option Addr}{c:Nat}(M:b=h.map gBy)(hr:∃rs:List (List Value),rs.length=b.length/\(∀(i:Nat) r u,b[i]?=some r->rs[i]?=some u->PW (VRep I) r u)/\(∀u∈rs,u.length=1)/\∀a,A=some a->∀(m:Nat) x,rs.flatten[m]?=some x->w.cell? (a.add m)=some x)(H:A=none->b=[]){src dst e:TypeId}(q:P.underlying src=some (.slice e))(p:P.underlying e=some (.int .u8))(hd:P.underlying dst=some .string) :
  (convert src dst (.slice A b.length c)).run P w=.ok (.string ⟨h.toArray⟩) w:=by
 subst M;cases A with
 | none =>
  have J:h=[]:=by simpa using H rfl
  subst J;rw[run_convert_bytes_string w src dst e none _ c q p hd];simp[Conv.bytesToString];rfl
 | some ad =>
  obtain⟨rs,U,E,C,F⟩:=hr;have:=run_convert_bytes_back (P:=P) w src dst e ad c h q p hd λj L=>by
   have l:j < (h.map gBy).length:=by simpa using L
   have f:j < rs.length:=by omega
   have D:=E j _ _ (ap l) (ap f);have T:=C rs[j] (bu f);have O:=Ci C (ap f) (ap (by omega:0 < rs[j].length));have B:=F ad rfl _ _ O;rw[Nat.mul_one,Nat.add_zero] at B;rw[B];have s:=D.2 0 (.v (.int .u8 (h[j].toNat:Int))) rs[j][0] (by simp[gBy]) (ap _);generalize rs[j][0]=z at s;cases s;rfl
  rw[ao];exact this
theorem Has.below (h:Has I V own w)(c:Below w.heap.size w w'):Has I V own w' :=
 (Nl h (h.mem.keep λb _ _ e=>c.block b (h.mem.lt e)) (.refl _) (λ_ _ _=>rfl) c).has
theorem Zbd (hT:∀t i,look t tb=some i->TIok P t i)(hS:∀u,S u->Agree V XL w u)(hH:Has I V own w)(ha:ARep N I V a t){src dst:TypeId}{z:Operand}(ho:o.op=.convert src dst z){p q:TI}(hp:look src tb=some p)(hq:look dst tb=some q)(h:ev t own z λg=>cvK own g p q (cvU tb p XL) λg=>K (put o.dst g t) own V.n):QOk S P I V own w a t o K:=by
 obtain⟨g,h,X⟩:=B1 h ha hH;have j:∀{v u},(convert src dst (a.eval z)).run P u=.ok v u->(execOp a.eval o).run P u=.ok (.value v) u:=λhr=>by simp only[execOp,ho,Sem.run_bind,hr,Result.andThen_ok,Sem.run_pure]
 have D:=hT _ _ hp;have F:=hT _ _ hq;obtain⟨pag,pz,pe,pf,ps,pk,pd⟩:=p;obtain⟨qag,qz,qe,qf,Z,qk,qd⟩:=q;unfold cvK cvU at h;dsimp only at h;cases pe with
 | some es =>
  obtain⟨e,sz⟩:=es;cases Z with
  | false=>exact False.elim h
  | true =>
   cases XL with
   | cons k XL=>exact False.elim h
   | nil =>
   dsimp only at h;cases hu:Z9i tb e with
   | false=>rw[hu] at h;exact h.elim
   | true =>
    rw[hu] at h;dsimp only at h;have O:=TIok.u8 hT hu;have U:=F.str rfl;have L:=(D.elem e sz rfl).1;have B:∀{f:List (List G)} {K1:List UInt8->Prop},EvBytes f K1->Z1e own g 1 (λr=>r=f)->∃C,K1 C/\∀u,S u->(convert src dst (a.eval z)).run P u=.ok (.string ⟨C.toArray⟩) u:=λ{f K1} ⟨C,e1,l⟩ hn=>by refine⟨C,l,λu E=>?_⟩;obtain⟨new,A,c,rs,e2,e3,T,H,k3,k4,-,k5⟩:=Tm hn (X:TRep I V g (a.eval z)) hH;subst e2;rw[e3];refine Z3r e1 ⟨rs,H,k3,k4,λa ha m x hx=>?_⟩ (λe=>ay (T e).1) L O U;have J:=k5 a ha m x hx;have W:=World.block_lt_of_cell? w _ J;rw[ac (w:=w) (w':=u) (hS u E _ W (λk l=>by simp at l))];exact J
    have Y:∀{f:List (List G)} {K1:List UInt8->Prop},EvBytes f K1->∀r∈f,r.length=1/\r.all G.one=true:=fun⟨C,e1,_⟩ r hr=>by subst e1;obtain⟨b,-,rfl⟩:=bi.1 hr;exact⟨rfl,rfl⟩
    cases g with
    | nl =>
     obtain⟨C,l,hr⟩:=B h rfl;exact⟨_,_,l,.of_v (.v _),λu E=>j (hr u E)⟩
    | sl f =>
     obtain⟨C,l,hr⟩:=B h ⟨Y h,rfl⟩;exact⟨_,_,l,.of_v (.v _),λu E=>j (hr u E)⟩
    | osl k =>
     unfold byK at h;dsimp only at h;split at h
     .next f e' M =>
      obtain⟨C,l,hr⟩:=B h (by unfold Z1e;dsimp only;rw[M]);exact⟨_,_,l,.of_v (.v _),λu E=>j (hr u E)⟩
     .exact h.elim
    | _=>exact False.elim h
 | none =>
  cases ps with
  | true =>
   cases Z with
   | false=>exact False.elim h
   | true =>
    dsimp only at h;split at h
    .next s =>
     have e:=Av X;exact⟨_,_,h,.of_v (.v _),λu _=>j (by rw[e];simp[convert,run_underlying (D.str rfl),run_underlying (F.str rfl)])⟩
    .exact h.elim
  | false =>
   cases pk with
   | none=>exact False.elim h
   | some T =>
    cases Z with
    | true=>exact False.elim h
    | false =>
     cases qk with
     | none=>exact False.elim h
     | some H =>
      dsimp only at h;split at h
      .next k n =>
       have e:=Av X;have J:∀u,(convert src dst (.int k n)).run P u=.ok (.int H (H.wrap n)) u:=λu=>by simp[convert,run_underlying (D.ik T rfl),run_underlying (F.ik H rfl),Conv.intToInt]
       cases H with
       | i64 =>
        obtain⟨hr,l⟩:=h;exact⟨_,_,l,.of_v (.v _),λu _=>j (by rw[e,J,IntWalk.i64_in _ hr])⟩
       | u8=>exact⟨_,_,h,.of_v (.v _),λu _=>j (by rw[e,J,IntKind.wrap_u8])⟩
       | u64=>exact⟨_,_,h,.of_v (.v _),λu _=>j (by rw[e,J])⟩
       | _=>exact False.elim h
      .exact h.elim
theorem Z24 (hH:Has I V own w)(ha:ARep N I V a t)(hd:∀i,o.dst=some i->i < N)(hK:NxtB N own I V w K next){src dst e:TypeId}{z:Operand}(U:o.op=.convert src dst z)(Y:P.underlying src=some .string)(E:P.underlying dst=some (.slice e))(O:P.underlying e=some (.int .u8))(h:ev t own z λg=>match g with
  | .v (.string s)=>K (put o.dst (.sl (s.data.toList.map gBy)) t) own V.n
  | _=>False):o.wp P a w next Q:=by
 obtain⟨g,h,C⟩:=B1 h ha hH;split at h
 .next s =>
  have X:=Av C;have hr:=run_bytes_of_string (P:=P) w src dst e s Y E O;obtain⟨w',q⟩:∃w',w'=(w.drew.alloc (.cells (bytesRow s (grownCap w s.size 0 e)) e ((bytesRow s (grownCap w s.size 0 e)).size,(bytesRow s (grownCap w s.size 0 e)).size+1))):=⟨_,rfl⟩;rw[<-q] at hr;have F:Below w.heap.size w w':=by rw[q];exact((ab _ _).drew).alloc (au _) _
  have W:w'.heap[w.heap.size]?=some (.cells (bytesRow s (grownCap w s.size 0 e)) e ((bytesRow s (grownCap w s.size 0 e)).size,(bytesRow s (grownCap w s.size 0 e)).size+1)):=by rw[q];exact heap_alloc_new w.drew _
  let I':Imm:=λb o=>if b=w.heap.size then(bytesRow s (grownCap w s.size 0 e))[o]? else I b o;have H:I.le I':=λb o x c=>by show(if b=w.heap.size then _ else I b o)=_;rw[dn (λJ=>by have:=hH.mem.lt c;omega)];exact c
  have T:Mem I' w':=λb o x c=>by
   change (if b=w.heap.size then _ else I b o)=_ at c
   split at c
   .next J=>subst J;rw[cell_of_row w' _ o _ e _ W];exact c
   .exact(hH.mem.keep (w':=w') λb o x c=>F.block b (hH.mem.lt c)) b o x c
  have M:=Nl hH T H (λb o p=>dn (Nat.ne_of_lt p)) F;have A:s.size<=grownCap w s.size 0 e:=grownCap_ge w s.size 0 e;refine Rc (g:=.sl (s.data.toList.map gBy)) (y:=.slice (some ⟨w.heap.size,0,none⟩) s.size (grownCap w s.size 0 e)) hK ha hd (by simp only[execOp,U,Sem.run_bind,X,hr,Result.andThen_ok,Sem.run_pure]) M F (.refl _) (.of_v ?_) h;have f:∀(i:Nat) (b:UInt8),s.data.toList[i]?=some b->(bytesRow s (grownCap w s.size 0 e))[i]?=some (Value.int .u8 (b.toNat:Int)):=λi b L=>by
   have p:=(aq.1 L).1;unfold bytesRow;rw[Array.getElem?_append_left (by simpa using p)];have D:s.data[i]?=some b:=by simpa using L
   simp[D]
  have l:∀(i:Nat) r,(s.data.toList.map gBy)[i]?=some r->∃b,s.data.toList[i]?=some b/\r=gBy b:=λi r hr=>by rw[ax] at hr;obtain⟨b,B,D⟩:=bg.1 hr;exact⟨b,B,D.symm⟩
  have key:=VRep.sl (I:=I') (s.data.toList.map gBy) (some ⟨w.heap.size,0,none⟩) (grownCap w s.size 0 e) 1 (λi _=>((bytesRow s (grownCap w s.size 0 e))[i]?).getD undef) (by simpa using A) (λe=>by cases e) (λr hr=>by obtain⟨b,-,rfl⟩:=bi.1 hr;rfl) (λi r hr=>⟨_,_,rfl,λj Z=>?_⟩) (λi r j g hr C=>?_)
  .simpa using key
  .obtain⟨b,B,-⟩:=l i r hr;obtain rfl:j=0:=by omega
   show(if w.heap.size=w.heap.size then _ else _)=_;rw[dp rfl,cn,Nat.mul_one,Nat.add_zero,f i b B];rfl
  .obtain⟨b,B,rfl⟩:=l i r hr;cases j with
   | succ j=>simp[gBy] at C
   | zero =>
    simp[gBy] at C;subst C;rw[f i b B];exact .v _
 .exact h.elim
theorem Jf:∀{rs:List (List Value)} (_:∀u∈rs,u.length=1) (k:Nat),(rs.take k).flatten=rs.flatten.take k/\(rs.drop k).flatten=rs.flatten.drop k
 | [],_,k=>by simp
 | u::rs,h,0=>by simp
 | u::rs,h,k+1=>by have b:=h u (by simp);obtain⟨x,rfl⟩:∃x,u=[x]:=List.length_eq_one_iff.1 b;have c:=Jf (rs:=rs) (λu b=>h u (by simp[b])) k;simp[c.1,c.2]
theorem Pg (hH:Has I V own w){k e lo d:Nat}{l new:List (List G)}(L:look k own=some (.slc l e 1))(hlo:lo+d<=l.length){A:Option Addr}{c:Nat}{rs:List (List Value)}(hA:A=none->new.length=0/\c=0)(k1:rs.length=new.length)(k2:∀(i:Nat) r u,new[i]?=some r->rs[i]?=some u->PW (VRep I) r u)(T:∀u∈rs,u.length=1)(k4:∀u∈rs,∀x∈u,x.oneCell'=true)(k5:∀a,A=some a->∀(j:Nat) u,rs.flatten[j]?=some u->w.cell? (a.add j)=some u)
  {W sT X:TypeId} (O:P.underlying W=some (.slice X)) (hs:(P.info? X).map (·.size)=some 1) (ty:TypeId) :
  ∃w',(Builtin.copy_ #[W,sT] ty #[K0 1 (V.s k) lo (lo+d),.slice A new.length c]).run P w=.ok (.int .i64 (min new.length d:Nat)) w'/\Later own I V w ((k,.slc (l.take lo++new.take (min new.length d)++l.drop (lo+min new.length d)) e 1)::own) I V w':=by
 obtain⟨hf,p,ho,g2,g3,D,g5,g6⟩:=hH.each k _ L;obtain⟨m,H⟩:∃m,m=min new.length d:=⟨_,rfl⟩;have hmd:m<=d:=by rw[H];exact Nat.min_le_right _ _
 have hmn:m<=new.length:=by rw[H];exact Nat.min_le_left _ _
 rw[<-H];obtain⟨A0,c0,B,hc0⟩:=Fw hH L;by_cases h0:m=0
 .subst h0;refine⟨w,?_,D7 hH L rfl rfl rfl rfl (λ_ _=>rfl) ?_⟩
  .rw[B];unfold K0;dsimp only;have:=run_copy_none (P:=P) w W sT ty X (if c0=lo then A0 else A0.map (·.add (lo * 1))) A (lo+d - lo) (c0 - lo) new.length c O hs (by rw[Nat.add_sub_cancel_left];exact H.symm);exact this
  .simpa using hH.each k _ L
 .rcases ho.2 with⟨F,h8⟩ | ⟨b,cap,cur,F,-,hg,hnc,hcm,hcs,ht⟩
  .omega
  .rw[F] at B;injection B with e1 e2 e3;subst e1 e3;cases A with
   | none=>have:=hA rfl;omega
   | some ad =>
    have hne:¬cap=lo:=by omega
    obtain⟨cs,z⟩:∃cs,cs=(rs.take m).flatten:=⟨_,rfl⟩;have M:∀u∈rs.take m,u.length=1:=λu O=>T u (bm O);have U:cs.length=m:=by rw[z,Bk M];simp;omega
    have J:∀j x,cs[j]?=some x->rs.flatten[j]?=some x:=λj x hx=>by rw[z] at hx;obtain⟨i,q,u,rfl,hq,f,Y⟩:=Nw M hx;exact Ci T (by rw[bp] at f;(split at f<;>first | exact f | cases f)) Y
    have h1:∀v∈cs,v.oneCell'=true:=λv B=>by rw[z] at B;obtain⟨u,f,B⟩:=List.mem_flatten.1 B;exact k4 u (bm f) v B
    have C:=run_copy_row (P:=P) w W sT ty X b (0+lo * 1) (lo+d - lo) (cap - lo) ad new.length c cur e cs O hs hg (by rw[U,H,Nat.add_sub_cancel_left]) (λj v B=>k5 ad rfl j v (J j v B)) (by rw[U];omega) h1;rw[U] at C;have hrl:∀u∈p,u.length=1:=D;refine⟨w.setRow b (cur.toList.take (0+lo * 1)++cs++cur.toList.drop (0+lo * 1+m)).toArray,?_,D7 (w':=w.setRow b _) hH L rfl rfl rfl (by simp[World.setRow]) (λb' hb'=>setRow_other w _ b' _ (λe=>hb' ((hf b').2 (by rw[F,e];rfl)))) ⟨hf,p.take lo++rs.take m++p.drop (lo+m),⟨?_,.inr ⟨b,cap,_,(by rw[F];congr 1;simp;first | done | omega),av _,setRow_heap w b cur _ e _ hg,by simp;omega,hcm,by simp;omega,?_⟩⟩,by simp;omega,λi r u hr f=>?_,λu f=>?_,λu f=>?_,g6⟩⟩
    .rw[F];unfold K0;dsimp only;rw[dn hne];simp only[Option.map_some,Co];exact C
    .have:∀u∈p.take lo++rs.take m++p.drop (lo+m),u.length=1:=λu f=>by
      rcases bz.1 f with h | h
      .rcases bz.1 h with h | h
       .exact D u (bm h)
       .exact T u (bm h)
      .exact D u (cg h)
     rw[Bk this];simp;omega
    .have Z:cur.toList.take (l.length * 1)=p.flatten:=ht;have hcl:cur.toList.length=cap * 1:=by simpa using hcs
     rw[List.flatten_append,List.flatten_append,(Jf D lo).1,(Jf D (lo+m)).2,<-z,<-Z];have hn:(l.take lo++new.take m++l.drop (lo+m)).length=l.length:=by simp;omega
     rw[hn,show 0+lo * 1=lo by omega];simp only[List.take_append,List.take_take,List.drop_take,List.length_take,List.length_append,U];rw[Nat.min_eq_right (by omega:lo<=l.length * 1),cp (by omega:lo<=l.length * 1),cp (by omega:lo<=cur.toList.length),ba (by omega:cs.length<=l.length * 1 - lo)]
    .have e1:(l.take lo).length=lo:=by simp;omega
     have e2:(p.take lo).length=lo:=by simp;omega
     have e3:(new.take m).length=m:=by simp;omega
     have e4:(rs.take m).length=m:=by simp;omega
     rcases Nat.lt_or_ge i (lo+m) with hlt | hge
     .rw[br (by simp;omega)] at hr f;rcases Nat.lt_or_ge i lo with E | hge2
      .rw[br (by omega),bp,dp E] at hr f;exact g3 i r u hr f
      .rw[bn (by omega),e1,bp,dp (by omega)] at hr;rw[bn (by omega),e2,bp,dp (by omega)] at f;exact k2 _ r u hr f
     .rw[bn (by simp;omega)] at hr f;have e5:(l.take lo++new.take m).length=lo+m:=by simp;omega
      have e6:(p.take lo++rs.take m).length=lo+m:=by simp;omega
      rw[e5,cd] at hr;rw[e6,cd] at f;exact g3 _ r u hr f
    .rcases bz.1 f with h | h
     .rcases bz.1 h with h | h
      .exact D u (bm h)
      .exact T u (bm h)
     .exact D u (cg h)
    .rcases bz.1 f with h | h
     .rcases bz.1 h with h | h
      .exact g5 u (bm h)
      .exact k4 u (bm h)
     .exact g5 u (cg h)
theorem Z6e (hH:Has I V own w){k j sz off e:Nat}{l:List (List G)}(hr:look k own=some (.slc l e sz)){b n c:Nat}(W:V.s k=.slice (some ⟨b,0,none⟩) n c)(M:j < l.length){ds:List Value}(H:off+ds.length<=sz)(E:∀v∈ds,v.oneCell'=true) :
  ∃(u:List Value) (f:Array Value),u.length=sz/\PW (VRep I) l[j] u/\w.heap[b]?=some (.cells f e (0,0))/\j * sz+off+ds.length<=f.size/\∀z,PW (VRep I) z (u.take off++ds++u.drop (off+ds.length))->Later own I V w ((k,.slc (l.set j z) e sz)::own) I V (w.setRow b (f.toList.take (j * sz+off)++ds++f.toList.drop (j * sz+off+ds.length)).toArray):=by
   obtain⟨rs,f,F,h2,h3,J,X,hn,L,T,U,ht,-⟩:=Q9 hH hr W;have hj:j < l.length:=M;have A:j < rs.length:=by omega
   have k3:=H;have D:=J rs[j] (bu A);have hjn:j * sz+sz<=n * sz:=by rw[<-Nat.succ_mul];exact Nat.mul_le_mul_right _ (by omega)
   have hnn:n * sz<=c * sz:=Nat.mul_le_mul_right _ L;refine⟨rs[j],f,D,h3 j _ _ (ap hj) (ap A),F,by omega,λz k2=>?_⟩;have Y:=Tp J (ap A) off ds k3;have hfln:=Bk J;have p:∀u∈rs.set j (rs[j].take off++ds++rs[j].drop (off+ds.length)),u.length=sz/\∀x∈u,x.oneCell'=true:=λu q=>by
    rcases cw q with h | rfl
    .exact⟨J u h,X u h⟩
    .refine⟨by simp;omega,λx B=>?_⟩;rcases bz.1 B with B | B
     .rcases bz.1 B with B | B
      .exact X _ (bu A) x (bm B)
      .exact E x B
     .exact X _ (bu A) x (cg B)
   refine(D7 (w':=w.setRow b (f.toList.take (j * sz+off)++ds++f.toList.drop (j * sz+off+ds.length)).toArray) (r:=.slc (l.set j z) e sz) hH hr rfl rfl rfl (by simp[World.setRow]) (λb' Z=>setRow_other w _ b' _ (λe=>Z (((hH.each k _ hr).1 b').2 (by rw[W,e];rfl)))) ⟨(hH.each k _ hr).1,rs.set j (rs[j].take off++ds++rs[j].drop (off+ds.length)),⟨?_,.inr ⟨b,c,_,by rw[W,hn];simp,av _,setRow_heap w _ f _ e _ F,by simp;omega,T,?_,?_⟩⟩,by simp[h2],?_,λu D=>(p u D).1,λu D=>(p u D).2,(hH.each k _ hr).2.choose_spec.2.2.2.2.2⟩)
   .rw[Bk λu D=>(p u D).1];simp[h2]
   .simp;omega
   .rw[Y];simp only[List.length_set,<-hn];rw[<-ht];have hcl:f.toList.length=c * sz:=by simpa using U
    simp only[List.take_append,List.take_take,List.drop_take,List.length_take,List.length_append];rw[Nat.min_eq_right (by omega:j * sz+off<=n * sz),cp (by omega:j * sz+off<=n * sz),cp (by omega:j * sz+off<=f.toList.length),ba (by omega:ds.length<=n * sz - (j * sz+off))]
   .intro i r u C q;rw[cv] at C q;split at C
    .next O =>
     subst O;rw[dp rfl,dp A] at q;cases C;cases q;exact k2
    .next O =>
     rw[dn O] at q;exact h3 i r u C q
theorem Z7b (hT:∀t i,look t tb=some i->TIok P t i)(hK:Nxt N own0 I0 V0 w0 K next)(hL:Since own0 I0 V0 w0 own I V w)(ha:ARep N I V a t)(hd:∀i,o.dst=some i->i < N){x z:Operand}{ty D:TypeId}{ag:Bool}{ze:List G}{e:Nat}{fl:List (TypeId × Nat)}{st:Bool}{ik:Option IntKind}{kd:KD}(Y:look ty tb=some ⟨ag,ze,some (e,1),fl,st,ik,kd⟩)(ho:o.op=.call {callee:=.builtin .copy,args:=#[x,z],argTypes:=#[ty,D]})(h:ev t own x λg=>ev t own z λq=>Z1e own q 1 λnew=>match g with
          | .osl k=>match look k own with
           | some (.slc f e 1)=>K (put o.dst (.v (.int .i64 (min new.length f.length:Nat))) t) ((k,.slc (new.take (min new.length f.length)++f.drop (min new.length f.length)) e 1)::own) V.n
           | _=>False
          | .osv k 1 lo hi=>match look k own with
           | some (.slc f e 1)=>K (put o.dst (.v (.int .i64 (min new.length (hi - lo):Nat))) t) ((k,.slc (f.take lo++new.take (min new.length (hi - lo))++f.drop (lo+min new.length (hi - lo))) e 1)::own) V.n
           | _=>False
          | .orv k i sz off len _=>match look k own with
           | some (.slc f e sz')=>match Nat.beq sz sz' with
            | true=>Eh (off+len<=sz) (EvSet f i (λrow k=>k (row.take off++(new.take (min new.length len)).flatten++row.drop (off+min new.length len))) λT=>K (put o.dst (.v (.int .i64 (min new.length len:Nat))) t) ((k,.slc T e sz)::own) V.n)
            | false=>False
           | _=>False
          | _=>False):o.wp P a w next Q:=by
 obtain⟨g,hk1,hg⟩:=B1 h ha hL.has;obtain⟨q,H,hq⟩:=B1 hk1 ha hL.has;obtain⟨new,A,c,rs,l,he,hA,k1,k2,k3,k4,k5⟩:=Tm H hq hL.has;clear h hk1 H;obtain⟨X,ie,zv,U,h2,h3,h4,h5,h6⟩:=(hT _ _ Y).elem e 1 rfl;have hs:(P.info? e).map (·.size)=some 1:=by rw[U];simp[h3]
 have p:∀{v w'},(Builtin.copy_ #[ty,D] o.type #[a.eval x,.slice A new.length c]).run P w=.ok v w'->(execOp a.eval o).run P w=.ok (.value v) w':=λhr=>by simp only[execOp,ho,resolve,invoke,builtin,Sem.run_bind,Sem.run_pure,Result.andThen_ok,List.map_toArray,List.map_cons,List.map_nil,he,hr]
 cases g with
 | osl k =>
  obtain⟨Z,L⟩:=(show k < V.n/\a.eval x=V.s k from hg);dsimp only at l;split at l
  .next f e' B =>
   obtain⟨w',c1,c2⟩:=Pg (P:=P) (lo:=0) (d:=f.length) hL.has B (by omega) hA k1 k2 k3 k4 k5 X hs (sT:=D) o.type;obtain⟨A0,c0,F,hc0⟩:=Fw hL.has B;have e0:K0 1 (V.s k) 0 (0+f.length)=V.s k:=by rw[F];unfold K0;dsimp only;cases A0<;>simp[Addr.add]
   rw[e0] at c1;refine fin hK hL ha hd (p (by rw[L];exact c1)) c2 (.of_v (.v _)) ?_;simpa using l
  .exact l.elim
 | osv k sz lo hi =>
  obtain⟨Z,⟨b1,b2⟩,L⟩:=(show k < V.n/\(lo<=hi/\hi<=Mb (V.s k))/\a.eval x=K0 sz (V.s k) lo hi from hg);cases M:Nat.beq sz 1 with
  | false =>
   exfalso;cases sz with
   | zero=>exact l.elim
   | succ n=>cases n with
    | zero=>cases M
    | succ n=>exact l.elim
  | true =>
   have M:=aw M;subst M;have l:match look k own with
    | some (.slc f e 1)=>K (put o.dst (.v (.int .i64 (min new.length (hi - lo):Nat))) t) ((k,.slc (f.take lo++new.take (min new.length (hi - lo))++f.drop (lo+min new.length (hi - lo))) e 1)::own) V.n
    | _=>False:=l
   split at l
   .next f e' B =>
    obtain⟨A0,c0,F,hc0⟩:=Fw hL.has B;have b3:hi<=f.length:=by rw[F] at b2;exact b2
    obtain⟨w',c1,c2⟩:=Pg (P:=P) (lo:=lo) (d:=hi - lo) hL.has B (by omega) hA k1 k2 k3 k4 k5 X hs (sT:=D) o.type;rw[show lo+(hi - lo)=hi by omega] at c1;exact fin hK hL ha hd (p (by rw[L];exact c1)) c2 (.of_v (.v _)) l
   .exact l.elim
 | orv k i sz off len cap =>
  obtain⟨Z,b,q0,hob,L⟩:=(show TRep1 I V (.orv k i sz off len cap) (a.eval x) from hg);dsimp only at l;split at l
  .next f e' sz' B =>
   split at l
   .next hb =>
    have hb:=aw hb;subst hb;obtain⟨n0,c0,hs0⟩:∃n c,V.s k=.slice (some ⟨b,q0,none⟩) n c:=by
     obtain⟨-,-,-,-,-,-,-,hz⟩:=hL.has.each k _ B;cases sz with
     | zero=>omega
     | succ sz=>exact hob
    obtain rfl:=Z2n hL.has B hs0;rw[cn] at L;obtain⟨hfit,W,l⟩:=l;obtain⟨m,hm⟩:∃m,m=min new.length len:=⟨_,rfl⟩;rw[<-hm] at l;obtain⟨ds,J⟩:∃ds,ds=(rs.take m).flatten:=⟨_,rfl⟩;have k3':∀u∈rs.take m,u.length=1:=λu X=>k3 u (bm X);have Y:ds.length=m:=by rw[J,Bk k3'];simp;omega
    have O:∀v∈ds,v.oneCell'=true:=λv F=>by rw[J] at F;obtain⟨u,E,F⟩:=List.mem_flatten.1 F;exact k4 u (bm E) v F
    obtain⟨u,C,q1,q2,q3,q4,q5⟩:=Z6e hL.has (off:=off) B hs0 W (ds:=ds) (by omega) O;have hpd:PW (VRep I) (new.take m).flatten ds:=by
     rw[J];refine S0 (by simp[k1]) λi r u U h2=>?_;rw[bp] at U h2;split at U
     .next W=>rw[dp W] at h2;exact k2 i r u U h2
     .cases U
    have hrow:PW (VRep I) (f[i].take off++(new.take m).flatten++f[i].drop (off+m)) (u.take off++ds++u.drop (off+ds.length)):=by
     rw[Y];have p1:=q2.part 0 off;have p2:=q2.part (off+m) sz;rw[List.drop_zero,List.drop_zero] at p1;have e1:f[i].length=sz:=by rw[q2.1,q1]
     rw[ba (by rw[bj];omega),ba (by rw[bj];omega)] at p2;exact(p1.append hpd).append p2
    have hl2:=q5 _ hrow;have H:=l f[i] (by simp);have hr3:(Builtin.copy_ #[ty,D] o.type #[a.eval x,.slice A new.length c]).run P w=.ok (.int .i64 (m:Nat)) (w.setRow b (C.toList.take (i * sz+off)++ds++C.toList.drop (i * sz+off+ds.length)).toArray):=by
     rw[L];cases A with
     | none =>
      have h0:=(hA rfl).1;have hm0:m=0:=by omega
      subst hm0;have hd0:ds=[]:=ay Y;have hsf:w.setRow b (C.toList.take (i * sz+off)++ds++C.toList.drop (i * sz+off+ds.length)).toArray=w:=by
       subst hd0;have e1:(C.toList.take (i * sz+off)++[]++C.toList.drop (i * sz+off+0)).toArray=C:=by simp
       rw[show([]:List Value).length=0 from rfl,e1];unfold World.setRow;refine congrArg (λh=>({w with heap:=h}:World)) (?_:_=w.heap);apply Array.ext
       .simp
       .intro j U h2;rw[Array.getElem_modify];split
        .next e =>
         subst e;have:=(bx.1 q3).2;rw[this]
        .rfl
      rw[hsf];refine run_copy_none (P:=P) w ty D o.type e (some ⟨b,i * sz+off,none⟩) none len cap new.length c X hs ?_;rw[h0];exact Nat.zero_min _
     | some ad =>
      have hsub:∀j x,ds[j]?=some x->rs.flatten[j]?=some x:=λj x L=>by rw[J] at L;obtain⟨i,q,u,rfl,hq,E,hx'⟩:=Nw k3' L;exact Ci k3 (by rw[bp] at E;(split at E<;>first | exact E | cases E)) hx'
      have p:=run_copy_row (P:=P) w ty D o.type e b (i * sz+off) len cap ad new.length c C e' ds X hs q3 (by rw[Y,hm]) (λj v F=>k5 ad rfl j v (hsub j v F)) q4 O;rw[Y] at p⊢;exact p
    exact fin hK hL ha hd (p hr3) hl2 (.of_v (.v _)) H
   .exact l.elim
  .exact l.elim
 | _=>exact l.elim
end
theorem Qx:∀(rs:List R) (j i:Nat),look i (Ep rs j)=if j<=i then rs[i - j]? else none
 | [],j,i=>by simp[Ep,look]
 | r::rs,j,i=>by
  rw[Ep,Ac,Qx rs (j+1) i];by_cases h:i=j
  .subst h;simp
  .by_cases b:j<=i
   .obtain⟨d,rfl⟩:=Nat.exists_eq_add_of_le b;cases d with
    | zero=>simp at h
    | succ d =>
     rw[dn h,dp (by omega),dp b,show j+(d+1) - (j+1)=d by omega,show j+(d+1) - j=d+1 by omega];simp
   .rw[dn h,dn b,dn (by omega)]
theorem Bf (rs:List R)(i:Nat):look i (Ep rs 0)=rs[i]?:=by rw[Qx];simp
def Bg (ks:List Nat)(n i:Nat):Nat:=match ks[i]? with
 | some k=>k
 | none=>n+(i - ks.length)
theorem Dd (n i:Nat):Bg [] n i=n+i:=by simp[Bg]
theorem Ht (k:Nat)(ks:List Nat)(n i:Nat):Bg (k::ks) n (i+1)=Bg ks n i:=by
 unfold Bg;simp only[List.getElem?_cons_succ,List.length_cons];cases ks[i]? with
 | some k=>rfl
 | none=>simp only;congr 1;omega
theorem Ll:∀(ks:List Nat) (n:Nat) (rs:List R) (j i:Nat),look i (Rb ks n rs j)=if j<=i/\i - j < rs.length then some (Bg ks n (i - j)) else none
 | [],n,[],j,i=>by simp[Rb,look]
 | k::ks,n,[],j,i=>by simp[Rb,look]
 | k::ks,n,r::rs,j,i=>by
  rw[Rb,Ac,Ll ks n rs (j+1) i];by_cases h:i=j
  .subst h;simp[Bg]
  .by_cases b:j+1<=i/\i - (j+1) < rs.length
   .rw[dn h,dp b,dp ⟨by omega,by simp;omega⟩,show i - j=i - (j+1)+1 by omega,Ht]
   .rw[dn h,dn b,dn (λc=>b ⟨by omega,by simp at c;omega⟩)]
 | [],n,r::rs,j,i=>by
  rw[Rb,Ac,Ll [] (n+1) rs (j+1) i];by_cases h:i=j
  .subst h;simp[Bg]
  .by_cases b:j+1<=i/\i - (j+1) < rs.length
   .rw[dn h,dp b,dp ⟨by omega,by simp;omega⟩,Dd,Dd];congr 1;omega
   .rw[dn h,dn b,dn (λc=>b ⟨by omega,by simp at c;omega⟩)]
def P4 (m:List (Nat × Nat)):List R->List Nat->Os->Nat->Os
 | [],_,own,_=>own
 | r::rs,k::ks,own,n=>P4 m rs ks ((k,Kn m r)::own) n
 | r::rs,[],own,n=>P4 m rs [] ((n,Kn m r)::own) (n+1)
theorem Vt {m:List (Nat × Nat)}{g:G}(h:C8 g=true):M5 m g=g:=by cases g<;>first | rfl | cases h
theorem Z0d {m:List (Nat × Nat)}{l:List G}(h:Bp C8 l=true):l.map (M5 m)=l:=by
 induction l with
 | nil=>rfl
 | cons g l ih =>
  have b:=Ai h g (by simp);have c:Bp C8 l=true:=by unfold Bp at h;rw[b] at h;exact h
  rw[cu,Vt b,ih c]
theorem J5 {m:List (Nat × Nat)}{r:R}(h:Ko r=true):Kn m r=r:=by
 cases r with
 | blk cs t=>simp only[Kn,Z0d (show Bp C8 cs=true from h)]
 | lnk j=>cases h
 | adr j b=>cases h
 | _=>rfl
theorem Ja {m:List (Nat × Nat)}{g:G}(h:Pp g=true):Z1b m g=g:=by
 cases g with
 | oag l=>simp only[Z1b,Z0d (show Bp C8 l=true from h)]
 | clo f a c=>cases h
 | tup l=>cases h
 | ptr k o=>cases h
 | osl k=>cases h
 | osv k a b c=>cases h
 | oel k a b c=>cases h
 | orv k a b c d e=>cases h
 | mp k=>cases h
 | _=>rfl
theorem W5 {m:List (Nat × Nat)}{g:G}(h:Z53 g=true):Qp m g=g:=by
 cases g with
 | tup l =>
  have key:∀l:List G,Bp Pp l=true->l.map (Z1b m)=l:=λl h=>by
   induction l with
   | nil=>rfl
   | cons g l ih =>
    have j:=Ai h g (by simp);have p:Bp Pp l=true:=by unfold Bp at h;rw[j] at h;exact h
    rw[cu,Ja j,ih p]
  simp only[Qp,key l h]
 | v x=>exact Ja (m:=m) (g:=.v x) h
 | oag l=>exact Ja (m:=m) (g:=.oag l) h
 | clo f a c=>cases h
 | ptr k o=>cases h
 | osl k=>cases h
 | osv k a b c=>cases h
 | oel k a b c=>cases h
 | orv k a b c d e=>cases h
 | mp k=>cases h
 | _=>rfl
theorem Kg {m:List (Nat × Nat)}{K:Os->Nat->Prop}:∀{rs:List R} {ks:List Nat} {own:Os} {n:Nat},Kd m rs ks own n K->K (P4 m rs ks own n) (n+(rs.length - ks.length))
 | [],ks,own,n,h=>by simpa [Kd,P4] using h
 | r::rs,k::ks,own,n,h=>by
  have b:Kd m rs ks ((k,Kn m r)::own) n K:=by
   unfold Kd at h;split at h
   .next e=>rw[J5 e];exact h
   .exact h
  have:=Kg b;simpa [P4] using this
 | r::rs,[],own,n,h=>by
  have b:Kd m rs [] ((n,Kn m r)::own) (n+1) K:=by
   unfold Kd at h;split at h
   .next e=>rw[J5 e];exact h
   .exact h
  have:=Kg b;simp only[List.length_nil,Nat.sub_zero] at this;simpa [P4,Nat.add_assoc,Nat.add_comm 1] using this
theorem Z66 {ks:List Nat}{own:Os}{n:Nat}{g:G}{rs:List R}{K:G->Os->Nat->Prop}(h:Yc ks own n g rs K):K (Qp (Rb ks n rs 0) g) (P4 (Rb ks n rs 0) rs ks own n) (n+(rs.length - ks.length)):=by
 unfold Yc at h;split at h
 .next e=>rw[W5 e];exact Kg (K:=λown n=>K g own n) h
 .exact Kg (K:=λown' b=>K (Qp (Rb ks n rs 0) g) own' b) h
theorem Cl {m:List (Nat × Nat)}:∀{rs:List R} {ks:List Nat} {own:Os} {n k:Nat} {r:R},look k (P4 m rs ks own n)=some r ->
  (∃i b,Bg ks n i=k/\rs[i]?=some b/\r=Kn m b)\/((∀i,i < rs.length->Bg ks n i≠k)/\look k own=some r)
 | [],ks,own,n,k,r,h=>.inr ⟨λi c=>by simp at c,h⟩
 | b::rs,k0::ks,own,n,k,r,h=>by
  rcases Cl (rs:=rs) (ks:=ks) (own:=(k0,Kn m b)::own) (n:=n) h with⟨i,r1,h1,h2,h3⟩ | ⟨h1,h2⟩
  .exact .inl ⟨i+1,r1,by rw[Ht];exact h1,by simpa using h2,h3⟩
  .rw[Ac] at h2;split at h2
   .next e=>cases h2;exact .inl ⟨0,b,by simp[Bg,e],rfl,rfl⟩
   .next e=>exact .inr ⟨λi c=>by
     cases i with
     | zero=>simp[Bg];exact λf=>e f.symm
     | succ i=>rw[Ht];exact h1 i (by simpa using c),h2⟩
 | b::rs,[],own,n,k,r,h=>by
  rcases Cl (rs:=rs) (ks:=[]) (own:=(n,Kn m b)::own) (n:=n+1) h with⟨i,r1,h1,h2,h3⟩ | ⟨h1,h2⟩
  .exact .inl ⟨i+1,r1,by rw[Dd] at h1⊢;omega,by simpa using h2,h3⟩
  .rw[Ac] at h2;split at h2
   .next e=>cases h2;exact .inl ⟨0,b,by rw[Dd];omega,rfl,rfl⟩
   .next e=>exact .inr ⟨λi c=>by
     cases i with
     | zero=>rw[Dd];exact λf=>e (by omega)
     | succ i =>
      have:=h1 i (by simpa using c);rw[Dd] at this⊢;omega,h2⟩
section
variable {I I':Imm} {V V1 V':Va} {w w':World} {own:Os} {k n:Nat} {g:G} {x:Value} {r:R} {ks:List Nat} {rs:List R}
theorem VRep.cr (h:VRep I g x):CRep I V g x:=.of_v h
def Va.lend (V:Va)(ks:List Nat):Va:=⟨ks.length,λi=>V.b (Bg ks 0 i),λi=>V.s (Bg ks 0 i),λi=>V.f (Bg ks 0 i)⟩
theorem Vm (f:C8 g=true)(h:CRep I V g x):CRep I V' g x:=by
 cases g with
 | ptr k o=>cases f
 | osl k=>cases f
 | osv k a b c=>cases f
 | oel k a b c=>cases f
 | orv k a b c d e=>cases f
 | mp k=>cases f
 | _=>exact h
theorem Z4g {cs:List G}{b:List Value}(e:Bp C8 cs=true)(h:PW (CRep I V) cs b):PW (CRep I V') cs b:=⟨h.1,λj g u c f=>Vm (Ai e g (ar c)) (h.2 j g u c f)⟩
theorem RRep.lend (C:Ko r=true)(h:RRep I V k w r){j:Nat}(c:V'.b j=V.b k)(B:V'.s j=V.s k)(q:V'.f j=V.f k):RRep I V' j w r:=by
 cases r with
 | blk cs t =>
  obtain⟨z,E,A,F⟩:=h;exact⟨λb=>by rw[q,c];exact z b,E,by rw[c];exact A,Z4g C F⟩
 | slc rows e sz =>
  obtain⟨z,A⟩:=h;exact⟨λb=>by rw[q,B];exact z b,by rw[B];exact A⟩
 | vw rows e sz =>
  obtain⟨z,A⟩:=h;exact⟨λb=>by rw[q,B];exact z b,by rw[B];exact A⟩
 | froz rows sz=>exact⟨λb=>by rw[q];exact h.1 b,by rw[B];exact h.2.1,h.2.2⟩
 | gone=>exact λb=>by rw[q];exact h b
 | mpI l=>exact⟨λb=>by rw[q,c];exact h.1 b,by rw[c];exact h.2⟩
 | mpS l=>exact⟨λb=>by rw[q,c];exact h.1 b,by rw[c];exact h.2⟩
 | sit s pos=>exact⟨λb=>by rw[q,c];exact h.1 b,by rw[c];exact h.2⟩
 | mpX l m ob=>exact⟨λb=>by rw[q,c];exact h.1 b,by rw[c];exact h.2⟩
 | mit i l D last m ob=>exact⟨λb=>by rw[q,c];exact h.1 b,by rw[c];exact h.2⟩
 | abs p=>exact⟨h.1,by rw[q,c];exact h.2⟩
 | lnk j=>cases C
 | adr j b=>cases C
 | fam ps=>exact⟨h.1,by rw[q];exact h.2⟩
theorem Ba {i:Nat}(h:ks[i]?=some k):Bg ks n i=k:=by simp[Bg,h]
def Va.back (V:Va)(ks:List Nat)(V1:Va):Va:=⟨V.n+(V1.n - ks.length),λk=>if k < V.n then V.b k else V1.b (ks.length+(k - V.n)),λk=>if k < V.n then V.s k else V1.s (ks.length+(k - V.n)),λk b=>(∃i,i < V1.n/\Bg ks V.n i=k/\V1.f i b)\/((∀i,i < V1.n->Bg ks V.n i≠k)/\V.f k b)⟩
theorem W3 (hd:ks.Nodup)(b:∀k∈ks,k < n){i j:Nat}(h:Bg ks n i=Bg ks n j):i=j:=by
 unfold Bg at h;cases hi:ks[i]? with
 | some k =>
  cases hj:ks[j]? with
  | some k' =>
   rw[hi,hj] at h;dsimp only at h;subst h;exact(List.getElem?_inj (aq.1 hi).1 hd).1 (by rw[hi,hj])
  | none =>
   rw[hi,hj] at h;have:=b k (ar hi);dsimp only at h;omega
 | none =>
  have c:=List.getElem?_eq_none_iff.1 hi;cases hj:ks[j]? with
  | some k' =>
   rw[hi,hj] at h;have:=b k' (ar hj);dsimp only at h;omega
  | none =>
   have e:=List.getElem?_eq_none_iff.1 hj;rw[hi,hj] at h;dsimp only at h;omega
theorem Ct {m:List (Nat × Nat)}{out:Nat->Nat}(j:∀i,i < V1.n->(look i m).getD i=out i/\out i < V'.n/\V'.b (out i)=V1.b i/\V'.s (out i)=V1.s i)(h:CRep I V1 g x):CRep I V' (M5 m g) x:=by
 cases g with
 | ptr k o=>obtain⟨c,e,f,-⟩:=j k h.1;exact⟨by rw[c];exact e,by rw[c,f];exact h.2⟩
 | osl k=>obtain⟨c,e,-,f⟩:=j k h.1;exact⟨by rw[c];exact e,by rw[c,f];exact h.2⟩
 | osv k sz lo hi=>obtain⟨c,e,-,f⟩:=j k h.1;exact⟨by rw[c];exact e,by rw[c,f];exact h.2⟩
 | mp k=>obtain⟨c,e,f,-⟩:=j k h.1;exact⟨by rw[c];exact e,by rw[c,f];exact h.2⟩
 | _=>exact h
theorem Ti {m:List (Nat × Nat)}{out:Nat->Nat}(p:∀i,i < V1.n->(look i m).getD i=out i/\out i < V'.n/\V'.b (out i)=V1.b i/\V'.s (out i)=V1.s i){l:List G}{c:List Value}(h:PW (CRep I V1) l c):PW (CRep I V') (l.map (M5 m)) c :=
 ⟨by simpa using h.1,λj g u e z=>by rw[ax] at e;obtain⟨g0,f,q⟩:=bg.1 e;subst q;exact Ct p (h.2 j g0 u f z)⟩
theorem Be {m:List (Nat × Nat)}{out:Nat->Nat}(j:∀i,i < V1.n->(look i m).getD i=out i/\out i < V'.n/\V'.b (out i)=V1.b i/\V'.s (out i)=V1.s i)(h:TRep1 I V1 g x):TRep1 I V' (Z1b m g) x:=by
 cases g with
 | oag l =>
  obtain⟨cs,e,h⟩:=h;exact⟨cs,e,Ti j h⟩
 | clo f a c =>
  obtain⟨D,E,cs,e,p,z⟩:=h;refine⟨?_,E,cs,e,Ti j p,Ti j z⟩;obtain⟨g,J,A⟩:=D;have B:C8 (M5 m g)=false:=by cases g<;>first | rfl | cases A
  exact⟨M5 m g,J.imp (λh=>bi.2 ⟨g,h,rfl⟩) (λh=>bi.2 ⟨g,h,rfl⟩),B⟩
 | oel k i sz off =>
  obtain⟨A,h⟩:=h;obtain⟨p,z,-,C⟩:=j k A;exact⟨by rw[p];exact z,by rw[p,C];exact h⟩
 | orv k i sz off len cap =>
  obtain⟨A,b,q,F,h⟩:=h;obtain⟨p,z,H,C⟩:=j k A;exact⟨by rw[p];exact z,b,q,F.of (by rw[p];exact H) (by rw[p];exact C),h⟩
 | elp row off=>exact h
 | tup l=>exact h.elim
 | ptr k o=>exact Ct (I:=I) (m:=m) (g:=.ptr k o) j h
 | osl k=>exact Ct (I:=I) (m:=m) (g:=.osl k) j h
 | osv k a b c=>exact Ct (I:=I) (m:=m) (g:=.osv k a b c) j h
 | mp k=>exact Ct (I:=I) (m:=m) (g:=.mp k) j h
 | v y=>exact Ct (I:=I) (m:=m) (g:=.v y) j h
 | tt=>exact Ct (I:=I) (m:=m) (g:=.tt) j h
 | ff=>exact Ct (I:=I) (m:=m) (g:=.ff) j h
 | un=>exact Ct (I:=I) (m:=m) (g:=.un) j h
 | nl=>exact Ct (I:=I) (m:=m) (g:=.nl) j h
 | agg l=>exact Ct (I:=I) (m:=m) (g:=.agg l) j h
 | sl l=>exact Ct (I:=I) (m:=m) (g:=.sl l) j h
theorem Z4b {m:List (Nat × Nat)}{out:Nat->Nat}(p:∀i,i < V1.n->(look i m).getD i=out i/\out i < V'.n/\V'.b (out i)=V1.b i/\V'.s (out i)=V1.s i)(h:TRep I V1 g x):TRep I V' (Qp m g) x:=by
 cases g with
 | tup l =>
  obtain⟨cs,e,h⟩:=h;exact⟨cs,e,by simpa using h.1,λj g u q B=>by rw[ax] at q;obtain⟨g0,z,A⟩:=bg.1 q;subst A;exact Be p (h.2 j g0 u z B)⟩
 | oag l=>exact .of_1 (Be (I:=I) (m:=m) (g:=.oag l) p h)
 | clo f a c=>exact .of_1 (Be (I:=I) (m:=m) (g:=.clo f a c) p h)
 | oel k i sz off=>exact .of_1 (Be (I:=I) (m:=m) (g:=.oel k i sz off) p h)
 | orv k i sz off l c=>exact .of_1 (Be (I:=I) (m:=m) (g:=.orv k i sz off l c) p h)
 | elp row off=>exact .of_1 (Be (I:=I) (m:=m) (g:=.elp row off) p h)
 | ptr k o=>exact .of_1 (Be (I:=I) (m:=m) (g:=.ptr k o) p h)
 | osl k=>exact .of_1 (Be (I:=I) (m:=m) (g:=.osl k) p h)
 | osv k a b c=>exact .of_1 (Be (I:=I) (m:=m) (g:=.osv k a b c) p h)
 | mp k=>exact .of_1 (Be (I:=I) (m:=m) (g:=.mp k) p h)
 | v y=>exact .of_1 (Be (I:=I) (m:=m) (g:=.v y) p h)
 | tt=>exact .of_1 (Be (I:=I) (m:=m) (g:=.tt) p h)
 | ff=>exact .of_1 (Be (I:=I) (m:=m) (g:=.ff) p h)
 | un=>exact .of_1 (Be (I:=I) (m:=m) (g:=.un) p h)
 | nl=>exact .of_1 (Be (I:=I) (m:=m) (g:=.nl) p h)
 | agg l=>exact .of_1 (Be (I:=I) (m:=m) (g:=.agg l) p h)
 | sl l=>exact .of_1 (Be (I:=I) (m:=m) (g:=.sl l) p h)
theorem Vw (hH:Has I V own w)(hd:ks.Nodup)(hl:rs.length=ks.length)(hr:∀(i k:Nat),ks[i]?=some k->∃r r',rs[i]?=some r'/\look k own=some r)
  {C:List R} (hn:V1.n=C.length) (h1:Has I' V1 (Ep C 0) w') (T:Fro (Ep rs 0) I (V.lend ks) w (Ep C 0) I' V1 w') (hV:(V.lend ks).le V1) :
  Later own I V w (P4 (Rb ks V.n C 0) C ks own V.n) I' (V.back ks V1) w'/\∀g x,TRep I' V1 g x->TRep I' (V.back ks V1) (Qp (Rb ks V.n C 0) g) x:=by
 have hkn:∀k∈ks,k < V.n:=λk A=>by obtain⟨i,Y,e⟩:=cq.1 A;obtain⟨r,-,-,q⟩:=hr i k (by rw[ap Y,e]);exact hH.num k r q
 have hge:ks.length<=C.length:=by rw[<-hn];exact hV.1
 have E:∀i,i < V1.n->(look i (Rb ks V.n C 0)).getD i=Bg ks V.n i/\Bg ks V.n i < (V.back ks V1).n/\(V.back ks V1).b (Bg ks V.n i)=V1.b i/\(V.back ks V1).s (Bg ks V.n i)=V1.s i:=λi Y=>by
  refine⟨by rw[Ll,dp ⟨by omega,by omega⟩];simp,?_⟩;cases A:ks[i]? with
  | some k =>
   have hlt:=hkn k (ar A);have U:=(aq.1 A).1;have q:=hV.2 i U;rw[Ba A];refine⟨by show k < V.n+_;omega,?_,?_⟩
   .show(if k < V.n then V.b k else _)=_;rw[dp hlt,q.1];simp[Va.lend,Ba A]
   .show(if k < V.n then V.s k else _)=_;rw[dp hlt,q.2];simp[Va.lend,Ba A]
  | none =>
   have hi2:=List.getElem?_eq_none_iff.1 A;have e:Bg ks V.n i=V.n+(i - ks.length):=by simp[Bg,A]
   rw[e];have e2:ks.length+(V.n+(i - ks.length) - V.n)=i:=by omega
   refine⟨by show _ < V.n+_;omega,?_,?_⟩
   .show(if _ < V.n then _ else _)=_;rw[dn (by omega),e2]
   .show(if _ < V.n then _ else _)=_;rw[dn (by omega),e2]
 have W:∀i,i < V1.n->(V.back ks V1).f (Bg ks V.n i)=V1.f i:=λi Y=>by
  funext b;apply propext;constructor
  .rintro(⟨j,hj,e,H⟩ | ⟨h,-⟩)
   .have:=W3 hd hkn e;subst this;exact H
   .exact dq rfl (h i Y)
  .exact λH=>.inl ⟨i,Y,rfl,H⟩
 have X:∀k,(∀i,i < V1.n->Bg ks V.n i≠k)->(V.back ks V1).f k=V.f k:=λk A=>by
  funext b;apply propext;constructor
  .rintro(⟨j,hj,e,-⟩ | ⟨-,H⟩)
   .exact dq e (A j hj)
   .exact H
  .exact λH=>.inr ⟨A,H⟩
 have hle:V.le (V.back ks V1):=⟨Nat.le_add_right _ _,λk A=>⟨dp A,dp A⟩⟩;have lent:∀j r b,look j (Ep rs 0)=some r->(V.lend ks).f j b->∃k r,ks[j]?=some k/\look k own=some r/\V.f k b:=λj r b h H=>by
  rw[Bf] at h;have hj:=(aq.1 h).1;have hj':j < ks.length:=by omega
  obtain⟨L,r',k1,k2⟩:=hr j ks[j] (ap hj');refine⟨_,L,ap hj',k2,?_⟩;have:=Ba (n:=0) (ap hj':ks[j]?=some ks[j]);simpa [Va.lend,this] using H
 have hnl:∀k r,look k own=some r->(∀i,i < V1.n->Bg ks V.n i≠k)->∀b,V.f k b->∀j r',look j (Ep rs 0)=some r'->¬(V.lend ks).f j b:=λk r A hno b B j r' hj H=>by obtain⟨k',r2,q,F,Z⟩:=lent j r' b hj H;have:=hH.disj k k' r r2 b A F B Z;subst this;have hj':=(aq.1 q).1;exact hno j (by omega) (Ba q)
 have z:∀k,(∀i,i < C.length->Bg ks V.n i≠k)->∀i,i < V1.n->Bg ks V.n i≠k:=λk h i Y=>h i (by omega);refine⟨⟨⟨h1.mem,λk r A=>?_,λk r A=>?_,λk r b A B=>?_,λk k' r r' b A hk' B J=>?_⟩,⟨T.os,T.tape,T.output,T.size,λb B hn=>T.blk b B λj r hj H=>?_,T.mono,λk r b A B hlt=>?_⟩,hle⟩,λg x h=>Z4b E h⟩
 .rcases Cl A with⟨i,L,e,q,-⟩ | ⟨q,F⟩
  .have Y:=(aq.1 q).1;rw[<-e];exact(E i (by omega)).2.1
  .exact bc (hH.num k r F) hle.1
 .rcases Cl A with⟨i,L,e,q,rfl⟩ | ⟨q,F⟩
  .have Y:=(aq.1 q).1;have U:i < V1.n:=by omega
   have c:=h1.each i L (by rw[Bf];exact q);obtain⟨-,o1,O,o3⟩:=E i U;have M:=W i U;rw[<-e];cases L with
   | blk cs t =>
    obtain⟨q1,us,q2,q3⟩:=c;exact⟨λb=>by rw[M,O];exact q1 b,us,by rw[O];exact q2,Ti E q3⟩
   | slc rows ty sz=>exact⟨λb=>by rw[M,o3];exact c.1 b,by rw[o3];exact c.2⟩
   | vw rows ty sz=>exact⟨λb=>by rw[M,o3];exact c.1 b,by rw[o3];exact c.2⟩
   | froz rows sz=>exact⟨λb=>by rw[M];exact c.1 b,by rw[o3];exact c.2.1,c.2.2⟩
   | gone=>exact λb=>by rw[M];exact c b
   | mpI l=>exact⟨λb=>by rw[M,O];exact c.1 b,by rw[O];exact c.2⟩
   | mpS l=>exact⟨λb=>by rw[M,O];exact c.1 b,by rw[O];exact c.2⟩
   | sit s pos=>exact⟨λb=>by rw[M,O];exact c.1 b,by rw[O];exact c.2⟩
   | mpX l m ob=>exact⟨λb=>by rw[M,O];exact c.1 b,by rw[O];exact c.2⟩
   | mit j l D last m ob=>exact⟨λb=>by rw[M,O];exact c.1 b,by rw[O];exact c.2⟩
   | abs p=>exact⟨c.1,by rw[M,O];exact c.2⟩
   | lnk j =>
    obtain⟨q1,q2,m0,q3⟩:=c;obtain⟨u1,u2,-,u4⟩:=E j q2;exact⟨λb=>by rw[M];exact q1 b,by rw[u1];exact u2,m0,by rw[u1,u4,O];exact q3⟩
   | adr j b =>
    obtain⟨q1,q2,q3⟩:=c;obtain⟨u1,u2,u3,-⟩:=E j q2;exact⟨λb=>by rw[M];exact q1 b,by rw[u1];exact u2,by rw[u1,u3];exact q3⟩
   | fam ps=>exact⟨c.1,by rw[M];exact c.2⟩
  .exact(hH.each k r F).keep T.mono hle (hH.num k r F) (X k (z k q)) T.os T.size λb B=>(T.blk b (hH.foot k r b F B).1 (hnl k r F (z k q) b B)).1
 .rcases Cl A with⟨i,L,e,q,rfl⟩ | ⟨q,F⟩
  .have Y:=(aq.1 q).1;rw[<-e,W i (by omega)] at B;exact h1.foot i L b (by rw[Bf];exact q) B
  .rw[X k (z k q)] at B;have Z:=hH.foot k r b F B;exact⟨bc Z.1 T.size,λo=>((T.blk b Z.1 (hnl k r F (z k q) b B)).2 o).trans (Z.2 o)⟩
 .have cross:∀i L k r,i < V1.n->C[i]?=some L->V1.f i b->look k own=some r->(∀i,i < V1.n->Bg ks V.n i≠k)->V.f k b->False:=λi L k r Y q H A hno B=>by
   have Z:=(hH.foot k r b A B).1;obtain⟨j,r',hj,hf'⟩:=T.foot i L b (by rw[Bf];exact q) H Z;exact hnl k r A hno b B j r' hj hf'
  rcases Cl A with⟨i,L,e,q,-⟩ | ⟨q,F⟩
  .have Y:=(aq.1 q).1;rw[<-e,W i (by omega)] at B;rcases Cl hk' with⟨i',r0',e',h2',-⟩ | ⟨h2',h3'⟩
   .have U:=(aq.1 h2').1;rw[<-e',W i' (by omega)] at J;rw[<-e,<-e',h1.disj i i' L r0' b (by rw[Bf];exact q) (by rw[Bf];exact h2') B J]
   .rw[X k' (z k' h2')] at J;exact(cross i L k' r' (by omega) q B h3' (z k' h2') J).elim
  .rw[X k (z k q)] at B;rcases Cl hk' with⟨i',r0',e',h2',-⟩ | ⟨h2',h3'⟩
   .have U:=(aq.1 h2').1;rw[<-e',W i' (by omega)] at J;exact(cross i' r0' k r (by omega) h2' J F (z k q) B).elim
   .rw[X k' (z k' h2')] at J;exact hH.disj k k' r r' b F h3' B J
 .obtain⟨k,r2,-,F,Z⟩:=lent j r b hj H;exact hn k r2 F Z
 .rcases Cl A with⟨i,L,e,q,-⟩ | ⟨q,F⟩
  .have Y:=(aq.1 q).1;rw[<-e,W i (by omega)] at B;obtain⟨j,r',hj,H⟩:=T.foot i L b (by rw[Bf];exact q) B hlt;obtain⟨k',r2,-,Z,h5⟩:=lent j r' b hj H;exact⟨k',r2,Z,h5⟩
  .rw[X k (z k q)] at B;exact⟨k,r,F,B⟩
end
def ren (m:List (Nat × Nat))(k:Nat):Nat:=(look k m).getD k
def Va.ren (V:Va)(m:List (Nat × Nat))(n:Nat):Va:=⟨n,λk=>V.b (Go.Proofs.YtmmdikhljefeiaaGreat.ren m k),λk=>V.s (Go.Proofs.YtmmdikhljefeiaaGreat.ren m k),λk=>V.f (Go.Proofs.YtmmdikhljefeiaaGreat.ren m k)⟩
theorem R2:∀{l:List Nat} {k:Nat},Fd k l=true↔k∈l
 | [],k=>by simp[Fd]
 | j::l,k=>by
  unfold Fd;have c:=R2 (l:=l) (k:=k);by_cases h:k=j
  .subst h;simp[Nat.beq_refl]
  .have b:Nat.beq k j=false:=by
    cases hb:Nat.beq k j with
    | false=>rfl
    | true=>exact dq (aw hb) h
   simp[b,c,h]
section
variable {P:Program} {tb:List (Nat × TI)} {N n:Nat} {I I' I0:Imm} {V V' V0 V2:Va} {a:Act} {t t':Ts} {own own' own0:Os} {w w' w0:World} {g:G} {x y:Value} {d:Option Tmp} {m:List (Nat × Nat)} {r:R}
theorem Z25 (b:Rz n g=true)(h:CRep I V (M5 m g) x):CRep I (V.ren m n) g x:=by
 cases g with
 | ptr k o=>exact⟨bc (dm b) (au _),h.2⟩
 | osl k=>exact⟨bc (dm b) (au _),h.2⟩
 | osv k sz lo hi=>exact⟨bc (dm b) (au _),h.2⟩
 | mp k=>exact⟨bc (dm b) (au _),h.2⟩
 | oel k i s o=>exact h
 | _=>exact h
theorem Zbf {cs:List G}{b:List Value}(f:Bp (Rz n) cs=true)(h:PW (CRep I V) (cs.map (M5 m)) b):PW (CRep I (V.ren m n)) cs b :=
 ⟨by have:=h.1;simpa using this,λj g u c e=>Z25 (Ai f g (ar c)) (h.2 j _ u (by rw[ax,c];rfl) e)⟩
theorem Z2t {m:List (Nat × Nat)}{k:Nat}(e:Yi n r=true)(h:RRep I V (ren m k) w (Kn m r)):RRep I (V.ren m n) k w r:=by
 cases r with
 | blk cs ty =>
  obtain⟨c,p,l,f⟩:=h;exact⟨c,p,l,Zbf e f⟩
 | lnk j=>cases e
 | adr j b =>
  obtain⟨c,l,f⟩:=h;exact⟨c,dm e,f⟩
 | _=>exact h
theorem G8:∀{T:Os},leI m own n T->∀{i r},look i T=some r->i < n/\Yi n r=true/\look (ren m i) own=some (Kn m r)
 | [],_,i,g,h=>by cases h
 | (j,g')::T,hT,i,g,h=>by
  rw[Ac] at h;split at h
  .next e=>subst e;cases h;exact⟨dm hT.1.1,hT.1.2⟩
  .exact G8 hT.2 h
theorem Qv {α:Type}{k:Nat}{x:α}:∀{l:List (Nat × α)},look k l=some x->(k,x)∈l
 | [],h=>by cases h
 | (j,y)::l,h=>by
  rw[Ac] at h;split at h
  .next e=>subst e;cases h;simp
  .exact List.mem_cons_of_mem _ (Qv h)
theorem Rq:∀{l:Os},Rf (l.map λp=>ren m p.1)=true->∀{k b r r'},look k l=some r->look b l=some r'->ren m k=ren m b->k=b
 | [],_,k,b,r,r',h,_,_=>by cases h
 | (j,q)::l,hn,k,b,r,r',h,h',e=>by
  simp only[List.map_cons,Rf] at hn;cases hm:Fd (ren m j) (l.map λp=>ren m p.1) with
  | true=>rw[hm] at hn;cases hn
  | false =>
   rw[hm] at hn;have c:∀k r,look k l=some r->ren m k≠ren m j:=λk r z A=>by have:ren m j∈l.map λp=>ren m p.1:=bi.2 ⟨(k,r),Qv z,A⟩;rw[R2.2 this] at hm;cases hm
   rw[Ac] at h h';split at h<;>split at h'
   .next s f=>rw[s,f]
   .next s f=>exact dq (e ▸ s ▸ rfl:ren m b=ren m j) (c _ _ h')
   .next s f=>exact dq (e.trans (by rw[f])) (c _ _ h)
   .exact Rq hn h h' e
theorem Z1h (l:Rz n g=true)(e:n<=V2.n)(f:∀j,j < n->V2.b j=V.b j/\V2.s j=V.s j)(h:CRep I V g x):CRep I V2 g x:=by
 cases g with
 | ptr k o=>have:=dm l;exact⟨bc this e,by rw[(f k this).1];exact h.2⟩
 | mp k=>have:=dm l;exact⟨bc this e,by rw[(f k this).1];exact h.2⟩
 | osl k=>have:=dm l;exact⟨bc this e,by rw[(f k this).2];exact h.2⟩
 | osv k a b c=>have:=dm l;exact⟨bc this e,by rw[(f k this).2];exact h.2⟩
 | _=>exact h
theorem RRep.val (E:Yi n r=true)(J:n<=V2.n)(C:∀j,j < n->V2.b j=V.b j/\V2.s j=V.s j){k:Nat}(B:k < n)(q:V2.f k=V.f k)(h:RRep I V k w r):RRep I V2 k w r:=by
 have z:=(C k B).1;have A:=(C k B).2;cases r with
 | blk cs t =>
  obtain⟨O,M,T,H⟩:=h;exact⟨λb=>by rw[q,z];exact O b,M,by rw[z];exact T,H.1,λj g u L U=>Z1h (Ai (show Bp (Rz n) cs=true from E) g (ar L)) J C (H.2 j g u L U)⟩
 | slc rows e sz=>exact⟨λb=>by rw[q,A];exact h.1 b,by rw[A];exact h.2⟩
 | vw rows e sz=>exact⟨λb=>by rw[q,A];exact h.1 b,by rw[A];exact h.2⟩
 | froz rows sz=>exact⟨λb=>by rw[q];exact h.1 b,by rw[A];exact h.2.1,h.2.2⟩
 | gone=>exact λb=>by rw[q];exact h b
 | mpI l=>exact⟨λb=>by rw[q,z];exact h.1 b,by rw[z];exact h.2⟩
 | mpS l=>exact⟨λb=>by rw[q,z];exact h.1 b,by rw[z];exact h.2⟩
 | sit s pos=>exact⟨λb=>by rw[q,z];exact h.1 b,by rw[z];exact h.2⟩
 | mpX l m ob=>exact⟨λb=>by rw[q,z];exact h.1 b,by rw[z];exact h.2⟩
 | mit j l D last m ob=>exact⟨λb=>by rw[q,z];exact h.1 b,by rw[z];exact h.2⟩
 | abs p=>exact⟨h.1,by rw[q,z];exact h.2⟩
 | lnk j=>cases E
 | adr j b =>
  have F:=dm (show Nat.blt j n=true from E);exact⟨λc=>by rw[q];exact h.1 c,bc F J,by rw[(C j F).1];exact h.2.2⟩
 | fam ps=>exact⟨h.1,by rw[q];exact h.2⟩
theorem Z9m (O:Os):Loc (cl O):=λI I' b S w w' ⟨V,h1,h2,h3⟩ hI hos hs hb=>by have h:∀k r,look k O=some r->∀c,V.f k c->w'.heap[c]?=w.heap[c]?:=λk r e c j=>hb c ((h3 c).2 ⟨k,r,e,j⟩);exact⟨V,h1,⟨h2.num,λk r e=>(h2.each k r e).keep hI (.refl _) (h2.num k r e) rfl hos hs (h k r e),λk r c e j=>bc (h2.lt k r c e j) hs,h2.disj⟩,h3⟩
theorem Wj (h:Has I V own w)(hr:RRep I (V.push 0 undef λ_=>False) V.n w r):Later own I V w ((V.n,r)::own) I (V.push 0 undef λ_=>False) w :=
 D2 h (ab _ _) 0 undef (λ_=>False) (λ_ h=>h.elim) hr
theorem Zg (h:Has I V own w){k:Nat}(f:look k own=some r):Later own I V w ((V.n,.adr k (V.b k))::own) I (V.push 0 undef λ_=>False) w:=by have e:=h.num k r f;exact Wj h ⟨λc j=>by simp[Va.push] at j,by show k < V.n+1;omega,by simp[Va.push,Nat.ne_of_lt e]⟩
theorem Ie (h:Has I V own w){g0:G}{u:Value}(b:CRep I V g0 u):CRep I V (D4 own g0) u:=by
 cases g0 with
 | osl i =>
  cases hl:look i own with
  | none=>simp only[D4,hl];exact b
  | some r =>
   cases r with
   | froz rows sz =>
    simp only[D4,hl];obtain⟨-,rfl⟩:=(show i < V.n/\u=V.s i from b);exact(h.each i _ hl).2.1
   | _=>simp only[D4,hl];exact b
 | osv i sz lo hi =>
  cases hl:look i own with
  | none=>simp only[D4,hl];exact b
  | some r =>
   cases r with
   | froz rows sz' =>
    simp only[D4,hl];cases c:Nat.beq sz sz' with
    | false=>exact b
    | true =>
     have c:=aw c;subst c;obtain⟨-,⟨l,p⟩,rfl⟩:=(show i < V.n/\(lo<=hi/\hi<=Mb (V.s i))/\u=K0 sz (V.s i) lo hi from b);obtain⟨-,e,f⟩:=h.each i _ hl;have j:Mb (V.s i)=rows.length:=by generalize V.s i=z at e;cases e;rfl
     exact Ux e f l (by omega)
   | _=>simp only[D4,hl];exact b
 | tt=>cases(show VRep I .tt u from b);exact .v _
 | ff=>cases(show VRep I .ff u from b);exact .v _
 | _=>exact b
theorem Wv (h:Has I V own w){k:Nat}{cs:List G}{ty:Nat}(b:look k own=some (.blk cs ty)):Later own I V w ((k,.blk (cs.map (D4 own)) ty)::own) I V w:=by refine D7 h b rfl rfl rfl rfl (λ_ _=>rfl) ?_;obtain⟨f,l,p,c⟩:=h.each k _ b;refine⟨f,l,p,by simpa using c.1,λj g u e s=>?_⟩;rw[ax] at e;obtain⟨g0,q,rfl⟩:=bg.1 e;exact Ie h (c.2 j g0 u q s)
theorem W1 {n:Nat}{K:Os->Nat->Prop}(p:Gh K own n):∀{V:Va},V.n=n->Has I V own w->∃own' I' V',K own' V'.n/\Later own I V w own' I' V' w:=by
 induction p generalizing I with
 | done hk=>exact λ{V} f h=>⟨_,I,V,by rw[f];exact hk,.refl h⟩
 | adr k r hk _ ih =>
  intro V f h;subst f;have c:=Zg h hk;obtain⟨o,I',V',j,l⟩:=ih (V.b k) (V:=V.push 0 undef λ_=>False) rfl c.has;exact⟨o,I',V',j,c.trans l⟩
 | frz k rows e sz hk _ ih =>
  intro V f h;subst f;obtain⟨q,c,-,-⟩:=Jk h hk;obtain⟨o,I',V',j,l⟩:=ih (V:=V.drop k) rfl c.has;exact⟨o,I',V',j,c.trans l⟩
 | seen k cs ty hk _ ih =>
  intro V f h;subst f;have c:=Wv h hk;obtain⟨o,I',V',j,l⟩:=ih (V:=V) rfl c.has;exact⟨o,I',V',j,c.trans l⟩
end
def inC (k:Nat):G->Prop
 | .ptr j _ | .osl j | .osv j _ _ _ | .oel j _ _ _ | .mp j=>j=k
 | _=>False
def in1 (k:Nat):G->Prop
 | .oag l=>∃g∈l,inC k g
 | .clo _ a c=>∃g,(g∈a\/g∈c)/\inC k g
 | g=>inC k g
def Gath (F:List Nat->(List Nat->Prop)->Prop)(p:Nat->Prop):Prop:=∀l:List Nat,∃b:List Nat,(∀K:List Nat->Prop,F l K=K b)/\(∀j,j∈l->j∈b)/\(∀j,p j->j∈b)/\(l.Nodup->b.Nodup)
theorem Gath.none:Gath (λl K=>K l) (λ_=>False):=λl=>⟨l,λ_=>rfl,λ_ h=>h,λ_ h=>h.elim,λh=>h⟩
theorem Gath.seq {F c:List Nat->(List Nat->Prop)->Prop}{p e:Nat->Prop}(h:Gath F p)(D:Gath c e):Gath (λl K=>F l λl=>c l K) (λj=>p j\/e j):=λl=>by obtain⟨z,C,A,q,s⟩:=h l;obtain⟨H,J,f,L,E⟩:=D z;exact⟨H,λK=>(C _).trans (J K),λj b=>f j (A j b),λj b=>b.elim (λh=>f j (q j h)) (λh=>L j h),λB=>E (s B)⟩
theorem Gath.sub {F:List Nat->(List Nat->Prop)->Prop}{p b:Nat->Prop}(h:Gath F p)(f:∀j,b j->p j):Gath F b:=λl=>by obtain⟨s,q,A,c,e⟩:=h l;exact⟨s,q,A,λj z=>c j (f j z),e⟩
theorem Gv (k:Nat):Gath (λl K=>H9 k l K) (λj=>j=k):=λl=>by
 induction l with
 | nil=>exact⟨[k],λ_=>rfl,λj h=>by simp at h,λj h=>by simp[h],λ_=>by simp⟩
 | cons i l ih =>
  obtain⟨c,p,z,C,A⟩:=ih;have f:∀j,j∈c->j∈l\/j=k:=by
   have:∀(l:List Nat) (c:List Nat),(∀K:List Nat->Prop,H9 k l K=K c)->∀j,j∈c->j∈l\/j=k:=λl=>by
    induction l with
    | nil=>intro c h j b;have e:=h (λr=>r=[k]);simp[H9] at e;rw[e] at b;exact .inr (by simpa using b)
    | cons i l ih =>
     intro c h j b;cases hb:Nat.beq k i with
     | true =>
      have e:=h (λr=>r=i::l);unfold H9 at e;rw[hb] at e;simp at e;rw[e] at b;exact .inl b
     | false =>
      have e:∃r,c=i::r/\∀K:List Nat->Prop,H9 k l K=K r:=by
       have key:∀l:List Nat,∃r,∀K:List Nat->Prop,H9 k l K=K r:=λl=>by
        induction l with
        | nil=>exact⟨[k],λ_=>rfl⟩
        | cons i l ih =>
         obtain⟨r,hr⟩:=ih;cases hb:Nat.beq k i with
         | true=>exact⟨i::l,λK=>by unfold H9;rw[hb]⟩
         | false=>exact⟨i::r,λK=>by unfold H9;rw[hb];exact hr _⟩
       obtain⟨r,hr⟩:=key l;refine⟨r,?_,hr⟩;have e:=h (λq=>q=i::r);unfold H9 at e;rw[hb] at e;dsimp only at e;rw[hr] at e;simp at e;exact e
      obtain⟨r,rfl,hr⟩:=e;rcases bo.1 b with rfl | b
      .exact .inl (by simp)
      .exact(ih r hr j b).imp (λh=>by simp[h]) id
   exact this l c p
  cases hb:Nat.beq k i with
  | true =>
   have:=aw hb;subst this;exact⟨k::l,λK=>by show H9 k (k::l) K=_;unfold H9;rw[hb],λj b=>b,λj b=>by simp[b],λh=>h⟩
  | false =>
   refine⟨i::c,λK=>by show H9 k (i::l) K=_;unfold H9;rw[hb];exact p _,λj b=>?_,λj b=>by simp[C j b],λh=>?_⟩
   .rcases bo.1 b with rfl | b
    .simp
    .simp[z j b]
   .have s:=List.nodup_cons.1 h;refine List.nodup_cons.2 ⟨λB=>?_,A s.2⟩;rcases f i B with h | h
    .exact s.1 h
    .subst h;rw[Nat.beq_refl] at hb;cases hb
theorem Mk (g:G):Gath (λl K=>gkC g l K) (λj=>inC j g):=by
 cases g with
 | ptr k o=>exact(Gv k).sub λj h=>Eq.symm h
 | osl k=>exact(Gv k).sub λj h=>Eq.symm h
 | osv k a b c=>exact(Gv k).sub λj h=>Eq.symm h
 | oel k a b c=>exact(Gv k).sub λj h=>Eq.symm h
 | mp k=>exact(Gv k).sub λj h=>Eq.symm h
 | _=>exact Gath.none.sub λj h=>h
theorem Ku:∀l:List G,Gath (λks K=>Z7s l ks K) (λj=>∃g∈l,inC j g)
 | []=>Gath.none.sub λj h=>by simp at h
 | g::l=>((Mk g).seq (Ku l)).sub λj ⟨b,h,hk⟩=>by
  rcases bo.1 h with rfl | h
  .exact .inl hk
  .exact .inr ⟨b,h,hk⟩
theorem Zac (g:G):Gath (λl K=>gk1 g l K) (λj=>in1 j g):=by
 cases g with
 | oag l=>exact Ku l
 | clo f a c=>exact((Ku a).seq (Ku c)).sub λj ⟨g,h,hk⟩=>h.imp (λh=>⟨g,h,hk⟩) (λh=>⟨g,h,hk⟩)
 | ptr k o=>exact Mk (.ptr k o)
 | osl k=>exact Mk (.osl k)
 | osv k a b c=>exact Mk (.osv k a b c)
 | oel k a b c=>exact Mk (.oel k a b c)
 | mp k=>exact Mk (.mp k)
 | _=>exact Gath.none.sub λj h=>h
theorem Z63:∀l:List G,Gath (λks K=>gkL l ks K) (λj=>∃g∈l,in1 j g)
 | []=>Gath.none.sub λj h=>by simp at h
 | g::l=>((Zac g).seq (Z63 l)).sub λj ⟨b,h,hk⟩=>by
  rcases bo.1 h with rfl | h
  .exact .inl hk
  .exact .inr ⟨b,h,hk⟩
theorem Ib {k:Nat}:∀{ks:List Nat} {j:Nat},k∈ks->∃i,look k (Ik ks j)=some (j+i)/\ks[i]?=some k
 | [],_,h=>by simp at h
 | k0::ks,j,h=>by
  unfold Ik;rw[Ac];by_cases e:k=k0
  .subst e;exact⟨0,by simp,rfl⟩
  .rw[dn e];obtain⟨i,b,c⟩:=Ib (ks:=ks) (j:=j+1) ((bo.1 h).resolve_left e);exact⟨i+1,by rw[b];congr 1;omega,by simpa using c⟩
theorem Qk (own:Os):∀l:List Nat,Gath (λb K=>Ov own l b K) (λ_=>False)
 | []=>Gath.none
 | k::l=>λb=>by
  have c:=Qk own l;show ∃e:List Nat,(∀K:List Nat->Prop,Ov own (k::l) b K=K e)/\_;unfold Ov;split
  .exact(((Ku _).seq c).sub λj h=>h.elim) b
  .exact c b
theorem Xz (own:Os):∀n:Nat,Gath (λks K=>trK own n ks K) (λ_=>False)
 | 0=>Gath.none
 | n+1=>λks=>by obtain⟨e,c,l,-,b⟩:=Qk own ks ks;obtain⟨p,q,s,-,f⟩:=Xz own n e;exact⟨p,λK=>(c _).trans (q K),λj h=>s j (l j h),λj h=>h.elim,λh=>f (b h)⟩
theorem Wu {ks:List Nat}{r:R}(h:Ko r=true):Z1c ks r=true:=by
 cases r with
 | lnk j=>cases h
 | adr j b=>cases h
 | blk cs t =>
  have key:∀{l:List G},Bp C8 l=true->Bp (Zbr ks) l=true:=λ{l}=>by
   induction l with
   | nil=>intro _;rfl
   | cons g l ih =>
    intro h;unfold Bp at h⊢;cases hg:C8 g with
    | false=>rw[hg] at h;cases h
    | true =>
     rw[hg] at h;have:Zbr ks g=true:=by cases g<;>first | rfl | cases hg
     rw[this];exact ih h
  exact key (show Bp C8 cs=true from h)
 | _=>rfl
theorem Z5h {own:Os}{b:List Nat}:∀{ks:List Nat} {K:List R->Prop},rsK own b ks K->∃rs:List R,K rs/\rs.length=ks.length/\∀(i k:Nat),ks[i]?=some k->∃r,rs[i]?=some (Kn (Ik b 0) r)/\look k own=some r/\Z1c b r=true
 | [],K,h=>⟨[],h,rfl,λi k h=>by simp at h⟩
 | k::ks,K,h=>by
  unfold rsK at h;cases hr:look k own with
  | none=>rw[hr] at h;exact h.elim
  | some r =>
   rw[hr] at h;dsimp only at h;have key:Z1c b r=true->rsK own b ks (λrs=>K (Kn (Ik b 0) r::rs))->∃rs:List R,K rs/\rs.length=(k::ks).length/\∀(i e:Nat),(k::ks)[i]?=some e->∃r,rs[i]?=some (Kn (Ik b 0) r)/\look e own=some r/\Z1c b r=true:=λc h=>by
    obtain⟨rs,j,l,p⟩:=Z5h h;refine⟨_,j,by simp[l],λi e f=>?_⟩;cases i with
    | zero=>simp at f;subst f;exact⟨r,rfl,hr,c⟩
    | succ i=>simpa using p i e (by simpa using f)
   cases hn:Ko r with
   | true =>
    rw[hn] at h;exact key (Wu hn) (by rw[J5 hn];exact h)
   | false =>
    rw[hn] at h;dsimp only at h;cases c:Z1c b r with
    | false=>rw[c] at h;exact h.elim
    | true=>rw[c] at h;exact key c h
section
variable {P:Program} {I I' I0:Imm} {V V1 V' V0:Va} {w w' w0:World} {own own0 own':Os} {k n N:Nat} {g:G} {x y:Value} {r:R} {ks:List Nat} {rs:List R} {a:Act} {t:Ts} {o:Oper}
theorem La (p:∀k,inC k g->k∈ks)(h:CRep I V g x):CRep I (V.lend ks) (M5 (Ik ks 0) g) x:=by
 have key:∀k,inC k g->∃i,(look k (Ik ks 0)).getD k=i/\i < ks.length/\(V.lend ks).b i=V.b k/\(V.lend ks).s i=V.s k:=λk q=>by obtain⟨i,e,f⟩:=Ib (j:=0) (p k q);refine⟨i,by rw[e];simp,(aq.1 f).1,?_,?_⟩<;>simp[Va.lend,Ba f]
 cases g with
 | ptr k o=>obtain⟨i,e,f,l,-⟩:=key k rfl;exact⟨by rw[e];exact f,by rw[e,l];exact h.2⟩
 | osl k=>obtain⟨i,e,f,-,l⟩:=key k rfl;exact⟨by rw[e];exact f,by rw[e,l];exact h.2⟩
 | osv k a b c=>obtain⟨i,e,f,-,l⟩:=key k rfl;exact⟨by rw[e];exact f,by rw[e,l];exact h.2⟩
 | mp k=>obtain⟨i,e,f,l,-⟩:=key k rfl;exact⟨by rw[e];exact f,by rw[e,l];exact h.2⟩
 | _=>exact h
theorem Z2o {l:List G}{e:List Value}(b:∀k g,g∈l->inC k g->k∈ks)(h:PW (CRep I V) l e):PW (CRep I (V.lend ks)) (l.map (M5 (Ik ks 0))) e :=
 ⟨by simpa using h.1,λj g u f s=>by rw[ax] at f;obtain⟨g0,c,p⟩:=bg.1 f;subst p;exact La (λk q=>b k g0 (ar c) q) (h.2 j g0 u c s)⟩
theorem RRep.lendK {j:Nat}(A:Z1c ks r=true)(h:RRep I V k w r)(z:(V.lend ks).b j=V.b k)(B:(V.lend ks).s j=V.s k)(q:(V.lend ks).f j=V.f k):RRep I (V.lend ks) j w (Kn (Ik ks 0) r):=by
 cases r with
 | blk cs t =>
  obtain⟨E,H,C,U⟩:=h;refine⟨λb=>by rw[q,z];exact E b,H,by rw[z];exact C,Z2o (λk g O F=>?_) U⟩;have T:=Ai (show Bp (Zbr ks) cs=true from A) g O;cases g<;>first | (obtain rfl:=(show _=k from F);exact C4.1 T) | exact F.elim
 | slc rows e sz=>exact⟨λb=>by rw[q,B];exact h.1 b,by rw[B];exact h.2⟩
 | vw rows e sz=>exact⟨λb=>by rw[q,B];exact h.1 b,by rw[B];exact h.2⟩
 | froz rows sz=>exact⟨λb=>by rw[q];exact h.1 b,by rw[B];exact h.2.1,h.2.2⟩
 | gone=>exact λb=>by rw[q];exact h b
 | mpI l=>exact⟨λb=>by rw[q,z];exact h.1 b,by rw[z];exact h.2⟩
 | mpS l=>exact⟨λb=>by rw[q,z];exact h.1 b,by rw[z];exact h.2⟩
 | sit s pos=>exact⟨λb=>by rw[q,z];exact h.1 b,by rw[z];exact h.2⟩
 | mpX l m ob=>exact⟨λb=>by rw[q,z];exact h.1 b,by rw[z];exact h.2⟩
 | mit i l D last m ob=>exact⟨λb=>by rw[q,z];exact h.1 b,by rw[z];exact h.2⟩
 | abs p=>exact⟨h.1,by rw[q,z];exact h.2⟩
 | lnk j=>cases A
 | adr i b =>
  obtain⟨J,W,L⟩:=h;obtain⟨M,E,C⟩:=Ib (j:=0) (C4.1 (show Fd i ks=true from A));have e:(look i (Ik ks 0)).getD i=M:=by rw[E];simp
  refine⟨λc=>by rw[q];exact J c,?_,?_⟩
  .show(look i (Ik ks 0)).getD i < (V.lend ks).n;rw[e];exact(aq.1 C).1
  .show(V.lend ks).b ((look i (Ik ks 0)).getD i)=b;rw[e];simpa [Va.lend,Ba C] using L
 | fam ps=>exact⟨h.1,by rw[q];exact h.2⟩
theorem Z1j (hH:Has I V own w)(hd:ks.Nodup)(H:rs.length=ks.length)(hr:∀(i k:Nat),ks[i]?=some k->∃r,rs[i]?=some (Kn (Ik ks 0) r)/\look k own=some r/\Z1c ks r=true):Has I (V.lend ks) (Ep rs 0) w:=by
 have key:∀i r',look i (Ep rs 0)=some r'->∃k r,ks[i]?=some k/\look k own=some r/\Z1c ks r=true/\r'=Kn (Ik ks 0) r:=λi r' h=>by
  rw[Bf] at h;have C:=(aq.1 h).1;have s:i < ks.length:=by omega
  obtain⟨r,c,e,B⟩:=hr i ks[i] (ap s);rw[h] at c;cases c;exact⟨_,r,ap s,e,B,rfl⟩
 refine⟨hH.mem,λi r h=>?_,λi r h=>?_,λi r b h j=>?_,λi F r r' b h E j l=>?_⟩
 .obtain⟨k,-,c,-⟩:=key i r h;exact(aq.1 c).1
 .obtain⟨k,p,c,e,B,rfl⟩:=key i r h;exact(hH.each k p e).lendK B (by simp[Va.lend,Ba c]) (by simp[Va.lend,Ba c]) (by simp[Va.lend,Ba c])
 .obtain⟨k,p,c,e,-⟩:=key i r h;have j:V.f k b:=by simpa [Va.lend,Ba c] using j
  exact hH.foot k p b e j
 .obtain⟨k,p,c,e,-⟩:=key i r h;obtain⟨D,z,q,A,-⟩:=key F r' E;have j:V.f k b:=by simpa [Va.lend,Ba c] using j
  have l:V.f D b:=by simpa [Va.lend,Ba q] using l
  have:=hH.disj k D p z b e A j l;subst this;have C:=(aq.1 c).1;exact(List.getElem?_inj C hd).1 (by rw[c,q])
theorem Z6z (p:∀k,in1 k g->k∈ks)(h:PRep I V g x):PRep I (V.lend ks) (Qp (Ik ks 0) g) x:=by
 cases g with
 | ptr k o=>exact La (I:=I) (g:=.ptr k o) p h
 | osl k=>exact La (I:=I) (g:=.osl k) p h
 | osv k a b c=>exact La (I:=I) (g:=.osv k a b c) p h
 | mp k=>exact La (I:=I) (g:=.mp k) p h
 | oel k i sz off =>
  obtain⟨q,h⟩:=(show k < V.n/\_ from h);obtain⟨J,D,C⟩:=Ib (j:=0) (p k rfl);have e:(look k (Ik ks 0)).getD k=J:=by rw[D];simp
  refine(show TRep1 I (V.lend ks) (.oel ((look k (Ik ks 0)).getD k) i sz off) x from ?_);rw[e];exact⟨(aq.1 C).1,by simpa [Va.lend,Ba C] using h⟩
 | orv k i s o l c=>cases(show VRep I (.orv k i s o l c) x from h)
 | clo f a c =>
  obtain⟨F,H,cs,e,D,C⟩:=h;refine⟨?_,H,cs,e,Z2o (λk g A q=>p k ⟨g,.inl A,q⟩) D,Z2o (λk g A q=>p k ⟨g,.inr A,q⟩) C⟩;obtain⟨g,A,q⟩:=F;have B:C8 (M5 (Ik ks 0) g)=false:=by cases g<;>first | rfl | cases q
  exact⟨M5 (Ik ks 0) g,A.imp (λh=>bi.2 ⟨g,h,rfl⟩) (λh=>bi.2 ⟨g,h,rfl⟩),B⟩
 | v z=>exact h
 | tt=>exact h
 | ff=>exact h
 | un=>exact h
 | nl=>exact h
 | agg l=>exact h
 | sl l=>exact h
 | oag l =>
  obtain⟨⟨g,A,q⟩,cs,e,E⟩:=(show(∃g∈l,C8 g=false)/\TRep1 I V (.oag l) x from h);have B:C8 (M5 (Ik ks 0) g)=false:=by cases g<;>first | rfl | cases q
  exact(show(∃g∈l.map (M5 (Ik ks 0)),C8 g=false)/\TRep1 I (V.lend ks) (.oag (l.map (M5 (Ik ks 0)))) x from⟨⟨_,bi.2 ⟨g,A,rfl⟩,B⟩,cs,e,Z2o (λk g A q=>p k ⟨g,A,q⟩) E⟩)
 | tup l=>cases(show VRep I (.tup l) x from h)
 | elp l o=>cases(show VRep I (.elp l o) x from h)
theorem Up (own:Os):∀l:Os,Gath (λks K=>Ud own l ks K) (λ_=>False)
 | []=>Gath.none
 | (k,r)::l=>λks=>by
  have c:=Up own l;have skip:(∀K:List Nat->Prop,Ud own ((k,r)::l) ks K=Ud own l ks K)->∃b:List Nat,(∀K:List Nat->Prop,Ud own ((k,r)::l) ks K=K b)/\(∀j,j∈ks->j∈b)/\(∀j,False->j∈b)/\(ks.Nodup->b.Nodup):=λz=>by obtain⟨b,B,f,J,s⟩:=c ks;exact⟨b,λK=>(z K).trans (B K),f,J,s⟩
  cases hl:look k own with
  | none=>exact skip λK=>by show Ud own ((k,r)::l) ks K=_;conv=>lhs;unfold Ud;rw[hl]
  | some q =>
   cases q with
   | fam ps =>
    obtain⟨p,C,A,-,e⟩:=Gv k ks;obtain⟨E,F,H,-,D⟩:=c p;refine⟨E,λK=>?_,λj h=>H j (A j h),λj h=>h.elim,λh=>D (e h)⟩;show Ud own ((k,r)::l) ks K=_;unfold Ud;rw[hl];exact(C (λr=>Ud own l r K)).trans (F K)
   | _=>exact skip λK=>by show Ud own ((k,r)::l) ks K=_;conv=>lhs;unfold Ud;rw[hl]
theorem Z38 (vs:Bool)(gs:List G)(own:Os):Gath (λks K=>Z8m vs gs own ks K) (λ_=>False):=λks=>by
 cases hb:Ze0 vs gs ks with
 | false=>exact⟨ks,λK=>by show Z8m vs gs own ks K=_;unfold Z8m;rw[hb],λj h=>h,λj h=>h.elim,λh=>h⟩
 | true =>
  obtain⟨e,b,c,l,f⟩:=Up own own ks;exact⟨e,λK=>by show Z8m vs gs own ks K=_;unfold Z8m;rw[hb];exact b K,c,l,f⟩
def Gq (mo:Mo)(own:Os)(I:Imm)(V:Va)(w:World)(K:G->Os->Nat->Prop)(e:Ending)(w':World):Prop :=
 ∃x g own' I' V',e=.returned x/\K g own' V'.n/\Later own I V w own' I' V' w'/\TRep I' V' g x/\(mo.loose=false->∃ks:List Nat,mo.lends ks=true/\(∀k∈ks,k < V.n)/\(∀b,b < w.heap.size->(∀k∈ks,¬V.f k b)->w'.heap[b]?=w.heap[b]?)/\∀k,k < V.n->∀b,V'.f k b->V.f k b\/(ks≠[]/\((∃c∈ks,V.f c b)\/w.heap.size<=b)))
theorem Ur {f:FuncId}{mo:Mo}{gs:List G}{vs:List Value}{B C:Prop}{K:G->Os->Nat->Prop}{Z:Prop}(h:Xy P f mo gs own V.n B C K)(hH:Has I V own w)(hg:PW (PRep I V) gs vs)(hB:B->Z)(hC:C->Z)(hR:Ent P f/\Calls P f vs.toArray w (Gq mo own I V w K)->Z):Z:=by
 unfold Xy at h;obtain⟨l,Y,-,q3,q4⟩:=Z63 gs [];obtain⟨z,O,r2,-,r4⟩:=Z38 mo.isVs gs own l;obtain⟨ks,M,k2,-,k4⟩:=Xz own 3 z;have hd:ks.Nodup:=k4 (r4 (q4 (by simp)));have k3:∀j,(∃g∈gs,in1 j g)->j∈ks:=λj h=>k2 j (r2 j (q3 j h));have Y:∀K:List Nat->Prop,gkL gs [] K=K l:=Y;have O:∀K:List Nat->Prop,Z8m mo.isVs gs own l K=K z:=O;have M:∀K:List Nat->Prop,trK own 3 z K=K ks:=M;rw[Y,O,M] at h;have A:PW (PRep I (V.lend ks)) (gs.map (Qp (Ik ks 0))) vs:=⟨by simpa using hg.1,λj g u s p=>by rw[ax] at s;obtain⟨g0,F,rfl⟩:=bg.1 s;exact Z6z (λk E=>k3 k ⟨g0,ar F,E⟩) (hg.2 j g0 u F p)⟩
 have q:mo.lends ks=true->∀rs:List R,rs.length=ks.length->(∀(i k:Nat),ks[i]?=some k->∃r,rs[i]?=some (Kn (Ik ks 0) r)/\look k own=some r/\Z1c ks r=true)->FnO P f (gs.map (Qp (Ik ks 0))) rs (λg rs=>Yc ks own V.n g rs K)->Ent P f/\Calls P f vs.toArray w (Gq mo own I V w K):=λc rs L hr hF=>by
  refine⟨hF.1,(hF.2 I (V.lend ks) w vs (Z1j hH hd L hr) (by rw[L];rfl) A).mono λe w' ⟨x,g,rs',I',V1,he,hq,hn,s,hx,hfro,hle⟩=>?_⟩;obtain⟨l1,l2⟩:=Vw hH hd L (λi k E=>by obtain⟨r,s,p,-⟩:=hr i k E;exact⟨r,_,s,p⟩) hn s hfro hle;have lent:∀j r b,look j (Ep rs 0)=some r->(V.lend ks).f j b->∃k∈ks,V.f k b:=λj r b h D=>by
   rw[Bf] at h;have J:=(aq.1 h).1;have H:j < ks.length:=by omega
   have e:=Ba (n:=0) (ap H:ks[j]?=some ks[j]);exact⟨ks[j],bu H,by simpa [Va.lend,e] using D⟩
  refine⟨x,_,_,I',V.back ks V1,he,(by have:=Z66 hq;rw[show V.n+(rs'.length - ks.length)=(V.back ks V1).n by show _=V.n+(V1.n - ks.length);rw[hn]] at this;exact this),l1,l2 g x hx.to_t,λ_=>⟨ks,c,λk E=>?_,λb U hno=>(hfro.blk b U λj r J D=>?_).1,λk E b U=>?_⟩⟩
  .obtain⟨i,hi,e⟩:=cq.1 E;obtain⟨r,-,p,-⟩:=hr i k (by rw[ap hi,e]);exact hH.num k r p
  .obtain⟨k,p,F⟩:=lent j r b J D;exact hno k p F
  .rcases U with⟨i,hi,e,D⟩ | ⟨-,D⟩
   .cases hks:ks with
    | nil=>subst hks;rw[Dd] at e;omega
    | cons k0 l =>
     rw[<-hks];refine .inr ⟨by rw[hks];simp,?_⟩;by_cases W:b < w.heap.size
     .have X:i < rs'.length:=by omega
      obtain⟨j,r',J,T⟩:=hfro.foot i _ b (by rw[Bf];exact ap X) D W;exact .inl (lent j r' b J T)
     .exact .inr (by omega)
   .exact .inl D
 cases c:mo.lends ks with
 | false=>rw[c] at h;exact h.elim
 | true =>
  rw[c] at h;dsimp only at h;cases ks with
  | nil =>
   cases h with
   | lend h=>exact hB h
   | gh h=>exact hC h
   | pure h =>
    refine hR (q c [] rfl (λi k h=>by simp at h) ?_);have e:gs.map (Qp (Ik [] 0))=gs:=by show gs.map (Qp [])=gs;rw[funext Z4m];simp
    rw[e];exact h
  | cons k0 l =>
   obtain⟨rs,s,p,F⟩:=Z5h h;cases s with
   | lend h=>exact hB h
   | gh h=>exact hC h
   | pure h=>exact hR (q c rs p F h)
theorem Z83 (h:TRep I V g x)(b:g.lent=true):PRep I V (Z1f g) x:=by
 cases g with
 | nl=>cases(show VRep I .nl x from h);exact .sl [] none 0 0 (λ_ _=>undef) (au _) (λ_=>rfl) (by simp) (λi r h=>by simp at h) (λi r j g h=>by simp at h)
 | tt=>cases(show VRep I .tt x from h);exact .v _
 | ff=>cases(show VRep I .ff x from h);exact .v _
 | oag l =>
  have key:∀{l:List G},Mg (λg=>match C8 g with | true=>false | false=>true) l=true->∃g∈l,C8 g=false:=λ{l} b=>by
   induction l with
   | nil=>cases b
   | cons g l ih =>
    unfold Mg at b;cases hg:C8 g with
    | false=>exact⟨g,by simp,hg⟩
    | true =>
     rw[hg] at b;obtain⟨f,e,p⟩:=ih b;exact⟨f,by simp[e],p⟩
  exact⟨key b,h⟩
 | tup l=>cases b
 | orv k i s o l c=>cases b
 | elp l o=>cases b
 | _=>exact h
theorem Oh {f:FuncId}{mo:Mo}{gs:List G}{vs:List Value}{C:Prop}{K:G->Os->Nat->Prop}(h:lendK P f mo gs own V.n C K)(hH:Has I V own w)(c:PW (TRep I V) gs vs)(q:C->Ent P f/\Calls P f vs.toArray w (Gq mo own I V w K)):Ent P f/\Calls P f vs.toArray w (Gq mo own I V w K):=by
 unfold lendK at h;split at h
 .next p =>
  refine Ur h hH ⟨by simpa using c.1,λj g u b l=>?_⟩ False.elim q id;rw[ax] at b;obtain⟨g0,e,rfl⟩:=bg.1 b;exact Z83 (c.2 j g0 u e l) (Ai p g0 (ar e))
 .exact h.elim
theorem Za2 {g:G}{x:Value}(hH:Has I V own w)(h:TRep I V g x):TRep I V (Zcq own g) x:=by
 have b:∀{g:G} {x:Value},CRep I V g x->CRep I V (D4 own g) x:=λ{g x} h=>Ie hH h;cases g with
 | osl k=>exact .of_c (b (g:=.osl k) h)
 | osv k sz lo hi=>exact .of_c (b (g:=.osv k sz lo hi) h)
 | oag l =>
  unfold Zcq;dsimp only;split
  .next p =>
   obtain⟨cs,rfl,e⟩:=(show TRep1 I V (.oag l) x from h);refine .of_v (.agg _ cs (by simpa using e.1) λj g u c q=>?_);have f:=Ai p g (ar c);rw[ax] at c;obtain⟨g0,s,rfl⟩:=bg.1 c;exact(b (e.2 j g0 u s q)).to_v f
  .exact h
 | _=>exact h
theorem Z01 {f:FuncId}{gs:List G}{K:G->Os->Nat->Prop}{n:Nat}(h:Z56 P f own n K gs)(hH:Has I V own w):∀{vs:List Value},V.n=n->PW (TRep I V) gs vs->Ent P f/\Calls P f vs.toArray w λe w'=>∃x g own' I' V',e=.returned x/\K g own' V'.n/\Later own I V w own' I' V' w'/\TRep I' V' g x:=by
 induction h with
 | same h =>
  intro vs l z;subst l;obtain⟨H,F⟩:=Oh h hH z False.elim;refine⟨H,F.mono λe w' ⟨x,g,own',I',V',he,E,hl,hx,s⟩=>?_⟩;obtain⟨B,M,V2,J,D⟩:=W1 E rfl hl.has;exact⟨x,g,B,M,V2,he,J,hl.trans D,hx.mono D.fro.mono D.va⟩
 | see _ ih =>
  intro vs l z;refine ih l ⟨by simpa using z.1,λj g u c A=>?_⟩;rw[ax] at c;obtain⟨g0,E,rfl⟩:=bg.1 c;exact Za2 hH (z.2 j g0 u E A)
 | @rawA p q gs b off j k hj _ ih =>
  intro vs l z;refine ih l ?_;obtain⟨v,O,rfl,T,l⟩:=z.uncons;obtain⟨-,C,L⟩:=hH.each j _ hj;cases(show VRep I (.agg _) v from T) with
  | agg _ cs hl hc =>
   refine .cons (show TRep I V (.oag _) _ from⟨cs,rfl,by simpa using hl,λm g u c A=>?_⟩) l;rcases Nat.lt_trichotomy m p.length with s | s | s
   .rw[br s] at c;exact .of_v (hc m g u (by rw[br s];exact c) A)
   .subst s;rw[bn (au _),Nat.sub_self] at c;cases c;have e:=hc p.length (.v (.pointer (some ⟨_,_,none⟩))) u (by rw[bn (au _),Nat.sub_self];rfl) A;cases e;exact⟨C,by rw[L]⟩
   .obtain⟨i,rfl⟩:∃i,m=p.length+(i+1):=⟨m - p.length - 1,by omega⟩;rw[bn (by omega),Nat.add_sub_cancel_left] at c;exact .of_v (hc _ g u (by rw[bn (by omega),Nat.add_sub_cancel_left];exact c) A)
theorem Zt {f:FuncId}{mo:Mo}{gs:List G}{vs:List Value}{K:G->Os->Nat->Prop}(h:ghK P f mo gs own V.n K)(hH:Has I V own w)(s:PW (TRep I V) gs vs):Ent P f/\Calls P f vs.toArray w (Gq mo own I V w K):=by
 cases mo with
 | row =>
  obtain⟨j,z,V1,l,b⟩:=W1 h rfl hH;obtain⟨q,p⟩:=Z01 l b.has rfl (s.mono λ_ _ h=>h.mono b.fro.mono b.va);exact⟨q,p.mono λe w' ⟨x,g,own2,I2,V2,he,hk,hl,hx⟩=>⟨x,g,own2,I2,V2,he,hk,b.trans hl,hx,λc=>by cases c⟩⟩
 | late =>
  obtain⟨j,z,V1,l,b⟩:=W1 h rfl hH;obtain⟨q,p⟩:=Z01 l b.has rfl (s.mono λ_ _ h=>h.mono b.fro.mono b.va);exact⟨q,p.mono λe w' ⟨x,g,own2,I2,V2,he,hk,hl,hx⟩=>⟨x,g,own2,I2,V2,he,hk,b.trans hl,hx,λc=>by cases c⟩⟩
 | _=>exact h.elim
theorem Z4t {f:FuncId}{mo:Mo}{gs p q:List G}{vs:List Value}{K:G->Os->Nat->Prop}(h:Nu P f mo gs p q own V.n K)(hH:Has I V own w)(s:PW (TRep I V) (p++(gs++q)) vs):Ent P f/\Calls P f vs.toArray w (Gq mo own I V w K):=by
 unfold Nu at h;split at h
 .exact Zt h hH s
 split at h
 .exact Oh h hH s λH=>Zt H hH s
 .obtain⟨E,O,W,V1,C,c,z,D⟩:=Zv h s hH;have C:Xy P f mo E O V1.n (lendK P f mo (p++(gs++q)) own V.n False K) (ghK P f mo (p++(gs++q)) own V.n K) K:=by rw[c.1];exact C
  refine Ur C z.has D (λA=>Oh A hH s False.elim) (λH=>Zt H hH s) fun⟨k1,k2⟩=>?_;refine⟨k1,k2.mono λe w' ⟨x,g,own',I',V',he,j,hl,hx,hm⟩=>⟨x,g,own',I',V',he,j,z.trans hl,hx,λB=>?_⟩⟩;obtain⟨ks,T,J,L,U⟩:=hm B;have l:∀k∈ks,k < V.n:=λk j=>by have:=J k j;omega
  refine⟨ks,T,l,λb A F=>L b A λk j M=>F k j (c.2 k (l k j) b M),λk j b A=>?_⟩;rcases U k (by omega) b A with h | ⟨h,⟨k',h2,h3⟩ | h3⟩
  .exact .inl (c.2 k j b h)
  .exact .inr ⟨h,.inl ⟨k',h2,c.2 k' (l k' h2) b h3⟩⟩
  .exact .inr ⟨h,.inr h3⟩
theorem Qn {f:FuncId}(j:Ent P f)(w:World)(args:Array Value):(callFunc f args).run P w=.ok (.enter f args) w:=by
 obtain⟨fn,l,h,b⟩:=j;have e:¬fn.name="runtime.NumGoroutine" := by simpa using h
 cases hb:fn.body with
 | none=>rw[hb] at b;cases b
 | some c=>simp[callFunc,l,e,hb]
def Z7e (P:Program)(t:Ts)(own:Os)(n:Nat)(mo:Mo)(cl:Call)(d:Option Tmp)(fo:Operand)(K:Ts->Os->Nat->Prop):Prop:=match fo with
 | .func f=>evs t own cl.args.toList λgs=>Nu P f mo gs [] [] own n λg w n=>K (put d g t) w n
 | .tmp j=>match look j t with
  | some (.clo f p q)=>evs t own cl.args.toList λgs=>Nu P f mo gs p q own n λg w n=>K (put d g t) w n
  | some (.v (.func (.func f) p q))=>match p.toList,q.toList with
   | [],[]=>evs t own cl.args.toList λgs=>Nu P f mo gs [] [] own n λg w n=>K (put d g t) w n
   | _,_=>False
  | _=>False
 | _=>False
theorem Z0s {mo:Mo}{cl:Call}{K:Ts->Os->Nat->Prop}{d:Option Tmp}{fo:Operand}(ha:ARep N I V a t)(hH:Has I V own w)(h:Z7e P t own n mo cl d fo K)(A:cl.callee=.value fo):∃(f:FuncId) (gs p q:List G) (vs:List Value),Nu P f mo gs p q own n (λg w n=>K (put d g t) w n)/\PW (TRep I V) (p++(gs++q)) vs/\∀ty (u:World),(do let d <-resolve a.eval cl ty;invoke d.target d.args:Sem Next).run P u=(callFunc f vs.toArray).run P u:=by
 unfold Z7e at h;obtain⟨callee,args,J⟩:=cl;dsimp only at A;subst A;have e:∀l:Array Operand,(l.toList.map a.eval).toArray=l.map a.eval:=λl=>by cases l;simp
 cases fo with
 | func f =>
  dsimp only at h;obtain⟨gs,s,B⟩:=Mt h ha hH;refine⟨f,gs,[],[],_,s,by simpa using B,λty u=>?_⟩;have b:a.eval (.func f)=.func (.func f) #[] #[]:=rfl;simp[resolve,Deferred.ofValue,b,invoke,e]
 | tmp d =>
  dsimp only at h;cases hl:look d t with
  | none=>rw[hl] at h;exact h.elim
  | some g =>
   rw[hl] at h;obtain⟨z,M,j⟩:=ha.get _ _ hl;have b:a.eval (.tmp d)=z:=by simp[Act.eval,M]
   cases g with
   | clo f p q =>
    obtain⟨gs,s,B⟩:=Mt h ha hH;obtain⟨-,F,cs,rfl,E,H⟩:=(show TRep1 I V (.clo f p q) z from j);refine⟨f,gs,p,q,F++(args.toList.map a.eval++cs),s,(E.mono λ_ _ h=>.of_c h).append (B.append (H.mono λ_ _ h=>.of_c h)),λty u=>?_⟩;simp[resolve,Deferred.ofValue,b,invoke,<-e]
   | v z' =>
    have O:=Av j;subst O;split at h
    .next f p q c =>
     cases c
    .next f p q c =>
     cases c;split at h
     .next D C =>
      obtain⟨gs,s,B⟩:=Mt h ha hH;refine⟨f,gs,[],[],_,s,by simpa using B,λty u=>?_⟩;have T:p=#[]:=by cases p;simp at D;simp[D]
      have L:q=#[]:=by cases q;simp at C;simp[C]
      subst T L;simp[resolve,Deferred.ofValue,b,invoke,e]
     .exact h.elim
    .exact h.elim
   | _=>exact h.elim
 | _=>exact False.elim h
variable {XL:List Nat} {K:Ts->Os->Nat->Prop} {next:Act->World->Prop} {Q:Exit->Act->World->Prop}
theorem O1 {mo:Mo}{cl:Call}{fo:Operand}(s:o.op=.call cl)(j:cl.callee=.value fo)(hH:Has I V own w)(ha:ARep N I V a t)(hd:∀i,o.dst=some i->i < N)(h:Z7e P t own V.n mo cl o.dst fo K)
  (B:∀t own' I' V' l w',K t own' V'.n->Later own I V w own' I' V' w'->(mo.loose=false->∃ks:List Nat,mo.lends ks=true/\(∀k∈ks,k < V.n)/\(∀b,b < w.heap.size->(∀k∈ks,¬V.f k b)->w'.heap[b]?=w.heap[b]?)/\∀k,k < V.n->∀b,V'.f k b->V.f k b\/(ks≠[]/\((∃D∈ks,V.f D b)\/w.heap.size<=b)))->ARep N I' V' l t->next l w'):o.wp P a w next Q:=by
 obtain⟨f,gs,p,q,vs,C,E,c⟩:=Z0s ha hH h j;obtain⟨A,z⟩:=Z4t C hH E;have c:(execOp a.eval o).run P w=.ok (.enter f vs.toArray) w:=by have:=(c o.type w).trans (Qn A w vs.toArray);simpa only[execOp,s] using this
 unfold Oper.wp;rw[c,Oper.upon_enter];refine z.mono λe w' ⟨x,g,own',I',V',he,hk,hl,hx,hm⟩=>?_;subst he;exact B _ _ _ _ _ _ hk hl hm ((ha.mono hl.fro.mono hl.va).put hd hx)
theorem FnV.toO {f:FuncId}{gs:List G}{Q:G->Prop}(h:FnV P f gs Q):FnO P f gs [] λg rs=>rs=[]/\Q g :=
 ⟨h.1,λI V w vs hH C p=>by
  have s:PW (VRep I) gs vs:=p.mono λg x h=>by
   have C:V.n=0:=C;cases g with
   | ptr k o=>have:=h.1;omega
   | osl k=>have:=h.1;omega
   | osv k a b c=>have:=h.1;omega
   | oel k a b c=>have:=h.1;omega
   | orv k a b c d e=>cases(show VRep I (.orv k a b c d e) x from h)
   | mp k=>have:=h.1;omega
   | clo f a c =>
    obtain⟨⟨g,q,A⟩,D,cs,-,H,F⟩:=h;have key:∀{l:List G} {D:List Value},g∈l->PW (CRep I V) l D->False:=λz p=>by
     obtain⟨j,B,e⟩:=cq.1 z;obtain⟨u,-,hr⟩:=p.get (by rw[ap B,e]);cases g with
     | ptr k o=>have:=hr.1;omega
     | osl k=>have:=hr.1;omega
     | osv k a b c=>have:=hr.1;omega
     | oel k a b c=>exact hr
     | orv k a b c d e=>exact hr
     | mp k=>have:=hr.1;omega
     | _=>cases A
    rcases q with q | q
    .exact(key q H).elim
    .exact(key q F).elim
   | oag l =>
    obtain⟨⟨g,q,A⟩,cs,e,p⟩:=(show(∃g∈l,C8 g=false)/\TRep1 I V (.oag l) x from h);exfalso;obtain⟨j,B,e⟩:=cq.1 q;obtain⟨u,-,hr⟩:=p.get (by rw[ap B,e]);cases g with
    | ptr k o=>have:=hr.1;omega
    | osl k=>have:=hr.1;omega
    | osv k a b c=>have:=hr.1;omega
    | oel k a b c=>exact hr
    | orv k a b c d e=>exact hr
    | mp k=>have:=hr.1;omega
    | _=>cases A
   | _=>exact h
  refine(h.2 I w vs hH.mem s).mono λe w' ⟨x,g,I',he,hq,z,hx,hle,hI,hB⟩=>⟨x,g,[],I',V,he,⟨rfl,hq⟩,C,⟨z,λk r h=>(by cases h),λk r h=>(by cases h),λk r b h=>(by cases h),λk J r r' b h=>(by cases h)⟩,?_,⟨hB.os,hB.tape,hB.output,hB.size,λb E _=>⟨hB.block b E,λo=>hI b o E⟩,hle,λk r b h=>(by cases h)⟩,.refl _⟩;cases g with
  | tup l=>obtain⟨cs,e,p⟩:=hx;exact⟨cs,e,p.mono λ_ _ h=>.of_v h⟩
  | oag l=>cases(show VRep I' (.oag l) x from hx)
  | _=>exact PRep.of_v (V:=V) hx⟩
theorem FnO.mono {f:FuncId}{gs:List G}{rs:List R}{Q b:G->List R->Prop}(h:FnO P f gs rs Q)(l:∀g rs,Q g rs->b g rs):FnO P f gs rs b :=
 ⟨h.1,λI V w vs c j p=>(h.2 I V w vs c j p).mono λ_ _ ⟨x,g,rs',I',V',e,k1,k2⟩=>⟨x,g,rs',I',V',e,l _ _ k1,k2⟩⟩
theorem FnV.cal {f:FuncId}{gs:List G}{Q:G->Prop}{K:G->Os->Nat->Prop}{B C:Prop}(h:FnV P f gs Q)(b:∀g,Q g->Yc [] own n g [] K):EvCall (FnO P f gs [] λg rs=>Yc [] own n g rs K) B C :=
 .pure (h.toO.mono λg rs ⟨e,hq⟩=>by rw[e];exact b g hq)
theorem FnV.con {f:FuncId}{gs:List G}{g:G}{x:Value}{K:G->Prop}(h:FnV P f gs λq=>q=g)(b:Z5j g=some x)(c:K g):Z6t P f gs K:=⟨g,x,b,h,c⟩
theorem FnO.cal {f:FuncId}{gs:List G}{rs:List R}{Q:G->List R->Prop}{K:G->Os->Nat->Prop}{B C:Prop}(h:FnO P f gs rs Q)(b:∀g rs,Q g rs->Yc ks own n g rs K):EvCall (FnO P f gs rs λg rs=>Yc ks own n g rs K) B C :=
 .pure (h.mono b)
end
section
variable {κ:Type} {I:Imm} {u:G} {v:Value}
theorem Al.len:∀{l:List (κ × G)} {L:List (κ × Value)},Al I l L->L.length=l.length
 | [],[],_=>rfl
 | _::_,_::_,h=>by simp[Al.len h.2.2]
theorem Al.app (k:κ):∀{l:List (κ × G)} {L:List (κ × Value)},Al I l L->VRep I u v->Al I (l++[(k,u)]) (L++[(k,v)])
 | [],[],_,h=>⟨rfl,h,trivial⟩
 | _::_,_::_,h,h'=>⟨h.1,h.2.1,Al.app k h.2.2 h'⟩
variable [DecidableEq κ]
theorem Al.get (k:κ):∀{l:List (κ × G)} {L:List (κ × Value)},Al I l L->(Au l k=none->Au L k=none)/\∀g,Au l k=some g->∃v,Au L k=some v/\VRep I g v
 | [],[],_=>⟨λ_=>rfl,λg h=>by cases h⟩
 | (j,g0)::l,(j',v0)::L,h=>by
  obtain⟨e,c,f⟩:=h;have e:j'=j:=e;subst e;obtain⟨p,q⟩:=Al.get k f;rw[C1,C1];by_cases b:j'=k
  .subst b;simp only[if_pos];exact⟨λh=>(by cases h),λg h=>(by cases h;exact⟨_,rfl,c⟩)⟩
  .simp only[if_neg b];exact⟨p,q⟩
theorem Al.upd (k:κ):∀{l:List (κ × G)} {L:List (κ × Value)},Al I l L->VRep I u v->Al I (l.map λp=>if p.1=k then(k,u) else p) (L.map λp=>if p.1=k then(k,v) else p)
 | [],[],_,_=>trivial
 | p::l,q::L,h,h'=>by
  have b:=Al.upd k h.2.2 h';rw[cu,cu];by_cases e:p.1=k
  .rw[dp e,dp (h.1.trans e)];exact⟨rfl,h',b⟩
  .rw[dn e,dn (λc=>e (h.1.symm.trans c))];exact⟨h.1,h.2.1,b⟩
theorem Al.put (k:κ){l:List (κ × G)}{L:List (κ × Value)}(h:Al I l L)(b:VRep I u v):Al I (Gn l k u) (Gn L k v):=by
 obtain⟨c,f⟩:=h.get k;unfold Gn;cases hg:Au l k with
 | none=>rw[c hg];exact h.app k b
 | some g =>
  obtain⟨x,e,-⟩:=f g hg;rw[e];exact h.upd k b
end
section
variable {P:Program} {tb:List (Nat × TI)} {N n:Nat} {I I' I0:Imm} {V V' V0:Va} {a:Act} {t:Ts} {own own' own0:Os} {w w' w0:World} {g:G} {x y:Value} {d:Option Tmp}
variable {XL:List Nat} {S:World->Prop} {K:Ts->Os->Nat->Prop} {next:Act->World->Prop} {Q:Exit->Act->World->Prop} {o:Oper} {r:R}
theorem Sk {k:Nat}(h:TRep I V (.mp k) y):k < V.n/\y=.map (some (V.b k)):=h
theorem Z81 {e:TypeId}{i:TI}(B:TIok P e i){K1:G->Prop}(h:Sg i K1):∃g z,K1 g/\TRep1 I V g z/\∀w:World,(zeroValue e).run P w=.ok z w:=by
 obtain⟨z,p,b⟩:=bg.1 B.zero;obtain⟨j,A,C⟩:=Option.bind_eq_some_iff.1 p;have f:∀w:World,(zeroValue e).run P w=.ok z w:=λw=>by simp[zeroValue,typeInfo,A,C]
 have l:PW (CRep I V) i.zero (i.zero.map G.val):=S7 B;have c:=B.zag z p;unfold Sg at h;cases hb:i.agg with
 | true =>
  rw[hb,dp rfl] at c;obtain⟨cs,rfl⟩:=c;rw[hb] at h;have D:cs=(i.zero.map G.val).toArray:=by rw[<-b];rfl
  subst D;dsimp only at h;unfold Ha at h;rw[show Sy 0=false from rfl] at h;dsimp only at h;split at h
  .next q=>exact⟨_,_,h,.of_c (.of_v (.agg i.zero _ l.1 λj g u s E=>(l.2 j g u s E).to_v (Ai q g (ar s)))),f⟩
  .exact⟨_,_,h,(⟨_,rfl,l⟩:TRep1 I V (.oag i.zero) _),f⟩
 | false =>
  rw[hb,dn (by simp)] at c;rw[hb] at h;dsimp only at h;rw[c] at b;split at h
  .next g s =>
   rw[s] at b l;have D:z=G.val g:=by simpa using b
   subst D;exact⟨_,_,h,.of_c (l.2 0 g _ rfl rfl),f⟩
  .exact h.elim
theorem Z87 {κ:Type}[DecidableEq κ]{D:κ->Value}{O e ty:TypeId}{m:Nat}{l:List (κ × G)}{U:TI}(C:KeyOk P O D)(B:P.underlying ty=some (.map O e))(q:TIok P e U)(Y:MapR I w m D l)(key:κ){K1:G->Bool->Prop}(h:Zi (Au l key) (λg=>K1 g true) (Sg U λg=>K1 g false)) :
  ∃g b v,K1 g b/\TRep1 I V g v/\∀u:World,u.heap[m]?=w.heap[m]?->(Instr.lookup ty (.map (some m)) (D key) true).run P u=.ok (.tuple #[v,.bool b]) u/\(Instr.lookup ty (.map (some m)) (D key) false).run P u=.ok v u:=by
 obtain⟨L,T,X⟩:=Y;obtain⟨h1,W⟩:=X.get key;have E:∃z,∀w:World,(zeroValue e).run P w=.ok z w:=by obtain⟨z,f,p⟩:=bg.1 q.zero;obtain⟨j,H,M⟩:=Option.bind_eq_some_iff.1 f;exact⟨z,λw=>by simp[zeroValue,typeInfo,H,M]⟩
 cases hg:Au l key with
 | some g =>
  obtain⟨v,Z,hv⟩:=W g hg;obtain⟨z,E⟩:=E;refine⟨g,true,v,h.yes g hg,.of_c (.of_v hv),λu J=>?_⟩;have c:=T.of_block J;have s:=C3 (P:=P) C B (E u) c key;have A:=Am (P:=P) C B (E u) c key;rw[Z] at s A;exact⟨s,A⟩
 | none =>
  obtain⟨g,z,F,f,p⟩:=Z81 (I:=I) (V:=V) q (h.no hg);refine⟨g,false,z,F,f,λu J=>?_⟩;have c:=T.of_block J;have s:=C3 (P:=P) C B (p u) c key;have A:=Am (P:=P) C B (p u) c key;rw[h1 hg] at s A;exact⟨s,A⟩
theorem MapR.lt {κ:Type}{c:κ->Value}{m:Nat}{l:List (κ × G)}(h:MapR I w m c l):m < w.heap.size:=by obtain⟨L,b,-⟩:=h;exact b.lt
theorem Z3d (hT:∀t i,look t tb=some i->TIok P t i)(X:∀k∈XL,∃r,look k own=some r)(hS:∀u,S u->Agree V XL w u)(hH:Has I V own w)(ha:ARep N I V a t){ty:TypeId}{z i:Operand}{ok:Bool}(ho:o.op=.lookup ty z i ok)
  (h:match Pc tb ty with
   | .map str e=>match look e tb with
    | some ti=>ev t own z λg=>ev t own i λq=>Z7r own XL g q str ti (lkK ok λg=>K (put o.dst g t) own V.n)
    | none=>False
   | _=>False):QOk S P I V own w a t o K:=by
 unfold Pc at h;cases hl:look ty tb with
 | none=>rw[hl] at h;exact h.elim
 | some ti0 =>
  rw[hl] at h;dsimp only at h;have H:=(hT _ _ hl).kd;split at h
  .next str e he =>
   rw[he] at H;obtain⟨kt,ht,A⟩:=H;cases hle:look e tb with
   | none=>rw[hle] at h;exact h.elim
   | some ti =>
    rw[hle] at h;dsimp only at h;have O:=hT _ _ hle;obtain⟨g,F,hg⟩:=B1 h ha hH;clear h;have h:=F;clear F;obtain⟨q,F,L⟩:=B1 h ha hH;clear h;have h:=F;clear F;obtain⟨K1,E⟩:∃K1:G->Bool->Prop,K1=lkK ok λg=>K (put o.dst g t) own V.n:=⟨_,rfl⟩;rw[<-E] at h;have fin:∀{κ:Type} [DecidableEq κ] {J:κ->Value} {l:List (κ × G)} (key:κ) {k:Nat},KeyOk P kt J->a.eval z=.map (some (V.b k))->a.eval i=J key->MapR I w (V.b k) J l->V.f k (V.b k)->(∃r,look k own=some r)->k ∉ XL->Zi (Au l key) (λg=>K1 g true) (Sg ti λg=>K1 g false)->QOk S P I V own w a t o K:=λ{κ _ J l} key {k} M B e2 hM hf ⟨r,hr⟩ hkX hev=>by
     obtain⟨g,b,v,T,Y,k3⟩:=Z87 (V:=V) M ht O hM key hev;have c:∀u,S u->u.heap[V.b k]?=w.heap[V.b k]?:=λu D=>hS u D _ hM.lt λk' C U=>by obtain⟨r',W⟩:=X k' C;exact hkX (hH.disj k k' r r' _ hr W hf U ▸ C)
     rw[E] at T;cases ok with
     | true=>exact⟨_,_,T,(⟨[v,.bool b],rfl,.cons Y (.cons (by cases b;exact .of_c (.of_v .ff);exact .of_c (.of_v .tt)) .nil)⟩:TRep I V (.tup _) (.tuple [v,.bool b].toArray)),λu D=>by simp only[execOp,ho,Sem.run_bind,B,e2,(k3 u (c u D)).1,Result.andThen_ok,Sem.run_pure]⟩
     | false=>exact⟨_,_,T,.of_1 Y,λu D=>by simp only[execOp,ho,Sem.run_bind,B,e2,(k3 u (c u D)).2,Result.andThen_ok,Sem.run_pure]⟩
    unfold Z7r at h;split at h
    .next k =>
     obtain⟨hkn,B⟩:=Sk hg;split at h
     .exact h.elim
     .next Z =>
      have p:k ∉ XL:=λh=>by rw[C4.2 h] at Z;cases Z
      split at h
      .next l s hr =>
       have j:=hH.each k _ hr;exact fin s (Ic (by simpa using A)) B (Av L) j.2 ((j.1 _).2 rfl) ⟨_,hr⟩ p h
      .next l n hr =>
       have j:=hH.each k _ hr;exact fin n (Lb (by simpa using A)) B (Av L) j.2 ((j.1 _).2 rfl) ⟨_,hr⟩ p h
      .next l m ob s hr =>
       have j:=hH.each k _ hr;exact fin s (Ic (by simpa using A)) B (Av L) (by rw[j.2.1];exact j.2.2.2) ((j.1 _).2 rfl) ⟨_,hr⟩ p h
      .exact h.elim
    .exact h.elim
  .exact h.elim
theorem Z9z (hT:∀t i,look t tb=some i->TIok P t i)(F:∀k∈XL,∃r,look k own=some r)(Y:∀u,S u->Agree V XL w u)(hH:Has I V own w)(ha:ARep N I V a t){ty:TypeId}{z:Operand}{O:TI}{str:Bool}{e:TypeId}(W:look ty tb=some O)(H:O.kd=.map str e)(ho:o.op=.call {callee:=.builtin .len,args:=#[z],argTypes:=#[ty]})
  (h:ev t own z λg=>match g with
        | .mp k=>match look k own,Fd k XL with
         | some (.mpS l),false=>K (put o.dst (.v (.int .i64 l.length)) t) own V.n
         | some (.mpI l),false=>K (put o.dst (.v (.int .i64 l.length)) t) own V.n
         | _,_=>False
        | _=>False):QOk S P I V own w a t o K:=by
 have A:=(hT _ _ W).kd;rw[H] at A;obtain⟨kt,X,-⟩:=A;obtain⟨g,U,hg⟩:=B1 h ha hH;clear h;have h:=U;clear U;split at h
 .next k =>
  obtain⟨hkn,e1⟩:=Sk hg;have fin:∀{κ:Type} {T:κ->Value} {l:List (κ × G)},[DecidableEq κ]->MapR I w (V.b k) T l->V.f k (V.b k)->(∃r,look k own=some r)->Fd k XL=false->K (put o.dst (.v (.int .i64 l.length)) t) own V.n->QOk S P I V own w a t o K:=λ{κ T l _} J hf ⟨r,hr⟩ p A=>by
   have D:k ∉ XL:=λh=>by rw[C4.2 h] at p;cases p
   have C:=J.lt;obtain⟨L,hB,hA⟩:=J;refine⟨_,_,A,.of_v (.v _),λu Z=>?_⟩;have j:u.heap[V.b k]?=w.heap[V.b k]?:=Y u Z _ C λM q B=>by obtain⟨r',E⟩:=F M q;exact D (hH.disj k M r r' _ hr E hf B ▸ q)
   have c:=Bh (P:=P) (ty:=o.type) X (hB.of_block j);rw[hA.len] at c;simp[execOp,ho,resolve,invoke,builtin,e1,c]
  split at h
  .next l hr p =>
   have s:=hH.each k _ hr;exact fin s.2 ((s.1 _).2 rfl) ⟨_,hr⟩ p h
  .next l hr p =>
   have s:=hH.each k _ hr;exact fin s.2 ((s.1 _).2 rfl) ⟨_,hr⟩ p h
  .exact h.elim
 .exact h.elim
theorem Wi (hH:Has I V own w)(ha:ARep N I V a t){f:FuncId}{p q:Array Operand}(O:o.op=.makeFunc (.func f) p q)(h:evs t own p.toList λa=>evs t own q.toList λc=>match Bp G.cap a,Bp G.cap c with
  | true,true=>match Bp C8 a,Bp C8 c with
   | true,true=>match a,c with
    | [],[]=>K (put o.dst (.v (.func (.func f) #[] #[])) t) own V.n
    | _,_=>False
   | _,_=>K (put o.dst (.clo f a c) t) own V.n
  | _,_=>False):QOk S P I V own w a t o K:=by
 obtain⟨L,h,z⟩:=Mt h ha hH;obtain⟨c1,h,s⟩:=Mt h ha hH;have e:∀l:Array Operand,(l.toList.map a.eval).toArray=l.map a.eval:=λl=>by cases l;simp
 have run:∀u:World,(execOp a.eval o).run P u=.ok (.value (.func (.func f) (p.toList.map a.eval).toArray (q.toList.map a.eval).toArray)) u:=λu=>by simp only[execOp,O,Instr.makeFunc,Sem.run_bind,Sem.run_pure,Result.andThen_ok,e]
 have cap:∀{l:List G} {J:List Value},Bp G.cap l=true->PW (TRep I V) l J->PW (CRep I V) l J:=λE H=>⟨H.1,λj g u b T=>by have U:=H.2 j g u b T;have E:=Ai E g (ar b);cases g<;>first | exact U | cases E⟩
 have M:∀{l:List G},Bp C8 l=false->∃g∈l,C8 g=false:=λ{l}=>by
  induction l with
  | nil=>intro h;cases h
  | cons g l ih =>
   intro h;unfold Bp at h;cases b:C8 g with
   | false=>exact⟨g,by simp,b⟩
   | true =>
    rw[b] at h;obtain⟨X,z,s⟩:=ih h;exact⟨X,by simp[z],s⟩
 split at h
 .next D A =>
  split at h
  .split at h
   .have W:p.toList=[]:=by have:=z.of_nil;simpa using this
    have Y:q.toList=[]:=by have:=s.of_nil;simpa using this
    refine⟨_,_,h,.of_v (.v _),λu _=>?_⟩;rw[run u,W,Y];rfl
   .exact h.elim
  .next C =>
   refine⟨_,_,h,.of_1 (⟨?_,_,_,rfl,cap D z,cap A s⟩:TRep1 I V (.clo f L c1) _),λu _=>run u⟩;cases hn1:Bp C8 L with
   | false=>obtain⟨g,F,B⟩:=M hn1;exact⟨g,.inl F,B⟩
   | true =>
    cases hn2:Bp C8 c1 with
    | false=>obtain⟨g,F,B⟩:=M hn2;exact⟨g,.inr F,B⟩
    | true=>exact(C hn1 hn2).elim
 .exact h.elim
theorem W2 (hH:Has I V own w)(ha:ARep N I V a t)(hd:∀i,o.dst=some i->i < N)(hK:NxtB N own I V w K next){ty:TypeId}(j:o.op=.makeMap ty none)(h:match Pc tb ty with
  | .map true _=>K (put o.dst (.mp V.n) t) ((V.n,.mpS [])::own) (V.n+1)
  | .map false _=>K (put o.dst (.mp V.n) t) ((V.n,.mpI [])::own) (V.n+1)
  | _=>False):o.wp P a w next Q:=by
 have c:(execOp a.eval o).run P w=.ok (.value (.map (some w.heap.size))) (w.alloc (.map #[] 0)):=by simp only[execOp,j,Instr.makeMap,Option.map_none,Sem.run_bind,run_newObj_alloc,Sem.run_pure,Result.andThen_ok]
 have fin:∀r:R,RRep I (V.push w.heap.size undef (·=w.heap.size)) V.n (w.alloc (.map #[] 0)) r->K (put o.dst (.mp V.n) t) ((V.n,r)::own) (V.n+1)->o.wp P a w next Q:=λr hr f =>
  Rc (g:=.mp V.n) (y:=.map (some w.heap.size)) hK ha hd c (D2 hH ((ab _ _).alloc (au _) _) w.heap.size undef (·=w.heap.size) (λk e=>⟨Nat.le_of_eq e.symm,by subst e;simp⟩) hr) ((ab _ _).alloc (au _) _) (.push _ _ _ _) (TRep.of_c (g:=.mp V.n) ⟨da _,by simp[Va.push]⟩) f
 split at h
 .exact fin (.mpS []) ⟨λb=>by simp[Va.push],[],by simpa [Va.push] using Dx w Cd id,trivial⟩ h
 .exact fin (.mpI []) ⟨λb=>by simp[Va.push],[],by simpa [Va.push] using Dx w Ar id,trivial⟩ h
 .exact h.elim
theorem Z04 (h:Has I V own w){k:Nat}{l r:R}(q:look k own=some l)(p:∀b,V.f k b↔b=V.b k){c:Obj}(hr:RRep I V k (putObj w (V.b k) c) r):Later own I V w ((k,r)::own) I V (putObj w (V.b k) c) :=
 D7 h q rfl rfl rfl (C5 _ _ _) (λb j=>A8 w c λe=>j ((p b).2 e)) hr
theorem Zl (hT:∀t i,look t tb=some i->TIok P t i)(hL:Since own0 I0 V0 w0 own I V w)(hK:Nxt N own0 I0 V0 w0 K next)(ha:ARep N I V a t)(hd:∀i,o.dst=some i->i < N){ty:TypeId}{m k z:Operand}(F:o.op=.mapUpdate ty m k z\/o.op=.insert ty m k z)(h:match Pc tb ty with
  | .map str _=>ev t own m λg=>ev t own k λq=>ev t own z λu=>Z4j own g q u str λw=>K (put o.dst .un t) w V.n
  | _=>False):o.wp P a w next Q:=by
 unfold Pc at h;cases hl:look ty tb with
 | none=>rw[hl] at h;exact h.elim
 | some ti =>
  rw[hl] at h;dsimp only at h;have D:=(hT _ _ hl).kd;split at h
  .next str e he =>
   rw[he] at D;obtain⟨kt,ht,B⟩:=D;obtain⟨g,A,W⟩:=B1 h ha hL.has;clear h;have h:=A;clear A;obtain⟨q,A,E⟩:=B1 h ha hL.has;clear h;have h:=A;clear A;obtain⟨u,A,hu⟩:=B1 h ha hL.has;clear h;have h:=A;clear A;unfold Z4j at h;obtain⟨Y,o1,X,V1,A,T,c,O⟩:=Xv h hu hL.has;clear h;have h:=A;clear A;replace W:=W.mono c.fro.mono c.va;replace E:=E.mono c.fro.mono c.va;have fin:∀{κ:Type} [DecidableEq κ] {J:κ->Value} {l:List (κ × G)} (key:κ) {j:Nat} (mk:List (κ × G)->R),(∀l w,RRep X V1 j w (mk l)↔(∀b,V1.f j b↔b=V1.b j)/\MapR X w (V1.b j) J l)->KeyOk P kt J->a.eval m=.map (some (V1.b j))->a.eval k=J key->look j o1=some (mk l)->K (put o.dst .un t) ((j,mk (Gn l key Y))::o1) V.n->o.wp P a w next Q:=λ{κ _ J l} key {j} mk C M H e2 hr hk=>by
    obtain⟨Z,L,hB,hA⟩:=(C l w).1 (c.has.each j _ hr);obtain⟨ob,p,U⟩:=Ag (P:=P) M ht hB key (a.eval z);refine P3 hK hL ha hd (w':=putObj w (V1.b j) ob) ?_ (c.trans (Z04 (r:=mk (Gn l key Y)) c.has hr Z ((C _ _).2 ⟨Z,_,U,hA.put _ O⟩))) (T.1 ▸ hk);have p:(Instr.mapUpdate ty (a.eval m) (a.eval k) (a.eval z)).run P w=.ok () (putObj w (V1.b j) ob):=by rw[H,e2];exact p
    rcases F with F | F<;>simp only[execOp,F,Sem.run_bind,p,Result.andThen_ok,Sem.run_pure]
   split at h
   .next j =>
    obtain⟨hjn,H⟩:=Sk W;split at h
    .next l s hr=>exact fin s .mpS (λl w=>Iff.rfl) (Ic (by simpa using B)) H (Av E) hr h
    .next l n hr=>exact fin n .mpI (λl w=>Iff.rfl) (Lb (by simpa using B)) H (Av E) hr h
    .exact h.elim
   .exact h.elim
  .exact h.elim
theorem Al.keys {κ:Type}:∀{l:List (κ × G)} {L:List (κ × Value)},Al I l L->L.map (·.1)=l.map (·.1)
 | [],[],_=>rfl
 | p::l,q::L,h=>by simp[h.1,Al.keys h.2.2]
theorem Al.mem {κ:Type}{k:κ}{v:Value}:∀{l:List (κ × G)} {L:List (κ × Value)},Al I l L->(k,v)∈L->∃g,(k,g)∈l/\VRep I g v
 | [],[],_,b=>by cases b
 | p::l,q::L,h,b=>by
  rcases bo.1 b with e | b
  .subst e;exact⟨p.2,by rw[show k=p.1 from h.1];simp,h.2.1⟩
  .obtain⟨g,c,f⟩:=Al.mem h.2.2 b;exact⟨g,by simp[c],f⟩
theorem Zck (hT:∀t i,look t tb=some i->TIok P t i)(hH:Has I V own w)(ha:ARep N I V a t){ty:TypeId}{z:Operand}(U:o.op=.sliceToArrayPointer ty z)(h:match look ty tb with
  | some ⟨_,_,none,_,false,_,.arr m _ 1⟩=>ev t own z λg=>match g with
   | .sl f=>Zbe f m λl=>K (put o.dst (.elp l 0) t) own V.n
   | _=>False
  | _=>False):QOk S P I V own w a t o K:=by
 split at h
 .next ag ze fl ik m e T =>
  obtain⟨g,s,E⟩:=B1 h ha hH;clear h;obtain⟨L,-⟩:=(hT _ _ T).kd;split at s
  .next f =>
   obtain⟨F,r,h1,H,s⟩:=s;have J:=(show VRep I (.sl f) (a.eval z) from E);generalize D:a.eval z=X at J;cases J with
   | sl _ A c sz0 u hc hA hz hh huu =>
    have q:m<=f.length:=by have:=congrArg List.length H;simp at this;omega
    have row:∀j (B:j < m),f[j]?=some [r[j]'(by omega)]:=λj B=>by
     have Y:(f.take m)[j]?=f[j]?:=by rw[bp,dp B]
     rw[<-Y,H,ax,ap (by omega)];rfl
    obtain⟨b,W,rfl,Z⟩:=hh 0 _ (row 0 F);have O:sz0=1:=(hz _ (ar (row 0 F))).symm;subst O;refine⟨_,_,s,(.of_1 (g:=.elp _ 0) ⟨b,W,by rw[Nat.add_zero],λj g B=>?_⟩),λv _=>by simp only[execOp,U,D,Instr.arrayAt,run_underlying L,Nat.not_lt.2 q,if_false,Sem.run_bind,Result.andThen_ok,Sem.run_pure]⟩;have p:=(aq.1 B).1;obtain⟨b',o',M,C⟩:=hh j _ (row j (by omega));cases M;refine⟨u j 0,?_,?_⟩
    .have:=C 0 (by omega);rw[Nat.mul_one,Nat.add_zero] at this;exact this
    .have E:g=r[j]'p:=(ct ((ap p).symm.trans B)).symm;exact huu j _ 0 g (row j (by omega)) (by rw[E];rfl)
  .exact s.elim
 .exact h.elim
theorem Z89 {q:G}{op:BinOp}{ty:TypeId}(h:Zba tb q op ty=true):q=.nl/\op=.eql/\∃i e sz,look ty tb=some i/\i.elem=some (e,sz):=by
 unfold Zba at h;split at h
 .next b=>exact⟨rfl,rfl,_,_,_,b,rfl⟩
 .cases h
theorem Z9c (hT:∀t i,look t tb=some i->TIok P t i)(hH:Has I V own w)(ha:ARep N I V a t){op:BinOp}{ty C:TypeId}{x z:Operand}(E:o.op=.binOp op ty x z C)(h:ev t own x λg=>ev t own z λq=>match Zba tb q op ty with
  | true=>S1 own g λf=>Zb7 f λb=>K (put o.dst (.v (.bool b)) t) own V.n
  | false=>Zbj P tb ty op g q λg=>K (put o.dst g t) own V.n):QOk S P I V own w a t o K:=by
 obtain⟨g,p,F⟩:=B1 h ha hH;obtain⟨q,j,s⟩:=B1 p ha hH;clear h p;cases hn:Zba tb q op ty with
 | true =>
  rw[hn] at j;obtain⟨rfl,rfl,i,e,sz,H,B⟩:=Z89 hn;obtain⟨J,-⟩:=(hT _ _ H).elem e sz B;obtain⟨f,A,c,j,O,L⟩:=Ym j F hH;have M:a.eval z=.slice none 0 0:=by have s:=(show VRep I .nl (a.eval z) from s);generalize a.eval z=Z at s;cases s;rfl
  have j:=j.run A.isNone λD=>by
   cases A with
   | none=>exact dq (L rfl) D
   | some _=>rfl
  refine⟨_,_,j,.of_v (.v _),λu _=>?_⟩;have T:(Op.equal ty (.slice A f.length c) (.slice none 0 0)).run P u=.ok A.isNone u:=by show(Op.equalIn 10000 ty (.slice A f.length c) (.slice none 0 0)).run P u=_;unfold Op.equalIn;cases A<;>simp[run_underlying J]
  simp only[execOp,E,Sem.run_bind,O,M];simp[eqGuard,binOp,T]
 | false =>
  rw[hn] at j;obtain⟨r,v,j,hr,l⟩:=Z99 (P:=P) hT j F s;exact⟨_,_,j,hr,λu _=>by simp only[execOp,E,Sem.run_bind,(l u x z).1,(l u x z).2,Result.andThen_ok,Sem.run_pure]⟩
theorem Wt (hH:Has I V own w)(ha:ARep N I V a t){z:Operand}(s:o.op=.nilCheck z)(h:ev t own z λg=>match g with
  | .ptr k off=>K (put o.dst (.ptr k off) t) own V.n
  | .clo f a c=>K (put o.dst (.clo f a c) t) own V.n
  | .v (.func (.func f) a c)=>K (put o.dst (.v (.func (.func f) a c)) t) own V.n
  | _=>False):QOk S P I V own w a t o K:=by
 obtain⟨g,j,b⟩:=B1 h ha hH;clear h;split at j
 .next k off =>
  obtain⟨-,e⟩:=C6 b;exact⟨_,_,j,b,λu _=>by simp only[execOp,s,e];rfl⟩
 .next f p q =>
  have l:=b;obtain⟨-,A,cs,e,-⟩:=l;exact⟨_,_,j,b,λu _=>by simp only[execOp,s,e];rfl⟩
 .next f p q =>
  have e:=Av b;exact⟨_,_,j,b,λu _=>by simp only[execOp,s,e];rfl⟩
 .exact j.elim
end
end Go.Proofs.YtmmdikhljefeiaaGreat
