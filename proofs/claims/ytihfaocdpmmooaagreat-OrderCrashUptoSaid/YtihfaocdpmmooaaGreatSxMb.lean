
import Derived.Test.YtihfaocdpmmooaaGreatSxMa
import Derived.Great.FillDense
import Derived.Deep.OwnRows
import Derived.Lib.MinMax
import Derived.ArgAppend
import Derived.Laws.IdiomStrings
import Derived.Laws.CopyRow
namespace Go.Proofs.YtihfaocdpmmooaaGreat
open Go.RowKit
theorem Px:∀(l:List Value) (k off:Nat) (arr:Array Value),off+k+l.length≤arr.size →
  (l.zipIdx k).foldl (fun cs p=>cs.setIfInBounds (off+p.2) p.1) arr=(arr.toList.take (off+k)++l++arr.toList.drop (off+k+l.length)).toArray
 | [],k,off,arr,_=>by simp
 | x::l,k,off,arr,h=>by
  simp only[List.length_cons] at h;rw[List.zipIdx_cons,List.foldl_cons,Px l (k+1) off _ (by simp;omega)]
  congr 1
  have c:off+k < arr.toList.length:=by simp;omega
  simp only[Array.toList_setIfInBounds];rw[List.drop_set_of_lt (by omega),List.take_set,←cv,List.take_succ_eq_append_getElem c,List.set_append_right _ _ (by simp;omega)];have b:off+k≤arr.size:=by omega
  simp[Nat.min_eq_left b,Nat.add_assoc,Nat.add_comm 1]
section
variable {P:Program} {tb:List (Nat × TI)} {N n:Nat} {I I' I0:Imm} {V V' V0:Va} {a:Act} {t:Ts} {own own' own0:Os} {w w' w0:World} {g:G} {y:Value} {d:Option Tmp}
variable {XL:List Nat} {S:World→Prop} {K:Ts→Os→Nat→Prop} {next:Act→World→Prop} {Q:Exit→Act→World→Prop} {o:Oper}
theorem Zb4 (hT:∀t i,look t tb=some i→TIok P t i){F:List Field}(hz:∀f∈F,∃m,(P.info? f.type).map (·.size)=some (m+1)){b:List (Nat × Nat)}(E:F.mapM (fun f=>(P.info? f.type).map fun i=>(f.offset,i.size))=some b)(ha:ARep N I V a t)(hH:Has I V own w) :
  ∀{J:List (Nat × Operand)} {l:List G} {cs:List Value} {K1:List G→Prop},Zef tb t own (F.map fun f=>(f.type,f.offset)) J l K1→PW (CRep I V) l cs →
   ∃T s,K1 T∧PW (CRep I V) T s∧Instr.fill (b.toArray[·]?) cs.toArray (J.map fun p=>(p.1,a.eval p.2))=some s.toArray
 | [],l,cs,K1,h,hp=>⟨l,cs,h,hp,rfl⟩
 | (i,x)::J,l,cs,K1,h,hp=>by
  unfold Zef at h;rw[Er] at h;cases hf:(F.map fun f=>(f.type,f.offset))[i]? with
  | none=>rw[hf] at h;exact h.elim
  | some q =>
   obtain⟨L,fo⟩:=q;rw[hf] at h;dsimp only at h;cases hj:look L tb with
   | none=>rw[hj] at h;exact h.elim
   | some j =>
    rw[hj] at h;dsimp only at h;obtain⟨g,h,hg⟩:=B8 h ha hH;obtain⟨ds,h,hd,-⟩:=Hv h hg hH;obtain⟨hb,h⟩:=Z3n h;obtain⟨l1,h,W,B⟩:=R5 h hp hd;obtain⟨T,s,h1,h2,h3⟩:=Zb4 hT hz E ha hH h W;refine⟨T,s,h1,h2,?_⟩;rw[aj] at hf;obtain⟨O,C,Y⟩:=ay.1 hf;injection Y with e1 e2;have Z:b[i]?=some (fo,j.zero.length):=by
     have A:=(hT L j hj).size;have key:∀(F:List Field) (M:List (Nat × Nat)) (i:Nat),F.mapM (fun f=>(P.info? f.type).map fun i=>(f.offset,i.size))=some M→F[i]?=some O→M[i]?=(P.info? O.type).map fun i=>(O.offset,i.size):=by
      intro F
      induction F with
      | nil=>intro M i _ hi;simp at hi
      | cons f F ih =>
       intro M i z hi;simp only[List.mapM_cons,Option.bind_eq_bind,Option.pure_def] at z;cases hq:P.info? f.type with
       | none=>simp[hq] at z
       | some iq =>
        cases hr:F.mapM (fun f=>(P.info? f.type).map fun i=>(f.offset,i.size)) with
        | none=>simp[hq,hr] at z
        | some rest =>
         simp[hq,hr] at z;subst z;cases i with
         | zero=>simp at hi;subst hi;simp[hq]
         | succ i=>simpa using ih rest i hr (by simpa using hi)
     rw[key F b i E C,e1,e2];cases hq:P.info? L with
     | none=>rw[hq] at A;simp at A
     | some iq=>rw[hq] at A;simp at A;simp[A]
    have c:(a.eval x).cells.size=j.zero.length:=by rw[←hb,hd.1];simp
    have X:(a.eval x).cells.toList≠[]:=fun e=>by obtain⟨m,z⟩:=hz O (ae C);have A:=(hT L j hj).size;rw[e1,A] at z;injection z with z;have:=congrArg List.length e;simp at this;rw[this] at c;simp at c;omega
    have D:=B X;have U:(a.eval x).cells.toList.length=(a.eval x).cells.size:=by simp
    show Instr.fill (b.toArray[·]?) cs.toArray ((i,a.eval x)::J.map fun p=>(p.1,a.eval p.2))=_;unfold Instr.fill;have H:b.toArray[i]?=some (fo,j.zero.length):=by simpa using Z
    simp only[H,c];rw[db (by simp;rw[←c,←U];exact D),←h3]
    congr 1
    rw[←Array.foldl_toList,Array.toList_zipIdx];have:=Px (a.eval x).cells.toList 0 fo cs.toArray (by simpa using D);simpa using this
theorem Z3o {m sz:Nat}(ha:ARep N I V a t)(hH:Has I V own w) :
  ∀{s:List (Nat × Operand)} {l:List G} {cs:List Value} {K1:List G→Prop},Zh9 t own m sz s l K1→PW (CRep I V) l cs →
   ∃z c,K1 z∧PW (CRep I V) z c∧Instr.fill (fun i=>some (i * sz,sz)) cs.toArray (s.map fun p=>(p.1,a.eval p.2))=some c.toArray
 | [],l,cs,K1,h,hp=>⟨l,cs,h,hp,rfl⟩
 | (i,x)::s,l,cs,K1,h,hp=>by
  unfold Zh9 at h;split at h
  ·next M D =>
   have D:=da D;obtain⟨g,h,H⟩:=B8 h ha hH;obtain⟨ds,h,hd,-⟩:=Hv h H hH;obtain⟨E,h⟩:=Z3n h;obtain⟨O,h,B,q⟩:=R5 h hp hd;obtain⟨z,c,F,J,L⟩:=Z3o ha hH h B;refine⟨z,c,F,J,?_⟩;have b:(a.eval x).cells.size=sz:=by rw[←E,hd.1];simp
   have C:(a.eval x).cells.toList≠[]:=fun e=>by have:=congrArg List.length e;simp at this;rw[this] at b;simp at b;omega
   have f:=q C;have A:(a.eval x).cells.toList.length=(a.eval x).cells.size:=by simp
   have f:i * sz+(a.eval x).cells.toList.length≤cs.length:=f;show Instr.fill (fun i=>some (i * sz,sz)) cs.toArray ((i,a.eval x)::s.map fun p=>(p.1,a.eval p.2))=_;unfold Instr.fill;simp only[b];rw[db (by have j:=f;rw[A,b] at j;simp;exact j),←L]
   congr 1
   rw[←Array.foldl_toList,Array.toList_zipIdx];have:=Px (a.eval x).cells.toList 0 (i * sz) cs.toArray (by simpa using f);simpa using this
  ·exact h.elim
theorem Zh4 {sz:Nat}:∀{A:List (Nat × Operand)} {i:Nat} {own:Os} {I:Imm} {V:Va} {K1:List (List G)→Os→Prop},bsK t sz A i own K1→ARep N I V a t→Has I V own w →
  ∃rows own' I' V',∃vs:List Value,K1 rows own'∧(V'.n=V.n∧V.kp V')∧Later own I V w own' I' V' w∧A.map (fun p=>(p.1,a.eval p.2))=(vs.zipIdx i).map (fun x=>(x.2,x.1))∧vs.length=rows.length∧A.length=rows.length ∧
   (∀(i:Nat) r u,rows[i]?=some r→(vs.map fun v=>v.cells.toList)[i]?=some u→PW (VRep I') r u)∧(∀v∈vs,v.cells.size=sz)∧∀v∈vs,∀x∈v.cells.toList,x.oneCell'=true
 | [],i,own,I,V,K1,h,_,hH=>⟨[],own,I,V,[],h,⟨rfl,.refl _⟩,.refl hH,rfl,rfl,rfl,fun i r u h=>by simp at h,by simp,by simp⟩
 | (j,x)::A,i,own,I,V,K1,h,ha,hH=>by
  unfold bsK at h;cases D:Nat.beq j i with
  | false=>rw[D] at h;exact h.elim
  | true =>
   rw[D] at h;have D:=ai D;subst D;obtain⟨g,h,U⟩:=B8 h ha hH;obtain⟨cs,h,O,-⟩:=Hv h U hH;have z:∀{b:List G} {J:Os} {M:Imm} {V1:Va},bsK t sz A (j+1) J (fun rows B=>K1 (b::rows) B)→(V1.n=V.n∧V.kp V1)→Later own I V w J M V1 w→PW (VRep M) b (a.eval x).cells.toList→b.length=sz→B4 G.one b=true→∃rows own' I' V',∃vs:List Value,K1 rows own'∧(V'.n=V.n∧V.kp V')∧Later own I V w own' I' V' w∧(((j,x)::A).map fun p=>(p.1,a.eval p.2))=(vs.zipIdx j).map (fun x=>(x.2,x.1))∧vs.length=rows.length∧((j,x)::A).length=rows.length ∧
     (∀(i:Nat) r u,rows[i]?=some r→(vs.map fun v=>v.cells.toList)[i]?=some u→PW (VRep I') r u)∧(∀v∈vs,v.cells.size=sz)∧∀v∈vs,∀x∈v.cells.toList,x.oneCell'=true:=fun {b J M V1} h s f l q c=>by
    obtain⟨rows,o2,I2,V2,vs,L,F,E,W,Z,h4,h5,h6,Y⟩:=Zh4 (K1:=fun rows B=>K1 (b::rows) B) h (ha.mono f.fro.mono f.va) f.has;refine⟨_,o2,I2,V2,a.eval x::vs,L,⟨F.1.trans s.1,s.2.trans (Nat.le_of_eq s.1.symm) F.2⟩,f.trans E,by simp[W,List.zipIdx_cons],by simp[Z],by simp[h4],fun i r u hr T=>?_,fun v C=>?_,fun v C y hy=>?_⟩
    ·cases i with
     | zero=>simp at hr T;subst hr T;exact l.mono fun _ _ h=>h.mono E.fro.mono
     | succ i=>exact h5 i r u (by simpa using hr) (by simpa using T)
    ·rcases bi.1 C with rfl | C
     ·have:=l.1;rw[q] at this;simpa using this.symm
     ·exact h6 v C
    ·rcases bi.1 C with rfl | C
     ·obtain⟨m,X,e⟩:=cg.1 hy;have H:m < b.length:=by rw[l.1];exact X
      exact M6 (l.2 m b[m] y (ab H) (by rw[ab X,e])) (Ae c _ (bm H))
     ·exact Y v C y hy
   split at h
   ·obtain⟨b,J,M,V1,h,s,f,l⟩:=Oo h O hH;split at h
    ·next q c=>exact z h s f l (ai q) c
    ·exact h.elim
   ·obtain⟨⟨q,c⟩,h⟩:=h;exact z h ⟨rfl,.refl _⟩ (.refl hH) ⟨O.1,fun m g u L W=>(O.2 m g u L W).to_v (Fz (c g (ae L)))⟩ q (Gm fun g U=>P2 (c g U))
variable (hT:∀t i,look t tb=some i→TIok P t i) (hK:NxtB N own I V w K next) (hH:Has I V own w) (ha:ARep N I V a t) (hd:∀i,o.dst=some i→i < N)
include hT hH ha
theorem Zd6 {ty:TypeId}{b:Array (Nat × Operand)}(ho:o.op=.build ty b)(h:match look ty tb with
  | none=>False
  | some i=>match i.flds with
   | []=>match i.kd with
    | .arr m _ sz=>Zh9 t own m sz b.toList i.zero fun l=>Jt (Nat.mul m sz) l fun g=>K (put o.dst g t) own V.n
    | _=>False
   | f::fs=>Zef tb t own (f::fs) b.toList i.zero fun l=>Jt i.zero.length l fun g=>K (put o.dst g t) own V.n):QOk S P I V own w a t o K:=by
 cases hl:look ty tb with
 | none=>rw[hl] at h;exact h.elim
 | some i =>
  rw[hl] at h;have hi:=hT ty i hl;dsimp only at h;have J:PW (CRep I V) i.zero (i.zero.map G.val):=Z25 hi;obtain⟨z,W,E⟩:=ay.1 hi.zero;obtain⟨j,H,C⟩:=Option.bind_eq_some_iff.1 W;by_cases A:i.flds=[]
  ·rw[A] at h;dsimp only at h;have B:=hi.kd;split at h
   ·next m e sz hk =>
    rw[hk] at B;obtain⟨hu,Z⟩:=(show P.underlying ty=some (.array m e)∧(P.info? e).map (·.size)=some sz from B);obtain⟨ie,Y,D⟩:=ay.1 Z;obtain⟨l',s,U,h2,X⟩:=Z3o ha hH h J;obtain⟨g',h4,h5⟩:=Jl U h2;refine⟨_,_,h4,h5,fun u _=>?_⟩;have T:P.built ty (b.map fun p=>(p.1,a.eval p.2)).toList=some s.toArray:=by
     unfold Program.built;have e:z.cells=(i.zero.map G.val).toArray:=by rw[←E]
     simp only[H,hu,C,Y,D,e];simpa using X
    have hr:=run_build (P:=P) u ty _ _ T;simp only[execOp,ho,Sem.run_bind,Sem.run_pure];rw[hr];rfl
   ·exact h.elim
  ·have h:Zef tb t own i.flds b.toList i.zero fun l=>Jt i.zero.length l fun g=>K (put o.dst g t) own V.n:=by
    cases hq:i.flds with
    | nil=>exact de hq A
    | cons f fs=>rw[hq] at h;exact h
   obtain⟨F,hF,O,M⟩:=hi.flds A;have q:∃c,F.toList.mapM (fun f=>(P.info? f.type).map fun i=>(f.offset,i.size))=some c:=by
    generalize F.toList=L at M
    induction L with
    | nil=>exact⟨[],rfl⟩
    | cons f L ih =>
     obtain⟨pl,q⟩:=ih fun f hf=>M f (by simp[hf]);obtain⟨m,O⟩:=M f (by simp);cases hq:P.info? f.type with
     | none=>rw[hq] at O;simp at O
     | some iq=>exact⟨_,by simp only[List.mapM_cons,q,hq];rfl⟩
   obtain⟨c,q⟩:=q;rw[←O] at h;obtain⟨l',s,U,h2,X⟩:=Zb4 hT M q ha hH h J;obtain⟨g',h4,h5⟩:=Jl U h2;refine⟨_,_,h4,h5,fun u _=>?_⟩;have T:P.built ty (b.map fun p=>(p.1,a.eval p.2)).toList=some s.toArray:=by
    unfold Program.built;have e:z.cells=(i.zero.map G.val).toArray:=by rw[←E]
    simp only[H,hF,C,q,e];simpa using X
   have hr:=run_build (P:=P) u ty _ _ T;simp only[execOp,ho,Sem.run_bind,Sem.run_pure];rw[hr];rfl
include hK hd in
theorem Q8 {mo:Mo}{ty:TypeId}{len:Nat}{c:Array (Nat × Operand)}(ho:o.op=.buildSlice ty len c)(h:match look ty tb with
  | some ⟨_,_,some (e,sz),_,_,_,_⟩=>match Nat.beq c.toList.length len,Nat.ble (len * sz) 16777216 with
   | true,true=>bsK t sz c.toList 0 own fun rows w'=>Zfi (Zc4 tb mo ty sz) ((V.n,.slc rows e sz)::w') V.n fun g J=>K (put o.dst g t) J (V.n+1)
   | _,_=>False
  | _=>False):o.wp P a w next Q:=by
 split at h
 case h_2=>exact h.elim
 next ag ze e sz fl st ik kd hl =>
 split at h
 case h_2=>exact h.elim
 next q O =>
 have q:=ai q;have O:=da O;obtain⟨l,ie,z,h1,h2,L,h4,h5,-⟩:=(hT _ _ hl).elem e sz rfl;obtain⟨rows,o1,I1,V1,vs,B,⟨f,T⟩,H,k2,U,k4,k5,Y,k7⟩:=Zh4 h ha hH;have j:len=rows.length:=by rw[←q];exact k4
 have F:(vs.map fun v=>v.cells.toList).flatten.length=rows.length * sz:=by rw[Bm (sz:=sz) fun u l=>by obtain⟨v,M,rfl⟩:=ba.1 l;simpa using Y v M];simp[U]
 have A:(execOp a.eval o).run P w=.ok (.value (.slice (some ⟨w.heap.size,0,none⟩) len len)) (w.alloc (.cells (vs.map fun v=>v.cells.toList).flatten.toArray e)):=by
  by_cases h0:len=0
  ·subst h0;have Z:rows=[]:=am j.symm;have X:vs=[]:=am (by rw[U,Z];rfl);have hp0:c=#[]:=Array.eq_empty_of_size_eq_zero (by simpa using q);subst X hp0;have hs:(sizeOf e).run P w=.ok sz w:=Bx (by rw[h1];simp[L]) w;have e0:(Array.range 0:Array Nat)=#[]:=Array.eq_empty_of_size_eq_zero (by simp);simp[execOp,ho,Instr.buildSlice,run_underlying l,hs,Result.andThen,Instr.fill,newRow,e0]
  ·have W:=run_buildSlice (P:=P) w ty e len (c.map fun p=>(p.1,a.eval p.2)) (vs.map fun v=>v.cells.toList).flatten.toArray ie z l h1 h2 (by rw[L];omega) (by rw[L];exact Nat.mul_ne_zero h0 (by omega)) (by
    have hf:=Go.Great.fill_whole (s:=sz) h5 vs ((Array.range (len * ie.size)).map (z.cells[· % z.cells.size]!)) Y (by simp[L,U,j]);rw[L];rw[←k2,L] at hf;simpa [List.flatMap_def] using hf)
   simp only[execOp,ho,Sem.run_bind,Sem.run_pure];rw[W];rfl
 have D:=Dt (r:=.slc rows e sz) H.has ((Below.refl _ _).alloc (af _) (.cells (vs.map fun v=>v.cells.toList).flatten.toArray e)) 0 (.slice (some ⟨w.heap.size,0,none⟩) len len) (·=w.heap.size) (fun k e=>⟨Nat.le_of_eq e.symm,by subst e;simp⟩) ⟨fun b=>by simp[Va.push,Value.ownBlock,eq_comm],vs.map fun v=>v.cells.toList,⟨F,.inr ⟨w.heap.size,len,_,by simp[Va.push,j],ah _,heap_alloc_new _ _,by omega,?_,by simp only[List.size_toArray];rw[F,j],by simp only;rw[←F];exact List.take_length⟩⟩,by simp[U],fun i r u hr l=>(k5 i r u hr l),fun u l=>by obtain⟨v,M,rfl⟩:=ba.1 l;simpa using Y v M,fun u l x hx=>by obtain⟨v,M,rfl⟩:=ba.1 l;exact k7 v M x hx,h5⟩
 ·have E:(V1.push 0 (.slice (some ⟨w.heap.size,0,none⟩) len len) (·=w.heap.size)).n=V.n+1:=by simp[Va.push,f]
  have C:CRep I1 (V1.push 0 (.slice (some ⟨w.heap.size,0,none⟩) len len) (·=w.heap.size)) (.osl V.n) (.slice (some ⟨w.heap.size,0,none⟩) len len):=⟨by show V.n < V1.n+1;omega,by simp[Va.push,f]⟩;rw[←f] at B;cases hsb:Zc4 tb mo ty sz with
  | false =>
   rw[hsb] at B;exact Td (Q:=Q) (g:=.osl V.n) hK ha hd A (H.trans D) ((Below.refl _ _).alloc (af _) _) (T.trans (Nat.le_of_eq f.symm) (.push _ _ _ _)) (TRep.of_c (g:=.osl V.n) C) (by rw[E,←f];exact B)
  | true =>
   rw[hsb] at B;have B:Zas ((V1.n,.slc rows e sz)::o1) (.osl V1.n) fun g J=>K (put o.dst g t) J (V1.n+1):=B;rw[←f] at C;obtain⟨g',o3,I3,V3,p1,⟨p2,p3⟩,p4,p5⟩:=E7 B C D.has;exact Td (Q:=Q) (g:=g') hK ha hd A ((H.trans D).trans p4) ((Below.refl _ _).alloc (af _) _) ((T.trans (Nat.le_of_eq f.symm) (.push _ _ _ _)).trans (by rw[E];omega) p3) (.of_v p5) (by rw[p2,E,←f];exact p1)
 ·have:len≤len * sz:=Nat.le_mul_of_pos_right _ h5;unfold maxLen;omega
omit hT hK hH ha hd in
theorem Zih {I:Imm}{z x:Value}(h:VRep I (.v z) x):x=z:=by cases h;rfl
omit hT hK hH ha hd in
theorem Z6l {α:Type}(k:Nat)(x:α):(List.replicate k [x]).flatten=List.replicate k x:=by
 induction k with
 | zero=>rfl
 | succ k ih=>rw[List.replicate_succ,List.replicate_succ,b8,ih];rfl
omit hT hK hH ha hd in
theorem Z2o (b:Array Value)(sz k:Nat)(h:b.size=sz)(q:0 < sz):(madeCells b (k * sz)).toList=(List.replicate k b.toList).flatten:=by
 have p:(List.replicate k b.toList).flatten.length=k * sz:=by rw[Bm (sz:=sz) fun u l=>by rw[ct l];simpa using h];simp
 refine List.ext_getElem (by rw[p];simp[madeCells]) fun j B f=>?_;have z:j < k * sz:=by rw[p] at f;exact f
 have A:j / sz < k:=(Nat.div_lt_iff_lt_mul q).2 z;have C:j % sz < sz:=Nat.mod_lt _ q;have s:(madeCells b (k * sz)).toList[j]=b[j % sz]!:=by simp[madeCells,h]
 have e:(List.replicate k b.toList).flatten[j / sz * sz+j % sz]?=some b[j % sz]!:=D9 (u:=b.toList) (fun u l=>by rw[ct l];simpa using h) (by rw[List.getElem?_replicate,dc A]) (by
  have c:j % sz < b.size:=by omega
  rw[Array.getElem?_toList,Array.getElem?_eq_getElem c,getElem!_pos b _ c])
 rw[Nat.div_add_mod'] at e;rw[s];rw[ab f] at e;exact(cj e).symm
include hK hd in
theorem Yo {ty:TypeId}{len cap:Operand}(ho:o.op=.makeSlice ty len cap){ag:Bool}{zr B:List G}{e sz:Nat}{fl Y:List (TypeId × Nat)}{st U:Bool}{ik X:Option IntKind}{kd kd2:KD}{el2:Option (TypeId × Nat)}(hl:look ty tb=some ⟨ag,zr,some (e,sz),fl,st,ik,kd⟩)(W:look e tb=some ⟨true,B,el2,Y,U,X,kd2⟩)(h:match Nat.beq sz B.length,B4 Gx B with
        | true,true=>ev t own len fun p=>ev t own cap fun q=>match p,q with
         | .v (.int .i64 m),.v (.int .i64 c)=>(0≤m∧m≤1073741824∧c=m∧m * sz≤1073741824)∧K (put o.dst (.osl V.n) t) ((V.n,.slc (List.replicate m.toNat B) e sz)::own) (V.n+1)
         | _,_=>False
        | _,_=>False):o.wp P a w next Q:=by
 split at h
 case h_2=>exact h.elim
 next A D =>
 have A:=ai A;obtain⟨l,M,f,h1,h2,h3,h4,h5,h6⟩:=(hT _ _ hl).elem e _ rfl;have hz:=hT _ _ W;obtain⟨p,h,T⟩:=B8 h ha hH;obtain⟨q,h,hq⟩:=B8 h ha hH;split at h
 case h_2=>exact h.elim
 next m c =>
 obtain⟨⟨g1,g2,g3,g4⟩,h⟩:=h;subst g3;obtain⟨k,rfl⟩:=Int.eq_ofNat_of_zero_le g1;have T:a.eval len=.int .i64 k:=Zih T;have hq:a.eval cap=.int .i64 k:=Zih hq;have hzz:(P.info? e).bind (·.zero)=some f:=by rw[h1];exact h2
 have z:f.cells.toList=B.map G.val:=by have:=hz.zero;rw[hzz] at this;simpa using this
 have C:f.cells.size=sz:=by rw[←cd,z,aa,A]
 have H:=run_make (P:=P) w ty e M f l h1 h2 .i64 .i64 k k (by omega) (br _) (by
  have:M.bytes * k≤65536 * 1073741824:=Nat.mul_le_mul h6 (by omega);have e:(M.bytes:Int) * (k:Int)=((M.bytes * k:Nat):Int):=by rw[Int.natCast_mul]
  rw[e];omega) (by omega)
 simp only[Int.toNat_natCast,h3] at H;have L:(execOp a.eval o).run P w=.ok (.value (.slice (some ⟨w.heap.size,0,none⟩) k k)) (w.alloc (.cells (madeCells f.cells (k * sz)) e)):=by simp only[execOp,ho,T,hq,Sem.run_bind,Sem.run_pure];rw[H];rfl
 have E:=Z2o f.cells sz k C h5;have Z:∀I2:Imm,PW (VRep I2) B f.cells.toList:=fun I2=>by
  rw[z];refine⟨by simp,fun j g u O l=>?_⟩;rw[aj,O] at l;obtain⟨x,rfl,-⟩:=M0 (Ae D g (ae O));obtain rfl:x=u:=by simpa [G.val] using l
  exact .v _
 have F:∀x∈f.cells.toList,x.oneCell'=true:=fun x J=>by rw[z] at J;obtain⟨g,O,rfl⟩:=ba.1 J;obtain⟨y,rfl,hy⟩:=M0 (Ae D g O);exact hy
 have s:∀u∈List.replicate k f.cells.toList,u.length=sz:=fun u l=>by rw[ct l];simpa using C
 have hln:=Dt (r:=.slc (List.replicate k B) e sz) hH ((Below.refl _ _).alloc (af _) (.cells (madeCells f.cells (k * sz)) e)) 0 (.slice (some ⟨w.heap.size,0,none⟩) k k) (·=w.heap.size) (fun k e=>⟨Nat.le_of_eq e.symm,by subst e;simp⟩) ⟨fun b=>by simp[Va.push,Value.ownBlock,eq_comm],List.replicate k f.cells.toList,⟨by rw[Bm s];simp,.inr ⟨w.heap.size,k,_,by simp[Va.push],ah _,heap_alloc_new _ _,by simp,?_,by rw[←cd,E,Bm s];simp,by rw[E,ap (by rw[Bm s];simp)]⟩⟩,by simp,fun i r u hr l=>?_,s,fun u l x J=>by rw[ct l] at J;exact F x J,h5⟩
 ·exact Td (Q:=Q) (g:=.osl V.n) hK ha hd L hln ((Below.refl _ _).alloc (af _) _) (.push _ _ _ _) (TRep.of_c (g:=.osl V.n) ⟨by show V.n < V.n+1;omega,by simp[Va.push]⟩) h
 ·unfold maxLen;omega
 ·rw[ct (ae hr),ct (ae l)];exact Z _
include hK hd in
theorem Sr {ty:TypeId}{len cap:Operand}(ho:o.op=.makeSlice ty len cap)(h:match look ty tb with
  | some ⟨_,_,some (e,sz),_,_,_,_⟩=>match look e tb with
   | some ⟨false,[z],_,_,_,_,_⟩=>match Nat.beq sz 1 with
    | true=>ev t own len fun p=>ev t own cap fun q=>match p,q with
     | .v (.int .i64 m),.v (.int .i64 c)=>(0≤m∧m≤1073741824∧c=m)∧K (put o.dst (.osl V.n) t) ((V.n,.slc (List.replicate m.toNat [z]) e 1)::own) (V.n+1)
     | _,_=>False
    | false=>False
   | some ⟨true,L,_,_,_,_,_⟩=>match Nat.beq sz L.length,B4 Gx L with
    | true,true=>ev t own len fun p=>ev t own cap fun q=>match p,q with
     | .v (.int .i64 m),.v (.int .i64 c)=>(0≤m∧m≤1073741824∧c=m∧m * sz≤1073741824)∧K (put o.dst (.osl V.n) t) ((V.n,.slc (List.replicate m.toNat L) e sz)::own) (V.n+1)
     | _,_=>False
    | _,_=>False
   | _=>False
  | _=>False):o.wp P a w next Q:=by
 split at h
 case h_2=>exact h.elim
 next ag L e sz fl st ik kd hl =>
 split at h
 case h_2 L el2 fl2 Y ik2 kd2 A=>exact Yo hT hK hH ha hd ho hl A h
 case h_3=>exact h.elim
 next z el2 fl2 Y ik2 kd2 A =>
 split at h
 case h_2=>exact h.elim
 next B =>
 have B:=ai B;subst B;obtain⟨s,U,l,X,h2,h3,h4,h5,h6⟩:=(hT _ _ hl).elem e _ rfl;have T:=hT _ _ A;obtain⟨p,h,W⟩:=B8 h ha hH;obtain⟨q,h,hq⟩:=B8 h ha hH;split at h
 case h_2=>exact h.elim
 next m c =>
 obtain⟨⟨g1,g2,g3⟩,h⟩:=h;subst g3;obtain⟨k,rfl⟩:=Int.eq_ofNat_of_zero_le g1;have W:a.eval len=.int .i64 k:=Zih W;have hq:a.eval cap=.int .i64 k:=Zih hq;have M:(P.info? e).bind (·.zero)=some l:=by rw[X];exact h2
 have E:l.cells=#[l]:=by simpa using T.zag l M
 have J:l=z.val:=by have:=T.zero;rw[M] at this;simp[E] at this;exact this
 have C:(P.info? e).map (fun i=>(i.zero,i.size,i.bytes))=some (some l,1,U.bytes):=by rw[X];simp[h2,h3]
 have Z:=run_make_row' (P:=P) ty e l U.bytes s C E .i64 .i64 k (by have:U.bytes * k≤65536 * 1073741824:=Nat.mul_le_mul h6 (by omega);omega) (by omega) w
 have O:(execOp a.eval o).run P w=.ok (.value (.slice (some ⟨w.heap.size,0,none⟩) k k)) (w.alloc (.cells (madeCells #[l] k) e)):=by simp only[execOp,ho,W,hq,Sem.run_bind,Sem.run_pure];rw[Z];rfl
 have F:(madeCells #[l] k).toList=List.replicate k l:=by refine List.ext_getElem (by simp[madeCells]) fun j X h2=>?_;simp[madeCells,Nat.mod_one]
 have D:(List.replicate k [l]).flatten=List.replicate k l:=Z6l k l;have hpz:∀I2:Imm,VRep I2 z l:=fun I2=>by
  have f:=T.zok;rw[J];have f:zOK z=true:=by simpa [B4] using f
  revert f;cases z<;>intro f<;>first | (cases f;done) | exact .v _ | exact .ff | exact .tt | exact .nl | exact .un
 have H:l.oneCell'=true:=by
  have f:zOK z=true:=by simpa [B4] using T.zok
  rw[J];revert f;cases z<;>intro f<;>first | (cases f;done) | rfl | exact f | (simpa [zOK] using f)
 have hln:=Dt (r:=.slc (List.replicate k [z]) e 1) hH ((Below.refl _ _).alloc (af _) (.cells (madeCells #[l] k) e)) 0 (.slice (some ⟨w.heap.size,0,none⟩) k k) (·=w.heap.size) (fun k e=>⟨Nat.le_of_eq e.symm,by subst e;simp⟩) ⟨fun b=>by simp[Va.push,Value.ownBlock,eq_comm],List.replicate k [l],⟨by rw[D];simp,.inr ⟨w.heap.size,k,_,by simp[Va.push],ah _,heap_alloc_new _ _,by simp,?_,by rw[←cd,F];simp,by rw[F,D];simp⟩⟩,by simp,fun i r u hr s=>?_,fun u s=>by rw[ct s];rfl,fun u s x hx=>by rw[ct s] at hx;rw[bo.1 hx];exact H,Nat.one_pos⟩
 ·exact Td (Q:=Q) (g:=.osl V.n) hK ha hd O hln ((Below.refl _ _).alloc (af _) _) (.push _ _ _ _) (TRep.of_c (g:=.osl V.n) ⟨by show V.n < V.n+1;omega,by simp[Va.push]⟩) h
 ·unfold maxLen;omega
 ·rw[ct (ae hr),ct (ae s)];exact .cons (hpz _) .nil
end
section
variable {P:Program} {tb:List (Nat × TI)} {N n:Nat} {I I' I0:Imm} {V V' V0:Va} {a:Act} {t:Ts} {own own' own0:Os} {w w' w0:World} {g:G} {y:Value} {d:Option Tmp}
variable {XL:List Nat} {S:World→Prop} {K:Ts→Os→Nat→Prop} {next:Act→World→Prop} {Q:Exit→Act→World→Prop} {o:Oper} {r:R}
theorem Z3q {K1:List (List G)→Prop}(h:Tu own g K1)(B:TRep I V g y)(hH:Has I V own w):∃rows A c,K1 rows∧y=.slice A rows.length c∧(A=none→rows=[]):=by
 cases g with
 | nl=>cases(show VRep I .nl y from B);exact⟨_,none,0,h,rfl,fun _=>rfl⟩
 | sl l =>
  cases(show VRep I (.sl l) y from B) with
  | sl _ A c sz u hc p hz hh hu=>exact⟨_,A,c,h,rfl,fun e=>am (by have:=p e;omega)⟩
 | osl k =>
  obtain⟨J,rfl⟩:=(show k < V.n∧y=V.s k from B);unfold Tu at h;dsimp only at h;split at h
  ·next rows e sz hr =>
   obtain⟨-,rs,⟨-,z⟩,-⟩:=hH.each k _ hr;rcases z with⟨f,h8⟩ | ⟨b,cap,cur,f,-⟩
   ·exact⟨_,none,0,h,by rw[f,h8],fun _=>am h8⟩
   ·exact⟨_,_,_,h,f,fun e=>by cases e⟩
  ·next rows sz hr =>
   have D:=(hH.each k _ hr).2.1;generalize V.s k=y at D;cases D with
   | sl _ A c sz u hc p hz hh hu=>exact⟨_,A,c,h,rfl,fun e=>am (by have:=p e;omega)⟩
  ·next rows e sz hr =>
   obtain⟨-,rs,⟨-,z⟩,-⟩:=hH.each k _ hr;rcases z with⟨f,h8⟩ | ⟨b,q,cap,cur,f,-⟩
   ·exact⟨_,none,0,h,by rw[f,h8],fun _=>am h8⟩
   ·exact⟨_,_,_,h,f,fun e=>by cases e⟩
  ·exact h.elim
 | osv k sz lo hi =>
  obtain⟨J,⟨E,j⟩,rfl⟩:=(show k < V.n∧(lo≤hi∧hi≤Nb (V.s k))∧y=Hz sz (V.s k) lo hi from B);unfold Tu at h;dsimp only at h;split at h
  ·next rows e L hr =>
   obtain⟨-,rs,⟨-,z⟩,-⟩:=hH.each k _ hr;have key:∃A c,V.s k=.slice A rows.length c∧(A=none→rows.length=0):=by
    rcases z with⟨f,h8⟩ | ⟨b,cap,cur,f,-⟩
    ·exact⟨none,0,by rw[f,h8],fun _=>h8⟩
    ·exact⟨_,_,f,fun e=>by cases e⟩
   obtain⟨A,c,H,F⟩:=key;rw[H] at j⊢;have j:hi≤rows.length:=j;have C:(Es rows lo hi).length=hi - lo:=by unfold Es;simp;omega
   refine⟨_,(if c=lo then A else A.map (·.add (lo * sz))),c - lo,h,by rw[C];rfl,fun e=>am ?_⟩;have p:A=none:=by
    cases A with
    | none=>rfl
    | some x=>split at e<;>cases e
   have:=F p;rw[C];omega
  ·exact h.elim
 | _=>exact False.elim h
theorem Wq {sz:Nat}{K1:List (List G)→Prop}(h:Z5x own g sz K1)(hg:TRep I V g y)(hH:Has I V own w):∃new A c,∃rs:List (List Value),K1 new∧y=.slice A new.length c∧(A=none→new.length=0∧c=0)∧rs.length=new.length∧(∀(i:Nat) r u,new[i]?=some r→rs[i]?=some u→PW (VRep I) r u)∧(∀u∈rs,u.length=sz)∧(∀u∈rs,∀x∈u,x.oneCell'=true)∧∀a,A=some a→∀(j:Nat) u,rs.flatten[j]?=some u→w.cell? (a.add j)=some u:=by
 cases g with
 | nl=>cases(show VRep I .nl y from hg);exact⟨[],none,0,[],h,rfl,fun _=>⟨rfl,rfl⟩,rfl,fun i r u h=>by simp at h,by simp,by simp,fun a e=>by cases e⟩
 | sl l =>
  obtain⟨hr,h⟩:=h;obtain⟨A,c,rs,e,h1,F,J,E,L,h6⟩:=Zbv (show VRep I (.sl l) y from hg) hH.mem fun r hm=>(hr r hm).1;refine⟨l,A,c,rs,h,e,fun e=>⟨by rw[(F e).1];rfl,(F e).2⟩,J,E,L,fun u z x X=>?_,fun a ha j u z=>(h6 a ha j u z).2⟩;obtain⟨i,hi,e⟩:=cg.1 z;have Y:i < l.length:=by omega
  have hp:=E i l[i] u (ab Y) (by rw[ab hi,e]);obtain⟨m,hm,U⟩:=cg.1 X;have Z:m < l[i].length:=by rw[hp.1];exact hm
  exact M6 (hp.2 m l[i][m] x (ab Z) (by rw[ab hm,U])) (List.all_eq_true.1 (hr _ (bm Y)).2 _ (bm Z))
 | osl k =>
  obtain⟨hk,rfl⟩:=(show k < V.n∧y=V.s k from hg);unfold Z5x at h;dsimp only at h;split at h
  ·next rows e sz' hr =>
   split at h
   ·next C =>
    have C:=ai C;subst C;obtain⟨-,rs,H,F,J,E,L,h6⟩:=hH.each k _ hr;rcases H.2 with⟨p,h8⟩ | ⟨b,cap,cur,p,-⟩
    ·exact⟨rows,none,0,rs,h,by rw[p,h8],fun _=>⟨h8,rfl⟩,F,J,E,L,fun a e=>by cases e⟩
    ·exact⟨rows,_,_,rs,h,p,(fun e=>by cases e),F,J,E,L,fun a e j u z=>by cases e;exact H.cells (g:=b) (by rw[p];rfl) j u z⟩
   ·exact h.elim
  ·exact h.elim
 | osv k sz0 lo hi =>
  obtain⟨hk,⟨b1,b2⟩,rfl⟩:=(show k < V.n∧(lo≤hi∧hi≤Nb (V.s k))∧y=Hz sz0 (V.s k) lo hi from hg);unfold Z5x at h;dsimp only at h;split at h
  ·next rows e sz' hr =>
   split at h
   ·next C B =>
    have C:=ai C;have B:=ai B;subst C B;obtain⟨-,rs,H,F,J,E,L,h6⟩:=hH.each k _ hr;have f:(Es rows lo hi).length=hi - lo:=by unfold Es;rw[bc,aw];rcases H.2 with⟨p,h8⟩ | ⟨b,cap,cur,p,-⟩<;>(rw[p] at b2;simp only[Nb] at b2;omega)
    have W:∀(i:Nat) r u,(Es rows lo hi)[i]?=some r→((rs.take hi).drop lo)[i]?=some u→PW (VRep I) r u:=fun i r u D O=>by
     unfold Es at D;rw[bw] at D O;have M:lo+i < hi:=by have:=(ac.1 D).1;rw[aw] at this;omega
     rw[List.getElem?_take_of_lt M] at D O;exact J _ r u D O
    rcases H.2 with⟨p,h8⟩ | ⟨b,cap,cur,p,-,-,h9,-⟩
    ·have T:hi=0∧lo=0:=by rw[p] at b2;simp only[Nb] at b2;omega
     obtain⟨rfl,rfl⟩:=T;refine⟨Es rows 0 0,none,0,(rs.take 0).drop 0,h,by rw[p,f];rfl,fun _=>⟨f,rfl⟩,by rw[f];simp,W,by simp,by simp,fun a e=>by cases e⟩
    ·refine⟨Es rows lo hi,if cap=lo then some ⟨b,0,none⟩ else(some (⟨b,0,none⟩:Addr)).map (·.add (lo * sz0)),cap - lo,(rs.take hi).drop lo,h,by rw[p,f];rfl,fun e=>(by split at e<;>cases e),by rw[f,bc,aw];rw[p] at b2;simp only[Nb] at b2;omega,W,fun u z=>E u (be (b7 z)),fun u z=>L u (be (b7 z)),fun a e j u z=>?_⟩;have hlr:hi≤rs.length:=by rw[F];rw[p] at b2;simpa [Nb] using b2
     have hf:rs.flatten[lo * sz0+j]?=some u:=by
      have e1:rs=rs.take lo++((rs.take hi).drop lo++rs.drop hi):=by
       conv=>lhs;rw[←cx hi rs,←cx lo (rs.take hi),List.take_take,cf b1,bx]
      have U:(rs.take lo).flatten.length=lo * sz0:=by
       have:∀(l:List (List Value)),(∀u∈l,u.length=sz0)→l.flatten.length=l.length * sz0:=fun l=>by
        induction l with
        | nil=>intro _;simp
        | cons u l ih=>intro h;rw[b8,ax,h u (by simp),ih fun x X=>h x (by simp[X]),bd,Nat.succ_mul];omega
       rw[this _ fun u z=>E u (be z),aw,cf (by omega)]
      rw[e1,List.flatten_append,bf (by omega),U,Nat.add_sub_cancel_left,List.flatten_append,bl (ac.1 z).1];exact z
     split at e
     ·next hc =>
      exfalso;have:lo=hi:=by
       have:hi≤cap:=by rw[p] at b2;simp only[Nb] at b2;omega
       omega
      subst this;rw[List.drop_of_length_le (by rw[aw];omega)] at z;simp at z
     ·cases e;have:=H.cells (g:=b) (by rw[p];rfl) (lo * sz0+j) u hf;show w.cell? ((Addr.add ⟨b,0,none⟩ (lo * sz0)).add j)=some u;rw[Addr.add_lit,Addr.add_lit];rw[Addr.add_lit] at this;rw[show 0+lo * sz0+j=0+(lo * sz0+j) by omega];exact this
   ·exact h.elim
  ·next rows e' sz' hr =>
   split at h
   ·next C B =>
    have C:=ai C;have B:=ai B;subst C B;obtain⟨-,rs,H,F,J,E,L,h6⟩:=hH.each k _ hr;have f:(Es rows lo hi).length=hi - lo:=by unfold Es;rw[bc,aw];rcases H.2 with⟨p,h8⟩ | ⟨b,q,cap,cur,p,-⟩<;>(rw[p] at b2;simp only[Nb] at b2;omega)
    have W:∀(i:Nat) r u,(Es rows lo hi)[i]?=some r→((rs.take hi).drop lo)[i]?=some u→PW (VRep I) r u:=fun i r u D O=>by
     unfold Es at D;rw[bw] at D O;have M:lo+i < hi:=by have:=(ac.1 D).1;rw[aw] at this;omega
     rw[List.getElem?_take_of_lt M] at D O;exact J _ r u D O
    rcases H.2 with⟨p,h8⟩ | ⟨b,q,cap,cur,p,hgg,h9,hcm,hcs,htk⟩
    ·have T:hi=0∧lo=0:=by rw[p] at b2;simp only[Nb] at b2;omega
     obtain⟨rfl,rfl⟩:=T;refine⟨Es rows 0 0,none,0,(rs.take 0).drop 0,h,by rw[p,f];rfl,fun _=>⟨f,rfl⟩,by rw[f];simp,W,by simp,by simp,fun a e=>by cases e⟩
    ·refine⟨Es rows lo hi,if cap=lo then some ⟨b,q,none⟩ else(some (⟨b,q,none⟩:Addr)).map (·.add (lo * sz0)),cap - lo,(rs.take hi).drop lo,h,by rw[p,f];rfl,fun e=>(by split at e<;>cases e),by rw[f,bc,aw];rw[p] at b2;simp only[Nb] at b2;omega,W,fun u z=>E u (be (b7 z)),fun u z=>L u (be (b7 z)),fun a e j u z=>?_⟩;have hlr:hi≤rs.length:=by rw[F];rw[p] at b2;simpa [Nb] using b2
     have hf:rs.flatten[lo * sz0+j]?=some u:=by
      have e1:rs=rs.take lo++((rs.take hi).drop lo++rs.drop hi):=by
       conv=>lhs;rw[←cx hi rs,←cx lo (rs.take hi),List.take_take,cf b1,bx]
      have U:(rs.take lo).flatten.length=lo * sz0:=by
       have:∀(l:List (List Value)),(∀u∈l,u.length=sz0)→l.flatten.length=l.length * sz0:=fun l=>by
        induction l with
        | nil=>intro _;simp
        | cons u l ih=>intro h;rw[b8,ax,h u (by simp),ih fun x X=>h x (by simp[X]),bd,Nat.succ_mul];omega
       rw[this _ fun u z=>E u (be z),aw,cf (by omega)]
      rw[e1,List.flatten_append,bf (by omega),U,Nat.add_sub_cancel_left,List.flatten_append,bl (ac.1 z).1];exact z
     split at e
     ·next hc =>
      exfalso;have:lo=hi:=by
       have:hi≤cap:=by rw[p] at b2;simp only[Nb] at b2;omega
       omega
      subst this;rw[List.drop_of_length_le (by rw[aw];omega)] at z;simp at z
     ·cases e;show w.cell? ((Addr.add ⟨b,q,none⟩ (lo * sz0)).add j)=some u;rw[Addr.add_lit,Addr.add_lit,cell_of_row w b _ cur e' (0,0) hgg];rw[←htk,bj] at hf;split at hf
      ·rw[bw] at hf;rw[show q+lo * sz0+j=q+(lo * sz0+j) by omega];simpa using hf
      ·cases hf
   ·exact h.elim
  ·exact h.elim
 | _=>exact False.elim h
theorem Jj (h:Has I V own w){k:Nat}{L:R}(T:look k own=some L)(W:w'.os=w.os)(htp:w'.tape=w.tape)(hou:w'.output=w.output)(M:w.heap.size≤w'.heap.size)(J:∀b,b < w.heap.size→¬V.f k b→w'.heap[b]?=w.heap[b]?)
  (s:Value) (f:Nat→Prop) (hf:∀b,f b→(V.f k b∨w.heap.size≤b)∧b < w'.heap.size) (hr:RRep I ((V.drop k).push 0 s f) V.n w' r):Later own I V w ((V.n,r)::(k,.gone)::own) I ((V.drop k).push 0 s f) w':=by
 have X:=h.num k L T;have H:∀j r',look j own=some r'→j≠k→∀b,V.f j b→¬V.f k b:=fun j r' p H b c l=>H (h.disj j k r' L b p T c l);have z:∀j r',look j ((V.n,r)::(k,.gone)::own)=some r'→(j=V.n∧r'=r)∨(j≠V.n∧j=k∧r'=.gone)∨(j≠V.n∧j≠k∧look j own=some r'):=fun j r' p=>by
  rw[A5] at p;split at p
  ·next e=>cases p;exact .inl ⟨e,rfl⟩
  ·next e =>
   rw[A5] at p;split at p
   ·next q=>cases p;exact .inr (.inl ⟨e,q,rfl⟩)
   ·next q=>exact .inr (.inr ⟨e,q,p⟩)
 have hV:V.le ((V.drop k).push 0 s f):=⟨Nat.le_succ _,fun j p=>by simp[Va.push,Va.drop,Nat.ne_of_lt p]⟩;have E:((V.drop k).push 0 s f).f V.n=f:=by simp[Va.push,Va.drop]
 have A:∀j,j≠V.n→j≠k→((V.drop k).push 0 s f).f j=V.f j:=fun j D h2=>by simp[Va.push,Va.drop,D,h2]
 have B:∀b,¬((V.drop k).push 0 s f).f k b:=fun b=>by simp[Va.push,Va.drop,Nat.ne_of_lt X]
 refine⟨⟨h.mem.keep fun b o x hx=>J b (h.mem.lt hx) fun O=>(by have:=(h.foot k L b T O).2 o;rw[hx] at this;cases this),fun j r' p=>?_,fun j r' p=>?_,fun j r' b p c=>?_,fun j U r1 Z b p Y c l=>?_⟩,⟨W,htp,hou,M,fun b c hn=>⟨J b c (hn k L T),fun _=>rfl⟩,fun _ _ _ h=>h,fun j r' b p c hlt=>?_⟩,hV⟩
 ·rcases z j r' p with⟨e,-⟩ | ⟨-,e,-⟩ | ⟨-,-,e⟩
  ·rw[e];exact cu _
  ·rw[e];exact Nat.lt_succ_of_lt X
  ·exact Nat.lt_succ_of_lt (h.num j r' e)
 ·rcases z j r' p with⟨e,q⟩ | ⟨-,e,q⟩ | ⟨F,C,e⟩
  ·rw[e,q];exact hr
  ·rw[e,q];exact B
  ·exact(h.each j r' e).keep (.refl _) hV (h.num j r' e) (A j F C) W M fun b c=>J b (h.foot j r' b e c).1 (H j r' e C b c)
 ·rcases z j r' p with⟨e,q⟩ | ⟨-,e,q⟩ | ⟨F,C,e⟩
  ·rw[e,E] at c;refine⟨(hf b c).2,fun o=>?_⟩;rcases(hf b c).1 with D | D
   ·exact(h.foot k L b T D).2 o
   ·cases hI:I b o with
    | none=>rfl
    | some x=>exact de (h.mem.lt hI) (by omega)
  ·rw[e] at c;exact de c (B b)
  ·rw[A j F C] at c;exact⟨aq (h.foot j r' b e c).1 M,(h.foot j r' b e c).2⟩
 ·have key:∀j r',look j own=some r'→j≠V.n→j≠k→V.f j b→¬f b:=fun j r' p F C c O=>by
   rcases(hf b O).1 with D | D
   ·exact H j r' p C b c D
   ·have:=(h.foot j r' b p c).1;omega
  rcases z j r1 p with⟨e,-⟩ | ⟨-,e,-⟩ | ⟨F,C,e⟩
  ·rcases z U Z Y with⟨q,-⟩ | ⟨-,q,-⟩ | ⟨e1',e2',q⟩
   ·rw[e,q]
   ·rw[q] at l;exact de l (B b)
   ·rw[e,E] at c;rw[A U e1' e2'] at l;exact de c (key U Z q e1' e2' l)
  ·rw[e] at c;exact de c (B b)
  ·rw[A j F C] at c;rcases z U Z Y with⟨q,-⟩ | ⟨-,q,-⟩ | ⟨e1',e2',q⟩
   ·rw[q,E] at l;exact de l (key j r1 e F C c)
   ·rw[q] at l;exact de l (B b)
   ·rw[A U e1' e2'] at l;exact h.disj j U r1 Z b e q c l
 ·rcases z j r' p with⟨e,-⟩ | ⟨-,e,-⟩ | ⟨F,C,e⟩
  ·rw[e,E] at c;rcases(hf b c).1 with D | D
   ·exact⟨k,L,T,D⟩
   ·omega
  ·rw[e] at c;exact de c (B b)
  ·rw[A j F C] at c;exact⟨j,r',e,c⟩
theorem Rp (t ty e:TypeId)(i:TypeInfo)(z:Value)(size bytes:Nat)(U:P.underlying t=some (.slice e))(hi:P.info? e=some i)(hz:i.zero=some z)
  (p:i.size=size) (L:i.bytes=bytes) (F:z.cells.size=size) (J:0 < size) (v:Value) (n:Nat) (xs:List Value) (l:Ds w e size v n xs)
  (A:Option Addr) (m c:Nat) (f:List Value) (D:f.length=m * size) (hA:A=none→m=0∧c=0) (h:∀a,A=some a→∀j u,f[j]?=some u→w.cell? (a.add j)=some u) (h1:∀u∈f,u.oneCell'=true)
  (M:n+m≤maxLen) (B:(n+m) * bytes≤140737488355328) :
  ∃C w',(Builtin.append_ #[t,t] ty #[v,.slice A m c]).run P w=.ok C w'∧Ds w' e size C (n+m) (xs++f)∧w.grownBy w' v.ownBlock∧(C.ownBlock=v.ownBlock∨∃g,C.ownBlock=some g∧w.heap.size≤g∧g < w'.heap.size):=by
 rcases l.2 with⟨rfl,rfl⟩ | ⟨g,q,cap,cur,rfl,hg,hn,hm,hc,htake⟩
 ·have hx:xs=[]:=am (by simpa using l.1);subst hx;obtain⟨C,w',Z,O,E,r4⟩:=Z2d (P:=P) (w:=w) t ty e i z size bytes U hi hz p L F J (.slice none 0 0) 0 [] (World.ownsRow_nil w 0 e size) A m c f D hA h h1 M B;exact⟨C,w',Z,Qh O,E,r4⟩
 cases A with
 | none =>
  obtain⟨rfl,rfl⟩:=hA rfl;have W:f=[]:=am (by simpa using D);subst W;refine⟨_,w,?_,by simpa using l,World.grownBy.refl _ _,.inl rfl⟩;simp[Builtin.append_,run_underlying U,sizeOf,typeInfo,hi,Builtin.lenOf,Builtin.firstCells,hn,storeCells]
 | some a =>
  have h:=h a rfl;by_cases s:n+m≤cap
  ·subst p;have hmul:n * i.size+f.length≤cap * i.size:=by rw[D,←Nat.add_mul];exact Nat.mul_le_mul_right _ s
   have hf:=run_firstCells_some (P:=P) w i.size m a m c f D h;have T:=run_storeCells_at P g (q+n * i.size) e f 0 cur w hg (by omega) h1;simp only[Nat.add_zero] at T;have hcl:cur.toList.length=cur.size:=cd;refine⟨.slice (some ⟨g,q,none⟩) (n+m) cap,w.setRow g (cur.toList.take (q+n * i.size)++f++cur.toList.drop (q+n * i.size+f.length)).toArray,by simp[Builtin.append_,run_underlying U,sizeOf,typeInfo,hi,Builtin.lenOf,s,hf,Addr.add_lit,T],⟨by rw[ax,l.1,D,Nat.add_mul],.inr ⟨g,q,cap,_,rfl,setRow_heap w _ cur _ e _ hg,s,hm,?_,?_⟩⟩,⟨rfl,rfl,rfl,by simp[World.setRow],fun b hb Y=>setRow_other w _ b _ (fun e=>Y (by rw[e];rfl))⟩,.inl rfl⟩
   ·simp;omega
   ·have hX:(cur.toList.take (q+n * i.size)).drop q=xs:=by rw[List.drop_take,Nat.add_sub_cancel_left];exact htake
    have X:(n+m) * i.size=(xs++f).length:=by rw[ax,l.1,D,Nat.add_mul]
    show List.take _ (List.drop q (cur.toList.take (q+n * i.size)++f++cur.toList.drop (q+n * i.size+f.length)))=_;rw[bx,List.drop_append_of_le_length (by rw[aw,hcl];omega),hX,←bx,X,List.take_left]
  ·obtain⟨C,w',Z,O,E⟩:=run_append_arg_grows (P:=P) w t ty e i z size bytes U hi hz p L F J ⟨g,q,none⟩ n cap xs l.1 (fun j u H=>by
    rw[Addr.add_lit,cell_of_row w g _ cur e (0,0) hg];rw[←htake,bj] at H;split at H
    ·rw[bw] at H;simpa using H
    ·cases H) a m c f D h (by omega) M B
   refine⟨C,w',Z,Qh O,⟨E.os,E.tape,E.output,E.size,fun b hb _=>E.block b hb (by simp)⟩,?_⟩;cases hv:C.ownBlock with
   | none =>
    exfalso;rcases O.2 with⟨-,h0⟩ | ⟨g',cap',cur',rfl,-⟩
    ·omega
    ·cases hv
   | some g'=>exact .inr ⟨g',rfl,O.lt g' hv⟩
theorem Yu {rs:List (List Value)}{sz:Nat}(h:∀u∈rs,u.length=sz):∀l,rs.flatten.take (l * sz)=(rs.take l).flatten:=by
 intro l
 induction l generalizing rs with
 | zero=>simp
 | succ l ih =>
  cases rs with
  | nil=>simp
  | cons u rs =>
   have b:=h u (by simp);rw[b8,List.take_succ_cons,b8,←ih fun x c=>h x (by simp[c]),show(l+1) * sz=u.length+l * sz by rw[b,Nat.succ_mul];omega,List.take_length_add_append]
theorem Z9y {rows new:List (List G)}{f rs:List (List Value)}{k e sz:Nat}{w':World}{h:Value}(q:Ds w' e sz h (rows.length+new.length) (f.flatten++rs.flatten))(j:f.length=rows.length)(E:∀(i:Nat) r u,rows[i]?=some r→f[i]?=some u→PW (VRep I) r u)(D:∀u∈f,u.length=sz)(l:∀u∈f,∀x∈u,x.oneCell'=true)
  (p:rs.length=new.length) (B:∀(i:Nat) r u,new[i]?=some r→rs[i]?=some u→PW (VRep I) r u) (A:∀u∈rs,u.length=sz) (z:∀u∈rs,∀x∈u,x.oneCell'=true) (C:0 < sz):RRep I ((V.drop k).push 0 h fun b=>h.ownBlock=some b) V.n w' (.vw (rows++new) e sz):=by
 refine⟨fun b=>by simp[Va.push,Va.drop],f++rs,?_,by simp[j,p],fun i r u hr c=>?_,fun u c=>?_,fun u c=>?_,C⟩
 ·have:((V.drop k).push 0 h fun b=>h.ownBlock=some b).s V.n=h:=by simp[Va.push,Va.drop]
  rw[this,ax,List.flatten_append];exact q
 ·by_cases hi:i < rows.length
  ·rw[bl hi] at hr;rw[bl (by omega)] at c;exact E i r u hr c
  ·rw[bf (by omega)] at hr;rw[bf (by omega),j] at c;exact B _ r u hr c
 ·rcases bu.1 c with c | c
  ·exact D u c
  ·exact A u c
 ·rcases bu.1 c with c | c
  ·exact l u c
  ·exact z u c
def Zdj (V:Va)(w w':World)(g:G):Prop:=match g with
 | .osl k=>∀b,b < w.heap.size→¬V.f k b→w'.heap[b]?=w.heap[b]?
 | .orv k _ _ _ _ _=>∀b,b < w.heap.size→¬V.f k b→w'.heap[b]?=w.heap[b]?
 | _=>∀b,b < w.heap.size→w'.heap[b]?=w.heap[b]?
theorem Zic {g0:G}(hKV:∀t own' I' V' e w',K t own' V'.n→Later own I V w own' I' V' w'→Zdj V w w' g0→V.kp V'→ARep N I' V' e t→next e w')(ha:ARep N I V a t)(hd:∀i,o.dst=some i→i < N)
  (hr:(execOp a.eval o).run P w=.ok (.value y) w') (b:Later own I V w own' I' V' w') (hf:Zdj V w w' g0) (c:V.kp V') (hy:TRep I' V' g y) (f:K (put o.dst g t) own' V'.n):o.wp P a w next Q:=by
 unfold Oper.wp;rw[hr];exact hKV _ _ _ _ _ _ f b hf c ((ha.mono b.fro.mono b.va).put hd hy)
variable (hT:∀t i,look t tb=some i→TIok P t i) (hH:Has I V own w) (hK:Nxt N own0 I0 V0 w0 K next) (hL:Since own0 I0 V0 w0 own I V w) (ha:ARep N I V a t) (hd:∀i,o.dst=some i→i < N)
include ha
include hH in
theorem Zg7 {x:Operand}{ty:TypeId}(c:P.underlying ty=some .string)(j:o.op=.call {callee:=.builtin .len,args:=#[x],argTypes:=#[ty]})(h:ev t own x fun g=>match g with
  | .v (.string s)=>K (put o.dst (.v (.int .i64 s.size)) t) own V.n
  | _=>False):QOk S P I V own w a t o K:=by
 obtain⟨g,b,f⟩:=B8 h ha hH;clear h;split at b
 ·next s =>
  have e:=B0 f;exact⟨_,_,b,(.of_v (.v _)),fun u _=>(by simp[execOp,j,resolve,invoke,builtin,Builtin.len_,run_underlying c,e,goInt])⟩
 ·exact b.elim
include hH in
theorem Zjv {x z:Operand}{f:Array TypeId}(s:o.op=.call {callee:=.builtin .max,args:=#[x,z],argTypes:=f})(h:ev t own x fun g=>ev t own z fun q=>match g,q with
  | .v (.int .i64 a),.v (.int .i64 b)=>K (put o.dst (.v (.int .i64 (max a b))) t) own V.n
  | _,_=>False):QOk S P I V own w a t o K:=by
 obtain⟨g,hk1,j⟩:=B8 h ha hH;obtain⟨q,c,l⟩:=B8 hk1 ha hH;clear h hk1;split at c
 ·have e:=B0 j;have p:=B0 l;exact⟨_,_,c,(.of_v (.v _)),fun u _=>(by simp[execOp,s,resolve,invoke,builtin,e,p,Go.Lib.run_max_ints])⟩
 ·exact c.elim
include hH in
theorem Zjh {x z:Operand}{f:Array TypeId}(s:o.op=.call {callee:=.builtin .min,args:=#[x,z],argTypes:=f})(h:ev t own x fun g=>ev t own z fun q=>match g,q with
  | .v (.int .i64 a),.v (.int .i64 b)=>K (put o.dst (.v (.int .i64 (min a b))) t) own V.n
  | _,_=>False):QOk S P I V own w a t o K:=by
 obtain⟨g,hk1,j⟩:=B8 h ha hH;obtain⟨q,c,l⟩:=B8 hk1 ha hH;clear h hk1;split at c
 ·have e:=B0 j;have p:=B0 l;exact⟨_,_,c,(.of_v (.v _)),fun u _=>(by simp[execOp,s,resolve,invoke,builtin,e,p,Go.Lib.run_min_ints])⟩
 ·exact c.elim
include hH in
theorem Zgg {x:Operand}{ty e:TypeId}(j:P.underlying ty=some (.slice e))(s:o.op=.call {callee:=.builtin .len,args:=#[x],argTypes:=#[ty]})(h:ev t own x fun g=>Zl4 own g fun m=>K (put o.dst (.v (.int .i64 m)) t) own V.n):QOk S P I V own w a t o K:=by
 obtain⟨g,f,p⟩:=B8 h ha hH;have old:(Tu own g fun rows=>K (put o.dst (.v (.int .i64 rows.length)) t) own V.n)→QOk S P I V own w a t o K:=fun f=>by obtain⟨rows,A,c,f,l,-⟩:=Z3q f p hH;exact⟨_,_,f,(.of_v (.v _)),fun u _=>(by simp[execOp,s,resolve,invoke,builtin,Builtin.len_,run_underlying j,l,goInt])⟩
 cases g with
 | orv k i sz off len cap =>
  obtain⟨z,b,q,-,l⟩:=(show TRep1 I V (.orv k i sz off len cap) (a.eval x) from p);exact⟨_,_,f,(.of_v (.v _)),fun u _=>(by simp[execOp,s,resolve,invoke,builtin,Builtin.len_,run_underlying j,l,goInt])⟩
 | _=>exact old f
include hH ha hd in
theorem M4 {x:Operand}{e sz:Nat}{g:G}(hKV:∀t own' I' V' a' w',K t own' V'.n→Later own I V w own' I' V' w'→Zdj V w w' g→V.kp V'→ARep N I' V' a' t→next a' w'){new:List (List G)}{rs:List (List Value)}(k1:rs.length=new.length)(k2:∀(i:Nat) r u,new[i]?=some r→rs[i]?=some u→PW (VRep I) r u)(k3:∀u∈rs,u.length=sz)(k4:∀u∈rs,∀x∈u,x.oneCell'=true)(h5:0 < sz)
  (L:∀(v:Value) (rows:List (List G)) (z:List (List Value)),a.eval x=v→w.ownsRow 0 e sz v rows.length z.flatten→rows.length+new.length≤1073741824→∃l w',(execOp a.eval o).run P w=.ok (.value l) w'∧w'.ownsRow 0 e sz l (rows.length+new.length) (z.flatten++rs.flatten)∧w.grownBy w' v.ownBlock∧(l.ownBlock=v.ownBlock∨∃g,l.ownBlock=some g∧w.heap.size≤g∧g < w'.heap.size))
  (O:TRep I V g (a.eval x)) (j:Zc5 t own V.n o.dst g new e sz K):o.wp P a w next Q:=by
 unfold Zc5 at j;cases g with
 | nl =>
  obtain⟨f,j⟩:=j;have U:a.eval x=.slice none 0 0:=by generalize a.eval x=X at O;cases(show VRep I .nl X from O);rfl
  obtain⟨l,w',hr,J,p,Y⟩:=L _ [] [] U (World.ownsRow_nil w 0 e sz) (by simpa using f);simp only[List.length_nil,Nat.zero_add,List.flatten_nil,List.nil_append] at J;have hB:Below w.heap.size w w':=⟨p.os,p.tape,p.output,p.size,fun b c=>p.block b c (by simp[Value.ownBlock])⟩;refine Zic (g0:=.nl) (g:=.osl V.n) hKV ha hd hr (Dt (r:=.slc new e sz) hH hB 0 l (fun b=>l.ownBlock=some b) (fun b c=>?_) ⟨fun b=>by simp[Va.push],rs,by simpa [Va.push] using J,k1,k2,k3,k4,h5⟩) (fun b c=>hB.block b c) (.push V 0 l _) (TRep.of_c (g:=.osl V.n) ⟨cu _,by simp[Va.push]⟩) j;rcases Y with h | ⟨b',h,hb'⟩
  ·rw[h] at c;simp[Value.ownBlock] at c
  ·rw[h] at c;cases c;exact hb'
 | osl k =>
  obtain⟨hkn,U⟩:=(show k < V.n∧a.eval x=V.s k from O);dsimp only at j;split at j
  ·next rows e' sz' F =>
   split at j
   ·next E C =>
    have E:=ai E;have C:=ai C;subst E C;obtain⟨f,j⟩:=j;obtain⟨D,z,M,g2,g3,g4,g5,g6⟩:=hH.each k _ F;obtain⟨l,w',hr,J,p,Y⟩:=L _ rows z U M f;have H:∀b,l.ownBlock=some b→b < w'.heap.size:=fun b c=>(J.lt b c).2;refine Zic (g0:=.osl k) (g:=.osl V.n) hKV ha hd hr (Jj (r:=.slc (rows++new) e sz) hH F p.os p.tape p.output p.size (fun b c W=>p.block b c (fun e=>W ((D b).2 e.symm))) l (fun b=>l.ownBlock=some b) (fun b c=>⟨?_,H b c⟩) ⟨fun b=>by simp[Va.push,Va.drop],z++rs,?_,by simp[g2,k1],?_,?_,?_,h5⟩) (fun b c W=>p.block b c (fun e=>W ((D b).2 e.symm))) ((Va.kp.drop V k).trans (af _) (.push (V.drop k) 0 l _)) (TRep.of_c (g:=.osl V.n) ⟨cu _,by simp[Va.push,Va.drop]⟩) j
    ·rcases Y with h | ⟨b',h,hb'⟩
     ·exact .inl ((D b).2 (by rw[←h];exact c))
     ·rw[h] at c;cases c;exact .inr hb'.1
    ·simpa [Va.push,Va.drop] using J
    ·intro i r u A B;rcases Nat.lt_or_ge i rows.length with T | Z
     ·rw[bl T] at A;rw[bl (by omega)] at B;exact g3 i r u A B
     ·rw[bf Z] at A;rw[bf (by omega),g2] at B;exact k2 _ r u A B
    ·intro u q;rcases bu.1 q with q | q
     ·exact g4 u q
     ·exact k3 u q
    ·intro u q;rcases bu.1 q with q | q
     ·exact g5 u q
     ·exact k4 u q
   ·exact j.elim
  ·exact j.elim
 | _=>exact j.elim
include hH ha hd in
theorem Z20 {x:Operand}{e sz:Nat}{g:G}(hKV:∀t own' I' V' a' w',K t own' V'.n→Later own I V w own' I' V' w'→Zdj V w w' g→V.kp V'→ARep N I' V' a' t→next a' w'){new:List (List G)}{rs:List (List Value)}(k1:rs.length=new.length)(k2:∀(i:Nat) r u,new[i]?=some r→rs[i]?=some u→PW (VRep I) r u)(k3:∀u∈rs,u.length=sz)(k4:∀u∈rs,∀x∈u,x.oneCell'=true)(h5:0 < sz)
  (Y:∀(v:Value) (rows:List (List G)) (D:List (List Value)),a.eval x=v→w.ownsRow 0 e sz v rows.length D.flatten→rows.length+new.length≤1073741824→∃p w',(execOp a.eval o).run P w=.ok (.value p) w'∧w'.ownsRow 0 e sz p (rows.length+new.length) (D.flatten++rs.flatten)∧w.grownBy w' v.ownBlock∧(p.ownBlock=v.ownBlock∨∃g,p.ownBlock=some g∧w.heap.size≤g∧g < w'.heap.size))
  (hav:∀(v:Value) (n:Nat) (xs:List Value),a.eval x=v→Ds w e sz v n xs→n+new.length≤1073741824→∃p w',(execOp a.eval o).run P w=.ok (.value p) w'∧Ds w' e sz p (n+new.length) (xs++rs.flatten)∧w.grownBy w' v.ownBlock∧(p.ownBlock=v.ownBlock∨∃g,p.ownBlock=some g∧w.heap.size≤g∧g < w'.heap.size))
  (hg:TRep I V g (a.eval x)) (A:Zf4 t own V.n o.dst g new e sz K):o.wp P a w next Q:=by
 have lt:∀{w':World} {p:Value} {n:Nat} {xs:List Value},Ds w' e sz p n xs→∀b,p.ownBlock=some b→b < w'.heap.size:=fun {w' p n xs} r b j=>by
  rcases r.2 with⟨rfl,-⟩ | ⟨g',q',cap',cur',rfl,hg',-⟩
  ·cases j
  ·cases j;exact(bp.1 hg').1
 unfold Zf4 at A;split at A
 ·next k =>
  obtain⟨hkn,W⟩:=(show k < V.n∧a.eval x=V.s k from hg);split at A
  ·next rows e' sz' H =>
   split at A
   ·next E z =>
    have E:=ai E;have z:=ai z;subst E z;obtain⟨C,A⟩:=A;obtain⟨J,D,ho0,g2,g3,Z,g5,g6⟩:=hH.each k _ H;obtain⟨p,w',hr,r1,F,r3⟩:=hav _ rows.length D.flatten W ho0 C;refine Zic (g0:=.osl k) (g:=.osl V.n) hKV ha hd hr (Jj (r:=.vw (rows++new) e sz) hH H F.os F.tape F.output F.size (fun b j L=>F.block b j (fun e=>L ((J b).2 e.symm))) p (fun b=>p.ownBlock=some b) (fun b j=>⟨?_,lt r1 b j⟩) (Z9y r1 g2 g3 Z g5 k1 k2 k3 k4 h5)) (fun b j L=>F.block b j (fun e=>L ((J b).2 e.symm))) ((Va.kp.drop V k).trans (af _) (.push (V.drop k) 0 p _)) (TRep.of_c (g:=.osl V.n) ⟨cu _,by simp[Va.push,Va.drop]⟩) A;rcases r3 with h | ⟨B,h,hb'⟩
    ·exact .inl ((J b).2 (by rw[←h];exact j))
    ·rw[h] at j;cases j;exact .inr hb'.1
   ·exact A.elim
  ·exact M4 (hH:=hH) (hKV:=hKV) (ha:=ha) (hd:=hd) k1 k2 k3 k4 h5 Y hg A
 ·next k s l c =>
  obtain⟨hkn,b,q,⟨n0,c0,hs⟩,W⟩:=(show TRep1 I V (.orv k 0 (s+1) 0 l c) (a.eval x) from hg);split at A
  ·next rows e' sz2 H =>
   split at A
   ·next E z O T X =>
    have E:=ai E;have z:=ai z;have O:=ai O;have T:=ai T;have X:=da X;subst E O T;obtain⟨C,A⟩:=A;have J:=(hH.each k _ H).1;obtain⟨D,cur,hcur,g2,g3,Z,g5,L,hnc,hcm,hcs,ht,-⟩:=Zey hH H hs;have W:a.eval x=.slice (some ⟨b,q,none⟩) l l:=by rw[W];simp
    have hv:Ds w e sz (.slice (some ⟨b,q,none⟩) l l) (rows.take l).length (D.take l).flatten:=by
     have U:(rows.take l).length=l:=by rw[aw];omega
     refine⟨by rw[Bm fun u hu=>Z u (be hu),aw,U];congr 1;omega,.inr ⟨b,q,l,cur,by rw[U],hcur,by rw[U];exact af _,by omega,?_,?_⟩⟩
     ·have:l * sz≤c0 * sz:=Nat.mul_le_mul_right _ (by omega);omega
     ·rw[U,←Yu Z,←ht,List.take_take,cf (Nat.mul_le_mul_right _ (by omega))]
    have U:(rows.take l).length=l:=by rw[aw];omega
    obtain⟨p,w',hr,r1,F,r3⟩:=hav _ (rows.take l).length (D.take l).flatten W hv (by rw[U];exact C);have hob:(Value.slice (some ⟨b,q,none⟩) l l).ownBlock=some b:=rfl;have M:∀B,V.f k B↔b=B:=fun B=>by rw[J B,hs];show some b=some B↔_;simp
    rw[hob] at F r3;refine Zic (g0:=.orv k 0 (s+1) 0 l l) (g:=.osl V.n) hKV ha hd hr (Jj (r:=.vw (rows.take l++new) e sz) hH H F.os F.tape F.output F.size (fun B j L=>F.block B j (fun e=>L ((M B).2 (cj e.symm)))) p (fun b=>p.ownBlock=some b) (fun B j=>⟨?_,lt r1 B j⟩) (Z9y r1 (by rw[aw,aw,g2]) (fun i r u h1 h2=>?_) (fun u hu=>Z u (be hu)) (fun u hu=>g5 u (be hu)) k1 k2 k3 k4 h5)) (fun B j L=>F.block B j (fun e=>L ((M B).2 (cj e.symm)))) ((Va.kp.drop V k).trans (af _) (.push (V.drop k) 0 p _)) (TRep.of_c (g:=.osl V.n) ⟨cu _,by simp[Va.push,Va.drop]⟩) A
    ·rcases r3 with h | ⟨b2,h,z⟩
     ·exact .inl ((M B).2 (by rw[h] at j;exact cj j))
     ·rw[h] at j;cases j;exact .inr z.1
    ·rw[bj] at h1 h2;split at h1
     ·next hlt=>rw[dc hlt] at h2;exact g3 i r u h1 h2
     ·cases h1
   ·exact A.elim
  ·exact A.elim
 ·exact M4 (hH:=hH) (hKV:=hKV) (ha:=ha) (hd:=hd) k1 k2 k3 k4 h5 Y hg A
include hT hH ha hd in
theorem Nt {g:G}(hKV:∀t own' I' V' Y w',K t own' V'.n→Later own I V w own' I' V' w'→Zdj V w w' g→V.kp V'→ARep N I' V' Y t→next Y w'){x z:Operand}{ty e sz:Nat}{ag:Bool}{ze:List G}{fl:List (TypeId × Nat)}{st:Bool}{ik:Option IntKind}{kd:KD}(hl:look ty tb=some ⟨ag,ze,some (e,sz),fl,st,ik,kd⟩)(ho:o.op=.call {callee:=.builtin .append,args:=#[x,z],argTypes:=#[ty,ty]})(hg:TRep I V g (a.eval x))(hk1:ev t own z fun q=>Z5x own q sz fun new=>Zf4 t own V.n o.dst g new e sz K):o.wp P a w next Q:=by
 obtain⟨q,hk2,hq⟩:=B8 hk1 ha hH;obtain⟨new,A,c,rs,hk,he,W,U,k2,k3,k4,X⟩:=Wq hk2 hq hH;clear hk1 hk2;obtain⟨l,B,O,M,Z,T,h4,J,h6⟩:=(hT _ _ hl).elem e sz rfl;have p:rs.flatten.length=new.length * sz:=by rw[Bm k3,U]
 have s:∀u∈rs.flatten,u.oneCell'=true:=fun u l=>by obtain⟨v,hv,l⟩:=List.mem_flatten.1 l;exact k4 v hv u l
 have H:∀(v:Value) (rows:List (List G)) (h:List (List Value)),a.eval x=v→w.ownsRow 0 e sz v rows.length h.flatten→rows.length+new.length≤1073741824→∃f w',(execOp a.eval o).run P w=.ok (.value f) w'∧w'.ownsRow 0 e sz f (rows.length+new.length) (h.flatten++rs.flatten)∧w.grownBy w' v.ownBlock∧(f.ownBlock=v.ownBlock∨∃g,f.ownBlock=some g∧w.heap.size≤g∧g < w'.heap.size):=fun v rows h D j b=>by
  obtain⟨f,w',hr,E,F,L⟩:=Z2d (P:=P) (w:=w) ty o.type e B O sz B.bytes l M Z T rfl h4 J v rows.length h.flatten j A new.length c rs.flatten p (fun e=>W e) X s (by unfold maxLen;omega) (by have:=Nat.mul_le_mul b h6;omega)
  exact⟨f,w',by simp only[execOp,ho,resolve,invoke,builtin,Sem.run_bind,Sem.run_pure,Result.andThen_ok,List.map_toArray,List.map_cons,List.map_nil,D,he,hr],E,F,L⟩
 have C:∀(v:Value) (n:Nat) (xs:List Value),a.eval x=v→Ds w e sz v n xs→n+new.length≤1073741824→∃f w',(execOp a.eval o).run P w=.ok (.value f) w'∧Ds w' e sz f (n+new.length) (xs++rs.flatten)∧w.grownBy w' v.ownBlock∧(f.ownBlock=v.ownBlock∨∃g,f.ownBlock=some g∧w.heap.size≤g∧g < w'.heap.size):=fun v n xs D j b=>by
  obtain⟨f,w',hr,E,F,L⟩:=Rp (P:=P) (w:=w) ty o.type e B O sz B.bytes l M Z T rfl h4 J v n xs j A new.length c rs.flatten p (fun e=>W e) X s (by unfold maxLen;omega) (by have:=Nat.mul_le_mul b h6;omega)
  exact⟨f,w',by simp only[execOp,ho,resolve,invoke,builtin,Sem.run_bind,Sem.run_pure,Result.andThen_ok,List.map_toArray,List.map_cons,List.map_nil,D,he,hr],E,F,L⟩
 exact Z20 (hH:=hH) (hKV:=hKV) (ha:=ha) (hd:=hd) U k2 k3 k4 J H C hg hk
include hT hH ha hd in
theorem If {g:G}(hKV:∀t own' I' V' O w',K t own' V'.n→Later own I V w own' I' V' w'→Zdj V w w' g→V.kp V'→ARep N I' V' O t→next O w'){x z:Operand}{ty j e:Nat}{M L:TI}(hl:look ty tb=some M)(H:M.elem=some (e,1))(E:look j tb=some L)(J:L.str=true)(ho:o.op=.call {callee:=.builtin .append,args:=#[x,z],argTypes:=#[ty,j]})(Z:TRep I V g (a.eval x))(hk1:ev t own z fun q=>Zgw q fun s=>Zc5 t own V.n o.dst g (s.data.toList.map gBy) e 1 K):o.wp P a w next Q:=by
 obtain⟨q,hk2,hq⟩:=B8 hk1 ha hH;unfold Zgw at hk2;split at hk2
 ·next s =>
  have he:=B0 hq;obtain⟨h,T,X,W,h2,Y,h4,h5,h6⟩:=(hT _ _ hl).elem e 1 H;have B:=(hT _ _ E).str J;have p:(s.data.toList.map fun b=>[Value.int .u8 b.toNat]).flatten=byteCells s:=by
   unfold byteCells
   induction s.data.toList with
   | nil=>rfl
   | cons c l ih=>rw[ck,b8,ih];rfl
  have C:(s.data.toList.map gBy).length=s.size:=by rw[aa,cd];rfl
  refine M4 (hH:=hH) (hKV:=hKV) (ha:=ha) (hd:=hd) (rs:=s.data.toList.map fun b=>[Value.int .u8 b.toNat]) (by simp) (fun i r u hr h=>?_) (fun u h=>?_) (fun u h x F=>?_) Nat.one_pos (fun v rows D F A f=>?_) Z hk2
  ·rw[aj] at hr h;obtain⟨c,U,rfl⟩:=ay.1 hr;rw[U] at h;cases h;exact .cons (.v _) .nil
  ·obtain⟨c,-,rfl⟩:=ba.1 h;rfl
  ·obtain⟨c,-,rfl⟩:=ba.1 h;rw[bo.1 F];rfl
  ·rw[C] at f⊢;obtain⟨v',w',hr,r1,r2,r3⟩:=Uv (P:=P) (w:=w) ty j o.type e T X h B W h2 Y h4 v rows.length D.flatten A s (by unfold maxLen;omega) (by
    have:=Nat.mul_le_mul f h6;omega)
   rw[p];exact⟨v',w',by simp only[execOp,ho,resolve,invoke,builtin,Sem.run_bind,Sem.run_pure,Result.andThen_ok,List.map_toArray,List.map_cons,List.map_nil,F,he,hr],r1,r2,r3⟩
 ·exact hk2.elim
include hT hK hL ha hd in
theorem Z4q {x z:Operand}{ty e sz:Nat}{j:Bool}{l:List G}{f:List (TypeId × Nat)}{st:Bool}{ik:Option IntKind}{kd:KD}(c:look ty tb=some ⟨j,l,some (e,sz),f,st,ik,kd⟩)(A:o.op=.call {callee:=.builtin .append,args:=#[x,z],argTypes:=#[ty,ty]})(h:ev t own x fun g=>ev t own z fun q=>Z5x own q sz fun new=>Zf4 t own V.n o.dst g new e sz K):o.wp P a w next Q:=by obtain⟨g,hk1,p⟩:=B8 h ha hL.has;exact Nt (g:=g) (hT:=hT) (hH:=hL.has) (ha:=ha) (hd:=hd) (fun t own' I' V' B w' s c _ _ b=>hK _ _ _ _ _ _ s (hL.trans c) b) c A p hk1
include hT hK hL ha hd in
theorem Ph {x z:Operand}{ty b e:Nat}{B A:TI}(p:look ty tb=some B)(f:B.elem=some (e,1))(c:look b tb=some A)(j:A.str=true)(E:o.op=.call {callee:=.builtin .append,args:=#[x,z],argTypes:=#[ty,b]})(h:ev t own x fun g=>ev t own z fun q=>Zgw q fun s=>Zc5 t own V.n o.dst g (s.data.toList.map gBy) e 1 K):o.wp P a w next Q:=by obtain⟨g,hk1,C⟩:=B8 h ha hL.has;exact If (g:=g) (hT:=hT) (hH:=hL.has) (ha:=ha) (hd:=hd) (fun t own' I' V' F w' D p _ _ l=>hK _ _ _ _ _ _ D (hL.trans p) l) p f c j E C hk1
end
section
variable {P:Program} {tb:List (Nat × TI)} {N n:Nat} {I I' I0:Imm} {V V' V0:Va} {a:Act} {t:Ts} {own own' own0:Os} {w w' w0:World} {g:G} {x y:Value} {d:Option Tmp}
variable {XL:List Nat} {S:World→Prop} {K:Ts→Os→Nat→Prop} {next:Act→World→Prop} {Q:Exit→Act→World→Prop} {o:Oper} {r:R}
theorem G2 {z:Option Operand}{d:Int}{K1:Int→Prop}(h:evO t own z d K1)(ha:ARep N I V a t)(hH:Has I V own w):∃n,K1 n∧(∀u,z=some u→a.eval u=.int .i64 n)∧(z=none→n=d):=by
 cases z with
 | none=>exact⟨d,h,fun u e=>(by cases e),fun _=>rfl⟩
 | some u =>
  unfold evO at h;dsimp only at h;obtain⟨q,b,c⟩:=B8 h ha hH;clear h;split at b
  ·next m=>exact⟨m,b,fun u e=>(by cases e;exact B0 c),fun e=>(by cases e)⟩
  ·exact b.elim
theorem I7 {sl:Bool}{len cap:Nat}{lo hi:Option Value}{l h:Int}(b:(∀u,lo=some u→u=.int .i64 l)∧(lo=none→l=0))(j:(∀u,hi=some u→u=.int .i64 h)∧(hi=none→h=len))(f:0≤l)(q:l≤h)(z:h≤len)(A:len≤cap)(w:World) :
  (Instr.sliceBounds sl len cap lo hi none).run P w=.ok (l.toNat,h.toNat,cap) w:=by
 unfold Instr.sliceBounds;cases hi with
 | none =>
  have e:=j.2 rfl;subst e;cases lo with
  | none =>
   have e:=b.2 rfl;subst e;simp
  | some u =>
   have e:=b.1 u rfl;subst e;have:l≤(len:Int):=q;simp[Instr.sliceBound,asIntOf,f,this]
 | some v =>
  have e:=j.1 v rfl;subst e;have c:0≤h:=by omega
  have p:h≤(cap:Int):=by omega
  cases lo with
  | none =>
   have e:=b.2 rfl;subst e;simp[Instr.sliceBound,asIntOf,c,p]
  | some u =>
   have e:=b.1 u rfl;subst e;have s:(h.toNat:Int)=h:=Int.toNat_of_nonneg c;simp[Instr.sliceBound,asIntOf,c,p,s,f,q]
theorem Ha {z:Option Operand}{m:Int}{d:Int}(b:∀u,z=some u→a.eval u=.int .i64 m)(c:z=none→m=d):(∀u,z.map a.eval=some u→u=.int .i64 m)∧(z.map a.eval=none→m=d):=by
 cases z with
 | none=>exact⟨fun u e=>(by cases e),fun _=>c rfl⟩
 | some v=>exact⟨fun u e=>(by cases e;exact b v rfl),fun e=>by cases e⟩
theorem Hm (hH:Has I V own w){k e sz:Nat}{rows:List (List G)}(h:look k own=some (.slc rows e sz)):∃A c,V.s k=.slice A rows.length c∧rows.length≤c:=by
 obtain⟨-,rs,⟨-,j⟩,-⟩:=hH.each k _ h;rcases j with⟨f,h8⟩ | ⟨b,cap,cur,f,-,-,h9,-⟩
 ·exact⟨none,0,by rw[f,h8],by omega⟩
 ·exact⟨_,cap,f,h9⟩
theorem Z6h (hH:Has I V own w){k e sz:Nat}{rows:List (List G)}(h:look k own=some (.vw rows e sz)):∃A c,V.s k=.slice A rows.length c∧rows.length≤c:=by
 obtain⟨-,rs,⟨-,j⟩,-⟩:=hH.each k _ h;rcases j with⟨f,h8⟩ | ⟨b,q,cap,cur,f,-,h9,-⟩
 ·exact⟨none,0,by rw[f,h8],by omega⟩
 ·exact⟨_,cap,f,h9⟩
theorem Zd3 (hT:∀t i,look t tb=some i→TIok P t i)(hH:Has I V own w)(ha:ARep N I V a t){ty:TypeId}{z:Operand}{lo hi:Option Operand}(ho:o.op=.slice ty z lo hi none)(T:(match look ty tb with
      | some ⟨_,_,none,_,false,_,.arr _ _ _⟩=>false
      | _=>true)=true) (h:match look ty tb with
      | some ⟨_,_,none,_,true,_,_⟩=>ev t own z fun g=>match g with
       | .v (.string s)=>evO t own lo 0 fun l=>evO t own hi s.size fun h=>Z2l l h s.size (K (put o.dst (.v (.string (s.extract l.toNat h.toNat))) t) own V.n)
       | _=>False
      | some ⟨_,_,some (_,sz),_,_,_,_⟩=>ev t own z fun g=>slK own g sz (fun K d=>evO t own lo d K) (fun K d=>evO t own hi d K) fun g=>K (put o.dst g t) own V.n
      | some ⟨_,_,none,_,false,_,.arr m _ 1⟩=>ev t own z fun g=>Z7o t own V.n ty m lo hi g fun g w n=>K (put o.dst g t) w n
      | some ⟨_,_,none,_,false,_,.arr m _ _⟩=>ev t own z fun g=>Z6x t own m lo hi g fun g=>K (put o.dst g t) own V.n
      | _=>False):QOk S P I V own w a t o K:=by
 split at h
 ·next L =>
  have U:=(hT _ _ L).str rfl;obtain⟨g,h,O⟩:=B8 h ha hH;split at h
  ·next s =>
   have e:=B0 O;obtain⟨l,h,H,C⟩:=G2 h ha hH;obtain⟨q,h,j,p⟩:=G2 h ha hH;obtain⟨⟨D,E,F⟩,h⟩:=h;refine⟨_,_,h,.of_v (.v _),fun u _=>?_⟩;have f:=I7 (P:=P) (sl:=false) (len:=s.size) (cap:=s.size) (Ha H C) (Ha j p) D E F (af _) u;simp only[execOp,ho,Instr.sliceAt,Instr.slice,Sem.run_bind,run_underlying U,Result.andThen_ok,e,Sem.run_pure,Option.map_none,Option.isSome_none,Bool.false_eq_true,if_false,f]
  ·exact h.elim
 ·next e sz fl st ik kd L =>
  obtain⟨hu,ie,zv,h1,h2,h3,h4,h5,h6⟩:=(hT _ _ L).elem _ _ rfl;have Y:∀w,(sizeOf e).run P w=.ok sz w:=Bx (by rw[h1];simp[h3]);obtain⟨g,h,O⟩:=B8 h ha hH;have run:∀{A:Option Addr} {len c:Nat} {l q:Int},a.eval z=.slice A len c→len≤c→(∀u,lo=some u→a.eval u=.int .i64 l)→(lo=none→l=0)→(∀u,hi=some u→a.eval u=.int .i64 q)→(hi=none→q=len)→0≤l→l≤q→q≤len→∀u,(execOp a.eval o).run P u=.ok (.value (Hz sz (.slice A len c) l.toNat q.toNat)) u:=fun J B H C j p D E F u=>by have f:=I7 (P:=P) (sl:=true) (Ha H C) (Ha j p) D E F B u;simp only[execOp,ho,Instr.sliceAt,Instr.slice,Sem.run_bind,run_underlying hu,Result.andThen_ok,J,Sem.run_pure,Option.map_none,f,Y,Hz]
  cases g with
  | sl rows =>
   unfold slK at h;dsimp only at h;obtain⟨l,h,H,C⟩:=G2 h ha hH;obtain⟨q,h,j,p⟩:=G2 h ha hH;obtain⟨⟨D,E,F⟩,hr,h⟩:=h;have b:=(show VRep I (.sl rows) (a.eval z) from O);obtain⟨A,c,J,B⟩:∃A c,a.eval z=.slice A rows.length c∧rows.length≤c:=by
    generalize a.eval z=X at b;cases b with
    | sl _ A c sz u B=>exact⟨A,c,rfl,B⟩
   rw[J] at b;exact⟨_,_,h,.of_v (Y8 b hr (by omega) (by omega)),fun u _=>run J B H C j p D E F u⟩
  | osl k =>
   unfold slK at h;dsimp only at h;split at h
   ·next rows e' Z W =>
    split at h
    ·next f =>
     have f:=ai f;subst f;obtain⟨l,h,H,C⟩:=G2 h ha hH;obtain⟨q,h,j,p⟩:=G2 h ha hH;obtain⟨⟨D,E,F⟩,h⟩:=h;obtain⟨M,J⟩:=(show k < V.n∧a.eval z=V.s k from O);obtain⟨A,c,b,B⟩:=Hm hH W;exact⟨_,_,h,.of_c (g:=.osv k sz l.toNat q.toNat) ⟨M,⟨by omega,by rw[b];show q.toNat≤rows.length;omega⟩,rfl⟩,fun u _=>by rw[b];exact run (J.trans b) B H C j p D E F u⟩
    ·exact h.elim
   ·next rows e' Z W =>
    split at h
    ·next f =>
     have f:=ai f;subst f;obtain⟨l,h,H,C⟩:=G2 h ha hH;obtain⟨q,h,j,p⟩:=G2 h ha hH;obtain⟨⟨D,E,F⟩,h⟩:=h;obtain⟨M,J⟩:=(show k < V.n∧a.eval z=V.s k from O);obtain⟨A,c,b,B⟩:=Z6h hH W;exact⟨_,_,h,.of_c (g:=.osv k sz l.toNat q.toNat) ⟨M,⟨by omega,by rw[b];show q.toNat≤rows.length;omega⟩,rfl⟩,fun u _=>by rw[b];exact run (J.trans b) B H C j p D E F u⟩
    ·exact h.elim
   ·exact h.elim
  | _=>exact False.elim h
 ·next L=>rw[L] at T;cases T
 ·next L=>rw[L] at T;cases T
 ·exact h.elim
theorem Z90 {len cap:Nat}{h:Int}(b:0≤h)(f:h≤len)(j:len≤cap)(w:World):(Instr.sliceBounds true len cap none (some (.int .i64 h)) (some (.int .i64 h))).run P w=.ok (0,h.toNat,h.toNat) w:=by
 unfold Instr.sliceBounds;have e:0≤h∧h≤(cap:Int):=⟨b,by omega⟩;have c:¬max h 0 < h:=by omega
 simp[Instr.sliceBound,asIntOf,e,c]
theorem Z92 (hT:∀t i,look t tb=some i→TIok P t i)(hH:Has I V own w)(ha:ARep N I V a t){ty:TypeId}{z C B:Operand}(Z:o.op=.slice ty z none (some C) (some B))(h:match(none:Option Operand),some C,look ty tb with
      | none,some h,some ⟨_,_,some (_,sz),_,_,_,_⟩=>ev t own z fun g=>ev t own h fun p=>ev t own B fun q=>match p,q with
       | .v (.int .i64 a),.v (.int .i64 b)=>Fc (a=b) (Zdg own g sz a fun g=>K (put o.dst g t) own V.n)
       | _,_=>False
      | _,_,_=>False):QOk S P I V own w a t o K:=by
 split at h
 ·next O _ _ e sz _ _ _ _ _ j U =>
  obtain rfl:=cj j;obtain⟨M,ie,zv,F,h2,H,h4,h5,h6⟩:=(hT _ _ U).elem _ _ rfl;have f:∀w,(sizeOf e).run P w=.ok sz w:=Bx (by rw[F];simp[H]);obtain⟨g,h,J⟩:=B8 h ha hH;obtain⟨p,h,E⟩:=B8 h ha hH;obtain⟨q,h,X⟩:=B8 h ha hH;split at h
  ·next x1 L =>
   have ep:=B0 E;have eq:=B0 X;obtain⟨j,h⟩:=h;subst j;cases g with
   | osl k =>
    unfold Zdg at h;dsimp only at h;split at h
    ·next rows e' sz' T =>
     split at h
     ·next c =>
      have c:=ai c;subst c;obtain⟨⟨r1,Y,r3⟩,⟨A,h⟩⟩:=h;obtain⟨l,he⟩:=(show k < V.n∧a.eval z=V.s k from J);obtain⟨-,rs,⟨-,D⟩,-,-,-,-,W⟩:=hH.each k _ T;rcases D with⟨-,h8⟩ | ⟨b,q0,cap,cur,h8,-,h9,-⟩
      ·exact de (am h8) A
      ·refine⟨_,_,h,.of_1 (g:=.orv k 0 sz 0 _ _) ⟨l,b,q0,(by cases sz with | zero=>omega | succ sz=>exact⟨_,cap,h8⟩),rfl⟩,fun u _=>?_⟩;have c:=Z90 (P:=P) Y r3 h9 u;simp only[execOp,Z,Instr.sliceAt,Instr.slice,Sem.run_bind,run_underlying M,Result.andThen_ok,he,h8,Sem.run_pure,Option.map_some,Option.map_none,ep,eq,c,f];split
       ·simp
       ·simp[Cp]
     ·exact h.elim
    ·exact h.elim
   | _=>exact False.elim h
  ·exact h.elim
 ·exact h.elim
theorem Lu:∀{cs:List G} {b:List Value},B4 Gx cs=true→PW (CRep I V) cs b→cs=b.map .v∧∀u∈b,u.oneCell'=true
 | [],b,_,h=>by rw[h.of_nil];exact⟨rfl,fun u c=>by cases c⟩
 | g::cs,b,hv,h=>by
  obtain⟨x,s,rfl,A,p⟩:=h.uncons;have f:=Ae hv g (by simp);have j:B4 Gx cs=true:=by unfold B4 at hv;rw[f] at hv;exact hv
  obtain⟨l,q⟩:=Lu j p;cases g with
  | v z =>
   cases(show VRep I (.v z) x from A);exact⟨by rw[l];rfl,fun u c=>(bi.1 c).elim (fun e=>by rw[e];exact f) (q u)⟩
  | _=>cases f
theorem Ru {α:Type}(l:List α):(l.map fun u=>[u]).flatten=l:=by
 induction l with
 | nil=>rfl
 | cons x l ih=>rw[ck,b8,ih];rfl
theorem Rm {α:Type}{cs:List α}{k n j:Nat}{v:α}(h:((cs.drop k).take n)[j]?=some v):cs[k+j]?=some v:=by
 rw[bj] at h;split at h
 ·rwa [bw] at h
 ·cases h
theorem Ze7 {m:Nat}{cs:List G}{A:Prop}(h:Zjn m cs A):cs.length=m∧B4 Gx cs=true∧A:=by
 unfold Zjn at h;split at h
 ·split at h
  ·next b c=>exact⟨ai b,c,h⟩
  ·exact h.elim
 ·exact⟨h.fit.1,Gm h.fit.2,h.next⟩
theorem Z8y (hT:∀t i,look t tb=some i→TIok P t i)(hH:Has I V own w)(ha:ARep N I V a t)(hd:∀i,o.dst=some i→i < N)(hK:NxtB N own I V w K next){ty m e:TypeId}{z:Operand}{lo hi:Option Operand}{ag:Bool}{ze:List G}{fl:List (TypeId × Nat)}{ik:Option IntKind}(hl:look ty tb=some ⟨ag,ze,none,fl,false,ik,.arr m e 1⟩)(ho:o.op=.slice ty z lo hi none)
  (h:ev t own z fun g=>Z7o t own V.n ty m lo hi g fun g w n=>K (put o.dst g t) w n):o.wp P a w next Q:=by
 obtain⟨M,Y⟩:=(hT _ _ hl).kd;have Y:∀w,(sizeOf e).run P w=.ok 1 w:=Bx Y;obtain⟨g,h,hg⟩:=B8 h ha hH;have run:∀{b off:Nat} {l q:Int},a.eval z=.pointer (some ⟨b,off,none⟩)→(∀u,lo=some u→a.eval u=.int .i64 l)→(lo=none→l=0)→(∀u,hi=some u→a.eval u=.int .i64 q)→(hi=none→q=m)→0≤l→l≤q→q≤m→∀u,(execOp a.eval o).run P u=.ok (.value (Hz 1 (.slice (some ⟨b,off,none⟩) m m) l.toNat q.toNat)) u:=fun {b off l q} D l1 l2 X T r1 r2 W u=>by
  have B:=I7 (P:=P) (sl:=false) (len:=m) (cap:=m) (Ha l1 l2) (Ha X T) r1 r2 W (af _) u;simp only[execOp,ho,Instr.sliceAt,Instr.sureAddr,Sem.run_bind,run_underlying M,Result.andThen_ok,D,Sem.run_pure,Option.map_none,B,Y,Hz]
  congr 3
  by_cases p:m=l.toNat
  ·rw[dc p,dc p]
  ·rw[db p,db p];rfl
 have arv:∀{j:Nat} {K1:G→Prop} {b:Nat} {V2:Va},Zia t own m lo hi j K1→a.eval z=.pointer (some ⟨b,0,none⟩)→j < V2.n→V2.s j=.slice (some ⟨b,0,none⟩) m m→∃g v,K1 g∧CRep I V2 g v∧(execOp a.eval o).run P w=.ok (.value v) w:=fun {j K1 b V2} H D hj hs=>by
  unfold Zia at H;split at H
  ·have hr:=run (l:=0) (q:=m) D (fun u e=>by cases e) (fun _=>rfl) (fun u e=>by cases e) (fun _=>rfl) (by omega) (by omega) (by omega) w;refine⟨_,V2.s j,H,⟨hj,rfl⟩,hr.trans ?_⟩;rw[hs]
   congr 2
   unfold Hz;simp only[Int.toNat_natCast,Int.toNat_zero,Nat.zero_mul,Nat.sub_zero,Option.map_some];by_cases p:m=0
   ·rw[dc p]
   ·rw[db p];rfl
  ·obtain⟨l,H,l1,l2⟩:=G2 H ha hH;obtain⟨q,H,X,T⟩:=G2 H ha hH;obtain⟨⟨r1,r2,W⟩,H⟩:=H;exact⟨_,_,H,⟨hj,⟨by omega,by rw[hs];show q.toNat≤m;omega⟩,rfl⟩,by rw[hs];exact run D l1 l2 X T r1 r2 W w⟩
 unfold Z7o at h;cases g with
 | ptr k off =>
  obtain⟨hkn,D⟩:=Ch hg;dsimp only at h;split at h
  ·next cs U hr =>
   obtain⟨O,h1,h2,h3⟩:=N1 hH hr;have hf:=(hH.each k _ hr).1;have frz:∀{off:Nat},(match(generalizing:=false) lo,hi with
    | none,none=>Fc (off+m≤cs.length∧∀g∈cs,Gx g=true) (K (put o.dst (.sl (((cs.drop off).take m).map fun g=>[g])) t) ((k,.gone)::own) V.n)
    | none,some x=>evO t own (some x) m fun h=>Z2l 0 h m (K (put o.dst (.orv k 0 0 off h.toNat m) t) own V.n)
    | _,_=>False)→a.eval z=.pointer (some ⟨V.b k,off,none⟩)→o.wp P a w next Q:=fun {off} h D=>by
    split at h
    case h_2 =>
     obtain⟨q,h,X,T⟩:=G2 h ha hH;obtain⟨⟨r1,r2,W⟩,h⟩:=h;have hr:=run (l:=0) (q:=q) D (fun u e=>by cases e) (fun _=>rfl) X T (by omega) r2 W w;refine Td (y:=.slice (some ⟨V.b k,0 * 0+off,none⟩) q.toNat m) hK ha hd (hr.trans ?_) (.refl hH) (Below.refl _ _) (.refl _) (.of_1 (g:=.orv k 0 0 off q.toNat m) ⟨hkn,V.b k,0,⟨rfl,rfl⟩,by simp⟩) h
     congr 2
     unfold Hz;simp only[Int.toNat_zero,Nat.zero_mul,Nat.sub_zero,Option.map_some,Nat.zero_add];by_cases p:m=0
     ·rw[dc p]
     ·rw[db p];rfl
    case h_3=>exact h.elim
    obtain⟨⟨E,hv⟩,h⟩:=h;obtain⟨e1,h4⟩:=Lu (Gm hv) h2;have C:cs.length=O.length:=by rw[e1];simp
    have hno:=(hH.foot k _ (V.b k) hr ((hf _).2 rfl)).2;let I':Imm:=fun b o=>if b=V.b k then O[o]? else I b o;have hle:I.le I':=fun b o x F=>by show(if b=V.b k then _ else I b o)=_;rw[db (fun e=>by rw[e,hno o] at F;cases F)];exact F
    have hmem:Mem I' w:=fun b o x F=>by
     change (if b=V.b k then _ else I b o)=_ at F
     split at F
     ·next e=>rw[e,h3];exact F
     ·exact hH.mem b o x F
    have J:Later own I V w ((k,.gone)::own) I' (V.drop k) w:=G4 hH hr hle hmem (fun b o B=>by show(if b=V.b k then _ else I b o)=_;rw[db (fun e=>B ((hf b).2 e))]) (fun b=>by simp[Va.drop])
    have Z:(((cs.drop off).take m).map fun g=>[g]).length=m:=by simp;omega
    have hvr:VRep I' (.sl (((cs.drop off).take m).map fun g=>[g])) (.slice (some ⟨V.b k,off,none⟩) m m):=by
     conv=>rhs;rw[←Z]
     refine .sl _ (some ⟨V.b k,off,none⟩) _ 1 (fun i _=>O.getD (off+i) undef) (af _) (fun e=>by cases e) (fun r hr=>?_) (fun i r hr=>⟨V.b k,off,rfl,fun j hj=>?_⟩) fun i r j g hr hg=>?_
     ·obtain⟨g,-,rfl⟩:=ba.1 hr;rfl
     ·have hi:i < m:=by have:=(ac.1 hr).1;omega
      have e0:off+i * 1+j=off+i:=by omega
      rw[e0];show(if V.b k=V.b k then O[off+i]? else _)=_;rw[dc rfl];have:off+i < O.length:=by omega
      simp[this]
     ·rw[aj] at hr;obtain⟨g0,h5,rfl⟩:=ay.1 hr;have h5:=Rm h5;rw[e1,aj] at h5;obtain⟨u,h6,rfl⟩:=ay.1 h5;cases j with
      | zero =>
       simp at hg;subst hg;simp only[List.getD,h6,Option.getD_some];exact .v u
      | succ j=>simp at hg
    refine Td (y:=.slice (some ⟨V.b k,off,none⟩) m m) hK ha hd ?_ J (Below.refl _ _) (.drop _ _) (.of_v hvr) h;have hr:=run (l:=0) (q:=m) D (fun u e=>by cases e) (fun _=>rfl) (fun u e=>by cases e) (fun _=>rfl) (by omega) (by omega) (by omega) w;refine hr.trans ?_
    congr 2
    unfold Hz;simp only[Int.toNat_natCast,Int.toNat_zero,Nat.zero_mul,Nat.sub_zero,Option.map_some];by_cases p:m=0
    ·rw[dc p]
    ·rw[db p];rfl
   cases off with
   | succ off=>exact frz (off:=off+1) h D
   | zero =>
    cases hb0:Nat.beq U ty with
    | false=>rw[hb0] at h;exact frz (off:=0) h D
    | true =>
    cases hm0:Nat.ble m 1048576 with
    | false=>rw[hb0,hm0] at h;exact frz (off:=0) h D
    | true =>
    rw[hb0,hm0] at h;have p:=hm0;have p:=da p;obtain⟨B,hv,h⟩:=Ze7 h;obtain⟨e1,h4⟩:=Lu hv h2;have C:O.length=m:=by rw[←B,e1];simp
    have J:=Jj (w':=w) (r:=.slc (cs.map fun g=>[g]) U 1) hH hr rfl rfl rfl (af _) (fun _ _ _=>rfl) (.slice (some ⟨V.b k,0,none⟩) m m) (·=V.b k) (fun b e=>⟨.inl ((hf b).2 e),by rw[e];exact(bp.1 h1).1⟩) ⟨fun b=>by simp[Va.push,Va.drop,Value.ownBlock,eq_comm],O.map fun u=>[u],⟨by rw[Ru];simp[C,B],.inr ⟨V.b k,m,O.toArray,by simp[Va.push,Va.drop,B],ah _,h1,by simp[B],by unfold maxLen;omega,by simp[C],by rw[Ru,aa,B,Nat.mul_one];exact ap (Nat.le_of_eq C)⟩⟩,by simp[C,B],fun i r u hr M=>?_,fun u M=>by obtain⟨x,-,rfl⟩:=ba.1 M;rfl,fun u M x F=>by obtain⟨y,hy,rfl⟩:=ba.1 M;rw[bo.1 F];exact h4 y hy,Nat.one_pos⟩
    ·have hk2:look k ((V.n,R.slc (cs.map fun g=>[g]) U 1)::(k,.gone)::own)=some .gone:=by
      rw[A5,db (by omega),A5,dc rfl]
     have L:k≠V.n:=by omega
     have Z:=J.trans (Db (w':=w) (r:=.lnk V.n) J.has hk2 rfl rfl rfl rfl (fun _ _=>rfl) ⟨fun b=>by simp[Va.push,Va.drop,L],by show V.n < V.n+1;omega,m,by simp[Va.push,Va.drop,L]⟩);obtain⟨g',v,k1,k2,k3⟩:=arv (V2:=(V.drop k).push 0 (.slice (some ⟨V.b k,0,none⟩) m m) (·=V.b k)) h D (by show V.n < V.n+1;omega) (by simp[Va.push,Va.drop]);exact Td (y:=v) hK ha hd k3 Z (Below.refl _ _) (fun j hj b B=>by
      have hjn:j≠V.n:=by omega
      have B:(if j=V.n then(·=V.b k) else(if j=k then fun _=>False else V.f j)) b:=B;rw[db hjn] at B;split at B
      ·exact B.elim
      ·exact B) (.of_c k2) k1
    ·rw[aj] at hr M;obtain⟨g0,h5,rfl⟩:=ay.1 hr;obtain⟨x,h6,rfl⟩:=ay.1 M;rw[e1,aj,h6] at h5;cases h5;exact .cons (.v x) .nil
  ·next j hr =>
   obtain⟨-,hjn,mm,hsj⟩:=hH.each k _ hr;split at h
   ·next rows e' hrj =>
    obtain⟨E,h⟩:=h;obtain⟨A,c,hv,-⟩:=Hm hH hrj;rw[hsj] at hv;injection hv with e1 e2 e3;obtain⟨g',v,k1,k2,k3⟩:=arv (V2:=V) h D hjn (by rw[hsj,e2,E]);exact Td (y:=v) hK ha hd k3 (.refl hH) (Below.refl _ _) (.refl _) (.of_c k2) k1
   ·exact h.elim
  ·exact h.elim
 | oel k i sz off =>
  obtain⟨hkn,b,q0,n,c,hs,D⟩:=Lp hg;dsimp only at h;split at h
  ·next rows e' sz' hr hlo =>
   obtain rfl:=Z93 hH hr hs;rw[cb] at D;split at h
   ·next B =>
    obtain⟨q,h,X,T⟩:=G2 h ha hH;obtain⟨⟨r1,r2,W⟩,⟨⟨E,hsz0⟩,h⟩⟩:=h;have hr:=run (l:=0) (q:=q) D (fun u e=>by cases e) (fun _=>rfl) X T (by omega) r2 W w;refine Td (y:=.slice (some ⟨b,i * sz+off,none⟩) q.toNat m) hK ha hd (hr.trans ?_) (.refl hH) (Below.refl _ _) (.refl _) (.of_1 (g:=.orv k i sz off q.toNat m) ⟨hkn,b,0,by cases sz with | zero=>omega | succ sz=>exact⟨n,c,hs⟩,by simp⟩) h
    congr 2
    unfold Hz;simp only[Int.toNat_zero,Nat.zero_mul,Nat.sub_zero,Option.map_some];by_cases p:m=0
    ·rw[dc p]
    ·rw[db p];rfl
   ·exact h.elim
  ·exact h.elim
 | _=>exact h.elim
theorem Z8w (hT:∀t i,look t tb=some i→TIok P t i)(hH:Has I V own w)(ha:ARep N I V a t)(hd:∀i,o.dst=some i→i < N)(hK:NxtB N own I V w K next){ty m e sz:TypeId}{z:Operand}{lo hi:Option Operand}{E:Bool}{F:List G}{D:List (TypeId × Nat)}{ik:Option IntKind}(B:look ty tb=some ⟨E,F,none,D,false,ik,.arr m e sz⟩)(L:o.op=.slice ty z lo hi none)
  (h:ev t own z fun g=>Z6x t own m lo hi g fun g=>K (put o.dst g t) own V.n):o.wp P a w next Q:=by
 obtain⟨s,c⟩:=(hT _ _ B).kd;have c:∀w,(sizeOf e).run P w=.ok sz w:=Bx c;obtain⟨g,h,p⟩:=B8 h ha hH;unfold Z6x at h;cases g with
 | ptr k off =>
  cases lo with
  | some y=>exact h.elim
  | none =>
   cases hi with
   | none=>exact h.elim
   | some x =>
    obtain⟨f,O⟩:=Ch p;dsimp only at h;split at h
    ·next cs H hr =>
     obtain⟨q,h,A,C⟩:=G2 h ha hH;obtain⟨⟨T,J,M⟩,h⟩:=h;refine Td (y:=.slice (some ⟨V.b k,0 * 0+off,none⟩) q.toNat m) hK ha hd ?_ (.refl hH) (Below.refl _ _) (.refl _) (.of_1 (g:=.orv k 0 0 off q.toNat m) ⟨f,V.b k,0,⟨rfl,rfl⟩,by simp⟩) h;have j:=I7 (P:=P) (sl:=false) (len:=m) (cap:=m) (Ha (a:=a) (z:=none) (m:=0) (d:=0) (fun u e=>by cases e) (fun _=>rfl)) (Ha A C) (by omega) J M (af _) w;rw[Option.map_none] at j;simp only[execOp,L,Instr.sliceAt,Instr.sureAddr,Sem.run_bind,run_underlying s,Result.andThen_ok,O,Sem.run_pure,Option.map_none,c,j]
     congr 3
     by_cases l:m=0
     ·simp[l]
     ·simp[l,Addr.add]
    ·exact h.elim
 | _=>exact h.elim
theorem TIok.u8 (hT:∀t i,look t tb=some i→TIok P t i){e:TypeId}(h:Zhd tb e=true):P.underlying e=some (.int .u8):=by
 unfold Zhd at h;split at h
 ·next b=>exact(hT _ _ b).ik _ rfl
 ·cases h
theorem Z7g {h:List UInt8}{rows:List (List G)}{A:Option Addr}{c:Nat}(O:rows=h.map gBy)(hr:∃rs:List (List Value),rs.length=rows.length∧(∀(i:Nat) r u,rows[i]?=some r→rs[i]?=some u→PW (VRep I) r u)∧(∀u∈rs,u.length=1)∧∀a,A=some a→∀(m:Nat) x,rs.flatten[m]?=some x→w.cell? (a.add m)=some x)(H:A=none→rows=[]){b dst e:TypeId}(s:P.underlying b=some (.slice e))(q:P.underlying e=some (.int .u8))(hd:P.underlying dst=some .string) :
  (convert b dst (.slice A rows.length c)).run P w=.ok (.string ⟨h.toArray⟩) w:=by
 subst O;cases A with
 | none =>
  have J:h=[]:=by simpa using H rfl
  subst J;rw[run_convert_bytes_string w b dst e none _ c s q hd];simp[Conv.bytesToString];rfl
 | some ad =>
  obtain⟨rs,T,L,p,M⟩:=hr;have:=run_convert_bytes_back (P:=P) w b dst e ad c h s q hd fun j E=>by
   have l:j < (h.map gBy).length:=by simpa using E
   have f:j < rs.length:=by omega
   have D:=L j _ _ (ab l) (ab f);have U:=p rs[j] (bm f);have F:=D9 p (ab f) (ab (by omega:0 < rs[j].length));have B:=M ad rfl _ _ F;rw[Nat.mul_one,Nat.add_zero] at B;rw[B];have C:=D.2 0 (.v (.int .u8 (h[j].toNat:Int))) rs[j][0] (by simp[gBy]) (ab _);generalize rs[j][0]=z at C;cases C;rfl
  rw[aa];exact this
theorem Has.below (h:Has I V own w)(c:Below w.heap.size w w'):Has I V own w' :=
 (G6 h (h.mem.keep fun b _ _ e=>c.block b (h.mem.lt e)) (.refl _) (fun _ _ _=>rfl) c).has
theorem Zfg (hT:∀t i,look t tb=some i→TIok P t i)(hS:∀u,S u→Agree V XL w u)(hH:Has I V own w)(ha:ARep N I V a t){l dst:TypeId}{z:Operand}(ho:o.op=.convert l dst z){p q:TI}(hp:look l tb=some p)(hq:look dst tb=some q)(h:ev t own z fun g=>cvK own g p q (cvU tb p XL) fun g=>K (put o.dst g t) own V.n):QOk S P I V own w a t o K:=by
 obtain⟨g,h,T⟩:=B8 h ha hH;have f:∀{v u},(convert l dst (a.eval z)).run P u=.ok v u→(execOp a.eval o).run P u=.ok (.value v) u:=fun hr=>by simp only[execOp,ho,Sem.run_bind,hr,Result.andThen_ok,Sem.run_pure]
 have F:=hT _ _ hp;have E:=hT _ _ hq;obtain⟨pag,pz,pe,pf,ps,pk,pd⟩:=p;obtain⟨qag,qz,qe,qf,X,qk,qd⟩:=q;unfold cvK cvU at h;dsimp only at h;cases pe with
 | some es =>
  obtain⟨e,sz⟩:=es;cases X with
  | false=>exact False.elim h
  | true =>
   cases XL with
   | cons k XL=>exact False.elim h
   | nil =>
   dsimp only at h;cases hu:Zhd tb e with
   | false=>rw[hu] at h;exact h.elim
   | true =>
    rw[hu] at h;dsimp only at h;have M:=TIok.u8 hT hu;have Z:=E.str rfl;have Y:=(F.elem e sz rfl).1;have B:∀{rows:List (List G)} {K1:List UInt8→Prop},EvBytes rows K1→Z5x own g 1 (fun r=>r=rows)→∃C,K1 C∧∀u,S u→(convert l dst (a.eval z)).run P u=.ok (.string ⟨C.toArray⟩) u:=fun {rows K1} ⟨C,e1,j⟩ hn=>by refine⟨C,j,fun u D=>?_⟩;obtain⟨new,A,c,rs,e2,e3,O,J,k3,k4,-,k5⟩:=Wq hn (T:TRep I V g (a.eval z)) hH;subst e2;rw[e3];refine Z7g e1 ⟨rs,J,k3,k4,fun a ha m x hx=>?_⟩ (fun e=>am (O e).1) Y M Z;have H:=k5 a ha m x hx;have U:=World.block_lt_of_cell? w _ H;rw[World.cell?_of_block (w:=w) (w':=u) (hS u D _ U (fun k j=>by simp at j))];exact H
    have W:∀{rows:List (List G)} {K1:List UInt8→Prop},EvBytes rows K1→∀r∈rows,r.length=1∧r.all G.one=true:=fun⟨C,e1,_⟩ r hr=>by subst e1;obtain⟨b,-,rfl⟩:=ba.1 hr;exact⟨rfl,rfl⟩
    cases g with
    | nl =>
     obtain⟨C,j,hr⟩:=B h rfl;exact⟨_,_,j,.of_v (.v _),fun u D=>f (hr u D)⟩
    | sl rows =>
     obtain⟨C,j,hr⟩:=B h ⟨W h,rfl⟩;exact⟨_,_,j,.of_v (.v _),fun u D=>f (hr u D)⟩
    | osl k =>
     unfold byK at h;dsimp only at h;split at h
     ·next rows e' L =>
      obtain⟨C,j,hr⟩:=B h (by unfold Z5x;dsimp only;rw[L]);exact⟨_,_,j,.of_v (.v _),fun u D=>f (hr u D)⟩
     ·exact h.elim
    | _=>exact False.elim h
 | none =>
  cases ps with
  | true =>
   cases X with
   | false=>exact False.elim h
   | true =>
    dsimp only at h;split at h
    ·next s =>
     have e:=B0 T;exact⟨_,_,h,.of_v (.v _),fun u _=>f (by rw[e];simp[convert,run_underlying (F.str rfl),run_underlying (E.str rfl)])⟩
    ·exact h.elim
  | false =>
   cases pk with
   | none=>exact False.elim h
   | some O =>
    cases X with
    | true=>exact False.elim h
    | false =>
     cases qk with
     | none=>exact False.elim h
     | some J =>
      dsimp only at h;split at h
      ·next k n =>
       have e:=B0 T;have H:∀u,(convert l dst (.int k n)).run P u=.ok (.int J (J.wrap n)) u:=fun u=>by simp[convert,run_underlying (F.ik O rfl),run_underlying (E.ik J rfl),Conv.intToInt]
       cases J with
       | i64 =>
        obtain⟨hr,j⟩:=h;exact⟨_,_,j,.of_v (.v _),fun u _=>f (by rw[e,H,IntWalk.i64_in _ hr])⟩
       | u8=>exact⟨_,_,h,.of_v (.v _),fun u _=>f (by rw[e,H,IntKind.wrap_u8])⟩
       | u64=>exact⟨_,_,h,.of_v (.v _),fun u _=>f (by rw[e,H])⟩
       | _=>exact False.elim h
      ·exact h.elim
theorem Z7b (hH:Has I V own w)(ha:ARep N I V a t)(hd:∀i,o.dst=some i→i < N)(hK:NxtB N own I V w K next){A dst e:TypeId}{z:Operand}(Y:o.op=.convert A dst z)(U:P.underlying A=some .string)(F:P.underlying dst=some (.slice e))(O:P.underlying e=some (.int .u8))(h:ev t own z fun g=>match g with
  | .v (.string s)=>K (put o.dst (.sl (s.data.toList.map gBy)) t) own V.n
  | _=>False):o.wp P a w next Q:=by
 obtain⟨g,h,D⟩:=B8 h ha hH;split at h
 ·next s =>
  have W:=B0 D;have hr:=run_bytes_of_string (P:=P) w A dst e s U F O;obtain⟨w',p⟩:∃w',w'=(w.drew.alloc (.cells (bytesRow s (grownCap w s.size 0 e)) e ((bytesRow s (grownCap w s.size 0 e)).size,(bytesRow s (grownCap w s.size 0 e)).size+1))):=⟨_,rfl⟩;rw[←p] at hr;have E:Below w.heap.size w w':=by rw[p];exact((Below.refl _ _).drew).alloc (af _) _
  have M:w'.heap[w.heap.size]?=some (.cells (bytesRow s (grownCap w s.size 0 e)) e ((bytesRow s (grownCap w s.size 0 e)).size,(bytesRow s (grownCap w s.size 0 e)).size+1)):=by rw[p];exact heap_alloc_new w.drew _
  let I':Imm:=fun b o=>if b=w.heap.size then(bytesRow s (grownCap w s.size 0 e))[o]? else I b o;have J:I.le I':=fun b o x c=>by show(if b=w.heap.size then _ else I b o)=_;rw[db (fun L=>by have:=hH.mem.lt c;omega)];exact c
  have X:Mem I' w':=fun b o x c=>by
   change (if b=w.heap.size then _ else I b o)=_ at c
   split at c
   ·next L=>subst L;rw[cell_of_row w' _ o _ e _ M];exact c
   ·exact(hH.mem.keep (w':=w') fun b o x c=>E.block b (hH.mem.lt c)) b o x c
  have T:=G6 hH X J (fun b o q=>db (Nat.ne_of_lt q)) E;have B:s.size≤grownCap w s.size 0 e:=grownCap_ge w s.size 0 e;refine Td (g:=.sl (s.data.toList.map gBy)) (y:=.slice (some ⟨w.heap.size,0,none⟩) s.size (grownCap w s.size 0 e)) hK ha hd (by simp only[execOp,Y,Sem.run_bind,W,hr,Result.andThen_ok,Sem.run_pure]) T E (.refl _) (.of_v ?_) h;have f:∀(i:Nat) (b:UInt8),s.data.toList[i]?=some b→(bytesRow s (grownCap w s.size 0 e))[i]?=some (Value.int .u8 (b.toNat:Int)):=fun i b hi=>by
   have q:=(ac.1 hi).1;unfold bytesRow;rw[Array.getElem?_append_left (by simpa using q)];have H:s.data[i]?=some b:=by simpa using hi
   simp[H]
  have l:∀(i:Nat) r,(s.data.toList.map gBy)[i]?=some r→∃b,s.data.toList[i]?=some b∧r=gBy b:=fun i r hr=>by rw[aj] at hr;obtain⟨b,C,H⟩:=ay.1 hr;exact⟨b,C,H.symm⟩
  have key:=VRep.sl (I:=I') (s.data.toList.map gBy) (some ⟨w.heap.size,0,none⟩) (grownCap w s.size 0 e) 1 (fun i _=>((bytesRow s (grownCap w s.size 0 e))[i]?).getD undef) (by simpa using B) (fun e=>by cases e) (fun r hr=>by obtain⟨b,-,rfl⟩:=ba.1 hr;rfl) (fun i r hr=>⟨_,_,rfl,fun j Z=>?_⟩) (fun i r j g hr D=>?_)
  ·simpa using key
  ·obtain⟨b,C,-⟩:=l i r hr;obtain rfl:j=0:=by omega
   show(if w.heap.size=w.heap.size then _ else _)=_;rw[dc rfl,cb,Nat.mul_one,Nat.add_zero,f i b C];rfl
  ·obtain⟨b,C,rfl⟩:=l i r hr;cases j with
   | succ j=>simp[gBy] at D
   | zero =>
    simp[gBy] at D;subst D;rw[f i b C];exact .v _
 ·exact h.elim
theorem Kv:∀{rs:List (List Value)} (_:∀u∈rs,u.length=1) (k:Nat),(rs.take k).flatten=rs.flatten.take k∧(rs.drop k).flatten=rs.flatten.drop k
 | [],_,k=>by simp
 | u::rs,h,0=>by simp
 | u::rs,h,k+1=>by have b:=h u (by simp);obtain⟨x,rfl⟩:∃x,u=[x]:=List.length_eq_one_iff.1 b;have c:=Kv (rs:=rs) (fun u b=>h u (by simp[b])) k;simp[c.1,c.2]
theorem Sx (hH:Has I V own w){k e lo d:Nat}{rows new:List (List G)}(J:look k own=some (.slc rows e 1))(hlo:lo+d≤rows.length){A:Option Addr}{c:Nat}{rs:List (List Value)}(hA:A=none→new.length=0∧c=0)(k1:rs.length=new.length)(k2:∀(i:Nat) r u,new[i]?=some r→rs[i]?=some u→PW (VRep I) r u)(W:∀u∈rs,u.length=1)(k4:∀u∈rs,∀x∈u,x.oneCell'=true)(k5:∀a,A=some a→∀(j:Nat) u,rs.flatten[j]?=some u→w.cell? (a.add j)=some u)
  {M sT U:TypeId} (T:P.underlying M=some (.slice U)) (hs:(P.info? U).map (·.size)=some 1) (ty:TypeId) :
  ∃w',(Builtin.copy_ #[M,sT] ty #[Hz 1 (V.s k) lo (lo+d),.slice A new.length c]).run P w=.ok (.int .i64 (min new.length d:Nat)) w'∧Later own I V w ((k,.slc (rows.take lo++new.take (min new.length d)++rows.drop (lo+min new.length d)) e 1)::own) I V w':=by
 obtain⟨hf,l,ho,g2,g3,C,g5,g6⟩:=hH.each k _ J;obtain⟨m,L⟩:∃m,m=min new.length d:=⟨_,rfl⟩;have hmd:m≤d:=by rw[L];exact Nat.min_le_right _ _
 have hmn:m≤new.length:=by rw[L];exact Nat.min_le_left _ _
 rw[←L];obtain⟨A0,c0,z,hc0⟩:=Hm hH J;by_cases h0:m=0
 ·subst h0;refine⟨w,?_,Db hH J rfl rfl rfl rfl (fun _ _=>rfl) ?_⟩
  ·rw[z];unfold Hz;dsimp only;have:=run_copy_none (P:=P) w M sT ty U (if c0=lo then A0 else A0.map (·.add (lo * 1))) A (lo+d - lo) (c0 - lo) new.length c T hs (by rw[Nat.add_sub_cancel_left];exact L.symm);exact this
  ·simpa using hH.each k _ J
 ·rcases ho.2 with⟨H,h8⟩ | ⟨b,cap,cur,H,-,hg,hnc,hcm,hcs,ht⟩
  ·omega
  ·rw[H] at z;injection z with X e2 e3;subst X e3;cases A with
   | none=>have:=hA rfl;omega
   | some ad =>
    have hne:¬cap=lo:=by omega
    obtain⟨cs,p⟩:∃cs,cs=(rs.take m).flatten:=⟨_,rfl⟩;have E:∀u∈rs.take m,u.length=1:=fun u T=>W u (be T);have O:cs.length=m:=by rw[p,Bm E];simp;omega
    have F:∀j x,cs[j]?=some x→rs.flatten[j]?=some x:=fun j x hx=>by rw[p] at hx;obtain⟨i,q,u,rfl,hq,f,Y⟩:=P7 E hx;exact D9 W (by rw[bj] at f;(split at f<;>first | exact f | cases f)) Y
    have h1:∀v∈cs,v.oneCell'=true:=fun v z=>by rw[p] at z;obtain⟨u,f,z⟩:=List.mem_flatten.1 z;exact k4 u (be f) v z
    have B:=run_copy_row (P:=P) w M sT ty U b (0+lo * 1) (lo+d - lo) (cap - lo) ad new.length c cur e cs T hs hg (by rw[O,L,Nat.add_sub_cancel_left]) (fun j v z=>k5 ad rfl j v (F j v z)) (by rw[O];omega) h1;rw[O] at B;have hrl:∀u∈l,u.length=1:=C;refine⟨w.setRow b (cur.toList.take (0+lo * 1)++cs++cur.toList.drop (0+lo * 1+m)).toArray,?_,Db (w':=w.setRow b _) hH J rfl rfl rfl (by simp[World.setRow]) (fun b' Z=>setRow_other w _ b' _ (fun e=>Z ((hf b').2 (by rw[H,e];rfl)))) ⟨hf,l.take lo++rs.take m++l.drop (lo+m),⟨?_,.inr ⟨b,cap,_,(by rw[H];congr 1;simp;first | done | omega),ah _,setRow_heap w b cur _ e _ hg,by simp;omega,hcm,by simp;omega,?_⟩⟩,by simp;omega,fun i r u hr f=>?_,fun u f=>?_,fun u f=>?_,g6⟩⟩
    ·rw[H];unfold Hz;dsimp only;rw[db hne];simp only[Option.map_some,Cp];exact B
    ·have:∀u∈l.take lo++rs.take m++l.drop (lo+m),u.length=1:=fun u f=>by
      rcases bu.1 f with h | h
      ·rcases bu.1 h with h | h
       ·exact C u (be h)
       ·exact W u (be h)
      ·exact C u (b7 h)
     rw[Bm this];simp;omega
    ·have ht':cur.toList.take (rows.length * 1)=l.flatten:=ht;have hcl:cur.toList.length=cap * 1:=by simpa using hcs
     rw[List.flatten_append,List.flatten_append,(Kv C lo).1,(Kv C (lo+m)).2,←p,←ht'];have hn:(rows.take lo++new.take m++rows.drop (lo+m)).length=rows.length:=by simp;omega
     rw[hn,show 0+lo * 1=lo by omega];simp only[List.take_append,List.take_take,List.drop_take,List.length_take,List.length_append,O];rw[Nat.min_eq_right (by omega:lo≤rows.length * 1),cf (by omega:lo≤rows.length * 1),cf (by omega:lo≤cur.toList.length),ap (by omega:cs.length≤rows.length * 1 - lo)]
    ·have X:(rows.take lo).length=lo:=by simp;omega
     have e2:(l.take lo).length=lo:=by simp;omega
     have e3:(new.take m).length=m:=by simp;omega
     have e4:(rs.take m).length=m:=by simp;omega
     rcases Nat.lt_or_ge i (lo+m) with hlt | hge
     ·rw[bl (by simp;omega)] at hr f;rcases Nat.lt_or_ge i lo with D | hge2
      ·rw[bl (by omega),bj,dc D] at hr f;exact g3 i r u hr f
      ·rw[bf (by omega),X,bj,dc (by omega)] at hr;rw[bf (by omega),e2,bj,dc (by omega)] at f;exact k2 _ r u hr f
     ·rw[bf (by simp;omega)] at hr f;have e5:(rows.take lo++new.take m).length=lo+m:=by simp;omega
      have e6:(l.take lo++rs.take m).length=lo+m:=by simp;omega
      rw[e5,bw] at hr;rw[e6,bw] at f;exact g3 _ r u hr f
    ·rcases bu.1 f with h | h
     ·rcases bu.1 h with h | h
      ·exact C u (be h)
      ·exact W u (be h)
     ·exact C u (b7 h)
    ·rcases bu.1 f with h | h
     ·rcases bu.1 h with h | h
      ·exact g5 u (be h)
      ·exact k4 u (be h)
     ·exact g5 u (b7 h)
theorem Zc8 (hH:Has I V own w){k j sz off e:Nat}{rows:List (List G)}(hr:look k own=some (.slc rows e sz)){b n c:Nat}(U:V.s k=.slice (some ⟨b,0,none⟩) n c)(T:j < rows.length){ds:List Value}(E:off+ds.length≤sz)(D:∀v∈ds,v.oneCell'=true) :
  ∃(u:List Value) (f:Array Value),u.length=sz∧PW (VRep I) rows[j] u∧w.heap[b]?=some (.cells f e (0,0))∧j * sz+off+ds.length≤f.size∧∀q,PW (VRep I) q (u.take off++ds++u.drop (off+ds.length))→Later own I V w ((k,.slc (rows.set j q) e sz)::own) I V (w.setRow b (f.toList.take (j * sz+off)++ds++f.toList.drop (j * sz+off+ds.length)).toArray):=by
   obtain⟨rs,f,F,h2,Z,H,X,hn,M,J,O,ht,-⟩:=Nu hH hr U;have hj:j < rows.length:=T;have z:j < rs.length:=by omega
   have k3:=E;have C:=H rs[j] (bm z);have hjn:j * sz+sz≤n * sz:=by rw[←Nat.succ_mul];exact Nat.mul_le_mul_right _ (by omega)
   have hnn:n * sz≤c * sz:=Nat.mul_le_mul_right _ M;refine⟨rs[j],f,C,Z j _ _ (ab hj) (ab z),F,by omega,fun q k2=>?_⟩;have L:=Wd H (ab z) off ds k3;have hfln:=Bm H;have l:∀u∈rs.set j (rs[j].take off++ds++rs[j].drop (off+ds.length)),u.length=sz∧∀x∈u,x.oneCell'=true:=fun u p=>by
    rcases co p with h | rfl
    ·exact⟨H u h,X u h⟩
    ·refine⟨by simp;omega,fun x A=>?_⟩;rcases bu.1 A with A | A
     ·rcases bu.1 A with A | A
      ·exact X _ (bm z) x (be A)
      ·exact D x A
     ·exact X _ (bm z) x (b7 A)
   refine(Db (w':=w.setRow b (f.toList.take (j * sz+off)++ds++f.toList.drop (j * sz+off+ds.length)).toArray) (r:=.slc (rows.set j q) e sz) hH hr rfl rfl rfl (by simp[World.setRow]) (fun b' W=>setRow_other w _ b' _ (fun e=>W (((hH.each k _ hr).1 b').2 (by rw[U,e];rfl)))) ⟨(hH.each k _ hr).1,rs.set j (rs[j].take off++ds++rs[j].drop (off+ds.length)),⟨?_,.inr ⟨b,c,_,by rw[U,hn];simp,ah _,setRow_heap w _ f _ e _ F,by simp;omega,J,?_,?_⟩⟩,by simp[h2],?_,fun u C=>(l u C).1,fun u C=>(l u C).2,(hH.each k _ hr).2.choose_spec.2.2.2.2.2⟩)
   ·rw[Bm fun u C=>(l u C).1];simp[h2]
   ·simp;omega
   ·rw[L];simp only[List.length_set,←hn];rw[←ht];have hcl:f.toList.length=c * sz:=by simpa using O
    simp only[List.take_append,List.take_take,List.drop_take,List.length_take,List.length_append];rw[Nat.min_eq_right (by omega:j * sz+off≤n * sz),cf (by omega:j * sz+off≤n * sz),cf (by omega:j * sz+off≤f.toList.length),ap (by omega:ds.length≤n * sz - (j * sz+off))]
   ·intro i r u B p;rw[cn] at B p;split at B
    ·next Y =>
     subst Y;rw[dc rfl,dc z] at p;cases B;cases p;exact k2
    ·next Y =>
     rw[db Y] at p;exact Z i r u B p
theorem Zbt (hT:∀t i,look t tb=some i→TIok P t i)(hK:Nxt N own0 I0 V0 w0 K next)(hL:Since own0 I0 V0 w0 own I V w)(ha:ARep N I V a t)(hd:∀i,o.dst=some i→i < N){x z:Operand}{ty C:TypeId}{ag:Bool}{ze:List G}{e:Nat}{fl:List (TypeId × Nat)}{st:Bool}{ik:Option IntKind}{kd:KD}(U:look ty tb=some ⟨ag,ze,some (e,1),fl,st,ik,kd⟩)(ho:o.op=.call {callee:=.builtin .copy,args:=#[x,z],argTypes:=#[ty,C]})(h:ev t own x fun g=>ev t own z fun q=>Z5x own q 1 fun new=>match g with
          | .osl k=>match look k own with
           | some (.slc rows e 1)=>K (put o.dst (.v (.int .i64 (min new.length rows.length:Nat))) t) ((k,.slc (new.take (min new.length rows.length)++rows.drop (min new.length rows.length)) e 1)::own) V.n
           | _=>False
          | .osv k 1 lo hi=>match look k own with
           | some (.slc rows e 1)=>K (put o.dst (.v (.int .i64 (min new.length (hi - lo):Nat))) t) ((k,.slc (rows.take lo++new.take (min new.length (hi - lo))++rows.drop (lo+min new.length (hi - lo))) e 1)::own) V.n
           | _=>False
          | .orv k i sz off len _=>match look k own with
           | some (.slc rows e sz')=>match Nat.beq sz sz' with
            | true=>Fc (off+len≤sz) (EvSet rows i (fun row k=>k (row.take off++(new.take (min new.length len)).flatten++row.drop (off+min new.length len))) fun O=>K (put o.dst (.v (.int .i64 (min new.length len:Nat))) t) ((k,.slc O e sz)::own) V.n)
            | false=>False
           | _=>False
          | _=>False):o.wp P a w next Q:=by
 obtain⟨g,hk1,hg⟩:=B8 h ha hL.has;obtain⟨q,hk2,hq⟩:=B8 hk1 ha hL.has;obtain⟨new,A,c,rs,f,he,hA,k1,k2,k3,k4,k5⟩:=Wq hk2 hq hL.has;clear h hk1 hk2;obtain⟨W,ie,zv,M,h2,h3,h4,h5,h6⟩:=(hT _ _ U).elem e 1 rfl;have hs:(P.info? e).map (·.size)=some 1:=by rw[M];simp[h3]
 have l:∀{v w'},(Builtin.copy_ #[ty,C] o.type #[a.eval x,.slice A new.length c]).run P w=.ok v w'→(execOp a.eval o).run P w=.ok (.value v) w':=fun hr=>by simp only[execOp,ho,resolve,invoke,builtin,Sem.run_bind,Sem.run_pure,Result.andThen_ok,List.map_toArray,List.map_cons,List.map_nil,he,hr]
 cases g with
 | osl k =>
  obtain⟨hkn,F⟩:=(show k < V.n∧a.eval x=V.s k from hg);dsimp only at f;split at f
  ·next rows e' p =>
   obtain⟨w',c1,c2⟩:=Sx (P:=P) (lo:=0) (d:=rows.length) hL.has p (by omega) hA k1 k2 k3 k4 k5 W hs (sT:=C) o.type;obtain⟨A0,c0,E,hc0⟩:=Hm hL.has p;have e0:Hz 1 (V.s k) 0 (0+rows.length)=V.s k:=by rw[E];unfold Hz;dsimp only;cases A0<;>simp[Addr.add]
   rw[e0] at c1;refine fin hK hL ha hd (l (by rw[F];exact c1)) c2 (.of_v (.v _)) ?_;simpa using f
  ·exact f.elim
 | osv k sz lo hi =>
  obtain⟨hkn,⟨b1,b2⟩,F⟩:=(show k < V.n∧(lo≤hi∧hi≤Nb (V.s k))∧a.eval x=Hz sz (V.s k) lo hi from hg);cases J:Nat.beq sz 1 with
  | false =>
   exfalso;cases sz with
   | zero=>exact f.elim
   | succ n=>cases n with
    | zero=>cases J
    | succ n=>exact f.elim
  | true =>
   have J:=ai J;subst J;have f:match look k own with
    | some (.slc rows e 1)=>K (put o.dst (.v (.int .i64 (min new.length (hi - lo):Nat))) t) ((k,.slc (rows.take lo++new.take (min new.length (hi - lo))++rows.drop (lo+min new.length (hi - lo))) e 1)::own) V.n
    | _=>False:=f
   split at f
   ·next rows e' p =>
    obtain⟨A0,c0,E,hc0⟩:=Hm hL.has p;have b3:hi≤rows.length:=by rw[E] at b2;exact b2
    obtain⟨w',c1,c2⟩:=Sx (P:=P) (lo:=lo) (d:=hi - lo) hL.has p (by omega) hA k1 k2 k3 k4 k5 W hs (sT:=C) o.type;rw[show lo+(hi - lo)=hi by omega] at c1;exact fin hK hL ha hd (l (by rw[F];exact c1)) c2 (.of_v (.v _)) f
   ·exact f.elim
 | orv k i sz off len cap =>
  obtain⟨hkn,b,q0,hob,F⟩:=(show TRep1 I V (.orv k i sz off len cap) (a.eval x) from hg);dsimp only at f;split at f
  ·next rows e' sz' p =>
   split at f
   ·next hb =>
    have hb:=ai hb;subst hb;obtain⟨n0,c0,hs0⟩:∃n c,V.s k=.slice (some ⟨b,q0,none⟩) n c:=by
     obtain⟨-,-,-,-,-,-,-,hz⟩:=hL.has.each k _ p;cases sz with
     | zero=>omega
     | succ sz=>exact hob
    obtain rfl:=Z93 hL.has p hs0;rw[cb] at F;obtain⟨hfit,T,f⟩:=f;obtain⟨m,hm⟩:∃m,m=min new.length len:=⟨_,rfl⟩;rw[←hm] at f;obtain⟨ds,H⟩:∃ds,ds=(rs.take m).flatten:=⟨_,rfl⟩;have Y:∀u∈rs.take m,u.length=1:=fun u W=>k3 u (be W);have U:ds.length=m:=by rw[H,Bm Y];simp;omega
    have L:∀v∈ds,v.oneCell'=true:=fun v E=>by rw[H] at E;obtain⟨u,D,E⟩:=List.mem_flatten.1 E;exact k4 u (be D) v E
    obtain⟨u,B,q1,q2,q3,q4,q5⟩:=Zc8 hL.has (off:=off) p hs0 T (ds:=ds) (by omega) L;have hpd:PW (VRep I) (new.take m).flatten ds:=by
     rw[H];refine V9 (by simp[k1]) fun i r u M h2=>?_;rw[bj] at M h2;split at M
     ·next T=>rw[dc T] at h2;exact k2 i r u M h2
     ·cases M
    have X:PW (VRep I) (rows[i].take off++(new.take m).flatten++rows[i].drop (off+m)) (u.take off++ds++u.drop (off+ds.length)):=by
     rw[U];have p1:=q2.part 0 off;have p2:=q2.part (off+m) sz;rw[List.drop_zero,List.drop_zero] at p1;have e1:rows[i].length=sz:=by rw[q2.1,q1]
     rw[ap (by rw[bc];omega),ap (by rw[bc];omega)] at p2;exact(p1.append hpd).append p2
    have hl2:=q5 _ X;have hk2:=f rows[i] (by simp);have hr3:(Builtin.copy_ #[ty,C] o.type #[a.eval x,.slice A new.length c]).run P w=.ok (.int .i64 (m:Nat)) (w.setRow b (B.toList.take (i * sz+off)++ds++B.toList.drop (i * sz+off+ds.length)).toArray):=by
     rw[F];cases A with
     | none =>
      have h0:=(hA rfl).1;have hm0:m=0:=by omega
      subst hm0;have hd0:ds=[]:=am U;have hsf:w.setRow b (B.toList.take (i * sz+off)++ds++B.toList.drop (i * sz+off+ds.length)).toArray=w:=by
       subst hd0;have e1:(B.toList.take (i * sz+off)++[]++B.toList.drop (i * sz+off+0)).toArray=B:=by simp
       rw[show([]:List Value).length=0 from rfl,e1];unfold World.setRow;refine congrArg (fun h=>({w with heap:=h}:World)) (?_:_=w.heap);apply Array.ext
       ·simp
       ·intro j M h2;rw[Array.getElem_modify];split
        ·next e =>
         subst e;have:=(bp.1 q3).2;rw[this]
        ·rfl
      rw[hsf];refine run_copy_none (P:=P) w ty C o.type e (some ⟨b,i * sz+off,none⟩) none len cap new.length c W hs ?_;rw[h0];exact Nat.zero_min _
     | some ad =>
      have Z:∀j x,ds[j]?=some x→rs.flatten[j]?=some x:=fun j x F=>by rw[H] at F;obtain⟨i,q,u,rfl,hq,D,hx'⟩:=P7 Y F;exact D9 k3 (by rw[bj] at D;(split at D<;>first | exact D | cases D)) hx'
      have l:=run_copy_row (P:=P) w ty C o.type e b (i * sz+off) len cap ad new.length c B e' ds W hs q3 (by rw[U,hm]) (fun j v E=>k5 ad rfl j v (Z j v E)) q4 L;rw[U] at l⊢;exact l
    exact fin hK hL ha hd (l hr3) hl2 (.of_v (.v _)) hk2
   ·exact f.elim
  ·exact f.elim
 | _=>exact f.elim
end
theorem Mf:∀(rs:List R) (j i:Nat),look i (Bk rs j)=if j≤i then rs[i - j]? else none
 | [],j,i=>by simp[Bk,look]
 | r::rs,j,i=>by
  rw[Bk,A5,Mf rs (j+1) i];by_cases h:i=j
  ·subst h;simp
  ·by_cases b:j≤i
   ·obtain⟨d,rfl⟩:=Nat.exists_eq_add_of_le b;cases d with
    | zero=>simp at h
    | succ d =>
     rw[db h,dc (by omega),dc b,show j+(d+1) - (j+1)=d by omega,show j+(d+1) - j=d+1 by omega];simp
   ·rw[db h,db b,db (by omega)]
theorem Ai (rs:List R)(i:Nat):look i (Bk rs 0)=rs[i]?:=by rw[Mf];simp
def Br (ks:List Nat)(n i:Nat):Nat:=match ks[i]? with
 | some k=>k
 | none=>n+(i - ks.length)
theorem E6 (n i:Nat):Br [] n i=n+i:=by simp[Br]
theorem Ip (k:Nat)(ks:List Nat)(n i:Nat):Br (k::ks) n (i+1)=Br ks n i:=by
 unfold Br;simp only[List.getElem?_cons_succ,List.length_cons];cases ks[i]? with
 | some k=>rfl
 | none=>simp only;congr 1;omega
theorem N4:∀(ks:List Nat) (n:Nat) (rs:List R) (j i:Nat),look i (T2 ks n rs j)=if j≤i∧i - j < rs.length then some (Br ks n (i - j)) else none
 | [],n,[],j,i=>by simp[T2,look]
 | k::ks,n,[],j,i=>by simp[T2,look]
 | k::ks,n,r::rs,j,i=>by
  rw[T2,A5,N4 ks n rs (j+1) i];by_cases h:i=j
  ·subst h;simp[Br]
  ·by_cases b:j+1≤i∧i - (j+1) < rs.length
   ·rw[db h,dc b,dc ⟨by omega,by simp;omega⟩,show i - j=i - (j+1)+1 by omega,Ip]
   ·rw[db h,db b,db (fun c=>b ⟨by omega,by simp at c;omega⟩)]
 | [],n,r::rs,j,i=>by
  rw[T2,A5,N4 [] (n+1) rs (j+1) i];by_cases h:i=j
  ·subst h;simp[Br]
  ·by_cases b:j+1≤i∧i - (j+1) < rs.length
   ·rw[db h,dc b,dc ⟨by omega,by simp;omega⟩,E6,E6];congr 1;omega
   ·rw[db h,db b,db (fun c=>b ⟨by omega,by simp at c;omega⟩)]
def Pw (m:List (Nat × Nat)):List R→List Nat→Os→Nat→Os
 | [],_,own,_=>own
 | r::rs,k::ks,own,n=>Pw m rs ks ((k,Ii m r)::own) n
 | r::rs,[],own,n=>Pw m rs [] ((n,Ii m r)::own) (n+1)
theorem Z4 {m:List (Nat × Nat)}{g:G}(h:C2 g=true):Kg m g=g:=by cases g<;>first | rfl | cases h
theorem Z2q {m:List (Nat × Nat)}{l:List G}(h:B4 C2 l=true):l.map (Kg m)=l:=by
 induction l with
 | nil=>rfl
 | cons g l ih =>
  have b:=Ae h g (by simp);have c:B4 C2 l=true:=by unfold B4 at h;rw[b] at h;exact h
  rw[ck,Z4 b,ih c]
theorem Kx {m:List (Nat × Nat)}{r:R}(h:Jh r=true):Ii m r=r:=by
 cases r with
 | blk cs t=>simp only[Ii,Z2q (show B4 C2 cs=true from h)]
 | lnk j=>cases h
 | adr j b=>cases h
 | _=>rfl
theorem Ku {m:List (Nat × Nat)}{g:G}(h:Ho g=true):Z5r m g=g:=by
 cases g with
 | oag l=>simp only[Z5r,Z2q (show B4 C2 l=true from h)]
 | clo f a c=>cases h
 | tup l=>cases h
 | ptr k o=>cases h
 | osl k=>cases h
 | osv k a b c=>cases h
 | oel k a b c=>cases h
 | orv k a b c d e=>cases h
 | mp k=>cases h
 | _=>rfl
theorem Kf {m:List (Nat × Nat)}{g:G}(h:L1 g=true):Qs m g=g:=by
 cases g with
 | tup l =>
  have key:∀l:List G,B4 Ho l=true→l.map (Z5r m)=l:=fun l h=>by
   induction l with
   | nil=>rfl
   | cons g l ih =>
    have j:=Ae h g (by simp);have p:B4 Ho l=true:=by unfold B4 at h;rw[j] at h;exact h
    rw[ck,Ku j,ih p]
  simp only[Qs,key l h]
 | v x=>exact Ku (m:=m) (g:=.v x) h
 | oag l=>exact Ku (m:=m) (g:=.oag l) h
 | clo f a c=>cases h
 | ptr k o=>cases h
 | osl k=>cases h
 | osv k a b c=>cases h
 | oel k a b c=>cases h
 | orv k a b c d e=>cases h
 | mp k=>cases h
 | _=>rfl
theorem Ls {m:List (Nat × Nat)}{K:Os→Nat→Prop}:∀{rs:List R} {ks:List Nat} {own:Os} {n:Nat},La m rs ks own n K→K (Pw m rs ks own n) (n+(rs.length - ks.length))
 | [],ks,own,n,h=>by simpa [La,Pw] using h
 | r::rs,k::ks,own,n,h=>by
  have b:La m rs ks ((k,Ii m r)::own) n K:=by
   unfold La at h;split at h
   ·next e=>rw[Kx e];exact h
   ·exact h
  have:=Ls b;simpa [Pw] using this
 | r::rs,[],own,n,h=>by
  have b:La m rs [] ((n,Ii m r)::own) (n+1) K:=by
   unfold La at h;split at h
   ·next e=>rw[Kx e];exact h
   ·exact h
  have:=Ls b;simp only[List.length_nil,Nat.sub_zero] at this;simpa [Pw,Nat.add_assoc,Nat.add_comm 1] using this
theorem Zda {ks:List Nat}{own:Os}{n:Nat}{g:G}{rs:List R}{K:G→Os→Nat→Prop}(h:Z7f ks own n g rs K):K (Qs (T2 ks n rs 0) g) (Pw (T2 ks n rs 0) rs ks own n) (n+(rs.length - ks.length)):=by
 unfold Z7f at h;split at h
 ·next e=>rw[Kf e];exact Ls (K:=fun own n=>K g own n) h
 ·exact Ls (K:=fun own' b=>K (Qs (T2 ks n rs 0) g) own' b) h
theorem D1 {m:List (Nat × Nat)}:∀{rs:List R} {ks:List Nat} {own:Os} {n k:Nat} {r:R},look k (Pw m rs ks own n)=some r →
  (∃i b,Br ks n i=k∧rs[i]?=some b∧r=Ii m b)∨((∀i,i < rs.length→Br ks n i≠k)∧look k own=some r)
 | [],ks,own,n,k,r,h=>.inr ⟨fun i hi=>by simp at hi,h⟩
 | b::rs,k0::ks,own,n,k,r,h=>by
  rcases D1 (rs:=rs) (ks:=ks) (own:=(k0,Ii m b)::own) (n:=n) h with⟨i,r1,h1,h2,h3⟩ | ⟨h1,h2⟩
  ·exact .inl ⟨i+1,r1,by rw[Ip];exact h1,by simpa using h2,h3⟩
  ·rw[A5] at h2;split at h2
   ·next e=>cases h2;exact .inl ⟨0,b,by simp[Br,e],rfl,rfl⟩
   ·next e=>exact .inr ⟨fun i hi=>by
     cases i with
     | zero=>simp[Br];exact fun c=>e c.symm
     | succ i=>rw[Ip];exact h1 i (by simpa using hi),h2⟩
 | b::rs,[],own,n,k,r,h=>by
  rcases D1 (rs:=rs) (ks:=[]) (own:=(n,Ii m b)::own) (n:=n+1) h with⟨i,r1,h1,h2,h3⟩ | ⟨h1,h2⟩
  ·exact .inl ⟨i+1,r1,by rw[E6] at h1⊢;omega,by simpa using h2,h3⟩
  ·rw[A5] at h2;split at h2
   ·next e=>cases h2;exact .inl ⟨0,b,by rw[E6];omega,rfl,rfl⟩
   ·next e=>exact .inr ⟨fun i hi=>by
     cases i with
     | zero=>rw[E6];exact fun c=>e (by omega)
     | succ i =>
      have:=h1 i (by simpa using hi);rw[E6] at this⊢;omega,h2⟩
section
variable {I I':Imm} {V V1 V':Va} {w w':World} {own:Os} {k n:Nat} {g:G} {x:Value} {r:R} {ks:List Nat} {rs:List R}
theorem VRep.cr (h:VRep I g x):CRep I V g x:=.of_v h
def Va.lend (V:Va)(ks:List Nat):Va:=⟨ks.length,fun i=>V.b (Br ks 0 i),fun i=>V.s (Br ks 0 i),fun i=>V.f (Br ks 0 i)⟩
theorem Kh (f:C2 g=true)(h:CRep I V g x):CRep I V' g x:=by
 cases g with
 | ptr k o=>cases f
 | osl k=>cases f
 | osv k a b c=>cases f
 | oel k a b c=>cases f
 | orv k a b c d e=>cases f
 | mp k=>cases f
 | _=>exact h
theorem X8 {cs:List G}{c:List Value}(f:B4 C2 cs=true)(h:PW (CRep I V) cs c):PW (CRep I V') cs c:=⟨h.1,fun j g u b e=>Kh (Ae f g (ae b)) (h.2 j g u b e)⟩
theorem RRep.lend (B:Jh r=true)(h:RRep I V k w r){j:Nat}(c:V'.b j=V.b k)(z:V'.s j=V.s k)(hf:V'.f j=V.f k):RRep I V' j w r:=by
 cases r with
 | blk cs t =>
  obtain⟨q,C,A,E⟩:=h;exact⟨fun b=>by rw[hf,c];exact q b,C,by rw[c];exact A,X8 B E⟩
 | slc rows e sz =>
  obtain⟨q,A⟩:=h;exact⟨fun b=>by rw[hf,z];exact q b,by rw[z];exact A⟩
 | vw rows e sz =>
  obtain⟨q,A⟩:=h;exact⟨fun b=>by rw[hf,z];exact q b,by rw[z];exact A⟩
 | froz rows sz=>exact⟨fun b=>by rw[hf];exact h.1 b,by rw[z];exact h.2.1,h.2.2⟩
 | gone=>exact fun b=>by rw[hf];exact h b
 | mpI l=>exact⟨fun b=>by rw[hf,c];exact h.1 b,by rw[c];exact h.2⟩
 | mpS l=>exact⟨fun b=>by rw[hf,c];exact h.1 b,by rw[c];exact h.2⟩
 | sit s pos=>exact⟨fun b=>by rw[hf,c];exact h.1 b,by rw[c];exact h.2⟩
 | mpX l m ob=>exact⟨fun b=>by rw[hf,c];exact h.1 b,by rw[c];exact h.2⟩
 | mit i l D last m ob=>exact⟨fun b=>by rw[hf,c];exact h.1 b,by rw[c];exact h.2⟩
 | abs p=>exact⟨h.1,by rw[hf,c];exact h.2⟩
 | lnk j=>cases B
 | adr j b=>cases B
 | fam ps=>exact⟨h.1,by rw[hf];exact h.2⟩
theorem Be {i:Nat}(h:ks[i]?=some k):Br ks n i=k:=by simp[Br,h]
def Va.back (V:Va)(ks:List Nat)(V1:Va):Va:=⟨V.n+(V1.n - ks.length),fun k=>if k < V.n then V.b k else V1.b (ks.length+(k - V.n)),fun k=>if k < V.n then V.s k else V1.s (ks.length+(k - V.n)),fun k b=>(∃i,i < V1.n∧Br ks V.n i=k∧V1.f i b)∨((∀i,i < V1.n→Br ks V.n i≠k)∧V.f k b)⟩
theorem Zg (hd:ks.Nodup)(b:∀k∈ks,k < n){i j:Nat}(h:Br ks n i=Br ks n j):i=j:=by
 unfold Br at h;cases hi:ks[i]? with
 | some k =>
  cases hj:ks[j]? with
  | some k' =>
   rw[hi,hj] at h;dsimp only at h;subst h;exact(List.getElem?_inj (ac.1 hi).1 hd).1 (by rw[hi,hj])
  | none =>
   rw[hi,hj] at h;have:=b k (ae hi);dsimp only at h;omega
 | none =>
  have c:=List.getElem?_eq_none_iff.1 hi;cases hj:ks[j]? with
  | some k' =>
   rw[hi,hj] at h;have:=b k' (ae hj);dsimp only at h;omega
  | none =>
   have e:=List.getElem?_eq_none_iff.1 hj;rw[hi,hj] at h;dsimp only at h;omega
theorem Dk {m:List (Nat × Nat)}{out:Nat→Nat}(j:∀i,i < V1.n→(look i m).getD i=out i∧out i < V'.n∧V'.b (out i)=V1.b i∧V'.s (out i)=V1.s i)(h:CRep I V1 g x):CRep I V' (Kg m g) x:=by
 cases g with
 | ptr k o=>obtain⟨c,f,e,-⟩:=j k h.1;exact⟨by rw[c];exact f,by rw[c,e];exact h.2⟩
 | osl k=>obtain⟨c,f,-,e⟩:=j k h.1;exact⟨by rw[c];exact f,by rw[c,e];exact h.2⟩
 | osv k sz lo hi=>obtain⟨c,f,-,e⟩:=j k h.1;exact⟨by rw[c];exact f,by rw[c,e];exact h.2⟩
 | mp k=>obtain⟨c,f,e,-⟩:=j k h.1;exact⟨by rw[c];exact f,by rw[c,e];exact h.2⟩
 | _=>exact h
theorem Xa {m:List (Nat × Nat)}{out:Nat→Nat}(z:∀i,i < V1.n→(look i m).getD i=out i∧out i < V'.n∧V'.b (out i)=V1.b i∧V'.s (out i)=V1.s i){l:List G}{e:List Value}(h:PW (CRep I V1) l e):PW (CRep I V') (l.map (Kg m)) e :=
 ⟨by simpa using h.1,fun j g u c p=>by rw[aj] at c;obtain⟨g0,q,f⟩:=ay.1 c;subst f;exact Dk z (h.2 j g0 u q p)⟩
theorem Bl {m:List (Nat × Nat)}{out:Nat→Nat}(j:∀i,i < V1.n→(look i m).getD i=out i∧out i < V'.n∧V'.b (out i)=V1.b i∧V'.s (out i)=V1.s i)(h:TRep1 I V1 g x):TRep1 I V' (Z5r m g) x:=by
 cases g with
 | oag l =>
  obtain⟨cs,e,h⟩:=h;exact⟨cs,e,Xa j h⟩
 | clo f a c =>
  obtain⟨C,F,cs,e,p,z⟩:=h;refine⟨?_,F,cs,e,Xa j p,Xa j z⟩;obtain⟨g,E,A⟩:=C;have hk2:C2 (Kg m g)=false:=by cases g<;>first | rfl | cases A
  exact⟨Kg m g,E.imp (fun h=>ba.2 ⟨g,h,rfl⟩) (fun h=>ba.2 ⟨g,h,rfl⟩),hk2⟩
 | oel k i sz off =>
  obtain⟨A,h⟩:=h;obtain⟨p,z,-,B⟩:=j k A;exact⟨by rw[p];exact z,by rw[p,B];exact h⟩
 | orv k i sz off len cap =>
  obtain⟨A,b,q,H,h⟩:=h;obtain⟨p,z,D,B⟩:=j k A;exact⟨by rw[p];exact z,b,q,H.of (by rw[p];exact D) (by rw[p];exact B),h⟩
 | elp row off=>exact h
 | tup l=>exact h.elim
 | ptr k o=>exact Dk (I:=I) (m:=m) (g:=.ptr k o) j h
 | osl k=>exact Dk (I:=I) (m:=m) (g:=.osl k) j h
 | osv k a b c=>exact Dk (I:=I) (m:=m) (g:=.osv k a b c) j h
 | mp k=>exact Dk (I:=I) (m:=m) (g:=.mp k) j h
 | v y=>exact Dk (I:=I) (m:=m) (g:=.v y) j h
 | tt=>exact Dk (I:=I) (m:=m) (g:=.tt) j h
 | ff=>exact Dk (I:=I) (m:=m) (g:=.ff) j h
 | un=>exact Dk (I:=I) (m:=m) (g:=.un) j h
 | nl=>exact Dk (I:=I) (m:=m) (g:=.nl) j h
 | agg l=>exact Dk (I:=I) (m:=m) (g:=.agg l) j h
 | sl l=>exact Dk (I:=I) (m:=m) (g:=.sl l) j h
theorem Z81 {m:List (Nat × Nat)}{out:Nat→Nat}(p:∀i,i < V1.n→(look i m).getD i=out i∧out i < V'.n∧V'.b (out i)=V1.b i∧V'.s (out i)=V1.s i)(h:TRep I V1 g x):TRep I V' (Qs m g) x:=by
 cases g with
 | tup l =>
  obtain⟨cs,e,h⟩:=h;exact⟨cs,e,by simpa using h.1,fun j g u q A=>by rw[aj] at q;obtain⟨g0,B,z⟩:=ay.1 q;subst z;exact Bl p (h.2 j g0 u B A)⟩
 | oag l=>exact .of_1 (Bl (I:=I) (m:=m) (g:=.oag l) p h)
 | clo f a c=>exact .of_1 (Bl (I:=I) (m:=m) (g:=.clo f a c) p h)
 | oel k i sz off=>exact .of_1 (Bl (I:=I) (m:=m) (g:=.oel k i sz off) p h)
 | orv k i sz off l c=>exact .of_1 (Bl (I:=I) (m:=m) (g:=.orv k i sz off l c) p h)
 | elp row off=>exact .of_1 (Bl (I:=I) (m:=m) (g:=.elp row off) p h)
 | ptr k o=>exact .of_1 (Bl (I:=I) (m:=m) (g:=.ptr k o) p h)
 | osl k=>exact .of_1 (Bl (I:=I) (m:=m) (g:=.osl k) p h)
 | osv k a b c=>exact .of_1 (Bl (I:=I) (m:=m) (g:=.osv k a b c) p h)
 | mp k=>exact .of_1 (Bl (I:=I) (m:=m) (g:=.mp k) p h)
 | v y=>exact .of_1 (Bl (I:=I) (m:=m) (g:=.v y) p h)
 | tt=>exact .of_1 (Bl (I:=I) (m:=m) (g:=.tt) p h)
 | ff=>exact .of_1 (Bl (I:=I) (m:=m) (g:=.ff) p h)
 | un=>exact .of_1 (Bl (I:=I) (m:=m) (g:=.un) p h)
 | nl=>exact .of_1 (Bl (I:=I) (m:=m) (g:=.nl) p h)
 | agg l=>exact .of_1 (Bl (I:=I) (m:=m) (g:=.agg l) p h)
 | sl l=>exact .of_1 (Bl (I:=I) (m:=m) (g:=.sl l) p h)
theorem Zu (hH:Has I V own w)(hd:ks.Nodup)(hl:rs.length=ks.length)(hr:∀(i k:Nat),ks[i]?=some k→∃r r',rs[i]?=some r'∧look k own=some r)
  {C:List R} (hn:V1.n=C.length) (h1:Has I' V1 (Bk C 0) w') (L:Fro (Bk rs 0) I (V.lend ks) w (Bk C 0) I' V1 w') (hV:(V.lend ks).le V1) :
  Later own I V w (Pw (T2 ks V.n C 0) C ks own V.n) I' (V.back ks V1) w'∧∀g x,TRep I' V1 g x→TRep I' (V.back ks V1) (Qs (T2 ks V.n C 0) g) x:=by
 have hkn:∀k∈ks,k < V.n:=fun k A=>by obtain⟨i,hi,e⟩:=cg.1 A;obtain⟨r,-,-,q⟩:=hr i k (by rw[ab hi,e]);exact hH.num k r q
 have hge:ks.length≤C.length:=by rw[←hn];exact hV.1
 have E:∀i,i < V1.n→(look i (T2 ks V.n C 0)).getD i=Br ks V.n i∧Br ks V.n i < (V.back ks V1).n∧(V.back ks V1).b (Br ks V.n i)=V1.b i∧(V.back ks V1).s (Br ks V.n i)=V1.s i:=fun i hi=>by
  refine⟨by rw[N4,dc ⟨by omega,by omega⟩];simp,?_⟩;cases A:ks[i]? with
  | some k =>
   have hlt:=hkn k (ae A);have T:=(ac.1 A).1;have q:=hV.2 i T;rw[Be A];refine⟨by show k < V.n+_;omega,?_,?_⟩
   ·show(if k < V.n then V.b k else _)=_;rw[dc hlt,q.1];simp[Va.lend,Be A]
   ·show(if k < V.n then V.s k else _)=_;rw[dc hlt,q.2];simp[Va.lend,Be A]
  | none =>
   have hi2:=List.getElem?_eq_none_iff.1 A;have e:Br ks V.n i=V.n+(i - ks.length):=by simp[Br,A]
   rw[e];have e2:ks.length+(V.n+(i - ks.length) - V.n)=i:=by omega
   refine⟨by show _ < V.n+_;omega,?_,?_⟩
   ·show(if _ < V.n then _ else _)=_;rw[db (by omega),e2]
   ·show(if _ < V.n then _ else _)=_;rw[db (by omega),e2]
 have W:∀i,i < V1.n→(V.back ks V1).f (Br ks V.n i)=V1.f i:=fun i hi=>by
  funext b;apply propext;constructor
  ·rintro(⟨j,X,e,hf⟩ | ⟨h,-⟩)
   ·have:=Zg hd hkn e;subst this;exact hf
   ·exact de rfl (h i hi)
  ·exact fun hf=>.inl ⟨i,hi,rfl,hf⟩
 have U:∀k,(∀i,i < V1.n→Br ks V.n i≠k)→(V.back ks V1).f k=V.f k:=fun k A=>by
  funext b;apply propext;constructor
  ·rintro(⟨j,X,e,-⟩ | ⟨-,hf⟩)
   ·exact de e (A j X)
   ·exact hf
  ·exact fun hf=>.inr ⟨A,hf⟩
 have hle:V.le (V.back ks V1):=⟨Nat.le_add_right _ _,fun k A=>⟨dc A,dc A⟩⟩;have lent:∀j r b,look j (Bk rs 0)=some r→(V.lend ks).f j b→∃k r,ks[j]?=some k∧look k own=some r∧V.f k b:=fun j r b h hf=>by
  rw[Ai] at h;have X:=(ac.1 h).1;have hj':j < ks.length:=by omega
  obtain⟨J,r',k1,k2⟩:=hr j ks[j] (ab hj');refine⟨_,J,ab hj',k2,?_⟩;have:=Be (n:=0) (ab hj':ks[j]?=some ks[j]);simpa [Va.lend,this] using hf
 have hnl:∀k r,look k own=some r→(∀i,i < V1.n→Br ks V.n i≠k)→∀b,V.f k b→∀j r',look j (Bk rs 0)=some r'→¬(V.lend ks).f j b:=fun k r A hno b B j r' X hf=>by obtain⟨k',r2,q,F,Z⟩:=lent j r' b X hf;have:=hH.disj k k' r r2 b A F B Z;subst this;have hj':=(ac.1 q).1;exact hno j (by omega) (Be q)
 have z:∀k,(∀i,i < C.length→Br ks V.n i≠k)→∀i,i < V1.n→Br ks V.n i≠k:=fun k h i hi=>h i (by omega);refine⟨⟨⟨h1.mem,fun k r A=>?_,fun k r A=>?_,fun k r b A B=>?_,fun k k' r r' b A hk' B H=>?_⟩,⟨L.os,L.tape,L.output,L.size,fun b B hn=>L.blk b B fun j r X hf=>?_,L.mono,fun k r b A B hlt=>?_⟩,hle⟩,fun g x h=>Z81 E h⟩
 ·rcases D1 A with⟨i,J,e,q,-⟩ | ⟨q,F⟩
  ·have hi:=(ac.1 q).1;rw[←e];exact(E i (by omega)).2.1
  ·exact aq (hH.num k r F) hle.1
 ·rcases D1 A with⟨i,J,e,q,rfl⟩ | ⟨q,F⟩
  ·have hi:=(ac.1 q).1;have T:i < V1.n:=by omega
   have c:=h1.each i J (by rw[Ai];exact q);obtain⟨-,o1,M,o3⟩:=E i T;have O:=W i T;rw[←e];cases J with
   | blk cs t =>
    obtain⟨q1,us,q2,q3⟩:=c;exact⟨fun b=>by rw[O,M];exact q1 b,us,by rw[M];exact q2,Xa E q3⟩
   | slc rows ty sz=>exact⟨fun b=>by rw[O,o3];exact c.1 b,by rw[o3];exact c.2⟩
   | vw rows ty sz=>exact⟨fun b=>by rw[O,o3];exact c.1 b,by rw[o3];exact c.2⟩
   | froz rows sz=>exact⟨fun b=>by rw[O];exact c.1 b,by rw[o3];exact c.2.1,c.2.2⟩
   | gone=>exact fun b=>by rw[O];exact c b
   | mpI l=>exact⟨fun b=>by rw[O,M];exact c.1 b,by rw[M];exact c.2⟩
   | mpS l=>exact⟨fun b=>by rw[O,M];exact c.1 b,by rw[M];exact c.2⟩
   | sit s pos=>exact⟨fun b=>by rw[O,M];exact c.1 b,by rw[M];exact c.2⟩
   | mpX l m ob=>exact⟨fun b=>by rw[O,M];exact c.1 b,by rw[M];exact c.2⟩
   | mit j l D last m ob=>exact⟨fun b=>by rw[O,M];exact c.1 b,by rw[M];exact c.2⟩
   | abs p=>exact⟨c.1,by rw[O,M];exact c.2⟩
   | lnk j =>
    obtain⟨q1,q2,m0,q3⟩:=c;obtain⟨u1,u2,-,u4⟩:=E j q2;exact⟨fun b=>by rw[O];exact q1 b,by rw[u1];exact u2,m0,by rw[u1,u4,M];exact q3⟩
   | adr j b =>
    obtain⟨q1,q2,q3⟩:=c;obtain⟨u1,u2,u3,-⟩:=E j q2;exact⟨fun b=>by rw[O];exact q1 b,by rw[u1];exact u2,by rw[u1,u3];exact q3⟩
   | fam ps=>exact⟨c.1,by rw[O];exact c.2⟩
  ·exact(hH.each k r F).keep L.mono hle (hH.num k r F) (U k (z k q)) L.os L.size fun b B=>(L.blk b (hH.foot k r b F B).1 (hnl k r F (z k q) b B)).1
 ·rcases D1 A with⟨i,J,e,q,rfl⟩ | ⟨q,F⟩
  ·have hi:=(ac.1 q).1;rw[←e,W i (by omega)] at B;exact h1.foot i J b (by rw[Ai];exact q) B
  ·rw[U k (z k q)] at B;have Z:=hH.foot k r b F B;exact⟨aq Z.1 L.size,fun o=>((L.blk b Z.1 (hnl k r F (z k q) b B)).2 o).trans (Z.2 o)⟩
 ·have Y:∀i J k r,i < V1.n→C[i]?=some J→V1.f i b→look k own=some r→(∀i,i < V1.n→Br ks V.n i≠k)→V.f k b→False:=fun i J k r hi q hf A hno B=>by
   have Z:=(hH.foot k r b A B).1;obtain⟨j,r',X,hf'⟩:=L.foot i J b (by rw[Ai];exact q) hf Z;exact hnl k r A hno b B j r' X hf'
  rcases D1 A with⟨i,J,e,q,-⟩ | ⟨q,F⟩
  ·have hi:=(ac.1 q).1;rw[←e,W i (by omega)] at B;rcases D1 hk' with⟨i',r0',e',h2',-⟩ | ⟨h2',h3'⟩
   ·have T:=(ac.1 h2').1;rw[←e',W i' (by omega)] at H;rw[←e,←e',h1.disj i i' J r0' b (by rw[Ai];exact q) (by rw[Ai];exact h2') B H]
   ·rw[U k' (z k' h2')] at H;exact(Y i J k' r' (by omega) q B h3' (z k' h2') H).elim
  ·rw[U k (z k q)] at B;rcases D1 hk' with⟨i',r0',e',h2',-⟩ | ⟨h2',h3'⟩
   ·have T:=(ac.1 h2').1;rw[←e',W i' (by omega)] at H;exact(Y i' r0' k r (by omega) h2' H F (z k q) B).elim
   ·rw[U k' (z k' h2')] at H;exact hH.disj k k' r r' b F h3' B H
 ·obtain⟨k,r2,-,F,Z⟩:=lent j r b X hf;exact hn k r2 F Z
 ·rcases D1 A with⟨i,J,e,q,-⟩ | ⟨q,F⟩
  ·have hi:=(ac.1 q).1;rw[←e,W i (by omega)] at B;obtain⟨j,r',X,hf⟩:=L.foot i J b (by rw[Ai];exact q) B hlt;obtain⟨k',r2,-,Z,h5⟩:=lent j r' b X hf;exact⟨k',r2,Z,h5⟩
  ·rw[U k (z k q)] at B;exact⟨k,r,F,B⟩
end
def ren (m:List (Nat × Nat))(k:Nat):Nat:=(look k m).getD k
def Va.ren (V:Va)(m:List (Nat × Nat))(n:Nat):Va:=⟨n,fun k=>V.b (Go.Proofs.YtihfaocdpmmooaaGreat.ren m k),fun k=>V.s (Go.Proofs.YtihfaocdpmmooaaGreat.ren m k),fun k=>V.f (Go.Proofs.YtihfaocdpmmooaaGreat.ren m k)⟩
theorem Sl:∀{l:List Nat} {k:Nat},Gc k l=true↔k∈l
 | [],k=>by simp[Gc]
 | j::l,k=>by
  unfold Gc;have b:=Sl (l:=l) (k:=k);by_cases h:k=j
  ·subst h;simp[Nat.beq_refl]
  ·have c:Nat.beq k j=false:=by
    cases hb:Nat.beq k j with
    | false=>rfl
    | true=>exact de (ai hb) h
   simp[c,b,h]
section
variable {P:Program} {tb:List (Nat × TI)} {N n:Nat} {I I' I0:Imm} {V V' V0 V2:Va} {a:Act} {t t':Ts} {own own' own0:Os} {w w' w0:World} {g:G} {x y:Value} {d:Option Tmp} {m:List (Nat × Nat)} {r:R}
theorem Z9a (b:Sz n g=true)(h:CRep I V (Kg m g) x):CRep I (V.ren m n) g x:=by
 cases g with
 | ptr k o=>exact⟨aq (da b) (af _),h.2⟩
 | osl k=>exact⟨aq (da b) (af _),h.2⟩
 | osv k sz lo hi=>exact⟨aq (da b) (af _),h.2⟩
 | mp k=>exact⟨aq (da b) (af _),h.2⟩
 | oel k i s o=>exact h
 | _=>exact h
theorem Zf0 {cs:List G}{c:List Value}(f:B4 (Sz n) cs=true)(h:PW (CRep I V) (cs.map (Kg m)) c):PW (CRep I (V.ren m n)) cs c :=
 ⟨by have:=h.1;simpa using this,fun j g u b e=>Z9a (Ae f g (ae b)) (h.2 j _ u (by rw[aj,b];rfl) e)⟩
theorem Za (b:∀j,j < n→ren m j < V.n)(h:CRep I (V.ren m n) g x):CRep I V (Kg m g) x:=by
 cases g with
 | ptr k o=>exact⟨b k h.1,h.2⟩
 | osl k=>exact⟨b k h.1,h.2⟩
 | osv k sz lo hi=>exact⟨b k h.1,h.2⟩
 | mp k=>exact⟨b k h.1,h.2⟩
 | oel k i s o=>exact h
 | _=>exact h
theorem Z7l {cs:List G}{e:List Value}(b:∀j,j < n→ren m j < V.n)(h:PW (CRep I (V.ren m n)) cs e):PW (CRep I V) (cs.map (Kg m)) e :=
 ⟨by have:=h.1;simpa using this,fun j g u c f=>by rw[aj] at c;obtain⟨g0,l,rfl⟩:=ay.1 c;exact Za b (h.2 j g0 u l f)⟩
theorem Yc {m:List (Nat × Nat)}{k:Nat}(e:Zp n r=true)(h:RRep I V (ren m k) w (Ii m r)):RRep I (V.ren m n) k w r:=by
 cases r with
 | blk cs ty =>
  obtain⟨c,p,l,f⟩:=h;exact⟨c,p,l,Zf0 e f⟩
 | lnk j=>cases e
 | adr j b =>
  obtain⟨c,l,f⟩:=h;exact⟨c,da e,f⟩
 | _=>exact h
theorem Z8 {m:List (Nat × Nat)}{k:Nat}(c:∀j,j < n→ren m j < V.n)(h:RRep I (V.ren m n) k w r):RRep I V (ren m k) w (Ii m r):=by
 cases r with
 | blk cs ty =>
  obtain⟨f,p,e,l⟩:=h;exact⟨f,p,e,Z7l c l⟩
 | lnk j =>
  obtain⟨f,e,l⟩:=h;exact⟨f,c j e,l⟩
 | adr j b =>
  obtain⟨f,e,l⟩:=h;exact⟨f,c j e,l⟩
 | _=>exact h
theorem Cv:∀{T:Os},leI m own n T→∀{i r},look i T=some r→i < n∧Zp n r=true∧look (ren m i) own=some (Ii m r)
 | [],_,i,g,h=>by cases h
 | (j,g')::T,hT,i,g,h=>by
  rw[A5] at h;split at h
  ·next e=>subst e;cases h;exact⟨da hT.1.1,hT.1.2⟩
  ·exact Cv hT.2 h
theorem N6 {α:Type}{k:Nat}{x:α}:∀{l:List (Nat × α)},look k l=some x→(k,x)∈l
 | [],h=>by cases h
 | (j,y)::l,h=>by
  rw[A5] at h;split at h
  ·next e=>subst e;cases h;simp
  ·exact List.mem_cons_of_mem _ (N6 h)
theorem Pj:∀{l:Os},Nj (l.map fun p=>ren m p.1)=true→∀{k k' r r'},look k l=some r→look k' l=some r'→ren m k=ren m k'→k=k'
 | [],_,k,k',r,r',h,_,_=>by cases h
 | (j,q)::l,hn,k,k',r,r',h,h',e=>by
  simp only[List.map_cons,Nj] at hn;cases hm:Gc (ren m j) (l.map fun p=>ren m p.1) with
  | true=>rw[hm] at hn;cases hn
  | false =>
   rw[hm] at hn;have b:∀k r,look k l=some r→ren m k≠ren m j:=fun k r s z=>by have:ren m j∈l.map fun p=>ren m p.1:=ba.2 ⟨(k,r),N6 s,z⟩;rw[Sl.2 this] at hm;cases hm
   rw[A5] at h h';split at h<;>split at h'
   ·next f c=>rw[f,c]
   ·next f c=>exact de (e ▸ f ▸ rfl:ren m k'=ren m j) (b _ _ h')
   ·next f c=>exact de (e.trans (by rw[c])) (b _ _ h)
   ·exact Pj hn h h' e
theorem Z6n (e:Sz n g=true)(l:n≤V2.n)(f:∀j,j < n→V2.b j=V.b j∧V2.s j=V.s j)(h:CRep I V g x):CRep I V2 g x:=by
 cases g with
 | ptr k o=>have:=da e;exact⟨aq this l,by rw[(f k this).1];exact h.2⟩
 | mp k=>have:=da e;exact⟨aq this l,by rw[(f k this).1];exact h.2⟩
 | osl k=>have:=da e;exact⟨aq this l,by rw[(f k this).2];exact h.2⟩
 | osv k a b c=>have:=da e;exact⟨aq this l,by rw[(f k this).2];exact h.2⟩
 | _=>exact h
theorem RRep.val (C:Zp n r=true)(J:n≤V2.n)(B:∀j,j < n→V2.b j=V.b j∧V2.s j=V.s j){k:Nat}(z:k < n)(hf:V2.f k=V.f k)(h:RRep I V k w r):RRep I V2 k w r:=by
 have q:=(B k z).1;have A:=(B k z).2;cases r with
 | blk cs t =>
  obtain⟨T,O,L,F⟩:=h;exact⟨fun b=>by rw[hf,q];exact T b,O,by rw[q];exact L,F.1,fun j g u H M=>Z6n (Ae (show B4 (Sz n) cs=true from C) g (ae H)) J B (F.2 j g u H M)⟩
 | slc rows e sz=>exact⟨fun b=>by rw[hf,A];exact h.1 b,by rw[A];exact h.2⟩
 | vw rows e sz=>exact⟨fun b=>by rw[hf,A];exact h.1 b,by rw[A];exact h.2⟩
 | froz rows sz=>exact⟨fun b=>by rw[hf];exact h.1 b,by rw[A];exact h.2.1,h.2.2⟩
 | gone=>exact fun b=>by rw[hf];exact h b
 | mpI l=>exact⟨fun b=>by rw[hf,q];exact h.1 b,by rw[q];exact h.2⟩
 | mpS l=>exact⟨fun b=>by rw[hf,q];exact h.1 b,by rw[q];exact h.2⟩
 | sit s pos=>exact⟨fun b=>by rw[hf,q];exact h.1 b,by rw[q];exact h.2⟩
 | mpX l m ob=>exact⟨fun b=>by rw[hf,q];exact h.1 b,by rw[q];exact h.2⟩
 | mit j l D last m ob=>exact⟨fun b=>by rw[hf,q];exact h.1 b,by rw[q];exact h.2⟩
 | abs p=>exact⟨h.1,by rw[hf,q];exact h.2⟩
 | lnk j=>cases C
 | adr j b =>
  have E:=da (show Nat.blt j n=true from C);exact⟨fun c=>by rw[hf];exact h.1 c,aq E J,by rw[(B j E).1];exact h.2.2⟩
 | fam ps=>exact⟨h.1,by rw[hf];exact h.2⟩
theorem Fy:∀{O:Os},Th n O=true→∀{k r},look k O=some r→k < n∧Zp n r=true
 | [],_,k,r,h=>by cases h
 | (j,q)::O,hk,k,r,h=>by
  unfold Th at hk;split at hk
  ·next b c =>
   rw[A5] at h;split at h
   ·next e=>subst e;cases h;exact⟨da b,c⟩
   ·exact Fy hk h
  ·cases hk
theorem Q0:∀(rs:List R) (i n k:Nat),look k (opM i n rs)=if i≤k∧k - i < rs.length then some (n+(k - i)) else none
 | [],i,n,k=>by simp[opM,look]
 | r::rs,i,n,k=>by
  rw[opM,A5,Q0 rs (i+1) (n+1) k];by_cases h:k=i
  ·subst h;simp
  ·by_cases b:i+1≤k∧k - (i+1) < rs.length
   ·rw[db h,dc b,dc ⟨by omega,by simp;omega⟩];congr 1;omega
   ·rw[db h,db b,db (fun c=>b ⟨by omega,by simp at c;omega⟩)]
theorem Z23 (O:Os):Loc (cl O):=fun I I' b S w w' ⟨V,h1,h2,h3⟩ hI hos hs hb=>by have h:∀k r,look k O=some r→∀c,V.f k c→w'.heap[c]?=w.heap[c]?:=fun k r e c hf=>hb c ((h3 c).2 ⟨k,r,e,hf⟩);exact⟨V,h1,⟨h2.num,fun k r e=>(h2.each k r e).keep hI (.refl _) (h2.num k r e) rfl hos hs (h k r e),fun k r c e hf=>aq (h2.lt k r c e hf) hs,h2.disj⟩,h3⟩
theorem Z37 (h:Has I V own w){k:Nat}{p q:List G}{ty e sz:Nat}(A:look k own=some (.blk (p++.nl::q) ty))(F:0 < sz):Later own I V w ((k,.blk (p++.osl V.n::q) ty)::(V.n,.slc [] e sz)::own) I (V.push 0 (.slice none 0 0) fun _=>False) w:=by
 have f:Later own I V w ((V.n,.slc [] e sz)::own) I (V.push 0 (.slice none 0 0) fun _=>False) w:=by
  refine Dt h (Below.refl _ _) 0 (.slice none 0 0) (fun _=>False) (fun k h=>h.elim) ⟨?_,[],?_,rfl,?_,by simp,by simp,F⟩
  ·intro b;simp[Va.push,Value.ownBlock]
  ·simp[Va.push];exact World.ownsRow_nil w 0 e sz
  ·intro i r u hr;simp at hr
 have C:=h.num k _ A;have hk1:look k ((V.n,R.slc [] e sz)::own)=some (.blk (p++.nl::q) ty):=by rw[A5,db (by omega)];exact A
 refine f.trans (Db f.has hk1 rfl rfl rfl rfl (fun _ _=>rfl) ?_);obtain⟨J,H,B,l⟩:=f.has.each k _ hk1;refine⟨J,H,B,by have:=l.1;simpa using this,fun j g u c z=>?_⟩;by_cases D:j=p.length
 ·subst D;rw[bf (af _),Nat.sub_self] at c;obtain rfl:G.osl V.n=g:=by simpa using c
  have E:=l.2 p.length .nl u (by rw[bf (af _),Nat.sub_self];rfl) z;cases(show VRep I .nl u from E);exact⟨cu _,by simp[Va.push]⟩
 ·refine l.2 j g u ?_ z;by_cases s:j < p.length
  ·rw[bl s] at c⊢;exact c
  ·rw[bf (by omega)] at c⊢;obtain⟨i,hi⟩:∃i,j - p.length=i+1:=⟨j - p.length - 1,by omega⟩;rw[hi] at c⊢;simpa using c
theorem O0:∀(l:List Nat) (k:Nat),look k (Qt l own)=if k∈l then some .gone else look k own
 | [],k=>by simp[Qt]
 | j::l,k=>by
  rw[Qt,A5,O0 l k];by_cases h:k=j
  ·subst h;simp
  ·simp[h]
theorem Uf (h:Has I V own w){O:Os}(H:leI m own V.n O)(h0:∃r,look 0 O=some r)(hd:Nj (O.map fun p=>ren m p.1)=true):∃f,Later own I V w ((ren m 0,.abs (cl O))::Qt (O.map fun p=>ren m p.1) own) I ⟨V.n,V.b,V.s,f⟩ w:=by
 have J:∀{k r},look k O=some r→ren m k∈O.map fun p=>ren m p.1:=fun {k r} B=>ba.2 ⟨(k,r),N6 B,rfl⟩;let F:Nat→Prop:=fun b=>∃k r,look k O=some r∧V.f (ren m k) b;let f:Nat→Nat→Prop:=fun j=>if j=ren m 0 then F else if j∈O.map (fun p=>ren m p.1) then fun _=>False else V.f j;have Z:f (ren m 0)=F:=dc rfl;have fG:∀{j},j≠ren m 0→j∈O.map (fun p=>ren m p.1)→f j=fun _=>False:=fun {j} C E=>by show(if _ then _ else _)=_;rw[db C,dc E]
 have fV:∀{j},j≠ren m 0→j ∉ O.map (fun p=>ren m p.1)→f j=V.f j:=fun {j} C E=>by show(if _ then _ else _)=_;rw[db C,db E]
 have U:∀{j r},look j ((ren m 0,R.abs (cl O))::Qt (O.map fun p=>ren m p.1) own)=some r→(j=ren m 0∧r=.abs (cl O))∨(j≠ren m 0∧j∈O.map (fun p=>ren m p.1)∧r=.gone)∨(j≠ren m 0∧j ∉ O.map (fun p=>ren m p.1)∧look j own=some r):=fun {j r} l=>by
  rw[A5,O0] at l;split at l
  ·next e=>cases l;exact .inl ⟨e,rfl⟩
  ·next e =>
   split at l
   ·next A=>cases l;exact .inr (.inl ⟨e,A,rfl⟩)
   ·next A=>exact .inr (.inr ⟨e,A,l⟩)
 have D:∀{j r b},look j ((ren m 0,R.abs (cl O))::Qt (O.map fun p=>ren m p.1) own)=some r→f j b→∃k r',look k own=some r'∧V.f k b∧((j=ren m 0∧∃i X,look i O=some X∧k=ren m i)∨(j ∉ O.map (fun p=>ren m p.1)∧k=j)):=fun {j r b} l z=>by
  rcases U l with⟨e,-⟩ | ⟨e,A,-⟩ | ⟨e,A,e3⟩
  ·rw[e,Z] at z;obtain⟨k,X,C,E⟩:=z;exact⟨_,_,(Cv H C).2.2,E,.inl ⟨e,k,X,C,rfl⟩⟩
  ·rw[fG e A] at z;exact z.elim
  ·rw[fV e A] at z;exact⟨j,r,e3,z,.inr ⟨A,rfl⟩⟩
 obtain⟨r00,T⟩:=h0;refine⟨f,⟨h.mem,fun j r l=>?_,fun j r l=>?_,fun j r b l z=>?_,fun j j' r r' b l hj' z hb'=>?_⟩,⟨rfl,rfl,rfl,af _,fun b z hn=>⟨rfl,fun _=>rfl⟩,fun _ _ _ h=>h,fun j r b l z _=>?_⟩,⟨af _,fun k B=>⟨rfl,rfl⟩⟩⟩
 ·rcases U l with⟨e,-⟩ | ⟨-,A,-⟩ | ⟨-,-,e3⟩
  ·rw[e];exact h.num _ _ (Cv H T).2.2
  ·obtain⟨p,W,e⟩:=ba.1 A;obtain⟨r',hr'⟩:∃r',look p.1 O=some r':=by
    clear U D H T r00 fV fG Z f F J hd l A e
    induction O with
    | nil=>cases W
    | cons q O ih =>
     rw[A5];split
     ·exact⟨_,rfl⟩
     ·next hne =>
      rcases bi.1 W with rfl | W
      ·exact de rfl hne
      ·exact ih W
   rw[←e];exact h.num _ _ (Cv H hr').2.2
  ·exact h.num _ _ e3
 ·rcases U l with⟨e,rfl⟩ | ⟨e,A,rfl⟩ | ⟨e,A,e3⟩
  ·rw[e];refine⟨Z23 O,V.ren m V.n,rfl,⟨fun k r B=>(Cv H B).1,fun k r B=>Yc (Cv H B).2.1 (h.each _ _ (Cv H B).2.2),fun k r b B hf=>(h.foot _ _ b (Cv H B).2.2 hf).1,fun k k' r r' b B M hf Y=>?_⟩,fun c=>?_⟩
   ·exact Pj hd B M (h.disj _ _ _ _ b (Cv H B).2.2 (Cv H M).2.2 hf Y)
   ·show f (ren m 0) c↔_;rw[Z];exact Iff.rfl
  ·show ∀b,¬f j b;rw[fG e A];exact fun b z=>z
  ·exact(h.each j r e3).keep (.refl _) ⟨af _,fun k B=>⟨rfl,rfl⟩⟩ (h.num j r e3) (fV e A) rfl (af _) fun _ _=>rfl
 ·obtain⟨k,r',C,E,-⟩:=D l z;exact h.foot k r' b C E
 ·obtain⟨k,r1,C,E,h3⟩:=D l z;obtain⟨k',r1',h1',h2',h3'⟩:=D hj' hb';have L:=h.disj k k' r1 r1' b C h1' E h2';rcases h3 with⟨e,i,X,hi,hki⟩ | ⟨e,hki⟩<;>rcases h3' with⟨e',i',r0',hi',hki'⟩ | ⟨e',hki'⟩
  ·rw[e,e']
  ·exact de (J hi) (by rw[←hki,L,hki'];exact e')
  ·exact de (J hi') (by rw[←hki',←L,hki];exact e)
  ·rw[←hki,←hki',L]
 ·obtain⟨k,r',C,E,-⟩:=D l z;exact⟨k,r',C,E⟩
theorem Wf {m:List (Nat × Nat)}:∀(rs:List R) (n k:Nat),look k (shO m rs n own)=if n≤k∧k - n < rs.length then(rs[k - n]?).map (Ii m) else look k own
 | [],n,k=>by simp[shO]
 | r::rs,n,k=>by
  rw[shO,A5,Wf rs (n+1) k];by_cases h:k=n
  ·subst h;simp
  ·rw[db h];by_cases b:n+1≤k∧k - (n+1) < rs.length
   ·rw[dc b,dc ⟨by omega,by simp;omega⟩];obtain⟨i,hi⟩:∃i,k - n=i+1:=⟨k - n - 1,by omega⟩;rw[hi,show k - (n+1)=i by omega];simp
   ·rw[db b,db (fun c=>b ⟨by omega,by simp at c;omega⟩)]
theorem Zdm {j:Nat}{s:Value}(C:j=0→∃cs ty,r=.blk cs ty)(A:Zjs r=true)(h:RRep I V j w r):RRep I ⟨V.n,V.b,fun i=>if i=0 then s else V.s i,V.f⟩ j w r:=by
 cases r with
 | blk cs ty =>
  obtain⟨H,F,B,p⟩:=h;refine⟨H,F,B,p.1,fun i g u z E=>?_⟩;have l:=p.2 i g u z E;have q:=Ae (show B4 (Zea 1) cs=true from A) g (ae z);cases g with
  | osl k=>exact⟨l.1,by show u=if k=0 then s else V.s k;rw[db (by have:=da q;omega)];exact l.2⟩
  | osv k a b c =>
   have e:(if k=0 then s else V.s k)=V.s k:=db (by have:=da q;omega);exact⟨l.1,by show b≤c∧c≤Nb (if k=0 then s else V.s k);rw[e];exact l.2.1,by show u=Hz a (if k=0 then s else V.s k) b c;rw[e];exact l.2.2⟩
  | _=>exact l
 | lnk i=>cases A
 | _ =>
  have D:j≠0:=fun e=>by obtain⟨_,_,e⟩:=C e;cases e
  have e:(if j=0 then s else V.s j)=V.s j:=db D;simp only[RRep,e] at h⊢;exact h
theorem Zk (h:Has I V own w){k:Nat}{rs:List R}{cs:List G}{ty:Nat}(E:look k own=some (.abs (cl (Bk (.blk cs ty::rs) 0))))(p:Th (rs.length+1) (Bk (.blk cs ty::rs) 0)=true)(X:B4 Zjs (.blk cs ty::rs)=true):∃V',V'.n=V.n+rs.length∧Later own I V w ((k,Ii ((0,k)::opM 1 V.n rs) (.blk cs ty))::shO ((0,k)::opM 1 V.n rs) rs V.n own) I V' w:=by
 obtain⟨-,V2,L,U,W⟩:=h.each k _ E;have F:=h.num k _ E;let σ:List (Nat × Nat):=(0,k)::opM 1 V.n rs;let H:Va:=⟨V2.n,V2.b,fun i=>if i=0 then V.s k else V2.s i,V2.f⟩;let B:Va:=⟨V.n+rs.length,fun j=>if j < V.n then V.b j else V2.b (j - V.n+1),fun j=>if j < V.n then V.s j else V2.s (j - V.n+1),fun j=>if j=k then V2.f 0 else if j < V.n then V.f j else V2.f (j - V.n+1)⟩;have σ0:ren σ 0=k:=rfl;have σs:∀i,i < rs.length→ren σ (i+1)=V.n+i:=fun i hi=>by show(look (i+1) ((0,k)::opM 1 V.n rs)).getD (i+1)=_;rw[A5,db (by omega),Q0,dc ⟨by omega,by omega⟩];simp
 have σlt:∀j,j < rs.length+1→ren σ j < B.n:=fun j c=>by
  cases j with
  | zero=>rw[σ0];show k < V.n+rs.length;omega
  | succ i=>rw[σs i (by omega)];show V.n+i < V.n+rs.length;omega
 have fn:∀i,B.f (V.n+i)=V2.f (i+1):=fun i=>by show(if V.n+i=k then V2.f 0 else if V.n+i < V.n then _ else V2.f (V.n+i - V.n+1))=_;rw[db (by omega),db (by omega),show V.n+i - V.n+1=i+1 by omega]
 have O:B.f k=V2.f 0:=dc rfl;have fo:∀j,j < V.n→j≠k→B.f j=V.f j:=fun j l q=>by show(if j=k then _ else if j < V.n then V.f j else _)=_;rw[db q,dc l]
 have Z:∀j,j < rs.length+1→(B.ren σ (rs.length+1)).b j=H.b j∧(B.ren σ (rs.length+1)).s j=H.s j:=fun j c=>by
  cases j with
  | zero=>exact⟨by show(if k < V.n then V.b k else _)=V2.b 0;rw[dc F,L],by show(if k < V.n then V.s k else _)=V.s k;rw[dc F]⟩
  | succ i =>
   have e:=σs i (by omega);refine⟨?_,?_⟩
   ·show(if ren σ (i+1) < V.n then _ else V2.b (ren σ (i+1) - V.n+1))=V2.b (i+1);rw[e,db (by omega),show V.n+i - V.n+1=i+1 by omega]
   ·show(if ren σ (i+1) < V.n then _ else V2.s (ren σ (i+1) - V.n+1))=(if i+1=0 then V.s k else V2.s (i+1));rw[e,db (by omega),db (by omega),show V.n+i - V.n+1=i+1 by omega]
 have sf:∀j,j < rs.length+1→(B.ren σ (rs.length+1)).f j=H.f j:=fun j c=>by
  cases j with
  | zero=>exact O
  | succ i =>
   show B.f (ren σ (i+1))=_;rw[σs i (by omega),fn]
 have rep:∀{j r},look j (Bk (.blk cs ty::rs) 0)=some r→RRep I B (ren σ j) w (Ii σ r):=fun {j r} c=>by
  obtain⟨T,Y⟩:=Fy p c;have hm:r∈(R.blk cs ty::rs):=by rw[Ai] at c;exact ae c
  refine Z8 (V:=B) (n:=rs.length+1) (m:=σ) σlt ((Zdm (s:=V.s k) (fun e=>?_) (Ae X r hm) (U.each j r c)).val Y (af _) Z T (sf j T));subst e;rw[Ai] at c;exact⟨cs,ty,(cj c).symm⟩
 have D:∀{j r},look j ((k,Ii σ (.blk cs ty))::shO σ rs V.n own)=some r→(∃i A,look i (Bk (.blk cs ty::rs) 0)=some A∧j=ren σ i∧r=Ii σ A∧B.f j=V2.f i)∨(j < V.n∧j≠k∧look j own=some r):=fun {j r} c=>by
  rw[A5,Wf] at c;split at c
  ·next e=>cases c;exact .inl ⟨0,.blk cs ty,by rw[Ai];rfl,e,rfl,by rw[e];exact O⟩
  ·next e =>
   split at c
   ·next J =>
    obtain⟨i,rfl⟩:=Nat.exists_eq_add_of_le J.1;rw[Nat.add_sub_cancel_left] at c J;obtain⟨A,l,q⟩:=ay.1 c;exact .inl ⟨i+1,A,by rw[Ai];simpa using l,(σs i J.2).symm,q.symm,fn i⟩
   ·exact .inr ⟨h.num j r c,e,c⟩
 have C:∀{i A b},look i (Bk (.blk cs ty::rs) 0)=some A→V2.f i b→V.f k b:=fun {i A b} hi hf=>(W b).2 ⟨i,A,hi,hf⟩;refine⟨B,rfl,⟨h.mem,fun j r c=>?_,fun j r c=>?_,fun j r b c p=>?_,fun j j' r r' b c M p z=>?_⟩,⟨rfl,rfl,rfl,af _,fun b p hn=>⟨rfl,fun _=>rfl⟩,fun _ _ _ h=>h,fun j r b c p _=>?_⟩,⟨by show V.n≤V.n+rs.length;omega,fun j c=>⟨dc c,dc c⟩⟩⟩
 ·rcases D c with⟨i,A,l,rfl,-,-⟩ | ⟨l,-,-⟩
  ·exact σlt i (Fy p l).1
  ·show j < V.n+rs.length;omega
 ·rcases D c with⟨i,A,l,rfl,rfl,-⟩ | ⟨l,q,h3⟩
  ·exact rep l
  ·exact(h.each j r h3).keep (.refl _) ⟨by show V.n≤V.n+rs.length;omega,fun j c=>⟨dc c,dc c⟩⟩ l (fo j l q) rfl (af _) fun _ _=>rfl
 ·rcases D c with⟨i,A,l,-,-,q⟩ | ⟨l,q,h3⟩
  ·rw[q] at p;exact h.foot k _ b E (C l p)
  ·rw[fo j l q] at p;exact h.foot j r b h3 p
 ·rcases D c with⟨i,A,l,rfl,-,q⟩ | ⟨l,q,h3⟩<;>rcases D M with⟨i',r0',h1',rfl,-,h2'⟩ | ⟨h1',h2',h3'⟩
  ·rw[q] at p;rw[h2'] at z;rw[U.disj i i' A r0' b l h1' p z]
  ·rw[q] at p;rw[fo _ h1' h2'] at z;exact de (h.disj k _ _ _ b E h3' (C l p) z) (fun e=>h2' e.symm)
  ·rw[fo _ l q] at p;rw[h2'] at z;exact de (h.disj _ k _ _ b h3 E p (C h1' z)) q
  ·rw[fo _ l q] at p;rw[fo _ h1' h2'] at z;exact h.disj _ _ _ _ b h3 h3' p z
 ·rcases D c with⟨i,A,l,-,-,q⟩ | ⟨l,q,h3⟩
  ·rw[q] at p;exact⟨k,_,E,C l p⟩
  ·rw[fo j l q] at p;exact⟨j,r,h3,p⟩
theorem Kj (h:Has I V own w)(hr:RRep I (V.push 0 undef fun _=>False) V.n w r):Later own I V w ((V.n,r)::own) I (V.push 0 undef fun _=>False) w :=
 Dt h (Below.refl _ _) 0 undef (fun _=>False) (fun _ h=>h.elim) hr
theorem Sk (h:Has I V own w){k:Nat}(f:look k own=some r):Later own I V w ((V.n,.adr k (V.b k))::own) I (V.push 0 undef fun _=>False) w:=by have e:=h.num k r f;exact Kj h ⟨fun c j=>by simp[Va.push] at j,by show k < V.n+1;omega,by simp[Va.push,Nat.ne_of_lt e]⟩
theorem Z16 (h:Has I V own w):Later own I V w ((V.n,.fam [])::own) I (V.push 0 undef fun _=>False) w :=
 Kj h ⟨by simp,fun _ _=>False,fun c=>⟨fun b=>by simp[Va.push] at b,fun⟨_,_,b⟩=>b.elim⟩,fun _ _ _ _ _ b=>b.elim,fun i p e=>by simp at e⟩
theorem V6 (h:Has I V own w){j k:Nat}{z:List Ob}{p:Ob}(M:look j own=some (.fam z))(W:look k own=some (.abs p)):Later own I V w ((j,.fam (z++[p]))::(k,.gone)::own) I ⟨V.n,V.b,V.s,fun i=>if i=j then fun c=>V.f j c∨V.f k c else if i=k then fun _=>False else V.f i⟩ w:=by
 have U:j≠k:=fun e=>by rw[e,W] at M;cases M
 let V2:Va:=⟨V.n,V.b,V.s,fun i=>if i=j then fun c=>V.f j c∨V.f k c else if i=k then fun _=>False else V.f i⟩;have fj:V2.f j=fun c=>V.f j c∨V.f k c:=dc rfl;have fk:V2.f k=fun _=>False:=by show(if k=j then _ else if k=k then _ else _)=_;rw[db (fun e=>U e.symm),dc rfl]
 have fo:∀i,i≠j→i≠k→V2.f i=V.f i:=fun i L T=>by show(if i=j then _ else if i=k then _ else _)=_;rw[db L,db T]
 have lk:∀{i r},look i ((j,R.fam (z++[p]))::(k,.gone)::own)=some r→(i=j∧r=.fam (z++[p]))∨(i=k∧r=.gone)∨(i≠j∧i≠k∧look i own=some r):=fun {i r} hi=>by
  rw[A5] at hi;split at hi
  ·next e=>cases hi;exact .inl ⟨e,rfl⟩
  ·next e =>
   rw[A5] at hi;split at hi
   ·next H=>cases hi;exact .inr (.inl ⟨H,rfl⟩)
   ·next H=>exact .inr (.inr ⟨e,H,hi⟩)
 have J:∀{i r c},look i ((j,R.fam (z++[p]))::(k,.gone)::own)=some r→V2.f i c→∃E r',look E own=some r'∧V.f E c∧((i=j∧(E=j∨E=k))∨(i≠j∧i≠k∧E=i)):=fun {i r c} hi l=>by
  rcases lk hi with⟨e,-⟩ | ⟨e,-⟩ | ⟨e1,H,e3⟩
  ·rw[e,fj] at l;rcases l with l | l
   ·exact⟨j,_,M,l,.inl ⟨e,.inl rfl⟩⟩
   ·exact⟨k,_,W,l,.inl ⟨e,.inr rfl⟩⟩
  ·rw[e,fk] at l;exact l.elim
  ·rw[fo i e1 H] at l;exact⟨i,r,e3,l,.inr ⟨e1,H,rfl⟩⟩
 have Y:V.le V2:=⟨af _,fun _ _=>⟨rfl,rfl⟩⟩;refine⟨⟨h.mem,fun i r hi=>?_,fun i r hi=>?_,fun i r c hi l=>?_,fun i E r r' c hi hi' l hc'=>?_⟩,⟨rfl,rfl,rfl,af _,fun b Z hn=>⟨rfl,fun _=>rfl⟩,fun _ _ _ h=>h,fun i r c hi l _=>?_⟩,Y⟩
 ·rcases lk hi with⟨e,-⟩ | ⟨e,-⟩ | ⟨-,-,e3⟩
  ·rw[e];exact h.num j _ M
  ·rw[e];exact h.num k _ W
  ·exact h.num i r e3
 ·rcases lk hi with⟨e,rfl⟩ | ⟨e,rfl⟩ | ⟨e1,H,e3⟩
  ·rw[e];obtain⟨q1,F,q2,q3,q4⟩:=h.each j _ M;obtain⟨p1,p2⟩:=h.each k _ W;refine⟨fun q C=>?_,fun i c=>if i=z.length then V.f k c else F i c,fun c=>?_,fun a b c ha Z A B=>?_,fun a q C=>?_⟩
   ·rcases bu.1 C with C | C
    ·exact q1 q C
    ·rw[bo.1 C];exact p1
   ·rw[show V2.f j c↔(V.f j c∨V.f k c) by rw[fj],q2 c,ax,List.length_singleton];constructor
    ·rintro(⟨i,hi,l⟩ | l)
     ·exact⟨i,by omega,by dsimp only;rw[db (by omega)];exact l⟩
     ·exact⟨z.length,by omega,by dsimp only;rw[dc rfl];exact l⟩
    ·rintro⟨i,hi,l⟩;by_cases e:i=z.length
     ·rw[dc e] at l;exact .inr l
     ·rw[db e] at l;exact .inl ⟨i,by omega,l⟩
   ·rw[ax,List.length_singleton] at ha Z;by_cases O:a=z.length<;>by_cases eb:b=z.length
    ·omega
    ·rw[dc O] at A;rw[db eb] at B;exact de (h.disj j k _ _ c M W ((q2 c).2 ⟨b,by omega,B⟩) A) U
    ·rw[db O] at A;rw[dc eb] at B;exact de (h.disj j k _ _ c M W ((q2 c).2 ⟨a,by omega,A⟩) B) U
    ·rw[db O] at A;rw[db eb] at B;exact q3 a b c (by omega) (by omega) A B
   ·by_cases O:a=z.length
    ·rw[O,bf (af _),Nat.sub_self] at C;obtain rfl:p=q:=by simpa using C
     refine⟨V.b k,?_⟩;have e:(fun c=>if a=z.length then V.f k c else F a c)=V.f k:=by funext c;rw[dc O]
     show p I (V.b k) (fun c=>if a=z.length then V.f k c else F a c) w;rw[e];exact p2
    ·have hlt:a < z.length:=by
      have:=(ac.1 C).1;rw[ax,List.length_singleton] at this;omega
     rw[bl hlt] at C;obtain⟨b,Z⟩:=q4 a q C;refine⟨b,?_⟩;have e:(fun c=>if a=z.length then V.f k c else F a c)=F a:=by funext c;rw[db O]
     show q I b (fun c=>if a=z.length then V.f k c else F a c) w;rw[e];exact Z
  ·show ∀c,¬V2.f i c;rw[e,fk];exact fun c l=>l
  ·exact(h.each i r e3).keep (.refl _) Y (h.num i r e3) (fo i e1 H) rfl (af _) fun _ _=>rfl
 ·obtain⟨E,r',L,T,-⟩:=J hi l;exact h.foot E r' c L T
 ·obtain⟨a,ra,L,T,X⟩:=J hi l;obtain⟨a',ra',h1',h2',D⟩:=J hi' hc';have hkk:=h.disj a a' ra ra' c L h1' T h2';rcases X with⟨e,X⟩ | ⟨e1,H,e3⟩<;>rcases D with⟨e',D⟩ | ⟨e1',e2',e3'⟩
  ·rw[e,e']
  ·exfalso;rcases X with X | X<;>omega
  ·exfalso;rcases D with D | D<;>omega
  ·omega
 ·obtain⟨E,r',L,T,-⟩:=J hi l;exact⟨E,r',L,T⟩
theorem Ml (h:Has I V own w){g0:G}{u:Value}(b:CRep I V g0 u):CRep I V (F5 own g0) u:=by
 cases g0 with
 | osl i =>
  cases hl:look i own with
  | none=>simp only[F5,hl];exact b
  | some r =>
   cases r with
   | froz rows sz =>
    simp only[F5,hl];obtain⟨-,rfl⟩:=(show i < V.n∧u=V.s i from b);exact(h.each i _ hl).2.1
   | _=>simp only[F5,hl];exact b
 | osv i sz lo hi =>
  cases hl:look i own with
  | none=>simp only[F5,hl];exact b
  | some r =>
   cases r with
   | froz rows sz' =>
    simp only[F5,hl];cases e:Nat.beq sz sz' with
    | false=>exact b
    | true =>
     have e:=ai e;subst e;obtain⟨-,⟨l,p⟩,rfl⟩:=(show i < V.n∧(lo≤hi∧hi≤Nb (V.s i))∧u=Hz sz (V.s i) lo hi from b);obtain⟨-,c,f⟩:=h.each i _ hl;have j:Nb (V.s i)=rows.length:=by generalize V.s i=z at c;cases c;rfl
     exact Y8 c f l (by omega)
   | _=>simp only[F5,hl];exact b
 | tt=>cases(show VRep I .tt u from b);exact .v _
 | ff=>cases(show VRep I .ff u from b);exact .v _
 | _=>exact b
theorem Zc (h:Has I V own w){k:Nat}{cs:List G}{ty:Nat}(c:look k own=some (.blk cs ty)):Later own I V w ((k,.blk (cs.map (F5 own)) ty)::own) I V w:=by refine Db h c rfl rfl rfl rfl (fun _ _=>rfl) ?_;obtain⟨q,p,f,e⟩:=h.each k _ c;refine⟨q,p,f,by simpa using e.1,fun j g u b l=>?_⟩;rw[aj] at b;obtain⟨g0,s,rfl⟩:=ay.1 b;exact Ml h (e.2 j g0 u s l)
theorem Jn (h:Has I V own w)(z:V.le V')(p:∀k r,look k own'=some r→k < V'.n)(e:∀k r,look k own'=some r→RRep I V' k w r)(l:∀k r c,look k own'=some r→V'.f k c→∃j r',look j own=some r'∧V.f j c)(q:∀k k' r r' b,look k own'=some r→look k' own'=some r'→V'.f k b→V'.f k' b→k=k'):Later own I V w own' I V' w :=
 ⟨⟨h.mem,p,e,fun k r b A s=>by obtain⟨j,r',B,C⟩:=l k r b A s;exact h.foot j r' b B C,q⟩,⟨rfl,rfl,rfl,af _,fun b s D=>⟨rfl,fun _=>rfl⟩,fun _ _ _ h=>h,fun k r b A s _=>l k r b A s⟩,z⟩
theorem Z2f (h:Has I V own w){B k:Nat}{p q:List G}{ty e sz:Nat}{rows:List (List G)}(L:look B own=some (.blk (p++.osl k::q) ty))(O:look k own=some (.slc rows e sz)):∃V',V'.n=V.n+1∧Later own I V w ((B,.blk (p++.osl V.n::q) ty)::(V.n,.slc rows e sz)::(k,.gone)::own) I V' w:=by
 have hkn:=h.num k _ O;have hbn:=h.num B _ L;have E:B≠k:=fun e=>by rw[e,O] at L;cases L
 let V2:Va:=⟨V.n+1,fun x=>if x=V.n then V.b k else V.b x,fun x=>if x=V.n then V.s k else V.s x,fun x=>if x=V.n then V.f k else if x=k then fun _=>False else V.f x⟩;have fn:V2.f V.n=V.f k:=dc rfl;have fk:V2.f k=fun _=>False:=by show(if k=V.n then _ else if k=k then _ else _)=_;rw[db (by omega),dc rfl]
 have fo:∀x,x≠V.n→x≠k→V2.f x=V.f x:=fun x X h2=>by show(if x=V.n then _ else if x=k then _ else _)=_;rw[db X,db h2]
 have J:V.le V2:=⟨Nat.le_succ _,fun x A=>⟨db (by omega),db (by omega)⟩⟩;have W:∀{x r},look x ((B,R.blk (p++.osl V.n::q) ty)::(V.n,.slc rows e sz)::(k,.gone)::own)=some r→(x=B∧r=.blk (p++.osl V.n::q) ty)∨(x=V.n∧r=.slc rows e sz)∨(x=k∧r=.gone)∨(x≠B∧x≠V.n∧x≠k∧look x own=some r):=fun {x r} A=>by
  rw[A5] at A;split at A
  ·next l=>cases A;exact .inl ⟨l,rfl⟩
  ·next l =>
   rw[A5] at A;split at A
   ·next D=>cases A;exact .inr (.inl ⟨D,rfl⟩)
   ·next D =>
    rw[A5] at A;split at A
    ·next C=>cases A;exact .inr (.inr (.inl ⟨C,rfl⟩))
    ·next C=>exact .inr (.inr (.inr ⟨l,D,C,A⟩))
 refine⟨V2,rfl,Jn h J (fun x r A=>?_) (fun x r A=>?_) (fun x r c A z=>?_) fun x x' r r' c A Z z hc'=>?_⟩
 ·rcases W A with⟨e,-⟩ | ⟨e,-⟩ | ⟨e,-⟩ | ⟨-,-,-,C⟩
  ·rw[e];exact Nat.lt_succ_of_lt hbn
  ·rw[e];exact cu _
  ·rw[e];exact Nat.lt_succ_of_lt hkn
  ·exact Nat.lt_succ_of_lt (h.num x r C)
 ·rcases W A with⟨l,rfl⟩ | ⟨l,rfl⟩ | ⟨l,rfl⟩ | ⟨l,D,C,e4⟩
  ·rw[l];obtain⟨q1,us,q2,T⟩:=h.each B _ L;have fb:V2.f B=V.f B:=fo B (by omega) E;have bb:V2.b B=V.b B:=db (by omega);refine⟨fun b=>by rw[fb,bb];exact q1 b,us,by rw[bb];exact q2,by have:=T.1;simpa using this,fun j g u H hu=>?_⟩;by_cases hj:j=p.length
   ·subst hj;rw[bf (af _),Nat.sub_self] at H;obtain rfl:G.osl V.n=g:=by simpa using H
    have Y:=T.2 p.length (.osl k) u (by rw[bf (af _),Nat.sub_self];rfl) hu;exact⟨cu _,by rw[Y.2];exact(dc rfl).symm⟩
   ·refine CRep.mono (T.2 j g u ?_ hu) (.refl _) J;by_cases hlt:j < p.length
    ·rw[bl hlt] at H⊢;exact H
    ·rw[bf (by omega)] at H⊢;obtain⟨i,hi⟩:∃i,j - p.length=i+1:=⟨j - p.length - 1,by omega⟩;rw[hi] at H⊢;simpa using H
  ·rw[l];have hs:V2.s V.n=V.s k:=dc rfl;obtain⟨q1,rs,q2,T,q4,q5⟩:=h.each k _ O;exact⟨fun b=>by rw[fn,hs];exact q1 b,rs,by rw[hs];exact q2,T,q4,q5⟩
  ·show ∀c,¬V2.f x c;rw[l,fk];exact fun c z=>z
  ·exact(h.each x r e4).keep (.refl _) J (h.num x r e4) (fo x D C) rfl (af _) fun _ _=>rfl
 ·rcases W A with⟨l,-⟩ | ⟨l,-⟩ | ⟨l,-⟩ | ⟨l,D,C,e4⟩
  ·rw[l,fo B (by omega) E] at z;exact⟨B,_,L,z⟩
  ·rw[l,fn] at z;exact⟨k,_,O,z⟩
  ·rw[l,fk] at z;exact z.elim
  ·rw[fo x D C] at z;exact⟨x,r,e4,z⟩
 ·have U:∀{x r},look x ((B,R.blk (p++.osl V.n::q) ty)::(V.n,.slc rows e sz)::(k,.gone)::own)=some r→V2.f x c→∃y ry,look y own=some ry∧V.f y c∧((x=V.n∧y=k)∨(x≠V.n∧x≠k∧y=x)):=fun {x r} A z=>by
   rcases W A with⟨l,-⟩ | ⟨l,-⟩ | ⟨l,-⟩ | ⟨l,D,C,e4⟩
   ·rw[l,fo B (by omega) E] at z;exact⟨B,_,L,z,.inr ⟨by omega,by rw[l];exact E,l.symm⟩⟩
   ·rw[l,fn] at z;exact⟨k,_,O,z,.inl ⟨l,rfl⟩⟩
   ·rw[l,fk] at z;exact z.elim
   ·rw[fo x D C] at z;exact⟨x,r,e4,z,.inr ⟨D,C,rfl⟩⟩
  obtain⟨y,ry,X,h2,Y⟩:=U A z;obtain⟨y',ry',h1',h2',h3'⟩:=U Z hc';have F:=h.disj y y' _ _ c X h1' h2 h2';rcases Y with⟨l,D⟩ | ⟨l,D,C⟩<;>rcases h3' with⟨M,e2'⟩ | ⟨M,e2',e3'⟩
  ·rw[l,M]
  ·exact de (by rw[←e3',←F,D]) e2'
  ·exact de (by rw[←C,F,e2']) D
  ·rw[←C,←e3',F]
theorem Z2a {rs:List (List Value)}{sz:Nat}(h:∀u∈rs,u.length=sz):∀lo,rs.flatten.drop (lo * sz)=(rs.drop lo).flatten:=by
 intro lo
 induction lo generalizing rs with
 | zero=>simp
 | succ lo ih =>
  cases rs with
  | nil=>simp
  | cons u rs =>
   have b:=h u (by simp);rw[b8,List.drop_succ_cons,←ih fun x c=>h x (by simp[c]),show(lo+1) * sz=u.length+lo * sz by rw[b,Nat.succ_mul];omega,List.drop_append,c8 (by omega),cy,show u.length+lo * sz - u.length=lo * sz by omega]
theorem Z2n {e sz n lo hi:Nat}{v:Value}{xs:List Value}(h:Ds w e sz v n xs)(_h1:lo≤hi)(_h2:hi≤n):(Hz sz v lo hi).ownBlock=v.ownBlock:=by
 rcases h.2 with⟨rfl,h0⟩ | ⟨g,q,cap,cur,rfl,-⟩
 ·unfold Hz;dsimp only;split<;>rfl
 ·unfold Hz;dsimp only;split
  ·rfl
  ·show some ((⟨g,q,none⟩:Addr).add (lo * sz)).block=_;rw[Cp];rfl
theorem Z1t {e sz lo hi:Nat}{v:Value}{rows:List (List G)}{rs:List (List Value)}(h:Ds w e sz v rows.length rs.flatten)(z:rs.length=rows.length)(p:∀u∈rs,u.length=sz)(j:lo≤hi∧hi=rows.length):Ds w e sz (Hz sz v lo hi) (rows.drop lo).length (rs.drop lo).flatten:=by
 obtain⟨j,rfl⟩:=j;have b:(rows.drop lo).length=rows.length - lo:=bc ..;refine⟨by rw[Bm fun u s=>p u (b7 s),bc,bc,z],?_⟩;rcases h.2 with⟨rfl,h0⟩ | ⟨g,q,cap,cur,rfl,hg,hn,hm,hc,ht⟩
 ·left;have:lo=0:=by omega
  subst this;refine⟨?_,by rw[b];omega⟩;unfold Hz;rw[h0];rfl
 ·right;unfold Hz;dsimp only;by_cases c:cap=lo
  ·rw[dc c];have f:lo=rows.length:=by omega
   refine⟨g,q,0,cur,by rw[b,f,c,f];simp,hg,by rw[b];omega,ah _,by omega,?_⟩;rw[b,c8 (by omega:rs.length≤lo),show rows.length - lo=0 by omega];simp
  ·rw[db c];have l:lo * sz+(cap - lo) * sz=cap * sz:=by rw[←Nat.add_mul];congr 1;omega
   refine⟨g,q+lo * sz,cap - lo,cur,?_,hg,by rw[b];omega,by omega,by omega,?_⟩
   ·show Value.slice (some ((⟨g,q,none⟩:Addr).add (lo * sz))) _ _=_;rw[Cp,b]
   ·rw[b,←Z2a p,←ht,List.drop_take,List.drop_drop,Nat.sub_mul]
theorem Z00 (h:Has I V own w){k e sz:Nat}{rows:List (List G)}(b:look k own=some (.slc rows e sz)):Later own I V w ((k,.vw rows e sz)::own) I V w:=by obtain⟨f,rs,c,j⟩:=h.each k _ b;exact Db (w':=w) h b rfl rfl rfl rfl (fun _ _=>rfl) ⟨f,rs,Qh c,j⟩
theorem Zf (h:Has I V own w){B k lo hi:Nat}{p q:List G}{ty e sz:Nat}{rows:List (List G)}(M:look B own=some (.blk (p++.osv k sz lo hi::q) ty))(U:look k own=some (.vw rows e sz))(X:lo≤hi∧hi=rows.length):∃V',V'.n=V.n+1∧Later own I V w ((B,.blk (p++.osl V.n::q) ty)::(V.n,.vw (rows.drop lo) e sz)::(k,.gone)::own) I V' w:=by
 have hkn:=h.num k _ U;have hbn:=h.num B _ M;have E:B≠k:=fun e=>by rw[e,U] at M;cases M
 let V2:Va:=⟨V.n+1,fun x=>if x=V.n then V.b k else V.b x,fun x=>if x=V.n then Hz sz (V.s k) lo hi else V.s x,fun x=>if x=V.n then V.f k else if x=k then fun _=>False else V.f x⟩;have fn:V2.f V.n=V.f k:=dc rfl;have fk:V2.f k=fun _=>False:=by show(if k=V.n then _ else if k=k then _ else _)=_;rw[db (by omega),dc rfl]
 have fo:∀x,x≠V.n→x≠k→V2.f x=V.f x:=fun x h1 h2=>by show(if x=V.n then _ else if x=k then _ else _)=_;rw[db h1,db h2]
 have L:V.le V2:=⟨Nat.le_succ _,fun x A=>⟨db (by omega),db (by omega)⟩⟩;have Y:∀{x r},look x ((B,R.blk (p++.osl V.n::q) ty)::(V.n,.vw (rows.drop lo) e sz)::(k,.gone)::own)=some r→(x=B∧r=.blk (p++.osl V.n::q) ty)∨(x=V.n∧r=.vw (rows.drop lo) e sz)∨(x=k∧r=.gone)∨(x≠B∧x≠V.n∧x≠k∧look x own=some r):=fun {x r} A=>by
  rw[A5] at A;split at A
  ·next l=>cases A;exact .inl ⟨l,rfl⟩
  ·next l =>
   rw[A5] at A;split at A
   ·next D=>cases A;exact .inr (.inl ⟨D,rfl⟩)
   ·next D =>
    rw[A5] at A;split at A
    ·next C=>cases A;exact .inr (.inr (.inl ⟨C,rfl⟩))
    ·next C=>exact .inr (.inr (.inr ⟨l,D,C,A⟩))
 refine⟨V2,rfl,Jn h L (fun x r A=>?_) (fun x r A=>?_) (fun x r c A z=>?_) fun x x' r r' c A hx' z hc'=>?_⟩
 ·rcases Y A with⟨e,-⟩ | ⟨e,-⟩ | ⟨e,-⟩ | ⟨-,-,-,C⟩
  ·rw[e];exact Nat.lt_succ_of_lt hbn
  ·rw[e];exact cu _
  ·rw[e];exact Nat.lt_succ_of_lt hkn
  ·exact Nat.lt_succ_of_lt (h.num x r C)
 ·rcases Y A with⟨l,rfl⟩ | ⟨l,rfl⟩ | ⟨l,rfl⟩ | ⟨l,D,C,e4⟩
  ·rw[l];obtain⟨q1,us,Z,O⟩:=h.each B _ M;have fb:V2.f B=V.f B:=fo B (by omega) E;have bb:V2.b B=V.b B:=db (by omega);refine⟨fun b=>by rw[fb,bb];exact q1 b,us,by rw[bb];exact Z,by have:=O.1;simpa using this,fun j g u J F=>?_⟩;by_cases hj:j=p.length
   ·subst hj;rw[bf (af _),Nat.sub_self] at J;obtain rfl:G.osl V.n=g:=by simpa using J
    have h3:=O.2 p.length (.osv k sz lo hi) u (by rw[bf (af _),Nat.sub_self];rfl) F;exact⟨cu _,by rw[h3.2.2];exact(dc rfl).symm⟩
   ·refine CRep.mono (O.2 j g u ?_ F) (.refl _) L;by_cases hlt:j < p.length
    ·rw[bl hlt] at J⊢;exact J
    ·rw[bf (by omega)] at J⊢;obtain⟨i,hi⟩:∃i,j - p.length=i+1:=⟨j - p.length - 1,by omega⟩;rw[hi] at J⊢;simpa using J
  ·rw[l];have hs:V2.s V.n=Hz sz (V.s k) lo hi:=dc rfl;obtain⟨q1,rs,Z,O,q4,q5,q6,q7⟩:=h.each k _ U;refine⟨fun b=>by rw[fn,hs,q1 b,Z2n Z X.1 (by omega)],rs.drop lo,by rw[hs];exact Z1t Z O q5 X,by rw[bc,bc,O],fun i r u hr F=>q4 (lo+i) r u (by rw[bw] at hr;exact hr) (by rw[bw] at F;exact F),fun u F=>q5 u (b7 F),fun u F=>q6 u (b7 F),q7⟩
  ·show ∀c,¬V2.f x c;rw[l,fk];exact fun c z=>z
  ·exact(h.each x r e4).keep (.refl _) L (h.num x r e4) (fo x D C) rfl (af _) fun _ _=>rfl
 ·rcases Y A with⟨l,-⟩ | ⟨l,-⟩ | ⟨l,-⟩ | ⟨l,D,C,e4⟩
  ·rw[l,fo B (by omega) E] at z;exact⟨B,_,M,z⟩
  ·rw[l,fn] at z;exact⟨k,_,U,z⟩
  ·rw[l,fk] at z;exact z.elim
  ·rw[fo x D C] at z;exact⟨x,r,e4,z⟩
 ·have W:∀{x r},look x ((B,R.blk (p++.osl V.n::q) ty)::(V.n,.vw (rows.drop lo) e sz)::(k,.gone)::own)=some r→V2.f x c→∃y ry,look y own=some ry∧V.f y c∧((x=V.n∧y=k)∨(x≠V.n∧x≠k∧y=x)):=fun {x r} A z=>by
   rcases Y A with⟨l,-⟩ | ⟨l,-⟩ | ⟨l,-⟩ | ⟨l,D,C,e4⟩
   ·rw[l,fo B (by omega) E] at z;exact⟨B,_,M,z,.inr ⟨by omega,by rw[l];exact E,l.symm⟩⟩
   ·rw[l,fn] at z;exact⟨k,_,U,z,.inl ⟨l,rfl⟩⟩
   ·rw[l,fk] at z;exact z.elim
   ·rw[fo x D C] at z;exact⟨x,r,e4,z,.inr ⟨D,C,rfl⟩⟩
  obtain⟨y,ry,h1,h2,h3⟩:=W A z;obtain⟨y',ry',h1',h2',h3'⟩:=W hx' hc';have H:=h.disj y y' _ _ c h1 h1' h2 h2';rcases h3 with⟨l,D⟩ | ⟨l,D,C⟩<;>rcases h3' with⟨T,e2'⟩ | ⟨T,e2',e3'⟩
  ·rw[l,T]
  ·exact de (by rw[←e3',←H,D]) e2'
  ·exact de (by rw[←C,H,e2']) D
  ·rw[←C,←e3',H]
theorem Z89:Loc T5:=fun _ _ _ _ _ _ h _ _ _ _=>h
theorem Yr (h:Has I V own w){j i:Nat}{M:List Ob}{p:Ob}(X:look j own=some (.fam M))(hi:M[i]?=some p):∃V',V'.n=V.n+1∧Later own I V w ((V.n,.abs p)::(j,.fam (M.set i T5))::own) I V' w:=by
 obtain⟨q1,F,q2,q3,q4⟩:=h.each j _ X;obtain⟨b,hb⟩:=q4 i p hi;have H:=(ac.1 hi).1;have hjn:=h.num j _ X;let V2:Va:=⟨V.n+1,fun k=>if k=V.n then b else V.b k,fun k=>if k=V.n then undef else V.s k,fun k=>if k=V.n then F i else if k=j then fun c=>∃a,a < M.length∧a≠i∧F a c else V.f k⟩;have fn:V2.f V.n=F i:=dc rfl;have U:V2.f j=fun c=>∃a,a < M.length∧a≠i∧F a c:=by show(if j=V.n then _ else if j=j then _ else _)=_;rw[db (by omega),dc rfl]
 have fo:∀k,k≠V.n→k≠j→V2.f k=V.f k:=fun k D L=>by show(if k=V.n then _ else if k=j then _ else _)=_;rw[db D,db L]
 have Z:V.le V2:=⟨Nat.le_succ _,fun k B=>⟨db (by omega),db (by omega)⟩⟩;have W:∀{k r},look k ((V.n,R.abs p)::(j,.fam (M.set i T5))::own)=some r→(k=V.n∧r=.abs p)∨(k=j∧r=.fam (M.set i T5))∨(k≠V.n∧k≠j∧look k own=some r):=fun {k r} B=>by
  rw[A5] at B;split at B
  ·next e=>cases B;exact .inl ⟨e,rfl⟩
  ·next e =>
   rw[A5] at B;split at B
   ·next C=>cases B;exact .inr (.inl ⟨C,rfl⟩)
   ·next C=>exact .inr (.inr ⟨e,C,B⟩)
 refine⟨V2,rfl,Jn h Z (fun k r B=>?_) (fun k r B=>?_) (fun k r c B z=>?_) fun k k' r r' c B hk' z l=>?_⟩
 ·rcases W B with⟨e,-⟩ | ⟨e,-⟩ | ⟨-,-,E⟩
  ·rw[e];exact cu _
  ·rw[e];exact Nat.lt_succ_of_lt hjn
  ·exact Nat.lt_succ_of_lt (h.num k r E)
 ·rcases W B with⟨e,rfl⟩ | ⟨e,rfl⟩ | ⟨e1,C,E⟩
  ·rw[e];refine⟨q1 p (ae hi),?_⟩;rw[fn,show V2.b V.n=b from dc rfl];exact hb
  ·rw[e];refine⟨fun q O=>?_,fun a c=>a≠i∧F a c,fun c=>?_,fun a a' c ha Y z l=>?_,fun a q O=>?_⟩
   ·rcases co O with O | rfl
    ·exact q1 q O
    ·exact Z89
   ·rw[U,bh]
   ·rw[bh] at ha Y;exact q3 a a' c ha Y z.2 l.2
   ·rw[cn] at O;split at O
    ·next e =>
     obtain rfl:T5=q:=by simpa using O
     exact⟨0,fun c z=>z.1 e.symm⟩
    ·next e =>
     obtain⟨b',hb'⟩:=q4 a q O;refine⟨b',?_⟩;have C:(fun c=>a≠i∧F a c)=F a:=by funext c;exact propext ⟨fun h=>h.2,fun h=>⟨fun E=>e E.symm,h⟩⟩
     show q I b' (fun c=>a≠i∧F a c) w;rw[C];exact hb'
  ·exact(h.each k r E).keep (.refl _) Z (h.num k r E) (fo k e1 C) rfl (af _) fun _ _=>rfl
 ·rcases W B with⟨e,-⟩ | ⟨e,-⟩ | ⟨e1,C,E⟩
  ·rw[e,fn] at z;exact⟨j,_,X,(q2 c).2 ⟨i,H,z⟩⟩
  ·rw[e,U] at z;obtain⟨a,D,-,L⟩:=z;exact⟨j,_,X,(q2 c).2 ⟨a,D,L⟩⟩
  ·rw[fo k e1 C] at z;exact⟨k,r,E,z⟩
 ·have A:∀{k r c},k≠j→look k own=some r→V.f k c→(∃a,a < M.length∧F a c)→False:=fun {k r c} D L J h4=>D (h.disj k j _ _ c L X J ((q2 c).2 h4));rcases W B with⟨e,-⟩ | ⟨e,-⟩ | ⟨e1,C,E⟩<;>rcases W hk' with⟨T,-⟩ | ⟨T,-⟩ | ⟨e1',e2',e3'⟩
  ·rw[e,T]
  ·rw[e,fn] at z;rw[T,U] at l;obtain⟨a,D,L,J⟩:=l;exact de (q3 a i c D H J z) L
  ·rw[e,fn] at z;rw[fo k' e1' e2'] at l;exact(A e2' e3' l ⟨i,H,z⟩).elim
  ·rw[T,fn] at l;rw[e,U] at z;obtain⟨a,D,L,J⟩:=z;exact de (q3 a i c D H J l) L
  ·rw[e,T]
  ·rw[e,U] at z;rw[fo k' e1' e2'] at l;obtain⟨a,D,-,J⟩:=z;exact(A e2' e3' l ⟨a,D,J⟩).elim
  ·rw[fo k e1 C] at z;rw[T,fn] at l;exact(A C E z ⟨i,H,l⟩).elim
  ·rw[fo k e1 C] at z;rw[T,U] at l;obtain⟨a,D,-,J⟩:=l;exact(A C E z ⟨a,D,J⟩).elim
  ·rw[fo k e1 C] at z;rw[fo k' e1' e2'] at l;exact h.disj k k' r r' c E e3' z l
theorem Z0v (h:Has I V own w){j k b:Nat}(l:look j own=some (.adr k b)):Later own I V w ((V.n,.adr k b)::own) I (V.push 0 undef fun _=>False) w:=by obtain⟨-,e,f⟩:=h.each j _ l;exact Kj h ⟨fun c p=>by simp[Va.push] at p,by show k < V.n+1;omega,by simp[Va.push,Nat.ne_of_lt e];exact f⟩
theorem Zx (h:Has I V own w){m k j1 Z b:Nat}{p:Ob}(E:look m own=some (.abs p))(T:look k own=some .gone)(J:look j1 own=some (.adr m b))(Y:look Z own=some (.adr k b)):∃V',V'.n=V.n∧Later own I V w ((k,.abs p)::(m,.gone)::own) I V' w:=by
 obtain⟨-,L,X⟩:=h.each j1 _ J;obtain⟨-,W,M⟩:=h.each Z _ Y;obtain⟨p1,p2⟩:=h.each m _ E;have U:k≠m:=fun e=>by rw[e,E] at T;cases T
 let V2:Va:=⟨V.n,V.b,V.s,fun x=>if x=k then V.f m else if x=m then fun _=>False else V.f x⟩;have H:V2.f k=V.f m:=dc rfl;have A:V2.f m=fun _=>False:=by show(if m=k then _ else if m=m then _ else _)=_;rw[db (fun e=>U e.symm),dc rfl]
 have fo:∀x,x≠k→x≠m→V2.f x=V.f x:=fun x J Y=>by show(if x=k then _ else if x=m then _ else _)=_;rw[db J,db Y]
 have D:V.le V2:=⟨af _,fun k T=>⟨rfl,rfl⟩⟩;have C:∀{x r},look x ((k,R.abs p)::(m,.gone)::own)=some r→(x=k∧r=.abs p)∨(x=m∧r=.gone)∨(x≠k∧x≠m∧look x own=some r):=fun {x r} q=>by
  rw[A5] at q;split at q
  ·next e=>cases q;exact .inl ⟨e,rfl⟩
  ·next e =>
   rw[A5] at q;split at q
   ·next z=>cases q;exact .inr (.inl ⟨z,rfl⟩)
   ·next z=>exact .inr (.inr ⟨e,z,q⟩)
 refine⟨V2,rfl,Jn h D (fun x r q=>?_) (fun x r q=>?_) (fun x r c q l=>?_) fun x F r r' c q O l j=>?_⟩
 ·rcases C q with⟨e,-⟩ | ⟨e,-⟩ | ⟨-,-,e3⟩
  ·rw[e];exact W
  ·rw[e];exact L
  ·exact h.num x r e3
 ·rcases C q with⟨e,rfl⟩ | ⟨e,rfl⟩ | ⟨e1,z,e3⟩
  ·rw[e];refine⟨p1,?_⟩;rw[H,show V2.b k=V.b m from M.trans X.symm];exact p2
  ·show ∀c,¬V2.f x c;rw[e,A];exact fun c l=>l
  ·exact(h.each x r e3).keep (.refl _) D (h.num x r e3) (fo x e1 z) rfl (af _) fun _ _=>rfl
 ·rcases C q with⟨e,-⟩ | ⟨e,-⟩ | ⟨e1,z,e3⟩
  ·rw[e,H] at l;exact⟨m,_,E,l⟩
  ·rw[e,A] at l;exact l.elim
  ·rw[fo x e1 z] at l;exact⟨x,r,e3,l⟩
 ·rcases C q with⟨e,-⟩ | ⟨e,-⟩ | ⟨e1,z,e3⟩<;>rcases C O with⟨B,-⟩ | ⟨B,-⟩ | ⟨e1',e2',e3'⟩
  ·rw[e,B]
  ·rw[B,A] at j;exact j.elim
  ·rw[e,H] at l;rw[fo F e1' e2'] at j;exact de (h.disj m F _ _ c E e3' l j) (fun e=>e2' e.symm)
  ·rw[e,A] at l;exact l.elim
  ·rw[e,B]
  ·rw[e,A] at l;exact l.elim
  ·rw[fo x e1 z] at l;rw[B,H] at j;exact de (h.disj x m _ _ c e3 E l j) z
  ·rw[B,A] at j;exact j.elim
  ·rw[fo x e1 z] at l;rw[fo F e1' e2'] at j;exact h.disj x F r r' c e3 e3' l j
theorem Z21 (h:Has I V own w){j i k:Nat}{H:List Ob}{p:Ob}(J:look j own=some (.fam H))(hi:i < H.length)(L:look k own=some (.abs p)):∃V',V'.n=V.n∧Later own I V w ((j,.fam (H.set i p))::(k,.gone)::own) I V' w:=by
 obtain⟨q1,F,q2,q3,q4⟩:=h.each j _ J;obtain⟨p1,p2⟩:=h.each k _ L;have T:j≠k:=fun e=>by rw[e,L] at J;cases J
 have hjn:=h.num j _ J;have hkn:=h.num k _ L;let V2:Va:=⟨V.n,V.b,V.s,fun x=>if x=j then fun c=>∃a,a < H.length∧(if a=i then V.f k c else F a c) else if x=k then fun _=>False else V.f x⟩;have fj:V2.f j=fun c=>∃a,a < H.length∧(if a=i then V.f k c else F a c):=dc rfl;have X:V2.f k=fun _=>False:=by show(if k=j then _ else if k=k then _ else _)=_;rw[db (fun e=>T e.symm),dc rfl]
 have fo:∀x,x≠j→x≠k→V2.f x=V.f x:=fun x h1 W=>by show(if x=j then _ else if x=k then _ else _)=_;rw[db h1,db W]
 have hle:V.le V2:=⟨af _,fun k L=>⟨rfl,rfl⟩⟩;have Z:∀{x r},look x ((j,R.fam (H.set i p))::(k,.gone)::own)=some r→(x=j∧r=.fam (H.set i p))∨(x=k∧r=.gone)∨(x≠j∧x≠k∧look x own=some r):=fun {x r} B=>by
  rw[A5] at B;split at B
  ·next e=>cases B;exact .inl ⟨e,rfl⟩
  ·next e =>
   rw[A5] at B;split at B
   ·next A=>cases B;exact .inr (.inl ⟨A,rfl⟩)
   ·next A=>exact .inr (.inr ⟨e,A,B⟩)
 have inJ:∀{a c},a < H.length→(if a=i then V.f k c else F a c)→V.f k c∨V.f j c:=fun {a c} ha z=>by
  split at z
  ·exact .inl z
  ·exact .inr ((q2 c).2 ⟨a,ha,z⟩)
 refine⟨V2,rfl,Jn h hle (fun x r B=>?_) (fun x r B=>?_) (fun x r c B z=>?_) fun x x' r r' c B hx' z l=>?_⟩
 ·rcases Z B with⟨e,-⟩ | ⟨e,-⟩ | ⟨-,-,D⟩
  ·rw[e];exact hjn
  ·rw[e];exact hkn
  ·exact h.num x r D
 ·rcases Z B with⟨e,rfl⟩ | ⟨e,rfl⟩ | ⟨E,A,D⟩
  ·rw[e];refine⟨fun q M=>?_,fun a c=>if a=i then V.f k c else F a c,fun c=>?_,fun a a' c ha O z l=>?_,fun a q M=>?_⟩
   ·rcases co M with M | rfl
    ·exact q1 q M
    ·exact p1
   ·rw[fj,bh]
   ·rw[bh] at ha O;split at z<;>split at l
    ·next E A=>rw[E,A]
    ·exact de (h.disj j k _ _ c J L ((q2 c).2 ⟨a',O,l⟩) z) T
    ·exact de (h.disj j k _ _ c J L ((q2 c).2 ⟨a,ha,z⟩) l) T
    ·exact q3 a a' c ha O z l
   ·rw[cn] at M;split at M
    ·next e =>
     obtain rfl:p=q:=by simpa using M
     refine⟨V.b k,?_⟩;have A:(fun c=>if a=i then V.f k c else F a c)=V.f k:=by funext c;rw[dc e.symm]
     show p I (V.b k) (fun c=>if a=i then V.f k c else F a c) w;rw[A];exact p2
    ·next e =>
     obtain⟨b',hb'⟩:=q4 a q M;refine⟨b',?_⟩;have A:(fun c=>if a=i then V.f k c else F a c)=F a:=by funext c;rw[db (fun D=>e D.symm)]
     show q I b' (fun c=>if a=i then V.f k c else F a c) w;rw[A];exact hb'
  ·show ∀c,¬V2.f x c;rw[e,X];exact fun c z=>z
  ·exact(h.each x r D).keep (.refl _) hle (h.num x r D) (fo x E A) rfl (af _) fun _ _=>rfl
 ·rcases Z B with⟨e,-⟩ | ⟨e,-⟩ | ⟨E,A,D⟩
  ·rw[e,fj] at z;obtain⟨a,h1,W⟩:=z;rcases inJ h1 W with U | U
   ·exact⟨k,_,L,U⟩
   ·exact⟨j,_,J,U⟩
  ·rw[e,X] at z;exact z.elim
  ·rw[fo x E A] at z;exact⟨x,r,D,z⟩
 ·have C:∀{x r c},x≠j→x≠k→look x own=some r→V.f x c→(∃a,a < H.length∧(if a=i then V.f k c else F a c))→False:=fun {x r c} h0 h1 W U ⟨a,h4,h5⟩=>by
   rcases inJ h4 h5 with h6 | h6
   ·exact h1 (h.disj x k _ _ c W L U h6)
   ·exact h0 (h.disj x j _ _ c W J U h6)
  rcases Z B with⟨e,-⟩ | ⟨e,-⟩ | ⟨E,A,D⟩<;>rcases Z hx' with⟨Y,-⟩ | ⟨Y,-⟩ | ⟨e1',e2',e3'⟩
  ·rw[e,Y]
  ·rw[Y,X] at l;exact l.elim
  ·rw[e,fj] at z;rw[fo x' e1' e2'] at l;exact(C e1' e2' e3' l z).elim
  ·rw[e,X] at z;exact z.elim
  ·rw[e,Y]
  ·rw[e,X] at z;exact z.elim
  ·rw[fo x E A] at z;rw[Y,fj] at l;exact(C E A D z l).elim
  ·rw[Y,X] at l;exact l.elim
  ·rw[fo x E A] at z;rw[fo x' e1' e2'] at l;exact h.disj x x' r r' c D e3' z l
theorem Po {n:Nat}{K:Os→Nat→Prop}(F:Gh K own n):∀{V:Va},V.n=n→Has I V own w→∃own' I' V',K own' V'.n∧Later own I V w own' I' V' w:=by
 induction F generalizing I with
 | done hk=>exact fun {V} z h=>⟨_,I,V,by rw[z];exact hk,.refl h⟩
 | nil k p q ty e sz hk hz _ ih =>
  intro V z h;subst z;have l:=Z37 (e:=e) h hk hz;obtain⟨o,I',V',C,A⟩:=ih (V:=V.push 0 (.slice none 0 0) fun _=>False) rfl l.has;exact⟨o,I',V',C,l.trans A⟩
 | close O m hO h0 hd _ ih =>
  intro V z h;subst z;obtain⟨f,l⟩:=Uf h hO h0 hd;obtain⟨o,I',V',C,A⟩:=ih (V:=⟨V.n,V.b,V.s,f⟩) rfl l.has;exact⟨o,I',V',C,l.trans A⟩
 | opn k cs ty rs hk hb hs _ ih =>
  intro V z h;subst z;obtain⟨V1,D,l⟩:=Zk h hk hb hs;obtain⟨o,I',V',C,A⟩:=ih (V:=V1) D l.has;exact⟨o,I',V',C,l.trans A⟩
 | adr k r hk _ ih =>
  intro V z h;subst z;have l:=Sk h hk;obtain⟨o,I',V',C,A⟩:=ih (V.b k) (V:=V.push 0 undef fun _=>False) rfl l.has;exact⟨o,I',V',C,l.trans A⟩
 | lies k B p hk hp _ ih =>
  intro V z h;subst z;have l:=Sk h hk;rw[hp _ _ _ _ (h.each k _ hk).2] at l;obtain⟨o,I',V',C,A⟩:=ih (V:=V.push 0 undef fun _=>False) rfl l.has;exact⟨o,I',V',C,l.trans A⟩
 | fam _ ih =>
  intro V z h;subst z;have l:=Z16 h;obtain⟨o,I',V',C,A⟩:=ih (V:=V.push 0 undef fun _=>False) rfl l.has;exact⟨o,I',V',C,l.trans A⟩
 | adopt j k ps p hj hk _ ih =>
  intro V z h;subst z;have l:=V6 h hj hk;obtain⟨o,I',V',C,A⟩:=ih (V:=⟨V.n,V.b,V.s,fun i=>if i=j then fun c=>V.f j c∨V.f k c else if i=k then fun _=>False else V.f i⟩) rfl l.has;exact⟨o,I',V',C,l.trans A⟩
 | frz k rows e sz hk _ ih =>
  intro V z h;subst z;obtain⟨J,l,-,-⟩:=F0 h hk;obtain⟨o,I',V',C,A⟩:=ih (V:=V.drop k) rfl l.has;exact⟨o,I',V',C,l.trans A⟩
 | rnm kb k p q ty rows e sz hb hk _ ih =>
  intro V z h;subst z;obtain⟨V1,D,l⟩:=Z2f h hb hk;obtain⟨o,I',V',C,A⟩:=ih (V:=V1) D l.has;exact⟨o,I',V',C,l.trans A⟩
 | dup j k b hj _ ih =>
  intro V z h;subst z;have l:=Z0v h hj;obtain⟨o,I',V',C,A⟩:=ih (V:=V.push 0 undef fun _=>False) rfl l.has;exact⟨o,I',V',C,l.trans A⟩
 | move m k j1 j2 b p hm hk l C _ ih =>
  intro V z h;subst z;obtain⟨V1,D,A⟩:=Zx h hm hk l C;obtain⟨o,I',V',E,H⟩:=ih (V:=V1) D A.has;exact⟨o,I',V',E,A.trans H⟩
 | take j i ps p hj hi _ ih =>
  intro V z h;subst z;obtain⟨V1,D,l⟩:=Yr h hj hi;obtain⟨o,I',V',C,A⟩:=ih (V:=V1) D l.has;exact⟨o,I',V',C,l.trans A⟩
 | put j i k ps p hj hi hk _ ih =>
  intro V z h;subst z;obtain⟨V1,D,l⟩:=Z21 h hj hi hk;obtain⟨o,I',V',C,A⟩:=ih (V:=V1) D l.has;exact⟨o,I',V',C,l.trans A⟩
 | view k rows e sz hk _ ih =>
  intro V z h;subst z;have l:=Z00 h hk;obtain⟨o,I',V',C,A⟩:=ih (V:=V) rfl l.has;exact⟨o,I',V',C,l.trans A⟩
 | tail kb k lo hi p q ty rows e sz hb hk hl _ ih =>
  intro V z h;subst z;obtain⟨V1,D,l⟩:=Zf h hb hk hl;obtain⟨o,I',V',C,A⟩:=ih (V:=V1) D l.has;exact⟨o,I',V',C,l.trans A⟩
 | seen k cs ty hk _ ih =>
  intro V z h;subst z;have l:=Zc h hk;obtain⟨o,I',V',C,A⟩:=ih (V:=V) rfl l.has;exact⟨o,I',V',C,l.trans A⟩
 | drop k r hk _ ih =>
  intro V z h;subst z;have l:=G4 (r:=.gone) h hk (.refl _) h.mem (fun _ _ _=>rfl) (fun b=>by simp[Va.drop]);obtain⟨o,I',V',C,A⟩:=ih (V:=V.drop k) rfl l.has;exact⟨o,I',V',C,l.trans A⟩
end
def inC (k:Nat):G→Prop
 | .ptr j _ | .osl j | .osv j _ _ _ | .oel j _ _ _ | .mp j=>j=k
 | _=>False
def in1 (k:Nat):G→Prop
 | .oag l=>∃g∈l,inC k g
 | .clo _ a c=>∃g,(g∈a∨g∈c)∧inC k g
 | g=>inC k g
def Gath (F:List Nat→(List Nat→Prop)→Prop)(p:Nat→Prop):Prop:=∀l:List Nat,∃b:List Nat,(∀K:List Nat→Prop,F l K=K b)∧(∀j,j∈l→j∈b)∧(∀j,p j→j∈b)∧(l.Nodup→b.Nodup)
theorem Gath.none:Gath (fun l K=>K l) (fun _=>False):=fun l=>⟨l,fun _=>rfl,fun _ h=>h,fun _ h=>h.elim,fun h=>h⟩
theorem Gath.seq {F c:List Nat→(List Nat→Prop)→Prop}{p e:Nat→Prop}(h:Gath F p)(h':Gath c e):Gath (fun l K=>F l fun l=>c l K) (fun j=>p j∨e j):=fun l=>by obtain⟨B,a1,a2,s,A⟩:=h l;obtain⟨q,b1,b2,C,f⟩:=h' B;exact⟨q,fun K=>(a1 _).trans (b1 K),fun j b=>b2 j (a2 j b),fun j b=>b.elim (fun h=>b2 j (s j h)) (fun h=>C j h),fun z=>f (A z)⟩
theorem Gath.sub {F:List Nat→(List Nat→Prop)→Prop}{p b:Nat→Prop}(h:Gath F p)(e:∀j,b j→p j):Gath F b:=fun l=>by obtain⟨s,a1,a2,c,f⟩:=h l;exact⟨s,a1,a2,fun j q=>c j (e j q),f⟩
theorem I4 (k:Nat):Gath (fun l K=>I9 k l K) (fun j=>j=k):=fun l=>by
 induction l with
 | nil=>exact⟨[k],fun _=>rfl,fun j h=>by simp at h,fun j h=>by simp[h],fun _=>by simp⟩
 | cons i l ih =>
  obtain⟨c,p,A,z,B⟩:=ih;have f:∀j,j∈c→j∈l∨j=k:=by
   have:∀(l:List Nat) (c:List Nat),(∀K:List Nat→Prop,I9 k l K=K c)→∀j,j∈c→j∈l∨j=k:=fun l=>by
    induction l with
    | nil=>intro c h j b;have e:=h (fun r=>r=[k]);simp[I9] at e;rw[e] at b;exact .inr (by simpa using b)
    | cons i l ih =>
     intro c h j b;cases hb:Nat.beq k i with
     | true =>
      have e:=h (fun r=>r=i::l);unfold I9 at e;rw[hb] at e;simp at e;rw[e] at b;exact .inl b
     | false =>
      have e:∃r,c=i::r∧∀K:List Nat→Prop,I9 k l K=K r:=by
       have key:∀l:List Nat,∃r,∀K:List Nat→Prop,I9 k l K=K r:=fun l=>by
        induction l with
        | nil=>exact⟨[k],fun _=>rfl⟩
        | cons i l ih =>
         obtain⟨r,hr⟩:=ih;cases hb:Nat.beq k i with
         | true=>exact⟨i::l,fun K=>by unfold I9;rw[hb]⟩
         | false=>exact⟨i::r,fun K=>by unfold I9;rw[hb];exact hr _⟩
       obtain⟨r,hr⟩:=key l;refine⟨r,?_,hr⟩;have e:=h (fun q=>q=i::r);unfold I9 at e;rw[hb] at e;dsimp only at e;rw[hr] at e;simp at e;exact e
      obtain⟨r,rfl,hr⟩:=e;rcases bi.1 b with rfl | b
      ·exact .inl (by simp)
      ·exact(ih r hr j b).imp (fun h=>by simp[h]) id
   exact this l c p
  cases hb:Nat.beq k i with
  | true =>
   have:=ai hb;subst this;exact⟨k::l,fun K=>by show I9 k (k::l) K=_;unfold I9;rw[hb],fun j b=>b,fun j b=>by simp[b],fun h=>h⟩
  | false =>
   refine⟨i::c,fun K=>by show I9 k (i::l) K=_;unfold I9;rw[hb];exact p _,fun j b=>?_,fun j b=>by simp[z j b],fun h=>?_⟩
   ·rcases bi.1 b with rfl | b
    ·simp
    ·simp[A j b]
   ·have s:=List.nodup_cons.1 h;refine List.nodup_cons.2 ⟨fun C=>?_,B s.2⟩;rcases f i C with h | h
    ·exact s.1 h
    ·subst h;rw[Nat.beq_refl] at hb;cases hb
theorem O2 (g:G):Gath (fun l K=>gkC g l K) (fun j=>inC j g):=by
 cases g with
 | ptr k o=>exact(I4 k).sub fun j h=>Eq.symm h
 | osl k=>exact(I4 k).sub fun j h=>Eq.symm h
 | osv k a b c=>exact(I4 k).sub fun j h=>Eq.symm h
 | oel k a b c=>exact(I4 k).sub fun j h=>Eq.symm h
 | mp k=>exact(I4 k).sub fun j h=>Eq.symm h
 | _=>exact Gath.none.sub fun j h=>h
theorem M8:∀l:List G,Gath (fun ks K=>Zbc l ks K) (fun j=>∃g∈l,inC j g)
 | []=>Gath.none.sub fun j h=>by simp at h
 | g::l=>((O2 g).seq (M8 l)).sub fun j ⟨b,h,hk⟩=>by
  rcases bi.1 h with rfl | h
  ·exact .inl hk
  ·exact .inr ⟨b,h,hk⟩
theorem Zfz (g:G):Gath (fun l K=>gk1 g l K) (fun j=>in1 j g):=by
 cases g with
 | oag l=>exact M8 l
 | clo f a c=>exact((M8 a).seq (M8 c)).sub fun j ⟨g,h,hk⟩=>h.imp (fun h=>⟨g,h,hk⟩) (fun h=>⟨g,h,hk⟩)
 | ptr k o=>exact O2 (.ptr k o)
 | osl k=>exact O2 (.osl k)
 | osv k a b c=>exact O2 (.osv k a b c)
 | oel k a b c=>exact O2 (.oel k a b c)
 | mp k=>exact O2 (.mp k)
 | _=>exact Gath.none.sub fun j h=>h
theorem Zay:∀l:List G,Gath (fun ks K=>gkL l ks K) (fun j=>∃g∈l,in1 j g)
 | []=>Gath.none.sub fun j h=>by simp at h
 | g::l=>((Zfz g).seq (Zay l)).sub fun j ⟨b,h,hk⟩=>by
  rcases bi.1 h with rfl | h
  ·exact .inl hk
  ·exact .inr ⟨b,h,hk⟩
theorem Jz {k:Nat}:∀{ks:List Nat} {j:Nat},k∈ks→∃i,look k (Jy ks j)=some (j+i)∧ks[i]?=some k
 | [],_,h=>by simp at h
 | k0::ks,j,h=>by
  unfold Jy;rw[A5];by_cases e:k=k0
  ·subst e;exact⟨0,by simp,rfl⟩
  ·rw[db e];obtain⟨i,b,c⟩:=Jz (ks:=ks) (j:=j+1) ((bi.1 h).resolve_left e);exact⟨i+1,by rw[b];congr 1;omega,by simpa using c⟩
theorem S9 (own:Os):∀l:List Nat,Gath (fun b K=>Pb own l b K) (fun _=>False)
 | []=>Gath.none
 | k::l=>fun b=>by
  have c:=S9 own l;show ∃e:List Nat,(∀K:List Nat→Prop,Pb own (k::l) b K=K e)∧_;unfold Pb;split
  ·exact(((M8 _).seq c).sub fun j h=>h.elim) b
  ·exact c b
theorem Z3m (own:Os):∀n:Nat,Gath (fun ks K=>trK own n ks K) (fun _=>False)
 | 0=>Gath.none
 | n+1=>fun ks=>by obtain⟨f,a1,a2,-,b⟩:=S9 own ks ks;obtain⟨e,b1,b2,-,c⟩:=Z3m own n f;exact⟨e,fun K=>(a1 _).trans (b1 K),fun j h=>b2 j (a2 j h),fun j h=>h.elim,fun h=>c (b h)⟩
theorem Zi {ks:List Nat}{r:R}(h:Jh r=true):Z5p ks r=true:=by
 cases r with
 | lnk j=>cases h
 | adr j b=>cases h
 | blk cs t =>
  have key:∀{l:List G},B4 C2 l=true→B4 (Zii ks) l=true:=fun {l}=>by
   induction l with
   | nil=>intro _;rfl
   | cons g l ih =>
    intro h;unfold B4 at h⊢;cases hg:C2 g with
    | false=>rw[hg] at h;cases h
    | true =>
     rw[hg] at h;have:Zii ks g=true:=by cases g<;>first | rfl | cases hg
     rw[this];exact ih h
  exact key (show B4 C2 cs=true from h)
 | _=>rfl
theorem Zai {own:Os}{b:List Nat}:∀{ks:List Nat} {K:List R→Prop},rsK own b ks K→∃rs:List R,K rs∧rs.length=ks.length∧∀(i k:Nat),ks[i]?=some k→∃r,rs[i]?=some (Ii (Jy b 0) r)∧look k own=some r∧Z5p b r=true
 | [],K,h=>⟨[],h,rfl,fun i k h=>by simp at h⟩
 | k::ks,K,h=>by
  unfold rsK at h;cases hr:look k own with
  | none=>rw[hr] at h;exact h.elim
  | some r =>
   rw[hr] at h;dsimp only at h;have key:Z5p b r=true→rsK own b ks (fun rs=>K (Ii (Jy b 0) r::rs))→∃rs:List R,K rs∧rs.length=(k::ks).length∧∀(i k':Nat),(k::ks)[i]?=some k'→∃r,rs[i]?=some (Ii (Jy b 0) r)∧look k' own=some r∧Z5p b r=true:=fun hi h=>by
    obtain⟨rs,e,j,f⟩:=Zai h;refine⟨_,e,by simp[j],fun i k' c=>?_⟩;cases i with
    | zero=>simp at c;subst c;exact⟨r,rfl,hr,hi⟩
    | succ i=>simpa using f i k' (by simpa using c)
   cases hn:Jh r with
   | true =>
    rw[hn] at h;exact key (Zi hn) (by rw[Kx hn];exact h)
   | false =>
    rw[hn] at h;dsimp only at h;cases hi:Z5p b r with
    | false=>rw[hi] at h;exact h.elim
    | true=>rw[hi] at h;exact key hi h
section
variable {P:Program} {I I' I0:Imm} {V V1 V' V0:Va} {w w' w0:World} {own own0 own':Os} {k n N:Nat} {g:G} {x y:Value} {r:R} {ks:List Nat} {rs:List R} {a:Act} {t:Ts} {o:Oper}
theorem Mj (p:∀k,inC k g→k∈ks)(h:CRep I V g x):CRep I (V.lend ks) (Kg (Jy ks 0) g) x:=by
 have key:∀k,inC k g→∃i,(look k (Jy ks 0)).getD k=i∧i < ks.length∧(V.lend ks).b i=V.b k∧(V.lend ks).s i=V.s k:=fun k q=>by obtain⟨i,e,f⟩:=Jz (j:=0) (p k q);refine⟨i,by rw[e];simp,(ac.1 f).1,?_,?_⟩<;>simp[Va.lend,Be f]
 cases g with
 | ptr k o=>obtain⟨i,e,f,l,-⟩:=key k rfl;exact⟨by rw[e];exact f,by rw[e,l];exact h.2⟩
 | osl k=>obtain⟨i,e,f,-,l⟩:=key k rfl;exact⟨by rw[e];exact f,by rw[e,l];exact h.2⟩
 | osv k a b c=>obtain⟨i,e,f,-,l⟩:=key k rfl;exact⟨by rw[e];exact f,by rw[e,l];exact h.2⟩
 | mp k=>obtain⟨i,e,f,l,-⟩:=key k rfl;exact⟨by rw[e];exact f,by rw[e,l];exact h.2⟩
 | _=>exact h
theorem Z8p {l:List G}{f:List Value}(b:∀k g,g∈l→inC k g→k∈ks)(h:PW (CRep I V) l f):PW (CRep I (V.lend ks)) (l.map (Kg (Jy ks 0))) f :=
 ⟨by simpa using h.1,fun j g u c q=>by rw[aj] at c;obtain⟨g0,e,p⟩:=ay.1 c;subst p;exact Mj (fun k s=>b k g0 (ae e) s) (h.2 j g0 u e q)⟩
theorem RRep.lendK {j:Nat}(z:Z5p ks r=true)(h:RRep I V k w r)(q:(V.lend ks).b j=V.b k)(A:(V.lend ks).s j=V.s k)(hf:(V.lend ks).f j=V.f k):RRep I (V.lend ks) j w (Ii (Jy ks 0) r):=by
 cases r with
 | blk cs t =>
  obtain⟨C,M,B,F⟩:=h;refine⟨fun b=>by rw[hf,q];exact C b,M,by rw[q];exact B,Z8p (fun k g L E=>?_) F⟩;have H:=Ae (show B4 (Zii ks) cs=true from z) g L;cases g<;>first | (obtain rfl:=(show _=k from E);exact Cr.1 H) | exact E.elim
 | slc rows e sz=>exact⟨fun b=>by rw[hf,A];exact h.1 b,by rw[A];exact h.2⟩
 | vw rows e sz=>exact⟨fun b=>by rw[hf,A];exact h.1 b,by rw[A];exact h.2⟩
 | froz rows sz=>exact⟨fun b=>by rw[hf];exact h.1 b,by rw[A];exact h.2.1,h.2.2⟩
 | gone=>exact fun b=>by rw[hf];exact h b
 | mpI l=>exact⟨fun b=>by rw[hf,q];exact h.1 b,by rw[q];exact h.2⟩
 | mpS l=>exact⟨fun b=>by rw[hf,q];exact h.1 b,by rw[q];exact h.2⟩
 | sit s pos=>exact⟨fun b=>by rw[hf,q];exact h.1 b,by rw[q];exact h.2⟩
 | mpX l m ob=>exact⟨fun b=>by rw[hf,q];exact h.1 b,by rw[q];exact h.2⟩
 | mit i l D last m ob=>exact⟨fun b=>by rw[hf,q];exact h.1 b,by rw[q];exact h.2⟩
 | abs p=>exact⟨h.1,by rw[hf,q];exact h.2⟩
 | lnk j=>cases z
 | adr i b =>
  obtain⟨O,U,J⟩:=h;obtain⟨T,C,B⟩:=Jz (j:=0) (Cr.1 (show Gc i ks=true from z));have e:(look i (Jy ks 0)).getD i=T:=by rw[C];simp
  refine⟨fun c=>by rw[hf];exact O c,?_,?_⟩
  ·show(look i (Jy ks 0)).getD i < (V.lend ks).n;rw[e];exact(ac.1 B).1
  ·show(V.lend ks).b ((look i (Jy ks 0)).getD i)=b;rw[e];simpa [Va.lend,Be B] using J
 | fam ps=>exact⟨h.1,by rw[hf];exact h.2⟩
theorem Z82 (hH:Has I V own w)(hd:ks.Nodup)(C:rs.length=ks.length)(hr:∀(i k:Nat),ks[i]?=some k→∃r,rs[i]?=some (Ii (Jy ks 0) r)∧look k own=some r∧Z5p ks r=true):Has I (V.lend ks) (Bk rs 0) w:=by
 have key:∀i r',look i (Bk rs 0)=some r'→∃k r,ks[i]?=some k∧look k own=some r∧Z5p ks r=true∧r'=Ii (Jy ks 0) r:=fun i r' h=>by
  rw[Ai] at h;have hi:=(ac.1 h).1;have p:i < ks.length:=by omega
  obtain⟨r,c,j,s⟩:=hr i ks[i] (ab p);rw[h] at c;cases c;exact⟨_,r,ab p,j,s,rfl⟩
 refine⟨hH.mem,fun i r h=>?_,fun i r h=>?_,fun i r b h hf=>?_,fun i B r r' b h h' hf e=>?_⟩
 ·obtain⟨k,-,c,-⟩:=key i r h;exact(ac.1 c).1
 ·obtain⟨k,l,c,j,s,rfl⟩:=key i r h;exact(hH.each k l j).lendK s (by simp[Va.lend,Be c]) (by simp[Va.lend,Be c]) (by simp[Va.lend,Be c])
 ·obtain⟨k,l,c,j,-⟩:=key i r h;have hf:V.f k b:=by simpa [Va.lend,Be c] using hf
  exact hH.foot k l b j hf
 ·obtain⟨k,l,c,j,-⟩:=key i r h;obtain⟨k',A,q,z,-⟩:=key B r' h';have hf:V.f k b:=by simpa [Va.lend,Be c] using hf
  have e:V.f k' b:=by simpa [Va.lend,Be q] using e
  have:=hH.disj k k' l A b j z hf e;subst this;have hi:=(ac.1 c).1;exact(List.getElem?_inj hi hd).1 (by rw[c,q])
theorem Ze3 (p:∀k,in1 k g→k∈ks)(h:PRep I V g x):PRep I (V.lend ks) (Qs (Jy ks 0) g) x:=by
 cases g with
 | ptr k o=>exact Mj (I:=I) (g:=.ptr k o) p h
 | osl k=>exact Mj (I:=I) (g:=.osl k) p h
 | osv k a b c=>exact Mj (I:=I) (g:=.osv k a b c) p h
 | mp k=>exact Mj (I:=I) (g:=.mp k) p h
 | oel k i sz off =>
  obtain⟨q,h⟩:=(show k < V.n∧_ from h);obtain⟨H,C,B⟩:=Jz (j:=0) (p k rfl);have e:(look k (Jy ks 0)).getD k=H:=by rw[C];simp
  refine(show TRep1 I (V.lend ks) (.oel ((look k (Jy ks 0)).getD k) i sz off) x from ?_);rw[e];exact⟨(ac.1 B).1,by simpa [Va.lend,Be B] using h⟩
 | orv k i s o l c=>cases(show VRep I (.orv k i s o l c) x from h)
 | clo f a c =>
  obtain⟨D,F,cs,e,C,B⟩:=h;refine⟨?_,F,cs,e,Z8p (fun k g A q=>p k ⟨g,.inl A,q⟩) C,Z8p (fun k g A q=>p k ⟨g,.inr A,q⟩) B⟩;obtain⟨g,A,q⟩:=D;have hk2:C2 (Kg (Jy ks 0) g)=false:=by cases g<;>first | rfl | cases q
  exact⟨Kg (Jy ks 0) g,A.imp (fun h=>ba.2 ⟨g,h,rfl⟩) (fun h=>ba.2 ⟨g,h,rfl⟩),hk2⟩
 | v z=>exact h
 | tt=>exact h
 | ff=>exact h
 | un=>exact h
 | nl=>exact h
 | agg l=>exact h
 | sl l=>exact h
 | oag l =>
  obtain⟨⟨g,A,q⟩,cs,e,E⟩:=(show(∃g∈l,C2 g=false)∧TRep1 I V (.oag l) x from h);have hk2:C2 (Kg (Jy ks 0) g)=false:=by cases g<;>first | rfl | cases q
  exact(show(∃g∈l.map (Kg (Jy ks 0)),C2 g=false)∧TRep1 I (V.lend ks) (.oag (l.map (Kg (Jy ks 0)))) x from⟨⟨_,ba.2 ⟨g,A,rfl⟩,hk2⟩,cs,e,Z8p (fun k g A q=>p k ⟨g,A,q⟩) E⟩)
 | tup l=>cases(show VRep I (.tup l) x from h)
 | elp l o=>cases(show VRep I (.elp l o) x from h)
theorem W1 (own:Os):∀l:Os,Gath (fun ks K=>W4 own l ks K) (fun _=>False)
 | []=>Gath.none
 | (k,r)::l=>fun ks=>by
  have c:=W1 own l;have skip:(∀K:List Nat→Prop,W4 own ((k,r)::l) ks K=W4 own l ks K)→∃b:List Nat,(∀K:List Nat→Prop,W4 own ((k,r)::l) ks K=K b)∧(∀j,j∈ks→j∈b)∧(∀j,False→j∈b)∧(ks.Nodup→b.Nodup):=fun D=>by obtain⟨b,e,z,f,A⟩:=c ks;exact⟨b,fun K=>(D K).trans (e K),z,f,A⟩
  cases hl:look k own with
  | none=>exact skip fun K=>by show W4 own ((k,r)::l) ks K=_;conv=>lhs;unfold W4;rw[hl]
  | some q =>
   cases q with
   | fam ps =>
    obtain⟨C,a1,a2,-,B⟩:=I4 k ks;obtain⟨s,b1,b2,-,p⟩:=c C;refine⟨s,fun K=>?_,fun j h=>b2 j (a2 j h),fun j h=>h.elim,fun h=>p (B h)⟩;show W4 own ((k,r)::l) ks K=_;unfold W4;rw[hl];exact(a1 (fun r=>W4 own l r K)).trans (b1 K)
   | _=>exact skip fun K=>by show W4 own ((k,r)::l) ks K=_;conv=>lhs;unfold W4;rw[hl]
theorem Z6b (vs:Bool)(b:List G)(own:Os):Gath (fun ks K=>Zde vs b own ks K) (fun _=>False):=fun ks=>by
 cases hb:Zkn vs b ks with
 | false=>exact⟨ks,fun K=>by show Zde vs b own ks K=_;unfold Zde;rw[hb],fun j h=>h,fun j h=>h.elim,fun h=>h⟩
 | true =>
  obtain⟨f,e,c,l,p⟩:=W1 own own ks;exact⟨f,fun K=>by show Zde vs b own ks K=_;unfold Zde;rw[hb];exact e K,c,l,p⟩
def Hy (mo:Mo)(own:Os)(I:Imm)(V:Va)(w:World)(K:G→Os→Nat→Prop)(e:Ending)(w':World):Prop :=
 ∃x g own' I' V',e=.returned x∧K g own' V'.n∧Later own I V w own' I' V' w'∧TRep I' V' g x∧(mo.loose=false→∃ks:List Nat,mo.lends ks=true∧(∀k∈ks,k < V.n)∧(∀b,b < w.heap.size→(∀k∈ks,¬V.f k b)→w'.heap[b]?=w.heap[b]?)∧∀k,k < V.n→∀b,V'.f k b→V.f k b∨(ks≠[]∧((∃k'∈ks,V.f k' b)∨w.heap.size≤b)))
theorem Ws {f:FuncId}{mo:Mo}{l:List G}{vs:List Value}{B C:Prop}{K:G→Os→Nat→Prop}{Z:Prop}(h:Z1r P f mo l own V.n B C K)(hH:Has I V own w)(hg:PW (PRep I V) l vs)(hB:B→Z)(hC:C→Z)(hR:Ent P f∧Calls P f vs.toArray w (Hy mo own I V w K)→Z):Z:=by
 unfold Z1r at h;obtain⟨p,U,-,q3,q4⟩:=Zay l [];obtain⟨D,r1,r2,-,r4⟩:=Z6b mo.isVs l own p;obtain⟨ks,O,k2,-,k4⟩:=Z3m own 3 D;have hd:ks.Nodup:=k4 (r4 (q4 (by simp)));have k3:∀j,(∃g∈l,in1 j g)→j∈ks:=fun j h=>k2 j (r2 j (q3 j h));have U:∀K:List Nat→Prop,gkL l [] K=K p:=U;have r1:∀K:List Nat→Prop,Zde mo.isVs l own p K=K D:=r1;have O:∀K:List Nat→Prop,trK own 3 D K=K ks:=O;rw[U,r1,O] at h;have A:PW (PRep I (V.lend ks)) (l.map (Qs (Jy ks 0))) vs:=⟨by simpa using hg.1,fun j g u s q=>by rw[aj] at s;obtain⟨g0,E,rfl⟩:=ay.1 s;exact Ze3 (fun k F=>k3 k ⟨g0,ae E,F⟩) (hg.2 j g0 u E q)⟩
 have z:mo.lends ks=true→∀rs:List R,rs.length=ks.length→(∀(i k:Nat),ks[i]?=some k→∃r,rs[i]?=some (Ii (Jy ks 0) r)∧look k own=some r∧Z5p ks r=true)→FnO P f (l.map (Qs (Jy ks 0))) rs (fun g rs=>Z7f ks own V.n g rs K)→Ent P f∧Calls P f vs.toArray w (Hy mo own I V w K):=fun c rs X hr hF=>by
  refine⟨hF.1,(hF.2 I (V.lend ks) w vs (Z82 hH hd X hr) (by rw[X];rfl) A).mono fun e w' ⟨x,g,rs',I',V1,he,hq,hn,s,hx,hfro,hle⟩=>?_⟩;obtain⟨l1,l2⟩:=Zu hH hd X (fun i k F=>by obtain⟨r,s,q,-⟩:=hr i k F;exact⟨r,_,s,q⟩) hn s hfro hle;have lent:∀j r b,look j (Bk rs 0)=some r→(V.lend ks).f j b→∃k∈ks,V.f k b:=fun j r b h hf=>by
   rw[Ai] at h;have J:=(ac.1 h).1;have H:j < ks.length:=by omega
   have e:=Be (n:=0) (ab H:ks[j]?=some ks[j]);exact⟨ks[j],bm H,by simpa [Va.lend,e] using hf⟩
  refine⟨x,_,_,I',V.back ks V1,he,(by have:=Zda hq;rw[show V.n+(rs'.length - ks.length)=(V.back ks V1).n by show _=V.n+(V1.n - ks.length);rw[hn]] at this;exact this),l1,l2 g x hx.to_t,fun _=>⟨ks,c,fun k F=>?_,fun b L W=>(hfro.blk b L fun j r J hf=>?_).1,fun k F b L=>?_⟩⟩
  ·obtain⟨i,hi,e⟩:=cg.1 F;obtain⟨r,-,q,-⟩:=hr i k (by rw[ab hi,e]);exact hH.num k r q
  ·obtain⟨k,q,E⟩:=lent j r b J hf;exact W k q E
  ·rcases L with⟨i,hi,e,hf⟩ | ⟨-,hf⟩
   ·cases hks:ks with
    | nil=>subst hks;rw[E6] at e;omega
    | cons k0 p =>
     rw[←hks];refine .inr ⟨by rw[hks];simp,?_⟩;by_cases T:b < w.heap.size
     ·have Y:i < rs'.length:=by omega
      obtain⟨j,r',J,M⟩:=hfro.foot i _ b (by rw[Ai];exact ab Y) hf T;exact .inl (lent j r' b J M)
     ·exact .inr (by omega)
   ·exact .inl hf
 cases c:mo.lends ks with
 | false=>rw[c] at h;exact h.elim
 | true =>
  rw[c] at h;dsimp only at h;cases ks with
  | nil =>
   cases h with
   | lend h=>exact hB h
   | gh h=>exact hC h
   | pure h =>
    refine hR (z c [] rfl (fun i k h=>by simp at h) ?_);have e:l.map (Qs (Jy [] 0))=l:=by show l.map (Qs [])=l;rw[funext Vs];simp
    rw[e];exact h
  | cons k0 p =>
   obtain⟨rs,s,q,E⟩:=Zai h;cases s with
   | lend h=>exact hB h
   | gh h=>exact hC h
   | pure h=>exact hR (z c rs q E h)
theorem Zcq (h:TRep I V g x)(b:g.lent=true):PRep I V (Z61 g) x:=by
 cases g with
 | nl=>cases(show VRep I .nl x from h);exact .sl [] none 0 0 (fun _ _=>undef) (af _) (fun _=>rfl) (by simp) (fun i r h=>by simp at h) (fun i r j g h=>by simp at h)
 | tt=>cases(show VRep I .tt x from h);exact .v _
 | ff=>cases(show VRep I .ff x from h);exact .v _
 | oag l =>
  have key:∀{l:List G},Sy (fun g=>match C2 g with | true=>false | false=>true) l=true→∃g∈l,C2 g=false:=fun {l} b=>by
   induction l with
   | nil=>cases b
   | cons g l ih =>
    unfold Sy at b;cases hg:C2 g with
    | false=>exact⟨g,by simp,hg⟩
    | true =>
     rw[hg] at b;obtain⟨f,p,e⟩:=ih b;exact⟨f,by simp[p],e⟩
  exact⟨key b,h⟩
 | tup l=>cases b
 | orv k i s o l c=>cases b
 | elp l o=>cases b
 | _=>exact h
theorem Qg {f:FuncId}{mo:Mo}{b:List G}{vs:List Value}{C:Prop}{K:G→Os→Nat→Prop}(h:lendK P f mo b own V.n C K)(hH:Has I V own w)(l:PW (TRep I V) b vs)(p:C→Ent P f∧Calls P f vs.toArray w (Hy mo own I V w K)):Ent P f∧Calls P f vs.toArray w (Hy mo own I V w K):=by
 unfold lendK at h;split at h
 ·next s =>
  refine Ws h hH ⟨by simpa using l.1,fun j g u c q=>?_⟩ False.elim p id;rw[aj] at c;obtain⟨g0,e,rfl⟩:=ay.1 c;exact Zcq (l.2 j g0 u e q) (Ae s g0 (ae e))
 ·exact h.elim
theorem Y0 {k ty off l m:Nat}{cs:List G}(hH:Has I V own w)(s:look k own=some (.blk cs ty))(T:l≤m∧off+l≤cs.length)(L:B4 Gx ((cs.drop off).take l)=true):∃I':Imm,Mem I' w∧I.le I'∧(∀b o,b≠V.b k→I' b o=I b o)∧VRep I' (.sl (((cs.drop off).take l).map fun g=>[g])) (.slice (some ⟨V.b k,off,none⟩) l m):=by
 obtain⟨f,M,C,H⟩:=N1 hH s;have hf:=(hH.each k _ s).1;have z:=(hH.foot k _ (V.b k) s ((hf _).2 rfl)).2;have B:PW (CRep I V) ((cs.drop off).take l) ((f.drop off).take l):=by
  refine⟨by have:=C.1;simp;omega,fun j g u p q=>C.2 (off+j) g u (Rm p) ?_⟩;rw[bj] at q;split at q
  ·rwa [bw] at q
  ·cases q
 obtain⟨F,-⟩:=Lu L B;refine⟨fun b o=>if b=V.b k then f[o]? else I b o,fun b o x c=>?_,fun b o x c=>?_,fun b o E=>db E,?_⟩
 ·change (if b=V.b k then _ else I b o)=_ at c
  split at c
  ·next e=>rw[e,H];exact c
  ·exact hH.mem b o x c
 ·show(if b=V.b k then _ else I b o)=_;rw[db (fun e=>by rw[e,z o] at c;cases c)];exact c
 ·have A:(((cs.drop off).take l).map fun g=>[g]).length=l:=by simp;omega
  conv=>rhs;rw[←A]
  refine .sl _ (some ⟨V.b k,off,none⟩) _ 1 (fun i _=>f.getD (off+i) undef) (by omega) (fun e=>by cases e) (fun r hr=>?_) (fun i r hr=>⟨V.b k,off,rfl,fun j O=>?_⟩) fun i r j g hr p=>?_
  ·obtain⟨g,-,rfl⟩:=ba.1 hr;rfl
  ·have hi:i < l:=by have:=(ac.1 hr).1;omega
   have J:off+i * 1+j=off+i:=by omega
   rw[J];show(if V.b k=V.b k then f[off+i]? else _)=_;rw[dc rfl];have:off+i < f.length:=by have:=C.1;omega
   simp[this]
  ·rw[aj] at hr;obtain⟨g0,D,rfl⟩:=ay.1 hr;rw[F,aj] at D;obtain⟨u,h,rfl⟩:=ay.1 D;have h:f[off+i]?=some u:=by
    rw[bj] at h;split at h
    ·rwa [bw] at h
    ·cases h
   cases j with
   | zero =>
    simp at p;subst p;simp only[List.getD,h,Option.getD_some];exact .v u
   | succ j=>simp at p
theorem Za2 {g:G}{x:Value}(hH:Has I V own w)(h:TRep I V g x):TRep I V (Z52 own g) x:=by
 have c:∀{g:G} {x:Value},CRep I V g x→CRep I V (F5 own g) x:=fun {g x} h=>Ml hH h;cases g with
 | osl k=>exact .of_c (c (g:=.osl k) h)
 | osv k sz lo hi=>exact .of_c (c (g:=.osv k sz lo hi) h)
 | oag l =>
  unfold Z52;dsimp only;split
  ·next f =>
   obtain⟨cs,rfl,e⟩:=(show TRep1 I V (.oag l) x from h);refine .of_v (.agg _ cs (by simpa using e.1) fun j g u b s=>?_);have p:=Ae f g (ae b);rw[aj] at b;obtain⟨g0,q,rfl⟩:=ay.1 b;exact(c (e.2 j g0 u q s)).to_v p
  ·exact h
 | _=>exact h
theorem Ps {f:FuncId}{J:List G}{K:G→Os→Nat→Prop}{n:Nat}(h:Z0e P f own n K J)(hH:Has I V own w):∀{vs:List Value},V.n=n→PW (TRep I V) J vs→Ent P f∧Calls P f vs.toArray w fun e w'=>∃x g own' I' V',e=.returned x∧K g own' V'.n∧Later own I V w own' I' V' w'∧TRep I' V' g x:=by
 induction h with
 | same h =>
  intro vs l q;subst l;obtain⟨O,X⟩:=Qg h hH q False.elim;refine⟨O,X.mono fun e w' ⟨x,g,own',I',V',he,C,s,p,hm⟩=>?_⟩;obtain⟨c,F,V2,E,A⟩:=Po C rfl s.has;exact⟨x,g,c,F,V2,he,E,s.trans A,p.mono A.fro.mono A.va⟩
 | see _ ih =>
  intro vs l q;refine ih l ⟨by simpa using q.1,fun j g u L U=>?_⟩;rw[aj] at L;obtain⟨g0,C,rfl⟩:=ay.1 L;exact Za2 hH (q.2 j g0 u C U)
 | raw j k hj _ ih =>
  intro vs l q;refine ih l ?_;obtain⟨v,D,rfl,H,l⟩:=q.uncons;have e:=B0 H;subst e;obtain⟨-,z,B⟩:=hH.each j _ hj;exact .cons (.of_c (g:=.ptr k _) ⟨z,by rw[B]⟩) l
 | snap cs ty u E s H hf h =>
  intro vs l q;subst l;obtain⟨v,D,rfl,p,l⟩:=q.uncons;obtain rfl:=l.of_nil;obtain⟨F,W,m2,Z,T⟩:=Y0 hH E s H;obtain⟨z,b,Y,B,p⟩:=p;obtain⟨rfl,rfl⟩:=(show b=_∧Y=0 from B);rw[Nat.zero_mul,cb,cb] at p;subst p;refine⟨hf.1,(hf.2 F w _ W (.cons T .nil)).mono fun e w' ⟨x,g,I',he,hq,hm,p,_,_,hB⟩=>?_⟩;subst hq;cases(show VRep I' (.v u) x from p);have s:Later own I V w own I V w':=G6 hH (hH.mem.keep fun b _ _ p=>hB.block b (hH.mem.lt p)) (.refl _) (fun _ _ _=>rfl) hB;obtain⟨c,M,V2,hk2,A⟩:=Po h rfl s.has;exact⟨_,_,c,M,V2,he,hk2,s.trans A,.of_v (.v _)⟩
open Classical in
theorem Z6j (hH:Has I V own w):∃M:Imm,Mem M w∧∀g x,TRep I V g x→(Z02 own g).pure=true→VRep M (Z02 own g) x:=by
 refine⟨fun b o=>if ∃k rows e sz,look k own=some (.slc rows e sz)∧V.f k b then w.cell? ⟨b,o,none⟩ else I b o,fun b o x C=>?_,fun g x h B=>?_⟩
 ·change (if _ then _ else I b o)=_ at C
  split at C
  ·exact C
  ·exact hH.mem b o x C
 have q:I.le (fun b o=>if ∃k rows e sz,look k own=some (.slc rows e sz)∧V.f k b then w.cell? ⟨b,o,none⟩ else I b o):=fun b o x C=>by
  show(if _ then _ else I b o)=_;rw[db]
  ·exact C
  ·rintro⟨k,rows,e,sz,F,O⟩;have:=(hH.foot k _ b F O).2 o;rw[C] at this;cases this
 cases g with
 | osl k =>
  obtain⟨hkn,rfl⟩:=(show k < V.n∧x=V.s k from h);unfold Z02 at B⊢;dsimp only at B⊢;split at B
  ·next rows e sz H =>
   obtain⟨hf,rs,⟨h0,F⟩,O,h3,h4,h5,h6⟩:=hH.each k _ H;rcases F with⟨D,hr0⟩ | ⟨g,cap,cur,D,-,hg,hn,hm,hc,ht⟩
   ·have hr:rows=[]:=am hr0;subst hr;rw[D];exact .sl [] none 0 sz (fun _ _=>undef) (af _) (fun _=>rfl) (by simp) (fun i r h=>by simp at h) (fun i r j g h=>by simp at h)
   ·obtain⟨c,T,X,g2,W,U,g5,-,-,-,-,-,Y⟩:=Nu hH H D;have J:V.f k g:=(hf g).2 (by rw[D];rfl);rw[D];refine .sl rows (some ⟨g,0,none⟩) cap sz (fun i j=>((c[i]?.getD [])[j]?).getD undef) hn (fun e=>by cases e) (fun r hr=>?_) (fun i r hr=>⟨g,0,rfl,fun j Z=>?_⟩) fun i r j L hr E=>?_
    ·obtain⟨i,hi,e⟩:=cg.1 hr;have p:i < c.length:=by omega
     have B:=W i r c[i] (by rw[ab hi,e]) (ab p);rw[B.1];exact U _ (bm p)
    ·have hi:=(ac.1 hr).1;have p:i < c.length:=by omega
     have A:j < c[i].length:=by rw[U _ (bm p)];exact Z
     show(if _ then _ else _)=_;rw[dc ⟨k,rows,e,sz,H,J⟩,ab p];show _=some ((c[i][j]?).getD undef);rw[ab A];have:=Y i c[i] j c[i][j] (ab p) (ab A);rw[cb];exact this
    ·have hi:=(ac.1 hr).1;have p:i < c.length:=by omega
     have B:=W i r c[i] hr (ab p);have A:j < c[i].length:=by rw[←B.1];exact(ac.1 E).1
     have:=B.2 j L c[i][j] E (ab A);rw[ab p];show VRep _ L ((c[i][j]?).getD undef);rw[ab A];exact this.mono q
  ·cases B
 | v z=>exact VRep.mono (show VRep I (.v z) x from h) q
 | un=>exact VRep.mono (show VRep I .un x from h) q
 | agg l=>exact VRep.mono (show VRep I (.agg l) x from h) q
 | sl l=>exact VRep.mono (show VRep I (.sl l) x from h) q
 | _=>cases B
theorem Z1i {f:FuncId}{mo:Mo}{E:List G}{vs:List Value}{K:G→Os→Nat→Prop}(h:ghK P f mo E own V.n K)(hH:Has I V own w)(B:PW (TRep I V) E vs):Ent P f∧Calls P f vs.toArray w (Hy mo own I V w K):=by
 cases mo with
 | row =>
  obtain⟨C,Y,V1,D,q⟩:=Po h rfl hH;obtain⟨F,M⟩:=Ps D q.has rfl (B.mono fun _ _ h=>h.mono q.fro.mono q.va);exact⟨F,M.mono fun e w' ⟨x,g,own2,s,V2,he,l,p,c⟩=>⟨x,g,own2,s,V2,he,l,q.trans p,c,fun z=>by cases z⟩⟩
 | late =>
  obtain⟨C,Y,V1,D,q⟩:=Po h rfl hH;obtain⟨F,M⟩:=Ps D q.has rfl (B.mono fun _ _ h=>h.mono q.fro.mono q.va);exact⟨F,M.mono fun e w' ⟨x,g,own2,s,V2,he,l,p,c⟩=>⟨x,g,own2,s,V2,he,l,q.trans p,c,fun z=>by cases z⟩⟩
 | new =>
  cases(show EvSn P f own V.n K E from h) with
  | snap cs ty u l p hv hf hK =>
   obtain⟨v,W,rfl,c,hn⟩:=B.uncons;obtain rfl:=hn.of_nil;obtain⟨s,L,U,m3,X⟩:=Y0 hH l p hv;obtain⟨Z,b,q0,A,c⟩:=c;obtain⟨rfl,rfl⟩:=(show b=_∧q0=0 from A);rw[Nat.zero_mul,cb,cb] at c;subst c;refine⟨hf.1,(hf.2 s w _ L (.cons X .nil)).mono fun e w' ⟨x,g,I',he,hq,hm,c,_,_,hB⟩=>?_⟩;subst hq;cases(show VRep I' (.v u) x from c);have p:Later own I V w own I V w':=G6 hH (hH.mem.keep fun b _ _ c=>hB.block b (hH.mem.lt c)) (.refl _) (fun _ _ _=>rfl) hB;exact⟨_,_,own,I,V,he,hK,p,.of_v (.v _),fun _=>⟨[],rfl,fun k l=>(by cases l),fun b A _=>hB.block b A,fun k _ b hf=>.inl hf⟩⟩
  | peek hp hf =>
   obtain⟨s,L,U⟩:=Z6j hH;have H:PW (VRep s) (E.map (Z02 own)) vs:=⟨by simpa using B.1,fun j g u O D=>by rw[aj] at O;obtain⟨g0,T,rfl⟩:=ay.1 O;exact U g0 u (B.2 j g0 u T D) (Ae hp _ (ba.2 ⟨g0,ae T,rfl⟩))⟩
   refine⟨hf.1,(hf.2 s w _ L H).mono fun e w' ⟨x,g,I',he,⟨hq,hK⟩,hm,c,_,_,hB⟩=>?_⟩;have p:Later own I V w own I V w':=G6 hH (hH.mem.keep fun b _ _ c=>hB.block b (hH.mem.lt c)) (.refl _) (fun _ _ _=>rfl) hB;have J:TRep I V g x:=by
    cases g with
    | v u =>
     cases(show VRep I' (.v u) x from c);exact .of_v (.v _)
    | _=>cases hq
   exact⟨_,_,own,I,V,he,hK,p,J,fun _=>⟨[],rfl,fun k l=>(by cases l),fun b A _=>hB.block b A,fun k _ b hf=>.inl hf⟩⟩
 | _=>exact h.elim
theorem Z8h {f:FuncId}{mo:Mo}{B p q:List G}{vs:List Value}{K:G→Os→Nat→Prop}(h:Pz P f mo B p q own V.n K)(hH:Has I V own w)(s:PW (TRep I V) (p++(B++q)) vs):Ent P f∧Calls P f vs.toArray w (Hy mo own I V w K):=by
 unfold Pz at h;split at h
 ·exact Z1i h hH s
 split at h
 ·exact Qg h hH s fun E=>Z1i E hH s
 ·obtain⟨gs',J,U,V1,D,c,A,C⟩:=Z0j h s hH;have D:Z1r P f mo gs' J V1.n (lendK P f mo (p++(B++q)) own V.n False K) (ghK P f mo (p++(B++q)) own V.n K) K:=by rw[c.1];exact D
  refine Ws D A.has C (fun z=>Qg z hH s False.elim) (fun E=>Z1i E hH s) fun⟨k1,k2⟩=>?_;refine⟨k1,k2.mono fun e w' ⟨x,g,own',I',V',he,j,hl,hx,hm⟩=>⟨x,g,own',I',V',he,j,A.trans hl,hx,fun F=>?_⟩⟩;obtain⟨ks,O,L,T,M⟩:=hm F;have l:∀k∈ks,k < V.n:=fun k j=>by have:=L k j;omega
  refine⟨ks,O,l,fun b z H=>T b z fun k j hf=>H k j (c.2 k (l k j) b hf),fun k j b z=>?_⟩;rcases M k (by omega) b z with h | ⟨h,⟨k',h2,h3⟩ | h3⟩
  ·exact .inl (c.2 k j b h)
  ·exact .inr ⟨h,.inl ⟨k',h2,c.2 k' (l k' h2) b h3⟩⟩
  ·exact .inr ⟨h,.inr h3⟩
theorem Ry {f:FuncId}(j:Ent P f)(w:World)(args:Array Value):(callFunc f args).run P w=.ok (.enter f args) w:=by
 obtain⟨fn,hf,h,b⟩:=j;have e:¬fn.name="runtime.NumGoroutine" := by simpa using h
 cases hb:fn.body with
 | none=>rw[hb] at b;cases b
 | some c=>simp[callFunc,hf,e,hb]
def Zbk (P:Program)(t:Ts)(own:Os)(n:Nat)(mo:Mo)(cl:Call)(d:Option Tmp)(fo:Operand)(K:Ts→Os→Nat→Prop):Prop:=match fo with
 | .func f=>evs t own cl.args.toList fun b=>Pz P f mo b [] [] own n fun g w n=>K (put d g t) w n
 | .tmp j=>match look j t with
  | some (.clo f p q)=>evs t own cl.args.toList fun b=>Pz P f mo b p q own n fun g w n=>K (put d g t) w n
  | some (.v (.func (.func f) p q))=>match p.toList,q.toList with
   | [],[]=>evs t own cl.args.toList fun b=>Pz P f mo b [] [] own n fun g w n=>K (put d g t) w n
   | _,_=>False
  | _=>False
 | _=>False
theorem Z0x {mo:Mo}{cl:Call}{K:Ts→Os→Nat→Prop}{d:Option Tmp}{fo:Operand}(ha:ARep N I V a t)(hH:Has I V own w)(h:Zbk P t own n mo cl d fo K)(C:cl.callee=.value fo):∃(f:FuncId) (c p q:List G) (vs:List Value),Pz P f mo c p q own n (fun g w n=>K (put d g t) w n)∧PW (TRep I V) (p++(c++q)) vs∧∀ty (u:World),(do let d ←resolve a.eval cl ty;invoke d.target d.args:Sem Next).run P u=(callFunc f vs.toArray).run P u:=by
 unfold Zbk at h;obtain⟨callee,args,M⟩:=cl;dsimp only at C;subst C;have e:∀l:Array Operand,(l.toList.map a.eval).toArray=l.map a.eval:=fun l=>by cases l;simp
 cases fo with
 | func f =>
  dsimp only at h;obtain⟨c,A,s⟩:=Nz h ha hH;refine⟨f,c,[],[],_,A,by simpa using s,fun ty u=>?_⟩;have b:a.eval (.func f)=.func (.func f) #[] #[]:=rfl;simp[resolve,Deferred.ofValue,b,invoke,e]
 | tmp d =>
  dsimp only at h;cases hl:look d t with
  | none=>rw[hl] at h;exact h.elim
  | some g =>
   rw[hl] at h;obtain⟨z,L,B⟩:=ha.get _ _ hl;have b:a.eval (.tmp d)=z:=by simp[Act.eval,L]
   cases g with
   | clo f p q =>
    obtain⟨c,A,s⟩:=Nz h ha hH;obtain⟨-,U,cs,rfl,F,T⟩:=(show TRep1 I V (.clo f p q) z from B);refine⟨f,c,p,q,U++(args.toList.map a.eval++cs),A,(F.mono fun _ _ h=>.of_c h).append (s.append (T.mono fun _ _ h=>.of_c h)),fun ty u=>?_⟩;simp[resolve,Deferred.ofValue,b,invoke,←e]
   | v z' =>
    have O:=B0 B;subst O;split at h
    ·next f p q j =>
     cases j
    ·next f p q j =>
     cases j;split at h
     ·next D E =>
      obtain⟨c,A,s⟩:=Nz h ha hH;refine⟨f,c,[],[],_,A,by simpa using s,fun ty u=>?_⟩;have H:p=#[]:=by cases p;simp at D;simp[D]
      have J:q=#[]:=by cases q;simp at E;simp[E]
      subst H J;simp[resolve,Deferred.ofValue,b,invoke,e]
     ·exact h.elim
    ·exact h.elim
   | _=>exact h.elim
 | _=>exact False.elim h
variable {XL:List Nat} {K:Ts→Os→Nat→Prop} {next:Act→World→Prop} {Q:Exit→Act→World→Prop}
theorem Oz {mo:Mo}{cl:Call}{fo:Operand}(D:o.op=.call cl)(j:cl.callee=.value fo)(hH:Has I V own w)(ha:ARep N I V a t)(hd:∀i,o.dst=some i→i < N)(h:Zbk P t own V.n mo cl o.dst fo K)
  (B:∀t own' I' V' l w',K t own' V'.n→Later own I V w own' I' V' w'→(mo.loose=false→∃ks:List Nat,mo.lends ks=true∧(∀k∈ks,k < V.n)∧(∀b,b < w.heap.size→(∀k∈ks,¬V.f k b)→w'.heap[b]?=w.heap[b]?)∧∀k,k < V.n→∀b,V'.f k b→V.f k b∨(ks≠[]∧((∃k'∈ks,V.f k' b)∨w.heap.size≤b)))→ARep N I' V' l t→next l w'):o.wp P a w next Q:=by
 obtain⟨f,E,p,q,vs,s,A,c⟩:=Z0x ha hH h j;obtain⟨z,C⟩:=Z8h s hH A;have c:(execOp a.eval o).run P w=.ok (.enter f vs.toArray) w:=by have:=(c o.type w).trans (Ry z w vs.toArray);simpa only[execOp,D] using this
 unfold Oper.wp;rw[c,Oper.upon_enter];refine C.mono fun e w' ⟨x,g,own',I',V',he,hk,hl,hx,hm⟩=>?_;subst he;exact B _ _ _ _ _ _ hk hl hm ((ha.mono hl.fro.mono hl.va).put hd hx)
theorem FnV.toO {f:FuncId}{s:List G}{Q:G→Prop}(h:FnV P f s Q):FnO P f s [] fun g rs=>rs=[]∧Q g :=
 ⟨h.1,fun I V w vs hH B p=>by
  have D:PW (VRep I) s vs:=p.mono fun g x h=>by
   have B:V.n=0:=B;cases g with
   | ptr k o=>have:=h.1;omega
   | osl k=>have:=h.1;omega
   | osv k a b c=>have:=h.1;omega
   | oel k a b c=>have:=h.1;omega
   | orv k a b c d e=>cases(show VRep I (.orv k a b c d e) x from h)
   | mp k=>have:=h.1;omega
   | clo f a c =>
    obtain⟨⟨g,q,A⟩,F,cs,-,H,J⟩:=h;have key:∀{l:List G} {F:List Value},g∈l→PW (CRep I V) l F→False:=fun C p=>by
     obtain⟨j,z,e⟩:=cg.1 C;obtain⟨u,-,hr⟩:=p.get (by rw[ab z,e]);cases g with
     | ptr k o=>have:=hr.1;omega
     | osl k=>have:=hr.1;omega
     | osv k a b c=>have:=hr.1;omega
     | oel k a b c=>exact hr
     | orv k a b c d e=>exact hr
     | mp k=>have:=hr.1;omega
     | _=>cases A
    rcases q with q | q
    ·exact(key q H).elim
    ·exact(key q J).elim
   | oag l =>
    obtain⟨⟨g,q,A⟩,cs,e,p⟩:=(show(∃g∈l,C2 g=false)∧TRep1 I V (.oag l) x from h);exfalso;obtain⟨j,z,e⟩:=cg.1 q;obtain⟨u,-,hr⟩:=p.get (by rw[ab z,e]);cases g with
    | ptr k o=>have:=hr.1;omega
    | osl k=>have:=hr.1;omega
    | osv k a b c=>have:=hr.1;omega
    | oel k a b c=>exact hr
    | orv k a b c d e=>exact hr
    | mp k=>have:=hr.1;omega
    | _=>cases A
   | _=>exact h
  refine(h.2 I w vs hH.mem D).mono fun e w' ⟨x,g,I',he,hq,C,hx,hle,hI,hB⟩=>⟨x,g,[],I',V,he,⟨rfl,hq⟩,B,⟨C,fun k r h=>(by cases h),fun k r h=>(by cases h),fun k r b h=>(by cases h),fun k k' r r' b h=>(by cases h)⟩,?_,⟨hB.os,hB.tape,hB.output,hB.size,fun b E _=>⟨hB.block b E,fun o=>hI b o E⟩,hle,fun k r b h=>(by cases h)⟩,.refl _⟩;cases g with
  | tup l=>obtain⟨cs,e,p⟩:=hx;exact⟨cs,e,p.mono fun _ _ h=>.of_v h⟩
  | oag l=>cases(show VRep I' (.oag l) x from hx)
  | _=>exact PRep.of_v (V:=V) hx⟩
theorem FnO.mono {f:FuncId}{c:List G}{rs:List R}{Q b:G→List R→Prop}(h:FnO P f c rs Q)(j:∀g rs,Q g rs→b g rs):FnO P f c rs b :=
 ⟨h.1,fun I V w vs l q p=>(h.2 I V w vs l q p).mono fun _ _ ⟨x,g,rs',I',V',e,k1,k2⟩=>⟨x,g,rs',I',V',e,j _ _ k1,k2⟩⟩
theorem FnV.cal {f:FuncId}{b:List G}{Q:G→Prop}{K:G→Os→Nat→Prop}{B C:Prop}(h:FnV P f b Q)(c:∀g,Q g→Z7f [] own n g [] K):EvCall (FnO P f b [] fun g rs=>Z7f [] own n g rs K) B C :=
 .pure (h.toO.mono fun g rs ⟨e,hq⟩=>by rw[e];exact c g hq)
theorem FnV.con {f:FuncId}{b:List G}{g:G}{x:Value}{K:G→Prop}(h:FnV P f b fun q=>q=g)(e:Z9z g=some x)(c:K g):Ze4 P f b K:=⟨g,x,e,h,c⟩
theorem FnO.cal {f:FuncId}{b:List G}{rs:List R}{Q:G→List R→Prop}{K:G→Os→Nat→Prop}{B C:Prop}(h:FnO P f b rs Q)(c:∀g rs,Q g rs→Z7f ks own n g rs K):EvCall (FnO P f b rs fun g rs=>Z7f ks own n g rs K) B C :=
 .pure (h.mono c)
end
section
variable {κ:Type} {I:Imm} {u:G} {v:Value}
theorem Al.len:∀{l:List (κ × G)} {L:List (κ × Value)},Al I l L→L.length=l.length
 | [],[],_=>rfl
 | _::_,_::_,h=>by simp[Al.len h.2.2]
theorem Al.app (k:κ):∀{l:List (κ × G)} {L:List (κ × Value)},Al I l L→VRep I u v→Al I (l++[(k,u)]) (L++[(k,v)])
 | [],[],_,h=>⟨rfl,h,trivial⟩
 | _::_,_::_,h,h'=>⟨h.1,h.2.1,Al.app k h.2.2 h'⟩
variable [DecidableEq κ]
theorem Al.get (k:κ):∀{l:List (κ × G)} {L:List (κ × Value)},Al I l L→(Z6u l k=none→Z6u L k=none)∧∀g,Z6u l k=some g→∃v,Z6u L k=some v∧VRep I g v
 | [],[],_=>⟨fun _=>rfl,fun g h=>by cases h⟩
 | (j,g0)::l,(j',v0)::L,h=>by
  obtain⟨e,f,q⟩:=h;have e:j'=j:=e;subst e;obtain⟨c,p⟩:=Al.get k q;rw[R1,R1];by_cases b:j'=k
  ·subst b;simp only[if_pos];exact⟨fun h=>(by cases h),fun g h=>(by cases h;exact⟨_,rfl,f⟩)⟩
  ·simp only[if_neg b];exact⟨c,p⟩
theorem Al.upd (k:κ):∀{l:List (κ × G)} {L:List (κ × Value)},Al I l L→VRep I u v→Al I (l.map fun p=>if p.1=k then(k,u) else p) (L.map fun p=>if p.1=k then(k,v) else p)
 | [],[],_,_=>trivial
 | p::l,q::L,h,h'=>by
  have b:=Al.upd k h.2.2 h';rw[ck,ck];by_cases e:p.1=k
  ·rw[dc e,dc (h.1.trans e)];exact⟨rfl,h',b⟩
  ·rw[db e,db (fun c=>e (h.1.symm.trans c))];exact⟨h.1,h.2.1,b⟩
theorem Al.put (k:κ){l:List (κ × G)}{L:List (κ × Value)}(h:Al I l L)(h':VRep I u v):Al I (Zji l k u) (Zji L k v):=by
 obtain⟨b,c⟩:=h.get k;unfold Zji;cases hg:Z6u l k with
 | none=>rw[b hg];exact h.app k h'
 | some g =>
  obtain⟨x,e,-⟩:=c g hg;rw[e];exact h.upd k h'
end
section
variable {P:Program} {tb:List (Nat × TI)} {N n:Nat} {I I' I0:Imm} {V V' V0:Va} {a:Act} {t:Ts} {own own' own0:Os} {w w' w0:World} {g:G} {x y:Value} {d:Option Tmp}
variable {XL:List Nat} {S:World→Prop} {K:Ts→Os→Nat→Prop} {next:Act→World→Prop} {Q:Exit→Act→World→Prop} {o:Oper} {r:R}
theorem Zdb {k:Nat}(h:TRep I V (.mp k) y):k < V.n∧y=.map (some (V.b k)):=h
theorem MapR.lt {κ:Type}{b:κ→Value}{m:Nat}{l:List (κ × G)}(h:MapR I w m b l):m < w.heap.size:=by obtain⟨L,c,-⟩:=h;exact c.lt
theorem Zhn (hT:∀t i,look t tb=some i→TIok P t i)(C:∀k∈XL,∃r,look k own=some r)(Z:∀u,S u→Agree V XL w u)(hH:Has I V own w)(ha:ARep N I V a t){ty:TypeId}{z:Operand}{O:TI}{str:Bool}{e:TypeId}(hl:look ty tb=some O)(D:O.kd=.map str e)(ho:o.op=.call {callee:=.builtin .len,args:=#[z],argTypes:=#[ty]})
  (h:ev t own z fun g=>match g with
        | .mp k=>match look k own,Gc k XL with
         | some (.mpS l),false=>K (put o.dst (.v (.int .i64 l.length)) t) own V.n
         | some (.mpI l),false=>K (put o.dst (.v (.int .i64 l.length)) t) own V.n
         | _,_=>False
        | _=>False):QOk S P I V own w a t o K:=by
 have A:=(hT _ _ hl).kd;rw[D] at A;obtain⟨kt,U,-⟩:=A;obtain⟨g,J,X⟩:=B8 h ha hH;clear h;have h:=J;clear J;split at h
 ·next k =>
  obtain⟨hkn,W⟩:=Zdb X;have fin:∀{κ:Type} {M:κ→Value} {l:List (κ × G)},[DecidableEq κ]→MapR I w (V.b k) M l→V.f k (V.b k)→(∃r,look k own=some r)→Gc k XL=false→K (put o.dst (.v (.int .i64 l.length)) t) own V.n→QOk S P I V own w a t o K:=fun {κ M l _} T hf ⟨r,hr⟩ p A=>by
   have F:k ∉ XL:=fun h=>by rw[Cr.2 h] at p;cases p
   have E:=T.lt;obtain⟨L,hB,hA⟩:=T;refine⟨_,_,A,.of_v (.v _),fun u Y=>?_⟩;have j:u.heap[V.b k]?=w.heap[V.b k]?:=Z u Y _ E fun k' q B=>by obtain⟨r',H⟩:=C k' q;exact F (hH.disj k k' r r' _ hr H hf B ▸ q)
   have c:=Vb (P:=P) (ty:=o.type) U (hB.of_block j);rw[hA.len] at c;simp[execOp,ho,resolve,invoke,builtin,W,c]
  split at h
  ·next l hr p =>
   have s:=hH.each k _ hr;exact fin s.2 ((s.1 _).2 rfl) ⟨_,hr⟩ p h
  ·next l hr p =>
   have s:=hH.each k _ hr;exact fin s.2 ((s.1 _).2 rfl) ⟨_,hr⟩ p h
  ·exact h.elim
 ·exact h.elim
theorem Zd (hH:Has I V own w)(ha:ARep N I V a t){f:FuncId}{p q:Array Operand}(U:o.op=.makeFunc (.func f) p q)(h:evs t own p.toList fun a=>evs t own q.toList fun c=>match B4 G.cap a,B4 G.cap c with
  | true,true=>match B4 C2 a,B4 C2 c with
   | true,true=>match a,c with
    | [],[]=>K (put o.dst (.v (.func (.func f) #[] #[])) t) own V.n
    | _,_=>False
   | _,_=>K (put o.dst (.clo f a c) t) own V.n
  | _,_=>False):QOk S P I V own w a t o K:=by
 obtain⟨a1,h,s⟩:=Nz h ha hH;obtain⟨E,h,z⟩:=Nz h ha hH;have e:∀l:Array Operand,(l.toList.map a.eval).toArray=l.map a.eval:=fun l=>by cases l;simp
 have run:∀u:World,(execOp a.eval o).run P u=.ok (.value (.func (.func f) (p.toList.map a.eval).toArray (q.toList.map a.eval).toArray)) u:=fun u=>by simp only[execOp,U,Instr.makeFunc,Sem.run_bind,Sem.run_pure,Result.andThen_ok,e]
 have cap:∀{l:List G} {J:List Value},B4 G.cap l=true→PW (TRep I V) l J→PW (CRep I V) l J:=fun B F=>⟨F.1,fun j g u b T=>by have O:=F.2 j g u b T;have B:=Ae B g (ae b);cases g<;>first | exact O | cases B⟩
 have H:∀{l:List G},B4 C2 l=false→∃g∈l,C2 g=false:=fun {l}=>by
  induction l with
  | nil=>intro h;cases h
  | cons g l ih =>
   intro h;unfold B4 at h;cases b:C2 g with
   | false=>exact⟨g,by simp,b⟩
   | true =>
    rw[b] at h;obtain⟨W,s,z⟩:=ih h;exact⟨W,by simp[s],z⟩
 split at h
 ·next hc1 hc2 =>
  split at h
  ·split at h
   ·have L:p.toList=[]:=by have:=s.of_nil;simpa using this
    have M:q.toList=[]:=by have:=z.of_nil;simpa using this
    refine⟨_,_,h,.of_v (.v _),fun u _=>?_⟩;rw[run u,L,M];rfl
   ·exact h.elim
  ·next D =>
   refine⟨_,_,h,.of_1 (⟨?_,_,_,rfl,cap hc1 s,cap hc2 z⟩:TRep1 I V (.clo f a1 E) _),fun u _=>run u⟩;cases hn1:B4 C2 a1 with
   | false=>obtain⟨g,A,C⟩:=H hn1;exact⟨g,.inl A,C⟩
   | true =>
    cases hn2:B4 C2 E with
    | false=>obtain⟨g,A,C⟩:=H hn2;exact⟨g,.inr A,C⟩
    | true=>exact(D hn1 hn2).elim
 ·exact h.elim
theorem Al.keys {κ:Type}:∀{l:List (κ × G)} {L:List (κ × Value)},Al I l L→L.map (·.1)=l.map (·.1)
 | [],[],_=>rfl
 | p::l,q::L,h=>by simp[h.1,Al.keys h.2.2]
theorem Al.mem {κ:Type}{k:κ}{v:Value}:∀{l:List (κ × G)} {L:List (κ × Value)},Al I l L→(k,v)∈L→∃g,(k,g)∈l∧VRep I g v
 | [],[],_,b=>by cases b
 | p::l,q::L,h,b=>by
  rcases bi.1 b with e | b
  ·subst e;exact⟨p.2,by rw[show k=p.1 from h.1];simp,h.2.1⟩
  ·obtain⟨g,c,f⟩:=Al.mem h.2.2 b;exact⟨g,by simp[c],f⟩
theorem Zje (hT:∀t i,look t tb=some i→TIok P t i)(hH:Has I V own w)(ha:ARep N I V a t){ty:TypeId}{z:Operand}(U:o.op=.sliceToArrayPointer ty z)(h:match look ty tb with
  | some ⟨_,_,none,_,false,_,.arr m _ 1⟩=>ev t own z fun g=>match g with
   | .sl rows=>Zi2 rows m fun l=>K (put o.dst (.elp l 0) t) own V.n
   | _=>False
  | _=>False):QOk S P I V own w a t o K:=by
 split at h
 ·next ag ze fl ik m e L =>
  obtain⟨g,s,B⟩:=B8 h ha hH;clear h;obtain⟨T,-⟩:=(hT _ _ L).kd;split at s
  ·next rows =>
   obtain⟨H,r,Y,F,s⟩:=s;have E:=(show VRep I (.sl rows) (a.eval z) from B);generalize D:a.eval z=X at E;cases E with
   | sl _ A c sz0 u hc hA hz hh huu =>
    have q:m≤rows.length:=by have:=congrArg List.length F;simp at this;omega
    have row:∀j (p:j < m),rows[j]?=some [r[j]'(by omega)]:=fun j p=>by
     have J:(rows.take m)[j]?=rows[j]?:=by rw[bj,dc p]
     rw[←J,F,aj,ab (by omega)];rfl
    obtain⟨b,O,rfl,hI⟩:=hh 0 _ (row 0 H);have M:sz0=1:=(hz _ (ae (row 0 H))).symm;subst M;refine⟨_,_,s,(.of_1 (g:=.elp _ 0) ⟨b,O,by rw[Nat.add_zero],fun j g p=>?_⟩),fun v _=>by simp only[execOp,U,D,Instr.arrayAt,run_underlying T,Nat.not_lt.2 q,if_false,Sem.run_bind,Result.andThen_ok,Sem.run_pure]⟩;have f:=(ac.1 p).1;obtain⟨Z,o',W,C⟩:=hh j _ (row j (by omega));cases W;refine⟨u j 0,?_,?_⟩
    ·have:=C 0 (by omega);rw[Nat.mul_one,Nat.add_zero] at this;exact this
    ·have B:g=r[j]'f:=(cj ((ab f).symm.trans p)).symm;exact huu j _ 0 g (row j (by omega)) (by rw[B];rfl)
  ·exact s.elim
 ·exact h.elim
theorem Zd5 {q:G}{op:BinOp}{ty:TypeId}(h:Zgk tb q op ty=true):q=.nl∧op=.eql∧∃i e sz,look ty tb=some i∧i.elem=some (e,sz):=by
 unfold Zgk at h;split at h
 ·next b=>exact⟨rfl,rfl,_,_,_,b,rfl⟩
 ·cases h
theorem Zgh (hT:∀t i,look t tb=some i→TIok P t i)(hH:Has I V own w)(ha:ARep N I V a t){op:BinOp}{ty B:TypeId}{x z:Operand}(D:o.op=.binOp op ty x z B)(h:ev t own x fun g=>ev t own z fun q=>match Zgk tb q op ty with
  | true=>Tu own g fun rows=>Zfv rows fun b=>K (put o.dst (.v (.bool b)) t) own V.n
  | false=>Zi9 P tb ty op g q fun g=>K (put o.dst g t) own V.n):QOk S P I V own w a t o K:=by
 obtain⟨g,hk1,C⟩:=B8 h ha hH;obtain⟨q,f,l⟩:=B8 hk1 ha hH;clear h hk1;cases hn:Zgk tb q op ty with
 | true =>
  rw[hn] at f;obtain⟨rfl,rfl,i,e,sz,L,p⟩:=Zd5 hn;obtain⟨H,-⟩:=(hT _ _ L).elem e sz p;obtain⟨rows,A,c,f,M,J⟩:=Z3q f C hH;have F:a.eval z=.slice none 0 0:=by have l:=(show VRep I .nl (a.eval z) from l);generalize a.eval z=Z at l;cases l;rfl
  have f:=f.run A.isNone fun s=>by
   cases A with
   | none=>exact de (J rfl) s
   | some _=>rfl
  refine⟨_,_,f,.of_v (.v _),fun u _=>?_⟩;have E:(Op.equal ty (.slice A rows.length c) (.slice none 0 0)).run P u=.ok A.isNone u:=by show(Op.equalIn 10000 ty (.slice A rows.length c) (.slice none 0 0)).run P u=_;unfold Op.equalIn;cases A<;>simp[run_underlying H]
  simp only[execOp,D,Sem.run_bind,M,F];simp[eqGuard,binOp,E]
 | false =>
  rw[hn] at f;obtain⟨r,v,f,hr,j⟩:=Zeq (P:=P) hT f C l;exact⟨_,_,f,hr,fun u _=>by simp only[execOp,D,Sem.run_bind,(j u x z).1,(j u x z).2,Result.andThen_ok,Sem.run_pure]⟩
theorem Zw (hH:Has I V own w)(ha:ARep N I V a t){z:Operand}(s:o.op=.nilCheck z)(h:ev t own z fun g=>match g with
  | .ptr k off=>K (put o.dst (.ptr k off) t) own V.n
  | .clo f a c=>K (put o.dst (.clo f a c) t) own V.n
  | .v (.func (.func f) a c)=>K (put o.dst (.v (.func (.func f) a c)) t) own V.n
  | _=>False):QOk S P I V own w a t o K:=by
 obtain⟨g,j,b⟩:=B8 h ha hH;clear h;split at j
 ·next k off =>
  obtain⟨-,e⟩:=Ch b;exact⟨_,_,j,b,fun u _=>by simp only[execOp,s,e];rfl⟩
 ·next f p q =>
  have l:=b;obtain⟨-,A,cs,e,-⟩:=l;exact⟨_,_,j,b,fun u _=>by simp only[execOp,s,e];rfl⟩
 ·next f p q =>
  have e:=B0 b;exact⟨_,_,j,b,fun u _=>by simp only[execOp,s,e];rfl⟩
 ·exact j.elim
end
end Go.Proofs.YtihfaocdpmmooaaGreat
