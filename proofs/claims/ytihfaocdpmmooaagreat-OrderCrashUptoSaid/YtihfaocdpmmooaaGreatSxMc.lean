
import Derived.Test.YtihfaocdpmmooaaGreatSxMd
import Derived.Test.YtihfaocdpmmooaaGreatZLaw
import Derived.Test.YtihfaocdpmmooaaGreatProg
namespace Go.Proofs.YtihfaocdpmmooaaGreat
open Go.RowKit
inductive Sh where
 | i (k:IntKind)
 | s
 | b
def K8:List Sh→List Value→Bool
 | [],[]=>true
 | .i k::sh,.int k' _::cs=>decide (k=k')&&K8 sh cs
 | .s::sh,.string _::cs=>K8 sh cs
 | .b::sh,.bool _::cs=>K8 sh cs
 | _,_=>false
def eqC:Value→Value→Bool
 | .int _ a,.int _ b=>a==b
 | .string a,.string b=>a.toList==b.toList
 | .bool a,.bool b=>a==b
 | _,_=>false
def Nf:List Value→List Value→Bool
 | [],[]=>true
 | a::l,b::m=>eqC a b&&Nf l m
 | _,_=>false
def Z1w (P:Program)(F:TypeId→Option (List Sh)):List Field→Nat→Option (List Sh)
 | [],_=>some []
 | f::fs,off=>match f.name=="_",Nat.beq f.offset off,F f.type,Z1w P F fs (off+(match F f.type with | some sh=>sh.length | none=>0)) with
  | false,true,some sh,some sh'=>match(P.info? f.type).map (·.size) with
   | some n=>bif Nat.beq n sh.length then some (sh++sh') else none
   | none=>none
  | _,_,_,_=>none
def Yp (P:Program):Nat→TypeId→Option (List Sh)
 | 0,_=>none
 | d+1,t=>match P.underlying t,Rr P t with
  | some (.int k),some false=>some [.i k]
  | some .string,some false=>some [.s]
  | some .bool,some false=>some [.b]
  | some (.struct fs),some true=>bif P.stoodInHeld t then none else Z1w P (Yp P d) fs.toList 0
  | _,_=>none
section
variable {P:Program}
theorem Z3d {x:Sh}{c:Value}{sh:List Sh}{cs:List Value}(h:K8 (x::sh) (c::cs)=true):K8 sh cs=true:=by
 cases x<;>cases c<;>first
  | (cases h;done)
  | (simp only[K8,Bool.and_eq_true] at h;exact h.2)
  | exact h
theorem Gg:∀{sh:List Sh} {cs:List Value},K8 sh cs=true→cs.length=sh.length
 | [],[],_=>rfl
 | [],_::_,h=>by cases h
 | x::_,[],h=>by cases x<;>cases h
 | x::sh,c::cs,h=>by simp[Gg (Z3d h)]
theorem On:∀{sh b:List Sh} {cs:List Value},K8 (sh++b) cs=true→K8 sh (cs.take sh.length)=true∧K8 b (cs.drop sh.length)=true
 | [],b,cs,h=>⟨by simp[K8],by simpa using h⟩
 | x::sh,b,[],h=>by cases x<;>cases h
 | x::sh,b,c::cs,h=>by
  have key:K8 (sh++b) cs=true∧∀l,K8 sh l=true→K8 (x::sh) (c::l)=true:=by
   cases x<;>cases c<;>first
    | (cases h;done)
    | (simp only[List.cons_append,K8,Bool.and_eq_true] at h;exact⟨h.2,fun l d=>by simp only[K8,Bool.and_eq_true];exact⟨h.1,d⟩⟩)
    | exact⟨h,fun l d=>d⟩
  obtain⟨e,f⟩:=On key.1;exact⟨by simpa using key.2 _ e,by simpa using f⟩
theorem Ya:∀{l m d c:List Value},l.length=m.length→Nf (l++d) (m++c)=(Nf l m&&Nf d c)
 | [],[],d,c,_=>by simp[Nf]
 | a::l,b::m,d,c,h=>by simp only[List.cons_append,Nf];rw[Ya (by simpa using h),Bool.and_assoc]
theorem Qd:∀{sh:List Sh} {cs ds:List Value},K8 sh cs=true→K8 sh ds=true→(Nf cs ds=true↔cs=ds)
 | [],cs,ds,h,h'=>by rw[am (Gg h),am (Gg h')];simp[Nf]
 | x::sh,[],ds,h,h'=>by cases x<;>cases h
 | x::sh,c::cs,[],h,h'=>by cases x<;>cases h'
 | x::sh,c::cs,d::ds,h,h'=>by
  have key:K8 sh cs=true∧K8 sh ds=true∧(eqC c d=true↔c=d):=by
   cases x<;>cases c<;>first
    | (cases h;done)
    | (cases d<;>first
     | (cases h';done)
     | (simp only[K8,Bool.and_eq_true,decide_eq_true_eq] at h h'
        refine⟨h.2,h'.2,?_⟩;rw[←h.1,←h'.1];simp[eqC])
     | (refine⟨h,h',?_⟩;simp[eqC,Qc]))
  simp only[Nf,Bool.and_eq_true];rw[key.2.2,Qd key.1 key.2.1];simp
theorem Jk {c:TypeId}{b:Bool}{n:Nat}(ha:Rr P c=some b)(d:(P.info? c).map (·.size)=some n)(cs:List Value)(off:Nat)(w:World):(part c cs.toArray off).run P w =
  if b=true then .ok (.agg ((cs.drop off).take n).toArray) w else(match cs[off]? with | some v=>.ok v w | none=>.halt (.stuck "part: no such cell") w):=by
 unfold part;have d:=Bx (P:=P) d w;simp only[Sem.run_bind,H9 ha,Result.andThen_ok];cases b with
 | true=>simp[d,Result.andThen]
 | false=>simp;split<;>simp_all [Go.stuck]
theorem Z4d:∀(d:Nat) (t:TypeId) (sh:List Sh),Yp P d t=some sh→∀cs ds:List Value,K8 sh cs=true→K8 sh ds=true→∀w:World,
  (Rr P t=some true→(Op.equalIn d t (.agg cs.toArray) (.agg ds.toArray)).run P w=.ok (Nf cs ds) w)∧(Rr P t=some false→∀a b,cs=[a]→ds=[b]→(Op.equalIn d t a b).run P w=.ok (Nf cs ds) w)∧(Rr P t=some true∨(Rr P t=some false∧sh.length=1))
 | 0,t,sh,h=>by cases h
 | d+1,t,sh,h=>by
  intro cs ds j hd w;unfold Yp at h;split at h
  ·next k p g =>
   cases h;refine⟨fun e=>(by rw[g] at e;cases e),fun _ a b s u=>?_,.inr ⟨g,rfl⟩⟩;subst s u;cases a<;>first | (cases j;done) | skip
   cases b<;>first | (cases hd;done) | skip
   simp only[K8,Bool.and_eq_true,decide_eq_true_eq] at j hd;rw[←j.1,←hd.1,run_equalIn_int w d t k k _ _ p];simp[Nf,eqC]
  ·next p g =>
   cases h;refine⟨fun e=>(by rw[g] at e;cases e),fun _ a b s u=>?_,.inr ⟨g,rfl⟩⟩;subst s u;cases a<;>first | (cases j;done) | skip
   cases b<;>first | (cases hd;done) | skip
   rw[run_equalIn_string w d t _ _ p];simp[Nf,eqC]
  ·next p g =>
   cases h;refine⟨fun e=>(by rw[g] at e;cases e),fun _ a b s u=>?_,.inr ⟨g,rfl⟩⟩;subst s u;cases a<;>first | (cases j;done) | skip
   cases b<;>first | (cases hd;done) | skip
   rw[run_equalIn_bool w d t _ _ p];simp[Nf,eqC]
  ·next i p g =>
   cases hst:P.stoodInHeld t with
   | true=>rw[hst] at h;cases h
   | false =>
    rw[hst] at h;have h:Z1w P (Yp P d) i.toList 0=some sh:=h;refine⟨fun _=>?_,fun e=>(by rw[g] at e;cases e),.inl g⟩;have D:P.underlying t=some (.struct (P.fieldsOf t)):=by unfold Program.fieldsOf;rw[p]
    have C:P.fieldsOf t=i:=by unfold Program.fieldsOf;rw[p]
    rw[run_equalIn_struct w d t _ _ D hst,C];have key:∀(i:List Field) (off:Nat) (sh:List Sh),Z1w P (Yp P d) i off=some sh→K8 sh (cs.drop off)=true→K8 sh (ds.drop off)=true→(Op.eqFields d cs.toArray ds.toArray i).run P w=.ok (Nf (cs.drop off) (ds.drop off)) w:=fun i=>by
     induction i with
     | nil =>
      intro off sh h j hd;cases h;rw[am (Gg j),am (Gg hd)];simp[Op.eqFields,Nf]
     | cons f i ih =>
      intro off sh h j hd;unfold Z1w at h;split at h
      ·next c x B A J F =>
       split at h
       ·next n z =>
        cases v:Nat.beq n c.length with
        | false=>rw[v] at h;cases h
        | true =>
         rw[v] at h;have h:some (c++x)=some sh:=h;cases h;have v:=ai v;subst v;have A:=ai A;rw[J] at F;obtain⟨G,M⟩:=On j;obtain⟨K,L⟩:=On hd;have r:((cs.drop off).take c.length).length=c.length:=Gg G;have y:((ds.drop off).take c.length).length=c.length:=Gg K;obtain⟨O,Q,o⟩:=Z4d d f.type c J _ _ G K w;have B:f.name≠"_" := by simpa using B
         have q:=ih (off+c.length) x F (by rw[←List.drop_drop];exact M) (by rw[←List.drop_drop];exact L);have m:Nf (cs.drop off) (ds.drop off)=(Nf ((cs.drop off).take c.length) ((ds.drop off).take c.length)&&Nf (cs.drop (off+c.length)) (ds.drop (off+c.length))):=by rw[←List.drop_drop,←List.drop_drop,←Ya (by rw[r,y]),cx,cx]
         have fin:∀(b:Bool),(if(!b)=true then pure false else Op.eqFields d cs.toArray ds.toArray i:Sem Bool).run P w=.ok (b&&Nf (cs.drop (off+c.length)) (ds.drop (off+c.length))) w:=fun b=>by
          cases b with
          | true=>simpa using q
          | false=>simp
         simp only[Op.eqFields,B,ne_eq,not_false_eq_true,if_true,Sem.run_bind,A];rw[m,←fin];rcases o with o | ⟨o,q4⟩
         ·rw[Jk o z,dc rfl,Result.andThen_ok,Jk o z,dc rfl,Result.andThen_ok,O o,Result.andThen_ok]
         ·obtain⟨a,ha⟩:∃a,(cs.drop off).take c.length=[a]:=List.length_eq_one_iff.1 (by rw[r,q4]);obtain⟨b,E⟩:∃b,(ds.drop off).take c.length=[b]:=List.length_eq_one_iff.1 (by rw[y,q4]);have get:∀{l:List Value} {a:Value},(l.drop off).take c.length=[a]→l[off]?=some a:=fun {l a} h=>by
           have:=congrArg (·[0]?) h;rw[bj,bw,dc (by omega)] at this;simpa using this
          rw[Jk o z,db (by simp),get ha];simp only[Result.andThen_ok];rw[Jk o z,db (by simp),get E];simp only[Result.andThen_ok];rw[Q o a b ha E,Result.andThen_ok]
       ·cases h
      ·cases h
    simpa using key i.toList 0 sh h (by simpa using j) (by simpa using hd)
  ·cases h
theorem EvEq.flat {t:TypeId}{l m:List G}{K:Bool→Prop}(sh:List Sh)(cs ds:List Value)(hf:Yp P 10000 t=some sh)(d:P.eqGuardType P.depth t=false)(ha:Rr P t=some true)(h:Nl l cs)(f:Nl m ds)(b:K8 sh cs=true)(hd:K8 sh ds=true)(g:cs=ds→K true)(c:cs≠ds→K false):EvEq P t l m K:=by
 refine⟨cs,ds,Nf cs ds,h,f,d,fun w=>(Z4d 10000 t sh hf cs ds b hd w).1 ha,?_⟩;cases hb:Nf cs ds with
 | true=>exact g ((Qd b hd).1 hb)
 | false=>exact c fun e=>by rw[(Qd b hd).2 e] at hb;cases hb
end
open Go.ChangeShapes Go.WideShapes Go.ChangeAt Go.RowKit
inductive Sp where
 | i (k:IntKind)
 | s
 | b
 | sl (e:List Sp)
def Y3 (P:Program)(F:TypeId→Option (List Sp)):List Field→Nat→Option (List Sp)
 | [],_=>some []
 | f::fs,off=>match Nat.beq f.offset off,F f.type with
  | true,some sh=>match Nat.beq (P.cellsOf f.type) sh.length,Y3 P F fs (off+sh.length) with
   | true,some sh'=>some (sh++sh')
   | _,_=>none
  | _,_=>none
def Zit:Nat→List Sp→List Sp
 | 0,_=>[]
 | n+1,l=>l++Zit n l
def Re (P:Program):Nat→TypeId→Option (List Sp)
 | 0,_=>none
 | d+1,t=>match P.underlying t with
  | some (.int k)=>some [.i k]
  | some .string=>some [.s]
  | some .bool=>some [.b]
  | some (.slice e)=>match Re P d e with
   | some sh=>bif Nat.beq (P.cellsOf e) sh.length&&Nat.blt 0 sh.length then some [.sl sh] else none
   | none=>none
  | some (.struct fs)=>match Y3 P (Re P d) fs.toList 0 with
   | some sh=>bif Nat.beq (P.cellsOf t) sh.length then some sh else none
   | none=>none
  | some (.array n e)=>match Re P d e with
   | some sh=>bif Nat.beq (P.cellsOf e) sh.length&&Nat.beq (P.cellsOf t) (n * sh.length) then some (Zit n sh) else none
   | none=>none
  | _=>none
inductive TyL:List Sp→List G→Prop
 | nil:TyL [] []
 | i {k:IntKind} {l:List Sp} {gs:List G} (n:Int) (hn:k.min≤n∧n≤k.max) (h:TyL l gs):TyL (.i k::l) (.v (.int k n)::gs)
 | s {l:List Sp} {gs:List G} (s:ByteArray) (hs:s.size≤maxLen) (h:TyL l gs):TyL (.s::l) (.v (.string s)::gs)
 | b {l:List Sp} {gs:List G} (b:Bool) (h:TyL l gs):TyL (.b::l) (.v (.bool b)::gs)
 | sl {e l:List Sp} {gs:List G} (rows:List (List G)) (hl:rows.length≤maxLen) (hr:∀r∈rows,TyL e r) (h:TyL l gs):TyL (.sl e::l) (.sl rows::gs)
theorem TyL.nil_inv {b:List G}(h:TyL [] b):b=[]:=by cases h;rfl
theorem TyL.i_inv {k:IntKind}{l:List Sp}{b:List G}(h:TyL (.i k::l) b):∃n gs',b=.v (.int k n)::gs'∧(k.min≤n∧n≤k.max)∧TyL l gs':=by cases h with | i n hn h=>exact⟨n,_,rfl,hn,h⟩
theorem TyL.s_inv {l:List Sp}{b:List G}(h:TyL (.s::l) b):∃s gs',b=.v (.string s)::gs'∧s.size≤maxLen∧TyL l gs':=by cases h with | s n hn h=>exact⟨n,_,rfl,hn,h⟩
theorem TyL.sl_inv {e l:List Sp}{b:List G}(h:TyL (.sl e::l) b):∃rows gs',b=.sl rows::gs'∧rows.length≤maxLen∧(∀r∈rows,TyL e r)∧TyL l gs':=by cases h with | sl n h1 h2 h=>exact⟨n,_,rfl,h1,h2,h⟩
theorem TyL.app {l m:List Sp}{d c:List G}(h:TyL l d)(h':TyL m c):TyL (l++m) (d++c):=by
 induction h with
 | nil=>exact h'
 | i n hn _ ih=>exact .i n hn ih
 | s n hn _ ih=>exact .s n hn ih
 | b n _ ih=>exact .b n ih
 | sl n h1 h2 _ _ ih=>exact .sl n h1 h2 ih
theorem TyL.len {l:List Sp}{c:List G}(h:TyL l c):c.length=l.length:=by
 induction h with
 | nil=>rfl
 | i _ _ _ ih=>simp[ih]
 | s _ _ _ ih=>simp[ih]
 | b _ _ ih=>simp[ih]
 | sl _ _ _ _ _ ih=>simp[ih]
theorem Z1l {α:Type}{f:α→List G}{Q:α→Prop}{rows:List (List G)}(h:∀r∈rows,∃x,r=f x∧Q x):∃l:List α,rows=l.map f∧∀x∈l,Q x:=by
 induction rows with
 | nil=>exact⟨[],rfl,by simp⟩
 | cons r rows ih =>
  obtain⟨l,b,d⟩:=ih fun r hr=>h r (by simp[hr]);obtain⟨x,rfl,c⟩:=h r (by simp);exact⟨x::l,by simp[b],fun y hy=>by
   rcases bi.1 hy with rfl | hy
   ·exact c
   ·exact d y hy⟩
def Z5t (W:World):Imm:=fun b o=>W.cell? ⟨b,o,none⟩
theorem Z8l (W:World):Mem (Z5t W) W:=fun _ _ _ h=>h
section
variable {P:Program} {W:World} {H:Type} {enc:TypeId × Value→H}
theorem Zgp {k:IntKind}{n:Int}(h:(Lit.int k n).wf=true):k.min≤n∧n≤k.max:=by have b:(decide (k.min≤n)&&decide (n≤k.max))=true:=h;simp only[Bool.and_eq_true,decide_eq_true_eq] at b;exact b
theorem L7 {Q:G→Value→Prop}{c b:List G}{cs:List Value}{n:Nat}(d:PW Q c (cs.take n))(e:PW Q b (cs.drop n)):PW Q (c++b) cs:=by
 have:=d.append e
 rwa [cx] at this
theorem Zds {F:FuncId}{b:List G}(h:FnV P F b fun q=>q=.v (.bool true)){vs:List Value}(d:PW (VRep (Z5t W)) b vs):Calls P F vs.toArray W fun e c=>e=.returned (.bool true)∧Below W.heap.size W c :=
 (h.2 (Z5t W) W vs (Z8l W) d).mono fun e w' ⟨x,g,I',he,hq,_,hx,_,_,hb⟩=>by subst hq;cases(show VRep I' (.v (.bool true)) x from hx);exact⟨he,hb⟩
end
def gSt (s:ByteArray):List G:=[.v (.string s)]
theorem eqI {a b:Int}(h:a=b):(some (G.v (.int .i64 a)):Option G)=some (G.v (.int .i64 b)):=by rw[h]
theorem eqR {a b:List (List G)}{e sz:Nat}(h:a=b):(some (R.slc a e sz):Option R)=some (R.slc b e sz):=by rw[h]
theorem Ar {α:Type}{l:List α}{i:Nat}{x:α}(h:l[i]?=some x):l.take (i+1)=l.take i++[x]:=by have hi:=(ac.1 h);rw[List.take_succ_eq_append_getElem hi.1,hi.2]
theorem C1 {α:Type}{l:List α}{i:Nat}{x:α}(h:l[i]?=some x):i < l.length:=(ac.1 h).1
theorem VR.res {I:Imm}{V:Va}{g:G}{x:Value}(h:VR I g x):PRes I V g x:=by
 cases g with
 | tup l=>obtain⟨cs,e,b⟩:=h;exact⟨cs,e,b.mono fun _ _ h=>.of_v h⟩
 | oag l=>cases(show VRep I (.oag l) x from h)
 | _=>exact PRep.of_v (V:=V) h
def Imm.new (I:Imm)(w w':World):Imm:=fun b o=>if w.heap.size≤b then w'.cell? ⟨b,o,none⟩ else I b o
theorem Cc {I:Imm}{z x:Value}(h:VRep I (.v z) x):x=z:=by cases h;rfl
abbrev gI (n:Int):G:=.v (.int .i64 n)
abbrev gS (s:ByteArray):G:=.v (.string s)
theorem jn {T G:Prop}(f:T→G)(x:T):G:=f x
mutual
def Nq:G→Nat
 | .v x=>match x with
  | .string s=>s.size+1
  | _=>1
 | .sl rows=>L3 rows+1
 | _=>1
def Eu:List G→Nat
 | []=>0
 | g::r=>Nq g+Eu r
def L3:List (List G)→Nat
 | []=>0
 | r::rs=>Eu r+L3 rs
end
theorem Se (a b:List G):Eu (a++b)=Eu a+Eu b:=by
 induction a with
 | nil=>simp[Eu]
 | cons g a ih=>simp only[List.cons_append,Eu,ih];omega
section
variable {P:Program} {W:World} {H:Type} {enc:TypeId × Value→H}
theorem Z6s {α:Type}(l:List α)(f:α→List G)(D:α→DataW H)(h:∀x∈l,Eu (f x)≤Rows.uptoBulk (D x)):L3 (l.map f)≤Rows.uptoBulkAll (l.map D):=by
 induction l with
 | nil=>simp[L3,Rows.uptoBulkAll]
 | cons x l ih =>
  simp only[List.map_cons,L3,Rows.uptoBulkAll];have b:=h x (by simp);have c:=ih fun y hy=>h y (by simp[hy]);omega
theorem Zin:∀(d:Nat) (t:TypeId) (sh:List Sp),Re P d t=some sh→∀(K:Nat) (cs:List Value) (y:DataW H × List MemPlace),DataW.trod enc P W 0 (fun _=>true) true K t cs=some y→∃q,TyL sh q∧PW (VRep (Z5t W)) q cs∧Eu q≤Rows.uptoBulk y.1
 | 0,t,sh,h=>by cases h
 | d+1,t,sh,h=>by
  intro K cs y hy;unfold Re at h;split at h
  ·next k z =>
   cases h;obtain⟨n,rfl,rfl,hw⟩:=DataW.trod_int z hy;exact⟨_,.i n (Zgp hw) .nil,.cons (.v _) .nil,by simp[Eu,Nq,Rows.uptoBulk]⟩
  ·next z =>
   cases h;obtain⟨s,rfl,rfl,hs⟩:=DataW.trod_string z hy;exact⟨_,.s s hs .nil,.cons (.v _) .nil,by simp[Eu,Nq,Rows.uptoBulk]⟩
  ·next z =>
   cases h;obtain⟨b,rfl,rfl⟩:=DataW.trod_bool z hy;exact⟨_,.b b .nil,.cons (.v _) .nil,by simp[Eu,Nq,Rows.uptoBulk]⟩
  ·next e z =>
   split at h
   ·next c he =>
    cases hb:Nat.beq (P.cellsOf e) c.length&&Nat.blt 0 c.length with
    | false=>rw[hb] at h;cases h
    | true =>
     rw[hb] at h;have h:some [Sp.sl c]=some sh:=h;cases h;simp only[Bool.and_eq_true] at hb;have F:=ai hb.1;have hpos:=da hb.2;rcases Go.Deep.open_slice z hy with⟨rfl,rfl⟩ | ⟨a,len,cap,m,n,D,Pl,rfl,-,hl,hm,hmm,rfl,hi⟩
     ·exact⟨_,.sl [] (by simp) (by simp) .nil,.cons (.sl [] none 0 0 (fun _ _=>undef) (af _) (fun _=>rfl) (by simp) (fun i r h=>by simp at h) (fun i r j g h=>by simp at h)) .nil,by simp[Eu,Nq,L3,Rows.uptoBulk]⟩
     ·simp only[if_true] at hmm;subst hmm;have hx:∀i,i < len→∃p:List G × List Value,TyL c p.1∧PW (VRep (Z5t W)) p.1 p.2∧p.2.length=c.length∧(∀(j:Nat) u,p.2[j]?=some u→W.cell? ((a.add (i * c.length)).add j)=some u)∧Eu p.1≤Rows.uptoBulk (D i):=fun i hil=>by
       obtain⟨S,hc,ht'⟩:=hi i (by omega);obtain⟨q,x,J,R⟩:=Zin d e c he n S _ ht';obtain⟨-,Q,U⟩:=World.cells?_some hc;rw[F] at Q U;refine⟨(q,S),x,J,Q,fun j u z=>?_,R⟩;have hj:j < c.length:=by rw[←Q];exact(ac.1 z).1
       rw[U j hj];exact z
      haveI:Inhabited (List G × List Value):=⟨([],[])⟩
      obtain⟨p,E⟩:=Go.Deep.choose_lt hx;have B:∀(i:Nat) r,((List.range len).map fun i=>(p i).1)[i]?=some r→i < len∧r=(p i).1:=fun i r hr=>by
       have hi:=(ac.1 hr).1;have X:i < len:=by simpa using hi
       rw[aj,cq X] at hr;exact⟨X,by simpa using hr.symm⟩
      have hsp:0 < len→a=⟨a.block,a.off,none⟩:=fun h0=>by have hq:=(E 0 h0).2.2.2.1 0 ((p 0).2[0]'(by rw[(E 0 h0).2.2.1];exact hpos)) (ab _);have:=World.cell?_spot hq;simp only[Addr.add,Nat.zero_mul,if_true] at this;cases a;simp at this;subst this;rfl
      have key:=VRep.sl (I:=Z5t W) ((List.range len).map fun i=>(p i).1) (some a) m c.length (fun i j=>((p i).2[j]?).getD undef) (by simpa using hl) (fun e=>by cases e) (fun r hr=>by
       obtain⟨i,hi,e⟩:=cg.1 hr;obtain⟨x,J⟩:=B i r (by rw[ab hi,e]);rw[J,(E i x).2.1.1,(E i x).2.2.1]) (fun i r hr=>by
       obtain⟨x,-⟩:=B i r hr;refine⟨a.block,a.off,by rw[←hsp (by omega)],fun j hj=>?_⟩;have Y:j < (p i).2.length:=by rw[(E i x).2.2.1];exact hj
       have hq:=(E i x).2.2.2.1 j _ (ab Y);rw[ab Y,Option.getD_some,←hq];unfold Z5t;have e:=hsp (by omega);generalize a.block=b at *;generalize a.off=o at *;subst e;rw[Cp,Cp]) (fun i r j g hr hg=>by
       obtain⟨x,rfl⟩:=B i r hr;obtain⟨u,J,R⟩:=(E i x).2.1.get hg;rw[J];exact R)
      refine⟨_,.sl ((List.range len).map fun i=>(p i).1) (by simp;omega) (fun r hr=>?_) .nil,.cons (by simpa using key) .nil,?_⟩
      ·obtain⟨i,hi,rfl⟩:=ba.1 hr;exact(E i (List.mem_range.1 hi)).1
      ·have:=Z6s (List.range len) (fun i=>(p i).1) D fun i hi=>(E i (List.mem_range.1 hi)).2.2.2.2;simp only[Eu,Nq,Rows.uptoBulk];omega
   ·cases h
  ·next fs z =>
   split at h
   ·next sh' hf =>
    cases hb:Nat.beq (P.cellsOf t) sh'.length with
    | false=>rw[hb] at h;cases h
    | true =>
     rw[hb] at h;have h:some sh'=some sh:=h;cases h;have F:=ai hb;obtain⟨xs,m,-,rfl,L,C,O⟩:=DataW.trod_struct z hy;have key:∀(A:List Field) (l:List (DataW H × List MemPlace)) (off:Nat) (sh:List Sp),l.length=A.length→(∀(j:Nat) f,A[j]?=some f→DataW.trod enc P W 0 (fun _=>true) true m f.type ((cs.drop f.offset).take (P.cellsOf f.type))=l[j]?)→Y3 P (Re P d) A off=some sh→cs.length=off+sh.length→∃q,TyL sh q∧PW (VRep (Z5t W)) q (cs.drop off)∧Eu q≤Rows.uptoBulkAll (l.map (·.1)):=fun A=>by
      induction A with
      | nil =>
       intro l off sh _ _ h hl;cases h;exact⟨[],.nil,by rw[c8 (by simp at hl;omega)];exact .nil,by simp[Eu]⟩
      | cons f A ih =>
       intro l off sh C M h hl;cases l with
       | nil=>cases C
       | cons y l =>
        unfold Y3 at h;split at h
        ·next T e1 e2 =>
         split at h
         ·next sh2 e3 e4 =>
          cases h;have e1:=ai e1;have e3:=ai e3;have hy:=M 0 f rfl;obtain⟨g1,t1,p1,b1⟩:=Zin d f.type T e2 m _ y hy;rw[ax] at hl;obtain⟨g2,t2,p2,b2⟩:=ih l (off+T.length) sh2 (by simpa using C) (fun j f hf=>M (j+1) f (by simpa using hf)) e4 (by omega);rw[e1,e3] at p1;refine⟨g1++g2,t1.app t2,L7 p1 ?_,?_⟩
          ·rw[List.drop_drop];exact p2
          ·rw[Se];simp only[List.map_cons,Rows.uptoBulkAll];omega
         ·cases h
        ·cases h
     obtain⟨q,x,J,R⟩:=key fs.toList xs 0 sh (by rw[C];simp) (fun j f hf=>O j f (by simpa using hf)) hf (by omega);refine⟨q,x,by simpa using J,?_⟩;simp only[Rows.uptoBulk];omega
   ·cases h
  ·next n e z =>
   split at h
   ·next c he =>
    cases hb:Nat.beq (P.cellsOf e) c.length&&Nat.beq (P.cellsOf t) (n * c.length) with
    | false=>rw[hb] at h;cases h
    | true =>
     rw[hb] at h;have h:some (Zit n c)=some sh:=h;cases h;simp only[Bool.and_eq_true] at hb;have F:=ai hb.1;have hct:=ai hb.2;obtain⟨xs,m,-,rfl,L,C,O⟩:=DataW.trod_array z hy;have key:∀(k i:Nat),i+k=n→∃q,TyL (Zit k c) q∧PW (VRep (Z5t W)) q (cs.drop (i * c.length))∧Eu q≤Rows.uptoBulkAll ((xs.drop i).map (·.1)):=fun k=>by
      induction k with
      | zero =>
       intro i hi;refine⟨[],.nil,?_,by simp[Eu]⟩;rw[c8 (by rw[L,hct,←hi,Nat.add_zero];exact af _)];exact .nil
      | succ k ih =>
       intro i hi;have Z:i < xs.length:=by omega
       have x:=O i (by omega);rw[ab Z] at x;obtain⟨g1,t1,p1,b1⟩:=Zin d e c he m _ _ x;obtain⟨g2,t2,p2,b2⟩:=ih (i+1) (by omega);rw[F] at p1;refine⟨g1++g2,t1.app t2,L7 p1 ?_,?_⟩
       ·rw[List.drop_drop];rw[Nat.succ_mul] at p2;exact p2
       ·rw[Se,List.drop_eq_getElem_cons Z];simp only[List.map_cons,Rows.uptoBulkAll];omega
     obtain⟨q,x,J,R⟩:=key n 0 (by omega);refine⟨q,x,by simpa using J,?_⟩;simp only[Rows.uptoBulk];simp at R;omega
   ·cases h
  ·cases h
theorem Xg {t:TypeId}{sp:Sp}{base:Nat}{v:Value}{d:DataW H}{p:List MemPlace}(hf:Re P 100 t=some [sp])(ha:Rr P t=some false)(f:Value.okWide P W .any base t v)(h:DataW.Trod enc P W 0 (fun _=>true) true t v d p):∃g,TyL [sp] [g]∧VRep (Z5t W) g v∧Nq g≤Rows.uptoBulk d:=by
 obtain⟨b,hy⟩:=h;obtain⟨n,i,j,k⟩:=Zin 100 t [sp] hf b _ _ hy;have c:∀cs,v≠.agg cs:=fun cs e=>by
  subst e;unfold Value.okWide Cell.okWide at f;unfold Re at hf;unfold Rr at ha;cases hu:P.underlying t with
  | none=>rw[hu] at hf;cases hf
  | some u=>rw[hu] at hf f ha;cases u<;>first | (cases hf;done) | (simp at ha;done) | (simp[Cell.ok,hu] at f;done)
 have l:v.cells.toList=[v]:=by cases v<;>first | rfl | exact de rfl (c _)
 rw[l] at j;have m:=i.len;obtain⟨g,rfl⟩:=List.length_eq_one_iff.1 m;exact⟨g,i,j.2 0 g v rfl rfl,by simpa [Eu] using k⟩
end
def Z7x:G→Bool
 | .v (.int _ _) | .v (.bool _) | .v (.string _)=>true
 | _=>false
def Zix:G→Bool
 | .tup l=>B4 Z7x l
 | g=>Z7x g
def Qw:G→Bool
 | .v _ | .agg _ | .sl _=>true
 | _=>false
theorem Qz {I I':Imm}{g:G}{x:Value}(h:Z7x g=true)(b:VRep I g x):VRep I' g x:=by
 cases g with
 | v u=>have:=B0 (V:=⟨0,fun _=>0,fun _=>undef,fun _ _=>False⟩) (show TRep I _ (.v u) x from b);subst this;exact .v _
 | _=>cases h
theorem FnV.peek {P:Program}{f:FuncId}{o:List G}{rows:List (List G)}{e sz:Nat}{Q:G→Prop}(h:FnV P f (.sl rows::o) Q)(E:B4 Qw o=true)(F:∀g,Q g→Zix g=true):FnO P f (.osl 0::o) [.slc rows e sz] fun g rs=>Q g∧rs=[.slc rows e sz] :=
 ⟨h.1,fun I V w vs hH J i=>by
  obtain⟨C,B,K,-⟩:=F0 (k:=0) (rows:=rows) (e:=e) (sz:=sz) hH rfl;have q:PW (VRep C) (.sl rows::o) vs:=by
   refine⟨i.1,fun j g u c m=>?_⟩;cases j with
   | zero =>
    obtain rfl:G.sl rows=g:=by simpa using c
    have n:=i.2 0 (.osl 0) u rfl m;have n:u=V.s 0:=n.2;rw[n];exact K
   | succ j =>
    have n:=i.2 (j+1) g u c m;have z:=Ae E g (ae c);have A:VRep I g u:=by
     cases g<;>first
      | exact n
      | cases z
    exact A.mono B.fro.mono
  refine(h.2 C w vs B.has.mem q).mono fun L w' ⟨x,g,I3,he,hq',hM,hx,hle,hold,hb⟩=>?_;refine⟨x,g,_,I,V,he,⟨hq',rfl⟩,J,hH.below hb,?_,⟨hb.os,hb.tape,hb.output,hb.size,fun b y _=>⟨hb.block b y,fun _=>rfl⟩,fun _ _ _ h=>h,fun k r b c m _=>⟨k,r,c,m⟩⟩,.refl _⟩;have d:=F g hq';cases g with
  | tup l =>
   obtain⟨cs,D,i⟩:=hx;refine⟨cs,D,i.1,fun j g u c m=>?_⟩;have z:=Ae (p:=Z7x) (l:=l) d g (ae c);have A:=Qz (I':=I) z (i.2 j g u c m);exact .of_v A
  | v u=>exact Qz (I':=I) d hx
  | _=>cases d⟩
def Z7s (tt:List (Nat × TI))(t:Ts)(w:Os)(K:G→Os→Prop):ResultVar→Prop
 | .tmp i=>match look i t with
  | some (.osl k)=>match look k w with
   | some (.slc _ _ _)=>K (.osl k) w
   | _=>Zhe w (.osl k) K
  | some g=>Zhe w g K
  | none=>False
 | .cell i ty=>match look i t,look ty tt with
  | some (.ptr k off),some ti=>match look k w with
   | some (.blk cs _)=>match ti.agg with
    | true=>seg cs off ti.zero.length fun l=>K (.oag l) w
    | false=>False
   | _=>False
  | _,_=>False
def Uy (tt:List (Nat × TI))(t:Ts)(w:Os):List ResultVar→(List G→Os→Prop)→Prop
 | [],K=>K [] w
 | r::rs,K=>Z7s tt t w (fun g w'=>Uy tt t w' rs fun c b=>K (g::c) b) r
def Zfs (own:Os):G→G
 | .tup l=>.tup (l.map (F5 own))
 | g=>F5 own g
inductive Z5z (roots:List Nat)(own:Os)(n:Nat)(g:G)(Q:G→List R→Prop):Prop
 | inl (h:∃its g',Z5v roots own n g Q its g')
 | inr (h:∃k r0 its g',look k own=some r0∧Z5v roots ((k,.gone)::own) n g Q its g')
 | gh (h:Gh (fun own n=>∃its g',Z5v roots own n (Zfs own g) Q its g') own n)
def Z29 (tt:List (Nat × TI))(fn:Func)(b:List Nat)(Q:G→List R→Prop):KC:=fun e t w n=>match e with
 | .exit _=>False
 | .goto _=>False
 | _=>match fn.results.toList with
  | [r]=>Uy tt t w [r] fun c own=>match c with
   | [g]=>Z5z b own n g Q
   | _=>False
  | rs=>Uy tt t w rs fun c own=>Z5z b own n (.tup c) Q
section
variable {P:Program} {tb:List (Nat × TI)} {N n0:Nat} {I:Imm} {V:Va} {a:Act} {t:Ts} {own own0:Os} {w:World}
theorem Z6a (hT:∀t i,look t tb=some i→TIok P t i){r:ResultVar}{K1:G→Os→Prop}(h:Z7s tb t own K1 r)(hH:Has I V own w)(ha:ARep N I V a t):∃g c I' V' v,K1 g c∧V'.n=V.n∧Later own I V w c I' V' w∧PRe1 I' V' g v∧Ep P a w r v:=by
 cases r with
 | tmp i =>
  have old:Z3a tb t own K1 (.tmp i)→∃g c I' V' v,K1 g c∧V'.n=V.n∧Later own I V w c I' V' w∧PRe1 I' V' g v∧Ep P a w (.tmp i) v:=fun h=>by obtain⟨J,D,E,O,v,C,q,s,K,Q⟩:=Z73 (K1:=K1) hT h hH ha;exact⟨J,D,E,O,v,C,q,s,.of_p K,Q⟩
  unfold Z7s at h;dsimp only at h;split at h
  ·next k e =>
   split at h
   ·obtain⟨x,A,o⟩:=ha.get i _ e;exact⟨.osl k,own,I,V,x,h,rfl,.refl hH,o,by unfold Ep Js;simp[A]⟩
   ·exact old (by unfold Z3a;dsimp only;rw[e];exact h)
  ·next g _ e=>exact old (by unfold Z3a;dsimp only;rw[e];exact h)
  ·exact h.elim
 | cell i ty =>
  unfold Z7s at h;dsimp only at h;split at h
  ·next k off f e u =>
   obtain⟨x,A,o⟩:=ha.get i _ e;obtain⟨-,rfl⟩:=Ch o;split at h
   ·next cs L y =>
    obtain⟨B,C,q,s⟩:=N1 hH y;have m:=hT _ _ u;cases hag:f.agg with
    | false=>rw[hag] at h;exact h.elim
    | true =>
     rw[hag] at h;have p:=h;obtain⟨l,F,M,-⟩:=Mg h q;have d:((B.drop off).take f.zero.length).length=f.zero.length:=by
      rcases Nat.eq_zero_or_pos f.zero.length with z | z
      ·rw[z];simp
      ·have:=Q7 p q z;simp;omega
     refine⟨.oag l,own,I,V,Value.agg ((B.drop off).take f.zero.length).toArray,F,rfl,.refl hH,⟨_,rfl,M⟩,?_⟩;have:=Dl (P:=P) (w:=w) (g:=V.b k) (k:=off) (ty:=ty) (cs:=(B.drop off).take f.zero.length) (by rw[m.agg,hag]) (by rw[m.size,d]) (fun j v o=>by rw[s];exact Jg o);unfold Ep Js;simp[A,asAddr,this]
   ·exact h.elim
  ·exact h.elim
theorem Q3 (hT:∀t i,look t tb=some i→TIok P t i):∀{rs:List ResultVar} {own:Os} {I:Imm} {V:Va} {K1:List G→Os→Prop},Uy tb t own rs K1→Has I V own w→ARep N I V a t→∃c b I' V',∃vs:List Value,K1 c b∧V'.n=V.n∧Later own I V w b I' V' w∧PW (PRe1 I' V') c vs∧vs.length=rs.length∧∀(i:Nat) r v,rs[i]?=some r→vs[i]?=some v→Ep P a w r v
 | [],own,I,V,K1,h,hH,_=>⟨[],own,I,V,[],h,rfl,.refl hH,.nil,rfl,fun i r v h=>by simp at h⟩
 | r::rs,own,I,V,K1,h,hH,ha=>by
  obtain⟨g,B,C,D,v,k,y,d,l,u⟩:=Z6a (K1:=fun g w'=>Uy tb t w' rs fun c e=>K1 (g::c) e) hT h hH ha;obtain⟨c,s,q,V2,vs,m,z,f,A,x,p⟩:=Q3 hT k d.has (ha.mono d.fro.mono d.va);refine⟨g::c,s,q,V2,v::vs,m,z.trans y,d.trans f,.cons (l.mono f.fro.mono f.va) A,by simp[x],fun i r' o hr j=>?_⟩;cases i with
  | zero=>simp at hr j;subst hr j;exact u
  | succ i=>exact p i r' o (by simpa using hr) (by simpa using j)
theorem PRes.mono {I I':Imm}{V V':Va}{g:G}{x:Value}(h:PRes I V g x)(d:I.le I')(j:V.le V'):PRes I' V' g x:=by
 cases g with
 | tup l=>obtain⟨cs,e,m⟩:=h;exact⟨cs,e,m.mono fun _ _ h=>h.mono d j⟩
 | v z=>exact PRe1.mono (g:=.v z) h d j
 | tt=>exact PRe1.mono (g:=.tt) h d j
 | ff=>exact PRe1.mono (g:=.ff) h d j
 | un=>exact PRe1.mono (g:=.un) h d j
 | nl=>exact PRe1.mono (g:=.nl) h d j
 | agg l=>exact PRe1.mono (g:=.agg l) h d j
 | oag l=>exact PRe1.mono (g:=.oag l) h d j
 | ptr k o=>exact PRe1.mono (g:=.ptr k o) h d j
 | sl l=>exact PRe1.mono (g:=.sl l) h d j
 | osl k=>exact PRe1.mono (g:=.osl k) h d j
 | osv k a b c=>exact PRe1.mono (g:=.osv k a b c) h d j
 | elp l o=>exact PRe1.mono (g:=.elp l o) h d j
 | oel k i s o=>exact PRe1.mono (g:=.oel k i s o) h d j
 | orv k i s o l c=>exact PRe1.mono (g:=.orv k i s o l c) h d j
 | mp k=>exact PRe1.mono (g:=.mp k) h d j
 | clo f a c=>exact PRe1.mono (g:=.clo f a c) h d j
theorem Sn {g:G}{x:Value}(hH:Has I V own w)(h:PRe1 I V g x):PRe1 I V (F5 own g) x:=by
 cases g with
 | osl i =>
  unfold F5;dsimp only;split
  ·next rows sz c =>
   obtain⟨-,rfl⟩:=(show i < V.n∧x=V.s i from h);exact(hH.each i _ c).2.1
  ·exact h
 | osv i sz lo hi =>
  have b:=Ml hH (show CRep I V (.osv i sz lo hi) x from h);unfold F5 at b⊢;dsimp only at b⊢;split at b
  ·split at b<;>exact b
  ·exact b
 | tt=>cases(show VRep I .tt x from h);exact VRep.v _
 | ff=>cases(show VRep I .ff x from h);exact VRep.v _
 | _=>exact h
theorem Zfl {g:G}{x:Value}(hH:Has I V own w)(h:PRes I V g x):PRes I V (Zfs own g) x:=by
 cases g with
 | tup l =>
  obtain⟨cs,e,d⟩:=h;refine⟨cs,e,by simpa using d.1,fun j g u c f=>?_⟩;rw[aj] at c;obtain⟨g0,k,rfl⟩:=ay.1 c;exact Sn hH (d.2 j g0 u k f)
 | osl i =>
  have b:=Sn (g:=.osl i) hH h;show PRes I V (F5 own (.osl i)) x;unfold F5 at b⊢;dsimp only at b⊢;split at b<;>exact b
 | osv i sz lo hi =>
  have b:=Sn (g:=.osv i sz lo hi) hH h;show PRes I V (F5 own (.osv i sz lo hi)) x;unfold F5 at b⊢;dsimp only at b⊢;split at b
  ·split at b<;>exact b
  ·exact b
 | tt=>exact Sn (g:=.tt) hH h
 | ff=>exact Sn (g:=.ff) hH h
 | _=>exact h
theorem Zs (hT:∀t i,look t tb=some i→TIok P t i)(hm:P.follows .mixedOrders=true){f:FuncId}{fn:Func}{c:Code}{E D:List G}{rs:List R}{o:List Nat}{Q:G→List R→Prop}(hf:P.funcs[f]?=some fn)(X:(fn.name=="runtime.NumGoroutine")=false) (hb:fn.body=some c) (T:D.length≤fn.ntmps) (hc:Gs tb fn.ntmps c=true)
  (ho:Zci rs E own0 n0 D o) (h:sxC P tb c (Np 0 D) own0 n0 (Z29 tb fn o Q)):FnO P f E rs Q:=by
 refine⟨⟨fn,hf,X,by rw[hb];rfl⟩,fun I V w vs hH hVn hp=>?_⟩;obtain⟨V2,h2n,hH2,hp2,hF2,Z⟩:=ho.run I V w vs hH hVn hp;refine calls_of_wp hf hb ?_;have hlen:vs.length=D.length:=hp2.1.symm;have ha:ARep fn.ntmps I V2 {tmps:=vs.toArray++Array.replicate (fn.ntmps - vs.toArray.size) undef,defers:=[]} (Np 0 D):=by
  refine⟨rfl,by simp;omega,fun i g hg=>?_⟩;obtain⟨j,e,hj⟩:=Ko hg;obtain rfl:i=j:=by omega
  obtain⟨u,hu,hr⟩:=hp2.get hj;refine⟨u,?_,hr⟩;have hi:=(ac.1 hu).1;show(vs.toArray++_)[i]?=_;rw[Array.getElem?_append_left (by simpa using hi)];simpa using hu
 have h:sxC P tb c (Np 0 D) own0 V2.n (Z29 tb fn o Q):=by rw[h2n];exact h
 refine Za9 (own0:=own0) (I0:=I) (V0:=V2) (w0:=w) hT hm (V:=V2) h ⟨hH2,.refl _ _ _ _,af _,fun _ _=>rfl⟩ ha hc (fun ch d v a w hq=>?_) fun e t own I1 K a C J hS hA=>?_
 ·cases d<;>exact hq
 ·have key:(∀id,e≠.exit id)→bodyPost P fn (fun e w'=>∃x g m I' V',e=.returned x∧Q g m∧V'.n=m.length∧Has I' V' (Bk m 0) w'∧PRes I' V' g x∧Fro (Bk rs 0) I V w (Bk m 0) I' V' w'∧V.le V') .ret a C:=fun he=>by
   refine⟨hA.defers,?_⟩;have J:match fn.results.toList with
     | [r]=>Uy tb t own [r] fun E own=>match E with
      | [g]=>Z5z o own K.n g Q
      | _=>False
     | rs=>Uy tb t own rs fun E own=>Z5z o own K.n (.tup E) Q:=by
    cases e with
    | exit id=>exact de rfl (he id)
    | goto l=>exact J.elim
    | normal=>exact J
    | ret=>exact J
   have L:∀{p I' V' g x},Later own I1 K C p I' V' C→PRes I' V' g x→(∃y S,Z5v o p V'.n g Q y S)→∃U g m I' V',Ending.returned x=.returned U∧Q g m∧V'.n=m.length∧Has I' V' (Bk m 0) C∧PRes I' V' g U∧Fro (Bk rs 0) I V w (Bk m 0) I' V' C∧V.le V':=fun {p I' V' g x} B Y ⟨y,S,z⟩=>by
    obtain⟨V4,O,k2,k3,F,k5,k6⟩:=Pc z B.has Y V.s;have q:=(hF2.trans hS.fro).trans B.fro;refine⟨x,S,y.map It.res,I',V4,rfl,z.post,by simpa using O,k2,k3,⟨q.os,q.tape,q.output,q.size,q.blk,q.mono,fun i r b hi hb hlt=>?_⟩,?_,fun i hi=>⟨?_,k6 i (by rw[ho.len];omega)⟩⟩
    ·obtain⟨k,r',h1,h2⟩:=F i b hb;exact q.foot k r' b h1 h2 hlt
    ·rw[O,hVn,←ho.len];obtain⟨l,B⟩:=z.rts;have:=congrArg List.length B;simp at this;omega
    ·have hi':i < o.length:=by rw[ho.len];omega
     have hr:=ab hi';obtain⟨h1,h2⟩:=Z i _ hr;rw[(k5 i _ hr).1,(B.va.2 _ (aq (by omega) hS.n)).1,hS.bb _ (by omega),h1]
   have M:∀{p I' V' g x},V'.n=K.n→Later own I1 K C p I' V' C→PRes I' V' g x→(∃y S,Z5v o p K.n g Q y S)→∃U g m I' V',Ending.returned x=.returned U∧Q g m∧V'.n=m.length∧Has I' V' (Bk m 0) C∧PRes I' V' g U∧Fro (Bk rs 0) I V w (Bk m 0) I' V' C∧V.le V':=fun {p I' V' g x} T B Y z=>L B Y (by rw[T];exact z);have fin:∀{p I' V' g x},V'.n=K.n→Later own I1 K C p I' V' C→PRes I' V' g x→Z5z o p K.n g Q→∃U g m I' V',Ending.returned x=.returned U∧Q g m∧V'.n=m.length∧Has I' V' (Bk m 0) C∧PRes I' V' g U∧Fro (Bk rs 0) I V w (Bk m 0) I' V' C∧V.le V':=fun {p I' V' g x} T B Y z=>by
    rcases z with z | ⟨k,r0,y,S,hk0,z⟩ | z
    ·exact M T B Y z
    ·have A:=G4 (r:=.gone) B.has hk0 (.refl _) B.has.mem (fun _ _ _=>rfl) (fun b=>by simp[Va.drop]);exact M (V':=V'.drop k) T (B.trans A) (Y.mono (.refl _) A.va) ⟨y,S,z⟩
    ·obtain⟨own2,I2,V2,z,A⟩:=Po z T B.has;exact L (B.trans A) (Zfl A.has (Y.mono A.fro.mono A.va)) z
   split at J
   ·next r hr =>
    obtain⟨E,o2,I2,V2',vs,O,kn,k2,k3,F,k5⟩:=Q3 hT J hS.has hA;rw[←hr] at F k5;refine⟨_,Gj F k5,?_⟩;cases E with
    | nil=>exact O.elim
    | cons g E =>
     cases E with
     | cons S E=>exact O.elim
     | nil =>
      obtain⟨v,vs',rfl,hv,T⟩:=k3.uncons;obtain rfl:=T.of_nil;refine fin kn k2 ?_ O;cases g with
      | tup l=>cases(show VRep I2 (.tup l) v from hv)
      | _=>exact hv
   ·next m hr =>
    obtain⟨E,o2,I2,V2',vs,O,kn,k2,k3,F,k5⟩:=Q3 hT J hS.has hA;refine⟨_,Gj F k5,?_⟩;have hv1:∀v,vs≠[v]:=fun v e=>by
     rw[e] at F;cases hq:fn.results.toList with
     | nil=>rw[hq] at F;simp at F
     | cons r l =>
      cases l with
      | nil=>exact hr r hq
      | cons r' l=>rw[hq] at F;simp at F
    have e:Qx vs=.tuple vs.toArray:=by
     unfold Qx;split
     ·next v=>exact de rfl (hv1 v)
     ·rfl
    rw[e];exact fin (g:=.tup E) kn k2 ⟨vs,rfl,k3⟩ O
  cases e with
  | normal=>exact key fun id h=>by cases h
  | exit id=>exact J.elim
  | goto l=>exact J.elim
  | ret=>exact key fun id h=>by cases h
end
def Zja:List G:=List.replicate 64 (.v (.int .u8 0))
def zk124:List G:=List.replicate 64 (.v (.int .u8 0))
def Zkb:List G:=.v (.int .i64 0)::List.replicate 64 (.v (.int .u8 0))
def zk126:List G:=.v (.int .i64 0)::List.replicate 64 (.v (.int .u8 0))
set_option maxRecDepth 100000 in
def tab:List (Nat × TI):=[
 (2,⟨false,[.v (.int .i64 0)],none,[],false,some .i64,.no⟩),
 (3,⟨false,[.v (.int .i64 0)],none,[],false,some .i64,.no⟩),
 (4,⟨false,[.ff],none,[],false,none,.bool⟩),
 (5,⟨false,[.v (.int .u8 0)],none,[],false,some .u8,.no⟩),
 (6,⟨false,[.v (.int .u8 0)],none,[],false,some .u8,.no⟩),
 (7,⟨true,[.v (.int .i64 0),.v (.int .i64 0),.ff,.v (.int .u8 0)],none,[(2,0),(3,1),(4,2),(6,3)],false,none,.no⟩),
 (8,⟨true,[.v (.int .i64 0),.v (.int .i64 0),.ff,.v (.int .u8 0)],none,[(2,0),(3,1),(4,2),(6,3)],false,none,.no⟩),
 (9,⟨false,[.v (.string ⟨#[]⟩)],none,[],true,none,.no⟩),
 (10,⟨false,[.v (.string ⟨#[]⟩)],none,[],true,none,.no⟩),
 (11,⟨false,[.v (.string ⟨#[]⟩)],none,[],true,none,.no⟩),
 (12,⟨false,[.v (.int .u64 0)],none,[],false,some .u64,.no⟩),
 (13,⟨true,[.v (.string ⟨#[]⟩),.v (.int .u64 0)],none,[(9,0),(12,1)],false,none,.no⟩),
 (14,⟨true,[.v (.string ⟨#[]⟩),.v (.int .u64 0)],none,[(9,0),(12,1)],false,none,.no⟩),
 (15,⟨false,[.v (.pointer none)],none,[],false,none,.ptr⟩),
 (16,⟨false,[.v (.pointer none)],none,[],false,none,.ptr⟩),
 (17,⟨false,[.v (.pointer none)],none,[],false,none,.ptr⟩),
 (18,⟨true,[.v (.pointer none)],none,[(17,0)],false,none,.no⟩),
 (19,⟨true,[.v (.pointer none)],none,[(17,0)],false,none,.no⟩),
 (20,⟨false,[.v (.nilIface)],none,[],false,none,.no⟩),
 (21,⟨false,[.v (.int .i32 0)],none,[],false,some .i32,.no⟩),
 (22,⟨false,[.nl],some (71,3),[],false,none,.no⟩),
 (23,⟨true,[.v (.int .i64 0),.v (.int .i64 0),.v (.int .i64 0),.v (.int .i64 0),.nl],none,[(3,0),(3,1),(3,2),(3,3),(22,4)],false,none,.no⟩),
 (24,⟨true,[.v (.int .i64 0),.v (.int .i64 0),.v (.int .i64 0),.v (.int .i64 0),.nl],none,[(3,0),(3,1),(3,2),(3,3),(22,4)],false,none,.no⟩),
 (26,⟨false,[.v (.int .i64 0)],none,[],false,some .i64,.no⟩),
 (29,⟨true,[.v (.int .i64 0),.v (.int .i64 0),.v (.int .i64 0),.v (.int .i64 0),.nl],none,[(3,0),(3,1),(3,2),(3,3),(22,4)],false,none,.no⟩),
 (37,⟨false,[.nl],some (46,4),[],false,none,.no⟩),
 (38,⟨false,[.v (.pointer none)],none,[],false,none,.ptr⟩),
 (40,⟨false,[.v (.pointer none)],none,[],false,none,.ptr⟩),
 (44,⟨false,[.nl],some (5,1),[],false,none,.fn⟩),
 (45,⟨true,[.v (.int .i64 0),.v (.int .i64 0),.v (.int .i64 0),.nl],none,[(3,0),(3,1),(3,2),(44,3)],false,none,.no⟩),
 (46,⟨true,[.v (.int .i64 0),.v (.int .i64 0),.v (.int .i64 0),.nl],none,[(3,0),(3,1),(3,2),(44,3)],false,none,.no⟩),
 (53,⟨false,[.nl],some (61,3),[],false,none,.no⟩),
 (56,⟨false,[.nl],some (63,7),[],false,none,.no⟩),
 (58,⟨false,[.v (.pointer none)],none,[],false,none,.ptr⟩),
 (60,⟨true,[.v (.int .i64 0),.v (.int .i64 0),.v (.string ⟨#[]⟩)],none,[(3,0),(3,1),(9,2)],false,none,.no⟩),
 (61,⟨true,[.v (.int .i64 0),.v (.int .i64 0),.v (.string ⟨#[]⟩)],none,[(3,0),(3,1),(9,2)],false,none,.no⟩),
 (62,⟨true,[.v (.int .i64 0),.v (.int .i64 0),.v (.int .i64 0),.v (.string ⟨#[]⟩),.v (.int .i64 0),.v (.int .i64 0),.v (.string ⟨#[]⟩)],none,[(3,0),(3,1),(3,2),(9,3),(61,4)],false,none,.no⟩),
 (63,⟨true,[.v (.int .i64 0),.v (.int .i64 0),.v (.int .i64 0),.v (.string ⟨#[]⟩),.v (.int .i64 0),.v (.int .i64 0),.v (.string ⟨#[]⟩)],none,[(3,0),(3,1),(3,2),(9,3),(61,4)],false,none,.no⟩),
 (64,⟨false,[.nl],some (40,1),[],false,none,.no⟩),
 (65,⟨false,[.nl],some (38,1),[],false,none,.no⟩),
 (66,⟨false,[.nl],some (77,12),[],false,none,.no⟩),
 (67,⟨true,[.nl,.nl,.nl,.nl],none,[(64,0),(65,1),(66,2),(53,3)],false,none,.no⟩),
 (68,⟨true,[.nl,.nl,.nl,.nl],none,[(64,0),(65,1),(66,2),(53,3)],false,none,.no⟩),
 (70,⟨true,[.v (.int .i64 0),.v (.int .i64 0),.v (.string ⟨#[]⟩)],none,[(3,0),(3,1),(9,2)],false,none,.no⟩),
 (71,⟨true,[.v (.int .i64 0),.v (.int .i64 0),.v (.string ⟨#[]⟩)],none,[(3,0),(3,1),(9,2)],false,none,.no⟩),
 (74,⟨false,[.nl],some (164,4),[],false,none,.no⟩),
 (75,⟨false,[.nl],some (3,1),[],false,none,.no⟩),
 (76,⟨true,[.v (.int .i64 0),.v (.int .i64 0),.v (.int .i64 0),.v (.int .i64 0),.nl,.v (.int .i64 0),.v (.int .i64 0),.nl,.nl,.v (.int .i64 0),.nl,.nl],none,[(3,0),(3,1),(3,2),(3,3),(22,4),(3,5),(3,6),(74,7),(75,8),(3,9),(75,10),(53,11)],false,none,.no⟩),
 (77,⟨true,[.v (.int .i64 0),.v (.int .i64 0),.v (.int .i64 0),.v (.int .i64 0),.nl,.v (.int .i64 0),.v (.int .i64 0),.nl,.nl,.v (.int .i64 0),.nl,.nl],none,[(3,0),(3,1),(3,2),(3,3),(22,4),(3,5),(3,6),(74,7),(75,8),(3,9),(75,10),(53,11)],false,none,.no⟩),
 (83,⟨false,[.nl],some (84,3),[],false,none,.no⟩),
 (84,⟨true,[.v (.int .i64 0),.v (.int .i64 0),.v (.int .i64 0)],none,[],false,none,.arr 3 3 1⟩),
 (89,⟨true,[.v (.int .i64 0),.v (.int .i64 0)],none,[],false,none,.arr 2 3 1⟩),
 (93,⟨true,[.v (.int .i64 0),.v (.int .i64 0),.v (.string ⟨#[]⟩)],none,[(3,0),(3,1),(9,2)],false,none,.no⟩),
 (94,⟨true,[.v (.int .i64 0),.v (.int .i64 0),.v (.string ⟨#[]⟩)],none,[(3,0),(3,1),(9,2)],false,none,.no⟩),
 (96,⟨false,[.nl],some (94,3),[],false,none,.no⟩),
 (105,⟨false,[.nl],some (124,64),[],false,none,.no⟩),
 (106,⟨false,[.nl],some (126,65),[],false,none,.no⟩),
 (107,⟨true,[.nl,.nl,.nl,.v (.int .i64 0),.ff],none,[(105,0),(105,1),(106,2),(3,3),(4,4)],false,none,.no⟩),
 (108,⟨true,[.nl,.nl,.nl,.v (.int .i64 0),.ff],none,[(105,0),(105,1),(106,2),(3,3),(4,4)],false,none,.no⟩),
 (109,⟨false,[.v (.pointer none)],none,[],false,none,.ptr⟩),
 (112,⟨true,[.ff,.v (.int .i64 0),.nl],none,[(4,0),(3,1),(22,2)],false,none,.no⟩),
 (113,⟨true,[.ff,.v (.int .i64 0),.nl],none,[(4,0),(3,1),(22,2)],false,none,.no⟩),
 (114,⟨true,[.ff,.v (.int .i64 0),.nl,.ff,.v (.int .i64 0),.nl,.ff,.v (.int .i64 0),.nl,.ff,.v (.int .i64 0),.nl,.ff,.v (.int .i64 0),.nl,.ff,.v (.int .i64 0),.nl,.ff,.v (.int .i64 0),.nl],none,[],false,none,.arr 7 113 3⟩),
 (115,⟨true,[.v (.int .i64 0),.v (.int .i64 0),.v (.int .i64 0),.v (.int .i64 0),.v (.int .i64 0),.v (.int .i64 0),.v (.int .i64 0)],none,[],false,none,.arr 7 3 1⟩),
 (116,⟨true,[.ff,.ff,.ff,.ff,.ff,.ff,.ff],none,[],false,none,.arr 7 4 1⟩),
 (117,⟨true,[.v (.int .i64 0),.v (.int .i64 0),.v (.pointer none),.v (.int .i64 0),.v (.int .i64 0),.nl,.v (.int .i64 0),.ff,.ff,.ff,.v (.int .i64 0),.nl,.ff,.v (.int .i64 0),.nl,.ff,.v (.int .i64 0),.nl,.ff,.v (.int .i64 0),.nl,.ff,.v (.int .i64 0),.nl,.ff,.v (.int .i64 0),.nl,.ff,.v (.int .i64 0),.nl,.v (.int .i64 0),.v (.int .i64 0),.v (.int .i64 0),.v (.int .i64 0),.v (.int .i64 0),.v (.int .i64 0),.v (.int .i64 0),.v (.int .i64 0),.ff,.ff,.ff,.ff,.ff,.ff,.ff,.nl,.ff],none,[(3,0),(3,1),(109,2),(3,3),(3,4),(22,5),(3,6),(4,7),(4,8),(114,9),(3,30),(115,31),(116,38),(53,45),(4,46)],false,none,.no⟩),
 (118,⟨true,[.v (.int .i64 0),.v (.int .i64 0),.v (.pointer none),.v (.int .i64 0),.v (.int .i64 0),.nl,.v (.int .i64 0),.ff,.ff,.ff,.v (.int .i64 0),.nl,.ff,.v (.int .i64 0),.nl,.ff,.v (.int .i64 0),.nl,.ff,.v (.int .i64 0),.nl,.ff,.v (.int .i64 0),.nl,.ff,.v (.int .i64 0),.nl,.ff,.v (.int .i64 0),.nl,.v (.int .i64 0),.v (.int .i64 0),.v (.int .i64 0),.v (.int .i64 0),.v (.int .i64 0),.v (.int .i64 0),.v (.int .i64 0),.v (.int .i64 0),.ff,.ff,.ff,.ff,.ff,.ff,.ff,.nl,.ff],none,[(3,0),(3,1),(109,2),(3,3),(3,4),(22,5),(3,6),(4,7),(4,8),(114,9),(3,30),(115,31),(116,38),(53,45),(4,46)],false,none,.no⟩),
 (119,⟨false,[.nl],some (9,1),[],false,none,.no⟩),
 (123,⟨true,Zja,none,[],false,none,.arr 64 5 1⟩),
 (124,⟨true,zk124,none,[],false,none,.arr 64 5 1⟩),
 (125,⟨true,Zkb,none,[(3,0),(124,1)],false,none,.no⟩),
 (126,⟨true,zk126,none,[(3,0),(124,1)],false,none,.no⟩),
 (146,⟨false,[.v (.int .u64 0)],none,[],false,some .u64,.no⟩),
 (148,⟨true,[.v (.pointer none),.v (.int .i64 0),.v (.int .i64 0),.v (.int .u64 0),.v (.int .i64 0),.v (.int .i64 0),.nl,.nl,.ff],none,[(38,0),(3,1),(3,2),(146,3),(3,4),(3,5),(44,6),(119,7),(4,8)],false,none,.no⟩),
 (149,⟨true,[.v (.pointer none),.v (.int .i64 0),.v (.int .i64 0),.v (.int .u64 0),.v (.int .i64 0),.v (.int .i64 0),.nl,.nl,.ff],none,[(38,0),(3,1),(3,2),(146,3),(3,4),(3,5),(44,6),(119,7),(4,8)],false,none,.no⟩),
 (161,⟨true,[.v (.int .i64 0),.v (.int .i64 0)],none,[(3,0),(3,1)],false,none,.no⟩),
 (162,⟨true,[.v (.int .i64 0),.v (.int .i64 0)],none,[(3,0),(3,1)],false,none,.no⟩),
 (163,⟨true,[.v (.int .i64 0),.v (.int .i64 0),.v (.int .i64 0),.nl],none,[(3,0),(162,1),(22,3)],false,none,.no⟩),
 (164,⟨true,[.v (.int .i64 0),.v (.int .i64 0),.v (.int .i64 0),.nl],none,[(3,0),(162,1),(22,3)],false,none,.no⟩),
 (170,⟨false,[.nl],some (162,2),[],false,none,.no⟩),
 (171,⟨false,[.nl],some (22,1),[],false,none,.no⟩),
 (172,⟨false,[.nl],some (113,3),[],false,none,.no⟩),
 (176,⟨false,[.v (.int .u64 0)],none,[],false,some .u64,.no⟩),
 (178,⟨true,[.v (.int .u8 0),.v (.int .u8 0),.v (.int .u8 0),.v (.int .u8 0),.v (.int .u8 0),.v (.int .u8 0),.v (.int .u8 0),.v (.int .u8 0)],none,[],false,none,.arr 8 5 1⟩),
 (179,⟨true,[.v (.int .u8 0),.v (.int .u8 0),.v (.int .u8 0),.v (.int .u8 0),.v (.int .u8 0),.v (.int .u8 0),.v (.int .u8 0),.v (.int .u8 0)],none,[],false,none,.arr 8 5 1⟩),
 (188,⟨true,[.nl],none,[(170,0)],false,none,.no⟩),
 (189,⟨true,[.nl],none,[(170,0)],false,none,.no⟩),
 (201,⟨false,[.v (.int .i64 0)],none,[],false,some .i64,.no⟩),
 (208,⟨false,[.v (.int .u32 0)],none,[],false,some .u32,.no⟩),
 (210,⟨false,[.v (.int .u64 0)],none,[],false,some .u64,.no⟩),
 (214,⟨false,[.v (.pointer none)],none,[],false,none,.ptr⟩),
 (216,⟨false,[.v (.pointer none)],none,[],false,none,.ptr⟩),
 (219,⟨true,[.v (.pointer none),.v (.pointer none),.v (.pointer none),.v (.string ⟨#[]⟩)],none,[(17,0),(17,1),(17,2),(9,3)],false,none,.no⟩),
 (220,⟨true,[.v (.pointer none),.v (.pointer none),.v (.pointer none),.v (.string ⟨#[]⟩)],none,[(17,0),(17,1),(17,2),(9,3)],false,none,.no⟩),
 (221,⟨true,[],none,[],false,none,.arr 0 16 1⟩),
 (224,⟨false,[.v (.int .u8 0)],none,[],false,some .u8,.no⟩),
 (225,⟨false,[.v (.int .u8 0)],none,[],false,some .u8,.no⟩),
 (227,⟨false,[.v (.pointer none)],none,[],false,none,.ptr⟩),
 (228,⟨false,[.v (.int .i32 0)],none,[],false,some .i32,.no⟩),
 (229,⟨false,[.v (.int .i32 0)],none,[],false,some .i32,.no⟩),
 (230,⟨true,[.v (.int .u64 0),.v (.int .u64 0),.v (.int .u32 0),.v (.int .u8 0),.v (.int .u8 0),.v (.int .u8 0),.v (.int .u8 0),.v (.nilFunc),.v (.pointer none),.v (.int .i32 0),.v (.int .i32 0)],none,[(12,0),(12,1),(208,2),(224,3),(5,4),(5,5),(225,6),(226,7),(227,8),(228,9),(229,10)],false,none,.no⟩),
 (231,⟨true,[.v (.int .u64 0),.v (.int .u64 0),.v (.int .u32 0),.v (.int .u8 0),.v (.int .u8 0),.v (.int .u8 0),.v (.int .u8 0),.v (.nilFunc),.v (.pointer none),.v (.int .i32 0),.v (.int .i32 0)],none,[(12,0),(12,1),(208,2),(224,3),(5,4),(5,5),(225,6),(226,7),(227,8),(228,9),(229,10)],false,none,.no⟩),
 (232,⟨false,[.v (.pointer none)],none,[],false,none,.no⟩)]
theorem Zl3:Zkl Tryz.prog tab=true:=by kernel_rfl
theorem fnG {f:FuncId}{fn:Func}{c:Code}{d:List G}{Q:G→Prop}(hf:Tryz.prog.funcs[f]?=some fn)(h:sxC Tryz.prog tab c (Np 0 d) [] 0 (Zes tab fn Q))(b:(fn.name=="runtime.NumGoroutine")=false:=by kernel_rfl) (e:fn.body=some c:=by exact rfl) (g:d.length≤fn.ntmps:=by exact da (by kernel_rfl)) (i:Gs tab fn.ntmps c=true:=by kernel_rfl):FnV Tryz.prog f d Q :=
 Z74 (Zad Zl3) (by kernel_rfl) hf b e g i h
end Go.Proofs.YtihfaocdpmmooaaGreat
