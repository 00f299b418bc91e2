
import Derived.Test.YtmmdikhljefeiaaGreatSxMd
import Derived.Test.YtmmdikhljefeiaaGreatProg
import Derived.Test.YtmmdikhljefeiaaGreatYLaw
namespace Go.Proofs.YtmmdikhljefeiaaGreat
open Go.RowKit
inductive Sh where
 | i (k:IntKind)
 | s
 | b
def Jj:List Sh->List Value->Bool
 | [],[]=>true
 | .i k::sh,.int k' _::cs=>decide (k=k')&&Jj sh cs
 | .s::sh,.string _::cs=>Jj sh cs
 | .b::sh,.bool _::cs=>Jj sh cs
 | _,_=>false
def eqC:Value->Value->Bool
 | .int _ a,.int _ b=>a==b
 | .string a,.string b=>a.toList==b.toList
 | .bool a,.bool b=>a==b
 | _,_=>false
def Mr:List Value->List Value->Bool
 | [],[]=>true
 | a::l,b::m=>eqC a b&&Mr l m
 | _,_=>false
def Z25 (P:Program)(F:TypeId->Option (List Sh)):List Field->Nat->Option (List Sh)
 | [],_=>some []
 | f::fs,off=>match f.name=="_",Nat.beq f.offset off,F f.type,Z25 P F fs (off+(match F f.type with | some sh=>sh.length | none=>0)) with
  | false,true,some sh,some sh'=>match(P.info? f.type).map (·.size) with
   | some n=>bif Nat.beq n sh.length then some (sh++sh') else none
   | none=>none
  | _,_,_,_=>none
def Xl (P:Program):Nat->TypeId->Option (List Sh)
 | 0,_=>none
 | d+1,t=>match P.underlying t,Pi P t with
  | some (.int k),some false=>some [.i k]
  | some .string,some false=>some [.s]
  | some .bool,some false=>some [.b]
  | some (.struct fs),some true=>bif P.stoodInHeld t then none else Z25 P (Xl P d) fs.toList 0
  | _,_=>none
section
variable {P:Program}
theorem Z5 {x:Sh}{c:Value}{sh:List Sh}{cs:List Value}(h:Jj (x::sh) (c::cs)=true):Jj sh cs=true:=by
 cases x<;>cases c<;>first
  | (cases h;done)
  | (simp only[Jj,Bool.and_eq_true] at h;exact h.2)
  | exact h
theorem Fq:∀{sh:List Sh} {cs:List Value},Jj sh cs=true->cs.length=sh.length
 | [],[],_=>rfl
 | [],_::_,h=>by cases h
 | x::_,[],h=>by cases x<;>cases h
 | x::sh,c::cs,h=>by simp[Fq (Z5 h)]
theorem Oo:∀{sh b:List Sh} {cs:List Value},Jj (sh++b) cs=true->Jj sh (cs.take sh.length)=true/\Jj b (cs.drop sh.length)=true
 | [],b,cs,h=>⟨by simp[Jj],by simpa using h⟩
 | x::sh,b,[],h=>by cases x<;>cases h
 | x::sh,b,c::cs,h=>by
  have key:Jj (sh++b) cs=true/\∀l,Jj sh l=true->Jj (x::sh) (c::l)=true:=by
   cases x<;>cases c<;>first
    | (cases h;done)
    | (simp only[List.cons_append,Jj,Bool.and_eq_true] at h;exact⟨h.2,λl d=>by simp only[Jj,Bool.and_eq_true];exact⟨h.1,d⟩⟩)
    | exact⟨h,λl d=>d⟩
  obtain⟨f,e⟩:=Oo key.1;exact⟨by simpa using key.2 _ f,by simpa using e⟩
theorem V8:∀{l m d c:List Value},l.length=m.length->Mr (l++d) (m++c)=(Mr l m&&Mr d c)
 | [],[],d,c,_=>by simp[Mr]
 | a::l,b::m,d,c,h=>by simp only[List.cons_append,Mr];rw[V8 (by simpa using h),Bool.and_assoc]
theorem Pj:∀{sh:List Sh} {cs ds:List Value},Jj sh cs=true->Jj sh ds=true->(Mr cs ds=true↔cs=ds)
 | [],cs,ds,h,h'=>by rw[az (Fq h),az (Fq h')];simp[Mr]
 | x::sh,[],ds,h,h'=>by cases x<;>cases h
 | x::sh,c::cs,[],h,h'=>by cases x<;>cases h'
 | x::sh,c::cs,d::ds,h,h'=>by
  have key:Jj sh cs=true/\Jj sh ds=true/\(eqC c d=true↔c=d):=by
   cases x<;>cases c<;>first
    | (cases h;done)
    | (cases d<;>first
     | (cases h';done)
     | (simp only[Jj,Bool.and_eq_true,decide_eq_true_eq] at h h'
        refine⟨h.2,h'.2,?_⟩;rw[<-h.1,<-h'.1];simp[eqC])
     | (refine⟨h,h',?_⟩;simp[eqC,Iu]))
  simp only[Mr,Bool.and_eq_true];rw[key.2.2,Pj key.1 key.2.1];simp
theorem J8 {c:TypeId}{b:Bool}{n:Nat}(ha:Pi P c=some b)(d:(P.info? c).map (·.size)=some n)(cs:List Value)(off:Nat)(w:World):(part c cs.toArray off).run P w =
  if b=true then .ok (.agg ((cs.drop off).take n).toArray) w else(match cs[off]? with | some v=>.ok v w | none=>.halt (.stuck "part: no such cell") w):=by
 unfold part;have d:=Br (P:=P) d w;simp only[Sem.run_bind,H7 ha,Result.andThen_ok];cases b with
 | true=>simp[d,Result.andThen]
 | false=>simp;split<;>simp_all [Go.stuck]
theorem Z1l:∀(d:Nat) (t:TypeId) (sh:List Sh),Xl P d t=some sh->∀cs ds:List Value,Jj sh cs=true->Jj sh ds=true->∀w:World,
  (Pi P t=some true->(Op.equalIn d t (.agg cs.toArray) (.agg ds.toArray)).run P w=.ok (Mr cs ds) w)/\(Pi P t=some false->∀a b,cs=[a]->ds=[b]->(Op.equalIn d t a b).run P w=.ok (Mr cs ds) w)/\(Pi P t=some true\/(Pi P t=some false/\sh.length=1))
 | 0,t,sh,h=>by cases h
 | d+1,t,sh,h=>by
  intro cs ds j hd w;unfold Xl at h;split at h
  .next k p g =>
   cases h;refine⟨λe=>(by rw[g] at e;cases e),λ_ a b y s=>?_,.inr ⟨g,rfl⟩⟩;subst y s;cases a<;>first | (cases j;done) | skip
   cases b<;>first | (cases hd;done) | skip
   simp only[Jj,Bool.and_eq_true,decide_eq_true_eq] at j hd;rw[<-j.1,<-hd.1,run_equalIn_int w d t k k _ _ p];simp[Mr,eqC]
  .next p g =>
   cases h;refine⟨λe=>(by rw[g] at e;cases e),λ_ a b y s=>?_,.inr ⟨g,rfl⟩⟩;subst y s;cases a<;>first | (cases j;done) | skip
   cases b<;>first | (cases hd;done) | skip
   rw[run_equalIn_string w d t _ _ p];simp[Mr,eqC]
  .next p g =>
   cases h;refine⟨λe=>(by rw[g] at e;cases e),λ_ a b y s=>?_,.inr ⟨g,rfl⟩⟩;subst y s;cases a<;>first | (cases j;done) | skip
   cases b<;>first | (cases hd;done) | skip
   rw[run_equalIn_bool w d t _ _ p];simp[Mr,eqC]
  .next i p g =>
   cases hst:P.stoodInHeld t with
   | true=>rw[hst] at h;cases h
   | false =>
    rw[hst] at h;have h:Z25 P (Xl P d) i.toList 0=some sh:=h;refine⟨λ_=>?_,λe=>(by rw[g] at e;cases e),.inl g⟩;have B:P.underlying t=some (.struct (P.fieldsOf t)):=by unfold Program.fieldsOf;rw[p]
    have D:P.fieldsOf t=i:=by unfold Program.fieldsOf;rw[p]
    rw[run_equalIn_struct w d t _ _ B hst,D];have key:∀(i:List Field) (off:Nat) (sh:List Sh),Z25 P (Xl P d) i off=some sh->Jj sh (cs.drop off)=true->Jj sh (ds.drop off)=true->(Op.eqFields d cs.toArray ds.toArray i).run P w=.ok (Mr (cs.drop off) (ds.drop off)) w:=λi=>by
     induction i with
     | nil =>
      intro off sh h j hd;cases h;rw[az (Fq j),az (Fq hd)];simp[Op.eqFields,Mr]
     | cons f i ih =>
      intro off sh h j hd;unfold Z25 at h;split at h
      .next c r C A G E =>
       split at h
       .next n z =>
        cases u:Nat.beq n c.length with
        | false=>rw[u] at h;cases h
        | true =>
         rw[u] at h;have h:some (c++r)=some sh:=h;cases h;have u:=ax u;subst u;have A:=ax A;rw[G] at E;obtain⟨c1,M⟩:=Oo j;obtain⟨J,K⟩:=Oo hd;have v:((cs.drop off).take c.length).length=c.length:=Fq c1;have x:((ds.drop off).take c.length).length=c.length:=Fq J;obtain⟨O,L,m⟩:=Z1l d f.type c G _ _ c1 J w;have C:f.name≠"_" := by simpa using C
         have q:=ih (off+c.length) r E (by rw[<-List.drop_drop];exact M) (by rw[<-List.drop_drop];exact K);have o:Mr (cs.drop off) (ds.drop off)=(Mr ((cs.drop off).take c.length) ((ds.drop off).take c.length)&&Mr (cs.drop (off+c.length)) (ds.drop (off+c.length))):=by rw[<-List.drop_drop,<-List.drop_drop,<-V8 (by rw[v,x]),dh,dh]
         have fin:∀(b:Bool),(if(!b)=true then pure false else Op.eqFields d cs.toArray ds.toArray i:Sem Bool).run P w=.ok (b&&Mr (cs.drop (off+c.length)) (ds.drop (off+c.length))) w:=λb=>by
          cases b with
          | true=>simpa using q
          | false=>simp
         simp only[Op.eqFields,C,ne_eq,not_false_eq_true,if_true,Sem.run_bind,A];rw[o,<-fin];rcases m with m | ⟨m,q4⟩
         .rw[J8 m z,dq rfl,Result.andThen_ok,J8 m z,dq rfl,Result.andThen_ok,O m,Result.andThen_ok]
         .obtain⟨a,ha⟩:∃a,(cs.drop off).take c.length=[a]:=List.length_eq_one_iff.1 (by rw[v,q4]);obtain⟨b,F⟩:∃b,(ds.drop off).take c.length=[b]:=List.length_eq_one_iff.1 (by rw[x,q4]);have get:∀{l:List Value} {a:Value},(l.drop off).take c.length=[a]->l[off]?=some a:=λ{l a} h=>by
           have:=congrArg (·[0]?) h;rw[br,ce,dq (by omega)] at this;simpa using this
          rw[J8 m z,dp (by simp),get ha];simp only[Result.andThen_ok];rw[J8 m z,dp (by simp),get F];simp only[Result.andThen_ok];rw[L m a b ha F,Result.andThen_ok]
       .cases h
      .cases h
    simpa using key i.toList 0 sh h (by simpa using j) (by simpa using hd)
  .cases h
theorem EvEq.flat {t:TypeId}{l m:List G}{K:Bool->Prop}(sh:List Sh)(cs ds:List Value)(c:Xl P 10000 t=some sh)(i:P.eqGuardType P.depth t=false)(ha:Pi P t=some true)(f:R0 l cs)(h:R0 m ds)(b:Jj sh cs=true)(hd:Jj sh ds=true)(g:cs=ds->K true)(d:cs≠ds->K false):EvEq P t l m K:=by
 refine⟨cs,ds,Mr cs ds,f,h,i,λw=>(Z1l 10000 t sh c cs ds b hd w).1 ha,?_⟩;cases hb:Mr cs ds with
 | true=>exact g ((Pj b hd).1 hb)
 | false=>exact d λe=>by rw[(Pj b hd).2 e] at hb;cases hb
end
set_option maxRecDepth 100000 in
def tab:List (Nat × TI):=[
 (2,⟨false,[.v (.int .i64 0)],none,[],false,some .i64,.no⟩),
 (3,⟨false,[.v (.int .i64 0)],none,[],false,some .i64,.no⟩),
 (4,⟨false,[.ff],none,[],false,none,.bool⟩),
 (5,⟨false,[.v (.int .u8 0)],none,[],false,some .u8,.no⟩),
 (6,⟨false,[.v (.int .u8 0)],none,[],false,some .u8,.no⟩),
 (7,⟨true,[.v (.int .i64 0),.v (.int .i64 0),.ff,.v (.int .u8 0)],none,[(2,0),(3,1),(4,2),(6,3)],false,none,.no⟩),
 (8,⟨true,[.v (.int .i64 0),.v (.int .i64 0),.ff,.v (.int .u8 0)],none,[(2,0),(3,1),(4,2),(6,3)],false,none,.no⟩),
 (9,⟨false,[.v (.string ⟨#[]⟩)],none,[],true,none,.no⟩),
 (10,⟨false,[.v (.string ⟨#[]⟩)],none,[],true,none,.no⟩),
 (11,⟨false,[.v (.string ⟨#[]⟩)],none,[],true,none,.no⟩),
 (12,⟨false,[.v (.int .u64 0)],none,[],false,some .u64,.no⟩),
 (13,⟨true,[.v (.string ⟨#[]⟩),.v (.int .u64 0)],none,[(9,0),(12,1)],false,none,.no⟩),
 (14,⟨true,[.v (.string ⟨#[]⟩),.v (.int .u64 0)],none,[(9,0),(12,1)],false,none,.no⟩),
 (15,⟨false,[.v (.pointer none)],none,[],false,none,.ptr⟩),
 (16,⟨false,[.v (.pointer none)],none,[],false,none,.ptr⟩),
 (17,⟨false,[.v (.pointer none)],none,[],false,none,.ptr⟩),
 (18,⟨true,[.v (.pointer none)],none,[(17,0)],false,none,.no⟩),
 (19,⟨true,[.v (.pointer none)],none,[(17,0)],false,none,.no⟩),
 (20,⟨false,[.v (.nilIface)],none,[],false,none,.no⟩),
 (21,⟨false,[.v (.int .i32 0)],none,[],false,some .i32,.no⟩),
 (22,⟨true,[.v (.int .i64 0),.v (.int .i64 0)],none,[(3,0),(3,1)],false,none,.no⟩),
 (23,⟨true,[.v (.int .i64 0),.v (.int .i64 0)],none,[(3,0),(3,1)],false,none,.no⟩),
 (24,⟨true,[.v (.int .i64 0),.v (.int .i64 0),.v (.int .i64 0),.v (.string ⟨#[]⟩)],none,[(3,0),(3,1),(3,2),(9,3)],false,none,.no⟩),
 (25,⟨true,[.v (.int .i64 0),.v (.int .i64 0),.v (.int .i64 0),.v (.string ⟨#[]⟩)],none,[(3,0),(3,1),(3,2),(9,3)],false,none,.no⟩),
 (26,⟨true,[.v (.int .i64 0),.v (.int .i64 0),.v (.int .i64 0),.v (.int .i64 0),.v (.int .i64 0),.v (.int .i64 0),.v (.int .i64 0),.v (.string ⟨#[]⟩),.v (.string ⟨#[]⟩),.v (.int .i64 0),.v (.int .i64 0),.v (.int .i64 0),.v (.string ⟨#[]⟩),.ff,.v (.int .i64 0),.v (.int .i64 0),.v (.int .i64 0),.v (.string ⟨#[]⟩)],none,[(3,0),(3,1),(3,2),(23,3),(23,5),(9,7),(9,8),(25,9),(4,13),(3,14),(3,15),(3,16),(9,17)],false,none,.no⟩),
 (27,⟨true,[.v (.int .i64 0),.v (.int .i64 0),.v (.int .i64 0),.v (.int .i64 0),.v (.int .i64 0),.v (.int .i64 0),.v (.int .i64 0),.v (.string ⟨#[]⟩),.v (.string ⟨#[]⟩),.v (.int .i64 0),.v (.int .i64 0),.v (.int .i64 0),.v (.string ⟨#[]⟩),.ff,.v (.int .i64 0),.v (.int .i64 0),.v (.int .i64 0),.v (.string ⟨#[]⟩)],none,[(3,0),(3,1),(3,2),(23,3),(23,5),(9,7),(9,8),(25,9),(4,13),(3,14),(3,15),(3,16),(9,17)],false,none,.no⟩),
 (28,⟨false,[.v (.int .i64 0)],none,[],false,some .i64,.no⟩),
 (31,⟨true,[.v (.int .i64 0),.v (.int .i64 0)],none,[(3,0),(3,1)],false,none,.no⟩),
 (32,⟨true,[.v (.int .i64 0),.v (.int .i64 0),.v (.int .i64 0),.v (.string ⟨#[]⟩)],none,[(3,0),(3,1),(3,2),(9,3)],false,none,.no⟩),
 (33,⟨true,[.v (.int .i64 0),.v (.int .i64 0),.v (.int .i64 0),.v (.int .i64 0),.v (.int .i64 0),.v (.int .i64 0),.v (.int .i64 0),.v (.string ⟨#[]⟩),.v (.string ⟨#[]⟩),.v (.int .i64 0),.v (.int .i64 0),.v (.int .i64 0),.v (.string ⟨#[]⟩),.ff,.v (.int .i64 0),.v (.int .i64 0),.v (.int .i64 0),.v (.string ⟨#[]⟩)],none,[(3,0),(3,1),(3,2),(31,3),(31,5),(9,7),(9,8),(32,9),(4,13),(3,14),(3,15),(3,16),(9,17)],false,none,.no⟩),
 (34,⟨true,[.v (.int .i64 0),.v (.int .i64 0),.v (.int .i64 0),.v (.int .i64 0),.v (.int .i64 0),.v (.int .i64 0),.v (.int .i64 0),.v (.string ⟨#[]⟩),.v (.string ⟨#[]⟩),.v (.int .i64 0),.v (.int .i64 0),.v (.int .i64 0),.v (.string ⟨#[]⟩),.ff,.v (.int .i64 0),.v (.int .i64 0),.v (.int .i64 0),.v (.string ⟨#[]⟩)],none,[(3,0),(3,1),(3,2),(31,3),(31,5),(9,7),(9,8),(32,9),(4,13),(3,14),(3,15),(3,16),(9,17)],false,none,.no⟩),
 (45,⟨false,[.nl],some (27,18),[],false,none,.no⟩),
 (46,⟨false,[.v (.pointer none)],none,[],false,none,.ptr⟩),
 (49,⟨true,[.v (.int .i64 0),.v (.int .i64 0),.v (.int .i64 0),.v (.int .i64 0),.v (.int .i64 0),.v (.int .i64 0),.v (.int .i64 0),.v (.int .i64 0)],none,[(31,0),(3,2),(3,3),(3,4),(3,5),(3,6),(3,7)],false,none,.no⟩),
 (50,⟨true,[.v (.int .i64 0),.v (.int .i64 0),.v (.int .i64 0),.v (.int .i64 0),.v (.int .i64 0),.v (.int .i64 0),.v (.int .i64 0),.v (.int .i64 0)],none,[(31,0),(3,2),(3,3),(3,4),(3,5),(3,6),(3,7)],false,none,.no⟩),
 (51,⟨false,[.nl],some (9,1),[],false,none,.no⟩),
 (52,⟨true,[.v (.int .i64 0),.v (.int .i64 0),.v (.int .i64 0),.v (.string ⟨#[]⟩),.v (.int .i64 0),.v (.int .i64 0),.v (.int .i64 0),.v (.int .i64 0),.v (.int .i64 0),.v (.int .i64 0),.v (.int .i64 0),.v (.int .i64 0),.nl],none,[(28,0),(31,1),(9,3),(50,4),(51,12)],false,none,.no⟩),
 (53,⟨true,[.v (.int .i64 0),.v (.int .i64 0),.v (.int .i64 0),.v (.string ⟨#[]⟩),.v (.int .i64 0),.v (.int .i64 0),.v (.int .i64 0),.v (.int .i64 0),.v (.int .i64 0),.v (.int .i64 0),.v (.int .i64 0),.v (.int .i64 0),.nl],none,[(28,0),(31,1),(9,3),(50,4),(51,12)],false,none,.no⟩),
 (58,⟨false,[.nl],some (124,9),[],false,none,.no⟩),
 (59,⟨false,[.nl],some (230,3),[],false,none,.no⟩),
 (60,⟨false,[.nl],some (3,1),[],false,none,.no⟩),
 (61,⟨true,[.v (.int .i64 0),.nl,.nl,.nl],none,[(3,0),(58,1),(59,2),(60,3)],false,none,.no⟩),
 (62,⟨true,[.v (.int .i64 0),.nl,.nl,.nl],none,[(3,0),(58,1),(59,2),(60,3)],false,none,.no⟩),
 (63,⟨false,[.nl],some (76,15),[],false,none,.no⟩),
 (64,⟨true,[.v (.int .i64 0),.nl,.nl,.nl,.nl],none,[(62,0),(63,4)],false,none,.no⟩),
 (65,⟨true,[.v (.int .i64 0),.nl,.nl,.nl,.nl],none,[(62,0),(63,4)],false,none,.no⟩),
 (71,⟨true,[.v (.int .i64 0),.v (.int .i64 0),.v (.int .i64 0),.v (.int .i64 0),.v (.int .i64 0),.v (.int .i64 0),.v (.int .i64 0),.v (.int .i64 0)],none,[(3,0),(3,1),(3,2),(3,3),(3,4),(3,5),(3,6),(3,7)],false,none,.no⟩),
 (72,⟨true,[.v (.int .i64 0),.v (.int .i64 0),.v (.int .i64 0),.v (.int .i64 0),.v (.int .i64 0),.v (.int .i64 0),.v (.int .i64 0),.v (.int .i64 0)],none,[(3,0),(3,1),(3,2),(3,3),(3,4),(3,5),(3,6),(3,7)],false,none,.no⟩),
 (73,⟨true,[.v (.int .i64 0),.v (.int .i64 0),.v (.int .i64 0),.v (.string ⟨#[]⟩),.v (.int .i64 0),.v (.int .i64 0),.v (.int .i64 0),.v (.int .i64 0),.v (.int .i64 0),.v (.int .i64 0),.v (.int .i64 0),.v (.int .i64 0),.nl],none,[(28,0),(23,1),(9,3),(72,4),(51,12)],false,none,.no⟩),
 (74,⟨true,[.v (.int .i64 0),.v (.int .i64 0),.v (.int .i64 0),.v (.string ⟨#[]⟩),.v (.int .i64 0),.v (.int .i64 0),.v (.int .i64 0),.v (.int .i64 0),.v (.int .i64 0),.v (.int .i64 0),.v (.int .i64 0),.v (.int .i64 0),.nl],none,[(28,0),(23,1),(9,3),(72,4),(51,12)],false,none,.no⟩),
 (75,⟨true,[.v (.int .i64 0),.v (.int .i64 0),.v (.int .i64 0),.v (.int .i64 0),.v (.int .i64 0),.v (.string ⟨#[]⟩),.v (.int .i64 0),.v (.int .i64 0),.v (.int .i64 0),.v (.int .i64 0),.v (.int .i64 0),.v (.int .i64 0),.v (.int .i64 0),.v (.int .i64 0),.nl],none,[(3,0),(3,1),(74,2)],false,none,.no⟩),
 (76,⟨true,[.v (.int .i64 0),.v (.int .i64 0),.v (.int .i64 0),.v (.int .i64 0),.v (.int .i64 0),.v (.string ⟨#[]⟩),.v (.int .i64 0),.v (.int .i64 0),.v (.int .i64 0),.v (.int .i64 0),.v (.int .i64 0),.v (.int .i64 0),.v (.int .i64 0),.v (.int .i64 0),.nl],none,[(3,0),(3,1),(74,2)],false,none,.no⟩),
 (83,⟨false,[.v (.pointer none)],none,[],false,none,.ptr⟩),
 (89,⟨false,[.nl],some (98,3),[],false,none,.no⟩),
 (90,⟨false,[.nl],some (96,4),[],false,none,.no⟩),
 (92,⟨false,[.v (.pointer none)],none,[],false,none,.ptr⟩),
 (93,⟨false,[.v (.pointer none)],none,[],false,none,.ptr⟩),
 (94,⟨false,[.v (.pointer none)],none,[],false,none,.ptr⟩),
 (95,⟨true,[.v (.pointer none),.v (.pointer none),.v (.pointer none),.v (.int .i64 0)],none,[(92,0),(93,1),(94,2),(3,3)],false,none,.no⟩),
 (96,⟨true,[.v (.pointer none),.v (.pointer none),.v (.pointer none),.v (.int .i64 0)],none,[(92,0),(93,1),(94,2),(3,3)],false,none,.no⟩),
 (97,⟨true,[.v (.int .i64 0),.v (.int .i64 0),.v (.string ⟨#[]⟩)],none,[(3,0),(3,1),(9,2)],false,none,.no⟩),
 (98,⟨true,[.v (.int .i64 0),.v (.int .i64 0),.v (.string ⟨#[]⟩)],none,[(3,0),(3,1),(9,2)],false,none,.no⟩),
 (100,⟨false,[.nl],some (5,1),[],false,none,.fn⟩),
 (111,⟨false,[.v (.map none)],none,[],false,none,.map false 115⟩),
 (112,⟨true,[.v (.pointer none),.v (.map none)],none,[(83,0),(111,1)],false,none,.no⟩),
 (113,⟨true,[.v (.pointer none),.v (.map none)],none,[(83,0),(111,1)],false,none,.no⟩),
 (114,⟨true,[.v (.int .i64 0),.v (.int .i64 0),.v (.int .i64 0),.v (.int .i64 0),.v (.string ⟨#[]⟩),.v (.int .i64 0),.v (.int .i64 0),.v (.int .i64 0),.v (.int .i64 0),.v (.int .i64 0),.v (.int .i64 0),.v (.int .i64 0),.v (.int .i64 0),.nl],none,[(3,0),(53,1)],false,none,.no⟩),
 (115,⟨true,[.v (.int .i64 0),.v (.int .i64 0),.v (.int .i64 0),.v (.int .i64 0),.v (.string ⟨#[]⟩),.v (.int .i64 0),.v (.int .i64 0),.v (.int .i64 0),.v (.int .i64 0),.v (.int .i64 0),.v (.int .i64 0),.v (.int .i64 0),.v (.int .i64 0),.nl],none,[(3,0),(53,1)],false,none,.no⟩),
 (121,⟨true,[.nl,.nl],none,[(100,0),(60,1)],false,none,.no⟩),
 (122,⟨true,[.nl,.nl],none,[(100,0),(60,1)],false,none,.no⟩),
 (123,⟨true,[.v (.int .i64 0),.v (.int .i64 0),.v (.int .i64 0),.v (.int .i64 0),.v (.int .i64 0),.v (.int .i64 0),.v (.string ⟨#[]⟩),.nl,.nl],none,[(3,0),(3,1),(3,2),(3,3),(3,4),(3,5),(9,6),(122,7)],false,none,.no⟩),
 (124,⟨true,[.v (.int .i64 0),.v (.int .i64 0),.v (.int .i64 0),.v (.int .i64 0),.v (.int .i64 0),.v (.int .i64 0),.v (.string ⟨#[]⟩),.nl,.nl],none,[(3,0),(3,1),(3,2),(3,3),(3,4),(3,5),(9,6),(122,7)],false,none,.no⟩),
 (134,⟨false,[.v (.pointer none)],none,[],false,none,.ptr⟩),
 (135,⟨false,[.v (.pointer none)],none,[],false,none,.ptr⟩),
 (136,⟨true,[.v (.pointer none),.v (.pointer none),.v (.string ⟨#[]⟩)],none,[(134,0),(135,1),(9,2)],false,none,.no⟩),
 (137,⟨true,[.v (.pointer none),.v (.pointer none),.v (.string ⟨#[]⟩)],none,[(134,0),(135,1),(9,2)],false,none,.no⟩),
 (142,⟨true,[.v (.int .i64 0),.v (.int .i64 0),.v (.int .i64 0),.v (.int .i64 0),.v (.int .i64 0),.v (.nilIface)],none,[(31,0),(3,2),(3,3),(3,4),(20,5)],false,none,.no⟩),
 (143,⟨true,[.v (.int .i64 0),.v (.int .i64 0),.v (.int .i64 0),.v (.int .i64 0),.v (.int .i64 0),.v (.nilIface)],none,[(31,0),(3,2),(3,3),(3,4),(20,5)],false,none,.no⟩),
 (144,⟨false,[.v (.map none)],none,[],false,none,.map false 134⟩),
 (145,⟨false,[.v (.map none)],none,[],false,none,.map false 3⟩),
 (146,⟨true,[.v (.int .i64 0),.v (.map none),.v (.map none)],none,[(3,0),(144,1),(145,2)],false,none,.no⟩),
 (147,⟨true,[.v (.int .i64 0),.v (.map none),.v (.map none)],none,[(3,0),(144,1),(145,2)],false,none,.no⟩),
 (148,⟨false,[.v (.pointer none)],none,[],false,none,.ptr⟩),
 (150,⟨false,[.v (.map none)],none,[],false,none,.map true 3⟩),
 (151,⟨true,[.v (.map none),.v (.int .i64 0)],none,[(150,0),(3,1)],false,none,.no⟩),
 (152,⟨true,[.v (.map none),.v (.int .i64 0)],none,[(150,0),(3,1)],false,none,.no⟩),
 (154,⟨false,[.v (.pointer none)],none,[],false,none,.ptr⟩),
 (156,⟨true,[.v (.int .i64 0),.nl],none,[(3,0),(90,1)],false,none,.no⟩),
 (157,⟨false,[.nl],some (156,2),[],false,none,.no⟩),
 (164,⟨false,[.v (.int .u64 0)],none,[],false,some .u64,.no⟩),
 (190,⟨false,[.v (.map none)],none,[],false,none,.map false 234⟩),
 (191,⟨true,[.v (.int .i64 0),.v (.map none)],none,[(3,0),(190,1)],false,none,.no⟩),
 (192,⟨true,[.v (.int .i64 0),.v (.map none)],none,[(3,0),(190,1)],false,none,.no⟩),
 (193,⟨true,[.v (.int .i64 0),.v (.int .i64 0),.v (.int .i64 0),.v (.int .i64 0),.v (.int .i64 0),.v (.int .i64 0),.v (.int .i64 0),.v (.int .i64 0),.v (.int .i64 0),.v (.int .i64 0),.v (.int .i64 0),.v (.int .i64 0)],none,[],false,none,.arr 12 3 1⟩),
 (195,⟨false,[.v (.int .u64 0)],none,[],false,some .u64,.no⟩),
 (218,⟨true,[.v (.int .i64 0),.v (.int .i64 0),.v (.string ⟨#[]⟩),.v (.int .i64 0),.v (.int .i64 0),.v (.string ⟨#[]⟩)],none,[(23,0),(9,2),(23,3),(9,5)],false,none,.no⟩),
 (219,⟨true,[.v (.int .i64 0),.v (.int .i64 0),.v (.string ⟨#[]⟩),.v (.int .i64 0),.v (.int .i64 0),.v (.string ⟨#[]⟩)],none,[(23,0),(9,2),(23,3),(9,5)],false,none,.no⟩),
 (229,⟨true,[.v (.int .i64 0),.v (.string ⟨#[]⟩),.v (.int .i64 0)],none,[(3,0),(9,1),(3,2)],false,none,.no⟩),
 (230,⟨true,[.v (.int .i64 0),.v (.string ⟨#[]⟩),.v (.int .i64 0)],none,[(3,0),(9,1),(3,2)],false,none,.no⟩),
 (233,⟨true,[.v (.int .u8 0),.v (.int .u8 0),.v (.int .u8 0),.v (.int .u8 0),.v (.int .u8 0),.v (.int .u8 0),.v (.int .u8 0),.v (.int .u8 0),.v (.int .u8 0),.v (.int .u8 0),.v (.int .u8 0),.v (.int .u8 0),.v (.int .u8 0),.v (.int .u8 0),.v (.int .u8 0),.v (.int .u8 0)],none,[],false,none,.arr 16 5 1⟩),
 (234,⟨true,[.v (.int .u8 0),.v (.int .u8 0),.v (.int .u8 0),.v (.int .u8 0),.v (.int .u8 0),.v (.int .u8 0),.v (.int .u8 0),.v (.int .u8 0),.v (.int .u8 0),.v (.int .u8 0),.v (.int .u8 0),.v (.int .u8 0),.v (.int .u8 0),.v (.int .u8 0),.v (.int .u8 0),.v (.int .u8 0)],none,[],false,none,.arr 16 5 1⟩),
 (264,⟨false,[.v (.int .i64 0)],none,[],false,some .i64,.no⟩),
 (272,⟨false,[.v (.int .u32 0)],none,[],false,some .u32,.no⟩),
 (275,⟨false,[.v (.int .u64 0)],none,[],false,some .u64,.no⟩),
 (282,⟨false,[.v (.pointer none)],none,[],false,none,.ptr⟩),
 (293,⟨true,[.v (.pointer none),.v (.pointer none),.v (.pointer none),.v (.string ⟨#[]⟩)],none,[(17,0),(17,1),(17,2),(9,3)],false,none,.no⟩),
 (294,⟨true,[.v (.pointer none),.v (.pointer none),.v (.pointer none),.v (.string ⟨#[]⟩)],none,[(17,0),(17,1),(17,2),(9,3)],false,none,.no⟩),
 (295,⟨true,[],none,[],false,none,.arr 0 16 1⟩),
 (298,⟨false,[.v (.int .u8 0)],none,[],false,some .u8,.no⟩),
 (299,⟨false,[.v (.int .u8 0)],none,[],false,some .u8,.no⟩),
 (301,⟨false,[.v (.pointer none)],none,[],false,none,.ptr⟩),
 (302,⟨false,[.v (.int .i32 0)],none,[],false,some .i32,.no⟩),
 (303,⟨false,[.v (.int .i32 0)],none,[],false,some .i32,.no⟩),
 (304,⟨true,[.v (.int .u64 0),.v (.int .u64 0),.v (.int .u32 0),.v (.int .u8 0),.v (.int .u8 0),.v (.int .u8 0),.v (.int .u8 0),.v (.nilFunc),.v (.pointer none),.v (.int .i32 0),.v (.int .i32 0)],none,[(12,0),(12,1),(272,2),(298,3),(5,4),(5,5),(299,6),(300,7),(301,8),(302,9),(303,10)],false,none,.no⟩),
 (305,⟨true,[.v (.int .u64 0),.v (.int .u64 0),.v (.int .u32 0),.v (.int .u8 0),.v (.int .u8 0),.v (.int .u8 0),.v (.int .u8 0),.v (.nilFunc),.v (.pointer none),.v (.int .i32 0),.v (.int .i32 0)],none,[(12,0),(12,1),(272,2),(298,3),(5,4),(5,5),(299,6),(300,7),(301,8),(302,9),(303,10)],false,none,.no⟩),
 (306,⟨false,[.v (.pointer none)],none,[],false,none,.no⟩)]
theorem Zew:Zfw Tryz.prog tab=true:=by kernel_rfl
theorem fnG {f:FuncId}{fn:Func}{c:Code}{gs:List G}{Q:G->Prop}(d:Tryz.prog.funcs[f]?=some fn)(h:sxC Tryz.prog tab c (K9 0 gs) [] 0 (Zcy tab fn Q))(b:(fn.name=="runtime.NumGoroutine")=false:=by kernel_rfl) (g:fn.body=some c:=by exact rfl) (e:gs.length<=fn.ntmps:=by exact dn (by kernel_rfl)) (i:Fd tab fn.ntmps c=true:=by kernel_rfl):FnV Tryz.prog f gs Q :=
 Z5f (Z2a Zew) (by kernel_rfl) d b g e i h
theorem Z8l {f:FuncId}{fn:Func}{c:Code}{gs d:List G}{rs:List R}{own0:Os}{n0:Nat}{b:List Nat}{Q:G->List R->Prop}(g:Tryz.prog.funcs[f]?=some fn)(i:Zal rs gs own0 n0 d b)(h:sxC Tryz.prog tab c (K9 0 d) own0 n0 (Z6v tab fn b Q))(e:(fn.name=="runtime.NumGoroutine")=false:=by kernel_rfl) (k:fn.body=some c:=by exact rfl) (j:d.length<=fn.ntmps:=by exact dn (by kernel_rfl)) (l:Fd tab fn.ntmps c=true:=by kernel_rfl):FnO Tryz.prog f gs rs Q :=
 Yb (Z2a Zew) (by kernel_rfl) g e k j l i h
open Go.ChangeShapes Go.WideShapes Go.ChangeAt Go.RowKit
inductive Sp where
 | i (k:IntKind)
 | s
 | b
 | sl (e:List Sp)
def V9 (P:Program)(F:TypeId->Option (List Sp)):List Field->Nat->Option (List Sp)
 | [],_=>some []
 | f::fs,off=>match Nat.beq f.offset off,F f.type with
  | true,some sh=>match Nat.beq (P.cellsOf f.type) sh.length,V9 P F fs (off+sh.length) with
   | true,some sh'=>some (sh++sh')
   | _,_=>none
  | _,_=>none
def Zdw:Nat->List Sp->List Sp
 | 0,_=>[]
 | n+1,l=>l++Zdw n l
def Pd (P:Program):Nat->TypeId->Option (List Sp)
 | 0,_=>none
 | d+1,t=>match P.underlying t with
  | some (.int k)=>some [.i k]
  | some .string=>some [.s]
  | some .bool=>some [.b]
  | some (.slice e)=>match Pd P d e with
   | some sh=>bif Nat.beq (P.cellsOf e) sh.length&&Nat.blt 0 sh.length then some [.sl sh] else none
   | none=>none
  | some (.struct fs)=>match V9 P (Pd P d) fs.toList 0 with
   | some sh=>bif Nat.beq (P.cellsOf t) sh.length then some sh else none
   | none=>none
  | some (.array n e)=>match Pd P d e with
   | some sh=>bif Nat.beq (P.cellsOf e) sh.length&&Nat.beq (P.cellsOf t) (n * sh.length) then some (Zdw n sh) else none
   | none=>none
  | _=>none
inductive TyL:List Sp->List G->Prop
 | nil:TyL [] []
 | i {k:IntKind} {l:List Sp} {gs:List G} (n:Int) (hn:k.min<=n/\n<=k.max) (h:TyL l gs):TyL (.i k::l) (.v (.int k n)::gs)
 | s {l:List Sp} {gs:List G} (s:ByteArray) (hs:s.size<=maxLen) (h:TyL l gs):TyL (.s::l) (.v (.string s)::gs)
 | b {l:List Sp} {gs:List G} (b:Bool) (h:TyL l gs):TyL (.b::l) (.v (.bool b)::gs)
 | sl {e l:List Sp} {gs:List G} (rows:List (List G)) (hl:rows.length<=maxLen) (hr:∀r∈rows,TyL e r) (h:TyL l gs):TyL (.sl e::l) (.sl rows::gs)
theorem TyL.nil_inv {gs:List G}(h:TyL [] gs):gs=[]:=by cases h;rfl
theorem TyL.i_inv {k:IntKind}{l:List Sp}{gs:List G}(h:TyL (.i k::l) gs):∃n b,gs=.v (.int k n)::b/\(k.min<=n/\n<=k.max)/\TyL l b:=by cases h with | i n hn h=>exact⟨n,_,rfl,hn,h⟩
theorem TyL.s_inv {l:List Sp}{gs:List G}(h:TyL (.s::l) gs):∃s b,gs=.v (.string s)::b/\s.size<=maxLen/\TyL l b:=by cases h with | s n hn h=>exact⟨n,_,rfl,hn,h⟩
theorem TyL.b_inv {l:List Sp}{gs:List G}(h:TyL (.b::l) gs):∃b c,gs=.v (.bool b)::c/\True/\TyL l c:=by cases h with | b n h=>exact⟨n,_,rfl,trivial,h⟩
theorem TyL.sl_inv {e l:List Sp}{gs:List G}(h:TyL (.sl e::l) gs):∃b c,gs=.sl b::c/\b.length<=maxLen/\(∀r∈b,TyL e r)/\TyL l c:=by cases h with | sl n h1 h2 h=>exact⟨n,_,rfl,h1,h2,h⟩
theorem TyL.app {l m:List Sp}{gs c:List G}(h:TyL l gs)(d:TyL m c):TyL (l++m) (gs++c):=by
 induction h with
 | nil=>exact d
 | i n hn _ ih=>exact .i n hn ih
 | s n hn _ ih=>exact .s n hn ih
 | b n _ ih=>exact .b n ih
 | sl n h1 h2 _ _ ih=>exact .sl n h1 h2 ih
theorem TyL.len {l:List Sp}{gs:List G}(h:TyL l gs):gs.length=l.length:=by
 induction h with
 | nil=>rfl
 | i _ _ _ ih=>simp[ih]
 | s _ _ _ ih=>simp[ih]
 | b _ _ ih=>simp[ih]
 | sl _ _ _ _ _ ih=>simp[ih]
theorem Z7x {α:Type}{f:α->List G}{Q:α->Prop}{b:List (List G)}(h:∀r∈b,∃x,r=f x/\Q x):∃l:List α,b=l.map f/\∀x∈l,Q x:=by
 induction b with
 | nil=>exact⟨[],rfl,by simp⟩
 | cons r b ih =>
  obtain⟨l,e,d⟩:=ih λr hr=>h r (by simp[hr]);obtain⟨x,rfl,g⟩:=h r (by simp);exact⟨x::l,by simp[e],λy c=>by
   rcases bq.1 c with rfl | c
   .exact g
   .exact d y c⟩
def Z23 (W:World):Imm:=λb o=>W.cell? ⟨b,o,none⟩
theorem Z3w (W:World):Mem (Z23 W) W:=λ_ _ _ h=>h
section
variable {P:Program} {W:World} {H:Type} {enc:TypeId × Value->H}
theorem Zdb {k:IntKind}{n:Int}(h:(Lit.int k n).wf=true):k.min<=n/\n<=k.max:=by have b:(decide (k.min<=n)&&decide (n<=k.max))=true:=h;simp only[Bool.and_eq_true,decide_eq_true_eq] at b;exact b
theorem Kl {Q:G->Value->Prop}{gs b:List G}{cs:List Value}{n:Nat}(d:PW Q gs (cs.take n))(c:PW Q b (cs.drop n)):PW Q (gs++b) cs:=by
 have:=d.append c
 rwa [dh] at this
theorem Z9j {F:FuncId}{gs:List G}(h:FnV P F gs λq=>q=.v (.bool true)){vs:List Value}(b:PW (VRep (Z23 W)) gs vs):Calls P F vs.toArray W λe c=>e=.returned (.bool true)/\Below W.heap.size W c :=
 (h.2 (Z23 W) W vs (Z3w W) b).mono λe w' ⟨x,g,I',he,hq,_,hx,_,_,hb⟩=>by subst hq;cases(show VRep I' (.v (.bool true)) x from hx);exact⟨he,hb⟩
end
def gB (b:Bool):G:=match b with
 | true=>.tt
 | false=>.ff
def gSt (s:ByteArray):List G:=[.v (.string s)]
theorem eqI {a b:Int}(h:a=b):(some (G.v (.int .i64 a)):Option G)=some (G.v (.int .i64 b)):=by rw[h]
theorem eqN {a b:Nat}(h:b=a):(some (G.v (.int .i64 a)):Option G)=some (G.v (.int .i64 b)):=by rw[h]
theorem Zcq {a b:Nat}(h:b=a+1):(some (G.v (.int .i64 ((a:Int)+1))):Option G)=some (G.v (.int .i64 b)):=by rw[h];rfl
theorem eqR {a b:List (List G)}{e sz:Nat}(h:a=b):(some (R.slc a e sz):Option R)=some (R.slc b e sz):=by rw[h]
theorem B9 {α:Type}{l:List α}{i:Nat}{x:α}(h:l[i]?=some x):l.take (i+1)=l.take i++[x]:=by have b:=(ar.1 h);rw[List.take_succ_eq_append_getElem b.1,b.2]
theorem Bd {α:Type}{l:List α}{i:Nat}{x:α}(h:l[i]?=some x):i < l.length:=(ar.1 h).1
theorem Z0b {α:Type}{p:α->Bool}{l:List α}{i:Nat}{x:α}(h:l[i]?=some x)(b:∀y∈l.take i,p y=false)(c:p x=true):l.find? p=some x:=by rw[List.find?_eq_some_iff_getElem];obtain⟨d,e⟩:=ar.1 h;refine⟨c,i,d,e,λj f=>?_⟩;have:=b l[j] (ct.2 ⟨j,by rw[bf];omega,by simp⟩);rw[this];rfl
theorem Oi {α:Type}{p:α->Prop}{l:List α}{i:Nat}{x:α}(h:l[i]?=some x)(c:∀y∈l.take i,¬p y)(d:¬p x):∀y∈l.take (i+1),¬p y:=λy b=>by
 rw[B9 h] at b;rcases cd.1 b with b | b
 .exact c y b
 .rw[bx.1 b];exact d
theorem L8 {α:Type}{p:α->Prop}{l:List α}{i:Nat}(h:¬i < l.length)(b:∀y∈l.take i,p y):∀y∈l,p y:=λy c=>b y (by rw[bc (by omega)];exact c)
theorem Jy {α β:Type}(f:β->α->β)(b:β){l:List α}{i:Nat}{x:α}(h:l[i]?=some x):(l.take (i+1)).foldl f b=f ((l.take i).foldl f b) x:=by rw[B9 h,List.foldl_append];rfl
theorem Mf {α:Type}(p:α->Bool){L:List α}{i:Nat}{m:α}(h:L[i]?=some m):(L.take (i+1)).countP p=(L.take i).countP p+if p m=true then 1 else 0:=by rw[B9 h,List.countP_append,List.countP_singleton]
def Zec:G->Bool
 | .v _ | .agg _ | .sl _=>true
 | _=>false
theorem Z5l {I:Imm}{V:Va}{g:G}{x:Value}(b:Zec g=true)(h:PRep I V g x):VRep I g x:=by cases g<;>first | exact h | cases b
theorem Z78 {I:Imm}{V:Va}{gs:List G}{vs:List Value}(c:Bw Zec gs=true)(h:PW (PRep I V) gs vs):PW (VRep I) gs vs :=
 ⟨h.1,λj g u b d=>Z5l (Ao c g (au b)) (h.2 j g u b d)⟩
theorem Sr {I:Imm}{V:Va}{w:World}{p:Ob}(l:V.n=1)(g:Mem I w)(c:Loc p/\p I (V.b 0) (V.f 0) w)(i:∀b,V.f 0 b->b < w.heap.size/\∀o,I b o=none):Has I V (Ev [.abs p] 0) w:=by
 have lk:∀k r,look k (Ev [.abs p] 0)=some r->k=0/\r=.abs p:=λk r h=>by
  rw[Bl] at h;cases k with
  | zero=>simp at h;exact⟨rfl,h.symm⟩
  | succ k=>simp at h
 refine⟨g,λk r h=>?_,λk r h=>?_,λk r b h e=>?_,λk j r r' b h d _ _=>?_⟩
 .rw[(lk k r h).1];omega
 .obtain⟨rfl,rfl⟩:=lk k r h;exact c
 .obtain⟨rfl,rfl⟩:=lk k r h;exact i b e
 .rw[(lk k r h).1,(lk j r' d).1]
def Va.setF (V:Va)(k:Nat)(S:Nat->Prop):Va:={V with f:=λj=>if j=k then S else V.f j}
theorem VR.res {I:Imm}{V:Va}{g:G}{x:Value}(h:VR I g x):PRes I V g x:=by
 cases g with
 | tup l=>obtain⟨cs,e,b⟩:=h;exact⟨cs,e,b.mono λ_ _ h=>.of_v h⟩
 | oag l=>cases(show VRep I (.oag l) x from h)
 | _=>exact PRep.of_v (V:=V) h
theorem Z38:∀{l:List Nat} {n:Nat},l.Nodup->(∀x∈l,x < n)->l.length<=n:=λ{l n} c d=>by have:=C1 (l:=l) (m:=List.range n) c λx b=>List.mem_range.2 (d x b);simpa using this
theorem Zs {α β:Type}{f:α->β}:∀{l:List α},(l.map f).Nodup->∀{a b},a∈l->b∈l->f a=f b->a=b
 | [],_,a,b,h,_,_=>by simp at h
 | x::l,hn,a,b,ha,c,e=>by
  rw[cv,List.nodup_cons] at hn;obtain⟨d,g⟩:=hn;rcases bq.1 ha with ha | ha<;>rcases bq.1 c with c | c
  .rw[ha,c]
  .exact dt (bk.2 ⟨b,c,by rw[<-e,ha]⟩) d
  .exact dt (bk.2 ⟨a,ha,by rw[e,c]⟩) d
  .exact Zs g ha c e
def Imm.new (I:Imm)(w w':World):Imm:=λb o=>if w.heap.size<=b then w'.cell? ⟨b,o,none⟩ else I b o
theorem Imm.new_le {I:Imm}{w w':World}(d:Mem I w):I.le (I.new w w'):=λb o x c=>by unfold Imm.new;rw[dp (by have:=d.lt c;omega)];exact c
theorem Imm.new_old {I:Imm}{w w':World}{b o:Nat}(c:b < w.heap.size):I.new w w' b o=I b o:=dp (by omega)
theorem Imm.new_mem {I:Imm}{w w':World}(d:Mem I w)(e:Below w.heap.size w w'):Mem (I.new w w') w':=λb o x c=>by
 unfold Imm.new at c;split at c
 .exact c
 .exact(d.keep λb o x c=>e.block b (d.lt c)) b o x c
theorem Pa {I:Imm}(cs:List Value):VRep I (.agg (cs.map .v)) (.agg cs.toArray):=.agg _ cs (by simp) λj g u b c=>by rw[ay,c] at b;cases b;exact .v u
theorem Kr {I:Imm}{cs:List Value}{x:Value}(h:VRep I (.agg (cs.map .v)) x):x=.agg cs.toArray:=by
 generalize e:cs.map G.v=l at h;cases h with
 | agg l us b hh =>
  subst e
  congr 2
  apply cy;intro j;have b:cs.length=us.length:=by simpa using b
  by_cases d:j < cs.length
  .have c:j < us.length:=by omega
   have:=hh j (.v cs[j]) us[j] (by rw[ay,aq d];rfl) (aq c);rw[aq d,aq c];generalize us[j]=u at this;cases this;rfl
  .rw[cm (by omega),cm (by omega)]
theorem Ei {I:Imm}{z x:Value}(h:VRep I (.v z) x):x=z:=by cases h;rfl
abbrev gI (n:Int):G:=.v (.int .i64 n)
abbrev gS (s:ByteArray):G:=.v (.string s)
theorem G0 {I:Imm}{a b:G}{x y:Value}(h:VRep I a x)(c:VRep I b y):VR I (.tup [a,b]) (.tuple #[x,y]):=⟨[x,y],rfl,.cons h (.cons c .nil)⟩
theorem Z3s {α:Type}{I:Imm}{w w':World}{sz c B:Nat}{f:α->List G}{h:α->List Value}{l:List α}{A:Option Addr}(o:Rd w' B sz h A l)(C:∀a,A=some a->w.heap.size<=a.block)(p:∀a,A=some a->a=⟨a.block,0,none⟩)(y:l.length<=c)(v:A=none->c=0)(q:∀x,(h x).length=sz)(s:∀x,PW (VRep (I.new w w')) (f x) (h x)):VRep (I.new w w') (.sl (l.map f)) (.slice A l.length c):=by
 have key:=VRep.sl (I:=I.new w w') (l.map f) A c sz (λi j=>((l[i]?).bind λx=>(h x)[j]?).getD undef) (by simpa using y) v (λr hr=>by obtain⟨x,-,rfl⟩:=bk.1 hr;rw[(s x).1,q]) (λi r hr=>?_) (λi r j g hr D=>?_)
 .simpa using key
 .rw[ay] at hr;obtain⟨x,m,-⟩:=bh.1 hr;obtain⟨a,rfl,-,d⟩:=o i x m;refine⟨a.block,0,congrArg some (p a rfl),λj z=>?_⟩;have k:j < (h x).length:=by rw[q];exact z
  have n:=d j _ (aq k);unfold Imm.new;rw[dq (C a rfl),m];simp only[Option.bind_some,List.getElem?_eq_getElem k,Option.getD_some];rw[<-n];have e:=p a rfl;generalize a.block=b at e;subst e;rw[Cv,Cv,co]
 .rw[ay] at hr;obtain⟨x,m,rfl⟩:=bh.1 hr;obtain⟨u,n,E⟩:=(s x).get D;rw[m];simp only[Option.bind_some,n,Option.getD_some];exact E
def Z4c (tt:List (Nat × TI))(t:Ts)(w:Os)(K:G->Os->Prop):ResultVar->Prop
 | .tmp i=>match look i t with
  | some (.osl k)=>match look k w with
   | some (.slc _ _ _)=>K (.osl k) w
   | _=>Zd8 w (.osl k) K
  | some g=>Zd8 w g K
  | none=>False
 | .cell i ty=>match look i t,look ty tt with
  | some (.ptr k off),some ti=>match look k w with
   | some (.blk cs _)=>match ti.agg with
    | true=>seg cs off ti.zero.length λl=>K (.oag l) w
    | false=>False
   | _=>False
  | _,_=>False
def U5 (tt:List (Nat × TI))(t:Ts)(w:Os):List ResultVar->(List G->Os->Prop)->Prop
 | [],K=>K [] w
 | r::rs,K=>Z4c tt t w (λg w'=>U5 tt t w' rs λgs b=>K (g::gs) b) r
def Z09:G->G
 | .tt=>.v (.bool true)
 | .ff=>.v (.bool false)
 | .nl=>.sl []
 | g=>g
theorem Wi {I:Imm}{V:Va}{g:G}{x:Value}(h:CRep I V g x):CRep I V (Z09 g) x:=by
 cases g with
 | tt =>
  have h:VRep I .tt x:=h;cases h;exact VRep.v _
 | ff =>
  have h:VRep I .ff x:=h;cases h;exact VRep.v _
 | nl =>
  have h:VRep I .nl x:=h;cases h;exact VRep.sl (I:=I) [] none 0 0 (λ_ _=>undef) (av _) (λ_=>rfl) (λr hr=>by cases hr) (λi r h=>by simp at h) (λi r j g h=>by simp at h)
 | _=>exact h
def Zbz (own:Os)(l:List G):G:=match Bw G.pure (l.map λg=>Dk own (Z09 g)) with
 | true=>.agg (l.map λg=>Dk own (Z09 g))
 | false=>.oag (l.map λg=>Dk own (Z09 g))
def Z9g (own:Os):G->G
 | .oag l=>Zbz own l
 | g=>Dk own g
def Zb1 (own:Os):G->G
 | .tup l=>.tup (l.map (Z9g own))
 | g=>Z9g own g
inductive Zah (roots:List Nat)(own:Os)(n:Nat)(g:G)(Q:G->List R->Prop):Prop
 | inl (h:∃its g',Y2 roots own n g Q its g')
 | inr (h:∃k r0 its g',look k own=some r0/\Y2 roots ((k,.gone)::own) n g Q its g')
 | gh (h:Gh (λown n=>∃its g',Y2 roots own n (Zb1 own g) Q its g') own n)
def Zy (tt:List (Nat × TI))(fn:Func)(b:List Nat)(Q:G->List R->Prop):KC:=λe t w n=>match e with
 | .exit _=>False
 | .goto _=>False
 | _=>match fn.results.toList with
  | [r]=>U5 tt t w [r] λgs own=>match gs with
   | [g]=>Zah b own n g Q
   | _=>False
  | rs=>U5 tt t w rs λgs own=>Zah b own n (.tup gs) Q
section
variable {P:Program} {tb:List (Nat × TI)} {N n0:Nat} {I:Imm} {V:Va} {a:Act} {t:Ts} {own own0:Os} {w:World}
theorem Z5v (hT:∀t i,look t tb=some i->TIok P t i){r:ResultVar}{K1:G->Os->Prop}(h:Z4c tb t own K1 r)(hH:Has I V own w)(ha:ARep N I V a t):∃g c p V' v,K1 g c/\V'.n=V.n/\Later own I V w c p V' w/\PRe1 p V' g v/\E4 P a w r v:=by
 cases r with
 | tmp i =>
  have old:Wv tb t own K1 (.tmp i)->∃g c p V' v,K1 g c/\V'.n=V.n/\Later own I V w c p V' w/\PRe1 p V' g v/\E4 P a w (.tmp i) v:=λh=>by obtain⟨L,F,K,R,v,D,s,C,Q,M⟩:=Vd (K1:=K1) hT h hH ha;exact⟨L,F,K,R,v,D,s,C,.of_p Q,M⟩
  unfold Z4c at h;dsimp only at h;split at h
  .next k e =>
   split at h
   .obtain⟨x,B,q⟩:=ha.get i _ e;exact⟨.osl k,own,I,V,x,h,rfl,.refl hH,q,by unfold E4 Ix;simp[B]⟩
   .exact old (by unfold Wv;dsimp only;rw[e];exact h)
  .next g _ e=>exact old (by unfold Wv;dsimp only;rw[e];exact h)
  .exact h.elim
 | cell i ty =>
  unfold Z4c at h;dsimp only at h;split at h
  .next k off f e A =>
   obtain⟨x,B,q⟩:=ha.get i _ e;obtain⟨-,rfl⟩:=Cb q;split at h
   .next cs O z =>
    obtain⟨u,D,s,C⟩:=N9 hH z;have m:=hT _ _ A;cases hag:f.agg with
    | false=>rw[hag] at h;exact h.elim
    | true =>
     rw[hag] at h;have o:=h;obtain⟨l,E,J,-⟩:=Lo h s;have d:((u.drop off).take f.zero.length).length=f.zero.length:=by
      rcases ak f.zero.length with y | y
      .rw[y];simp
      .have:=Ot o s y;simp;omega
     refine⟨.oag l,own,I,V,Value.agg ((u.drop off).take f.zero.length).toArray,E,rfl,.refl hH,⟨_,rfl,J⟩,?_⟩;have:=D2 (P:=P) (w:=w) (g:=V.b k) (k:=off) (ty:=ty) (cs:=(u.drop off).take f.zero.length) (by rw[m.agg,hag]) (by rw[m.size,d]) (λj v q=>by rw[C];exact J1 q);unfold E4 Ix;simp[B,asAddr,this]
   .exact h.elim
  .exact h.elim
theorem Oh (hT:∀t i,look t tb=some i->TIok P t i):∀{rs:List ResultVar} {own:Os} {I:Imm} {V:Va} {K1:List G->Os->Prop},U5 tb t own rs K1->Has I V own w->ARep N I V a t->∃gs b j V',∃vs:List Value,K1 gs b/\V'.n=V.n/\Later own I V w b j V' w/\PW (PRe1 j V') gs vs/\vs.length=rs.length/\∀(i:Nat) r v,rs[i]?=some r->vs[i]?=some v->E4 P a w r v
 | [],own,I,V,K1,h,hH,_=>⟨[],own,I,V,[],h,rfl,.refl hH,.nil,rfl,λi r v h=>by simp at h⟩
 | r::rs,own,I,V,K1,h,hH,ha=>by
  obtain⟨g,B,C,D,v,u,p,c,A,y⟩:=Z5v (K1:=λg w'=>U5 tb t w' rs λgs f=>K1 (g::gs) f) hT h hH ha;obtain⟨gs,s,k,V2,vs,q,o,d,z,l,x⟩:=Oh hT u c.has (ha.mono c.fro.mono c.va);refine⟨g::gs,s,k,V2,v::vs,q,o.trans p,c.trans d,.cons (A.mono d.fro.mono d.va) z,by simp[l],λi r' m hr e=>?_⟩;cases i with
  | zero=>simp at hr e;subst hr e;exact y
  | succ i=>exact x i r' m (by simpa using hr) (by simpa using e)
theorem PRes.mono {I m:Imm}{V V':Va}{g:G}{x:Value}(h:PRes I V g x)(d:I.le m)(j:V.le V'):PRes m V' g x:=by
 cases g with
 | tup l=>obtain⟨cs,e,n⟩:=h;exact⟨cs,e,n.mono λ_ _ h=>h.mono d j⟩
 | v z=>exact PRe1.mono (g:=.v z) h d j
 | tt=>exact PRe1.mono (g:=.tt) h d j
 | ff=>exact PRe1.mono (g:=.ff) h d j
 | un=>exact PRe1.mono (g:=.un) h d j
 | nl=>exact PRe1.mono (g:=.nl) h d j
 | agg l=>exact PRe1.mono (g:=.agg l) h d j
 | oag l=>exact PRe1.mono (g:=.oag l) h d j
 | ptr k o=>exact PRe1.mono (g:=.ptr k o) h d j
 | sl l=>exact PRe1.mono (g:=.sl l) h d j
 | osl k=>exact PRe1.mono (g:=.osl k) h d j
 | osv k a b c=>exact PRe1.mono (g:=.osv k a b c) h d j
 | elp l o=>exact PRe1.mono (g:=.elp l o) h d j
 | oel k i s o=>exact PRe1.mono (g:=.oel k i s o) h d j
 | orv k i s o l c=>exact PRe1.mono (g:=.orv k i s o l c) h d j
 | mp k=>exact PRe1.mono (g:=.mp k) h d j
 | clo f a c=>exact PRe1.mono (g:=.clo f a c) h d j
theorem Zap {l:List G}{x:Value}(hH:Has I V own w)(h:TRep1 I V (.oag l) x):PRe1 I V (Zbz own l) x:=by
 obtain⟨cs,rfl,b⟩:=h;have c:∀(j:Nat) g u,(l.map λg=>Dk own (Z09 g))[j]?=some g->cs[j]?=some u->CRep I V g u:=λj g u d m=>by rw[ay] at d;obtain⟨g0,f,rfl⟩:=bh.1 d;exact Jd hH (Wi (b.2 j g0 u f m))
 unfold Zbz;split
 .next k=>exact VRep.agg _ cs (by simpa using b.1) λj g u e i=>(c j g u e i).to_v (Ao k g (au e))
 .exact⟨cs,rfl,by simpa using b.1,c⟩
theorem Pz {g:G}{x:Value}(hH:Has I V own w)(h:PRe1 I V g x):PRe1 I V (Z9g own g) x:=by
 cases g with
 | oag l=>exact Zap hH h
 | osl i =>
  show PRe1 I V (Dk own (.osl i)) x;unfold Dk;dsimp only;split
  .next c sz d =>
   obtain⟨-,rfl⟩:=(show i < V.n/\x=V.s i from h);exact(hH.each i _ d).2.1
  .exact h
 | osv i sz lo hi =>
  have b:=Jd hH (show CRep I V (.osv i sz lo hi) x from h);show PRe1 I V (Dk own (.osv i sz lo hi)) x;unfold Dk at b⊢;dsimp only at b⊢;split at b
  .split at b<;>exact b
  .exact b
 | tt=>cases(show VRep I .tt x from h);exact VRep.v _
 | ff=>cases(show VRep I .ff x from h);exact VRep.v _
 | _=>exact h
theorem Zd2 {g:G}{x:Value}(hH:Has I V own w)(h:PRes I V g x):PRes I V (Zb1 own g) x:=by
 cases g with
 | tup l =>
  obtain⟨cs,e,c⟩:=h;refine⟨cs,e,by simpa using c.1,λj g u d f=>?_⟩;rw[ay] at d;obtain⟨g0,k,rfl⟩:=bh.1 d;exact Pz hH (c.2 j g0 u k f)
 | oag l =>
  have b:=Zap hH (show TRep1 I V (.oag l) x from h);show PRes I V (Zbz own l) x;unfold Zbz at b⊢;split at b<;>exact b
 | osl i =>
  have b:=(show PRe1 I V (Dk own (.osl i)) x from Pz (g:=.osl i) hH h);show PRes I V (Dk own (.osl i)) x;unfold Dk at b⊢;dsimp only at b⊢;split at b<;>exact b
 | osv i sz lo hi =>
  have b:=(show PRe1 I V (Dk own (.osv i sz lo hi)) x from Pz (g:=.osv i sz lo hi) hH h);show PRes I V (Dk own (.osv i sz lo hi)) x;unfold Dk at b⊢;dsimp only at b⊢;split at b
  .split at b<;>exact b
  .exact b
 | tt=>exact Pz (g:=.tt) hH h
 | ff=>exact Pz (g:=.ff) hH h
 | _=>exact h
theorem Wt (hT:∀t i,look t tb=some i->TIok P t i)(hm:P.follows .mixedOrders=true){f:FuncId}{fn:Func}{c:Code}{gs D:List G}{rs:List R}{o:List Nat}{Q:G->List R->Prop}(hf:P.funcs[f]?=some fn)(Y:(fn.name=="runtime.NumGoroutine")=false) (hb:fn.body=some c) (L:D.length<=fn.ntmps) (hc:Fd tb fn.ntmps c=true)
  (ho:Zal rs gs own0 n0 D o) (h:sxC P tb c (K9 0 D) own0 n0 (Zy tb fn o Q)):FnO P f gs rs Q:=by
 refine⟨⟨fn,hf,Y,by rw[hb];rfl⟩,λI V w vs hH hVn hp=>?_⟩;obtain⟨V2,h2n,hH2,hp2,hF2,U⟩:=ho.run I V w vs hH hVn hp;refine calls_of_wp hf hb ?_;have hlen:vs.length=D.length:=hp2.1.symm;have ha:ARep fn.ntmps I V2 {tmps:=vs.toArray++Array.replicate (fn.ntmps - vs.toArray.size) undef,defers:=[]} (K9 0 D):=by
  refine⟨rfl,by simp;omega,λi g hg=>?_⟩;obtain⟨j,e,hj⟩:=Hb hg;obtain rfl:i=j:=by omega
  obtain⟨u,hu,hr⟩:=hp2.get hj;refine⟨u,?_,hr⟩;have hi:=(ar.1 hu).1;show(vs.toArray++_)[i]?=_;rw[Array.getElem?_append_left (by simpa using hi)];simpa using hu
 have h:sxC P tb c (K9 0 D) own0 V2.n (Zy tb fn o Q):=by rw[h2n];exact h
 refine Z2b (own0:=own0) (I0:=I) (V0:=V2) (w0:=w) hT hm (V:=V2) h ⟨hH2,.refl _ _ _ _,av _,λ_ _=>rfl⟩ ha hc (λch d v a w hq=>?_) λe t own I1 K a E J hS hA=>?_
 .cases d<;>exact hq
 .have key:(∀id,e≠.exit id)->bodyPost P fn (λe w'=>∃x g m q V',e=.returned x/\Q g m/\V'.n=m.length/\Has q V' (Ev m 0) w'/\PRes q V' g x/\Fro (Ev rs 0) I V w (Ev m 0) q V' w'/\V.le V') .ret a E:=λhe=>by
   refine⟨hA.defers,?_⟩;have J:match fn.results.toList with
     | [r]=>U5 tb t own [r] λgs own=>match gs with
      | [g]=>Zah o own K.n g Q
      | _=>False
     | rs=>U5 tb t own rs λgs own=>Zah o own K.n (.tup gs) Q:=by
    cases e with
    | exit id=>exact dt rfl (he id)
    | goto l=>exact J.elim
    | normal=>exact J
    | ret=>exact J
   have T:∀{p q V' g x},Later own I1 K E p q V' E->PRes q V' g x->(∃B S,Y2 o p V'.n g Q B S)->∃x' g m q V',Ending.returned x=.returned x'/\Q g m/\V'.n=m.length/\Has q V' (Ev m 0) E/\PRes q V' g x'/\Fro (Ev rs 0) I V w (Ev m 0) q V' E/\V.le V':=λ{p q V' g x} C X ⟨B,S,z⟩=>by
    obtain⟨V4,M,k2,k3,F,Z,k6⟩:=Uq z C.has X V.s;have y:=(hF2.trans hS.fro).trans C.fro;refine⟨x,S,B.map It.res,q,V4,rfl,z.post,by simpa using M,k2,k3,⟨y.os,y.tape,y.output,y.size,y.blk,y.mono,λi r b hi hb hlt=>?_⟩,?_,λi hi=>⟨?_,k6 i (by rw[ho.len];omega)⟩⟩
    .obtain⟨k,r',h1,h2⟩:=F i b hb;exact y.foot k r' b h1 h2 hlt
    .rw[M,hVn,<-ho.len];obtain⟨l,C⟩:=z.rts;have:=congrArg List.length C;simp at this;omega
    .have hi':i < o.length:=by rw[ho.len];omega
     have hr:=aq hi';obtain⟨h1,h2⟩:=U i _ hr;rw[(Z i _ hr).1,(C.va.2 _ (bd (by omega) hS.n)).1,hS.bb _ (by omega),h1]
   have O:∀{p q V' g x},V'.n=K.n->Later own I1 K E p q V' E->PRes q V' g x->(∃B S,Y2 o p K.n g Q B S)->∃x' g m q V',Ending.returned x=.returned x'/\Q g m/\V'.n=m.length/\Has q V' (Ev m 0) E/\PRes q V' g x'/\Fro (Ev rs 0) I V w (Ev m 0) q V' E/\V.le V':=λ{p q V' g x} L C X z=>T C X (by rw[L];exact z);have fin:∀{p q V' g x},V'.n=K.n->Later own I1 K E p q V' E->PRes q V' g x->Zah o p K.n g Q->∃x' g m q V',Ending.returned x=.returned x'/\Q g m/\V'.n=m.length/\Has q V' (Ev m 0) E/\PRes q V' g x'/\Fro (Ev rs 0) I V w (Ev m 0) q V' E/\V.le V':=λ{p q V' g x} L C X z=>by
    rcases z with z | ⟨k,r0,B,S,hk0,z⟩ | z
    .exact O L C X z
    .have A:=Hf (r:=.gone) C.has hk0 (.refl _) C.has.mem (λ_ _ _=>rfl) (λb=>by simp[Va.drop]);exact O (V':=V'.drop k) L (C.trans A) (X.mono (.refl _) A.va) ⟨B,S,z⟩
    .obtain⟨own2,I2,V2,z,A⟩:=X1 z L C.has;exact T (C.trans A) (Zd2 A.has (X.mono A.fro.mono A.va)) z
   split at J
   .next r hr =>
    obtain⟨gs,o2,I2,V2',vs,M,kn,k2,k3,F,Z⟩:=Oh hT J hS.has hA;rw[<-hr] at F Z;refine⟨_,Dr F Z,?_⟩;cases gs with
    | nil=>exact M.elim
    | cons g gs =>
     cases gs with
     | cons S gs=>exact M.elim
     | nil =>
      obtain⟨v,vs',rfl,hv,L⟩:=k3.uncons;obtain rfl:=L.of_nil;refine fin kn k2 ?_ M;cases g with
      | tup l=>cases(show VRep I2 (.tup l) v from hv)
      | _=>exact hv
   .next m hr =>
    obtain⟨gs,o2,I2,V2',vs,M,kn,k2,k3,F,Z⟩:=Oh hT J hS.has hA;refine⟨_,Dr F Z,?_⟩;have hv1:∀v,vs≠[v]:=λv e=>by
     rw[e] at F;cases hq:fn.results.toList with
     | nil=>rw[hq] at F;simp at F
     | cons r l =>
      cases l with
      | nil=>exact hr r hq
      | cons r' l=>rw[hq] at F;simp at F
    have e:N0 vs=.tuple vs.toArray:=by
     unfold N0;split
     .next v=>exact dt rfl (hv1 v)
     .rfl
    rw[e];exact fin (g:=.tup gs) kn k2 ⟨vs,rfl,k3⟩ M
  cases e with
  | normal=>exact key λid h=>by cases h
  | exit id=>exact J.elim
  | goto l=>exact J.elim
  | ret=>exact key λid h=>by cases h
end
mutual
def S6:G->Nat
 | .v x=>match x with
  | .string s=>s.size+1
  | _=>1
 | .sl rows=>Nh rows+1
 | _=>1
def F0:List G->Nat
 | []=>0
 | g::r=>S6 g+F0 r
def Nh:List (List G)->Nat
 | []=>0
 | r::rs=>F0 r+Nh rs
end
theorem Rq (a b:List G):F0 (a++b)=F0 a+F0 b:=by
 induction a with
 | nil=>simp[F0]
 | cons g a ih=>simp only[List.cons_append,F0,ih];omega
section
variable {P:Program} {W:World} {H:Type} {enc:TypeId × Value->H}
theorem Z4u {α:Type}(l:List α)(f:α->List G)(D:α->DataW H)(h:∀x∈l,F0 (f x)<=Rows.uptoBulk (D x)):Nh (l.map f)<=Rows.uptoBulkAll (l.map D):=by
 induction l with
 | nil=>simp[Nh,Rows.uptoBulkAll]
 | cons x l ih =>
  simp only[List.map_cons,Nh,Rows.uptoBulkAll];have d:=h x (by simp);have c:=ih λy b=>h y (by simp[b]);omega
theorem Zbb:∀(d:Nat) (t:TypeId) (sh:List Sp),Pd P d t=some sh->∀(L:Nat) (cs:List Value) (y:DataW H × List MemPlace),DataW.trod enc P W 0 (λ_=>true) true L t cs=some y->∃gs,TyL sh gs/\PW (VRep (Z23 W)) gs cs/\F0 gs<=Rows.uptoBulk y.1
 | 0,t,sh,h=>by cases h
 | d+1,t,sh,h=>by
  intro L cs y M;unfold Pd at h;split at h
  .next k x =>
   cases h;obtain⟨n,rfl,rfl,hw⟩:=DataW.trod_int x M;exact⟨_,.i n (Zdb hw) .nil,.cons (.v _) .nil,by simp[F0,S6,Rows.uptoBulk]⟩
  .next x =>
   cases h;obtain⟨s,rfl,rfl,hs⟩:=DataW.trod_string x M;exact⟨_,.s s hs .nil,.cons (.v _) .nil,by simp[F0,S6,Rows.uptoBulk]⟩
  .next x =>
   cases h;obtain⟨b,rfl,rfl⟩:=DataW.trod_bool x M;exact⟨_,.b b .nil,.cons (.v _) .nil,by simp[F0,S6,Rows.uptoBulk]⟩
  .next e x =>
   split at h
   .next c he =>
    cases hb:Nat.beq (P.cellsOf e) c.length&&Nat.blt 0 c.length with
    | false=>rw[hb] at h;cases h
    | true =>
     rw[hb] at h;have h:some [Sp.sl c]=some sh:=h;cases h;simp only[Bool.and_eq_true] at hb;have F:=ax hb.1;have T:=dn hb.2;rcases Go.Deep.open_slice x M with⟨rfl,rfl⟩ | ⟨a,len,cap,m,n,D,Pl,rfl,-,Y,hm,hmm,rfl,A⟩
     .exact⟨_,.sl [] (by simp) (by simp) .nil,.cons (.sl [] none 0 0 (λ_ _=>undef) (av _) (λ_=>rfl) (by simp) (λi r h=>by simp at h) (λi r j g h=>by simp at h)) .nil,by simp[F0,S6,Nh,Rows.uptoBulk]⟩
     .simp only[if_true] at hmm;subst hmm;have hx:∀i,i < len->∃p:List G × List Value,TyL c p.1/\PW (VRep (Z23 W)) p.1 p.2/\p.2.length=c.length/\(∀(j:Nat) u,p.2[j]?=some u->W.cell? ((a.add (i * c.length)).add j)=some u)/\F0 p.1<=Rows.uptoBulk (D i):=λi hil=>by
       obtain⟨cs',hc,ht'⟩:=A i (by omega);obtain⟨gs,q,J,S⟩:=Zbb d e c he n cs' _ ht';obtain⟨-,R,hat⟩:=World.cells?_some hc;rw[F] at R hat;refine⟨(gs,cs'),q,J,R,λj u x=>?_,S⟩;have hj:j < c.length:=by rw[<-R];exact(ar.1 x).1
       rw[hat j hj];exact x
      haveI:Inhabited (List G × List Value):=⟨([],[])⟩
      obtain⟨p,E⟩:=Go.Deep.choose_lt hx;have C:∀(i:Nat) r,((List.range len).map λi=>(p i).1)[i]?=some r->i < len/\r=(p i).1:=λi r hr=>by
       have A:=(ar.1 hr).1;have U:i < len:=by simpa using A
       rw[ay,cz U] at hr;exact⟨U,by simpa using hr.symm⟩
      have X:0 < len->a=⟨a.block,a.off,none⟩:=λh0=>by have hq:=(E 0 h0).2.2.2.1 0 ((p 0).2[0]'(by rw[(E 0 h0).2.2.1];exact T)) (aq _);have:=World.cell?_spot hq;simp only[Addr.add,Nat.zero_mul,if_true] at this;cases a;simp at this;subst this;rfl
      have key:=VRep.sl (I:=Z23 W) ((List.range len).map λi=>(p i).1) (some a) m c.length (λi j=>((p i).2[j]?).getD undef) (by simpa using Y) (λe=>by cases e) (λr hr=>by
       obtain⟨i,A,e⟩:=ct.1 hr;obtain⟨q,J⟩:=C i r (by rw[aq A,e]);rw[J,(E i q).2.1.1,(E i q).2.2.1]) (λi r hr=>by
       obtain⟨q,-⟩:=C i r hr;refine⟨a.block,a.off,by rw[<-X (by omega)],λj hj=>?_⟩;have hj':j < (p i).2.length:=by rw[(E i q).2.2.1];exact hj
       have hq:=(E i q).2.2.2.1 j _ (aq hj');rw[aq hj',Option.getD_some,<-hq];unfold Z23;have e:=X (by omega);generalize a.block=b at *;generalize a.off=o at *;subst e;rw[Cv,Cv]) (λi r j g hr hg=>by
       obtain⟨q,rfl⟩:=C i r hr;obtain⟨u,J,S⟩:=(E i q).2.1.get hg;rw[J];exact S)
      refine⟨_,.sl ((List.range len).map λi=>(p i).1) (by simp;omega) (λr hr=>?_) .nil,.cons (by simpa using key) .nil,?_⟩
      .obtain⟨i,A,rfl⟩:=bk.1 hr;exact(E i (List.mem_range.1 A)).1
      .have:=Z4u (List.range len) (λi=>(p i).1) D λi A=>(E i (List.mem_range.1 A)).2.2.2.2;simp only[F0,S6,Rows.uptoBulk];omega
   .cases h
  .next fs x =>
   split at h
   .next sh' Z =>
    cases hb:Nat.beq (P.cellsOf t) sh'.length with
    | false=>rw[hb] at h;cases h
    | true =>
     rw[hb] at h;have h:some sh'=some sh:=h;cases h;have F:=ax hb;obtain⟨xs,m,-,rfl,K,B,Q⟩:=DataW.trod_struct x M;have key:∀(z:List Field) (l:List (DataW H × List MemPlace)) (off:Nat) (sh:List Sp),l.length=z.length->(∀(j:Nat) f,z[j]?=some f->DataW.trod enc P W 0 (λ_=>true) true m f.type ((cs.drop f.offset).take (P.cellsOf f.type))=l[j]?)->V9 P (Pd P d) z off=some sh->cs.length=off+sh.length->∃gs,TyL sh gs/\PW (VRep (Z23 W)) gs (cs.drop off)/\F0 gs<=Rows.uptoBulkAll (l.map (·.1)):=λz=>by
      induction z with
      | nil =>
       intro l off sh _ _ h Y;cases h;exact⟨[],.nil,by rw[dl (by simp at Y;omega)];exact .nil,by simp[F0]⟩
      | cons f z ih =>
       intro l off sh B O h Y;cases l with
       | nil=>cases B
       | cons y l =>
        unfold V9 at h;split at h
        .next sh1 e1 e2 =>
         split at h
         .next sh2 e3 e4 =>
          cases h;have e1:=ax e1;have e3:=ax e3;have M:=O 0 f rfl;obtain⟨g1,t1,p1,b1⟩:=Zbb d f.type sh1 e2 m _ y M;rw[bg] at Y;obtain⟨g2,t2,p2,b2⟩:=ih l (off+sh1.length) sh2 (by simpa using B) (λj f Z=>O (j+1) f (by simpa using Z)) e4 (by omega);rw[e1,e3] at p1;refine⟨g1++g2,t1.app t2,Kl p1 ?_,?_⟩
          .rw[List.drop_drop];exact p2
          .rw[Rq];simp only[List.map_cons,Rows.uptoBulkAll];omega
         .cases h
        .cases h
     obtain⟨gs,q,J,S⟩:=key fs.toList xs 0 sh (by rw[B];simp) (λj f Z=>Q j f (by simpa using Z)) Z (by omega);refine⟨gs,q,by simpa using J,?_⟩;simp only[Rows.uptoBulk];omega
   .cases h
  .next n e x =>
   split at h
   .next c he =>
    cases hb:Nat.beq (P.cellsOf e) c.length&&Nat.beq (P.cellsOf t) (n * c.length) with
    | false=>rw[hb] at h;cases h
    | true =>
     rw[hb] at h;have h:some (Zdw n c)=some sh:=h;cases h;simp only[Bool.and_eq_true] at hb;have F:=ax hb.1;have hct:=ax hb.2;obtain⟨xs,m,-,rfl,K,B,Q⟩:=DataW.trod_array x M;have key:∀(k i:Nat),i+k=n->∃gs,TyL (Zdw k c) gs/\PW (VRep (Z23 W)) gs (cs.drop (i * c.length))/\F0 gs<=Rows.uptoBulkAll ((xs.drop i).map (·.1)):=λk=>by
      induction k with
      | zero =>
       intro i A;refine⟨[],.nil,?_,by simp[F0]⟩;rw[dl (by rw[K,hct,<-A,Nat.add_zero];exact av _)];exact .nil
      | succ k ih =>
       intro i A;have hxi:i < xs.length:=by omega
       have q:=Q i (by omega);rw[aq hxi] at q;obtain⟨g1,t1,p1,b1⟩:=Zbb d e c he m _ _ q;obtain⟨g2,t2,p2,b2⟩:=ih (i+1) (by omega);rw[F] at p1;refine⟨g1++g2,t1.app t2,Kl p1 ?_,?_⟩
       .rw[List.drop_drop];rw[Nat.succ_mul] at p2;exact p2
       .rw[Rq,List.drop_eq_getElem_cons hxi];simp only[List.map_cons,Rows.uptoBulkAll];omega
     obtain⟨gs,q,J,S⟩:=key n 0 (by omega);refine⟨gs,q,by simpa using J,?_⟩;simp only[Rows.uptoBulk];simp at S;omega
   .cases h
  .cases h
theorem Z4l {t:TypeId}{sh:List Sp}{base:Nat}{v:Value}{d:DataW H}{p:List MemPlace}(m:Pd P 100 t=some sh)(ha:Pi P t=some true)(c:Value.okWide P W .any base t v)(h:DataW.Trod enc P W 0 (λ_=>true) true t v d p):∃gs,TyL sh gs/\VRep (Z23 W) (.agg gs) v/\F0 gs<=Rows.uptoBulk d:=by
 obtain⟨b,j⟩:=h;obtain⟨gs,l,k,o⟩:=Zbb 100 t sh m b _ _ j;have g:∃cs,v=.agg cs:=by
  unfold Value.okWide at c;unfold Pi at ha;split at c
  .obtain⟨cs,e,-⟩:=c;exact⟨cs,e⟩
  .obtain⟨cs,e,-⟩:=c;exact⟨cs,e⟩
  .next f i =>
   cases hu:P.underlying t with
   | none=>rw[hu] at ha;simp at ha
   | some u =>
    cases u with
    | struct fs=>exact dt hu (f fs)
    | array n e=>exact dt hu (i n e)
    | _=>rw[hu] at ha;simp at ha
 obtain⟨cs,rfl⟩:=g;exact⟨gs,l,by have:=Ze0 k;simpa [Value.cells] using this,o⟩
theorem Z6b {t:TypeId}{sp:Sp}{base:Nat}{v:Value}{d:DataW H}{p:List MemPlace}(b:Pd P 100 t=some [sp])(ha:Pi P t=some false)(f:Value.okWide P W .any base t v)(h:DataW.Trod enc P W 0 (λ_=>true) true t v d p):∃g,TyL [sp] [g]/\VRep (Z23 W) g v/\S6 g<=Rows.uptoBulk d:=by
 obtain⟨c,l⟩:=h;obtain⟨gs,k,j,o⟩:=Zbb 100 t [sp] b c _ _ l;have i:∀cs,v≠.agg cs:=λcs e=>by
  subst e;unfold Value.okWide Cell.okWide at f;unfold Pd at b;unfold Pi at ha;cases hu:P.underlying t with
  | none=>rw[hu] at b;cases b
  | some u=>rw[hu] at b f ha;cases u<;>first | (cases b;done) | (simp at ha;done) | (simp[Cell.ok,hu] at f;done)
 have n:v.cells.toList=[v]:=by cases v<;>first | rfl | exact dt rfl (i _)
 rw[n] at j;have m:=k.len;obtain⟨g,rfl⟩:=List.length_eq_one_iff.1 m;exact⟨g,k,j.2 0 g v rfl rfl,by simpa [F0] using o⟩
end
end Go.Proofs.YtmmdikhljefeiaaGreat
