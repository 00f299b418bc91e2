
import Derived.Below
import Derived.OrdersHeld
import Derived.Test.YtmmdikhljefeiaaGreatBM
import Derived.Test.YtmmdikhljefeiaaGreatOwnM
import Derived.Test.YtmmdikhljefeiaaGreatYFrm
import Derived.Great.BuildSlice
import Derived.Laws.AppendOwnNone
import Derived.Deep.AppendSrc
import Derived.IntWalk
import Derived.Laws.StructEq
import Derived.Laws.Small
namespace Go.Proofs.YtmmdikhljefeiaaGreat
open Go.RowKit
inductive G where
 | v (x:Value)
 | tt
 | ff
 | un
 | nl
 | agg (l:List G)
 | oag (l:List G)
 | tup (l:List G)
 | ptr (k off:Nat)
 | sl (l:List (List G))
 | osl (k:Nat)
 | osv (k sz lo hi:Nat)
 | elp (row:List G) (off:Nat)
 | oel (k i sz off:Nat)
 | orv (k i sz off len cap:Nat)
 | mp (k:Nat)
 | clo (f:Nat) (a c:List G)
abbrev Ob:=(Nat->Nat->Option Value)->Nat->(Nat->Prop)->World->Prop
inductive R where
 | blk (cs:List G) (t:TypeId)
 | slc (rows:List (List G)) (e:TypeId) (sz:Nat)
 | froz (rows:List (List G)) (sz:Nat)
 | gone
 | mpI (l:List (Int × G))
 | mpS (l:List (ByteArray × G))
 | sit (s:ByteArray) (pos:Nat)
 | mpX (l:List (ByteArray × G)) (m:Nat) (ob:Obj)
 | mit (k:Nat) (l:List (ByteArray × G)) (D:List ByteArray) (last:Option (ByteArray × G)) (m:Nat) (ob:Obj)
 | abs (p:Ob)
 | lnk (j:Nat)
 | adr (k b:Nat)
 | fam (ps:List Ob)
 | vw (rows:List (List G)) (e:TypeId) (sz:Nat)
inductive KD where
 | no
 | arr (n:Nat) (e:TypeId) (sz:Nat)
 | map (str:Bool) (e:TypeId)
 | ptr
 | fn
 | bool
structure TI where
 agg:Bool
 zero:List G
 elem:Option (TypeId × Nat)
 flds:List (TypeId × Nat)
 str:Bool
 ik:Option IntKind
 kd:KD
abbrev Ts:=List (Nat × G)
abbrev Os:=List (Nat × R)
def look {α:Type}(i:Nat):List (Nat × α)->Option α
 | []=>none
 | (j,g)::r=>bif Nat.beq i j then some g else look i r
def put (d:Option Tmp)(g:G)(t:Ts):Ts:=match d with
 | some d=>(d,g)::t
 | none=>t
def Gof:Value->G
 | .bool true=>.tt
 | .bool false=>.ff
 | .slice none 0 0=>.nl
 | x=>.v x
structure EvIf (c:Bool)(A B:Prop):Prop where
 yes:c=true->A
 no:c=false->B
structure EvRng (n:Int)(A:Prop):Prop where
 rng:-9223372036854775808<=n/\n<=9223372036854775807
 next:A
structure EvIdx {α:Type}(l:List α)(n:Int)(K:α->Prop):Prop where
 rng:0<=n/\n < l.length
 next:∀x,l[n.toNat]?=some x->K x
structure EvSet {α:Type}(l:List α)(n:Nat)(F:α->(α->Prop)->Prop)(K:List α->Prop):Prop where
 rng:n < l.length
 next:∀x,l[n]?=some x->F x λy=>K (l.set n y)
structure Vt (n:Nat)(A:Prop):Prop where
 room:n<=1073741824
 next:A
structure Zdi {α:Type}(l:List (List α))(sz:Nat)(one:α->Bool)(A:Prop):Prop where
 rows:∀r∈l,r.length=sz/\r.all one=true
 next:A
structure Yq (l h:Int)(n:Nat)(A:Prop):Prop where
 rng:0<=l/\l<=h/\h<=n
 next:A
structure Z1u (o:Option G)(K:G->Prop)(A:Prop):Prop where
 yes:∀g,o=some g->K g
 no:o=none->A
structure Zfj {α:Type}(l:List (List α))(sz:Nat)(A:Prop):Prop where
 rows:∀r∈l,r.length=sz
 next:A
structure EvDiv (n:Int)(A:Prop):Prop where
 ne:n≠0
 next:A
def gBy (c:UInt8):List G:=[.v (.int .u8 c.toNat)]
structure EvBytes (l:List (List G))(K:List UInt8->Prop):Prop where
 run:∃bs:List UInt8,l=bs.map gBy/\K bs
def Rk (l:List G)(cs:List Value):Prop:=l=cs.map .v
structure Zcb {α:Type}(l:List α)(K:Bool->Prop):Prop where
 run:∀b:Bool,(l≠[]->b=false)->K b
structure Zd3 {α:Type}(l:List (List α))(m:Nat)(K:List α->Prop):Prop where
 pos:0 < m
 run:∃r:List α,r.length=m/\l.take m=r.map (λg=>[g])/\K r
structure EvEq (P:Program)(t:TypeId)(l m:List G)(K:Bool->Prop):Prop where
 run:∃cs ds b,Rk l cs/\Rk m ds/\P.eqGuardType P.depth t=false/\(∀w,(Op.equalIn 10000 t (.agg cs.toArray) (.agg ds.toArray)).run P w=.ok b w)/\K b
theorem EvIdx.at {α β:Type}{f:α->β}{l:List α}{i:Nat}{x:α}{K:β->Prop}(c:l[i]?=some x)(h:K (f x)):EvIdx (l.map f) i K :=
 ⟨by have:=(aq.1 c).1;simp;omega,λy b=>by rw[bh,ax,c] at b;obtain rfl:=cv b;exact h⟩
theorem EvIdx.atI {α β:Type}{f:α->β}{l:List α}{n:Int}{x:α}{K:β->Prop}(c:0<=n)(b:l[n.toNat]?=some x)(h:K (f x)):EvIdx (l.map f) n K:=by obtain⟨i,rfl⟩:=al c;exact .at b h
theorem EvSet.at {α β:Type}{f:α->β}{l j:List α}{i:Nat}{x y:α}{F:β->(β->Prop)->Prop}{K:List β->Prop}(c:l[i]?=some x)(m:∀k:β->Prop,k (f y)->F (f x) k)(p:l.set i y=j)(h:K (j.map f)):EvSet (l.map f) i F K :=
 ⟨by have:=(aq.1 c).1;simpa using this,λz b=>by rw[ax,c] at b;obtain rfl:=cv b;refine m _ ?_;rw[<-List.map_set,p];exact h⟩
theorem EvIdx.of {α β:Type}{f:α->β}{l:List α}{i:Nat}{K:β->Prop}(b:i < l.length)(h:∀x,l[i]?=some x->K (f x)):EvIdx (l.map f) i K :=
 .at (ap b) (h _ (ap b))
theorem EvIf.dec {p:Prop}[Decidable p]{A B:Prop}(b:p->A)(c:¬p->B):EvIf (decide p) A B:=⟨λh=>b (of_decide_eq_true h),λh=>c (of_decide_eq_false h)⟩
theorem EvIf.beq {x y:Int}{A B:Prop}(b:x=y->A)(c:x≠y->B):EvIf (x==y) A B:=⟨λh=>b (eq_of_beq h),λh=>c (ne_of_beq_false h)⟩
theorem EvIf.bne {x y:Int}{A B:Prop}(b:x≠y->A)(c:x=y->B):EvIf (x != y) A B:=⟨λh=>b (bne_iff_ne.1 h),λh=>c (by simpa using h)⟩
theorem Je {a b:ByteArray}:(a.toList==b.toList)=decide (a=b):=by
 have key:a.toList=b.toList↔a=b:=⟨λh=>by
  have e:∀c:ByteArray,c.toList=c.data.toList:=λc=>by
   have key:∀(n i:Nat) (r:List UInt8),c.size - i=n->ByteArray.toList.loop c i r=r.reverse++(c.data.toList.drop i):=λn=>by
    induction n with
    | zero =>
     intro i r m;unfold ByteArray.toList.loop;have:¬i < c.size:=by omega
     rw[dq this,dm (by show c.data.toList.length<=i;simp;exact Nat.le_of_not_lt this)];simp
    | succ n ih =>
     intro i r m;unfold ByteArray.toList.loop;have j:i < c.size:=by omega
     rw[dt j,ih (i+1) _ (by omega)];have p:i < c.data.toList.length:=by simpa using j
     rw[List.drop_eq_getElem_cons p];simp[ByteArray.get!,j]
   have:=key _ 0 [] rfl;simpa [ByteArray.toList] using this
  rw[e,e] at h;cases a;cases b
  congr
  simpa using congrArg List.toArray h,λh=>by rw[h]⟩
 by_cases h:a=b
 .simp[h]
 .simp[h,mt key.1 h]
theorem EvIf.beqS {x y:ByteArray}{A B:Prop}(b:x=y->A)(c:x≠y->B):EvIf (x.toList==y.toList) A B:=by rw[Je];exact .dec b c
theorem EvIf.bneS {x y:ByteArray}{A B:Prop}(b:x≠y->A)(c:x=y->B):EvIf (!(x.toList==y.toList)) A B:=by rw[Je];exact⟨λh=>b (by simpa using h),λh=>c (by simpa using h)⟩
def Fs (k:Nat):List Nat->Bool
 | []=>false
 | j::l=>bif Nat.beq k j then true else Fs k l
def nth {α:Type}:List α->Nat->Option α
 | [],_=>none
 | x::_,0=>some x
 | _::l,n+1=>nth l n
def G.pure:G->Bool
 | .ptr _ _ | .osl _ | .osv _ _ _ _ | .oag _ | .elp _ _ | .oel _ _ _ _ | .orv _ _ _ _ _ _ | .tup _ | .nl | .tt | .ff | .mp _ | .clo _ _ _=>false
 | _=>true
def G.cap:G->Bool
 | .ptr _ _ | .mp _=>true
 | .v x=>x.oneCell'
 | _=>false
def G.one:G->Bool
 | .v x=>x.oneCell'
 | .tt | .ff | .nl | .sl _ | .ptr _ _ | .osl _ | .osv _ _ _ _ | .mp _=>true
 | _=>false
def Nm:G->Bool
 | .v x=>x.oneCell'
 | _=>false
structure Eu (c A:Prop):Prop where
 fit:c
 next:A
def U5 (n:Nat):Bool:=Nat.blt 48 n
def Zen:List G->Nat->Nat->(List G->Prop)->Prop
 | _,_,0,K=>K []
 | [],_,_+1,_=>False
 | g::l,0,n+1,K=>Zen l 0 n λr=>K (g::r)
 | _::l,k+1,n+1,K=>Zen l k (n+1) K
def seg (l:List G)(k n:Nat)(K:List G->Prop):Prop:=match U5 n with
 | false=>Zen l k n K
 | true=>Eu (k+n<=l.length) (K ((l.drop k).take n))
def Zeh:List G->Nat->List G->(List G->Prop)->Prop
 | l,_,[],K=>K l
 | [],_,_::_,_=>False
 | _::l,0,c::cs,K=>Zeh l 0 cs λr=>K (c::r)
 | g::l,k+1,c::cs,K=>Zeh l k (c::cs) λr=>K (g::r)
def ovr (n:Nat)(l:List G)(k:Nat)(cs:List G)(K:List G->Prop):Prop:=match U5 n with
 | false=>Zeh l k cs K
 | true=>Eu (cs.length=n/\k+n<=l.length) (K (l.take k++cs++l.drop (k+n)))
def Bp {α:Type}(p:α->Bool):List α->Bool
 | []=>true
 | g::l=>bif p g then Bp p l else false
def Hu (n:Nat)(l:List G)(K:G->Prop):Prop:=match U5 n with
 | false=>match Bp G.pure l with
  | true=>K (.agg l)
  | false=>K (.oag l)
 | true=>Eu (∀g∈l,g.pure=true) (K (.agg l))
def Fr (b:List (List G))(lo c:Nat):List (List G):=(b.take c).drop lo
def Za6 (k:Nat)(o:Os):Os->(Nat->Prop)->Prop
 | [],_=>False
 | (i,_)::l,K=>match look i o with
  | some (.adr j b)=>match Nat.beq k j with
   | true=>K b
   | false=>Za6 k o l K
  | _=>Za6 k o l K
def Z3g (o:Os)(g:G)(K:G->Os->Prop):Prop:=match g with
 | .osl k=>match look k o with
  | some (.slc rows _ sz)=>K (.sl rows) ((k,.froz rows sz)::o)
  | some (.froz rows _)=>K (.sl rows) o
  | _=>False
 | .osv k sz lo hi=>match look k o with
  | some (.slc rows _ sz')=>match Nat.beq sz sz' with
   | true=>K (.sl (Fr rows lo hi)) ((k,.froz rows sz)::o)
   | false=>False
  | some (.froz rows sz')=>match Nat.beq sz sz' with
   | true=>K (.sl (Fr rows lo hi)) o
   | false=>False
  | _=>False
 | .nl=>K (.sl []) o
 | .tt=>K (.v (.bool true)) o
 | .ff=>K (.v (.bool false)) o
 | .ptr k off=>Za6 k o o λb=>K (.v (.pointer (some ⟨b,off,none⟩))) o
 | .oag _ | .elp _ _ | .oel _ _ _ _ | .orv _ _ _ _ _ _ | .tup _ | .mp _ | .clo _ _ _=>False
 | g=>K g o
def Zax:List G->Os->(List G->Os->Prop)->Prop
 | [],o,K=>K [] o
 | g::l,o,K=>Z3g o g λc j=>Zax l j λh b=>K (c::h) b
def pur (o:Os)(g:G)(K:G->Os->Prop):Prop:=match g with
 | .oag l=>Zax l o λb c=>K (.agg b) c
 | g=>Z3g o g K
def Zda (o:Os)(g:G)(K:G->Os->Prop):Prop:=match g with
 | .ptr k off=>K (.ptr k off) o
 | .clo f a c=>K (.clo f a c) o
 | g=>pur o g K
def Ze2:List G->Os->(List G->Os->Prop)->Prop
 | [],o,K=>K [] o
 | g::l,o,K=>Zda o g λc j=>Ze2 l j λh b=>K (c::h) b
def Z39:G->G
 | .nl=>.sl []
 | .tt=>.v (.bool true)
 | .ff=>.v (.bool false)
 | g=>g
def Z8j (t:Ts)(w:Os)(n:Nat)(d:Option Tmp)(g:G)(new:List (List G))(e sz:Nat)(K:Ts->Os->Nat->Prop):Prop:=match g with
 | .osl k=>match look k w with
  | some (.slc rows e' sz')=>match Nat.beq e e',Nat.beq sz sz' with
   | true,true=>Vt (rows.length+new.length) (K (put d (.osl n) t) ((n,.slc (rows++new) e sz)::(k,.gone)::w) (n+1))
   | _,_=>False
  | _=>False
 | .nl=>Vt new.length (K (put d (.osl n) t) ((n,.slc new e sz)::w) (n+1))
 | _=>False
def Zcr (t:Ts)(w:Os)(n:Nat)(d:Option Tmp)(g:G)(new:List (List G))(e sz:Nat)(K:Ts->Os->Nat->Prop):Prop:=match g with
 | .osl k=>match look k w with
  | some (.vw rows e' sz')=>match Nat.beq e e',Nat.beq sz sz' with
   | true,true=>Vt (rows.length+new.length) (K (put d (.osl n) t) ((n,.vw (rows++new) e sz)::(k,.gone)::w) (n+1))
   | _,_=>False
  | _=>Z8j t w n d (.osl k) new e sz K
 | .orv k 0 (sz'+1) 0 l c=>match look k w with
  | some (.vw rows e' sz2)=>match Nat.beq e e',Nat.beq sz (sz'+1),Nat.beq sz sz2,Nat.beq l c,Nat.ble l rows.length with
   | true,true,true,true,true=>Vt (l+new.length) (K (put d (.osl n) t) ((n,.vw (rows.take l++new) e sz)::(k,.gone)::w) (n+1))
   | _,_,_,_,_=>False
  | _=>False
 | g=>Z8j t w n d g new e sz K
def Zbv (g:G)(K:ByteArray->Prop):Prop:=match g with
 | .v (.string s)=>K s
 | _=>False
def Hs {α:Type}(k:Nat):List Nat->(List Nat->α)->α
 | [],K=>K [k]
 | j::l,K=>match Nat.beq k j with
  | true=>K (j::l)
  | false=>Hs k l λr=>K (j::r)
def gkC {α:Type}(g:G)(ks:List Nat)(K:List Nat->α):α:=match g with
 | .ptr k _ | .osl k | .osv k _ _ _ | .oel k _ _ _ | .mp k=>Hs k ks K
 | _=>K ks
def Z9r {α:Type}:List G->List Nat->(List Nat->α)->α
 | [],ks,K=>K ks
 | g::l,ks,K=>gkC g ks λks=>Z9r l ks K
def gk1 {α:Type}(g:G)(ks:List Nat)(K:List Nat->α):α:=match g with
 | .oag l=>Z9r l ks K
 | .clo _ a c=>Z9r a ks λks=>Z9r c ks K
 | g=>gkC g ks K
def gkL {α:Type}:List G->List Nat->(List Nat->α)->α
 | [],ks,K=>K ks
 | g::l,ks,K=>gk1 g ks λks=>gkL l ks K
def C7:G->Bool
 | .ptr _ _ | .osl _ | .osv _ _ _ _ | .oel _ _ _ _ | .orv _ _ _ _ _ _ | .mp _=>false
 | _=>true
def M0:R->Bool
 | .blk cs _=>Bp C7 cs
 | .lnk _=>false
 | .adr _ _=>false
 | _=>true
def J6:List Nat->Nat->List (Nat × Nat)
 | [],_=>[]
 | k::ks,i=>(k,i)::J6 ks (i+1)
def Sn:List Nat->Nat->List R->Nat->List (Nat × Nat)
 | k::ks,n,_::rs,i=>(i,k)::Sn ks n rs (i+1)
 | [],n,_::rs,i=>(i,n)::Sn [] (n+1) rs (i+1)
 | _,_,[],_=>[]
def Ev:List R->Nat->Os
 | [],_=>[]
 | r::rs,i=>(i,r)::Ev rs (i+1)
def ev (t:Ts)(o:Os)(x:Operand)(K:G->Prop):Prop:=match x with
 | .tmp i=>match look i t with
  | some (.osl k)=>match look k o with
   | some (.froz rows _)=>K (.sl rows)
   | _=>K (.osl k)
  | some g=>K g
  | none=>False
 | .const x=>K (Gof x)
 | .func f=>K (.v (.func (.func f) #[] #[]))
 | .global _=>False
def evs (t:Ts)(o:Os):List Operand->(List G->Prop)->Prop
 | [],K=>K []
 | x::l,K=>ev t o x λg=>evs t o l λr=>K (g::r)
def G9 (o:Os)(g:G)(K:List G->Prop):Prop:=match g with
 | .agg l=>K l
 | .oag l=>K l
 | .tup _ | .elp _ _ | .oel _ _ _ _ | .orv _ _ _ _ _ _ | .un | .clo _ _ _=>False
 | .v x=>match x.oneCell' with
  | true=>K [.v x]
  | false=>False
 | .osl k=>match look k o with
  | some (.slc _ _ _)=>K [.osl k]
  | some (.froz rows _)=>K [.sl rows]
  | some (.vw _ _ _)=>K [.osl k]
  | _=>False
 | .osv k sz lo hi=>match look k o with
  | some (.slc _ _ _)=>K [.osv k sz lo hi]
  | some (.vw _ _ _)=>K [.osv k sz lo hi]
  | _=>False
 | g=>K [g]
def Zc3 (g:G)(K:List G->Prop):Prop:=match g with
 | .agg l=>K l
 | .oag l=>K l
 | _=>False
def Zat (o:Os):G->Bool
 | .osl k=>match look k o with
  | some (.slc _ _ _)=>true
  | some (.vw _ _ _)=>true
  | _=>false
 | .osv k _ _ _=>match look k o with
  | some (.slc _ _ _)=>true
  | some (.vw _ _ _)=>true
  | _=>false
 | g=>G.one g
def U9 (o:Os)(g:G)(K:List (List G)->Prop):Prop:=match g with
 | .nl=>K []
 | .sl rows=>K rows
 | .osl k=>match look k o with
  | some (.slc rows _ _)=>K rows
  | some (.froz rows _)=>K rows
  | some (.vw rows _ _)=>K rows
  | _=>False
 | .osv k _ lo hi=>match look k o with
  | some (.slc rows _ _)=>K (Fr rows lo hi)
  | _=>False
 | _=>False
def Zg8 (o:Os)(g:G)(K:Int->Prop):Prop:=match g with
 | .orv _ _ _ _ l _=>K l
 | g=>U9 o g λb=>K b.length
def Z37 (o:Os)(g:G)(sz:Nat)(K:List (List G)->Prop):Prop:=match g with
 | .nl=>K []
 | .sl rows=>Zdi rows sz G.one (K rows)
 | .osl k=>match look k o with
  | some (.slc rows _ sz')=>match Nat.beq sz' sz with
   | true=>K rows
   | false=>False
  | _=>False
 | .osv k sz0 lo hi=>match look k o with
  | some (.slc rows _ sz')=>match Nat.beq sz' sz,Nat.beq sz0 sz with
   | true,true=>K (Fr rows lo hi)
   | _,_=>False
  | some (.vw rows _ sz')=>match Nat.beq sz' sz,Nat.beq sz0 sz with
   | true,true=>K (Fr rows lo hi)
   | _,_=>False
  | _=>False
 | _=>False
def My (m:List (Nat × Nat)):G->G
 | .ptr k off=>.ptr ((look k m).getD k) off
 | .osl k=>.osl ((look k m).getD k)
 | .osv k sz lo hi=>.osv ((look k m).getD k) sz lo hi
 | .oel k i sz off=>.oel ((look k m).getD k) i sz off
 | .orv k i sz off l c=>.orv ((look k m).getD k) i sz off l c
 | .mp k=>.mp ((look k m).getD k)
 | g=>g
def Z3a (m:List (Nat × Nat)):G->G
 | .oag l=>.oag (l.map (My m))
 | .clo f a c=>.clo f (a.map (My m)) (c.map (My m))
 | g=>My m g
def R3 (m:List (Nat × Nat)):G->G
 | .tup l=>.tup (l.map (Z3a m))
 | g=>Z3a m g
def Lh (m:List (Nat × Nat)):R->R
 | .blk cs t=>.blk (cs.map (My m)) t
 | .adr k b=>.adr ((look k m).getD k) b
 | .lnk j=>.lnk ((look j m).getD j)
 | r=>r
def L4 (m:List (Nat × Nat)):G->G
 | .osl k=>.osl ((look k m).getD k)
 | .osv k sz lo hi=>.osv ((look k m).getD k) sz lo hi
 | .oel k i sz off=>.oel ((look k m).getD k) i sz off
 | .orv k i sz off l c=>match sz with
  | 0=>.orv k i 0 off l c
  | s+1=>.orv ((look k m).getD k) i (s+1) off l c
 | g=>g
def To (m:List (Nat × Nat)):G->G
 | .oag l=>.oag (l.map (L4 m))
 | .clo f a c=>.clo f (a.map (L4 m)) (c.map (L4 m))
 | g=>L4 m g
def renS (m:List (Nat × Nat)):G->G
 | .tup l=>.tup (l.map (To m))
 | g=>To m g
def Z5i (m:List (Nat × Nat)):R->R
 | .blk cs t=>.blk (cs.map (L4 m)) t
 | r=>r
def isS:R->Bool
 | .slc _ _ _ | .froz _ _ | .gone=>true
 | .vw _ _ _=>true
 | .fam _=>true
 | _=>false
def Si (n:Nat):G->Bool
 | .ptr k _ | .osl k | .oel k _ _ _ | .osv k _ _ _ | .mp k=>Nat.blt k n
 | .orv k _ _ _ _ _=>Nat.blt k n
 | _=>true
def Z9y (n:Nat):G->Bool
 | .oag l=>Bp (Si n) l
 | .clo _ a c=>match Bp (Si n) a with
  | true=>Bp (Si n) c
  | false=>false
 | .tup _=>false
 | g=>Si n g
def Z38 (n:Nat):G->Bool
 | .tup l=>Bp (Z9y n) l
 | g=>Z9y n g
def Z0u (n:Nat):R->Bool
 | .blk cs _=>Bp (Si n) cs
 | .lnk _=>false
 | .adr k _=>Nat.blt k n
 | _=>true
def Px (own:Os):List Nat->List Nat->(List Nat->Prop)->Prop
 | [],b,K=>K b
 | k::l,b,K=>match look k own with
  | some (.blk cs _)=>Z9r cs b λb=>Px own l b K
  | _=>Px own l b K
def trK (own:Os):Nat->List Nat->(List Nat->Prop)->Prop
 | 0,ks,K=>K ks
 | n+1,ks,K=>Px own ks ks λks=>trK own n ks K
def Ze6 (ks:List Nat):G->Bool
 | .ptr k _ | .osl k | .osv k _ _ _ | .oel k _ _ _ | .mp k=>Fs k ks
 | _=>true
def Z35 (ks:List Nat):R->Bool
 | .blk cs _=>Bp (Ze6 ks) cs
 | .lnk _=>false
 | .adr k _=>Fs k ks
 | _=>true
def rsK (own:Os)(b:List Nat):List Nat->(List R->Prop)->Prop
 | [],K=>K []
 | k::ks,K=>match look k own with
  | some r=>match M0 r with
   | true=>rsK own b ks λrs=>K (r::rs)
   | false=>match Z35 b r with
    | true=>rsK own b ks λrs=>K (Lh (J6 b 0) r::rs)
    | false=>False
  | none=>False
def Qi (tt:List (Nat × TI))(ty:TypeId):KD:=match look ty tt with
 | some i=>i.kd
 | none=>.no
def Zc8 (tt:List (Nat × TI))(ty:TypeId)(op:BinOp)(b:Bool)(K:G->Prop):Prop:=match Qi tt ty,op with
 | .ptr,.eql=>K (bif b then .tt else .ff)
 | .ptr,.neq=>K (bif b then .ff else .tt)
 | _,_=>False
def Z68 (g:G)(K:Bool->Prop):Prop:=match g with
 | .tt=>K true
 | .ff=>K false
 | .v (.bool b)=>K b
 | _=>False
structure Ze1 (n:Int)(K:Prop):Prop where
 nn:0<=n
 next:K
def Zei (P:Program)(tt:List (Nat × TI))(ty:TypeId)(op:BinOp)(x y:G)(K:G->Prop):Prop:=match x,y with
 | .v (.int .i64 a),.v (.int .i64 b)=>match op with
  | .add=>EvRng (a+b) (K (.v (.int .i64 (a+b))))
  | .sub=>EvRng (a - b) (K (.v (.int .i64 (a - b))))
  | .mul=>EvRng (a * b) (K (.v (.int .i64 (a * b))))
  | .quo=>EvDiv b (EvRng (a.tdiv b) (K (.v (.int .i64 (a.tdiv b)))))
  | .rem=>EvDiv b (K (.v (.int .i64 (a.tmod b))))
  | .or=>K (.v (.int .i64 (IntKind.wrap .i64 ((BitVec.ofInt 64 a ||| BitVec.ofInt 64 b).toNat:Nat))))
  | .and=>K (.v (.int .i64 (IntKind.wrap .i64 ((BitVec.ofInt 64 a &&& BitVec.ofInt 64 b).toNat:Nat))))
  | .eql=>K (.v (.bool (a==b)))
  | .neq=>K (.v (.bool (a != b)))
  | .lss=>K (.v (.bool (decide (a < b))))
  | .leq=>K (.v (.bool (decide (a<=b))))
  | .gtr=>K (.v (.bool (decide (a > b))))
  | .geq=>K (.v (.bool (decide (a >= b))))
  | _=>False
 | .v (.int .i64 a),.v (.int .u64 b)=>match op with
  | .shr=>Ze1 b (K (.v (.int .i64 (a.fdiv (2 ^ min b.toNat 64)))))
  | _=>False
 | .v (.int .u8 a),.v (.int .u8 b)=>match op with
  | .eql=>K (.v (.bool (a==b)))
  | .neq=>K (.v (.bool (a != b)))
  | .lss=>K (.v (.bool (decide (a < b))))
  | .leq=>K (.v (.bool (decide (a<=b))))
  | .gtr=>K (.v (.bool (decide (a > b))))
  | .geq=>K (.v (.bool (decide (a >= b))))
  | _=>False
 | .v (.int .u64 a),.v (.int .u64 b)=>match op with
  | .shr=>Ze1 b (K (.v (.int .u64 (a.fdiv (2 ^ min b.toNat 64)))))
  | .shl=>Ze1 b (K (.v (.int .u64 (IntKind.wrap .u64 (a * 2 ^ min b.toNat 64)))))
  | .add=>K (.v (.int .u64 (IntKind.wrap .u64 (a+b))))
  | .mul=>K (.v (.int .u64 (IntKind.wrap .u64 (a * b))))
  | .rem=>EvDiv b (K (.v (.int .u64 (a.tmod b))))
  | .or=>K (.v (.int .u64 (IntKind.wrap .u64 ((BitVec.ofInt 64 a ||| BitVec.ofInt 64 b).toNat:Nat))))
  | .and=>K (.v (.int .u64 (IntKind.wrap .u64 ((BitVec.ofInt 64 a &&& BitVec.ofInt 64 b).toNat:Nat))))
  | .eql=>K (.v (.bool (a==b)))
  | .neq=>K (.v (.bool (a != b)))
  | .lss=>K (.v (.bool (decide (a < b))))
  | .leq=>K (.v (.bool (decide (a<=b))))
  | .gtr=>K (.v (.bool (decide (a > b))))
  | .geq=>K (.v (.bool (decide (a >= b))))
  | _=>False
 | .v (.int .u64 a),.v (.int _ b)=>match op with
  | .shr=>Ze1 b (K (.v (.int .u64 (a.fdiv (2 ^ min b.toNat 64)))))
  | _=>False
 | .v (.string a),.v (.string b)=>match op with
  | .add=>EvRng ((a.size+b.size:Nat):Int) (K (.v (.string (a++b))))
  | .eql=>K (.v (.bool (a.toList==b.toList)))
  | .neq=>K (.v (.bool (!(a.toList==b.toList))))
  | .lss=>K (.v (.bool (Op.bytesLess a.toList b.toList)))
  | .leq=>K (.v (.bool (Op.bytesLess a.toList b.toList||a.toList==b.toList)))
  | .gtr=>K (.v (.bool (!(Op.bytesLess a.toList b.toList||a.toList==b.toList))))
  | .geq=>K (.v (.bool (!Op.bytesLess a.toList b.toList)))
  | _=>False
 | .agg l,.agg m=>match op with
  | .eql=>EvEq P ty l m λb=>K (.v (.bool b))
  | .neq=>EvEq P ty l m λb=>K (.v (.bool (!b)))
  | _=>False
 | .v (.int .i32 a),.v (.int .i32 b)=>match op with
  | .sub=>K (.v (.int .i32 (IntKind.wrap .i32 (a - b))))
  | .eql=>K (.v (.bool (a==b)))
  | .neq=>K (.v (.bool (a != b)))
  | .lss=>K (.v (.bool (decide (a < b))))
  | .leq=>K (.v (.bool (decide (a<=b))))
  | .gtr=>K (.v (.bool (decide (a > b))))
  | .geq=>K (.v (.bool (decide (a >= b))))
  | _=>False
 | .ptr _ _,.v (.pointer none)=>Zc8 tt ty op false K
 | .v (.pointer none),.ptr _ _=>Zc8 tt ty op false K
 | .v (.pointer none),.v (.pointer none)=>Zc8 tt ty op true K
 | x,y=>match Qi tt ty with
  | .bool=>Z68 x λa=>Z68 y λb=>match op with
   | .eql=>K (.v (.bool (a==b)))
   | .neq=>K (.v (.bool (!(a==b))))
   | _=>False
  | _=>False
def Zem (x:G)(K:G->Prop):Prop:=match x with
 | .tt=>K .ff
 | .ff=>K .tt
 | .v (.bool b)=>K (.v (.bool (!b)))
 | _=>False
abbrev Imm:=Nat->Nat->Option Value
inductive VRep (I:Imm):G->Value->Prop
 | v (x:Value):VRep I (.v x) x
 | tt:VRep I .tt (.bool true)
 | ff:VRep I .ff (.bool false)
 | un:VRep I .un undef
 | nl:VRep I .nl (.slice none 0 0)
 | agg (l:List G) (cs:List Value) (hl:l.length=cs.length) (h:∀(j:Nat) g u,l[j]?=some g->cs[j]?=some u->VRep I g u):VRep I (.agg l) (.agg cs.toArray)
 | sl (l:List (List G)) (A:Option Addr) (c sz:Nat) (u:Nat->Nat->Value) (hc:l.length<=c) (hA:A=none->c=0) (hz:∀r∈l,r.length=sz)
   (h:∀(i:Nat) r,l[i]?=some r->∃b o,A=some ⟨b,o,none⟩/\∀j,j < sz->I b (o+i * sz+j)=some (u i j))
   (hu:∀(i:Nat) r (j:Nat) g,l[i]?=some r->r[j]?=some g->VRep I g (u i j)):VRep I (.sl l) (.slice A l.length c)
structure Va where
 n:Nat
 b:Nat->Nat
 s:Nat->Value
 f:Nat->Nat->Prop
def PW (P:G->Value->Prop)(l:List G)(cs:List Value):Prop:=l.length=cs.length/\∀(j:Nat) g u,l[j]?=some g->cs[j]?=some u->P g u
def L6 (sz:Nat)(v:Value)(lo b:Nat):Value:=match v with
 | .slice a _ c=>.slice (if c=lo then a else a.map (·.add (lo * sz))) (b - lo) (c - lo)
 | _=>undef
def N6:Value->Nat
 | .slice _ n _=>n
 | _=>0
def CRep (I:Imm)(V:Va):G->Value->Prop
 | .ptr k off,x=>k < V.n/\x=.pointer (some ⟨V.b k,off,none⟩)
 | .osl k,x=>k < V.n/\x=V.s k
 | .osv k sz lo hi,x=>k < V.n/\(lo<=hi/\hi<=N6 (V.s k))/\x=L6 sz (V.s k) lo hi
 | .mp k,x=>k < V.n/\x=.map (some (V.b k))
 | .clo _ _ _,_=>False
 | .oag _,_=>False
 | .elp _ _,_=>False
 | .oel _ _ _ _,_=>False
 | .orv _ _ _ _ _ _,_=>False
 | .tup _,_=>False
 | g,x=>VRep I g x
def OrB (V:Va)(k sz b q:Nat):Prop:=match sz with
 | 0=>b=V.b k/\q=0
 | _+1=>∃n c,V.s k=.slice (some ⟨b,q,none⟩) n c
def TRep1 (I:Imm)(V:Va):G->Value->Prop
 | .oag l,x=>∃cs:List Value,x=.agg cs.toArray/\PW (CRep I V) l cs
 | .elp row off,x=>∃b o,x=.pointer (some ⟨b,o+off,none⟩)/\∀(j:Nat) g,row[j]?=some g->∃u,I b (o+j)=some u/\VRep I g u
 | .oel k i sz off,x=>k < V.n/\∃b q n c,V.s k=.slice (some ⟨b,q,none⟩) n c/\x=.pointer (some ⟨b,q+(i * sz+off),none⟩)
 | .orv k i sz off len cap,x=>k < V.n/\∃b q,OrB V k sz b q/\x=.slice (some ⟨b,q+(i * sz+off),none⟩) len cap
 | .clo f a c,x=>(∃g,(g∈a\/g∈c)/\C7 g=false)/\∃h cs:List Value,x=.func (.func f) h.toArray cs.toArray/\PW (CRep I V) a h/\PW (CRep I V) c cs
 | g,x=>CRep I V g x
def TRep (I:Imm)(V:Va):G->Value->Prop
 | .tup l,x=>∃cs:List Value,x=.tuple cs.toArray/\PW (TRep1 I V) l cs
 | g,x=>TRep1 I V g x
def PRep (I:Imm)(V:Va):G->Value->Prop
 | .ptr k o,x=>CRep I V (.ptr k o) x
 | .osl k,x=>CRep I V (.osl k) x
 | .osv k sz lo hi,x=>CRep I V (.osv k sz lo hi) x
 | .oel k i sz o,x=>TRep1 I V (.oel k i sz o) x
 | .mp k,x=>CRep I V (.mp k) x
 | .clo f a c,x=>TRep1 I V (.clo f a c) x
 | .oag l,x=>(∃g∈l,C7 g=false)/\TRep1 I V (.oag l) x
 | g,x=>VRep I g x
def PRe1 (I:Imm)(V:Va):G->Value->Prop
 | .oag l,x=>TRep1 I V (.oag l) x
 | g,x=>PRep I V g x
def PRes (I:Imm)(V:Va):G->Value->Prop
 | .tup l,x=>∃cs:List Value,x=.tuple cs.toArray/\PW (PRe1 I V) l cs
 | g,x=>PRe1 I V g x
def Loc (p:Ob):Prop:=∀(I I':Imm) b S w w',p I b S w->(∀b o x,I b o=some x->I' b o=some x)->w'.os=w.os->w.heap.size<=w'.heap.size->(∀k,S k->w'.heap[k]?=w.heap[k]?)->p I' b S w'
def Al {κ:Type}(I:Imm):List (κ × G)->List (κ × Value)->Prop
 | [],[]=>True
 | p::l,q::L=>q.1=p.1/\VRep I p.2 q.2/\Al I l L
 | _,_=>False
def MapR {κ:Type}(I:Imm)(w:World)(m:Nat)(b:κ->Value)(l:List (κ × G)):Prop:=∃L:List (κ × Value),MapB w m b id L/\Al I l L
def Ep (w:World)(e:TypeId)(sz:Nat)(v:Value)(n:Nat)(xs:List Value):Prop :=
 xs.length=n * sz/\((v=.slice none 0 0/\n=0)\/∃g q cap b,v=.slice (some ⟨g,q,none⟩) n cap/\w.heap[g]?=some (.cells b e (0,0))/\n<=cap/\cap<=maxLen/\q+cap * sz<=b.size/\(b.toList.drop q).take (n * sz)=xs)
def RRep (I:Imm)(V:Va)(k:Nat)(w:World):R->Prop
 | .blk cs t=>(∀b,V.f k b↔b=V.b k)/\∃A:List Value,w.heap[V.b k]?=some (.cells A.toArray t (0,0))/\PW (CRep I V) cs A
 | .slc h e sz=>(∀b,V.f k b↔(V.s k).ownBlock=some b)/\∃rs:List (List Value),w.ownsRow 0 e sz (V.s k) h.length rs.flatten/\rs.length=h.length/\(∀(i:Nat) r u,h[i]?=some r->rs[i]?=some u->PW (VRep I) r u)/\(∀u∈rs,u.length=sz)/\(∀u∈rs,∀x∈u,x.oneCell'=true)/\0 < sz
 | .vw h e sz=>(∀b,V.f k b↔(V.s k).ownBlock=some b)/\∃rs:List (List Value),Ep w e sz (V.s k) h.length rs.flatten/\rs.length=h.length/\(∀(i:Nat) r u,h[i]?=some r->rs[i]?=some u->PW (VRep I) r u)/\(∀u∈rs,u.length=sz)/\(∀u∈rs,∀x∈u,x.oneCell'=true)/\0 < sz
 | .froz h sz=>(∀b,¬V.f k b)/\VRep I (.sl h) (V.s k)/\∀r∈h,r.length=sz
 | .gone=>∀b,¬V.f k b
 | .mpI l=>(∀b,V.f k b↔b=V.b k)/\MapR I w (V.b k) Ax l
 | .mpS l=>(∀b,V.f k b↔b=V.b k)/\MapR I w (V.b k) Ci l
 | .sit s pos=>(∀b,V.f k b↔b=V.b k)/\w.heap[V.b k]?=some (.stringIter s pos)
 | .mpX l m ob=>(∀b,V.f k b↔b=V.b k)/\V.b k=m/\w.heap[m]?=some ob/\MapR I w m Ci l
 | .mit _ l D last m ob=>(∀b,V.f k b↔b=V.b k)/\∃(it:Obj) (L:List (ByteArray × Value)),w.heap[V.b k]?=some it/\Al I l L/\∀w':World,w'.heap[m]?=some ob->w'.heap[V.b k]?=some it->RanB w' (V.b k) m Ci id L D/\∀z,last=some z->∃v,VRep I z.2 v/\∀P:Program,(Instr.entry (.pointer (some ⟨V.b k,0,none⟩))).run P w'=.ok (.tuple #[.string z.1,v]) w'
 | .abs p=>Loc p/\p I (V.b k) (V.f k) w
 | .lnk j=>(∀b,¬V.f k b)/\j < V.n/\∃m,V.s j=.slice (some ⟨V.b k,0,none⟩) m m
 | .adr k' b=>(∀c,¬V.f k c)/\k' < V.n/\V.b k'=b
 | .fam q=>(∀p∈q,Loc p)/\∃F:Nat->Nat->Prop,(∀c,V.f k c↔∃i,i < q.length/\F i c)/\(∀i j c,i < q.length->j < q.length->F i c->F j c->i=j)/\∀(i:Nat) p,q[i]?=some p->∃b,p I b (F i) w
def Mem (I:Imm)(w:World):Prop:=∀b o x,I b o=some x->w.cell? ⟨b,o,none⟩=some x
structure Has (I:Imm)(V:Va)(own:Os)(w:World):Prop where
 mem:Mem I w
 num:∀k r,look k own=some r->k < V.n
 each:∀k r,look k own=some r->RRep I V k w r
 foot:∀k r b,look k own=some r->V.f k b->b < w.heap.size/\∀o,I b o=none
 disj:∀k k' r r' b,look k own=some r->look k' own=some r'->V.f k b->V.f k' b->k=k'
def Va.le (V V':Va):Prop:=V.n<=V'.n/\∀k,k < V.n->V'.b k=V.b k/\V'.s k=V.s k
structure Fro (own:Os)(I:Imm)(V:Va)(w:World)(own':Os)(I':Imm)(V':Va)(w':World):Prop where
 os:w'.os=w.os
 tape:w'.tape=w.tape
 output:w'.output=w.output
 size:w.heap.size<=w'.heap.size
 blk:∀b,b < w.heap.size->(∀k r,look k own=some r->¬V.f k b)->w'.heap[b]?=w.heap[b]?/\∀o,I' b o=I b o
 mono:∀b o x,I b o=some x->I' b o=some x
 foot:∀k r b,look k own'=some r->V'.f k b->b < w.heap.size->∃j r',look j own=some r'/\V.f j b
structure Obs (I:Imm)(V:Va)(O:Os)(w:World):Prop where
 num:∀k r,look k O=some r->k < V.n
 each:∀k r,look k O=some r->RRep I V k w r
 lt:∀k r b,look k O=some r->V.f k b->b < w.heap.size
 disj:∀k k' r r' b,look k O=some r->look k' O=some r'->V.f k b->V.f k' b->k=k'
def cl (O:Os):Ob:=λI b S w=>∃V:Va,V.b 0=b/\Obs I V O w/\∀c,S c↔∃k r,look k O=some r/\V.f k c
def leI (m:List (Nat × Nat))(w:Os)(n:Nat):Os->Prop
 | []=>True
 | (k,r)::l=>(Nat.blt k n=true/\Z0u n r=true/\look ((look k m).getD k) w=some (Lh m r))/\leI m w n l
def Sk:List Nat->Bool
 | []=>true
 | k::l=>bif Fs k l then false else Sk l
def Zel (b:Nat):G->Bool
 | .osl k | .osv k _ _ _ | .oel k _ _ _=>Nat.ble b k
 | _=>true
def Dh (w:Os):G->G
 | .osl j=>match look j w with
  | some (.froz rows _)=>.sl rows
  | _=>.osl j
 | .osv j sz lo hi=>match look j w with
  | some (.froz rows sz')=>match Nat.beq sz sz' with
   | true=>.sl (Fr rows lo hi)
   | false=>.osv j sz lo hi
  | _=>.osv j sz lo hi
 | .tt=>.v (.bool true)
 | .ff=>.v (.bool false)
 | g=>g
inductive Gh (K:Os->Nat->Prop):Os->Nat->Prop
 | done {w:Os} {n:Nat} (h:K w n):Gh K w n
 | adr {w:Os} {n:Nat} (k:Nat) (r:R) (hk:look k w=some r) (h:∀b,Gh K ((n,.adr k b)::w) (n+1)):Gh K w n
 | frz {w:Os} {n:Nat} (k:Nat) (rows:List (List G)) (e sz:Nat) (hk:look k w=some (.slc rows e sz)) (h:Gh K ((k,.froz rows sz)::w) n):Gh K w n
 | seen {w:Os} {n:Nat} (k:Nat) (cs:List G) (ty:Nat) (hk:look k w=some (.blk cs ty)) (h:Gh K ((k,.blk (cs.map (Dh w)) ty)::w) n):Gh K w n
def Ent (P:Program)(f:FuncId):Prop:=∃fn,P.funcs[f]?=some fn/\(fn.name=="runtime.NumGoroutine")=false/\fn.body.isNone=false
def VR (I:Imm):G->Value->Prop
 | .tup l,x=>∃cs:List Value,x=.tuple cs.toArray/\PW (VRep I) l cs
 | g,x=>VRep I g x
def FnV (P:Program)(f:FuncId)(gs:List G)(Q:G->Prop):Prop :=
 Ent P f/\∀I w vs,Mem I w->PW (VRep I) gs vs->Calls P f vs.toArray w λe w' =>
  ∃x g I',e=.returned x/\Q g/\Mem I' w'/\VR I' g x/\(∀b o x,I b o=some x->I' b o=some x)/\(∀b o,b < w.heap.size->I' b o=I b o)/\Below w.heap.size w w'
def FnO (P:Program)(f:FuncId)(gs:List G)(rs:List R)(Q:G->List R->Prop):Prop :=
 Ent P f/\∀I V w vs,Has I V (Ev rs 0) w->V.n=rs.length->PW (PRep I V) gs vs->Calls P f vs.toArray w λe w' =>
  ∃x g b I' V',e=.returned x/\Q g b/\V'.n=b.length/\Has I' V' (Ev b 0) w'/\PRes I' V' g x/\Fro (Ev rs 0) I V w (Ev b 0) I' V' w'/\V.le V'
def Zgh:G->Bool
 | .v (.pointer (some _))=>true
 | _=>false
def Wm {α:Type}(own:Os):Os->List Nat->(List Nat->α)->α
 | [],r,K=>K r
 | (k,_)::l,r,K=>match look k own with
  | some (.fam _)=>Hs k r λr=>Wm own l r K
  | _=>Wm own l r K
def N5 {α:Type}(p:α->Bool):List α->Bool
 | []=>false
 | g::l=>bif p g then true else N5 p l
def Zfx (vs:Bool)(gs:List G)(ks:List Nat):Bool:=match N5 Zgh gs,vs,ks with
 | true,_,_=>true
 | false,true,_::_=>true
 | _,_,_=>false
def Zaj {α:Type}(vs:Bool)(gs:List G)(own:Os)(ks:List Nat)(K:List Nat->α):α:=match Zfx vs gs ks with
 | true=>Wm own own ks K
 | false=>K ks
inductive EvCall (A B C:Prop):Prop
 | pure (h:A)
 | lend (h:B)
 | gh (h:C)
def Yg:List G->Option (List Value)
 | []=>some []
 | .v x::l=>match Yg l with
  | some cs=>some (x::cs)
  | none=>none
 | _=>none
def Z9q:G->Option Value
 | .v x=>some x
 | .agg l=>match Yg l with
  | some cs=>some (.agg cs.toArray)
  | none=>none
 | _=>none
structure Zd4 (P:Program)(f:FuncId)(gs:List G)(K:G->Prop):Prop where
 run:∃g x,Z9q g=some x/\FnV P f gs (λq=>q=g)/\K g
inductive Mo where
 | row
 | quiet (l:List Nat)
 | late
 | vs (l:List Nat)
 | new
def Mo.xl:Mo->List Nat
 | .quiet l=>l
 | _=>[]
def Mo.loose:Mo->Bool
 | .row=>true
 | .late=>true
 | _=>false
def Mo.isVs:Mo->Bool
 | .vs _=>true
 | _=>false
def Mo.lends:Mo->List Nat->Bool
 | .row,_=>true
 | .late,_=>true
 | .vs l,ks=>Bp (λk=>Fs k l) ks
 | _,[]=>true
 | _,_=>false
def Jk:G->Bool
 | .oag l=>Bp C7 l
 | .clo _ _ _=>false
 | .tup _=>false
 | g=>C7 g
def S5:G->Bool
 | .tup l=>Bp Jk l
 | g=>Jk g
def L5 (m:List (Nat × Nat)):List R->List Nat->Os->Nat->(Os->Nat->Prop)->Prop
 | [],_,own,n,K=>K own n
 | r::rs,k::ks,own,n,K=>match M0 r with
  | true=>L5 m rs ks ((k,r)::own) n K
  | false=>L5 m rs ks ((k,Lh m r)::own) n K
 | r::rs,[],own,n,K=>match M0 r with
  | true=>L5 m rs [] ((n,r)::own) (n+1) K
  | false=>L5 m rs [] ((n,Lh m r)::own) (n+1) K
def Z13 (ks:List Nat)(own:Os)(n:Nat)(g:G)(rs:List R)(K:G->Os->Nat->Prop):Prop:=match S5 g with
 | true=>L5 (Sn ks n rs 0) rs ks own n λown n=>K g own n
 | false=>L5 (Sn ks n rs 0) rs ks own n λown' b=>K (R3 (Sn ks n rs 0) g) own' b
def Z2d (P:Program)(f:FuncId)(mo:Mo)(gs:List G)(own:Os)(n:Nat)(B C:Prop)(K:G->Os->Nat->Prop):Prop :=
 gkL gs [] λks=>Zaj mo.isVs gs own ks λks=>trK own 3 ks λks=>match mo.lends ks with
  | true=>match ks with
   | []=>EvCall (FnO P f gs [] λg rs=>Z13 [] own n g rs K) B C
   | k::ks=>rsK own (k::ks) (k::ks) λrs=>EvCall (FnO P f (gs.map (R3 (J6 (k::ks) 0))) rs λg rs=>Z13 (k::ks) own n g rs K) B C
  | false=>False
def G.lent:G->Bool
 | .oag l=>N5 (λg=>match C7 g with | true=>false | false=>true) l
 | .tup _ | .elp _ _ | .orv _ _ _ _ _ _=>false
 | _=>true
def G.isOrv:G->Bool
 | .orv _ _ _ _ _ _=>true
 | _=>false
def G.isMp:G->Bool
 | .mp _=>true
 | _=>false
def lendK (P:Program)(f:FuncId)(mo:Mo)(gs:List G)(own:Os)(n:Nat)(C:Prop)(K:G->Os->Nat->Prop):Prop:=match Bp G.lent gs with
 | true=>Z2d P f mo (gs.map Z39) own n False C K
 | false=>False
def Zf9 (w:Os):G->G
 | .osl k=>Dh w (.osl k)
 | .osv k sz lo hi=>Dh w (.osv k sz lo hi)
 | .oag l=>match Bp G.pure (l.map (Dh w)) with
  | true=>.agg (l.map (Dh w))
  | false=>.oag l
 | g=>g
inductive Z7m (P:Program)(f:FuncId)(own:Os)(n:Nat)(K:G->Os->Nat->Prop):List G->Prop
 | same {gs:List G} (h:lendK P f .row gs own n False λg own n=>Gh (K g) own n):Z7m P f own n K gs
 | see {gs:List G} (h:Z7m P f own n K (gs.map (Zf9 own))):Z7m P f own n K gs
 | rawA {p q gs:List G} {b off:Nat} (j k:Nat) (hj:look j own=some (.adr k b)) (h:Z7m P f own n K (.oag (p++.ptr k off::q)::gs)):Z7m P f own n K (.agg (p++.v (.pointer (some ⟨b,off,none⟩))::q)::gs)
def ghK (P:Program)(f:FuncId)(mo:Mo)(gs:List G)(own:Os)(n:Nat)(K:G->Os->Nat->Prop):Prop:=match mo with
 | .row=>Gh (λown n=>Z7m P f own n K gs) own n
 | .late=>Gh (λown n=>Z7m P f own n K gs) own n
 | _=>False
def Oq (P:Program)(f:FuncId)(mo:Mo)(gs a c:List G)(own:Os)(n:Nat)(K:G->Os->Nat->Prop):Prop:=match N5 G.isOrv gs with
 | true=>ghK P f mo (a++(gs++c)) own n K
 | false=>match N5 G.isMp gs with
  | true=>lendK P f mo (a++(gs++c)) own n (ghK P f mo (a++(gs++c)) own n K) K
  | false=>Ze2 (a++(gs++c)) own λb own'=>Z2d P f mo b own' n (lendK P f mo (a++(gs++c)) own n False K) (ghK P f mo (a++(gs++c)) own n K) K
def Za3 (tt:List (Nat × TI))(mo:Mo)(ty:TypeId)(sz:Nat):Bool:=match mo,Qi tt ty with
 | .new,.fn=>Nat.beq sz 1
 | _,_=>false
def Zd5 (b:Bool)(own:Os)(n:Nat)(K:G->Os->Prop):Prop:=match b with
 | true=>Z3g own (.osl n) K
 | false=>K (.osl n) own
section
variable (P:Program) (tt:List (Nat × TI))
def bsK (t:Ts)(sz:Nat):List (Nat × Operand)->Nat->Os->(List (List G)->Os->Prop)->Prop
 | [],_,w,K=>K [] w
 | (j,x)::ps,i,w,K=>match Nat.beq j i with
  | true=>ev t w x λg=>G9 w g λcs=>match U5 sz with
   | false=>Zax cs w λc w'=>match Nat.beq c.length sz,Bp G.one c with
    | true,true=>bsK t sz ps (i+1) w' λb w''=>K (c::b) w''
    | _,_=>False
   | true=>Eu (cs.length=sz/\∀g∈cs,Nm g=true) (bsK t sz ps (i+1) w λb w''=>K (cs::b) w'')
  | false=>False
def evO (t:Ts)(w:Os)(x:Option Operand)(d:Int)(K:Int->Prop):Prop:=match x with
 | none=>K d
 | some x=>ev t w x λq=>match q with
  | .v (.int .i64 n)=>K n
  | _=>False
def Ze4 (t:Ts)(w:Os)(m:Nat)(lo b:Option Operand)(j:Nat)(K:G->Prop):Prop:=match lo,b with
 | none,none=>K (.osl j)
 | lo,b=>evO t w lo 0 λl=>evO t w b m λh=>Yq l h m (K (.osv j 1 l.toNat h.toNat))
def Zf6 (m:Nat)(cs:List G)(A:Prop):Prop:=match U5 m with
 | false=>match Nat.beq cs.length m,Bp Nm cs with
  | true,true=>A
  | _,_=>False
 | true=>Eu (cs.length=m/\∀g∈cs,Nm g=true) A
def Z3r (t:Ts)(w:Os)(n ty m:Nat)(lo b:Option Operand)(g:G)(K:G->Os->Nat->Prop):Prop:=match g with
 | .ptr k off=>match look k w with
  | some (.blk cs ty')=>match off,Nat.beq ty' ty,Nat.ble m 1048576 with
   | 0,true,true=>Zf6 m cs (Ze4 t w m lo b n λg=>K g ((k,.lnk n)::(n,.slc (cs.map λg=>[g]) ty' 1)::(k,.gone)::w) (n+1))
   | _,_,_=>match lo,b with
    | none,none=>Eu (off+m<=cs.length/\∀g∈cs,Nm g=true) (K (.sl (((cs.drop off).take m).map λg=>[g])) ((k,.gone)::w) n)
    | none,some x=>evO t w (some x) m λh=>Yq 0 h m (K (.orv k 0 0 off h.toNat m) w n)
    | _,_=>False
  | some (.lnk j)=>match look j w,off with
   | some (.slc rows _ 1),0=>Eu (rows.length=m) (Ze4 t w m lo b j λg=>K g w n)
   | _,_=>False
  | _=>False
 | .oel k i sz off=>match look k w,lo with
  | some (.slc rows _ sz'),none=>match Nat.beq sz sz' with
   | true=>evO t w b m λh=>Yq 0 h m (Eu ((i < rows.length/\off+m<=sz)/\0 < sz) (K (.orv k i sz off h.toNat m) w n))
   | false=>False
  | _,_=>False
 | _=>False
def Z6k (t:Ts)(w:Os)(m:Nat)(lo b:Option Operand)(g:G)(K:G->Prop):Prop:=match g,lo,b with
 | .ptr k off,none,some x=>match look k w with
  | some (.blk _ _)=>evO t w (some x) m λh=>Yq 0 h m (K (.orv k 0 0 off h.toNat m))
  | _=>False
 | _,_,_=>False
def slK (w:Os)(g:G)(sz:Nat)(lo b:(Int->Prop)->Int->Prop)(K:G->Prop):Prop:=match g with
 | .sl rows=>lo (λl=>b (λh=>Yq l h rows.length (Zfj rows sz (K (.sl (Fr rows l.toNat h.toNat))))) rows.length) 0
 | .osl k=>match look k w with
  | some (.slc rows _ sz')=>match Nat.beq sz sz' with
   | true=>lo (λl=>b (λh=>Yq l h rows.length (K (.osv k sz l.toNat h.toNat))) rows.length) 0
   | false=>False
  | some (.vw rows _ sz')=>match Nat.beq sz sz' with
   | true=>lo (λl=>b (λh=>Yq l h rows.length (K (.osv k sz l.toNat h.toNat))) rows.length) 0
   | false=>False
  | _=>False
 | _=>False
def Z92 (w:Os)(g:G)(sz:Nat)(h:Int)(K:G->Prop):Prop:=match g with
 | .osl k=>match look k w with
  | some (.vw rows _ sz')=>match Nat.beq sz sz' with
   | true=>Yq 0 h rows.length (Eu (rows≠[]) (K (.orv k 0 sz 0 h.toNat h.toNat)))
   | false=>False
  | _=>False
 | _=>False
def byK (o:Os)(g:G)(K:List (List G)->Prop):Prop:=match g with
 | .nl=>K []
 | .sl rows=>K rows
 | .osl k=>match look k o with
  | some (.slc rows _ 1)=>K rows
  | _=>False
 | _=>False
def cvK (w:Os)(g:G)(a b:TI)(u8:Bool)(K:G->Prop):Prop:=match a.elem,a.str,a.ik,b.str,b.ik with
 | some _,_,_,true,_=>match u8 with
  | true=>byK w g λc=>EvBytes c λh=>K (.v (.string ⟨h.toArray⟩))
  | false=>False
 | none,true,_,true,_=>match g with
  | .v (.string s)=>K (.v (.string s))
  | _=>False
 | none,false,some _,false,some k=>match g with
  | .v (.int _ n)=>match k with
   | .i64=>EvRng n (K (.v (.int .i64 n)))
   | .u8=>K (.v (.int .u8 (n % 256)))
   | .u64=>K (.v (.int .u64 (IntKind.wrap .u64 n)))
   | _=>False
  | _=>False
 | _,_,_,_,_=>False
def Zba (e:TypeId):Bool:=match look e tt with
 | some ⟨_,_,_,_,_,some .u8,_⟩=>true
 | _=>false
def cvU (a:TI)(XL:List Nat):Bool:=match a.elem,XL with
 | some (e,_),[]=>Zba tt e
 | _,_=>false
def Zeg (n:Nat)(cs:List G)(A:Prop):Prop:=match U5 n with
 | false=>match Nat.beq cs.length n with
  | true=>A
  | false=>False
 | true=>Eu (cs.length=n) A
def Zbx (n:Nat)(w:Os)(cs:List G)(A:Prop):Prop:=match U5 n with
 | false=>match Bp (Zat w) cs,Nat.beq cs.length n,cs with
  | true,true,_::_=>A
  | _,_,_=>False
 | true=>Eu (cs.length=n/\∀g∈cs,Nm g=true) A
def Zed (n:Nat)(cs:List G)(A:Prop):Prop:=match U5 n with
 | false=>match Bp G.pure cs with
  | true=>A
  | false=>False
 | true=>A
def Zas (t:Ts)(w:Os)(b:List (TypeId × Nat)):List (Nat × Operand)->List G->(List G->Prop)->Prop
 | [],l,K=>K l
 | (i,x)::ps,l,K=>match nth b i with
  | none=>False
  | some (ft,fo)=>match look ft tt with
   | none=>False
   | some j=>ev t w x λg=>G9 w g λcs=>Zeg j.zero.length cs (ovr j.zero.length l fo cs λc=>Zas t w b ps c K)
def Zdt (t:Ts)(w:Os)(n sz:Nat):List (Nat × Operand)->List G->(List G->Prop)->Prop
 | [],l,K=>K l
 | (i,x)::ps,l,K=>match Nat.blt i n,Nat.blt 0 sz with
  | true,true=>ev t w x λg=>G9 w g λcs=>Zeg sz cs (ovr sz l (Nat.mul i sz) cs λb=>Zdt t w n sz ps b K)
  | _,_=>False
def Tb (i:TI)(K:G->Prop):Prop:=match i.agg with
 | true=>Hu 0 i.zero K
 | false=>match i.zero with
  | [g]=>K g
  | _=>False
def Zfp (n:Nat)(w:Os)(cs:List G)(K:List G->Prop):Prop:=match U5 n with
 | true=>K cs
 | false=>match cs with
  | [.ptr k off]=>Za6 k w w λb=>K [.v (.pointer (some ⟨b,off,none⟩))]
  | cs=>K (cs.map Z39)
def Zaa (w:Os)(XL:List Nat)(g q:G)(str:Bool)(i:TI)(K:G->Bool->Prop):Prop:=match g with
 | .mp k=>match Fs k XL with
  | true=>False
  | false=>match look k w,str,q with
   | some (.mpS l),true,.v (.string s)=>Z1u (Az l s) (λg=>K g true) (Tb i λg=>K g false)
   | some (.mpI l),false,.v (.int .i64 n)=>Z1u (Az l n) (λg=>K g true) (Tb i λg=>K g false)
   | some (.mpX l _ _),true,.v (.string s)=>Z1u (Az l s) (λg=>K g true) (Tb i λg=>K g false)
   | _,_,_=>False
 | _=>False
def lkK (ok:Bool)(K:G->Prop)(g:G)(b:Bool):Prop:=match ok with
 | true=>K (.tup [g,bif b then .tt else .ff])
 | false=>K g
def Z6i (w:Os)(g q u:G)(str:Bool)(K:Os->Prop):Prop:=pur w u λu w=>match g with
 | .mp k=>match look k w,str,q with
  | some (.mpS l),true,.v (.string s)=>K ((k,.mpS (Gq l s u))::w)
  | some (.mpI l),false,.v (.int .i64 n)=>K ((k,.mpI (Gq l n u))::w)
  | _,_,_=>False
 | _=>False
def Zb1 (q:G)(op:BinOp)(ty:TypeId):Bool:=match q,op,look ty tt with
 | .nl,.eql,some ⟨_,_,some _,_,_,_,_⟩=>true
 | _,_,_=>false
def Jr (mo:Mo)(o:Oper)(t:Ts)(w:Os)(n:Nat)(K:Ts->Os->Nat->Prop):Prop:=match o.op with
 | .move x=>ev t w x λg=>K (put o.dst g t) w n
 | .assign x=>match x with
  | .const (.slice none 0 0)=>match look o.type tt with
   | some ⟨_,_,some (e,sz),_,_,_,_⟩=>K (put o.dst (.osl n) t) ((n,.slc [] e sz)::w) (n+1)
   | _=>K (put o.dst .nl t) w n
  | x=>ev t w x λg=>K (put o.dst g t) w n
 | .pick c a b=>ev t w c λg=>match g with
  | .tt=>ev t w a λg=>K (put o.dst g t) w n
  | .ff=>ev t w b λg=>K (put o.dst g t) w n
  | .v (.bool c)=>EvIf c (ev t w a λg=>K (put o.dst g t) w n) (ev t w b λg=>K (put o.dst g t) w n)
  | _=>False
 | .alloc ty=>match look ty tt with
  | some i=>K (put o.dst (.ptr n 0) t) ((n,.blk i.zero ty)::w) (n+1)
  | none=>False
 | .box ty x=>ev t w x λg=>G9 w g λcs=>K (put o.dst (.ptr n 0) t) ((n,.blk cs ty)::w) (n+1)
 | .load ty x=>ev t w x λg=>match look ty tt with
  | none=>False
  | some i=>match g with
   | .ptr k off=>match look k w,Fs k mo.xl with
    | some (.blk cs _),false=>match i.agg with
     | true=>seg cs off i.zero.length λl=>Hu i.zero.length l λg=>K (put o.dst g t) w n
     | false=>match nth cs off with
      | some g=>K (put o.dst g t) w n
      | none=>False
    | some (.lnk j),false=>match look j w,Fs j mo.xl,i.agg with
     | some (.slc A _ 1),false,true=>Eu (off+i.zero.length<=A.length/\∀r∈A,∀g∈r,g.pure=true) (K (put o.dst (.agg ((A.flatten.drop off).take i.zero.length)) t) w n)
     | _,_,_=>False
    | _,_=>False
   | .elp row off=>match i.agg with
     | true=>seg row off i.zero.length λl=>K (put o.dst (.agg l) t) w n
     | false=>match nth row off with
      | some g=>K (put o.dst g t) w n
      | none=>False
   | .oel k j sz off=>match look k w,Fs k mo.xl with
    | some (.slc A _ sz'),false=>match Nat.beq sz sz' with
     | true=>EvIdx A j λrow=>match i.agg with
      | true=>seg row off i.zero.length λl=>K (put o.dst (.agg l) t) w n
      | false=>match nth row off with
       | some g=>K (put o.dst g t) w n
       | none=>False
     | false=>False
    | some (.vw A _ sz'),false=>match Nat.beq sz sz' with
     | true=>EvIdx A j λrow=>match i.agg with
      | true=>seg row off i.zero.length λl=>K (put o.dst (.agg l) t) w n
      | false=>match nth row off with
       | some g=>K (put o.dst g t) w n
       | none=>False
     | false=>False
    | _,_=>False
   | _=>False
 | .store ty x y=>ev t w x λg=>ev t w y λu=>G9 w u λcs=>match look ty tt with
  | some i=>Zbx i.zero.length w cs (match g with
   | .ptr k off=>match look k w with
    | some (.blk cells ty')=>ovr i.zero.length cells off cs λC=>K (put o.dst .un t) ((k,.blk C ty')::w) n
    | some (.lnk j)=>match mo.isVs,look j w,cs with
     | false,some (.slc A e 1),[c]=>Eu (off < A.length/\Nm c=true) (K (put o.dst .un t) ((j,.slc (A.set off [c]) e 1)::w) n)
     | _,_,_=>False
    | _=>False
   | .oel k j sz off=>match look k w with
    | some (.slc A e sz')=>match Nat.beq sz sz' with
     | true=>Zfp i.zero.length w cs λcs=>Zed i.zero.length cs (EvSet A j (λrow k=>ovr i.zero.length row off cs k) λB=>K (put o.dst .un t) ((k,.slc B e sz)::w) n)
     | _=>False
    | _=>False
   | _=>False)
  | none=>False
 | .fieldAddr ty x f=>ev t w x λg=>match look ty tt with
  | none=>False
  | some i=>match nth i.flds f with
   | none=>False
   | some (_,fo)=>match g with
    | .ptr k off=>K (put o.dst (.ptr k (Nat.add off fo)) t) w n
    | .elp row off=>K (put o.dst (.elp row (Nat.add off fo)) t) w n
    | .oel k j sz off=>K (put o.dst (.oel k j sz (Nat.add off fo)) t) w n
    | _=>False
 | .field ty x f=>ev t w x λg=>Zc3 g λcs=>match look ty tt with
  | none=>False
  | some i=>match nth i.flds f with
   | none=>False
   | some (ft,fo)=>match look ft tt with
    | none=>False
    | some j=>match j.agg with
     | true=>seg cs fo j.zero.length λl=>Hu j.zero.length l λg=>K (put o.dst g t) w n
     | false=>match nth cs fo with
      | some g=>K (put o.dst g t) w n
      | none=>False
 | .indexAddr ty x i=>ev t w x λg=>ev t w i λq=>match q,look ty tt with
  | .v (.int .i64 j),some ⟨_,_,some (_,sz),_,_,_,_⟩=>match g with
   | .sl A=>EvIdx A j λrow=>match Nat.beq row.length sz with
    | true=>K (put o.dst (.elp row 0) t) w n
    | false=>False
   | .osl k=>match look k w with
    | some (.slc A _ sz')=>match Nat.beq sz' sz with
     | true=>(0<=j/\j < A.length)/\K (put o.dst (.oel k j.toNat sz 0) t) w n
     | false=>False
    | some (.vw A _ sz')=>match Nat.beq sz' sz with
     | true=>(0<=j/\j < A.length)/\K (put o.dst (.oel k j.toNat sz 0) t) w n
     | false=>False
    | _=>False
   | .osv k sz0 lo hi=>match look k w with
    | some (.slc _ _ sz')=>match Nat.beq sz' sz,Nat.beq sz0 sz with
     | true,true=>(0<=j/\j < (hi - lo:Nat))/\K (put o.dst (.oel k (lo+j.toNat) sz 0) t) w n
     | _,_=>False
    | _=>False
   | .orv k 0 0 off len _=>(0<=j/\j < len)/\K (put o.dst (.ptr k (Nat.add off (Nat.mul j.toNat sz))) t) w n
   | _=>False
  | .v (.int .i64 j),some ⟨_,_,none,_,_,_,.arr m _ sz⟩=>match g with
   | .ptr k off=>(0<=j/\j < m)/\K (put o.dst (.ptr k (Nat.add off (Nat.mul j.toNat sz))) t) w n
   | .elp row off=>(0<=j/\j < m)/\K (put o.dst (.elp row (Nat.add off (Nat.mul j.toNat sz))) t) w n
   | _=>False
  | _,_=>False
 | .sliceToArrayPointer ty x=>match look ty tt with
  | some ⟨_,_,none,_,false,_,.arr m _ 1⟩=>ev t w x λg=>match g with
   | .sl A=>Zd3 A m λl=>K (put o.dst (.elp l 0) t) w n
   | _=>False
  | _=>False
 | .index ty x i=>match look ty tt with
  | some ⟨_,_,_,_,true,_,_⟩=>ev t w x λg=>ev t w i λq=>match q,g with
   | .v (.int .i64 j),.v (.string s)=>EvIdx s.data.toList j λc=>K (put o.dst (.v (.int .u8 c.toNat)) t) w n
   | _,_=>False
  | some ⟨_,_,none,_,false,_,.arr m e sz⟩=>ev t w x λg=>Zc3 g λcs=>ev t w i λq=>match q,look e tt with
   | .v (.int .i64 j),some ti=>(0<=j/\j < m)/\match ti.agg with
    | true=>seg cs (Nat.mul j.toNat sz) ti.zero.length λl=>Hu ti.zero.length l λg=>K (put o.dst g t) w n
    | false=>match nth cs (Nat.mul j.toNat sz) with
     | some g=>K (put o.dst g t) w n
     | none=>False
   | _,_=>False
  | _=>False
 | .slice ty x lo hi mx=>match mx with
  | some m=>match lo,hi,look ty tt with
   | none,some h,some ⟨_,_,some (_,sz),_,_,_,_⟩=>ev t w x λg=>ev t w h λp=>ev t w m λq=>match p,q with
    | .v (.int .i64 a),.v (.int .i64 b)=>Eu (a=b) (Z92 w g sz a λg=>K (put o.dst g t) w n)
    | _,_=>False
   | _,_,_=>False
  | none=>match look ty tt with
   | some ⟨_,_,none,_,true,_,_⟩=>ev t w x λg=>match g with
    | .v (.string s)=>evO t w lo 0 λl=>evO t w hi s.size λh=>Yq l h s.size (K (put o.dst (.v (.string (s.extract l.toNat h.toNat))) t) w n)
    | _=>False
   | some ⟨_,_,some (_,sz),_,_,_,_⟩=>ev t w x λg=>slK w g sz (λK d=>evO t w lo d K) (λK d=>evO t w hi d K) λg=>K (put o.dst g t) w n
   | some ⟨_,_,none,_,false,_,.arr m _ 1⟩=>ev t w x λg=>Z3r t w n ty m lo hi g λg w n=>K (put o.dst g t) w n
   | some ⟨_,_,none,_,false,_,.arr m _ _⟩=>ev t w x λg=>Z6k t w m lo hi g λg=>K (put o.dst g t) w n
   | _=>False
 | .convert src dst x=>match look src tt,look dst tt with
  | some a,some b=>match a.str,b.elem with
   | true,some (e,_)=>match Zba tt e with
    | true=>ev t w x λg=>match g with
     | .v (.string s)=>K (put o.dst (.sl (s.data.toList.map gBy)) t) w n
     | _=>False
    | false=>False
   | _,_=>ev t w x λg=>cvK w g a b (cvU tt a mo.xl) λg=>K (put o.dst g t) w n
  | _,_=>False
 | .binOp op ty x y _=>ev t w x λg=>ev t w y λq=>match Zb1 tt q op ty with
  | true=>U9 w g λA=>Zcb A λb=>K (put o.dst (.v (.bool b)) t) w n
  | false=>Zei P tt ty op g q λg=>K (put o.dst g t) w n
 | .unOp .not _ x=>ev t w x λg=>Zem g λg=>K (put o.dst g t) w n
 | .extract x i=>ev t w x λg=>match g with
  | .tup l=>match nth l i with
   | some g=>K (put o.dst g t) w n
   | none=>False
  | _=>False
 | .build ty parts=>match look ty tt with
  | none=>False
  | some i=>match i.flds with
   | []=>match i.kd with
    | .arr m _ sz=>Zdt t w m sz parts.toList i.zero λl=>Hu (Nat.mul m sz) l λg=>K (put o.dst g t) w n
    | _=>False
   | f::fs=>Zas tt t w (f::fs) parts.toList i.zero λl=>Hu i.zero.length l λg=>K (put o.dst g t) w n
 | .buildSlice ty len parts=>match look ty tt with
  | some ⟨_,_,some (e,sz),_,_,_,_⟩=>match Nat.beq parts.toList.length len,Nat.ble (len * sz) 16777216 with
   | true,true=>bsK t sz parts.toList 0 w λA w'=>Zd5 (Za3 tt mo ty sz) ((n,.slc A e sz)::w') n λg w''=>K (put o.dst g t) w'' (n+1)
   | _,_=>False
  | _=>False
 | .makeSlice ty len cap=>match look ty tt with
  | some ⟨_,_,some (e,sz),_,_,_,_⟩=>match look e tt with
   | some ⟨false,[z],_,_,_,_,_⟩=>match Nat.beq sz 1 with
    | true=>ev t w len λp=>ev t w cap λq=>match p,q with
     | .v (.int .i64 m),.v (.int .i64 c)=>(0<=m/\m<=1073741824/\c=m)/\K (put o.dst (.osl n) t) ((n,.slc (List.replicate m.toNat [z]) e 1)::w) (n+1)
     | _,_=>False
    | false=>False
   | some ⟨true,ze,_,_,_,_,_⟩=>match Nat.beq sz ze.length,Bp Nm ze with
    | true,true=>ev t w len λp=>ev t w cap λq=>match p,q with
     | .v (.int .i64 m),.v (.int .i64 c)=>(0<=m/\m<=1073741824/\c=m/\m * sz<=1073741824)/\K (put o.dst (.osl n) t) ((n,.slc (List.replicate m.toNat ze) e sz)::w) (n+1)
     | _,_=>False
    | _,_=>False
   | _=>False
  | _=>False
 | .call c=>match c.callee with
  | .builtin .len=>match c.args.toList,c.argTypes.toList with
   | [x],[ty]=>match look ty tt with
    | some ⟨_,_,none,_,true,_,_⟩=>ev t w x λg=>match g with
     | .v (.string s)=>K (put o.dst (.v (.int .i64 s.size)) t) w n
     | _=>False
    | some ⟨_,_,some _,_,_,_,_⟩=>ev t w x λg=>Zg8 w g λm=>K (put o.dst (.v (.int .i64 m)) t) w n
    | some ⟨_,_,none,_,false,_,.map _ _⟩=>ev t w x λg=>match g with
     | .mp k=>match look k w,Fs k mo.xl with
      | some (.mpS l),false=>K (put o.dst (.v (.int .i64 l.length)) t) w n
      | some (.mpI l),false=>K (put o.dst (.v (.int .i64 l.length)) t) w n
      | _,_=>False
     | _=>False
    | _=>False
   | _,_=>False
  | .builtin .max=>match c.args.toList with
   | [x,y]=>ev t w x λg=>ev t w y λq=>match g,q with
    | .v (.int .i64 a),.v (.int .i64 b)=>K (put o.dst (.v (.int .i64 (max a b))) t) w n
    | _,_=>False
   | _=>False
  | .builtin .min=>match c.args.toList with
   | [x,y]=>ev t w x λg=>ev t w y λq=>match g,q with
    | .v (.int .i64 a),.v (.int .i64 b)=>K (put o.dst (.v (.int .i64 (min a b))) t) w n
    | _,_=>False
   | _=>False
  | .builtin .append=>match c.args.toList,c.argTypes.toList with
   | [x,y],[ty,ty']=>match Nat.beq ty ty',look ty tt with
    | true,some ⟨_,_,some (e,sz),_,_,_,_⟩=>ev t w x λg=>ev t w y λq=>Z37 w q sz λnew=>Zcr t w n o.dst g new e sz K
    | false,some ⟨_,_,some (e,sz),_,_,_,_⟩=>match Nat.beq sz 1,look ty' tt with
     | true,some ⟨_,_,_,_,true,_,_⟩=>ev t w x λg=>ev t w y λq=>Zbv q λs=>Z8j t w n o.dst g (s.data.toList.map gBy) e 1 K
     | _,_=>False
    | _,_=>False
   | _,_=>False
  | .builtin .copy=>match c.args.toList,c.argTypes.toList with
   | [x,y],[ty,_]=>match look ty tt with
    | some ⟨_,_,some (_,1),_,_,_,_⟩=>ev t w x λg=>ev t w y λq=>Z37 w q 1 λnew=>match g with
     | .osl k=>match look k w with
      | some (.slc A e 1)=>K (put o.dst (.v (.int .i64 (min new.length A.length:Nat))) t) ((k,.slc (new.take (min new.length A.length)++A.drop (min new.length A.length)) e 1)::w) n
      | _=>False
     | .osv k 1 lo hi=>match look k w with
      | some (.slc A e 1)=>K (put o.dst (.v (.int .i64 (min new.length (hi - lo):Nat))) t) ((k,.slc (A.take lo++new.take (min new.length (hi - lo))++A.drop (lo+min new.length (hi - lo))) e 1)::w) n
      | _=>False
     | .orv k i sz off len _=>match look k w with
      | some (.slc A e sz')=>match Nat.beq sz sz' with
       | true=>Eu (off+len<=sz) (EvSet A i (λrow k=>k (row.take off++(new.take (min new.length len)).flatten++row.drop (off+min new.length len))) λB=>K (put o.dst (.v (.int .i64 (min new.length len:Nat))) t) ((k,.slc B e sz)::w) n)
       | false=>False
      | _=>False
     | _=>False
    | _=>False
   | _,_=>False
  | .value f=>match f with
   | .func f=>evs t w c.args.toList λgs=>Oq P f mo gs [] [] w n λg w n=>K (put o.dst g t) w n
   | .tmp d=>match look d t with
    | some (.clo f a b)=>evs t w c.args.toList λgs=>Oq P f mo gs a b w n λg w n=>K (put o.dst g t) w n
    | some (.v (.func (.func f) a b))=>match a.toList,b.toList with
     | [],[]=>evs t w c.args.toList λgs=>Oq P f mo gs [] [] w n λg w n=>K (put o.dst g t) w n
     | _,_=>False
    | _=>False
   | _=>False
  | _=>False
 | .makeFunc (.func f) a c=>evs t w a.toList λa=>evs t w c.toList λc=>match Bp G.cap a,Bp G.cap c with
  | true,true=>match Bp C7 a,Bp C7 c with
   | true,true=>match a,c with
    | [],[]=>K (put o.dst (.v (.func (.func f) #[] #[])) t) w n
    | _,_=>False
   | _,_=>K (put o.dst (.clo f a c) t) w n
  | _,_=>False
 | .makeMap ty none=>match Qi tt ty with
  | .map true _=>K (put o.dst (.mp n) t) ((n,.mpS [])::w) (n+1)
  | .map false _=>K (put o.dst (.mp n) t) ((n,.mpI [])::w) (n+1)
  | _=>False
 | .lookup ty x i ok=>match Qi tt ty with
  | .map str e=>match look e tt with
   | some ti=>ev t w x λg=>ev t w i λq=>Zaa w mo.xl g q str ti (lkK ok λg=>K (put o.dst g t) w n)
   | none=>False
  | _=>False
 | .mapUpdate ty m k x=>match Qi tt ty with
  | .map str _=>ev t w m λg=>ev t w k λq=>ev t w x λu=>Z6i w g q u str λw=>K (put o.dst .un t) w n
  | _=>False
 | .insert ty m k x=>match Qi tt ty with
  | .map str _=>ev t w m λg=>ev t w k λq=>ev t w x λu=>Z6i w g q u str λw=>K (put o.dst .un t) w n
  | _=>False
 | .nilCheck x=>ev t w x λg=>match g with
  | .ptr k off=>K (put o.dst (.ptr k off) t) w n
  | .clo f a c=>K (put o.dst (.clo f a c) t) w n
  | .v (.func (.func f) a c)=>K (put o.dst (.v (.func (.func f) a c)) t) w n
  | _=>False
 | _=>False
def sxG (mo:Mo)(ops:List Oper)(o:Oper)(t:Ts)(w:Os)(n:Nat)(K:Ts->Os->Nat->Prop):Prop:=match o.guard with
 | none=>Jr P tt mo o t w n K
 | some (j,want)=>match(nth ops j).bind (·.dst) with
  | none=>K (put o.dst .un t) w n
  | some d=>match look d t with
   | some .tt=>match want with
    | true=>Jr P tt mo o t w n K
    | false=>K (put o.dst .un t) w n
   | some .ff=>match want with
    | false=>Jr P tt mo o t w n K
    | true=>K (put o.dst .un t) w n
   | some .un=>K (put o.dst .un t) w n
   | some (.v (.bool b))=>match want with
    | true=>EvIf b (Jr P tt mo o ((d,.tt)::t) w n K) (K (put o.dst .un ((d,.ff)::t)) w n)
    | false=>EvIf b (K (put o.dst .un ((d,.tt)::t)) w n) (Jr P tt mo o ((d,.ff)::t) w n K)
   | _=>False
abbrev MO:=Ts->Os->Nat->(Ts->Os->Nat->Prop)->Prop
def Zh9 (ops:List Oper)(o:Oper)(_:List Oper)(b:MO):MO:=λt w n K=>sxG P tt .row ops o t w n λt w n=>b t w n K
def Zgf:MO:=λt w n K=>K t w n
def sxO (ops:List Oper)(l:List Oper):MO:=@List.rec Oper (λ_=>MO) Zgf (Zh9 P tt ops) l
def isQ (o:Oper):Bool:=match o.op with
 | .convert src dst _=>match look src tt,look dst tt with
  | some a,some b=>match a.str,b.elem with
   | true,some _=>false
   | _,_=>true
  | _,_=>true
 | .assign x=>match x with
  | .const (.slice none 0 0)=>false
  | _=>true
 | .move _ | .pick _ _ _ | .makeFunc _ _ _ | .lookup _ _ _ _ | .load _ _ | .nilCheck _ | .sliceToArrayPointer _ _ | .fieldAddr _ _ _ | .field _ _ _ | .indexAddr _ _ _ | .index _ _ _ | .binOp _ _ _ _ _ | .unOp _ _ _ | .extract _ _ | .build _ _=>true
 | .slice ty _ _ _ _=>match look ty tt with
  | some ⟨_,_,none,_,false,_,.arr _ _ _⟩=>false
  | _=>true
 | .call c=>match c.callee with
  | .builtin .len | .builtin .max | .builtin .min=>true
  | _=>false
 | _=>false
def Ze9 (ty:TypeId):Bool:=match Qi tt ty with
 | .ptr | .fn | .map _ _=>true
 | _=>false
def Zgz:G->Bool
 | .v (.pointer none)=>true
 | _=>false
def Zg1:Nat->List G->Bool
 | 0,_=>false
 | _,[]=>false
 | n+1,g::l=>bif Zgz g then true else Zg1 n l
def Zgu (ty:TypeId):Bool:=match Ze9 tt ty with
 | true=>true
 | false=>match look ty tt with
  | some ⟨true,z,_,_,_,_,_⟩=>Zg1 8 z
  | _=>false
def isL (o:Oper):Bool:=match o.op with
 | .store _ _ _ | .mapUpdate _ _ _ _ | .insert _ _ _ _ | .next _ _ | .entry _=>true
 | .call c=>match c.callee with
  | .builtin .append=>true
  | .builtin .copy=>true
  | .builtin .delete=>true
  | .value (.func _)=>N5 (Zgu tt) c.argTypes.toList
  | .value _=>true
  | _=>false
 | _=>false
def Zay (l:List Bool)(i:Nat):Bool:=match nth l i with
 | some b=>b
 | none=>false
def X0:List Bool->Nat->List Bool
 | [],_=>[]
 | _::l,0=>true::l
 | b::l,i+1=>b::X0 l i
def Ge (l:List Bool):List Edge->Bool
 | []=>true
 | e::es=>bif (!Region.binds .any e||Zay l e.on) then Ge l es else false
def rdy (l:List Bool):List Oper->List Bool->Nat->List Nat
 | o::os,b::bs,i=>bif (!b&&Ge l o.after.toList) then i::rdy l os bs (i+1) else rdy l os bs (i+1)
 | _,_,_=>[]
def Mn (b:List Nat)(ops:List Oper):List Nat->Option Nat
 | []=>none
 | i::l=>match nth ops i with
  | some o=>bif isQ tt o&&!Fs i b then some i else Mn b ops l
  | none=>Mn b ops l
def Zdf (o:Oper):Bool:=match o.op with
 | .buildSlice _ _ _=>true
 | _=>false
def isE (ops:List Oper)(o:Oper):Bool:=match o.op with
 | .call c=>match c.callee,c.args.toList with
  | .builtin .append,.tmp d::_=>N5 (λo=>match o.dst,Zdf o with
   | some e,true=>Nat.beq d e
   | _,_=>false) ops
  | _,_=>false
 | _=>false
def Zg4 (ops:List Oper):Bool:=N5 (isE ops) ops
def Zfr (ty:TypeId):Bool:=match look ty tt with
 | some ⟨false,[_],none,_,_,_,.no⟩=>true
 | some ⟨false,[_],none,_,_,_,.bool⟩=>true
 | _=>false
def Z8b (o:Oper):Bool:=match o.guard,o.op with
 | none,.call c=>match c.callee with
  | .value (.func _)=>Bp (Zfr tt) c.argTypes.toList
  | _=>false
 | _,_=>false
def Zf1:List Oper->Nat
 | []=>0
 | o::l=>bif Z8b tt o then Zf1 l+1 else Zf1 l
def R6 (ops:List Oper):List Nat->Option Nat
 | []=>none
 | i::l=>match nth ops i with
  | some o=>bif Z8b tt o then some i else R6 ops l
  | none=>R6 ops l
def Zbc (ops:List Oper)(rs:List Nat):Option Nat:=match Nat.ble 4 (Zf1 tt ops)||Zg4 ops with
 | true=>R6 tt ops rs
 | false=>none
def Zfe (f:Nat->Prop)(i:Nat)(l:List Nat)(b:Prop):Prop:=match l with
 | []=>f i
 | _::_=>f i/\b
def Zdp (f:Nat->Prop)(l:List Nat):Prop:=@List.rec Nat (λ_=>Prop) True (Zfe f) l
def isR (o:Oper):Bool:=match o.op with
 | .load _ _ | .convert _ _ _ | .lookup _ _ _ _=>true
 | .call c=>match c.callee with
  | .builtin .len=>N5 (Ze9 tt) c.argTypes.toList
  | _=>false
 | _=>false
def noB:List Oper->List Bool
 | []=>[]
 | _::l=>false::noB l
def O8 {α:Type}:List Bool->Nat->(List Bool->α)->α
 | [],_,K=>K []
 | _::l,0,K=>K (true::l)
 | b::l,i+1,K=>O8 l i λr=>K (b::r)
def X2 {α:Type}:List Edge->List Bool->(List Bool->α)->α
 | [],m,K=>K m
 | e::es,m,K=>match Region.binds .any e with
  | true=>O8 m e.on λm=>X2 es m K
  | false=>X2 es m K
def Jh {α:Type}(ops:List Oper):Nat->List Bool->(List Bool->α)->α
 | 0,m,K=>K m
 | n+1,m,K=>match Zay m n with
  | true=>match nth ops n with
   | some o=>X2 o.after.toList m λm=>Jh ops n m K
   | none=>Jh ops n m K
  | false=>Jh ops n m K
def Zfi (c:List Nat):List Oper->List Bool->Nat->Bool
 | o::l,b::m,i=>bif isR tt o&&(!b&&!Fs i c) then false else Zfi c l m (i+1)
 | _,_,_=>true
def L1 {α:Type}(b:List Nat)(ops:List Oper):List Oper->Nat->(List Nat->α)->α
 | [],_,K=>K []
 | o::l,i,K=>match isL tt o with
  | true=>O8 (noB ops) i λm=>Jh ops (i+1) m λm=>match Zfi tt b ops m 0 with
   | true=>L1 b ops l (i+1) λr=>K (i::r)
   | false=>L1 b ops l (i+1) K
  | false=>L1 b ops l (i+1) K
def Zf0:List Oper->Nat->Option Nat
 | [],_=>none
 | o::l,d=>match o.dst with
  | some e=>match Nat.beq e d with
   | true=>match o.op with
    | .fieldAddr _ (.tmp b) _=>some b
    | .move (.tmp b)=>some b
    | .nilCheck (.tmp b)=>some b
    | _=>none
   | false=>Zf0 l d
  | none=>Zf0 l d
def Za4 (ops:List Oper):Nat->Nat->Nat
 | 0,d=>d
 | n+1,d=>match Zf0 ops d with
  | some b=>Za4 ops n b
  | none=>d
def Zh3 (ops:List Oper)(r:Nat)(o:Oper):Bool:=match o.op with
 | .call c=>match c.callee with
  | .value _=>N5 (λx=>match x with
   | .tmp a=>Nat.beq (Za4 ops 8 a) r
   | _=>false) c.args.toList
  | _=>false
 | _=>false
def Zfb (ops:List Oper)(i r:Nat):List Oper->Nat->Bool
 | [],_=>false
 | o::l,j=>match isL tt o&&Zh3 ops r o with
  | true=>O8 (noB ops) j λm=>Jh ops (j+1) m λm=>match Zay m i with
   | true=>Zfb ops i r l (j+1)
   | false=>true
  | false=>Zfb ops i r l (j+1)
def Ze0 (c:Bool):List Oper->Nat->Option Nat
 | [],_=>none
 | o::l,d=>match o.dst with
  | some e=>match Nat.beq e d with
   | true=>match o.op,c with
    | .indexAddr _ (.tmp b) _,false=>some b
    | .load _ (.tmp b),true=>some b
    | _,_=>none
   | false=>Ze0 c l d
  | none=>Ze0 c l d
def elS (ops:List Oper)(d:Nat):Nat:=match Ze0 false ops d with
 | some b=>match Ze0 true ops b with
  | some a=>a
  | none=>d
 | none=>d
def Zg6 (ops:List Oper)(i:Nat)(o:Oper):Bool:=match o.op with
 | .load _ (.tmp d)=>match Zg4 ops with
  | true=>true
  | false=>Zfb tt ops i (Za4 ops 8 (elS ops d)) ops 0
 | _=>false
def Z36 {α:Type}(ops:List Oper):List Oper->Nat->(List Nat->α)->α
 | [],_,K=>K []
 | o::l,i,K=>match Zg6 tt ops i o with
  | true=>Z36 ops l (i+1) λr=>K (i::r)
  | false=>Z36 ops l (i+1) K
def Z5y:List Oper->Nat->Option Nat
 | [],_=>none
 | o::l,d=>match o.dst with
  | some e=>match Nat.beq e d with
   | true=>match o.op with
    | .fieldAddr _ (.tmp b) _=>some b
    | .indexAddr _ (.tmp b) _=>some b
    | .move (.tmp b)=>some b
    | .nilCheck (.tmp b)=>some b
    | _=>none
   | false=>Z5y l d
  | none=>Z5y l d
def Ma (t:Ts)(ops:List Oper):Nat->Nat->Option Nat
 | 0,_=>none
 | n+1,d=>match look d t with
  | some (.ptr k _)=>some k
  | some _=>none
  | none=>match Z5y ops d with
   | some b=>Ma t ops n b
   | none=>none
def vaC {α:Type}(g:G)(ks:List Nat)(K:List Nat->α):α:=match g with
 | .ptr k _=>Hs k ks K
 | _=>K ks
def Zdz {α:Type}:List G->List Nat->(List Nat->α)->α
 | [],ks,K=>K ks
 | g::l,ks,K=>vaC g ks λks=>Zdz l ks K
def va1 {α:Type}(g:G)(ks:List Nat)(K:List Nat->α):α:=match g with
 | .clo _ a c=>Zdz a ks λks=>Zdz c ks K
 | g=>vaC g ks K
def vaL {α:Type}(t:Ts)(ops:List Oper):List Operand->List Nat->(List Nat->α)->α
 | [],r,K=>K r
 | x::l,r,K=>match x with
  | .tmp d=>match look d t with
   | some g=>va1 g r λr=>vaL t ops l r K
   | none=>match Ma t ops 8 d with
    | some k=>Hs k r λr=>vaL t ops l r K
    | none=>vaL t ops l r K
  | _=>vaL t ops l r K
def Z1y (t:Ts)(ops:List Oper):Nat->Nat->Option Nat
 | 0,_=>none
 | n+1,d=>match look d t with
  | some (.osl k)=>some k
  | some _=>none
  | none=>match Z5y ops d with
   | some b=>Z1y t ops n b
   | none=>none
def vsS {α:Type}(t:Ts)(ops:List Oper):List Operand->List Nat->(List Nat->α)->α
 | [],r,K=>K r
 | .tmp d::l,r,K=>match Z1y t ops 8 d with
  | some k=>Hs k r λr=>vsS t ops l r K
  | none=>vsS t ops l r K
 | _::l,r,K=>vsS t ops l r K
def Z4a {α:Type}(w:Os):List G->List Nat->(List Nat->α)->α
 | [],r,K=>K r
 | g::l,r,K=>match g with
  | .osl k=>match look k w with
   | some _=>Hs k r λr=>Z4a w l r K
   | none=>Z4a w l r K
  | _=>Z4a w l r K
def Zep:List Oper->Nat->Option Nat
 | [],_=>none
 | o::l,d=>match o.dst with
  | some e=>match Nat.beq e d with
   | true=>match o.op with
    | .load _ (.tmp b)=>some b
    | _=>none
   | false=>Zep l d
  | none=>Zep l d
def ldS {α:Type}(t:Ts)(w:Os)(ops:List Oper)(x:Operand)(r:List Nat)(K:List Nat->α):α:=match x with
 | .tmp d=>match look d t with
  | some _=>K r
  | none=>match Zep ops d with
   | some b=>match Ma t ops 8 b with
    | some k=>match look k w with
     | some (.blk cs _)=>Z4a w cs r K
     | _=>K r
    | none=>K r
   | none=>K r
 | _=>K r
def Zbp (tt:List (Nat × TI))(ty:TypeId):Bool:=match Qi tt ty with
 | .fn=>true
 | _=>false
def Zgb {α:Type}(b:Bool)(t:Ts)(ops:List Oper)(l:List Operand)(r:List Nat)(K:List Nat->α):α:=match b with
 | true=>vsS t ops l r K
 | false=>K r
def Zce {α:Type}:Os->List Nat->(List Nat->α)->α
 | [],r,K=>K r
 | (k,q)::l,r,K=>match q with
  | .abs _=>Hs k r λr=>Zce l r K
  | .fam _=>Hs k r λr=>Zce l r K
  | _=>Zce l r K
def Zbg {α:Type}:Os->List Nat->(List Nat->α)->α
 | [],r,K=>K r
 | (k,q)::l,r,K=>match q with
  | .mpI _=>Hs k r λr=>Zbg l r K
  | .mpS _=>Hs k r λr=>Zbg l r K
  | _=>Zbg l r K
def Zc0 (tt:List (Nat × TI))(ty:TypeId):Bool:=match Qi tt ty with
 | .map _ _=>true
 | _=>false
def Um {α:Type}(late:List Nat)(t:Ts)(w:Os)(ops:List Oper):List Oper->Nat->List Nat->(List Nat->α)->α
 | [],_,r,K=>K r
 | o::l,i,r,K=>match isL tt o&&!Fs i late,o.op with
  | true,.store _ (.tmp d) _=>match Ma t ops 8 d with
   | some k=>Hs k r λr=>Um late t w ops l (i+1) r K
   | none=>Um late t w ops l (i+1) r K
  | true,.call c=>match c.callee with
   | .value f=>vaL t ops (f::c.args.toList) r λr=>Zgb (N5 (Zbp tt) c.argTypes.toList) t ops c.args.toList r λr=>Zce w r λr=>match N5 (Zc0 tt) c.argTypes.toList with
    | true=>Zbg w r λr=>Um late t w ops l (i+1) r K
    | false=>Um late t w ops l (i+1) r K
   | .builtin .append=>match c.args.toList with
    | x::_=>vsS t ops [x] r λr=>ldS t w ops x r λr=>Um late t w ops l (i+1) r K
    | _=>Um late t w ops l (i+1) r K
   | _=>Um late t w ops l (i+1) r K
  | _,_=>Um late t w ops l (i+1) r K
def vsB (XL:List Nat)(t:Ts)(o:Oper):Bool:=match o.guard,o.op with
 | none,.store _ (.tmp d) _=>match look d t with
  | some (.ptr k _)=>Fs k XL
  | _=>false
 | none,.call c=>match c.callee with
  | .value _=>true
  | .builtin .append=>match c.args.toList with
   | .tmp d::_=>match look d t with
    | some (.osl k)=>Fs k XL
    | some .nl=>true
    | _=>false
   | _=>false
  | _=>false
 | _,_=>false
def vsG (XL:List Nat)(t:Ts)(o:Oper):Bool:=match o.guard with
 | none=>vsB XL t o
 | some _=>match o.op with
  | .call c=>match c.callee with
   | .value _=>true
   | _=>false
  | _=>false
def Zdg (w:Os)(XL:List Nat):Bool:=Bp (λk=>match look k w with | some _=>true | none=>false) XL
abbrev MD:=List Bool->Ts->Os->Nat->(Ts->Os->Nat->Prop)->Prop
def Zcs {α:Type}:List Oper->List Nat->(List Nat->α)->α
 | [],r,K=>K r
 | o::l,r,K=>match o.dst with
  | some d=>Hs d r λr=>Zcs l r K
  | none=>Zcs l r K
def Z87 {α:Type}:Ts->List Nat->(List Nat->α)->α
 | [],r,K=>K r
 | (i,_)::l,r,K=>Hs i r λr=>Z87 l r K
def Z2t (t:Ts):List Nat->Ts->(Ts->Prop)->Prop
 | [],acc,K=>K acc
 | i::l,acc,K=>match look i t with
  | some g=>Z2t t l ((i,g)::acc) K
  | none=>Z2t t l acc K
def Z3z (w:Os)(n:Nat):Os->(Os->Prop)->Prop:=@Nat.rec (λ_=>Os->(Os->Prop)->Prop) (λb K=>K b) (λi c b K=>match look i w with
 | some r=>c ((i,r)::b) K
 | none=>c b K) n
def brK (ops:List Oper)(t:Ts)(K:Ts->Os->Nat->Prop)(c:(Ts->Os->Nat->Prop)->Prop):List Nat->Prop
 | _::_::_=>Zcs ops [] λL=>Z87 t L λL=>c λt w n=>Z2t t L [] λt=>Z3z w n [] λw=>K t w n
 | _=>c K
def Zfu (t:Ts)(w:Os):List Operand->(List G->Prop)->Prop
 | [],K=>K []
 | x::l,K=>ev t w x λg=>match Z9q (Z39 g) with
  | some _=>Zfu t w l λgs=>K (Z39 g::gs)
  | none=>False
def Z9o (P:Program)(o:Oper)(t:Ts)(w:Os)(K:Ts->Prop):Prop:=match o.op with
 | .call c=>match c.callee with
  | .value (.func f)=>Zfu t w c.args.toList λgs=>Zd4 P f gs λg=>K (put o.dst g t)
  | _=>False
 | _=>False
def Zh1:MD:=λ_ t w n K=>K t w n
def Zfh (XL c late:List Nat)(ops:List Oper)(_:Oper)(_:List Oper)(b:MD):MD:=λl t w n K=>match Mn tt c ops (rdy l ops l 0) with
  | some i=>match nth ops i with
   | some o=>match Zdg w XL with
    | true=>sxG P tt (.quiet XL) ops o t w n λt w n=>O8 l i λl=>b l t w n K
    | false=>False
   | none=>False
  | none=>match Zbc tt ops (rdy l ops l 0) with
   | some i=>match nth ops i with
    | some o=>Z9o P o t w λt=>O8 l i λl=>b l t w n K
    | none=>False
   | none=>match rdy l ops l 0 with
    | []=>K t w n
    | rs=>brK ops t K (λK=>Zdp (λi=>match nth ops i with
     | some o=>match isL tt o with
      | false=>sxG P tt .new ops o t w n λt w n=>O8 l i λl=>b l t w n K
      | true=>match Fs i late with
       | true=>sxG P tt .late ops o t w n λt w n=>O8 l i λl=>b l t w n K
       | false=>match vsG XL t o,Zdg w XL with
        | true,true=>sxG P tt (.vs XL) ops o t w n λt w n=>O8 l i λl=>b l t w n K
        | _,_=>False
     | none=>False) rs) rs
def sxD (XL b late:List Nat)(ops:List Oper)(fu:List Oper):MD:=@List.rec Oper (λ_=>MD) Zh1 (Zfh P tt XL b late ops) fu
def Yr:List Operand->List Nat
 | []=>[]
 | .tmp i::l=>i::Yr l
 | _::l=>Yr l
def Ri (o:Oper):List Nat:=Yr o.op.operands.toList
def Z8i (t:Ts):List Nat->Ts
 | []=>[]
 | i::l=>match look i t with
  | some g=>(i,g)::Z8i t l
  | none=>Z8i t l
def Z9e (o:Oper)(t:Ts)(own:Os)(n d:Nat)(g:G):Prop :=
 Jr P tt .new o (Z8i t (Ri o)) own n λc own' h=>match isQ tt o with
  | true=>look d c=some g
  | false=>∃b e sz,(h=n+1/\own'=(n,.slc b e sz)::own)/\look d c=some (.osl n)/\g=.sl b
abbrev MI:=Ts->(Ts->Prop)->Prop
def Zfs (own:Os)(c:Nat)(o:Oper)(_:List Oper)(b:MI):MI:=λt K=>match o.dst with
 | none=>False
 | some d=>∃g,(∀n,c<=n->Z9e P tt o t own n d g)/\b ((d,g)::t) K
def sxI (own:Os)(b:Nat)(l:List Oper):MI:=@List.rec Oper (λ_=>MI) (λt K=>K t) (Zfs P tt own b) l
def Z8m:List Oper->Nat
 | []=>0
 | o::l=>bif Zdf o then Z8m l+1 else Z8m l
def Z79:List Oper->Nat->(Nat->Prop)->Prop
 | [],n,K=>K n
 | o::l,n,K=>match isQ tt o with
  | true=>Z79 l n K
  | false=>Z79 l (n+1) K
def Z73:List Oper->Nat->Nat->Option Nat
 | [],_,_=>none
 | o::l,s,i=>match o.dst with
  | some d=>bif Nat.beq d s then some i else Z73 l s (i+1)
  | none=>Z73 l s (i+1)
def Zg2 (ops:List Oper)(o:Oper)(s:Nat):Bool:=match Z73 ops s 0 with
 | none=>true
 | some j=>N5 (λe=>Region.binds .any e&&Nat.beq e.on j) o.after.toList
def Zff (ops l:List Oper)(i:Nat)(o:Oper):Bool:=match o.guard,o.dst with
 | none,some d=>(isQ tt o||Zdf o)&&(match Z73 l d 0 with
  | none=>true
  | some _=>false)&&Bp (λe=>!Region.binds .any e||Nat.blt e.on i) o.after.toList&&Bp (Zg2 ops o) (Ri o)
 | _,_=>false
def Ze7 (ops:List Oper):List Oper->Nat->Bool
 | [],_=>true
 | o::l,i=>Zff tt ops l i o&&Ze7 ops l (i+1)
def Z7y (ops:Array Oper):Bool:=Nat.ble 4 (Z8m ops.toList)&&Ze7 tt ops.toList ops.toList 0
inductive Ex where
 | normal
 | exit (id:Nat)
 | ret
 | goto (l:Nat)
abbrev KC:=Ex->Ts->Os->Nat->Prop
def leT (m:List (Nat × Nat))(t:Ts)(n:Nat):Ts->Prop
 | []=>True
 | (i,g)::r=>(Z38 n g=true/\look i t=some (renS m g))/\leT m t n r
def leO (m:List (Nat × Nat))(w:Os)(n:Nat):Os->Prop
 | []=>True
 | (k,r)::l=>((Nat.blt k n&&(isS r||Nat.beq ((look k m).getD k) k))=true/\Z0u n r=true/\look ((look k m).getD k) w=some (Z5i m r))/\leO m w n l
def le (m:List (Nat × Nat))(t:Ts)(w:Os)(n:Nat)(b:Ts)(w':Os):Prop :=
 leT m t n b/\leO m w n w'/\Sk (w'.map λp=>(look p.1 m).getD p.1)=true
def mkM (t:Ts):Ts->List (Nat × Nat)
 | []=>[]
 | (i,.osl k)::l=>match look i t with
  | some (.osl j)=>(k,j)::mkM t l
  | _=>mkM t l
 | _::l=>mkM t l
def Z0r {X:Type}(h:X->Ts × Os)(d:X->Ts)(I:X->Prop)(μ:X->Nat)(n:Nat)(x:X)(K:KC):KC:=λe b w' c=>match e with
 | .normal=>∃y,I y/\μ y < μ x/\le (mkM b (d y)) b w' n (h y).1 (h y).2
 | .exit id=>K (.exit id) b w' c
 | .ret=>K .ret b w' c
 | .goto l=>K (.goto l) b w' c
abbrev MC:=Ts->Os->Nat->KC->Prop
def Z1h (_ _:Code)(x y:MC):MC:=λt w n K=>x t w n λe t w n=>match e with
  | .normal=>y t w n K
  | .exit id=>K (.exit id) t w n
  | .ret=>K .ret t w n
  | .goto l=>K (.goto l) t w n
def Z0w (c:Operand)(_ _:Code)(x y:MC):MC:=λt w n K=>ev t w c λg=>match g with
  | .tt=>x t w n K
  | .ff=>y t w n K
  | .v (.bool c)=>EvIf c (x t w n K) (y t w n K)
  | _=>False
def Tu (id:Nat)(_:Code)(x:MC):MC:=λt w n K=>x t w n λe t w n=>match e with
  | .normal=>K .normal t w n
  | .exit id'=>bif Nat.beq id' id then K .normal t w n else K (.exit id') t w n
  | .ret=>K .ret t w n
  | .goto l=>K (.goto l) t w n
def Pe {X:Type}(h:X->Ts × Os)(I:X->Prop)(μ:X->Nat)(n:Nat)(x:X)(K:KC):KC:=λe b w' c=>match e with
 | .normal=>∃(y:X) (m:List (Nat × Nat)),I y/\μ y < μ x/\le m b w' n (h y).1 (h y).2
 | .exit id=>K (.exit id) b w' c
 | .ret=>K .ret b w' c
 | .goto l=>K (.goto l) b w' c
def W9 {X:Type}(b:X->Ts × Os)(_:X->Ts)(I:X->Prop)(μ:X->Nat)(n:Nat)(x:X)(K:KC):KC:=λe h w' j=>Gh (λm c=>Pe b I μ n x K e h m c) w' j
def Zgx (b:Bool){X:Type}(c:X->Ts × Os)(d:X->Ts)(I:X->Prop)(μ:X->Nat)(n:Nat)(x:X)(K:KC):KC:=match b with
 | false=>Z0r c d I μ n x K
 | true=>W9 c d I μ n x K
def S4 (_:Code)(x:MC):MC:=λt w0 h K=>Gh (λw n=>∃(b:Bool) (X:Type) (c:X->Ts × Os) (d:X->Ts) (I:X->Prop) (μ:X->Nat),
      (∃x,I x/\le [] t w n (c x).1 (c x).2)/\∀y,I y->x (c y).1 (c y).2 n (Zgx b c d I μ n y K)) w0 h
def Z9h (_:Nat)(ops:Array Oper)(d:Bool):MC:=λt w n K=>match d with
  | false=>sxO P tt ops.toList ops.toList t w n (K .normal)
  | true=>match Z7y tt ops with
   | true=>sxI P tt w n ops.toList t λt=>Z79 tt ops.toList n λn=>K .normal t w n
   | false=>Z36 tt ops.toList ops.toList 0 λb=>L1 tt b ops.toList ops.toList 0 λlate=>Um tt late t w ops.toList ops.toList 0 [] λXL=>trK w 3 XL λXL=>sxD P tt XL b late ops.toList ops.toList (noB ops.toList) t w n (K .normal)
def Yn (e:Ex):MC:=λt w n K=>K e t w n
def Zg7:MC:=λ_ _ _ _=>False
def Nt (m:MC):MC:=λt w n K=>m t w n λe t w n=>match e with
  | .normal=>K .normal t w n
  | .exit id=>K (.exit id) t w n
  | .ret=>K .ret t w n
  | .goto _=>False
def T9:Code->Option Nat
 | .seq a b=>match T9 a with
  | some l=>some l
  | none=>T9 b
 | .label l=>some l
 | _=>none
abbrev MP:=Bool->MC
def Td (x:Code)(m:MP):MC:=match T9 x with
 | none=>Nt (m true)
 | some l=>λt w n K=>m true t w n λe t w n=>match e with
  | .normal=>K .normal t w n
  | .exit id=>K (.exit id) t w n
  | .ret=>K .ret t w n
  | .goto l'=>bif Nat.beq l' l then Nt (m false) t w n K else False
def Zh6 (x y:Code)(p q:MP):MP:=λb=>match b with
 | true=>Z1h x y (p true) (q true)
 | false=>match T9 x with
  | some _=>Z1h x y (p false) (q true)
  | none=>q false
def sxM (c:Code):MP:=@Code.rec (λ_=>MP) (λ_=>Yn .normal) (λi o d _=>Z9h P tt i o d) Zh6 (λc x y p q _=>Z0w c x y (p true) (q true)) (λi x p _=>Tu i x (p true)) (λx p _=>S4 x (p true)) (λ_ _ _ _ _ _ _=>Zg7) (λid _=>Yn (.exit id)) (λx p _=>Td x p) (λ_ _=>Yn .normal) (λl _=>Yn (.goto l)) (λ_=>Yn .ret) (λ_ _=>Zg7) c
def sxC (c:Code):MC:=sxM P tt c true
def Z8w (t:Ts)(w:Os)(K:G->Os->Prop):ResultVar->Prop
 | .tmp i=>match look i t with
  | some g=>pur w g K
  | none=>False
 | .cell i ty=>match look i t,look ty tt with
  | some (.ptr k off),some i=>match look k w with
   | some (.blk cs _)=>match i.agg with
    | true=>seg cs off i.zero.length λl=>Zax l w λb w'=>K (.agg b) w'
    | false=>match nth cs off with
     | some g=>Z3g w g K
     | none=>False
   | _=>False
  | _,_=>False
def Z9n (t:Ts)(w:Os):List ResultVar->(List G->Prop)->Prop
 | [],K=>K []
 | r::l,K=>Z8w tt t w (λg w'=>Z9n t w' l λgs=>K (g::gs)) r
def Zb4 (fn:Func)(Q:G->Prop):KC:=λe t w _=>match e with
 | .exit _=>False
 | .goto _=>False
 | _=>match fn.results.toList with
  | [r]=>Z9n tt t w [r] λgs=>match gs with
   | [g]=>Q g
   | _=>False
  | rs=>Z9n tt t w rs λgs=>Q (.tup gs)
def Xh (t:Ts)(w:Os)(K:G->Os->Prop):ResultVar->Prop
 | .tmp i=>match look i t with
  | some g=>Zda w g K
  | none=>False
 | .cell i ty=>Z8w tt t w K (.cell i ty)
def U7 (t:Ts)(w:Os):List ResultVar->(List G->Os->Prop)->Prop
 | [],K=>K [] w
 | r::rs,K=>Xh tt t w (λg w'=>U7 t w' rs λgs w''=>K (g::gs) w'') r
structure It where
 O:Os
 m:List (Nat × Nat)
 c:Bool
def It.root (i:It):Nat:=(look 0 i.m).getD 0
def It.keys (i:It):List Nat:=i.O.map λp=>(look p.1 i.m).getD p.1
def keysL:List It->List Nat
 | []=>[]
 | i::l=>i.keys++keysL l
def Jz:Nat->List G->Ts
 | _,[]=>[]
 | i,g::l=>(i,g)::Jz (i+1) l
def It.res:It->R
 | ⟨O,_,true⟩=>.abs (cl O)
 | ⟨O,_,false⟩=>match look 0 O with
  | some r=>r
  | none=>.gone
def Eh:List It->Nat->List (Nat × Nat)
 | [],_=>[]
 | i::l,j=>(j,i.root)::Eh l (j+1)
def It.ok (own:Os)(n b N:Nat)(M:List (Nat × Nat))(j:Nat)(i:It):Prop:=match i.c with
 | true=>leI i.m own n i.O/\∃r,look 0 i.O=some r
 | false=>∃r,i.O=[(0,r)]/\look i.root own=some (Lh M r)/\(Z0u N r&&((match r with | .blk cs _=>Bp (Zel b) cs | _=>true)&&(!(match r with | .slc _ _ _ | .froz _ _ | .vw _ _ _=>true | _=>false)||Nat.ble b j)))=true
def Z88 (own:Os)(n b N:Nat)(M:List (Nat × Nat)):Nat->List It->Prop
 | _,[]=>True
 | j,i::l=>i.ok own n b N M j/\Z88 own n b N M (j+1) l
def Ze8:G->Bool
 | .osv _ _ _ _ | .oel _ _ _ _ | .orv _ _ _ _ _ _ | .clo _ _ _=>false
 | _=>true
def Zet:G->Bool
 | .tup l=>Bp Ze8 l
 | g=>Ze8 g
def Z30 (b:Nat):G->Bool
 | .oag l=>Bp (Zel b) l
 | .osl k=>Nat.ble b k
 | _=>true
def Zfv (b:Nat):G->Bool
 | .tup l=>Bp (Z30 b) l
 | g=>Z30 b g
structure Wu (roots:List Nat)(own:Os)(n:Nat)(g:G)(Q:G->List R->Prop)(its:List It)(g':G):Prop where
 ok:Z88 own n roots.length its.length (Eh its 0) 0 its
 nod:Sk (keysL its)=true
 rts:∃l,its.map It.root=roots++l
 res:R3 (Eh its 0) g'=g
 key:(Z38 its.length g'&&Zet g'&&Zfv roots.length g')=true
 post:Q g' (its.map It.res)
def Z7s (fn:Func)(b:List Nat)(Q:G->List R->Prop):KC:=λe t w n=>match e with
 | .exit _=>False
 | .goto _=>False
 | _=>match fn.results.toList with
  | [r]=>U7 tt t w [r] λgs own=>match gs with
   | [g]=>∃c h,Wu b own n g Q c h
   | _=>False
  | rs=>U7 tt t w rs λgs own=>∃c h,Wu b own n (.tup gs) Q c h
def Qr (t:Ts)(n:Nat):List Nat->Ts
 | []=>[]
 | i::l=>match look i t with
  | some g=>match Z38 n g with
   | true=>(i,g)::Qr t n l
   | false=>Qr t n l
  | none=>Qr t n l
def Om (t:Os)(n:Nat):List Nat->Os
 | []=>[]
 | i::l=>match look i t,Nat.blt i n with
  | some g,true=>match Z0u n g with
   | true=>(i,g)::Om t n l
   | false=>Om t n l
  | _,_=>Om t n l
theorem Z8x (m:List (Nat × Nat))(t a b:Ts)(n:Nat)(ha:leT m t n a)(c:leT m t n b):leT m t n (a++b):=by
 induction a with
 | nil=>exact c
 | cons p a ih=>exact⟨ha.1,ih ha.2⟩
theorem Z93 (m:List (Nat × Nat))(t a b:Os)(n:Nat)(ha:leO m t n a)(c:leO m t n b):leO m t n (a++b):=by
 induction a with
 | nil=>exact c
 | cons p a ih=>exact⟨ha.1,ih ha.2⟩
theorem W5 (g:G):My [] g=g:=by cases g<;>rfl
theorem Py (g:G):Z3a [] g=g:=by
 cases g with
 | oag l=>simp only[Z3a,funext W5];simp
 | clo f a c=>simp only[Z3a,funext W5];simp
 | _=>rfl
theorem Z45 (g:G):R3 [] g=g:=by
 cases g with
 | tup l=>simp only[R3,funext Py];simp
 | oag l=>exact Py (.oag l)
 | clo f a c=>exact Py (.clo f a c)
 | _=>rfl
theorem Gx (g:G):L4 [] g=g:=by
 cases g with
 | orv k i s off l c=>cases s<;>rfl
 | _=>rfl
theorem Lw (g:G):To [] g=g:=by
 cases g with
 | oag l=>simp only[To,funext Gx];simp
 | clo f a c=>simp only[To,funext Gx];simp
 | orv k i s o l c=>exact Gx (.orv k i s o l c)
 | _=>rfl
theorem Z4d (g:G):renS [] g=g:=by
 cases g with
 | tup l=>simp only[renS,funext Lw];simp
 | oag l=>exact Lw (.oag l)
 | clo f a c=>exact Lw (.clo f a c)
 | orv k i s o l c=>exact Gx (.orv k i s o l c)
 | _=>rfl
theorem Z12 (r:R):Z5i [] r=r:=by
 cases r with
 | blk cs t=>simp only[Z5i,funext Gx];simp
 | _=>rfl
theorem Z3c (t:Ts)(n:Nat)(ks:List Nat):leT [] t n (Qr t n ks):=by
 induction ks with
 | nil=>exact trivial
 | cons i l ih =>
  unfold Qr;cases h:look i t with
  | none=>exact ih
  | some g =>
   cases h2:Z38 n g with
   | false=>simpa [h2] using ih
   | true=>simp only[h2];exact⟨⟨h2,by rw[h,Z4d]⟩,ih⟩
theorem Z3o (t:Os)(n:Nat)(ks:List Nat):leO [] t n (Om t n ks):=by
 induction ks with
 | nil=>exact trivial
 | cons i l ih =>
  unfold Om;cases h:look i t with
  | none=>exact ih
  | some g =>
   cases h2:Nat.blt i n with
   | false=>exact ih
   | true =>
    cases h3:Z0u n g with
    | false=>simpa [h3] using ih
    | true=>simp only[h3];exact⟨⟨by rw[h2];show(true&&(isS g||Nat.beq i i))=true;rw[Nat.beq_refl];simp,h3,by show look i t=_;rw[h,Z12]⟩,ih⟩
def Nx {α:Type}(t:Ts)(n:Nat):List Nat->(Ts->α)->α
 | [],K=>K []
 | i::l,K=>match look i t with
  | some g=>match Z38 n g with
   | true=>Nx t n l λr=>K ((i,g)::r)
   | false=>Nx t n l K
  | none=>Nx t n l K
def Oc {α:Type}(t:Os)(n:Nat):List Nat->(Os->α)->α
 | [],K=>K []
 | i::l,K=>match look i t,Nat.blt i n with
  | some g,true=>match Z0u n g with
   | true=>Oc t n l λr=>K ((i,g)::r)
   | false=>Oc t n l K
  | _,_=>Oc t n l K
theorem Z1m {α:Type}(t:Ts)(n:Nat)(l:List Nat)(K:Ts->α):Nx t n l K=K (Qr t n l):=by
 induction l generalizing K with
 | nil=>rfl
 | cons i l ih =>
  unfold Nx Qr;cases look i t with
  | none=>exact ih K
  | some g =>
   cases h:Z38 n g with
   | true=>simp only[h];exact ih _
   | false=>simp only[h];exact ih _
theorem Z09 {α:Type}(t:Os)(n:Nat)(l:List Nat)(K:Os->α):Oc t n l K=K (Om t n l):=by
 induction l generalizing K with
 | nil=>rfl
 | cons i l ih =>
  unfold Oc Om;cases look i t with
  | none=>exact ih K
  | some g =>
   cases Nat.blt i n with
   | false=>exact ih _
   | true =>
    cases h:Z0u n g with
    | true=>simp only[h];exact ih _
    | false=>simp only[h];exact ih _
theorem As {a:Code}{B:MC}{t:Ts}{w:Os}{n:Nat}{K:KC}(ks os:List Nat){X:Type}(d:X->Ts)(r:X->Os)(I:X->Prop)(μ:X->Nat)(b:X)(q:I b)(c:leT [] t n (d b))(j:leO [] w n (r b))(m:Sk ((r b++Om w n os).map λp=>(look p.1 ([]:List (Nat × Nat))).getD p.1)=true)
  (h:Nx t n ks λT=>Oc w n os λO=>∀x,I x->B (d x++T) (r x++O) n (Z0r (λx=>(d x++T,r x++O)) d I μ n x K)):S4 a B t w n K:=by
 rw[Z1m,Z09] at h;exact .done ⟨false,X,λx=>(d x++Qr t n ks,r x++Om w n os),d,I,μ,⟨b,q,Z8x _ _ _ _ _ c (Z3c t n ks),Z93 _ _ _ _ _ j (Z3o w n os),m⟩,h⟩
attribute [irreducible] S4
end
structure Env (w0 w:World)(L:List (Nat × List Value × TypeId))(U:List (World × List Nat)):Prop where
 blw:Below w0.heap.size w0 w
 own:∀p∈L,w0.heap.size<=p.1/\w.heap[p.1]?=some (.cells p.2.1.toArray p.2.2 (0,0))
 sep:(L.map (·.1)).Nodup
 sn:∀q∈U,Frm q.2 q.1 w/\∀p∈L,p.1∈q.2\/q.1.heap.size<=p.1
inductive IsC:Value->List Value->Prop
 | agg (cs:List Value):IsC (.agg cs.toArray) cs
 | int (k:IntKind) (n:Int):IsC (.int k n) [.int k n]
 | str (s:ByteArray):IsC (.string s) [.string s]
 | slice (a:Option Addr) (n c:Nat):IsC (.slice a n c) [.slice a n c]
 | bool (b:Bool):IsC (.bool b) [.bool b]
 | ptr (a:Option Addr):IsC (.pointer a) [.pointer a]
 | map (r:Option Nat):IsC (.map r) [.map r]
 | iface (t:TypeId) (v:Value):IsC (.iface t v) [.iface t v]
 | nilI:IsC .nilIface [.nilIface]
theorem IsC.eq {v:Value}{cs:List Value}(h:IsC v cs):v.cells.toList=cs:=by cases h<;>simp[Value.cells]
inductive At {α:Type}:List α->Nat->α->Prop
 | z {x:α} {l:List α}:At (x::l) 0 x
 | s {x y:α} {l:List α} {i:Nat} (h:At l i x):At (y::l) (i+1) x
theorem At.get {α:Type}{l:List α}{i:Nat}{x:α}(h:At l i x):l[i]?=some x:=by
 induction h with
 | z=>rfl
 | s _ ih=>simpa using ih
def Pu (P:Program)(t:TypeId):Option Bool:=(P.underlying t).map λd=>match d with | .struct _ | .array _ _=>true | _=>false
theorem Frm.trans2 {S T:List Nat}{u w w':World}(h:Frm T u w)(b:Frm S w w')(p:∀k∈S,k∈T\/u.heap.size<=k):Frm T u w' :=
 ⟨b.os.trans h.os,b.tape.trans h.tape,b.output.trans h.output,co h.size b.size,λk c j=>(b.block k (bc c h.size) (λm=>(p k m).elim j (λq=>by omega))).trans (h.block k c j)⟩
section
variable {P:Program} {w0 w w':World} {L:List (Nat × List Value × TypeId)} {U:List (World × List Nat)} {g k i:Nat} {row:List Value} {t ty:TypeId}
theorem Gi {b:Bool}(h:Pu P ty=some b)(w:World):(isAgg ty).run P w=.ok b w:=by unfold Pu at h;obtain⟨d,hd,rfl⟩:=bg.1 h;unfold isAgg;rw[Sem.run_bind,run_underlying hd w];cases d<;>simp
theorem Bt {n:Nat}(h:(P.info? ty).map (·.size)=some n)(w:World):(sizeOf ty).run P w=.ok n w:=by
 cases hq:P.info? ty with
 | none=>simp[hq] at h
 | some j =>
  rw[hq] at h;injection h with h;simp[sizeOf,typeInfo,hq,h]
theorem Env.new (w:World):Env w w [] []:=⟨ab _ _,by simp,by simp,by simp⟩
theorem Env.base (h:Below w0.heap.size w0 w):Env w0 w [] []:=⟨h,by simp,by simp,by simp⟩
theorem Env.size (h:Env w0 w L U):w0.heap.size<=w.heap.size:=h.blw.size
theorem Env.lt (h:Env w0 w L U){p:Nat × List Value × TypeId}(b:p∈L):p.1 < w.heap.size:=(bz.1 (h.own p b).2).1
theorem Env.below (h:Env w0 w L U)(b:Below w.heap.size w w'):Env w0 w' L U :=
 ⟨h.blw.trans (b.mono h.blw.size),λp c=>⟨(h.own p c).1,(b.block _ (h.lt c)).trans (h.own p c).2⟩,h.sep,λq j=>⟨(h.sn q j).1.trans (Frm.of_below b),(h.sn q j).2⟩⟩
theorem Env.drew (h:Env w0 w L U):Env w0 w.drew L U:=h.below (ab w.heap.size w).drew
theorem Env.drewN (h:Env w0 w L U)(n:Nat):Env w0 (w.drewN n) L U:=h.below (Db (ab w.heap.size w) n)
theorem Env.alloc (h:Env w0 w L U)(cs:List Value)(t:TypeId):Env w0 (w.alloc (.cells cs.toArray t)) ((w.heap.size,cs,t)::L) U:=by
 have m:Below w.heap.size w (w.alloc (.cells cs.toArray t)):=(ab _ _).alloc (au _) _;have c:=h.below m;refine⟨c.blw,λp b=>?_,?_,λq j=>⟨(c.sn q j).1,λp b=>?_⟩⟩
 .rcases bq.1 b with rfl | b
  .exact⟨h.blw.size,heap_alloc_new _ _⟩
  .exact c.own p b
 .rw[cw,List.nodup_cons];refine⟨λs=>?_,h.sep⟩;obtain⟨p,b,e⟩:=bj.1 s;have:=h.lt b;omega
 .rcases bq.1 b with rfl | b
  .exact .inr (h.sn q j).1.size
  .exact(h.sn q j).2 p b
theorem Env.at_ (h:Env w0 w L U)(hL:L[i]?=some (g,row,t)):w.heap[g]?=some (.cells row.toArray t (0,0))/\w0.heap.size<=g/\g < w.heap.size :=
 have:=h.own _ (ar hL)
 ⟨this.2,this.1,h.lt (ar hL)⟩
theorem Env.cell (h:Env w0 w L U)(hL:L[i]?=some (g,row,t))(k:Nat):w.cell? ⟨g,k,none⟩=row[k]?:=by rw[A1 (h.at_ hL).1];simp
theorem Env.froz (h:Env w0 w L U)(hL:L[i]?=some (g,row,t))(k:Nat):w.frozen? ⟨g,k,none⟩=false:=frozen_of_row w g k _ t (h.at_ hL).1
theorem Env.frm {S:List Nat}(h:Env w0 w L U)(c:Frm S w w')(m:∀k∈S,w0.heap.size<=k/\k ∉ L.map (·.1))(z:∀q∈U,∀k∈S,k∈q.2\/q.1.heap.size<=k):Env w0 w' L U :=
 ⟨c.below h.blw h.blw.size (λk u=>(m k u).1),λp b=>⟨(h.own p b).1,(c.block _ (h.lt b) (λs=>(m _ s).2 (bj.2 ⟨p,b,rfl⟩))).trans (h.own p b).2⟩,h.sep,
  λq j=>⟨(h.sn q j).1.trans2 c (z q j),(h.sn q j).2⟩⟩
theorem Env.since (h:Env w0 w L U){u:World}{S:List Nat}(j:Nat)(b:U[j]?=some (u,S)):Frm S u w:=(h.sn _ (ar b)).1
theorem Env.tail {p:Nat × List Value × TypeId}(h:Env w0 w (p::L) U):Env w0 w L U :=
 ⟨h.blw,λq b=>h.own q (List.mem_cons_of_mem _ b),(List.nodup_cons.1 h.sep).2,λq b=>⟨(h.sn q b).1,λp c=>(h.sn q b).2 p (List.mem_cons_of_mem _ c)⟩⟩
theorem Env.set (h:Env w0 w L U)(hL:L[i]?=some (g,row,t)){b:List Value}(Z:w'.heap[g]?=some (.cells b.toArray t (0,0)))(m:w.grownBy w' (some g)):Env w0 w' (L.set i (g,b,t)) U:=by
 have H:=(h.at_ hL).2;have B:=(aq.1 hL).1;have T:L[i]=(g,row,t):=(aq.1 hL).2;have c:(L.set i (g,b,t)).map (·.1)=L.map (·.1):=by
  rw[List.map_set];apply cz;intro j;rw[cx];split
  .rename_i e
   subst e;rw[dt (by simpa using B),ax,hL];rfl
  .rfl
 refine⟨Below.grownBy h.blw m h.blw.size (λk s=>by injection s with s;omega),λp O=>?_,by rw[c];exact h.sep,λq M=>⟨?_,λp O=>?_⟩⟩
 .obtain⟨j,Y,e⟩:=cu.1 O;rw[List.getElem_set] at e;split at e
  .rename_i hij
   subst e;exact⟨H.1,Z⟩
  .rename_i hij
   have A:j < L.length:=by simpa using Y
   have u:p∈L:=e ▸ bw A;refine⟨(h.own p u).1,(m.block _ (h.lt u) (λF=>?_)).trans (h.own p u).2⟩;injection F with F;have z:=List.pairwise_iff_getElem.1 h.sep;have D:i < (L.map (·.1)).length:=by simpa using B
   have C:j < (L.map (·.1)).length:=by simpa using A
   have W:(L.map (·.1))[i]=g:=by rw[List.getElem_map,T]
   have X:(L.map (·.1))[j]=g:=by rw[List.getElem_map,e];exact F
   rcases Nat.lt_or_gt_of_ne hij with J | J
   .exact z i j D C J (W.trans X.symm)
   .exact z j i C D J (X.trans W.symm)
 .refine(h.sn q M).1.trans2 (S:=[g]) ⟨m.os,m.tape,m.output,m.size,λk s hn=>m.block k s (λe=>hn (by injection e with e;simp[e]))⟩ λk s=>?_;obtain rfl:=bx.1 s;exact(h.sn q M).2 _ (ar hL)
 .have u:p.1∈L.map (·.1):=by rw[<-c];exact bj.2 ⟨p,O,rfl⟩
  obtain⟨p',E,e⟩:=bj.1 u;rw[<-e];exact(h.sn q M).2 p' E
variable {ops:Array Oper} {rest:List Oper} {o:Oper} {a:Act} {K:Act->World->Prop} {Q:Exit->Act->World->Prop}
theorem Z53 (g k j:Nat):(⟨g,k,none⟩:Addr).add j=⟨g,k+j,none⟩:=by unfold Addr.add;split<;>simp_all
theorem D1 {cs:List Value}(b:Pu P ty=some true)(c:(P.info? ty).map (·.size)=some cs.length)(p:∀j v,cs[j]?=some v->w.cell? ⟨g,k+j,none⟩=some v):(loadVar ty ⟨g,k,none⟩).run P w=.ok (.agg cs.toArray) w:=by have h:=run_loadCells_list (P:=P) (w:=w) ⟨g,k,none⟩ cs (λj v m=>by rw[Z53];exact p j v m);simp only[loadVar,Sem.run_bind,Gi b,Bt c,Result.andThen_ok,if_true,h,Sem.run_pure]
theorem Env.loadVar (m:Env w0 w L U)(hL:L[i]?=some (g,row,t))(c:Pu P ty=some true)(b:(P.info? ty).map (·.size)=some row.length):(loadVar ty ⟨g,0,none⟩).run P w=.ok (.agg row.toArray) w :=
 D1 c b λj v h=>by rw[cp,m.cell hL];exact h
end
section
variable {I I' I'':Imm} {V V' V'':Va} {g:G} {x:Value} {w w' w'':World} {own own' own'':Os} {k n:Nat} {r:R} {t:Ts}
def Imm.le (I I':Imm):Prop:=∀b o x,I b o=some x->I' b o=some x
theorem Imm.le.refl (I:Imm):I.le I:=λ_ _ _ h=>h
theorem Va.le.refl (V:Va):V.le V:=⟨au _,λ_ _=>⟨rfl,rfl⟩⟩
theorem Va.le.trans (h:V.le V')(c:V'.le V''):V.le V'' :=
 ⟨co h.1 c.1,λk b=>⟨(c.2 k (bc b h.1)).1.trans (h.2 k b).1,(c.2 k (bc b h.1)).2.trans (h.2 k b).2⟩⟩
theorem VRep.mono (h:VRep I g x)(p:I.le I'):VRep I' g x:=by
 induction h with
 | v x=>exact .v x
 | tt=>exact .tt
 | ff=>exact .ff
 | un=>exact .un
 | nl=>exact .nl
 | agg l cs hl _ ih=>exact .agg l cs hl ih
 | sl l A c sz u hc hA hz h _ ih =>
  refine .sl l A c sz u hc hA hz (λi r hr=>?_) ih;obtain⟨b,o,e,h⟩:=h i r hr;exact⟨b,o,e,λj m=>p _ _ _ (h j m)⟩
theorem PW.mono {P b:G->Value->Prop}{l:List G}{cs:List Value}(h:PW P l cs)(m:∀g x,P g x->b g x):PW b l cs:=⟨h.1,λj g u p c=>m _ _ (h.2 j g u p c)⟩
theorem PW.cons {P:G->Value->Prop}{l:List G}{cs:List Value}(h:P g x)(m:PW P l cs):PW P (g::l) (x::cs) :=
 ⟨by simp[m.1],λj p u c b=>by
  cases j with
  | zero=>simp at c b;subst c b;exact h
  | succ j=>simp at c b;exact m.2 j p u c b⟩
theorem PW.nil {P:G->Value->Prop}:PW P [] []:=⟨rfl,λj g u b=>by simp at b⟩
theorem PW.uncons {P:G->Value->Prop}{l:List G}{cs:List Value}(h:PW P (g::l) cs):∃x b,cs=x::b/\P g x/\PW P l b:=by
 cases cs with
 | nil=>exact du h.1 (by simp)
 | cons x cs=>exact⟨x,cs,rfl,h.2 0 g x rfl rfl,by have:=h.1;simpa using this,λj g u m c=>h.2 (j+1) g u (by simpa using m) (by simpa using c)⟩
theorem PW.of_nil {P:G->Value->Prop}{cs:List Value}(h:PW P [] cs):cs=[]:=ay h.1.symm
theorem PW.append {P:G->Value->Prop}{l m:List G}{cs ds:List Value}(h:PW P l cs)(j:PW P m ds):PW P (l++m) (cs++ds):=by
 induction l generalizing cs with
 | nil=>rw[h.of_nil];exact j
 | cons g l ih =>
  obtain⟨x,p,rfl,b,c⟩:=h.uncons;exact .cons b (ih c)
theorem PW.get {P:G->Value->Prop}{l:List G}{cs:List Value}(h:PW P l cs){j:Nat}(c:l[j]?=some g):∃u,cs[j]?=some u/\P g u:=by
 have m:=(aq.1 c).1;have b:j < cs.length:=by rw[<-h.1];exact m
 exact⟨cs[j],ap b,h.2 j g _ c (ap b)⟩
theorem CRep.of_v (h:VRep I g x):CRep I V g x:=by cases h<;>first | exact .v _ | exact .tt | exact .ff | exact .un | exact .nl | (exact .agg _ _ ‹_› ‹_›) | (exact .sl _ _ _ _ _ ‹_› ‹_› ‹_› ‹_› ‹_›)
theorem CRep.mono (h:CRep I V g x)(j:I.le I')(b:V.le V'):CRep I' V' g x:=by
 cases g with
 | ptr k off=>exact⟨bc h.1 b.1,by rw[(b.2 k h.1).1];exact h.2⟩
 | osl k=>exact⟨bc h.1 b.1,by rw[(b.2 k h.1).2];exact h.2⟩
 | osv k sz lo hi=>exact⟨bc h.1 b.1,by rw[(b.2 k h.1).2];exact h.2⟩
 | mp k=>exact⟨bc h.1 b.1,by rw[(b.2 k h.1).1];exact h.2⟩
 | clo f a c=>exact h
 | oag l=>exact h
 | tup l=>exact h
 | elp l o=>exact h
 | oel k i s o=>exact h
 | orv k i s o l c=>exact h
 | _=>exact VRep.mono h j
theorem CRep.to_v (h:CRep I V g x)(b:g.pure=true):VRep I g x:=by cases g<;>first | exact h | cases b
theorem OrB.of {k j sz b q:Nat}(h:OrB V k sz b q)(m:V'.b j=V.b k)(p:V'.s j=V.s k):OrB V' j sz b q:=by
 cases sz with
 | zero=>exact(show b=V'.b j/\q=0 from⟨by rw[m];exact h.1,h.2⟩)
 | succ sz =>
  obtain⟨n,c,e⟩:=h;exact⟨n,c,by rw[p];exact e⟩
theorem TRep1.mono (h:TRep1 I V g x)(p:I.le I')(m:V.le V'):TRep1 I' V' g x:=by
 cases g with
 | oag l =>
  obtain⟨cs,e,h⟩:=h;exact⟨cs,e,h.mono λ_ _ h=>h.mono p m⟩
 | elp row off =>
  obtain⟨b,o,e,h⟩:=h;refine⟨b,o,e,λj g B=>?_⟩;obtain⟨u,z,A⟩:=h j g B;exact⟨u,p _ _ _ z,A.mono p⟩
 | oel k i sz off =>
  obtain⟨s,b,q,n,c,e,h⟩:=h;exact⟨bc s m.1,b,q,n,c,by rw[(m.2 k s).2];exact e,h⟩
 | orv k i sz off len cap =>
  obtain⟨s,b,q,e,h⟩:=h;exact⟨bc s m.1,b,q,e.of (m.2 k s).1 (m.2 k s).2,h⟩
 | clo f a c =>
  obtain⟨D,C,cs,e,z,A⟩:=h;exact⟨D,C,cs,e,z.mono λ_ _ h=>h.mono p m,A.mono λ_ _ h=>h.mono p m⟩
 | mp k=>exact CRep.mono (g:=.mp k) h p m
 | v y=>exact CRep.mono (g:=.v y) h p m
 | tt=>exact CRep.mono (g:=.tt) h p m
 | ff=>exact CRep.mono (g:=.ff) h p m
 | un=>exact CRep.mono (g:=.un) h p m
 | nl=>exact CRep.mono (g:=.nl) h p m
 | agg l=>exact CRep.mono (g:=.agg l) h p m
 | tup l=>exact h.elim
 | ptr k o=>exact CRep.mono (g:=.ptr k o) h p m
 | sl l=>exact CRep.mono (g:=.sl l) h p m
 | osl k=>exact CRep.mono (g:=.osl k) h p m
 | osv k sz lo hi=>exact CRep.mono (g:=.osv k sz lo hi) h p m
theorem TRep.mono (h:TRep I V g x)(j:I.le I')(b:V.le V'):TRep I' V' g x:=by
 cases g with
 | tup l =>
  obtain⟨cs,e,h⟩:=h;exact⟨cs,e,h.mono λ_ _ h=>h.mono j b⟩
 | mp k=>exact TRep1.mono (g:=.mp k) h j b
 | clo f a c=>exact TRep1.mono (g:=.clo f a c) h j b
 | v y=>exact TRep1.mono (g:=.v y) h j b
 | tt=>exact TRep1.mono (g:=.tt) h j b
 | ff=>exact TRep1.mono (g:=.ff) h j b
 | un=>exact TRep1.mono (g:=.un) h j b
 | nl=>exact TRep1.mono (g:=.nl) h j b
 | agg l=>exact TRep1.mono (g:=.agg l) h j b
 | oag l=>exact TRep1.mono (g:=.oag l) h j b
 | ptr k o=>exact TRep1.mono (g:=.ptr k o) h j b
 | sl l=>exact TRep1.mono (g:=.sl l) h j b
 | osl k=>exact TRep1.mono (g:=.osl k) h j b
 | osv k sz lo hi=>exact TRep1.mono (g:=.osv k sz lo hi) h j b
 | elp l o=>exact TRep1.mono (g:=.elp l o) h j b
 | oel k i s o=>exact TRep1.mono (g:=.oel k i s o) h j b
 | orv k i s o l c=>exact TRep1.mono (g:=.orv k i s o l c) h j b
theorem TRep1.of_c (h:CRep I V g x):TRep1 I V g x:=by cases g<;>first | exact h | exact h.elim
theorem TRep.of_1 (h:TRep1 I V g x):TRep I V g x:=by cases g<;>first | exact h | exact False.elim h
theorem TRep.of_c (h:CRep I V g x):TRep I V g x:=.of_1 (.of_c h)
theorem TRep.of_v (h:VRep I g x):TRep I V g x:=.of_c (.of_v h)
theorem Af {α:Type}(i j:Nat)(g:α)(l:List (Nat × α)):look i ((j,g)::l)=if i=j then some g else look i l:=by
 show(bif Nat.beq i j then some g else look i l)=_;by_cases h:i=j
 .subst h;simp[Nat.beq_refl]
 .have b:Nat.beq i j=false:=by
   cases hb:Nat.beq i j with
   | false=>rfl
   | true=>exact du (aw hb) h
  rw[dq h,b];rfl
theorem Ea {α:Type}(l:List α)(n:Nat):nth l n=l[n]?:=by
 induction l generalizing n with
 | nil=>simp[nth]
 | cons a l ih=>cases n<;>simp[nth,ih]
structure Later (own:Os)(I:Imm)(V:Va)(w:World)(own':Os)(I':Imm)(V':Va)(w':World):Prop where
 has:Has I' V' own' w'
 fro:Fro own I V w own' I' V' w'
 va:V.le V'
theorem Fro.refl (own:Os)(I:Imm)(V:Va)(w:World):Fro own I V w own I V w :=
 ⟨rfl,rfl,rfl,au _,λ_ _ _=>⟨rfl,λ_=>rfl⟩,λ_ _ _ h=>h,λk r _ c b _=>⟨k,r,c,b⟩⟩
theorem Fro.trans (h:Fro own I V w own' I' V' w')(m:Fro own' I' V' w' own'' I'' V'' w''):Fro own I V w own'' I'' V'' w'':=by
 refine⟨m.os.trans h.os,m.tape.trans h.tape,m.output.trans h.output,co h.size m.size,λb p A=>?_,λb o x C=>m.mono _ _ _ (h.mono _ _ _ C),λk r b q u p=>?_⟩
 .have z:=h.blk b p A;have B:=m.blk b (bc p h.size) λk r q u=>by
   obtain⟨j,r',s,c⟩:=h.foot k r b q u p;exact A j r' s c
  exact⟨B.1.trans z.1,λo=>(B.2 o).trans (z.2 o)⟩
 .obtain⟨j,r',s,c⟩:=m.foot k r b q u (bc p h.size);exact h.foot j r' b s c p
theorem Later.trans (h:Later own I V w own' I' V' w')(b:Later own' I' V' w' own'' I'' V'' w''):Later own I V w own'' I'' V'' w'' :=
 ⟨b.has,h.fro.trans b.fro,h.va.trans b.va⟩
structure Since (own:Os)(I:Imm)(V:Va)(w:World)(own':Os)(I':Imm)(V':Va)(w':World):Prop where
 has:Has I' V' own' w'
 fro:Fro own I V w own' I' V' w'
 n:V.n<=V'.n
 bb:∀k,k < V.n->V'.b k=V.b k
 ss:∀k,k < V.n->V'.s k=V.s k
structure SinceC (own:Os)(I:Imm)(V:Va)(w:World)(own':Os)(I':Imm)(V':Va)(w':World):Prop where
 has:Has I' V' own' w'
 fro:Fro own I V w own' I' V' w'
 n:V.n<=V'.n
 bb:∀k,k < V.n->V'.b k=V.b k
theorem SinceC.trans (h:SinceC own I V w own' I' V' w')(b:Later own' I' V' w' own'' I'' V'' w''):SinceC own I V w own'' I'' V'' w'':=⟨b.has,h.fro.trans b.fro,co h.n b.va.1,λk c=>(b.va.2 k (bc c h.n)).1.trans (h.bb k c)⟩
theorem SinceC.tail (h:SinceC own I V w own' I' V' w')(b:Since own' I' V' w' own'' I'' V'' w''):SinceC own I V w own'' I'' V'' w'':=⟨b.has,h.fro.trans b.fro,co h.n b.n,λk c=>(b.bb k (bc c h.n)).trans (h.bb k c)⟩
theorem Since.trans (h:Since own I V w own' I' V' w')(b:Later own' I' V' w' own'' I'' V'' w''):Since own I V w own'' I'' V'' w'':=⟨b.has,h.fro.trans b.fro,co h.n b.va.1,λk c=>(b.va.2 k (bc c h.n)).1.trans (h.bb k c),λk c=>(b.va.2 k (bc c h.n)).2.trans (h.ss k c)⟩
theorem Since.tail (h:Since own I V w own' I' V' w')(b:Since own' I' V' w' own'' I'' V'' w''):Since own I V w own'' I'' V'' w'':=⟨b.has,h.fro.trans b.fro,co h.n b.n,λk c=>(b.bb k (bc c h.n)).trans (h.bb k c),λk c=>(b.ss k (bc c h.n)).trans (h.ss k c)⟩
theorem Later.since (h:Later own I V w own' I' V' w'):Since own I V w own' I' V' w':=⟨h.has,h.fro,h.va.1,λk b=>(h.va.2 k b).1,λk b=>(h.va.2 k b).2⟩
theorem Since.later (h:Since own I V w own' I' V' w'):Later own I V w own' I' V' w':=⟨h.has,h.fro,h.n,λk b=>⟨h.bb k b,h.ss k b⟩⟩
theorem Later.refl (h:Has I V own w):Later own I V w own I V w:=⟨h,.refl _ _ _ _,.refl _⟩
theorem Al.mono {κ:Type}:∀{l:List (κ × G)} {L:List (κ × Value)},Al I l L->I.le I'->Al I' l L
 | [],[],_,_=>trivial
 | _::_,_::_,h,hI=>⟨h.1,h.2.1.mono hI,Al.mono h.2.2 hI⟩
theorem MapR.keep {κ:Type}{m:Nat}{b:κ->Value}{l:List (κ × G)}(h:MapR I w m b l)(q:I.le I')(c:w'.heap[m]?=w.heap[m]?):MapR I' w' m b l:=by obtain⟨L,j,p⟩:=h;exact⟨L,j.of_block c,p.mono q⟩
theorem RRep.keep (h:RRep I V k w r)(B:I.le I')(E:V.le V')(X:k < V.n)(A:V'.f k=V.f k)(T:w'.os=w.os)(hs:w.heap.size<=w'.heap.size)(C:∀b,V.f k b->w'.heap[b]?=w.heap[b]?):RRep I' V' k w' r:=by
 have z:=(E.2 k X).1;have M:=(E.2 k X).2;cases r with
 | blk cs t =>
  obtain⟨a,us,b,c⟩:=h;refine⟨λb=>by rw[A,z];exact a b,us,by rw[z,C _ ((a _).2 rfl)];exact b,c.mono λ_ _ h=>h.mono B E⟩
 | slc rows e sz =>
  obtain⟨a,rs,b,c,d,O,H,Z⟩:=h;refine⟨λb=>by rw[A,M];exact a b,rs,?_,c,λi r u hr Y=>(d i r u hr Y).mono λ_ _ h=>h.mono B,O,H,Z⟩;rw[M];refine⟨b.1,?_⟩;rcases b.2 with b | ⟨g,cap,cur,hv,hg,hh,rest⟩
  .exact .inl b
  .exact .inr ⟨g,cap,cur,hv,hg,by rw[C g ((a g).2 (by rw[hv];rfl))];exact hh,rest⟩
 | vw rows e sz =>
  obtain⟨a,rs,b,c,d,O,H,Z⟩:=h;refine⟨λb=>by rw[A,M];exact a b,rs,?_,c,λi r u hr Y=>(d i r u hr Y).mono λ_ _ h=>h.mono B,O,H,Z⟩;rw[M];refine⟨b.1,?_⟩;rcases b.2 with b | ⟨g,q,cap,cur,hv,hh,rest⟩
  .exact .inl b
  .exact .inr ⟨g,q,cap,cur,hv,by rw[C g ((a g).2 (by rw[hv];rfl))];exact hh,rest⟩
 | froz rows sz=>exact⟨λb=>by rw[A];exact h.1 b,by rw[M];exact h.2.1.mono B,h.2.2⟩
 | gone=>exact λb=>by rw[A];exact h b
 | mpI l=>exact⟨λb=>by rw[A,z];exact h.1 b,by rw[z];exact h.2.keep B (C _ ((h.1 _).2 rfl))⟩
 | mpS l=>exact⟨λb=>by rw[A,z];exact h.1 b,by rw[z];exact h.2.keep B (C _ ((h.1 _).2 rfl))⟩
 | sit s pos=>exact⟨λb=>by rw[A,z];exact h.1 b,by rw[z,C _ ((h.1 _).2 rfl)];exact h.2⟩
 | mpX l m ob =>
  obtain⟨a,q,b,c⟩:=h;have e:=C m ((a m).2 q.symm);exact⟨λb=>by rw[A,z];exact a b,z.trans q,e.trans b,c.keep B e⟩
 | mit j l D last m ob =>
  obtain⟨a,it,L,b,c,d⟩:=h;refine⟨λb=>by rw[A,z];exact a b,it,L,by rw[z,C _ ((a _).2 rfl)];exact b,c.mono B,λw2 O H=>?_⟩;rw[z] at H⊢;obtain⟨W,q2⟩:=d w2 O H;exact⟨W,λkg X=>(q2 kg X).imp λv h=>⟨h.1.mono B,h.2⟩⟩
 | abs p=>exact⟨h.1,by rw[A,z];exact h.1 _ _ _ _ _ _ h.2 B T hs C⟩
 | lnk j =>
  obtain⟨a,J,m,e⟩:=h;exact⟨λb=>by rw[A];exact a b,bc J E.1,m,by rw[(E.2 j J).2,z];exact e⟩
 | adr j b =>
  obtain⟨a,J,e⟩:=h;exact⟨λb=>by rw[A];exact a b,bc J E.1,by rw[(E.2 j J).1];exact e⟩
 | fam ps =>
  obtain⟨a,F,W,q2,q3⟩:=h;refine⟨a,F,λc=>by rw[A];exact W c,q2,λi p hp=>?_⟩;obtain⟨b,hb2⟩:=q3 i p hp;exact⟨b,a p (ar hp) _ _ _ _ _ _ hb2 B T hs λc hc=>C c ((W c).2 ⟨i,(aq.1 hp).1,hc⟩)⟩
theorem Mem.keep (h:Mem I w)(j:∀b o x,I b o=some x->w'.heap[b]?=w.heap[b]?):Mem I w':=λb o x c=>by rw[ac (w:=w) (a:=⟨b,o,none⟩) (j b o x c)];exact h b o x c
theorem Mem.lt (h:Mem I w){b o:Nat}{x:Value}(c:I b o=some x):b < w.heap.size:=World.block_lt_of_cell? w ⟨b,o,none⟩ (h b o x c)
theorem Has.heap (h:Has I V own w)(j:w'.heap=w.heap)(m:w'.os=w.os):Has I V own w' :=
 ⟨h.mem.keep λb _ _ _=>by rw[j],h.num,λk r c=>(h.each k r c).keep (.refl _) (.refl _) (h.num k r c) rfl m (by rw[j];exact au _) λb _=>by rw[j],λk r b c p=>by rw[j];exact h.foot k r b c p,h.disj⟩
def Va.push (V:Va)(b:Nat)(s:Value)(f:Nat->Prop):Va:=⟨V.n+1,λk=>if k=V.n then b else V.b k,λk=>if k=V.n then s else V.s k,λk=>if k=V.n then f else V.f k⟩
theorem Va.push_le (V:Va)(b:Nat)(s:Value)(f:Nat->Prop):V.le (V.push b s f):=⟨Nat.le_succ _,λk c=>by simp[Va.push,Nat.ne_of_lt c]⟩
theorem Dl (h:Has I V own w)(z:Below w.heap.size w w')(b:Nat)(s:Value)(f:Nat->Prop)(D:∀k,f k->w.heap.size<=k/\k < w'.heap.size)(hr:RRep I (V.push b s f) V.n w' r) :
  Later own I V w ((V.n,r)::own) I (V.push b s f) w':=by
 have p:∀k,k < V.n->(V.push b s f).f k=V.f k:=λk c=>by simp[Va.push,Nat.ne_of_lt c]
 have A:(V.push b s f).f V.n=f:=by simp[Va.push]
 refine⟨⟨h.mem.keep λb o x M=>z.block b (h.mem.lt M),λk r' c=>?_,λk r' c=>?_,λk r' m c j=>?_,λk C H F m c u j q=>?_⟩,⟨z.os,z.tape,z.output,z.size,λb j _=>⟨z.block b j,λ_=>rfl⟩,λ_ _ _ h=>h,λk r' m c j J=>?_⟩,V.push_le b s f⟩
 .rw[Af] at c;split at c
  .next e=>subst e;exact dc _
  .exact Nat.lt_succ_of_lt (h.num k r' c)
 .rw[Af] at c;split at c
  .next e=>subst e;cases c;exact hr
  .have B:=h.num k r' c;exact(h.each k r' c).keep (.refl _) (V.push_le b s f) B (p k B) z.os z.size λm j=>z.block m (h.foot k r' m c j).1
 .rw[Af] at c;split at c
  .next e =>
   subst e;rw[A] at j;refine⟨(D m j).2,λo=>?_⟩;cases hI:I m o with
   | none=>rfl
   | some x=>exact du (h.mem.lt hI) (by have:=(D m j).1;omega)
  .have B:=h.num k r' c;rw[p k B] at j;exact⟨bc (h.foot k r' m c j).1 z.size,(h.foot k r' m c j).2⟩
 .rw[Af] at c u;split at c<;>split at u
  .next e E=>rw[e,E]
  .next e E =>
   have B:=h.num C F u;rw[p C B] at q;rw[e,A] at j;exact du (h.foot C F m u q).1 (by have:=(D m j).1;omega)
  .next e E =>
   have B:=h.num k H c;rw[p k B] at j;rw[E,A] at q;exact du (h.foot k H m c j).1 (by have:=(D m q).1;omega)
  .rw[p k (h.num k H c)] at j;rw[p C (h.num C F u)] at q;exact h.disj k C H F m c u j q
 .rw[Af] at c;split at c
  .next e=>rw[e,A] at j;exact du J (by have:=(D m j).1;omega)
  .rw[p k (h.num k r' c)] at j;exact⟨k,r',c,j⟩
theorem Dm (h:Has I V own w){u:R}(z:look k own=some u)(C:w'.os=w.os)(F:w'.tape=w.tape)(H:w'.output=w.output)(J:w'.heap.size=w.heap.size)(A:∀b,¬V.f k b->w'.heap[b]?=w.heap[b]?)(hr:RRep I V k w' r) :
  Later own I V w ((k,r)::own) I V w':=by
 have B:∀j r',look j own=some r'->j≠k->∀b,V.f j b->¬V.f k b:=λj r' c B b m p=>B (h.disj j k r' u b c z m p);refine⟨⟨h.mem.keep λb o x X=>A b λM=>?_,λj r' c=>?_,λj r' c=>?_,λj r' q c m=>?_,λj E T O q c s m p=>?_⟩,⟨C,F,H,by omega,λb W Y=>⟨A b (Y k u z),λ_=>rfl⟩,λ_ _ _ h=>h,λj r' q c m _=>?_⟩,.refl _⟩
 .have:=(h.foot k u b z M).2 o;rw[X] at this;cases this
 .rw[Af] at c;split at c
  .next e=>subst e;exact h.num j u z
  .exact h.num j r' c
 .rw[Af] at c;split at c
  .next e=>subst e;cases c;exact hr
  .next e=>exact(h.each j r' c).keep (.refl _) (.refl _) (h.num j r' c) rfl C (by omega) λq M=>A q (B j r' c e q M)
 .rw[J];rw[Af] at c;split at c
  .next e=>subst e;exact h.foot j u q z m
  .exact h.foot j r' q c m
 .rw[Af] at c s;split at c<;>split at s
  .next e D=>rw[e,D]
  .next e D=>subst e;exact h.disj j E u O q z s m p
  .next e D=>subst D;exact h.disj j E T u q c z m p
  .exact h.disj j E T O q c s m p
 .rw[Af] at c;split at c
  .next e=>exact⟨k,u,z,e ▸ m⟩
  .exact⟨j,r',c,m⟩
def Va.drop (V:Va)(k:Nat):Va:={V with f:=λj=>if j=k then λ_=>False else V.f j}
theorem Hk (h:Has I V own w){E:R}(F:look k own=some E)(J:I.le I')(O:Mem I' w)(C:∀b o,¬V.f k b->I' b o=I b o)(hr:RRep I' (V.drop k) k w r) :
  Later own I V w ((k,r)::own) I' (V.drop k) w:=by
 have D:∀j,j≠k->(V.drop k).f j=V.f j:=λj c=>by simp[Va.drop,c]
 have s:∀b,¬(V.drop k).f k b:=λb=>by simp[Va.drop]
 have B:V.le (V.drop k):=⟨au _,λ_ _=>⟨rfl,rfl⟩⟩;have z:∀j r',look j own=some r'->j≠k->∀b,V.f j b->¬V.f k b:=λj r' c z b m p=>z (h.disj j k r' E b c F m p);refine⟨⟨O,λj r' c=>?_,λj r' c=>?_,λj r' q c m=>?_,λj H X T q c u m p=>?_⟩,⟨rfl,rfl,rfl,au _,λb M W=>⟨rfl,λo=>C b o (W k E F)⟩,J,λj r' q c m _=>?_⟩,B⟩
 .rw[Af] at c;split at c
  .next e=>subst e;exact h.num j E F
  .exact h.num j r' c
 .rw[Af] at c;split at c
  .next e=>subst e;cases c;exact hr
  .next e=>exact(h.each j r' c).keep J B (h.num j r' c) (D j e) rfl (au _) λq _=>rfl
 .rw[Af] at c;split at c
  .next e=>subst e;exact du m (s q)
  .next e =>
   rw[D j e] at m;exact⟨(h.foot j r' q c m).1,λo=>(C q o (z j r' c e q m)).trans ((h.foot j r' q c m).2 o)⟩
 .rw[Af] at c u;split at c<;>split at u
  .next e A=>rw[e,A]
  .next e A=>rw[e] at m;exact du m (s q)
  .next e A=>rw[A] at p;exact du p (s q)
  .next e A=>rw[D j e] at m;rw[D H A] at p;exact h.disj j H X T q c u m p
 .rw[Af] at c;split at c
  .next e=>rw[e] at m;exact du m (s q)
  .next e=>rw[D j e] at m;exact⟨j,r',c,m⟩
end
section
variable {α:Type} {w0 w w':World} {L:List (Nat × List Value × TypeId)} {U:List (World × List Nat)} {g k i:Nat} {row:List Value}
variable {o:Oper} {a:Act} {K:Act->World->Prop} {Q:Exit->Act->World->Prop}
variable {base sz bytes:Nat} {t e te:TypeId} {f:α->List Value} {v:Value} {l:List α}
theorem Own.frm {S:List Nat}(h:Own w base e sz f v l)(j:Frm S w w')(m:∀k∈S,k < base):Own w' base e sz f v l:=by
 refine⟨h.1,?_⟩;rcases h.2 with p | ⟨b,cap,cur,rfl,hb,hg,h3⟩
 .exact .inl p
 .exact .inr ⟨b,cap,cur,rfl,hb,(j.block b (bz.1 hg).1 (λc=>by have:=m b c;omega)).trans hg,h3⟩
end
section
variable {P:Program} {w:World}
theorem Z2l (t ty e:TypeId)(i:TypeInfo)(z:Value)(size bytes:Nat)(W:P.underlying t=some (.slice e))(X:P.info? e=some i)(Z:i.zero=some z)
  (B:i.size=size) (F:i.bytes=bytes) (M:z.cells.size=size) (O:0 < size) (v:Value) (n:Nat) (xs:List Value) (p:w.ownsRow 0 e size v n xs)
  (A:Option Addr) (m c:Nat) (b:List Value) (J:b.length=m * size) (hA:A=none->m=0/\c=0) (h:∀a,A=some a->∀j u,b[j]?=some u->w.cell? (a.add j)=some u) (Y:∀u∈b,u.oneCell'=true)
  (D:n+m<=maxLen) (q:(n+m) * bytes<=140737488355328) :
  ∃H w',(Builtin.append_ #[t,t] ty #[v,.slice A m c]).run P w=.ok H w'/\w'.ownsRow 0 e size H (n+m) (xs++b)/\w.grownBy w' v.ownBlock/\(H.ownBlock=v.ownBlock\/∃g,H.ownBlock=some g/\w.heap.size<=g/\g < w'.heap.size):=by
 cases A with
 | none =>
  obtain⟨rfl,rfl⟩:=hA rfl;have hn:b=[]:=ay (by simpa using J);subst hn;exact⟨v,w,run_append_owned_none w 0 t ty e i size W X v n xs p,by simpa using p,World.grownBy.refl _ _,.inl rfl⟩
 | some a =>
  have h:=h a rfl;obtain⟨H,w',hr,h2,h3,-⟩:=run_append_own (P:=P) w 0 t ty e i z size bytes W X Z B F M O v n xs p a m c b J h Y D q (av _);refine⟨H,w',hr,h2,h3,?_⟩;rcases p.2 with⟨rfl,rfl⟩ | ⟨g,cap,cur,rfl,-,hg,hnc,hcm,hcs,htake⟩
  .have E:w.ownsRow w.heap.size e size (.slice none 0 0) 0 xs:=⟨p.1,.inl ⟨rfl,rfl⟩⟩;obtain⟨v2,w2,s,k2,-,-⟩:=run_append_own (P:=P) w w.heap.size t ty e i z size bytes W X Z B F M O _ 0 xs E a m c b J h Y D q (au _);rw[hr] at s;injection s with e1 e2;subst e1 e2;cases hv:H.ownBlock with
   | none=>exact .inl rfl
   | some g'=>exact .inr ⟨g',rfl,k2.lt g' hv⟩
  .subst B;by_cases C:n+m<=cap
   .have T:n * i.size+b.length<=cur.size:=by rw[J,hcs,<-Nat.add_mul];exact Nat.mul_le_mul_right _ C
    have s:=run_append_room (P:=P) w t ty e i W X g n cap cur hg a m c b J h Y C T;rw[hr] at s;injection s with e1 e2;subst e1;exact .inl rfl
   .have s:=run_append_grow (P:=P) w t ty e i z W X Z ⟨g,0,none⟩ n cap xs p.1 (p.cells (g:=g) rfl) a m c b J h (by omega) (by unfold maxLen at D;omega) (growslice_fits (by omega) (by rw[F];exact q));rw[hr] at s;injection s with e1 e2;subst e1 e2;exact .inr ⟨_,rfl,au _,by simp⟩
theorem Tt (t H ty e:TypeId)(i:TypeInfo)(z:Value)(X:P.underlying t=some (.slice e))(C:P.underlying H=some .string)(Z:P.info? e=some i)(hz:i.zero=some z)
  (b:i.size=1) (T:z.cells.size=1) (v:Value) (n:Nat) (xs:List Value) (j:w.ownsRow 0 e 1 v n xs) (s:ByteArray) (D:n+s.size<=maxLen) (q:(n+s.size) * i.bytes<=140737488355328) :
  ∃A w',(Builtin.append_ #[t,H] ty #[v,.string s]).run P w=.ok A w'/\w'.ownsRow 0 e 1 A (n+s.size) (xs++byteCells s)/\w.grownBy w' v.ownBlock/\(A.ownBlock=v.ownBlock\/∃g,A.ownBlock=some g/\w.heap.size<=g/\g < w'.heap.size):=by
 have h:Src P i.size H (.string s) s.size (byteCells s) w:=by rw[b];exact Src.ofString w C s
 have c:(xs++byteCells s).length=(n+s.size) * 1:=by rw[bf,j.1,byteCells_length];omega
 have grown:∀(base:Option Addr) (cap:Nat) (u:List Value),u=xs->cap < n+s.size->(Builtin.firstCells i.size n (.slice base n cap)).run P w.drew=.ok u.toArray w.drew->v=.slice base n cap->∃A w',(Builtin.append_ #[t,H] ty #[v,.string s]).run P w=.ok A w'/\w'.ownsRow 0 e 1 A (n+s.size) (xs++byteCells s)/\w.grownBy w' v.ownBlock/\(A.ownBlock=v.ownBlock\/∃g,A.ownBlock=some g/\w.heap.size<=g/\g < w'.heap.size):=λbase cap u Y M E hv=>by
  subst Y hv;have hr:=run_append_grow_src (P:=P) w t H ty e i z X Z hz base n cap u E (.string s) s.size (byteCells s) h M (by unfold maxLen at D;omega) (growslice_fits (by omega) q);have J:=grownCap_ge w (n+s.size) cap e;have p:=grownCap_le_maxLen w (n+s.size) cap e D;generalize grownCap w (n+s.size) cap e=G at hr J p;refine⟨_,_,hr,⟨c,.inr ⟨w.heap.size,G,_,rfl,av _,heap_alloc_new w.drew _,J,p,?_,?_⟩⟩,⟨rfl,rfl,rfl,by simp,λk W _=>(World.grownBy_alloc w.drew _ none).block k W (by simp)⟩,.inr ⟨_,rfl,au _,by simp⟩⟩
  .rw[Array.size_append,List.size_toArray,c,size_zeroCells,T];omega
  .rw[Array.toList_append];exact List.take_left' c
 rcases j.2 with⟨rfl,rfl⟩ | ⟨g,cap,cur,rfl,-,M,hnc,p,hcs,htake⟩
 .have hx:xs=[]:=ay (by simpa using j.1);subst hx;by_cases O:s.size=0
  .have hb:byteCells s=[]:=ay (by rw[byteCells_length];exact O);refine⟨.slice none 0 0,w,?_,by rw[hb,O];exact World.ownsRow_nil w 0 e 1,World.grownBy.refl _ _,.inl rfl⟩;have F:=h.cells;rw[O] at F;simp[Builtin.append_,run_underlying X,run_underlying C,sizeOf,typeInfo,Z,Builtin.lenOf,O,F]
  .exact grown none 0 [] rfl (by omega) (by simpa using run_firstCells_none (P:=P) w.drew i.size 0 0 0) rfl
 .by_cases m:n+s.size<=cap
  .have B:=run_storeCells_at P g (n * 1) e (byteCells s) 0 cur w M (by rw[byteCells_length,hcs];omega) h.one;have F:=h.cells;rw[b] at F;refine⟨.slice (some ⟨g,0,none⟩) (n+s.size) cap,w.setRow g (cur.toList.take (n * 1)++byteCells s++cur.toList.drop (n * 1+(byteCells s).length)).toArray,?_,⟨c,.inr ⟨g,cap,_,rfl,av _,setRow_heap w g cur _ e (0,0) M,m,p,?_,?_⟩⟩,⟨rfl,rfl,rfl,by simp,λk _ W=>setRow_other w g k _ (λe=>W (by simp[Value.ownBlock,e]))⟩,.inl rfl⟩
   .simp only[Nat.add_zero] at B;simp[Builtin.append_,run_underlying X,run_underlying C,sizeOf,typeInfo,Z,b,h.len,m,F,Addr.add_lit];simp at B;rw[B];rfl
   .simp only[List.size_toArray,List.length_append,List.length_take,List.length_drop,Array.length_toList,byteCells_length,hcs];omega
   .rw[show n * 1=n * 1 from rfl,htake,<-c];exact List.take_left
  .exact grown (some ⟨g,0,none⟩) cap xs rfl (by omega) (by rw[b];exact run_firstCells_some (P:=P) w.drew 1 n ⟨g,0,none⟩ n cap xs j.1 (j.cells (g:=g) rfl)) rfl
end
section
variable {I I':Imm} {V V':Va} {g:G} {x:Value} {w w':World} {own:Os} {k n sz:Nat} {r:R} {t:Ts} {l:List (List G)}
theorem Lt (h:VRep I g x)(b:g.one=true):x.oneCell'=true:=by cases h<;>first | exact b | rfl | cases b
theorem Bq {rs:List (List Value)}(h:∀u∈rs,u.length=sz):rs.flatten.length=rs.length * sz:=by
 induction rs with
 | nil=>simp
 | cons u rs ih=>rw[cm,bf,h u (by simp),ih λv b=>h v (by simp[b]),bm,Nat.add_mul];omega
theorem Cm:∀{rs:List (List Value)} (_:∀u∈rs,u.length=sz) {i:Nat} {u:List Value} (_:rs[i]?=some u) {j:Nat} {x:Value} (_:u[j]?=some x),rs.flatten[i * sz+j]?=some x
 | [],_,i,_,b,_,_,_=>by simp at b
 | v::rs,h,0,u,b,j,x,hx=>by simp at b;subst b;rw[cm,Nat.zero_mul,cp,bu (aq.1 hx).1];exact hx
 | v::rs,h,i+1,u,b,j,x,hx=>by have c:=h v (by simp);rw[cm,bo (by rw[c,Nat.add_mul];omega),c,show(i+1) * sz+j - sz=i * sz+j by rw[Nat.add_mul];omega];exact Cm (λu b=>h u (by simp[b])) (by simpa using b) hx
theorem Qd {rs:List (List Value)}(h:∀u∈rs,u.length=sz){m:Nat}{x:Value}(z:rs.flatten[m]?=some x):∃i j u,m=i * sz+j/\j < sz/\rs[i]?=some u/\u[j]?=some x:=by
 have b:=(aq.1 z).1;rw[Bq h] at b;have B:0 < sz:=by
  rcases ak sz with p | p
  .subst p;simp at b
  .exact p
 have q:m / sz < rs.length:=Nat.div_lt_of_lt_mul (by rw[Nat.mul_comm];exact b);have c:=Nat.mod_lt m B;have A:rs[m / sz].length=sz:=h _ (bw q);refine⟨m / sz,m % sz,rs[m / sz],(Nat.div_add_mod' m sz).symm,c,ap q,?_⟩;have s:=Cm h (ap q) (ap (by rw[A];exact c:m % sz < rs[m / sz].length));rw[Nat.div_add_mod' m sz,z] at s;rw[ap (by rw[A];exact c)];exact s.symm
theorem Z04 (h:VRep I (.sl l) x)(H:Mem I w)(B:∀r∈l,r.length=sz):∃A c,∃rs:List (List Value),x=.slice A l.length c/\l.length<=c/\(A=none->l=[]/\c=0)/\rs.length=l.length/\(∀(i:Nat) r u,l[i]?=some r->rs[i]?=some u->PW (VRep I) r u)/\(∀u∈rs,u.length=sz)/\∀a,A=some a->∀m x,rs.flatten[m]?=some x->I a.block (a.off+m)=some x/\w.cell? (a.add m)=some x:=by
 cases h with
 | sl l A c sz0 u hc hA hz0 h hu =>
  refine⟨A,c,(List.range l.length).map λi=>(List.range sz).map (u i),rfl,hc,λe=>⟨?_,hA e⟩,by simp,λi r v hr p=>?_,λv p=>?_,λa ha m x O=>?_⟩
  .cases l with
   | nil=>rfl
   | cons r l=>obtain⟨b,o,E,-⟩:=h 0 r rfl;rw[e] at E;cases E
  .have s:=(aq.1 hr).1;rw[ax,da s] at p;simp at p;subst p;refine⟨by rw[B r (ar hr)];simp,λj g y F C=>?_⟩;have z:=(aq.1 F).1;rw[B r (ar hr)] at z;rw[ax,da z] at C;simp at C;subst C;exact hu i r j g hr F
  .obtain⟨i,-,rfl⟩:=bj.1 p;simp
  .obtain⟨i,j,v,rfl,z,p,q⟩:=Qd (sz:=sz) (λv p=>by obtain⟨i,-,rfl⟩:=bj.1 p;simp) O;have s:i < l.length:=by have:=(aq.1 p).1;simpa using this
   rw[ax,da s] at p;simp at p;subst p;rw[ax,da z] at q;simp at q;subst q;obtain⟨b,o,e,J⟩:=h i l[i] (ap s);rw[ha] at e;obtain rfl:=cv e;have T:sz0=sz:=(hz0 _ (bw s)).symm.trans (B _ (bw s));subst T;have D:=J j z;refine⟨by rw[<-de];exact D,?_⟩;have M:=H b _ _ D;rw[<-M];unfold Addr.add;split
   .next W=>rw[show o+i * sz0+j=o by omega]
   .rw[de]
theorem X4 {b o c:Nat}{rs:List (List Value)}(B:rs.length=l.length)(O:l.length<=c)(F:∀(i:Nat) r u,l[i]?=some r->rs[i]?=some u->PW (VRep I) r u)(z:∀u∈rs,u.length=sz)(E:∀m x,rs.flatten[m]?=some x->I b (o+m)=some x):VRep I (.sl l) (.slice (some ⟨b,o,none⟩) l.length c):=by
 have hr:∀(i:Nat) r,l[i]?=some r->∃u,rs[i]?=some u/\PW (VRep I) r u/\u.length=sz:=λi r hr=>by
  have C:=(aq.1 hr).1;have p:i < rs.length:=by omega
  exact⟨rs[i],ap p,F i r _ hr (ap p),z _ (bw p)⟩
 refine .sl l _ c sz (λi j=>(rs.flatten[i * sz+j]?).getD undef) O (λe=>by cases e) (λr D=>?_) (λi r h=>⟨b,o,rfl,λj T=>?_⟩) (λi r j g h H=>?_)
 .obtain⟨i,C,e⟩:=cu.1 D;obtain⟨u,-,q,A⟩:=hr i r (by rw[ap C,e]);exact q.1.trans A
 .obtain⟨u,s,q,A⟩:=hr i r h;have:=Cm z s (ap (by omega:j < u.length));rw[de,this];exact E _ _ this
 .obtain⟨u,s,q,A⟩:=hr i r h;obtain⟨y,J,M⟩:=q.get H;rw[Cm z s J];exact M
end
def G.val:G->Value
 | .v x=>x
 | .ff=>.bool false
 | .nl=>.slice none 0 0
 | _=>undef
def zOK:G->Bool
 | .v x=>x.oneCell'
 | .ff | .nl=>true
 | _=>false
def Zh4 (P:Program)(t:TypeId):KD->Prop
 | .no=>True
 | .arr n e sz=>P.underlying t=some (.array n e)/\(P.info? e).map (·.size)=some sz
 | .fn=>True
 | .map s e=>∃b,P.underlying t=some (.map b e)/\P.underlying b=some (if s=true then .string else .int .i64)
 | .ptr=>∃e,P.underlying t=some (.pointer e)
 | .bool=>P.underlying t=some .bool
structure TIok (P:Program)(t:TypeId)(i:TI):Prop where
 agg:Pu P t=some i.agg
 size:(P.info? t).map (·.size)=some i.zero.length
 zero:((P.info? t).bind (·.zero)).map (λz=>z.cells.toList)=some (i.zero.map G.val)
 zok:Bp zOK i.zero=true
 elem:∀e sz,i.elem=some (e,sz)->P.underlying t=some (.slice e)/\∃j z,P.info? e=some j/\j.zero=some z/\j.size=sz/\z.cells.size=sz/\0 < sz/\j.bytes<=65536
 str:i.str=true->P.underlying t=some .string
 ik:∀k,i.ik=some k->P.underlying t=some (.int k)
 zag:∀z,(P.info? t).bind (·.zero)=some z->if i.agg=true then ∃cs,z=.agg cs else z.cells=#[z]
 kd:Zh4 P t i.kd
 flds:i.flds≠[]->∃F,P.underlying t=some (.struct F)/\F.toList.map (λf=>(f.type,f.offset))=i.flds/\∀f∈F.toList,∃m,(P.info? f.type).map (·.size)=some (m+1)
def vEq:Value->Value->Bool
 | .int k n,.int k' n'=>decide (k=k')&&decide (n=n')
 | .bool a,.bool b=>decide (a=b)
 | .string a,.string b=>decide (a.data.toList=b.data.toList)
 | .slice none 0 0,.slice none 0 0=>true
 | .pointer none,.pointer none=>true
 | .map none,.map none=>true
 | .nilFunc,.nilFunc=>true
 | .nilIface,.nilIface=>true
 | _,_=>false
theorem Zd1 {a b:Value}(h:vEq a b=true):a=b:=by
 unfold vEq at h;split at h
 .simp at h;rw[h.1,h.2]
 .simp at h;rw[h]
 .next a b =>
  have h:=of_decide_eq_true h;obtain⟨⟨a⟩⟩:=a;obtain⟨⟨b⟩⟩:=b;simp at h;rw[h]
 all_goals first | rfl | cases h
def Zee:List Value->List Value->Bool
 | [],[]=>true
 | a::l,b::m=>vEq a b&&Zee l m
 | _,_=>false
theorem Z6:∀{l m:List Value},Zee l m=true->l=m
 | [],[],_=>rfl
 | a::l,b::m,h=>by simp[Zee] at h;rw[Zd1 h.1,Z6 h.2]
def tiB (P:Program)(t:TypeId)(i:TI):Bool :=
 (Pu P t==some i.agg)&&((P.info? t).map (·.size)==some i.zero.length)&&(match(P.info? t).bind (·.zero) with | some z=>Zee z.cells.toList (i.zero.map G.val) | none=>false)&&Bp zOK i.zero &&
 (match i.elem with
  | none=>true
  | some (e,sz)=>(match P.underlying t with | some (.slice e')=>decide (e'=e) | _=>false)&&(match P.info? e with | some j=>(match j.zero with | some z=>decide (z.cells.size=sz) | none=>false)&&decide (j.size=sz)&&decide (0 < sz)&&decide (j.bytes<=65536) | none=>false)) &&
 (match i.str,P.underlying t with | false,_=>true | true,some .string=>true | _,_=>false) &&
 (match i.ik,P.underlying t with | none,_=>true | some k,some (.int k')=>decide (k'=k) | _,_=>false) &&
 (match(P.info? t).bind (·.zero) with | some (.agg _)=>i.agg | some _=>!i.agg | none=>false) &&
 (match i.kd,P.underlying t with
  | .no,_=>true
  | .fn,_=>true
  | .arr n e sz,some (.array n' e')=>decide (n'=n)&&decide (e'=e)&&((P.info? e).map (·.size)==some sz)
  | .map s e,some (.map kt e')=>decide (e'=e)&&(match s,P.underlying kt with | true,some .string=>true | false,some (.int .i64)=>true | _,_=>false)
  | .ptr,some (.pointer _)=>true
  | .bool,some .bool=>true
  | _,_=>false) &&
 (match i.flds with
  | []=>true
  | fl=>match P.underlying t with | some (.struct F)=>decide (F.toList.map (λf=>(f.type,f.offset))=fl)&&F.toList.all (λf=>match P.info? f.type with | some j=>decide (0 < j.size) | none=>false) | _=>false)
theorem Zc2 {P:Program}{t:TypeId}{i:TI}(h:tiB P t i=true):TIok P t i:=by
 unfold tiB at h;simp only[Bool.and_eq_true] at h;obtain⟨⟨⟨⟨⟨⟨⟨⟨⟨c,m⟩,Y⟩,h4⟩,A⟩,T⟩,q⟩,p⟩,b⟩,B⟩:=h;refine⟨by simpa using c,by simpa using m,?_,h4,λe sz H=>?_,λH=>?_,λk H=>?_,λz E=>?_,?_,λhn=>?_⟩
 .split at Y
  .next z E=>rw[E];simp[Z6 Y]
  .cases Y
 .rw[H] at A;simp only[Bool.and_eq_true] at A;obtain⟨A,u⟩:=A;split at A
  .next e' C =>
   have:=of_decide_eq_true A;subst this;refine⟨C,?_⟩;split at u
   .next j O =>
    simp only[Bool.and_eq_true] at u;obtain⟨⟨⟨u,M⟩,Z⟩,X⟩:=u;split at u
    .next z E=>exact⟨j,z,O,E,of_decide_eq_true M,of_decide_eq_true u,of_decide_eq_true Z,of_decide_eq_true X⟩
    .cases u
   .cases u
  .cases A
 .rw[H] at T;split at T
  .next h=>cases h
  .next C=>exact C
  .cases T
 .rw[H] at q;split at q
  .next h=>cases h
  .next k' D h C =>
   cases h;rw[C,of_decide_eq_true q]
  .cases q
 .rw[E] at p;split at p
  .next cs h=>cases h;rw[dt p];exact⟨cs,rfl⟩
  .next z' W h =>
   cases h;rw[dq (by simpa using p)];cases z<;>first | rfl | exact du rfl (W _)
  .next h=>cases h
 .split at b
  .next e=>rw[e];exact trivial
  .next e=>rw[e];exact trivial
  .next n e sz n' e' c m =>
   rw[c];simp only[Bool.and_eq_true] at b;obtain⟨⟨J,D⟩,k3⟩:=b;exact⟨by rw[m,of_decide_eq_true J,of_decide_eq_true D],by simpa using k3⟩
  .next s e kt e' c m =>
   rw[c];simp only[Bool.and_eq_true] at b;obtain⟨J,D⟩:=b;have J:=of_decide_eq_true J;subst J;refine⟨kt,m,?_⟩;split at D
   .next h=>rw[h];rfl
   .next h=>rw[h];rfl
   .cases D
  .next c m=>rw[c];exact⟨_,m⟩
  .next c m=>rw[c];exact m
  .cases b
 .split at B
  .next h0=>exact du h0 hn
  .split at B
   .next F hF =>
    simp only[Bool.and_eq_true,List.all_eq_true] at B;refine⟨F,hF,of_decide_eq_true B.1,λf hf=>?_⟩;have M:=B.2 f hf;split at M
    .next j O =>
     have Z:=of_decide_eq_true M;exact⟨j.size - 1,by rw[O];simp;omega⟩
    .cases M
   .cases B
def Zg0 (P:Program)(l:List (Nat × TI)):Bool:=l.all λp=>tiB P p.1 p.2
theorem Ox {α:Type}{k:Nat}{x:α}:∀{l:List (Nat × α)},look k l=some x->(k,x)∈l
 | [],h=>by cases h
 | (j,y)::l,h=>by
  rw[Af] at h;split at h
  .next e=>subst e;cases h;simp
  .simp[Ox h]
theorem Z0f {P:Program}{l:List (Nat × TI)}(h:Zg0 P l=true)(t:TypeId)(i:TI)(b:look t l=some i):TIok P t i:=by have c:tiB P t i=true:=List.all_eq_true.1 h (t,i) (Ox b);exact Zc2 c
structure ARep (N:Nat)(I:Imm)(V:Va)(a:Act)(t:Ts):Prop where
 defers:a.defers=[]
 size:a.tmps.size=N
 get:∀i g,look i t=some g->∃x,a.tmps[i]?=some x/\TRep I V g x
section
variable {P:Program} {tb:List (Nat × TI)} {N:Nat} {I I':Imm} {V V':Va} {a:Act} {t:Ts} {own own':Os} {w w':World} {x:Operand} {g:G} {y:Value} {d:Option Tmp}
theorem ARep.mono (h:ARep N I V a t)(m:I.le I')(b:V.le V'):ARep N I' V' a t :=
 ⟨h.defers,h.size,λi g p=>by obtain⟨x,c,j⟩:=h.get i g p;exact⟨x,c,j.mono m b⟩⟩
theorem ARep.sub {b:Ts}(h:ARep N I V a t)(c:∀i g,look i b=some g->look i t=some g):ARep N I V a b:=⟨h.defers,h.size,λi g e=>h.get i g (c i g e)⟩
theorem ARep.put (h:ARep N I V a t)(hd:∀i,d=some i->i < N)(p:TRep I V g y):ARep N I V (a.put d y) (put d g t):=by
 cases d with
 | none=>exact h
 | some d =>
  refine⟨h.defers,by simp[Act.put,h.size],λi j b=>?_⟩
  change look i ((d,g)::t)=some j at b
  rw[Af] at b;have c:d < a.tmps.size:=by rw[h.size];exact hd d rfl
  split at b
  .next e =>
   subst e;cases b;exact⟨y,by simp[Act.put,c],p⟩
  .next e =>
   obtain⟨z,m,q⟩:=h.get i j b;refine⟨z,?_,q⟩;show(a.tmps.setIfInBounds d y)[i]?=_;rw[Array.getElem?_setIfInBounds_ne (Ne.symm e)];exact m
theorem Zbi (x:Value):TRep I V (Gof x) x:=by
 apply TRep.of_v;unfold Gof;split
 .exact .tt
 .exact .ff
 .exact .nl
 .exact .v x
theorem B7 {K:G->Prop}(h:ev t own x K)(ha:ARep N I V a t)(hH:Has I V own w):∃g,K g/\TRep I V g (a.eval x):=by
 cases x with
 | tmp i =>
  unfold ev at h;dsimp only at h;cases hl:look i t with
  | none=>rw[hl] at h;exact h.elim
  | some g =>
   obtain⟨y,j,b⟩:=ha.get i g hl;have e:a.eval (.tmp i)=y:=by simp[Act.eval,j]
   rw[e];rw[hl] at h;cases g with
   | osl k =>
    dsimp only at h;split at h
    .next c hr =>
     refine⟨_,h,TRep.of_v ?_⟩;have m:=(hH.each k _ hr).2.1;rw[show y=V.s k from b.2];exact m
    .exact⟨_,h,b⟩
   | _=>exact⟨_,h,b⟩
 | const x=>exact⟨_,h,Zbi x⟩
 | func f=>exact⟨.v (.func (.func f) #[] #[]),h,TRep.of_v (.v _)⟩
 | global g=>exact False.elim h
theorem Nh:∀{l:List Operand} {K:List G->Prop},evs t own l K->ARep N I V a t->Has I V own w->∃gs,K gs/\PW (TRep I V) gs (l.map a.eval)
 | [],K,h,_,_=>⟨[],h,.nil⟩
 | x::l,K,h,ha,hH=>by obtain⟨g,b,c⟩:=B7 (K:=λg=>evs t own l λr=>K (g::r)) h ha hH;obtain⟨gs,j,m⟩:=Nh b ha hH;exact⟨_,j,.cons c m⟩
theorem So {Q:G->Value->Prop}:∀{l:List G} {cs:List Value} {k n:Nat} {K:List G->Prop},Zen l k n K->PW Q l cs->∃c,K c/\PW Q c ((cs.drop k).take n)/\k+n<=cs.length+(if n=0 then k else 0)
 | l,cs,k,0,K,h,_=>by cases l<;>exact⟨[],h,by simpa using PW.nil,by simp⟩
 | [],cs,k,n+1,K,h,_=>by cases k<;>exact h.elim
 | g::l,cs,0,n+1,K,h,hp=>by obtain⟨x,q,rfl,s,p⟩:=hp.uncons;obtain⟨c,j,m,b⟩:=So (K:=λr=>K (g::r)) h p;refine⟨_,j,by simpa using PW.cons s (by simpa using m),?_⟩;simp only[List.length_cons] at b⊢;split at b<;>simp<;>omega
 | g::l,cs,k+1,n+1,K,h,hp=>by obtain⟨x,q,rfl,s,p⟩:=hp.uncons;obtain⟨c,j,m,b⟩:=So (k:=k) (n:=n+1) h p;refine⟨_,j,by simpa using m,?_⟩;simp only[List.length_cons] at b⊢;simp at b⊢;omega
theorem PW.part {Q:G->Value->Prop}{l:List G}{cs:List Value}(h:PW Q l cs)(k n:Nat):PW Q ((l.drop k).take n) ((cs.drop k).take n):=by
 refine⟨by simp[h.1],λj g u b c=>?_⟩;rw[br] at b c;split at b
 .next m =>
  rw[dt m] at c;rw[cf] at b c;exact h.2 _ g u b c
 .cases b
theorem Lm {Q:G->Value->Prop}{l:List G}{cs:List Value}{k n:Nat}{K:List G->Prop}(h:seg l k n K)(b:PW Q l cs):∃c,K c/\PW Q c ((cs.drop k).take n)/\k+n<=cs.length+(if n=0 then k else 0):=by
 unfold seg at h;split at h
 .exact So h b
 .exact⟨_,h.next,b.part k n,by have:=h.fit;have:=b.1;omega⟩
theorem Q5 {Q:G->Value->Prop}{l:List G}{cs:List Value}{k n:Nat}{K:List G->Prop}(h:seg l k n K)(c:PW Q l cs)(j:0 < n):k+n<=cs.length:=by obtain⟨-,-,-,b⟩:=Lm h c;rw[dq (by omega)] at b;exact b
theorem Sq {Q:G->Value->Prop}:∀{l:List G} {cs:List Value} {k:Nat} {m:List G} {ds:List Value} {K:List G->Prop},Zeh l k m K->PW Q l cs->PW Q m ds->∃j,K j/\PW Q j (cs.take k++ds++cs.drop (k+ds.length))/\(ds≠[]->k+ds.length<=cs.length)
 | l,cs,k,[],ds,K,h,hp,hd=>by rw[hd.of_nil];refine⟨l,?_,by simpa using hp,by simp⟩;cases l<;>first | exact h | (cases k<;>exact h)
 | [],cs,k,c::m,ds,K,h,hp,hd=>by cases k<;>exact h.elim
 | g::l,cs,0,c::m,ds,K,h,hp,hd=>by
  obtain⟨x,s,rfl,B,u⟩:=hp.uncons;obtain⟨y,b,rfl,D,C⟩:=hd.uncons;obtain⟨j,p,q,A⟩:=Sq (K:=λr=>K (c::r)) h u C;refine⟨_,p,by simpa using PW.cons D (by simpa using q),λ_=>?_⟩;cases b with
  | nil=>simp
  | cons z b=>have:=A (by simp);simp at this⊢;omega
 | g::l,cs,k+1,c::m,ds,K,h,hp,hd=>by obtain⟨x,s,rfl,B,u⟩:=hp.uncons;obtain⟨j,p,q,A⟩:=Sq (k:=k) (K:=λr=>K (g::r)) h u hd;refine⟨_,p,?_,λE=>by have:=A E;simp;omega⟩;have:=PW.cons B q;simpa [Nat.add_right_comm] using this
theorem Rj {Q:G->Value->Prop}{n:Nat}{l:List G}{cs:List Value}{k:Nat}{m:List G}{ds:List Value}{K:List G->Prop}(h:ovr n l k m K)(b:PW Q l cs)(hd:PW Q m ds):∃j,K j/\PW Q j (cs.take k++ds++cs.drop (k+ds.length))/\(ds≠[]->k+ds.length<=cs.length):=by
 unfold ovr at h;split at h
 .exact Sq h b hd
 .obtain⟨⟨s,u⟩,q⟩:=h;have z:=b.1;have A:=hd.1;refine⟨_,q,?_,λ_=>by omega⟩;have p:=b.part 0 k;have c:=b.part (k+n) (cs.length);rw[List.drop_zero,List.drop_zero] at p;rw[ba (by rw[bk];omega),ba (by rw[bk];omega)] at c;rw[show k+ds.length=k+n by omega];exact(p.append hd).append c
theorem Ao {α:Type}{p:α->Bool}:∀{l:List α},Bp p l=true->∀x∈l,p x=true
 | [],_,_,b=>by simp at b
 | y::l,h,x,b=>by
  unfold Bp at h;cases hp:p y with
  | false=>rw[hp] at h;cases h
  | true =>
   rw[hp] at h;rcases bq.1 b with rfl | b
   .exact hp
   .exact Ao h x b
theorem Iw {n:Nat}{l:List G}{K:G->Prop}{cs:List Value}(h:Hu n l K)(b:PW (CRep I V) l cs):∃g,K g/\TRep I V g (.agg cs.toArray):=by
 unfold Hu at h;split at h
 .split at h
  .next p=>exact⟨_,h,.of_v (.agg l cs b.1 λj g u c m=>(b.2 j g u c m).to_v (Ao p g (ar c)))⟩
  .exact⟨_,h,.of_1 (g:=.oag l) ⟨cs,rfl,b⟩⟩
 .exact⟨_,h.next,.of_v (.agg l cs b.1 λj g u c m=>(b.2 j g u c m).to_v (h.fit g (ar c)))⟩
theorem Z8q {n:Nat}(h:U5 n=true):48 < n:=dp h
theorem Ym {n:Nat}{cs:List G}{A:Prop}(h:Zeg n cs A):cs.length=n/\A:=by
 unfold Zeg at h;split at h
 .split at h
  .next b=>exact⟨aw b,h⟩
  .exact h.elim
 .exact⟨h.fit,h.next⟩
theorem Ly {g:G}(h:Nm g=true):∃x,g=.v x/\x.oneCell'=true:=by cases g<;>first | exact⟨_,rfl,h⟩ | cases h
theorem Mg {g:G}(h:Nm g=true):g.pure=true:=by obtain⟨x,rfl,-⟩:=Ly h;rfl
theorem Z62 {g:G}(h:Nm g=true):G.one g=true:=by obtain⟨x,rfl,b⟩:=Ly h;exact b
theorem Zy {g:G}(h:Nm g=true):Zat own g=true:=by obtain⟨x,rfl,b⟩:=Ly h;exact b
theorem Fu {α:Type}{p:α->Bool}:∀{l:List α},(∀x∈l,p x=true)->Bp p l=true
 | [],_=>rfl
 | x::l,h=>by unfold Bp;rw[h x (by simp)];exact Fu λy b=>h y (by simp[b])
theorem Z0h {n:Nat}{cs:List G}{A:Prop}(h:Zbx n own cs A):Bp (Zat own) cs=true/\cs.length=n/\cs≠[]/\A/\(U5 n=true->Bp G.pure cs=true):=by
 unfold Zbx at h;split at h
 .next b =>
  split at h
  .next j m=>exact⟨j,aw m,by simp,h,λe=>by rw[e] at b;cases b⟩
  .exact h.elim
 .next b =>
  have:=Z8q b;exact⟨Fu λg c=>Zy (h.fit.2 g c),h.fit.1,λe=>(by have:=h.fit.1;rw[e] at this;simp at this;omega),h.next,λ_=>Fu λg c=>Mg (h.fit.2 g c)⟩
theorem Ok {k:Nat}{o:Os}{K1:Nat->Prop}:∀{l:Os},Za6 k o l K1->∃b i,look i o=some (.adr k b)/\K1 b
 | [],h=>h.elim
 | (i,r)::l,h=>by
  unfold Za6 at h;split at h
  .next j b m =>
   split at h
   .next c =>
    have:=aw c;subst this;exact⟨b,i,m,h⟩
   .exact Ok h
  .exact Ok h
theorem U1 {n:Nat}{cs:List G}{A:Prop}(h:Zed n cs A)(b:U5 n=true->Bp G.pure cs=true):Bp G.pure cs=true/\A:=by
 unfold Zed at h;split at h
 .split at h
  .next c=>exact⟨c,h⟩
  .exact h.elim
 .next j=>exact⟨b j,h⟩
theorem Zn {x:Value}(h:x.oneCell'=true):x.cells=#[x]:=by cases x<;>first | rfl | cases h
theorem He {K:List G->Prop}(h:G9 own g K)(D:TRep I V g y)(hH:Has I V own w):∃cs,K cs/\PW (CRep I V) cs y.cells.toList/\(∀b,y=.agg b->b.toList=y.cells.toList):=by
 cases g with
 | agg l =>
  cases(show VRep I (.agg l) y from D) with
  | agg l cs hl hh=>exact⟨l,h,(⟨hl,λj g u B p=>.of_v (hh j g u B p)⟩:PW (CRep I V) l cs),λb e=>by cases e;rfl⟩
 | oag l =>
  obtain⟨cs,rfl,F⟩:=(show TRep1 I V (.oag l) y from D);exact⟨l,h,by simpa [Value.cells] using F,λb e=>by cases e;rfl⟩
 | tup l=>exact h.elim
 | elp r o=>exact h.elim
 | oel k i s o=>exact h.elim
 | orv k i s o l c=>exact h.elim
 | un=>exact h.elim
 | clo f a c=>exact h.elim
 | mp k=>obtain⟨E,rfl⟩:=(show CRep I V (.mp k) y from D);exact⟨_,h,by simpa [Value.cells] using PW.cons (g:=.mp k) ⟨E,rfl⟩ .nil,λb e=>by cases e⟩
 | v z =>
  cases(show VRep I (.v z) y from D);unfold G9 at h;dsimp only at h;split at h
  .next B=>exact⟨_,h,by rw[Zn B];exact PW.cons (.of_v (.v _)) .nil,λb e=>by subst e;cases B⟩
  .exact h.elim
 | tt=>cases(show VRep I .tt y from D);exact⟨_,h,by simpa [Value.cells] using PW.cons (.of_v .tt) .nil,λb e=>by cases e⟩
 | ff=>cases(show VRep I .ff y from D);exact⟨_,h,by simpa [Value.cells] using PW.cons (.of_v .ff) .nil,λb e=>by cases e⟩
 | nl=>cases(show VRep I .nl y from D);exact⟨_,h,by simpa [Value.cells] using PW.cons (.of_v .nl) .nil,λb e=>by cases e⟩
 | ptr k o=>obtain⟨E,rfl⟩:=(show CRep I V (.ptr k o) y from D);exact⟨_,h,by simpa [Value.cells] using PW.cons (g:=.ptr k o) ⟨E,rfl⟩ .nil,λb e=>by cases e⟩
 | sl l =>
  have B:=(show VRep I (.sl l) y from D);have p:=B;cases p with
  | sl l A c sz u hc hA hz hh hu=>exact⟨[.sl l],h,by simpa [Value.cells] using PW.cons (.of_v B) .nil,λb e=>by cases e⟩
 | osl k =>
  obtain⟨E,rfl⟩:=(show CRep I V (.osl k) y from D);unfold G9 at h;dsimp only at h;split at h
  .next m e sz hr =>
   obtain⟨-,rs,p,-⟩:=hH.each k _ hr;have H:∃A n c,V.s k=.slice A n c:=by
    rcases p.2 with⟨e,-⟩ | ⟨g,cap,cur,e,-⟩
    .exact⟨_,_,_,e⟩
    .exact⟨_,_,_,e⟩
   obtain⟨A,n,c,e⟩:=H;exact⟨_,h,by rw[e];simpa [Value.cells] using PW.cons (g:=.osl k) (l:=[]) (P:=CRep I V) ⟨E,e.symm⟩ .nil,λb C=>by rw[e] at C;cases C⟩
  .next m sz hr =>
   obtain⟨-,B,-⟩:=hH.each k _ hr;have p:=B;generalize V.s k=z at B p;cases p with
   | sl l A c sz u hc hA hz hh hu=>exact⟨[.sl m],h,by simpa [Value.cells] using PW.cons (.of_v B) .nil,λb e=>by cases e⟩
  .next m e sz hr =>
   obtain⟨-,rs,p,-⟩:=hH.each k _ hr;have H:∃A n c,V.s k=.slice A n c:=by
    rcases p.2 with⟨e,-⟩ | ⟨g,q,cap,cur,e,-⟩
    .exact⟨_,_,_,e⟩
    .exact⟨_,_,_,e⟩
   obtain⟨A,n,c,e⟩:=H;exact⟨_,h,by rw[e];simpa [Value.cells] using PW.cons (g:=.osl k) (l:=[]) (P:=CRep I V) ⟨E,e.symm⟩ .nil,λb C=>by rw[e] at C;cases C⟩
  .exact h.elim
 | osv k sz lo hi =>
  obtain⟨E,M,rfl⟩:=(show k < V.n/\(lo<=hi/\hi<=N6 (V.s k))/\y=L6 sz (V.s k) lo hi from D);unfold G9 at h;dsimp only at h;split at h
  .next m e J hr =>
   obtain⟨-,rs,p,-⟩:=hH.each k _ hr;have H:∃A n c,V.s k=.slice A n c:=by
    rcases p.2 with⟨e,-⟩ | ⟨g,cap,cur,e,-⟩
    .exact⟨_,_,_,e⟩
    .exact⟨_,_,_,e⟩
   obtain⟨A,n,c,e⟩:=H;exact⟨_,h,PW.cons (g:=.osv k sz lo hi) (l:=[]) (P:=CRep I V) (cs:=[]) (x:=L6 sz (V.s k) lo hi) ⟨E,M,rfl⟩ .nil |> λF=>(by rw[e] at F⊢;exact F),λb C=>by rw[e] at C;cases C⟩
  .next m e J hr =>
   obtain⟨-,rs,p,-⟩:=hH.each k _ hr;have H:∃A n c,V.s k=.slice A n c:=by
    rcases p.2 with⟨e,-⟩ | ⟨g,q,cap,cur,e,-⟩
    .exact⟨_,_,_,e⟩
    .exact⟨_,_,_,e⟩
   obtain⟨A,n,c,e⟩:=H;exact⟨_,h,PW.cons (g:=.osv k sz lo hi) (l:=[]) (P:=CRep I V) (cs:=[]) (x:=L6 sz (V.s k) lo hi) ⟨E,M,rfl⟩ .nil |> λF=>(by rw[e] at F⊢;exact F),λb C=>by rw[e] at C;cases C⟩
  .exact h.elim
end
def Nxt (N:Nat)(own0:Os)(I0:Imm)(V0:Va)(w0:World)(K:Ts->Os->Nat->Prop)(next:Act->World->Prop):Prop :=
 ∀t own I V a w,K t own V.n->Since own0 I0 V0 w0 own I V w->ARep N I V a t->next a w
def Agree (V:Va)(XL:List Nat)(w u:World):Prop:=∀b,b < w.heap.size->(∀k∈XL,¬V.f k b)->u.heap[b]?=w.heap[b]?
def Va.kp (V V':Va):Prop:=∀k,k < V.n->∀b,V'.f k b->V.f k b
theorem Va.kp.refl (V:Va):V.kp V:=λ_ _ _ h=>h
theorem Va.kp.trans {V V' V'':Va}(h:V.kp V')(m:V.n<=V'.n)(p:V'.kp V''):V.kp V'':=λk c b j=>h k c b (p k (bc c m) b j)
theorem Va.kp.push (V:Va)(b:Nat)(s:Value)(f:Nat->Prop):V.kp (V.push b s f):=λk h b c=>by simpa [Va.push,Nat.ne_of_lt h] using c
theorem Va.kp.drop (V:Va)(k:Nat):V.kp (V.drop k):=λj _ b c=>by
 change (if j=k then λ_=>False else V.f j) b at c
 split at c
 .exact c.elim
 .exact c
def QOk (S:World->Prop)(P:Program)(I:Imm)(V:Va)(own:Os)(_:World)(a:Act)(t:Ts)(o:Oper)(K:Ts->Os->Nat->Prop):Prop :=
 ∃g y,K (put o.dst g t) own V.n/\TRep I V g y/\∀u,S u->(execOp a.eval o).run P u=.ok (.value y) u
def NxtB (N:Nat)(own:Os)(I:Imm)(V:Va)(w:World)(K:Ts->Os->Nat->Prop)(next:Act->World->Prop):Prop :=
 ∀t own' I' V' a w',K t own' V'.n->Later own I V w own' I' V' w'->Below w.heap.size w w'->V.kp V'->ARep N I' V' a t->next a w'
section
variable {P:Program} {tb:List (Nat × TI)} {N:Nat} {I I' I0:Imm} {V V' V0:Va} {a:Act} {t:Ts} {own own' own0:Os} {w w' w0:World} {x:Operand} {g:G} {y:Value} {d:Option Tmp} {o:Oper}
variable {K:Ts->Os->Nat->Prop} {next:Act->World->Prop} {Q:Exit->Act->World->Prop}
theorem fin (hK:Nxt N own0 I0 V0 w0 K next)(hL:Since own0 I0 V0 w0 own I V w)(ha:ARep N I V a t)(hd:∀i,o.dst=some i->i < N)
  (hr:(execOp a.eval o).run P w=.ok (.value y) w') (b:Later own I V w own' I' V' w') (c:TRep I' V' g y) (h:K (put o.dst g t) own' V'.n):o.wp P a w next Q:=by
 unfold Oper.wp;rw[hr];exact hK _ _ _ _ _ _ h (hL.trans b) ((ha.mono b.fro.mono b.va).put hd c)
theorem QOk.wp {S:World->Prop}(h:QOk S P I V own w a t o K)(j:S w)(hK:Nxt N own0 I0 V0 w0 K next)(hL:Since own0 I0 V0 w0 own I V w)(ha:ARep N I V a t)(hd:∀i,o.dst=some i->i < N):o.wp P a w next Q:=by obtain⟨g,y,c,b,hr⟩:=h;exact fin hK hL ha hd (hr w j) (.refl hL.has) b c
theorem Sg (hK:NxtB N own I V w K next)(ha:ARep N I V a t)(hd:∀i,o.dst=some i->i < N)
  (hr:(execOp a.eval o).run P w=.ok (.value y) w') (c:Later own I V w own' I' V' w') (h:Below w.heap.size w w') (b:V.kp V') (j:TRep I' V' g y) (m:K (put o.dst g t) own' V'.n):o.wp P a w next Q:=by
 unfold Oper.wp;rw[hr];exact hK _ _ _ _ _ _ m c h b ((ha.mono c.fro.mono c.va).put hd j)
theorem NxtB.of (hK:Nxt N own0 I0 V0 w0 K next)(hL:Since own0 I0 V0 w0 own I V w):NxtB N own I V w K next:=λ_ _ _ _ _ _ c b _ _ ha=>hK _ _ _ _ _ _ c (hL.trans b) ha
theorem Pg (hK:Nxt N own0 I0 V0 w0 K next)(hL:Since own0 I0 V0 w0 own I V w)(ha:ARep N I V a t)(hd:∀i,o.dst=some i->i < N)
  (hr:(execOp a.eval o).run P w=.ok .skip w') (b:Later own I V w own' I' V' w') (c:K (put o.dst .un t) own' V'.n):o.wp P a w next Q:=by
 unfold Oper.wp;rw[hr];exact hK _ _ _ _ _ _ c (hL.trans b) ((ha.mono b.fro.mono b.va).put hd (.of_v .un))
theorem Agree.cell {XL:List Nat}{u:World}(h:Agree V XL w u){b o:Nat}{v:Value}(j:w.cell? ⟨b,o,none⟩=some v)(m:∀k∈XL,¬V.f k b):u.cell? ⟨b,o,none⟩=some v:=by have c:=World.block_lt_of_cell? w ⟨b,o,none⟩ j;rw[ac (w:=w) (w':=u) (a:=⟨b,o,none⟩) (h b c m)];exact j
theorem Cv (b o k:Nat):(⟨b,o,none⟩:Addr).add k=⟨b,o+k,none⟩:=by unfold Addr.add;split<;>simp_all
theorem Ld {b:TypeId}{i:TI}(h:TIok P b i)(cs:List Value)(off:Nat)(w:World):(part b cs.toArray off).run P w =
  if i.agg=true then .ok (.agg ((cs.drop off).take i.zero.length).toArray) w else(match cs[off]? with | some v=>.ok v w | none=>.halt (.stuck "part: no such cell") w):=by
 unfold part;have c:=Bt (P:=P) h.size w;simp only[Sem.run_bind,Gi h.agg,Result.andThen_ok];cases i.agg with
 | true=>simp[c,Result.andThen]
 | false=>simp;split<;>simp_all [Go.stuck]
theorem Z0z {ty:TypeId}{i:TI}(h:TIok P ty i)(c:i.agg=true){b off:Nat}{cs:List Value}(m:cs.length=i.zero.length)(p:∀(j:Nat) v,cs[j]?=some v->w.cell? ⟨b,off+j,none⟩=some v) :
  (Instr.loadAt ty (.pointer (some ⟨b,off,none⟩))).run P w=.ok (.agg cs.toArray) w:=by
 have:=D1 (P:=P) (w:=w) (g:=b) (k:=off) (ty:=ty) (cs:=cs) (by rw[h.agg,c]) (by rw[h.size,m]) p;simp only[Instr.loadAt,Instr.sureAddr,Sem.run_bind,Sem.run_pure,Result.andThen_ok,this]
theorem Z70 {ty:TypeId}{i:TI}(h:TIok P ty i)(c:i.agg=false){b off:Nat}{v:Value}(j:w.cell? ⟨b,off,none⟩=some v) :
  (Instr.loadAt ty (.pointer (some ⟨b,off,none⟩))).run P w=.ok v w:=by
 simp only[Instr.loadAt,Instr.sureAddr,loadVar,Sem.run_bind,Sem.run_pure,Result.andThen_ok,Gi (P:=P) (show Pu P ty=some false by rw[h.agg,c]),run_load,j,Bool.false_eq_true,if_false]
theorem Zc7 {row:List G}{b o:Nat}(h:∀(j:Nat) g,row[j]?=some g->∃u,I b (o+j)=some u/\VRep I g u):∃q,PW (VRep I) row q/\∀(j:Nat) u,q[j]?=some u->I b (o+j)=some u:=by
 refine⟨(List.range row.length).map λj=>(I b (o+j)).getD undef,⟨by simp,λj g u z c=>?_⟩,λj u c=>?_⟩
 .have p:=(aq.1 z).1;rw[ax,da p] at c;obtain⟨v,m,s⟩:=h j g z;simp[m] at c;subst c;exact s
 .have p:j < row.length:=by have:=(aq.1 c).1;simpa using this
  rw[ax,da p] at c;obtain⟨v,m,s⟩:=h j row[j] (ap p);simp[m] at c;subst c;exact m
theorem Jf {cs:List Value}{k n j:Nat}{v:Value}(h:((cs.drop k).take n)[j]?=some v):cs[k+j]?=some v:=by
 rw[br] at h;split at h
 .rw[cf] at h;exact h
 .cases h
theorem Ze5 {l:List G}{cs:List Value}(h:PW (VRep I) l cs):VRep I (.agg l) (.agg cs.toArray):=.agg l cs h.1 h.2
theorem S3 (hH:Has I V own w){k e sz:Nat}{h:List (List G)}(C:look k own=some (.slc h e sz)){b n c:Nat}(z:V.s k=.slice (some ⟨b,0,none⟩) n c) :
  ∃rs:List (List Value),∃m:Array Value,w.heap[b]?=some (.cells m e (0,0))/\rs.length=h.length/\(∀(i:Nat) r u,h[i]?=some r->rs[i]?=some u->PW (VRep I) r u)/\(∀u∈rs,u.length=sz)/\(∀u∈rs,∀x∈u,x.oneCell'=true)/\n=h.length/\n<=c/\c<=maxLen/\m.size=c * sz/\m.toList.take (n * sz)=rs.flatten/\∀i u j x,rs[i]?=some u->u[j]?=some x->w.cell? ⟨b,i * sz+j,none⟩=some x:=by
 obtain⟨-,rs,⟨M,A⟩,D,H,q,B,J⟩:=hH.each k _ C;rcases A with⟨p,-⟩ | ⟨g,cap,m,p,-,hg,hn,hm,hc,ht⟩
 .rw[z] at p;cases p
 .rw[z] at p;injection p with p e2 e3;injection p with p;injection p with p;subst p e2 e3;refine⟨rs,m,hg,D,H,q,B,rfl,hn,hm,hc,ht,λi u j x F E=>?_⟩;rw[cell_of_row w b _ m e (0,0) hg];have:=Cm q F E;rw[<-ht,br] at this;split at this
  .simpa using this
  .cases this
theorem Z4v (hH:Has I V own w){k e sz:Nat}{j:List (List G)}(u:look k own=some (.slc j e sz)){b q n c:Nat}(m:V.s k=.slice (some ⟨b,q,none⟩) n c):q=0:=by
 obtain⟨-,rs,⟨z,p⟩,-⟩:=hH.each k _ u;rcases p with⟨h,-⟩ | ⟨g,cap,cur,h,-⟩
 .rw[m] at h;cases h
 .rw[m] at h;injection h with h e2 e3;injection h with h;injection h
theorem Zd6 (hH:Has I V own w){k e sz:Nat}{h:List (List G)}(D:look k own=some (.vw h e sz)){b q n c:Nat}(A:V.s k=.slice (some ⟨b,q,none⟩) n c) :
  ∃rs:List (List Value),∃m:Array Value,w.heap[b]?=some (.cells m e (0,0))/\rs.length=h.length/\(∀(i:Nat) r u,h[i]?=some r->rs[i]?=some u->PW (VRep I) r u)/\(∀u∈rs,u.length=sz)/\(∀u∈rs,∀x∈u,x.oneCell'=true)/\n=h.length/\n<=c/\c<=maxLen/\q+c * sz<=m.size/\(m.toList.drop q).take (n * sz)=rs.flatten/\∀(i:Nat) u (j:Nat) x,rs[i]?=some u->u[j]?=some x->w.cell? ⟨b,q+i * sz+j,none⟩=some x:=by
 obtain⟨-,rs,⟨O,B⟩,E,J,z,C,M⟩:=hH.each k _ D;rcases B with⟨p,-⟩ | ⟨g,q',cap,m,p,hg,hn,hm,hc,ht⟩
 .rw[A] at p;cases p
 .rw[A] at p;injection p with p e2 e3;injection p with p;injection p with p e4;subst p e2 e3 e4;refine⟨rs,m,hg,E,J,z,C,rfl,hn,hm,hc,ht,λi u j x H F=>?_⟩;rw[cell_of_row w b _ m e (0,0) hg];have:=Cm z H F;rw[<-ht,br] at this;split at this
  .rw[cf] at this;rw[de];simpa using this
  .cases this
theorem Wd {base e sz n:Nat}{v:Value}{xs:List Value}(h:w.ownsRow base e sz v n xs):Ep w e sz v n xs:=by
 refine⟨h.1,?_⟩;rcases h.2 with b | ⟨g,cap,cur,e1,-,hg,hn,hm,hc,ht⟩
 .exact .inl b
 .exact .inr ⟨g,0,cap,cur,e1,hg,hn,hm,by rw[hc];omega,by rw[List.drop_zero];exact ht⟩
end
theorem Ca:∀{l:List Nat} {k:Nat},Fs k l=true↔k∈l
 | [],k=>by simp[Fs]
 | j::l,k=>by
  unfold Fs;have b:=Ca (l:=l) (k:=k);by_cases h:k=j
  .subst h;simp[Nat.beq_refl]
  .have c:Nat.beq k j=false:=by
    cases hb:Nat.beq k j with
    | false=>rfl
    | true=>exact du (aw hb) h
   simp[c,b,h]
section
variable {P:Program} {tb:List (Nat × TI)} {N n:Nat} {I I' I0:Imm} {V V' V0:Va} {a:Act} {t:Ts} {own own' own0:Os} {w w' w0:World} {g:G} {y:Value} {d:Option Tmp}
variable {XL:List Nat} {S:World->Prop} {K:Ts->Os->Nat->Prop} {next:Act->World->Prop} {Q:Exit->Act->World->Prop} {o:Oper}
variable (hT:∀t i,look t tb=some i->TIok P t i) (hK:NxtB N own I V w K next) (hH:Has I V own w) (ha:ARep N I V a t) (hd:∀i,o.dst=some i->i < N)
include hH ha in
theorem Z7n {x:Operand}(b:o.op=.move x\/o.op=.assign x)(h:ev t own x λg=>K (put o.dst g t) own V.n):QOk S P I V own w a t o K:=by obtain⟨g,c,j⟩:=B7 h ha hH;refine⟨_,_,c,j,λu _=>?_⟩;rcases b with b | b<;>simp only[execOp,b,Sem.run_pure]
include hK hH ha hd in
theorem Zdu {e sz:Nat}(c:0 < sz)(j:o.op=.assign (.const (.slice none 0 0)))(h:K (put o.dst (.osl V.n) t) ((V.n,.slc [] e sz)::own) (V.n+1)):o.wp P a w next Q:=by
 refine Sg (g:=.osl V.n) (y:=.slice none 0 0) hK ha hd (w':=w) (by simp only[execOp,j,Sem.run_pure];rfl) (Dl (r:=.slc [] e sz) hH (ab _ _) 0 (.slice none 0 0) (λ_=>False) (λk h=>h.elim) ⟨?_,[],?_,rfl,?_,by simp,by simp,c⟩) (ab _ _) (.push _ _ _ _) (TRep.of_c (g:=.osl V.n) ⟨dc _,by simp[Va.push]⟩) h
 .intro b;simp[Va.push,Value.ownBlock]
 .simp[Va.push];exact World.ownsRow_nil w 0 e sz
 .intro i r u hr;simp at hr
include hH ha in
theorem Zch {c x y:Operand}(q:o.op=.pick c x y)(h:ev t own c λg=>match g with
  | .tt=>ev t own x λg=>K (put o.dst g t) own V.n
  | .ff=>ev t own y λg=>K (put o.dst g t) own V.n
  | .v (.bool c)=>EvIf c (ev t own x λg=>K (put o.dst g t) own V.n) (ev t own y λg=>K (put o.dst g t) own V.n)
  | _=>False):QOk S P I V own w a t o K:=by
 obtain⟨g,j,m⟩:=B7 h ha hH;have key:∀b,a.eval c=.bool b->(ev t own (if b=true then x else y) λg=>K (put o.dst g t) own V.n)->QOk S P I V own w a t o K:=λb p h=>by obtain⟨g,j,m⟩:=B7 h ha hH;refine⟨_,a.eval (if b=true then x else y),j,m,λu _=>?_⟩;cases b<;>simp[execOp,q,p,asBool]
 cases g with
 | tt=>exact key true (by generalize a.eval c=z at m;cases(show VRep I .tt z from m);rfl) j
 | ff=>exact key false (by generalize a.eval c=z at m;cases(show VRep I .ff z from m);rfl) j
 | v z =>
  have e:a.eval c=z:=by generalize a.eval c=u at m;cases(show VRep I (.v z) u from m);rfl
  cases z with
  | bool b =>
   cases b with
   | true=>exact key true e (j.1 rfl)
   | false=>exact key false e (j.2 rfl)
  | _=>exact j.elim
 | _=>exact j.elim
theorem Vs {I:Imm}{V:Va}{w':World}{b:Nat}{cs:List G}{j:List Value}{ty:TypeId}(m:w'.heap[b]?=some (.cells j.toArray ty (0,0)))(p:PW (CRep I V) cs j):RRep I (V.push b undef (·=b)) V.n w' (.blk cs ty):=by refine⟨λc=>by simp[Va.push],j,by simpa [Va.push] using m,p.mono λ_ _ h=>h.mono (.refl _) (V.push_le _ _ _)⟩
theorem Ss {i:TI}{ty:TypeId}(h:TIok P ty i):PW (CRep I V) i.zero (i.zero.map G.val):=by refine⟨by simp,λj g u c b=>?_⟩;rw[ax,c] at b;simp at b;subst b;have:=Ao h.zok g (ar c);cases g<;>first | exact .of_v (.v _) | exact .of_v .ff | exact .of_v .nl | cases this
include hT hK hH ha hd in
theorem Z6f {ty:TypeId}(u:o.op=.alloc ty)(h:match look ty tb with
  | some i=>K (put o.dst (.ptr V.n 0) t) ((V.n,.blk i.zero ty)::own) (V.n+1)
  | none=>False):o.wp P a w next Q:=by
 cases hl:look ty tb with
 | none=>rw[hl] at h;exact h.elim
 | some i =>
  rw[hl] at h;have s:=hT ty i hl;obtain⟨z,q,b⟩:=bg.1 s.zero;obtain⟨j,p,m⟩:=Option.bind_eq_some_iff.1 q;have c:(zeroValue ty).run P w=.ok z w:=by simp[zeroValue,typeInfo,p,m]
  have e:z.cells=(i.zero.map G.val).toArray:=by rw[<-b]
  refine Sg (g:=.ptr V.n 0) (y:=.pointer (some ⟨w.heap.size,0,none⟩)) hK ha hd (w':=w.alloc (.cells (i.zero.map G.val).toArray ty)) ?_ (Dl hH ((ab _ _).alloc (au _) _) w.heap.size undef (·=w.heap.size) (λk e=>⟨Nat.le_of_eq e.symm,by subst e;simp⟩) (Vs (heap_alloc_new _ _) (Ss s))) ((ab _ _).alloc (au _) _) (.push _ _ _ _) (TRep.of_c (g:=.ptr V.n 0) ⟨dc _,by simp[Va.push]⟩) h;simp only[execOp,u,Sem.run_bind,Instr.alloc,c,newVar,newRow,run_newObj_alloc,Sem.run_pure,Result.andThen_ok,e]
include hK hH ha hd in
theorem Zdd {ty:TypeId}{x:Operand}(m:o.op=.box ty x)(h:ev t own x λg=>G9 own g λcs=>K (put o.dst (.ptr V.n 0) t) ((V.n,.blk cs ty)::own) (V.n+1)):o.wp P a w next Q:=by obtain⟨g,b,j⟩:=B7 h ha hH;obtain⟨cs,b,c,-⟩:=He b j hH;refine Sg (g:=.ptr V.n 0) (y:=.pointer (some ⟨w.heap.size,0,none⟩)) hK ha hd (w':=w.alloc (.cells (a.eval x).cells.toList.toArray ty)) ?_ (Dl hH ((ab _ _).alloc (au _) _) w.heap.size undef (·=w.heap.size) (λk e=>⟨Nat.le_of_eq e.symm,by subst e;simp⟩) (Vs (heap_alloc_new _ _) c)) ((ab _ _).alloc (au _) _) (.push _ _ _ _) (TRep.of_c (g:=.ptr V.n 0) ⟨dc _,by simp[Va.push]⟩) b;simp only[execOp,m,Sem.run_bind,Instr.box,newVar,newRow,run_newObj_alloc,Sem.run_pure,Result.andThen_ok,Array.toArray_toList]
theorem Oi (hH:Has I V own w){k:Nat}{cs:List G}{ty:TypeId}(m:look k own=some (.blk cs ty)):∃c:List Value,w.heap[V.b k]?=some (.cells c.toArray ty (0,0))/\PW (CRep I V) cs c/\∀j,w.cell? ⟨V.b k,j,none⟩=c[j]?:=by obtain⟨-,c,h,p⟩:=hH.each k _ m;exact⟨c,h,p,λj=>by rw[cell_of_row w _ j _ ty (0,0) h];simp⟩
theorem C9 {k off:Nat}(h:TRep I V (.ptr k off) y):k < V.n/\y=.pointer (some ⟨V.b k,off,none⟩):=h
theorem Qb {row:List G}{off:Nat}(h:TRep I V (.elp row off) y):∃b o,y=.pointer (some ⟨b,o+off,none⟩)/\∀(j:Nat) g,row[j]?=some g->∃u,I b (o+j)=some u/\VRep I g u:=h
theorem Lf {k i sz off:Nat}(h:TRep I V (.oel k i sz off) y):k < V.n/\∃b q n c,V.s k=.slice (some ⟨b,q,none⟩) n c/\y=.pointer (some ⟨b,q+(i * sz+off),none⟩):=h
theorem B0 {z:Value}(h:TRep I V (.v z) y):y=z:=by cases(show VRep I (.v z) y from h);rfl
theorem Zk {ty:TypeId}{i:TI}(A:TIok P ty i){row:List G}{c:List Value}(m:PW (VRep I) row c){b q off:Nat}(_:∀(j:Nat) v,c[j]?=some v->w.cell? ⟨b,q+j,none⟩=some v){K1:G->Prop}
  (h:match i.agg with
   | true=>seg row off i.zero.length λl=>K1 (.agg l)
   | false=>match nth row off with
    | some g=>K1 g
    | none=>False):∃g v,K1 g/\VRep I g v/\∀u,(∀(j:Nat) v,c[j]?=some v->u.cell? ⟨b,q+j,none⟩=some v)->(Instr.loadAt ty (.pointer (some ⟨b,q+off,none⟩))).run P u=.ok v u:=by
 cases hb:i.agg with
 | true =>
  rw[hb] at h;obtain⟨l,B,C,-⟩:=Lm h m;have E:((c.drop off).take i.zero.length).length=i.zero.length:=by
   rcases ak i.zero.length with p | p
   .rw[p];simp
   .have:=Q5 h m p;simp;omega
  exact⟨_,_,B,Ze5 C,λu z=>Z0z A hb E λj v s=>by rw[de];exact z _ _ (Jf s)⟩
 | false =>
  rw[hb,Ea] at h;dsimp only at h;cases hr:row[off]? with
  | none=>rw[hr] at h;exact h.elim
  | some g =>
   rw[hr] at h;obtain⟨v,s,D⟩:=m.get hr;exact⟨g,v,h,D,λu z=>Z70 A hb (z _ _ s)⟩
theorem Tk {Q:G->Value->Prop}:∀{b:List (List G)} {rs:List (List Value)},rs.length=b.length->(∀(i:Nat) r u,b[i]?=some r->rs[i]?=some u->PW Q r u)->PW Q b.flatten rs.flatten
 | [],rs,h,_=>by have:rs=[]:=ay (by simpa using h);subst this;exact .nil
 | r::b,rs,h,hp=>by
  cases rs with
  | nil=>simp at h
  | cons u rs =>
   rw[cm,cm];exact(hp 0 r u rfl rfl).append (Tk (by simpa using h) λi r u c j=>hp (i+1) r u (by simpa using c) (by simpa using j))
include hT hH ha in
theorem Zd9 (hXL:∀k∈XL,∃r,look k own=some r)(hS:∀u,S u->Agree V XL w u){ty:TypeId}{x:Operand}(ho:o.op=.load ty x)(h:ev t own x λg=>match look ty tb with
  | none=>False
  | some i=>match g with
   | .ptr k off=>match look k own,Fs k XL with
    | some (.blk cs _),false=>match i.agg with
     | true=>seg cs off i.zero.length λl=>Hu i.zero.length l λg=>K (put o.dst g t) own V.n
     | false=>match nth cs off with
      | some g=>K (put o.dst g t) own V.n
      | none=>False
    | some (.lnk j),false=>match look j own,Fs j XL,i.agg with
     | some (.slc z _ 1),false,true=>Eu (off+i.zero.length<=z.length/\∀r∈z,∀g∈r,g.pure=true) (K (put o.dst (.agg ((z.flatten.drop off).take i.zero.length)) t) own V.n)
     | _,_,_=>False
    | _,_=>False
   | .elp row off=>match i.agg with
     | true=>seg row off i.zero.length λl=>K (put o.dst (.agg l) t) own V.n
     | false=>match nth row off with
      | some g=>K (put o.dst g t) own V.n
      | none=>False
   | .oel k j sz off=>match look k own,Fs k XL with
    | some (.slc z _ sz'),false=>match Nat.beq sz sz' with
     | true=>EvIdx z j λrow=>match i.agg with
      | true=>seg row off i.zero.length λl=>K (put o.dst (.agg l) t) own V.n
      | false=>match nth row off with
       | some g=>K (put o.dst g t) own V.n
       | none=>False
     | false=>False
    | some (.vw z _ sz'),false=>match Nat.beq sz sz' with
     | true=>EvIdx z j λrow=>match i.agg with
      | true=>seg row off i.zero.length λl=>K (put o.dst (.agg l) t) own V.n
      | false=>match nth row off with
       | some g=>K (put o.dst g t) own V.n
       | none=>False
     | false=>False
    | _,_=>False
   | _=>False):QOk S P I V own w a t o K:=by
 obtain⟨g,s,hg⟩:=B7 h ha hH;cases hl:look ty tb with
 | none=>rw[hl] at s;exact s.elim
 | some i =>
  rw[hl] at s;have hi:=hT ty i hl;have run:∀{u v},(Instr.loadAt ty (a.eval x)).run P u=.ok v u->(execOp a.eval o).run P u=.ok (.value v) u:=λhr=>by simp only[execOp,ho,Sem.run_bind,hr,Result.andThen_ok,Sem.run_pure]
  have nX:∀{b k},(∃r,look k own=some r)->V.f k b->k ∉ XL->∀Z∈XL,¬V.f Z b:=λ{b k} ⟨r,hr⟩ hf s Z O J=>by obtain⟨r',h'⟩:=hXL Z O;exact s (hH.disj k Z r _ b hr h' hf J ▸ O)
  dsimp only at s;cases g with
  | ptr k off =>
   obtain⟨hkn,H⟩:=C9 hg;dsimp only at s;cases hr:look k own with
   | none=>rw[hr] at s;exact s.elim
   | some r =>
    rw[hr] at s;cases r with
    | blk cs t' =>
     cases hm:Fs k XL with
     | true=>rw[hm] at s;exact s.elim
     | false =>
     rw[hm] at s;have F:k ∉ XL:=λh=>by rw[Ca.2 h] at hm;cases hm
     obtain⟨us,h1,J,T⟩:=Oi hH hr;have hlt:V.b k < w.heap.size:=(bz.1 h1).1;have hcl:∀u,Agree V XL w u->∀j,u.cell? ⟨V.b k,j,none⟩=w.cell? ⟨V.b k,j,none⟩:=λu B j=>ac (w:=w) (B _ hlt (nX ⟨_,hr⟩ (((hH.each k _ hr).1 _).2 rfl) F));dsimp only at s;cases hb:i.agg with
     | true =>
      rw[hb] at s;obtain⟨l,k1,W,-⟩:=Lm s J;obtain⟨g',X,k4⟩:=Iw k1 W;have E:((us.drop off).take i.zero.length).length=i.zero.length:=by
       rcases ak i.zero.length with h0 | h0
       .rw[h0];simp
       .have:=Q5 s J h0;simp;omega
      exact⟨_,_,X,k4,λu B=>run (by rw[H];exact Z0z hi hb E λj v A=>by rw[hcl u (hS u B),T];exact Jf A)⟩
     | false =>
      rw[hb,Ea] at s;dsimp only at s;cases hc:cs[off]? with
      | none=>rw[hc] at s;exact s.elim
      | some g' =>
       rw[hc] at s;obtain⟨v,A,hgv⟩:=J.get hc;exact⟨_,_,s,.of_c hgv,λu B=>run (by rw[H];exact Z70 hi hb (by rw[hcl u (hS u B),T];exact A))⟩
    | lnk j =>
     obtain⟨-,hjn,m,hsj⟩:=hH.each k _ hr;cases hm:Fs k XL with
     | true=>rw[hm] at s;exact s.elim
     | false =>
     rw[hm] at s;dsimp only at s;split at s
     .next z e hrj hmj hag =>
      have hnj:j ∉ XL:=λh=>by rw[Ca.2 h] at hmj;cases hmj
      obtain⟨⟨hfit,hpur⟩,s⟩:=s;obtain⟨rs,cur,C,J,T,h4,-,-,-,-,-,-,M⟩:=S3 hH hrj hsj;have hlb:V.b k < w.heap.size:=(bz.1 C).1;have hfl:PW (VRep I) z.flatten rs.flatten:=Tk J T;have E:((rs.flatten.drop off).take i.zero.length).length=i.zero.length:=by rw[be,bk,Bq h4];omega
      have Y:∀u,S u->∀(n:Nat) v,((rs.flatten.drop off).take i.zero.length)[n]?=some v->u.cell? ⟨V.b k,off+n,none⟩=some v:=λu B n v A=>by have h6:=Jf A;obtain⟨p,q,y,e1,-,e2,e3⟩:=Qd h4 h6;rw[e1];exact(hS u B).cell (M p y q v e2 e3) (nX ⟨_,hrj⟩ (((hH.each j _ hrj).1 (V.b k)).2 (by rw[hsj];rfl)) hnj)
      exact⟨_,_,s,.of_v (.agg _ _ (hfl.part off i.zero.length).1 (hfl.part off i.zero.length).2),λu B=>run (by rw[H];exact Z0z hi hag E (Y u B))⟩
     .exact s.elim
    | _=>exact s.elim
  | elp row off =>
   obtain⟨b,q,H,B⟩:=Qb hg;obtain⟨us,hp,hc⟩:=Zc7 B;obtain⟨g',v,k1,W,X⟩:=Zk (P:=P) (w:=w) hi hp (K1:=λg=>K (put o.dst g t) own V.n) (λj v A=>hH.mem _ _ _ (hc j v A)) s;exact⟨_,_,k1,.of_v W,λu B=>run (by rw[H];exact X u λm v A=>(hS u B).cell (hH.mem _ _ _ (hc m v A)) (λZ O e=>(by obtain⟨r',h'⟩:=hXL Z O;have:=(hH.foot Z _ b h' e).2 (q+m);rw[hc m v A] at this;cases this)))⟩
  | oel k j sz off =>
   obtain⟨hkn,b,q,n,c,hs,H⟩:=Lf hg;dsimp only at s;cases hr:look k own with
   | none=>rw[hr] at s;exact s.elim
   | some r =>
    rw[hr] at s;cases r with
    | slc z e sz' =>
     cases hm:Fs k XL with
     | true=>rw[hm] at s;exact s.elim
     | false =>
     rw[hm] at s;have F:k ∉ XL:=λh=>by rw[Ca.2 h] at hm;cases hm
     dsimp only at s;cases hb:Nat.beq sz sz' with
     | false=>rw[hb] at s;exact s.elim
     | true =>
      rw[hb] at s;have:=aw hb;subst this;obtain⟨⟨-,hlt⟩,s⟩:=s;obtain rfl:=Z4v hH hr hs;rw[cp] at H;obtain⟨rs,cur,C,J,T,h4,-,-,-,-,-,-,M⟩:=S3 hH hr hs;have hlb:b < w.heap.size:=(bz.1 C).1;have hj:j < z.length:=by omega
      have D:j < rs.length:=by omega
      obtain⟨g',v,k1,W,X⟩:=Zk (P:=P) (w:=w) hi (T j _ _ (ap hj) (ap D)) (b:=b) (q:=j * sz) (off:=off) (K1:=λg=>K (put o.dst g t) own V.n) (λm v A=>M j _ m v (ap D) A) (s z[j] (by simp));exact⟨_,_,k1,.of_v W,λu B=>run (by rw[H];exact X u λm v A=>(hS u B).cell (M j _ m v (ap D) A) (nX ⟨_,hr⟩ (((hH.each k _ hr).1 b).2 (by rw[hs];rfl)) F))⟩
    | vw z e sz' =>
     cases hm:Fs k XL with
     | true=>rw[hm] at s;exact s.elim
     | false =>
     rw[hm] at s;have F:k ∉ XL:=λh=>by rw[Ca.2 h] at hm;cases hm
     dsimp only at s;cases hb:Nat.beq sz sz' with
     | false=>rw[hb] at s;exact s.elim
     | true =>
      rw[hb] at s;have:=aw hb;subst this;obtain⟨⟨-,hlt⟩,s⟩:=s;obtain⟨rs,cur,C,J,T,h4,-,-,-,-,-,-,M⟩:=Zd6 hH hr hs;have hlb:b < w.heap.size:=(bz.1 C).1;have hj:j < z.length:=by omega
      have D:j < rs.length:=by omega
      have M:∀(i:Nat) u (m:Nat) v,rs[i]?=some u->u[m]?=some v->w.cell? ⟨b,q+i * sz+m,none⟩=some v:=λi u m v a b=>M i u m v a b;rw[<-de] at H;obtain⟨g',v,k1,W,X⟩:=Zk (P:=P) (w:=w) hi (T j _ _ (ap hj) (ap D)) (b:=b) (q:=q+j * sz) (off:=off) (K1:=λg=>K (put o.dst g t) own V.n) (λm v A=>M j _ m v (ap D) A) (s z[j] (by simp));exact⟨_,_,k1,.of_v W,λu B=>run (by rw[H];exact X u λm v A=>(hS u B).cell (M j _ m v (ap D) A) (nX ⟨_,hr⟩ (((hH.each k _ hr).1 b).2 (by rw[hs];rfl)) F))⟩
    | _=>exact s.elim
  | _=>exact s.elim
end
theorem Zgw {I:Imm}{V:Va}{cs:List G}{ds:List Value}(h:PW (CRep I V) cs ds):PW (CRep I V) (cs.map Z39) ds :=
 ⟨by rw[ao];exact h.1,λm g u c p=>by
  rw[ax] at c;obtain⟨g0,q,rfl⟩:=bg.1 c;have b:=h.2 m g0 u q p;cases g0 with
  | nl=>cases(show VRep I .nl u from b);exact .sl [] none 0 0 (λ_ _=>undef) (au _) (λ_=>rfl) (by simp) (λi r h=>by simp at h) (λi r j g h=>by simp at h)
  | tt=>cases(show VRep I .tt u from b);exact .v _
  | ff=>cases(show VRep I .ff u from b);exact .v _
  | _=>exact b⟩
theorem Ut {rs:List (List Value)}{sz:Nat}(h:∀u∈rs,u.length=sz):∀{i:Nat} {u:List Value} (_:rs[i]?=some u) (off:Nat) (ds:List Value) (_:off+ds.length<=sz),
  (rs.set i (u.take off++ds++u.drop (off+ds.length))).flatten=rs.flatten.take (i * sz+off)++ds++rs.flatten.drop (i * sz+off+ds.length):=by
 induction rs with
 | nil=>intro i u b;simp at b
 | cons v rs ih =>
  intro i u b off ds hd;have j:=h v (by simp);cases i with
  | zero =>
   simp at b;subst b;simp only[List.set_cons_zero,List.flatten_cons,Nat.zero_mul,Nat.zero_add];rw[List.take_append_of_le_length (by omega),List.drop_append_of_le_length (by omega)];simp[List.append_assoc]
  | succ i =>
   have:=ih (λu b=>h u (by simp[b])) (i:=i) (u:=u) (by simpa using b) off ds hd;simp only[List.set_cons_succ,List.flatten_cons];rw[this];have c:(i+1) * sz+off=v.length+(i * sz+off):=by rw[j,Nat.add_mul];omega
   rw[c,List.take_length_add_append,de v.length,List.drop_length_add_append];simp[List.append_assoc]
section
variable {P:Program} {tb:List (Nat × TI)} {N n:Nat} {I I' I0:Imm} {V V' V0:Va} {a:Act} {t:Ts} {own own' own0:Os} {w w' w0:World} {g:G} {y:Value} {d:Option Tmp}
variable {XL:List Nat} {S:World->Prop} {K:Ts->Os->Nat->Prop} {next:Act->World->Prop} {Q:Exit->Act->World->Prop} {o:Oper}
theorem If {ty:TypeId}{m b off:Nat}(q:(P.info? ty).map (·.size)=some m){x:Value}{ds:List Value}(s:x.cells.toList=ds)(A:ds.length=m){c:Array Value}{z:TypeId}(C:w.heap[b]?=some (.cells c z (0,0)))(p:off+ds.length<=c.size)(B:∀u∈ds,u.oneCell'=true) :
  (Instr.storeAt ty (.pointer (some ⟨b,off,none⟩)) x).run P w=.ok () (w.setRow b (c.toList.take off++ds++c.toList.drop (off+ds.length)).toArray):=by
 have h:=run_storeCells_at P b off z ds 0 c w C (by simpa using p) B;simp only[Nat.add_zero] at h;subst A;have j:x.cells.size=ds.length:=by rw[<-s];simp
 simp only[Instr.storeAt,Instr.sureAddr,storeVar,Sem.run_bind,Sem.run_pure,Result.andThen_ok,Bt q,j,ne_eq,not_true_eq_false,if_false,s,h]
theorem Z7a {l:List G}{ds:List Value}(hH:Has I V own w)(h:Bp (Zat own) l=true)(A:PW (CRep I V) l ds):∀u∈ds,u.oneCell'=true:=λu B=>by
 obtain⟨j,z,e⟩:=cu.1 B;have s:j < l.length:=by rw[A.1];exact z
 have b:=Ao h l[j] (bw s);have m:=A.2 j l[j] u (ap s) (by rw[ap z,e]);generalize l[j]=g at b m;cases g with
 | ptr k o=>rw[m.2];rfl
 | mp k=>rw[m.2];rfl
 | osl k =>
  rw[m.2];unfold Zat at b;dsimp only at b;split at b
  .next c e sz hr =>
   obtain⟨-,rs,p,-⟩:=hH.each k _ hr;rcases p.2 with⟨e,-⟩ | ⟨g,cap,cur,e,-⟩<;>rw[e]<;>rfl
  .next c e sz hr =>
   obtain⟨-,rs,p,-⟩:=hH.each k _ hr;rcases p.2 with⟨e,-⟩ | ⟨g,q,cap,cur,e,-⟩<;>rw[e]<;>rfl
  .cases b
 | osv k sz' lo hi =>
  rw[m.2.2];unfold Zat at b;dsimp only at b;split at b
  .next c e sz hr =>
   obtain⟨-,rs,p,-⟩:=hH.each k _ hr;rcases p.2 with⟨e,-⟩ | ⟨g,cap,cur,e,-⟩<;>rw[e]<;>rfl
  .next c e sz hr =>
   obtain⟨-,rs,p,-⟩:=hH.each k _ hr;rcases p.2 with⟨e,-⟩ | ⟨g,q,cap,cur,e,-⟩<;>rw[e]<;>rfl
  .cases b
 | v x=>exact Lt (I:=I) m b
 | tt=>exact Lt (I:=I) m b
 | ff=>exact Lt (I:=I) m b
 | nl=>exact Lt (I:=I) m b
 | sl l=>exact Lt (I:=I) m b
 | _=>cases b
theorem Z75 {K1:List G->Prop}(h:Zc3 g K1)(b:TRep I V g y):∃l cs,K1 l/\y=.agg cs.toArray/\PW (CRep I V) l cs:=by
 cases g with
 | agg l =>
  cases(show VRep I (.agg l) y from b) with
  | agg l cs hl hh=>exact⟨l,cs,h,rfl,hl,λj g u c m=>.of_v (hh j g u c m)⟩
 | oag l =>
  obtain⟨cs,rfl,p⟩:=(show TRep1 I V (.oag l) y from b);exact⟨l,cs,h,rfl,p⟩
 | _=>exact False.elim h
variable (hT:∀t i,look t tb=some i->TIok P t i) (hH:Has I V own w) (hK:Nxt N own0 I0 V0 w0 K next) (hL:Since own0 I0 V0 w0 own I V w) (ha:ARep N I V a t) (hd:∀i,o.dst=some i->i < N)
include hT ha
include hH in
theorem Sv {ty:TypeId}{x:Operand}{f:Nat}(W:o.op=.fieldAddr ty x f)(h:ev t own x λg=>match look ty tb with
  | none=>False
  | some i=>match nth i.flds f with
   | none=>False
   | some (_,fo)=>match g with
    | .ptr k off=>K (put o.dst (.ptr k (Nat.add off fo)) t) own V.n
    | .elp row off=>K (put o.dst (.elp row (Nat.add off fo)) t) own V.n
    | .oel k j sz off=>K (put o.dst (.oel k j sz (Nat.add off fo)) t) own V.n
    | _=>False):QOk S P I V own w a t o K:=by
 obtain⟨g,s,D⟩:=B7 h ha hH;cases hl:look ty tb with
 | none=>rw[hl] at s;exact s.elim
 | some i =>
  rw[hl] at s;dsimp only at s;rw[Ea] at s;cases hf:i.flds[f]? with
  | none=>rw[hf] at s;exact s.elim
  | some p =>
   obtain⟨Z,fo⟩:=p;rw[hf] at s;dsimp only at s;obtain⟨F,O,J,M⟩:=(hT ty i hl).flds (λe=>by rw[e] at hf;simp at hf);rw[<-J,ax] at hf;obtain⟨H,B,C⟩:=bg.1 hf;injection C with e1 e2;obtain⟨m,Y⟩:=M H (ar B);have E:F[f]?=some H:=by simpa using B
   have run:∀b off,a.eval x=.pointer (some ⟨b,off,none⟩)->∀u:World,(execOp a.eval o).run P u=.ok (.value (.pointer (some ⟨b,off+fo,none⟩))) u:=λb off T u=>by simp only[execOp,W,Instr.fieldAt,Sem.run_bind,run_underlying O,T,Instr.sureAddr,fieldPlace,Result.andThen_ok,Sem.run_pure,E,Bt Y,Cv,e2];simp
   cases g with
   | ptr k off =>
    obtain⟨z,A⟩:=C9 D;exact⟨_,_,s,(.of_c (g:=.ptr k (off+fo)) ⟨z,rfl⟩),λu _=>run _ _ A u⟩
   | elp row off =>
    obtain⟨b,q,z,A⟩:=Qb D;exact⟨_,_,s,(.of_1 (g:=.elp row (off+fo)) ⟨b,q,by rw[de],A⟩),λu _=>run _ _ z u⟩
   | oel k j sz off =>
    obtain⟨X,b,q,n,c,z,A⟩:=Lf D;exact⟨_,_,s,(.of_1 (g:=.oel k j sz (off+fo)) ⟨X,b,q,n,c,z,by rw[de,de]⟩),λu _=>run _ _ A u⟩
   | _=>exact s.elim
include hH in
theorem Z9f {ty:TypeId}{x:Operand}{f:Nat}(O:o.op=.field ty x f)(h:ev t own x λg=>Zc3 g λcs=>match look ty tb with
  | none=>False
  | some i=>match nth i.flds f with
   | none=>False
   | some (m,fo)=>match look m tb with
    | none=>False
    | some j=>match j.agg with
     | true=>seg cs fo j.zero.length λl=>Hu j.zero.length l λg=>K (put o.dst g t) own V.n
     | false=>match nth cs fo with
      | some g=>K (put o.dst g t) own V.n
      | none=>False):QOk S P I V own w a t o K:=by
 obtain⟨g,b,M⟩:=B7 h ha hH;obtain⟨cs,T,b,H,B⟩:=Z75 b M;cases hl:look ty tb with
 | none=>rw[hl] at b;exact b.elim
 | some i =>
  rw[hl] at b;dsimp only at b;rw[Ea] at b;cases hf:i.flds[f]? with
  | none=>rw[hf] at b;exact b.elim
  | some p =>
   obtain⟨m,fo⟩:=p;rw[hf] at b;dsimp only at b;cases hj:look m tb with
   | none=>rw[hj] at b;exact b.elim
   | some j =>
    rw[hj] at b;dsimp only at b;have c:=hT m j hj;obtain⟨F,D,C,hz⟩:=(hT ty i hl).flds (λe=>by rw[e] at hf;simp at hf);rw[<-C,ax] at hf;obtain⟨Y,A,s⟩:=bg.1 hf;injection s with e1 e2;have z:F[f]?=some Y:=by simpa using A
    have run:∀{u v},(part m T.toArray fo).run P u=.ok v u->(execOp a.eval o).run P u=.ok (.value v) u:=λhr=>by simp only[execOp,O,Instr.field,Sem.run_bind,run_underlying D,H,Result.andThen_ok,Sem.run_pure,z,asAgg,e1,e2,hr]
    cases hb:j.agg with
    | true =>
     rw[hb] at b;obtain⟨l,J,Z,-⟩:=Lm b B;obtain⟨X,E,W⟩:=Iw J Z;exact⟨_,_,E,W,λu _=>run (by rw[Ld c,hb];rfl)⟩
    | false =>
     rw[hb,Ea] at b;dsimp only at b;cases hc:cs[fo]? with
     | none=>rw[hc] at b;exact b.elim
     | some X =>
      rw[hc] at b;obtain⟨v,hv,q⟩:=B.get hc;exact⟨_,_,b,.of_c q,λu _=>run (by rw[Ld c,hb,hv];rfl)⟩
include hK hL hd in
theorem Z4j {bv:Bool}{ty:TypeId}{x z:Operand}(ho:o.op=.store ty x z)(h:ev t own x λg=>ev t own z λu=>G9 own u λcs=>match look ty tb with
  | some i=>Zbx i.zero.length own cs (match g with
   | .ptr k off=>match look k own with
    | some (.blk cells ty')=>ovr i.zero.length cells off cs λB=>K (put o.dst .un t) ((k,.blk B ty')::own) V.n
    | some (.lnk j)=>match bv,look j own,cs with
     | false,some (.slc A e 1),[c]=>Eu (off < A.length/\Nm c=true) (K (put o.dst .un t) ((j,.slc (A.set off [c]) e 1)::own) V.n)
     | _,_,_=>False
    | _=>False
   | .oel k j sz off=>match look k own with
    | some (.slc A e sz')=>match Nat.beq sz sz' with
     | true=>Zfp i.zero.length own cs λcs=>Zed i.zero.length cs (EvSet A j (λrow k=>ovr i.zero.length row off cs k) λE=>K (put o.dst .un t) ((k,.slc E e sz)::own) V.n)
     | _=>False
    | _=>False
   | _=>False)
  | none=>False):o.wp P a w next Q:=by
 obtain⟨g,p,hg⟩:=B7 h ha hL.has;obtain⟨u,p,Z⟩:=B7 p ha hL.has;obtain⟨cs,p,J,-⟩:=He p Z hL.has;obtain⟨ds,hds⟩:∃ds,(a.eval z).cells.toList=ds:=⟨_,rfl⟩;rw[hds] at J;cases hl:look ty tb with
 | none=>rw[hl] at p;exact p.elim
 | some i =>
  rw[hl] at p;dsimp only at p;obtain⟨h1,hcl0,hcn,hk2,hbp⟩:=Z0h p;clear p;have p:=hk2;clear hk2;have M:=Z7a hL.has h1 J;have hdn:ds≠[]:=λe=>by have:=J.1;rw[e] at this;exact hcn (ay (by simpa using this))
  have hlen:ds.length=i.zero.length:=J.1.symm.trans hcl0;have hsz:=(hT ty i hl).size;have run:∀{w'},(Instr.storeAt ty (a.eval x) (a.eval z)).run P w=.ok () w'->(execOp a.eval o).run P w=.ok .skip w':=λhr=>by simp only[execOp,ho,Sem.run_bind,hr,Result.andThen_ok,Sem.run_pure]
  have main:∀{cs:List G} {k j sz off e:Nat} {A:List (List G)},PW (CRep I V) cs ds->look k own=some (.slc A e sz)->(∃b n c,V.s k=.slice (some ⟨b,0,none⟩) n c/\a.eval x=.pointer (some ⟨b,j * sz+off,none⟩))->Bp G.pure cs=true->EvSet A j (λrow k=>ovr i.zero.length row off cs k) (λE=>K (put o.dst .un t) ((k,.slc E e sz)::own) V.n)->o.wp P a w next Q:=λ{cs k j sz off e A} J hr ⟨b,n,c,hs,Y⟩ F p=>by
   obtain⟨hlt,p⟩:=p;obtain⟨rs,W,hg1,h2,h3,h4,h5,hn,hnc,hcm,hcs,ht,-⟩:=S3 hL.has hr hs;have hj:j < A.length:=by omega
   have H:j < rs.length:=by omega
   have hpv:PW (VRep I) cs ds:=⟨J.1,λm g u h1 h2=>(J.2 m g u h1 h2).to_v (Ao F g (ar h1))⟩;obtain⟨row',k1,k2,k3⟩:=Rj (p A[j] (by simp)) (h3 j _ _ (ap hj) (ap H)) hpv;have Z:=h4 rs[j] (bw H);have k3:=k3 hdn;rw[Z] at k3;have hjn:j * sz+sz<=n * sz:=by rw[<-Nat.succ_mul];exact Nat.mul_le_mul_right _ (by omega)
   have hnn:n * sz<=c * sz:=Nat.mul_le_mul_right _ hnc;have O:=If (P:=P) (w:=w) (off:=j * sz+off) hsz hds hlen hg1 (by omega) M;have hfl:=Ut h4 (ap H) off ds k3;have hfln:=Bq h4;have D:∀u∈rs.set j (rs[j].take off++ds++rs[j].drop (off+ds.length)),u.length=sz/\∀x∈u,x.oneCell'=true:=λu C=>by
    rcases cy C with h | rfl
    .exact⟨h4 u h,h5 u h⟩
    .refine⟨by simp;omega,λx T=>?_⟩;rcases ce.1 T with T | T
     .rcases ce.1 T with T | T
      .exact h5 _ (bw H) x (bn T)
      .exact M x T
     .exact h5 _ (bw H) x (ck T)
   refine Pg hK hL ha hd (run (by rw[Y];exact O)) (Dm (w':=w.setRow b _) (r:=.slc (A.set j row') e sz) hL.has hr rfl rfl rfl (by simp[World.setRow]) (λb' hb'=>setRow_other w _ b' _ (λe=>hb' (((hL.has.each k _ hr).1 b').2 (by rw[hs,e];rfl)))) ⟨(hL.has.each k _ hr).1,rs.set j (rs[j].take off++ds++rs[j].drop (off+ds.length)),⟨?_,.inr ⟨b,c,_,by rw[hs,hn];simp,av _,setRow_heap w _ W _ e _ hg1,by simp;omega,hcm,?_,?_⟩⟩,by simp[h2],?_,λu Z=>(D u Z).1,λu Z=>(D u Z).2,(hL.has.each k _ hr).2.choose_spec.2.2.2.2.2⟩) k1
   .rw[Bq λu Z=>(D u Z).1];simp[h2]
   .simp;omega
   .rw[hfl];simp only[List.length_set,<-hn];rw[<-ht];have hcl:W.toList.length=c * sz:=by simpa using hcs
    simp only[List.take_append,List.take_take,List.drop_take,List.length_take,List.length_append];rw[Nat.min_eq_right (by omega:j * sz+off<=n * sz),ct (by omega:j * sz+off<=n * sz),ct (by omega:j * sz+off<=W.toList.length),ba (by omega:ds.length<=n * sz - (j * sz+off))]
   .intro i r u X C;rw[cx] at X C;split at X
    .next e' =>
     subst e';rw[dt rfl,dt H] at C;cases X;cases C;exact k2
    .next e' =>
     rw[dq e'] at C;exact h3 i r u X C
  cases g with
  | ptr k off =>
   obtain⟨hkn,Y⟩:=C9 hg;dsimp only at p;cases hr:look k own with
   | none=>rw[hr] at p;exact p.elim
   | some r =>
    rw[hr] at p;cases r with
    | blk cells ty' =>
     obtain⟨us,k1,k2,-⟩:=Oi hL.has hr;obtain⟨B,k3,k4,k5⟩:=Rj p k2 J;have O:=If (P:=P) (w:=w) hsz hds hlen k1 (k5 hdn:off+ds.length<=us.length) M;refine Pg hK hL ha hd (run (by rw[Y];exact O)) (Dm (w':=w.setRow (V.b k) _) (r:=.blk B ty') hL.has hr rfl rfl rfl (by simp[World.setRow]) (λb hb=>setRow_other w _ b _ (λe=>hb (((hL.has.each k _ hr).1 b).2 e))) ⟨(hL.has.each k _ hr).1,_,setRow_heap w _ us.toArray _ ty' _ k1,k4⟩) k3
    | lnk j =>
     obtain⟨-,hjn,m,hsj⟩:=hL.has.each k _ hr;dsimp only at p;cases bv with
     | true=>exact p.elim
     | false =>
     cases hrj:look j own with
     | none=>rw[hrj] at p;exact p.elim
     | some rj =>
      rw[hrj] at p;cases rj with
      | slc A e sz =>
       cases sz with
       | zero=>exact p.elim
       | succ sz =>
       cases sz with
       | succ sz=>exact p.elim
       | zero =>
       have lnkk:∀c,cs=[c]->Eu (off < A.length/\Nm c=true) (K (put o.dst .un t) ((j,.slc (A.set off [c]) e 1)::own) V.n)->o.wp P a w next Q:=λc hc1 p=>by
        obtain⟨⟨hfit,hc⟩,p⟩:=p;have hn1:i.zero.length=1:=by rw[<-hcl0,hc1];rfl
        obtain⟨rs,W,-,h2,h3,h4,-⟩:=S3 hL.has hrj hsj;refine main (j:=off) (off:=0) J hrj ⟨_,_,_,hsj,by rw[Y];simp⟩ (Fu λg hg=>by rw[hc1,bx] at hg;rw[hg];exact Mg hc) ⟨hfit,λr hr2=>?_⟩;have hlr:r.length=1:=by
         have hlt:off < rs.length:=by omega
         have:=(h3 off r rs[off] hr2 (ap hlt)).1;rw[this];exact h4 _ (bw hlt)
        obtain⟨y,rfl⟩:=List.length_eq_one_iff.1 hlr;rw[hn1,hc1];exact p
       match cs,p with
       | [c],p=>exact lnkk c rfl p
       | [],p=>exact p.elim
       | _::_::_,p=>exact p.elim
      | _=>exact p.elim
    | _=>exact p.elim
  | oel k j sz off =>
   obtain⟨hkn,b,q,n,c,hs,Y⟩:=Lf hg;dsimp only at p;cases hr:look k own with
   | none=>rw[hr] at p;exact p.elim
   | some r =>
    rw[hr] at p;cases r with
    | slc A e sz' =>
     obtain rfl:=Z4v hL.has hr hs;rw[cp] at Y;dsimp only at p;cases hb:Nat.beq sz sz' with
     | false=>rw[hb] at p;exact p.elim
     | true =>
      rw[hb] at p;have:=aw hb;subst this;unfold Zfp at p;cases hbn:U5 i.zero.length with
      | true =>
       rw[hbn] at p;obtain⟨F,p⟩:=U1 p hbp;exact main J hr ⟨b,n,c,hs,Y⟩ F p
      | false =>
       rw[hbn] at p;have hnb:∀{cs:List G},U5 i.zero.length=true->Bp G.pure cs=true:=λh=>by rw[hbn] at h;cases h
       dsimp only at p;split at p
       .next kp op =>
        obtain⟨b2,j2,hj2,p⟩:=Ok p;obtain⟨F,p⟩:=U1 p hnb;refine main ?_ hr ⟨b,n,c,hs,Y⟩ F p;obtain⟨v,vs,rfl,hv,hn⟩:=J.uncons;obtain⟨hkn2,rfl⟩:=(show kp < V.n/\v=.pointer (some ⟨V.b kp,op,none⟩) from hv);obtain⟨-,-,hb2⟩:=hL.has.each j2 _ hj2;rw[hb2];exact .cons (VRep.v _) hn
       .obtain⟨F,p⟩:=U1 p hnb;exact main (Zgw J) hr ⟨b,n,c,hs,Y⟩ F p
    | _=>exact p.elim
  | _=>exact p.elim
end
section
variable {P:Program} {tb:List (Nat × TI)} {N n:Nat} {I I' I0:Imm} {V V' V0:Va} {a:Act} {t:Ts} {own own' own0:Os} {w w' w0:World} {g:G} {y:Value} {d:Option Tmp}
variable {XL:List Nat} {S:World->Prop} {K:Ts->Os->Nat->Prop} {next:Act->World->Prop} {Q:Exit->Act->World->Prop} {o:Oper}
theorem F5 {ty e:TypeId}(h:P.underlying ty=some (.pointer e))(b:Option Addr)(u:World):(Op.equal ty (.pointer b) (.pointer none)).run P u=.ok b.isNone u/\(Op.equal ty (.pointer none) (.pointer b)).run P u=.ok b.isNone u:=by
 have c:∀d,(Op.equalIn (d+1) ty (.pointer b) (.pointer none)).run P u=.ok b.isNone u/\(Op.equalIn (d+1) ty (.pointer none) (.pointer b)).run P u=.ok b.isNone u:=λd=>by cases b<;>simp[Op.equalIn,run_underlying h]
 exact c 9999
theorem Z0s {m:TypeId}{op:BinOp}{b:Bool}{x z:Value}{K1:G->Prop}(hT:∀t i,look t tb=some i->TIok P t i)(h:Zc8 tb m op b K1)(E:∃p,x=.pointer p)(D:∃p,z=.pointer p)(c:∀e,P.underlying m=some (.pointer e)->∀u:World,(Op.equal m x z).run P u=.ok b u):∃g v,K1 g/\TRep I V g v/\∀(w:World) (s A:Operand),(eqGuard op m s A x z).run P w=.ok () w/\(binOp op m x z).run P w=.ok v w:=by
 obtain⟨p,rfl⟩:=E;obtain⟨q,rfl⟩:=D;unfold Zc8 Qi at h;cases hl:look m tb with
 | none=>rw[hl] at h;exact h.elim
 | some i =>
  rw[hl] at h;have B:=(hT _ _ hl).kd;dsimp only at h;split at h
  .next j =>
   rw[j] at B;obtain⟨e,C⟩:=B;have c:=c e C;cases b with
   | true=>exact⟨_,_,h,.of_v .tt,λw s A=>⟨by simp[eqGuard],by simp only[binOp];simp[c w]⟩⟩
   | false=>exact⟨_,_,h,.of_v .ff,λw s A=>⟨by simp[eqGuard],by simp only[binOp];simp[c w]⟩⟩
  .next j =>
   rw[j] at B;obtain⟨e,C⟩:=B;have c:=c e C;cases b with
   | true=>exact⟨_,_,h,.of_v .ff,λw s A=>⟨by simp[eqGuard],by simp only[binOp];simp[c w]⟩⟩
   | false=>exact⟨_,_,h,.of_v .tt,λw s A=>⟨by simp[eqGuard],by simp only[binOp];simp[c w]⟩⟩
  .exact h.elim
theorem Vh {g:G}{K1:Bool->Prop}(h:Z68 g K1)(c:TRep I V g y):∃b,K1 b/\y=.bool b:=by
 unfold Z68 at h;split at h
 .cases(show VRep I .tt y from c);exact⟨_,h,rfl⟩
 .cases(show VRep I .ff y from c);exact⟨_,h,rfl⟩
 .cases(show VRep I (.v _) y from c);exact⟨_,h,rfl⟩
 .exact h.elim
theorem Zd2 (hT:∀t i,look t tb=some i->TIok P t i){J:TypeId}{op:BinOp}{p q:G}{x z:Value}{K1:G->Prop}(h:Zei P tb J op p q K1)(E:TRep I V p x)(D:TRep I V q z):∃g v,K1 g/\TRep I V g v/\∀(w:World) (A B:Operand),(eqGuard op J A B x z).run P w=.ok () w/\(binOp op J x z).run P w=.ok v w:=by
 unfold Zei at h;split at h
 .next i j =>
  have c:=B0 E;have s:=B0 D;subst c s;cases op<;>dsimp only at h<;>first
   | exact h.elim
   | (have F:=EvRng.rng h;have C:=EvRng.next h;exact⟨_,_,C,.of_v (.v _),λw A B=>⟨by simp[eqGuard],by simp[binOp,Op.intArith,IntWalk.i64_in _ F]⟩⟩)
   | (have W:=EvDiv.ne h;have F:=EvRng.rng (EvDiv.next h);have C:=EvRng.next (EvDiv.next h);exact⟨_,_,C,.of_v (.v _),λw A B=>⟨by simp[eqGuard],by simp[binOp,Op.intDiv,W,IntWalk.i64_in _ F]⟩⟩)
   | (have W:=EvDiv.ne h;have C:=EvDiv.next h;exact⟨_,_,C,.of_v (.v _),λw A B=>⟨by simp[eqGuard],by simp[binOp,Op.intDiv,W]⟩⟩)
   | exact⟨_,_,h,.of_v (.v _),λw A B=>⟨by simp[eqGuard],rfl⟩⟩
   | exact⟨_,_,h,.of_v (.v _),λw A B=>⟨by simp[eqGuard],by simp[binOp,Op.intCmp]⟩⟩
 .next i j =>
  have c:=B0 E;have s:=B0 D;subst c s;cases op<;>dsimp only at h<;>first
   | exact h.elim
   | (have F:=h.nn;have C:=h.next;exact⟨_,_,C,.of_v (.v _),λw A B=>⟨by simp[eqGuard],by simp[binOp,Op.shift,Int.not_lt.2 F,IntKind.bits]⟩⟩)
 .next i j =>
  have c:=B0 E;have s:=B0 D;subst c s;cases op<;>dsimp only at h<;>first
   | exact h.elim
   | exact⟨_,_,h,.of_v (.v _),λw A B=>⟨by simp[eqGuard],by simp[binOp,Op.intCmp]⟩⟩
 .next i j =>
  have c:=B0 E;have s:=B0 D;subst c s;cases op<;>dsimp only at h<;>first
   | exact h.elim
   | (have F:=h.nn;have C:=h.next;exact⟨_,_,C,.of_v (.v _),λw A B=>⟨by simp[eqGuard],by simp[binOp,Op.shift,Int.not_lt.2 F,IntKind.bits]⟩⟩)
   | (have W:=EvDiv.ne h;have C:=EvDiv.next h;exact⟨_,_,C,.of_v (.v _),λw A B=>⟨by simp[eqGuard],by simp[binOp,Op.intDiv,W]⟩⟩)
   | exact⟨_,_,h,.of_v (.v _),λw A B=>⟨by simp[eqGuard],by first | rfl | simp[binOp,Op.intCmp,Op.intArith]⟩⟩
 .next i q j =>
  have c:=B0 E;have s:=B0 D;subst c s;cases op<;>dsimp only at h<;>first
   | exact h.elim
   | (have F:=h.nn;have C:=h.next;exact⟨_,_,C,.of_v (.v _),λw A B=>⟨by simp[eqGuard],by simp[binOp,Op.shift,Int.not_lt.2 F,IntKind.bits]⟩⟩)
 .next i j =>
  have c:=B0 E;have s:=B0 D;subst c s;cases op<;>dsimp only at h<;>first
   | exact h.elim
   | (obtain⟨F,C⟩:=h;exact⟨_,_,C,.of_v (.v _),λw A B=>⟨by simp[eqGuard],by simp[binOp,Op.stringOp,IntKind.max,IntKind.bits,IntKind.signed];omega⟩⟩)
   | exact⟨_,_,h,.of_v (.v _),λw A B=>⟨by simp[eqGuard],by simp[binOp,Op.stringOp]⟩⟩
 .next l m =>
  have key:∀{cs ds:List Value},Rk l cs->Rk m ds->x=.agg cs.toArray/\z=.agg ds.toArray:=λ{cs ds} H hd=>by
   have one:∀{l:List G} {cs:List Value} {x:Value},Rk l cs->TRep I V (.agg l) x->x=.agg cs.toArray:=λ{l cs x} H hx=>by
    cases(show VRep I (.agg l) x from hx) with
    | agg l us hl hh =>
     unfold Rk at H;subst H
     congr 2
     apply cz;intro j;by_cases X:j < cs.length
     .have T:j < us.length:=by simpa [<-hl] using X
      have:=hh j (.v cs[j]) us[j] (by simp[X]) (ap T);rw[ap X,ap T];generalize us[j]=u at this;cases this;rfl
     .rw[cn (by simp at hl;omega),cn (by omega)]
   exact⟨one H E,one hd D⟩
  cases op<;>dsimp only at h<;>first
   | exact h.elim
   | (obtain⟨cs,ds,b,H,hd,hg,Z,O⟩:=h
      obtain⟨rfl,rfl⟩:=key H hd;exact⟨_,_,O,.of_v (.v _),λw A B=>⟨run_eqGuard_agg _ _ _ _ _ _ _ hg,by first | (rw[run_eql_struct];rw[Z w];rfl) | (rw[run_neq_struct];rw[Z w];rfl)⟩⟩)
 .next i j =>
  have c:=B0 E;have s:=B0 D;subst c s;cases op<;>dsimp only at h<;>first
   | exact h.elim
   | exact⟨_,_,h,.of_v (.v _),λw A B=>⟨by simp[eqGuard],by simp[binOp,Op.intArith,Op.intCmp]⟩⟩
 .next k o =>
  obtain⟨-,c⟩:=C9 E;have s:=B0 D;subst c s;exact Z0s hT h ⟨_,rfl⟩ ⟨_,rfl⟩ λe M u=>(F5 M _ u).1
 .next k o =>
  obtain⟨-,c⟩:=C9 D;have s:=B0 E;subst c s;exact Z0s hT h ⟨_,rfl⟩ ⟨_,rfl⟩ λe M u=>(F5 M _ u).2
 .have c:=B0 E;have s:=B0 D;subst c s;exact Z0s hT h ⟨_,rfl⟩ ⟨_,rfl⟩ λe M u=>(F5 M _ u).1
 .unfold Qi at h;cases hl:look J tb with
  | none=>rw[hl] at h;exact h.elim
  | some i =>
   rw[hl] at h;dsimp only at h;have O:=(hT _ _ hl).kd;split at h
   .next Y =>
    rw[Y] at O;obtain⟨a,h,rfl⟩:=Vh h E;obtain⟨b,h,rfl⟩:=Vh h D;split at h
    .exact⟨_,_,h,.of_v (.v _),λw A B=>⟨by simp[eqGuard],run_eql_bool w J a b O⟩⟩
    .exact⟨_,_,h,.of_v (.v _),λw A B=>⟨by simp[eqGuard],run_neq_bool w J a b O⟩⟩
    .exact h.elim
   .exact h.elim
theorem Zdl {p:G}{x:Value}{K1:G->Prop}(h:Zem p K1)(b:TRep I V p x):∃g v,K1 g/\TRep I V g v/\∀w:World,(Op.unary .not x).run P w=.ok v w:=by
 unfold Zem at h;split at h
 .cases(show VRep I .tt x from b);exact⟨_,_,h,.of_v .ff,λw=>by simp[Op.unary]⟩
 .cases(show VRep I .ff x from b);exact⟨_,_,h,.of_v .tt,λw=>by simp[Op.unary]⟩
 .have e:=B0 b;subst e;exact⟨_,_,h,.of_v (.v _),λw=>by simp[Op.unary]⟩
 .exact h.elim
variable (hT:∀t i,look t tb=some i->TIok P t i) (hH:Has I V own w) (ha:ARep N I V a t)
include hH ha
theorem Zfa {ty:TypeId}{x:Operand}(m:o.op=.unOp .not ty x)(h:ev t own x λg=>Zem g λg=>K (put o.dst g t) own V.n):QOk S P I V own w a t o K:=by obtain⟨g,c,j⟩:=B7 h ha hH;obtain⟨r,v,c,hr,b⟩:=Zdl (P:=P) c j;exact⟨_,_,c,hr,λu _=>by simp only[execOp,m,Sem.run_bind,b,Result.andThen_ok,Sem.run_pure]⟩
theorem Z28 {x:Operand}{i:Nat}(s:o.op=.extract x i)(h:ev t own x λg=>match g with
  | .tup l=>match nth l i with
   | some g=>K (put o.dst g t) own V.n
   | none=>False
  | _=>False):QOk S P I V own w a t o K:=by
 obtain⟨g,b,q⟩:=B7 h ha hH;cases g with
 | tup l =>
  obtain⟨cs,p,j⟩:=(show ∃cs:List Value,a.eval x=.tuple cs.toArray/\PW (TRep1 I V) l cs from q);dsimp only at b;rw[Ea] at b;cases hl:l[i]? with
  | none=>rw[hl] at b;exact b.elim
  | some g' =>
   rw[hl] at b;obtain⟨v,m,c⟩:=j.get hl;exact⟨_,_,b,.of_1 c,λu _=>by simp[execOp,s,p,Instr.extract,m]⟩
 | _=>exact b.elim
include hT
theorem Ul {ty:TypeId}{x i:Operand}(ho:o.op=.indexAddr ty x i)(h:ev t own x λg=>ev t own i λq=>match q,look ty tb with
  | .v (.int .i64 j),some ⟨_,_,some (_,sz),_,_,_,_⟩=>match g with
   | .sl B=>EvIdx B j λrow=>match Nat.beq row.length sz with
    | true=>K (put o.dst (.elp row 0) t) own V.n
    | false=>False
   | .osl k=>match look k own with
    | some (.slc B _ sz')=>match Nat.beq sz' sz with
     | true=>(0<=j/\j < B.length)/\K (put o.dst (.oel k j.toNat sz 0) t) own V.n
     | false=>False
    | some (.vw B _ sz')=>match Nat.beq sz' sz with
     | true=>(0<=j/\j < B.length)/\K (put o.dst (.oel k j.toNat sz 0) t) own V.n
     | false=>False
    | _=>False
   | .osv k F lo hi=>match look k own with
    | some (.slc _ _ sz')=>match Nat.beq sz' sz,Nat.beq F sz with
     | true,true=>(0<=j/\j < (hi - lo:Nat))/\K (put o.dst (.oel k (lo+j.toNat) sz 0) t) own V.n
     | _,_=>False
    | _=>False
   | .orv k 0 0 off len _=>(0<=j/\j < len)/\K (put o.dst (.ptr k (Nat.add off (Nat.mul j.toNat sz))) t) own V.n
   | _=>False
  | .v (.int .i64 j),some ⟨_,_,none,_,_,_,.arr m _ sz⟩=>match g with
   | .ptr k off=>(0<=j/\j < m)/\K (put o.dst (.ptr k (Nat.add off (Nat.mul j.toNat sz))) t) own V.n
   | .elp row off=>(0<=j/\j < m)/\K (put o.dst (.elp row (Nat.add off (Nat.mul j.toNat sz))) t) own V.n
   | _=>False
  | _,_=>False):QOk S P I V own w a t o K:=by
 obtain⟨g,hk1,Y⟩:=B7 h ha hH;obtain⟨q,p,hq⟩:=B7 hk1 ha hH;clear h hk1;split at p
 .next j ag ze e sz fl st ik kd hl =>
  have hi:=hT _ _ hl;obtain⟨hu,i',z,h1,h2,h3,-⟩:=hi.elem e sz rfl;have O:∀w,(sizeOf e).run P w=.ok sz w:=Bt (by rw[h1];simp[h3]);have e2:=B0 hq;have run:∀A n c,a.eval x=.slice (some A) n c->0<=j/\j < n->∀u,(execOp a.eval o).run P u=.ok (.value (.pointer (some (A.add (j.toNat * sz))))) u:=λA n c E hj u=>by simp only[execOp,ho,Instr.indexAt,Sem.run_bind,E,e2,asIntOf,Sem.run_pure,Result.andThen_ok,run_underlying hu,hj,and_self,if_true,O]
  split at p
  .next B =>
   obtain⟨⟨W,Z⟩,hk0⟩:=p;have T:j.toNat < B.length:=by omega
   have p:=hk0 _ (ap T);clear hk0;have hx:=(show VRep I (.sl B) (a.eval x) from Y);generalize hax:a.eval x=X at hx;cases hx with
   | sl _ A c F u hc hA hz hh huu =>
    split at p
    .next D =>
     have D:=aw D;obtain⟨b,q0,rfl,hI⟩:=hh j.toNat _ (ap T);have hs:F=sz:=(hz _ (bw T)).symm.trans D;subst hs;refine⟨_,_,p,(.of_1 (g:=.elp _ 0) ⟨b,q0+j.toNat * F,by rw[Cv];rfl,λm g hm=>⟨u j.toNat m,hI m (by have:=(aq.1 hm).1;omega),huu j.toNat _ m g (ap T) hm⟩⟩),λu _=>run _ _ _ hax ⟨W,Z⟩ u⟩
    .exact p.elim
  .next k =>
   cases hr:look k own with
   | none=>rw[hr] at p;exact p.elim
   | some r =>
    rw[hr] at p;cases r with
    | slc B e' sz' =>
     dsimp only at p;split at p
     .next D =>
      have D:=aw D;subst D;obtain⟨⟨W,Z⟩,p⟩:=p;obtain⟨C,E⟩:=(show k < V.n/\a.eval x=V.s k from Y);obtain⟨-,rs,⟨-,h6⟩,-⟩:=hH.each k _ hr;rcases h6 with⟨-,H⟩ | ⟨b,cap,cur,H,-⟩
      .omega
      .exact⟨_,_,p,(.of_1 (g:=.oel k j.toNat sz' 0) ⟨C,b,0,_,cap,H,by rw[Cv];simp⟩),λu _=>run _ _ _ (E.trans H) ⟨W,Z⟩ u⟩
     .exact p.elim
    | vw B e' sz' =>
     dsimp only at p;split at p
     .next D =>
      have D:=aw D;subst D;obtain⟨⟨W,Z⟩,p⟩:=p;obtain⟨C,E⟩:=(show k < V.n/\a.eval x=V.s k from Y);obtain⟨-,rs,⟨-,h6⟩,-⟩:=hH.each k _ hr;rcases h6 with⟨-,H⟩ | ⟨b,q,cap,cur,H,-⟩
      .omega
      .exact⟨_,_,p,(.of_1 (g:=.oel k j.toNat sz' 0) ⟨C,b,q,_,cap,H,by rw[Cv];simp⟩),λu _=>run _ _ _ (E.trans H) ⟨W,Z⟩ u⟩
     .exact p.elim
    | _=>exact p.elim
  .next k F lo J =>
   cases hr:look k own with
   | none=>rw[hr] at p;exact p.elim
   | some r =>
    rw[hr] at p;cases r with
    | slc B e' sz' =>
     dsimp only at p;split at p
     .next D hb2 =>
      have D:=aw D;have hb2:=aw hb2;subst D hb2;obtain⟨⟨W,Z⟩,p⟩:=p;obtain⟨C,⟨hl1,M⟩,E⟩:=(show k < V.n/\(lo<=J/\J<=N6 (V.s k))/\a.eval x=L6 _ (V.s k) lo J from Y);obtain⟨-,rs,⟨-,h6⟩,-⟩:=hH.each k _ hr;rcases h6 with⟨H,h8⟩ | ⟨b,cap,cur,H,-,-,h9,-⟩
      .rw[H] at M;have M:J<=0:=M;omega
      .have M:J<=B.length:=by rw[H] at M;exact M
       have e3:a.eval x=.slice (some ((⟨b,0,none⟩:Addr).add (lo * F))) (J - lo) (cap - lo):=by rw[E,H];unfold L6;dsimp only;rw[dq (by omega)];rfl
       refine⟨_,_,p,(.of_1 (g:=.oel k (lo+j.toNat) F 0) ⟨C,b,0,_,cap,H,?_⟩),λu _=>run _ _ _ e3 ⟨W,Z⟩ u⟩;rw[Cv,Cv,Nat.add_mul];simp
     .exact p.elim
    | _=>exact p.elim
  .next k off len cap =>
   obtain⟨hj,p⟩:=p;obtain⟨C,b,q,D,E⟩:=(show TRep1 I V (.orv k 0 0 off len cap) (a.eval x) from Y);obtain⟨D,hq0⟩:=(show b=V.b k/\q=0 from D);subst D hq0;have E:a.eval x=.slice (some ⟨V.b k,off,none⟩) len cap:=by rw[E];simp
   exact⟨_,_,p,⟨C,rfl⟩,λu _=>by rw[run _ _ _ E hj u,Cv];rfl⟩
  .exact p.elim
 .next j ag ze st fl ik m e sz hl =>
  obtain⟨hu,O⟩:=(hT _ _ hl).kd;have O:∀w,(sizeOf e).run P w=.ok sz w:=Bt O;have e2:=B0 hq;have run:∀A,a.eval x=.pointer (some A)->0<=j/\j < m->∀u,(execOp a.eval o).run P u=.ok (.value (.pointer (some (A.add (j.toNat * sz))))) u:=λA E hj u=>by simp only[execOp,ho,Instr.indexAt,Instr.sureAddr,Sem.run_bind,E,e2,asIntOf,Sem.run_pure,Result.andThen_ok,run_underlying hu,hj,and_self,if_true,O]
  split at p
  .obtain⟨h1,p⟩:=p;obtain⟨C,E⟩:=C9 Y;exact⟨_,_,p,⟨C,rfl⟩,λu _=>by rw[run _ E h1 u,Cv];rfl⟩
  .obtain⟨h1,p⟩:=p;obtain⟨b,q,E,hrow⟩:=Qb Y;exact⟨_,_,p,⟨b,q,rfl,hrow⟩,λu _=>by rw[run _ E h1 u,Cv,de];rfl⟩
  .exact p.elim
 .exact p.elim
theorem Zac {ty:TypeId}{x i:Operand}(O:o.op=.index ty x i)(h:match look ty tb with
  | some ⟨_,_,_,_,true,_,_⟩=>ev t own x λg=>ev t own i λq=>match q,g with
   | .v (.int .i64 j),.v (.string s)=>EvIdx s.data.toList j λc=>K (put o.dst (.v (.int .u8 c.toNat)) t) own V.n
   | _,_=>False
  | some ⟨_,_,none,_,false,_,.arr m e sz⟩=>ev t own x λg=>Zc3 g λcs=>ev t own i λq=>match q,look e tb with
   | .v (.int .i64 j),some z=>(0<=j/\j < m)/\match z.agg with
    | true=>seg cs (Nat.mul j.toNat sz) z.zero.length λl=>Hu z.zero.length l λg=>K (put o.dst g t) own V.n
    | false=>match nth cs (Nat.mul j.toNat sz) with
     | some g=>K (put o.dst g t) own V.n
     | none=>False
   | _,_=>False
  | _=>False):QOk S P I V own w a t o K:=by
 split at h
 case h_3=>exact h.elim
 case h_2 m e sz hl =>
  obtain⟨hu,A⟩:=(hT _ _ hl).kd;have A:∀w,(sizeOf e).run P w=.ok sz w:=Bt A;obtain⟨g,p,D⟩:=B7 h ha hH;obtain⟨l,cs,p,he,T⟩:=Z75 p D;obtain⟨q,b,E⟩:=B7 p ha hH;split at b
  .next j z J =>
   have H:=B0 E;obtain⟨X,b⟩:=b;have M:=hT _ _ J;have run:∀{v:Value} {u:World},(part e cs.toArray (j.toNat * sz)).run P u=.ok v u->(execOp a.eval o).run P u=.ok (.value v) u:=λhr=>by simp only[execOp,O,Instr.index,Sem.run_bind,he,H,asIntOf,Sem.run_pure,Result.andThen_ok,run_underlying hu,X,and_self,if_true,A,hr]
   have b:match z.agg with
    | true=>seg l (j.toNat * sz) z.zero.length λl=>Hu z.zero.length l λg=>K (put o.dst g t) own V.n
    | false=>match nth l (j.toNat * sz) with
     | some g=>K (put o.dst g t) own V.n
     | none=>False:=b
   cases hb:z.agg with
   | true =>
    rw[hb] at b;obtain⟨l',k1,k2,-⟩:=Lm b T;obtain⟨g',Y,k4⟩:=Iw k1 k2;exact⟨_,_,Y,k4,λu _=>run (by rw[Ld M,hb];rfl)⟩
   | false =>
    rw[hb,Ea] at b;dsimp only at b;cases hc:l[j.toNat * sz]? with
    | none=>rw[hc] at b;exact b.elim
    | some g' =>
     rw[hc] at b;obtain⟨v,hv,F⟩:=T.get hc;exact⟨_,_,b,.of_c F,λu _=>run (by rw[Ld M,hb,hv];rfl)⟩
  .exact b.elim
 rename_i hl
 have C:=(hT _ _ hl).str rfl;obtain⟨g,p,D⟩:=B7 h ha hH;obtain⟨q,b,E⟩:=B7 p ha hH;clear h p;split at b
 .next j s =>
  have Z:=B0 D;have H:=B0 E;obtain⟨⟨W,h2⟩,b⟩:=b;have B:j.toNat < s.data.toList.length:=by omega
  have b:=b _ (ap B);have e3:s[j.toNat]?=some (s.data.toList[j.toNat]):=by
   have hs:j.toNat < s.size:=by simpa using B
   rw[getElem?_pos s j.toNat hs];rfl
  exact⟨_,_,b,.of_v (.v _),λu _=>by simp only[execOp,O,Instr.index,Sem.run_bind,Z,H,asIntOf,Sem.run_pure,Result.andThen_ok,run_underlying C,W,if_true,e3]⟩
 .exact b.elim
end
section
variable {P:Program} {tb:List (Nat × TI)} {N n:Nat} {I I' I0:Imm} {V V' V0:Va} {a:Act} {t:Ts} {own own' own0:Os} {w w' w0:World} {g:G} {x y:Value} {d:Option Tmp}
variable {K:Ts->Os->Nat->Prop} {next:Act->World->Prop} {Q:Exit->Act->World->Prop} {o:Oper}
theorem Kf (h:Has I V own w){k e sz:Nat}{c:List (List G)}(H:look k own=some (.slc c e sz)):∃I',Later own I V w ((k,.froz c sz)::own) I' (V.drop k) w/\VRep I' (.sl c) (V.s k)/\∀r∈c,r.length=sz:=by
 obtain⟨hf,rs,⟨h0,T⟩,W,O,M,h5,h6⟩:=h.each k _ H;have z:∀r∈c,r.length=sz:=λr hr=>by
  obtain⟨i,hi,e⟩:=cu.1 hr;have D:i < rs.length:=by omega
  have Z:=O i r rs[i] (by rw[ap hi,e]) (ap D);rw[Z.1];exact M _ (bw D)
 rcases T with⟨F,hr0⟩ | ⟨g,cap,cur,F,-,hg,hn,hm,hc,ht⟩
 .have hr:c=[]:=ay hr0;subst hr;have E:VRep I (.sl []) (V.s k):=by
   rw[F];exact .sl [] none 0 sz (λ_ _=>undef) (au _) (λ_=>rfl) (by simp) (λi r h=>by simp at h) (λi r j g h=>by simp at h)
  exact⟨I,Hk h H (.refl _) h.mem (λ_ _ _=>rfl) ⟨λb=>by simp[Va.drop],E,z⟩,E,z⟩
 .have B:V.f k g:=(hf g).2 (by rw[F];rfl);have J:=(h.foot k _ g H B).2;let I':Imm:=λb o=>if b=g then(if o < rs.flatten.length then rs.flatten[o]? else none) else I b o;have A:I.le I':=λb o x p=>by
   show(if b=g then _ else I b o)=_;rw[dq (λe=>by rw[e,J o] at p;cases p)];exact p
  have X:∀m x,rs.flatten[m]?=some x->I' g (0+m)=some x:=λm x p=>by show(if g=g then _ else _)=_;rw[dt rfl,cp,dt (aq.1 p).1,p]
  have C:Mem I' w:=λb o x p=>by
   change (if b=g then _ else I b o)=_ at p
   split at p
   .next e =>
    subst e;split at p
    .rw[cell_of_row w b o cur e (0,0) hg];have q:=p;rw[<-ht,br] at q;split at q
     .simpa using q
     .cases q
    .cases p
   .exact h.mem b o x p
  have E:VRep I' (.sl c) (V.s k):=by rw[F];exact X4 W hn (λi r u hr Y=>(O i r u hr Y).mono λ_ _ h=>h.mono A) M X
  refine⟨I',Hk h H A C (λb o hb=>?_) ⟨λb=>by simp[Va.drop],E,z⟩,E,z⟩;show(if b=g then _ else I b o)=_;rw[dq (λe=>hb (by rw[e];exact B))]
theorem Uy {l:List (List G)}{sz lo q:Nat}(h:VRep I (.sl l) x)(z:∀r∈l,r.length=sz)(J:lo<=q)(E:q<=l.length):VRep I (.sl (Fr l lo q)) (L6 sz x lo q):=by
 cases h with
 | sl l A c sz0 u hc hA hz0 h hu =>
  have m:(Fr l lo q).length=q - lo:=by unfold Fr;rw[bk,be,ct E]
  have p:∀i r,(Fr l lo q)[i]?=some r->lo+i < q/\l[lo+i]?=some r:=λi r hr=>by have s:=(aq.1 hr).1;rw[m] at s;unfold Fr at hr;rw[cf,br,dt (by omega)] at hr;exact⟨by omega,hr⟩
  have key:=VRep.sl (I:=I) (Fr l lo q) (if c=lo then A else A.map (·.add (lo * sz))) (c - lo) sz (λi j=>u (lo+i) j) (by rw[m];omega) (λe=>?_) (λr hr=>?_) (λi r hr=>?_) (λi r j g hr F=>?_)
  .rw[m] at key;exact key
  .split at e
   .next M=>omega
   .cases A with
    | none=>rw[hA rfl];omega
    | some a=>cases e
  .obtain⟨i,s,e⟩:=cu.1 hr;have:=(p i r (by rw[ap s,e])).2;exact z r (ar this)
  .obtain⟨B,hr⟩:=p i r hr;obtain⟨b,o,e,D⟩:=h _ _ hr;have H:sz0=sz:=(hz0 r (ar hr)).symm.trans (z r (ar hr));subst H;rw[dq (by omega),e];exact⟨b,o+lo * sz0,by simp[Cv],λj C=>by rw[<-D j C,Nat.add_mul];congr 1;omega⟩
  .exact hu _ r j g (p i r hr).2 F
theorem Di {K1:G->Os->Prop}(h:Z3g own g K1)(p:CRep I V g y)(hH:Has I V own w):∃D own' I' V',K1 D own'/\(V'.n=V.n/\V.kp V')/\Later own I V w own' I' V' w/\VRep I' D y:=by
 cases g with
 | osl k =>
  unfold Z3g at h;dsimp only at h;obtain⟨E,rfl⟩:=p;split at h
  .next c e sz hr =>
   obtain⟨I',u,m,-⟩:=Kf hH hr;exact⟨_,_,I',V.drop k,h,⟨rfl,.drop _ _⟩,u,m⟩
  .next c sz hr=>exact⟨_,_,I,V,h,⟨rfl,.refl _⟩,.refl hH,(hH.each k _ hr).2.1⟩
  .exact h.elim
 | osv k sz lo hi =>
  unfold Z3g at h;dsimp only at h;obtain⟨E,⟨A,H⟩,rfl⟩:=(show k < V.n/\(lo<=hi/\hi<=N6 (V.s k))/\y=L6 sz (V.s k) lo hi from p);split at h
  .next c e B hr =>
   split at h
   .next q =>
    have q:=aw q;subst q;obtain⟨I',u,m,C⟩:=Kf hH hr;have F:N6 (V.s k)=c.length:=by generalize V.s k=z at m;cases m;rfl
    exact⟨_,_,I',V.drop k,h,⟨rfl,.drop _ _⟩,u,Uy m C A (by omega)⟩
   .exact h.elim
  .next c B hr =>
   split at h
   .next q =>
    have q:=aw q;subst q;obtain⟨-,m,C⟩:=hH.each k _ hr;have F:N6 (V.s k)=c.length:=by generalize V.s k=z at m;cases m;rfl
    exact⟨_,_,I,V,h,⟨rfl,.refl _⟩,.refl hH,Uy m C A (by omega)⟩
   .exact h.elim
  .exact h.elim
 | v x=>exact⟨_,_,I,V,h,⟨rfl,.refl _⟩,.refl hH,p⟩
 | tt=>cases(show VRep I .tt y from p);exact⟨_,_,I,V,h,⟨rfl,.refl _⟩,.refl hH,.v _⟩
 | ff=>cases(show VRep I .ff y from p);exact⟨_,_,I,V,h,⟨rfl,.refl _⟩,.refl hH,.v _⟩
 | un=>exact⟨_,_,I,V,h,⟨rfl,.refl _⟩,.refl hH,p⟩
 | nl =>
  cases(show VRep I .nl y from p);exact⟨_,_,I,V,h,⟨rfl,.refl _⟩,.refl hH,.sl [] none 0 0 (λ_ _=>undef) (au _) (λ_=>rfl) (by simp) (λi r h=>by simp at h) (λi r j g h=>by simp at h)⟩
 | agg l=>exact⟨_,_,I,V,h,⟨rfl,.refl _⟩,.refl hH,p⟩
 | sl l=>exact⟨_,_,I,V,h,⟨rfl,.refl _⟩,.refl hH,p⟩
 | ptr k off =>
  obtain⟨b,i,u,m⟩:=Ok (show Za6 k own own (λb=>K1 (.v (.pointer (some ⟨b,off,none⟩))) own) from h);obtain⟨-,-,e⟩:=hH.each i _ u;obtain⟨-,rfl⟩:=p;exact⟨_,_,I,V,m,⟨rfl,.refl _⟩,.refl hH,by rw[e];exact .v _⟩
 | _=>exact h.elim
theorem P5:∀{l:List G} {own:Os} {I:Imm} {V:Va} {cs:List Value} {K1:List G->Os->Prop},Zax l own K1->PW (CRep I V) l cs->Has I V own w->∃j own' I' V',K1 j own'/\(V'.n=V.n/\V.kp V')/\Later own I V w own' I' V' w/\PW (VRep I') j cs
 | [],own,I,V,cs,K1,h,hp,hH=>⟨[],own,I,V,h,⟨rfl,.refl _⟩,.refl hH,by rw[hp.of_nil];exact .nil⟩
 | g::l,own,I,V,cs,K1,h,hp,hH=>by obtain⟨x,C,rfl,D,F⟩:=hp.uncons;obtain⟨z,J,O,M,A,c,b,q⟩:=Di (K1:=λz H=>Zax l H λj s=>K1 (z::j) s) h D hH;obtain⟨j,T,E,V2,B,m,p,u⟩:=P5 A (F.mono λ_ _ h=>h.mono b.fro.mono b.va) b.has;exact⟨_,_,E,V2,B,⟨m.1.trans c.1,c.2.trans (Nat.le_of_eq c.1.symm) m.2⟩,b.trans p,.cons (q.mono p.fro.mono) u⟩
theorem Z2k {K1:G->Os->Prop}(h:pur own g K1)(b:TRep I V g y)(hH:Has I V own w):∃q own' I' V',K1 q own'/\(V'.n=V.n/\V.kp V')/\Later own I V w own' I' V' w/\VRep I' q y:=by
 cases g with
 | oag l =>
  obtain⟨cs,rfl,u⟩:=(show ∃cs:List Value,y=.agg cs.toArray/\PW (CRep I V) l cs from b);obtain⟨p,B,z,V2,s,j,m,c⟩:=P5 (K1:=λp A=>K1 (.agg p) A) h u hH;exact⟨_,_,z,V2,s,j,m,Ze5 c⟩
 | v x=>exact Di (g:=.v x) h b hH
 | tt=>exact Di (g:=.tt) h b hH
 | ff=>exact Di (g:=.ff) h b hH
 | un=>exact Di (g:=.un) h b hH
 | nl=>exact Di (g:=.nl) h b hH
 | agg l=>exact Di (g:=.agg l) h b hH
 | sl l=>exact Di (g:=.sl l) h b hH
 | osl k=>exact Di (g:=.osl k) h b hH
 | osv k sz lo hi=>exact Di (g:=.osv k sz lo hi) h b hH
 | ptr k off=>exact Di (g:=.ptr k off) h b hH
 | _=>exact False.elim h
theorem PRep.of_v (h:VRep I g y):PRep I V g y:=by
 cases g with
 | ptr k o=>cases h
 | osl k=>cases h
 | osv k a b c=>cases h
 | oel k a b c=>cases h
 | mp k=>cases h
 | clo f a c=>cases h
 | oag l=>cases h
 | _=>exact h
theorem PRep.to_t (h:PRep I V g y):TRep I V g y:=by
 cases g with
 | ptr k o=>exact .of_c (g:=.ptr k o) h
 | osl k=>exact .of_c (g:=.osl k) h
 | osv k a b c=>exact .of_c (g:=.osv k a b c) h
 | oel k a b c=>exact .of_1 (g:=.oel k a b c) h
 | mp k=>exact .of_c (g:=.mp k) h
 | clo f a c=>exact .of_1 (g:=.clo f a c) h
 | v x=>exact .of_v (g:=.v x) h
 | tt=>exact .of_v (g:=.tt) h
 | ff=>exact .of_v (g:=.ff) h
 | un=>exact .of_v (g:=.un) h
 | nl=>exact .of_v (g:=.nl) h
 | agg l=>exact .of_v (g:=.agg l) h
 | sl l=>exact .of_v (g:=.sl l) h
 | oag l=>exact .of_1 (g:=.oag l) h.2
 | tup l=>cases(show VRep I (.tup l) y from h)
 | elp l o=>cases(show VRep I (.elp l o) y from h)
 | orv a b c d e f=>cases(show VRep I (.orv a b c d e f) y from h)
theorem PRep.to_1 (h:PRep I V g y):TRep1 I V g y:=by
 cases g with
 | tup l=>cases(show VRep I (.tup l) y from h)
 | _=>exact(PRep.to_t h)
theorem PRe1.to_1 (h:PRe1 I V g y):TRep1 I V g y:=by
 cases g with
 | oag l=>exact h
 | _=>exact PRep.to_1 (show PRep I V _ y from h)
theorem PRe1.of_p (h:PRep I V g y):PRe1 I V g y:=by
 cases g with
 | oag l=>exact h.2
 | _=>exact h
theorem PRe1.of_v (h:VRep I g y):PRe1 I V g y:=.of_p (.of_v h)
theorem PRes.to_t (h:PRes I V g y):TRep I V g y:=by
 cases g with
 | tup l=>obtain⟨cs,e,b⟩:=h;exact⟨cs,e,b.mono λ_ _ h=>h.to_1⟩
 | oag l=>exact .of_1 (g:=.oag l) h
 | _=>exact PRep.to_t (show PRep I V _ y from h)
theorem PRep.mono (h:PRep I V g y)(j:I.le I')(m:V.le V'):PRep I' V' g y:=by
 cases g with
 | ptr k o=>exact CRep.mono (g:=.ptr k o) h j m
 | osl k=>exact CRep.mono (g:=.osl k) h j m
 | osv k a b c=>exact CRep.mono (g:=.osv k a b c) h j m
 | oel k a b c=>exact TRep1.mono (g:=.oel k a b c) h j m
 | mp k=>exact CRep.mono (g:=.mp k) h j m
 | clo f a c=>exact TRep1.mono (g:=.clo f a c) h j m
 | oag l=>exact⟨h.1,TRep1.mono (g:=.oag l) h.2 j m⟩
 | _=>exact VRep.mono h j
theorem PRe1.mono (h:PRe1 I V g y)(b:I.le I')(c:V.le V'):PRe1 I' V' g y:=by
 cases g with
 | oag l=>exact TRep1.mono (g:=.oag l) h b c
 | _=>exact .of_p (PRep.mono (show PRep I V _ y from h) b c)
theorem Yz {K1:G->Os->Prop}(h:Zda own g K1)(j:TRep I V g y)(hH:Has I V own w):∃b own' I' V',K1 b own'/\(V'.n=V.n/\V.kp V')/\Later own I V w own' I' V' w/\PRep I' V' b y:=by
 have key:pur own g K1->∃b own' I' V',K1 b own'/\(V'.n=V.n/\V.kp V')/\Later own I V w own' I' V' w/\PRep I' V' b y:=λh=>by obtain⟨b,p,A,u,m,q,z,s⟩:=Z2k h j hH;exact⟨b,p,A,u,m,q,z,.of_v s⟩
 cases g with
 | ptr k o=>exact⟨_,_,I,V,h,⟨rfl,.refl _⟩,.refl hH,j⟩
 | clo f a c=>exact⟨_,_,I,V,h,⟨rfl,.refl _⟩,.refl hH,j⟩
 | _=>exact key h
theorem Z2c:∀{l:List G} {own:Os} {I:Imm} {V:Va} {cs:List Value} {K1:List G->Os->Prop},Ze2 l own K1->PW (TRep I V) l cs->Has I V own w->∃m own' I' V',K1 m own'/\(V'.n=V.n/\V.kp V')/\Later own I V w own' I' V' w/\PW (PRep I' V') m cs
 | [],own,I,V,cs,K1,h,hp,hH=>⟨[],own,I,V,h,⟨rfl,.refl _⟩,.refl hH,by rw[hp.of_nil];exact .nil⟩
 | g::l,own,I,V,cs,K1,h,hp,hH=>by obtain⟨x,C,rfl,D,F⟩:=hp.uncons;obtain⟨z,J,O,M,A,c,b,q⟩:=Yz (K1:=λz H=>Ze2 l H λm s=>K1 (z::m) s) h D hH;obtain⟨m,T,E,V2,B,p,j,u⟩:=Z2c A (F.mono λ_ _ h=>h.mono b.fro.mono b.va) b.has;exact⟨_,_,E,V2,B,⟨p.1.trans c.1,c.2.trans (Nat.le_of_eq c.1.symm) p.2⟩,b.trans j,.cons (q.mono j.fro.mono j.va) u⟩
theorem Nv (h:Has I V own w)(u:Mem I' w')(p:I.le I')(s:∀b o,b < w.heap.size->I' b o=I b o)(c:Below w.heap.size w w'):Later own I V w own I' V w' :=
 ⟨⟨u,h.num,λk r m=>(h.each k r m).keep p (.refl _) (h.num k r m) rfl c.os c.size λb j=>c.block b (h.foot k r b m j).1,λk r b m j=>by obtain⟨q,z⟩:=h.foot k r b m j;exact⟨bc q c.size,λo=>(s b o q).trans (z o)⟩,h.disj⟩,⟨c.os,c.tape,c.output,c.size,λb j _=>⟨c.block b j,λo=>s b o j⟩,p,λk r b m j _=>⟨k,r,m,j⟩⟩,.refl _⟩
end
theorem dv:type_of%@EvIf.beq:=@EvIf.beq
theorem dw:type_of%@EvIf.dec:=@EvIf.dec
theorem dx:type_of%@EvCall.gh:=@EvCall.gh
theorem dy:type_of%@EvCall.lend:=@EvCall.lend
theorem dz:type_of%@EvIf.bne:=@EvIf.bne
theorem ec:type_of%@EvIf.mk:=@EvIf.mk
theorem ee:type_of%@EvIdx.at:=@EvIdx.at
theorem ef:type_of%@EvIdx.of:=@EvIdx.of
end Go.Proofs.YtmmdikhljefeiaaGreat
