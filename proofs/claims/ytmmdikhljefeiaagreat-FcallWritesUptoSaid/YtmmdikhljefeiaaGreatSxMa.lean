
import Derived.Below
import Derived.OrdersHeld
import Derived.Test.YtmmdikhljefeiaaGreatBM
import Derived.Test.YtmmdikhljefeiaaGreatOwnM
import Derived.Test.YtmmdikhljefeiaaGreatYFrm
import Derived.Great.BuildSlice
import Derived.Laws.AppendOwnNone
import Derived.Deep.AppendSrc
import Derived.IntWalk
import Derived.Laws.StructEq
import Derived.Laws.Small
namespace Go.Proofs.YtmmdikhljefeiaaGreat
open Go.RowKit
inductive G where
 | v (x:Value)
 | tt
 | ff
 | un
 | nl
 | agg (l:List G)
 | oag (l:List G)
 | tup (l:List G)
 | ptr (k off:Nat)
 | sl (l:List (List G))
 | osl (k:Nat)
 | osv (k sz lo hi:Nat)
 | elp (row:List G) (off:Nat)
 | oel (k i sz off:Nat)
 | orv (k i sz off len cap:Nat)
 | mp (k:Nat)
 | clo (f:Nat) (a c:List G)
abbrev Ob:=(Nat->Nat->Option Value)->Nat->(Nat->Prop)->World->Prop
inductive R where
 | blk (cs:List G) (t:TypeId)
 | slc (rows:List (List G)) (e:TypeId) (sz:Nat)
 | froz (rows:List (List G)) (sz:Nat)
 | gone
 | mpI (l:List (Int × G))
 | mpS (l:List (ByteArray × G))
 | sit (s:ByteArray) (pos:Nat)
 | mpX (l:List (ByteArray × G)) (m:Nat) (ob:Obj)
 | mit (k:Nat) (l:List (ByteArray × G)) (D:List ByteArray) (last:Option (ByteArray × G)) (m:Nat) (ob:Obj)
 | abs (p:Ob)
 | lnk (j:Nat)
 | adr (k b:Nat)
 | fam (ps:List Ob)
 | vw (rows:List (List G)) (e:TypeId) (sz:Nat)
inductive KD where
 | no
 | arr (n:Nat) (e:TypeId) (sz:Nat)
 | map (str:Bool) (e:TypeId)
 | ptr
 | fn
 | bool
structure TI where
 agg:Bool
 zero:List G
 elem:Option (TypeId × Nat)
 flds:List (TypeId × Nat)
 str:Bool
 ik:Option IntKind
 kd:KD
abbrev Ts:=List (Nat × G)
abbrev Os:=List (Nat × R)
def look {α:Type}(i:Nat):List (Nat × α)->Option α
 | []=>none
 | (j,g)::r=>bif Nat.beq i j then some g else look i r
def put (d:Option Tmp)(g:G)(t:Ts):Ts:=match d with
 | some d=>(d,g)::t
 | none=>t
def Gof:Value->G
 | .bool true=>.tt
 | .bool false=>.ff
 | .slice none 0 0=>.nl
 | x=>.v x
structure EvIf (c:Bool)(A B:Prop):Prop where
 yes:c=true->A
 no:c=false->B
structure EvRng (n:Int)(A:Prop):Prop where
 rng:-9223372036854775808<=n/\n<=9223372036854775807
 next:A
structure EvIdx {α:Type}(l:List α)(n:Int)(K:α->Prop):Prop where
 rng:0<=n/\n < l.length
 next:∀x,l[n.toNat]?=some x->K x
structure EvSet {α:Type}(l:List α)(n:Nat)(F:α->(α->Prop)->Prop)(K:List α->Prop):Prop where
 rng:n < l.length
 next:∀x,l[n]?=some x->F x λy=>K (l.set n y)
structure EvRoom (n:Nat)(A:Prop):Prop where
 room:n<=1073741824
 next:A
structure Zb4 {α:Type}(l:List (List α))(sz:Nat)(one:α->Bool)(A:Prop):Prop where
 rows:∀r∈l,r.length=sz/\r.all one=true
 next:A
structure Z0p (l h:Int)(n:Nat)(A:Prop):Prop where
 rng:0<=l/\l<=h/\h<=n
 next:A
structure Zi (o:Option G)(K:G->Prop)(A:Prop):Prop where
 yes:∀g,o=some g->K g
 no:o=none->A
structure Zcf {α:Type}(l:List (List α))(sz:Nat)(A:Prop):Prop where
 rows:∀r∈l,r.length=sz
 next:A
structure EvDiv (n:Int)(A:Prop):Prop where
 ne:n≠0
 next:A
def gBy (c:UInt8):List G:=[.v (.int .u8 c.toNat)]
structure EvBytes (l:List (List G))(K:List UInt8->Prop):Prop where
 run:∃bs:List UInt8,l=bs.map gBy/\K bs
def Q7 (l:List G)(cs:List Value):Prop:=l=cs.map .v
structure Zb7 {α:Type}(l:List α)(K:Bool->Prop):Prop where
 run:∀b:Bool,(l≠[]->b=false)->K b
structure Zbe {α:Type}(l:List (List α))(m:Nat)(K:List α->Prop):Prop where
 pos:0 < m
 run:∃r:List α,r.length=m/\l.take m=r.map (λg=>[g])/\K r
structure EvEq (P:Program)(t:TypeId)(l m:List G)(K:Bool->Prop):Prop where
 run:∃cs ds b,Q7 l cs/\Q7 m ds/\P.eqGuardType P.depth t=false/\(∀w,(Op.equalIn 10000 t (.agg cs.toArray) (.agg ds.toArray)).run P w=.ok b w)/\K b
theorem EvIdx.at {α β:Type}{f:α->β}{l:List α}{i:Nat}{x:α}{K:β->Prop}(b:l[i]?=some x)(h:K (f x)):EvIdx (l.map f) i K :=
 ⟨by have:=(aq.1 b).1;simp;omega,λy c=>by rw[bh,ax,b] at c;obtain rfl:=ct c;exact h⟩
theorem EvSet.at {α β:Type}{f:α->β}{l c:List α}{i:Nat}{x y:α}{F:β->(β->Prop)->Prop}{K:List β->Prop}(j:l[i]?=some x)(p:∀k:β->Prop,k (f y)->F (f x) k)(m:l.set i y=c)(h:K (c.map f)):EvSet (l.map f) i F K :=
 ⟨by have:=(aq.1 j).1;simpa using this,λz b=>by rw[ax,j] at b;obtain rfl:=ct b;refine p _ ?_;rw[<-List.map_set,m];exact h⟩
theorem EvIdx.of {α β:Type}{f:α->β}{l:List α}{i:Nat}{K:β->Prop}(b:i < l.length)(h:∀x,l[i]?=some x->K (f x)):EvIdx (l.map f) i K :=
 .at (ap b) (h _ (ap b))
theorem EvIf.dec {p:Prop}[Decidable p]{A B:Prop}(b:p->A)(c:¬p->B):EvIf (decide p) A B:=⟨λh=>b (of_decide_eq_true h),λh=>c (of_decide_eq_false h)⟩
theorem EvIf.beq {x y:Int}{A B:Prop}(b:x=y->A)(c:x≠y->B):EvIf (x==y) A B:=⟨λh=>b (eq_of_beq h),λh=>c (ne_of_beq_false h)⟩
theorem EvIf.bne {x y:Int}{A B:Prop}(b:x≠y->A)(c:x=y->B):EvIf (x != y) A B:=⟨λh=>b (bne_iff_ne.1 h),λh=>c (by simpa using h)⟩
theorem Ut {a b:ByteArray}:(a.toList==b.toList)=decide (a=b):=by
 have key:a.toList=b.toList↔a=b:=⟨λh=>by
  have e:∀c:ByteArray,c.toList=c.data.toList:=λc=>by
   have key:∀(n i:Nat) (r:List UInt8),c.size - i=n->ByteArray.toList.loop c i r=r.reverse++(c.data.toList.drop i):=λn=>by
    induction n with
    | zero =>
     intro i r m;unfold ByteArray.toList.loop;have:¬i < c.size:=by omega
     rw[dn this,dk (by show c.data.toList.length<=i;simp;exact Nat.le_of_not_lt this)];simp
    | succ n ih =>
     intro i r m;unfold ByteArray.toList.loop;have j:i < c.size:=by omega
     rw[dp j,ih (i+1) _ (by omega)];have p:i < c.data.toList.length:=by simpa using j
     rw[List.drop_eq_getElem_cons p];simp[ByteArray.get!,j]
   have:=key _ 0 [] rfl;simpa [ByteArray.toList] using this
  rw[e,e] at h;cases a;cases b
  congr
  simpa using congrArg List.toArray h,λh=>by rw[h]⟩
 by_cases h:a=b
 .simp[h]
 .simp[h,mt key.1 h]
theorem EvIf.bneS {x y:ByteArray}{A B:Prop}(b:x≠y->A)(c:x=y->B):EvIf (!(x.toList==y.toList)) A B:=by rw[Ut];exact⟨λh=>b (by simpa using h),λh=>c (by simpa using h)⟩
def Fd (k:Nat):List Nat->Bool
 | []=>false
 | j::l=>bif Nat.beq k j then true else Fd k l
def nth {α:Type}:List α->Nat->Option α
 | [],_=>none
 | x::_,0=>some x
 | _::l,n+1=>nth l n
def G.pure:G->Bool
 | .ptr _ _ | .osl _ | .osv _ _ _ _ | .oag _ | .elp _ _ | .oel _ _ _ _ | .orv _ _ _ _ _ _ | .tup _ | .nl | .tt | .ff | .mp _ | .clo _ _ _=>false
 | _=>true
def G.cap:G->Bool
 | .ptr _ _ | .mp _=>true
 | .v x=>x.oneCell'
 | _=>false
def G.one:G->Bool
 | .v x=>x.oneCell'
 | .tt | .ff | .nl | .sl _ | .ptr _ _ | .osl _ | .osv _ _ _ _ | .mp _=>true
 | _=>false
def N6:G->Bool
 | .v x=>x.oneCell'
 | _=>false
structure Eh (c A:Prop):Prop where
 fit:c
 next:A
def Sy (n:Nat):Bool:=Nat.blt 48 n
def Zc1:List G->Nat->Nat->(List G->Prop)->Prop
 | _,_,0,K=>K []
 | [],_,_+1,_=>False
 | g::l,0,n+1,K=>Zc1 l 0 n λr=>K (g::r)
 | _::l,k+1,n+1,K=>Zc1 l k (n+1) K
def seg (l:List G)(k n:Nat)(K:List G->Prop):Prop:=match Sy n with
 | false=>Zc1 l k n K
 | true=>Eh (k+n<=l.length) (K ((l.drop k).take n))
def Zbs:List G->Nat->List G->(List G->Prop)->Prop
 | l,_,[],K=>K l
 | [],_,_::_,_=>False
 | _::l,0,c::cs,K=>Zbs l 0 cs λr=>K (c::r)
 | g::l,k+1,c::cs,K=>Zbs l k (c::cs) λr=>K (g::r)
def ovr (n:Nat)(l:List G)(k:Nat)(cs:List G)(K:List G->Prop):Prop:=match Sy n with
 | false=>Zbs l k cs K
 | true=>Eh (cs.length=n/\k+n<=l.length) (K (l.take k++cs++l.drop (k+n)))
def Bp {α:Type}(p:α->Bool):List α->Bool
 | []=>true
 | g::l=>bif p g then Bp p l else false
def Ha (n:Nat)(l:List G)(K:G->Prop):Prop:=match Sy n with
 | false=>match Bp G.pure l with
  | true=>K (.agg l)
  | false=>K (.oag l)
 | true=>Eh (∀g∈l,g.pure=true) (K (.agg l))
def Fo (b:List (List G))(lo c:Nat):List (List G):=(b.take c).drop lo
def Z76 (k:Nat)(o:Os):Os->(Nat->Prop)->Prop
 | [],_=>False
 | (i,_)::l,K=>match look i o with
  | some (.adr j b)=>match Nat.beq k j with
   | true=>K b
   | false=>Z76 k o l K
  | _=>Z76 k o l K
def Z42 (o:Os)(g:G)(K:G->Os->Prop):Prop:=match g with
 | .osl k=>match look k o with
  | some (.slc rows _ sz)=>K (.sl rows) ((k,.froz rows sz)::o)
  | some (.froz rows _)=>K (.sl rows) o
  | _=>False
 | .osv k sz lo hi=>match look k o with
  | some (.slc rows _ sz')=>match Nat.beq sz sz' with
   | true=>K (.sl (Fo rows lo hi)) ((k,.froz rows sz)::o)
   | false=>False
  | some (.froz rows sz')=>match Nat.beq sz sz' with
   | true=>K (.sl (Fo rows lo hi)) o
   | false=>False
  | _=>False
 | .nl=>K (.sl []) o
 | .tt=>K (.v (.bool true)) o
 | .ff=>K (.v (.bool false)) o
 | .ptr k off=>Z76 k o o λb=>K (.v (.pointer (some ⟨b,off,none⟩))) o
 | .oag _ | .elp _ _ | .oel _ _ _ _ | .orv _ _ _ _ _ _ | .tup _ | .mp _ | .clo _ _ _=>False
 | g=>K g o
def Z8q:List G->Os->(List G->Os->Prop)->Prop
 | [],o,K=>K [] o
 | g::l,o,K=>Z42 o g λh c=>Z8q l c λj b=>K (h::j) b
def pur (o:Os)(g:G)(K:G->Os->Prop):Prop:=match g with
 | .oag l=>Z8q l o λc b=>K (.agg c) b
 | g=>Z42 o g K
def Zb0 (o:Os)(g:G)(K:G->Os->Prop):Prop:=match g with
 | .ptr k off=>K (.ptr k off) o
 | .clo f a c=>K (.clo f a c) o
 | g=>pur o g K
def Zbq:List G->Os->(List G->Os->Prop)->Prop
 | [],o,K=>K [] o
 | g::l,o,K=>Zb0 o g λh c=>Zbq l c λj b=>K (h::j) b
def Z1f:G->G
 | .nl=>.sl []
 | .tt=>.v (.bool true)
 | .ff=>.v (.bool false)
 | g=>g
def Z6h (t:Ts)(w:Os)(n:Nat)(d:Option Tmp)(g:G)(new:List (List G))(e sz:Nat)(K:Ts->Os->Nat->Prop):Prop:=match g with
 | .osl k=>match look k w with
  | some (.slc rows e' sz')=>match Nat.beq e e',Nat.beq sz sz' with
   | true,true=>EvRoom (rows.length+new.length) (K (put d (.osl n) t) ((n,.slc (rows++new) e sz)::(k,.gone)::w) (n+1))
   | _,_=>False
  | _=>False
 | .nl=>EvRoom new.length (K (put d (.osl n) t) ((n,.slc new e sz)::w) (n+1))
 | _=>False
def Z9a (t:Ts)(w:Os)(n:Nat)(d:Option Tmp)(g:G)(new:List (List G))(e sz:Nat)(K:Ts->Os->Nat->Prop):Prop:=match g with
 | .osl k=>match look k w with
  | some (.vw rows e' sz')=>match Nat.beq e e',Nat.beq sz sz' with
   | true,true=>EvRoom (rows.length+new.length) (K (put d (.osl n) t) ((n,.vw (rows++new) e sz)::(k,.gone)::w) (n+1))
   | _,_=>False
  | _=>Z6h t w n d (.osl k) new e sz K
 | .orv k 0 (sz'+1) 0 l c=>match look k w with
  | some (.vw rows e' sz2)=>match Nat.beq e e',Nat.beq sz (sz'+1),Nat.beq sz sz2,Nat.beq l c,Nat.ble l rows.length with
   | true,true,true,true,true=>EvRoom (l+new.length) (K (put d (.osl n) t) ((n,.vw (rows.take l++new) e sz)::(k,.gone)::w) (n+1))
   | _,_,_,_,_=>False
  | _=>False
 | g=>Z6h t w n d g new e sz K
def Zav (g:G)(K:ByteArray->Prop):Prop:=match g with
 | .v (.string s)=>K s
 | _=>False
def H9 {α:Type}(k:Nat):List Nat->(List Nat->α)->α
 | [],K=>K [k]
 | j::l,K=>match Nat.beq k j with
  | true=>K (j::l)
  | false=>H9 k l λr=>K (j::r)
def gkC {α:Type}(g:G)(ks:List Nat)(K:List Nat->α):α:=match g with
 | .ptr k _ | .osl k | .osv k _ _ _ | .oel k _ _ _ | .mp k=>H9 k ks K
 | _=>K ks
def Z7s {α:Type}:List G->List Nat->(List Nat->α)->α
 | [],ks,K=>K ks
 | g::l,ks,K=>gkC g ks λks=>Z7s l ks K
def gk1 {α:Type}(g:G)(ks:List Nat)(K:List Nat->α):α:=match g with
 | .oag l=>Z7s l ks K
 | .clo _ a c=>Z7s a ks λks=>Z7s c ks K
 | g=>gkC g ks K
def gkL {α:Type}:List G->List Nat->(List Nat->α)->α
 | [],ks,K=>K ks
 | g::l,ks,K=>gk1 g ks λks=>gkL l ks K
def C8:G->Bool
 | .ptr _ _ | .osl _ | .osv _ _ _ _ | .oel _ _ _ _ | .orv _ _ _ _ _ _ | .mp _=>false
 | _=>true
def Ko:R->Bool
 | .blk cs _=>Bp C8 cs
 | .lnk _=>false
 | .adr _ _=>false
 | _=>true
def Ik:List Nat->Nat->List (Nat × Nat)
 | [],_=>[]
 | k::ks,i=>(k,i)::Ik ks (i+1)
def Rb:List Nat->Nat->List R->Nat->List (Nat × Nat)
 | k::ks,n,_::rs,i=>(i,k)::Rb ks n rs (i+1)
 | [],n,_::rs,i=>(i,n)::Rb [] (n+1) rs (i+1)
 | _,_,[],_=>[]
def Ep:List R->Nat->Os
 | [],_=>[]
 | r::rs,i=>(i,r)::Ep rs (i+1)
def ev (t:Ts)(o:Os)(x:Operand)(K:G->Prop):Prop:=match x with
 | .tmp i=>match look i t with
  | some (.osl k)=>match look k o with
   | some (.froz rows _)=>K (.sl rows)
   | _=>K (.osl k)
  | some g=>K g
  | none=>False
 | .const x=>K (Gof x)
 | .func f=>K (.v (.func (.func f) #[] #[]))
 | .global _=>False
def evs (t:Ts)(o:Os):List Operand->(List G->Prop)->Prop
 | [],K=>K []
 | x::l,K=>ev t o x λg=>evs t o l λr=>K (g::r)
def Fm (o:Os)(g:G)(K:List G->Prop):Prop:=match g with
 | .agg l=>K l
 | .oag l=>K l
 | .tup _ | .elp _ _ | .oel _ _ _ _ | .orv _ _ _ _ _ _ | .un | .clo _ _ _=>False
 | .v x=>match x.oneCell' with
  | true=>K [.v x]
  | false=>False
 | .osl k=>match look k o with
  | some (.slc _ _ _)=>K [.osl k]
  | some (.froz rows _)=>K [.sl rows]
  | some (.vw _ _ _)=>K [.osl k]
  | _=>False
 | .osv k sz lo hi=>match look k o with
  | some (.slc _ _ _)=>K [.osv k sz lo hi]
  | some (.vw _ _ _)=>K [.osv k sz lo hi]
  | _=>False
 | g=>K [g]
def Zb2 (g:G)(K:List G->Prop):Prop:=match g with
 | .agg l=>K l
 | .oag l=>K l
 | _=>False
def Z8s (o:Os):G->Bool
 | .osl k=>match look k o with
  | some (.slc _ _ _)=>true
  | some (.vw _ _ _)=>true
  | _=>false
 | .osv k _ _ _=>match look k o with
  | some (.slc _ _ _)=>true
  | some (.vw _ _ _)=>true
  | _=>false
 | g=>G.one g
def S1 (o:Os)(g:G)(K:List (List G)->Prop):Prop:=match g with
 | .nl=>K []
 | .sl rows=>K rows
 | .osl k=>match look k o with
  | some (.slc rows _ _)=>K rows
  | some (.froz rows _)=>K rows
  | some (.vw rows _ _)=>K rows
  | _=>False
 | .osv k _ lo hi=>match look k o with
  | some (.slc rows _ _)=>K (Fo rows lo hi)
  | _=>False
 | _=>False
def Zdg (o:Os)(g:G)(K:Int->Prop):Prop:=match g with
 | .orv _ _ _ _ l _=>K l
 | g=>S1 o g λb=>K b.length
def Z1e (o:Os)(g:G)(sz:Nat)(K:List (List G)->Prop):Prop:=match g with
 | .nl=>K []
 | .sl rows=>Zb4 rows sz G.one (K rows)
 | .osl k=>match look k o with
  | some (.slc rows _ sz')=>match Nat.beq sz' sz with
   | true=>K rows
   | false=>False
  | _=>False
 | .osv k sz0 lo hi=>match look k o with
  | some (.slc rows _ sz')=>match Nat.beq sz' sz,Nat.beq sz0 sz with
   | true,true=>K (Fo rows lo hi)
   | _,_=>False
  | some (.vw rows _ sz')=>match Nat.beq sz' sz,Nat.beq sz0 sz with
   | true,true=>K (Fo rows lo hi)
   | _,_=>False
  | _=>False
 | _=>False
def M5 (m:List (Nat × Nat)):G->G
 | .ptr k off=>.ptr ((look k m).getD k) off
 | .osl k=>.osl ((look k m).getD k)
 | .osv k sz lo hi=>.osv ((look k m).getD k) sz lo hi
 | .oel k i sz off=>.oel ((look k m).getD k) i sz off
 | .orv k i sz off l c=>.orv ((look k m).getD k) i sz off l c
 | .mp k=>.mp ((look k m).getD k)
 | g=>g
def Z1b (m:List (Nat × Nat)):G->G
 | .oag l=>.oag (l.map (M5 m))
 | .clo f a c=>.clo f (a.map (M5 m)) (c.map (M5 m))
 | g=>M5 m g
def Qp (m:List (Nat × Nat)):G->G
 | .tup l=>.tup (l.map (Z1b m))
 | g=>Z1b m g
def Kn (m:List (Nat × Nat)):R->R
 | .blk cs t=>.blk (cs.map (M5 m)) t
 | .adr k b=>.adr ((look k m).getD k) b
 | .lnk j=>.lnk ((look j m).getD j)
 | r=>r
def Ke (m:List (Nat × Nat)):G->G
 | .osl k=>.osl ((look k m).getD k)
 | .osv k sz lo hi=>.osv ((look k m).getD k) sz lo hi
 | .oel k i sz off=>.oel ((look k m).getD k) i sz off
 | .orv k i sz off l c=>match sz with
  | 0=>.orv k i 0 off l c
  | s+1=>.orv ((look k m).getD k) i (s+1) off l c
 | g=>g
def Rk (m:List (Nat × Nat)):G->G
 | .oag l=>.oag (l.map (Ke m))
 | .clo f a c=>.clo f (a.map (Ke m)) (c.map (Ke m))
 | g=>Ke m g
def renS (m:List (Nat × Nat)):G->G
 | .tup l=>.tup (l.map (Rk m))
 | g=>Rk m g
def Z2d (m:List (Nat × Nat)):R->R
 | .blk cs t=>.blk (cs.map (Ke m)) t
 | r=>r
def isS:R->Bool
 | .slc _ _ _ | .froz _ _ | .gone=>true
 | .vw _ _ _=>true
 | .fam _=>true
 | _=>false
def Rz (n:Nat):G->Bool
 | .ptr k _ | .osl k | .oel k _ _ _ | .osv k _ _ _ | .mp k=>Nat.blt k n
 | .orv k _ _ _ _ _=>Nat.blt k n
 | _=>true
def Z8p (n:Nat):G->Bool
 | .oag l=>Bp (Rz n) l
 | .clo _ a c=>match Bp (Rz n) a with
  | true=>Bp (Rz n) c
  | false=>false
 | .tup _=>false
 | g=>Rz n g
def Z1g (n:Nat):G->Bool
 | .tup l=>Bp (Z8p n) l
 | g=>Z8p n g
def Yi (n:Nat):R->Bool
 | .blk cs _=>Bp (Rz n) cs
 | .lnk _=>false
 | .adr k _=>Nat.blt k n
 | _=>true
def Ov (own:Os):List Nat->List Nat->(List Nat->Prop)->Prop
 | [],b,K=>K b
 | k::l,b,K=>match look k own with
  | some (.blk cs _)=>Z7s cs b λb=>Ov own l b K
  | _=>Ov own l b K
def trK (own:Os):Nat->List Nat->(List Nat->Prop)->Prop
 | 0,ks,K=>K ks
 | n+1,ks,K=>Ov own ks ks λks=>trK own n ks K
def Zbr (ks:List Nat):G->Bool
 | .ptr k _ | .osl k | .osv k _ _ _ | .oel k _ _ _ | .mp k=>Fd k ks
 | _=>true
def Z1c (ks:List Nat):R->Bool
 | .blk cs _=>Bp (Zbr ks) cs
 | .lnk _=>false
 | .adr k _=>Fd k ks
 | _=>true
def rsK (own:Os)(b:List Nat):List Nat->(List R->Prop)->Prop
 | [],K=>K []
 | k::ks,K=>match look k own with
  | some r=>match Ko r with
   | true=>rsK own b ks λrs=>K (r::rs)
   | false=>match Z1c b r with
    | true=>rsK own b ks λrs=>K (Kn (Ik b 0) r::rs)
    | false=>False
  | none=>False
def Pc (tt:List (Nat × TI))(ty:TypeId):KD:=match look ty tt with
 | some i=>i.kd
 | none=>.no
def Zal (tt:List (Nat × TI))(ty:TypeId)(op:BinOp)(b:Bool)(K:G->Prop):Prop:=match Pc tt ty,op with
 | .ptr,.eql=>K (bif b then .tt else .ff)
 | .ptr,.neq=>K (bif b then .ff else .tt)
 | _,_=>False
def Z21 (g:G)(K:Bool->Prop):Prop:=match g with
 | .tt=>K true
 | .ff=>K false
 | .v (.bool b)=>K b
 | _=>False
structure Zc8 (n:Int)(K:Prop):Prop where
 nn:0<=n
 next:K
def Zbj (P:Program)(tt:List (Nat × TI))(ty:TypeId)(op:BinOp)(x y:G)(K:G->Prop):Prop:=match x,y with
 | .v (.int .i64 a),.v (.int .i64 b)=>match op with
  | .add=>EvRng (a+b) (K (.v (.int .i64 (a+b))))
  | .sub=>EvRng (a - b) (K (.v (.int .i64 (a - b))))
  | .mul=>EvRng (a * b) (K (.v (.int .i64 (a * b))))
  | .quo=>EvDiv b (EvRng (a.tdiv b) (K (.v (.int .i64 (a.tdiv b)))))
  | .rem=>EvDiv b (K (.v (.int .i64 (a.tmod b))))
  | .or=>K (.v (.int .i64 (IntKind.wrap .i64 ((BitVec.ofInt 64 a ||| BitVec.ofInt 64 b).toNat:Nat))))
  | .and=>K (.v (.int .i64 (IntKind.wrap .i64 ((BitVec.ofInt 64 a &&& BitVec.ofInt 64 b).toNat:Nat))))
  | .eql=>K (.v (.bool (a==b)))
  | .neq=>K (.v (.bool (a != b)))
  | .lss=>K (.v (.bool (decide (a < b))))
  | .leq=>K (.v (.bool (decide (a<=b))))
  | .gtr=>K (.v (.bool (decide (a > b))))
  | .geq=>K (.v (.bool (decide (a >= b))))
  | _=>False
 | .v (.int .i64 a),.v (.int .u64 b)=>match op with
  | .shr=>Zc8 b (K (.v (.int .i64 (a.fdiv (2 ^ min b.toNat 64)))))
  | _=>False
 | .v (.int .u8 a),.v (.int .u8 b)=>match op with
  | .eql=>K (.v (.bool (a==b)))
  | .neq=>K (.v (.bool (a != b)))
  | .lss=>K (.v (.bool (decide (a < b))))
  | .leq=>K (.v (.bool (decide (a<=b))))
  | .gtr=>K (.v (.bool (decide (a > b))))
  | .geq=>K (.v (.bool (decide (a >= b))))
  | _=>False
 | .v (.int .u64 a),.v (.int .u64 b)=>match op with
  | .shr=>Zc8 b (K (.v (.int .u64 (a.fdiv (2 ^ min b.toNat 64)))))
  | .shl=>Zc8 b (K (.v (.int .u64 (IntKind.wrap .u64 (a * 2 ^ min b.toNat 64)))))
  | .add=>K (.v (.int .u64 (IntKind.wrap .u64 (a+b))))
  | .mul=>K (.v (.int .u64 (IntKind.wrap .u64 (a * b))))
  | .rem=>EvDiv b (K (.v (.int .u64 (a.tmod b))))
  | .or=>K (.v (.int .u64 (IntKind.wrap .u64 ((BitVec.ofInt 64 a ||| BitVec.ofInt 64 b).toNat:Nat))))
  | .and=>K (.v (.int .u64 (IntKind.wrap .u64 ((BitVec.ofInt 64 a &&& BitVec.ofInt 64 b).toNat:Nat))))
  | .eql=>K (.v (.bool (a==b)))
  | .neq=>K (.v (.bool (a != b)))
  | .lss=>K (.v (.bool (decide (a < b))))
  | .leq=>K (.v (.bool (decide (a<=b))))
  | .gtr=>K (.v (.bool (decide (a > b))))
  | .geq=>K (.v (.bool (decide (a >= b))))
  | _=>False
 | .v (.int .u64 a),.v (.int _ b)=>match op with
  | .shr=>Zc8 b (K (.v (.int .u64 (a.fdiv (2 ^ min b.toNat 64)))))
  | _=>False
 | .v (.string a),.v (.string b)=>match op with
  | .add=>EvRng ((a.size+b.size:Nat):Int) (K (.v (.string (a++b))))
  | .eql=>K (.v (.bool (a.toList==b.toList)))
  | .neq=>K (.v (.bool (!(a.toList==b.toList))))
  | .lss=>K (.v (.bool (Op.bytesLess a.toList b.toList)))
  | .leq=>K (.v (.bool (Op.bytesLess a.toList b.toList||a.toList==b.toList)))
  | .gtr=>K (.v (.bool (!(Op.bytesLess a.toList b.toList||a.toList==b.toList))))
  | .geq=>K (.v (.bool (!Op.bytesLess a.toList b.toList)))
  | _=>False
 | .agg l,.agg m=>match op with
  | .eql=>EvEq P ty l m λb=>K (.v (.bool b))
  | .neq=>EvEq P ty l m λb=>K (.v (.bool (!b)))
  | _=>False
 | .v (.int .i32 a),.v (.int .i32 b)=>match op with
  | .sub=>K (.v (.int .i32 (IntKind.wrap .i32 (a - b))))
  | .eql=>K (.v (.bool (a==b)))
  | .neq=>K (.v (.bool (a != b)))
  | .lss=>K (.v (.bool (decide (a < b))))
  | .leq=>K (.v (.bool (decide (a<=b))))
  | .gtr=>K (.v (.bool (decide (a > b))))
  | .geq=>K (.v (.bool (decide (a >= b))))
  | _=>False
 | .ptr _ _,.v (.pointer none)=>Zal tt ty op false K
 | .v (.pointer none),.ptr _ _=>Zal tt ty op false K
 | .v (.pointer none),.v (.pointer none)=>Zal tt ty op true K
 | x,y=>match Pc tt ty with
  | .bool=>Z21 x λa=>Z21 y λb=>match op with
   | .eql=>K (.v (.bool (a==b)))
   | .neq=>K (.v (.bool (!(a==b))))
   | _=>False
  | _=>False
def Zc0 (x:G)(K:G->Prop):Prop:=match x with
 | .tt=>K .ff
 | .ff=>K .tt
 | .v (.bool b)=>K (.v (.bool (!b)))
 | _=>False
abbrev Imm:=Nat->Nat->Option Value
inductive VRep (I:Imm):G->Value->Prop
 | v (x:Value):VRep I (.v x) x
 | tt:VRep I .tt (.bool true)
 | ff:VRep I .ff (.bool false)
 | un:VRep I .un undef
 | nl:VRep I .nl (.slice none 0 0)
 | agg (l:List G) (cs:List Value) (hl:l.length=cs.length) (h:∀(j:Nat) g u,l[j]?=some g->cs[j]?=some u->VRep I g u):VRep I (.agg l) (.agg cs.toArray)
 | sl (l:List (List G)) (A:Option Addr) (c sz:Nat) (u:Nat->Nat->Value) (hc:l.length<=c) (hA:A=none->c=0) (hz:∀r∈l,r.length=sz)
   (h:∀(i:Nat) r,l[i]?=some r->∃b o,A=some ⟨b,o,none⟩/\∀j,j < sz->I b (o+i * sz+j)=some (u i j))
   (hu:∀(i:Nat) r (j:Nat) g,l[i]?=some r->r[j]?=some g->VRep I g (u i j)):VRep I (.sl l) (.slice A l.length c)
structure Va where
 n:Nat
 b:Nat->Nat
 s:Nat->Value
 f:Nat->Nat->Prop
def PW (P:G->Value->Prop)(l:List G)(cs:List Value):Prop:=l.length=cs.length/\∀(j:Nat) g u,l[j]?=some g->cs[j]?=some u->P g u
def K0 (sz:Nat)(v:Value)(lo b:Nat):Value:=match v with
 | .slice a _ c=>.slice (if c=lo then a else a.map (·.add (lo * sz))) (b - lo) (c - lo)
 | _=>undef
def Mb:Value->Nat
 | .slice _ n _=>n
 | _=>0
def CRep (I:Imm)(V:Va):G->Value->Prop
 | .ptr k off,x=>k < V.n/\x=.pointer (some ⟨V.b k,off,none⟩)
 | .osl k,x=>k < V.n/\x=V.s k
 | .osv k sz lo hi,x=>k < V.n/\(lo<=hi/\hi<=Mb (V.s k))/\x=K0 sz (V.s k) lo hi
 | .mp k,x=>k < V.n/\x=.map (some (V.b k))
 | .clo _ _ _,_=>False
 | .oag _,_=>False
 | .elp _ _,_=>False
 | .oel _ _ _ _,_=>False
 | .orv _ _ _ _ _ _,_=>False
 | .tup _,_=>False
 | g,x=>VRep I g x
def OrB (V:Va)(k sz b q:Nat):Prop:=match sz with
 | 0=>b=V.b k/\q=0
 | _+1=>∃n c,V.s k=.slice (some ⟨b,q,none⟩) n c
def TRep1 (I:Imm)(V:Va):G->Value->Prop
 | .oag l,x=>∃cs:List Value,x=.agg cs.toArray/\PW (CRep I V) l cs
 | .elp row off,x=>∃b o,x=.pointer (some ⟨b,o+off,none⟩)/\∀(j:Nat) g,row[j]?=some g->∃u,I b (o+j)=some u/\VRep I g u
 | .oel k i sz off,x=>k < V.n/\∃b q n c,V.s k=.slice (some ⟨b,q,none⟩) n c/\x=.pointer (some ⟨b,q+(i * sz+off),none⟩)
 | .orv k i sz off len cap,x=>k < V.n/\∃b q,OrB V k sz b q/\x=.slice (some ⟨b,q+(i * sz+off),none⟩) len cap
 | .clo f a c,x=>(∃g,(g∈a\/g∈c)/\C8 g=false)/\∃h cs:List Value,x=.func (.func f) h.toArray cs.toArray/\PW (CRep I V) a h/\PW (CRep I V) c cs
 | g,x=>CRep I V g x
def TRep (I:Imm)(V:Va):G->Value->Prop
 | .tup l,x=>∃cs:List Value,x=.tuple cs.toArray/\PW (TRep1 I V) l cs
 | g,x=>TRep1 I V g x
def PRep (I:Imm)(V:Va):G->Value->Prop
 | .ptr k o,x=>CRep I V (.ptr k o) x
 | .osl k,x=>CRep I V (.osl k) x
 | .osv k sz lo hi,x=>CRep I V (.osv k sz lo hi) x
 | .oel k i sz o,x=>TRep1 I V (.oel k i sz o) x
 | .mp k,x=>CRep I V (.mp k) x
 | .clo f a c,x=>TRep1 I V (.clo f a c) x
 | .oag l,x=>(∃g∈l,C8 g=false)/\TRep1 I V (.oag l) x
 | g,x=>VRep I g x
def PRe1 (I:Imm)(V:Va):G->Value->Prop
 | .oag l,x=>TRep1 I V (.oag l) x
 | g,x=>PRep I V g x
def PRes (I:Imm)(V:Va):G->Value->Prop
 | .tup l,x=>∃cs:List Value,x=.tuple cs.toArray/\PW (PRe1 I V) l cs
 | g,x=>PRe1 I V g x
def Loc (p:Ob):Prop:=∀(I I':Imm) b S w w',p I b S w->(∀b o x,I b o=some x->I' b o=some x)->w'.os=w.os->w.heap.size<=w'.heap.size->(∀k,S k->w'.heap[k]?=w.heap[k]?)->p I' b S w'
def Al {κ:Type}(I:Imm):List (κ × G)->List (κ × Value)->Prop
 | [],[]=>True
 | p::l,q::L=>q.1=p.1/\VRep I p.2 q.2/\Al I l L
 | _,_=>False
def MapR {κ:Type}(I:Imm)(w:World)(m:Nat)(b:κ->Value)(l:List (κ × G)):Prop:=∃L:List (κ × Value),MapB w m b id L/\Al I l L
def Eb (w:World)(e:TypeId)(sz:Nat)(v:Value)(n:Nat)(xs:List Value):Prop :=
 xs.length=n * sz/\((v=.slice none 0 0/\n=0)\/∃g q cap b,v=.slice (some ⟨g,q,none⟩) n cap/\w.heap[g]?=some (.cells b e (0,0))/\n<=cap/\cap<=maxLen/\q+cap * sz<=b.size/\(b.toList.drop q).take (n * sz)=xs)
def RRep (I:Imm)(V:Va)(k:Nat)(w:World):R->Prop
 | .blk cs t=>(∀b,V.f k b↔b=V.b k)/\∃A:List Value,w.heap[V.b k]?=some (.cells A.toArray t (0,0))/\PW (CRep I V) cs A
 | .slc h e sz=>(∀b,V.f k b↔(V.s k).ownBlock=some b)/\∃rs:List (List Value),w.ownsRow 0 e sz (V.s k) h.length rs.flatten/\rs.length=h.length/\(∀(i:Nat) r u,h[i]?=some r->rs[i]?=some u->PW (VRep I) r u)/\(∀u∈rs,u.length=sz)/\(∀u∈rs,∀x∈u,x.oneCell'=true)/\0 < sz
 | .vw h e sz=>(∀b,V.f k b↔(V.s k).ownBlock=some b)/\∃rs:List (List Value),Eb w e sz (V.s k) h.length rs.flatten/\rs.length=h.length/\(∀(i:Nat) r u,h[i]?=some r->rs[i]?=some u->PW (VRep I) r u)/\(∀u∈rs,u.length=sz)/\(∀u∈rs,∀x∈u,x.oneCell'=true)/\0 < sz
 | .froz h sz=>(∀b,¬V.f k b)/\VRep I (.sl h) (V.s k)/\∀r∈h,r.length=sz
 | .gone=>∀b,¬V.f k b
 | .mpI l=>(∀b,V.f k b↔b=V.b k)/\MapR I w (V.b k) Ar l
 | .mpS l=>(∀b,V.f k b↔b=V.b k)/\MapR I w (V.b k) Cd l
 | .sit s pos=>(∀b,V.f k b↔b=V.b k)/\w.heap[V.b k]?=some (.stringIter s pos)
 | .mpX l m ob=>(∀b,V.f k b↔b=V.b k)/\V.b k=m/\w.heap[m]?=some ob/\MapR I w m Cd l
 | .mit _ l D last m ob=>(∀b,V.f k b↔b=V.b k)/\∃(it:Obj) (L:List (ByteArray × Value)),w.heap[V.b k]?=some it/\Al I l L/\∀w':World,w'.heap[m]?=some ob->w'.heap[V.b k]?=some it->RanB w' (V.b k) m Cd id L D/\∀z,last=some z->∃v,VRep I z.2 v/\∀P:Program,(Instr.entry (.pointer (some ⟨V.b k,0,none⟩))).run P w'=.ok (.tuple #[.string z.1,v]) w'
 | .abs p=>Loc p/\p I (V.b k) (V.f k) w
 | .lnk j=>(∀b,¬V.f k b)/\j < V.n/\∃m,V.s j=.slice (some ⟨V.b k,0,none⟩) m m
 | .adr k' b=>(∀c,¬V.f k c)/\k' < V.n/\V.b k'=b
 | .fam q=>(∀p∈q,Loc p)/\∃F:Nat->Nat->Prop,(∀c,V.f k c↔∃i,i < q.length/\F i c)/\(∀i j c,i < q.length->j < q.length->F i c->F j c->i=j)/\∀(i:Nat) p,q[i]?=some p->∃b,p I b (F i) w
def Mem (I:Imm)(w:World):Prop:=∀b o x,I b o=some x->w.cell? ⟨b,o,none⟩=some x
structure Has (I:Imm)(V:Va)(own:Os)(w:World):Prop where
 mem:Mem I w
 num:∀k r,look k own=some r->k < V.n
 each:∀k r,look k own=some r->RRep I V k w r
 foot:∀k r b,look k own=some r->V.f k b->b < w.heap.size/\∀o,I b o=none
 disj:∀k k' r r' b,look k own=some r->look k' own=some r'->V.f k b->V.f k' b->k=k'
def Va.le (V V':Va):Prop:=V.n<=V'.n/\∀k,k < V.n->V'.b k=V.b k/\V'.s k=V.s k
structure Fro (own:Os)(I:Imm)(V:Va)(w:World)(own':Os)(I':Imm)(V':Va)(w':World):Prop where
 os:w'.os=w.os
 tape:w'.tape=w.tape
 output:w'.output=w.output
 size:w.heap.size<=w'.heap.size
 blk:∀b,b < w.heap.size->(∀k r,look k own=some r->¬V.f k b)->w'.heap[b]?=w.heap[b]?/\∀o,I' b o=I b o
 mono:∀b o x,I b o=some x->I' b o=some x
 foot:∀k r b,look k own'=some r->V'.f k b->b < w.heap.size->∃j r',look j own=some r'/\V.f j b
structure Obs (I:Imm)(V:Va)(O:Os)(w:World):Prop where
 num:∀k r,look k O=some r->k < V.n
 each:∀k r,look k O=some r->RRep I V k w r
 lt:∀k r b,look k O=some r->V.f k b->b < w.heap.size
 disj:∀k k' r r' b,look k O=some r->look k' O=some r'->V.f k b->V.f k' b->k=k'
def cl (O:Os):Ob:=λI b S w=>∃V:Va,V.b 0=b/\Obs I V O w/\∀c,S c↔∃k r,look k O=some r/\V.f k c
def leI (m:List (Nat × Nat))(w:Os)(n:Nat):Os->Prop
 | []=>True
 | (k,r)::l=>(Nat.blt k n=true/\Yi n r=true/\look ((look k m).getD k) w=some (Kn m r))/\leI m w n l
def Rf:List Nat->Bool
 | []=>true
 | k::l=>bif Fd k l then false else Rf l
def Zbk (b:Nat):G->Bool
 | .osl k | .osv k _ _ _ | .oel k _ _ _=>Nat.ble b k
 | _=>true
def D4 (w:Os):G->G
 | .osl j=>match look j w with
  | some (.froz rows _)=>.sl rows
  | _=>.osl j
 | .osv j sz lo hi=>match look j w with
  | some (.froz rows sz')=>match Nat.beq sz sz' with
   | true=>.sl (Fo rows lo hi)
   | false=>.osv j sz lo hi
  | _=>.osv j sz lo hi
 | .tt=>.v (.bool true)
 | .ff=>.v (.bool false)
 | g=>g
inductive Gh (K:Os->Nat->Prop):Os->Nat->Prop
 | done {w:Os} {n:Nat} (h:K w n):Gh K w n
 | adr {w:Os} {n:Nat} (k:Nat) (r:R) (hk:look k w=some r) (h:∀b,Gh K ((n,.adr k b)::w) (n+1)):Gh K w n
 | frz {w:Os} {n:Nat} (k:Nat) (rows:List (List G)) (e sz:Nat) (hk:look k w=some (.slc rows e sz)) (h:Gh K ((k,.froz rows sz)::w) n):Gh K w n
 | seen {w:Os} {n:Nat} (k:Nat) (cs:List G) (ty:Nat) (hk:look k w=some (.blk cs ty)) (h:Gh K ((k,.blk (cs.map (D4 w)) ty)::w) n):Gh K w n
def Ent (P:Program)(f:FuncId):Prop:=∃fn,P.funcs[f]?=some fn/\(fn.name=="runtime.NumGoroutine")=false/\fn.body.isNone=false
def VR (I:Imm):G->Value->Prop
 | .tup l,x=>∃cs:List Value,x=.tuple cs.toArray/\PW (VRep I) l cs
 | g,x=>VRep I g x
def FnV (P:Program)(f:FuncId)(gs:List G)(Q:G->Prop):Prop :=
 Ent P f/\∀I w vs,Mem I w->PW (VRep I) gs vs->Calls P f vs.toArray w λe w' =>
  ∃x g I',e=.returned x/\Q g/\Mem I' w'/\VR I' g x/\(∀b o x,I b o=some x->I' b o=some x)/\(∀b o,b < w.heap.size->I' b o=I b o)/\Below w.heap.size w w'
def FnO (P:Program)(f:FuncId)(gs:List G)(rs:List R)(Q:G->List R->Prop):Prop :=
 Ent P f/\∀I V w vs,Has I V (Ep rs 0) w->V.n=rs.length->PW (PRep I V) gs vs->Calls P f vs.toArray w λe w' =>
  ∃x g b I' V',e=.returned x/\Q g b/\V'.n=b.length/\Has I' V' (Ep b 0) w'/\PRes I' V' g x/\Fro (Ep rs 0) I V w (Ep b 0) I' V' w'/\V.le V'
def Zes:G->Bool
 | .v (.pointer (some _))=>true
 | _=>false
def Ud {α:Type}(own:Os):Os->List Nat->(List Nat->α)->α
 | [],r,K=>K r
 | (k,_)::l,r,K=>match look k own with
  | some (.fam _)=>H9 k r λr=>Ud own l r K
  | _=>Ud own l r K
def Mg {α:Type}(p:α->Bool):List α->Bool
 | []=>false
 | g::l=>bif p g then true else Mg p l
def Ze0 (vs:Bool)(gs:List G)(ks:List Nat):Bool:=match Mg Zes gs,vs,ks with
 | true,_,_=>true
 | false,true,_::_=>true
 | _,_,_=>false
def Z8m {α:Type}(vs:Bool)(gs:List G)(own:Os)(ks:List Nat)(K:List Nat->α):α:=match Ze0 vs gs ks with
 | true=>Ud own own ks K
 | false=>K ks
inductive EvCall (A B C:Prop):Prop
 | pure (h:A)
 | lend (h:B)
 | gh (h:C)
def X1:List G->Option (List Value)
 | []=>some []
 | .v x::l=>match X1 l with
  | some cs=>some (x::cs)
  | none=>none
 | _=>none
def Z5j:G->Option Value
 | .v x=>some x
 | .agg l=>match X1 l with
  | some cs=>some (.agg cs.toArray)
  | none=>none
 | _=>none
structure Z6t (P:Program)(f:FuncId)(gs:List G)(K:G->Prop):Prop where
 run:∃g x,Z5j g=some x/\FnV P f gs (λq=>q=g)/\K g
inductive Mo where
 | row
 | quiet (l:List Nat)
 | late
 | vs (l:List Nat)
 | new
def Mo.xl:Mo->List Nat
 | .quiet l=>l
 | _=>[]
def Mo.loose:Mo->Bool
 | .row=>true
 | .late=>true
 | _=>false
def Mo.isVs:Mo->Bool
 | .vs _=>true
 | _=>false
def Mo.lends:Mo->List Nat->Bool
 | .row,_=>true
 | .late,_=>true
 | .vs l,ks=>Bp (λk=>Fd k l) ks
 | _,[]=>true
 | _,_=>false
def Pp:G->Bool
 | .oag l=>Bp C8 l
 | .clo _ _ _=>false
 | .tup _=>false
 | g=>C8 g
def Z53:G->Bool
 | .tup l=>Bp Pp l
 | g=>Pp g
def Kd (m:List (Nat × Nat)):List R->List Nat->Os->Nat->(Os->Nat->Prop)->Prop
 | [],_,own,n,K=>K own n
 | r::rs,k::ks,own,n,K=>match Ko r with
  | true=>Kd m rs ks ((k,r)::own) n K
  | false=>Kd m rs ks ((k,Kn m r)::own) n K
 | r::rs,[],own,n,K=>match Ko r with
  | true=>Kd m rs [] ((n,r)::own) (n+1) K
  | false=>Kd m rs [] ((n,Kn m r)::own) (n+1) K
def Yc (ks:List Nat)(own:Os)(n:Nat)(g:G)(rs:List R)(K:G->Os->Nat->Prop):Prop:=match Z53 g with
 | true=>Kd (Rb ks n rs 0) rs ks own n λown n=>K g own n
 | false=>Kd (Rb ks n rs 0) rs ks own n λown' b=>K (Qp (Rb ks n rs 0) g) own' b
def Xy (P:Program)(f:FuncId)(mo:Mo)(gs:List G)(own:Os)(n:Nat)(B C:Prop)(K:G->Os->Nat->Prop):Prop :=
 gkL gs [] λks=>Z8m mo.isVs gs own ks λks=>trK own 3 ks λks=>match mo.lends ks with
  | true=>match ks with
   | []=>EvCall (FnO P f gs [] λg rs=>Yc [] own n g rs K) B C
   | k::ks=>rsK own (k::ks) (k::ks) λrs=>EvCall (FnO P f (gs.map (Qp (Ik (k::ks) 0))) rs λg rs=>Yc (k::ks) own n g rs K) B C
  | false=>False
def G.lent:G->Bool
 | .oag l=>Mg (λg=>match C8 g with | true=>false | false=>true) l
 | .tup _ | .elp _ _ | .orv _ _ _ _ _ _=>false
 | _=>true
def G.isOrv:G->Bool
 | .orv _ _ _ _ _ _=>true
 | _=>false
def G.isMp:G->Bool
 | .mp _=>true
 | _=>false
def lendK (P:Program)(f:FuncId)(mo:Mo)(gs:List G)(own:Os)(n:Nat)(C:Prop)(K:G->Os->Nat->Prop):Prop:=match Bp G.lent gs with
 | true=>Xy P f mo (gs.map Z1f) own n False C K
 | false=>False
def Zcq (w:Os):G->G
 | .osl k=>D4 w (.osl k)
 | .osv k sz lo hi=>D4 w (.osv k sz lo hi)
 | .oag l=>match Bp G.pure (l.map (D4 w)) with
  | true=>.agg (l.map (D4 w))
  | false=>.oag l
 | g=>g
inductive Z56 (P:Program)(f:FuncId)(own:Os)(n:Nat)(K:G->Os->Nat->Prop):List G->Prop
 | same {gs:List G} (h:lendK P f .row gs own n False λg own n=>Gh (K g) own n):Z56 P f own n K gs
 | see {gs:List G} (h:Z56 P f own n K (gs.map (Zcq own))):Z56 P f own n K gs
 | rawA {p q gs:List G} {b off:Nat} (j k:Nat) (hj:look j own=some (.adr k b)) (h:Z56 P f own n K (.oag (p++.ptr k off::q)::gs)):Z56 P f own n K (.agg (p++.v (.pointer (some ⟨b,off,none⟩))::q)::gs)
def ghK (P:Program)(f:FuncId)(mo:Mo)(gs:List G)(own:Os)(n:Nat)(K:G->Os->Nat->Prop):Prop:=match mo with
 | .row=>Gh (λown n=>Z56 P f own n K gs) own n
 | .late=>Gh (λown n=>Z56 P f own n K gs) own n
 | _=>False
def Nu (P:Program)(f:FuncId)(mo:Mo)(gs a c:List G)(own:Os)(n:Nat)(K:G->Os->Nat->Prop):Prop:=match Mg G.isOrv gs with
 | true=>ghK P f mo (a++(gs++c)) own n K
 | false=>match Mg G.isMp gs with
  | true=>lendK P f mo (a++(gs++c)) own n (ghK P f mo (a++(gs++c)) own n K) K
  | false=>Zbq (a++(gs++c)) own λb own'=>Xy P f mo b own' n (lendK P f mo (a++(gs++c)) own n False K) (ghK P f mo (a++(gs++c)) own n K) K
def Z6o (tt:List (Nat × TI))(mo:Mo)(ty:TypeId)(sz:Nat):Bool:=match mo,Pc tt ty with
 | .new,.fn=>Nat.beq sz 1
 | _,_=>false
def Zaf (b:Bool)(own:Os)(n:Nat)(K:G->Os->Prop):Prop:=match b with
 | true=>Z42 own (.osl n) K
 | false=>K (.osl n) own
section
variable (P:Program) (tt:List (Nat × TI))
def bsK (t:Ts)(sz:Nat):List (Nat × Operand)->Nat->Os->(List (List G)->Os->Prop)->Prop
 | [],_,w,K=>K [] w
 | (j,x)::ps,i,w,K=>match Nat.beq j i with
  | true=>ev t w x λg=>Fm w g λcs=>match Sy sz with
   | false=>Z8q cs w λc w'=>match Nat.beq c.length sz,Bp G.one c with
    | true,true=>bsK t sz ps (i+1) w' λb w''=>K (c::b) w''
    | _,_=>False
   | true=>Eh (cs.length=sz/\∀g∈cs,N6 g=true) (bsK t sz ps (i+1) w λb w''=>K (cs::b) w'')
  | false=>False
def evO (t:Ts)(w:Os)(x:Option Operand)(d:Int)(K:Int->Prop):Prop:=match x with
 | none=>K d
 | some x=>ev t w x λq=>match q with
  | .v (.int .i64 n)=>K n
  | _=>False
def Zc5 (t:Ts)(w:Os)(m:Nat)(lo b:Option Operand)(j:Nat)(K:G->Prop):Prop:=match lo,b with
 | none,none=>K (.osl j)
 | lo,b=>evO t w lo 0 λl=>evO t w b m λh=>Z0p l h m (K (.osv j 1 l.toNat h.toNat))
def Zdb (m:Nat)(cs:List G)(A:Prop):Prop:=match Sy m with
 | false=>match Nat.beq cs.length m,Bp N6 cs with
  | true,true=>A
  | _,_=>False
 | true=>Eh (cs.length=m/\∀g∈cs,N6 g=true) A
def Z4l (t:Ts)(w:Os)(n ty m:Nat)(lo b:Option Operand)(g:G)(K:G->Os->Nat->Prop):Prop:=match g with
 | .ptr k off=>match look k w with
  | some (.blk cs ty')=>match off,Nat.beq ty' ty,Nat.ble m 1048576 with
   | 0,true,true=>Zdb m cs (Zc5 t w m lo b n λg=>K g ((k,.lnk n)::(n,.slc (cs.map λg=>[g]) ty' 1)::(k,.gone)::w) (n+1))
   | _,_,_=>match lo,b with
    | none,none=>Eh (off+m<=cs.length/\∀g∈cs,N6 g=true) (K (.sl (((cs.drop off).take m).map λg=>[g])) ((k,.gone)::w) n)
    | none,some x=>evO t w (some x) m λh=>Z0p 0 h m (K (.orv k 0 0 off h.toNat m) w n)
    | _,_=>False
  | some (.lnk j)=>match look j w,off with
   | some (.slc rows _ 1),0=>Eh (rows.length=m) (Zc5 t w m lo b j λg=>K g w n)
   | _,_=>False
  | _=>False
 | .oel k i sz off=>match look k w,lo with
  | some (.slc rows _ sz'),none=>match Nat.beq sz sz' with
   | true=>evO t w b m λh=>Z0p 0 h m (Eh ((i < rows.length/\off+m<=sz)/\0 < sz) (K (.orv k i sz off h.toNat m) w n))
   | false=>False
  | _,_=>False
 | _=>False
def Z4q (t:Ts)(w:Os)(m:Nat)(lo b:Option Operand)(g:G)(K:G->Prop):Prop:=match g,lo,b with
 | .ptr k off,none,some x=>match look k w with
  | some (.blk _ _)=>evO t w (some x) m λh=>Z0p 0 h m (K (.orv k 0 0 off h.toNat m))
  | _=>False
 | _,_,_=>False
def slK (w:Os)(g:G)(sz:Nat)(lo b:(Int->Prop)->Int->Prop)(K:G->Prop):Prop:=match g with
 | .sl rows=>lo (λl=>b (λh=>Z0p l h rows.length (Zcf rows sz (K (.sl (Fo rows l.toNat h.toNat))))) rows.length) 0
 | .osl k=>match look k w with
  | some (.slc rows _ sz')=>match Nat.beq sz sz' with
   | true=>lo (λl=>b (λh=>Z0p l h rows.length (K (.osv k sz l.toNat h.toNat))) rows.length) 0
   | false=>False
  | some (.vw rows _ sz')=>match Nat.beq sz sz' with
   | true=>lo (λl=>b (λh=>Z0p l h rows.length (K (.osv k sz l.toNat h.toNat))) rows.length) 0
   | false=>False
  | _=>False
 | _=>False
def Z64 (w:Os)(g:G)(sz:Nat)(h:Int)(K:G->Prop):Prop:=match g with
 | .osl k=>match look k w with
  | some (.vw rows _ sz')=>match Nat.beq sz sz' with
   | true=>Z0p 0 h rows.length (Eh (rows≠[]) (K (.orv k 0 sz 0 h.toNat h.toNat)))
   | false=>False
  | _=>False
 | _=>False
def byK (o:Os)(g:G)(K:List (List G)->Prop):Prop:=match g with
 | .nl=>K []
 | .sl rows=>K rows
 | .osl k=>match look k o with
  | some (.slc rows _ 1)=>K rows
  | _=>False
 | _=>False
def cvK (w:Os)(g:G)(a b:TI)(u8:Bool)(K:G->Prop):Prop:=match a.elem,a.str,a.ik,b.str,b.ik with
 | some _,_,_,true,_=>match u8 with
  | true=>byK w g λc=>EvBytes c λh=>K (.v (.string ⟨h.toArray⟩))
  | false=>False
 | none,true,_,true,_=>match g with
  | .v (.string s)=>K (.v (.string s))
  | _=>False
 | none,false,some _,false,some k=>match g with
  | .v (.int _ n)=>match k with
   | .i64=>EvRng n (K (.v (.int .i64 n)))
   | .u8=>K (.v (.int .u8 (n % 256)))
   | .u64=>K (.v (.int .u64 (IntKind.wrap .u64 n)))
   | _=>False
  | _=>False
 | _,_,_,_,_=>False
def Z9i (e:TypeId):Bool:=match look e tt with
 | some ⟨_,_,_,_,_,some .u8,_⟩=>true
 | _=>false
def cvU (a:TI)(XL:List Nat):Bool:=match a.elem,XL with
 | some (e,_),[]=>Z9i tt e
 | _,_=>false
def Zc4 (n:Nat)(cs:List G)(A:Prop):Prop:=match Sy n with
 | false=>match Nat.beq cs.length n with
  | true=>A
  | false=>False
 | true=>Eh (cs.length=n) A
def Zai (n:Nat)(w:Os)(cs:List G)(A:Prop):Prop:=match Sy n with
 | false=>match Bp (Z8s w) cs,Nat.beq cs.length n,cs with
  | true,true,_::_=>A
  | _,_,_=>False
 | true=>Eh (cs.length=n/\∀g∈cs,N6 g=true) A
def Zbt (n:Nat)(cs:List G)(A:Prop):Prop:=match Sy n with
 | false=>match Bp G.pure cs with
  | true=>A
  | false=>False
 | true=>A
def Z8r (t:Ts)(w:Os)(b:List (TypeId × Nat)):List (Nat × Operand)->List G->(List G->Prop)->Prop
 | [],l,K=>K l
 | (i,x)::ps,l,K=>match nth b i with
  | none=>False
  | some (ft,fo)=>match look ft tt with
   | none=>False
   | some j=>ev t w x λg=>Fm w g λcs=>Zc4 j.zero.length cs (ovr j.zero.length l fo cs λc=>Z8r t w b ps c K)
def Zaj (t:Ts)(w:Os)(n sz:Nat):List (Nat × Operand)->List G->(List G->Prop)->Prop
 | [],l,K=>K l
 | (i,x)::ps,l,K=>match Nat.blt i n,Nat.blt 0 sz with
  | true,true=>ev t w x λg=>Fm w g λcs=>Zc4 sz cs (ovr sz l (Nat.mul i sz) cs λb=>Zaj t w n sz ps b K)
  | _,_=>False
def Sg (i:TI)(K:G->Prop):Prop:=match i.agg with
 | true=>Ha 0 i.zero K
 | false=>match i.zero with
  | [g]=>K g
  | _=>False
def Zcm (n:Nat)(w:Os)(cs:List G)(K:List G->Prop):Prop:=match Sy n with
 | true=>K cs
 | false=>match cs with
  | [.ptr k off]=>Z76 k w w λb=>K [.v (.pointer (some ⟨b,off,none⟩))]
  | cs=>K (cs.map Z1f)
def Z7r (w:Os)(XL:List Nat)(g q:G)(str:Bool)(i:TI)(K:G->Bool->Prop):Prop:=match g with
 | .mp k=>match Fd k XL with
  | true=>False
  | false=>match look k w,str,q with
   | some (.mpS l),true,.v (.string s)=>Zi (Au l s) (λg=>K g true) (Sg i λg=>K g false)
   | some (.mpI l),false,.v (.int .i64 n)=>Zi (Au l n) (λg=>K g true) (Sg i λg=>K g false)
   | some (.mpX l _ _),true,.v (.string s)=>Zi (Au l s) (λg=>K g true) (Sg i λg=>K g false)
   | _,_,_=>False
 | _=>False
def lkK (ok:Bool)(K:G->Prop)(g:G)(b:Bool):Prop:=match ok with
 | true=>K (.tup [g,bif b then .tt else .ff])
 | false=>K g
def Z4j (w:Os)(g q u:G)(str:Bool)(K:Os->Prop):Prop:=pur w u λu w=>match g with
 | .mp k=>match look k w,str,q with
  | some (.mpS l),true,.v (.string s)=>K ((k,.mpS (Gn l s u))::w)
  | some (.mpI l),false,.v (.int .i64 n)=>K ((k,.mpI (Gn l n u))::w)
  | _,_,_=>False
 | _=>False
def Zba (q:G)(op:BinOp)(ty:TypeId):Bool:=match q,op,look ty tt with
 | .nl,.eql,some ⟨_,_,some _,_,_,_,_⟩=>true
 | _,_,_=>false
def J0 (mo:Mo)(o:Oper)(t:Ts)(w:Os)(n:Nat)(K:Ts->Os->Nat->Prop):Prop:=match o.op with
 | .move x=>ev t w x λg=>K (put o.dst g t) w n
 | .assign x=>match x with
  | .const (.slice none 0 0)=>match look o.type tt with
   | some ⟨_,_,some (e,sz),_,_,_,_⟩=>K (put o.dst (.osl n) t) ((n,.slc [] e sz)::w) (n+1)
   | _=>K (put o.dst .nl t) w n
  | x=>ev t w x λg=>K (put o.dst g t) w n
 | .pick c a b=>ev t w c λg=>match g with
  | .tt=>ev t w a λg=>K (put o.dst g t) w n
  | .ff=>ev t w b λg=>K (put o.dst g t) w n
  | .v (.bool c)=>EvIf c (ev t w a λg=>K (put o.dst g t) w n) (ev t w b λg=>K (put o.dst g t) w n)
  | _=>False
 | .alloc ty=>match look ty tt with
  | some i=>K (put o.dst (.ptr n 0) t) ((n,.blk i.zero ty)::w) (n+1)
  | none=>False
 | .box ty x=>ev t w x λg=>Fm w g λcs=>K (put o.dst (.ptr n 0) t) ((n,.blk cs ty)::w) (n+1)
 | .load ty x=>ev t w x λg=>match look ty tt with
  | none=>False
  | some i=>match g with
   | .ptr k off=>match look k w,Fd k mo.xl with
    | some (.blk cs _),false=>match i.agg with
     | true=>seg cs off i.zero.length λl=>Ha i.zero.length l λg=>K (put o.dst g t) w n
     | false=>match nth cs off with
      | some g=>K (put o.dst g t) w n
      | none=>False
    | some (.lnk j),false=>match look j w,Fd j mo.xl,i.agg with
     | some (.slc A _ 1),false,true=>Eh (off+i.zero.length<=A.length/\∀r∈A,∀g∈r,g.pure=true) (K (put o.dst (.agg ((A.flatten.drop off).take i.zero.length)) t) w n)
     | _,_,_=>False
    | _,_=>False
   | .elp row off=>match i.agg with
     | true=>seg row off i.zero.length λl=>K (put o.dst (.agg l) t) w n
     | false=>match nth row off with
      | some g=>K (put o.dst g t) w n
      | none=>False
   | .oel k j sz off=>match look k w,Fd k mo.xl with
    | some (.slc A _ sz'),false=>match Nat.beq sz sz' with
     | true=>EvIdx A j λrow=>match i.agg with
      | true=>seg row off i.zero.length λl=>K (put o.dst (.agg l) t) w n
      | false=>match nth row off with
       | some g=>K (put o.dst g t) w n
       | none=>False
     | false=>False
    | some (.vw A _ sz'),false=>match Nat.beq sz sz' with
     | true=>EvIdx A j λrow=>match i.agg with
      | true=>seg row off i.zero.length λl=>K (put o.dst (.agg l) t) w n
      | false=>match nth row off with
       | some g=>K (put o.dst g t) w n
       | none=>False
     | false=>False
    | _,_=>False
   | _=>False
 | .store ty x y=>ev t w x λg=>ev t w y λu=>Fm w u λcs=>match look ty tt with
  | some i=>Zai i.zero.length w cs (match g with
   | .ptr k off=>match look k w with
    | some (.blk cells ty')=>ovr i.zero.length cells off cs λC=>K (put o.dst .un t) ((k,.blk C ty')::w) n
    | some (.lnk j)=>match mo.isVs,look j w,cs with
     | false,some (.slc A e 1),[c]=>Eh (off < A.length/\N6 c=true) (K (put o.dst .un t) ((j,.slc (A.set off [c]) e 1)::w) n)
     | _,_,_=>False
    | _=>False
   | .oel k j sz off=>match look k w with
    | some (.slc A e sz')=>match Nat.beq sz sz' with
     | true=>Zcm i.zero.length w cs λcs=>Zbt i.zero.length cs (EvSet A j (λrow k=>ovr i.zero.length row off cs k) λB=>K (put o.dst .un t) ((k,.slc B e sz)::w) n)
     | _=>False
    | _=>False
   | _=>False)
  | none=>False
 | .fieldAddr ty x f=>ev t w x λg=>match look ty tt with
  | none=>False
  | some i=>match nth i.flds f with
   | none=>False
   | some (_,fo)=>match g with
    | .ptr k off=>K (put o.dst (.ptr k (Nat.add off fo)) t) w n
    | .elp row off=>K (put o.dst (.elp row (Nat.add off fo)) t) w n
    | .oel k j sz off=>K (put o.dst (.oel k j sz (Nat.add off fo)) t) w n
    | _=>False
 | .field ty x f=>ev t w x λg=>Zb2 g λcs=>match look ty tt with
  | none=>False
  | some i=>match nth i.flds f with
   | none=>False
   | some (ft,fo)=>match look ft tt with
    | none=>False
    | some j=>match j.agg with
     | true=>seg cs fo j.zero.length λl=>Ha j.zero.length l λg=>K (put o.dst g t) w n
     | false=>match nth cs fo with
      | some g=>K (put o.dst g t) w n
      | none=>False
 | .indexAddr ty x i=>ev t w x λg=>ev t w i λq=>match q,look ty tt with
  | .v (.int .i64 j),some ⟨_,_,some (_,sz),_,_,_,_⟩=>match g with
   | .sl A=>EvIdx A j λrow=>match Nat.beq row.length sz with
    | true=>K (put o.dst (.elp row 0) t) w n
    | false=>False
   | .osl k=>match look k w with
    | some (.slc A _ sz')=>match Nat.beq sz' sz with
     | true=>(0<=j/\j < A.length)/\K (put o.dst (.oel k j.toNat sz 0) t) w n
     | false=>False
    | some (.vw A _ sz')=>match Nat.beq sz' sz with
     | true=>(0<=j/\j < A.length)/\K (put o.dst (.oel k j.toNat sz 0) t) w n
     | false=>False
    | _=>False
   | .osv k sz0 lo hi=>match look k w with
    | some (.slc _ _ sz')=>match Nat.beq sz' sz,Nat.beq sz0 sz with
     | true,true=>(0<=j/\j < (hi - lo:Nat))/\K (put o.dst (.oel k (lo+j.toNat) sz 0) t) w n
     | _,_=>False
    | _=>False
   | .orv k 0 0 off len _=>(0<=j/\j < len)/\K (put o.dst (.ptr k (Nat.add off (Nat.mul j.toNat sz))) t) w n
   | _=>False
  | .v (.int .i64 j),some ⟨_,_,none,_,_,_,.arr m _ sz⟩=>match g with
   | .ptr k off=>(0<=j/\j < m)/\K (put o.dst (.ptr k (Nat.add off (Nat.mul j.toNat sz))) t) w n
   | .elp row off=>(0<=j/\j < m)/\K (put o.dst (.elp row (Nat.add off (Nat.mul j.toNat sz))) t) w n
   | _=>False
  | _,_=>False
 | .sliceToArrayPointer ty x=>match look ty tt with
  | some ⟨_,_,none,_,false,_,.arr m _ 1⟩=>ev t w x λg=>match g with
   | .sl A=>Zbe A m λl=>K (put o.dst (.elp l 0) t) w n
   | _=>False
  | _=>False
 | .index ty x i=>match look ty tt with
  | some ⟨_,_,_,_,true,_,_⟩=>ev t w x λg=>ev t w i λq=>match q,g with
   | .v (.int .i64 j),.v (.string s)=>EvIdx s.data.toList j λc=>K (put o.dst (.v (.int .u8 c.toNat)) t) w n
   | _,_=>False
  | some ⟨_,_,none,_,false,_,.arr m e sz⟩=>ev t w x λg=>Zb2 g λcs=>ev t w i λq=>match q,look e tt with
   | .v (.int .i64 j),some ti=>(0<=j/\j < m)/\match ti.agg with
    | true=>seg cs (Nat.mul j.toNat sz) ti.zero.length λl=>Ha ti.zero.length l λg=>K (put o.dst g t) w n
    | false=>match nth cs (Nat.mul j.toNat sz) with
     | some g=>K (put o.dst g t) w n
     | none=>False
   | _,_=>False
  | _=>False
 | .slice ty x lo hi mx=>match mx with
  | some m=>match lo,hi,look ty tt with
   | none,some h,some ⟨_,_,some (_,sz),_,_,_,_⟩=>ev t w x λg=>ev t w h λp=>ev t w m λq=>match p,q with
    | .v (.int .i64 a),.v (.int .i64 b)=>Eh (a=b) (Z64 w g sz a λg=>K (put o.dst g t) w n)
    | _,_=>False
   | _,_,_=>False
  | none=>match look ty tt with
   | some ⟨_,_,none,_,true,_,_⟩=>ev t w x λg=>match g with
    | .v (.string s)=>evO t w lo 0 λl=>evO t w hi s.size λh=>Z0p l h s.size (K (put o.dst (.v (.string (s.extract l.toNat h.toNat))) t) w n)
    | _=>False
   | some ⟨_,_,some (_,sz),_,_,_,_⟩=>ev t w x λg=>slK w g sz (λK d=>evO t w lo d K) (λK d=>evO t w hi d K) λg=>K (put o.dst g t) w n
   | some ⟨_,_,none,_,false,_,.arr m _ 1⟩=>ev t w x λg=>Z4l t w n ty m lo hi g λg w n=>K (put o.dst g t) w n
   | some ⟨_,_,none,_,false,_,.arr m _ _⟩=>ev t w x λg=>Z4q t w m lo hi g λg=>K (put o.dst g t) w n
   | _=>False
 | .convert src dst x=>match look src tt,look dst tt with
  | some a,some b=>match a.str,b.elem with
   | true,some (e,_)=>match Z9i tt e with
    | true=>ev t w x λg=>match g with
     | .v (.string s)=>K (put o.dst (.sl (s.data.toList.map gBy)) t) w n
     | _=>False
    | false=>False
   | _,_=>ev t w x λg=>cvK w g a b (cvU tt a mo.xl) λg=>K (put o.dst g t) w n
  | _,_=>False
 | .binOp op ty x y _=>ev t w x λg=>ev t w y λq=>match Zba tt q op ty with
  | true=>S1 w g λA=>Zb7 A λb=>K (put o.dst (.v (.bool b)) t) w n
  | false=>Zbj P tt ty op g q λg=>K (put o.dst g t) w n
 | .unOp .not _ x=>ev t w x λg=>Zc0 g λg=>K (put o.dst g t) w n
 | .extract x i=>ev t w x λg=>match g with
  | .tup l=>match nth l i with
   | some g=>K (put o.dst g t) w n
   | none=>False
  | _=>False
 | .build ty parts=>match look ty tt with
  | none=>False
  | some i=>match i.flds with
   | []=>match i.kd with
    | .arr m _ sz=>Zaj t w m sz parts.toList i.zero λl=>Ha (Nat.mul m sz) l λg=>K (put o.dst g t) w n
    | _=>False
   | f::fs=>Z8r tt t w (f::fs) parts.toList i.zero λl=>Ha i.zero.length l λg=>K (put o.dst g t) w n
 | .buildSlice ty len parts=>match look ty tt with
  | some ⟨_,_,some (e,sz),_,_,_,_⟩=>match Nat.beq parts.toList.length len,Nat.ble (len * sz) 16777216 with
   | true,true=>bsK t sz parts.toList 0 w λA w'=>Zaf (Z6o tt mo ty sz) ((n,.slc A e sz)::w') n λg w''=>K (put o.dst g t) w'' (n+1)
   | _,_=>False
  | _=>False
 | .makeSlice ty len cap=>match look ty tt with
  | some ⟨_,_,some (e,sz),_,_,_,_⟩=>match look e tt with
   | some ⟨false,[z],_,_,_,_,_⟩=>match Nat.beq sz 1 with
    | true=>ev t w len λp=>ev t w cap λq=>match p,q with
     | .v (.int .i64 m),.v (.int .i64 c)=>(0<=m/\m<=1073741824/\c=m)/\K (put o.dst (.osl n) t) ((n,.slc (List.replicate m.toNat [z]) e 1)::w) (n+1)
     | _,_=>False
    | false=>False
   | some ⟨true,ze,_,_,_,_,_⟩=>match Nat.beq sz ze.length,Bp N6 ze with
    | true,true=>ev t w len λp=>ev t w cap λq=>match p,q with
     | .v (.int .i64 m),.v (.int .i64 c)=>(0<=m/\m<=1073741824/\c=m/\m * sz<=1073741824)/\K (put o.dst (.osl n) t) ((n,.slc (List.replicate m.toNat ze) e sz)::w) (n+1)
     | _,_=>False
    | _,_=>False
   | _=>False
  | _=>False
 | .call c=>match c.callee with
  | .builtin .len=>match c.args.toList,c.argTypes.toList with
   | [x],[ty]=>match look ty tt with
    | some ⟨_,_,none,_,true,_,_⟩=>ev t w x λg=>match g with
     | .v (.string s)=>K (put o.dst (.v (.int .i64 s.size)) t) w n
     | _=>False
    | some ⟨_,_,some _,_,_,_,_⟩=>ev t w x λg=>Zdg w g λm=>K (put o.dst (.v (.int .i64 m)) t) w n
    | some ⟨_,_,none,_,false,_,.map _ _⟩=>ev t w x λg=>match g with
     | .mp k=>match look k w,Fd k mo.xl with
      | some (.mpS l),false=>K (put o.dst (.v (.int .i64 l.length)) t) w n
      | some (.mpI l),false=>K (put o.dst (.v (.int .i64 l.length)) t) w n
      | _,_=>False
     | _=>False
    | _=>False
   | _,_=>False
  | .builtin .max=>match c.args.toList with
   | [x,y]=>ev t w x λg=>ev t w y λq=>match g,q with
    | .v (.int .i64 a),.v (.int .i64 b)=>K (put o.dst (.v (.int .i64 (max a b))) t) w n
    | _,_=>False
   | _=>False
  | .builtin .min=>match c.args.toList with
   | [x,y]=>ev t w x λg=>ev t w y λq=>match g,q with
    | .v (.int .i64 a),.v (.int .i64 b)=>K (put o.dst (.v (.int .i64 (min a b))) t) w n
    | _,_=>False
   | _=>False
  | .builtin .append=>match c.args.toList,c.argTypes.toList with
   | [x,y],[ty,ty']=>match Nat.beq ty ty',look ty tt with
    | true,some ⟨_,_,some (e,sz),_,_,_,_⟩=>ev t w x λg=>ev t w y λq=>Z1e w q sz λnew=>Z9a t w n o.dst g new e sz K
    | false,some ⟨_,_,some (e,sz),_,_,_,_⟩=>match Nat.beq sz 1,look ty' tt with
     | true,some ⟨_,_,_,_,true,_,_⟩=>ev t w x λg=>ev t w y λq=>Zav q λs=>Z6h t w n o.dst g (s.data.toList.map gBy) e 1 K
     | _,_=>False
    | _,_=>False
   | _,_=>False
  | .builtin .copy=>match c.args.toList,c.argTypes.toList with
   | [x,y],[ty,_]=>match look ty tt with
    | some ⟨_,_,some (_,1),_,_,_,_⟩=>ev t w x λg=>ev t w y λq=>Z1e w q 1 λnew=>match g with
     | .osl k=>match look k w with
      | some (.slc A e 1)=>K (put o.dst (.v (.int .i64 (min new.length A.length:Nat))) t) ((k,.slc (new.take (min new.length A.length)++A.drop (min new.length A.length)) e 1)::w) n
      | _=>False
     | .osv k 1 lo hi=>match look k w with
      | some (.slc A e 1)=>K (put o.dst (.v (.int .i64 (min new.length (hi - lo):Nat))) t) ((k,.slc (A.take lo++new.take (min new.length (hi - lo))++A.drop (lo+min new.length (hi - lo))) e 1)::w) n
      | _=>False
     | .orv k i sz off len _=>match look k w with
      | some (.slc A e sz')=>match Nat.beq sz sz' with
       | true=>Eh (off+len<=sz) (EvSet A i (λrow k=>k (row.take off++(new.take (min new.length len)).flatten++row.drop (off+min new.length len))) λB=>K (put o.dst (.v (.int .i64 (min new.length len:Nat))) t) ((k,.slc B e sz)::w) n)
       | false=>False
      | _=>False
     | _=>False
    | _=>False
   | _,_=>False
  | .value f=>match f with
   | .func f=>evs t w c.args.toList λgs=>Nu P f mo gs [] [] w n λg w n=>K (put o.dst g t) w n
   | .tmp d=>match look d t with
    | some (.clo f a b)=>evs t w c.args.toList λgs=>Nu P f mo gs a b w n λg w n=>K (put o.dst g t) w n
    | some (.v (.func (.func f) a b))=>match a.toList,b.toList with
     | [],[]=>evs t w c.args.toList λgs=>Nu P f mo gs [] [] w n λg w n=>K (put o.dst g t) w n
     | _,_=>False
    | _=>False
   | _=>False
  | _=>False
 | .makeFunc (.func f) a c=>evs t w a.toList λa=>evs t w c.toList λc=>match Bp G.cap a,Bp G.cap c with
  | true,true=>match Bp C8 a,Bp C8 c with
   | true,true=>match a,c with
    | [],[]=>K (put o.dst (.v (.func (.func f) #[] #[])) t) w n
    | _,_=>False
   | _,_=>K (put o.dst (.clo f a c) t) w n
  | _,_=>False
 | .makeMap ty none=>match Pc tt ty with
  | .map true _=>K (put o.dst (.mp n) t) ((n,.mpS [])::w) (n+1)
  | .map false _=>K (put o.dst (.mp n) t) ((n,.mpI [])::w) (n+1)
  | _=>False
 | .lookup ty x i ok=>match Pc tt ty with
  | .map str e=>match look e tt with
   | some ti=>ev t w x λg=>ev t w i λq=>Z7r w mo.xl g q str ti (lkK ok λg=>K (put o.dst g t) w n)
   | none=>False
  | _=>False
 | .mapUpdate ty m k x=>match Pc tt ty with
  | .map str _=>ev t w m λg=>ev t w k λq=>ev t w x λu=>Z4j w g q u str λw=>K (put o.dst .un t) w n
  | _=>False
 | .insert ty m k x=>match Pc tt ty with
  | .map str _=>ev t w m λg=>ev t w k λq=>ev t w x λu=>Z4j w g q u str λw=>K (put o.dst .un t) w n
  | _=>False
 | .nilCheck x=>ev t w x λg=>match g with
  | .ptr k off=>K (put o.dst (.ptr k off) t) w n
  | .clo f a c=>K (put o.dst (.clo f a c) t) w n
  | .v (.func (.func f) a c)=>K (put o.dst (.v (.func (.func f) a c)) t) w n
  | _=>False
 | _=>False
def sxG (mo:Mo)(ops:List Oper)(o:Oper)(t:Ts)(w:Os)(n:Nat)(K:Ts->Os->Nat->Prop):Prop:=match o.guard with
 | none=>J0 P tt mo o t w n K
 | some (j,want)=>match(nth ops j).bind (·.dst) with
  | none=>K (put o.dst .un t) w n
  | some d=>match look d t with
   | some .tt=>match want with
    | true=>J0 P tt mo o t w n K
    | false=>K (put o.dst .un t) w n
   | some .ff=>match want with
    | false=>J0 P tt mo o t w n K
    | true=>K (put o.dst .un t) w n
   | some .un=>K (put o.dst .un t) w n
   | some (.v (.bool b))=>match want with
    | true=>EvIf b (J0 P tt mo o ((d,.tt)::t) w n K) (K (put o.dst .un ((d,.ff)::t)) w n)
    | false=>EvIf b (K (put o.dst .un ((d,.tt)::t)) w n) (J0 P tt mo o ((d,.ff)::t) w n K)
   | _=>False
abbrev MO:=Ts->Os->Nat->(Ts->Os->Nat->Prop)->Prop
def Zen (ops:List Oper)(o:Oper)(_:List Oper)(b:MO):MO:=λt w n K=>sxG P tt .row ops o t w n λt w n=>b t w n K
def Zel:MO:=λt w n K=>K t w n
def sxO (ops:List Oper)(l:List Oper):MO:=@List.rec Oper (λ_=>MO) Zel (Zen P tt ops) l
def isQ (o:Oper):Bool:=match o.op with
 | .convert src dst _=>match look src tt,look dst tt with
  | some a,some b=>match a.str,b.elem with
   | true,some _=>false
   | _,_=>true
  | _,_=>true
 | .assign x=>match x with
  | .const (.slice none 0 0)=>false
  | _=>true
 | .move _ | .pick _ _ _ | .makeFunc _ _ _ | .lookup _ _ _ _ | .load _ _ | .nilCheck _ | .sliceToArrayPointer _ _ | .fieldAddr _ _ _ | .field _ _ _ | .indexAddr _ _ _ | .index _ _ _ | .binOp _ _ _ _ _ | .unOp _ _ _ | .extract _ _ | .build _ _=>true
 | .slice ty _ _ _ _=>match look ty tt with
  | some ⟨_,_,none,_,false,_,.arr _ _ _⟩=>false
  | _=>true
 | .call c=>match c.callee with
  | .builtin .len | .builtin .max | .builtin .min=>true
  | _=>false
 | _=>false
def Zbx (ty:TypeId):Bool:=match Pc tt ty with
 | .ptr | .fn | .map _ _=>true
 | _=>false
def Ze8:G->Bool
 | .v (.pointer none)=>true
 | _=>false
def Zdi:Nat->List G->Bool
 | 0,_=>false
 | _,[]=>false
 | n+1,g::l=>bif Ze8 g then true else Zdi n l
def Ze6 (ty:TypeId):Bool:=match Zbx tt ty with
 | true=>true
 | false=>match look ty tt with
  | some ⟨true,z,_,_,_,_,_⟩=>Zdi 8 z
  | _=>false
def isL (o:Oper):Bool:=match o.op with
 | .store _ _ _ | .mapUpdate _ _ _ _ | .insert _ _ _ _ | .next _ _ | .entry _=>true
 | .call c=>match c.callee with
  | .builtin .append=>true
  | .builtin .copy=>true
  | .builtin .delete=>true
  | .value (.func _)=>Mg (Ze6 tt) c.argTypes.toList
  | .value _=>true
  | _=>false
 | _=>false
def Z8v (l:List Bool)(i:Nat):Bool:=match nth l i with
 | some b=>b
 | none=>false
def Vj:List Bool->Nat->List Bool
 | [],_=>[]
 | _::l,0=>true::l
 | b::l,i+1=>b::Vj l i
def Gg (l:List Bool):List Edge->Bool
 | []=>true
 | e::es=>bif (!Region.binds .any e||Z8v l e.on) then Gg l es else false
def rdy (l:List Bool):List Oper->List Bool->Nat->List Nat
 | o::os,b::bs,i=>bif (!b&&Gg l o.after.toList) then i::rdy l os bs (i+1) else rdy l os bs (i+1)
 | _,_,_=>[]
def Lv (b:List Nat)(ops:List Oper):List Nat->Option Nat
 | []=>none
 | i::l=>match nth ops i with
  | some o=>bif isQ tt o&&!Fd i b then some i else Lv b ops l
  | none=>Lv b ops l
def Za9 (o:Oper):Bool:=match o.op with
 | .buildSlice _ _ _=>true
 | _=>false
def isE (ops:List Oper)(o:Oper):Bool:=match o.op with
 | .call c=>match c.callee,c.args.toList with
  | .builtin .append,.tmp d::_=>Mg (λo=>match o.dst,Za9 o with
   | some e,true=>Nat.beq d e
   | _,_=>false) ops
  | _,_=>false
 | _=>false
def Zdz (ops:List Oper):Bool:=Mg (isE ops) ops
def Zce (ty:TypeId):Bool:=match look ty tt with
 | some ⟨false,[_],none,_,_,_,.no⟩=>true
 | some ⟨false,[_],none,_,_,_,.bool⟩=>true
 | _=>false
def Z7i (o:Oper):Bool:=match o.guard,o.op with
 | none,.call c=>match c.callee with
  | .value (.func _)=>Bp (Zce tt) c.argTypes.toList
  | _=>false
 | _,_=>false
def Zda:List Oper->Nat
 | []=>0
 | o::l=>bif Z7i tt o then Zda l+1 else Zda l
def Qs (ops:List Oper):List Nat->Option Nat
 | []=>none
 | i::l=>match nth ops i with
  | some o=>bif Z7i tt o then some i else Qs ops l
  | none=>Qs ops l
def Zan (ops:List Oper)(rs:List Nat):Option Nat:=match Nat.ble 4 (Zda tt ops)||Zdz ops with
 | true=>Qs tt ops rs
 | false=>none
def Zca (f:Nat->Prop)(i:Nat)(l:List Nat)(b:Prop):Prop:=match l with
 | []=>f i
 | _::_=>f i/\b
def Zam (f:Nat->Prop)(l:List Nat):Prop:=@List.rec Nat (λ_=>Prop) True (Zca f) l
def isR (o:Oper):Bool:=match o.op with
 | .load _ _ | .convert _ _ _ | .lookup _ _ _ _=>true
 | .call c=>match c.callee with
  | .builtin .len=>Mg (Zbx tt) c.argTypes.toList
  | _=>false
 | _=>false
def noB:List Oper->List Bool
 | []=>[]
 | _::l=>false::noB l
def Ml {α:Type}:List Bool->Nat->(List Bool->α)->α
 | [],_,K=>K []
 | _::l,0,K=>K (true::l)
 | b::l,i+1,K=>Ml l i λr=>K (b::r)
def Wa {α:Type}:List Edge->List Bool->(List Bool->α)->α
 | [],m,K=>K m
 | e::es,m,K=>match Region.binds .any e with
  | true=>Ml m e.on λm=>Wa es m K
  | false=>Wa es m K
def Im {α:Type}(ops:List Oper):Nat->List Bool->(List Bool->α)->α
 | 0,m,K=>K m
 | n+1,m,K=>match Z8v m n with
  | true=>match nth ops n with
   | some o=>Wa o.after.toList m λm=>Im ops n m K
   | none=>Im ops n m K
  | false=>Im ops n m K
def Zch (c:List Nat):List Oper->List Bool->Nat->Bool
 | o::l,b::m,i=>bif isR tt o&&(!b&&!Fd i c) then false else Zch c l m (i+1)
 | _,_,_=>true
def Kc {α:Type}(b:List Nat)(ops:List Oper):List Oper->Nat->(List Nat->α)->α
 | [],_,K=>K []
 | o::l,i,K=>match isL tt o with
  | true=>Ml (noB ops) i λm=>Im ops (i+1) m λm=>match Zch tt b ops m 0 with
   | true=>Kc b ops l (i+1) λr=>K (i::r)
   | false=>Kc b ops l (i+1) K
  | false=>Kc b ops l (i+1) K
def Zct:List Oper->Nat->Option Nat
 | [],_=>none
 | o::l,d=>match o.dst with
  | some e=>match Nat.beq e d with
   | true=>match o.op with
    | .fieldAddr _ (.tmp b) _=>some b
    | .move (.tmp b)=>some b
    | .nilCheck (.tmp b)=>some b
    | _=>none
   | false=>Zct l d
  | none=>Zct l d
def Z73 (ops:List Oper):Nat->Nat->Nat
 | 0,d=>d
 | n+1,d=>match Zct ops d with
  | some b=>Z73 ops n b
  | none=>d
def Zet (ops:List Oper)(r:Nat)(o:Oper):Bool:=match o.op with
 | .call c=>match c.callee with
  | .value _=>Mg (λx=>match x with
   | .tmp a=>Nat.beq (Z73 ops 8 a) r
   | _=>false) c.args.toList
  | _=>false
 | _=>false
def Zcn (ops:List Oper)(i r:Nat):List Oper->Nat->Bool
 | [],_=>false
 | o::l,j=>match isL tt o&&Zet ops r o with
  | true=>Ml (noB ops) j λm=>Im ops (j+1) m λm=>match Z8v m i with
   | true=>Zcn ops i r l (j+1)
   | false=>true
  | false=>Zcn ops i r l (j+1)
def Zbl (c:Bool):List Oper->Nat->Option Nat
 | [],_=>none
 | o::l,d=>match o.dst with
  | some e=>match Nat.beq e d with
   | true=>match o.op,c with
    | .indexAddr _ (.tmp b) _,false=>some b
    | .load _ (.tmp b),true=>some b
    | _,_=>none
   | false=>Zbl c l d
  | none=>Zbl c l d
def elS (ops:List Oper)(d:Nat):Nat:=match Zbl false ops d with
 | some b=>match Zbl true ops b with
  | some a=>a
  | none=>d
 | none=>d
def Zdf (ops:List Oper)(i:Nat)(o:Oper):Bool:=match o.op with
 | .load _ (.tmp d)=>match Zdz ops with
  | true=>true
  | false=>Zcn tt ops i (Z73 ops 8 (elS ops d)) ops 0
 | _=>false
def Z1d {α:Type}(ops:List Oper):List Oper->Nat->(List Nat->α)->α
 | [],_,K=>K []
 | o::l,i,K=>match Zdf tt ops i o with
  | true=>Z1d ops l (i+1) λr=>K (i::r)
  | false=>Z1d ops l (i+1) K
def Z36:List Oper->Nat->Option Nat
 | [],_=>none
 | o::l,d=>match o.dst with
  | some e=>match Nat.beq e d with
   | true=>match o.op with
    | .fieldAddr _ (.tmp b) _=>some b
    | .indexAddr _ (.tmp b) _=>some b
    | .move (.tmp b)=>some b
    | .nilCheck (.tmp b)=>some b
    | _=>none
   | false=>Z36 l d
  | none=>Z36 l d
def Lq (t:Ts)(ops:List Oper):Nat->Nat->Option Nat
 | 0,_=>none
 | n+1,d=>match look d t with
  | some (.ptr k _)=>some k
  | some _=>none
  | none=>match Z36 ops d with
   | some b=>Lq t ops n b
   | none=>none
def vaC {α:Type}(g:G)(ks:List Nat)(K:List Nat->α):α:=match g with
 | .ptr k _=>H9 k ks K
 | _=>K ks
def Zbo {α:Type}:List G->List Nat->(List Nat->α)->α
 | [],ks,K=>K ks
 | g::l,ks,K=>vaC g ks λks=>Zbo l ks K
def va1 {α:Type}(g:G)(ks:List Nat)(K:List Nat->α):α:=match g with
 | .clo _ a c=>Zbo a ks λks=>Zbo c ks K
 | g=>vaC g ks K
def vaL {α:Type}(t:Ts)(ops:List Oper):List Operand->List Nat->(List Nat->α)->α
 | [],r,K=>K r
 | x::l,r,K=>match x with
  | .tmp d=>match look d t with
   | some g=>va1 g r λr=>vaL t ops l r K
   | none=>match Lq t ops 8 d with
    | some k=>H9 k r λr=>vaL t ops l r K
    | none=>vaL t ops l r K
  | _=>vaL t ops l r K
def Y0 (t:Ts)(ops:List Oper):Nat->Nat->Option Nat
 | 0,_=>none
 | n+1,d=>match look d t with
  | some (.osl k)=>some k
  | some _=>none
  | none=>match Z36 ops d with
   | some b=>Y0 t ops n b
   | none=>none
def vsS {α:Type}(t:Ts)(ops:List Oper):List Operand->List Nat->(List Nat->α)->α
 | [],r,K=>K r
 | .tmp d::l,r,K=>match Y0 t ops 8 d with
  | some k=>H9 k r λr=>vsS t ops l r K
  | none=>vsS t ops l r K
 | _::l,r,K=>vsS t ops l r K
def Z32 {α:Type}(w:Os):List G->List Nat->(List Nat->α)->α
 | [],r,K=>K r
 | g::l,r,K=>match g with
  | .osl k=>match look k w with
   | some _=>H9 k r λr=>Z32 w l r K
   | none=>Z32 w l r K
  | _=>Z32 w l r K
def Zd2:List Oper->Nat->Option Nat
 | [],_=>none
 | o::l,d=>match o.dst with
  | some e=>match Nat.beq e d with
   | true=>match o.op with
    | .load _ (.tmp b)=>some b
    | _=>none
   | false=>Zd2 l d
  | none=>Zd2 l d
def ldS {α:Type}(t:Ts)(w:Os)(ops:List Oper)(x:Operand)(r:List Nat)(K:List Nat->α):α:=match x with
 | .tmp d=>match look d t with
  | some _=>K r
  | none=>match Zd2 ops d with
   | some b=>match Lq t ops 8 b with
    | some k=>match look k w with
     | some (.blk cs _)=>Z32 w cs r K
     | _=>K r
    | none=>K r
   | none=>K r
 | _=>K r
def Zaa (tt:List (Nat × TI))(ty:TypeId):Bool:=match Pc tt ty with
 | .fn=>true
 | _=>false
def Zdk {α:Type}(b:Bool)(t:Ts)(ops:List Oper)(l:List Operand)(r:List Nat)(K:List Nat->α):α:=match b with
 | true=>vsS t ops l r K
 | false=>K r
def Zax {α:Type}:Os->List Nat->(List Nat->α)->α
 | [],r,K=>K r
 | (k,q)::l,r,K=>match q with
  | .abs _=>H9 k r λr=>Zax l r K
  | .fam _=>H9 k r λr=>Zax l r K
  | _=>Zax l r K
def Zak {α:Type}:Os->List Nat->(List Nat->α)->α
 | [],r,K=>K r
 | (k,q)::l,r,K=>match q with
  | .mpI _=>H9 k r λr=>Zak l r K
  | .mpS _=>H9 k r λr=>Zak l r K
  | _=>Zak l r K
def Zag (tt:List (Nat × TI))(ty:TypeId):Bool:=match Pc tt ty with
 | .map _ _=>true
 | _=>false
def Sr {α:Type}(late:List Nat)(t:Ts)(w:Os)(ops:List Oper):List Oper->Nat->List Nat->(List Nat->α)->α
 | [],_,r,K=>K r
 | o::l,i,r,K=>match isL tt o&&!Fd i late,o.op with
  | true,.store _ (.tmp d) _=>match Lq t ops 8 d with
   | some k=>H9 k r λr=>Sr late t w ops l (i+1) r K
   | none=>Sr late t w ops l (i+1) r K
  | true,.call c=>match c.callee with
   | .value f=>vaL t ops (f::c.args.toList) r λr=>Zdk (Mg (Zaa tt) c.argTypes.toList) t ops c.args.toList r λr=>Zax w r λr=>match Mg (Zag tt) c.argTypes.toList with
    | true=>Zak w r λr=>Sr late t w ops l (i+1) r K
    | false=>Sr late t w ops l (i+1) r K
   | .builtin .append=>match c.args.toList with
    | x::_=>vsS t ops [x] r λr=>ldS t w ops x r λr=>Sr late t w ops l (i+1) r K
    | _=>Sr late t w ops l (i+1) r K
   | _=>Sr late t w ops l (i+1) r K
  | _,_=>Sr late t w ops l (i+1) r K
def vsB (XL:List Nat)(t:Ts)(o:Oper):Bool:=match o.guard,o.op with
 | none,.store _ (.tmp d) _=>match look d t with
  | some (.ptr k _)=>Fd k XL
  | _=>false
 | none,.call c=>match c.callee with
  | .value _=>true
  | .builtin .append=>match c.args.toList with
   | .tmp d::_=>match look d t with
    | some (.osl k)=>Fd k XL
    | some .nl=>true
    | _=>false
   | _=>false
  | _=>false
 | _,_=>false
def vsG (XL:List Nat)(t:Ts)(o:Oper):Bool:=match o.guard with
 | none=>vsB XL t o
 | some _=>match o.op with
  | .call c=>match c.callee with
   | .value _=>true
   | _=>false
  | _=>false
def Z96 (w:Os)(XL:List Nat):Bool:=Bp (λk=>match look k w with | some _=>true | none=>false) XL
abbrev MD:=List Bool->Ts->Os->Nat->(Ts->Os->Nat->Prop)->Prop
def Z93 {α:Type}:List Oper->List Nat->(List Nat->α)->α
 | [],r,K=>K r
 | o::l,r,K=>match o.dst with
  | some d=>H9 d r λr=>Z93 l r K
  | none=>Z93 l r K
def Z7u {α:Type}:Ts->List Nat->(List Nat->α)->α
 | [],r,K=>K r
 | (i,_)::l,r,K=>H9 i r λr=>Z7u l r K
def Yk (t:Ts):List Nat->Ts->(Ts->Prop)->Prop
 | [],acc,K=>K acc
 | i::l,acc,K=>match look i t with
  | some g=>Yk t l ((i,g)::acc) K
  | none=>Yk t l acc K
def Z3o (w:Os)(n:Nat):Os->(Os->Prop)->Prop:=@Nat.rec (λ_=>Os->(Os->Prop)->Prop) (λb K=>K b) (λi c b K=>match look i w with
 | some r=>c ((i,r)::b) K
 | none=>c b K) n
def brK (ops:List Oper)(t:Ts)(K:Ts->Os->Nat->Prop)(c:(Ts->Os->Nat->Prop)->Prop):List Nat->Prop
 | _::_::_=>Z93 ops [] λL=>Z7u t L λL=>c λt w n=>Yk t L [] λt=>Z3o w n [] λw=>K t w n
 | _=>c K
def Zd7 (t:Ts)(w:Os):List Operand->(List G->Prop)->Prop
 | [],K=>K []
 | x::l,K=>ev t w x λg=>match Z5j (Z1f g) with
  | some _=>Zd7 t w l λgs=>K (Z1f g::gs)
  | none=>False
def Z6v (P:Program)(o:Oper)(t:Ts)(w:Os)(K:Ts->Prop):Prop:=match o.op with
 | .call c=>match c.callee with
  | .value (.func f)=>Zd7 t w c.args.toList λgs=>Z6t P f gs λg=>K (put o.dst g t)
  | _=>False
 | _=>False
def Zeo:MD:=λ_ t w n K=>K t w n
def Zd1 (XL c late:List Nat)(ops:List Oper)(_:Oper)(_:List Oper)(b:MD):MD:=λl t w n K=>match Lv tt c ops (rdy l ops l 0) with
  | some i=>match nth ops i with
   | some o=>match Z96 w XL with
    | true=>sxG P tt (.quiet XL) ops o t w n λt w n=>Ml l i λl=>b l t w n K
    | false=>False
   | none=>False
  | none=>match Zan tt ops (rdy l ops l 0) with
   | some i=>match nth ops i with
    | some o=>Z6v P o t w λt=>Ml l i λl=>b l t w n K
    | none=>False
   | none=>match rdy l ops l 0 with
    | []=>K t w n
    | rs=>brK ops t K (λK=>Zam (λi=>match nth ops i with
     | some o=>match isL tt o with
      | false=>sxG P tt .new ops o t w n λt w n=>Ml l i λl=>b l t w n K
      | true=>match Fd i late with
       | true=>sxG P tt .late ops o t w n λt w n=>Ml l i λl=>b l t w n K
       | false=>match vsG XL t o,Z96 w XL with
        | true,true=>sxG P tt (.vs XL) ops o t w n λt w n=>Ml l i λl=>b l t w n K
        | _,_=>False
     | none=>False) rs) rs
def sxD (XL b late:List Nat)(ops:List Oper)(fu:List Oper):MD:=@List.rec Oper (λ_=>MD) Zeo (Zd1 P tt XL b late ops) fu
def Z0h:List Operand->List Nat
 | []=>[]
 | .tmp i::l=>i::Z0h l
 | _::l=>Z0h l
def Py (o:Oper):List Nat:=Z0h o.op.operands.toList
def Z7k (t:Ts):List Nat->Ts
 | []=>[]
 | i::l=>match look i t with
  | some g=>(i,g)::Z7k t l
  | none=>Z7k t l
def Z8g (o:Oper)(t:Ts)(own:Os)(n d:Nat)(g:G):Prop :=
 J0 P tt .new o (Z7k t (Py o)) own n λc own' h=>match isQ tt o with
  | true=>look d c=some g
  | false=>∃b e sz,(h=n+1/\own'=(n,.slc b e sz)::own)/\look d c=some (.osl n)/\g=.sl b
abbrev MI:=Ts->(Ts->Prop)->Prop
def Zd5 (own:Os)(c:Nat)(o:Oper)(_:List Oper)(b:MI):MI:=λt K=>match o.dst with
 | none=>False
 | some d=>∃g,(∀n,c<=n->Z8g P tt o t own n d g)/\b ((d,g)::t) K
def sxI (own:Os)(b:Nat)(l:List Oper):MI:=@List.rec Oper (λ_=>MI) (λt K=>K t) (Zd5 P tt own b) l
def Z8k:List Oper->Nat
 | []=>0
 | o::l=>bif Za9 o then Z8k l+1 else Z8k l
def Z5m:List Oper->Nat->(Nat->Prop)->Prop
 | [],n,K=>K n
 | o::l,n,K=>match isQ tt o with
  | true=>Z5m l n K
  | false=>Z5m l (n+1) K
def Z5y:List Oper->Nat->Nat->Option Nat
 | [],_,_=>none
 | o::l,s,i=>match o.dst with
  | some d=>bif Nat.beq d s then some i else Z5y l s (i+1)
  | none=>Z5y l s (i+1)
def Zdq (ops:List Oper)(o:Oper)(s:Nat):Bool:=match Z5y ops s 0 with
 | none=>true
 | some j=>Mg (λe=>Region.binds .any e&&Nat.beq e.on j) o.after.toList
def Zd9 (ops l:List Oper)(i:Nat)(o:Oper):Bool:=match o.guard,o.dst with
 | none,some d=>(isQ tt o||Za9 o)&&(match Z5y l d 0 with
  | none=>true
  | some _=>false)&&Bp (λe=>!Region.binds .any e||Nat.blt e.on i) o.after.toList&&Bp (Zdq ops o) (Py o)
 | _,_=>false
def Zc2 (ops:List Oper):List Oper->Nat->Bool
 | [],_=>true
 | o::l,i=>Zd9 tt ops l i o&&Zc2 ops l (i+1)
def Z5k (ops:Array Oper):Bool:=Nat.ble 4 (Z8k ops.toList)&&Zc2 tt ops.toList ops.toList 0
inductive Ex where
 | normal
 | exit (id:Nat)
 | ret
 | goto (l:Nat)
abbrev KC:=Ex->Ts->Os->Nat->Prop
def leT (m:List (Nat × Nat))(t:Ts)(n:Nat):Ts->Prop
 | []=>True
 | (i,g)::r=>(Z1g n g=true/\look i t=some (renS m g))/\leT m t n r
def leO (m:List (Nat × Nat))(w:Os)(n:Nat):Os->Prop
 | []=>True
 | (k,r)::l=>((Nat.blt k n&&(isS r||Nat.beq ((look k m).getD k) k))=true/\Yi n r=true/\look ((look k m).getD k) w=some (Z2d m r))/\leO m w n l
def le (m:List (Nat × Nat))(t:Ts)(w:Os)(n:Nat)(b:Ts)(w':Os):Prop :=
 leT m t n b/\leO m w n w'/\Rf (w'.map λp=>(look p.1 m).getD p.1)=true
def mkM (t:Ts):Ts->List (Nat × Nat)
 | []=>[]
 | (i,.osl k)::l=>match look i t with
  | some (.osl j)=>(k,j)::mkM t l
  | _=>mkM t l
 | _::l=>mkM t l
def Z0z {X:Type}(h:X->Ts × Os)(d:X->Ts)(I:X->Prop)(μ:X->Nat)(n:Nat)(x:X)(K:KC):KC:=λe b w' c=>match e with
 | .normal=>∃y,I y/\μ y < μ x/\le (mkM b (d y)) b w' n (h y).1 (h y).2
 | .exit id=>K (.exit id) b w' c
 | .ret=>K .ret b w' c
 | .goto l=>K (.goto l) b w' c
abbrev MC:=Ts->Os->Nat->KC->Prop
def Yj (_ _:Code)(x y:MC):MC:=λt w n K=>x t w n λe t w n=>match e with
  | .normal=>y t w n K
  | .exit id=>K (.exit id) t w n
  | .ret=>K .ret t w n
  | .goto l=>K (.goto l) t w n
def Xa (c:Operand)(_ _:Code)(x y:MC):MC:=λt w n K=>ev t w c λg=>match g with
  | .tt=>x t w n K
  | .ff=>y t w n K
  | .v (.bool c)=>EvIf c (x t w n K) (y t w n K)
  | _=>False
def Sx (id:Nat)(_:Code)(x:MC):MC:=λt w n K=>x t w n λe t w n=>match e with
  | .normal=>K .normal t w n
  | .exit id'=>bif Nat.beq id' id then K .normal t w n else K (.exit id') t w n
  | .ret=>K .ret t w n
  | .goto l=>K (.goto l) t w n
def Ot {X:Type}(h:X->Ts × Os)(I:X->Prop)(μ:X->Nat)(n:Nat)(x:X)(K:KC):KC:=λe b w' c=>match e with
 | .normal=>∃(y:X) (m:List (Nat × Nat)),I y/\μ y < μ x/\le m b w' n (h y).1 (h y).2
 | .exit id=>K (.exit id) b w' c
 | .ret=>K .ret b w' c
 | .goto l=>K (.goto l) b w' c
def Uz {X:Type}(j:X->Ts × Os)(_:X->Ts)(I:X->Prop)(μ:X->Nat)(n:Nat)(x:X)(K:KC):KC:=λe c w' m=>Gh (λb h=>Ot j I μ n x K e c b h) w' m
def Zef (b:Bool){X:Type}(c:X->Ts × Os)(d:X->Ts)(I:X->Prop)(μ:X->Nat)(n:Nat)(x:X)(K:KC):KC:=match b with
 | false=>Z0z c d I μ n x K
 | true=>Uz c d I μ n x K
def Qu (_:Code)(x:MC):MC:=λt w0 h K=>Gh (λw n=>∃(b:Bool) (X:Type) (c:X->Ts × Os) (d:X->Ts) (I:X->Prop) (μ:X->Nat),
      (∃x,I x/\le [] t w n (c x).1 (c x).2)/\∀y,I y->x (c y).1 (c y).2 n (Zef b c d I μ n y K)) w0 h
def Z6g (_:Nat)(ops:Array Oper)(d:Bool):MC:=λt w n K=>match d with
  | false=>sxO P tt ops.toList ops.toList t w n (K .normal)
  | true=>match Z5k tt ops with
   | true=>sxI P tt w n ops.toList t λt=>Z5m tt ops.toList n λn=>K .normal t w n
   | false=>Z1d tt ops.toList ops.toList 0 λb=>Kc tt b ops.toList ops.toList 0 λlate=>Sr tt late t w ops.toList ops.toList 0 [] λXL=>trK w 3 XL λXL=>sxD P tt XL b late ops.toList ops.toList (noB ops.toList) t w n (K .normal)
def Y5 (e:Ex):MC:=λt w n K=>K e t w n
def Zdy:MC:=λ_ _ _ _=>False
def Mj (m:MC):MC:=λt w n K=>m t w n λe t w n=>match e with
  | .normal=>K .normal t w n
  | .exit id=>K (.exit id) t w n
  | .ret=>K .ret t w n
  | .goto _=>False
def Tg:Code->Option Nat
 | .seq a b=>match Tg a with
  | some l=>some l
  | none=>Tg b
 | .label l=>some l
 | _=>none
abbrev MP:=Bool->MC
def T6 (x:Code)(m:MP):MC:=match Tg x with
 | none=>Mj (m true)
 | some l=>λt w n K=>m true t w n λe t w n=>match e with
  | .normal=>K .normal t w n
  | .exit id=>K (.exit id) t w n
  | .ret=>K .ret t w n
  | .goto l'=>bif Nat.beq l' l then Mj (m false) t w n K else False
def Zej (x y:Code)(p q:MP):MP:=λb=>match b with
 | true=>Yj x y (p true) (q true)
 | false=>match Tg x with
  | some _=>Yj x y (p false) (q true)
  | none=>q false
def sxM (c:Code):MP:=@Code.rec (λ_=>MP) (λ_=>Y5 .normal) (λi o d _=>Z6g P tt i o d) Zej (λc x y p q _=>Xa c x y (p true) (q true)) (λi x p _=>Sx i x (p true)) (λx p _=>Qu x (p true)) (λ_ _ _ _ _ _ _=>Zdy) (λid _=>Y5 (.exit id)) (λx p _=>T6 x p) (λ_ _=>Y5 .normal) (λl _=>Y5 (.goto l)) (λ_=>Y5 .ret) (λ_ _=>Zdy) c
def sxC (c:Code):MC:=sxM P tt c true
def Z8h (t:Ts)(w:Os)(K:G->Os->Prop):ResultVar->Prop
 | .tmp i=>match look i t with
  | some g=>pur w g K
  | none=>False
 | .cell i ty=>match look i t,look ty tt with
  | some (.ptr k off),some i=>match look k w with
   | some (.blk cs _)=>match i.agg with
    | true=>seg cs off i.zero.length λl=>Z8q l w λb w'=>K (.agg b) w'
    | false=>match nth cs off with
     | some g=>Z42 w g K
     | none=>False
   | _=>False
  | _,_=>False
def Z85 (t:Ts)(w:Os):List ResultVar->(List G->Prop)->Prop
 | [],K=>K []
 | r::l,K=>Z8h tt t w (λg w'=>Z85 t w' l λgs=>K (g::gs)) r
def Z9o (fn:Func)(Q:G->Prop):KC:=λe t w _=>match e with
 | .exit _=>False
 | .goto _=>False
 | _=>match fn.results.toList with
  | [r]=>Z85 tt t w [r] λgs=>match gs with
   | [g]=>Q g
   | _=>False
  | rs=>Z85 tt t w rs λgs=>Q (.tup gs)
def Ws (t:Ts)(w:Os)(K:G->Os->Prop):ResultVar->Prop
 | .tmp i=>match look i t with
  | some g=>Zb0 w g K
  | none=>False
 | .cell i ty=>Z8h tt t w K (.cell i ty)
def T7 (t:Ts)(w:Os):List ResultVar->(List G->Os->Prop)->Prop
 | [],K=>K [] w
 | r::rs,K=>Ws tt t w (λg w'=>T7 t w' rs λgs w''=>K (g::gs) w'') r
structure It where
 O:Os
 m:List (Nat × Nat)
 c:Bool
def It.root (i:It):Nat:=(look 0 i.m).getD 0
def It.keys (i:It):List Nat:=i.O.map λp=>(look p.1 i.m).getD p.1
def keysL:List It->List Nat
 | []=>[]
 | i::l=>i.keys++keysL l
def Jh:Nat->List G->Ts
 | _,[]=>[]
 | i,g::l=>(i,g)::Jh (i+1) l
def It.res:It->R
 | ⟨O,_,true⟩=>.abs (cl O)
 | ⟨O,_,false⟩=>match look 0 O with
  | some r=>r
  | none=>.gone
def Dy:List It->Nat->List (Nat × Nat)
 | [],_=>[]
 | i::l,j=>(j,i.root)::Dy l (j+1)
def It.ok (own:Os)(n b N:Nat)(M:List (Nat × Nat))(j:Nat)(i:It):Prop:=match i.c with
 | true=>leI i.m own n i.O/\∃r,look 0 i.O=some r
 | false=>∃r,i.O=[(0,r)]/\look i.root own=some (Kn M r)/\(Yi N r&&((match r with | .blk cs _=>Bp (Zbk b) cs | _=>true)&&(!(match r with | .slc _ _ _ | .froz _ _ | .vw _ _ _=>true | _=>false)||Nat.ble b j)))=true
def Z65 (own:Os)(n b N:Nat)(M:List (Nat × Nat)):Nat->List It->Prop
 | _,[]=>True
 | j,i::l=>i.ok own n b N M j/\Z65 own n b N M (j+1) l
def Zbz:G->Bool
 | .osv _ _ _ _ | .oel _ _ _ _ | .orv _ _ _ _ _ _ | .clo _ _ _=>false
 | _=>true
def Zdr:G->Bool
 | .tup l=>Bp Zbz l
 | g=>Zbz g
def Z2a (b:Nat):G->Bool
 | .oag l=>Bp (Zbk b) l
 | .osl k=>Nat.ble b k
 | _=>true
def Zdv (b:Nat):G->Bool
 | .tup l=>Bp (Z2a b) l
 | g=>Z2a b g
structure X0 (roots:List Nat)(own:Os)(n:Nat)(g:G)(Q:G->List R->Prop)(its:List It)(g':G):Prop where
 ok:Z65 own n roots.length its.length (Dy its 0) 0 its
 nod:Rf (keysL its)=true
 rts:∃l,its.map It.root=roots++l
 res:Qp (Dy its 0) g'=g
 key:(Z1g its.length g'&&Zdr g'&&Zdv roots.length g')=true
 post:Q g' (its.map It.res)
def Z62 (fn:Func)(b:List Nat)(Q:G->List R->Prop):KC:=λe t w n=>match e with
 | .exit _=>False
 | .goto _=>False
 | _=>match fn.results.toList with
  | [r]=>T7 tt t w [r] λgs own=>match gs with
   | [g]=>∃c h,X0 b own n g Q c h
   | _=>False
  | rs=>T7 tt t w rs λgs own=>∃c h,X0 b own n (.tup gs) Q c h
def Pf (t:Ts)(n:Nat):List Nat->Ts
 | []=>[]
 | i::l=>match look i t with
  | some g=>match Z1g n g with
   | true=>(i,g)::Pf t n l
   | false=>Pf t n l
  | none=>Pf t n l
def Ok (t:Os)(n:Nat):List Nat->Os
 | []=>[]
 | i::l=>match look i t,Nat.blt i n with
  | some g,true=>match Yi n g with
   | true=>(i,g)::Ok t n l
   | false=>Ok t n l
  | _,_=>Ok t n l
theorem Z6k (m:List (Nat × Nat))(t a b:Ts)(n:Nat)(ha:leT m t n a)(c:leT m t n b):leT m t n (a++b):=by
 induction a with
 | nil=>exact c
 | cons p a ih=>exact⟨ha.1,ih ha.2⟩
theorem Z71 (m:List (Nat × Nat))(t a b:Os)(n:Nat)(ha:leO m t n a)(c:leO m t n b):leO m t n (a++b):=by
 induction a with
 | nil=>exact c
 | cons p a ih=>exact⟨ha.1,ih ha.2⟩
theorem Uc (g:G):M5 [] g=g:=by cases g<;>rfl
theorem No (g:G):Z1b [] g=g:=by
 cases g with
 | oag l=>simp only[Z1b,funext Uc];simp
 | clo f a c=>simp only[Z1b,funext Uc];simp
 | _=>rfl
theorem Z4m (g:G):Qp [] g=g:=by
 cases g with
 | tup l=>simp only[Qp,funext No];simp
 | oag l=>exact No (.oag l)
 | clo f a c=>exact No (.clo f a c)
 | _=>rfl
theorem Gb (g:G):Ke [] g=g:=by
 cases g with
 | orv k i s off l c=>cases s<;>rfl
 | _=>rfl
theorem L0 (g:G):Rk [] g=g:=by
 cases g with
 | oag l=>simp only[Rk,funext Gb];simp
 | clo f a c=>simp only[Rk,funext Gb];simp
 | orv k i s o l c=>exact Gb (.orv k i s o l c)
 | _=>rfl
theorem Z34 (g:G):renS [] g=g:=by
 cases g with
 | tup l=>simp only[renS,funext L0];simp
 | oag l=>exact L0 (.oag l)
 | clo f a c=>exact L0 (.clo f a c)
 | orv k i s o l c=>exact Gb (.orv k i s o l c)
 | _=>rfl
theorem Z7 (r:R):Z2d [] r=r:=by
 cases r with
 | blk cs t=>simp only[Z2d,funext Gb];simp
 | _=>rfl
theorem Z1x (t:Ts)(n:Nat)(ks:List Nat):leT [] t n (Pf t n ks):=by
 induction ks with
 | nil=>exact trivial
 | cons i l ih =>
  unfold Pf;cases h:look i t with
  | none=>exact ih
  | some g =>
   cases h2:Z1g n g with
   | false=>simpa [h2] using ih
   | true=>simp only[h2];exact⟨⟨h2,by rw[h,Z34]⟩,ih⟩
theorem Z4f (t:Os)(n:Nat)(ks:List Nat):leO [] t n (Ok t n ks):=by
 induction ks with
 | nil=>exact trivial
 | cons i l ih =>
  unfold Ok;cases h:look i t with
  | none=>exact ih
  | some g =>
   cases h2:Nat.blt i n with
   | false=>exact ih
   | true =>
    cases h3:Yi n g with
    | false=>simpa [h3] using ih
    | true=>simp only[h3];exact⟨⟨by rw[h2];show(true&&(isS g||Nat.beq i i))=true;rw[Nat.beq_refl];simp,h3,by show look i t=_;rw[h,Z7]⟩,ih⟩
def Mu {α:Type}(t:Ts)(n:Nat):List Nat->(Ts->α)->α
 | [],K=>K []
 | i::l,K=>match look i t with
  | some g=>match Z1g n g with
   | true=>Mu t n l λr=>K ((i,g)::r)
   | false=>Mu t n l K
  | none=>Mu t n l K
def Mr {α:Type}(t:Os)(n:Nat):List Nat->(Os->α)->α
 | [],K=>K []
 | i::l,K=>match look i t,Nat.blt i n with
  | some g,true=>match Yi n g with
   | true=>Mr t n l λr=>K ((i,g)::r)
   | false=>Mr t n l K
  | _,_=>Mr t n l K
theorem Zn {α:Type}(t:Ts)(n:Nat)(l:List Nat)(K:Ts->α):Mu t n l K=K (Pf t n l):=by
 induction l generalizing K with
 | nil=>rfl
 | cons i l ih =>
  unfold Mu Pf;cases look i t with
  | none=>exact ih K
  | some g =>
   cases h:Z1g n g with
   | true=>simp only[h];exact ih _
   | false=>simp only[h];exact ih _
theorem Yv {α:Type}(t:Os)(n:Nat)(l:List Nat)(K:Os->α):Mr t n l K=K (Ok t n l):=by
 induction l generalizing K with
 | nil=>rfl
 | cons i l ih =>
  unfold Mr Ok;cases look i t with
  | none=>exact ih K
  | some g =>
   cases Nat.blt i n with
   | false=>exact ih _
   | true =>
    cases h:Yi n g with
    | true=>simp only[h];exact ih _
    | false=>simp only[h];exact ih _
theorem Dt {a:Code}{B:MC}{t:Ts}{w:Os}{n:Nat}{K:KC}(ks os:List Nat){X:Type}(d:X->Ts)(r:X->Os)(I:X->Prop)(μ:X->Nat)(b:X)(c:I b)(j:leT [] t n (d b))(m:leO [] w n (r b))(q:Rf ((r b++Ok w n os).map λp=>(look p.1 ([]:List (Nat × Nat))).getD p.1)=true)
  (h:Mu t n ks λT=>Mr w n os λO=>∀x,I x->B (d x++T) (r x++O) n (Z0z (λx=>(d x++T,r x++O)) d I μ n x K)):Qu a B t w n K:=by
 rw[Zn,Yv] at h;exact .done ⟨false,X,λx=>(d x++Pf t n ks,r x++Ok w n os),d,I,μ,⟨b,c,Z6k _ _ _ _ _ j (Z1x t n ks),Z71 _ _ _ _ _ m (Z4f w n os),q⟩,h⟩
attribute [irreducible] Qu
end
structure Env (w0 w:World)(L:List (Nat × List Value × TypeId))(U:List (World × List Nat)):Prop where
 blw:Below w0.heap.size w0 w
 own:∀p∈L,w0.heap.size<=p.1/\w.heap[p.1]?=some (.cells p.2.1.toArray p.2.2 (0,0))
 sep:(L.map (·.1)).Nodup
 sn:∀q∈U,Frm q.2 q.1 w/\∀p∈L,p.1∈q.2\/q.1.heap.size<=p.1
inductive IsC:Value->List Value->Prop
 | agg (cs:List Value):IsC (.agg cs.toArray) cs
 | int (k:IntKind) (n:Int):IsC (.int k n) [.int k n]
 | str (s:ByteArray):IsC (.string s) [.string s]
 | slice (a:Option Addr) (n c:Nat):IsC (.slice a n c) [.slice a n c]
 | bool (b:Bool):IsC (.bool b) [.bool b]
 | ptr (a:Option Addr):IsC (.pointer a) [.pointer a]
 | map (r:Option Nat):IsC (.map r) [.map r]
 | iface (t:TypeId) (v:Value):IsC (.iface t v) [.iface t v]
 | nilI:IsC .nilIface [.nilIface]
theorem IsC.eq {v:Value}{cs:List Value}(h:IsC v cs):v.cells.toList=cs:=by cases h<;>simp[Value.cells]
inductive At {α:Type}:List α->Nat->α->Prop
 | z {x:α} {l:List α}:At (x::l) 0 x
 | s {x y:α} {l:List α} {i:Nat} (h:At l i x):At (y::l) (i+1) x
theorem At.get {α:Type}{l:List α}{i:Nat}{x:α}(h:At l i x):l[i]?=some x:=by
 induction h with
 | z=>rfl
 | s _ ih=>simpa using ih
def Oi (P:Program)(t:TypeId):Option Bool:=(P.underlying t).map λd=>match d with | .struct _ | .array _ _=>true | _=>false
theorem Frm.trans2 {S T:List Nat}{u w w':World}(h:Frm T u w)(b:Frm S w w')(p:∀k∈S,k∈T\/u.heap.size<=k):Frm T u w' :=
 ⟨b.os.trans h.os,b.tape.trans h.tape,b.output.trans h.output,cm h.size b.size,λk j c=>(b.block k (bc j h.size) (λm=>(p k m).elim c (λq=>by omega))).trans (h.block k j c)⟩
section
variable {P:Program} {w0 w w':World} {L:List (Nat × List Value × TypeId)} {U:List (World × List Nat)} {g k i:Nat} {row:List Value} {t ty:TypeId}
theorem Fx {b:Bool}(h:Oi P ty=some b)(w:World):(isAgg ty).run P w=.ok b w:=by unfold Oi at h;obtain⟨d,hd,rfl⟩:=bg.1 h;unfold isAgg;rw[Sem.run_bind,run_underlying hd w];cases d<;>simp
theorem Bm {n:Nat}(h:(P.info? ty).map (·.size)=some n)(w:World):(sizeOf ty).run P w=.ok n w:=by
 cases hq:P.info? ty with
 | none=>simp[hq] at h
 | some j =>
  rw[hq] at h;injection h with h;simp[sizeOf,typeInfo,hq,h]
theorem Env.new (w:World):Env w w [] []:=⟨ab _ _,by simp,by simp,by simp⟩
theorem Env.base (h:Below w0.heap.size w0 w):Env w0 w [] []:=⟨h,by simp,by simp,by simp⟩
theorem Env.size (h:Env w0 w L U):w0.heap.size<=w.heap.size:=h.blw.size
theorem Env.lt (h:Env w0 w L U){p:Nat × List Value × TypeId}(b:p∈L):p.1 < w.heap.size:=(bx.1 (h.own p b).2).1
theorem Env.below (h:Env w0 w L U)(c:Below w.heap.size w w'):Env w0 w' L U :=
 ⟨h.blw.trans (c.mono h.blw.size),λp b=>⟨(h.own p b).1,(c.block _ (h.lt b)).trans (h.own p b).2⟩,h.sep,λq j=>⟨(h.sn q j).1.trans (Frm.of_below c),(h.sn q j).2⟩⟩
theorem Env.drew (h:Env w0 w L U):Env w0 w.drew L U:=h.below (ab w.heap.size w).drew
theorem Env.drewN (h:Env w0 w L U)(n:Nat):Env w0 (w.drewN n) L U:=h.below (Cv (ab w.heap.size w) n)
theorem Env.alloc (h:Env w0 w L U)(cs:List Value)(t:TypeId):Env w0 (w.alloc (.cells cs.toArray t)) ((w.heap.size,cs,t)::L) U:=by
 have s:Below w.heap.size w (w.alloc (.cells cs.toArray t)):=(ab _ _).alloc (au _) _;have c:=h.below s;refine⟨c.blw,λp b=>?_,?_,λq j=>⟨(c.sn q j).1,λp b=>?_⟩⟩
 .rcases bo.1 b with rfl | b
  .exact⟨h.blw.size,heap_alloc_new _ _⟩
  .exact c.own p b
 .rw[cu,List.nodup_cons];refine⟨λm=>?_,h.sep⟩;obtain⟨p,b,e⟩:=bi.1 m;have:=h.lt b;omega
 .rcases bo.1 b with rfl | b
  .exact .inr (h.sn q j).1.size
  .exact(h.sn q j).2 p b
theorem Env.at_ (h:Env w0 w L U)(hL:L[i]?=some (g,row,t)):w.heap[g]?=some (.cells row.toArray t (0,0))/\w0.heap.size<=g/\g < w.heap.size :=
 have:=h.own _ (ar hL)
 ⟨this.2,this.1,h.lt (ar hL)⟩
theorem Env.cell (h:Env w0 w L U)(hL:L[i]?=some (g,row,t))(k:Nat):w.cell? ⟨g,k,none⟩=row[k]?:=by rw[A1 (h.at_ hL).1];simp
theorem Env.froz (h:Env w0 w L U)(hL:L[i]?=some (g,row,t))(k:Nat):w.frozen? ⟨g,k,none⟩=false:=frozen_of_row w g k _ t (h.at_ hL).1
theorem Env.frm {S:List Nat}(h:Env w0 w L U)(j:Frm S w w')(m:∀k∈S,w0.heap.size<=k/\k ∉ L.map (·.1))(u:∀q∈U,∀k∈S,k∈q.2\/q.1.heap.size<=k):Env w0 w' L U :=
 ⟨j.below h.blw h.blw.size (λk z=>(m k z).1),λp b=>⟨(h.own p b).1,(j.block _ (h.lt b) (λs=>(m _ s).2 (bi.2 ⟨p,b,rfl⟩))).trans (h.own p b).2⟩,h.sep,
  λq c=>⟨(h.sn q c).1.trans2 j (u q c),(h.sn q c).2⟩⟩
theorem Env.since (h:Env w0 w L U){u:World}{S:List Nat}(j:Nat)(b:U[j]?=some (u,S)):Frm S u w:=(h.sn _ (ar b)).1
theorem Env.tail {p:Nat × List Value × TypeId}(h:Env w0 w (p::L) U):Env w0 w L U :=
 ⟨h.blw,λq b=>h.own q (List.mem_cons_of_mem _ b),(List.nodup_cons.1 h.sep).2,λq b=>⟨(h.sn q b).1,λp c=>(h.sn q b).2 p (List.mem_cons_of_mem _ c)⟩⟩
theorem Env.set (h:Env w0 w L U)(hL:L[i]?=some (g,row,t)){b:List Value}(hg:w'.heap[g]?=some (.cells b.toArray t (0,0)))(m:w.grownBy w' (some g)):Env w0 w' (L.set i (g,b,t)) U:=by
 have M:=(h.at_ hL).2;have A:=(aq.1 hL).1;have T:L[i]=(g,row,t):=(aq.1 hL).2;have c:(L.set i (g,b,t)).map (·.1)=L.map (·.1):=by
  rw[List.map_set];apply cx;intro j;rw[cv];split
  .rename_i e
   subst e;rw[dp (by simpa using A),ax,hL];rfl
  .rfl
 refine⟨Below.grownBy h.blw m h.blw.size (λk s=>by injection s with s;omega),λp E=>?_,by rw[c];exact h.sep,λq F=>⟨?_,λp E=>?_⟩⟩
 .obtain⟨j,Y,e⟩:=cq.1 E;rw[List.getElem_set] at e;split at e
  .rename_i hij
   subst e;exact⟨M.1,hg⟩
  .rename_i hij
   have D:j < L.length:=by simpa using Y
   have z:p∈L:=e ▸ bu D;refine⟨(h.own p z).1,(m.block _ (h.lt z) (λO=>?_)).trans (h.own p z).2⟩;injection O with O;have C:=List.pairwise_iff_getElem.1 h.sep;have B:i < (L.map (·.1)).length:=by simpa using A
   have u:j < (L.map (·.1)).length:=by simpa using D
   have X:(L.map (·.1))[i]=g:=by rw[List.getElem_map,T]
   have W:(L.map (·.1))[j]=g:=by rw[List.getElem_map,e];exact O
   rcases Nat.lt_or_gt_of_ne hij with H | H
   .exact C i j B u H (X.trans W.symm)
   .exact C j i u B H (W.trans X.symm)
 .refine(h.sn q F).1.trans2 (S:=[g]) ⟨m.os,m.tape,m.output,m.size,λk s Z=>m.block k s (λe=>Z (by injection e with e;simp[e]))⟩ λk s=>?_;obtain rfl:=bw.1 s;exact(h.sn q F).2 _ (ar hL)
 .have z:p.1∈L.map (·.1):=by rw[<-c];exact bi.2 ⟨p,E,rfl⟩
  obtain⟨p',J,e⟩:=bi.1 z;rw[<-e];exact(h.sn q F).2 p' J
variable {ops:Array Oper} {rest:List Oper} {o:Oper} {a:Act} {K:Act->World->Prop} {Q:Exit->Act->World->Prop}
theorem Z3t (g k j:Nat):(⟨g,k,none⟩:Addr).add j=⟨g,k+j,none⟩:=by unfold Addr.add;split<;>simp_all
theorem Cu {cs:List Value}(c:Oi P ty=some true)(b:(P.info? ty).map (·.size)=some cs.length)(p:∀j v,cs[j]?=some v->w.cell? ⟨g,k+j,none⟩=some v):(loadVar ty ⟨g,k,none⟩).run P w=.ok (.agg cs.toArray) w:=by have h:=run_loadCells_list (P:=P) (w:=w) ⟨g,k,none⟩ cs (λj v m=>by rw[Z3t];exact p j v m);simp only[loadVar,Sem.run_bind,Fx c,Bm b,Result.andThen_ok,if_true,h,Sem.run_pure]
theorem Env.loadVar (h:Env w0 w L U)(hL:L[i]?=some (g,row,t))(c:Oi P ty=some true)(b:(P.info? ty).map (·.size)=some row.length):(loadVar ty ⟨g,0,none⟩).run P w=.ok (.agg row.toArray) w :=
 Cu c b λj v m=>by rw[cn,h.cell hL];exact m
end
section
variable {I I' I'':Imm} {V V' V'':Va} {g:G} {x:Value} {w w' w'':World} {own own' own'':Os} {k n:Nat} {r:R} {t:Ts}
def Imm.le (I I':Imm):Prop:=∀b o x,I b o=some x->I' b o=some x
theorem Imm.le.refl (I:Imm):I.le I:=λ_ _ _ h=>h
theorem Va.le.refl (V:Va):V.le V:=⟨au _,λ_ _=>⟨rfl,rfl⟩⟩
theorem Va.le.trans (h:V.le V')(c:V'.le V''):V.le V'' :=
 ⟨cm h.1 c.1,λk b=>⟨(c.2 k (bc b h.1)).1.trans (h.2 k b).1,(c.2 k (bc b h.1)).2.trans (h.2 k b).2⟩⟩
theorem VRep.mono (h:VRep I g x)(p:I.le I'):VRep I' g x:=by
 induction h with
 | v x=>exact .v x
 | tt=>exact .tt
 | ff=>exact .ff
 | un=>exact .un
 | nl=>exact .nl
 | agg l cs hl _ ih=>exact .agg l cs hl ih
 | sl l A c sz u hc hA hz h _ ih =>
  refine .sl l A c sz u hc hA hz (λi r hr=>?_) ih;obtain⟨b,o,e,h⟩:=h i r hr;exact⟨b,o,e,λj m=>p _ _ _ (h j m)⟩
theorem PW.mono {P b:G->Value->Prop}{l:List G}{cs:List Value}(h:PW P l cs)(p:∀g x,P g x->b g x):PW b l cs:=⟨h.1,λj g u m c=>p _ _ (h.2 j g u m c)⟩
theorem PW.cons {P:G->Value->Prop}{l:List G}{cs:List Value}(h:P g x)(m:PW P l cs):PW P (g::l) (x::cs) :=
 ⟨by simp[m.1],λj p u c b=>by
  cases j with
  | zero=>simp at c b;subst c b;exact h
  | succ j=>simp at c b;exact m.2 j p u c b⟩
theorem PW.nil {P:G->Value->Prop}:PW P [] []:=⟨rfl,λj g u b=>by simp at b⟩
theorem PW.uncons {P:G->Value->Prop}{l:List G}{cs:List Value}(h:PW P (g::l) cs):∃x b,cs=x::b/\P g x/\PW P l b:=by
 cases cs with
 | nil=>exact dq h.1 (by simp)
 | cons x cs=>exact⟨x,cs,rfl,h.2 0 g x rfl rfl,by have:=h.1;simpa using this,λj g u m c=>h.2 (j+1) g u (by simpa using m) (by simpa using c)⟩
theorem PW.of_nil {P:G->Value->Prop}{cs:List Value}(h:PW P [] cs):cs=[]:=ay h.1.symm
theorem PW.append {P:G->Value->Prop}{l m:List G}{cs ds:List Value}(h:PW P l cs)(j:PW P m ds):PW P (l++m) (cs++ds):=by
 induction l generalizing cs with
 | nil=>rw[h.of_nil];exact j
 | cons g l ih =>
  obtain⟨x,c,rfl,p,b⟩:=h.uncons;exact .cons p (ih b)
theorem PW.get {P:G->Value->Prop}{l:List G}{cs:List Value}(h:PW P l cs){j:Nat}(c:l[j]?=some g):∃u,cs[j]?=some u/\P g u:=by
 have m:=(aq.1 c).1;have b:j < cs.length:=by rw[<-h.1];exact m
 exact⟨cs[j],ap b,h.2 j g _ c (ap b)⟩
theorem CRep.of_v (h:VRep I g x):CRep I V g x:=by cases h<;>first | exact .v _ | exact .tt | exact .ff | exact .un | exact .nl | (exact .agg _ _ ‹_› ‹_›) | (exact .sl _ _ _ _ _ ‹_› ‹_› ‹_› ‹_› ‹_›)
theorem CRep.mono (h:CRep I V g x)(j:I.le I')(b:V.le V'):CRep I' V' g x:=by
 cases g with
 | ptr k off=>exact⟨bc h.1 b.1,by rw[(b.2 k h.1).1];exact h.2⟩
 | osl k=>exact⟨bc h.1 b.1,by rw[(b.2 k h.1).2];exact h.2⟩
 | osv k sz lo hi=>exact⟨bc h.1 b.1,by rw[(b.2 k h.1).2];exact h.2⟩
 | mp k=>exact⟨bc h.1 b.1,by rw[(b.2 k h.1).1];exact h.2⟩
 | clo f a c=>exact h
 | oag l=>exact h
 | tup l=>exact h
 | elp l o=>exact h
 | oel k i s o=>exact h
 | orv k i s o l c=>exact h
 | _=>exact VRep.mono h j
theorem CRep.to_v (h:CRep I V g x)(b:g.pure=true):VRep I g x:=by cases g<;>first | exact h | cases b
theorem OrB.of {k j sz b q:Nat}(h:OrB V k sz b q)(m:V'.b j=V.b k)(p:V'.s j=V.s k):OrB V' j sz b q:=by
 cases sz with
 | zero=>exact(show b=V'.b j/\q=0 from⟨by rw[m];exact h.1,h.2⟩)
 | succ sz =>
  obtain⟨n,c,e⟩:=h;exact⟨n,c,by rw[p];exact e⟩
theorem TRep1.mono (h:TRep1 I V g x)(p:I.le I')(m:V.le V'):TRep1 I' V' g x:=by
 cases g with
 | oag l =>
  obtain⟨cs,e,h⟩:=h;exact⟨cs,e,h.mono λ_ _ h=>h.mono p m⟩
 | elp row off =>
  obtain⟨b,o,e,h⟩:=h;refine⟨b,o,e,λj g D=>?_⟩;obtain⟨u,A,z⟩:=h j g D;exact⟨u,p _ _ _ A,z.mono p⟩
 | oel k i sz off =>
  obtain⟨s,b,q,n,c,e,h⟩:=h;exact⟨bc s m.1,b,q,n,c,by rw[(m.2 k s).2];exact e,h⟩
 | orv k i sz off len cap =>
  obtain⟨s,b,q,e,h⟩:=h;exact⟨bc s m.1,b,q,e.of (m.2 k s).1 (m.2 k s).2,h⟩
 | clo f a c =>
  obtain⟨C,B,cs,e,A,z⟩:=h;exact⟨C,B,cs,e,A.mono λ_ _ h=>h.mono p m,z.mono λ_ _ h=>h.mono p m⟩
 | mp k=>exact CRep.mono (g:=.mp k) h p m
 | v y=>exact CRep.mono (g:=.v y) h p m
 | tt=>exact CRep.mono (g:=.tt) h p m
 | ff=>exact CRep.mono (g:=.ff) h p m
 | un=>exact CRep.mono (g:=.un) h p m
 | nl=>exact CRep.mono (g:=.nl) h p m
 | agg l=>exact CRep.mono (g:=.agg l) h p m
 | tup l=>exact h.elim
 | ptr k o=>exact CRep.mono (g:=.ptr k o) h p m
 | sl l=>exact CRep.mono (g:=.sl l) h p m
 | osl k=>exact CRep.mono (g:=.osl k) h p m
 | osv k sz lo hi=>exact CRep.mono (g:=.osv k sz lo hi) h p m
theorem TRep.mono (h:TRep I V g x)(j:I.le I')(b:V.le V'):TRep I' V' g x:=by
 cases g with
 | tup l =>
  obtain⟨cs,e,h⟩:=h;exact⟨cs,e,h.mono λ_ _ h=>h.mono j b⟩
 | mp k=>exact TRep1.mono (g:=.mp k) h j b
 | clo f a c=>exact TRep1.mono (g:=.clo f a c) h j b
 | v y=>exact TRep1.mono (g:=.v y) h j b
 | tt=>exact TRep1.mono (g:=.tt) h j b
 | ff=>exact TRep1.mono (g:=.ff) h j b
 | un=>exact TRep1.mono (g:=.un) h j b
 | nl=>exact TRep1.mono (g:=.nl) h j b
 | agg l=>exact TRep1.mono (g:=.agg l) h j b
 | oag l=>exact TRep1.mono (g:=.oag l) h j b
 | ptr k o=>exact TRep1.mono (g:=.ptr k o) h j b
 | sl l=>exact TRep1.mono (g:=.sl l) h j b
 | osl k=>exact TRep1.mono (g:=.osl k) h j b
 | osv k sz lo hi=>exact TRep1.mono (g:=.osv k sz lo hi) h j b
 | elp l o=>exact TRep1.mono (g:=.elp l o) h j b
 | oel k i s o=>exact TRep1.mono (g:=.oel k i s o) h j b
 | orv k i s o l c=>exact TRep1.mono (g:=.orv k i s o l c) h j b
theorem TRep1.of_c (h:CRep I V g x):TRep1 I V g x:=by cases g<;>first | exact h | exact h.elim
theorem TRep.of_1 (h:TRep1 I V g x):TRep I V g x:=by cases g<;>first | exact h | exact False.elim h
theorem TRep.of_c (h:CRep I V g x):TRep I V g x:=.of_1 (.of_c h)
theorem TRep.of_v (h:VRep I g x):TRep I V g x:=.of_c (.of_v h)
theorem Ac {α:Type}(i j:Nat)(g:α)(l:List (Nat × α)):look i ((j,g)::l)=if i=j then some g else look i l:=by
 show(bif Nat.beq i j then some g else look i l)=_;by_cases h:i=j
 .subst h;simp[Nat.beq_refl]
 .have b:Nat.beq i j=false:=by
   cases hb:Nat.beq i j with
   | false=>rfl
   | true=>exact dq (aw hb) h
  rw[dn h,b];rfl
theorem Du {α:Type}(l:List α)(n:Nat):nth l n=l[n]?:=by
 induction l generalizing n with
 | nil=>simp[nth]
 | cons a l ih=>cases n<;>simp[nth,ih]
structure Later (own:Os)(I:Imm)(V:Va)(w:World)(own':Os)(I':Imm)(V':Va)(w':World):Prop where
 has:Has I' V' own' w'
 fro:Fro own I V w own' I' V' w'
 va:V.le V'
theorem Fro.refl (own:Os)(I:Imm)(V:Va)(w:World):Fro own I V w own I V w :=
 ⟨rfl,rfl,rfl,au _,λ_ _ _=>⟨rfl,λ_=>rfl⟩,λ_ _ _ h=>h,λk r _ c b _=>⟨k,r,c,b⟩⟩
theorem Fro.trans (h:Fro own I V w own' I' V' w')(m:Fro own' I' V' w' own'' I'' V'' w''):Fro own I V w own'' I'' V'' w'':=by
 refine⟨m.os.trans h.os,m.tape.trans h.tape,m.output.trans h.output,cm h.size m.size,λb p z=>?_,λb o x C=>m.mono _ _ _ (h.mono _ _ _ C),λk r b s q p=>?_⟩
 .have A:=h.blk b p z;have B:=m.blk b (bc p h.size) λk r s q=>by
   obtain⟨j,r',u,c⟩:=h.foot k r b s q p;exact z j r' u c
  exact⟨B.1.trans A.1,λo=>(B.2 o).trans (A.2 o)⟩
 .obtain⟨j,r',u,c⟩:=m.foot k r b s q (bc p h.size);exact h.foot j r' b u c p
theorem Later.trans (h:Later own I V w own' I' V' w')(b:Later own' I' V' w' own'' I'' V'' w''):Later own I V w own'' I'' V'' w'' :=
 ⟨b.has,h.fro.trans b.fro,h.va.trans b.va⟩
structure Since (own:Os)(I:Imm)(V:Va)(w:World)(own':Os)(I':Imm)(V':Va)(w':World):Prop where
 has:Has I' V' own' w'
 fro:Fro own I V w own' I' V' w'
 n:V.n<=V'.n
 bb:∀k,k < V.n->V'.b k=V.b k
 ss:∀k,k < V.n->V'.s k=V.s k
structure SinceC (own:Os)(I:Imm)(V:Va)(w:World)(own':Os)(I':Imm)(V':Va)(w':World):Prop where
 has:Has I' V' own' w'
 fro:Fro own I V w own' I' V' w'
 n:V.n<=V'.n
 bb:∀k,k < V.n->V'.b k=V.b k
theorem SinceC.trans (h:SinceC own I V w own' I' V' w')(b:Later own' I' V' w' own'' I'' V'' w''):SinceC own I V w own'' I'' V'' w'':=⟨b.has,h.fro.trans b.fro,cm h.n b.va.1,λk c=>(b.va.2 k (bc c h.n)).1.trans (h.bb k c)⟩
theorem SinceC.tail (h:SinceC own I V w own' I' V' w')(b:Since own' I' V' w' own'' I'' V'' w''):SinceC own I V w own'' I'' V'' w'':=⟨b.has,h.fro.trans b.fro,cm h.n b.n,λk c=>(b.bb k (bc c h.n)).trans (h.bb k c)⟩
theorem Since.trans (h:Since own I V w own' I' V' w')(c:Later own' I' V' w' own'' I'' V'' w''):Since own I V w own'' I'' V'' w'':=⟨c.has,h.fro.trans c.fro,cm h.n c.va.1,λk b=>(c.va.2 k (bc b h.n)).1.trans (h.bb k b),λk b=>(c.va.2 k (bc b h.n)).2.trans (h.ss k b)⟩
theorem Since.tail (h:Since own I V w own' I' V' w')(c:Since own' I' V' w' own'' I'' V'' w''):Since own I V w own'' I'' V'' w'':=⟨c.has,h.fro.trans c.fro,cm h.n c.n,λk b=>(c.bb k (bc b h.n)).trans (h.bb k b),λk b=>(c.ss k (bc b h.n)).trans (h.ss k b)⟩
theorem Later.since (h:Later own I V w own' I' V' w'):Since own I V w own' I' V' w':=⟨h.has,h.fro,h.va.1,λk b=>(h.va.2 k b).1,λk b=>(h.va.2 k b).2⟩
theorem Since.later (h:Since own I V w own' I' V' w'):Later own I V w own' I' V' w':=⟨h.has,h.fro,h.n,λk b=>⟨h.bb k b,h.ss k b⟩⟩
theorem Later.refl (h:Has I V own w):Later own I V w own I V w:=⟨h,.refl _ _ _ _,.refl _⟩
theorem Al.mono {κ:Type}:∀{l:List (κ × G)} {L:List (κ × Value)},Al I l L->I.le I'->Al I' l L
 | [],[],_,_=>trivial
 | _::_,_::_,h,hI=>⟨h.1,h.2.1.mono hI,Al.mono h.2.2 hI⟩
theorem MapR.keep {κ:Type}{m:Nat}{b:κ->Value}{l:List (κ × G)}(h:MapR I w m b l)(q:I.le I')(p:w'.heap[m]?=w.heap[m]?):MapR I' w' m b l:=by obtain⟨L,c,j⟩:=h;exact⟨L,c.of_block p,j.mono q⟩
theorem RRep.keep (h:RRep I V k w r)(B:I.le I')(E:V.le V')(W:k < V.n)(A:V'.f k=V.f k)(J:w'.os=w.os)(hs:w.heap.size<=w'.heap.size)(C:∀b,V.f k b->w'.heap[b]?=w.heap[b]?):RRep I' V' k w' r:=by
 have z:=(E.2 k W).1;have M:=(E.2 k W).2;cases r with
 | blk cs t =>
  obtain⟨a,us,b,c⟩:=h;refine⟨λb=>by rw[A,z];exact a b,us,by rw[z,C _ ((a _).2 rfl)];exact b,c.mono λ_ _ h=>h.mono B E⟩
 | slc rows e sz =>
  obtain⟨a,rs,b,c,d,T,H,e3⟩:=h;refine⟨λb=>by rw[A,M];exact a b,rs,?_,c,λi r u hr Z=>(d i r u hr Z).mono λ_ _ h=>h.mono B,T,H,e3⟩;rw[M];refine⟨b.1,?_⟩;rcases b.2 with b | ⟨g,cap,cur,hv,hg,hh,rest⟩
  .exact .inl b
  .exact .inr ⟨g,cap,cur,hv,hg,by rw[C g ((a g).2 (by rw[hv];rfl))];exact hh,rest⟩
 | vw rows e sz =>
  obtain⟨a,rs,b,c,d,T,H,e3⟩:=h;refine⟨λb=>by rw[A,M];exact a b,rs,?_,c,λi r u hr Z=>(d i r u hr Z).mono λ_ _ h=>h.mono B,T,H,e3⟩;rw[M];refine⟨b.1,?_⟩;rcases b.2 with b | ⟨g,q,cap,cur,hv,hh,rest⟩
  .exact .inl b
  .exact .inr ⟨g,q,cap,cur,hv,by rw[C g ((a g).2 (by rw[hv];rfl))];exact hh,rest⟩
 | froz rows sz=>exact⟨λb=>by rw[A];exact h.1 b,by rw[M];exact h.2.1.mono B,h.2.2⟩
 | gone=>exact λb=>by rw[A];exact h b
 | mpI l=>exact⟨λb=>by rw[A,z];exact h.1 b,by rw[z];exact h.2.keep B (C _ ((h.1 _).2 rfl))⟩
 | mpS l=>exact⟨λb=>by rw[A,z];exact h.1 b,by rw[z];exact h.2.keep B (C _ ((h.1 _).2 rfl))⟩
 | sit s pos=>exact⟨λb=>by rw[A,z];exact h.1 b,by rw[z,C _ ((h.1 _).2 rfl)];exact h.2⟩
 | mpX l m ob =>
  obtain⟨a,q,b,c⟩:=h;have e:=C m ((a m).2 q.symm);exact⟨λb=>by rw[A,z];exact a b,z.trans q,e.trans b,c.keep B e⟩
 | mit j l D last m ob =>
  obtain⟨a,it,L,b,c,d⟩:=h;refine⟨λb=>by rw[A,z];exact a b,it,L,by rw[z,C _ ((a _).2 rfl)];exact b,c.mono B,λw2 T H=>?_⟩;rw[z] at H⊢;obtain⟨X,q2⟩:=d w2 T H;exact⟨X,λkg W=>(q2 kg W).imp λv h=>⟨h.1.mono B,h.2⟩⟩
 | abs p=>exact⟨h.1,by rw[A,z];exact h.1 _ _ _ _ _ _ h.2 B J hs C⟩
 | lnk j =>
  obtain⟨a,O,m,e⟩:=h;exact⟨λb=>by rw[A];exact a b,bc O E.1,m,by rw[(E.2 j O).2,z];exact e⟩
 | adr j b =>
  obtain⟨a,O,e⟩:=h;exact⟨λb=>by rw[A];exact a b,bc O E.1,by rw[(E.2 j O).1];exact e⟩
 | fam ps =>
  obtain⟨a,F,X,q2,q3⟩:=h;refine⟨a,F,λc=>by rw[A];exact X c,q2,λi p Y=>?_⟩;obtain⟨b,hb2⟩:=q3 i p Y;exact⟨b,a p (ar Y) _ _ _ _ _ _ hb2 B J hs λc hc=>C c ((X c).2 ⟨i,(aq.1 Y).1,hc⟩)⟩
theorem Mem.keep (h:Mem I w)(j:∀b o x,I b o=some x->w'.heap[b]?=w.heap[b]?):Mem I w':=λb o x c=>by rw[ac (w:=w) (a:=⟨b,o,none⟩) (j b o x c)];exact h b o x c
theorem Mem.lt (h:Mem I w){b o:Nat}{x:Value}(c:I b o=some x):b < w.heap.size:=World.block_lt_of_cell? w ⟨b,o,none⟩ (h b o x c)
theorem Has.heap (h:Has I V own w)(c:w'.heap=w.heap)(m:w'.os=w.os):Has I V own w' :=
 ⟨h.mem.keep λb _ _ _=>by rw[c],h.num,λk r j=>(h.each k r j).keep (.refl _) (.refl _) (h.num k r j) rfl m (by rw[c];exact au _) λb _=>by rw[c],λk r b j p=>by rw[c];exact h.foot k r b j p,h.disj⟩
def Va.push (V:Va)(b:Nat)(s:Value)(f:Nat->Prop):Va:=⟨V.n+1,λk=>if k=V.n then b else V.b k,λk=>if k=V.n then s else V.s k,λk=>if k=V.n then f else V.f k⟩
theorem Va.push_le (V:Va)(b:Nat)(s:Value)(f:Nat->Prop):V.le (V.push b s f):=⟨Nat.le_succ _,λk c=>by simp[Va.push,Nat.ne_of_lt c]⟩
theorem D2 (h:Has I V own w)(z:Below w.heap.size w w')(b:Nat)(s:Value)(f:Nat->Prop)(D:∀k,f k->w.heap.size<=k/\k < w'.heap.size)(hr:RRep I (V.push b s f) V.n w' r) :
  Later own I V w ((V.n,r)::own) I (V.push b s f) w':=by
 have p:∀k,k < V.n->(V.push b s f).f k=V.f k:=λk c=>by simp[Va.push,Nat.ne_of_lt c]
 have A:(V.push b s f).f V.n=f:=by simp[Va.push]
 refine⟨⟨h.mem.keep λb o x M=>z.block b (h.mem.lt M),λk r' c=>?_,λk r' c=>?_,λk r' m c j=>?_,λk C E F m c q j u=>?_⟩,⟨z.os,z.tape,z.output,z.size,λb j _=>⟨z.block b j,λ_=>rfl⟩,λ_ _ _ h=>h,λk r' m c j J=>?_⟩,V.push_le b s f⟩
 .rw[Ac] at c;split at c
  .next e=>subst e;exact da _
  .exact Nat.lt_succ_of_lt (h.num k r' c)
 .rw[Ac] at c;split at c
  .next e=>subst e;cases c;exact hr
  .have B:=h.num k r' c;exact(h.each k r' c).keep (.refl _) (V.push_le b s f) B (p k B) z.os z.size λm j=>z.block m (h.foot k r' m c j).1
 .rw[Ac] at c;split at c
  .next e =>
   subst e;rw[A] at j;refine⟨(D m j).2,λo=>?_⟩;cases hI:I m o with
   | none=>rfl
   | some x=>exact dq (h.mem.lt hI) (by have:=(D m j).1;omega)
  .have B:=h.num k r' c;rw[p k B] at j;exact⟨bc (h.foot k r' m c j).1 z.size,(h.foot k r' m c j).2⟩
 .rw[Ac] at c q;split at c<;>split at q
  .next e H=>rw[e,H]
  .next e H =>
   have B:=h.num C F q;rw[p C B] at u;rw[e,A] at j;exact dq (h.foot C F m q u).1 (by have:=(D m j).1;omega)
  .next e H =>
   have B:=h.num k E c;rw[p k B] at j;rw[H,A] at u;exact dq (h.foot k E m c j).1 (by have:=(D m u).1;omega)
  .rw[p k (h.num k E c)] at j;rw[p C (h.num C F q)] at u;exact h.disj k C E F m c q j u
 .rw[Ac] at c;split at c
  .next e=>rw[e,A] at j;exact dq J (by have:=(D m j).1;omega)
  .rw[p k (h.num k r' c)] at j;exact⟨k,r',c,j⟩
theorem D7 (h:Has I V own w){u:R}(z:look k own=some u)(C:w'.os=w.os)(E:w'.tape=w.tape)(J:w'.output=w.output)(F:w'.heap.size=w.heap.size)(B:∀b,¬V.f k b->w'.heap[b]?=w.heap[b]?)(hr:RRep I V k w' r) :
  Later own I V w ((k,r)::own) I V w':=by
 have A:∀j r',look j own=some r'->j≠k->∀b,V.f j b->¬V.f k b:=λj r' c A b m p=>A (h.disj j k r' u b c z m p);refine⟨⟨h.mem.keep λb o x W=>B b λH=>?_,λj r' c=>?_,λj r' c=>?_,λj r' q c m=>?_,λj M O T q c s m p=>?_⟩,⟨C,E,J,by omega,λb Y X=>⟨B b (X k u z),λ_=>rfl⟩,λ_ _ _ h=>h,λj r' q c m _=>?_⟩,.refl _⟩
 .have:=(h.foot k u b z H).2 o;rw[W] at this;cases this
 .rw[Ac] at c;split at c
  .next e=>subst e;exact h.num j u z
  .exact h.num j r' c
 .rw[Ac] at c;split at c
  .next e=>subst e;cases c;exact hr
  .next e=>exact(h.each j r' c).keep (.refl _) (.refl _) (h.num j r' c) rfl C (by omega) λq H=>B q (A j r' c e q H)
 .rw[F];rw[Ac] at c;split at c
  .next e=>subst e;exact h.foot j u q z m
  .exact h.foot j r' q c m
 .rw[Ac] at c s;split at c<;>split at s
  .next e D=>rw[e,D]
  .next e D=>subst e;exact h.disj j M u T q z s m p
  .next e D=>subst D;exact h.disj j M O u q c z m p
  .exact h.disj j M O T q c s m p
 .rw[Ac] at c;split at c
  .next e=>exact⟨k,u,z,e ▸ m⟩
  .exact⟨j,r',c,m⟩
def Va.drop (V:Va)(k:Nat):Va:={V with f:=λj=>if j=k then λ_=>False else V.f j}
theorem H7 (h:Has I V own w){E:R}(F:look k own=some E)(H:I.le I')(T:Mem I' w)(D:∀b o,¬V.f k b->I' b o=I b o)(hr:RRep I' (V.drop k) k w r) :
  Later own I V w ((k,r)::own) I' (V.drop k) w:=by
 have B:∀j,j≠k->(V.drop k).f j=V.f j:=λj c=>by simp[Va.drop,c]
 have s:∀b,¬(V.drop k).f k b:=λb=>by simp[Va.drop]
 have C:V.le (V.drop k):=⟨au _,λ_ _=>⟨rfl,rfl⟩⟩;have z:∀j r',look j own=some r'->j≠k->∀b,V.f j b->¬V.f k b:=λj r' c z b m p=>z (h.disj j k r' E b c F m p);refine⟨⟨T,λj r' c=>?_,λj r' c=>?_,λj r' q c m=>?_,λj J M X q c u m p=>?_⟩,⟨rfl,rfl,rfl,au _,λb W O=>⟨rfl,λo=>D b o (O k E F)⟩,H,λj r' q c m _=>?_⟩,C⟩
 .rw[Ac] at c;split at c
  .next e=>subst e;exact h.num j E F
  .exact h.num j r' c
 .rw[Ac] at c;split at c
  .next e=>subst e;cases c;exact hr
  .next e=>exact(h.each j r' c).keep H C (h.num j r' c) (B j e) rfl (au _) λq _=>rfl
 .rw[Ac] at c;split at c
  .next e=>subst e;exact dq m (s q)
  .next e =>
   rw[B j e] at m;exact⟨(h.foot j r' q c m).1,λo=>(D q o (z j r' c e q m)).trans ((h.foot j r' q c m).2 o)⟩
 .rw[Ac] at c u;split at c<;>split at u
  .next e A=>rw[e,A]
  .next e A=>rw[e] at m;exact dq m (s q)
  .next e A=>rw[A] at p;exact dq p (s q)
  .next e A=>rw[B j e] at m;rw[B J A] at p;exact h.disj j J M X q c u m p
 .rw[Ac] at c;split at c
  .next e=>rw[e] at m;exact dq m (s q)
  .next e=>rw[B j e] at m;exact⟨j,r',c,m⟩
end
section
variable {α:Type} {w0 w w':World} {L:List (Nat × List Value × TypeId)} {U:List (World × List Nat)} {g k i:Nat} {row:List Value}
variable {o:Oper} {a:Act} {K:Act->World->Prop} {Q:Exit->Act->World->Prop}
variable {base sz bytes:Nat} {t e te:TypeId} {f:α->List Value} {v:Value} {l:List α}
theorem Own.frm {S:List Nat}(h:Own w base e sz f v l)(p:Frm S w w')(m:∀k∈S,k < base):Own w' base e sz f v l:=by
 refine⟨h.1,?_⟩;rcases h.2 with j | ⟨b,cap,cur,rfl,hb,hg,h3⟩
 .exact .inl j
 .exact .inr ⟨b,cap,cur,rfl,hb,(p.block b (bx.1 hg).1 (λc=>by have:=m b c;omega)).trans hg,h3⟩
end
section
variable {P:Program} {w:World}
theorem Ya (t ty e:TypeId)(i:TypeInfo)(z:Value)(size bytes:Nat)(M:P.underlying t=some (.slice e))(T:P.info? e=some i)(Y:i.zero=some z)
  (B:i.size=size) (D:i.bytes=bytes) (O:z.cells.size=size) (W:0 < size) (v:Value) (n:Nat) (xs:List Value) (p:w.ownsRow 0 e size v n xs)
  (A:Option Addr) (m c:Nat) (b:List Value) (J:b.length=m * size) (hA:A=none->m=0/\c=0) (h:∀a,A=some a->∀j u,b[j]?=some u->w.cell? (a.add j)=some u) (Z:∀u∈b,u.oneCell'=true)
  (H:n+m<=maxLen) (q:(n+m) * bytes<=140737488355328) :
  ∃F w',(Builtin.append_ #[t,t] ty #[v,.slice A m c]).run P w=.ok F w'/\w'.ownsRow 0 e size F (n+m) (xs++b)/\w.grownBy w' v.ownBlock/\(F.ownBlock=v.ownBlock\/∃g,F.ownBlock=some g/\w.heap.size<=g/\g < w'.heap.size):=by
 cases A with
 | none =>
  obtain⟨rfl,rfl⟩:=hA rfl;have hn:b=[]:=ay (by simpa using J);subst hn;exact⟨v,w,run_append_owned_none w 0 t ty e i size M T v n xs p,by simpa using p,World.grownBy.refl _ _,.inl rfl⟩
 | some a =>
  have h:=h a rfl;obtain⟨F,w',hr,h2,h3,-⟩:=run_append_own (P:=P) w 0 t ty e i z size bytes M T Y B D O W v n xs p a m c b J h Z H q (av _);refine⟨F,w',hr,h2,h3,?_⟩;rcases p.2 with⟨rfl,rfl⟩ | ⟨g,cap,cur,rfl,-,hg,hnc,hcm,hcs,htake⟩
  .have E:w.ownsRow w.heap.size e size (.slice none 0 0) 0 xs:=⟨p.1,.inl ⟨rfl,rfl⟩⟩;obtain⟨v2,w2,s,k2,-,-⟩:=run_append_own (P:=P) w w.heap.size t ty e i z size bytes M T Y B D O W _ 0 xs E a m c b J h Z H q (au _);rw[hr] at s;injection s with e1 e2;subst e1 e2;cases hv:F.ownBlock with
   | none=>exact .inl rfl
   | some g'=>exact .inr ⟨g',rfl,k2.lt g' hv⟩
  .subst B;by_cases C:n+m<=cap
   .have X:n * i.size+b.length<=cur.size:=by rw[J,hcs,<-Nat.add_mul];exact Nat.mul_le_mul_right _ C
    have s:=run_append_room (P:=P) w t ty e i M T g n cap cur hg a m c b J h Z C X;rw[hr] at s;injection s with e1 e2;subst e1;exact .inl rfl
   .have s:=run_append_grow (P:=P) w t ty e i z M T Y ⟨g,0,none⟩ n cap xs p.1 (p.cells (g:=g) rfl) a m c b J h (by omega) (by unfold maxLen at H;omega) (growslice_fits (by omega) (by rw[D];exact q));rw[hr] at s;injection s with e1 e2;subst e1 e2;exact .inr ⟨_,rfl,au _,by simp⟩
theorem S2 (t F ty e:TypeId)(i:TypeInfo)(z:Value)(W:P.underlying t=some (.slice e))(C:P.underlying F=some .string)(Z:P.info? e=some i)(hz:i.zero=some z)
  (b:i.size=1) (Y:z.cells.size=1) (v:Value) (n:Nat) (xs:List Value) (c:w.ownsRow 0 e 1 v n xs) (s:ByteArray) (H:n+s.size<=maxLen) (q:(n+s.size) * i.bytes<=140737488355328) :
  ∃A w',(Builtin.append_ #[t,F] ty #[v,.string s]).run P w=.ok A w'/\w'.ownsRow 0 e 1 A (n+s.size) (xs++byteCells s)/\w.grownBy w' v.ownBlock/\(A.ownBlock=v.ownBlock\/∃g,A.ownBlock=some g/\w.heap.size<=g/\g < w'.heap.size):=by
 have h:Src P i.size F (.string s) s.size (byteCells s) w:=by rw[b];exact Src.ofString w C s
 have j:(xs++byteCells s).length=(n+s.size) * 1:=by rw[bf,c.1,byteCells_length];omega
 have grown:∀(base:Option Addr) (cap:Nat) (p:List Value),p=xs->cap < n+s.size->(Builtin.firstCells i.size n (.slice base n cap)).run P w.drew=.ok p.toArray w.drew->v=.slice base n cap->∃A w',(Builtin.append_ #[t,F] ty #[v,.string s]).run P w=.ok A w'/\w'.ownsRow 0 e 1 A (n+s.size) (xs++byteCells s)/\w.grownBy w' v.ownBlock/\(A.ownBlock=v.ownBlock\/∃g,A.ownBlock=some g/\w.heap.size<=g/\g < w'.heap.size):=λbase cap p T O D hv=>by
  subst T hv;have hr:=run_append_grow_src (P:=P) w t F ty e i z W Z hz base n cap p D (.string s) s.size (byteCells s) h O (by unfold maxLen at H;omega) (growslice_fits (by omega) q);have E:=grownCap_ge w (n+s.size) cap e;have u:=grownCap_le_maxLen w (n+s.size) cap e H;generalize grownCap w (n+s.size) cap e=G at hr E u;refine⟨_,_,hr,⟨j,.inr ⟨w.heap.size,G,_,rfl,av _,heap_alloc_new w.drew _,E,u,?_,?_⟩⟩,⟨rfl,rfl,rfl,by simp,λk X _=>(World.grownBy_alloc w.drew _ none).block k X (by simp)⟩,.inr ⟨_,rfl,au _,by simp⟩⟩
  .rw[Array.size_append,List.size_toArray,j,size_zeroCells,Y];omega
  .rw[Array.toList_append];exact List.take_left' j
 rcases c.2 with⟨rfl,rfl⟩ | ⟨g,cap,cur,rfl,-,O,hnc,u,hcs,htake⟩
 .have hx:xs=[]:=ay (by simpa using c.1);subst hx;by_cases M:s.size=0
  .have hb:byteCells s=[]:=ay (by rw[byteCells_length];exact M);refine⟨.slice none 0 0,w,?_,by rw[hb,M];exact World.ownsRow_nil w 0 e 1,World.grownBy.refl _ _,.inl rfl⟩;have J:=h.cells;rw[M] at J;simp[Builtin.append_,run_underlying W,run_underlying C,sizeOf,typeInfo,Z,Builtin.lenOf,M,J]
  .exact grown none 0 [] rfl (by omega) (by simpa using run_firstCells_none (P:=P) w.drew i.size 0 0 0) rfl
 .by_cases m:n+s.size<=cap
  .have B:=run_storeCells_at P g (n * 1) e (byteCells s) 0 cur w O (by rw[byteCells_length,hcs];omega) h.one;have J:=h.cells;rw[b] at J;refine⟨.slice (some ⟨g,0,none⟩) (n+s.size) cap,w.setRow g (cur.toList.take (n * 1)++byteCells s++cur.toList.drop (n * 1+(byteCells s).length)).toArray,?_,⟨j,.inr ⟨g,cap,_,rfl,av _,setRow_heap w g cur _ e (0,0) O,m,u,?_,?_⟩⟩,⟨rfl,rfl,rfl,by simp,λk _ X=>setRow_other w g k _ (λe=>X (by simp[Value.ownBlock,e]))⟩,.inl rfl⟩
   .simp only[Nat.add_zero] at B;simp[Builtin.append_,run_underlying W,run_underlying C,sizeOf,typeInfo,Z,b,h.len,m,J,Addr.add_lit];simp at B;rw[B];rfl
   .simp only[List.size_toArray,List.length_append,List.length_take,List.length_drop,Array.length_toList,byteCells_length,hcs];omega
   .rw[show n * 1=n * 1 from rfl,htake,<-j];exact List.take_left
  .exact grown (some ⟨g,0,none⟩) cap xs rfl (by omega) (by rw[b];exact run_firstCells_some (P:=P) w.drew 1 n ⟨g,0,none⟩ n cap xs c.1 (c.cells (g:=g) rfl)) rfl
end
section
variable {I I':Imm} {V V':Va} {g:G} {x:Value} {w w':World} {own:Os} {k n sz:Nat} {r:R} {t:Ts} {l:List (List G)}
theorem Kp (h:VRep I g x)(b:g.one=true):x.oneCell'=true:=by cases h<;>first | exact b | rfl | cases b
theorem Bk {rs:List (List Value)}(h:∀u∈rs,u.length=sz):rs.flatten.length=rs.length * sz:=by
 induction rs with
 | nil=>simp
 | cons u rs ih=>rw[cj,bf,h u (by simp),ih λv b=>h v (by simp[b]),bk,Nat.add_mul];omega
theorem Ci:∀{rs:List (List Value)} (_:∀u∈rs,u.length=sz) {i:Nat} {u:List Value} (_:rs[i]?=some u) {j:Nat} {x:Value} (_:u[j]?=some x),rs.flatten[i * sz+j]?=some x
 | [],_,i,_,b,_,_,_=>by simp at b
 | v::rs,h,0,u,b,j,x,hx=>by simp at b;subst b;rw[cj,Nat.zero_mul,cn,br (aq.1 hx).1];exact hx
 | v::rs,h,i+1,u,b,j,x,hx=>by have c:=h v (by simp);rw[cj,bn (by rw[c,Nat.add_mul];omega),c,show(i+1) * sz+j - sz=i * sz+j by rw[Nat.add_mul];omega];exact Ci (λu b=>h u (by simp[b])) (by simpa using b) hx
theorem Nw {rs:List (List Value)}(h:∀u∈rs,u.length=sz){m:Nat}{x:Value}(A:rs.flatten[m]?=some x):∃i j u,m=i * sz+j/\j < sz/\rs[i]?=some u/\u[j]?=some x:=by
 have q:=(aq.1 A).1;rw[Bk h] at q;have B:0 < sz:=by
  rcases ak sz with b | b
  .subst b;simp at q
  .exact b
 have c:m / sz < rs.length:=Nat.div_lt_of_lt_mul (by rw[Nat.mul_comm];exact q);have p:=Nat.mod_lt m B;have s:rs[m / sz].length=sz:=h _ (bu c);refine⟨m / sz,m % sz,rs[m / sz],(Nat.div_add_mod' m sz).symm,p,ap c,?_⟩;have z:=Ci h (ap c) (ap (by rw[s];exact p:m % sz < rs[m / sz].length));rw[Nat.div_add_mod' m sz,A] at z;rw[ap (by rw[s];exact p)];exact z.symm
theorem Z8 (h:VRep I (.sl l) x)(O:Mem I w)(B:∀r∈l,r.length=sz):∃A c,∃rs:List (List Value),x=.slice A l.length c/\l.length<=c/\(A=none->l=[]/\c=0)/\rs.length=l.length/\(∀(i:Nat) r u,l[i]?=some r->rs[i]?=some u->PW (VRep I) r u)/\(∀u∈rs,u.length=sz)/\∀a,A=some a->∀m x,rs.flatten[m]?=some x->I a.block (a.off+m)=some x/\w.cell? (a.add m)=some x:=by
 cases h with
 | sl l A c sz0 u hc hA hz0 h hu =>
  refine⟨A,c,(List.range l.length).map λi=>(List.range sz).map (u i),rfl,hc,λe=>⟨?_,hA e⟩,by simp,λi r v hr p=>?_,λv p=>?_,λa ha m x J=>?_⟩
  .cases l with
   | nil=>rfl
   | cons r l=>obtain⟨b,o,F,-⟩:=h 0 r rfl;rw[e] at F;cases F
  .have s:=(aq.1 hr).1;rw[ax,cy s] at p;simp at p;subst p;refine⟨by rw[B r (ar hr)];simp,λj g y E C=>?_⟩;have z:=(aq.1 E).1;rw[B r (ar hr)] at z;rw[ax,cy z] at C;simp at C;subst C;exact hu i r j g hr E
  .obtain⟨i,-,rfl⟩:=bi.1 p;simp
  .obtain⟨i,j,v,rfl,z,p,q⟩:=Nw (sz:=sz) (λv p=>by obtain⟨i,-,rfl⟩:=bi.1 p;simp) J;have s:i < l.length:=by have:=(aq.1 p).1;simpa using this
   rw[ax,cy s] at p;simp at p;subst p;rw[ax,cy z] at q;simp at q;subst q;obtain⟨b,o,e,T⟩:=h i l[i] (ap s);rw[ha] at e;obtain rfl:=ct e;have M:sz0=sz:=(hz0 _ (bu s)).symm.trans (B _ (bu s));subst M;have D:=T j z;refine⟨by rw[<-db];exact D,?_⟩;have H:=O b _ _ D;rw[<-H];unfold Addr.add;split
   .next W=>rw[show o+i * sz0+j=o by omega]
   .rw[db]
theorem Vp {b o c:Nat}{rs:List (List Value)}(C:rs.length=l.length)(E:l.length<=c)(D:∀(i:Nat) r u,l[i]?=some r->rs[i]?=some u->PW (VRep I) r u)(s:∀u∈rs,u.length=sz)(J:∀m x,rs.flatten[m]?=some x->I b (o+m)=some x):VRep I (.sl l) (.slice (some ⟨b,o,none⟩) l.length c):=by
 have hr:∀(i:Nat) r,l[i]?=some r->∃u,rs[i]?=some u/\PW (VRep I) r u/\u.length=sz:=λi r hr=>by
  have B:=(aq.1 hr).1;have p:i < rs.length:=by omega
  exact⟨rs[i],ap p,D i r _ hr (ap p),s _ (bu p)⟩
 refine .sl l _ c sz (λi j=>(rs.flatten[i * sz+j]?).getD undef) E (λe=>by cases e) (λr F=>?_) (λi r h=>⟨b,o,rfl,λj T=>?_⟩) (λi r j g h M=>?_)
 .obtain⟨i,B,e⟩:=cq.1 F;obtain⟨u,-,q,A⟩:=hr i r (by rw[ap B,e]);exact q.1.trans A
 .obtain⟨u,z,q,A⟩:=hr i r h;have:=Ci s z (ap (by omega:j < u.length));rw[db,this];exact J _ _ this
 .obtain⟨u,z,q,A⟩:=hr i r h;obtain⟨y,O,H⟩:=q.get M;rw[Ci s z O];exact H
end
def G.val:G->Value
 | .v x=>x
 | .ff=>.bool false
 | .nl=>.slice none 0 0
 | _=>undef
def zOK:G->Bool
 | .v x=>x.oneCell'
 | .ff | .nl=>true
 | _=>false
def Ze2 (P:Program)(t:TypeId):KD->Prop
 | .no=>True
 | .arr n e sz=>P.underlying t=some (.array n e)/\(P.info? e).map (·.size)=some sz
 | .fn=>True
 | .map s e=>∃b,P.underlying t=some (.map b e)/\P.underlying b=some (if s=true then .string else .int .i64)
 | .ptr=>∃e,P.underlying t=some (.pointer e)
 | .bool=>P.underlying t=some .bool
structure TIok (P:Program)(t:TypeId)(i:TI):Prop where
 agg:Oi P t=some i.agg
 size:(P.info? t).map (·.size)=some i.zero.length
 zero:((P.info? t).bind (·.zero)).map (λz=>z.cells.toList)=some (i.zero.map G.val)
 zok:Bp zOK i.zero=true
 elem:∀e sz,i.elem=some (e,sz)->P.underlying t=some (.slice e)/\∃j z,P.info? e=some j/\j.zero=some z/\j.size=sz/\z.cells.size=sz/\0 < sz/\j.bytes<=65536
 str:i.str=true->P.underlying t=some .string
 ik:∀k,i.ik=some k->P.underlying t=some (.int k)
 zag:∀z,(P.info? t).bind (·.zero)=some z->if i.agg=true then ∃cs,z=.agg cs else z.cells=#[z]
 kd:Ze2 P t i.kd
 flds:i.flds≠[]->∃F,P.underlying t=some (.struct F)/\F.toList.map (λf=>(f.type,f.offset))=i.flds/\∀f∈F.toList,∃m,(P.info? f.type).map (·.size)=some (m+1)
def vEq:Value->Value->Bool
 | .int k n,.int k' n'=>decide (k=k')&&decide (n=n')
 | .bool a,.bool b=>decide (a=b)
 | .string a,.string b=>decide (a.data.toList=b.data.toList)
 | .slice none 0 0,.slice none 0 0=>true
 | .pointer none,.pointer none=>true
 | .map none,.map none=>true
 | .nilFunc,.nilFunc=>true
 | .nilIface,.nilIface=>true
 | _,_=>false
theorem Z8x {a b:Value}(h:vEq a b=true):a=b:=by
 unfold vEq at h;split at h
 .simp at h;rw[h.1,h.2]
 .simp at h;rw[h]
 .next a b =>
  have h:=of_decide_eq_true h;obtain⟨⟨a⟩⟩:=a;obtain⟨⟨b⟩⟩:=b;simp at h;rw[h]
 all_goals first | rfl | cases h
def Zby:List Value->List Value->Bool
 | [],[]=>true
 | a::l,b::m=>vEq a b&&Zby l m
 | _,_=>false
theorem Xx:∀{l m:List Value},Zby l m=true->l=m
 | [],[],_=>rfl
 | a::l,b::m,h=>by simp[Zby] at h;rw[Z8x h.1,Xx h.2]
def tiB (P:Program)(t:TypeId)(i:TI):Bool :=
 (Oi P t==some i.agg)&&((P.info? t).map (·.size)==some i.zero.length)&&(match(P.info? t).bind (·.zero) with | some z=>Zby z.cells.toList (i.zero.map G.val) | none=>false)&&Bp zOK i.zero &&
 (match i.elem with
  | none=>true
  | some (e,sz)=>(match P.underlying t with | some (.slice e')=>decide (e'=e) | _=>false)&&(match P.info? e with | some j=>(match j.zero with | some z=>decide (z.cells.size=sz) | none=>false)&&decide (j.size=sz)&&decide (0 < sz)&&decide (j.bytes<=65536) | none=>false)) &&
 (match i.str,P.underlying t with | false,_=>true | true,some .string=>true | _,_=>false) &&
 (match i.ik,P.underlying t with | none,_=>true | some k,some (.int k')=>decide (k'=k) | _,_=>false) &&
 (match(P.info? t).bind (·.zero) with | some (.agg _)=>i.agg | some _=>!i.agg | none=>false) &&
 (match i.kd,P.underlying t with
  | .no,_=>true
  | .fn,_=>true
  | .arr n e sz,some (.array n' e')=>decide (n'=n)&&decide (e'=e)&&((P.info? e).map (·.size)==some sz)
  | .map s e,some (.map kt e')=>decide (e'=e)&&(match s,P.underlying kt with | true,some .string=>true | false,some (.int .i64)=>true | _,_=>false)
  | .ptr,some (.pointer _)=>true
  | .bool,some .bool=>true
  | _,_=>false) &&
 (match i.flds with
  | []=>true
  | fl=>match P.underlying t with | some (.struct F)=>decide (F.toList.map (λf=>(f.type,f.offset))=fl)&&F.toList.all (λf=>match P.info? f.type with | some j=>decide (0 < j.size) | none=>false) | _=>false)
theorem Z9p {P:Program}{t:TypeId}{i:TI}(h:tiB P t i=true):TIok P t i:=by
 unfold tiB at h;simp only[Bool.and_eq_true] at h;obtain⟨⟨⟨⟨⟨⟨⟨⟨⟨q,c⟩,O⟩,h4⟩,A⟩,X⟩,p⟩,m⟩,b⟩,B⟩:=h;refine⟨by simpa using q,by simpa using c,?_,h4,λe sz M=>?_,λM=>?_,λk M=>?_,λz H=>?_,?_,λhn=>?_⟩
 .split at O
  .next z H=>rw[H];simp[Xx O]
  .cases O
 .rw[M] at A;simp only[Bool.and_eq_true] at A;obtain⟨A,u⟩:=A;split at A
  .next e' C =>
   have:=of_decide_eq_true A;subst this;refine⟨C,?_⟩;split at u
   .next j W =>
    simp only[Bool.and_eq_true] at u;obtain⟨⟨⟨u,J⟩,Z⟩,T⟩:=u;split at u
    .next z H=>exact⟨j,z,W,H,of_decide_eq_true J,of_decide_eq_true u,of_decide_eq_true Z,of_decide_eq_true T⟩
    .cases u
   .cases u
  .cases A
 .rw[M] at X;split at X
  .next h=>cases h
  .next C=>exact C
  .cases X
 .rw[M] at p;split at p
  .next h=>cases h
  .next k' D h C =>
   cases h;rw[C,of_decide_eq_true p]
  .cases p
 .rw[H] at m;split at m
  .next cs h=>cases h;rw[dp m];exact⟨cs,rfl⟩
  .next z' Y h =>
   cases h;rw[dn (by simpa using m)];cases z<;>first | rfl | exact dq rfl (Y _)
  .next h=>cases h
 .split at b
  .next e=>rw[e];exact trivial
  .next e=>rw[e];exact trivial
  .next n e sz n' e' q c =>
   rw[q];simp only[Bool.and_eq_true] at b;obtain⟨⟨E,D⟩,k3⟩:=b;exact⟨by rw[c,of_decide_eq_true E,of_decide_eq_true D],by simpa using k3⟩
  .next s e kt e' q c =>
   rw[q];simp only[Bool.and_eq_true] at b;obtain⟨E,D⟩:=b;have E:=of_decide_eq_true E;subst E;refine⟨kt,c,?_⟩;split at D
   .next h=>rw[h];rfl
   .next h=>rw[h];rfl
   .cases D
  .next q c=>rw[q];exact⟨_,c⟩
  .next q c=>rw[q];exact c
  .cases b
 .split at B
  .next h0=>exact dq h0 hn
  .split at B
   .next F hF =>
    simp only[Bool.and_eq_true,List.all_eq_true] at B;refine⟨F,hF,of_decide_eq_true B.1,λf hf=>?_⟩;have J:=B.2 f hf;split at J
    .next j W =>
     have Z:=of_decide_eq_true J;exact⟨j.size - 1,by rw[W];simp;omega⟩
    .cases J
   .cases B
def Zds (P:Program)(l:List (Nat × TI)):Bool:=l.all λp=>tiB P p.1 p.2
theorem P1 {α:Type}{k:Nat}{x:α}:∀{l:List (Nat × α)},look k l=some x->(k,x)∈l
 | [],h=>by cases h
 | (j,y)::l,h=>by
  rw[Ac] at h;split at h
  .next e=>subst e;cases h;simp
  .simp[P1 h]
theorem Z13 {P:Program}{l:List (Nat × TI)}(h:Zds P l=true)(t:TypeId)(i:TI)(b:look t l=some i):TIok P t i:=by have c:tiB P t i=true:=List.all_eq_true.1 h (t,i) (P1 b);exact Z9p c
structure ARep (N:Nat)(I:Imm)(V:Va)(a:Act)(t:Ts):Prop where
 defers:a.defers=[]
 size:a.tmps.size=N
 get:∀i g,look i t=some g->∃x,a.tmps[i]?=some x/\TRep I V g x
section
variable {P:Program} {tb:List (Nat × TI)} {N:Nat} {I I':Imm} {V V':Va} {a:Act} {t:Ts} {own own':Os} {w w':World} {x:Operand} {g:G} {y:Value} {d:Option Tmp}
theorem ARep.mono (h:ARep N I V a t)(m:I.le I')(c:V.le V'):ARep N I' V' a t :=
 ⟨h.defers,h.size,λi g p=>by obtain⟨x,b,j⟩:=h.get i g p;exact⟨x,b,j.mono m c⟩⟩
theorem ARep.sub {b:Ts}(h:ARep N I V a t)(c:∀i g,look i b=some g->look i t=some g):ARep N I V a b:=⟨h.defers,h.size,λi g e=>h.get i g (c i g e)⟩
theorem ARep.put (h:ARep N I V a t)(hd:∀i,d=some i->i < N)(q:TRep I V g y):ARep N I V (a.put d y) (put d g t):=by
 cases d with
 | none=>exact h
 | some d =>
  refine⟨h.defers,by simp[Act.put,h.size],λi j b=>?_⟩
  change look i ((d,g)::t)=some j at b
  rw[Ac] at b;have c:d < a.tmps.size:=by rw[h.size];exact hd d rfl
  split at b
  .next e =>
   subst e;cases b;exact⟨y,by simp[Act.put,c],q⟩
  .next e =>
   obtain⟨z,m,p⟩:=h.get i j b;refine⟨z,?_,p⟩;show(a.tmps.setIfInBounds d y)[i]?=_;rw[Array.getElem?_setIfInBounds_ne (Ne.symm e)];exact m
theorem Zaq (x:Value):TRep I V (Gof x) x:=by
 apply TRep.of_v;unfold Gof;split
 .exact .tt
 .exact .ff
 .exact .nl
 .exact .v x
theorem B1 {K:G->Prop}(h:ev t own x K)(ha:ARep N I V a t)(hH:Has I V own w):∃g,K g/\TRep I V g (a.eval x):=by
 cases x with
 | tmp i =>
  unfold ev at h;dsimp only at h;cases hl:look i t with
  | none=>rw[hl] at h;exact h.elim
  | some g =>
   obtain⟨y,j,b⟩:=ha.get i g hl;have e:a.eval (.tmp i)=y:=by simp[Act.eval,j]
   rw[e];rw[hl] at h;cases g with
   | osl k =>
    dsimp only at h;split at h
    .next c hr =>
     refine⟨_,h,TRep.of_v ?_⟩;have m:=(hH.each k _ hr).2.1;rw[show y=V.s k from b.2];exact m
    .exact⟨_,h,b⟩
   | _=>exact⟨_,h,b⟩
 | const x=>exact⟨_,h,Zaq x⟩
 | func f=>exact⟨.v (.func (.func f) #[] #[]),h,TRep.of_v (.v _)⟩
 | global g=>exact False.elim h
theorem Mt:∀{l:List Operand} {K:List G->Prop},evs t own l K->ARep N I V a t->Has I V own w->∃gs,K gs/\PW (TRep I V) gs (l.map a.eval)
 | [],K,h,_,_=>⟨[],h,.nil⟩
 | x::l,K,h,ha,hH=>by obtain⟨g,b,c⟩:=B1 (K:=λg=>evs t own l λr=>K (g::r)) h ha hH;obtain⟨gs,m,j⟩:=Mt b ha hH;exact⟨_,m,.cons c j⟩
theorem Sb {Q:G->Value->Prop}:∀{l:List G} {cs:List Value} {k n:Nat} {K:List G->Prop},Zc1 l k n K->PW Q l cs->∃c,K c/\PW Q c ((cs.drop k).take n)/\k+n<=cs.length+(if n=0 then k else 0)
 | l,cs,k,0,K,h,_=>by cases l<;>exact⟨[],h,by simpa using PW.nil,by simp⟩
 | [],cs,k,n+1,K,h,_=>by cases k<;>exact h.elim
 | g::l,cs,0,n+1,K,h,hp=>by obtain⟨x,p,rfl,s,m⟩:=hp.uncons;obtain⟨c,j,q,b⟩:=Sb (K:=λr=>K (g::r)) h m;refine⟨_,j,by simpa using PW.cons s (by simpa using q),?_⟩;simp only[List.length_cons] at b⊢;split at b<;>simp<;>omega
 | g::l,cs,k+1,n+1,K,h,hp=>by obtain⟨x,p,rfl,s,m⟩:=hp.uncons;obtain⟨c,j,q,b⟩:=Sb (k:=k) (n:=n+1) h m;refine⟨_,j,by simpa using q,?_⟩;simp only[List.length_cons] at b⊢;simp at b⊢;omega
theorem PW.part {Q:G->Value->Prop}{l:List G}{cs:List Value}(h:PW Q l cs)(k n:Nat):PW Q ((l.drop k).take n) ((cs.drop k).take n):=by
 refine⟨by simp[h.1],λj g u b c=>?_⟩;rw[bp] at b c;split at b
 .next m =>
  rw[dp m] at c;rw[cd] at b c;exact h.2 _ g u b c
 .cases b
theorem Lf {Q:G->Value->Prop}{l:List G}{cs:List Value}{k n:Nat}{K:List G->Prop}(h:seg l k n K)(b:PW Q l cs):∃c,K c/\PW Q c ((cs.drop k).take n)/\k+n<=cs.length+(if n=0 then k else 0):=by
 unfold seg at h;split at h
 .exact Sb h b
 .exact⟨_,h.next,b.part k n,by have:=h.fit;have:=b.1;omega⟩
theorem Oy {Q:G->Value->Prop}{l:List G}{cs:List Value}{k n:Nat}{K:List G->Prop}(h:seg l k n K)(c:PW Q l cs)(j:0 < n):k+n<=cs.length:=by obtain⟨-,-,-,b⟩:=Lf h c;rw[dn (by omega)] at b;exact b
theorem Rl {Q:G->Value->Prop}:∀{l:List G} {cs:List Value} {k:Nat} {m:List G} {ds:List Value} {K:List G->Prop},Zbs l k m K->PW Q l cs->PW Q m ds->∃j,K j/\PW Q j (cs.take k++ds++cs.drop (k+ds.length))/\(ds≠[]->k+ds.length<=cs.length)
 | l,cs,k,[],ds,K,h,hp,hd=>by rw[hd.of_nil];refine⟨l,?_,by simpa using hp,by simp⟩;cases l<;>first | exact h | (cases k<;>exact h)
 | [],cs,k,c::m,ds,K,h,hp,hd=>by cases k<;>exact h.elim
 | g::l,cs,0,c::m,ds,K,h,hp,hd=>by
  obtain⟨x,u,rfl,B,p⟩:=hp.uncons;obtain⟨y,b,rfl,E,D⟩:=hd.uncons;obtain⟨j,s,q,A⟩:=Rl (K:=λr=>K (c::r)) h p D;refine⟨_,s,by simpa using PW.cons E (by simpa using q),λ_=>?_⟩;cases b with
  | nil=>simp
  | cons z b=>have:=A (by simp);simp at this⊢;omega
 | g::l,cs,k+1,c::m,ds,K,h,hp,hd=>by obtain⟨x,u,rfl,B,p⟩:=hp.uncons;obtain⟨j,s,q,A⟩:=Rl (k:=k) (K:=λr=>K (g::r)) h p hd;refine⟨_,s,?_,λC=>by have:=A C;simp;omega⟩;have:=PW.cons B q;simpa [Nat.add_right_comm] using this
theorem Qy {Q:G->Value->Prop}{n:Nat}{l:List G}{cs:List Value}{k:Nat}{m:List G}{ds:List Value}{K:List G->Prop}(h:ovr n l k m K)(b:PW Q l cs)(hd:PW Q m ds):∃c,K c/\PW Q c (cs.take k++ds++cs.drop (k+ds.length))/\(ds≠[]->k+ds.length<=cs.length):=by
 unfold ovr at h;split at h
 .exact Rl h b hd
 .obtain⟨⟨z,s⟩,q⟩:=h;have u:=b.1;have A:=hd.1;refine⟨_,q,?_,λ_=>by omega⟩;have p:=b.part 0 k;have j:=b.part (k+n) (cs.length);rw[List.drop_zero,List.drop_zero] at p;rw[ba (by rw[bj];omega),ba (by rw[bj];omega)] at j;rw[show k+ds.length=k+n by omega];exact(p.append hd).append j
theorem Ai {α:Type}{p:α->Bool}:∀{l:List α},Bp p l=true->∀x∈l,p x=true
 | [],_,_,b=>by simp at b
 | y::l,h,x,b=>by
  unfold Bp at h;cases hp:p y with
  | false=>rw[hp] at h;cases h
  | true =>
   rw[hp] at h;rcases bo.1 b with rfl | b
   .exact hp
   .exact Ai h x b
theorem Hy {n:Nat}{l:List G}{K:G->Prop}{cs:List Value}(h:Ha n l K)(b:PW (CRep I V) l cs):∃g,K g/\TRep I V g (.agg cs.toArray):=by
 unfold Ha at h;split at h
 .split at h
  .next p=>exact⟨_,h,.of_v (.agg l cs b.1 λj g u c m=>(b.2 j g u c m).to_v (Ai p g (ar c)))⟩
  .exact⟨_,h,.of_1 (g:=.oag l) ⟨cs,rfl,b⟩⟩
 .exact⟨_,h.next,.of_v (.agg l cs b.1 λj g u c m=>(b.2 j g u c m).to_v (h.fit g (ar c)))⟩
theorem Z68 {n:Nat}(h:Sy n=true):48 < n:=dm h
theorem Z5 {n:Nat}{cs:List G}{A:Prop}(h:Zc4 n cs A):cs.length=n/\A:=by
 unfold Zc4 at h;split at h
 .split at h
  .next b=>exact⟨aw b,h⟩
  .exact h.elim
 .exact⟨h.fit,h.next⟩
theorem L5 {g:G}(h:N6 g=true):∃x,g=.v x/\x.oneCell'=true:=by cases g<;>first | exact⟨_,rfl,h⟩ | cases h
theorem Ld {g:G}(h:N6 g=true):g.pure=true:=by obtain⟨x,rfl,-⟩:=L5 h;rfl
theorem Z2h {g:G}(h:N6 g=true):G.one g=true:=by obtain⟨x,rfl,b⟩:=L5 h;exact b
theorem Y2 {g:G}(h:N6 g=true):Z8s own g=true:=by obtain⟨x,rfl,b⟩:=L5 h;exact b
theorem Fj {α:Type}{p:α->Bool}:∀{l:List α},(∀x∈l,p x=true)->Bp p l=true
 | [],_=>rfl
 | x::l,h=>by unfold Bp;rw[h x (by simp)];exact Fj λy b=>h y (by simp[b])
theorem Z08 {n:Nat}{cs:List G}{A:Prop}(h:Zai n own cs A):Bp (Z8s own) cs=true/\cs.length=n/\cs≠[]/\A/\(Sy n=true->Bp G.pure cs=true):=by
 unfold Zai at h;split at h
 .next b =>
  split at h
  .next j m=>exact⟨j,aw m,by simp,h,λe=>by rw[e] at b;cases b⟩
  .exact h.elim
 .next b =>
  have:=Z68 b;exact⟨Fj λg c=>Y2 (h.fit.2 g c),h.fit.1,λe=>(by have:=h.fit.1;rw[e] at this;simp at this;omega),h.next,λ_=>Fj λg c=>Ld (h.fit.2 g c)⟩
theorem P0 {k:Nat}{o:Os}{K1:Nat->Prop}:∀{l:Os},Z76 k o l K1->∃b i,look i o=some (.adr k b)/\K1 b
 | [],h=>h.elim
 | (i,r)::l,h=>by
  unfold Z76 at h;split at h
  .next j b c =>
   split at h
   .next m =>
    have:=aw m;subst this;exact⟨b,i,c,h⟩
   .exact P0 h
  .exact P0 h
theorem Sz {n:Nat}{cs:List G}{A:Prop}(h:Zbt n cs A)(j:Sy n=true->Bp G.pure cs=true):Bp G.pure cs=true/\A:=by
 unfold Zbt at h;split at h
 .split at h
  .next b=>exact⟨b,h⟩
  .exact h.elim
 .next c=>exact⟨j c,h⟩
theorem Z06 {x:Value}(h:x.oneCell'=true):x.cells=#[x]:=by cases x<;>first | rfl | cases h
theorem Gr {K:List G->Prop}(h:Fm own g K)(B:TRep I V g y)(hH:Has I V own w):∃cs,K cs/\PW (CRep I V) cs y.cells.toList/\(∀b,y=.agg b->b.toList=y.cells.toList):=by
 cases g with
 | agg l =>
  cases(show VRep I (.agg l) y from B) with
  | agg l cs hl hh=>exact⟨l,h,(⟨hl,λj g u C p=>.of_v (hh j g u C p)⟩:PW (CRep I V) l cs),λb e=>by cases e;rfl⟩
 | oag l =>
  obtain⟨cs,rfl,F⟩:=(show TRep1 I V (.oag l) y from B);exact⟨l,h,by simpa [Value.cells] using F,λb e=>by cases e;rfl⟩
 | tup l=>exact h.elim
 | elp r o=>exact h.elim
 | oel k i s o=>exact h.elim
 | orv k i s o l c=>exact h.elim
 | un=>exact h.elim
 | clo f a c=>exact h.elim
 | mp k=>obtain⟨E,rfl⟩:=(show CRep I V (.mp k) y from B);exact⟨_,h,by simpa [Value.cells] using PW.cons (g:=.mp k) ⟨E,rfl⟩ .nil,λb e=>by cases e⟩
 | v z =>
  cases(show VRep I (.v z) y from B);unfold Fm at h;dsimp only at h;split at h
  .next C=>exact⟨_,h,by rw[Z06 C];exact PW.cons (.of_v (.v _)) .nil,λb e=>by subst e;cases C⟩
  .exact h.elim
 | tt=>cases(show VRep I .tt y from B);exact⟨_,h,by simpa [Value.cells] using PW.cons (.of_v .tt) .nil,λb e=>by cases e⟩
 | ff=>cases(show VRep I .ff y from B);exact⟨_,h,by simpa [Value.cells] using PW.cons (.of_v .ff) .nil,λb e=>by cases e⟩
 | nl=>cases(show VRep I .nl y from B);exact⟨_,h,by simpa [Value.cells] using PW.cons (.of_v .nl) .nil,λb e=>by cases e⟩
 | ptr k o=>obtain⟨E,rfl⟩:=(show CRep I V (.ptr k o) y from B);exact⟨_,h,by simpa [Value.cells] using PW.cons (g:=.ptr k o) ⟨E,rfl⟩ .nil,λb e=>by cases e⟩
 | sl l =>
  have C:=(show VRep I (.sl l) y from B);have p:=C;cases p with
  | sl l A c sz u hc hA hz hh hu=>exact⟨[.sl l],h,by simpa [Value.cells] using PW.cons (.of_v C) .nil,λb e=>by cases e⟩
 | osl k =>
  obtain⟨E,rfl⟩:=(show CRep I V (.osl k) y from B);unfold Fm at h;dsimp only at h;split at h
  .next m e sz hr =>
   obtain⟨-,rs,p,-⟩:=hH.each k _ hr;have H:∃A n c,V.s k=.slice A n c:=by
    rcases p.2 with⟨e,-⟩ | ⟨g,cap,cur,e,-⟩
    .exact⟨_,_,_,e⟩
    .exact⟨_,_,_,e⟩
   obtain⟨A,n,c,e⟩:=H;exact⟨_,h,by rw[e];simpa [Value.cells] using PW.cons (g:=.osl k) (l:=[]) (P:=CRep I V) ⟨E,e.symm⟩ .nil,λb D=>by rw[e] at D;cases D⟩
  .next m sz hr =>
   obtain⟨-,C,-⟩:=hH.each k _ hr;have p:=C;generalize V.s k=z at C p;cases p with
   | sl l A c sz u hc hA hz hh hu=>exact⟨[.sl m],h,by simpa [Value.cells] using PW.cons (.of_v C) .nil,λb e=>by cases e⟩
  .next m e sz hr =>
   obtain⟨-,rs,p,-⟩:=hH.each k _ hr;have H:∃A n c,V.s k=.slice A n c:=by
    rcases p.2 with⟨e,-⟩ | ⟨g,q,cap,cur,e,-⟩
    .exact⟨_,_,_,e⟩
    .exact⟨_,_,_,e⟩
   obtain⟨A,n,c,e⟩:=H;exact⟨_,h,by rw[e];simpa [Value.cells] using PW.cons (g:=.osl k) (l:=[]) (P:=CRep I V) ⟨E,e.symm⟩ .nil,λb D=>by rw[e] at D;cases D⟩
  .exact h.elim
 | osv k sz lo hi =>
  obtain⟨E,M,rfl⟩:=(show k < V.n/\(lo<=hi/\hi<=Mb (V.s k))/\y=K0 sz (V.s k) lo hi from B);unfold Fm at h;dsimp only at h;split at h
  .next m e J hr =>
   obtain⟨-,rs,p,-⟩:=hH.each k _ hr;have H:∃A n c,V.s k=.slice A n c:=by
    rcases p.2 with⟨e,-⟩ | ⟨g,cap,cur,e,-⟩
    .exact⟨_,_,_,e⟩
    .exact⟨_,_,_,e⟩
   obtain⟨A,n,c,e⟩:=H;exact⟨_,h,PW.cons (g:=.osv k sz lo hi) (l:=[]) (P:=CRep I V) (cs:=[]) (x:=K0 sz (V.s k) lo hi) ⟨E,M,rfl⟩ .nil |> λF=>(by rw[e] at F⊢;exact F),λb D=>by rw[e] at D;cases D⟩
  .next m e J hr =>
   obtain⟨-,rs,p,-⟩:=hH.each k _ hr;have H:∃A n c,V.s k=.slice A n c:=by
    rcases p.2 with⟨e,-⟩ | ⟨g,q,cap,cur,e,-⟩
    .exact⟨_,_,_,e⟩
    .exact⟨_,_,_,e⟩
   obtain⟨A,n,c,e⟩:=H;exact⟨_,h,PW.cons (g:=.osv k sz lo hi) (l:=[]) (P:=CRep I V) (cs:=[]) (x:=K0 sz (V.s k) lo hi) ⟨E,M,rfl⟩ .nil |> λF=>(by rw[e] at F⊢;exact F),λb D=>by rw[e] at D;cases D⟩
  .exact h.elim
end
def Nxt (N:Nat)(own0:Os)(I0:Imm)(V0:Va)(w0:World)(K:Ts->Os->Nat->Prop)(next:Act->World->Prop):Prop :=
 ∀t own I V a w,K t own V.n->Since own0 I0 V0 w0 own I V w->ARep N I V a t->next a w
def Agree (V:Va)(XL:List Nat)(w u:World):Prop:=∀b,b < w.heap.size->(∀k∈XL,¬V.f k b)->u.heap[b]?=w.heap[b]?
def Va.kp (V V':Va):Prop:=∀k,k < V.n->∀b,V'.f k b->V.f k b
theorem Va.kp.refl (V:Va):V.kp V:=λ_ _ _ h=>h
theorem Va.kp.trans {V V' V'':Va}(h:V.kp V')(j:V.n<=V'.n)(p:V'.kp V''):V.kp V'':=λk c b m=>h k c b (p k (bc c j) b m)
theorem Va.kp.push (V:Va)(b:Nat)(s:Value)(f:Nat->Prop):V.kp (V.push b s f):=λk h b c=>by simpa [Va.push,Nat.ne_of_lt h] using c
theorem Va.kp.drop (V:Va)(k:Nat):V.kp (V.drop k):=λj _ b c=>by
 change (if j=k then λ_=>False else V.f j) b at c
 split at c
 .exact c.elim
 .exact c
def QOk (S:World->Prop)(P:Program)(I:Imm)(V:Va)(own:Os)(_:World)(a:Act)(t:Ts)(o:Oper)(K:Ts->Os->Nat->Prop):Prop :=
 ∃g y,K (put o.dst g t) own V.n/\TRep I V g y/\∀u,S u->(execOp a.eval o).run P u=.ok (.value y) u
def NxtB (N:Nat)(own:Os)(I:Imm)(V:Va)(w:World)(K:Ts->Os->Nat->Prop)(next:Act->World->Prop):Prop :=
 ∀t own' I' V' a w',K t own' V'.n->Later own I V w own' I' V' w'->Below w.heap.size w w'->V.kp V'->ARep N I' V' a t->next a w'
section
variable {P:Program} {tb:List (Nat × TI)} {N:Nat} {I I' I0:Imm} {V V' V0:Va} {a:Act} {t:Ts} {own own' own0:Os} {w w' w0:World} {x:Operand} {g:G} {y:Value} {d:Option Tmp} {o:Oper}
variable {K:Ts->Os->Nat->Prop} {next:Act->World->Prop} {Q:Exit->Act->World->Prop}
theorem fin (hK:Nxt N own0 I0 V0 w0 K next)(hL:Since own0 I0 V0 w0 own I V w)(ha:ARep N I V a t)(hd:∀i,o.dst=some i->i < N)
  (hr:(execOp a.eval o).run P w=.ok (.value y) w') (b:Later own I V w own' I' V' w') (h:TRep I' V' g y) (c:K (put o.dst g t) own' V'.n):o.wp P a w next Q:=by
 unfold Oper.wp;rw[hr];exact hK _ _ _ _ _ _ c (hL.trans b) ((ha.mono b.fro.mono b.va).put hd h)
theorem QOk.wp {S:World->Prop}(h:QOk S P I V own w a t o K)(b:S w)(hK:Nxt N own0 I0 V0 w0 K next)(hL:Since own0 I0 V0 w0 own I V w)(ha:ARep N I V a t)(hd:∀i,o.dst=some i->i < N):o.wp P a w next Q:=by obtain⟨g,y,j,c,hr⟩:=h;exact fin hK hL ha hd (hr w b) (.refl hL.has) c j
theorem Rc (hK:NxtB N own I V w K next)(ha:ARep N I V a t)(hd:∀i,o.dst=some i->i < N)
  (hr:(execOp a.eval o).run P w=.ok (.value y) w') (b:Later own I V w own' I' V' w') (h:Below w.heap.size w w') (c:V.kp V') (j:TRep I' V' g y) (m:K (put o.dst g t) own' V'.n):o.wp P a w next Q:=by
 unfold Oper.wp;rw[hr];exact hK _ _ _ _ _ _ m b h c ((ha.mono b.fro.mono b.va).put hd j)
theorem NxtB.of (hK:Nxt N own0 I0 V0 w0 K next)(hL:Since own0 I0 V0 w0 own I V w):NxtB N own I V w K next:=λ_ _ _ _ _ _ c b _ _ ha=>hK _ _ _ _ _ _ c (hL.trans b) ha
theorem P3 (hK:Nxt N own0 I0 V0 w0 K next)(hL:Since own0 I0 V0 w0 own I V w)(ha:ARep N I V a t)(hd:∀i,o.dst=some i->i < N)
  (hr:(execOp a.eval o).run P w=.ok .skip w') (b:Later own I V w own' I' V' w') (c:K (put o.dst .un t) own' V'.n):o.wp P a w next Q:=by
 unfold Oper.wp;rw[hr];exact hK _ _ _ _ _ _ c (hL.trans b) ((ha.mono b.fro.mono b.va).put hd (.of_v .un))
theorem Agree.cell {XL:List Nat}{u:World}(h:Agree V XL w u){b o:Nat}{v:Value}(j:w.cell? ⟨b,o,none⟩=some v)(m:∀k∈XL,¬V.f k b):u.cell? ⟨b,o,none⟩=some v:=by have c:=World.block_lt_of_cell? w ⟨b,o,none⟩ j;rw[ac (w:=w) (w':=u) (a:=⟨b,o,none⟩) (h b c m)];exact j
theorem Co (b o k:Nat):(⟨b,o,none⟩:Addr).add k=⟨b,o+k,none⟩:=by unfold Addr.add;split<;>simp_all
theorem Kf {b:TypeId}{i:TI}(h:TIok P b i)(cs:List Value)(off:Nat)(w:World):(part b cs.toArray off).run P w =
  if i.agg=true then .ok (.agg ((cs.drop off).take i.zero.length).toArray) w else(match cs[off]? with | some v=>.ok v w | none=>.halt (.stuck "part: no such cell") w):=by
 unfold part;have c:=Bm (P:=P) h.size w;simp only[Sem.run_bind,Fx h.agg,Result.andThen_ok];cases i.agg with
 | true=>simp[c,Result.andThen]
 | false=>simp;split<;>simp_all [Go.stuck]
theorem Z15 {ty:TypeId}{i:TI}(h:TIok P ty i)(m:i.agg=true){b off:Nat}{cs:List Value}(c:cs.length=i.zero.length)(p:∀(j:Nat) v,cs[j]?=some v->w.cell? ⟨b,off+j,none⟩=some v) :
  (Instr.loadAt ty (.pointer (some ⟨b,off,none⟩))).run P w=.ok (.agg cs.toArray) w:=by
 have:=Cu (P:=P) (w:=w) (g:=b) (k:=off) (ty:=ty) (cs:=cs) (by rw[h.agg,m]) (by rw[h.size,c]) p;simp only[Instr.loadAt,Instr.sureAddr,Sem.run_bind,Sem.run_pure,Result.andThen_ok,this]
theorem Z5i {ty:TypeId}{i:TI}(h:TIok P ty i)(c:i.agg=false){b off:Nat}{v:Value}(j:w.cell? ⟨b,off,none⟩=some v) :
  (Instr.loadAt ty (.pointer (some ⟨b,off,none⟩))).run P w=.ok v w:=by
 simp only[Instr.loadAt,Instr.sureAddr,loadVar,Sem.run_bind,Sem.run_pure,Result.andThen_ok,Fx (P:=P) (show Oi P ty=some false by rw[h.agg,c]),run_load,j,Bool.false_eq_true,if_false]
theorem Zao {row:List G}{b o:Nat}(h:∀(j:Nat) g,row[j]?=some g->∃u,I b (o+j)=some u/\VRep I g u):∃q,PW (VRep I) row q/\∀(j:Nat) u,q[j]?=some u->I b (o+j)=some u:=by
 refine⟨(List.range row.length).map λj=>(I b (o+j)).getD undef,⟨by simp,λj g u z c=>?_⟩,λj u c=>?_⟩
 .have p:=(aq.1 z).1;rw[ax,cy p] at c;obtain⟨v,m,s⟩:=h j g z;simp[m] at c;subst c;exact s
 .have p:j < row.length:=by have:=(aq.1 c).1;simpa using this
  rw[ax,cy p] at c;obtain⟨v,m,s⟩:=h j row[j] (ap p);simp[m] at c;subst c;exact m
theorem Ij {cs:List Value}{k n j:Nat}{v:Value}(h:((cs.drop k).take n)[j]?=some v):cs[k+j]?=some v:=by
 rw[bp] at h;split at h
 .rw[cd] at h;exact h
 .cases h
theorem Zbu {l:List G}{cs:List Value}(h:PW (VRep I) l cs):VRep I (.agg l) (.agg cs.toArray):=.agg l cs h.1 h.2
theorem Q9 (hH:Has I V own w){k e sz:Nat}{h:List (List G)}(F:look k own=some (.slc h e sz)){b n c:Nat}(z:V.s k=.slice (some ⟨b,0,none⟩) n c) :
  ∃rs:List (List Value),∃m:Array Value,w.heap[b]?=some (.cells m e (0,0))/\rs.length=h.length/\(∀(i:Nat) r u,h[i]?=some r->rs[i]?=some u->PW (VRep I) r u)/\(∀u∈rs,u.length=sz)/\(∀u∈rs,∀x∈u,x.oneCell'=true)/\n=h.length/\n<=c/\c<=maxLen/\m.size=c * sz/\m.toList.take (n * sz)=rs.flatten/\∀i u j x,rs[i]?=some u->u[j]?=some x->w.cell? ⟨b,i * sz+j,none⟩=some x:=by
 obtain⟨-,rs,⟨J,D⟩,A,H,q,E,M⟩:=hH.each k _ F;rcases D with⟨p,-⟩ | ⟨g,cap,m,p,-,hg,hn,hm,hc,ht⟩
 .rw[z] at p;cases p
 .rw[z] at p;injection p with p e2 e3;injection p with p;injection p with p;subst p e2 e3;refine⟨rs,m,hg,A,H,q,E,rfl,hn,hm,hc,ht,λi u j x B C=>?_⟩;rw[cell_of_row w b _ m e (0,0) hg];have:=Ci q B C;rw[<-ht,bp] at this;split at this
  .simpa using this
  .cases this
theorem Z2n (hH:Has I V own w){k e sz:Nat}{j:List (List G)}(u:look k own=some (.slc j e sz)){b q n c:Nat}(m:V.s k=.slice (some ⟨b,q,none⟩) n c):q=0:=by
 obtain⟨-,rs,⟨z,p⟩,-⟩:=hH.each k _ u;rcases p with⟨h,-⟩ | ⟨g,cap,cur,h,-⟩
 .rw[m] at h;cases h
 .rw[m] at h;injection h with h e2 e3;injection h with h;injection h
theorem Z90 (hH:Has I V own w){k e sz:Nat}{h:List (List G)}(H:look k own=some (.vw h e sz)){b q n c:Nat}(A:V.s k=.slice (some ⟨b,q,none⟩) n c) :
  ∃rs:List (List Value),∃m:Array Value,w.heap[b]?=some (.cells m e (0,0))/\rs.length=h.length/\(∀(i:Nat) r u,h[i]?=some r->rs[i]?=some u->PW (VRep I) r u)/\(∀u∈rs,u.length=sz)/\(∀u∈rs,∀x∈u,x.oneCell'=true)/\n=h.length/\n<=c/\c<=maxLen/\q+c * sz<=m.size/\(m.toList.drop q).take (n * sz)=rs.flatten/\∀(i:Nat) u (j:Nat) x,rs[i]?=some u->u[j]?=some x->w.cell? ⟨b,q+i * sz+j,none⟩=some x:=by
 obtain⟨-,rs,⟨M,E⟩,B,J,z,F,O⟩:=hH.each k _ H;rcases E with⟨p,-⟩ | ⟨g,q',cap,m,p,hg,hn,hm,hc,ht⟩
 .rw[A] at p;cases p
 .rw[A] at p;injection p with p e2 e3;injection p with p;injection p with p e4;subst p e2 e3 e4;refine⟨rs,m,hg,B,J,z,F,rfl,hn,hm,hc,ht,λi u j x C D=>?_⟩;rw[cell_of_row w b _ m e (0,0) hg];have:=Ci z C D;rw[<-ht,bp] at this;split at this
  .rw[cd] at this;rw[db];simpa using this
  .cases this
theorem U1 {base e sz n:Nat}{v:Value}{xs:List Value}(h:w.ownsRow base e sz v n xs):Eb w e sz v n xs:=by
 refine⟨h.1,?_⟩;rcases h.2 with b | ⟨g,cap,cur,e1,-,hg,hn,hm,hc,ht⟩
 .exact .inl b
 .exact .inr ⟨g,0,cap,cur,e1,hg,hn,hm,by rw[hc];omega,by rw[List.drop_zero];exact ht⟩
end
theorem C4:∀{l:List Nat} {k:Nat},Fd k l=true↔k∈l
 | [],k=>by simp[Fd]
 | j::l,k=>by
  unfold Fd;have c:=C4 (l:=l) (k:=k);by_cases h:k=j
  .subst h;simp[Nat.beq_refl]
  .have b:Nat.beq k j=false:=by
    cases hb:Nat.beq k j with
    | false=>rfl
    | true=>exact dq (aw hb) h
   simp[b,c,h]
section
variable {P:Program} {tb:List (Nat × TI)} {N n:Nat} {I I' I0:Imm} {V V' V0:Va} {a:Act} {t:Ts} {own own' own0:Os} {w w' w0:World} {g:G} {y:Value} {d:Option Tmp}
variable {XL:List Nat} {S:World->Prop} {K:Ts->Os->Nat->Prop} {next:Act->World->Prop} {Q:Exit->Act->World->Prop} {o:Oper}
variable (hT:∀t i,look t tb=some i->TIok P t i) (hK:NxtB N own I V w K next) (hH:Has I V own w) (ha:ARep N I V a t) (hd:∀i,o.dst=some i->i < N)
include hH ha in
theorem Z5a {x:Operand}(b:o.op=.move x\/o.op=.assign x)(h:ev t own x λg=>K (put o.dst g t) own V.n):QOk S P I V own w a t o K:=by obtain⟨g,j,c⟩:=B1 h ha hH;refine⟨_,_,j,c,λu _=>?_⟩;rcases b with b | b<;>simp only[execOp,b,Sem.run_pure]
include hK hH ha hd in
theorem Zar {e sz:Nat}(c:0 < sz)(j:o.op=.assign (.const (.slice none 0 0)))(h:K (put o.dst (.osl V.n) t) ((V.n,.slc [] e sz)::own) (V.n+1)):o.wp P a w next Q:=by
 refine Rc (g:=.osl V.n) (y:=.slice none 0 0) hK ha hd (w':=w) (by simp only[execOp,j,Sem.run_pure];rfl) (D2 (r:=.slc [] e sz) hH (ab _ _) 0 (.slice none 0 0) (λ_=>False) (λk h=>h.elim) ⟨?_,[],?_,rfl,?_,by simp,by simp,c⟩) (ab _ _) (.push _ _ _ _) (TRep.of_c (g:=.osl V.n) ⟨da _,by simp[Va.push]⟩) h
 .intro b;simp[Va.push,Value.ownBlock]
 .simp[Va.push];exact World.ownsRow_nil w 0 e sz
 .intro i r u hr;simp at hr
include hH ha in
theorem Z9b {c x y:Operand}(q:o.op=.pick c x y)(h:ev t own c λg=>match g with
  | .tt=>ev t own x λg=>K (put o.dst g t) own V.n
  | .ff=>ev t own y λg=>K (put o.dst g t) own V.n
  | .v (.bool c)=>EvIf c (ev t own x λg=>K (put o.dst g t) own V.n) (ev t own y λg=>K (put o.dst g t) own V.n)
  | _=>False):QOk S P I V own w a t o K:=by
 obtain⟨g,j,m⟩:=B1 h ha hH;have key:∀b,a.eval c=.bool b->(ev t own (if b=true then x else y) λg=>K (put o.dst g t) own V.n)->QOk S P I V own w a t o K:=λb p h=>by obtain⟨g,j,m⟩:=B1 h ha hH;refine⟨_,a.eval (if b=true then x else y),j,m,λu _=>?_⟩;cases b<;>simp[execOp,q,p,asBool]
 cases g with
 | tt=>exact key true (by generalize a.eval c=z at m;cases(show VRep I .tt z from m);rfl) j
 | ff=>exact key false (by generalize a.eval c=z at m;cases(show VRep I .ff z from m);rfl) j
 | v z =>
  have e:a.eval c=z:=by generalize a.eval c=u at m;cases(show VRep I (.v z) u from m);rfl
  cases z with
  | bool b =>
   cases b with
   | true=>exact key true e (j.1 rfl)
   | false=>exact key false e (j.2 rfl)
  | _=>exact j.elim
 | _=>exact j.elim
theorem To {I:Imm}{V:Va}{w':World}{b:Nat}{cs:List G}{j:List Value}{ty:TypeId}(m:w'.heap[b]?=some (.cells j.toArray ty (0,0)))(p:PW (CRep I V) cs j):RRep I (V.push b undef (·=b)) V.n w' (.blk cs ty):=by refine⟨λc=>by simp[Va.push],j,by simpa [Va.push] using m,p.mono λ_ _ h=>h.mono (.refl _) (V.push_le _ _ _)⟩
theorem S7 {i:TI}{ty:TypeId}(h:TIok P ty i):PW (CRep I V) i.zero (i.zero.map G.val):=by refine⟨by simp,λj g u c b=>?_⟩;rw[ax,c] at b;simp at b;subst b;have:=Ai h.zok g (ar c);cases g<;>first | exact .of_v (.v _) | exact .of_v .ff | exact .of_v .nl | cases this
include hT hK hH ha hd in
theorem Z4i {ty:TypeId}(u:o.op=.alloc ty)(h:match look ty tb with
  | some i=>K (put o.dst (.ptr V.n 0) t) ((V.n,.blk i.zero ty)::own) (V.n+1)
  | none=>False):o.wp P a w next Q:=by
 cases hl:look ty tb with
 | none=>rw[hl] at h;exact h.elim
 | some i =>
  rw[hl] at h;have s:=hT ty i hl;obtain⟨z,p,c⟩:=bg.1 s.zero;obtain⟨j,m,q⟩:=Option.bind_eq_some_iff.1 p;have b:(zeroValue ty).run P w=.ok z w:=by simp[zeroValue,typeInfo,m,q]
  have e:z.cells=(i.zero.map G.val).toArray:=by rw[<-c]
  refine Rc (g:=.ptr V.n 0) (y:=.pointer (some ⟨w.heap.size,0,none⟩)) hK ha hd (w':=w.alloc (.cells (i.zero.map G.val).toArray ty)) ?_ (D2 hH ((ab _ _).alloc (au _) _) w.heap.size undef (·=w.heap.size) (λk e=>⟨Nat.le_of_eq e.symm,by subst e;simp⟩) (To (heap_alloc_new _ _) (S7 s))) ((ab _ _).alloc (au _) _) (.push _ _ _ _) (TRep.of_c (g:=.ptr V.n 0) ⟨da _,by simp[Va.push]⟩) h;simp only[execOp,u,Sem.run_bind,Instr.alloc,b,newVar,newRow,run_newObj_alloc,Sem.run_pure,Result.andThen_ok,e]
include hK hH ha hd in
theorem Z92 {ty:TypeId}{x:Operand}(j:o.op=.box ty x)(h:ev t own x λg=>Fm own g λcs=>K (put o.dst (.ptr V.n 0) t) ((V.n,.blk cs ty)::own) (V.n+1)):o.wp P a w next Q:=by obtain⟨g,b,m⟩:=B1 h ha hH;obtain⟨cs,b,c,-⟩:=Gr b m hH;refine Rc (g:=.ptr V.n 0) (y:=.pointer (some ⟨w.heap.size,0,none⟩)) hK ha hd (w':=w.alloc (.cells (a.eval x).cells.toList.toArray ty)) ?_ (D2 hH ((ab _ _).alloc (au _) _) w.heap.size undef (·=w.heap.size) (λk e=>⟨Nat.le_of_eq e.symm,by subst e;simp⟩) (To (heap_alloc_new _ _) c)) ((ab _ _).alloc (au _) _) (.push _ _ _ _) (TRep.of_c (g:=.ptr V.n 0) ⟨da _,by simp[Va.push]⟩) b;simp only[execOp,j,Sem.run_bind,Instr.box,newVar,newRow,run_newObj_alloc,Sem.run_pure,Result.andThen_ok,Array.toArray_toList]
theorem Na (hH:Has I V own w){k:Nat}{cs:List G}{ty:TypeId}(p:look k own=some (.blk cs ty)):∃c:List Value,w.heap[V.b k]?=some (.cells c.toArray ty (0,0))/\PW (CRep I V) cs c/\∀j,w.cell? ⟨V.b k,j,none⟩=c[j]?:=by obtain⟨-,c,h,m⟩:=hH.each k _ p;exact⟨c,h,m,λj=>by rw[cell_of_row w _ j _ ty (0,0) h];simp⟩
theorem C6 {k off:Nat}(h:TRep I V (.ptr k off) y):k < V.n/\y=.pointer (some ⟨V.b k,off,none⟩):=h
theorem Nq {row:List G}{off:Nat}(h:TRep I V (.elp row off) y):∃b o,y=.pointer (some ⟨b,o+off,none⟩)/\∀(j:Nat) g,row[j]?=some g->∃u,I b (o+j)=some u/\VRep I g u:=h
theorem Km {k i sz off:Nat}(h:TRep I V (.oel k i sz off) y):k < V.n/\∃b q n c,V.s k=.slice (some ⟨b,q,none⟩) n c/\y=.pointer (some ⟨b,q+(i * sz+off),none⟩):=h
theorem Av {z:Value}(h:TRep I V (.v z) y):y=z:=by cases(show VRep I (.v z) y from h);rfl
theorem Z6 {ty:TypeId}{i:TI}(A:TIok P ty i){row:List G}{c:List Value}(m:PW (VRep I) row c){b q off:Nat}(_:∀(j:Nat) v,c[j]?=some v->w.cell? ⟨b,q+j,none⟩=some v){K1:G->Prop}
  (h:match i.agg with
   | true=>seg row off i.zero.length λl=>K1 (.agg l)
   | false=>match nth row off with
    | some g=>K1 g
    | none=>False):∃g v,K1 g/\VRep I g v/\∀u,(∀(j:Nat) v,c[j]?=some v->u.cell? ⟨b,q+j,none⟩=some v)->(Instr.loadAt ty (.pointer (some ⟨b,q+off,none⟩))).run P u=.ok v u:=by
 cases hb:i.agg with
 | true =>
  rw[hb] at h;obtain⟨l,D,B,-⟩:=Lf h m;have C:((c.drop off).take i.zero.length).length=i.zero.length:=by
   rcases ak i.zero.length with p | p
   .rw[p];simp
   .have:=Oy h m p;simp;omega
  exact⟨_,_,D,Zbu B,λu z=>Z15 A hb C λj v s=>by rw[db];exact z _ _ (Ij s)⟩
 | false =>
  rw[hb,Du] at h;dsimp only at h;cases hr:row[off]? with
  | none=>rw[hr] at h;exact h.elim
  | some g =>
   rw[hr] at h;obtain⟨v,s,E⟩:=m.get hr;exact⟨g,v,h,E,λu z=>Z5i A hb (z _ _ s)⟩
theorem S0 {Q:G->Value->Prop}:∀{b:List (List G)} {rs:List (List Value)},rs.length=b.length->(∀(i:Nat) r u,b[i]?=some r->rs[i]?=some u->PW Q r u)->PW Q b.flatten rs.flatten
 | [],rs,h,_=>by have:rs=[]:=ay (by simpa using h);subst this;exact .nil
 | r::b,rs,h,hp=>by
  cases rs with
  | nil=>simp at h
  | cons u rs =>
   rw[cj,cj];exact(hp 0 r u rfl rfl).append (S0 (by simpa using h) λi r u c j=>hp (i+1) r u (by simpa using c) (by simpa using j))
include hT hH ha in
theorem Z9t (hXL:∀k∈XL,∃r,look k own=some r)(hS:∀u,S u->Agree V XL w u){ty:TypeId}{x:Operand}(ho:o.op=.load ty x)(h:ev t own x λg=>match look ty tb with
  | none=>False
  | some i=>match g with
   | .ptr k off=>match look k own,Fd k XL with
    | some (.blk cs _),false=>match i.agg with
     | true=>seg cs off i.zero.length λl=>Ha i.zero.length l λg=>K (put o.dst g t) own V.n
     | false=>match nth cs off with
      | some g=>K (put o.dst g t) own V.n
      | none=>False
    | some (.lnk j),false=>match look j own,Fd j XL,i.agg with
     | some (.slc z _ 1),false,true=>Eh (off+i.zero.length<=z.length/\∀r∈z,∀g∈r,g.pure=true) (K (put o.dst (.agg ((z.flatten.drop off).take i.zero.length)) t) own V.n)
     | _,_,_=>False
    | _,_=>False
   | .elp row off=>match i.agg with
     | true=>seg row off i.zero.length λl=>K (put o.dst (.agg l) t) own V.n
     | false=>match nth row off with
      | some g=>K (put o.dst g t) own V.n
      | none=>False
   | .oel k j sz off=>match look k own,Fd k XL with
    | some (.slc z _ sz'),false=>match Nat.beq sz sz' with
     | true=>EvIdx z j λrow=>match i.agg with
      | true=>seg row off i.zero.length λl=>K (put o.dst (.agg l) t) own V.n
      | false=>match nth row off with
       | some g=>K (put o.dst g t) own V.n
       | none=>False
     | false=>False
    | some (.vw z _ sz'),false=>match Nat.beq sz sz' with
     | true=>EvIdx z j λrow=>match i.agg with
      | true=>seg row off i.zero.length λl=>K (put o.dst (.agg l) t) own V.n
      | false=>match nth row off with
       | some g=>K (put o.dst g t) own V.n
       | none=>False
     | false=>False
    | _,_=>False
   | _=>False):QOk S P I V own w a t o K:=by
 obtain⟨g,s,hg⟩:=B1 h ha hH;cases hl:look ty tb with
 | none=>rw[hl] at s;exact s.elim
 | some i =>
  rw[hl] at s;have hi:=hT ty i hl;have run:∀{u v},(Instr.loadAt ty (a.eval x)).run P u=.ok v u->(execOp a.eval o).run P u=.ok (.value v) u:=λhr=>by simp only[execOp,ho,Sem.run_bind,hr,Result.andThen_ok,Sem.run_pure]
  have nX:∀{b k},(∃r,look k own=some r)->V.f k b->k ∉ XL->∀Y∈XL,¬V.f Y b:=λ{b k} ⟨r,hr⟩ hf s Y J M=>by obtain⟨r',h'⟩:=hXL Y J;exact s (hH.disj k Y r _ b hr h' hf M ▸ J)
  dsimp only at s;cases g with
  | ptr k off =>
   obtain⟨hkn,H⟩:=C6 hg;dsimp only at s;cases hr:look k own with
   | none=>rw[hr] at s;exact s.elim
   | some r =>
    rw[hr] at s;cases r with
    | blk cs t' =>
     cases hm:Fd k XL with
     | true=>rw[hm] at s;exact s.elim
     | false =>
     rw[hm] at s;have E:k ∉ XL:=λh=>by rw[C4.2 h] at hm;cases hm
     obtain⟨us,h1,M,T⟩:=Na hH hr;have hlt:V.b k < w.heap.size:=(bx.1 h1).1;have hcl:∀u,Agree V XL w u->∀j,u.cell? ⟨V.b k,j,none⟩=w.cell? ⟨V.b k,j,none⟩:=λu B j=>ac (w:=w) (B _ hlt (nX ⟨_,hr⟩ (((hH.each k _ hr).1 _).2 rfl) E));dsimp only at s;cases hb:i.agg with
     | true =>
      rw[hb] at s;obtain⟨l,k1,W,-⟩:=Lf s M;obtain⟨g',X,k4⟩:=Hy k1 W;have F:((us.drop off).take i.zero.length).length=i.zero.length:=by
       rcases ak i.zero.length with h0 | h0
       .rw[h0];simp
       .have:=Oy s M h0;simp;omega
      exact⟨_,_,X,k4,λu B=>run (by rw[H];exact Z15 hi hb F λj v A=>by rw[hcl u (hS u B),T];exact Ij A)⟩
     | false =>
      rw[hb,Du] at s;dsimp only at s;cases hc:cs[off]? with
      | none=>rw[hc] at s;exact s.elim
      | some g' =>
       rw[hc] at s;obtain⟨v,A,hgv⟩:=M.get hc;exact⟨_,_,s,.of_c hgv,λu B=>run (by rw[H];exact Z5i hi hb (by rw[hcl u (hS u B),T];exact A))⟩
    | lnk j =>
     obtain⟨-,hjn,m,hsj⟩:=hH.each k _ hr;cases hm:Fd k XL with
     | true=>rw[hm] at s;exact s.elim
     | false =>
     rw[hm] at s;dsimp only at s;split at s
     .next z e Z hmj hag =>
      have hnj:j ∉ XL:=λh=>by rw[C4.2 h] at hmj;cases hmj
      obtain⟨⟨hfit,hpur⟩,s⟩:=s;obtain⟨rs,cur,C,M,T,h4,-,-,-,-,-,-,O⟩:=Q9 hH Z hsj;have hlb:V.b k < w.heap.size:=(bx.1 C).1;have hfl:PW (VRep I) z.flatten rs.flatten:=S0 M T;have F:((rs.flatten.drop off).take i.zero.length).length=i.zero.length:=by rw[be,bj,Bk h4];omega
      have hcell:∀u,S u->∀(n:Nat) v,((rs.flatten.drop off).take i.zero.length)[n]?=some v->u.cell? ⟨V.b k,off+n,none⟩=some v:=λu B n v A=>by have h6:=Ij A;obtain⟨p,q,y,e1,-,e2,e3⟩:=Nw h4 h6;rw[e1];exact(hS u B).cell (O p y q v e2 e3) (nX ⟨_,Z⟩ (((hH.each j _ Z).1 (V.b k)).2 (by rw[hsj];rfl)) hnj)
      exact⟨_,_,s,.of_v (.agg _ _ (hfl.part off i.zero.length).1 (hfl.part off i.zero.length).2),λu B=>run (by rw[H];exact Z15 hi hag F (hcell u B))⟩
     .exact s.elim
    | _=>exact s.elim
  | elp row off =>
   obtain⟨b,q,H,B⟩:=Nq hg;obtain⟨us,hp,hc⟩:=Zao B;obtain⟨g',v,k1,W,X⟩:=Z6 (P:=P) (w:=w) hi hp (K1:=λg=>K (put o.dst g t) own V.n) (λj v A=>hH.mem _ _ _ (hc j v A)) s;exact⟨_,_,k1,.of_v W,λu B=>run (by rw[H];exact X u λm v A=>(hS u B).cell (hH.mem _ _ _ (hc m v A)) (λY J e=>(by obtain⟨r',h'⟩:=hXL Y J;have:=(hH.foot Y _ b h' e).2 (q+m);rw[hc m v A] at this;cases this)))⟩
  | oel k j sz off =>
   obtain⟨hkn,b,q,n,c,hs,H⟩:=Km hg;dsimp only at s;cases hr:look k own with
   | none=>rw[hr] at s;exact s.elim
   | some r =>
    rw[hr] at s;cases r with
    | slc z e sz' =>
     cases hm:Fd k XL with
     | true=>rw[hm] at s;exact s.elim
     | false =>
     rw[hm] at s;have E:k ∉ XL:=λh=>by rw[C4.2 h] at hm;cases hm
     dsimp only at s;cases hb:Nat.beq sz sz' with
     | false=>rw[hb] at s;exact s.elim
     | true =>
      rw[hb] at s;have:=aw hb;subst this;obtain⟨⟨-,hlt⟩,s⟩:=s;obtain rfl:=Z2n hH hr hs;rw[cn] at H;obtain⟨rs,cur,C,M,T,h4,-,-,-,-,-,-,O⟩:=Q9 hH hr hs;have hlb:b < w.heap.size:=(bx.1 C).1;have hj:j < z.length:=by omega
      have D:j < rs.length:=by omega
      obtain⟨g',v,k1,W,X⟩:=Z6 (P:=P) (w:=w) hi (T j _ _ (ap hj) (ap D)) (b:=b) (q:=j * sz) (off:=off) (K1:=λg=>K (put o.dst g t) own V.n) (λm v A=>O j _ m v (ap D) A) (s z[j] (by simp));exact⟨_,_,k1,.of_v W,λu B=>run (by rw[H];exact X u λm v A=>(hS u B).cell (O j _ m v (ap D) A) (nX ⟨_,hr⟩ (((hH.each k _ hr).1 b).2 (by rw[hs];rfl)) E))⟩
    | vw z e sz' =>
     cases hm:Fd k XL with
     | true=>rw[hm] at s;exact s.elim
     | false =>
     rw[hm] at s;have E:k ∉ XL:=λh=>by rw[C4.2 h] at hm;cases hm
     dsimp only at s;cases hb:Nat.beq sz sz' with
     | false=>rw[hb] at s;exact s.elim
     | true =>
      rw[hb] at s;have:=aw hb;subst this;obtain⟨⟨-,hlt⟩,s⟩:=s;obtain⟨rs,cur,C,M,T,h4,-,-,-,-,-,-,O⟩:=Z90 hH hr hs;have hlb:b < w.heap.size:=(bx.1 C).1;have hj:j < z.length:=by omega
      have D:j < rs.length:=by omega
      have O:∀(i:Nat) u (m:Nat) v,rs[i]?=some u->u[m]?=some v->w.cell? ⟨b,q+i * sz+m,none⟩=some v:=λi u m v a b=>O i u m v a b;rw[<-db] at H;obtain⟨g',v,k1,W,X⟩:=Z6 (P:=P) (w:=w) hi (T j _ _ (ap hj) (ap D)) (b:=b) (q:=q+j * sz) (off:=off) (K1:=λg=>K (put o.dst g t) own V.n) (λm v A=>O j _ m v (ap D) A) (s z[j] (by simp));exact⟨_,_,k1,.of_v W,λu B=>run (by rw[H];exact X u λm v A=>(hS u B).cell (O j _ m v (ap D) A) (nX ⟨_,hr⟩ (((hH.each k _ hr).1 b).2 (by rw[hs];rfl)) E))⟩
    | _=>exact s.elim
  | _=>exact s.elim
end
theorem Ze4 {I:Imm}{V:Va}{cs:List G}{ds:List Value}(h:PW (CRep I V) cs ds):PW (CRep I V) (cs.map Z1f) ds :=
 ⟨by rw[ao];exact h.1,λm g u c p=>by
  rw[ax] at c;obtain⟨g0,q,rfl⟩:=bg.1 c;have b:=h.2 m g0 u q p;cases g0 with
  | nl=>cases(show VRep I .nl u from b);exact .sl [] none 0 0 (λ_ _=>undef) (au _) (λ_=>rfl) (by simp) (λi r h=>by simp at h) (λi r j g h=>by simp at h)
  | tt=>cases(show VRep I .tt u from b);exact .v _
  | ff=>cases(show VRep I .ff u from b);exact .v _
  | _=>exact b⟩
theorem Tp {rs:List (List Value)}{sz:Nat}(h:∀u∈rs,u.length=sz):∀{i:Nat} {u:List Value} (_:rs[i]?=some u) (off:Nat) (ds:List Value) (_:off+ds.length<=sz),
  (rs.set i (u.take off++ds++u.drop (off+ds.length))).flatten=rs.flatten.take (i * sz+off)++ds++rs.flatten.drop (i * sz+off+ds.length):=by
 induction rs with
 | nil=>intro i u b;simp at b
 | cons v rs ih =>
  intro i u b off ds hd;have c:=h v (by simp);cases i with
  | zero =>
   simp at b;subst b;simp only[List.set_cons_zero,List.flatten_cons,Nat.zero_mul,Nat.zero_add];rw[List.take_append_of_le_length (by omega),List.drop_append_of_le_length (by omega)];simp[List.append_assoc]
  | succ i =>
   have:=ih (λu b=>h u (by simp[b])) (i:=i) (u:=u) (by simpa using b) off ds hd;simp only[List.set_cons_succ,List.flatten_cons];rw[this];have j:(i+1) * sz+off=v.length+(i * sz+off):=by rw[c,Nat.add_mul];omega
   rw[j,List.take_length_add_append,db v.length,List.drop_length_add_append];simp[List.append_assoc]
section
variable {P:Program} {tb:List (Nat × TI)} {N n:Nat} {I I' I0:Imm} {V V' V0:Va} {a:Act} {t:Ts} {own own' own0:Os} {w w' w0:World} {g:G} {y:Value} {d:Option Tmp}
variable {XL:List Nat} {S:World->Prop} {K:Ts->Os->Nat->Prop} {next:Act->World->Prop} {Q:Exit->Act->World->Prop} {o:Oper}
theorem Hq {ty:TypeId}{m b off:Nat}(q:(P.info? ty).map (·.size)=some m){x:Value}{ds:List Value}(z:x.cells.toList=ds)(A:ds.length=m){c:Array Value}{s:TypeId}(C:w.heap[b]?=some (.cells c s (0,0)))(p:off+ds.length<=c.size)(B:∀u∈ds,u.oneCell'=true) :
  (Instr.storeAt ty (.pointer (some ⟨b,off,none⟩)) x).run P w=.ok () (w.setRow b (c.toList.take off++ds++c.toList.drop (off+ds.length)).toArray):=by
 have h:=run_storeCells_at P b off s ds 0 c w C (by simpa using p) B;simp only[Nat.add_zero] at h;subst A;have j:x.cells.size=ds.length:=by rw[<-z];simp
 simp only[Instr.storeAt,Instr.sureAddr,storeVar,Sem.run_bind,Sem.run_pure,Result.andThen_ok,Bm q,j,ne_eq,not_true_eq_false,if_false,z,h]
theorem Z5w {l:List G}{ds:List Value}(hH:Has I V own w)(h:Bp (Z8s own) l=true)(z:PW (CRep I V) l ds):∀u∈ds,u.oneCell'=true:=λu B=>by
 obtain⟨j,A,e⟩:=cq.1 B;have s:j < l.length:=by rw[z.1];exact A
 have b:=Ai h l[j] (bu s);have m:=z.2 j l[j] u (ap s) (by rw[ap A,e]);generalize l[j]=g at b m;cases g with
 | ptr k o=>rw[m.2];rfl
 | mp k=>rw[m.2];rfl
 | osl k =>
  rw[m.2];unfold Z8s at b;dsimp only at b;split at b
  .next c e sz hr =>
   obtain⟨-,rs,p,-⟩:=hH.each k _ hr;rcases p.2 with⟨e,-⟩ | ⟨g,cap,cur,e,-⟩<;>rw[e]<;>rfl
  .next c e sz hr =>
   obtain⟨-,rs,p,-⟩:=hH.each k _ hr;rcases p.2 with⟨e,-⟩ | ⟨g,q,cap,cur,e,-⟩<;>rw[e]<;>rfl
  .cases b
 | osv k sz' lo hi =>
  rw[m.2.2];unfold Z8s at b;dsimp only at b;split at b
  .next c e sz hr =>
   obtain⟨-,rs,p,-⟩:=hH.each k _ hr;rcases p.2 with⟨e,-⟩ | ⟨g,cap,cur,e,-⟩<;>rw[e]<;>rfl
  .next c e sz hr =>
   obtain⟨-,rs,p,-⟩:=hH.each k _ hr;rcases p.2 with⟨e,-⟩ | ⟨g,q,cap,cur,e,-⟩<;>rw[e]<;>rfl
  .cases b
 | v x=>exact Kp (I:=I) m b
 | tt=>exact Kp (I:=I) m b
 | ff=>exact Kp (I:=I) m b
 | nl=>exact Kp (I:=I) m b
 | sl l=>exact Kp (I:=I) m b
 | _=>cases b
theorem Z5v {K1:List G->Prop}(h:Zb2 g K1)(b:TRep I V g y):∃l cs,K1 l/\y=.agg cs.toArray/\PW (CRep I V) l cs:=by
 cases g with
 | agg l =>
  cases(show VRep I (.agg l) y from b) with
  | agg l cs hl hh=>exact⟨l,cs,h,rfl,hl,λj g u c p=>.of_v (hh j g u c p)⟩
 | oag l =>
  obtain⟨cs,rfl,m⟩:=(show TRep1 I V (.oag l) y from b);exact⟨l,cs,h,rfl,m⟩
 | _=>exact False.elim h
variable (hT:∀t i,look t tb=some i->TIok P t i) (hH:Has I V own w) (hK:Nxt N own0 I0 V0 w0 K next) (hL:Since own0 I0 V0 w0 own I V w) (ha:ARep N I V a t) (hd:∀i,o.dst=some i->i < N)
include hT ha
include hH in
theorem S6 {ty:TypeId}{x:Operand}{f:Nat}(O:o.op=.fieldAddr ty x f)(h:ev t own x λg=>match look ty tb with
  | none=>False
  | some i=>match nth i.flds f with
   | none=>False
   | some (_,fo)=>match g with
    | .ptr k off=>K (put o.dst (.ptr k (Nat.add off fo)) t) own V.n
    | .elp row off=>K (put o.dst (.elp row (Nat.add off fo)) t) own V.n
    | .oel k j sz off=>K (put o.dst (.oel k j sz (Nat.add off fo)) t) own V.n
    | _=>False):QOk S P I V own w a t o K:=by
 obtain⟨g,s,E⟩:=B1 h ha hH;cases hl:look ty tb with
 | none=>rw[hl] at s;exact s.elim
 | some i =>
  rw[hl] at s;dsimp only at s;rw[Du] at s;cases hf:i.flds[f]? with
  | none=>rw[hf] at s;exact s.elim
  | some p =>
   obtain⟨Z,fo⟩:=p;rw[hf] at s;dsimp only at s;obtain⟨F,Y,X,M⟩:=(hT ty i hl).flds (λe=>by rw[e] at hf;simp at hf);rw[<-X,ax] at hf;obtain⟨H,B,C⟩:=bg.1 hf;injection C with e1 e2;obtain⟨m,W⟩:=M H (ar B);have D:F[f]?=some H:=by simpa using B
   have run:∀b off,a.eval x=.pointer (some ⟨b,off,none⟩)->∀u:World,(execOp a.eval o).run P u=.ok (.value (.pointer (some ⟨b,off+fo,none⟩))) u:=λb off T u=>by simp only[execOp,O,Instr.fieldAt,Sem.run_bind,run_underlying Y,T,Instr.sureAddr,fieldPlace,Result.andThen_ok,Sem.run_pure,D,Bm W,Co,e2];simp
   cases g with
   | ptr k off =>
    obtain⟨A,z⟩:=C6 E;exact⟨_,_,s,(.of_c (g:=.ptr k (off+fo)) ⟨A,rfl⟩),λu _=>run _ _ z u⟩
   | elp row off =>
    obtain⟨b,q,A,z⟩:=Nq E;exact⟨_,_,s,(.of_1 (g:=.elp row (off+fo)) ⟨b,q,by rw[db],z⟩),λu _=>run _ _ A u⟩
   | oel k j sz off =>
    obtain⟨J,b,q,n,c,A,z⟩:=Km E;exact⟨_,_,s,(.of_1 (g:=.oel k j sz (off+fo)) ⟨J,b,q,n,c,A,by rw[db,db]⟩),λu _=>run _ _ z u⟩
   | _=>exact s.elim
include hH in
theorem Z7o {ty:TypeId}{x:Operand}{f:Nat}(D:o.op=.field ty x f)(h:ev t own x λg=>Zb2 g λcs=>match look ty tb with
  | none=>False
  | some i=>match nth i.flds f with
   | none=>False
   | some (m,fo)=>match look m tb with
    | none=>False
    | some j=>match j.agg with
     | true=>seg cs fo j.zero.length λl=>Ha j.zero.length l λg=>K (put o.dst g t) own V.n
     | false=>match nth cs fo with
      | some g=>K (put o.dst g t) own V.n
      | none=>False):QOk S P I V own w a t o K:=by
 obtain⟨g,b,hg⟩:=B1 h ha hH;obtain⟨cs,C,b,E,B⟩:=Z5v b hg;cases hl:look ty tb with
 | none=>rw[hl] at b;exact b.elim
 | some i =>
  rw[hl] at b;dsimp only at b;rw[Du] at b;cases hf:i.flds[f]? with
  | none=>rw[hf] at b;exact b.elim
  | some p =>
   obtain⟨m,fo⟩:=p;rw[hf] at b;dsimp only at b;cases hj:look m tb with
   | none=>rw[hj] at b;exact b.elim
   | some j =>
    rw[hj] at b;dsimp only at b;have c:=hT m j hj;obtain⟨F,W,M,hz⟩:=(hT ty i hl).flds (λe=>by rw[e] at hf;simp at hf);rw[<-M,ax] at hf;obtain⟨Y,A,s⟩:=bg.1 hf;injection s with e1 e2;have z:F[f]?=some Y:=by simpa using A
    have run:∀{u v},(part m C.toArray fo).run P u=.ok v u->(execOp a.eval o).run P u=.ok (.value v) u:=λhr=>by simp only[execOp,D,Instr.field,Sem.run_bind,run_underlying W,E,Result.andThen_ok,Sem.run_pure,z,asAgg,e1,e2,hr]
    cases hb:j.agg with
    | true =>
     rw[hb] at b;obtain⟨l,J,H,-⟩:=Lf b B;obtain⟨T,X,Z⟩:=Hy J H;exact⟨_,_,X,Z,λu _=>run (by rw[Kf c,hb];rfl)⟩
    | false =>
     rw[hb,Du] at b;dsimp only at b;cases hc:cs[fo]? with
     | none=>rw[hc] at b;exact b.elim
     | some T =>
      rw[hc] at b;obtain⟨v,O,q⟩:=B.get hc;exact⟨_,_,b,.of_c q,λu _=>run (by rw[Kf c,hb,O];rfl)⟩
include hK hL hd in
theorem Z50 {bv:Bool}{ty:TypeId}{x z:Operand}(ho:o.op=.store ty x z)(h:ev t own x λg=>ev t own z λu=>Fm own u λcs=>match look ty tb with
  | some i=>Zai i.zero.length own cs (match g with
   | .ptr k off=>match look k own with
    | some (.blk cells ty')=>ovr i.zero.length cells off cs λB=>K (put o.dst .un t) ((k,.blk B ty')::own) V.n
    | some (.lnk j)=>match bv,look j own,cs with
     | false,some (.slc A e 1),[c]=>Eh (off < A.length/\N6 c=true) (K (put o.dst .un t) ((j,.slc (A.set off [c]) e 1)::own) V.n)
     | _,_,_=>False
    | _=>False
   | .oel k j sz off=>match look k own with
    | some (.slc A e sz')=>match Nat.beq sz sz' with
     | true=>Zcm i.zero.length own cs λcs=>Zbt i.zero.length cs (EvSet A j (λrow k=>ovr i.zero.length row off cs k) λC=>K (put o.dst .un t) ((k,.slc C e sz)::own) V.n)
     | _=>False
    | _=>False
   | _=>False)
  | none=>False):o.wp P a w next Q:=by
 obtain⟨g,p,hg⟩:=B1 h ha hL.has;obtain⟨u,p,W⟩:=B1 p ha hL.has;obtain⟨cs,p,M,-⟩:=Gr p W hL.has;obtain⟨ds,hds⟩:∃ds,(a.eval z).cells.toList=ds:=⟨_,rfl⟩;rw[hds] at M;cases hl:look ty tb with
 | none=>rw[hl] at p;exact p.elim
 | some i =>
  rw[hl] at p;dsimp only at p;obtain⟨h1,hcl0,hcn,hk2,hbp⟩:=Z08 p;clear p;have p:=hk2;clear hk2;have O:=Z5w hL.has h1 M;have hdn:ds≠[]:=λe=>by have:=M.1;rw[e] at this;exact hcn (ay (by simpa using this))
  have hlen:ds.length=i.zero.length:=M.1.symm.trans hcl0;have hsz:=(hT ty i hl).size;have run:∀{w'},(Instr.storeAt ty (a.eval x) (a.eval z)).run P w=.ok () w'->(execOp a.eval o).run P w=.ok .skip w':=λhr=>by simp only[execOp,ho,Sem.run_bind,hr,Result.andThen_ok,Sem.run_pure]
  have H:∀{cs:List G} {k j sz off e:Nat} {A:List (List G)},PW (CRep I V) cs ds->look k own=some (.slc A e sz)->(∃b n c,V.s k=.slice (some ⟨b,0,none⟩) n c/\a.eval x=.pointer (some ⟨b,j * sz+off,none⟩))->Bp G.pure cs=true->EvSet A j (λrow k=>ovr i.zero.length row off cs k) (λC=>K (put o.dst .un t) ((k,.slc C e sz)::own) V.n)->o.wp P a w next Q:=λ{cs k j sz off e A} M hr ⟨b,n,c,hs,Z⟩ F p=>by
   obtain⟨hlt,p⟩:=p;obtain⟨rs,cur,hg1,h2,h3,h4,h5,hn,hnc,hcm,hcs,ht,-⟩:=Q9 hL.has hr hs;have hj:j < A.length:=by omega
   have J:j < rs.length:=by omega
   have hpv:PW (VRep I) cs ds:=⟨M.1,λm g u h1 h2=>(M.2 m g u h1 h2).to_v (Ai F g (ar h1))⟩;obtain⟨row',k1,k2,k3⟩:=Qy (p A[j] (by simp)) (h3 j _ _ (ap hj) (ap J)) hpv;have W:=h4 rs[j] (bu J);have k3:=k3 hdn;rw[W] at k3;have hjn:j * sz+sz<=n * sz:=by rw[<-Nat.succ_mul];exact Nat.mul_le_mul_right _ (by omega)
   have hnn:n * sz<=c * sz:=Nat.mul_le_mul_right _ hnc;have T:=Hq (P:=P) (w:=w) (off:=j * sz+off) hsz hds hlen hg1 (by omega) O;have hfl:=Tp h4 (ap J) off ds k3;have hfln:=Bk h4;have E:∀u∈rs.set j (rs[j].take off++ds++rs[j].drop (off+ds.length)),u.length=sz/\∀x∈u,x.oneCell'=true:=λu D=>by
    rcases cw D with h | rfl
    .exact⟨h4 u h,h5 u h⟩
    .refine⟨by simp;omega,λx X=>?_⟩;rcases bz.1 X with X | X
     .rcases bz.1 X with X | X
      .exact h5 _ (bu J) x (bm X)
      .exact O x X
     .exact h5 _ (bu J) x (cg X)
   refine P3 hK hL ha hd (run (by rw[Z];exact T)) (D7 (w':=w.setRow b _) (r:=.slc (A.set j row') e sz) hL.has hr rfl rfl rfl (by simp[World.setRow]) (λb' hb'=>setRow_other w _ b' _ (λe=>hb' (((hL.has.each k _ hr).1 b').2 (by rw[hs,e];rfl)))) ⟨(hL.has.each k _ hr).1,rs.set j (rs[j].take off++ds++rs[j].drop (off+ds.length)),⟨?_,.inr ⟨b,c,_,by rw[hs,hn];simp,av _,setRow_heap w _ cur _ e _ hg1,by simp;omega,hcm,?_,?_⟩⟩,by simp[h2],?_,λu W=>(E u W).1,λu W=>(E u W).2,(hL.has.each k _ hr).2.choose_spec.2.2.2.2.2⟩) k1
   .rw[Bk λu W=>(E u W).1];simp[h2]
   .simp;omega
   .rw[hfl];simp only[List.length_set,<-hn];rw[<-ht];have hcl:cur.toList.length=c * sz:=by simpa using hcs
    simp only[List.take_append,List.take_take,List.drop_take,List.length_take,List.length_append];rw[Nat.min_eq_right (by omega:j * sz+off<=n * sz),cp (by omega:j * sz+off<=n * sz),cp (by omega:j * sz+off<=cur.toList.length),ba (by omega:ds.length<=n * sz - (j * sz+off))]
   .intro i r u Y D;rw[cv] at Y D;split at Y
    .next e' =>
     subst e';rw[dp rfl,dp J] at D;cases Y;cases D;exact k2
    .next e' =>
     rw[dn e'] at D;exact h3 i r u Y D
  cases g with
  | ptr k off =>
   obtain⟨hkn,Z⟩:=C6 hg;dsimp only at p;cases hr:look k own with
   | none=>rw[hr] at p;exact p.elim
   | some r =>
    rw[hr] at p;cases r with
    | blk cells ty' =>
     obtain⟨us,k1,k2,-⟩:=Na hL.has hr;obtain⟨B,k3,k4,k5⟩:=Qy p k2 M;have T:=Hq (P:=P) (w:=w) hsz hds hlen k1 (k5 hdn:off+ds.length<=us.length) O;refine P3 hK hL ha hd (run (by rw[Z];exact T)) (D7 (w':=w.setRow (V.b k) _) (r:=.blk B ty') hL.has hr rfl rfl rfl (by simp[World.setRow]) (λb hb=>setRow_other w _ b _ (λe=>hb (((hL.has.each k _ hr).1 b).2 e))) ⟨(hL.has.each k _ hr).1,_,setRow_heap w _ us.toArray _ ty' _ k1,k4⟩) k3
    | lnk j =>
     obtain⟨-,hjn,m,hsj⟩:=hL.has.each k _ hr;dsimp only at p;cases bv with
     | true=>exact p.elim
     | false =>
     cases hrj:look j own with
     | none=>rw[hrj] at p;exact p.elim
     | some rj =>
      rw[hrj] at p;cases rj with
      | slc A e sz =>
       cases sz with
       | zero=>exact p.elim
       | succ sz =>
       cases sz with
       | succ sz=>exact p.elim
       | zero =>
       have lnkk:∀c,cs=[c]->Eh (off < A.length/\N6 c=true) (K (put o.dst .un t) ((j,.slc (A.set off [c]) e 1)::own) V.n)->o.wp P a w next Q:=λc hc1 p=>by
        obtain⟨⟨hfit,hc⟩,p⟩:=p;have hn1:i.zero.length=1:=by rw[<-hcl0,hc1];rfl
        obtain⟨rs,cur,-,h2,h3,h4,-⟩:=Q9 hL.has hrj hsj;refine H (j:=off) (off:=0) M hrj ⟨_,_,_,hsj,by rw[Z];simp⟩ (Fj λg hg=>by rw[hc1,bw] at hg;rw[hg];exact Ld hc) ⟨hfit,λr hr2=>?_⟩;have hlr:r.length=1:=by
         have hlt:off < rs.length:=by omega
         have:=(h3 off r rs[off] hr2 (ap hlt)).1;rw[this];exact h4 _ (bu hlt)
        obtain⟨y,rfl⟩:=List.length_eq_one_iff.1 hlr;rw[hn1,hc1];exact p
       match cs,p with
       | [c],p=>exact lnkk c rfl p
       | [],p=>exact p.elim
       | _::_::_,p=>exact p.elim
      | _=>exact p.elim
    | _=>exact p.elim
  | oel k j sz off =>
   obtain⟨hkn,b,q,n,c,hs,Z⟩:=Km hg;dsimp only at p;cases hr:look k own with
   | none=>rw[hr] at p;exact p.elim
   | some r =>
    rw[hr] at p;cases r with
    | slc A e sz' =>
     obtain rfl:=Z2n hL.has hr hs;rw[cn] at Z;dsimp only at p;cases hb:Nat.beq sz sz' with
     | false=>rw[hb] at p;exact p.elim
     | true =>
      rw[hb] at p;have:=aw hb;subst this;unfold Zcm at p;cases hbn:Sy i.zero.length with
      | true =>
       rw[hbn] at p;obtain⟨F,p⟩:=Sz p hbp;exact H M hr ⟨b,n,c,hs,Z⟩ F p
      | false =>
       rw[hbn] at p;have hnb:∀{cs:List G},Sy i.zero.length=true->Bp G.pure cs=true:=λh=>by rw[hbn] at h;cases h
       dsimp only at p;split at p
       .next kp op =>
        obtain⟨b2,j2,hj2,p⟩:=P0 p;obtain⟨F,p⟩:=Sz p hnb;refine H ?_ hr ⟨b,n,c,hs,Z⟩ F p;obtain⟨v,vs,rfl,hv,hn⟩:=M.uncons;obtain⟨hkn2,rfl⟩:=(show kp < V.n/\v=.pointer (some ⟨V.b kp,op,none⟩) from hv);obtain⟨-,-,hb2⟩:=hL.has.each j2 _ hj2;rw[hb2];exact .cons (VRep.v _) hn
       .obtain⟨F,p⟩:=Sz p hnb;exact H (Ze4 M) hr ⟨b,n,c,hs,Z⟩ F p
    | _=>exact p.elim
  | _=>exact p.elim
end
section
variable {P:Program} {tb:List (Nat × TI)} {N n:Nat} {I I' I0:Imm} {V V' V0:Va} {a:Act} {t:Ts} {own own' own0:Os} {w w' w0:World} {g:G} {y:Value} {d:Option Tmp}
variable {XL:List Nat} {S:World->Prop} {K:Ts->Os->Nat->Prop} {next:Act->World->Prop} {Q:Exit->Act->World->Prop} {o:Oper}
theorem Eu {ty e:TypeId}(h:P.underlying ty=some (.pointer e))(b:Option Addr)(u:World):(Op.equal ty (.pointer b) (.pointer none)).run P u=.ok b.isNone u/\(Op.equal ty (.pointer none) (.pointer b)).run P u=.ok b.isNone u:=by
 have c:∀d,(Op.equalIn (d+1) ty (.pointer b) (.pointer none)).run P u=.ok b.isNone u/\(Op.equalIn (d+1) ty (.pointer none) (.pointer b)).run P u=.ok b.isNone u:=λd=>by cases b<;>simp[Op.equalIn,run_underlying h]
 exact c 9999
theorem Z0t {m:TypeId}{op:BinOp}{b:Bool}{x z:Value}{K1:G->Prop}(hT:∀t i,look t tb=some i->TIok P t i)(h:Zal tb m op b K1)(E:∃p,x=.pointer p)(D:∃p,z=.pointer p)(c:∀e,P.underlying m=some (.pointer e)->∀u:World,(Op.equal m x z).run P u=.ok b u):∃g v,K1 g/\TRep I V g v/\∀(w:World) (s A:Operand),(eqGuard op m s A x z).run P w=.ok () w/\(binOp op m x z).run P w=.ok v w:=by
 obtain⟨p,rfl⟩:=E;obtain⟨q,rfl⟩:=D;unfold Zal Pc at h;cases hl:look m tb with
 | none=>rw[hl] at h;exact h.elim
 | some i =>
  rw[hl] at h;have B:=(hT _ _ hl).kd;dsimp only at h;split at h
  .next j =>
   rw[j] at B;obtain⟨e,C⟩:=B;have c:=c e C;cases b with
   | true=>exact⟨_,_,h,.of_v .tt,λw s A=>⟨by simp[eqGuard],by simp only[binOp];simp[c w]⟩⟩
   | false=>exact⟨_,_,h,.of_v .ff,λw s A=>⟨by simp[eqGuard],by simp only[binOp];simp[c w]⟩⟩
  .next j =>
   rw[j] at B;obtain⟨e,C⟩:=B;have c:=c e C;cases b with
   | true=>exact⟨_,_,h,.of_v .ff,λw s A=>⟨by simp[eqGuard],by simp only[binOp];simp[c w]⟩⟩
   | false=>exact⟨_,_,h,.of_v .tt,λw s A=>⟨by simp[eqGuard],by simp only[binOp];simp[c w]⟩⟩
  .exact h.elim
theorem U5 {g:G}{K1:Bool->Prop}(h:Z21 g K1)(c:TRep I V g y):∃b,K1 b/\y=.bool b:=by
 unfold Z21 at h;split at h
 .cases(show VRep I .tt y from c);exact⟨_,h,rfl⟩
 .cases(show VRep I .ff y from c);exact⟨_,h,rfl⟩
 .cases(show VRep I (.v _) y from c);exact⟨_,h,rfl⟩
 .exact h.elim
theorem Z99 (hT:∀t i,look t tb=some i->TIok P t i){J:TypeId}{op:BinOp}{p q:G}{x z:Value}{K1:G->Prop}(h:Zbj P tb J op p q K1)(D:TRep I V p x)(E:TRep I V q z):∃g v,K1 g/\TRep I V g v/\∀(w:World) (A B:Operand),(eqGuard op J A B x z).run P w=.ok () w/\(binOp op J x z).run P w=.ok v w:=by
 unfold Zbj at h;split at h
 .next i j =>
  have s:=Av D;have c:=Av E;subst s c;cases op<;>dsimp only at h<;>first
   | exact h.elim
   | (have F:=EvRng.rng h;have C:=EvRng.next h;exact⟨_,_,C,.of_v (.v _),λw A B=>⟨by simp[eqGuard],by simp[binOp,Op.intArith,IntWalk.i64_in _ F]⟩⟩)
   | (have W:=EvDiv.ne h;have F:=EvRng.rng (EvDiv.next h);have C:=EvRng.next (EvDiv.next h);exact⟨_,_,C,.of_v (.v _),λw A B=>⟨by simp[eqGuard],by simp[binOp,Op.intDiv,W,IntWalk.i64_in _ F]⟩⟩)
   | (have W:=EvDiv.ne h;have C:=EvDiv.next h;exact⟨_,_,C,.of_v (.v _),λw A B=>⟨by simp[eqGuard],by simp[binOp,Op.intDiv,W]⟩⟩)
   | exact⟨_,_,h,.of_v (.v _),λw A B=>⟨by simp[eqGuard],rfl⟩⟩
   | exact⟨_,_,h,.of_v (.v _),λw A B=>⟨by simp[eqGuard],by simp[binOp,Op.intCmp]⟩⟩
 .next i j =>
  have s:=Av D;have c:=Av E;subst s c;cases op<;>dsimp only at h<;>first
   | exact h.elim
   | (have F:=h.nn;have C:=h.next;exact⟨_,_,C,.of_v (.v _),λw A B=>⟨by simp[eqGuard],by simp[binOp,Op.shift,Int.not_lt.2 F,IntKind.bits]⟩⟩)
 .next i j =>
  have s:=Av D;have c:=Av E;subst s c;cases op<;>dsimp only at h<;>first
   | exact h.elim
   | exact⟨_,_,h,.of_v (.v _),λw A B=>⟨by simp[eqGuard],by simp[binOp,Op.intCmp]⟩⟩
 .next i j =>
  have s:=Av D;have c:=Av E;subst s c;cases op<;>dsimp only at h<;>first
   | exact h.elim
   | (have F:=h.nn;have C:=h.next;exact⟨_,_,C,.of_v (.v _),λw A B=>⟨by simp[eqGuard],by simp[binOp,Op.shift,Int.not_lt.2 F,IntKind.bits]⟩⟩)
   | (have W:=EvDiv.ne h;have C:=EvDiv.next h;exact⟨_,_,C,.of_v (.v _),λw A B=>⟨by simp[eqGuard],by simp[binOp,Op.intDiv,W]⟩⟩)
   | exact⟨_,_,h,.of_v (.v _),λw A B=>⟨by simp[eqGuard],by first | rfl | simp[binOp,Op.intCmp,Op.intArith]⟩⟩
 .next i q j =>
  have s:=Av D;have c:=Av E;subst s c;cases op<;>dsimp only at h<;>first
   | exact h.elim
   | (have F:=h.nn;have C:=h.next;exact⟨_,_,C,.of_v (.v _),λw A B=>⟨by simp[eqGuard],by simp[binOp,Op.shift,Int.not_lt.2 F,IntKind.bits]⟩⟩)
 .next i j =>
  have s:=Av D;have c:=Av E;subst s c;cases op<;>dsimp only at h<;>first
   | exact h.elim
   | (obtain⟨F,C⟩:=h;exact⟨_,_,C,.of_v (.v _),λw A B=>⟨by simp[eqGuard],by simp[binOp,Op.stringOp,IntKind.max,IntKind.bits,IntKind.signed];omega⟩⟩)
   | exact⟨_,_,h,.of_v (.v _),λw A B=>⟨by simp[eqGuard],by simp[binOp,Op.stringOp]⟩⟩
 .next l m =>
  have key:∀{cs ds:List Value},Q7 l cs->Q7 m ds->x=.agg cs.toArray/\z=.agg ds.toArray:=λ{cs ds} H hd=>by
   have one:∀{l:List G} {cs:List Value} {x:Value},Q7 l cs->TRep I V (.agg l) x->x=.agg cs.toArray:=λ{l cs x} H hx=>by
    cases(show VRep I (.agg l) x from hx) with
    | agg l us hl hh =>
     unfold Q7 at H;subst H
     congr 2
     apply cx;intro j;by_cases X:j < cs.length
     .have O:j < us.length:=by simpa [<-hl] using X
      have:=hh j (.v cs[j]) us[j] (by simp[X]) (ap O);rw[ap X,ap O];generalize us[j]=u at this;cases this;rfl
     .rw[ck (by simp at hl;omega),ck (by omega)]
   exact⟨one H D,one hd E⟩
  cases op<;>dsimp only at h<;>first
   | exact h.elim
   | (obtain⟨cs,ds,b,H,hd,hg,Z,T⟩:=h
      obtain⟨rfl,rfl⟩:=key H hd;exact⟨_,_,T,.of_v (.v _),λw A B=>⟨run_eqGuard_agg _ _ _ _ _ _ _ hg,by first | (rw[run_eql_struct];rw[Z w];rfl) | (rw[run_neq_struct];rw[Z w];rfl)⟩⟩)
 .next i j =>
  have s:=Av D;have c:=Av E;subst s c;cases op<;>dsimp only at h<;>first
   | exact h.elim
   | exact⟨_,_,h,.of_v (.v _),λw A B=>⟨by simp[eqGuard],by simp[binOp,Op.intArith,Op.intCmp]⟩⟩
 .next k o =>
  obtain⟨-,s⟩:=C6 D;have c:=Av E;subst s c;exact Z0t hT h ⟨_,rfl⟩ ⟨_,rfl⟩ λe M u=>(Eu M _ u).1
 .next k o =>
  obtain⟨-,s⟩:=C6 E;have c:=Av D;subst s c;exact Z0t hT h ⟨_,rfl⟩ ⟨_,rfl⟩ λe M u=>(Eu M _ u).2
 .have s:=Av D;have c:=Av E;subst s c;exact Z0t hT h ⟨_,rfl⟩ ⟨_,rfl⟩ λe M u=>(Eu M _ u).1
 .unfold Pc at h;cases hl:look J tb with
  | none=>rw[hl] at h;exact h.elim
  | some i =>
   rw[hl] at h;dsimp only at h;have T:=(hT _ _ hl).kd;split at h
   .next Y =>
    rw[Y] at T;obtain⟨a,h,rfl⟩:=U5 h D;obtain⟨b,h,rfl⟩:=U5 h E;split at h
    .exact⟨_,_,h,.of_v (.v _),λw A B=>⟨by simp[eqGuard],run_eql_bool w J a b T⟩⟩
    .exact⟨_,_,h,.of_v (.v _),λw A B=>⟨by simp[eqGuard],run_neq_bool w J a b T⟩⟩
    .exact h.elim
   .exact h.elim
theorem Z9f {p:G}{x:Value}{K1:G->Prop}(h:Zc0 p K1)(b:TRep I V p x):∃g v,K1 g/\TRep I V g v/\∀w:World,(Op.unary .not x).run P w=.ok v w:=by
 unfold Zc0 at h;split at h
 .cases(show VRep I .tt x from b);exact⟨_,_,h,.of_v .ff,λw=>by simp[Op.unary]⟩
 .cases(show VRep I .ff x from b);exact⟨_,_,h,.of_v .tt,λw=>by simp[Op.unary]⟩
 .have e:=Av b;subst e;exact⟨_,_,h,.of_v (.v _),λw=>by simp[Op.unary]⟩
 .exact h.elim
variable (hT:∀t i,look t tb=some i->TIok P t i) (hH:Has I V own w) (ha:ARep N I V a t)
include hH ha
theorem Zcs {ty:TypeId}{x:Operand}(j:o.op=.unOp .not ty x)(h:ev t own x λg=>Zc0 g λg=>K (put o.dst g t) own V.n):QOk S P I V own w a t o K:=by obtain⟨g,c,m⟩:=B1 h ha hH;obtain⟨r,v,c,hr,b⟩:=Z9f (P:=P) c m;exact⟨_,_,c,hr,λu _=>by simp only[execOp,j,Sem.run_bind,b,Result.andThen_ok,Sem.run_pure]⟩
theorem Xt {x:Operand}{i:Nat}(p:o.op=.extract x i)(h:ev t own x λg=>match g with
  | .tup l=>match nth l i with
   | some g=>K (put o.dst g t) own V.n
   | none=>False
  | _=>False):QOk S P I V own w a t o K:=by
 obtain⟨g,b,s⟩:=B1 h ha hH;cases g with
 | tup l =>
  obtain⟨cs,q,j⟩:=(show ∃cs:List Value,a.eval x=.tuple cs.toArray/\PW (TRep1 I V) l cs from s);dsimp only at b;rw[Du] at b;cases hl:l[i]? with
  | none=>rw[hl] at b;exact b.elim
  | some g' =>
   rw[hl] at b;obtain⟨v,m,c⟩:=j.get hl;exact⟨_,_,b,.of_1 c,λu _=>by simp[execOp,p,q,Instr.extract,m]⟩
 | _=>exact b.elim
include hT
theorem T0 {ty:TypeId}{x i:Operand}(ho:o.op=.indexAddr ty x i)(h:ev t own x λg=>ev t own i λq=>match q,look ty tb with
  | .v (.int .i64 j),some ⟨_,_,some (_,sz),_,_,_,_⟩=>match g with
   | .sl B=>EvIdx B j λrow=>match Nat.beq row.length sz with
    | true=>K (put o.dst (.elp row 0) t) own V.n
    | false=>False
   | .osl k=>match look k own with
    | some (.slc B _ sz')=>match Nat.beq sz' sz with
     | true=>(0<=j/\j < B.length)/\K (put o.dst (.oel k j.toNat sz 0) t) own V.n
     | false=>False
    | some (.vw B _ sz')=>match Nat.beq sz' sz with
     | true=>(0<=j/\j < B.length)/\K (put o.dst (.oel k j.toNat sz 0) t) own V.n
     | false=>False
    | _=>False
   | .osv k F lo hi=>match look k own with
    | some (.slc _ _ sz')=>match Nat.beq sz' sz,Nat.beq F sz with
     | true,true=>(0<=j/\j < (hi - lo:Nat))/\K (put o.dst (.oel k (lo+j.toNat) sz 0) t) own V.n
     | _,_=>False
    | _=>False
   | .orv k 0 0 off len _=>(0<=j/\j < len)/\K (put o.dst (.ptr k (Nat.add off (Nat.mul j.toNat sz))) t) own V.n
   | _=>False
  | .v (.int .i64 j),some ⟨_,_,none,_,_,_,.arr m _ sz⟩=>match g with
   | .ptr k off=>(0<=j/\j < m)/\K (put o.dst (.ptr k (Nat.add off (Nat.mul j.toNat sz))) t) own V.n
   | .elp row off=>(0<=j/\j < m)/\K (put o.dst (.elp row (Nat.add off (Nat.mul j.toNat sz))) t) own V.n
   | _=>False
  | _,_=>False):QOk S P I V own w a t o K:=by
 obtain⟨g,hk1,hg⟩:=B1 h ha hH;obtain⟨q,p,hq⟩:=B1 hk1 ha hH;clear h hk1;split at p
 .next j ag ze e sz fl st ik kd hl =>
  have hi:=hT _ _ hl;obtain⟨hu,i',z,h1,h2,h3,-⟩:=hi.elem e sz rfl;have O:∀w,(sizeOf e).run P w=.ok sz w:=Bm (by rw[h1];simp[h3]);have e2:=Av hq;have run:∀A n c,a.eval x=.slice (some A) n c->0<=j/\j < n->∀u,(execOp a.eval o).run P u=.ok (.value (.pointer (some (A.add (j.toNat * sz))))) u:=λA n c E hj u=>by simp only[execOp,ho,Instr.indexAt,Sem.run_bind,E,e2,asIntOf,Sem.run_pure,Result.andThen_ok,run_underlying hu,hj,and_self,if_true,O]
  split at p
  .next B =>
   obtain⟨⟨W,Z⟩,hk0⟩:=p;have T:j.toNat < B.length:=by omega
   have p:=hk0 _ (ap T);clear hk0;have hx:=(show VRep I (.sl B) (a.eval x) from hg);generalize hax:a.eval x=X at hx;cases hx with
   | sl _ A c F u hc hA hz hh huu =>
    split at p
    .next C =>
     have C:=aw C;obtain⟨b,q0,rfl,hI⟩:=hh j.toNat _ (ap T);have hs:F=sz:=(hz _ (bu T)).symm.trans C;subst hs;refine⟨_,_,p,(.of_1 (g:=.elp _ 0) ⟨b,q0+j.toNat * F,by rw[Co];rfl,λm g hm=>⟨u j.toNat m,hI m (by have:=(aq.1 hm).1;omega),huu j.toNat _ m g (ap T) hm⟩⟩),λu _=>run _ _ _ hax ⟨W,Z⟩ u⟩
    .exact p.elim
  .next k =>
   cases hr:look k own with
   | none=>rw[hr] at p;exact p.elim
   | some r =>
    rw[hr] at p;cases r with
    | slc B e' sz' =>
     dsimp only at p;split at p
     .next C =>
      have C:=aw C;subst C;obtain⟨⟨W,Z⟩,p⟩:=p;obtain⟨D,E⟩:=(show k < V.n/\a.eval x=V.s k from hg);obtain⟨-,rs,⟨-,h6⟩,-⟩:=hH.each k _ hr;rcases h6 with⟨-,H⟩ | ⟨b,cap,cur,H,-⟩
      .omega
      .exact⟨_,_,p,(.of_1 (g:=.oel k j.toNat sz' 0) ⟨D,b,0,_,cap,H,by rw[Co];simp⟩),λu _=>run _ _ _ (E.trans H) ⟨W,Z⟩ u⟩
     .exact p.elim
    | vw B e' sz' =>
     dsimp only at p;split at p
     .next C =>
      have C:=aw C;subst C;obtain⟨⟨W,Z⟩,p⟩:=p;obtain⟨D,E⟩:=(show k < V.n/\a.eval x=V.s k from hg);obtain⟨-,rs,⟨-,h6⟩,-⟩:=hH.each k _ hr;rcases h6 with⟨-,H⟩ | ⟨b,q,cap,cur,H,-⟩
      .omega
      .exact⟨_,_,p,(.of_1 (g:=.oel k j.toNat sz' 0) ⟨D,b,q,_,cap,H,by rw[Co];simp⟩),λu _=>run _ _ _ (E.trans H) ⟨W,Z⟩ u⟩
     .exact p.elim
    | _=>exact p.elim
  .next k F lo M =>
   cases hr:look k own with
   | none=>rw[hr] at p;exact p.elim
   | some r =>
    rw[hr] at p;cases r with
    | slc B e' sz' =>
     dsimp only at p;split at p
     .next C Y =>
      have C:=aw C;have Y:=aw Y;subst C Y;obtain⟨⟨W,Z⟩,p⟩:=p;obtain⟨D,⟨hl1,J⟩,E⟩:=(show k < V.n/\(lo<=M/\M<=Mb (V.s k))/\a.eval x=K0 _ (V.s k) lo M from hg);obtain⟨-,rs,⟨-,h6⟩,-⟩:=hH.each k _ hr;rcases h6 with⟨H,h8⟩ | ⟨b,cap,cur,H,-,-,h9,-⟩
      .rw[H] at J;have J:M<=0:=J;omega
      .have J:M<=B.length:=by rw[H] at J;exact J
       have e3:a.eval x=.slice (some ((⟨b,0,none⟩:Addr).add (lo * F))) (M - lo) (cap - lo):=by rw[E,H];unfold K0;dsimp only;rw[dn (by omega)];rfl
       refine⟨_,_,p,(.of_1 (g:=.oel k (lo+j.toNat) F 0) ⟨D,b,0,_,cap,H,?_⟩),λu _=>run _ _ _ e3 ⟨W,Z⟩ u⟩;rw[Co,Co,Nat.add_mul];simp
     .exact p.elim
    | _=>exact p.elim
  .next k off len cap =>
   obtain⟨hj,p⟩:=p;obtain⟨D,b,q,C,E⟩:=(show TRep1 I V (.orv k 0 0 off len cap) (a.eval x) from hg);obtain⟨C,hq0⟩:=(show b=V.b k/\q=0 from C);subst C hq0;have E:a.eval x=.slice (some ⟨V.b k,off,none⟩) len cap:=by rw[E];simp
   exact⟨_,_,p,⟨D,rfl⟩,λu _=>by rw[run _ _ _ E hj u,Co];rfl⟩
  .exact p.elim
 .next j ag ze st fl ik m e sz hl =>
  obtain⟨hu,O⟩:=(hT _ _ hl).kd;have O:∀w,(sizeOf e).run P w=.ok sz w:=Bm O;have e2:=Av hq;have run:∀A,a.eval x=.pointer (some A)->0<=j/\j < m->∀u,(execOp a.eval o).run P u=.ok (.value (.pointer (some (A.add (j.toNat * sz))))) u:=λA E hj u=>by simp only[execOp,ho,Instr.indexAt,Instr.sureAddr,Sem.run_bind,E,e2,asIntOf,Sem.run_pure,Result.andThen_ok,run_underlying hu,hj,and_self,if_true,O]
  split at p
  .obtain⟨h1,p⟩:=p;obtain⟨D,E⟩:=C6 hg;exact⟨_,_,p,⟨D,rfl⟩,λu _=>by rw[run _ E h1 u,Co];rfl⟩
  .obtain⟨h1,p⟩:=p;obtain⟨b,q,E,hrow⟩:=Nq hg;exact⟨_,_,p,⟨b,q,rfl,hrow⟩,λu _=>by rw[run _ E h1 u,Co,db];rfl⟩
  .exact p.elim
 .exact p.elim
theorem Z70 {ty:TypeId}{x i:Operand}(T:o.op=.index ty x i)(h:match look ty tb with
  | some ⟨_,_,_,_,true,_,_⟩=>ev t own x λg=>ev t own i λq=>match q,g with
   | .v (.int .i64 j),.v (.string s)=>EvIdx s.data.toList j λc=>K (put o.dst (.v (.int .u8 c.toNat)) t) own V.n
   | _,_=>False
  | some ⟨_,_,none,_,false,_,.arr m e sz⟩=>ev t own x λg=>Zb2 g λcs=>ev t own i λq=>match q,look e tb with
   | .v (.int .i64 j),some z=>(0<=j/\j < m)/\match z.agg with
    | true=>seg cs (Nat.mul j.toNat sz) z.zero.length λl=>Ha z.zero.length l λg=>K (put o.dst g t) own V.n
    | false=>match nth cs (Nat.mul j.toNat sz) with
     | some g=>K (put o.dst g t) own V.n
     | none=>False
   | _,_=>False
  | _=>False):QOk S P I V own w a t o K:=by
 split at h
 case h_3=>exact h.elim
 case h_2 m e sz hl =>
  obtain⟨W,A⟩:=(hT _ _ hl).kd;have A:∀w,(sizeOf e).run P w=.ok sz w:=Bm A;obtain⟨g,p,J⟩:=B1 h ha hH;obtain⟨l,cs,p,he,M⟩:=Z5v p J;obtain⟨q,b,D⟩:=B1 p ha hH;split at b
  .next j z E =>
   have H:=Av D;obtain⟨hj,b⟩:=b;have O:=hT _ _ E;have run:∀{v:Value} {u:World},(part e cs.toArray (j.toNat * sz)).run P u=.ok v u->(execOp a.eval o).run P u=.ok (.value v) u:=λhr=>by simp only[execOp,T,Instr.index,Sem.run_bind,he,H,asIntOf,Sem.run_pure,Result.andThen_ok,run_underlying W,hj,and_self,if_true,A,hr]
   have b:match z.agg with
    | true=>seg l (j.toNat * sz) z.zero.length λl=>Ha z.zero.length l λg=>K (put o.dst g t) own V.n
    | false=>match nth l (j.toNat * sz) with
     | some g=>K (put o.dst g t) own V.n
     | none=>False:=b
   cases hb:z.agg with
   | true =>
    rw[hb] at b;obtain⟨l',Y,X,-⟩:=Lf b M;obtain⟨Z,k3,k4⟩:=Hy Y X;exact⟨_,_,k3,k4,λu _=>run (by rw[Kf O,hb];rfl)⟩
   | false =>
    rw[hb,Du] at b;dsimp only at b;cases hc:l[j.toNat * sz]? with
    | none=>rw[hc] at b;exact b.elim
    | some Z =>
     rw[hc] at b;obtain⟨v,hv,C⟩:=M.get hc;exact⟨_,_,b,.of_c C,λu _=>run (by rw[Kf O,hb,hv];rfl)⟩
  .exact b.elim
 rename_i hl
 have F:=(hT _ _ hl).str rfl;obtain⟨g,p,J⟩:=B1 h ha hH;obtain⟨q,b,D⟩:=B1 p ha hH;clear h p;split at b
 .next j s =>
  have e1:=Av J;have H:=Av D;obtain⟨⟨h1,h2⟩,b⟩:=b;have B:j.toNat < s.data.toList.length:=by omega
  have b:=b _ (ap B);have e3:s[j.toNat]?=some (s.data.toList[j.toNat]):=by
   have hs:j.toNat < s.size:=by simpa using B
   rw[getElem?_pos s j.toNat hs];rfl
  exact⟨_,_,b,.of_v (.v _),λu _=>by simp only[execOp,T,Instr.index,Sem.run_bind,e1,H,asIntOf,Sem.run_pure,Result.andThen_ok,run_underlying F,h1,if_true,e3]⟩
 .exact b.elim
end
section
variable {P:Program} {tb:List (Nat × TI)} {N n:Nat} {I I' I0:Imm} {V V' V0:Va} {a:Act} {t:Ts} {own own' own0:Os} {w w' w0:World} {g:G} {x y:Value} {d:Option Tmp}
variable {K:Ts->Os->Nat->Prop} {next:Act->World->Prop} {Q:Exit->Act->World->Prop} {o:Oper}
theorem Jk (h:Has I V own w){k e sz:Nat}{c:List (List G)}(F:look k own=some (.slc c e sz)):∃I',Later own I V w ((k,.froz c sz)::own) I' (V.drop k) w/\VRep I' (.sl c) (V.s k)/\∀r∈c,r.length=sz:=by
 obtain⟨hf,rs,⟨h0,h1⟩,W,O,M,h5,h6⟩:=h.each k _ F;have z:∀r∈c,r.length=sz:=λr hr=>by
  obtain⟨i,hi,e⟩:=cq.1 hr;have A:i < rs.length:=by omega
  have T:=O i r rs[i] (by rw[ap hi,e]) (ap A);rw[T.1];exact M _ (bu A)
 rcases h1 with⟨H,hr0⟩ | ⟨g,cap,cur,H,-,hg,hn,hm,hc,ht⟩
 .have hr:c=[]:=ay hr0;subst hr;have D:VRep I (.sl []) (V.s k):=by
   rw[H];exact .sl [] none 0 sz (λ_ _=>undef) (au _) (λ_=>rfl) (by simp) (λi r h=>by simp at h) (λi r j g h=>by simp at h)
  exact⟨I,H7 h F (.refl _) h.mem (λ_ _ _=>rfl) ⟨λb=>by simp[Va.drop],D,z⟩,D,z⟩
 .have B:V.f k g:=(hf g).2 (by rw[H];rfl);have J:=(h.foot k _ g F B).2;let I':Imm:=λb o=>if b=g then(if o < rs.flatten.length then rs.flatten[o]? else none) else I b o;have E:I.le I':=λb o x p=>by
   show(if b=g then _ else I b o)=_;rw[dn (λe=>by rw[e,J o] at p;cases p)];exact p
  have Z:∀m x,rs.flatten[m]?=some x->I' g (0+m)=some x:=λm x p=>by show(if g=g then _ else _)=_;rw[dp rfl,cn,dp (aq.1 p).1,p]
  have C:Mem I' w:=λb o x p=>by
   change (if b=g then _ else I b o)=_ at p
   split at p
   .next e =>
    subst e;split at p
    .rw[cell_of_row w b o cur e (0,0) hg];have q:=p;rw[<-ht,bp] at q;split at q
     .simpa using q
     .cases q
    .cases p
   .exact h.mem b o x p
  have D:VRep I' (.sl c) (V.s k):=by rw[H];exact Vp W hn (λi r u hr X=>(O i r u hr X).mono λ_ _ h=>h.mono E) M Z
  refine⟨I',H7 h F E C (λb o Y=>?_) ⟨λb=>by simp[Va.drop],D,z⟩,D,z⟩;show(if b=g then _ else I b o)=_;rw[dn (λe=>Y (by rw[e];exact B))]
theorem Ux {l:List (List G)}{sz lo q:Nat}(h:VRep I (.sl l) x)(z:∀r∈l,r.length=sz)(J:lo<=q)(B:q<=l.length):VRep I (.sl (Fo l lo q)) (K0 sz x lo q):=by
 cases h with
 | sl l A c sz0 u hc hA hz0 h hu =>
  have p:(Fo l lo q).length=q - lo:=by unfold Fo;rw[bj,be,cp B]
  have m:∀i r,(Fo l lo q)[i]?=some r->lo+i < q/\l[lo+i]?=some r:=λi r hr=>by have s:=(aq.1 hr).1;rw[p] at s;unfold Fo at hr;rw[cd,bp,dp (by omega)] at hr;exact⟨by omega,hr⟩
  have key:=VRep.sl (I:=I) (Fo l lo q) (if c=lo then A else A.map (·.add (lo * sz))) (c - lo) sz (λi j=>u (lo+i) j) (by rw[p];omega) (λe=>?_) (λr hr=>?_) (λi r hr=>?_) (λi r j g hr F=>?_)
  .rw[p] at key;exact key
  .split at e
   .next M=>omega
   .cases A with
    | none=>rw[hA rfl];omega
    | some a=>cases e
  .obtain⟨i,s,e⟩:=cq.1 hr;have:=(m i r (by rw[ap s,e])).2;exact z r (ar this)
  .obtain⟨E,hr⟩:=m i r hr;obtain⟨b,o,e,H⟩:=h _ _ hr;have D:sz0=sz:=(hz0 r (ar hr)).symm.trans (z r (ar hr));subst D;rw[dn (by omega),e];exact⟨b,o+lo * sz0,by simp[Co],λj C=>by rw[<-H j C,Nat.add_mul];congr 1;omega⟩
  .exact hu _ r j g (m i r hr).2 F
theorem D5 {K1:G->Os->Prop}(h:Z42 own g K1)(p:CRep I V g y)(hH:Has I V own w):∃D own' I' V',K1 D own'/\(V'.n=V.n/\V.kp V')/\Later own I V w own' I' V' w/\VRep I' D y:=by
 cases g with
 | osl k =>
  unfold Z42 at h;dsimp only at h;obtain⟨F,rfl⟩:=p;split at h
  .next c e sz hr =>
   obtain⟨I',u,m,-⟩:=Jk hH hr;exact⟨_,_,I',V.drop k,h,⟨rfl,.drop _ _⟩,u,m⟩
  .next c sz hr=>exact⟨_,_,I,V,h,⟨rfl,.refl _⟩,.refl hH,(hH.each k _ hr).2.1⟩
  .exact h.elim
 | osv k sz lo hi =>
  unfold Z42 at h;dsimp only at h;obtain⟨F,⟨A,H⟩,rfl⟩:=(show k < V.n/\(lo<=hi/\hi<=Mb (V.s k))/\y=K0 sz (V.s k) lo hi from p);split at h
  .next c e C hr =>
   split at h
   .next q =>
    have q:=aw q;subst q;obtain⟨I',u,m,B⟩:=Jk hH hr;have E:Mb (V.s k)=c.length:=by generalize V.s k=z at m;cases m;rfl
    exact⟨_,_,I',V.drop k,h,⟨rfl,.drop _ _⟩,u,Ux m B A (by omega)⟩
   .exact h.elim
  .next c C hr =>
   split at h
   .next q =>
    have q:=aw q;subst q;obtain⟨-,m,B⟩:=hH.each k _ hr;have E:Mb (V.s k)=c.length:=by generalize V.s k=z at m;cases m;rfl
    exact⟨_,_,I,V,h,⟨rfl,.refl _⟩,.refl hH,Ux m B A (by omega)⟩
   .exact h.elim
  .exact h.elim
 | v x=>exact⟨_,_,I,V,h,⟨rfl,.refl _⟩,.refl hH,p⟩
 | tt=>cases(show VRep I .tt y from p);exact⟨_,_,I,V,h,⟨rfl,.refl _⟩,.refl hH,.v _⟩
 | ff=>cases(show VRep I .ff y from p);exact⟨_,_,I,V,h,⟨rfl,.refl _⟩,.refl hH,.v _⟩
 | un=>exact⟨_,_,I,V,h,⟨rfl,.refl _⟩,.refl hH,p⟩
 | nl =>
  cases(show VRep I .nl y from p);exact⟨_,_,I,V,h,⟨rfl,.refl _⟩,.refl hH,.sl [] none 0 0 (λ_ _=>undef) (au _) (λ_=>rfl) (by simp) (λi r h=>by simp at h) (λi r j g h=>by simp at h)⟩
 | agg l=>exact⟨_,_,I,V,h,⟨rfl,.refl _⟩,.refl hH,p⟩
 | sl l=>exact⟨_,_,I,V,h,⟨rfl,.refl _⟩,.refl hH,p⟩
 | ptr k off =>
  obtain⟨b,i,u,m⟩:=P0 (show Z76 k own own (λb=>K1 (.v (.pointer (some ⟨b,off,none⟩))) own) from h);obtain⟨-,-,e⟩:=hH.each i _ u;obtain⟨-,rfl⟩:=p;exact⟨_,_,I,V,m,⟨rfl,.refl _⟩,.refl hH,by rw[e];exact .v _⟩
 | _=>exact h.elim
theorem Nz:∀{l:List G} {own:Os} {I:Imm} {V:Va} {cs:List Value} {K1:List G->Os->Prop},Z8q l own K1->PW (CRep I V) l cs->Has I V own w->∃j own' I' V',K1 j own'/\(V'.n=V.n/\V.kp V')/\Later own I V w own' I' V' w/\PW (VRep I') j cs
 | [],own,I,V,cs,K1,h,hp,hH=>⟨[],own,I,V,h,⟨rfl,.refl _⟩,.refl hH,by rw[hp.of_nil];exact .nil⟩
 | g::l,own,I,V,cs,K1,h,hp,hH=>by obtain⟨x,F,rfl,D,B⟩:=hp.uncons;obtain⟨z,O,J,T,E,c,b,u⟩:=D5 (K1:=λz A=>Z8q l A λj s=>K1 (z::j) s) h D hH;obtain⟨j,M,H,V2,C,p,m,q⟩:=Nz E (B.mono λ_ _ h=>h.mono b.fro.mono b.va) b.has;exact⟨_,_,H,V2,C,⟨p.1.trans c.1,c.2.trans (Nat.le_of_eq c.1.symm) p.2⟩,b.trans m,.cons (u.mono m.fro.mono) q⟩
theorem Xv {K1:G->Os->Prop}(h:pur own g K1)(b:TRep I V g y)(hH:Has I V own w):∃q own' I' V',K1 q own'/\(V'.n=V.n/\V.kp V')/\Later own I V w own' I' V' w/\VRep I' q y:=by
 cases g with
 | oag l =>
  obtain⟨cs,rfl,s⟩:=(show ∃cs:List Value,y=.agg cs.toArray/\PW (CRep I V) l cs from b);obtain⟨p,B,A,V2,z,m,j,c⟩:=Nz (K1:=λp u=>K1 (.agg p) u) h s hH;exact⟨_,_,A,V2,z,m,j,Zbu c⟩
 | v x=>exact D5 (g:=.v x) h b hH
 | tt=>exact D5 (g:=.tt) h b hH
 | ff=>exact D5 (g:=.ff) h b hH
 | un=>exact D5 (g:=.un) h b hH
 | nl=>exact D5 (g:=.nl) h b hH
 | agg l=>exact D5 (g:=.agg l) h b hH
 | sl l=>exact D5 (g:=.sl l) h b hH
 | osl k=>exact D5 (g:=.osl k) h b hH
 | osv k sz lo hi=>exact D5 (g:=.osv k sz lo hi) h b hH
 | ptr k off=>exact D5 (g:=.ptr k off) h b hH
 | _=>exact False.elim h
theorem PRep.of_v (h:VRep I g y):PRep I V g y:=by
 cases g with
 | ptr k o=>cases h
 | osl k=>cases h
 | osv k a b c=>cases h
 | oel k a b c=>cases h
 | mp k=>cases h
 | clo f a c=>cases h
 | oag l=>cases h
 | _=>exact h
theorem PRep.to_t (h:PRep I V g y):TRep I V g y:=by
 cases g with
 | ptr k o=>exact .of_c (g:=.ptr k o) h
 | osl k=>exact .of_c (g:=.osl k) h
 | osv k a b c=>exact .of_c (g:=.osv k a b c) h
 | oel k a b c=>exact .of_1 (g:=.oel k a b c) h
 | mp k=>exact .of_c (g:=.mp k) h
 | clo f a c=>exact .of_1 (g:=.clo f a c) h
 | v x=>exact .of_v (g:=.v x) h
 | tt=>exact .of_v (g:=.tt) h
 | ff=>exact .of_v (g:=.ff) h
 | un=>exact .of_v (g:=.un) h
 | nl=>exact .of_v (g:=.nl) h
 | agg l=>exact .of_v (g:=.agg l) h
 | sl l=>exact .of_v (g:=.sl l) h
 | oag l=>exact .of_1 (g:=.oag l) h.2
 | tup l=>cases(show VRep I (.tup l) y from h)
 | elp l o=>cases(show VRep I (.elp l o) y from h)
 | orv a b c d e f=>cases(show VRep I (.orv a b c d e f) y from h)
theorem PRep.to_1 (h:PRep I V g y):TRep1 I V g y:=by
 cases g with
 | tup l=>cases(show VRep I (.tup l) y from h)
 | _=>exact(PRep.to_t h)
theorem PRe1.to_1 (h:PRe1 I V g y):TRep1 I V g y:=by
 cases g with
 | oag l=>exact h
 | _=>exact PRep.to_1 (show PRep I V _ y from h)
theorem PRe1.of_p (h:PRep I V g y):PRe1 I V g y:=by
 cases g with
 | oag l=>exact h.2
 | _=>exact h
theorem PRe1.of_v (h:VRep I g y):PRe1 I V g y:=.of_p (.of_v h)
theorem PRes.to_t (h:PRes I V g y):TRep I V g y:=by
 cases g with
 | tup l=>obtain⟨cs,e,b⟩:=h;exact⟨cs,e,b.mono λ_ _ h=>h.to_1⟩
 | oag l=>exact .of_1 (g:=.oag l) h
 | _=>exact PRep.to_t (show PRep I V _ y from h)
theorem PRep.mono (h:PRep I V g y)(j:I.le I')(m:V.le V'):PRep I' V' g y:=by
 cases g with
 | ptr k o=>exact CRep.mono (g:=.ptr k o) h j m
 | osl k=>exact CRep.mono (g:=.osl k) h j m
 | osv k a b c=>exact CRep.mono (g:=.osv k a b c) h j m
 | oel k a b c=>exact TRep1.mono (g:=.oel k a b c) h j m
 | mp k=>exact CRep.mono (g:=.mp k) h j m
 | clo f a c=>exact TRep1.mono (g:=.clo f a c) h j m
 | oag l=>exact⟨h.1,TRep1.mono (g:=.oag l) h.2 j m⟩
 | _=>exact VRep.mono h j
theorem PRe1.mono (h:PRe1 I V g y)(b:I.le I')(c:V.le V'):PRe1 I' V' g y:=by
 cases g with
 | oag l=>exact TRep1.mono (g:=.oag l) h b c
 | _=>exact .of_p (PRep.mono (show PRep I V _ y from h) b c)
theorem Yl {K1:G->Os->Prop}(h:Zb0 own g K1)(j:TRep I V g y)(hH:Has I V own w):∃b own' I' V',K1 b own'/\(V'.n=V.n/\V.kp V')/\Later own I V w own' I' V' w/\PRep I' V' b y:=by
 have key:pur own g K1->∃b own' I' V',K1 b own'/\(V'.n=V.n/\V.kp V')/\Later own I V w own' I' V' w/\PRep I' V' b y:=λh=>by obtain⟨b,s,q,z,u,m,A,p⟩:=Xv h j hH;exact⟨b,s,q,z,u,m,A,.of_v p⟩
 cases g with
 | ptr k o=>exact⟨_,_,I,V,h,⟨rfl,.refl _⟩,.refl hH,j⟩
 | clo f a c=>exact⟨_,_,I,V,h,⟨rfl,.refl _⟩,.refl hH,j⟩
 | _=>exact key h
theorem Zv:∀{l:List G} {own:Os} {I:Imm} {V:Va} {cs:List Value} {K1:List G->Os->Prop},Zbq l own K1->PW (TRep I V) l cs->Has I V own w->∃m own' I' V',K1 m own'/\(V'.n=V.n/\V.kp V')/\Later own I V w own' I' V' w/\PW (PRep I' V') m cs
 | [],own,I,V,cs,K1,h,hp,hH=>⟨[],own,I,V,h,⟨rfl,.refl _⟩,.refl hH,by rw[hp.of_nil];exact .nil⟩
 | g::l,own,I,V,cs,K1,h,hp,hH=>by obtain⟨x,F,rfl,D,B⟩:=hp.uncons;obtain⟨z,O,J,T,E,j,b,u⟩:=Yl (K1:=λz A=>Zbq l A λm s=>K1 (z::m) s) h D hH;obtain⟨m,M,H,V2,C,p,c,q⟩:=Zv E (B.mono λ_ _ h=>h.mono b.fro.mono b.va) b.has;exact⟨_,_,H,V2,C,⟨p.1.trans j.1,j.2.trans (Nat.le_of_eq j.1.symm) p.2⟩,b.trans c,.cons (u.mono c.fro.mono c.va) q⟩
theorem Nl (h:Has I V own w)(u:Mem I' w')(p:I.le I')(s:∀b o,b < w.heap.size->I' b o=I b o)(c:Below w.heap.size w w'):Later own I V w own I' V w' :=
 ⟨⟨u,h.num,λk r m=>(h.each k r m).keep p (.refl _) (h.num k r m) rfl c.os c.size λb j=>c.block b (h.foot k r b m j).1,λk r b m j=>by obtain⟨q,z⟩:=h.foot k r b m j;exact⟨bc q c.size,λo=>(s b o q).trans (z o)⟩,h.disj⟩,⟨c.os,c.tape,c.output,c.size,λb j _=>⟨c.block b j,λo=>s b o j⟩,p,λk r b m j _=>⟨k,r,m,j⟩⟩,.refl _⟩
end
theorem dt:type_of%@EvIf.beq:=@EvIf.beq
theorem du:type_of%@EvIf.dec:=@EvIf.dec
theorem dv:type_of%@EvCall.gh:=@EvCall.gh
theorem dw:type_of%@EvCall.lend:=@EvCall.lend
theorem dx:type_of%@EvIf.bne:=@EvIf.bne
theorem dy:type_of%@EvIf.mk:=@EvIf.mk
theorem dz:type_of%@EvIdx.at:=@EvIdx.at
end Go.Proofs.YtmmdikhljefeiaaGreat
