
import Derived.Below
import Derived.OrdersHeld
import Derived.Test.YtmmdikhljefeiaaGreatBM
import Derived.Test.YtmmdikhljefeiaaGreatOwnM
import Derived.Test.YtmmdikhljefeiaaGreatYFrm
import Derived.Great.BuildSlice
import Derived.Laws.AppendOwnNone
import Derived.Deep.AppendSrc
import Derived.IntWalk
import Derived.Laws.StructEq
import Derived.Laws.Small
namespace Go.Proofs.YtmmdikhljefeiaaGreat
open Go.RowKit
inductive G where
 | v (x:Value)
 | tt
 | ff
 | un
 | nl
 | agg (l:List G)
 | oag (l:List G)
 | tup (l:List G)
 | ptr (k off:Nat)
 | sl (l:List (List G))
 | osl (k:Nat)
 | osv (k sz lo hi:Nat)
 | elp (row:List G) (off:Nat)
 | oel (k i sz off:Nat)
 | orv (k i sz off len cap:Nat)
 | mp (k:Nat)
 | clo (f:Nat) (a c:List G)
abbrev Ob:=(Nat->Nat->Option Value)->Nat->(Nat->Prop)->World->Prop
inductive R where
 | blk (cs:List G) (t:TypeId)
 | slc (rows:List (List G)) (e:TypeId) (sz:Nat)
 | froz (rows:List (List G)) (sz:Nat)
 | gone
 | mpI (l:List (Int × G))
 | mpS (l:List (ByteArray × G))
 | sit (s:ByteArray) (pos:Nat)
 | mpX (l:List (ByteArray × G)) (m:Nat) (ob:Obj)
 | mit (k:Nat) (l:List (ByteArray × G)) (D:List ByteArray) (last:Option (ByteArray × G)) (m:Nat) (ob:Obj)
 | abs (p:Ob)
 | lnk (j:Nat)
 | adr (k b:Nat)
 | fam (ps:List Ob)
 | vw (rows:List (List G)) (e:TypeId) (sz:Nat)
inductive KD where
 | no
 | arr (n:Nat) (e:TypeId) (sz:Nat)
 | map (str:Bool) (e:TypeId)
 | ptr
 | fn
 | bool
structure TI where
 agg:Bool
 zero:List G
 elem:Option (TypeId × Nat)
 flds:List (TypeId × Nat)
 str:Bool
 ik:Option IntKind
 kd:KD
abbrev Ts:=List (Nat × G)
abbrev Os:=List (Nat × R)
def look {α:Type}(i:Nat):List (Nat × α)->Option α
 | []=>none
 | (j,g)::r=>bif Nat.beq i j then some g else look i r
def put (d:Option Tmp)(g:G)(t:Ts):Ts:=match d with
 | some d=>(d,g)::t
 | none=>t
def Gof:Value->G
 | .bool true=>.tt
 | .bool false=>.ff
 | .slice none 0 0=>.nl
 | x=>.v x
structure EvIf (c:Bool)(A B:Prop):Prop where
 yes:c=true->A
 no:c=false->B
structure EvRng (n:Int)(A:Prop):Prop where
 rng:-9223372036854775808<=n/\n<=9223372036854775807
 next:A
structure EvIdx {α:Type}(l:List α)(n:Int)(K:α->Prop):Prop where
 rng:0<=n/\n < l.length
 next:∀x,l[n.toNat]?=some x->K x
structure EvSet {α:Type}(l:List α)(n:Nat)(F:α->(α->Prop)->Prop)(K:List α->Prop):Prop where
 rng:n < l.length
 next:∀x,l[n]?=some x->F x λy=>K (l.set n y)
structure EvRoom (n:Nat)(A:Prop):Prop where
 room:n<=1073741824
 next:A
structure Zco {α:Type}(l:List (List α))(sz:Nat)(one:α->Bool)(A:Prop):Prop where
 rows:∀r∈l,r.length=sz/\r.all one=true
 next:A
structure Z0n (l h:Int)(n:Nat)(A:Prop):Prop where
 rng:0<=l/\l<=h/\h<=n
 next:A
structure Z1y (o:Option G)(K:G->Prop)(A:Prop):Prop where
 yes:∀g,o=some g->K g
 no:o=none->A
structure Zex {α:Type}(l:List (List α))(sz:Nat)(A:Prop):Prop where
 rows:∀r∈l,r.length=sz
 next:A
structure EvDiv (n:Int)(A:Prop):Prop where
 ne:n≠0
 next:A
def gBy (c:UInt8):List G:=[.v (.int .u8 c.toNat)]
structure EvBytes (l:List (List G))(K:List UInt8->Prop):Prop where
 run:∃bs:List UInt8,l=bs.map gBy/\K bs
def R0 (l:List G)(cs:List Value):Prop:=l=cs.map .v
structure Zbj {α:Type}(l:List α)(K:Bool->Prop):Prop where
 run:∀b:Bool,(l≠[]->b=false)->K b
structure Zbw {α:Type}(l:List (List α))(m:Nat)(K:List α->Prop):Prop where
 pos:0 < m
 run:∃r:List α,r.length=m/\l.take m=r.map (λg=>[g])/\K r
structure EvEq (P:Program)(t:TypeId)(l m:List G)(K:Bool->Prop):Prop where
 run:∃cs ds b,R0 l cs/\R0 m ds/\P.eqGuardType P.depth t=false/\(∀w,(Op.equalIn 10000 t (.agg cs.toArray) (.agg ds.toArray)).run P w=.ok b w)/\K b
theorem EvIdx.at {α β:Type}{f:α->β}{l:List α}{i:Nat}{x:α}{K:β->Prop}(c:l[i]?=some x)(h:K (f x)):EvIdx (l.map f) i K :=
 ⟨by have:=(ar.1 c).1;simp;omega,λy b=>by rw[bj,ay,c] at b;obtain rfl:=cu b;exact h⟩
theorem EvIdx.atI {α β:Type}{f:α->β}{l:List α}{n:Int}{x:α}{K:β->Prop}(c:0<=n)(b:l[n.toNat]?=some x)(h:K (f x)):EvIdx (l.map f) n K:=by obtain⟨i,rfl⟩:=al c;exact .at b h
theorem EvSet.at {α β:Type}{f:α->β}{l c:List α}{i:Nat}{x y:α}{F:β->(β->Prop)->Prop}{K:List β->Prop}(j:l[i]?=some x)(p:∀k:β->Prop,k (f y)->F (f x) k)(m:l.set i y=c)(h:K (c.map f)):EvSet (l.map f) i F K :=
 ⟨by have:=(ar.1 j).1;simpa using this,λz b=>by rw[ay,j] at b;obtain rfl:=cu b;refine p _ ?_;rw[<-List.map_set,m];exact h⟩
theorem EvIdx.of {α β:Type}{f:α->β}{l:List α}{i:Nat}{K:β->Prop}(b:i < l.length)(h:∀x,l[i]?=some x->K (f x)):EvIdx (l.map f) i K :=
 .at (aq b) (h _ (aq b))
theorem EvIf.dec {p:Prop}[Decidable p]{A B:Prop}(c:p->A)(b:¬p->B):EvIf (decide p) A B:=⟨λh=>c (of_decide_eq_true h),λh=>b (of_decide_eq_false h)⟩
theorem EvIf.beq {x y:Int}{A B:Prop}(c:x=y->A)(b:x≠y->B):EvIf (x==y) A B:=⟨λh=>c (eq_of_beq h),λh=>b (ne_of_beq_false h)⟩
theorem EvIf.bne {x y:Int}{A B:Prop}(c:x≠y->A)(b:x=y->B):EvIf (x != y) A B:=⟨λh=>c (bne_iff_ne.1 h),λh=>b (by simpa using h)⟩
theorem Iu {a b:ByteArray}:(a.toList==b.toList)=decide (a=b):=by
 have key:a.toList=b.toList↔a=b:=⟨λh=>by
  have e:∀c:ByteArray,c.toList=c.data.toList:=λc=>by
   have key:∀(n i:Nat) (r:List UInt8),c.size - i=n->ByteArray.toList.loop c i r=r.reverse++(c.data.toList.drop i):=λn=>by
    induction n with
    | zero =>
     intro i r m;unfold ByteArray.toList.loop;have:¬i < c.size:=by omega
     rw[dp this,dl (by show c.data.toList.length<=i;simp;exact Nat.le_of_not_lt this)];simp
    | succ n ih =>
     intro i r m;unfold ByteArray.toList.loop;have j:i < c.size:=by omega
     rw[dq j,ih (i+1) _ (by omega)];have p:i < c.data.toList.length:=by simpa using j
     rw[List.drop_eq_getElem_cons p];simp[ByteArray.get!,j]
   have:=key _ 0 [] rfl;simpa [ByteArray.toList] using this
  rw[e,e] at h;cases a;cases b
  congr
  simpa using congrArg List.toArray h,λh=>by rw[h]⟩
 by_cases h:a=b
 .simp[h]
 .simp[h,mt key.1 h]
theorem EvIf.beqS {x y:ByteArray}{A B:Prop}(c:x=y->A)(b:x≠y->B):EvIf (x.toList==y.toList) A B:=by rw[Iu];exact .dec c b
theorem EvIf.bneS {x y:ByteArray}{A B:Prop}(c:x≠y->A)(b:x=y->B):EvIf (!(x.toList==y.toList)) A B:=by rw[Iu];exact⟨λh=>c (by simpa using h),λh=>b (by simpa using h)⟩
def Fn (k:Nat):List Nat->Bool
 | []=>false
 | j::l=>bif Nat.beq k j then true else Fn k l
def nth {α:Type}:List α->Nat->Option α
 | [],_=>none
 | x::_,0=>some x
 | _::l,n+1=>nth l n
def G.pure:G->Bool
 | .ptr _ _ | .osl _ | .osv _ _ _ _ | .oag _ | .elp _ _ | .oel _ _ _ _ | .orv _ _ _ _ _ _ | .tup _ | .nl | .tt | .ff | .mp _ | .clo _ _ _=>false
 | _=>true
def G.cap:G->Bool
 | .ptr _ _ | .mp _=>true
 | .v x=>x.oneCell'
 | _=>false
def G.one:G->Bool
 | .v x=>x.oneCell'
 | .tt | .ff | .nl | .sl _ | .ptr _ _ | .osl _ | .osv _ _ _ _ | .mp _=>true
 | _=>false
def O3:G->Bool
 | .v x=>x.oneCell'
 | _=>false
structure Es (c A:Prop):Prop where
 fit:c
 next:A
def Ty (n:Nat):Bool:=Nat.blt 48 n
def Ze7:List G->Nat->Nat->(List G->Prop)->Prop
 | _,_,0,K=>K []
 | [],_,_+1,_=>False
 | g::l,0,n+1,K=>Ze7 l 0 n λr=>K (g::r)
 | _::l,k+1,n+1,K=>Ze7 l k (n+1) K
def seg (l:List G)(k n:Nat)(K:List G->Prop):Prop:=match Ty n with
 | false=>Ze7 l k n K
 | true=>Es (k+n<=l.length) (K ((l.drop k).take n))
def Ze1:List G->Nat->List G->(List G->Prop)->Prop
 | l,_,[],K=>K l
 | [],_,_::_,_=>False
 | _::l,0,c::cs,K=>Ze1 l 0 cs λr=>K (c::r)
 | g::l,k+1,c::cs,K=>Ze1 l k (c::cs) λr=>K (g::r)
def ovr (n:Nat)(l:List G)(k:Nat)(cs:List G)(K:List G->Prop):Prop:=match Ty n with
 | false=>Ze1 l k cs K
 | true=>Es (cs.length=n/\k+n<=l.length) (K (l.take k++cs++l.drop (k+n)))
def Bw {α:Type}(p:α->Bool):List α->Bool
 | []=>true
 | g::l=>bif p g then Bw p l else false
def Hm (n:Nat)(l:List G)(K:G->Prop):Prop:=match Ty n with
 | false=>match Bw G.pure l with
  | true=>K (.agg l)
  | false=>K (.oag l)
 | true=>Es (∀g∈l,g.pure=true) (K (.agg l))
def Fo (b:List (List G))(lo c:Nat):List (List G):=(b.take c).drop lo
def Z9w (k:Nat)(o:Os):Os->(Nat->Prop)->Prop
 | [],_=>False
 | (i,_)::l,K=>match look i o with
  | some (.adr j b)=>match Nat.beq k j with
   | true=>K b
   | false=>Z9w k o l K
  | _=>Z9w k o l K
def Z4g (o:Os)(g:G)(K:G->Os->Prop):Prop:=match g with
 | .osl k=>match look k o with
  | some (.slc rows _ sz)=>K (.sl rows) ((k,.froz rows sz)::o)
  | some (.froz rows _)=>K (.sl rows) o
  | _=>False
 | .osv k sz lo hi=>match look k o with
  | some (.slc rows _ sz')=>match Nat.beq sz sz' with
   | true=>K (.sl (Fo rows lo hi)) ((k,.froz rows sz)::o)
   | false=>False
  | some (.froz rows sz')=>match Nat.beq sz sz' with
   | true=>K (.sl (Fo rows lo hi)) o
   | false=>False
  | _=>False
 | .nl=>K (.sl []) o
 | .tt=>K (.v (.bool true)) o
 | .ff=>K (.v (.bool false)) o
 | .ptr k off=>Z9w k o o λb=>K (.v (.pointer (some ⟨b,off,none⟩))) o
 | .oag _ | .elp _ _ | .oel _ _ _ _ | .orv _ _ _ _ _ _ | .tup _ | .mp _ | .clo _ _ _=>False
 | g=>K g o
def Zaj:List G->Os->(List G->Os->Prop)->Prop
 | [],o,K=>K [] o
 | g::l,o,K=>Z4g o g λj c=>Zaj l c λh b=>K (j::h) b
def pur (o:Os)(g:G)(K:G->Os->Prop):Prop:=match g with
 | .oag l=>Zaj l o λc b=>K (.agg c) b
 | g=>Z4g o g K
def Zd8 (o:Os)(g:G)(K:G->Os->Prop):Prop:=match g with
 | .ptr k off=>K (.ptr k off) o
 | .clo f a c=>K (.clo f a c) o
 | g=>pur o g K
def Zdo:List G->Os->(List G->Os->Prop)->Prop
 | [],o,K=>K [] o
 | g::l,o,K=>Zd8 o g λj c=>Zdo l c λh b=>K (j::h) b
def Z2q:G->G
 | .nl=>.sl []
 | .tt=>.v (.bool true)
 | .ff=>.v (.bool false)
 | g=>g
def Z9a (t:Ts)(w:Os)(n:Nat)(d:Option Tmp)(g:G)(new:List (List G))(e sz:Nat)(K:Ts->Os->Nat->Prop):Prop:=match g with
 | .osl k=>match look k w with
  | some (.slc rows e' sz')=>match Nat.beq e e',Nat.beq sz sz' with
   | true,true=>EvRoom (rows.length+new.length) (K (put d (.osl n) t) ((n,.slc (rows++new) e sz)::(k,.gone)::w) (n+1))
   | _,_=>False
  | _=>False
 | .nl=>EvRoom new.length (K (put d (.osl n) t) ((n,.slc new e sz)::w) (n+1))
 | _=>False
def Zd0 (t:Ts)(w:Os)(n:Nat)(d:Option Tmp)(g:G)(new:List (List G))(e sz:Nat)(K:Ts->Os->Nat->Prop):Prop:=match g with
 | .osl k=>match look k w with
  | some (.vw rows e' sz')=>match Nat.beq e e',Nat.beq sz sz' with
   | true,true=>EvRoom (rows.length+new.length) (K (put d (.osl n) t) ((n,.vw (rows++new) e sz)::(k,.gone)::w) (n+1))
   | _,_=>False
  | _=>Z9a t w n d (.osl k) new e sz K
 | .orv k 0 (sz'+1) 0 l c=>match look k w with
  | some (.vw rows e' sz2)=>match Nat.beq e e',Nat.beq sz (sz'+1),Nat.beq sz sz2,Nat.beq l c,Nat.ble l rows.length with
   | true,true,true,true,true=>EvRoom (l+new.length) (K (put d (.osl n) t) ((n,.vw (rows.take l++new) e sz)::(k,.gone)::w) (n+1))
   | _,_,_,_,_=>False
  | _=>False
 | g=>Z9a t w n d g new e sz K
def Zbd (g:G)(K:ByteArray->Prop):Prop:=match g with
 | .v (.string s)=>K s
 | _=>False
def Hl {α:Type}(k:Nat):List Nat->(List Nat->α)->α
 | [],K=>K [k]
 | j::l,K=>match Nat.beq k j with
  | true=>K (j::l)
  | false=>Hl k l λr=>K (j::r)
def gkC {α:Type}(g:G)(ks:List Nat)(K:List Nat->α):α:=match g with
 | .ptr k _ | .osl k | .osv k _ _ _ | .oel k _ _ _ | .mp k=>Hl k ks K
 | _=>K ks
def Z9u {α:Type}:List G->List Nat->(List Nat->α)->α
 | [],ks,K=>K ks
 | g::l,ks,K=>gkC g ks λks=>Z9u l ks K
def gk1 {α:Type}(g:G)(ks:List Nat)(K:List Nat->α):α:=match g with
 | .oag l=>Z9u l ks K
 | .clo _ a c=>Z9u a ks λks=>Z9u c ks K
 | g=>gkC g ks K
def gkL {α:Type}:List G->List Nat->(List Nat->α)->α
 | [],ks,K=>K ks
 | g::l,ks,K=>gk1 g ks λks=>gkL l ks K
def Cd:G->Bool
 | .ptr _ _ | .osl _ | .osv _ _ _ _ | .oel _ _ _ _ | .orv _ _ _ _ _ _ | .mp _=>false
 | _=>true
def Lp:R->Bool
 | .blk cs _=>Bw Cd cs
 | .lnk _=>false
 | .adr _ _=>false
 | _=>true
def Ii:List Nat->Nat->List (Nat × Nat)
 | [],_=>[]
 | k::ks,i=>(k,i)::Ii ks (i+1)
def Rx:List Nat->Nat->List R->Nat->List (Nat × Nat)
 | k::ks,n,_::rs,i=>(i,k)::Rx ks n rs (i+1)
 | [],n,_::rs,i=>(i,n)::Rx [] (n+1) rs (i+1)
 | _,_,[],_=>[]
def Ev:List R->Nat->Os
 | [],_=>[]
 | r::rs,i=>(i,r)::Ev rs (i+1)
def ev (t:Ts)(o:Os)(x:Operand)(K:G->Prop):Prop:=match x with
 | .tmp i=>match look i t with
  | some (.osl k)=>match look k o with
   | some (.froz rows _)=>K (.sl rows)
   | _=>K (.osl k)
  | some g=>K g
  | none=>False
 | .const x=>K (Gof x)
 | .func f=>K (.v (.func (.func f) #[] #[]))
 | .global _=>False
def evs (t:Ts)(o:Os):List Operand->(List G->Prop)->Prop
 | [],K=>K []
 | x::l,K=>ev t o x λg=>evs t o l λr=>K (g::r)
def G5 (o:Os)(g:G)(K:List G->Prop):Prop:=match g with
 | .agg l=>K l
 | .oag l=>K l
 | .tup _ | .elp _ _ | .oel _ _ _ _ | .orv _ _ _ _ _ _ | .un | .clo _ _ _=>False
 | .v x=>match x.oneCell' with
  | true=>K [.v x]
  | false=>False
 | .osl k=>match look k o with
  | some (.slc _ _ _)=>K [.osl k]
  | some (.froz rows _)=>K [.sl rows]
  | some (.vw _ _ _)=>K [.osl k]
  | _=>False
 | .osv k sz lo hi=>match look k o with
  | some (.slc _ _ _)=>K [.osv k sz lo hi]
  | some (.vw _ _ _)=>K [.osv k sz lo hi]
  | _=>False
 | g=>K [g]
def Zav (g:G)(K:List G->Prop):Prop:=match g with
 | .agg l=>K l
 | .oag l=>K l
 | _=>False
def Zai (o:Os):G->Bool
 | .osl k=>match look k o with
  | some (.slc _ _ _)=>true
  | some (.vw _ _ _)=>true
  | _=>false
 | .osv k _ _ _=>match look k o with
  | some (.slc _ _ _)=>true
  | some (.vw _ _ _)=>true
  | _=>false
 | g=>G.one g
def U9 (o:Os)(g:G)(K:List (List G)->Prop):Prop:=match g with
 | .nl=>K []
 | .sl rows=>K rows
 | .osl k=>match look k o with
  | some (.slc rows _ _)=>K rows
  | some (.froz rows _)=>K rows
  | some (.vw rows _ _)=>K rows
  | _=>False
 | .osv k _ lo hi=>match look k o with
  | some (.slc rows _ _)=>K (Fo rows lo hi)
  | _=>False
 | _=>False
def Zg2 (o:Os)(g:G)(K:Int->Prop):Prop:=match g with
 | .orv _ _ _ _ l _=>K l
 | g=>U9 o g λb=>K b.length
def Z2p (o:Os)(g:G)(sz:Nat)(K:List (List G)->Prop):Prop:=match g with
 | .nl=>K []
 | .sl rows=>Zco rows sz G.one (K rows)
 | .osl k=>match look k o with
  | some (.slc rows _ sz')=>match Nat.beq sz' sz with
   | true=>K rows
   | false=>False
  | _=>False
 | .osv k sz0 lo hi=>match look k o with
  | some (.slc rows _ sz')=>match Nat.beq sz' sz,Nat.beq sz0 sz with
   | true,true=>K (Fo rows lo hi)
   | _,_=>False
  | some (.vw rows _ sz')=>match Nat.beq sz' sz,Nat.beq sz0 sz with
   | true,true=>K (Fo rows lo hi)
   | _,_=>False
  | _=>False
 | _=>False
def Mt (m:List (Nat × Nat)):G->G
 | .ptr k off=>.ptr ((look k m).getD k) off
 | .osl k=>.osl ((look k m).getD k)
 | .osv k sz lo hi=>.osv ((look k m).getD k) sz lo hi
 | .oel k i sz off=>.oel ((look k m).getD k) i sz off
 | .orv k i sz off l c=>.orv ((look k m).getD k) i sz off l c
 | .mp k=>.mp ((look k m).getD k)
 | g=>g
def Z2o (m:List (Nat × Nat)):G->G
 | .oag l=>.oag (l.map (Mt m))
 | .clo f a c=>.clo f (a.map (Mt m)) (c.map (Mt m))
 | g=>Mt m g
def Q1 (m:List (Nat × Nat)):G->G
 | .tup l=>.tup (l.map (Z2o m))
 | g=>Z2o m g
def Lc (m:List (Nat × Nat)):R->R
 | .blk cs t=>.blk (cs.map (Mt m)) t
 | .adr k b=>.adr ((look k m).getD k) b
 | .lnk j=>.lnk ((look j m).getD j)
 | r=>r
def Ku (m:List (Nat × Nat)):G->G
 | .osl k=>.osl ((look k m).getD k)
 | .osv k sz lo hi=>.osv ((look k m).getD k) sz lo hi
 | .oel k i sz off=>.oel ((look k m).getD k) i sz off
 | .orv k i sz off l c=>match sz with
  | 0=>.orv k i 0 off l c
  | s+1=>.orv ((look k m).getD k) i (s+1) off l c
 | g=>g
def Tb (m:List (Nat × Nat)):G->G
 | .oag l=>.oag (l.map (Ku m))
 | .clo f a c=>.clo f (a.map (Ku m)) (c.map (Ku m))
 | g=>Ku m g
def renS (m:List (Nat × Nat)):G->G
 | .tup l=>.tup (l.map (Tb m))
 | g=>Tb m g
def Z39 (m:List (Nat × Nat)):R->R
 | .blk cs t=>.blk (cs.map (Ku m)) t
 | r=>r
def isS:R->Bool
 | .slc _ _ _ | .froz _ _ | .gone=>true
 | .vw _ _ _=>true
 | .fam _=>true
 | _=>false
def Sz (n:Nat):G->Bool
 | .ptr k _ | .osl k | .oel k _ _ _ | .osv k _ _ _ | .mp k=>Nat.blt k n
 | .orv k _ _ _ _ _=>Nat.blt k n
 | _=>true
def Zam (n:Nat):G->Bool
 | .oag l=>Bw (Sz n) l
 | .clo _ a c=>match Bw (Sz n) a with
  | true=>Bw (Sz n) c
  | false=>false
 | .tup _=>false
 | g=>Sz n g
def Z3e (n:Nat):G->Bool
 | .tup l=>Bw (Zam n) l
 | g=>Zam n g
def Z0u (n:Nat):R->Bool
 | .blk cs _=>Bw (Sz n) cs
 | .lnk _=>false
 | .adr k _=>Nat.blt k n
 | _=>true
def O7 (own:Os):List Nat->List Nat->(List Nat->Prop)->Prop
 | [],b,K=>K b
 | k::l,b,K=>match look k own with
  | some (.blk cs _)=>Z9u cs b λb=>O7 own l b K
  | _=>O7 own l b K
def trK (own:Os):Nat->List Nat->(List Nat->Prop)->Prop
 | 0,ks,K=>K ks
 | n+1,ks,K=>O7 own ks ks λks=>trK own n ks K
def Ze6 (ks:List Nat):G->Bool
 | .ptr k _ | .osl k | .osv k _ _ _ | .oel k _ _ _ | .mp k=>Fn k ks
 | _=>true
def Z2m (ks:List Nat):R->Bool
 | .blk cs _=>Bw (Ze6 ks) cs
 | .lnk _=>false
 | .adr k _=>Fn k ks
 | _=>true
def rsK (own:Os)(b:List Nat):List Nat->(List R->Prop)->Prop
 | [],K=>K []
 | k::ks,K=>match look k own with
  | some r=>match Lp r with
   | true=>rsK own b ks λrs=>K (r::rs)
   | false=>match Z2m b r with
    | true=>rsK own b ks λrs=>K (Lc (Ii b 0) r::rs)
    | false=>False
  | none=>False
def Py (tt:List (Nat × TI))(ty:TypeId):KD:=match look ty tt with
 | some i=>i.kd
 | none=>.no
def Zar (tt:List (Nat × TI))(ty:TypeId)(op:BinOp)(b:Bool)(K:G->Prop):Prop:=match Py tt ty,op with
 | .ptr,.eql=>K (bif b then .tt else .ff)
 | .ptr,.neq=>K (bif b then .ff else .tt)
 | _,_=>False
def Z3o (g:G)(K:Bool->Prop):Prop:=match g with
 | .tt=>K true
 | .ff=>K false
 | .v (.bool b)=>K b
 | _=>False
structure Zdn (n:Int)(K:Prop):Prop where
 nn:0<=n
 next:K
def Zdx (P:Program)(tt:List (Nat × TI))(ty:TypeId)(op:BinOp)(x y:G)(K:G->Prop):Prop:=match x,y with
 | .v (.int .i64 a),.v (.int .i64 b)=>match op with
  | .add=>EvRng (a+b) (K (.v (.int .i64 (a+b))))
  | .sub=>EvRng (a - b) (K (.v (.int .i64 (a - b))))
  | .mul=>EvRng (a * b) (K (.v (.int .i64 (a * b))))
  | .quo=>EvDiv b (EvRng (a.tdiv b) (K (.v (.int .i64 (a.tdiv b)))))
  | .rem=>EvDiv b (K (.v (.int .i64 (a.tmod b))))
  | .or=>K (.v (.int .i64 (IntKind.wrap .i64 ((BitVec.ofInt 64 a ||| BitVec.ofInt 64 b).toNat:Nat))))
  | .and=>K (.v (.int .i64 (IntKind.wrap .i64 ((BitVec.ofInt 64 a &&& BitVec.ofInt 64 b).toNat:Nat))))
  | .eql=>K (.v (.bool (a==b)))
  | .neq=>K (.v (.bool (a != b)))
  | .lss=>K (.v (.bool (decide (a < b))))
  | .leq=>K (.v (.bool (decide (a<=b))))
  | .gtr=>K (.v (.bool (decide (a > b))))
  | .geq=>K (.v (.bool (decide (a >= b))))
  | _=>False
 | .v (.int .i64 a),.v (.int .u64 b)=>match op with
  | .shr=>Zdn b (K (.v (.int .i64 (a.fdiv (2 ^ min b.toNat 64)))))
  | _=>False
 | .v (.int .u8 a),.v (.int .u8 b)=>match op with
  | .eql=>K (.v (.bool (a==b)))
  | .neq=>K (.v (.bool (a != b)))
  | .lss=>K (.v (.bool (decide (a < b))))
  | .leq=>K (.v (.bool (decide (a<=b))))
  | .gtr=>K (.v (.bool (decide (a > b))))
  | .geq=>K (.v (.bool (decide (a >= b))))
  | _=>False
 | .v (.int .u64 a),.v (.int .u64 b)=>match op with
  | .shr=>Zdn b (K (.v (.int .u64 (a.fdiv (2 ^ min b.toNat 64)))))
  | .shl=>Zdn b (K (.v (.int .u64 (IntKind.wrap .u64 (a * 2 ^ min b.toNat 64)))))
  | .add=>K (.v (.int .u64 (IntKind.wrap .u64 (a+b))))
  | .mul=>K (.v (.int .u64 (IntKind.wrap .u64 (a * b))))
  | .rem=>EvDiv b (K (.v (.int .u64 (a.tmod b))))
  | .or=>K (.v (.int .u64 (IntKind.wrap .u64 ((BitVec.ofInt 64 a ||| BitVec.ofInt 64 b).toNat:Nat))))
  | .and=>K (.v (.int .u64 (IntKind.wrap .u64 ((BitVec.ofInt 64 a &&& BitVec.ofInt 64 b).toNat:Nat))))
  | .eql=>K (.v (.bool (a==b)))
  | .neq=>K (.v (.bool (a != b)))
  | .lss=>K (.v (.bool (decide (a < b))))
  | .leq=>K (.v (.bool (decide (a<=b))))
  | .gtr=>K (.v (.bool (decide (a > b))))
  | .geq=>K (.v (.bool (decide (a >= b))))
  | _=>False
 | .v (.int .u64 a),.v (.int _ b)=>match op with
  | .shr=>Zdn b (K (.v (.int .u64 (a.fdiv (2 ^ min b.toNat 64)))))
  | _=>False
 | .v (.string a),.v (.string b)=>match op with
  | .add=>EvRng ((a.size+b.size:Nat):Int) (K (.v (.string (a++b))))
  | .eql=>K (.v (.bool (a.toList==b.toList)))
  | .neq=>K (.v (.bool (!(a.toList==b.toList))))
  | .lss=>K (.v (.bool (Op.bytesLess a.toList b.toList)))
  | .leq=>K (.v (.bool (Op.bytesLess a.toList b.toList||a.toList==b.toList)))
  | .gtr=>K (.v (.bool (!(Op.bytesLess a.toList b.toList||a.toList==b.toList))))
  | .geq=>K (.v (.bool (!Op.bytesLess a.toList b.toList)))
  | _=>False
 | .agg l,.agg m=>match op with
  | .eql=>EvEq P ty l m λb=>K (.v (.bool b))
  | .neq=>EvEq P ty l m λb=>K (.v (.bool (!b)))
  | _=>False
 | .v (.int .i32 a),.v (.int .i32 b)=>match op with
  | .sub=>K (.v (.int .i32 (IntKind.wrap .i32 (a - b))))
  | .eql=>K (.v (.bool (a==b)))
  | .neq=>K (.v (.bool (a != b)))
  | .lss=>K (.v (.bool (decide (a < b))))
  | .leq=>K (.v (.bool (decide (a<=b))))
  | .gtr=>K (.v (.bool (decide (a > b))))
  | .geq=>K (.v (.bool (decide (a >= b))))
  | _=>False
 | .ptr _ _,.v (.pointer none)=>Zar tt ty op false K
 | .v (.pointer none),.ptr _ _=>Zar tt ty op false K
 | .v (.pointer none),.v (.pointer none)=>Zar tt ty op true K
 | x,y=>match Py tt ty with
  | .bool=>Z3o x λa=>Z3o y λb=>match op with
   | .eql=>K (.v (.bool (a==b)))
   | .neq=>K (.v (.bool (!(a==b))))
   | _=>False
  | _=>False
def Zdy (x:G)(K:G->Prop):Prop:=match x with
 | .tt=>K .ff
 | .ff=>K .tt
 | .v (.bool b)=>K (.v (.bool (!b)))
 | _=>False
abbrev Imm:=Nat->Nat->Option Value
inductive VRep (I:Imm):G->Value->Prop
 | v (x:Value):VRep I (.v x) x
 | tt:VRep I .tt (.bool true)
 | ff:VRep I .ff (.bool false)
 | un:VRep I .un undef
 | nl:VRep I .nl (.slice none 0 0)
 | agg (l:List G) (cs:List Value) (hl:l.length=cs.length) (h:∀(j:Nat) g u,l[j]?=some g->cs[j]?=some u->VRep I g u):VRep I (.agg l) (.agg cs.toArray)
 | sl (l:List (List G)) (A:Option Addr) (c sz:Nat) (u:Nat->Nat->Value) (hc:l.length<=c) (hA:A=none->c=0) (hz:∀r∈l,r.length=sz)
   (h:∀(i:Nat) r,l[i]?=some r->∃b o,A=some ⟨b,o,none⟩/\∀j,j < sz->I b (o+i * sz+j)=some (u i j))
   (hu:∀(i:Nat) r (j:Nat) g,l[i]?=some r->r[j]?=some g->VRep I g (u i j)):VRep I (.sl l) (.slice A l.length c)
structure Va where
 n:Nat
 b:Nat->Nat
 s:Nat->Value
 f:Nat->Nat->Prop
def PW (P:G->Value->Prop)(l:List G)(cs:List Value):Prop:=l.length=cs.length/\∀(j:Nat) g u,l[j]?=some g->cs[j]?=some u->P g u
def Kv (sz:Nat)(v:Value)(lo b:Nat):Value:=match v with
 | .slice a _ c=>.slice (if c=lo then a else a.map (·.add (lo * sz))) (b - lo) (c - lo)
 | _=>undef
def Mz:Value->Nat
 | .slice _ n _=>n
 | _=>0
def CRep (I:Imm)(V:Va):G->Value->Prop
 | .ptr k off,x=>k < V.n/\x=.pointer (some ⟨V.b k,off,none⟩)
 | .osl k,x=>k < V.n/\x=V.s k
 | .osv k sz lo hi,x=>k < V.n/\(lo<=hi/\hi<=Mz (V.s k))/\x=Kv sz (V.s k) lo hi
 | .mp k,x=>k < V.n/\x=.map (some (V.b k))
 | .clo _ _ _,_=>False
 | .oag _,_=>False
 | .elp _ _,_=>False
 | .oel _ _ _ _,_=>False
 | .orv _ _ _ _ _ _,_=>False
 | .tup _,_=>False
 | g,x=>VRep I g x
def OrB (V:Va)(k sz b q:Nat):Prop:=match sz with
 | 0=>b=V.b k/\q=0
 | _+1=>∃n c,V.s k=.slice (some ⟨b,q,none⟩) n c
def TRep1 (I:Imm)(V:Va):G->Value->Prop
 | .oag l,x=>∃cs:List Value,x=.agg cs.toArray/\PW (CRep I V) l cs
 | .elp row off,x=>∃b o,x=.pointer (some ⟨b,o+off,none⟩)/\∀(j:Nat) g,row[j]?=some g->∃u,I b (o+j)=some u/\VRep I g u
 | .oel k i sz off,x=>k < V.n/\∃b q n c,V.s k=.slice (some ⟨b,q,none⟩) n c/\x=.pointer (some ⟨b,q+(i * sz+off),none⟩)
 | .orv k i sz off len cap,x=>k < V.n/\∃b q,OrB V k sz b q/\x=.slice (some ⟨b,q+(i * sz+off),none⟩) len cap
 | .clo f a c,x=>(∃g,(g∈a\/g∈c)/\Cd g=false)/\∃h cs:List Value,x=.func (.func f) h.toArray cs.toArray/\PW (CRep I V) a h/\PW (CRep I V) c cs
 | g,x=>CRep I V g x
def TRep (I:Imm)(V:Va):G->Value->Prop
 | .tup l,x=>∃cs:List Value,x=.tuple cs.toArray/\PW (TRep1 I V) l cs
 | g,x=>TRep1 I V g x
def PRep (I:Imm)(V:Va):G->Value->Prop
 | .ptr k o,x=>CRep I V (.ptr k o) x
 | .osl k,x=>CRep I V (.osl k) x
 | .osv k sz lo hi,x=>CRep I V (.osv k sz lo hi) x
 | .oel k i sz o,x=>TRep1 I V (.oel k i sz o) x
 | .mp k,x=>CRep I V (.mp k) x
 | .clo f a c,x=>TRep1 I V (.clo f a c) x
 | .oag l,x=>(∃g∈l,Cd g=false)/\TRep1 I V (.oag l) x
 | g,x=>VRep I g x
def PRe1 (I:Imm)(V:Va):G->Value->Prop
 | .oag l,x=>TRep1 I V (.oag l) x
 | g,x=>PRep I V g x
def PRes (I:Imm)(V:Va):G->Value->Prop
 | .tup l,x=>∃cs:List Value,x=.tuple cs.toArray/\PW (PRe1 I V) l cs
 | g,x=>PRe1 I V g x
def Loc (p:Ob):Prop:=∀(I I':Imm) b S w w',p I b S w->(∀b o x,I b o=some x->I' b o=some x)->w'.os=w.os->w.heap.size<=w'.heap.size->(∀k,S k->w'.heap[k]?=w.heap[k]?)->p I' b S w'
def Al {κ:Type}(I:Imm):List (κ × G)->List (κ × Value)->Prop
 | [],[]=>True
 | p::l,q::L=>q.1=p.1/\VRep I p.2 q.2/\Al I l L
 | _,_=>False
def MapR {κ:Type}(I:Imm)(w:World)(m:Nat)(b:κ->Value)(l:List (κ × G)):Prop:=∃L:List (κ × Value),MapB w m b id L/\Al I l L
def Ep (w:World)(e:TypeId)(sz:Nat)(v:Value)(n:Nat)(xs:List Value):Prop :=
 xs.length=n * sz/\((v=.slice none 0 0/\n=0)\/∃g q cap b,v=.slice (some ⟨g,q,none⟩) n cap/\w.heap[g]?=some (.cells b e (0,0))/\n<=cap/\cap<=maxLen/\q+cap * sz<=b.size/\(b.toList.drop q).take (n * sz)=xs)
def RRep (I:Imm)(V:Va)(k:Nat)(w:World):R->Prop
 | .blk cs t=>(∀b,V.f k b↔b=V.b k)/\∃A:List Value,w.heap[V.b k]?=some (.cells A.toArray t (0,0))/\PW (CRep I V) cs A
 | .slc h e sz=>(∀b,V.f k b↔(V.s k).ownBlock=some b)/\∃rs:List (List Value),w.ownsRow 0 e sz (V.s k) h.length rs.flatten/\rs.length=h.length/\(∀(i:Nat) r u,h[i]?=some r->rs[i]?=some u->PW (VRep I) r u)/\(∀u∈rs,u.length=sz)/\(∀u∈rs,∀x∈u,x.oneCell'=true)/\0 < sz
 | .vw h e sz=>(∀b,V.f k b↔(V.s k).ownBlock=some b)/\∃rs:List (List Value),Ep w e sz (V.s k) h.length rs.flatten/\rs.length=h.length/\(∀(i:Nat) r u,h[i]?=some r->rs[i]?=some u->PW (VRep I) r u)/\(∀u∈rs,u.length=sz)/\(∀u∈rs,∀x∈u,x.oneCell'=true)/\0 < sz
 | .froz h sz=>(∀b,¬V.f k b)/\VRep I (.sl h) (V.s k)/\∀r∈h,r.length=sz
 | .gone=>∀b,¬V.f k b
 | .mpI l=>(∀b,V.f k b↔b=V.b k)/\MapR I w (V.b k) Aw l
 | .mpS l=>(∀b,V.f k b↔b=V.b k)/\MapR I w (V.b k) Ci l
 | .sit s pos=>(∀b,V.f k b↔b=V.b k)/\w.heap[V.b k]?=some (.stringIter s pos)
 | .mpX l m ob=>(∀b,V.f k b↔b=V.b k)/\V.b k=m/\w.heap[m]?=some ob/\MapR I w m Ci l
 | .mit _ l D last m ob=>(∀b,V.f k b↔b=V.b k)/\∃(it:Obj) (L:List (ByteArray × Value)),w.heap[V.b k]?=some it/\Al I l L/\∀w':World,w'.heap[m]?=some ob->w'.heap[V.b k]?=some it->RanB w' (V.b k) m Ci id L D/\∀z,last=some z->∃v,VRep I z.2 v/\∀P:Program,(Instr.entry (.pointer (some ⟨V.b k,0,none⟩))).run P w'=.ok (.tuple #[.string z.1,v]) w'
 | .abs p=>Loc p/\p I (V.b k) (V.f k) w
 | .lnk j=>(∀b,¬V.f k b)/\j < V.n/\∃m,V.s j=.slice (some ⟨V.b k,0,none⟩) m m
 | .adr k' b=>(∀c,¬V.f k c)/\k' < V.n/\V.b k'=b
 | .fam q=>(∀p∈q,Loc p)/\∃F:Nat->Nat->Prop,(∀c,V.f k c↔∃i,i < q.length/\F i c)/\(∀i j c,i < q.length->j < q.length->F i c->F j c->i=j)/\∀(i:Nat) p,q[i]?=some p->∃b,p I b (F i) w
def Mem (I:Imm)(w:World):Prop:=∀b o x,I b o=some x->w.cell? ⟨b,o,none⟩=some x
structure Has (I:Imm)(V:Va)(own:Os)(w:World):Prop where
 mem:Mem I w
 num:∀k r,look k own=some r->k < V.n
 each:∀k r,look k own=some r->RRep I V k w r
 foot:∀k r b,look k own=some r->V.f k b->b < w.heap.size/\∀o,I b o=none
 disj:∀k k' r r' b,look k own=some r->look k' own=some r'->V.f k b->V.f k' b->k=k'
def Va.le (V V':Va):Prop:=V.n<=V'.n/\∀k,k < V.n->V'.b k=V.b k/\V'.s k=V.s k
structure Fro (own:Os)(I:Imm)(V:Va)(w:World)(own':Os)(I':Imm)(V':Va)(w':World):Prop where
 os:w'.os=w.os
 tape:w'.tape=w.tape
 output:w'.output=w.output
 size:w.heap.size<=w'.heap.size
 blk:∀b,b < w.heap.size->(∀k r,look k own=some r->¬V.f k b)->w'.heap[b]?=w.heap[b]?/\∀o,I' b o=I b o
 mono:∀b o x,I b o=some x->I' b o=some x
 foot:∀k r b,look k own'=some r->V'.f k b->b < w.heap.size->∃j r',look j own=some r'/\V.f j b
structure Obs (I:Imm)(V:Va)(O:Os)(w:World):Prop where
 num:∀k r,look k O=some r->k < V.n
 each:∀k r,look k O=some r->RRep I V k w r
 lt:∀k r b,look k O=some r->V.f k b->b < w.heap.size
 disj:∀k k' r r' b,look k O=some r->look k' O=some r'->V.f k b->V.f k' b->k=k'
def cl (O:Os):Ob:=λI b S w=>∃V:Va,V.b 0=b/\Obs I V O w/\∀c,S c↔∃k r,look k O=some r/\V.f k c
def leI (m:List (Nat × Nat))(w:Os)(n:Nat):Os->Prop
 | []=>True
 | (k,r)::l=>(Nat.blt k n=true/\Z0u n r=true/\look ((look k m).getD k) w=some (Lc m r))/\leI m w n l
def Rw:List Nat->Bool
 | []=>true
 | k::l=>bif Fn k l then false else Rw l
def Ze2 (b:Nat):G->Bool
 | .osl k | .osv k _ _ _ | .oel k _ _ _=>Nat.ble b k
 | _=>true
def Dk (w:Os):G->G
 | .osl j=>match look j w with
  | some (.froz rows _)=>.sl rows
  | _=>.osl j
 | .osv j sz lo hi=>match look j w with
  | some (.froz rows sz')=>match Nat.beq sz sz' with
   | true=>.sl (Fo rows lo hi)
   | false=>.osv j sz lo hi
  | _=>.osv j sz lo hi
 | .tt=>.v (.bool true)
 | .ff=>.v (.bool false)
 | g=>g
inductive Gh (K:Os->Nat->Prop):Os->Nat->Prop
 | done {w:Os} {n:Nat} (h:K w n):Gh K w n
 | adr {w:Os} {n:Nat} (k:Nat) (r:R) (hk:look k w=some r) (h:∀b,Gh K ((n,.adr k b)::w) (n+1)):Gh K w n
 | frz {w:Os} {n:Nat} (k:Nat) (rows:List (List G)) (e sz:Nat) (hk:look k w=some (.slc rows e sz)) (h:Gh K ((k,.froz rows sz)::w) n):Gh K w n
 | seen {w:Os} {n:Nat} (k:Nat) (cs:List G) (ty:Nat) (hk:look k w=some (.blk cs ty)) (h:Gh K ((k,.blk (cs.map (Dk w)) ty)::w) n):Gh K w n
def Ent (P:Program)(f:FuncId):Prop:=∃fn,P.funcs[f]?=some fn/\(fn.name=="runtime.NumGoroutine")=false/\fn.body.isNone=false
def VR (I:Imm):G->Value->Prop
 | .tup l,x=>∃cs:List Value,x=.tuple cs.toArray/\PW (VRep I) l cs
 | g,x=>VRep I g x
def FnV (P:Program)(f:FuncId)(gs:List G)(Q:G->Prop):Prop :=
 Ent P f/\∀I w vs,Mem I w->PW (VRep I) gs vs->Calls P f vs.toArray w λe w' =>
  ∃x g I',e=.returned x/\Q g/\Mem I' w'/\VR I' g x/\(∀b o x,I b o=some x->I' b o=some x)/\(∀b o,b < w.heap.size->I' b o=I b o)/\Below w.heap.size w w'
def FnO (P:Program)(f:FuncId)(gs:List G)(rs:List R)(Q:G->List R->Prop):Prop :=
 Ent P f/\∀I V w vs,Has I V (Ev rs 0) w->V.n=rs.length->PW (PRep I V) gs vs->Calls P f vs.toArray w λe w' =>
  ∃x g b I' V',e=.returned x/\Q g b/\V'.n=b.length/\Has I' V' (Ev b 0) w'/\PRes I' V' g x/\Fro (Ev rs 0) I V w (Ev b 0) I' V' w'/\V.le V'
def Zg9:G->Bool
 | .v (.pointer (some _))=>true
 | _=>false
def Vo {α:Type}(own:Os):Os->List Nat->(List Nat->α)->α
 | [],r,K=>K r
 | (k,_)::l,r,K=>match look k own with
  | some (.fam _)=>Hl k r λr=>Vo own l r K
  | _=>Vo own l r K
def Mv {α:Type}(p:α->Bool):List α->Bool
 | []=>false
 | g::l=>bif p g then true else Mv p l
def Zfr (vs:Bool)(gs:List G)(ks:List Nat):Bool:=match Mv Zg9 gs,vs,ks with
 | true,_,_=>true
 | false,true,_::_=>true
 | _,_,_=>false
def Z8q {α:Type}(vs:Bool)(gs:List G)(own:Os)(ks:List Nat)(K:List Nat->α):α:=match Zfr vs gs ks with
 | true=>Vo own own ks K
 | false=>K ks
inductive EvCall (A B C:Prop):Prop
 | pure (h:A)
 | lend (h:B)
 | gh (h:C)
def Y3:List G->Option (List Value)
 | []=>some []
 | .v x::l=>match Y3 l with
  | some cs=>some (x::cs)
  | none=>none
 | _=>none
def Z94:G->Option Value
 | .v x=>some x
 | .agg l=>match Y3 l with
  | some cs=>some (.agg cs.toArray)
  | none=>none
 | _=>none
structure Zbf (P:Program)(f:FuncId)(gs:List G)(K:G->Prop):Prop where
 run:∃g x,Z94 g=some x/\FnV P f gs (λq=>q=g)/\K g
inductive Mo where
 | row
 | quiet (l:List Nat)
 | late
 | vs (l:List Nat)
 | new
def Mo.xl:Mo->List Nat
 | .quiet l=>l
 | _=>[]
def Mo.loose:Mo->Bool
 | .row=>true
 | .late=>true
 | _=>false
def Mo.isVs:Mo->Bool
 | .vs _=>true
 | _=>false
def Mo.lends:Mo->List Nat->Bool
 | .row,_=>true
 | .late,_=>true
 | .vs l,ks=>Bw (λk=>Fn k l) ks
 | _,[]=>true
 | _,_=>false
def Q7:G->Bool
 | .oag l=>Bw Cd l
 | .clo _ _ _=>false
 | .tup _=>false
 | g=>Cd g
def Z76:G->Bool
 | .tup l=>Bw Q7 l
 | g=>Q7 g
def L0 (m:List (Nat × Nat)):List R->List Nat->Os->Nat->(Os->Nat->Prop)->Prop
 | [],_,own,n,K=>K own n
 | r::rs,k::ks,own,n,K=>match Lp r with
  | true=>L0 m rs ks ((k,r)::own) n K
  | false=>L0 m rs ks ((k,Lc m r)::own) n K
 | r::rs,[],own,n,K=>match Lp r with
  | true=>L0 m rs [] ((n,r)::own) (n+1) K
  | false=>L0 m rs [] ((n,Lc m r)::own) (n+1) K
def Z1b (ks:List Nat)(own:Os)(n:Nat)(g:G)(rs:List R)(K:G->Os->Nat->Prop):Prop:=match Z76 g with
 | true=>L0 (Rx ks n rs 0) rs ks own n λown n=>K g own n
 | false=>L0 (Rx ks n rs 0) rs ks own n λown' b=>K (Q1 (Rx ks n rs 0) g) own' b
def Z27 (P:Program)(f:FuncId)(mo:Mo)(gs:List G)(own:Os)(n:Nat)(B C:Prop)(K:G->Os->Nat->Prop):Prop :=
 gkL gs [] λks=>Z8q mo.isVs gs own ks λks=>trK own 3 ks λks=>match mo.lends ks with
  | true=>match ks with
   | []=>EvCall (FnO P f gs [] λg rs=>Z1b [] own n g rs K) B C
   | k::ks=>rsK own (k::ks) (k::ks) λrs=>EvCall (FnO P f (gs.map (Q1 (Ii (k::ks) 0))) rs λg rs=>Z1b (k::ks) own n g rs K) B C
  | false=>False
def G.lent:G->Bool
 | .oag l=>Mv (λg=>match Cd g with | true=>false | false=>true) l
 | .tup _ | .elp _ _ | .orv _ _ _ _ _ _=>false
 | _=>true
def G.isOrv:G->Bool
 | .orv _ _ _ _ _ _=>true
 | _=>false
def G.isMp:G->Bool
 | .mp _=>true
 | _=>false
def lendK (P:Program)(f:FuncId)(mo:Mo)(gs:List G)(own:Os)(n:Nat)(C:Prop)(K:G->Os->Nat->Prop):Prop:=match Bw G.lent gs with
 | true=>Z27 P f mo (gs.map Z2q) own n False C K
 | false=>False
def Zen (w:Os):G->G
 | .osl k=>Dk w (.osl k)
 | .osv k sz lo hi=>Dk w (.osv k sz lo hi)
 | .oag l=>match Bw G.pure (l.map (Dk w)) with
  | true=>.agg (l.map (Dk w))
  | false=>.oag l
 | g=>g
inductive Z6l (P:Program)(f:FuncId)(own:Os)(n:Nat)(K:G->Os->Nat->Prop):List G->Prop
 | same {gs:List G} (h:lendK P f .row gs own n False λg own n=>Gh (K g) own n):Z6l P f own n K gs
 | see {gs:List G} (h:Z6l P f own n K (gs.map (Zen own))):Z6l P f own n K gs
 | rawA {p q gs:List G} {b off:Nat} (j k:Nat) (hj:look j own=some (.adr k b)) (h:Z6l P f own n K (.oag (p++.ptr k off::q)::gs)):Z6l P f own n K (.agg (p++.v (.pointer (some ⟨b,off,none⟩))::q)::gs)
def ghK (P:Program)(f:FuncId)(mo:Mo)(gs:List G)(own:Os)(n:Nat)(K:G->Os->Nat->Prop):Prop:=match mo with
 | .row=>Gh (λown n=>Z6l P f own n K gs) own n
 | .late=>Gh (λown n=>Z6l P f own n K gs) own n
 | _=>False
def Oc (P:Program)(f:FuncId)(mo:Mo)(gs a c:List G)(own:Os)(n:Nat)(K:G->Os->Nat->Prop):Prop:=match Mv G.isOrv gs with
 | true=>ghK P f mo (a++(gs++c)) own n K
 | false=>match Mv G.isMp gs with
  | true=>lendK P f mo (a++(gs++c)) own n (ghK P f mo (a++(gs++c)) own n K) K
  | false=>Zdo (a++(gs++c)) own λb own'=>Z27 P f mo b own' n (lendK P f mo (a++(gs++c)) own n False K) (ghK P f mo (a++(gs++c)) own n K) K
def Z9t (tt:List (Nat × TI))(mo:Mo)(ty:TypeId)(sz:Nat):Bool:=match mo,Py tt ty with
 | .new,.fn=>Nat.beq sz 1
 | _,_=>false
def Zaw (b:Bool)(own:Os)(n:Nat)(K:G->Os->Prop):Prop:=match b with
 | true=>Z4g own (.osl n) K
 | false=>K (.osl n) own
section
variable (P:Program) (tt:List (Nat × TI))
def bsK (t:Ts)(sz:Nat):List (Nat × Operand)->Nat->Os->(List (List G)->Os->Prop)->Prop
 | [],_,w,K=>K [] w
 | (j,x)::ps,i,w,K=>match Nat.beq j i with
  | true=>ev t w x λg=>G5 w g λcs=>match Ty sz with
   | false=>Zaj cs w λc w'=>match Nat.beq c.length sz,Bw G.one c with
    | true,true=>bsK t sz ps (i+1) w' λb w''=>K (c::b) w''
    | _,_=>False
   | true=>Es (cs.length=sz/\∀g∈cs,O3 g=true) (bsK t sz ps (i+1) w λb w''=>K (cs::b) w'')
  | false=>False
def evO (t:Ts)(w:Os)(x:Option Operand)(d:Int)(K:Int->Prop):Prop:=match x with
 | none=>K d
 | some x=>ev t w x λq=>match q with
  | .v (.int .i64 n)=>K n
  | _=>False
def Zdr (t:Ts)(w:Os)(m:Nat)(lo b:Option Operand)(j:Nat)(K:G->Prop):Prop:=match lo,b with
 | none,none=>K (.osl j)
 | lo,b=>evO t w lo 0 λl=>evO t w b m λh=>Z0n l h m (K (.osv j 1 l.toNat h.toNat))
def Zep (m:Nat)(cs:List G)(A:Prop):Prop:=match Ty m with
 | false=>match Nat.beq cs.length m,Bw O3 cs with
  | true,true=>A
  | _,_=>False
 | true=>Es (cs.length=m/\∀g∈cs,O3 g=true) A
def Z61 (t:Ts)(w:Os)(n ty m:Nat)(lo b:Option Operand)(g:G)(K:G->Os->Nat->Prop):Prop:=match g with
 | .ptr k off=>match look k w with
  | some (.blk cs ty')=>match off,Nat.beq ty' ty,Nat.ble m 1048576 with
   | 0,true,true=>Zep m cs (Zdr t w m lo b n λg=>K g ((k,.lnk n)::(n,.slc (cs.map λg=>[g]) ty' 1)::(k,.gone)::w) (n+1))
   | _,_,_=>match lo,b with
    | none,none=>Es (off+m<=cs.length/\∀g∈cs,O3 g=true) (K (.sl (((cs.drop off).take m).map λg=>[g])) ((k,.gone)::w) n)
    | none,some x=>evO t w (some x) m λh=>Z0n 0 h m (K (.orv k 0 0 off h.toNat m) w n)
    | _,_=>False
  | some (.lnk j)=>match look j w,off with
   | some (.slc rows _ 1),0=>Es (rows.length=m) (Zdr t w m lo b j λg=>K g w n)
   | _,_=>False
  | _=>False
 | .oel k i sz off=>match look k w,lo with
  | some (.slc rows _ sz'),none=>match Nat.beq sz sz' with
   | true=>evO t w b m λh=>Z0n 0 h m (Es ((i < rows.length/\off+m<=sz)/\0 < sz) (K (.orv k i sz off h.toNat m) w n))
   | false=>False
  | _,_=>False
 | _=>False
def Z4h (t:Ts)(w:Os)(m:Nat)(lo b:Option Operand)(g:G)(K:G->Prop):Prop:=match g,lo,b with
 | .ptr k off,none,some x=>match look k w with
  | some (.blk _ _)=>evO t w (some x) m λh=>Z0n 0 h m (K (.orv k 0 0 off h.toNat m))
  | _=>False
 | _,_,_=>False
def slK (w:Os)(g:G)(sz:Nat)(lo b:(Int->Prop)->Int->Prop)(K:G->Prop):Prop:=match g with
 | .sl rows=>lo (λl=>b (λh=>Z0n l h rows.length (Zex rows sz (K (.sl (Fo rows l.toNat h.toNat))))) rows.length) 0
 | .osl k=>match look k w with
  | some (.slc rows _ sz')=>match Nat.beq sz sz' with
   | true=>lo (λl=>b (λh=>Z0n l h rows.length (K (.osv k sz l.toNat h.toNat))) rows.length) 0
   | false=>False
  | some (.vw rows _ sz')=>match Nat.beq sz sz' with
   | true=>lo (λl=>b (λh=>Z0n l h rows.length (K (.osv k sz l.toNat h.toNat))) rows.length) 0
   | false=>False
  | _=>False
 | _=>False
def Z7t (w:Os)(g:G)(sz:Nat)(h:Int)(K:G->Prop):Prop:=match g with
 | .osl k=>match look k w with
  | some (.vw rows _ sz')=>match Nat.beq sz sz' with
   | true=>Z0n 0 h rows.length (Es (rows≠[]) (K (.orv k 0 sz 0 h.toNat h.toNat)))
   | false=>False
  | _=>False
 | _=>False
def byK (o:Os)(g:G)(K:List (List G)->Prop):Prop:=match g with
 | .nl=>K []
 | .sl rows=>K rows
 | .osl k=>match look k o with
  | some (.slc rows _ 1)=>K rows
  | _=>False
 | _=>False
def cvK (w:Os)(g:G)(a b:TI)(u8:Bool)(K:G->Prop):Prop:=match a.elem,a.str,a.ik,b.str,b.ik with
 | some _,_,_,true,_=>match u8 with
  | true=>byK w g λc=>EvBytes c λh=>K (.v (.string ⟨h.toArray⟩))
  | false=>False
 | none,true,_,true,_=>match g with
  | .v (.string s)=>K (.v (.string s))
  | _=>False
 | none,false,some _,false,some k=>match g with
  | .v (.int _ n)=>match k with
   | .i64=>EvRng n (K (.v (.int .i64 n)))
   | .u8=>K (.v (.int .u8 (n % 256)))
   | .u64=>K (.v (.int .u64 (IntKind.wrap .u64 n)))
   | _=>False
  | _=>False
 | _,_,_,_,_=>False
def Zcu (e:TypeId):Bool:=match look e tt with
 | some ⟨_,_,_,_,_,some .u8,_⟩=>true
 | _=>false
def cvU (a:TI)(XL:List Nat):Bool:=match a.elem,XL with
 | some (e,_),[]=>Zcu tt e
 | _,_=>false
def Zed (n:Nat)(cs:List G)(A:Prop):Prop:=match Ty n with
 | false=>match Nat.beq cs.length n with
  | true=>A
  | false=>False
 | true=>Es (cs.length=n) A
def Zd3 (n:Nat)(w:Os)(cs:List G)(A:Prop):Prop:=match Ty n with
 | false=>match Bw (Zai w) cs,Nat.beq cs.length n,cs with
  | true,true,_::_=>A
  | _,_,_=>False
 | true=>Es (cs.length=n/\∀g∈cs,O3 g=true) A
def Zdv (n:Nat)(cs:List G)(A:Prop):Prop:=match Ty n with
 | false=>match Bw G.pure cs with
  | true=>A
  | false=>False
 | true=>A
def Zad (t:Ts)(w:Os)(b:List (TypeId × Nat)):List (Nat × Operand)->List G->(List G->Prop)->Prop
 | [],l,K=>K l
 | (i,x)::ps,l,K=>match nth b i with
  | none=>False
  | some (ft,fo)=>match look ft tt with
   | none=>False
   | some j=>ev t w x λg=>G5 w g λcs=>Zed j.zero.length cs (ovr j.zero.length l fo cs λc=>Zad t w b ps c K)
def Zaz (t:Ts)(w:Os)(n sz:Nat):List (Nat × Operand)->List G->(List G->Prop)->Prop
 | [],l,K=>K l
 | (i,x)::ps,l,K=>match Nat.blt i n,Nat.blt 0 sz with
  | true,true=>ev t w x λg=>G5 w g λcs=>Zed sz cs (ovr sz l (Nat.mul i sz) cs λb=>Zaz t w n sz ps b K)
  | _,_=>False
def To (i:TI)(K:G->Prop):Prop:=match i.agg with
 | true=>Hm 0 i.zero K
 | false=>match i.zero with
  | [g]=>K g
  | _=>False
def Zeq (n:Nat)(w:Os)(cs:List G)(K:List G->Prop):Prop:=match Ty n with
 | true=>K cs
 | false=>match cs with
  | [.ptr k off]=>Z9w k w w λb=>K [.v (.pointer (some ⟨b,off,none⟩))]
  | cs=>K (cs.map Z2q)
def Z9m (w:Os)(XL:List Nat)(g q:G)(str:Bool)(i:TI)(K:G->Bool->Prop):Prop:=match g with
 | .mp k=>match Fn k XL with
  | true=>False
  | false=>match look k w,str,q with
   | some (.mpS l),true,.v (.string s)=>Z1y (Az l s) (λg=>K g true) (To i λg=>K g false)
   | some (.mpI l),false,.v (.int .i64 n)=>Z1y (Az l n) (λg=>K g true) (To i λg=>K g false)
   | some (.mpX l _ _),true,.v (.string s)=>Z1y (Az l s) (λg=>K g true) (To i λg=>K g false)
   | _,_,_=>False
 | _=>False
def lkK (ok:Bool)(K:G->Prop)(g:G)(b:Bool):Prop:=match ok with
 | true=>K (.tup [g,bif b then .tt else .ff])
 | false=>K g
def Z3x (w:Os)(g q u:G)(str:Bool)(K:Os->Prop):Prop:=pur w u λu w=>match g with
 | .mp k=>match look k w,str,q with
  | some (.mpS l),true,.v (.string s)=>K ((k,.mpS (Gy l s u))::w)
  | some (.mpI l),false,.v (.int .i64 n)=>K ((k,.mpI (Gy l n u))::w)
  | _,_,_=>False
 | _=>False
def Zbu (q:G)(op:BinOp)(ty:TypeId):Bool:=match q,op,look ty tt with
 | .nl,.eql,some ⟨_,_,some _,_,_,_,_⟩=>true
 | _,_,_=>false
def Jk (mo:Mo)(o:Oper)(t:Ts)(w:Os)(n:Nat)(K:Ts->Os->Nat->Prop):Prop:=match o.op with
 | .move x=>ev t w x λg=>K (put o.dst g t) w n
 | .assign x=>match x with
  | .const (.slice none 0 0)=>match look o.type tt with
   | some ⟨_,_,some (e,sz),_,_,_,_⟩=>K (put o.dst (.osl n) t) ((n,.slc [] e sz)::w) (n+1)
   | _=>K (put o.dst .nl t) w n
  | x=>ev t w x λg=>K (put o.dst g t) w n
 | .pick c a b=>ev t w c λg=>match g with
  | .tt=>ev t w a λg=>K (put o.dst g t) w n
  | .ff=>ev t w b λg=>K (put o.dst g t) w n
  | .v (.bool c)=>EvIf c (ev t w a λg=>K (put o.dst g t) w n) (ev t w b λg=>K (put o.dst g t) w n)
  | _=>False
 | .alloc ty=>match look ty tt with
  | some i=>K (put o.dst (.ptr n 0) t) ((n,.blk i.zero ty)::w) (n+1)
  | none=>False
 | .box ty x=>ev t w x λg=>G5 w g λcs=>K (put o.dst (.ptr n 0) t) ((n,.blk cs ty)::w) (n+1)
 | .load ty x=>ev t w x λg=>match look ty tt with
  | none=>False
  | some i=>match g with
   | .ptr k off=>match look k w,Fn k mo.xl with
    | some (.blk cs _),false=>match i.agg with
     | true=>seg cs off i.zero.length λl=>Hm i.zero.length l λg=>K (put o.dst g t) w n
     | false=>match nth cs off with
      | some g=>K (put o.dst g t) w n
      | none=>False
    | some (.lnk j),false=>match look j w,Fn j mo.xl,i.agg with
     | some (.slc A _ 1),false,true=>Es (off+i.zero.length<=A.length/\∀r∈A,∀g∈r,g.pure=true) (K (put o.dst (.agg ((A.flatten.drop off).take i.zero.length)) t) w n)
     | _,_,_=>False
    | _,_=>False
   | .elp row off=>match i.agg with
     | true=>seg row off i.zero.length λl=>K (put o.dst (.agg l) t) w n
     | false=>match nth row off with
      | some g=>K (put o.dst g t) w n
      | none=>False
   | .oel k j sz off=>match look k w,Fn k mo.xl with
    | some (.slc A _ sz'),false=>match Nat.beq sz sz' with
     | true=>EvIdx A j λrow=>match i.agg with
      | true=>seg row off i.zero.length λl=>K (put o.dst (.agg l) t) w n
      | false=>match nth row off with
       | some g=>K (put o.dst g t) w n
       | none=>False
     | false=>False
    | some (.vw A _ sz'),false=>match Nat.beq sz sz' with
     | true=>EvIdx A j λrow=>match i.agg with
      | true=>seg row off i.zero.length λl=>K (put o.dst (.agg l) t) w n
      | false=>match nth row off with
       | some g=>K (put o.dst g t) w n
       | none=>False
     | false=>False
    | _,_=>False
   | _=>False
 | .store ty x y=>ev t w x λg=>ev t w y λu=>G5 w u λcs=>match look ty tt with
  | some i=>Zd3 i.zero.length w cs (match g with
   | .ptr k off=>match look k w with
    | some (.blk cells ty')=>ovr i.zero.length cells off cs λC=>K (put o.dst .un t) ((k,.blk C ty')::w) n
    | some (.lnk j)=>match mo.isVs,look j w,cs with
     | false,some (.slc A e 1),[c]=>Es (off < A.length/\O3 c=true) (K (put o.dst .un t) ((j,.slc (A.set off [c]) e 1)::w) n)
     | _,_,_=>False
    | _=>False
   | .oel k j sz off=>match look k w with
    | some (.slc A e sz')=>match Nat.beq sz sz' with
     | true=>Zeq i.zero.length w cs λcs=>Zdv i.zero.length cs (EvSet A j (λrow k=>ovr i.zero.length row off cs k) λB=>K (put o.dst .un t) ((k,.slc B e sz)::w) n)
     | _=>False
    | _=>False
   | _=>False)
  | none=>False
 | .fieldAddr ty x f=>ev t w x λg=>match look ty tt with
  | none=>False
  | some i=>match nth i.flds f with
   | none=>False
   | some (_,fo)=>match g with
    | .ptr k off=>K (put o.dst (.ptr k (Nat.add off fo)) t) w n
    | .elp row off=>K (put o.dst (.elp row (Nat.add off fo)) t) w n
    | .oel k j sz off=>K (put o.dst (.oel k j sz (Nat.add off fo)) t) w n
    | _=>False
 | .field ty x f=>ev t w x λg=>Zav g λcs=>match look ty tt with
  | none=>False
  | some i=>match nth i.flds f with
   | none=>False
   | some (ft,fo)=>match look ft tt with
    | none=>False
    | some j=>match j.agg with
     | true=>seg cs fo j.zero.length λl=>Hm j.zero.length l λg=>K (put o.dst g t) w n
     | false=>match nth cs fo with
      | some g=>K (put o.dst g t) w n
      | none=>False
 | .indexAddr ty x i=>ev t w x λg=>ev t w i λq=>match q,look ty tt with
  | .v (.int .i64 j),some ⟨_,_,some (_,sz),_,_,_,_⟩=>match g with
   | .sl A=>EvIdx A j λrow=>match Nat.beq row.length sz with
    | true=>K (put o.dst (.elp row 0) t) w n
    | false=>False
   | .osl k=>match look k w with
    | some (.slc A _ sz')=>match Nat.beq sz' sz with
     | true=>(0<=j/\j < A.length)/\K (put o.dst (.oel k j.toNat sz 0) t) w n
     | false=>False
    | some (.vw A _ sz')=>match Nat.beq sz' sz with
     | true=>(0<=j/\j < A.length)/\K (put o.dst (.oel k j.toNat sz 0) t) w n
     | false=>False
    | _=>False
   | .osv k sz0 lo hi=>match look k w with
    | some (.slc _ _ sz')=>match Nat.beq sz' sz,Nat.beq sz0 sz with
     | true,true=>(0<=j/\j < (hi - lo:Nat))/\K (put o.dst (.oel k (lo+j.toNat) sz 0) t) w n
     | _,_=>False
    | _=>False
   | .orv k 0 0 off len _=>(0<=j/\j < len)/\K (put o.dst (.ptr k (Nat.add off (Nat.mul j.toNat sz))) t) w n
   | _=>False
  | .v (.int .i64 j),some ⟨_,_,none,_,_,_,.arr m _ sz⟩=>match g with
   | .ptr k off=>(0<=j/\j < m)/\K (put o.dst (.ptr k (Nat.add off (Nat.mul j.toNat sz))) t) w n
   | .elp row off=>(0<=j/\j < m)/\K (put o.dst (.elp row (Nat.add off (Nat.mul j.toNat sz))) t) w n
   | _=>False
  | _,_=>False
 | .sliceToArrayPointer ty x=>match look ty tt with
  | some ⟨_,_,none,_,false,_,.arr m _ 1⟩=>ev t w x λg=>match g with
   | .sl A=>Zbw A m λl=>K (put o.dst (.elp l 0) t) w n
   | _=>False
  | _=>False
 | .index ty x i=>match look ty tt with
  | some ⟨_,_,_,_,true,_,_⟩=>ev t w x λg=>ev t w i λq=>match q,g with
   | .v (.int .i64 j),.v (.string s)=>EvIdx s.data.toList j λc=>K (put o.dst (.v (.int .u8 c.toNat)) t) w n
   | _,_=>False
  | some ⟨_,_,none,_,false,_,.arr m e sz⟩=>ev t w x λg=>Zav g λcs=>ev t w i λq=>match q,look e tt with
   | .v (.int .i64 j),some ti=>(0<=j/\j < m)/\match ti.agg with
    | true=>seg cs (Nat.mul j.toNat sz) ti.zero.length λl=>Hm ti.zero.length l λg=>K (put o.dst g t) w n
    | false=>match nth cs (Nat.mul j.toNat sz) with
     | some g=>K (put o.dst g t) w n
     | none=>False
   | _,_=>False
  | _=>False
 | .slice ty x lo hi mx=>match mx with
  | some m=>match lo,hi,look ty tt with
   | none,some h,some ⟨_,_,some (_,sz),_,_,_,_⟩=>ev t w x λg=>ev t w h λp=>ev t w m λq=>match p,q with
    | .v (.int .i64 a),.v (.int .i64 b)=>Es (a=b) (Z7t w g sz a λg=>K (put o.dst g t) w n)
    | _,_=>False
   | _,_,_=>False
  | none=>match look ty tt with
   | some ⟨_,_,none,_,true,_,_⟩=>ev t w x λg=>match g with
    | .v (.string s)=>evO t w lo 0 λl=>evO t w hi s.size λh=>Z0n l h s.size (K (put o.dst (.v (.string (s.extract l.toNat h.toNat))) t) w n)
    | _=>False
   | some ⟨_,_,some (_,sz),_,_,_,_⟩=>ev t w x λg=>slK w g sz (λK d=>evO t w lo d K) (λK d=>evO t w hi d K) λg=>K (put o.dst g t) w n
   | some ⟨_,_,none,_,false,_,.arr m _ 1⟩=>ev t w x λg=>Z61 t w n ty m lo hi g λg w n=>K (put o.dst g t) w n
   | some ⟨_,_,none,_,false,_,.arr m _ _⟩=>ev t w x λg=>Z4h t w m lo hi g λg=>K (put o.dst g t) w n
   | _=>False
 | .convert src dst x=>match look src tt,look dst tt with
  | some a,some b=>match a.str,b.elem with
   | true,some (e,_)=>match Zcu tt e with
    | true=>ev t w x λg=>match g with
     | .v (.string s)=>K (put o.dst (.sl (s.data.toList.map gBy)) t) w n
     | _=>False
    | false=>False
   | _,_=>ev t w x λg=>cvK w g a b (cvU tt a mo.xl) λg=>K (put o.dst g t) w n
  | _,_=>False
 | .binOp op ty x y _=>ev t w x λg=>ev t w y λq=>match Zbu tt q op ty with
  | true=>U9 w g λA=>Zbj A λb=>K (put o.dst (.v (.bool b)) t) w n
  | false=>Zdx P tt ty op g q λg=>K (put o.dst g t) w n
 | .unOp .not _ x=>ev t w x λg=>Zdy g λg=>K (put o.dst g t) w n
 | .extract x i=>ev t w x λg=>match g with
  | .tup l=>match nth l i with
   | some g=>K (put o.dst g t) w n
   | none=>False
  | _=>False
 | .build ty parts=>match look ty tt with
  | none=>False
  | some i=>match i.flds with
   | []=>match i.kd with
    | .arr m _ sz=>Zaz t w m sz parts.toList i.zero λl=>Hm (Nat.mul m sz) l λg=>K (put o.dst g t) w n
    | _=>False
   | f::fs=>Zad tt t w (f::fs) parts.toList i.zero λl=>Hm i.zero.length l λg=>K (put o.dst g t) w n
 | .buildSlice ty len parts=>match look ty tt with
  | some ⟨_,_,some (e,sz),_,_,_,_⟩=>match Nat.beq parts.toList.length len,Nat.ble (len * sz) 16777216 with
   | true,true=>bsK t sz parts.toList 0 w λA w'=>Zaw (Z9t tt mo ty sz) ((n,.slc A e sz)::w') n λg w''=>K (put o.dst g t) w'' (n+1)
   | _,_=>False
  | _=>False
 | .makeSlice ty len cap=>match look ty tt with
  | some ⟨_,_,some (e,sz),_,_,_,_⟩=>match look e tt with
   | some ⟨false,[z],_,_,_,_,_⟩=>match Nat.beq sz 1 with
    | true=>ev t w len λp=>ev t w cap λq=>match p,q with
     | .v (.int .i64 m),.v (.int .i64 c)=>(0<=m/\m<=1073741824/\c=m)/\K (put o.dst (.osl n) t) ((n,.slc (List.replicate m.toNat [z]) e 1)::w) (n+1)
     | _,_=>False
    | false=>False
   | some ⟨true,ze,_,_,_,_,_⟩=>match Nat.beq sz ze.length,Bw O3 ze with
    | true,true=>ev t w len λp=>ev t w cap λq=>match p,q with
     | .v (.int .i64 m),.v (.int .i64 c)=>(0<=m/\m<=1073741824/\c=m/\m * sz<=1073741824)/\K (put o.dst (.osl n) t) ((n,.slc (List.replicate m.toNat ze) e sz)::w) (n+1)
     | _,_=>False
    | _,_=>False
   | _=>False
  | _=>False
 | .call c=>match c.callee with
  | .builtin .len=>match c.args.toList,c.argTypes.toList with
   | [x],[ty]=>match look ty tt with
    | some ⟨_,_,none,_,true,_,_⟩=>ev t w x λg=>match g with
     | .v (.string s)=>K (put o.dst (.v (.int .i64 s.size)) t) w n
     | _=>False
    | some ⟨_,_,some _,_,_,_,_⟩=>ev t w x λg=>Zg2 w g λm=>K (put o.dst (.v (.int .i64 m)) t) w n
    | some ⟨_,_,none,_,false,_,.map _ _⟩=>ev t w x λg=>match g with
     | .mp k=>match look k w,Fn k mo.xl with
      | some (.mpS l),false=>K (put o.dst (.v (.int .i64 l.length)) t) w n
      | some (.mpI l),false=>K (put o.dst (.v (.int .i64 l.length)) t) w n
      | _,_=>False
     | _=>False
    | _=>False
   | _,_=>False
  | .builtin .max=>match c.args.toList with
   | [x,y]=>ev t w x λg=>ev t w y λq=>match g,q with
    | .v (.int .i64 a),.v (.int .i64 b)=>K (put o.dst (.v (.int .i64 (max a b))) t) w n
    | _,_=>False
   | _=>False
  | .builtin .min=>match c.args.toList with
   | [x,y]=>ev t w x λg=>ev t w y λq=>match g,q with
    | .v (.int .i64 a),.v (.int .i64 b)=>K (put o.dst (.v (.int .i64 (min a b))) t) w n
    | _,_=>False
   | _=>False
  | .builtin .append=>match c.args.toList,c.argTypes.toList with
   | [x,y],[ty,ty']=>match Nat.beq ty ty',look ty tt with
    | true,some ⟨_,_,some (e,sz),_,_,_,_⟩=>ev t w x λg=>ev t w y λq=>Z2p w q sz λnew=>Zd0 t w n o.dst g new e sz K
    | false,some ⟨_,_,some (e,sz),_,_,_,_⟩=>match Nat.beq sz 1,look ty' tt with
     | true,some ⟨_,_,_,_,true,_,_⟩=>ev t w x λg=>ev t w y λq=>Zbd q λs=>Z9a t w n o.dst g (s.data.toList.map gBy) e 1 K
     | _,_=>False
    | _,_=>False
   | _,_=>False
  | .builtin .copy=>match c.args.toList,c.argTypes.toList with
   | [x,y],[ty,_]=>match look ty tt with
    | some ⟨_,_,some (_,1),_,_,_,_⟩=>ev t w x λg=>ev t w y λq=>Z2p w q 1 λnew=>match g with
     | .osl k=>match look k w with
      | some (.slc A e 1)=>K (put o.dst (.v (.int .i64 (min new.length A.length:Nat))) t) ((k,.slc (new.take (min new.length A.length)++A.drop (min new.length A.length)) e 1)::w) n
      | _=>False
     | .osv k 1 lo hi=>match look k w with
      | some (.slc A e 1)=>K (put o.dst (.v (.int .i64 (min new.length (hi - lo):Nat))) t) ((k,.slc (A.take lo++new.take (min new.length (hi - lo))++A.drop (lo+min new.length (hi - lo))) e 1)::w) n
      | _=>False
     | .orv k i sz off len _=>match look k w with
      | some (.slc A e sz')=>match Nat.beq sz sz' with
       | true=>Es (off+len<=sz) (EvSet A i (λrow k=>k (row.take off++(new.take (min new.length len)).flatten++row.drop (off+min new.length len))) λB=>K (put o.dst (.v (.int .i64 (min new.length len:Nat))) t) ((k,.slc B e sz)::w) n)
       | false=>False
      | _=>False
     | _=>False
    | _=>False
   | _,_=>False
  | .value f=>match f with
   | .func f=>evs t w c.args.toList λgs=>Oc P f mo gs [] [] w n λg w n=>K (put o.dst g t) w n
   | .tmp d=>match look d t with
    | some (.clo f a b)=>evs t w c.args.toList λgs=>Oc P f mo gs a b w n λg w n=>K (put o.dst g t) w n
    | some (.v (.func (.func f) a b))=>match a.toList,b.toList with
     | [],[]=>evs t w c.args.toList λgs=>Oc P f mo gs [] [] w n λg w n=>K (put o.dst g t) w n
     | _,_=>False
    | _=>False
   | _=>False
  | _=>False
 | .makeFunc (.func f) a c=>evs t w a.toList λa=>evs t w c.toList λc=>match Bw G.cap a,Bw G.cap c with
  | true,true=>match Bw Cd a,Bw Cd c with
   | true,true=>match a,c with
    | [],[]=>K (put o.dst (.v (.func (.func f) #[] #[])) t) w n
    | _,_=>False
   | _,_=>K (put o.dst (.clo f a c) t) w n
  | _,_=>False
 | .makeMap ty none=>match Py tt ty with
  | .map true _=>K (put o.dst (.mp n) t) ((n,.mpS [])::w) (n+1)
  | .map false _=>K (put o.dst (.mp n) t) ((n,.mpI [])::w) (n+1)
  | _=>False
 | .lookup ty x i ok=>match Py tt ty with
  | .map str e=>match look e tt with
   | some ti=>ev t w x λg=>ev t w i λq=>Z9m w mo.xl g q str ti (lkK ok λg=>K (put o.dst g t) w n)
   | none=>False
  | _=>False
 | .mapUpdate ty m k x=>match Py tt ty with
  | .map str _=>ev t w m λg=>ev t w k λq=>ev t w x λu=>Z3x w g q u str λw=>K (put o.dst .un t) w n
  | _=>False
 | .insert ty m k x=>match Py tt ty with
  | .map str _=>ev t w m λg=>ev t w k λq=>ev t w x λu=>Z3x w g q u str λw=>K (put o.dst .un t) w n
  | _=>False
 | .nilCheck x=>ev t w x λg=>match g with
  | .ptr k off=>K (put o.dst (.ptr k off) t) w n
  | .clo f a c=>K (put o.dst (.clo f a c) t) w n
  | .v (.func (.func f) a c)=>K (put o.dst (.v (.func (.func f) a c)) t) w n
  | _=>False
 | _=>False
def sxG (mo:Mo)(ops:List Oper)(o:Oper)(t:Ts)(w:Os)(n:Nat)(K:Ts->Os->Nat->Prop):Prop:=match o.guard with
 | none=>Jk P tt mo o t w n K
 | some (j,want)=>match(nth ops j).bind (·.dst) with
  | none=>K (put o.dst .un t) w n
  | some d=>match look d t with
   | some .tt=>match want with
    | true=>Jk P tt mo o t w n K
    | false=>K (put o.dst .un t) w n
   | some .ff=>match want with
    | false=>Jk P tt mo o t w n K
    | true=>K (put o.dst .un t) w n
   | some .un=>K (put o.dst .un t) w n
   | some (.v (.bool b))=>match want with
    | true=>EvIf b (Jk P tt mo o ((d,.tt)::t) w n K) (K (put o.dst .un ((d,.ff)::t)) w n)
    | false=>EvIf b (K (put o.dst .un ((d,.tt)::t)) w n) (Jk P tt mo o ((d,.ff)::t) w n K)
   | _=>False
abbrev MO:=Ts->Os->Nat->(Ts->Os->Nat->Prop)->Prop
def Zg7 (ops:List Oper)(o:Oper)(_:List Oper)(b:MO):MO:=λt w n K=>sxG P tt .row ops o t w n λt w n=>b t w n K
def Zgt:MO:=λt w n K=>K t w n
def sxO (ops:List Oper)(l:List Oper):MO:=@List.rec Oper (λ_=>MO) Zgt (Zg7 P tt ops) l
def isQ (o:Oper):Bool:=match o.op with
 | .convert src dst _=>match look src tt,look dst tt with
  | some a,some b=>match a.str,b.elem with
   | true,some _=>false
   | _,_=>true
  | _,_=>true
 | .assign x=>match x with
  | .const (.slice none 0 0)=>false
  | _=>true
 | .move _ | .pick _ _ _ | .makeFunc _ _ _ | .lookup _ _ _ _ | .load _ _ | .nilCheck _ | .sliceToArrayPointer _ _ | .fieldAddr _ _ _ | .field _ _ _ | .indexAddr _ _ _ | .index _ _ _ | .binOp _ _ _ _ _ | .unOp _ _ _ | .extract _ _ | .build _ _=>true
 | .slice ty _ _ _ _=>match look ty tt with
  | some ⟨_,_,none,_,false,_,.arr _ _ _⟩=>false
  | _=>true
 | .call c=>match c.callee with
  | .builtin .len | .builtin .max | .builtin .min=>true
  | _=>false
 | _=>false
def Ze9 (ty:TypeId):Bool:=match Py tt ty with
 | .ptr | .fn | .map _ _=>true
 | _=>false
def Zgw:G->Bool
 | .v (.pointer none)=>true
 | _=>false
def Zfo:Nat->List G->Bool
 | 0,_=>false
 | _,[]=>false
 | n+1,g::l=>bif Zgw g then true else Zfo n l
def Zgg (ty:TypeId):Bool:=match Ze9 tt ty with
 | true=>true
 | false=>match look ty tt with
  | some ⟨true,z,_,_,_,_,_⟩=>Zfo 8 z
  | _=>false
def isL (o:Oper):Bool:=match o.op with
 | .store _ _ _ | .mapUpdate _ _ _ _ | .insert _ _ _ _ | .next _ _ | .entry _=>true
 | .call c=>match c.callee with
  | .builtin .append=>true
  | .builtin .copy=>true
  | .builtin .delete=>true
  | .value (.func _)=>Mv (Zgg tt) c.argTypes.toList
  | .value _=>true
  | _=>false
 | _=>false
def Zao (l:List Bool)(i:Nat):Bool:=match nth l i with
 | some b=>b
 | none=>false
def Wa:List Bool->Nat->List Bool
 | [],_=>[]
 | _::l,0=>true::l
 | b::l,i+1=>b::Wa l i
def Gp (l:List Bool):List Edge->Bool
 | []=>true
 | e::es=>bif (!Region.binds .any e||Zao l e.on) then Gp l es else false
def rdy (l:List Bool):List Oper->List Bool->Nat->List Nat
 | o::os,b::bs,i=>bif (!b&&Gp l o.after.toList) then i::rdy l os bs (i+1) else rdy l os bs (i+1)
 | _,_,_=>[]
def Lu (b:List Nat)(ops:List Oper):List Nat->Option Nat
 | []=>none
 | i::l=>match nth ops i with
  | some o=>bif isQ tt o&&!Fn i b then some i else Lu b ops l
  | none=>Lu b ops l
def Zda (o:Oper):Bool:=match o.op with
 | .buildSlice _ _ _=>true
 | _=>false
def isE (ops:List Oper)(o:Oper):Bool:=match o.op with
 | .call c=>match c.callee,c.args.toList with
  | .builtin .append,.tmp d::_=>Mv (λo=>match o.dst,Zda o with
   | some e,true=>Nat.beq d e
   | _,_=>false) ops
  | _,_=>false
 | _=>false
def Zgy (ops:List Oper):Bool:=Mv (isE ops) ops
def Zer (ty:TypeId):Bool:=match look ty tt with
 | some ⟨false,[_],none,_,_,_,.no⟩=>true
 | some ⟨false,[_],none,_,_,_,.bool⟩=>true
 | _=>false
def Z95 (o:Oper):Bool:=match o.guard,o.op with
 | none,.call c=>match c.callee with
  | .value (.func _)=>Bw (Zer tt) c.argTypes.toList
  | _=>false
 | _,_=>false
def Zeh:List Oper->Nat
 | []=>0
 | o::l=>bif Z95 tt o then Zeh l+1 else Zeh l
def Qi (ops:List Oper):List Nat->Option Nat
 | []=>none
 | i::l=>match nth ops i with
  | some o=>bif Z95 tt o then some i else Qi ops l
  | none=>Qi ops l
def Zcx (ops:List Oper)(rs:List Nat):Option Nat:=match Nat.ble 4 (Zeh tt ops) with
 | true=>Qi tt ops rs
 | false=>none
def Zf6 (f:Nat->Prop)(i:Nat)(l:List Nat)(b:Prop):Prop:=match l with
 | []=>f i
 | _::_=>f i/\b
def Zcj (f:Nat->Prop)(l:List Nat):Prop:=@List.rec Nat (λ_=>Prop) True (Zf6 f) l
def isR (o:Oper):Bool:=match o.op with
 | .load _ _ | .convert _ _ _ | .lookup _ _ _ _=>true
 | .call c=>match c.callee with
  | .builtin .len=>Mv (Ze9 tt) c.argTypes.toList
  | _=>false
 | _=>false
def noB:List Oper->List Bool
 | []=>[]
 | _::l=>false::noB l
def Ni {α:Type}:List Bool->Nat->(List Bool->α)->α
 | [],_,K=>K []
 | _::l,0,K=>K (true::l)
 | b::l,i+1,K=>Ni l i λr=>K (b::r)
def Xd {α:Type}:List Edge->List Bool->(List Bool->α)->α
 | [],m,K=>K m
 | e::es,m,K=>match Region.binds .any e with
  | true=>Ni m e.on λm=>Xd es m K
  | false=>Xd es m K
def Iv {α:Type}(ops:List Oper):Nat->List Bool->(List Bool->α)->α
 | 0,m,K=>K m
 | n+1,m,K=>match Zao m n with
  | true=>match nth ops n with
   | some o=>Xd o.after.toList m λm=>Iv ops n m K
   | none=>Iv ops n m K
  | false=>Iv ops n m K
def Zf3 (c:List Nat):List Oper->List Bool->Nat->Bool
 | o::l,b::m,i=>bif isR tt o&&(!b&&!Fn i c) then false else Zf3 c l m (i+1)
 | _,_,_=>true
def Ky {α:Type}(b:List Nat)(ops:List Oper):List Oper->Nat->(List Nat->α)->α
 | [],_,K=>K []
 | o::l,i,K=>match isL tt o with
  | true=>Ni (noB ops) i λm=>Iv ops (i+1) m λm=>match Zf3 tt b ops m 0 with
   | true=>Ky b ops l (i+1) λr=>K (i::r)
   | false=>Ky b ops l (i+1) K
  | false=>Ky b ops l (i+1) K
def Zf7:List Oper->Nat->Option Nat
 | [],_=>none
 | o::l,d=>match o.dst with
  | some e=>match Nat.beq e d with
   | true=>match o.op with
    | .fieldAddr _ (.tmp b) _=>some b
    | .move (.tmp b)=>some b
    | .nilCheck (.tmp b)=>some b
    | _=>none
   | false=>Zf7 l d
  | none=>Zf7 l d
def Z8i (ops:List Oper):Nat->Nat->Nat
 | 0,d=>d
 | n+1,d=>match Zf7 ops d with
  | some b=>Z8i ops n b
  | none=>d
def Zgl (ops:List Oper)(r:Nat)(o:Oper):Bool:=match o.op with
 | .call c=>match c.callee with
  | .value _=>Mv (λx=>match x with
   | .tmp a=>Nat.beq (Z8i ops 8 a) r
   | _=>false) c.args.toList
  | _=>false
 | _=>false
def Zeo (ops:List Oper)(i r:Nat):List Oper->Nat->Bool
 | [],_=>false
 | o::l,j=>match isL tt o&&Zgl ops r o with
  | true=>Ni (noB ops) j λm=>Iv ops (j+1) m λm=>match Zao m i with
   | true=>Zeo ops i r l (j+1)
   | false=>true
  | false=>Zeo ops i r l (j+1)
def Zdp (c:Bool):List Oper->Nat->Option Nat
 | [],_=>none
 | o::l,d=>match o.dst with
  | some e=>match Nat.beq e d with
   | true=>match o.op,c with
    | .indexAddr _ (.tmp b) _,false=>some b
    | .load _ (.tmp b),true=>some b
    | _,_=>none
   | false=>Zdp c l d
  | none=>Zdp c l d
def elS (ops:List Oper)(d:Nat):Nat:=match Zdp false ops d with
 | some b=>match Zdp true ops b with
  | some a=>a
  | none=>d
 | none=>d
def Zfv (ops:List Oper)(i:Nat)(o:Oper):Bool:=match o.op with
 | .load _ (.tmp d)=>match Zgy ops with
  | true=>true
  | false=>Zeo tt ops i (Z8i ops 8 (elS ops d)) ops 0
 | _=>false
def Z2n {α:Type}(ops:List Oper):List Oper->Nat->(List Nat->α)->α
 | [],_,K=>K []
 | o::l,i,K=>match Zfv tt ops i o with
  | true=>Z2n ops l (i+1) λr=>K (i::r)
  | false=>Z2n ops l (i+1) K
def Z5a:List Oper->Nat->Option Nat
 | [],_=>none
 | o::l,d=>match o.dst with
  | some e=>match Nat.beq e d with
   | true=>match o.op with
    | .fieldAddr _ (.tmp b) _=>some b
    | .indexAddr _ (.tmp b) _=>some b
    | .move (.tmp b)=>some b
    | .nilCheck (.tmp b)=>some b
    | _=>none
   | false=>Z5a l d
  | none=>Z5a l d
def Ln (t:Ts)(ops:List Oper):Nat->Nat->Option Nat
 | 0,_=>none
 | n+1,d=>match look d t with
  | some (.ptr k _)=>some k
  | some _=>none
  | none=>match Z5a ops d with
   | some b=>Ln t ops n b
   | none=>none
def vaC {α:Type}(g:G)(ks:List Nat)(K:List Nat->α):α:=match g with
 | .ptr k _=>Hl k ks K
 | _=>K ks
def Zds {α:Type}:List G->List Nat->(List Nat->α)->α
 | [],ks,K=>K ks
 | g::l,ks,K=>vaC g ks λks=>Zds l ks K
def va1 {α:Type}(g:G)(ks:List Nat)(K:List Nat->α):α:=match g with
 | .clo _ a c=>Zds a ks λks=>Zds c ks K
 | g=>vaC g ks K
def vaL {α:Type}(t:Ts)(ops:List Oper):List Operand->List Nat->(List Nat->α)->α
 | [],r,K=>K r
 | x::l,r,K=>match x with
  | .tmp d=>match look d t with
   | some g=>va1 g r λr=>vaL t ops l r K
   | none=>match Ln t ops 8 d with
    | some k=>Hl k r λr=>vaL t ops l r K
    | none=>vaL t ops l r K
  | _=>vaL t ops l r K
def Zn (t:Ts)(ops:List Oper):Nat->Nat->Option Nat
 | 0,_=>none
 | n+1,d=>match look d t with
  | some (.osl k)=>some k
  | some _=>none
  | none=>match Z5a ops d with
   | some b=>Zn t ops n b
   | none=>none
def vsS {α:Type}(t:Ts)(ops:List Oper):List Operand->List Nat->(List Nat->α)->α
 | [],r,K=>K r
 | .tmp d::l,r,K=>match Zn t ops 8 d with
  | some k=>Hl k r λr=>vsS t ops l r K
  | none=>vsS t ops l r K
 | _::l,r,K=>vsS t ops l r K
def Z3q {α:Type}(w:Os):List G->List Nat->(List Nat->α)->α
 | [],r,K=>K r
 | g::l,r,K=>match g with
  | .osl k=>match look k w with
   | some _=>Hl k r λr=>Z3q w l r K
   | none=>Z3q w l r K
  | _=>Z3q w l r K
def Zeg:List Oper->Nat->Option Nat
 | [],_=>none
 | o::l,d=>match o.dst with
  | some e=>match Nat.beq e d with
   | true=>match o.op with
    | .load _ (.tmp b)=>some b
    | _=>none
   | false=>Zeg l d
  | none=>Zeg l d
def ldS {α:Type}(t:Ts)(w:Os)(ops:List Oper)(x:Operand)(r:List Nat)(K:List Nat->α):α:=match x with
 | .tmp d=>match look d t with
  | some _=>K r
  | none=>match Zeg ops d with
   | some b=>match Ln t ops 8 b with
    | some k=>match look k w with
     | some (.blk cs _)=>Z3q w cs r K
     | _=>K r
    | none=>K r
   | none=>K r
 | _=>K r
def Zb5 (tt:List (Nat × TI))(ty:TypeId):Bool:=match Py tt ty with
 | .fn=>true
 | _=>false
def Zg4 {α:Type}(b:Bool)(t:Ts)(ops:List Oper)(l:List Operand)(r:List Nat)(K:List Nat->α):α:=match b with
 | true=>vsS t ops l r K
 | false=>K r
def Zcm {α:Type}:Os->List Nat->(List Nat->α)->α
 | [],r,K=>K r
 | (k,q)::l,r,K=>match q with
  | .abs _=>Hl k r λr=>Zcm l r K
  | .fam _=>Hl k r λr=>Zcm l r K
  | _=>Zcm l r K
def Zcb {α:Type}:Os->List Nat->(List Nat->α)->α
 | [],r,K=>K r
 | (k,q)::l,r,K=>match q with
  | .mpI _=>Hl k r λr=>Zcb l r K
  | .mpS _=>Hl k r λr=>Zcb l r K
  | _=>Zcb l r K
def Zaq (tt:List (Nat × TI))(ty:TypeId):Bool:=match Py tt ty with
 | .map _ _=>true
 | _=>false
def Ss {α:Type}(late:List Nat)(t:Ts)(w:Os)(ops:List Oper):List Oper->Nat->List Nat->(List Nat->α)->α
 | [],_,r,K=>K r
 | o::l,i,r,K=>match isL tt o&&!Fn i late,o.op with
  | true,.store _ (.tmp d) _=>match Ln t ops 8 d with
   | some k=>Hl k r λr=>Ss late t w ops l (i+1) r K
   | none=>Ss late t w ops l (i+1) r K
  | true,.call c=>match c.callee with
   | .value f=>vaL t ops (f::c.args.toList) r λr=>Zg4 (Mv (Zb5 tt) c.argTypes.toList) t ops c.args.toList r λr=>Zcm w r λr=>match Mv (Zaq tt) c.argTypes.toList with
    | true=>Zcb w r λr=>Ss late t w ops l (i+1) r K
    | false=>Ss late t w ops l (i+1) r K
   | .builtin .append=>match c.args.toList with
    | x::_=>vsS t ops [x] r λr=>ldS t w ops x r λr=>Ss late t w ops l (i+1) r K
    | _=>Ss late t w ops l (i+1) r K
   | _=>Ss late t w ops l (i+1) r K
  | _,_=>Ss late t w ops l (i+1) r K
def vsB (XL:List Nat)(t:Ts)(o:Oper):Bool:=match o.guard,o.op with
 | none,.store _ (.tmp d) _=>match look d t with
  | some (.ptr k _)=>Fn k XL
  | _=>false
 | none,.call c=>match c.callee with
  | .value _=>true
  | .builtin .append=>match c.args.toList with
   | .tmp d::_=>match look d t with
    | some (.osl k)=>Fn k XL
    | some .nl=>true
    | _=>false
   | _=>false
  | _=>false
 | _,_=>false
def vsG (XL:List Nat)(t:Ts)(o:Oper):Bool:=match o.guard with
 | none=>vsB XL t o
 | some _=>match o.op with
  | .call c=>match c.callee with
   | .value _=>true
   | _=>false
  | _=>false
def Zcv (w:Os)(XL:List Nat):Bool:=Bw (λk=>match look k w with | some _=>true | none=>false) XL
abbrev MD:=List Bool->Ts->Os->Nat->(Ts->Os->Nat->Prop)->Prop
def Zba {α:Type}:List Oper->List Nat->(List Nat->α)->α
 | [],r,K=>K r
 | o::l,r,K=>match o.dst with
  | some d=>Hl d r λr=>Zba l r K
  | none=>Zba l r K
def Z8p {α:Type}:Ts->List Nat->(List Nat->α)->α
 | [],r,K=>K r
 | (i,_)::l,r,K=>Hl i r λr=>Z8p l r K
def Zo (t:Ts):List Nat->Ts->(Ts->Prop)->Prop
 | [],acc,K=>K acc
 | i::l,acc,K=>match look i t with
  | some g=>Zo t l ((i,g)::acc) K
  | none=>Zo t l acc K
def Z54 (w:Os)(n:Nat):Os->(Os->Prop)->Prop:=@Nat.rec (λ_=>Os->(Os->Prop)->Prop) (λb K=>K b) (λi c b K=>match look i w with
 | some r=>c ((i,r)::b) K
 | none=>c b K) n
def brK (ops:List Oper)(t:Ts)(K:Ts->Os->Nat->Prop)(c:(Ts->Os->Nat->Prop)->Prop):List Nat->Prop
 | _::_::_=>Zba ops [] λL=>Z8p t L λL=>c λt w n=>Zo t L [] λt=>Z54 w n [] λw=>K t w n
 | _=>c K
def Zf5 (t:Ts)(w:Os):List Operand->(List G->Prop)->Prop
 | [],K=>K []
 | x::l,K=>ev t w x λg=>match Z94 (Z2q g) with
  | some _=>Zf5 t w l λgs=>K (Z2q g::gs)
  | none=>False
def Z92 (P:Program)(o:Oper)(t:Ts)(w:Os)(K:Ts->Prop):Prop:=match o.op with
 | .call c=>match c.callee with
  | .value (.func f)=>Zf5 t w c.args.toList λgs=>Zbf P f gs λg=>K (put o.dst g t)
  | _=>False
 | _=>False
def Zh1:MD:=λ_ t w n K=>K t w n
def Zeu (XL c late:List Nat)(ops:List Oper)(_:Oper)(_:List Oper)(b:MD):MD:=λl t w n K=>match Lu tt c ops (rdy l ops l 0) with
  | some i=>match nth ops i with
   | some o=>match Zcv w XL with
    | true=>sxG P tt (.quiet XL) ops o t w n λt w n=>Ni l i λl=>b l t w n K
    | false=>False
   | none=>False
  | none=>match Zcx tt ops (rdy l ops l 0) with
   | some i=>match nth ops i with
    | some o=>Z92 P o t w λt=>Ni l i λl=>b l t w n K
    | none=>False
   | none=>match rdy l ops l 0 with
    | []=>K t w n
    | rs=>brK ops t K (λK=>Zcj (λi=>match nth ops i with
     | some o=>match isL tt o with
      | false=>sxG P tt .new ops o t w n λt w n=>Ni l i λl=>b l t w n K
      | true=>match Fn i late with
       | true=>sxG P tt .late ops o t w n λt w n=>Ni l i λl=>b l t w n K
       | false=>match vsG XL t o,Zcv w XL with
        | true,true=>sxG P tt (.vs XL) ops o t w n λt w n=>Ni l i λl=>b l t w n K
        | _,_=>False
     | none=>False) rs) rs
def sxD (XL b late:List Nat)(ops:List Oper)(fu:List Oper):MD:=@List.rec Oper (λ_=>MD) Zh1 (Zeu P tt XL b late ops) fu
def Zh:List Operand->List Nat
 | []=>[]
 | .tmp i::l=>i::Zh l
 | _::l=>Zh l
def Q5 (o:Oper):List Nat:=Zh o.op.operands.toList
def Z8t (t:Ts):List Nat->Ts
 | []=>[]
 | i::l=>match look i t with
  | some g=>(i,g)::Z8t t l
  | none=>Z8t t l
def Za0 (o:Oper)(t:Ts)(own:Os)(n d:Nat)(g:G):Prop :=
 Jk P tt .new o (Z8t t (Q5 o)) own n λc own' h=>match isQ tt o with
  | true=>look d c=some g
  | false=>∃b e sz,(h=n+1/\own'=(n,.slc b e sz)::own)/\look d c=some (.osl n)/\g=.sl b
abbrev MI:=Ts->(Ts->Prop)->Prop
def Zez (own:Os)(c:Nat)(o:Oper)(_:List Oper)(b:MI):MI:=λt K=>match o.dst with
 | none=>False
 | some d=>∃g,(∀n,c<=n->Za0 P tt o t own n d g)/\b ((d,g)::t) K
def sxI (own:Os)(b:Nat)(l:List Oper):MI:=@List.rec Oper (λ_=>MI) (λt K=>K t) (Zez P tt own b) l
def Z7p:List Oper->Nat
 | []=>0
 | o::l=>bif Zda o then Z7p l+1 else Z7p l
def Z6u:List Oper->Nat->(Nat->Prop)->Prop
 | [],n,K=>K n
 | o::l,n,K=>match isQ tt o with
  | true=>Z6u l n K
  | false=>Z6u l (n+1) K
def Z6h:List Oper->Nat->Nat->Option Nat
 | [],_,_=>none
 | o::l,s,i=>match o.dst with
  | some d=>bif Nat.beq d s then some i else Z6h l s (i+1)
  | none=>Z6h l s (i+1)
def Zg0 (ops:List Oper)(o:Oper)(s:Nat):Bool:=match Z6h ops s 0 with
 | none=>true
 | some j=>Mv (λe=>Region.binds .any e&&Nat.beq e.on j) o.after.toList
def Zf9 (ops l:List Oper)(i:Nat)(o:Oper):Bool:=match o.guard,o.dst with
 | none,some d=>(isQ tt o||Zda o)&&(match Z6h l d 0 with
  | none=>true
  | some _=>false)&&Bw (λe=>!Region.binds .any e||Nat.blt e.on i) o.after.toList&&Bw (Zg0 ops o) (Q5 o)
 | _,_=>false
def Ze5 (ops:List Oper):List Oper->Nat->Bool
 | [],_=>true
 | o::l,i=>Zf9 tt ops l i o&&Ze5 ops l (i+1)
def Z6s (ops:Array Oper):Bool:=Nat.ble 4 (Z7p ops.toList)&&Ze5 tt ops.toList ops.toList 0
inductive Ex where
 | normal
 | exit (id:Nat)
 | ret
 | goto (l:Nat)
abbrev KC:=Ex->Ts->Os->Nat->Prop
def leT (m:List (Nat × Nat))(t:Ts)(n:Nat):Ts->Prop
 | []=>True
 | (i,g)::r=>(Z3e n g=true/\look i t=some (renS m g))/\leT m t n r
def leO (m:List (Nat × Nat))(w:Os)(n:Nat):Os->Prop
 | []=>True
 | (k,r)::l=>((Nat.blt k n&&(isS r||Nat.beq ((look k m).getD k) k))=true/\Z0u n r=true/\look ((look k m).getD k) w=some (Z39 m r))/\leO m w n l
def le (m:List (Nat × Nat))(t:Ts)(w:Os)(n:Nat)(b:Ts)(w':Os):Prop :=
 leT m t n b/\leO m w n w'/\Rw (w'.map λp=>(look p.1 m).getD p.1)=true
def mkM (t:Ts):Ts->List (Nat × Nat)
 | []=>[]
 | (i,.osl k)::l=>match look i t with
  | some (.osl j)=>(k,j)::mkM t l
  | _=>mkM t l
 | _::l=>mkM t l
def Z1h {X:Type}(h:X->Ts × Os)(d:X->Ts)(I:X->Prop)(μ:X->Nat)(n:Nat)(x:X)(K:KC):KC:=λe b w' c=>match e with
 | .normal=>∃y,I y/\μ y < μ x/\le (mkM b (d y)) b w' n (h y).1 (h y).2
 | .exit id=>K (.exit id) b w' c
 | .ret=>K .ret b w' c
 | .goto l=>K (.goto l) b w' c
abbrev MC:=Ts->Os->Nat->KC->Prop
def Z1d (_ _:Code)(x y:MC):MC:=λt w n K=>x t w n λe t w n=>match e with
  | .normal=>y t w n K
  | .exit id=>K (.exit id) t w n
  | .ret=>K .ret t w n
  | .goto l=>K (.goto l) t w n
def Zd (c:Operand)(_ _:Code)(x y:MC):MC:=λt w n K=>ev t w c λg=>match g with
  | .tt=>x t w n K
  | .ff=>y t w n K
  | .v (.bool c)=>EvIf c (x t w n K) (y t w n K)
  | _=>False
def S9 (id:Nat)(_:Code)(x:MC):MC:=λt w n K=>x t w n λe t w n=>match e with
  | .normal=>K .normal t w n
  | .exit id'=>bif Nat.beq id' id then K .normal t w n else K (.exit id') t w n
  | .ret=>K .ret t w n
  | .goto l=>K (.goto l) t w n
def P5 {X:Type}(h:X->Ts × Os)(I:X->Prop)(μ:X->Nat)(n:Nat)(x:X)(K:KC):KC:=λe b w' c=>match e with
 | .normal=>∃(y:X) (m:List (Nat × Nat)),I y/\μ y < μ x/\le m b w' n (h y).1 (h y).2
 | .exit id=>K (.exit id) b w' c
 | .ret=>K .ret b w' c
 | .goto l=>K (.goto l) b w' c
def Vr {X:Type}(h:X->Ts × Os)(_:X->Ts)(I:X->Prop)(μ:X->Nat)(n:Nat)(x:X)(K:KC):KC:=λe b w' m=>Gh (λj c=>P5 h I μ n x K e b j c) w' m
def Zgf (b:Bool){X:Type}(c:X->Ts × Os)(d:X->Ts)(I:X->Prop)(μ:X->Nat)(n:Nat)(x:X)(K:KC):KC:=match b with
 | false=>Z1h c d I μ n x K
 | true=>Vr c d I μ n x K
def Rp (_:Code)(x:MC):MC:=λt w0 h K=>Gh (λw n=>∃(b:Bool) (X:Type) (c:X->Ts × Os) (d:X->Ts) (I:X->Prop) (μ:X->Nat),
      (∃x,I x/\le [] t w n (c x).1 (c x).2)/\∀y,I y->x (c y).1 (c y).2 n (Zgf b c d I μ n y K)) w0 h
def Z85 (_:Nat)(ops:Array Oper)(d:Bool):MC:=λt w n K=>match d with
  | false=>sxO P tt ops.toList ops.toList t w n (K .normal)
  | true=>match Z6s tt ops with
   | true=>sxI P tt w n ops.toList t λt=>Z6u tt ops.toList n λn=>K .normal t w n
   | false=>Z2n tt ops.toList ops.toList 0 λb=>Ky tt b ops.toList ops.toList 0 λlate=>Ss tt late t w ops.toList ops.toList 0 [] λXL=>trK w 3 XL λXL=>sxD P tt XL b late ops.toList ops.toList (noB ops.toList) t w n (K .normal)
def Yn (e:Ex):MC:=λt w n K=>K e t w n
def Zft:MC:=λ_ _ _ _=>False
def Np (m:MC):MC:=λt w n K=>m t w n λe t w n=>match e with
  | .normal=>K .normal t w n
  | .exit id=>K (.exit id) t w n
  | .ret=>K .ret t w n
  | .goto _=>False
def Tu:Code->Option Nat
 | .seq a b=>match Tu a with
  | some l=>some l
  | none=>Tu b
 | .label l=>some l
 | _=>none
abbrev MP:=Bool->MC
def Tc (x:Code)(m:MP):MC:=match Tu x with
 | none=>Np (m true)
 | some l=>λt w n K=>m true t w n λe t w n=>match e with
  | .normal=>K .normal t w n
  | .exit id=>K (.exit id) t w n
  | .ret=>K .ret t w n
  | .goto l'=>bif Nat.beq l' l then Np (m false) t w n K else False
def Zge (x y:Code)(p q:MP):MP:=λb=>match b with
 | true=>Z1d x y (p true) (q true)
 | false=>match Tu x with
  | some _=>Z1d x y (p false) (q true)
  | none=>q false
def sxM (c:Code):MP:=@Code.rec (λ_=>MP) (λ_=>Yn .normal) (λi o d _=>Z85 P tt i o d) Zge (λc x y p q _=>Zd c x y (p true) (q true)) (λi x p _=>S9 i x (p true)) (λx p _=>Rp x (p true)) (λ_ _ _ _ _ _ _=>Zft) (λid _=>Yn (.exit id)) (λx p _=>Tc x p) (λ_ _=>Yn .normal) (λl _=>Yn (.goto l)) (λ_=>Yn .ret) (λ_ _=>Zft) c
def sxC (c:Code):MC:=sxM P tt c true
def Z89 (t:Ts)(w:Os)(K:G->Os->Prop):ResultVar->Prop
 | .tmp i=>match look i t with
  | some g=>pur w g K
  | none=>False
 | .cell i ty=>match look i t,look ty tt with
  | some (.ptr k off),some i=>match look k w with
   | some (.blk cs _)=>match i.agg with
    | true=>seg cs off i.zero.length λl=>Zaj l w λb w'=>K (.agg b) w'
    | false=>match nth cs off with
     | some g=>Z4g w g K
     | none=>False
   | _=>False
  | _,_=>False
def Z9f (t:Ts)(w:Os):List ResultVar->(List G->Prop)->Prop
 | [],K=>K []
 | r::l,K=>Z89 tt t w (λg w'=>Z9f t w' l λgs=>K (g::gs)) r
def Zcy (fn:Func)(Q:G->Prop):KC:=λe t w _=>match e with
 | .exit _=>False
 | .goto _=>False
 | _=>match fn.results.toList with
  | [r]=>Z9f tt t w [r] λgs=>match gs with
   | [g]=>Q g
   | _=>False
  | rs=>Z9f tt t w rs λgs=>Q (.tup gs)
def Wv (t:Ts)(w:Os)(K:G->Os->Prop):ResultVar->Prop
 | .tmp i=>match look i t with
  | some g=>Zd8 w g K
  | none=>False
 | .cell i ty=>Z89 tt t w K (.cell i ty)
def U7 (t:Ts)(w:Os):List ResultVar->(List G->Os->Prop)->Prop
 | [],K=>K [] w
 | r::rs,K=>Wv tt t w (λg w'=>U7 t w' rs λgs w''=>K (g::gs) w'') r
structure It where
 O:Os
 m:List (Nat × Nat)
 c:Bool
def It.root (i:It):Nat:=(look 0 i.m).getD 0
def It.keys (i:It):List Nat:=i.O.map λp=>(look p.1 i.m).getD p.1
def keysL:List It->List Nat
 | []=>[]
 | i::l=>i.keys++keysL l
def K9:Nat->List G->Ts
 | _,[]=>[]
 | i,g::l=>(i,g)::K9 (i+1) l
def It.res:It->R
 | ⟨O,_,true⟩=>.abs (cl O)
 | ⟨O,_,false⟩=>match look 0 O with
  | some r=>r
  | none=>.gone
def Ef:List It->Nat->List (Nat × Nat)
 | [],_=>[]
 | i::l,j=>(j,i.root)::Ef l (j+1)
def It.ok (own:Os)(n b N:Nat)(M:List (Nat × Nat))(j:Nat)(i:It):Prop:=match i.c with
 | true=>leI i.m own n i.O/\∃r,look 0 i.O=some r
 | false=>∃r,i.O=[(0,r)]/\look i.root own=some (Lc M r)/\(Z0u N r&&((match r with | .blk cs _=>Bw (Ze2 b) cs | _=>true)&&(!(match r with | .slc _ _ _ | .froz _ _ | .vw _ _ _=>true | _=>false)||Nat.ble b j)))=true
def Z8o (own:Os)(n b N:Nat)(M:List (Nat × Nat)):Nat->List It->Prop
 | _,[]=>True
 | j,i::l=>i.ok own n b N M j/\Z8o own n b N M (j+1) l
def Zdq:G->Bool
 | .osv _ _ _ _ | .oel _ _ _ _ | .orv _ _ _ _ _ _ | .clo _ _ _=>false
 | _=>true
def Zfk:G->Bool
 | .tup l=>Bw Zdq l
 | g=>Zdq g
def Z2v (b:Nat):G->Bool
 | .oag l=>Bw (Ze2 b) l
 | .osl k=>Nat.ble b k
 | _=>true
def Zfl (b:Nat):G->Bool
 | .tup l=>Bw (Z2v b) l
 | g=>Z2v b g
structure Y2 (roots:List Nat)(own:Os)(n:Nat)(g:G)(Q:G->List R->Prop)(its:List It)(g':G):Prop where
 ok:Z8o own n roots.length its.length (Ef its 0) 0 its
 nod:Rw (keysL its)=true
 rts:∃l,its.map It.root=roots++l
 res:Q1 (Ef its 0) g'=g
 key:(Z3e its.length g'&&Zfk g'&&Zfl roots.length g')=true
 post:Q g' (its.map It.res)
def Z6v (fn:Func)(b:List Nat)(Q:G->List R->Prop):KC:=λe t w n=>match e with
 | .exit _=>False
 | .goto _=>False
 | _=>match fn.results.toList with
  | [r]=>U7 tt t w [r] λgs own=>match gs with
   | [g]=>∃c h,Y2 b own n g Q c h
   | _=>False
  | rs=>U7 tt t w rs λgs own=>∃c h,Y2 b own n (.tup gs) Q c h
def R6 (t:Ts)(n:Nat):List Nat->Ts
 | []=>[]
 | i::l=>match look i t with
  | some g=>match Z3e n g with
   | true=>(i,g)::R6 t n l
   | false=>R6 t n l
  | none=>R6 t n l
def Ou (t:Os)(n:Nat):List Nat->Os
 | []=>[]
 | i::l=>match look i t,Nat.blt i n with
  | some g,true=>match Z0u n g with
   | true=>(i,g)::Ou t n l
   | false=>Ou t n l
  | _,_=>Ou t n l
theorem Z8j (m:List (Nat × Nat))(t a b:Ts)(n:Nat)(ha:leT m t n a)(c:leT m t n b):leT m t n (a++b):=by
 induction a with
 | nil=>exact c
 | cons p a ih=>exact⟨ha.1,ih ha.2⟩
theorem Z87 (m:List (Nat × Nat))(t a b:Os)(n:Nat)(ha:leO m t n a)(c:leO m t n b):leO m t n (a++b):=by
 induction a with
 | nil=>exact c
 | cons p a ih=>exact⟨ha.1,ih ha.2⟩
theorem Vv (g:G):Mt [] g=g:=by cases g<;>rfl
theorem Oq (g:G):Z2o [] g=g:=by
 cases g with
 | oag l=>simp only[Z2o,funext Vv];simp
 | clo f a c=>simp only[Z2o,funext Vv];simp
 | _=>rfl
theorem Z43 (g:G):Q1 [] g=g:=by
 cases g with
 | tup l=>simp only[Q1,funext Oq];simp
 | oag l=>exact Oq (.oag l)
 | clo f a c=>exact Oq (.clo f a c)
 | _=>rfl
theorem Gk (g:G):Ku [] g=g:=by
 cases g with
 | orv k i s off l c=>cases s<;>rfl
 | _=>rfl
theorem Mc (g:G):Tb [] g=g:=by
 cases g with
 | oag l=>simp only[Tb,funext Gk];simp
 | clo f a c=>simp only[Tb,funext Gk];simp
 | orv k i s o l c=>exact Gk (.orv k i s o l c)
 | _=>rfl
theorem Z3l (g:G):renS [] g=g:=by
 cases g with
 | tup l=>simp only[renS,funext Mc];simp
 | oag l=>exact Mc (.oag l)
 | clo f a c=>exact Mc (.clo f a c)
 | orv k i s o l c=>exact Gk (.orv k i s o l c)
 | _=>rfl
theorem Z22 (r:R):Z39 [] r=r:=by
 cases r with
 | blk cs t=>simp only[Z39,funext Gk];simp
 | _=>rfl
theorem Z5w (t:Ts)(n:Nat)(ks:List Nat):leT [] t n (R6 t n ks):=by
 induction ks with
 | nil=>exact trivial
 | cons i l ih =>
  unfold R6;cases h:look i t with
  | none=>exact ih
  | some g =>
   cases h2:Z3e n g with
   | false=>simpa [h2] using ih
   | true=>simp only[h2];exact⟨⟨h2,by rw[h,Z3l]⟩,ih⟩
theorem Z4p (t:Os)(n:Nat)(ks:List Nat):leO [] t n (Ou t n ks):=by
 induction ks with
 | nil=>exact trivial
 | cons i l ih =>
  unfold Ou;cases h:look i t with
  | none=>exact ih
  | some g =>
   cases h2:Nat.blt i n with
   | false=>exact ih
   | true =>
    cases h3:Z0u n g with
    | false=>simpa [h3] using ih
    | true=>simp only[h3];exact⟨⟨by rw[h2];show(true&&(isS g||Nat.beq i i))=true;rw[Nat.beq_refl];simp,h3,by show look i t=_;rw[h,Z22]⟩,ih⟩
def No {α:Type}(t:Ts)(n:Nat):List Nat->(Ts->α)->α
 | [],K=>K []
 | i::l,K=>match look i t with
  | some g=>match Z3e n g with
   | true=>No t n l λr=>K ((i,g)::r)
   | false=>No t n l K
  | none=>No t n l K
def Nf {α:Type}(t:Os)(n:Nat):List Nat->(Os->α)->α
 | [],K=>K []
 | i::l,K=>match look i t,Nat.blt i n with
  | some g,true=>match Z0u n g with
   | true=>Nf t n l λr=>K ((i,g)::r)
   | false=>Nf t n l K
  | _,_=>Nf t n l K
theorem Z3 {α:Type}(t:Ts)(n:Nat)(l:List Nat)(K:Ts->α):No t n l K=K (R6 t n l):=by
 induction l generalizing K with
 | nil=>rfl
 | cons i l ih =>
  unfold No R6;cases look i t with
  | none=>exact ih K
  | some g =>
   cases h:Z3e n g with
   | true=>simp only[h];exact ih _
   | false=>simp only[h];exact ih _
theorem Z1t {α:Type}(t:Os)(n:Nat)(l:List Nat)(K:Os->α):Nf t n l K=K (Ou t n l):=by
 induction l generalizing K with
 | nil=>rfl
 | cons i l ih =>
  unfold Nf Ou;cases look i t with
  | none=>exact ih K
  | some g =>
   cases Nat.blt i n with
   | false=>exact ih _
   | true =>
    cases h:Z0u n g with
    | true=>simp only[h];exact ih _
    | false=>simp only[h];exact ih _
theorem Ax {a:Code}{B:MC}{t:Ts}{w:Os}{n:Nat}{K:KC}(ks os:List Nat){X:Type}(d:X->Ts)(r:X->Os)(I:X->Prop)(μ:X->Nat)(b:X)(m:I b)(c:leT [] t n (d b))(j:leO [] w n (r b))(q:Rw ((r b++Ou w n os).map λp=>(look p.1 ([]:List (Nat × Nat))).getD p.1)=true)
  (h:No t n ks λT=>Nf w n os λO=>∀x,I x->B (d x++T) (r x++O) n (Z1h (λx=>(d x++T,r x++O)) d I μ n x K)):Rp a B t w n K:=by
 rw[Z3,Z1t] at h;exact .done ⟨false,X,λx=>(d x++R6 t n ks,r x++Ou w n os),d,I,μ,⟨b,m,Z8j _ _ _ _ _ c (Z5w t n ks),Z87 _ _ _ _ _ j (Z4p w n os),q⟩,h⟩
attribute [irreducible] Rp
end
structure Env (w0 w:World)(L:List (Nat × List Value × TypeId))(U:List (World × List Nat)):Prop where
 blw:Below w0.heap.size w0 w
 own:∀p∈L,w0.heap.size<=p.1/\w.heap[p.1]?=some (.cells p.2.1.toArray p.2.2 (0,0))
 sep:(L.map (·.1)).Nodup
 sn:∀q∈U,Frm q.2 q.1 w/\∀p∈L,p.1∈q.2\/q.1.heap.size<=p.1
inductive IsC:Value->List Value->Prop
 | agg (cs:List Value):IsC (.agg cs.toArray) cs
 | int (k:IntKind) (n:Int):IsC (.int k n) [.int k n]
 | str (s:ByteArray):IsC (.string s) [.string s]
 | slice (a:Option Addr) (n c:Nat):IsC (.slice a n c) [.slice a n c]
 | bool (b:Bool):IsC (.bool b) [.bool b]
 | ptr (a:Option Addr):IsC (.pointer a) [.pointer a]
 | map (r:Option Nat):IsC (.map r) [.map r]
 | iface (t:TypeId) (v:Value):IsC (.iface t v) [.iface t v]
 | nilI:IsC .nilIface [.nilIface]
theorem IsC.eq {v:Value}{cs:List Value}(h:IsC v cs):v.cells.toList=cs:=by cases h<;>simp[Value.cells]
inductive At {α:Type}:List α->Nat->α->Prop
 | z {x:α} {l:List α}:At (x::l) 0 x
 | s {x y:α} {l:List α} {i:Nat} (h:At l i x):At (y::l) (i+1) x
theorem At.get {α:Type}{l:List α}{i:Nat}{x:α}(h:At l i x):l[i]?=some x:=by
 induction h with
 | z=>rfl
 | s _ ih=>simpa using ih
def Pi (P:Program)(t:TypeId):Option Bool:=(P.underlying t).map λd=>match d with | .struct _ | .array _ _=>true | _=>false
theorem Frm.trans2 {S T:List Nat}{u w w':World}(h:Frm T u w)(b:Frm S w w')(m:∀k∈S,k∈T\/u.heap.size<=k):Frm T u w' :=
 ⟨b.os.trans h.os,b.tape.trans h.tape,b.output.trans h.output,cn h.size b.size,λk c j=>(b.block k (bd c h.size) (λp=>(m k p).elim j (λq=>by omega))).trans (h.block k c j)⟩
section
variable {P:Program} {w0 w w':World} {L:List (Nat × List Value × TypeId)} {U:List (World × List Nat)} {g k i:Nat} {row:List Value} {t ty:TypeId}
theorem H7 {b:Bool}(h:Pi P ty=some b)(w:World):(isAgg ty).run P w=.ok b w:=by unfold Pi at h;obtain⟨d,hd,rfl⟩:=bh.1 h;unfold isAgg;rw[Sem.run_bind,run_underlying hd w];cases d<;>simp
theorem Br {n:Nat}(h:(P.info? ty).map (·.size)=some n)(w:World):(sizeOf ty).run P w=.ok n w:=by
 cases hq:P.info? ty with
 | none=>simp[hq] at h
 | some j =>
  rw[hq] at h;injection h with h;simp[sizeOf,typeInfo,hq,h]
theorem Env.new (w:World):Env w w [] []:=⟨ab _ _,by simp,by simp,by simp⟩
theorem Env.base (h:Below w0.heap.size w0 w):Env w0 w [] []:=⟨h,by simp,by simp,by simp⟩
theorem Env.size (h:Env w0 w L U):w0.heap.size<=w.heap.size:=h.blw.size
theorem Env.lt (h:Env w0 w L U){p:Nat × List Value × TypeId}(b:p∈L):p.1 < w.heap.size:=(bz.1 (h.own p b).2).1
theorem Env.below (h:Env w0 w L U)(c:Below w.heap.size w w'):Env w0 w' L U :=
 ⟨h.blw.trans (c.mono h.blw.size),λp b=>⟨(h.own p b).1,(c.block _ (h.lt b)).trans (h.own p b).2⟩,h.sep,λq j=>⟨(h.sn q j).1.trans (Frm.of_below c),(h.sn q j).2⟩⟩
theorem Env.drew (h:Env w0 w L U):Env w0 w.drew L U:=h.below (ab w.heap.size w).drew
theorem Env.drewN (h:Env w0 w L U)(n:Nat):Env w0 (w.drewN n) L U:=h.below (D7 (ab w.heap.size w) n)
theorem Env.alloc (h:Env w0 w L U)(cs:List Value)(t:TypeId):Env w0 (w.alloc (.cells cs.toArray t)) ((w.heap.size,cs,t)::L) U:=by
 have m:Below w.heap.size w (w.alloc (.cells cs.toArray t)):=(ab _ _).alloc (av _) _;have j:=h.below m;refine⟨j.blw,λp b=>?_,?_,λq c=>⟨(j.sn q c).1,λp b=>?_⟩⟩
 .rcases bq.1 b with rfl | b
  .exact⟨h.blw.size,heap_alloc_new _ _⟩
  .exact j.own p b
 .rw[cv,List.nodup_cons];refine⟨λs=>?_,h.sep⟩;obtain⟨p,b,e⟩:=bk.1 s;have:=h.lt b;omega
 .rcases bq.1 b with rfl | b
  .exact .inr (h.sn q c).1.size
  .exact(h.sn q c).2 p b
theorem Env.at_ (h:Env w0 w L U)(hL:L[i]?=some (g,row,t)):w.heap[g]?=some (.cells row.toArray t (0,0))/\w0.heap.size<=g/\g < w.heap.size :=
 have:=h.own _ (au hL)
 ⟨this.2,this.1,h.lt (au hL)⟩
theorem Env.cell (h:Env w0 w L U)(hL:L[i]?=some (g,row,t))(k:Nat):w.cell? ⟨g,k,none⟩=row[k]?:=by rw[A1 (h.at_ hL).1];simp
theorem Env.froz (h:Env w0 w L U)(hL:L[i]?=some (g,row,t))(k:Nat):w.frozen? ⟨g,k,none⟩=false:=frozen_of_row w g k _ t (h.at_ hL).1
theorem Env.frm {S:List Nat}(h:Env w0 w L U)(j:Frm S w w')(m:∀k∈S,w0.heap.size<=k/\k ∉ L.map (·.1))(s:∀q∈U,∀k∈S,k∈q.2\/q.1.heap.size<=k):Env w0 w' L U :=
 ⟨j.below h.blw h.blw.size (λk u=>(m k u).1),λp b=>⟨(h.own p b).1,(j.block _ (h.lt b) (λz=>(m _ z).2 (bk.2 ⟨p,b,rfl⟩))).trans (h.own p b).2⟩,h.sep,
  λq c=>⟨(h.sn q c).1.trans2 j (s q c),(h.sn q c).2⟩⟩
theorem Env.since (h:Env w0 w L U){u:World}{S:List Nat}(j:Nat)(b:U[j]?=some (u,S)):Frm S u w:=(h.sn _ (au b)).1
theorem Env.tail {p:Nat × List Value × TypeId}(h:Env w0 w (p::L) U):Env w0 w L U :=
 ⟨h.blw,λq b=>h.own q (List.mem_cons_of_mem _ b),(List.nodup_cons.1 h.sep).2,λq b=>⟨(h.sn q b).1,λp c=>(h.sn q b).2 p (List.mem_cons_of_mem _ c)⟩⟩
theorem Env.set (h:Env w0 w L U)(hL:L[i]?=some (g,row,t)){b:List Value}(hg:w'.heap[g]?=some (.cells b.toArray t (0,0)))(m:w.grownBy w' (some g)):Env w0 w' (L.set i (g,b,t)) U:=by
 have J:=(h.at_ hL).2;have D:=(ar.1 hL).1;have F:L[i]=(g,row,t):=(ar.1 hL).2;have c:(L.set i (g,b,t)).map (·.1)=L.map (·.1):=by
  rw[List.map_set];apply cy;intro j;rw[cw];split
  .rename_i e
   subst e;rw[dq (by simpa using D),ay,hL];rfl
  .rfl
 refine⟨Below.grownBy h.blw m h.blw.size (λk s=>by injection s with s;omega),λp H=>?_,by rw[c];exact h.sep,λq M=>⟨?_,λp H=>?_⟩⟩
 .obtain⟨j,Y,e⟩:=ct.1 H;rw[List.getElem_set] at e;split at e
  .rename_i hij
   subst e;exact⟨J.1,hg⟩
  .rename_i hij
   have C:j < L.length:=by simpa using Y
   have z:p∈L:=e ▸ bw C;refine⟨(h.own p z).1,(m.block _ (h.lt z) (λT=>?_)).trans (h.own p z).2⟩;injection T with T;have A:=List.pairwise_iff_getElem.1 h.sep;have B:i < (L.map (·.1)).length:=by simpa using D
   have u:j < (L.map (·.1)).length:=by simpa using C
   have X:(L.map (·.1))[i]=g:=by rw[List.getElem_map,F]
   have W:(L.map (·.1))[j]=g:=by rw[List.getElem_map,e];exact T
   rcases Nat.lt_or_gt_of_ne hij with E | E
   .exact A i j B u E (X.trans W.symm)
   .exact A j i u B E (W.trans X.symm)
 .refine(h.sn q M).1.trans2 (S:=[g]) ⟨m.os,m.tape,m.output,m.size,λk s Z=>m.block k s (λe=>Z (by injection e with e;simp[e]))⟩ λk s=>?_;obtain rfl:=bx.1 s;exact(h.sn q M).2 _ (au hL)
 .have z:p.1∈L.map (·.1):=by rw[<-c];exact bk.2 ⟨p,H,rfl⟩
  obtain⟨p',O,e⟩:=bk.1 z;rw[<-e];exact(h.sn q M).2 p' O
variable {ops:Array Oper} {rest:List Oper} {o:Oper} {a:Act} {K:Act->World->Prop} {Q:Exit->Act->World->Prop}
theorem Z4r (g k j:Nat):(⟨g,k,none⟩:Addr).add j=⟨g,k+j,none⟩:=by unfold Addr.add;split<;>simp_all
theorem D2 {cs:List Value}(c:Pi P ty=some true)(b:(P.info? ty).map (·.size)=some cs.length)(h:∀j v,cs[j]?=some v->w.cell? ⟨g,k+j,none⟩=some v):(loadVar ty ⟨g,k,none⟩).run P w=.ok (.agg cs.toArray) w:=by have p:=run_loadCells_list (P:=P) (w:=w) ⟨g,k,none⟩ cs (λj v m=>by rw[Z4r];exact h j v m);simp only[loadVar,Sem.run_bind,H7 c,Br b,Result.andThen_ok,if_true,p,Sem.run_pure]
theorem Env.loadVar (h:Env w0 w L U)(hL:L[i]?=some (g,row,t))(c:Pi P ty=some true)(b:(P.info? ty).map (·.size)=some row.length):(loadVar ty ⟨g,0,none⟩).run P w=.ok (.agg row.toArray) w :=
 D2 c b λj v m=>by rw[co,h.cell hL];exact m
end
section
variable {I I' I'':Imm} {V V' V'':Va} {g:G} {x:Value} {w w' w'':World} {own own' own'':Os} {k n:Nat} {r:R} {t:Ts}
def Imm.le (I I':Imm):Prop:=∀b o x,I b o=some x->I' b o=some x
theorem Imm.le.refl (I:Imm):I.le I:=λ_ _ _ h=>h
theorem Va.le.refl (V:Va):V.le V:=⟨av _,λ_ _=>⟨rfl,rfl⟩⟩
theorem Va.le.trans (h:V.le V')(c:V'.le V''):V.le V'' :=
 ⟨cn h.1 c.1,λk b=>⟨(c.2 k (bd b h.1)).1.trans (h.2 k b).1,(c.2 k (bd b h.1)).2.trans (h.2 k b).2⟩⟩
theorem VRep.mono (h:VRep I g x)(p:I.le I'):VRep I' g x:=by
 induction h with
 | v x=>exact .v x
 | tt=>exact .tt
 | ff=>exact .ff
 | un=>exact .un
 | nl=>exact .nl
 | agg l cs hl _ ih=>exact .agg l cs hl ih
 | sl l A c sz u hc hA hz h _ ih =>
  refine .sl l A c sz u hc hA hz (λi r hr=>?_) ih;obtain⟨b,o,e,h⟩:=h i r hr;exact⟨b,o,e,λj m=>p _ _ _ (h j m)⟩
theorem PW.mono {P b:G->Value->Prop}{l:List G}{cs:List Value}(h:PW P l cs)(p:∀g x,P g x->b g x):PW b l cs:=⟨h.1,λj g u m c=>p _ _ (h.2 j g u m c)⟩
theorem PW.cons {P:G->Value->Prop}{l:List G}{cs:List Value}(h:P g x)(m:PW P l cs):PW P (g::l) (x::cs) :=
 ⟨by simp[m.1],λj p u c b=>by
  cases j with
  | zero=>simp at c b;subst c b;exact h
  | succ j=>simp at c b;exact m.2 j p u c b⟩
theorem PW.nil {P:G->Value->Prop}:PW P [] []:=⟨rfl,λj g u b=>by simp at b⟩
theorem PW.uncons {P:G->Value->Prop}{l:List G}{cs:List Value}(h:PW P (g::l) cs):∃x b,cs=x::b/\P g x/\PW P l b:=by
 cases cs with
 | nil=>exact dt h.1 (by simp)
 | cons x cs=>exact⟨x,cs,rfl,h.2 0 g x rfl rfl,by have:=h.1;simpa using this,λj g u m c=>h.2 (j+1) g u (by simpa using m) (by simpa using c)⟩
theorem PW.of_nil {P:G->Value->Prop}{cs:List Value}(h:PW P [] cs):cs=[]:=az h.1.symm
theorem PW.append {P:G->Value->Prop}{l m:List G}{cs ds:List Value}(h:PW P l cs)(b:PW P m ds):PW P (l++m) (cs++ds):=by
 induction l generalizing cs with
 | nil=>rw[h.of_nil];exact b
 | cons g l ih =>
  obtain⟨x,p,rfl,j,c⟩:=h.uncons;exact .cons j (ih c)
theorem PW.get {P:G->Value->Prop}{l:List G}{cs:List Value}(h:PW P l cs){j:Nat}(c:l[j]?=some g):∃u,cs[j]?=some u/\P g u:=by
 have m:=(ar.1 c).1;have b:j < cs.length:=by rw[<-h.1];exact m
 exact⟨cs[j],aq b,h.2 j g _ c (aq b)⟩
theorem CRep.of_v (h:VRep I g x):CRep I V g x:=by cases h<;>first | exact .v _ | exact .tt | exact .ff | exact .un | exact .nl | (exact .agg _ _ ‹_› ‹_›) | (exact .sl _ _ _ _ _ ‹_› ‹_› ‹_› ‹_› ‹_›)
theorem CRep.mono (h:CRep I V g x)(j:I.le I')(b:V.le V'):CRep I' V' g x:=by
 cases g with
 | ptr k off=>exact⟨bd h.1 b.1,by rw[(b.2 k h.1).1];exact h.2⟩
 | osl k=>exact⟨bd h.1 b.1,by rw[(b.2 k h.1).2];exact h.2⟩
 | osv k sz lo hi=>exact⟨bd h.1 b.1,by rw[(b.2 k h.1).2];exact h.2⟩
 | mp k=>exact⟨bd h.1 b.1,by rw[(b.2 k h.1).1];exact h.2⟩
 | clo f a c=>exact h
 | oag l=>exact h
 | tup l=>exact h
 | elp l o=>exact h
 | oel k i s o=>exact h
 | orv k i s o l c=>exact h
 | _=>exact VRep.mono h j
theorem CRep.to_v (h:CRep I V g x)(b:g.pure=true):VRep I g x:=by cases g<;>first | exact h | cases b
theorem OrB.of {k j sz b q:Nat}(h:OrB V k sz b q)(p:V'.b j=V.b k)(m:V'.s j=V.s k):OrB V' j sz b q:=by
 cases sz with
 | zero=>exact(show b=V'.b j/\q=0 from⟨by rw[p];exact h.1,h.2⟩)
 | succ sz =>
  obtain⟨n,c,e⟩:=h;exact⟨n,c,by rw[m];exact e⟩
theorem TRep1.mono (h:TRep1 I V g x)(p:I.le I')(m:V.le V'):TRep1 I' V' g x:=by
 cases g with
 | oag l =>
  obtain⟨cs,e,h⟩:=h;exact⟨cs,e,h.mono λ_ _ h=>h.mono p m⟩
 | elp row off =>
  obtain⟨b,o,e,h⟩:=h;refine⟨b,o,e,λj g D=>?_⟩;obtain⟨u,A,z⟩:=h j g D;exact⟨u,p _ _ _ A,z.mono p⟩
 | oel k i sz off =>
  obtain⟨s,b,q,n,c,e,h⟩:=h;exact⟨bd s m.1,b,q,n,c,by rw[(m.2 k s).2];exact e,h⟩
 | orv k i sz off len cap =>
  obtain⟨s,b,q,e,h⟩:=h;exact⟨bd s m.1,b,q,e.of (m.2 k s).1 (m.2 k s).2,h⟩
 | clo f a c =>
  obtain⟨C,B,cs,e,A,z⟩:=h;exact⟨C,B,cs,e,A.mono λ_ _ h=>h.mono p m,z.mono λ_ _ h=>h.mono p m⟩
 | mp k=>exact CRep.mono (g:=.mp k) h p m
 | v y=>exact CRep.mono (g:=.v y) h p m
 | tt=>exact CRep.mono (g:=.tt) h p m
 | ff=>exact CRep.mono (g:=.ff) h p m
 | un=>exact CRep.mono (g:=.un) h p m
 | nl=>exact CRep.mono (g:=.nl) h p m
 | agg l=>exact CRep.mono (g:=.agg l) h p m
 | tup l=>exact h.elim
 | ptr k o=>exact CRep.mono (g:=.ptr k o) h p m
 | sl l=>exact CRep.mono (g:=.sl l) h p m
 | osl k=>exact CRep.mono (g:=.osl k) h p m
 | osv k sz lo hi=>exact CRep.mono (g:=.osv k sz lo hi) h p m
theorem TRep.mono (h:TRep I V g x)(b:I.le I')(j:V.le V'):TRep I' V' g x:=by
 cases g with
 | tup l =>
  obtain⟨cs,e,h⟩:=h;exact⟨cs,e,h.mono λ_ _ h=>h.mono b j⟩
 | mp k=>exact TRep1.mono (g:=.mp k) h b j
 | clo f a c=>exact TRep1.mono (g:=.clo f a c) h b j
 | v y=>exact TRep1.mono (g:=.v y) h b j
 | tt=>exact TRep1.mono (g:=.tt) h b j
 | ff=>exact TRep1.mono (g:=.ff) h b j
 | un=>exact TRep1.mono (g:=.un) h b j
 | nl=>exact TRep1.mono (g:=.nl) h b j
 | agg l=>exact TRep1.mono (g:=.agg l) h b j
 | oag l=>exact TRep1.mono (g:=.oag l) h b j
 | ptr k o=>exact TRep1.mono (g:=.ptr k o) h b j
 | sl l=>exact TRep1.mono (g:=.sl l) h b j
 | osl k=>exact TRep1.mono (g:=.osl k) h b j
 | osv k sz lo hi=>exact TRep1.mono (g:=.osv k sz lo hi) h b j
 | elp l o=>exact TRep1.mono (g:=.elp l o) h b j
 | oel k i s o=>exact TRep1.mono (g:=.oel k i s o) h b j
 | orv k i s o l c=>exact TRep1.mono (g:=.orv k i s o l c) h b j
theorem TRep1.of_c (h:CRep I V g x):TRep1 I V g x:=by cases g<;>first | exact h | exact h.elim
theorem TRep.of_1 (h:TRep1 I V g x):TRep I V g x:=by cases g<;>first | exact h | exact False.elim h
theorem TRep.of_c (h:CRep I V g x):TRep I V g x:=.of_1 (.of_c h)
theorem TRep.of_v (h:VRep I g x):TRep I V g x:=.of_c (.of_v h)
theorem Af {α:Type}(i j:Nat)(g:α)(l:List (Nat × α)):look i ((j,g)::l)=if i=j then some g else look i l:=by
 show(bif Nat.beq i j then some g else look i l)=_;by_cases h:i=j
 .subst h;simp[Nat.beq_refl]
 .have b:Nat.beq i j=false:=by
   cases hb:Nat.beq i j with
   | false=>rfl
   | true=>exact dt (ax hb) h
  rw[dp h,b];rfl
theorem Ea {α:Type}(l:List α)(n:Nat):nth l n=l[n]?:=by
 induction l generalizing n with
 | nil=>simp[nth]
 | cons a l ih=>cases n<;>simp[nth,ih]
structure Later (own:Os)(I:Imm)(V:Va)(w:World)(own':Os)(I':Imm)(V':Va)(w':World):Prop where
 has:Has I' V' own' w'
 fro:Fro own I V w own' I' V' w'
 va:V.le V'
theorem Fro.refl (own:Os)(I:Imm)(V:Va)(w:World):Fro own I V w own I V w :=
 ⟨rfl,rfl,rfl,av _,λ_ _ _=>⟨rfl,λ_=>rfl⟩,λ_ _ _ h=>h,λk r _ b c _=>⟨k,r,b,c⟩⟩
theorem Fro.trans (h:Fro own I V w own' I' V' w')(m:Fro own' I' V' w' own'' I'' V'' w''):Fro own I V w own'' I'' V'' w'':=by
 refine⟨m.os.trans h.os,m.tape.trans h.tape,m.output.trans h.output,cn h.size m.size,λb p z=>?_,λb o x C=>m.mono _ _ _ (h.mono _ _ _ C),λk r b q u p=>?_⟩
 .have B:=h.blk b p z;have A:=m.blk b (bd p h.size) λk r q u=>by
   obtain⟨j,r',s,c⟩:=h.foot k r b q u p;exact z j r' s c
  exact⟨A.1.trans B.1,λo=>(A.2 o).trans (B.2 o)⟩
 .obtain⟨j,r',s,c⟩:=m.foot k r b q u (bd p h.size);exact h.foot j r' b s c p
theorem Later.trans (h:Later own I V w own' I' V' w')(b:Later own' I' V' w' own'' I'' V'' w''):Later own I V w own'' I'' V'' w'' :=
 ⟨b.has,h.fro.trans b.fro,h.va.trans b.va⟩
structure Since (own:Os)(I:Imm)(V:Va)(w:World)(own':Os)(I':Imm)(V':Va)(w':World):Prop where
 has:Has I' V' own' w'
 fro:Fro own I V w own' I' V' w'
 n:V.n<=V'.n
 bb:∀k,k < V.n->V'.b k=V.b k
 ss:∀k,k < V.n->V'.s k=V.s k
structure SinceC (own:Os)(I:Imm)(V:Va)(w:World)(own':Os)(I':Imm)(V':Va)(w':World):Prop where
 has:Has I' V' own' w'
 fro:Fro own I V w own' I' V' w'
 n:V.n<=V'.n
 bb:∀k,k < V.n->V'.b k=V.b k
theorem SinceC.trans (h:SinceC own I V w own' I' V' w')(b:Later own' I' V' w' own'' I'' V'' w''):SinceC own I V w own'' I'' V'' w'':=⟨b.has,h.fro.trans b.fro,cn h.n b.va.1,λk c=>(b.va.2 k (bd c h.n)).1.trans (h.bb k c)⟩
theorem SinceC.tail (h:SinceC own I V w own' I' V' w')(b:Since own' I' V' w' own'' I'' V'' w''):SinceC own I V w own'' I'' V'' w'':=⟨b.has,h.fro.trans b.fro,cn h.n b.n,λk c=>(b.bb k (bd c h.n)).trans (h.bb k c)⟩
theorem Since.trans (h:Since own I V w own' I' V' w')(b:Later own' I' V' w' own'' I'' V'' w''):Since own I V w own'' I'' V'' w'':=⟨b.has,h.fro.trans b.fro,cn h.n b.va.1,λk c=>(b.va.2 k (bd c h.n)).1.trans (h.bb k c),λk c=>(b.va.2 k (bd c h.n)).2.trans (h.ss k c)⟩
theorem Since.tail (h:Since own I V w own' I' V' w')(b:Since own' I' V' w' own'' I'' V'' w''):Since own I V w own'' I'' V'' w'':=⟨b.has,h.fro.trans b.fro,cn h.n b.n,λk c=>(b.bb k (bd c h.n)).trans (h.bb k c),λk c=>(b.ss k (bd c h.n)).trans (h.ss k c)⟩
theorem Later.since (h:Later own I V w own' I' V' w'):Since own I V w own' I' V' w':=⟨h.has,h.fro,h.va.1,λk b=>(h.va.2 k b).1,λk b=>(h.va.2 k b).2⟩
theorem Since.later (h:Since own I V w own' I' V' w'):Later own I V w own' I' V' w':=⟨h.has,h.fro,h.n,λk b=>⟨h.bb k b,h.ss k b⟩⟩
theorem Later.refl (h:Has I V own w):Later own I V w own I V w:=⟨h,.refl _ _ _ _,.refl _⟩
theorem Al.mono {κ:Type}:∀{l:List (κ × G)} {L:List (κ × Value)},Al I l L->I.le I'->Al I' l L
 | [],[],_,_=>trivial
 | _::_,_::_,h,hI=>⟨h.1,h.2.1.mono hI,Al.mono h.2.2 hI⟩
theorem MapR.keep {κ:Type}{m:Nat}{b:κ->Value}{l:List (κ × G)}(h:MapR I w m b l)(c:I.le I')(q:w'.heap[m]?=w.heap[m]?):MapR I' w' m b l:=by obtain⟨L,p,j⟩:=h;exact⟨L,p.of_block q,j.mono c⟩
theorem RRep.keep (h:RRep I V k w r)(B:I.le I')(E:V.le V')(W:k < V.n)(A:V'.f k=V.f k)(M:w'.os=w.os)(hs:w.heap.size<=w'.heap.size)(C:∀b,V.f k b->w'.heap[b]?=w.heap[b]?):RRep I' V' k w' r:=by
 have z:=(E.2 k W).1;have T:=(E.2 k W).2;cases r with
 | blk cs t =>
  obtain⟨a,us,b,c⟩:=h;refine⟨λb=>by rw[A,z];exact a b,us,by rw[z,C _ ((a _).2 rfl)];exact b,c.mono λ_ _ h=>h.mono B E⟩
 | slc rows e sz =>
  obtain⟨a,rs,b,c,d,O,H,e3⟩:=h;refine⟨λb=>by rw[A,T];exact a b,rs,?_,c,λi r u hr hu=>(d i r u hr hu).mono λ_ _ h=>h.mono B,O,H,e3⟩;rw[T];refine⟨b.1,?_⟩;rcases b.2 with b | ⟨g,cap,cur,hv,hg,hh,rest⟩
  .exact .inl b
  .exact .inr ⟨g,cap,cur,hv,hg,by rw[C g ((a g).2 (by rw[hv];rfl))];exact hh,rest⟩
 | vw rows e sz =>
  obtain⟨a,rs,b,c,d,O,H,e3⟩:=h;refine⟨λb=>by rw[A,T];exact a b,rs,?_,c,λi r u hr hu=>(d i r u hr hu).mono λ_ _ h=>h.mono B,O,H,e3⟩;rw[T];refine⟨b.1,?_⟩;rcases b.2 with b | ⟨g,q,cap,cur,hv,hh,rest⟩
  .exact .inl b
  .exact .inr ⟨g,q,cap,cur,hv,by rw[C g ((a g).2 (by rw[hv];rfl))];exact hh,rest⟩
 | froz rows sz=>exact⟨λb=>by rw[A];exact h.1 b,by rw[T];exact h.2.1.mono B,h.2.2⟩
 | gone=>exact λb=>by rw[A];exact h b
 | mpI l=>exact⟨λb=>by rw[A,z];exact h.1 b,by rw[z];exact h.2.keep B (C _ ((h.1 _).2 rfl))⟩
 | mpS l=>exact⟨λb=>by rw[A,z];exact h.1 b,by rw[z];exact h.2.keep B (C _ ((h.1 _).2 rfl))⟩
 | sit s pos=>exact⟨λb=>by rw[A,z];exact h.1 b,by rw[z,C _ ((h.1 _).2 rfl)];exact h.2⟩
 | mpX l m ob =>
  obtain⟨a,q,b,c⟩:=h;have e:=C m ((a m).2 q.symm);exact⟨λb=>by rw[A,z];exact a b,z.trans q,e.trans b,c.keep B e⟩
 | mit j l D last m ob =>
  obtain⟨a,it,L,b,c,d⟩:=h;refine⟨λb=>by rw[A,z];exact a b,it,L,by rw[z,C _ ((a _).2 rfl)];exact b,c.mono B,λw2 O H=>?_⟩;rw[z] at H⊢;obtain⟨X,Y⟩:=d w2 O H;exact⟨X,λkg W=>(Y kg W).imp λv h=>⟨h.1.mono B,h.2⟩⟩
 | abs p=>exact⟨h.1,by rw[A,z];exact h.1 _ _ _ _ _ _ h.2 B M hs C⟩
 | lnk j =>
  obtain⟨a,J,m,e⟩:=h;exact⟨λb=>by rw[A];exact a b,bd J E.1,m,by rw[(E.2 j J).2,z];exact e⟩
 | adr j b =>
  obtain⟨a,J,e⟩:=h;exact⟨λb=>by rw[A];exact a b,bd J E.1,by rw[(E.2 j J).1];exact e⟩
 | fam ps =>
  obtain⟨a,F,X,Y,q3⟩:=h;refine⟨a,F,λc=>by rw[A];exact X c,Y,λi p hp=>?_⟩;obtain⟨b,Z⟩:=q3 i p hp;exact⟨b,a p (au hp) _ _ _ _ _ _ Z B M hs λc hc=>C c ((X c).2 ⟨i,(ar.1 hp).1,hc⟩)⟩
theorem Mem.keep (h:Mem I w)(j:∀b o x,I b o=some x->w'.heap[b]?=w.heap[b]?):Mem I w':=λb o x c=>by rw[ac (w:=w) (a:=⟨b,o,none⟩) (j b o x c)];exact h b o x c
theorem Mem.lt (h:Mem I w){b o:Nat}{x:Value}(c:I b o=some x):b < w.heap.size:=World.block_lt_of_cell? w ⟨b,o,none⟩ (h b o x c)
theorem Has.heap (h:Has I V own w)(j:w'.heap=w.heap)(m:w'.os=w.os):Has I V own w' :=
 ⟨h.mem.keep λb _ _ _=>by rw[j],h.num,λk r c=>(h.each k r c).keep (.refl _) (.refl _) (h.num k r c) rfl m (by rw[j];exact av _) λb _=>by rw[j],λk r b c p=>by rw[j];exact h.foot k r b c p,h.disj⟩
def Va.push (V:Va)(b:Nat)(s:Value)(f:Nat->Prop):Va:=⟨V.n+1,λk=>if k=V.n then b else V.b k,λk=>if k=V.n then s else V.s k,λk=>if k=V.n then f else V.f k⟩
theorem Va.push_le (V:Va)(b:Nat)(s:Value)(f:Nat->Prop):V.le (V.push b s f):=⟨Nat.le_succ _,λk c=>by simp[Va.push,Nat.ne_of_lt c]⟩
theorem Dl (h:Has I V own w)(z:Below w.heap.size w w')(b:Nat)(s:Value)(f:Nat->Prop)(D:∀k,f k->w.heap.size<=k/\k < w'.heap.size)(hr:RRep I (V.push b s f) V.n w' r) :
  Later own I V w ((V.n,r)::own) I (V.push b s f) w':=by
 have p:∀k,k < V.n->(V.push b s f).f k=V.f k:=λk c=>by simp[Va.push,Nat.ne_of_lt c]
 have A:(V.push b s f).f V.n=f:=by simp[Va.push]
 refine⟨⟨h.mem.keep λb o x M=>z.block b (h.mem.lt M),λk r' c=>?_,λk r' c=>?_,λk r' m c j=>?_,λk C F E m c u j q=>?_⟩,⟨z.os,z.tape,z.output,z.size,λb j _=>⟨z.block b j,λ_=>rfl⟩,λ_ _ _ h=>h,λk r' m c j J=>?_⟩,V.push_le b s f⟩
 .rw[Af] at c;split at c
  .next e=>subst e;exact db _
  .exact Nat.lt_succ_of_lt (h.num k r' c)
 .rw[Af] at c;split at c
  .next e=>subst e;cases c;exact hr
  .have B:=h.num k r' c;exact(h.each k r' c).keep (.refl _) (V.push_le b s f) B (p k B) z.os z.size λm j=>z.block m (h.foot k r' m c j).1
 .rw[Af] at c;split at c
  .next e =>
   subst e;rw[A] at j;refine⟨(D m j).2,λo=>?_⟩;cases hI:I m o with
   | none=>rfl
   | some x=>exact dt (h.mem.lt hI) (by have:=(D m j).1;omega)
  .have B:=h.num k r' c;rw[p k B] at j;exact⟨bd (h.foot k r' m c j).1 z.size,(h.foot k r' m c j).2⟩
 .rw[Af] at c u;split at c<;>split at u
  .next e H=>rw[e,H]
  .next e H =>
   have B:=h.num C E u;rw[p C B] at q;rw[e,A] at j;exact dt (h.foot C E m u q).1 (by have:=(D m j).1;omega)
  .next e H =>
   have B:=h.num k F c;rw[p k B] at j;rw[H,A] at q;exact dt (h.foot k F m c j).1 (by have:=(D m q).1;omega)
  .rw[p k (h.num k F c)] at j;rw[p C (h.num C E u)] at q;exact h.disj k C F E m c u j q
 .rw[Af] at c;split at c
  .next e=>rw[e,A] at j;exact dt J (by have:=(D m j).1;omega)
  .rw[p k (h.num k r' c)] at j;exact⟨k,r',c,j⟩
theorem Dj (h:Has I V own w){u:R}(z:look k own=some u)(C:w'.os=w.os)(E:w'.tape=w.tape)(J:w'.output=w.output)(M:w'.heap.size=w.heap.size)(B:∀b,¬V.f k b->w'.heap[b]?=w.heap[b]?)(hr:RRep I V k w' r) :
  Later own I V w ((k,r)::own) I V w':=by
 have A:∀j r',look j own=some r'->j≠k->∀b,V.f j b->¬V.f k b:=λj r' c A b m p=>A (h.disj j k r' u b c z m p);refine⟨⟨h.mem.keep λb o x Y=>B b λF=>?_,λj r' c=>?_,λj r' c=>?_,λj r' q c m=>?_,λj H T O q c s m p=>?_⟩,⟨C,E,J,by omega,λb X W=>⟨B b (W k u z),λ_=>rfl⟩,λ_ _ _ h=>h,λj r' q c m _=>?_⟩,.refl _⟩
 .have:=(h.foot k u b z F).2 o;rw[Y] at this;cases this
 .rw[Af] at c;split at c
  .next e=>subst e;exact h.num j u z
  .exact h.num j r' c
 .rw[Af] at c;split at c
  .next e=>subst e;cases c;exact hr
  .next e=>exact(h.each j r' c).keep (.refl _) (.refl _) (h.num j r' c) rfl C (by omega) λq F=>B q (A j r' c e q F)
 .rw[M];rw[Af] at c;split at c
  .next e=>subst e;exact h.foot j u q z m
  .exact h.foot j r' q c m
 .rw[Af] at c s;split at c<;>split at s
  .next e D=>rw[e,D]
  .next e D=>subst e;exact h.disj j H u O q z s m p
  .next e D=>subst D;exact h.disj j H T u q c z m p
  .exact h.disj j H T O q c s m p
 .rw[Af] at c;split at c
  .next e=>exact⟨k,u,z,e ▸ m⟩
  .exact⟨j,r',c,m⟩
def Va.drop (V:Va)(k:Nat):Va:={V with f:=λj=>if j=k then λ_=>False else V.f j}
theorem Hf (h:Has I V own w){E:R}(F:look k own=some E)(H:I.le I')(X:Mem I' w)(B:∀b o,¬V.f k b->I' b o=I b o)(hr:RRep I' (V.drop k) k w r) :
  Later own I V w ((k,r)::own) I' (V.drop k) w:=by
 have D:∀j,j≠k->(V.drop k).f j=V.f j:=λj c=>by simp[Va.drop,c]
 have s:∀b,¬(V.drop k).f k b:=λb=>by simp[Va.drop]
 have C:V.le (V.drop k):=⟨av _,λ_ _=>⟨rfl,rfl⟩⟩;have u:∀j r',look j own=some r'->j≠k->∀b,V.f j b->¬V.f k b:=λj r' c u b m p=>u (h.disj j k r' E b c F m p);refine⟨⟨X,λj r' c=>?_,λj r' c=>?_,λj r' q c m=>?_,λj J O M q c z m p=>?_⟩,⟨rfl,rfl,rfl,av _,λb W T=>⟨rfl,λo=>B b o (T k E F)⟩,H,λj r' q c m _=>?_⟩,C⟩
 .rw[Af] at c;split at c
  .next e=>subst e;exact h.num j E F
  .exact h.num j r' c
 .rw[Af] at c;split at c
  .next e=>subst e;cases c;exact hr
  .next e=>exact(h.each j r' c).keep H C (h.num j r' c) (D j e) rfl (av _) λq _=>rfl
 .rw[Af] at c;split at c
  .next e=>subst e;exact dt m (s q)
  .next e =>
   rw[D j e] at m;exact⟨(h.foot j r' q c m).1,λo=>(B q o (u j r' c e q m)).trans ((h.foot j r' q c m).2 o)⟩
 .rw[Af] at c z;split at c<;>split at z
  .next e A=>rw[e,A]
  .next e A=>rw[e] at m;exact dt m (s q)
  .next e A=>rw[A] at p;exact dt p (s q)
  .next e A=>rw[D j e] at m;rw[D J A] at p;exact h.disj j J O M q c z m p
 .rw[Af] at c;split at c
  .next e=>rw[e] at m;exact dt m (s q)
  .next e=>rw[D j e] at m;exact⟨j,r',c,m⟩
end
section
variable {α:Type} {w0 w w':World} {L:List (Nat × List Value × TypeId)} {U:List (World × List Nat)} {g k i:Nat} {row:List Value}
variable {o:Oper} {a:Act} {K:Act->World->Prop} {Q:Exit->Act->World->Prop}
variable {base sz bytes:Nat} {t e te:TypeId} {f:α->List Value} {v:Value} {l:List α}
theorem Own.frm {S:List Nat}(h:Own w base e sz f v l)(m:Frm S w w')(j:∀k∈S,k < base):Own w' base e sz f v l:=by
 refine⟨h.1,?_⟩;rcases h.2 with p | ⟨b,cap,cur,rfl,hb,hg,h3⟩
 .exact .inl p
 .exact .inr ⟨b,cap,cur,rfl,hb,(m.block b (bz.1 hg).1 (λc=>by have:=j b c;omega)).trans hg,h3⟩
end
section
variable {P:Program} {w:World}
theorem Z4 (t ty e:TypeId)(i:TypeInfo)(z:Value)(size bytes:Nat)(M:P.underlying t=some (.slice e))(T:P.info? e=some i)(Y:i.zero=some z)
  (B:i.size=size) (F:i.bytes=bytes) (O:z.cells.size=size) (X:0 < size) (v:Value) (n:Nat) (xs:List Value) (p:w.ownsRow 0 e size v n xs)
  (A:Option Addr) (m c:Nat) (b:List Value) (J:b.length=m * size) (hA:A=none->m=0/\c=0) (h:∀a,A=some a->∀j u,b[j]?=some u->w.cell? (a.add j)=some u) (Z:∀u∈b,u.oneCell'=true)
  (D:n+m<=maxLen) (q:(n+m) * bytes<=140737488355328) :
  ∃E w',(Builtin.append_ #[t,t] ty #[v,.slice A m c]).run P w=.ok E w'/\w'.ownsRow 0 e size E (n+m) (xs++b)/\w.grownBy w' v.ownBlock/\(E.ownBlock=v.ownBlock\/∃g,E.ownBlock=some g/\w.heap.size<=g/\g < w'.heap.size):=by
 cases A with
 | none =>
  obtain⟨rfl,rfl⟩:=hA rfl;have hn:b=[]:=az (by simpa using J);subst hn;exact⟨v,w,run_append_owned_none w 0 t ty e i size M T v n xs p,by simpa using p,World.grownBy.refl _ _,.inl rfl⟩
 | some a =>
  have h:=h a rfl;obtain⟨E,w',hr,h2,h3,-⟩:=run_append_own (P:=P) w 0 t ty e i z size bytes M T Y B F O X v n xs p a m c b J h Z D q (aw _);refine⟨E,w',hr,h2,h3,?_⟩;rcases p.2 with⟨rfl,rfl⟩ | ⟨g,cap,cur,rfl,-,hg,hnc,hcm,hcs,htake⟩
  .have H:w.ownsRow w.heap.size e size (.slice none 0 0) 0 xs:=⟨p.1,.inl ⟨rfl,rfl⟩⟩;obtain⟨v2,w2,s,k2,-,-⟩:=run_append_own (P:=P) w w.heap.size t ty e i z size bytes M T Y B F O X _ 0 xs H a m c b J h Z D q (av _);rw[hr] at s;injection s with e1 e2;subst e1 e2;cases hv:E.ownBlock with
   | none=>exact .inl rfl
   | some g'=>exact .inr ⟨g',rfl,k2.lt g' hv⟩
  .subst B;by_cases C:n+m<=cap
   .have W:n * i.size+b.length<=cur.size:=by rw[J,hcs,<-Nat.add_mul];exact Nat.mul_le_mul_right _ C
    have s:=run_append_room (P:=P) w t ty e i M T g n cap cur hg a m c b J h Z C W;rw[hr] at s;injection s with e1 e2;subst e1;exact .inl rfl
   .have s:=run_append_grow (P:=P) w t ty e i z M T Y ⟨g,0,none⟩ n cap xs p.1 (p.cells (g:=g) rfl) a m c b J h (by omega) (by unfold maxLen at D;omega) (growslice_fits (by omega) (by rw[F];exact q));rw[hr] at s;injection s with e1 e2;subst e1 e2;exact .inr ⟨_,rfl,av _,by simp⟩
theorem Tv (t J ty e:TypeId)(i:TypeInfo)(z:Value)(W:P.underlying t=some (.slice e))(B:P.underlying J=some .string)(Y:P.info? e=some i)(hz:i.zero=some z)
  (b:i.size=1) (X:z.cells.size=1) (v:Value) (n:Nat) (xs:List Value) (c:w.ownsRow 0 e 1 v n xs) (s:ByteArray) (E:n+s.size<=maxLen) (u:(n+s.size) * i.bytes<=140737488355328) :
  ∃q w',(Builtin.append_ #[t,J] ty #[v,.string s]).run P w=.ok q w'/\w'.ownsRow 0 e 1 q (n+s.size) (xs++byteCells s)/\w.grownBy w' v.ownBlock/\(q.ownBlock=v.ownBlock\/∃g,q.ownBlock=some g/\w.heap.size<=g/\g < w'.heap.size):=by
 have h:Src P i.size J (.string s) s.size (byteCells s) w:=by rw[b];exact Src.ofString w B s
 have j:(xs++byteCells s).length=(n+s.size) * 1:=by rw[bg,c.1,byteCells_length];omega
 have grown:∀(base:Option Addr) (cap:Nat) (p:List Value),p=xs->cap < n+s.size->(Builtin.firstCells i.size n (.slice base n cap)).run P w.drew=.ok p.toArray w.drew->v=.slice base n cap->∃q w',(Builtin.append_ #[t,J] ty #[v,.string s]).run P w=.ok q w'/\w'.ownsRow 0 e 1 q (n+s.size) (xs++byteCells s)/\w.grownBy w' v.ownBlock/\(q.ownBlock=v.ownBlock\/∃g,q.ownBlock=some g/\w.heap.size<=g/\g < w'.heap.size):=λbase cap p Z O D hv=>by
  subst Z hv;have hr:=run_append_grow_src (P:=P) w t J ty e i z W Y hz base n cap p D (.string s) s.size (byteCells s) h O (by unfold maxLen at E;omega) (growslice_fits (by omega) u);have F:=grownCap_ge w (n+s.size) cap e;have A:=grownCap_le_maxLen w (n+s.size) cap e E;generalize grownCap w (n+s.size) cap e=G at hr F A;refine⟨_,_,hr,⟨j,.inr ⟨w.heap.size,G,_,rfl,aw _,heap_alloc_new w.drew _,F,A,?_,?_⟩⟩,⟨rfl,rfl,rfl,by simp,λk T _=>(World.grownBy_alloc w.drew _ none).block k T (by simp)⟩,.inr ⟨_,rfl,av _,by simp⟩⟩
  .rw[Array.size_append,List.size_toArray,j,size_zeroCells,X];omega
  .rw[Array.toList_append];exact List.take_left' j
 rcases c.2 with⟨rfl,rfl⟩ | ⟨g,cap,cur,rfl,-,O,hnc,A,hcs,htake⟩
 .have hx:xs=[]:=az (by simpa using c.1);subst hx;by_cases M:s.size=0
  .have hb:byteCells s=[]:=az (by rw[byteCells_length];exact M);refine⟨.slice none 0 0,w,?_,by rw[hb,M];exact World.ownsRow_nil w 0 e 1,World.grownBy.refl _ _,.inl rfl⟩;have H:=h.cells;rw[M] at H;simp[Builtin.append_,run_underlying W,run_underlying B,sizeOf,typeInfo,Y,Builtin.lenOf,M,H]
  .exact grown none 0 [] rfl (by omega) (by simpa using run_firstCells_none (P:=P) w.drew i.size 0 0 0) rfl
 .by_cases m:n+s.size<=cap
  .have C:=run_storeCells_at P g (n * 1) e (byteCells s) 0 cur w O (by rw[byteCells_length,hcs];omega) h.one;have H:=h.cells;rw[b] at H;refine⟨.slice (some ⟨g,0,none⟩) (n+s.size) cap,w.setRow g (cur.toList.take (n * 1)++byteCells s++cur.toList.drop (n * 1+(byteCells s).length)).toArray,?_,⟨j,.inr ⟨g,cap,_,rfl,aw _,setRow_heap w g cur _ e (0,0) O,m,A,?_,?_⟩⟩,⟨rfl,rfl,rfl,by simp,λk _ T=>setRow_other w g k _ (λe=>T (by simp[Value.ownBlock,e]))⟩,.inl rfl⟩
   .simp only[Nat.add_zero] at C;simp[Builtin.append_,run_underlying W,run_underlying B,sizeOf,typeInfo,Y,b,h.len,m,H,Addr.add_lit];simp at C;rw[C];rfl
   .simp only[List.size_toArray,List.length_append,List.length_take,List.length_drop,Array.length_toList,byteCells_length,hcs];omega
   .rw[show n * 1=n * 1 from rfl,htake,<-j];exact List.take_left
  .exact grown (some ⟨g,0,none⟩) cap xs rfl (by omega) (by rw[b];exact run_firstCells_some (P:=P) w.drew 1 n ⟨g,0,none⟩ n cap xs c.1 (c.cells (g:=g) rfl)) rfl
end
section
variable {I I':Imm} {V V':Va} {g:G} {x:Value} {w w':World} {own:Os} {k n sz:Nat} {r:R} {t:Ts} {l:List (List G)}
theorem Lx (h:VRep I g x)(b:g.one=true):x.oneCell'=true:=by cases h<;>first | exact b | rfl | cases b
theorem Bq {rs:List (List Value)}(h:∀u∈rs,u.length=sz):rs.flatten.length=rs.length * sz:=by
 induction rs with
 | nil=>simp
 | cons u rs ih=>rw[ck,bg,h u (by simp),ih λv b=>h v (by simp[b]),bn,Nat.add_mul];omega
theorem Co:∀{rs:List (List Value)} (_:∀u∈rs,u.length=sz) {i:Nat} {u:List Value} (_:rs[i]?=some u) {j:Nat} {x:Value} (_:u[j]?=some x),rs.flatten[i * sz+j]?=some x
 | [],_,i,_,b,_,_,_=>by simp at b
 | v::rs,h,0,u,b,j,x,hx=>by simp at b;subst b;rw[ck,Nat.zero_mul,co,bu (ar.1 hx).1];exact hx
 | v::rs,h,i+1,u,b,j,x,hx=>by have c:=h v (by simp);rw[ck,bp (by rw[c,Nat.add_mul];omega),c,show(i+1) * sz+j - sz=i * sz+j by rw[Nat.add_mul];omega];exact Co (λu b=>h u (by simp[b])) (by simpa using b) hx
theorem Pu {rs:List (List Value)}(h:∀u∈rs,u.length=sz){m:Nat}{x:Value}(A:rs.flatten[m]?=some x):∃i j u,m=i * sz+j/\j < sz/\rs[i]?=some u/\u[j]?=some x:=by
 have q:=(ar.1 A).1;rw[Bq h] at q;have B:0 < sz:=by
  rcases ak sz with b | b
  .subst b;simp at q
  .exact b
 have p:m / sz < rs.length:=Nat.div_lt_of_lt_mul (by rw[Nat.mul_comm];exact q);have c:=Nat.mod_lt m B;have z:rs[m / sz].length=sz:=h _ (bw p);refine⟨m / sz,m % sz,rs[m / sz],(Nat.div_add_mod' m sz).symm,c,aq p,?_⟩;have s:=Co h (aq p) (aq (by rw[z];exact c:m % sz < rs[m / sz].length));rw[Nat.div_add_mod' m sz,A] at s;rw[aq (by rw[z];exact c)];exact s.symm
theorem Z1e (h:VRep I (.sl l) x)(T:Mem I w)(C:∀r∈l,r.length=sz):∃A c,∃rs:List (List Value),x=.slice A l.length c/\l.length<=c/\(A=none->l=[]/\c=0)/\rs.length=l.length/\(∀(i:Nat) r u,l[i]?=some r->rs[i]?=some u->PW (VRep I) r u)/\(∀u∈rs,u.length=sz)/\∀a,A=some a->∀m x,rs.flatten[m]?=some x->I a.block (a.off+m)=some x/\w.cell? (a.add m)=some x:=by
 cases h with
 | sl l A c sz0 u hc hA hz0 h hu =>
  refine⟨A,c,(List.range l.length).map λi=>(List.range sz).map (u i),rfl,hc,λe=>⟨?_,hA e⟩,by simp,λi r v hr p=>?_,λv p=>?_,λa ha m x O=>?_⟩
  .cases l with
   | nil=>rfl
   | cons r l=>obtain⟨b,o,E,-⟩:=h 0 r rfl;rw[e] at E;cases E
  .have s:=(ar.1 hr).1;rw[ay,cz s] at p;simp at p;subst p;refine⟨by rw[C r (au hr)];simp,λj g y F B=>?_⟩;have z:=(ar.1 F).1;rw[C r (au hr)] at z;rw[ay,cz z] at B;simp at B;subst B;exact hu i r j g hr F
  .obtain⟨i,-,rfl⟩:=bk.1 p;simp
  .obtain⟨i,j,v,rfl,z,p,q⟩:=Pu (sz:=sz) (λv p=>by obtain⟨i,-,rfl⟩:=bk.1 p;simp) O;have s:i < l.length:=by have:=(ar.1 p).1;simpa using this
   rw[ay,cz s] at p;simp at p;subst p;rw[ay,cz z] at q;simp at q;subst q;obtain⟨b,o,e,M⟩:=h i l[i] (aq s);rw[ha] at e;obtain rfl:=cu e;have H:sz0=sz:=(hz0 _ (bw s)).symm.trans (C _ (bw s));subst H;have D:=M j z;refine⟨by rw[<-dc];exact D,?_⟩;have J:=T b _ _ D;rw[<-J];unfold Addr.add;split
   .next W=>rw[show o+i * sz0+j=o by omega]
   .rw[dc]
theorem Xk {b o c:Nat}{rs:List (List Value)}(B:rs.length=l.length)(H:l.length<=c)(E:∀(i:Nat) r u,l[i]?=some r->rs[i]?=some u->PW (VRep I) r u)(s:∀u∈rs,u.length=sz)(J:∀m x,rs.flatten[m]?=some x->I b (o+m)=some x):VRep I (.sl l) (.slice (some ⟨b,o,none⟩) l.length c):=by
 have hr:∀(i:Nat) r,l[i]?=some r->∃u,rs[i]?=some u/\PW (VRep I) r u/\u.length=sz:=λi r hr=>by
  have C:=(ar.1 hr).1;have p:i < rs.length:=by omega
  exact⟨rs[i],aq p,E i r _ hr (aq p),s _ (bw p)⟩
 refine .sl l _ c sz (λi j=>(rs.flatten[i * sz+j]?).getD undef) H (λe=>by cases e) (λr M=>?_) (λi r h=>⟨b,o,rfl,λj T=>?_⟩) (λi r j g h O=>?_)
 .obtain⟨i,C,e⟩:=ct.1 M;obtain⟨u,-,q,A⟩:=hr i r (by rw[aq C,e]);exact q.1.trans A
 .obtain⟨u,z,q,A⟩:=hr i r h;have:=Co s z (aq (by omega:j < u.length));rw[dc,this];exact J _ _ this
 .obtain⟨u,z,q,A⟩:=hr i r h;obtain⟨y,D,F⟩:=q.get O;rw[Co s z D];exact F
end
def G.val:G->Value
 | .v x=>x
 | .ff=>.bool false
 | .nl=>.slice none 0 0
 | _=>undef
def zOK:G->Bool
 | .v x=>x.oneCell'
 | .ff | .nl=>true
 | _=>false
def Zgc (P:Program)(t:TypeId):KD->Prop
 | .no=>True
 | .arr n e sz=>P.underlying t=some (.array n e)/\(P.info? e).map (·.size)=some sz
 | .fn=>True
 | .map s e=>∃b,P.underlying t=some (.map b e)/\P.underlying b=some (if s=true then .string else .int .i64)
 | .ptr=>∃e,P.underlying t=some (.pointer e)
 | .bool=>P.underlying t=some .bool
structure TIok (P:Program)(t:TypeId)(i:TI):Prop where
 agg:Pi P t=some i.agg
 size:(P.info? t).map (·.size)=some i.zero.length
 zero:((P.info? t).bind (·.zero)).map (λz=>z.cells.toList)=some (i.zero.map G.val)
 zok:Bw zOK i.zero=true
 elem:∀e sz,i.elem=some (e,sz)->P.underlying t=some (.slice e)/\∃j z,P.info? e=some j/\j.zero=some z/\j.size=sz/\z.cells.size=sz/\0 < sz/\j.bytes<=65536
 str:i.str=true->P.underlying t=some .string
 ik:∀k,i.ik=some k->P.underlying t=some (.int k)
 zag:∀z,(P.info? t).bind (·.zero)=some z->if i.agg=true then ∃cs,z=.agg cs else z.cells=#[z]
 kd:Zgc P t i.kd
 flds:i.flds≠[]->∃F,P.underlying t=some (.struct F)/\F.toList.map (λf=>(f.type,f.offset))=i.flds/\∀f∈F.toList,∃m,(P.info? f.type).map (·.size)=some (m+1)
def vEq:Value->Value->Bool
 | .int k n,.int k' n'=>decide (k=k')&&decide (n=n')
 | .bool a,.bool b=>decide (a=b)
 | .string a,.string b=>decide (a.data.toList=b.data.toList)
 | .slice none 0 0,.slice none 0 0=>true
 | .pointer none,.pointer none=>true
 | .map none,.map none=>true
 | .nilFunc,.nilFunc=>true
 | .nilIface,.nilIface=>true
 | _,_=>false
theorem Zbv {a b:Value}(h:vEq a b=true):a=b:=by
 unfold vEq at h;split at h
 .simp at h;rw[h.1,h.2]
 .simp at h;rw[h]
 .next a b =>
  have h:=of_decide_eq_true h;obtain⟨⟨a⟩⟩:=a;obtain⟨⟨b⟩⟩:=b;simp at h;rw[h]
 all_goals first | rfl | cases h
def Zdz:List Value->List Value->Bool
 | [],[]=>true
 | a::l,b::m=>vEq a b&&Zdz l m
 | _,_=>false
theorem Z04:∀{l m:List Value},Zdz l m=true->l=m
 | [],[],_=>rfl
 | a::l,b::m,h=>by simp[Zdz] at h;rw[Zbv h.1,Z04 h.2]
def tiB (P:Program)(t:TypeId)(i:TI):Bool :=
 (Pi P t==some i.agg)&&((P.info? t).map (·.size)==some i.zero.length)&&(match(P.info? t).bind (·.zero) with | some z=>Zdz z.cells.toList (i.zero.map G.val) | none=>false)&&Bw zOK i.zero &&
 (match i.elem with
  | none=>true
  | some (e,sz)=>(match P.underlying t with | some (.slice e')=>decide (e'=e) | _=>false)&&(match P.info? e with | some j=>(match j.zero with | some z=>decide (z.cells.size=sz) | none=>false)&&decide (j.size=sz)&&decide (0 < sz)&&decide (j.bytes<=65536) | none=>false)) &&
 (match i.str,P.underlying t with | false,_=>true | true,some .string=>true | _,_=>false) &&
 (match i.ik,P.underlying t with | none,_=>true | some k,some (.int k')=>decide (k'=k) | _,_=>false) &&
 (match(P.info? t).bind (·.zero) with | some (.agg _)=>i.agg | some _=>!i.agg | none=>false) &&
 (match i.kd,P.underlying t with
  | .no,_=>true
  | .fn,_=>true
  | .arr n e sz,some (.array n' e')=>decide (n'=n)&&decide (e'=e)&&((P.info? e).map (·.size)==some sz)
  | .map s e,some (.map kt e')=>decide (e'=e)&&(match s,P.underlying kt with | true,some .string=>true | false,some (.int .i64)=>true | _,_=>false)
  | .ptr,some (.pointer _)=>true
  | .bool,some .bool=>true
  | _,_=>false) &&
 (match i.flds with
  | []=>true
  | fl=>match P.underlying t with | some (.struct F)=>decide (F.toList.map (λf=>(f.type,f.offset))=fl)&&F.toList.all (λf=>match P.info? f.type with | some j=>decide (0 < j.size) | none=>false) | _=>false)
theorem Zci {P:Program}{t:TypeId}{i:TI}(h:tiB P t i=true):TIok P t i:=by
 unfold tiB at h;simp only[Bool.and_eq_true] at h;obtain⟨⟨⟨⟨⟨⟨⟨⟨⟨m,c⟩,Y⟩,h4⟩,A⟩,O⟩,q⟩,p⟩,b⟩,B⟩:=h;refine⟨by simpa using m,by simpa using c,?_,h4,λe sz J=>?_,λJ=>?_,λk J=>?_,λz H=>?_,?_,λhn=>?_⟩
 .split at Y
  .next z H=>rw[H];simp[Z04 Y]
  .cases Y
 .rw[J] at A;simp only[Bool.and_eq_true] at A;obtain⟨A,u⟩:=A;split at A
  .next e' M =>
   have:=of_decide_eq_true A;subst this;refine⟨M,?_⟩;split at u
   .next j X =>
    simp only[Bool.and_eq_true] at u;obtain⟨⟨⟨u,D⟩,Z⟩,T⟩:=u;split at u
    .next z H=>exact⟨j,z,X,H,of_decide_eq_true D,of_decide_eq_true u,of_decide_eq_true Z,of_decide_eq_true T⟩
    .cases u
   .cases u
  .cases A
 .rw[J] at O;split at O
  .next h=>cases h
  .next M=>exact M
  .cases O
 .rw[J] at q;split at q
  .next h=>cases h
  .next k' C h M =>
   cases h;rw[M,of_decide_eq_true q]
  .cases q
 .rw[H] at p;split at p
  .next cs h=>cases h;rw[dq p];exact⟨cs,rfl⟩
  .next z' W h =>
   cases h;rw[dp (by simpa using p)];cases z<;>first | rfl | exact dt rfl (W _)
  .next h=>cases h
 .split at b
  .next e=>rw[e];exact trivial
  .next e=>rw[e];exact trivial
  .next n e sz n' e' m c =>
   rw[m];simp only[Bool.and_eq_true] at b;obtain⟨⟨E,C⟩,k3⟩:=b;exact⟨by rw[c,of_decide_eq_true E,of_decide_eq_true C],by simpa using k3⟩
  .next s e kt e' m c =>
   rw[m];simp only[Bool.and_eq_true] at b;obtain⟨E,C⟩:=b;have E:=of_decide_eq_true E;subst E;refine⟨kt,c,?_⟩;split at C
   .next h=>rw[h];rfl
   .next h=>rw[h];rfl
   .cases C
  .next m c=>rw[m];exact⟨_,c⟩
  .next m c=>rw[m];exact c
  .cases b
 .split at B
  .next h0=>exact dt h0 hn
  .split at B
   .next F hF =>
    simp only[Bool.and_eq_true,List.all_eq_true] at B;refine⟨F,hF,of_decide_eq_true B.1,λf hf=>?_⟩;have D:=B.2 f hf;split at D
    .next j X =>
     have Z:=of_decide_eq_true D;exact⟨j.size - 1,by rw[X];simp;omega⟩
    .cases D
   .cases B
def Zfw (P:Program)(l:List (Nat × TI)):Bool:=l.all λp=>tiB P p.1 p.2
theorem Om {α:Type}{k:Nat}{x:α}:∀{l:List (Nat × α)},look k l=some x->(k,x)∈l
 | [],h=>by cases h
 | (j,y)::l,h=>by
  rw[Af] at h;split at h
  .next e=>subst e;cases h;simp
  .simp[Om h]
theorem Z2a {P:Program}{l:List (Nat × TI)}(h:Zfw P l=true)(t:TypeId)(i:TI)(c:look t l=some i):TIok P t i:=by have b:tiB P t i=true:=List.all_eq_true.1 h (t,i) (Om c);exact Zci b
structure ARep (N:Nat)(I:Imm)(V:Va)(a:Act)(t:Ts):Prop where
 defers:a.defers=[]
 size:a.tmps.size=N
 get:∀i g,look i t=some g->∃x,a.tmps[i]?=some x/\TRep I V g x
section
variable {P:Program} {tb:List (Nat × TI)} {N:Nat} {I I':Imm} {V V':Va} {a:Act} {t:Ts} {own own':Os} {w w':World} {x:Operand} {g:G} {y:Value} {d:Option Tmp}
theorem ARep.mono (h:ARep N I V a t)(b:I.le I')(j:V.le V'):ARep N I' V' a t :=
 ⟨h.defers,h.size,λi g p=>by obtain⟨x,m,c⟩:=h.get i g p;exact⟨x,m,c.mono b j⟩⟩
theorem ARep.sub {b:Ts}(h:ARep N I V a t)(c:∀i g,look i b=some g->look i t=some g):ARep N I V a b:=⟨h.defers,h.size,λi g e=>h.get i g (c i g e)⟩
theorem ARep.put (h:ARep N I V a t)(hd:∀i,d=some i->i < N)(q:TRep I V g y):ARep N I V (a.put d y) (put d g t):=by
 cases d with
 | none=>exact h
 | some d =>
  refine⟨h.defers,by simp[Act.put,h.size],λi j b=>?_⟩
  change look i ((d,g)::t)=some j at b
  rw[Af] at b;have c:d < a.tmps.size:=by rw[h.size];exact hd d rfl
  split at b
  .next e =>
   subst e;cases b;exact⟨y,by simp[Act.put,c],q⟩
  .next e =>
   obtain⟨z,p,m⟩:=h.get i j b;refine⟨z,?_,m⟩;show(a.tmps.setIfInBounds d y)[i]?=_;rw[Array.getElem?_setIfInBounds_ne (Ne.symm e)];exact p
theorem Zdi (x:Value):TRep I V (Gof x) x:=by
 apply TRep.of_v;unfold Gof;split
 .exact .tt
 .exact .ff
 .exact .nl
 .exact .v x
theorem B5 {K:G->Prop}(h:ev t own x K)(ha:ARep N I V a t)(hH:Has I V own w):∃g,K g/\TRep I V g (a.eval x):=by
 cases x with
 | tmp i =>
  unfold ev at h;dsimp only at h;cases hl:look i t with
  | none=>rw[hl] at h;exact h.elim
  | some g =>
   obtain⟨y,j,b⟩:=ha.get i g hl;have e:a.eval (.tmp i)=y:=by simp[Act.eval,j]
   rw[e];rw[hl] at h;cases g with
   | osl k =>
    dsimp only at h;split at h
    .next c hr =>
     refine⟨_,h,TRep.of_v ?_⟩;have m:=(hH.each k _ hr).2.1;rw[show y=V.s k from b.2];exact m
    .exact⟨_,h,b⟩
   | _=>exact⟨_,h,b⟩
 | const x=>exact⟨_,h,Zdi x⟩
 | func f=>exact⟨.v (.func (.func f) #[] #[]),h,TRep.of_v (.v _)⟩
 | global g=>exact False.elim h
theorem Nq:∀{l:List Operand} {K:List G->Prop},evs t own l K->ARep N I V a t->Has I V own w->∃gs,K gs/\PW (TRep I V) gs (l.map a.eval)
 | [],K,h,_,_=>⟨[],h,.nil⟩
 | x::l,K,h,ha,hH=>by obtain⟨g,c,b⟩:=B5 (K:=λg=>evs t own l λr=>K (g::r)) h ha hH;obtain⟨gs,m,j⟩:=Nq c ha hH;exact⟨_,m,.cons b j⟩
theorem Ta {Q:G->Value->Prop}:∀{l:List G} {cs:List Value} {k n:Nat} {K:List G->Prop},Ze7 l k n K->PW Q l cs->∃c,K c/\PW Q c ((cs.drop k).take n)/\k+n<=cs.length+(if n=0 then k else 0)
 | l,cs,k,0,K,h,_=>by cases l<;>exact⟨[],h,by simpa using PW.nil,by simp⟩
 | [],cs,k,n+1,K,h,_=>by cases k<;>exact h.elim
 | g::l,cs,0,n+1,K,h,hp=>by obtain⟨x,m,rfl,s,q⟩:=hp.uncons;obtain⟨c,p,j,b⟩:=Ta (K:=λr=>K (g::r)) h q;refine⟨_,p,by simpa using PW.cons s (by simpa using j),?_⟩;simp only[List.length_cons] at b⊢;split at b<;>simp<;>omega
 | g::l,cs,k+1,n+1,K,h,hp=>by obtain⟨x,m,rfl,s,q⟩:=hp.uncons;obtain⟨c,p,j,b⟩:=Ta (k:=k) (n:=n+1) h q;refine⟨_,p,by simpa using j,?_⟩;simp only[List.length_cons] at b⊢;simp at b⊢;omega
theorem PW.part {Q:G->Value->Prop}{l:List G}{cs:List Value}(h:PW Q l cs)(k n:Nat):PW Q ((l.drop k).take n) ((cs.drop k).take n):=by
 refine⟨by simp[h.1],λj g u b c=>?_⟩;rw[br] at b c;split at b
 .next m =>
  rw[dq m] at c;rw[ce] at b c;exact h.2 _ g u b c
 .cases b
theorem Lo {Q:G->Value->Prop}{l:List G}{cs:List Value}{k n:Nat}{K:List G->Prop}(h:seg l k n K)(b:PW Q l cs):∃c,K c/\PW Q c ((cs.drop k).take n)/\k+n<=cs.length+(if n=0 then k else 0):=by
 unfold seg at h;split at h
 .exact Ta h b
 .exact⟨_,h.next,b.part k n,by have:=h.fit;have:=b.1;omega⟩
theorem Ot {Q:G->Value->Prop}{l:List G}{cs:List Value}{k n:Nat}{K:List G->Prop}(h:seg l k n K)(c:PW Q l cs)(j:0 < n):k+n<=cs.length:=by obtain⟨-,-,-,b⟩:=Lo h c;rw[dp (by omega)] at b;exact b
theorem Tw {Q:G->Value->Prop}:∀{l:List G} {cs:List Value} {k:Nat} {m:List G} {ds:List Value} {K:List G->Prop},Ze1 l k m K->PW Q l cs->PW Q m ds->∃j,K j/\PW Q j (cs.take k++ds++cs.drop (k+ds.length))/\(ds≠[]->k+ds.length<=cs.length)
 | l,cs,k,[],ds,K,h,hp,hd=>by rw[hd.of_nil];refine⟨l,?_,by simpa using hp,by simp⟩;cases l<;>first | exact h | (cases k<;>exact h)
 | [],cs,k,c::m,ds,K,h,hp,hd=>by cases k<;>exact h.elim
 | g::l,cs,0,c::m,ds,K,h,hp,hd=>by
  obtain⟨x,u,rfl,B,s⟩:=hp.uncons;obtain⟨y,b,rfl,C,E⟩:=hd.uncons;obtain⟨j,q,p,A⟩:=Tw (K:=λr=>K (c::r)) h s E;refine⟨_,q,by simpa using PW.cons C (by simpa using p),λ_=>?_⟩;cases b with
  | nil=>simp
  | cons z b=>have:=A (by simp);simp at this⊢;omega
 | g::l,cs,k+1,c::m,ds,K,h,hp,hd=>by obtain⟨x,u,rfl,B,s⟩:=hp.uncons;obtain⟨j,q,p,A⟩:=Tw (k:=k) (K:=λr=>K (g::r)) h s hd;refine⟨_,q,?_,λD=>by have:=A D;simp;omega⟩;have:=PW.cons B p;simpa [Nat.add_right_comm] using this
theorem Qw {Q:G->Value->Prop}{n:Nat}{l:List G}{cs:List Value}{k:Nat}{m:List G}{ds:List Value}{K:List G->Prop}(h:ovr n l k m K)(b:PW Q l cs)(hd:PW Q m ds):∃p,K p/\PW Q p (cs.take k++ds++cs.drop (k+ds.length))/\(ds≠[]->k+ds.length<=cs.length):=by
 unfold ovr at h;split at h
 .exact Tw h b hd
 .obtain⟨⟨z,u⟩,q⟩:=h;have A:=b.1;have s:=hd.1;refine⟨_,q,?_,λ_=>by omega⟩;have c:=b.part 0 k;have j:=b.part (k+n) (cs.length);rw[List.drop_zero,List.drop_zero] at c;rw[bc (by rw[bm];omega),bc (by rw[bm];omega)] at j;rw[show k+ds.length=k+n by omega];exact(c.append hd).append j
theorem Ao {α:Type}{p:α->Bool}:∀{l:List α},Bw p l=true->∀x∈l,p x=true
 | [],_,_,b=>by simp at b
 | y::l,h,x,b=>by
  unfold Bw at h;cases hp:p y with
  | false=>rw[hp] at h;cases h
  | true =>
   rw[hp] at h;rcases bq.1 b with rfl | b
   .exact hp
   .exact Ao h x b
theorem Il {n:Nat}{l:List G}{K:G->Prop}{cs:List Value}(h:Hm n l K)(b:PW (CRep I V) l cs):∃g,K g/\TRep I V g (.agg cs.toArray):=by
 unfold Hm at h;split at h
 .split at h
  .next p=>exact⟨_,h,.of_v (.agg l cs b.1 λj g u c m=>(b.2 j g u c m).to_v (Ao p g (au c)))⟩
  .exact⟨_,h,.of_1 (g:=.oag l) ⟨cs,rfl,b⟩⟩
 .exact⟨_,h.next,.of_v (.agg l cs b.1 λj g u c m=>(b.2 j g u c m).to_v (h.fit g (au c)))⟩
theorem Z7m {n:Nat}(h:Ty n=true):48 < n:=dn h
theorem Zc {n:Nat}{cs:List G}{A:Prop}(h:Zed n cs A):cs.length=n/\A:=by
 unfold Zed at h;split at h
 .split at h
  .next b=>exact⟨ax b,h⟩
  .exact h.elim
 .exact⟨h.fit,h.next⟩
theorem Lq {g:G}(h:O3 g=true):∃x,g=.v x/\x.oneCell'=true:=by cases g<;>first | exact⟨_,rfl,h⟩ | cases h
theorem Lw {g:G}(h:O3 g=true):g.pure=true:=by obtain⟨x,rfl,-⟩:=Lq h;rfl
theorem Z5s {g:G}(h:O3 g=true):G.one g=true:=by obtain⟨x,rfl,b⟩:=Lq h;exact b
theorem Zj {g:G}(h:O3 g=true):Zai own g=true:=by obtain⟨x,rfl,b⟩:=Lq h;exact b
theorem Fs {α:Type}{p:α->Bool}:∀{l:List α},(∀x∈l,p x=true)->Bw p l=true
 | [],_=>rfl
 | x::l,h=>by unfold Bw;rw[h x (by simp)];exact Fs λy b=>h y (by simp[b])
theorem Z2g {n:Nat}{cs:List G}{A:Prop}(h:Zd3 n own cs A):Bw (Zai own) cs=true/\cs.length=n/\cs≠[]/\A/\(Ty n=true->Bw G.pure cs=true):=by
 unfold Zd3 at h;split at h
 .next b =>
  split at h
  .next m j=>exact⟨m,ax j,by simp,h,λe=>by rw[e] at b;cases b⟩
  .exact h.elim
 .next b =>
  have:=Z7m b;exact⟨Fs λg c=>Zj (h.fit.2 g c),h.fit.1,λe=>(by have:=h.fit.1;rw[e] at this;simp at this;omega),h.next,λ_=>Fs λg c=>Lw (h.fit.2 g c)⟩
theorem Oe {k:Nat}{o:Os}{K1:Nat->Prop}:∀{l:Os},Z9w k o l K1->∃b i,look i o=some (.adr k b)/\K1 b
 | [],h=>h.elim
 | (i,r)::l,h=>by
  unfold Z9w at h;split at h
  .next j b c =>
   split at h
   .next m =>
    have:=ax m;subst this;exact⟨b,i,c,h⟩
   .exact Oe h
  .exact Oe h
theorem Tn {n:Nat}{cs:List G}{A:Prop}(h:Zdv n cs A)(j:Ty n=true->Bw G.pure cs=true):Bw G.pure cs=true/\A:=by
 unfold Zdv at h;split at h
 .split at h
  .next c=>exact⟨c,h⟩
  .exact h.elim
 .next b=>exact⟨j b,h⟩
theorem Z0x {x:Value}(h:x.oneCell'=true):x.cells=#[x]:=by cases x<;>first | rfl | cases h
theorem He {K:List G->Prop}(h:G5 own g K)(D:TRep I V g y)(hH:Has I V own w):∃cs,K cs/\PW (CRep I V) cs y.cells.toList/\(∀b,y=.agg b->b.toList=y.cells.toList):=by
 cases g with
 | agg l =>
  cases(show VRep I (.agg l) y from D) with
  | agg l cs hl hh=>exact⟨l,h,(⟨hl,λj g u B p=>.of_v (hh j g u B p)⟩:PW (CRep I V) l cs),λb e=>by cases e;rfl⟩
 | oag l =>
  obtain⟨cs,rfl,F⟩:=(show TRep1 I V (.oag l) y from D);exact⟨l,h,by simpa [Value.cells] using F,λb e=>by cases e;rfl⟩
 | tup l=>exact h.elim
 | elp r o=>exact h.elim
 | oel k i s o=>exact h.elim
 | orv k i s o l c=>exact h.elim
 | un=>exact h.elim
 | clo f a c=>exact h.elim
 | mp k=>obtain⟨E,rfl⟩:=(show CRep I V (.mp k) y from D);exact⟨_,h,by simpa [Value.cells] using PW.cons (g:=.mp k) ⟨E,rfl⟩ .nil,λb e=>by cases e⟩
 | v z =>
  cases(show VRep I (.v z) y from D);unfold G5 at h;dsimp only at h;split at h
  .next B=>exact⟨_,h,by rw[Z0x B];exact PW.cons (.of_v (.v _)) .nil,λb e=>by subst e;cases B⟩
  .exact h.elim
 | tt=>cases(show VRep I .tt y from D);exact⟨_,h,by simpa [Value.cells] using PW.cons (.of_v .tt) .nil,λb e=>by cases e⟩
 | ff=>cases(show VRep I .ff y from D);exact⟨_,h,by simpa [Value.cells] using PW.cons (.of_v .ff) .nil,λb e=>by cases e⟩
 | nl=>cases(show VRep I .nl y from D);exact⟨_,h,by simpa [Value.cells] using PW.cons (.of_v .nl) .nil,λb e=>by cases e⟩
 | ptr k o=>obtain⟨E,rfl⟩:=(show CRep I V (.ptr k o) y from D);exact⟨_,h,by simpa [Value.cells] using PW.cons (g:=.ptr k o) ⟨E,rfl⟩ .nil,λb e=>by cases e⟩
 | sl l =>
  have B:=(show VRep I (.sl l) y from D);have p:=B;cases p with
  | sl l A c sz u hc hA hz hh hu=>exact⟨[.sl l],h,by simpa [Value.cells] using PW.cons (.of_v B) .nil,λb e=>by cases e⟩
 | osl k =>
  obtain⟨E,rfl⟩:=(show CRep I V (.osl k) y from D);unfold G5 at h;dsimp only at h;split at h
  .next m e sz hr =>
   obtain⟨-,rs,p,-⟩:=hH.each k _ hr;have H:∃A n c,V.s k=.slice A n c:=by
    rcases p.2 with⟨e,-⟩ | ⟨g,cap,cur,e,-⟩
    .exact⟨_,_,_,e⟩
    .exact⟨_,_,_,e⟩
   obtain⟨A,n,c,e⟩:=H;exact⟨_,h,by rw[e];simpa [Value.cells] using PW.cons (g:=.osl k) (l:=[]) (P:=CRep I V) ⟨E,e.symm⟩ .nil,λb C=>by rw[e] at C;cases C⟩
  .next m sz hr =>
   obtain⟨-,B,-⟩:=hH.each k _ hr;have p:=B;generalize V.s k=z at B p;cases p with
   | sl l A c sz u hc hA hz hh hu=>exact⟨[.sl m],h,by simpa [Value.cells] using PW.cons (.of_v B) .nil,λb e=>by cases e⟩
  .next m e sz hr =>
   obtain⟨-,rs,p,-⟩:=hH.each k _ hr;have H:∃A n c,V.s k=.slice A n c:=by
    rcases p.2 with⟨e,-⟩ | ⟨g,q,cap,cur,e,-⟩
    .exact⟨_,_,_,e⟩
    .exact⟨_,_,_,e⟩
   obtain⟨A,n,c,e⟩:=H;exact⟨_,h,by rw[e];simpa [Value.cells] using PW.cons (g:=.osl k) (l:=[]) (P:=CRep I V) ⟨E,e.symm⟩ .nil,λb C=>by rw[e] at C;cases C⟩
  .exact h.elim
 | osv k sz lo hi =>
  obtain⟨E,M,rfl⟩:=(show k < V.n/\(lo<=hi/\hi<=Mz (V.s k))/\y=Kv sz (V.s k) lo hi from D);unfold G5 at h;dsimp only at h;split at h
  .next m e J hr =>
   obtain⟨-,rs,p,-⟩:=hH.each k _ hr;have H:∃A n c,V.s k=.slice A n c:=by
    rcases p.2 with⟨e,-⟩ | ⟨g,cap,cur,e,-⟩
    .exact⟨_,_,_,e⟩
    .exact⟨_,_,_,e⟩
   obtain⟨A,n,c,e⟩:=H;exact⟨_,h,PW.cons (g:=.osv k sz lo hi) (l:=[]) (P:=CRep I V) (cs:=[]) (x:=Kv sz (V.s k) lo hi) ⟨E,M,rfl⟩ .nil |> λF=>(by rw[e] at F⊢;exact F),λb C=>by rw[e] at C;cases C⟩
  .next m e J hr =>
   obtain⟨-,rs,p,-⟩:=hH.each k _ hr;have H:∃A n c,V.s k=.slice A n c:=by
    rcases p.2 with⟨e,-⟩ | ⟨g,q,cap,cur,e,-⟩
    .exact⟨_,_,_,e⟩
    .exact⟨_,_,_,e⟩
   obtain⟨A,n,c,e⟩:=H;exact⟨_,h,PW.cons (g:=.osv k sz lo hi) (l:=[]) (P:=CRep I V) (cs:=[]) (x:=Kv sz (V.s k) lo hi) ⟨E,M,rfl⟩ .nil |> λF=>(by rw[e] at F⊢;exact F),λb C=>by rw[e] at C;cases C⟩
  .exact h.elim
end
def Nxt (N:Nat)(own0:Os)(I0:Imm)(V0:Va)(w0:World)(K:Ts->Os->Nat->Prop)(next:Act->World->Prop):Prop :=
 ∀t own I V a w,K t own V.n->Since own0 I0 V0 w0 own I V w->ARep N I V a t->next a w
def Agree (V:Va)(XL:List Nat)(w u:World):Prop:=∀b,b < w.heap.size->(∀k∈XL,¬V.f k b)->u.heap[b]?=w.heap[b]?
def Va.kp (V V':Va):Prop:=∀k,k < V.n->∀b,V'.f k b->V.f k b
theorem Va.kp.refl (V:Va):V.kp V:=λ_ _ _ h=>h
theorem Va.kp.trans {V V' V'':Va}(h:V.kp V')(m:V.n<=V'.n)(j:V'.kp V''):V.kp V'':=λk c b p=>h k c b (j k (bd c m) b p)
theorem Va.kp.push (V:Va)(b:Nat)(s:Value)(f:Nat->Prop):V.kp (V.push b s f):=λk c b h=>by simpa [Va.push,Nat.ne_of_lt c] using h
theorem Va.kp.drop (V:Va)(k:Nat):V.kp (V.drop k):=λj _ b c=>by
 change (if j=k then λ_=>False else V.f j) b at c
 split at c
 .exact c.elim
 .exact c
def QOk (S:World->Prop)(P:Program)(I:Imm)(V:Va)(own:Os)(_:World)(a:Act)(t:Ts)(o:Oper)(K:Ts->Os->Nat->Prop):Prop :=
 ∃g y,K (put o.dst g t) own V.n/\TRep I V g y/\∀u,S u->(execOp a.eval o).run P u=.ok (.value y) u
def NxtB (N:Nat)(own:Os)(I:Imm)(V:Va)(w:World)(K:Ts->Os->Nat->Prop)(next:Act->World->Prop):Prop :=
 ∀t own' I' V' a w',K t own' V'.n->Later own I V w own' I' V' w'->Below w.heap.size w w'->V.kp V'->ARep N I' V' a t->next a w'
section
variable {P:Program} {tb:List (Nat × TI)} {N:Nat} {I I' I0:Imm} {V V' V0:Va} {a:Act} {t:Ts} {own own' own0:Os} {w w' w0:World} {x:Operand} {g:G} {y:Value} {d:Option Tmp} {o:Oper}
variable {K:Ts->Os->Nat->Prop} {next:Act->World->Prop} {Q:Exit->Act->World->Prop}
theorem fin (hK:Nxt N own0 I0 V0 w0 K next)(hL:Since own0 I0 V0 w0 own I V w)(ha:ARep N I V a t)(hd:∀i,o.dst=some i->i < N)
  (hr:(execOp a.eval o).run P w=.ok (.value y) w') (b:Later own I V w own' I' V' w') (h:TRep I' V' g y) (c:K (put o.dst g t) own' V'.n):o.wp P a w next Q:=by
 unfold Oper.wp;rw[hr];exact hK _ _ _ _ _ _ c (hL.trans b) ((ha.mono b.fro.mono b.va).put hd h)
theorem QOk.wp {S:World->Prop}(h:QOk S P I V own w a t o K)(j:S w)(hK:Nxt N own0 I0 V0 w0 K next)(hL:Since own0 I0 V0 w0 own I V w)(ha:ARep N I V a t)(hd:∀i,o.dst=some i->i < N):o.wp P a w next Q:=by obtain⟨g,y,b,c,hr⟩:=h;exact fin hK hL ha hd (hr w j) (.refl hL.has) c b
theorem Ry (hK:NxtB N own I V w K next)(ha:ARep N I V a t)(hd:∀i,o.dst=some i->i < N)
  (hr:(execOp a.eval o).run P w=.ok (.value y) w') (c:Later own I V w own' I' V' w') (m:Below w.heap.size w w') (b:V.kp V') (j:TRep I' V' g y) (h:K (put o.dst g t) own' V'.n):o.wp P a w next Q:=by
 unfold Oper.wp;rw[hr];exact hK _ _ _ _ _ _ h c m b ((ha.mono c.fro.mono c.va).put hd j)
theorem NxtB.of (hK:Nxt N own0 I0 V0 w0 K next)(hL:Since own0 I0 V0 w0 own I V w):NxtB N own I V w K next:=λ_ _ _ _ _ _ b c _ _ ha=>hK _ _ _ _ _ _ b (hL.trans c) ha
theorem Ph (hK:Nxt N own0 I0 V0 w0 K next)(hL:Since own0 I0 V0 w0 own I V w)(ha:ARep N I V a t)(hd:∀i,o.dst=some i->i < N)
  (hr:(execOp a.eval o).run P w=.ok .skip w') (b:Later own I V w own' I' V' w') (c:K (put o.dst .un t) own' V'.n):o.wp P a w next Q:=by
 unfold Oper.wp;rw[hr];exact hK _ _ _ _ _ _ c (hL.trans b) ((ha.mono b.fro.mono b.va).put hd (.of_v .un))
theorem Agree.cell {XL:List Nat}{u:World}(h:Agree V XL w u){b o:Nat}{v:Value}(j:w.cell? ⟨b,o,none⟩=some v)(m:∀k∈XL,¬V.f k b):u.cell? ⟨b,o,none⟩=some v:=by have c:=World.block_lt_of_cell? w ⟨b,o,none⟩ j;rw[ac (w:=w) (w':=u) (a:=⟨b,o,none⟩) (h b c m)];exact j
theorem Cv (b o k:Nat):(⟨b,o,none⟩:Addr).add k=⟨b,o+k,none⟩:=by unfold Addr.add;split<;>simp_all
theorem L5 {b:TypeId}{i:TI}(h:TIok P b i)(cs:List Value)(off:Nat)(w:World):(part b cs.toArray off).run P w =
  if i.agg=true then .ok (.agg ((cs.drop off).take i.zero.length).toArray) w else(match cs[off]? with | some v=>.ok v w | none=>.halt (.stuck "part: no such cell") w):=by
 unfold part;have c:=Br (P:=P) h.size w;simp only[Sem.run_bind,H7 h.agg,Result.andThen_ok];cases i.agg with
 | true=>simp[c,Result.andThen]
 | false=>simp;split<;>simp_all [Go.stuck]
theorem Z1i {ty:TypeId}{i:TI}(h:TIok P ty i)(m:i.agg=true){b off:Nat}{cs:List Value}(c:cs.length=i.zero.length)(p:∀(j:Nat) v,cs[j]?=some v->w.cell? ⟨b,off+j,none⟩=some v) :
  (Instr.loadAt ty (.pointer (some ⟨b,off,none⟩))).run P w=.ok (.agg cs.toArray) w:=by
 have:=D2 (P:=P) (w:=w) (g:=b) (k:=off) (ty:=ty) (cs:=cs) (by rw[h.agg,m]) (by rw[h.size,c]) p;simp only[Instr.loadAt,Instr.sureAddr,Sem.run_bind,Sem.run_pure,Result.andThen_ok,this]
theorem Z70 {ty:TypeId}{i:TI}(h:TIok P ty i)(j:i.agg=false){b off:Nat}{v:Value}(c:w.cell? ⟨b,off,none⟩=some v) :
  (Instr.loadAt ty (.pointer (some ⟨b,off,none⟩))).run P w=.ok v w:=by
 simp only[Instr.loadAt,Instr.sureAddr,loadVar,Sem.run_bind,Sem.run_pure,Result.andThen_ok,H7 (P:=P) (show Pi P ty=some false by rw[h.agg,j]),run_load,c,Bool.false_eq_true,if_false]
theorem Zb4 {row:List G}{b o:Nat}(h:∀(j:Nat) g,row[j]?=some g->∃u,I b (o+j)=some u/\VRep I g u):∃z,PW (VRep I) row z/\∀(j:Nat) u,z[j]?=some u->I b (o+j)=some u:=by
 refine⟨(List.range row.length).map λj=>(I b (o+j)).getD undef,⟨by simp,λj g u s c=>?_⟩,λj u c=>?_⟩
 .have m:=(ar.1 s).1;rw[ay,cz m] at c;obtain⟨v,p,q⟩:=h j g s;simp[p] at c;subst c;exact q
 .have m:j < row.length:=by have:=(ar.1 c).1;simpa using this
  rw[ay,cz m] at c;obtain⟨v,p,q⟩:=h j row[j] (aq m);simp[p] at c;subst c;exact p
theorem J1 {cs:List Value}{k n j:Nat}{v:Value}(h:((cs.drop k).take n)[j]?=some v):cs[k+j]?=some v:=by
 rw[br] at h;split at h
 .rw[ce] at h;exact h
 .cases h
theorem Ze0 {l:List G}{cs:List Value}(h:PW (VRep I) l cs):VRep I (.agg l) (.agg cs.toArray):=.agg l cs h.1 h.2
theorem Qo (hH:Has I V own w){k e sz:Nat}{h:List (List G)}(A:look k own=some (.slc h e sz)){b n c:Nat}(q:V.s k=.slice (some ⟨b,0,none⟩) n c) :
  ∃rs:List (List Value),∃m:Array Value,w.heap[b]?=some (.cells m e (0,0))/\rs.length=h.length/\(∀(i:Nat) r u,h[i]?=some r->rs[i]?=some u->PW (VRep I) r u)/\(∀u∈rs,u.length=sz)/\(∀u∈rs,∀x∈u,x.oneCell'=true)/\n=h.length/\n<=c/\c<=maxLen/\m.size=c * sz/\m.toList.take (n * sz)=rs.flatten/\∀i u j x,rs[i]?=some u->u[j]?=some x->w.cell? ⟨b,i * sz+j,none⟩=some x:=by
 obtain⟨-,rs,⟨M,C⟩,B,F,z,E,J⟩:=hH.each k _ A;rcases C with⟨p,-⟩ | ⟨g,cap,m,p,-,hg,hn,hm,hc,ht⟩
 .rw[q] at p;cases p
 .rw[q] at p;injection p with p e2 e3;injection p with p;injection p with p;subst p e2 e3;refine⟨rs,m,hg,B,F,z,E,rfl,hn,hm,hc,ht,λi u j x D H=>?_⟩;rw[cell_of_row w b _ m e (0,0) hg];have:=Co z D H;rw[<-ht,br] at this;split at this
  .simpa using this
  .cases this
theorem Z3f (hH:Has I V own w){k e sz:Nat}{j:List (List G)}(p:look k own=some (.slc j e sz)){b q n c:Nat}(m:V.s k=.slice (some ⟨b,q,none⟩) n c):q=0:=by
 obtain⟨-,rs,⟨z,u⟩,-⟩:=hH.each k _ p;rcases u with⟨h,-⟩ | ⟨g,cap,cur,h,-⟩
 .rw[m] at h;cases h
 .rw[m] at h;injection h with h e2 e3;injection h with h;injection h
theorem Zb2 (hH:Has I V own w){k e sz:Nat}{h:List (List G)}(B:look k own=some (.vw h e sz)){b q n c:Nat}(z:V.s k=.slice (some ⟨b,q,none⟩) n c) :
  ∃rs:List (List Value),∃m:Array Value,w.heap[b]?=some (.cells m e (0,0))/\rs.length=h.length/\(∀(i:Nat) r u,h[i]?=some r->rs[i]?=some u->PW (VRep I) r u)/\(∀u∈rs,u.length=sz)/\(∀u∈rs,∀x∈u,x.oneCell'=true)/\n=h.length/\n<=c/\c<=maxLen/\q+c * sz<=m.size/\(m.toList.drop q).take (n * sz)=rs.flatten/\∀(i:Nat) u (j:Nat) x,rs[i]?=some u->u[j]?=some x->w.cell? ⟨b,q+i * sz+j,none⟩=some x:=by
 obtain⟨-,rs,⟨O,D⟩,C,H,A,F,M⟩:=hH.each k _ B;rcases D with⟨p,-⟩ | ⟨g,q',cap,m,p,hg,hn,hm,hc,ht⟩
 .rw[z] at p;cases p
 .rw[z] at p;injection p with p e2 e3;injection p with p;injection p with p e4;subst p e2 e3 e4;refine⟨rs,m,hg,C,H,A,F,rfl,hn,hm,hc,ht,λi u j x E J=>?_⟩;rw[cell_of_row w b _ m e (0,0) hg];have:=Co A E J;rw[<-ht,br] at this;split at this
  .rw[ce] at this;rw[dc];simpa using this
  .cases this
theorem Vy {base e sz n:Nat}{v:Value}{xs:List Value}(h:w.ownsRow base e sz v n xs):Ep w e sz v n xs:=by
 refine⟨h.1,?_⟩;rcases h.2 with b | ⟨g,cap,cur,e1,-,hg,hn,hm,hc,ht⟩
 .exact .inl b
 .exact .inr ⟨g,0,cap,cur,e1,hg,hn,hm,by rw[hc];omega,by rw[List.drop_zero];exact ht⟩
end
theorem Cc:∀{l:List Nat} {k:Nat},Fn k l=true↔k∈l
 | [],k=>by simp[Fn]
 | j::l,k=>by
  unfold Fn;have c:=Cc (l:=l) (k:=k);by_cases h:k=j
  .subst h;simp[Nat.beq_refl]
  .have b:Nat.beq k j=false:=by
    cases hb:Nat.beq k j with
    | false=>rfl
    | true=>exact dt (ax hb) h
   simp[b,c,h]
section
variable {P:Program} {tb:List (Nat × TI)} {N n:Nat} {I I' I0:Imm} {V V' V0:Va} {a:Act} {t:Ts} {own own' own0:Os} {w w' w0:World} {g:G} {y:Value} {d:Option Tmp}
variable {XL:List Nat} {S:World->Prop} {K:Ts->Os->Nat->Prop} {next:Act->World->Prop} {Q:Exit->Act->World->Prop} {o:Oper}
variable (hT:∀t i,look t tb=some i->TIok P t i) (hK:NxtB N own I V w K next) (hH:Has I V own w) (ha:ARep N I V a t) (hd:∀i,o.dst=some i->i < N)
include hH ha in
theorem Z6x {x:Operand}(b:o.op=.move x\/o.op=.assign x)(h:ev t own x λg=>K (put o.dst g t) own V.n):QOk S P I V own w a t o K:=by obtain⟨g,c,j⟩:=B5 h ha hH;refine⟨_,_,c,j,λu _=>?_⟩;rcases b with b | b<;>simp only[execOp,b,Sem.run_pure]
include hK hH ha hd in
theorem Zcc {e sz:Nat}(j:0 < sz)(c:o.op=.assign (.const (.slice none 0 0)))(h:K (put o.dst (.osl V.n) t) ((V.n,.slc [] e sz)::own) (V.n+1)):o.wp P a w next Q:=by
 refine Ry (g:=.osl V.n) (y:=.slice none 0 0) hK ha hd (w':=w) (by simp only[execOp,c,Sem.run_pure];rfl) (Dl (r:=.slc [] e sz) hH (ab _ _) 0 (.slice none 0 0) (λ_=>False) (λk h=>h.elim) ⟨?_,[],?_,rfl,?_,by simp,by simp,j⟩) (ab _ _) (.push _ _ _ _) (TRep.of_c (g:=.osl V.n) ⟨db _,by simp[Va.push]⟩) h
 .intro b;simp[Va.push,Value.ownBlock]
 .simp[Va.push];exact World.ownsRow_nil w 0 e sz
 .intro i r u hr;simp at hr
include hH ha in
theorem Zcf {c x y:Operand}(p:o.op=.pick c x y)(h:ev t own c λg=>match g with
  | .tt=>ev t own x λg=>K (put o.dst g t) own V.n
  | .ff=>ev t own y λg=>K (put o.dst g t) own V.n
  | .v (.bool c)=>EvIf c (ev t own x λg=>K (put o.dst g t) own V.n) (ev t own y λg=>K (put o.dst g t) own V.n)
  | _=>False):QOk S P I V own w a t o K:=by
 obtain⟨g,j,m⟩:=B5 h ha hH;have key:∀b,a.eval c=.bool b->(ev t own (if b=true then x else y) λg=>K (put o.dst g t) own V.n)->QOk S P I V own w a t o K:=λb q h=>by obtain⟨g,j,m⟩:=B5 h ha hH;refine⟨_,a.eval (if b=true then x else y),j,m,λu _=>?_⟩;cases b<;>simp[execOp,p,q,asBool]
 cases g with
 | tt=>exact key true (by generalize a.eval c=z at m;cases(show VRep I .tt z from m);rfl) j
 | ff=>exact key false (by generalize a.eval c=z at m;cases(show VRep I .ff z from m);rfl) j
 | v z =>
  have e:a.eval c=z:=by generalize a.eval c=u at m;cases(show VRep I (.v z) u from m);rfl
  cases z with
  | bool b =>
   cases b with
   | true=>exact key true e (j.1 rfl)
   | false=>exact key false e (j.2 rfl)
  | _=>exact j.elim
 | _=>exact j.elim
theorem Vj {I:Imm}{V:Va}{w':World}{b:Nat}{cs:List G}{j:List Value}{ty:TypeId}(p:w'.heap[b]?=some (.cells j.toArray ty (0,0)))(m:PW (CRep I V) cs j):RRep I (V.push b undef (·=b)) V.n w' (.blk cs ty):=by refine⟨λc=>by simp[Va.push],j,by simpa [Va.push] using p,m.mono λ_ _ h=>h.mono (.refl _) (V.push_le _ _ _)⟩
theorem Sw {i:TI}{ty:TypeId}(h:TIok P ty i):PW (CRep I V) i.zero (i.zero.map G.val):=by refine⟨by simp,λj g u c b=>?_⟩;rw[ay,c] at b;simp at b;subst b;have:=Ao h.zok g (au c);cases g<;>first | exact .of_v (.v _) | exact .of_v .ff | exact .of_v .nl | cases this
include hT hK hH ha hd in
theorem Z6e {ty:TypeId}(u:o.op=.alloc ty)(h:match look ty tb with
  | some i=>K (put o.dst (.ptr V.n 0) t) ((V.n,.blk i.zero ty)::own) (V.n+1)
  | none=>False):o.wp P a w next Q:=by
 cases hl:look ty tb with
 | none=>rw[hl] at h;exact h.elim
 | some i =>
  rw[hl] at h;have s:=hT ty i hl;obtain⟨z,q,b⟩:=bh.1 s.zero;obtain⟨j,m,p⟩:=Option.bind_eq_some_iff.1 q;have c:(zeroValue ty).run P w=.ok z w:=by simp[zeroValue,typeInfo,m,p]
  have e:z.cells=(i.zero.map G.val).toArray:=by rw[<-b]
  refine Ry (g:=.ptr V.n 0) (y:=.pointer (some ⟨w.heap.size,0,none⟩)) hK ha hd (w':=w.alloc (.cells (i.zero.map G.val).toArray ty)) ?_ (Dl hH ((ab _ _).alloc (av _) _) w.heap.size undef (·=w.heap.size) (λk e=>⟨Nat.le_of_eq e.symm,by subst e;simp⟩) (Vj (heap_alloc_new _ _) (Sw s))) ((ab _ _).alloc (av _) _) (.push _ _ _ _) (TRep.of_c (g:=.ptr V.n 0) ⟨db _,by simp[Va.push]⟩) h;simp only[execOp,u,Sem.run_bind,Instr.alloc,c,newVar,newRow,run_newObj_alloc,Sem.run_pure,Result.andThen_ok,e]
include hK hH ha hd in
theorem Zcp {ty:TypeId}{x:Operand}(j:o.op=.box ty x)(h:ev t own x λg=>G5 own g λcs=>K (put o.dst (.ptr V.n 0) t) ((V.n,.blk cs ty)::own) (V.n+1)):o.wp P a w next Q:=by obtain⟨g,b,m⟩:=B5 h ha hH;obtain⟨cs,b,c,-⟩:=He b m hH;refine Ry (g:=.ptr V.n 0) (y:=.pointer (some ⟨w.heap.size,0,none⟩)) hK ha hd (w':=w.alloc (.cells (a.eval x).cells.toList.toArray ty)) ?_ (Dl hH ((ab _ _).alloc (av _) _) w.heap.size undef (·=w.heap.size) (λk e=>⟨Nat.le_of_eq e.symm,by subst e;simp⟩) (Vj (heap_alloc_new _ _) c)) ((ab _ _).alloc (av _) _) (.push _ _ _ _) (TRep.of_c (g:=.ptr V.n 0) ⟨db _,by simp[Va.push]⟩) b;simp only[execOp,j,Sem.run_bind,Instr.box,newVar,newRow,run_newObj_alloc,Sem.run_pure,Result.andThen_ok,Array.toArray_toList]
theorem N9 (hH:Has I V own w){k:Nat}{cs:List G}{ty:TypeId}(m:look k own=some (.blk cs ty)):∃c:List Value,w.heap[V.b k]?=some (.cells c.toArray ty (0,0))/\PW (CRep I V) cs c/\∀j,w.cell? ⟨V.b k,j,none⟩=c[j]?:=by obtain⟨-,c,h,p⟩:=hH.each k _ m;exact⟨c,h,p,λj=>by rw[cell_of_row w _ j _ ty (0,0) h];simp⟩
theorem Cb {k off:Nat}(h:TRep I V (.ptr k off) y):k < V.n/\y=.pointer (some ⟨V.b k,off,none⟩):=h
theorem P0 {row:List G}{off:Nat}(h:TRep I V (.elp row off) y):∃b o,y=.pointer (some ⟨b,o+off,none⟩)/\∀(j:Nat) g,row[j]?=some g->∃u,I b (o+j)=some u/\VRep I g u:=h
theorem L9 {k i sz off:Nat}(h:TRep I V (.oel k i sz off) y):k < V.n/\∃b q n c,V.s k=.slice (some ⟨b,q,none⟩) n c/\y=.pointer (some ⟨b,q+(i * sz+off),none⟩):=h
theorem B0 {z:Value}(h:TRep I V (.v z) y):y=z:=by cases(show VRep I (.v z) y from h);rfl
theorem Z1f {ty:TypeId}{i:TI}(A:TIok P ty i){row:List G}{c:List Value}(m:PW (VRep I) row c){b q off:Nat}(_:∀(j:Nat) v,c[j]?=some v->w.cell? ⟨b,q+j,none⟩=some v){K1:G->Prop}
  (h:match i.agg with
   | true=>seg row off i.zero.length λl=>K1 (.agg l)
   | false=>match nth row off with
    | some g=>K1 g
    | none=>False):∃g v,K1 g/\VRep I g v/\∀u,(∀(j:Nat) v,c[j]?=some v->u.cell? ⟨b,q+j,none⟩=some v)->(Instr.loadAt ty (.pointer (some ⟨b,q+off,none⟩))).run P u=.ok v u:=by
 cases hb:i.agg with
 | true =>
  rw[hb] at h;obtain⟨l,C,B,-⟩:=Lo h m;have D:((c.drop off).take i.zero.length).length=i.zero.length:=by
   rcases ak i.zero.length with z | z
   .rw[z];simp
   .have:=Ot h m z;simp;omega
  exact⟨_,_,C,Ze0 B,λu s=>Z1i A hb D λj v p=>by rw[dc];exact s _ _ (J1 p)⟩
 | false =>
  rw[hb,Ea] at h;dsimp only at h;cases hr:row[off]? with
  | none=>rw[hr] at h;exact h.elim
  | some g =>
   rw[hr] at h;obtain⟨v,p,E⟩:=m.get hr;exact⟨g,v,h,E,λu s=>Z70 A hb (s _ _ p)⟩
theorem Sc {Q:G->Value->Prop}:∀{b:List (List G)} {rs:List (List Value)},rs.length=b.length->(∀(i:Nat) r u,b[i]?=some r->rs[i]?=some u->PW Q r u)->PW Q b.flatten rs.flatten
 | [],rs,h,_=>by have:rs=[]:=az (by simpa using h);subst this;exact .nil
 | r::b,rs,h,hp=>by
  cases rs with
  | nil=>simp at h
  | cons u rs =>
   rw[ck,ck];exact(hp 0 r u rfl rfl).append (Sc (by simpa using h) λi r u j c=>hp (i+1) r u (by simpa using j) (by simpa using c))
include hT hH ha in
theorem Zcn (hXL:∀k∈XL,∃r,look k own=some r)(hS:∀u,S u->Agree V XL w u){ty:TypeId}{x:Operand}(ho:o.op=.load ty x)(h:ev t own x λg=>match look ty tb with
  | none=>False
  | some i=>match g with
   | .ptr k off=>match look k own,Fn k XL with
    | some (.blk cs _),false=>match i.agg with
     | true=>seg cs off i.zero.length λl=>Hm i.zero.length l λg=>K (put o.dst g t) own V.n
     | false=>match nth cs off with
      | some g=>K (put o.dst g t) own V.n
      | none=>False
    | some (.lnk j),false=>match look j own,Fn j XL,i.agg with
     | some (.slc z _ 1),false,true=>Es (off+i.zero.length<=z.length/\∀r∈z,∀g∈r,g.pure=true) (K (put o.dst (.agg ((z.flatten.drop off).take i.zero.length)) t) own V.n)
     | _,_,_=>False
    | _,_=>False
   | .elp row off=>match i.agg with
     | true=>seg row off i.zero.length λl=>K (put o.dst (.agg l) t) own V.n
     | false=>match nth row off with
      | some g=>K (put o.dst g t) own V.n
      | none=>False
   | .oel k j sz off=>match look k own,Fn k XL with
    | some (.slc z _ sz'),false=>match Nat.beq sz sz' with
     | true=>EvIdx z j λrow=>match i.agg with
      | true=>seg row off i.zero.length λl=>K (put o.dst (.agg l) t) own V.n
      | false=>match nth row off with
       | some g=>K (put o.dst g t) own V.n
       | none=>False
     | false=>False
    | some (.vw z _ sz'),false=>match Nat.beq sz sz' with
     | true=>EvIdx z j λrow=>match i.agg with
      | true=>seg row off i.zero.length λl=>K (put o.dst (.agg l) t) own V.n
      | false=>match nth row off with
       | some g=>K (put o.dst g t) own V.n
       | none=>False
     | false=>False
    | _,_=>False
   | _=>False):QOk S P I V own w a t o K:=by
 obtain⟨g,s,hg⟩:=B5 h ha hH;cases hl:look ty tb with
 | none=>rw[hl] at s;exact s.elim
 | some i =>
  rw[hl] at s;have hi:=hT ty i hl;have run:∀{u v},(Instr.loadAt ty (a.eval x)).run P u=.ok v u->(execOp a.eval o).run P u=.ok (.value v) u:=λhr=>by simp only[execOp,ho,Sem.run_bind,hr,Result.andThen_ok,Sem.run_pure]
  have nX:∀{b k},(∃r,look k own=some r)->V.f k b->k ∉ XL->∀k'∈XL,¬V.f k' b:=λ{b k} ⟨r,hr⟩ hf s k' J O=>by obtain⟨r',h'⟩:=hXL k' J;exact s (hH.disj k k' r _ b hr h' hf O ▸ J)
  dsimp only at s;cases g with
  | ptr k off =>
   obtain⟨hkn,H⟩:=Cb hg;dsimp only at s;cases hr:look k own with
   | none=>rw[hr] at s;exact s.elim
   | some r =>
    rw[hr] at s;cases r with
    | blk cs t' =>
     cases hm:Fn k XL with
     | true=>rw[hm] at s;exact s.elim
     | false =>
     rw[hm] at s;have E:k ∉ XL:=λh=>by rw[Cc.2 h] at hm;cases hm
     obtain⟨us,h1,O,T⟩:=N9 hH hr;have hlt:V.b k < w.heap.size:=(bz.1 h1).1;have hcl:∀u,Agree V XL w u->∀j,u.cell? ⟨V.b k,j,none⟩=w.cell? ⟨V.b k,j,none⟩:=λu B j=>ac (w:=w) (B _ hlt (nX ⟨_,hr⟩ (((hH.each k _ hr).1 _).2 rfl) E));dsimp only at s;cases hb:i.agg with
     | true =>
      rw[hb] at s;obtain⟨l,X,k2,-⟩:=Lo s O;obtain⟨g',Z,k4⟩:=Il X k2;have F:((us.drop off).take i.zero.length).length=i.zero.length:=by
       rcases ak i.zero.length with h0 | h0
       .rw[h0];simp
       .have:=Ot s O h0;simp;omega
      exact⟨_,_,Z,k4,λu B=>run (by rw[H];exact Z1i hi hb F λj v A=>by rw[hcl u (hS u B),T];exact J1 A)⟩
     | false =>
      rw[hb,Ea] at s;dsimp only at s;cases Y:cs[off]? with
      | none=>rw[Y] at s;exact s.elim
      | some g' =>
       rw[Y] at s;obtain⟨v,A,hgv⟩:=O.get Y;exact⟨_,_,s,.of_c hgv,λu B=>run (by rw[H];exact Z70 hi hb (by rw[hcl u (hS u B),T];exact A))⟩
    | lnk j =>
     obtain⟨-,hjn,m,hsj⟩:=hH.each k _ hr;cases hm:Fn k XL with
     | true=>rw[hm] at s;exact s.elim
     | false =>
     rw[hm] at s;dsimp only at s;split at s
     .next z e W hmj hag =>
      have hnj:j ∉ XL:=λh=>by rw[Cc.2 h] at hmj;cases hmj
      obtain⟨⟨hfit,hpur⟩,s⟩:=s;obtain⟨rs,cur,C,O,T,h4,-,-,-,-,-,-,M⟩:=Qo hH W hsj;have hlb:V.b k < w.heap.size:=(bz.1 C).1;have hfl:PW (VRep I) z.flatten rs.flatten:=Sc O T;have F:((rs.flatten.drop off).take i.zero.length).length=i.zero.length:=by rw[bf,bm,Bq h4];omega
      have hcell:∀u,S u->∀(n:Nat) v,((rs.flatten.drop off).take i.zero.length)[n]?=some v->u.cell? ⟨V.b k,off+n,none⟩=some v:=λu B n v A=>by have h6:=J1 A;obtain⟨p,q,y,e1,-,e2,e3⟩:=Pu h4 h6;rw[e1];exact(hS u B).cell (M p y q v e2 e3) (nX ⟨_,W⟩ (((hH.each j _ W).1 (V.b k)).2 (by rw[hsj];rfl)) hnj)
      exact⟨_,_,s,.of_v (.agg _ _ (hfl.part off i.zero.length).1 (hfl.part off i.zero.length).2),λu B=>run (by rw[H];exact Z1i hi hag F (hcell u B))⟩
     .exact s.elim
    | _=>exact s.elim
  | elp row off =>
   obtain⟨b,q,H,B⟩:=P0 hg;obtain⟨us,hp,Y⟩:=Zb4 B;obtain⟨g',v,X,k2,Z⟩:=Z1f (P:=P) (w:=w) hi hp (K1:=λg=>K (put o.dst g t) own V.n) (λj v A=>hH.mem _ _ _ (Y j v A)) s;exact⟨_,_,X,.of_v k2,λu B=>run (by rw[H];exact Z u λm v A=>(hS u B).cell (hH.mem _ _ _ (Y m v A)) (λk' J e=>(by obtain⟨r',h'⟩:=hXL k' J;have:=(hH.foot k' _ b h' e).2 (q+m);rw[Y m v A] at this;cases this)))⟩
  | oel k j sz off =>
   obtain⟨hkn,b,q,n,c,hs,H⟩:=L9 hg;dsimp only at s;cases hr:look k own with
   | none=>rw[hr] at s;exact s.elim
   | some r =>
    rw[hr] at s;cases r with
    | slc z e sz' =>
     cases hm:Fn k XL with
     | true=>rw[hm] at s;exact s.elim
     | false =>
     rw[hm] at s;have E:k ∉ XL:=λh=>by rw[Cc.2 h] at hm;cases hm
     dsimp only at s;cases hb:Nat.beq sz sz' with
     | false=>rw[hb] at s;exact s.elim
     | true =>
      rw[hb] at s;have:=ax hb;subst this;obtain⟨⟨-,hlt⟩,s⟩:=s;obtain rfl:=Z3f hH hr hs;rw[co] at H;obtain⟨rs,cur,C,O,T,h4,-,-,-,-,-,-,M⟩:=Qo hH hr hs;have hlb:b < w.heap.size:=(bz.1 C).1;have hj:j < z.length:=by omega
      have D:j < rs.length:=by omega
      obtain⟨g',v,X,k2,Z⟩:=Z1f (P:=P) (w:=w) hi (T j _ _ (aq hj) (aq D)) (b:=b) (q:=j * sz) (off:=off) (K1:=λg=>K (put o.dst g t) own V.n) (λm v A=>M j _ m v (aq D) A) (s z[j] (by simp));exact⟨_,_,X,.of_v k2,λu B=>run (by rw[H];exact Z u λm v A=>(hS u B).cell (M j _ m v (aq D) A) (nX ⟨_,hr⟩ (((hH.each k _ hr).1 b).2 (by rw[hs];rfl)) E))⟩
    | vw z e sz' =>
     cases hm:Fn k XL with
     | true=>rw[hm] at s;exact s.elim
     | false =>
     rw[hm] at s;have E:k ∉ XL:=λh=>by rw[Cc.2 h] at hm;cases hm
     dsimp only at s;cases hb:Nat.beq sz sz' with
     | false=>rw[hb] at s;exact s.elim
     | true =>
      rw[hb] at s;have:=ax hb;subst this;obtain⟨⟨-,hlt⟩,s⟩:=s;obtain⟨rs,cur,C,O,T,h4,-,-,-,-,-,-,M⟩:=Zb2 hH hr hs;have hlb:b < w.heap.size:=(bz.1 C).1;have hj:j < z.length:=by omega
      have D:j < rs.length:=by omega
      have M:∀(i:Nat) u (m:Nat) v,rs[i]?=some u->u[m]?=some v->w.cell? ⟨b,q+i * sz+m,none⟩=some v:=λi u m v a b=>M i u m v a b;rw[<-dc] at H;obtain⟨g',v,X,k2,Z⟩:=Z1f (P:=P) (w:=w) hi (T j _ _ (aq hj) (aq D)) (b:=b) (q:=q+j * sz) (off:=off) (K1:=λg=>K (put o.dst g t) own V.n) (λm v A=>M j _ m v (aq D) A) (s z[j] (by simp));exact⟨_,_,X,.of_v k2,λu B=>run (by rw[H];exact Z u λm v A=>(hS u B).cell (M j _ m v (aq D) A) (nX ⟨_,hr⟩ (((hH.each k _ hr).1 b).2 (by rw[hs];rfl)) E))⟩
    | _=>exact s.elim
  | _=>exact s.elim
end
theorem Zgk {I:Imm}{V:Va}{cs:List G}{ds:List Value}(h:PW (CRep I V) cs ds):PW (CRep I V) (cs.map Z2q) ds :=
 ⟨by rw[ap];exact h.1,λm g u c p=>by
  rw[ay] at c;obtain⟨g0,q,rfl⟩:=bh.1 c;have b:=h.2 m g0 u q p;cases g0 with
  | nl=>cases(show VRep I .nl u from b);exact .sl [] none 0 0 (λ_ _=>undef) (av _) (λ_=>rfl) (by simp) (λi r h=>by simp at h) (λi r j g h=>by simp at h)
  | tt=>cases(show VRep I .tt u from b);exact .v _
  | ff=>cases(show VRep I .ff u from b);exact .v _
  | _=>exact b⟩
theorem Vl {rs:List (List Value)}{sz:Nat}(h:∀u∈rs,u.length=sz):∀{i:Nat} {u:List Value} (_:rs[i]?=some u) (off:Nat) (ds:List Value) (_:off+ds.length<=sz),
  (rs.set i (u.take off++ds++u.drop (off+ds.length))).flatten=rs.flatten.take (i * sz+off)++ds++rs.flatten.drop (i * sz+off+ds.length):=by
 induction rs with
 | nil=>intro i u b;simp at b
 | cons v rs ih =>
  intro i u b off ds hd;have c:=h v (by simp);cases i with
  | zero =>
   simp at b;subst b;simp only[List.set_cons_zero,List.flatten_cons,Nat.zero_mul,Nat.zero_add];rw[List.take_append_of_le_length (by omega),List.drop_append_of_le_length (by omega)];simp[List.append_assoc]
  | succ i =>
   have:=ih (λu b=>h u (by simp[b])) (i:=i) (u:=u) (by simpa using b) off ds hd;simp only[List.set_cons_succ,List.flatten_cons];rw[this];have j:(i+1) * sz+off=v.length+(i * sz+off):=by rw[c,Nat.add_mul];omega
   rw[j,List.take_length_add_append,dc v.length,List.drop_length_add_append];simp[List.append_assoc]
section
variable {P:Program} {tb:List (Nat × TI)} {N n:Nat} {I I' I0:Imm} {V V' V0:Va} {a:Act} {t:Ts} {own own' own0:Os} {w w' w0:World} {g:G} {y:Value} {d:Option Tmp}
variable {XL:List Nat} {S:World->Prop} {K:Ts->Os->Nat->Prop} {next:Act->World->Prop} {Q:Exit->Act->World->Prop} {o:Oper}
theorem Hy {ty:TypeId}{m b off:Nat}(q:(P.info? ty).map (·.size)=some m){x:Value}{ds:List Value}(z:x.cells.toList=ds)(B:ds.length=m){c:Array Value}{s:TypeId}(C:w.heap[b]?=some (.cells c s (0,0)))(j:off+ds.length<=c.size)(A:∀u∈ds,u.oneCell'=true) :
  (Instr.storeAt ty (.pointer (some ⟨b,off,none⟩)) x).run P w=.ok () (w.setRow b (c.toList.take off++ds++c.toList.drop (off+ds.length)).toArray):=by
 have h:=run_storeCells_at P b off s ds 0 c w C (by simpa using j) A;simp only[Nat.add_zero] at h;subst B;have p:x.cells.size=ds.length:=by rw[<-z];simp
 simp only[Instr.storeAt,Instr.sureAddr,storeVar,Sem.run_bind,Sem.run_pure,Result.andThen_ok,Br q,p,ne_eq,not_true_eq_false,if_false,z,h]
theorem Z7f {l:List G}{ds:List Value}(hH:Has I V own w)(h:Bw (Zai own) l=true)(A:PW (CRep I V) l ds):∀u∈ds,u.oneCell'=true:=λu B=>by
 obtain⟨j,z,e⟩:=ct.1 B;have s:j < l.length:=by rw[A.1];exact z
 have b:=Ao h l[j] (bw s);have m:=A.2 j l[j] u (aq s) (by rw[aq z,e]);generalize l[j]=g at b m;cases g with
 | ptr k o=>rw[m.2];rfl
 | mp k=>rw[m.2];rfl
 | osl k =>
  rw[m.2];unfold Zai at b;dsimp only at b;split at b
  .next c e sz hr =>
   obtain⟨-,rs,p,-⟩:=hH.each k _ hr;rcases p.2 with⟨e,-⟩ | ⟨g,cap,cur,e,-⟩<;>rw[e]<;>rfl
  .next c e sz hr =>
   obtain⟨-,rs,p,-⟩:=hH.each k _ hr;rcases p.2 with⟨e,-⟩ | ⟨g,q,cap,cur,e,-⟩<;>rw[e]<;>rfl
  .cases b
 | osv k sz' lo hi =>
  rw[m.2.2];unfold Zai at b;dsimp only at b;split at b
  .next c e sz hr =>
   obtain⟨-,rs,p,-⟩:=hH.each k _ hr;rcases p.2 with⟨e,-⟩ | ⟨g,cap,cur,e,-⟩<;>rw[e]<;>rfl
  .next c e sz hr =>
   obtain⟨-,rs,p,-⟩:=hH.each k _ hr;rcases p.2 with⟨e,-⟩ | ⟨g,q,cap,cur,e,-⟩<;>rw[e]<;>rfl
  .cases b
 | v x=>exact Lx (I:=I) m b
 | tt=>exact Lx (I:=I) m b
 | ff=>exact Lx (I:=I) m b
 | nl=>exact Lx (I:=I) m b
 | sl l=>exact Lx (I:=I) m b
 | _=>cases b
theorem Z6y {K1:List G->Prop}(h:Zav g K1)(b:TRep I V g y):∃l cs,K1 l/\y=.agg cs.toArray/\PW (CRep I V) l cs:=by
 cases g with
 | agg l =>
  cases(show VRep I (.agg l) y from b) with
  | agg l cs hl hh=>exact⟨l,cs,h,rfl,hl,λj g u p m=>.of_v (hh j g u p m)⟩
 | oag l =>
  obtain⟨cs,rfl,c⟩:=(show TRep1 I V (.oag l) y from b);exact⟨l,cs,h,rfl,c⟩
 | _=>exact False.elim h
variable (hT:∀t i,look t tb=some i->TIok P t i) (hH:Has I V own w) (hK:Nxt N own0 I0 V0 w0 K next) (hL:Since own0 I0 V0 w0 own I V w) (ha:ARep N I V a t) (hd:∀i,o.dst=some i->i < N)
include hT ha
include hH in
theorem U1 {ty:TypeId}{x:Operand}{f:Nat}(M:o.op=.fieldAddr ty x f)(h:ev t own x λg=>match look ty tb with
  | none=>False
  | some i=>match nth i.flds f with
   | none=>False
   | some (_,fo)=>match g with
    | .ptr k off=>K (put o.dst (.ptr k (Nat.add off fo)) t) own V.n
    | .elp row off=>K (put o.dst (.elp row (Nat.add off fo)) t) own V.n
    | .oel k j sz off=>K (put o.dst (.oel k j sz (Nat.add off fo)) t) own V.n
    | _=>False):QOk S P I V own w a t o K:=by
 obtain⟨g,s,E⟩:=B5 h ha hH;cases hl:look ty tb with
 | none=>rw[hl] at s;exact s.elim
 | some i =>
  rw[hl] at s;dsimp only at s;rw[Ea] at s;cases hf:i.flds[f]? with
  | none=>rw[hf] at s;exact s.elim
  | some p =>
   obtain⟨Z,fo⟩:=p;rw[hf] at s;dsimp only at s;obtain⟨F,X,Y,O⟩:=(hT ty i hl).flds (λe=>by rw[e] at hf;simp at hf);rw[<-Y,ay] at hf;obtain⟨H,B,D⟩:=bh.1 hf;injection D with e1 e2;obtain⟨m,J⟩:=O H (au B);have C:F[f]?=some H:=by simpa using B
   have run:∀b off,a.eval x=.pointer (some ⟨b,off,none⟩)->∀u:World,(execOp a.eval o).run P u=.ok (.value (.pointer (some ⟨b,off+fo,none⟩))) u:=λb off T u=>by simp only[execOp,M,Instr.fieldAt,Sem.run_bind,run_underlying X,T,Instr.sureAddr,fieldPlace,Result.andThen_ok,Sem.run_pure,C,Br J,Cv,e2];simp
   cases g with
   | ptr k off =>
    obtain⟨A,z⟩:=Cb E;exact⟨_,_,s,(.of_c (g:=.ptr k (off+fo)) ⟨A,rfl⟩),λu _=>run _ _ z u⟩
   | elp row off =>
    obtain⟨b,q,A,z⟩:=P0 E;exact⟨_,_,s,(.of_1 (g:=.elp row (off+fo)) ⟨b,q,by rw[dc],z⟩),λu _=>run _ _ A u⟩
   | oel k j sz off =>
    obtain⟨W,b,q,n,c,A,z⟩:=L9 E;exact⟨_,_,s,(.of_1 (g:=.oel k j sz (off+fo)) ⟨W,b,q,n,c,A,by rw[dc,dc]⟩),λu _=>run _ _ z u⟩
   | _=>exact s.elim
include hH in
theorem Z9r {ty:TypeId}{x:Operand}{f:Nat}(C:o.op=.field ty x f)(h:ev t own x λg=>Zav g λcs=>match look ty tb with
  | none=>False
  | some i=>match nth i.flds f with
   | none=>False
   | some (c,fo)=>match look c tb with
    | none=>False
    | some j=>match j.agg with
     | true=>seg cs fo j.zero.length λl=>Hm j.zero.length l λg=>K (put o.dst g t) own V.n
     | false=>match nth cs fo with
      | some g=>K (put o.dst g t) own V.n
      | none=>False):QOk S P I V own w a t o K:=by
 obtain⟨g,b,Z⟩:=B5 h ha hH;obtain⟨cs,M,b,T,B⟩:=Z6y b Z;cases hl:look ty tb with
 | none=>rw[hl] at b;exact b.elim
 | some i =>
  rw[hl] at b;dsimp only at b;rw[Ea] at b;cases hf:i.flds[f]? with
  | none=>rw[hf] at b;exact b.elim
  | some p =>
   obtain⟨c,fo⟩:=p;rw[hf] at b;dsimp only at b;cases hj:look c tb with
   | none=>rw[hj] at b;exact b.elim
   | some j =>
    rw[hj] at b;dsimp only at b;have m:=hT c j hj;obtain⟨F,X,Y,hz⟩:=(hT ty i hl).flds (λe=>by rw[e] at hf;simp at hf);rw[<-Y,ay] at hf;obtain⟨W,z,s⟩:=bh.1 hf;injection s with e1 e2;have q:F[f]?=some W:=by simpa using z
    have run:∀{u v},(part c M.toArray fo).run P u=.ok v u->(execOp a.eval o).run P u=.ok (.value v) u:=λhr=>by simp only[execOp,C,Instr.field,Sem.run_bind,run_underlying X,T,Result.andThen_ok,Sem.run_pure,q,asAgg,e1,e2,hr]
    cases hb:j.agg with
    | true =>
     rw[hb] at b;obtain⟨l,k1,D,-⟩:=Lo b B;obtain⟨O,J,H⟩:=Il k1 D;exact⟨_,_,J,H,λu _=>run (by rw[L5 m,hb];rfl)⟩
    | false =>
     rw[hb,Ea] at b;dsimp only at b;cases hc:cs[fo]? with
     | none=>rw[hc] at b;exact b.elim
     | some O =>
      rw[hc] at b;obtain⟨v,E,A⟩:=B.get hc;exact⟨_,_,b,.of_c A,λu _=>run (by rw[L5 m,hb,E];rfl)⟩
include hK hL hd in
theorem Z4s {bv:Bool}{ty:TypeId}{x z:Operand}(ho:o.op=.store ty x z)(h:ev t own x λg=>ev t own z λu=>G5 own u λcs=>match look ty tb with
  | some i=>Zd3 i.zero.length own cs (match g with
   | .ptr k off=>match look k own with
    | some (.blk cells ty')=>ovr i.zero.length cells off cs λB=>K (put o.dst .un t) ((k,.blk B ty')::own) V.n
    | some (.lnk j)=>match bv,look j own,cs with
     | false,some (.slc A e 1),[c]=>Es (off < A.length/\O3 c=true) (K (put o.dst .un t) ((j,.slc (A.set off [c]) e 1)::own) V.n)
     | _,_,_=>False
    | _=>False
   | .oel k j sz off=>match look k own with
    | some (.slc A e sz')=>match Nat.beq sz sz' with
     | true=>Zeq i.zero.length own cs λcs=>Zdv i.zero.length cs (EvSet A j (λrow k=>ovr i.zero.length row off cs k) λC=>K (put o.dst .un t) ((k,.slc C e sz)::own) V.n)
     | _=>False
    | _=>False
   | _=>False)
  | none=>False):o.wp P a w next Q:=by
 obtain⟨g,p,hg⟩:=B5 h ha hL.has;obtain⟨u,p,X⟩:=B5 p ha hL.has;obtain⟨cs,p,M,-⟩:=He p X hL.has;obtain⟨ds,hds⟩:∃ds,(a.eval z).cells.toList=ds:=⟨_,rfl⟩;rw[hds] at M;cases hl:look ty tb with
 | none=>rw[hl] at p;exact p.elim
 | some i =>
  rw[hl] at p;dsimp only at p;obtain⟨h1,hcl0,hcn,hk2,hbp⟩:=Z2g p;clear p;have p:=hk2;clear hk2;have T:=Z7f hL.has h1 M;have hdn:ds≠[]:=λe=>by have:=M.1;rw[e] at this;exact hcn (az (by simpa using this))
  have hlen:ds.length=i.zero.length:=M.1.symm.trans hcl0;have hsz:=(hT ty i hl).size;have run:∀{w'},(Instr.storeAt ty (a.eval x) (a.eval z)).run P w=.ok () w'->(execOp a.eval o).run P w=.ok .skip w':=λhr=>by simp only[execOp,ho,Sem.run_bind,hr,Result.andThen_ok,Sem.run_pure]
  have H:∀{cs:List G} {k j sz off e:Nat} {A:List (List G)},PW (CRep I V) cs ds->look k own=some (.slc A e sz)->(∃b n c,V.s k=.slice (some ⟨b,0,none⟩) n c/\a.eval x=.pointer (some ⟨b,j * sz+off,none⟩))->Bw G.pure cs=true->EvSet A j (λrow k=>ovr i.zero.length row off cs k) (λC=>K (put o.dst .un t) ((k,.slc C e sz)::own) V.n)->o.wp P a w next Q:=λ{cs k j sz off e A} M hr ⟨b,n,c,hs,Z⟩ D p=>by
   obtain⟨hlt,p⟩:=p;obtain⟨rs,cur,hg1,h2,h3,h4,h5,hn,hnc,hcm,hcs,ht,-⟩:=Qo hL.has hr hs;have hj:j < A.length:=by omega
   have J:j < rs.length:=by omega
   have hpv:PW (VRep I) cs ds:=⟨M.1,λm g u h1 h2=>(M.2 m g u h1 h2).to_v (Ao D g (au h1))⟩;obtain⟨row',k1,k2,k3⟩:=Qw (p A[j] (by simp)) (h3 j _ _ (aq hj) (aq J)) hpv;have X:=h4 rs[j] (bw J);have k3:=k3 hdn;rw[X] at k3;have hjn:j * sz+sz<=n * sz:=by rw[<-Nat.succ_mul];exact Nat.mul_le_mul_right _ (by omega)
   have hnn:n * sz<=c * sz:=Nat.mul_le_mul_right _ hnc;have O:=Hy (P:=P) (w:=w) (off:=j * sz+off) hsz hds hlen hg1 (by omega) T;have hfl:=Vl h4 (aq J) off ds k3;have hfln:=Bq h4;have E:∀u∈rs.set j (rs[j].take off++ds++rs[j].drop (off+ds.length)),u.length=sz/\∀x∈u,x.oneCell'=true:=λu F=>by
    rcases cx F with h | rfl
    .exact⟨h4 u h,h5 u h⟩
    .refine⟨by simp;omega,λx Y=>?_⟩;rcases cd.1 Y with Y | Y
     .rcases cd.1 Y with Y | Y
      .exact h5 _ (bw J) x (bo Y)
      .exact T x Y
     .exact h5 _ (bw J) x (cj Y)
   refine Ph hK hL ha hd (run (by rw[Z];exact O)) (Dj (w':=w.setRow b _) (r:=.slc (A.set j row') e sz) hL.has hr rfl rfl rfl (by simp[World.setRow]) (λb' hb'=>setRow_other w _ b' _ (λe=>hb' (((hL.has.each k _ hr).1 b').2 (by rw[hs,e];rfl)))) ⟨(hL.has.each k _ hr).1,rs.set j (rs[j].take off++ds++rs[j].drop (off+ds.length)),⟨?_,.inr ⟨b,c,_,by rw[hs,hn];simp,aw _,setRow_heap w _ cur _ e _ hg1,by simp;omega,hcm,?_,?_⟩⟩,by simp[h2],?_,λu X=>(E u X).1,λu X=>(E u X).2,(hL.has.each k _ hr).2.choose_spec.2.2.2.2.2⟩) k1
   .rw[Bq λu X=>(E u X).1];simp[h2]
   .simp;omega
   .rw[hfl];simp only[List.length_set,<-hn];rw[<-ht];have hcl:cur.toList.length=c * sz:=by simpa using hcs
    simp only[List.take_append,List.take_take,List.drop_take,List.length_take,List.length_append];rw[Nat.min_eq_right (by omega:j * sz+off<=n * sz),cq (by omega:j * sz+off<=n * sz),cq (by omega:j * sz+off<=cur.toList.length),bc (by omega:ds.length<=n * sz - (j * sz+off))]
   .intro i r u W F;rw[cw] at W F;split at W
    .next e' =>
     subst e';rw[dq rfl,dq J] at F;cases W;cases F;exact k2
    .next e' =>
     rw[dp e'] at F;exact h3 i r u W F
  cases g with
  | ptr k off =>
   obtain⟨hkn,Z⟩:=Cb hg;dsimp only at p;cases hr:look k own with
   | none=>rw[hr] at p;exact p.elim
   | some r =>
    rw[hr] at p;cases r with
    | blk cells ty' =>
     obtain⟨us,k1,k2,-⟩:=N9 hL.has hr;obtain⟨B,k3,k4,k5⟩:=Qw p k2 M;have O:=Hy (P:=P) (w:=w) hsz hds hlen k1 (k5 hdn:off+ds.length<=us.length) T;refine Ph hK hL ha hd (run (by rw[Z];exact O)) (Dj (w':=w.setRow (V.b k) _) (r:=.blk B ty') hL.has hr rfl rfl rfl (by simp[World.setRow]) (λb hb=>setRow_other w _ b _ (λe=>hb (((hL.has.each k _ hr).1 b).2 e))) ⟨(hL.has.each k _ hr).1,_,setRow_heap w _ us.toArray _ ty' _ k1,k4⟩) k3
    | lnk j =>
     obtain⟨-,hjn,m,hsj⟩:=hL.has.each k _ hr;dsimp only at p;cases bv with
     | true=>exact p.elim
     | false =>
     cases hrj:look j own with
     | none=>rw[hrj] at p;exact p.elim
     | some rj =>
      rw[hrj] at p;cases rj with
      | slc A e sz =>
       cases sz with
       | zero=>exact p.elim
       | succ sz =>
       cases sz with
       | succ sz=>exact p.elim
       | zero =>
       have lnkk:∀c,cs=[c]->Es (off < A.length/\O3 c=true) (K (put o.dst .un t) ((j,.slc (A.set off [c]) e 1)::own) V.n)->o.wp P a w next Q:=λc hc1 p=>by
        obtain⟨⟨hfit,hc⟩,p⟩:=p;have hn1:i.zero.length=1:=by rw[<-hcl0,hc1];rfl
        obtain⟨rs,cur,-,h2,h3,h4,-⟩:=Qo hL.has hrj hsj;refine H (j:=off) (off:=0) M hrj ⟨_,_,_,hsj,by rw[Z];simp⟩ (Fs λg hg=>by rw[hc1,bx] at hg;rw[hg];exact Lw hc) ⟨hfit,λr hr2=>?_⟩;have hlr:r.length=1:=by
         have hlt:off < rs.length:=by omega
         have:=(h3 off r rs[off] hr2 (aq hlt)).1;rw[this];exact h4 _ (bw hlt)
        obtain⟨y,rfl⟩:=List.length_eq_one_iff.1 hlr;rw[hn1,hc1];exact p
       match cs,p with
       | [c],p=>exact lnkk c rfl p
       | [],p=>exact p.elim
       | _::_::_,p=>exact p.elim
      | _=>exact p.elim
    | _=>exact p.elim
  | oel k j sz off =>
   obtain⟨hkn,b,q,n,c,hs,Z⟩:=L9 hg;dsimp only at p;cases hr:look k own with
   | none=>rw[hr] at p;exact p.elim
   | some r =>
    rw[hr] at p;cases r with
    | slc A e sz' =>
     obtain rfl:=Z3f hL.has hr hs;rw[co] at Z;dsimp only at p;cases hb:Nat.beq sz sz' with
     | false=>rw[hb] at p;exact p.elim
     | true =>
      rw[hb] at p;have:=ax hb;subst this;unfold Zeq at p;cases hbn:Ty i.zero.length with
      | true =>
       rw[hbn] at p;obtain⟨D,p⟩:=Tn p hbp;exact H M hr ⟨b,n,c,hs,Z⟩ D p
      | false =>
       rw[hbn] at p;have hnb:∀{cs:List G},Ty i.zero.length=true->Bw G.pure cs=true:=λh=>by rw[hbn] at h;cases h
       dsimp only at p;split at p
       .next kp op =>
        obtain⟨b2,j2,hj2,p⟩:=Oe p;obtain⟨D,p⟩:=Tn p hnb;refine H ?_ hr ⟨b,n,c,hs,Z⟩ D p;obtain⟨v,vs,rfl,hv,hn⟩:=M.uncons;obtain⟨hkn2,rfl⟩:=(show kp < V.n/\v=.pointer (some ⟨V.b kp,op,none⟩) from hv);obtain⟨-,-,hb2⟩:=hL.has.each j2 _ hj2;rw[hb2];exact .cons (VRep.v _) hn
       .obtain⟨D,p⟩:=Tn p hnb;exact H (Zgk M) hr ⟨b,n,c,hs,Z⟩ D p
    | _=>exact p.elim
  | _=>exact p.elim
end
section
variable {P:Program} {tb:List (Nat × TI)} {N n:Nat} {I I' I0:Imm} {V V' V0:Va} {a:Act} {t:Ts} {own own' own0:Os} {w w' w0:World} {g:G} {y:Value} {d:Option Tmp}
variable {XL:List Nat} {S:World->Prop} {K:Ts->Os->Nat->Prop} {next:Act->World->Prop} {Q:Exit->Act->World->Prop} {o:Oper}
theorem F4 {ty e:TypeId}(h:P.underlying ty=some (.pointer e))(b:Option Addr)(u:World):(Op.equal ty (.pointer b) (.pointer none)).run P u=.ok b.isNone u/\(Op.equal ty (.pointer none) (.pointer b)).run P u=.ok b.isNone u:=by
 have c:∀d,(Op.equalIn (d+1) ty (.pointer b) (.pointer none)).run P u=.ok b.isNone u/\(Op.equalIn (d+1) ty (.pointer none) (.pointer b)).run P u=.ok b.isNone u:=λd=>by cases b<;>simp[Op.equalIn,run_underlying h]
 exact c 9999
theorem Z1a {m:TypeId}{op:BinOp}{b:Bool}{x z:Value}{K1:G->Prop}(hT:∀t i,look t tb=some i->TIok P t i)(h:Zar tb m op b K1)(E:∃p,x=.pointer p)(D:∃p,z=.pointer p)(c:∀e,P.underlying m=some (.pointer e)->∀u:World,(Op.equal m x z).run P u=.ok b u):∃g v,K1 g/\TRep I V g v/\∀(w:World) (s A:Operand),(eqGuard op m s A x z).run P w=.ok () w/\(binOp op m x z).run P w=.ok v w:=by
 obtain⟨p,rfl⟩:=E;obtain⟨q,rfl⟩:=D;unfold Zar Py at h;cases hl:look m tb with
 | none=>rw[hl] at h;exact h.elim
 | some i =>
  rw[hl] at h;have B:=(hT _ _ hl).kd;dsimp only at h;split at h
  .next j =>
   rw[j] at B;obtain⟨e,C⟩:=B;have c:=c e C;cases b with
   | true=>exact⟨_,_,h,.of_v .tt,λw s A=>⟨by simp[eqGuard],by simp only[binOp];simp[c w]⟩⟩
   | false=>exact⟨_,_,h,.of_v .ff,λw s A=>⟨by simp[eqGuard],by simp only[binOp];simp[c w]⟩⟩
  .next j =>
   rw[j] at B;obtain⟨e,C⟩:=B;have c:=c e C;cases b with
   | true=>exact⟨_,_,h,.of_v .ff,λw s A=>⟨by simp[eqGuard],by simp only[binOp];simp[c w]⟩⟩
   | false=>exact⟨_,_,h,.of_v .tt,λw s A=>⟨by simp[eqGuard],by simp only[binOp];simp[c w]⟩⟩
  .exact h.elim
theorem Vt {g:G}{K1:Bool->Prop}(h:Z3o g K1)(c:TRep I V g y):∃b,K1 b/\y=.bool b:=by
 unfold Z3o at h;split at h
 .cases(show VRep I .tt y from c);exact⟨_,h,rfl⟩
 .cases(show VRep I .ff y from c);exact⟨_,h,rfl⟩
 .cases(show VRep I (.v _) y from c);exact⟨_,h,rfl⟩
 .exact h.elim
theorem Zdc (hT:∀t i,look t tb=some i->TIok P t i){H:TypeId}{op:BinOp}{p q:G}{x z:Value}{K1:G->Prop}(h:Zdx P tb H op p q K1)(D:TRep I V p x)(E:TRep I V q z):∃g v,K1 g/\TRep I V g v/\∀(w:World) (A B:Operand),(eqGuard op H A B x z).run P w=.ok () w/\(binOp op H x z).run P w=.ok v w:=by
 unfold Zdx at h;split at h
 .next i j =>
  have s:=B0 D;have c:=B0 E;subst s c;cases op<;>dsimp only at h<;>first
   | exact h.elim
   | (have F:=EvRng.rng h;have C:=EvRng.next h;exact⟨_,_,C,.of_v (.v _),λw A B=>⟨by simp[eqGuard],by simp[binOp,Op.intArith,IntWalk.i64_in _ F]⟩⟩)
   | (have T:=EvDiv.ne h;have F:=EvRng.rng (EvDiv.next h);have C:=EvRng.next (EvDiv.next h);exact⟨_,_,C,.of_v (.v _),λw A B=>⟨by simp[eqGuard],by simp[binOp,Op.intDiv,T,IntWalk.i64_in _ F]⟩⟩)
   | (have T:=EvDiv.ne h;have C:=EvDiv.next h;exact⟨_,_,C,.of_v (.v _),λw A B=>⟨by simp[eqGuard],by simp[binOp,Op.intDiv,T]⟩⟩)
   | exact⟨_,_,h,.of_v (.v _),λw A B=>⟨by simp[eqGuard],rfl⟩⟩
   | exact⟨_,_,h,.of_v (.v _),λw A B=>⟨by simp[eqGuard],by simp[binOp,Op.intCmp]⟩⟩
 .next i j =>
  have s:=B0 D;have c:=B0 E;subst s c;cases op<;>dsimp only at h<;>first
   | exact h.elim
   | (have F:=h.nn;have C:=h.next;exact⟨_,_,C,.of_v (.v _),λw A B=>⟨by simp[eqGuard],by simp[binOp,Op.shift,Int.not_lt.2 F,IntKind.bits]⟩⟩)
 .next i j =>
  have s:=B0 D;have c:=B0 E;subst s c;cases op<;>dsimp only at h<;>first
   | exact h.elim
   | exact⟨_,_,h,.of_v (.v _),λw A B=>⟨by simp[eqGuard],by simp[binOp,Op.intCmp]⟩⟩
 .next i j =>
  have s:=B0 D;have c:=B0 E;subst s c;cases op<;>dsimp only at h<;>first
   | exact h.elim
   | (have F:=h.nn;have C:=h.next;exact⟨_,_,C,.of_v (.v _),λw A B=>⟨by simp[eqGuard],by simp[binOp,Op.shift,Int.not_lt.2 F,IntKind.bits]⟩⟩)
   | (have T:=EvDiv.ne h;have C:=EvDiv.next h;exact⟨_,_,C,.of_v (.v _),λw A B=>⟨by simp[eqGuard],by simp[binOp,Op.intDiv,T]⟩⟩)
   | exact⟨_,_,h,.of_v (.v _),λw A B=>⟨by simp[eqGuard],by first | rfl | simp[binOp,Op.intCmp,Op.intArith]⟩⟩
 .next i q j =>
  have s:=B0 D;have c:=B0 E;subst s c;cases op<;>dsimp only at h<;>first
   | exact h.elim
   | (have F:=h.nn;have C:=h.next;exact⟨_,_,C,.of_v (.v _),λw A B=>⟨by simp[eqGuard],by simp[binOp,Op.shift,Int.not_lt.2 F,IntKind.bits]⟩⟩)
 .next i j =>
  have s:=B0 D;have c:=B0 E;subst s c;cases op<;>dsimp only at h<;>first
   | exact h.elim
   | (obtain⟨F,C⟩:=h;exact⟨_,_,C,.of_v (.v _),λw A B=>⟨by simp[eqGuard],by simp[binOp,Op.stringOp,IntKind.max,IntKind.bits,IntKind.signed];omega⟩⟩)
   | exact⟨_,_,h,.of_v (.v _),λw A B=>⟨by simp[eqGuard],by simp[binOp,Op.stringOp]⟩⟩
 .next l m =>
  have key:∀{cs ds:List Value},R0 l cs->R0 m ds->x=.agg cs.toArray/\z=.agg ds.toArray:=λ{cs ds} J hd=>by
   have one:∀{l:List G} {cs:List Value} {x:Value},R0 l cs->TRep I V (.agg l) x->x=.agg cs.toArray:=λ{l cs x} J hx=>by
    cases(show VRep I (.agg l) x from hx) with
    | agg l us hl hh =>
     unfold R0 at J;subst J
     congr 2
     apply cy;intro j;by_cases X:j < cs.length
     .have O:j < us.length:=by simpa [<-hl] using X
      have:=hh j (.v cs[j]) us[j] (by simp[X]) (aq O);rw[aq X,aq O];generalize us[j]=u at this;cases this;rfl
     .rw[cm (by simp at hl;omega),cm (by omega)]
   exact⟨one J D,one hd E⟩
  cases op<;>dsimp only at h<;>first
   | exact h.elim
   | (obtain⟨cs,ds,b,J,hd,hg,Z,M⟩:=h
      obtain⟨rfl,rfl⟩:=key J hd;exact⟨_,_,M,.of_v (.v _),λw A B=>⟨run_eqGuard_agg _ _ _ _ _ _ _ hg,by first | (rw[run_eql_struct];rw[Z w];rfl) | (rw[run_neq_struct];rw[Z w];rfl)⟩⟩)
 .next i j =>
  have s:=B0 D;have c:=B0 E;subst s c;cases op<;>dsimp only at h<;>first
   | exact h.elim
   | exact⟨_,_,h,.of_v (.v _),λw A B=>⟨by simp[eqGuard],by simp[binOp,Op.intArith,Op.intCmp]⟩⟩
 .next k o =>
  obtain⟨-,s⟩:=Cb D;have c:=B0 E;subst s c;exact Z1a hT h ⟨_,rfl⟩ ⟨_,rfl⟩ λe W u=>(F4 W _ u).1
 .next k o =>
  obtain⟨-,s⟩:=Cb E;have c:=B0 D;subst s c;exact Z1a hT h ⟨_,rfl⟩ ⟨_,rfl⟩ λe W u=>(F4 W _ u).2
 .have s:=B0 D;have c:=B0 E;subst s c;exact Z1a hT h ⟨_,rfl⟩ ⟨_,rfl⟩ λe W u=>(F4 W _ u).1
 .unfold Py at h;cases hl:look H tb with
  | none=>rw[hl] at h;exact h.elim
  | some i =>
   rw[hl] at h;dsimp only at h;have M:=(hT _ _ hl).kd;split at h
   .next Y =>
    rw[Y] at M;obtain⟨a,h,rfl⟩:=Vt h D;obtain⟨b,h,rfl⟩:=Vt h E;split at h
    .exact⟨_,_,h,.of_v (.v _),λw A B=>⟨by simp[eqGuard],run_eql_bool w H a b M⟩⟩
    .exact⟨_,_,h,.of_v (.v _),λw A B=>⟨by simp[eqGuard],run_neq_bool w H a b M⟩⟩
    .exact h.elim
   .exact h.elim
theorem Zbo {p:G}{x:Value}{K1:G->Prop}(h:Zdy p K1)(b:TRep I V p x):∃g v,K1 g/\TRep I V g v/\∀w:World,(Op.unary .not x).run P w=.ok v w:=by
 unfold Zdy at h;split at h
 .cases(show VRep I .tt x from b);exact⟨_,_,h,.of_v .ff,λw=>by simp[Op.unary]⟩
 .cases(show VRep I .ff x from b);exact⟨_,_,h,.of_v .tt,λw=>by simp[Op.unary]⟩
 .have e:=B0 b;subst e;exact⟨_,_,h,.of_v (.v _),λw=>by simp[Op.unary]⟩
 .exact h.elim
variable (hT:∀t i,look t tb=some i->TIok P t i) (hH:Has I V own w) (ha:ARep N I V a t)
include hH ha
theorem Zey {ty:TypeId}{x:Operand}(j:o.op=.unOp .not ty x)(h:ev t own x λg=>Zdy g λg=>K (put o.dst g t) own V.n):QOk S P I V own w a t o K:=by obtain⟨g,c,m⟩:=B5 h ha hH;obtain⟨r,v,c,hr,b⟩:=Zbo (P:=P) c m;exact⟨_,_,c,hr,λu _=>by simp only[execOp,j,Sem.run_bind,b,Result.andThen_ok,Sem.run_pure]⟩
theorem Z0r {x:Operand}{i:Nat}(m:o.op=.extract x i)(h:ev t own x λg=>match g with
  | .tup l=>match nth l i with
   | some g=>K (put o.dst g t) own V.n
   | none=>False
  | _=>False):QOk S P I V own w a t o K:=by
 obtain⟨g,b,q⟩:=B5 h ha hH;cases g with
 | tup l =>
  obtain⟨cs,s,j⟩:=(show ∃cs:List Value,a.eval x=.tuple cs.toArray/\PW (TRep1 I V) l cs from q);dsimp only at b;rw[Ea] at b;cases hl:l[i]? with
  | none=>rw[hl] at b;exact b.elim
  | some g' =>
   rw[hl] at b;obtain⟨v,p,c⟩:=j.get hl;exact⟨_,_,b,.of_1 c,λu _=>by simp[execOp,m,s,Instr.extract,p]⟩
 | _=>exact b.elim
include hT
theorem S0 {ty:TypeId}{x i:Operand}(ho:o.op=.indexAddr ty x i)(h:ev t own x λg=>ev t own i λq=>match q,look ty tb with
  | .v (.int .i64 j),some ⟨_,_,some (_,sz),_,_,_,_⟩=>match g with
   | .sl B=>EvIdx B j λrow=>match Nat.beq row.length sz with
    | true=>K (put o.dst (.elp row 0) t) own V.n
    | false=>False
   | .osl k=>match look k own with
    | some (.slc B _ sz')=>match Nat.beq sz' sz with
     | true=>(0<=j/\j < B.length)/\K (put o.dst (.oel k j.toNat sz 0) t) own V.n
     | false=>False
    | some (.vw B _ sz')=>match Nat.beq sz' sz with
     | true=>(0<=j/\j < B.length)/\K (put o.dst (.oel k j.toNat sz 0) t) own V.n
     | false=>False
    | _=>False
   | .osv k F lo hi=>match look k own with
    | some (.slc _ _ sz')=>match Nat.beq sz' sz,Nat.beq F sz with
     | true,true=>(0<=j/\j < (hi - lo:Nat))/\K (put o.dst (.oel k (lo+j.toNat) sz 0) t) own V.n
     | _,_=>False
    | _=>False
   | .orv k 0 0 off len _=>(0<=j/\j < len)/\K (put o.dst (.ptr k (Nat.add off (Nat.mul j.toNat sz))) t) own V.n
   | _=>False
  | .v (.int .i64 j),some ⟨_,_,none,_,_,_,.arr m _ sz⟩=>match g with
   | .ptr k off=>(0<=j/\j < m)/\K (put o.dst (.ptr k (Nat.add off (Nat.mul j.toNat sz))) t) own V.n
   | .elp row off=>(0<=j/\j < m)/\K (put o.dst (.elp row (Nat.add off (Nat.mul j.toNat sz))) t) own V.n
   | _=>False
  | _,_=>False):QOk S P I V own w a t o K:=by
 obtain⟨g,hk1,Z⟩:=B5 h ha hH;obtain⟨q,p,hq⟩:=B5 hk1 ha hH;clear h hk1;split at p
 .next j ag ze e sz fl st ik kd hl =>
  have hi:=hT _ _ hl;obtain⟨hu,i',z,h1,h2,h3,-⟩:=hi.elem e sz rfl;have O:∀w,(sizeOf e).run P w=.ok sz w:=Br (by rw[h1];simp[h3]);have e2:=B0 hq;have run:∀A n c,a.eval x=.slice (some A) n c->0<=j/\j < n->∀u,(execOp a.eval o).run P u=.ok (.value (.pointer (some (A.add (j.toNat * sz))))) u:=λA n c E hj u=>by simp only[execOp,ho,Instr.indexAt,Sem.run_bind,E,e2,asIntOf,Sem.run_pure,Result.andThen_ok,run_underlying hu,hj,and_self,if_true,O]
  split at p
  .next B =>
   obtain⟨⟨h4,Y⟩,hk0⟩:=p;have T:j.toNat < B.length:=by omega
   have p:=hk0 _ (aq T);clear hk0;have hx:=(show VRep I (.sl B) (a.eval x) from Z);generalize hax:a.eval x=X at hx;cases hx with
   | sl _ A c F u hc hA hz hh huu =>
    split at p
    .next C =>
     have C:=ax C;obtain⟨b,q0,rfl,hI⟩:=hh j.toNat _ (aq T);have hs:F=sz:=(hz _ (bw T)).symm.trans C;subst hs;refine⟨_,_,p,(.of_1 (g:=.elp _ 0) ⟨b,q0+j.toNat * F,by rw[Cv];rfl,λm g hm=>⟨u j.toNat m,hI m (by have:=(ar.1 hm).1;omega),huu j.toNat _ m g (aq T) hm⟩⟩),λu _=>run _ _ _ hax ⟨h4,Y⟩ u⟩
    .exact p.elim
  .next k =>
   cases hr:look k own with
   | none=>rw[hr] at p;exact p.elim
   | some r =>
    rw[hr] at p;cases r with
    | slc B e' sz' =>
     dsimp only at p;split at p
     .next C =>
      have C:=ax C;subst C;obtain⟨⟨h4,Y⟩,p⟩:=p;obtain⟨D,E⟩:=(show k < V.n/\a.eval x=V.s k from Z);obtain⟨-,rs,⟨-,h6⟩,-⟩:=hH.each k _ hr;rcases h6 with⟨-,J⟩ | ⟨b,cap,cur,J,-⟩
      .omega
      .exact⟨_,_,p,(.of_1 (g:=.oel k j.toNat sz' 0) ⟨D,b,0,_,cap,J,by rw[Cv];simp⟩),λu _=>run _ _ _ (E.trans J) ⟨h4,Y⟩ u⟩
     .exact p.elim
    | vw B e' sz' =>
     dsimp only at p;split at p
     .next C =>
      have C:=ax C;subst C;obtain⟨⟨h4,Y⟩,p⟩:=p;obtain⟨D,E⟩:=(show k < V.n/\a.eval x=V.s k from Z);obtain⟨-,rs,⟨-,h6⟩,-⟩:=hH.each k _ hr;rcases h6 with⟨-,J⟩ | ⟨b,q,cap,cur,J,-⟩
      .omega
      .exact⟨_,_,p,(.of_1 (g:=.oel k j.toNat sz' 0) ⟨D,b,q,_,cap,J,by rw[Cv];simp⟩),λu _=>run _ _ _ (E.trans J) ⟨h4,Y⟩ u⟩
     .exact p.elim
    | _=>exact p.elim
  .next k F lo M =>
   cases hr:look k own with
   | none=>rw[hr] at p;exact p.elim
   | some r =>
    rw[hr] at p;cases r with
    | slc B e' sz' =>
     dsimp only at p;split at p
     .next C W =>
      have C:=ax C;have W:=ax W;subst C W;obtain⟨⟨h4,Y⟩,p⟩:=p;obtain⟨D,⟨hl1,H⟩,E⟩:=(show k < V.n/\(lo<=M/\M<=Mz (V.s k))/\a.eval x=Kv _ (V.s k) lo M from Z);obtain⟨-,rs,⟨-,h6⟩,-⟩:=hH.each k _ hr;rcases h6 with⟨J,h8⟩ | ⟨b,cap,cur,J,-,-,h9,-⟩
      .rw[J] at H;have H:M<=0:=H;omega
      .have H:M<=B.length:=by rw[J] at H;exact H
       have e3:a.eval x=.slice (some ((⟨b,0,none⟩:Addr).add (lo * F))) (M - lo) (cap - lo):=by rw[E,J];unfold Kv;dsimp only;rw[dp (by omega)];rfl
       refine⟨_,_,p,(.of_1 (g:=.oel k (lo+j.toNat) F 0) ⟨D,b,0,_,cap,J,?_⟩),λu _=>run _ _ _ e3 ⟨h4,Y⟩ u⟩;rw[Cv,Cv,Nat.add_mul];simp
     .exact p.elim
    | _=>exact p.elim
  .next k off len cap =>
   obtain⟨hj,p⟩:=p;obtain⟨D,b,q,C,E⟩:=(show TRep1 I V (.orv k 0 0 off len cap) (a.eval x) from Z);obtain⟨C,hq0⟩:=(show b=V.b k/\q=0 from C);subst C hq0;have E:a.eval x=.slice (some ⟨V.b k,off,none⟩) len cap:=by rw[E];simp
   exact⟨_,_,p,⟨D,rfl⟩,λu _=>by rw[run _ _ _ E hj u,Cv];rfl⟩
  .exact p.elim
 .next j ag ze st fl ik m e sz hl =>
  obtain⟨hu,O⟩:=(hT _ _ hl).kd;have O:∀w,(sizeOf e).run P w=.ok sz w:=Br O;have e2:=B0 hq;have run:∀A,a.eval x=.pointer (some A)->0<=j/\j < m->∀u,(execOp a.eval o).run P u=.ok (.value (.pointer (some (A.add (j.toNat * sz))))) u:=λA E hj u=>by simp only[execOp,ho,Instr.indexAt,Instr.sureAddr,Sem.run_bind,E,e2,asIntOf,Sem.run_pure,Result.andThen_ok,run_underlying hu,hj,and_self,if_true,O]
  split at p
  .obtain⟨h1,p⟩:=p;obtain⟨D,E⟩:=Cb Z;exact⟨_,_,p,⟨D,rfl⟩,λu _=>by rw[run _ E h1 u,Cv];rfl⟩
  .obtain⟨h1,p⟩:=p;obtain⟨b,q,E,hrow⟩:=P0 Z;exact⟨_,_,p,⟨b,q,rfl,hrow⟩,λu _=>by rw[run _ E h1 u,Cv,dc];rfl⟩
  .exact p.elim
 .exact p.elim
theorem Z9q {ty:TypeId}{x i:Operand}(M:o.op=.index ty x i)(h:match look ty tb with
  | some ⟨_,_,_,_,true,_,_⟩=>ev t own x λg=>ev t own i λq=>match q,g with
   | .v (.int .i64 j),.v (.string s)=>EvIdx s.data.toList j λc=>K (put o.dst (.v (.int .u8 c.toNat)) t) own V.n
   | _,_=>False
  | some ⟨_,_,none,_,false,_,.arr m e sz⟩=>ev t own x λg=>Zav g λcs=>ev t own i λq=>match q,look e tb with
   | .v (.int .i64 j),some z=>(0<=j/\j < m)/\match z.agg with
    | true=>seg cs (Nat.mul j.toNat sz) z.zero.length λl=>Hm z.zero.length l λg=>K (put o.dst g t) own V.n
    | false=>match nth cs (Nat.mul j.toNat sz) with
     | some g=>K (put o.dst g t) own V.n
     | none=>False
   | _,_=>False
  | _=>False):QOk S P I V own w a t o K:=by
 split at h
 case h_3=>exact h.elim
 case h_2 m e sz hl =>
  obtain⟨hu,A⟩:=(hT _ _ hl).kd;have A:∀w,(sizeOf e).run P w=.ok sz w:=Br A;obtain⟨g,p,E⟩:=B5 h ha hH;obtain⟨l,cs,p,he,O⟩:=Z6y p E;obtain⟨q,b,H⟩:=B5 p ha hH;split at b
  .next j z D =>
   have C:=B0 H;obtain⟨hj,b⟩:=b;have T:=hT _ _ D;have run:∀{v:Value} {u:World},(part e cs.toArray (j.toNat * sz)).run P u=.ok v u->(execOp a.eval o).run P u=.ok (.value v) u:=λhr=>by simp only[execOp,M,Instr.index,Sem.run_bind,he,C,asIntOf,Sem.run_pure,Result.andThen_ok,run_underlying hu,hj,and_self,if_true,A,hr]
   have b:match z.agg with
    | true=>seg l (j.toNat * sz) z.zero.length λl=>Hm z.zero.length l λg=>K (put o.dst g t) own V.n
    | false=>match nth l (j.toNat * sz) with
     | some g=>K (put o.dst g t) own V.n
     | none=>False:=b
   cases hb:z.agg with
   | true =>
    rw[hb] at b;obtain⟨l',k1,X,-⟩:=Lo b O;obtain⟨Z,k3,Y⟩:=Il k1 X;exact⟨_,_,k3,Y,λu _=>run (by rw[L5 T,hb];rfl)⟩
   | false =>
    rw[hb,Ea] at b;dsimp only at b;cases hc:l[j.toNat * sz]? with
    | none=>rw[hc] at b;exact b.elim
    | some Z =>
     rw[hc] at b;obtain⟨v,hv,J⟩:=O.get hc;exact⟨_,_,b,.of_c J,λu _=>run (by rw[L5 T,hb,hv];rfl)⟩
  .exact b.elim
 rename_i hl
 have F:=(hT _ _ hl).str rfl;obtain⟨g,p,E⟩:=B5 h ha hH;obtain⟨q,b,H⟩:=B5 p ha hH;clear h p;split at b
 .next j s =>
  have e1:=B0 E;have C:=B0 H;obtain⟨⟨h1,h2⟩,b⟩:=b;have B:j.toNat < s.data.toList.length:=by omega
  have b:=b _ (aq B);have e3:s[j.toNat]?=some (s.data.toList[j.toNat]):=by
   have W:j.toNat < s.size:=by simpa using B
   rw[getElem?_pos s j.toNat W];rfl
  exact⟨_,_,b,.of_v (.v _),λu _=>by simp only[execOp,M,Instr.index,Sem.run_bind,e1,C,asIntOf,Sem.run_pure,Result.andThen_ok,run_underlying F,h1,if_true,e3]⟩
 .exact b.elim
end
section
variable {P:Program} {tb:List (Nat × TI)} {N n:Nat} {I I' I0:Imm} {V V' V0:Va} {a:Act} {t:Ts} {own own' own0:Os} {w w' w0:World} {g:G} {x y:Value} {d:Option Tmp}
variable {K:Ts->Os->Nat->Prop} {next:Act->World->Prop} {Q:Exit->Act->World->Prop} {o:Oper}
theorem Jx (h:Has I V own w){k e sz:Nat}{c:List (List G)}(F:look k own=some (.slc c e sz)):∃I',Later own I V w ((k,.froz c sz)::own) I' (V.drop k) w/\VRep I' (.sl c) (V.s k)/\∀r∈c,r.length=sz:=by
 obtain⟨T,rs,⟨h0,Z⟩,Y,O,M,h5,h6⟩:=h.each k _ F;have q:∀r∈c,r.length=sz:=λr hr=>by
  obtain⟨i,hi,e⟩:=ct.1 hr;have E:i < rs.length:=by omega
  have X:=O i r rs[i] (by rw[aq hi,e]) (aq E);rw[X.1];exact M _ (bw E)
 rcases Z with⟨H,hr0⟩ | ⟨g,cap,cur,H,-,hg,hn,hm,hc,ht⟩
 .have hr:c=[]:=az hr0;subst hr;have C:VRep I (.sl []) (V.s k):=by
   rw[H];exact .sl [] none 0 sz (λ_ _=>undef) (av _) (λ_=>rfl) (by simp) (λi r h=>by simp at h) (λi r j g h=>by simp at h)
  exact⟨I,Hf h F (.refl _) h.mem (λ_ _ _=>rfl) ⟨λb=>by simp[Va.drop],C,q⟩,C,q⟩
 .have A:V.f k g:=(T g).2 (by rw[H];rfl);have J:=(h.foot k _ g F A).2;let I':Imm:=λb o=>if b=g then(if o < rs.flatten.length then rs.flatten[o]? else none) else I b o;have D:I.le I':=λb o x p=>by
   show(if b=g then _ else I b o)=_;rw[dp (λe=>by rw[e,J o] at p;cases p)];exact p
  have W:∀m x,rs.flatten[m]?=some x->I' g (0+m)=some x:=λm x p=>by show(if g=g then _ else _)=_;rw[dq rfl,co,dq (ar.1 p).1,p]
  have B:Mem I' w:=λb o x p=>by
   change (if b=g then _ else I b o)=_ at p
   split at p
   .next e =>
    subst e;split at p
    .rw[cell_of_row w b o cur e (0,0) hg];have z:=p;rw[<-ht,br] at z;split at z
     .simpa using z
     .cases z
    .cases p
   .exact h.mem b o x p
  have C:VRep I' (.sl c) (V.s k):=by rw[H];exact Xk Y hn (λi r u hr hu=>(O i r u hr hu).mono λ_ _ h=>h.mono D) M W
  refine⟨I',Hf h F D B (λb o hb=>?_) ⟨λb=>by simp[Va.drop],C,q⟩,C,q⟩;show(if b=g then _ else I b o)=_;rw[dp (λe=>hb (by rw[e];exact A))]
theorem V7 {l:List (List G)}{sz lo q:Nat}(h:VRep I (.sl l) x)(z:∀r∈l,r.length=sz)(J:lo<=q)(C:q<=l.length):VRep I (.sl (Fo l lo q)) (Kv sz x lo q):=by
 cases h with
 | sl l A c sz0 u hc hA hz0 h hu =>
  have m:(Fo l lo q).length=q - lo:=by unfold Fo;rw[bm,bf,cq C]
  have p:∀i r,(Fo l lo q)[i]?=some r->lo+i < q/\l[lo+i]?=some r:=λi r hr=>by have s:=(ar.1 hr).1;rw[m] at s;unfold Fo at hr;rw[ce,br,dq (by omega)] at hr;exact⟨by omega,hr⟩
  have key:=VRep.sl (I:=I) (Fo l lo q) (if c=lo then A else A.map (·.add (lo * sz))) (c - lo) sz (λi j=>u (lo+i) j) (by rw[m];omega) (λe=>?_) (λr hr=>?_) (λi r hr=>?_) (λi r j g hr H=>?_)
  .rw[m] at key;exact key
  .split at e
   .next M=>omega
   .cases A with
    | none=>rw[hA rfl];omega
    | some a=>cases e
  .obtain⟨i,s,e⟩:=ct.1 hr;have:=(p i r (by rw[aq s,e])).2;exact z r (au this)
  .obtain⟨F,hr⟩:=p i r hr;obtain⟨b,o,e,E⟩:=h _ _ hr;have B:sz0=sz:=(hz0 r (au hr)).symm.trans (z r (au hr));subst B;rw[dp (by omega),e];exact⟨b,o+lo * sz0,by simp[Cv],λj D=>by rw[<-E j D,Nat.add_mul];congr 1;omega⟩
  .exact hu _ r j g (p i r hr).2 H
theorem Dg {K1:G->Os->Prop}(h:Z4g own g K1)(p:CRep I V g y)(hH:Has I V own w):∃D own' I' V',K1 D own'/\(V'.n=V.n/\V.kp V')/\Later own I V w own' I' V' w/\VRep I' D y:=by
 cases g with
 | osl k =>
  unfold Z4g at h;dsimp only at h;obtain⟨E,rfl⟩:=p;split at h
  .next c e sz hr =>
   obtain⟨I',A,m,-⟩:=Jx hH hr;exact⟨_,_,I',V.drop k,h,⟨rfl,.drop _ _⟩,A,m⟩
  .next c sz hr=>exact⟨_,_,I,V,h,⟨rfl,.refl _⟩,.refl hH,(hH.each k _ hr).2.1⟩
  .exact h.elim
 | osv k sz lo hi =>
  unfold Z4g at h;dsimp only at h;obtain⟨E,⟨u,H⟩,rfl⟩:=(show k < V.n/\(lo<=hi/\hi<=Mz (V.s k))/\y=Kv sz (V.s k) lo hi from p);split at h
  .next c e B hr =>
   split at h
   .next q =>
    have q:=ax q;subst q;obtain⟨I',A,m,C⟩:=Jx hH hr;have F:Mz (V.s k)=c.length:=by generalize V.s k=z at m;cases m;rfl
    exact⟨_,_,I',V.drop k,h,⟨rfl,.drop _ _⟩,A,V7 m C u (by omega)⟩
   .exact h.elim
  .next c B hr =>
   split at h
   .next q =>
    have q:=ax q;subst q;obtain⟨-,m,C⟩:=hH.each k _ hr;have F:Mz (V.s k)=c.length:=by generalize V.s k=z at m;cases m;rfl
    exact⟨_,_,I,V,h,⟨rfl,.refl _⟩,.refl hH,V7 m C u (by omega)⟩
   .exact h.elim
  .exact h.elim
 | v x=>exact⟨_,_,I,V,h,⟨rfl,.refl _⟩,.refl hH,p⟩
 | tt=>cases(show VRep I .tt y from p);exact⟨_,_,I,V,h,⟨rfl,.refl _⟩,.refl hH,.v _⟩
 | ff=>cases(show VRep I .ff y from p);exact⟨_,_,I,V,h,⟨rfl,.refl _⟩,.refl hH,.v _⟩
 | un=>exact⟨_,_,I,V,h,⟨rfl,.refl _⟩,.refl hH,p⟩
 | nl =>
  cases(show VRep I .nl y from p);exact⟨_,_,I,V,h,⟨rfl,.refl _⟩,.refl hH,.sl [] none 0 0 (λ_ _=>undef) (av _) (λ_=>rfl) (by simp) (λi r h=>by simp at h) (λi r j g h=>by simp at h)⟩
 | agg l=>exact⟨_,_,I,V,h,⟨rfl,.refl _⟩,.refl hH,p⟩
 | sl l=>exact⟨_,_,I,V,h,⟨rfl,.refl _⟩,.refl hH,p⟩
 | ptr k off =>
  obtain⟨b,i,A,m⟩:=Oe (show Z9w k own own (λb=>K1 (.v (.pointer (some ⟨b,off,none⟩))) own) from h);obtain⟨-,-,e⟩:=hH.each i _ A;obtain⟨-,rfl⟩:=p;exact⟨_,_,I,V,m,⟨rfl,.refl _⟩,.refl hH,by rw[e];exact .v _⟩
 | _=>exact h.elim
theorem Pq:∀{l:List G} {own:Os} {I:Imm} {V:Va} {cs:List Value} {K1:List G->Os->Prop},Zaj l own K1->PW (CRep I V) l cs->Has I V own w->∃j own' I' V',K1 j own'/\(V'.n=V.n/\V.kp V')/\Later own I V w own' I' V' w/\PW (VRep I') j cs
 | [],own,I,V,cs,K1,h,hp,hH=>⟨[],own,I,V,h,⟨rfl,.refl _⟩,.refl hH,by rw[hp.of_nil];exact .nil⟩
 | g::l,own,I,V,cs,K1,h,hp,hH=>by obtain⟨x,F,rfl,H,D⟩:=hp.uncons;obtain⟨z,J,M,O,C,c,b,q⟩:=Dg (K1:=λz E=>Zaj l E λj u=>K1 (z::j) u) h H hH;obtain⟨j,T,B,V2,A,p,m,s⟩:=Pq C (D.mono λ_ _ h=>h.mono b.fro.mono b.va) b.has;exact⟨_,_,B,V2,A,⟨p.1.trans c.1,c.2.trans (Nat.le_of_eq c.1.symm) p.2⟩,b.trans m,.cons (q.mono m.fro.mono) s⟩
theorem Zt {K1:G->Os->Prop}(h:pur own g K1)(b:TRep I V g y)(hH:Has I V own w):∃q own' I' V',K1 q own'/\(V'.n=V.n/\V.kp V')/\Later own I V w own' I' V' w/\VRep I' q y:=by
 cases g with
 | oag l =>
  obtain⟨cs,rfl,s⟩:=(show ∃cs:List Value,y=.agg cs.toArray/\PW (CRep I V) l cs from b);obtain⟨p,B,z,V2,u,j,c,m⟩:=Pq (K1:=λp A=>K1 (.agg p) A) h s hH;exact⟨_,_,z,V2,u,j,c,Ze0 m⟩
 | v x=>exact Dg (g:=.v x) h b hH
 | tt=>exact Dg (g:=.tt) h b hH
 | ff=>exact Dg (g:=.ff) h b hH
 | un=>exact Dg (g:=.un) h b hH
 | nl=>exact Dg (g:=.nl) h b hH
 | agg l=>exact Dg (g:=.agg l) h b hH
 | sl l=>exact Dg (g:=.sl l) h b hH
 | osl k=>exact Dg (g:=.osl k) h b hH
 | osv k sz lo hi=>exact Dg (g:=.osv k sz lo hi) h b hH
 | ptr k off=>exact Dg (g:=.ptr k off) h b hH
 | _=>exact False.elim h
theorem PRep.of_v (h:VRep I g y):PRep I V g y:=by
 cases g with
 | ptr k o=>cases h
 | osl k=>cases h
 | osv k a b c=>cases h
 | oel k a b c=>cases h
 | mp k=>cases h
 | clo f a c=>cases h
 | oag l=>cases h
 | _=>exact h
theorem PRep.to_t (h:PRep I V g y):TRep I V g y:=by
 cases g with
 | ptr k o=>exact .of_c (g:=.ptr k o) h
 | osl k=>exact .of_c (g:=.osl k) h
 | osv k a b c=>exact .of_c (g:=.osv k a b c) h
 | oel k a b c=>exact .of_1 (g:=.oel k a b c) h
 | mp k=>exact .of_c (g:=.mp k) h
 | clo f a c=>exact .of_1 (g:=.clo f a c) h
 | v x=>exact .of_v (g:=.v x) h
 | tt=>exact .of_v (g:=.tt) h
 | ff=>exact .of_v (g:=.ff) h
 | un=>exact .of_v (g:=.un) h
 | nl=>exact .of_v (g:=.nl) h
 | agg l=>exact .of_v (g:=.agg l) h
 | sl l=>exact .of_v (g:=.sl l) h
 | oag l=>exact .of_1 (g:=.oag l) h.2
 | tup l=>cases(show VRep I (.tup l) y from h)
 | elp l o=>cases(show VRep I (.elp l o) y from h)
 | orv a b c d e f=>cases(show VRep I (.orv a b c d e f) y from h)
theorem PRep.to_1 (h:PRep I V g y):TRep1 I V g y:=by
 cases g with
 | tup l=>cases(show VRep I (.tup l) y from h)
 | _=>exact(PRep.to_t h)
theorem PRe1.to_1 (h:PRe1 I V g y):TRep1 I V g y:=by
 cases g with
 | oag l=>exact h
 | _=>exact PRep.to_1 (show PRep I V _ y from h)
theorem PRe1.of_p (h:PRep I V g y):PRe1 I V g y:=by
 cases g with
 | oag l=>exact h.2
 | _=>exact h
theorem PRe1.of_v (h:VRep I g y):PRe1 I V g y:=.of_p (.of_v h)
theorem PRes.to_t (h:PRes I V g y):TRep I V g y:=by
 cases g with
 | tup l=>obtain⟨cs,e,b⟩:=h;exact⟨cs,e,b.mono λ_ _ h=>h.to_1⟩
 | oag l=>exact .of_1 (g:=.oag l) h
 | _=>exact PRep.to_t (show PRep I V _ y from h)
theorem PRep.mono (h:PRep I V g y)(j:I.le I')(m:V.le V'):PRep I' V' g y:=by
 cases g with
 | ptr k o=>exact CRep.mono (g:=.ptr k o) h j m
 | osl k=>exact CRep.mono (g:=.osl k) h j m
 | osv k a b c=>exact CRep.mono (g:=.osv k a b c) h j m
 | oel k a b c=>exact TRep1.mono (g:=.oel k a b c) h j m
 | mp k=>exact CRep.mono (g:=.mp k) h j m
 | clo f a c=>exact TRep1.mono (g:=.clo f a c) h j m
 | oag l=>exact⟨h.1,TRep1.mono (g:=.oag l) h.2 j m⟩
 | _=>exact VRep.mono h j
theorem PRe1.mono (h:PRe1 I V g y)(c:I.le I')(b:V.le V'):PRe1 I' V' g y:=by
 cases g with
 | oag l=>exact TRep1.mono (g:=.oag l) h c b
 | _=>exact .of_p (PRep.mono (show PRep I V _ y from h) c b)
theorem Z1x {K1:G->Os->Prop}(h:Zd8 own g K1)(j:TRep I V g y)(hH:Has I V own w):∃b own' I' V',K1 b own'/\(V'.n=V.n/\V.kp V')/\Later own I V w own' I' V' w/\PRep I' V' b y:=by
 have key:pur own g K1->∃b own' I' V',K1 b own'/\(V'.n=V.n/\V.kp V')/\Later own I V w own' I' V' w/\PRep I' V' b y:=λh=>by obtain⟨b,m,u,z,q,p,A,s⟩:=Zt h j hH;exact⟨b,m,u,z,q,p,A,.of_v s⟩
 cases g with
 | ptr k o=>exact⟨_,_,I,V,h,⟨rfl,.refl _⟩,.refl hH,j⟩
 | clo f a c=>exact⟨_,_,I,V,h,⟨rfl,.refl _⟩,.refl hH,j⟩
 | _=>exact key h
theorem Z1q:∀{l:List G} {own:Os} {I:Imm} {V:Va} {cs:List Value} {K1:List G->Os->Prop},Zdo l own K1->PW (TRep I V) l cs->Has I V own w->∃m own' I' V',K1 m own'/\(V'.n=V.n/\V.kp V')/\Later own I V w own' I' V' w/\PW (PRep I' V') m cs
 | [],own,I,V,cs,K1,h,hp,hH=>⟨[],own,I,V,h,⟨rfl,.refl _⟩,.refl hH,by rw[hp.of_nil];exact .nil⟩
 | g::l,own,I,V,cs,K1,h,hp,hH=>by obtain⟨x,F,rfl,H,D⟩:=hp.uncons;obtain⟨z,J,M,O,C,c,b,q⟩:=Z1x (K1:=λz E=>Zdo l E λm u=>K1 (z::m) u) h H hH;obtain⟨m,T,B,V2,A,p,j,s⟩:=Z1q C (D.mono λ_ _ h=>h.mono b.fro.mono b.va) b.has;exact⟨_,_,B,V2,A,⟨p.1.trans c.1,c.2.trans (Nat.le_of_eq c.1.symm) p.2⟩,b.trans j,.cons (q.mono j.fro.mono j.va) s⟩
theorem N3 (h:Has I V own w)(z:Mem I' w')(p:I.le I')(q:∀b o,b < w.heap.size->I' b o=I b o)(c:Below w.heap.size w w'):Later own I V w own I' V w' :=
 ⟨⟨z,h.num,λk r m=>(h.each k r m).keep p (.refl _) (h.num k r m) rfl c.os c.size λb j=>c.block b (h.foot k r b m j).1,λk r b m j=>by obtain⟨s,u⟩:=h.foot k r b m j;exact⟨bd s c.size,λo=>(q b o s).trans (u o)⟩,h.disj⟩,⟨c.os,c.tape,c.output,c.size,λb j _=>⟨c.block b j,λo=>q b o j⟩,p,λk r b m j _=>⟨k,r,m,j⟩⟩,.refl _⟩
end
theorem du:type_of%@EvIf.beq:=@EvIf.beq
theorem dv:type_of%@EvIf.dec:=@EvIf.dec
theorem dw:type_of%@EvCall.gh:=@EvCall.gh
theorem dx:type_of%@EvCall.lend:=@EvCall.lend
theorem dy:type_of%@EvIf.bne:=@EvIf.bne
theorem dz:type_of%@EvIf.mk:=@EvIf.mk
theorem ec:type_of%@EvIdx.at:=@EvIdx.at
theorem ee:type_of%@EvIdx.of:=@EvIdx.of
end Go.Proofs.YtmmdikhljefeiaaGreat
