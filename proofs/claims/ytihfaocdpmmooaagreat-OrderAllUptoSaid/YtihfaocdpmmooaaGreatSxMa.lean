
import Derived.Below
import Derived.OrdersHeld
import Derived.Test.YtihfaocdpmmooaaGreatZKeys
import Derived.Test.YtihfaocdpmmooaaGreatOwnM
import Derived.Test.YtihfaocdpmmooaaGreatZFrm
import Derived.Great.BuildSlice
import Derived.Laws.AppendOwnNone
import Derived.Deep.AppendSrc
import Derived.IntWalk
import Derived.Laws.StructEq
import Derived.Laws.Small
namespace Go.Proofs.YtihfaocdpmmooaaGreat
open Go.RowKit
inductive G where
 | v (x:Value)
 | tt
 | ff
 | un
 | nl
 | agg (l:List G)
 | oag (l:List G)
 | tup (l:List G)
 | ptr (k off:Nat)
 | sl (l:List (List G))
 | osl (k:Nat)
 | osv (k sz lo hi:Nat)
 | elp (row:List G) (off:Nat)
 | oel (k i sz off:Nat)
 | orv (k i sz off len cap:Nat)
 | mp (k:Nat)
 | clo (f:Nat) (a c:List G)
abbrev Ob:=(Nat→Nat→Option Value)→Nat→(Nat→Prop)→World→Prop
inductive R where
 | blk (cs:List G) (t:TypeId)
 | slc (rows:List (List G)) (e:TypeId) (sz:Nat)
 | froz (rows:List (List G)) (sz:Nat)
 | gone
 | mpI (l:List (Int × G))
 | mpS (l:List (ByteArray × G))
 | sit (s:ByteArray) (pos:Nat)
 | mpX (l:List (ByteArray × G)) (m:Nat) (ob:Obj)
 | mit (k:Nat) (l:List (ByteArray × G)) (D:List ByteArray) (last:Option (ByteArray × G)) (m:Nat) (ob:Obj)
 | abs (p:Ob)
 | lnk (j:Nat)
 | adr (k b:Nat)
 | fam (ps:List Ob)
 | vw (rows:List (List G)) (e:TypeId) (sz:Nat)
inductive KD where
 | no
 | arr (n:Nat) (e:TypeId) (sz:Nat)
 | map (str:Bool) (e:TypeId)
 | ptr
 | fn
 | bool
structure TI where
 agg:Bool
 zero:List G
 elem:Option (TypeId × Nat)
 flds:List (TypeId × Nat)
 str:Bool
 ik:Option IntKind
 kd:KD
abbrev Ts:=List (Nat × G)
abbrev Os:=List (Nat × R)
def look {α:Type}(i:Nat):List (Nat × α)→Option α
 | []=>none
 | (j,g)::r=>bif Nat.beq i j then some g else look i r
def put (d:Option Tmp)(g:G)(t:Ts):Ts:=match d with
 | some d=>(d,g)::t
 | none=>t
def Gof:Value→G
 | .bool true=>.tt
 | .bool false=>.ff
 | .slice none 0 0=>.nl
 | x=>.v x
structure EvIf (c:Bool)(A B:Prop):Prop where
 yes:c=true→A
 no:c=false→B
structure EvRng (n:Int)(A:Prop):Prop where
 rng:-9223372036854775808≤n∧n≤9223372036854775807
 next:A
structure EvIdx {α:Type}(l:List α)(n:Int)(K:α→Prop):Prop where
 rng:0≤n∧n < l.length
 next:∀x,l[n.toNat]?=some x→K x
structure EvSet {α:Type}(l:List α)(n:Nat)(F:α→(α→Prop)→Prop)(K:List α→Prop):Prop where
 rng:n < l.length
 next:∀x,l[n]?=some x→F x fun y=>K (l.set n y)
structure EvRoom (n:Nat)(A:Prop):Prop where
 room:n≤1073741824
 next:A
structure Zcp {α:Type}(l:List (List α))(sz:Nat)(one:α→Bool)(A:Prop):Prop where
 rows:∀r∈l,r.length=sz∧r.all one=true
 next:A
structure Z10 (l h:Int)(n:Nat)(A:Prop):Prop where
 rng:0≤l∧l≤h∧h≤n
 next:A
structure Zgk {α:Type}(l:List (List α))(sz:Nat)(A:Prop):Prop where
 rows:∀r∈l,r.length=sz
 next:A
structure EvDiv (n:Int)(A:Prop):Prop where
 ne:n≠0
 next:A
def gBy (c:UInt8):List G:=[.v (.int .u8 c.toNat)]
structure EvBytes (l:List (List G))(K:List UInt8→Prop):Prop where
 run:∃bs:List UInt8,l=bs.map gBy∧K bs
def Ml (l:List G)(cs:List Value):Prop:=l=cs.map .v
structure Zcx {α:Type}(l:List α)(K:Bool→Prop):Prop where
 run:∀b:Bool,(l≠[]→b=false)→K b
structure Zeg {α:Type}(l:List (List α))(m:Nat)(K:List α→Prop):Prop where
 pos:0 < m
 run:∃r:List α,r.length=m∧l.take m=r.map (fun g=>[g])∧K r
structure EvEq (P:Program)(t:TypeId)(l m:List G)(K:Bool→Prop):Prop where
 run:∃cs ds b,Ml l cs∧Ml m ds∧P.eqGuardType P.depth t=false∧(∀w,(Op.equalIn 10000 t (.agg cs.toArray) (.agg ds.toArray)).run P w=.ok b w)∧K b
theorem EvIdx.at {α β:Type}{f:α→β}{l:List α}{i:Nat}{x:α}{K:β→Prop}(hx:l[i]?=some x)(h:K (f x)):EvIdx (l.map f) i K :=
 ⟨by have:=(ac.1 hx).1;simp;omega,fun y hy=>by
  rw[ay,aj,hx] at hy
  obtain rfl:=cg hy
  exact h⟩
theorem EvIdx.atI {α β:Type}{f:α→β}{l:List α}{n:Int}{x:α}{K:β→Prop}(h0:0≤n)(hx:l[n.toNat]?=some x)(h:K (f x)):EvIdx (l.map f) n K:=by
 obtain⟨i,rfl⟩:=Int.eq_ofNat_of_zero_le h0
 exact .at hx h
theorem EvSet.at {α β:Type}{f:α→β}{l l':List α}{i:Nat}{x y:α}{F:β→(β→Prop)→Prop}{K:List β→Prop}(hx:l[i]?=some x)(hF:∀k:β→Prop,k (f y)→F (f x) k)(hl:l.set i y=l')(h:K (l'.map f)):EvSet (l.map f) i F K :=
 ⟨by have:=(ac.1 hx).1;simpa using this,fun z hz=>by
  rw[aj,hx] at hz
  obtain rfl:=cg hz
  refine hF _ ?_
  rw[←List.map_set,hl]
  exact h⟩
theorem EvIdx.of {α β:Type}{f:α→β}{l:List α}{i:Nat}{K:β→Prop}(hi:i < l.length)(h:∀x,l[i]?=some x→K (f x)):EvIdx (l.map f) i K :=
 .at (ab hi) (h _ (ab hi))
theorem EvIf.dec {p:Prop}[Decidable p]{A B:Prop}(h1:p→A)(h2:¬p→B):EvIf (decide p) A B:=⟨fun h=>h1 (of_decide_eq_true h),fun h=>h2 (of_decide_eq_false h)⟩
theorem EvIf.beq {x y:Int}{A B:Prop}(h1:x=y→A)(h2:x≠y→B):EvIf (x==y) A B:=⟨fun h=>h1 (eq_of_beq h),fun h=>h2 (ne_of_beq_false h)⟩
theorem EvIf.bne {x y:Int}{A B:Prop}(h1:x≠y→A)(h2:x=y→B):EvIf (x != y) A B:=⟨fun h=>h1 (bne_iff_ne.1 h),fun h=>h2 (by simpa using h)⟩
theorem Uo {a b:ByteArray}:(a.toList==b.toList)=decide (a=b):=by
 have key:a.toList=b.toList↔a=b:=⟨fun h=>by
  have e:∀c:ByteArray,c.toList=c.data.toList:=fun c=>by
   have key:∀(n i:Nat) (r:List UInt8),c.size - i=n→ByteArray.toList.loop c i r=r.reverse++(c.data.toList.drop i):=fun n=>by
    induction n with
    | zero =>
     intro i r hn
     unfold ByteArray.toList.loop
     have:¬i < c.size:=by omega
     rw[da this,c7 (by show c.data.toList.length≤i;simp;exact Nat.le_of_not_lt this)]
     simp
    | succ n ih =>
     intro i r hn
     unfold ByteArray.toList.loop
     have hi:i < c.size:=by omega
     rw[db hi,ih (i+1) _ (by omega)]
     have hl:i < c.data.toList.length:=by simpa using hi
     rw[List.drop_eq_getElem_cons hl]
     simp[ByteArray.get!,hi]
   have:=key _ 0 [] rfl
   simpa [ByteArray.toList] using this
  rw[e,e] at h
  cases a;cases b
  congr
  simpa using congrArg List.toArray h,fun h=>by rw[h]⟩
 by_cases h:a=b
 ·simp[h]
 ·simp[h,mt key.1 h]
theorem EvIf.bneS {x y:ByteArray}{A B:Prop}(h1:x≠y→A)(h2:x=y→B):EvIf (!(x.toList==y.toList)) A B:=by
 rw[Uo]
 exact⟨fun h=>h1 (by simpa using h),fun h=>h2 (by simpa using h)⟩
def Fz (k:Nat):List Nat→Bool
 | []=>false
 | j::l=>bif Nat.beq k j then true else Fz k l
def nth {α:Type}:List α→Nat→Option α
 | [],_=>none
 | x::_,0=>some x
 | _::l,n+1=>nth l n
def G.pure:G→Bool
 | .ptr _ _ | .osl _ | .osv _ _ _ _ | .oag _ | .elp _ _ | .oel _ _ _ _ | .orv _ _ _ _ _ _ | .tup _ | .nl | .tt | .ff | .mp _ | .clo _ _ _=>false
 | _=>true
def G.cap:G→Bool
 | .ptr _ _ | .mp _=>true
 | .v x=>x.oneCell'
 | _=>false
def G.one:G→Bool
 | .v x=>x.oneCell'
 | .tt | .ff | .nl | .sl _ | .ptr _ _ | .osl _ | .osv _ _ _ _ | .mp _=>true
 | _=>false
def Gb:G→Bool
 | .v x=>x.oneCell'
 | _=>false
structure Et (c A:Prop):Prop where
 fit:c
 next:A
def To (n:Nat):Bool:=Nat.blt 48 n
def Zfs:List G→Nat→Nat→(List G→Prop)→Prop
 | _,_,0,K=>K []
 | [],_,_+1,_=>False
 | g::l,0,n+1,K=>Zfs l 0 n fun r=>K (g::r)
 | _::l,k+1,n+1,K=>Zfs l k (n+1) K
def seg (l:List G)(k n:Nat)(K:List G→Prop):Prop:=match To n with
 | false=>Zfs l k n K
 | true=>Et (k+n≤l.length) (K ((l.drop k).take n))
def Zfl:List G→Nat→List G→(List G→Prop)→Prop
 | l,_,[],K=>K l
 | [],_,_::_,_=>False
 | _::l,0,c::cs,K=>Zfl l 0 cs fun r=>K (c::r)
 | g::l,k+1,c::cs,K=>Zfl l k (c::cs) fun r=>K (g::r)
def ovr (n:Nat)(l:List G)(k:Nat)(cs:List G)(K:List G→Prop):Prop:=match To n with
 | false=>Zfl l k cs K
 | true=>Et (cs.length=n∧k+n≤l.length) (K (l.take k++cs++l.drop (k+n)))
def Av {α:Type}(p:α→Bool):List α→Bool
 | []=>true
 | g::l=>bif p g then Av p l else false
def Iv (n:Nat)(l:List G)(K:G→Prop):Prop:=match To n with
 | false=>match Av G.pure l with
  | true=>K (.agg l)
  | false=>K (.oag l)
 | true=>Et (∀g∈l,g.pure=true) (K (.agg l))
def E6 (rows:List (List G))(lo hi:Nat):List (List G):=(rows.take hi).drop lo
def Zbe (k:Nat)(o:Os):Os→(Nat→Prop)→Prop
 | [],_=>False
 | (i,_)::l,K=>match look i o with
  | some (.adr j b)=>match Nat.beq k j with
   | true=>K b
   | false=>Zbe k o l K
  | _=>Zbe k o l K
def Z8k (o:Os)(g:G)(K:G→Os→Prop):Prop:=match g with
 | .osl k=>match look k o with
  | some (.slc rows _ sz)=>K (.sl rows) ((k,.froz rows sz)::o)
  | some (.froz rows _)=>K (.sl rows) o
  | _=>False
 | .osv k sz lo hi=>match look k o with
  | some (.slc rows _ sz')=>match Nat.beq sz sz' with
   | true=>K (.sl (E6 rows lo hi)) ((k,.froz rows sz)::o)
   | false=>False
  | some (.froz rows sz')=>match Nat.beq sz sz' with
   | true=>K (.sl (E6 rows lo hi)) o
   | false=>False
  | _=>False
 | .nl=>K (.sl []) o
 | .tt=>K (.v (.bool true)) o
 | .ff=>K (.v (.bool false)) o
 | .ptr k off=>Zbe k o o fun b=>K (.v (.pointer (some ⟨b,off,none⟩))) o
 | .oag _ | .elp _ _ | .oel _ _ _ _ | .orv _ _ _ _ _ _ | .tup _ | .mp _ | .clo _ _ _=>False
 | g=>K g o
def Zbw:List G→Os→(List G→Os→Prop)→Prop
 | [],o,K=>K [] o
 | g::l,o,K=>Z8k o g fun g' o'=>Zbw l o' fun l' o''=>K (g'::l') o''
def pur (o:Os)(g:G)(K:G→Os→Prop):Prop:=match g with
 | .oag l=>Zbw l o fun l' o'=>K (.agg l') o'
 | g=>Z8k o g K
def Ze2 (o:Os)(g:G)(K:G→Os→Prop):Prop:=match g with
 | .ptr k off=>K (.ptr k off) o
 | .clo f a c=>K (.clo f a c) o
 | g=>pur o g K
def Zfn:List G→Os→(List G→Os→Prop)→Prop
 | [],o,K=>K [] o
 | g::l,o,K=>Ze2 o g fun g' o'=>Zfn l o' fun l' o''=>K (g'::l') o''
def Z8n:G→G
 | .nl=>.sl []
 | .tt=>.v (.bool true)
 | .ff=>.v (.bool false)
 | g=>g
def Z9f (t:Ts)(w:Os)(n:Nat)(d:Option Tmp)(g:G)(new:List (List G))(e sz:Nat)(K:Ts→Os→Nat→Prop):Prop:=match g with
 | .osl k=>match look k w with
  | some (.slc rows e' sz')=>match Nat.beq e e',Nat.beq sz sz' with
   | true,true=>EvRoom (rows.length+new.length) (K (put d (.osl n) t) ((n,.slc (rows++new) e sz)::(k,.gone)::w) (n+1))
   | _,_=>False
  | _=>False
 | .nl=>EvRoom new.length (K (put d (.osl n) t) ((n,.slc new e sz)::w) (n+1))
 | _=>False
def Zcm (t:Ts)(w:Os)(n:Nat)(d:Option Tmp)(g:G)(new:List (List G))(e sz:Nat)(K:Ts→Os→Nat→Prop):Prop:=match g with
 | .osl k=>match look k w with
  | some (.vw rows e' sz')=>match Nat.beq e e',Nat.beq sz sz' with
   | true,true=>EvRoom (rows.length+new.length) (K (put d (.osl n) t) ((n,.vw (rows++new) e sz)::(k,.gone)::w) (n+1))
   | _,_=>False
  | _=>Z9f t w n d (.osl k) new e sz K
 | .orv k 0 (sz'+1) 0 l c=>match look k w with
  | some (.vw rows e' sz2)=>match Nat.beq e e',Nat.beq sz (sz'+1),Nat.beq sz sz2,Nat.beq l c,Nat.ble l rows.length with
   | true,true,true,true,true=>EvRoom (l+new.length) (K (put d (.osl n) t) ((n,.vw (rows.take l++new) e sz)::(k,.gone)::w) (n+1))
   | _,_,_,_,_=>False
  | _=>False
 | g=>Z9f t w n d g new e sz K
def Zev (g:G)(K:ByteArray→Prop):Prop:=match g with
 | .v (.string s)=>K s
 | _=>False
def Hk {α:Type}(k:Nat):List Nat→(List Nat→α)→α
 | [],K=>K [k]
 | j::l,K=>match Nat.beq k j with
  | true=>K (j::l)
  | false=>Hk k l fun r=>K (j::r)
def gkC {α:Type}(g:G)(ks:List Nat)(K:List Nat→α):α:=match g with
 | .ptr k _ | .osl k | .osv k _ _ _ | .oel k _ _ _ | .mp k=>Hk k ks K
 | _=>K ks
def Z9p {α:Type}:List G→List Nat→(List Nat→α)→α
 | [],ks,K=>K ks
 | g::l,ks,K=>gkC g ks fun ks=>Z9p l ks K
def gk1 {α:Type}(g:G)(ks:List Nat)(K:List Nat→α):α:=match g with
 | .oag l=>Z9p l ks K
 | .clo _ a c=>Z9p a ks fun ks=>Z9p c ks K
 | g=>gkC g ks K
def gkL {α:Type}:List G→List Nat→(List Nat→α)→α
 | [],ks,K=>K ks
 | g::l,ks,K=>gk1 g ks fun ks=>gkL l ks K
def Bm:G→Bool
 | .ptr _ _ | .osl _ | .osv _ _ _ _ | .oel _ _ _ _ | .orv _ _ _ _ _ _ | .mp _=>false
 | _=>true
def J3:R→Bool
 | .blk cs _=>Av Bm cs
 | .lnk _=>false
 | .adr _ _=>false
 | _=>true
def Is:List Nat→Nat→List (Nat × Nat)
 | [],_=>[]
 | k::ks,i=>(k,i)::Is ks (i+1)
def Rj:List Nat→Nat→List R→Nat→List (Nat × Nat)
 | k::ks,n,_::rs,i=>(i,k)::Rj ks n rs (i+1)
 | [],n,_::rs,i=>(i,n)::Rj [] (n+1) rs (i+1)
 | _,_,[],_=>[]
def B7:List R→Nat→Os
 | [],_=>[]
 | r::rs,i=>(i,r)::B7 rs (i+1)
def ev (t:Ts)(o:Os)(x:Operand)(K:G→Prop):Prop:=match x with
 | .tmp i=>match look i t with
  | some (.osl k)=>match look k o with
   | some (.froz rows _)=>K (.sl rows)
   | _=>K (.osl k)
  | some g=>K g
  | none=>False
 | .const x=>K (Gof x)
 | .func f=>K (.v (.func (.func f) #[] #[]))
 | .global _=>False
def evs (t:Ts)(o:Os):List Operand→(List G→Prop)→Prop
 | [],K=>K []
 | x::l,K=>ev t o x fun g=>evs t o l fun r=>K (g::r)
def G5 (o:Os)(g:G)(K:List G→Prop):Prop:=match g with
 | .agg l=>K l
 | .oag l=>K l
 | .tup _ | .elp _ _ | .oel _ _ _ _ | .orv _ _ _ _ _ _ | .un | .clo _ _ _=>False
 | .v x=>match x.oneCell' with
  | true=>K [.v x]
  | false=>False
 | .osl k=>match look k o with
  | some (.slc _ _ _)=>K [.osl k]
  | some (.froz rows _)=>K [.sl rows]
  | some (.vw _ _ _)=>K [.osl k]
  | _=>False
 | .osv k sz lo hi=>match look k o with
  | some (.slc _ _ _)=>K [.osv k sz lo hi]
  | some (.vw _ _ _)=>K [.osv k sz lo hi]
  | _=>False
 | g=>K [g]
def Zd7 (g:G)(K:List G→Prop):Prop:=match g with
 | .agg l=>K l
 | .oag l=>K l
 | _=>False
def Zbz (o:Os):G→Bool
 | .osl k=>match look k o with
  | some (.slc _ _ _)=>true
  | some (.vw _ _ _)=>true
  | _=>false
 | .osv k _ _ _=>match look k o with
  | some (.slc _ _ _)=>true
  | some (.vw _ _ _)=>true
  | _=>false
 | g=>G.one g
def Si (o:Os)(g:G)(K:List (List G)→Prop):Prop:=match g with
 | .nl=>K []
 | .sl rows=>K rows
 | .osl k=>match look k o with
  | some (.slc rows _ _)=>K rows
  | some (.froz rows _)=>K rows
  | some (.vw rows _ _)=>K rows
  | _=>False
 | .osv k _ lo hi=>match look k o with
  | some (.slc rows _ _)=>K (E6 rows lo hi)
  | _=>False
 | _=>False
def Zht (o:Os)(g:G)(K:Int→Prop):Prop:=match g with
 | .orv _ _ _ _ l _=>K l
 | g=>Si o g fun rows=>K rows.length
def Z3p (o:Os)(g:G)(sz:Nat)(K:List (List G)→Prop):Prop:=match g with
 | .nl=>K []
 | .sl rows=>Zcp rows sz G.one (K rows)
 | .osl k=>match look k o with
  | some (.slc rows _ sz')=>match Nat.beq sz' sz with
   | true=>K rows
   | false=>False
  | _=>False
 | .osv k sz0 lo hi=>match look k o with
  | some (.slc rows _ sz')=>match Nat.beq sz' sz,Nat.beq sz0 sz with
   | true,true=>K (E6 rows lo hi)
   | _,_=>False
  | some (.vw rows _ sz')=>match Nat.beq sz' sz,Nat.beq sz0 sz with
   | true,true=>K (E6 rows lo hi)
   | _,_=>False
  | _=>False
 | _=>False
def K7 (m:List (Nat × Nat)):G→G
 | .ptr k off=>.ptr ((look k m).getD k) off
 | .osl k=>.osl ((look k m).getD k)
 | .osv k sz lo hi=>.osv ((look k m).getD k) sz lo hi
 | .oel k i sz off=>.oel ((look k m).getD k) i sz off
 | .orv k i sz off l c=>.orv ((look k m).getD k) i sz off l c
 | .mp k=>.mp ((look k m).getD k)
 | g=>g
def Z3t (m:List (Nat × Nat)):G→G
 | .oag l=>.oag (l.map (K7 m))
 | .clo f a c=>.clo f (a.map (K7 m)) (c.map (K7 m))
 | g=>K7 m g
def Pj (m:List (Nat × Nat)):G→G
 | .tup l=>.tup (l.map (Z3t m))
 | g=>Z3t m g
def Hs (m:List (Nat × Nat)):R→R
 | .blk cs t=>.blk (cs.map (K7 m)) t
 | .adr k b=>.adr ((look k m).getD k) b
 | .lnk j=>.lnk ((look j m).getD j)
 | r=>r
def Kq (m:List (Nat × Nat)):G→G
 | .osl k=>.osl ((look k m).getD k)
 | .osv k sz lo hi=>.osv ((look k m).getD k) sz lo hi
 | .oel k i sz off=>.oel ((look k m).getD k) i sz off
 | .orv k i sz off l c=>match sz with
  | 0=>.orv k i 0 off l c
  | s+1=>.orv ((look k m).getD k) i (s+1) off l c
 | g=>g
def Tg (m:List (Nat × Nat)):G→G
 | .oag l=>.oag (l.map (Kq m))
 | .clo f a c=>.clo f (a.map (Kq m)) (c.map (Kq m))
 | g=>Kq m g
def renS (m:List (Nat × Nat)):G→G
 | .tup l=>.tup (l.map (Tg m))
 | g=>Tg m g
def Z44 (m:List (Nat × Nat)):R→R
 | .blk cs t=>.blk (cs.map (Kq m)) t
 | r=>r
def isS:R→Bool
 | .slc _ _ _ | .froz _ _ | .gone=>true
 | .vw _ _ _=>true
 | .fam _=>true
 | _=>false
def Rf (n:Nat):G→Bool
 | .ptr k _ | .osl k | .oel k _ _ _ | .osv k _ _ _ | .mp k=>Nat.blt k n
 | .orv k _ _ _ _ _=>Nat.blt k n
 | _=>true
def Zbq (n:Nat):G→Bool
 | .oag l=>Av (Rf n) l
 | .clo _ a c=>match Av (Rf n) a with
  | true=>Av (Rf n) c
  | false=>false
 | .tup _=>false
 | g=>Rf n g
def Z58 (n:Nat):G→Bool
 | .tup l=>Av (Zbq n) l
 | g=>Zbq n g
def X2 (n:Nat):R→Bool
 | .blk cs _=>Av (Rf n) cs
 | .lnk _=>false
 | .adr k _=>Nat.blt k n
 | _=>true
def Oi (own:Os):List Nat→List Nat→(List Nat→Prop)→Prop
 | [],acc,K=>K acc
 | k::l,acc,K=>match look k own with
  | some (.blk cs _)=>Z9p cs acc fun acc=>Oi own l acc K
  | _=>Oi own l acc K
def trK (own:Os):Nat→List Nat→(List Nat→Prop)→Prop
 | 0,ks,K=>K ks
 | n+1,ks,K=>Oi own ks ks fun ks=>trK own n ks K
def Zfh (ks:List Nat):G→Bool
 | .ptr k _ | .osl k | .osv k _ _ _ | .oel k _ _ _ | .mp k=>Fz k ks
 | _=>true
def Z3m (ks:List Nat):R→Bool
 | .blk cs _=>Av (Zfh ks) cs
 | .lnk _=>false
 | .adr k _=>Fz k ks
 | _=>true
def rsK (own:Os)(ks0:List Nat):List Nat→(List R→Prop)→Prop
 | [],K=>K []
 | k::ks,K=>match look k own with
  | some r=>match J3 r with
   | true=>rsK own ks0 ks fun rs=>K (r::rs)
   | false=>match Z3m ks0 r with
    | true=>rsK own ks0 ks fun rs=>K (Hs (Is ks0 0) r::rs)
    | false=>False
  | none=>False
def Z51 (tt:List (Nat × TI))(ty:TypeId):KD:=match look ty tt with
 | some i=>i.kd
 | none=>.no
def Zf6 (tt:List (Nat × TI))(ty:TypeId)(op:BinOp)(b:Bool)(K:G→Prop):Prop:=match Z51 tt ty,op with
 | .ptr,.eql=>K (bif b then .tt else .ff)
 | .ptr,.neq=>K (bif b then .ff else .tt)
 | _,_=>False
def Z4s (g:G)(K:Bool→Prop):Prop:=match g with
 | .tt=>K true
 | .ff=>K false
 | .v (.bool b)=>K b
 | _=>False
structure Zfx (n:Int)(K:Prop):Prop where
 nn:0≤n
 next:K
def Zfy (P:Program)(tt:List (Nat × TI))(ty:TypeId)(op:BinOp)(x y:G)(K:G→Prop):Prop:=match x,y with
 | .v (.int .i64 a),.v (.int .i64 b)=>match op with
  | .add=>EvRng (a+b) (K (.v (.int .i64 (a+b))))
  | .sub=>EvRng (a - b) (K (.v (.int .i64 (a - b))))
  | .mul=>EvRng (a * b) (K (.v (.int .i64 (a * b))))
  | .quo=>EvDiv b (EvRng (a.tdiv b) (K (.v (.int .i64 (a.tdiv b)))))
  | .rem=>EvDiv b (K (.v (.int .i64 (a.tmod b))))
  | .or=>K (.v (.int .i64 (IntKind.wrap .i64 ((BitVec.ofInt 64 a ||| BitVec.ofInt 64 b).toNat:Nat))))
  | .and=>K (.v (.int .i64 (IntKind.wrap .i64 ((BitVec.ofInt 64 a &&& BitVec.ofInt 64 b).toNat:Nat))))
  | .eql=>K (.v (.bool (a==b)))
  | .neq=>K (.v (.bool (a != b)))
  | .lss=>K (.v (.bool (decide (a < b))))
  | .leq=>K (.v (.bool (decide (a≤b))))
  | .gtr=>K (.v (.bool (decide (a > b))))
  | .geq=>K (.v (.bool (decide (a ≥ b))))
  | _=>False
 | .v (.int .i64 a),.v (.int .u64 b)=>match op with
  | .shr=>Zfx b (K (.v (.int .i64 (a.fdiv (2 ^ min b.toNat 64)))))
  | _=>False
 | .v (.int .u8 a),.v (.int .u8 b)=>match op with
  | .eql=>K (.v (.bool (a==b)))
  | .neq=>K (.v (.bool (a != b)))
  | .lss=>K (.v (.bool (decide (a < b))))
  | .leq=>K (.v (.bool (decide (a≤b))))
  | .gtr=>K (.v (.bool (decide (a > b))))
  | .geq=>K (.v (.bool (decide (a ≥ b))))
  | _=>False
 | .v (.int .u64 a),.v (.int .u64 b)=>match op with
  | .shr=>Zfx b (K (.v (.int .u64 (a.fdiv (2 ^ min b.toNat 64)))))
  | .shl=>Zfx b (K (.v (.int .u64 (IntKind.wrap .u64 (a * 2 ^ min b.toNat 64)))))
  | .add=>K (.v (.int .u64 (IntKind.wrap .u64 (a+b))))
  | .mul=>K (.v (.int .u64 (IntKind.wrap .u64 (a * b))))
  | .rem=>EvDiv b (K (.v (.int .u64 (a.tmod b))))
  | .or=>K (.v (.int .u64 (IntKind.wrap .u64 ((BitVec.ofInt 64 a ||| BitVec.ofInt 64 b).toNat:Nat))))
  | .and=>K (.v (.int .u64 (IntKind.wrap .u64 ((BitVec.ofInt 64 a &&& BitVec.ofInt 64 b).toNat:Nat))))
  | .eql=>K (.v (.bool (a==b)))
  | .neq=>K (.v (.bool (a != b)))
  | .lss=>K (.v (.bool (decide (a < b))))
  | .leq=>K (.v (.bool (decide (a≤b))))
  | .gtr=>K (.v (.bool (decide (a > b))))
  | .geq=>K (.v (.bool (decide (a ≥ b))))
  | _=>False
 | .v (.int .u64 a),.v (.int _ b)=>match op with
  | .shr=>Zfx b (K (.v (.int .u64 (a.fdiv (2 ^ min b.toNat 64)))))
  | _=>False
 | .v (.string a),.v (.string b)=>match op with
  | .add=>EvRng ((a.size+b.size:Nat):Int) (K (.v (.string (a++b))))
  | .eql=>K (.v (.bool (a.toList==b.toList)))
  | .neq=>K (.v (.bool (!(a.toList==b.toList))))
  | .lss=>K (.v (.bool (Op.bytesLess a.toList b.toList)))
  | .leq=>K (.v (.bool (Op.bytesLess a.toList b.toList||a.toList==b.toList)))
  | .gtr=>K (.v (.bool (!(Op.bytesLess a.toList b.toList||a.toList==b.toList))))
  | .geq=>K (.v (.bool (!Op.bytesLess a.toList b.toList)))
  | _=>False
 | .agg l,.agg m=>match op with
  | .eql=>EvEq P ty l m fun b=>K (.v (.bool b))
  | .neq=>EvEq P ty l m fun b=>K (.v (.bool (!b)))
  | _=>False
 | .v (.int .i32 a),.v (.int .i32 b)=>match op with
  | .sub=>K (.v (.int .i32 (IntKind.wrap .i32 (a - b))))
  | .eql=>K (.v (.bool (a==b)))
  | .neq=>K (.v (.bool (a != b)))
  | .lss=>K (.v (.bool (decide (a < b))))
  | .leq=>K (.v (.bool (decide (a≤b))))
  | .gtr=>K (.v (.bool (decide (a > b))))
  | .geq=>K (.v (.bool (decide (a ≥ b))))
  | _=>False
 | .ptr _ _,.v (.pointer none)=>Zf6 tt ty op false K
 | .v (.pointer none),.ptr _ _=>Zf6 tt ty op false K
 | .v (.pointer none),.v (.pointer none)=>Zf6 tt ty op true K
 | x,y=>match Z51 tt ty with
  | .bool=>Z4s x fun a=>Z4s y fun b=>match op with
   | .eql=>K (.v (.bool (a==b)))
   | .neq=>K (.v (.bool (!(a==b))))
   | _=>False
  | _=>False
def Zfq (x:G)(K:G→Prop):Prop:=match x with
 | .tt=>K .ff
 | .ff=>K .tt
 | .v (.bool b)=>K (.v (.bool (!b)))
 | _=>False
abbrev Imm:=Nat→Nat→Option Value
inductive VRep (I:Imm):G→Value→Prop
 | v (x:Value):VRep I (.v x) x
 | tt:VRep I .tt (.bool true)
 | ff:VRep I .ff (.bool false)
 | un:VRep I .un undef
 | nl:VRep I .nl (.slice none 0 0)
 | agg (l:List G) (cs:List Value) (hl:l.length=cs.length) (h:∀(j:Nat) g u,l[j]?=some g→cs[j]?=some u→VRep I g u):VRep I (.agg l) (.agg cs.toArray)
 | sl (l:List (List G)) (A:Option Addr) (c sz:Nat) (u:Nat→Nat→Value) (hc:l.length≤c) (hA:A=none→c=0) (hz:∀r∈l,r.length=sz)
   (h:∀(i:Nat) r,l[i]?=some r→∃b o,A=some ⟨b,o,none⟩∧∀j,j < sz→I b (o+i * sz+j)=some (u i j))
   (hu:∀(i:Nat) r (j:Nat) g,l[i]?=some r→r[j]?=some g→VRep I g (u i j)):VRep I (.sl l) (.slice A l.length c)
structure Va where
 n:Nat
 b:Nat→Nat
 s:Nat→Value
 f:Nat→Nat→Prop
def PW (P:G→Value→Prop)(l:List G)(cs:List Value):Prop:=l.length=cs.length∧∀(j:Nat) g u,l[j]?=some g→cs[j]?=some u→P g u
def Hc (sz:Nat)(v:Value)(lo hi:Nat):Value:=match v with
 | .slice a _ c=>.slice (if c=lo then a else a.map (·.add (lo * sz))) (hi - lo) (c - lo)
 | _=>undef
def Mf:Value→Nat
 | .slice _ n _=>n
 | _=>0
def CRep (I:Imm)(V:Va):G→Value→Prop
 | .ptr k off,x=>k < V.n∧x=.pointer (some ⟨V.b k,off,none⟩)
 | .osl k,x=>k < V.n∧x=V.s k
 | .osv k sz lo hi,x=>k < V.n∧(lo≤hi∧hi≤Mf (V.s k))∧x=Hc sz (V.s k) lo hi
 | .mp k,x=>k < V.n∧x=.map (some (V.b k))
 | .clo _ _ _,_=>False
 | .oag _,_=>False
 | .elp _ _,_=>False
 | .oel _ _ _ _,_=>False
 | .orv _ _ _ _ _ _,_=>False
 | .tup _,_=>False
 | g,x=>VRep I g x
def OrB (V:Va)(k sz b q:Nat):Prop:=match sz with
 | 0=>b=V.b k∧q=0
 | _+1=>∃n c,V.s k=.slice (some ⟨b,q,none⟩) n c
def TRep1 (I:Imm)(V:Va):G→Value→Prop
 | .oag l,x=>∃cs:List Value,x=.agg cs.toArray∧PW (CRep I V) l cs
 | .elp row off,x=>∃b o,x=.pointer (some ⟨b,o+off,none⟩)∧∀(j:Nat) g,row[j]?=some g→∃u,I b (o+j)=some u∧VRep I g u
 | .oel k i sz off,x=>k < V.n∧∃b q n c,V.s k=.slice (some ⟨b,q,none⟩) n c∧x=.pointer (some ⟨b,q+(i * sz+off),none⟩)
 | .orv k i sz off len cap,x=>k < V.n∧∃b q,OrB V k sz b q∧x=.slice (some ⟨b,q+(i * sz+off),none⟩) len cap
 | .clo f a c,x=>(∃g,(g∈a∨g∈c)∧Bm g=false)∧∃us cs:List Value,x=.func (.func f) us.toArray cs.toArray∧PW (CRep I V) a us∧PW (CRep I V) c cs
 | g,x=>CRep I V g x
def TRep (I:Imm)(V:Va):G→Value→Prop
 | .tup l,x=>∃cs:List Value,x=.tuple cs.toArray∧PW (TRep1 I V) l cs
 | g,x=>TRep1 I V g x
def PRep (I:Imm)(V:Va):G→Value→Prop
 | .ptr k o,x=>CRep I V (.ptr k o) x
 | .osl k,x=>CRep I V (.osl k) x
 | .osv k sz lo hi,x=>CRep I V (.osv k sz lo hi) x
 | .oel k i sz o,x=>TRep1 I V (.oel k i sz o) x
 | .mp k,x=>CRep I V (.mp k) x
 | .clo f a c,x=>TRep1 I V (.clo f a c) x
 | .oag l,x=>(∃g∈l,Bm g=false)∧TRep1 I V (.oag l) x
 | g,x=>VRep I g x
def PRe1 (I:Imm)(V:Va):G→Value→Prop
 | .oag l,x=>TRep1 I V (.oag l) x
 | g,x=>PRep I V g x
def PRes (I:Imm)(V:Va):G→Value→Prop
 | .tup l,x=>∃cs:List Value,x=.tuple cs.toArray∧PW (PRe1 I V) l cs
 | g,x=>PRe1 I V g x
def Loc (p:Ob):Prop:=∀(I I':Imm) b S w w',p I b S w→(∀b o x,I b o=some x→I' b o=some x)→w'.os=w.os→w.heap.size≤w'.heap.size→(∀k,S k→w'.heap[k]?=w.heap[k]?)→p I' b S w'
def Al {κ:Type}(I:Imm):List (κ × G)→List (κ × Value)→Prop
 | [],[]=>True
 | p::l,q::L=>q.1=p.1∧VRep I p.2 q.2∧Al I l L
 | _,_=>False
def MapR {κ:Type}(I:Imm)(w:World)(m:Nat)(kf:κ→Value)(l:List (κ × G)):Prop:=∃L:List (κ × Value),MapB w m kf id L∧Al I l L
def Dg (w:World)(e:TypeId)(sz:Nat)(v:Value)(n:Nat)(xs:List Value):Prop :=
 xs.length=n * sz∧((v=.slice none 0 0∧n=0)∨∃g q cap cur,v=.slice (some ⟨g,q,none⟩) n cap∧w.heap[g]?=some (.cells cur e (0,0))∧n≤cap∧cap≤maxLen∧q+cap * sz≤cur.size∧(cur.toList.drop q).take (n * sz)=xs)
def RRep (I:Imm)(V:Va)(k:Nat)(w:World):R→Prop
 | .blk cs t=>(∀b,V.f k b↔b=V.b k)∧∃us:List Value,w.heap[V.b k]?=some (.cells us.toArray t (0,0))∧PW (CRep I V) cs us
 | .slc rows e sz=>(∀b,V.f k b↔(V.s k).ownBlock=some b)∧∃rs:List (List Value),w.ownsRow 0 e sz (V.s k) rows.length rs.flatten∧rs.length=rows.length∧(∀(i:Nat) r u,rows[i]?=some r→rs[i]?=some u→PW (VRep I) r u)∧(∀u∈rs,u.length=sz)∧(∀u∈rs,∀x∈u,x.oneCell'=true)∧0 < sz
 | .vw rows e sz=>(∀b,V.f k b↔(V.s k).ownBlock=some b)∧∃rs:List (List Value),Dg w e sz (V.s k) rows.length rs.flatten∧rs.length=rows.length∧(∀(i:Nat) r u,rows[i]?=some r→rs[i]?=some u→PW (VRep I) r u)∧(∀u∈rs,u.length=sz)∧(∀u∈rs,∀x∈u,x.oneCell'=true)∧0 < sz
 | .froz rows sz=>(∀b,¬V.f k b)∧VRep I (.sl rows) (V.s k)∧∀r∈rows,r.length=sz
 | .gone=>∀b,¬V.f k b
 | .mpI l=>(∀b,V.f k b↔b=V.b k)∧MapR I w (V.b k) Ziv l
 | .mpS l=>(∀b,V.f k b↔b=V.b k)∧MapR I w (V.b k) Zfi l
 | .sit s pos=>(∀b,V.f k b↔b=V.b k)∧w.heap[V.b k]?=some (.stringIter s pos)
 | .mpX l m ob=>(∀b,V.f k b↔b=V.b k)∧V.b k=m∧w.heap[m]?=some ob∧MapR I w m Zfi l
 | .mit _ l D last m ob=>(∀b,V.f k b↔b=V.b k)∧∃(it:Obj) (L:List (ByteArray × Value)),w.heap[V.b k]?=some it∧Al I l L∧∀w':World,w'.heap[m]?=some ob→w'.heap[V.b k]?=some it→RanB w' (V.b k) m Zfi id L D∧∀kg,last=some kg→∃v,VRep I kg.2 v∧∀P:Program,(Instr.entry (.pointer (some ⟨V.b k,0,none⟩))).run P w'=.ok (.tuple #[.string kg.1,v]) w'
 | .abs p=>Loc p∧p I (V.b k) (V.f k) w
 | .lnk j=>(∀b,¬V.f k b)∧j < V.n∧∃m,V.s j=.slice (some ⟨V.b k,0,none⟩) m m
 | .adr k' b=>(∀c,¬V.f k c)∧k' < V.n∧V.b k'=b
 | .fam ps=>(∀p∈ps,Loc p)∧∃F:Nat→Nat→Prop,(∀c,V.f k c↔∃i,i < ps.length∧F i c)∧(∀i j c,i < ps.length→j < ps.length→F i c→F j c→i=j)∧∀(i:Nat) p,ps[i]?=some p→∃b,p I b (F i) w
def Mem (I:Imm)(w:World):Prop:=∀b o x,I b o=some x→w.cell? ⟨b,o,none⟩=some x
structure Has (I:Imm)(V:Va)(own:Os)(w:World):Prop where
 mem:Mem I w
 num:∀k r,look k own=some r→k < V.n
 each:∀k r,look k own=some r→RRep I V k w r
 foot:∀k r b,look k own=some r→V.f k b→b < w.heap.size∧∀o,I b o=none
 disj:∀k k' r r' b,look k own=some r→look k' own=some r'→V.f k b→V.f k' b→k=k'
def Va.le (V V':Va):Prop:=V.n≤V'.n∧∀k,k < V.n→V'.b k=V.b k∧V'.s k=V.s k
structure Fro (own:Os)(I:Imm)(V:Va)(w:World)(own':Os)(I':Imm)(V':Va)(w':World):Prop where
 os:w'.os=w.os
 tape:w'.tape=w.tape
 output:w'.output=w.output
 size:w.heap.size≤w'.heap.size
 blk:∀b,b < w.heap.size→(∀k r,look k own=some r→¬V.f k b)→w'.heap[b]?=w.heap[b]?∧∀o,I' b o=I b o
 mono:∀b o x,I b o=some x→I' b o=some x
 foot:∀k r b,look k own'=some r→V'.f k b→b < w.heap.size→∃j r',look j own=some r'∧V.f j b
structure Obs (I:Imm)(V:Va)(O:Os)(w:World):Prop where
 num:∀k r,look k O=some r→k < V.n
 each:∀k r,look k O=some r→RRep I V k w r
 lt:∀k r b,look k O=some r→V.f k b→b < w.heap.size
 disj:∀k k' r r' b,look k O=some r→look k' O=some r'→V.f k b→V.f k' b→k=k'
def cl (O:Os):Ob:=fun I b S w=>∃V:Va,V.b 0=b∧Obs I V O w∧∀c,S c↔∃k r,look k O=some r∧V.f k c
def leI (m:List (Nat × Nat))(w:Os)(n:Nat):Os→Prop
 | []=>True
 | (k,r)::l=>(Nat.blt k n=true∧X2 n r=true∧look ((look k m).getD k) w=some (Hs m r))∧leI m w n l
def Mn:List Nat→Bool
 | []=>true
 | k::l=>bif Fz k l then false else Mn l
def S5 (n:Nat):Os→Bool
 | []=>true
 | (k,r)::l=>match Nat.blt k n,X2 n r with
  | true,true=>S5 n l
  | _,_=>false
def opM:Nat→Nat→List R→List (Nat × Nat)
 | _,_,[]=>[]
 | i,n,_::rs=>(i,n)::opM (i+1) (n+1) rs
def Zc0 (n0:Nat):G→Bool
 | .osl k | .osv k _ _ _ | .oel k _ _ _=>Nat.ble n0 k
 | _=>true
def Zhf:R→Bool
 | .blk cs _=>Av (Zc0 1) cs
 | .lnk _=>false
 | _=>true
def R9:List Nat→Os→Os
 | [],w=>w
 | k::l,w=>(k,.gone)::R9 l w
def shO (m:List (Nat × Nat)):List R→Nat→Os→Os
 | [],_,w=>w
 | r::rs,n,w=>(n,Hs m r)::shO m rs (n+1) w
def Eo (w:Os):G→G
 | .osl j=>match look j w with
  | some (.froz rows _)=>.sl rows
  | _=>.osl j
 | .osv j sz lo hi=>match look j w with
  | some (.froz rows sz')=>match Nat.beq sz sz' with
   | true=>.sl (E6 rows lo hi)
   | false=>.osv j sz lo hi
  | _=>.osv j sz lo hi
 | .tt=>.v (.bool true)
 | .ff=>.v (.bool false)
 | g=>g
def Yf:Ob:=fun _ _ S _=>∀c,¬S c
inductive Gh (K:Os→Nat→Prop):Os→Nat→Prop
 | done {w:Os} {n:Nat} (h:K w n):Gh K w n
 | nil {w:Os} {n:Nat} (k:Nat) (p q:List G) (ty e sz:Nat) (hk:look k w=some (.blk (p++.nl::q) ty)) (hz:0 < sz) (h:Gh K ((k,.blk (p++.osl n::q) ty)::(n,.slc [] e sz)::w) (n+1)):Gh K w n
 | close {w:Os} {n:Nat} (O:Os) (m:List (Nat × Nat)) (hO:leI m w n O) (h0:∃r,look 0 O=some r) (hd:Mn (O.map fun p=>(look p.1 m).getD p.1)=true) (h:Gh K (((look 0 m).getD 0,.abs (cl O))::R9 (O.map fun p=>(look p.1 m).getD p.1) w) n):Gh K w n
 | opn {w:Os} {n:Nat} (k:Nat) (cs:List G) (ty:Nat) (rs:List R) (hk:look k w=some (.abs (cl (B7 (.blk cs ty::rs) 0)))) (hb:S5 (rs.length+1) (B7 (.blk cs ty::rs) 0)=true) (hs:Av Zhf (.blk cs ty::rs)=true) (h:Gh K ((k,Hs ((0,k)::opM 1 n rs) (.blk cs ty))::shO ((0,k)::opM 1 n rs) rs n w) (n+rs.length)):Gh K w n
 | adr {w:Os} {n:Nat} (k:Nat) (r:R) (hk:look k w=some r) (h:∀b,Gh K ((n,.adr k b)::w) (n+1)):Gh K w n
 | lies {w:Os} {n:Nat} (k B:Nat) (p:Ob) (hk:look k w=some (.abs p)) (hp:∀(I:Nat→Nat→Option Value) b S w,p I b S w→b=B) (h:Gh K ((n,.adr k B)::w) (n+1)):Gh K w n
 | fam {w:Os} {n:Nat} (h:Gh K ((n,.fam [])::w) (n+1)):Gh K w n
 | adopt {w:Os} {n:Nat} (j k:Nat) (ps:List Ob) (p:Ob) (hj:look j w=some (.fam ps)) (hk:look k w=some (.abs p)) (h:Gh K ((j,.fam (ps++[p]))::(k,.gone)::w) n):Gh K w n
 | frz {w:Os} {n:Nat} (k:Nat) (rows:List (List G)) (e sz:Nat) (hk:look k w=some (.slc rows e sz)) (h:Gh K ((k,.froz rows sz)::w) n):Gh K w n
 | seen {w:Os} {n:Nat} (k:Nat) (cs:List G) (ty:Nat) (hk:look k w=some (.blk cs ty)) (h:Gh K ((k,.blk (cs.map (Eo w)) ty)::w) n):Gh K w n
 | drop {w:Os} {n:Nat} (k:Nat) (r:R) (hk:look k w=some r) (h:Gh K ((k,.gone)::w) n):Gh K w n
 | rnm {w:Os} {n:Nat} (kb k:Nat) (p q:List G) (ty:Nat) (rows:List (List G)) (e sz:Nat) (hb:look kb w=some (.blk (p++.osl k::q) ty)) (hk:look k w=some (.slc rows e sz)) (h:Gh K ((kb,.blk (p++.osl n::q) ty)::(n,.slc rows e sz)::(k,.gone)::w) (n+1)):Gh K w n
 | dup {w:Os} {n:Nat} (j k b:Nat) (hj:look j w=some (.adr k b)) (h:Gh K ((n,.adr k b)::w) (n+1)):Gh K w n
 | move {w:Os} {n:Nat} (m k j1 j2 b:Nat) (p:Ob) (hm:look m w=some (.abs p)) (hk:look k w=some .gone) (h1:look j1 w=some (.adr m b)) (h2:look j2 w=some (.adr k b)) (h:Gh K ((k,.abs p)::(m,.gone)::w) n):Gh K w n
 | take {w:Os} {n:Nat} (j i:Nat) (ps:List Ob) (p:Ob) (hj:look j w=some (.fam ps)) (hi:ps[i]?=some p) (h:Gh K ((n,.abs p)::(j,.fam (ps.set i Yf))::w) (n+1)):Gh K w n
 | put {w:Os} {n:Nat} (j i k:Nat) (ps:List Ob) (p:Ob) (hj:look j w=some (.fam ps)) (hi:i < ps.length) (hk:look k w=some (.abs p)) (h:Gh K ((j,.fam (ps.set i p))::(k,.gone)::w) n):Gh K w n
 | view {w:Os} {n:Nat} (k:Nat) (rows:List (List G)) (e sz:Nat) (hk:look k w=some (.slc rows e sz)) (h:Gh K ((k,.vw rows e sz)::w) n):Gh K w n
 | tail {w:Os} {n:Nat} (kb k lo hi:Nat) (p q:List G) (ty:Nat) (rows:List (List G)) (e sz:Nat) (hb:look kb w=some (.blk (p++.osv k sz lo hi::q) ty)) (hk:look k w=some (.vw rows e sz)) (hl:lo≤hi∧hi=rows.length) (h:Gh K ((kb,.blk (p++.osl n::q) ty)::(n,.vw (rows.drop lo) e sz)::(k,.gone)::w) (n+1)):Gh K w n
def Ent (P:Program)(f:FuncId):Prop:=∃fn,P.funcs[f]?=some fn∧(fn.name=="runtime.NumGoroutine")=false∧fn.body.isNone=false
def VR (I:Imm):G→Value→Prop
 | .tup l,x=>∃cs:List Value,x=.tuple cs.toArray∧PW (VRep I) l cs
 | g,x=>VRep I g x
def FnV (P:Program)(f:FuncId)(gs:List G)(Q:G→Prop):Prop :=
 Ent P f∧∀I w vs,Mem I w→PW (VRep I) gs vs→Calls P f vs.toArray w fun e w' =>
  ∃x g I',e=.returned x∧Q g∧Mem I' w'∧VR I' g x∧(∀b o x,I b o=some x→I' b o=some x)∧(∀b o,b < w.heap.size→I' b o=I b o)∧Below w.heap.size w w'
def FnO (P:Program)(f:FuncId)(gs:List G)(rs:List R)(Q:G→List R→Prop):Prop :=
 Ent P f∧∀I V w vs,Has I V (B7 rs 0) w→V.n=rs.length→PW (PRep I V) gs vs→Calls P f vs.toArray w fun e w' =>
  ∃x g rs' I' V',e=.returned x∧Q g rs'∧V'.n=rs'.length∧Has I' V' (B7 rs' 0) w'∧PRes I' V' g x∧Fro (B7 rs 0) I V w (B7 rs' 0) I' V' w'∧V.le V'
def Zib:G→Bool
 | .v (.pointer (some _))=>true
 | _=>false
def Ui {α:Type}(own:Os):Os→List Nat→(List Nat→α)→α
 | [],r,K=>K r
 | (k,_)::l,r,K=>match look k own with
  | some (.fam _)=>Hk k r fun r=>Ui own l r K
  | _=>Ui own l r K
def Ri {α:Type}(p:α→Bool):List α→Bool
 | []=>false
 | g::l=>bif p g then true else Ri p l
def Zhv (vs:Bool)(gs:List G)(ks:List Nat):Bool:=match Ri Zib gs,vs,ks with
 | true,_,_=>true
 | false,true,_::_=>true
 | _,_,_=>false
def Za0 {α:Type}(vs:Bool)(gs:List G)(own:Os)(ks:List Nat)(K:List Nat→α):α:=match Zhv vs gs ks with
 | true=>Ui own own ks K
 | false=>K ks
inductive EvCall (A B C:Prop):Prop
 | pure (h:A)
 | lend (h:B)
 | gh (h:C)
def Yd:List G→Option (List Value)
 | []=>some []
 | .v x::l=>match Yd l with
  | some cs=>some (x::cs)
  | none=>none
 | _=>none
def Z8g:G→Option Value
 | .v x=>some x
 | .agg l=>match Yd l with
  | some cs=>some (.agg cs.toArray)
  | none=>none
 | _=>none
structure Z97 (P:Program)(f:FuncId)(gs:List G)(K:G→Prop):Prop where
 run:∃g x,Z8g g=some x∧FnV P f gs (fun q=>q=g)∧K g
inductive Mo where
 | row
 | quiet (l:List Nat)
 | late
 | vs (l:List Nat)
 | new
def Mo.xl:Mo→List Nat
 | .quiet l=>l
 | _=>[]
def Mo.loose:Mo→Bool
 | .row=>true
 | .late=>true
 | _=>false
def Mo.isVs:Mo→Bool
 | .vs _=>true
 | _=>false
def Mo.lends:Mo→List Nat→Bool
 | .row,_=>true
 | .late,_=>true
 | .vs l,ks=>Av (fun k=>Fz k l) ks
 | _,[]=>true
 | _,_=>false
def Gy:G→Bool
 | .oag l=>Av Bm l
 | .clo _ _ _=>false
 | .tup _=>false
 | g=>Bm g
def Ki:G→Bool
 | .tup l=>Av Gy l
 | g=>Gy g
def Kn (m:List (Nat × Nat)):List R→List Nat→Os→Nat→(Os→Nat→Prop)→Prop
 | [],_,own,n,K=>K own n
 | r::rs,k::ks,own,n,K=>match J3 r with
  | true=>Kn m rs ks ((k,r)::own) n K
  | false=>Kn m rs ks ((k,Hs m r)::own) n K
 | r::rs,[],own,n,K=>match J3 r with
  | true=>Kn m rs [] ((n,r)::own) (n+1) K
  | false=>Kn m rs [] ((n,Hs m r)::own) (n+1) K
def Z60 (ks:List Nat)(own:Os)(n:Nat)(g:G)(rs:List R)(K:G→Os→Nat→Prop):Prop:=match Ki g with
 | true=>Kn (Rj ks n rs 0) rs ks own n fun own n=>K g own n
 | false=>Kn (Rj ks n rs 0) rs ks own n fun own' n'=>K (Pj (Rj ks n rs 0) g) own' n'
def Z1k (P:Program)(f:FuncId)(mo:Mo)(gs:List G)(own:Os)(n:Nat)(B C:Prop)(K:G→Os→Nat→Prop):Prop :=
 gkL gs [] fun ks=>Za0 mo.isVs gs own ks fun ks=>trK own 3 ks fun ks=>match mo.lends ks with
  | true=>match ks with
   | []=>EvCall (FnO P f gs [] fun g rs=>Z60 [] own n g rs K) B C
   | k::ks=>rsK own (k::ks) (k::ks) fun rs=>EvCall (FnO P f (gs.map (Pj (Is (k::ks) 0))) rs fun g rs=>Z60 (k::ks) own n g rs K) B C
  | false=>False
def G.lent:G→Bool
 | .oag l=>Ri (fun g=>match Bm g with | true=>false | false=>true) l
 | .tup _ | .elp _ _ | .orv _ _ _ _ _ _=>false
 | _=>true
def G.isOrv:G→Bool
 | .orv _ _ _ _ _ _=>true
 | _=>false
def G.isMp:G→Bool
 | .mp _=>true
 | _=>false
def lendK (P:Program)(f:FuncId)(mo:Mo)(gs:List G)(own:Os)(n:Nat)(C:Prop)(K:G→Os→Nat→Prop):Prop:=match Av G.lent gs with
 | true=>Z1k P f mo (gs.map Z8n) own n False C K
 | false=>False
def Z17 (w:Os):G→G
 | .osl k=>Eo w (.osl k)
 | .osv k sz lo hi=>Eo w (.osv k sz lo hi)
 | .oag l=>match Av G.pure (l.map (Eo w)) with
  | true=>.agg (l.map (Eo w))
  | false=>.oag l
 | g=>g
inductive Z3x (P:Program)(f:FuncId)(own:Os)(n:Nat)(K:G→Os→Nat→Prop):List G→Prop
 | same {gs:List G} (h:lendK P f .row gs own n False fun g own n=>Gh (K g) own n):Z3x P f own n K gs
 | see {gs:List G} (h:Z3x P f own n K (gs.map (Z17 own))):Z3x P f own n K gs
 | raw {gs:List G} {b off:Nat} (j k:Nat) (hj:look j own=some (.adr k b)) (h:Z3x P f own n K (.ptr k off::gs)):Z3x P f own n K (.v (.pointer (some ⟨b,off,none⟩))::gs)
 | snap {k off l m:Nat} (cs:List G) (ty:Nat) (u:Value) (hk:look k own=some (.blk cs ty)) (hl:l≤m∧off+l≤cs.length) (hv:Av Gb ((cs.drop off).take l)=true) (hf:FnV P f [.sl (((cs.drop off).take l).map fun g=>[g])] fun g=>g=.v u) (h:Gh (K (.v u)) own n):Z3x P f own n K [.orv k 0 0 off l m]
def Xa (w:Os):G→G
 | .osl k=>match look k w with
  | some (.slc rows _ _)=>.sl rows
  | _=>.osl k
 | g=>g
def Zgq:G→Bool
 | .v x=>x.oneCell'
 | _=>false
inductive EvSn (P:Program)(f:FuncId)(own:Os)(n:Nat)(K:G→Os→Nat→Prop):List G→Prop
 | snap {k off l m:Nat} (cs:List G) (ty:Nat) (u:Value) (hk:look k own=some (.blk cs ty)) (hl:l≤m∧off+l≤cs.length) (hv:Av Gb ((cs.drop off).take l)=true) (hf:FnV P f [.sl (((cs.drop off).take l).map fun g=>[g])] fun g=>g=.v u) (h:K (.v u) own n):EvSn P f own n K [.orv k 0 0 off l m]
 | peek {gs:List G} (hp:Av G.pure (gs.map (Xa own))=true) (hf:FnV P f (gs.map (Xa own)) fun g=>Zgq g=true∧K g own n):EvSn P f own n K gs
def ghK (P:Program)(f:FuncId)(mo:Mo)(gs:List G)(own:Os)(n:Nat)(K:G→Os→Nat→Prop):Prop:=match mo with
 | .row=>Gh (fun own n=>Z3x P f own n K gs) own n
 | .late=>Gh (fun own n=>Z3x P f own n K gs) own n
 | .new=>EvSn P f own n K gs
 | _=>False
def Om (P:Program)(f:FuncId)(mo:Mo)(gs a c:List G)(own:Os)(n:Nat)(K:G→Os→Nat→Prop):Prop:=match Ri G.isOrv gs with
 | true=>ghK P f mo (a++(gs++c)) own n K
 | false=>match Ri G.isMp gs with
  | true=>lendK P f mo (a++(gs++c)) own n (ghK P f mo (a++(gs++c)) own n K) K
  | false=>Zfn (a++(gs++c)) own fun gs' own'=>Z1k P f mo gs' own' n (lendK P f mo (a++(gs++c)) own n False K) (ghK P f mo (a++(gs++c)) own n K) K
def Zab (tt:List (Nat × TI))(mo:Mo)(ty:TypeId)(sz:Nat):Bool:=match mo,Z51 tt ty with
 | .new,.fn=>Nat.beq sz 1
 | _,_=>false
def Zdp (b:Bool)(own:Os)(n:Nat)(K:G→Os→Prop):Prop:=match b with
 | true=>Z8k own (.osl n) K
 | false=>K (.osl n) own
section
variable (P:Program) (tt:List (Nat × TI))
def bsK (t:Ts)(sz:Nat):List (Nat × Operand)→Nat→Os→(List (List G)→Os→Prop)→Prop
 | [],_,w,K=>K [] w
 | (j,x)::ps,i,w,K=>match Nat.beq j i with
  | true=>ev t w x fun g=>G5 w g fun cs=>match To sz with
   | false=>Zbw cs w fun cs' w'=>match Nat.beq cs'.length sz,Av G.one cs' with
    | true,true=>bsK t sz ps (i+1) w' fun rows w''=>K (cs'::rows) w''
    | _,_=>False
   | true=>Et (cs.length=sz∧∀g∈cs,Gb g=true) (bsK t sz ps (i+1) w fun rows w''=>K (cs::rows) w'')
  | false=>False
def evO (t:Ts)(w:Os)(x:Option Operand)(d:Int)(K:Int→Prop):Prop:=match x with
 | none=>K d
 | some x=>ev t w x fun q=>match q with
  | .v (.int .i64 n)=>K n
  | _=>False
def Zg2 (t:Ts)(w:Os)(m:Nat)(lo hi:Option Operand)(j:Nat)(K:G→Prop):Prop:=match lo,hi with
 | none,none=>K (.osl j)
 | lo,hi=>evO t w lo 0 fun l=>evO t w hi m fun h=>Z10 l h m (K (.osv j 1 l.toNat h.toNat))
def Zgn (m:Nat)(cs:List G)(A:Prop):Prop:=match To m with
 | false=>match Nat.beq cs.length m,Av Gb cs with
  | true,true=>A
  | _,_=>False
 | true=>Et (cs.length=m∧∀g∈cs,Gb g=true) A
def Z5d (t:Ts)(w:Os)(n ty m:Nat)(lo hi:Option Operand)(g:G)(K:G→Os→Nat→Prop):Prop:=match g with
 | .ptr k off=>match look k w with
  | some (.blk cs ty')=>match off,Nat.beq ty' ty,Nat.ble m 1048576 with
   | 0,true,true=>Zgn m cs (Zg2 t w m lo hi n fun g=>K g ((k,.lnk n)::(n,.slc (cs.map fun g=>[g]) ty' 1)::(k,.gone)::w) (n+1))
   | _,_,_=>match lo,hi with
    | none,none=>Et (off+m≤cs.length∧∀g∈cs,Gb g=true) (K (.sl (((cs.drop off).take m).map fun g=>[g])) ((k,.gone)::w) n)
    | none,some x=>evO t w (some x) m fun h=>Z10 0 h m (K (.orv k 0 0 off h.toNat m) w n)
    | _,_=>False
  | some (.lnk j)=>match look j w,off with
   | some (.slc rows _ 1),0=>Et (rows.length=m) (Zg2 t w m lo hi j fun g=>K g w n)
   | _,_=>False
  | _=>False
 | .oel k i sz off=>match look k w,lo with
  | some (.slc rows _ sz'),none=>match Nat.beq sz sz' with
   | true=>evO t w hi m fun h=>Z10 0 h m (Et ((i < rows.length∧off+m≤sz)∧0 < sz) (K (.orv k i sz off h.toNat m) w n))
   | false=>False
  | _,_=>False
 | _=>False
def Z4x (t:Ts)(w:Os)(m:Nat)(lo hi:Option Operand)(g:G)(K:G→Prop):Prop:=match g,lo,hi with
 | .ptr k off,none,some x=>match look k w with
  | some (.blk _ _)=>evO t w (some x) m fun h=>Z10 0 h m (K (.orv k 0 0 off h.toNat m))
  | _=>False
 | _,_,_=>False
def slK (w:Os)(g:G)(sz:Nat)(lo hi:(Int→Prop)→Int→Prop)(K:G→Prop):Prop:=match g with
 | .sl rows=>lo (fun l=>hi (fun h=>Z10 l h rows.length (Zgk rows sz (K (.sl (E6 rows l.toNat h.toNat))))) rows.length) 0
 | .osl k=>match look k w with
  | some (.slc rows _ sz')=>match Nat.beq sz sz' with
   | true=>lo (fun l=>hi (fun h=>Z10 l h rows.length (K (.osv k sz l.toNat h.toNat))) rows.length) 0
   | false=>False
  | some (.vw rows _ sz')=>match Nat.beq sz sz' with
   | true=>lo (fun l=>hi (fun h=>Z10 l h rows.length (K (.osv k sz l.toNat h.toNat))) rows.length) 0
   | false=>False
  | _=>False
 | _=>False
def Zao (w:Os)(g:G)(sz:Nat)(h:Int)(K:G→Prop):Prop:=match g with
 | .osl k=>match look k w with
  | some (.vw rows _ sz')=>match Nat.beq sz sz' with
   | true=>Z10 0 h rows.length (Et (rows≠[]) (K (.orv k 0 sz 0 h.toNat h.toNat)))
   | false=>False
  | _=>False
 | _=>False
def byK (o:Os)(g:G)(K:List (List G)→Prop):Prop:=match g with
 | .nl=>K []
 | .sl rows=>K rows
 | .osl k=>match look k o with
  | some (.slc rows _ 1)=>K rows
  | _=>False
 | _=>False
def cvK (w:Os)(g:G)(a b:TI)(u8:Bool)(K:G→Prop):Prop:=match a.elem,a.str,a.ik,b.str,b.ik with
 | some _,_,_,true,_=>match u8 with
  | true=>byK w g fun rows=>EvBytes rows fun bs=>K (.v (.string ⟨bs.toArray⟩))
  | false=>False
 | none,true,_,true,_=>match g with
  | .v (.string s)=>K (.v (.string s))
  | _=>False
 | none,false,some _,false,some k=>match g with
  | .v (.int _ n)=>match k with
   | .i64=>EvRng n (K (.v (.int .i64 n)))
   | .u8=>K (.v (.int .u8 (n % 256)))
   | .u64=>K (.v (.int .u64 (IntKind.wrap .u64 n)))
   | _=>False
  | _=>False
 | _,_,_,_,_=>False
def Zfa (e:TypeId):Bool:=match look e tt with
 | some ⟨_,_,_,_,_,some .u8,_⟩=>true
 | _=>false
def cvU (a:TI)(XL:List Nat):Bool:=match a.elem,XL with
 | some (e,_),[]=>Zfa tt e
 | _,_=>false
def Zfk (n:Nat)(cs:List G)(A:Prop):Prop:=match To n with
 | false=>match Nat.beq cs.length n with
  | true=>A
  | false=>False
 | true=>Et (cs.length=n) A
def Zdb (n:Nat)(w:Os)(cs:List G)(A:Prop):Prop:=match To n with
 | false=>match Av (Zbz w) cs,Nat.beq cs.length n,cs with
  | true,true,_::_=>A
  | _,_,_=>False
 | true=>Et (cs.length=n∧∀g∈cs,Gb g=true) A
def Zfm (n:Nat)(cs:List G)(A:Prop):Prop:=match To n with
 | false=>match Av G.pure cs with
  | true=>A
  | false=>False
 | true=>A
def Zc5 (t:Ts)(w:Os)(fl:List (TypeId × Nat)):List (Nat × Operand)→List G→(List G→Prop)→Prop
 | [],l,K=>K l
 | (i,x)::ps,l,K=>match nth fl i with
  | none=>False
  | some (ft,fo)=>match look ft tt with
   | none=>False
   | some j=>ev t w x fun g=>G5 w g fun cs=>Zfk j.zero.length cs (ovr j.zero.length l fo cs fun l'=>Zc5 t w fl ps l' K)
def Zdq (t:Ts)(w:Os)(n sz:Nat):List (Nat × Operand)→List G→(List G→Prop)→Prop
 | [],l,K=>K l
 | (i,x)::ps,l,K=>match Nat.blt i n,Nat.blt 0 sz with
  | true,true=>ev t w x fun g=>G5 w g fun cs=>Zfk sz cs (ovr sz l (Nat.mul i sz) cs fun l'=>Zdq t w n sz ps l' K)
  | _,_=>False
def Zgp (n:Nat)(w:Os)(cs:List G)(K:List G→Prop):Prop:=match To n with
 | true=>K cs
 | false=>match cs with
  | [.ptr k off]=>Zbe k w w fun b=>K [.v (.pointer (some ⟨b,off,none⟩))]
  | cs=>K cs
def Zct (q:G)(op:BinOp)(ty:TypeId):Bool:=match q,op,look ty tt with
 | .nl,.eql,some ⟨_,_,some _,_,_,_,_⟩=>true
 | _,_,_=>false
def K0 (mo:Mo)(o:Oper)(t:Ts)(w:Os)(n:Nat)(K:Ts→Os→Nat→Prop):Prop:=match o.op with
 | .move x=>ev t w x fun g=>K (put o.dst g t) w n
 | .assign x=>match x with
  | .const (.slice none 0 0)=>match look o.type tt with
   | some ⟨_,_,some (e,sz),_,_,_,_⟩=>K (put o.dst (.osl n) t) ((n,.slc [] e sz)::w) (n+1)
   | _=>K (put o.dst .nl t) w n
  | x=>ev t w x fun g=>K (put o.dst g t) w n
 | .pick c a b=>ev t w c fun g=>match g with
  | .tt=>ev t w a fun g=>K (put o.dst g t) w n
  | .ff=>ev t w b fun g=>K (put o.dst g t) w n
  | .v (.bool c)=>EvIf c (ev t w a fun g=>K (put o.dst g t) w n) (ev t w b fun g=>K (put o.dst g t) w n)
  | _=>False
 | .alloc ty=>match look ty tt with
  | some i=>K (put o.dst (.ptr n 0) t) ((n,.blk i.zero ty)::w) (n+1)
  | none=>False
 | .box ty x=>ev t w x fun g=>G5 w g fun cs=>K (put o.dst (.ptr n 0) t) ((n,.blk cs ty)::w) (n+1)
 | .load ty x=>ev t w x fun g=>match look ty tt with
  | none=>False
  | some i=>match g with
   | .ptr k off=>match look k w,Fz k mo.xl with
    | some (.blk cs _),false=>match i.agg with
     | true=>seg cs off i.zero.length fun l=>Iv i.zero.length l fun g=>K (put o.dst g t) w n
     | false=>match nth cs off with
      | some g=>K (put o.dst g t) w n
      | none=>False
    | some (.lnk j),false=>match look j w,Fz j mo.xl,i.agg with
     | some (.slc rows _ 1),false,true=>Et (off+i.zero.length≤rows.length∧∀r∈rows,∀g∈r,g.pure=true) (K (put o.dst (.agg ((rows.flatten.drop off).take i.zero.length)) t) w n)
     | _,_,_=>False
    | _,_=>False
   | .elp row off=>match i.agg with
     | true=>seg row off i.zero.length fun l=>K (put o.dst (.agg l) t) w n
     | false=>match nth row off with
      | some g=>K (put o.dst g t) w n
      | none=>False
   | .oel k j sz off=>match look k w,Fz k mo.xl with
    | some (.slc rows _ sz'),false=>match Nat.beq sz sz' with
     | true=>EvIdx rows j fun row=>match i.agg with
      | true=>seg row off i.zero.length fun l=>K (put o.dst (.agg l) t) w n
      | false=>match nth row off with
       | some g=>K (put o.dst g t) w n
       | none=>False
     | false=>False
    | some (.vw rows _ sz'),false=>match Nat.beq sz sz' with
     | true=>EvIdx rows j fun row=>match i.agg with
      | true=>seg row off i.zero.length fun l=>K (put o.dst (.agg l) t) w n
      | false=>match nth row off with
       | some g=>K (put o.dst g t) w n
       | none=>False
     | false=>False
    | _,_=>False
   | _=>False
 | .store ty x y=>ev t w x fun g=>ev t w y fun u=>G5 w u fun cs=>match look ty tt with
  | some i=>Zdb i.zero.length w cs (match g with
   | .ptr k off=>match look k w with
    | some (.blk cells ty')=>ovr i.zero.length cells off cs fun cells'=>K (put o.dst .un t) ((k,.blk cells' ty')::w) n
    | some (.lnk j)=>match mo.isVs,look j w,cs with
     | false,some (.slc rows e 1),[c]=>Et (off < rows.length∧Gb c=true) (K (put o.dst .un t) ((j,.slc (rows.set off [c]) e 1)::w) n)
     | _,_,_=>False
    | _=>False
   | .oel k j sz off=>match look k w with
    | some (.slc rows e sz')=>match Nat.beq sz sz' with
     | true=>Zgp i.zero.length w cs fun cs=>Zfm i.zero.length cs (EvSet rows j (fun row k=>ovr i.zero.length row off cs k) fun rows'=>K (put o.dst .un t) ((k,.slc rows' e sz)::w) n)
     | _=>False
    | _=>False
   | _=>False)
  | none=>False
 | .fieldAddr ty x f=>ev t w x fun g=>match look ty tt with
  | none=>False
  | some i=>match nth i.flds f with
   | none=>False
   | some (_,fo)=>match g with
    | .ptr k off=>K (put o.dst (.ptr k (Nat.add off fo)) t) w n
    | .elp row off=>K (put o.dst (.elp row (Nat.add off fo)) t) w n
    | .oel k j sz off=>K (put o.dst (.oel k j sz (Nat.add off fo)) t) w n
    | _=>False
 | .field ty x f=>ev t w x fun g=>Zd7 g fun cs=>match look ty tt with
  | none=>False
  | some i=>match nth i.flds f with
   | none=>False
   | some (ft,fo)=>match look ft tt with
    | none=>False
    | some j=>match j.agg with
     | true=>seg cs fo j.zero.length fun l=>Iv j.zero.length l fun g=>K (put o.dst g t) w n
     | false=>match nth cs fo with
      | some g=>K (put o.dst g t) w n
      | none=>False
 | .indexAddr ty x i=>ev t w x fun g=>ev t w i fun q=>match q,look ty tt with
  | .v (.int .i64 j),some ⟨_,_,some (_,sz),_,_,_,_⟩=>match g with
   | .sl rows=>EvIdx rows j fun row=>match Nat.beq row.length sz with
    | true=>K (put o.dst (.elp row 0) t) w n
    | false=>False
   | .osl k=>match look k w with
    | some (.slc rows _ sz')=>match Nat.beq sz' sz with
     | true=>(0≤j∧j < rows.length)∧K (put o.dst (.oel k j.toNat sz 0) t) w n
     | false=>False
    | some (.vw rows _ sz')=>match Nat.beq sz' sz with
     | true=>(0≤j∧j < rows.length)∧K (put o.dst (.oel k j.toNat sz 0) t) w n
     | false=>False
    | _=>False
   | .osv k sz0 lo hi=>match look k w with
    | some (.slc _ _ sz')=>match Nat.beq sz' sz,Nat.beq sz0 sz with
     | true,true=>(0≤j∧j < (hi - lo:Nat))∧K (put o.dst (.oel k (lo+j.toNat) sz 0) t) w n
     | _,_=>False
    | _=>False
   | .orv k 0 0 off len _=>(0≤j∧j < len)∧K (put o.dst (.ptr k (Nat.add off (Nat.mul j.toNat sz))) t) w n
   | _=>False
  | .v (.int .i64 j),some ⟨_,_,none,_,_,_,.arr m _ sz⟩=>match g with
   | .ptr k off=>(0≤j∧j < m)∧K (put o.dst (.ptr k (Nat.add off (Nat.mul j.toNat sz))) t) w n
   | .elp row off=>(0≤j∧j < m)∧K (put o.dst (.elp row (Nat.add off (Nat.mul j.toNat sz))) t) w n
   | _=>False
  | _,_=>False
 | .sliceToArrayPointer ty x=>match look ty tt with
  | some ⟨_,_,none,_,false,_,.arr m _ 1⟩=>ev t w x fun g=>match g with
   | .sl rows=>Zeg rows m fun l=>K (put o.dst (.elp l 0) t) w n
   | _=>False
  | _=>False
 | .index ty x i=>match look ty tt with
  | some ⟨_,_,_,_,true,_,_⟩=>ev t w x fun g=>ev t w i fun q=>match q,g with
   | .v (.int .i64 j),.v (.string s)=>EvIdx s.data.toList j fun c=>K (put o.dst (.v (.int .u8 c.toNat)) t) w n
   | _,_=>False
  | some ⟨_,_,none,_,false,_,.arr m e sz⟩=>ev t w x fun g=>Zd7 g fun cs=>ev t w i fun q=>match q,look e tt with
   | .v (.int .i64 j),some ti=>(0≤j∧j < m)∧match ti.agg with
    | true=>seg cs (Nat.mul j.toNat sz) ti.zero.length fun l=>Iv ti.zero.length l fun g=>K (put o.dst g t) w n
    | false=>match nth cs (Nat.mul j.toNat sz) with
     | some g=>K (put o.dst g t) w n
     | none=>False
   | _,_=>False
  | _=>False
 | .slice ty x lo hi mx=>match mx with
  | some m=>match lo,hi,look ty tt with
   | none,some h,some ⟨_,_,some (_,sz),_,_,_,_⟩=>ev t w x fun g=>ev t w h fun p=>ev t w m fun q=>match p,q with
    | .v (.int .i64 a),.v (.int .i64 b)=>Et (a=b) (Zao w g sz a fun g=>K (put o.dst g t) w n)
    | _,_=>False
   | _,_,_=>False
  | none=>match look ty tt with
   | some ⟨_,_,none,_,true,_,_⟩=>ev t w x fun g=>match g with
    | .v (.string s)=>evO t w lo 0 fun l=>evO t w hi s.size fun h=>Z10 l h s.size (K (put o.dst (.v (.string (s.extract l.toNat h.toNat))) t) w n)
    | _=>False
   | some ⟨_,_,some (_,sz),_,_,_,_⟩=>ev t w x fun g=>slK w g sz (fun K d=>evO t w lo d K) (fun K d=>evO t w hi d K) fun g=>K (put o.dst g t) w n
   | some ⟨_,_,none,_,false,_,.arr m _ 1⟩=>ev t w x fun g=>Z5d t w n ty m lo hi g fun g w n=>K (put o.dst g t) w n
   | some ⟨_,_,none,_,false,_,.arr m _ _⟩=>ev t w x fun g=>Z4x t w m lo hi g fun g=>K (put o.dst g t) w n
   | _=>False
 | .convert src dst x=>match look src tt,look dst tt with
  | some a,some b=>match a.str,b.elem with
   | true,some (e,_)=>match Zfa tt e with
    | true=>ev t w x fun g=>match g with
     | .v (.string s)=>K (put o.dst (.sl (s.data.toList.map gBy)) t) w n
     | _=>False
    | false=>False
   | _,_=>ev t w x fun g=>cvK w g a b (cvU tt a mo.xl) fun g=>K (put o.dst g t) w n
  | _,_=>False
 | .binOp op ty x y _=>ev t w x fun g=>ev t w y fun q=>match Zct tt q op ty with
  | true=>Si w g fun rows=>Zcx rows fun b=>K (put o.dst (.v (.bool b)) t) w n
  | false=>Zfy P tt ty op g q fun g=>K (put o.dst g t) w n
 | .unOp .not _ x=>ev t w x fun g=>Zfq g fun g=>K (put o.dst g t) w n
 | .extract x i=>ev t w x fun g=>match g with
  | .tup l=>match nth l i with
   | some g=>K (put o.dst g t) w n
   | none=>False
  | _=>False
 | .build ty parts=>match look ty tt with
  | none=>False
  | some i=>match i.flds with
   | []=>match i.kd with
    | .arr m _ sz=>Zdq t w m sz parts.toList i.zero fun l=>Iv (Nat.mul m sz) l fun g=>K (put o.dst g t) w n
    | _=>False
   | f::fs=>Zc5 tt t w (f::fs) parts.toList i.zero fun l=>Iv i.zero.length l fun g=>K (put o.dst g t) w n
 | .buildSlice ty len parts=>match look ty tt with
  | some ⟨_,_,some (e,sz),_,_,_,_⟩=>match Nat.beq parts.toList.length len,Nat.ble (len * sz) 16777216 with
   | true,true=>bsK t sz parts.toList 0 w fun rows w'=>Zdp (Zab tt mo ty sz) ((n,.slc rows e sz)::w') n fun g w''=>K (put o.dst g t) w'' (n+1)
   | _,_=>False
  | _=>False
 | .makeSlice ty len cap=>match look ty tt with
  | some ⟨_,_,some (e,sz),_,_,_,_⟩=>match look e tt with
   | some ⟨false,[z],_,_,_,_,_⟩=>match Nat.beq sz 1 with
    | true=>ev t w len fun p=>ev t w cap fun q=>match p,q with
     | .v (.int .i64 m),.v (.int .i64 c)=>(0≤m∧m≤1073741824∧c=m)∧K (put o.dst (.osl n) t) ((n,.slc (List.replicate m.toNat [z]) e 1)::w) (n+1)
     | _,_=>False
    | false=>False
   | some ⟨true,ze,_,_,_,_,_⟩=>match Nat.beq sz ze.length,Av Gb ze with
    | true,true=>ev t w len fun p=>ev t w cap fun q=>match p,q with
     | .v (.int .i64 m),.v (.int .i64 c)=>(0≤m∧m≤1073741824∧c=m∧m * sz≤1073741824)∧K (put o.dst (.osl n) t) ((n,.slc (List.replicate m.toNat ze) e sz)::w) (n+1)
     | _,_=>False
    | _,_=>False
   | _=>False
  | _=>False
 | .call c=>match c.callee with
  | .builtin .len=>match c.args.toList,c.argTypes.toList with
   | [x],[ty]=>match look ty tt with
    | some ⟨_,_,none,_,true,_,_⟩=>ev t w x fun g=>match g with
     | .v (.string s)=>K (put o.dst (.v (.int .i64 s.size)) t) w n
     | _=>False
    | some ⟨_,_,some _,_,_,_,_⟩=>ev t w x fun g=>Zht w g fun m=>K (put o.dst (.v (.int .i64 m)) t) w n
    | some ⟨_,_,none,_,false,_,.map _ _⟩=>ev t w x fun g=>match g with
     | .mp k=>match look k w,Fz k mo.xl with
      | some (.mpS l),false=>K (put o.dst (.v (.int .i64 l.length)) t) w n
      | some (.mpI l),false=>K (put o.dst (.v (.int .i64 l.length)) t) w n
      | _,_=>False
     | _=>False
    | _=>False
   | _,_=>False
  | .builtin .max=>match c.args.toList with
   | [x,y]=>ev t w x fun g=>ev t w y fun q=>match g,q with
    | .v (.int .i64 a),.v (.int .i64 b)=>K (put o.dst (.v (.int .i64 (max a b))) t) w n
    | _,_=>False
   | _=>False
  | .builtin .min=>match c.args.toList with
   | [x,y]=>ev t w x fun g=>ev t w y fun q=>match g,q with
    | .v (.int .i64 a),.v (.int .i64 b)=>K (put o.dst (.v (.int .i64 (min a b))) t) w n
    | _,_=>False
   | _=>False
  | .builtin .append=>match c.args.toList,c.argTypes.toList with
   | [x,y],[ty,ty']=>match Nat.beq ty ty',look ty tt with
    | true,some ⟨_,_,some (e,sz),_,_,_,_⟩=>ev t w x fun g=>ev t w y fun q=>Z3p w q sz fun new=>Zcm t w n o.dst g new e sz K
    | false,some ⟨_,_,some (e,sz),_,_,_,_⟩=>match Nat.beq sz 1,look ty' tt with
     | true,some ⟨_,_,_,_,true,_,_⟩=>ev t w x fun g=>ev t w y fun q=>Zev q fun s=>Z9f t w n o.dst g (s.data.toList.map gBy) e 1 K
     | _,_=>False
    | _,_=>False
   | _,_=>False
  | .builtin .copy=>match c.args.toList,c.argTypes.toList with
   | [x,y],[ty,_]=>match look ty tt with
    | some ⟨_,_,some (_,1),_,_,_,_⟩=>ev t w x fun g=>ev t w y fun q=>Z3p w q 1 fun new=>match g with
     | .osl k=>match look k w with
      | some (.slc rows e 1)=>K (put o.dst (.v (.int .i64 (min new.length rows.length:Nat))) t) ((k,.slc (new.take (min new.length rows.length)++rows.drop (min new.length rows.length)) e 1)::w) n
      | _=>False
     | .osv k 1 lo hi=>match look k w with
      | some (.slc rows e 1)=>K (put o.dst (.v (.int .i64 (min new.length (hi - lo):Nat))) t) ((k,.slc (rows.take lo++new.take (min new.length (hi - lo))++rows.drop (lo+min new.length (hi - lo))) e 1)::w) n
      | _=>False
     | .orv k i sz off len _=>match look k w with
      | some (.slc rows e sz')=>match Nat.beq sz sz' with
       | true=>Et (off+len≤sz) (EvSet rows i (fun row k=>k (row.take off++(new.take (min new.length len)).flatten++row.drop (off+min new.length len))) fun rows'=>K (put o.dst (.v (.int .i64 (min new.length len:Nat))) t) ((k,.slc rows' e sz)::w) n)
       | false=>False
      | _=>False
     | _=>False
    | _=>False
   | _,_=>False
  | .value f=>match f with
   | .func f=>evs t w c.args.toList fun gs=>Om P f mo gs [] [] w n fun g w n=>K (put o.dst g t) w n
   | .tmp d=>match look d t with
    | some (.clo f a b)=>evs t w c.args.toList fun gs=>Om P f mo gs a b w n fun g w n=>K (put o.dst g t) w n
    | some (.v (.func (.func f) a b))=>match a.toList,b.toList with
     | [],[]=>evs t w c.args.toList fun gs=>Om P f mo gs [] [] w n fun g w n=>K (put o.dst g t) w n
     | _,_=>False
    | _=>False
   | _=>False
  | _=>False
 | .makeFunc (.func f) a c=>evs t w a.toList fun a=>evs t w c.toList fun c=>match Av G.cap a,Av G.cap c with
  | true,true=>match Av Bm a,Av Bm c with
   | true,true=>match a,c with
    | [],[]=>K (put o.dst (.v (.func (.func f) #[] #[])) t) w n
    | _,_=>False
   | _,_=>K (put o.dst (.clo f a c) t) w n
  | _,_=>False
 | .nilCheck x=>ev t w x fun g=>match g with
  | .ptr k off=>K (put o.dst (.ptr k off) t) w n
  | .clo f a c=>K (put o.dst (.clo f a c) t) w n
  | .v (.func (.func f) a c)=>K (put o.dst (.v (.func (.func f) a c)) t) w n
  | _=>False
 | _=>False
def sxG (mo:Mo)(ops:List Oper)(o:Oper)(t:Ts)(w:Os)(n:Nat)(K:Ts→Os→Nat→Prop):Prop:=match o.guard with
 | none=>K0 P tt mo o t w n K
 | some (j,want)=>match(nth ops j).bind (·.dst) with
  | none=>K (put o.dst .un t) w n
  | some d=>match look d t with
   | some .tt=>match want with
    | true=>K0 P tt mo o t w n K
    | false=>K (put o.dst .un t) w n
   | some .ff=>match want with
    | false=>K0 P tt mo o t w n K
    | true=>K (put o.dst .un t) w n
   | some .un=>K (put o.dst .un t) w n
   | some (.v (.bool b))=>match want with
    | true=>EvIf b (K0 P tt mo o ((d,.tt)::t) w n K) (K (put o.dst .un ((d,.ff)::t)) w n)
    | false=>EvIf b (K (put o.dst .un ((d,.tt)::t)) w n) (K0 P tt mo o ((d,.ff)::t) w n K)
   | _=>False
abbrev MO:=Ts→Os→Nat→(Ts→Os→Nat→Prop)→Prop
def Zix (ops:List Oper)(o:Oper)(_:List Oper)(ih:MO):MO:=fun t w n K=>sxG P tt .row ops o t w n fun t w n=>ih t w n K
def Zir:MO:=fun t w n K=>K t w n
def sxO (ops:List Oper)(l:List Oper):MO:=@List.rec Oper (fun _=>MO) Zir (Zix P tt ops) l
def isQ (o:Oper):Bool:=match o.op with
 | .convert src dst _=>match look src tt,look dst tt with
  | some a,some b=>match a.str,b.elem with
   | true,some _=>false
   | _,_=>true
  | _,_=>true
 | .assign x=>match x with
  | .const (.slice none 0 0)=>false
  | _=>true
 | .move _ | .pick _ _ _ | .makeFunc _ _ _ | .lookup _ _ _ _ | .load _ _ | .nilCheck _ | .sliceToArrayPointer _ _ | .fieldAddr _ _ _ | .field _ _ _ | .indexAddr _ _ _ | .index _ _ _ | .binOp _ _ _ _ _ | .unOp _ _ _ | .extract _ _ | .build _ _=>true
 | .slice ty _ _ _ _=>match look ty tt with
  | some ⟨_,_,none,_,false,_,.arr _ _ _⟩=>false
  | _=>true
 | .call c=>match c.callee with
  | .builtin .len | .builtin .max | .builtin .min=>true
  | _=>false
 | _=>false
def Zg1 (ty:TypeId):Bool:=match Z51 tt ty with
 | .ptr | .fn | .map _ _=>true
 | _=>false
def isL (o:Oper):Bool:=match o.op with
 | .store _ _ _ | .mapUpdate _ _ _ _ | .insert _ _ _ _ | .next _ _ | .entry _=>true
 | .call c=>match c.callee with
  | .builtin .append=>true
  | .builtin .copy=>true
  | .builtin .delete=>true
  | .value (.func _)=>Ri (Zg1 tt) c.argTypes.toList
  | .value _=>true
  | _=>false
 | _=>false
def Zbv (l:List Bool)(i:Nat):Bool:=match nth l i with
 | some b=>b
 | none=>false
def Ya:List Bool→Nat→List Bool
 | [],_=>[]
 | _::l,0=>true::l
 | b::l,i+1=>b::Ya l i
def Gx (l:List Bool):List Edge→Bool
 | []=>true
 | e::es=>bif (!Region.binds .any e||Zbv l e.on) then Gx l es else false
def rdy (l:List Bool):List Oper→List Bool→Nat→List Nat
 | o::os,b::bs,i=>bif (!b&&Gx l o.after.toList) then i::rdy l os bs (i+1) else rdy l os bs (i+1)
 | _,_,_=>[]
def Lj (od:List Nat)(ops:List Oper):List Nat→Option Nat
 | []=>none
 | i::l=>match nth ops i with
  | some o=>bif isQ tt o&&!Fz i od then some i else Lj od ops l
  | none=>Lj od ops l
def Zgv (ty:TypeId):Bool:=match look ty tt with
 | some ⟨false,[_],none,_,_,_,.no⟩=>true
 | some ⟨false,[_],none,_,_,_,.bool⟩=>true
 | _=>false
def Z8z (o:Oper):Bool:=match o.guard,o.op with
 | none,.call c=>match c.callee with
  | .value (.func _)=>Av (Zgv tt) c.argTypes.toList
  | _=>false
 | _,_=>false
def Zgc:List Oper→Nat
 | []=>0
 | o::l=>bif Z8z tt o then Zgc l+1 else Zgc l
def Qi (ops:List Oper):List Nat→Option Nat
 | []=>none
 | i::l=>match nth ops i with
  | some o=>bif Z8z tt o then some i else Qi ops l
  | none=>Qi ops l
def Zf8 (ops:List Oper)(rs:List Nat):Option Nat:=match Nat.ble 4 (Zgc tt ops) with
 | true=>Qi tt ops rs
 | false=>none
def Zgf (f:Nat→Prop)(i:Nat)(l:List Nat)(ih:Prop):Prop:=match l with
 | []=>f i
 | _::_=>f i∧ih
def Zen (f:Nat→Prop)(l:List Nat):Prop:=@List.rec Nat (fun _=>Prop) True (Zgf f) l
def isR (o:Oper):Bool:=match o.op with
 | .load _ _ | .convert _ _ _ | .lookup _ _ _ _=>true
 | .call c=>match c.callee with
  | .builtin .len=>Ri (Zg1 tt) c.argTypes.toList
  | _=>false
 | _=>false
def noB:List Oper→List Bool
 | []=>[]
 | _::l=>false::noB l
def Nk {α:Type}:List Bool→Nat→(List Bool→α)→α
 | [],_,K=>K []
 | _::l,0,K=>K (true::l)
 | b::l,i+1,K=>Nk l i fun r=>K (b::r)
def Xl {α:Type}:List Edge→List Bool→(List Bool→α)→α
 | [],m,K=>K m
 | e::es,m,K=>match Region.binds .any e with
  | true=>Nk m e.on fun m=>Xl es m K
  | false=>Xl es m K
def Ir {α:Type}(ops:List Oper):Nat→List Bool→(List Bool→α)→α
 | 0,m,K=>K m
 | n+1,m,K=>match Zbv m n with
  | true=>match nth ops n with
   | some o=>Xl o.after.toList m fun m=>Ir ops n m K
   | none=>Ir ops n m K
  | false=>Ir ops n m K
def Zge (od:List Nat):List Oper→List Bool→Nat→Bool
 | o::l,b::m,i=>bif isR tt o&&(!b&&!Fz i od) then false else Zge od l m (i+1)
 | _,_,_=>true
def Mm {α:Type}(od:List Nat)(ops:List Oper):List Oper→Nat→(List Nat→α)→α
 | [],_,K=>K []
 | o::l,i,K=>match isL tt o with
  | true=>Nk (noB ops) i fun m=>Ir ops (i+1) m fun m=>match Zge tt od ops m 0 with
   | true=>Mm od ops l (i+1) fun r=>K (i::r)
   | false=>Mm od ops l (i+1) K
  | false=>Mm od ops l (i+1) K
def Zh7:List Oper→Nat→Option Nat
 | [],_=>none
 | o::l,d=>match o.dst with
  | some e=>match Nat.beq e d with
   | true=>match o.op with
    | .fieldAddr _ (.tmp b) _=>some b
    | .move (.tmp b)=>some b
    | .nilCheck (.tmp b)=>some b
    | _=>none
   | false=>Zh7 l d
  | none=>Zh7 l d
def Zbi (ops:List Oper):Nat→Nat→Nat
 | 0,d=>d
 | n+1,d=>match Zh7 ops d with
  | some b=>Zbi ops n b
  | none=>d
def Zil (ops:List Oper)(r:Nat)(o:Oper):Bool:=match o.op with
 | .call c=>match c.callee with
  | .value _=>Ri (fun x=>match x with
   | .tmp a=>Nat.beq (Zbi ops 8 a) r
   | _=>false) c.args.toList
  | _=>false
 | _=>false
def Zh4 (ops:List Oper)(i r:Nat):List Oper→Nat→Bool
 | [],_=>false
 | o::l,j=>match isL tt o&&Zil ops r o with
  | true=>Nk (noB ops) j fun m=>Ir ops (j+1) m fun m=>match Zbv m i with
   | true=>Zh4 ops i r l (j+1)
   | false=>true
  | false=>Zh4 ops i r l (j+1)
def Zfz (ld:Bool):List Oper→Nat→Option Nat
 | [],_=>none
 | o::l,d=>match o.dst with
  | some e=>match Nat.beq e d with
   | true=>match o.op,ld with
    | .indexAddr _ (.tmp b) _,false=>some b
    | .load _ (.tmp b),true=>some b
    | _,_=>none
   | false=>Zfz ld l d
  | none=>Zfz ld l d
def elS (ops:List Oper)(d:Nat):Nat:=match Zfz false ops d with
 | some b=>match Zfz true ops b with
  | some a=>a
  | none=>d
 | none=>d
def Zi0 (ops:List Oper)(i:Nat)(o:Oper):Bool:=match o.op with
 | .load _ (.tmp d)=>Zh4 tt ops i (Zbi ops 8 (elS ops d)) ops 0
 | _=>false
def Z7n {α:Type}(ops:List Oper):List Oper→Nat→(List Nat→α)→α
 | [],_,K=>K []
 | o::l,i,K=>match Zi0 tt ops i o with
  | true=>Z7n ops l (i+1) fun r=>K (i::r)
  | false=>Z7n ops l (i+1) K
def Z5c:List Oper→Nat→Option Nat
 | [],_=>none
 | o::l,d=>match o.dst with
  | some e=>match Nat.beq e d with
   | true=>match o.op with
    | .fieldAddr _ (.tmp b) _=>some b
    | .indexAddr _ (.tmp b) _=>some b
    | .move (.tmp b)=>some b
    | .nilCheck (.tmp b)=>some b
    | _=>none
   | false=>Z5c l d
  | none=>Z5c l d
def Lf (t:Ts)(ops:List Oper):Nat→Nat→Option Nat
 | 0,_=>none
 | n+1,d=>match look d t with
  | some (.ptr k _)=>some k
  | some _=>none
  | none=>match Z5c ops d with
   | some b=>Lf t ops n b
   | none=>none
def vaC {α:Type}(g:G)(ks:List Nat)(K:List Nat→α):α:=match g with
 | .ptr k _=>Hk k ks K
 | _=>K ks
def Zfr {α:Type}:List G→List Nat→(List Nat→α)→α
 | [],ks,K=>K ks
 | g::l,ks,K=>vaC g ks fun ks=>Zfr l ks K
def va1 {α:Type}(g:G)(ks:List Nat)(K:List Nat→α):α:=match g with
 | .clo _ a c=>Zfr a ks fun ks=>Zfr c ks K
 | g=>vaC g ks K
def vaL {α:Type}(t:Ts)(ops:List Oper):List Operand→List Nat→(List Nat→α)→α
 | [],r,K=>K r
 | x::l,r,K=>match x with
  | .tmp d=>match look d t with
   | some g=>va1 g r fun r=>vaL t ops l r K
   | none=>match Lf t ops 8 d with
    | some k=>Hk k r fun r=>vaL t ops l r K
    | none=>vaL t ops l r K
  | _=>vaL t ops l r K
def Z1x (t:Ts)(ops:List Oper):Nat→Nat→Option Nat
 | 0,_=>none
 | n+1,d=>match look d t with
  | some (.osl k)=>some k
  | some _=>none
  | none=>match Z5c ops d with
   | some b=>Z1x t ops n b
   | none=>none
def vsS {α:Type}(t:Ts)(ops:List Oper):List Operand→List Nat→(List Nat→α)→α
 | [],r,K=>K r
 | .tmp d::l,r,K=>match Z1x t ops 8 d with
  | some k=>Hk k r fun r=>vsS t ops l r K
  | none=>vsS t ops l r K
 | _::l,r,K=>vsS t ops l r K
def Z5e {α:Type}(w:Os):List G→List Nat→(List Nat→α)→α
 | [],r,K=>K r
 | g::l,r,K=>match g with
  | .osl k=>match look k w with
   | some _=>Hk k r fun r=>Z5e w l r K
   | none=>Z5e w l r K
  | _=>Z5e w l r K
def Zhn:List Oper→Nat→Option Nat
 | [],_=>none
 | o::l,d=>match o.dst with
  | some e=>match Nat.beq e d with
   | true=>match o.op with
    | .load _ (.tmp b)=>some b
    | _=>none
   | false=>Zhn l d
  | none=>Zhn l d
def ldS {α:Type}(t:Ts)(w:Os)(ops:List Oper)(x:Operand)(r:List Nat)(K:List Nat→α):α:=match x with
 | .tmp d=>match look d t with
  | some _=>K r
  | none=>match Zhn ops d with
   | some b=>match Lf t ops 8 b with
    | some k=>match look k w with
     | some (.blk cs _)=>Z5e w cs r K
     | _=>K r
    | none=>K r
   | none=>K r
 | _=>K r
def Zdn (tt:List (Nat × TI))(ty:TypeId):Bool:=match Z51 tt ty with
 | .fn=>true
 | _=>false
def Zhp {α:Type}(b:Bool)(t:Ts)(ops:List Oper)(l:List Operand)(r:List Nat)(K:List Nat→α):α:=match b with
 | true=>vsS t ops l r K
 | false=>K r
def Zef {α:Type}:Os→List Nat→(List Nat→α)→α
 | [],r,K=>K r
 | (k,q)::l,r,K=>match q with
  | .abs _=>Hk k r fun r=>Zef l r K
  | .fam _=>Hk k r fun r=>Zef l r K
  | _=>Zef l r K
def Ze6 {α:Type}:Os→List Nat→(List Nat→α)→α
 | [],r,K=>K r
 | (k,q)::l,r,K=>match q with
  | .mpI _=>Hk k r fun r=>Ze6 l r K
  | .mpS _=>Hk k r fun r=>Ze6 l r K
  | _=>Ze6 l r K
def Ze0 (tt:List (Nat × TI))(ty:TypeId):Bool:=match Z51 tt ty with
 | .map _ _=>true
 | _=>false
def Y1 {α:Type}(late:List Nat)(t:Ts)(w:Os)(ops:List Oper):List Oper→Nat→List Nat→(List Nat→α)→α
 | [],_,r,K=>K r
 | o::l,i,r,K=>match isL tt o&&!Fz i late,o.op with
  | true,.store _ (.tmp d) _=>match Lf t ops 8 d with
   | some k=>Hk k r fun r=>Y1 late t w ops l (i+1) r K
   | none=>Y1 late t w ops l (i+1) r K
  | true,.call c=>match c.callee with
   | .value f=>vaL t ops (f::c.args.toList) r fun r=>Zhp (Ri (Zdn tt) c.argTypes.toList) t ops c.args.toList r fun r=>Zef w r fun r=>match Ri (Ze0 tt) c.argTypes.toList with
    | true=>Ze6 w r fun r=>Y1 late t w ops l (i+1) r K
    | false=>Y1 late t w ops l (i+1) r K
   | .builtin .append=>match c.args.toList with
    | x::_=>vsS t ops [x] r fun r=>ldS t w ops x r fun r=>Y1 late t w ops l (i+1) r K
    | _=>Y1 late t w ops l (i+1) r K
   | _=>Y1 late t w ops l (i+1) r K
  | _,_=>Y1 late t w ops l (i+1) r K
def vsB (XL:List Nat)(t:Ts)(o:Oper):Bool:=match o.guard,o.op with
 | none,.store _ (.tmp d) _=>match look d t with
  | some (.ptr k _)=>Fz k XL
  | _=>false
 | none,.call c=>match c.callee with
  | .value _=>true
  | .builtin .append=>match c.args.toList with
   | .tmp d::_=>match look d t with
    | some (.osl k)=>Fz k XL
    | some .nl=>true
    | _=>false
   | _=>false
  | _=>false
 | _,_=>false
def vsG (XL:List Nat)(t:Ts)(o:Oper):Bool:=match o.guard with
 | none=>vsB XL t o
 | some _=>match o.op with
  | .call c=>match c.callee with
   | .value _=>true
   | _=>false
  | _=>false
def Zca (w:Os)(XL:List Nat):Bool:=Av (fun k=>match look k w with | some _=>true | none=>false) XL
abbrev MD:=List Bool→Ts→Os→Nat→(Ts→Os→Nat→Prop)→Prop
def Zfg {α:Type}:List Oper→List Nat→(List Nat→α)→α
 | [],r,K=>K r
 | o::l,r,K=>match o.dst with
  | some d=>Hk d r fun r=>Zfg l r K
  | none=>Zfg l r K
def Z8x {α:Type}:Ts→List Nat→(List Nat→α)→α
 | [],r,K=>K r
 | (i,_)::l,r,K=>Hk i r fun r=>Z8x l r K
def Z2u (t:Ts):List Nat→Ts→(Ts→Prop)→Prop
 | [],acc,K=>K acc
 | i::l,acc,K=>match look i t with
  | some g=>Z2u t l ((i,g)::acc) K
  | none=>Z2u t l acc K
def Z4h (w:Os)(n:Nat):Os→(Os→Prop)→Prop:=@Nat.rec (fun _=>Os→(Os→Prop)→Prop) (fun acc K=>K acc) (fun i ih acc K=>match look i w with
 | some r=>ih ((i,r)::acc) K
 | none=>ih acc K) n
def brK (ops:List Oper)(t:Ts)(K:Ts→Os→Nat→Prop)(c:(Ts→Os→Nat→Prop)→Prop):List Nat→Prop
 | _::_::_=>Zfg ops [] fun L=>Z8x t L fun L=>c fun t w n=>Z2u t L [] fun t=>Z4h w n [] fun w=>K t w n
 | _=>c K
def Zhc (t:Ts)(w:Os):List Operand→(List G→Prop)→Prop
 | [],K=>K []
 | x::l,K=>ev t w x fun g=>match Z8g (Z8n g) with
  | some _=>Zhc t w l fun gs=>K (Z8n g::gs)
  | none=>False
def Zb9 (P:Program)(o:Oper)(t:Ts)(w:Os)(K:Ts→Prop):Prop:=match o.op with
 | .call c=>match c.callee with
  | .value (.func f)=>Zhc t w c.args.toList fun gs=>Z97 P f gs fun g=>K (put o.dst g t)
  | _=>False
 | _=>False
def Zik:MD:=fun _ t w n K=>K t w n
def Zg5 (XL od late:List Nat)(ops:List Oper)(_:Oper)(_:List Oper)(ih:MD):MD:=fun l t w n K=>match Lj tt od ops (rdy l ops l 0) with
  | some i=>match nth ops i with
   | some o=>match Zca w XL with
    | true=>sxG P tt (.quiet XL) ops o t w n fun t w n=>Nk l i fun l=>ih l t w n K
    | false=>False
   | none=>False
  | none=>match Zf8 tt ops (rdy l ops l 0) with
   | some i=>match nth ops i with
    | some o=>Zb9 P o t w fun t=>Nk l i fun l=>ih l t w n K
    | none=>False
   | none=>match rdy l ops l 0 with
    | []=>K t w n
    | rs=>brK ops t K (fun K=>Zen (fun i=>match nth ops i with
     | some o=>match isL tt o with
      | false=>sxG P tt .new ops o t w n fun t w n=>Nk l i fun l=>ih l t w n K
      | true=>match Fz i late with
       | true=>sxG P tt .late ops o t w n fun t w n=>Nk l i fun l=>ih l t w n K
       | false=>match vsG XL t o,Zca w XL with
        | true,true=>sxG P tt (.vs XL) ops o t w n fun t w n=>Nk l i fun l=>ih l t w n K
        | _,_=>False
     | none=>False) rs) rs
def sxD (XL od late:List Nat)(ops:List Oper)(fu:List Oper):MD:=@List.rec Oper (fun _=>MD) Zik (Zg5 P tt XL od late ops) fu
inductive Ex where
 | normal
 | exit (id:Nat)
 | ret
 | goto (l:Nat)
abbrev KC:=Ex→Ts→Os→Nat→Prop
def leT (m:List (Nat × Nat))(t:Ts)(n:Nat):Ts→Prop
 | []=>True
 | (i,g)::r=>(Z58 n g=true∧look i t=some (renS m g))∧leT m t n r
def leO (m:List (Nat × Nat))(w:Os)(n:Nat):Os→Prop
 | []=>True
 | (k,r)::l=>((Nat.blt k n&&(isS r||Nat.beq ((look k m).getD k) k))=true∧X2 n r=true∧look ((look k m).getD k) w=some (Z44 m r))∧leO m w n l
def le (m:List (Nat × Nat))(t:Ts)(w:Os)(n:Nat)(t':Ts)(w':Os):Prop :=
 leT m t n t'∧leO m w n w'∧Mn (w'.map fun p=>(look p.1 m).getD p.1)=true
def mkM (t:Ts):Ts→List (Nat × Nat)
 | []=>[]
 | (i,.osl k)::l=>match look i t with
  | some (.osl j)=>(k,j)::mkM t l
  | _=>mkM t l
 | _::l=>mkM t l
def Yk {X:Type}(st:X→Ts × Os)(d:X→Ts)(I:X→Prop)(μ:X→Nat)(n:Nat)(x:X)(K:KC):KC:=fun e t' w' n'=>match e with
 | .normal=>∃y,I y∧μ y < μ x∧le (mkM t' (d y)) t' w' n (st y).1 (st y).2
 | .exit id=>K (.exit id) t' w' n'
 | .ret=>K .ret t' w' n'
 | .goto l=>K (.goto l) t' w' n'
abbrev MC:=Ts→Os→Nat→KC→Prop
def Zt (_ _:Code)(x y:MC):MC:=fun t w n K=>x t w n fun e t w n=>match e with
  | .normal=>y t w n K
  | .exit id=>K (.exit id) t w n
  | .ret=>K .ret t w n
  | .goto l=>K (.goto l) t w n
def Z25 (c:Operand)(_ _:Code)(x y:MC):MC:=fun t w n K=>ev t w c fun g=>match g with
  | .tt=>x t w n K
  | .ff=>y t w n K
  | .v (.bool c)=>EvIf c (x t w n K) (y t w n K)
  | _=>False
def Th (id:Nat)(_:Code)(x:MC):MC:=fun t w n K=>x t w n fun e t w n=>match e with
  | .normal=>K .normal t w n
  | .exit id'=>bif Nat.beq id' id then K .normal t w n else K (.exit id') t w n
  | .ret=>K .ret t w n
  | .goto l=>K (.goto l) t w n
def Pg {X:Type}(st:X→Ts × Os)(I:X→Prop)(μ:X→Nat)(n:Nat)(x:X)(K:KC):KC:=fun e t' w' n'=>match e with
 | .normal=>∃(y:X) (m:List (Nat × Nat)),I y∧μ y < μ x∧le m t' w' n (st y).1 (st y).2
 | .exit id=>K (.exit id) t' w' n'
 | .ret=>K .ret t' w' n'
 | .goto l=>K (.goto l) t' w' n'
def P9 {X:Type}(st:X→Ts × Os)(_:X→Ts)(I:X→Prop)(μ:X→Nat)(n:Nat)(x:X)(K:KC):KC:=fun e t' w' n'=>Gh (fun w1 n1=>Pg st I μ n x K e t' w1 n1) w' n'
def Zis (b:Bool){X:Type}(st:X→Ts × Os)(d:X→Ts)(I:X→Prop)(μ:X→Nat)(n:Nat)(x:X)(K:KC):KC:=match b with
 | false=>Yk st d I μ n x K
 | true=>P9 st d I μ n x K
def Kb (_:Code)(x:MC):MC:=fun t w0 n0 K=>Gh (fun w n=>∃(b:Bool) (X:Type) (st:X→Ts × Os) (d:X→Ts) (I:X→Prop) (μ:X→Nat),
      (∃x,I x∧le [] t w n (st x).1 (st x).2)∧∀y,I y→x (st y).1 (st y).2 n (Zis b st d I μ n y K)) w0 n0
def Zaf (_:Nat)(ops:Array Oper)(d:Bool):MC:=fun t w n K=>match d with
  | false=>sxO P tt ops.toList ops.toList t w n (K .normal)
  | true=>Z7n tt ops.toList ops.toList 0 fun od=>Mm tt od ops.toList ops.toList 0 fun late=>Y1 tt late t w ops.toList ops.toList 0 [] fun XL=>trK w 3 XL fun XL=>sxD P tt XL od late ops.toList ops.toList (noB ops.toList) t w n (K .normal)
def Z29 (e:Ex):MC:=fun t w n K=>K e t w n
def Zhz:MC:=fun _ _ _ _=>False
def Mv (m:MC):MC:=fun t w n K=>m t w n fun e t w n=>match e with
  | .normal=>K .normal t w n
  | .exit id=>K (.exit id) t w n
  | .ret=>K .ret t w n
  | .goto _=>False
def Td:Code→Option Nat
 | .seq a b=>match Td a with
  | some l=>some l
  | none=>Td b
 | .label l=>some l
 | _=>none
abbrev MP:=Bool→MC
def Ro (x:Code)(m:MP):MC:=match Td x with
 | none=>Mv (m true)
 | some l=>fun t w n K=>m true t w n fun e t w n=>match e with
  | .normal=>K .normal t w n
  | .exit id=>K (.exit id) t w n
  | .ret=>K .ret t w n
  | .goto l'=>bif Nat.beq l' l then Mv (m false) t w n K else False
def Zit (x y:Code)(p q:MP):MP:=fun b=>match b with
 | true=>Zt x y (p true) (q true)
 | false=>match Td x with
  | some _=>Zt x y (p false) (q true)
  | none=>q false
def sxM (c:Code):MP:=@Code.rec (fun _=>MP) (fun _=>Z29 .normal) (fun i o d _=>Zaf P tt i o d) Zit (fun c x y p q _=>Z25 c x y (p true) (q true)) (fun i x p _=>Th i x (p true)) (fun x p _=>Kb x (p true)) (fun _ _ _ _ _ _ _=>Zhz) (fun id _=>Z29 (.exit id)) (fun x p _=>Ro x p) (fun _ _=>Z29 .normal) (fun l _=>Z29 (.goto l)) (fun _=>Z29 .ret) (fun _ _=>Zhz) c
def sxC (c:Code):MC:=sxM P tt c true
def Zad (t:Ts)(w:Os)(K:G→Os→Prop):ResultVar→Prop
 | .tmp i=>match look i t with
  | some g=>pur w g K
  | none=>False
 | .cell i ty=>match look i t,look ty tt with
  | some (.ptr k off),some i=>match look k w with
   | some (.blk cs _)=>match i.agg with
    | true=>seg cs off i.zero.length fun l=>Zbw l w fun l' w'=>K (.agg l') w'
    | false=>match nth cs off with
     | some g=>Z8k w g K
     | none=>False
   | _=>False
  | _,_=>False
def Z9b (t:Ts)(w:Os):List ResultVar→(List G→Prop)→Prop
 | [],K=>K []
 | r::l,K=>Zad tt t w (fun g w'=>Z9b t w' l fun gs=>K (g::gs)) r
def Zck (fn:Func)(Q:G→Prop):KC:=fun e t w _=>match e with
 | .exit _=>False
 | .goto _=>False
 | _=>match fn.results.toList with
  | [r]=>Z9b tt t w [r] fun gs=>match gs with
   | [g]=>Q g
   | _=>False
  | rs=>Z9b tt t w rs fun gs=>Q (.tup gs)
def Z1c (t:Ts)(w:Os)(K:G→Os→Prop):ResultVar→Prop
 | .tmp i=>match look i t with
  | some g=>Ze2 w g K
  | none=>False
 | .cell i ty=>Zad tt t w K (.cell i ty)
structure It where
 O:Os
 m:List (Nat × Nat)
 c:Bool
def It.root (i:It):Nat:=(look 0 i.m).getD 0
def It.keys (i:It):List Nat:=i.O.map fun p=>(look p.1 i.m).getD p.1
def Tc:List It→List Nat
 | []=>[]
 | i::l=>i.keys++Tc l
def Mh:Nat→List G→Ts
 | _,[]=>[]
 | i,g::l=>(i,g)::Mh (i+1) l
def It.res:It→R
 | ⟨O,_,true⟩=>.abs (cl O)
 | ⟨O,_,false⟩=>match look 0 O with
  | some r=>r
  | none=>.gone
def Er:List It→Nat→List (Nat × Nat)
 | [],_=>[]
 | i::l,j=>(j,i.root)::Er l (j+1)
def It.ok (own:Os)(n n0 N:Nat)(M:List (Nat × Nat))(j:Nat)(i:It):Prop:=match i.c with
 | true=>leI i.m own n i.O∧∃r,look 0 i.O=some r
 | false=>∃r,i.O=[(0,r)]∧look i.root own=some (Hs M r)∧(X2 N r&&((match r with | .blk cs _=>Av (Zc0 n0) cs | _=>true)&&(!(match r with | .slc _ _ _ | .froz _ _ | .vw _ _ _=>true | _=>false)||Nat.ble n0 j)))=true
def Za4 (own:Os)(n n0 N:Nat)(M:List (Nat × Nat)):Nat→List It→Prop
 | _,[]=>True
 | j,i::l=>i.ok own n n0 N M j∧Za4 own n n0 N M (j+1) l
def Zfv:G→Bool
 | .osv _ _ _ _ | .oel _ _ _ _ | .orv _ _ _ _ _ _ | .clo _ _ _=>false
 | _=>true
def Zhe:G→Bool
 | .tup l=>Av Zfv l
 | g=>Zfv g
def Yy (n0:Nat):G→Bool
 | .oag l=>Av (Zc0 n0) l
 | .osl k=>Nat.ble n0 k
 | _=>true
def Zi4 (n0:Nat):G→Bool
 | .tup l=>Av (Yy n0) l
 | g=>Yy n0 g
structure Z7e (roots:List Nat)(own:Os)(n:Nat)(g:G)(Q:G→List R→Prop)(its:List It)(g':G):Prop where
 ok:Za4 own n roots.length its.length (Er its 0) 0 its
 nod:Mn (Tc its)=true
 rts:∃l,its.map It.root=roots++l
 res:Pj (Er its 0) g'=g
 key:(Z58 its.length g'&&Zhe g'&&Zi4 roots.length g')=true
 post:Q g' (its.map It.res)
def O4 (t:Ts)(n:Nat):List Nat→Ts
 | []=>[]
 | i::l=>match look i t with
  | some g=>match Z58 n g with
   | true=>(i,g)::O4 t n l
   | false=>O4 t n l
  | none=>O4 t n l
def Lb (t:Os)(n:Nat):List Nat→Os
 | []=>[]
 | i::l=>match look i t,Nat.blt i n with
  | some g,true=>match X2 n g with
   | true=>(i,g)::Lb t n l
   | false=>Lb t n l
  | _,_=>Lb t n l
theorem Z22 (m:List (Nat × Nat))(t a b:Ts)(n:Nat)(ha:leT m t n a)(hb:leT m t n b):leT m t n (a++b):=by
 induction a with
 | nil=>exact hb
 | cons p a ih=>exact⟨ha.1,ih ha.2⟩
theorem Z2b (m:List (Nat × Nat))(t a b:Os)(n:Nat)(ha:leO m t n a)(hb:leO m t n b):leO m t n (a++b):=by
 induction a with
 | nil=>exact hb
 | cons p a ih=>exact⟨ha.1,ih ha.2⟩
theorem Wm (g:G):K7 [] g=g:=by cases g<;>rfl
theorem Ph (g:G):Z3t [] g=g:=by
 cases g with
 | oag l=>simp only[Z3t,funext Wm];simp
 | clo f a c=>simp only[Z3t,funext Wm];simp
 | _=>rfl
theorem Vj (g:G):Pj [] g=g:=by
 cases g with
 | tup l=>simp only[Pj,funext Ph];simp
 | oag l=>exact Ph (.oag l)
 | clo f a c=>exact Ph (.clo f a c)
 | _=>rfl
theorem Gw (g:G):Kq [] g=g:=by
 cases g with
 | orv k i s off l c=>cases s<;>rfl
 | _=>rfl
theorem Ll (g:G):Tg [] g=g:=by
 cases g with
 | oag l=>simp only[Tg,funext Gw];simp
 | clo f a c=>simp only[Tg,funext Gw];simp
 | orv k i s o l c=>exact Gw (.orv k i s o l c)
 | _=>rfl
theorem Z6r (g:G):renS [] g=g:=by
 cases g with
 | tup l=>simp only[renS,funext Ll];simp
 | oag l=>exact Ll (.oag l)
 | clo f a c=>exact Ll (.clo f a c)
 | orv k i s o l c=>exact Gw (.orv k i s o l c)
 | _=>rfl
theorem Ym (r:R):Z44 [] r=r:=by
 cases r with
 | blk cs t=>simp only[Z44,funext Gw];simp
 | _=>rfl
theorem Ux (t:Ts)(n:Nat)(ks:List Nat):leT [] t n (O4 t n ks):=by
 induction ks with
 | nil=>exact trivial
 | cons i l ih =>
  unfold O4
  cases h:look i t with
  | none=>exact ih
  | some g =>
   cases h2:Z58 n g with
   | false=>simpa [h2] using ih
   | true=>simp only[h2];exact⟨⟨h2,by rw[h,Z6r]⟩,ih⟩
theorem Ul (t:Os)(n:Nat)(ks:List Nat):leO [] t n (Lb t n ks):=by
 induction ks with
 | nil=>exact trivial
 | cons i l ih =>
  unfold Lb
  cases h:look i t with
  | none=>exact ih
  | some g =>
   cases h2:Nat.blt i n with
   | false=>exact ih
   | true =>
    cases h3:X2 n g with
    | false=>simpa [h3] using ih
    | true=>simp only[h3];exact⟨⟨by rw[h2];show(true&&(isS g||Nat.beq i i))=true;rw[Nat.beq_refl];simp,h3,by show look i t=_;rw[h,Ym]⟩,ih⟩
def Lt {α:Type}(t:Ts)(n:Nat):List Nat→(Ts→α)→α
 | [],K=>K []
 | i::l,K=>match look i t with
  | some g=>match Z58 n g with
   | true=>Lt t n l fun r=>K ((i,g)::r)
   | false=>Lt t n l K
  | none=>Lt t n l K
def L7 {α:Type}(t:Os)(n:Nat):List Nat→(Os→α)→α
 | [],K=>K []
 | i::l,K=>match look i t,Nat.blt i n with
  | some g,true=>match X2 n g with
   | true=>L7 t n l fun r=>K ((i,g)::r)
   | false=>L7 t n l K
  | _,_=>L7 t n l K
theorem Q7 {α:Type}(t:Ts)(n:Nat)(l:List Nat)(K:Ts→α):Lt t n l K=K (O4 t n l):=by
 induction l generalizing K with
 | nil=>rfl
 | cons i l ih =>
  unfold Lt O4
  cases look i t with
  | none=>exact ih K
  | some g =>
   cases h:Z58 n g with
   | true=>simp only[h];exact ih _
   | false=>simp only[h];exact ih _
theorem Qk {α:Type}(t:Os)(n:Nat)(l:List Nat)(K:Os→α):L7 t n l K=K (Lb t n l):=by
 induction l generalizing K with
 | nil=>rfl
 | cons i l ih =>
  unfold L7 Lb
  cases look i t with
  | none=>exact ih K
  | some g =>
   cases Nat.blt i n with
   | false=>exact ih _
   | true =>
    cases h:X2 n g with
    | true=>simp only[h];exact ih _
    | false=>simp only[h];exact ih _
theorem Ap {a:Code}{B:MC}{t:Ts}{w:Os}{n:Nat}{K:KC}(ks os:List Nat){X:Type}(d:X→Ts)(r:X→Os)(I:X→Prop)(μ:X→Nat)(x0:X)(h0:I x0)(ht:leT [] t n (d x0))(hw:leO [] w n (r x0))(hn:Mn ((r x0++Lb w n os).map fun p=>(look p.1 ([]:List (Nat × Nat))).getD p.1)=true)
  (h:Lt t n ks fun T=>L7 w n os fun O=>∀x,I x→B (d x++T) (r x++O) n (Yk (fun x=>(d x++T,r x++O)) d I μ n x K)):Kb a B t w n K:=by
 rw[Q7,Qk] at h
 exact .done ⟨false,X,fun x=>(d x++O4 t n ks,r x++Lb w n os),d,I,μ,⟨x0,h0,Z22 _ _ _ _ _ ht (Ux t n ks),Z2b _ _ _ _ _ hw (Ul w n os),hn⟩,h⟩
theorem D2 {a:Code}{B:MC}{t:Ts}{w:Os}{n:Nat}{K:KC}(ks os:List Nat){X:Type}(d:X→Ts)(r:X→Os)(I:X→Prop)(μ:X→Nat)(x0:X)(h0:I x0)(ht:leT [] t n (d x0))(hw:leO [] w n (r x0))(hn:Mn ((r x0++Lb w n os).map fun p=>(look p.1 ([]:List (Nat × Nat))).getD p.1)=true)
  (h:Lt t n ks fun T=>L7 w n os fun O=>∀x,I x→B (d x++T) (r x++O) n (P9 (fun x=>(d x++T,r x++O)) d I μ n x K)):Kb a B t w n K:=by
 rw[Q7,Qk] at h
 exact .done ⟨true,X,fun x=>(d x++O4 t n ks,r x++Lb w n os),d,I,μ,⟨x0,h0,Z22 _ _ _ _ _ ht (Ux t n ks),Z2b _ _ _ _ _ hw (Ul w n os),hn⟩,h⟩
theorem Gh.join {K:Os→Nat→Prop}{w:Os}{n:Nat}(h:Gh (fun w n=>Gh K w n) w n):Gh K w n:=by
 induction h with
 | done h=>exact h
 | nil k p q ty e sz hk hz _ ih=>exact .nil k p q ty e sz hk hz ih
 | close O m hO h0 hd _ ih=>exact .close O m hO h0 hd ih
 | opn k cs ty rs hk hb hs _ ih=>exact .opn k cs ty rs hk hb hs ih
 | adr k r hk _ ih=>exact .adr k r hk ih
 | lies k B p hk hp _ ih=>exact .lies k B p hk hp ih
 | fam _ ih=>exact .fam ih
 | adopt j k ps p hj hk _ ih=>exact .adopt j k ps p hj hk ih
 | frz k rows e sz hk _ ih=>exact .frz k rows e sz hk ih
 | seen k cs ty hk _ ih=>exact .seen k cs ty hk ih
 | drop k r hk _ ih=>exact .drop k r hk ih
 | rnm kb k p q ty rows e sz hb hk _ ih=>exact .rnm kb k p q ty rows e sz hb hk ih
 | dup j k b hj _ ih=>exact .dup j k b hj ih
 | move m k j1 j2 b p hm hk h1 h2 _ ih=>exact .move m k j1 j2 b p hm hk h1 h2 ih
 | take j i ps p hj hi _ ih=>exact .take j i ps p hj hi ih
 | put j i k ps p hj hi hk _ ih=>exact .put j i k ps p hj hi hk ih
 | view k rows e sz hk _ ih=>exact .view k rows e sz hk ih
 | tail kb k lo hi p q ty rows e sz hb hk hl _ ih=>exact .tail kb k lo hi p q ty rows e sz hb hk hl ih
theorem Z3z {a:Code}{B:MC}{t:Ts}{w:Os}{n:Nat}{K:KC}(h:Gh (fun w n=>Kb a B t w n K) w n):Kb a B t w n K:=Gh.join h
attribute [irreducible] Kb
end
structure Env (w0 w:World)(L:List (Nat × List Value × TypeId))(U:List (World × List Nat)):Prop where
 blw:Below w0.heap.size w0 w
 own:∀p∈L,w0.heap.size≤p.1∧w.heap[p.1]?=some (.cells p.2.1.toArray p.2.2 (0,0))
 sep:(L.map (·.1)).Nodup
 sn:∀q∈U,Frm q.2 q.1 w∧∀p∈L,p.1∈q.2∨q.1.heap.size≤p.1
inductive IsC:Value→List Value→Prop
 | agg (cs:List Value):IsC (.agg cs.toArray) cs
 | int (k:IntKind) (n:Int):IsC (.int k n) [.int k n]
 | str (s:ByteArray):IsC (.string s) [.string s]
 | slice (a:Option Addr) (n c:Nat):IsC (.slice a n c) [.slice a n c]
 | bool (b:Bool):IsC (.bool b) [.bool b]
 | ptr (a:Option Addr):IsC (.pointer a) [.pointer a]
 | map (r:Option Nat):IsC (.map r) [.map r]
 | iface (t:TypeId) (v:Value):IsC (.iface t v) [.iface t v]
 | nilI:IsC .nilIface [.nilIface]
theorem IsC.eq {v:Value}{cs:List Value}(h:IsC v cs):v.cells.toList=cs:=by cases h<;>simp[Value.cells]
inductive At {α:Type}:List α→Nat→α→Prop
 | z {x:α} {l:List α}:At (x::l) 0 x
 | s {x y:α} {l:List α} {i:Nat} (h:At l i x):At (y::l) (i+1) x
theorem At.get {α:Type}{l:List α}{i:Nat}{x:α}(h:At l i x):l[i]?=some x:=by
 induction h with
 | z=>rfl
 | s _ ih=>simpa using ih
def Qu (P:Program)(t:TypeId):Option Bool:=(P.underlying t).map fun d=>match d with | .struct _ | .array _ _=>true | _=>false
theorem Frm.trans2 {S T:List Nat}{u w w':World}(h:Frm T u w)(hF:Frm S w w')(hS:∀k∈S,k∈T∨u.heap.size≤k):Frm T u w' :=
 ⟨hF.os.trans h.os,hF.tape.trans h.tape,hF.output.trans h.output,b9 h.size hF.size,fun k hk hn=>(hF.block k (ap hk h.size) (fun hm=>(hS k hm).elim hn (fun hh=>by omega))).trans (h.block k hk hn)⟩
section
variable {P:Program} {w0 w w':World} {L:List (Nat × List Value × TypeId)} {U:List (World × List Nat)} {g k i:Nat} {row:List Value} {t ty:TypeId}
theorem Gg {b:Bool}(h:Qu P ty=some b)(w:World):(isAgg ty).run P w=.ok b w:=by
 unfold Qu at h
 obtain⟨d,hd,rfl⟩:=ax.1 h
 unfold isAgg
 rw[Sem.run_bind,run_underlying hd w]
 cases d<;>simp
theorem Bg {n:Nat}(h:(P.info? ty).map (·.size)=some n)(w:World):(sizeOf ty).run P w=.ok n w:=by
 cases hq:P.info? ty with
 | none=>simp[hq] at h
 | some j =>
  rw[hq] at h
  injection h with h
  simp[sizeOf,typeInfo,hq,h]
theorem Env.new (w:World):Env w w [] []:=⟨Below.refl _ _,by simp,by simp,by simp⟩
theorem Env.base (h:Below w0.heap.size w0 w):Env w0 w [] []:=⟨h,by simp,by simp,by simp⟩
theorem Env.size (h:Env w0 w L U):w0.heap.size≤w.heap.size:=h.blw.size
theorem Env.lt (h:Env w0 w L U){p:Nat × List Value × TypeId}(hp:p∈L):p.1 < w.heap.size:=(bo.1 (h.own p hp).2).1
theorem Env.below (h:Env w0 w L U)(hb:Below w.heap.size w w'):Env w0 w' L U :=
 ⟨h.blw.trans (hb.mono h.blw.size),fun p hp=>⟨(h.own p hp).1,(hb.block _ (h.lt hp)).trans (h.own p hp).2⟩,h.sep,fun q hq=>⟨(h.sn q hq).1.trans (Frm.of_below hb),(h.sn q hq).2⟩⟩
theorem Env.drew (h:Env w0 w L U):Env w0 w.drew L U:=h.below (Below.refl w.heap.size w).drew
theorem Env.alloc (h:Env w0 w L U)(cs:List Value)(t:TypeId):Env w0 (w.alloc (.cells cs.toArray t)) ((w.heap.size,cs,t)::L) U:=by
 have hb:Below w.heap.size w (w.alloc (.cells cs.toArray t)):=(Below.refl _ _).alloc (af _) _
 have h1:=h.below hb
 refine⟨h1.blw,fun p hp=>?_,?_,fun q hq=>⟨(h1.sn q hq).1,fun p hp=>?_⟩⟩
 ·rcases bh.1 hp with rfl | hp
  ·exact⟨h.blw.size,heap_alloc_new _ _⟩
  ·exact h1.own p hp
 ·rw[cj,List.nodup_cons]
  refine⟨fun hm=>?_,h.sep⟩
  obtain⟨p,hp,e⟩:=az.1 hm
  have:=h.lt hp
  omega
 ·rcases bh.1 hp with rfl | hp
  ·exact .inr (h.sn q hq).1.size
  ·exact(h.sn q hq).2 p hp
theorem Env.at_ (h:Env w0 w L U)(hL:L[i]?=some (g,row,t)):w.heap[g]?=some (.cells row.toArray t (0,0))∧w0.heap.size≤g∧g < w.heap.size :=
 have:=h.own _ (ae hL)
 ⟨this.2,this.1,h.lt (ae hL)⟩
theorem Env.cell (h:Env w0 w L U)(hL:L[i]?=some (g,row,t))(k:Nat):w.cell? ⟨g,k,none⟩=row[k]?:=by
 rw[Z06 (h.at_ hL).1];simp
theorem Env.froz (h:Env w0 w L U)(hL:L[i]?=some (g,row,t))(k:Nat):w.frozen? ⟨g,k,none⟩=false:=frozen_of_row w g k _ t (h.at_ hL).1
theorem Env.frm {S:List Nat}(h:Env w0 w L U)(hF:Frm S w w')(hS:∀k∈S,w0.heap.size≤k∧k ∉ L.map (·.1))(hU:∀q∈U,∀k∈S,k∈q.2∨q.1.heap.size≤k):Env w0 w' L U :=
 ⟨hF.below h.blw h.blw.size (fun k hk=>(hS k hk).1),fun p hp=>⟨(h.own p hp).1,(hF.block _ (h.lt hp) (fun hm=>(hS _ hm).2 (az.2 ⟨p,hp,rfl⟩))).trans (h.own p hp).2⟩,h.sep,
  fun q hq=>⟨(h.sn q hq).1.trans2 hF (hU q hq),(h.sn q hq).2⟩⟩
theorem Env.snap (h:Env w0 w L U):Env w0 w L ((w,L.map (·.1))::U) :=
 ⟨h.blw,h.own,h.sep,fun q hq=>by
  rcases bh.1 hq with rfl | hq
  ·exact⟨Frm.refl _ _,fun p hp=>.inl (az.2 ⟨p,hp,rfl⟩)⟩
  ·exact h.sn q hq⟩
theorem Env.since (h:Env w0 w L U){u:World}{S:List Nat}(j:Nat)(hU:U[j]?=some (u,S)):Frm S u w:=(h.sn _ (ae hU)).1
theorem Env.tail {p:Nat × List Value × TypeId}(h:Env w0 w (p::L) U):Env w0 w L U :=
 ⟨h.blw,fun q hq=>h.own q (List.mem_cons_of_mem _ hq),(List.nodup_cons.1 h.sep).2,fun q hq=>⟨(h.sn q hq).1,fun p hp=>(h.sn q hq).2 p (List.mem_cons_of_mem _ hp)⟩⟩
theorem Env.set (h:Env w0 w L U)(hL:L[i]?=some (g,row,t)){row':List Value}(hg:w'.heap[g]?=some (.cells row'.toArray t (0,0)))(hw:w.grownBy w' (some g)):Env w0 w' (L.set i (g,row',t)) U:=by
 have hgb:=(h.at_ hL).2
 have hlt:=(ac.1 hL).1
 have hLi:L[i]=(g,row,t):=(ac.1 hL).2
 have hmap:(L.set i (g,row',t)).map (·.1)=L.map (·.1):=by
  rw[List.map_set]
  apply co
  intro j
  rw[ck]
  split
  ·rename_i e
   subst e
   rw[db (by simpa using hlt),aj,hL]
   rfl
  ·rfl
 refine⟨Below.grownBy h.blw hw h.blw.size (fun k hk=>by injection hk with hk;omega),fun p hp=>?_,by rw[hmap];exact h.sep,fun q hq=>⟨?_,fun p hp=>?_⟩⟩
 ·obtain⟨j,hj,e⟩:=cf.1 hp
  rw[List.getElem_set] at e
  split at e
  ·rename_i hij
   subst e
   exact⟨hgb.1,hg⟩
  ·rename_i hij
   have hjL:j < L.length:=by simpa using hj
   have hm:p∈L:=e ▸ bl hjL
   refine⟨(h.own p hm).1,(hw.block _ (h.lt hm) (fun e'=>?_)).trans (h.own p hm).2⟩
   injection e' with e'
   have hnd:=List.pairwise_iff_getElem.1 h.sep
   have hi':i < (L.map (·.1)).length:=by simpa using hlt
   have hj':j < (L.map (·.1)).length:=by simpa using hjL
   have h1:(L.map (·.1))[i]=g:=by rw[List.getElem_map,hLi]
   have h2:(L.map (·.1))[j]=g:=by rw[List.getElem_map,e];exact e'
   rcases Nat.lt_or_gt_of_ne hij with hl | hl
   ·exact hnd i j hi' hj' hl (h1.trans h2.symm)
   ·exact hnd j i hj' hi' hl (h2.trans h1.symm)
 ·refine(h.sn q hq).1.trans2 (S:=[g]) ⟨hw.os,hw.tape,hw.output,hw.size,fun k hk hn=>hw.block k hk (fun e=>hn (by injection e with e;simp[e]))⟩ fun k hk=>?_
  obtain rfl:=bm.1 hk
  exact(h.sn q hq).2 _ (ae hL)
 ·have hm:p.1∈L.map (·.1):=by rw[←hmap];exact az.2 ⟨p,hp,rfl⟩
  obtain⟨p',hp',e⟩:=az.1 hm
  rw[←e]
  exact(h.sn q hq).2 p' hp'
variable {ops:Array Oper} {rest:List Oper} {o:Oper} {a:Act} {K:Act→World→Prop} {Q:Exit→Act→World→Prop}
theorem Z4m (g k j:Nat):(⟨g,k,none⟩:Addr).add j=⟨g,k+j,none⟩:=by unfold Addr.add;split<;>simp_all
theorem D3 {cs:List Value}(hag:Qu P ty=some true)(hsz:(P.info? ty).map (·.size)=some cs.length)(hc:∀j v,cs[j]?=some v→w.cell? ⟨g,k+j,none⟩=some v):(loadVar ty ⟨g,k,none⟩).run P w=.ok (.agg cs.toArray) w:=by
 have h1:=run_loadCells_list (P:=P) (w:=w) ⟨g,k,none⟩ cs (fun j v hv=>by rw[Z4m];exact hc j v hv)
 simp only[loadVar,Sem.run_bind,Gg hag,Bg hsz,Result.andThen_ok,if_true,h1,Sem.run_pure]
theorem Env.loadVar (hE:Env w0 w L U)(hL:L[i]?=some (g,row,t))(hag:Qu P ty=some true)(hsz:(P.info? ty).map (·.size)=some row.length):(loadVar ty ⟨g,0,none⟩).run P w=.ok (.agg row.toArray) w :=
 D3 hag hsz fun j v hv=>by rw[ca,hE.cell hL];exact hv
end
section
variable {I I' I'':Imm} {V V' V'':Va} {g:G} {x:Value} {w w' w'':World} {own own' own'':Os} {k n:Nat} {r:R} {t:Ts}
def Imm.le (I I':Imm):Prop:=∀b o x,I b o=some x→I' b o=some x
theorem Imm.le.refl (I:Imm):I.le I:=fun _ _ _ h=>h
theorem Va.le.refl (V:Va):V.le V:=⟨af _,fun _ _=>⟨rfl,rfl⟩⟩
theorem Va.le.trans (h:V.le V')(h':V'.le V''):V.le V'' :=
 ⟨b9 h.1 h'.1,fun k hk=>⟨(h'.2 k (ap hk h.1)).1.trans (h.2 k hk).1,(h'.2 k (ap hk h.1)).2.trans (h.2 k hk).2⟩⟩
theorem VRep.mono (h:VRep I g x)(hI:I.le I'):VRep I' g x:=by
 induction h with
 | v x=>exact .v x
 | tt=>exact .tt
 | ff=>exact .ff
 | un=>exact .un
 | nl=>exact .nl
 | agg l cs hl _ ih=>exact .agg l cs hl ih
 | sl l A c sz u hc hA hz h _ ih =>
  refine .sl l A c sz u hc hA hz (fun i r hr=>?_) ih
  obtain⟨b,o,e,h⟩:=h i r hr
  exact⟨b,o,e,fun j hj=>hI _ _ _ (h j hj)⟩
theorem PW.mono {P P':G→Value→Prop}{l:List G}{cs:List Value}(h:PW P l cs)(hP:∀g x,P g x→P' g x):PW P' l cs:=⟨h.1,fun j g u hg hu=>hP _ _ (h.2 j g u hg hu)⟩
theorem PW.cons {P:G→Value→Prop}{l:List G}{cs:List Value}(h:P g x)(hl:PW P l cs):PW P (g::l) (x::cs) :=
 ⟨by simp[hl.1],fun j g' u hg hu=>by
  cases j with
  | zero=>simp at hg hu;subst hg hu;exact h
  | succ j=>simp at hg hu;exact hl.2 j g' u hg hu⟩
theorem PW.nil {P:G→Value→Prop}:PW P [] []:=⟨rfl,fun j g u hg=>by simp at hg⟩
theorem PW.uncons {P:G→Value→Prop}{l:List G}{cs:List Value}(h:PW P (g::l) cs):∃x cs',cs=x::cs'∧P g x∧PW P l cs':=by
 cases cs with
 | nil=>exact dc h.1 (by simp)
 | cons x cs=>exact⟨x,cs,rfl,h.2 0 g x rfl rfl,by have:=h.1;simpa using this,fun j g u hg hu=>h.2 (j+1) g u (by simpa using hg) (by simpa using hu)⟩
theorem PW.of_nil {P:G→Value→Prop}{cs:List Value}(h:PW P [] cs):cs=[]:=al h.1.symm
theorem PW.append {P:G→Value→Prop}{l m:List G}{cs ds:List Value}(h:PW P l cs)(h':PW P m ds):PW P (l++m) (cs++ds):=by
 induction l generalizing cs with
 | nil=>rw[h.of_nil];exact h'
 | cons g l ih =>
  obtain⟨x,cs',rfl,hx,hl⟩:=h.uncons
  exact .cons hx (ih hl)
theorem PW.get {P:G→Value→Prop}{l:List G}{cs:List Value}(h:PW P l cs){j:Nat}(hg:l[j]?=some g):∃u,cs[j]?=some u∧P g u:=by
 have hj:=(ac.1 hg).1
 have hj':j < cs.length:=by rw[←h.1];exact hj
 exact⟨cs[j],ab hj',h.2 j g _ hg (ab hj')⟩
theorem CRep.of_v (h:VRep I g x):CRep I V g x:=by cases h<;>first | exact .v _ | exact .tt | exact .ff | exact .un | exact .nl | (exact .agg _ _ ‹_› ‹_›) | (exact .sl _ _ _ _ _ ‹_› ‹_› ‹_› ‹_› ‹_›)
theorem CRep.mono (h:CRep I V g x)(hI:I.le I')(hV:V.le V'):CRep I' V' g x:=by
 cases g with
 | ptr k off=>exact⟨ap h.1 hV.1,by rw[(hV.2 k h.1).1];exact h.2⟩
 | osl k=>exact⟨ap h.1 hV.1,by rw[(hV.2 k h.1).2];exact h.2⟩
 | osv k sz lo hi=>exact⟨ap h.1 hV.1,by rw[(hV.2 k h.1).2];exact h.2⟩
 | mp k=>exact⟨ap h.1 hV.1,by rw[(hV.2 k h.1).1];exact h.2⟩
 | clo f a c=>exact h
 | oag l=>exact h
 | tup l=>exact h
 | elp l o=>exact h
 | oel k i s o=>exact h
 | orv k i s o l c=>exact h
 | _=>exact VRep.mono h hI
theorem CRep.to_v (h:CRep I V g x)(hp:g.pure=true):VRep I g x:=by
 cases g<;>first | exact h | cases hp
theorem OrB.of {k k' sz b q:Nat}(h:OrB V k sz b q)(hb:V'.b k'=V.b k)(hs:V'.s k'=V.s k):OrB V' k' sz b q:=by
 cases sz with
 | zero=>exact(show b=V'.b k'∧q=0 from⟨by rw[hb];exact h.1,h.2⟩)
 | succ sz =>
  obtain⟨n,c,e⟩:=h
  exact⟨n,c,by rw[hs];exact e⟩
theorem TRep1.mono (h:TRep1 I V g x)(hI:I.le I')(hV:V.le V'):TRep1 I' V' g x:=by
 cases g with
 | oag l =>
  obtain⟨cs,e,h⟩:=h
  exact⟨cs,e,h.mono fun _ _ h=>h.mono hI hV⟩
 | elp row off =>
  obtain⟨b,o,e,h⟩:=h
  refine⟨b,o,e,fun j g hg=>?_⟩
  obtain⟨u,h1,h2⟩:=h j g hg
  exact⟨u,hI _ _ _ h1,h2.mono hI⟩
 | oel k i sz off =>
  obtain⟨hk,b,q,n,c,e,h⟩:=h
  exact⟨ap hk hV.1,b,q,n,c,by rw[(hV.2 k hk).2];exact e,h⟩
 | orv k i sz off len cap =>
  obtain⟨hk,b,q,e,h⟩:=h
  exact⟨ap hk hV.1,b,q,e.of (hV.2 k hk).1 (hV.2 k hk).2,h⟩
 | clo f a c =>
  obtain⟨hn,us,cs,e,h1,h2⟩:=h
  exact⟨hn,us,cs,e,h1.mono fun _ _ h=>h.mono hI hV,h2.mono fun _ _ h=>h.mono hI hV⟩
 | mp k=>exact CRep.mono (g:=.mp k) h hI hV
 | v y=>exact CRep.mono (g:=.v y) h hI hV
 | tt=>exact CRep.mono (g:=.tt) h hI hV
 | ff=>exact CRep.mono (g:=.ff) h hI hV
 | un=>exact CRep.mono (g:=.un) h hI hV
 | nl=>exact CRep.mono (g:=.nl) h hI hV
 | agg l=>exact CRep.mono (g:=.agg l) h hI hV
 | tup l=>exact h.elim
 | ptr k o=>exact CRep.mono (g:=.ptr k o) h hI hV
 | sl l=>exact CRep.mono (g:=.sl l) h hI hV
 | osl k=>exact CRep.mono (g:=.osl k) h hI hV
 | osv k sz lo hi=>exact CRep.mono (g:=.osv k sz lo hi) h hI hV
theorem TRep.mono (h:TRep I V g x)(hI:I.le I')(hV:V.le V'):TRep I' V' g x:=by
 cases g with
 | tup l =>
  obtain⟨cs,e,h⟩:=h
  exact⟨cs,e,h.mono fun _ _ h=>h.mono hI hV⟩
 | mp k=>exact TRep1.mono (g:=.mp k) h hI hV
 | clo f a c=>exact TRep1.mono (g:=.clo f a c) h hI hV
 | v y=>exact TRep1.mono (g:=.v y) h hI hV
 | tt=>exact TRep1.mono (g:=.tt) h hI hV
 | ff=>exact TRep1.mono (g:=.ff) h hI hV
 | un=>exact TRep1.mono (g:=.un) h hI hV
 | nl=>exact TRep1.mono (g:=.nl) h hI hV
 | agg l=>exact TRep1.mono (g:=.agg l) h hI hV
 | oag l=>exact TRep1.mono (g:=.oag l) h hI hV
 | ptr k o=>exact TRep1.mono (g:=.ptr k o) h hI hV
 | sl l=>exact TRep1.mono (g:=.sl l) h hI hV
 | osl k=>exact TRep1.mono (g:=.osl k) h hI hV
 | osv k sz lo hi=>exact TRep1.mono (g:=.osv k sz lo hi) h hI hV
 | elp l o=>exact TRep1.mono (g:=.elp l o) h hI hV
 | oel k i s o=>exact TRep1.mono (g:=.oel k i s o) h hI hV
 | orv k i s o l c=>exact TRep1.mono (g:=.orv k i s o l c) h hI hV
theorem TRep1.of_c (h:CRep I V g x):TRep1 I V g x:=by cases g<;>first | exact h | exact h.elim
theorem TRep.of_1 (h:TRep1 I V g x):TRep I V g x:=by cases g<;>first | exact h | exact False.elim h
theorem TRep.of_c (h:CRep I V g x):TRep I V g x:=.of_1 (.of_c h)
theorem TRep.of_v (h:VRep I g x):TRep I V g x:=.of_c (.of_v h)
theorem A3 {α:Type}(i j:Nat)(g:α)(l:List (Nat × α)):look i ((j,g)::l)=if i=j then some g else look i l:=by
 show(bif Nat.beq i j then some g else look i l)=_
 by_cases h:i=j
 ·subst h;simp[Nat.beq_refl]
 ·have h2:Nat.beq i j=false:=by
   cases hb:Nat.beq i j with
   | false=>rfl
   | true=>exact dc (ai hb) h
  rw[da h,h2];rfl
theorem E7 {α:Type}(l:List α)(n:Nat):nth l n=l[n]?:=by
 induction l generalizing n with
 | nil=>simp[nth]
 | cons a l ih=>cases n<;>simp[nth,ih]
structure Later (own:Os)(I:Imm)(V:Va)(w:World)(own':Os)(I':Imm)(V':Va)(w':World):Prop where
 has:Has I' V' own' w'
 fro:Fro own I V w own' I' V' w'
 va:V.le V'
theorem Fro.refl (own:Os)(I:Imm)(V:Va)(w:World):Fro own I V w own I V w :=
 ⟨rfl,rfl,rfl,af _,fun _ _ _=>⟨rfl,fun _=>rfl⟩,fun _ _ _ h=>h,fun k r _ hk hb _=>⟨k,r,hk,hb⟩⟩
theorem Fro.trans (h:Fro own I V w own' I' V' w')(h':Fro own' I' V' w' own'' I'' V'' w''):Fro own I V w own'' I'' V'' w'':=by
 refine⟨h'.os.trans h.os,h'.tape.trans h.tape,h'.output.trans h.output,b9 h.size h'.size,fun b hb hn=>?_,fun b o x hx=>h'.mono _ _ _ (h.mono _ _ _ hx),fun k r b hk hf hb=>?_⟩
 ·have h1:=h.blk b hb hn
  have h2:=h'.blk b (ap hb h.size) fun k r hk hf=>by
   obtain⟨j,r',hj,hf'⟩:=h.foot k r b hk hf hb
   exact hn j r' hj hf'
  exact⟨h2.1.trans h1.1,fun o=>(h2.2 o).trans (h1.2 o)⟩
 ·obtain⟨j,r',hj,hf'⟩:=h'.foot k r b hk hf (ap hb h.size)
  exact h.foot j r' b hj hf' hb
theorem Later.trans (h:Later own I V w own' I' V' w')(h':Later own' I' V' w' own'' I'' V'' w''):Later own I V w own'' I'' V'' w'' :=
 ⟨h'.has,h.fro.trans h'.fro,h.va.trans h'.va⟩
structure Since (own:Os)(I:Imm)(V:Va)(w:World)(own':Os)(I':Imm)(V':Va)(w':World):Prop where
 has:Has I' V' own' w'
 fro:Fro own I V w own' I' V' w'
 n:V.n≤V'.n
 bb:∀k,k < V.n→V'.b k=V.b k
 ss:∀k,k < V.n→V'.s k=V.s k
structure SinceC (own:Os)(I:Imm)(V:Va)(w:World)(own':Os)(I':Imm)(V':Va)(w':World):Prop where
 has:Has I' V' own' w'
 fro:Fro own I V w own' I' V' w'
 n:V.n≤V'.n
 bb:∀k,k < V.n→V'.b k=V.b k
theorem SinceC.trans (h:SinceC own I V w own' I' V' w')(h':Later own' I' V' w' own'' I'' V'' w''):SinceC own I V w own'' I'' V'' w'':=⟨h'.has,h.fro.trans h'.fro,b9 h.n h'.va.1,fun k hk=>(h'.va.2 k (ap hk h.n)).1.trans (h.bb k hk)⟩
theorem SinceC.tail (h:SinceC own I V w own' I' V' w')(h':Since own' I' V' w' own'' I'' V'' w''):SinceC own I V w own'' I'' V'' w'':=⟨h'.has,h.fro.trans h'.fro,b9 h.n h'.n,fun k hk=>(h'.bb k (ap hk h.n)).trans (h.bb k hk)⟩
theorem Since.trans (h:Since own I V w own' I' V' w')(h':Later own' I' V' w' own'' I'' V'' w''):Since own I V w own'' I'' V'' w'':=⟨h'.has,h.fro.trans h'.fro,b9 h.n h'.va.1,fun k hk=>(h'.va.2 k (ap hk h.n)).1.trans (h.bb k hk),fun k hk=>(h'.va.2 k (ap hk h.n)).2.trans (h.ss k hk)⟩
theorem Since.tail (h:Since own I V w own' I' V' w')(h':Since own' I' V' w' own'' I'' V'' w''):Since own I V w own'' I'' V'' w'':=⟨h'.has,h.fro.trans h'.fro,b9 h.n h'.n,fun k hk=>(h'.bb k (ap hk h.n)).trans (h.bb k hk),fun k hk=>(h'.ss k (ap hk h.n)).trans (h.ss k hk)⟩
theorem Later.since (h:Later own I V w own' I' V' w'):Since own I V w own' I' V' w':=⟨h.has,h.fro,h.va.1,fun k hk=>(h.va.2 k hk).1,fun k hk=>(h.va.2 k hk).2⟩
theorem Later.refl (h:Has I V own w):Later own I V w own I V w:=⟨h,.refl _ _ _ _,.refl _⟩
theorem Al.mono {κ:Type}:∀{l:List (κ × G)} {L:List (κ × Value)},Al I l L→I.le I'→Al I' l L
 | [],[],_,_=>trivial
 | _::_,_::_,h,hI=>⟨h.1,h.2.1.mono hI,Al.mono h.2.2 hI⟩
theorem MapR.keep {κ:Type}{m:Nat}{kf:κ→Value}{l:List (κ × G)}(h:MapR I w m kf l)(hI:I.le I')(hb:w'.heap[m]?=w.heap[m]?):MapR I' w' m kf l:=by
 obtain⟨L,h1,h2⟩:=h
 exact⟨L,h1.of_block hb,h2.mono hI⟩
theorem RRep.keep (h:RRep I V k w r)(hI:I.le I')(hV:V.le V')(hk:k < V.n)(hf:V'.f k=V.f k)(hos:w'.os=w.os)(hs:w.heap.size≤w'.heap.size)(hb:∀b,V.f k b→w'.heap[b]?=w.heap[b]?):RRep I' V' k w' r:=by
 have h1:=(hV.2 k hk).1
 have h2:=(hV.2 k hk).2
 cases r with
 | blk cs t =>
  obtain⟨a,us,b,c⟩:=h
  refine⟨fun b=>by rw[hf,h1];exact a b,us,by rw[h1,hb _ ((a _).2 rfl)];exact b,c.mono fun _ _ h=>h.mono hI hV⟩
 | slc rows e sz =>
  obtain⟨a,rs,b,c,d,e1,e2,e3⟩:=h
  refine⟨fun b=>by rw[hf,h2];exact a b,rs,?_,c,fun i r u hr hu=>(d i r u hr hu).mono fun _ _ h=>h.mono hI,e1,e2,e3⟩
  rw[h2]
  refine⟨b.1,?_⟩
  rcases b.2 with b | ⟨g,cap,cur,hv,hg,hh,rest⟩
  ·exact .inl b
  ·exact .inr ⟨g,cap,cur,hv,hg,by rw[hb g ((a g).2 (by rw[hv];rfl))];exact hh,rest⟩
 | vw rows e sz =>
  obtain⟨a,rs,b,c,d,e1,e2,e3⟩:=h
  refine⟨fun b=>by rw[hf,h2];exact a b,rs,?_,c,fun i r u hr hu=>(d i r u hr hu).mono fun _ _ h=>h.mono hI,e1,e2,e3⟩
  rw[h2]
  refine⟨b.1,?_⟩
  rcases b.2 with b | ⟨g,q,cap,cur,hv,hh,rest⟩
  ·exact .inl b
  ·exact .inr ⟨g,q,cap,cur,hv,by rw[hb g ((a g).2 (by rw[hv];rfl))];exact hh,rest⟩
 | froz rows sz=>exact⟨fun b=>by rw[hf];exact h.1 b,by rw[h2];exact h.2.1.mono hI,h.2.2⟩
 | gone=>exact fun b=>by rw[hf];exact h b
 | mpI l=>exact⟨fun b=>by rw[hf,h1];exact h.1 b,by rw[h1];exact h.2.keep hI (hb _ ((h.1 _).2 rfl))⟩
 | mpS l=>exact⟨fun b=>by rw[hf,h1];exact h.1 b,by rw[h1];exact h.2.keep hI (hb _ ((h.1 _).2 rfl))⟩
 | sit s pos=>exact⟨fun b=>by rw[hf,h1];exact h.1 b,by rw[h1,hb _ ((h.1 _).2 rfl)];exact h.2⟩
 | mpX l m ob =>
  obtain⟨a,q,b,c⟩:=h
  have e:=hb m ((a m).2 q.symm)
  exact⟨fun b=>by rw[hf,h1];exact a b,h1.trans q,e.trans b,c.keep hI e⟩
 | mit j l D last m ob =>
  obtain⟨a,it,L,b,c,d⟩:=h
  refine⟨fun b=>by rw[hf,h1];exact a b,it,L,by rw[h1,hb _ ((a _).2 rfl)];exact b,c.mono hI,fun w2 e1 e2=>?_⟩
  rw[h1] at e2⊢
  obtain⟨q1,q2⟩:=d w2 e1 e2
  exact⟨q1,fun kg hk=>(q2 kg hk).imp fun v h=>⟨h.1.mono hI,h.2⟩⟩
 | abs p=>exact⟨h.1,by rw[hf,h1];exact h.1 _ _ _ _ _ _ h.2 hI hos hs hb⟩
 | lnk j =>
  obtain⟨a,hj,m,e⟩:=h
  exact⟨fun b=>by rw[hf];exact a b,ap hj hV.1,m,by rw[(hV.2 j hj).2,h1];exact e⟩
 | adr j b =>
  obtain⟨a,hj,e⟩:=h
  exact⟨fun b=>by rw[hf];exact a b,ap hj hV.1,by rw[(hV.2 j hj).1];exact e⟩
 | fam ps =>
  obtain⟨a,F,q1,q2,q3⟩:=h
  refine⟨a,F,fun c=>by rw[hf];exact q1 c,q2,fun i p hp=>?_⟩
  obtain⟨b,hb2⟩:=q3 i p hp
  exact⟨b,a p (ae hp) _ _ _ _ _ _ hb2 hI hos hs fun c hc=>hb c ((q1 c).2 ⟨i,(ac.1 hp).1,hc⟩)⟩
theorem Mem.keep (h:Mem I w)(hb:∀b o x,I b o=some x→w'.heap[b]?=w.heap[b]?):Mem I w':=fun b o x hx=>by
 rw[World.cell?_of_block (w:=w) (a:=⟨b,o,none⟩) (hb b o x hx)]
 exact h b o x hx
theorem Mem.lt (h:Mem I w){b o:Nat}{x:Value}(hx:I b o=some x):b < w.heap.size:=World.block_lt_of_cell? w ⟨b,o,none⟩ (h b o x hx)
theorem Has.heap (h:Has I V own w)(hh:w'.heap=w.heap)(hos:w'.os=w.os):Has I V own w' :=
 ⟨h.mem.keep fun b _ _ _=>by rw[hh],h.num,fun k r hk=>(h.each k r hk).keep (.refl _) (.refl _) (h.num k r hk) rfl hos (by rw[hh];exact af _) fun b _=>by rw[hh],fun k r b hk hb=>by rw[hh];exact h.foot k r b hk hb,h.disj⟩
def Va.push (V:Va)(b:Nat)(s:Value)(f:Nat→Prop):Va:=⟨V.n+1,fun k=>if k=V.n then b else V.b k,fun k=>if k=V.n then s else V.s k,fun k=>if k=V.n then f else V.f k⟩
theorem Va.push_le (V:Va)(b:Nat)(s:Value)(f:Nat→Prop):V.le (V.push b s f):=⟨Nat.le_succ _,fun k hk=>by simp[Va.push,Nat.ne_of_lt hk]⟩
theorem Df (h:Has I V own w)(hw:Below w.heap.size w w')(b:Nat)(s:Value)(f:Nat→Prop)(hf:∀k,f k→w.heap.size≤k∧k < w'.heap.size)(hr:RRep I (V.push b s f) V.n w' r) :
  Later own I V w ((V.n,r)::own) I (V.push b s f) w':=by
 have hfk:∀k,k < V.n→(V.push b s f).f k=V.f k:=fun k hk=>by simp[Va.push,Nat.ne_of_lt hk]
 have hfn:(V.push b s f).f V.n=f:=by simp[Va.push]
 refine⟨⟨h.mem.keep fun b o x hx=>hw.block b (h.mem.lt hx),fun k r' hk=>?_,fun k r' hk=>?_,fun k r' b' hk hb=>?_,fun k k' r1 r2 b' hk hk' hb hb'=>?_⟩,⟨hw.os,hw.tape,hw.output,hw.size,fun b hb _=>⟨hw.block b hb,fun _=>rfl⟩,fun _ _ _ h=>h,fun k r' b' hk hb hlt=>?_⟩,V.push_le b s f⟩
 ·rw[A3] at hk
  split at hk
  ·next e=>subst e;exact ct _
  ·exact Nat.lt_succ_of_lt (h.num k r' hk)
 ·rw[A3] at hk
  split at hk
  ·next e=>subst e;cases hk;exact hr
  ·have hn:=h.num k r' hk
   exact(h.each k r' hk).keep (.refl _) (V.push_le b s f) hn (hfk k hn) hw.os hw.size fun b' hb=>hw.block b' (h.foot k r' b' hk hb).1
 ·rw[A3] at hk
  split at hk
  ·next e =>
   subst e
   rw[hfn] at hb
   refine⟨(hf b' hb).2,fun o=>?_⟩
   cases hI:I b' o with
   | none=>rfl
   | some x=>exact dc (h.mem.lt hI) (by have:=(hf b' hb).1;omega)
  ·have hn:=h.num k r' hk
   rw[hfk k hn] at hb
   exact⟨ap (h.foot k r' b' hk hb).1 hw.size,(h.foot k r' b' hk hb).2⟩
 ·rw[A3] at hk hk'
  split at hk<;>split at hk'
  ·next e e'=>rw[e,e']
  ·next e e' =>
   have hn:=h.num k' r2 hk'
   rw[hfk k' hn] at hb'
   rw[e,hfn] at hb
   exact dc (h.foot k' r2 b' hk' hb').1 (by have:=(hf b' hb).1;omega)
  ·next e e' =>
   have hn:=h.num k r1 hk
   rw[hfk k hn] at hb
   rw[e',hfn] at hb'
   exact dc (h.foot k r1 b' hk hb).1 (by have:=(hf b' hb').1;omega)
  ·rw[hfk k (h.num k r1 hk)] at hb
   rw[hfk k' (h.num k' r2 hk')] at hb'
   exact h.disj k k' r1 r2 b' hk hk' hb hb'
 ·rw[A3] at hk
  split at hk
  ·next e=>rw[e,hfn] at hb;exact dc hlt (by have:=(hf b' hb).1;omega)
  ·rw[hfk k (h.num k r' hk)] at hb
   exact⟨k,r',hk,hb⟩
theorem Cs (h:Has I V own w){r0:R}(hk:look k own=some r0)(hos:w'.os=w.os)(htp:w'.tape=w.tape)(hou:w'.output=w.output)(hsz:w'.heap.size=w.heap.size)(hbl:∀b,¬V.f k b→w'.heap[b]?=w.heap[b]?)(hr:RRep I V k w' r) :
  Later own I V w ((k,r)::own) I V w':=by
 have hne:∀j r',look j own=some r'→j≠k→∀b,V.f j b→¬V.f k b:=fun j r' hj hne b hb hb'=>hne (h.disj j k r' r0 b hj hk hb hb')
 refine⟨⟨h.mem.keep fun b o x hx=>hbl b fun hf=>?_,fun j r' hj=>?_,fun j r' hj=>?_,fun j r' b' hj hb=>?_,fun j j' r1 r2 b' hj hj' hb hb'=>?_⟩,⟨hos,htp,hou,by omega,fun b hlt hn=>⟨hbl b (hn k r0 hk),fun _=>rfl⟩,fun _ _ _ h=>h,fun j r' b' hj hb _=>?_⟩,.refl _⟩
 ·have:=(h.foot k r0 b hk hf).2 o;rw[hx] at this;cases this
 ·rw[A3] at hj
  split at hj
  ·next e=>subst e;exact h.num j r0 hk
  ·exact h.num j r' hj
 ·rw[A3] at hj
  split at hj
  ·next e=>subst e;cases hj;exact hr
  ·next e=>exact(h.each j r' hj).keep (.refl _) (.refl _) (h.num j r' hj) rfl hos (by omega) fun b' hf=>hbl b' (hne j r' hj e b' hf)
 ·rw[hsz]
  rw[A3] at hj
  split at hj
  ·next e=>subst e;exact h.foot j r0 b' hk hb
  ·exact h.foot j r' b' hj hb
 ·rw[A3] at hj hj'
  split at hj<;>split at hj'
  ·next e e'=>rw[e,e']
  ·next e e'=>subst e;exact h.disj j j' r0 r2 b' hk hj' hb hb'
  ·next e e'=>subst e';exact h.disj j j' r1 r0 b' hj hk hb hb'
  ·exact h.disj j j' r1 r2 b' hj hj' hb hb'
 ·rw[A3] at hj
  split at hj
  ·next e=>exact⟨k,r0,hk,e ▸ hb⟩
  ·exact⟨j,r',hj,hb⟩
def Va.drop (V:Va)(k:Nat):Va:={V with f:=fun j=>if j=k then fun _=>False else V.f j}
theorem Fp (h:Has I V own w){r0:R}(hk:look k own=some r0)(hI:I.le I')(hm:Mem I' w)(hIk:∀b o,¬V.f k b→I' b o=I b o)(hr:RRep I' (V.drop k) k w r) :
  Later own I V w ((k,r)::own) I' (V.drop k) w:=by
 have hf:∀j,j≠k→(V.drop k).f j=V.f j:=fun j hj=>by simp[Va.drop,hj]
 have hfk:∀b,¬(V.drop k).f k b:=fun b=>by simp[Va.drop]
 have hle:V.le (V.drop k):=⟨af _,fun _ _=>⟨rfl,rfl⟩⟩
 have hne:∀j r',look j own=some r'→j≠k→∀b,V.f j b→¬V.f k b:=fun j r' hj hne b hb hb'=>hne (h.disj j k r' r0 b hj hk hb hb')
 refine⟨⟨hm,fun j r' hj=>?_,fun j r' hj=>?_,fun j r' b' hj hb=>?_,fun j j' r1 r2 b' hj hj' hb hb'=>?_⟩,⟨rfl,rfl,rfl,af _,fun b hlt hn=>⟨rfl,fun o=>hIk b o (hn k r0 hk)⟩,hI,fun j r' b' hj hb _=>?_⟩,hle⟩
 ·rw[A3] at hj
  split at hj
  ·next e=>subst e;exact h.num j r0 hk
  ·exact h.num j r' hj
 ·rw[A3] at hj
  split at hj
  ·next e=>subst e;cases hj;exact hr
  ·next e=>exact(h.each j r' hj).keep hI hle (h.num j r' hj) (hf j e) rfl (af _) fun b' _=>rfl
 ·rw[A3] at hj
  split at hj
  ·next e=>subst e;exact dc hb (hfk b')
  ·next e =>
   rw[hf j e] at hb
   exact⟨(h.foot j r' b' hj hb).1,fun o=>(hIk b' o (hne j r' hj e b' hb)).trans ((h.foot j r' b' hj hb).2 o)⟩
 ·rw[A3] at hj hj'
  split at hj<;>split at hj'
  ·next e e'=>rw[e,e']
  ·next e e'=>rw[e] at hb;exact dc hb (hfk b')
  ·next e e'=>rw[e'] at hb';exact dc hb' (hfk b')
  ·next e e'=>rw[hf j e] at hb;rw[hf j' e'] at hb';exact h.disj j j' r1 r2 b' hj hj' hb hb'
 ·rw[A3] at hj
  split at hj
  ·next e=>rw[e] at hb;exact dc hb (hfk b')
  ·next e=>rw[hf j e] at hb;exact⟨j,r',hj,hb⟩
end
section
variable {α:Type} {w0 w w':World} {L:List (Nat × List Value × TypeId)} {U:List (World × List Nat)} {g k i:Nat} {row:List Value}
variable {o:Oper} {a:Act} {K:Act→World→Prop} {Q:Exit→Act→World→Prop}
variable {base sz bytes:Nat} {t e te:TypeId} {f:α→List Value} {v:Value} {l:List α}
theorem Own.frm {S:List Nat}(h:Own w base e sz f v l)(hF:Frm S w w')(hS:∀k∈S,k < base):Own w' base e sz f v l:=by
 refine⟨h.1,?_⟩
 rcases h.2 with h0 | ⟨b,cap,cur,rfl,hb,hg,h3⟩
 ·exact .inl h0
 ·exact .inr ⟨b,cap,cur,rfl,hb,(hF.block b (bo.1 hg).1 (fun hm=>by have:=hS b hm;omega)).trans hg,h3⟩
end
section
variable {P:Program} {w:World}
theorem Z0k (t ty e:TypeId)(i:TypeInfo)(z:Value)(size bytes:Nat)(ht:P.underlying t=some (.slice e))(hi:P.info? e=some i)(hz:i.zero=some z)
  (hsize:i.size=size) (hby:i.bytes=bytes) (hzs:z.cells.size=size) (hsz:0 < size) (v:Value) (n:Nat) (xs:List Value) (hown:w.ownsRow 0 e size v n xs)
  (A:Option Addr) (m c:Nat) (news:List Value) (hl:news.length=m * size) (hA:A=none→m=0∧c=0) (hnews:∀a,A=some a→∀j u,news[j]?=some u→w.cell? (a.add j)=some u) (h1:∀u∈news,u.oneCell'=true)
  (h63:n+m≤maxLen) (hbytes:(n+m) * bytes≤140737488355328) :
  ∃v' w',(Builtin.append_ #[t,t] ty #[v,.slice A m c]).run P w=.ok v' w'∧w'.ownsRow 0 e size v' (n+m) (xs++news)∧w.grownBy w' v.ownBlock∧(v'.ownBlock=v.ownBlock∨∃g,v'.ownBlock=some g∧w.heap.size≤g∧g < w'.heap.size):=by
 cases A with
 | none =>
  obtain⟨rfl,rfl⟩:=hA rfl
  have hn:news=[]:=al (by simpa using hl)
  subst hn
  exact⟨v,w,run_append_owned_none w 0 t ty e i size ht hi v n xs hown,by simpa using hown,World.grownBy.refl _ _,.inl rfl⟩
 | some a =>
  have hnews:=hnews a rfl
  obtain⟨v',w',hr,h2,h3,-⟩:=run_append_own (P:=P) w 0 t ty e i z size bytes ht hi hz hsize hby hzs hsz v n xs hown a m c news hl hnews h1 h63 hbytes (ah _)
  refine⟨v',w',hr,h2,h3,?_⟩
  rcases hown.2 with⟨rfl,rfl⟩ | ⟨g,cap,cur,rfl,-,hg,hnc,hcm,hcs,htake⟩
  ·have hown':w.ownsRow w.heap.size e size (.slice none 0 0) 0 xs:=⟨hown.1,.inl ⟨rfl,rfl⟩⟩
   obtain⟨v2,w2,hr2,k2,-,-⟩:=run_append_own (P:=P) w w.heap.size t ty e i z size bytes ht hi hz hsize hby hzs hsz _ 0 xs hown' a m c news hl hnews h1 h63 hbytes (af _)
   rw[hr] at hr2
   injection hr2 with e1 e2
   subst e1 e2
   cases hv:v'.ownBlock with
   | none=>exact .inl rfl
   | some g'=>exact .inr ⟨g',rfl,k2.lt g' hv⟩
  ·subst hsize
   by_cases hroom:n+m≤cap
   ·have hfit:n * i.size+news.length≤cur.size:=by rw[hl,hcs,←Nat.add_mul];exact Nat.mul_le_mul_right _ hroom
    have hr2:=run_append_room (P:=P) w t ty e i ht hi g n cap cur hg a m c news hl hnews h1 hroom hfit
    rw[hr] at hr2
    injection hr2 with e1 e2
    subst e1
    exact .inl rfl
   ·have hr2:=run_append_grow (P:=P) w t ty e i z ht hi hz ⟨g,0,none⟩ n cap xs hown.1 (hown.cells (g:=g) rfl) a m c news hl hnews (by omega) (by unfold maxLen at h63;omega) (growslice_fits (by omega) (by rw[hby];exact hbytes))
    rw[hr] at hr2
    injection hr2 with e1 e2
    subst e1 e2
    exact .inr ⟨_,rfl,af _,by simp⟩
theorem S8 (t tx ty e:TypeId)(i:TypeInfo)(z:Value)(ht:P.underlying t=some (.slice e))(htx:P.underlying tx=some .string)(hi:P.info? e=some i)(hz:i.zero=some z)
  (hsize:i.size=1) (hzs:z.cells.size=1) (v:Value) (n:Nat) (xs:List Value) (hown:w.ownsRow 0 e 1 v n xs) (s:ByteArray) (h63:n+s.size≤maxLen) (hbytes:(n+s.size) * i.bytes≤140737488355328) :
  ∃v' w',(Builtin.append_ #[t,tx] ty #[v,.string s]).run P w=.ok v' w'∧w'.ownsRow 0 e 1 v' (n+s.size) (xs++byteCells s)∧w.grownBy w' v.ownBlock∧(v'.ownBlock=v.ownBlock∨∃g,v'.ownBlock=some g∧w.heap.size≤g∧g < w'.heap.size):=by
 have hsrc:Src P i.size tx (.string s) s.size (byteCells s) w:=by rw[hsize];exact Src.ofString w htx s
 have hlen:(xs++byteCells s).length=(n+s.size) * 1:=by rw[aw,hown.1,byteCells_length];omega
 have grown:∀(base:Option Addr) (cap:Nat) (xs':List Value),xs'=xs→cap < n+s.size→(Builtin.firstCells i.size n (.slice base n cap)).run P w.drew=.ok xs'.toArray w.drew→v=.slice base n cap→∃v' w',(Builtin.append_ #[t,tx] ty #[v,.string s]).run P w=.ok v' w'∧w'.ownsRow 0 e 1 v' (n+s.size) (xs++byteCells s)∧w.grownBy w' v.ownBlock∧(v'.ownBlock=v.ownBlock∨∃g,v'.ownBlock=some g∧w.heap.size≤g∧g < w'.heap.size):=fun base cap xs' hxs hg hold hv=>by
  subst hxs hv
  have hr:=run_append_grow_src (P:=P) w t tx ty e i z ht hi hz base n cap xs' hold (.string s) s.size (byteCells s) hsrc hg (by unfold maxLen at h63;omega) (growslice_fits (by omega) hbytes)
  have hge:=grownCap_ge w (n+s.size) cap e
  have hcm:=grownCap_le_maxLen w (n+s.size) cap e h63
  generalize grownCap w (n+s.size) cap e=G at hr hge hcm
  refine⟨_,_,hr,⟨hlen,.inr ⟨w.heap.size,G,_,rfl,ah _,heap_alloc_new w.drew _,hge,hcm,?_,?_⟩⟩,⟨rfl,rfl,rfl,by simp,fun k hk _=>(World.grownBy_alloc w.drew _ none).block k hk (by simp)⟩,.inr ⟨_,rfl,af _,by simp⟩⟩
  ·rw[Array.size_append,List.size_toArray,hlen,size_zeroCells,hzs];omega
  ·rw[Array.toList_append]
   exact List.take_left' hlen
 rcases hown.2 with⟨rfl,rfl⟩ | ⟨g,cap,cur,rfl,-,hg,hnc,hcm,hcs,htake⟩
 ·have hx:xs=[]:=al (by simpa using hown.1)
  subst hx
  by_cases h0:s.size=0
  ·have hb:byteCells s=[]:=al (by rw[byteCells_length];exact h0)
   refine⟨.slice none 0 0,w,?_,by rw[hb,h0];exact World.ownsRow_nil w 0 e 1,World.grownBy.refl _ _,.inl rfl⟩
   have hc:=hsrc.cells
   rw[h0] at hc
   simp[Builtin.append_,run_underlying ht,run_underlying htx,sizeOf,typeInfo,hi,Builtin.lenOf,h0,hc]
  ·exact grown none 0 [] rfl (by omega) (by simpa using run_firstCells_none (P:=P) w.drew i.size 0 0 0) rfl
 ·by_cases hroom:n+s.size≤cap
  ·have hst:=run_storeCells_at P g (n * 1) e (byteCells s) 0 cur w hg (by rw[byteCells_length,hcs];omega) hsrc.one
   have hc:=hsrc.cells
   rw[hsize] at hc
   refine⟨.slice (some ⟨g,0,none⟩) (n+s.size) cap,w.setRow g (cur.toList.take (n * 1)++byteCells s++cur.toList.drop (n * 1+(byteCells s).length)).toArray,?_,⟨hlen,.inr ⟨g,cap,_,rfl,ah _,setRow_heap w g cur _ e (0,0) hg,hroom,hcm,?_,?_⟩⟩,⟨rfl,rfl,rfl,by simp,fun k _ hk=>setRow_other w g k _ (fun e=>hk (by simp[Value.ownBlock,e]))⟩,.inl rfl⟩
   ·simp only[Nat.add_zero] at hst
    simp[Builtin.append_,run_underlying ht,run_underlying htx,sizeOf,typeInfo,hi,hsize,hsrc.len,hroom,hc,Addr.add_lit]
    simp at hst
    rw[hst]
    rfl
   ·simp only[List.size_toArray,List.length_append,List.length_take,List.length_drop,Array.length_toList,byteCells_length,hcs]
    omega
   ·rw[show n * 1=n * 1 from rfl,htake,←hlen]
    exact List.take_left
  ·exact grown (some ⟨g,0,none⟩) cap xs rfl (by omega) (by rw[hsize];exact run_firstCells_some (P:=P) w.drew 1 n ⟨g,0,none⟩ n cap xs hown.1 (hown.cells (g:=g) rfl)) rfl
end
section
variable {I I':Imm} {V V':Va} {g:G} {x:Value} {w w':World} {own:Os} {k n sz:Nat} {r:R} {t:Ts} {l:List (List G)}
theorem M0 (h:VRep I g x)(h1:g.one=true):x.oneCell'=true:=by cases h<;>first | exact h1 | rfl | cases h1
theorem B6 {rs:List (List Value)}(h:∀u∈rs,u.length=sz):rs.flatten.length=rs.length * sz:=by
 induction rs with
 | nil=>simp
 | cons u rs ih=>rw[b7,aw,h u (by simp),ih fun v hv=>h v (by simp[hv]),bc,Nat.add_mul];omega
theorem D1:∀{rs:List (List Value)} (_:∀u∈rs,u.length=sz) {i:Nat} {u:List Value} (_:rs[i]?=some u) {j:Nat} {x:Value} (_:u[j]?=some x),rs.flatten[i * sz+j]?=some x
 | [],_,i,_,hu,_,_,_=>by simp at hu
 | v::rs,h,0,u,hu,j,x,hx=>by
  simp at hu;subst hu
  rw[b7,Nat.zero_mul,ca,bk (ac.1 hx).1];exact hx
 | v::rs,h,i+1,u,hu,j,x,hx=>by
  have hv:=h v (by simp)
  rw[b7,be (by rw[hv,Nat.add_mul];omega),hv,show(i+1) * sz+j - sz=i * sz+j by rw[Nat.add_mul];omega]
  exact D1 (fun u hu=>h u (by simp[hu])) (by simpa using hu) hx
theorem O1 {rs:List (List Value)}(h:∀u∈rs,u.length=sz){m:Nat}{x:Value}(hx:rs.flatten[m]?=some x):∃i j u,m=i * sz+j∧j < sz∧rs[i]?=some u∧u[j]?=some x:=by
 have hm:=(ac.1 hx).1
 rw[B6 h] at hm
 have hz:0 < sz:=by
  rcases Nat.eq_zero_or_pos sz with h0 | h0
  ·subst h0;simp at hm
  ·exact h0
 have hi:m / sz < rs.length:=Nat.div_lt_of_lt_mul (by rw[Nat.mul_comm];exact hm)
 have hj:=Nat.mod_lt m hz
 have hl:rs[m / sz].length=sz:=h _ (bl hi)
 refine⟨m / sz,m % sz,rs[m / sz],(Nat.div_add_mod' m sz).symm,hj,ab hi,?_⟩
 have h2:=D1 h (ab hi) (ab (by rw[hl];exact hj:m % sz < rs[m / sz].length))
 rw[Nat.div_add_mod' m sz,hx] at h2
 rw[ab (by rw[hl];exact hj)]
 exact h2.symm
theorem Zaz (h:VRep I (.sl l) x)(hm:Mem I w)(hz:∀r∈l,r.length=sz):∃A c,∃rs:List (List Value),x=.slice A l.length c∧l.length≤c∧(A=none→l=[]∧c=0)∧rs.length=l.length∧(∀(i:Nat) r u,l[i]?=some r→rs[i]?=some u→PW (VRep I) r u)∧(∀u∈rs,u.length=sz)∧∀a,A=some a→∀m x,rs.flatten[m]?=some x→I a.block (a.off+m)=some x∧w.cell? (a.add m)=some x:=by
 cases h with
 | sl l A c sz0 u hc hA hz0 h hu =>
  refine⟨A,c,(List.range l.length).map fun i=>(List.range sz).map (u i),rfl,hc,fun e=>⟨?_,hA e⟩,by simp,fun i r v hr hv=>?_,fun v hv=>?_,fun a ha m x hx=>?_⟩
  ·cases l with
   | nil=>rfl
   | cons r l=>obtain⟨b,o,e',-⟩:=h 0 r rfl;rw[e] at e';cases e'
  ·have hi:=(ac.1 hr).1
   rw[aj,cp hi] at hv
   simp at hv
   subst hv
   refine⟨by rw[hz r (ae hr)];simp,fun j g y hg hy=>?_⟩
   have hj:=(ac.1 hg).1
   rw[hz r (ae hr)] at hj
   rw[aj,cp hj] at hy
   simp at hy
   subst hy
   exact hu i r j g hr hg
  ·obtain⟨i,-,rfl⟩:=az.1 hv
   simp
  ·obtain⟨i,j,v,rfl,hj,hv,hx'⟩:=O1 (sz:=sz) (fun v hv=>by obtain⟨i,-,rfl⟩:=az.1 hv;simp) hx
   have hi:i < l.length:=by have:=(ac.1 hv).1;simpa using this
   rw[aj,cp hi] at hv
   simp at hv
   subst hv
   rw[aj,cp hj] at hx'
   simp at hx'
   subst hx'
   obtain⟨b,o,e,hI⟩:=h i l[i] (ab hi)
   rw[ha] at e
   obtain rfl:=cg e
   have hs:sz0=sz:=(hz0 _ (bl hi)).symm.trans (hz _ (bl hi))
   subst hs
   have h1:=hI j hj
   refine⟨by rw[←cu];exact h1,?_⟩
   have h2:=hm b _ _ h1
   rw[←h2]
   unfold Addr.add
   split
   ·next h0=>rw[show o+i * sz0+j=o by omega]
   ·rw[cu]
theorem X1 {b o c:Nat}{rs:List (List Value)}(hlen:rs.length=l.length)(hc:l.length≤c)(hp:∀(i:Nat) r u,l[i]?=some r→rs[i]?=some u→PW (VRep I) r u)(hz:∀u∈rs,u.length=sz)(hI:∀m x,rs.flatten[m]?=some x→I b (o+m)=some x):VRep I (.sl l) (.slice (some ⟨b,o,none⟩) l.length c):=by
 have hr:∀(i:Nat) r,l[i]?=some r→∃u,rs[i]?=some u∧PW (VRep I) r u∧u.length=sz:=fun i r hr=>by
  have hi:=(ac.1 hr).1
  have hi':i < rs.length:=by omega
  exact⟨rs[i],ab hi',hp i r _ hr (ab hi'),hz _ (bl hi')⟩
 refine .sl l _ c sz (fun i j=>(rs.flatten[i * sz+j]?).getD undef) hc (fun e=>by cases e) (fun r hm=>?_) (fun i r h=>⟨b,o,rfl,fun j hj=>?_⟩) (fun i r j g h hg=>?_)
 ·obtain⟨i,hi,e⟩:=cf.1 hm
  obtain⟨u,-,h2,h3⟩:=hr i r (by rw[ab hi,e])
  exact h2.1.trans h3
 ·obtain⟨u,h1,h2,h3⟩:=hr i r h
  have:=D1 hz h1 (ab (by omega:j < u.length))
  rw[cu,this]
  exact hI _ _ this
 ·obtain⟨u,h1,h2,h3⟩:=hr i r h
  obtain⟨y,hy,hv⟩:=h2.get hg
  rw[D1 hz h1 hy]
  exact hv
end
def G.val:G→Value
 | .v x=>x
 | .ff=>.bool false
 | .nl=>.slice none 0 0
 | _=>undef
def zOK:G→Bool
 | .v x=>x.oneCell'
 | .ff | .nl=>true
 | _=>false
def Ziq (P:Program)(t:TypeId):KD→Prop
 | .no=>True
 | .arr n e sz=>P.underlying t=some (.array n e)∧(P.info? e).map (·.size)=some sz
 | .fn=>True
 | .map s e=>∃kt,P.underlying t=some (.map kt e)∧P.underlying kt=some (if s=true then .string else .int .i64)
 | .ptr=>∃e,P.underlying t=some (.pointer e)
 | .bool=>P.underlying t=some .bool
structure TIok (P:Program)(t:TypeId)(i:TI):Prop where
 agg:Qu P t=some i.agg
 size:(P.info? t).map (·.size)=some i.zero.length
 zero:((P.info? t).bind (·.zero)).map (fun z=>z.cells.toList)=some (i.zero.map G.val)
 zok:Av zOK i.zero=true
 elem:∀e sz,i.elem=some (e,sz)→P.underlying t=some (.slice e)∧∃j z,P.info? e=some j∧j.zero=some z∧j.size=sz∧z.cells.size=sz∧0 < sz∧j.bytes≤65536
 str:i.str=true→P.underlying t=some .string
 ik:∀k,i.ik=some k→P.underlying t=some (.int k)
 zag:∀z,(P.info? t).bind (·.zero)=some z→if i.agg=true then ∃cs,z=.agg cs else z.cells=#[z]
 kd:Ziq P t i.kd
 flds:i.flds≠[]→∃F,P.underlying t=some (.struct F)∧F.toList.map (fun f=>(f.type,f.offset))=i.flds∧∀f∈F.toList,∃m,(P.info? f.type).map (·.size)=some (m+1)
def vEq:Value→Value→Bool
 | .int k n,.int k' n'=>decide (k=k')&&decide (n=n')
 | .bool a,.bool b=>decide (a=b)
 | .string a,.string b=>decide (a.data.toList=b.data.toList)
 | .slice none 0 0,.slice none 0 0=>true
 | .pointer none,.pointer none=>true
 | .map none,.map none=>true
 | .nilFunc,.nilFunc=>true
 | .nilIface,.nilIface=>true
 | _,_=>false
theorem Zdm {a b:Value}(h:vEq a b=true):a=b:=by
 unfold vEq at h
 split at h
 ·simp at h;rw[h.1,h.2]
 ·simp at h;rw[h]
 ·next a b =>
  have h:=of_decide_eq_true h
  obtain⟨⟨a⟩⟩:=a
  obtain⟨⟨b⟩⟩:=b
  simp at h;rw[h]
 all_goals first | rfl | cases h
def Zfp:List Value→List Value→Bool
 | [],[]=>true
 | a::l,b::m=>vEq a b&&Zfp l m
 | _,_=>false
theorem Z0f:∀{l m:List Value},Zfp l m=true→l=m
 | [],[],_=>rfl
 | a::l,b::m,h=>by
  simp[Zfp] at h
  rw[Zdm h.1,Z0f h.2]
def tiB (P:Program)(t:TypeId)(i:TI):Bool :=
 (Qu P t==some i.agg)&&((P.info? t).map (·.size)==some i.zero.length)&&(match(P.info? t).bind (·.zero) with | some z=>Zfp z.cells.toList (i.zero.map G.val) | none=>false)&&Av zOK i.zero &&
 (match i.elem with
  | none=>true
  | some (e,sz)=>(match P.underlying t with | some (.slice e')=>decide (e'=e) | _=>false)&&(match P.info? e with | some j=>(match j.zero with | some z=>decide (z.cells.size=sz) | none=>false)&&decide (j.size=sz)&&decide (0 < sz)&&decide (j.bytes≤65536) | none=>false)) &&
 (match i.str,P.underlying t with | false,_=>true | true,some .string=>true | _,_=>false) &&
 (match i.ik,P.underlying t with | none,_=>true | some k,some (.int k')=>decide (k'=k) | _,_=>false) &&
 (match(P.info? t).bind (·.zero) with | some (.agg _)=>i.agg | some _=>!i.agg | none=>false) &&
 (match i.kd,P.underlying t with
  | .no,_=>true
  | .fn,_=>true
  | .arr n e sz,some (.array n' e')=>decide (n'=n)&&decide (e'=e)&&((P.info? e).map (·.size)==some sz)
  | .map s e,some (.map kt e')=>decide (e'=e)&&(match s,P.underlying kt with | true,some .string=>true | false,some (.int .i64)=>true | _,_=>false)
  | .ptr,some (.pointer _)=>true
  | .bool,some .bool=>true
  | _,_=>false) &&
 (match i.flds with
  | []=>true
  | fl=>match P.underlying t with | some (.struct F)=>decide (F.toList.map (fun f=>(f.type,f.offset))=fl)&&F.toList.all (fun f=>match P.info? f.type with | some j=>decide (0 < j.size) | none=>false) | _=>false)
theorem Zc9 {P:Program}{t:TypeId}{i:TI}(h:tiB P t i=true):TIok P t i:=by
 unfold tiB at h
 simp only[Bool.and_eq_true] at h
 obtain⟨⟨⟨⟨⟨⟨⟨⟨⟨h1,h2⟩,h3⟩,h4⟩,h5⟩,hs⟩,hik⟩,hza⟩,hkd⟩,h6⟩:=h
 refine⟨by simpa using h1,by simpa using h2,?_,h4,fun e sz he=>?_,fun he=>?_,fun k he=>?_,fun z hz=>?_,?_,fun hn=>?_⟩
 ·split at h3
  ·next z hz=>rw[hz];simp[Z0f h3]
  ·cases h3
 ·rw[he] at h5
  simp only[Bool.and_eq_true] at h5
  obtain⟨h5,h7⟩:=h5
  split at h5
  ·next e' hu =>
   have:=of_decide_eq_true h5
   subst this
   refine⟨hu,?_⟩
   split at h7
   ·next j hj =>
    simp only[Bool.and_eq_true] at h7
    obtain⟨⟨⟨h7,h8⟩,h9⟩,h10⟩:=h7
    split at h7
    ·next z hz=>exact⟨j,z,hj,hz,of_decide_eq_true h8,of_decide_eq_true h7,of_decide_eq_true h9,of_decide_eq_true h10⟩
    ·cases h7
   ·cases h7
  ·cases h5
 ·rw[he] at hs
  split at hs
  ·next h=>cases h
  ·next hu=>exact hu
  ·cases hs
 ·rw[he] at hik
  split at hik
  ·next h=>cases h
  ·next k' k2 h hu =>
   cases h
   rw[hu,of_decide_eq_true hik]
  ·cases hik
 ·rw[hz] at hza
  split at hza
  ·next cs h=>cases h;rw[db hza];exact⟨cs,rfl⟩
  ·next z' hne h =>
   cases h
   rw[da (by simpa using hza)]
   cases z<;>first | rfl | exact dc rfl (hne _)
  ·next h=>cases h
 ·split at hkd
  ·next e=>rw[e];exact trivial
  ·next e=>rw[e];exact trivial
  ·next n e sz n' e' h1 h2 =>
   rw[h1]
   simp only[Bool.and_eq_true] at hkd
   obtain⟨⟨k1,k2⟩,k3⟩:=hkd
   exact⟨by rw[h2,of_decide_eq_true k1,of_decide_eq_true k2],by simpa using k3⟩
  ·next s e kt e' h1 h2 =>
   rw[h1]
   simp only[Bool.and_eq_true] at hkd
   obtain⟨k1,k2⟩:=hkd
   have k1:=of_decide_eq_true k1
   subst k1
   refine⟨kt,h2,?_⟩
   split at k2
   ·next h=>rw[h];rfl
   ·next h=>rw[h];rfl
   ·cases k2
  ·next h1 h2=>rw[h1];exact⟨_,h2⟩
  ·next h1 h2=>rw[h1];exact h2
  ·cases hkd
 ·split at h6
  ·next h0=>exact dc h0 hn
  ·split at h6
   ·next F hF =>
    simp only[Bool.and_eq_true,List.all_eq_true] at h6
    refine⟨F,hF,of_decide_eq_true h6.1,fun f hf=>?_⟩
    have h8:=h6.2 f hf
    split at h8
    ·next j hj =>
     have h9:=of_decide_eq_true h8
     exact⟨j.size - 1,by rw[hj];simp;omega⟩
    ·cases h8
   ·cases h6
def Zi5 (P:Program)(l:List (Nat × TI)):Bool:=l.all fun p=>tiB P p.1 p.2
theorem Nw {α:Type}{k:Nat}{x:α}:∀{l:List (Nat × α)},look k l=some x→(k,x)∈l
 | [],h=>by cases h
 | (j,y)::l,h=>by
  rw[A3] at h
  split at h
  ·next e=>subst e;cases h;simp
  ·simp[Nw h]
theorem Z79 {P:Program}{l:List (Nat × TI)}(h:Zi5 P l=true)(t:TypeId)(i:TI)(hl:look t l=some i):TIok P t i:=by
 have h2:tiB P t i=true:=List.all_eq_true.1 h (t,i) (Nw hl)
 exact Zc9 h2
structure ARep (N:Nat)(I:Imm)(V:Va)(a:Act)(t:Ts):Prop where
 defers:a.defers=[]
 size:a.tmps.size=N
 get:∀i g,look i t=some g→∃x,a.tmps[i]?=some x∧TRep I V g x
section
variable {P:Program} {tb:List (Nat × TI)} {N:Nat} {I I':Imm} {V V':Va} {a:Act} {t:Ts} {own own':Os} {w w':World} {x:Operand} {g:G} {y:Value} {d:Option Tmp}
theorem ARep.mono (h:ARep N I V a t)(hI:I.le I')(hV:V.le V'):ARep N I' V' a t :=
 ⟨h.defers,h.size,fun i g hg=>by obtain⟨x,h1,h2⟩:=h.get i g hg;exact⟨x,h1,h2.mono hI hV⟩⟩
theorem ARep.sub {t':Ts}(h:ARep N I V a t)(hs:∀i g,look i t'=some g→look i t=some g):ARep N I V a t':=⟨h.defers,h.size,fun i g e=>h.get i g (hs i g e)⟩
theorem ARep.put (h:ARep N I V a t)(hd:∀i,d=some i→i < N)(hx:TRep I V g y):ARep N I V (a.put d y) (put d g t):=by
 cases d with
 | none=>exact h
 | some d =>
  refine⟨h.defers,by simp[Act.put,h.size],fun i g' hg=>?_⟩
  change look i ((d,g)::t)=some g' at hg
  rw[A3] at hg
  have hlt:d < a.tmps.size:=by rw[h.size];exact hd d rfl
  split at hg
  ·next e =>
   subst e
   cases hg
   exact⟨y,by simp[Act.put,hlt],hx⟩
  ·next e =>
   obtain⟨z,h1,h2⟩:=h.get i g' hg
   refine⟨z,?_,h2⟩
   show(a.tmps.setIfInBounds d y)[i]?=_
   rw[Array.getElem?_setIfInBounds_ne (Ne.symm e)]
   exact h1
theorem Zde (x:Value):TRep I V (Gof x) x:=by
 apply TRep.of_v
 unfold Gof
 split
 ·exact .tt
 ·exact .ff
 ·exact .nl
 ·exact .v x
theorem B0 {K:G→Prop}(h:ev t own x K)(ha:ARep N I V a t)(hH:Has I V own w):∃g,K g∧TRep I V g (a.eval x):=by
 cases x with
 | tmp i =>
  unfold ev at h;dsimp only at h
  cases hl:look i t with
  | none=>rw[hl] at h;exact h.elim
  | some g =>
   obtain⟨y,h1,h2⟩:=ha.get i g hl
   have e:a.eval (.tmp i)=y:=by simp[Act.eval,h1]
   rw[e]
   rw[hl] at h
   cases g with
   | osl k =>
    dsimp only at h
    split at h
    ·next rows hr =>
     refine⟨_,h,TRep.of_v ?_⟩
     have h3:=(hH.each k _ hr).2.1
     rw[show y=V.s k from h2.2]
     exact h3
    ·exact⟨_,h,h2⟩
   | _=>exact⟨_,h,h2⟩
 | const x=>exact⟨_,h,Zde x⟩
 | func f=>exact⟨.v (.func (.func f) #[] #[]),h,TRep.of_v (.v _)⟩
 | global g=>exact False.elim h
theorem Nj:∀{l:List Operand} {K:List G→Prop},evs t own l K→ARep N I V a t→Has I V own w→∃gs,K gs∧PW (TRep I V) gs (l.map a.eval)
 | [],K,h,_,_=>⟨[],h,.nil⟩
 | x::l,K,h,ha,hH=>by
  obtain⟨g,h1,h2⟩:=B0 (K:=fun g=>evs t own l fun r=>K (g::r)) h ha hH
  obtain⟨gs,h3,h4⟩:=Nj h1 ha hH
  exact⟨_,h3,.cons h2 h4⟩
theorem T3 {Q:G→Value→Prop}:∀{l:List G} {cs:List Value} {k n:Nat} {K:List G→Prop},Zfs l k n K→PW Q l cs→∃l',K l'∧PW Q l' ((cs.drop k).take n)∧k+n≤cs.length+(if n=0 then k else 0)
 | l,cs,k,0,K,h,_=>by
  cases l<;>exact⟨[],h,by simpa using PW.nil,by simp⟩
 | [],cs,k,n+1,K,h,_=>by cases k<;>exact h.elim
 | g::l,cs,0,n+1,K,h,hp=>by
  obtain⟨x,cs',rfl,hx,hl⟩:=hp.uncons
  obtain⟨l',h1,h2,h3⟩:=T3 (K:=fun r=>K (g::r)) h hl
  refine⟨_,h1,by simpa using PW.cons hx (by simpa using h2),?_⟩
  simp only[List.length_cons] at h3⊢
  split at h3<;>simp<;>omega
 | g::l,cs,k+1,n+1,K,h,hp=>by
  obtain⟨x,cs',rfl,hx,hl⟩:=hp.uncons
  obtain⟨l',h1,h2,h3⟩:=T3 (k:=k) (n:=n+1) h hl
  refine⟨_,h1,by simpa using h2,?_⟩
  simp only[List.length_cons] at h3⊢
  simp at h3⊢
  omega
theorem PW.part {Q:G→Value→Prop}{l:List G}{cs:List Value}(h:PW Q l cs)(k n:Nat):PW Q ((l.drop k).take n) ((cs.drop k).take n):=by
 refine⟨by simp[h.1],fun j g u hg hu=>?_⟩
 rw[bi] at hg hu
 split at hg
 ·next hlt =>
  rw[db hlt] at hu
  rw[bu] at hg hu
  exact h.2 _ g u hg hu
 ·cases hg
theorem Lr {Q:G→Value→Prop}{l:List G}{cs:List Value}{k n:Nat}{K:List G→Prop}(h:seg l k n K)(hp:PW Q l cs):∃l',K l'∧PW Q l' ((cs.drop k).take n)∧k+n≤cs.length+(if n=0 then k else 0):=by
 unfold seg at h
 split at h
 ·exact T3 h hp
 ·exact⟨_,h.next,hp.part k n,by have:=h.fit;have:=hp.1;omega⟩
theorem Oc {Q:G→Value→Prop}{l:List G}{cs:List Value}{k n:Nat}{K:List G→Prop}(h:seg l k n K)(hp:PW Q l cs)(hn:0 < n):k+n≤cs.length:=by
 obtain⟨-,-,-,h3⟩:=Lr h hp
 rw[da (by omega)] at h3
 exact h3
theorem T6 {Q:G→Value→Prop}:∀{l:List G} {cs:List Value} {k:Nat} {m:List G} {ds:List Value} {K:List G→Prop},Zfl l k m K→PW Q l cs→PW Q m ds→∃l',K l'∧PW Q l' (cs.take k++ds++cs.drop (k+ds.length))∧(ds≠[]→k+ds.length≤cs.length)
 | l,cs,k,[],ds,K,h,hp,hd=>by
  rw[hd.of_nil]
  refine⟨l,?_,by simpa using hp,by simp⟩
  cases l<;>first | exact h | (cases k<;>exact h)
 | [],cs,k,c::m,ds,K,h,hp,hd=>by cases k<;>exact h.elim
 | g::l,cs,0,c::m,ds,K,h,hp,hd=>by
  obtain⟨x,cs',rfl,hx,hl⟩:=hp.uncons
  obtain⟨y,ds',rfl,hy,hm⟩:=hd.uncons
  obtain⟨l',h1,h2,h3⟩:=T6 (K:=fun r=>K (c::r)) h hl hm
  refine⟨_,h1,by simpa using PW.cons hy (by simpa using h2),fun _=>?_⟩
  cases ds' with
  | nil=>simp
  | cons z ds'=>have:=h3 (by simp);simp at this⊢;omega
 | g::l,cs,k+1,c::m,ds,K,h,hp,hd=>by
  obtain⟨x,cs',rfl,hx,hl⟩:=hp.uncons
  obtain⟨l',h1,h2,h3⟩:=T6 (k:=k) (K:=fun r=>K (g::r)) h hl hd
  refine⟨_,h1,?_,fun hn=>by have:=h3 hn;simp;omega⟩
  have:=PW.cons hx h2
  simpa [Nat.add_right_comm] using this
theorem R4 {Q:G→Value→Prop}{n:Nat}{l:List G}{cs:List Value}{k:Nat}{m:List G}{ds:List Value}{K:List G→Prop}(h:ovr n l k m K)(hp:PW Q l cs)(hd:PW Q m ds):∃l',K l'∧PW Q l' (cs.take k++ds++cs.drop (k+ds.length))∧(ds≠[]→k+ds.length≤cs.length):=by
 unfold ovr at h
 split at h
 ·exact T6 h hp hd
 ·obtain⟨⟨h1,h2⟩,h3⟩:=h
  have e1:=hp.1
  have e2:=hd.1
  refine⟨_,h3,?_,fun _=>by omega⟩
  have p1:=hp.part 0 k
  have p2:=hp.part (k+n) (cs.length)
  rw[List.drop_zero,List.drop_zero] at p1
  rw[ao (by rw[ba];omega),ao (by rw[ba];omega)] at p2
  rw[show k+ds.length=k+n by omega]
  exact(p1.append hd).append p2
theorem Ac {α:Type}{p:α→Bool}:∀{l:List α},Av p l=true→∀x∈l,p x=true
 | [],_,_,hx=>by simp at hx
 | y::l,h,x,hx=>by
  unfold Av at h
  cases hp:p y with
  | false=>rw[hp] at h;cases h
  | true =>
   rw[hp] at h
   rcases bh.1 hx with rfl | hx
   ·exact hp
   ·exact Ac h x hx
theorem Ja {n:Nat}{l:List G}{K:G→Prop}{cs:List Value}(h:Iv n l K)(hp:PW (CRep I V) l cs):∃g,K g∧TRep I V g (.agg cs.toArray):=by
 unfold Iv at h
 split at h
 ·split at h
  ·next hb=>exact⟨_,h,.of_v (.agg l cs hp.1 fun j g u hg hu=>(hp.2 j g u hg hu).to_v (Ac hb g (ae hg)))⟩
  ·exact⟨_,h,.of_1 (g:=.oag l) ⟨cs,rfl,hp⟩⟩
 ·exact⟨_,h.next,.of_v (.agg l cs hp.1 fun j g u hg hu=>(hp.2 j g u hg hu).to_v (h.fit g (ae hg)))⟩
theorem Z9g {n:Nat}(h:To n=true):48 < n:=c9 h
theorem Z39 {n:Nat}{cs:List G}{A:Prop}(h:Zfk n cs A):cs.length=n∧A:=by
 unfold Zfk at h
 split at h
 ·split at h
  ·next hb=>exact⟨ai hb,h⟩
  ·exact h.elim
 ·exact⟨h.fit,h.next⟩
theorem L9 {g:G}(h:Gb g=true):∃x,g=.v x∧x.oneCell'=true:=by
 cases g<;>first | exact⟨_,rfl,h⟩ | cases h
theorem Fe {g:G}(h:Gb g=true):g.pure=true:=by
 obtain⟨x,rfl,-⟩:=L9 h;rfl
theorem Pd {g:G}(h:Gb g=true):G.one g=true:=by
 obtain⟨x,rfl,hx⟩:=L9 h;exact hx
theorem Zg {g:G}(h:Gb g=true):Zbz own g=true:=by
 obtain⟨x,rfl,hx⟩:=L9 h;exact hx
theorem G1 {α:Type}{p:α→Bool}:∀{l:List α},(∀x∈l,p x=true)→Av p l=true
 | [],_=>rfl
 | x::l,h=>by
  unfold Av
  rw[h x (by simp)]
  exact G1 fun y hy=>h y (by simp[hy])
theorem Z0b {n:Nat}{cs:List G}{A:Prop}(h:Zdb n own cs A):Av (Zbz own) cs=true∧cs.length=n∧cs≠[]∧A∧(To n=true→Av G.pure cs=true):=by
 unfold Zdb at h
 split at h
 ·next hn =>
  split at h
  ·next h1 h2=>exact⟨h1,ai h2,by simp,h,fun e=>by rw[e] at hn;cases hn⟩
  ·exact h.elim
 ·next hn =>
  have:=Z9g hn
  exact⟨G1 fun g hg=>Zg (h.fit.2 g hg),h.fit.1,fun e=>(by have:=h.fit.1;rw[e] at this;simp at this;omega),h.next,fun _=>G1 fun g hg=>Fe (h.fit.2 g hg)⟩
theorem Og {k:Nat}{o:Os}{K1:Nat→Prop}:∀{l:Os},Zbe k o l K1→∃b i,look i o=some (.adr k b)∧K1 b
 | [],h=>h.elim
 | (i,r)::l,h=>by
  unfold Zbe at h
  split at h
  ·next j b hi =>
   split at h
   ·next hb =>
    have:=ai hb
    subst this
    exact⟨b,i,hi,h⟩
   ·exact Og h
  ·exact Og h
theorem Ti {n:Nat}{cs:List G}{A:Prop}(h:Zfm n cs A)(hb:To n=true→Av G.pure cs=true):Av G.pure cs=true∧A:=by
 unfold Zfm at h
 split at h
 ·split at h
  ·next h1=>exact⟨h1,h⟩
  ·exact h.elim
 ·next hn=>exact⟨hb hn,h⟩
theorem Zd {x:Value}(h:x.oneCell'=true):x.cells=#[x]:=by cases x<;>first | rfl | cases h
theorem Hg {K:List G→Prop}(h:G5 own g K)(hg:TRep I V g y)(hH:Has I V own w):∃cs,K cs∧PW (CRep I V) cs y.cells.toList∧(∀cs',y=.agg cs'→cs'.toList=y.cells.toList):=by
 cases g with
 | agg l =>
  cases(show VRep I (.agg l) y from hg) with
  | agg l cs hl hh=>exact⟨l,h,(⟨hl,fun j g u h1 h2=>.of_v (hh j g u h1 h2)⟩:PW (CRep I V) l cs),fun cs' e=>by cases e;rfl⟩
 | oag l =>
  obtain⟨cs,rfl,hp⟩:=(show TRep1 I V (.oag l) y from hg)
  exact⟨l,h,by simpa [Value.cells] using hp,fun cs' e=>by cases e;rfl⟩
 | tup l=>exact h.elim
 | elp r o=>exact h.elim
 | oel k i s o=>exact h.elim
 | orv k i s o l c=>exact h.elim
 | un=>exact h.elim
 | clo f a c=>exact h.elim
 | mp k=>obtain⟨hk,rfl⟩:=(show CRep I V (.mp k) y from hg);exact⟨_,h,by simpa [Value.cells] using PW.cons (g:=.mp k) ⟨hk,rfl⟩ .nil,fun cs' e=>by cases e⟩
 | v z =>
  cases(show VRep I (.v z) y from hg)
  unfold G5 at h;dsimp only at h
  split at h
  ·next h1=>exact⟨_,h,by rw[Zd h1];exact PW.cons (.of_v (.v _)) .nil,fun cs' e=>by subst e;cases h1⟩
  ·exact h.elim
 | tt=>cases(show VRep I .tt y from hg);exact⟨_,h,by simpa [Value.cells] using PW.cons (.of_v .tt) .nil,fun cs' e=>by cases e⟩
 | ff=>cases(show VRep I .ff y from hg);exact⟨_,h,by simpa [Value.cells] using PW.cons (.of_v .ff) .nil,fun cs' e=>by cases e⟩
 | nl=>cases(show VRep I .nl y from hg);exact⟨_,h,by simpa [Value.cells] using PW.cons (.of_v .nl) .nil,fun cs' e=>by cases e⟩
 | ptr k o=>obtain⟨hk,rfl⟩:=(show CRep I V (.ptr k o) y from hg);exact⟨_,h,by simpa [Value.cells] using PW.cons (g:=.ptr k o) ⟨hk,rfl⟩ .nil,fun cs' e=>by cases e⟩
 | sl l =>
  have h1:=(show VRep I (.sl l) y from hg)
  have h2:=h1
  cases h2 with
  | sl l A c sz u hc hA hz hh hu=>exact⟨[.sl l],h,by simpa [Value.cells] using PW.cons (.of_v h1) .nil,fun cs' e=>by cases e⟩
 | osl k =>
  obtain⟨hk,rfl⟩:=(show CRep I V (.osl k) y from hg)
  unfold G5 at h;dsimp only at h
  split at h
  ·next rows e sz hr =>
   obtain⟨-,rs,h2,-⟩:=hH.each k _ hr
   have h3:∃A n c,V.s k=.slice A n c:=by
    rcases h2.2 with⟨e,-⟩ | ⟨g,cap,cur,e,-⟩
    ·exact⟨_,_,_,e⟩
    ·exact⟨_,_,_,e⟩
   obtain⟨A,n,c,e⟩:=h3
   exact⟨_,h,by rw[e];simpa [Value.cells] using PW.cons (g:=.osl k) (l:=[]) (P:=CRep I V) ⟨hk,e.symm⟩ .nil,fun cs' e'=>by rw[e] at e';cases e'⟩
  ·next rows sz hr =>
   obtain⟨-,h1,-⟩:=hH.each k _ hr
   have h2:=h1
   generalize V.s k=z at h1 h2
   cases h2 with
   | sl l A c sz u hc hA hz hh hu=>exact⟨[.sl rows],h,by simpa [Value.cells] using PW.cons (.of_v h1) .nil,fun cs' e=>by cases e⟩
  ·next rows e sz hr =>
   obtain⟨-,rs,h2,-⟩:=hH.each k _ hr
   have h3:∃A n c,V.s k=.slice A n c:=by
    rcases h2.2 with⟨e,-⟩ | ⟨g,q,cap,cur,e,-⟩
    ·exact⟨_,_,_,e⟩
    ·exact⟨_,_,_,e⟩
   obtain⟨A,n,c,e⟩:=h3
   exact⟨_,h,by rw[e];simpa [Value.cells] using PW.cons (g:=.osl k) (l:=[]) (P:=CRep I V) ⟨hk,e.symm⟩ .nil,fun cs' e'=>by rw[e] at e';cases e'⟩
  ·exact h.elim
 | osv k sz lo hi =>
  obtain⟨hk,hb,rfl⟩:=(show k < V.n∧(lo≤hi∧hi≤Mf (V.s k))∧y=Hc sz (V.s k) lo hi from hg)
  unfold G5 at h;dsimp only at h
  split at h
  ·next rows e sz' hr =>
   obtain⟨-,rs,h2,-⟩:=hH.each k _ hr
   have h3:∃A n c,V.s k=.slice A n c:=by
    rcases h2.2 with⟨e,-⟩ | ⟨g,cap,cur,e,-⟩
    ·exact⟨_,_,_,e⟩
    ·exact⟨_,_,_,e⟩
   obtain⟨A,n,c,e⟩:=h3
   exact⟨_,h,PW.cons (g:=.osv k sz lo hi) (l:=[]) (P:=CRep I V) (cs:=[]) (x:=Hc sz (V.s k) lo hi) ⟨hk,hb,rfl⟩ .nil |> fun hp=>(by rw[e] at hp⊢;exact hp),fun cs' e'=>by rw[e] at e';cases e'⟩
  ·next rows e sz' hr =>
   obtain⟨-,rs,h2,-⟩:=hH.each k _ hr
   have h3:∃A n c,V.s k=.slice A n c:=by
    rcases h2.2 with⟨e,-⟩ | ⟨g,q,cap,cur,e,-⟩
    ·exact⟨_,_,_,e⟩
    ·exact⟨_,_,_,e⟩
   obtain⟨A,n,c,e⟩:=h3
   exact⟨_,h,PW.cons (g:=.osv k sz lo hi) (l:=[]) (P:=CRep I V) (cs:=[]) (x:=Hc sz (V.s k) lo hi) ⟨hk,hb,rfl⟩ .nil |> fun hp=>(by rw[e] at hp⊢;exact hp),fun cs' e'=>by rw[e] at e';cases e'⟩
  ·exact h.elim
end
def Nxt (N:Nat)(own0:Os)(I0:Imm)(V0:Va)(w0:World)(K:Ts→Os→Nat→Prop)(next:Act→World→Prop):Prop :=
 ∀t own I V a w,K t own V.n→Since own0 I0 V0 w0 own I V w→ARep N I V a t→next a w
def Agree (V:Va)(XL:List Nat)(w u:World):Prop:=∀b,b < w.heap.size→(∀k∈XL,¬V.f k b)→u.heap[b]?=w.heap[b]?
def Va.kp (V V':Va):Prop:=∀k,k < V.n→∀b,V'.f k b→V.f k b
theorem Va.kp.refl (V:Va):V.kp V:=fun _ _ _ h=>h
theorem Va.kp.trans {V V' V'':Va}(h:V.kp V')(hn:V.n≤V'.n)(h':V'.kp V''):V.kp V'':=fun k hk b hb=>h k hk b (h' k (ap hk hn) b hb)
theorem Va.kp.push (V:Va)(b:Nat)(s:Value)(f:Nat→Prop):V.kp (V.push b s f):=fun k hk b hb=>by simpa [Va.push,Nat.ne_of_lt hk] using hb
theorem Va.kp.drop (V:Va)(k:Nat):V.kp (V.drop k):=fun j _ b hb=>by
 change (if j=k then fun _=>False else V.f j) b at hb
 split at hb
 ·exact hb.elim
 ·exact hb
def QOk (S:World→Prop)(P:Program)(I:Imm)(V:Va)(own:Os)(_:World)(a:Act)(t:Ts)(o:Oper)(K:Ts→Os→Nat→Prop):Prop :=
 ∃g y,K (put o.dst g t) own V.n∧TRep I V g y∧∀u,S u→(execOp a.eval o).run P u=.ok (.value y) u
def NxtB (N:Nat)(own:Os)(I:Imm)(V:Va)(w:World)(K:Ts→Os→Nat→Prop)(next:Act→World→Prop):Prop :=
 ∀t own' I' V' a w',K t own' V'.n→Later own I V w own' I' V' w'→Below w.heap.size w w'→V.kp V'→ARep N I' V' a t→next a w'
section
variable {P:Program} {tb:List (Nat × TI)} {N:Nat} {I I' I0:Imm} {V V' V0:Va} {a:Act} {t:Ts} {own own' own0:Os} {w w' w0:World} {x:Operand} {g:G} {y:Value} {d:Option Tmp} {o:Oper}
variable {K:Ts→Os→Nat→Prop} {next:Act→World→Prop} {Q:Exit→Act→World→Prop}
theorem fin (hK:Nxt N own0 I0 V0 w0 K next)(hL:Since own0 I0 V0 w0 own I V w)(ha:ARep N I V a t)(hd:∀i,o.dst=some i→i < N)
  (hr:(execOp a.eval o).run P w=.ok (.value y) w') (hl:Later own I V w own' I' V' w') (hy:TRep I' V' g y) (hk:K (put o.dst g t) own' V'.n):o.wp P a w next Q:=by
 unfold Oper.wp
 rw[hr]
 exact hK _ _ _ _ _ _ hk (hL.trans hl) ((ha.mono hl.fro.mono hl.va).put hd hy)
theorem QOk.wp {S:World→Prop}(h:QOk S P I V own w a t o K)(hS:S w)(hK:Nxt N own0 I0 V0 w0 K next)(hL:Since own0 I0 V0 w0 own I V w)(ha:ARep N I V a t)(hd:∀i,o.dst=some i→i < N):o.wp P a w next Q:=by
 obtain⟨g,y,hk,hy,hr⟩:=h
 exact fin hK hL ha hd (hr w hS) (.refl hL.has) hy hk
theorem Tm (hK:NxtB N own I V w K next)(ha:ARep N I V a t)(hd:∀i,o.dst=some i→i < N)
  (hr:(execOp a.eval o).run P w=.ok (.value y) w') (hl:Later own I V w own' I' V' w') (hb:Below w.heap.size w w') (hkp:V.kp V') (hy:TRep I' V' g y) (hk:K (put o.dst g t) own' V'.n):o.wp P a w next Q:=by
 unfold Oper.wp
 rw[hr]
 exact hK _ _ _ _ _ _ hk hl hb hkp ((ha.mono hl.fro.mono hl.va).put hd hy)
theorem NxtB.of (hK:Nxt N own0 I0 V0 w0 K next)(hL:Since own0 I0 V0 w0 own I V w):NxtB N own I V w K next:=fun _ _ _ _ _ _ hk hl _ _ ha=>hK _ _ _ _ _ _ hk (hL.trans hl) ha
theorem Vh (hK:Nxt N own0 I0 V0 w0 K next)(hL:Since own0 I0 V0 w0 own I V w)(ha:ARep N I V a t)(hd:∀i,o.dst=some i→i < N)
  (hr:(execOp a.eval o).run P w=.ok .skip w') (hl:Later own I V w own' I' V' w') (hk:K (put o.dst .un t) own' V'.n):o.wp P a w next Q:=by
 unfold Oper.wp
 rw[hr]
 exact hK _ _ _ _ _ _ hk (hL.trans hl) ((ha.mono hl.fro.mono hl.va).put hd (.of_v .un))
theorem Agree.cell {XL:List Nat}{u:World}(h:Agree V XL w u){b o:Nat}{v:Value}(hc:w.cell? ⟨b,o,none⟩=some v)(hX:∀k∈XL,¬V.f k b):u.cell? ⟨b,o,none⟩=some v:=by
 have hlt:=World.block_lt_of_cell? w ⟨b,o,none⟩ hc
 rw[World.cell?_of_block (w:=w) (w':=u) (a:=⟨b,o,none⟩) (h b hlt hX)]
 exact hc
theorem C7 (b o k:Nat):(⟨b,o,none⟩:Addr).add k=⟨b,o+k,none⟩:=by unfold Addr.add;split<;>simp_all
theorem Kv {ft:TypeId}{i:TI}(h:TIok P ft i)(cs:List Value)(off:Nat)(w:World):(part ft cs.toArray off).run P w =
  if i.agg=true then .ok (.agg ((cs.drop off).take i.zero.length).toArray) w else(match cs[off]? with | some v=>.ok v w | none=>.halt (.stuck "part: no such cell") w):=by
 unfold part
 have hs:=Bg (P:=P) h.size w
 simp only[Sem.run_bind,Gg h.agg,Result.andThen_ok]
 cases i.agg with
 | true=>simp[hs,Result.andThen]
 | false=>simp;split<;>simp_all [Go.stuck]
theorem Z0n {ty:TypeId}{i:TI}(h:TIok P ty i)(hb:i.agg=true){b off:Nat}{cs:List Value}(hl:cs.length=i.zero.length)(hc:∀(j:Nat) v,cs[j]?=some v→w.cell? ⟨b,off+j,none⟩=some v) :
  (Instr.loadAt ty (.pointer (some ⟨b,off,none⟩))).run P w=.ok (.agg cs.toArray) w:=by
 have:=D3 (P:=P) (w:=w) (g:=b) (k:=off) (ty:=ty) (cs:=cs) (by rw[h.agg,hb]) (by rw[h.size,hl]) hc
 simp only[Instr.loadAt,Instr.sureAddr,Sem.run_bind,Sem.run_pure,Result.andThen_ok,this]
theorem Z7v {ty:TypeId}{i:TI}(h:TIok P ty i)(hb:i.agg=false){b off:Nat}{v:Value}(hc:w.cell? ⟨b,off,none⟩=some v) :
  (Instr.loadAt ty (.pointer (some ⟨b,off,none⟩))).run P w=.ok v w:=by
 simp only[Instr.loadAt,Instr.sureAddr,loadVar,Sem.run_bind,Sem.run_pure,Result.andThen_ok,Gg (P:=P) (show Qu P ty=some false by rw[h.agg,hb]),run_load,hc,Bool.false_eq_true,if_false]
theorem Zec {row:List G}{b o:Nat}(h:∀(j:Nat) g,row[j]?=some g→∃u,I b (o+j)=some u∧VRep I g u):∃us,PW (VRep I) row us∧∀(j:Nat) u,us[j]?=some u→I b (o+j)=some u:=by
 refine⟨(List.range row.length).map fun j=>(I b (o+j)).getD undef,⟨by simp,fun j g u hg hu=>?_⟩,fun j u hu=>?_⟩
 ·have hj:=(ac.1 hg).1
  rw[aj,cp hj] at hu
  obtain⟨v,h1,h2⟩:=h j g hg
  simp[h1] at hu
  subst hu
  exact h2
 ·have hj:j < row.length:=by have:=(ac.1 hu).1;simpa using this
  rw[aj,cp hj] at hu
  obtain⟨v,h1,h2⟩:=h j row[j] (ab hj)
  simp[h1] at hu
  subst hu
  exact h1
theorem Im {cs:List Value}{k n j:Nat}{v:Value}(h:((cs.drop k).take n)[j]?=some v):cs[k+j]?=some v:=by
 rw[bi] at h
 split at h
 ·rw[bu] at h;exact h
 ·cases h
theorem Zgd {l:List G}{cs:List Value}(h:PW (VRep I) l cs):VRep I (.agg l) (.agg cs.toArray):=.agg l cs h.1 h.2
theorem Ng (hH:Has I V own w){k e sz:Nat}{rows:List (List G)}(hk:look k own=some (.slc rows e sz)){b n c:Nat}(hs:V.s k=.slice (some ⟨b,0,none⟩) n c) :
  ∃rs:List (List Value),∃cur:Array Value,w.heap[b]?=some (.cells cur e (0,0))∧rs.length=rows.length∧(∀(i:Nat) r u,rows[i]?=some r→rs[i]?=some u→PW (VRep I) r u)∧(∀u∈rs,u.length=sz)∧(∀u∈rs,∀x∈u,x.oneCell'=true)∧n=rows.length∧n≤c∧c≤maxLen∧cur.size=c * sz∧cur.toList.take (n * sz)=rs.flatten∧∀i u j x,rs[i]?=some u→u[j]?=some x→w.cell? ⟨b,i * sz+j,none⟩=some x:=by
 obtain⟨-,rs,⟨h0,h1⟩,h2,h3,h4,h5,h6⟩:=hH.each k _ hk
 rcases h1 with⟨e1,-⟩ | ⟨g,cap,cur,e1,-,hg,hn,hm,hc,ht⟩
 ·rw[hs] at e1;cases e1
 ·rw[hs] at e1
  injection e1 with e1 e2 e3
  injection e1 with e1
  injection e1 with e1
  subst e1 e2 e3
  refine⟨rs,cur,hg,h2,h3,h4,h5,rfl,hn,hm,hc,ht,fun i u j x hu hx=>?_⟩
  rw[cell_of_row w b _ cur e (0,0) hg]
  have:=D1 h4 hu hx
  rw[←ht,bi] at this
  split at this
  ·simpa using this
  ·cases this
theorem Z50 (hH:Has I V own w){k e sz:Nat}{rows:List (List G)}(hk:look k own=some (.slc rows e sz)){b q n c:Nat}(hs:V.s k=.slice (some ⟨b,q,none⟩) n c):q=0:=by
 obtain⟨-,rs,⟨h0,h1⟩,-⟩:=hH.each k _ hk
 rcases h1 with⟨e1,-⟩ | ⟨g,cap,cur,e1,-⟩
 ·rw[hs] at e1;cases e1
 ·rw[hs] at e1
  injection e1 with e1 e2 e3
  injection e1 with e1
  injection e1
theorem Ze7 (hH:Has I V own w){k e sz:Nat}{rows:List (List G)}(hk:look k own=some (.vw rows e sz)){b q n c:Nat}(hs:V.s k=.slice (some ⟨b,q,none⟩) n c) :
  ∃rs:List (List Value),∃cur:Array Value,w.heap[b]?=some (.cells cur e (0,0))∧rs.length=rows.length∧(∀(i:Nat) r u,rows[i]?=some r→rs[i]?=some u→PW (VRep I) r u)∧(∀u∈rs,u.length=sz)∧(∀u∈rs,∀x∈u,x.oneCell'=true)∧n=rows.length∧n≤c∧c≤maxLen∧q+c * sz≤cur.size∧(cur.toList.drop q).take (n * sz)=rs.flatten∧∀(i:Nat) u (j:Nat) x,rs[i]?=some u→u[j]?=some x→w.cell? ⟨b,q+i * sz+j,none⟩=some x:=by
 obtain⟨-,rs,⟨h0,h1⟩,h2,h3,h4,h5,h6⟩:=hH.each k _ hk
 rcases h1 with⟨e1,-⟩ | ⟨g,q',cap,cur,e1,hg,hn,hm,hc,ht⟩
 ·rw[hs] at e1;cases e1
 ·rw[hs] at e1
  injection e1 with e1 e2 e3
  injection e1 with e1
  injection e1 with e1 e4
  subst e1 e2 e3 e4
  refine⟨rs,cur,hg,h2,h3,h4,h5,rfl,hn,hm,hc,ht,fun i u j x hu hx=>?_⟩
  rw[cell_of_row w b _ cur e (0,0) hg]
  have:=D1 h4 hu hx
  rw[←ht,bi] at this
  split at this
  ·rw[bu] at this
   rw[cu]
   simpa using this
  ·cases this
theorem P8 {base e sz n:Nat}{v:Value}{xs:List Value}(h:w.ownsRow base e sz v n xs):Dg w e sz v n xs:=by
 refine⟨h.1,?_⟩
 rcases h.2 with h0 | ⟨g,cap,cur,e1,-,hg,hn,hm,hc,ht⟩
 ·exact .inl h0
 ·exact .inr ⟨g,0,cap,cur,e1,hg,hn,hm,by rw[hc];omega,by rw[List.drop_zero];exact ht⟩
end
theorem Ca:∀{l:List Nat} {k:Nat},Fz k l=true↔k∈l
 | [],k=>by simp[Fz]
 | j::l,k=>by
  unfold Fz
  have ih:=Ca (l:=l) (k:=k)
  by_cases h:k=j
  ·subst h;simp[Nat.beq_refl]
  ·have h2:Nat.beq k j=false:=by
    cases hb:Nat.beq k j with
    | false=>rfl
    | true=>exact dc (ai hb) h
   simp[h2,ih,h]
section
variable {P:Program} {tb:List (Nat × TI)} {N n:Nat} {I I' I0:Imm} {V V' V0:Va} {a:Act} {t:Ts} {own own' own0:Os} {w w' w0:World} {g:G} {y:Value} {d:Option Tmp}
variable {XL:List Nat} {S:World→Prop} {K:Ts→Os→Nat→Prop} {next:Act→World→Prop} {Q:Exit→Act→World→Prop} {o:Oper}
variable (hT:∀t i,look t tb=some i→TIok P t i) (hK:NxtB N own I V w K next) (hH:Has I V own w) (ha:ARep N I V a t) (hd:∀i,o.dst=some i→i < N)
include hH ha in
theorem Z78 {x:Operand}(ho:o.op=.move x∨o.op=.assign x)(h:ev t own x fun g=>K (put o.dst g t) own V.n):QOk S P I V own w a t o K:=by
 obtain⟨g,hk,hg⟩:=B0 h ha hH
 refine⟨_,_,hk,hg,fun u _=>?_⟩
 rcases ho with ho | ho<;>simp only[execOp,ho,Sem.run_pure]
include hK hH ha hd in
theorem Zdj {e sz:Nat}(hz:0 < sz)(ho:o.op=.assign (.const (.slice none 0 0)))(h:K (put o.dst (.osl V.n) t) ((V.n,.slc [] e sz)::own) (V.n+1)):o.wp P a w next Q:=by
 refine Tm (g:=.osl V.n) (y:=.slice none 0 0) hK ha hd (w':=w) (by simp only[execOp,ho,Sem.run_pure];rfl) (Df (r:=.slc [] e sz) hH (Below.refl _ _) 0 (.slice none 0 0) (fun _=>False) (fun k h=>h.elim) ⟨?_,[],?_,rfl,?_,by simp,by simp,hz⟩) (Below.refl _ _) (.push _ _ _ _) (TRep.of_c (g:=.osl V.n) ⟨ct _,by simp[Va.push]⟩) h
 ·intro b;simp[Va.push,Value.ownBlock]
 ·simp[Va.push];exact World.ownsRow_nil w 0 e sz
 ·intro i r u hr;simp at hr
include hH ha in
theorem Zcd {c x y:Operand}(ho:o.op=.pick c x y)(h:ev t own c fun g=>match g with
  | .tt=>ev t own x fun g=>K (put o.dst g t) own V.n
  | .ff=>ev t own y fun g=>K (put o.dst g t) own V.n
  | .v (.bool c)=>EvIf c (ev t own x fun g=>K (put o.dst g t) own V.n) (ev t own y fun g=>K (put o.dst g t) own V.n)
  | _=>False):QOk S P I V own w a t o K:=by
 obtain⟨g,hk,hg⟩:=B0 h ha hH
 have key:∀b,a.eval c=.bool b→(ev t own (if b=true then x else y) fun g=>K (put o.dst g t) own V.n)→QOk S P I V own w a t o K:=fun b hb h=>by
  obtain⟨g,hk,hg⟩:=B0 h ha hH
  refine⟨_,a.eval (if b=true then x else y),hk,hg,fun u _=>?_⟩
  cases b<;>simp[execOp,ho,hb,asBool]
 cases g with
 | tt=>exact key true (by generalize a.eval c=z at hg;cases(show VRep I .tt z from hg);rfl) hk
 | ff=>exact key false (by generalize a.eval c=z at hg;cases(show VRep I .ff z from hg);rfl) hk
 | v z =>
  have e:a.eval c=z:=by generalize a.eval c=u at hg;cases(show VRep I (.v z) u from hg);rfl
  cases z with
  | bool b =>
   cases b with
   | true=>exact key true e (hk.1 rfl)
   | false=>exact key false e (hk.2 rfl)
  | _=>exact hk.elim
 | _=>exact hk.elim
theorem Tq {I:Imm}{V:Va}{w':World}{b:Nat}{cs:List G}{us:List Value}{ty:TypeId}(hn:w'.heap[b]?=some (.cells us.toArray ty (0,0)))(hp:PW (CRep I V) cs us):RRep I (V.push b undef (·=b)) V.n w' (.blk cs ty):=by
 refine⟨fun c=>by simp[Va.push],us,by simpa [Va.push] using hn,hp.mono fun _ _ h=>h.mono (.refl _) (V.push_le _ _ _)⟩
theorem Z2n {i:TI}{ty:TypeId}(h:TIok P ty i):PW (CRep I V) i.zero (i.zero.map G.val):=by
 refine⟨by simp,fun j g u hg hu=>?_⟩
 rw[aj,hg] at hu
 simp at hu
 subst hu
 have:=Ac h.zok g (ae hg)
 cases g<;>first | exact .of_v (.v _) | exact .of_v .ff | exact .of_v .nl | cases this
include hT hK hH ha hd in
theorem Z4k {ty:TypeId}(ho:o.op=.alloc ty)(h:match look ty tb with
  | some i=>K (put o.dst (.ptr V.n 0) t) ((V.n,.blk i.zero ty)::own) (V.n+1)
  | none=>False):o.wp P a w next Q:=by
 cases hl:look ty tb with
 | none=>rw[hl] at h;exact h.elim
 | some i =>
  rw[hl] at h
  have hi:=hT ty i hl
  obtain⟨z,hz1,hz2⟩:=ax.1 hi.zero
  obtain⟨j,hj1,hj2⟩:=Option.bind_eq_some_iff.1 hz1
  have hzv:(zeroValue ty).run P w=.ok z w:=by simp[zeroValue,typeInfo,hj1,hj2]
  have e:z.cells=(i.zero.map G.val).toArray:=by rw[←hz2]
  refine Tm (g:=.ptr V.n 0) (y:=.pointer (some ⟨w.heap.size,0,none⟩)) hK ha hd (w':=w.alloc (.cells (i.zero.map G.val).toArray ty)) ?_ (Df hH ((Below.refl _ _).alloc (af _) _) w.heap.size undef (·=w.heap.size) (fun k e=>⟨Nat.le_of_eq e.symm,by subst e;simp⟩) (Tq (heap_alloc_new _ _) (Z2n hi))) ((Below.refl _ _).alloc (af _) _) (.push _ _ _ _) (TRep.of_c (g:=.ptr V.n 0) ⟨ct _,by simp[Va.push]⟩) h
  simp only[execOp,ho,Sem.run_bind,Instr.alloc,hzv,newVar,newRow,run_newObj_alloc,Sem.run_pure,Result.andThen_ok,e]
include hK hH ha hd in
theorem Zep {ty:TypeId}{x:Operand}(ho:o.op=.box ty x)(h:ev t own x fun g=>G5 own g fun cs=>K (put o.dst (.ptr V.n 0) t) ((V.n,.blk cs ty)::own) (V.n+1)):o.wp P a w next Q:=by
 obtain⟨g,hk,hg⟩:=B0 h ha hH
 obtain⟨cs,hk,hp,-⟩:=Hg hk hg hH
 refine Tm (g:=.ptr V.n 0) (y:=.pointer (some ⟨w.heap.size,0,none⟩)) hK ha hd (w':=w.alloc (.cells (a.eval x).cells.toList.toArray ty)) ?_ (Df hH ((Below.refl _ _).alloc (af _) _) w.heap.size undef (·=w.heap.size) (fun k e=>⟨Nat.le_of_eq e.symm,by subst e;simp⟩) (Tq (heap_alloc_new _ _) hp)) ((Below.refl _ _).alloc (af _) _) (.push _ _ _ _) (TRep.of_c (g:=.ptr V.n 0) ⟨ct _,by simp[Va.push]⟩) hk
 simp only[execOp,ho,Sem.run_bind,Instr.box,newVar,newRow,run_newObj_alloc,Sem.run_pure,Result.andThen_ok,Array.toArray_toList]
theorem Lv (hH:Has I V own w){k:Nat}{cs:List G}{ty:TypeId}(hk:look k own=some (.blk cs ty)):∃us:List Value,w.heap[V.b k]?=some (.cells us.toArray ty (0,0))∧PW (CRep I V) cs us∧∀j,w.cell? ⟨V.b k,j,none⟩=us[j]?:=by
 obtain⟨-,us,h1,h2⟩:=hH.each k _ hk
 exact⟨us,h1,h2,fun j=>by rw[cell_of_row w _ j _ ty (0,0) h1];simp⟩
theorem C4 {k off:Nat}(h:TRep I V (.ptr k off) y):k < V.n∧y=.pointer (some ⟨V.b k,off,none⟩):=h
theorem Ov {row:List G}{off:Nat}(h:TRep I V (.elp row off) y):∃b o,y=.pointer (some ⟨b,o+off,none⟩)∧∀(j:Nat) g,row[j]?=some g→∃u,I b (o+j)=some u∧VRep I g u:=h
theorem Kt {k i sz off:Nat}(h:TRep I V (.oel k i sz off) y):k < V.n∧∃b q n c,V.s k=.slice (some ⟨b,q,none⟩) n c∧y=.pointer (some ⟨b,q+(i * sz+off),none⟩):=h
theorem As {z:Value}(h:TRep I V (.v z) y):y=z:=by cases(show VRep I (.v z) y from h);rfl
theorem Z1a {ty:TypeId}{i:TI}(hi:TIok P ty i){row:List G}{us:List Value}(hp:PW (VRep I) row us){b q off:Nat}(_:∀(j:Nat) v,us[j]?=some v→w.cell? ⟨b,q+j,none⟩=some v){K1:G→Prop}
  (h:match i.agg with
   | true=>seg row off i.zero.length fun l=>K1 (.agg l)
   | false=>match nth row off with
    | some g=>K1 g
    | none=>False):∃g v,K1 g∧VRep I g v∧∀u,(∀(j:Nat) v,us[j]?=some v→u.cell? ⟨b,q+j,none⟩=some v)→(Instr.loadAt ty (.pointer (some ⟨b,q+off,none⟩))).run P u=.ok v u:=by
 cases hb:i.agg with
 | true =>
  rw[hb] at h
  obtain⟨l,h1,h2,-⟩:=Lr h hp
  have hl:((us.drop off).take i.zero.length).length=i.zero.length:=by
   rcases Nat.eq_zero_or_pos i.zero.length with h0 | h0
   ·rw[h0];simp
   ·have:=Oc h hp h0;simp;omega
  exact⟨_,_,h1,Zgd h2,fun u hc=>Z0n hi hb hl fun j v hv=>by rw[cu];exact hc _ _ (Im hv)⟩
 | false =>
  rw[hb,E7] at h
  dsimp only at h
  cases hr:row[off]? with
  | none=>rw[hr] at h;exact h.elim
  | some g =>
   rw[hr] at h
   obtain⟨v,hv,hg⟩:=hp.get hr
   exact⟨g,v,h,hg,fun u hc=>Z7v hi hb (hc _ _ hv)⟩
theorem Sw {Q:G→Value→Prop}:∀{rows:List (List G)} {rs:List (List Value)},rs.length=rows.length→(∀(i:Nat) r u,rows[i]?=some r→rs[i]?=some u→PW Q r u)→PW Q rows.flatten rs.flatten
 | [],rs,h,_=>by
  have:rs=[]:=al (by simpa using h)
  subst this;exact .nil
 | r::rows,rs,h,hp=>by
  cases rs with
  | nil=>simp at h
  | cons u rs =>
   rw[b7,b7]
   exact(hp 0 r u rfl rfl).append (Sw (by simpa using h) fun i r u h1 h2=>hp (i+1) r u (by simpa using h1) (by simpa using h2))
include hT hH ha in
theorem Zeq (hXL:∀k∈XL,∃r,look k own=some r)(hS:∀u,S u→Agree V XL w u){ty:TypeId}{x:Operand}(ho:o.op=.load ty x)(h:ev t own x fun g=>match look ty tb with
  | none=>False
  | some i=>match g with
   | .ptr k off=>match look k own,Fz k XL with
    | some (.blk cs _),false=>match i.agg with
     | true=>seg cs off i.zero.length fun l=>Iv i.zero.length l fun g=>K (put o.dst g t) own V.n
     | false=>match nth cs off with
      | some g=>K (put o.dst g t) own V.n
      | none=>False
    | some (.lnk j),false=>match look j own,Fz j XL,i.agg with
     | some (.slc rows _ 1),false,true=>Et (off+i.zero.length≤rows.length∧∀r∈rows,∀g∈r,g.pure=true) (K (put o.dst (.agg ((rows.flatten.drop off).take i.zero.length)) t) own V.n)
     | _,_,_=>False
    | _,_=>False
   | .elp row off=>match i.agg with
     | true=>seg row off i.zero.length fun l=>K (put o.dst (.agg l) t) own V.n
     | false=>match nth row off with
      | some g=>K (put o.dst g t) own V.n
      | none=>False
   | .oel k j sz off=>match look k own,Fz k XL with
    | some (.slc rows _ sz'),false=>match Nat.beq sz sz' with
     | true=>EvIdx rows j fun row=>match i.agg with
      | true=>seg row off i.zero.length fun l=>K (put o.dst (.agg l) t) own V.n
      | false=>match nth row off with
       | some g=>K (put o.dst g t) own V.n
       | none=>False
     | false=>False
    | some (.vw rows _ sz'),false=>match Nat.beq sz sz' with
     | true=>EvIdx rows j fun row=>match i.agg with
      | true=>seg row off i.zero.length fun l=>K (put o.dst (.agg l) t) own V.n
      | false=>match nth row off with
       | some g=>K (put o.dst g t) own V.n
       | none=>False
     | false=>False
    | _,_=>False
   | _=>False):QOk S P I V own w a t o K:=by
 obtain⟨g,hk,hg⟩:=B0 h ha hH
 cases hl:look ty tb with
 | none=>rw[hl] at hk;exact hk.elim
 | some i =>
  rw[hl] at hk
  have hi:=hT ty i hl
  have run:∀{u v},(Instr.loadAt ty (a.eval x)).run P u=.ok v u→(execOp a.eval o).run P u=.ok (.value v) u:=fun hr=>by
   simp only[execOp,ho,Sem.run_bind,hr,Result.andThen_ok,Sem.run_pure]
  have nX:∀{b k},(∃r,look k own=some r)→V.f k b→k ∉ XL→∀k'∈XL,¬V.f k' b:=fun {b k} ⟨r,hr⟩ hf hk k' hk' h2=>by
   obtain⟨r',h'⟩:=hXL k' hk'
   exact hk (hH.disj k k' r _ b hr h' hf h2 ▸ hk')
  dsimp only at hk
  cases g with
  | ptr k off =>
   obtain⟨hkn,he⟩:=C4 hg
   dsimp only at hk
   cases hr:look k own with
   | none=>rw[hr] at hk;exact hk.elim
   | some r =>
    rw[hr] at hk
    cases r with
    | blk cs t' =>
     cases hm:Fz k XL with
     | true=>rw[hm] at hk;exact hk.elim
     | false =>
     rw[hm] at hk
     have hnm:k ∉ XL:=fun h=>by rw[Ca.2 h] at hm;cases hm
     obtain⟨us,h1,h2,h3⟩:=Lv hH hr
     have hlt:V.b k < w.heap.size:=(bo.1 h1).1
     have hcl:∀u,Agree V XL w u→∀j,u.cell? ⟨V.b k,j,none⟩=w.cell? ⟨V.b k,j,none⟩:=fun u hu j=>World.cell?_of_block (w:=w) (hu _ hlt (nX ⟨_,hr⟩ (((hH.each k _ hr).1 _).2 rfl) hnm))
     dsimp only at hk
     cases hb:i.agg with
     | true =>
      rw[hb] at hk
      obtain⟨l,k1,k2,-⟩:=Lr hk h2
      obtain⟨g',k3,k4⟩:=Ja k1 k2
      have hlen:((us.drop off).take i.zero.length).length=i.zero.length:=by
       rcases Nat.eq_zero_or_pos i.zero.length with h0 | h0
       ·rw[h0];simp
       ·have:=Oc hk h2 h0;simp;omega
      exact⟨_,_,k3,k4,fun u hu=>run (by rw[he];exact Z0n hi hb hlen fun j v hv=>by rw[hcl u (hS u hu),h3];exact Im hv)⟩
     | false =>
      rw[hb,E7] at hk
      dsimp only at hk
      cases hc:cs[off]? with
      | none=>rw[hc] at hk;exact hk.elim
      | some g' =>
       rw[hc] at hk
       obtain⟨v,hv,hgv⟩:=h2.get hc
       exact⟨_,_,hk,.of_c hgv,fun u hu=>run (by rw[he];exact Z7v hi hb (by rw[hcl u (hS u hu),h3];exact hv))⟩
    | lnk j =>
     obtain⟨-,hjn,m,hsj⟩:=hH.each k _ hr
     cases hm:Fz k XL with
     | true=>rw[hm] at hk;exact hk.elim
     | false =>
     rw[hm] at hk
     dsimp only at hk
     split at hk
     ·next rows e hrj hmj hag =>
      have hnj:j ∉ XL:=fun h=>by rw[Ca.2 h] at hmj;cases hmj
      obtain⟨⟨hfit,hpur⟩,hk⟩:=hk
      obtain⟨rs,cur,hcur,h2,h3,h4,-,-,-,-,-,-,h5⟩:=Ng hH hrj hsj
      have hlb:V.b k < w.heap.size:=(bo.1 hcur).1
      have hfl:PW (VRep I) rows.flatten rs.flatten:=Sw h2 h3
      have hlen:((rs.flatten.drop off).take i.zero.length).length=i.zero.length:=by
       rw[au,ba,B6 h4];omega
      have hcell:∀u,S u→∀(n:Nat) v,((rs.flatten.drop off).take i.zero.length)[n]?=some v→u.cell? ⟨V.b k,off+n,none⟩=some v:=fun u hu n v hv=>by
       have h6:=Im hv
       obtain⟨p,q,y,e1,-,e2,e3⟩:=O1 h4 h6
       rw[e1]
       exact(hS u hu).cell (h5 p y q v e2 e3) (nX ⟨_,hrj⟩ (((hH.each j _ hrj).1 (V.b k)).2 (by rw[hsj];rfl)) hnj)
      exact⟨_,_,hk,.of_v (.agg _ _ (hfl.part off i.zero.length).1 (hfl.part off i.zero.length).2),fun u hu=>run (by rw[he];exact Z0n hi hag hlen (hcell u hu))⟩
     ·exact hk.elim
    | _=>exact hk.elim
  | elp row off =>
   obtain⟨b,q,he,hu⟩:=Ov hg
   obtain⟨us,hp,hc⟩:=Zec hu
   obtain⟨g',v,k1,k2,k3⟩:=Z1a (P:=P) (w:=w) hi hp (K1:=fun g=>K (put o.dst g t) own V.n) (fun j v hv=>hH.mem _ _ _ (hc j v hv)) hk
   exact⟨_,_,k1,.of_v k2,fun u hu=>run (by rw[he];exact k3 u fun m v hv=>(hS u hu).cell (hH.mem _ _ _ (hc m v hv)) (fun k' hk' e=>(by
    obtain⟨r',h'⟩:=hXL k' hk'
    have:=(hH.foot k' _ b h' e).2 (q+m)
    rw[hc m v hv] at this
    cases this)))⟩
  | oel k j sz off =>
   obtain⟨hkn,b,q,n,c,hs,he⟩:=Kt hg
   dsimp only at hk
   cases hr:look k own with
   | none=>rw[hr] at hk;exact hk.elim
   | some r =>
    rw[hr] at hk
    cases r with
    | slc rows e sz' =>
     cases hm:Fz k XL with
     | true=>rw[hm] at hk;exact hk.elim
     | false =>
     rw[hm] at hk
     have hnm:k ∉ XL:=fun h=>by rw[Ca.2 h] at hm;cases hm
     dsimp only at hk
     cases hb:Nat.beq sz sz' with
     | false=>rw[hb] at hk;exact hk.elim
     | true =>
      rw[hb] at hk
      have:=ai hb
      subst this
      obtain⟨⟨-,hlt⟩,hk⟩:=hk
      obtain rfl:=Z50 hH hr hs
      rw[ca] at he
      obtain⟨rs,cur,hcur,h2,h3,h4,-,-,-,-,-,-,h5⟩:=Ng hH hr hs
      have hlb:b < w.heap.size:=(bo.1 hcur).1
      have hj:j < rows.length:=by omega
      have hj':j < rs.length:=by omega
      obtain⟨g',v,k1,k2,k3⟩:=Z1a (P:=P) (w:=w) hi (h3 j _ _ (ab hj) (ab hj')) (b:=b) (q:=j * sz) (off:=off) (K1:=fun g=>K (put o.dst g t) own V.n) (fun m v hv=>h5 j _ m v (ab hj') hv) (hk rows[j] (by simp))
      exact⟨_,_,k1,.of_v k2,fun u hu=>run (by rw[he];exact k3 u fun m v hv=>(hS u hu).cell (h5 j _ m v (ab hj') hv) (nX ⟨_,hr⟩ (((hH.each k _ hr).1 b).2 (by rw[hs];rfl)) hnm))⟩
    | vw rows e sz' =>
     cases hm:Fz k XL with
     | true=>rw[hm] at hk;exact hk.elim
     | false =>
     rw[hm] at hk
     have hnm:k ∉ XL:=fun h=>by rw[Ca.2 h] at hm;cases hm
     dsimp only at hk
     cases hb:Nat.beq sz sz' with
     | false=>rw[hb] at hk;exact hk.elim
     | true =>
      rw[hb] at hk
      have:=ai hb
      subst this
      obtain⟨⟨-,hlt⟩,hk⟩:=hk
      obtain⟨rs,cur,hcur,h2,h3,h4,-,-,-,-,-,-,h5⟩:=Ze7 hH hr hs
      have hlb:b < w.heap.size:=(bo.1 hcur).1
      have hj:j < rows.length:=by omega
      have hj':j < rs.length:=by omega
      have h5:∀(i:Nat) u (m:Nat) v,rs[i]?=some u→u[m]?=some v→w.cell? ⟨b,q+i * sz+m,none⟩=some v:=fun i u m v a b=>h5 i u m v a b
      rw[←cu] at he
      obtain⟨g',v,k1,k2,k3⟩:=Z1a (P:=P) (w:=w) hi (h3 j _ _ (ab hj) (ab hj')) (b:=b) (q:=q+j * sz) (off:=off) (K1:=fun g=>K (put o.dst g t) own V.n) (fun m v hv=>h5 j _ m v (ab hj') hv) (hk rows[j] (by simp))
      exact⟨_,_,k1,.of_v k2,fun u hu=>run (by rw[he];exact k3 u fun m v hv=>(hS u hu).cell (h5 j _ m v (ab hj') hv) (nX ⟨_,hr⟩ (((hH.each k _ hr).1 b).2 (by rw[hs];rfl)) hnm))⟩
    | _=>exact hk.elim
  | _=>exact hk.elim
end
theorem Uz {rs:List (List Value)}{sz:Nat}(h:∀u∈rs,u.length=sz):∀{i:Nat} {u:List Value} (_:rs[i]?=some u) (off:Nat) (ds:List Value) (_:off+ds.length≤sz),
  (rs.set i (u.take off++ds++u.drop (off+ds.length))).flatten=rs.flatten.take (i * sz+off)++ds++rs.flatten.drop (i * sz+off+ds.length):=by
 induction rs with
 | nil=>intro i u hu;simp at hu
 | cons v rs ih =>
  intro i u hu off ds hd
  have hv:=h v (by simp)
  cases i with
  | zero =>
   simp at hu
   subst hu
   simp only[List.set_cons_zero,List.flatten_cons,Nat.zero_mul,Nat.zero_add]
   rw[List.take_append_of_le_length (by omega),List.drop_append_of_le_length (by omega)]
   simp[List.append_assoc]
  | succ i =>
   have:=ih (fun u hu=>h u (by simp[hu])) (i:=i) (u:=u) (by simpa using hu) off ds hd
   simp only[List.set_cons_succ,List.flatten_cons]
   rw[this]
   have e1:(i+1) * sz+off=v.length+(i * sz+off):=by rw[hv,Nat.add_mul];omega
   rw[e1,List.take_length_add_append,cu v.length,List.drop_length_add_append]
   simp[List.append_assoc]
section
variable {P:Program} {tb:List (Nat × TI)} {N n:Nat} {I I' I0:Imm} {V V' V0:Va} {a:Act} {t:Ts} {own own' own0:Os} {w w' w0:World} {g:G} {y:Value} {d:Option Tmp}
variable {XL:List Nat} {S:World→Prop} {K:Ts→Os→Nat→Prop} {next:Act→World→Prop} {Q:Exit→Act→World→Prop} {o:Oper}
theorem Ht {ty:TypeId}{m b off:Nat}(hsz:(P.info? ty).map (·.size)=some m){x:Value}{ds:List Value}(hx:x.cells.toList=ds)(hm:ds.length=m){cur:Array Value}{t':TypeId}(hg:w.heap[b]?=some (.cells cur t' (0,0)))(hfit:off+ds.length≤cur.size)(h1:∀u∈ds,u.oneCell'=true) :
  (Instr.storeAt ty (.pointer (some ⟨b,off,none⟩)) x).run P w=.ok () (w.setRow b (cur.toList.take off++ds++cur.toList.drop (off+ds.length)).toArray):=by
 have hrun:=run_storeCells_at P b off t' ds 0 cur w hg (by simpa using hfit) h1
 simp only[Nat.add_zero] at hrun
 subst hm
 have hsz':x.cells.size=ds.length:=by rw[←hx];simp
 simp only[Instr.storeAt,Instr.sureAddr,storeVar,Sem.run_bind,Sem.run_pure,Result.andThen_ok,Bg hsz,hsz',ne_eq,not_true_eq_false,if_false,hx,hrun]
theorem Z8v {l:List G}{ds:List Value}(hH:Has I V own w)(h:Av (Zbz own) l=true)(hp:PW (CRep I V) l ds):∀u∈ds,u.oneCell'=true:=fun u hu=>by
 obtain⟨j,hj,e⟩:=cf.1 hu
 have hj':j < l.length:=by rw[hp.1];exact hj
 have h1:=Ac h l[j] (bl hj')
 have h2:=hp.2 j l[j] u (ab hj') (by rw[ab hj,e])
 generalize l[j]=g at h1 h2
 cases g with
 | ptr k o=>rw[h2.2];rfl
 | mp k=>rw[h2.2];rfl
 | osl k =>
  rw[h2.2]
  unfold Zbz at h1
  dsimp only at h1
  split at h1
  ·next rows e sz hr =>
   obtain⟨-,rs,h3,-⟩:=hH.each k _ hr
   rcases h3.2 with⟨e,-⟩ | ⟨g,cap,cur,e,-⟩<;>rw[e]<;>rfl
  ·next rows e sz hr =>
   obtain⟨-,rs,h3,-⟩:=hH.each k _ hr
   rcases h3.2 with⟨e,-⟩ | ⟨g,q,cap,cur,e,-⟩<;>rw[e]<;>rfl
  ·cases h1
 | osv k sz' lo hi =>
  rw[h2.2.2]
  unfold Zbz at h1
  dsimp only at h1
  split at h1
  ·next rows e sz hr =>
   obtain⟨-,rs,h3,-⟩:=hH.each k _ hr
   rcases h3.2 with⟨e,-⟩ | ⟨g,cap,cur,e,-⟩<;>rw[e]<;>rfl
  ·next rows e sz hr =>
   obtain⟨-,rs,h3,-⟩:=hH.each k _ hr
   rcases h3.2 with⟨e,-⟩ | ⟨g,q,cap,cur,e,-⟩<;>rw[e]<;>rfl
  ·cases h1
 | v x=>exact M0 (I:=I) h2 h1
 | tt=>exact M0 (I:=I) h2 h1
 | ff=>exact M0 (I:=I) h2 h1
 | nl=>exact M0 (I:=I) h2 h1
 | sl l=>exact M0 (I:=I) h2 h1
 | _=>cases h1
theorem Z7x {K1:List G→Prop}(h:Zd7 g K1)(hg:TRep I V g y):∃l cs,K1 l∧y=.agg cs.toArray∧PW (CRep I V) l cs:=by
 cases g with
 | agg l =>
  cases(show VRep I (.agg l) y from hg) with
  | agg l cs hl hh=>exact⟨l,cs,h,rfl,hl,fun j g u h1 h2=>.of_v (hh j g u h1 h2)⟩
 | oag l =>
  obtain⟨cs,rfl,hp⟩:=(show TRep1 I V (.oag l) y from hg)
  exact⟨l,cs,h,rfl,hp⟩
 | _=>exact False.elim h
variable (hT:∀t i,look t tb=some i→TIok P t i) (hH:Has I V own w) (hK:Nxt N own0 I0 V0 w0 K next) (hL:Since own0 I0 V0 w0 own I V w) (ha:ARep N I V a t) (hd:∀i,o.dst=some i→i < N)
include hT ha
include hH in
theorem Rx {ty:TypeId}{x:Operand}{f:Nat}(ho:o.op=.fieldAddr ty x f)(h:ev t own x fun g=>match look ty tb with
  | none=>False
  | some i=>match nth i.flds f with
   | none=>False
   | some (_,fo)=>match g with
    | .ptr k off=>K (put o.dst (.ptr k (Nat.add off fo)) t) own V.n
    | .elp row off=>K (put o.dst (.elp row (Nat.add off fo)) t) own V.n
    | .oel k j sz off=>K (put o.dst (.oel k j sz (Nat.add off fo)) t) own V.n
    | _=>False):QOk S P I V own w a t o K:=by
 obtain⟨g,hk,hg⟩:=B0 h ha hH
 cases hl:look ty tb with
 | none=>rw[hl] at hk;exact hk.elim
 | some i =>
  rw[hl] at hk
  dsimp only at hk
  rw[E7] at hk
  cases hf:i.flds[f]? with
  | none=>rw[hf] at hk;exact hk.elim
  | some p =>
   obtain⟨ft,fo⟩:=p
   rw[hf] at hk
   dsimp only at hk
   obtain⟨F,hF,hm,hz⟩:=(hT ty i hl).flds (fun e=>by rw[e] at hf;simp at hf)
   rw[←hm,aj] at hf
   obtain⟨fd,hf1,hf2⟩:=ax.1 hf
   injection hf2 with e1 e2
   obtain⟨m,hs⟩:=hz fd (ae hf1)
   have hF2:F[f]?=some fd:=by simpa using hf1
   have run:∀b off,a.eval x=.pointer (some ⟨b,off,none⟩)→∀u:World,(execOp a.eval o).run P u=.ok (.value (.pointer (some ⟨b,off+fo,none⟩))) u:=fun b off he u=>by
    simp only[execOp,ho,Instr.fieldAt,Sem.run_bind,run_underlying hF,he,Instr.sureAddr,fieldPlace,Result.andThen_ok,Sem.run_pure,hF2,Bg hs,C7,e2]
    simp
   cases g with
   | ptr k off =>
    obtain⟨h1,h2⟩:=C4 hg
    exact⟨_,_,hk,(.of_c (g:=.ptr k (off+fo)) ⟨h1,rfl⟩),fun u _=>run _ _ h2 u⟩
   | elp row off =>
    obtain⟨b,q,h1,h2⟩:=Ov hg
    exact⟨_,_,hk,(.of_1 (g:=.elp row (off+fo)) ⟨b,q,by rw[cu],h2⟩),fun u _=>run _ _ h1 u⟩
   | oel k j sz off =>
    obtain⟨h0,b,q,n,c,h1,h2⟩:=Kt hg
    exact⟨_,_,hk,(.of_1 (g:=.oel k j sz (off+fo)) ⟨h0,b,q,n,c,h1,by rw[cu,cu]⟩),fun u _=>run _ _ h2 u⟩
   | _=>exact hk.elim
include hH in
theorem Zbf {ty:TypeId}{x:Operand}{f:Nat}(ho:o.op=.field ty x f)(h:ev t own x fun g=>Zd7 g fun cs=>match look ty tb with
  | none=>False
  | some i=>match nth i.flds f with
   | none=>False
   | some (ft,fo)=>match look ft tb with
    | none=>False
    | some j=>match j.agg with
     | true=>seg cs fo j.zero.length fun l=>Iv j.zero.length l fun g=>K (put o.dst g t) own V.n
     | false=>match nth cs fo with
      | some g=>K (put o.dst g t) own V.n
      | none=>False):QOk S P I V own w a t o K:=by
 obtain⟨g,hk,hg⟩:=B0 h ha hH
 obtain⟨cs,us,hk,he,hp⟩:=Z7x hk hg
 cases hl:look ty tb with
 | none=>rw[hl] at hk;exact hk.elim
 | some i =>
  rw[hl] at hk
  dsimp only at hk
  rw[E7] at hk
  cases hf:i.flds[f]? with
  | none=>rw[hf] at hk;exact hk.elim
  | some p =>
   obtain⟨ft,fo⟩:=p
   rw[hf] at hk
   dsimp only at hk
   cases hj:look ft tb with
   | none=>rw[hj] at hk;exact hk.elim
   | some j =>
    rw[hj] at hk
    dsimp only at hk
    have hjt:=hT ft j hj
    obtain⟨F,hF,hm,hz⟩:=(hT ty i hl).flds (fun e=>by rw[e] at hf;simp at hf)
    rw[←hm,aj] at hf
    obtain⟨fd,hf1,hf2⟩:=ax.1 hf
    injection hf2 with e1 e2
    have hF2:F[f]?=some fd:=by simpa using hf1
    have run:∀{u v},(part ft us.toArray fo).run P u=.ok v u→(execOp a.eval o).run P u=.ok (.value v) u:=fun hr=>by
     simp only[execOp,ho,Instr.field,Sem.run_bind,run_underlying hF,he,Result.andThen_ok,Sem.run_pure,hF2,asAgg,e1,e2,hr]
    cases hb:j.agg with
    | true =>
     rw[hb] at hk
     obtain⟨l,k1,k2,-⟩:=Lr hk hp
     obtain⟨g',k3,k4⟩:=Ja k1 k2
     exact⟨_,_,k3,k4,fun u _=>run (by rw[Kv hjt,hb];rfl)⟩
    | false =>
     rw[hb,E7] at hk
     dsimp only at hk
     cases hc:cs[fo]? with
     | none=>rw[hc] at hk;exact hk.elim
     | some g' =>
      rw[hc] at hk
      obtain⟨v,hv,hgv⟩:=hp.get hc
      exact⟨_,_,hk,.of_c hgv,fun u _=>run (by rw[Kv hjt,hb,hv];rfl)⟩
include hK hL hd in
theorem Z59 {bv:Bool}{ty:TypeId}{x z:Operand}(ho:o.op=.store ty x z)(h:ev t own x fun g=>ev t own z fun u=>G5 own u fun cs=>match look ty tb with
  | some i=>Zdb i.zero.length own cs (match g with
   | .ptr k off=>match look k own with
    | some (.blk cells ty')=>ovr i.zero.length cells off cs fun cells'=>K (put o.dst .un t) ((k,.blk cells' ty')::own) V.n
    | some (.lnk j)=>match bv,look j own,cs with
     | false,some (.slc rows e 1),[c]=>Et (off < rows.length∧Gb c=true) (K (put o.dst .un t) ((j,.slc (rows.set off [c]) e 1)::own) V.n)
     | _,_,_=>False
    | _=>False
   | .oel k j sz off=>match look k own with
    | some (.slc rows e sz')=>match Nat.beq sz sz' with
     | true=>Zgp i.zero.length own cs fun cs=>Zfm i.zero.length cs (EvSet rows j (fun row k=>ovr i.zero.length row off cs k) fun rows'=>K (put o.dst .un t) ((k,.slc rows' e sz)::own) V.n)
     | _=>False
    | _=>False
   | _=>False)
  | none=>False):o.wp P a w next Q:=by
 obtain⟨g,hk,hg⟩:=B0 h ha hL.has
 obtain⟨u,hk,hu⟩:=B0 hk ha hL.has
 obtain⟨cs,hk,hp,-⟩:=Hg hk hu hL.has
 obtain⟨ds,hds⟩:∃ds,(a.eval z).cells.toList=ds:=⟨_,rfl⟩
 rw[hds] at hp
 cases hl:look ty tb with
 | none=>rw[hl] at hk;exact hk.elim
 | some i =>
  rw[hl] at hk
  dsimp only at hk
  obtain⟨h1,hcl0,hcn,hk2,hbp⟩:=Z0b hk
  clear hk
  have hk:=hk2
  clear hk2
  have hone:=Z8v hL.has h1 hp
  have hdn:ds≠[]:=fun e=>by
   have:=hp.1
   rw[e] at this
   exact hcn (al (by simpa using this))
  have hlen:ds.length=i.zero.length:=hp.1.symm.trans hcl0
  have hsz:=(hT ty i hl).size
  have run:∀{w'},(Instr.storeAt ty (a.eval x) (a.eval z)).run P w=.ok () w'→(execOp a.eval o).run P w=.ok .skip w':=fun hr=>by
   simp only[execOp,ho,Sem.run_bind,hr,Result.andThen_ok,Sem.run_pure]
  have main:∀{cs:List G} {k j sz off e:Nat} {rows:List (List G)},PW (CRep I V) cs ds→look k own=some (.slc rows e sz)→(∃b n c,V.s k=.slice (some ⟨b,0,none⟩) n c∧a.eval x=.pointer (some ⟨b,j * sz+off,none⟩))→Av G.pure cs=true→EvSet rows j (fun row k=>ovr i.zero.length row off cs k) (fun rows'=>K (put o.dst .un t) ((k,.slc rows' e sz)::own) V.n)→o.wp P a w next Q:=fun {cs k j sz off e rows} hp hr ⟨b,n,c,hs,he⟩ hpu hk=>by
   obtain⟨hlt,hk⟩:=hk
   obtain⟨rs,cur,hg1,h2,h3,h4,h5,hn,hnc,hcm,hcs,ht,-⟩:=Ng hL.has hr hs
   have hj:j < rows.length:=by omega
   have hj':j < rs.length:=by omega
   have hpv:PW (VRep I) cs ds:=⟨hp.1,fun m g u h1 h2=>(hp.2 m g u h1 h2).to_v (Ac hpu g (ae h1))⟩
   obtain⟨row',k1,k2,k3⟩:=R4 (hk rows[j] (by simp)) (h3 j _ _ (ab hj) (ab hj')) hpv
   have hu:=h4 rs[j] (bl hj')
   have k3:=k3 hdn
   rw[hu] at k3
   have hjn:j * sz+sz≤n * sz:=by rw[←Nat.succ_mul];exact Nat.mul_le_mul_right _ (by omega)
   have hnn:n * sz≤c * sz:=Nat.mul_le_mul_right _ hnc
   have hrun:=Ht (P:=P) (w:=w) (off:=j * sz+off) hsz hds hlen hg1 (by omega) hone
   have hfl:=Uz h4 (ab hj') off ds k3
   have hfln:=B6 h4
   have hone':∀u∈rs.set j (rs[j].take off++ds++rs[j].drop (off+ds.length)),u.length=sz∧∀x∈u,x.oneCell'=true:=fun u hu'=>by
    rcases cn hu' with h | rfl
    ·exact⟨h4 u h,h5 u h⟩
    ·refine⟨by simp;omega,fun x hx=>?_⟩
     rcases br.1 hx with hx | hx
     ·rcases br.1 hx with hx | hx
      ·exact h5 _ (bl hj') x (bd hx)
      ·exact hone x hx
     ·exact h5 _ (bl hj') x (bz hx)
   refine Vh hK hL ha hd (run (by rw[he];exact hrun)) (Cs (w':=w.setRow b _) (r:=.slc (rows.set j row') e sz) hL.has hr rfl rfl rfl (by simp[World.setRow]) (fun b' hb'=>setRow_other w _ b' _ (fun e=>hb' (((hL.has.each k _ hr).1 b').2 (by rw[hs,e];rfl)))) ⟨(hL.has.each k _ hr).1,rs.set j (rs[j].take off++ds++rs[j].drop (off+ds.length)),⟨?_,.inr ⟨b,c,_,by rw[hs,hn];simp,ah _,setRow_heap w _ cur _ e _ hg1,by simp;omega,hcm,?_,?_⟩⟩,by simp[h2],?_,fun u hu=>(hone' u hu).1,fun u hu=>(hone' u hu).2,(hL.has.each k _ hr).2.choose_spec.2.2.2.2.2⟩) k1
   ·rw[B6 fun u hu=>(hone' u hu).1];simp[h2]
   ·simp;omega
   ·rw[hfl]
    simp only[List.length_set,←hn]
    rw[←ht]
    have hcl:cur.toList.length=c * sz:=by simpa using hcs
    simp only[List.take_append,List.take_take,List.drop_take,List.length_take,List.length_append]
    rw[Nat.min_eq_right (by omega:j * sz+off≤n * sz),ce (by omega:j * sz+off≤n * sz),ce (by omega:j * sz+off≤cur.toList.length),ao (by omega:ds.length≤n * sz - (j * sz+off))]
   ·intro i r u hr' hu'
    rw[ck] at hr' hu'
    split at hr'
    ·next e' =>
     subst e'
     rw[db rfl,db hj'] at hu'
     cases hr';cases hu'
     exact k2
    ·next e' =>
     rw[da e'] at hu'
     exact h3 i r u hr' hu'
  cases g with
  | ptr k off =>
   obtain⟨hkn,he⟩:=C4 hg
   dsimp only at hk
   cases hr:look k own with
   | none=>rw[hr] at hk;exact hk.elim
   | some r =>
    rw[hr] at hk
    cases r with
    | blk cells ty' =>
     obtain⟨us,k1,k2,-⟩:=Lv hL.has hr
     obtain⟨cells',k3,k4,k5⟩:=R4 hk k2 hp
     have hrun:=Ht (P:=P) (w:=w) hsz hds hlen k1 (k5 hdn:off+ds.length≤us.length) hone
     refine Vh hK hL ha hd (run (by rw[he];exact hrun)) (Cs (w':=w.setRow (V.b k) _) (r:=.blk cells' ty') hL.has hr rfl rfl rfl (by simp[World.setRow]) (fun b hb=>setRow_other w _ b _ (fun e=>hb (((hL.has.each k _ hr).1 b).2 e))) ⟨(hL.has.each k _ hr).1,_,setRow_heap w _ us.toArray _ ty' _ k1,k4⟩) k3
    | lnk j =>
     obtain⟨-,hjn,m,hsj⟩:=hL.has.each k _ hr
     dsimp only at hk
     cases bv with
     | true=>exact hk.elim
     | false =>
     cases hrj:look j own with
     | none=>rw[hrj] at hk;exact hk.elim
     | some rj =>
      rw[hrj] at hk
      cases rj with
      | slc rows e sz =>
       cases sz with
       | zero=>exact hk.elim
       | succ sz =>
       cases sz with
       | succ sz=>exact hk.elim
       | zero =>
       have lnkk:∀c,cs=[c]→Et (off < rows.length∧Gb c=true) (K (put o.dst .un t) ((j,.slc (rows.set off [c]) e 1)::own) V.n)→o.wp P a w next Q:=fun c hc1 hk=>by
        obtain⟨⟨hfit,hc⟩,hk⟩:=hk
        have hn1:i.zero.length=1:=by rw[←hcl0,hc1];rfl
        obtain⟨rs,cur,-,h2,h3,h4,-⟩:=Ng hL.has hrj hsj
        refine main (j:=off) (off:=0) hp hrj ⟨_,_,_,hsj,by rw[he];simp⟩ (G1 fun g hg=>by rw[hc1,bm] at hg;rw[hg];exact Fe hc) ⟨hfit,fun r hr2=>?_⟩
        have hlr:r.length=1:=by
         have hlt:off < rs.length:=by omega
         have:=(h3 off r rs[off] hr2 (ab hlt)).1
         rw[this];exact h4 _ (bl hlt)
        obtain⟨y,rfl⟩:=List.length_eq_one_iff.1 hlr
        rw[hn1,hc1]
        exact hk
       match cs,hk with
       | [c],hk=>exact lnkk c rfl hk
       | [],hk=>exact hk.elim
       | _::_::_,hk=>exact hk.elim
      | _=>exact hk.elim
    | _=>exact hk.elim
  | oel k j sz off =>
   obtain⟨hkn,b,q,n,c,hs,he⟩:=Kt hg
   dsimp only at hk
   cases hr:look k own with
   | none=>rw[hr] at hk;exact hk.elim
   | some r =>
    rw[hr] at hk
    cases r with
    | slc rows e sz' =>
     obtain rfl:=Z50 hL.has hr hs
     rw[ca] at he
     dsimp only at hk
     cases hb:Nat.beq sz sz' with
     | false=>rw[hb] at hk;exact hk.elim
     | true =>
      rw[hb] at hk
      have:=ai hb
      subst this
      unfold Zgp at hk
      cases hbn:To i.zero.length with
      | true =>
       rw[hbn] at hk
       obtain⟨hpu,hk⟩:=Ti hk hbp
       exact main hp hr ⟨b,n,c,hs,he⟩ hpu hk
      | false =>
       rw[hbn] at hk
       have hnb:∀{cs:List G},To i.zero.length=true→Av G.pure cs=true:=fun h=>by rw[hbn] at h;cases h
       dsimp only at hk
       split at hk
       ·next kp op =>
        obtain⟨b2,j2,hj2,hk⟩:=Og hk
        obtain⟨hpu,hk⟩:=Ti hk hnb
        refine main ?_ hr ⟨b,n,c,hs,he⟩ hpu hk
        obtain⟨v,vs,rfl,hv,hn⟩:=hp.uncons
        obtain⟨hkn2,rfl⟩:=(show kp < V.n∧v=.pointer (some ⟨V.b kp,op,none⟩) from hv)
        obtain⟨-,-,hb2⟩:=hL.has.each j2 _ hj2
        rw[hb2]
        exact .cons (VRep.v _) hn
       ·obtain⟨hpu,hk⟩:=Ti hk hnb
        exact main hp hr ⟨b,n,c,hs,he⟩ hpu hk
    | _=>exact hk.elim
  | _=>exact hk.elim
end
section
variable {P:Program} {tb:List (Nat × TI)} {N n:Nat} {I I' I0:Imm} {V V' V0:Va} {a:Act} {t:Ts} {own own' own0:Os} {w w' w0:World} {g:G} {y:Value} {d:Option Tmp}
variable {XL:List Nat} {S:World→Prop} {K:Ts→Os→Nat→Prop} {next:Act→World→Prop} {Q:Exit→Act→World→Prop} {o:Oper}
theorem Fa {ty e:TypeId}(h:P.underlying ty=some (.pointer e))(b:Option Addr)(u:World):(Op.equal ty (.pointer b) (.pointer none)).run P u=.ok b.isNone u∧(Op.equal ty (.pointer none) (.pointer b)).run P u=.ok b.isNone u:=by
 have h1:∀d,(Op.equalIn (d+1) ty (.pointer b) (.pointer none)).run P u=.ok b.isNone u∧(Op.equalIn (d+1) ty (.pointer none) (.pointer b)).run P u=.ok b.isNone u:=fun d=>by
  cases b<;>simp[Op.equalIn,run_underlying h]
 exact h1 9999
theorem Z0v {bt:TypeId}{op:BinOp}{b:Bool}{x z:Value}{K1:G→Prop}(hT:∀t i,look t tb=some i→TIok P t i)(h:Zf6 tb bt op b K1)(hx:∃p,x=.pointer p)(hz:∃p,z=.pointer p)(he:∀e,P.underlying bt=some (.pointer e)→∀u:World,(Op.equal bt x z).run P u=.ok b u):∃g v,K1 g∧TRep I V g v∧∀(w:World) (ox oz:Operand),(eqGuard op bt ox oz x z).run P w=.ok () w∧(binOp op bt x z).run P w=.ok v w:=by
 obtain⟨p,rfl⟩:=hx
 obtain⟨q,rfl⟩:=hz
 unfold Zf6 Z51 at h
 cases hl:look bt tb with
 | none=>rw[hl] at h;exact h.elim
 | some i =>
  rw[hl] at h
  have hk:=(hT _ _ hl).kd
  dsimp only at h
  split at h
  ·next hkd =>
   rw[hkd] at hk
   obtain⟨e,hu⟩:=hk
   have he:=he e hu
   cases b with
   | true=>exact⟨_,_,h,.of_v .tt,fun w ox oz=>⟨by simp[eqGuard],by simp only[binOp];simp[he w]⟩⟩
   | false=>exact⟨_,_,h,.of_v .ff,fun w ox oz=>⟨by simp[eqGuard],by simp only[binOp];simp[he w]⟩⟩
  ·next hkd =>
   rw[hkd] at hk
   obtain⟨e,hu⟩:=hk
   have he:=he e hu
   cases b with
   | true=>exact⟨_,_,h,.of_v .ff,fun w ox oz=>⟨by simp[eqGuard],by simp only[binOp];simp[he w]⟩⟩
   | false=>exact⟨_,_,h,.of_v .tt,fun w ox oz=>⟨by simp[eqGuard],by simp only[binOp];simp[he w]⟩⟩
  ·exact h.elim
theorem Ty {g:G}{K1:Bool→Prop}(h:Z4s g K1)(hg:TRep I V g y):∃b,K1 b∧y=.bool b:=by
 unfold Z4s at h
 split at h
 ·cases(show VRep I .tt y from hg);exact⟨_,h,rfl⟩
 ·cases(show VRep I .ff y from hg);exact⟨_,h,rfl⟩
 ·cases(show VRep I (.v _) y from hg);exact⟨_,h,rfl⟩
 ·exact h.elim
theorem Ze9 (hT:∀t i,look t tb=some i→TIok P t i){bt:TypeId}{op:BinOp}{p q:G}{x z:Value}{K1:G→Prop}(h:Zfy P tb bt op p q K1)(hp:TRep I V p x)(hq:TRep I V q z):∃g v,K1 g∧TRep I V g v∧∀(w:World) (ox oz:Operand),(eqGuard op bt ox oz x z).run P w=.ok () w∧(binOp op bt x z).run P w=.ok v w:=by
 unfold Zfy at h
 split at h
 ·next i j =>
  have e1:=As hp;have e2:=As hq;subst e1 e2
  cases op<;>dsimp only at h<;>first
   | exact h.elim
   | (have h1:=EvRng.rng h;have h2:=EvRng.next h;exact⟨_,_,h2,.of_v (.v _),fun w ox oz=>⟨by simp[eqGuard],by simp[binOp,Op.intArith,IntWalk.i64_in _ h1]⟩⟩)
   | (have h0:=EvDiv.ne h;have h1:=EvRng.rng (EvDiv.next h);have h2:=EvRng.next (EvDiv.next h);exact⟨_,_,h2,.of_v (.v _),fun w ox oz=>⟨by simp[eqGuard],by simp[binOp,Op.intDiv,h0,IntWalk.i64_in _ h1]⟩⟩)
   | (have h0:=EvDiv.ne h;have h2:=EvDiv.next h;exact⟨_,_,h2,.of_v (.v _),fun w ox oz=>⟨by simp[eqGuard],by simp[binOp,Op.intDiv,h0]⟩⟩)
   | exact⟨_,_,h,.of_v (.v _),fun w ox oz=>⟨by simp[eqGuard],rfl⟩⟩
   | exact⟨_,_,h,.of_v (.v _),fun w ox oz=>⟨by simp[eqGuard],by simp[binOp,Op.intCmp]⟩⟩
 ·next i j =>
  have e1:=As hp;have e2:=As hq;subst e1 e2
  cases op<;>dsimp only at h<;>first
   | exact h.elim
   | (have h1:=h.nn;have h2:=h.next;exact⟨_,_,h2,.of_v (.v _),fun w ox oz=>⟨by simp[eqGuard],by simp[binOp,Op.shift,Int.not_lt.2 h1,IntKind.bits]⟩⟩)
 ·next i j =>
  have e1:=As hp;have e2:=As hq;subst e1 e2
  cases op<;>dsimp only at h<;>first
   | exact h.elim
   | exact⟨_,_,h,.of_v (.v _),fun w ox oz=>⟨by simp[eqGuard],by simp[binOp,Op.intCmp]⟩⟩
 ·next i j =>
  have e1:=As hp;have e2:=As hq;subst e1 e2
  cases op<;>dsimp only at h<;>first
   | exact h.elim
   | (have h1:=h.nn;have h2:=h.next;exact⟨_,_,h2,.of_v (.v _),fun w ox oz=>⟨by simp[eqGuard],by simp[binOp,Op.shift,Int.not_lt.2 h1,IntKind.bits]⟩⟩)
   | (have h0:=EvDiv.ne h;have h2:=EvDiv.next h;exact⟨_,_,h2,.of_v (.v _),fun w ox oz=>⟨by simp[eqGuard],by simp[binOp,Op.intDiv,h0]⟩⟩)
   | exact⟨_,_,h,.of_v (.v _),fun w ox oz=>⟨by simp[eqGuard],by first | rfl | simp[binOp,Op.intCmp,Op.intArith]⟩⟩
 ·next i q j =>
  have e1:=As hp;have e2:=As hq;subst e1 e2
  cases op<;>dsimp only at h<;>first
   | exact h.elim
   | (have h1:=h.nn;have h2:=h.next;exact⟨_,_,h2,.of_v (.v _),fun w ox oz=>⟨by simp[eqGuard],by simp[binOp,Op.shift,Int.not_lt.2 h1,IntKind.bits]⟩⟩)
 ·next i j =>
  have e1:=As hp;have e2:=As hq;subst e1 e2
  cases op<;>dsimp only at h<;>first
   | exact h.elim
   | (obtain⟨h1,h2⟩:=h;exact⟨_,_,h2,.of_v (.v _),fun w ox oz=>⟨by simp[eqGuard],by simp[binOp,Op.stringOp,IntKind.max,IntKind.bits,IntKind.signed];omega⟩⟩)
   | exact⟨_,_,h,.of_v (.v _),fun w ox oz=>⟨by simp[eqGuard],by simp[binOp,Op.stringOp]⟩⟩
 ·next l m =>
  have key:∀{cs ds:List Value},Ml l cs→Ml m ds→x=.agg cs.toArray∧z=.agg ds.toArray:=fun {cs ds} hc hd=>by
   have one:∀{l:List G} {cs:List Value} {x:Value},Ml l cs→TRep I V (.agg l) x→x=.agg cs.toArray:=fun {l cs x} hc hx=>by
    cases(show VRep I (.agg l) x from hx) with
    | agg l us hl hh =>
     unfold Ml at hc
     subst hc
     congr 2
     apply co
     intro j
     by_cases hj:j < cs.length
     ·have hj':j < us.length:=by simpa [←hl] using hj
      have:=hh j (.v cs[j]) us[j] (by simp[hj]) (ab hj')
      rw[ab hj,ab hj']
      generalize us[j]=u at this
      cases this
      rfl
     ·rw[b8 (by simp at hl;omega),b8 (by omega)]
   exact⟨one hc hp,one hd hq⟩
  cases op<;>dsimp only at h<;>first
   | exact h.elim
   | (obtain⟨cs,ds,b,hc,hd,hg,he,hk⟩:=h
      obtain⟨rfl,rfl⟩:=key hc hd
      exact⟨_,_,hk,.of_v (.v _),fun w ox oz=>⟨run_eqGuard_agg _ _ _ _ _ _ _ hg,by first | (rw[run_eql_struct];rw[he w];rfl) | (rw[run_neq_struct];rw[he w];rfl)⟩⟩)
 ·next i j =>
  have e1:=As hp;have e2:=As hq;subst e1 e2
  cases op<;>dsimp only at h<;>first
   | exact h.elim
   | exact⟨_,_,h,.of_v (.v _),fun w ox oz=>⟨by simp[eqGuard],by simp[binOp,Op.intArith,Op.intCmp]⟩⟩
 ·next k o =>
  obtain⟨-,e1⟩:=C4 hp
  have e2:=As hq;subst e1 e2
  exact Z0v hT h ⟨_,rfl⟩ ⟨_,rfl⟩ fun e hu u=>(Fa hu _ u).1
 ·next k o =>
  obtain⟨-,e1⟩:=C4 hq
  have e2:=As hp;subst e1 e2
  exact Z0v hT h ⟨_,rfl⟩ ⟨_,rfl⟩ fun e hu u=>(Fa hu _ u).2
 ·have e1:=As hp;have e2:=As hq;subst e1 e2
  exact Z0v hT h ⟨_,rfl⟩ ⟨_,rfl⟩ fun e hu u=>(Fa hu _ u).1
 ·unfold Z51 at h
  cases hl:look bt tb with
  | none=>rw[hl] at h;exact h.elim
  | some i =>
   rw[hl] at h
   dsimp only at h
   have hk:=(hT _ _ hl).kd
   split at h
   ·next hkd =>
    rw[hkd] at hk
    obtain⟨a,h,rfl⟩:=Ty h hp
    obtain⟨b,h,rfl⟩:=Ty h hq
    split at h
    ·exact⟨_,_,h,.of_v (.v _),fun w ox oz=>⟨by simp[eqGuard],run_eql_bool w bt a b hk⟩⟩
    ·exact⟨_,_,h,.of_v (.v _),fun w ox oz=>⟨by simp[eqGuard],run_neq_bool w bt a b hk⟩⟩
    ·exact h.elim
   ·exact h.elim
theorem Zd4 {p:G}{x:Value}{K1:G→Prop}(h:Zfq p K1)(hp:TRep I V p x):∃g v,K1 g∧TRep I V g v∧∀w:World,(Op.unary .not x).run P w=.ok v w:=by
 unfold Zfq at h
 split at h
 ·cases(show VRep I .tt x from hp);exact⟨_,_,h,.of_v .ff,fun w=>by simp[Op.unary]⟩
 ·cases(show VRep I .ff x from hp);exact⟨_,_,h,.of_v .tt,fun w=>by simp[Op.unary]⟩
 ·have e:=As hp;subst e;exact⟨_,_,h,.of_v (.v _),fun w=>by simp[Op.unary]⟩
 ·exact h.elim
variable (hT:∀t i,look t tb=some i→TIok P t i) (hH:Has I V own w) (ha:ARep N I V a t)
include hH ha
theorem Zgh {ty:TypeId}{x:Operand}(ho:o.op=.unOp .not ty x)(h:ev t own x fun g=>Zfq g fun g=>K (put o.dst g t) own V.n):QOk S P I V own w a t o K:=by
 obtain⟨g,hk,hg⟩:=B0 h ha hH
 obtain⟨r,v,hk,hr,hrun⟩:=Zd4 (P:=P) hk hg
 exact⟨_,_,hk,hr,fun u _=>by simp only[execOp,ho,Sem.run_bind,hrun,Result.andThen_ok,Sem.run_pure]⟩
theorem Z1e {x:Operand}{i:Nat}(ho:o.op=.extract x i)(h:ev t own x fun g=>match g with
  | .tup l=>match nth l i with
   | some g=>K (put o.dst g t) own V.n
   | none=>False
  | _=>False):QOk S P I V own w a t o K:=by
 obtain⟨g,hk,hg⟩:=B0 h ha hH
 cases g with
 | tup l =>
  obtain⟨cs,he,hp⟩:=(show ∃cs:List Value,a.eval x=.tuple cs.toArray∧PW (TRep1 I V) l cs from hg)
  dsimp only at hk
  rw[E7] at hk
  cases hl:l[i]? with
  | none=>rw[hl] at hk;exact hk.elim
  | some g' =>
   rw[hl] at hk
   obtain⟨v,hv,hgv⟩:=hp.get hl
   exact⟨_,_,hk,.of_1 hgv,fun u _=>by simp[execOp,ho,he,Instr.extract,hv]⟩
 | _=>exact hk.elim
include hT
theorem Sx {ty:TypeId}{x i:Operand}(ho:o.op=.indexAddr ty x i)(h:ev t own x fun g=>ev t own i fun q=>match q,look ty tb with
  | .v (.int .i64 j),some ⟨_,_,some (_,sz),_,_,_,_⟩=>match g with
   | .sl rows=>EvIdx rows j fun row=>match Nat.beq row.length sz with
    | true=>K (put o.dst (.elp row 0) t) own V.n
    | false=>False
   | .osl k=>match look k own with
    | some (.slc rows _ sz')=>match Nat.beq sz' sz with
     | true=>(0≤j∧j < rows.length)∧K (put o.dst (.oel k j.toNat sz 0) t) own V.n
     | false=>False
    | some (.vw rows _ sz')=>match Nat.beq sz' sz with
     | true=>(0≤j∧j < rows.length)∧K (put o.dst (.oel k j.toNat sz 0) t) own V.n
     | false=>False
    | _=>False
   | .osv k sz0 lo hi=>match look k own with
    | some (.slc _ _ sz')=>match Nat.beq sz' sz,Nat.beq sz0 sz with
     | true,true=>(0≤j∧j < (hi - lo:Nat))∧K (put o.dst (.oel k (lo+j.toNat) sz 0) t) own V.n
     | _,_=>False
    | _=>False
   | .orv k 0 0 off len _=>(0≤j∧j < len)∧K (put o.dst (.ptr k (Nat.add off (Nat.mul j.toNat sz))) t) own V.n
   | _=>False
  | .v (.int .i64 j),some ⟨_,_,none,_,_,_,.arr m _ sz⟩=>match g with
   | .ptr k off=>(0≤j∧j < m)∧K (put o.dst (.ptr k (Nat.add off (Nat.mul j.toNat sz))) t) own V.n
   | .elp row off=>(0≤j∧j < m)∧K (put o.dst (.elp row (Nat.add off (Nat.mul j.toNat sz))) t) own V.n
   | _=>False
  | _,_=>False):QOk S P I V own w a t o K:=by
 obtain⟨g,hk1,hg⟩:=B0 h ha hH
 obtain⟨q,hk,hq⟩:=B0 hk1 ha hH
 clear h hk1
 split at hk
 ·next j ag ze e sz fl st ik kd hl =>
  have hi:=hT _ _ hl
  obtain⟨hu,i',z,h1,h2,h3,-⟩:=hi.elem e sz rfl
  have hsz:∀w,(sizeOf e).run P w=.ok sz w:=Bg (by rw[h1];simp[h3])
  have e2:=As hq
  have run:∀A n c,a.eval x=.slice (some A) n c→0≤j∧j < n→∀u,(execOp a.eval o).run P u=.ok (.value (.pointer (some (A.add (j.toNat * sz))))) u:=fun A n c he hj u=>by
   simp only[execOp,ho,Instr.indexAt,Sem.run_bind,he,e2,asIntOf,Sem.run_pure,Result.andThen_ok,run_underlying hu,hj,and_self,if_true,hsz]
  split at hk
  ·next rows =>
   obtain⟨⟨h4,h5⟩,hk0⟩:=hk
   have hlt:j.toNat < rows.length:=by omega
   have hk:=hk0 _ (ab hlt)
   clear hk0
   have hx:=(show VRep I (.sl rows) (a.eval x) from hg)
   generalize hax:a.eval x=X at hx
   cases hx with
   | sl _ A c sz0 u hc hA hz hh huu =>
    split at hk
    ·next hb =>
     have hb:=ai hb
     obtain⟨b,q0,rfl,hI⟩:=hh j.toNat _ (ab hlt)
     have hs:sz0=sz:=(hz _ (bl hlt)).symm.trans hb
     subst hs
     refine⟨_,_,hk,(.of_1 (g:=.elp _ 0) ⟨b,q0+j.toNat * sz0,by rw[C7];rfl,fun m g hm=>⟨u j.toNat m,hI m (by have:=(ac.1 hm).1;omega),huu j.toNat _ m g (ab hlt) hm⟩⟩),fun u _=>run _ _ _ hax ⟨h4,h5⟩ u⟩
    ·exact hk.elim
  ·next k =>
   cases hr:look k own with
   | none=>rw[hr] at hk;exact hk.elim
   | some r =>
    rw[hr] at hk
    cases r with
    | slc rows e' sz' =>
     dsimp only at hk
     split at hk
     ·next hb =>
      have hb:=ai hb
      subst hb
      obtain⟨⟨h4,h5⟩,hk⟩:=hk
      obtain⟨hkn,he⟩:=(show k < V.n∧a.eval x=V.s k from hg)
      obtain⟨-,rs,⟨-,h6⟩,-⟩:=hH.each k _ hr
      rcases h6 with⟨-,h7⟩ | ⟨b,cap,cur,h7,-⟩
      ·omega
      ·exact⟨_,_,hk,(.of_1 (g:=.oel k j.toNat sz' 0) ⟨hkn,b,0,_,cap,h7,by rw[C7];simp⟩),fun u _=>run _ _ _ (he.trans h7) ⟨h4,h5⟩ u⟩
     ·exact hk.elim
    | vw rows e' sz' =>
     dsimp only at hk
     split at hk
     ·next hb =>
      have hb:=ai hb
      subst hb
      obtain⟨⟨h4,h5⟩,hk⟩:=hk
      obtain⟨hkn,he⟩:=(show k < V.n∧a.eval x=V.s k from hg)
      obtain⟨-,rs,⟨-,h6⟩,-⟩:=hH.each k _ hr
      rcases h6 with⟨-,h7⟩ | ⟨b,q,cap,cur,h7,-⟩
      ·omega
      ·exact⟨_,_,hk,(.of_1 (g:=.oel k j.toNat sz' 0) ⟨hkn,b,q,_,cap,h7,by rw[C7];simp⟩),fun u _=>run _ _ _ (he.trans h7) ⟨h4,h5⟩ u⟩
     ·exact hk.elim
    | _=>exact hk.elim
  ·next k sz0 lo top =>
   cases hr:look k own with
   | none=>rw[hr] at hk;exact hk.elim
   | some r =>
    rw[hr] at hk
    cases r with
    | slc rows e' sz' =>
     dsimp only at hk
     split at hk
     ·next hb hb2 =>
      have hb:=ai hb
      have hb2:=ai hb2
      subst hb hb2
      obtain⟨⟨h4,h5⟩,hk⟩:=hk
      obtain⟨hkn,⟨hl1,hl2⟩,he⟩:=(show k < V.n∧(lo≤top∧top≤Mf (V.s k))∧a.eval x=Hc _ (V.s k) lo top from hg)
      obtain⟨-,rs,⟨-,h6⟩,-⟩:=hH.each k _ hr
      rcases h6 with⟨h7,h8⟩ | ⟨b,cap,cur,h7,-,-,h9,-⟩
      ·rw[h7] at hl2
       have hl2:top≤0:=hl2
       omega
      ·have hl2:top≤rows.length:=by rw[h7] at hl2;exact hl2
       have e3:a.eval x=.slice (some ((⟨b,0,none⟩:Addr).add (lo * sz0))) (top - lo) (cap - lo):=by
        rw[he,h7]
        unfold Hc
        dsimp only
        rw[da (by omega)]
        rfl
       refine⟨_,_,hk,(.of_1 (g:=.oel k (lo+j.toNat) sz0 0) ⟨hkn,b,0,_,cap,h7,?_⟩),fun u _=>run _ _ _ e3 ⟨h4,h5⟩ u⟩
       rw[C7,C7,Nat.add_mul]
       simp
     ·exact hk.elim
    | _=>exact hk.elim
  ·next k off len cap =>
   obtain⟨hj,hk⟩:=hk
   obtain⟨hkn,b,q,hb,he⟩:=(show TRep1 I V (.orv k 0 0 off len cap) (a.eval x) from hg)
   obtain⟨hb,hq0⟩:=(show b=V.b k∧q=0 from hb)
   subst hb hq0
   have he:a.eval x=.slice (some ⟨V.b k,off,none⟩) len cap:=by rw[he];simp
   exact⟨_,_,hk,⟨hkn,rfl⟩,fun u _=>by rw[run _ _ _ he hj u,C7];rfl⟩
  ·exact hk.elim
 ·next j ag ze st fl ik m e sz hl =>
  obtain⟨hu,hsz⟩:=(hT _ _ hl).kd
  have hsz:∀w,(sizeOf e).run P w=.ok sz w:=Bg hsz
  have e2:=As hq
  have run:∀A,a.eval x=.pointer (some A)→0≤j∧j < m→∀u,(execOp a.eval o).run P u=.ok (.value (.pointer (some (A.add (j.toNat * sz))))) u:=fun A he hj u=>by
   simp only[execOp,ho,Instr.indexAt,Instr.sureAddr,Sem.run_bind,he,e2,asIntOf,Sem.run_pure,Result.andThen_ok,run_underlying hu,hj,and_self,if_true,hsz]
  split at hk
  ·obtain⟨h1,hk⟩:=hk
   obtain⟨hkn,he⟩:=C4 hg
   exact⟨_,_,hk,⟨hkn,rfl⟩,fun u _=>by rw[run _ he h1 u,C7];rfl⟩
  ·obtain⟨h1,hk⟩:=hk
   obtain⟨b,q,he,hrow⟩:=Ov hg
   exact⟨_,_,hk,⟨b,q,rfl,hrow⟩,fun u _=>by rw[run _ he h1 u,C7,cu];rfl⟩
  ·exact hk.elim
 ·exact hk.elim
theorem Z96 {ty:TypeId}{x i:Operand}(ho:o.op=.index ty x i)(h:match look ty tb with
  | some ⟨_,_,_,_,true,_,_⟩=>ev t own x fun g=>ev t own i fun q=>match q,g with
   | .v (.int .i64 j),.v (.string s)=>EvIdx s.data.toList j fun c=>K (put o.dst (.v (.int .u8 c.toNat)) t) own V.n
   | _,_=>False
  | some ⟨_,_,none,_,false,_,.arr m e sz⟩=>ev t own x fun g=>Zd7 g fun cs=>ev t own i fun q=>match q,look e tb with
   | .v (.int .i64 j),some ti=>(0≤j∧j < m)∧match ti.agg with
    | true=>seg cs (Nat.mul j.toNat sz) ti.zero.length fun l=>Iv ti.zero.length l fun g=>K (put o.dst g t) own V.n
    | false=>match nth cs (Nat.mul j.toNat sz) with
     | some g=>K (put o.dst g t) own V.n
     | none=>False
   | _,_=>False
  | _=>False):QOk S P I V own w a t o K:=by
 split at h
 case h_3=>exact h.elim
 case h_2 m e sz hl =>
  obtain⟨hu,hsz⟩:=(hT _ _ hl).kd
  have hsz:∀w,(sizeOf e).run P w=.ok sz w:=Bg hsz
  obtain⟨g,hk1,hg⟩:=B0 h ha hH
  obtain⟨l,cs,hk1,he,hp⟩:=Z7x hk1 hg
  obtain⟨q,hk,hq⟩:=B0 hk1 ha hH
  split at hk
  ·next j ti hl2 =>
   have e2:=As hq
   obtain⟨hj,hk⟩:=hk
   have hi:=hT _ _ hl2
   have run:∀{v:Value} {u:World},(part e cs.toArray (j.toNat * sz)).run P u=.ok v u→(execOp a.eval o).run P u=.ok (.value v) u:=fun hr=>by
    simp only[execOp,ho,Instr.index,Sem.run_bind,he,e2,asIntOf,Sem.run_pure,Result.andThen_ok,run_underlying hu,hj,and_self,if_true,hsz,hr]
   have hk:match ti.agg with
    | true=>seg l (j.toNat * sz) ti.zero.length fun l=>Iv ti.zero.length l fun g=>K (put o.dst g t) own V.n
    | false=>match nth l (j.toNat * sz) with
     | some g=>K (put o.dst g t) own V.n
     | none=>False:=hk
   cases hb:ti.agg with
   | true =>
    rw[hb] at hk
    obtain⟨l',k1,k2,-⟩:=Lr hk hp
    obtain⟨g',k3,k4⟩:=Ja k1 k2
    exact⟨_,_,k3,k4,fun u _=>run (by rw[Kv hi,hb];rfl)⟩
   | false =>
    rw[hb,E7] at hk
    dsimp only at hk
    cases hc:l[j.toNat * sz]? with
    | none=>rw[hc] at hk;exact hk.elim
    | some g' =>
     rw[hc] at hk
     obtain⟨v,hv,hgv⟩:=hp.get hc
     exact⟨_,_,hk,.of_c hgv,fun u _=>run (by rw[Kv hi,hb,hv];rfl)⟩
  ·exact hk.elim
 rename_i hl
 have hty:=(hT _ _ hl).str rfl
 obtain⟨g,hk1,hg⟩:=B0 h ha hH
 obtain⟨q,hk,hq⟩:=B0 hk1 ha hH
 clear h hk1
 split at hk
 ·next j s =>
  have e1:=As hg;have e2:=As hq
  obtain⟨⟨h1,h2⟩,hk⟩:=hk
  have hlt:j.toNat < s.data.toList.length:=by omega
  have hk:=hk _ (ab hlt)
  have e3:s[j.toNat]?=some (s.data.toList[j.toNat]):=by
   have hs:j.toNat < s.size:=by simpa using hlt
   rw[getElem?_pos s j.toNat hs]
   rfl
  exact⟨_,_,hk,.of_v (.v _),fun u _=>by simp only[execOp,ho,Instr.index,Sem.run_bind,e1,e2,asIntOf,Sem.run_pure,Result.andThen_ok,run_underlying hty,h1,if_true,e3]⟩
 ·exact hk.elim
end
section
variable {P:Program} {tb:List (Nat × TI)} {N n:Nat} {I I' I0:Imm} {V V' V0:Va} {a:Act} {t:Ts} {own own' own0:Os} {w w' w0:World} {g:G} {x y:Value} {d:Option Tmp}
variable {K:Ts→Os→Nat→Prop} {next:Act→World→Prop} {Q:Exit→Act→World→Prop} {o:Oper}
theorem Ec (h:Has I V own w){k e sz:Nat}{rows:List (List G)}(hk:look k own=some (.slc rows e sz)):∃I',Later own I V w ((k,.froz rows sz)::own) I' (V.drop k) w∧VRep I' (.sl rows) (V.s k)∧∀r∈rows,r.length=sz:=by
 obtain⟨hf,rs,⟨h0,h1⟩,h2,h3,h4,h5,h6⟩:=h.each k _ hk
 have hrz:∀r∈rows,r.length=sz:=fun r hr=>by
  obtain⟨i,hi,e⟩:=cf.1 hr
  have hi':i < rs.length:=by omega
  have hp:=h3 i r rs[i] (by rw[ab hi,e]) (ab hi')
  rw[hp.1];exact h4 _ (bl hi')
 rcases h1 with⟨e1,hr0⟩ | ⟨g,cap,cur,e1,-,hg,hn,hm,hc,ht⟩
 ·have hr:rows=[]:=al hr0
  subst hr
  have hv:VRep I (.sl []) (V.s k):=by
   rw[e1]
   exact .sl [] none 0 sz (fun _ _=>undef) (af _) (fun _=>rfl) (by simp) (fun i r h=>by simp at h) (fun i r j g h=>by simp at h)
  exact⟨I,Fp h hk (.refl _) h.mem (fun _ _ _=>rfl) ⟨fun b=>by simp[Va.drop],hv,hrz⟩,hv,hrz⟩
 ·have hfg:V.f k g:=(hf g).2 (by rw[e1];rfl)
  have hno:=(h.foot k _ g hk hfg).2
  let I':Imm:=fun b o=>if b=g then(if o < rs.flatten.length then rs.flatten[o]? else none) else I b o
  have hle:I.le I':=fun b o x hx=>by
   show(if b=g then _ else I b o)=_
   rw[da (fun e=>by rw[e,hno o] at hx;cases hx)]
   exact hx
  have hI:∀m x,rs.flatten[m]?=some x→I' g (0+m)=some x:=fun m x hx=>by
   show(if g=g then _ else _)=_
   rw[db rfl,ca,db (ac.1 hx).1,hx]
  have hmem:Mem I' w:=fun b o x hx=>by
   change (if b=g then _ else I b o)=_ at hx
   split at hx
   ·next e =>
    subst e
    split at hx
    ·rw[cell_of_row w b o cur e (0,0) hg]
     have hx':=hx
     rw[←ht,bi] at hx'
     split at hx'
     ·simpa using hx'
     ·cases hx'
    ·cases hx
   ·exact h.mem b o x hx
  have hv:VRep I' (.sl rows) (V.s k):=by
   rw[e1]
   exact X1 h2 hn (fun i r u hr hu=>(h3 i r u hr hu).mono fun _ _ h=>h.mono hle) h4 hI
  refine⟨I',Fp h hk hle hmem (fun b o hb=>?_) ⟨fun b=>by simp[Va.drop],hv,hrz⟩,hv,hrz⟩
  show(if b=g then _ else I b o)=_
  rw[da (fun e=>hb (by rw[e];exact hfg))]
theorem Ut {l:List (List G)}{sz lo hi:Nat}(h:VRep I (.sl l) x)(hz:∀r∈l,r.length=sz)(h1:lo≤hi)(h2:hi≤l.length):VRep I (.sl (E6 l lo hi)) (Hc sz x lo hi):=by
 cases h with
 | sl l A c sz0 u hc hA hz0 h hu =>
  have hlen:(E6 l lo hi).length=hi - lo:=by unfold E6;rw[ba,au,ce h2]
  have hget:∀i r,(E6 l lo hi)[i]?=some r→lo+i < hi∧l[lo+i]?=some r:=fun i r hr=>by
   have hi':=(ac.1 hr).1
   rw[hlen] at hi'
   unfold E6 at hr
   rw[bu,bi,db (by omega)] at hr
   exact⟨by omega,hr⟩
  have key:=VRep.sl (I:=I) (E6 l lo hi) (if c=lo then A else A.map (·.add (lo * sz))) (c - lo) sz (fun i j=>u (lo+i) j) (by rw[hlen];omega) (fun e=>?_) (fun r hr=>?_) (fun i r hr=>?_) (fun i r j g hr hg=>?_)
  ·rw[hlen] at key
   exact key
  ·split at e
   ·next e'=>omega
   ·cases A with
    | none=>rw[hA rfl];omega
    | some a=>cases e
  ·obtain⟨i,hi',e⟩:=cf.1 hr
   have:=(hget i r (by rw[ab hi',e])).2
   exact hz r (ae this)
  ·obtain⟨hlt,hr⟩:=hget i r hr
   obtain⟨b,o,e,hI⟩:=h _ _ hr
   have hs:sz0=sz:=(hz0 r (ae hr)).symm.trans (hz r (ae hr))
   subst hs
   rw[da (by omega),e]
   exact⟨b,o+lo * sz0,by simp[C7],fun j hj=>by rw[←hI j hj,Nat.add_mul];congr 1;omega⟩
  ·exact hu _ r j g (hget i r hr).2 hg
theorem Dn {K1:G→Os→Prop}(h:Z8k own g K1)(hg:CRep I V g y)(hH:Has I V own w):∃g' own' I' V',K1 g' own'∧(V'.n=V.n∧V.kp V')∧Later own I V w own' I' V' w∧VRep I' g' y:=by
 cases g with
 | osl k =>
  unfold Z8k at h
  dsimp only at h
  obtain⟨hk,rfl⟩:=hg
  split at h
  ·next rows e sz hr =>
   obtain⟨I',h1,h2,-⟩:=Ec hH hr
   exact⟨_,_,I',V.drop k,h,⟨rfl,.drop _ _⟩,h1,h2⟩
  ·next rows sz hr=>exact⟨_,_,I,V,h,⟨rfl,.refl _⟩,.refl hH,(hH.each k _ hr).2.1⟩
  ·exact h.elim
 | osv k sz lo hi =>
  unfold Z8k at h
  dsimp only at h
  obtain⟨hk,⟨hb1,hb2⟩,rfl⟩:=(show k < V.n∧(lo≤hi∧hi≤Mf (V.s k))∧y=Hc sz (V.s k) lo hi from hg)
  split at h
  ·next rows e sz' hr =>
   split at h
   ·next hb =>
    have hb:=ai hb
    subst hb
    obtain⟨I',h1,h2,h3⟩:=Ec hH hr
    have hl:Mf (V.s k)=rows.length:=by generalize V.s k=z at h2;cases h2;rfl
    exact⟨_,_,I',V.drop k,h,⟨rfl,.drop _ _⟩,h1,Ut h2 h3 hb1 (by omega)⟩
   ·exact h.elim
  ·next rows sz' hr =>
   split at h
   ·next hb =>
    have hb:=ai hb
    subst hb
    obtain⟨-,h2,h3⟩:=hH.each k _ hr
    have hl:Mf (V.s k)=rows.length:=by generalize V.s k=z at h2;cases h2;rfl
    exact⟨_,_,I,V,h,⟨rfl,.refl _⟩,.refl hH,Ut h2 h3 hb1 (by omega)⟩
   ·exact h.elim
  ·exact h.elim
 | v x=>exact⟨_,_,I,V,h,⟨rfl,.refl _⟩,.refl hH,hg⟩
 | tt=>cases(show VRep I .tt y from hg);exact⟨_,_,I,V,h,⟨rfl,.refl _⟩,.refl hH,.v _⟩
 | ff=>cases(show VRep I .ff y from hg);exact⟨_,_,I,V,h,⟨rfl,.refl _⟩,.refl hH,.v _⟩
 | un=>exact⟨_,_,I,V,h,⟨rfl,.refl _⟩,.refl hH,hg⟩
 | nl =>
  cases(show VRep I .nl y from hg)
  exact⟨_,_,I,V,h,⟨rfl,.refl _⟩,.refl hH,.sl [] none 0 0 (fun _ _=>undef) (af _) (fun _=>rfl) (by simp) (fun i r h=>by simp at h) (fun i r j g h=>by simp at h)⟩
 | agg l=>exact⟨_,_,I,V,h,⟨rfl,.refl _⟩,.refl hH,hg⟩
 | sl l=>exact⟨_,_,I,V,h,⟨rfl,.refl _⟩,.refl hH,hg⟩
 | ptr k off =>
  obtain⟨b,i,h1,h2⟩:=Og (show Zbe k own own (fun b=>K1 (.v (.pointer (some ⟨b,off,none⟩))) own) from h)
  obtain⟨-,-,e⟩:=hH.each i _ h1
  obtain⟨-,rfl⟩:=hg
  exact⟨_,_,I,V,h2,⟨rfl,.refl _⟩,.refl hH,by rw[e];exact .v _⟩
 | _=>exact h.elim
theorem P4:∀{l:List G} {own:Os} {I:Imm} {V:Va} {cs:List Value} {K1:List G→Os→Prop},Zbw l own K1→PW (CRep I V) l cs→Has I V own w→∃l' own' I' V',K1 l' own'∧(V'.n=V.n∧V.kp V')∧Later own I V w own' I' V' w∧PW (VRep I') l' cs
 | [],own,I,V,cs,K1,h,hp,hH=>⟨[],own,I,V,h,⟨rfl,.refl _⟩,.refl hH,by rw[hp.of_nil];exact .nil⟩
 | g::l,own,I,V,cs,K1,h,hp,hH=>by
  obtain⟨x,cs',rfl,hx,hl⟩:=hp.uncons
  obtain⟨g',o1,I1,V1,h1,hn1,hl1,hv1⟩:=Dn (K1:=fun g' o'=>Zbw l o' fun l' o''=>K1 (g'::l') o'') h hx hH
  obtain⟨l',o2,I2,V2,h2,hn2,hl2,hv2⟩:=P4 h1 (hl.mono fun _ _ h=>h.mono hl1.fro.mono hl1.va) hl1.has
  exact⟨_,_,I2,V2,h2,⟨hn2.1.trans hn1.1,hn1.2.trans (Nat.le_of_eq hn1.1.symm) hn2.2⟩,hl1.trans hl2,.cons (hv1.mono hl2.fro.mono) hv2⟩
theorem Z84 {K1:G→Os→Prop}(h:pur own g K1)(hg:TRep I V g y)(hH:Has I V own w):∃g' own' I' V',K1 g' own'∧(V'.n=V.n∧V.kp V')∧Later own I V w own' I' V' w∧VRep I' g' y:=by
 cases g with
 | oag l =>
  obtain⟨cs,rfl,hp⟩:=(show ∃cs:List Value,y=.agg cs.toArray∧PW (CRep I V) l cs from hg)
  obtain⟨l',o2,I2,V2,h2,hn2,hl2,hv2⟩:=P4 (K1:=fun l' o'=>K1 (.agg l') o') h hp hH
  exact⟨_,_,I2,V2,h2,hn2,hl2,Zgd hv2⟩
 | v x=>exact Dn (g:=.v x) h hg hH
 | tt=>exact Dn (g:=.tt) h hg hH
 | ff=>exact Dn (g:=.ff) h hg hH
 | un=>exact Dn (g:=.un) h hg hH
 | nl=>exact Dn (g:=.nl) h hg hH
 | agg l=>exact Dn (g:=.agg l) h hg hH
 | sl l=>exact Dn (g:=.sl l) h hg hH
 | osl k=>exact Dn (g:=.osl k) h hg hH
 | osv k sz lo hi=>exact Dn (g:=.osv k sz lo hi) h hg hH
 | ptr k off=>exact Dn (g:=.ptr k off) h hg hH
 | _=>exact False.elim h
theorem PRep.of_v (h:VRep I g y):PRep I V g y:=by
 cases g with
 | ptr k o=>cases h
 | osl k=>cases h
 | osv k a b c=>cases h
 | oel k a b c=>cases h
 | mp k=>cases h
 | clo f a c=>cases h
 | oag l=>cases h
 | _=>exact h
theorem PRep.to_t (h:PRep I V g y):TRep I V g y:=by
 cases g with
 | ptr k o=>exact .of_c (g:=.ptr k o) h
 | osl k=>exact .of_c (g:=.osl k) h
 | osv k a b c=>exact .of_c (g:=.osv k a b c) h
 | oel k a b c=>exact .of_1 (g:=.oel k a b c) h
 | mp k=>exact .of_c (g:=.mp k) h
 | clo f a c=>exact .of_1 (g:=.clo f a c) h
 | v x=>exact .of_v (g:=.v x) h
 | tt=>exact .of_v (g:=.tt) h
 | ff=>exact .of_v (g:=.ff) h
 | un=>exact .of_v (g:=.un) h
 | nl=>exact .of_v (g:=.nl) h
 | agg l=>exact .of_v (g:=.agg l) h
 | sl l=>exact .of_v (g:=.sl l) h
 | oag l=>exact .of_1 (g:=.oag l) h.2
 | tup l=>cases(show VRep I (.tup l) y from h)
 | elp l o=>cases(show VRep I (.elp l o) y from h)
 | orv a b c d e f=>cases(show VRep I (.orv a b c d e f) y from h)
theorem PRep.to_1 (h:PRep I V g y):TRep1 I V g y:=by
 cases g with
 | tup l=>cases(show VRep I (.tup l) y from h)
 | _=>exact(PRep.to_t h)
theorem PRe1.to_1 (h:PRe1 I V g y):TRep1 I V g y:=by
 cases g with
 | oag l=>exact h
 | _=>exact PRep.to_1 (show PRep I V _ y from h)
theorem PRe1.of_p (h:PRep I V g y):PRe1 I V g y:=by
 cases g with
 | oag l=>exact h.2
 | _=>exact h
theorem PRe1.of_v (h:VRep I g y):PRe1 I V g y:=.of_p (.of_v h)
theorem PRes.to_t (h:PRes I V g y):TRep I V g y:=by
 cases g with
 | tup l=>obtain⟨cs,e,hp⟩:=h;exact⟨cs,e,hp.mono fun _ _ h=>h.to_1⟩
 | oag l=>exact .of_1 (g:=.oag l) h
 | _=>exact PRep.to_t (show PRep I V _ y from h)
theorem PRep.mono (h:PRep I V g y)(hI:I.le I')(hV:V.le V'):PRep I' V' g y:=by
 cases g with
 | ptr k o=>exact CRep.mono (g:=.ptr k o) h hI hV
 | osl k=>exact CRep.mono (g:=.osl k) h hI hV
 | osv k a b c=>exact CRep.mono (g:=.osv k a b c) h hI hV
 | oel k a b c=>exact TRep1.mono (g:=.oel k a b c) h hI hV
 | mp k=>exact CRep.mono (g:=.mp k) h hI hV
 | clo f a c=>exact TRep1.mono (g:=.clo f a c) h hI hV
 | oag l=>exact⟨h.1,TRep1.mono (g:=.oag l) h.2 hI hV⟩
 | _=>exact VRep.mono h hI
theorem PRe1.mono (h:PRe1 I V g y)(hI:I.le I')(hV:V.le V'):PRe1 I' V' g y:=by
 cases g with
 | oag l=>exact TRep1.mono (g:=.oag l) h hI hV
 | _=>exact .of_p (PRep.mono (show PRep I V _ y from h) hI hV)
theorem Z3d {K1:G→Os→Prop}(h:Ze2 own g K1)(hg:TRep I V g y)(hH:Has I V own w):∃g' own' I' V',K1 g' own'∧(V'.n=V.n∧V.kp V')∧Later own I V w own' I' V' w∧PRep I' V' g' y:=by
 have key:pur own g K1→∃g' own' I' V',K1 g' own'∧(V'.n=V.n∧V.kp V')∧Later own I V w own' I' V' w∧PRep I' V' g' y:=fun h=>by
  obtain⟨g',o1,I1,V1,h1,h2,h3,h4⟩:=Z84 h hg hH
  exact⟨g',o1,I1,V1,h1,h2,h3,.of_v h4⟩
 cases g with
 | ptr k o=>exact⟨_,_,I,V,h,⟨rfl,.refl _⟩,.refl hH,hg⟩
 | clo f a c=>exact⟨_,_,I,V,h,⟨rfl,.refl _⟩,.refl hH,hg⟩
 | _=>exact key h
theorem Z1m:∀{l:List G} {own:Os} {I:Imm} {V:Va} {cs:List Value} {K1:List G→Os→Prop},Zfn l own K1→PW (TRep I V) l cs→Has I V own w→∃l' own' I' V',K1 l' own'∧(V'.n=V.n∧V.kp V')∧Later own I V w own' I' V' w∧PW (PRep I' V') l' cs
 | [],own,I,V,cs,K1,h,hp,hH=>⟨[],own,I,V,h,⟨rfl,.refl _⟩,.refl hH,by rw[hp.of_nil];exact .nil⟩
 | g::l,own,I,V,cs,K1,h,hp,hH=>by
  obtain⟨x,cs',rfl,hx,hl⟩:=hp.uncons
  obtain⟨g',o1,I1,V1,h1,hn1,hl1,hv1⟩:=Z3d (K1:=fun g' o'=>Zfn l o' fun l' o''=>K1 (g'::l') o'') h hx hH
  obtain⟨l',o2,I2,V2,h2,hn2,hl2,hv2⟩:=Z1m h1 (hl.mono fun _ _ h=>h.mono hl1.fro.mono hl1.va) hl1.has
  exact⟨_,_,I2,V2,h2,⟨hn2.1.trans hn1.1,hn1.2.trans (Nat.le_of_eq hn1.1.symm) hn2.2⟩,hl1.trans hl2,.cons (hv1.mono hl2.fro.mono hl2.va) hv2⟩
theorem Fg (h:Has I V own w)(hm:Mem I' w')(hle:I.le I')(hI:∀b o,b < w.heap.size→I' b o=I b o)(hw:Below w.heap.size w w'):Later own I V w own I' V w' :=
 ⟨⟨hm,h.num,fun k r hk=>(h.each k r hk).keep hle (.refl _) (h.num k r hk) rfl hw.os hw.size fun b hb=>hw.block b (h.foot k r b hk hb).1,fun k r b hk hb=>by
  obtain⟨h1,h2⟩:=h.foot k r b hk hb
  exact⟨ap h1 hw.size,fun o=>(hI b o h1).trans (h2 o)⟩,h.disj⟩,⟨hw.os,hw.tape,hw.output,hw.size,fun b hb _=>⟨hw.block b hb,fun o=>hI b o hb⟩,hle,fun k r b hk hb _=>⟨k,r,hk,hb⟩⟩,.refl _⟩
end
theorem de:type_of%@EvIf.beq:=@EvIf.beq
theorem df:type_of%@EvIf.dec:=@EvIf.dec
theorem dg:type_of%@EvCall.gh:=@EvCall.gh
theorem dh:type_of%@EvCall.lend:=@EvCall.lend
theorem di:type_of%@EvIf.bne:=@EvIf.bne
theorem dj:type_of%@EvIf.mk:=@EvIf.mk
theorem dk:type_of%@EvIdx.at:=@EvIdx.at
theorem dl:type_of%@EvIdx.atI:=@EvIdx.atI
theorem dm:type_of%@EvSet.at:=@EvSet.at
theorem dn:type_of%@EvIdx.of:=@EvIdx.of
end Go.Proofs.YtihfaocdpmmooaaGreat
