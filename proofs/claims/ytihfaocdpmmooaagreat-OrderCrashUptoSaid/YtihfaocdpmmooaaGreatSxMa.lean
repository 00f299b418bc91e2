
import Derived.Below
import Derived.OrdersHeld
import Derived.Test.YtihfaocdpmmooaaGreatZKeys
import Derived.Test.YtihfaocdpmmooaaGreatOwnM
import Derived.Test.YtihfaocdpmmooaaGreatZFrm
import Derived.Great.BuildSlice
import Derived.Laws.AppendOwnNone
import Derived.Deep.AppendSrc
import Derived.IntWalk
import Derived.Laws.StructEq
import Derived.Laws.Small
namespace Go.Proofs.YtihfaocdpmmooaaGreat
open Go.RowKit
inductive G where
 | v (x:Value)
 | tt
 | ff
 | un
 | nl
 | agg (l:List G)
 | oag (l:List G)
 | tup (l:List G)
 | ptr (k off:Nat)
 | sl (l:List (List G))
 | osl (k:Nat)
 | osv (k sz lo hi:Nat)
 | elp (row:List G) (off:Nat)
 | oel (k i sz off:Nat)
 | orv (k i sz off len cap:Nat)
 | mp (k:Nat)
 | clo (f:Nat) (a c:List G)
abbrev Ob:=(Nat→Nat→Option Value)→Nat→(Nat→Prop)→World→Prop
inductive R where
 | blk (cs:List G) (t:TypeId)
 | slc (rows:List (List G)) (e:TypeId) (sz:Nat)
 | froz (rows:List (List G)) (sz:Nat)
 | gone
 | mpI (l:List (Int × G))
 | mpS (l:List (ByteArray × G))
 | sit (s:ByteArray) (pos:Nat)
 | mpX (l:List (ByteArray × G)) (m:Nat) (ob:Obj)
 | mit (k:Nat) (l:List (ByteArray × G)) (D:List ByteArray) (last:Option (ByteArray × G)) (m:Nat) (ob:Obj)
 | abs (p:Ob)
 | lnk (j:Nat)
 | adr (k b:Nat)
 | fam (ps:List Ob)
 | vw (rows:List (List G)) (e:TypeId) (sz:Nat)
inductive KD where
 | no
 | arr (n:Nat) (e:TypeId) (sz:Nat)
 | map (str:Bool) (e:TypeId)
 | ptr
 | fn
 | bool
structure TI where
 agg:Bool
 zero:List G
 elem:Option (TypeId × Nat)
 flds:List (TypeId × Nat)
 str:Bool
 ik:Option IntKind
 kd:KD
abbrev Ts:=List (Nat × G)
abbrev Os:=List (Nat × R)
def look {α:Type}(i:Nat):List (Nat × α)→Option α
 | []=>none
 | (j,g)::r=>bif Nat.beq i j then some g else look i r
def put (d:Option Tmp)(g:G)(t:Ts):Ts:=match d with
 | some d=>(d,g)::t
 | none=>t
def Gof:Value→G
 | .bool true=>.tt
 | .bool false=>.ff
 | .slice none 0 0=>.nl
 | x=>.v x
structure EvIf (c:Bool)(A B:Prop):Prop where
 yes:c=true→A
 no:c=false→B
structure EvRng (n:Int)(A:Prop):Prop where
 rng:-9223372036854775808≤n∧n≤9223372036854775807
 next:A
structure EvIdx {α:Type}(l:List α)(n:Int)(K:α→Prop):Prop where
 rng:0≤n∧n < l.length
 next:∀x,l[n.toNat]?=some x→K x
structure EvSet {α:Type}(l:List α)(n:Nat)(F:α→(α→Prop)→Prop)(K:List α→Prop):Prop where
 rng:n < l.length
 next:∀x,l[n]?=some x→F x fun y=>K (l.set n y)
structure EvRoom (n:Nat)(A:Prop):Prop where
 room:n≤1073741824
 next:A
structure Zg3 {α:Type}(l:List (List α))(sz:Nat)(one:α→Bool)(A:Prop):Prop where
 rows:∀r∈l,r.length=sz∧r.all one=true
 next:A
structure Z2l (l h:Int)(n:Nat)(A:Prop):Prop where
 rng:0≤l∧l≤h∧h≤n
 next:A
structure Zjw {α:Type}(l:List (List α))(sz:Nat)(A:Prop):Prop where
 rows:∀r∈l,r.length=sz
 next:A
structure EvDiv (n:Int)(A:Prop):Prop where
 ne:n≠0
 next:A
def gBy (c:UInt8):List G:=[.v (.int .u8 c.toNat)]
structure EvBytes (l:List (List G))(K:List UInt8→Prop):Prop where
 run:∃bs:List UInt8,l=bs.map gBy∧K bs
def Nl (l:List G)(cs:List Value):Prop:=l=cs.map .v
structure Zfv {α:Type}(l:List α)(K:Bool→Prop):Prop where
 run:∀b:Bool,(l≠[]→b=false)→K b
structure Zi2 {α:Type}(l:List (List α))(m:Nat)(K:List α→Prop):Prop where
 pos:0 < m
 run:∃r:List α,r.length=m∧l.take m=r.map (fun g=>[g])∧K r
structure EvEq (P:Program)(t:TypeId)(l m:List G)(K:Bool→Prop):Prop where
 run:∃cs ds b,Nl l cs∧Nl m ds∧P.eqGuardType P.depth t=false∧(∀w,(Op.equalIn 10000 t (.agg cs.toArray) (.agg ds.toArray)).run P w=.ok b w)∧K b
theorem EvIdx.at {α β:Type}{f:α→β}{l:List α}{i:Nat}{x:α}{K:β→Prop}(b:l[i]?=some x)(h:K (f x)):EvIdx (l.map f) i K :=
 ⟨by have:=(ac.1 b).1;simp;omega,fun y hy=>by rw[az,aj,b] at hy;obtain rfl:=cj hy;exact h⟩
theorem EvIdx.atI {α β:Type}{f:α→β}{l:List α}{n:Int}{x:α}{K:β→Prop}(b:0≤n)(c:l[n.toNat]?=some x)(h:K (f x)):EvIdx (l.map f) n K:=by obtain⟨i,rfl⟩:=Int.eq_ofNat_of_zero_le b;exact .at c h
theorem EvSet.at {α β:Type}{f:α→β}{l c:List α}{i:Nat}{x y:α}{F:β→(β→Prop)→Prop}{K:List β→Prop}(j:l[i]?=some x)(m:∀k:β→Prop,k (f y)→F (f x) k)(p:l.set i y=c)(h:K (c.map f)):EvSet (l.map f) i F K :=
 ⟨by have:=(ac.1 j).1;simpa using this,fun z b=>by rw[aj,j] at b;obtain rfl:=cj b;refine m _ ?_;rw[←List.map_set,p];exact h⟩
theorem EvIdx.of {α β:Type}{f:α→β}{l:List α}{i:Nat}{K:β→Prop}(hi:i < l.length)(h:∀x,l[i]?=some x→K (f x)):EvIdx (l.map f) i K :=
 .at (ab hi) (h _ (ab hi))
theorem EvIf.dec {p:Prop}[Decidable p]{A B:Prop}(b:p→A)(c:¬p→B):EvIf (decide p) A B:=⟨fun h=>b (of_decide_eq_true h),fun h=>c (of_decide_eq_false h)⟩
theorem EvIf.beq {x y:Int}{A B:Prop}(b:x=y→A)(c:x≠y→B):EvIf (x==y) A B:=⟨fun h=>b (eq_of_beq h),fun h=>c (ne_of_beq_false h)⟩
theorem EvIf.bne {x y:Int}{A B:Prop}(b:x≠y→A)(c:x=y→B):EvIf (x != y) A B:=⟨fun h=>b (bne_iff_ne.1 h),fun h=>c (by simpa using h)⟩
theorem Qc {a b:ByteArray}:(a.toList==b.toList)=decide (a=b):=by
 have key:a.toList=b.toList↔a=b:=⟨fun h=>by
  have e:∀c:ByteArray,c.toList=c.data.toList:=fun c=>by
   have key:∀(n i:Nat) (r:List UInt8),c.size - i=n→ByteArray.toList.loop c i r=r.reverse++(c.data.toList.drop i):=fun n=>by
    induction n with
    | zero =>
     intro i r j;unfold ByteArray.toList.loop;have:¬i < c.size:=by omega
     rw[db this,c8 (by show c.data.toList.length≤i;simp;exact Nat.le_of_not_lt this)];simp
    | succ n ih =>
     intro i r j;unfold ByteArray.toList.loop;have hi:i < c.size:=by omega
     rw[dc hi,ih (i+1) _ (by omega)];have m:i < c.data.toList.length:=by simpa using hi
     rw[List.drop_eq_getElem_cons m];simp[ByteArray.get!,hi]
   have:=key _ 0 [] rfl;simpa [ByteArray.toList] using this
  rw[e,e] at h;cases a;cases b
  congr
  simpa using congrArg List.toArray h,fun h=>by rw[h]⟩
 by_cases h:a=b
 ·simp[h]
 ·simp[h,mt key.1 h]
theorem EvIf.bneS {x y:ByteArray}{A B:Prop}(b:x≠y→A)(c:x=y→B):EvIf (!(x.toList==y.toList)) A B:=by rw[Qc];exact⟨fun h=>b (by simpa using h),fun h=>c (by simpa using h)⟩
def Gc (k:Nat):List Nat→Bool
 | []=>false
 | j::l=>bif Nat.beq k j then true else Gc k l
def nth {α:Type}:List α→Nat→Option α
 | [],_=>none
 | x::_,0=>some x
 | _::l,n+1=>nth l n
def G.pure:G→Bool
 | .ptr _ _ | .osl _ | .osv _ _ _ _ | .oag _ | .elp _ _ | .oel _ _ _ _ | .orv _ _ _ _ _ _ | .tup _ | .nl | .tt | .ff | .mp _ | .clo _ _ _=>false
 | _=>true
def G.cap:G→Bool
 | .ptr _ _ | .mp _=>true
 | .v x=>x.oneCell'
 | _=>false
def G.one:G→Bool
 | .v x=>x.oneCell'
 | .tt | .ff | .nl | .sl _ | .ptr _ _ | .osl _ | .osv _ _ _ _ | .mp _=>true
 | _=>false
def Gx:G→Bool
 | .v x=>x.oneCell'
 | _=>false
structure Fc (c A:Prop):Prop where
 fit:c
 next:A
def Xh (n:Nat):Bool:=Nat.blt 48 n
def Zim:List G→Nat→Nat→(List G→Prop)→Prop
 | _,_,0,K=>K []
 | [],_,_+1,_=>False
 | g::l,0,n+1,K=>Zim l 0 n fun r=>K (g::r)
 | _::l,k+1,n+1,K=>Zim l k (n+1) K
def seg (l:List G)(k n:Nat)(K:List G→Prop):Prop:=match Xh n with
 | false=>Zim l k n K
 | true=>Fc (k+n≤l.length) (K ((l.drop k).take n))
def Zio:List G→Nat→List G→(List G→Prop)→Prop
 | l,_,[],K=>K l
 | [],_,_::_,_=>False
 | _::l,0,c::cs,K=>Zio l 0 cs fun r=>K (c::r)
 | g::l,k+1,c::cs,K=>Zio l k (c::cs) fun r=>K (g::r)
def ovr (n:Nat)(l:List G)(k:Nat)(cs:List G)(K:List G→Prop):Prop:=match Xh n with
 | false=>Zio l k cs K
 | true=>Fc (cs.length=n∧k+n≤l.length) (K (l.take k++cs++l.drop (k+n)))
def B4 {α:Type}(p:α→Bool):List α→Bool
 | []=>true
 | g::l=>bif p g then B4 p l else false
def Jt (n:Nat)(l:List G)(K:G→Prop):Prop:=match Xh n with
 | false=>match B4 G.pure l with
  | true=>K (.agg l)
  | false=>K (.oag l)
 | true=>Fc (∀g∈l,g.pure=true) (K (.agg l))
def Es (rows:List (List G))(lo hi:Nat):List (List G):=(rows.take hi).drop lo
def Ze1 (k:Nat)(o:Os):Os→(Nat→Prop)→Prop
 | [],_=>False
 | (i,_)::l,K=>match look i o with
  | some (.adr j b)=>match Nat.beq k j with
   | true=>K b
   | false=>Ze1 k o l K
  | _=>Ze1 k o l K
def Zas (o:Os)(g:G)(K:G→Os→Prop):Prop:=match g with
 | .osl k=>match look k o with
  | some (.slc rows _ sz)=>K (.sl rows) ((k,.froz rows sz)::o)
  | some (.froz rows _)=>K (.sl rows) o
  | _=>False
 | .osv k sz lo hi=>match look k o with
  | some (.slc rows _ sz')=>match Nat.beq sz sz' with
   | true=>K (.sl (Es rows lo hi)) ((k,.froz rows sz)::o)
   | false=>False
  | some (.froz rows sz')=>match Nat.beq sz sz' with
   | true=>K (.sl (Es rows lo hi)) o
   | false=>False
  | _=>False
 | .nl=>K (.sl []) o
 | .tt=>K (.v (.bool true)) o
 | .ff=>K (.v (.bool false)) o
 | .ptr k off=>Ze1 k o o fun b=>K (.v (.pointer (some ⟨b,off,none⟩))) o
 | .oag _ | .elp _ _ | .oel _ _ _ _ | .orv _ _ _ _ _ _ | .tup _ | .mp _ | .clo _ _ _=>False
 | g=>K g o
def Zee:List G→Os→(List G→Os→Prop)→Prop
 | [],o,K=>K [] o
 | g::l,o,K=>Zas o g fun j h=>Zee l h fun c b=>K (j::c) b
def pur (o:Os)(g:G)(K:G→Os→Prop):Prop:=match g with
 | .oag l=>Zee l o fun b c=>K (.agg b) c
 | g=>Zas o g K
def Zhe (o:Os)(g:G)(K:G→Os→Prop):Prop:=match g with
 | .ptr k off=>K (.ptr k off) o
 | .clo f a c=>K (.clo f a c) o
 | g=>pur o g K
def Zil:List G→Os→(List G→Os→Prop)→Prop
 | [],o,K=>K [] o
 | g::l,o,K=>Zhe o g fun j h=>Zil l h fun c b=>K (j::c) b
def Z61:G→G
 | .nl=>.sl []
 | .tt=>.v (.bool true)
 | .ff=>.v (.bool false)
 | g=>g
def Zc5 (t:Ts)(w:Os)(n:Nat)(d:Option Tmp)(g:G)(new:List (List G))(e sz:Nat)(K:Ts→Os→Nat→Prop):Prop:=match g with
 | .osl k=>match look k w with
  | some (.slc rows e' sz')=>match Nat.beq e e',Nat.beq sz sz' with
   | true,true=>EvRoom (rows.length+new.length) (K (put d (.osl n) t) ((n,.slc (rows++new) e sz)::(k,.gone)::w) (n+1))
   | _,_=>False
  | _=>False
 | .nl=>EvRoom new.length (K (put d (.osl n) t) ((n,.slc new e sz)::w) (n+1))
 | _=>False
def Zf4 (t:Ts)(w:Os)(n:Nat)(d:Option Tmp)(g:G)(new:List (List G))(e sz:Nat)(K:Ts→Os→Nat→Prop):Prop:=match g with
 | .osl k=>match look k w with
  | some (.vw rows e' sz')=>match Nat.beq e e',Nat.beq sz sz' with
   | true,true=>EvRoom (rows.length+new.length) (K (put d (.osl n) t) ((n,.vw (rows++new) e sz)::(k,.gone)::w) (n+1))
   | _,_=>False
  | _=>Zc5 t w n d (.osl k) new e sz K
 | .orv k 0 (sz'+1) 0 l c=>match look k w with
  | some (.vw rows e' sz2)=>match Nat.beq e e',Nat.beq sz (sz'+1),Nat.beq sz sz2,Nat.beq l c,Nat.ble l rows.length with
   | true,true,true,true,true=>EvRoom (l+new.length) (K (put d (.osl n) t) ((n,.vw (rows.take l++new) e sz)::(k,.gone)::w) (n+1))
   | _,_,_,_,_=>False
  | _=>False
 | g=>Zc5 t w n d g new e sz K
def Zgw (g:G)(K:ByteArray→Prop):Prop:=match g with
 | .v (.string s)=>K s
 | _=>False
def I9 {α:Type}(k:Nat):List Nat→(List Nat→α)→α
 | [],K=>K [k]
 | j::l,K=>match Nat.beq k j with
  | true=>K (j::l)
  | false=>I9 k l fun r=>K (j::r)
def gkC {α:Type}(g:G)(ks:List Nat)(K:List Nat→α):α:=match g with
 | .ptr k _ | .osl k | .osv k _ _ _ | .oel k _ _ _ | .mp k=>I9 k ks K
 | _=>K ks
def Zbc {α:Type}:List G→List Nat→(List Nat→α)→α
 | [],ks,K=>K ks
 | g::l,ks,K=>gkC g ks fun ks=>Zbc l ks K
def gk1 {α:Type}(g:G)(ks:List Nat)(K:List Nat→α):α:=match g with
 | .oag l=>Zbc l ks K
 | .clo _ a c=>Zbc a ks fun ks=>Zbc c ks K
 | g=>gkC g ks K
def gkL {α:Type}:List G→List Nat→(List Nat→α)→α
 | [],ks,K=>K ks
 | g::l,ks,K=>gk1 g ks fun ks=>gkL l ks K
def C2:G→Bool
 | .ptr _ _ | .osl _ | .osv _ _ _ _ | .oel _ _ _ _ | .orv _ _ _ _ _ _ | .mp _=>false
 | _=>true
def Jh:R→Bool
 | .blk cs _=>B4 C2 cs
 | .lnk _=>false
 | .adr _ _=>false
 | _=>true
def Jy:List Nat→Nat→List (Nat × Nat)
 | [],_=>[]
 | k::ks,i=>(k,i)::Jy ks (i+1)
def T2:List Nat→Nat→List R→Nat→List (Nat × Nat)
 | k::ks,n,_::rs,i=>(i,k)::T2 ks n rs (i+1)
 | [],n,_::rs,i=>(i,n)::T2 [] (n+1) rs (i+1)
 | _,_,[],_=>[]
def Bk:List R→Nat→Os
 | [],_=>[]
 | r::rs,i=>(i,r)::Bk rs (i+1)
def ev (t:Ts)(o:Os)(x:Operand)(K:G→Prop):Prop:=match x with
 | .tmp i=>match look i t with
  | some (.osl k)=>match look k o with
   | some (.froz rows _)=>K (.sl rows)
   | _=>K (.osl k)
  | some g=>K g
  | none=>False
 | .const x=>K (Gof x)
 | .func f=>K (.v (.func (.func f) #[] #[]))
 | .global _=>False
def evs (t:Ts)(o:Os):List Operand→(List G→Prop)→Prop
 | [],K=>K []
 | x::l,K=>ev t o x fun g=>evs t o l fun r=>K (g::r)
def Gp (o:Os)(g:G)(K:List G→Prop):Prop:=match g with
 | .agg l=>K l
 | .oag l=>K l
 | .tup _ | .elp _ _ | .oel _ _ _ _ | .orv _ _ _ _ _ _ | .un | .clo _ _ _=>False
 | .v x=>match x.oneCell' with
  | true=>K [.v x]
  | false=>False
 | .osl k=>match look k o with
  | some (.slc _ _ _)=>K [.osl k]
  | some (.froz rows _)=>K [.sl rows]
  | some (.vw _ _ _)=>K [.osl k]
  | _=>False
 | .osv k sz lo hi=>match look k o with
  | some (.slc _ _ _)=>K [.osv k sz lo hi]
  | some (.vw _ _ _)=>K [.osv k sz lo hi]
  | _=>False
 | g=>K [g]
def Zhu (g:G)(K:List G→Prop):Prop:=match g with
 | .agg l=>K l
 | .oag l=>K l
 | _=>False
def Zei (o:Os):G→Bool
 | .osl k=>match look k o with
  | some (.slc _ _ _)=>true
  | some (.vw _ _ _)=>true
  | _=>false
 | .osv k _ _ _=>match look k o with
  | some (.slc _ _ _)=>true
  | some (.vw _ _ _)=>true
  | _=>false
 | g=>G.one g
def Tu (o:Os)(g:G)(K:List (List G)→Prop):Prop:=match g with
 | .nl=>K []
 | .sl rows=>K rows
 | .osl k=>match look k o with
  | some (.slc rows _ _)=>K rows
  | some (.froz rows _)=>K rows
  | some (.vw rows _ _)=>K rows
  | _=>False
 | .osv k _ lo hi=>match look k o with
  | some (.slc rows _ _)=>K (Es rows lo hi)
  | _=>False
 | _=>False
def Zl4 (o:Os)(g:G)(K:Int→Prop):Prop:=match g with
 | .orv _ _ _ _ l _=>K l
 | g=>Tu o g fun rows=>K rows.length
def Z5x (o:Os)(g:G)(sz:Nat)(K:List (List G)→Prop):Prop:=match g with
 | .nl=>K []
 | .sl rows=>Zg3 rows sz G.one (K rows)
 | .osl k=>match look k o with
  | some (.slc rows _ sz')=>match Nat.beq sz' sz with
   | true=>K rows
   | false=>False
  | _=>False
 | .osv k sz0 lo hi=>match look k o with
  | some (.slc rows _ sz')=>match Nat.beq sz' sz,Nat.beq sz0 sz with
   | true,true=>K (Es rows lo hi)
   | _,_=>False
  | some (.vw rows _ sz')=>match Nat.beq sz' sz,Nat.beq sz0 sz with
   | true,true=>K (Es rows lo hi)
   | _,_=>False
  | _=>False
 | _=>False
def Kg (m:List (Nat × Nat)):G→G
 | .ptr k off=>.ptr ((look k m).getD k) off
 | .osl k=>.osl ((look k m).getD k)
 | .osv k sz lo hi=>.osv ((look k m).getD k) sz lo hi
 | .oel k i sz off=>.oel ((look k m).getD k) i sz off
 | .orv k i sz off l c=>.orv ((look k m).getD k) i sz off l c
 | .mp k=>.mp ((look k m).getD k)
 | g=>g
def Z5r (m:List (Nat × Nat)):G→G
 | .oag l=>.oag (l.map (Kg m))
 | .clo f a c=>.clo f (a.map (Kg m)) (c.map (Kg m))
 | g=>Kg m g
def Qs (m:List (Nat × Nat)):G→G
 | .tup l=>.tup (l.map (Z5r m))
 | g=>Z5r m g
def Ii (m:List (Nat × Nat)):R→R
 | .blk cs t=>.blk (cs.map (Kg m)) t
 | .adr k b=>.adr ((look k m).getD k) b
 | .lnk j=>.lnk ((look j m).getD j)
 | r=>r
def Lb (m:List (Nat × Nat)):G→G
 | .osl k=>.osl ((look k m).getD k)
 | .osv k sz lo hi=>.osv ((look k m).getD k) sz lo hi
 | .oel k i sz off=>.oel ((look k m).getD k) i sz off
 | .orv k i sz off l c=>match sz with
  | 0=>.orv k i 0 off l c
  | s+1=>.orv ((look k m).getD k) i (s+1) off l c
 | g=>g
def Tc (m:List (Nat × Nat)):G→G
 | .oag l=>.oag (l.map (Lb m))
 | .clo f a c=>.clo f (a.map (Lb m)) (c.map (Lb m))
 | g=>Lb m g
def renS (m:List (Nat × Nat)):G→G
 | .tup l=>.tup (l.map (Tc m))
 | g=>Tc m g
def Z9f (m:List (Nat × Nat)):R→R
 | .blk cs t=>.blk (cs.map (Lb m)) t
 | r=>r
def isS:R→Bool
 | .slc _ _ _ | .froz _ _ | .gone=>true
 | .vw _ _ _=>true
 | .fam _=>true
 | _=>false
def Sz (n:Nat):G→Bool
 | .ptr k _ | .osl k | .oel k _ _ _ | .osv k _ _ _ | .mp k=>Nat.blt k n
 | .orv k _ _ _ _ _=>Nat.blt k n
 | _=>true
def Zbh (n:Nat):G→Bool
 | .oag l=>B4 (Sz n) l
 | .clo _ a c=>match B4 (Sz n) a with
  | true=>B4 (Sz n) c
  | false=>false
 | .tup _=>false
 | g=>Sz n g
def Z7y (n:Nat):G→Bool
 | .tup l=>B4 (Zbh n) l
 | g=>Zbh n g
def Zp (n:Nat):R→Bool
 | .blk cs _=>B4 (Sz n) cs
 | .lnk _=>false
 | .adr k _=>Nat.blt k n
 | _=>true
def Pb (own:Os):List Nat→List Nat→(List Nat→Prop)→Prop
 | [],b,K=>K b
 | k::l,b,K=>match look k own with
  | some (.blk cs _)=>Zbc cs b fun b=>Pb own l b K
  | _=>Pb own l b K
def trK (own:Os):Nat→List Nat→(List Nat→Prop)→Prop
 | 0,ks,K=>K ks
 | n+1,ks,K=>Pb own ks ks fun ks=>trK own n ks K
def Zii (ks:List Nat):G→Bool
 | .ptr k _ | .osl k | .osv k _ _ _ | .oel k _ _ _ | .mp k=>Gc k ks
 | _=>true
def Z5p (ks:List Nat):R→Bool
 | .blk cs _=>B4 (Zii ks) cs
 | .lnk _=>false
 | .adr k _=>Gc k ks
 | _=>true
def rsK (own:Os)(b:List Nat):List Nat→(List R→Prop)→Prop
 | [],K=>K []
 | k::ks,K=>match look k own with
  | some r=>match Jh r with
   | true=>rsK own b ks fun rs=>K (r::rs)
   | false=>match Z5p b r with
    | true=>rsK own b ks fun rs=>K (Ii (Jy b 0) r::rs)
    | false=>False
  | none=>False
def Z6y (tt:List (Nat × TI))(ty:TypeId):KD:=match look ty tt with
 | some i=>i.kd
 | none=>.no
def Zg0 (tt:List (Nat × TI))(ty:TypeId)(op:BinOp)(b:Bool)(K:G→Prop):Prop:=match Z6y tt ty,op with
 | .ptr,.eql=>K (bif b then .tt else .ff)
 | .ptr,.neq=>K (bif b then .ff else .tt)
 | _,_=>False
def Z7q (g:G)(K:Bool→Prop):Prop:=match g with
 | .tt=>K true
 | .ff=>K false
 | .v (.bool b)=>K b
 | _=>False
structure Zir (n:Int)(K:Prop):Prop where
 nn:0≤n
 next:K
def Zi9 (P:Program)(tt:List (Nat × TI))(ty:TypeId)(op:BinOp)(x y:G)(K:G→Prop):Prop:=match x,y with
 | .v (.int .i64 a),.v (.int .i64 b)=>match op with
  | .add=>EvRng (a+b) (K (.v (.int .i64 (a+b))))
  | .sub=>EvRng (a - b) (K (.v (.int .i64 (a - b))))
  | .mul=>EvRng (a * b) (K (.v (.int .i64 (a * b))))
  | .quo=>EvDiv b (EvRng (a.tdiv b) (K (.v (.int .i64 (a.tdiv b)))))
  | .rem=>EvDiv b (K (.v (.int .i64 (a.tmod b))))
  | .or=>K (.v (.int .i64 (IntKind.wrap .i64 ((BitVec.ofInt 64 a ||| BitVec.ofInt 64 b).toNat:Nat))))
  | .and=>K (.v (.int .i64 (IntKind.wrap .i64 ((BitVec.ofInt 64 a &&& BitVec.ofInt 64 b).toNat:Nat))))
  | .eql=>K (.v (.bool (a==b)))
  | .neq=>K (.v (.bool (a != b)))
  | .lss=>K (.v (.bool (decide (a < b))))
  | .leq=>K (.v (.bool (decide (a≤b))))
  | .gtr=>K (.v (.bool (decide (a > b))))
  | .geq=>K (.v (.bool (decide (a ≥ b))))
  | _=>False
 | .v (.int .i64 a),.v (.int .u64 b)=>match op with
  | .shr=>Zir b (K (.v (.int .i64 (a.fdiv (2 ^ min b.toNat 64)))))
  | _=>False
 | .v (.int .u8 a),.v (.int .u8 b)=>match op with
  | .eql=>K (.v (.bool (a==b)))
  | .neq=>K (.v (.bool (a != b)))
  | .lss=>K (.v (.bool (decide (a < b))))
  | .leq=>K (.v (.bool (decide (a≤b))))
  | .gtr=>K (.v (.bool (decide (a > b))))
  | .geq=>K (.v (.bool (decide (a ≥ b))))
  | _=>False
 | .v (.int .u64 a),.v (.int .u64 b)=>match op with
  | .shr=>Zir b (K (.v (.int .u64 (a.fdiv (2 ^ min b.toNat 64)))))
  | .shl=>Zir b (K (.v (.int .u64 (IntKind.wrap .u64 (a * 2 ^ min b.toNat 64)))))
  | .add=>K (.v (.int .u64 (IntKind.wrap .u64 (a+b))))
  | .mul=>K (.v (.int .u64 (IntKind.wrap .u64 (a * b))))
  | .rem=>EvDiv b (K (.v (.int .u64 (a.tmod b))))
  | .or=>K (.v (.int .u64 (IntKind.wrap .u64 ((BitVec.ofInt 64 a ||| BitVec.ofInt 64 b).toNat:Nat))))
  | .and=>K (.v (.int .u64 (IntKind.wrap .u64 ((BitVec.ofInt 64 a &&& BitVec.ofInt 64 b).toNat:Nat))))
  | .eql=>K (.v (.bool (a==b)))
  | .neq=>K (.v (.bool (a != b)))
  | .lss=>K (.v (.bool (decide (a < b))))
  | .leq=>K (.v (.bool (decide (a≤b))))
  | .gtr=>K (.v (.bool (decide (a > b))))
  | .geq=>K (.v (.bool (decide (a ≥ b))))
  | _=>False
 | .v (.int .u64 a),.v (.int _ b)=>match op with
  | .shr=>Zir b (K (.v (.int .u64 (a.fdiv (2 ^ min b.toNat 64)))))
  | _=>False
 | .v (.string a),.v (.string b)=>match op with
  | .add=>EvRng ((a.size+b.size:Nat):Int) (K (.v (.string (a++b))))
  | .eql=>K (.v (.bool (a.toList==b.toList)))
  | .neq=>K (.v (.bool (!(a.toList==b.toList))))
  | .lss=>K (.v (.bool (Op.bytesLess a.toList b.toList)))
  | .leq=>K (.v (.bool (Op.bytesLess a.toList b.toList||a.toList==b.toList)))
  | .gtr=>K (.v (.bool (!(Op.bytesLess a.toList b.toList||a.toList==b.toList))))
  | .geq=>K (.v (.bool (!Op.bytesLess a.toList b.toList)))
  | _=>False
 | .agg l,.agg m=>match op with
  | .eql=>EvEq P ty l m fun b=>K (.v (.bool b))
  | .neq=>EvEq P ty l m fun b=>K (.v (.bool (!b)))
  | _=>False
 | .v (.int .i32 a),.v (.int .i32 b)=>match op with
  | .sub=>K (.v (.int .i32 (IntKind.wrap .i32 (a - b))))
  | .eql=>K (.v (.bool (a==b)))
  | .neq=>K (.v (.bool (a != b)))
  | .lss=>K (.v (.bool (decide (a < b))))
  | .leq=>K (.v (.bool (decide (a≤b))))
  | .gtr=>K (.v (.bool (decide (a > b))))
  | .geq=>K (.v (.bool (decide (a ≥ b))))
  | _=>False
 | .ptr _ _,.v (.pointer none)=>Zg0 tt ty op false K
 | .v (.pointer none),.ptr _ _=>Zg0 tt ty op false K
 | .v (.pointer none),.v (.pointer none)=>Zg0 tt ty op true K
 | x,y=>match Z6y tt ty with
  | .bool=>Z7q x fun a=>Z7q y fun b=>match op with
   | .eql=>K (.v (.bool (a==b)))
   | .neq=>K (.v (.bool (!(a==b))))
   | _=>False
  | _=>False
def Zij (x:G)(K:G→Prop):Prop:=match x with
 | .tt=>K .ff
 | .ff=>K .tt
 | .v (.bool b)=>K (.v (.bool (!b)))
 | _=>False
abbrev Imm:=Nat→Nat→Option Value
inductive VRep (I:Imm):G→Value→Prop
 | v (x:Value):VRep I (.v x) x
 | tt:VRep I .tt (.bool true)
 | ff:VRep I .ff (.bool false)
 | un:VRep I .un undef
 | nl:VRep I .nl (.slice none 0 0)
 | agg (l:List G) (cs:List Value) (hl:l.length=cs.length) (h:∀(j:Nat) g u,l[j]?=some g→cs[j]?=some u→VRep I g u):VRep I (.agg l) (.agg cs.toArray)
 | sl (l:List (List G)) (A:Option Addr) (c sz:Nat) (u:Nat→Nat→Value) (hc:l.length≤c) (hA:A=none→c=0) (hz:∀r∈l,r.length=sz)
   (h:∀(i:Nat) r,l[i]?=some r→∃b o,A=some ⟨b,o,none⟩∧∀j,j < sz→I b (o+i * sz+j)=some (u i j))
   (hu:∀(i:Nat) r (j:Nat) g,l[i]?=some r→r[j]?=some g→VRep I g (u i j)):VRep I (.sl l) (.slice A l.length c)
structure Va where
 n:Nat
 b:Nat→Nat
 s:Nat→Value
 f:Nat→Nat→Prop
def PW (P:G→Value→Prop)(l:List G)(cs:List Value):Prop:=l.length=cs.length∧∀(j:Nat) g u,l[j]?=some g→cs[j]?=some u→P g u
def Hz (sz:Nat)(v:Value)(lo hi:Nat):Value:=match v with
 | .slice a _ c=>.slice (if c=lo then a else a.map (·.add (lo * sz))) (hi - lo) (c - lo)
 | _=>undef
def Nb:Value→Nat
 | .slice _ n _=>n
 | _=>0
def CRep (I:Imm)(V:Va):G→Value→Prop
 | .ptr k off,x=>k < V.n∧x=.pointer (some ⟨V.b k,off,none⟩)
 | .osl k,x=>k < V.n∧x=V.s k
 | .osv k sz lo hi,x=>k < V.n∧(lo≤hi∧hi≤Nb (V.s k))∧x=Hz sz (V.s k) lo hi
 | .mp k,x=>k < V.n∧x=.map (some (V.b k))
 | .clo _ _ _,_=>False
 | .oag _,_=>False
 | .elp _ _,_=>False
 | .oel _ _ _ _,_=>False
 | .orv _ _ _ _ _ _,_=>False
 | .tup _,_=>False
 | g,x=>VRep I g x
def OrB (V:Va)(k sz b q:Nat):Prop:=match sz with
 | 0=>b=V.b k∧q=0
 | _+1=>∃n c,V.s k=.slice (some ⟨b,q,none⟩) n c
def TRep1 (I:Imm)(V:Va):G→Value→Prop
 | .oag l,x=>∃cs:List Value,x=.agg cs.toArray∧PW (CRep I V) l cs
 | .elp row off,x=>∃b o,x=.pointer (some ⟨b,o+off,none⟩)∧∀(j:Nat) g,row[j]?=some g→∃u,I b (o+j)=some u∧VRep I g u
 | .oel k i sz off,x=>k < V.n∧∃b q n c,V.s k=.slice (some ⟨b,q,none⟩) n c∧x=.pointer (some ⟨b,q+(i * sz+off),none⟩)
 | .orv k i sz off len cap,x=>k < V.n∧∃b q,OrB V k sz b q∧x=.slice (some ⟨b,q+(i * sz+off),none⟩) len cap
 | .clo f a c,x=>(∃g,(g∈a∨g∈c)∧C2 g=false)∧∃h cs:List Value,x=.func (.func f) h.toArray cs.toArray∧PW (CRep I V) a h∧PW (CRep I V) c cs
 | g,x=>CRep I V g x
def TRep (I:Imm)(V:Va):G→Value→Prop
 | .tup l,x=>∃cs:List Value,x=.tuple cs.toArray∧PW (TRep1 I V) l cs
 | g,x=>TRep1 I V g x
def PRep (I:Imm)(V:Va):G→Value→Prop
 | .ptr k o,x=>CRep I V (.ptr k o) x
 | .osl k,x=>CRep I V (.osl k) x
 | .osv k sz lo hi,x=>CRep I V (.osv k sz lo hi) x
 | .oel k i sz o,x=>TRep1 I V (.oel k i sz o) x
 | .mp k,x=>CRep I V (.mp k) x
 | .clo f a c,x=>TRep1 I V (.clo f a c) x
 | .oag l,x=>(∃g∈l,C2 g=false)∧TRep1 I V (.oag l) x
 | g,x=>VRep I g x
def PRe1 (I:Imm)(V:Va):G→Value→Prop
 | .oag l,x=>TRep1 I V (.oag l) x
 | g,x=>PRep I V g x
def PRes (I:Imm)(V:Va):G→Value→Prop
 | .tup l,x=>∃cs:List Value,x=.tuple cs.toArray∧PW (PRe1 I V) l cs
 | g,x=>PRe1 I V g x
def Loc (p:Ob):Prop:=∀(I I':Imm) b S w w',p I b S w→(∀b o x,I b o=some x→I' b o=some x)→w'.os=w.os→w.heap.size≤w'.heap.size→(∀k,S k→w'.heap[k]?=w.heap[k]?)→p I' b S w'
def Al {κ:Type}(I:Imm):List (κ × G)→List (κ × Value)→Prop
 | [],[]=>True
 | p::l,q::L=>q.1=p.1∧VRep I p.2 q.2∧Al I l L
 | _,_=>False
def MapR {κ:Type}(I:Imm)(w:World)(m:Nat)(b:κ→Value)(l:List (κ × G)):Prop:=∃L:List (κ × Value),MapB w m b id L∧Al I l L
def Ds (w:World)(e:TypeId)(sz:Nat)(v:Value)(n:Nat)(xs:List Value):Prop :=
 xs.length=n * sz∧((v=.slice none 0 0∧n=0)∨∃g q cap b,v=.slice (some ⟨g,q,none⟩) n cap∧w.heap[g]?=some (.cells b e (0,0))∧n≤cap∧cap≤maxLen∧q+cap * sz≤b.size∧(b.toList.drop q).take (n * sz)=xs)
def RRep (I:Imm)(V:Va)(k:Nat)(w:World):R→Prop
 | .blk cs t=>(∀b,V.f k b↔b=V.b k)∧∃z:List Value,w.heap[V.b k]?=some (.cells z.toArray t (0,0))∧PW (CRep I V) cs z
 | .slc rows e sz=>(∀b,V.f k b↔(V.s k).ownBlock=some b)∧∃rs:List (List Value),w.ownsRow 0 e sz (V.s k) rows.length rs.flatten∧rs.length=rows.length∧(∀(i:Nat) r u,rows[i]?=some r→rs[i]?=some u→PW (VRep I) r u)∧(∀u∈rs,u.length=sz)∧(∀u∈rs,∀x∈u,x.oneCell'=true)∧0 < sz
 | .vw rows e sz=>(∀b,V.f k b↔(V.s k).ownBlock=some b)∧∃rs:List (List Value),Ds w e sz (V.s k) rows.length rs.flatten∧rs.length=rows.length∧(∀(i:Nat) r u,rows[i]?=some r→rs[i]?=some u→PW (VRep I) r u)∧(∀u∈rs,u.length=sz)∧(∀u∈rs,∀x∈u,x.oneCell'=true)∧0 < sz
 | .froz rows sz=>(∀b,¬V.f k b)∧VRep I (.sl rows) (V.s k)∧∀r∈rows,r.length=sz
 | .gone=>∀b,¬V.f k b
 | .mpI l=>(∀b,V.f k b↔b=V.b k)∧MapR I w (V.b k) Zli l
 | .mpS l=>(∀b,V.f k b↔b=V.b k)∧MapR I w (V.b k) Ziu l
 | .sit s pos=>(∀b,V.f k b↔b=V.b k)∧w.heap[V.b k]?=some (.stringIter s pos)
 | .mpX l m ob=>(∀b,V.f k b↔b=V.b k)∧V.b k=m∧w.heap[m]?=some ob∧MapR I w m Ziu l
 | .mit _ l D last m ob=>(∀b,V.f k b↔b=V.b k)∧∃(it:Obj) (L:List (ByteArray × Value)),w.heap[V.b k]?=some it∧Al I l L∧∀w':World,w'.heap[m]?=some ob→w'.heap[V.b k]?=some it→RanB w' (V.b k) m Ziu id L D∧∀q,last=some q→∃v,VRep I q.2 v∧∀P:Program,(Instr.entry (.pointer (some ⟨V.b k,0,none⟩))).run P w'=.ok (.tuple #[.string q.1,v]) w'
 | .abs p=>Loc p∧p I (V.b k) (V.f k) w
 | .lnk j=>(∀b,¬V.f k b)∧j < V.n∧∃m,V.s j=.slice (some ⟨V.b k,0,none⟩) m m
 | .adr k' b=>(∀c,¬V.f k c)∧k' < V.n∧V.b k'=b
 | .fam h=>(∀p∈h,Loc p)∧∃F:Nat→Nat→Prop,(∀c,V.f k c↔∃i,i < h.length∧F i c)∧(∀i j c,i < h.length→j < h.length→F i c→F j c→i=j)∧∀(i:Nat) p,h[i]?=some p→∃b,p I b (F i) w
def Mem (I:Imm)(w:World):Prop:=∀b o x,I b o=some x→w.cell? ⟨b,o,none⟩=some x
structure Has (I:Imm)(V:Va)(own:Os)(w:World):Prop where
 mem:Mem I w
 num:∀k r,look k own=some r→k < V.n
 each:∀k r,look k own=some r→RRep I V k w r
 foot:∀k r b,look k own=some r→V.f k b→b < w.heap.size∧∀o,I b o=none
 disj:∀k k' r r' b,look k own=some r→look k' own=some r'→V.f k b→V.f k' b→k=k'
def Va.le (V V':Va):Prop:=V.n≤V'.n∧∀k,k < V.n→V'.b k=V.b k∧V'.s k=V.s k
structure Fro (own:Os)(I:Imm)(V:Va)(w:World)(own':Os)(I':Imm)(V':Va)(w':World):Prop where
 os:w'.os=w.os
 tape:w'.tape=w.tape
 output:w'.output=w.output
 size:w.heap.size≤w'.heap.size
 blk:∀b,b < w.heap.size→(∀k r,look k own=some r→¬V.f k b)→w'.heap[b]?=w.heap[b]?∧∀o,I' b o=I b o
 mono:∀b o x,I b o=some x→I' b o=some x
 foot:∀k r b,look k own'=some r→V'.f k b→b < w.heap.size→∃j r',look j own=some r'∧V.f j b
structure Obs (I:Imm)(V:Va)(O:Os)(w:World):Prop where
 num:∀k r,look k O=some r→k < V.n
 each:∀k r,look k O=some r→RRep I V k w r
 lt:∀k r b,look k O=some r→V.f k b→b < w.heap.size
 disj:∀k k' r r' b,look k O=some r→look k' O=some r'→V.f k b→V.f k' b→k=k'
def cl (O:Os):Ob:=fun I b S w=>∃V:Va,V.b 0=b∧Obs I V O w∧∀c,S c↔∃k r,look k O=some r∧V.f k c
def leI (m:List (Nat × Nat))(w:Os)(n:Nat):Os→Prop
 | []=>True
 | (k,r)::l=>(Nat.blt k n=true∧Zp n r=true∧look ((look k m).getD k) w=some (Ii m r))∧leI m w n l
def Nj:List Nat→Bool
 | []=>true
 | k::l=>bif Gc k l then false else Nj l
def Th (n:Nat):Os→Bool
 | []=>true
 | (k,r)::l=>match Nat.blt k n,Zp n r with
  | true,true=>Th n l
  | _,_=>false
def opM:Nat→Nat→List R→List (Nat × Nat)
 | _,_,[]=>[]
 | i,n,_::rs=>(i,n)::opM (i+1) (n+1) rs
def Zea (n0:Nat):G→Bool
 | .osl k | .osv k _ _ _ | .oel k _ _ _=>Nat.ble n0 k
 | _=>true
def Zjs:R→Bool
 | .blk cs _=>B4 (Zea 1) cs
 | .lnk _=>false
 | _=>true
def Qt:List Nat→Os→Os
 | [],w=>w
 | k::l,w=>(k,.gone)::Qt l w
def shO (m:List (Nat × Nat)):List R→Nat→Os→Os
 | [],_,w=>w
 | r::rs,n,w=>(n,Ii m r)::shO m rs (n+1) w
def F5 (w:Os):G→G
 | .osl j=>match look j w with
  | some (.froz rows _)=>.sl rows
  | _=>.osl j
 | .osv j sz lo hi=>match look j w with
  | some (.froz rows sz')=>match Nat.beq sz sz' with
   | true=>.sl (Es rows lo hi)
   | false=>.osv j sz lo hi
  | _=>.osv j sz lo hi
 | .tt=>.v (.bool true)
 | .ff=>.v (.bool false)
 | g=>g
def T5:Ob:=fun _ _ S _=>∀c,¬S c
inductive Gh (K:Os→Nat→Prop):Os→Nat→Prop
 | done {w:Os} {n:Nat} (h:K w n):Gh K w n
 | nil {w:Os} {n:Nat} (k:Nat) (p q:List G) (ty e sz:Nat) (hk:look k w=some (.blk (p++.nl::q) ty)) (hz:0 < sz) (h:Gh K ((k,.blk (p++.osl n::q) ty)::(n,.slc [] e sz)::w) (n+1)):Gh K w n
 | close {w:Os} {n:Nat} (O:Os) (m:List (Nat × Nat)) (hO:leI m w n O) (h0:∃r,look 0 O=some r) (hd:Nj (O.map fun p=>(look p.1 m).getD p.1)=true) (h:Gh K (((look 0 m).getD 0,.abs (cl O))::Qt (O.map fun p=>(look p.1 m).getD p.1) w) n):Gh K w n
 | opn {w:Os} {n:Nat} (k:Nat) (cs:List G) (ty:Nat) (rs:List R) (hk:look k w=some (.abs (cl (Bk (.blk cs ty::rs) 0)))) (hb:Th (rs.length+1) (Bk (.blk cs ty::rs) 0)=true) (hs:B4 Zjs (.blk cs ty::rs)=true) (h:Gh K ((k,Ii ((0,k)::opM 1 n rs) (.blk cs ty))::shO ((0,k)::opM 1 n rs) rs n w) (n+rs.length)):Gh K w n
 | adr {w:Os} {n:Nat} (k:Nat) (r:R) (hk:look k w=some r) (h:∀b,Gh K ((n,.adr k b)::w) (n+1)):Gh K w n
 | lies {w:Os} {n:Nat} (k B:Nat) (p:Ob) (hk:look k w=some (.abs p)) (hp:∀(I:Nat→Nat→Option Value) b S w,p I b S w→b=B) (h:Gh K ((n,.adr k B)::w) (n+1)):Gh K w n
 | fam {w:Os} {n:Nat} (h:Gh K ((n,.fam [])::w) (n+1)):Gh K w n
 | adopt {w:Os} {n:Nat} (j k:Nat) (ps:List Ob) (p:Ob) (hj:look j w=some (.fam ps)) (hk:look k w=some (.abs p)) (h:Gh K ((j,.fam (ps++[p]))::(k,.gone)::w) n):Gh K w n
 | frz {w:Os} {n:Nat} (k:Nat) (rows:List (List G)) (e sz:Nat) (hk:look k w=some (.slc rows e sz)) (h:Gh K ((k,.froz rows sz)::w) n):Gh K w n
 | seen {w:Os} {n:Nat} (k:Nat) (cs:List G) (ty:Nat) (hk:look k w=some (.blk cs ty)) (h:Gh K ((k,.blk (cs.map (F5 w)) ty)::w) n):Gh K w n
 | drop {w:Os} {n:Nat} (k:Nat) (r:R) (hk:look k w=some r) (h:Gh K ((k,.gone)::w) n):Gh K w n
 | rnm {w:Os} {n:Nat} (kb k:Nat) (p q:List G) (ty:Nat) (rows:List (List G)) (e sz:Nat) (hb:look kb w=some (.blk (p++.osl k::q) ty)) (hk:look k w=some (.slc rows e sz)) (h:Gh K ((kb,.blk (p++.osl n::q) ty)::(n,.slc rows e sz)::(k,.gone)::w) (n+1)):Gh K w n
 | dup {w:Os} {n:Nat} (j k b:Nat) (hj:look j w=some (.adr k b)) (h:Gh K ((n,.adr k b)::w) (n+1)):Gh K w n
 | move {w:Os} {n:Nat} (m k j1 j2 b:Nat) (p:Ob) (hm:look m w=some (.abs p)) (hk:look k w=some .gone) (h1:look j1 w=some (.adr m b)) (h2:look j2 w=some (.adr k b)) (h:Gh K ((k,.abs p)::(m,.gone)::w) n):Gh K w n
 | take {w:Os} {n:Nat} (j i:Nat) (ps:List Ob) (p:Ob) (hj:look j w=some (.fam ps)) (hi:ps[i]?=some p) (h:Gh K ((n,.abs p)::(j,.fam (ps.set i T5))::w) (n+1)):Gh K w n
 | put {w:Os} {n:Nat} (j i k:Nat) (ps:List Ob) (p:Ob) (hj:look j w=some (.fam ps)) (hi:i < ps.length) (hk:look k w=some (.abs p)) (h:Gh K ((j,.fam (ps.set i p))::(k,.gone)::w) n):Gh K w n
 | view {w:Os} {n:Nat} (k:Nat) (rows:List (List G)) (e sz:Nat) (hk:look k w=some (.slc rows e sz)) (h:Gh K ((k,.vw rows e sz)::w) n):Gh K w n
 | tail {w:Os} {n:Nat} (kb k lo hi:Nat) (p q:List G) (ty:Nat) (rows:List (List G)) (e sz:Nat) (hb:look kb w=some (.blk (p++.osv k sz lo hi::q) ty)) (hk:look k w=some (.vw rows e sz)) (hl:lo≤hi∧hi=rows.length) (h:Gh K ((kb,.blk (p++.osl n::q) ty)::(n,.vw (rows.drop lo) e sz)::(k,.gone)::w) (n+1)):Gh K w n
def Ent (P:Program)(f:FuncId):Prop:=∃fn,P.funcs[f]?=some fn∧(fn.name=="runtime.NumGoroutine")=false∧fn.body.isNone=false
def VR (I:Imm):G→Value→Prop
 | .tup l,x=>∃cs:List Value,x=.tuple cs.toArray∧PW (VRep I) l cs
 | g,x=>VRep I g x
def FnV (P:Program)(f:FuncId)(c:List G)(Q:G→Prop):Prop :=
 Ent P f∧∀I w vs,Mem I w→PW (VRep I) c vs→Calls P f vs.toArray w fun e w' =>
  ∃x g I',e=.returned x∧Q g∧Mem I' w'∧VR I' g x∧(∀b o x,I b o=some x→I' b o=some x)∧(∀b o,b < w.heap.size→I' b o=I b o)∧Below w.heap.size w w'
def FnO (P:Program)(f:FuncId)(c:List G)(rs:List R)(Q:G→List R→Prop):Prop :=
 Ent P f∧∀I V w vs,Has I V (Bk rs 0) w→V.n=rs.length→PW (PRep I V) c vs→Calls P f vs.toArray w fun e w' =>
  ∃x g b I' V',e=.returned x∧Q g b∧V'.n=b.length∧Has I' V' (Bk b 0) w'∧PRes I' V' g x∧Fro (Bk rs 0) I V w (Bk b 0) I' V' w'∧V.le V'
def Zlt:G→Bool
 | .v (.pointer (some _))=>true
 | _=>false
def W4 {α:Type}(own:Os):Os→List Nat→(List Nat→α)→α
 | [],r,K=>K r
 | (k,_)::l,r,K=>match look k own with
  | some (.fam _)=>I9 k r fun r=>W4 own l r K
  | _=>W4 own l r K
def Sy {α:Type}(p:α→Bool):List α→Bool
 | []=>false
 | g::l=>bif p g then true else Sy p l
def Zkn (vs:Bool)(b:List G)(ks:List Nat):Bool:=match Sy Zlt b,vs,ks with
 | true,_,_=>true
 | false,true,_::_=>true
 | _,_,_=>false
def Zde {α:Type}(vs:Bool)(b:List G)(own:Os)(ks:List Nat)(K:List Nat→α):α:=match Zkn vs b ks with
 | true=>W4 own own ks K
 | false=>K ks
inductive EvCall (A B C:Prop):Prop
 | pure (h:A)
 | lend (h:B)
 | gh (h:C)
def Z04:List G→Option (List Value)
 | []=>some []
 | .v x::l=>match Z04 l with
  | some cs=>some (x::cs)
  | none=>none
 | _=>none
def Z9z:G→Option Value
 | .v x=>some x
 | .agg l=>match Z04 l with
  | some cs=>some (.agg cs.toArray)
  | none=>none
 | _=>none
structure Ze4 (P:Program)(f:FuncId)(gs:List G)(K:G→Prop):Prop where
 run:∃g x,Z9z g=some x∧FnV P f gs (fun q=>q=g)∧K g
inductive Mo where
 | row
 | quiet (l:List Nat)
 | late
 | vs (l:List Nat)
 | new
def Mo.xl:Mo→List Nat
 | .quiet l=>l
 | _=>[]
def Mo.loose:Mo→Bool
 | .row=>true
 | .late=>true
 | _=>false
def Mo.isVs:Mo→Bool
 | .vs _=>true
 | _=>false
def Mo.lends:Mo→List Nat→Bool
 | .row,_=>true
 | .late,_=>true
 | .vs l,ks=>B4 (fun k=>Gc k l) ks
 | _,[]=>true
 | _,_=>false
def Ho:G→Bool
 | .oag l=>B4 C2 l
 | .clo _ _ _=>false
 | .tup _=>false
 | g=>C2 g
def L1:G→Bool
 | .tup l=>B4 Ho l
 | g=>Ho g
def La (m:List (Nat × Nat)):List R→List Nat→Os→Nat→(Os→Nat→Prop)→Prop
 | [],_,own,n,K=>K own n
 | r::rs,k::ks,own,n,K=>match Jh r with
  | true=>La m rs ks ((k,r)::own) n K
  | false=>La m rs ks ((k,Ii m r)::own) n K
 | r::rs,[],own,n,K=>match Jh r with
  | true=>La m rs [] ((n,r)::own) (n+1) K
  | false=>La m rs [] ((n,Ii m r)::own) (n+1) K
def Z7f (ks:List Nat)(own:Os)(n:Nat)(g:G)(rs:List R)(K:G→Os→Nat→Prop):Prop:=match L1 g with
 | true=>La (T2 ks n rs 0) rs ks own n fun own n=>K g own n
 | false=>La (T2 ks n rs 0) rs ks own n fun own' b=>K (Qs (T2 ks n rs 0) g) own' b
def Z1r (P:Program)(f:FuncId)(mo:Mo)(b:List G)(own:Os)(n:Nat)(B C:Prop)(K:G→Os→Nat→Prop):Prop :=
 gkL b [] fun ks=>Zde mo.isVs b own ks fun ks=>trK own 3 ks fun ks=>match mo.lends ks with
  | true=>match ks with
   | []=>EvCall (FnO P f b [] fun g rs=>Z7f [] own n g rs K) B C
   | k::ks=>rsK own (k::ks) (k::ks) fun rs=>EvCall (FnO P f (b.map (Qs (Jy (k::ks) 0))) rs fun g rs=>Z7f (k::ks) own n g rs K) B C
  | false=>False
def G.lent:G→Bool
 | .oag l=>Sy (fun g=>match C2 g with | true=>false | false=>true) l
 | .tup _ | .elp _ _ | .orv _ _ _ _ _ _=>false
 | _=>true
def G.isOrv:G→Bool
 | .orv _ _ _ _ _ _=>true
 | _=>false
def G.isMp:G→Bool
 | .mp _=>true
 | _=>false
def lendK (P:Program)(f:FuncId)(mo:Mo)(b:List G)(own:Os)(n:Nat)(C:Prop)(K:G→Os→Nat→Prop):Prop:=match B4 G.lent b with
 | true=>Z1r P f mo (b.map Z61) own n False C K
 | false=>False
def Z52 (w:Os):G→G
 | .osl k=>F5 w (.osl k)
 | .osv k sz lo hi=>F5 w (.osv k sz lo hi)
 | .oag l=>match B4 G.pure (l.map (F5 w)) with
  | true=>.agg (l.map (F5 w))
  | false=>.oag l
 | g=>g
inductive Z0e (P:Program)(f:FuncId)(own:Os)(n:Nat)(K:G→Os→Nat→Prop):List G→Prop
 | same {gs:List G} (h:lendK P f .row gs own n False fun g own n=>Gh (K g) own n):Z0e P f own n K gs
 | see {gs:List G} (h:Z0e P f own n K (gs.map (Z52 own))):Z0e P f own n K gs
 | raw {gs:List G} {b off:Nat} (j k:Nat) (hj:look j own=some (.adr k b)) (h:Z0e P f own n K (.ptr k off::gs)):Z0e P f own n K (.v (.pointer (some ⟨b,off,none⟩))::gs)
 | snap {k off l m:Nat} (cs:List G) (ty:Nat) (u:Value) (hk:look k own=some (.blk cs ty)) (hl:l≤m∧off+l≤cs.length) (hv:B4 Gx ((cs.drop off).take l)=true) (hf:FnV P f [.sl (((cs.drop off).take l).map fun g=>[g])] fun g=>g=.v u) (h:Gh (K (.v u)) own n):Z0e P f own n K [.orv k 0 0 off l m]
def Z02 (w:Os):G→G
 | .osl k=>match look k w with
  | some (.slc rows _ _)=>.sl rows
  | _=>.osl k
 | g=>g
def Zjf:G→Bool
 | .v x=>x.oneCell'
 | _=>false
inductive EvSn (P:Program)(f:FuncId)(own:Os)(n:Nat)(K:G→Os→Nat→Prop):List G→Prop
 | snap {k off l m:Nat} (cs:List G) (ty:Nat) (u:Value) (hk:look k own=some (.blk cs ty)) (hl:l≤m∧off+l≤cs.length) (hv:B4 Gx ((cs.drop off).take l)=true) (hf:FnV P f [.sl (((cs.drop off).take l).map fun g=>[g])] fun g=>g=.v u) (h:K (.v u) own n):EvSn P f own n K [.orv k 0 0 off l m]
 | peek {gs:List G} (hp:B4 G.pure (gs.map (Z02 own))=true) (hf:FnV P f (gs.map (Z02 own)) fun g=>Zjf g=true∧K g own n):EvSn P f own n K gs
def ghK (P:Program)(f:FuncId)(mo:Mo)(b:List G)(own:Os)(n:Nat)(K:G→Os→Nat→Prop):Prop:=match mo with
 | .row=>Gh (fun own n=>Z0e P f own n K b) own n
 | .late=>Gh (fun own n=>Z0e P f own n K b) own n
 | .new=>EvSn P f own n K b
 | _=>False
def Pz (P:Program)(f:FuncId)(mo:Mo)(b a c:List G)(own:Os)(n:Nat)(K:G→Os→Nat→Prop):Prop:=match Sy G.isOrv b with
 | true=>ghK P f mo (a++(b++c)) own n K
 | false=>match Sy G.isMp b with
  | true=>lendK P f mo (a++(b++c)) own n (ghK P f mo (a++(b++c)) own n K) K
  | false=>Zil (a++(b++c)) own fun gs' own'=>Z1r P f mo gs' own' n (lendK P f mo (a++(b++c)) own n False K) (ghK P f mo (a++(b++c)) own n K) K
def Zc4 (tt:List (Nat × TI))(mo:Mo)(ty:TypeId)(sz:Nat):Bool:=match mo,Z6y tt ty with
 | .new,.fn=>Nat.beq sz 1
 | _,_=>false
def Zfi (b:Bool)(own:Os)(n:Nat)(K:G→Os→Prop):Prop:=match b with
 | true=>Zas own (.osl n) K
 | false=>K (.osl n) own
section
variable (P:Program) (tt:List (Nat × TI))
def bsK (t:Ts)(sz:Nat):List (Nat × Operand)→Nat→Os→(List (List G)→Os→Prop)→Prop
 | [],_,w,K=>K [] w
 | (j,x)::ps,i,w,K=>match Nat.beq j i with
  | true=>ev t w x fun g=>Gp w g fun cs=>match Xh sz with
   | false=>Zee cs w fun b w'=>match Nat.beq b.length sz,B4 G.one b with
    | true,true=>bsK t sz ps (i+1) w' fun rows w''=>K (b::rows) w''
    | _,_=>False
   | true=>Fc (cs.length=sz∧∀g∈cs,Gx g=true) (bsK t sz ps (i+1) w fun rows w''=>K (cs::rows) w'')
  | false=>False
def evO (t:Ts)(w:Os)(x:Option Operand)(d:Int)(K:Int→Prop):Prop:=match x with
 | none=>K d
 | some x=>ev t w x fun q=>match q with
  | .v (.int .i64 n)=>K n
  | _=>False
def Zia (t:Ts)(w:Os)(m:Nat)(lo hi:Option Operand)(j:Nat)(K:G→Prop):Prop:=match lo,hi with
 | none,none=>K (.osl j)
 | lo,hi=>evO t w lo 0 fun l=>evO t w hi m fun h=>Z2l l h m (K (.osv j 1 l.toNat h.toNat))
def Zjn (m:Nat)(cs:List G)(A:Prop):Prop:=match Xh m with
 | false=>match Nat.beq cs.length m,B4 Gx cs with
  | true,true=>A
  | _,_=>False
 | true=>Fc (cs.length=m∧∀g∈cs,Gx g=true) A
def Z7o (t:Ts)(w:Os)(n ty m:Nat)(lo hi:Option Operand)(g:G)(K:G→Os→Nat→Prop):Prop:=match g with
 | .ptr k off=>match look k w with
  | some (.blk cs ty')=>match off,Nat.beq ty' ty,Nat.ble m 1048576 with
   | 0,true,true=>Zjn m cs (Zia t w m lo hi n fun g=>K g ((k,.lnk n)::(n,.slc (cs.map fun g=>[g]) ty' 1)::(k,.gone)::w) (n+1))
   | _,_,_=>match lo,hi with
    | none,none=>Fc (off+m≤cs.length∧∀g∈cs,Gx g=true) (K (.sl (((cs.drop off).take m).map fun g=>[g])) ((k,.gone)::w) n)
    | none,some x=>evO t w (some x) m fun h=>Z2l 0 h m (K (.orv k 0 0 off h.toNat m) w n)
    | _,_=>False
  | some (.lnk j)=>match look j w,off with
   | some (.slc rows _ 1),0=>Fc (rows.length=m) (Zia t w m lo hi j fun g=>K g w n)
   | _,_=>False
  | _=>False
 | .oel k i sz off=>match look k w,lo with
  | some (.slc rows _ sz'),none=>match Nat.beq sz sz' with
   | true=>evO t w hi m fun h=>Z2l 0 h m (Fc ((i < rows.length∧off+m≤sz)∧0 < sz) (K (.orv k i sz off h.toNat m) w n))
   | false=>False
  | _,_=>False
 | _=>False
def Z6x (t:Ts)(w:Os)(m:Nat)(lo hi:Option Operand)(g:G)(K:G→Prop):Prop:=match g,lo,hi with
 | .ptr k off,none,some x=>match look k w with
  | some (.blk _ _)=>evO t w (some x) m fun h=>Z2l 0 h m (K (.orv k 0 0 off h.toNat m))
  | _=>False
 | _,_,_=>False
def slK (w:Os)(g:G)(sz:Nat)(lo hi:(Int→Prop)→Int→Prop)(K:G→Prop):Prop:=match g with
 | .sl rows=>lo (fun l=>hi (fun h=>Z2l l h rows.length (Zjw rows sz (K (.sl (Es rows l.toNat h.toNat))))) rows.length) 0
 | .osl k=>match look k w with
  | some (.slc rows _ sz')=>match Nat.beq sz sz' with
   | true=>lo (fun l=>hi (fun h=>Z2l l h rows.length (K (.osv k sz l.toNat h.toNat))) rows.length) 0
   | false=>False
  | some (.vw rows _ sz')=>match Nat.beq sz sz' with
   | true=>lo (fun l=>hi (fun h=>Z2l l h rows.length (K (.osv k sz l.toNat h.toNat))) rows.length) 0
   | false=>False
  | _=>False
 | _=>False
def Zdg (w:Os)(g:G)(sz:Nat)(h:Int)(K:G→Prop):Prop:=match g with
 | .osl k=>match look k w with
  | some (.vw rows _ sz')=>match Nat.beq sz sz' with
   | true=>Z2l 0 h rows.length (Fc (rows≠[]) (K (.orv k 0 sz 0 h.toNat h.toNat)))
   | false=>False
  | _=>False
 | _=>False
def byK (o:Os)(g:G)(K:List (List G)→Prop):Prop:=match g with
 | .nl=>K []
 | .sl rows=>K rows
 | .osl k=>match look k o with
  | some (.slc rows _ 1)=>K rows
  | _=>False
 | _=>False
def cvK (w:Os)(g:G)(a b:TI)(u8:Bool)(K:G→Prop):Prop:=match a.elem,a.str,a.ik,b.str,b.ik with
 | some _,_,_,true,_=>match u8 with
  | true=>byK w g fun rows=>EvBytes rows fun c=>K (.v (.string ⟨c.toArray⟩))
  | false=>False
 | none,true,_,true,_=>match g with
  | .v (.string s)=>K (.v (.string s))
  | _=>False
 | none,false,some _,false,some k=>match g with
  | .v (.int _ n)=>match k with
   | .i64=>EvRng n (K (.v (.int .i64 n)))
   | .u8=>K (.v (.int .u8 (n % 256)))
   | .u64=>K (.v (.int .u64 (IntKind.wrap .u64 n)))
   | _=>False
  | _=>False
 | _,_,_,_,_=>False
def Zhd (e:TypeId):Bool:=match look e tt with
 | some ⟨_,_,_,_,_,some .u8,_⟩=>true
 | _=>false
def cvU (a:TI)(XL:List Nat):Bool:=match a.elem,XL with
 | some (e,_),[]=>Zhd tt e
 | _,_=>false
def Zig (n:Nat)(cs:List G)(A:Prop):Prop:=match Xh n with
 | false=>match Nat.beq cs.length n with
  | true=>A
  | false=>False
 | true=>Fc (cs.length=n) A
def Zha (n:Nat)(w:Os)(cs:List G)(A:Prop):Prop:=match Xh n with
 | false=>match B4 (Zei w) cs,Nat.beq cs.length n,cs with
  | true,true,_::_=>A
  | _,_,_=>False
 | true=>Fc (cs.length=n∧∀g∈cs,Gx g=true) A
def Zie (n:Nat)(cs:List G)(A:Prop):Prop:=match Xh n with
 | false=>match B4 G.pure cs with
  | true=>A
  | false=>False
 | true=>A
def Zef (t:Ts)(w:Os)(b:List (TypeId × Nat)):List (Nat × Operand)→List G→(List G→Prop)→Prop
 | [],l,K=>K l
 | (i,x)::ps,l,K=>match nth b i with
  | none=>False
  | some (ft,fo)=>match look ft tt with
   | none=>False
   | some j=>ev t w x fun g=>Gp w g fun cs=>Zig j.zero.length cs (ovr j.zero.length l fo cs fun c=>Zef t w b ps c K)
def Zh9 (t:Ts)(w:Os)(n sz:Nat):List (Nat × Operand)→List G→(List G→Prop)→Prop
 | [],l,K=>K l
 | (i,x)::ps,l,K=>match Nat.blt i n,Nat.blt 0 sz with
  | true,true=>ev t w x fun g=>Gp w g fun cs=>Zig sz cs (ovr sz l (Nat.mul i sz) cs fun b=>Zh9 t w n sz ps b K)
  | _,_=>False
def Zk3 (n:Nat)(w:Os)(cs:List G)(K:List G→Prop):Prop:=match Xh n with
 | true=>K cs
 | false=>match cs with
  | [.ptr k off]=>Ze1 k w w fun b=>K [.v (.pointer (some ⟨b,off,none⟩))]
  | cs=>K (cs.map Z61)
def Zgk (q:G)(op:BinOp)(ty:TypeId):Bool:=match q,op,look ty tt with
 | .nl,.eql,some ⟨_,_,some _,_,_,_,_⟩=>true
 | _,_,_=>false
def Kp (mo:Mo)(o:Oper)(t:Ts)(w:Os)(n:Nat)(K:Ts→Os→Nat→Prop):Prop:=match o.op with
 | .move x=>ev t w x fun g=>K (put o.dst g t) w n
 | .assign x=>match x with
  | .const (.slice none 0 0)=>match look o.type tt with
   | some ⟨_,_,some (e,sz),_,_,_,_⟩=>K (put o.dst (.osl n) t) ((n,.slc [] e sz)::w) (n+1)
   | _=>K (put o.dst .nl t) w n
  | x=>ev t w x fun g=>K (put o.dst g t) w n
 | .pick c a b=>ev t w c fun g=>match g with
  | .tt=>ev t w a fun g=>K (put o.dst g t) w n
  | .ff=>ev t w b fun g=>K (put o.dst g t) w n
  | .v (.bool c)=>EvIf c (ev t w a fun g=>K (put o.dst g t) w n) (ev t w b fun g=>K (put o.dst g t) w n)
  | _=>False
 | .alloc ty=>match look ty tt with
  | some i=>K (put o.dst (.ptr n 0) t) ((n,.blk i.zero ty)::w) (n+1)
  | none=>False
 | .box ty x=>ev t w x fun g=>Gp w g fun cs=>K (put o.dst (.ptr n 0) t) ((n,.blk cs ty)::w) (n+1)
 | .load ty x=>ev t w x fun g=>match look ty tt with
  | none=>False
  | some i=>match g with
   | .ptr k off=>match look k w,Gc k mo.xl with
    | some (.blk cs _),false=>match i.agg with
     | true=>seg cs off i.zero.length fun l=>Jt i.zero.length l fun g=>K (put o.dst g t) w n
     | false=>match nth cs off with
      | some g=>K (put o.dst g t) w n
      | none=>False
    | some (.lnk j),false=>match look j w,Gc j mo.xl,i.agg with
     | some (.slc rows _ 1),false,true=>Fc (off+i.zero.length≤rows.length∧∀r∈rows,∀g∈r,g.pure=true) (K (put o.dst (.agg ((rows.flatten.drop off).take i.zero.length)) t) w n)
     | _,_,_=>False
    | _,_=>False
   | .elp row off=>match i.agg with
     | true=>seg row off i.zero.length fun l=>K (put o.dst (.agg l) t) w n
     | false=>match nth row off with
      | some g=>K (put o.dst g t) w n
      | none=>False
   | .oel k j sz off=>match look k w,Gc k mo.xl with
    | some (.slc rows _ sz'),false=>match Nat.beq sz sz' with
     | true=>EvIdx rows j fun row=>match i.agg with
      | true=>seg row off i.zero.length fun l=>K (put o.dst (.agg l) t) w n
      | false=>match nth row off with
       | some g=>K (put o.dst g t) w n
       | none=>False
     | false=>False
    | some (.vw rows _ sz'),false=>match Nat.beq sz sz' with
     | true=>EvIdx rows j fun row=>match i.agg with
      | true=>seg row off i.zero.length fun l=>K (put o.dst (.agg l) t) w n
      | false=>match nth row off with
       | some g=>K (put o.dst g t) w n
       | none=>False
     | false=>False
    | _,_=>False
   | _=>False
 | .store ty x y=>ev t w x fun g=>ev t w y fun u=>Gp w u fun cs=>match look ty tt with
  | some i=>Zha i.zero.length w cs (match g with
   | .ptr k off=>match look k w with
    | some (.blk cells ty')=>ovr i.zero.length cells off cs fun B=>K (put o.dst .un t) ((k,.blk B ty')::w) n
    | some (.lnk j)=>match mo.isVs,look j w,cs with
     | false,some (.slc rows e 1),[c]=>Fc (off < rows.length∧Gx c=true) (K (put o.dst .un t) ((j,.slc (rows.set off [c]) e 1)::w) n)
     | _,_,_=>False
    | _=>False
   | .oel k j sz off=>match look k w with
    | some (.slc rows e sz')=>match Nat.beq sz sz' with
     | true=>Zk3 i.zero.length w cs fun cs=>Zie i.zero.length cs (EvSet rows j (fun row k=>ovr i.zero.length row off cs k) fun A=>K (put o.dst .un t) ((k,.slc A e sz)::w) n)
     | _=>False
    | _=>False
   | _=>False)
  | none=>False
 | .fieldAddr ty x f=>ev t w x fun g=>match look ty tt with
  | none=>False
  | some i=>match nth i.flds f with
   | none=>False
   | some (_,fo)=>match g with
    | .ptr k off=>K (put o.dst (.ptr k (Nat.add off fo)) t) w n
    | .elp row off=>K (put o.dst (.elp row (Nat.add off fo)) t) w n
    | .oel k j sz off=>K (put o.dst (.oel k j sz (Nat.add off fo)) t) w n
    | _=>False
 | .field ty x f=>ev t w x fun g=>Zhu g fun cs=>match look ty tt with
  | none=>False
  | some i=>match nth i.flds f with
   | none=>False
   | some (ft,fo)=>match look ft tt with
    | none=>False
    | some j=>match j.agg with
     | true=>seg cs fo j.zero.length fun l=>Jt j.zero.length l fun g=>K (put o.dst g t) w n
     | false=>match nth cs fo with
      | some g=>K (put o.dst g t) w n
      | none=>False
 | .indexAddr ty x i=>ev t w x fun g=>ev t w i fun q=>match q,look ty tt with
  | .v (.int .i64 j),some ⟨_,_,some (_,sz),_,_,_,_⟩=>match g with
   | .sl rows=>EvIdx rows j fun row=>match Nat.beq row.length sz with
    | true=>K (put o.dst (.elp row 0) t) w n
    | false=>False
   | .osl k=>match look k w with
    | some (.slc rows _ sz')=>match Nat.beq sz' sz with
     | true=>(0≤j∧j < rows.length)∧K (put o.dst (.oel k j.toNat sz 0) t) w n
     | false=>False
    | some (.vw rows _ sz')=>match Nat.beq sz' sz with
     | true=>(0≤j∧j < rows.length)∧K (put o.dst (.oel k j.toNat sz 0) t) w n
     | false=>False
    | _=>False
   | .osv k sz0 lo hi=>match look k w with
    | some (.slc _ _ sz')=>match Nat.beq sz' sz,Nat.beq sz0 sz with
     | true,true=>(0≤j∧j < (hi - lo:Nat))∧K (put o.dst (.oel k (lo+j.toNat) sz 0) t) w n
     | _,_=>False
    | _=>False
   | .orv k 0 0 off len _=>(0≤j∧j < len)∧K (put o.dst (.ptr k (Nat.add off (Nat.mul j.toNat sz))) t) w n
   | _=>False
  | .v (.int .i64 j),some ⟨_,_,none,_,_,_,.arr m _ sz⟩=>match g with
   | .ptr k off=>(0≤j∧j < m)∧K (put o.dst (.ptr k (Nat.add off (Nat.mul j.toNat sz))) t) w n
   | .elp row off=>(0≤j∧j < m)∧K (put o.dst (.elp row (Nat.add off (Nat.mul j.toNat sz))) t) w n
   | _=>False
  | _,_=>False
 | .sliceToArrayPointer ty x=>match look ty tt with
  | some ⟨_,_,none,_,false,_,.arr m _ 1⟩=>ev t w x fun g=>match g with
   | .sl rows=>Zi2 rows m fun l=>K (put o.dst (.elp l 0) t) w n
   | _=>False
  | _=>False
 | .index ty x i=>match look ty tt with
  | some ⟨_,_,_,_,true,_,_⟩=>ev t w x fun g=>ev t w i fun q=>match q,g with
   | .v (.int .i64 j),.v (.string s)=>EvIdx s.data.toList j fun c=>K (put o.dst (.v (.int .u8 c.toNat)) t) w n
   | _,_=>False
  | some ⟨_,_,none,_,false,_,.arr m e sz⟩=>ev t w x fun g=>Zhu g fun cs=>ev t w i fun q=>match q,look e tt with
   | .v (.int .i64 j),some ti=>(0≤j∧j < m)∧match ti.agg with
    | true=>seg cs (Nat.mul j.toNat sz) ti.zero.length fun l=>Jt ti.zero.length l fun g=>K (put o.dst g t) w n
    | false=>match nth cs (Nat.mul j.toNat sz) with
     | some g=>K (put o.dst g t) w n
     | none=>False
   | _,_=>False
  | _=>False
 | .slice ty x lo hi mx=>match mx with
  | some m=>match lo,hi,look ty tt with
   | none,some h,some ⟨_,_,some (_,sz),_,_,_,_⟩=>ev t w x fun g=>ev t w h fun p=>ev t w m fun q=>match p,q with
    | .v (.int .i64 a),.v (.int .i64 b)=>Fc (a=b) (Zdg w g sz a fun g=>K (put o.dst g t) w n)
    | _,_=>False
   | _,_,_=>False
  | none=>match look ty tt with
   | some ⟨_,_,none,_,true,_,_⟩=>ev t w x fun g=>match g with
    | .v (.string s)=>evO t w lo 0 fun l=>evO t w hi s.size fun h=>Z2l l h s.size (K (put o.dst (.v (.string (s.extract l.toNat h.toNat))) t) w n)
    | _=>False
   | some ⟨_,_,some (_,sz),_,_,_,_⟩=>ev t w x fun g=>slK w g sz (fun K d=>evO t w lo d K) (fun K d=>evO t w hi d K) fun g=>K (put o.dst g t) w n
   | some ⟨_,_,none,_,false,_,.arr m _ 1⟩=>ev t w x fun g=>Z7o t w n ty m lo hi g fun g w n=>K (put o.dst g t) w n
   | some ⟨_,_,none,_,false,_,.arr m _ _⟩=>ev t w x fun g=>Z6x t w m lo hi g fun g=>K (put o.dst g t) w n
   | _=>False
 | .convert src dst x=>match look src tt,look dst tt with
  | some a,some b=>match a.str,b.elem with
   | true,some (e,_)=>match Zhd tt e with
    | true=>ev t w x fun g=>match g with
     | .v (.string s)=>K (put o.dst (.sl (s.data.toList.map gBy)) t) w n
     | _=>False
    | false=>False
   | _,_=>ev t w x fun g=>cvK w g a b (cvU tt a mo.xl) fun g=>K (put o.dst g t) w n
  | _,_=>False
 | .binOp op ty x y _=>ev t w x fun g=>ev t w y fun q=>match Zgk tt q op ty with
  | true=>Tu w g fun rows=>Zfv rows fun b=>K (put o.dst (.v (.bool b)) t) w n
  | false=>Zi9 P tt ty op g q fun g=>K (put o.dst g t) w n
 | .unOp .not _ x=>ev t w x fun g=>Zij g fun g=>K (put o.dst g t) w n
 | .extract x i=>ev t w x fun g=>match g with
  | .tup l=>match nth l i with
   | some g=>K (put o.dst g t) w n
   | none=>False
  | _=>False
 | .build ty parts=>match look ty tt with
  | none=>False
  | some i=>match i.flds with
   | []=>match i.kd with
    | .arr m _ sz=>Zh9 t w m sz parts.toList i.zero fun l=>Jt (Nat.mul m sz) l fun g=>K (put o.dst g t) w n
    | _=>False
   | f::fs=>Zef tt t w (f::fs) parts.toList i.zero fun l=>Jt i.zero.length l fun g=>K (put o.dst g t) w n
 | .buildSlice ty len parts=>match look ty tt with
  | some ⟨_,_,some (e,sz),_,_,_,_⟩=>match Nat.beq parts.toList.length len,Nat.ble (len * sz) 16777216 with
   | true,true=>bsK t sz parts.toList 0 w fun rows w'=>Zfi (Zc4 tt mo ty sz) ((n,.slc rows e sz)::w') n fun g w''=>K (put o.dst g t) w'' (n+1)
   | _,_=>False
  | _=>False
 | .makeSlice ty len cap=>match look ty tt with
  | some ⟨_,_,some (e,sz),_,_,_,_⟩=>match look e tt with
   | some ⟨false,[z],_,_,_,_,_⟩=>match Nat.beq sz 1 with
    | true=>ev t w len fun p=>ev t w cap fun q=>match p,q with
     | .v (.int .i64 m),.v (.int .i64 c)=>(0≤m∧m≤1073741824∧c=m)∧K (put o.dst (.osl n) t) ((n,.slc (List.replicate m.toNat [z]) e 1)::w) (n+1)
     | _,_=>False
    | false=>False
   | some ⟨true,ze,_,_,_,_,_⟩=>match Nat.beq sz ze.length,B4 Gx ze with
    | true,true=>ev t w len fun p=>ev t w cap fun q=>match p,q with
     | .v (.int .i64 m),.v (.int .i64 c)=>(0≤m∧m≤1073741824∧c=m∧m * sz≤1073741824)∧K (put o.dst (.osl n) t) ((n,.slc (List.replicate m.toNat ze) e sz)::w) (n+1)
     | _,_=>False
    | _,_=>False
   | _=>False
  | _=>False
 | .call c=>match c.callee with
  | .builtin .len=>match c.args.toList,c.argTypes.toList with
   | [x],[ty]=>match look ty tt with
    | some ⟨_,_,none,_,true,_,_⟩=>ev t w x fun g=>match g with
     | .v (.string s)=>K (put o.dst (.v (.int .i64 s.size)) t) w n
     | _=>False
    | some ⟨_,_,some _,_,_,_,_⟩=>ev t w x fun g=>Zl4 w g fun m=>K (put o.dst (.v (.int .i64 m)) t) w n
    | some ⟨_,_,none,_,false,_,.map _ _⟩=>ev t w x fun g=>match g with
     | .mp k=>match look k w,Gc k mo.xl with
      | some (.mpS l),false=>K (put o.dst (.v (.int .i64 l.length)) t) w n
      | some (.mpI l),false=>K (put o.dst (.v (.int .i64 l.length)) t) w n
      | _,_=>False
     | _=>False
    | _=>False
   | _,_=>False
  | .builtin .max=>match c.args.toList with
   | [x,y]=>ev t w x fun g=>ev t w y fun q=>match g,q with
    | .v (.int .i64 a),.v (.int .i64 b)=>K (put o.dst (.v (.int .i64 (max a b))) t) w n
    | _,_=>False
   | _=>False
  | .builtin .min=>match c.args.toList with
   | [x,y]=>ev t w x fun g=>ev t w y fun q=>match g,q with
    | .v (.int .i64 a),.v (.int .i64 b)=>K (put o.dst (.v (.int .i64 (min a b))) t) w n
    | _,_=>False
   | _=>False
  | .builtin .append=>match c.args.toList,c.argTypes.toList with
   | [x,y],[ty,ty']=>match Nat.beq ty ty',look ty tt with
    | true,some ⟨_,_,some (e,sz),_,_,_,_⟩=>ev t w x fun g=>ev t w y fun q=>Z5x w q sz fun new=>Zf4 t w n o.dst g new e sz K
    | false,some ⟨_,_,some (e,sz),_,_,_,_⟩=>match Nat.beq sz 1,look ty' tt with
     | true,some ⟨_,_,_,_,true,_,_⟩=>ev t w x fun g=>ev t w y fun q=>Zgw q fun s=>Zc5 t w n o.dst g (s.data.toList.map gBy) e 1 K
     | _,_=>False
    | _,_=>False
   | _,_=>False
  | .builtin .copy=>match c.args.toList,c.argTypes.toList with
   | [x,y],[ty,_]=>match look ty tt with
    | some ⟨_,_,some (_,1),_,_,_,_⟩=>ev t w x fun g=>ev t w y fun q=>Z5x w q 1 fun new=>match g with
     | .osl k=>match look k w with
      | some (.slc rows e 1)=>K (put o.dst (.v (.int .i64 (min new.length rows.length:Nat))) t) ((k,.slc (new.take (min new.length rows.length)++rows.drop (min new.length rows.length)) e 1)::w) n
      | _=>False
     | .osv k 1 lo hi=>match look k w with
      | some (.slc rows e 1)=>K (put o.dst (.v (.int .i64 (min new.length (hi - lo):Nat))) t) ((k,.slc (rows.take lo++new.take (min new.length (hi - lo))++rows.drop (lo+min new.length (hi - lo))) e 1)::w) n
      | _=>False
     | .orv k i sz off len _=>match look k w with
      | some (.slc rows e sz')=>match Nat.beq sz sz' with
       | true=>Fc (off+len≤sz) (EvSet rows i (fun row k=>k (row.take off++(new.take (min new.length len)).flatten++row.drop (off+min new.length len))) fun A=>K (put o.dst (.v (.int .i64 (min new.length len:Nat))) t) ((k,.slc A e sz)::w) n)
       | false=>False
      | _=>False
     | _=>False
    | _=>False
   | _,_=>False
  | .value f=>match f with
   | .func f=>evs t w c.args.toList fun C=>Pz P f mo C [] [] w n fun g w n=>K (put o.dst g t) w n
   | .tmp d=>match look d t with
    | some (.clo f a b)=>evs t w c.args.toList fun C=>Pz P f mo C a b w n fun g w n=>K (put o.dst g t) w n
    | some (.v (.func (.func f) a b))=>match a.toList,b.toList with
     | [],[]=>evs t w c.args.toList fun C=>Pz P f mo C [] [] w n fun g w n=>K (put o.dst g t) w n
     | _,_=>False
    | _=>False
   | _=>False
  | _=>False
 | .makeFunc (.func f) a c=>evs t w a.toList fun a=>evs t w c.toList fun c=>match B4 G.cap a,B4 G.cap c with
  | true,true=>match B4 C2 a,B4 C2 c with
   | true,true=>match a,c with
    | [],[]=>K (put o.dst (.v (.func (.func f) #[] #[])) t) w n
    | _,_=>False
   | _,_=>K (put o.dst (.clo f a c) t) w n
  | _,_=>False
 | .nilCheck x=>ev t w x fun g=>match g with
  | .ptr k off=>K (put o.dst (.ptr k off) t) w n
  | .clo f a c=>K (put o.dst (.clo f a c) t) w n
  | .v (.func (.func f) a c)=>K (put o.dst (.v (.func (.func f) a c)) t) w n
  | _=>False
 | _=>False
def sxG (mo:Mo)(ops:List Oper)(o:Oper)(t:Ts)(w:Os)(n:Nat)(K:Ts→Os→Nat→Prop):Prop:=match o.guard with
 | none=>Kp P tt mo o t w n K
 | some (j,want)=>match(nth ops j).bind (·.dst) with
  | none=>K (put o.dst .un t) w n
  | some d=>match look d t with
   | some .tt=>match want with
    | true=>Kp P tt mo o t w n K
    | false=>K (put o.dst .un t) w n
   | some .ff=>match want with
    | false=>Kp P tt mo o t w n K
    | true=>K (put o.dst .un t) w n
   | some .un=>K (put o.dst .un t) w n
   | some (.v (.bool b))=>match want with
    | true=>EvIf b (Kp P tt mo o ((d,.tt)::t) w n K) (K (put o.dst .un ((d,.ff)::t)) w n)
    | false=>EvIf b (K (put o.dst .un ((d,.tt)::t)) w n) (Kp P tt mo o ((d,.ff)::t) w n K)
   | _=>False
abbrev MO:=Ts→Os→Nat→(Ts→Os→Nat→Prop)→Prop
def Zlr (ops:List Oper)(o:Oper)(_:List Oper)(b:MO):MO:=fun t w n K=>sxG P tt .row ops o t w n fun t w n=>b t w n K
def Zlk:MO:=fun t w n K=>K t w n
def sxO (ops:List Oper)(l:List Oper):MO:=@List.rec Oper (fun _=>MO) Zlk (Zlr P tt ops) l
def isQ (o:Oper):Bool:=match o.op with
 | .convert src dst _=>match look src tt,look dst tt with
  | some a,some b=>match a.str,b.elem with
   | true,some _=>false
   | _,_=>true
  | _,_=>true
 | .assign x=>match x with
  | .const (.slice none 0 0)=>false
  | _=>true
 | .move _ | .pick _ _ _ | .makeFunc _ _ _ | .lookup _ _ _ _ | .load _ _ | .nilCheck _ | .sliceToArrayPointer _ _ | .fieldAddr _ _ _ | .field _ _ _ | .indexAddr _ _ _ | .index _ _ _ | .binOp _ _ _ _ _ | .unOp _ _ _ | .extract _ _ | .build _ _=>true
 | .slice ty _ _ _ _=>match look ty tt with
  | some ⟨_,_,none,_,false,_,.arr _ _ _⟩=>false
  | _=>true
 | .call c=>match c.callee with
  | .builtin .len | .builtin .max | .builtin .min=>true
  | _=>false
 | _=>false
def Zip (ty:TypeId):Bool:=match Z6y tt ty with
 | .ptr | .fn | .map _ _=>true
 | _=>false
def isL (o:Oper):Bool:=match o.op with
 | .store _ _ _ | .mapUpdate _ _ _ _ | .insert _ _ _ _ | .next _ _ | .entry _=>true
 | .call c=>match c.callee with
  | .builtin .append=>true
  | .builtin .copy=>true
  | .builtin .delete=>true
  | .value (.func _)=>Sy (Zip tt) c.argTypes.toList
  | .value _=>true
  | _=>false
 | _=>false
def Zeg (l:List Bool)(i:Nat):Bool:=match nth l i with
 | some b=>b
 | none=>false
def Yi:List Bool→Nat→List Bool
 | [],_=>[]
 | _::l,0=>true::l
 | b::l,i+1=>b::Yi l i
def Hc (l:List Bool):List Edge→Bool
 | []=>true
 | e::es=>bif (!Region.binds .any e||Zeg l e.on) then Hc l es else false
def rdy (l:List Bool):List Oper→List Bool→Nat→List Nat
 | o::os,b::bs,i=>bif (!b&&Hc l o.after.toList) then i::rdy l os bs (i+1) else rdy l os bs (i+1)
 | _,_,_=>[]
def Mi (b:List Nat)(ops:List Oper):List Nat→Option Nat
 | []=>none
 | i::l=>match nth ops i with
  | some o=>bif isQ tt o&&!Gc i b then some i else Mi b ops l
  | none=>Mi b ops l
def Ziw (ty:TypeId):Bool:=match look ty tt with
 | some ⟨false,[_],none,_,_,_,.no⟩=>true
 | some ⟨false,[_],none,_,_,_,.bool⟩=>true
 | _=>false
def Zcv (o:Oper):Bool:=match o.guard,o.op with
 | none,.call c=>match c.callee with
  | .value (.func _)=>B4 (Ziw tt) c.argTypes.toList
  | _=>false
 | _,_=>false
def Zj4:List Oper→Nat
 | []=>0
 | o::l=>bif Zcv tt o then Zj4 l+1 else Zj4 l
def Qy (ops:List Oper):List Nat→Option Nat
 | []=>none
 | i::l=>match nth ops i with
  | some o=>bif Zcv tt o then some i else Qy ops l
  | none=>Qy ops l
def Zf8 (ops:List Oper)(rs:List Nat):Option Nat:=match Nat.ble 4 (Zj4 tt ops) with
 | true=>Qy tt ops rs
 | false=>none
def Zjr (f:Nat→Prop)(i:Nat)(l:List Nat)(b:Prop):Prop:=match l with
 | []=>f i
 | _::_=>f i∧b
def Zhb (f:Nat→Prop)(l:List Nat):Prop:=@List.rec Nat (fun _=>Prop) True (Zjr f) l
def isR (o:Oper):Bool:=match o.op with
 | .load _ _ | .convert _ _ _ | .lookup _ _ _ _=>true
 | .call c=>match c.callee with
  | .builtin .len=>Sy (Zip tt) c.argTypes.toList
  | _=>false
 | _=>false
def noB:List Oper→List Bool
 | []=>[]
 | _::l=>false::noB l
def O7 {α:Type}:List Bool→Nat→(List Bool→α)→α
 | [],_,K=>K []
 | _::l,0,K=>K (true::l)
 | b::l,i+1,K=>O7 l i fun r=>K (b::r)
def Zt {α:Type}:List Edge→List Bool→(List Bool→α)→α
 | [],m,K=>K m
 | e::es,m,K=>match Region.binds .any e with
  | true=>O7 m e.on fun m=>Zt es m K
  | false=>Zt es m K
def Jc {α:Type}(ops:List Oper):Nat→List Bool→(List Bool→α)→α
 | 0,m,K=>K m
 | n+1,m,K=>match Zeg m n with
  | true=>match nth ops n with
   | some o=>Zt o.after.toList m fun m=>Jc ops n m K
   | none=>Jc ops n m K
  | false=>Jc ops n m K
def Zjd (c:List Nat):List Oper→List Bool→Nat→Bool
 | o::l,b::m,i=>bif isR tt o&&(!b&&!Gc i c) then false else Zjd c l m (i+1)
 | _,_,_=>true
def Nk {α:Type}(b:List Nat)(ops:List Oper):List Oper→Nat→(List Nat→α)→α
 | [],_,K=>K []
 | o::l,i,K=>match isL tt o with
  | true=>O7 (noB ops) i fun m=>Jc ops (i+1) m fun m=>match Zjd tt b ops m 0 with
   | true=>Nk b ops l (i+1) fun r=>K (i::r)
   | false=>Nk b ops l (i+1) K
  | false=>Nk b ops l (i+1) K
def Zj9:List Oper→Nat→Option Nat
 | [],_=>none
 | o::l,d=>match o.dst with
  | some e=>match Nat.beq e d with
   | true=>match o.op with
    | .fieldAddr _ (.tmp b) _=>some b
    | .move (.tmp b)=>some b
    | .nilCheck (.tmp b)=>some b
    | _=>none
   | false=>Zj9 l d
  | none=>Zj9 l d
def Zbn (ops:List Oper):Nat→Nat→Nat
 | 0,d=>d
 | n+1,d=>match Zj9 ops d with
  | some b=>Zbn ops n b
  | none=>d
def Zlq (ops:List Oper)(r:Nat)(o:Oper):Bool:=match o.op with
 | .call c=>match c.callee with
  | .value _=>Sy (fun x=>match x with
   | .tmp a=>Nat.beq (Zbn ops 8 a) r
   | _=>false) c.args.toList
  | _=>false
 | _=>false
def Zjp (ops:List Oper)(i r:Nat):List Oper→Nat→Bool
 | [],_=>false
 | o::l,j=>match isL tt o&&Zlq ops r o with
  | true=>O7 (noB ops) j fun m=>Jc ops (j+1) m fun m=>match Zeg m i with
   | true=>Zjp ops i r l (j+1)
   | false=>true
  | false=>Zjp ops i r l (j+1)
def Zis (ld:Bool):List Oper→Nat→Option Nat
 | [],_=>none
 | o::l,d=>match o.dst with
  | some e=>match Nat.beq e d with
   | true=>match o.op,ld with
    | .indexAddr _ (.tmp b) _,false=>some b
    | .load _ (.tmp b),true=>some b
    | _,_=>none
   | false=>Zis ld l d
  | none=>Zis ld l d
def elS (ops:List Oper)(d:Nat):Nat:=match Zis false ops d with
 | some b=>match Zis true ops b with
  | some a=>a
  | none=>d
 | none=>d
def Zl0 (ops:List Oper)(i:Nat)(o:Oper):Bool:=match o.op with
 | .load _ (.tmp d)=>Zjp tt ops i (Zbn ops 8 (elS ops d)) ops 0
 | _=>false
def Zan {α:Type}(ops:List Oper):List Oper→Nat→(List Nat→α)→α
 | [],_,K=>K []
 | o::l,i,K=>match Zl0 tt ops i o with
  | true=>Zan ops l (i+1) fun r=>K (i::r)
  | false=>Zan ops l (i+1) K
def Z98:List Oper→Nat→Option Nat
 | [],_=>none
 | o::l,d=>match o.dst with
  | some e=>match Nat.beq e d with
   | true=>match o.op with
    | .fieldAddr _ (.tmp b) _=>some b
    | .indexAddr _ (.tmp b) _=>some b
    | .move (.tmp b)=>some b
    | .nilCheck (.tmp b)=>some b
    | _=>none
   | false=>Z98 l d
  | none=>Z98 l d
def N0 (t:Ts)(ops:List Oper):Nat→Nat→Option Nat
 | 0,_=>none
 | n+1,d=>match look d t with
  | some (.ptr k _)=>some k
  | some _=>none
  | none=>match Z98 ops d with
   | some b=>N0 t ops n b
   | none=>none
def vaC {α:Type}(g:G)(ks:List Nat)(K:List Nat→α):α:=match g with
 | .ptr k _=>I9 k ks K
 | _=>K ks
def Zid {α:Type}:List G→List Nat→(List Nat→α)→α
 | [],ks,K=>K ks
 | g::l,ks,K=>vaC g ks fun ks=>Zid l ks K
def va1 {α:Type}(g:G)(ks:List Nat)(K:List Nat→α):α:=match g with
 | .clo _ a c=>Zid a ks fun ks=>Zid c ks K
 | g=>vaC g ks K
def vaL {α:Type}(t:Ts)(ops:List Oper):List Operand→List Nat→(List Nat→α)→α
 | [],r,K=>K r
 | x::l,r,K=>match x with
  | .tmp d=>match look d t with
   | some g=>va1 g r fun r=>vaL t ops l r K
   | none=>match N0 t ops 8 d with
    | some k=>I9 k r fun r=>vaL t ops l r K
    | none=>vaL t ops l r K
  | _=>vaL t ops l r K
def Z56 (t:Ts)(ops:List Oper):Nat→Nat→Option Nat
 | 0,_=>none
 | n+1,d=>match look d t with
  | some (.osl k)=>some k
  | some _=>none
  | none=>match Z98 ops d with
   | some b=>Z56 t ops n b
   | none=>none
def vsS {α:Type}(t:Ts)(ops:List Oper):List Operand→List Nat→(List Nat→α)→α
 | [],r,K=>K r
 | .tmp d::l,r,K=>match Z56 t ops 8 d with
  | some k=>I9 k r fun r=>vsS t ops l r K
  | none=>vsS t ops l r K
 | _::l,r,K=>vsS t ops l r K
def Z6c {α:Type}(w:Os):List G→List Nat→(List Nat→α)→α
 | [],r,K=>K r
 | g::l,r,K=>match g with
  | .osl k=>match look k w with
   | some _=>I9 k r fun r=>Z6c w l r K
   | none=>Z6c w l r K
  | _=>Z6c w l r K
def Zj6:List Oper→Nat→Option Nat
 | [],_=>none
 | o::l,d=>match o.dst with
  | some e=>match Nat.beq e d with
   | true=>match o.op with
    | .load _ (.tmp b)=>some b
    | _=>none
   | false=>Zj6 l d
  | none=>Zj6 l d
def ldS {α:Type}(t:Ts)(w:Os)(ops:List Oper)(x:Operand)(r:List Nat)(K:List Nat→α):α:=match x with
 | .tmp d=>match look d t with
  | some _=>K r
  | none=>match Zj6 ops d with
   | some b=>match N0 t ops 8 b with
    | some k=>match look k w with
     | some (.blk cs _)=>Z6c w cs r K
     | _=>K r
    | none=>K r
   | none=>K r
 | _=>K r
def Zg8 (tt:List (Nat × TI))(ty:TypeId):Bool:=match Z6y tt ty with
 | .fn=>true
 | _=>false
def Zks {α:Type}(b:Bool)(t:Ts)(ops:List Oper)(l:List Operand)(r:List Nat)(K:List Nat→α):α:=match b with
 | true=>vsS t ops l r K
 | false=>K r
def Zgf {α:Type}:Os→List Nat→(List Nat→α)→α
 | [],r,K=>K r
 | (k,q)::l,r,K=>match q with
  | .abs _=>I9 k r fun r=>Zgf l r K
  | .fam _=>I9 k r fun r=>Zgf l r K
  | _=>Zgf l r K
def Zhv {α:Type}:Os→List Nat→(List Nat→α)→α
 | [],r,K=>K r
 | (k,q)::l,r,K=>match q with
  | .mpI _=>I9 k r fun r=>Zhv l r K
  | .mpS _=>I9 k r fun r=>Zhv l r K
  | _=>Zhv l r K
def Zh6 (tt:List (Nat × TI))(ty:TypeId):Bool:=match Z6y tt ty with
 | .map _ _=>true
 | _=>false
def Yt {α:Type}(late:List Nat)(t:Ts)(w:Os)(ops:List Oper):List Oper→Nat→List Nat→(List Nat→α)→α
 | [],_,r,K=>K r
 | o::l,i,r,K=>match isL tt o&&!Gc i late,o.op with
  | true,.store _ (.tmp d) _=>match N0 t ops 8 d with
   | some k=>I9 k r fun r=>Yt late t w ops l (i+1) r K
   | none=>Yt late t w ops l (i+1) r K
  | true,.call c=>match c.callee with
   | .value f=>vaL t ops (f::c.args.toList) r fun r=>Zks (Sy (Zg8 tt) c.argTypes.toList) t ops c.args.toList r fun r=>Zgf w r fun r=>match Sy (Zh6 tt) c.argTypes.toList with
    | true=>Zhv w r fun r=>Yt late t w ops l (i+1) r K
    | false=>Yt late t w ops l (i+1) r K
   | .builtin .append=>match c.args.toList with
    | x::_=>vsS t ops [x] r fun r=>ldS t w ops x r fun r=>Yt late t w ops l (i+1) r K
    | _=>Yt late t w ops l (i+1) r K
   | _=>Yt late t w ops l (i+1) r K
  | _,_=>Yt late t w ops l (i+1) r K
def vsB (XL:List Nat)(t:Ts)(o:Oper):Bool:=match o.guard,o.op with
 | none,.store _ (.tmp d) _=>match look d t with
  | some (.ptr k _)=>Gc k XL
  | _=>false
 | none,.call c=>match c.callee with
  | .value _=>true
  | .builtin .append=>match c.args.toList with
   | .tmp d::_=>match look d t with
    | some (.osl k)=>Gc k XL
    | some .nl=>true
    | _=>false
   | _=>false
  | _=>false
 | _,_=>false
def vsG (XL:List Nat)(t:Ts)(o:Oper):Bool:=match o.guard with
 | none=>vsB XL t o
 | some _=>match o.op with
  | .call c=>match c.callee with
   | .value _=>true
   | _=>false
  | _=>false
def Zgb (w:Os)(XL:List Nat):Bool:=B4 (fun k=>match look k w with | some _=>true | none=>false) XL
abbrev MD:=List Bool→Ts→Os→Nat→(Ts→Os→Nat→Prop)→Prop
def Zfa {α:Type}:List Oper→List Nat→(List Nat→α)→α
 | [],r,K=>K r
 | o::l,r,K=>match o.dst with
  | some d=>I9 d r fun r=>Zfa l r K
  | none=>Zfa l r K
def Zbb {α:Type}:Ts→List Nat→(List Nat→α)→α
 | [],r,K=>K r
 | (i,_)::l,r,K=>I9 i r fun r=>Zbb l r K
def Z5f (t:Ts):List Nat→Ts→(Ts→Prop)→Prop
 | [],acc,K=>K acc
 | i::l,acc,K=>match look i t with
  | some g=>Z5f t l ((i,g)::acc) K
  | none=>Z5f t l acc K
def Z99 (w:Os)(n:Nat):Os→(Os→Prop)→Prop:=@Nat.rec (fun _=>Os→(Os→Prop)→Prop) (fun b K=>K b) (fun i c b K=>match look i w with
 | some r=>c ((i,r)::b) K
 | none=>c b K) n
def brK (ops:List Oper)(t:Ts)(K:Ts→Os→Nat→Prop)(c:(Ts→Os→Nat→Prop)→Prop):List Nat→Prop
 | _::_::_=>Zfa ops [] fun L=>Zbb t L fun L=>c fun t w n=>Z5f t L [] fun t=>Z99 w n [] fun w=>K t w n
 | _=>c K
def Zka (t:Ts)(w:Os):List Operand→(List G→Prop)→Prop
 | [],K=>K []
 | x::l,K=>ev t w x fun g=>match Z9z (Z61 g) with
  | some _=>Zka t w l fun b=>K (Z61 g::b)
  | none=>False
def Zdl (P:Program)(o:Oper)(t:Ts)(w:Os)(K:Ts→Prop):Prop:=match o.op with
 | .call c=>match c.callee with
  | .value (.func f)=>Zka t w c.args.toList fun b=>Ze4 P f b fun g=>K (put o.dst g t)
  | _=>False
 | _=>False
def Zlv:MD:=fun _ t w n K=>K t w n
def Zjb (XL c late:List Nat)(ops:List Oper)(_:Oper)(_:List Oper)(b:MD):MD:=fun l t w n K=>match Mi tt c ops (rdy l ops l 0) with
  | some i=>match nth ops i with
   | some o=>match Zgb w XL with
    | true=>sxG P tt (.quiet XL) ops o t w n fun t w n=>O7 l i fun l=>b l t w n K
    | false=>False
   | none=>False
  | none=>match Zf8 tt ops (rdy l ops l 0) with
   | some i=>match nth ops i with
    | some o=>Zdl P o t w fun t=>O7 l i fun l=>b l t w n K
    | none=>False
   | none=>match rdy l ops l 0 with
    | []=>K t w n
    | rs=>brK ops t K (fun K=>Zhb (fun i=>match nth ops i with
     | some o=>match isL tt o with
      | false=>sxG P tt .new ops o t w n fun t w n=>O7 l i fun l=>b l t w n K
      | true=>match Gc i late with
       | true=>sxG P tt .late ops o t w n fun t w n=>O7 l i fun l=>b l t w n K
       | false=>match vsG XL t o,Zgb w XL with
        | true,true=>sxG P tt (.vs XL) ops o t w n fun t w n=>O7 l i fun l=>b l t w n K
        | _,_=>False
     | none=>False) rs) rs
def sxD (XL b late:List Nat)(ops:List Oper)(fu:List Oper):MD:=@List.rec Oper (fun _=>MD) Zlv (Zjb P tt XL b late ops) fu
inductive Ex where
 | normal
 | exit (id:Nat)
 | ret
 | goto (l:Nat)
abbrev KC:=Ex→Ts→Os→Nat→Prop
def leT (m:List (Nat × Nat))(t:Ts)(n:Nat):Ts→Prop
 | []=>True
 | (i,g)::r=>(Z7y n g=true∧look i t=some (renS m g))∧leT m t n r
def leO (m:List (Nat × Nat))(w:Os)(n:Nat):Os→Prop
 | []=>True
 | (k,r)::l=>((Nat.blt k n&&(isS r||Nat.beq ((look k m).getD k) k))=true∧Zp n r=true∧look ((look k m).getD k) w=some (Z9f m r))∧leO m w n l
def le (m:List (Nat × Nat))(t:Ts)(w:Os)(n:Nat)(b:Ts)(w':Os):Prop :=
 leT m t n b∧leO m w n w'∧Nj (w'.map fun p=>(look p.1 m).getD p.1)=true
def mkM (t:Ts):Ts→List (Nat × Nat)
 | []=>[]
 | (i,.osl k)::l=>match look i t with
  | some (.osl j)=>(k,j)::mkM t l
  | _=>mkM t l
 | _::l=>mkM t l
def Z4c {X:Type}(st:X→Ts × Os)(d:X→Ts)(I:X→Prop)(μ:X→Nat)(n:Nat)(x:X)(K:KC):KC:=fun e b w' c=>match e with
 | .normal=>∃y,I y∧μ y < μ x∧le (mkM b (d y)) b w' n (st y).1 (st y).2
 | .exit id=>K (.exit id) b w' c
 | .ret=>K .ret b w' c
 | .goto l=>K (.goto l) b w' c
abbrev MC:=Ts→Os→Nat→KC→Prop
def Z2y (_ _:Code)(x y:MC):MC:=fun t w n K=>x t w n fun e t w n=>match e with
  | .normal=>y t w n K
  | .exit id=>K (.exit id) t w n
  | .ret=>K .ret t w n
  | .goto l=>K (.goto l) t w n
def Z5h (c:Operand)(_ _:Code)(x y:MC):MC:=fun t w n K=>ev t w c fun g=>match g with
  | .tt=>x t w n K
  | .ff=>y t w n K
  | .v (.bool c)=>EvIf c (x t w n K) (y t w n K)
  | _=>False
def Tl (b:Nat)(_:Code)(x:MC):MC:=fun t w n K=>x t w n fun e t w n=>match e with
  | .normal=>K .normal t w n
  | .exit id'=>bif Nat.beq id' b then K .normal t w n else K (.exit id') t w n
  | .ret=>K .ret t w n
  | .goto l=>K (.goto l) t w n
def Pv {X:Type}(st:X→Ts × Os)(I:X→Prop)(μ:X→Nat)(n:Nat)(x:X)(K:KC):KC:=fun e b w' c=>match e with
 | .normal=>∃(y:X) (m:List (Nat × Nat)),I y∧μ y < μ x∧le m b w' n (st y).1 (st y).2
 | .exit id=>K (.exit id) b w' c
 | .ret=>K .ret b w' c
 | .goto l=>K (.goto l) b w' c
def Pf {X:Type}(st:X→Ts × Os)(_:X→Ts)(I:X→Prop)(μ:X→Nat)(n:Nat)(x:X)(K:KC):KC:=fun e j w' b=>Gh (fun h c=>Pv st I μ n x K e j h c) w' b
def Zly (b:Bool){X:Type}(st:X→Ts × Os)(d:X→Ts)(I:X→Prop)(μ:X→Nat)(n:Nat)(x:X)(K:KC):KC:=match b with
 | false=>Z4c st d I μ n x K
 | true=>Pf st d I μ n x K
def L6 (_:Code)(x:MC):MC:=fun t w0 n0 K=>Gh (fun w n=>∃(b:Bool) (X:Type) (st:X→Ts × Os) (d:X→Ts) (I:X→Prop) (μ:X→Nat),
      (∃x,I x∧le [] t w n (st x).1 (st x).2)∧∀y,I y→x (st y).1 (st y).2 n (Zly b st d I μ n y K)) w0 n0
def Zcx (_:Nat)(ops:Array Oper)(d:Bool):MC:=fun t w n K=>match d with
  | false=>sxO P tt ops.toList ops.toList t w n (K .normal)
  | true=>Zan tt ops.toList ops.toList 0 fun b=>Nk tt b ops.toList ops.toList 0 fun late=>Yt tt late t w ops.toList ops.toList 0 [] fun XL=>trK w 3 XL fun XL=>sxD P tt XL b late ops.toList ops.toList (noB ops.toList) t w n (K .normal)
def Z31 (e:Ex):MC:=fun t w n K=>K e t w n
def Zkz:MC:=fun _ _ _ _=>False
def O8 (m:MC):MC:=fun t w n K=>m t w n fun e t w n=>match e with
  | .normal=>K .normal t w n
  | .exit id=>K (.exit id) t w n
  | .ret=>K .ret t w n
  | .goto _=>False
def Tj:Code→Option Nat
 | .seq a b=>match Tj a with
  | some l=>some l
  | none=>Tj b
 | .label l=>some l
 | _=>none
abbrev MP:=Bool→MC
def T7 (x:Code)(m:MP):MC:=match Tj x with
 | none=>O8 (m true)
 | some l=>fun t w n K=>m true t w n fun e t w n=>match e with
  | .normal=>K .normal t w n
  | .exit id=>K (.exit id) t w n
  | .ret=>K .ret t w n
  | .goto l'=>bif Nat.beq l' l then O8 (m false) t w n K else False
def Zld (x y:Code)(p q:MP):MP:=fun b=>match b with
 | true=>Z2y x y (p true) (q true)
 | false=>match Tj x with
  | some _=>Z2y x y (p false) (q true)
  | none=>q false
def sxM (c:Code):MP:=@Code.rec (fun _=>MP) (fun _=>Z31 .normal) (fun i o d _=>Zcx P tt i o d) Zld (fun c x y p q _=>Z5h c x y (p true) (q true)) (fun i x p _=>Tl i x (p true)) (fun x p _=>L6 x (p true)) (fun _ _ _ _ _ _ _=>Zkz) (fun b _=>Z31 (.exit b)) (fun x p _=>T7 x p) (fun _ _=>Z31 .normal) (fun l _=>Z31 (.goto l)) (fun _=>Z31 .ret) (fun _ _=>Zkz) c
def sxC (c:Code):MC:=sxM P tt c true
def Zcj (t:Ts)(w:Os)(K:G→Os→Prop):ResultVar→Prop
 | .tmp i=>match look i t with
  | some g=>pur w g K
  | none=>False
 | .cell i ty=>match look i t,look ty tt with
  | some (.ptr k off),some i=>match look k w with
   | some (.blk cs _)=>match i.agg with
    | true=>seg cs off i.zero.length fun l=>Zee l w fun b w'=>K (.agg b) w'
    | false=>match nth cs off with
     | some g=>Zas w g K
     | none=>False
   | _=>False
  | _,_=>False
def Zcc (t:Ts)(w:Os):List ResultVar→(List G→Prop)→Prop
 | [],K=>K []
 | r::l,K=>Zcj tt t w (fun g w'=>Zcc t w' l fun b=>K (g::b)) r
def Zes (fn:Func)(Q:G→Prop):KC:=fun e t w _=>match e with
 | .exit _=>False
 | .goto _=>False
 | _=>match fn.results.toList with
  | [r]=>Zcc tt t w [r] fun b=>match b with
   | [g]=>Q g
   | _=>False
  | rs=>Zcc tt t w rs fun b=>Q (.tup b)
def Z3a (t:Ts)(w:Os)(K:G→Os→Prop):ResultVar→Prop
 | .tmp i=>match look i t with
  | some g=>Zhe w g K
  | none=>False
 | .cell i ty=>Zcj tt t w K (.cell i ty)
structure It where
 O:Os
 m:List (Nat × Nat)
 c:Bool
def It.root (i:It):Nat:=(look 0 i.m).getD 0
def It.keys (i:It):List Nat:=i.O.map fun p=>(look p.1 i.m).getD p.1
def Vc:List It→List Nat
 | []=>[]
 | i::l=>i.keys++Vc l
def Np:Nat→List G→Ts
 | _,[]=>[]
 | i,g::l=>(i,g)::Np (i+1) l
def It.res:It→R
 | ⟨O,_,true⟩=>.abs (cl O)
 | ⟨O,_,false⟩=>match look 0 O with
  | some r=>r
  | none=>.gone
def F6:List It→Nat→List (Nat × Nat)
 | [],_=>[]
 | i::l,j=>(j,i.root)::F6 l (j+1)
def It.ok (own:Os)(n n0 N:Nat)(M:List (Nat × Nat))(j:Nat)(i:It):Prop:=match i.c with
 | true=>leI i.m own n i.O∧∃r,look 0 i.O=some r
 | false=>∃r,i.O=[(0,r)]∧look i.root own=some (Ii M r)∧(Zp N r&&((match r with | .blk cs _=>B4 (Zea n0) cs | _=>true)&&(!(match r with | .slc _ _ _ | .froz _ _ | .vw _ _ _=>true | _=>false)||Nat.ble n0 j)))=true
def Zb7 (own:Os)(n n0 N:Nat)(M:List (Nat × Nat)):Nat→List It→Prop
 | _,[]=>True
 | j,i::l=>i.ok own n n0 N M j∧Zb7 own n n0 N M (j+1) l
def Zik:G→Bool
 | .osv _ _ _ _ | .oel _ _ _ _ | .orv _ _ _ _ _ _ | .clo _ _ _=>false
 | _=>true
def Zj3:G→Bool
 | .tup l=>B4 Zik l
 | g=>Zik g
def Z3e (n0:Nat):G→Bool
 | .oag l=>B4 (Zea n0) l
 | .osl k=>Nat.ble n0 k
 | _=>true
def Zku (n0:Nat):G→Bool
 | .tup l=>B4 (Z3e n0) l
 | g=>Z3e n0 g
structure Z5v (roots:List Nat)(own:Os)(n:Nat)(g:G)(Q:G→List R→Prop)(its:List It)(g':G):Prop where
 ok:Zb7 own n roots.length its.length (F6 its 0) 0 its
 nod:Nj (Vc its)=true
 rts:∃l,its.map It.root=roots++l
 res:Qs (F6 its 0) g'=g
 key:(Z7y its.length g'&&Zj3 g'&&Zku roots.length g')=true
 post:Q g' (its.map It.res)
def Pe (t:Ts)(n:Nat):List Nat→Ts
 | []=>[]
 | i::l=>match look i t with
  | some g=>match Z7y n g with
   | true=>(i,g)::Pe t n l
   | false=>Pe t n l
  | none=>Pe t n l
def Mp (t:Os)(n:Nat):List Nat→Os
 | []=>[]
 | i::l=>match look i t,Nat.blt i n with
  | some g,true=>match Zp n g with
   | true=>(i,g)::Mp t n l
   | false=>Mp t n l
  | _,_=>Mp t n l
theorem Z4u (m:List (Nat × Nat))(t a b:Ts)(n:Nat)(ha:leT m t n a)(c:leT m t n b):leT m t n (a++b):=by
 induction a with
 | nil=>exact c
 | cons p a ih=>exact⟨ha.1,ih ha.2⟩
theorem Z4h (m:List (Nat × Nat))(t a b:Os)(n:Nat)(ha:leO m t n a)(c:leO m t n b):leO m t n (a++b):=by
 induction a with
 | nil=>exact c
 | cons p a ih=>exact⟨ha.1,ih ha.2⟩
theorem Xj (g:G):Kg [] g=g:=by cases g<;>rfl
theorem Qe (g:G):Z5r [] g=g:=by
 cases g with
 | oag l=>simp only[Z5r,funext Xj];simp
 | clo f a c=>simp only[Z5r,funext Xj];simp
 | _=>rfl
theorem Vs (g:G):Qs [] g=g:=by
 cases g with
 | tup l=>simp only[Qs,funext Qe];simp
 | oag l=>exact Qe (.oag l)
 | clo f a c=>exact Qe (.clo f a c)
 | _=>rfl
theorem Hl (g:G):Lb [] g=g:=by
 cases g with
 | orv k i s off l c=>cases s<;>rfl
 | _=>rfl
theorem Mw (g:G):Tc [] g=g:=by
 cases g with
 | oag l=>simp only[Tc,funext Hl];simp
 | clo f a c=>simp only[Tc,funext Hl];simp
 | orv k i s o l c=>exact Hl (.orv k i s o l c)
 | _=>rfl
theorem Z8s (g:G):renS [] g=g:=by
 cases g with
 | tup l=>simp only[renS,funext Mw];simp
 | oag l=>exact Mw (.oag l)
 | clo f a c=>exact Mw (.clo f a c)
 | orv k i s o l c=>exact Hl (.orv k i s o l c)
 | _=>rfl
theorem Z3f (r:R):Z9f [] r=r:=by
 cases r with
 | blk cs t=>simp only[Z9f,funext Hl];simp
 | _=>rfl
theorem Y7 (t:Ts)(n:Nat)(ks:List Nat):leT [] t n (Pe t n ks):=by
 induction ks with
 | nil=>exact trivial
 | cons i l ih =>
  unfold Pe;cases h:look i t with
  | none=>exact ih
  | some g =>
   cases h2:Z7y n g with
   | false=>simpa [h2] using ih
   | true=>simp only[h2];exact⟨⟨h2,by rw[h,Z8s]⟩,ih⟩
theorem Wj (t:Os)(n:Nat)(ks:List Nat):leO [] t n (Mp t n ks):=by
 induction ks with
 | nil=>exact trivial
 | cons i l ih =>
  unfold Mp;cases h:look i t with
  | none=>exact ih
  | some g =>
   cases h2:Nat.blt i n with
   | false=>exact ih
   | true =>
    cases h3:Zp n g with
    | false=>simpa [h3] using ih
    | true=>simp only[h3];exact⟨⟨by rw[h2];show(true&&(isS g||Nat.beq i i))=true;rw[Nat.beq_refl];simp,h3,by show look i t=_;rw[h,Z3f]⟩,ih⟩
def N2 {α:Type}(t:Ts)(n:Nat):List Nat→(Ts→α)→α
 | [],K=>K []
 | i::l,K=>match look i t with
  | some g=>match Z7y n g with
   | true=>N2 t n l fun r=>K ((i,g)::r)
   | false=>N2 t n l K
  | none=>N2 t n l K
def Ms {α:Type}(t:Os)(n:Nat):List Nat→(Os→α)→α
 | [],K=>K []
 | i::l,K=>match look i t,Nat.blt i n with
  | some g,true=>match Zp n g with
   | true=>Ms t n l fun r=>K ((i,g)::r)
   | false=>Ms t n l K
  | _,_=>Ms t n l K
theorem Rc {α:Type}(t:Ts)(n:Nat)(l:List Nat)(K:Ts→α):N2 t n l K=K (Pe t n l):=by
 induction l generalizing K with
 | nil=>rfl
 | cons i l ih =>
  unfold N2 Pe;cases look i t with
  | none=>exact ih K
  | some g =>
   cases h:Z7y n g with
   | true=>simp only[h];exact ih _
   | false=>simp only[h];exact ih _
theorem S6 {α:Type}(t:Os)(n:Nat)(l:List Nat)(K:Os→α):Ms t n l K=K (Mp t n l):=by
 induction l generalizing K with
 | nil=>rfl
 | cons i l ih =>
  unfold Ms Mp;cases look i t with
  | none=>exact ih K
  | some g =>
   cases Nat.blt i n with
   | false=>exact ih _
   | true =>
    cases h:Zp n g with
    | true=>simp only[h];exact ih _
    | false=>simp only[h];exact ih _
theorem As {a:Code}{B:MC}{t:Ts}{w:Os}{n:Nat}{K:KC}(ks os:List Nat){X:Type}(d:X→Ts)(r:X→Os)(I:X→Prop)(μ:X→Nat)(b:X)(j:I b)(m:leT [] t n (d b))(c:leO [] w n (r b))(q:Nj ((r b++Mp w n os).map fun p=>(look p.1 ([]:List (Nat × Nat))).getD p.1)=true)
  (h:N2 t n ks fun T=>Ms w n os fun O=>∀x,I x→B (d x++T) (r x++O) n (Z4c (fun x=>(d x++T,r x++O)) d I μ n x K)):L6 a B t w n K:=by
 rw[Rc,S6] at h;exact .done ⟨false,X,fun x=>(d x++Pe t n ks,r x++Mp w n os),d,I,μ,⟨b,j,Z4u _ _ _ _ _ m (Y7 t n ks),Z4h _ _ _ _ _ c (Wj w n os),q⟩,h⟩
theorem D2 {a:Code}{B:MC}{t:Ts}{w:Os}{n:Nat}{K:KC}(ks os:List Nat){X:Type}(d:X→Ts)(r:X→Os)(I:X→Prop)(μ:X→Nat)(b:X)(j:I b)(m:leT [] t n (d b))(c:leO [] w n (r b))(q:Nj ((r b++Mp w n os).map fun p=>(look p.1 ([]:List (Nat × Nat))).getD p.1)=true)
  (h:N2 t n ks fun T=>Ms w n os fun O=>∀x,I x→B (d x++T) (r x++O) n (Pf (fun x=>(d x++T,r x++O)) d I μ n x K)):L6 a B t w n K:=by
 rw[Rc,S6] at h;exact .done ⟨true,X,fun x=>(d x++Pe t n ks,r x++Mp w n os),d,I,μ,⟨b,j,Z4u _ _ _ _ _ m (Y7 t n ks),Z4h _ _ _ _ _ c (Wj w n os),q⟩,h⟩
theorem Gh.join {K:Os→Nat→Prop}{w:Os}{n:Nat}(h:Gh (fun w n=>Gh K w n) w n):Gh K w n:=by
 induction h with
 | done h=>exact h
 | nil k p q ty e sz hk hz _ ih=>exact .nil k p q ty e sz hk hz ih
 | close O m hO h0 hd _ ih=>exact .close O m hO h0 hd ih
 | opn k cs ty rs hk hb hs _ ih=>exact .opn k cs ty rs hk hb hs ih
 | adr k r hk _ ih=>exact .adr k r hk ih
 | lies k B p hk hp _ ih=>exact .lies k B p hk hp ih
 | fam _ ih=>exact .fam ih
 | adopt j k ps p hj hk _ ih=>exact .adopt j k ps p hj hk ih
 | frz k rows e sz hk _ ih=>exact .frz k rows e sz hk ih
 | seen k cs ty hk _ ih=>exact .seen k cs ty hk ih
 | drop k r hk _ ih=>exact .drop k r hk ih
 | rnm kb k p q ty rows e sz hb hk _ ih=>exact .rnm kb k p q ty rows e sz hb hk ih
 | dup j k b hj _ ih=>exact .dup j k b hj ih
 | move m k j1 j2 b p hm hk h1 h2 _ ih=>exact .move m k j1 j2 b p hm hk h1 h2 ih
 | take j i ps p hj hi _ ih=>exact .take j i ps p hj hi ih
 | put j i k ps p hj hi hk _ ih=>exact .put j i k ps p hj hi hk ih
 | view k rows e sz hk _ ih=>exact .view k rows e sz hk ih
 | tail kb k lo hi p q ty rows e sz hb hk hl _ ih=>exact .tail kb k lo hi p q ty rows e sz hb hk hl ih
theorem Z7i {a:Code}{B:MC}{t:Ts}{w:Os}{n:Nat}{K:KC}(h:Gh (fun w n=>L6 a B t w n K) w n):L6 a B t w n K:=Gh.join h
attribute [irreducible] L6
end
structure Env (w0 w:World)(L:List (Nat × List Value × TypeId))(U:List (World × List Nat)):Prop where
 blw:Below w0.heap.size w0 w
 own:∀p∈L,w0.heap.size≤p.1∧w.heap[p.1]?=some (.cells p.2.1.toArray p.2.2 (0,0))
 sep:(L.map (·.1)).Nodup
 sn:∀q∈U,Frm q.2 q.1 w∧∀p∈L,p.1∈q.2∨q.1.heap.size≤p.1
inductive IsC:Value→List Value→Prop
 | agg (cs:List Value):IsC (.agg cs.toArray) cs
 | int (k:IntKind) (n:Int):IsC (.int k n) [.int k n]
 | str (s:ByteArray):IsC (.string s) [.string s]
 | slice (a:Option Addr) (n c:Nat):IsC (.slice a n c) [.slice a n c]
 | bool (b:Bool):IsC (.bool b) [.bool b]
 | ptr (a:Option Addr):IsC (.pointer a) [.pointer a]
 | map (r:Option Nat):IsC (.map r) [.map r]
 | iface (t:TypeId) (v:Value):IsC (.iface t v) [.iface t v]
 | nilI:IsC .nilIface [.nilIface]
theorem IsC.eq {v:Value}{cs:List Value}(h:IsC v cs):v.cells.toList=cs:=by cases h<;>simp[Value.cells]
inductive At {α:Type}:List α→Nat→α→Prop
 | z {x:α} {l:List α}:At (x::l) 0 x
 | s {x y:α} {l:List α} {i:Nat} (h:At l i x):At (y::l) (i+1) x
theorem At.get {α:Type}{l:List α}{i:Nat}{x:α}(h:At l i x):l[i]?=some x:=by
 induction h with
 | z=>rfl
 | s _ ih=>simpa using ih
def Rr (P:Program)(t:TypeId):Option Bool:=(P.underlying t).map fun d=>match d with | .struct _ | .array _ _=>true | _=>false
theorem Frm.trans2 {S T:List Nat}{u w w':World}(h:Frm T u w)(b:Frm S w w')(p:∀k∈S,k∈T∨u.heap.size≤k):Frm T u w' :=
 ⟨b.os.trans h.os,b.tape.trans h.tape,b.output.trans h.output,ca h.size b.size,fun k j c=>(b.block k (aq j h.size) (fun m=>(p k m).elim c (fun q=>by omega))).trans (h.block k j c)⟩
section
variable {P:Program} {w0 w w':World} {L:List (Nat × List Value × TypeId)} {U:List (World × List Nat)} {g k i:Nat} {row:List Value} {t ty:TypeId}
theorem H9 {b:Bool}(h:Rr P ty=some b)(w:World):(isAgg ty).run P w=.ok b w:=by unfold Rr at h;obtain⟨d,hd,rfl⟩:=ay.1 h;unfold isAgg;rw[Sem.run_bind,run_underlying hd w];cases d<;>simp
theorem Bx {n:Nat}(h:(P.info? ty).map (·.size)=some n)(w:World):(sizeOf ty).run P w=.ok n w:=by
 cases hq:P.info? ty with
 | none=>simp[hq] at h
 | some j =>
  rw[hq] at h;injection h with h;simp[sizeOf,typeInfo,hq,h]
theorem Env.new (w:World):Env w w [] []:=⟨Below.refl _ _,by simp,by simp,by simp⟩
theorem Env.base (h:Below w0.heap.size w0 w):Env w0 w [] []:=⟨h,by simp,by simp,by simp⟩
theorem Env.size (h:Env w0 w L U):w0.heap.size≤w.heap.size:=h.blw.size
theorem Env.lt (h:Env w0 w L U){p:Nat × List Value × TypeId}(b:p∈L):p.1 < w.heap.size:=(bp.1 (h.own p b).2).1
theorem Env.below (h:Env w0 w L U)(b:Below w.heap.size w w'):Env w0 w' L U :=
 ⟨h.blw.trans (b.mono h.blw.size),fun p c=>⟨(h.own p c).1,(b.block _ (h.lt c)).trans (h.own p c).2⟩,h.sep,fun q j=>⟨(h.sn q j).1.trans (Frm.of_below b),(h.sn q j).2⟩⟩
theorem Env.drew (h:Env w0 w L U):Env w0 w.drew L U:=h.below (Below.refl w.heap.size w).drew
theorem Env.drewN (h:Env w0 w L U)(n:Nat):Env w0 (w.drewN n) L U:=h.below (Mh (Below.refl w.heap.size w) n)
theorem Env.alloc (h:Env w0 w L U)(cs:List Value)(t:TypeId):Env w0 (w.alloc (.cells cs.toArray t)) ((w.heap.size,cs,t)::L) U:=by
 have m:Below w.heap.size w (w.alloc (.cells cs.toArray t)):=(Below.refl _ _).alloc (af _) _;have j:=h.below m;refine⟨j.blw,fun p b=>?_,?_,fun q c=>⟨(j.sn q c).1,fun p b=>?_⟩⟩
 ·rcases bi.1 b with rfl | b
  ·exact⟨h.blw.size,heap_alloc_new _ _⟩
  ·exact j.own p b
 ·rw[ck,List.nodup_cons];refine⟨fun s=>?_,h.sep⟩;obtain⟨p,b,e⟩:=ba.1 s;have:=h.lt b;omega
 ·rcases bi.1 b with rfl | b
  ·exact .inr (h.sn q c).1.size
  ·exact(h.sn q c).2 p b
theorem Env.at_ (h:Env w0 w L U)(hL:L[i]?=some (g,row,t)):w.heap[g]?=some (.cells row.toArray t (0,0))∧w0.heap.size≤g∧g < w.heap.size :=
 have:=h.own _ (ae hL)
 ⟨this.2,this.1,h.lt (ae hL)⟩
theorem Env.cell (h:Env w0 w L U)(hL:L[i]?=some (g,row,t))(k:Nat):w.cell? ⟨g,k,none⟩=row[k]?:=by rw[Z1x (h.at_ hL).1];simp
theorem Env.froz (h:Env w0 w L U)(hL:L[i]?=some (g,row,t))(k:Nat):w.frozen? ⟨g,k,none⟩=false:=frozen_of_row w g k _ t (h.at_ hL).1
theorem Env.frm {S:List Nat}(h:Env w0 w L U)(c:Frm S w w')(m:∀k∈S,w0.heap.size≤k∧k ∉ L.map (·.1))(z:∀q∈U,∀k∈S,k∈q.2∨q.1.heap.size≤k):Env w0 w' L U :=
 ⟨c.below h.blw h.blw.size (fun k u=>(m k u).1),fun p b=>⟨(h.own p b).1,(c.block _ (h.lt b) (fun s=>(m _ s).2 (ba.2 ⟨p,b,rfl⟩))).trans (h.own p b).2⟩,h.sep,
  fun q j=>⟨(h.sn q j).1.trans2 c (z q j),(h.sn q j).2⟩⟩
theorem Env.snap (h:Env w0 w L U):Env w0 w L ((w,L.map (·.1))::U) :=
 ⟨h.blw,h.own,h.sep,fun q b=>by
  rcases bi.1 b with rfl | b
  ·exact⟨Frm.refl _ _,fun p c=>.inl (ba.2 ⟨p,c,rfl⟩)⟩
  ·exact h.sn q b⟩
theorem Env.since (h:Env w0 w L U){u:World}{S:List Nat}(j:Nat)(b:U[j]?=some (u,S)):Frm S u w:=(h.sn _ (ae b)).1
theorem Env.tail {p:Nat × List Value × TypeId}(h:Env w0 w (p::L) U):Env w0 w L U :=
 ⟨h.blw,fun q b=>h.own q (List.mem_cons_of_mem _ b),(List.nodup_cons.1 h.sep).2,fun q b=>⟨(h.sn q b).1,fun p c=>(h.sn q b).2 p (List.mem_cons_of_mem _ c)⟩⟩
theorem Env.set (h:Env w0 w L U)(hL:L[i]?=some (g,row,t)){b:List Value}(hg:w'.heap[g]?=some (.cells b.toArray t (0,0)))(m:w.grownBy w' (some g)):Env w0 w' (L.set i (g,b,t)) U:=by
 have F:=(h.at_ hL).2;have z:=(ac.1 hL).1;have J:L[i]=(g,row,t):=(ac.1 hL).2;have c:(L.set i (g,b,t)).map (·.1)=L.map (·.1):=by
  rw[List.map_set];apply cp;intro j;rw[cn];split
  ·rename_i e
   subst e;rw[dc (by simpa using z),aj,hL];rfl
  ·rfl
 refine⟨Below.grownBy h.blw m h.blw.size (fun k s=>by injection s with s;omega),fun p E=>?_,by rw[c];exact h.sep,fun q M=>⟨?_,fun p E=>?_⟩⟩
 ·obtain⟨j,Y,e⟩:=cg.1 E;rw[List.getElem_set] at e;split at e
  ·rename_i hij
   subst e;exact⟨F.1,hg⟩
  ·rename_i hij
   have u:j < L.length:=by simpa using Y
   have C:p∈L:=e ▸ bm u;refine⟨(h.own p C).1,(m.block _ (h.lt C) (fun T=>?_)).trans (h.own p C).2⟩;injection T with T;have A:=List.pairwise_iff_getElem.1 h.sep;have B:i < (L.map (·.1)).length:=by simpa using z
   have D:j < (L.map (·.1)).length:=by simpa using u
   have W:(L.map (·.1))[i]=g:=by rw[List.getElem_map,J]
   have X:(L.map (·.1))[j]=g:=by rw[List.getElem_map,e];exact T
   rcases Nat.lt_or_gt_of_ne hij with H | H
   ·exact A i j B D H (W.trans X.symm)
   ·exact A j i D B H (X.trans W.symm)
 ·refine(h.sn q M).1.trans2 (S:=[g]) ⟨m.os,m.tape,m.output,m.size,fun k s hn=>m.block k s (fun e=>hn (by injection e with e;simp[e]))⟩ fun k s=>?_;obtain rfl:=bo.1 s;exact(h.sn q M).2 _ (ae hL)
 ·have C:p.1∈L.map (·.1):=by rw[←c];exact ba.2 ⟨p,E,rfl⟩
  obtain⟨Z,O,e⟩:=ba.1 C;rw[←e];exact(h.sn q M).2 Z O
variable {ops:Array Oper} {rest:List Oper} {o:Oper} {a:Act} {K:Act→World→Prop} {Q:Exit→Act→World→Prop}
theorem Z7e (g k j:Nat):(⟨g,k,none⟩:Addr).add j=⟨g,k+j,none⟩:=by unfold Addr.add;split<;>simp_all
theorem Dl {cs:List Value}(c:Rr P ty=some true)(b:(P.info? ty).map (·.size)=some cs.length)(p:∀j v,cs[j]?=some v→w.cell? ⟨g,k+j,none⟩=some v):(loadVar ty ⟨g,k,none⟩).run P w=.ok (.agg cs.toArray) w:=by have h:=run_loadCells_list (P:=P) (w:=w) ⟨g,k,none⟩ cs (fun j v m=>by rw[Z7e];exact p j v m);simp only[loadVar,Sem.run_bind,H9 c,Bx b,Result.andThen_ok,if_true,h,Sem.run_pure]
theorem Env.loadVar (m:Env w0 w L U)(hL:L[i]?=some (g,row,t))(c:Rr P ty=some true)(b:(P.info? ty).map (·.size)=some row.length):(loadVar ty ⟨g,0,none⟩).run P w=.ok (.agg row.toArray) w :=
 Dl c b fun j v h=>by rw[cb,m.cell hL];exact h
end
section
variable {I I' I'':Imm} {V V' V'':Va} {g:G} {x:Value} {w w' w'':World} {own own' own'':Os} {k n:Nat} {r:R} {t:Ts}
def Imm.le (I I':Imm):Prop:=∀b o x,I b o=some x→I' b o=some x
theorem Imm.le.refl (I:Imm):I.le I:=fun _ _ _ h=>h
theorem Va.le.refl (V:Va):V.le V:=⟨af _,fun _ _=>⟨rfl,rfl⟩⟩
theorem Va.le.trans (h:V.le V')(h':V'.le V''):V.le V'' :=
 ⟨ca h.1 h'.1,fun k b=>⟨(h'.2 k (aq b h.1)).1.trans (h.2 k b).1,(h'.2 k (aq b h.1)).2.trans (h.2 k b).2⟩⟩
theorem VRep.mono (h:VRep I g x)(m:I.le I'):VRep I' g x:=by
 induction h with
 | v x=>exact .v x
 | tt=>exact .tt
 | ff=>exact .ff
 | un=>exact .un
 | nl=>exact .nl
 | agg l cs hl _ ih=>exact .agg l cs hl ih
 | sl l A c sz u hc hA hz h _ ih =>
  refine .sl l A c sz u hc hA hz (fun i r hr=>?_) ih;obtain⟨b,o,e,h⟩:=h i r hr;exact⟨b,o,e,fun j p=>m _ _ _ (h j p)⟩
theorem PW.mono {P b:G→Value→Prop}{l:List G}{cs:List Value}(h:PW P l cs)(c:∀g x,P g x→b g x):PW b l cs:=⟨h.1,fun j g u m p=>c _ _ (h.2 j g u m p)⟩
theorem PW.cons {P:G→Value→Prop}{l:List G}{cs:List Value}(h:P g x)(m:PW P l cs):PW P (g::l) (x::cs) :=
 ⟨by simp[m.1],fun j p u b c=>by
  cases j with
  | zero=>simp at b c;subst b c;exact h
  | succ j=>simp at b c;exact m.2 j p u b c⟩
theorem PW.nil {P:G→Value→Prop}:PW P [] []:=⟨rfl,fun j g u b=>by simp at b⟩
theorem PW.uncons {P:G→Value→Prop}{l:List G}{cs:List Value}(h:PW P (g::l) cs):∃x b,cs=x::b∧P g x∧PW P l b:=by
 cases cs with
 | nil=>exact de h.1 (by simp)
 | cons x cs=>exact⟨x,cs,rfl,h.2 0 g x rfl rfl,by have:=h.1;simpa using this,fun j g u c m=>h.2 (j+1) g u (by simpa using c) (by simpa using m)⟩
theorem PW.of_nil {P:G→Value→Prop}{cs:List Value}(h:PW P [] cs):cs=[]:=am h.1.symm
theorem PW.append {P:G→Value→Prop}{l m:List G}{cs ds:List Value}(h:PW P l cs)(h':PW P m ds):PW P (l++m) (cs++ds):=by
 induction l generalizing cs with
 | nil=>rw[h.of_nil];exact h'
 | cons g l ih =>
  obtain⟨x,b,rfl,j,c⟩:=h.uncons;exact .cons j (ih c)
theorem PW.get {P:G→Value→Prop}{l:List G}{cs:List Value}(h:PW P l cs){j:Nat}(c:l[j]?=some g):∃u,cs[j]?=some u∧P g u:=by
 have m:=(ac.1 c).1;have b:j < cs.length:=by rw[←h.1];exact m
 exact⟨cs[j],ab b,h.2 j g _ c (ab b)⟩
theorem CRep.of_v (h:VRep I g x):CRep I V g x:=by cases h<;>first | exact .v _ | exact .tt | exact .ff | exact .un | exact .nl | (exact .agg _ _ ‹_› ‹_›) | (exact .sl _ _ _ _ _ ‹_› ‹_› ‹_› ‹_› ‹_›)
theorem CRep.mono (h:CRep I V g x)(j:I.le I')(b:V.le V'):CRep I' V' g x:=by
 cases g with
 | ptr k off=>exact⟨aq h.1 b.1,by rw[(b.2 k h.1).1];exact h.2⟩
 | osl k=>exact⟨aq h.1 b.1,by rw[(b.2 k h.1).2];exact h.2⟩
 | osv k sz lo hi=>exact⟨aq h.1 b.1,by rw[(b.2 k h.1).2];exact h.2⟩
 | mp k=>exact⟨aq h.1 b.1,by rw[(b.2 k h.1).1];exact h.2⟩
 | clo f a c=>exact h
 | oag l=>exact h
 | tup l=>exact h
 | elp l o=>exact h
 | oel k i s o=>exact h
 | orv k i s o l c=>exact h
 | _=>exact VRep.mono h j
theorem CRep.to_v (h:CRep I V g x)(b:g.pure=true):VRep I g x:=by cases g<;>first | exact h | cases b
theorem OrB.of {k k' sz b q:Nat}(h:OrB V k sz b q)(j:V'.b k'=V.b k)(m:V'.s k'=V.s k):OrB V' k' sz b q:=by
 cases sz with
 | zero=>exact(show b=V'.b k'∧q=0 from⟨by rw[j];exact h.1,h.2⟩)
 | succ sz =>
  obtain⟨n,c,e⟩:=h;exact⟨n,c,by rw[m];exact e⟩
theorem TRep1.mono (h:TRep1 I V g x)(p:I.le I')(m:V.le V'):TRep1 I' V' g x:=by
 cases g with
 | oag l =>
  obtain⟨cs,e,h⟩:=h;exact⟨cs,e,h.mono fun _ _ h=>h.mono p m⟩
 | elp row off =>
  obtain⟨b,o,e,h⟩:=h;refine⟨b,o,e,fun j g B=>?_⟩;obtain⟨u,z,A⟩:=h j g B;exact⟨u,p _ _ _ z,A.mono p⟩
 | oel k i sz off =>
  obtain⟨s,b,q,n,c,e,h⟩:=h;exact⟨aq s m.1,b,q,n,c,by rw[(m.2 k s).2];exact e,h⟩
 | orv k i sz off len cap =>
  obtain⟨s,b,q,e,h⟩:=h;exact⟨aq s m.1,b,q,e.of (m.2 k s).1 (m.2 k s).2,h⟩
 | clo f a c =>
  obtain⟨C,D,cs,e,z,A⟩:=h;exact⟨C,D,cs,e,z.mono fun _ _ h=>h.mono p m,A.mono fun _ _ h=>h.mono p m⟩
 | mp k=>exact CRep.mono (g:=.mp k) h p m
 | v y=>exact CRep.mono (g:=.v y) h p m
 | tt=>exact CRep.mono (g:=.tt) h p m
 | ff=>exact CRep.mono (g:=.ff) h p m
 | un=>exact CRep.mono (g:=.un) h p m
 | nl=>exact CRep.mono (g:=.nl) h p m
 | agg l=>exact CRep.mono (g:=.agg l) h p m
 | tup l=>exact h.elim
 | ptr k o=>exact CRep.mono (g:=.ptr k o) h p m
 | sl l=>exact CRep.mono (g:=.sl l) h p m
 | osl k=>exact CRep.mono (g:=.osl k) h p m
 | osv k sz lo hi=>exact CRep.mono (g:=.osv k sz lo hi) h p m
theorem TRep.mono (h:TRep I V g x)(j:I.le I')(b:V.le V'):TRep I' V' g x:=by
 cases g with
 | tup l =>
  obtain⟨cs,e,h⟩:=h;exact⟨cs,e,h.mono fun _ _ h=>h.mono j b⟩
 | mp k=>exact TRep1.mono (g:=.mp k) h j b
 | clo f a c=>exact TRep1.mono (g:=.clo f a c) h j b
 | v y=>exact TRep1.mono (g:=.v y) h j b
 | tt=>exact TRep1.mono (g:=.tt) h j b
 | ff=>exact TRep1.mono (g:=.ff) h j b
 | un=>exact TRep1.mono (g:=.un) h j b
 | nl=>exact TRep1.mono (g:=.nl) h j b
 | agg l=>exact TRep1.mono (g:=.agg l) h j b
 | oag l=>exact TRep1.mono (g:=.oag l) h j b
 | ptr k o=>exact TRep1.mono (g:=.ptr k o) h j b
 | sl l=>exact TRep1.mono (g:=.sl l) h j b
 | osl k=>exact TRep1.mono (g:=.osl k) h j b
 | osv k sz lo hi=>exact TRep1.mono (g:=.osv k sz lo hi) h j b
 | elp l o=>exact TRep1.mono (g:=.elp l o) h j b
 | oel k i s o=>exact TRep1.mono (g:=.oel k i s o) h j b
 | orv k i s o l c=>exact TRep1.mono (g:=.orv k i s o l c) h j b
theorem TRep1.of_c (h:CRep I V g x):TRep1 I V g x:=by cases g<;>first | exact h | exact h.elim
theorem TRep.of_1 (h:TRep1 I V g x):TRep I V g x:=by cases g<;>first | exact h | exact False.elim h
theorem TRep.of_c (h:CRep I V g x):TRep I V g x:=.of_1 (.of_c h)
theorem TRep.of_v (h:VRep I g x):TRep I V g x:=.of_c (.of_v h)
theorem A5 {α:Type}(i j:Nat)(g:α)(l:List (Nat × α)):look i ((j,g)::l)=if i=j then some g else look i l:=by
 show(bif Nat.beq i j then some g else look i l)=_;by_cases h:i=j
 ·subst h;simp[Nat.beq_refl]
 ·have b:Nat.beq i j=false:=by
   cases hb:Nat.beq i j with
   | false=>rfl
   | true=>exact de (ai hb) h
  rw[db h,b];rfl
theorem Er {α:Type}(l:List α)(n:Nat):nth l n=l[n]?:=by
 induction l generalizing n with
 | nil=>simp[nth]
 | cons a l ih=>cases n<;>simp[nth,ih]
structure Later (own:Os)(I:Imm)(V:Va)(w:World)(own':Os)(I':Imm)(V':Va)(w':World):Prop where
 has:Has I' V' own' w'
 fro:Fro own I V w own' I' V' w'
 va:V.le V'
theorem Fro.refl (own:Os)(I:Imm)(V:Va)(w:World):Fro own I V w own I V w :=
 ⟨rfl,rfl,rfl,af _,fun _ _ _=>⟨rfl,fun _=>rfl⟩,fun _ _ _ h=>h,fun k r _ c b _=>⟨k,r,c,b⟩⟩
theorem Fro.trans (h:Fro own I V w own' I' V' w')(h':Fro own' I' V' w' own'' I'' V'' w''):Fro own I V w own'' I'' V'' w'':=by
 refine⟨h'.os.trans h.os,h'.tape.trans h.tape,h'.output.trans h.output,ca h.size h'.size,fun b m u=>?_,fun b o x A=>h'.mono _ _ _ (h.mono _ _ _ A),fun k r b p hf m=>?_⟩
 ·have z:=h.blk b m u;have s:=h'.blk b (aq m h.size) fun k r p hf=>by
   obtain⟨j,r',q,c⟩:=h.foot k r b p hf m;exact u j r' q c
  exact⟨s.1.trans z.1,fun o=>(s.2 o).trans (z.2 o)⟩
 ·obtain⟨j,r',q,c⟩:=h'.foot k r b p hf (aq m h.size);exact h.foot j r' b q c m
theorem Later.trans (h:Later own I V w own' I' V' w')(h':Later own' I' V' w' own'' I'' V'' w''):Later own I V w own'' I'' V'' w'' :=
 ⟨h'.has,h.fro.trans h'.fro,h.va.trans h'.va⟩
structure Since (own:Os)(I:Imm)(V:Va)(w:World)(own':Os)(I':Imm)(V':Va)(w':World):Prop where
 has:Has I' V' own' w'
 fro:Fro own I V w own' I' V' w'
 n:V.n≤V'.n
 bb:∀k,k < V.n→V'.b k=V.b k
 ss:∀k,k < V.n→V'.s k=V.s k
structure SinceC (own:Os)(I:Imm)(V:Va)(w:World)(own':Os)(I':Imm)(V':Va)(w':World):Prop where
 has:Has I' V' own' w'
 fro:Fro own I V w own' I' V' w'
 n:V.n≤V'.n
 bb:∀k,k < V.n→V'.b k=V.b k
theorem SinceC.trans (h:SinceC own I V w own' I' V' w')(h':Later own' I' V' w' own'' I'' V'' w''):SinceC own I V w own'' I'' V'' w'':=⟨h'.has,h.fro.trans h'.fro,ca h.n h'.va.1,fun k b=>(h'.va.2 k (aq b h.n)).1.trans (h.bb k b)⟩
theorem SinceC.tail (h:SinceC own I V w own' I' V' w')(h':Since own' I' V' w' own'' I'' V'' w''):SinceC own I V w own'' I'' V'' w'':=⟨h'.has,h.fro.trans h'.fro,ca h.n h'.n,fun k b=>(h'.bb k (aq b h.n)).trans (h.bb k b)⟩
theorem Since.trans (h:Since own I V w own' I' V' w')(h':Later own' I' V' w' own'' I'' V'' w''):Since own I V w own'' I'' V'' w'':=⟨h'.has,h.fro.trans h'.fro,ca h.n h'.va.1,fun k b=>(h'.va.2 k (aq b h.n)).1.trans (h.bb k b),fun k b=>(h'.va.2 k (aq b h.n)).2.trans (h.ss k b)⟩
theorem Since.tail (h:Since own I V w own' I' V' w')(h':Since own' I' V' w' own'' I'' V'' w''):Since own I V w own'' I'' V'' w'':=⟨h'.has,h.fro.trans h'.fro,ca h.n h'.n,fun k b=>(h'.bb k (aq b h.n)).trans (h.bb k b),fun k b=>(h'.ss k (aq b h.n)).trans (h.ss k b)⟩
theorem Later.since (h:Later own I V w own' I' V' w'):Since own I V w own' I' V' w':=⟨h.has,h.fro,h.va.1,fun k b=>(h.va.2 k b).1,fun k b=>(h.va.2 k b).2⟩
theorem Later.refl (h:Has I V own w):Later own I V w own I V w:=⟨h,.refl _ _ _ _,.refl _⟩
theorem Al.mono {κ:Type}:∀{l:List (κ × G)} {L:List (κ × Value)},Al I l L→I.le I'→Al I' l L
 | [],[],_,_=>trivial
 | _::_,_::_,h,hI=>⟨h.1,h.2.1.mono hI,Al.mono h.2.2 hI⟩
theorem MapR.keep {κ:Type}{m:Nat}{b:κ→Value}{l:List (κ × G)}(h:MapR I w m b l)(j:I.le I')(c:w'.heap[m]?=w.heap[m]?):MapR I' w' m b l:=by obtain⟨L,p,q⟩:=h;exact⟨L,p.of_block c,q.mono j⟩
theorem RRep.keep (h:RRep I V k w r)(A:I.le I')(C:V.le V')(W:k < V.n)(hf:V'.f k=V.f k)(M:w'.os=w.os)(hs:w.heap.size≤w'.heap.size)(B:∀b,V.f k b→w'.heap[b]?=w.heap[b]?):RRep I' V' k w' r:=by
 have z:=(C.2 k W).1;have O:=(C.2 k W).2;cases r with
 | blk cs t =>
  obtain⟨a,us,b,c⟩:=h;refine⟨fun b=>by rw[hf,z];exact a b,us,by rw[z,B _ ((a _).2 rfl)];exact b,c.mono fun _ _ h=>h.mono A C⟩
 | slc rows e sz =>
  obtain⟨a,rs,b,c,d,H,E,e3⟩:=h;refine⟨fun b=>by rw[hf,O];exact a b,rs,?_,c,fun i r u hr Z=>(d i r u hr Z).mono fun _ _ h=>h.mono A,H,E,e3⟩;rw[O];refine⟨b.1,?_⟩;rcases b.2 with b | ⟨g,cap,cur,hv,hg,hh,rest⟩
  ·exact .inl b
  ·exact .inr ⟨g,cap,cur,hv,hg,by rw[B g ((a g).2 (by rw[hv];rfl))];exact hh,rest⟩
 | vw rows e sz =>
  obtain⟨a,rs,b,c,d,H,E,e3⟩:=h;refine⟨fun b=>by rw[hf,O];exact a b,rs,?_,c,fun i r u hr Z=>(d i r u hr Z).mono fun _ _ h=>h.mono A,H,E,e3⟩;rw[O];refine⟨b.1,?_⟩;rcases b.2 with b | ⟨g,q,cap,cur,hv,hh,rest⟩
  ·exact .inl b
  ·exact .inr ⟨g,q,cap,cur,hv,by rw[B g ((a g).2 (by rw[hv];rfl))];exact hh,rest⟩
 | froz rows sz=>exact⟨fun b=>by rw[hf];exact h.1 b,by rw[O];exact h.2.1.mono A,h.2.2⟩
 | gone=>exact fun b=>by rw[hf];exact h b
 | mpI l=>exact⟨fun b=>by rw[hf,z];exact h.1 b,by rw[z];exact h.2.keep A (B _ ((h.1 _).2 rfl))⟩
 | mpS l=>exact⟨fun b=>by rw[hf,z];exact h.1 b,by rw[z];exact h.2.keep A (B _ ((h.1 _).2 rfl))⟩
 | sit s pos=>exact⟨fun b=>by rw[hf,z];exact h.1 b,by rw[z,B _ ((h.1 _).2 rfl)];exact h.2⟩
 | mpX l m ob =>
  obtain⟨a,q,b,c⟩:=h;have e:=B m ((a m).2 q.symm);exact⟨fun b=>by rw[hf,z];exact a b,z.trans q,e.trans b,c.keep A e⟩
 | mit j l D last m ob =>
  obtain⟨a,it,L,b,c,d⟩:=h;refine⟨fun b=>by rw[hf,z];exact a b,it,L,by rw[z,B _ ((a _).2 rfl)];exact b,c.mono A,fun w2 H E=>?_⟩;rw[z] at E⊢;obtain⟨T,q2⟩:=d w2 H E;exact⟨T,fun kg W=>(q2 kg W).imp fun v h=>⟨h.1.mono A,h.2⟩⟩
 | abs p=>exact⟨h.1,by rw[hf,z];exact h.1 _ _ _ _ _ _ h.2 A M hs B⟩
 | lnk j =>
  obtain⟨a,J,m,e⟩:=h;exact⟨fun b=>by rw[hf];exact a b,aq J C.1,m,by rw[(C.2 j J).2,z];exact e⟩
 | adr j b =>
  obtain⟨a,J,e⟩:=h;exact⟨fun b=>by rw[hf];exact a b,aq J C.1,by rw[(C.2 j J).1];exact e⟩
 | fam ps =>
  obtain⟨a,F,T,q2,q3⟩:=h;refine⟨a,F,fun c=>by rw[hf];exact T c,q2,fun i p X=>?_⟩;obtain⟨b,Y⟩:=q3 i p X;exact⟨b,a p (ae X) _ _ _ _ _ _ Y A M hs fun c hc=>B c ((T c).2 ⟨i,(ac.1 X).1,hc⟩)⟩
theorem Mem.keep (h:Mem I w)(j:∀b o x,I b o=some x→w'.heap[b]?=w.heap[b]?):Mem I w':=fun b o x c=>by rw[World.cell?_of_block (w:=w) (a:=⟨b,o,none⟩) (j b o x c)];exact h b o x c
theorem Mem.lt (h:Mem I w){b o:Nat}{x:Value}(c:I b o=some x):b < w.heap.size:=World.block_lt_of_cell? w ⟨b,o,none⟩ (h b o x c)
theorem Has.heap (h:Has I V own w)(j:w'.heap=w.heap)(m:w'.os=w.os):Has I V own w' :=
 ⟨h.mem.keep fun b _ _ _=>by rw[j],h.num,fun k r c=>(h.each k r c).keep (.refl _) (.refl _) (h.num k r c) rfl m (by rw[j];exact af _) fun b _=>by rw[j],fun k r b c p=>by rw[j];exact h.foot k r b c p,h.disj⟩
def Va.push (V:Va)(b:Nat)(s:Value)(f:Nat→Prop):Va:=⟨V.n+1,fun k=>if k=V.n then b else V.b k,fun k=>if k=V.n then s else V.s k,fun k=>if k=V.n then f else V.f k⟩
theorem Va.push_le (V:Va)(b:Nat)(s:Value)(f:Nat→Prop):V.le (V.push b s f):=⟨Nat.le_succ _,fun k c=>by simp[Va.push,Nat.ne_of_lt c]⟩
theorem Dt (h:Has I V own w)(z:Below w.heap.size w w')(b:Nat)(s:Value)(f:Nat→Prop)(hf:∀k,f k→w.heap.size≤k∧k < w'.heap.size)(hr:RRep I (V.push b s f) V.n w' r) :
  Later own I V w ((V.n,r)::own) I (V.push b s f) w':=by
 have p:∀k,k < V.n→(V.push b s f).f k=V.f k:=fun k c=>by simp[Va.push,Nat.ne_of_lt c]
 have A:(V.push b s f).f V.n=f:=by simp[Va.push]
 refine⟨⟨h.mem.keep fun b o x H=>z.block b (h.mem.lt H),fun k r' c=>?_,fun k r' c=>?_,fun k r' m c j=>?_,fun k k' C D m c q j u=>?_⟩,⟨z.os,z.tape,z.output,z.size,fun b j _=>⟨z.block b j,fun _=>rfl⟩,fun _ _ _ h=>h,fun k r' m c j F=>?_⟩,V.push_le b s f⟩
 ·rw[A5] at c;split at c
  ·next e=>subst e;exact cu _
  ·exact Nat.lt_succ_of_lt (h.num k r' c)
 ·rw[A5] at c;split at c
  ·next e=>subst e;cases c;exact hr
  ·have B:=h.num k r' c;exact(h.each k r' c).keep (.refl _) (V.push_le b s f) B (p k B) z.os z.size fun m j=>z.block m (h.foot k r' m c j).1
 ·rw[A5] at c;split at c
  ·next e =>
   subst e;rw[A] at j;refine⟨(hf m j).2,fun o=>?_⟩;cases hI:I m o with
   | none=>rfl
   | some x=>exact de (h.mem.lt hI) (by have:=(hf m j).1;omega)
  ·have B:=h.num k r' c;rw[p k B] at j;exact⟨aq (h.foot k r' m c j).1 z.size,(h.foot k r' m c j).2⟩
 ·rw[A5] at c q;split at c<;>split at q
  ·next e E=>rw[e,E]
  ·next e E =>
   have B:=h.num k' D q;rw[p k' B] at u;rw[e,A] at j;exact de (h.foot k' D m q u).1 (by have:=(hf m j).1;omega)
  ·next e E =>
   have B:=h.num k C c;rw[p k B] at j;rw[E,A] at u;exact de (h.foot k C m c j).1 (by have:=(hf m u).1;omega)
  ·rw[p k (h.num k C c)] at j;rw[p k' (h.num k' D q)] at u;exact h.disj k k' C D m c q j u
 ·rw[A5] at c;split at c
  ·next e=>rw[e,A] at j;exact de F (by have:=(hf m j).1;omega)
  ·rw[p k (h.num k r' c)] at j;exact⟨k,r',c,j⟩
theorem Db (h:Has I V own w){s:R}(z:look k own=some s)(C:w'.os=w.os)(E:w'.tape=w.tape)(H:w'.output=w.output)(J:w'.heap.size=w.heap.size)(A:∀b,¬V.f k b→w'.heap[b]?=w.heap[b]?)(hr:RRep I V k w' r) :
  Later own I V w ((k,r)::own) I V w':=by
 have B:∀j r',look j own=some r'→j≠k→∀b,V.f j b→¬V.f k b:=fun j r' c B b m p=>B (h.disj j k r' s b c z m p);refine⟨⟨h.mem.keep fun b o x T=>A b fun hf=>?_,fun j r' c=>?_,fun j r' c=>?_,fun j r' q c m=>?_,fun j F M O q c u m p=>?_⟩,⟨C,E,H,by omega,fun b X W=>⟨A b (W k s z),fun _=>rfl⟩,fun _ _ _ h=>h,fun j r' q c m _=>?_⟩,.refl _⟩
 ·have:=(h.foot k s b z hf).2 o;rw[T] at this;cases this
 ·rw[A5] at c;split at c
  ·next e=>subst e;exact h.num j s z
  ·exact h.num j r' c
 ·rw[A5] at c;split at c
  ·next e=>subst e;cases c;exact hr
  ·next e=>exact(h.each j r' c).keep (.refl _) (.refl _) (h.num j r' c) rfl C (by omega) fun q hf=>A q (B j r' c e q hf)
 ·rw[J];rw[A5] at c;split at c
  ·next e=>subst e;exact h.foot j s q z m
  ·exact h.foot j r' q c m
 ·rw[A5] at c u;split at c<;>split at u
  ·next e D=>rw[e,D]
  ·next e D=>subst e;exact h.disj j F s O q z u m p
  ·next e D=>subst D;exact h.disj j F M s q c z m p
  ·exact h.disj j F M O q c u m p
 ·rw[A5] at c;split at c
  ·next e=>exact⟨k,s,z,e ▸ m⟩
  ·exact⟨j,r',c,m⟩
def Va.drop (V:Va)(k:Nat):Va:={V with f:=fun j=>if j=k then fun _=>False else V.f j}
theorem G4 (h:Has I V own w){D:R}(E:look k own=some D)(H:I.le I')(W:Mem I' w)(B:∀b o,¬V.f k b→I' b o=I b o)(hr:RRep I' (V.drop k) k w r) :
  Later own I V w ((k,r)::own) I' (V.drop k) w:=by
 have hf:∀j,j≠k→(V.drop k).f j=V.f j:=fun j c=>by simp[Va.drop,c]
 have s:∀b,¬(V.drop k).f k b:=fun b=>by simp[Va.drop]
 have C:V.le (V.drop k):=⟨af _,fun _ _=>⟨rfl,rfl⟩⟩;have u:∀j r',look j own=some r'→j≠k→∀b,V.f j b→¬V.f k b:=fun j r' c u b m p=>u (h.disj j k r' D b c E m p);refine⟨⟨W,fun j r' c=>?_,fun j r' c=>?_,fun j r' q c m=>?_,fun j F J M q c z m p=>?_⟩,⟨rfl,rfl,rfl,af _,fun b T O=>⟨rfl,fun o=>B b o (O k D E)⟩,H,fun j r' q c m _=>?_⟩,C⟩
 ·rw[A5] at c;split at c
  ·next e=>subst e;exact h.num j D E
  ·exact h.num j r' c
 ·rw[A5] at c;split at c
  ·next e=>subst e;cases c;exact hr
  ·next e=>exact(h.each j r' c).keep H C (h.num j r' c) (hf j e) rfl (af _) fun q _=>rfl
 ·rw[A5] at c;split at c
  ·next e=>subst e;exact de m (s q)
  ·next e =>
   rw[hf j e] at m;exact⟨(h.foot j r' q c m).1,fun o=>(B q o (u j r' c e q m)).trans ((h.foot j r' q c m).2 o)⟩
 ·rw[A5] at c z;split at c<;>split at z
  ·next e A=>rw[e,A]
  ·next e A=>rw[e] at m;exact de m (s q)
  ·next e A=>rw[A] at p;exact de p (s q)
  ·next e A=>rw[hf j e] at m;rw[hf F A] at p;exact h.disj j F J M q c z m p
 ·rw[A5] at c;split at c
  ·next e=>rw[e] at m;exact de m (s q)
  ·next e=>rw[hf j e] at m;exact⟨j,r',c,m⟩
end
section
variable {α:Type} {w0 w w':World} {L:List (Nat × List Value × TypeId)} {U:List (World × List Nat)} {g k i:Nat} {row:List Value}
variable {o:Oper} {a:Act} {K:Act→World→Prop} {Q:Exit→Act→World→Prop}
variable {base sz bytes:Nat} {t e te:TypeId} {f:α→List Value} {v:Value} {l:List α}
theorem Own.frm {S:List Nat}(h:Own w base e sz f v l)(m:Frm S w w')(j:∀k∈S,k < base):Own w' base e sz f v l:=by
 refine⟨h.1,?_⟩;rcases h.2 with p | ⟨b,cap,cur,rfl,hb,hg,h3⟩
 ·exact .inl p
 ·exact .inr ⟨b,cap,cur,rfl,hb,(m.block b (bp.1 hg).1 (fun c=>by have:=j b c;omega)).trans hg,h3⟩
end
section
variable {P:Program} {w:World}
theorem Z2d (t ty e:TypeId)(i:TypeInfo)(z:Value)(size bytes:Nat)(O:P.underlying t=some (.slice e))(hi:P.info? e=some i)(Y:i.zero=some z)
  (B:i.size=size) (F:i.bytes=bytes) (M:z.cells.size=size) (W:0 < size) (v:Value) (n:Nat) (xs:List Value) (p:w.ownsRow 0 e size v n xs)
  (A:Option Addr) (m c:Nat) (b:List Value) (J:b.length=m * size) (hA:A=none→m=0∧c=0) (h:∀a,A=some a→∀j u,b[j]?=some u→w.cell? (a.add j)=some u) (X:∀u∈b,u.oneCell'=true)
  (H:n+m≤maxLen) (q:(n+m) * bytes≤140737488355328) :
  ∃D w',(Builtin.append_ #[t,t] ty #[v,.slice A m c]).run P w=.ok D w'∧w'.ownsRow 0 e size D (n+m) (xs++b)∧w.grownBy w' v.ownBlock∧(D.ownBlock=v.ownBlock∨∃g,D.ownBlock=some g∧w.heap.size≤g∧g < w'.heap.size):=by
 cases A with
 | none =>
  obtain⟨rfl,rfl⟩:=hA rfl;have hn:b=[]:=am (by simpa using J);subst hn;exact⟨v,w,run_append_owned_none w 0 t ty e i size O hi v n xs p,by simpa using p,World.grownBy.refl _ _,.inl rfl⟩
 | some a =>
  have h:=h a rfl;obtain⟨D,w',hr,h2,Z,-⟩:=run_append_own (P:=P) w 0 t ty e i z size bytes O hi Y B F M W v n xs p a m c b J h X H q (ah _);refine⟨D,w',hr,h2,Z,?_⟩;rcases p.2 with⟨rfl,rfl⟩ | ⟨g,cap,cur,rfl,-,hg,hnc,hcm,hcs,htake⟩
  ·have E:w.ownsRow w.heap.size e size (.slice none 0 0) 0 xs:=⟨p.1,.inl ⟨rfl,rfl⟩⟩;obtain⟨v2,w2,s,k2,-,-⟩:=run_append_own (P:=P) w w.heap.size t ty e i z size bytes O hi Y B F M W _ 0 xs E a m c b J h X H q (af _);rw[hr] at s;injection s with e1 e2;subst e1 e2;cases hv:D.ownBlock with
   | none=>exact .inl rfl
   | some g'=>exact .inr ⟨g',rfl,k2.lt g' hv⟩
  ·subst B;by_cases C:n+m≤cap
   ·have T:n * i.size+b.length≤cur.size:=by rw[J,hcs,←Nat.add_mul];exact Nat.mul_le_mul_right _ C
    have s:=run_append_room (P:=P) w t ty e i O hi g n cap cur hg a m c b J h X C T;rw[hr] at s;injection s with e1 e2;subst e1;exact .inl rfl
   ·have s:=run_append_grow (P:=P) w t ty e i z O hi Y ⟨g,0,none⟩ n cap xs p.1 (p.cells (g:=g) rfl) a m c b J h (by omega) (by unfold maxLen at H;omega) (growslice_fits (by omega) (by rw[F];exact q));rw[hr] at s;injection s with e1 e2;subst e1 e2;exact .inr ⟨_,rfl,af _,by simp⟩
theorem Uv (t E ty e:TypeId)(i:TypeInfo)(z:Value)(W:P.underlying t=some (.slice e))(B:P.underlying E=some .string)(hi:P.info? e=some i)(hz:i.zero=some z)
  (b:i.size=1) (T:z.cells.size=1) (v:Value) (n:Nat) (xs:List Value) (j:w.ownsRow 0 e 1 v n xs) (s:ByteArray) (H:n+s.size≤maxLen) (A:(n+s.size) * i.bytes≤140737488355328) :
  ∃q w',(Builtin.append_ #[t,E] ty #[v,.string s]).run P w=.ok q w'∧w'.ownsRow 0 e 1 q (n+s.size) (xs++byteCells s)∧w.grownBy w' v.ownBlock∧(q.ownBlock=v.ownBlock∨∃g,q.ownBlock=some g∧w.heap.size≤g∧g < w'.heap.size):=by
 have h:Src P i.size E (.string s) s.size (byteCells s) w:=by rw[b];exact Src.ofString w B s
 have c:(xs++byteCells s).length=(n+s.size) * 1:=by rw[ax,j.1,byteCells_length];omega
 have grown:∀(base:Option Addr) (cap:Nat) (u:List Value),u=xs→cap < n+s.size→(Builtin.firstCells i.size n (.slice base n cap)).run P w.drew=.ok u.toArray w.drew→v=.slice base n cap→∃q w',(Builtin.append_ #[t,E] ty #[v,.string s]).run P w=.ok q w'∧w'.ownsRow 0 e 1 q (n+s.size) (xs++byteCells s)∧w.grownBy w' v.ownBlock∧(q.ownBlock=v.ownBlock∨∃g,q.ownBlock=some g∧w.heap.size≤g∧g < w'.heap.size):=fun base cap u Y M D hv=>by
  subst Y hv;have hr:=run_append_grow_src (P:=P) w t E ty e i z W hi hz base n cap u D (.string s) s.size (byteCells s) h M (by unfold maxLen at H;omega) (growslice_fits (by omega) A);have J:=grownCap_ge w (n+s.size) cap e;have p:=grownCap_le_maxLen w (n+s.size) cap e H;generalize grownCap w (n+s.size) cap e=G at hr J p;refine⟨_,_,hr,⟨c,.inr ⟨w.heap.size,G,_,rfl,ah _,heap_alloc_new w.drew _,J,p,?_,?_⟩⟩,⟨rfl,rfl,rfl,by simp,fun k X _=>(World.grownBy_alloc w.drew _ none).block k X (by simp)⟩,.inr ⟨_,rfl,af _,by simp⟩⟩
  ·rw[Array.size_append,List.size_toArray,c,size_zeroCells,T];omega
  ·rw[Array.toList_append];exact List.take_left' c
 rcases j.2 with⟨rfl,rfl⟩ | ⟨g,cap,cur,rfl,-,M,hnc,p,hcs,htake⟩
 ·have hx:xs=[]:=am (by simpa using j.1);subst hx;by_cases O:s.size=0
  ·have Z:byteCells s=[]:=am (by rw[byteCells_length];exact O);refine⟨.slice none 0 0,w,?_,by rw[Z,O];exact World.ownsRow_nil w 0 e 1,World.grownBy.refl _ _,.inl rfl⟩;have F:=h.cells;rw[O] at F;simp[Builtin.append_,run_underlying W,run_underlying B,sizeOf,typeInfo,hi,Builtin.lenOf,O,F]
  ·exact grown none 0 [] rfl (by omega) (by simpa using run_firstCells_none (P:=P) w.drew i.size 0 0 0) rfl
 ·by_cases m:n+s.size≤cap
  ·have C:=run_storeCells_at P g (n * 1) e (byteCells s) 0 cur w M (by rw[byteCells_length,hcs];omega) h.one;have F:=h.cells;rw[b] at F;refine⟨.slice (some ⟨g,0,none⟩) (n+s.size) cap,w.setRow g (cur.toList.take (n * 1)++byteCells s++cur.toList.drop (n * 1+(byteCells s).length)).toArray,?_,⟨c,.inr ⟨g,cap,_,rfl,ah _,setRow_heap w g cur _ e (0,0) M,m,p,?_,?_⟩⟩,⟨rfl,rfl,rfl,by simp,fun k _ X=>setRow_other w g k _ (fun e=>X (by simp[Value.ownBlock,e]))⟩,.inl rfl⟩
   ·simp only[Nat.add_zero] at C;simp[Builtin.append_,run_underlying W,run_underlying B,sizeOf,typeInfo,hi,b,h.len,m,F,Addr.add_lit];simp at C;rw[C];rfl
   ·simp only[List.size_toArray,List.length_append,List.length_take,List.length_drop,Array.length_toList,byteCells_length,hcs];omega
   ·rw[show n * 1=n * 1 from rfl,htake,←c];exact List.take_left
  ·exact grown (some ⟨g,0,none⟩) cap xs rfl (by omega) (by rw[b];exact run_firstCells_some (P:=P) w.drew 1 n ⟨g,0,none⟩ n cap xs j.1 (j.cells (g:=g) rfl)) rfl
end
section
variable {I I':Imm} {V V':Va} {g:G} {x:Value} {w w':World} {own:Os} {k n sz:Nat} {r:R} {t:Ts} {l:List (List G)}
theorem M6 (h:VRep I g x)(b:g.one=true):x.oneCell'=true:=by cases h<;>first | exact b | rfl | cases b
theorem Bm {rs:List (List Value)}(h:∀u∈rs,u.length=sz):rs.flatten.length=rs.length * sz:=by
 induction rs with
 | nil=>simp
 | cons u rs ih=>rw[b8,ax,h u (by simp),ih fun v b=>h v (by simp[b]),bd,Nat.add_mul];omega
theorem D9:∀{rs:List (List Value)} (_:∀u∈rs,u.length=sz) {i:Nat} {u:List Value} (_:rs[i]?=some u) {j:Nat} {x:Value} (_:u[j]?=some x),rs.flatten[i * sz+j]?=some x
 | [],_,i,_,b,_,_,_=>by simp at b
 | v::rs,h,0,u,b,j,x,hx=>by simp at b;subst b;rw[b8,Nat.zero_mul,cb,bl (ac.1 hx).1];exact hx
 | v::rs,h,i+1,u,b,j,x,hx=>by have c:=h v (by simp);rw[b8,bf (by rw[c,Nat.add_mul];omega),c,show(i+1) * sz+j - sz=i * sz+j by rw[Nat.add_mul];omega];exact D9 (fun u b=>h u (by simp[b])) (by simpa using b) hx
theorem P7 {rs:List (List Value)}(h:∀u∈rs,u.length=sz){m:Nat}{x:Value}(s:rs.flatten[m]?=some x):∃i j u,m=i * sz+j∧j < sz∧rs[i]?=some u∧u[j]?=some x:=by
 have p:=(ac.1 s).1;rw[Bm h] at p;have A:0 < sz:=by
  rcases Nat.eq_zero_or_pos sz with b | b
  ·subst b;simp at p
  ·exact b
 have hi:m / sz < rs.length:=Nat.div_lt_of_lt_mul (by rw[Nat.mul_comm];exact p);have c:=Nat.mod_lt m A;have z:rs[m / sz].length=sz:=h _ (bm hi);refine⟨m / sz,m % sz,rs[m / sz],(Nat.div_add_mod' m sz).symm,c,ab hi,?_⟩;have q:=D9 h (ab hi) (ab (by rw[z];exact c:m % sz < rs[m / sz].length));rw[Nat.div_add_mod' m sz,s] at q;rw[ab (by rw[z];exact c)];exact q.symm
theorem Zbv (h:VRep I (.sl l) x)(J:Mem I w)(z:∀r∈l,r.length=sz):∃A c,∃rs:List (List Value),x=.slice A l.length c∧l.length≤c∧(A=none→l=[]∧c=0)∧rs.length=l.length∧(∀(i:Nat) r u,l[i]?=some r→rs[i]?=some u→PW (VRep I) r u)∧(∀u∈rs,u.length=sz)∧∀a,A=some a→∀m x,rs.flatten[m]?=some x→I a.block (a.off+m)=some x∧w.cell? (a.add m)=some x:=by
 cases h with
 | sl l A c sz0 u hc hA hz0 h hu =>
  refine⟨A,c,(List.range l.length).map fun i=>(List.range sz).map (u i),rfl,hc,fun e=>⟨?_,hA e⟩,by simp,fun i r v hr p=>?_,fun v p=>?_,fun a ha m x E=>?_⟩
  ·cases l with
   | nil=>rfl
   | cons r l=>obtain⟨b,o,B,-⟩:=h 0 r rfl;rw[e] at B;cases B
  ·have hi:=(ac.1 hr).1;rw[aj,cq hi] at p;simp at p;subst p;refine⟨by rw[z r (ae hr)];simp,fun j g y D hy=>?_⟩;have s:=(ac.1 D).1;rw[z r (ae hr)] at s;rw[aj,cq s] at hy;simp at hy;subst hy;exact hu i r j g hr D
  ·obtain⟨i,-,rfl⟩:=ba.1 p;simp
  ·obtain⟨i,j,v,rfl,s,p,q⟩:=P7 (sz:=sz) (fun v p=>by obtain⟨i,-,rfl⟩:=ba.1 p;simp) E;have hi:i < l.length:=by have:=(ac.1 p).1;simpa using this
   rw[aj,cq hi] at p;simp at p;subst p;rw[aj,cq s] at q;simp at q;subst q;obtain⟨b,o,e,H⟩:=h i l[i] (ab hi);rw[ha] at e;obtain rfl:=cj e;have M:sz0=sz:=(hz0 _ (bm hi)).symm.trans (z _ (bm hi));subst M;have C:=H j s;refine⟨by rw[←cv];exact C,?_⟩;have F:=J b _ _ C;rw[←F];unfold Addr.add;split
   ·next O=>rw[show o+i * sz0+j=o by omega]
   ·rw[cv]
theorem Yz {b o c:Nat}{rs:List (List Value)}(B:rs.length=l.length)(D:l.length≤c)(C:∀(i:Nat) r u,l[i]?=some r→rs[i]?=some u→PW (VRep I) r u)(A:∀u∈rs,u.length=sz)(F:∀m x,rs.flatten[m]?=some x→I b (o+m)=some x):VRep I (.sl l) (.slice (some ⟨b,o,none⟩) l.length c):=by
 have hr:∀(i:Nat) r,l[i]?=some r→∃u,rs[i]?=some u∧PW (VRep I) r u∧u.length=sz:=fun i r hr=>by
  have hi:=(ac.1 hr).1;have p:i < rs.length:=by omega
  exact⟨rs[i],ab p,C i r _ hr (ab p),A _ (bm p)⟩
 refine .sl l _ c sz (fun i j=>(rs.flatten[i * sz+j]?).getD undef) D (fun e=>by cases e) (fun r H=>?_) (fun i r h=>⟨b,o,rfl,fun j M=>?_⟩) (fun i r j g h E=>?_)
 ·obtain⟨i,hi,e⟩:=cg.1 H;obtain⟨u,-,q,z⟩:=hr i r (by rw[ab hi,e]);exact q.1.trans z
 ·obtain⟨u,s,q,z⟩:=hr i r h;have:=D9 A s (ab (by omega:j < u.length));rw[cv,this];exact F _ _ this
 ·obtain⟨u,s,q,z⟩:=hr i r h;obtain⟨y,hy,J⟩:=q.get E;rw[D9 A s hy];exact J
end
def G.val:G→Value
 | .v x=>x
 | .ff=>.bool false
 | .nl=>.slice none 0 0
 | _=>undef
def zOK:G→Bool
 | .v x=>x.oneCell'
 | .ff | .nl=>true
 | _=>false
def Zlo (P:Program)(t:TypeId):KD→Prop
 | .no=>True
 | .arr n e sz=>P.underlying t=some (.array n e)∧(P.info? e).map (·.size)=some sz
 | .fn=>True
 | .map s e=>∃b,P.underlying t=some (.map b e)∧P.underlying b=some (if s=true then .string else .int .i64)
 | .ptr=>∃e,P.underlying t=some (.pointer e)
 | .bool=>P.underlying t=some .bool
structure TIok (P:Program)(t:TypeId)(i:TI):Prop where
 agg:Rr P t=some i.agg
 size:(P.info? t).map (·.size)=some i.zero.length
 zero:((P.info? t).bind (·.zero)).map (fun z=>z.cells.toList)=some (i.zero.map G.val)
 zok:B4 zOK i.zero=true
 elem:∀e sz,i.elem=some (e,sz)→P.underlying t=some (.slice e)∧∃j z,P.info? e=some j∧j.zero=some z∧j.size=sz∧z.cells.size=sz∧0 < sz∧j.bytes≤65536
 str:i.str=true→P.underlying t=some .string
 ik:∀k,i.ik=some k→P.underlying t=some (.int k)
 zag:∀z,(P.info? t).bind (·.zero)=some z→if i.agg=true then ∃cs,z=.agg cs else z.cells=#[z]
 kd:Zlo P t i.kd
 flds:i.flds≠[]→∃F,P.underlying t=some (.struct F)∧F.toList.map (fun f=>(f.type,f.offset))=i.flds∧∀f∈F.toList,∃m,(P.info? f.type).map (·.size)=some (m+1)
def vEq:Value→Value→Bool
 | .int k n,.int k' n'=>decide (k=k')&&decide (n=n')
 | .bool a,.bool b=>decide (a=b)
 | .string a,.string b=>decide (a.data.toList=b.data.toList)
 | .slice none 0 0,.slice none 0 0=>true
 | .pointer none,.pointer none=>true
 | .map none,.map none=>true
 | .nilFunc,.nilFunc=>true
 | .nilIface,.nilIface=>true
 | _,_=>false
theorem Zer {a b:Value}(h:vEq a b=true):a=b:=by
 unfold vEq at h;split at h
 ·simp at h;rw[h.1,h.2]
 ·simp at h;rw[h]
 ·next a b =>
  have h:=of_decide_eq_true h;obtain⟨⟨a⟩⟩:=a;obtain⟨⟨b⟩⟩:=b;simp at h;rw[h]
 all_goals first | rfl | cases h
def Zi8:List Value→List Value→Bool
 | [],[]=>true
 | a::l,b::m=>vEq a b&&Zi8 l m
 | _,_=>false
theorem Z08:∀{l m:List Value},Zi8 l m=true→l=m
 | [],[],_=>rfl
 | a::l,b::m,h=>by simp[Zi8] at h;rw[Zer h.1,Z08 h.2]
def tiB (P:Program)(t:TypeId)(i:TI):Bool :=
 (Rr P t==some i.agg)&&((P.info? t).map (·.size)==some i.zero.length)&&(match(P.info? t).bind (·.zero) with | some z=>Zi8 z.cells.toList (i.zero.map G.val) | none=>false)&&B4 zOK i.zero &&
 (match i.elem with
  | none=>true
  | some (e,sz)=>(match P.underlying t with | some (.slice e')=>decide (e'=e) | _=>false)&&(match P.info? e with | some j=>(match j.zero with | some z=>decide (z.cells.size=sz) | none=>false)&&decide (j.size=sz)&&decide (0 < sz)&&decide (j.bytes≤65536) | none=>false)) &&
 (match i.str,P.underlying t with | false,_=>true | true,some .string=>true | _,_=>false) &&
 (match i.ik,P.underlying t with | none,_=>true | some k,some (.int k')=>decide (k'=k) | _,_=>false) &&
 (match(P.info? t).bind (·.zero) with | some (.agg _)=>i.agg | some _=>!i.agg | none=>false) &&
 (match i.kd,P.underlying t with
  | .no,_=>true
  | .fn,_=>true
  | .arr n e sz,some (.array n' e')=>decide (n'=n)&&decide (e'=e)&&((P.info? e).map (·.size)==some sz)
  | .map s e,some (.map kt e')=>decide (e'=e)&&(match s,P.underlying kt with | true,some .string=>true | false,some (.int .i64)=>true | _,_=>false)
  | .ptr,some (.pointer _)=>true
  | .bool,some .bool=>true
  | _,_=>false) &&
 (match i.flds with
  | []=>true
  | fl=>match P.underlying t with | some (.struct F)=>decide (F.toList.map (fun f=>(f.type,f.offset))=fl)&&F.toList.all (fun f=>match P.info? f.type with | some j=>decide (0 < j.size) | none=>false) | _=>false)
theorem Zex {P:Program}{t:TypeId}{i:TI}(h:tiB P t i=true):TIok P t i:=by
 unfold tiB at h;simp only[Bool.and_eq_true] at h;obtain⟨⟨⟨⟨⟨⟨⟨⟨⟨m,p⟩,W⟩,h4⟩,A⟩,X⟩,c⟩,q⟩,b⟩,B⟩:=h;refine⟨by simpa using m,by simpa using p,?_,h4,fun e sz M=>?_,fun M=>?_,fun k M=>?_,fun z E=>?_,?_,fun hn=>?_⟩
 ·split at W
  ·next z E=>rw[E];simp[Z08 W]
  ·cases W
 ·rw[M] at A;simp only[Bool.and_eq_true] at A;obtain⟨A,u⟩:=A;split at A
  ·next e' H =>
   have:=of_decide_eq_true A;subst this;refine⟨H,?_⟩;split at u
   ·next j T =>
    simp only[Bool.and_eq_true] at u;obtain⟨⟨⟨u,D⟩,Z⟩,O⟩:=u;split at u
    ·next z E=>exact⟨j,z,T,E,of_decide_eq_true D,of_decide_eq_true u,of_decide_eq_true Z,of_decide_eq_true O⟩
    ·cases u
   ·cases u
  ·cases A
 ·rw[M] at X;split at X
  ·next h=>cases h
  ·next H=>exact H
  ·cases X
 ·rw[M] at c;split at c
  ·next h=>cases h
  ·next k' J h H =>
   cases h;rw[H,of_decide_eq_true c]
  ·cases c
 ·rw[E] at q;split at q
  ·next cs h=>cases h;rw[dc q];exact⟨cs,rfl⟩
  ·next z' Y h =>
   cases h;rw[db (by simpa using q)];cases z<;>first | rfl | exact de rfl (Y _)
  ·next h=>cases h
 ·split at b
  ·next e=>rw[e];exact trivial
  ·next e=>rw[e];exact trivial
  ·next n e sz n' e' m p =>
   rw[m];simp only[Bool.and_eq_true] at b;obtain⟨⟨C,J⟩,k3⟩:=b;exact⟨by rw[p,of_decide_eq_true C,of_decide_eq_true J],by simpa using k3⟩
  ·next s e kt e' m p =>
   rw[m];simp only[Bool.and_eq_true] at b;obtain⟨C,J⟩:=b;have C:=of_decide_eq_true C;subst C;refine⟨kt,p,?_⟩;split at J
   ·next h=>rw[h];rfl
   ·next h=>rw[h];rfl
   ·cases J
  ·next m p=>rw[m];exact⟨_,p⟩
  ·next m p=>rw[m];exact p
  ·cases b
 ·split at B
  ·next h0=>exact de h0 hn
  ·split at B
   ·next F hF =>
    simp only[Bool.and_eq_true,List.all_eq_true] at B;refine⟨F,hF,of_decide_eq_true B.1,fun f hf=>?_⟩;have D:=B.2 f hf;split at D
    ·next j T =>
     have Z:=of_decide_eq_true D;exact⟨j.size - 1,by rw[T];simp;omega⟩
    ·cases D
   ·cases B
def Zkl (P:Program)(l:List (Nat × TI)):Bool:=l.all fun p=>tiB P p.1 p.2
theorem Qp {α:Type}{k:Nat}{x:α}:∀{l:List (Nat × α)},look k l=some x→(k,x)∈l
 | [],h=>by cases h
 | (j,y)::l,h=>by
  rw[A5] at h;split at h
  ·next e=>subst e;cases h;simp
  ·simp[Qp h]
theorem Zad {P:Program}{l:List (Nat × TI)}(h:Zkl P l=true)(t:TypeId)(i:TI)(b:look t l=some i):TIok P t i:=by have c:tiB P t i=true:=List.all_eq_true.1 h (t,i) (Qp b);exact Zex c
structure ARep (N:Nat)(I:Imm)(V:Va)(a:Act)(t:Ts):Prop where
 defers:a.defers=[]
 size:a.tmps.size=N
 get:∀i g,look i t=some g→∃x,a.tmps[i]?=some x∧TRep I V g x
section
variable {P:Program} {tb:List (Nat × TI)} {N:Nat} {I I':Imm} {V V':Va} {a:Act} {t:Ts} {own own':Os} {w w':World} {x:Operand} {g:G} {y:Value} {d:Option Tmp}
theorem ARep.mono (h:ARep N I V a t)(c:I.le I')(m:V.le V'):ARep N I' V' a t :=
 ⟨h.defers,h.size,fun i g b=>by obtain⟨x,j,p⟩:=h.get i g b;exact⟨x,j,p.mono c m⟩⟩
theorem ARep.sub {b:Ts}(h:ARep N I V a t)(c:∀i g,look i b=some g→look i t=some g):ARep N I V a b:=⟨h.defers,h.size,fun i g e=>h.get i g (c i g e)⟩
theorem ARep.put (h:ARep N I V a t)(hd:∀i,d=some i→i < N)(p:TRep I V g y):ARep N I V (a.put d y) (put d g t):=by
 cases d with
 | none=>exact h
 | some d =>
  refine⟨h.defers,by simp[Act.put,h.size],fun i j b=>?_⟩
  change look i ((d,g)::t)=some j at b
  rw[A5] at b;have c:d < a.tmps.size:=by rw[h.size];exact hd d rfl
  split at b
  ·next e =>
   subst e;cases b;exact⟨y,by simp[Act.put,c],p⟩
  ·next e =>
   obtain⟨z,m,q⟩:=h.get i j b;refine⟨z,?_,q⟩;show(a.tmps.setIfInBounds d y)[i]?=_;rw[Array.getElem?_setIfInBounds_ne (Ne.symm e)];exact m
theorem Zh1 (x:Value):TRep I V (Gof x) x:=by
 apply TRep.of_v;unfold Gof;split
 ·exact .tt
 ·exact .ff
 ·exact .nl
 ·exact .v x
theorem B8 {K:G→Prop}(h:ev t own x K)(ha:ARep N I V a t)(hH:Has I V own w):∃g,K g∧TRep I V g (a.eval x):=by
 cases x with
 | tmp i =>
  unfold ev at h;dsimp only at h;cases hl:look i t with
  | none=>rw[hl] at h;exact h.elim
  | some g =>
   obtain⟨y,c,b⟩:=ha.get i g hl;have e:a.eval (.tmp i)=y:=by simp[Act.eval,c]
   rw[e];rw[hl] at h;cases g with
   | osl k =>
    dsimp only at h;split at h
    ·next rows hr =>
     refine⟨_,h,TRep.of_v ?_⟩;have j:=(hH.each k _ hr).2.1;rw[show y=V.s k from b.2];exact j
    ·exact⟨_,h,b⟩
   | _=>exact⟨_,h,b⟩
 | const x=>exact⟨_,h,Zh1 x⟩
 | func f=>exact⟨.v (.func (.func f) #[] #[]),h,TRep.of_v (.v _)⟩
 | global g=>exact False.elim h
theorem Nz:∀{l:List Operand} {K:List G→Prop},evs t own l K→ARep N I V a t→Has I V own w→∃b,K b∧PW (TRep I V) b (l.map a.eval)
 | [],K,h,_,_=>⟨[],h,.nil⟩
 | x::l,K,h,ha,hH=>by obtain⟨g,c,m⟩:=B8 (K:=fun g=>evs t own l fun r=>K (g::r)) h ha hH;obtain⟨b,j,p⟩:=Nz c ha hH;exact⟨_,j,.cons m p⟩
theorem Tq {Q:G→Value→Prop}:∀{l:List G} {cs:List Value} {k n:Nat} {K:List G→Prop},Zim l k n K→PW Q l cs→∃c,K c∧PW Q c ((cs.drop k).take n)∧k+n≤cs.length+(if n=0 then k else 0)
 | l,cs,k,0,K,h,_=>by cases l<;>exact⟨[],h,by simpa using PW.nil,by simp⟩
 | [],cs,k,n+1,K,h,_=>by cases k<;>exact h.elim
 | g::l,cs,0,n+1,K,h,hp=>by obtain⟨x,m,rfl,s,q⟩:=hp.uncons;obtain⟨c,p,j,b⟩:=Tq (K:=fun r=>K (g::r)) h q;refine⟨_,p,by simpa using PW.cons s (by simpa using j),?_⟩;simp only[List.length_cons] at b⊢;split at b<;>simp<;>omega
 | g::l,cs,k+1,n+1,K,h,hp=>by obtain⟨x,m,rfl,s,q⟩:=hp.uncons;obtain⟨c,p,j,b⟩:=Tq (k:=k) (n:=n+1) h q;refine⟨_,p,by simpa using j,?_⟩;simp only[List.length_cons] at b⊢;simp at b⊢;omega
theorem PW.part {Q:G→Value→Prop}{l:List G}{cs:List Value}(h:PW Q l cs)(k n:Nat):PW Q ((l.drop k).take n) ((cs.drop k).take n):=by
 refine⟨by simp[h.1],fun j g u b c=>?_⟩;rw[bj] at b c;split at b
 ·next m =>
  rw[dc m] at c;rw[bw] at b c;exact h.2 _ g u b c
 ·cases b
theorem Mg {Q:G→Value→Prop}{l:List G}{cs:List Value}{k n:Nat}{K:List G→Prop}(h:seg l k n K)(b:PW Q l cs):∃c,K c∧PW Q c ((cs.drop k).take n)∧k+n≤cs.length+(if n=0 then k else 0):=by
 unfold seg at h;split at h
 ·exact Tq h b
 ·exact⟨_,h.next,b.part k n,by have:=h.fit;have:=b.1;omega⟩
theorem Q7 {Q:G→Value→Prop}{l:List G}{cs:List Value}{k n:Nat}{K:List G→Prop}(h:seg l k n K)(c:PW Q l cs)(j:0 < n):k+n≤cs.length:=by obtain⟨-,-,-,b⟩:=Mg h c;rw[db (by omega)] at b;exact b
theorem Uk {Q:G→Value→Prop}:∀{l:List G} {cs:List Value} {k:Nat} {m:List G} {ds:List Value} {K:List G→Prop},Zio l k m K→PW Q l cs→PW Q m ds→∃j,K j∧PW Q j (cs.take k++ds++cs.drop (k+ds.length))∧(ds≠[]→k+ds.length≤cs.length)
 | l,cs,k,[],ds,K,h,hp,hd=>by rw[hd.of_nil];refine⟨l,?_,by simpa using hp,by simp⟩;cases l<;>first | exact h | (cases k<;>exact h)
 | [],cs,k,c::m,ds,K,h,hp,hd=>by cases k<;>exact h.elim
 | g::l,cs,0,c::m,ds,K,h,hp,hd=>by
  obtain⟨x,p,rfl,B,A⟩:=hp.uncons;obtain⟨y,b,rfl,hy,D⟩:=hd.uncons;obtain⟨j,q,u,s⟩:=Uk (K:=fun r=>K (c::r)) h A D;refine⟨_,q,by simpa using PW.cons hy (by simpa using u),fun _=>?_⟩;cases b with
  | nil=>simp
  | cons z b=>have:=s (by simp);simp at this⊢;omega
 | g::l,cs,k+1,c::m,ds,K,h,hp,hd=>by obtain⟨x,p,rfl,B,A⟩:=hp.uncons;obtain⟨j,q,u,s⟩:=Uk (k:=k) (K:=fun r=>K (g::r)) h A hd;refine⟨_,q,?_,fun C=>by have:=s C;simp;omega⟩;have:=PW.cons B u;simpa [Nat.add_right_comm] using this
theorem R5 {Q:G→Value→Prop}{n:Nat}{l:List G}{cs:List Value}{k:Nat}{m:List G}{ds:List Value}{K:List G→Prop}(h:ovr n l k m K)(b:PW Q l cs)(hd:PW Q m ds):∃c,K c∧PW Q c (cs.take k++ds++cs.drop (k+ds.length))∧(ds≠[]→k+ds.length≤cs.length):=by
 unfold ovr at h;split at h
 ·exact Uk h b hd
 ·obtain⟨⟨q,u⟩,j⟩:=h;have s:=b.1;have p:=hd.1;refine⟨_,j,?_,fun _=>by omega⟩;have p1:=b.part 0 k;have p2:=b.part (k+n) (cs.length);rw[List.drop_zero,List.drop_zero] at p1;rw[ap (by rw[bc];omega),ap (by rw[bc];omega)] at p2;rw[show k+ds.length=k+n by omega];exact(p1.append hd).append p2
theorem Ae {α:Type}{p:α→Bool}:∀{l:List α},B4 p l=true→∀x∈l,p x=true
 | [],_,_,b=>by simp at b
 | y::l,h,x,b=>by
  unfold B4 at h;cases hp:p y with
  | false=>rw[hp] at h;cases h
  | true =>
   rw[hp] at h;rcases bi.1 b with rfl | b
   ·exact hp
   ·exact Ae h x b
theorem Jl {n:Nat}{l:List G}{K:G→Prop}{cs:List Value}(h:Jt n l K)(c:PW (CRep I V) l cs):∃g,K g∧TRep I V g (.agg cs.toArray):=by
 unfold Jt at h;split at h
 ·split at h
  ·next p=>exact⟨_,h,.of_v (.agg l cs c.1 fun j g u b m=>(c.2 j g u b m).to_v (Ae p g (ae b)))⟩
  ·exact⟨_,h,.of_1 (g:=.oag l) ⟨cs,rfl,c⟩⟩
 ·exact⟨_,h.next,.of_v (.agg l cs c.1 fun j g u b m=>(c.2 j g u b m).to_v (h.fit g (ae b)))⟩
theorem Zcd {n:Nat}(h:Xh n=true):48 < n:=da h
theorem Z3n {n:Nat}{cs:List G}{A:Prop}(h:Zig n cs A):cs.length=n∧A:=by
 unfold Zig at h;split at h
 ·split at h
  ·next b=>exact⟨ai b,h⟩
  ·exact h.elim
 ·exact⟨h.fit,h.next⟩
theorem M0 {g:G}(h:Gx g=true):∃x,g=.v x∧x.oneCell'=true:=by cases g<;>first | exact⟨_,rfl,h⟩ | cases h
theorem Fz {g:G}(h:Gx g=true):g.pure=true:=by obtain⟨x,rfl,-⟩:=M0 h;rfl
theorem P2 {g:G}(h:Gx g=true):G.one g=true:=by obtain⟨x,rfl,b⟩:=M0 h;exact b
theorem Z0h {g:G}(h:Gx g=true):Zei own g=true:=by obtain⟨x,rfl,b⟩:=M0 h;exact b
theorem Gm {α:Type}{p:α→Bool}:∀{l:List α},(∀x∈l,p x=true)→B4 p l=true
 | [],_=>rfl
 | x::l,h=>by unfold B4;rw[h x (by simp)];exact Gm fun y hy=>h y (by simp[hy])
theorem Z4k {n:Nat}{cs:List G}{A:Prop}(h:Zha n own cs A):B4 (Zei own) cs=true∧cs.length=n∧cs≠[]∧A∧(Xh n=true→B4 G.pure cs=true):=by
 unfold Zha at h;split at h
 ·next b =>
  split at h
  ·next j m=>exact⟨j,ai m,by simp,h,fun e=>by rw[e] at b;cases b⟩
  ·exact h.elim
 ·next b =>
  have:=Zcd b;exact⟨Gm fun g c=>Z0h (h.fit.2 g c),h.fit.1,fun e=>(by have:=h.fit.1;rw[e] at this;simp at this;omega),h.next,fun _=>Gm fun g c=>Fz (h.fit.2 g c)⟩
theorem Pu {k:Nat}{o:Os}{K1:Nat→Prop}:∀{l:Os},Ze1 k o l K1→∃b i,look i o=some (.adr k b)∧K1 b
 | [],h=>h.elim
 | (i,r)::l,h=>by
  unfold Ze1 at h;split at h
  ·next j b hi =>
   split at h
   ·next c =>
    have:=ai c;subst this;exact⟨b,i,hi,h⟩
   ·exact Pu h
  ·exact Pu h
theorem Uj {n:Nat}{cs:List G}{A:Prop}(h:Zie n cs A)(c:Xh n=true→B4 G.pure cs=true):B4 G.pure cs=true∧A:=by
 unfold Zie at h;split at h
 ·split at h
  ·next b=>exact⟨b,h⟩
  ·exact h.elim
 ·next j=>exact⟨c j,h⟩
theorem Z3s {x:Value}(h:x.oneCell'=true):x.cells=#[x]:=by cases x<;>first | rfl | cases h
theorem Hv {K:List G→Prop}(h:Gp own g K)(B:TRep I V g y)(hH:Has I V own w):∃cs,K cs∧PW (CRep I V) cs y.cells.toList∧(∀b,y=.agg b→b.toList=y.cells.toList):=by
 cases g with
 | agg l =>
  cases(show VRep I (.agg l) y from B) with
  | agg l cs hl hh=>exact⟨l,h,(⟨hl,fun j g u p m=>.of_v (hh j g u p m)⟩:PW (CRep I V) l cs),fun b e=>by cases e;rfl⟩
 | oag l =>
  obtain⟨cs,rfl,E⟩:=(show TRep1 I V (.oag l) y from B);exact⟨l,h,by simpa [Value.cells] using E,fun b e=>by cases e;rfl⟩
 | tup l=>exact h.elim
 | elp r o=>exact h.elim
 | oel k i s o=>exact h.elim
 | orv k i s o l c=>exact h.elim
 | un=>exact h.elim
 | clo f a c=>exact h.elim
 | mp k=>obtain⟨D,rfl⟩:=(show CRep I V (.mp k) y from B);exact⟨_,h,by simpa [Value.cells] using PW.cons (g:=.mp k) ⟨D,rfl⟩ .nil,fun b e=>by cases e⟩
 | v z =>
  cases(show VRep I (.v z) y from B);unfold Gp at h;dsimp only at h;split at h
  ·next p=>exact⟨_,h,by rw[Z3s p];exact PW.cons (.of_v (.v _)) .nil,fun b e=>by subst e;cases p⟩
  ·exact h.elim
 | tt=>cases(show VRep I .tt y from B);exact⟨_,h,by simpa [Value.cells] using PW.cons (.of_v .tt) .nil,fun b e=>by cases e⟩
 | ff=>cases(show VRep I .ff y from B);exact⟨_,h,by simpa [Value.cells] using PW.cons (.of_v .ff) .nil,fun b e=>by cases e⟩
 | nl=>cases(show VRep I .nl y from B);exact⟨_,h,by simpa [Value.cells] using PW.cons (.of_v .nl) .nil,fun b e=>by cases e⟩
 | ptr k o=>obtain⟨D,rfl⟩:=(show CRep I V (.ptr k o) y from B);exact⟨_,h,by simpa [Value.cells] using PW.cons (g:=.ptr k o) ⟨D,rfl⟩ .nil,fun b e=>by cases e⟩
 | sl l =>
  have p:=(show VRep I (.sl l) y from B);have m:=p;cases m with
  | sl l A c sz u hc hA hz hh hu=>exact⟨[.sl l],h,by simpa [Value.cells] using PW.cons (.of_v p) .nil,fun b e=>by cases e⟩
 | osl k =>
  obtain⟨D,rfl⟩:=(show CRep I V (.osl k) y from B);unfold Gp at h;dsimp only at h;split at h
  ·next rows e sz hr =>
   obtain⟨-,rs,m,-⟩:=hH.each k _ hr;have F:∃A n c,V.s k=.slice A n c:=by
    rcases m.2 with⟨e,-⟩ | ⟨g,cap,cur,e,-⟩
    ·exact⟨_,_,_,e⟩
    ·exact⟨_,_,_,e⟩
   obtain⟨A,n,c,e⟩:=F;exact⟨_,h,by rw[e];simpa [Value.cells] using PW.cons (g:=.osl k) (l:=[]) (P:=CRep I V) ⟨D,e.symm⟩ .nil,fun b C=>by rw[e] at C;cases C⟩
  ·next rows sz hr =>
   obtain⟨-,p,-⟩:=hH.each k _ hr;have m:=p;generalize V.s k=z at p m;cases m with
   | sl l A c sz u hc hA hz hh hu=>exact⟨[.sl rows],h,by simpa [Value.cells] using PW.cons (.of_v p) .nil,fun b e=>by cases e⟩
  ·next rows e sz hr =>
   obtain⟨-,rs,m,-⟩:=hH.each k _ hr;have F:∃A n c,V.s k=.slice A n c:=by
    rcases m.2 with⟨e,-⟩ | ⟨g,q,cap,cur,e,-⟩
    ·exact⟨_,_,_,e⟩
    ·exact⟨_,_,_,e⟩
   obtain⟨A,n,c,e⟩:=F;exact⟨_,h,by rw[e];simpa [Value.cells] using PW.cons (g:=.osl k) (l:=[]) (P:=CRep I V) ⟨D,e.symm⟩ .nil,fun b C=>by rw[e] at C;cases C⟩
  ·exact h.elim
 | osv k sz lo hi =>
  obtain⟨D,J,rfl⟩:=(show k < V.n∧(lo≤hi∧hi≤Nb (V.s k))∧y=Hz sz (V.s k) lo hi from B);unfold Gp at h;dsimp only at h;split at h
  ·next rows e H hr =>
   obtain⟨-,rs,m,-⟩:=hH.each k _ hr;have F:∃A n c,V.s k=.slice A n c:=by
    rcases m.2 with⟨e,-⟩ | ⟨g,cap,cur,e,-⟩
    ·exact⟨_,_,_,e⟩
    ·exact⟨_,_,_,e⟩
   obtain⟨A,n,c,e⟩:=F;exact⟨_,h,PW.cons (g:=.osv k sz lo hi) (l:=[]) (P:=CRep I V) (cs:=[]) (x:=Hz sz (V.s k) lo hi) ⟨D,J,rfl⟩ .nil |> fun E=>(by rw[e] at E⊢;exact E),fun b C=>by rw[e] at C;cases C⟩
  ·next rows e H hr =>
   obtain⟨-,rs,m,-⟩:=hH.each k _ hr;have F:∃A n c,V.s k=.slice A n c:=by
    rcases m.2 with⟨e,-⟩ | ⟨g,q,cap,cur,e,-⟩
    ·exact⟨_,_,_,e⟩
    ·exact⟨_,_,_,e⟩
   obtain⟨A,n,c,e⟩:=F;exact⟨_,h,PW.cons (g:=.osv k sz lo hi) (l:=[]) (P:=CRep I V) (cs:=[]) (x:=Hz sz (V.s k) lo hi) ⟨D,J,rfl⟩ .nil |> fun E=>(by rw[e] at E⊢;exact E),fun b C=>by rw[e] at C;cases C⟩
  ·exact h.elim
end
def Nxt (N:Nat)(own0:Os)(I0:Imm)(V0:Va)(w0:World)(K:Ts→Os→Nat→Prop)(next:Act→World→Prop):Prop :=
 ∀t own I V a w,K t own V.n→Since own0 I0 V0 w0 own I V w→ARep N I V a t→next a w
def Agree (V:Va)(XL:List Nat)(w u:World):Prop:=∀b,b < w.heap.size→(∀k∈XL,¬V.f k b)→u.heap[b]?=w.heap[b]?
def Va.kp (V V':Va):Prop:=∀k,k < V.n→∀b,V'.f k b→V.f k b
theorem Va.kp.refl (V:Va):V.kp V:=fun _ _ _ h=>h
theorem Va.kp.trans {V V' V'':Va}(h:V.kp V')(m:V.n≤V'.n)(h':V'.kp V''):V.kp V'':=fun k c b j=>h k c b (h' k (aq c m) b j)
theorem Va.kp.push (V:Va)(b:Nat)(s:Value)(f:Nat→Prop):V.kp (V.push b s f):=fun k c b h=>by simpa [Va.push,Nat.ne_of_lt c] using h
theorem Va.kp.drop (V:Va)(k:Nat):V.kp (V.drop k):=fun j _ b c=>by
 change (if j=k then fun _=>False else V.f j) b at c
 split at c
 ·exact c.elim
 ·exact c
def QOk (S:World→Prop)(P:Program)(I:Imm)(V:Va)(own:Os)(_:World)(a:Act)(t:Ts)(o:Oper)(K:Ts→Os→Nat→Prop):Prop :=
 ∃g y,K (put o.dst g t) own V.n∧TRep I V g y∧∀u,S u→(execOp a.eval o).run P u=.ok (.value y) u
def NxtB (N:Nat)(own:Os)(I:Imm)(V:Va)(w:World)(K:Ts→Os→Nat→Prop)(next:Act→World→Prop):Prop :=
 ∀t own' I' V' a w',K t own' V'.n→Later own I V w own' I' V' w'→Below w.heap.size w w'→V.kp V'→ARep N I' V' a t→next a w'
section
variable {P:Program} {tb:List (Nat × TI)} {N:Nat} {I I' I0:Imm} {V V' V0:Va} {a:Act} {t:Ts} {own own' own0:Os} {w w' w0:World} {x:Operand} {g:G} {y:Value} {d:Option Tmp} {o:Oper}
variable {K:Ts→Os→Nat→Prop} {next:Act→World→Prop} {Q:Exit→Act→World→Prop}
theorem fin (hK:Nxt N own0 I0 V0 w0 K next)(hL:Since own0 I0 V0 w0 own I V w)(ha:ARep N I V a t)(hd:∀i,o.dst=some i→i < N)
  (hr:(execOp a.eval o).run P w=.ok (.value y) w') (b:Later own I V w own' I' V' w') (hy:TRep I' V' g y) (c:K (put o.dst g t) own' V'.n):o.wp P a w next Q:=by
 unfold Oper.wp;rw[hr];exact hK _ _ _ _ _ _ c (hL.trans b) ((ha.mono b.fro.mono b.va).put hd hy)
theorem QOk.wp {S:World→Prop}(h:QOk S P I V own w a t o K)(b:S w)(hK:Nxt N own0 I0 V0 w0 K next)(hL:Since own0 I0 V0 w0 own I V w)(ha:ARep N I V a t)(hd:∀i,o.dst=some i→i < N):o.wp P a w next Q:=by obtain⟨g,y,c,hy,hr⟩:=h;exact fin hK hL ha hd (hr w b) (.refl hL.has) hy c
theorem Td (hK:NxtB N own I V w K next)(ha:ARep N I V a t)(hd:∀i,o.dst=some i→i < N)
  (hr:(execOp a.eval o).run P w=.ok (.value y) w') (b:Later own I V w own' I' V' w') (h:Below w.heap.size w w') (c:V.kp V') (hy:TRep I' V' g y) (j:K (put o.dst g t) own' V'.n):o.wp P a w next Q:=by
 unfold Oper.wp;rw[hr];exact hK _ _ _ _ _ _ j b h c ((ha.mono b.fro.mono b.va).put hd hy)
theorem NxtB.of (hK:Nxt N own0 I0 V0 w0 K next)(hL:Since own0 I0 V0 w0 own I V w):NxtB N own I V w K next:=fun _ _ _ _ _ _ b c _ _ ha=>hK _ _ _ _ _ _ b (hL.trans c) ha
theorem W2 (hK:Nxt N own0 I0 V0 w0 K next)(hL:Since own0 I0 V0 w0 own I V w)(ha:ARep N I V a t)(hd:∀i,o.dst=some i→i < N)
  (hr:(execOp a.eval o).run P w=.ok .skip w') (b:Later own I V w own' I' V' w') (c:K (put o.dst .un t) own' V'.n):o.wp P a w next Q:=by
 unfold Oper.wp;rw[hr];exact hK _ _ _ _ _ _ c (hL.trans b) ((ha.mono b.fro.mono b.va).put hd (.of_v .un))
theorem Agree.cell {XL:List Nat}{u:World}(h:Agree V XL w u){b o:Nat}{v:Value}(j:w.cell? ⟨b,o,none⟩=some v)(m:∀k∈XL,¬V.f k b):u.cell? ⟨b,o,none⟩=some v:=by have c:=World.block_lt_of_cell? w ⟨b,o,none⟩ j;rw[World.cell?_of_block (w:=w) (w':=u) (a:=⟨b,o,none⟩) (h b c m)];exact j
theorem Cp (b o k:Nat):(⟨b,o,none⟩:Addr).add k=⟨b,o+k,none⟩:=by unfold Addr.add;split<;>simp_all
theorem Ly {b:TypeId}{i:TI}(h:TIok P b i)(cs:List Value)(off:Nat)(w:World):(part b cs.toArray off).run P w =
  if i.agg=true then .ok (.agg ((cs.drop off).take i.zero.length).toArray) w else(match cs[off]? with | some v=>.ok v w | none=>.halt (.stuck "part: no such cell") w):=by
 unfold part;have c:=Bx (P:=P) h.size w;simp only[Sem.run_bind,H9 h.agg,Result.andThen_ok];cases i.agg with
 | true=>simp[c,Result.andThen]
 | false=>simp;split<;>simp_all [Go.stuck]
theorem Z1s {ty:TypeId}{i:TI}(h:TIok P ty i)(c:i.agg=true){b off:Nat}{cs:List Value}(p:cs.length=i.zero.length)(m:∀(j:Nat) v,cs[j]?=some v→w.cell? ⟨b,off+j,none⟩=some v) :
  (Instr.loadAt ty (.pointer (some ⟨b,off,none⟩))).run P w=.ok (.agg cs.toArray) w:=by
 have:=Dl (P:=P) (w:=w) (g:=b) (k:=off) (ty:=ty) (cs:=cs) (by rw[h.agg,c]) (by rw[h.size,p]) m;simp only[Instr.loadAt,Instr.sureAddr,Sem.run_bind,Sem.run_pure,Result.andThen_ok,this]
theorem Z9h {ty:TypeId}{i:TI}(h:TIok P ty i)(c:i.agg=false){b off:Nat}{v:Value}(j:w.cell? ⟨b,off,none⟩=some v) :
  (Instr.loadAt ty (.pointer (some ⟨b,off,none⟩))).run P w=.ok v w:=by
 simp only[Instr.loadAt,Instr.sureAddr,loadVar,Sem.run_bind,Sem.run_pure,Result.andThen_ok,H9 (P:=P) (show Rr P ty=some false by rw[h.agg,c]),run_load,j,Bool.false_eq_true,if_false]
theorem Zfo {row:List G}{b o:Nat}(h:∀(j:Nat) g,row[j]?=some g→∃u,I b (o+j)=some u∧VRep I g u):∃z,PW (VRep I) row z∧∀(j:Nat) u,z[j]?=some u→I b (o+j)=some u:=by
 refine⟨(List.range row.length).map fun j=>(I b (o+j)).getD undef,⟨by simp,fun j g u s c=>?_⟩,fun j u c=>?_⟩
 ·have p:=(ac.1 s).1;rw[aj,cq p] at c;obtain⟨v,m,q⟩:=h j g s;simp[m] at c;subst c;exact q
 ·have p:j < row.length:=by have:=(ac.1 c).1;simpa using this
  rw[aj,cq p] at c;obtain⟨v,m,q⟩:=h j row[j] (ab p);simp[m] at c;subst c;exact m
theorem Jg {cs:List Value}{k n j:Nat}{v:Value}(h:((cs.drop k).take n)[j]?=some v):cs[k+j]?=some v:=by
 rw[bj] at h;split at h
 ·rw[bw] at h;exact h
 ·cases h
theorem Zkd {l:List G}{cs:List Value}(h:PW (VRep I) l cs):VRep I (.agg l) (.agg cs.toArray):=.agg l cs h.1 h.2
theorem Nu (hH:Has I V own w){k e sz:Nat}{rows:List (List G)}(E:look k own=some (.slc rows e sz)){b n c:Nat}(q:V.s k=.slice (some ⟨b,0,none⟩) n c) :
  ∃rs:List (List Value),∃h:Array Value,w.heap[b]?=some (.cells h e (0,0))∧rs.length=rows.length∧(∀(i:Nat) r u,rows[i]?=some r→rs[i]?=some u→PW (VRep I) r u)∧(∀u∈rs,u.length=sz)∧(∀u∈rs,∀x∈u,x.oneCell'=true)∧n=rows.length∧n≤c∧c≤maxLen∧h.size=c * sz∧h.toList.take (n * sz)=rs.flatten∧∀i u j x,rs[i]?=some u→u[j]?=some x→w.cell? ⟨b,i * sz+j,none⟩=some x:=by
 obtain⟨-,rs,⟨H,z⟩,B,A,p,F,J⟩:=hH.each k _ E;rcases z with⟨m,-⟩ | ⟨g,cap,h,m,-,hg,hn,hm,hc,ht⟩
 ·rw[q] at m;cases m
 ·rw[q] at m;injection m with m e2 e3;injection m with m;injection m with m;subst m e2 e3;refine⟨rs,h,hg,B,A,p,F,rfl,hn,hm,hc,ht,fun i u j x D C=>?_⟩;rw[cell_of_row w b _ h e (0,0) hg];have:=D9 p D C;rw[←ht,bj] at this;split at this
  ·simpa using this
  ·cases this
theorem Z93 (hH:Has I V own w){k e sz:Nat}{rows:List (List G)}(p:look k own=some (.slc rows e sz)){b q n c:Nat}(j:V.s k=.slice (some ⟨b,q,none⟩) n c):q=0:=by
 obtain⟨-,rs,⟨u,m⟩,-⟩:=hH.each k _ p;rcases m with⟨h,-⟩ | ⟨g,cap,cur,h,-⟩
 ·rw[j] at h;cases h
 ·rw[j] at h;injection h with h e2 e3;injection h with h;injection h
theorem Zey (hH:Has I V own w){k e sz:Nat}{rows:List (List G)}(F:look k own=some (.vw rows e sz)){b q n c:Nat}(z:V.s k=.slice (some ⟨b,q,none⟩) n c) :
  ∃rs:List (List Value),∃h:Array Value,w.heap[b]?=some (.cells h e (0,0))∧rs.length=rows.length∧(∀(i:Nat) r u,rows[i]?=some r→rs[i]?=some u→PW (VRep I) r u)∧(∀u∈rs,u.length=sz)∧(∀u∈rs,∀x∈u,x.oneCell'=true)∧n=rows.length∧n≤c∧c≤maxLen∧q+c * sz≤h.size∧(h.toList.drop q).take (n * sz)=rs.flatten∧∀(i:Nat) u (j:Nat) x,rs[i]?=some u→u[j]?=some x→w.cell? ⟨b,q+i * sz+j,none⟩=some x:=by
 obtain⟨-,rs,⟨J,A⟩,C,B,p,H,M⟩:=hH.each k _ F;rcases A with⟨m,-⟩ | ⟨g,q',cap,h,m,hg,hn,hm,hc,ht⟩
 ·rw[z] at m;cases m
 ·rw[z] at m;injection m with m e2 e3;injection m with m;injection m with m e4;subst m e2 e3 e4;refine⟨rs,h,hg,C,B,p,H,rfl,hn,hm,hc,ht,fun i u j x E D=>?_⟩;rw[cell_of_row w b _ h e (0,0) hg];have:=D9 p E D;rw[←ht,bj] at this;split at this
  ·rw[bw] at this;rw[cv];simpa using this
  ·cases this
theorem Qh {base e sz n:Nat}{v:Value}{xs:List Value}(h:w.ownsRow base e sz v n xs):Ds w e sz v n xs:=by
 refine⟨h.1,?_⟩;rcases h.2 with b | ⟨g,cap,cur,e1,-,hg,hn,hm,hc,ht⟩
 ·exact .inl b
 ·exact .inr ⟨g,0,cap,cur,e1,hg,hn,hm,by rw[hc];omega,by rw[List.drop_zero];exact ht⟩
end
theorem Cr:∀{l:List Nat} {k:Nat},Gc k l=true↔k∈l
 | [],k=>by simp[Gc]
 | j::l,k=>by
  unfold Gc;have b:=Cr (l:=l) (k:=k);by_cases h:k=j
  ·subst h;simp[Nat.beq_refl]
  ·have c:Nat.beq k j=false:=by
    cases hb:Nat.beq k j with
    | false=>rfl
    | true=>exact de (ai hb) h
   simp[c,b,h]
section
variable {P:Program} {tb:List (Nat × TI)} {N n:Nat} {I I' I0:Imm} {V V' V0:Va} {a:Act} {t:Ts} {own own' own0:Os} {w w' w0:World} {g:G} {y:Value} {d:Option Tmp}
variable {XL:List Nat} {S:World→Prop} {K:Ts→Os→Nat→Prop} {next:Act→World→Prop} {Q:Exit→Act→World→Prop} {o:Oper}
variable (hT:∀t i,look t tb=some i→TIok P t i) (hK:NxtB N own I V w K next) (hH:Has I V own w) (ha:ARep N I V a t) (hd:∀i,o.dst=some i→i < N)
include hH ha in
theorem Zat {x:Operand}(b:o.op=.move x∨o.op=.assign x)(h:ev t own x fun g=>K (put o.dst g t) own V.n):QOk S P I V own w a t o K:=by obtain⟨g,j,c⟩:=B8 h ha hH;refine⟨_,_,j,c,fun u _=>?_⟩;rcases b with b | b<;>simp only[execOp,b,Sem.run_pure]
include hK hH ha hd in
theorem Zh8 {e sz:Nat}(c:0 < sz)(j:o.op=.assign (.const (.slice none 0 0)))(h:K (put o.dst (.osl V.n) t) ((V.n,.slc [] e sz)::own) (V.n+1)):o.wp P a w next Q:=by
 refine Td (g:=.osl V.n) (y:=.slice none 0 0) hK ha hd (w':=w) (by simp only[execOp,j,Sem.run_pure];rfl) (Dt (r:=.slc [] e sz) hH (Below.refl _ _) 0 (.slice none 0 0) (fun _=>False) (fun k h=>h.elim) ⟨?_,[],?_,rfl,?_,by simp,by simp,c⟩) (Below.refl _ _) (.push _ _ _ _) (TRep.of_c (g:=.osl V.n) ⟨cu _,by simp[Va.push]⟩) h
 ·intro b;simp[Va.push,Value.ownBlock]
 ·simp[Va.push];exact World.ownsRow_nil w 0 e sz
 ·intro i r u hr;simp at hr
include hH ha in
theorem Zfd {c x y:Operand}(q:o.op=.pick c x y)(h:ev t own c fun g=>match g with
  | .tt=>ev t own x fun g=>K (put o.dst g t) own V.n
  | .ff=>ev t own y fun g=>K (put o.dst g t) own V.n
  | .v (.bool c)=>EvIf c (ev t own x fun g=>K (put o.dst g t) own V.n) (ev t own y fun g=>K (put o.dst g t) own V.n)
  | _=>False):QOk S P I V own w a t o K:=by
 obtain⟨g,m,j⟩:=B8 h ha hH;have key:∀b,a.eval c=.bool b→(ev t own (if b=true then x else y) fun g=>K (put o.dst g t) own V.n)→QOk S P I V own w a t o K:=fun b p h=>by obtain⟨g,m,j⟩:=B8 h ha hH;refine⟨_,a.eval (if b=true then x else y),m,j,fun u _=>?_⟩;cases b<;>simp[execOp,q,p,asBool]
 cases g with
 | tt=>exact key true (by generalize a.eval c=z at j;cases(show VRep I .tt z from j);rfl) m
 | ff=>exact key false (by generalize a.eval c=z at j;cases(show VRep I .ff z from j);rfl) m
 | v z =>
  have e:a.eval c=z:=by generalize a.eval c=u at j;cases(show VRep I (.v z) u from j);rfl
  cases z with
  | bool b =>
   cases b with
   | true=>exact key true e (m.1 rfl)
   | false=>exact key false e (m.2 rfl)
  | _=>exact m.elim
 | _=>exact m.elim
theorem W0 {I:Imm}{V:Va}{w':World}{b:Nat}{cs:List G}{j:List Value}{ty:TypeId}(m:w'.heap[b]?=some (.cells j.toArray ty (0,0)))(p:PW (CRep I V) cs j):RRep I (V.push b undef (·=b)) V.n w' (.blk cs ty):=by refine⟨fun c=>by simp[Va.push],j,by simpa [Va.push] using m,p.mono fun _ _ h=>h.mono (.refl _) (V.push_le _ _ _)⟩
theorem Z25 {i:TI}{ty:TypeId}(h:TIok P ty i):PW (CRep I V) i.zero (i.zero.map G.val):=by refine⟨by simp,fun j g u c b=>?_⟩;rw[aj,c] at b;simp at b;subst b;have:=Ae h.zok g (ae c);cases g<;>first | exact .of_v (.v _) | exact .of_v .ff | exact .of_v .nl | cases this
include hT hK hH ha hd in
theorem Z8f {ty:TypeId}(s:o.op=.alloc ty)(h:match look ty tb with
  | some i=>K (put o.dst (.ptr V.n 0) t) ((V.n,.blk i.zero ty)::own) (V.n+1)
  | none=>False):o.wp P a w next Q:=by
 cases hl:look ty tb with
 | none=>rw[hl] at h;exact h.elim
 | some i =>
  rw[hl] at h;have hi:=hT ty i hl;obtain⟨z,m,c⟩:=ay.1 hi.zero;obtain⟨j,b,q⟩:=Option.bind_eq_some_iff.1 m;have p:(zeroValue ty).run P w=.ok z w:=by simp[zeroValue,typeInfo,b,q]
  have e:z.cells=(i.zero.map G.val).toArray:=by rw[←c]
  refine Td (g:=.ptr V.n 0) (y:=.pointer (some ⟨w.heap.size,0,none⟩)) hK ha hd (w':=w.alloc (.cells (i.zero.map G.val).toArray ty)) ?_ (Dt hH ((Below.refl _ _).alloc (af _) _) w.heap.size undef (·=w.heap.size) (fun k e=>⟨Nat.le_of_eq e.symm,by subst e;simp⟩) (W0 (heap_alloc_new _ _) (Z25 hi))) ((Below.refl _ _).alloc (af _) _) (.push _ _ _ _) (TRep.of_c (g:=.ptr V.n 0) ⟨cu _,by simp[Va.push]⟩) h;simp only[execOp,s,Sem.run_bind,Instr.alloc,p,newVar,newRow,run_newObj_alloc,Sem.run_pure,Result.andThen_ok,e]
include hK hH ha hd in
theorem Zgu {ty:TypeId}{x:Operand}(m:o.op=.box ty x)(h:ev t own x fun g=>Gp own g fun cs=>K (put o.dst (.ptr V.n 0) t) ((V.n,.blk cs ty)::own) (V.n+1)):o.wp P a w next Q:=by obtain⟨g,b,c⟩:=B8 h ha hH;obtain⟨cs,b,j,-⟩:=Hv b c hH;refine Td (g:=.ptr V.n 0) (y:=.pointer (some ⟨w.heap.size,0,none⟩)) hK ha hd (w':=w.alloc (.cells (a.eval x).cells.toList.toArray ty)) ?_ (Dt hH ((Below.refl _ _).alloc (af _) _) w.heap.size undef (·=w.heap.size) (fun k e=>⟨Nat.le_of_eq e.symm,by subst e;simp⟩) (W0 (heap_alloc_new _ _) j)) ((Below.refl _ _).alloc (af _) _) (.push _ _ _ _) (TRep.of_c (g:=.ptr V.n 0) ⟨cu _,by simp[Va.push]⟩) b;simp only[execOp,m,Sem.run_bind,Instr.box,newVar,newRow,run_newObj_alloc,Sem.run_pure,Result.andThen_ok,Array.toArray_toList]
theorem N1 (hH:Has I V own w){k:Nat}{cs:List G}{ty:TypeId}(m:look k own=some (.blk cs ty)):∃c:List Value,w.heap[V.b k]?=some (.cells c.toArray ty (0,0))∧PW (CRep I V) cs c∧∀j,w.cell? ⟨V.b k,j,none⟩=c[j]?:=by obtain⟨-,c,h,p⟩:=hH.each k _ m;exact⟨c,h,p,fun j=>by rw[cell_of_row w _ j _ ty (0,0) h];simp⟩
theorem Ch {k off:Nat}(h:TRep I V (.ptr k off) y):k < V.n∧y=.pointer (some ⟨V.b k,off,none⟩):=h
theorem Pq {row:List G}{off:Nat}(h:TRep I V (.elp row off) y):∃b o,y=.pointer (some ⟨b,o+off,none⟩)∧∀(j:Nat) g,row[j]?=some g→∃u,I b (o+j)=some u∧VRep I g u:=h
theorem Lp {k i sz off:Nat}(h:TRep I V (.oel k i sz off) y):k < V.n∧∃b q n c,V.s k=.slice (some ⟨b,q,none⟩) n c∧y=.pointer (some ⟨b,q+(i * sz+off),none⟩):=h
theorem B0 {z:Value}(h:TRep I V (.v z) y):y=z:=by cases(show VRep I (.v z) y from h);rfl
theorem Z4y {ty:TypeId}{i:TI}(hi:TIok P ty i){row:List G}{c:List Value}(p:PW (VRep I) row c){b q off:Nat}(_:∀(j:Nat) v,c[j]?=some v→w.cell? ⟨b,q+j,none⟩=some v){K1:G→Prop}
  (h:match i.agg with
   | true=>seg row off i.zero.length fun l=>K1 (.agg l)
   | false=>match nth row off with
    | some g=>K1 g
    | none=>False):∃g v,K1 g∧VRep I g v∧∀u,(∀(j:Nat) v,c[j]?=some v→u.cell? ⟨b,q+j,none⟩=some v)→(Instr.loadAt ty (.pointer (some ⟨b,q+off,none⟩))).run P u=.ok v u:=by
 cases hb:i.agg with
 | true =>
  rw[hb] at h;obtain⟨l,A,B,-⟩:=Mg h p;have D:((c.drop off).take i.zero.length).length=i.zero.length:=by
   rcases Nat.eq_zero_or_pos i.zero.length with m | m
   ·rw[m];simp
   ·have:=Q7 h p m;simp;omega
  exact⟨_,_,A,Zkd B,fun u s=>Z1s hi hb D fun j v z=>by rw[cv];exact s _ _ (Jg z)⟩
 | false =>
  rw[hb,Er] at h;dsimp only at h;cases hr:row[off]? with
  | none=>rw[hr] at h;exact h.elim
  | some g =>
   rw[hr] at h;obtain⟨v,z,C⟩:=p.get hr;exact⟨g,v,h,C,fun u s=>Z9h hi hb (s _ _ z)⟩
theorem V9 {Q:G→Value→Prop}:∀{rows:List (List G)} {rs:List (List Value)},rs.length=rows.length→(∀(i:Nat) r u,rows[i]?=some r→rs[i]?=some u→PW Q r u)→PW Q rows.flatten rs.flatten
 | [],rs,h,_=>by have:rs=[]:=am (by simpa using h);subst this;exact .nil
 | r::rows,rs,h,hp=>by
  cases rs with
  | nil=>simp at h
  | cons u rs =>
   rw[b8,b8];exact(hp 0 r u rfl rfl).append (V9 (by simpa using h) fun i r u b c=>hp (i+1) r u (by simpa using b) (by simpa using c))
include hT hH ha in
theorem Zhy (hXL:∀k∈XL,∃r,look k own=some r)(hS:∀u,S u→Agree V XL w u){ty:TypeId}{x:Operand}(ho:o.op=.load ty x)(h:ev t own x fun g=>match look ty tb with
  | none=>False
  | some i=>match g with
   | .ptr k off=>match look k own,Gc k XL with
    | some (.blk cs _),false=>match i.agg with
     | true=>seg cs off i.zero.length fun l=>Jt i.zero.length l fun g=>K (put o.dst g t) own V.n
     | false=>match nth cs off with
      | some g=>K (put o.dst g t) own V.n
      | none=>False
    | some (.lnk j),false=>match look j own,Gc j XL,i.agg with
     | some (.slc rows _ 1),false,true=>Fc (off+i.zero.length≤rows.length∧∀r∈rows,∀g∈r,g.pure=true) (K (put o.dst (.agg ((rows.flatten.drop off).take i.zero.length)) t) own V.n)
     | _,_,_=>False
    | _,_=>False
   | .elp row off=>match i.agg with
     | true=>seg row off i.zero.length fun l=>K (put o.dst (.agg l) t) own V.n
     | false=>match nth row off with
      | some g=>K (put o.dst g t) own V.n
      | none=>False
   | .oel k j sz off=>match look k own,Gc k XL with
    | some (.slc rows _ sz'),false=>match Nat.beq sz sz' with
     | true=>EvIdx rows j fun row=>match i.agg with
      | true=>seg row off i.zero.length fun l=>K (put o.dst (.agg l) t) own V.n
      | false=>match nth row off with
       | some g=>K (put o.dst g t) own V.n
       | none=>False
     | false=>False
    | some (.vw rows _ sz'),false=>match Nat.beq sz sz' with
     | true=>EvIdx rows j fun row=>match i.agg with
      | true=>seg row off i.zero.length fun l=>K (put o.dst (.agg l) t) own V.n
      | false=>match nth row off with
       | some g=>K (put o.dst g t) own V.n
       | none=>False
     | false=>False
    | _,_=>False
   | _=>False):QOk S P I V own w a t o K:=by
 obtain⟨g,s,hg⟩:=B8 h ha hH;cases hl:look ty tb with
 | none=>rw[hl] at s;exact s.elim
 | some i =>
  rw[hl] at s;have hi:=hT ty i hl;have run:∀{u v},(Instr.loadAt ty (a.eval x)).run P u=.ok v u→(execOp a.eval o).run P u=.ok (.value v) u:=fun hr=>by simp only[execOp,ho,Sem.run_bind,hr,Result.andThen_ok,Sem.run_pure]
  have nX:∀{b k},(∃r,look k own=some r)→V.f k b→k ∉ XL→∀k'∈XL,¬V.f k' b:=fun {b k} ⟨r,hr⟩ hf s k' H J=>by obtain⟨r',h'⟩:=hXL k' H;exact s (hH.disj k k' r _ b hr h' hf J ▸ H)
  dsimp only at s;cases g with
  | ptr k off =>
   obtain⟨hkn,F⟩:=Ch hg;dsimp only at s;cases hr:look k own with
   | none=>rw[hr] at s;exact s.elim
   | some r =>
    rw[hr] at s;cases r with
    | blk cs t' =>
     cases hm:Gc k XL with
     | true=>rw[hm] at s;exact s.elim
     | false =>
     rw[hm] at s;have D:k ∉ XL:=fun h=>by rw[Cr.2 h] at hm;cases hm
     obtain⟨us,h1,J,O⟩:=N1 hH hr;have Z:V.b k < w.heap.size:=(bp.1 h1).1;have hcl:∀u,Agree V XL w u→∀j,u.cell? ⟨V.b k,j,none⟩=w.cell? ⟨V.b k,j,none⟩:=fun u A j=>World.cell?_of_block (w:=w) (A _ Z (nX ⟨_,hr⟩ (((hH.each k _ hr).1 _).2 rfl) D));dsimp only at s;cases hb:i.agg with
     | true =>
      rw[hb] at s;obtain⟨l,T,k2,-⟩:=Mg s J;obtain⟨g',k3,k4⟩:=Jl T k2;have E:((us.drop off).take i.zero.length).length=i.zero.length:=by
       rcases Nat.eq_zero_or_pos i.zero.length with h0 | h0
       ·rw[h0];simp
       ·have:=Q7 s J h0;simp;omega
      exact⟨_,_,k3,k4,fun u A=>run (by rw[F];exact Z1s hi hb E fun j v z=>by rw[hcl u (hS u A),O];exact Jg z)⟩
     | false =>
      rw[hb,Er] at s;dsimp only at s;cases W:cs[off]? with
      | none=>rw[W] at s;exact s.elim
      | some g' =>
       rw[W] at s;obtain⟨v,z,hgv⟩:=J.get W;exact⟨_,_,s,.of_c hgv,fun u A=>run (by rw[F];exact Z9h hi hb (by rw[hcl u (hS u A),O];exact z))⟩
    | lnk j =>
     obtain⟨-,hjn,m,hsj⟩:=hH.each k _ hr;cases hm:Gc k XL with
     | true=>rw[hm] at s;exact s.elim
     | false =>
     rw[hm] at s;dsimp only at s;split at s
     ·next rows e X hmj hag =>
      have hnj:j ∉ XL:=fun h=>by rw[Cr.2 h] at hmj;cases hmj
      obtain⟨⟨hfit,hpur⟩,s⟩:=s;obtain⟨rs,cur,B,J,O,h4,-,-,-,-,-,-,M⟩:=Nu hH X hsj;have hlb:V.b k < w.heap.size:=(bp.1 B).1;have hfl:PW (VRep I) rows.flatten rs.flatten:=V9 J O;have E:((rs.flatten.drop off).take i.zero.length).length=i.zero.length:=by rw[aw,bc,Bm h4];omega
      have Y:∀u,S u→∀(n:Nat) v,((rs.flatten.drop off).take i.zero.length)[n]?=some v→u.cell? ⟨V.b k,off+n,none⟩=some v:=fun u A n v z=>by have h6:=Jg z;obtain⟨p,q,y,e1,-,e2,e3⟩:=P7 h4 h6;rw[e1];exact(hS u A).cell (M p y q v e2 e3) (nX ⟨_,X⟩ (((hH.each j _ X).1 (V.b k)).2 (by rw[hsj];rfl)) hnj)
      exact⟨_,_,s,.of_v (.agg _ _ (hfl.part off i.zero.length).1 (hfl.part off i.zero.length).2),fun u A=>run (by rw[F];exact Z1s hi hag E (Y u A))⟩
     ·exact s.elim
    | _=>exact s.elim
  | elp row off =>
   obtain⟨b,q,F,A⟩:=Pq hg;obtain⟨us,hp,W⟩:=Zfo A;obtain⟨g',v,T,k2,k3⟩:=Z4y (P:=P) (w:=w) hi hp (K1:=fun g=>K (put o.dst g t) own V.n) (fun j v z=>hH.mem _ _ _ (W j v z)) s;exact⟨_,_,T,.of_v k2,fun u A=>run (by rw[F];exact k3 u fun m v z=>(hS u A).cell (hH.mem _ _ _ (W m v z)) (fun k' H e=>(by obtain⟨r',h'⟩:=hXL k' H;have:=(hH.foot k' _ b h' e).2 (q+m);rw[W m v z] at this;cases this)))⟩
  | oel k j sz off =>
   obtain⟨hkn,b,q,n,c,hs,F⟩:=Lp hg;dsimp only at s;cases hr:look k own with
   | none=>rw[hr] at s;exact s.elim
   | some r =>
    rw[hr] at s;cases r with
    | slc rows e sz' =>
     cases hm:Gc k XL with
     | true=>rw[hm] at s;exact s.elim
     | false =>
     rw[hm] at s;have D:k ∉ XL:=fun h=>by rw[Cr.2 h] at hm;cases hm
     dsimp only at s;cases hb:Nat.beq sz sz' with
     | false=>rw[hb] at s;exact s.elim
     | true =>
      rw[hb] at s;have:=ai hb;subst this;obtain⟨⟨-,Z⟩,s⟩:=s;obtain rfl:=Z93 hH hr hs;rw[cb] at F;obtain⟨rs,cur,B,J,O,h4,-,-,-,-,-,-,M⟩:=Nu hH hr hs;have hlb:b < w.heap.size:=(bp.1 B).1;have hj:j < rows.length:=by omega
      have C:j < rs.length:=by omega
      obtain⟨g',v,T,k2,k3⟩:=Z4y (P:=P) (w:=w) hi (O j _ _ (ab hj) (ab C)) (b:=b) (q:=j * sz) (off:=off) (K1:=fun g=>K (put o.dst g t) own V.n) (fun m v z=>M j _ m v (ab C) z) (s rows[j] (by simp));exact⟨_,_,T,.of_v k2,fun u A=>run (by rw[F];exact k3 u fun m v z=>(hS u A).cell (M j _ m v (ab C) z) (nX ⟨_,hr⟩ (((hH.each k _ hr).1 b).2 (by rw[hs];rfl)) D))⟩
    | vw rows e sz' =>
     cases hm:Gc k XL with
     | true=>rw[hm] at s;exact s.elim
     | false =>
     rw[hm] at s;have D:k ∉ XL:=fun h=>by rw[Cr.2 h] at hm;cases hm
     dsimp only at s;cases hb:Nat.beq sz sz' with
     | false=>rw[hb] at s;exact s.elim
     | true =>
      rw[hb] at s;have:=ai hb;subst this;obtain⟨⟨-,Z⟩,s⟩:=s;obtain⟨rs,cur,B,J,O,h4,-,-,-,-,-,-,M⟩:=Zey hH hr hs;have hlb:b < w.heap.size:=(bp.1 B).1;have hj:j < rows.length:=by omega
      have C:j < rs.length:=by omega
      have M:∀(i:Nat) u (m:Nat) v,rs[i]?=some u→u[m]?=some v→w.cell? ⟨b,q+i * sz+m,none⟩=some v:=fun i u m v a b=>M i u m v a b;rw[←cv] at F;obtain⟨g',v,T,k2,k3⟩:=Z4y (P:=P) (w:=w) hi (O j _ _ (ab hj) (ab C)) (b:=b) (q:=q+j * sz) (off:=off) (K1:=fun g=>K (put o.dst g t) own V.n) (fun m v z=>M j _ m v (ab C) z) (s rows[j] (by simp));exact⟨_,_,T,.of_v k2,fun u A=>run (by rw[F];exact k3 u fun m v z=>(hS u A).cell (M j _ m v (ab C) z) (nX ⟨_,hr⟩ (((hH.each k _ hr).1 b).2 (by rw[hs];rfl)) D))⟩
    | _=>exact s.elim
  | _=>exact s.elim
end
theorem Zlp {I:Imm}{V:Va}{cs:List G}{ds:List Value}(h:PW (CRep I V) cs ds):PW (CRep I V) (cs.map Z61) ds :=
 ⟨by rw[aa];exact h.1,fun m g u c q=>by
  rw[aj] at c;obtain⟨g0,p,rfl⟩:=ay.1 c;have b:=h.2 m g0 u p q;cases g0 with
  | nl=>cases(show VRep I .nl u from b);exact .sl [] none 0 0 (fun _ _=>undef) (af _) (fun _=>rfl) (by simp) (fun i r h=>by simp at h) (fun i r j g h=>by simp at h)
  | tt=>cases(show VRep I .tt u from b);exact .v _
  | ff=>cases(show VRep I .ff u from b);exact .v _
  | _=>exact b⟩
theorem Wd {rs:List (List Value)}{sz:Nat}(h:∀u∈rs,u.length=sz):∀{i:Nat} {u:List Value} (_:rs[i]?=some u) (off:Nat) (ds:List Value) (_:off+ds.length≤sz),
  (rs.set i (u.take off++ds++u.drop (off+ds.length))).flatten=rs.flatten.take (i * sz+off)++ds++rs.flatten.drop (i * sz+off+ds.length):=by
 induction rs with
 | nil=>intro i u b;simp at b
 | cons v rs ih =>
  intro i u b off ds hd;have j:=h v (by simp);cases i with
  | zero =>
   simp at b;subst b;simp only[List.set_cons_zero,List.flatten_cons,Nat.zero_mul,Nat.zero_add];rw[List.take_append_of_le_length (by omega),List.drop_append_of_le_length (by omega)];simp[List.append_assoc]
  | succ i =>
   have:=ih (fun u b=>h u (by simp[b])) (i:=i) (u:=u) (by simpa using b) off ds hd;simp only[List.set_cons_succ,List.flatten_cons];rw[this];have c:(i+1) * sz+off=v.length+(i * sz+off):=by rw[j,Nat.add_mul];omega
   rw[c,List.take_length_add_append,cv v.length,List.drop_length_add_append];simp[List.append_assoc]
section
variable {P:Program} {tb:List (Nat × TI)} {N n:Nat} {I I' I0:Imm} {V V' V0:Va} {a:Act} {t:Ts} {own own' own0:Os} {w w' w0:World} {g:G} {y:Value} {d:Option Tmp}
variable {XL:List Nat} {S:World→Prop} {K:Ts→Os→Nat→Prop} {next:Act→World→Prop} {Q:Exit→Act→World→Prop} {o:Oper}
theorem Is {ty:TypeId}{m b off:Nat}(q:(P.info? ty).map (·.size)=some m){x:Value}{ds:List Value}(s:x.cells.toList=ds)(B:ds.length=m){c:Array Value}{z:TypeId}(A:w.heap[b]?=some (.cells c z (0,0)))(p:off+ds.length≤c.size)(C:∀u∈ds,u.oneCell'=true) :
  (Instr.storeAt ty (.pointer (some ⟨b,off,none⟩)) x).run P w=.ok () (w.setRow b (c.toList.take off++ds++c.toList.drop (off+ds.length)).toArray):=by
 have h:=run_storeCells_at P b off z ds 0 c w A (by simpa using p) C;simp only[Nat.add_zero] at h;subst B;have j:x.cells.size=ds.length:=by rw[←s];simp
 simp only[Instr.storeAt,Instr.sureAddr,storeVar,Sem.run_bind,Sem.run_pure,Result.andThen_ok,Bx q,j,ne_eq,not_true_eq_false,if_false,s,h]
theorem Z9k {l:List G}{ds:List Value}(hH:Has I V own w)(h:B4 (Zei own) l=true)(s:PW (CRep I V) l ds):∀u∈ds,u.oneCell'=true:=fun u A=>by
 obtain⟨j,z,e⟩:=cg.1 A;have p:j < l.length:=by rw[s.1];exact z
 have b:=Ae h l[j] (bm p);have c:=s.2 j l[j] u (ab p) (by rw[ab z,e]);generalize l[j]=g at b c;cases g with
 | ptr k o=>rw[c.2];rfl
 | mp k=>rw[c.2];rfl
 | osl k =>
  rw[c.2];unfold Zei at b;dsimp only at b;split at b
  ·next rows e sz hr =>
   obtain⟨-,rs,m,-⟩:=hH.each k _ hr;rcases m.2 with⟨e,-⟩ | ⟨g,cap,cur,e,-⟩<;>rw[e]<;>rfl
  ·next rows e sz hr =>
   obtain⟨-,rs,m,-⟩:=hH.each k _ hr;rcases m.2 with⟨e,-⟩ | ⟨g,q,cap,cur,e,-⟩<;>rw[e]<;>rfl
  ·cases b
 | osv k sz' lo hi =>
  rw[c.2.2];unfold Zei at b;dsimp only at b;split at b
  ·next rows e sz hr =>
   obtain⟨-,rs,m,-⟩:=hH.each k _ hr;rcases m.2 with⟨e,-⟩ | ⟨g,cap,cur,e,-⟩<;>rw[e]<;>rfl
  ·next rows e sz hr =>
   obtain⟨-,rs,m,-⟩:=hH.each k _ hr;rcases m.2 with⟨e,-⟩ | ⟨g,q,cap,cur,e,-⟩<;>rw[e]<;>rfl
  ·cases b
 | v x=>exact M6 (I:=I) c b
 | tt=>exact M6 (I:=I) c b
 | ff=>exact M6 (I:=I) c b
 | nl=>exact M6 (I:=I) c b
 | sl l=>exact M6 (I:=I) c b
 | _=>cases b
theorem Zap {K1:List G→Prop}(h:Zhu g K1)(b:TRep I V g y):∃l cs,K1 l∧y=.agg cs.toArray∧PW (CRep I V) l cs:=by
 cases g with
 | agg l =>
  cases(show VRep I (.agg l) y from b) with
  | agg l cs hl hh=>exact⟨l,cs,h,rfl,hl,fun j g u p c=>.of_v (hh j g u p c)⟩
 | oag l =>
  obtain⟨cs,rfl,m⟩:=(show TRep1 I V (.oag l) y from b);exact⟨l,cs,h,rfl,m⟩
 | _=>exact False.elim h
variable (hT:∀t i,look t tb=some i→TIok P t i) (hH:Has I V own w) (hK:Nxt N own0 I0 V0 w0 K next) (hL:Since own0 I0 V0 w0 own I V w) (ha:ARep N I V a t) (hd:∀i,o.dst=some i→i < N)
include hT ha
include hH in
theorem Tm {ty:TypeId}{x:Operand}{f:Nat}(W:o.op=.fieldAddr ty x f)(h:ev t own x fun g=>match look ty tb with
  | none=>False
  | some i=>match nth i.flds f with
   | none=>False
   | some (_,fo)=>match g with
    | .ptr k off=>K (put o.dst (.ptr k (Nat.add off fo)) t) own V.n
    | .elp row off=>K (put o.dst (.elp row (Nat.add off fo)) t) own V.n
    | .oel k j sz off=>K (put o.dst (.oel k j sz (Nat.add off fo)) t) own V.n
    | _=>False):QOk S P I V own w a t o K:=by
 obtain⟨g,s,E⟩:=B8 h ha hH;cases hl:look ty tb with
 | none=>rw[hl] at s;exact s.elim
 | some i =>
  rw[hl] at s;dsimp only at s;rw[Er] at s;cases hf:i.flds[f]? with
  | none=>rw[hf] at s;exact s.elim
  | some p =>
   obtain⟨Z,fo⟩:=p;rw[hf] at s;dsimp only at s;obtain⟨F,J,T,O⟩:=(hT ty i hl).flds (fun e=>by rw[e] at hf;simp at hf);rw[←T,aj] at hf;obtain⟨H,B,D⟩:=ay.1 hf;injection D with e1 e2;obtain⟨m,X⟩:=O H (ae B);have C:F[f]?=some H:=by simpa using B
   have run:∀b off,a.eval x=.pointer (some ⟨b,off,none⟩)→∀u:World,(execOp a.eval o).run P u=.ok (.value (.pointer (some ⟨b,off+fo,none⟩))) u:=fun b off Y u=>by simp only[execOp,W,Instr.fieldAt,Sem.run_bind,run_underlying J,Y,Instr.sureAddr,fieldPlace,Result.andThen_ok,Sem.run_pure,C,Bx X,Cp,e2];simp
   cases g with
   | ptr k off =>
    obtain⟨z,A⟩:=Ch E;exact⟨_,_,s,(.of_c (g:=.ptr k (off+fo)) ⟨z,rfl⟩),fun u _=>run _ _ A u⟩
   | elp row off =>
    obtain⟨b,q,z,A⟩:=Pq E;exact⟨_,_,s,(.of_1 (g:=.elp row (off+fo)) ⟨b,q,by rw[cv],A⟩),fun u _=>run _ _ z u⟩
   | oel k j sz off =>
    obtain⟨M,b,q,n,c,z,A⟩:=Lp E;exact⟨_,_,s,(.of_1 (g:=.oel k j sz (off+fo)) ⟨M,b,q,n,c,z,by rw[cv,cv]⟩),fun u _=>run _ _ A u⟩
   | _=>exact s.elim
include hH in
theorem Ze5 {ty:TypeId}{x:Operand}{f:Nat}(X:o.op=.field ty x f)(h:ev t own x fun g=>Zhu g fun cs=>match look ty tb with
  | none=>False
  | some i=>match nth i.flds f with
   | none=>False
   | some (c,fo)=>match look c tb with
    | none=>False
    | some j=>match j.agg with
     | true=>seg cs fo j.zero.length fun l=>Jt j.zero.length l fun g=>K (put o.dst g t) own V.n
     | false=>match nth cs fo with
      | some g=>K (put o.dst g t) own V.n
      | none=>False):QOk S P I V own w a t o K:=by
 obtain⟨g,b,E⟩:=B8 h ha hH;obtain⟨cs,J,b,he,B⟩:=Zap b E;cases hl:look ty tb with
 | none=>rw[hl] at b;exact b.elim
 | some i =>
  rw[hl] at b;dsimp only at b;rw[Er] at b;cases hf:i.flds[f]? with
  | none=>rw[hf] at b;exact b.elim
  | some p =>
   obtain⟨c,fo⟩:=p;rw[hf] at b;dsimp only at b;cases hj:look c tb with
   | none=>rw[hj] at b;exact b.elim
   | some j =>
    rw[hj] at b;dsimp only at b;have m:=hT c j hj;obtain⟨F,C,O,hz⟩:=(hT ty i hl).flds (fun e=>by rw[e] at hf;simp at hf);rw[←O,aj] at hf;obtain⟨M,z,s⟩:=ay.1 hf;injection s with e1 e2;have q:F[f]?=some M:=by simpa using z
    have run:∀{u v},(part c J.toArray fo).run P u=.ok v u→(execOp a.eval o).run P u=.ok (.value v) u:=fun hr=>by simp only[execOp,X,Instr.field,Sem.run_bind,run_underlying C,he,Result.andThen_ok,Sem.run_pure,q,asAgg,e1,e2,hr]
    cases hb:j.agg with
    | true =>
     rw[hb] at b;obtain⟨l,D,T,-⟩:=Mg b B;obtain⟨Z,Y,H⟩:=Jl D T;exact⟨_,_,Y,H,fun u _=>run (by rw[Ly m,hb];rfl)⟩
    | false =>
     rw[hb,Er] at b;dsimp only at b;cases hc:cs[fo]? with
     | none=>rw[hc] at b;exact b.elim
     | some Z =>
      rw[hc] at b;obtain⟨v,W,A⟩:=B.get hc;exact⟨_,_,b,.of_c A,fun u _=>run (by rw[Ly m,hb,W];rfl)⟩
include hK hL hd in
theorem Z6f {bv:Bool}{ty:TypeId}{x z:Operand}(ho:o.op=.store ty x z)(h:ev t own x fun g=>ev t own z fun u=>Gp own u fun cs=>match look ty tb with
  | some i=>Zha i.zero.length own cs (match g with
   | .ptr k off=>match look k own with
    | some (.blk cells ty')=>ovr i.zero.length cells off cs fun A=>K (put o.dst .un t) ((k,.blk A ty')::own) V.n
    | some (.lnk j)=>match bv,look j own,cs with
     | false,some (.slc rows e 1),[c]=>Fc (off < rows.length∧Gx c=true) (K (put o.dst .un t) ((j,.slc (rows.set off [c]) e 1)::own) V.n)
     | _,_,_=>False
    | _=>False
   | .oel k j sz off=>match look k own with
    | some (.slc rows e sz')=>match Nat.beq sz sz' with
     | true=>Zk3 i.zero.length own cs fun cs=>Zie i.zero.length cs (EvSet rows j (fun row k=>ovr i.zero.length row off cs k) fun B=>K (put o.dst .un t) ((k,.slc B e sz)::own) V.n)
     | _=>False
    | _=>False
   | _=>False)
  | none=>False):o.wp P a w next Q:=by
 obtain⟨g,p,hg⟩:=B8 h ha hL.has;obtain⟨u,p,Y⟩:=B8 p ha hL.has;obtain⟨cs,p,J,-⟩:=Hv p Y hL.has;obtain⟨ds,hds⟩:∃ds,(a.eval z).cells.toList=ds:=⟨_,rfl⟩;rw[hds] at J;cases hl:look ty tb with
 | none=>rw[hl] at p;exact p.elim
 | some i =>
  rw[hl] at p;dsimp only at p;obtain⟨h1,hcl0,hcn,hk2,hbp⟩:=Z4k p;clear p;have p:=hk2;clear hk2;have M:=Z9k hL.has h1 J;have hdn:ds≠[]:=fun e=>by have:=J.1;rw[e] at this;exact hcn (am (by simpa using this))
  have hlen:ds.length=i.zero.length:=J.1.symm.trans hcl0;have hsz:=(hT ty i hl).size;have run:∀{w'},(Instr.storeAt ty (a.eval x) (a.eval z)).run P w=.ok () w'→(execOp a.eval o).run P w=.ok .skip w':=fun hr=>by simp only[execOp,ho,Sem.run_bind,hr,Result.andThen_ok,Sem.run_pure]
  have F:∀{cs:List G} {k j sz off e:Nat} {rows:List (List G)},PW (CRep I V) cs ds→look k own=some (.slc rows e sz)→(∃b n c,V.s k=.slice (some ⟨b,0,none⟩) n c∧a.eval x=.pointer (some ⟨b,j * sz+off,none⟩))→B4 G.pure cs=true→EvSet rows j (fun row k=>ovr i.zero.length row off cs k) (fun B=>K (put o.dst .un t) ((k,.slc B e sz)::own) V.n)→o.wp P a w next Q:=fun {cs k j sz off e rows} J hr ⟨b,n,c,hs,X⟩ C p=>by
   obtain⟨hlt,p⟩:=p;obtain⟨rs,W,hg1,h2,h3,h4,h5,hn,hnc,hcm,hcs,ht,-⟩:=Nu hL.has hr hs;have hj:j < rows.length:=by omega
   have H:j < rs.length:=by omega
   have hpv:PW (VRep I) cs ds:=⟨J.1,fun m g u h1 h2=>(J.2 m g u h1 h2).to_v (Ae C g (ae h1))⟩;obtain⟨row',k1,k2,k3⟩:=R5 (p rows[j] (by simp)) (h3 j _ _ (ab hj) (ab H)) hpv;have Y:=h4 rs[j] (bm H);have k3:=k3 hdn;rw[Y] at k3;have hjn:j * sz+sz≤n * sz:=by rw[←Nat.succ_mul];exact Nat.mul_le_mul_right _ (by omega)
   have hnn:n * sz≤c * sz:=Nat.mul_le_mul_right _ hnc;have O:=Is (P:=P) (w:=w) (off:=j * sz+off) hsz hds hlen hg1 (by omega) M;have hfl:=Wd h4 (ab H) off ds k3;have hfln:=Bm h4;have D:∀u∈rs.set j (rs[j].take off++ds++rs[j].drop (off+ds.length)),u.length=sz∧∀x∈u,x.oneCell'=true:=fun u E=>by
    rcases co E with h | rfl
    ·exact⟨h4 u h,h5 u h⟩
    ·refine⟨by simp;omega,fun x T=>?_⟩;rcases bu.1 T with T | T
     ·rcases bu.1 T with T | T
      ·exact h5 _ (bm H) x (be T)
      ·exact M x T
     ·exact h5 _ (bm H) x (b7 T)
   refine W2 hK hL ha hd (run (by rw[X];exact O)) (Db (w':=w.setRow b _) (r:=.slc (rows.set j row') e sz) hL.has hr rfl rfl rfl (by simp[World.setRow]) (fun b' hb'=>setRow_other w _ b' _ (fun e=>hb' (((hL.has.each k _ hr).1 b').2 (by rw[hs,e];rfl)))) ⟨(hL.has.each k _ hr).1,rs.set j (rs[j].take off++ds++rs[j].drop (off+ds.length)),⟨?_,.inr ⟨b,c,_,by rw[hs,hn];simp,ah _,setRow_heap w _ W _ e _ hg1,by simp;omega,hcm,?_,?_⟩⟩,by simp[h2],?_,fun u Y=>(D u Y).1,fun u Y=>(D u Y).2,(hL.has.each k _ hr).2.choose_spec.2.2.2.2.2⟩) k1
   ·rw[Bm fun u Y=>(D u Y).1];simp[h2]
   ·simp;omega
   ·rw[hfl];simp only[List.length_set,←hn];rw[←ht];have hcl:W.toList.length=c * sz:=by simpa using hcs
    simp only[List.take_append,List.take_take,List.drop_take,List.length_take,List.length_append];rw[Nat.min_eq_right (by omega:j * sz+off≤n * sz),cf (by omega:j * sz+off≤n * sz),cf (by omega:j * sz+off≤W.toList.length),ap (by omega:ds.length≤n * sz - (j * sz+off))]
   ·intro i r u Z E;rw[cn] at Z E;split at Z
    ·next e' =>
     subst e';rw[dc rfl,dc H] at E;cases Z;cases E;exact k2
    ·next e' =>
     rw[db e'] at E;exact h3 i r u Z E
  cases g with
  | ptr k off =>
   obtain⟨hkn,X⟩:=Ch hg;dsimp only at p;cases hr:look k own with
   | none=>rw[hr] at p;exact p.elim
   | some r =>
    rw[hr] at p;cases r with
    | blk cells ty' =>
     obtain⟨us,k1,k2,-⟩:=N1 hL.has hr;obtain⟨A,k3,k4,k5⟩:=R5 p k2 J;have O:=Is (P:=P) (w:=w) hsz hds hlen k1 (k5 hdn:off+ds.length≤us.length) M;refine W2 hK hL ha hd (run (by rw[X];exact O)) (Db (w':=w.setRow (V.b k) _) (r:=.blk A ty') hL.has hr rfl rfl rfl (by simp[World.setRow]) (fun b hb=>setRow_other w _ b _ (fun e=>hb (((hL.has.each k _ hr).1 b).2 e))) ⟨(hL.has.each k _ hr).1,_,setRow_heap w _ us.toArray _ ty' _ k1,k4⟩) k3
    | lnk j =>
     obtain⟨-,hjn,m,hsj⟩:=hL.has.each k _ hr;dsimp only at p;cases bv with
     | true=>exact p.elim
     | false =>
     cases hrj:look j own with
     | none=>rw[hrj] at p;exact p.elim
     | some rj =>
      rw[hrj] at p;cases rj with
      | slc rows e sz =>
       cases sz with
       | zero=>exact p.elim
       | succ sz =>
       cases sz with
       | succ sz=>exact p.elim
       | zero =>
       have lnkk:∀c,cs=[c]→Fc (off < rows.length∧Gx c=true) (K (put o.dst .un t) ((j,.slc (rows.set off [c]) e 1)::own) V.n)→o.wp P a w next Q:=fun c hc1 p=>by
        obtain⟨⟨hfit,hc⟩,p⟩:=p;have hn1:i.zero.length=1:=by rw[←hcl0,hc1];rfl
        obtain⟨rs,W,-,h2,h3,h4,-⟩:=Nu hL.has hrj hsj;refine F (j:=off) (off:=0) J hrj ⟨_,_,_,hsj,by rw[X];simp⟩ (Gm fun g hg=>by rw[hc1,bo] at hg;rw[hg];exact Fz hc) ⟨hfit,fun r hr2=>?_⟩;have hlr:r.length=1:=by
         have hlt:off < rs.length:=by omega
         have:=(h3 off r rs[off] hr2 (ab hlt)).1;rw[this];exact h4 _ (bm hlt)
        obtain⟨y,rfl⟩:=List.length_eq_one_iff.1 hlr;rw[hn1,hc1];exact p
       match cs,p with
       | [c],p=>exact lnkk c rfl p
       | [],p=>exact p.elim
       | _::_::_,p=>exact p.elim
      | _=>exact p.elim
    | _=>exact p.elim
  | oel k j sz off =>
   obtain⟨hkn,b,q,n,c,hs,X⟩:=Lp hg;dsimp only at p;cases hr:look k own with
   | none=>rw[hr] at p;exact p.elim
   | some r =>
    rw[hr] at p;cases r with
    | slc rows e sz' =>
     obtain rfl:=Z93 hL.has hr hs;rw[cb] at X;dsimp only at p;cases hb:Nat.beq sz sz' with
     | false=>rw[hb] at p;exact p.elim
     | true =>
      rw[hb] at p;have:=ai hb;subst this;unfold Zk3 at p;cases hbn:Xh i.zero.length with
      | true =>
       rw[hbn] at p;obtain⟨C,p⟩:=Uj p hbp;exact F J hr ⟨b,n,c,hs,X⟩ C p
      | false =>
       rw[hbn] at p;have hnb:∀{cs:List G},Xh i.zero.length=true→B4 G.pure cs=true:=fun h=>by rw[hbn] at h;cases h
       dsimp only at p;split at p
       ·next kp op =>
        obtain⟨b2,j2,hj2,p⟩:=Pu p;obtain⟨C,p⟩:=Uj p hnb;refine F ?_ hr ⟨b,n,c,hs,X⟩ C p;obtain⟨v,vs,rfl,hv,hn⟩:=J.uncons;obtain⟨hkn2,rfl⟩:=(show kp < V.n∧v=.pointer (some ⟨V.b kp,op,none⟩) from hv);obtain⟨-,-,hb2⟩:=hL.has.each j2 _ hj2;rw[hb2];exact .cons (VRep.v _) hn
       ·obtain⟨C,p⟩:=Uj p hnb;exact F (Zlp J) hr ⟨b,n,c,hs,X⟩ C p
    | _=>exact p.elim
  | _=>exact p.elim
end
section
variable {P:Program} {tb:List (Nat × TI)} {N n:Nat} {I I' I0:Imm} {V V' V0:Va} {a:Act} {t:Ts} {own own' own0:Os} {w w' w0:World} {g:G} {y:Value} {d:Option Tmp}
variable {XL:List Nat} {S:World→Prop} {K:Ts→Os→Nat→Prop} {next:Act→World→Prop} {Q:Exit→Act→World→Prop} {o:Oper}
theorem Ft {ty e:TypeId}(h:P.underlying ty=some (.pointer e))(b:Option Addr)(u:World):(Op.equal ty (.pointer b) (.pointer none)).run P u=.ok b.isNone u∧(Op.equal ty (.pointer none) (.pointer b)).run P u=.ok b.isNone u:=by
 have c:∀d,(Op.equalIn (d+1) ty (.pointer b) (.pointer none)).run P u=.ok b.isNone u∧(Op.equalIn (d+1) ty (.pointer none) (.pointer b)).run P u=.ok b.isNone u:=fun d=>by cases b<;>simp[Op.equalIn,run_underlying h]
 exact c 9999
theorem Z4m {m:TypeId}{op:BinOp}{b:Bool}{x z:Value}{K1:G→Prop}(hT:∀t i,look t tb=some i→TIok P t i)(h:Zg0 tb m op b K1)(D:∃p,x=.pointer p)(E:∃p,z=.pointer p)(c:∀e,P.underlying m=some (.pointer e)→∀u:World,(Op.equal m x z).run P u=.ok b u):∃g v,K1 g∧TRep I V g v∧∀(w:World) (s A:Operand),(eqGuard op m s A x z).run P w=.ok () w∧(binOp op m x z).run P w=.ok v w:=by
 obtain⟨p,rfl⟩:=D;obtain⟨q,rfl⟩:=E;unfold Zg0 Z6y at h;cases hl:look m tb with
 | none=>rw[hl] at h;exact h.elim
 | some i =>
  rw[hl] at h;have B:=(hT _ _ hl).kd;dsimp only at h;split at h
  ·next j =>
   rw[j] at B;obtain⟨e,C⟩:=B;have c:=c e C;cases b with
   | true=>exact⟨_,_,h,.of_v .tt,fun w s A=>⟨by simp[eqGuard],by simp only[binOp];simp[c w]⟩⟩
   | false=>exact⟨_,_,h,.of_v .ff,fun w s A=>⟨by simp[eqGuard],by simp only[binOp];simp[c w]⟩⟩
  ·next j =>
   rw[j] at B;obtain⟨e,C⟩:=B;have c:=c e C;cases b with
   | true=>exact⟨_,_,h,.of_v .ff,fun w s A=>⟨by simp[eqGuard],by simp only[binOp];simp[c w]⟩⟩
   | false=>exact⟨_,_,h,.of_v .tt,fun w s A=>⟨by simp[eqGuard],by simp only[binOp];simp[c w]⟩⟩
  ·exact h.elim
theorem Xb {g:G}{K1:Bool→Prop}(h:Z7q g K1)(c:TRep I V g y):∃b,K1 b∧y=.bool b:=by
 unfold Z7q at h;split at h
 ·cases(show VRep I .tt y from c);exact⟨_,h,rfl⟩
 ·cases(show VRep I .ff y from c);exact⟨_,h,rfl⟩
 ·cases(show VRep I (.v _) y from c);exact⟨_,h,rfl⟩
 ·exact h.elim
theorem Zeq (hT:∀t i,look t tb=some i→TIok P t i){H:TypeId}{op:BinOp}{p q:G}{x z:Value}{K1:G→Prop}(h:Zi9 P tb H op p q K1)(D:TRep I V p x)(E:TRep I V q z):∃g v,K1 g∧TRep I V g v∧∀(w:World) (A B:Operand),(eqGuard op H A B x z).run P w=.ok () w∧(binOp op H x z).run P w=.ok v w:=by
 unfold Zi9 at h;split at h
 ·next i j =>
  have s:=B0 D;have c:=B0 E;subst s c;cases op<;>dsimp only at h<;>first
   | exact h.elim
   | (have F:=EvRng.rng h;have C:=EvRng.next h;exact⟨_,_,C,.of_v (.v _),fun w A B=>⟨by simp[eqGuard],by simp[binOp,Op.intArith,IntWalk.i64_in _ F]⟩⟩)
   | (have T:=EvDiv.ne h;have F:=EvRng.rng (EvDiv.next h);have C:=EvRng.next (EvDiv.next h);exact⟨_,_,C,.of_v (.v _),fun w A B=>⟨by simp[eqGuard],by simp[binOp,Op.intDiv,T,IntWalk.i64_in _ F]⟩⟩)
   | (have T:=EvDiv.ne h;have C:=EvDiv.next h;exact⟨_,_,C,.of_v (.v _),fun w A B=>⟨by simp[eqGuard],by simp[binOp,Op.intDiv,T]⟩⟩)
   | exact⟨_,_,h,.of_v (.v _),fun w A B=>⟨by simp[eqGuard],rfl⟩⟩
   | exact⟨_,_,h,.of_v (.v _),fun w A B=>⟨by simp[eqGuard],by simp[binOp,Op.intCmp]⟩⟩
 ·next i j =>
  have s:=B0 D;have c:=B0 E;subst s c;cases op<;>dsimp only at h<;>first
   | exact h.elim
   | (have F:=h.nn;have C:=h.next;exact⟨_,_,C,.of_v (.v _),fun w A B=>⟨by simp[eqGuard],by simp[binOp,Op.shift,Int.not_lt.2 F,IntKind.bits]⟩⟩)
 ·next i j =>
  have s:=B0 D;have c:=B0 E;subst s c;cases op<;>dsimp only at h<;>first
   | exact h.elim
   | exact⟨_,_,h,.of_v (.v _),fun w A B=>⟨by simp[eqGuard],by simp[binOp,Op.intCmp]⟩⟩
 ·next i j =>
  have s:=B0 D;have c:=B0 E;subst s c;cases op<;>dsimp only at h<;>first
   | exact h.elim
   | (have F:=h.nn;have C:=h.next;exact⟨_,_,C,.of_v (.v _),fun w A B=>⟨by simp[eqGuard],by simp[binOp,Op.shift,Int.not_lt.2 F,IntKind.bits]⟩⟩)
   | (have T:=EvDiv.ne h;have C:=EvDiv.next h;exact⟨_,_,C,.of_v (.v _),fun w A B=>⟨by simp[eqGuard],by simp[binOp,Op.intDiv,T]⟩⟩)
   | exact⟨_,_,h,.of_v (.v _),fun w A B=>⟨by simp[eqGuard],by first | rfl | simp[binOp,Op.intCmp,Op.intArith]⟩⟩
 ·next i q j =>
  have s:=B0 D;have c:=B0 E;subst s c;cases op<;>dsimp only at h<;>first
   | exact h.elim
   | (have F:=h.nn;have C:=h.next;exact⟨_,_,C,.of_v (.v _),fun w A B=>⟨by simp[eqGuard],by simp[binOp,Op.shift,Int.not_lt.2 F,IntKind.bits]⟩⟩)
 ·next i j =>
  have s:=B0 D;have c:=B0 E;subst s c;cases op<;>dsimp only at h<;>first
   | exact h.elim
   | (obtain⟨F,C⟩:=h;exact⟨_,_,C,.of_v (.v _),fun w A B=>⟨by simp[eqGuard],by simp[binOp,Op.stringOp,IntKind.max,IntKind.bits,IntKind.signed];omega⟩⟩)
   | exact⟨_,_,h,.of_v (.v _),fun w A B=>⟨by simp[eqGuard],by simp[binOp,Op.stringOp]⟩⟩
 ·next l m =>
  have key:∀{cs ds:List Value},Nl l cs→Nl m ds→x=.agg cs.toArray∧z=.agg ds.toArray:=fun {cs ds} J hd=>by
   have one:∀{l:List G} {cs:List Value} {x:Value},Nl l cs→TRep I V (.agg l) x→x=.agg cs.toArray:=fun {l cs x} J hx=>by
    cases(show VRep I (.agg l) x from hx) with
    | agg l us hl hh =>
     unfold Nl at J;subst J
     congr 2
     apply cp;intro j;by_cases X:j < cs.length
     ·have W:j < us.length:=by simpa [←hl] using X
      have:=hh j (.v cs[j]) us[j] (by simp[X]) (ab W);rw[ab X,ab W];generalize us[j]=u at this;cases this;rfl
     ·rw[b9 (by simp at hl;omega),b9 (by omega)]
   exact⟨one J D,one hd E⟩
  cases op<;>dsimp only at h<;>first
   | exact h.elim
   | (obtain⟨cs,ds,b,J,hd,hg,Z,O⟩:=h
      obtain⟨rfl,rfl⟩:=key J hd;exact⟨_,_,O,.of_v (.v _),fun w A B=>⟨run_eqGuard_agg _ _ _ _ _ _ _ hg,by first | (rw[run_eql_struct];rw[Z w];rfl) | (rw[run_neq_struct];rw[Z w];rfl)⟩⟩)
 ·next i j =>
  have s:=B0 D;have c:=B0 E;subst s c;cases op<;>dsimp only at h<;>first
   | exact h.elim
   | exact⟨_,_,h,.of_v (.v _),fun w A B=>⟨by simp[eqGuard],by simp[binOp,Op.intArith,Op.intCmp]⟩⟩
 ·next k o =>
  obtain⟨-,s⟩:=Ch D;have c:=B0 E;subst s c;exact Z4m hT h ⟨_,rfl⟩ ⟨_,rfl⟩ fun e M u=>(Ft M _ u).1
 ·next k o =>
  obtain⟨-,s⟩:=Ch E;have c:=B0 D;subst s c;exact Z4m hT h ⟨_,rfl⟩ ⟨_,rfl⟩ fun e M u=>(Ft M _ u).2
 ·have s:=B0 D;have c:=B0 E;subst s c;exact Z4m hT h ⟨_,rfl⟩ ⟨_,rfl⟩ fun e M u=>(Ft M _ u).1
 ·unfold Z6y at h;cases hl:look H tb with
  | none=>rw[hl] at h;exact h.elim
  | some i =>
   rw[hl] at h;dsimp only at h;have O:=(hT _ _ hl).kd;split at h
   ·next Y =>
    rw[Y] at O;obtain⟨a,h,rfl⟩:=Xb h D;obtain⟨b,h,rfl⟩:=Xb h E;split at h
    ·exact⟨_,_,h,.of_v (.v _),fun w A B=>⟨by simp[eqGuard],run_eql_bool w H a b O⟩⟩
    ·exact⟨_,_,h,.of_v (.v _),fun w A B=>⟨by simp[eqGuard],run_neq_bool w H a b O⟩⟩
    ·exact h.elim
   ·exact h.elim
theorem Zhx {p:G}{x:Value}{K1:G→Prop}(h:Zij p K1)(b:TRep I V p x):∃g v,K1 g∧TRep I V g v∧∀w:World,(Op.unary .not x).run P w=.ok v w:=by
 unfold Zij at h;split at h
 ·cases(show VRep I .tt x from b);exact⟨_,_,h,.of_v .ff,fun w=>by simp[Op.unary]⟩
 ·cases(show VRep I .ff x from b);exact⟨_,_,h,.of_v .tt,fun w=>by simp[Op.unary]⟩
 ·have e:=B0 b;subst e;exact⟨_,_,h,.of_v (.v _),fun w=>by simp[Op.unary]⟩
 ·exact h.elim
variable (hT:∀t i,look t tb=some i→TIok P t i) (hH:Has I V own w) (ha:ARep N I V a t)
include hH ha
theorem Zk4 {ty:TypeId}{x:Operand}(m:o.op=.unOp .not ty x)(h:ev t own x fun g=>Zij g fun g=>K (put o.dst g t) own V.n):QOk S P I V own w a t o K:=by obtain⟨g,c,j⟩:=B8 h ha hH;obtain⟨r,v,c,hr,b⟩:=Zhx (P:=P) c j;exact⟨_,_,c,hr,fun u _=>by simp only[execOp,m,Sem.run_bind,b,Result.andThen_ok,Sem.run_pure]⟩
theorem Z55 {x:Operand}{i:Nat}(q:o.op=.extract x i)(h:ev t own x fun g=>match g with
  | .tup l=>match nth l i with
   | some g=>K (put o.dst g t) own V.n
   | none=>False
  | _=>False):QOk S P I V own w a t o K:=by
 obtain⟨g,b,j⟩:=B8 h ha hH;cases g with
 | tup l =>
  obtain⟨cs,s,m⟩:=(show ∃cs:List Value,a.eval x=.tuple cs.toArray∧PW (TRep1 I V) l cs from j);dsimp only at b;rw[Er] at b;cases hl:l[i]? with
  | none=>rw[hl] at b;exact b.elim
  | some g' =>
   rw[hl] at b;obtain⟨v,p,c⟩:=m.get hl;exact⟨_,_,b,.of_1 c,fun u _=>by simp[execOp,q,s,Instr.extract,p]⟩
 | _=>exact b.elim
include hT
theorem To {ty:TypeId}{x i:Operand}(ho:o.op=.indexAddr ty x i)(h:ev t own x fun g=>ev t own i fun q=>match q,look ty tb with
  | .v (.int .i64 j),some ⟨_,_,some (_,sz),_,_,_,_⟩=>match g with
   | .sl rows=>EvIdx rows j fun row=>match Nat.beq row.length sz with
    | true=>K (put o.dst (.elp row 0) t) own V.n
    | false=>False
   | .osl k=>match look k own with
    | some (.slc rows _ sz')=>match Nat.beq sz' sz with
     | true=>(0≤j∧j < rows.length)∧K (put o.dst (.oel k j.toNat sz 0) t) own V.n
     | false=>False
    | some (.vw rows _ sz')=>match Nat.beq sz' sz with
     | true=>(0≤j∧j < rows.length)∧K (put o.dst (.oel k j.toNat sz 0) t) own V.n
     | false=>False
    | _=>False
   | .osv k E lo hi=>match look k own with
    | some (.slc _ _ sz')=>match Nat.beq sz' sz,Nat.beq E sz with
     | true,true=>(0≤j∧j < (hi - lo:Nat))∧K (put o.dst (.oel k (lo+j.toNat) sz 0) t) own V.n
     | _,_=>False
    | _=>False
   | .orv k 0 0 off len _=>(0≤j∧j < len)∧K (put o.dst (.ptr k (Nat.add off (Nat.mul j.toNat sz))) t) own V.n
   | _=>False
  | .v (.int .i64 j),some ⟨_,_,none,_,_,_,.arr m _ sz⟩=>match g with
   | .ptr k off=>(0≤j∧j < m)∧K (put o.dst (.ptr k (Nat.add off (Nat.mul j.toNat sz))) t) own V.n
   | .elp row off=>(0≤j∧j < m)∧K (put o.dst (.elp row (Nat.add off (Nat.mul j.toNat sz))) t) own V.n
   | _=>False
  | _,_=>False):QOk S P I V own w a t o K:=by
 obtain⟨g,hk1,T⟩:=B8 h ha hH;obtain⟨q,p,hq⟩:=B8 hk1 ha hH;clear h hk1;split at p
 ·next j ag ze e sz fl st ik kd hl =>
  have hi:=hT _ _ hl;obtain⟨hu,i',z,h1,h2,h3,-⟩:=hi.elem e sz rfl;have J:∀w,(sizeOf e).run P w=.ok sz w:=Bx (by rw[h1];simp[h3]);have e2:=B0 hq;have run:∀A n c,a.eval x=.slice (some A) n c→0≤j∧j < n→∀u,(execOp a.eval o).run P u=.ok (.value (.pointer (some (A.add (j.toNat * sz))))) u:=fun A n c D hj u=>by simp only[execOp,ho,Instr.indexAt,Sem.run_bind,D,e2,asIntOf,Sem.run_pure,Result.andThen_ok,run_underlying hu,hj,and_self,if_true,J]
  split at p
  ·next rows =>
   obtain⟨⟨W,Y⟩,hk0⟩:=p;have M:j.toNat < rows.length:=by omega
   have p:=hk0 _ (ab M);clear hk0;have hx:=(show VRep I (.sl rows) (a.eval x) from T);generalize hax:a.eval x=X at hx;cases hx with
   | sl _ A c E u hc hA hz hh huu =>
    split at p
    ·next B =>
     have B:=ai B;obtain⟨b,q0,rfl,hI⟩:=hh j.toNat _ (ab M);have hs:E=sz:=(hz _ (bm M)).symm.trans B;subst hs;refine⟨_,_,p,(.of_1 (g:=.elp _ 0) ⟨b,q0+j.toNat * E,by rw[Cp];rfl,fun m g hm=>⟨u j.toNat m,hI m (by have:=(ac.1 hm).1;omega),huu j.toNat _ m g (ab M) hm⟩⟩),fun u _=>run _ _ _ hax ⟨W,Y⟩ u⟩
    ·exact p.elim
  ·next k =>
   cases hr:look k own with
   | none=>rw[hr] at p;exact p.elim
   | some r =>
    rw[hr] at p;cases r with
    | slc rows e' sz' =>
     dsimp only at p;split at p
     ·next B =>
      have B:=ai B;subst B;obtain⟨⟨W,Y⟩,p⟩:=p;obtain⟨C,D⟩:=(show k < V.n∧a.eval x=V.s k from T);obtain⟨-,rs,⟨-,h6⟩,-⟩:=hH.each k _ hr;rcases h6 with⟨-,F⟩ | ⟨b,cap,cur,F,-⟩
      ·omega
      ·exact⟨_,_,p,(.of_1 (g:=.oel k j.toNat sz' 0) ⟨C,b,0,_,cap,F,by rw[Cp];simp⟩),fun u _=>run _ _ _ (D.trans F) ⟨W,Y⟩ u⟩
     ·exact p.elim
    | vw rows e' sz' =>
     dsimp only at p;split at p
     ·next B =>
      have B:=ai B;subst B;obtain⟨⟨W,Y⟩,p⟩:=p;obtain⟨C,D⟩:=(show k < V.n∧a.eval x=V.s k from T);obtain⟨-,rs,⟨-,h6⟩,-⟩:=hH.each k _ hr;rcases h6 with⟨-,F⟩ | ⟨b,q,cap,cur,F,-⟩
      ·omega
      ·exact⟨_,_,p,(.of_1 (g:=.oel k j.toNat sz' 0) ⟨C,b,q,_,cap,F,by rw[Cp];simp⟩),fun u _=>run _ _ _ (D.trans F) ⟨W,Y⟩ u⟩
     ·exact p.elim
    | _=>exact p.elim
  ·next k E lo top =>
   cases hr:look k own with
   | none=>rw[hr] at p;exact p.elim
   | some r =>
    rw[hr] at p;cases r with
    | slc rows e' sz' =>
     dsimp only at p;split at p
     ·next B O =>
      have B:=ai B;have O:=ai O;subst B O;obtain⟨⟨W,Y⟩,p⟩:=p;obtain⟨C,⟨hl1,H⟩,D⟩:=(show k < V.n∧(lo≤top∧top≤Nb (V.s k))∧a.eval x=Hz _ (V.s k) lo top from T);obtain⟨-,rs,⟨-,h6⟩,-⟩:=hH.each k _ hr;rcases h6 with⟨F,h8⟩ | ⟨b,cap,cur,F,-,-,h9,-⟩
      ·rw[F] at H;have H:top≤0:=H;omega
      ·have H:top≤rows.length:=by rw[F] at H;exact H
       have e3:a.eval x=.slice (some ((⟨b,0,none⟩:Addr).add (lo * E))) (top - lo) (cap - lo):=by rw[D,F];unfold Hz;dsimp only;rw[db (by omega)];rfl
       refine⟨_,_,p,(.of_1 (g:=.oel k (lo+j.toNat) E 0) ⟨C,b,0,_,cap,F,?_⟩),fun u _=>run _ _ _ e3 ⟨W,Y⟩ u⟩;rw[Cp,Cp,Nat.add_mul];simp
     ·exact p.elim
    | _=>exact p.elim
  ·next k off len cap =>
   obtain⟨hj,p⟩:=p;obtain⟨C,b,q,B,D⟩:=(show TRep1 I V (.orv k 0 0 off len cap) (a.eval x) from T);obtain⟨B,hq0⟩:=(show b=V.b k∧q=0 from B);subst B hq0;have D:a.eval x=.slice (some ⟨V.b k,off,none⟩) len cap:=by rw[D];simp
   exact⟨_,_,p,⟨C,rfl⟩,fun u _=>by rw[run _ _ _ D hj u,Cp];rfl⟩
  ·exact p.elim
 ·next j ag ze st fl ik m e sz hl =>
  obtain⟨hu,J⟩:=(hT _ _ hl).kd;have J:∀w,(sizeOf e).run P w=.ok sz w:=Bx J;have e2:=B0 hq;have run:∀A,a.eval x=.pointer (some A)→0≤j∧j < m→∀u,(execOp a.eval o).run P u=.ok (.value (.pointer (some (A.add (j.toNat * sz))))) u:=fun A D hj u=>by simp only[execOp,ho,Instr.indexAt,Instr.sureAddr,Sem.run_bind,D,e2,asIntOf,Sem.run_pure,Result.andThen_ok,run_underlying hu,hj,and_self,if_true,J]
  split at p
  ·obtain⟨h1,p⟩:=p;obtain⟨C,D⟩:=Ch T;exact⟨_,_,p,⟨C,rfl⟩,fun u _=>by rw[run _ D h1 u,Cp];rfl⟩
  ·obtain⟨h1,p⟩:=p;obtain⟨b,q,D,Z⟩:=Pq T;exact⟨_,_,p,⟨b,q,rfl,Z⟩,fun u _=>by rw[run _ D h1 u,Cp,cv];rfl⟩
  ·exact p.elim
 ·exact p.elim
theorem Ze2 {ty:TypeId}{x i:Operand}(M:o.op=.index ty x i)(h:match look ty tb with
  | some ⟨_,_,_,_,true,_,_⟩=>ev t own x fun g=>ev t own i fun q=>match q,g with
   | .v (.int .i64 j),.v (.string s)=>EvIdx s.data.toList j fun c=>K (put o.dst (.v (.int .u8 c.toNat)) t) own V.n
   | _,_=>False
  | some ⟨_,_,none,_,false,_,.arr m e sz⟩=>ev t own x fun g=>Zhu g fun cs=>ev t own i fun q=>match q,look e tb with
   | .v (.int .i64 j),some p=>(0≤j∧j < m)∧match p.agg with
    | true=>seg cs (Nat.mul j.toNat sz) p.zero.length fun l=>Jt p.zero.length l fun g=>K (put o.dst g t) own V.n
    | false=>match nth cs (Nat.mul j.toNat sz) with
     | some g=>K (put o.dst g t) own V.n
     | none=>False
   | _,_=>False
  | _=>False):QOk S P I V own w a t o K:=by
 split at h
 case h_3=>exact h.elim
 case h_2 m e sz hl =>
  obtain⟨Y,z⟩:=(hT _ _ hl).kd;have z:∀w,(sizeOf e).run P w=.ok sz w:=Bx z;obtain⟨g,hk1,D⟩:=B8 h ha hH;obtain⟨l,cs,hk1,he,J⟩:=Zap hk1 D;obtain⟨q,b,H⟩:=B8 hk1 ha hH;split at b
  ·next j p E =>
   have B:=B0 H;obtain⟨W,b⟩:=b;have hi:=hT _ _ E;have run:∀{v:Value} {u:World},(part e cs.toArray (j.toNat * sz)).run P u=.ok v u→(execOp a.eval o).run P u=.ok (.value v) u:=fun hr=>by simp only[execOp,M,Instr.index,Sem.run_bind,he,B,asIntOf,Sem.run_pure,Result.andThen_ok,run_underlying Y,W,and_self,if_true,z,hr]
   have b:match p.agg with
    | true=>seg l (j.toNat * sz) p.zero.length fun l=>Jt p.zero.length l fun g=>K (put o.dst g t) own V.n
    | false=>match nth l (j.toNat * sz) with
     | some g=>K (put o.dst g t) own V.n
     | none=>False:=b
   cases hb:p.agg with
   | true =>
    rw[hb] at b;obtain⟨l',X,k2,-⟩:=Mg b J;obtain⟨g',k3,k4⟩:=Jl X k2;exact⟨_,_,k3,k4,fun u _=>run (by rw[Ly hi,hb];rfl)⟩
   | false =>
    rw[hb,Er] at b;dsimp only at b;cases hc:l[j.toNat * sz]? with
    | none=>rw[hc] at b;exact b.elim
    | some g' =>
     rw[hc] at b;obtain⟨v,hv,F⟩:=J.get hc;exact⟨_,_,b,.of_c F,fun u _=>run (by rw[Ly hi,hb,hv];rfl)⟩
  ·exact b.elim
 rename_i hl
 have C:=(hT _ _ hl).str rfl;obtain⟨g,hk1,D⟩:=B8 h ha hH;obtain⟨q,b,H⟩:=B8 hk1 ha hH;clear h hk1;split at b
 ·next j s =>
  have T:=B0 D;have B:=B0 H;obtain⟨⟨O,h2⟩,b⟩:=b;have A:j.toNat < s.data.toList.length:=by omega
  have b:=b _ (ab A);have e3:s[j.toNat]?=some (s.data.toList[j.toNat]):=by
   have Z:j.toNat < s.size:=by simpa using A
   rw[getElem?_pos s j.toNat Z];rfl
  exact⟨_,_,b,.of_v (.v _),fun u _=>by simp only[execOp,M,Instr.index,Sem.run_bind,T,B,asIntOf,Sem.run_pure,Result.andThen_ok,run_underlying C,O,if_true,e3]⟩
 ·exact b.elim
end
section
variable {P:Program} {tb:List (Nat × TI)} {N n:Nat} {I I' I0:Imm} {V V' V0:Va} {a:Act} {t:Ts} {own own' own0:Os} {w w' w0:World} {g:G} {x y:Value} {d:Option Tmp}
variable {K:Ts→Os→Nat→Prop} {next:Act→World→Prop} {Q:Exit→Act→World→Prop} {o:Oper}
theorem F0 (h:Has I V own w){k e sz:Nat}{rows:List (List G)}(F:look k own=some (.slc rows e sz)):∃I',Later own I V w ((k,.froz rows sz)::own) I' (V.drop k) w∧VRep I' (.sl rows) (V.s k)∧∀r∈rows,r.length=sz:=by
 obtain⟨hf,rs,⟨h0,W⟩,Y,J,M,h5,h6⟩:=h.each k _ F;have q:∀r∈rows,r.length=sz:=fun r hr=>by
  obtain⟨i,hi,e⟩:=cg.1 hr;have A:i < rs.length:=by omega
  have T:=J i r rs[i] (by rw[ab hi,e]) (ab A);rw[T.1];exact M _ (bm A)
 rcases W with⟨E,hr0⟩ | ⟨g,cap,cur,E,-,hg,hn,hm,hc,ht⟩
 ·have hr:rows=[]:=am hr0;subst hr;have D:VRep I (.sl []) (V.s k):=by
   rw[E];exact .sl [] none 0 sz (fun _ _=>undef) (af _) (fun _=>rfl) (by simp) (fun i r h=>by simp at h) (fun i r j g h=>by simp at h)
  exact⟨I,G4 h F (.refl _) h.mem (fun _ _ _=>rfl) ⟨fun b=>by simp[Va.drop],D,q⟩,D,q⟩
 ·have C:V.f k g:=(hf g).2 (by rw[E];rfl);have H:=(h.foot k _ g F C).2;let I':Imm:=fun b o=>if b=g then(if o < rs.flatten.length then rs.flatten[o]? else none) else I b o;have B:I.le I':=fun b o x c=>by
   show(if b=g then _ else I b o)=_;rw[db (fun e=>by rw[e,H o] at c;cases c)];exact c
  have Z:∀m x,rs.flatten[m]?=some x→I' g (0+m)=some x:=fun m x c=>by show(if g=g then _ else _)=_;rw[dc rfl,cb,dc (ac.1 c).1,c]
  have z:Mem I' w:=fun b o x c=>by
   change (if b=g then _ else I b o)=_ at c
   split at c
   ·next e =>
    subst e;split at c
    ·rw[cell_of_row w b o cur e (0,0) hg];have p:=c;rw[←ht,bj] at p;split at p
     ·simpa using p
     ·cases p
    ·cases c
   ·exact h.mem b o x c
  have D:VRep I' (.sl rows) (V.s k):=by rw[E];exact Yz Y hn (fun i r u hr X=>(J i r u hr X).mono fun _ _ h=>h.mono B) M Z
  refine⟨I',G4 h F B z (fun b o O=>?_) ⟨fun b=>by simp[Va.drop],D,q⟩,D,q⟩;show(if b=g then _ else I b o)=_;rw[db (fun e=>O (by rw[e];exact C))]
theorem Y8 {l:List (List G)}{sz lo hi:Nat}(h:VRep I (.sl l) x)(s:∀r∈l,r.length=sz)(H:lo≤hi)(B:hi≤l.length):VRep I (.sl (Es l lo hi)) (Hz sz x lo hi):=by
 cases h with
 | sl l A c sz0 u hc hA hz0 h hu =>
  have p:(Es l lo hi).length=hi - lo:=by unfold Es;rw[bc,aw,cf B]
  have m:∀i r,(Es l lo hi)[i]?=some r→lo+i < hi∧l[lo+i]?=some r:=fun i r hr=>by have q:=(ac.1 hr).1;rw[p] at q;unfold Es at hr;rw[bw,bj,dc (by omega)] at hr;exact⟨by omega,hr⟩
  have key:=VRep.sl (I:=I) (Es l lo hi) (if c=lo then A else A.map (·.add (lo * sz))) (c - lo) sz (fun i j=>u (lo+i) j) (by rw[p];omega) (fun e=>?_) (fun r hr=>?_) (fun i r hr=>?_) (fun i r j g hr C=>?_)
  ·rw[p] at key;exact key
  ·split at e
   ·next J=>omega
   ·cases A with
    | none=>rw[hA rfl];omega
    | some a=>cases e
  ·obtain⟨i,q,e⟩:=cg.1 hr;have:=(m i r (by rw[ab q,e])).2;exact s r (ae this)
  ·obtain⟨D,hr⟩:=m i r hr;obtain⟨b,o,e,E⟩:=h _ _ hr;have F:sz0=sz:=(hz0 r (ae hr)).symm.trans (s r (ae hr));subst F;rw[db (by omega),e];exact⟨b,o+lo * sz0,by simp[Cp],fun j z=>by rw[←E j z,Nat.add_mul];congr 1;omega⟩
  ·exact hu _ r j g (m i r hr).2 C
theorem E7 {K1:G→Os→Prop}(h:Zas own g K1)(m:CRep I V g y)(hH:Has I V own w):∃C own' I' V',K1 C own'∧(V'.n=V.n∧V.kp V')∧Later own I V w own' I' V' w∧VRep I' C y:=by
 cases g with
 | osl k =>
  unfold Zas at h;dsimp only at h;obtain⟨E,rfl⟩:=m;split at h
  ·next rows e sz hr =>
   obtain⟨I',u,c,-⟩:=F0 hH hr;exact⟨_,_,I',V.drop k,h,⟨rfl,.drop _ _⟩,u,c⟩
  ·next rows sz hr=>exact⟨_,_,I,V,h,⟨rfl,.refl _⟩,.refl hH,(hH.each k _ hr).2.1⟩
  ·exact h.elim
 | osv k sz lo hi =>
  unfold Zas at h;dsimp only at h;obtain⟨E,⟨q,D⟩,rfl⟩:=(show k < V.n∧(lo≤hi∧hi≤Nb (V.s k))∧y=Hz sz (V.s k) lo hi from m);split at h
  ·next rows e B hr =>
   split at h
   ·next p =>
    have p:=ai p;subst p;obtain⟨I',u,c,A⟩:=F0 hH hr;have F:Nb (V.s k)=rows.length:=by generalize V.s k=z at c;cases c;rfl
    exact⟨_,_,I',V.drop k,h,⟨rfl,.drop _ _⟩,u,Y8 c A q (by omega)⟩
   ·exact h.elim
  ·next rows B hr =>
   split at h
   ·next p =>
    have p:=ai p;subst p;obtain⟨-,c,A⟩:=hH.each k _ hr;have F:Nb (V.s k)=rows.length:=by generalize V.s k=z at c;cases c;rfl
    exact⟨_,_,I,V,h,⟨rfl,.refl _⟩,.refl hH,Y8 c A q (by omega)⟩
   ·exact h.elim
  ·exact h.elim
 | v x=>exact⟨_,_,I,V,h,⟨rfl,.refl _⟩,.refl hH,m⟩
 | tt=>cases(show VRep I .tt y from m);exact⟨_,_,I,V,h,⟨rfl,.refl _⟩,.refl hH,.v _⟩
 | ff=>cases(show VRep I .ff y from m);exact⟨_,_,I,V,h,⟨rfl,.refl _⟩,.refl hH,.v _⟩
 | un=>exact⟨_,_,I,V,h,⟨rfl,.refl _⟩,.refl hH,m⟩
 | nl =>
  cases(show VRep I .nl y from m);exact⟨_,_,I,V,h,⟨rfl,.refl _⟩,.refl hH,.sl [] none 0 0 (fun _ _=>undef) (af _) (fun _=>rfl) (by simp) (fun i r h=>by simp at h) (fun i r j g h=>by simp at h)⟩
 | agg l=>exact⟨_,_,I,V,h,⟨rfl,.refl _⟩,.refl hH,m⟩
 | sl l=>exact⟨_,_,I,V,h,⟨rfl,.refl _⟩,.refl hH,m⟩
 | ptr k off =>
  obtain⟨b,i,u,c⟩:=Pu (show Ze1 k own own (fun b=>K1 (.v (.pointer (some ⟨b,off,none⟩))) own) from h);obtain⟨-,-,e⟩:=hH.each i _ u;obtain⟨-,rfl⟩:=m;exact⟨_,_,I,V,c,⟨rfl,.refl _⟩,.refl hH,by rw[e];exact .v _⟩
 | _=>exact h.elim
theorem Oo:∀{l:List G} {own:Os} {I:Imm} {V:Va} {cs:List Value} {K1:List G→Os→Prop},Zee l own K1→PW (CRep I V) l cs→Has I V own w→∃p own' I' V',K1 p own'∧(V'.n=V.n∧V.kp V')∧Later own I V w own' I' V' w∧PW (VRep I') p cs
 | [],own,I,V,cs,K1,h,hp,hH=>⟨[],own,I,V,h,⟨rfl,.refl _⟩,.refl hH,by rw[hp.of_nil];exact .nil⟩
 | g::l,own,I,V,cs,K1,h,hp,hH=>by obtain⟨x,B,rfl,E,H⟩:=hp.uncons;obtain⟨z,J,O,T,C,c,b,u⟩:=E7 (K1:=fun z D=>Zee l D fun p s=>K1 (z::p) s) h E hH;obtain⟨p,M,A,V2,F,m,j,q⟩:=Oo C (H.mono fun _ _ h=>h.mono b.fro.mono b.va) b.has;exact⟨_,_,A,V2,F,⟨m.1.trans c.1,c.2.trans (Nat.le_of_eq c.1.symm) m.2⟩,b.trans j,.cons (u.mono j.fro.mono) q⟩
theorem Z9m {K1:G→Os→Prop}(h:pur own g K1)(b:TRep I V g y)(hH:Has I V own w):∃q own' I' V',K1 q own'∧(V'.n=V.n∧V.kp V')∧Later own I V w own' I' V' w∧VRep I' q y:=by
 cases g with
 | oag l =>
  obtain⟨cs,rfl,u⟩:=(show ∃cs:List Value,y=.agg cs.toArray∧PW (CRep I V) l cs from b);obtain⟨p,B,s,V2,A,m,j,c⟩:=Oo (K1:=fun p z=>K1 (.agg p) z) h u hH;exact⟨_,_,s,V2,A,m,j,Zkd c⟩
 | v x=>exact E7 (g:=.v x) h b hH
 | tt=>exact E7 (g:=.tt) h b hH
 | ff=>exact E7 (g:=.ff) h b hH
 | un=>exact E7 (g:=.un) h b hH
 | nl=>exact E7 (g:=.nl) h b hH
 | agg l=>exact E7 (g:=.agg l) h b hH
 | sl l=>exact E7 (g:=.sl l) h b hH
 | osl k=>exact E7 (g:=.osl k) h b hH
 | osv k sz lo hi=>exact E7 (g:=.osv k sz lo hi) h b hH
 | ptr k off=>exact E7 (g:=.ptr k off) h b hH
 | _=>exact False.elim h
theorem PRep.of_v (h:VRep I g y):PRep I V g y:=by
 cases g with
 | ptr k o=>cases h
 | osl k=>cases h
 | osv k a b c=>cases h
 | oel k a b c=>cases h
 | mp k=>cases h
 | clo f a c=>cases h
 | oag l=>cases h
 | _=>exact h
theorem PRep.to_t (h:PRep I V g y):TRep I V g y:=by
 cases g with
 | ptr k o=>exact .of_c (g:=.ptr k o) h
 | osl k=>exact .of_c (g:=.osl k) h
 | osv k a b c=>exact .of_c (g:=.osv k a b c) h
 | oel k a b c=>exact .of_1 (g:=.oel k a b c) h
 | mp k=>exact .of_c (g:=.mp k) h
 | clo f a c=>exact .of_1 (g:=.clo f a c) h
 | v x=>exact .of_v (g:=.v x) h
 | tt=>exact .of_v (g:=.tt) h
 | ff=>exact .of_v (g:=.ff) h
 | un=>exact .of_v (g:=.un) h
 | nl=>exact .of_v (g:=.nl) h
 | agg l=>exact .of_v (g:=.agg l) h
 | sl l=>exact .of_v (g:=.sl l) h
 | oag l=>exact .of_1 (g:=.oag l) h.2
 | tup l=>cases(show VRep I (.tup l) y from h)
 | elp l o=>cases(show VRep I (.elp l o) y from h)
 | orv a b c d e f=>cases(show VRep I (.orv a b c d e f) y from h)
theorem PRep.to_1 (h:PRep I V g y):TRep1 I V g y:=by
 cases g with
 | tup l=>cases(show VRep I (.tup l) y from h)
 | _=>exact(PRep.to_t h)
theorem PRe1.to_1 (h:PRe1 I V g y):TRep1 I V g y:=by
 cases g with
 | oag l=>exact h
 | _=>exact PRep.to_1 (show PRep I V _ y from h)
theorem PRe1.of_p (h:PRep I V g y):PRe1 I V g y:=by
 cases g with
 | oag l=>exact h.2
 | _=>exact h
theorem PRe1.of_v (h:VRep I g y):PRe1 I V g y:=.of_p (.of_v h)
theorem PRes.to_t (h:PRes I V g y):TRep I V g y:=by
 cases g with
 | tup l=>obtain⟨cs,e,b⟩:=h;exact⟨cs,e,b.mono fun _ _ h=>h.to_1⟩
 | oag l=>exact .of_1 (g:=.oag l) h
 | _=>exact PRep.to_t (show PRep I V _ y from h)
theorem PRep.mono (h:PRep I V g y)(j:I.le I')(m:V.le V'):PRep I' V' g y:=by
 cases g with
 | ptr k o=>exact CRep.mono (g:=.ptr k o) h j m
 | osl k=>exact CRep.mono (g:=.osl k) h j m
 | osv k a b c=>exact CRep.mono (g:=.osv k a b c) h j m
 | oel k a b c=>exact TRep1.mono (g:=.oel k a b c) h j m
 | mp k=>exact CRep.mono (g:=.mp k) h j m
 | clo f a c=>exact TRep1.mono (g:=.clo f a c) h j m
 | oag l=>exact⟨h.1,TRep1.mono (g:=.oag l) h.2 j m⟩
 | _=>exact VRep.mono h j
theorem PRe1.mono (h:PRe1 I V g y)(c:I.le I')(b:V.le V'):PRe1 I' V' g y:=by
 cases g with
 | oag l=>exact TRep1.mono (g:=.oag l) h c b
 | _=>exact .of_p (PRep.mono (show PRep I V _ y from h) c b)
theorem Z4w {K1:G→Os→Prop}(h:Zhe own g K1)(j:TRep I V g y)(hH:Has I V own w):∃b own' I' V',K1 b own'∧(V'.n=V.n∧V.kp V')∧Later own I V w own' I' V' w∧PRep I' V' b y:=by
 have key:pur own g K1→∃b own' I' V',K1 b own'∧(V'.n=V.n∧V.kp V')∧Later own I V w own' I' V' w∧PRep I' V' b y:=fun h=>by obtain⟨b,m,z,A,p,s,q,u⟩:=Z9m h j hH;exact⟨b,m,z,A,p,s,q,.of_v u⟩
 cases g with
 | ptr k o=>exact⟨_,_,I,V,h,⟨rfl,.refl _⟩,.refl hH,j⟩
 | clo f a c=>exact⟨_,_,I,V,h,⟨rfl,.refl _⟩,.refl hH,j⟩
 | _=>exact key h
theorem Z0j:∀{l:List G} {own:Os} {I:Imm} {V:Va} {cs:List Value} {K1:List G→Os→Prop},Zil l own K1→PW (TRep I V) l cs→Has I V own w→∃p own' I' V',K1 p own'∧(V'.n=V.n∧V.kp V')∧Later own I V w own' I' V' w∧PW (PRep I' V') p cs
 | [],own,I,V,cs,K1,h,hp,hH=>⟨[],own,I,V,h,⟨rfl,.refl _⟩,.refl hH,by rw[hp.of_nil];exact .nil⟩
 | g::l,own,I,V,cs,K1,h,hp,hH=>by obtain⟨x,B,rfl,E,H⟩:=hp.uncons;obtain⟨z,J,O,T,C,j,b,u⟩:=Z4w (K1:=fun z D=>Zil l D fun p s=>K1 (z::p) s) h E hH;obtain⟨p,M,A,V2,F,m,c,q⟩:=Z0j C (H.mono fun _ _ h=>h.mono b.fro.mono b.va) b.has;exact⟨_,_,A,V2,F,⟨m.1.trans j.1,j.2.trans (Nat.le_of_eq j.1.symm) m.2⟩,b.trans c,.cons (u.mono c.fro.mono c.va) q⟩
theorem G6 (h:Has I V own w)(u:Mem I' w')(p:I.le I')(q:∀b o,b < w.heap.size→I' b o=I b o)(c:Below w.heap.size w w'):Later own I V w own I' V w' :=
 ⟨⟨u,h.num,fun k r m=>(h.each k r m).keep p (.refl _) (h.num k r m) rfl c.os c.size fun b j=>c.block b (h.foot k r b m j).1,fun k r b m j=>by obtain⟨s,z⟩:=h.foot k r b m j;exact⟨aq s c.size,fun o=>(q b o s).trans (z o)⟩,h.disj⟩,⟨c.os,c.tape,c.output,c.size,fun b j _=>⟨c.block b j,fun o=>q b o j⟩,p,fun k r b m j _=>⟨k,r,m,j⟩⟩,.refl _⟩
end
theorem df:type_of%@EvIf.beq:=@EvIf.beq
theorem dg:type_of%@EvIf.dec:=@EvIf.dec
theorem dh:type_of%@EvCall.gh:=@EvCall.gh
theorem di:type_of%@EvCall.lend:=@EvCall.lend
theorem dj:type_of%@EvIf.bne:=@EvIf.bne
theorem dk:type_of%@EvIf.mk:=@EvIf.mk
theorem dl:type_of%@EvIdx.at:=@EvIdx.at
theorem dm:type_of%@EvIdx.atI:=@EvIdx.atI
theorem dn:type_of%@EvSet.at:=@EvSet.at
theorem dp:type_of%@EvIdx.of:=@EvIdx.of
end Go.Proofs.YtihfaocdpmmooaaGreat
