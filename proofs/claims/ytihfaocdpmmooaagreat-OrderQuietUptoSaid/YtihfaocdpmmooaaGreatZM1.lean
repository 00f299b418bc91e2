
import Derived.Test.YtihfaocdpmmooaaGreatZKeys
import Derived.Lib.SplitLaws
import Derived.Laws.RangeAny
import Derived.Test.YtihfaocdpmmooaaGreatZMap
import Derived.Sort.Walk0
namespace Go.Proofs.YtihfaocdpmmooaaGreat
open Go.RowKit
def W5:ByteArray:=⟨#[47]⟩
def Zgh:ByteArray:=⟨#[46]⟩
def Zgk:ByteArray:=⟨#[46,46]⟩
def noS:ByteArray:=⟨#[]⟩
def Zgn (n:Int):Bool:=decide (97≤n∧n≤122∨65≤n∧n≤90∨48≤n∧n≤57∨n=46∨n=45∨n=95)
def Zgl (c:UInt8):Bool:=Zgn c.toNat
def Zb9 (s:ByteArray):Bool:=s.data.toList.all Zgl&&decide (1≤s.size∧s.size≤60∧s≠Zgh∧s≠Zgk)
def spl (p:List ByteArray × List UInt8)(c:UInt8):List ByteArray × List UInt8:=if c=47 then(p.1++[⟨p.2.toArray⟩],[]) else(p.1,p.2++[c])
def Zw (l:List UInt8):List ByteArray × List UInt8:=l.foldl spl ([],[])
def Me (l:List UInt8):List ByteArray:=(Zw l).1++[⟨(Zw l).2.toArray⟩]
def Z16 (s:ByteArray):List ByteArray:=match s.data.toList with
 | 47::r=>if(Me r).all Zb9=true then Me r else []
 | _=>[]
def Z5s (s:ByteArray):Option (List ByteArray):=if s=W5 then some [] else if Z16 s≠[]∧(Z16 s).length≤8 then some (Z16 s) else none
def Z69 (s:ByteArray):Bool:=(Z5s s).isSome
def nmZ (s:ByteArray):List ByteArray:=(Z5s s).getD []
def Zbd (s:ByteArray):ByteArray:=((nmZ s).getLast?).getD noS
def Nx (l:List ByteArray):ByteArray:=l.foldl (fun a x=>a++W5++x) noS
def Zfc (l:List ByteArray):ByteArray:=if l=[] then W5 else Nx l
def On (s:ByteArray):ByteArray × Bool:=if nmZ s=[] then(noS,false) else(Zfc (nmZ s).dropLast,true)
theorem Z1s (l:List UInt8)(c:UInt8):Zw (l++[c])=spl (Zw l) c:=by unfold Zw;rw[List.foldl_append];rfl
theorem Z89 (l:List UInt8):(⟨l.toArray⟩:ByteArray).data.toList=l:=by simp
theorem Z42 {a b:ByteArray}(h:a.data.toList=b.data.toList):a=b:=by
 cases a;cases b
 congr
 simpa using congrArg List.toArray h
theorem Z6k (a b:ByteArray):(a++b).data.toList=a.data.toList++b.data.toList:=by simp
theorem Z0k (l:List ByteArray)(x:ByteArray):Nx (l++[x])=Nx l++W5++x:=by unfold Nx;rw[List.foldl_append];rfl
theorem Zc (r:List UInt8):(Nx (Zw r).1).data.toList++47::(Zw r).2=47::r:=by
 induction h:r.length generalizing r with
 | zero=>rw[List.eq_nil_of_length_eq_zero h];rfl
 | succ n ih =>
  have hne:r≠[]:=fun e=>by rw[e] at h;cases h
  have e:=(List.dropLast_concat_getLast hne).symm
  have hih:=ih r.dropLast (by simp[h])
  rw[e,Z1s]
  revert hih
  generalize Zw r.dropLast=p
  intro hih
  unfold spl
  split
  ·next hc =>
   rw[Z0k,Z6k,Z6k,Z89]
   show(Nx p.1).data.toList++[47]++p.2++[47]=_
   rw[List.append_assoc (Nx p.1).data.toList,List.singleton_append,hih,hc];rfl
  ·show(Nx p.1).data.toList++47::(p.2++[_])=_
   rw[←List.cons_append,←List.append_assoc,hih];rfl
end Go.Proofs.YtihfaocdpmmooaaGreat
namespace Go.Proofs.YtihfaocdpmmooaaGreat
open Go.RowKit
def ltS (a b:ByteArray):Bool:=Op.bytesLess a.toList b.toList
theorem J3 (a b:ByteArray):ltS a b=true↔a.data.toList < b.data.toList:=by
 unfold ltS
 rw[Go.Proofs.bytesLess_eq,Lib.toList_data,Lib.toList_data]
 simp
theorem X6 (a:ByteArray):ltS a a=false:=by
 cases h:ltS a a with
 | false=>rfl
 | true=>exact absurd ((J3 a a).1 h) (List.lt_irrefl _)
theorem Z0i {a b c:ByteArray}(h1:ltS a b=true)(h2:ltS b c=true):ltS a c=true :=
 (J3 a c).2 (List.lt_trans ((J3 a b).1 h1) ((J3 b c).1 h2))
theorem Pb {a b:ByteArray}(h1:ltS a b=false)(h2:a≠b):ltS b a=true:=by
 refine(J3 b a).2 ?_
 have h1:¬a.data.toList < b.data.toList:=fun h=>by rw[(J3 a b).2 h] at h1;cases h1
 rcases Classical.em (b.data.toList < a.data.toList) with h | h
 ·exact h
 ·exact absurd (Z42 (List.le_antisymm (List.not_lt.1 h) (List.not_lt.1 h1))) h2
theorem Tx {a b:ByteArray}(h:ltS a b=true):a≠b:=fun e=>by rw[e,X6] at h;cases h
structure RZ where
 path:ByteArray
 data:ByteArray
 cr:Int
 ch:Int
 ci:Int
 ve:Int
 ki:Int
 ow:Int
 nx:Int
structure RC where
 kind:Int
 path:ByteArray
 data:ByteArray
 ve:Int
 ep:Bool
 sq:Bool
def Zen (T:List RZ)(p:ByteArray):Option RZ:=T.find? fun z=>decide (z.path=p)
def R1:List RZ→RZ→List RZ
 | [],z=>[z]
 | x::l,z=>if ltS x.path z.path=true then x::R1 l z else z::(x::l).filter fun y=>decide (y.path≠z.path)
def big:Int:=4611686018427387904
def inZ (n:Int):Bool:=decide (0≤n∧n≤big)
def upZ (n:Int):Int:=if n=big then n else n+1
abbrev Srt (T:List RZ):Prop:=T.Pairwise fun a b=>ltS a.path b.path=true
structure RgZ (z:RZ):Prop where
 data:z.data.size≤1024
 cr:0≤z.cr∧z.cr≤big
 ch:0≤z.ch∧z.ch≤big
 ci:0≤z.ci∧z.ci≤big
 ve:0≤z.ve∧z.ve≤big
 ki:0≤z.ki∧z.ki≤big
 ow:0≤z.ow∧z.ow≤big
 nx:0≤z.nx∧z.nx≤big
structure Wz (T:List RZ):Prop where
 srt:Srt T
 len:T.length≤200
 root:∃z∈T,z.path=W5∧z.ow=0
 valid:∀z∈T,Z69 z.path=true
 rg:∀z∈T,RgZ z
 up:∀z∈T,(On z.path).2=true→∃p∈T,p.path=(On z.path).1∧p.ow=0
theorem E7 {y z:RZ}:∀{T:List RZ},y∈R1 T z↔y=z∨(y∈T∧y.path≠z.path)
 | []=>by simp[R1]
 | x::l=>by
  unfold R1
  split
  ·next h =>
   rw[List.mem_cons,E7,List.mem_cons]
   constructor
   ·rintro(rfl | h | ⟨h,h'⟩)
    ·exact .inr ⟨.inl rfl,Tx h⟩
    ·exact .inl h
    ·exact .inr ⟨.inr h,h'⟩
   ·rintro(h | ⟨rfl | h,h'⟩)
    ·exact .inr (.inl h)
    ·exact .inl rfl
    ·exact .inr (.inr ⟨h,h'⟩)
  ·rw[List.mem_cons,List.mem_filter];simp
theorem Sf {z:RZ}:∀{T:List RZ},Srt T→Srt (R1 T z)
 | [],_=>by simp[R1]
 | x::l,h=>by
  obtain⟨h1,h2⟩:=List.pairwise_cons.1 h
  unfold R1
  split
  ·next hx =>
   refine List.pairwise_cons.2 ⟨fun y hy=>?_,Sf h2⟩
   rcases E7.1 hy with rfl | ⟨hy,-⟩
   ·exact hx
   ·exact h1 y hy
  ·next hx =>
   have hx:ltS x.path z.path=false:=by simpa using hx
   refine List.pairwise_cons.2 ⟨fun y hy=>?_,h.filter _⟩
   obtain⟨hy,hne⟩:=List.mem_filter.1 hy
   have hne:y.path≠z.path:=by simpa using hne
   rcases List.mem_cons.1 hy with rfl | hy
   ·exact Pb hx hne
   ·by_cases e:x.path=z.path
    ·rw[←e];exact h1 y hy
    ·exact Z0i (Pb hx e) (h1 y hy)
theorem Z8v {T:List RZ}(h:Srt T){x y:RZ}(hx:x∈T)(hy:y∈T)(e:x.path=y.path):x=y:=by
 induction T with
 | nil=>cases hx
 | cons a T ih =>
  obtain⟨h1,h2⟩:=List.pairwise_cons.1 h
  rcases List.mem_cons.1 hx with ex | hx'<;>rcases List.mem_cons.1 hy with ey | hy'
  ·rw[ex,ey]
  ·exact absurd e (Tx (by rw[ex];exact h1 y hy'))
  ·exact absurd e.symm (Tx (by rw[ey];exact h1 x hx'))
  ·exact ih h2 hx' hy'
theorem Z5b {T:List RZ}{p:ByteArray}:Zen T p=none↔∀z∈T,z.path≠p:=by
 unfold Zen
 rw[List.find?_eq_none]
 simp
theorem Q0 {α:Type}{p:α→Bool}:∀{l:List α} {x:α},x∈l→p x=false→(l.filter p).length < l.length
 | y::l,x,hx,hp=>by
  rw[List.filter_cons]
  rcases List.mem_cons.1 hx with rfl | hx
  ·rw[if_neg (by simp[hp])]
   exact Nat.lt_succ_of_le (List.length_filter_le _ _)
  ·have:=Q0 hx hp
   split
   ·simpa using this
   ·exact Nat.lt_succ_of_lt this
theorem Ya (z:RZ):∀(T:List RZ),(R1 T z).length≤T.length+1
 | []=>by simp[R1]
 | x::l=>by
  unfold R1
  split
  ·have:=Ya z l;simp;omega
  ·have:=List.length_filter_le (fun y:RZ=>decide (y.path≠z.path)) (x::l)
   rw[List.length_cons];omega
theorem Mt {z y:RZ}(e:y.path=z.path):∀{T:List RZ},y∈T→(R1 T z).length≤T.length
 | x::l,h=>by
  unfold R1
  split
  ·next hx =>
   rcases List.mem_cons.1 h with rfl | h
   ·exact absurd e (Tx hx)
   ·have:=Mt e h;simp;omega
  ·have:=Q0 (p:=fun y:RZ=>decide (y.path≠z.path)) h (by simp[e])
   rw[List.length_cons];omega
end Go.Proofs.YtihfaocdpmmooaaGreat
namespace Go.Proofs.YtihfaocdpmmooaaGreat
open Go.RowKit
structure IsP (s:ByteArray)(r:List UInt8):Prop where
 bytes:s.data.toList=47::r
 names:nmZ s=Me r
 good:∀x∈Me r,Zb9 x=true
 few:(Me r).length≤8
 ne:s≠W5
theorem IsP.base {s:ByteArray}{r:List UInt8}(h:IsP s r):Zbd s=⟨(Zw r).2.toArray⟩:=by
 unfold Zbd
 rw[h.names]
 unfold Me
 simp
theorem IsP.split {s:ByteArray}{r:List UInt8}(h:IsP s r):s.data.toList=(Nx (Zw r).1).data.toList++47::(Zw r).2:=by rw[h.bytes,Zc]
theorem Ze6 {n:Int}(h:0≤n∧n≤big):0≤upZ n∧upZ n≤big:=by
 unfold upZ
 split
 ·exact h
 ·have:n≠big:=by assumption
  omega
theorem Zbu {n:Int}:inZ n=true↔0≤n∧n≤big:=by unfold inZ;simp
theorem RgZ.set {z:RZ}(h:RgZ z){zx:Int}(hz:inZ zx=true){d:ByteArray}(hd:d.size≤1024):RgZ {z with data:=d,ch:=zx,ve:=upZ z.ve} :=
 ⟨hd,h.cr,Zbu.1 hz,h.ci,Ze6 h.ve,h.ki,h.ow,h.nx⟩
theorem Wz.upd {T:List RZ}(h:Wz T){z z':RZ}(hz:z∈T)(hp:z'.path=z.path)(ho:z'.ow=z.ow)(hr:RgZ z'):Wz (R1 T z'):=by
 have keep:∀y∈T,y.ow=0→∃y'∈R1 T z',y'.path=y.path∧y'.ow=0:=fun y hy h0=>by
  by_cases e:y.path=z'.path
  ·have:=Z8v h.srt hy hz (e.trans hp)
   subst this
   exact⟨z',E7.2 (.inl rfl),hp,ho.trans h0⟩
  ·exact⟨y,E7.2 (.inr ⟨hy,e⟩),rfl,h0⟩
 refine⟨Sf h.srt,Nat.le_trans (Mt hp.symm hz) h.len,?_,fun y hy=>?_,fun y hy=>?_,fun y hy hpar=>?_⟩
 ·obtain⟨y,hy,h1,h2⟩:=h.root
  obtain⟨y',h3,h4,h5⟩:=keep y hy h2
  exact⟨y',h3,h4.trans h1,h5⟩
 ·rcases E7.1 hy with rfl | ⟨hy,-⟩
  ·rw[hp];exact h.valid z hz
  ·exact h.valid y hy
 ·rcases E7.1 hy with rfl | ⟨hy,-⟩
  ·exact hr
  ·exact h.rg y hy
 ·have:∃q∈T,q.path=(On y.path).1∧q.ow=0:=by
   rcases E7.1 hy with rfl | ⟨hy,-⟩
   ·rw[hp] at hpar⊢;exact h.up z hz hpar
   ·exact h.up y hy hpar
  obtain⟨q,h1,h2,h3⟩:=this
  obtain⟨q',h4,h5,h6⟩:=keep q h1 h3
  exact⟨q',h4,h5.trans h2,h6⟩
theorem Wz.add {T:List RZ}(h:Wz T){z p:RZ}(hf:Zen T z.path=none)(hp:p∈T)(e:p.path=(On z.path).1)(ho:p.ow=0)(hr:RgZ z)(hv:Z69 z.path=true)(hl:T.length < 200):Wz (R1 T z):=by
 have hne:=Z5b.1 hf
 have keep:∀y∈T,y∈R1 T z:=fun y hy=>E7.2 (.inr ⟨hy,hne y hy⟩)
 refine⟨Sf h.srt,Nat.le_trans (Ya z T) hl,?_,fun y hy=>?_,fun y hy=>?_,fun y hy hpar=>?_⟩
 ·obtain⟨y,hy,h1⟩:=h.root
  exact⟨y,keep y hy,h1⟩
 ·rcases E7.1 hy with rfl | ⟨hy,-⟩
  ·exact hv
  ·exact h.valid y hy
 ·rcases E7.1 hy with rfl | ⟨hy,-⟩
  ·exact hr
  ·exact h.rg y hy
 ·rcases E7.1 hy with rfl | ⟨hy,-⟩
  ·exact⟨p,keep p hp,e,ho⟩
  ·obtain⟨q,h1,h2⟩:=h.up y hy hpar
   exact⟨q,keep q h1,h2⟩
end Go.Proofs.YtihfaocdpmmooaaGreat
namespace Go.Proofs.YtihfaocdpmmooaaGreat
structure RT where
 kind:Int
 se:Int
 nu:Int
 sp:Int
 no:Int
 l:List RC
structure RRp where
 code:Int
 se:Int
 ps:List ByteArray
def rp (e:Int):RRp:=⟨e,0,[]⟩
end Go.Proofs.YtihfaocdpmmooaaGreat
