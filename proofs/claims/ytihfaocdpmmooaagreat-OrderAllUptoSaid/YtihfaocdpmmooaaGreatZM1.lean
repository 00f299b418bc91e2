
import Derived.Test.YtihfaocdpmmooaaGreatZKeys
import Derived.Lib.SplitLaws
import Derived.Laws.RangeAny
import Derived.Test.YtihfaocdpmmooaaGreatZMap
import Derived.Sort.Walk0
namespace Go.Proofs.YtihfaocdpmmooaaGreat
open Go.RowKit
def X5:ByteArray:=⟨#[47]⟩
def Zim:ByteArray:=⟨#[46]⟩
def Zj0:ByteArray:=⟨#[46,46]⟩
def noS:ByteArray:=⟨#[]⟩
def Zi9 (n:Int):Bool:=decide (97≤n∧n≤122∨65≤n∧n≤90∨48≤n∧n≤57∨n=46∨n=45∨n=95)
def Ziz (c:UInt8):Bool:=Zi9 c.toNat
def Zdu (s:ByteArray):Bool:=s.data.toList.all Ziz&&decide (1≤s.size∧s.size≤60∧s≠Zim∧s≠Zj0)
def spl (p:List ByteArray × List UInt8)(c:UInt8):List ByteArray × List UInt8:=if c=47 then(p.1++[⟨p.2.toArray⟩],[]) else(p.1,p.2++[c])
def Z0c (l:List UInt8):List ByteArray × List UInt8:=l.foldl spl ([],[])
def Mr (l:List UInt8):List ByteArray:=(Z0c l).1++[⟨(Z0c l).2.toArray⟩]
def Z03 (s:ByteArray):List ByteArray:=match s.data.toList with
 | 47::r=>if(Mr r).all Zdu=true then Mr r else []
 | _=>[]
def Z80 (s:ByteArray):Option (List ByteArray):=if s=X5 then some [] else if Z03 s≠[]∧(Z03 s).length≤8 then some (Z03 s) else none
def Z7y (s:ByteArray):Bool:=(Z80 s).isSome
def nmZ (s:ByteArray):List ByteArray:=(Z80 s).getD []
def Zew (s:ByteArray):ByteArray:=((nmZ s).getLast?).getD noS
def Oa (l:List ByteArray):ByteArray:=l.foldl (fun a x=>a++X5++x) noS
def Zgt (l:List ByteArray):ByteArray:=if l=[] then X5 else Oa l
def On (s:ByteArray):ByteArray × Bool:=if nmZ s=[] then(noS,false) else(Zgt (nmZ s).dropLast,true)
theorem Z14 (l:List UInt8)(c:UInt8):Z0c (l++[c])=spl (Z0c l) c:=by unfold Z0c;rw[List.foldl_append];rfl
theorem Zb6 (l:List UInt8):(⟨l.toArray⟩:ByteArray).data.toList=l:=by simp
theorem Z4v {a b:ByteArray}(h:a.data.toList=b.data.toList):a=b:=by
 cases a;cases b
 congr
 simpa using congrArg List.toArray h
theorem Z8u (a b:ByteArray):(a++b).data.toList=a.data.toList++b.data.toList:=by simp
theorem Z1 (l:List ByteArray)(x:ByteArray):Oa (l++[x])=Oa l++X5++x:=by unfold Oa;rw[List.foldl_append];rfl
theorem Z8 (r:List UInt8):(Oa (Z0c r).1).data.toList++47::(Z0c r).2=47::r:=by
 induction h:r.length generalizing r with
 | zero=>rw[al h];rfl
 | succ n ih =>
  have hne:r≠[]:=fun e=>by rw[e] at h;cases h
  have e:=(List.dropLast_concat_getLast hne).symm
  have hih:=ih r.dropLast (by simp[h])
  rw[e,Z14]
  revert hih
  generalize Z0c r.dropLast=p
  intro hih
  unfold spl
  split
  ·next hc =>
   rw[Z1,Z8u,Z8u,Zb6]
   show(Oa p.1).data.toList++[47]++p.2++[47]=_
   rw[bw (Oa p.1).data.toList,List.singleton_append,hih,hc];rfl
  ·show(Oa p.1).data.toList++47::(p.2++[_])=_
   rw[←c8,←bw,hih];rfl
def ltS (a b:ByteArray):Bool:=Op.bytesLess a.toList b.toList
theorem Jl (a b:ByteArray):ltS a b=true↔a.data.toList < b.data.toList:=by
 unfold ltS
 rw[Go.Proofs.bytesLess_eq,Lib.toList_data,Lib.toList_data]
 simp
theorem Y3 (a:ByteArray):ltS a a=false:=by
 cases h:ltS a a with
 | false=>rfl
 | true=>exact dc ((Jl a a).1 h) (List.lt_irrefl _)
theorem Z2f {a b c:ByteArray}(h1:ltS a b=true)(h2:ltS b c=true):ltS a c=true :=
 (Jl a c).2 (List.lt_trans ((Jl a b).1 h1) ((Jl b c).1 h2))
theorem Qj {a b:ByteArray}(h1:ltS a b=false)(h2:a≠b):ltS b a=true:=by
 refine(Jl b a).2 ?_
 have h1:¬a.data.toList < b.data.toList:=fun h=>by rw[(Jl a b).2 h] at h1;cases h1
 rcases Classical.em (b.data.toList < a.data.toList) with h | h
 ·exact h
 ·exact dc (Z4v (List.le_antisymm (List.not_lt.1 h) (List.not_lt.1 h1))) h2
theorem Vp {a b:ByteArray}(h:ltS a b=true):a≠b:=fun e=>by rw[e,Y3] at h;cases h
structure RZ where
 path:ByteArray
 data:ByteArray
 cr:Int
 ch:Int
 ci:Int
 ve:Int
 ki:Int
 ow:Int
 nx:Int
structure RC where
 kind:Int
 path:ByteArray
 data:ByteArray
 ve:Int
 ep:Bool
 sq:Bool
def Zhb (T:List RZ)(p:ByteArray):Option RZ:=T.find? fun z=>decide (z.path=p)
def Rk:List RZ→RZ→List RZ
 | [],z=>[z]
 | x::l,z=>if ltS x.path z.path=true then x::Rk l z else z::(x::l).filter fun y=>decide (y.path≠z.path)
def big:Int:=4611686018427387904
def inZ (n:Int):Bool:=decide (0≤n∧n≤big)
def upZ (n:Int):Int:=if n=big then n else n+1
abbrev Srt (T:List RZ):Prop:=T.Pairwise fun a b=>ltS a.path b.path=true
structure RgZ (z:RZ):Prop where
 data:z.data.size≤1024
 cr:0≤z.cr∧z.cr≤big
 ch:0≤z.ch∧z.ch≤big
 ci:0≤z.ci∧z.ci≤big
 ve:0≤z.ve∧z.ve≤big
 ki:0≤z.ki∧z.ki≤big
 ow:0≤z.ow∧z.ow≤big
 nx:0≤z.nx∧z.nx≤big
structure Wz (T:List RZ):Prop where
 srt:Srt T
 len:T.length≤200
 root:∃z∈T,z.path=X5∧z.ow=0
 valid:∀z∈T,Z7y z.path=true
 rg:∀z∈T,RgZ z
 up:∀z∈T,(On z.path).2=true→∃p∈T,p.path=(On z.path).1∧p.ow=0
theorem Ee {y z:RZ}:∀{T:List RZ},y∈Rk T z↔y=z∨(y∈T∧y.path≠z.path)
 | []=>by simp[Rk]
 | x::l=>by
  unfold Rk
  split
  ·next h =>
   rw[bh,Ee,bh]
   constructor
   ·rintro(rfl | h | ⟨h,h'⟩)
    ·exact .inr ⟨.inl rfl,Vp h⟩
    ·exact .inl h
    ·exact .inr ⟨.inr h,h'⟩
   ·rintro(h | ⟨rfl | h,h'⟩)
    ·exact .inr (.inl h)
    ·exact .inl rfl
    ·exact .inr (.inr ⟨h,h'⟩)
  ·rw[bh,List.mem_filter];simp
theorem Sj {z:RZ}:∀{T:List RZ},Srt T→Srt (Rk T z)
 | [],_=>by simp[Rk]
 | x::l,h=>by
  obtain⟨h1,h2⟩:=List.pairwise_cons.1 h
  unfold Rk
  split
  ·next hx =>
   refine List.pairwise_cons.2 ⟨fun y hy=>?_,Sj h2⟩
   rcases Ee.1 hy with rfl | ⟨hy,-⟩
   ·exact hx
   ·exact h1 y hy
  ·next hx =>
   have hx:ltS x.path z.path=false:=by simpa using hx
   refine List.pairwise_cons.2 ⟨fun y hy=>?_,h.filter _⟩
   obtain⟨hy,hne⟩:=List.mem_filter.1 hy
   have hne:y.path≠z.path:=by simpa using hne
   rcases bh.1 hy with rfl | hy
   ·exact Qj hx hne
   ·by_cases e:x.path=z.path
    ·rw[←e];exact h1 y hy
    ·exact Z2f (Qj hx e) (h1 y hy)
theorem Z9s {T:List RZ}(h:Srt T){x y:RZ}(hx:x∈T)(hy:y∈T)(e:x.path=y.path):x=y:=by
 induction T with
 | nil=>cases hx
 | cons a T ih =>
  obtain⟨h1,h2⟩:=List.pairwise_cons.1 h
  rcases bh.1 hx with ex | hx'<;>rcases bh.1 hy with ey | hy'
  ·rw[ex,ey]
  ·exact dc e (Vp (by rw[ex];exact h1 y hy'))
  ·exact dc e.symm (Vp (by rw[ey];exact h1 x hx'))
  ·exact ih h2 hx' hy'
theorem Z47 {T:List RZ}{p:ByteArray}:Zhb T p=none↔∀z∈T,z.path≠p:=by
 unfold Zhb
 rw[List.find?_eq_none]
 simp
theorem Q1 {α:Type}{p:α→Bool}:∀{l:List α} {x:α},x∈l→p x=false→(l.filter p).length < l.length
 | y::l,x,hx,hp=>by
  rw[List.filter_cons]
  rcases bh.1 hx with rfl | hx
  ·rw[da (by simp[hp])]
   exact Nat.lt_succ_of_le (List.length_filter_le _ _)
  ·have:=Q1 hx hp
   split
   ·simpa using this
   ·exact Nat.lt_succ_of_lt this
theorem Yz (z:RZ):∀(T:List RZ),(Rk T z).length≤T.length+1
 | []=>by simp[Rk]
 | x::l=>by
  unfold Rk
  split
  ·have:=Yz z l;simp;omega
  ·have:=List.length_filter_le (fun y:RZ=>decide (y.path≠z.path)) (x::l)
   rw[bc];omega
theorem Ms {z y:RZ}(e:y.path=z.path):∀{T:List RZ},y∈T→(Rk T z).length≤T.length
 | x::l,h=>by
  unfold Rk
  split
  ·next hx =>
   rcases bh.1 h with rfl | h
   ·exact dc e (Vp hx)
   ·have:=Ms e h;simp;omega
  ·have:=Q1 (p:=fun y:RZ=>decide (y.path≠z.path)) h (by simp[e])
   rw[bc];omega
structure IsP (s:ByteArray)(r:List UInt8):Prop where
 bytes:s.data.toList=47::r
 names:nmZ s=Mr r
 good:∀x∈Mr r,Zdu x=true
 few:(Mr r).length≤8
 ne:s≠X5
theorem IsP.base {s:ByteArray}{r:List UInt8}(h:IsP s r):Zew s=⟨(Z0c r).2.toArray⟩:=by
 unfold Zew
 rw[h.names]
 unfold Mr
 simp
theorem IsP.split {s:ByteArray}{r:List UInt8}(h:IsP s r):s.data.toList=(Oa (Z0c r).1).data.toList++47::(Z0c r).2:=by rw[h.bytes,Z8]
theorem Zhk {n:Int}(h:0≤n∧n≤big):0≤upZ n∧upZ n≤big:=by
 unfold upZ
 split
 ·exact h
 ·have:n≠big:=by assumption
  omega
theorem Zcs {n:Int}:inZ n=true↔0≤n∧n≤big:=by unfold inZ;simp
theorem RgZ.set {z:RZ}(h:RgZ z){zx:Int}(hz:inZ zx=true){d:ByteArray}(hd:d.size≤1024):RgZ {z with data:=d,ch:=zx,ve:=upZ z.ve} :=
 ⟨hd,h.cr,Zcs.1 hz,h.ci,Zhk h.ve,h.ki,h.ow,h.nx⟩
theorem Wz.upd {T:List RZ}(h:Wz T){z z':RZ}(hz:z∈T)(hp:z'.path=z.path)(ho:z'.ow=z.ow)(hr:RgZ z'):Wz (Rk T z'):=by
 have keep:∀y∈T,y.ow=0→∃y'∈Rk T z',y'.path=y.path∧y'.ow=0:=fun y hy h0=>by
  by_cases e:y.path=z'.path
  ·have:=Z9s h.srt hy hz (e.trans hp)
   subst this
   exact⟨z',Ee.2 (.inl rfl),hp,ho.trans h0⟩
  ·exact⟨y,Ee.2 (.inr ⟨hy,e⟩),rfl,h0⟩
 refine⟨Sj h.srt,b9 (Ms hp.symm hz) h.len,?_,fun y hy=>?_,fun y hy=>?_,fun y hy hpar=>?_⟩
 ·obtain⟨y,hy,h1,h2⟩:=h.root
  obtain⟨y',h3,h4,h5⟩:=keep y hy h2
  exact⟨y',h3,h4.trans h1,h5⟩
 ·rcases Ee.1 hy with rfl | ⟨hy,-⟩
  ·rw[hp];exact h.valid z hz
  ·exact h.valid y hy
 ·rcases Ee.1 hy with rfl | ⟨hy,-⟩
  ·exact hr
  ·exact h.rg y hy
 ·have:∃q∈T,q.path=(On y.path).1∧q.ow=0:=by
   rcases Ee.1 hy with rfl | ⟨hy,-⟩
   ·rw[hp] at hpar⊢;exact h.up z hz hpar
   ·exact h.up y hy hpar
  obtain⟨q,h1,h2,h3⟩:=this
  obtain⟨q',h4,h5,h6⟩:=keep q h1 h3
  exact⟨q',h4,h5.trans h2,h6⟩
theorem Wz.add {T:List RZ}(h:Wz T){z p:RZ}(hf:Zhb T z.path=none)(hp:p∈T)(e:p.path=(On z.path).1)(ho:p.ow=0)(hr:RgZ z)(hv:Z7y z.path=true)(hl:T.length < 200):Wz (Rk T z):=by
 have hne:=Z47.1 hf
 have keep:∀y∈T,y∈Rk T z:=fun y hy=>Ee.2 (.inr ⟨hy,hne y hy⟩)
 refine⟨Sj h.srt,b9 (Yz z T) hl,?_,fun y hy=>?_,fun y hy=>?_,fun y hy hpar=>?_⟩
 ·obtain⟨y,hy,h1⟩:=h.root
  exact⟨y,keep y hy,h1⟩
 ·rcases Ee.1 hy with rfl | ⟨hy,-⟩
  ·exact hv
  ·exact h.valid y hy
 ·rcases Ee.1 hy with rfl | ⟨hy,-⟩
  ·exact hr
  ·exact h.rg y hy
 ·rcases Ee.1 hy with rfl | ⟨hy,-⟩
  ·exact⟨p,keep p hp,e,ho⟩
  ·obtain⟨q,h1,h2⟩:=h.up y hy hpar
   exact⟨q,keep q h1,h2⟩
structure RT where
 kind:Int
 se:Int
 nu:Int
 sp:Int
 no:Int
 l:List RC
structure RRp where
 code:Int
 se:Int
 ps:List ByteArray
def rp (e:Int):RRp:=⟨e,0,[]⟩
end Go.Proofs.YtihfaocdpmmooaaGreat
