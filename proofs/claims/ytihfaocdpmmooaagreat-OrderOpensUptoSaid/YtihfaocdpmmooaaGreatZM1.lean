
import Derived.Test.YtihfaocdpmmooaaGreatZKeys
import Derived.Lib.SplitLaws
import Derived.Laws.RangeAny
import Derived.Test.YtihfaocdpmmooaaGreatZMap
import Derived.Sort.Walk0
namespace Go.Proofs.YtihfaocdpmmooaaGreat
open Go.RowKit
def R0:ByteArray:=⟨#[47]⟩
def Zed:ByteArray:=⟨#[46]⟩
def Ze0:ByteArray:=⟨#[46,46]⟩
def noS:ByteArray:=⟨#[]⟩
def Zek (n:Int):Bool:=decide (97≤n∧n≤122∨65≤n∧n≤90∨48≤n∧n≤57∨n=46∨n=45∨n=95)
def Zeh (c:UInt8):Bool:=Zek c.toNat
def Za9 (s:ByteArray):Bool:=s.data.toList.all Zeh&&decide (1≤s.size∧s.size≤60∧s≠Zed∧s≠Ze0)
def spl (p:List ByteArray × List UInt8)(c:UInt8):List ByteArray × List UInt8:=if c=47 then(p.1++[⟨p.2.toArray⟩],[]) else(p.1,p.2++[c])
def Xv (l:List UInt8):List ByteArray × List UInt8:=l.foldl spl ([],[])
def M6 (l:List UInt8):List ByteArray:=(Xv l).1++[⟨(Xv l).2.toArray⟩]
def Yw (s:ByteArray):List ByteArray:=match s.data.toList with
 | 47::r=>if(M6 r).all Za9=true then M6 r else []
 | _=>[]
def Z51 (s:ByteArray):Option (List ByteArray):=if s=R0 then some [] else if Yw s≠[]∧(Yw s).length≤8 then some (Yw s) else none
def Z4r (s:ByteArray):Bool:=(Z51 s).isSome
def nmZ (s:ByteArray):List ByteArray:=(Z51 s).getD []
def Zas (s:ByteArray):ByteArray:=((nmZ s).getLast?).getD noS
def O6 (l:List ByteArray):ByteArray:=l.foldl (fun a x=>a++R0++x) noS
def Zcs (l:List ByteArray):ByteArray:=if l=[] then R0 else O6 l
def Ia (s:ByteArray):ByteArray × Bool:=if nmZ s=[] then(noS,false) else(Zcs (nmZ s).dropLast,true)
theorem Wo (l:List UInt8)(c:UInt8):Xv (l++[c])=spl (Xv l) c:=by unfold Xv;rw[List.foldl_append];rfl
theorem Z5z (l:List UInt8):(⟨l.toArray⟩:ByteArray).data.toList=l:=by simp
theorem Z1m {a b:ByteArray}(h:a.data.toList=b.data.toList):a=b:=by
 cases a;cases b
 congr
 simpa using congrArg List.toArray h
theorem Z5c (a b:ByteArray):(a++b).data.toList=a.data.toList++b.data.toList:=by simp
theorem Xu (l:List ByteArray)(x:ByteArray):O6 (l++[x])=O6 l++R0++x:=by unfold O6;rw[List.foldl_append];rfl
theorem Z4 (r:List UInt8):(O6 (Xv r).1).data.toList++47::(Xv r).2=47::r:=by
 induction h:r.length generalizing r with
 | zero=>rw[List.eq_nil_of_length_eq_zero h];rfl
 | succ n ih =>
  have hne:r≠[]:=fun e=>by rw[e] at h;cases h
  have e:=(List.dropLast_concat_getLast hne).symm
  have hih:=ih r.dropLast (by simp[h])
  rw[e,Wo]
  revert hih
  generalize Xv r.dropLast=p
  intro hih
  unfold spl
  split
  ·next hc =>
   rw[Xu,Z5c,Z5c,Z5z]
   show(O6 p.1).data.toList++[47]++p.2++[47]=_
   rw[List.append_assoc (O6 p.1).data.toList,List.singleton_append,hih,hc];rfl
  ·show(O6 p.1).data.toList++47::(p.2++[_])=_
   rw[←List.cons_append,←List.append_assoc,hih];rfl
end Go.Proofs.YtihfaocdpmmooaaGreat
namespace Go.Proofs.YtihfaocdpmmooaaGreat
open Go.RowKit
def ltS (a b:ByteArray):Bool:=Op.bytesLess a.toList b.toList
theorem Io (a b:ByteArray):ltS a b=true↔a.data.toList < b.data.toList:=by
 unfold ltS
 rw[Go.Proofs.bytesLess_eq,Lib.toList_data,Lib.toList_data]
 simp
theorem Ux (a:ByteArray):ltS a a=false:=by
 cases h:ltS a a with
 | false=>rfl
 | true=>exact absurd ((Io a a).1 h) (List.lt_irrefl _)
theorem Z0f {a b c:ByteArray}(h1:ltS a b=true)(h2:ltS b c=true):ltS a c=true :=
 (Io a c).2 (List.lt_trans ((Io a b).1 h1) ((Io b c).1 h2))
theorem Q0 {a b:ByteArray}(h1:ltS a b=false)(h2:a≠b):ltS b a=true:=by
 refine(Io b a).2 ?_
 have h1:¬a.data.toList < b.data.toList:=fun h=>by rw[(Io a b).2 h] at h1;cases h1
 rcases Classical.em (b.data.toList < a.data.toList) with h | h
 ·exact h
 ·exact absurd (Z1m (List.le_antisymm (List.not_lt.1 h) (List.not_lt.1 h1))) h2
theorem Ug {a b:ByteArray}(h:ltS a b=true):a≠b:=fun e=>by rw[e,Ux] at h;cases h
structure RZ where
 path:ByteArray
 data:ByteArray
 cr:Int
 ch:Int
 ci:Int
 ve:Int
 ki:Int
 ow:Int
 nx:Int
structure RC where
 kind:Int
 path:ByteArray
 data:ByteArray
 ve:Int
 ep:Bool
 sq:Bool
def Zcn (T:List RZ)(p:ByteArray):Option RZ:=T.find? fun z=>decide (z.path=p)
def Qc:List RZ→RZ→List RZ
 | [],z=>[z]
 | x::l,z=>if ltS x.path z.path=true then x::Qc l z else z::(x::l).filter fun y=>decide (y.path≠z.path)
def Zc0 (T:List RZ)(p:ByteArray):List RZ:=T.filter fun z=>decide (z.path≠p)
def big:Int:=4611686018427387904
def inZ (n:Int):Bool:=decide (0≤n∧n≤big)
def upZ (n:Int):Int:=if n=big then n else n+1
abbrev Srt (T:List RZ):Prop:=T.Pairwise fun a b=>ltS a.path b.path=true
structure RgZ (z:RZ):Prop where
 data:z.data.size≤1024
 cr:0≤z.cr∧z.cr≤big
 ch:0≤z.ch∧z.ch≤big
 ci:0≤z.ci∧z.ci≤big
 ve:0≤z.ve∧z.ve≤big
 ki:0≤z.ki∧z.ki≤big
 ow:0≤z.ow∧z.ow≤big
 nx:0≤z.nx∧z.nx≤big
structure Wz (T:List RZ):Prop where
 srt:Srt T
 len:T.length≤200
 root:∃z∈T,z.path=R0∧z.ow=0
 valid:∀z∈T,Z4r z.path=true
 rg:∀z∈T,RgZ z
 up:∀z∈T,(Ia z.path).2=true→∃p∈T,p.path=(Ia z.path).1∧p.ow=0
theorem Dv {y z:RZ}:∀{T:List RZ},y∈Qc T z↔y=z∨(y∈T∧y.path≠z.path)
 | []=>by simp[Qc]
 | x::l=>by
  unfold Qc
  split
  ·next h =>
   rw[List.mem_cons,Dv,List.mem_cons]
   constructor
   ·rintro(rfl | h | ⟨h,h'⟩)
    ·exact .inr ⟨.inl rfl,Ug h⟩
    ·exact .inl h
    ·exact .inr ⟨.inr h,h'⟩
   ·rintro(h | ⟨rfl | h,h'⟩)
    ·exact .inr (.inl h)
    ·exact .inl rfl
    ·exact .inr (.inr ⟨h,h'⟩)
  ·rw[List.mem_cons,List.mem_filter];simp
theorem K8 {y:RZ}{T:List RZ}{p:ByteArray}:y∈Zc0 T p↔y∈T∧y.path≠p:=by unfold Zc0;rw[List.mem_filter];simp
theorem Ra {z:RZ}:∀{T:List RZ},Srt T→Srt (Qc T z)
 | [],_=>by simp[Qc]
 | x::l,h=>by
  obtain⟨h1,h2⟩:=List.pairwise_cons.1 h
  unfold Qc
  split
  ·next hx =>
   refine List.pairwise_cons.2 ⟨fun y hy=>?_,Ra h2⟩
   rcases Dv.1 hy with rfl | ⟨hy,-⟩
   ·exact hx
   ·exact h1 y hy
  ·next hx =>
   have hx:ltS x.path z.path=false:=by simpa using hx
   refine List.pairwise_cons.2 ⟨fun y hy=>?_,h.filter _⟩
   obtain⟨hy,hne⟩:=List.mem_filter.1 hy
   have hne:y.path≠z.path:=by simpa using hne
   rcases List.mem_cons.1 hy with rfl | hy
   ·exact Q0 hx hne
   ·by_cases e:x.path=z.path
    ·rw[←e];exact h1 y hy
    ·exact Z0f (Q0 hx e) (h1 y hy)
theorem Z6n {T:List RZ}{p:ByteArray}(h:Srt T):Srt (Zc0 T p):=h.filter _
theorem Z7k {T:List RZ}(h:Srt T){x y:RZ}(hx:x∈T)(hy:y∈T)(e:x.path=y.path):x=y:=by
 induction T with
 | nil=>cases hx
 | cons a T ih =>
  obtain⟨h1,h2⟩:=List.pairwise_cons.1 h
  rcases List.mem_cons.1 hx with ex | hx'<;>rcases List.mem_cons.1 hy with ey | hy'
  ·rw[ex,ey]
  ·exact absurd e (Ug (by rw[ex];exact h1 y hy'))
  ·exact absurd e.symm (Ug (by rw[ey];exact h1 x hx'))
  ·exact ih h2 hx' hy'
theorem Z11 {T:List RZ}{p:ByteArray}:Zcn T p=none↔∀z∈T,z.path≠p:=by
 unfold Zcn
 rw[List.find?_eq_none]
 simp
theorem Q6 {α:Type}{p:α→Bool}:∀{l:List α} {x:α},x∈l→p x=false→(l.filter p).length < l.length
 | y::l,x,hx,hp=>by
  rw[List.filter_cons]
  rcases List.mem_cons.1 hx with rfl | hx
  ·rw[if_neg (by simp[hp])]
   exact Nat.lt_succ_of_le (List.length_filter_le _ _)
  ·have:=Q6 hx hp
   split
   ·simpa using this
   ·exact Nat.lt_succ_of_lt this
theorem Zf (z:RZ):∀(T:List RZ),(Qc T z).length≤T.length+1
 | []=>by simp[Qc]
 | x::l=>by
  unfold Qc
  split
  ·have:=Zf z l;simp;omega
  ·have:=List.length_filter_le (fun y:RZ=>decide (y.path≠z.path)) (x::l)
   rw[List.length_cons];omega
theorem Lf {z y:RZ}(e:y.path=z.path):∀{T:List RZ},y∈T→(Qc T z).length≤T.length
 | x::l,h=>by
  unfold Qc
  split
  ·next hx =>
   rcases List.mem_cons.1 h with rfl | h
   ·exact absurd e (Ug hx)
   ·have:=Lf e h;simp;omega
  ·have:=Q6 (p:=fun y:RZ=>decide (y.path≠z.path)) h (by simp[e])
   rw[List.length_cons];omega
end Go.Proofs.YtihfaocdpmmooaaGreat
namespace Go.Proofs.YtihfaocdpmmooaaGreat
open Go.RowKit
structure IsP (s:ByteArray)(r:List UInt8):Prop where
 bytes:s.data.toList=47::r
 names:nmZ s=M6 r
 good:∀x∈M6 r,Za9 x=true
 few:(M6 r).length≤8
 ne:s≠R0
theorem IsP.base {s:ByteArray}{r:List UInt8}(h:IsP s r):Zas s=⟨(Xv r).2.toArray⟩:=by
 unfold Zas
 rw[h.names]
 unfold M6
 simp
theorem IsP.split {s:ByteArray}{r:List UInt8}(h:IsP s r):s.data.toList=(O6 (Xv r).1).data.toList++47::(Xv r).2:=by rw[h.bytes,Z4]
theorem Zcy {n:Int}(h:0≤n∧n≤big):0≤upZ n∧upZ n≤big:=by
 unfold upZ
 split
 ·exact h
 ·have:n≠big:=by assumption
  omega
theorem Z8u {n:Int}:inZ n=true↔0≤n∧n≤big:=by unfold inZ;simp
theorem RgZ.set {z:RZ}(h:RgZ z){zx:Int}(hz:inZ zx=true){d:ByteArray}(hd:d.size≤1024):RgZ {z with data:=d,ch:=zx,ve:=upZ z.ve} :=
 ⟨hd,h.cr,Z8u.1 hz,h.ci,Zcy h.ve,h.ki,h.ow,h.nx⟩
theorem Wz.upd {T:List RZ}(h:Wz T){z z':RZ}(hz:z∈T)(hp:z'.path=z.path)(ho:z'.ow=z.ow)(hr:RgZ z'):Wz (Qc T z'):=by
 have keep:∀y∈T,y.ow=0→∃y'∈Qc T z',y'.path=y.path∧y'.ow=0:=fun y hy h0=>by
  by_cases e:y.path=z'.path
  ·have:=Z7k h.srt hy hz (e.trans hp)
   subst this
   exact⟨z',Dv.2 (.inl rfl),hp,ho.trans h0⟩
  ·exact⟨y,Dv.2 (.inr ⟨hy,e⟩),rfl,h0⟩
 refine⟨Ra h.srt,Nat.le_trans (Lf hp.symm hz) h.len,?_,fun y hy=>?_,fun y hy=>?_,fun y hy hpar=>?_⟩
 ·obtain⟨y,hy,h1,h2⟩:=h.root
  obtain⟨y',h3,h4,h5⟩:=keep y hy h2
  exact⟨y',h3,h4.trans h1,h5⟩
 ·rcases Dv.1 hy with rfl | ⟨hy,-⟩
  ·rw[hp];exact h.valid z hz
  ·exact h.valid y hy
 ·rcases Dv.1 hy with rfl | ⟨hy,-⟩
  ·exact hr
  ·exact h.rg y hy
 ·have:∃q∈T,q.path=(Ia y.path).1∧q.ow=0:=by
   rcases Dv.1 hy with rfl | ⟨hy,-⟩
   ·rw[hp] at hpar⊢;exact h.up z hz hpar
   ·exact h.up y hy hpar
  obtain⟨q,h1,h2,h3⟩:=this
  obtain⟨q',h4,h5,h6⟩:=keep q h1 h3
  exact⟨q',h4,h5.trans h2,h6⟩
theorem Wz.add {T:List RZ}(h:Wz T){z p:RZ}(hf:Zcn T z.path=none)(hp:p∈T)(e:p.path=(Ia z.path).1)(ho:p.ow=0)(hr:RgZ z)(hv:Z4r z.path=true)(hl:T.length < 200):Wz (Qc T z):=by
 have hne:=Z11.1 hf
 have keep:∀y∈T,y∈Qc T z:=fun y hy=>Dv.2 (.inr ⟨hy,hne y hy⟩)
 refine⟨Ra h.srt,Nat.le_trans (Zf z T) hl,?_,fun y hy=>?_,fun y hy=>?_,fun y hy hpar=>?_⟩
 ·obtain⟨y,hy,h1⟩:=h.root
  exact⟨y,keep y hy,h1⟩
 ·rcases Dv.1 hy with rfl | ⟨hy,-⟩
  ·exact hv
  ·exact h.valid y hy
 ·rcases Dv.1 hy with rfl | ⟨hy,-⟩
  ·exact hr
  ·exact h.rg y hy
 ·rcases Dv.1 hy with rfl | ⟨hy,-⟩
  ·exact⟨p,keep p hp,e,ho⟩
  ·obtain⟨q,h1,h2⟩:=h.up y hy hpar
   exact⟨q,keep q h1,h2⟩
theorem Wz.del {T:List RZ}(h:Wz T){p:ByteArray}(hp:p≠R0)(hk:∀z∈T,(Ia z.path).2=true→(Ia z.path).1≠p):Wz (Zc0 T p):=by
 refine⟨Z6n h.srt,Nat.le_trans (List.length_filter_le _ _) h.len,?_,fun y hy=>h.valid y (K8.1 hy).1,fun y hy=>h.rg y (K8.1 hy).1,fun y hy hpar=>?_⟩
 ·obtain⟨y,hy,h1,h2⟩:=h.root
  exact⟨y,K8.2 ⟨hy,by rw[h1];exact hp.symm⟩,h1,h2⟩
 ·have hy:=(K8.1 hy).1
  obtain⟨q,h1,h2⟩:=h.up y hy hpar
  exact⟨q,K8.2 ⟨h1,by rw[h2.1];exact hk y hy hpar⟩,h2⟩
end Go.Proofs.YtihfaocdpmmooaaGreat
namespace Go.Proofs.YtihfaocdpmmooaaGreat
structure RT where
 kind:Int
 se:Int
 nu:Int
 sp:Int
 no:Int
 l:List RC
structure RRp where
 code:Int
 se:Int
 ps:List ByteArray
def rp (e:Int):RRp:=⟨e,0,[]⟩
end Go.Proofs.YtihfaocdpmmooaaGreat
