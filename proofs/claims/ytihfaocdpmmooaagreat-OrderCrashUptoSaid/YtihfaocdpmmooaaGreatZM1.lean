
import Derived.Test.YtihfaocdpmmooaaGreatZKeys
import Derived.Lib.SplitLaws
import Derived.Laws.RangeAny
import Derived.Test.YtihfaocdpmmooaaGreatZMap
import Derived.Sort.Walk0
namespace Go.Proofs.YtihfaocdpmmooaaGreat
open Go.RowKit
def Zz:ByteArray:=⟨#[47]⟩
def Zlf:ByteArray:=⟨#[46]⟩
def Zlm:ByteArray:=⟨#[46,46]⟩
def noS:ByteArray:=⟨#[]⟩
def Zln (n:Int):Bool:=decide (97≤n∧n≤122∨65≤n∧n≤90∨48≤n∧n≤57∨n=46∨n=45∨n=95)
def Zl7 (c:UInt8):Bool:=Zln c.toNat
def Zh7 (s:ByteArray):Bool:=s.data.toList.all Zl7&&decide (1≤s.size∧s.size≤60∧s≠Zlf∧s≠Zlm)
def spl (p:List ByteArray × List UInt8)(c:UInt8):List ByteArray × List UInt8:=if c=47 then(p.1++[⟨p.2.toArray⟩],[]) else(p.1,p.2++[c])
def Z0r (l:List UInt8):List ByteArray × List UInt8:=l.foldl spl ([],[])
def Nr (l:List UInt8):List ByteArray:=(Z0r l).1++[⟨(Z0r l).2.toArray⟩]
def Z0f (s:ByteArray):List ByteArray:=match s.data.toList with
 | 47::r=>if(Nr r).all Zh7=true then Nr r else []
 | _=>[]
def Za3 (s:ByteArray):Option (List ByteArray):=if s=Zz then some [] else if Z0f s≠[]∧(Z0f s).length≤8 then some (Z0f s) else none
def Za4 (s:ByteArray):Bool:=(Za3 s).isSome
def nmZ (s:ByteArray):List ByteArray:=(Za3 s).getD []
def Zf3 (s:ByteArray):ByteArray:=((nmZ s).getLast?).getD noS
def Qi (l:List ByteArray):ByteArray:=l.foldl (fun a x=>a++Zz++x) noS
def Zk1 (l:List ByteArray):ByteArray:=if l=[] then Zz else Qi l
def Q5 (s:ByteArray):ByteArray × Bool:=if nmZ s=[] then(noS,false) else(Zk1 (nmZ s).dropLast,true)
theorem Z3y (l:List UInt8)(c:UInt8):Z0r (l++[c])=spl (Z0r l) c:=by unfold Z0r;rw[List.foldl_append];rfl
theorem Zd1 (l:List UInt8):(⟨l.toArray⟩:ByteArray).data.toList=l:=by simp
theorem Z65 {a b:ByteArray}(h:a.data.toList=b.data.toList):a=b:=by
 cases a;cases b
 congr
 simpa using congrArg List.toArray h
theorem Z9i (a b:ByteArray):(a++b).data.toList=a.data.toList++b.data.toList:=by simp
theorem Z2c (l:List ByteArray)(x:ByteArray):Qi (l++[x])=Qi l++Zz++x:=by unfold Qi;rw[List.foldl_append];rfl
theorem Z1u (r:List UInt8):(Qi (Z0r r).1).data.toList++47::(Z0r r).2=47::r:=by
 induction h:r.length generalizing r with
 | zero=>rw[am h];rfl
 | succ n ih =>
  have b:r≠[]:=fun e=>by rw[e] at h;cases h
  have e:=(List.dropLast_concat_getLast b).symm;have a:=ih r.dropLast (by simp[h]);rw[e,Z3y];revert a;generalize Z0r r.dropLast=p;intro a;unfold spl;split
  ·next c =>
   rw[Z2c,Z9i,Z9i,Zd1];show(Qi p.1).data.toList++[47]++p.2++[47]=_;rw[bx (Qi p.1).data.toList,List.singleton_append,a,c];rfl
  ·show(Qi p.1).data.toList++47::(p.2++[_])=_;rw[←c9,←bx,a];rfl
def ltS (a b:ByteArray):Bool:=Op.bytesLess a.toList b.toList
theorem Kd (a b:ByteArray):ltS a b=true↔a.data.toList < b.data.toList:=by unfold ltS;rw[Go.Proofs.bytesLess_eq,Lib.toList_data,Lib.toList_data];simp
theorem Zr (a:ByteArray):ltS a a=false:=by
 cases h:ltS a a with
 | false=>rfl
 | true=>exact de ((Kd a a).1 h) (List.lt_irrefl _)
theorem Z5m {a b c:ByteArray}(d:ltS a b=true)(e:ltS b c=true):ltS a c=true :=
 (Kd a c).2 (List.lt_trans ((Kd a b).1 d) ((Kd b c).1 e))
theorem R3 {a b:ByteArray}(c:ltS a b=false)(d:a≠b):ltS b a=true:=by
 refine(Kd b a).2 ?_;have c:¬a.data.toList < b.data.toList:=fun h=>by rw[(Kd a b).2 h] at c;cases c
 rcases Classical.em (b.data.toList < a.data.toList) with h | h
 ·exact h
 ·exact de (Z65 (List.le_antisymm (List.not_lt.1 h) (List.not_lt.1 c))) d
theorem Vo {a b:ByteArray}(h:ltS a b=true):a≠b:=fun e=>by rw[e,Zr] at h;cases h
structure RZ where
 path:ByteArray
 data:ByteArray
 cr:Int
 ch:Int
 ci:Int
 ve:Int
 ki:Int
 ow:Int
 nx:Int
structure RC where
 kind:Int
 path:ByteArray
 data:ByteArray
 ve:Int
 ep:Bool
 sq:Bool
def Ziv (T:List RZ)(p:ByteArray):Option RZ:=T.find? fun z=>decide (z.path=p)
def T0:List RZ→RZ→List RZ
 | [],z=>[z]
 | x::l,z=>if ltS x.path z.path=true then x::T0 l z else z::(x::l).filter fun y=>decide (y.path≠z.path)
def big:Int:=4611686018427387904
def inZ (n:Int):Bool:=decide (0≤n∧n≤big)
def upZ (n:Int):Int:=if n=big then n else n+1
abbrev Srt (T:List RZ):Prop:=T.Pairwise fun a b=>ltS a.path b.path=true
structure RgZ (z:RZ):Prop where
 data:z.data.size≤1024
 cr:0≤z.cr∧z.cr≤big
 ch:0≤z.ch∧z.ch≤big
 ci:0≤z.ci∧z.ci≤big
 ve:0≤z.ve∧z.ve≤big
 ki:0≤z.ki∧z.ki≤big
 ow:0≤z.ow∧z.ow≤big
 nx:0≤z.nx∧z.nx≤big
structure Wz (T:List RZ):Prop where
 srt:Srt T
 len:T.length≤200
 root:∃z∈T,z.path=Zz∧z.ow=0
 valid:∀z∈T,Za4 z.path=true
 rg:∀z∈T,RgZ z
 up:∀z∈T,(Q5 z.path).2=true→∃p∈T,p.path=(Q5 z.path).1∧p.ow=0
theorem F2 {y z:RZ}:∀{T:List RZ},y∈T0 T z↔y=z∨(y∈T∧y.path≠z.path)
 | []=>by simp[T0]
 | x::l=>by
  unfold T0;split
  ·next h =>
   rw[bi,F2,bi];constructor
   ·rintro(rfl | h | ⟨h,h'⟩)
    ·exact .inr ⟨.inl rfl,Vo h⟩
    ·exact .inl h
    ·exact .inr ⟨.inr h,h'⟩
   ·rintro(h | ⟨rfl | h,h'⟩)
    ·exact .inr (.inl h)
    ·exact .inl rfl
    ·exact .inr (.inr ⟨h,h'⟩)
  ·rw[bi,List.mem_filter];simp
theorem Un {z:RZ}:∀{T:List RZ},Srt T→Srt (T0 T z)
 | [],_=>by simp[T0]
 | x::l,h=>by
  obtain⟨c,d⟩:=List.pairwise_cons.1 h;unfold T0;split
  ·next b =>
   refine List.pairwise_cons.2 ⟨fun y hy=>?_,Un d⟩;rcases F2.1 hy with rfl | ⟨hy,-⟩
   ·exact b
   ·exact c y hy
  ·next b =>
   have b:ltS x.path z.path=false:=by simpa using b
   refine List.pairwise_cons.2 ⟨fun y hy=>?_,h.filter _⟩;obtain⟨hy,a⟩:=List.mem_filter.1 hy;have a:y.path≠z.path:=by simpa using a
   rcases bi.1 hy with rfl | hy
   ·exact R3 b a
   ·by_cases e:x.path=z.path
    ·rw[←e];exact c y hy
    ·exact Z5m (R3 b e) (c y hy)
theorem Zck {T:List RZ}(h:Srt T){x y:RZ}(i:x∈T)(hy:y∈T)(e:x.path=y.path):x=y:=by
 induction T with
 | nil=>cases i
 | cons a T ih =>
  obtain⟨g,j⟩:=List.pairwise_cons.1 h;rcases bi.1 i with f | b<;>rcases bi.1 hy with d | c
  ·rw[f,d]
  ·exact de e (Vo (by rw[f];exact g y c))
  ·exact de e.symm (Vo (by rw[d];exact g x b))
  ·exact ih j b c
theorem Z8c {T:List RZ}{p:ByteArray}:Ziv T p=none↔∀z∈T,z.path≠p:=by unfold Ziv;rw[List.find?_eq_none];simp
theorem Sj {α:Type}{p:α→Bool}:∀{l:List α} {x:α},x∈l→p x=false→(l.filter p).length < l.length
 | y::l,x,a,hp=>by
  rw[List.filter_cons];rcases bi.1 a with rfl | a
  ·rw[db (by simp[hp])];exact Nat.lt_succ_of_le (List.length_filter_le _ _)
  ·have:=Sj a hp;split
   ·simpa using this
   ·exact Nat.lt_succ_of_lt this
theorem Z3u (z:RZ):∀(T:List RZ),(T0 T z).length≤T.length+1
 | []=>by simp[T0]
 | x::l=>by
  unfold T0;split
  ·have:=Z3u z l;simp;omega
  ·have:=List.length_filter_le (fun y:RZ=>decide (y.path≠z.path)) (x::l);rw[bd];omega
theorem O4 {z y:RZ}(e:y.path=z.path):∀{T:List RZ},y∈T→(T0 T z).length≤T.length
 | x::l,h=>by
  unfold T0;split
  ·next a =>
   rcases bi.1 h with rfl | h
   ·exact de e (Vo a)
   ·have:=O4 e h;simp;omega
  ·have:=Sj (p:=fun y:RZ=>decide (y.path≠z.path)) h (by simp[e]);rw[bd];omega
structure IsP (s:ByteArray)(r:List UInt8):Prop where
 bytes:s.data.toList=47::r
 names:nmZ s=Nr r
 good:∀x∈Nr r,Zh7 x=true
 few:(Nr r).length≤8
 ne:s≠Zz
theorem IsP.base {s:ByteArray}{r:List UInt8}(h:IsP s r):Zf3 s=⟨(Z0r r).2.toArray⟩:=by unfold Zf3;rw[h.names];unfold Nr;simp
theorem IsP.split {s:ByteArray}{r:List UInt8}(h:IsP s r):s.data.toList=(Qi (Z0r r).1).data.toList++47::(Z0r r).2:=by rw[h.bytes,Z1u]
theorem Zke {n:Int}(h:0≤n∧n≤big):0≤upZ n∧upZ n≤big:=by
 unfold upZ;split
 ·exact h
 ·have:n≠big:=by assumption
  omega
theorem Zgc {n:Int}:inZ n=true↔0≤n∧n≤big:=by unfold inZ;simp
theorem RgZ.set {z:RZ}(h:RgZ z){a:Int}(b:inZ a=true){d:ByteArray}(hd:d.size≤1024):RgZ {z with data:=d,ch:=a,ve:=upZ z.ve} :=
 ⟨hd,h.cr,Zgc.1 b,h.ci,Zke h.ve,h.ki,h.ow,h.nx⟩
theorem Wz.upd {T:List RZ}(h:Wz T){z b:RZ}(f:z∈T)(c:b.path=z.path)(o:b.ow=z.ow)(hr:RgZ b):Wz (T0 T b):=by
 have keep:∀y∈T,y.ow=0→∃d∈T0 T b,d.path=y.path∧d.ow=0:=fun y hy m=>by
  by_cases e:y.path=b.path
  ·have:=Zck h.srt hy f (e.trans c);subst this;exact⟨b,F2.2 (.inl rfl),c,o.trans m⟩
  ·exact⟨y,F2.2 (.inr ⟨hy,e⟩),rfl,m⟩
 refine⟨Un h.srt,ca (O4 c.symm f) h.len,?_,fun y hy=>?_,fun y hy=>?_,fun y hy a=>?_⟩
 ·obtain⟨y,hy,g,j⟩:=h.root;obtain⟨d,i,k,l⟩:=keep y hy j;exact⟨d,i,k.trans g,l⟩
 ·rcases F2.1 hy with rfl | ⟨hy,-⟩
  ·rw[c];exact h.valid z f
  ·exact h.valid y hy
 ·rcases F2.1 hy with rfl | ⟨hy,-⟩
  ·exact hr
  ·exact h.rg y hy
 ·have:∃q∈T,q.path=(Q5 y.path).1∧q.ow=0:=by
   rcases F2.1 hy with rfl | ⟨hy,-⟩
   ·rw[c] at a⊢;exact h.up z f a
   ·exact h.up y hy a
  obtain⟨q,g,j,i⟩:=this;obtain⟨n,k,l,p⟩:=keep q g i;exact⟨n,k,l.trans j,p⟩
theorem Wz.add {T:List RZ}(h:Wz T){z p:RZ}(hf:Ziv T z.path=none)(d:p∈T)(e:p.path=(Q5 z.path).1)(g:p.ow=0)(hr:RgZ z)(i:Za4 z.path=true)(j:T.length < 200):Wz (T0 T z):=by
 have c:=Z8c.1 hf;have keep:∀y∈T,y∈T0 T z:=fun y hy=>F2.2 (.inr ⟨hy,c y hy⟩);refine⟨Un h.srt,ca (Z3u z T) j,?_,fun y hy=>?_,fun y hy=>?_,fun y hy a=>?_⟩
 ·obtain⟨y,hy,b⟩:=h.root;exact⟨y,keep y hy,b⟩
 ·rcases F2.1 hy with rfl | ⟨hy,-⟩
  ·exact i
  ·exact h.valid y hy
 ·rcases F2.1 hy with rfl | ⟨hy,-⟩
  ·exact hr
  ·exact h.rg y hy
 ·rcases F2.1 hy with rfl | ⟨hy,-⟩
  ·exact⟨p,keep p d,e,g⟩
  ·obtain⟨q,b,f⟩:=h.up y hy a;exact⟨q,keep q b,f⟩
structure RT where
 kind:Int
 se:Int
 nu:Int
 sp:Int
 no:Int
 l:List RC
structure RRp where
 code:Int
 se:Int
 ps:List ByteArray
def rp (e:Int):RRp:=⟨e,0,[]⟩
end Go.Proofs.YtihfaocdpmmooaaGreat
