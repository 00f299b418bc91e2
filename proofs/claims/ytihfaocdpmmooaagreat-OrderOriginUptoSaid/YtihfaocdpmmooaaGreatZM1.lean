
import Derived.Test.YtihfaocdpmmooaaGreatZKeys
import Derived.Lib.SplitLaws
import Derived.Laws.RangeAny
import Derived.Test.YtihfaocdpmmooaaGreatZMap
import Derived.Sort.Walk0
namespace Go.Proofs.YtihfaocdpmmooaaGreat
open Go.RowKit
def Wb:ByteArray:=⟨#[47]⟩
def Zgl:ByteArray:=⟨#[46]⟩
def Zgv:ByteArray:=⟨#[46,46]⟩
def noS:ByteArray:=⟨#[]⟩
def Zgi (n:Int):Bool:=decide (97≤n∧n≤122∨65≤n∧n≤90∨48≤n∧n≤57∨n=46∨n=45∨n=95)
def Zh0 (c:UInt8):Bool:=Zgi c.toNat
def Zbk (s:ByteArray):Bool:=s.data.toList.all Zh0&&decide (1≤s.size∧s.size≤60∧s≠Zgl∧s≠Zgv)
def spl (p:List ByteArray × List UInt8)(c:UInt8):List ByteArray × List UInt8:=if c=47 then(p.1++[⟨p.2.toArray⟩],[]) else(p.1,p.2++[c])
def Z00 (l:List UInt8):List ByteArray × List UInt8:=l.foldl spl ([],[])
def Ms (l:List UInt8):List ByteArray:=(Z00 l).1++[⟨(Z00 l).2.toArray⟩]
def Z5 (s:ByteArray):List ByteArray:=match s.data.toList with
 | 47::r=>if(Ms r).all Zbk=true then Ms r else []
 | _=>[]
def Z6e (s:ByteArray):Option (List ByteArray):=if s=Wb then some [] else if Z5 s≠[]∧(Z5 s).length≤8 then some (Z5 s) else none
def Z6o (s:ByteArray):Bool:=(Z6e s).isSome
def nmZ (s:ByteArray):List ByteArray:=(Z6e s).getD []
def Zc7 (s:ByteArray):ByteArray:=((nmZ s).getLast?).getD noS
def Oh (l:List ByteArray):ByteArray:=l.foldl (fun a x=>a++Wb++x) noS
def Zem (l:List ByteArray):ByteArray:=if l=[] then Wb else Oh l
def Oj (s:ByteArray):ByteArray × Bool:=if nmZ s=[] then(noS,false) else(Zem (nmZ s).dropLast,true)
theorem Z11 (l:List UInt8)(c:UInt8):Z00 (l++[c])=spl (Z00 l) c:=by unfold Z00;rw[List.foldl_append];rfl
theorem Z90 (l:List UInt8):(⟨l.toArray⟩:ByteArray).data.toList=l:=by simp
theorem Z5a {a b:ByteArray}(h:a.data.toList=b.data.toList):a=b:=by
 cases a;cases b
 congr
 simpa using congrArg List.toArray h
theorem Z6c (a b:ByteArray):(a++b).data.toList=a.data.toList++b.data.toList:=by simp
theorem Z0j (l:List ByteArray)(x:ByteArray):Oh (l++[x])=Oh l++Wb++x:=by unfold Oh;rw[List.foldl_append];rfl
theorem Zs (r:List UInt8):(Oh (Z00 r).1).data.toList++47::(Z00 r).2=47::r:=by
 induction h:r.length generalizing r with
 | zero=>rw[List.eq_nil_of_length_eq_zero h];rfl
 | succ n ih =>
  have hne:r≠[]:=fun e=>by rw[e] at h;cases h
  have e:=(List.dropLast_concat_getLast hne).symm
  have hih:=ih r.dropLast (by simp[h])
  rw[e,Z11]
  revert hih
  generalize Z00 r.dropLast=p
  intro hih
  unfold spl
  split
  ·next hc =>
   rw[Z0j,Z6c,Z6c,Z90]
   show(Oh p.1).data.toList++[47]++p.2++[47]=_
   rw[List.append_assoc (Oh p.1).data.toList,List.singleton_append,hih,hc];rfl
  ·show(Oh p.1).data.toList++47::(p.2++[_])=_
   rw[←List.cons_append,←List.append_assoc,hih];rfl
end Go.Proofs.YtihfaocdpmmooaaGreat
namespace Go.Proofs.YtihfaocdpmmooaaGreat
open Go.RowKit
def ltS (a b:ByteArray):Bool:=Op.bytesLess a.toList b.toList
theorem Jr (a b:ByteArray):ltS a b=true↔a.data.toList < b.data.toList:=by
 unfold ltS
 rw[Go.Proofs.bytesLess_eq,Lib.toList_data,Lib.toList_data]
 simp
theorem Wv (a:ByteArray):ltS a a=false:=by
 cases h:ltS a a with
 | false=>rfl
 | true=>exact absurd ((Jr a a).1 h) (List.lt_irrefl _)
theorem Z17 {a b c:ByteArray}(h1:ltS a b=true)(h2:ltS b c=true):ltS a c=true :=
 (Jr a c).2 (List.lt_trans ((Jr a b).1 h1) ((Jr b c).1 h2))
theorem Q3 {a b:ByteArray}(h1:ltS a b=false)(h2:a≠b):ltS b a=true:=by
 refine(Jr b a).2 ?_
 have h1:¬a.data.toList < b.data.toList:=fun h=>by rw[(Jr a b).2 h] at h1;cases h1
 rcases Classical.em (b.data.toList < a.data.toList) with h | h
 ·exact h
 ·exact absurd (Z5a (List.le_antisymm (List.not_lt.1 h) (List.not_lt.1 h1))) h2
theorem Um {a b:ByteArray}(h:ltS a b=true):a≠b:=fun e=>by rw[e,Wv] at h;cases h
structure RZ where
 path:ByteArray
 data:ByteArray
 cr:Int
 ch:Int
 ci:Int
 ve:Int
 ki:Int
 ow:Int
 nx:Int
structure RC where
 kind:Int
 path:ByteArray
 data:ByteArray
 ve:Int
 ep:Bool
 sq:Bool
def Zeh (T:List RZ)(p:ByteArray):Option RZ:=T.find? fun z=>decide (z.path=p)
def Rf:List RZ→RZ→List RZ
 | [],z=>[z]
 | x::l,z=>if ltS x.path z.path=true then x::Rf l z else z::(x::l).filter fun y=>decide (y.path≠z.path)
def big:Int:=4611686018427387904
def inZ (n:Int):Bool:=decide (0≤n∧n≤big)
def upZ (n:Int):Int:=if n=big then n else n+1
abbrev Srt (T:List RZ):Prop:=T.Pairwise fun a b=>ltS a.path b.path=true
structure RgZ (z:RZ):Prop where
 data:z.data.size≤1024
 cr:0≤z.cr∧z.cr≤big
 ch:0≤z.ch∧z.ch≤big
 ci:0≤z.ci∧z.ci≤big
 ve:0≤z.ve∧z.ve≤big
 ki:0≤z.ki∧z.ki≤big
 ow:0≤z.ow∧z.ow≤big
 nx:0≤z.nx∧z.nx≤big
structure Wz (T:List RZ):Prop where
 srt:Srt T
 len:T.length≤200
 root:∃z∈T,z.path=Wb∧z.ow=0
 valid:∀z∈T,Z6o z.path=true
 rg:∀z∈T,RgZ z
 up:∀z∈T,(Oj z.path).2=true→∃p∈T,p.path=(Oj z.path).1∧p.ow=0
theorem En {y z:RZ}:∀{T:List RZ},y∈Rf T z↔y=z∨(y∈T∧y.path≠z.path)
 | []=>by simp[Rf]
 | x::l=>by
  unfold Rf
  split
  ·next h =>
   rw[List.mem_cons,En,List.mem_cons]
   constructor
   ·rintro(rfl | h | ⟨h,h'⟩)
    ·exact .inr ⟨.inl rfl,Um h⟩
    ·exact .inl h
    ·exact .inr ⟨.inr h,h'⟩
   ·rintro(h | ⟨rfl | h,h'⟩)
    ·exact .inr (.inl h)
    ·exact .inl rfl
    ·exact .inr (.inr ⟨h,h'⟩)
  ·rw[List.mem_cons,List.mem_filter];simp
theorem Ry {z:RZ}:∀{T:List RZ},Srt T→Srt (Rf T z)
 | [],_=>by simp[Rf]
 | x::l,h=>by
  obtain⟨h1,h2⟩:=List.pairwise_cons.1 h
  unfold Rf
  split
  ·next hx =>
   refine List.pairwise_cons.2 ⟨fun y hy=>?_,Ry h2⟩
   rcases En.1 hy with rfl | ⟨hy,-⟩
   ·exact hx
   ·exact h1 y hy
  ·next hx =>
   have hx:ltS x.path z.path=false:=by simpa using hx
   refine List.pairwise_cons.2 ⟨fun y hy=>?_,h.filter _⟩
   obtain⟨hy,hne⟩:=List.mem_filter.1 hy
   have hne:y.path≠z.path:=by simpa using hne
   rcases List.mem_cons.1 hy with rfl | hy
   ·exact Q3 hx hne
   ·by_cases e:x.path=z.path
    ·rw[←e];exact h1 y hy
    ·exact Z17 (Q3 hx e) (h1 y hy)
theorem Z9p {T:List RZ}(h:Srt T){x y:RZ}(hx:x∈T)(hy:y∈T)(e:x.path=y.path):x=y:=by
 induction T with
 | nil=>cases hx
 | cons a T ih =>
  obtain⟨h1,h2⟩:=List.pairwise_cons.1 h
  rcases List.mem_cons.1 hx with ex | hx'<;>rcases List.mem_cons.1 hy with ey | hy'
  ·rw[ex,ey]
  ·exact absurd e (Um (by rw[ex];exact h1 y hy'))
  ·exact absurd e.symm (Um (by rw[ey];exact h1 x hx'))
  ·exact ih h2 hx' hy'
theorem Z5u {T:List RZ}{p:ByteArray}:Zeh T p=none↔∀z∈T,z.path≠p:=by
 unfold Zeh
 rw[List.find?_eq_none]
 simp
theorem R2 {α:Type}{p:α→Bool}:∀{l:List α} {x:α},x∈l→p x=false→(l.filter p).length < l.length
 | y::l,x,hx,hp=>by
  rw[List.filter_cons]
  rcases List.mem_cons.1 hx with rfl | hx
  ·rw[if_neg (by simp[hp])]
   exact Nat.lt_succ_of_le (List.length_filter_le _ _)
  ·have:=R2 hx hp
   split
   ·simpa using this
   ·exact Nat.lt_succ_of_lt this
theorem Z2a (z:RZ):∀(T:List RZ),(Rf T z).length≤T.length+1
 | []=>by simp[Rf]
 | x::l=>by
  unfold Rf
  split
  ·have:=Z2a z l;simp;omega
  ·have:=List.length_filter_le (fun y:RZ=>decide (y.path≠z.path)) (x::l)
   rw[List.length_cons];omega
theorem N5 {z y:RZ}(e:y.path=z.path):∀{T:List RZ},y∈T→(Rf T z).length≤T.length
 | x::l,h=>by
  unfold Rf
  split
  ·next hx =>
   rcases List.mem_cons.1 h with rfl | h
   ·exact absurd e (Um hx)
   ·have:=N5 e h;simp;omega
  ·have:=R2 (p:=fun y:RZ=>decide (y.path≠z.path)) h (by simp[e])
   rw[List.length_cons];omega
end Go.Proofs.YtihfaocdpmmooaaGreat
namespace Go.Proofs.YtihfaocdpmmooaaGreat
open Go.RowKit
structure IsP (s:ByteArray)(r:List UInt8):Prop where
 bytes:s.data.toList=47::r
 names:nmZ s=Ms r
 good:∀x∈Ms r,Zbk x=true
 few:(Ms r).length≤8
 ne:s≠Wb
theorem IsP.base {s:ByteArray}{r:List UInt8}(h:IsP s r):Zc7 s=⟨(Z00 r).2.toArray⟩:=by
 unfold Zc7
 rw[h.names]
 unfold Ms
 simp
theorem IsP.split {s:ByteArray}{r:List UInt8}(h:IsP s r):s.data.toList=(Oh (Z00 r).1).data.toList++47::(Z00 r).2:=by rw[h.bytes,Zs]
theorem Zfn {n:Int}(h:0≤n∧n≤big):0≤upZ n∧upZ n≤big:=by
 unfold upZ
 split
 ·exact h
 ·have:n≠big:=by assumption
  omega
theorem Zar {n:Int}:inZ n=true↔0≤n∧n≤big:=by unfold inZ;simp
theorem RgZ.set {z:RZ}(h:RgZ z){zx:Int}(hz:inZ zx=true){d:ByteArray}(hd:d.size≤1024):RgZ {z with data:=d,ch:=zx,ve:=upZ z.ve} :=
 ⟨hd,h.cr,Zar.1 hz,h.ci,Zfn h.ve,h.ki,h.ow,h.nx⟩
theorem Wz.upd {T:List RZ}(h:Wz T){z z':RZ}(hz:z∈T)(hp:z'.path=z.path)(ho:z'.ow=z.ow)(hr:RgZ z'):Wz (Rf T z'):=by
 have keep:∀y∈T,y.ow=0→∃y'∈Rf T z',y'.path=y.path∧y'.ow=0:=fun y hy h0=>by
  by_cases e:y.path=z'.path
  ·have:=Z9p h.srt hy hz (e.trans hp)
   subst this
   exact⟨z',En.2 (.inl rfl),hp,ho.trans h0⟩
  ·exact⟨y,En.2 (.inr ⟨hy,e⟩),rfl,h0⟩
 refine⟨Ry h.srt,Nat.le_trans (N5 hp.symm hz) h.len,?_,fun y hy=>?_,fun y hy=>?_,fun y hy hpar=>?_⟩
 ·obtain⟨y,hy,h1,h2⟩:=h.root
  obtain⟨y',h3,h4,h5⟩:=keep y hy h2
  exact⟨y',h3,h4.trans h1,h5⟩
 ·rcases En.1 hy with rfl | ⟨hy,-⟩
  ·rw[hp];exact h.valid z hz
  ·exact h.valid y hy
 ·rcases En.1 hy with rfl | ⟨hy,-⟩
  ·exact hr
  ·exact h.rg y hy
 ·have:∃q∈T,q.path=(Oj y.path).1∧q.ow=0:=by
   rcases En.1 hy with rfl | ⟨hy,-⟩
   ·rw[hp] at hpar⊢;exact h.up z hz hpar
   ·exact h.up y hy hpar
  obtain⟨q,h1,h2,h3⟩:=this
  obtain⟨q',h4,h5,h6⟩:=keep q h1 h3
  exact⟨q',h4,h5.trans h2,h6⟩
theorem Wz.add {T:List RZ}(h:Wz T){z p:RZ}(hf:Zeh T z.path=none)(hp:p∈T)(e:p.path=(Oj z.path).1)(ho:p.ow=0)(hr:RgZ z)(hv:Z6o z.path=true)(hl:T.length < 200):Wz (Rf T z):=by
 have hne:=Z5u.1 hf
 have keep:∀y∈T,y∈Rf T z:=fun y hy=>En.2 (.inr ⟨hy,hne y hy⟩)
 refine⟨Ry h.srt,Nat.le_trans (Z2a z T) hl,?_,fun y hy=>?_,fun y hy=>?_,fun y hy hpar=>?_⟩
 ·obtain⟨y,hy,h1⟩:=h.root
  exact⟨y,keep y hy,h1⟩
 ·rcases En.1 hy with rfl | ⟨hy,-⟩
  ·exact hv
  ·exact h.valid y hy
 ·rcases En.1 hy with rfl | ⟨hy,-⟩
  ·exact hr
  ·exact h.rg y hy
 ·rcases En.1 hy with rfl | ⟨hy,-⟩
  ·exact⟨p,keep p hp,e,ho⟩
  ·obtain⟨q,h1,h2⟩:=h.up y hy hpar
   exact⟨q,keep q h1,h2⟩
end Go.Proofs.YtihfaocdpmmooaaGreat
namespace Go.Proofs.YtihfaocdpmmooaaGreat
structure RT where
 kind:Int
 se:Int
 nu:Int
 sp:Int
 no:Int
 l:List RC
structure RRp where
 code:Int
 se:Int
 ps:List ByteArray
def rp (e:Int):RRp:=⟨e,0,[]⟩
end Go.Proofs.YtihfaocdpmmooaaGreat
