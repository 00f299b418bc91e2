
import Derived.Test.YtmmdikhljefeiaaGreatBM
import Derived.Lib.SplitLaws
import Derived.Laws.RangeAny
import Derived.Sort.Walk0
namespace Go.Proofs.YtmmdikhljefeiaaGreat
open Go.RowKit
def X2:ByteArray:=⟨#[47]⟩
def Zgp:ByteArray:=⟨#[46]⟩
def Zgo:ByteArray:=⟨#[46,46]⟩
def noS:ByteArray:=⟨#[]⟩
def Zgi (n:Int):Bool:=decide (97<=n/\n<=122\/65<=n/\n<=90\/48<=n/\n<=57\/n=46\/n=45\/n=95)
def Zgn (c:UInt8):Bool:=Zgi c.toNat
def Zc1 (s:ByteArray):Bool:=s.data.toList.all Zgn&&decide (1<=s.size/\s.size<=60/\s≠Zgp/\s≠Zgo)
def spl (p:List ByteArray × List UInt8)(c:UInt8):List ByteArray × List UInt8:=if c=47 then(p.1++[⟨p.2.toArray⟩],[]) else(p.1,p.2++[c])
def Y5 (l:List UInt8):List ByteArray × List UInt8:=l.foldl spl ([],[])
def Jg (l:List UInt8):List ByteArray:=(Y5 l).1++[⟨(Y5 l).2.toArray⟩]
def Yz (s:ByteArray):List ByteArray:=match s.data.toList with
 | 47::r=>if(Jg r).all Zc1=true then Jg r else []
 | _=>[]
def Z7i (s:ByteArray):Option (List ByteArray):=if s=X2 then some [] else if Yz s≠[]/\(Yz s).length<=8 then some (Yz s) else none
def Z7b (s:ByteArray):Bool:=(Z7i s).isSome
def nmZ (s:ByteArray):List ByteArray:=(Z7i s).getD []
def Zc0 (s:ByteArray):ByteArray:=((nmZ s).getLast?).getD noS
def P7 (l:List ByteArray):ByteArray:=l.foldl (λa x=>a++X2++x) noS
def Zb3 (l:List ByteArray):ByteArray:=if l=[] then X2 else P7 l
def Kg (s:ByteArray):ByteArray × Bool:=if nmZ s=[] then(noS,false) else(Zb3 (nmZ s).dropLast,true)
theorem Z0v (l:List UInt8)(c:UInt8):Y5 (l++[c])=spl (Y5 l) c:=by unfold Y5;rw[List.foldl_append];rfl
theorem Zi (l:List UInt8):Jg l≠[]:=by unfold Jg;simp
theorem Z7r (l:List UInt8):(⟨l.toArray⟩:ByteArray).data.toList=l:=by simp
theorem Z4x {a b:ByteArray}(h:a.data.toList=b.data.toList):a=b:=by
 cases a;cases b
 congr
 simpa using congrArg List.toArray h
theorem Z6w (a b:ByteArray):(a++b).data.toList=a.data.toList++b.data.toList:=by simp
theorem Z0z (l:List ByteArray)(x:ByteArray):P7 (l++[x])=P7 l++X2++x:=by unfold P7;rw[List.foldl_append];rfl
theorem Z03 (r:List UInt8):(P7 (Y5 r).1).data.toList++47::(Y5 r).2=47::r:=by
 induction h:r.length generalizing r with
 | zero=>rw[az h];rfl
 | succ n ih =>
  have b:r≠[]:=λe=>by rw[e] at h;cases h
  have e:=(List.dropLast_concat_getLast b).symm;have a:=ih r.dropLast (by simp[h]);rw[e,Z0v];revert a;generalize Y5 r.dropLast=p;intro a;unfold spl;split
  .next c =>
   rw[Z0z,Z6w,Z6w,Z7r];show(P7 p.1).data.toList++[47]++p.2++[47]=_;rw[cf (P7 p.1).data.toList,List.singleton_append,a,c];rfl
  .show(P7 p.1).data.toList++47::(p.2++[_])=_;rw[<-dm,<-cf,a];rfl
def ltS (a b:ByteArray):Bool:=Op.bytesLess a.toList b.toList
theorem Jq (a b:ByteArray):ltS a b=true↔a.data.toList < b.data.toList:=by unfold ltS;rw[Go.Proofs.bytesLess_eq,Lib.toList_data,Lib.toList_data];simp
theorem Xn (a:ByteArray):ltS a a=false:=by
 cases h:ltS a a with
 | false=>rfl
 | true=>exact dt ((Jq a a).1 h) (List.lt_irrefl _)
theorem Z2e {a b c:ByteArray}(e:ltS a b=true)(d:ltS b c=true):ltS a c=true :=
 (Jq a c).2 (List.lt_trans ((Jq a b).1 e) ((Jq b c).1 d))
theorem R7 {a b:ByteArray}(c:ltS a b=false)(d:a≠b):ltS b a=true:=by
 refine(Jq b a).2 ?_;have c:¬a.data.toList < b.data.toList:=λh=>by rw[(Jq a b).2 h] at c;cases c
 rcases Classical.em (b.data.toList < a.data.toList) with h | h
 .exact h
 .exact dt (Z4x (List.le_antisymm (List.not_lt.1 h) (List.not_lt.1 c))) d
theorem W0 {a b:ByteArray}(h:ltS a b=true):a≠b:=λe=>by rw[e,Xn] at h;cases h
structure RZ where
 path:ByteArray
 data:ByteArray
 cr:Int
 ch:Int
 ci:Int
 ve:Int
 ki:Int
 ow:Int
 nx:Int
structure RC where
 kind:Int
 path:ByteArray
 data:ByteArray
 ve:Int
 ep:Bool
 sq:Bool
def Zfa (T:List RZ)(p:ByteArray):Option RZ:=T.find? λz=>decide (z.path=p)
def Rz:List RZ->RZ->List RZ
 | [],z=>[z]
 | x::l,z=>if ltS x.path z.path=true then x::Rz l z else z::(x::l).filter λy=>decide (y.path≠z.path)
def big:Int:=4611686018427387904
def inZ (n:Int):Bool:=decide (0<=n/\n<=big)
def upZ (n:Int):Int:=if n=big then n else n+1
abbrev Srt (T:List RZ):Prop:=T.Pairwise λa b=>ltS a.path b.path=true
structure RgZ (z:RZ):Prop where
 data:z.data.size<=1024
 cr:0<=z.cr/\z.cr<=big
 ch:0<=z.ch/\z.ch<=big
 ci:0<=z.ci/\z.ci<=big
 ve:0<=z.ve/\z.ve<=big
 ki:0<=z.ki/\z.ki<=big
 ow:0<=z.ow/\z.ow<=big
 nx:0<=z.nx/\z.nx<=big
structure Wz (T:List RZ):Prop where
 srt:Srt T
 len:T.length<=200
 root:∃z∈T,z.path=X2/\z.ow=0
 valid:∀z∈T,Z7b z.path=true
 rg:∀z∈T,RgZ z
 up:∀z∈T,(Kg z.path).2=true->∃p∈T,p.path=(Kg z.path).1/\p.ow=0
theorem Ek {y z:RZ}:∀{T:List RZ},y∈Rz T z↔y=z\/(y∈T/\y.path≠z.path)
 | []=>by simp[Rz]
 | x::l=>by
  unfold Rz;split
  .next h =>
   rw[bq,Ek,bq];constructor
   .rintro(rfl | h | ⟨h,h'⟩)
    .exact .inr ⟨.inl rfl,W0 h⟩
    .exact .inl h
    .exact .inr ⟨.inr h,h'⟩
   .rintro(h | ⟨rfl | h,h'⟩)
    .exact .inr (.inl h)
    .exact .inl rfl
    .exact .inr (.inr ⟨h,h'⟩)
  .rw[bq,af];simp
theorem U3 {z:RZ}:∀{T:List RZ},Srt T->Srt (Rz T z)
 | [],_=>by simp[Rz]
 | x::l,h=>by
  obtain⟨d,f⟩:=List.pairwise_cons.1 h;unfold Rz;split
  .next c =>
   refine List.pairwise_cons.2 ⟨λy a=>?_,U3 f⟩;rcases Ek.1 a with rfl | ⟨a,-⟩
   .exact c
   .exact d y a
  .next c =>
   have c:ltS x.path z.path=false:=by simpa using c
   refine List.pairwise_cons.2 ⟨λy a=>?_,h.filter _⟩;obtain⟨a,b⟩:=af.1 a;have b:y.path≠z.path:=by simpa using b
   rcases bq.1 a with rfl | a
   .exact R7 c b
   .by_cases e:x.path=z.path
    .rw[<-e];exact d y a
    .exact Z2e (R7 c e) (d y a)
theorem Zac {T:List RZ}(h:Srt T){x y:RZ}(i:x∈T)(j:y∈T)(e:x.path=y.path):x=y:=by
 induction T with
 | nil=>cases i
 | cons a T ih =>
  obtain⟨g,k⟩:=List.pairwise_cons.1 h;rcases bq.1 i with d | b<;>rcases bq.1 j with f | c
  .rw[d,f]
  .exact dt e (W0 (by rw[d];exact g y c))
  .exact dt e.symm (W0 (by rw[f];exact g x b))
  .exact ih k b c
theorem get_none {T:List RZ}{p:ByteArray}:Zfa T p=none↔∀z∈T,z.path≠p:=by unfold Zfa;rw[List.find?_eq_none];simp
theorem Q0 {α:Type}{p:α->Bool}:∀{l:List α} {x:α},x∈l->p x=false->(l.filter p).length < l.length
 | y::l,x,a,hp=>by
  rw[List.filter_cons];rcases bq.1 a with rfl | a
  .rw[dp (by simp[hp])];exact Nat.lt_succ_of_le (ah _ _)
  .have:=Q0 a hp;split
   .simpa using this
   .exact Nat.lt_succ_of_lt this
theorem Z1k (z:RZ):∀(T:List RZ),(Rz T z).length<=T.length+1
 | []=>by simp[Rz]
 | x::l=>by
  unfold Rz;split
  .have:=Z1k z l;simp;omega
  .have:=ah (λy:RZ=>decide (y.path≠z.path)) (x::l);rw[bn];omega
theorem O4 {z y:RZ}(e:y.path=z.path):∀{T:List RZ},y∈T->(Rz T z).length<=T.length
 | x::l,h=>by
  unfold Rz;split
  .next a =>
   rcases bq.1 h with rfl | h
   .exact dt e (W0 a)
   .have:=O4 e h;simp;omega
  .have:=Q0 (p:=λy:RZ=>decide (y.path≠z.path)) h (by simp[e]);rw[bn];omega
structure IsP (s:ByteArray)(r:List UInt8):Prop where
 bytes:s.data.toList=47::r
 names:nmZ s=Jg r
 good:∀x∈Jg r,Zc1 x=true
 few:(Jg r).length<=8
 ne:s≠X2
theorem IsP.parent {s:ByteArray}{r:List UInt8}(h:IsP s r):Kg s=(Zb3 (Y5 r).1,true):=by unfold Kg;rw[h.names,dp (Zi r)];unfold Jg;rw[List.dropLast_concat]
theorem IsP.base {s:ByteArray}{r:List UInt8}(h:IsP s r):Zc0 s=⟨(Y5 r).2.toArray⟩:=by unfold Zc0;rw[h.names];unfold Jg;simp
theorem IsP.split {s:ByteArray}{r:List UInt8}(h:IsP s r):s.data.toList=(P7 (Y5 r).1).data.toList++47::(Y5 r).2:=by rw[h.bytes,Z03]
theorem Zev {n:Int}(h:0<=n/\n<=big):0<=upZ n/\upZ n<=big:=by
 unfold upZ;split
 .exact h
 .have:n≠big:=by assumption
  omega
theorem Zcs {n:Int}:inZ n=true↔0<=n/\n<=big:=by unfold inZ;simp
theorem RgZ.set {z:RZ}(h:RgZ z){a:Int}(b:inZ a=true){d:ByteArray}(hd:d.size<=1024):RgZ {z with data:=d,ch:=a,ve:=upZ z.ve} :=
 ⟨hd,h.cr,Zcs.1 b,h.ci,Zev h.ve,h.ki,h.ow,h.nx⟩
theorem Wz.upd {T:List RZ}(h:Wz T){z c:RZ}(f:z∈T)(d:c.path=z.path)(n:c.ow=z.ow)(hr:RgZ c):Wz (Rz T c):=by
 have keep:∀y∈T,y.ow=0->∃y'∈Rz T c,y'.path=y.path/\y'.ow=0:=λy a m=>by
  by_cases e:y.path=c.path
  .have:=Zac h.srt a f (e.trans d);subst this;exact⟨c,Ek.2 (.inl rfl),d,n.trans m⟩
  .exact⟨y,Ek.2 (.inr ⟨a,e⟩),rfl,m⟩
 refine⟨U3 h.srt,cn (O4 d.symm f) h.len,?_,λy a=>?_,λy a=>?_,λy a b=>?_⟩
 .obtain⟨y,a,i,g⟩:=h.root;obtain⟨y',l,j,k⟩:=keep y a g;exact⟨y',l,j.trans i,k⟩
 .rcases Ek.1 a with rfl | ⟨a,-⟩
  .rw[d];exact h.valid z f
  .exact h.valid y a
 .rcases Ek.1 a with rfl | ⟨a,-⟩
  .exact hr
  .exact h.rg y a
 .have:∃q∈T,q.path=(Kg y.path).1/\q.ow=0:=by
   rcases Ek.1 a with rfl | ⟨a,-⟩
   .rw[d] at b⊢;exact h.up z f b
   .exact h.up y a b
  obtain⟨q,i,g,l⟩:=this;obtain⟨p,j,k,o⟩:=keep q i l;exact⟨p,j,k.trans g,o⟩
theorem Wz.add {T:List RZ}(h:Wz T){z p:RZ}(l:Zfa T z.path=none)(f:p∈T)(e:p.path=(Kg z.path).1)(g:p.ow=0)(hr:RgZ z)(j:Z7b z.path=true)(k:T.length < 200):Wz (Rz T z):=by
 have d:=get_none.1 l;have keep:∀y∈T,y∈Rz T z:=λy a=>Ek.2 (.inr ⟨a,d y a⟩);refine⟨U3 h.srt,cn (Z1k z T) k,?_,λy a=>?_,λy a=>?_,λy a b=>?_⟩
 .obtain⟨y,a,c⟩:=h.root;exact⟨y,keep y a,c⟩
 .rcases Ek.1 a with rfl | ⟨a,-⟩
  .exact j
  .exact h.valid y a
 .rcases Ek.1 a with rfl | ⟨a,-⟩
  .exact hr
  .exact h.rg y a
 .rcases Ek.1 a with rfl | ⟨a,-⟩
  .exact⟨p,keep p f,e,g⟩
  .obtain⟨q,c,i⟩:=h.up y a b;exact⟨q,keep q c,i⟩
structure RT where
 kind:Int
 se:Int
 nu:Int
 sp:Int
 no:Int
 l:List RC
end Go.Proofs.YtmmdikhljefeiaaGreat
