
import Derived.Test.YtmmdikhljefeiaaGreatBM
import Derived.Lib.SplitLaws
import Derived.Laws.RangeAny
import Derived.Sort.Walk0
namespace Go.Proofs.YtmmdikhljefeiaaGreat
open Go.RowKit
def Xs:ByteArray:=⟨#[47]⟩
def Zh5:ByteArray:=⟨#[46]⟩
def Zgy:ByteArray:=⟨#[46,46]⟩
def noS:ByteArray:=⟨#[]⟩
def Zgm (n:Int):Bool:=decide (97<=n/\n<=122\/65<=n/\n<=90\/48<=n/\n<=57\/n=46\/n=45\/n=95)
def Zgs (c:UInt8):Bool:=Zgm c.toNat
def Zdr (s:ByteArray):Bool:=s.data.toList.all Zgs&&decide (1<=s.size/\s.size<=60/\s≠Zh5/\s≠Zgy)
def spl (p:List ByteArray × List UInt8)(c:UInt8):List ByteArray × List UInt8:=if c=47 then(p.1++[⟨p.2.toArray⟩],[]) else(p.1,p.2++[c])
def Yi (l:List UInt8):List ByteArray × List UInt8:=l.foldl spl ([],[])
def Ji (l:List UInt8):List ByteArray:=(Yi l).1++[⟨(Yi l).2.toArray⟩]
def Z1w (s:ByteArray):List ByteArray:=match s.data.toList with
 | 47::r=>if(Ji r).all Zdr=true then Ji r else []
 | _=>[]
def Z7c (s:ByteArray):Option (List ByteArray):=if s=Xs then some [] else if Z1w s≠[]/\(Z1w s).length<=8 then some (Z1w s) else none
def Z7w (s:ByteArray):Bool:=(Z7c s).isSome
def nmZ (s:ByteArray):List ByteArray:=(Z7c s).getD []
def Zbo (s:ByteArray):ByteArray:=((nmZ s).getLast?).getD noS
def Pq (l:List ByteArray):ByteArray:=l.foldl (λa x=>a++Xs++x) noS
def Zcx (l:List ByteArray):ByteArray:=if l=[] then Xs else Pq l
def Jx (s:ByteArray):ByteArray × Bool:=if nmZ s=[] then(noS,false) else(Zcx (nmZ s).dropLast,true)
theorem Z0j (l:List UInt8)(c:UInt8):Yi (l++[c])=spl (Yi l) c:=by unfold Yi;rw[List.foldl_append];rfl
theorem Z06 (l:List UInt8):Ji l≠[]:=by unfold Ji;simp
theorem Za9 (l:List UInt8):(⟨l.toArray⟩:ByteArray).data.toList=l:=by simp
theorem Z4p {a b:ByteArray}(h:a.data.toList=b.data.toList):a=b:=by
 cases a;cases b
 congr
 simpa using congrArg List.toArray h
theorem Z7f (a b:ByteArray):(a++b).data.toList=a.data.toList++b.data.toList:=by simp
theorem Z0a (l:List ByteArray)(x:ByteArray):Pq (l++[x])=Pq l++Xs++x:=by unfold Pq;rw[List.foldl_append];rfl
theorem Z2v (r:List UInt8):(Pq (Yi r).1).data.toList++47::(Yi r).2=47::r:=by
 induction h:r.length generalizing r with
 | zero=>rw[ay h];rfl
 | succ n ih =>
  have b:r≠[]:=λe=>by rw[e] at h;cases h
  have e:=(List.dropLast_concat_getLast b).symm;have a:=ih r.dropLast (by simp[h]);rw[e,Z0j];revert a;generalize Yi r.dropLast=p;intro a;unfold spl;split
  .next c =>
   rw[Z0a,Z7f,Z7f,Za9];show(Pq p.1).data.toList++[47]++p.2++[47]=_;rw[cg (Pq p.1).data.toList,List.singleton_append,a,c];rfl
  .show(Pq p.1).data.toList++47::(p.2++[_])=_;rw[<-dn,<-cg,a];rfl
def ltS (a b:ByteArray):Bool:=Op.bytesLess a.toList b.toList
theorem Ka (a b:ByteArray):ltS a b=true↔a.data.toList < b.data.toList:=by unfold ltS;rw[Go.Proofs.bytesLess_eq,Lib.toList_data,Lib.toList_data];simp
theorem Xo (a:ByteArray):ltS a a=false:=by
 cases h:ltS a a with
 | false=>rfl
 | true=>exact du ((Ka a a).1 h) (List.lt_irrefl _)
theorem Zv {a b c:ByteArray}(d:ltS a b=true)(e:ltS b c=true):ltS a c=true :=
 (Ka a c).2 (List.lt_trans ((Ka a b).1 d) ((Ka b c).1 e))
theorem Rn {a b:ByteArray}(c:ltS a b=false)(d:a≠b):ltS b a=true:=by
 refine(Ka b a).2 ?_;have c:¬a.data.toList < b.data.toList:=λh=>by rw[(Ka a b).2 h] at c;cases c
 rcases Classical.em (b.data.toList < a.data.toList) with h | h
 .exact h
 .exact du (Z4p (List.le_antisymm (List.not_lt.1 h) (List.not_lt.1 c))) d
theorem Wj {a b:ByteArray}(h:ltS a b=true):a≠b:=λe=>by rw[e,Xo] at h;cases h
structure RZ where
 path:ByteArray
 data:ByteArray
 cr:Int
 ch:Int
 ci:Int
 ve:Int
 ki:Int
 ow:Int
 nx:Int
structure RC where
 kind:Int
 path:ByteArray
 data:ByteArray
 ve:Int
 ep:Bool
 sq:Bool
def Zfo (T:List RZ)(p:ByteArray):Option RZ:=T.find? λz=>decide (z.path=p)
def Sj:List RZ->RZ->List RZ
 | [],z=>[z]
 | x::l,z=>if ltS x.path z.path=true then x::Sj l z else z::(x::l).filter λy=>decide (y.path≠z.path)
def big:Int:=4611686018427387904
def inZ (n:Int):Bool:=decide (0<=n/\n<=big)
def upZ (n:Int):Int:=if n=big then n else n+1
abbrev Srt (T:List RZ):Prop:=T.Pairwise λa b=>ltS a.path b.path=true
structure RgZ (z:RZ):Prop where
 data:z.data.size<=1024
 cr:0<=z.cr/\z.cr<=big
 ch:0<=z.ch/\z.ch<=big
 ci:0<=z.ci/\z.ci<=big
 ve:0<=z.ve/\z.ve<=big
 ki:0<=z.ki/\z.ki<=big
 ow:0<=z.ow/\z.ow<=big
 nx:0<=z.nx/\z.nx<=big
structure Wz (T:List RZ):Prop where
 srt:Srt T
 len:T.length<=200
 root:∃z∈T,z.path=Xs/\z.ow=0
 valid:∀z∈T,Z7w z.path=true
 rg:∀z∈T,RgZ z
 up:∀z∈T,(Jx z.path).2=true->∃p∈T,p.path=(Jx z.path).1/\p.ow=0
theorem Eo {y z:RZ}:∀{T:List RZ},y∈Sj T z↔y=z\/(y∈T/\y.path≠z.path)
 | []=>by simp[Sj]
 | x::l=>by
  unfold Sj;split
  .next h =>
   rw[bq,Eo,bq];constructor
   .rintro(rfl | h | ⟨h,h'⟩)
    .exact .inr ⟨.inl rfl,Wj h⟩
    .exact .inl h
    .exact .inr ⟨.inr h,h'⟩
   .rintro(h | ⟨rfl | h,h'⟩)
    .exact .inr (.inl h)
    .exact .inl rfl
    .exact .inr (.inr ⟨h,h'⟩)
  .rw[bq,af];simp
theorem T0 {z:RZ}:∀{T:List RZ},Srt T->Srt (Sj T z)
 | [],_=>by simp[Sj]
 | x::l,h=>by
  obtain⟨d,f⟩:=List.pairwise_cons.1 h;unfold Sj;split
  .next c =>
   refine List.pairwise_cons.2 ⟨λy a=>?_,T0 f⟩;rcases Eo.1 a with rfl | ⟨a,-⟩
   .exact c
   .exact d y a
  .next c =>
   have c:ltS x.path z.path=false:=by simpa using c
   refine List.pairwise_cons.2 ⟨λy a=>?_,h.filter _⟩;obtain⟨a,b⟩:=af.1 a;have b:y.path≠z.path:=by simpa using b
   rcases bq.1 a with rfl | a
   .exact Rn c b
   .by_cases e:x.path=z.path
    .rw[<-e];exact d y a
    .exact Zv (Rn c e) (d y a)
theorem Z8o {T:List RZ}(h:Srt T){x y:RZ}(g:x∈T)(k:y∈T)(e:x.path=y.path):x=y:=by
 induction T with
 | nil=>cases g
 | cons a T ih =>
  obtain⟨f,j⟩:=List.pairwise_cons.1 h;rcases bq.1 g with d | b<;>rcases bq.1 k with i | c
  .rw[d,i]
  .exact du e (Wj (by rw[d];exact f y c))
  .exact du e.symm (Wj (by rw[i];exact f x b))
  .exact ih j b c
theorem get_none {T:List RZ}{p:ByteArray}:Zfo T p=none↔∀z∈T,z.path≠p:=by unfold Zfo;rw[List.find?_eq_none];simp
theorem S1 {α:Type}{p:α->Bool}:∀{l:List α} {x:α},x∈l->p x=false->(l.filter p).length < l.length
 | y::l,x,a,hp=>by
  rw[List.filter_cons];rcases bq.1 a with rfl | a
  .rw[dq (by simp[hp])];exact Nat.lt_succ_of_le (ah _ _)
  .have:=S1 a hp;split
   .simpa using this
   .exact Nat.lt_succ_of_lt this
theorem Zf (z:RZ):∀(T:List RZ),(Sj T z).length<=T.length+1
 | []=>by simp[Sj]
 | x::l=>by
  unfold Sj;split
  .have:=Zf z l;simp;omega
  .have:=ah (λy:RZ=>decide (y.path≠z.path)) (x::l);rw[bm];omega
theorem Nn {z y:RZ}(e:y.path=z.path):∀{T:List RZ},y∈T->(Sj T z).length<=T.length
 | x::l,h=>by
  unfold Sj;split
  .next a =>
   rcases bq.1 h with rfl | h
   .exact du e (Wj a)
   .have:=Nn e h;simp;omega
  .have:=S1 (p:=λy:RZ=>decide (y.path≠z.path)) h (by simp[e]);rw[bm];omega
structure IsP (s:ByteArray)(r:List UInt8):Prop where
 bytes:s.data.toList=47::r
 names:nmZ s=Ji r
 good:∀x∈Ji r,Zdr x=true
 few:(Ji r).length<=8
 ne:s≠Xs
theorem IsP.parent {s:ByteArray}{r:List UInt8}(h:IsP s r):Jx s=(Zcx (Yi r).1,true):=by unfold Jx;rw[h.names,dq (Z06 r)];unfold Ji;rw[List.dropLast_concat]
theorem IsP.base {s:ByteArray}{r:List UInt8}(h:IsP s r):Zbo s=⟨(Yi r).2.toArray⟩:=by unfold Zbo;rw[h.names];unfold Ji;simp
theorem IsP.split {s:ByteArray}{r:List UInt8}(h:IsP s r):s.data.toList=(Pq (Yi r).1).data.toList++47::(Yi r).2:=by rw[h.bytes,Z2v]
theorem Zez {n:Int}(h:0<=n/\n<=big):0<=upZ n/\upZ n<=big:=by
 unfold upZ;split
 .exact h
 .have:n≠big:=by assumption
  omega
theorem Zbt {n:Int}:inZ n=true↔0<=n/\n<=big:=by unfold inZ;simp
theorem RgZ.set {z:RZ}(h:RgZ z){a:Int}(b:inZ a=true){d:ByteArray}(hd:d.size<=1024):RgZ {z with data:=d,ch:=a,ve:=upZ z.ve} :=
 ⟨hd,h.cr,Zbt.1 b,h.ci,Zez h.ve,h.ki,h.ow,h.nx⟩
theorem Wz.upd {T:List RZ}(h:Wz T){z c:RZ}(f:z∈T)(d:c.path=z.path)(p:c.ow=z.ow)(hr:RgZ c):Wz (Sj T c):=by
 have keep:∀y∈T,y.ow=0->∃y'∈Sj T c,y'.path=y.path/\y'.ow=0:=λy a m=>by
  by_cases e:y.path=c.path
  .have:=Z8o h.srt a f (e.trans d);subst this;exact⟨c,Eo.2 (.inl rfl),d,p.trans m⟩
  .exact⟨y,Eo.2 (.inr ⟨a,e⟩),rfl,m⟩
 refine⟨T0 h.srt,co (Nn d.symm f) h.len,?_,λy a=>?_,λy a=>?_,λy a b=>?_⟩
 .obtain⟨y,a,g,j⟩:=h.root;obtain⟨y',l,k,i⟩:=keep y a j;exact⟨y',l,k.trans g,i⟩
 .rcases Eo.1 a with rfl | ⟨a,-⟩
  .rw[d];exact h.valid z f
  .exact h.valid y a
 .rcases Eo.1 a with rfl | ⟨a,-⟩
  .exact hr
  .exact h.rg y a
 .have:∃q∈T,q.path=(Jx y.path).1/\q.ow=0:=by
   rcases Eo.1 a with rfl | ⟨a,-⟩
   .rw[d] at b⊢;exact h.up z f b
   .exact h.up y a b
  obtain⟨q,g,j,l⟩:=this;obtain⟨n,k,i,o⟩:=keep q g l;exact⟨n,k,i.trans j,o⟩
theorem Wz.add {T:List RZ}(h:Wz T){z p:RZ}(l:Zfo T z.path=none)(g:p∈T)(e:p.path=(Jx z.path).1)(i:p.ow=0)(hr:RgZ z)(k:Z7w z.path=true)(j:T.length < 200):Wz (Sj T z):=by
 have d:=get_none.1 l;have keep:∀y∈T,y∈Sj T z:=λy a=>Eo.2 (.inr ⟨a,d y a⟩);refine⟨T0 h.srt,co (Zf z T) j,?_,λy a=>?_,λy a=>?_,λy a b=>?_⟩
 .obtain⟨y,a,c⟩:=h.root;exact⟨y,keep y a,c⟩
 .rcases Eo.1 a with rfl | ⟨a,-⟩
  .exact k
  .exact h.valid y a
 .rcases Eo.1 a with rfl | ⟨a,-⟩
  .exact hr
  .exact h.rg y a
 .rcases Eo.1 a with rfl | ⟨a,-⟩
  .exact⟨p,keep p g,e,i⟩
  .obtain⟨q,c,f⟩:=h.up y a b;exact⟨q,keep q c,f⟩
structure RT where
 kind:Int
 se:Int
 nu:Int
 sp:Int
 no:Int
 l:List RC
end Go.Proofs.YtmmdikhljefeiaaGreat
