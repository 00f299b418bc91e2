
import Derived.Test.YtmmdikhljefeiaaGreatBM
import Derived.Lib.SplitLaws
import Derived.Laws.RangeAny
import Derived.Sort.Walk0
namespace Go.Proofs.YtmmdikhljefeiaaGreat
open Go.RowKit
def Wo:ByteArray:=⟨#[47]⟩
def Ze1:ByteArray:=⟨#[46]⟩
def Zep:ByteArray:=⟨#[46,46]⟩
def noS:ByteArray:=⟨#[]⟩
def Zeg (n:Int):Bool:=decide (97<=n/\n<=122\/65<=n/\n<=90\/48<=n/\n<=57\/n=46\/n=45\/n=95)
def Zei (c:UInt8):Bool:=Zeg c.toNat
def Z9n (s:ByteArray):Bool:=s.data.toList.all Zei&&decide (1<=s.size/\s.size<=60/\s≠Ze1/\s≠Zep)
def spl (p:List ByteArray × List UInt8)(c:UInt8):List ByteArray × List UInt8:=if c=47 then(p.1++[⟨p.2.toArray⟩],[]) else(p.1,p.2++[c])
def X2 (l:List UInt8):List ByteArray × List UInt8:=l.foldl spl ([],[])
def Id (l:List UInt8):List ByteArray:=(X2 l).1++[⟨(X2 l).2.toArray⟩]
def Z05 (s:ByteArray):List ByteArray:=match s.data.toList with
 | 47::r=>if(Id r).all Z9n=true then Id r else []
 | _=>[]
def Z5q (s:ByteArray):Option (List ByteArray):=if s=Wo then some [] else if Z05 s≠[]/\(Z05 s).length<=8 then some (Z05 s) else none
def Z5x (s:ByteArray):Bool:=(Z5q s).isSome
def nmZ (s:ByteArray):List ByteArray:=(Z5q s).getD []
def Zau (s:ByteArray):ByteArray:=((nmZ s).getLast?).getD noS
def Ox (l:List ByteArray):ByteArray:=l.foldl (λa x=>a++Wo++x) noS
def Zad (l:List ByteArray):ByteArray:=if l=[] then Wo else Ox l
def Jd (s:ByteArray):ByteArray × Bool:=if nmZ s=[] then(noS,false) else(Zad (nmZ s).dropLast,true)
theorem Xj (l:List UInt8)(c:UInt8):X2 (l++[c])=spl (X2 l) c:=by unfold X2;rw[List.foldl_append];rfl
theorem Z0g (l:List UInt8):Id l≠[]:=by unfold Id;simp
theorem Z7v (l:List UInt8):(⟨l.toArray⟩:ByteArray).data.toList=l:=by simp
theorem Z4n {a b:ByteArray}(h:a.data.toList=b.data.toList):a=b:=by
 cases a;cases b
 congr
 simpa using congrArg List.toArray h
theorem Z5o (a b:ByteArray):(a++b).data.toList=a.data.toList++b.data.toList:=by simp
theorem Zd (l:List ByteArray)(x:ByteArray):Ox (l++[x])=Ox l++Wo++x:=by unfold Ox;rw[List.foldl_append];rfl
theorem Yo (r:List UInt8):(Ox (X2 r).1).data.toList++47::(X2 r).2=47::r:=by
 induction h:r.length generalizing r with
 | zero=>rw[ay h];rfl
 | succ n ih =>
  have b:r≠[]:=λe=>by rw[e] at h;cases h
  have e:=(List.dropLast_concat_getLast b).symm;have a:=ih r.dropLast (by simp[h]);rw[e,Xj];revert a;generalize X2 r.dropLast=p;intro a;unfold spl;split
  .next c =>
   rw[Zd,Z5o,Z5o,Z7v];show(Ox p.1).data.toList++[47]++p.2++[47]=_;rw[ce (Ox p.1).data.toList,List.singleton_append,a,c];rfl
  .show(Ox p.1).data.toList++47::(p.2++[_])=_;rw[<-dl,<-ce,a];rfl
def ltS (a b:ByteArray):Bool:=Op.bytesLess a.toList b.toList
theorem Jo (a b:ByteArray):ltS a b=true↔a.data.toList < b.data.toList:=by unfold ltS;rw[Go.Proofs.bytesLess_eq,Lib.toList_data,Lib.toList_data];simp
theorem Vd (a:ByteArray):ltS a a=false:=by
 cases h:ltS a a with
 | false=>rfl
 | true=>exact dq ((Jo a a).1 h) (List.lt_irrefl _)
theorem Y8 {a b c:ByteArray}(d:ltS a b=true)(e:ltS b c=true):ltS a c=true :=
 (Jo a c).2 (List.lt_trans ((Jo a b).1 d) ((Jo b c).1 e))
theorem Q0 {a b:ByteArray}(c:ltS a b=false)(d:a≠b):ltS b a=true:=by
 refine(Jo b a).2 ?_;have c:¬a.data.toList < b.data.toList:=λh=>by rw[(Jo a b).2 h] at c;cases c
 rcases Classical.em (b.data.toList < a.data.toList) with h | h
 .exact h
 .exact dq (Z4n (List.le_antisymm (List.not_lt.1 h) (List.not_lt.1 c))) d
theorem Uk {a b:ByteArray}(h:ltS a b=true):a≠b:=λe=>by rw[e,Vd] at h;cases h
structure RZ where
 path:ByteArray
 data:ByteArray
 cr:Int
 ch:Int
 ci:Int
 ve:Int
 ki:Int
 ow:Int
 nx:Int
structure RC where
 kind:Int
 path:ByteArray
 data:ByteArray
 ve:Int
 ep:Bool
 sq:Bool
def Zc9 (T:List RZ)(p:ByteArray):Option RZ:=T.find? λz=>decide (z.path=p)
def Re:List RZ->RZ->List RZ
 | [],z=>[z]
 | x::l,z=>if ltS x.path z.path=true then x::Re l z else z::(x::l).filter λy=>decide (y.path≠z.path)
def big:Int:=4611686018427387904
def inZ (n:Int):Bool:=decide (0<=n/\n<=big)
def upZ (n:Int):Int:=if n=big then n else n+1
abbrev Srt (T:List RZ):Prop:=T.Pairwise λa b=>ltS a.path b.path=true
structure RgZ (z:RZ):Prop where
 data:z.data.size<=1024
 cr:0<=z.cr/\z.cr<=big
 ch:0<=z.ch/\z.ch<=big
 ci:0<=z.ci/\z.ci<=big
 ve:0<=z.ve/\z.ve<=big
 ki:0<=z.ki/\z.ki<=big
 ow:0<=z.ow/\z.ow<=big
 nx:0<=z.nx/\z.nx<=big
structure Wz (T:List RZ):Prop where
 srt:Srt T
 len:T.length<=200
 root:∃z∈T,z.path=Wo/\z.ow=0
 valid:∀z∈T,Z5x z.path=true
 rg:∀z∈T,RgZ z
 up:∀z∈T,(Jd z.path).2=true->∃p∈T,p.path=(Jd z.path).1/\p.ow=0
theorem Ed {y z:RZ}:∀{T:List RZ},y∈Re T z↔y=z\/(y∈T/\y.path≠z.path)
 | []=>by simp[Re]
 | x::l=>by
  unfold Re;split
  .next h =>
   rw[bo,Ed,bo];constructor
   .rintro(rfl | h | ⟨h,h'⟩)
    .exact .inr ⟨.inl rfl,Uk h⟩
    .exact .inl h
    .exact .inr ⟨.inr h,h'⟩
   .rintro(h | ⟨rfl | h,h'⟩)
    .exact .inr (.inl h)
    .exact .inl rfl
    .exact .inr (.inr ⟨h,h'⟩)
  .rw[bo,af];simp
theorem S9 {z:RZ}:∀{T:List RZ},Srt T->Srt (Re T z)
 | [],_=>by simp[Re]
 | x::l,h=>by
  obtain⟨d,f⟩:=List.pairwise_cons.1 h;unfold Re;split
  .next c =>
   refine List.pairwise_cons.2 ⟨λy a=>?_,S9 f⟩;rcases Ed.1 a with rfl | ⟨a,-⟩
   .exact c
   .exact d y a
  .next c =>
   have c:ltS x.path z.path=false:=by simpa using c
   refine List.pairwise_cons.2 ⟨λy a=>?_,h.filter _⟩;obtain⟨a,b⟩:=af.1 a;have b:y.path≠z.path:=by simpa using b
   rcases bo.1 a with rfl | a
   .exact Q0 c b
   .by_cases e:x.path=z.path
    .rw[<-e];exact d y a
    .exact Y8 (Q0 c e) (d y a)
theorem Z77 {T:List RZ}(h:Srt T){x y:RZ}(i:x∈T)(k:y∈T)(e:x.path=y.path):x=y:=by
 induction T with
 | nil=>cases i
 | cons a T ih =>
  obtain⟨d,j⟩:=List.pairwise_cons.1 h;rcases bo.1 i with f | c<;>rcases bo.1 k with g | b
  .rw[f,g]
  .exact dq e (Uk (by rw[f];exact d y b))
  .exact dq e.symm (Uk (by rw[g];exact d x c))
  .exact ih j c b
theorem get_none {T:List RZ}{p:ByteArray}:Zc9 T p=none↔∀z∈T,z.path≠p:=by unfold Zc9;rw[List.find?_eq_none];simp
theorem R5 {α:Type}{p:α->Bool}:∀{l:List α} {x:α},x∈l->p x=false->(l.filter p).length < l.length
 | y::l,x,a,hp=>by
  rw[List.filter_cons];rcases bo.1 a with rfl | a
  .rw[dn (by simp[hp])];exact Nat.lt_succ_of_le (ah _ _)
  .have:=R5 a hp;split
   .simpa using this
   .exact Nat.lt_succ_of_lt this
theorem Z0v (z:RZ):∀(T:List RZ),(Re T z).length<=T.length+1
 | []=>by simp[Re]
 | x::l=>by
  unfold Re;split
  .have:=Z0v z l;simp;omega
  .have:=ah (λy:RZ=>decide (y.path≠z.path)) (x::l);rw[bk];omega
theorem Ni {z y:RZ}(e:y.path=z.path):∀{T:List RZ},y∈T->(Re T z).length<=T.length
 | x::l,h=>by
  unfold Re;split
  .next a =>
   rcases bo.1 h with rfl | h
   .exact dq e (Uk a)
   .have:=Ni e h;simp;omega
  .have:=R5 (p:=λy:RZ=>decide (y.path≠z.path)) h (by simp[e]);rw[bk];omega
structure IsP (s:ByteArray)(r:List UInt8):Prop where
 bytes:s.data.toList=47::r
 names:nmZ s=Id r
 good:∀x∈Id r,Z9n x=true
 few:(Id r).length<=8
 ne:s≠Wo
theorem IsP.parent {s:ByteArray}{r:List UInt8}(h:IsP s r):Jd s=(Zad (X2 r).1,true):=by unfold Jd;rw[h.names,dn (Z0g r)];unfold Id;rw[List.dropLast_concat]
theorem IsP.base {s:ByteArray}{r:List UInt8}(h:IsP s r):Zau s=⟨(X2 r).2.toArray⟩:=by unfold Zau;rw[h.names];unfold Id;simp
theorem IsP.split {s:ByteArray}{r:List UInt8}(h:IsP s r):s.data.toList=(Ox (X2 r).1).data.toList++47::(X2 r).2:=by rw[h.bytes,Yo]
theorem Zci {n:Int}(h:0<=n/\n<=big):0<=upZ n/\upZ n<=big:=by
 unfold upZ;split
 .exact h
 .have:n≠big:=by assumption
  omega
theorem Za0 {n:Int}:inZ n=true↔0<=n/\n<=big:=by unfold inZ;simp
theorem RgZ.set {z:RZ}(h:RgZ z){a:Int}(b:inZ a=true){d:ByteArray}(hd:d.size<=1024):RgZ {z with data:=d,ch:=a,ve:=upZ z.ve} :=
 ⟨hd,h.cr,Za0.1 b,h.ci,Zci h.ve,h.ki,h.ow,h.nx⟩
theorem Wz.upd {T:List RZ}(h:Wz T){z c:RZ}(f:z∈T)(d:c.path=z.path)(o:c.ow=z.ow)(hr:RgZ c):Wz (Re T c):=by
 have keep:∀y∈T,y.ow=0->∃y'∈Re T c,y'.path=y.path/\y'.ow=0:=λy a m=>by
  by_cases e:y.path=c.path
  .have:=Z77 h.srt a f (e.trans d);subst this;exact⟨c,Ed.2 (.inl rfl),d,o.trans m⟩
  .exact⟨y,Ed.2 (.inr ⟨a,e⟩),rfl,m⟩
 refine⟨S9 h.srt,cm (Ni d.symm f) h.len,?_,λy a=>?_,λy a=>?_,λy a b=>?_⟩
 .obtain⟨y,a,j,g⟩:=h.root;obtain⟨y',l,i,k⟩:=keep y a g;exact⟨y',l,i.trans j,k⟩
 .rcases Ed.1 a with rfl | ⟨a,-⟩
  .rw[d];exact h.valid z f
  .exact h.valid y a
 .rcases Ed.1 a with rfl | ⟨a,-⟩
  .exact hr
  .exact h.rg y a
 .have:∃q∈T,q.path=(Jd y.path).1/\q.ow=0:=by
   rcases Ed.1 a with rfl | ⟨a,-⟩
   .rw[d] at b⊢;exact h.up z f b
   .exact h.up y a b
  obtain⟨q,j,g,l⟩:=this;obtain⟨n,i,k,p⟩:=keep q j l;exact⟨n,i,k.trans g,p⟩
theorem Wz.add {T:List RZ}(h:Wz T){z p:RZ}(k:Zc9 T z.path=none)(f:p∈T)(e:p.path=(Jd z.path).1)(j:p.ow=0)(hr:RgZ z)(l:Z5x z.path=true)(i:T.length < 200):Wz (Re T z):=by
 have d:=get_none.1 k;have keep:∀y∈T,y∈Re T z:=λy a=>Ed.2 (.inr ⟨a,d y a⟩);refine⟨S9 h.srt,cm (Z0v z T) i,?_,λy a=>?_,λy a=>?_,λy a b=>?_⟩
 .obtain⟨y,a,c⟩:=h.root;exact⟨y,keep y a,c⟩
 .rcases Ed.1 a with rfl | ⟨a,-⟩
  .exact l
  .exact h.valid y a
 .rcases Ed.1 a with rfl | ⟨a,-⟩
  .exact hr
  .exact h.rg y a
 .rcases Ed.1 a with rfl | ⟨a,-⟩
  .exact⟨p,keep p f,e,j⟩
  .obtain⟨q,c,g⟩:=h.up y a b;exact⟨q,keep q c,g⟩
structure RT where
 kind:Int
 se:Int
 nu:Int
 sp:Int
 no:Int
 l:List RC
end Go.Proofs.YtmmdikhljefeiaaGreat
