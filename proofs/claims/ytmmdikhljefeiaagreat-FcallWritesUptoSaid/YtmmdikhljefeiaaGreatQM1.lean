
import Derived.Test.YtmmdikhljefeiaaGreatSxMc
import Derived.Test.YtmmdikhljefeiaaGreatSM1
import Derived.Test.YtmmdikhljefeiaaGreatYFsE
import Derived.Test.YtmmdikhljefeiaaGreatWA
import Derived.Test.YtmmdikhljefeiaaGreatYFsR
import Derived.Test.YtmmdikhljefeiaaGreatFsXW
import Derived.Test.YtmmdikhljefeiaaGreatLaM
import Derived.Test.YtmmdikhljefeiaaGreatOP
import Derived.Test.YtmmdikhljefeiaaGreatYFtL
import Derived.Sort.Walk0
namespace Go.Proofs.YtmmdikhljefeiaaGreat
open Go.RowKit
set_option maxRecDepth 100000
def Ds (r:RFs)(h:Int × Int):ByteArray × Int:=if An r h=true then(if(A3 r.ins h.1).kind=3 then((A3 r.ins h.1).target,0) else(J8,1)) else(J8,175)
structure Zeb (B:List UInt8)(On:List Nat):Prop where
 b:B.length<=1048576
 o:On.length<=65536
def gtS (x s:ByteArray):Bool:=!(Op.bytesLess x.toList s.toList||x.toList==s.toList)
def Z58 (s:ByteArray)(p:List ByteArray × Bool)(x:ByteArray):List ByteArray × Bool:=(p.1++(if p.2=false/\gtS x s=true then [s] else [])++[x],p.2||gtS x s)
def Zcv (s:ByteArray)(out:List ByteArray):List ByteArray:=if(out.foldl (Z58 s) ([],false)).2=true then(out.foldl (Z58 s) ([],false)).1 else(out.foldl (Z58 s) ([],false)).1++[s]
def Sw (d:Int)(out:List ByteArray)(n:RNm):List ByteArray:=if n.dir=d then Zcv n.name out else out
def Jb (r:RFs)(h:Int × Int):List ByteArray:=if Az r h=0 then r.nms.foldl (Sw h.1) [] else []
def Z4v (r:RFs)(h:Int × Int):G:=if An r h=true then .tup [.agg [.v (.int .i64 h.1),.v (.int .i64 h.2),.v (.int .i64 (A3 r.ins h.1).kind),.v (.int .i64 (A3 r.ins h.1).mode),.v (.int .i64 (A4 r (A3 r.ins h.1):Int)),.v (.int .i64 (M8 r (A3 r.ins h.1))),.v (.int .i64 ((A3 r.ins h.1).On.length:Int)),.v (.int .i64 (A3 r.ins h.1).time)],.v (.int .i64 0)]
 else .tup [.agg [.v (.int .i64 0),.v (.int .i64 0),.v (.int .i64 0),.v (.int .i64 0),.v (.int .i64 0),.v (.int .i64 0),.v (.int .i64 0),.v (.int .i64 0)],.v (.int .i64 175)]
def Shs (r:RFs):Prop:=∀x∈r.ins,Zeb x.B x.On/\∀k∈x.On,k < 65536
def Z8u (s:ByteArray)(p:List ByteArray × Bool):List ByteArray:=if p.2=true then p.1 else p.1++[s]
def Wy (s:ByteArray):List ByteArray->List ByteArray
 | []=>[s]
 | x::l=>if gtS x s=true then s::x::l else x::Wy s l
theorem Pq (s:ByteArray):∀(l a:List ByteArray),l.foldl (Z58 s) (a,true)=(a++l,true)
 | [],a=>by simp
 | x::l,a=>by rw[List.foldl_cons];show l.foldl (Z58 s) (a++(if true=false/\gtS x s=true then [s] else [])++[x],true||gtS x s)=_;rw[dn (by simp),Bool.true_or,Pq s l];simp
theorem U7 (s:ByteArray):∀(l a:List ByteArray),Z8u s (l.foldl (Z58 s) (a,false))=a++Wy s l
 | [],a=>by simp[Z8u,Wy]
 | x::l,a=>by
  rw[List.foldl_cons];cases h:gtS x s with
  | true =>
   show Z8u s (l.foldl (Z58 s) (a++(if false=false/\gtS x s=true then [s] else [])++[x],false||gtS x s))=_;rw[dp ⟨rfl,h⟩,h,Bool.or_true,Pq,Wy,dp h];simp[Z8u]
  | false =>
   show Z8u s (l.foldl (Z58 s) (a++(if false=false/\gtS x s=true then [s] else [])++[x],false||gtS x s))=_;rw[dn (by simp[h]),h,Bool.or_false,U7 s l,Wy,dn (by simp[h])];simp
theorem Z7z (s:ByteArray)(l:List ByteArray):Zcv s l=Wy s l:=by have:=U7 s l [];simpa [Z8u,Zcv] using this
theorem L4 (s:ByteArray):∀l,(Wy s l).Perm (s::l)
 | []=>.refl _
 | x::l=>by
  unfold Wy;split
  .exact .refl _
  .exact((L4 s l).cons x).trans (.swap _ _ _)
theorem Z0i {x s:ByteArray}(h:gtS x s=true):s.toList<=x.toList:=by unfold gtS at h;rw[Go.Proofs.bytesLess_eq] at h;simp at h;exact List.not_lt.1 h.1
theorem Z9x {x s:ByteArray}(h:gtS x s=false):x.toList<=s.toList:=by
 unfold gtS at h;rw[Go.Proofs.bytesLess_eq] at h;simp at h;rcases Classical.em (x.toList < s.toList) with a | a
 .exact List.le_of_lt a
 .rw[h (List.not_lt.1 a)];exact List.le_refl _
theorem Lj (s:ByteArray):∀{l:List ByteArray},l.Pairwise (λa b=>a.toList<=b.toList)->(Wy s l).Pairwise (λa b=>a.toList<=b.toList)
 | [],_=>by simp[Wy]
 | x::l,h=>by
  obtain⟨d,e⟩:=List.pairwise_cons.1 h;unfold Wy;cases hg:gtS x s with
  | true =>
   rw[dp rfl];refine List.pairwise_cons.2 ⟨λy c=>?_,h⟩;rcases bo.1 c with rfl | c
   .exact Z0i hg
   .exact List.le_trans (Z0i hg) (d y c)
  | false =>
   rw[dn (by simp)];refine List.pairwise_cons.2 ⟨λy c=>?_,Lj s e⟩;rcases bo.1 ((L4 s l).mem_iff.1 c) with rfl | c
   .exact Z9x hg
   .exact d y c
theorem Om (d:Int):∀(l:List RNm) (out:List ByteArray),out.Pairwise (λa b=>a.toList<=b.toList)->(l.foldl (Sw d) out).Pairwise (λa b=>a.toList<=b.toList)/\(l.foldl (Sw d) out).Perm (((l.filter λn=>decide (n.dir=d)).map λn=>n.name)++out)
 | [],out,h=>⟨h,by simp⟩
 | n::l,out,h=>by
  rw[List.foldl_cons];by_cases hd:n.dir=d
  .have e:Sw d out n=Wy n.name out:=by unfold Sw;rw[dp hd,Z7z]
   rw[e];obtain⟨c,f⟩:=Om d l _ (Lj n.name h);refine⟨c,f.trans ?_⟩;rw[List.filter_cons,dp (by simp[hd])];exact((L4 n.name out).append_left _).trans List.perm_middle
  .have e:Sw d out n=out:=dn hd;rw[e,List.filter_cons,dn (by simp[hd])];exact Om d l out h
theorem Ql (r:RFs)(h:Int × Int)(g:Az r h=0):(Jb r h).map (λc=>c.data.toList)=Fk (A9 r.nms h.1):=by
 have e:Jb r h=r.nms.foldl (Sw h.1) []:=dp g;obtain⟨f,d⟩:=Om h.1 r.nms [] .nil;rw[e];rw[dj] at d;refine List.Perm.eq_of_pairwise (le:=λa b:List UInt8=>a<=b) (λa b _ _ f d=>List.le_antisymm f d) ?_ ?_ (?_:List.Perm _ _)
 .refine List.pairwise_map.2 (f.imp λh=>?_);rw[toList_data,toList_data] at h;exact h
 .exact(List.pairwise_mergeSort Kz Lo _).imp (λh=>by simpa using h)
 .refine(d.map _).trans (List.Perm.trans ?_ (Gc _).symm);unfold A9;rw[List.map_map,List.map_map];exact .refl _
end Go.Proofs.YtmmdikhljefeiaaGreat
