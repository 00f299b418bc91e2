
import Derived.Test.YtmmdikhljefeiaaGreatYBase
import Derived.Maps.Own
import Derived.Maps.RangeWalk
namespace Go.Proofs.YtmmdikhljefeiaaGreat
open Go.RowKit Go.MapKept
section
variable {κ β:Type} [DecidableEq κ]
def Au (L:List (κ × β))(k:κ):Option β:=(L.find? λp=>decide (p.1=k)).map (·.2)
def Gn (L:List (κ × β))(k:κ)(v:β):List (κ × β):=if(Au L k).isSome then L.map (λp=>if p.1=k then(k,v) else p) else L++[(k,v)]
def He (L:List (κ × β))(k:κ):List (κ × β):=L.filter λp=>decide (p.1≠k)
theorem C1 (p:κ × β)(L:List (κ × β))(k:κ):Au (p::L) k=if p.1=k then some p.2 else Au L k:=by unfold Au;rw[List.find?_cons];by_cases h:p.1=k<;>simp[h]
theorem Cq {L:List (κ × β)}{k:κ}:Au L k=none↔∀p∈L,p.1≠k:=by unfold Au;simp
theorem E1 {L:List (κ × β)}{k:κ}{v:β}(h:Au L k=some v):(k,v)∈L:=by unfold Au at h;obtain⟨p,c,rfl⟩:=bg.1 h;have b:=List.find?_some c;simp at b;subst b;exact List.mem_of_find?_eq_some c
theorem Ro {L:List (κ × β)}(b:(L.map (·.1)).Nodup){k:κ}{v:β}(h:(k,v)∈L):Au L k=some v:=by
 induction L with
 | nil=>simp at h
 | cons p L ih =>
  rw[C1];simp only[List.map_cons,List.nodup_cons] at b;rcases bo.1 h with rfl | h
  .simp
  .have c:p.1≠k:=λe=>b.1 (by rw[e];exact bi.2 ⟨_,h,rfl⟩);rw[dn c];exact ih b.2 h
theorem Rv (L M:List (κ × β))(k:κ):Au (L++M) k=(Au L k).or (Au M k):=by
 induction L with
 | nil=>simp[Au]
 | cons p L ih =>
  rw[dl,C1,C1,ih];split<;>simp
theorem Pz (L:List (κ × β))(k:κ)(v:β)(j:κ):Au (L.map λp=>if p.1=k then(k,v) else p) j=if j=k then(Au L k).map (λ_=>v) else Au L j:=by
 induction L with
 | nil=>simp[Au]
 | cons p L ih =>
  rw[cu,C1,ih,C1,C1];by_cases c:p.1=k
  .by_cases b:j=k
   .subst b;simp[c]
   .have:k≠j:=λe=>b e.symm;simp[c,b,this]
  .by_cases b:j=k
   .subst b;simp[c]
   .simp[c,b]
theorem Cs (L:List (κ × β))(k:κ)(v:β)(j:κ):Au (Gn L k v) j=if j=k then some v else Au L j:=by
 unfold Gn;split
 .rename_i h
  rw[Pz];obtain⟨u,d⟩:=Option.isSome_iff_exists.1 h;by_cases b:j=k<;>simp[b,d]
 .rename_i h
  have c:Au L k=none:=by simpa using h
  rw[Rv,C1];by_cases b:j=k
  .subst b;simp[c]
  .have:k≠j:=λe=>b e.symm;simp[b,this,Au]
theorem If (L:List (κ × β))(k j:κ):Au (He L k) j=if j=k then none else Au L j:=by
 unfold He
 induction L with
 | nil=>simp[Au]
 | cons p L ih =>
  rw[List.filter_cons,C1];by_cases c:p.1=k
  .simp only[ne_eq,c,not_true_eq_false,decide_false,Bool.false_eq_true,if_false];simp only[ne_eq] at ih;rw[ih];by_cases b:j=k
   .simp[b]
   .have:k≠j:=λe=>b e.symm;simp[b,this]
  .simp only[ne_eq,c,not_false_eq_true,decide_true,if_true];rw[C1,ih];by_cases b:j=k
   .subst b;simp[c]
   .simp[b]
theorem Z4c (L:List (κ × β))(k:κ)(v:β):(Gn L k v).map (·.1)=if(Au L k).isSome then L.map (·.1) else L.map (·.1)++[k]:=by
 unfold Gn;split
 .rw[List.map_map];apply List.map_congr_left;intro p _;by_cases h:p.1=k<;>simp[h]
 .simp
theorem Z6x (L:List (κ × β))(k:κ)(v:β):(Gn L k v).length=if(Au L k).isSome then L.length else L.length+1:=by unfold Gn;split<;>simp
theorem Q1 {L:List (κ × β)}(c:(L.map (·.1)).Nodup)(k:κ)(v:β):((Gn L k v).map (·.1)).Nodup:=by
 rw[Z4c];split
 .exact c
 .rename_i h
  have f:Au L k=none:=by simpa using h
  rw[List.nodup_append];refine⟨c,by simp,λa ha b d=>?_⟩;obtain⟨p,e,rfl⟩:=bi.1 ha;simp only[List.mem_singleton] at d;subst d;exact Cq.1 f p e
theorem Zf {L:List (κ × β)}(b:(L.map (·.1)).Nodup)(k:κ):((He L k).map (·.1)).Nodup:=by unfold He;exact List.Nodup.sublist (List.Sublist.map _ List.filter_sublist) b
end
structure KeyOk {κ:Type}[DecidableEq κ](P:Program)(kt:TypeId)(kf:κ->Value):Prop where
 chk:∀(e:Bool) (a:κ) (w:World),(Instr.checkKey e 10000 kt (kf a)).run P w=.ok () w
 same:∃kd,P.underlying kt=some kd/\∀a b,Instr.sameNow kd (kf a) (kf b)=some (decide (a=b))
 bits:∀a,Instr.sameBits 10000 (kf a) (kf a)=true
def Mf (k:Nat):Value:=.int .i64 (k:Int)
theorem Z02 {P:Program}{kt:TypeId}(h:P.underlying kt=some (.int .i64)):KeyOk P kt Mf where
 chk e a w:=by show(Instr.checkKey e (9999+1) kt (Mf a)).run P w=_;rw[Instr.checkKey];simp[Mf,run_underlying h]
 same:=⟨_,h,λa b=>by simp only[Mf,Instr.sameNow,if_true,Option.some.injEq];rw[Bool.eq_iff_iff];simp only[beq_iff_eq,decide_eq_true_eq];omega⟩
 bits a:=by simp[Mf,Instr.sameBits]
def MapB {κ β:Type}(w:World)(m:Nat)(kf:κ->Value)(vf:β->Value)(L:List (κ × β)):Prop :=
 ∃es clock,w.heap[m]?=some (.map es clock)/\Stamped es clock/\es.toList.map (λe=>(e.key,e.val))=L.map (λp=>(kf p.1,vf p.2))
def putObj (w:World)(m:Nat)(o:Obj):World:={w with heap:=w.heap.setIfInBounds m o}
theorem Pw {α γ:Type}(f:α->γ){l:List α}(h:(l.map f).Nodup):l.Nodup:=by
 induction l with
 | nil=>simp
 | cons x l ih =>
  simp only[List.map_cons,List.nodup_cons] at h⊢;exact⟨λb=>h.1 (bi.2 ⟨x,b,rfl⟩),ih h.2⟩
section
variable {κ β:Type} {P:Program} {kt:TypeId} {kf:κ->Value} {vf:β->Value} {w w':World} {m:Nat} {L:List (κ × β)}
theorem MapB.lt (h:MapB w m kf vf L):m < w.heap.size:=by obtain⟨es,clock,b,_⟩:=h;exact(bx.1 b).1
theorem MapB.of_block (h:MapB w m kf vf L)(c:w'.heap[m]?=w.heap[m]?):MapB w' m kf vf L:=by obtain⟨es,clock,b,r⟩:=h;exact⟨es,clock,c.trans b,r⟩
theorem KeyOk.inj [DecidableEq κ](K:KeyOk P kt kf){a b:κ}(h:kf a=kf b):a=b:=by obtain⟨kd,_,e⟩:=K.same;have c:=e a b;have d:=e b b;rw[h] at c;rw[c] at d;simpa using d
theorem MapB.nodup (h:MapB w m kf vf L):(L.map (·.1)).Nodup:=by
 obtain⟨es,clock,_,⟨_,_,b⟩,d⟩:=h;have c:es.toList.map (·.key)=(L.map (·.1)).map kf:=by have:=congrArg (List.map Prod.fst) d;simpa [List.map_map,Function.comp_def] using this
 rw[c] at b;exact Pw kf b
theorem MapB.length (h:MapB w m kf vf L):∃es clock,w.heap[m]?=some (.map es clock)/\es.size=L.length:=by obtain⟨es,clock,b,_,c⟩:=h;refine⟨es,clock,b,?_⟩;have:=congrArg List.length c;simpa using this
theorem Tv [DecidableEq κ]{kd:TypeDesc}(f:∀a b,Instr.sameNow kd (kf a) (kf b)=some (decide (a=b)))(k:κ):∀(es:List MapEntry) (L:List (κ × β)) (i:Nat),es.map (λe=>(e.key,e.val))=L.map (λp=>(kf p.1,vf p.2)) ->
  Instr.findNow kd (kf k) es i=some ((Au L k).map λv=>(i+(L.findIdx λp=>decide (p.1=k)),vf v))
 | [],[],i,_=>by simp[Instr.findNow,Au]
 | [],_::_,i,h=>by simp at h
 | _::_,[],i,h=>by simp at h
 | e::es,p::L,i,h=>by
  simp only[List.map_cons,List.cons.injEq,Prod.mk.injEq] at h;obtain⟨⟨j,g⟩,hr⟩:=h;unfold Instr.findNow;rw[j,f k p.1,C1,List.findIdx_cons];by_cases d:p.1=k
  .have c:k=p.1:=d.symm;simp[d,g]
  .have c:¬k=p.1:=λe=>d e.symm;simp only[d,c,decide_false,if_false,cond_false];rw[Tv f k es L (i+1) hr]
   congr 1
   cases Au L k with
   | none=>rfl
   | some v=>simp only[Option.map_some];congr 2;omega
theorem Cf [DecidableEq κ](K:KeyOk P kt kf){es:Array MapEntry}(b:es.toList.map (λe=>(e.key,e.val))=L.map (λp=>(kf p.1,vf p.2)))(k:κ) :
  (Instr.findKey kt (kf k) es.toList).run P w=.ok ((Au L k).map λv=>(L.findIdx λp=>decide (p.1=k),vf v)) w:=by
 obtain⟨kd,c,d⟩:=K.same;unfold Instr.findKey;rw[Sem.run_bind,run_underlying c];simp only[Result.andThen_ok];rw[Tv d k es.toList L 0 b];simp[Nat.zero_add]
theorem B3 {es:Array MapEntry}{clock:Nat}(b:w.heap[m]?=some (.map es clock)):(getObj m).run P w=.ok (.map es clock) w:=by simp[getObj,Sem.run,b]
theorem Dk {es:Array MapEntry}{clock:Nat}(b:w.heap[m]?=some (.map es clock))(o:Obj):(setObj m o).run P w=.ok () (putObj w m o):=by simp[setObj,Sem.run,b,putObj]
theorem Ff (w:World){m:Nat}(o:Obj)(b:m < w.heap.size):(putObj w m o).heap[m]?=some o:=by simp[putObj,b]
theorem A8 (w:World){m k:Nat}(o:Obj)(b:k≠m):(putObj w m o).heap[k]?=w.heap[k]?:=by simp only[putObj,Array.getElem?_setIfInBounds];rw[dn (λe=>b e.symm)]
theorem C5 (w:World)(m:Nat)(o:Obj):(putObj w m o).heap.size=w.heap.size:=by simp[putObj]
theorem C3 [DecidableEq κ](K:KeyOk P kt kf){t et:TypeId}(c:P.underlying t=some (.map kt et)){z:Value}(e:(zeroValue et).run P w=.ok z w)(h:MapB w m kf vf L)(k:κ) :
  (Instr.lookup t (.map (some m)) (kf k) true).run P w=.ok (.tuple #[((Au L k).map vf).getD z,.bool (Au L k).isSome]) w:=by
 obtain⟨es,clock,b,_,d⟩:=h;cases hg:Au L k with
 | none=>simp[Instr.lookup,run_underlying c,B3 b,K.chk,Cf K d,e,hg]
 | some v=>simp[Instr.lookup,run_underlying c,B3 b,K.chk,Cf K d,hg]
theorem Am [DecidableEq κ](K:KeyOk P kt kf){t et:TypeId}(c:P.underlying t=some (.map kt et)){z:Value}(e:(zeroValue et).run P w=.ok z w)(h:MapB w m kf vf L)(k:κ) :
  (Instr.lookup t (.map (some m)) (kf k) false).run P w=.ok (((Au L k).map vf).getD z) w:=by
 obtain⟨es,clock,b,_,d⟩:=h;cases hg:Au L k with
 | none=>simp[Instr.lookup,run_underlying c,B3 b,K.chk,Cf K d,e,hg]
 | some v=>simp[Instr.lookup,run_underlying c,B3 b,K.chk,Cf K d,hg]
theorem Bh {t kt et ty:TypeId}(c:P.underlying t=some (.map kt et))(h:MapB w m kf vf L):(Builtin.len_ #[t] ty #[.map (some m)]).run P w=.ok (.int .i64 (L.length:Int)) w:=by obtain⟨es,clock,b,d⟩:=h.length;simp[Builtin.len_,run_underlying c,B3 b,d,goInt]
theorem Dx (w:World)(kf:κ->Value)(vf:β->Value):MapB (w.alloc (.map #[] 0)) w.heap.size kf vf [] :=
 ⟨#[],0,heap_alloc_new w _,⟨by simp,by simp,by simp⟩,rfl⟩
theorem Ag [DecidableEq κ](K:KeyOk P kt kf){t et:TypeId}(U:P.underlying t=some (.map kt et))(h:MapB w m kf vf L)(k:κ)(v:β) :
  ∃o,(Instr.mapUpdate t (.map (some m)) (kf k) (vf v)).run P w=.ok () (putObj w m o)/\MapB (putObj w m o) m kf vf (Gn L k v):=by
 have O:=h.nodup;have F:=h.lt;obtain⟨es,clock,n,E,B⟩:=h;cases hg:Au L k with
 | none =>
  refine⟨.map (es.push {key:=kf k,val:=vf v,born:=clock}) (clock+1),?_,es.push {key:=kf k,val:=vf v,born:=clock},clock+1,Ff w _ F,?_,?_⟩
  .simp[Instr.mapUpdate,run_underlying U,B3 n,K.chk,Cf K B,hg,Dk n]
  .obtain⟨f,R,T⟩:=E;refine⟨?_,?_,?_⟩
   .intro x s;simp at s;rcases s with s | rfl
    .have:=f x (by simpa using s);omega
    .exact da _
   .simp only[Array.toList_push,List.map_append,List.map_cons,List.map_nil,List.nodup_append];refine⟨R,by simp,λa ha b n=>?_⟩;obtain⟨x,s,rfl⟩:=bi.1 ha;simp only[List.mem_singleton] at n;have:=f x s;omega
   .simp only[Array.toList_push,List.map_append,List.map_cons,List.map_nil,List.nodup_append];refine⟨T,by simp,λa ha b n=>?_⟩;simp only[List.mem_singleton] at n;subst n;have W:es.toList.map (·.key)=(L.map (·.1)).map kf:=by
     have:=congrArg (List.map Prod.fst) B;simpa [List.map_map,Function.comp_def] using this
    rw[W] at ha;obtain⟨c,Y,rfl⟩:=bi.1 ha;obtain⟨p,V,rfl⟩:=bi.1 Y;exact λe=>Cq.1 hg p V (K.inj e)
  .unfold Gn;rw[hg];simp[B]
 | some u =>
  have d:(L.findIdx λp=>decide (p.1=k)) < L.length:=by rw[List.findIdx_lt_length];exact⟨(k,u),E1 hg,by simp⟩
  have g:(L[L.findIdx λp=>decide (p.1=k)]'d).1=k:=by have:=List.findIdx_getElem (w:=d);simpa using this
  have A:=Cf (P:=P) (w:=w) K B k;rw[hg] at A;simp only[Option.map_some] at A;generalize (L.findIdx λp=>decide (p.1=k))=i at *;have hsz:es.size=L.length:=by have:=congrArg List.length B;simpa using this
  have z:i < es.size:=by omega
  have I:∀j (J:j < es.size),es[j].key=kf (L[j]'(by omega)).1/\es[j].val=vf (L[j]'(by omega)).2:=λj J=>by have f:=congrArg (·[j]?) B;simp only[List.getElem?_map,Array.getElem?_toList] at f;rw[am J,ap (by omega)] at f;simpa using f
  have M:es[i].key=kf k:=by rw[(I i z).1,g]
  refine⟨.map (es.modify i λe=>{e with key:=kf k,val:=vf v}) clock,?_,es.modify i λe=>{e with key:=kf k,val:=vf v},clock,Ff w _ F,?_,?_⟩
  .simp[Instr.mapUpdate,run_underlying U,B3 n,K.chk,A,Instr.keyThatStays,M,K.bits,Dk n,z]
  .obtain⟨f,R,T⟩:=E;have C:(es.modify i λe=>{e with key:=kf k,val:=vf v}).toList.map (·.born)=es.toList.map (·.born):=by
    apply cx;intro j;simp only[List.getElem?_map,Array.getElem?_toList,Array.getElem?_modify];split
    .cases es[j]?<;>rfl
    .rfl
   have N:(es.modify i λe=>{e with key:=kf k,val:=vf v}).toList.map (·.key)=es.toList.map (·.key):=by
    apply cx;intro j;simp only[List.getElem?_map,Array.getElem?_toList,Array.getElem?_modify];split
    .rename_i l
     subst l;rw[am z];simp[M]
    .rfl
   refine⟨λx s=>?_,by rw[C];exact R,by rw[N];exact T⟩;have G:x.born∈(es.modify i λe=>{e with key:=kf k,val:=vf v}).toList.map (·.born):=bi.2 ⟨x,s,rfl⟩;rw[C] at G;obtain⟨y,X,e⟩:=bi.1 G;rw[<-e];exact f y X
  .unfold Gn;rw[hg];simp only[Option.isSome_some,if_true,List.map_map];apply cx;intro j;by_cases J:j < es.size
   .have f:=I j J;simp only[List.getElem?_map,Array.getElem?_toList,Array.getElem?_modify];rw[am J,ap (show j < L.length by omega)];by_cases l:i=j
    .subst l;simp[g]
    .have S:(L[j]'(by omega)).1≠k:=λe=>by
      have q:=List.pairwise_iff_getElem.1 O;rcases Nat.lt_or_ge i j with H | Z
      .have:=q i j (by simpa using d) (by simp;omega) H;simp at this;exact this (by rw[g,e])
      .have:=q j i (by simp;omega) (by simpa using d) (by omega);simp at this;exact this (by rw[g,e])
     simp[l,S,f.1,f.2]
   .simp only[List.getElem?_map,Array.getElem?_toList];rw[Array.getElem?_eq_none (by simp;omega),ck (by omega)];rfl
theorem L1 {α γ:Type}(f:α->γ):∀(l:List α) (i:Nat),(l.eraseIdx i).map f=(l.map f).eraseIdx i
 | [],_=>by simp
 | x::l,0=>by simp
 | x::l,i+1=>by simp[L1 f l i]
theorem Br [DecidableEq κ](K:KeyOk P kt kf){t et ty tk:TypeId}(B:P.underlying t=some (.map kt et))(h:MapB w m kf vf L)(k:κ) :
  ∃o,(Builtin.delete_ #[t,tk] ty #[.map (some m),kf k]).run P w=.ok (.tuple #[]) (putObj w m o)/\MapB (putObj w m o) m kf vf (He L k):=by
 have f:=h.nodup;have n:=h.lt;obtain⟨es,clock,s,l,j⟩:=h;cases hg:Au L k with
 | none =>
  refine⟨.map es clock,?_,es,clock,Ff w _ n,l,?_⟩
  .simp[Builtin.delete_,run_underlying B,B3 s,K.chk,Cf K j,hg,Dk s]
  .rw[j]
   congr 1
   unfold He;rw[List.filter_eq_self.2];intro p g;simpa using Cq.1 hg p g
 | some u =>
  have b:(L.findIdx λp=>decide (p.1=k)) < L.length:=by rw[List.findIdx_lt_length];exact⟨(k,u),E1 hg,by simp⟩
  have c:(L[L.findIdx λp=>decide (p.1=k)]'b).1=k:=by have:=List.findIdx_getElem (w:=b);simpa using this
  have d:=Cf (P:=P) (w:=w) K j k;rw[hg] at d;simp only[Option.map_some] at d;generalize (L.findIdx λp=>decide (p.1=k))=i at *;have E:es.size=L.length:=by have:=congrArg List.length j;simpa using this
  have q:i < es.size:=by omega
  have A:He L k=L.eraseIdx i:=by
   unfold He;have e:=de i L;rw[List.drop_eq_getElem_cons b] at e;rw[List.eraseIdx_eq_take_drop_succ]
   conv=>lhs;rw[<-e]
   rw[<-e] at f;simp only[List.map_append,List.map_cons,List.nodup_append,List.nodup_cons] at f;obtain⟨_,⟨y,_⟩,z⟩:=f;rw[List.filter_append,List.filter_cons,dn (by simp[c]),List.filter_eq_self.2,List.filter_eq_self.2]
   .intro p g;simp only[decide_eq_true_eq];exact λe=>y (by rw[c,<-e];exact bi.2 ⟨p,g,rfl⟩)
   .intro p g;simp only[decide_eq_true_eq];exact λe=>z p.1 (bi.2 ⟨p,g,rfl⟩) (L[i]).1 (by simp) (by rw[c,e])
  refine⟨.map (es.eraseIdxIfInBounds i) clock,?_,es.eraseIdxIfInBounds i,clock,Ff w _ n,?_,?_⟩
  .simp[Builtin.delete_,run_underlying B,B3 s,K.chk,d,Dk s]
  .obtain⟨G,C,H⟩:=l;have v:(es.eraseIdxIfInBounds i).toList=es.toList.eraseIdx i:=by simp[Array.eraseIdxIfInBounds,q]
   rw[Stamped,v];refine⟨λx F=>G x (List.mem_of_mem_eraseIdx F),?_,?_⟩
   .exact List.Nodup.sublist (List.Sublist.map _ (List.eraseIdx_sublist _ _)) C
   .exact List.Nodup.sublist (List.Sublist.map _ (List.eraseIdx_sublist _ _)) H
  .have v:(es.eraseIdxIfInBounds i).toList=es.toList.eraseIdx i:=by simp[Array.eraseIdxIfInBounds,q]
   rw[v,A,L1,L1,j]
end
open Go.ChangeMaps (setBlock)
structure RanB {κ β:Type}[DecidableEq κ](w:World)(r m:Nat)(kf:κ->Value)(vf:β->Value)(L:List (κ × β))(D:List κ):Prop where
 it:∃es clock since c0 seen,w.heap[m]?=some (.map es clock)/\Stamped es clock/\es.toList.map (λe=>(e.key,e.val))=L.map (λp=>(kf p.1,vf p.2)) /\
  w.heap[r]?=some (.mapIter (some m) since seen c0)/\(∀x∈es.toList,x.born < since)/\since<=c0/\since<=clock /\
  ∀(i:Nat) (e:MapEntry) (p:κ × β),es[i]?=some e->L[i]?=some p->seen.contains e.born=decide (p.1∈D)
 nodup:D.Nodup
 sub:∀k∈D,∃v,(k,v)∈L
section
variable {κ β:Type} [DecidableEq κ] {P:Program} {kt:TypeId} {kf:κ->Value} {vf:β->Value} {w w':World} {r m:Nat} {L:List (κ × β)} {D:List κ}
theorem RanB.map (h:RanB w r m kf vf L D):MapB w m kf vf L:=by obtain⟨es,clock,since,c0,seen,b,c,d,_⟩:=h.it;exact⟨es,clock,b,c,d⟩
theorem RanB.lt (h:RanB w r m kf vf L D):r < w.heap.size:=by obtain⟨es,clock,since,c0,seen,_,_,_,b,_⟩:=h.it;exact(bx.1 b).1
theorem RanB.keep (h:RanB w r m kf vf L D)(hr:w'.heap[r]?=w.heap[r]?)(f:w'.heap[m]?=w.heap[m]?):RanB w' r m kf vf L D:=by obtain⟨es,clock,since,c0,seen,d,b,g,c,e⟩:=h.it;exact⟨⟨es,clock,since,c0,seen,f.trans d,b,g,hr.trans c,e⟩,h.nodup,h.sub⟩
theorem Bv:∀{l m:List κ},l.Nodup->(∀x∈l,x∈m)->l.length<=m.length
 | [],_,_,_=>av _
 | x::l,m,hn,hs=>by have b:=hs x (by simp);obtain⟨d,f⟩:=List.nodup_cons.1 hn;have g:=Bv (m:=m.erase x) f (λy c=>(List.mem_erase_of_ne (λe=>d (by rw[<-e];exact c))).2 (hs y (by simp[c])));rw[List.length_erase_of_mem b] at g;have:0 < m.length:=List.length_pos_of_mem b;simp;omega
theorem RanB.len (h:RanB w r m kf vf L D):D.length<=L.length:=by
 have b:=Bv (m:=L.map (·.1)) h.nodup (λk d=>by obtain⟨v,c⟩:=h.sub k d;exact bi.2 ⟨_,c,rfl⟩)
 simpa using b
theorem RanB.len_lt (h:RanB w r m kf vf L D){k:κ}{v:β}(f:(k,v)∈L)(d:k ∉ D):D.length < L.length:=by
 have c:=Bv (l:=k::D) (m:=L.map (·.1)) (List.nodup_cons.2 ⟨d,h.nodup⟩) (λj b=>by
  rcases bo.1 b with rfl | b
  .exact bi.2 ⟨_,f,rfl⟩
  .obtain⟨v,e⟩:=h.sub j b;exact bi.2 ⟨_,e,rfl⟩)
 simp at c;omega
theorem P7 (w:World){r:Nat}(o:Obj)(hr:r < w.heap.size):(setBlock w r o).heap[r]?=some o:=by simp[setBlock,hr]
theorem Hb (w:World){r k:Nat}(o:Obj)(b:k≠r):(setBlock w r o).heap[k]?=w.heap[k]?:=by simp only[setBlock,Array.getElem?_setIfInBounds];rw[dn (λe=>b e.symm)]
theorem I6 (w:World)(r:Nat)(o:Obj):(setBlock w r o).heap.size=w.heap.size:=by simp[setBlock]
theorem So {t et:TypeId}(f:P.underlying t=some (.map kt et))(h:MapB w m kf vf L) :
  ∃w',(Instr.range t (.map (some m))).run P w=.ok (.pointer (some ⟨w.heap.size,0,none⟩)) w'/\RanB w' w.heap.size m kf vf L []/\Below w.heap.size w w'/\w'.heap.size=w.heap.size+1:=by
 have c:=h.lt;obtain⟨es,clock,d,b,g⟩:=h;refine⟨w.alloc (.mapIter (some m) clock #[] clock),?_,⟨⟨es,clock,clock,clock,#[],?_,b,g,heap_alloc_new w _,b.1,au _,au _,λi e p _ _=>by simp⟩,by simp,by simp⟩,(ab _ _).alloc (au _) _,by simp⟩
 .simp[Instr.range,run_underlying f,B3 d,newObj,Sem.run,Result.andThen]
 .exact(ae w _ m c).trans d
theorem Wh (h:RanB w r m kf vf L D)(ty:TypeId) :
  ((∀p∈L,p.1∈D)/\(Instr.next (.pointer (some ⟨r,0,none⟩)) false ty).run P w=.ok (.tuple #[.bool false]) w) \/
  ∃k v w',(k,v)∈L/\k ∉ D/\(Instr.next (.pointer (some ⟨r,0,none⟩)) false ty).run P w=.ok (.tuple #[.bool true,kf k,vf v]) w'/\RanB w' r m kf vf L (D++[k])/\w.grownBy w' (some r)/\w'.heap.size=w.heap.size /\
   ∀(P':Program) (B:World),B.heap[r]?=w'.heap[r]?->B.heap[m]?=w'.heap[m]?->(Instr.entry (.pointer (some ⟨r,0,none⟩))).run P' B=.ok (.tuple #[kf k,vf v]) B:=by
 have X:=h.map.nodup;have hrl:=h.lt;obtain⟨⟨es,clock,since,c0,seen,W,x,Z,hr,q,hsc,I,c⟩,hdn,C⟩:=h;have hsz:es.size=L.length:=by have:=congrArg List.length Z;simpa using this
 have l:∀i (d:i < es.size),es[i].key=kf (L[i]'(by omega)).1/\es[i].val=vf (L[i]'(by omega)).2:=λi d=>by have n:=congrArg (·[i]?) Z;simp only[List.getElem?_map,Array.getElem?_toList] at n;rw[am d,ap (by omega)] at n;simpa using n
 have hne:r≠m:=λe=>by rw[e,W] at hr;cases hr
 rcases run_next_at (P:=P) w ty r m since c0 seen es clock hr W q hsc with⟨h0,hrun⟩ | ⟨e,hem,w1,hw1,hrun⟩
 .left;refine⟨λp S=>?_,hrun⟩;obtain⟨i,d,rfl⟩:=List.getElem_of_mem S;have H:i < es.size:=by omega
  have n:=c i es[i] L[i] (am H) (ap d);have U:seen.contains es[i].born=true:=by
   cases hc:seen.contains es[i].born
   .exfalso;have:es[i]∈leftOf es seen:=by unfold leftOf;rw[Array.mem_filter];exact⟨Array.getElem_mem H,by simp only[hc];rfl⟩
    rw[Array.eq_empty_of_size_eq_zero h0] at this;simp at this
   .rfl
  rw[U] at n;simpa using n.symm
 .right;have u:e∈leftOf es seen:=by simpa using hem
  unfold leftOf at u;rw[Array.mem_filter] at u;obtain⟨Y,V⟩:=u;obtain⟨i,d,rfl⟩:=Array.getElem_of_mem Y;have g:i < L.length:=by omega
  have n:=c i es[i] L[i] (am d) (ap g);have R:seen.contains es[i].born=false:=by simpa using V
  rw[R] at n;have E:L[i].1 ∉ D:=by simpa using n.symm
  have t:∀j:Nat,w1.heap[j]?=w.heap[j]?:=λj=>by rcases hw1 with e | e<;>rw[e]<;>rfl
  have M:w1.heap.size=w.heap.size:=by rcases hw1 with e | e<;>rw[e]<;>rfl
  have K:(setBlock w1 r (.mapIter (some m) since (seen.push es[i].born) clock)).heap[r]?=some (.mapIter (some m) since (seen.push es[i].born) clock):=P7 w1 _ (by omega);have N:(setBlock w1 r (.mapIter (some m) since (seen.push es[i].born) clock)).heap[m]?=some (.map es clock):=((Hb w1 _ (λe=>hne e.symm)).trans (t m)).trans W;refine⟨L[i].1,L[i].2,_,bu g,E,?_,⟨⟨es,clock,since,clock,_,N,x,Z,K,q,I,I,λj e p hj S=>?_⟩,?_,?_⟩,?_,?_,?_⟩
  .rw[hrun,(l i d).1,(l i d).2]
  .have U:=c j e p hj S;rw[Array.contains_push,U];obtain⟨G,rfl⟩:=bx.1 hj;obtain⟨J,rfl⟩:=aq.1 S;have T:(es[j].born==es[i].born)=decide (L[j].1=L[i].1):=by
    rw[Bool.eq_iff_iff,beq_iff_eq,decide_eq_true_eq];constructor
    .intro O;have hnb:=x.2.1;have:j=i:=by
      have f:=List.pairwise_iff_getElem.1 (List.nodup_iff_pairwise_ne.1 hnb);apply Decidable.byContradiction;intro y;rcases Nat.lt_or_gt_of_ne y with z | A
      .have:=f j i (by simpa using G) (by simpa using d) z;simp at this;exact this O
      .have:=f i j (by simpa using d) (by simpa using G) A;simp at this;exact this O.symm
     subst this;rfl
    .intro F;have:j=i:=by
      have f:=List.pairwise_iff_getElem.1 (List.nodup_iff_pairwise_ne.1 X);apply Decidable.byContradiction;intro y;rcases Nat.lt_or_gt_of_ne y with z | A
      .have:=f j i (by simpa using J) (by simpa using g) z;simp at this;exact this F
      .have:=f i j (by simpa using g) (by simpa using J) A;simp at this;exact this F.symm
     subst this;rfl
   rw[T];simp[Bool.decide_or]
  .rw[List.nodup_append];refine⟨hdn,by simp,λa ha b T=>?_⟩;simp only[List.mem_singleton] at T;subst T;exact λe=>E (e ▸ ha)
  .intro k s;rcases bz.1 s with s | s
   .exact C k s
   .simp only[List.mem_singleton] at s;subst s;exact⟨_,bu g⟩
  .refine⟨by rcases hw1 with e | e<;>rw[e]<;>rfl,by rcases hw1 with e | e<;>rw[e]<;>rfl,by rcases hw1 with e | e<;>rw[e]<;>rfl,by rw[I6];omega,λk _ s=>?_⟩;rw[Hb w1 _ (λe=>s (by rw[e]))];exact t k
  .rw[I6];exact M
  .intro P' B e1 e2;have:=run_entry_at (P:=P') B r m since seen es clock es[i] (e1.trans K) (e2.trans N) (by simp) x.2.1;rw[this,(l i d).1,(l i d).2]
variable {ops:Array Oper} {rest:List Oper} {o:Oper} {a:Act} {Q:Exit->Act->World->Prop}
theorem Hc (j:o.guard=none)(mo:Operand)(t:TypeId)(d:o.op=Op.range t mo){et:TypeId}(g:P.underlying t=some (.map kt et))(e:a.eval mo=.map (some m))(h:MapB w m kf vf L)
  (f:∀w',RanB w' w.heap.size m kf vf L []->Below w.heap.size w w'->w'.heap.size=w.heap.size+1->wpList P ops Q rest (a.put o.dst (.pointer (some ⟨w.heap.size,0,none⟩))) w') :
  wpList P ops Q (o::rest) a w:=by
 refine wpList_plain j λn c=>?_;obtain⟨w',b,l,k,i⟩:=So g h;unfold Oper.wp;simp[execOp,d,e,b,Result.andThen];exact c _ _ (f w' l k i)
theorem Ix (i:o.guard=none)(it:Operand)(d:o.op=Op.next it false)(f:a.eval it=.pointer (some ⟨r,0,none⟩))(h:RanB w r m kf vf L D)
  (b:(∀p∈L,p.1∈D)->wpList P ops Q rest (a.put o.dst (.tuple #[.bool false])) w)
  (c:∀k v w',(k,v)∈L->k ∉ D->RanB w' r m kf vf L (D++[k])->w.grownBy w' (some r)->w'.heap.size=w.heap.size->(Instr.entry (.pointer (some ⟨r,0,none⟩))).run P w'=.ok (.tuple #[kf k,vf v]) w'->wpList P ops Q rest (a.put o.dst (.tuple #[.bool true,kf k,vf v])) w') :
  wpList P ops Q (o::rest) a w:=by
 refine wpList_plain i λj e=>?_;unfold Oper.wp;rcases Wh (P:=P) h o.type with⟨g,hrun⟩ | ⟨k,v,w',h1,h2,hrun,h3,h4,h5,h6⟩
 .simp[execOp,d,f,hrun,Result.andThen];exact e _ _ (b g)
 .simp[execOp,d,f,hrun,Result.andThen];exact e _ _ (c k v w' h1 h2 h3 h4 h5 (h6 P w' rfl rfl))
end
def Ar (k:Int):Value:=.int .i64 k
def Cd (s:ByteArray):Value:=.string s
theorem Lb {P:Program}{kt:TypeId}(h:P.underlying kt=some (.int .i64)):KeyOk P kt Ar where
 chk e a w:=by show(Instr.checkKey e (9999+1) kt (Ar a)).run P w=_;rw[Instr.checkKey];simp[Ar,run_underlying h]
 same:=⟨_,h,λa b=>by simp only[Ar,Instr.sameNow,if_true,Option.some.injEq];rw[Bool.eq_iff_iff];simp only[beq_iff_eq,decide_eq_true_eq]⟩
 bits a:=by simp[Ar,Instr.sameBits]
theorem Zdp (a b:ByteArray):(a==b)=decide (a=b):=by obtain⟨⟨x⟩⟩:=a;obtain⟨⟨y⟩⟩:=b;show((⟨x⟩:Array UInt8)==⟨y⟩)=_;rw[Bool.eq_iff_iff,beq_iff_eq,decide_eq_true_eq];simp
theorem Ic {P:Program}{kt:TypeId}(h:P.underlying kt=some .string):KeyOk P kt Cd where
 chk e a w:=by show(Instr.checkKey e (9999+1) kt (Cd a)).run P w=_;rw[Instr.checkKey];simp[Cd,run_underlying h]
 same:=⟨_,h,λa b=>by simp only[Cd,Instr.sameNow,Option.some.injEq];exact Zdp a b⟩
 bits a:=by simp[Cd,Instr.sameBits,Zdp]
end Go.Proofs.YtmmdikhljefeiaaGreat
