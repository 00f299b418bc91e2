
import Derived.Test.YtmmdikhljefeiaaGreatYBase
import Derived.Maps.Own
import Derived.Maps.RangeWalk
namespace Go.Proofs.YtmmdikhljefeiaaGreat
open Go.RowKit Go.MapKept
section
variable {κ β:Type} [DecidableEq κ]
def Az (L:List (κ × β))(k:κ):Option β:=(L.find? λp=>decide (p.1=k)).map (·.2)
def Gq (L:List (κ × β))(k:κ)(v:β):List (κ × β):=if(Az L k).isSome then L.map (λp=>if p.1=k then(k,v) else p) else L++[(k,v)]
def Hy (L:List (κ × β))(k:κ):List (κ × β):=L.filter λp=>decide (p.1≠k)
theorem C8 (p:κ × β)(L:List (κ × β))(k:κ):Az (p::L) k=if p.1=k then some p.2 else Az L k:=by unfold Az;rw[List.find?_cons];by_cases h:p.1=k<;>simp[h]
theorem Cx {L:List (κ × β)}{k:κ}:Az L k=none↔∀p∈L,p.1≠k:=by unfold Az;simp
theorem Ed {L:List (κ × β)}{k:κ}{v:β}(h:Az L k=some v):(k,v)∈L:=by unfold Az at h;obtain⟨p,c,rfl⟩:=bg.1 h;have b:=List.find?_some c;simp at b;subst b;exact List.mem_of_find?_eq_some c
theorem Tp {L:List (κ × β)}(b:(L.map (·.1)).Nodup){k:κ}{v:β}(h:(k,v)∈L):Az L k=some v:=by
 induction L with
 | nil=>simp at h
 | cons p L ih =>
  rw[C8];simp only[List.map_cons,List.nodup_cons] at b;rcases bq.1 h with rfl | h
  .simp
  .have c:p.1≠k:=λe=>b.1 (by rw[e];exact bj.2 ⟨_,h,rfl⟩);rw[dq c];exact ih b.2 h
theorem U3 (L M:List (κ × β))(k:κ):Az (L++M) k=(Az L k).or (Az M k):=by
 induction L with
 | nil=>simp[Az]
 | cons p L ih =>
  rw[dn,C8,C8,ih];split<;>simp
theorem Ro (L:List (κ × β))(k:κ)(v:β)(j:κ):Az (L.map λp=>if p.1=k then(k,v) else p) j=if j=k then(Az L k).map (λ_=>v) else Az L j:=by
 induction L with
 | nil=>simp[Az]
 | cons p L ih =>
  rw[cw,C8,ih,C8,C8];by_cases c:p.1=k
  .by_cases b:j=k
   .subst b;simp[c]
   .have:k≠j:=λe=>b e.symm;simp[c,b,this]
  .by_cases b:j=k
   .subst b;simp[c]
   .simp[c,b]
theorem D4 (L:List (κ × β))(k:κ)(v:β)(j:κ):Az (Gq L k v) j=if j=k then some v else Az L j:=by
 unfold Gq;split
 .rename_i h
  rw[Ro];obtain⟨u,d⟩:=Option.isSome_iff_exists.1 h;by_cases b:j=k<;>simp[b,d]
 .rename_i h
  have c:Az L k=none:=by simpa using h
  rw[U3,C8];by_cases b:j=k
  .subst b;simp[c]
  .have:k≠j:=λe=>b e.symm;simp[b,this,Az]
theorem Ir (L:List (κ × β))(k j:κ):Az (Hy L k) j=if j=k then none else Az L j:=by
 unfold Hy
 induction L with
 | nil=>simp[Az]
 | cons p L ih =>
  rw[List.filter_cons,C8];by_cases c:p.1=k
  .simp only[ne_eq,c,not_true_eq_false,decide_false,Bool.false_eq_true,if_false];simp only[ne_eq] at ih;rw[ih];by_cases b:j=k
   .simp[b]
   .have:k≠j:=λe=>b e.symm;simp[b,this]
  .simp only[ne_eq,c,not_false_eq_true,decide_true,if_true];rw[C8,ih];by_cases b:j=k
   .subst b;simp[c]
   .simp[b]
theorem Z6p (L:List (κ × β))(k:κ)(v:β):(Gq L k v).map (·.1)=if(Az L k).isSome then L.map (·.1) else L.map (·.1)++[k]:=by
 unfold Gq;split
 .rw[List.map_map];apply List.map_congr_left;intro p _;by_cases h:p.1=k<;>simp[h]
 .simp
theorem Z9i (L:List (κ × β))(k:κ)(v:β):(Gq L k v).length=if(Az L k).isSome then L.length else L.length+1:=by unfold Gq;split<;>simp
theorem Rb {L:List (κ × β)}(d:(L.map (·.1)).Nodup)(k:κ)(v:β):((Gq L k v).map (·.1)).Nodup:=by
 rw[Z6p];split
 .exact d
 .rename_i h
  have e:Az L k=none:=by simpa using h
  rw[List.nodup_append];refine⟨d,by simp,λa ha b c=>?_⟩;obtain⟨p,f,rfl⟩:=bj.1 ha;simp only[List.mem_singleton] at c;subst c;exact Cx.1 e p f
theorem Z21 {L:List (κ × β)}(b:(L.map (·.1)).Nodup)(k:κ):((Hy L k).map (·.1)).Nodup:=by unfold Hy;exact List.Nodup.sublist (List.Sublist.map _ List.filter_sublist) b
end
structure KeyOk {κ:Type}[DecidableEq κ](P:Program)(kt:TypeId)(kf:κ->Value):Prop where
 chk:∀(e:Bool) (a:κ) (w:World),(Instr.checkKey e 10000 kt (kf a)).run P w=.ok () w
 same:∃kd,P.underlying kt=some kd/\∀a b,Instr.sameNow kd (kf a) (kf b)=some (decide (a=b))
 bits:∀a,Instr.sameBits 10000 (kf a) (kf a)=true
def N9 (k:Nat):Value:=.int .i64 (k:Int)
theorem Zj {P:Program}{kt:TypeId}(h:P.underlying kt=some (.int .i64)):KeyOk P kt N9 where
 chk e a w:=by show(Instr.checkKey e (9999+1) kt (N9 a)).run P w=_;rw[Instr.checkKey];simp[N9,run_underlying h]
 same:=⟨_,h,λa b=>by simp only[N9,Instr.sameNow,if_true,Option.some.injEq];rw[Bool.eq_iff_iff];simp only[beq_iff_eq,decide_eq_true_eq];omega⟩
 bits a:=by simp[N9,Instr.sameBits]
def MapB {κ β:Type}(w:World)(m:Nat)(kf:κ->Value)(vf:β->Value)(L:List (κ × β)):Prop :=
 ∃es clock,w.heap[m]?=some (.map es clock)/\Stamped es clock/\es.toList.map (λe=>(e.key,e.val))=L.map (λp=>(kf p.1,vf p.2))
def putObj (w:World)(m:Nat)(o:Obj):World:={w with heap:=w.heap.setIfInBounds m o}
theorem Rg {α γ:Type}(f:α->γ){l:List α}(h:(l.map f).Nodup):l.Nodup:=by
 induction l with
 | nil=>simp
 | cons x l ih =>
  simp only[List.map_cons,List.nodup_cons] at h⊢;exact⟨λb=>h.1 (bj.2 ⟨x,b,rfl⟩),ih h.2⟩
section
variable {κ β:Type} {P:Program} {kt:TypeId} {kf:κ->Value} {vf:β->Value} {w w':World} {m:Nat} {L:List (κ × β)}
theorem MapB.lt (h:MapB w m kf vf L):m < w.heap.size:=by obtain⟨es,clock,b,_⟩:=h;exact(bz.1 b).1
theorem MapB.of_block (h:MapB w m kf vf L)(b:w'.heap[m]?=w.heap[m]?):MapB w' m kf vf L:=by obtain⟨es,clock,c,r⟩:=h;exact⟨es,clock,b.trans c,r⟩
theorem KeyOk.inj [DecidableEq κ](K:KeyOk P kt kf){a b:κ}(h:kf a=kf b):a=b:=by obtain⟨kd,_,e⟩:=K.same;have c:=e a b;have d:=e b b;rw[h] at c;rw[c] at d;simpa using d
theorem MapB.nodup (h:MapB w m kf vf L):(L.map (·.1)).Nodup:=by
 obtain⟨es,clock,_,⟨_,_,b⟩,d⟩:=h;have c:es.toList.map (·.key)=(L.map (·.1)).map kf:=by have:=congrArg (List.map Prod.fst) d;simpa [List.map_map,Function.comp_def] using this
 rw[c] at b;exact Rg kf b
theorem MapB.length (h:MapB w m kf vf L):∃es clock,w.heap[m]?=some (.map es clock)/\es.size=L.length:=by obtain⟨es,clock,b,_,c⟩:=h;refine⟨es,clock,b,?_⟩;have:=congrArg List.length c;simpa using this
theorem V8 [DecidableEq κ]{kd:TypeDesc}(f:∀a b,Instr.sameNow kd (kf a) (kf b)=some (decide (a=b)))(k:κ):∀(es:List MapEntry) (L:List (κ × β)) (i:Nat),es.map (λe=>(e.key,e.val))=L.map (λp=>(kf p.1,vf p.2)) ->
  Instr.findNow kd (kf k) es i=some ((Az L k).map λv=>(i+(L.findIdx λp=>decide (p.1=k)),vf v))
 | [],[],i,_=>by simp[Instr.findNow,Az]
 | [],_::_,i,h=>by simp at h
 | _::_,[],i,h=>by simp at h
 | e::es,p::L,i,h=>by
  simp only[List.map_cons,List.cons.injEq,Prod.mk.injEq] at h;obtain⟨⟨g,j⟩,hr⟩:=h;unfold Instr.findNow;rw[g,f k p.1,C8,List.findIdx_cons];by_cases d:p.1=k
  .have c:k=p.1:=d.symm;simp[d,j]
  .have c:¬k=p.1:=λe=>d e.symm;simp only[d,c,decide_false,if_false,cond_false];rw[V8 f k es L (i+1) hr]
   congr 1
   cases Az L k with
   | none=>rfl
   | some v=>simp only[Option.map_some];congr 2;omega
theorem Cn [DecidableEq κ](K:KeyOk P kt kf){es:Array MapEntry}(d:es.toList.map (λe=>(e.key,e.val))=L.map (λp=>(kf p.1,vf p.2)))(k:κ) :
  (Instr.findKey kt (kf k) es.toList).run P w=.ok ((Az L k).map λv=>(L.findIdx λp=>decide (p.1=k),vf v)) w:=by
 obtain⟨kd,c,b⟩:=K.same;unfold Instr.findKey;rw[Sem.run_bind,run_underlying c];simp only[Result.andThen_ok];rw[V8 b k es.toList L 0 d];simp[Nat.zero_add]
theorem Ba {es:Array MapEntry}{clock:Nat}(b:w.heap[m]?=some (.map es clock)):(getObj m).run P w=.ok (.map es clock) w:=by simp[getObj,Sem.run,b]
theorem Dx {es:Array MapEntry}{clock:Nat}(b:w.heap[m]?=some (.map es clock))(o:Obj):(setObj m o).run P w=.ok () (putObj w m o):=by simp[setObj,Sem.run,b,putObj]
theorem G7 (w:World){m:Nat}(o:Obj)(b:m < w.heap.size):(putObj w m o).heap[m]?=some o:=by simp[putObj,b]
theorem A9 (w:World){m k:Nat}(o:Obj)(b:k≠m):(putObj w m o).heap[k]?=w.heap[k]?:=by simp only[putObj,Array.getElem?_setIfInBounds];rw[dq (λe=>b e.symm)]
theorem Cc (w:World)(m:Nat)(o:Obj):(putObj w m o).heap.size=w.heap.size:=by simp[putObj]
theorem Cb [DecidableEq κ](K:KeyOk P kt kf){t et:TypeId}(c:P.underlying t=some (.map kt et)){z:Value}(e:(zeroValue et).run P w=.ok z w)(h:MapB w m kf vf L)(k:κ) :
  (Instr.lookup t (.map (some m)) (kf k) true).run P w=.ok (.tuple #[((Az L k).map vf).getD z,.bool (Az L k).isSome]) w:=by
 obtain⟨es,clock,b,_,d⟩:=h;cases hg:Az L k with
 | none=>simp[Instr.lookup,run_underlying c,Ba b,K.chk,Cn K d,e,hg]
 | some v=>simp[Instr.lookup,run_underlying c,Ba b,K.chk,Cn K d,hg]
theorem Ar [DecidableEq κ](K:KeyOk P kt kf){t et:TypeId}(c:P.underlying t=some (.map kt et)){z:Value}(e:(zeroValue et).run P w=.ok z w)(h:MapB w m kf vf L)(k:κ) :
  (Instr.lookup t (.map (some m)) (kf k) false).run P w=.ok (((Az L k).map vf).getD z) w:=by
 obtain⟨es,clock,b,_,d⟩:=h;cases hg:Az L k with
 | none=>simp[Instr.lookup,run_underlying c,Ba b,K.chk,Cn K d,e,hg]
 | some v=>simp[Instr.lookup,run_underlying c,Ba b,K.chk,Cn K d,hg]
theorem Bh {t kt et ty:TypeId}(c:P.underlying t=some (.map kt et))(h:MapB w m kf vf L):(Builtin.len_ #[t] ty #[.map (some m)]).run P w=.ok (.int .i64 (L.length:Int)) w:=by obtain⟨es,clock,b,d⟩:=h.length;simp[Builtin.len_,run_underlying c,Ba b,d,goInt]
theorem Eg (w:World)(kf:κ->Value)(vf:β->Value):MapB (w.alloc (.map #[] 0)) w.heap.size kf vf [] :=
 ⟨#[],0,heap_alloc_new w _,⟨by simp,by simp,by simp⟩,rfl⟩
theorem Am [DecidableEq κ](K:KeyOk P kt kf){t et:TypeId}(U:P.underlying t=some (.map kt et))(h:MapB w m kf vf L)(k:κ)(v:β) :
  ∃o,(Instr.mapUpdate t (.map (some m)) (kf k) (vf v)).run P w=.ok () (putObj w m o)/\MapB (putObj w m o) m kf vf (Gq L k v):=by
 have O:=h.nodup;have I:=h.lt;obtain⟨es,clock,n,J,B⟩:=h;cases hg:Az L k with
 | none =>
  refine⟨.map (es.push {key:=kf k,val:=vf v,born:=clock}) (clock+1),?_,es.push {key:=kf k,val:=vf v,born:=clock},clock+1,G7 w _ I,?_,?_⟩
  .simp[Instr.mapUpdate,run_underlying U,Ba n,K.chk,Cn K B,hg,Dx n]
  .obtain⟨f,N,S⟩:=J;refine⟨?_,?_,?_⟩
   .intro x q;simp at q;rcases q with q | rfl
    .have:=f x (by simpa using q);omega
    .exact dc _
   .simp only[Array.toList_push,List.map_append,List.map_cons,List.map_nil,List.nodup_append];refine⟨N,by simp,λa ha b n=>?_⟩;obtain⟨x,q,rfl⟩:=bj.1 ha;simp only[List.mem_singleton] at n;have:=f x q;omega
   .simp only[Array.toList_push,List.map_append,List.map_cons,List.map_nil,List.nodup_append];refine⟨S,by simp,λa ha b n=>?_⟩;simp only[List.mem_singleton] at n;subst n;have V:es.toList.map (·.key)=(L.map (·.1)).map kf:=by
     have:=congrArg (List.map Prod.fst) B;simpa [List.map_map,Function.comp_def] using this
    rw[V] at ha;obtain⟨c,Z,rfl⟩:=bj.1 ha;obtain⟨p,hp,rfl⟩:=bj.1 Z;exact λe=>Cx.1 hg p hp (K.inj e)
  .unfold Gq;rw[hg];simp[B]
 | some u =>
  have d:(L.findIdx λp=>decide (p.1=k)) < L.length:=by rw[List.findIdx_lt_length];exact⟨(k,u),Ed hg,by simp⟩
  have l:(L[L.findIdx λp=>decide (p.1=k)]'d).1=k:=by have:=List.findIdx_getElem (w:=d);simpa using this
  have A:=Cn (P:=P) (w:=w) K B k;rw[hg] at A;simp only[Option.map_some] at A;generalize (L.findIdx λp=>decide (p.1=k))=i at *;have W:es.size=L.length:=by have:=congrArg List.length B;simpa using this
  have z:i < es.size:=by omega
  have F:∀j (C:j < es.size),es[j].key=kf (L[j]'(by omega)).1/\es[j].val=vf (L[j]'(by omega)).2:=λj C=>by have f:=congrArg (·[j]?) B;simp only[List.getElem?_map,Array.getElem?_toList] at f;rw[am C,ap (by omega)] at f;simpa using f
  have M:es[i].key=kf k:=by rw[(F i z).1,l]
  refine⟨.map (es.modify i λe=>{e with key:=kf k,val:=vf v}) clock,?_,es.modify i λe=>{e with key:=kf k,val:=vf v},clock,G7 w _ I,?_,?_⟩
  .simp[Instr.mapUpdate,run_underlying U,Ba n,K.chk,A,Instr.keyThatStays,M,K.bits,Dx n,z]
  .obtain⟨f,N,S⟩:=J;have H:(es.modify i λe=>{e with key:=kf k,val:=vf v}).toList.map (·.born)=es.toList.map (·.born):=by
    apply cz;intro j;simp only[List.getElem?_map,Array.getElem?_toList,Array.getElem?_modify];split
    .cases es[j]?<;>rfl
    .rfl
   have T:(es.modify i λe=>{e with key:=kf k,val:=vf v}).toList.map (·.key)=es.toList.map (·.key):=by
    apply cz;intro j;simp only[List.getElem?_map,Array.getElem?_toList,Array.getElem?_modify];split
    .rename_i g
     subst g;rw[am z];simp[M]
    .rfl
   refine⟨λx q=>?_,by rw[H];exact N,by rw[T];exact S⟩;have G:x.born∈(es.modify i λe=>{e with key:=kf k,val:=vf v}).toList.map (·.born):=bj.2 ⟨x,q,rfl⟩;rw[H] at G;obtain⟨y,Y,e⟩:=bj.1 G;rw[<-e];exact f y Y
  .unfold Gq;rw[hg];simp only[Option.isSome_some,if_true,List.map_map];apply cz;intro j;by_cases C:j < es.size
   .have f:=F j C;simp only[List.getElem?_map,Array.getElem?_toList,Array.getElem?_modify];rw[am C,ap (show j < L.length by omega)];by_cases g:i=j
    .subst g;simp[l]
    .have R:(L[j]'(by omega)).1≠k:=λe=>by
      have s:=List.pairwise_iff_getElem.1 O;rcases Nat.lt_or_ge i j with E | X
      .have:=s i j (by simpa using d) (by simp;omega) E;simp at this;exact this (by rw[l,e])
      .have:=s j i (by simp;omega) (by simpa using d) (by omega);simp at this;exact this (by rw[l,e])
     simp[g,R,f.1,f.2]
   .simp only[List.getElem?_map,Array.getElem?_toList];rw[Array.getElem?_eq_none (by simp;omega),cn (by omega)];rfl
theorem Mf {α γ:Type}(f:α->γ):∀(l:List α) (i:Nat),(l.eraseIdx i).map f=(l.map f).eraseIdx i
 | [],_=>by simp
 | x::l,0=>by simp
 | x::l,i+1=>by simp[Mf f l i]
theorem C0 [DecidableEq κ](K:KeyOk P kt kf){t et ty tk:TypeId}(B:P.underlying t=some (.map kt et))(h:MapB w m kf vf L)(k:κ) :
  ∃o,(Builtin.delete_ #[t,tk] ty #[.map (some m),kf k]).run P w=.ok (.tuple #[]) (putObj w m o)/\MapB (putObj w m o) m kf vf (Hy L k):=by
 have c:=h.nodup;have g:=h.lt;obtain⟨es,clock,s,j,q⟩:=h;cases hg:Az L k with
 | none =>
  refine⟨.map es clock,?_,es,clock,G7 w _ g,j,?_⟩
  .simp[Builtin.delete_,run_underlying B,Ba s,K.chk,Cn K q,hg,Dx s]
  .rw[q]
   congr 1
   unfold Hy;rw[List.filter_eq_self.2];intro p n;simpa using Cx.1 hg p n
 | some u =>
  have b:(L.findIdx λp=>decide (p.1=k)) < L.length:=by rw[List.findIdx_lt_length];exact⟨(k,u),Ed hg,by simp⟩
  have f:(L[L.findIdx λp=>decide (p.1=k)]'b).1=k:=by have:=List.findIdx_getElem (w:=b);simpa using this
  have d:=Cn (P:=P) (w:=w) K q k;rw[hg] at d;simp only[Option.map_some] at d;generalize (L.findIdx λp=>decide (p.1=k))=i at *;have G:es.size=L.length:=by have:=congrArg List.length q;simpa using this
  have l:i < es.size:=by omega
  have z:Hy L k=L.eraseIdx i:=by
   unfold Hy;have e:=dj i L;rw[List.drop_eq_getElem_cons b] at e;rw[List.eraseIdx_eq_take_drop_succ]
   conv=>lhs;rw[<-e]
   rw[<-e] at c;simp only[List.map_append,List.map_cons,List.nodup_append,List.nodup_cons] at c;obtain⟨_,⟨y,_⟩,A⟩:=c;rw[List.filter_append,List.filter_cons,dq (by simp[f]),List.filter_eq_self.2,List.filter_eq_self.2]
   .intro p n;simp only[decide_eq_true_eq];exact λe=>y (by rw[f,<-e];exact bj.2 ⟨p,n,rfl⟩)
   .intro p n;simp only[decide_eq_true_eq];exact λe=>A p.1 (bj.2 ⟨p,n,rfl⟩) (L[i]).1 (by simp) (by rw[f,e])
  refine⟨.map (es.eraseIdxIfInBounds i) clock,?_,es.eraseIdxIfInBounds i,clock,G7 w _ g,?_,?_⟩
  .simp[Builtin.delete_,run_underlying B,Ba s,K.chk,d,Dx s]
  .obtain⟨C,E,H⟩:=j;have v:(es.eraseIdxIfInBounds i).toList=es.toList.eraseIdx i:=by simp[Array.eraseIdxIfInBounds,l]
   rw[Stamped,v];refine⟨λx F=>C x (List.mem_of_mem_eraseIdx F),?_,?_⟩
   .exact List.Nodup.sublist (List.Sublist.map _ (List.eraseIdx_sublist _ _)) E
   .exact List.Nodup.sublist (List.Sublist.map _ (List.eraseIdx_sublist _ _)) H
  .have v:(es.eraseIdxIfInBounds i).toList=es.toList.eraseIdx i:=by simp[Array.eraseIdxIfInBounds,l]
   rw[v,z,Mf,Mf,q]
end
open Go.ChangeMaps (setBlock)
structure RanB {κ β:Type}[DecidableEq κ](w:World)(r m:Nat)(kf:κ->Value)(vf:β->Value)(L:List (κ × β))(D:List κ):Prop where
 it:∃es clock since c0 seen,w.heap[m]?=some (.map es clock)/\Stamped es clock/\es.toList.map (λe=>(e.key,e.val))=L.map (λp=>(kf p.1,vf p.2)) /\
  w.heap[r]?=some (.mapIter (some m) since seen c0)/\(∀x∈es.toList,x.born < since)/\since<=c0/\since<=clock /\
  ∀(i:Nat) (e:MapEntry) (p:κ × β),es[i]?=some e->L[i]?=some p->seen.contains e.born=decide (p.1∈D)
 nodup:D.Nodup
 sub:∀k∈D,∃v,(k,v)∈L
section
variable {κ β:Type} [DecidableEq κ] {P:Program} {kt:TypeId} {kf:κ->Value} {vf:β->Value} {w w':World} {r m:Nat} {L:List (κ × β)} {D:List κ}
theorem RanB.map (h:RanB w r m kf vf L D):MapB w m kf vf L:=by obtain⟨es,clock,since,c0,seen,b,c,d,_⟩:=h.it;exact⟨es,clock,b,c,d⟩
theorem RanB.lt (h:RanB w r m kf vf L D):r < w.heap.size:=by obtain⟨es,clock,since,c0,seen,_,_,_,b,_⟩:=h.it;exact(bz.1 b).1
theorem RanB.keep (h:RanB w r m kf vf L D)(hr:w'.heap[r]?=w.heap[r]?)(b:w'.heap[m]?=w.heap[m]?):RanB w' r m kf vf L D:=by obtain⟨es,clock,since,c0,seen,c,e,g,f,d⟩:=h.it;exact⟨⟨es,clock,since,c0,seen,b.trans c,e,g,hr.trans f,d⟩,h.nodup,h.sub⟩
theorem C1:∀{l m:List κ},l.Nodup->(∀x∈l,x∈m)->l.length<=m.length
 | [],_,_,_=>av _
 | x::l,m,hn,hs=>by have c:=hs x (by simp);obtain⟨d,f⟩:=List.nodup_cons.1 hn;have g:=C1 (m:=m.erase x) f (λy b=>(List.mem_erase_of_ne (λe=>d (by rw[<-e];exact b))).2 (hs y (by simp[b])));rw[List.length_erase_of_mem c] at g;have:0 < m.length:=List.length_pos_of_mem c;simp;omega
theorem RanB.len (h:RanB w r m kf vf L D):D.length<=L.length:=by
 have b:=C1 (m:=L.map (·.1)) h.nodup (λk c=>by obtain⟨v,d⟩:=h.sub k c;exact bj.2 ⟨_,d,rfl⟩)
 simpa using b
theorem RanB.len_lt (h:RanB w r m kf vf L D){k:κ}{v:β}(d:(k,v)∈L)(e:k ∉ D):D.length < L.length:=by
 have c:=C1 (l:=k::D) (m:=L.map (·.1)) (List.nodup_cons.2 ⟨e,h.nodup⟩) (λj b=>by
  rcases bq.1 b with rfl | b
  .exact bj.2 ⟨_,d,rfl⟩
  .obtain⟨v,f⟩:=h.sub j b;exact bj.2 ⟨_,f,rfl⟩)
 simp at c;omega
theorem Pf (w:World){r:Nat}(o:Obj)(hr:r < w.heap.size):(setBlock w r o).heap[r]?=some o:=by simp[setBlock,hr]
theorem Hx (w:World){r k:Nat}(o:Obj)(b:k≠r):(setBlock w r o).heap[k]?=w.heap[k]?:=by simp only[setBlock,Array.getElem?_setIfInBounds];rw[dq (λe=>b e.symm)]
theorem Jn (w:World)(r:Nat)(o:Obj):(setBlock w r o).heap.size=w.heap.size:=by simp[setBlock]
theorem Ug {t et:TypeId}(f:P.underlying t=some (.map kt et))(h:MapB w m kf vf L) :
  ∃w',(Instr.range t (.map (some m))).run P w=.ok (.pointer (some ⟨w.heap.size,0,none⟩)) w'/\RanB w' w.heap.size m kf vf L []/\Below w.heap.size w w'/\w'.heap.size=w.heap.size+1:=by
 have c:=h.lt;obtain⟨es,clock,d,b,g⟩:=h;refine⟨w.alloc (.mapIter (some m) clock #[] clock),?_,⟨⟨es,clock,clock,clock,#[],?_,b,g,heap_alloc_new w _,b.1,au _,au _,λi e p _ _=>by simp⟩,by simp,by simp⟩,(ab _ _).alloc (au _) _,by simp⟩
 .simp[Instr.range,run_underlying f,Ba d,newObj,Sem.run,Result.andThen]
 .exact(ae w _ m c).trans d
theorem Xb (h:RanB w r m kf vf L D)(ty:TypeId) :
  ((∀p∈L,p.1∈D)/\(Instr.next (.pointer (some ⟨r,0,none⟩)) false ty).run P w=.ok (.tuple #[.bool false]) w) \/
  ∃k v w',(k,v)∈L/\k ∉ D/\(Instr.next (.pointer (some ⟨r,0,none⟩)) false ty).run P w=.ok (.tuple #[.bool true,kf k,vf v]) w'/\RanB w' r m kf vf L (D++[k])/\w.grownBy w' (some r)/\w'.heap.size=w.heap.size /\
   ∀(P':Program) (B:World),B.heap[r]?=w'.heap[r]?->B.heap[m]?=w'.heap[m]?->(Instr.entry (.pointer (some ⟨r,0,none⟩))).run P' B=.ok (.tuple #[kf k,vf v]) B:=by
 have X:=h.map.nodup;have hrl:=h.lt;obtain⟨⟨es,clock,since,c0,seen,U,y,he,hr,q,hsc,J,c⟩,Y,K⟩:=h;have hsz:es.size=L.length:=by have:=congrArg List.length he;simpa using this
 have n:∀i (d:i < es.size),es[i].key=kf (L[i]'(by omega)).1/\es[i].val=vf (L[i]'(by omega)).2:=λi d=>by have l:=congrArg (·[i]?) he;simp only[List.getElem?_map,Array.getElem?_toList] at l;rw[am d,ap (by omega)] at l;simpa using l
 have Z:r≠m:=λe=>by rw[e,U] at hr;cases hr
 rcases run_next_at (P:=P) w ty r m since c0 seen es clock hr U q hsc with⟨h0,hrun⟩ | ⟨e,hem,w1,hw1,hrun⟩
 .left;refine⟨λp S=>?_,hrun⟩;obtain⟨i,d,rfl⟩:=List.getElem_of_mem S;have C:i < es.size:=by omega
  have l:=c i es[i] L[i] (am C) (ap d);have W:seen.contains es[i].born=true:=by
   cases hc:seen.contains es[i].born
   .exfalso;have:es[i]∈leftOf es seen:=by unfold leftOf;rw[Array.mem_filter];exact⟨Array.getElem_mem C,by simp only[hc];rfl⟩
    rw[Array.eq_empty_of_size_eq_zero h0] at this;simp at this
   .rfl
  rw[W] at l;simpa using l.symm
 .right;have z:e∈leftOf es seen:=by simpa using hem
  unfold leftOf at z;rw[Array.mem_filter] at z;obtain⟨V,hnc⟩:=z;obtain⟨i,d,rfl⟩:=Array.getElem_of_mem V;have f:i < L.length:=by omega
  have l:=c i es[i] L[i] (am d) (ap f);have E:seen.contains es[i].born=false:=by simpa using hnc
  rw[E] at l;have M:L[i].1 ∉ D:=by simpa using l.symm
  have t:∀j:Nat,w1.heap[j]?=w.heap[j]?:=λj=>by rcases hw1 with e | e<;>rw[e]<;>rfl
  have F:w1.heap.size=w.heap.size:=by rcases hw1 with e | e<;>rw[e]<;>rfl
  have H:(setBlock w1 r (.mapIter (some m) since (seen.push es[i].born) clock)).heap[r]?=some (.mapIter (some m) since (seen.push es[i].born) clock):=Pf w1 _ (by omega);have G:(setBlock w1 r (.mapIter (some m) since (seen.push es[i].born) clock)).heap[m]?=some (.map es clock):=((Hx w1 _ (λe=>Z e.symm)).trans (t m)).trans U;refine⟨L[i].1,L[i].2,_,bw f,M,?_,⟨⟨es,clock,since,clock,_,G,y,he,H,q,J,J,λj e p hj S=>?_⟩,?_,?_⟩,?_,?_,?_⟩
  .rw[hrun,(n i d).1,(n i d).2]
  .have W:=c j e p hj S;rw[Array.contains_push,W];obtain⟨O,rfl⟩:=bz.1 hj;obtain⟨I,rfl⟩:=aq.1 S;have T:(es[j].born==es[i].born)=decide (L[j].1=L[i].1):=by
    rw[Bool.eq_iff_iff,beq_iff_eq,decide_eq_true_eq];constructor
    .intro N;have hnb:=y.2.1;have:j=i:=by
      have g:=List.pairwise_iff_getElem.1 (List.nodup_iff_pairwise_ne.1 hnb);apply Decidable.byContradiction;intro A;rcases Nat.lt_or_gt_of_ne A with x | u
      .have:=g j i (by simpa using O) (by simpa using d) x;simp at this;exact this N
      .have:=g i j (by simpa using d) (by simpa using O) u;simp at this;exact this N.symm
     subst this;rfl
    .intro R;have:j=i:=by
      have g:=List.pairwise_iff_getElem.1 (List.nodup_iff_pairwise_ne.1 X);apply Decidable.byContradiction;intro A;rcases Nat.lt_or_gt_of_ne A with x | u
      .have:=g j i (by simpa using I) (by simpa using f) x;simp at this;exact this R
      .have:=g i j (by simpa using f) (by simpa using I) u;simp at this;exact this R.symm
     subst this;rfl
   rw[T];simp[Bool.decide_or]
  .rw[List.nodup_append];refine⟨Y,by simp,λa ha b T=>?_⟩;simp only[List.mem_singleton] at T;subst T;exact λe=>M (e ▸ ha)
  .intro k s;rcases ce.1 s with s | s
   .exact K k s
   .simp only[List.mem_singleton] at s;subst s;exact⟨_,bw f⟩
  .refine⟨by rcases hw1 with e | e<;>rw[e]<;>rfl,by rcases hw1 with e | e<;>rw[e]<;>rfl,by rcases hw1 with e | e<;>rw[e]<;>rfl,by rw[Jn];omega,λk _ s=>?_⟩;rw[Hx w1 _ (λe=>s (by rw[e]))];exact t k
  .rw[Jn];exact F
  .intro P' B e1 e2;have:=run_entry_at (P:=P') B r m since seen es clock es[i] (e1.trans H) (e2.trans G) (by simp) y.2.1;rw[this,(n i d).1,(n i d).2]
variable {ops:Array Oper} {rest:List Oper} {o:Oper} {a:Act} {Q:Exit->Act->World->Prop}
theorem Hw (l:o.guard=none)(mo:Operand)(t:TypeId)(c:o.op=Op.range t mo){et:TypeId}(j:P.underlying t=some (.map kt et))(e:a.eval mo=.map (some m))(h:MapB w m kf vf L)
  (f:∀w',RanB w' w.heap.size m kf vf L []->Below w.heap.size w w'->w'.heap.size=w.heap.size+1->wpList P ops Q rest (a.put o.dst (.pointer (some ⟨w.heap.size,0,none⟩))) w') :
  wpList P ops Q (o::rest) a w:=by
 refine wpList_plain l λn d=>?_;obtain⟨w',b,i,k,g⟩:=Ug j h;unfold Oper.wp;simp[execOp,c,e,b,Result.andThen];exact d _ _ (f w' i k g)
theorem Io (i:o.guard=none)(it:Operand)(e:o.op=Op.next it false)(d:a.eval it=.pointer (some ⟨r,0,none⟩))(h:RanB w r m kf vf L D)
  (c:(∀p∈L,p.1∈D)->wpList P ops Q rest (a.put o.dst (.tuple #[.bool false])) w)
  (b:∀k v w',(k,v)∈L->k ∉ D->RanB w' r m kf vf L (D++[k])->w.grownBy w' (some r)->w'.heap.size=w.heap.size->(Instr.entry (.pointer (some ⟨r,0,none⟩))).run P w'=.ok (.tuple #[kf k,vf v]) w'->wpList P ops Q rest (a.put o.dst (.tuple #[.bool true,kf k,vf v])) w') :
  wpList P ops Q (o::rest) a w:=by
 refine wpList_plain i λj f=>?_;unfold Oper.wp;rcases Xb (P:=P) h o.type with⟨g,hrun⟩ | ⟨k,v,w',h1,h2,hrun,h3,h4,h5,h6⟩
 .simp[execOp,e,d,hrun,Result.andThen];exact f _ _ (c g)
 .simp[execOp,e,d,hrun,Result.andThen];exact f _ _ (b k v w' h1 h2 h3 h4 h5 (h6 P w' rfl rfl))
end
def Ax (k:Int):Value:=.int .i64 k
def Ci (s:ByteArray):Value:=.string s
theorem Mm {P:Program}{kt:TypeId}(h:P.underlying kt=some (.int .i64)):KeyOk P kt Ax where
 chk e a w:=by show(Instr.checkKey e (9999+1) kt (Ax a)).run P w=_;rw[Instr.checkKey];simp[Ax,run_underlying h]
 same:=⟨_,h,λa b=>by simp only[Ax,Instr.sameNow,if_true,Option.some.injEq];rw[Bool.eq_iff_iff];simp only[beq_iff_eq,decide_eq_true_eq]⟩
 bits a:=by simp[Ax,Instr.sameBits]
theorem Zfw (a b:ByteArray):(a==b)=decide (a=b):=by obtain⟨⟨x⟩⟩:=a;obtain⟨⟨y⟩⟩:=b;show((⟨x⟩:Array UInt8)==⟨y⟩)=_;rw[Bool.eq_iff_iff,beq_iff_eq,decide_eq_true_eq];simp
theorem Jp {P:Program}{kt:TypeId}(h:P.underlying kt=some .string):KeyOk P kt Ci where
 chk e a w:=by show(Instr.checkKey e (9999+1) kt (Ci a)).run P w=_;rw[Instr.checkKey];simp[Ci,run_underlying h]
 same:=⟨_,h,λa b=>by simp only[Ci,Instr.sameNow,Option.some.injEq];exact Zfw a b⟩
 bits a:=by simp[Ci,Instr.sameBits,Zfw]
end Go.Proofs.YtmmdikhljefeiaaGreat
