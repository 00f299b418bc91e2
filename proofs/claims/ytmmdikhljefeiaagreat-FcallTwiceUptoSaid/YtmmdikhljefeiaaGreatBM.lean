
import Derived.Test.YtmmdikhljefeiaaGreatYBase
import Derived.Maps.Own
import Derived.Maps.RangeWalk
namespace Go.Proofs.YtmmdikhljefeiaaGreat
open Go.RowKit Go.MapKept
section
variable {κ β:Type} [DecidableEq κ]
def Az (L:List (κ × β))(k:κ):Option β:=(L.find? λp=>decide (p.1=k)).map (·.2)
def Gy (L:List (κ × β))(k:κ)(v:β):List (κ × β):=if(Az L k).isSome then L.map (λp=>if p.1=k then(k,v) else p) else L++[(k,v)]
def Hq (L:List (κ × β))(k:κ):List (κ × β):=L.filter λp=>decide (p.1≠k)
theorem C6 (p:κ × β)(L:List (κ × β))(k:κ):Az (p::L) k=if p.1=k then some p.2 else Az L k:=by unfold Az;rw[List.find?_cons];by_cases h:p.1=k<;>simp[h]
theorem Cy {L:List (κ × β)}{k:κ}:Az L k=none↔∀p∈L,p.1≠k:=by unfold Az;simp
theorem Ee {L:List (κ × β)}{k:κ}{v:β}(h:Az L k=some v):(k,v)∈L:=by unfold Az at h;obtain⟨p,b,rfl⟩:=bh.1 h;have c:=List.find?_some b;simp at c;subst c;exact List.mem_of_find?_eq_some b
theorem Si {L:List (κ × β)}(b:(L.map (·.1)).Nodup){k:κ}{v:β}(h:(k,v)∈L):Az L k=some v:=by
 induction L with
 | nil=>simp at h
 | cons p L ih =>
  rw[C6];simp only[List.map_cons,List.nodup_cons] at b;rcases bq.1 h with rfl | h
  .simp
  .have c:p.1≠k:=λe=>b.1 (by rw[e];exact bk.2 ⟨_,h,rfl⟩);rw[dp c];exact ih b.2 h
theorem So (L M:List (κ × β))(k:κ):Az (L++M) k=(Az L k).or (Az M k):=by
 induction L with
 | nil=>simp[Az]
 | cons p L ih =>
  rw[dm,C6,C6,ih];split<;>simp
theorem Qp (L:List (κ × β))(k:κ)(v:β)(j:κ):Az (L.map λp=>if p.1=k then(k,v) else p) j=if j=k then(Az L k).map (λ_=>v) else Az L j:=by
 induction L with
 | nil=>simp[Az]
 | cons p L ih =>
  rw[cv,C6,ih,C6,C6];by_cases c:p.1=k
  .by_cases b:j=k
   .subst b;simp[c]
   .have:k≠j:=λe=>b e.symm;simp[c,b,this]
  .by_cases b:j=k
   .subst b;simp[c]
   .simp[c,b]
theorem D0 (L:List (κ × β))(k:κ)(v:β)(j:κ):Az (Gy L k v) j=if j=k then some v else Az L j:=by
 unfold Gy;split
 .rename_i h
  rw[Qp];obtain⟨u,c⟩:=Option.isSome_iff_exists.1 h;by_cases b:j=k<;>simp[b,c]
 .rename_i h
  have d:Az L k=none:=by simpa using h
  rw[So,C6];by_cases b:j=k
  .subst b;simp[d]
  .have:k≠j:=λe=>b e.symm;simp[b,this,Az]
theorem Iz (L:List (κ × β))(k j:κ):Az (Hq L k) j=if j=k then none else Az L j:=by
 unfold Hq
 induction L with
 | nil=>simp[Az]
 | cons p L ih =>
  rw[List.filter_cons,C6];by_cases c:p.1=k
  .simp only[ne_eq,c,not_true_eq_false,decide_false,Bool.false_eq_true,if_false];simp only[ne_eq] at ih;rw[ih];by_cases b:j=k
   .simp[b]
   .have:k≠j:=λe=>b e.symm;simp[b,this]
  .simp only[ne_eq,c,not_false_eq_true,decide_true,if_true];rw[C6,ih];by_cases b:j=k
   .subst b;simp[c]
   .simp[b]
theorem Z47 (L:List (κ × β))(k:κ)(v:β):(Gy L k v).map (·.1)=if(Az L k).isSome then L.map (·.1) else L.map (·.1)++[k]:=by
 unfold Gy;split
 .rw[List.map_map];apply List.map_congr_left;intro p _;by_cases h:p.1=k<;>simp[h]
 .simp
theorem Z97 (L:List (κ × β))(k:κ)(v:β):(Gy L k v).length=if(Az L k).isSome then L.length else L.length+1:=by unfold Gy;split<;>simp
theorem Rr {L:List (κ × β)}(c:(L.map (·.1)).Nodup)(k:κ)(v:β):((Gy L k v).map (·.1)).Nodup:=by
 rw[Z47];split
 .exact c
 .rename_i h
  have f:Az L k=none:=by simpa using h
  rw[List.nodup_append];refine⟨c,by simp,λa ha b d=>?_⟩;obtain⟨p,e,rfl⟩:=bk.1 ha;simp only[List.mem_singleton] at d;subst d;exact Cy.1 f p e
theorem Z0w {L:List (κ × β)}(b:(L.map (·.1)).Nodup)(k:κ):((Hq L k).map (·.1)).Nodup:=by unfold Hq;exact List.Nodup.sublist (List.Sublist.map _ List.filter_sublist) b
end
structure KeyOk {κ:Type}[DecidableEq κ](P:Program)(kt:TypeId)(kf:κ->Value):Prop where
 chk:∀(e:Bool) (a:κ) (w:World),(Instr.checkKey e 10000 kt (kf a)).run P w=.ok () w
 same:∃kd,P.underlying kt=some kd/\∀a b,Instr.sameNow kd (kf a) (kf b)=some (decide (a=b))
 bits:∀a,Instr.sameBits 10000 (kf a) (kf a)=true
def N1 (k:Nat):Value:=.int .i64 (k:Int)
theorem Z15 {P:Program}{kt:TypeId}(h:P.underlying kt=some (.int .i64)):KeyOk P kt N1 where
 chk e a w:=by show(Instr.checkKey e (9999+1) kt (N1 a)).run P w=_;rw[Instr.checkKey];simp[N1,run_underlying h]
 same:=⟨_,h,λa b=>by simp only[N1,Instr.sameNow,if_true,Option.some.injEq];rw[Bool.eq_iff_iff];simp only[beq_iff_eq,decide_eq_true_eq];omega⟩
 bits a:=by simp[N1,Instr.sameBits]
def MapB {κ β:Type}(w:World)(m:Nat)(kf:κ->Value)(vf:β->Value)(L:List (κ × β)):Prop :=
 ∃es clock,w.heap[m]?=some (.map es clock)/\Stamped es clock/\es.toList.map (λe=>(e.key,e.val))=L.map (λp=>(kf p.1,vf p.2))
def putObj (w:World)(m:Nat)(o:Obj):World:={w with heap:=w.heap.setIfInBounds m o}
theorem Rg {α γ:Type}(f:α->γ){l:List α}(h:(l.map f).Nodup):l.Nodup:=by
 induction l with
 | nil=>simp
 | cons x l ih =>
  simp only[List.map_cons,List.nodup_cons] at h⊢;exact⟨λb=>h.1 (bk.2 ⟨x,b,rfl⟩),ih h.2⟩
section
variable {κ β:Type} {P:Program} {kt:TypeId} {kf:κ->Value} {vf:β->Value} {w w':World} {m:Nat} {L:List (κ × β)}
theorem MapB.lt (h:MapB w m kf vf L):m < w.heap.size:=by obtain⟨es,clock,b,_⟩:=h;exact(bz.1 b).1
theorem MapB.of_block (h:MapB w m kf vf L)(c:w'.heap[m]?=w.heap[m]?):MapB w' m kf vf L:=by obtain⟨es,clock,b,r⟩:=h;exact⟨es,clock,c.trans b,r⟩
theorem KeyOk.inj [DecidableEq κ](K:KeyOk P kt kf){a b:κ}(h:kf a=kf b):a=b:=by obtain⟨kd,_,c⟩:=K.same;have e:=c a b;have d:=c b b;rw[h] at e;rw[e] at d;simpa using d
theorem MapB.nodup (h:MapB w m kf vf L):(L.map (·.1)).Nodup:=by
 obtain⟨es,clock,_,⟨_,_,b⟩,d⟩:=h;have c:es.toList.map (·.key)=(L.map (·.1)).map kf:=by have:=congrArg (List.map Prod.fst) d;simpa [List.map_map,Function.comp_def] using this
 rw[c] at b;exact Rg kf b
theorem MapB.length (h:MapB w m kf vf L):∃es clock,w.heap[m]?=some (.map es clock)/\es.size=L.length:=by obtain⟨es,clock,b,_,c⟩:=h;refine⟨es,clock,b,?_⟩;have:=congrArg List.length c;simpa using this
theorem Vn [DecidableEq κ]{kd:TypeDesc}(f:∀a b,Instr.sameNow kd (kf a) (kf b)=some (decide (a=b)))(k:κ):∀(es:List MapEntry) (L:List (κ × β)) (i:Nat),es.map (λe=>(e.key,e.val))=L.map (λp=>(kf p.1,vf p.2)) ->
  Instr.findNow kd (kf k) es i=some ((Az L k).map λv=>(i+(L.findIdx λp=>decide (p.1=k)),vf v))
 | [],[],i,_=>by simp[Instr.findNow,Az]
 | [],_::_,i,h=>by simp at h
 | _::_,[],i,h=>by simp at h
 | e::es,p::L,i,h=>by
  simp only[List.map_cons,List.cons.injEq,Prod.mk.injEq] at h;obtain⟨⟨g,j⟩,hr⟩:=h;unfold Instr.findNow;rw[g,f k p.1,C6,List.findIdx_cons];by_cases d:p.1=k
  .have c:k=p.1:=d.symm;simp[d,j]
  .have c:¬k=p.1:=λe=>d e.symm;simp only[d,c,decide_false,if_false,cond_false];rw[Vn f k es L (i+1) hr]
   congr 1
   cases Az L k with
   | none=>rfl
   | some v=>simp only[Option.map_some];congr 2;omega
theorem Cm [DecidableEq κ](K:KeyOk P kt kf){es:Array MapEntry}(d:es.toList.map (λe=>(e.key,e.val))=L.map (λp=>(kf p.1,vf p.2)))(k:κ) :
  (Instr.findKey kt (kf k) es.toList).run P w=.ok ((Az L k).map λv=>(L.findIdx λp=>decide (p.1=k),vf v)) w:=by
 obtain⟨kd,c,b⟩:=K.same;unfold Instr.findKey;rw[Sem.run_bind,run_underlying c];simp only[Result.andThen_ok];rw[Vn b k es.toList L 0 d];simp[Nat.zero_add]
theorem B8 {es:Array MapEntry}{clock:Nat}(b:w.heap[m]?=some (.map es clock)):(getObj m).run P w=.ok (.map es clock) w:=by simp[getObj,Sem.run,b]
theorem Dw {es:Array MapEntry}{clock:Nat}(b:w.heap[m]?=some (.map es clock))(o:Obj):(setObj m o).run P w=.ok () (putObj w m o):=by simp[setObj,Sem.run,b,putObj]
theorem Fx (w:World){m:Nat}(o:Obj)(b:m < w.heap.size):(putObj w m o).heap[m]?=some o:=by simp[putObj,b]
theorem A9 (w:World){m k:Nat}(o:Obj)(b:k≠m):(putObj w m o).heap[k]?=w.heap[k]?:=by simp only[putObj,Array.getElem?_setIfInBounds];rw[dp (λe=>b e.symm)]
theorem C8 (w:World)(m:Nat)(o:Obj):(putObj w m o).heap.size=w.heap.size:=by simp[putObj]
theorem Ca [DecidableEq κ](K:KeyOk P kt kf){t et:TypeId}(b:P.underlying t=some (.map kt et)){z:Value}(e:(zeroValue et).run P w=.ok z w)(h:MapB w m kf vf L)(k:κ) :
  (Instr.lookup t (.map (some m)) (kf k) true).run P w=.ok (.tuple #[((Az L k).map vf).getD z,.bool (Az L k).isSome]) w:=by
 obtain⟨es,clock,c,_,d⟩:=h;cases hg:Az L k with
 | none=>simp[Instr.lookup,run_underlying b,B8 c,K.chk,Cm K d,e,hg]
 | some v=>simp[Instr.lookup,run_underlying b,B8 c,K.chk,Cm K d,hg]
theorem Ar [DecidableEq κ](K:KeyOk P kt kf){t et:TypeId}(b:P.underlying t=some (.map kt et)){z:Value}(e:(zeroValue et).run P w=.ok z w)(h:MapB w m kf vf L)(k:κ) :
  (Instr.lookup t (.map (some m)) (kf k) false).run P w=.ok (((Az L k).map vf).getD z) w:=by
 obtain⟨es,clock,c,_,d⟩:=h;cases hg:Az L k with
 | none=>simp[Instr.lookup,run_underlying b,B8 c,K.chk,Cm K d,e,hg]
 | some v=>simp[Instr.lookup,run_underlying b,B8 c,K.chk,Cm K d,hg]
theorem Bg {t kt et ty:TypeId}(c:P.underlying t=some (.map kt et))(h:MapB w m kf vf L):(Builtin.len_ #[t] ty #[.map (some m)]).run P w=.ok (.int .i64 (L.length:Int)) w:=by obtain⟨es,clock,d,b⟩:=h.length;simp[Builtin.len_,run_underlying c,B8 d,b,goInt]
theorem Eb (w:World)(kf:κ->Value)(vf:β->Value):MapB (w.alloc (.map #[] 0)) w.heap.size kf vf [] :=
 ⟨#[],0,heap_alloc_new w _,⟨by simp,by simp,by simp⟩,rfl⟩
theorem Am [DecidableEq κ](K:KeyOk P kt kf){t et:TypeId}(U:P.underlying t=some (.map kt et))(h:MapB w m kf vf L)(k:κ)(v:β) :
  ∃o,(Instr.mapUpdate t (.map (some m)) (kf k) (vf v)).run P w=.ok () (putObj w m o)/\MapB (putObj w m o) m kf vf (Gy L k v):=by
 have T:=h.nodup;have M:=h.lt;obtain⟨es,clock,n,F,B⟩:=h;cases hg:Az L k with
 | none =>
  refine⟨.map (es.push {key:=kf k,val:=vf v,born:=clock}) (clock+1),?_,es.push {key:=kf k,val:=vf v,born:=clock},clock+1,Fx w _ M,?_,?_⟩
  .simp[Instr.mapUpdate,run_underlying U,B8 n,K.chk,Cm K B,hg,Dw n]
  .obtain⟨f,S,O⟩:=F;refine⟨?_,?_,?_⟩
   .intro x s;simp at s;rcases s with s | rfl
    .have:=f x (by simpa using s);omega
    .exact db _
   .simp only[Array.toList_push,List.map_append,List.map_cons,List.map_nil,List.nodup_append];refine⟨S,by simp,λa ha b n=>?_⟩;obtain⟨x,s,rfl⟩:=bk.1 ha;simp only[List.mem_singleton] at n;have:=f x s;omega
   .simp only[Array.toList_push,List.map_append,List.map_cons,List.map_nil,List.nodup_append];refine⟨O,by simp,λa ha b n=>?_⟩;simp only[List.mem_singleton] at n;subst n;have h4:es.toList.map (·.key)=(L.map (·.1)).map kf:=by
     have:=congrArg (List.map Prod.fst) B;simpa [List.map_map,Function.comp_def] using this
    rw[h4] at ha;obtain⟨c,W,rfl⟩:=bk.1 ha;obtain⟨p,V,rfl⟩:=bk.1 W;exact λe=>Cy.1 hg p V (K.inj e)
  .unfold Gy;rw[hg];simp[B]
 | some u =>
  have d:(L.findIdx λp=>decide (p.1=k)) < L.length:=by rw[List.findIdx_lt_length];exact⟨(k,u),Ee hg,by simp⟩
  have g:(L[L.findIdx λp=>decide (p.1=k)]'d).1=k:=by have:=List.findIdx_getElem (w:=d);simpa using this
  have A:=Cm (P:=P) (w:=w) K B k;rw[hg] at A;simp only[Option.map_some] at A;generalize (L.findIdx λp=>decide (p.1=k))=i at *;have X:es.size=L.length:=by have:=congrArg List.length B;simpa using this
  have z:i < es.size:=by omega
  have I:∀j (H:j < es.size),es[j].key=kf (L[j]'(by omega)).1/\es[j].val=vf (L[j]'(by omega)).2:=λj H=>by have f:=congrArg (·[j]?) B;simp only[List.getElem?_map,Array.getElem?_toList] at f;rw[am H,aq (by omega)] at f;simpa using f
  have E:es[i].key=kf k:=by rw[(I i z).1,g]
  refine⟨.map (es.modify i λe=>{e with key:=kf k,val:=vf v}) clock,?_,es.modify i λe=>{e with key:=kf k,val:=vf v},clock,Fx w _ M,?_,?_⟩
  .simp[Instr.mapUpdate,run_underlying U,B8 n,K.chk,A,Instr.keyThatStays,E,K.bits,Dw n,z]
  .obtain⟨f,S,O⟩:=F;have C:(es.modify i λe=>{e with key:=kf k,val:=vf v}).toList.map (·.born)=es.toList.map (·.born):=by
    apply cy;intro j;simp only[List.getElem?_map,Array.getElem?_toList,Array.getElem?_modify];split
    .cases es[j]?<;>rfl
    .rfl
   have N:(es.modify i λe=>{e with key:=kf k,val:=vf v}).toList.map (·.key)=es.toList.map (·.key):=by
    apply cy;intro j;simp only[List.getElem?_map,Array.getElem?_toList,Array.getElem?_modify];split
    .rename_i l
     subst l;rw[am z];simp[E]
    .rfl
   refine⟨λx s=>?_,by rw[C];exact S,by rw[N];exact O⟩;have G:x.born∈(es.modify i λe=>{e with key:=kf k,val:=vf v}).toList.map (·.born):=bk.2 ⟨x,s,rfl⟩;rw[C] at G;obtain⟨y,Y,e⟩:=bk.1 G;rw[<-e];exact f y Y
  .unfold Gy;rw[hg];simp only[Option.isSome_some,if_true,List.map_map];apply cy;intro j;by_cases H:j < es.size
   .have f:=I j H;simp only[List.getElem?_map,Array.getElem?_toList,Array.getElem?_modify];rw[am H,aq (show j < L.length by omega)];by_cases l:i=j
    .subst l;simp[g]
    .have R:(L[j]'(by omega)).1≠k:=λe=>by
      have q:=List.pairwise_iff_getElem.1 T;rcases Nat.lt_or_ge i j with J | Z
      .have:=q i j (by simpa using d) (by simp;omega) J;simp at this;exact this (by rw[g,e])
      .have:=q j i (by simp;omega) (by simpa using d) (by omega);simp at this;exact this (by rw[g,e])
     simp[l,R,f.1,f.2]
   .simp only[List.getElem?_map,Array.getElem?_toList];rw[Array.getElem?_eq_none (by simp;omega),cm (by omega)];rfl
theorem M0 {α γ:Type}(f:α->γ):∀(l:List α) (i:Nat),(l.eraseIdx i).map f=(l.map f).eraseIdx i
 | [],_=>by simp
 | x::l,0=>by simp
 | x::l,i+1=>by simp[M0 f l i]
theorem C0 [DecidableEq κ](K:KeyOk P kt kf){t et ty tk:TypeId}(B:P.underlying t=some (.map kt et))(h:MapB w m kf vf L)(k:κ) :
  ∃o,(Builtin.delete_ #[t,tk] ty #[.map (some m),kf k]).run P w=.ok (.tuple #[]) (putObj w m o)/\MapB (putObj w m o) m kf vf (Hq L k):=by
 have c:=h.nodup;have q:=h.lt;obtain⟨es,clock,s,n,l⟩:=h;cases hg:Az L k with
 | none =>
  refine⟨.map es clock,?_,es,clock,Fx w _ q,n,?_⟩
  .simp[Builtin.delete_,run_underlying B,B8 s,K.chk,Cm K l,hg,Dw s]
  .rw[l]
   congr 1
   unfold Hq;rw[List.filter_eq_self.2];intro p g;simpa using Cy.1 hg p g
 | some u =>
  have b:(L.findIdx λp=>decide (p.1=k)) < L.length:=by rw[List.findIdx_lt_length];exact⟨(k,u),Ee hg,by simp⟩
  have f:(L[L.findIdx λp=>decide (p.1=k)]'b).1=k:=by have:=List.findIdx_getElem (w:=b);simpa using this
  have d:=Cm (P:=P) (w:=w) K l k;rw[hg] at d;simp only[Option.map_some] at d;generalize (L.findIdx λp=>decide (p.1=k))=i at *;have H:es.size=L.length:=by have:=congrArg List.length l;simpa using this
  have j:i < es.size:=by omega
  have z:Hq L k=L.eraseIdx i:=by
   unfold Hq;have e:=dh i L;rw[List.drop_eq_getElem_cons b] at e;rw[List.eraseIdx_eq_take_drop_succ]
   conv=>lhs;rw[<-e]
   rw[<-e] at c;simp only[List.map_append,List.map_cons,List.nodup_append,List.nodup_cons] at c;obtain⟨_,⟨v,_⟩,y⟩:=c;rw[List.filter_append,List.filter_cons,dp (by simp[f]),List.filter_eq_self.2,List.filter_eq_self.2]
   .intro p g;simp only[decide_eq_true_eq];exact λe=>v (by rw[f,<-e];exact bk.2 ⟨p,g,rfl⟩)
   .intro p g;simp only[decide_eq_true_eq];exact λe=>y p.1 (bk.2 ⟨p,g,rfl⟩) (L[i]).1 (by simp) (by rw[f,e])
  refine⟨.map (es.eraseIdxIfInBounds i) clock,?_,es.eraseIdxIfInBounds i,clock,Fx w _ q,?_,?_⟩
  .simp[Builtin.delete_,run_underlying B,B8 s,K.chk,d,Dw s]
  .obtain⟨E,C,F⟩:=n;have A:(es.eraseIdxIfInBounds i).toList=es.toList.eraseIdx i:=by simp[Array.eraseIdxIfInBounds,j]
   rw[Stamped,A];refine⟨λx G=>E x (List.mem_of_mem_eraseIdx G),?_,?_⟩
   .exact List.Nodup.sublist (List.Sublist.map _ (List.eraseIdx_sublist _ _)) C
   .exact List.Nodup.sublist (List.Sublist.map _ (List.eraseIdx_sublist _ _)) F
  .have A:(es.eraseIdxIfInBounds i).toList=es.toList.eraseIdx i:=by simp[Array.eraseIdxIfInBounds,j]
   rw[A,z,M0,M0,l]
end
open Go.ChangeMaps (setBlock)
structure RanB {κ β:Type}[DecidableEq κ](w:World)(r m:Nat)(kf:κ->Value)(vf:β->Value)(L:List (κ × β))(D:List κ):Prop where
 it:∃es clock since c0 seen,w.heap[m]?=some (.map es clock)/\Stamped es clock/\es.toList.map (λe=>(e.key,e.val))=L.map (λp=>(kf p.1,vf p.2)) /\
  w.heap[r]?=some (.mapIter (some m) since seen c0)/\(∀x∈es.toList,x.born < since)/\since<=c0/\since<=clock /\
  ∀(i:Nat) (e:MapEntry) (p:κ × β),es[i]?=some e->L[i]?=some p->seen.contains e.born=decide (p.1∈D)
 nodup:D.Nodup
 sub:∀k∈D,∃v,(k,v)∈L
section
variable {κ β:Type} [DecidableEq κ] {P:Program} {kt:TypeId} {kf:κ->Value} {vf:β->Value} {w w':World} {r m:Nat} {L:List (κ × β)} {D:List κ}
theorem RanB.map (h:RanB w r m kf vf L D):MapB w m kf vf L:=by obtain⟨es,clock,since,c0,seen,c,b,d,_⟩:=h.it;exact⟨es,clock,c,b,d⟩
theorem RanB.lt (h:RanB w r m kf vf L D):r < w.heap.size:=by obtain⟨es,clock,since,c0,seen,_,_,_,b,_⟩:=h.it;exact(bz.1 b).1
theorem RanB.keep (h:RanB w r m kf vf L D)(hr:w'.heap[r]?=w.heap[r]?)(f:w'.heap[m]?=w.heap[m]?):RanB w' r m kf vf L D:=by obtain⟨es,clock,since,c0,seen,c,b,g,d,e⟩:=h.it;exact⟨⟨es,clock,since,c0,seen,f.trans c,b,g,hr.trans d,e⟩,h.nodup,h.sub⟩
theorem C1:∀{l m:List κ},l.Nodup->(∀x∈l,x∈m)->l.length<=m.length
 | [],_,_,_=>aw _
 | x::l,m,hn,hs=>by have c:=hs x (by simp);obtain⟨f,d⟩:=List.nodup_cons.1 hn;have g:=C1 (m:=m.erase x) d (λy b=>(List.mem_erase_of_ne (λe=>f (by rw[<-e];exact b))).2 (hs y (by simp[b])));rw[List.length_erase_of_mem c] at g;have:0 < m.length:=List.length_pos_of_mem c;simp;omega
theorem RanB.len (h:RanB w r m kf vf L D):D.length<=L.length:=by
 have d:=C1 (m:=L.map (·.1)) h.nodup (λk b=>by obtain⟨v,c⟩:=h.sub k b;exact bk.2 ⟨_,c,rfl⟩)
 simpa using d
theorem RanB.len_lt (h:RanB w r m kf vf L D){k:κ}{v:β}(c:(k,v)∈L)(d:k ∉ D):D.length < L.length:=by
 have f:=C1 (l:=k::D) (m:=L.map (·.1)) (List.nodup_cons.2 ⟨d,h.nodup⟩) (λj b=>by
  rcases bq.1 b with rfl | b
  .exact bk.2 ⟨_,c,rfl⟩
  .obtain⟨v,e⟩:=h.sub j b;exact bk.2 ⟨_,e,rfl⟩)
 simp at f;omega
theorem Pn (w:World){r:Nat}(o:Obj)(hr:r < w.heap.size):(setBlock w r o).heap[r]?=some o:=by simp[setBlock,hr]
theorem Ho (w:World){r k:Nat}(o:Obj)(b:k≠r):(setBlock w r o).heap[k]?=w.heap[k]?:=by simp only[setBlock,Array.getElem?_setIfInBounds];rw[dp (λe=>b e.symm)]
theorem J2 (w:World)(r:Nat)(o:Obj):(setBlock w r o).heap.size=w.heap.size:=by simp[setBlock]
theorem Tm {t et:TypeId}(f:P.underlying t=some (.map kt et))(h:MapB w m kf vf L) :
  ∃w',(Instr.range t (.map (some m))).run P w=.ok (.pointer (some ⟨w.heap.size,0,none⟩)) w'/\RanB w' w.heap.size m kf vf L []/\Below w.heap.size w w'/\w'.heap.size=w.heap.size+1:=by
 have c:=h.lt;obtain⟨es,clock,d,b,g⟩:=h;refine⟨w.alloc (.mapIter (some m) clock #[] clock),?_,⟨⟨es,clock,clock,clock,#[],?_,b,g,heap_alloc_new w _,b.1,av _,av _,λi e p _ _=>by simp⟩,by simp,by simp⟩,(ab _ _).alloc (av _) _,by simp⟩
 .simp[Instr.range,run_underlying f,B8 d,newObj,Sem.run,Result.andThen]
 .exact(ae w _ m c).trans d
theorem Wo (h:RanB w r m kf vf L D)(ty:TypeId) :
  ((∀p∈L,p.1∈D)/\(Instr.next (.pointer (some ⟨r,0,none⟩)) false ty).run P w=.ok (.tuple #[.bool false]) w) \/
  ∃k v w',(k,v)∈L/\k ∉ D/\(Instr.next (.pointer (some ⟨r,0,none⟩)) false ty).run P w=.ok (.tuple #[.bool true,kf k,vf v]) w'/\RanB w' r m kf vf L (D++[k])/\w.grownBy w' (some r)/\w'.heap.size=w.heap.size /\
   ∀(U:Program) (B:World),B.heap[r]?=w'.heap[r]?->B.heap[m]?=w'.heap[m]?->(Instr.entry (.pointer (some ⟨r,0,none⟩))).run U B=.ok (.tuple #[kf k,vf v]) B:=by
 have hnd:=h.map.nodup;have hrl:=h.lt;obtain⟨⟨es,clock,since,c0,seen,W,x,he,hr,s,X,K,c⟩,Z,N⟩:=h;have hsz:es.size=L.length:=by have:=congrArg List.length he;simpa using this
 have n:∀i (d:i < es.size),es[i].key=kf (L[i]'(by omega)).1/\es[i].val=vf (L[i]'(by omega)).2:=λi d=>by have l:=congrArg (·[i]?) he;simp only[List.getElem?_map,Array.getElem?_toList] at l;rw[am d,aq (by omega)] at l;simpa using l
 have V:r≠m:=λe=>by rw[e,W] at hr;cases hr
 rcases run_next_at (P:=P) w ty r m since c0 seen es clock hr W s X with⟨h0,hrun⟩ | ⟨e,hem,w1,hw1,hrun⟩
 .left;refine⟨λp S=>?_,hrun⟩;obtain⟨i,d,rfl⟩:=List.getElem_of_mem S;have G:i < es.size:=by omega
  have l:=c i es[i] L[i] (am G) (aq d);have Y:seen.contains es[i].born=true:=by
   cases hc:seen.contains es[i].born
   .exfalso;have:es[i]∈leftOf es seen:=by unfold leftOf;rw[Array.mem_filter];exact⟨Array.getElem_mem G,by simp only[hc];rfl⟩
    rw[Array.eq_empty_of_size_eq_zero h0] at this;simp at this
   .rfl
  rw[Y] at l;simpa using l.symm
 .right;have A:e∈leftOf es seen:=by simpa using hem
  unfold leftOf at A;rw[Array.mem_filter] at A;obtain⟨hes,hnc⟩:=A;obtain⟨i,d,rfl⟩:=Array.getElem_of_mem hes;have g:i < L.length:=by omega
  have l:=c i es[i] L[i] (am d) (aq g);have F:seen.contains es[i].born=false:=by simpa using hnc
  rw[F] at l;have M:L[i].1 ∉ D:=by simpa using l.symm
  have t:∀j:Nat,w1.heap[j]?=w.heap[j]?:=λj=>by rcases hw1 with e | e<;>rw[e]<;>rfl
  have E:w1.heap.size=w.heap.size:=by rcases hw1 with e | e<;>rw[e]<;>rfl
  have O:(setBlock w1 r (.mapIter (some m) since (seen.push es[i].born) clock)).heap[r]?=some (.mapIter (some m) since (seen.push es[i].born) clock):=Pn w1 _ (by omega);have R:(setBlock w1 r (.mapIter (some m) since (seen.push es[i].born) clock)).heap[m]?=some (.map es clock):=((Ho w1 _ (λe=>V e.symm)).trans (t m)).trans W;refine⟨L[i].1,L[i].2,_,bw g,M,?_,⟨⟨es,clock,since,clock,_,R,x,he,O,s,K,K,λj e p hj S=>?_⟩,?_,?_⟩,?_,?_,?_⟩
  .rw[hrun,(n i d).1,(n i d).2]
  .have Y:=c j e p hj S;rw[Array.contains_push,Y];obtain⟨J,rfl⟩:=bz.1 hj;obtain⟨C,rfl⟩:=ar.1 S;have T:(es[j].born==es[i].born)=decide (L[j].1=L[i].1):=by
    rw[Bool.eq_iff_iff,beq_iff_eq,decide_eq_true_eq];constructor
    .intro I;have hnb:=x.2.1;have:j=i:=by
      have f:=List.pairwise_iff_getElem.1 (List.nodup_iff_pairwise_ne.1 hnb);apply Decidable.byContradiction;intro z;rcases Nat.lt_or_gt_of_ne z with y | u
      .have:=f j i (by simpa using J) (by simpa using d) y;simp at this;exact this I
      .have:=f i j (by simpa using d) (by simpa using J) u;simp at this;exact this I.symm
     subst this;rfl
    .intro H;have:j=i:=by
      have f:=List.pairwise_iff_getElem.1 (List.nodup_iff_pairwise_ne.1 hnd);apply Decidable.byContradiction;intro z;rcases Nat.lt_or_gt_of_ne z with y | u
      .have:=f j i (by simpa using C) (by simpa using g) y;simp at this;exact this H
      .have:=f i j (by simpa using g) (by simpa using C) u;simp at this;exact this H.symm
     subst this;rfl
   rw[T];simp[Bool.decide_or]
  .rw[List.nodup_append];refine⟨Z,by simp,λa ha b T=>?_⟩;simp only[List.mem_singleton] at T;subst T;exact λe=>M (e ▸ ha)
  .intro k q;rcases cd.1 q with q | q
   .exact N k q
   .simp only[List.mem_singleton] at q;subst q;exact⟨_,bw g⟩
  .refine⟨by rcases hw1 with e | e<;>rw[e]<;>rfl,by rcases hw1 with e | e<;>rw[e]<;>rfl,by rcases hw1 with e | e<;>rw[e]<;>rfl,by rw[J2];omega,λk _ q=>?_⟩;rw[Ho w1 _ (λe=>q (by rw[e]))];exact t k
  .rw[J2];exact E
  .intro U B e1 e2;have:=run_entry_at (P:=U) B r m since seen es clock es[i] (e1.trans O) (e2.trans R) (by simp) x.2.1;rw[this,(n i d).1,(n i d).2]
variable {ops:Array Oper} {rest:List Oper} {o:Oper} {a:Act} {Q:Exit->Act->World->Prop}
theorem Hp (l:o.guard=none)(mo:Operand)(t:TypeId)(c:o.op=Op.range t mo){et:TypeId}(i:P.underlying t=some (.map kt et))(k:a.eval mo=.map (some m))(h:MapB w m kf vf L)
  (j:∀w',RanB w' w.heap.size m kf vf L []->Below w.heap.size w w'->w'.heap.size=w.heap.size+1->wpList P ops Q rest (a.put o.dst (.pointer (some ⟨w.heap.size,0,none⟩))) w') :
  wpList P ops Q (o::rest) a w:=by
 refine wpList_plain l λn d=>?_;obtain⟨w',b,f,e,g⟩:=Tm i h;unfold Oper.wp;simp[execOp,c,k,b,Result.andThen];exact d _ _ (j w' f e g)
theorem Im (g:o.guard=none)(it:Operand)(e:o.op=Op.next it false)(d:a.eval it=.pointer (some ⟨r,0,none⟩))(h:RanB w r m kf vf L D)
  (b:(∀p∈L,p.1∈D)->wpList P ops Q rest (a.put o.dst (.tuple #[.bool false])) w)
  (c:∀k v w',(k,v)∈L->k ∉ D->RanB w' r m kf vf L (D++[k])->w.grownBy w' (some r)->w'.heap.size=w.heap.size->(Instr.entry (.pointer (some ⟨r,0,none⟩))).run P w'=.ok (.tuple #[kf k,vf v]) w'->wpList P ops Q rest (a.put o.dst (.tuple #[.bool true,kf k,vf v])) w') :
  wpList P ops Q (o::rest) a w:=by
 refine wpList_plain g λj f=>?_;unfold Oper.wp;rcases Wo (P:=P) h o.type with⟨i,hrun⟩ | ⟨k,v,w',h1,h2,hrun,h3,h4,h5,h6⟩
 .simp[execOp,e,d,hrun,Result.andThen];exact f _ _ (b i)
 .simp[execOp,e,d,hrun,Result.andThen];exact f _ _ (c k v w' h1 h2 h3 h4 h5 (h6 P w' rfl rfl))
end
def Aw (k:Int):Value:=.int .i64 k
def Ci (s:ByteArray):Value:=.string s
theorem Mp {P:Program}{kt:TypeId}(h:P.underlying kt=some (.int .i64)):KeyOk P kt Aw where
 chk e a w:=by show(Instr.checkKey e (9999+1) kt (Aw a)).run P w=_;rw[Instr.checkKey];simp[Aw,run_underlying h]
 same:=⟨_,h,λa b=>by simp only[Aw,Instr.sameNow,if_true,Option.some.injEq];rw[Bool.eq_iff_iff];simp only[beq_iff_eq,decide_eq_true_eq]⟩
 bits a:=by simp[Aw,Instr.sameBits]
theorem Zfm (a b:ByteArray):(a==b)=decide (a=b):=by obtain⟨⟨x⟩⟩:=a;obtain⟨⟨y⟩⟩:=b;show((⟨x⟩:Array UInt8)==⟨y⟩)=_;rw[Bool.eq_iff_iff,beq_iff_eq,decide_eq_true_eq];simp
theorem J5 {P:Program}{kt:TypeId}(h:P.underlying kt=some .string):KeyOk P kt Ci where
 chk e a w:=by show(Instr.checkKey e (9999+1) kt (Ci a)).run P w=_;rw[Instr.checkKey];simp[Ci,run_underlying h]
 same:=⟨_,h,λa b=>by simp only[Ci,Instr.sameNow,Option.some.injEq];exact Zfm a b⟩
 bits a:=by simp[Ci,Instr.sameBits,Zfm]
end Go.Proofs.YtmmdikhljefeiaaGreat
