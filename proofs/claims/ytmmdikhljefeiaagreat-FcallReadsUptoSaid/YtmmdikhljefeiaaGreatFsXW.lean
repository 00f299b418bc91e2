
import Derived.Test.YtmmdikhljefeiaaGreatOP
import Derived.Test.YtmmdikhljefeiaaGreatLaM
import Derived.Test.YtmmdikhljefeiaaGreatYFsR
import Derived.Test.YtmmdikhljefeiaaGreatWA
import Derived.Test.YtmmdikhljefeiaaGreatYFsS
import Derived.LaidEqlPtr
namespace Go.Proofs.YtmmdikhljefeiaaGreat
open Go.RowKit Go.MapKept
section
variable {r:RFs} {K:Nat} {x d:RIn}
theorem Wf.up {a:Nat}(h:Wf r K)(c:K<=a):Wf r a :=
 {h with genK:=λg b=>by have:=h.genK g b;omega,nmK:=by have:=h.nmK;omega}
theorem Dn {room:Int}{y:RIn}(h:y∈(Et room).ins):y=⟨1,1,2,493,0,1,Km,[],[]⟩:=by unfold Et at h;simpa using h
theorem Vo {room:Int}(hr:room<=9223372036854775807):Wf (Et room) 0 where
 ids:=by unfold Et;simp
 rng:=λy a=>by rw[Dn a];decide
 gen:=λy a=>by rw[Dn a];exact⟨rfl,by decide⟩
 genK:=λg e=>by unfold Et at e;simp at e;omega
 genL:=by unfold Et;simp
 kind:=λy a=>by rw[Dn a];decide
 root:=⟨_,by unfold Et;exact bx.2 rfl,rfl,rfl,rfl,rfl⟩
 nmD:=λn c=>by unfold Et at c;simp at c
 nmI:=λn c=>by unfold Et at c;simp at c
 nmV:=λn c=>by unfold Et at c;simp at c
 uniq:=by unfold Et;simp
 one:=λy a _ b=>by rw[Dn a] at b;exact du rfl b
 some:=λy a b=>by rw[Dn a] at b;exact du rfl b
 par:=λy a _=>⟨y,a,by rw[Dn a],by rw[Dn a]⟩
 tree:=⟨λ_=>0,λy a _ b=>by rw[Dn a] at b;exact du rfl b⟩
 nmK:=by unfold Et;simp
 lim:=λy a=>by rw[Dn a];unfold A5 Et;simp
 file:=λy a _=>by rw[Dn a];exact⟨rfl,rfl⟩
 link:=λy a _=>by rw[Dn a]
 rm:=by unfold Et;dsimp only;omega
 sp:=by unfold Et;simp;omega
theorem La {r:RFs}{x y:RIn}:y∈(Hr r x).ins↔y∈r.ins/\y.id≠x.id\/y=x:=by unfold Hr;simp
theorem Y2 {α:Type}(g:α->Nat)(p:α->Bool)(l:List α):((l.filter p).map g).sum<=(l.map g).sum:=by
 induction l with
 | nil=>simp
 | cons a l ih =>
  rw[List.filter_cons];split<;>simp<;>omega
theorem Vq {l:List RIn}(b:(l.map (·.id)).Nodup)(a:x∈l)(g:RIn->Nat):((l.filter λy=>decide (y.id≠x.id)).map g).sum+g x=(l.map g).sum:=by
 induction l with
 | nil=>simp at a
 | cons y l ih =>
  simp only[List.map_cons,List.nodup_cons] at b;rw[List.filter_cons];rcases bq.1 a with rfl | a
  .have h:(l.filter λy=>decide (y.id≠x.id))=l:=by
    rw[List.filter_eq_self];intro z f;simp only[decide_eq_true_eq];exact λe=>b.1 (by rw[<-e];exact bj.2 ⟨z,f,rfl⟩)
   rw[dq (by simp),h];simp;omega
  .have c:y.id≠x.id:=λe=>b.1 (by rw[e];exact bj.2 ⟨x,a,rfl⟩);rw[dt (by simpa using c)];have:=ih b.2 a;simp only[List.map_cons,List.sum_cons];omega
theorem Uq (h:Wf r K)(x:RIn):((Hr r x).ins.map (·.id)).Nodup:=by unfold Hr;dsimp only;rw[az,List.nodup_append];refine⟨(h.ids.sublist (List.filter_sublist.map _)),by simp,?_⟩;intro a ha b c;obtain⟨y,e,rfl⟩:=bj.1 ha;simp at c;have:=(af.1 e).2;simp at this;rw[c];exact this
theorem Z20 (h:Wf r K)(v:x∈r.ins)(J:x.kind=1)(B:List UInt8)(On:List Nat)(t:Int)(O:(Do r:Int)+On.length<=r.room+x.On.length):Wf (Hr r (Gp x B On t)) K:=by
 have H:=Jt h v (x':=Gp x B On t) rfl rfl;have k:∀y,y∈(Hr r (Gp x B On t)).ins->∃z∈r.ins,z.id=y.id/\z.gen=y.gen/\z.kind=y.kind/\z.parent=y.parent/\z.target=y.target/\(y.kind≠1->z.B=y.B/\z.On=y.On):=λy b=>by
  rcases La.1 b with⟨F,_⟩ | rfl
  .exact⟨y,F,rfl,rfl,rfl,rfl,rfl,λ_=>⟨rfl,rfl⟩⟩
  .exact⟨x,v,rfl,rfl,rfl,rfl,rfl,λe=>du J e⟩
 have m:∀z∈r.ins,∃y∈(Hr r (Gp x B On t)).ins,z.id=y.id/\z.gen=y.gen/\z.kind=y.kind/\z.parent=y.parent:=λz a=>by
  by_cases e:z.id=x.id
  .have:z=x:=by rw[<-h.byId a,e,h.byId v]
   subst this;exact⟨_,La.2 (.inr rfl),rfl,rfl,rfl,rfl⟩
  .exact⟨z,La.2 (.inl ⟨a,e⟩),rfl,rfl,rfl,rfl⟩
 refine {ids:=Uq h _,rng:=λy b=>?_,gen:=λy b=>?_,genK:=h.genK,genL:=h.genL,kind:=λy b=>?_,root:=?_,nmD:=λn E=>?_,nmI:=λn E=>?_,nmV:=h.nmV,uniq:=h.uniq,one:=λy b C D=>?_,some:=λy b q=>?_,par:=λy b q=>?_,tree:=?_,nmK:=h.nmK,lim:=λy b=>?_,file:=λy b q=>?_,link:=λy b q=>?_,rm:=h.rm,sp:=?_}
 .obtain⟨z,a,c,i,f,g,l,j⟩:=k y b;rw[<-c];exact h.rng z a
 .obtain⟨z,a,c,i,f,g,l,j⟩:=k y b;rw[<-c,<-i];exact h.gen z a
 .obtain⟨z,a,c,i,f,g,l,j⟩:=k y b;rw[<-f];exact h.kind z a
 .obtain⟨z,a,c,i,f,g⟩:=h.root;obtain⟨y,b,a1,a2,u,w⟩:=m z a;exact⟨y,b,a1 ▸ c,a2 ▸ i,u ▸ f,w ▸ g⟩
 .obtain⟨z,a,c,i⟩:=h.nmD n E;obtain⟨y,b,a1,a2,u,w⟩:=m z a;exact⟨y,b,a1 ▸ c,u ▸ i⟩
 .obtain⟨G,z,a,c⟩:=h.nmI n E;obtain⟨y,b,a1,a2,u,w⟩:=m z a;exact⟨G,y,b,a1 ▸ c⟩
 .obtain⟨z,a,c,i,f,g,l,j⟩:=k y b;have:=h.one z a (f.trans C) (λe=>D (c ▸ e));rw[c,g] at this;exact this
 .obtain⟨z,a,c,i,f,g,l,j⟩:=k y b;have:=h.some z a (λe=>q (f ▸ e));rw[c] at this;exact this
 .obtain⟨z,a,c,i,f,g,l,j⟩:=k y b;obtain⟨p,M,N,I⟩:=h.par z a (f.trans q);obtain⟨L,A,a1,a2,u,w⟩:=m p M;exact⟨L,A,by rw[<-a1,N,g],u ▸ I⟩
 .obtain⟨ρ,hρ⟩:=h.tree;refine⟨ρ,λy b C D=>?_⟩;obtain⟨z,a,c,i,f,g,l,j⟩:=k y b;rw[<-g,<-c];exact hρ z a (f.trans C) (λe=>D (c ▸ e))
 .rw[H];obtain⟨z,a,c,i,f,g,l,j⟩:=k y b;rw[E8 (r:=r) (r':=r) (x:=z) (x':=y) c.symm f.symm rfl (λ_ _=>Iff.rfl)];exact h.lim z a
 .obtain⟨z,a,c,i,f,g,l,j⟩:=k y b;rw[<-(j q).1,<-(j q).2];exact h.file z a (λe=>q (f ▸ e))
 .obtain⟨z,a,c,i,f,g,l,j⟩:=k y b;rw[<-l];exact h.link z a (λe=>q (f ▸ e))
 .have:=Vq h.ids v (λy=>y.On.length);unfold Do at O;unfold Hr Gp;dsimp only;rw[az,List.sum_append];simp only[List.map_cons,List.map_nil,List.sum_cons,List.sum_nil];omega
theorem Dw {l:List RNm}{dir:Int}{s:ByteArray}{K:Nat}{r:RFs}(h:Wf r K)(g:∀n∈l,n∈r.nms)(a:A2 l dir s=0):∀n∈l,¬(n.dir=dir/\n.name=s):=by
 intro n f e;unfold A2 at a;cases hf:l.find? λn=>decide (n.dir=dir/\n.name=s) with
 | none =>
  have:=List.find?_eq_none.1 hf n f;simp at this;exact this e.1 e.2
 | some m =>
  rw[hf] at a;have b:=List.mem_of_find?_eq_some hf;obtain⟨_,y,c,i⟩:=h.nmI m (g m b);have:=h.rng y c;simp at a;omega
theorem Pk {l:List RNm}(f:l.Pairwise λa b=>¬(a.dir=b.dir/\a.name=b.name)){m:RNm}(e:∀n∈l,¬(n.dir=m.dir/\n.name=m.name)):(l++[m]).Pairwise λa b=>¬(a.dir=b.dir/\a.name=b.name):=by rw[List.pairwise_append];refine⟨f,by simp,λa ha b c=>?_⟩;simp at c;subst c;exact e a ha
theorem Z4g (h:Wf r K)(hd:d∈r.ins)(w:d.kind=2)(j:x∈r.ins)(b:x.kind≠2){s:ByteArray}(D:Ad s=true)(B:A2 r.nms d.id s=0)(G:A5 r x < 20):Wf (Ai r d.id s x.id) (K+1):=by
 have l:x.id≠1:=λe=>by obtain⟨z,v,A,F,u,E⟩:=h.root;have a:=h.byId j;rw[e,<-A,h.byId v] at a;rw[<-a] at b;exact b u
 have k:∀n,n∈(Ai r d.id s x.id).nms↔n∈r.nms\/n=⟨d.id,s,x.id⟩:=λn=>by unfold Ai;simp
 have i:=E5 r d.id s x.id;rw[h.byId j] at i;refine {h.up (Nat.le_succ K) with nmD:=λn c=>?_,nmI:=λn c=>?_,nmV:=λn c=>?_,uniq:=?_,one:=λy g m C=>?_,some:=λy g q=>?_,nmK:=?_,lim:=λy g=>?_}
 .rcases(k n).1 c with f | rfl
  .exact h.nmD n f
  .exact⟨d,hd,rfl,w⟩
 .rcases(k n).1 c with f | rfl
  .exact h.nmI n f
  .exact⟨l,x,j,rfl⟩
 .rcases(k n).1 c with f | rfl
  .exact h.nmV n f
  .exact D
 .exact Pk h.uniq (Dw h (λ_ c=>c) B)
 .unfold Ai;dsimp only;rw[List.filter_append,az,h.one y g m C];have:¬x.id=y.id:=λe=>by
   have a:=h.byId j;rw[e,h.byId g] at a;rw[a] at m;exact b m
  simp[this]
 .obtain⟨n,c,e⟩:=h.some y g q;exact⟨n,(k n).2 (.inl c),e⟩
 .unfold Ai;have:=h.nmK;simp;omega
 .rw[i];have f:=h.lim y g;by_cases q:y.kind=2
  .rw[dt q,dq (λe=>b e.2)];exact f
  .rw[dq q];by_cases e:x.id=y.id
   .have:x=y:=by rw[<-h.byId j,e,h.byId g]
    subst this;rw[dt rfl];omega
   .rw[dq e];exact f
theorem Wf.uniq_eq (h:Wf r K){n m:RNm}(w:n∈r.nms)(v:m∈r.nms)(k:n.dir=m.dir)(l:n.name=m.name):n=m:=by
 obtain⟨a,ha,c⟩:=List.getElem_of_mem w;obtain⟨b,j,e⟩:=List.getElem_of_mem v;have u:=List.pairwise_iff_getElem.1 h.uniq;rcases Nat.lt_trichotomy a b with f | g | i
 .exact du ⟨by rw[c,e];exact k,by rw[c,e];exact l⟩ (u a b ha j f)
 .subst g;exact c.symm.trans e
 .exact du ⟨by rw[c,e];exact k.symm,by rw[c,e];exact l.symm⟩ (u b a j ha i)
theorem Z2u (h:Wf r K){s:ByteArray}(he:A2 r.nms d.id s≠0)(Z:(A3 r.ins (A2 r.nms d.id s)).kind=2->E0 r.nms (A3 r.ins (A2 r.nms d.id s)).id=0):Wf (Av r d.id s) K:=by
 obtain⟨n0,l,P,R,e3⟩:=B5 he;obtain⟨C,x,W,F⟩:=h.nmI n0 l;have hid:A2 r.nms d.id s=x.id:=by rw[<-e3,<-F]
 have v:A3 r.ins x.id=x:=h.byId W;rw[hid,v] at Z;have M:=Dy h l;rw[P,R] at M;have i:∀n∈(A7 r d.id s).nms,n∈r.nms/\¬(n.dir=d.id/\n.name=s):=λn c=>by have:=af.1 c;refine⟨this.1,?_⟩;have U:=this.2;rw[Bool.not_eq_true',decide_eq_false_iff_not] at U;exact U
 have k:∀n∈r.nms,n.id≠x.id->n∈(A7 r d.id s).nms:=λn c q=>by refine af.2 ⟨c,?_⟩;rw[Bool.not_eq_true',decide_eq_false_iff_not];intro e;have:=h.uniq_eq c l (e.1.trans P.symm) (e.2.trans R.symm);rw[this] at q;exact q F.symm
 have G:∀y∈r.ins,y.id=x.id->y=x:=λy f e=>by rw[<-h.byId f,e,v]
 have A:∀y:RIn,y.id≠x.id->(A7 r d.id s).nms.filter (λn=>decide (n.id=y.id))=r.nms.filter (λn=>decide (n.id=y.id)):=λy f=>by
  unfold A7;dsimp only;rw[List.filter_filter];apply List.filter_congr;intro n c;by_cases q:n.id=y.id
  .have:=(af.1 (k n c (λe=>f (q.symm.trans e)))).2;simp only[q,decide_true,Bool.true_and];exact this
  .simp[q]
 have w:(A7 r d.id s).nms.length<=r.nms.length:=ah _ _;have L:∀y,A5 (A7 r d.id s) y<=A5 r y:=λy=>by have:=M y;omega
 by_cases J:x.kind=2\/A5 (A7 r d.id s) x=0
 .rw[show Av r d.id s=Hq (A7 r d.id s) x.id by unfold Av;rw[hid,v,dt J]];have O:∀n∈(A7 r d.id s).nms,n.id≠x.id:=λn c e=>by
   obtain⟨a,b⟩:=i n c;rcases J with q | q
   .have:=h.one_name W q (by rw[F];exact C) a l e F.symm;exact b ⟨this.1.trans P,this.2.trans R⟩
   .by_cases H:x.kind=2
    .have:=h.one_name W H (by rw[F];exact C) a l e F.symm;exact b ⟨this.1.trans P,this.2.trans R⟩
    .unfold A5 at q;rw[dq H] at q;rw[List.countP_eq_zero] at q;have:=q n c;simp[e] at this
  have V:∀n∈r.nms,x.kind=2->n.dir≠x.id:=λn c q e=>by have:=Z q;unfold E0 at this;rw[List.countP_eq_zero] at this;have:=this n c;simp[e] at this
  have X:∀y,A5 (Hq (A7 r d.id s) x.id) y=A5 (A7 r d.id s) y:=M9 λn c Y=>du Y (O n c);have g:∀y,y∈(Hq (A7 r d.id s) x.id).ins↔y∈r.ins/\y.id≠x.id:=λy=>by unfold Hq A7;simp
  have B:∀p∈r.ins,p.kind=2->(∃n∈r.nms,n.dir=p.id)->p.id≠x.id:=λp m q ⟨n,c,e⟩ T=>by have:=G p m T;subst this;exact V n c q e
  have N:∀z∈r.ins,z.id=1->z.id≠x.id:=λz _ e T=>C (by rw[<-F,<-T,e]);refine {ids:=h.ids.sublist (List.filter_sublist.map _),rng:=λy f=>h.rng y ((g y).1 f).1,gen:=λy f=>h.gen y ((g y).1 f).1,genK:=h.genK,genL:=h.genL,kind:=λy f=>h.kind y ((g y).1 f).1,root:=?_,nmD:=λn c=>?_,nmI:=λn c=>?_,nmV:=λn c=>h.nmV n (i n c).1,uniq:=h.uniq.filter _,one:=λy f E H=>?_,some:=λy f q=>?_,par:=λy f q=>?_,tree:=?_,nmK:=co w h.nmK,lim:=λy f=>?_,file:=λy f=>h.file y ((g y).1 f).1,link:=λy f=>h.link y ((g y).1 f).1,rm:=h.rm,sp:=?_}
  .obtain⟨z,Q,a1,a2,a3,a4⟩:=h.root;exact⟨z,(g z).2 ⟨Q,N z Q a1⟩,a1,a2,a3,a4⟩
  .obtain⟨p,m,a1,a2⟩:=h.nmD n (i n c).1;exact⟨p,(g p).2 ⟨m,B p m a2 ⟨n,(i n c).1,a1.symm⟩⟩,a1,a2⟩
  .obtain⟨a0,p,m,a1⟩:=h.nmI n (i n c).1;exact⟨a0,p,(g p).2 ⟨m,by rw[a1];exact O n c⟩,a1⟩
  .obtain⟨j,u⟩:=(g y).1 f;show((A7 r d.id s).nms.filter λn=>decide (n.id=y.id)).map (·.dir)=_;rw[A y u];exact h.one y j E H
  .obtain⟨j,u⟩:=(g y).1 f;obtain⟨n,c,e⟩:=h.some y j q;exact⟨n,k n c (by rw[e];exact u),e⟩
  .obtain⟨j,u⟩:=(g y).1 f;obtain⟨p,m,a1,a2⟩:=h.par y j q;refine⟨p,(g p).2 ⟨m,?_⟩,a1,a2⟩;by_cases E:y.id=1
   .obtain⟨z,Q,b1,b2,b3,b4⟩:=h.root;have:y=z:=by rw[<-h.byId j,E,<-b1,h.byId Q]
    subst this;exact N p m (by rw[a1,b4])
   .have ho:=h.one y j q E;have:y.parent∈(r.nms.filter λn=>decide (n.id=y.id)).map (·.dir):=by rw[ho];simp
    obtain⟨n,c,e⟩:=bj.1 this;exact B p m a2 ⟨n,(af.1 c).1,e.trans a1.symm⟩
  .obtain⟨ρ,hρ⟩:=h.tree;exact⟨ρ,λy f=>hρ y ((g y).1 f).1⟩
  .rw[X];exact co (L y) (h.lim y ((g y).1 f).1)
  .have:=Y2 (λy:RIn=>y.On.length) (λy=>decide (y.id≠x.id)) r.ins;have U:=h.sp;show(((((r.ins.filter λy=>decide (y.id≠x.id)).map λy=>y.On.length).sum:Nat)):Int)<=r.room;omega
 .rw[show Av r d.id s=A7 r d.id s by unfold Av;rw[hid,v,dq J]];have I:x.kind≠2:=λe=>J (.inl e);have D:A5 (A7 r d.id s) x≠0:=λe=>J (.inr e);refine {h with nmD:=λn c=>h.nmD n (i n c).1,nmI:=λn c=>h.nmI n (i n c).1,nmV:=λn c=>h.nmV n (i n c).1,uniq:=h.uniq.filter _,one:=λy f E H=>?_,some:=λy f q=>?_,nmK:=co w h.nmK,lim:=λy f=>co (L y) (h.lim y f)}
  .have S:y.id≠x.id:=λe=>I (by rw[<-G y f e];exact E);rw[A y S];exact h.one y f E H
  .by_cases e:y.id=x.id
   .have:=G y f e;subst this;unfold A5 at D;rw[dq I] at D;have:=List.countP_pos_iff.1 (Nat.pos_of_ne_zero D);obtain⟨n,c,q3⟩:=this;exact⟨n,c,by simpa using q3⟩
   .obtain⟨n,c,e4⟩:=h.some y f q;exact⟨n,k n c (by rw[e4];exact e),e4⟩
end
section
variable {r:RFs} {K:Nat} {x d:RIn}
theorem W0 (h:Wf r K)(u:r.ins.length < 200):1<=Dg r.ins/\Dg r.ins<=200/\∀y∈r.ins,y.id≠Dg r.ins:=by
 have f:∃j:Nat,j < 201/\(A3 r.ins ((j:Int)+1)).id=0:=cj λm=>by have:=O6 h (j:=201) (λk a e=>m ⟨k,a,e⟩);omega
 have b:∃j:Nat,(j < 201/\(A3 r.ins ((j:Int)+1)).id=0)/\∀k,k < j->(A3 r.ins ((k:Int)+1)).id≠0:=by
  obtain⟨j,c⟩:=f
  induction j using Nat.strongRecOn with
  | ind j ih =>
   by_cases q:∃k,k < j/\(A3 r.ins ((k:Int)+1)).id=0
   .obtain⟨k,a,e⟩:=q;exact ih k a ⟨by omega,e⟩
   .exact⟨j,c,λk a e=>q ⟨k,a,e⟩⟩
 obtain⟨j,⟨c,g⟩,l⟩:=b;have n:=O6 h l;rw[Iq c g l];refine⟨by omega,by omega,λy i e=>?_⟩;have:=h.byId i;rw[e] at this;rw[this] at g;exact h.ne0 i g
theorem Zci {s:ByteArray}(h:s.size=0):s=Km:=by obtain⟨a⟩:=s;have:a=#[]:=Array.eq_empty_of_size_eq_zero h;rw[this];rfl
theorem Z8e (h:Wf r K)(hd:d∈r.ins)(M:d.kind=2){s:ByteArray}{m:RMk}{g:Int}(Z:Ad s=true)(hr:Cz m=true)(W:A2 r.nms d.id s=0)(S:m.kind=2->A5 r d < 20)(T:r.ins.length < 200) :
  Wf (Ai (Im r (Fa r (d.id,g) m)) d.id s (Dg r.ins)) (K+1):=by
 obtain⟨L,P,l⟩:=W0 h T;unfold Cz at hr;obtain⟨r1,r2,r3,r4,r5,r6,r7,Y⟩:=of_decide_eq_true hr;obtain⟨x,v⟩:∃x,Fa r (d.id,g) m=x:=⟨_,rfl⟩;have J:x.id=Dg r.ins:=by rw[<-v];rfl
 have X:x.gen=Aq r.gens x.id+1:=by rw[J,<-v];rfl
 have N:x.kind=m.kind:=by rw[<-v];rfl
 have G:x.parent=d.id:=by rw[<-v];rfl
 have Q:x.B=[]/\x.On=[]:=by rw[<-v];exact⟨rfl,rfl⟩
 have V:x.target=m.target:=by rw[<-v];rfl
 rw[v,<-J];rw[<-J] at L P l;clear v;have H:x.id≠1:=λe=>by obtain⟨z,D,a,_⟩:=h.root;exact l z D (a.trans e.symm)
 have k:∀y,y∈(Ai (Im r x) d.id s x.id).ins↔y∈r.ins\/y=x:=λy=>by unfold Ai Im;simp
 have u:∀n,n∈(Ai (Im r x) d.id s x.id).nms↔n∈r.nms\/n=⟨d.id,s,x.id⟩:=λn=>by unfold Ai Im;simp
 have C:∀j,Aq (Ai (Im r x) d.id s x.id).gens j=if j=x.id then Aq r.gens x.id+1 else Aq r.gens j:=Iv r.gens (by omega);have w:∀n∈r.nms,n.id≠x.id:=λn u e=>by obtain⟨_,z,D,a⟩:=h.nmI n u;exact l z D (a.trans e)
 have U:=Ow h x.id;refine {ids:=?_,rng:=λy f=>?_,gen:=λy f=>?_,genK:=λg C=>?_,genL:=?_,kind:=λy f=>?_,root:=?_,nmD:=λn i=>?_,nmI:=λn i=>?_,nmV:=λn i=>?_,uniq:=?_,one:=λy f E I=>?_,some:=λy f q=>?_,par:=λy f q=>?_,tree:=?_,nmK:=?_,lim:=λy f=>?_,file:=λy f q=>?_,link:=λy f q=>?_,rm:=h.rm,sp:=?_}
 .unfold Ai Im;dsimp only;rw[az,List.nodup_append];refine⟨h.ids,by simp,λa ha b O=>?_⟩;obtain⟨y,f,rfl⟩:=bj.1 ha;simp at O;rw[O];exact l y f
 .rcases(k y).1 f with c | rfl
  .exact h.rng y c
  .exact⟨L,P⟩
 .rw[C];rcases(k y).1 f with c | rfl
  .rw[dq (l y c)];exact h.gen y c
  .rw[dt rfl];exact⟨X,by omega⟩
 .have C:g∈Bx r.gens x.id:=C;unfold Bx at C;rcases cy C with c | c
  .rcases ce.1 c with F | F
   .have:=h.genK g F;omega
   .have:=(List.mem_replicate.1 F).2;omega
  .omega
 .show(Bx r.gens x.id).length<=201;unfold Bx;have:=h.genL;simp;omega
 .rcases(k y).1 f with c | rfl
  .exact h.kind y c
  .omega
 .obtain⟨z,D,a⟩:=h.root;exact⟨z,(k z).2 (.inl D),a⟩
 .rcases(u n).1 i with c | rfl
  .obtain⟨p,A,a⟩:=h.nmD n c;exact⟨p,(k p).2 (.inl A),a⟩
  .exact⟨d,(k d).2 (.inl hd),rfl,M⟩
 .rcases(u n).1 i with c | rfl
  .obtain⟨R,p,A,a⟩:=h.nmI n c;exact⟨R,p,(k p).2 (.inl A),a⟩
  .exact⟨H,x,(k x).2 (.inr rfl),rfl⟩
 .rcases(u n).1 i with c | rfl
  .exact h.nmV n c
  .exact Z
 .exact Pk h.uniq (Dw h (λ_ u=>u) W)
 .show((r.nms++[(⟨d.id,s,x.id⟩:RNm)]).filter λn:RNm=>decide (n.id=y.id)).map (λn:RNm=>n.dir)=_;rw[List.filter_append,az];rcases(k y).1 f with c | rfl
  .rw[h.one y c E I];have:¬x.id=y.id:=λe=>l y c e.symm;simp[this]
  .rw[List.filter_eq_nil_iff.2 (λn i=>by simpa using w n i)];simp[G]
 .rcases(k y).1 f with c | rfl
  .obtain⟨n,i,e⟩:=h.some y c q;exact⟨n,(u n).2 (.inl i),e⟩
  .exact⟨_,(u _).2 (.inr rfl),rfl⟩
 .rcases(k y).1 f with c | rfl
  .obtain⟨p,A,a⟩:=h.par y c q;exact⟨p,(k p).2 (.inl A),a⟩
  .exact⟨d,(k d).2 (.inl hd),G.symm,M⟩
 .obtain⟨ρ,hρ⟩:=h.tree;refine⟨λj=>if j=x.id then ρ d.id+1 else ρ j,λy f E I=>?_⟩;dsimp only;rcases(k y).1 f with c | rfl
  .obtain⟨p,A,a,_⟩:=h.par y c E;rw[dq (l y c),<-a,dq (l p A),a];exact hρ y c E I
  .rw[dt rfl,G,dq (l d hd)];omega
 .have:=h.nmK;show(r.nms++[_]).length<=_;simp;omega
 .rcases(k y).1 f with c | rfl
  .rw[Lo h l s c];have:=h.lim y c;split
   .rename_i q
    have e:d=y:=by rw[<-h.byId hd,q.2.1,h.byId c]
    have:=S (N.symm.trans q.2.2);rw[e] at this;omega
   .omega
  .rw[Hm h l hd s];split<;>omega
 .rcases(k y).1 f with c | rfl
  .exact h.file y c q
  .exact Q
 .rcases(k y).1 f with c | rfl
  .exact h.link y c q
  .rw[V];exact Zci (Y (λe=>q (N.trans e)))
 .have:=h.sp;show((((r.ins++[x]).map λy=>y.On.length).sum:Nat):Int)<=r.room;rw[az,List.sum_append];simp[Q.2];exact this
end
def upP (x:RIn)(q:Int):RIn:={x with parent:=q}
def Ah (r:RFs)(p:Int)(s:ByteArray)(q:Int)(t:ByteArray)(x:RIn):RFs :=
 if x.kind=2 then Hr (Ai (A7 r p s) q t x.id) (upP x q) else Ai (A7 r p s) q t x.id
section
variable {r:RFs} {K:Nat} {x p q:RIn} {s t:ByteArray}
theorem Cl (r:RFs)(p:Int)(s:ByteArray)(q:Int)(t:ByteArray)(x:RIn):(Ah r p s q t x).nms=(r.nms.filter λn=>!decide (n.dir=p/\n.name=s))++[⟨q,t,x.id⟩]:=by unfold Ah;split<;>rfl
theorem Sc (r:RFs)(x:RIn)(p:Int)(s:ByteArray)(q:Int)(t:ByteArray)(y:RIn):y∈(Ah r p s q t x).ins↔y∈r.ins/\(x.kind=2->y.id≠x.id)\/x.kind=2/\y=upP x q:=by
 unfold Ah;by_cases a:x.kind=2
 .rw[dt a,La];simp only[a,true_and,forall_const];exact Iff.rfl
 .rw[dq a];simp[a,Ai,A7]
theorem Wv (r:RFs)(p:Int)(s:ByteArray)(q:Int)(t:ByteArray)(b:A3 r.ins x.id=x)(j:Int):(A3 (Ah r p s q t x).ins j).kind=(A3 r.ins j).kind:=by
 unfold Ah;by_cases a:x.kind=2
 .rw[dt a,R1];show(if j=x.id then _ else _:RIn).kind=_;by_cases e:j=x.id
  .rw[dt e,e,b];rfl
  .rw[dq e];rfl
 .rw[dq a];rfl
theorem C4 (h:Wf r K)(f:x∈r.ins){a:RNm}(c:a∈r.nms)(j:a.id=x.id)(q:Int)(t:ByteArray){y y':RIn}(u:y'.id=y.id)(l:y'.kind=y.kind) :
  A5 (Ah r a.dir a.name q t x) y'+(if y.kind=2/\x.kind=2/\a.dir=y.id then 1 else 0)=A5 r y+(if y.kind=2/\x.kind=2/\q=y.id then 1 else 0):=by
 have k:A5 (Ah r a.dir a.name q t x) y'=A5 (Ai (A7 r a.dir a.name) q t x.id) y:=by refine E8 u l (Cl r a.dir a.name q t x) λn v=>?_;rw[Wv r a.dir a.name q t (h.byId f)];exact Iff.rfl
 have g:=E5 (A7 r a.dir a.name) q t x.id y;have b:=Dy h c y;have m:A3 (A7 r a.dir a.name).ins x.id=x:=h.byId f;rw[m] at g;rw[j,h.byId f] at b;rw[k,g];by_cases e:y.kind=2
 .by_cases i:x.kind=2
  .simp only[e,i,true_and,and_true,if_true] at b⊢;omega
  .simp only[e,i,false_and,and_false,if_false,if_true] at b⊢;omega
 .simp only[e,false_and,if_false] at b⊢;omega
theorem Xk {r:RFs}{a id:Int}(e:id≠1)(b:id≠a):Under r a id↔Under r a (A3 r.ins id).parent:=by
 constructor
 .intro c;cases c with
  | refl=>exact du rfl b
  | step _ h2=>exact h2
 .exact λc=>Under.step e c
theorem Yo (h:Wf r K){y:RIn}(c:y∈r.ins)(b:y.id≠1)(a:y.id≠x.id):Under r x.id y.id↔Under r x.id y.parent:=by rw[Xk b a,h.byId c]
open Classical in
theorem Vb (h:Wf r K)(V:x∈r.ins)(hq:q∈r.ins)(hkq:q.kind=2){T:RNm}(E:T∈r.nms)(e1:T.dir=p.id)(e2:T.name=s)(X:T.id=x.id)(hv:Ad t=true)(he:A2 r.nms q.id t=0)
  (hu:x.kind=2->¬Under r x.id q.id) (hl:x.kind=2->p.id≠q.id->A5 r q < 20):Wf (Ah r p.id s q.id t x) K:=by
 have O:x.id≠1:=by rw[<-X];exact(h.nmI T E).1
 have Z:=λy y'=>C4 h V E X q.id t (y:=y) (y':=y');rw[e1,e2] at Z;have D:=Sc r x p.id s q.id t;have I:=Cl r p.id s q.id t x;generalize L:Ah r p.id s q.id t x=r' at *;have l:r'.gens=r.gens/\r'.room=r.room:=by rw[<-L];unfold Ah;split<;>exact⟨rfl,rfl⟩
 have hqx:x.kind=2->q.id≠x.id:=λk e=>hu k (by rw[e];exact Under.refl);have Y:∀y∈r.ins,y.id=x.id->y=x:=λy a e=>by rw[<-h.byId a,e,h.byId V]
 have c:∀y∈r'.ins,∃z∈r.ins,z.id=y.id/\z.gen=y.gen/\z.kind=y.kind/\z.target=y.target/\z.B=y.B/\z.On=y.On/\(y.parent=z.parent/\(x.kind=2->z.id≠x.id)\/y.parent=q.id/\z=x/\x.kind=2):=λy a=>by
  rcases(D y).1 a with⟨v,h2⟩ | ⟨v,rfl⟩
  .exact⟨y,v,rfl,rfl,rfl,rfl,rfl,rfl,.inl ⟨rfl,h2⟩⟩
  .exact⟨x,V,rfl,rfl,rfl,rfl,rfl,rfl,.inr ⟨rfl,rfl,v⟩⟩
 have i:∀z∈r.ins,∃y∈r'.ins,z.id=y.id/\z.gen=y.gen/\z.kind=y.kind/\(z.id≠x.id->z.parent=y.parent):=λz f=>by
  by_cases S:x.kind=2
  .by_cases e:z.id=x.id
   .have:=Y z f e;subst this;exact⟨upP z q.id,(D _).2 (.inr ⟨S,rfl⟩),rfl,rfl,rfl,λq=>du rfl q⟩
   .exact⟨z,(D _).2 (.inl ⟨f,λ_=>e⟩),rfl,rfl,rfl,λ_=>rfl⟩
  .exact⟨z,(D _).2 (.inl ⟨f,λe=>du e S⟩),rfl,rfl,rfl,λ_=>rfl⟩
 have H:∀n,n∈r'.nms↔n∈r.nms/\¬(n.dir=p.id/\n.name=s)\/n=⟨q.id,t,x.id⟩:=λn=>by rw[I,ce,af,bx,Bool.not_eq_true',decide_eq_false_iff_not]
 have hsup:∀n∈r.nms,n.id≠x.id->n∈r'.nms:=λn m J=>(H n).2 (.inl ⟨m,λe=>J (by rw[h.uniq_eq m E (e.1.trans e1.symm) (e.2.trans e2.symm)];exact X)⟩);have hfil:∀y:RIn,y.id≠x.id->r'.nms.filter (λn=>decide (n.id=y.id))=r.nms.filter (λn=>decide (n.id=y.id)):=λy a=>by
  rw[I,List.filter_append,List.filter_filter];have:¬x.id=y.id:=λe=>a e.symm;simp only[List.filter_cons,List.filter_nil,this,decide_false,Bool.false_eq_true,if_false,List.append_nil];apply List.filter_congr;intro n m;by_cases J:n.id=y.id
  .have:¬(n.dir=p.id/\n.name=s):=λe=>a (by rw[<-J,h.uniq_eq m E (e.1.trans e1.symm) (e.2.trans e2.symm)];exact X);simp only[J,decide_true,Bool.true_and,this,decide_false,Bool.not_false]
  .simp[J]
 refine {ids:=?_,rng:=λy a=>?_,gen:=λy a=>?_,genK:=by rw[l.1];exact h.genK,genL:=by rw[l.1];exact h.genL,kind:=λy a=>?_,root:=?_,nmD:=λn m=>?_,nmI:=λn m=>?_,nmV:=λn m=>?_,uniq:=?_,one:=λy a R M=>?_,some:=λy a k=>?_,par:=λy a k=>?_,tree:=?_,nmK:=?_,lim:=λy a=>?_,file:=λy a k=>?_,link:=λy a k=>?_,rm:=by rw[l.2];exact h.rm,sp:=?_}
 .rw[<-L];unfold Ah;split
  .exact Uq (r:=r) h (upP x q.id)
  .exact h.ids
 .obtain⟨z,f,a1,a2,g,A,F,G,C⟩:=c y a;rw[<-a1];exact h.rng z f
 .obtain⟨z,f,a1,a2,g,A,F,G,C⟩:=c y a;rw[<-a1,<-a2,l.1];exact h.gen z f
 .obtain⟨z,f,a1,a2,g,A,F,G,C⟩:=c y a;rw[<-g];exact h.kind z f
 .obtain⟨z,f,Q,b2,b3,b4⟩:=h.root;obtain⟨y,a,a1,a2,g,A⟩:=i z f;exact⟨y,a,a1 ▸ Q,a2 ▸ b2,g ▸ b3,by rw[<-A (λe=>O (e ▸ Q))];exact b4⟩
 .rcases(H n).1 m with⟨v,_⟩ | rfl
  .obtain⟨z,f,Q,b2⟩:=h.nmD n v;obtain⟨y,a,a1,a2,g,A⟩:=i z f;exact⟨y,a,a1 ▸ Q,g ▸ b2⟩
  .obtain⟨y,a,a1,a2,g,A⟩:=i q hq;exact⟨y,a,a1.symm,g ▸ hkq⟩
 .rcases(H n).1 m with⟨v,_⟩ | rfl
  .obtain⟨b0,z,f,Q⟩:=h.nmI n v;obtain⟨y,a,a1,a2,g,A⟩:=i z f;exact⟨b0,y,a,a1 ▸ Q⟩
  .obtain⟨y,a,a1,a2,g,A⟩:=i x V;exact⟨O,y,a,a1.symm⟩
 .rcases(H n).1 m with⟨v,_⟩ | rfl
  .exact h.nmV n v
  .exact hv
 .rw[I];exact Pk (h.uniq.filter _) (λn m=>Dw h (λ_ m=>m) he n (af.1 m).1)
 .obtain⟨z,f,a1,a2,g,A,F,G,C⟩:=c y a;by_cases e:y.id=x.id
  .have P:z=x:=Y z f (a1.trans e);subst P;have W:z.kind=2:=g.trans R;rcases C with⟨_,b⟩ | ⟨b,_,_⟩
   .exact du rfl (b W)
   .rw[I,List.filter_append,List.filter_filter,b];have:(r.nms.filter λn=>decide (n.id=y.id)&&!decide (n.dir=p.id/\n.name=s))=[]:=by
     rw[List.filter_eq_nil_iff];intro n m;by_cases J:n.id=z.id
     .have h9:=h.one_name f W O m E J X;have:n.dir=p.id/\n.name=s:=⟨h9.1.trans e1,h9.2.trans e2⟩;simp[this]
     .rw[e];simp[J]
    rw[this];simp[e]
  .rw[hfil y e];have P:z.id≠x.id:=λe'=>e (a1 ▸ e');have:=h.one z f (g.trans R) (λe'=>M (a1 ▸ e'));rw[a1] at this;rw[this];rcases C with⟨b,_⟩ | ⟨_,b,_⟩
   .rw[b]
   .exact du (by rw[b]) P
 .obtain⟨z,f,a1,a2,g,A,F,G,C⟩:=c y a;by_cases e:y.id=x.id
  .exact⟨_,(H _).2 (.inr rfl),e.symm⟩
  .obtain⟨n,m,b⟩:=h.some z f (λe'=>k (g ▸ e'));exact⟨n,hsup n m (by rw[b,a1];exact e),b.trans a1⟩
 .obtain⟨z,f,a1,a2,g,A,F,G,C⟩:=c y a;rcases C with⟨b,_⟩ | ⟨b,_,_⟩
  .obtain⟨w,hw,c1,c2⟩:=h.par z f (g.trans k);obtain⟨w',N,d1,d2,d3,d4⟩:=i w hw;exact⟨w',N,by rw[<-d1,c1,b],d3 ▸ c2⟩
  .obtain⟨w',N,d1,d2,d3,d4⟩:=i q hq;exact⟨w',N,by rw[<-d1,b],d3 ▸ hkq⟩
 .obtain⟨ρ,hρ⟩:=h.tree;by_cases S:x.kind=2
  .refine⟨λj=>if Under r x.id j then ρ j+(ρ q.id+1) else ρ j,λy a R M=>?_⟩;obtain⟨z,f,a1,a2,g,A,F,G,C⟩:=c y a;rw[<-a1] at M⊢;dsimp only;rcases C with⟨b,b'⟩ | ⟨b,rfl,_⟩
   .have hz1:=hρ z f (g.trans R) M;have U:=Yo (x:=x) h f M (b' S);rw[b];by_cases u:Under r x.id z.id
    .rw[dt u,dt (U.1 u)];omega
    .rw[dq u,dq (λu'=>u (U.2 u'))];exact hz1
   .rw[b,dq (hu S),dt Under.refl];omega
  .refine⟨ρ,λy a R M=>?_⟩;obtain⟨z,f,a1,a2,g,A,F,G,C⟩:=c y a;rcases C with⟨b,_⟩ | ⟨_,_,b⟩
   .rw[b,<-a1];exact hρ z f (g.trans R) (λe=>M (a1 ▸ e))
   .exact du b S
 .have v:=Fc h.uniq E e1 e2 (λ_=>true);have h2:=h.nmK;rw[I];simp only[List.countP_true,if_true] at v;simp only[List.length_append,List.length_cons,List.length_nil];omega
 .obtain⟨z,f,a1,a2,g,A,F,G,C⟩:=c y a;have v:=Z z y a1.symm g.symm;have h2:=h.lim z f;by_cases c1:z.kind=2/\x.kind=2/\q.id=z.id
  .have hqz:q=z:=by rw[<-h.byId hq,c1.2.2,h.byId f]
   by_cases c2:p.id=z.id
   .rw[dt c1,dt ⟨c1.1,c1.2.1,c2⟩] at v;omega
   .have:=hl c1.2.1 (λe=>c2 (e.trans c1.2.2));rw[dt c1] at v;rw[hqz] at this;omega
  .rw[dq c1] at v;omega
 .obtain⟨z,f,a1,a2,g,A,F,G,C⟩:=c y a;rw[<-F,<-G];exact h.file z f (λe=>k (g ▸ e))
 .obtain⟨z,f,a1,a2,g,A,F,G,C⟩:=c y a;rw[<-A];exact h.link z f (λe=>k (g ▸ e))
 .rw[l.2,<-L];have v:=h.sp;have h2:=Vq h.ids V (λy=>y.On.length);unfold Ah;split
  .unfold Hr Ai A7 upP;dsimp only;rw[az,List.sum_append];simp only[List.map_cons,List.map_nil,List.sum_cons,List.sum_nil];omega
  .exact v
end
theorem NodeR.ne {w:World}{r:RFs}{x:RIn}{n:Nd}(h:NodeR w r x n)(a:x.kind=2):n.big=true/\n.b≠n.m/\n.b≠n.blk/\n.m≠n.blk :=
 ⟨by rw[h.big,a];rfl,λe=>A8 (h.dir a).2 (h.dir a).1 e.symm,Aw (h.dir a).1 h.head (by decide),A8 (h.dir a).2 h.head⟩
theorem FsN.uniq {w:World}{f e g K:Nat}{r:RFs}{N:List Nd}(h:FsN w f e g r N)(c:Wf r K){x y:RIn}{n:Nd}(i:x∈r.ins)(b:NodeR w r x n)(j:y∈r.ins)(a:NodeR w r y n):x=y:=by have _:=h;rw[<-c.byId i,<-b.id,a.id,c.byId j]
theorem F0 {w w':World}{f mi mg K:Nat}{r:RFs}{N:List Nd}(h:FsN w f mi mg r N)(T:Wf r K){x p q:RIn}{nx B A:Nd}(hx:x∈r.ins)(Q:nx∈N)(H:NodeR w r x nx)(hp:p∈r.ins)(hkp:p.kind=2)(v:B∈N)(M:NodeR w r p B)(hq:q∈r.ins)(hkq:q.kind=2)(z:A∈N)(L:NodeR w r q A)
  {s:ByteArray} {n0:RNm} (hn0:n0∈r.nms) (e1:n0.dir=p.id) (e2:n0.name=s) (e3:n0.id=x.id) (xp:x.id≠p.id) (xq:x.id≠q.id) {t:ByteArray}
  (V:∀k,k < w.heap.size->k≠B.m->k≠A.m->k≠B.blk->k≠A.blk->(x.kind=2->k≠nx.b)->w'.heap[k]?=w.heap[k]?)
  (hmp:MapB w' B.m Ci Ax (Aa (Ah r p.id s q.id t x).nms p.id)) (hmq:MapB w' A.m Ci Ax (Aa (Ah r p.id s q.id t x).nms q.id))
  (hbp:w'.heap[B.blk]?=some (.cells (Kq p (A5 (Ah r p.id s q.id t x) p) B) 143 (0,0))) (hbq:w'.heap[A.blk]?=some (.cells (Kq q (A5 (Ah r p.id s q.id t x) q) A) 143 (0,0)))
  (hxb:x.kind=2->w'.heap[nx.b]?=some (.cells #[.map (some nx.m),.int .i64 q.id] 152 (0,0))):FsN w' f mi mg (Ah r p.id s q.id t x) N:=by
 have P:=λy y'=>C4 T hx hn0 e3 q.id t (y:=y) (y':=y');rw[e1,e2] at P;have D:=Sc r x p.id s q.id t;have hnm:=Cl r p.id s q.id t x;have F:∀i,i≠p.id->i≠q.id->Aa (Ah r p.id s q.id t x).nms i=Aa r.nms i:=λi a b=>by rw[hnm,B2,dq b,Ay,dq a]
 generalize hr':Ah r p.id s q.id t x=r' at *;have I:r'.gens=r.gens/\r'.room=r.room:=by rw[<-hr'];unfold Ah;split<;>exact⟨rfl,rfl⟩
 obtain⟨pb,p1,p2,p3⟩:=M.ne hkp;obtain⟨qb,q1,q2,q3⟩:=L.ne hkq;obtain⟨l1,l2,l3,l4⟩:=h.lt T;have hxp:nx≠B:=λe=>xp (by rw[<-H.id,<-M.id,e]);have Y:nx≠A:=λe=>xq (by rw[<-H.id,<-L.id,e]);have c:∀{a b:Nd} {i j:Nat},a∈N->b∈N->a≠b->i∈a.foot->j∈b.foot->i≠j:=λha C hne hi hj e=>h.apart ha C hne _ hi (e ▸ hj);have off:∀{k:Nat},(∀n∈N,k ∉ n.foot)->k < w.heap.size->w'.heap[k]?=w.heap[k]?:=λl hl=>V _ hl (λe=>l B v (e ▸ Nd.m_mem pb)) (λe=>l A z (e ▸ Nd.m_mem qb)) (λe=>l B v (e ▸ B.blk_mem)) (λe=>l A z (e ▸ A.blk_mem)) (λu e=>l nx Q (e ▸ Nd.b_mem (by rw[H.big,u];rfl)));obtain⟨G,g1,g2⟩:=h.gmap;refine⟨?_,h.imap.of_block (off (λn g=>(h.off n g).2.1) l2),⟨G,g1.of_block (off (λn g=>(h.off n g).2.2) l3),by rw[I.1];exact g2⟩,λn g=>?_,λy R=>?_,h.sep,h.off,h.mm⟩
 .rw[I.2];exact(off (λn g=>(h.off n g).1) l1).trans h.head
 .obtain⟨y,R,hr⟩:=h.node n g;have J:=hr.lt (T.kind y R);by_cases c1:n=nx
  .subst c1;obtain rfl:=h.uniq T hx H R hr;have Z:∀y',y'.id=x.id->y'.kind=x.kind->A5 r' y'=A5 r x:=λy' a b=>by
    have:=P x y' a b;rw[dq (λe=>xp e.2.2.symm),dq (λe=>xq e.2.2.symm)] at this;exact this
   have base:∀k∈n.foot,(x.kind=2->k≠n.b)->w'.heap[k]?=w.heap[k]?:=λk l C=>V k (J k l) (c g v hxp l (Nd.m_mem pb)) (c g z Y l (Nd.m_mem qb)) (c g v hxp l B.blk_mem) (c g z Y l A.blk_mem) C;by_cases u:x.kind=2
   .obtain⟨xb,x1,x2,x3⟩:=hr.ne u;refine⟨upP x q.id,(D _).2 (.inr ⟨u,rfl⟩),hr.id,?_,hr.big,λe=>?_,λ_=>⟨hxb u,?_⟩⟩
    .rw[Z (upP x q.id) rfl rfl];exact(base _ n.blk_mem (λ_=>x2.symm)).trans hr.head
    .have:x.kind=1:=e;omega
    .show MapB w' n.m Ci Ax (Aa r'.nms x.id);rw[F _ xp xq];exact(hr.dir u).2.of_block (base _ (Nd.m_mem xb) (λ_=>x1.symm))
   .exact⟨x,(D _).2 (.inl ⟨hx,λe=>du e u⟩),hr.keep (λk l=>base k l (λe=>du e u)) (Z x rfl rfl) (λe=>du e u)⟩
  .have hyx:y.id≠x.id:=λe=>c1 (Bc h.idU g Q (by rw[hr.id,H.id,e]));have S:y∈r'.ins:=(D _).2 (.inl ⟨R,λ_=>hyx⟩);have E:x.kind=2->∀k∈n.foot,k≠nx.b:=λu k l=>c g Q c1 l (Nd.b_mem (by rw[H.big,u];rfl));by_cases U:n=B
   .subst U;obtain rfl:=h.uniq T hp M R hr;refine⟨p,S,hr.mk2 hbp (λC=>?_) (λe=>du e (by omega)) (λ_=>hmp)⟩;by_cases O:n=A
    .subst O;exact V _ (J _ (Nd.b_mem C)) p1 p1 p2 p2 (λu=>E u _ (Nd.b_mem C))
    .exact V _ (J _ (Nd.b_mem C)) p1 (c g z O (Nd.b_mem C) (Nd.m_mem qb)) p2 (c g z O (Nd.b_mem C) A.blk_mem) (λu=>E u _ (Nd.b_mem C))
   .by_cases O:n=A
    .subst O;obtain rfl:=h.uniq T hq L R hr;exact⟨q,S,hr.mk2 hbq (λC=>V _ (J _ (Nd.b_mem C)) (c g v U (Nd.b_mem C) (Nd.m_mem pb)) q1 (c g v U (Nd.b_mem C) B.blk_mem) q2 (λu=>E u _ (Nd.b_mem C))) (λe=>du e (by omega)) (λ_=>hmq)⟩
    .have X:y.id≠p.id:=λe=>U (Bc h.idU g v (by rw[hr.id,M.id,e]));have W:y.id≠q.id:=λe=>O (Bc h.idU g z (by rw[hr.id,L.id,e]));refine⟨y,S,hr.keep (λk l=>V k (J k l) (c g v U l (Nd.m_mem pb)) (c g z O l (Nd.m_mem qb)) (c g v U l B.blk_mem) (c g z O l A.blk_mem) (λu=>E u k l)) ?_ (λ_=>F _ X W)⟩;have:=P y y rfl rfl;rw[dq (λe=>X e.2.2.symm),dq (λe=>W e.2.2.symm)] at this;exact this
 .rcases(D y).1 R with⟨h1,_⟩ | ⟨_,rfl⟩
  .exact h.all y h1
  .exact h.all x hx
theorem Tl {w:World}{a b:Nat}{u l:Array Value}{i tb:TypeId}(ha:w.heap[a]?=some (.cells u i (0,0)))(n:w.heap[b]?=some (.cells l tb (0,0))) :
  (binOp .neq 134 (.pointer (some ⟨a,0,none⟩)) (.pointer (some ⟨b,0,none⟩))).run Tryz.prog w=.ok (.bool (!decide (a=b))) w:=by
 have v:∃j,Tryz.prog.info? 143=some j/\j.size=6:=by
  have:(Tryz.prog.info? 143).map (·.size)=some 6:=by kernel_rfl
  cases h:Tryz.prog.info? 143 with
  | none=>rw[h] at this;cases this
  | some j=>rw[h] at this;exact⟨j,rfl,by simpa using this⟩
 obtain⟨j,c,k⟩:=v;have f:Tryz.prog.underlying 134=some (.pointer 143):=by kernel_rfl
 by_cases e:a=b
 .subst e;have h:∀d:Nat,(Op.equalIn (d+1) 134 (.pointer (some ⟨a,0,none⟩)) (.pointer (some ⟨a,0,none⟩))).run Tryz.prog w=.ok true w:=λd=>by
   simp[Op.equalIn,run_underlying f,sizeOf,typeInfo,c,run_sameAddr_same]
  simp only[binOp];simp[Op.equal,Op.maxDepth,h 9999]
 .have h:∀d:Nat,(Op.equalIn (d+1) 134 (.pointer (some ⟨a,0,none⟩)) (.pointer (some ⟨b,0,none⟩))).run Tryz.prog w=.ok false w:=λd=>by
   simp[Op.equalIn,run_underlying f,sizeOf,typeInfo,c,k,run_sameAddr_other w (a:=⟨a,0,none⟩) (b:=⟨b,0,none⟩) (λm=>e (by injection m)) ha n]
  simp only[binOp];simp[Op.equal,Op.maxDepth,h 9999,e]
noncomputable def Da (r:RFs) (h:Int × Int) (s:ByteArray) (g:Int × Int) (t:ByteArray):RFs × Int :=
 if Dj r h s g t≠0 then(r,Dj r h s g t) else if A2 r.nms h.1 s=0 then(r,170) else if A2 r.nms h.1 s=A2 r.nms g.1 t then(r,0)
 else if(A3 r.ins (A2 r.nms h.1 s)).kind=2/\Bf r g.1 (A2 r.nms h.1 s)=true then(r,178)
 else if A2 r.nms g.1 t≠0 then
  (if Fp r (A3 r.ins (A2 r.nms g.1 t)) (decide ((A3 r.ins (A2 r.nms h.1 s)).kind=2))≠0 then(r,Fp r (A3 r.ins (A2 r.nms g.1 t)) (decide ((A3 r.ins (A2 r.nms h.1 s)).kind=2)))
   else(Ah (Av r g.1 t) h.1 s g.1 t (A3 r.ins (A2 r.nms h.1 s)),0))
 else if(A3 r.ins (A2 r.nms h.1 s)).kind=2/\h.1≠g.1/\20<=A5 r (A3 r.ins g.1) then(r,179)
 else(Ah r h.1 s g.1 t (A3 r.ins (A2 r.nms h.1 s)),0)
theorem Zx {w:World}{f z A K:Nat}{r:RFs}{N:List Nd}(h:FsN w f z A r N)(m:Wf r K)(i g:Int)(s:ByteArray)(u:s.size<=maxLen)(c k:Int)(j:ByteArray)(b:j.size<=maxLen)(v:Dj r (i,g) s (c,k) j≠0) :
  Calls Tryz.prog 99 #[.pointer (some ⟨f,0,none⟩),.agg #[.int .i64 i,.int .i64 g],.string s,.agg #[.int .i64 c,.int .i64 k],.string j] w
   λe w'=>e=.returned (.tuple #[.agg #[.pointer none,.pointer none,.string ⟨#[]⟩],.agg #[.pointer none,.pointer none,.string ⟨#[]⟩],.int .i64 (Dj r (i,g) s (c,k) j)])/\Below w.heap.size w w':=by
 unfold Dj at v⊢;dsimp only at v⊢;cases hl:Aj r (i,g)
 .simp only[true_or,if_true];exact Z3q h m i g s u c k j b hl
 .cases hl2:Aj r (c,k)
  .simp only[or_true,if_true];exact Z48 h m i g s u c k j b hl hl2
  .rw[hl,hl2] at v;simp only[Bool.true_eq_false,or_false,if_false] at v⊢;by_cases l:(A3 r.ins i).kind=2
   .by_cases a:(A3 r.ins c).kind=2
    .simp only[l,a,ne_eq,not_true_eq_false,or_false,if_false] at v⊢;by_cases y:Ad s=true
     .by_cases n:Ad j=true
      .simp[y,n] at v
      .simp only[y,n];exact Z6r h m i g s u c k j b hl hl2 l a y n
     .simp only[y];exact Z6m h m i g s u c k j b hl hl2 l a y
    .simp only[a,ne_eq,not_false_eq_true,or_true,if_true];exact Z6h h m i g s u c k j b hl hl2 l a
   .simp only[l,ne_eq,not_false_eq_true,true_or,if_true];by_cases a:(A3 r.ins c).kind=2
    .exact Z6e h m i g s u c k j b hl hl2 l a
    .exact Z63 h m i g s u c k j b hl hl2 l a
theorem Oe {r:RFs}{h g:Int × Int}{s t:ByteArray}(f:Dj r h s g t=0):Aj r h=true/\Aj r g=true/\(A3 r.ins h.1).kind=2/\(A3 r.ins g.1).kind=2/\Ad s=true/\Ad t=true:=by
 unfold Dj at f;split at f
 .cases f
 .rename_i a
  split at f
  .cases f
  .rename_i b
   split at f
   .rename_i c
    refine⟨?_,?_,?_,?_,c.1,c.2⟩
    .cases hh:Aj r h
     .exact du (.inl hh) a
     .rfl
    .cases hh:Aj r g
     .exact du (.inr hh) a
     .rfl
    .exact cj λe=>b (.inl e)
    .exact cj λe=>b (.inr e)
   .cases f
set_option maxRecDepth 100000 in
set_option maxHeartbeats 8000000 in
theorem X5 {w:World}{f mi mg K:Nat}{r:RFs}{N:List Nd}(h:FsN w f mi mg r N)(hW:Wf r K)(i g:Int)(s:ByteArray)(hs:s.size<=maxLen)(i2 g2:Int)(s2:ByteArray)(hs2:s2.size<=maxLen)(he:Dj r (i,g) s (i2,g2) s2≠0) :
  Calls Tryz.prog 73 #[.pointer (some ⟨f,0,none⟩),.agg #[.int .i64 i,.int .i64 g],.string s,.agg #[.int .i64 i2,.int .i64 g2],.string s2] w
   λe w'=>e=.returned (.int .i64 (Dj r (i,g) s (i2,g2) s2))/\Below w.heap.size w w':=by
 obtain⟨w2,hw2,hB,hz2,hb0,hb1⟩:=Gm w #[.int .i64 i,.int .i64 g] #[.int .i64 i2,.int .i64 g2] 31 31;have t0:w2.cell? ⟨w.heap.size,0,none⟩=some (.int .i64 i):=by rw[A1 hb0];rfl
 have t1:w2.cell? ⟨w.heap.size,1,none⟩=some (.int .i64 g):=by rw[A1 hb0];rfl
 have t2:w2.cell? ⟨w.heap.size+1,0,none⟩=some (.int .i64 i2):=by rw[A1 hb1];rfl
 have t3:w2.cell? ⟨w.heap.size+1,1,none⟩=some (.int .i64 g2):=by rw[A1 hb1];rfl
 have h2:=h.below hW hB;have HW2:=aa hw2;have HB:=aa hB;have HP:=aa (Zx h2 hW i g s hs i2 g2 s2 hs2 he);have hne:(Dj r (i,g) s (i2,g2) s2 != 0)=true:=by rw[bne_iff_ne];exact he
 generalize Dj r (i,g) s (i2,g2) s2=pe at *;clear hw2 hB hb0 hb1 h h2 hW he
 go_enter Tryz.func73,Tryz.ntmps73
 go_wp2_with fail
 rw[HW2.out]
 go_wp2_with (go_at_call 99;(with_reducible refine HP.out.mono ?_);rintro e w3 ⟨rfl,hB3⟩;have hs3:=hB3.size;replace hB3:=aa hB3)
 go_ret
 have hfin:=HB.out.trans (hB3.out.mono (by omega));exact⟨rfl,(hfin.alloc hfin.size _).alloc (by have:=hfin.size;simp;omega) _⟩
set_option maxRecDepth 100000 in
set_option maxHeartbeats 8000000 in
theorem Su {w:World}{f mi mg K:Nat}{r:RFs}{N:List Nd}(h:FsN w f mi mg r N)(hW:Wf r K)(i g:Int)(s:ByteArray)(hs:s.size<=maxLen)(i2 g2:Int)(s2:ByteArray)(hs2:s2.size<=maxLen)
  {p q:RIn} {np nq:Nd} (_hp:p∈r.ins) (hkp:p.kind=2) (hnp:np∈N) (hrp:NodeR w r p np) (_hq:q∈r.ins) (hkq:q.kind=2) (hnq:nq∈N) (hrq:NodeR w r q nq) (hpi:p.id=i) (hqi:q.id=i2)
  (hl:Aj r (i,g)=true) (hl2:Aj r (i2,g2)=true) (hk:(A3 r.ins i).kind=2) (hk2:(A3 r.ins i2).kind=2) (hv:Ad s=true) (hv2:Ad s2=true) (he:A2 r.nms i s=0) :
  Calls Tryz.prog 73 #[.pointer (some ⟨f,0,none⟩),.agg #[.int .i64 i,.int .i64 g],.string s,.agg #[.int .i64 i2,.int .i64 g2],.string s2] w λe w'=>e=.returned (.int .i64 170)/\Below w.heap.size w w':=by
 obtain⟨w2,hw2,hB,hz2,hb0,hb1⟩:=Gm w #[.int .i64 i,.int .i64 g] #[.int .i64 i2,.int .i64 g2] 31 31;have t0:w2.cell? ⟨w.heap.size,0,none⟩=some (.int .i64 i):=by rw[A1 hb0];rfl
 have t1:w2.cell? ⟨w.heap.size,1,none⟩=some (.int .i64 g):=by rw[A1 hb0];rfl
 have t2:w2.cell? ⟨w.heap.size+1,0,none⟩=some (.int .i64 i2):=by rw[A1 hb1];rfl
 have t3:w2.cell? ⟨w.heap.size+1,1,none⟩=some (.int .i64 g2):=by rw[A1 hb1];rfl
 have h2:=h.below hW hB;have HW2:=aa hw2;have HB:=aa hB;have hrp2:=hrp.below (.inr (.inl hkp)) hB;have hrq2:=hrq.below (.inr (.inl hkq)) hB;have hpl:=Bu h2 hW i g s hs i2 g2 s2 hs2 hl hl2 hk hk2 hv hv2 hnp hnq (hrp.id.trans hpi) (hrq.id.trans hqi);have HP:=aa hpl;have HAt:=aa (show ∀w4,Below w2.heap.size w2 w4->Calls Tryz.prog 59 #[.agg #[.pointer (some ⟨np.blk,0,none⟩),.pointer (some ⟨np.b,0,none⟩),.string s]] w4 λe w'=>e=.returned (.tuple #[.int .i64 (A2 r.nms i s),.bool (decide (A2 r.nms i s≠0))])/\Below w4.heap.size w4 w' from λw4 hb=>by have hr4:=hrp2.below (.inr (.inl hkp)) hb;have:=Be hr4 hkp (hr4.lt (.inr (.inl hkp))) s (some ⟨np.blk,0,none⟩);rw[hpi,hW.entry_some] at this;exact this)
 have HAt2:=aa (show ∀w4,Below w2.heap.size w2 w4->Calls Tryz.prog 59 #[.agg #[.pointer (some ⟨nq.blk,0,none⟩),.pointer (some ⟨nq.b,0,none⟩),.string s2]] w4 λe w'=>e=.returned (.tuple #[.int .i64 (A2 r.nms i2 s2),.bool (decide (A2 r.nms i2 s2≠0))])/\Below w4.heap.size w4 w' from λw4 hb=>by have hr4:=hrq2.below (.inr (.inl hkq)) hb;have:=Be hr4 hkq (hr4.lt (.inr (.inl hkq))) s2 (some ⟨nq.blk,0,none⟩);rw[hqi,hW.entry_some] at this;exact this)
 rw[he] at HAt;simp only[ne_eq,not_true_eq_false,decide_false] at HAt;clear hw2 hB hb0 hb1 h h2 hW hrp2 hrq2 hpl _hp hkp hnp hrp _hq hkq hnq hrq hpi hqi hl hl2 hk hk2 hv hv2 he
 go_enter Tryz.func73,Tryz.ntmps73
 go_wp2_with fail
 rw[HW2.out]
 go_upto_region 4 with(go_at_call 99;(with_reducible refine HP.out.mono ?_);rintro e w3 ⟨rfl,hB3⟩;have hs3:=hB3.size;replace hB3:=aa hB3)
 obtain⟨w4,hw4,hB4,hs4,hb40,hb41⟩:=Gm w3 #[.pointer (some ⟨np.blk,0,none⟩),.pointer (some ⟨np.b,0,none⟩),.string s] #[.pointer (some ⟨nq.blk,0,none⟩),.pointer (some ⟨nq.b,0,none⟩),.string s2] 137 137;rw[hw4];have c0:w4.cell? ⟨w3.heap.size,0,none⟩=some (.pointer (some ⟨np.blk,0,none⟩)):=by rw[A1 hb40];rfl
 have c1:w4.cell? ⟨w3.heap.size,1,none⟩=some (.pointer (some ⟨np.b,0,none⟩)):=by rw[A1 hb40];rfl
 have c2:w4.cell? ⟨w3.heap.size,2,none⟩=some (.string s):=by rw[A1 hb40];rfl
 have HQ1:=aa hb40;have HQ2:=aa hb41;have HB4:=aa (hB3.out.trans (hB4.mono (by omega)));clear hw4 hb40 hb41 hB4
 go_wp2_with (go_at_call 59;(with_reducible refine(HAt.out w4 HB4.out).mono ?_);rintro e w5 ⟨rfl,hB5⟩;replace hB5:=aa hB5)
 go_ret
 exact⟨rfl,HB.out.trans ((HB4.out.trans (hB5.out.mono HB4.out.size)).mono (by omega))⟩
set_option maxRecDepth 100000 in
set_option maxHeartbeats 8000000 in
theorem Th {w:World}{f mi mg K:Nat}{r:RFs}{N:List Nd}(h:FsN w f mi mg r N)(hW:Wf r K)(i g:Int)(s:ByteArray)(hs:s.size<=maxLen)(i2 g2:Int)(s2:ByteArray)(hs2:s2.size<=maxLen)
  {p q:RIn} {np nq:Nd} (_hp:p∈r.ins) (hkp:p.kind=2) (hnp:np∈N) (hrp:NodeR w r p np) (_hq:q∈r.ins) (hkq:q.kind=2) (hnq:nq∈N) (hrq:NodeR w r q nq) (hpi:p.id=i) (hqi:q.id=i2)
  (hl:Aj r (i,g)=true) (hl2:Aj r (i2,g2)=true) (hk:(A3 r.ins i).kind=2) (hk2:(A3 r.ins i2).kind=2) (hv:Ad s=true) (hv2:Ad s2=true)
  {x:RIn} {nx:Nd} (hx:x∈r.ins) (hnx:nx∈N) (hrx:NodeR w r x nx) (hxi:A2 r.nms i s=x.id) (ho:A2 r.nms i2 s2=x.id) :
  Calls Tryz.prog 73 #[.pointer (some ⟨f,0,none⟩),.agg #[.int .i64 i,.int .i64 g],.string s,.agg #[.int .i64 i2,.int .i64 g2],.string s2] w λe w'=>e=.returned (.int .i64 0)/\Below w.heap.size w w':=by
 obtain⟨w2,hw2,hB,hz2,hb0,hb1⟩:=Gm w #[.int .i64 i,.int .i64 g] #[.int .i64 i2,.int .i64 g2] 31 31;have t0:w2.cell? ⟨w.heap.size,0,none⟩=some (.int .i64 i):=by rw[A1 hb0];rfl
 have t1:w2.cell? ⟨w.heap.size,1,none⟩=some (.int .i64 g):=by rw[A1 hb0];rfl
 have t2:w2.cell? ⟨w.heap.size+1,0,none⟩=some (.int .i64 i2):=by rw[A1 hb1];rfl
 have t3:w2.cell? ⟨w.heap.size+1,1,none⟩=some (.int .i64 g2):=by rw[A1 hb1];rfl
 have h2:=h.below hW hB;have HW2:=aa hw2;have HB:=aa hB;have hrp2:=hrp.below (.inr (.inl hkp)) hB;have hrq2:=hrq.below (.inr (.inl hkq)) hB;have hpl:=Bu h2 hW i g s hs i2 g2 s2 hs2 hl hl2 hk hk2 hv hv2 hnp hnq (hrp.id.trans hpi) (hrq.id.trans hqi);have HP:=aa hpl;have HAt:=aa (show ∀w4,Below w2.heap.size w2 w4->Calls Tryz.prog 59 #[.agg #[.pointer (some ⟨np.blk,0,none⟩),.pointer (some ⟨np.b,0,none⟩),.string s]] w4 λe w'=>e=.returned (.tuple #[.int .i64 (A2 r.nms i s),.bool (decide (A2 r.nms i s≠0))])/\Below w4.heap.size w4 w' from λw4 hb=>by have hr4:=hrp2.below (.inr (.inl hkp)) hb;have:=Be hr4 hkp (hr4.lt (.inr (.inl hkp))) s (some ⟨np.blk,0,none⟩);rw[hpi,hW.entry_some] at this;exact this)
 have HAt2:=aa (show ∀w4,Below w2.heap.size w2 w4->Calls Tryz.prog 59 #[.agg #[.pointer (some ⟨nq.blk,0,none⟩),.pointer (some ⟨nq.b,0,none⟩),.string s2]] w4 λe w'=>e=.returned (.tuple #[.int .i64 (A2 r.nms i2 s2),.bool (decide (A2 r.nms i2 s2≠0))])/\Below w4.heap.size w4 w' from λw4 hb=>by have hr4:=hrq2.below (.inr (.inl hkq)) hb;have:=Be hr4 hkq (hr4.lt (.inr (.inl hkq))) s2 (some ⟨nq.blk,0,none⟩);rw[hqi,hW.entry_some] at this;exact this)
 have hx0:x.id≠0:=hW.ne0 hx;rw[hxi,decide_eq_true hx0] at HAt;have hrx2:=hrx.below (hW.kind x hx) hB;have HX:=aa (show ∀w',Below w2.heap.size w2 w'->w'.cell? ⟨f,1,none⟩=some (.map (some mi))/\w'.cell? ⟨nx.blk,5,none⟩=some (Ae x nx)/\(Instr.lookup 144 (.map (some mi)) (.int .i64 x.id) false).run Tryz.prog w'=.ok (.pointer (some ⟨nx.blk,0,none⟩)) w'/\w'.cell? ⟨nq.blk,0,none⟩=some (.int .i64 i2)/\w'.cell? ⟨nq.blk,4,none⟩=some (.int .i64 (A5 r q:Int)) from λw' hb=>by have h4:=h2.below hW hb;have hg:=h4.get hnx;rw[hrx.id] at hg;have hlk:=(h4.look x.id).2;rw[hg] at hlk;have hq4:=(hrq2.below (.inr (.inl hkq)) hb).cells;exact⟨h4.cells.2.1,(hrx2.below (hW.kind x hx) hb).cells.2.2.2.2.2,hlk,by rw[<-hqi];exact hq4.1,hq4.2.2.2.2.1⟩)
 rw[ho,decide_eq_true hx0] at HAt2;by_cases hkx:x.kind=2
 all_goals
  first
  | (have hta:∀w,(Instr.typeAssert (Ae x nx) 20 135 true).run Tryz.prog w=.ok (.tuple #[.pointer (some ⟨nx.b,0,none⟩),.bool true]) w:=λw=>by rw[Cp,dt hkx];rfl)
  | (have hta:∀w,(Instr.typeAssert (Ae x nx) 20 135 true).run Tryz.prog w=.ok (.tuple #[.pointer none,.bool false]) w:=λw=>by rw[Cp,dq hkx])
  clear hw2 hB hb0 hb1 h h2 hW hrp2 hrq2 hpl _hp hkp hnp hrp _hq hkq hnq hrq hpi hqi hl hl2 hk hk2 hv hv2 hx hnx hrx hxi hx0 hrx2 ho hkx
  go_enter Tryz.func73,Tryz.ntmps73
  go_wp2_with fail
  rw[HW2.out]
  go_upto_region 4 with(go_at_call 99;(with_reducible refine HP.out.mono ?_);rintro e w3 ⟨rfl,hB3⟩;have hs3:=hB3.size;replace hB3:=aa hB3)
  obtain⟨w4,hw4,hB4,hs4,hb40,hb41⟩:=Gm w3 #[.pointer (some ⟨np.blk,0,none⟩),.pointer (some ⟨np.b,0,none⟩),.string s] #[.pointer (some ⟨nq.blk,0,none⟩),.pointer (some ⟨nq.b,0,none⟩),.string s2] 137 137;rw[hw4];have c0:w4.cell? ⟨w3.heap.size,0,none⟩=some (.pointer (some ⟨np.blk,0,none⟩)):=by rw[A1 hb40];rfl
  have c1:w4.cell? ⟨w3.heap.size,1,none⟩=some (.pointer (some ⟨np.b,0,none⟩)):=by rw[A1 hb40];rfl
  have c2:w4.cell? ⟨w3.heap.size,2,none⟩=some (.string s):=by rw[A1 hb40];rfl
  have HQ1:=aa hb40;have HQ2:=aa hb41;have HB4:=aa (hB3.out.trans (hB4.mono (by omega)));clear hw4 hb40 hb41 hB4
  go_wp2_with (first
  | (go_at_call 59;(with_reducible refine(HAt.out w4 HB4.out).mono ?_);rintro e w5 ⟨rfl,hB5⟩;have hs5:=hB5.size;have hY:=(hB5.block _ (by omega)).trans HQ2.out;have d0:w5.cell? ⟨w3.heap.size+1,0,none⟩=_:=A1 hY 0;have d1:w5.cell? ⟨w3.heap.size+1,1,none⟩=_:=A1 hY 1;have d2:w5.cell? ⟨w3.heap.size+1,2,none⟩=_:=A1 hY 2;have HQ25:=aa hY;have HQ15:=aa ((hB5.block _ (by omega)).trans HQ1.out);clear hY;have HB5:=aa (HB4.out.trans (hB5.mono HB4.out.size));obtain⟨x1,x2,x3,-,-⟩:=HX.out w5 HB5.out;clear hB5)
  | (go_at_call 59;(with_reducible refine(HAt2.out w5 HB5.out).mono ?_);rintro e w6 ⟨rfl,hB6⟩;have hs6:=hB6.size;have HQ26:=aa ((hB6.block _ (by omega)).trans HQ25.out);have HQ16:=aa ((hB6.block _ (by omega)).trans HQ15.out);have e0:w6.cell? ⟨w3.heap.size,0,none⟩=_:=A1 HQ16.out 0;have g0:w6.cell? ⟨w3.heap.size+1,0,none⟩=_:=A1 HQ26.out 0;have HB6:=aa (HB5.out.trans (hB6.mono HB5.out.size));obtain⟨y1,y2,y3,y4,y5⟩:=HX.out w6 HB6.out;clear hB6))
  go_ret
  exact⟨rfl,HB.out.trans (HB6.out.mono (by omega))⟩
set_option maxRecDepth 100000 in
set_option maxHeartbeats 8000000 in
theorem Sa {w:World}{f mi mg K:Nat}{r:RFs}{N:List Nd}(h:FsN w f mi mg r N)(hW:Wf r K)(i g:Int)(s:ByteArray)(hs:s.size<=maxLen)(i2 g2:Int)(s2:ByteArray)(hs2:s2.size<=maxLen)
  {p q:RIn} {np nq:Nd} (_hp:p∈r.ins) (hkp:p.kind=2) (hnp:np∈N) (hrp:NodeR w r p np) (hq:q∈r.ins) (hkq:q.kind=2) (hnq:nq∈N) (hrq:NodeR w r q nq) (hpi:p.id=i) (hqi:q.id=i2)
  (hl:Aj r (i,g)=true) (hl2:Aj r (i2,g2)=true) (hk:(A3 r.ins i).kind=2) (hk2:(A3 r.ins i2).kind=2) (hv:Ad s=true) (hv2:Ad s2=true)
  {x:RIn} {nx:Nd} (hx:x∈r.ins) (hnx:nx∈N) (hrx:NodeR w r x nx) (hxi:A2 r.nms i s=x.id) (hkx:x.kind=2) (hbl:Bf r i2 x.id=true) (ho:A2 r.nms i2 s2=0) :
  Calls Tryz.prog 73 #[.pointer (some ⟨f,0,none⟩),.agg #[.int .i64 i,.int .i64 g],.string s,.agg #[.int .i64 i2,.int .i64 g2],.string s2] w λe w'=>e=.returned (.int .i64 178)/\Below w.heap.size w w':=by
 obtain⟨w2,hw2,hB,hz2,hb0,hb1⟩:=Gm w #[.int .i64 i,.int .i64 g] #[.int .i64 i2,.int .i64 g2] 31 31;have t0:w2.cell? ⟨w.heap.size,0,none⟩=some (.int .i64 i):=by rw[A1 hb0];rfl
 have t1:w2.cell? ⟨w.heap.size,1,none⟩=some (.int .i64 g):=by rw[A1 hb0];rfl
 have t2:w2.cell? ⟨w.heap.size+1,0,none⟩=some (.int .i64 i2):=by rw[A1 hb1];rfl
 have t3:w2.cell? ⟨w.heap.size+1,1,none⟩=some (.int .i64 g2):=by rw[A1 hb1];rfl
 have h2:=h.below hW hB;have HW2:=aa hw2;have HB:=aa hB;have hrp2:=hrp.below (.inr (.inl hkp)) hB;have hrq2:=hrq.below (.inr (.inl hkq)) hB;have hpl:=Bu h2 hW i g s hs i2 g2 s2 hs2 hl hl2 hk hk2 hv hv2 hnp hnq (hrp.id.trans hpi) (hrq.id.trans hqi);have HP:=aa hpl;have HAt:=aa (show ∀w4,Below w2.heap.size w2 w4->Calls Tryz.prog 59 #[.agg #[.pointer (some ⟨np.blk,0,none⟩),.pointer (some ⟨np.b,0,none⟩),.string s]] w4 λe w'=>e=.returned (.tuple #[.int .i64 (A2 r.nms i s),.bool (decide (A2 r.nms i s≠0))])/\Below w4.heap.size w4 w' from λw4 hb=>by have hr4:=hrp2.below (.inr (.inl hkp)) hb;have:=Be hr4 hkp (hr4.lt (.inr (.inl hkp))) s (some ⟨np.blk,0,none⟩);rw[hpi,hW.entry_some] at this;exact this)
 have HAt2:=aa (show ∀w4,Below w2.heap.size w2 w4->Calls Tryz.prog 59 #[.agg #[.pointer (some ⟨nq.blk,0,none⟩),.pointer (some ⟨nq.b,0,none⟩),.string s2]] w4 λe w'=>e=.returned (.tuple #[.int .i64 (A2 r.nms i2 s2),.bool (decide (A2 r.nms i2 s2≠0))])/\Below w4.heap.size w4 w' from λw4 hb=>by have hr4:=hrq2.below (.inr (.inl hkq)) hb;have:=Be hr4 hkq (hr4.lt (.inr (.inl hkq))) s2 (some ⟨nq.blk,0,none⟩);rw[hqi,hW.entry_some] at this;exact this)
 have hx0:x.id≠0:=hW.ne0 hx;rw[hxi,decide_eq_true hx0] at HAt;have hrx2:=hrx.below (hW.kind x hx) hB;have HX:=aa (show ∀w',Below w2.heap.size w2 w'->w'.cell? ⟨f,1,none⟩=some (.map (some mi))/\w'.cell? ⟨nx.blk,5,none⟩=some (Ae x nx)/\(Instr.lookup 144 (.map (some mi)) (.int .i64 x.id) false).run Tryz.prog w'=.ok (.pointer (some ⟨nx.blk,0,none⟩)) w'/\w'.cell? ⟨nq.blk,0,none⟩=some (.int .i64 i2)/\w'.cell? ⟨nq.blk,4,none⟩=some (.int .i64 (A5 r q:Int)) from λw' hb=>by have h4:=h2.below hW hb;have hg:=h4.get hnx;rw[hrx.id] at hg;have hlk:=(h4.look x.id).2;rw[hg] at hlk;have hq4:=(hrq2.below (.inr (.inl hkq)) hb).cells;exact⟨h4.cells.2.1,(hrx2.below (hW.kind x hx) hb).cells.2.2.2.2.2,hlk,by rw[<-hqi];exact hq4.1,hq4.2.2.2.2.1⟩)
 have hta:∀w,(Instr.typeAssert (Ae x nx) 20 135 true).run Tryz.prog w=.ok (.tuple #[.pointer (some ⟨nx.b,0,none⟩),.bool true]) w:=λw=>by rw[Cp,dt hkx];rfl
 rw[ho] at HAt2;simp only[ne_eq,not_true_eq_false,decide_false] at HAt2;have HBl:=aa (show ∀w',Below w2.heap.size w2 w'->Calls Tryz.prog 100 #[.pointer (some ⟨f,0,none⟩),.int .i64 i2,.int .i64 x.id] w' λe w''=>e=.returned (.bool true)/\w'=w'' from λw' hb=>by have:=E1 (h2.below hW hb) hW hq hkq x.id;rw[hqi,hbl] at this;exact this)
 clear hw2 hB hb0 hb1 h h2 hW hrp2 hrq2 hpl _hp hkp hnp hrp hq hkq hnq hrq hpi hqi hl hl2 hk hk2 hv hv2 hx hnx hrx hxi hx0 hrx2 ho hkx hbl
 go_enter Tryz.func73,Tryz.ntmps73
 go_wp2_with fail
 rw[HW2.out]
 go_upto_region 4 with(go_at_call 99;(with_reducible refine HP.out.mono ?_);rintro e w3 ⟨rfl,hB3⟩;have hs3:=hB3.size;replace hB3:=aa hB3)
 obtain⟨w4,hw4,hB4,hs4,hb40,hb41⟩:=Gm w3 #[.pointer (some ⟨np.blk,0,none⟩),.pointer (some ⟨np.b,0,none⟩),.string s] #[.pointer (some ⟨nq.blk,0,none⟩),.pointer (some ⟨nq.b,0,none⟩),.string s2] 137 137;rw[hw4];have c0:w4.cell? ⟨w3.heap.size,0,none⟩=some (.pointer (some ⟨np.blk,0,none⟩)):=by rw[A1 hb40];rfl
 have c1:w4.cell? ⟨w3.heap.size,1,none⟩=some (.pointer (some ⟨np.b,0,none⟩)):=by rw[A1 hb40];rfl
 have c2:w4.cell? ⟨w3.heap.size,2,none⟩=some (.string s):=by rw[A1 hb40];rfl
 have HQ1:=aa hb40;have HQ2:=aa hb41;have HB4:=aa (hB3.out.trans (hB4.mono (by omega)));clear hw4 hb40 hb41 hB4
 go_wp2_with (first
  | (go_at_call 59;(with_reducible refine(HAt.out w4 HB4.out).mono ?_);rintro e w5 ⟨rfl,hB5⟩;have hs5:=hB5.size;have hY:=(hB5.block _ (by omega)).trans HQ2.out;have d0:w5.cell? ⟨w3.heap.size+1,0,none⟩=_:=A1 hY 0;have d1:w5.cell? ⟨w3.heap.size+1,1,none⟩=_:=A1 hY 1;have d2:w5.cell? ⟨w3.heap.size+1,2,none⟩=_:=A1 hY 2;have HQ25:=aa hY;have HQ15:=aa ((hB5.block _ (by omega)).trans HQ1.out);clear hY;have HB5:=aa (HB4.out.trans (hB5.mono HB4.out.size));obtain⟨x1,x2,x3,-,-⟩:=HX.out w5 HB5.out;clear hB5)
  | (go_at_call 59;(with_reducible refine(HAt2.out w5 HB5.out).mono ?_);rintro e w6 ⟨rfl,hB6⟩;have hs6:=hB6.size;have HQ26:=aa ((hB6.block _ (by omega)).trans HQ25.out);have HQ16:=aa ((hB6.block _ (by omega)).trans HQ15.out);have e0:w6.cell? ⟨w3.heap.size,0,none⟩=_:=A1 HQ16.out 0;have g0:w6.cell? ⟨w3.heap.size+1,0,none⟩=_:=A1 HQ26.out 0;have HB6:=aa (HB5.out.trans (hB6.mono HB5.out.size));obtain⟨y1,y2,y3,y4,y5⟩:=HX.out w6 HB6.out;clear hB6)
  | (go_at_call 100;(with_reducible refine(HBl.out w6 HB6.out).mono ?_);rintro e w7 ⟨rfl,rfl⟩))
 go_ret
 exact⟨rfl,HB.out.trans (HB6.out.mono (by omega))⟩
set_option maxRecDepth 100000 in
set_option maxHeartbeats 8000000 in
theorem Qj {w:World}{f mi mg K:Nat}{r:RFs}{N:List Nd}(h:FsN w f mi mg r N)(hW:Wf r K)(i g:Int)(s:ByteArray)(hs:s.size<=maxLen)(i2 g2:Int)(s2:ByteArray)(hs2:s2.size<=maxLen)
  {p q:RIn} {np nq:Nd} (_hp:p∈r.ins) (hkp:p.kind=2) (hnp:np∈N) (hrp:NodeR w r p np) (hq:q∈r.ins) (hkq:q.kind=2) (hnq:nq∈N) (hrq:NodeR w r q nq) (hpi:p.id=i) (hqi:q.id=i2)
  (hl:Aj r (i,g)=true) (hl2:Aj r (i2,g2)=true) (hk:(A3 r.ins i).kind=2) (hk2:(A3 r.ins i2).kind=2) (hv:Ad s=true) (hv2:Ad s2=true)
  {x:RIn} {nx:Nd} (hx:x∈r.ins) (hnx:nx∈N) (hrx:NodeR w r x nx) (hxi:A2 r.nms i s=x.id) (hkx:x.kind=2) (hbl:Bf r i2 x.id=true) (ho:A2 r.nms i2 s2≠0) (hox:A2 r.nms i2 s2≠x.id) :
  Calls Tryz.prog 73 #[.pointer (some ⟨f,0,none⟩),.agg #[.int .i64 i,.int .i64 g],.string s,.agg #[.int .i64 i2,.int .i64 g2],.string s2] w λe w'=>e=.returned (.int .i64 178)/\Below w.heap.size w w':=by
 obtain⟨w2,hw2,hB,hz2,hb0,hb1⟩:=Gm w #[.int .i64 i,.int .i64 g] #[.int .i64 i2,.int .i64 g2] 31 31;have t0:w2.cell? ⟨w.heap.size,0,none⟩=some (.int .i64 i):=by rw[A1 hb0];rfl
 have t1:w2.cell? ⟨w.heap.size,1,none⟩=some (.int .i64 g):=by rw[A1 hb0];rfl
 have t2:w2.cell? ⟨w.heap.size+1,0,none⟩=some (.int .i64 i2):=by rw[A1 hb1];rfl
 have t3:w2.cell? ⟨w.heap.size+1,1,none⟩=some (.int .i64 g2):=by rw[A1 hb1];rfl
 have h2:=h.below hW hB;have HW2:=aa hw2;have HB:=aa hB;have hrp2:=hrp.below (.inr (.inl hkp)) hB;have hrq2:=hrq.below (.inr (.inl hkq)) hB;have hpl:=Bu h2 hW i g s hs i2 g2 s2 hs2 hl hl2 hk hk2 hv hv2 hnp hnq (hrp.id.trans hpi) (hrq.id.trans hqi);have HP:=aa hpl;have HAt:=aa (show ∀w4,Below w2.heap.size w2 w4->Calls Tryz.prog 59 #[.agg #[.pointer (some ⟨np.blk,0,none⟩),.pointer (some ⟨np.b,0,none⟩),.string s]] w4 λe w'=>e=.returned (.tuple #[.int .i64 (A2 r.nms i s),.bool (decide (A2 r.nms i s≠0))])/\Below w4.heap.size w4 w' from λw4 hb=>by have hr4:=hrp2.below (.inr (.inl hkp)) hb;have:=Be hr4 hkp (hr4.lt (.inr (.inl hkp))) s (some ⟨np.blk,0,none⟩);rw[hpi,hW.entry_some] at this;exact this)
 have HAt2:=aa (show ∀w4,Below w2.heap.size w2 w4->Calls Tryz.prog 59 #[.agg #[.pointer (some ⟨nq.blk,0,none⟩),.pointer (some ⟨nq.b,0,none⟩),.string s2]] w4 λe w'=>e=.returned (.tuple #[.int .i64 (A2 r.nms i2 s2),.bool (decide (A2 r.nms i2 s2≠0))])/\Below w4.heap.size w4 w' from λw4 hb=>by have hr4:=hrq2.below (.inr (.inl hkq)) hb;have:=Be hr4 hkq (hr4.lt (.inr (.inl hkq))) s2 (some ⟨nq.blk,0,none⟩);rw[hqi,hW.entry_some] at this;exact this)
 have hx0:x.id≠0:=hW.ne0 hx;rw[hxi,decide_eq_true hx0] at HAt;have hrx2:=hrx.below (hW.kind x hx) hB;have HX:=aa (show ∀w',Below w2.heap.size w2 w'->w'.cell? ⟨f,1,none⟩=some (.map (some mi))/\w'.cell? ⟨nx.blk,5,none⟩=some (Ae x nx)/\(Instr.lookup 144 (.map (some mi)) (.int .i64 x.id) false).run Tryz.prog w'=.ok (.pointer (some ⟨nx.blk,0,none⟩)) w'/\w'.cell? ⟨nq.blk,0,none⟩=some (.int .i64 i2)/\w'.cell? ⟨nq.blk,4,none⟩=some (.int .i64 (A5 r q:Int)) from λw' hb=>by have h4:=h2.below hW hb;have hg:=h4.get hnx;rw[hrx.id] at hg;have hlk:=(h4.look x.id).2;rw[hg] at hlk;have hq4:=(hrq2.below (.inr (.inl hkq)) hb).cells;exact⟨h4.cells.2.1,(hrx2.below (hW.kind x hx) hb).cells.2.2.2.2.2,hlk,by rw[<-hqi];exact hq4.1,hq4.2.2.2.2.1⟩)
 have hta:∀w,(Instr.typeAssert (Ae x nx) 20 135 true).run Tryz.prog w=.ok (.tuple #[.pointer (some ⟨nx.b,0,none⟩),.bool true]) w:=λw=>by rw[Cp,dt hkx];rfl
 rw[decide_eq_true ho] at HAt2;have hbq:(A2 r.nms i2 s2==x.id)=false:=by rw[beq_eq_false_iff_ne];exact hox
 have HBl:=aa (show ∀w',Below w2.heap.size w2 w'->Calls Tryz.prog 100 #[.pointer (some ⟨f,0,none⟩),.int .i64 i2,.int .i64 x.id] w' λe w''=>e=.returned (.bool true)/\w'=w'' from λw' hb=>by have:=E1 (h2.below hW hb) hW hq hkq x.id;rw[hqi,hbl] at this;exact this)
 clear hw2 hB hb0 hb1 h h2 hW hrp2 hrq2 hpl _hp hkp hnp hrp hq hkq hnq hrq hpi hqi hl hl2 hk hk2 hv hv2 hx hnx hrx hxi hx0 hrx2 ho hkx hbl hox
 go_enter Tryz.func73,Tryz.ntmps73
 go_wp2_with fail
 rw[HW2.out]
 go_upto_region 4 with(go_at_call 99;(with_reducible refine HP.out.mono ?_);rintro e w3 ⟨rfl,hB3⟩;have hs3:=hB3.size;replace hB3:=aa hB3)
 obtain⟨w4,hw4,hB4,hs4,hb40,hb41⟩:=Gm w3 #[.pointer (some ⟨np.blk,0,none⟩),.pointer (some ⟨np.b,0,none⟩),.string s] #[.pointer (some ⟨nq.blk,0,none⟩),.pointer (some ⟨nq.b,0,none⟩),.string s2] 137 137;rw[hw4];have c0:w4.cell? ⟨w3.heap.size,0,none⟩=some (.pointer (some ⟨np.blk,0,none⟩)):=by rw[A1 hb40];rfl
 have c1:w4.cell? ⟨w3.heap.size,1,none⟩=some (.pointer (some ⟨np.b,0,none⟩)):=by rw[A1 hb40];rfl
 have c2:w4.cell? ⟨w3.heap.size,2,none⟩=some (.string s):=by rw[A1 hb40];rfl
 have HQ1:=aa hb40;have HQ2:=aa hb41;have HB4:=aa (hB3.out.trans (hB4.mono (by omega)));clear hw4 hb40 hb41 hB4
 go_wp2_with (first
  | (go_at_call 59;(with_reducible refine(HAt.out w4 HB4.out).mono ?_);rintro e w5 ⟨rfl,hB5⟩;have hs5:=hB5.size;have hY:=(hB5.block _ (by omega)).trans HQ2.out;have d0:w5.cell? ⟨w3.heap.size+1,0,none⟩=_:=A1 hY 0;have d1:w5.cell? ⟨w3.heap.size+1,1,none⟩=_:=A1 hY 1;have d2:w5.cell? ⟨w3.heap.size+1,2,none⟩=_:=A1 hY 2;have HQ25:=aa hY;have HQ15:=aa ((hB5.block _ (by omega)).trans HQ1.out);clear hY;have HB5:=aa (HB4.out.trans (hB5.mono HB4.out.size));obtain⟨x1,x2,x3,-,-⟩:=HX.out w5 HB5.out;clear hB5)
  | (go_at_call 59;(with_reducible refine(HAt2.out w5 HB5.out).mono ?_);rintro e w6 ⟨rfl,hB6⟩;have hs6:=hB6.size;have HQ26:=aa ((hB6.block _ (by omega)).trans HQ25.out);have HQ16:=aa ((hB6.block _ (by omega)).trans HQ15.out);have e0:w6.cell? ⟨w3.heap.size,0,none⟩=_:=A1 HQ16.out 0;have g0:w6.cell? ⟨w3.heap.size+1,0,none⟩=_:=A1 HQ26.out 0;have HB6:=aa (HB5.out.trans (hB6.mono HB5.out.size));obtain⟨y1,y2,y3,y4,y5⟩:=HX.out w6 HB6.out;clear hB6)
  | (go_at_call 100;(with_reducible refine(HBl.out w6 HB6.out).mono ?_);rintro e w7 ⟨rfl,rfl⟩))
 go_ret
 exact⟨rfl,HB.out.trans (HB6.out.mono (by omega))⟩
set_option maxRecDepth 100000 in
set_option maxHeartbeats 8000000 in
theorem Tf {w:World}{f mi mg K:Nat}{r:RFs}{N:List Nd}(h:FsN w f mi mg r N)(hW:Wf r K)(i g:Int)(s:ByteArray)(hs:s.size<=maxLen)(i2 g2:Int)(s2:ByteArray)(hs2:s2.size<=maxLen)
  {p q:RIn} {np nq:Nd} (_hp:p∈r.ins) (hkp:p.kind=2) (hnp:np∈N) (hrp:NodeR w r p np) (_hq:q∈r.ins) (hkq:q.kind=2) (hnq:nq∈N) (hrq:NodeR w r q nq) (hpi:p.id=i) (hqi:q.id=i2)
  (hl:Aj r (i,g)=true) (hl2:Aj r (i2,g2)=true) (hk:(A3 r.ins i).kind=2) (hk2:(A3 r.ins i2).kind=2) (hv:Ad s=true) (hv2:Ad s2=true)
  {x:RIn} {nx:Nd} (hx:x∈r.ins) (hnx:nx∈N) (hrx:NodeR w r x nx) (hxi:A2 r.nms i s=x.id) {o:RIn} {no:Nd} (ho:o∈r.ins) (hno:no∈N) (hro:NodeR w r o no) (hoi:A2 r.nms i2 s2=o.id) (hox:o.id≠x.id) (hkx:¬x.kind=2) (hmy:Fp r o false≠0) :
  Calls Tryz.prog 73 #[.pointer (some ⟨f,0,none⟩),.agg #[.int .i64 i,.int .i64 g],.string s,.agg #[.int .i64 i2,.int .i64 g2],.string s2] w λe w'=>e=.returned (.int .i64 (Fp r o false))/\Below w.heap.size w w':=by
 obtain⟨w2,hw2,hB,hz2,hb0,hb1⟩:=Gm w #[.int .i64 i,.int .i64 g] #[.int .i64 i2,.int .i64 g2] 31 31;have t0:w2.cell? ⟨w.heap.size,0,none⟩=some (.int .i64 i):=by rw[A1 hb0];rfl
 have t1:w2.cell? ⟨w.heap.size,1,none⟩=some (.int .i64 g):=by rw[A1 hb0];rfl
 have t2:w2.cell? ⟨w.heap.size+1,0,none⟩=some (.int .i64 i2):=by rw[A1 hb1];rfl
 have t3:w2.cell? ⟨w.heap.size+1,1,none⟩=some (.int .i64 g2):=by rw[A1 hb1];rfl
 have h2:=h.below hW hB;have HW2:=aa hw2;have HB:=aa hB;have hrp2:=hrp.below (.inr (.inl hkp)) hB;have hrq2:=hrq.below (.inr (.inl hkq)) hB;have hpl:=Bu h2 hW i g s hs i2 g2 s2 hs2 hl hl2 hk hk2 hv hv2 hnp hnq (hrp.id.trans hpi) (hrq.id.trans hqi);have HP:=aa hpl;have HAt:=aa (show ∀w4,Below w2.heap.size w2 w4->Calls Tryz.prog 59 #[.agg #[.pointer (some ⟨np.blk,0,none⟩),.pointer (some ⟨np.b,0,none⟩),.string s]] w4 λe w'=>e=.returned (.tuple #[.int .i64 (A2 r.nms i s),.bool (decide (A2 r.nms i s≠0))])/\Below w4.heap.size w4 w' from λw4 hb=>by have hr4:=hrp2.below (.inr (.inl hkp)) hb;have:=Be hr4 hkp (hr4.lt (.inr (.inl hkp))) s (some ⟨np.blk,0,none⟩);rw[hpi,hW.entry_some] at this;exact this)
 have HAt2:=aa (show ∀w4,Below w2.heap.size w2 w4->Calls Tryz.prog 59 #[.agg #[.pointer (some ⟨nq.blk,0,none⟩),.pointer (some ⟨nq.b,0,none⟩),.string s2]] w4 λe w'=>e=.returned (.tuple #[.int .i64 (A2 r.nms i2 s2),.bool (decide (A2 r.nms i2 s2≠0))])/\Below w4.heap.size w4 w' from λw4 hb=>by have hr4:=hrq2.below (.inr (.inl hkq)) hb;have:=Be hr4 hkq (hr4.lt (.inr (.inl hkq))) s2 (some ⟨nq.blk,0,none⟩);rw[hqi,hW.entry_some] at this;exact this)
 have hx0:x.id≠0:=hW.ne0 hx;rw[hxi,decide_eq_true hx0] at HAt;have hrx2:=hrx.below (hW.kind x hx) hB;have HX:=aa (show ∀w',Below w2.heap.size w2 w'->w'.cell? ⟨f,1,none⟩=some (.map (some mi))/\w'.cell? ⟨nx.blk,5,none⟩=some (Ae x nx)/\(Instr.lookup 144 (.map (some mi)) (.int .i64 x.id) false).run Tryz.prog w'=.ok (.pointer (some ⟨nx.blk,0,none⟩)) w'/\w'.cell? ⟨nq.blk,0,none⟩=some (.int .i64 i2)/\w'.cell? ⟨nq.blk,4,none⟩=some (.int .i64 (A5 r q:Int)) from λw' hb=>by have h4:=h2.below hW hb;have hg:=h4.get hnx;rw[hrx.id] at hg;have hlk:=(h4.look x.id).2;rw[hg] at hlk;have hq4:=(hrq2.below (.inr (.inl hkq)) hb).cells;exact⟨h4.cells.2.1,(hrx2.below (hW.kind x hx) hb).cells.2.2.2.2.2,hlk,by rw[<-hqi];exact hq4.1,hq4.2.2.2.2.1⟩)
 have hta:∀w,(Instr.typeAssert (Ae x nx) 20 135 true).run Tryz.prog w=.ok (.tuple #[.pointer none,.bool false]) w:=λw=>by rw[Cp,dq hkx]
 have ho0:o.id≠0:=hW.ne0 ho;rw[hoi,decide_eq_true ho0] at HAt2;have hbq:(o.id==x.id)=false:=by rw[beq_eq_false_iff_ne];exact hox
 have hro2:=hro.below (hW.kind o ho) hB;have HO:=aa (show ∀w',Below w2.heap.size w2 w'->(Instr.lookup 144 (.map (some mi)) (.int .i64 o.id) false).run Tryz.prog w'=.ok (.pointer (some ⟨no.blk,0,none⟩)) w' from λw' hb=>by have h4:=h2.below hW hb;have hg:=h4.get hno;rw[hro.id] at hg;have hlk:=(h4.look o.id).2;rw[hg] at hlk;exact hlk)
 have HMy:=aa (show ∀w',Below w2.heap.size w2 w'->Calls Tryz.prog 97 #[.pointer (some ⟨f,0,none⟩),.pointer (some ⟨no.blk,0,none⟩),.bool false] w' λe w''=>e=.returned (.int .i64 (Fp r o false))/\w'=w'' from λw' hb=>by have:=Ii (hro2.below (hW.kind o ho) hb) false (some ⟨f,0,none⟩);exact this)
 have hmn:(Fp r o false != 0)=true:=by rw[bne_iff_ne];exact hmy
 generalize Fp r o false=my at *;clear hw2 hB hb0 hb1 h h2 hW hrp2 hrq2 hpl _hp hkp hnp hrp _hq hkq hnq hrq hpi hqi hl hl2 hk hk2 hv hv2 hx hnx hrx hxi hx0 hrx2 hkx hmy ho hno hro hoi hox ho0 hro2
 go_enter Tryz.func73,Tryz.ntmps73
 go_wp2_with fail
 rw[HW2.out]
 go_upto_region 4 with(go_at_call 99;(with_reducible refine HP.out.mono ?_);rintro e w3 ⟨rfl,hB3⟩;have hs3:=hB3.size;replace hB3:=aa hB3)
 obtain⟨w4,hw4,hB4,hs4,hb40,hb41⟩:=Gm w3 #[.pointer (some ⟨np.blk,0,none⟩),.pointer (some ⟨np.b,0,none⟩),.string s] #[.pointer (some ⟨nq.blk,0,none⟩),.pointer (some ⟨nq.b,0,none⟩),.string s2] 137 137;rw[hw4];have c0:w4.cell? ⟨w3.heap.size,0,none⟩=some (.pointer (some ⟨np.blk,0,none⟩)):=by rw[A1 hb40];rfl
 have c1:w4.cell? ⟨w3.heap.size,1,none⟩=some (.pointer (some ⟨np.b,0,none⟩)):=by rw[A1 hb40];rfl
 have c2:w4.cell? ⟨w3.heap.size,2,none⟩=some (.string s):=by rw[A1 hb40];rfl
 have HQ1:=aa hb40;have HQ2:=aa hb41;have HB4:=aa (hB3.out.trans (hB4.mono (by omega)));clear hw4 hb40 hb41 hB4
 go_wp2_with (first
  | (go_at_call 59;(with_reducible refine(HAt.out w4 HB4.out).mono ?_);rintro e w5 ⟨rfl,hB5⟩;have hs5:=hB5.size;have hY:=(hB5.block _ (by omega)).trans HQ2.out;have d0:w5.cell? ⟨w3.heap.size+1,0,none⟩=_:=A1 hY 0;have d1:w5.cell? ⟨w3.heap.size+1,1,none⟩=_:=A1 hY 1;have d2:w5.cell? ⟨w3.heap.size+1,2,none⟩=_:=A1 hY 2;have HQ25:=aa hY;have HQ15:=aa ((hB5.block _ (by omega)).trans HQ1.out);clear hY;have HB5:=aa (HB4.out.trans (hB5.mono HB4.out.size));obtain⟨x1,x2,x3,-,-⟩:=HX.out w5 HB5.out;clear hB5)
  | (go_at_call 59;(with_reducible refine(HAt2.out w5 HB5.out).mono ?_);rintro e w6 ⟨rfl,hB6⟩;have hs6:=hB6.size;have HQ26:=aa ((hB6.block _ (by omega)).trans HQ25.out);have HQ16:=aa ((hB6.block _ (by omega)).trans HQ15.out);have e0:w6.cell? ⟨w3.heap.size,0,none⟩=_:=A1 HQ16.out 0;have g0:w6.cell? ⟨w3.heap.size+1,0,none⟩=_:=A1 HQ26.out 0;have HB6:=aa (HB5.out.trans (hB6.mono HB5.out.size));obtain⟨y1,y2,y3,y4,y5⟩:=HX.out w6 HB6.out;clear hB6;have z1:=HO.out w6 HB6.out)
  | (go_at_call 100;(with_reducible refine(HBl.out w6 HB6.out).mono ?_);rintro e w7 ⟨rfl,rfl⟩)
  | (go_at_call 97;(with_reducible refine(HMy.out w6 HB6.out).mono ?_);rintro e w7 ⟨rfl,rfl⟩))
 go_ret
 exact⟨rfl,HB.out.trans (HB6.out.mono (by omega))⟩
set_option maxRecDepth 100000 in
set_option maxHeartbeats 8000000 in
theorem Sx {w:World}{f mi mg K:Nat}{r:RFs}{N:List Nd}(h:FsN w f mi mg r N)(hW:Wf r K)(i g:Int)(s:ByteArray)(hs:s.size<=maxLen)(i2 g2:Int)(s2:ByteArray)(hs2:s2.size<=maxLen)
  {p q:RIn} {np nq:Nd} (_hp:p∈r.ins) (hkp:p.kind=2) (hnp:np∈N) (hrp:NodeR w r p np) (hq:q∈r.ins) (hkq:q.kind=2) (hnq:nq∈N) (hrq:NodeR w r q nq) (hpi:p.id=i) (hqi:q.id=i2)
  (hl:Aj r (i,g)=true) (hl2:Aj r (i2,g2)=true) (hk:(A3 r.ins i).kind=2) (hk2:(A3 r.ins i2).kind=2) (hv:Ad s=true) (hv2:Ad s2=true)
  {x:RIn} {nx:Nd} (hx:x∈r.ins) (hnx:nx∈N) (hrx:NodeR w r x nx) (hxi:A2 r.nms i s=x.id) {o:RIn} {no:Nd} (ho:o∈r.ins) (hno:no∈N) (hro:NodeR w r o no) (hoi:A2 r.nms i2 s2=o.id) (hox:o.id≠x.id) (hkx:x.kind=2) (hbl:Bf r i2 x.id=false) (hmy:Fp r o true≠0) :
  Calls Tryz.prog 73 #[.pointer (some ⟨f,0,none⟩),.agg #[.int .i64 i,.int .i64 g],.string s,.agg #[.int .i64 i2,.int .i64 g2],.string s2] w λe w'=>e=.returned (.int .i64 (Fp r o true))/\Below w.heap.size w w':=by
 obtain⟨w2,hw2,hB,hz2,hb0,hb1⟩:=Gm w #[.int .i64 i,.int .i64 g] #[.int .i64 i2,.int .i64 g2] 31 31;have t0:w2.cell? ⟨w.heap.size,0,none⟩=some (.int .i64 i):=by rw[A1 hb0];rfl
 have t1:w2.cell? ⟨w.heap.size,1,none⟩=some (.int .i64 g):=by rw[A1 hb0];rfl
 have t2:w2.cell? ⟨w.heap.size+1,0,none⟩=some (.int .i64 i2):=by rw[A1 hb1];rfl
 have t3:w2.cell? ⟨w.heap.size+1,1,none⟩=some (.int .i64 g2):=by rw[A1 hb1];rfl
 have h2:=h.below hW hB;have HW2:=aa hw2;have HB:=aa hB;have hrp2:=hrp.below (.inr (.inl hkp)) hB;have hrq2:=hrq.below (.inr (.inl hkq)) hB;have hpl:=Bu h2 hW i g s hs i2 g2 s2 hs2 hl hl2 hk hk2 hv hv2 hnp hnq (hrp.id.trans hpi) (hrq.id.trans hqi);have HP:=aa hpl;have HAt:=aa (show ∀w4,Below w2.heap.size w2 w4->Calls Tryz.prog 59 #[.agg #[.pointer (some ⟨np.blk,0,none⟩),.pointer (some ⟨np.b,0,none⟩),.string s]] w4 λe w'=>e=.returned (.tuple #[.int .i64 (A2 r.nms i s),.bool (decide (A2 r.nms i s≠0))])/\Below w4.heap.size w4 w' from λw4 hb=>by have hr4:=hrp2.below (.inr (.inl hkp)) hb;have:=Be hr4 hkp (hr4.lt (.inr (.inl hkp))) s (some ⟨np.blk,0,none⟩);rw[hpi,hW.entry_some] at this;exact this)
 have HAt2:=aa (show ∀w4,Below w2.heap.size w2 w4->Calls Tryz.prog 59 #[.agg #[.pointer (some ⟨nq.blk,0,none⟩),.pointer (some ⟨nq.b,0,none⟩),.string s2]] w4 λe w'=>e=.returned (.tuple #[.int .i64 (A2 r.nms i2 s2),.bool (decide (A2 r.nms i2 s2≠0))])/\Below w4.heap.size w4 w' from λw4 hb=>by have hr4:=hrq2.below (.inr (.inl hkq)) hb;have:=Be hr4 hkq (hr4.lt (.inr (.inl hkq))) s2 (some ⟨nq.blk,0,none⟩);rw[hqi,hW.entry_some] at this;exact this)
 have hx0:x.id≠0:=hW.ne0 hx;rw[hxi,decide_eq_true hx0] at HAt;have hrx2:=hrx.below (hW.kind x hx) hB;have HX:=aa (show ∀w',Below w2.heap.size w2 w'->w'.cell? ⟨f,1,none⟩=some (.map (some mi))/\w'.cell? ⟨nx.blk,5,none⟩=some (Ae x nx)/\(Instr.lookup 144 (.map (some mi)) (.int .i64 x.id) false).run Tryz.prog w'=.ok (.pointer (some ⟨nx.blk,0,none⟩)) w'/\w'.cell? ⟨nq.blk,0,none⟩=some (.int .i64 i2)/\w'.cell? ⟨nq.blk,4,none⟩=some (.int .i64 (A5 r q:Int)) from λw' hb=>by have h4:=h2.below hW hb;have hg:=h4.get hnx;rw[hrx.id] at hg;have hlk:=(h4.look x.id).2;rw[hg] at hlk;have hq4:=(hrq2.below (.inr (.inl hkq)) hb).cells;exact⟨h4.cells.2.1,(hrx2.below (hW.kind x hx) hb).cells.2.2.2.2.2,hlk,by rw[<-hqi];exact hq4.1,hq4.2.2.2.2.1⟩)
 have hta:∀w,(Instr.typeAssert (Ae x nx) 20 135 true).run Tryz.prog w=.ok (.tuple #[.pointer (some ⟨nx.b,0,none⟩),.bool true]) w:=λw=>by rw[Cp,dt hkx];rfl
 have ho0:o.id≠0:=hW.ne0 ho;rw[hoi,decide_eq_true ho0] at HAt2;have hbq:(o.id==x.id)=false:=by rw[beq_eq_false_iff_ne];exact hox
 have hro2:=hro.below (hW.kind o ho) hB;have HO:=aa (show ∀w',Below w2.heap.size w2 w'->(Instr.lookup 144 (.map (some mi)) (.int .i64 o.id) false).run Tryz.prog w'=.ok (.pointer (some ⟨no.blk,0,none⟩)) w' from λw' hb=>by have h4:=h2.below hW hb;have hg:=h4.get hno;rw[hro.id] at hg;have hlk:=(h4.look o.id).2;rw[hg] at hlk;exact hlk)
 have HMy:=aa (show ∀w',Below w2.heap.size w2 w'->Calls Tryz.prog 97 #[.pointer (some ⟨f,0,none⟩),.pointer (some ⟨no.blk,0,none⟩),.bool true] w' λe w''=>e=.returned (.int .i64 (Fp r o true))/\w'=w'' from λw' hb=>by have:=Ii (hro2.below (hW.kind o ho) hb) true (some ⟨f,0,none⟩);exact this)
 have HBl:=aa (show ∀w',Below w2.heap.size w2 w'->Calls Tryz.prog 100 #[.pointer (some ⟨f,0,none⟩),.int .i64 i2,.int .i64 x.id] w' λe w''=>e=.returned (.bool false)/\w'=w'' from λw' hb=>by have:=E1 (h2.below hW hb) hW hq hkq x.id;rw[hqi,hbl] at this;exact this)
 have hmn:(Fp r o true != 0)=true:=by rw[bne_iff_ne];exact hmy
 generalize Fp r o true=my at *;clear hw2 hB hb0 hb1 h h2 hW hrp2 hrq2 hpl _hp hkp hnp hrp hq hkq hnq hrq hpi hqi hl hl2 hk hk2 hv hv2 hx hnx hrx hxi hx0 hrx2 hkx hmy ho hno hro hoi hox ho0 hro2 hbl
 go_enter Tryz.func73,Tryz.ntmps73
 go_wp2_with fail
 rw[HW2.out]
 go_upto_region 4 with(go_at_call 99;(with_reducible refine HP.out.mono ?_);rintro e w3 ⟨rfl,hB3⟩;have hs3:=hB3.size;replace hB3:=aa hB3)
 obtain⟨w4,hw4,hB4,hs4,hb40,hb41⟩:=Gm w3 #[.pointer (some ⟨np.blk,0,none⟩),.pointer (some ⟨np.b,0,none⟩),.string s] #[.pointer (some ⟨nq.blk,0,none⟩),.pointer (some ⟨nq.b,0,none⟩),.string s2] 137 137;rw[hw4];have c0:w4.cell? ⟨w3.heap.size,0,none⟩=some (.pointer (some ⟨np.blk,0,none⟩)):=by rw[A1 hb40];rfl
 have c1:w4.cell? ⟨w3.heap.size,1,none⟩=some (.pointer (some ⟨np.b,0,none⟩)):=by rw[A1 hb40];rfl
 have c2:w4.cell? ⟨w3.heap.size,2,none⟩=some (.string s):=by rw[A1 hb40];rfl
 have HQ1:=aa hb40;have HQ2:=aa hb41;have HB4:=aa (hB3.out.trans (hB4.mono (by omega)));clear hw4 hb40 hb41 hB4
 go_wp2_with (first
  | (go_at_call 59;(with_reducible refine(HAt.out w4 HB4.out).mono ?_);rintro e w5 ⟨rfl,hB5⟩;have hs5:=hB5.size;have hY:=(hB5.block _ (by omega)).trans HQ2.out;have d0:w5.cell? ⟨w3.heap.size+1,0,none⟩=_:=A1 hY 0;have d1:w5.cell? ⟨w3.heap.size+1,1,none⟩=_:=A1 hY 1;have d2:w5.cell? ⟨w3.heap.size+1,2,none⟩=_:=A1 hY 2;have HQ25:=aa hY;have HQ15:=aa ((hB5.block _ (by omega)).trans HQ1.out);clear hY;have HB5:=aa (HB4.out.trans (hB5.mono HB4.out.size));obtain⟨x1,x2,x3,-,-⟩:=HX.out w5 HB5.out;clear hB5)
  | (go_at_call 59;(with_reducible refine(HAt2.out w5 HB5.out).mono ?_);rintro e w6 ⟨rfl,hB6⟩;have hs6:=hB6.size;have HQ26:=aa ((hB6.block _ (by omega)).trans HQ25.out);have HQ16:=aa ((hB6.block _ (by omega)).trans HQ15.out);have e0:w6.cell? ⟨w3.heap.size,0,none⟩=_:=A1 HQ16.out 0;have g0:w6.cell? ⟨w3.heap.size+1,0,none⟩=_:=A1 HQ26.out 0;have HB6:=aa (HB5.out.trans (hB6.mono HB5.out.size));obtain⟨y1,y2,y3,y4,y5⟩:=HX.out w6 HB6.out;clear hB6;have z1:=HO.out w6 HB6.out)
  | (go_at_call 100;(with_reducible refine(HBl.out w6 HB6.out).mono ?_);rintro e w7 ⟨rfl,rfl⟩)
  | (go_at_call 97;(with_reducible refine(HMy.out w6 HB6.out).mono ?_);rintro e w7 ⟨rfl,rfl⟩))
 go_ret
 exact⟨rfl,HB.out.trans (HB6.out.mono (by omega))⟩
set_option maxRecDepth 100000 in
set_option maxHeartbeats 8000000 in
theorem Rt {w:World}{f mi mg K:Nat}{r:RFs}{N:List Nd}(h:FsN w f mi mg r N)(hW:Wf r K)(i g:Int)(s:ByteArray)(hs:s.size<=maxLen)(i2 g2:Int)(s2:ByteArray)(hs2:s2.size<=maxLen)
  {p q:RIn} {np nq:Nd} (_hp:p∈r.ins) (hkp:p.kind=2) (hnp:np∈N) (hrp:NodeR w r p np) (hq:q∈r.ins) (hkq:q.kind=2) (hnq:nq∈N) (hrq:NodeR w r q nq) (hpi:p.id=i) (hqi:q.id=i2)
  (hl:Aj r (i,g)=true) (hl2:Aj r (i2,g2)=true) (hk:(A3 r.ins i).kind=2) (hk2:(A3 r.ins i2).kind=2) (hv:Ad s=true) (hv2:Ad s2=true)
  {x:RIn} {nx:Nd} (hx:x∈r.ins) (hnx:nx∈N) (hrx:NodeR w r x nx) (hxi:A2 r.nms i s=x.id) (hkx:x.kind=2) (hbl:Bf r i2 x.id=false) (ho:A2 r.nms i2 s2=0) (hpq:np.blk≠nq.blk) (hlq:20<=A5 r q) :
  Calls Tryz.prog 73 #[.pointer (some ⟨f,0,none⟩),.agg #[.int .i64 i,.int .i64 g],.string s,.agg #[.int .i64 i2,.int .i64 g2],.string s2] w λe w'=>e=.returned (.int .i64 179)/\Below w.heap.size w w':=by
 obtain⟨w2,hw2,hB,hz2,hb0,hb1⟩:=Gm w #[.int .i64 i,.int .i64 g] #[.int .i64 i2,.int .i64 g2] 31 31;have t0:w2.cell? ⟨w.heap.size,0,none⟩=some (.int .i64 i):=by rw[A1 hb0];rfl
 have t1:w2.cell? ⟨w.heap.size,1,none⟩=some (.int .i64 g):=by rw[A1 hb0];rfl
 have t2:w2.cell? ⟨w.heap.size+1,0,none⟩=some (.int .i64 i2):=by rw[A1 hb1];rfl
 have t3:w2.cell? ⟨w.heap.size+1,1,none⟩=some (.int .i64 g2):=by rw[A1 hb1];rfl
 have h2:=h.below hW hB;have HW2:=aa hw2;have HB:=aa hB;have hrp2:=hrp.below (.inr (.inl hkp)) hB;have hrq2:=hrq.below (.inr (.inl hkq)) hB;have hpl:=Bu h2 hW i g s hs i2 g2 s2 hs2 hl hl2 hk hk2 hv hv2 hnp hnq (hrp.id.trans hpi) (hrq.id.trans hqi);have HP:=aa hpl;have HAt:=aa (show ∀w4,Below w2.heap.size w2 w4->Calls Tryz.prog 59 #[.agg #[.pointer (some ⟨np.blk,0,none⟩),.pointer (some ⟨np.b,0,none⟩),.string s]] w4 λe w'=>e=.returned (.tuple #[.int .i64 (A2 r.nms i s),.bool (decide (A2 r.nms i s≠0))])/\Below w4.heap.size w4 w' from λw4 hb=>by have hr4:=hrp2.below (.inr (.inl hkp)) hb;have:=Be hr4 hkp (hr4.lt (.inr (.inl hkp))) s (some ⟨np.blk,0,none⟩);rw[hpi,hW.entry_some] at this;exact this)
 have HAt2:=aa (show ∀w4,Below w2.heap.size w2 w4->Calls Tryz.prog 59 #[.agg #[.pointer (some ⟨nq.blk,0,none⟩),.pointer (some ⟨nq.b,0,none⟩),.string s2]] w4 λe w'=>e=.returned (.tuple #[.int .i64 (A2 r.nms i2 s2),.bool (decide (A2 r.nms i2 s2≠0))])/\Below w4.heap.size w4 w' from λw4 hb=>by have hr4:=hrq2.below (.inr (.inl hkq)) hb;have:=Be hr4 hkq (hr4.lt (.inr (.inl hkq))) s2 (some ⟨nq.blk,0,none⟩);rw[hqi,hW.entry_some] at this;exact this)
 have hx0:x.id≠0:=hW.ne0 hx;rw[hxi,decide_eq_true hx0] at HAt;have hrx2:=hrx.below (hW.kind x hx) hB;have HX:=aa (show ∀w',Below w2.heap.size w2 w'->w'.cell? ⟨f,1,none⟩=some (.map (some mi))/\w'.cell? ⟨nx.blk,5,none⟩=some (Ae x nx)/\(Instr.lookup 144 (.map (some mi)) (.int .i64 x.id) false).run Tryz.prog w'=.ok (.pointer (some ⟨nx.blk,0,none⟩)) w'/\w'.cell? ⟨nq.blk,0,none⟩=some (.int .i64 i2)/\w'.cell? ⟨nq.blk,4,none⟩=some (.int .i64 (A5 r q:Int)) from λw' hb=>by have h4:=h2.below hW hb;have hg:=h4.get hnx;rw[hrx.id] at hg;have hlk:=(h4.look x.id).2;rw[hg] at hlk;have hq4:=(hrq2.below (.inr (.inl hkq)) hb).cells;exact⟨h4.cells.2.1,(hrx2.below (hW.kind x hx) hb).cells.2.2.2.2.2,hlk,by rw[<-hqi];exact hq4.1,hq4.2.2.2.2.1⟩)
 have hta:∀w,(Instr.typeAssert (Ae x nx) 20 135 true).run Tryz.prog w=.ok (.tuple #[.pointer (some ⟨nx.b,0,none⟩),.bool true]) w:=λw=>by rw[Cp,dt hkx];rfl
 rw[ho] at HAt2;simp only[ne_eq,not_true_eq_false,decide_false] at HAt2;have HBl:=aa (show ∀w',Below w2.heap.size w2 w'->Calls Tryz.prog 100 #[.pointer (some ⟨f,0,none⟩),.int .i64 i2,.int .i64 x.id] w' λe w''=>e=.returned (.bool false)/\w'=w'' from λw' hb=>by have:=E1 (h2.below hW hb) hW hq hkq x.id;rw[hqi,hbl] at this;exact this)
 have q3:decide (20<=(A5 r q:Int))=true:=decide_eq_true (by omega);have q4:decide (20<=A5 r q)=true:=decide_eq_true hlq;have HNq:=aa (show ∀w',Below w2.heap.size w2 w'->(binOp .neq 134 (.pointer (some ⟨np.blk,0,none⟩)) (.pointer (some ⟨nq.blk,0,none⟩))).run Tryz.prog w'=.ok (.bool true) w' from λw' hb=>by have:=Tl (hrp2.below (.inr (.inl hkp)) hb).head (hrq2.below (.inr (.inl hkq)) hb).head;rw[decide_eq_false hpq] at this;exact this)
 clear hw2 hB hb0 hb1 h h2 hW hrp2 hrq2 hpl _hp hkp hnp hrp hq hkq hnq hrq hpi hqi hl hl2 hk hk2 hv hv2 hx hnx hrx hxi hx0 hrx2 ho hkx hbl hpq
 go_enter Tryz.func73,Tryz.ntmps73
 go_wp2_with fail
 rw[HW2.out]
 go_upto_region 4 with(go_at_call 99;(with_reducible refine HP.out.mono ?_);rintro e w3 ⟨rfl,hB3⟩;have hs3:=hB3.size;replace hB3:=aa hB3)
 obtain⟨w4,hw4,hB4,hs4,hb40,hb41⟩:=Gm w3 #[.pointer (some ⟨np.blk,0,none⟩),.pointer (some ⟨np.b,0,none⟩),.string s] #[.pointer (some ⟨nq.blk,0,none⟩),.pointer (some ⟨nq.b,0,none⟩),.string s2] 137 137;rw[hw4];have c0:w4.cell? ⟨w3.heap.size,0,none⟩=some (.pointer (some ⟨np.blk,0,none⟩)):=by rw[A1 hb40];rfl
 have c1:w4.cell? ⟨w3.heap.size,1,none⟩=some (.pointer (some ⟨np.b,0,none⟩)):=by rw[A1 hb40];rfl
 have c2:w4.cell? ⟨w3.heap.size,2,none⟩=some (.string s):=by rw[A1 hb40];rfl
 have HQ1:=aa hb40;have HQ2:=aa hb41;have HB4:=aa (hB3.out.trans (hB4.mono (by omega)));clear hw4 hb40 hb41 hB4
 go_wp2_with (first
  | (go_at_call 59;(with_reducible refine(HAt.out w4 HB4.out).mono ?_);rintro e w5 ⟨rfl,hB5⟩;have hs5:=hB5.size;have hY:=(hB5.block _ (by omega)).trans HQ2.out;have d0:w5.cell? ⟨w3.heap.size+1,0,none⟩=_:=A1 hY 0;have d1:w5.cell? ⟨w3.heap.size+1,1,none⟩=_:=A1 hY 1;have d2:w5.cell? ⟨w3.heap.size+1,2,none⟩=_:=A1 hY 2;have HQ25:=aa hY;have HQ15:=aa ((hB5.block _ (by omega)).trans HQ1.out);clear hY;have HB5:=aa (HB4.out.trans (hB5.mono HB4.out.size));obtain⟨x1,x2,x3,-,-⟩:=HX.out w5 HB5.out;clear hB5)
  | (go_at_call 59;(with_reducible refine(HAt2.out w5 HB5.out).mono ?_);rintro e w6 ⟨rfl,hB6⟩;have hs6:=hB6.size;have HQ26:=aa ((hB6.block _ (by omega)).trans HQ25.out);have HQ16:=aa ((hB6.block _ (by omega)).trans HQ15.out);have e0:w6.cell? ⟨w3.heap.size,0,none⟩=_:=A1 HQ16.out 0;have g0:w6.cell? ⟨w3.heap.size+1,0,none⟩=_:=A1 HQ26.out 0;have HB6:=aa (HB5.out.trans (hB6.mono HB5.out.size));obtain⟨y1,y2,y3,y4,y5⟩:=HX.out w6 HB6.out;clear hB6;have y6:=HNq.out w6 HB6.out)
  | (go_at_call 100;(with_reducible refine(HBl.out w6 HB6.out).mono ?_);rintro e w7 ⟨rfl,rfl⟩))
 go_ret
 exact⟨rfl,HB.out.trans (HB6.out.mono (by omega))⟩
set_option maxRecDepth 100000 in
set_option maxHeartbeats 8000000 in
theorem Tg {w:World}{f mi mg K:Nat}{r:RFs}{N:List Nd}(h:FsN w f mi mg r N)(hW:Wf r K)(i g:Int)(s:ByteArray)(hs:s.size<=maxLen)(i2 g2:Int)(s2:ByteArray)(hs2:s2.size<=maxLen)
  {p q:RIn} {np nq:Nd} (hp:p∈r.ins) (hkp:p.kind=2) (hnp:np∈N) (hrp:NodeR w r p np) (hq:q∈r.ins) (hkq:q.kind=2) (hnq:nq∈N) (hrq:NodeR w r q nq) (hpi:p.id=i) (hqi:q.id=i2)
  (hl:Aj r (i,g)=true) (hl2:Aj r (i2,g2)=true) (hk:(A3 r.ins i).kind=2) (hk2:(A3 r.ins i2).kind=2) (hv:Ad s=true) (hv2:Ad s2=true)
  {x:RIn} {nx:Nd} (hx:x∈r.ins) (hnx:nx∈N) (hrx:NodeR w r x nx) (hxi:A2 r.nms i s=x.id) (hxq:x.id≠q.id) (ho:A2 r.nms i2 s2=0) (hkx:¬x.kind=2) (hpq:np.blk≠nq.blk) :
  Calls Tryz.prog 73 #[.pointer (some ⟨f,0,none⟩),.agg #[.int .i64 i,.int .i64 g],.string s,.agg #[.int .i64 i2,.int .i64 g2],.string s2] w λe w'=>e=.returned (.int .i64 0)/\Cs w w' f mi mg N (Ah r i s i2 s2 x):=by
 obtain⟨w2,hw2,hB,hz2,hb0,hb1⟩:=Gm w #[.int .i64 i,.int .i64 g] #[.int .i64 i2,.int .i64 g2] 31 31;have t0:w2.cell? ⟨w.heap.size,0,none⟩=some (.int .i64 i):=by rw[A1 hb0];rfl
 have t1:w2.cell? ⟨w.heap.size,1,none⟩=some (.int .i64 g):=by rw[A1 hb0];rfl
 have t2:w2.cell? ⟨w.heap.size+1,0,none⟩=some (.int .i64 i2):=by rw[A1 hb1];rfl
 have t3:w2.cell? ⟨w.heap.size+1,1,none⟩=some (.int .i64 g2):=by rw[A1 hb1];rfl
 have h2:=h.below hW hB;have HW2:=aa hw2;have HB:=aa hB;have hrp2:=hrp.below (.inr (.inl hkp)) hB;have hrq2:=hrq.below (.inr (.inl hkq)) hB;have hpl:=Bu h2 hW i g s hs i2 g2 s2 hs2 hl hl2 hk hk2 hv hv2 hnp hnq (hrp.id.trans hpi) (hrq.id.trans hqi);have HP:=aa hpl;have HAt:=aa (show ∀w4,Below w2.heap.size w2 w4->Calls Tryz.prog 59 #[.agg #[.pointer (some ⟨np.blk,0,none⟩),.pointer (some ⟨np.b,0,none⟩),.string s]] w4 λe w'=>e=.returned (.tuple #[.int .i64 (A2 r.nms i s),.bool (decide (A2 r.nms i s≠0))])/\Below w4.heap.size w4 w' from λw4 hb=>by have hr4:=hrp2.below (.inr (.inl hkp)) hb;have:=Be hr4 hkp (hr4.lt (.inr (.inl hkp))) s (some ⟨np.blk,0,none⟩);rw[hpi,hW.entry_some] at this;exact this)
 have HAt2:=aa (show ∀w4,Below w2.heap.size w2 w4->Calls Tryz.prog 59 #[.agg #[.pointer (some ⟨nq.blk,0,none⟩),.pointer (some ⟨nq.b,0,none⟩),.string s2]] w4 λe w'=>e=.returned (.tuple #[.int .i64 (A2 r.nms i2 s2),.bool (decide (A2 r.nms i2 s2≠0))])/\Below w4.heap.size w4 w' from λw4 hb=>by have hr4:=hrq2.below (.inr (.inl hkq)) hb;have:=Be hr4 hkq (hr4.lt (.inr (.inl hkq))) s2 (some ⟨nq.blk,0,none⟩);rw[hqi,hW.entry_some] at this;exact this)
 have hx0:x.id≠0:=hW.ne0 hx;rw[hxi,decide_eq_true hx0] at HAt;have hrx2:=hrx.below (hW.kind x hx) hB;have HX:=aa (show ∀w',Below w2.heap.size w2 w'->w'.cell? ⟨f,1,none⟩=some (.map (some mi))/\w'.cell? ⟨nx.blk,5,none⟩=some (Ae x nx)/\(Instr.lookup 144 (.map (some mi)) (.int .i64 x.id) false).run Tryz.prog w'=.ok (.pointer (some ⟨nx.blk,0,none⟩)) w'/\w'.cell? ⟨nq.blk,0,none⟩=some (.int .i64 i2)/\w'.cell? ⟨nq.blk,4,none⟩=some (.int .i64 (A5 r q:Int)) from λw' hb=>by have h4:=h2.below hW hb;have hg:=h4.get hnx;rw[hrx.id] at hg;have hlk:=(h4.look x.id).2;rw[hg] at hlk;have hq4:=(hrq2.below (.inr (.inl hkq)) hb).cells;exact⟨h4.cells.2.1,(hrx2.below (hW.kind x hx) hb).cells.2.2.2.2.2,hlk,by rw[<-hqi];exact hq4.1,hq4.2.2.2.2.1⟩)
 have hta:∀w,(Instr.typeAssert (Ae x nx) 20 135 true).run Tryz.prog w=.ok (.tuple #[.pointer none,.bool false]) w:=λw=>by rw[Cp,dq hkx]
 have hh0:A2 r.nms i s≠0:=by rw[hxi];exact hW.ne0 hx
 obtain⟨n0,hn0,m1,m2,m3⟩:=B5 hh0;rw[hxi] at m3;rw[<-hpi] at m1;have hxp:x.id≠p.id:=by rw[<-m3,<-m1];exact hW.self_ne hn0
 have HH:=aa h;have HWf:=aa hW;have HR:=aa (And.intro hrx (And.intro hrp hrq));have HM:=aa (And.intro hx (And.intro hp hq));have HN:=aa (And.intro hnx (And.intro hnp hnq));have H0:=aa (And.intro hn0 (And.intro m1 (And.intro m2 m3)));have HK:=aa (And.intro hkp hkq);have HI:=aa (And.intro hpi hqi);have HXP:=aa hxp;have HNo:=aa (Dw hW (l:=r.nms) (λ_ hn=>hn) ho);have HN6:=aa (show ∀w',Below w2.heap.size w2 w'->FsN w' f mi mg r N/\NodeR w' r p np/\NodeR w' r q nq/\NodeR w' r x nx from λw' hb=>⟨h2.below hW hb,hrp2.below (.inr (.inl hkp)) hb,hrq2.below (.inr (.inl hkq)) hb,hrx2.below (hW.kind x hx) hb⟩);rw[ho] at HAt2;simp only[ne_eq,not_true_eq_false,decide_false] at HAt2;have HKX:=aa hkx;have HXQ:=aa hxq;have HAg:=aa (show(Az (Aa r.nms q.id) s2).isSome=false by rw[hW.entry_some,hqi,ho];rfl);have hmm:nq.m≠np.m:=λe=>hpq (by
  by_cases c:nq=np
  .rw[c]
  .exact du (e ▸ Nd.m_mem (hrp.ne hkp).1) (h.apart hnq hnp c _ (Nd.m_mem (hrq.ne hkq).1)))
 have HMm:=aa hmm;have HPB:=aa hpq;have HPQ:=aa (show p.id≠q.id from λe=>hpq (by rw[Bc h.idU hnp hnq (hrp.id.trans (e.trans hrq.id.symm))]));clear hw2 hB hb0 hb1 h h2 hW hrp2 hrq2 hpl hp hkp hnp hrp hq hkq hnq hrq hpi hqi hl hl2 hk hk2 hv hv2 hx hnx hrx hxi hx0 hrx2 ho hkx hpq hmm hxq hh0 hn0 m1 m2 m3 hxp
 go_enter Tryz.func73,Tryz.ntmps73
 go_wp2_with fail
 rw[HW2.out]
 go_upto_region 4 with(go_at_call 99;(with_reducible refine HP.out.mono ?_);rintro e w3 ⟨rfl,hB3⟩;have hs3:=hB3.size;replace hB3:=aa hB3)
 obtain⟨w4,hw4,hB4,hs4,hb40,hb41⟩:=Gm w3 #[.pointer (some ⟨np.blk,0,none⟩),.pointer (some ⟨np.b,0,none⟩),.string s] #[.pointer (some ⟨nq.blk,0,none⟩),.pointer (some ⟨nq.b,0,none⟩),.string s2] 137 137;rw[hw4];have c0:w4.cell? ⟨w3.heap.size,0,none⟩=some (.pointer (some ⟨np.blk,0,none⟩)):=by rw[A1 hb40];rfl
 have c1:w4.cell? ⟨w3.heap.size,1,none⟩=some (.pointer (some ⟨np.b,0,none⟩)):=by rw[A1 hb40];rfl
 have c2:w4.cell? ⟨w3.heap.size,2,none⟩=some (.string s):=by rw[A1 hb40];rfl
 have HQ1:=aa hb40;have HQ2:=aa hb41;have HB4:=aa (hB3.out.trans (hB4.mono (by omega)));clear hw4 hb40 hb41 hB4
 go_upto_region 22 with(first
  | (go_at_call 59;(with_reducible refine(HAt.out w4 HB4.out).mono ?_);rintro e w5 ⟨rfl,hB5⟩;have hs5:=hB5.size;have hY:=(hB5.block _ (by omega)).trans HQ2.out;have d0:w5.cell? ⟨w3.heap.size+1,0,none⟩=_:=A1 hY 0;have d1:w5.cell? ⟨w3.heap.size+1,1,none⟩=_:=A1 hY 1;have d2:w5.cell? ⟨w3.heap.size+1,2,none⟩=_:=A1 hY 2;have HQ25:=aa hY;have HQ15:=aa ((hB5.block _ (by omega)).trans HQ1.out);clear hY;have HB5:=aa (HB4.out.trans (hB5.mono HB4.out.size));obtain⟨x1,x2,x3,-,-⟩:=HX.out w5 HB5.out;clear hB5)
  | (go_at_call 59;(with_reducible refine(HAt2.out w5 HB5.out).mono ?_);rintro e w6 ⟨rfl,hB6⟩;have hs6:=hB6.size;have HQ26:=aa ((hB6.block _ (by omega)).trans HQ25.out);have HQ16:=aa ((hB6.block _ (by omega)).trans HQ15.out);have e0:w6.cell? ⟨w3.heap.size,0,none⟩=_:=A1 HQ16.out 0;have g0:w6.cell? ⟨w3.heap.size+1,0,none⟩=_:=A1 HQ26.out 0;have HB6:=aa (HB5.out.trans (hB6.mono HB5.out.size));obtain⟨y1,y2,y3,y4,y5⟩:=HX.out w6 HB6.out;clear hB6))
 obtain⟨F6,P6,Q6,X6⟩:=HN6.out w6 HB6.out;have a1:w6.cell? ⟨w3.heap.size,1,none⟩=some (.pointer (some ⟨np.b,0,none⟩)):=by rw[A1 HQ16.out];rfl
 have a2:w6.cell? ⟨np.b,0,none⟩=some (.map (some np.m)):=by rw[A1 (P6.dir HK.out.1).1];rfl
 have hm6:MapB w6 np.m Ci Ax (Aa r.nms p.id):=(P6.dir HK.out.1).2;obtain⟨o1,hdel,hmp1⟩:=C0 (P:=Tryz.prog) (ty:=0) (tk:=9) KS (t:=150) Tryz.underlying150 hm6 s;unfold Ci at hdel;have M1:=aa hmp1;have G6:=aa F6;have P6':=aa P6;have Q6':=aa Q6;have X6':=aa X6;clear F6 P6 Q6 X6 hm6 hmp1
 go_upto_region 23 with fail
 obtain⟨w7,hw7⟩:∃w7,putObj w6 np.m o1=w7:=⟨_,rfl⟩;rw[hw7];have k7:∀k,k≠np.m->w7.heap[k]?=w6.heap[k]?:=λk hk=>by rw[<-hw7];exact A9 w6 o1 hk
 rw[hw7] at M1;have W7:=aa hw7;have K7:=aa k7;have b1:w7.cell? ⟨w3.heap.size+1,1,none⟩=some (.pointer (some ⟨nq.b,0,none⟩)):=by rw[A1 ((k7 _ (A8 (P6'.out.dir HK.out.1).2 HQ26.out).symm).trans HQ26.out)];rfl
 have b2:w7.cell? ⟨nq.b,0,none⟩=some (.map (some nq.m)):=by rw[A1 ((k7 _ (A8 (P6'.out.dir HK.out.1).2 (Q6'.out.dir HK.out.2).1).symm).trans (Q6'.out.dir HK.out.2).1)];rfl
 have hm7:MapB w7 nq.m Ci Ax (Aa r.nms q.id):=(Q6'.out.dir HK.out.2).2.of_block (k7 _ HMm.out);have hag:(Az (Aa r.nms q.id) s2).isSome=false:=HAg.out;obtain⟨o2,hup,hmp2⟩:=Am KS (P:=Tryz.prog) (t:=150) Tryz.underlying150 hm7 s2 x.id;rw[C5 hag] at hmp2;unfold Ci Ax at hup;have M2:=aa hmp2;clear hm7 hag hmp2 hw7 k7 hdel a1 a2
 go_upto_region 24 with fail
 obtain⟨w8,hw8⟩:∃w8,putObj w7 nq.m o2=w8:=⟨_,rfl⟩;rw[hw8];rw[hw8] at M2;have W8:=aa hw8;have K8:=aa (show ∀k,k≠nq.m->w8.heap[k]?=w7.heap[k]? from λk hk=>by rw[<-hw8];exact A9 w7 o2 hk);clear hw8 hup b1 b2
 go_wp2
 go_ret
 refine⟨rfl,?_⟩;obtain⟨ei,eq⟩:=HI.out;subst ei eq;obtain⟨hx,hp,hq⟩:=HM.out;obtain⟨hnx,hnp,hnq⟩:=HN.out;obtain⟨hrx,hrp,hrq⟩:=HR.out;obtain⟨hn0,m1,m2,m3⟩:=H0.out;have B6:=HB.out.trans (HB6.out.mono (show w.heap.size<=w2.heap.size by omega));have hlk:=λy=>C4 HWf.out hx hn0 m3 q.id s2 (y:=y) (y':=y) rfl rfl;rw[m1,m2] at hlk;have hns:∀j,Aa (Ah r p.id s q.id s2 x).nms j=_:=λj=>by rw[Cl,B2,Ay]
 have pm:=(P6'.out.dir HK.out.1).2;have qm:=(Q6'.out.dir HK.out.2).2;have hl:∀y,A5 (Ah r p.id s q.id s2 x) y=A5 r y:=λy=>by have:=hlk y;rw[dq (λe=>HKX.out e.2.1),dq (λe=>HKX.out e.2.1)] at this;exact this
 refine⟨N,F0 HH.out HWf.out hx hnx hrx hp HK.out.1 hnp hrp hq HK.out.2 hnq hrq hn0 m1 m2 m3 HXP.out HXQ.out (λk hk a b _ _ _=>(K8.out k b).trans ((K7.out k a).trans (B6.block k hk))) ?_ ?_ ?_ ?_ (λe=>du e HKX.out),λk hk=>.inl hk,?_⟩
 .rw[hns,dq HPQ.out,dt rfl];exact M1.out.of_block (K8.out _ (λe=>HMm.out e.symm))
 .rw[hns,dt rfl,dq (λe=>HPQ.out e.symm)];exact M2.out
 .rw[hl];exact(K8.out _ (A8 qm P6'.out.head).symm).trans ((K7.out _ (A8 pm P6'.out.head).symm).trans P6'.out.head)
 .rw[hl];exact(K8.out _ (A8 qm Q6'.out.head).symm).trans ((K7.out _ (A8 pm Q6'.out.head).symm).trans Q6'.out.head)
 .rw[<-W8.out,<-W7.out];exact((Frm.of_below B6).putObj (.inl (Ak hnp (Nd.m_mem (hrp.ne HK.out.1).1))) o1).putObj (.inl (Ak hnq (Nd.m_mem (hrq.ne HK.out.2).1))) o2
set_option maxRecDepth 100000 in
set_option maxHeartbeats 8000000 in
theorem Sw {w:World}{f mi mg K:Nat}{r:RFs}{N:List Nd}(h:FsN w f mi mg r N)(hW:Wf r K)(i g:Int)(s:ByteArray)(hs:s.size<=maxLen)(i2 g2:Int)(s2:ByteArray)(hs2:s2.size<=maxLen)
  {p q:RIn} {np nq:Nd} (hp:p∈r.ins) (hkp:p.kind=2) (hnp:np∈N) (hrp:NodeR w r p np) (hq:q∈r.ins) (hkq:q.kind=2) (hnq:nq∈N) (hrq:NodeR w r q nq) (hpi:p.id=i) (hqi:q.id=i2)
  (hl:Aj r (i,g)=true) (hl2:Aj r (i2,g2)=true) (hk:(A3 r.ins i).kind=2) (hk2:(A3 r.ins i2).kind=2) (hv:Ad s=true) (hv2:Ad s2=true)
  {x:RIn} {nx:Nd} (hx:x∈r.ins) (hnx:nx∈N) (hrx:NodeR w r x nx) (hxi:A2 r.nms i s=x.id) (hxq:x.id≠q.id) (ho:A2 r.nms i2 s2=0) (hkx:¬x.kind=2) (hpq:np=nq) :
  Calls Tryz.prog 73 #[.pointer (some ⟨f,0,none⟩),.agg #[.int .i64 i,.int .i64 g],.string s,.agg #[.int .i64 i2,.int .i64 g2],.string s2] w λe w'=>e=.returned (.int .i64 0)/\Cs w w' f mi mg N (Ah r i s i2 s2 x):=by
 subst hpq;obtain rfl:=h.uniq hW hp hrp hq hrq;obtain rfl:i=i2:=hpi.symm.trans hqi;obtain⟨w2,hw2,hB,hz2,hb0,hb1⟩:=Gm w #[.int .i64 i,.int .i64 g] #[.int .i64 i,.int .i64 g2] 31 31;have t0:w2.cell? ⟨w.heap.size,0,none⟩=some (.int .i64 i):=by rw[A1 hb0];rfl
 have t1:w2.cell? ⟨w.heap.size,1,none⟩=some (.int .i64 g):=by rw[A1 hb0];rfl
 have t2:w2.cell? ⟨w.heap.size+1,0,none⟩=some (.int .i64 i):=by rw[A1 hb1];rfl
 have t3:w2.cell? ⟨w.heap.size+1,1,none⟩=some (.int .i64 g2):=by rw[A1 hb1];rfl
 have h2:=h.below hW hB;have HW2:=aa hw2;have HB:=aa hB;have hrp2:=hrp.below (.inr (.inl hkp)) hB;have hrq2:=hrq.below (.inr (.inl hkq)) hB;have hpl:=Bu h2 hW i g s hs i g2 s2 hs2 hl hl2 hk hk2 hv hv2 hnp hnq (hrp.id.trans hpi) (hrq.id.trans hqi);have HP:=aa hpl;have HAt:=aa (show ∀w4,Below w2.heap.size w2 w4->Calls Tryz.prog 59 #[.agg #[.pointer (some ⟨np.blk,0,none⟩),.pointer (some ⟨np.b,0,none⟩),.string s]] w4 λe w'=>e=.returned (.tuple #[.int .i64 (A2 r.nms i s),.bool (decide (A2 r.nms i s≠0))])/\Below w4.heap.size w4 w' from λw4 hb=>by have hr4:=hrp2.below (.inr (.inl hkp)) hb;have:=Be hr4 hkp (hr4.lt (.inr (.inl hkp))) s (some ⟨np.blk,0,none⟩);rw[hpi,hW.entry_some] at this;exact this)
 have HAt2:=aa (show ∀w4,Below w2.heap.size w2 w4->Calls Tryz.prog 59 #[.agg #[.pointer (some ⟨np.blk,0,none⟩),.pointer (some ⟨np.b,0,none⟩),.string s2]] w4 λe w'=>e=.returned (.tuple #[.int .i64 (A2 r.nms i s2),.bool (decide (A2 r.nms i s2≠0))])/\Below w4.heap.size w4 w' from λw4 hb=>by have hr4:=hrq2.below (.inr (.inl hkq)) hb;have:=Be hr4 hkq (hr4.lt (.inr (.inl hkq))) s2 (some ⟨np.blk,0,none⟩);rw[hqi,hW.entry_some] at this;exact this)
 have hx0:x.id≠0:=hW.ne0 hx;rw[hxi,decide_eq_true hx0] at HAt;have hrx2:=hrx.below (hW.kind x hx) hB;have HX:=aa (show ∀w',Below w2.heap.size w2 w'->w'.cell? ⟨f,1,none⟩=some (.map (some mi))/\w'.cell? ⟨nx.blk,5,none⟩=some (Ae x nx)/\(Instr.lookup 144 (.map (some mi)) (.int .i64 x.id) false).run Tryz.prog w'=.ok (.pointer (some ⟨nx.blk,0,none⟩)) w'/\w'.cell? ⟨np.blk,0,none⟩=some (.int .i64 i)/\w'.cell? ⟨np.blk,4,none⟩=some (.int .i64 (A5 r p:Int)) from λw' hb=>by have h4:=h2.below hW hb;have hg:=h4.get hnx;rw[hrx.id] at hg;have hlk:=(h4.look x.id).2;rw[hg] at hlk;have hq4:=(hrq2.below (.inr (.inl hkq)) hb).cells;exact⟨h4.cells.2.1,(hrx2.below (hW.kind x hx) hb).cells.2.2.2.2.2,hlk,by rw[<-hqi];exact hq4.1,hq4.2.2.2.2.1⟩)
 have hta:∀w,(Instr.typeAssert (Ae x nx) 20 135 true).run Tryz.prog w=.ok (.tuple #[.pointer none,.bool false]) w:=λw=>by rw[Cp,dq hkx]
 have hh0:A2 r.nms i s≠0:=by rw[hxi];exact hW.ne0 hx
 obtain⟨n0,hn0,m1,m2,m3⟩:=B5 hh0;rw[hxi] at m3;rw[<-hpi] at m1;have hxp:x.id≠p.id:=by rw[<-m3,<-m1];exact hW.self_ne hn0
 have HH:=aa h;have HWf:=aa hW;have HR:=aa (And.intro hrx (And.intro hrp hrq));have HM:=aa (And.intro hx (And.intro hp hq));have HN:=aa (And.intro hnx (And.intro hnp hnq));have H0:=aa (And.intro hn0 (And.intro m1 (And.intro m2 m3)));have HK:=aa (And.intro hkp hkq);have HI:=aa (And.intro hpi hqi);have HXP:=aa hxp;have HNo:=aa (Dw hW (l:=r.nms) (λ_ hn=>hn) ho);have HN6:=aa (show ∀w',Below w2.heap.size w2 w'->FsN w' f mi mg r N/\NodeR w' r p np/\NodeR w' r p np/\NodeR w' r x nx from λw' hb=>⟨h2.below hW hb,hrp2.below (.inr (.inl hkp)) hb,hrq2.below (.inr (.inl hkq)) hb,hrx2.below (hW.kind x hx) hb⟩);rw[ho] at HAt2;simp only[ne_eq,not_true_eq_false,decide_false] at HAt2;have HKX:=aa hkx;have HXQ:=aa hxq;have HAg:=aa (show(Az (Hy (Aa r.nms p.id) s) s2).isSome=false from by
  have h0:(Az (Aa r.nms p.id) s2).isSome=false:=by rw[hW.entry_some,hqi,ho];rfl
  have h1:Az (Aa r.nms p.id) s2=none:=by cases hh:Az (Aa r.nms p.id) s2 with
   | none=>rfl
   | some v=>rw[hh] at h0;cases h0
  rw[Cx] at h1;have h2:Az (Hy (Aa r.nms p.id) s) s2=none:=by rw[Cx];intro z hz;exact h1 z (af.1 hz).1
  rw[h2];rfl)
 clear hw2 hB hb0 hb1 h h2 hW hrp2 hrq2 hpl hp hkp hnp hrp hq hkq hnq hrq hpi hqi hl hl2 hk hk2 hv hv2 hx hnx hrx hxi hx0 hrx2 ho hkx hxq hh0 hn0 m1 m2 m3 hxp
 go_enter Tryz.func73,Tryz.ntmps73
 go_wp2_with fail
 rw[HW2.out]
 go_upto_region 4 with(go_at_call 99;(with_reducible refine HP.out.mono ?_);rintro e w3 ⟨rfl,hB3⟩;have hs3:=hB3.size;replace hB3:=aa hB3)
 obtain⟨w4,hw4,hB4,hs4,hb40,hb41⟩:=Gm w3 #[.pointer (some ⟨np.blk,0,none⟩),.pointer (some ⟨np.b,0,none⟩),.string s] #[.pointer (some ⟨np.blk,0,none⟩),.pointer (some ⟨np.b,0,none⟩),.string s2] 137 137;rw[hw4];have c0:w4.cell? ⟨w3.heap.size,0,none⟩=some (.pointer (some ⟨np.blk,0,none⟩)):=by rw[A1 hb40];rfl
 have c1:w4.cell? ⟨w3.heap.size,1,none⟩=some (.pointer (some ⟨np.b,0,none⟩)):=by rw[A1 hb40];rfl
 have c2:w4.cell? ⟨w3.heap.size,2,none⟩=some (.string s):=by rw[A1 hb40];rfl
 have HQ1:=aa hb40;have HQ2:=aa hb41;have HB4:=aa (hB3.out.trans (hB4.mono (by omega)));clear hw4 hb40 hb41 hB4
 go_upto_region 22 with(first
  | (go_at_call 59;(with_reducible refine(HAt.out w4 HB4.out).mono ?_);rintro e w5 ⟨rfl,hB5⟩;have hs5:=hB5.size;have hY:=(hB5.block _ (by omega)).trans HQ2.out;have d0:w5.cell? ⟨w3.heap.size+1,0,none⟩=_:=A1 hY 0;have d1:w5.cell? ⟨w3.heap.size+1,1,none⟩=_:=A1 hY 1;have d2:w5.cell? ⟨w3.heap.size+1,2,none⟩=_:=A1 hY 2;have HQ25:=aa hY;have HQ15:=aa ((hB5.block _ (by omega)).trans HQ1.out);clear hY;have HB5:=aa (HB4.out.trans (hB5.mono HB4.out.size));obtain⟨x1,x2,x3,-,-⟩:=HX.out w5 HB5.out;clear hB5)
  | (go_at_call 59;(with_reducible refine(HAt2.out w5 HB5.out).mono ?_);rintro e w6 ⟨rfl,hB6⟩;have hs6:=hB6.size;have HQ26:=aa ((hB6.block _ (by omega)).trans HQ25.out);have HQ16:=aa ((hB6.block _ (by omega)).trans HQ15.out);have e0:w6.cell? ⟨w3.heap.size,0,none⟩=_:=A1 HQ16.out 0;have g0:w6.cell? ⟨w3.heap.size+1,0,none⟩=_:=A1 HQ26.out 0;have HB6:=aa (HB5.out.trans (hB6.mono HB5.out.size));obtain⟨y1,y2,y3,y4,y5⟩:=HX.out w6 HB6.out;clear hB6))
 obtain⟨F6,P6,Q6,X6⟩:=HN6.out w6 HB6.out;have a1:w6.cell? ⟨w3.heap.size,1,none⟩=some (.pointer (some ⟨np.b,0,none⟩)):=by rw[A1 HQ16.out];rfl
 have a2:w6.cell? ⟨np.b,0,none⟩=some (.map (some np.m)):=by rw[A1 (P6.dir HK.out.1).1];rfl
 have hm6:MapB w6 np.m Ci Ax (Aa r.nms p.id):=(P6.dir HK.out.1).2;obtain⟨o1,hdel,hmp1⟩:=C0 (P:=Tryz.prog) (ty:=0) (tk:=9) KS (t:=150) Tryz.underlying150 hm6 s;unfold Ci at hdel;have M1:=aa hmp1;have G6:=aa F6;have P6':=aa P6;have Q6':=aa Q6;have X6':=aa X6;clear F6 P6 Q6 X6 hm6 hmp1
 go_upto_region 23 with fail
 obtain⟨w7,hw7⟩:∃w7,putObj w6 np.m o1=w7:=⟨_,rfl⟩;rw[hw7];have k7:∀k,k≠np.m->w7.heap[k]?=w6.heap[k]?:=λk hk=>by rw[<-hw7];exact A9 w6 o1 hk
 rw[hw7] at M1;have W7:=aa hw7;have K7:=aa k7;have b1:w7.cell? ⟨w3.heap.size+1,1,none⟩=some (.pointer (some ⟨np.b,0,none⟩)):=by rw[A1 ((k7 _ (A8 (P6'.out.dir HK.out.1).2 HQ26.out).symm).trans HQ26.out)];rfl
 have b2:w7.cell? ⟨np.b,0,none⟩=some (.map (some np.m)):=by rw[A1 ((k7 _ (A8 (P6'.out.dir HK.out.1).2 (Q6'.out.dir HK.out.2).1).symm).trans (Q6'.out.dir HK.out.2).1)];rfl
 have hm7:MapB w7 np.m Ci Ax (Hy (Aa r.nms p.id) s):=M1.out;have hag:(Az (Hy (Aa r.nms p.id) s) s2).isSome=false:=HAg.out;obtain⟨o2,hup,hmp2⟩:=Am KS (P:=Tryz.prog) (t:=150) Tryz.underlying150 hm7 s2 x.id;rw[C5 hag] at hmp2;unfold Ci Ax at hup;have M2:=aa hmp2;clear hm7 hag hmp2 hw7 k7 hdel a1 a2
 go_upto_region 24 with fail
 obtain⟨w8,hw8⟩:∃w8,putObj w7 np.m o2=w8:=⟨_,rfl⟩;rw[hw8];rw[hw8] at M2;have W8:=aa hw8;have K8:=aa (show ∀k,k≠np.m->w8.heap[k]?=w7.heap[k]? from λk hk=>by rw[<-hw8];exact A9 w7 o2 hk);clear hw8 hup b1 b2
 go_wp2
 go_ret
 refine⟨rfl,?_⟩;obtain⟨ei,-⟩:=HI.out;subst ei;obtain⟨hx,hp,hq⟩:=HM.out;obtain⟨hnx,hnp,hnq⟩:=HN.out;obtain⟨hrx,hrp,hrq⟩:=HR.out;obtain⟨hn0,m1,m2,m3⟩:=H0.out;have B6:=HB.out.trans (HB6.out.mono (show w.heap.size<=w2.heap.size by omega));have hlk:=λy=>C4 HWf.out hx hn0 m3 p.id s2 (y:=y) (y':=y) rfl rfl;rw[m1,m2] at hlk;have hns:∀j,Aa (Ah r p.id s p.id s2 x).nms j=_:=λj=>by rw[Cl,B2,Ay]
 have pm:=(P6'.out.dir HK.out.1).2;have qm:=(Q6'.out.dir HK.out.2).2;have hl:∀y,A5 (Ah r p.id s p.id s2 x) y=A5 r y:=λy=>by have:=hlk y;rw[dq (λe=>HKX.out e.2.1)] at this;exact this
 refine⟨N,F0 HH.out HWf.out hx hnx hrx hp HK.out.1 hnp hrp hq HK.out.2 hnq hrq hn0 m1 m2 m3 HXP.out HXQ.out (λk hk a b _ _ _=>(K8.out k b).trans ((K7.out k a).trans (B6.block k hk))) ?_ ?_ ?_ ?_ (λe=>du e HKX.out),λk hk=>.inl hk,?_⟩
 .rw[hns,dt rfl,dt rfl];exact M2.out
 .rw[hns,dt rfl,dt rfl];exact M2.out
 .rw[hl];exact(K8.out _ (A8 qm P6'.out.head).symm).trans ((K7.out _ (A8 pm P6'.out.head).symm).trans P6'.out.head)
 .rw[hl];exact(K8.out _ (A8 qm Q6'.out.head).symm).trans ((K7.out _ (A8 pm Q6'.out.head).symm).trans Q6'.out.head)
 .rw[<-W8.out,<-W7.out];exact((Frm.of_below B6).putObj (.inl (Ak hnp (Nd.m_mem (hrp.ne HK.out.1).1))) o1).putObj (.inl (Ak hnq (Nd.m_mem (hrq.ne HK.out.2).1))) o2
set_option maxRecDepth 100000 in
set_option maxHeartbeats 8000000 in
theorem Sy {w:World}{f mi mg K:Nat}{r:RFs}{N:List Nd}(h:FsN w f mi mg r N)(hW:Wf r K)(i g:Int)(s:ByteArray)(hs:s.size<=maxLen)(i2 g2:Int)(s2:ByteArray)(hs2:s2.size<=maxLen)
  {p q:RIn} {np nq:Nd} (hp:p∈r.ins) (hkp:p.kind=2) (hnp:np∈N) (hrp:NodeR w r p np) (hq:q∈r.ins) (hkq:q.kind=2) (hnq:nq∈N) (hrq:NodeR w r q nq) (hpi:p.id=i) (hqi:q.id=i2)
  (hl:Aj r (i,g)=true) (hl2:Aj r (i2,g2)=true) (hk:(A3 r.ins i).kind=2) (hk2:(A3 r.ins i2).kind=2) (hv:Ad s=true) (hv2:Ad s2=true)
  {x:RIn} {nx:Nd} (hx:x∈r.ins) (hnx:nx∈N) (hrx:NodeR w r x nx) (hxi:A2 r.nms i s=x.id) (hxq:x.id≠q.id) (ho:A2 r.nms i2 s2=0) (hkx:x.kind=2) (hbl:Bf r i2 x.id=false) (hpq:np.blk≠nq.blk) (hlq:A5 r q < 20) :
  Calls Tryz.prog 73 #[.pointer (some ⟨f,0,none⟩),.agg #[.int .i64 i,.int .i64 g],.string s,.agg #[.int .i64 i2,.int .i64 g2],.string s2] w λe w'=>e=.returned (.int .i64 0)/\Cs w w' f mi mg N (Ah r i s i2 s2 x):=by
 obtain⟨w2,hw2,hB,hz2,hb0,hb1⟩:=Gm w #[.int .i64 i,.int .i64 g] #[.int .i64 i2,.int .i64 g2] 31 31;have t0:w2.cell? ⟨w.heap.size,0,none⟩=some (.int .i64 i):=by rw[A1 hb0];rfl
 have t1:w2.cell? ⟨w.heap.size,1,none⟩=some (.int .i64 g):=by rw[A1 hb0];rfl
 have t2:w2.cell? ⟨w.heap.size+1,0,none⟩=some (.int .i64 i2):=by rw[A1 hb1];rfl
 have t3:w2.cell? ⟨w.heap.size+1,1,none⟩=some (.int .i64 g2):=by rw[A1 hb1];rfl
 have h2:=h.below hW hB;have HW2:=aa hw2;have HB:=aa hB;have hrp2:=hrp.below (.inr (.inl hkp)) hB;have hrq2:=hrq.below (.inr (.inl hkq)) hB;have hpl:=Bu h2 hW i g s hs i2 g2 s2 hs2 hl hl2 hk hk2 hv hv2 hnp hnq (hrp.id.trans hpi) (hrq.id.trans hqi);have HP:=aa hpl;have HAt:=aa (show ∀w4,Below w2.heap.size w2 w4->Calls Tryz.prog 59 #[.agg #[.pointer (some ⟨np.blk,0,none⟩),.pointer (some ⟨np.b,0,none⟩),.string s]] w4 λe w'=>e=.returned (.tuple #[.int .i64 (A2 r.nms i s),.bool (decide (A2 r.nms i s≠0))])/\Below w4.heap.size w4 w' from λw4 hb=>by have hr4:=hrp2.below (.inr (.inl hkp)) hb;have:=Be hr4 hkp (hr4.lt (.inr (.inl hkp))) s (some ⟨np.blk,0,none⟩);rw[hpi,hW.entry_some] at this;exact this)
 have HAt2:=aa (show ∀w4,Below w2.heap.size w2 w4->Calls Tryz.prog 59 #[.agg #[.pointer (some ⟨nq.blk,0,none⟩),.pointer (some ⟨nq.b,0,none⟩),.string s2]] w4 λe w'=>e=.returned (.tuple #[.int .i64 (A2 r.nms i2 s2),.bool (decide (A2 r.nms i2 s2≠0))])/\Below w4.heap.size w4 w' from λw4 hb=>by have hr4:=hrq2.below (.inr (.inl hkq)) hb;have:=Be hr4 hkq (hr4.lt (.inr (.inl hkq))) s2 (some ⟨nq.blk,0,none⟩);rw[hqi,hW.entry_some] at this;exact this)
 have hx0:x.id≠0:=hW.ne0 hx;rw[hxi,decide_eq_true hx0] at HAt;have hrx2:=hrx.below (hW.kind x hx) hB;have HX:=aa (show ∀w',Below w2.heap.size w2 w'->w'.cell? ⟨f,1,none⟩=some (.map (some mi))/\w'.cell? ⟨nx.blk,5,none⟩=some (Ae x nx)/\(Instr.lookup 144 (.map (some mi)) (.int .i64 x.id) false).run Tryz.prog w'=.ok (.pointer (some ⟨nx.blk,0,none⟩)) w'/\w'.cell? ⟨nq.blk,0,none⟩=some (.int .i64 i2)/\w'.cell? ⟨nq.blk,4,none⟩=some (.int .i64 (A5 r q:Int)) from λw' hb=>by have h4:=h2.below hW hb;have hg:=h4.get hnx;rw[hrx.id] at hg;have hlk:=(h4.look x.id).2;rw[hg] at hlk;have hq4:=(hrq2.below (.inr (.inl hkq)) hb).cells;exact⟨h4.cells.2.1,(hrx2.below (hW.kind x hx) hb).cells.2.2.2.2.2,hlk,by rw[<-hqi];exact hq4.1,hq4.2.2.2.2.1⟩)
 have hta:∀w,(Instr.typeAssert (Ae x nx) 20 135 true).run Tryz.prog w=.ok (.tuple #[.pointer (some ⟨nx.b,0,none⟩),.bool true]) w:=λw=>by rw[Cp,dt hkx];rfl
 have hh0:A2 r.nms i s≠0:=by rw[hxi];exact hW.ne0 hx
 obtain⟨n0,hn0,m1,m2,m3⟩:=B5 hh0;rw[hxi] at m3;rw[<-hpi] at m1;have hxp:x.id≠p.id:=by rw[<-m3,<-m1];exact hW.self_ne hn0
 have HH:=aa h;have HWf:=aa hW;have HR:=aa (And.intro hrx (And.intro hrp hrq));have HM:=aa (And.intro hx (And.intro hp hq));have HN:=aa (And.intro hnx (And.intro hnp hnq));have H0:=aa (And.intro hn0 (And.intro m1 (And.intro m2 m3)));have HK:=aa (And.intro hkp hkq);have HI:=aa (And.intro hpi hqi);have HXP:=aa hxp;have HNo:=aa (Dw hW (l:=r.nms) (λ_ hn=>hn) ho);have HN6:=aa (show ∀w',Below w2.heap.size w2 w'->FsN w' f mi mg r N/\NodeR w' r p np/\NodeR w' r q nq/\NodeR w' r x nx from λw' hb=>⟨h2.below hW hb,hrp2.below (.inr (.inl hkp)) hb,hrq2.below (.inr (.inl hkq)) hb,hrx2.below (hW.kind x hx) hb⟩);rw[ho] at HAt2;simp only[ne_eq,not_true_eq_false,decide_false] at HAt2;have HBl:=aa (show ∀w',Below w2.heap.size w2 w'->Calls Tryz.prog 100 #[.pointer (some ⟨f,0,none⟩),.int .i64 i2,.int .i64 x.id] w' λe w''=>e=.returned (.bool false)/\w'=w'' from λw' hb=>by have:=E1 (h2.below hW hb) hW hq hkq x.id;rw[hqi,hbl] at this;exact this)
 have HKX:=aa hkx;have HXQ:=aa hxq;have HLp:=aa (show 2<=A5 r p/\A5 r p<=20 from⟨by unfold A5;rw[dt hkp];omega,hW.lim p hp⟩);have HLq:=aa (show A5 r q<=20 from hW.lim q hq);have HNq:=aa (show ∀w',Below w2.heap.size w2 w'->(binOp .neq 134 (.pointer (some ⟨np.blk,0,none⟩)) (.pointer (some ⟨nq.blk,0,none⟩))).run Tryz.prog w'=.ok (.bool true) w' from λw' hb=>by have:=Tl (hrp2.below (.inr (.inl hkp)) hb).head (hrq2.below (.inr (.inl hkq)) hb).head;rw[decide_eq_false hpq] at this;exact this)
 have HAg:=aa (show(Az (Aa r.nms q.id) s2).isSome=false by rw[hW.entry_some,hqi,ho];rfl);have hmm:nq.m≠np.m:=λe=>hpq (by
  by_cases c:nq=np
  .rw[c]
  .exact du (e ▸ Nd.m_mem (hrp.ne hkp).1) (h.apart hnq hnp c _ (Nd.m_mem (hrq.ne hkq).1)))
 have HMm:=aa hmm;have HPB:=aa hpq;have HPQ:=aa (show p.id≠q.id from λe=>hpq (by rw[Bc h.idU hnp hnq (hrp.id.trans (e.trans hrq.id.symm))]));clear hw2 hB hb0 hb1 h h2 hW hrp2 hrq2 hpl hp hkp hnp hrp hq hkq hnq hrq hpi hqi hl hl2 hk hk2 hv hv2 hx hnx hrx hxi hx0 hrx2 ho hkx hpq hmm hxq hbl hh0 hn0 m1 m2 m3 hxp
 go_enter Tryz.func73,Tryz.ntmps73
 go_wp2_with fail
 rw[HW2.out]
 go_upto_region 4 with(go_at_call 99;(with_reducible refine HP.out.mono ?_);rintro e w3 ⟨rfl,hB3⟩;have hs3:=hB3.size;replace hB3:=aa hB3)
 obtain⟨w4,hw4,hB4,hs4,hb40,hb41⟩:=Gm w3 #[.pointer (some ⟨np.blk,0,none⟩),.pointer (some ⟨np.b,0,none⟩),.string s] #[.pointer (some ⟨nq.blk,0,none⟩),.pointer (some ⟨nq.b,0,none⟩),.string s2] 137 137;rw[hw4];have c0:w4.cell? ⟨w3.heap.size,0,none⟩=some (.pointer (some ⟨np.blk,0,none⟩)):=by rw[A1 hb40];rfl
 have c1:w4.cell? ⟨w3.heap.size,1,none⟩=some (.pointer (some ⟨np.b,0,none⟩)):=by rw[A1 hb40];rfl
 have c2:w4.cell? ⟨w3.heap.size,2,none⟩=some (.string s):=by rw[A1 hb40];rfl
 have HQ1:=aa hb40;have HQ2:=aa hb41;have HB4:=aa (hB3.out.trans (hB4.mono (by omega)));clear hw4 hb40 hb41 hB4
 go_upto_region 22 with(first
  | (go_at_call 59;(with_reducible refine(HAt.out w4 HB4.out).mono ?_);rintro e w5 ⟨rfl,hB5⟩;have hs5:=hB5.size;have hY:=(hB5.block _ (by omega)).trans HQ2.out;have d0:w5.cell? ⟨w3.heap.size+1,0,none⟩=_:=A1 hY 0;have d1:w5.cell? ⟨w3.heap.size+1,1,none⟩=_:=A1 hY 1;have d2:w5.cell? ⟨w3.heap.size+1,2,none⟩=_:=A1 hY 2;have HQ25:=aa hY;have HQ15:=aa ((hB5.block _ (by omega)).trans HQ1.out);clear hY;have HB5:=aa (HB4.out.trans (hB5.mono HB4.out.size));obtain⟨x1,x2,x3,-,-⟩:=HX.out w5 HB5.out;clear hB5)
  | (go_at_call 59;(with_reducible refine(HAt2.out w5 HB5.out).mono ?_);rintro e w6 ⟨rfl,hB6⟩;have hs6:=hB6.size;have HQ26:=aa ((hB6.block _ (by omega)).trans HQ25.out);have HQ16:=aa ((hB6.block _ (by omega)).trans HQ15.out);have e0:w6.cell? ⟨w3.heap.size,0,none⟩=_:=A1 HQ16.out 0;have g0:w6.cell? ⟨w3.heap.size+1,0,none⟩=_:=A1 HQ26.out 0;have HB6:=aa (HB5.out.trans (hB6.mono HB5.out.size));obtain⟨y1,y2,y3,y4,y5⟩:=HX.out w6 HB6.out;clear hB6;have y6:=HNq.out w6 HB6.out)
  | (go_at_call 100;(with_reducible refine(HBl.out w6 HB6.out).mono ?_);rintro e w7 ⟨rfl,rfl⟩))
 obtain⟨F6,P6,Q6,X6⟩:=HN6.out w6 HB6.out;have a1:w6.cell? ⟨w3.heap.size,1,none⟩=some (.pointer (some ⟨np.b,0,none⟩)):=by rw[A1 HQ16.out];rfl
 have a2:w6.cell? ⟨np.b,0,none⟩=some (.map (some np.m)):=by rw[A1 (P6.dir HK.out.1).1];rfl
 have hm6:MapB w6 np.m Ci Ax (Aa r.nms p.id):=(P6.dir HK.out.1).2;obtain⟨o1,hdel,hmp1⟩:=C0 (P:=Tryz.prog) (ty:=0) (tk:=9) KS (t:=150) Tryz.underlying150 hm6 s;unfold Ci at hdel;have M1:=aa hmp1;have G6:=aa F6;have P6':=aa P6;have Q6':=aa Q6;have X6':=aa X6;clear F6 P6 Q6 X6 hm6 hmp1
 go_upto_region 23 with fail
 obtain⟨w7,hw7⟩:∃w7,putObj w6 np.m o1=w7:=⟨_,rfl⟩;rw[hw7];have k7:∀k,k≠np.m->w7.heap[k]?=w6.heap[k]?:=λk hk=>by rw[<-hw7];exact A9 w6 o1 hk
 rw[hw7] at M1;have W7:=aa hw7;have K7:=aa k7;have b1:w7.cell? ⟨w3.heap.size+1,1,none⟩=some (.pointer (some ⟨nq.b,0,none⟩)):=by rw[A1 ((k7 _ (A8 (P6'.out.dir HK.out.1).2 HQ26.out).symm).trans HQ26.out)];rfl
 have b2:w7.cell? ⟨nq.b,0,none⟩=some (.map (some nq.m)):=by rw[A1 ((k7 _ (A8 (P6'.out.dir HK.out.1).2 (Q6'.out.dir HK.out.2).1).symm).trans (Q6'.out.dir HK.out.2).1)];rfl
 have hm7:MapB w7 nq.m Ci Ax (Aa r.nms q.id):=(Q6'.out.dir HK.out.2).2.of_block (k7 _ HMm.out);have hag:(Az (Aa r.nms q.id) s2).isSome=false:=HAg.out;obtain⟨o2,hup,hmp2⟩:=Am KS (P:=Tryz.prog) (t:=150) Tryz.underlying150 hm7 s2 x.id;rw[C5 hag] at hmp2;unfold Ci Ax at hup;have M2:=aa hmp2;clear hm7 hag hmp2 hw7 k7 hdel a1 a2
 go_upto_region 24 with fail
 obtain⟨w8,hw8⟩:∃w8,putObj w7 nq.m o2=w8:=⟨_,rfl⟩;rw[hw8];rw[hw8] at M2;have W8:=aa hw8;have K8:=aa (show ∀k,k≠nq.m->w8.heap[k]?=w7.heap[k]? from λk hk=>by rw[<-hw8];exact A9 w7 o2 hk);clear hw8 hup b1 b2;have ne:∀k,k≠np.m->k≠nq.m->w8.heap[k]?=w6.heap[k]?:=λk a b=>(K8.out k b).trans (K7.out k a);have pm:=(P6'.out.dir HK.out.1).2;have qm:=(Q6'.out.dir HK.out.2).2;have xd:=(X6'.out.dir HKX.out).1;have P8:=(ne _ (A8 pm P6'.out.head).symm (A8 qm P6'.out.head).symm).trans P6'.out.head;have Q8:=(ne _ (A8 pm Q6'.out.head).symm (A8 qm Q6'.out.head).symm).trans Q6'.out.head;have X8:=(ne _ (A8 pm xd).symm (A8 qm xd).symm).trans xd;have R8:=(ne _ (A8 pm HQ16.out).symm (A8 qm HQ16.out).symm).trans HQ16.out;have S8:=(ne _ (A8 pm HQ26.out).symm (A8 qm HQ26.out).symm).trans HQ26.out;have f0:w8.cell? ⟨w3.heap.size,0,none⟩=some (.pointer (some ⟨np.blk,0,none⟩)):=by rw[A1 R8];rfl
 have f1:w8.cell? ⟨w3.heap.size+1,0,none⟩=some (.pointer (some ⟨nq.blk,0,none⟩)):=by rw[A1 S8];rfl
 have f2:w8.cell? ⟨nq.blk,0,none⟩=some (.int .i64 q.id):=by rw[A1 Q8];rfl
 have f3:w8.cell? ⟨np.blk,4,none⟩=some (.int .i64 (A5 r p:Int)):=by rw[A1 P8];rfl
 have f4:w8.cell? ⟨nq.blk,4,none⟩=some (.int .i64 (A5 r q:Int)):=by rw[A1 Q8];rfl
 have f5:w8.cell? ⟨nx.b,1,none⟩=some (.int .i64 x.parent):=by rw[A1 X8];rfl
 have f6:w8.frozen? ⟨np.blk,4,none⟩=false:=frozen_of_row w8 np.blk 4 _ _ P8;have f7:w8.frozen? ⟨nq.blk,4,none⟩=false:=frozen_of_row w8 nq.blk 4 _ _ Q8;have f8:w8.frozen? ⟨nx.b,1,none⟩=false:=frozen_of_row w8 nx.b 1 _ _ X8;have n1:w3.heap.size≠nx.b:=Aw R8 X8 (by decide);have n2:w3.heap.size≠np.blk:=Aw R8 P8 (by decide);have n3:w3.heap.size≠nq.blk:=Aw R8 Q8 (by decide);have n4:w3.heap.size+1≠nx.b:=Aw S8 X8 (by decide);have n5:w3.heap.size+1≠np.blk:=Aw S8 P8 (by decide);have n6:w3.heap.size+1≠nq.blk:=Aw S8 Q8 (by decide);have n7:nx.b≠np.blk:=Aw X8 P8 (by decide);have n8:nx.b≠nq.blk:=Aw X8 Q8 (by decide);have P8':=aa P8;have Q8':=aa Q8;have X8':=aa X8;have hlp:=HLp.out.1;have hlp2:=HLp.out.2;have hlq:=HLq.out;clear P8 Q8 X8 R8 S8 ne pm qm xd;have n9:np.blk≠nq.blk:=HPB.out;obtain⟨lp,elp⟩:∃lp,A5 r p=lp:=⟨_,rfl⟩;obtain⟨lq,elq⟩:∃lq,A5 r q=lq:=⟨_,rfl⟩;rw[elp] at f3 P8' hlp hlp2;rw[elq] at f4 Q8' hlq;have ELP:=aa elp;have ELQ:=aa elq;clear elp elq
 go_wp2
 go_ret
 refine⟨rfl,?_⟩;obtain⟨ei,eq⟩:=HI.out;subst ei eq;obtain⟨hx,hp,hq⟩:=HM.out;obtain⟨hnx,hnp,hnq⟩:=HN.out;obtain⟨hrx,hrp,hrq⟩:=HR.out;obtain⟨hn0,m1,m2,m3⟩:=H0.out;have B6:=HB.out.trans (HB6.out.mono (show w.heap.size<=w2.heap.size by omega));have hlk:=λy=>C4 HWf.out hx hn0 m3 q.id s2 (y:=y) (y':=y) rfl rfl;rw[m1,m2] at hlk;have hns:∀j,Aa (Ah r p.id s q.id s2 x).nms j=_:=λj=>by rw[Cl,B2,Ay]
 have pm:=(P6'.out.dir HK.out.1).2;have qm:=(Q6'.out.dir HK.out.2).2;have xd:=(X6'.out.dir HKX.out).1;have c1:((lp:Int) - 1)=((lp - 1:Nat):Int):=by omega
 have c2:((lq:Int)+1)=((lq+1:Nat):Int):=by omega
 rw[c1,c2];have lP:A5 (Ah r p.id s q.id s2 x) p=lp - 1:=by have:=hlk p;rw[dt ⟨HK.out.1,HKX.out,rfl⟩,dq (λe=>HPQ.out e.2.2.symm),ELP.out] at this;omega
 have lQ:A5 (Ah r p.id s q.id s2 x) q=lq+1:=by have:=hlk q;rw[dq (λe=>HPQ.out e.2.2),dt ⟨HK.out.2,HKX.out,rfl⟩,ELQ.out] at this;omega
 refine⟨N,F0 HH.out HWf.out hx hnx hrx hp HK.out.1 hnp hrp hq HK.out.2 hnq hrq hn0 m1 m2 m3 HXP.out HXQ.out (λk hk a b c d e=>(A4 _ _ _ _ _ d).trans ((A4 _ _ _ _ _ c).trans ((A4 _ _ _ _ _ (e HKX.out)).trans ((K8.out k b).trans ((K7.out k a).trans (B6.block k hk)))))) ?_ ?_ ?_ ?_ (λ_=>?_),λk hk=>.inl hk,?_⟩
 .rw[hns,dq HPQ.out,dt rfl];exact M1.out.of_block ((A4 _ _ _ _ _ (A8 pm Q6'.out.head)).trans ((A4 _ _ _ _ _ (A8 pm P6'.out.head)).trans ((A4 _ _ _ _ _ (A8 pm xd)).trans (K8.out _ (λe=>HMm.out e.symm)))))
 .rw[hns,dt rfl,dq (λe=>HPQ.out e.symm)];exact M2.out.of_block ((A4 _ _ _ _ _ (A8 qm Q6'.out.head)).trans ((A4 _ _ _ _ _ (A8 qm P6'.out.head)).trans (A4 _ _ _ _ _ (A8 qm xd))))
 .rw[lP];exact(A4 _ _ _ _ _ n9).trans (Bo ((A4 _ _ _ _ _ n7.symm).trans P8'.out))
 .rw[lQ];exact Bo ((A4 _ _ _ _ _ n9.symm).trans ((A4 _ _ _ _ _ n8.symm).trans Q8'.out))
 .exact(A4 _ _ _ _ _ n8).trans ((A4 _ _ _ _ _ n7).trans (heap_setCell_same w8 nx.b 1 _ _ _ X8'.out))
 .rw[<-W8.out,<-W7.out];exact((((((Frm.of_below B6).putObj (.inl (Ak hnp (Nd.m_mem (hrp.ne HK.out.1).1))) o1).putObj (.inl (Ak hnq (Nd.m_mem (hrq.ne HK.out.2).1))) o2).setCell (.inl (Ak hnx (Nd.b_mem (hrx.ne HKX.out).1))) _).setCell (.inl (Ak hnp np.blk_mem)) _).setCell (.inl (Ak hnq nq.blk_mem)) _)
set_option maxRecDepth 100000 in
set_option maxHeartbeats 8000000 in
theorem Sz {w:World}{f mi mg K:Nat}{r:RFs}{N:List Nd}(h:FsN w f mi mg r N)(hW:Wf r K)(i g:Int)(s:ByteArray)(hs:s.size<=maxLen)(i2 g2:Int)(s2:ByteArray)(hs2:s2.size<=maxLen)
  {p q:RIn} {np nq:Nd} (hp:p∈r.ins) (hkp:p.kind=2) (hnp:np∈N) (hrp:NodeR w r p np) (hq:q∈r.ins) (hkq:q.kind=2) (hnq:nq∈N) (hrq:NodeR w r q nq) (hpi:p.id=i) (hqi:q.id=i2)
  (hl:Aj r (i,g)=true) (hl2:Aj r (i2,g2)=true) (hk:(A3 r.ins i).kind=2) (hk2:(A3 r.ins i2).kind=2) (hv:Ad s=true) (hv2:Ad s2=true)
  {x:RIn} {nx:Nd} (hx:x∈r.ins) (hnx:nx∈N) (hrx:NodeR w r x nx) (hxi:A2 r.nms i s=x.id) (hxq:x.id≠q.id) (ho:A2 r.nms i2 s2=0) (hkx:x.kind=2) (hbl:Bf r i2 x.id=false) (hpq:np=nq) :
  Calls Tryz.prog 73 #[.pointer (some ⟨f,0,none⟩),.agg #[.int .i64 i,.int .i64 g],.string s,.agg #[.int .i64 i2,.int .i64 g2],.string s2] w λe w'=>e=.returned (.int .i64 0)/\Cs w w' f mi mg N (Ah r i s i2 s2 x):=by
 subst hpq;obtain rfl:=h.uniq hW hp hrp hq hrq;obtain rfl:i=i2:=hpi.symm.trans hqi;obtain⟨w2,hw2,hB,hz2,hb0,hb1⟩:=Gm w #[.int .i64 i,.int .i64 g] #[.int .i64 i,.int .i64 g2] 31 31;have t0:w2.cell? ⟨w.heap.size,0,none⟩=some (.int .i64 i):=by rw[A1 hb0];rfl
 have t1:w2.cell? ⟨w.heap.size,1,none⟩=some (.int .i64 g):=by rw[A1 hb0];rfl
 have t2:w2.cell? ⟨w.heap.size+1,0,none⟩=some (.int .i64 i):=by rw[A1 hb1];rfl
 have t3:w2.cell? ⟨w.heap.size+1,1,none⟩=some (.int .i64 g2):=by rw[A1 hb1];rfl
 have h2:=h.below hW hB;have HW2:=aa hw2;have HB:=aa hB;have hrp2:=hrp.below (.inr (.inl hkp)) hB;have hrq2:=hrq.below (.inr (.inl hkq)) hB;have hpl:=Bu h2 hW i g s hs i g2 s2 hs2 hl hl2 hk hk2 hv hv2 hnp hnq (hrp.id.trans hpi) (hrq.id.trans hqi);have HP:=aa hpl;have HAt:=aa (show ∀w4,Below w2.heap.size w2 w4->Calls Tryz.prog 59 #[.agg #[.pointer (some ⟨np.blk,0,none⟩),.pointer (some ⟨np.b,0,none⟩),.string s]] w4 λe w'=>e=.returned (.tuple #[.int .i64 (A2 r.nms i s),.bool (decide (A2 r.nms i s≠0))])/\Below w4.heap.size w4 w' from λw4 hb=>by have hr4:=hrp2.below (.inr (.inl hkp)) hb;have:=Be hr4 hkp (hr4.lt (.inr (.inl hkp))) s (some ⟨np.blk,0,none⟩);rw[hpi,hW.entry_some] at this;exact this)
 have HAt2:=aa (show ∀w4,Below w2.heap.size w2 w4->Calls Tryz.prog 59 #[.agg #[.pointer (some ⟨np.blk,0,none⟩),.pointer (some ⟨np.b,0,none⟩),.string s2]] w4 λe w'=>e=.returned (.tuple #[.int .i64 (A2 r.nms i s2),.bool (decide (A2 r.nms i s2≠0))])/\Below w4.heap.size w4 w' from λw4 hb=>by have hr4:=hrq2.below (.inr (.inl hkq)) hb;have:=Be hr4 hkq (hr4.lt (.inr (.inl hkq))) s2 (some ⟨np.blk,0,none⟩);rw[hqi,hW.entry_some] at this;exact this)
 have hx0:x.id≠0:=hW.ne0 hx;rw[hxi,decide_eq_true hx0] at HAt;have hrx2:=hrx.below (hW.kind x hx) hB;have HX:=aa (show ∀w',Below w2.heap.size w2 w'->w'.cell? ⟨f,1,none⟩=some (.map (some mi))/\w'.cell? ⟨nx.blk,5,none⟩=some (Ae x nx)/\(Instr.lookup 144 (.map (some mi)) (.int .i64 x.id) false).run Tryz.prog w'=.ok (.pointer (some ⟨nx.blk,0,none⟩)) w'/\w'.cell? ⟨np.blk,0,none⟩=some (.int .i64 i)/\w'.cell? ⟨np.blk,4,none⟩=some (.int .i64 (A5 r p:Int)) from λw' hb=>by have h4:=h2.below hW hb;have hg:=h4.get hnx;rw[hrx.id] at hg;have hlk:=(h4.look x.id).2;rw[hg] at hlk;have hq4:=(hrq2.below (.inr (.inl hkq)) hb).cells;exact⟨h4.cells.2.1,(hrx2.below (hW.kind x hx) hb).cells.2.2.2.2.2,hlk,by rw[<-hqi];exact hq4.1,hq4.2.2.2.2.1⟩)
 have hta:∀w,(Instr.typeAssert (Ae x nx) 20 135 true).run Tryz.prog w=.ok (.tuple #[.pointer (some ⟨nx.b,0,none⟩),.bool true]) w:=λw=>by rw[Cp,dt hkx];rfl
 have hh0:A2 r.nms i s≠0:=by rw[hxi];exact hW.ne0 hx
 obtain⟨n0,hn0,m1,m2,m3⟩:=B5 hh0;rw[hxi] at m3;rw[<-hpi] at m1;have hxp:x.id≠p.id:=by rw[<-m3,<-m1];exact hW.self_ne hn0
 have HH:=aa h;have HWf:=aa hW;have HR:=aa (And.intro hrx (And.intro hrp hrq));have HM:=aa (And.intro hx (And.intro hp hq));have HN:=aa (And.intro hnx (And.intro hnp hnq));have H0:=aa (And.intro hn0 (And.intro m1 (And.intro m2 m3)));have HK:=aa (And.intro hkp hkq);have HI:=aa (And.intro hpi hqi);have HXP:=aa hxp;have HNo:=aa (Dw hW (l:=r.nms) (λ_ hn=>hn) ho);have HN6:=aa (show ∀w',Below w2.heap.size w2 w'->FsN w' f mi mg r N/\NodeR w' r p np/\NodeR w' r p np/\NodeR w' r x nx from λw' hb=>⟨h2.below hW hb,hrp2.below (.inr (.inl hkp)) hb,hrq2.below (.inr (.inl hkq)) hb,hrx2.below (hW.kind x hx) hb⟩);rw[ho] at HAt2;simp only[ne_eq,not_true_eq_false,decide_false] at HAt2;have HBl:=aa (show ∀w',Below w2.heap.size w2 w'->Calls Tryz.prog 100 #[.pointer (some ⟨f,0,none⟩),.int .i64 i,.int .i64 x.id] w' λe w''=>e=.returned (.bool false)/\w'=w'' from λw' hb=>by have:=E1 (h2.below hW hb) hW hq hkq x.id;rw[hqi,hbl] at this;exact this)
 have HKX:=aa hkx;have HXQ:=aa hxq;have HLp:=aa (show 2<=A5 r p/\A5 r p<=20 from⟨by unfold A5;rw[dt hkp];omega,hW.lim p hp⟩);have HLq:=aa (show A5 r p<=20 from hW.lim p hq);have HNq:=aa (show ∀w',Below w2.heap.size w2 w'->(binOp .neq 134 (.pointer (some ⟨np.blk,0,none⟩)) (.pointer (some ⟨np.blk,0,none⟩))).run Tryz.prog w'=.ok (.bool false) w' from λw' hb=>by have:=Tl (hrp2.below (.inr (.inl hkp)) hb).head (hrq2.below (.inr (.inl hkq)) hb).head;rw[show(!decide (np.blk=np.blk))=false by simp] at this;exact this)
 have HAg:=aa (show(Az (Hy (Aa r.nms p.id) s) s2).isSome=false from by
  have h0:(Az (Aa r.nms p.id) s2).isSome=false:=by rw[hW.entry_some,hqi,ho];rfl
  have h1:Az (Aa r.nms p.id) s2=none:=by cases hh:Az (Aa r.nms p.id) s2 with
   | none=>rfl
   | some v=>rw[hh] at h0;cases h0
  rw[Cx] at h1;have h2:Az (Hy (Aa r.nms p.id) s) s2=none:=by rw[Cx];intro z hz;exact h1 z (af.1 hz).1
  rw[h2];rfl)
 clear hw2 hB hb0 hb1 h h2 hW hrp2 hrq2 hpl hp hkp hnp hrp hq hkq hnq hrq hpi hqi hl hl2 hk hk2 hv hv2 hx hnx hrx hxi hx0 hrx2 ho hkx hxq hbl hh0 hn0 m1 m2 m3 hxp
 go_enter Tryz.func73,Tryz.ntmps73
 go_wp2_with fail
 rw[HW2.out]
 go_upto_region 4 with(go_at_call 99;(with_reducible refine HP.out.mono ?_);rintro e w3 ⟨rfl,hB3⟩;have hs3:=hB3.size;replace hB3:=aa hB3)
 obtain⟨w4,hw4,hB4,hs4,hb40,hb41⟩:=Gm w3 #[.pointer (some ⟨np.blk,0,none⟩),.pointer (some ⟨np.b,0,none⟩),.string s] #[.pointer (some ⟨np.blk,0,none⟩),.pointer (some ⟨np.b,0,none⟩),.string s2] 137 137;rw[hw4];have c0:w4.cell? ⟨w3.heap.size,0,none⟩=some (.pointer (some ⟨np.blk,0,none⟩)):=by rw[A1 hb40];rfl
 have c1:w4.cell? ⟨w3.heap.size,1,none⟩=some (.pointer (some ⟨np.b,0,none⟩)):=by rw[A1 hb40];rfl
 have c2:w4.cell? ⟨w3.heap.size,2,none⟩=some (.string s):=by rw[A1 hb40];rfl
 have HQ1:=aa hb40;have HQ2:=aa hb41;have HB4:=aa (hB3.out.trans (hB4.mono (by omega)));clear hw4 hb40 hb41 hB4
 go_upto_region 22 with(first
  | (go_at_call 59;(with_reducible refine(HAt.out w4 HB4.out).mono ?_);rintro e w5 ⟨rfl,hB5⟩;have hs5:=hB5.size;have hY:=(hB5.block _ (by omega)).trans HQ2.out;have d0:w5.cell? ⟨w3.heap.size+1,0,none⟩=_:=A1 hY 0;have d1:w5.cell? ⟨w3.heap.size+1,1,none⟩=_:=A1 hY 1;have d2:w5.cell? ⟨w3.heap.size+1,2,none⟩=_:=A1 hY 2;have HQ25:=aa hY;have HQ15:=aa ((hB5.block _ (by omega)).trans HQ1.out);clear hY;have HB5:=aa (HB4.out.trans (hB5.mono HB4.out.size));obtain⟨x1,x2,x3,-,-⟩:=HX.out w5 HB5.out;clear hB5)
  | (go_at_call 59;(with_reducible refine(HAt2.out w5 HB5.out).mono ?_);rintro e w6 ⟨rfl,hB6⟩;have hs6:=hB6.size;have HQ26:=aa ((hB6.block _ (by omega)).trans HQ25.out);have HQ16:=aa ((hB6.block _ (by omega)).trans HQ15.out);have e0:w6.cell? ⟨w3.heap.size,0,none⟩=_:=A1 HQ16.out 0;have g0:w6.cell? ⟨w3.heap.size+1,0,none⟩=_:=A1 HQ26.out 0;have HB6:=aa (HB5.out.trans (hB6.mono HB5.out.size));obtain⟨y1,y2,y3,y4,y5⟩:=HX.out w6 HB6.out;clear hB6;have y6:=HNq.out w6 HB6.out)
  | (go_at_call 100;(with_reducible refine(HBl.out w6 HB6.out).mono ?_);rintro e w7 ⟨rfl,rfl⟩))
 obtain⟨F6,P6,Q6,X6⟩:=HN6.out w6 HB6.out;have a1:w6.cell? ⟨w3.heap.size,1,none⟩=some (.pointer (some ⟨np.b,0,none⟩)):=by rw[A1 HQ16.out];rfl
 have a2:w6.cell? ⟨np.b,0,none⟩=some (.map (some np.m)):=by rw[A1 (P6.dir HK.out.1).1];rfl
 have hm6:MapB w6 np.m Ci Ax (Aa r.nms p.id):=(P6.dir HK.out.1).2;obtain⟨o1,hdel,hmp1⟩:=C0 (P:=Tryz.prog) (ty:=0) (tk:=9) KS (t:=150) Tryz.underlying150 hm6 s;unfold Ci at hdel;have M1:=aa hmp1;have G6:=aa F6;have P6':=aa P6;have Q6':=aa Q6;have X6':=aa X6;clear F6 P6 Q6 X6 hm6 hmp1
 go_upto_region 23 with fail
 obtain⟨w7,hw7⟩:∃w7,putObj w6 np.m o1=w7:=⟨_,rfl⟩;rw[hw7];have k7:∀k,k≠np.m->w7.heap[k]?=w6.heap[k]?:=λk hk=>by rw[<-hw7];exact A9 w6 o1 hk
 rw[hw7] at M1;have W7:=aa hw7;have K7:=aa k7;have b1:w7.cell? ⟨w3.heap.size+1,1,none⟩=some (.pointer (some ⟨np.b,0,none⟩)):=by rw[A1 ((k7 _ (A8 (P6'.out.dir HK.out.1).2 HQ26.out).symm).trans HQ26.out)];rfl
 have b2:w7.cell? ⟨np.b,0,none⟩=some (.map (some np.m)):=by rw[A1 ((k7 _ (A8 (P6'.out.dir HK.out.1).2 (Q6'.out.dir HK.out.2).1).symm).trans (Q6'.out.dir HK.out.2).1)];rfl
 have hm7:MapB w7 np.m Ci Ax (Hy (Aa r.nms p.id) s):=M1.out;have hag:(Az (Hy (Aa r.nms p.id) s) s2).isSome=false:=HAg.out;obtain⟨o2,hup,hmp2⟩:=Am KS (P:=Tryz.prog) (t:=150) Tryz.underlying150 hm7 s2 x.id;rw[C5 hag] at hmp2;unfold Ci Ax at hup;have M2:=aa hmp2;clear hm7 hag hmp2 hw7 k7 hdel a1 a2
 go_upto_region 24 with fail
 obtain⟨w8,hw8⟩:∃w8,putObj w7 np.m o2=w8:=⟨_,rfl⟩;rw[hw8];rw[hw8] at M2;have W8:=aa hw8;have K8:=aa (show ∀k,k≠np.m->w8.heap[k]?=w7.heap[k]? from λk hk=>by rw[<-hw8];exact A9 w7 o2 hk);clear hw8 hup b1 b2;have ne:∀k,k≠np.m->k≠np.m->w8.heap[k]?=w6.heap[k]?:=λk a b=>(K8.out k b).trans (K7.out k a);have pm:=(P6'.out.dir HK.out.1).2;have qm:=(Q6'.out.dir HK.out.2).2;have xd:=(X6'.out.dir HKX.out).1;have P8:=(ne _ (A8 pm P6'.out.head).symm (A8 qm P6'.out.head).symm).trans P6'.out.head;have Q8:=(ne _ (A8 pm Q6'.out.head).symm (A8 qm Q6'.out.head).symm).trans Q6'.out.head;have X8:=(ne _ (A8 pm xd).symm (A8 qm xd).symm).trans xd;have R8:=(ne _ (A8 pm HQ16.out).symm (A8 qm HQ16.out).symm).trans HQ16.out;have S8:=(ne _ (A8 pm HQ26.out).symm (A8 qm HQ26.out).symm).trans HQ26.out;have f0:w8.cell? ⟨w3.heap.size,0,none⟩=some (.pointer (some ⟨np.blk,0,none⟩)):=by rw[A1 R8];rfl
 have f1:w8.cell? ⟨w3.heap.size+1,0,none⟩=some (.pointer (some ⟨np.blk,0,none⟩)):=by rw[A1 S8];rfl
 have f2:w8.cell? ⟨np.blk,0,none⟩=some (.int .i64 p.id):=by rw[A1 Q8];rfl
 have f3:w8.cell? ⟨np.blk,4,none⟩=some (.int .i64 (A5 r p:Int)):=by rw[A1 P8];rfl
 have f4:w8.cell? ⟨np.blk,4,none⟩=some (.int .i64 (A5 r p:Int)):=by rw[A1 Q8];rfl
 have f5:w8.cell? ⟨nx.b,1,none⟩=some (.int .i64 x.parent):=by rw[A1 X8];rfl
 have f6:w8.frozen? ⟨np.blk,4,none⟩=false:=frozen_of_row w8 np.blk 4 _ _ P8;have f7:w8.frozen? ⟨np.blk,4,none⟩=false:=frozen_of_row w8 np.blk 4 _ _ Q8;have f8:w8.frozen? ⟨nx.b,1,none⟩=false:=frozen_of_row w8 nx.b 1 _ _ X8;have n1:w3.heap.size≠nx.b:=Aw R8 X8 (by decide);have n2:w3.heap.size≠np.blk:=Aw R8 P8 (by decide);have n3:w3.heap.size≠np.blk:=Aw R8 Q8 (by decide);have n4:w3.heap.size+1≠nx.b:=Aw S8 X8 (by decide);have n5:w3.heap.size+1≠np.blk:=Aw S8 P8 (by decide);have n6:w3.heap.size+1≠np.blk:=Aw S8 Q8 (by decide);have n7:nx.b≠np.blk:=Aw X8 P8 (by decide);have n8:nx.b≠np.blk:=Aw X8 Q8 (by decide);have P8':=aa P8;have Q8':=aa Q8;have X8':=aa X8;have hlp:=HLp.out.1;have hlp2:=HLp.out.2;have hlq:=HLq.out;clear P8 Q8 X8 R8 S8 ne pm qm xd;obtain⟨lp,elp⟩:∃lp,A5 r p=lp:=⟨_,rfl⟩;obtain⟨lq,elq⟩:∃lq,A5 r p=lq:=⟨_,rfl⟩;rw[elp] at f3 P8' hlp hlp2;rw[elq] at f4 Q8' hlq;have ELP:=aa elp;have ELQ:=aa elq;clear elp elq
 go_wp2
 go_ret
 refine⟨rfl,?_⟩;obtain⟨ei,-⟩:=HI.out;subst ei;obtain⟨hx,hp,hq⟩:=HM.out;obtain⟨hnx,hnp,hnq⟩:=HN.out;obtain⟨hrx,hrp,hrq⟩:=HR.out;obtain⟨hn0,m1,m2,m3⟩:=H0.out;have B6:=HB.out.trans (HB6.out.mono (show w.heap.size<=w2.heap.size by omega));have hlk:=λy=>C4 HWf.out hx hn0 m3 p.id s2 (y:=y) (y':=y) rfl rfl;rw[m1,m2] at hlk;have hns:∀j,Aa (Ah r p.id s p.id s2 x).nms j=_:=λj=>by rw[Cl,B2,Ay]
 have pm:=(P6'.out.dir HK.out.1).2;have qm:=(Q6'.out.dir HK.out.2).2;have xd:=(X6'.out.dir HKX.out).1;have c1:((lp:Int) - 1)=((lp - 1:Nat):Int):=by omega
 have c3:((lp:Int) - 1+1)=((lp:Nat):Int):=by omega
 try rw[c3]
 rw[c1];have lP:A5 (Ah r p.id s p.id s2 x) p=lp:=by have:=hlk p;rw[dt ⟨HK.out.1,HKX.out,rfl⟩,ELP.out] at this;omega
 refine⟨N,F0 HH.out HWf.out hx hnx hrx hp HK.out.1 hnp hrp hq HK.out.2 hnq hrq hn0 m1 m2 m3 HXP.out HXQ.out (λk hk a b c d e=>(A4 _ _ _ _ _ d).trans ((A4 _ _ _ _ _ c).trans ((A4 _ _ _ _ _ (e HKX.out)).trans ((K8.out k b).trans ((K7.out k a).trans (B6.block k hk)))))) ?_ ?_ ?_ ?_ (λ_=>?_),λk hk=>.inl hk,?_⟩
 .rw[hns,dt rfl,dt rfl];exact M2.out.of_block ((A4 _ _ _ _ _ (A8 pm P6'.out.head)).trans ((A4 _ _ _ _ _ (A8 pm P6'.out.head)).trans (A4 _ _ _ _ _ (A8 pm xd))))
 .rw[hns,dt rfl,dt rfl];exact M2.out.of_block ((A4 _ _ _ _ _ (A8 pm P6'.out.head)).trans ((A4 _ _ _ _ _ (A8 pm P6'.out.head)).trans (A4 _ _ _ _ _ (A8 pm xd))))
 .rw[lP];exact Bo (Bo (lk':=lp - 1) ((A4 _ _ _ _ _ n7.symm).trans P8'.out))
 .rw[lP];exact Bo (Bo (lk':=lp - 1) ((A4 _ _ _ _ _ n7.symm).trans P8'.out))
 .exact(A4 _ _ _ _ _ n7).trans ((A4 _ _ _ _ _ n7).trans (heap_setCell_same w8 nx.b 1 _ _ _ X8'.out))
 .rw[<-W8.out,<-W7.out];exact((((((Frm.of_below B6).putObj (.inl (Ak hnp (Nd.m_mem (hrp.ne HK.out.1).1))) o1).putObj (.inl (Ak hnq (Nd.m_mem (hrq.ne HK.out.2).1))) o2).setCell (.inl (Ak hnx (Nd.b_mem (hrx.ne HKX.out).1))) _).setCell (.inl (Ak hnp np.blk_mem)) _).setCell (.inl (Ak hnq np.blk_mem)) _)
section
variable {r:RFs} {K:Nat} {x p q o:RIn} {s t:ByteArray}
theorem W1 (r:RFs)(d:Int)(s:ByteArray):(Av r d s).nms=r.nms.filter λn=>!decide (n.dir=d/\n.name=s):=by unfold Av;split<;>rfl
theorem Pv {y:RIn}(b:y∈r.ins){d:Int}(a:y.id≠A2 r.nms d t):y∈(Av r d t).ins:=by
 unfold Av;split
 .exact af.2 ⟨b,by simpa using a⟩
 .exact b
theorem Ju {fo:Bool}(h:Fp r o fo=0):(o.kind=2↔fo=true)/\(o.kind=2->E0 r.nms o.id=0):=by
 unfold Fp at h;by_cases k:o.kind=2
 .rw[dt k] at h;cases fo
  .simp at h
  .simp only[if_true] at h;refine⟨by simp[k],λ_=>?_⟩;split at h
   .cases h
   .omega
 .rw[dq k] at h;cases fo
  .exact⟨by simp[k],λe=>du e k⟩
  .simp at h
theorem J4 (c:Wf r K)(A:x∈r.ins)(n:p∈r.ins)(k:p.kind=2)(B:q∈r.ins)(v:o∈r.ins)(a:A2 r.nms q.id t=o.id)(i:o.id≠x.id)(f:o.kind=2->E0 r.nms o.id=0)
  {g:RNm} (b:g∈r.nms) (z:g.dir=p.id) (m:g.id=x.id) :
  Wf (Av r q.id t) K/\x∈(Av r q.id t).ins/\p∈(Av r q.id t).ins/\q∈(Av r q.id t).ins/\g∈(Av r q.id t).nms/\Az (Aa (Av r q.id t).nms q.id) t=none:=by
 have y:A2 r.nms q.id t≠0:=by rw[a];exact c.ne0 v
 obtain⟨C,h,a1,a2,u⟩:=B5 y;have w:=c.byId v;have l:p.id≠o.id:=λe=>by
  have:p=o:=by rw[<-c.byId n,e,w]
  subst this;have:=f k;unfold E0 at this;rw[List.countP_eq_zero] at this;have:=this g b;simp[z] at this
 have j:q.id≠o.id:=λe=>c.self_ne h (by rw[u,a,a1,e]);refine⟨Z2u c y (by rw[a,w];exact f),Pv A (by rw[a];exact λe=>i e.symm),Pv n (by rw[a];exact l),Pv B (by rw[a];exact j),?_,?_⟩
 .rw[W1,af,Bool.not_eq_true',decide_eq_false_iff_not];refine⟨b,λe=>?_⟩;have:=c.uniq_eq b h (e.1.trans a1.symm) (e.2.trans a2.symm);rw[this,u,a] at m;exact i m
 .rw[W1,Ay,dt rfl,Ir,dt rfl]
theorem Xr (f:Wf r K)(u:q∈r.ins)(a:q.kind=2)(i:o∈r.ins)(e:o.kind=2)(b:A2 r.nms q.id t=o.id):A5 (Av r q.id t) q < 20:=by
 have m:A2 r.nms q.id t≠0:=by rw[b];exact f.ne0 i
 obtain⟨v,g,a1,a2,l⟩:=B5 m;have j:=f.byId i;have k:=Dy f g q;rw[a1,a2,l,b,j,dt a,dt ⟨rfl,e⟩] at k;have w:=f.lim q u;have y:A5 (Av r q.id t) q<=A5 (A7 r q.id t) q:=by
  unfold Av;rw[b,j,dt (.inl e)];unfold A5;rw[dt a,dt a];refine Nat.add_le_add_right (List.countP_mono_left λn _ h=>?_) 2;simp only[decide_eq_true_eq] at h⊢;refine⟨h.1,?_⟩;have c:=h.2;show(A3 r.ins n.id).kind=2
  change (A3 (r.ins.filter λx=>decide (x.id≠o.id)) n.id).kind=2 at c
  rw[Gz] at c;split at c
  .exact du c (by decide)
  .exact c
 omega
end
theorem D2 {w j:World}{f g i K:Nat}{r rd:RFs}{N b:List Nd}(h:FsN w f g i r N)(k:FsN j f g i rd b)(c:Wf rd K)(a:∀n∈b,n∈N){y:RIn}{n:Nd}(u:y∈rd.ins)(v:n∈N)(l:n.id=y.id):n∈b/\NodeR j rd y n:=by obtain⟨m,e,hr⟩:=k.at_ c u;have:m=n:=Bc h.idU (a m e) v (hr.id.trans l.symm);subst this;exact⟨e,hr⟩
theorem Ur {w:World}{f b c K:Nat}{r:RFs}{N:List Nd}(h:FsN w f b c r N)(j:Wf r K):∀k∈fpL f b c N,k < w.heap.size:=by
 obtain⟨e,g,l,i⟩:=h.lt j;intro k a;unfold fpL at a;simp only[List.mem_cons,List.mem_flatMap] at a;rcases a with rfl | rfl | rfl | ⟨n,hn,a⟩
 .exact e
 .exact g
 .exact l
 .exact i n hn k a
set_option maxRecDepth 100000 in
set_option maxHeartbeats 8000000 in
theorem Uf {w:World}{f mi mg K:Nat}{r:RFs}{N:List Nd}(h:FsN w f mi mg r N)(hW:Wf r K)(i g:Int)(s:ByteArray)(hs:s.size<=maxLen)(i2 g2:Int)(s2:ByteArray)(hs2:s2.size<=maxLen)
  {p q:RIn} {np nq:Nd} (hp:p∈r.ins) (hkp:p.kind=2) (hnp:np∈N) (hrp:NodeR w r p np) (hq:q∈r.ins) (hkq:q.kind=2) (hnq:nq∈N) (hrq:NodeR w r q nq) (hpi:p.id=i) (hqi:q.id=i2)
  (hl:Aj r (i,g)=true) (hl2:Aj r (i2,g2)=true) (hk:(A3 r.ins i).kind=2) (hk2:(A3 r.ins i2).kind=2) (hv:Ad s=true) (hv2:Ad s2=true)
  {x:RIn} {nx:Nd} (hx:x∈r.ins) (hnx:nx∈N) (hrx:NodeR w r x nx) (hxi:A2 r.nms i s=x.id) (hxq:x.id≠q.id) {o:RIn} {no:Nd} (ho:o∈r.ins) (hno:no∈N) (hro:NodeR w r o no) (hoi:A2 r.nms i2 s2=o.id) (hox:o.id≠x.id) (hkx:¬x.kind=2) (hpq:np.blk≠nq.blk) (hmy:Fp r o false=0) :
  Calls Tryz.prog 73 #[.pointer (some ⟨f,0,none⟩),.agg #[.int .i64 i,.int .i64 g],.string s,.agg #[.int .i64 i2,.int .i64 g2],.string s2] w λe w'=>e=.returned (.int .i64 0)/\Cs w w' f mi mg N (Ah (Av r i2 s2) i s i2 s2 x):=by
 obtain⟨w2,hw2,hB,hz2,hb0,hb1⟩:=Gm w #[.int .i64 i,.int .i64 g] #[.int .i64 i2,.int .i64 g2] 31 31;have t0:w2.cell? ⟨w.heap.size,0,none⟩=some (.int .i64 i):=by rw[A1 hb0];rfl
 have t1:w2.cell? ⟨w.heap.size,1,none⟩=some (.int .i64 g):=by rw[A1 hb0];rfl
 have t2:w2.cell? ⟨w.heap.size+1,0,none⟩=some (.int .i64 i2):=by rw[A1 hb1];rfl
 have t3:w2.cell? ⟨w.heap.size+1,1,none⟩=some (.int .i64 g2):=by rw[A1 hb1];rfl
 have h2:=h.below hW hB;have HW2:=aa hw2;have HB:=aa hB;have hrp2:=hrp.below (.inr (.inl hkp)) hB;have hrq2:=hrq.below (.inr (.inl hkq)) hB;have hpl:=Bu h2 hW i g s hs i2 g2 s2 hs2 hl hl2 hk hk2 hv hv2 hnp hnq (hrp.id.trans hpi) (hrq.id.trans hqi);have HP:=aa hpl;have HAt:=aa (show ∀w4,Below w2.heap.size w2 w4->Calls Tryz.prog 59 #[.agg #[.pointer (some ⟨np.blk,0,none⟩),.pointer (some ⟨np.b,0,none⟩),.string s]] w4 λe w'=>e=.returned (.tuple #[.int .i64 (A2 r.nms i s),.bool (decide (A2 r.nms i s≠0))])/\Below w4.heap.size w4 w' from λw4 hb=>by have hr4:=hrp2.below (.inr (.inl hkp)) hb;have:=Be hr4 hkp (hr4.lt (.inr (.inl hkp))) s (some ⟨np.blk,0,none⟩);rw[hpi,hW.entry_some] at this;exact this)
 have HAt2:=aa (show ∀w4,Below w2.heap.size w2 w4->Calls Tryz.prog 59 #[.agg #[.pointer (some ⟨nq.blk,0,none⟩),.pointer (some ⟨nq.b,0,none⟩),.string s2]] w4 λe w'=>e=.returned (.tuple #[.int .i64 (A2 r.nms i2 s2),.bool (decide (A2 r.nms i2 s2≠0))])/\Below w4.heap.size w4 w' from λw4 hb=>by have hr4:=hrq2.below (.inr (.inl hkq)) hb;have:=Be hr4 hkq (hr4.lt (.inr (.inl hkq))) s2 (some ⟨nq.blk,0,none⟩);rw[hqi,hW.entry_some] at this;exact this)
 have hx0:x.id≠0:=hW.ne0 hx;rw[hxi,decide_eq_true hx0] at HAt;have hrx2:=hrx.below (hW.kind x hx) hB;have HX:=aa (show ∀w',Below w2.heap.size w2 w'->w'.cell? ⟨f,1,none⟩=some (.map (some mi))/\w'.cell? ⟨nx.blk,5,none⟩=some (Ae x nx)/\(Instr.lookup 144 (.map (some mi)) (.int .i64 x.id) false).run Tryz.prog w'=.ok (.pointer (some ⟨nx.blk,0,none⟩)) w'/\w'.cell? ⟨nq.blk,0,none⟩=some (.int .i64 i2)/\w'.cell? ⟨nq.blk,4,none⟩=some (.int .i64 (A5 r q:Int)) from λw' hb=>by have h4:=h2.below hW hb;have hg:=h4.get hnx;rw[hrx.id] at hg;have hlk:=(h4.look x.id).2;rw[hg] at hlk;have hq4:=(hrq2.below (.inr (.inl hkq)) hb).cells;exact⟨h4.cells.2.1,(hrx2.below (hW.kind x hx) hb).cells.2.2.2.2.2,hlk,by rw[<-hqi];exact hq4.1,hq4.2.2.2.2.1⟩)
 have hta:∀w,(Instr.typeAssert (Ae x nx) 20 135 true).run Tryz.prog w=.ok (.tuple #[.pointer none,.bool false]) w:=λw=>by rw[Cp,dq hkx]
 have hh0:A2 r.nms i s≠0:=by rw[hxi];exact hW.ne0 hx
 obtain⟨n0,hn0,m1,m2,m3⟩:=B5 hh0;rw[hxi] at m3;rw[<-hpi] at m1;have hxp:x.id≠p.id:=by rw[<-m3,<-m1];exact hW.self_ne hn0
 have HH:=aa h;have HWf:=aa hW;have HR:=aa (And.intro hrx (And.intro hrp hrq));have HM:=aa (And.intro hx (And.intro hp hq));have HN:=aa (And.intro hnx (And.intro hnp hnq));have H0:=aa (And.intro hn0 (And.intro m1 (And.intro m2 m3)));have HK:=aa (And.intro hkp hkq);have HI:=aa (And.intro hpi hqi);have HXP:=aa hxp;have HN6:=aa (show ∀w',Below w2.heap.size w2 w'->FsN w' f mi mg r N/\NodeR w' r p np/\NodeR w' r q nq/\NodeR w' r x nx from λw' hb=>⟨h2.below hW hb,hrp2.below (.inr (.inl hkp)) hb,hrq2.below (.inr (.inl hkq)) hb,hrx2.below (hW.kind x hx) hb⟩);have ho0:o.id≠0:=hW.ne0 ho;rw[hoi,decide_eq_true ho0] at HAt2;have hbq:(o.id==x.id)=false:=by rw[beq_eq_false_iff_ne];exact hox
 have hro2:=hro.below (hW.kind o ho) hB;have HO:=aa (show ∀w',Below w2.heap.size w2 w'->(Instr.lookup 144 (.map (some mi)) (.int .i64 o.id) false).run Tryz.prog w'=.ok (.pointer (some ⟨no.blk,0,none⟩)) w' from λw' hb=>by have h4:=h2.below hW hb;have hg:=h4.get hno;rw[hro.id] at hg;have hlk:=(h4.look o.id).2;rw[hg] at hlk;exact hlk)
 have HMy:=aa (show ∀w',Below w2.heap.size w2 w'->Calls Tryz.prog 97 #[.pointer (some ⟨f,0,none⟩),.pointer (some ⟨no.blk,0,none⟩),.bool false] w' λe w''=>e=.returned (.int .i64 0)/\w'=w'' from λw' hb=>by have:=Ii (hro2.below (hW.kind o ho) hb) false (some ⟨f,0,none⟩);rw[hmy] at this;exact this)
 have hoi':A2 r.nms q.id s2=o.id:=by rw[hqi];exact hoi
 have hctx:=J4 hW hx hp hkp hq ho hoi' hox (Ju hmy).2 hn0 m1 m3;have HNo:=aa (And.intro hnx (And.intro hnp hnq));have HIds:=aa (And.intro hrx.id (And.intro hrp.id hrq.id));have HLt:=aa (Ur h hW);obtain⟨rd,erd⟩:∃rd,Av r q.id s2=rd:=⟨_,rfl⟩;have HDr:=aa (show ∀w',Below w2.heap.size w2 w'->Calls Tryz.prog 98 #[.pointer (some ⟨f,0,none⟩),.agg #[.pointer (some ⟨nq.blk,0,none⟩),.pointer (some ⟨nq.b,0,none⟩),.string s2]] w' λe w''=>e=.returned (.tuple #[])/\(∃N',FsN w'' f mi mg rd N'/\∀n∈N',n∈N)/\Frm (fpL f mi mg N) w' w'' from λw' hb=>by have:=Is (h2.below hW hb) hW hq hkq hnq (hrq2.below (.inr (.inl hkq)) hb) s2 (by rw[hoi'];exact ho0);rw[erd] at this;exact this)
 rw[erd] at hctx;obtain⟨hWd,hxd,hpd,hqd,hnd,hag⟩:=hctx;have HERd:=aa erd;have HWd:=aa hWd;have HMd:=aa (And.intro hxd (And.intro hpd hqd));have H0d:=aa (And.intro hnd (And.intro m1 (And.intro m2 m3)));have HKX:=aa hkx;have HXQ:=aa hxq;have HAg:=aa (show(Az (Aa rd.nms q.id) s2).isSome=false by rw[hag];rfl);have hmm:nq.m≠np.m:=λe=>hpq (by
  by_cases c:nq=np
  .rw[c]
  .exact du (e ▸ Nd.m_mem (hrp.ne hkp).1) (h.apart hnq hnp c _ (Nd.m_mem (hrq.ne hkq).1)))
 have HMm:=aa hmm;have HPB:=aa hpq;have HPQ:=aa (show p.id≠q.id from λe=>hpq (by rw[Bc h.idU hnp hnq (hrp.id.trans (e.trans hrq.id.symm))]));clear hw2 hB hb0 hb1 h h2 hW hrp2 hrq2 hpl hp hkp hnp hrp hq hkq hnq hrq hpi hqi hl hl2 hk hk2 hv hv2 hx hnx hrx hxi hx0 hrx2 hkx hpq hmm hxq hmy ho hno hro hoi hox ho0 hro2 hoi' hWd hxd hpd hqd hnd hag erd hh0 hn0 m1 m2 m3 hxp
 go_enter Tryz.func73,Tryz.ntmps73
 go_wp2_with fail
 rw[HW2.out]
 go_upto_region 4 with(go_at_call 99;(with_reducible refine HP.out.mono ?_);rintro e w3 ⟨rfl,hB3⟩;have hs3:=hB3.size;replace hB3:=aa hB3)
 obtain⟨w4,hw4,hB4,hs4,hb40,hb41⟩:=Gm w3 #[.pointer (some ⟨np.blk,0,none⟩),.pointer (some ⟨np.b,0,none⟩),.string s] #[.pointer (some ⟨nq.blk,0,none⟩),.pointer (some ⟨nq.b,0,none⟩),.string s2] 137 137;rw[hw4];have c0:w4.cell? ⟨w3.heap.size,0,none⟩=some (.pointer (some ⟨np.blk,0,none⟩)):=by rw[A1 hb40];rfl
 have c1:w4.cell? ⟨w3.heap.size,1,none⟩=some (.pointer (some ⟨np.b,0,none⟩)):=by rw[A1 hb40];rfl
 have c2:w4.cell? ⟨w3.heap.size,2,none⟩=some (.string s):=by rw[A1 hb40];rfl
 have HQ1:=aa hb40;have HQ2:=aa hb41;have HB4:=aa (hB3.out.trans (hB4.mono (by omega)));clear hw4 hb40 hb41 hB4
 go_upto_region 22 with(first
  | (go_at_call 59;(with_reducible refine(HAt.out w4 HB4.out).mono ?_);rintro e w5 ⟨rfl,hB5⟩;have hs5:=hB5.size;have hY:=(hB5.block _ (by omega)).trans HQ2.out;have d0:w5.cell? ⟨w3.heap.size+1,0,none⟩=_:=A1 hY 0;have d1:w5.cell? ⟨w3.heap.size+1,1,none⟩=_:=A1 hY 1;have d2:w5.cell? ⟨w3.heap.size+1,2,none⟩=_:=A1 hY 2;have HQ25:=aa hY;have HQ15:=aa ((hB5.block _ (by omega)).trans HQ1.out);clear hY;have HB5:=aa (HB4.out.trans (hB5.mono HB4.out.size));obtain⟨x1,x2,x3,-,-⟩:=HX.out w5 HB5.out;clear hB5)
  | (go_at_call 59;(with_reducible refine(HAt2.out w5 HB5.out).mono ?_);rintro e w6 ⟨rfl,hB6⟩;have hs6:=hB6.size;have HQ26:=aa ((hB6.block _ (by omega)).trans HQ25.out);have HQ16:=aa ((hB6.block _ (by omega)).trans HQ15.out);have e0:w6.cell? ⟨w3.heap.size,0,none⟩=_:=A1 HQ16.out 0;have g0:w6.cell? ⟨w3.heap.size+1,0,none⟩=_:=A1 HQ26.out 0;have HB6:=aa (HB5.out.trans (hB6.mono HB5.out.size));obtain⟨y1,y2,y3,y4,y5⟩:=HX.out w6 HB6.out;clear hB6;have z1:=HO.out w6 HB6.out;have g1:w6.cell? ⟨w3.heap.size+1,1,none⟩=_:=A1 HQ26.out 1;have g2':w6.cell? ⟨w3.heap.size+1,2,none⟩=_:=A1 HQ26.out 2)
  | (go_at_call 97;(with_reducible refine(HMy.out w6 HB6.out).mono ?_);rintro e w7 ⟨rfl,rfl⟩)
  | (go_at_call 98;(with_reducible refine(HDr.out w6 HB6.out).mono ?_);rintro e wd ⟨rfl,hd⟩;have HD:=aa hd;clear hd))
 obtain⟨⟨N7,F7,hsub⟩,Fr7⟩:=HD.out;have hb6:=HB.out.trans (HB6.out.mono (show w.heap.size<=w2.heap.size by omega));have hsz:=hb6.size;have hwz:w.heap.size+2<=w3.heap.size:=by omega
 have HQ17:=aa ((Fr7.block w3.heap.size (An HQ16.out) (λhm=>by have:=HLt.out _ hm;omega)).trans HQ16.out);have HQ27:=aa ((Fr7.block (w3.heap.size+1) (An HQ26.out) (λhm=>by have:=HLt.out _ hm;omega)).trans HQ26.out);obtain⟨hx7,X6⟩:=D2 HH.out F7 HWd.out hsub HMd.out.1 HNo.out.1 HIds.out.1;obtain⟨hp7,P6⟩:=D2 HH.out F7 HWd.out hsub HMd.out.2.1 HNo.out.2.1 HIds.out.2.1;obtain⟨hq7,Q6⟩:=D2 HH.out F7 HWd.out hsub HMd.out.2.2 HNo.out.2.2 HIds.out.2.2;have F6:=F7;have HSub:=aa hsub;have HNd:=aa (And.intro hx7 (And.intro hp7 hq7));have FB:=aa ((Frm.of_below (S:=fpL f mi mg N) hb6).trans Fr7);clear F7 hsub Fr7 hx7 hp7 hq7 hb6;have a1:wd.cell? ⟨w3.heap.size,1,none⟩=some (.pointer (some ⟨np.b,0,none⟩)):=by rw[A1 HQ17.out];rfl
 have a2:wd.cell? ⟨np.b,0,none⟩=some (.map (some np.m)):=by rw[A1 (P6.dir HK.out.1).1];rfl
 have hm6:MapB wd np.m Ci Ax (Aa rd.nms p.id):=(P6.dir HK.out.1).2;obtain⟨o1,hdel,hmp1⟩:=C0 (P:=Tryz.prog) (ty:=0) (tk:=9) KS (t:=150) Tryz.underlying150 hm6 s;unfold Ci at hdel;have M1:=aa hmp1;have G6:=aa F6;have P6':=aa P6;have Q6':=aa Q6;have X6':=aa X6;clear F6 P6 Q6 X6 hm6 hmp1
 go_upto_region 23 with fail
 obtain⟨w7,hw7⟩:∃w7,putObj wd np.m o1=w7:=⟨_,rfl⟩;rw[hw7];have k7:∀k,k≠np.m->w7.heap[k]?=wd.heap[k]?:=λk hk=>by rw[<-hw7];exact A9 wd o1 hk
 rw[hw7] at M1;have W7:=aa hw7;have K7:=aa k7;have b1:w7.cell? ⟨w3.heap.size+1,1,none⟩=some (.pointer (some ⟨nq.b,0,none⟩)):=by rw[A1 ((k7 _ (A8 (P6'.out.dir HK.out.1).2 HQ27.out).symm).trans HQ27.out)];rfl
 have b2:w7.cell? ⟨nq.b,0,none⟩=some (.map (some nq.m)):=by rw[A1 ((k7 _ (A8 (P6'.out.dir HK.out.1).2 (Q6'.out.dir HK.out.2).1).symm).trans (Q6'.out.dir HK.out.2).1)];rfl
 have hm7:MapB w7 nq.m Ci Ax (Aa rd.nms q.id):=(Q6'.out.dir HK.out.2).2.of_block (k7 _ HMm.out);have hag:(Az (Aa rd.nms q.id) s2).isSome=false:=HAg.out;obtain⟨o2,hup,hmp2⟩:=Am KS (P:=Tryz.prog) (t:=150) Tryz.underlying150 hm7 s2 x.id;rw[C5 hag] at hmp2;unfold Ci Ax at hup;have M2:=aa hmp2;clear hm7 hag hmp2 hw7 k7 hdel a1 a2
 go_upto_region 24 with fail
 obtain⟨w8,hw8⟩:∃w8,putObj w7 nq.m o2=w8:=⟨_,rfl⟩;rw[hw8];rw[hw8] at M2;have W8:=aa hw8;have K8:=aa (show ∀k,k≠nq.m->w8.heap[k]?=w7.heap[k]? from λk hk=>by rw[<-hw8];exact A9 w7 o2 hk);clear hw8 hup b1 b2
 go_wp2
 go_ret
 refine⟨rfl,?_⟩;obtain⟨ei,eq⟩:=HI.out;subst ei eq;rw[HERd.out];obtain⟨hx,hp,hq⟩:=HMd.out;obtain⟨hnx,hnp,hnq⟩:=HNd.out;obtain⟨hrx,hrp,hrq⟩:=And.intro X6'.out (And.intro P6'.out Q6'.out);obtain⟨hn0,m1,m2,m3⟩:=H0d.out;have hlk:=λy=>C4 HWd.out hx hn0 m3 q.id s2 (y:=y) (y':=y) rfl rfl;rw[m1,m2] at hlk;have hns:∀j,Aa (Ah rd p.id s q.id s2 x).nms j=_:=λj=>by rw[Cl,B2,Ay]
 have pm:=(P6'.out.dir HK.out.1).2;have qm:=(Q6'.out.dir HK.out.2).2;have hl:∀y,A5 (Ah rd p.id s q.id s2 x) y=A5 rd y:=λy=>by have:=hlk y;rw[dq (λe=>HKX.out e.2.1),dq (λe=>HKX.out e.2.1)] at this;exact this
 refine⟨N7,F0 G6.out HWd.out hx hnx hrx hp HK.out.1 hnp hrp hq HK.out.2 hnq hrq hn0 m1 m2 m3 HXP.out HXQ.out (λk hk a b _ _ _=>(K8.out k b).trans (K7.out k a)) ?_ ?_ ?_ ?_ (λe=>du e HKX.out),λk hk=>.inl (Rr HSub.out k hk),?_⟩
 .rw[hns,dq HPQ.out,dt rfl];exact M1.out.of_block (K8.out _ (λe=>HMm.out e.symm))
 .rw[hns,dt rfl,dq (λe=>HPQ.out e.symm)];exact M2.out
 .rw[hl];exact(K8.out _ (A8 qm P6'.out.head).symm).trans ((K7.out _ (A8 pm P6'.out.head).symm).trans P6'.out.head)
 .rw[hl];exact(K8.out _ (A8 qm Q6'.out.head).symm).trans ((K7.out _ (A8 pm Q6'.out.head).symm).trans Q6'.out.head)
 .rw[<-W8.out,<-W7.out];exact(FB.out.putObj (.inl (Ak HNo.out.2.1 (Nd.m_mem (hrp.ne HK.out.1).1))) o1).putObj (.inl (Ak HNo.out.2.2 (Nd.m_mem (hrq.ne HK.out.2).1))) o2
set_option maxRecDepth 100000 in
set_option maxHeartbeats 8000000 in
theorem Tr {w:World}{f mi mg K:Nat}{r:RFs}{N:List Nd}(h:FsN w f mi mg r N)(hW:Wf r K)(i g:Int)(s:ByteArray)(hs:s.size<=maxLen)(i2 g2:Int)(s2:ByteArray)(hs2:s2.size<=maxLen)
  {p q:RIn} {np nq:Nd} (hp:p∈r.ins) (hkp:p.kind=2) (hnp:np∈N) (hrp:NodeR w r p np) (hq:q∈r.ins) (hkq:q.kind=2) (hnq:nq∈N) (hrq:NodeR w r q nq) (hpi:p.id=i) (hqi:q.id=i2)
  (hl:Aj r (i,g)=true) (hl2:Aj r (i2,g2)=true) (hk:(A3 r.ins i).kind=2) (hk2:(A3 r.ins i2).kind=2) (hv:Ad s=true) (hv2:Ad s2=true)
  {x:RIn} {nx:Nd} (hx:x∈r.ins) (hnx:nx∈N) (hrx:NodeR w r x nx) (hxi:A2 r.nms i s=x.id) (hxq:x.id≠q.id) {o:RIn} {no:Nd} (ho:o∈r.ins) (hno:no∈N) (hro:NodeR w r o no) (hoi:A2 r.nms i2 s2=o.id) (hox:o.id≠x.id) (hkx:¬x.kind=2) (hpq:np=nq) (hmy:Fp r o false=0) :
  Calls Tryz.prog 73 #[.pointer (some ⟨f,0,none⟩),.agg #[.int .i64 i,.int .i64 g],.string s,.agg #[.int .i64 i2,.int .i64 g2],.string s2] w λe w'=>e=.returned (.int .i64 0)/\Cs w w' f mi mg N (Ah (Av r i2 s2) i s i2 s2 x):=by
 subst hpq;obtain rfl:=h.uniq hW hp hrp hq hrq;obtain rfl:i=i2:=hpi.symm.trans hqi;obtain⟨w2,hw2,hB,hz2,hb0,hb1⟩:=Gm w #[.int .i64 i,.int .i64 g] #[.int .i64 i,.int .i64 g2] 31 31;have t0:w2.cell? ⟨w.heap.size,0,none⟩=some (.int .i64 i):=by rw[A1 hb0];rfl
 have t1:w2.cell? ⟨w.heap.size,1,none⟩=some (.int .i64 g):=by rw[A1 hb0];rfl
 have t2:w2.cell? ⟨w.heap.size+1,0,none⟩=some (.int .i64 i):=by rw[A1 hb1];rfl
 have t3:w2.cell? ⟨w.heap.size+1,1,none⟩=some (.int .i64 g2):=by rw[A1 hb1];rfl
 have h2:=h.below hW hB;have HW2:=aa hw2;have HB:=aa hB;have hrp2:=hrp.below (.inr (.inl hkp)) hB;have hrq2:=hrq.below (.inr (.inl hkq)) hB;have hpl:=Bu h2 hW i g s hs i g2 s2 hs2 hl hl2 hk hk2 hv hv2 hnp hnq (hrp.id.trans hpi) (hrq.id.trans hqi);have HP:=aa hpl;have HAt:=aa (show ∀w4,Below w2.heap.size w2 w4->Calls Tryz.prog 59 #[.agg #[.pointer (some ⟨np.blk,0,none⟩),.pointer (some ⟨np.b,0,none⟩),.string s]] w4 λe w'=>e=.returned (.tuple #[.int .i64 (A2 r.nms i s),.bool (decide (A2 r.nms i s≠0))])/\Below w4.heap.size w4 w' from λw4 hb=>by have hr4:=hrp2.below (.inr (.inl hkp)) hb;have:=Be hr4 hkp (hr4.lt (.inr (.inl hkp))) s (some ⟨np.blk,0,none⟩);rw[hpi,hW.entry_some] at this;exact this)
 have HAt2:=aa (show ∀w4,Below w2.heap.size w2 w4->Calls Tryz.prog 59 #[.agg #[.pointer (some ⟨np.blk,0,none⟩),.pointer (some ⟨np.b,0,none⟩),.string s2]] w4 λe w'=>e=.returned (.tuple #[.int .i64 (A2 r.nms i s2),.bool (decide (A2 r.nms i s2≠0))])/\Below w4.heap.size w4 w' from λw4 hb=>by have hr4:=hrq2.below (.inr (.inl hkq)) hb;have:=Be hr4 hkq (hr4.lt (.inr (.inl hkq))) s2 (some ⟨np.blk,0,none⟩);rw[hqi,hW.entry_some] at this;exact this)
 have hx0:x.id≠0:=hW.ne0 hx;rw[hxi,decide_eq_true hx0] at HAt;have hrx2:=hrx.below (hW.kind x hx) hB;have HX:=aa (show ∀w',Below w2.heap.size w2 w'->w'.cell? ⟨f,1,none⟩=some (.map (some mi))/\w'.cell? ⟨nx.blk,5,none⟩=some (Ae x nx)/\(Instr.lookup 144 (.map (some mi)) (.int .i64 x.id) false).run Tryz.prog w'=.ok (.pointer (some ⟨nx.blk,0,none⟩)) w'/\w'.cell? ⟨np.blk,0,none⟩=some (.int .i64 i)/\w'.cell? ⟨np.blk,4,none⟩=some (.int .i64 (A5 r p:Int)) from λw' hb=>by have h4:=h2.below hW hb;have hg:=h4.get hnx;rw[hrx.id] at hg;have hlk:=(h4.look x.id).2;rw[hg] at hlk;have hq4:=(hrq2.below (.inr (.inl hkq)) hb).cells;exact⟨h4.cells.2.1,(hrx2.below (hW.kind x hx) hb).cells.2.2.2.2.2,hlk,by rw[<-hqi];exact hq4.1,hq4.2.2.2.2.1⟩)
 have hta:∀w,(Instr.typeAssert (Ae x nx) 20 135 true).run Tryz.prog w=.ok (.tuple #[.pointer none,.bool false]) w:=λw=>by rw[Cp,dq hkx]
 have hh0:A2 r.nms i s≠0:=by rw[hxi];exact hW.ne0 hx
 obtain⟨n0,hn0,m1,m2,m3⟩:=B5 hh0;rw[hxi] at m3;rw[<-hpi] at m1;have hxp:x.id≠p.id:=by rw[<-m3,<-m1];exact hW.self_ne hn0
 have HH:=aa h;have HWf:=aa hW;have HR:=aa (And.intro hrx (And.intro hrp hrq));have HM:=aa (And.intro hx (And.intro hp hq));have HN:=aa (And.intro hnx (And.intro hnp hnq));have H0:=aa (And.intro hn0 (And.intro m1 (And.intro m2 m3)));have HK:=aa (And.intro hkp hkq);have HI:=aa (And.intro hpi hqi);have HXP:=aa hxp;have HN6:=aa (show ∀w',Below w2.heap.size w2 w'->FsN w' f mi mg r N/\NodeR w' r p np/\NodeR w' r p np/\NodeR w' r x nx from λw' hb=>⟨h2.below hW hb,hrp2.below (.inr (.inl hkp)) hb,hrq2.below (.inr (.inl hkq)) hb,hrx2.below (hW.kind x hx) hb⟩);have ho0:o.id≠0:=hW.ne0 ho;rw[hoi,decide_eq_true ho0] at HAt2;have hbq:(o.id==x.id)=false:=by rw[beq_eq_false_iff_ne];exact hox
 have hro2:=hro.below (hW.kind o ho) hB;have HO:=aa (show ∀w',Below w2.heap.size w2 w'->(Instr.lookup 144 (.map (some mi)) (.int .i64 o.id) false).run Tryz.prog w'=.ok (.pointer (some ⟨no.blk,0,none⟩)) w' from λw' hb=>by have h4:=h2.below hW hb;have hg:=h4.get hno;rw[hro.id] at hg;have hlk:=(h4.look o.id).2;rw[hg] at hlk;exact hlk)
 have HMy:=aa (show ∀w',Below w2.heap.size w2 w'->Calls Tryz.prog 97 #[.pointer (some ⟨f,0,none⟩),.pointer (some ⟨no.blk,0,none⟩),.bool false] w' λe w''=>e=.returned (.int .i64 0)/\w'=w'' from λw' hb=>by have:=Ii (hro2.below (hW.kind o ho) hb) false (some ⟨f,0,none⟩);rw[hmy] at this;exact this)
 have hoi':A2 r.nms p.id s2=o.id:=by rw[hqi];exact hoi
 have hctx:=J4 hW hx hp hkp hq ho hoi' hox (Ju hmy).2 hn0 m1 m3;have HNo:=aa (And.intro hnx (And.intro hnp hnq));have HIds:=aa (And.intro hrx.id (And.intro hrp.id hrq.id));have HLt:=aa (Ur h hW);obtain⟨rd,erd⟩:∃rd,Av r p.id s2=rd:=⟨_,rfl⟩;have HDr:=aa (show ∀w',Below w2.heap.size w2 w'->Calls Tryz.prog 98 #[.pointer (some ⟨f,0,none⟩),.agg #[.pointer (some ⟨np.blk,0,none⟩),.pointer (some ⟨np.b,0,none⟩),.string s2]] w' λe w''=>e=.returned (.tuple #[])/\(∃N',FsN w'' f mi mg rd N'/\∀n∈N',n∈N)/\Frm (fpL f mi mg N) w' w'' from λw' hb=>by have:=Is (h2.below hW hb) hW hq hkq hnq (hrq2.below (.inr (.inl hkq)) hb) s2 (by rw[hoi'];exact ho0);rw[erd] at this;exact this)
 rw[erd] at hctx;obtain⟨hWd,hxd,hpd,hqd,hnd,hag⟩:=hctx;have HERd:=aa erd;have HWd:=aa hWd;have HMd:=aa (And.intro hxd (And.intro hpd hqd));have H0d:=aa (And.intro hnd (And.intro m1 (And.intro m2 m3)));have HKX:=aa hkx;have HXQ:=aa hxq;have HAg:=aa (show(Az (Hy (Aa rd.nms p.id) s) s2).isSome=false from by have h1:Az (Aa rd.nms p.id) s2=none:=hag;rw[Ir,h1];split<;>rfl)
 clear hw2 hB hb0 hb1 h h2 hW hrp2 hrq2 hpl hp hkp hnp hrp hq hkq hnq hrq hpi hqi hl hl2 hk hk2 hv hv2 hx hnx hrx hxi hx0 hrx2 hkx hxq hmy ho hno hro hoi hox ho0 hro2 hoi' hWd hxd hpd hqd hnd hag erd hh0 hn0 m1 m2 m3 hxp
 go_enter Tryz.func73,Tryz.ntmps73
 go_wp2_with fail
 rw[HW2.out]
 go_upto_region 4 with(go_at_call 99;(with_reducible refine HP.out.mono ?_);rintro e w3 ⟨rfl,hB3⟩;have hs3:=hB3.size;replace hB3:=aa hB3)
 obtain⟨w4,hw4,hB4,hs4,hb40,hb41⟩:=Gm w3 #[.pointer (some ⟨np.blk,0,none⟩),.pointer (some ⟨np.b,0,none⟩),.string s] #[.pointer (some ⟨np.blk,0,none⟩),.pointer (some ⟨np.b,0,none⟩),.string s2] 137 137;rw[hw4];have c0:w4.cell? ⟨w3.heap.size,0,none⟩=some (.pointer (some ⟨np.blk,0,none⟩)):=by rw[A1 hb40];rfl
 have c1:w4.cell? ⟨w3.heap.size,1,none⟩=some (.pointer (some ⟨np.b,0,none⟩)):=by rw[A1 hb40];rfl
 have c2:w4.cell? ⟨w3.heap.size,2,none⟩=some (.string s):=by rw[A1 hb40];rfl
 have HQ1:=aa hb40;have HQ2:=aa hb41;have HB4:=aa (hB3.out.trans (hB4.mono (by omega)));clear hw4 hb40 hb41 hB4
 go_upto_region 22 with(first
  | (go_at_call 59;(with_reducible refine(HAt.out w4 HB4.out).mono ?_);rintro e w5 ⟨rfl,hB5⟩;have hs5:=hB5.size;have hY:=(hB5.block _ (by omega)).trans HQ2.out;have d0:w5.cell? ⟨w3.heap.size+1,0,none⟩=_:=A1 hY 0;have d1:w5.cell? ⟨w3.heap.size+1,1,none⟩=_:=A1 hY 1;have d2:w5.cell? ⟨w3.heap.size+1,2,none⟩=_:=A1 hY 2;have HQ25:=aa hY;have HQ15:=aa ((hB5.block _ (by omega)).trans HQ1.out);clear hY;have HB5:=aa (HB4.out.trans (hB5.mono HB4.out.size));obtain⟨x1,x2,x3,-,-⟩:=HX.out w5 HB5.out;clear hB5)
  | (go_at_call 59;(with_reducible refine(HAt2.out w5 HB5.out).mono ?_);rintro e w6 ⟨rfl,hB6⟩;have hs6:=hB6.size;have HQ26:=aa ((hB6.block _ (by omega)).trans HQ25.out);have HQ16:=aa ((hB6.block _ (by omega)).trans HQ15.out);have e0:w6.cell? ⟨w3.heap.size,0,none⟩=_:=A1 HQ16.out 0;have g0:w6.cell? ⟨w3.heap.size+1,0,none⟩=_:=A1 HQ26.out 0;have HB6:=aa (HB5.out.trans (hB6.mono HB5.out.size));obtain⟨y1,y2,y3,y4,y5⟩:=HX.out w6 HB6.out;clear hB6;have z1:=HO.out w6 HB6.out;have g1:w6.cell? ⟨w3.heap.size+1,1,none⟩=_:=A1 HQ26.out 1;have g2':w6.cell? ⟨w3.heap.size+1,2,none⟩=_:=A1 HQ26.out 2)
  | (go_at_call 97;(with_reducible refine(HMy.out w6 HB6.out).mono ?_);rintro e w7 ⟨rfl,rfl⟩)
  | (go_at_call 98;(with_reducible refine(HDr.out w6 HB6.out).mono ?_);rintro e wd ⟨rfl,hd⟩;have HD:=aa hd;clear hd))
 obtain⟨⟨N7,F7,hsub⟩,Fr7⟩:=HD.out;have hb6:=HB.out.trans (HB6.out.mono (show w.heap.size<=w2.heap.size by omega));have hsz:=hb6.size;have hwz:w.heap.size+2<=w3.heap.size:=by omega
 have HQ17:=aa ((Fr7.block w3.heap.size (An HQ16.out) (λhm=>by have:=HLt.out _ hm;omega)).trans HQ16.out);have HQ27:=aa ((Fr7.block (w3.heap.size+1) (An HQ26.out) (λhm=>by have:=HLt.out _ hm;omega)).trans HQ26.out);obtain⟨hx7,X6⟩:=D2 HH.out F7 HWd.out hsub HMd.out.1 HNo.out.1 HIds.out.1;obtain⟨hp7,P6⟩:=D2 HH.out F7 HWd.out hsub HMd.out.2.1 HNo.out.2.1 HIds.out.2.1;obtain⟨hq7,Q6⟩:=D2 HH.out F7 HWd.out hsub HMd.out.2.2 HNo.out.2.2 HIds.out.2.2;have F6:=F7;have HSub:=aa hsub;have HNd:=aa (And.intro hx7 (And.intro hp7 hq7));have FB:=aa ((Frm.of_below (S:=fpL f mi mg N) hb6).trans Fr7);clear F7 hsub Fr7 hx7 hp7 hq7 hb6;have a1:wd.cell? ⟨w3.heap.size,1,none⟩=some (.pointer (some ⟨np.b,0,none⟩)):=by rw[A1 HQ17.out];rfl
 have a2:wd.cell? ⟨np.b,0,none⟩=some (.map (some np.m)):=by rw[A1 (P6.dir HK.out.1).1];rfl
 have hm6:MapB wd np.m Ci Ax (Aa rd.nms p.id):=(P6.dir HK.out.1).2;obtain⟨o1,hdel,hmp1⟩:=C0 (P:=Tryz.prog) (ty:=0) (tk:=9) KS (t:=150) Tryz.underlying150 hm6 s;unfold Ci at hdel;have M1:=aa hmp1;have G6:=aa F6;have P6':=aa P6;have Q6':=aa Q6;have X6':=aa X6;clear F6 P6 Q6 X6 hm6 hmp1
 go_upto_region 23 with fail
 obtain⟨w7,hw7⟩:∃w7,putObj wd np.m o1=w7:=⟨_,rfl⟩;rw[hw7];have k7:∀k,k≠np.m->w7.heap[k]?=wd.heap[k]?:=λk hk=>by rw[<-hw7];exact A9 wd o1 hk
 rw[hw7] at M1;have W7:=aa hw7;have K7:=aa k7;have b1:w7.cell? ⟨w3.heap.size+1,1,none⟩=some (.pointer (some ⟨np.b,0,none⟩)):=by rw[A1 ((k7 _ (A8 (P6'.out.dir HK.out.1).2 HQ27.out).symm).trans HQ27.out)];rfl
 have b2:w7.cell? ⟨np.b,0,none⟩=some (.map (some np.m)):=by rw[A1 ((k7 _ (A8 (P6'.out.dir HK.out.1).2 (Q6'.out.dir HK.out.2).1).symm).trans (Q6'.out.dir HK.out.2).1)];rfl
 have hm7:MapB w7 np.m Ci Ax (Hy (Aa rd.nms p.id) s):=M1.out;have hag:(Az (Hy (Aa rd.nms p.id) s) s2).isSome=false:=HAg.out;obtain⟨o2,hup,hmp2⟩:=Am KS (P:=Tryz.prog) (t:=150) Tryz.underlying150 hm7 s2 x.id;rw[C5 hag] at hmp2;unfold Ci Ax at hup;have M2:=aa hmp2;clear hm7 hag hmp2 hw7 k7 hdel a1 a2
 go_upto_region 24 with fail
 obtain⟨w8,hw8⟩:∃w8,putObj w7 np.m o2=w8:=⟨_,rfl⟩;rw[hw8];rw[hw8] at M2;have W8:=aa hw8;have K8:=aa (show ∀k,k≠np.m->w8.heap[k]?=w7.heap[k]? from λk hk=>by rw[<-hw8];exact A9 w7 o2 hk);clear hw8 hup b1 b2
 go_wp2
 go_ret
 refine⟨rfl,?_⟩;obtain⟨ei,-⟩:=HI.out;subst ei;rw[HERd.out];obtain⟨hx,hp,hq⟩:=HMd.out;obtain⟨hnx,hnp,hnq⟩:=HNd.out;obtain⟨hrx,hrp,hrq⟩:=And.intro X6'.out (And.intro P6'.out Q6'.out);obtain⟨hn0,m1,m2,m3⟩:=H0d.out;have hlk:=λy=>C4 HWd.out hx hn0 m3 p.id s2 (y:=y) (y':=y) rfl rfl;rw[m1,m2] at hlk;have hns:∀j,Aa (Ah rd p.id s p.id s2 x).nms j=_:=λj=>by rw[Cl,B2,Ay]
 have pm:=(P6'.out.dir HK.out.1).2;have qm:=(Q6'.out.dir HK.out.2).2;have hl:∀y,A5 (Ah rd p.id s p.id s2 x) y=A5 rd y:=λy=>by have:=hlk y;rw[dq (λe=>HKX.out e.2.1)] at this;exact this
 refine⟨N7,F0 G6.out HWd.out hx hnx hrx hp HK.out.1 hnp hrp hq HK.out.2 hnq hrq hn0 m1 m2 m3 HXP.out HXQ.out (λk hk a b _ _ _=>(K8.out k b).trans (K7.out k a)) ?_ ?_ ?_ ?_ (λe=>du e HKX.out),λk hk=>.inl (Rr HSub.out k hk),?_⟩
 .rw[hns,dt rfl,dt rfl];exact M2.out
 .rw[hns,dt rfl,dt rfl];exact M2.out
 .rw[hl];exact(K8.out _ (A8 qm P6'.out.head).symm).trans ((K7.out _ (A8 pm P6'.out.head).symm).trans P6'.out.head)
 .rw[hl];exact(K8.out _ (A8 qm Q6'.out.head).symm).trans ((K7.out _ (A8 pm Q6'.out.head).symm).trans Q6'.out.head)
 .rw[<-W8.out,<-W7.out];exact(FB.out.putObj (.inl (Ak HNo.out.2.1 (Nd.m_mem (hrp.ne HK.out.1).1))) o1).putObj (.inl (Ak HNo.out.2.2 (Nd.m_mem (hrq.ne HK.out.2).1))) o2
set_option maxRecDepth 100000 in
set_option maxHeartbeats 8000000 in
theorem Ui {w:World}{f mi mg K:Nat}{r:RFs}{N:List Nd}(h:FsN w f mi mg r N)(hW:Wf r K)(i g:Int)(s:ByteArray)(hs:s.size<=maxLen)(i2 g2:Int)(s2:ByteArray)(hs2:s2.size<=maxLen)
  {p q:RIn} {np nq:Nd} (hp:p∈r.ins) (hkp:p.kind=2) (hnp:np∈N) (hrp:NodeR w r p np) (hq:q∈r.ins) (hkq:q.kind=2) (hnq:nq∈N) (hrq:NodeR w r q nq) (hpi:p.id=i) (hqi:q.id=i2)
  (hl:Aj r (i,g)=true) (hl2:Aj r (i2,g2)=true) (hk:(A3 r.ins i).kind=2) (hk2:(A3 r.ins i2).kind=2) (hv:Ad s=true) (hv2:Ad s2=true)
  {x:RIn} {nx:Nd} (hx:x∈r.ins) (hnx:nx∈N) (hrx:NodeR w r x nx) (hxi:A2 r.nms i s=x.id) (hxq:x.id≠q.id) {o:RIn} {no:Nd} (ho:o∈r.ins) (hno:no∈N) (hro:NodeR w r o no) (hoi:A2 r.nms i2 s2=o.id) (hox:o.id≠x.id) (hkx:x.kind=2) (hbl:Bf r i2 x.id=false) (hpq:np.blk≠nq.blk) (hmy:Fp r o true=0) :
  Calls Tryz.prog 73 #[.pointer (some ⟨f,0,none⟩),.agg #[.int .i64 i,.int .i64 g],.string s,.agg #[.int .i64 i2,.int .i64 g2],.string s2] w λe w'=>e=.returned (.int .i64 0)/\Cs w w' f mi mg N (Ah (Av r i2 s2) i s i2 s2 x):=by
 obtain⟨w2,hw2,hB,hz2,hb0,hb1⟩:=Gm w #[.int .i64 i,.int .i64 g] #[.int .i64 i2,.int .i64 g2] 31 31;have t0:w2.cell? ⟨w.heap.size,0,none⟩=some (.int .i64 i):=by rw[A1 hb0];rfl
 have t1:w2.cell? ⟨w.heap.size,1,none⟩=some (.int .i64 g):=by rw[A1 hb0];rfl
 have t2:w2.cell? ⟨w.heap.size+1,0,none⟩=some (.int .i64 i2):=by rw[A1 hb1];rfl
 have t3:w2.cell? ⟨w.heap.size+1,1,none⟩=some (.int .i64 g2):=by rw[A1 hb1];rfl
 have h2:=h.below hW hB;have HW2:=aa hw2;have HB:=aa hB;have hrp2:=hrp.below (.inr (.inl hkp)) hB;have hrq2:=hrq.below (.inr (.inl hkq)) hB;have hpl:=Bu h2 hW i g s hs i2 g2 s2 hs2 hl hl2 hk hk2 hv hv2 hnp hnq (hrp.id.trans hpi) (hrq.id.trans hqi);have HP:=aa hpl;have HAt:=aa (show ∀w4,Below w2.heap.size w2 w4->Calls Tryz.prog 59 #[.agg #[.pointer (some ⟨np.blk,0,none⟩),.pointer (some ⟨np.b,0,none⟩),.string s]] w4 λe w'=>e=.returned (.tuple #[.int .i64 (A2 r.nms i s),.bool (decide (A2 r.nms i s≠0))])/\Below w4.heap.size w4 w' from λw4 hb=>by have hr4:=hrp2.below (.inr (.inl hkp)) hb;have:=Be hr4 hkp (hr4.lt (.inr (.inl hkp))) s (some ⟨np.blk,0,none⟩);rw[hpi,hW.entry_some] at this;exact this)
 have HAt2:=aa (show ∀w4,Below w2.heap.size w2 w4->Calls Tryz.prog 59 #[.agg #[.pointer (some ⟨nq.blk,0,none⟩),.pointer (some ⟨nq.b,0,none⟩),.string s2]] w4 λe w'=>e=.returned (.tuple #[.int .i64 (A2 r.nms i2 s2),.bool (decide (A2 r.nms i2 s2≠0))])/\Below w4.heap.size w4 w' from λw4 hb=>by have hr4:=hrq2.below (.inr (.inl hkq)) hb;have:=Be hr4 hkq (hr4.lt (.inr (.inl hkq))) s2 (some ⟨nq.blk,0,none⟩);rw[hqi,hW.entry_some] at this;exact this)
 have hx0:x.id≠0:=hW.ne0 hx;rw[hxi,decide_eq_true hx0] at HAt;have hrx2:=hrx.below (hW.kind x hx) hB;have HX:=aa (show ∀w',Below w2.heap.size w2 w'->w'.cell? ⟨f,1,none⟩=some (.map (some mi))/\w'.cell? ⟨nx.blk,5,none⟩=some (Ae x nx)/\(Instr.lookup 144 (.map (some mi)) (.int .i64 x.id) false).run Tryz.prog w'=.ok (.pointer (some ⟨nx.blk,0,none⟩)) w'/\w'.cell? ⟨nq.blk,0,none⟩=some (.int .i64 i2)/\w'.cell? ⟨nq.blk,4,none⟩=some (.int .i64 (A5 r q:Int)) from λw' hb=>by have h4:=h2.below hW hb;have hg:=h4.get hnx;rw[hrx.id] at hg;have hlk:=(h4.look x.id).2;rw[hg] at hlk;have hq4:=(hrq2.below (.inr (.inl hkq)) hb).cells;exact⟨h4.cells.2.1,(hrx2.below (hW.kind x hx) hb).cells.2.2.2.2.2,hlk,by rw[<-hqi];exact hq4.1,hq4.2.2.2.2.1⟩)
 have hta:∀w,(Instr.typeAssert (Ae x nx) 20 135 true).run Tryz.prog w=.ok (.tuple #[.pointer (some ⟨nx.b,0,none⟩),.bool true]) w:=λw=>by rw[Cp,dt hkx];rfl
 have hh0:A2 r.nms i s≠0:=by rw[hxi];exact hW.ne0 hx
 obtain⟨n0,hn0,m1,m2,m3⟩:=B5 hh0;rw[hxi] at m3;rw[<-hpi] at m1;have hxp:x.id≠p.id:=by rw[<-m3,<-m1];exact hW.self_ne hn0
 have HH:=aa h;have HWf:=aa hW;have HR:=aa (And.intro hrx (And.intro hrp hrq));have HM:=aa (And.intro hx (And.intro hp hq));have HN:=aa (And.intro hnx (And.intro hnp hnq));have H0:=aa (And.intro hn0 (And.intro m1 (And.intro m2 m3)));have HK:=aa (And.intro hkp hkq);have HI:=aa (And.intro hpi hqi);have HXP:=aa hxp;have HN6:=aa (show ∀w',Below w2.heap.size w2 w'->FsN w' f mi mg r N/\NodeR w' r p np/\NodeR w' r q nq/\NodeR w' r x nx from λw' hb=>⟨h2.below hW hb,hrp2.below (.inr (.inl hkp)) hb,hrq2.below (.inr (.inl hkq)) hb,hrx2.below (hW.kind x hx) hb⟩);have ho0:o.id≠0:=hW.ne0 ho;rw[hoi,decide_eq_true ho0] at HAt2;have hbq:(o.id==x.id)=false:=by rw[beq_eq_false_iff_ne];exact hox
 have hro2:=hro.below (hW.kind o ho) hB;have HO:=aa (show ∀w',Below w2.heap.size w2 w'->(Instr.lookup 144 (.map (some mi)) (.int .i64 o.id) false).run Tryz.prog w'=.ok (.pointer (some ⟨no.blk,0,none⟩)) w' from λw' hb=>by have h4:=h2.below hW hb;have hg:=h4.get hno;rw[hro.id] at hg;have hlk:=(h4.look o.id).2;rw[hg] at hlk;exact hlk)
 have HMy:=aa (show ∀w',Below w2.heap.size w2 w'->Calls Tryz.prog 97 #[.pointer (some ⟨f,0,none⟩),.pointer (some ⟨no.blk,0,none⟩),.bool true] w' λe w''=>e=.returned (.int .i64 0)/\w'=w'' from λw' hb=>by have:=Ii (hro2.below (hW.kind o ho) hb) true (some ⟨f,0,none⟩);rw[hmy] at this;exact this)
 have HBl:=aa (show ∀w',Below w2.heap.size w2 w'->Calls Tryz.prog 100 #[.pointer (some ⟨f,0,none⟩),.int .i64 i2,.int .i64 x.id] w' λe w''=>e=.returned (.bool false)/\w'=w'' from λw' hb=>by have:=E1 (h2.below hW hb) hW hq hkq x.id;rw[hqi,hbl] at this;exact this)
 have hoi':A2 r.nms q.id s2=o.id:=by rw[hqi];exact hoi
 have hctx:=J4 hW hx hp hkp hq ho hoi' hox (Ju hmy).2 hn0 m1 m3;have HNo:=aa (And.intro hnx (And.intro hnp hnq));have HIds:=aa (And.intro hrx.id (And.intro hrp.id hrq.id));have HLt:=aa (Ur h hW);obtain⟨rd,erd⟩:∃rd,Av r q.id s2=rd:=⟨_,rfl⟩;have HDr:=aa (show ∀w',Below w2.heap.size w2 w'->Calls Tryz.prog 98 #[.pointer (some ⟨f,0,none⟩),.agg #[.pointer (some ⟨nq.blk,0,none⟩),.pointer (some ⟨nq.b,0,none⟩),.string s2]] w' λe w''=>e=.returned (.tuple #[])/\(∃N',FsN w'' f mi mg rd N'/\∀n∈N',n∈N)/\Frm (fpL f mi mg N) w' w'' from λw' hb=>by have:=Is (h2.below hW hb) hW hq hkq hnq (hrq2.below (.inr (.inl hkq)) hb) s2 (by rw[hoi'];exact ho0);rw[erd] at this;exact this)
 rw[erd] at hctx;obtain⟨hWd,hxd,hpd,hqd,hnd,hag⟩:=hctx;have HERd:=aa erd;have HWd:=aa hWd;have HMd:=aa (And.intro hxd (And.intro hpd hqd));have H0d:=aa (And.intro hnd (And.intro m1 (And.intro m2 m3)));have HKX:=aa hkx;have HXQ:=aa hxq;have HLp:=aa (show 2<=A5 rd p/\A5 rd p<=20 from⟨by unfold A5;rw[dt hkp];omega,hWd.lim p hpd⟩);have HLq:=aa (show A5 rd q<=20 from hWd.lim q hqd);have HAg:=aa (show(Az (Aa rd.nms q.id) s2).isSome=false by rw[hag];rfl);have hmm:nq.m≠np.m:=λe=>hpq (by
  by_cases c:nq=np
  .rw[c]
  .exact du (e ▸ Nd.m_mem (hrp.ne hkp).1) (h.apart hnq hnp c _ (Nd.m_mem (hrq.ne hkq).1)))
 have HMm:=aa hmm;have HPB:=aa hpq;have HPQ:=aa (show p.id≠q.id from λe=>hpq (by rw[Bc h.idU hnp hnq (hrp.id.trans (e.trans hrq.id.symm))]));clear hw2 hB hb0 hb1 h h2 hW hrp2 hrq2 hpl hp hkp hnp hrp hq hkq hnq hrq hpi hqi hl hl2 hk hk2 hv hv2 hx hnx hrx hxi hx0 hrx2 hkx hpq hmm hxq hmy ho hno hro hoi hox ho0 hro2 hoi' hWd hxd hpd hqd hnd hag erd hbl hh0 hn0 m1 m2 m3 hxp
 go_enter Tryz.func73,Tryz.ntmps73
 go_wp2_with fail
 rw[HW2.out]
 go_upto_region 4 with(go_at_call 99;(with_reducible refine HP.out.mono ?_);rintro e w3 ⟨rfl,hB3⟩;have hs3:=hB3.size;replace hB3:=aa hB3)
 obtain⟨w4,hw4,hB4,hs4,hb40,hb41⟩:=Gm w3 #[.pointer (some ⟨np.blk,0,none⟩),.pointer (some ⟨np.b,0,none⟩),.string s] #[.pointer (some ⟨nq.blk,0,none⟩),.pointer (some ⟨nq.b,0,none⟩),.string s2] 137 137;rw[hw4];have c0:w4.cell? ⟨w3.heap.size,0,none⟩=some (.pointer (some ⟨np.blk,0,none⟩)):=by rw[A1 hb40];rfl
 have c1:w4.cell? ⟨w3.heap.size,1,none⟩=some (.pointer (some ⟨np.b,0,none⟩)):=by rw[A1 hb40];rfl
 have c2:w4.cell? ⟨w3.heap.size,2,none⟩=some (.string s):=by rw[A1 hb40];rfl
 have HQ1:=aa hb40;have HQ2:=aa hb41;have HB4:=aa (hB3.out.trans (hB4.mono (by omega)));clear hw4 hb40 hb41 hB4
 go_upto_region 22 with(first
  | (go_at_call 59;(with_reducible refine(HAt.out w4 HB4.out).mono ?_);rintro e w5 ⟨rfl,hB5⟩;have hs5:=hB5.size;have hY:=(hB5.block _ (by omega)).trans HQ2.out;have d0:w5.cell? ⟨w3.heap.size+1,0,none⟩=_:=A1 hY 0;have d1:w5.cell? ⟨w3.heap.size+1,1,none⟩=_:=A1 hY 1;have d2:w5.cell? ⟨w3.heap.size+1,2,none⟩=_:=A1 hY 2;have HQ25:=aa hY;have HQ15:=aa ((hB5.block _ (by omega)).trans HQ1.out);clear hY;have HB5:=aa (HB4.out.trans (hB5.mono HB4.out.size));obtain⟨x1,x2,x3,-,-⟩:=HX.out w5 HB5.out;clear hB5)
  | (go_at_call 59;(with_reducible refine(HAt2.out w5 HB5.out).mono ?_);rintro e w6 ⟨rfl,hB6⟩;have hs6:=hB6.size;have HQ26:=aa ((hB6.block _ (by omega)).trans HQ25.out);have HQ16:=aa ((hB6.block _ (by omega)).trans HQ15.out);have e0:w6.cell? ⟨w3.heap.size,0,none⟩=_:=A1 HQ16.out 0;have g0:w6.cell? ⟨w3.heap.size+1,0,none⟩=_:=A1 HQ26.out 0;have HB6:=aa (HB5.out.trans (hB6.mono HB5.out.size));obtain⟨y1,y2,y3,y4,y5⟩:=HX.out w6 HB6.out;clear hB6;have z1:=HO.out w6 HB6.out;have g1:w6.cell? ⟨w3.heap.size+1,1,none⟩=_:=A1 HQ26.out 1;have g2':w6.cell? ⟨w3.heap.size+1,2,none⟩=_:=A1 HQ26.out 2)
  | (go_at_call 100;(with_reducible refine(HBl.out w6 HB6.out).mono ?_);rintro e w7 ⟨rfl,rfl⟩)
  | (go_at_call 97;(with_reducible refine(HMy.out w6 HB6.out).mono ?_);rintro e w7 ⟨rfl,rfl⟩)
  | (go_at_call 98;(with_reducible refine(HDr.out w6 HB6.out).mono ?_);rintro e wd ⟨rfl,hd⟩;have HD:=aa hd;clear hd))
 obtain⟨⟨N7,F7,hsub⟩,Fr7⟩:=HD.out;have hb6:=HB.out.trans (HB6.out.mono (show w.heap.size<=w2.heap.size by omega));have hsz:=hb6.size;have hwz:w.heap.size+2<=w3.heap.size:=by omega
 have HQ17:=aa ((Fr7.block w3.heap.size (An HQ16.out) (λhm=>by have:=HLt.out _ hm;omega)).trans HQ16.out);have HQ27:=aa ((Fr7.block (w3.heap.size+1) (An HQ26.out) (λhm=>by have:=HLt.out _ hm;omega)).trans HQ26.out);obtain⟨hx7,X6⟩:=D2 HH.out F7 HWd.out hsub HMd.out.1 HNo.out.1 HIds.out.1;obtain⟨hp7,P6⟩:=D2 HH.out F7 HWd.out hsub HMd.out.2.1 HNo.out.2.1 HIds.out.2.1;obtain⟨hq7,Q6⟩:=D2 HH.out F7 HWd.out hsub HMd.out.2.2 HNo.out.2.2 HIds.out.2.2;have F6:=F7;have HSub:=aa hsub;have HNd:=aa (And.intro hx7 (And.intro hp7 hq7));have FB:=aa ((Frm.of_below (S:=fpL f mi mg N) hb6).trans Fr7);clear F7 hsub Fr7 hx7 hp7 hq7 hb6;have a1:wd.cell? ⟨w3.heap.size,1,none⟩=some (.pointer (some ⟨np.b,0,none⟩)):=by rw[A1 HQ17.out];rfl
 have a2:wd.cell? ⟨np.b,0,none⟩=some (.map (some np.m)):=by rw[A1 (P6.dir HK.out.1).1];rfl
 have hm6:MapB wd np.m Ci Ax (Aa rd.nms p.id):=(P6.dir HK.out.1).2;obtain⟨o1,hdel,hmp1⟩:=C0 (P:=Tryz.prog) (ty:=0) (tk:=9) KS (t:=150) Tryz.underlying150 hm6 s;unfold Ci at hdel;have M1:=aa hmp1;have G6:=aa F6;have P6':=aa P6;have Q6':=aa Q6;have X6':=aa X6;clear F6 P6 Q6 X6 hm6 hmp1
 go_upto_region 23 with fail
 obtain⟨w7,hw7⟩:∃w7,putObj wd np.m o1=w7:=⟨_,rfl⟩;rw[hw7];have k7:∀k,k≠np.m->w7.heap[k]?=wd.heap[k]?:=λk hk=>by rw[<-hw7];exact A9 wd o1 hk
 rw[hw7] at M1;have W7:=aa hw7;have K7:=aa k7;have b1:w7.cell? ⟨w3.heap.size+1,1,none⟩=some (.pointer (some ⟨nq.b,0,none⟩)):=by rw[A1 ((k7 _ (A8 (P6'.out.dir HK.out.1).2 HQ27.out).symm).trans HQ27.out)];rfl
 have b2:w7.cell? ⟨nq.b,0,none⟩=some (.map (some nq.m)):=by rw[A1 ((k7 _ (A8 (P6'.out.dir HK.out.1).2 (Q6'.out.dir HK.out.2).1).symm).trans (Q6'.out.dir HK.out.2).1)];rfl
 have hm7:MapB w7 nq.m Ci Ax (Aa rd.nms q.id):=(Q6'.out.dir HK.out.2).2.of_block (k7 _ HMm.out);have hag:(Az (Aa rd.nms q.id) s2).isSome=false:=HAg.out;obtain⟨o2,hup,hmp2⟩:=Am KS (P:=Tryz.prog) (t:=150) Tryz.underlying150 hm7 s2 x.id;rw[C5 hag] at hmp2;unfold Ci Ax at hup;have M2:=aa hmp2;clear hm7 hag hmp2 hw7 k7 hdel a1 a2
 go_upto_region 24 with fail
 obtain⟨w8,hw8⟩:∃w8,putObj w7 nq.m o2=w8:=⟨_,rfl⟩;rw[hw8];rw[hw8] at M2;have W8:=aa hw8;have K8:=aa (show ∀k,k≠nq.m->w8.heap[k]?=w7.heap[k]? from λk hk=>by rw[<-hw8];exact A9 w7 o2 hk);clear hw8 hup b1 b2;have ne:∀k,k≠np.m->k≠nq.m->w8.heap[k]?=wd.heap[k]?:=λk a b=>(K8.out k b).trans (K7.out k a);have pm:=(P6'.out.dir HK.out.1).2;have qm:=(Q6'.out.dir HK.out.2).2;have xd:=(X6'.out.dir HKX.out).1;have P8:=(ne _ (A8 pm P6'.out.head).symm (A8 qm P6'.out.head).symm).trans P6'.out.head;have Q8:=(ne _ (A8 pm Q6'.out.head).symm (A8 qm Q6'.out.head).symm).trans Q6'.out.head;have X8:=(ne _ (A8 pm xd).symm (A8 qm xd).symm).trans xd;have R8:=(ne _ (A8 pm HQ17.out).symm (A8 qm HQ17.out).symm).trans HQ17.out;have S8:=(ne _ (A8 pm HQ27.out).symm (A8 qm HQ27.out).symm).trans HQ27.out;have f0:w8.cell? ⟨w3.heap.size,0,none⟩=some (.pointer (some ⟨np.blk,0,none⟩)):=by rw[A1 R8];rfl
 have f1:w8.cell? ⟨w3.heap.size+1,0,none⟩=some (.pointer (some ⟨nq.blk,0,none⟩)):=by rw[A1 S8];rfl
 have f2:w8.cell? ⟨nq.blk,0,none⟩=some (.int .i64 q.id):=by rw[A1 Q8];rfl
 have f3:w8.cell? ⟨np.blk,4,none⟩=some (.int .i64 (A5 rd p:Int)):=by rw[A1 P8];rfl
 have f4:w8.cell? ⟨nq.blk,4,none⟩=some (.int .i64 (A5 rd q:Int)):=by rw[A1 Q8];rfl
 have f5:w8.cell? ⟨nx.b,1,none⟩=some (.int .i64 x.parent):=by rw[A1 X8];rfl
 have f6:w8.frozen? ⟨np.blk,4,none⟩=false:=frozen_of_row w8 np.blk 4 _ _ P8;have f7:w8.frozen? ⟨nq.blk,4,none⟩=false:=frozen_of_row w8 nq.blk 4 _ _ Q8;have f8:w8.frozen? ⟨nx.b,1,none⟩=false:=frozen_of_row w8 nx.b 1 _ _ X8;have n1:w3.heap.size≠nx.b:=Aw R8 X8 (by decide);have n2:w3.heap.size≠np.blk:=Aw R8 P8 (by decide);have n3:w3.heap.size≠nq.blk:=Aw R8 Q8 (by decide);have n4:w3.heap.size+1≠nx.b:=Aw S8 X8 (by decide);have n5:w3.heap.size+1≠np.blk:=Aw S8 P8 (by decide);have n6:w3.heap.size+1≠nq.blk:=Aw S8 Q8 (by decide);have n7:nx.b≠np.blk:=Aw X8 P8 (by decide);have n8:nx.b≠nq.blk:=Aw X8 Q8 (by decide);have P8':=aa P8;have Q8':=aa Q8;have X8':=aa X8;have hlp:=HLp.out.1;have hlp2:=HLp.out.2;have hlq:=HLq.out;clear P8 Q8 X8 R8 S8 ne pm qm xd;have n9:np.blk≠nq.blk:=HPB.out;obtain⟨lp,elp⟩:∃lp,A5 rd p=lp:=⟨_,rfl⟩;obtain⟨lq,elq⟩:∃lq,A5 rd q=lq:=⟨_,rfl⟩;rw[elp] at f3 P8' hlp hlp2;rw[elq] at f4 Q8' hlq;have ELP:=aa elp;have ELQ:=aa elq;clear elp elq
 go_wp2
 go_ret
 refine⟨rfl,?_⟩;obtain⟨ei,eq⟩:=HI.out;subst ei eq;rw[HERd.out];obtain⟨hx,hp,hq⟩:=HMd.out;obtain⟨hnx,hnp,hnq⟩:=HNd.out;obtain⟨hrx,hrp,hrq⟩:=And.intro X6'.out (And.intro P6'.out Q6'.out);obtain⟨hn0,m1,m2,m3⟩:=H0d.out;have hlk:=λy=>C4 HWd.out hx hn0 m3 q.id s2 (y:=y) (y':=y) rfl rfl;rw[m1,m2] at hlk;have hns:∀j,Aa (Ah rd p.id s q.id s2 x).nms j=_:=λj=>by rw[Cl,B2,Ay]
 have pm:=(P6'.out.dir HK.out.1).2;have qm:=(Q6'.out.dir HK.out.2).2;have xd:=(X6'.out.dir HKX.out).1;have c1:((lp:Int) - 1)=((lp - 1:Nat):Int):=by omega
 have c2:((lq:Int)+1)=((lq+1:Nat):Int):=by omega
 rw[c1,c2];have lP:A5 (Ah rd p.id s q.id s2 x) p=lp - 1:=by have:=hlk p;rw[dt ⟨HK.out.1,HKX.out,rfl⟩,dq (λe=>HPQ.out e.2.2.symm),ELP.out] at this;omega
 have lQ:A5 (Ah rd p.id s q.id s2 x) q=lq+1:=by have:=hlk q;rw[dq (λe=>HPQ.out e.2.2),dt ⟨HK.out.2,HKX.out,rfl⟩,ELQ.out] at this;omega
 refine⟨N7,F0 G6.out HWd.out hx hnx hrx hp HK.out.1 hnp hrp hq HK.out.2 hnq hrq hn0 m1 m2 m3 HXP.out HXQ.out (λk hk a b c d e=>(A4 _ _ _ _ _ d).trans ((A4 _ _ _ _ _ c).trans ((A4 _ _ _ _ _ (e HKX.out)).trans ((K8.out k b).trans (K7.out k a))))) ?_ ?_ ?_ ?_ (λ_=>?_),λk hk=>.inl (Rr HSub.out k hk),?_⟩
 .rw[hns,dq HPQ.out,dt rfl];exact M1.out.of_block ((A4 _ _ _ _ _ (A8 pm Q6'.out.head)).trans ((A4 _ _ _ _ _ (A8 pm P6'.out.head)).trans ((A4 _ _ _ _ _ (A8 pm xd)).trans (K8.out _ (λe=>HMm.out e.symm)))))
 .rw[hns,dt rfl,dq (λe=>HPQ.out e.symm)];exact M2.out.of_block ((A4 _ _ _ _ _ (A8 qm Q6'.out.head)).trans ((A4 _ _ _ _ _ (A8 qm P6'.out.head)).trans (A4 _ _ _ _ _ (A8 qm xd))))
 .rw[lP];exact(A4 _ _ _ _ _ n9).trans (Bo ((A4 _ _ _ _ _ n7.symm).trans P8'.out))
 .rw[lQ];exact Bo ((A4 _ _ _ _ _ n9.symm).trans ((A4 _ _ _ _ _ n8.symm).trans Q8'.out))
 .exact(A4 _ _ _ _ _ n8).trans ((A4 _ _ _ _ _ n7).trans (heap_setCell_same w8 nx.b 1 _ _ _ X8'.out))
 .rw[<-W8.out,<-W7.out];exact(((((FB.out.putObj (.inl (Ak HNo.out.2.1 (Nd.m_mem (hrp.ne HK.out.1).1))) o1).putObj (.inl (Ak HNo.out.2.2 (Nd.m_mem (hrq.ne HK.out.2).1))) o2).setCell (.inl (Ak HNo.out.1 (Nd.b_mem (hrx.ne HKX.out).1))) _).setCell (.inl (Ak HNo.out.2.1 np.blk_mem)) _).setCell (.inl (Ak HNo.out.2.2 nq.blk_mem)) _)
set_option maxRecDepth 100000 in
set_option maxHeartbeats 8000000 in
theorem Ty {w:World}{f mi mg K:Nat}{r:RFs}{N:List Nd}(h:FsN w f mi mg r N)(hW:Wf r K)(i g:Int)(s:ByteArray)(hs:s.size<=maxLen)(i2 g2:Int)(s2:ByteArray)(hs2:s2.size<=maxLen)
  {p q:RIn} {np nq:Nd} (hp:p∈r.ins) (hkp:p.kind=2) (hnp:np∈N) (hrp:NodeR w r p np) (hq:q∈r.ins) (hkq:q.kind=2) (hnq:nq∈N) (hrq:NodeR w r q nq) (hpi:p.id=i) (hqi:q.id=i2)
  (hl:Aj r (i,g)=true) (hl2:Aj r (i2,g2)=true) (hk:(A3 r.ins i).kind=2) (hk2:(A3 r.ins i2).kind=2) (hv:Ad s=true) (hv2:Ad s2=true)
  {x:RIn} {nx:Nd} (hx:x∈r.ins) (hnx:nx∈N) (hrx:NodeR w r x nx) (hxi:A2 r.nms i s=x.id) (hxq:x.id≠q.id) {o:RIn} {no:Nd} (ho:o∈r.ins) (hno:no∈N) (hro:NodeR w r o no) (hoi:A2 r.nms i2 s2=o.id) (hox:o.id≠x.id) (hkx:x.kind=2) (hbl:Bf r i2 x.id=false) (hpq:np=nq) (hmy:Fp r o true=0) :
  Calls Tryz.prog 73 #[.pointer (some ⟨f,0,none⟩),.agg #[.int .i64 i,.int .i64 g],.string s,.agg #[.int .i64 i2,.int .i64 g2],.string s2] w λe w'=>e=.returned (.int .i64 0)/\Cs w w' f mi mg N (Ah (Av r i2 s2) i s i2 s2 x):=by
 subst hpq;obtain rfl:=h.uniq hW hp hrp hq hrq;obtain rfl:i=i2:=hpi.symm.trans hqi;obtain⟨w2,hw2,hB,hz2,hb0,hb1⟩:=Gm w #[.int .i64 i,.int .i64 g] #[.int .i64 i,.int .i64 g2] 31 31;have t0:w2.cell? ⟨w.heap.size,0,none⟩=some (.int .i64 i):=by rw[A1 hb0];rfl
 have t1:w2.cell? ⟨w.heap.size,1,none⟩=some (.int .i64 g):=by rw[A1 hb0];rfl
 have t2:w2.cell? ⟨w.heap.size+1,0,none⟩=some (.int .i64 i):=by rw[A1 hb1];rfl
 have t3:w2.cell? ⟨w.heap.size+1,1,none⟩=some (.int .i64 g2):=by rw[A1 hb1];rfl
 have h2:=h.below hW hB;have HW2:=aa hw2;have HB:=aa hB;have hrp2:=hrp.below (.inr (.inl hkp)) hB;have hrq2:=hrq.below (.inr (.inl hkq)) hB;have hpl:=Bu h2 hW i g s hs i g2 s2 hs2 hl hl2 hk hk2 hv hv2 hnp hnq (hrp.id.trans hpi) (hrq.id.trans hqi);have HP:=aa hpl;have HAt:=aa (show ∀w4,Below w2.heap.size w2 w4->Calls Tryz.prog 59 #[.agg #[.pointer (some ⟨np.blk,0,none⟩),.pointer (some ⟨np.b,0,none⟩),.string s]] w4 λe w'=>e=.returned (.tuple #[.int .i64 (A2 r.nms i s),.bool (decide (A2 r.nms i s≠0))])/\Below w4.heap.size w4 w' from λw4 hb=>by have hr4:=hrp2.below (.inr (.inl hkp)) hb;have:=Be hr4 hkp (hr4.lt (.inr (.inl hkp))) s (some ⟨np.blk,0,none⟩);rw[hpi,hW.entry_some] at this;exact this)
 have HAt2:=aa (show ∀w4,Below w2.heap.size w2 w4->Calls Tryz.prog 59 #[.agg #[.pointer (some ⟨np.blk,0,none⟩),.pointer (some ⟨np.b,0,none⟩),.string s2]] w4 λe w'=>e=.returned (.tuple #[.int .i64 (A2 r.nms i s2),.bool (decide (A2 r.nms i s2≠0))])/\Below w4.heap.size w4 w' from λw4 hb=>by have hr4:=hrq2.below (.inr (.inl hkq)) hb;have:=Be hr4 hkq (hr4.lt (.inr (.inl hkq))) s2 (some ⟨np.blk,0,none⟩);rw[hqi,hW.entry_some] at this;exact this)
 have hx0:x.id≠0:=hW.ne0 hx;rw[hxi,decide_eq_true hx0] at HAt;have hrx2:=hrx.below (hW.kind x hx) hB;have HX:=aa (show ∀w',Below w2.heap.size w2 w'->w'.cell? ⟨f,1,none⟩=some (.map (some mi))/\w'.cell? ⟨nx.blk,5,none⟩=some (Ae x nx)/\(Instr.lookup 144 (.map (some mi)) (.int .i64 x.id) false).run Tryz.prog w'=.ok (.pointer (some ⟨nx.blk,0,none⟩)) w'/\w'.cell? ⟨np.blk,0,none⟩=some (.int .i64 i)/\w'.cell? ⟨np.blk,4,none⟩=some (.int .i64 (A5 r p:Int)) from λw' hb=>by have h4:=h2.below hW hb;have hg:=h4.get hnx;rw[hrx.id] at hg;have hlk:=(h4.look x.id).2;rw[hg] at hlk;have hq4:=(hrq2.below (.inr (.inl hkq)) hb).cells;exact⟨h4.cells.2.1,(hrx2.below (hW.kind x hx) hb).cells.2.2.2.2.2,hlk,by rw[<-hqi];exact hq4.1,hq4.2.2.2.2.1⟩)
 have hta:∀w,(Instr.typeAssert (Ae x nx) 20 135 true).run Tryz.prog w=.ok (.tuple #[.pointer (some ⟨nx.b,0,none⟩),.bool true]) w:=λw=>by rw[Cp,dt hkx];rfl
 have hh0:A2 r.nms i s≠0:=by rw[hxi];exact hW.ne0 hx
 obtain⟨n0,hn0,m1,m2,m3⟩:=B5 hh0;rw[hxi] at m3;rw[<-hpi] at m1;have hxp:x.id≠p.id:=by rw[<-m3,<-m1];exact hW.self_ne hn0
 have HH:=aa h;have HWf:=aa hW;have HR:=aa (And.intro hrx (And.intro hrp hrq));have HM:=aa (And.intro hx (And.intro hp hq));have HN:=aa (And.intro hnx (And.intro hnp hnq));have H0:=aa (And.intro hn0 (And.intro m1 (And.intro m2 m3)));have HK:=aa (And.intro hkp hkq);have HI:=aa (And.intro hpi hqi);have HXP:=aa hxp;have HN6:=aa (show ∀w',Below w2.heap.size w2 w'->FsN w' f mi mg r N/\NodeR w' r p np/\NodeR w' r p np/\NodeR w' r x nx from λw' hb=>⟨h2.below hW hb,hrp2.below (.inr (.inl hkp)) hb,hrq2.below (.inr (.inl hkq)) hb,hrx2.below (hW.kind x hx) hb⟩);have ho0:o.id≠0:=hW.ne0 ho;rw[hoi,decide_eq_true ho0] at HAt2;have hbq:(o.id==x.id)=false:=by rw[beq_eq_false_iff_ne];exact hox
 have hro2:=hro.below (hW.kind o ho) hB;have HO:=aa (show ∀w',Below w2.heap.size w2 w'->(Instr.lookup 144 (.map (some mi)) (.int .i64 o.id) false).run Tryz.prog w'=.ok (.pointer (some ⟨no.blk,0,none⟩)) w' from λw' hb=>by have h4:=h2.below hW hb;have hg:=h4.get hno;rw[hro.id] at hg;have hlk:=(h4.look o.id).2;rw[hg] at hlk;exact hlk)
 have HMy:=aa (show ∀w',Below w2.heap.size w2 w'->Calls Tryz.prog 97 #[.pointer (some ⟨f,0,none⟩),.pointer (some ⟨no.blk,0,none⟩),.bool true] w' λe w''=>e=.returned (.int .i64 0)/\w'=w'' from λw' hb=>by have:=Ii (hro2.below (hW.kind o ho) hb) true (some ⟨f,0,none⟩);rw[hmy] at this;exact this)
 have HBl:=aa (show ∀w',Below w2.heap.size w2 w'->Calls Tryz.prog 100 #[.pointer (some ⟨f,0,none⟩),.int .i64 i,.int .i64 x.id] w' λe w''=>e=.returned (.bool false)/\w'=w'' from λw' hb=>by have:=E1 (h2.below hW hb) hW hq hkq x.id;rw[hqi,hbl] at this;exact this)
 have hoi':A2 r.nms p.id s2=o.id:=by rw[hqi];exact hoi
 have hctx:=J4 hW hx hp hkp hq ho hoi' hox (Ju hmy).2 hn0 m1 m3;have HNo:=aa (And.intro hnx (And.intro hnp hnq));have HIds:=aa (And.intro hrx.id (And.intro hrp.id hrq.id));have HLt:=aa (Ur h hW);obtain⟨rd,erd⟩:∃rd,Av r p.id s2=rd:=⟨_,rfl⟩;have HDr:=aa (show ∀w',Below w2.heap.size w2 w'->Calls Tryz.prog 98 #[.pointer (some ⟨f,0,none⟩),.agg #[.pointer (some ⟨np.blk,0,none⟩),.pointer (some ⟨np.b,0,none⟩),.string s2]] w' λe w''=>e=.returned (.tuple #[])/\(∃N',FsN w'' f mi mg rd N'/\∀n∈N',n∈N)/\Frm (fpL f mi mg N) w' w'' from λw' hb=>by have:=Is (h2.below hW hb) hW hq hkq hnq (hrq2.below (.inr (.inl hkq)) hb) s2 (by rw[hoi'];exact ho0);rw[erd] at this;exact this)
 rw[erd] at hctx;obtain⟨hWd,hxd,hpd,hqd,hnd,hag⟩:=hctx;have HERd:=aa erd;have HWd:=aa hWd;have HMd:=aa (And.intro hxd (And.intro hpd hqd));have H0d:=aa (And.intro hnd (And.intro m1 (And.intro m2 m3)));have HKX:=aa hkx;have HXQ:=aa hxq;have HLp:=aa (show 2<=A5 rd p/\A5 rd p<=20 from⟨by unfold A5;rw[dt hkp];omega,hWd.lim p hpd⟩);have HLq:=aa (show A5 rd p<=20 from hWd.lim p hqd);have HAg:=aa (show(Az (Hy (Aa rd.nms p.id) s) s2).isSome=false from by have h1:Az (Aa rd.nms p.id) s2=none:=hag;rw[Ir,h1];split<;>rfl)
 clear hw2 hB hb0 hb1 h h2 hW hrp2 hrq2 hpl hp hkp hnp hrp hq hkq hnq hrq hpi hqi hl hl2 hk hk2 hv hv2 hx hnx hrx hxi hx0 hrx2 hkx hxq hmy ho hno hro hoi hox ho0 hro2 hoi' hWd hxd hpd hqd hnd hag erd hbl hh0 hn0 m1 m2 m3 hxp
 go_enter Tryz.func73,Tryz.ntmps73
 go_wp2_with fail
 rw[HW2.out]
 go_upto_region 4 with(go_at_call 99;(with_reducible refine HP.out.mono ?_);rintro e w3 ⟨rfl,hB3⟩;have hs3:=hB3.size;replace hB3:=aa hB3)
 obtain⟨w4,hw4,hB4,hs4,hb40,hb41⟩:=Gm w3 #[.pointer (some ⟨np.blk,0,none⟩),.pointer (some ⟨np.b,0,none⟩),.string s] #[.pointer (some ⟨np.blk,0,none⟩),.pointer (some ⟨np.b,0,none⟩),.string s2] 137 137;rw[hw4];have c0:w4.cell? ⟨w3.heap.size,0,none⟩=some (.pointer (some ⟨np.blk,0,none⟩)):=by rw[A1 hb40];rfl
 have c1:w4.cell? ⟨w3.heap.size,1,none⟩=some (.pointer (some ⟨np.b,0,none⟩)):=by rw[A1 hb40];rfl
 have c2:w4.cell? ⟨w3.heap.size,2,none⟩=some (.string s):=by rw[A1 hb40];rfl
 have HQ1:=aa hb40;have HQ2:=aa hb41;have HB4:=aa (hB3.out.trans (hB4.mono (by omega)));clear hw4 hb40 hb41 hB4
 go_upto_region 22 with(first
  | (go_at_call 59;(with_reducible refine(HAt.out w4 HB4.out).mono ?_);rintro e w5 ⟨rfl,hB5⟩;have hs5:=hB5.size;have hY:=(hB5.block _ (by omega)).trans HQ2.out;have d0:w5.cell? ⟨w3.heap.size+1,0,none⟩=_:=A1 hY 0;have d1:w5.cell? ⟨w3.heap.size+1,1,none⟩=_:=A1 hY 1;have d2:w5.cell? ⟨w3.heap.size+1,2,none⟩=_:=A1 hY 2;have HQ25:=aa hY;have HQ15:=aa ((hB5.block _ (by omega)).trans HQ1.out);clear hY;have HB5:=aa (HB4.out.trans (hB5.mono HB4.out.size));obtain⟨x1,x2,x3,-,-⟩:=HX.out w5 HB5.out;clear hB5)
  | (go_at_call 59;(with_reducible refine(HAt2.out w5 HB5.out).mono ?_);rintro e w6 ⟨rfl,hB6⟩;have hs6:=hB6.size;have HQ26:=aa ((hB6.block _ (by omega)).trans HQ25.out);have HQ16:=aa ((hB6.block _ (by omega)).trans HQ15.out);have e0:w6.cell? ⟨w3.heap.size,0,none⟩=_:=A1 HQ16.out 0;have g0:w6.cell? ⟨w3.heap.size+1,0,none⟩=_:=A1 HQ26.out 0;have HB6:=aa (HB5.out.trans (hB6.mono HB5.out.size));obtain⟨y1,y2,y3,y4,y5⟩:=HX.out w6 HB6.out;clear hB6;have z1:=HO.out w6 HB6.out;have g1:w6.cell? ⟨w3.heap.size+1,1,none⟩=_:=A1 HQ26.out 1;have g2':w6.cell? ⟨w3.heap.size+1,2,none⟩=_:=A1 HQ26.out 2)
  | (go_at_call 100;(with_reducible refine(HBl.out w6 HB6.out).mono ?_);rintro e w7 ⟨rfl,rfl⟩)
  | (go_at_call 97;(with_reducible refine(HMy.out w6 HB6.out).mono ?_);rintro e w7 ⟨rfl,rfl⟩)
  | (go_at_call 98;(with_reducible refine(HDr.out w6 HB6.out).mono ?_);rintro e wd ⟨rfl,hd⟩;have HD:=aa hd;clear hd))
 obtain⟨⟨N7,F7,hsub⟩,Fr7⟩:=HD.out;have hb6:=HB.out.trans (HB6.out.mono (show w.heap.size<=w2.heap.size by omega));have hsz:=hb6.size;have hwz:w.heap.size+2<=w3.heap.size:=by omega
 have HQ17:=aa ((Fr7.block w3.heap.size (An HQ16.out) (λhm=>by have:=HLt.out _ hm;omega)).trans HQ16.out);have HQ27:=aa ((Fr7.block (w3.heap.size+1) (An HQ26.out) (λhm=>by have:=HLt.out _ hm;omega)).trans HQ26.out);obtain⟨hx7,X6⟩:=D2 HH.out F7 HWd.out hsub HMd.out.1 HNo.out.1 HIds.out.1;obtain⟨hp7,P6⟩:=D2 HH.out F7 HWd.out hsub HMd.out.2.1 HNo.out.2.1 HIds.out.2.1;obtain⟨hq7,Q6⟩:=D2 HH.out F7 HWd.out hsub HMd.out.2.2 HNo.out.2.2 HIds.out.2.2;have F6:=F7;have HSub:=aa hsub;have HNd:=aa (And.intro hx7 (And.intro hp7 hq7));have FB:=aa ((Frm.of_below (S:=fpL f mi mg N) hb6).trans Fr7);clear F7 hsub Fr7 hx7 hp7 hq7 hb6;have a1:wd.cell? ⟨w3.heap.size,1,none⟩=some (.pointer (some ⟨np.b,0,none⟩)):=by rw[A1 HQ17.out];rfl
 have a2:wd.cell? ⟨np.b,0,none⟩=some (.map (some np.m)):=by rw[A1 (P6.dir HK.out.1).1];rfl
 have hm6:MapB wd np.m Ci Ax (Aa rd.nms p.id):=(P6.dir HK.out.1).2;obtain⟨o1,hdel,hmp1⟩:=C0 (P:=Tryz.prog) (ty:=0) (tk:=9) KS (t:=150) Tryz.underlying150 hm6 s;unfold Ci at hdel;have M1:=aa hmp1;have G6:=aa F6;have P6':=aa P6;have Q6':=aa Q6;have X6':=aa X6;clear F6 P6 Q6 X6 hm6 hmp1
 go_upto_region 23 with fail
 obtain⟨w7,hw7⟩:∃w7,putObj wd np.m o1=w7:=⟨_,rfl⟩;rw[hw7];have k7:∀k,k≠np.m->w7.heap[k]?=wd.heap[k]?:=λk hk=>by rw[<-hw7];exact A9 wd o1 hk
 rw[hw7] at M1;have W7:=aa hw7;have K7:=aa k7;have b1:w7.cell? ⟨w3.heap.size+1,1,none⟩=some (.pointer (some ⟨np.b,0,none⟩)):=by rw[A1 ((k7 _ (A8 (P6'.out.dir HK.out.1).2 HQ27.out).symm).trans HQ27.out)];rfl
 have b2:w7.cell? ⟨np.b,0,none⟩=some (.map (some np.m)):=by rw[A1 ((k7 _ (A8 (P6'.out.dir HK.out.1).2 (Q6'.out.dir HK.out.2).1).symm).trans (Q6'.out.dir HK.out.2).1)];rfl
 have hm7:MapB w7 np.m Ci Ax (Hy (Aa rd.nms p.id) s):=M1.out;have hag:(Az (Hy (Aa rd.nms p.id) s) s2).isSome=false:=HAg.out;obtain⟨o2,hup,hmp2⟩:=Am KS (P:=Tryz.prog) (t:=150) Tryz.underlying150 hm7 s2 x.id;rw[C5 hag] at hmp2;unfold Ci Ax at hup;have M2:=aa hmp2;clear hm7 hag hmp2 hw7 k7 hdel a1 a2
 go_upto_region 24 with fail
 obtain⟨w8,hw8⟩:∃w8,putObj w7 np.m o2=w8:=⟨_,rfl⟩;rw[hw8];rw[hw8] at M2;have W8:=aa hw8;have K8:=aa (show ∀k,k≠np.m->w8.heap[k]?=w7.heap[k]? from λk hk=>by rw[<-hw8];exact A9 w7 o2 hk);clear hw8 hup b1 b2;have ne:∀k,k≠np.m->k≠np.m->w8.heap[k]?=wd.heap[k]?:=λk a b=>(K8.out k b).trans (K7.out k a);have pm:=(P6'.out.dir HK.out.1).2;have qm:=(Q6'.out.dir HK.out.2).2;have xd:=(X6'.out.dir HKX.out).1;have P8:=(ne _ (A8 pm P6'.out.head).symm (A8 qm P6'.out.head).symm).trans P6'.out.head;have Q8:=(ne _ (A8 pm Q6'.out.head).symm (A8 qm Q6'.out.head).symm).trans Q6'.out.head;have X8:=(ne _ (A8 pm xd).symm (A8 qm xd).symm).trans xd;have R8:=(ne _ (A8 pm HQ17.out).symm (A8 qm HQ17.out).symm).trans HQ17.out;have S8:=(ne _ (A8 pm HQ27.out).symm (A8 qm HQ27.out).symm).trans HQ27.out;have f0:w8.cell? ⟨w3.heap.size,0,none⟩=some (.pointer (some ⟨np.blk,0,none⟩)):=by rw[A1 R8];rfl
 have f1:w8.cell? ⟨w3.heap.size+1,0,none⟩=some (.pointer (some ⟨np.blk,0,none⟩)):=by rw[A1 S8];rfl
 have f2:w8.cell? ⟨np.blk,0,none⟩=some (.int .i64 p.id):=by rw[A1 Q8];rfl
 have f3:w8.cell? ⟨np.blk,4,none⟩=some (.int .i64 (A5 rd p:Int)):=by rw[A1 P8];rfl
 have f4:w8.cell? ⟨np.blk,4,none⟩=some (.int .i64 (A5 rd p:Int)):=by rw[A1 Q8];rfl
 have f5:w8.cell? ⟨nx.b,1,none⟩=some (.int .i64 x.parent):=by rw[A1 X8];rfl
 have f6:w8.frozen? ⟨np.blk,4,none⟩=false:=frozen_of_row w8 np.blk 4 _ _ P8;have f7:w8.frozen? ⟨np.blk,4,none⟩=false:=frozen_of_row w8 np.blk 4 _ _ Q8;have f8:w8.frozen? ⟨nx.b,1,none⟩=false:=frozen_of_row w8 nx.b 1 _ _ X8;have n1:w3.heap.size≠nx.b:=Aw R8 X8 (by decide);have n2:w3.heap.size≠np.blk:=Aw R8 P8 (by decide);have n3:w3.heap.size≠np.blk:=Aw R8 Q8 (by decide);have n4:w3.heap.size+1≠nx.b:=Aw S8 X8 (by decide);have n5:w3.heap.size+1≠np.blk:=Aw S8 P8 (by decide);have n6:w3.heap.size+1≠np.blk:=Aw S8 Q8 (by decide);have n7:nx.b≠np.blk:=Aw X8 P8 (by decide);have n8:nx.b≠np.blk:=Aw X8 Q8 (by decide);have P8':=aa P8;have Q8':=aa Q8;have X8':=aa X8;have hlp:=HLp.out.1;have hlp2:=HLp.out.2;have hlq:=HLq.out;clear P8 Q8 X8 R8 S8 ne pm qm xd;obtain⟨lp,elp⟩:∃lp,A5 rd p=lp:=⟨_,rfl⟩;obtain⟨lq,elq⟩:∃lq,A5 rd p=lq:=⟨_,rfl⟩;rw[elp] at f3 P8' hlp hlp2;rw[elq] at f4 Q8' hlq;have ELP:=aa elp;have ELQ:=aa elq;clear elp elq
 go_wp2
 go_ret
 refine⟨rfl,?_⟩;obtain⟨ei,-⟩:=HI.out;subst ei;rw[HERd.out];obtain⟨hx,hp,hq⟩:=HMd.out;obtain⟨hnx,hnp,hnq⟩:=HNd.out;obtain⟨hrx,hrp,hrq⟩:=And.intro X6'.out (And.intro P6'.out Q6'.out);obtain⟨hn0,m1,m2,m3⟩:=H0d.out;have hlk:=λy=>C4 HWd.out hx hn0 m3 p.id s2 (y:=y) (y':=y) rfl rfl;rw[m1,m2] at hlk;have hns:∀j,Aa (Ah rd p.id s p.id s2 x).nms j=_:=λj=>by rw[Cl,B2,Ay]
 have pm:=(P6'.out.dir HK.out.1).2;have qm:=(Q6'.out.dir HK.out.2).2;have xd:=(X6'.out.dir HKX.out).1;have c1:((lp:Int) - 1)=((lp - 1:Nat):Int):=by omega
 have c3:((lp:Int) - 1+1)=((lp:Nat):Int):=by omega
 try rw[c3]
 rw[c1];have lP:A5 (Ah rd p.id s p.id s2 x) p=lp:=by have:=hlk p;rw[dt ⟨HK.out.1,HKX.out,rfl⟩,ELP.out] at this;omega
 refine⟨N7,F0 G6.out HWd.out hx hnx hrx hp HK.out.1 hnp hrp hq HK.out.2 hnq hrq hn0 m1 m2 m3 HXP.out HXQ.out (λk hk a b c d e=>(A4 _ _ _ _ _ d).trans ((A4 _ _ _ _ _ c).trans ((A4 _ _ _ _ _ (e HKX.out)).trans ((K8.out k b).trans (K7.out k a))))) ?_ ?_ ?_ ?_ (λ_=>?_),λk hk=>.inl (Rr HSub.out k hk),?_⟩
 .rw[hns,dt rfl,dt rfl];exact M2.out.of_block ((A4 _ _ _ _ _ (A8 pm P6'.out.head)).trans ((A4 _ _ _ _ _ (A8 pm P6'.out.head)).trans (A4 _ _ _ _ _ (A8 pm xd))))
 .rw[hns,dt rfl,dt rfl];exact M2.out.of_block ((A4 _ _ _ _ _ (A8 pm P6'.out.head)).trans ((A4 _ _ _ _ _ (A8 pm P6'.out.head)).trans (A4 _ _ _ _ _ (A8 pm xd))))
 .rw[lP];exact Bo (Bo (lk':=lp - 1) ((A4 _ _ _ _ _ n7.symm).trans P8'.out))
 .rw[lP];exact Bo (Bo (lk':=lp - 1) ((A4 _ _ _ _ _ n7.symm).trans P8'.out))
 .exact(A4 _ _ _ _ _ n7).trans ((A4 _ _ _ _ _ n7).trans (heap_setCell_same w8 nx.b 1 _ _ _ X8'.out))
 .rw[<-W8.out,<-W7.out];exact(((((FB.out.putObj (.inl (Ak HNo.out.2.1 (Nd.m_mem (hrp.ne HK.out.1).1))) o1).putObj (.inl (Ak HNo.out.2.2 (Nd.m_mem (hrq.ne HK.out.2).1))) o2).setCell (.inl (Ak HNo.out.1 (Nd.b_mem (hrx.ne HKX.out).1))) _).setCell (.inl (Ak HNo.out.2.1 np.blk_mem)) _).setCell (.inl (Ak HNo.out.2.2 np.blk_mem)) _)
set_option maxHeartbeats 2000000 in
theorem Wo {w:World}{f mi mg K:Nat}{r:RFs}{N:List Nd}(h:FsN w f mi mg r N)(H:Wf r K)(i g:Int)(s:ByteArray)(X:s.size<=maxLen)(E O:Int)(J:ByteArray)(z:J.size<=maxLen) :
  Calls Tryz.prog 73 #[.pointer (some ⟨f,0,none⟩),.agg #[.int .i64 i,.int .i64 g],.string s,.agg #[.int .i64 E,.int .i64 O],.string J] w
   λe w'=>e=.returned (.int .i64 (Da r (i,g) s (E,O) J).2)/\Cs w w' f mi mg N (Da r (i,g) s (E,O) J).1:=by
 have st:∀{v:Value} {e:Ending} {w':World},e=.returned v/\Below w.heap.size w w'->e=.returned v/\Cs w w' f mi mg N r:=fun⟨a,b⟩=>⟨a,Du h H b⟩;unfold Da;by_cases he:Dj r (i,g) s (E,O) J≠0
 .rw[dt he];exact(X5 h H i g s X E O J z he).mono λe w' Q=>st Q
 .rw[dq he];obtain⟨W,A,D,c,hv,C⟩:=Oe (an.1 he);dsimp only at D c⊢;obtain⟨U,l,_⟩:=Ac W;obtain⟨T,j,_⟩:=Ac A;dsimp only at U l T j;obtain⟨np,n,y⟩:=h.at_ H U;obtain⟨nq,u,m⟩:=h.at_ H T;by_cases h0:A2 r.nms i s=0
  .rw[dt h0];exact(Su h H i g s X E O J z U D n y T c u m l j W A D c hv C h0).mono λe w' Q=>st Q
  .rw[dq h0];obtain⟨n0,hn0,m1,m2,m3⟩:=B5 h0;obtain⟨hx1,x,R,ex⟩:=H.nmI n0 hn0;have B:A2 r.nms i s=x.id:=by rw[<-m3,<-ex]
   obtain⟨nx,G,F⟩:=h.at_ H R;have hbx:A3 r.ins x.id=x:=H.byId R;rw[B,hbx];by_cases hox:x.id=A2 r.nms E J
   .rw[dt hox];exact(Th h H i g s X E O J z U D n y T c u m l j W A D c hv C R G F B hox.symm).mono λe w' Q=>st Q
   .rw[dq hox];by_cases hlp:x.kind=2/\Bf r E x.id=true
    .rw[dt hlp];by_cases ho:A2 r.nms E J=0
     .exact(Sa h H i g s X E O J z U D n y T c u m l j W A D c hv C R G F B hlp.1 hlp.2 ho).mono λe w' Q=>st Q
     .exact(Qj h H i g s X E O J z U D n y T c u m l j W A D c hv C R G F B hlp.1 hlp.2 ho (λe=>hox e.symm)).mono λe w' Q=>st Q
    .rw[dq hlp];have Z:x.kind=2->Bf r E x.id=false:=λk=>by
      cases Q:Bf r E x.id
      .rfl
      .exact du ⟨k,Q⟩ hlp
     have S:x.id≠(A3 r.ins E).id:=λe=>by
      have k:x.kind=2:=by rw[<-H.byId R,e,j];exact c
      have:=Z k;rw[e,j,Pa] at this;cases this
     have hpn:np≠nq->np.blk≠nq.blk:=λhne e=>h.apart n u hne _ np.blk_mem (by rw[e];exact nq.blk_mem);by_cases ho:A2 r.nms E J=0
     .rw[dq (by simp[ho])];by_cases Y:x.kind=2/\i≠E/\20<=A5 r (A3 r.ins E)
      .rw[dt Y];have hne:np≠nq:=λe=>Y.2.1 (by rw[<-l,<-j,<-y.id,<-m.id,e]);exact(Rt h H i g s X E O J z U D n y T c u m l j W A D c hv C R G F B Y.1 (Z Y.1) ho (hpn hne) Y.2.2).mono λe w' Q=>st Q
      .rw[dq Y];by_cases P:x.kind=2
       .by_cases I:np=nq
        .exact Sz h H i g s X E O J z U D n y T c u m l j W A D c hv C R G F B S ho P (Z P) I
        .refine Sy h H i g s X E O J z U D n y T c u m l j W A D c hv C R G F B S ho P (Z P) (hpn I) ?_;refine Nat.lt_of_not_le λe=>Y ⟨P,λe2=>I ?_,e⟩;exact Bc h.idU n u (by rw[y.id,m.id,l,j,e2])
       .by_cases I:np=nq
        .exact Sw h H i g s X E O J z U D n y T c u m l j W A D c hv C R G F B S ho P I
        .exact Tg h H i g s X E O J z U D n y T c u m l j W A D c hv C R G F B S ho P (hpn I)
     .rw[dt ho];obtain⟨n1,hn1,a1,a2,a3⟩:=B5 ho;obtain⟨_,o,hO,eo⟩:=H.nmI n1 hn1;have V:A2 r.nms E J=o.id:=by rw[<-a3,<-eo]
      obtain⟨no,hno,hro⟩:=h.at_ H hO;have M:o.id≠x.id:=λe=>hox (by rw[V,e]);rw[V,H.byId hO];by_cases P:x.kind=2
      .rw[decide_eq_true P];by_cases L:Fp r o true≠0
       .rw[dt L];exact(Sx h H i g s X E O J z U D n y T c u m l j W A D c hv C R G F B hO hno hro V M P (Z P) L).mono λe w' Q=>st Q
       .rw[dq L];by_cases I:np=nq
        .exact Ty h H i g s X E O J z U D n y T c u m l j W A D c hv C R G F B S hO hno hro V M P (Z P) I (an.1 L)
        .exact Ui h H i g s X E O J z U D n y T c u m l j W A D c hv C R G F B S hO hno hro V M P (Z P) (hpn I) (an.1 L)
      .rw[decide_eq_false P];by_cases L:Fp r o false≠0
       .rw[dt L];exact(Tf h H i g s X E O J z U D n y T c u m l j W A D c hv C R G F B hO hno hro V M P L).mono λe w' Q=>st Q
       .rw[dq L];by_cases I:np=nq
        .exact Tr h H i g s X E O J z U D n y T c u m l j W A D c hv C R G F B S hO hno hro V M P I (an.1 L)
        .exact Uf h H i g s X E O J z U D n y T c u m l j W A D c hv C R G F B S hO hno hro V M P (hpn I) (an.1 L)
theorem Z5m {r:RFs}{d:Int}{t:ByteArray}:∀y∈(Av r d t).ins,y∈r.ins:=by
 intro y a;unfold Av at a;split at a
 .exact(af.1 a).1
 .exact a
theorem Z2f {r rd:RFs}{K:Nat}{f:Int}(i:Wf r K)(c:Wf rd K)(l:∀y∈rd.ins,y∈r.ins){id:Int}(j:Under rd f id):∀y∈rd.ins,y.id=id->y.kind=2->Under r f id:=by
 induction j with
 | refl=>exact λ_ _ _ _=>Under.refl
 | step h1 _ ih =>
  intro y g e k;subst e;rw[c.byId g] at ih;obtain⟨p,h,a,b⟩:=c.par y g k;have:=ih p h a b;refine Under.step h1 ?_;rw[i.byId (l y g)];exact this
theorem Z32 {r:RFs}{K:Nat}(f:Wf r K)(h g:Int × Int)(s t:ByteArray):Wf (Da r h s g t).1 K:=by
 unfold Da;by_cases O:Dj r h s g t≠0
 .rw[dt O];exact f
 .rw[dq O];obtain⟨hl,U,hk,i,hv,C⟩:=Oe (an.1 O);obtain⟨hp,H,_⟩:=Ac hl;obtain⟨N,J,_⟩:=Ac U;by_cases T:A2 r.nms h.1 s=0
  .rw[dt T];exact f
  .rw[dq T];obtain⟨Y,u,E,V,y⟩:=B5 T;obtain⟨X,x,I,ex⟩:=f.nmI Y u;have A:A2 r.nms h.1 s=x.id:=by rw[<-y,<-ex]
   have P:A3 r.ins x.id=x:=f.byId I;rw[A,P];by_cases j:x.id=A2 r.nms g.1 t
   .rw[dt j];exact f
   .rw[dq j];by_cases v:x.kind=2/\Bf r g.1 x.id=true
    .rw[dt v];exact f
    .rw[dq v];have n:x.kind=2->¬Under r x.id g.1:=λk M=>v ⟨k,by unfold Bf;exact @decide_eq_true _ (Classical.propDecidable _) M⟩;generalize hpp:A3 r.ins h.1=p at *;generalize hqq:A3 r.ins g.1=q at *;rw[<-H] at E⊢;rw[A] at y;rw[<-J] at n j⊢;by_cases F:A2 r.nms q.id t=0
     .rw[dq (by simp[F])];by_cases m:x.kind=2/\p.id≠q.id/\20<=A5 r q
      .rw[dt m];exact f
      .rw[dq m];exact Vb f I N i u E V y C F n (λa b=>Nat.lt_of_not_le λc=>m ⟨a,b,c⟩)
     .rw[dt F];obtain⟨n1,Q,a1,a2,Z⟩:=B5 F;obtain⟨_,o,S,W⟩:=f.nmI n1 Q;have l:A2 r.nms q.id t=o.id:=by rw[<-Z,<-W]
      rw[l,f.byId S];split
      .exact f
      .rename_i w
       have w:=an.1 w;have B:=Ju w;obtain⟨D,L,hpd,z,G,R⟩:=J4 f I hp hk N S l (λe=>j (by rw[l,e])) B.2 u E y;refine Vb D L z i G E V y C (by rw[<-Rs,R];rfl) (λa M=>n a (Z2f f D Z5m M q z rfl i)) (λa _=>Xr f N i S (B.1.2 (by simp[a])) l)
theorem Mv {r:RFs}{h:Int × Int}{s:ByteArray}(b:B1 r h s false=0):Ab r h=0/\Ad s=true:=by
 unfold B1 at b;split at b
 .rename_i a;exact du b a
 .rename_i a
  refine⟨an.1 a,?_⟩;rw[dq (by simp)] at b;split at b
  .assumption
  .cases b
theorem Z9u {r:RFs}{K:Nat}(i:Wf r K)(h d:Int × Int)(s:ByteArray):Wf (E9 r h d s).1 (K+1):=by
 have f:=i.up (Nat.le_succ K);unfold E9;split
 .exact f
 .rename_i a
  split
  .exact f
  .rename_i b
   split
   .exact f
   .rename_i c
    split
    .exact f
    .rename_i e
     split
     .exact f
     .rename_i q
      obtain⟨v,u⟩:=Mv (an.1 b);obtain⟨n,k⟩:=Bn v;obtain⟨j,g,_⟩:=Ac n;obtain⟨l,m,_⟩:=Ac (by simpa using a:Aj r h=true);have:=Z4g i j k l c u (by rw[g];exact an.1 e) (by omega);rw[g,m] at this;exact this
theorem Z18 {r:RFs}{K:Nat}(a:Wf r K)(h:Int × Int)(s:ByteArray)(fo:Bool):Wf (C3 r h s fo).1 K:=by
 unfold C3;split
 .exact a
 .rename_i b
  split
  .exact a
  .rename_i e
   split
   .exact a
   .rename_i c
    obtain⟨i,_⟩:=Mv (an.1 b);obtain⟨g,k⟩:=Bn i;obtain⟨j,f,_⟩:=Ac g;have:=Z2u (d:=A3 r.ins h.1) (s:=s) a (by rw[f];exact e) (by rw[f];exact(Ju (an.1 c)).2);rw[f] at this;exact this
theorem Ud {r:RFs}{K:Nat}(j:Wf r K)(h:Int × Int)(s:ByteArray)(m:RMk):Wf (D7 r h s m).1 (K+1):=by
 have f:=j.up (Nat.le_succ K);unfold D7;split
 .exact f
 .rename_i a
  split
  .exact f
  .rename_i b
   split
   .exact f
   .rename_i c
    split
    .exact f
    .rename_i d
     split
     .exact f
     .rename_i e
      obtain⟨v,u⟩:=Mv (an.1 a);obtain⟨n,l⟩:=Bn v;obtain⟨k,i,_⟩:=Ac n;have:=Z8e (g:=h.2) j k l u (by simpa using b) (by rw[i];exact an.1 c) (λq=>by omega) (by omega);rw[i] at this;exact this
theorem Qu {r:RFs}{h:Int × Int}(c:B9 r h=0):A3 r.ins h.1∈r.ins/\(A3 r.ins h.1).kind=1:=by
 unfold B9 at c;split at c
 .rename_i a
  split at c
  .rename_i b
   exact⟨(Ac a).1,b⟩
  .split at c<;>cases c
 .cases c
theorem Z3x {w:World}{f k m K:Nat}{r:RFs}{N:List Nd}(h:FsN w f k m r N)(c:Wf r K)(hd:Int × Int)(a:Int)(b:List UInt8)(t:Int):Wf (Bz r hd a b t).1 K:=by
 unfold Bz;split
 .exact c
 .rename_i a1
  split
  .exact c
  .split
   .exact c
   .rename_i a3
    obtain⟨i,j⟩:=Qu (an.1 a1);obtain⟨n,z,hr⟩:=h.at_ c i;obtain⟨sz,bl,_,g⟩:=hr.file j;refine Z20 c i j _ _ _ ?_;have u:=Ek (Nz g a b);have v:=Ek g;have A:=Rx g a b.length;have y:=Y1 (bl:=bl) a b;have l:¬Kh r < (H8 (A3 r.ins hd.1).On a b.length:Int):=λe=>a3 (.inl e);unfold Kh at l;omega
theorem Zbs {r:RFs}{K:Nat}(a:Wf r K)(hd:Int × Int)(n t:Int):Wf (Fm r hd n t).1 K:=by
 unfold Fm;split
 .exact a
 .rename_i a1
  split
  .exact a
  .split
   .exact a
   .obtain⟨b,c⟩:=Qu (an.1 a1);refine Z20 a b c _ _ _ ?_;have e:(V9 (A3 r.ins hd.1).B (A3 r.ins hd.1).On n).length<=(A3 r.ins hd.1).On.length:=by
     unfold V9;split
     .exact ah _ _
     .exact au _
    have f:=a.sp;unfold Do;omega
end Go.Proofs.YtmmdikhljefeiaaGreat
