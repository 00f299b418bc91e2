
import Derived.Test.YtmmdikhljefeiaaGreatOP
import Derived.Test.YtmmdikhljefeiaaGreatLaM
import Derived.Test.YtmmdikhljefeiaaGreatYFsR
import Derived.Test.YtmmdikhljefeiaaGreatWA
import Derived.Test.YtmmdikhljefeiaaGreatYFsS
import Derived.LaidEqlPtr
namespace Go.Proofs.YtmmdikhljefeiaaGreat
open Go.RowKit Go.MapKept
section
variable {r:RFs} {K:Nat} {x d:RIn}
theorem Wf.up {a:Nat}(h:Wf r K)(c:K<=a):Wf r a :=
 {h with genK:=λg b=>by have:=h.genK g b;omega,nmK:=by have:=h.nmK;omega}
theorem Dm {room:Int}{y:RIn}(h:y∈(Fc room).ins):y=⟨1,1,2,493,0,1,Jr,[],[]⟩:=by unfold Fc at h;simpa using h
theorem Ut {room:Int}(hr:room<=9223372036854775807):Wf (Fc room) 0 where
 ids:=by unfold Fc;simp
 rng:=λy a=>by rw[Dm a];decide
 gen:=λy a=>by rw[Dm a];exact⟨rfl,by decide⟩
 genK:=λg e=>by unfold Fc at e;simp at e;omega
 genL:=by unfold Fc;simp
 kind:=λy a=>by rw[Dm a];decide
 root:=⟨_,by unfold Fc;exact bx.2 rfl,rfl,rfl,rfl,rfl⟩
 nmD:=λn b=>by unfold Fc at b;simp at b
 nmI:=λn b=>by unfold Fc at b;simp at b
 nmV:=λn b=>by unfold Fc at b;simp at b
 uniq:=by unfold Fc;simp
 one:=λy a _ c=>by rw[Dm a] at c;exact dt rfl c
 some:=λy a c=>by rw[Dm a] at c;exact dt rfl c
 par:=λy a _=>⟨y,a,by rw[Dm a],by rw[Dm a]⟩
 tree:=⟨λ_=>0,λy a _ c=>by rw[Dm a] at c;exact dt rfl c⟩
 nmK:=by unfold Fc;simp
 lim:=λy a=>by rw[Dm a];unfold A5 Fc;simp
 file:=λy a _=>by rw[Dm a];exact⟨rfl,rfl⟩
 link:=λy a _=>by rw[Dm a]
 rm:=by unfold Fc;dsimp only;omega
 sp:=by unfold Fc;simp;omega
theorem Lb {r:RFs}{x y:RIn}:y∈(Hn r x).ins↔y∈r.ins/\y.id≠x.id\/y=x:=by unfold Hn;simp
theorem Xv {α:Type}(g:α->Nat)(p:α->Bool)(l:List α):((l.filter p).map g).sum<=(l.map g).sum:=by
 induction l with
 | nil=>simp
 | cons a l ih =>
  rw[List.filter_cons];split<;>simp<;>omega
theorem Up {l:List RIn}(b:(l.map (·.id)).Nodup)(a:x∈l)(g:RIn->Nat):((l.filter λy=>decide (y.id≠x.id)).map g).sum+g x=(l.map g).sum:=by
 induction l with
 | nil=>simp at a
 | cons y l ih =>
  simp only[List.map_cons,List.nodup_cons] at b;rw[List.filter_cons];rcases bq.1 a with rfl | a
  .have h:(l.filter λy=>decide (y.id≠x.id))=l:=by
    rw[List.filter_eq_self];intro z f;simp only[decide_eq_true_eq];exact λe=>b.1 (by rw[<-e];exact bk.2 ⟨z,f,rfl⟩)
   rw[dp (by simp),h];simp;omega
  .have c:y.id≠x.id:=λe=>b.1 (by rw[e];exact bk.2 ⟨x,a,rfl⟩);rw[dq (by simpa using c)];have:=ih b.2 a;simp only[List.map_cons,List.sum_cons];omega
theorem Uk (h:Wf r K)(x:RIn):((Hn r x).ins.map (·.id)).Nodup:=by unfold Hn;dsimp only;rw[ba,List.nodup_append];refine⟨(h.ids.sublist (List.filter_sublist.map _)),by simp,?_⟩;intro a ha b c;obtain⟨y,e,rfl⟩:=bk.1 ha;simp at c;have:=(af.1 e).2;simp at this;rw[c];exact this
theorem Z05 (h:Wf r K)(v:x∈r.ins)(F:x.kind=1)(B:List UInt8)(On:List Nat)(t:Int)(H:(Dn r:Int)+On.length<=r.room+x.On.length):Wf (Hn r (Gl x B On t)) K:=by
 have J:=Jp h v (x':=Gl x B On t) rfl rfl;have l:∀y,y∈(Hn r (Gl x B On t)).ins->∃z∈r.ins,z.id=y.id/\z.gen=y.gen/\z.kind=y.kind/\z.parent=y.parent/\z.target=y.target/\(y.kind≠1->z.B=y.B/\z.On=y.On):=λy b=>by
  rcases Lb.1 b with⟨O,_⟩ | rfl
  .exact⟨y,O,rfl,rfl,rfl,rfl,rfl,λ_=>⟨rfl,rfl⟩⟩
  .exact⟨x,v,rfl,rfl,rfl,rfl,rfl,λe=>dt F e⟩
 have m:∀z∈r.ins,∃y∈(Hn r (Gl x B On t)).ins,z.id=y.id/\z.gen=y.gen/\z.kind=y.kind/\z.parent=y.parent:=λz a=>by
  by_cases e:z.id=x.id
  .have:z=x:=by rw[<-h.byId a,e,h.byId v]
   subst this;exact⟨_,Lb.2 (.inr rfl),rfl,rfl,rfl,rfl⟩
  .exact⟨z,Lb.2 (.inl ⟨a,e⟩),rfl,rfl,rfl,rfl⟩
 refine {ids:=Uk h _,rng:=λy b=>?_,gen:=λy b=>?_,genK:=h.genK,genL:=h.genL,kind:=λy b=>?_,root:=?_,nmD:=λn C=>?_,nmI:=λn C=>?_,nmV:=h.nmV,uniq:=h.uniq,one:=λy b D A=>?_,some:=λy b q=>?_,par:=λy b q=>?_,tree:=?_,nmK:=h.nmK,lim:=λy b=>?_,file:=λy b q=>?_,link:=λy b q=>?_,rm:=h.rm,sp:=?_}
 .obtain⟨z,a,c,g,f,i,k,j⟩:=l y b;rw[<-c];exact h.rng z a
 .obtain⟨z,a,c,g,f,i,k,j⟩:=l y b;rw[<-c,<-g];exact h.gen z a
 .obtain⟨z,a,c,g,f,i,k,j⟩:=l y b;rw[<-f];exact h.kind z a
 .obtain⟨z,a,c,g,f,i⟩:=h.root;obtain⟨y,b,a1,a2,u,w⟩:=m z a;exact⟨y,b,a1 ▸ c,a2 ▸ g,u ▸ f,w ▸ i⟩
 .obtain⟨z,a,c,g⟩:=h.nmD n C;obtain⟨y,b,a1,a2,u,w⟩:=m z a;exact⟨y,b,a1 ▸ c,u ▸ g⟩
 .obtain⟨G,z,a,c⟩:=h.nmI n C;obtain⟨y,b,a1,a2,u,w⟩:=m z a;exact⟨G,y,b,a1 ▸ c⟩
 .obtain⟨z,a,c,g,f,i,k,j⟩:=l y b;have:=h.one z a (f.trans D) (λe=>A (c ▸ e));rw[c,i] at this;exact this
 .obtain⟨z,a,c,g,f,i,k,j⟩:=l y b;have:=h.some z a (λe=>q (f ▸ e));rw[c] at this;exact this
 .obtain⟨z,a,c,g,f,i,k,j⟩:=l y b;obtain⟨p,L,M,I⟩:=h.par z a (f.trans q);obtain⟨N,E,a1,a2,u,w⟩:=m p L;exact⟨N,E,by rw[<-a1,M,i],u ▸ I⟩
 .obtain⟨ρ,hρ⟩:=h.tree;refine⟨ρ,λy b D A=>?_⟩;obtain⟨z,a,c,g,f,i,k,j⟩:=l y b;rw[<-i,<-c];exact hρ z a (f.trans D) (λe=>A (c ▸ e))
 .rw[J];obtain⟨z,a,c,g,f,i,k,j⟩:=l y b;rw[E1 (r:=r) (r':=r) (x:=z) (x':=y) c.symm f.symm rfl (λ_ _=>Iff.rfl)];exact h.lim z a
 .obtain⟨z,a,c,g,f,i,k,j⟩:=l y b;rw[<-(j q).1,<-(j q).2];exact h.file z a (λe=>q (f ▸ e))
 .obtain⟨z,a,c,g,f,i,k,j⟩:=l y b;rw[<-k];exact h.link z a (λe=>q (f ▸ e))
 .have:=Up h.ids v (λy=>y.On.length);unfold Dn at H;unfold Hn Gl;dsimp only;rw[ba,List.sum_append];simp only[List.map_cons,List.map_nil,List.sum_cons,List.sum_nil];omega
theorem Du {l:List RNm}{dir:Int}{s:ByteArray}{K:Nat}{r:RFs}(h:Wf r K)(f:∀n∈l,n∈r.nms)(a:A2 l dir s=0):∀n∈l,¬(n.dir=dir/\n.name=s):=by
 intro n c e;unfold A2 at a;cases hf:l.find? λn=>decide (n.dir=dir/\n.name=s) with
 | none =>
  have:=List.find?_eq_none.1 hf n c;simp at this;exact this e.1 e.2
 | some m =>
  rw[hf] at a;have g:=List.mem_of_find?_eq_some hf;obtain⟨_,y,b,i⟩:=h.nmI m (f m g);have:=h.rng y b;simp at a;omega
theorem Pc {l:List RNm}(f:l.Pairwise λa b=>¬(a.dir=b.dir/\a.name=b.name)){m:RNm}(e:∀n∈l,¬(n.dir=m.dir/\n.name=m.name)):(l++[m]).Pairwise λa b=>¬(a.dir=b.dir/\a.name=b.name):=by rw[List.pairwise_append];refine⟨f,by simp,λa ha b c=>?_⟩;simp at c;subst c;exact e a ha
theorem Z37 (h:Wf r K)(hd:d∈r.ins)(u:d.kind=2)(j:x∈r.ins)(c:x.kind≠2){s:ByteArray}(w:Ae s=true)(C:A2 r.nms d.id s=0)(G:A5 r x < 20):Wf (Ai r d.id s x.id) (K+1):=by
 have l:x.id≠1:=λe=>by obtain⟨z,v,D,E,B,F⟩:=h.root;have a:=h.byId j;rw[e,<-D,h.byId v] at a;rw[<-a] at c;exact c B
 have k:∀n,n∈(Ai r d.id s x.id).nms↔n∈r.nms\/n=⟨d.id,s,x.id⟩:=λn=>by unfold Ai;simp
 have i:=E2 r d.id s x.id;rw[h.byId j] at i;refine {h.up (Nat.le_succ K) with nmD:=λn b=>?_,nmI:=λn b=>?_,nmV:=λn b=>?_,uniq:=?_,one:=λy g m A=>?_,some:=λy g q=>?_,nmK:=?_,lim:=λy g=>?_}
 .rcases(k n).1 b with f | rfl
  .exact h.nmD n f
  .exact⟨d,hd,rfl,u⟩
 .rcases(k n).1 b with f | rfl
  .exact h.nmI n f
  .exact⟨l,x,j,rfl⟩
 .rcases(k n).1 b with f | rfl
  .exact h.nmV n f
  .exact w
 .exact Pc h.uniq (Du h (λ_ b=>b) C)
 .unfold Ai;dsimp only;rw[List.filter_append,ba,h.one y g m A];have:¬x.id=y.id:=λe=>by
   have a:=h.byId j;rw[e,h.byId g] at a;rw[a] at m;exact c m
  simp[this]
 .obtain⟨n,b,e⟩:=h.some y g q;exact⟨n,(k n).2 (.inl b),e⟩
 .unfold Ai;have:=h.nmK;simp;omega
 .rw[i];have f:=h.lim y g;by_cases q:y.kind=2
  .rw[dq q,dp (λe=>c e.2)];exact f
  .rw[dp q];by_cases e:x.id=y.id
   .have:x=y:=by rw[<-h.byId j,e,h.byId g]
    subst this;rw[dq rfl];omega
   .rw[dp e];exact f
theorem Wf.uniq_eq (h:Wf r K){n m:RNm}(v:n∈r.nms)(w:m∈r.nms)(u:n.dir=m.dir)(j:n.name=m.name):n=m:=by
 obtain⟨a,ha,e⟩:=List.getElem_of_mem v;obtain⟨b,l,c⟩:=List.getElem_of_mem w;have k:=List.pairwise_iff_getElem.1 h.uniq;rcases Nat.lt_trichotomy a b with g | f | i
 .exact dt ⟨by rw[e,c];exact u,by rw[e,c];exact j⟩ (k a b ha l g)
 .subst f;exact e.symm.trans c
 .exact dt ⟨by rw[e,c];exact u.symm,by rw[e,c];exact j.symm⟩ (k b a l ha i)
theorem Yv (h:Wf r K){s:ByteArray}(he:A2 r.nms d.id s≠0)(hm:(A3 r.ins (A2 r.nms d.id s)).kind=2->Dz r.nms (A3 r.ins (A2 r.nms d.id s)).id=0):Wf (Au r d.id s) K:=by
 obtain⟨n0,k,Q,P,e3⟩:=B4 he;obtain⟨C,x,Y,F⟩:=h.nmI n0 k;have hid:A2 r.nms d.id s=x.id:=by rw[<-e3,<-F]
 have v:A3 r.ins x.id=x:=h.byId Y;rw[hid,v] at hm;have J:=Dx h k;rw[Q,P] at J;have i:∀n∈(A7 r d.id s).nms,n∈r.nms/\¬(n.dir=d.id/\n.name=s):=λn c=>by have:=af.1 c;refine⟨this.1,?_⟩;have V:=this.2;rw[Bool.not_eq_true',decide_eq_false_iff_not] at V;exact V
 have l:∀n∈r.nms,n.id≠x.id->n∈(A7 r d.id s).nms:=λn c q=>by refine af.2 ⟨c,?_⟩;rw[Bool.not_eq_true',decide_eq_false_iff_not];intro e;have:=h.uniq_eq c k (e.1.trans Q.symm) (e.2.trans P.symm);rw[this] at q;exact q F.symm
 have E:∀y∈r.ins,y.id=x.id->y=x:=λy f e=>by rw[<-h.byId f,e,v]
 have w:∀y:RIn,y.id≠x.id->(A7 r d.id s).nms.filter (λn=>decide (n.id=y.id))=r.nms.filter (λn=>decide (n.id=y.id)):=λy f=>by
  unfold A7;dsimp only;rw[List.filter_filter];apply List.filter_congr;intro n c;by_cases q:n.id=y.id
  .have:=(af.1 (l n c (λe=>f (q.symm.trans e)))).2;simp only[q,decide_true,Bool.true_and];exact this
  .simp[q]
 have A:(A7 r d.id s).nms.length<=r.nms.length:=ah _ _;have M:∀y,A5 (A7 r d.id s) y<=A5 r y:=λy=>by have:=J y;omega
 by_cases L:x.kind=2\/A5 (A7 r d.id s) x=0
 .rw[show Au r d.id s=Hk (A7 r d.id s) x.id by unfold Au;rw[hid,v,dq L]];have O:∀n∈(A7 r d.id s).nms,n.id≠x.id:=λn c e=>by
   obtain⟨a,b⟩:=i n c;rcases L with q | q
   .have:=h.one_name Y q (by rw[F];exact C) a k e F.symm;exact b ⟨this.1.trans Q,this.2.trans P⟩
   .by_cases H:x.kind=2
    .have:=h.one_name Y H (by rw[F];exact C) a k e F.symm;exact b ⟨this.1.trans Q,this.2.trans P⟩
    .unfold A5 at q;rw[dp H] at q;rw[List.countP_eq_zero] at q;have:=q n c;simp[e] at this
  have W:∀n∈r.nms,x.kind=2->n.dir≠x.id:=λn c q e=>by have:=hm q;unfold Dz at this;rw[List.countP_eq_zero] at this;have:=this n c;simp[e] at this
  have T:∀y,A5 (Hk (A7 r d.id s) x.id) y=A5 (A7 r d.id s) y:=Lt λn c U=>dt U (O n c);have g:∀y,y∈(Hk (A7 r d.id s) x.id).ins↔y∈r.ins/\y.id≠x.id:=λy=>by unfold Hk A7;simp
  have B:∀p∈r.ins,p.kind=2->(∃n∈r.nms,n.dir=p.id)->p.id≠x.id:=λp m q ⟨n,c,e⟩ X=>by have:=E p m X;subst this;exact W n c q e
  have I:∀z∈r.ins,z.id=1->z.id≠x.id:=λz _ e X=>C (by rw[<-F,<-X,e]);refine {ids:=h.ids.sublist (List.filter_sublist.map _),rng:=λy f=>h.rng y ((g y).1 f).1,gen:=λy f=>h.gen y ((g y).1 f).1,genK:=h.genK,genL:=h.genL,kind:=λy f=>h.kind y ((g y).1 f).1,root:=?_,nmD:=λn c=>?_,nmI:=λn c=>?_,nmV:=λn c=>h.nmV n (i n c).1,uniq:=h.uniq.filter _,one:=λy f G H=>?_,some:=λy f q=>?_,par:=λy f q=>?_,tree:=?_,nmK:=cn A h.nmK,lim:=λy f=>?_,file:=λy f=>h.file y ((g y).1 f).1,link:=λy f=>h.link y ((g y).1 f).1,rm:=h.rm,sp:=?_}
  .obtain⟨z,R,a1,a2,a3,a4⟩:=h.root;exact⟨z,(g z).2 ⟨R,I z R a1⟩,a1,a2,a3,a4⟩
  .obtain⟨p,m,a1,a2⟩:=h.nmD n (i n c).1;exact⟨p,(g p).2 ⟨m,B p m a2 ⟨n,(i n c).1,a1.symm⟩⟩,a1,a2⟩
  .obtain⟨a0,p,m,a1⟩:=h.nmI n (i n c).1;exact⟨a0,p,(g p).2 ⟨m,by rw[a1];exact O n c⟩,a1⟩
  .obtain⟨j,u⟩:=(g y).1 f;show((A7 r d.id s).nms.filter λn=>decide (n.id=y.id)).map (·.dir)=_;rw[w y u];exact h.one y j G H
  .obtain⟨j,u⟩:=(g y).1 f;obtain⟨n,c,e⟩:=h.some y j q;exact⟨n,l n c (by rw[e];exact u),e⟩
  .obtain⟨j,u⟩:=(g y).1 f;obtain⟨p,m,a1,a2⟩:=h.par y j q;refine⟨p,(g p).2 ⟨m,?_⟩,a1,a2⟩;by_cases G:y.id=1
   .obtain⟨z,R,b1,b2,b3,b4⟩:=h.root;have:y=z:=by rw[<-h.byId j,G,<-b1,h.byId R]
    subst this;exact I p m (by rw[a1,b4])
   .have ho:=h.one y j q G;have:y.parent∈(r.nms.filter λn=>decide (n.id=y.id)).map (·.dir):=by rw[ho];simp
    obtain⟨n,c,e⟩:=bk.1 this;exact B p m a2 ⟨n,(af.1 c).1,e.trans a1.symm⟩
  .obtain⟨ρ,hρ⟩:=h.tree;exact⟨ρ,λy f=>hρ y ((g y).1 f).1⟩
  .rw[T];exact cn (M y) (h.lim y ((g y).1 f).1)
  .have:=Xv (λy:RIn=>y.On.length) (λy=>decide (y.id≠x.id)) r.ins;have V:=h.sp;show(((((r.ins.filter λy=>decide (y.id≠x.id)).map λy=>y.On.length).sum:Nat)):Int)<=r.room;omega
 .rw[show Au r d.id s=A7 r d.id s by unfold Au;rw[hid,v,dp L]];have N:x.kind≠2:=λe=>L (.inl e);have D:A5 (A7 r d.id s) x≠0:=λe=>L (.inr e);refine {h with nmD:=λn c=>h.nmD n (i n c).1,nmI:=λn c=>h.nmI n (i n c).1,nmV:=λn c=>h.nmV n (i n c).1,uniq:=h.uniq.filter _,one:=λy f G H=>?_,some:=λy f q=>?_,nmK:=cn A h.nmK,lim:=λy f=>cn (M y) (h.lim y f)}
  .have S:y.id≠x.id:=λe=>N (by rw[<-E y f e];exact G);rw[w y S];exact h.one y f G H
  .by_cases e:y.id=x.id
   .have:=E y f e;subst this;unfold A5 at D;rw[dp N] at D;have:=List.countP_pos_iff.1 (Nat.pos_of_ne_zero D);obtain⟨n,c,q3⟩:=this;exact⟨n,c,by simpa using q3⟩
   .obtain⟨n,c,Z⟩:=h.some y f q;exact⟨n,l n c (by rw[Z];exact e),Z⟩
end
section
variable {r:RFs} {K:Nat} {x d:RIn}
theorem Vw (h:Wf r K)(u:r.ins.length < 200):1<=Df r.ins/\Df r.ins<=200/\∀y∈r.ins,y.id≠Df r.ins:=by
 have g:∃j:Nat,j < 201/\(A3 r.ins ((j:Int)+1)).id=0:=cg λn=>by have:=Nw h (j:=201) (λk a e=>n ⟨k,a,e⟩);omega
 have b:∃j:Nat,(j < 201/\(A3 r.ins ((j:Int)+1)).id=0)/\∀k,k < j->(A3 r.ins ((k:Int)+1)).id≠0:=by
  obtain⟨j,f⟩:=g
  induction j using Nat.strongRecOn with
  | ind j ih =>
   by_cases q:∃k,k < j/\(A3 r.ins ((k:Int)+1)).id=0
   .obtain⟨k,a,e⟩:=q;exact ih k a ⟨by omega,e⟩
   .exact⟨j,f,λk a e=>q ⟨k,a,e⟩⟩
 obtain⟨j,⟨f,c⟩,l⟩:=b;have m:=Nw h l;rw[Jf f c l];refine⟨by omega,by omega,λy i e=>?_⟩;have:=h.byId i;rw[e] at this;rw[this] at c;exact h.ne0 i c
theorem Zbg {s:ByteArray}(h:s.size=0):s=Jr:=by obtain⟨a⟩:=s;have:a=#[]:=Array.eq_empty_of_size_eq_zero h;rw[this];rfl
theorem Z8m (h:Wf r K)(hd:d∈r.ins)(L:d.kind=2){s:ByteArray}{m:RMk}{g:Int}(W:Ae s=true)(hr:Cw m=true)(Y:A2 r.nms d.id s=0)(S:m.kind=2->A5 r d < 20)(X:r.ins.length < 200) :
  Wf (Ai (Id r (Fa r (d.id,g) m)) d.id s (Df r.ins)) (K+1):=by
 obtain⟨N,P,l⟩:=Vw h X;unfold Cw at hr;obtain⟨r1,r2,r3,r4,r5,r6,r7,Z⟩:=of_decide_eq_true hr;obtain⟨x,v⟩:∃x,Fa r (d.id,g) m=x:=⟨_,rfl⟩;have J:x.id=Df r.ins:=by rw[<-v];rfl
 have T:x.gen=Aq r.gens x.id+1:=by rw[J,<-v];rfl
 have M:x.kind=m.kind:=by rw[<-v];rfl
 have I:x.parent=d.id:=by rw[<-v];rfl
 have Q:x.B=[]/\x.On=[]:=by rw[<-v];exact⟨rfl,rfl⟩
 have U:x.target=m.target:=by rw[<-v];rfl
 rw[v,<-J];rw[<-J] at N P l;clear v;have F:x.id≠1:=λe=>by obtain⟨z,D,a,_⟩:=h.root;exact l z D (a.trans e.symm)
 have k:∀y,y∈(Ai (Id r x) d.id s x.id).ins↔y∈r.ins\/y=x:=λy=>by unfold Ai Id;simp
 have u:∀n,n∈(Ai (Id r x) d.id s x.id).nms↔n∈r.nms\/n=⟨d.id,s,x.id⟩:=λn=>by unfold Ai Id;simp
 have C:∀j,Aq (Ai (Id r x) d.id s x.id).gens j=if j=x.id then Aq r.gens x.id+1 else Aq r.gens j:=Je r.gens (by omega);have w:∀n∈r.nms,n.id≠x.id:=λn u e=>by obtain⟨_,z,D,a⟩:=h.nmI n u;exact l z D (a.trans e)
 have V:=Px h x.id;refine {ids:=?_,rng:=λy f=>?_,gen:=λy f=>?_,genK:=λg C=>?_,genL:=?_,kind:=λy f=>?_,root:=?_,nmD:=λn i=>?_,nmI:=λn i=>?_,nmV:=λn i=>?_,uniq:=?_,one:=λy f E G=>?_,some:=λy f q=>?_,par:=λy f q=>?_,tree:=?_,nmK:=?_,lim:=λy f=>?_,file:=λy f q=>?_,link:=λy f q=>?_,rm:=h.rm,sp:=?_}
 .unfold Ai Id;dsimp only;rw[ba,List.nodup_append];refine⟨h.ids,by simp,λa ha b O=>?_⟩;obtain⟨y,f,rfl⟩:=bk.1 ha;simp at O;rw[O];exact l y f
 .rcases(k y).1 f with c | rfl
  .exact h.rng y c
  .exact⟨N,P⟩
 .rw[C];rcases(k y).1 f with c | rfl
  .rw[dp (l y c)];exact h.gen y c
  .rw[dq rfl];exact⟨T,by omega⟩
 .have C:g∈By r.gens x.id:=C;unfold By at C;rcases cx C with c | c
  .rcases cd.1 c with H | H
   .have:=h.genK g H;omega
   .have:=(List.mem_replicate.1 H).2;omega
  .omega
 .show(By r.gens x.id).length<=201;unfold By;have:=h.genL;simp;omega
 .rcases(k y).1 f with c | rfl
  .exact h.kind y c
  .omega
 .obtain⟨z,D,a⟩:=h.root;exact⟨z,(k z).2 (.inl D),a⟩
 .rcases(u n).1 i with c | rfl
  .obtain⟨p,A,a⟩:=h.nmD n c;exact⟨p,(k p).2 (.inl A),a⟩
  .exact⟨d,(k d).2 (.inl hd),rfl,L⟩
 .rcases(u n).1 i with c | rfl
  .obtain⟨R,p,A,a⟩:=h.nmI n c;exact⟨R,p,(k p).2 (.inl A),a⟩
  .exact⟨F,x,(k x).2 (.inr rfl),rfl⟩
 .rcases(u n).1 i with c | rfl
  .exact h.nmV n c
  .exact W
 .exact Pc h.uniq (Du h (λ_ u=>u) Y)
 .show((r.nms++[(⟨d.id,s,x.id⟩:RNm)]).filter λn:RNm=>decide (n.id=y.id)).map (λn:RNm=>n.dir)=_;rw[List.filter_append,ba];rcases(k y).1 f with c | rfl
  .rw[h.one y c E G];have:¬x.id=y.id:=λe=>l y c e.symm;simp[this]
  .rw[List.filter_eq_nil_iff.2 (λn i=>by simpa using w n i)];simp[I]
 .rcases(k y).1 f with c | rfl
  .obtain⟨n,i,e⟩:=h.some y c q;exact⟨n,(u n).2 (.inl i),e⟩
  .exact⟨_,(u _).2 (.inr rfl),rfl⟩
 .rcases(k y).1 f with c | rfl
  .obtain⟨p,A,a⟩:=h.par y c q;exact⟨p,(k p).2 (.inl A),a⟩
  .exact⟨d,(k d).2 (.inl hd),I.symm,L⟩
 .obtain⟨ρ,hρ⟩:=h.tree;refine⟨λj=>if j=x.id then ρ d.id+1 else ρ j,λy f E G=>?_⟩;dsimp only;rcases(k y).1 f with c | rfl
  .obtain⟨p,A,a,_⟩:=h.par y c E;rw[dp (l y c),<-a,dp (l p A),a];exact hρ y c E G
  .rw[dq rfl,I,dp (l d hd)];omega
 .have:=h.nmK;show(r.nms++[_]).length<=_;simp;omega
 .rcases(k y).1 f with c | rfl
  .rw[Ll h l s c];have:=h.lim y c;split
   .rename_i q
    have e:d=y:=by rw[<-h.byId hd,q.2.1,h.byId c]
    have:=S (M.symm.trans q.2.2);rw[e] at this;omega
   .omega
  .rw[H9 h l hd s];split<;>omega
 .rcases(k y).1 f with c | rfl
  .exact h.file y c q
  .exact Q
 .rcases(k y).1 f with c | rfl
  .exact h.link y c q
  .rw[U];exact Zbg (Z (λe=>q (M.trans e)))
 .have:=h.sp;show((((r.ins++[x]).map λy=>y.On.length).sum:Nat):Int)<=r.room;rw[ba,List.sum_append];simp[Q.2];exact this
end
def upP (x:RIn)(q:Int):RIn:={x with parent:=q}
def Ah (r:RFs)(p:Int)(s:ByteArray)(q:Int)(t:ByteArray)(x:RIn):RFs :=
 if x.kind=2 then Hn (Ai (A7 r p s) q t x.id) (upP x q) else Ai (A7 r p s) q t x.id
section
variable {r:RFs} {K:Nat} {x p q:RIn} {s t:ByteArray}
theorem Ck (r:RFs)(p:Int)(s:ByteArray)(q:Int)(t:ByteArray)(x:RIn):(Ah r p s q t x).nms=(r.nms.filter λn=>!decide (n.dir=p/\n.name=s))++[⟨q,t,x.id⟩]:=by unfold Ah;split<;>rfl
theorem Ri (r:RFs)(x:RIn)(p:Int)(s:ByteArray)(q:Int)(t:ByteArray)(y:RIn):y∈(Ah r p s q t x).ins↔y∈r.ins/\(x.kind=2->y.id≠x.id)\/x.kind=2/\y=upP x q:=by
 unfold Ah;by_cases a:x.kind=2
 .rw[dq a,Lb];simp only[a,true_and,forall_const];exact Iff.rfl
 .rw[dp a];simp[a,Ai,A7]
theorem Xq (r:RFs)(p:Int)(s:ByteArray)(q:Int)(t:ByteArray)(b:A3 r.ins x.id=x)(j:Int):(A3 (Ah r p s q t x).ins j).kind=(A3 r.ins j).kind:=by
 unfold Ah;by_cases a:x.kind=2
 .rw[dq a,Qh];show(if j=x.id then _ else _:RIn).kind=_;by_cases e:j=x.id
  .rw[dq e,e,b];rfl
  .rw[dp e];rfl
 .rw[dp a];rfl
theorem C3 (h:Wf r K)(f:x∈r.ins){a:RNm}(c:a∈r.nms)(m:a.id=x.id)(q:Int)(t:ByteArray){y y':RIn}(u:y'.id=y.id)(j:y'.kind=y.kind) :
  A5 (Ah r a.dir a.name q t x) y'+(if y.kind=2/\x.kind=2/\a.dir=y.id then 1 else 0)=A5 r y+(if y.kind=2/\x.kind=2/\q=y.id then 1 else 0):=by
 have k:A5 (Ah r a.dir a.name q t x) y'=A5 (Ai (A7 r a.dir a.name) q t x.id) y:=by refine E1 u j (Ck r a.dir a.name q t x) λn v=>?_;rw[Xq r a.dir a.name q t (h.byId f)];exact Iff.rfl
 have g:=E2 (A7 r a.dir a.name) q t x.id y;have b:=Dx h c y;have l:A3 (A7 r a.dir a.name).ins x.id=x:=h.byId f;rw[l] at g;rw[m,h.byId f] at b;rw[k,g];by_cases e:y.kind=2
 .by_cases i:x.kind=2
  .simp only[e,i,true_and,and_true,if_true] at b⊢;omega
  .simp only[e,i,false_and,and_false,if_false,if_true] at b⊢;omega
 .simp only[e,false_and,if_false] at b⊢;omega
theorem Wn {r:RFs}{a id:Int}(e:id≠1)(c:id≠a):Under r a id↔Under r a (A3 r.ins id).parent:=by
 constructor
 .intro b;cases b with
  | refl=>exact dt rfl c
  | step _ h2=>exact h2
 .exact λb=>Under.step e b
theorem Zp (h:Wf r K){y:RIn}(b:y∈r.ins)(c:y.id≠1)(a:y.id≠x.id):Under r x.id y.id↔Under r x.id y.parent:=by rw[Wn c a,h.byId b]
open Classical in
theorem V5 (h:Wf r K)(X:x∈r.ins)(hq:q∈r.ins)(T:q.kind=2){S:RNm}(E:S∈r.nms)(U:S.dir=p.id)(Z:S.name=s)(e3:S.id=x.id)(hv:Ae t=true)(he:A2 r.nms q.id t=0)
  (hu:x.kind=2->¬Under r x.id q.id) (hl:x.kind=2->p.id≠q.id->A5 r q < 20):Wf (Ah r p.id s q.id t x) K:=by
 have O:x.id≠1:=by rw[<-e3];exact(h.nmI S E).1
 have hlk:=λy y'=>C3 h X E e3 q.id t (y:=y) (y':=y');rw[U,Z] at hlk;have D:=Ri r x p.id s q.id t;have H:=Ck r p.id s q.id t x;generalize L:Ah r p.id s q.id t x=r' at *;have i:r'.gens=r.gens/\r'.room=r.room:=by rw[<-L];unfold Ah;split<;>exact⟨rfl,rfl⟩
 have hqx:x.kind=2->q.id≠x.id:=λk e=>hu k (by rw[e];exact Under.refl);have hxe:∀y∈r.ins,y.id=x.id->y=x:=λy a e=>by rw[<-h.byId a,e,h.byId X]
 have c:∀y∈r'.ins,∃z∈r.ins,z.id=y.id/\z.gen=y.gen/\z.kind=y.kind/\z.target=y.target/\z.B=y.B/\z.On=y.On/\(y.parent=z.parent/\(x.kind=2->z.id≠x.id)\/y.parent=q.id/\z=x/\x.kind=2):=λy a=>by
  rcases(D y).1 a with⟨v,h2⟩ | ⟨v,rfl⟩
  .exact⟨y,v,rfl,rfl,rfl,rfl,rfl,rfl,.inl ⟨rfl,h2⟩⟩
  .exact⟨x,X,rfl,rfl,rfl,rfl,rfl,rfl,.inr ⟨rfl,rfl,v⟩⟩
 have l:∀z∈r.ins,∃y∈r'.ins,z.id=y.id/\z.gen=y.gen/\z.kind=y.kind/\(z.id≠x.id->z.parent=y.parent):=λz f=>by
  by_cases Q:x.kind=2
  .by_cases e:z.id=x.id
   .have:=hxe z f e;subst this;exact⟨upP z q.id,(D _).2 (.inr ⟨Q,rfl⟩),rfl,rfl,rfl,λq=>dt rfl q⟩
   .exact⟨z,(D _).2 (.inl ⟨f,λ_=>e⟩),rfl,rfl,rfl,λ_=>rfl⟩
  .exact⟨z,(D _).2 (.inl ⟨f,λe=>dt e Q⟩),rfl,rfl,rfl,λ_=>rfl⟩
 have F:∀n,n∈r'.nms↔n∈r.nms/\¬(n.dir=p.id/\n.name=s)\/n=⟨q.id,t,x.id⟩:=λn=>by rw[H,cd,af,bx,Bool.not_eq_true',decide_eq_false_iff_not]
 have Y:∀n∈r.nms,n.id≠x.id->n∈r'.nms:=λn m J=>(F n).2 (.inl ⟨m,λe=>J (by rw[h.uniq_eq m E (e.1.trans U.symm) (e.2.trans Z.symm)];exact e3)⟩);have hfil:∀y:RIn,y.id≠x.id->r'.nms.filter (λn=>decide (n.id=y.id))=r.nms.filter (λn=>decide (n.id=y.id)):=λy a=>by
  rw[H,List.filter_append,List.filter_filter];have:¬x.id=y.id:=λe=>a e.symm;simp only[List.filter_cons,List.filter_nil,this,decide_false,Bool.false_eq_true,if_false,List.append_nil];apply List.filter_congr;intro n m;by_cases J:n.id=y.id
  .have:¬(n.dir=p.id/\n.name=s):=λe=>a (by rw[<-J,h.uniq_eq m E (e.1.trans U.symm) (e.2.trans Z.symm)];exact e3);simp only[J,decide_true,Bool.true_and,this,decide_false,Bool.not_false]
  .simp[J]
 refine {ids:=?_,rng:=λy a=>?_,gen:=λy a=>?_,genK:=by rw[i.1];exact h.genK,genL:=by rw[i.1];exact h.genL,kind:=λy a=>?_,root:=?_,nmD:=λn m=>?_,nmI:=λn m=>?_,nmV:=λn m=>?_,uniq:=?_,one:=λy a R N=>?_,some:=λy a k=>?_,par:=λy a k=>?_,tree:=?_,nmK:=?_,lim:=λy a=>?_,file:=λy a k=>?_,link:=λy a k=>?_,rm:=by rw[i.2];exact h.rm,sp:=?_}
 .rw[<-L];unfold Ah;split
  .exact Uk (r:=r) h (upP x q.id)
  .exact h.ids
 .obtain⟨z,f,a1,a2,g,A,I,G,C⟩:=c y a;rw[<-a1];exact h.rng z f
 .obtain⟨z,f,a1,a2,g,A,I,G,C⟩:=c y a;rw[<-a1,<-a2,i.1];exact h.gen z f
 .obtain⟨z,f,a1,a2,g,A,I,G,C⟩:=c y a;rw[<-g];exact h.kind z f
 .obtain⟨z,f,b1,b2,b3,b4⟩:=h.root;obtain⟨y,a,a1,a2,g,A⟩:=l z f;exact⟨y,a,a1 ▸ b1,a2 ▸ b2,g ▸ b3,by rw[<-A (λe=>O (e ▸ b1))];exact b4⟩
 .rcases(F n).1 m with⟨v,_⟩ | rfl
  .obtain⟨z,f,b1,b2⟩:=h.nmD n v;obtain⟨y,a,a1,a2,g,A⟩:=l z f;exact⟨y,a,a1 ▸ b1,g ▸ b2⟩
  .obtain⟨y,a,a1,a2,g,A⟩:=l q hq;exact⟨y,a,a1.symm,g ▸ T⟩
 .rcases(F n).1 m with⟨v,_⟩ | rfl
  .obtain⟨b0,z,f,b1⟩:=h.nmI n v;obtain⟨y,a,a1,a2,g,A⟩:=l z f;exact⟨b0,y,a,a1 ▸ b1⟩
  .obtain⟨y,a,a1,a2,g,A⟩:=l x X;exact⟨O,y,a,a1.symm⟩
 .rcases(F n).1 m with⟨v,_⟩ | rfl
  .exact h.nmV n v
  .exact hv
 .rw[H];exact Pc (h.uniq.filter _) (λn m=>Du h (λ_ m=>m) he n (af.1 m).1)
 .obtain⟨z,f,a1,a2,g,A,I,G,C⟩:=c y a;by_cases e:y.id=x.id
  .have M:z=x:=hxe z f (a1.trans e);subst M;have W:z.kind=2:=g.trans R;rcases C with⟨_,b⟩ | ⟨b,_,_⟩
   .exact dt rfl (b W)
   .rw[H,List.filter_append,List.filter_filter,b];have:(r.nms.filter λn=>decide (n.id=y.id)&&!decide (n.dir=p.id/\n.name=s))=[]:=by
     rw[List.filter_eq_nil_iff];intro n m;by_cases J:n.id=z.id
     .have h9:=h.one_name f W O m E J e3;have:n.dir=p.id/\n.name=s:=⟨h9.1.trans U,h9.2.trans Z⟩;simp[this]
     .rw[e];simp[J]
    rw[this];simp[e]
  .rw[hfil y e];have M:z.id≠x.id:=λe'=>e (a1 ▸ e');have:=h.one z f (g.trans R) (λe'=>N (a1 ▸ e'));rw[a1] at this;rw[this];rcases C with⟨b,_⟩ | ⟨_,b,_⟩
   .rw[b]
   .exact dt (by rw[b]) M
 .obtain⟨z,f,a1,a2,g,A,I,G,C⟩:=c y a;by_cases e:y.id=x.id
  .exact⟨_,(F _).2 (.inr rfl),e.symm⟩
  .obtain⟨n,m,b⟩:=h.some z f (λe'=>k (g ▸ e'));exact⟨n,Y n m (by rw[b,a1];exact e),b.trans a1⟩
 .obtain⟨z,f,a1,a2,g,A,I,G,C⟩:=c y a;rcases C with⟨b,_⟩ | ⟨b,_,_⟩
  .obtain⟨w,hw,c1,c2⟩:=h.par z f (g.trans k);obtain⟨w',P,d1,d2,d3,d4⟩:=l w hw;exact⟨w',P,by rw[<-d1,c1,b],d3 ▸ c2⟩
  .obtain⟨w',P,d1,d2,d3,d4⟩:=l q hq;exact⟨w',P,by rw[<-d1,b],d3 ▸ T⟩
 .obtain⟨ρ,hρ⟩:=h.tree;by_cases Q:x.kind=2
  .refine⟨λj=>if Under r x.id j then ρ j+(ρ q.id+1) else ρ j,λy a R N=>?_⟩;obtain⟨z,f,a1,a2,g,A,I,G,C⟩:=c y a;rw[<-a1] at N⊢;dsimp only;rcases C with⟨b,b'⟩ | ⟨b,rfl,_⟩
   .have hz1:=hρ z f (g.trans R) N;have V:=Zp (x:=x) h f N (b' Q);rw[b];by_cases u:Under r x.id z.id
    .rw[dq u,dq (V.1 u)];omega
    .rw[dp u,dp (λu'=>u (V.2 u'))];exact hz1
   .rw[b,dp (hu Q),dq Under.refl];omega
  .refine⟨ρ,λy a R N=>?_⟩;obtain⟨z,f,a1,a2,g,A,I,G,C⟩:=c y a;rcases C with⟨b,_⟩ | ⟨_,_,b⟩
   .rw[b,<-a1];exact hρ z f (g.trans R) (λe=>N (a1 ▸ e))
   .exact dt b Q
 .have v:=F5 h.uniq E U Z (λ_=>true);have h2:=h.nmK;rw[H];simp only[List.countP_true,if_true] at v;simp only[List.length_append,List.length_cons,List.length_nil];omega
 .obtain⟨z,f,a1,a2,g,A,I,G,C⟩:=c y a;have v:=hlk z y a1.symm g.symm;have h2:=h.lim z f;by_cases c1:z.kind=2/\x.kind=2/\q.id=z.id
  .have hqz:q=z:=by rw[<-h.byId hq,c1.2.2,h.byId f]
   by_cases c2:p.id=z.id
   .rw[dq c1,dq ⟨c1.1,c1.2.1,c2⟩] at v;omega
   .have:=hl c1.2.1 (λe=>c2 (e.trans c1.2.2));rw[dq c1] at v;rw[hqz] at this;omega
  .rw[dp c1] at v;omega
 .obtain⟨z,f,a1,a2,g,A,I,G,C⟩:=c y a;rw[<-I,<-G];exact h.file z f (λe=>k (g ▸ e))
 .obtain⟨z,f,a1,a2,g,A,I,G,C⟩:=c y a;rw[<-A];exact h.link z f (λe=>k (g ▸ e))
 .rw[i.2,<-L];have v:=h.sp;have h2:=Up h.ids X (λy=>y.On.length);unfold Ah;split
  .unfold Hn Ai A7 upP;dsimp only;rw[ba,List.sum_append];simp only[List.map_cons,List.map_nil,List.sum_cons,List.sum_nil];omega
  .exact v
end
theorem NodeR.ne {w:World}{r:RFs}{x:RIn}{n:Nd}(h:NodeR w r x n)(a:x.kind=2):n.big=true/\n.b≠n.m/\n.b≠n.blk/\n.m≠n.blk :=
 ⟨by rw[h.big,a];rfl,λe=>A8 (h.dir a).2 (h.dir a).1 e.symm,Av (h.dir a).1 h.head (by decide),A8 (h.dir a).2 h.head⟩
theorem FsN.uniq {w:World}{f j e K:Nat}{r:RFs}{N:List Nd}(h:FsN w f j e r N)(c:Wf r K){x y:RIn}{n:Nd}(i:x∈r.ins)(a:NodeR w r x n)(g:y∈r.ins)(b:NodeR w r y n):x=y:=by have _:=h;rw[<-c.byId i,<-a.id,b.id,c.byId g]
theorem Ew {w w':World}{f mi mg K:Nat}{r:RFs}{N:List Nd}(h:FsN w f mi mg r N)(T:Wf r K){x p q:RIn}{nx C A:Nd}(hx:x∈r.ins)(P:nx∈N)(H:NodeR w r x nx)(hp:p∈r.ins)(hkp:p.kind=2)(z:C∈N)(L:NodeR w r p C)(hq:q∈r.ins)(hkq:q.kind=2)(v:A∈N)(M:NodeR w r q A)
  {s:ByteArray} {n0:RNm} (hn0:n0∈r.nms) (e1:n0.dir=p.id) (e2:n0.name=s) (e3:n0.id=x.id) (xp:x.id≠p.id) (xq:x.id≠q.id) {t:ByteArray}
  (U:∀k,k < w.heap.size->k≠C.m->k≠A.m->k≠C.blk->k≠A.blk->(x.kind=2->k≠nx.b)->w'.heap[k]?=w.heap[k]?)
  (hmp:MapB w' C.m Ci Aw (Aa (Ah r p.id s q.id t x).nms p.id)) (hmq:MapB w' A.m Ci Aw (Aa (Ah r p.id s q.id t x).nms q.id))
  (hbp:w'.heap[C.blk]?=some (.cells (Ks p (A5 (Ah r p.id s q.id t x) p) C) 143 (0,0))) (hbq:w'.heap[A.blk]?=some (.cells (Ks q (A5 (Ah r p.id s q.id t x) q) A) 143 (0,0)))
  (hxb:x.kind=2->w'.heap[nx.b]?=some (.cells #[.map (some nx.m),.int .i64 q.id] 152 (0,0))):FsN w' f mi mg (Ah r p.id s q.id t x) N:=by
 have S:=λy y'=>C3 T hx hn0 e3 q.id t (y:=y) (y':=y');rw[e1,e2] at S;have D:=Ri r x p.id s q.id t;have hnm:=Ck r p.id s q.id t x;have F:∀i,i≠p.id->i≠q.id->Aa (Ah r p.id s q.id t x).nms i=Aa r.nms i:=λi a b=>by rw[hnm,B1,dp b,Ay,dp a]
 generalize hr':Ah r p.id s q.id t x=r' at *;have I:r'.gens=r.gens/\r'.room=r.room:=by rw[<-hr'];unfold Ah;split<;>exact⟨rfl,rfl⟩
 obtain⟨pb,p1,p2,p3⟩:=L.ne hkp;obtain⟨qb,q1,q2,q3⟩:=M.ne hkq;obtain⟨l1,l2,l3,l4⟩:=h.lt T;have Y:nx≠C:=λe=>xp (by rw[<-H.id,<-L.id,e]);have W:nx≠A:=λe=>xq (by rw[<-H.id,<-M.id,e]);have c:∀{a b:Nd} {i j:Nat},a∈N->b∈N->a≠b->i∈a.foot->j∈b.foot->i≠j:=λha B hne hi hj e=>h.apart ha B hne _ hi (e ▸ hj);have off:∀{k:Nat},(∀n∈N,k ∉ n.foot)->k < w.heap.size->w'.heap[k]?=w.heap[k]?:=λl hl=>U _ hl (λe=>l C z (e ▸ Nd.m_mem pb)) (λe=>l A v (e ▸ Nd.m_mem qb)) (λe=>l C z (e ▸ C.blk_mem)) (λe=>l A v (e ▸ A.blk_mem)) (λu e=>l nx P (e ▸ Nd.b_mem (by rw[H.big,u];rfl)));obtain⟨G,g1,g2⟩:=h.gmap;refine⟨?_,h.imap.of_block (off (λn g=>(h.off n g).2.1) l2),⟨G,g1.of_block (off (λn g=>(h.off n g).2.2) l3),by rw[I.1];exact g2⟩,λn g=>?_,λy R=>?_,h.sep,h.off,h.mm⟩
 .rw[I.2];exact(off (λn g=>(h.off n g).1) l1).trans h.head
 .obtain⟨y,R,hr⟩:=h.node n g;have J:=hr.lt (T.kind y R);by_cases c1:n=nx
  .subst c1;obtain rfl:=h.uniq T hx H R hr;have X:∀y',y'.id=x.id->y'.kind=x.kind->A5 r' y'=A5 r x:=λy' a b=>by
    have:=S x y' a b;rw[dp (λe=>xp e.2.2.symm),dp (λe=>xq e.2.2.symm)] at this;exact this
   have base:∀k∈n.foot,(x.kind=2->k≠n.b)->w'.heap[k]?=w.heap[k]?:=λk l B=>U k (J k l) (c g z Y l (Nd.m_mem pb)) (c g v W l (Nd.m_mem qb)) (c g z Y l C.blk_mem) (c g v W l A.blk_mem) B;by_cases u:x.kind=2
   .obtain⟨xb,x1,x2,x3⟩:=hr.ne u;refine⟨upP x q.id,(D _).2 (.inr ⟨u,rfl⟩),hr.id,?_,hr.big,λe=>?_,λ_=>⟨hxb u,?_⟩⟩
    .rw[X (upP x q.id) rfl rfl];exact(base _ n.blk_mem (λ_=>x2.symm)).trans hr.head
    .have:x.kind=1:=e;omega
    .show MapB w' n.m Ci Aw (Aa r'.nms x.id);rw[F _ xp xq];exact(hr.dir u).2.of_block (base _ (Nd.m_mem xb) (λ_=>x1.symm))
   .exact⟨x,(D _).2 (.inl ⟨hx,λe=>dt e u⟩),hr.keep (λk l=>base k l (λe=>dt e u)) (X x rfl rfl) (λe=>dt e u)⟩
  .have hyx:y.id≠x.id:=λe=>c1 (Ba h.idU g P (by rw[hr.id,H.id,e]));have Q:y∈r'.ins:=(D _).2 (.inl ⟨R,λ_=>hyx⟩);have E:x.kind=2->∀k∈n.foot,k≠nx.b:=λu k l=>c g P c1 l (Nd.b_mem (by rw[H.big,u];rfl));by_cases V:n=C
   .subst V;obtain rfl:=h.uniq T hp L R hr;refine⟨p,Q,hr.mk2 hbp (λB=>?_) (λe=>dt e (by omega)) (λ_=>hmp)⟩;by_cases O:n=A
    .subst O;exact U _ (J _ (Nd.b_mem B)) p1 p1 p2 p2 (λu=>E u _ (Nd.b_mem B))
    .exact U _ (J _ (Nd.b_mem B)) p1 (c g v O (Nd.b_mem B) (Nd.m_mem qb)) p2 (c g v O (Nd.b_mem B) A.blk_mem) (λu=>E u _ (Nd.b_mem B))
   .by_cases O:n=A
    .subst O;obtain rfl:=h.uniq T hq M R hr;exact⟨q,Q,hr.mk2 hbq (λB=>U _ (J _ (Nd.b_mem B)) (c g z V (Nd.b_mem B) (Nd.m_mem pb)) q1 (c g z V (Nd.b_mem B) C.blk_mem) q2 (λu=>E u _ (Nd.b_mem B))) (λe=>dt e (by omega)) (λ_=>hmq)⟩
    .have Z:y.id≠p.id:=λe=>V (Ba h.idU g z (by rw[hr.id,L.id,e]));have hyq:y.id≠q.id:=λe=>O (Ba h.idU g v (by rw[hr.id,M.id,e]));refine⟨y,Q,hr.keep (λk l=>U k (J k l) (c g z V l (Nd.m_mem pb)) (c g v O l (Nd.m_mem qb)) (c g z V l C.blk_mem) (c g v O l A.blk_mem) (λu=>E u k l)) ?_ (λ_=>F _ Z hyq)⟩;have:=S y y rfl rfl;rw[dp (λe=>Z e.2.2.symm),dp (λe=>hyq e.2.2.symm)] at this;exact this
 .rcases(D y).1 R with⟨h1,_⟩ | ⟨_,rfl⟩
  .exact h.all y h1
  .exact h.all x hx
theorem Tr {w:World}{a b:Nat}{k n:Array Value}{u tb:TypeId}(ha:w.heap[a]?=some (.cells k u (0,0)))(l:w.heap[b]?=some (.cells n tb (0,0))) :
  (binOp .neq 134 (.pointer (some ⟨a,0,none⟩)) (.pointer (some ⟨b,0,none⟩))).run Tryz.prog w=.ok (.bool (!decide (a=b))) w:=by
 have v:∃j,Tryz.prog.info? 143=some j/\j.size=6:=by
  have:(Tryz.prog.info? 143).map (·.size)=some 6:=by kernel_rfl
  cases h:Tryz.prog.info? 143 with
  | none=>rw[h] at this;cases this
  | some j=>rw[h] at this;exact⟨j,rfl,by simpa using this⟩
 obtain⟨j,f,m⟩:=v;have c:Tryz.prog.underlying 134=some (.pointer 143):=by kernel_rfl
 by_cases e:a=b
 .subst e;have h:∀d:Nat,(Op.equalIn (d+1) 134 (.pointer (some ⟨a,0,none⟩)) (.pointer (some ⟨a,0,none⟩))).run Tryz.prog w=.ok true w:=λd=>by
   simp[Op.equalIn,run_underlying c,sizeOf,typeInfo,f,run_sameAddr_same]
  simp only[binOp];simp[Op.equal,Op.maxDepth,h 9999]
 .have h:∀d:Nat,(Op.equalIn (d+1) 134 (.pointer (some ⟨a,0,none⟩)) (.pointer (some ⟨b,0,none⟩))).run Tryz.prog w=.ok false w:=λd=>by
   simp[Op.equalIn,run_underlying c,sizeOf,typeInfo,f,m,run_sameAddr_other w (a:=⟨a,0,none⟩) (b:=⟨b,0,none⟩) (λi=>e (by injection i)) ha l]
  simp only[binOp];simp[Op.equal,Op.maxDepth,h 9999,e]
noncomputable def D5 (r:RFs) (h:Int × Int) (s:ByteArray) (g:Int × Int) (t:ByteArray):RFs × Int :=
 if Di r h s g t≠0 then(r,Di r h s g t) else if A2 r.nms h.1 s=0 then(r,170) else if A2 r.nms h.1 s=A2 r.nms g.1 t then(r,0)
 else if(A3 r.ins (A2 r.nms h.1 s)).kind=2/\Be r g.1 (A2 r.nms h.1 s)=true then(r,178)
 else if A2 r.nms g.1 t≠0 then
  (if Fp r (A3 r.ins (A2 r.nms g.1 t)) (decide ((A3 r.ins (A2 r.nms h.1 s)).kind=2))≠0 then(r,Fp r (A3 r.ins (A2 r.nms g.1 t)) (decide ((A3 r.ins (A2 r.nms h.1 s)).kind=2)))
   else(Ah (Au r g.1 t) h.1 s g.1 t (A3 r.ins (A2 r.nms h.1 s)),0))
 else if(A3 r.ins (A2 r.nms h.1 s)).kind=2/\h.1≠g.1/\20<=A5 r (A3 r.ins g.1) then(r,179)
 else(Ah r h.1 s g.1 t (A3 r.ins (A2 r.nms h.1 s)),0)
theorem Yy {w:World}{f A z K:Nat}{r:RFs}{N:List Nd}(h:FsN w f A z r N)(n:Wf r K)(i g:Int)(s:ByteArray)(m:s.size<=maxLen)(c k:Int)(j:ByteArray)(b:j.size<=maxLen)(v:Di r (i,g) s (c,k) j≠0) :
  Calls Tryz.prog 99 #[.pointer (some ⟨f,0,none⟩),.agg #[.int .i64 i,.int .i64 g],.string s,.agg #[.int .i64 c,.int .i64 k],.string j] w
   λe w'=>e=.returned (.tuple #[.agg #[.pointer none,.pointer none,.string ⟨#[]⟩],.agg #[.pointer none,.pointer none,.string ⟨#[]⟩],.int .i64 (Di r (i,g) s (c,k) j)])/\Below w.heap.size w w':=by
 unfold Di at v⊢;dsimp only at v⊢;cases hl:Aj r (i,g)
 .simp only[true_or,if_true];exact Z55 h n i g s m c k j b hl
 .cases hl2:Aj r (c,k)
  .simp only[or_true,if_true];exact Z41 h n i g s m c k j b hl hl2
  .rw[hl,hl2] at v;simp only[Bool.true_eq_false,or_false,if_false] at v⊢;by_cases l:(A3 r.ins i).kind=2
   .by_cases a:(A3 r.ins c).kind=2
    .simp only[l,a,ne_eq,not_true_eq_false,or_false,if_false] at v⊢;by_cases y:Ae s=true
     .by_cases u:Ae j=true
      .simp[y,u] at v
      .simp only[y,u];exact Z34 h n i g s m c k j b hl hl2 l a y u
     .simp only[y];exact Z3v h n i g s m c k j b hl hl2 l a y
    .simp only[a,ne_eq,not_false_eq_true,or_true,if_true];exact Z4o h n i g s m c k j b hl hl2 l a
   .simp only[l,ne_eq,not_false_eq_true,true_or,if_true];by_cases a:(A3 r.ins c).kind=2
    .exact Z5c h n i g s m c k j b hl hl2 l a
    .exact Z5p h n i g s m c k j b hl hl2 l a
theorem N5 {r:RFs}{h g:Int × Int}{s t:ByteArray}(f:Di r h s g t=0):Aj r h=true/\Aj r g=true/\(A3 r.ins h.1).kind=2/\(A3 r.ins g.1).kind=2/\Ae s=true/\Ae t=true:=by
 unfold Di at f;split at f
 .cases f
 .rename_i a
  split at f
  .cases f
  .rename_i b
   split at f
   .rename_i c
    refine⟨?_,?_,?_,?_,c.1,c.2⟩
    .cases hh:Aj r h
     .exact dt (.inl hh) a
     .rfl
    .cases hh:Aj r g
     .exact dt (.inr hh) a
     .rfl
    .exact cg λe=>b (.inl e)
    .exact cg λe=>b (.inr e)
   .cases f
set_option maxRecDepth 100000 in
set_option maxHeartbeats 8000000 in
theorem Wr {w:World}{f mi mg K:Nat}{r:RFs}{N:List Nd}(h:FsN w f mi mg r N)(hW:Wf r K)(i g:Int)(s:ByteArray)(hs:s.size<=maxLen)(i2 g2:Int)(s2:ByteArray)(hs2:s2.size<=maxLen)(he:Di r (i,g) s (i2,g2) s2≠0) :
  Calls Tryz.prog 73 #[.pointer (some ⟨f,0,none⟩),.agg #[.int .i64 i,.int .i64 g],.string s,.agg #[.int .i64 i2,.int .i64 g2],.string s2] w
   λe w'=>e=.returned (.int .i64 (Di r (i,g) s (i2,g2) s2))/\Below w.heap.size w w':=by
 obtain⟨w2,hw2,hB,hz2,hb0,hb1⟩:=Gn w #[.int .i64 i,.int .i64 g] #[.int .i64 i2,.int .i64 g2] 31 31;have t0:w2.cell? ⟨w.heap.size,0,none⟩=some (.int .i64 i):=by rw[A1 hb0];rfl
 have t1:w2.cell? ⟨w.heap.size,1,none⟩=some (.int .i64 g):=by rw[A1 hb0];rfl
 have t2:w2.cell? ⟨w.heap.size+1,0,none⟩=some (.int .i64 i2):=by rw[A1 hb1];rfl
 have t3:w2.cell? ⟨w.heap.size+1,1,none⟩=some (.int .i64 g2):=by rw[A1 hb1];rfl
 have h2:=h.below hW hB;have HW2:=aa hw2;have HB:=aa hB;have HP:=aa (Yy h2 hW i g s hs i2 g2 s2 hs2 he);have hne:(Di r (i,g) s (i2,g2) s2 != 0)=true:=by rw[bne_iff_ne];exact he
 generalize Di r (i,g) s (i2,g2) s2=pe at *;clear hw2 hB hb0 hb1 h h2 hW he
 go_enter Tryz.func73,Tryz.ntmps73
 go_wp2_with fail
 rw[HW2.out]
 go_wp2_with (go_at_call 99;(with_reducible refine HP.out.mono ?_);rintro e w3 ⟨rfl,hB3⟩;have hs3:=hB3.size;replace hB3:=aa hB3)
 go_ret
 have hfin:=HB.out.trans (hB3.out.mono (by omega));exact⟨rfl,(hfin.alloc hfin.size _).alloc (by have:=hfin.size;simp;omega) _⟩
set_option maxRecDepth 100000 in
set_option maxHeartbeats 8000000 in
theorem Te {w:World}{f mi mg K:Nat}{r:RFs}{N:List Nd}(h:FsN w f mi mg r N)(hW:Wf r K)(i g:Int)(s:ByteArray)(hs:s.size<=maxLen)(i2 g2:Int)(s2:ByteArray)(hs2:s2.size<=maxLen)
  {p q:RIn} {np nq:Nd} (_hp:p∈r.ins) (hkp:p.kind=2) (hnp:np∈N) (hrp:NodeR w r p np) (_hq:q∈r.ins) (hkq:q.kind=2) (hnq:nq∈N) (hrq:NodeR w r q nq) (hpi:p.id=i) (hqi:q.id=i2)
  (hl:Aj r (i,g)=true) (hl2:Aj r (i2,g2)=true) (hk:(A3 r.ins i).kind=2) (hk2:(A3 r.ins i2).kind=2) (hv:Ae s=true) (hv2:Ae s2=true) (he:A2 r.nms i s=0) :
  Calls Tryz.prog 73 #[.pointer (some ⟨f,0,none⟩),.agg #[.int .i64 i,.int .i64 g],.string s,.agg #[.int .i64 i2,.int .i64 g2],.string s2] w λe w'=>e=.returned (.int .i64 170)/\Below w.heap.size w w':=by
 obtain⟨w2,hw2,hB,hz2,hb0,hb1⟩:=Gn w #[.int .i64 i,.int .i64 g] #[.int .i64 i2,.int .i64 g2] 31 31;have t0:w2.cell? ⟨w.heap.size,0,none⟩=some (.int .i64 i):=by rw[A1 hb0];rfl
 have t1:w2.cell? ⟨w.heap.size,1,none⟩=some (.int .i64 g):=by rw[A1 hb0];rfl
 have t2:w2.cell? ⟨w.heap.size+1,0,none⟩=some (.int .i64 i2):=by rw[A1 hb1];rfl
 have t3:w2.cell? ⟨w.heap.size+1,1,none⟩=some (.int .i64 g2):=by rw[A1 hb1];rfl
 have h2:=h.below hW hB;have HW2:=aa hw2;have HB:=aa hB;have hrp2:=hrp.below (.inr (.inl hkp)) hB;have hrq2:=hrq.below (.inr (.inl hkq)) hB;have hpl:=Bv h2 hW i g s hs i2 g2 s2 hs2 hl hl2 hk hk2 hv hv2 hnp hnq (hrp.id.trans hpi) (hrq.id.trans hqi);have HP:=aa hpl;have HAt:=aa (show ∀w4,Below w2.heap.size w2 w4->Calls Tryz.prog 59 #[.agg #[.pointer (some ⟨np.blk,0,none⟩),.pointer (some ⟨np.b,0,none⟩),.string s]] w4 λe w'=>e=.returned (.tuple #[.int .i64 (A2 r.nms i s),.bool (decide (A2 r.nms i s≠0))])/\Below w4.heap.size w4 w' from λw4 hb=>by have hr4:=hrp2.below (.inr (.inl hkp)) hb;have:=Bc hr4 hkp (hr4.lt (.inr (.inl hkp))) s (some ⟨np.blk,0,none⟩);rw[hpi,hW.entry_some] at this;exact this)
 have HAt2:=aa (show ∀w4,Below w2.heap.size w2 w4->Calls Tryz.prog 59 #[.agg #[.pointer (some ⟨nq.blk,0,none⟩),.pointer (some ⟨nq.b,0,none⟩),.string s2]] w4 λe w'=>e=.returned (.tuple #[.int .i64 (A2 r.nms i2 s2),.bool (decide (A2 r.nms i2 s2≠0))])/\Below w4.heap.size w4 w' from λw4 hb=>by have hr4:=hrq2.below (.inr (.inl hkq)) hb;have:=Bc hr4 hkq (hr4.lt (.inr (.inl hkq))) s2 (some ⟨nq.blk,0,none⟩);rw[hqi,hW.entry_some] at this;exact this)
 rw[he] at HAt;simp only[ne_eq,not_true_eq_false,decide_false] at HAt;clear hw2 hB hb0 hb1 h h2 hW hrp2 hrq2 hpl _hp hkp hnp hrp _hq hkq hnq hrq hpi hqi hl hl2 hk hk2 hv hv2 he
 go_enter Tryz.func73,Tryz.ntmps73
 go_wp2_with fail
 rw[HW2.out]
 go_upto_region 4 with(go_at_call 99;(with_reducible refine HP.out.mono ?_);rintro e w3 ⟨rfl,hB3⟩;have hs3:=hB3.size;replace hB3:=aa hB3)
 obtain⟨w4,hw4,hB4,hs4,hb40,hb41⟩:=Gn w3 #[.pointer (some ⟨np.blk,0,none⟩),.pointer (some ⟨np.b,0,none⟩),.string s] #[.pointer (some ⟨nq.blk,0,none⟩),.pointer (some ⟨nq.b,0,none⟩),.string s2] 137 137;rw[hw4];have c0:w4.cell? ⟨w3.heap.size,0,none⟩=some (.pointer (some ⟨np.blk,0,none⟩)):=by rw[A1 hb40];rfl
 have c1:w4.cell? ⟨w3.heap.size,1,none⟩=some (.pointer (some ⟨np.b,0,none⟩)):=by rw[A1 hb40];rfl
 have c2:w4.cell? ⟨w3.heap.size,2,none⟩=some (.string s):=by rw[A1 hb40];rfl
 have HQ1:=aa hb40;have HQ2:=aa hb41;have HB4:=aa (hB3.out.trans (hB4.mono (by omega)));clear hw4 hb40 hb41 hB4
 go_wp2_with (go_at_call 59;(with_reducible refine(HAt.out w4 HB4.out).mono ?_);rintro e w5 ⟨rfl,hB5⟩;replace hB5:=aa hB5)
 go_ret
 exact⟨rfl,HB.out.trans ((HB4.out.trans (hB5.out.mono HB4.out.size)).mono (by omega))⟩
set_option maxRecDepth 100000 in
set_option maxHeartbeats 8000000 in
theorem Sx {w:World}{f mi mg K:Nat}{r:RFs}{N:List Nd}(h:FsN w f mi mg r N)(hW:Wf r K)(i g:Int)(s:ByteArray)(hs:s.size<=maxLen)(i2 g2:Int)(s2:ByteArray)(hs2:s2.size<=maxLen)
  {p q:RIn} {np nq:Nd} (_hp:p∈r.ins) (hkp:p.kind=2) (hnp:np∈N) (hrp:NodeR w r p np) (_hq:q∈r.ins) (hkq:q.kind=2) (hnq:nq∈N) (hrq:NodeR w r q nq) (hpi:p.id=i) (hqi:q.id=i2)
  (hl:Aj r (i,g)=true) (hl2:Aj r (i2,g2)=true) (hk:(A3 r.ins i).kind=2) (hk2:(A3 r.ins i2).kind=2) (hv:Ae s=true) (hv2:Ae s2=true)
  {x:RIn} {nx:Nd} (hx:x∈r.ins) (hnx:nx∈N) (hrx:NodeR w r x nx) (hxi:A2 r.nms i s=x.id) (ho:A2 r.nms i2 s2=x.id) :
  Calls Tryz.prog 73 #[.pointer (some ⟨f,0,none⟩),.agg #[.int .i64 i,.int .i64 g],.string s,.agg #[.int .i64 i2,.int .i64 g2],.string s2] w λe w'=>e=.returned (.int .i64 0)/\Below w.heap.size w w':=by
 obtain⟨w2,hw2,hB,hz2,hb0,hb1⟩:=Gn w #[.int .i64 i,.int .i64 g] #[.int .i64 i2,.int .i64 g2] 31 31;have t0:w2.cell? ⟨w.heap.size,0,none⟩=some (.int .i64 i):=by rw[A1 hb0];rfl
 have t1:w2.cell? ⟨w.heap.size,1,none⟩=some (.int .i64 g):=by rw[A1 hb0];rfl
 have t2:w2.cell? ⟨w.heap.size+1,0,none⟩=some (.int .i64 i2):=by rw[A1 hb1];rfl
 have t3:w2.cell? ⟨w.heap.size+1,1,none⟩=some (.int .i64 g2):=by rw[A1 hb1];rfl
 have h2:=h.below hW hB;have HW2:=aa hw2;have HB:=aa hB;have hrp2:=hrp.below (.inr (.inl hkp)) hB;have hrq2:=hrq.below (.inr (.inl hkq)) hB;have hpl:=Bv h2 hW i g s hs i2 g2 s2 hs2 hl hl2 hk hk2 hv hv2 hnp hnq (hrp.id.trans hpi) (hrq.id.trans hqi);have HP:=aa hpl;have HAt:=aa (show ∀w4,Below w2.heap.size w2 w4->Calls Tryz.prog 59 #[.agg #[.pointer (some ⟨np.blk,0,none⟩),.pointer (some ⟨np.b,0,none⟩),.string s]] w4 λe w'=>e=.returned (.tuple #[.int .i64 (A2 r.nms i s),.bool (decide (A2 r.nms i s≠0))])/\Below w4.heap.size w4 w' from λw4 hb=>by have hr4:=hrp2.below (.inr (.inl hkp)) hb;have:=Bc hr4 hkp (hr4.lt (.inr (.inl hkp))) s (some ⟨np.blk,0,none⟩);rw[hpi,hW.entry_some] at this;exact this)
 have HAt2:=aa (show ∀w4,Below w2.heap.size w2 w4->Calls Tryz.prog 59 #[.agg #[.pointer (some ⟨nq.blk,0,none⟩),.pointer (some ⟨nq.b,0,none⟩),.string s2]] w4 λe w'=>e=.returned (.tuple #[.int .i64 (A2 r.nms i2 s2),.bool (decide (A2 r.nms i2 s2≠0))])/\Below w4.heap.size w4 w' from λw4 hb=>by have hr4:=hrq2.below (.inr (.inl hkq)) hb;have:=Bc hr4 hkq (hr4.lt (.inr (.inl hkq))) s2 (some ⟨nq.blk,0,none⟩);rw[hqi,hW.entry_some] at this;exact this)
 have hx0:x.id≠0:=hW.ne0 hx;rw[hxi,decide_eq_true hx0] at HAt;have hrx2:=hrx.below (hW.kind x hx) hB;have HX:=aa (show ∀w',Below w2.heap.size w2 w'->w'.cell? ⟨f,1,none⟩=some (.map (some mi))/\w'.cell? ⟨nx.blk,5,none⟩=some (Ad x nx)/\(Instr.lookup 144 (.map (some mi)) (.int .i64 x.id) false).run Tryz.prog w'=.ok (.pointer (some ⟨nx.blk,0,none⟩)) w'/\w'.cell? ⟨nq.blk,0,none⟩=some (.int .i64 i2)/\w'.cell? ⟨nq.blk,4,none⟩=some (.int .i64 (A5 r q:Int)) from λw' hb=>by have h4:=h2.below hW hb;have hg:=h4.get hnx;rw[hrx.id] at hg;have hlk:=(h4.look x.id).2;rw[hg] at hlk;have hq4:=(hrq2.below (.inr (.inl hkq)) hb).cells;exact⟨h4.cells.2.1,(hrx2.below (hW.kind x hx) hb).cells.2.2.2.2.2,hlk,by rw[<-hqi];exact hq4.1,hq4.2.2.2.2.1⟩)
 rw[ho,decide_eq_true hx0] at HAt2;by_cases hkx:x.kind=2
 all_goals
  first
  | (have hta:∀w,(Instr.typeAssert (Ad x nx) 20 135 true).run Tryz.prog w=.ok (.tuple #[.pointer (some ⟨nx.b,0,none⟩),.bool true]) w:=λw=>by rw[Cl,dq hkx];rfl)
  | (have hta:∀w,(Instr.typeAssert (Ad x nx) 20 135 true).run Tryz.prog w=.ok (.tuple #[.pointer none,.bool false]) w:=λw=>by rw[Cl,dp hkx])
  clear hw2 hB hb0 hb1 h h2 hW hrp2 hrq2 hpl _hp hkp hnp hrp _hq hkq hnq hrq hpi hqi hl hl2 hk hk2 hv hv2 hx hnx hrx hxi hx0 hrx2 ho hkx
  go_enter Tryz.func73,Tryz.ntmps73
  go_wp2_with fail
  rw[HW2.out]
  go_upto_region 4 with(go_at_call 99;(with_reducible refine HP.out.mono ?_);rintro e w3 ⟨rfl,hB3⟩;have hs3:=hB3.size;replace hB3:=aa hB3)
  obtain⟨w4,hw4,hB4,hs4,hb40,hb41⟩:=Gn w3 #[.pointer (some ⟨np.blk,0,none⟩),.pointer (some ⟨np.b,0,none⟩),.string s] #[.pointer (some ⟨nq.blk,0,none⟩),.pointer (some ⟨nq.b,0,none⟩),.string s2] 137 137;rw[hw4];have c0:w4.cell? ⟨w3.heap.size,0,none⟩=some (.pointer (some ⟨np.blk,0,none⟩)):=by rw[A1 hb40];rfl
  have c1:w4.cell? ⟨w3.heap.size,1,none⟩=some (.pointer (some ⟨np.b,0,none⟩)):=by rw[A1 hb40];rfl
  have c2:w4.cell? ⟨w3.heap.size,2,none⟩=some (.string s):=by rw[A1 hb40];rfl
  have HQ1:=aa hb40;have HQ2:=aa hb41;have HB4:=aa (hB3.out.trans (hB4.mono (by omega)));clear hw4 hb40 hb41 hB4
  go_wp2_with (first
  | (go_at_call 59;(with_reducible refine(HAt.out w4 HB4.out).mono ?_);rintro e w5 ⟨rfl,hB5⟩;have hs5:=hB5.size;have hY:=(hB5.block _ (by omega)).trans HQ2.out;have d0:w5.cell? ⟨w3.heap.size+1,0,none⟩=_:=A1 hY 0;have d1:w5.cell? ⟨w3.heap.size+1,1,none⟩=_:=A1 hY 1;have d2:w5.cell? ⟨w3.heap.size+1,2,none⟩=_:=A1 hY 2;have HQ25:=aa hY;have HQ15:=aa ((hB5.block _ (by omega)).trans HQ1.out);clear hY;have HB5:=aa (HB4.out.trans (hB5.mono HB4.out.size));obtain⟨x1,x2,x3,-,-⟩:=HX.out w5 HB5.out;clear hB5)
  | (go_at_call 59;(with_reducible refine(HAt2.out w5 HB5.out).mono ?_);rintro e w6 ⟨rfl,hB6⟩;have hs6:=hB6.size;have HQ26:=aa ((hB6.block _ (by omega)).trans HQ25.out);have HQ16:=aa ((hB6.block _ (by omega)).trans HQ15.out);have e0:w6.cell? ⟨w3.heap.size,0,none⟩=_:=A1 HQ16.out 0;have g0:w6.cell? ⟨w3.heap.size+1,0,none⟩=_:=A1 HQ26.out 0;have HB6:=aa (HB5.out.trans (hB6.mono HB5.out.size));obtain⟨y1,y2,y3,y4,y5⟩:=HX.out w6 HB6.out;clear hB6))
  go_ret
  exact⟨rfl,HB.out.trans (HB6.out.mono (by omega))⟩
set_option maxRecDepth 100000 in
set_option maxHeartbeats 8000000 in
theorem Rt {w:World}{f mi mg K:Nat}{r:RFs}{N:List Nd}(h:FsN w f mi mg r N)(hW:Wf r K)(i g:Int)(s:ByteArray)(hs:s.size<=maxLen)(i2 g2:Int)(s2:ByteArray)(hs2:s2.size<=maxLen)
  {p q:RIn} {np nq:Nd} (_hp:p∈r.ins) (hkp:p.kind=2) (hnp:np∈N) (hrp:NodeR w r p np) (hq:q∈r.ins) (hkq:q.kind=2) (hnq:nq∈N) (hrq:NodeR w r q nq) (hpi:p.id=i) (hqi:q.id=i2)
  (hl:Aj r (i,g)=true) (hl2:Aj r (i2,g2)=true) (hk:(A3 r.ins i).kind=2) (hk2:(A3 r.ins i2).kind=2) (hv:Ae s=true) (hv2:Ae s2=true)
  {x:RIn} {nx:Nd} (hx:x∈r.ins) (hnx:nx∈N) (hrx:NodeR w r x nx) (hxi:A2 r.nms i s=x.id) (hkx:x.kind=2) (hbl:Be r i2 x.id=true) (ho:A2 r.nms i2 s2=0) :
  Calls Tryz.prog 73 #[.pointer (some ⟨f,0,none⟩),.agg #[.int .i64 i,.int .i64 g],.string s,.agg #[.int .i64 i2,.int .i64 g2],.string s2] w λe w'=>e=.returned (.int .i64 178)/\Below w.heap.size w w':=by
 obtain⟨w2,hw2,hB,hz2,hb0,hb1⟩:=Gn w #[.int .i64 i,.int .i64 g] #[.int .i64 i2,.int .i64 g2] 31 31;have t0:w2.cell? ⟨w.heap.size,0,none⟩=some (.int .i64 i):=by rw[A1 hb0];rfl
 have t1:w2.cell? ⟨w.heap.size,1,none⟩=some (.int .i64 g):=by rw[A1 hb0];rfl
 have t2:w2.cell? ⟨w.heap.size+1,0,none⟩=some (.int .i64 i2):=by rw[A1 hb1];rfl
 have t3:w2.cell? ⟨w.heap.size+1,1,none⟩=some (.int .i64 g2):=by rw[A1 hb1];rfl
 have h2:=h.below hW hB;have HW2:=aa hw2;have HB:=aa hB;have hrp2:=hrp.below (.inr (.inl hkp)) hB;have hrq2:=hrq.below (.inr (.inl hkq)) hB;have hpl:=Bv h2 hW i g s hs i2 g2 s2 hs2 hl hl2 hk hk2 hv hv2 hnp hnq (hrp.id.trans hpi) (hrq.id.trans hqi);have HP:=aa hpl;have HAt:=aa (show ∀w4,Below w2.heap.size w2 w4->Calls Tryz.prog 59 #[.agg #[.pointer (some ⟨np.blk,0,none⟩),.pointer (some ⟨np.b,0,none⟩),.string s]] w4 λe w'=>e=.returned (.tuple #[.int .i64 (A2 r.nms i s),.bool (decide (A2 r.nms i s≠0))])/\Below w4.heap.size w4 w' from λw4 hb=>by have hr4:=hrp2.below (.inr (.inl hkp)) hb;have:=Bc hr4 hkp (hr4.lt (.inr (.inl hkp))) s (some ⟨np.blk,0,none⟩);rw[hpi,hW.entry_some] at this;exact this)
 have HAt2:=aa (show ∀w4,Below w2.heap.size w2 w4->Calls Tryz.prog 59 #[.agg #[.pointer (some ⟨nq.blk,0,none⟩),.pointer (some ⟨nq.b,0,none⟩),.string s2]] w4 λe w'=>e=.returned (.tuple #[.int .i64 (A2 r.nms i2 s2),.bool (decide (A2 r.nms i2 s2≠0))])/\Below w4.heap.size w4 w' from λw4 hb=>by have hr4:=hrq2.below (.inr (.inl hkq)) hb;have:=Bc hr4 hkq (hr4.lt (.inr (.inl hkq))) s2 (some ⟨nq.blk,0,none⟩);rw[hqi,hW.entry_some] at this;exact this)
 have hx0:x.id≠0:=hW.ne0 hx;rw[hxi,decide_eq_true hx0] at HAt;have hrx2:=hrx.below (hW.kind x hx) hB;have HX:=aa (show ∀w',Below w2.heap.size w2 w'->w'.cell? ⟨f,1,none⟩=some (.map (some mi))/\w'.cell? ⟨nx.blk,5,none⟩=some (Ad x nx)/\(Instr.lookup 144 (.map (some mi)) (.int .i64 x.id) false).run Tryz.prog w'=.ok (.pointer (some ⟨nx.blk,0,none⟩)) w'/\w'.cell? ⟨nq.blk,0,none⟩=some (.int .i64 i2)/\w'.cell? ⟨nq.blk,4,none⟩=some (.int .i64 (A5 r q:Int)) from λw' hb=>by have h4:=h2.below hW hb;have hg:=h4.get hnx;rw[hrx.id] at hg;have hlk:=(h4.look x.id).2;rw[hg] at hlk;have hq4:=(hrq2.below (.inr (.inl hkq)) hb).cells;exact⟨h4.cells.2.1,(hrx2.below (hW.kind x hx) hb).cells.2.2.2.2.2,hlk,by rw[<-hqi];exact hq4.1,hq4.2.2.2.2.1⟩)
 have hta:∀w,(Instr.typeAssert (Ad x nx) 20 135 true).run Tryz.prog w=.ok (.tuple #[.pointer (some ⟨nx.b,0,none⟩),.bool true]) w:=λw=>by rw[Cl,dq hkx];rfl
 rw[ho] at HAt2;simp only[ne_eq,not_true_eq_false,decide_false] at HAt2;have HBl:=aa (show ∀w',Below w2.heap.size w2 w'->Calls Tryz.prog 100 #[.pointer (some ⟨f,0,none⟩),.int .i64 i2,.int .i64 x.id] w' λe w''=>e=.returned (.bool true)/\w'=w'' from λw' hb=>by have:=E6 (h2.below hW hb) hW hq hkq x.id;rw[hqi,hbl] at this;exact this)
 clear hw2 hB hb0 hb1 h h2 hW hrp2 hrq2 hpl _hp hkp hnp hrp hq hkq hnq hrq hpi hqi hl hl2 hk hk2 hv hv2 hx hnx hrx hxi hx0 hrx2 ho hkx hbl
 go_enter Tryz.func73,Tryz.ntmps73
 go_wp2_with fail
 rw[HW2.out]
 go_upto_region 4 with(go_at_call 99;(with_reducible refine HP.out.mono ?_);rintro e w3 ⟨rfl,hB3⟩;have hs3:=hB3.size;replace hB3:=aa hB3)
 obtain⟨w4,hw4,hB4,hs4,hb40,hb41⟩:=Gn w3 #[.pointer (some ⟨np.blk,0,none⟩),.pointer (some ⟨np.b,0,none⟩),.string s] #[.pointer (some ⟨nq.blk,0,none⟩),.pointer (some ⟨nq.b,0,none⟩),.string s2] 137 137;rw[hw4];have c0:w4.cell? ⟨w3.heap.size,0,none⟩=some (.pointer (some ⟨np.blk,0,none⟩)):=by rw[A1 hb40];rfl
 have c1:w4.cell? ⟨w3.heap.size,1,none⟩=some (.pointer (some ⟨np.b,0,none⟩)):=by rw[A1 hb40];rfl
 have c2:w4.cell? ⟨w3.heap.size,2,none⟩=some (.string s):=by rw[A1 hb40];rfl
 have HQ1:=aa hb40;have HQ2:=aa hb41;have HB4:=aa (hB3.out.trans (hB4.mono (by omega)));clear hw4 hb40 hb41 hB4
 go_wp2_with (first
  | (go_at_call 59;(with_reducible refine(HAt.out w4 HB4.out).mono ?_);rintro e w5 ⟨rfl,hB5⟩;have hs5:=hB5.size;have hY:=(hB5.block _ (by omega)).trans HQ2.out;have d0:w5.cell? ⟨w3.heap.size+1,0,none⟩=_:=A1 hY 0;have d1:w5.cell? ⟨w3.heap.size+1,1,none⟩=_:=A1 hY 1;have d2:w5.cell? ⟨w3.heap.size+1,2,none⟩=_:=A1 hY 2;have HQ25:=aa hY;have HQ15:=aa ((hB5.block _ (by omega)).trans HQ1.out);clear hY;have HB5:=aa (HB4.out.trans (hB5.mono HB4.out.size));obtain⟨x1,x2,x3,-,-⟩:=HX.out w5 HB5.out;clear hB5)
  | (go_at_call 59;(with_reducible refine(HAt2.out w5 HB5.out).mono ?_);rintro e w6 ⟨rfl,hB6⟩;have hs6:=hB6.size;have HQ26:=aa ((hB6.block _ (by omega)).trans HQ25.out);have HQ16:=aa ((hB6.block _ (by omega)).trans HQ15.out);have e0:w6.cell? ⟨w3.heap.size,0,none⟩=_:=A1 HQ16.out 0;have g0:w6.cell? ⟨w3.heap.size+1,0,none⟩=_:=A1 HQ26.out 0;have HB6:=aa (HB5.out.trans (hB6.mono HB5.out.size));obtain⟨y1,y2,y3,y4,y5⟩:=HX.out w6 HB6.out;clear hB6)
  | (go_at_call 100;(with_reducible refine(HBl.out w6 HB6.out).mono ?_);rintro e w7 ⟨rfl,rfl⟩))
 go_ret
 exact⟨rfl,HB.out.trans (HB6.out.mono (by omega))⟩
set_option maxRecDepth 100000 in
set_option maxHeartbeats 8000000 in
theorem Qs {w:World}{f mi mg K:Nat}{r:RFs}{N:List Nd}(h:FsN w f mi mg r N)(hW:Wf r K)(i g:Int)(s:ByteArray)(hs:s.size<=maxLen)(i2 g2:Int)(s2:ByteArray)(hs2:s2.size<=maxLen)
  {p q:RIn} {np nq:Nd} (_hp:p∈r.ins) (hkp:p.kind=2) (hnp:np∈N) (hrp:NodeR w r p np) (hq:q∈r.ins) (hkq:q.kind=2) (hnq:nq∈N) (hrq:NodeR w r q nq) (hpi:p.id=i) (hqi:q.id=i2)
  (hl:Aj r (i,g)=true) (hl2:Aj r (i2,g2)=true) (hk:(A3 r.ins i).kind=2) (hk2:(A3 r.ins i2).kind=2) (hv:Ae s=true) (hv2:Ae s2=true)
  {x:RIn} {nx:Nd} (hx:x∈r.ins) (hnx:nx∈N) (hrx:NodeR w r x nx) (hxi:A2 r.nms i s=x.id) (hkx:x.kind=2) (hbl:Be r i2 x.id=true) (ho:A2 r.nms i2 s2≠0) (hox:A2 r.nms i2 s2≠x.id) :
  Calls Tryz.prog 73 #[.pointer (some ⟨f,0,none⟩),.agg #[.int .i64 i,.int .i64 g],.string s,.agg #[.int .i64 i2,.int .i64 g2],.string s2] w λe w'=>e=.returned (.int .i64 178)/\Below w.heap.size w w':=by
 obtain⟨w2,hw2,hB,hz2,hb0,hb1⟩:=Gn w #[.int .i64 i,.int .i64 g] #[.int .i64 i2,.int .i64 g2] 31 31;have t0:w2.cell? ⟨w.heap.size,0,none⟩=some (.int .i64 i):=by rw[A1 hb0];rfl
 have t1:w2.cell? ⟨w.heap.size,1,none⟩=some (.int .i64 g):=by rw[A1 hb0];rfl
 have t2:w2.cell? ⟨w.heap.size+1,0,none⟩=some (.int .i64 i2):=by rw[A1 hb1];rfl
 have t3:w2.cell? ⟨w.heap.size+1,1,none⟩=some (.int .i64 g2):=by rw[A1 hb1];rfl
 have h2:=h.below hW hB;have HW2:=aa hw2;have HB:=aa hB;have hrp2:=hrp.below (.inr (.inl hkp)) hB;have hrq2:=hrq.below (.inr (.inl hkq)) hB;have hpl:=Bv h2 hW i g s hs i2 g2 s2 hs2 hl hl2 hk hk2 hv hv2 hnp hnq (hrp.id.trans hpi) (hrq.id.trans hqi);have HP:=aa hpl;have HAt:=aa (show ∀w4,Below w2.heap.size w2 w4->Calls Tryz.prog 59 #[.agg #[.pointer (some ⟨np.blk,0,none⟩),.pointer (some ⟨np.b,0,none⟩),.string s]] w4 λe w'=>e=.returned (.tuple #[.int .i64 (A2 r.nms i s),.bool (decide (A2 r.nms i s≠0))])/\Below w4.heap.size w4 w' from λw4 hb=>by have hr4:=hrp2.below (.inr (.inl hkp)) hb;have:=Bc hr4 hkp (hr4.lt (.inr (.inl hkp))) s (some ⟨np.blk,0,none⟩);rw[hpi,hW.entry_some] at this;exact this)
 have HAt2:=aa (show ∀w4,Below w2.heap.size w2 w4->Calls Tryz.prog 59 #[.agg #[.pointer (some ⟨nq.blk,0,none⟩),.pointer (some ⟨nq.b,0,none⟩),.string s2]] w4 λe w'=>e=.returned (.tuple #[.int .i64 (A2 r.nms i2 s2),.bool (decide (A2 r.nms i2 s2≠0))])/\Below w4.heap.size w4 w' from λw4 hb=>by have hr4:=hrq2.below (.inr (.inl hkq)) hb;have:=Bc hr4 hkq (hr4.lt (.inr (.inl hkq))) s2 (some ⟨nq.blk,0,none⟩);rw[hqi,hW.entry_some] at this;exact this)
 have hx0:x.id≠0:=hW.ne0 hx;rw[hxi,decide_eq_true hx0] at HAt;have hrx2:=hrx.below (hW.kind x hx) hB;have HX:=aa (show ∀w',Below w2.heap.size w2 w'->w'.cell? ⟨f,1,none⟩=some (.map (some mi))/\w'.cell? ⟨nx.blk,5,none⟩=some (Ad x nx)/\(Instr.lookup 144 (.map (some mi)) (.int .i64 x.id) false).run Tryz.prog w'=.ok (.pointer (some ⟨nx.blk,0,none⟩)) w'/\w'.cell? ⟨nq.blk,0,none⟩=some (.int .i64 i2)/\w'.cell? ⟨nq.blk,4,none⟩=some (.int .i64 (A5 r q:Int)) from λw' hb=>by have h4:=h2.below hW hb;have hg:=h4.get hnx;rw[hrx.id] at hg;have hlk:=(h4.look x.id).2;rw[hg] at hlk;have hq4:=(hrq2.below (.inr (.inl hkq)) hb).cells;exact⟨h4.cells.2.1,(hrx2.below (hW.kind x hx) hb).cells.2.2.2.2.2,hlk,by rw[<-hqi];exact hq4.1,hq4.2.2.2.2.1⟩)
 have hta:∀w,(Instr.typeAssert (Ad x nx) 20 135 true).run Tryz.prog w=.ok (.tuple #[.pointer (some ⟨nx.b,0,none⟩),.bool true]) w:=λw=>by rw[Cl,dq hkx];rfl
 rw[decide_eq_true ho] at HAt2;have hbq:(A2 r.nms i2 s2==x.id)=false:=by rw[beq_eq_false_iff_ne];exact hox
 have HBl:=aa (show ∀w',Below w2.heap.size w2 w'->Calls Tryz.prog 100 #[.pointer (some ⟨f,0,none⟩),.int .i64 i2,.int .i64 x.id] w' λe w''=>e=.returned (.bool true)/\w'=w'' from λw' hb=>by have:=E6 (h2.below hW hb) hW hq hkq x.id;rw[hqi,hbl] at this;exact this)
 clear hw2 hB hb0 hb1 h h2 hW hrp2 hrq2 hpl _hp hkp hnp hrp hq hkq hnq hrq hpi hqi hl hl2 hk hk2 hv hv2 hx hnx hrx hxi hx0 hrx2 ho hkx hbl hox
 go_enter Tryz.func73,Tryz.ntmps73
 go_wp2_with fail
 rw[HW2.out]
 go_upto_region 4 with(go_at_call 99;(with_reducible refine HP.out.mono ?_);rintro e w3 ⟨rfl,hB3⟩;have hs3:=hB3.size;replace hB3:=aa hB3)
 obtain⟨w4,hw4,hB4,hs4,hb40,hb41⟩:=Gn w3 #[.pointer (some ⟨np.blk,0,none⟩),.pointer (some ⟨np.b,0,none⟩),.string s] #[.pointer (some ⟨nq.blk,0,none⟩),.pointer (some ⟨nq.b,0,none⟩),.string s2] 137 137;rw[hw4];have c0:w4.cell? ⟨w3.heap.size,0,none⟩=some (.pointer (some ⟨np.blk,0,none⟩)):=by rw[A1 hb40];rfl
 have c1:w4.cell? ⟨w3.heap.size,1,none⟩=some (.pointer (some ⟨np.b,0,none⟩)):=by rw[A1 hb40];rfl
 have c2:w4.cell? ⟨w3.heap.size,2,none⟩=some (.string s):=by rw[A1 hb40];rfl
 have HQ1:=aa hb40;have HQ2:=aa hb41;have HB4:=aa (hB3.out.trans (hB4.mono (by omega)));clear hw4 hb40 hb41 hB4
 go_wp2_with (first
  | (go_at_call 59;(with_reducible refine(HAt.out w4 HB4.out).mono ?_);rintro e w5 ⟨rfl,hB5⟩;have hs5:=hB5.size;have hY:=(hB5.block _ (by omega)).trans HQ2.out;have d0:w5.cell? ⟨w3.heap.size+1,0,none⟩=_:=A1 hY 0;have d1:w5.cell? ⟨w3.heap.size+1,1,none⟩=_:=A1 hY 1;have d2:w5.cell? ⟨w3.heap.size+1,2,none⟩=_:=A1 hY 2;have HQ25:=aa hY;have HQ15:=aa ((hB5.block _ (by omega)).trans HQ1.out);clear hY;have HB5:=aa (HB4.out.trans (hB5.mono HB4.out.size));obtain⟨x1,x2,x3,-,-⟩:=HX.out w5 HB5.out;clear hB5)
  | (go_at_call 59;(with_reducible refine(HAt2.out w5 HB5.out).mono ?_);rintro e w6 ⟨rfl,hB6⟩;have hs6:=hB6.size;have HQ26:=aa ((hB6.block _ (by omega)).trans HQ25.out);have HQ16:=aa ((hB6.block _ (by omega)).trans HQ15.out);have e0:w6.cell? ⟨w3.heap.size,0,none⟩=_:=A1 HQ16.out 0;have g0:w6.cell? ⟨w3.heap.size+1,0,none⟩=_:=A1 HQ26.out 0;have HB6:=aa (HB5.out.trans (hB6.mono HB5.out.size));obtain⟨y1,y2,y3,y4,y5⟩:=HX.out w6 HB6.out;clear hB6)
  | (go_at_call 100;(with_reducible refine(HBl.out w6 HB6.out).mono ?_);rintro e w7 ⟨rfl,rfl⟩))
 go_ret
 exact⟨rfl,HB.out.trans (HB6.out.mono (by omega))⟩
set_option maxRecDepth 100000 in
set_option maxHeartbeats 8000000 in
theorem Sb {w:World}{f mi mg K:Nat}{r:RFs}{N:List Nd}(h:FsN w f mi mg r N)(hW:Wf r K)(i g:Int)(s:ByteArray)(hs:s.size<=maxLen)(i2 g2:Int)(s2:ByteArray)(hs2:s2.size<=maxLen)
  {p q:RIn} {np nq:Nd} (_hp:p∈r.ins) (hkp:p.kind=2) (hnp:np∈N) (hrp:NodeR w r p np) (_hq:q∈r.ins) (hkq:q.kind=2) (hnq:nq∈N) (hrq:NodeR w r q nq) (hpi:p.id=i) (hqi:q.id=i2)
  (hl:Aj r (i,g)=true) (hl2:Aj r (i2,g2)=true) (hk:(A3 r.ins i).kind=2) (hk2:(A3 r.ins i2).kind=2) (hv:Ae s=true) (hv2:Ae s2=true)
  {x:RIn} {nx:Nd} (hx:x∈r.ins) (hnx:nx∈N) (hrx:NodeR w r x nx) (hxi:A2 r.nms i s=x.id) {o:RIn} {no:Nd} (ho:o∈r.ins) (hno:no∈N) (hro:NodeR w r o no) (hoi:A2 r.nms i2 s2=o.id) (hox:o.id≠x.id) (hkx:¬x.kind=2) (hmy:Fp r o false≠0) :
  Calls Tryz.prog 73 #[.pointer (some ⟨f,0,none⟩),.agg #[.int .i64 i,.int .i64 g],.string s,.agg #[.int .i64 i2,.int .i64 g2],.string s2] w λe w'=>e=.returned (.int .i64 (Fp r o false))/\Below w.heap.size w w':=by
 obtain⟨w2,hw2,hB,hz2,hb0,hb1⟩:=Gn w #[.int .i64 i,.int .i64 g] #[.int .i64 i2,.int .i64 g2] 31 31;have t0:w2.cell? ⟨w.heap.size,0,none⟩=some (.int .i64 i):=by rw[A1 hb0];rfl
 have t1:w2.cell? ⟨w.heap.size,1,none⟩=some (.int .i64 g):=by rw[A1 hb0];rfl
 have t2:w2.cell? ⟨w.heap.size+1,0,none⟩=some (.int .i64 i2):=by rw[A1 hb1];rfl
 have t3:w2.cell? ⟨w.heap.size+1,1,none⟩=some (.int .i64 g2):=by rw[A1 hb1];rfl
 have h2:=h.below hW hB;have HW2:=aa hw2;have HB:=aa hB;have hrp2:=hrp.below (.inr (.inl hkp)) hB;have hrq2:=hrq.below (.inr (.inl hkq)) hB;have hpl:=Bv h2 hW i g s hs i2 g2 s2 hs2 hl hl2 hk hk2 hv hv2 hnp hnq (hrp.id.trans hpi) (hrq.id.trans hqi);have HP:=aa hpl;have HAt:=aa (show ∀w4,Below w2.heap.size w2 w4->Calls Tryz.prog 59 #[.agg #[.pointer (some ⟨np.blk,0,none⟩),.pointer (some ⟨np.b,0,none⟩),.string s]] w4 λe w'=>e=.returned (.tuple #[.int .i64 (A2 r.nms i s),.bool (decide (A2 r.nms i s≠0))])/\Below w4.heap.size w4 w' from λw4 hb=>by have hr4:=hrp2.below (.inr (.inl hkp)) hb;have:=Bc hr4 hkp (hr4.lt (.inr (.inl hkp))) s (some ⟨np.blk,0,none⟩);rw[hpi,hW.entry_some] at this;exact this)
 have HAt2:=aa (show ∀w4,Below w2.heap.size w2 w4->Calls Tryz.prog 59 #[.agg #[.pointer (some ⟨nq.blk,0,none⟩),.pointer (some ⟨nq.b,0,none⟩),.string s2]] w4 λe w'=>e=.returned (.tuple #[.int .i64 (A2 r.nms i2 s2),.bool (decide (A2 r.nms i2 s2≠0))])/\Below w4.heap.size w4 w' from λw4 hb=>by have hr4:=hrq2.below (.inr (.inl hkq)) hb;have:=Bc hr4 hkq (hr4.lt (.inr (.inl hkq))) s2 (some ⟨nq.blk,0,none⟩);rw[hqi,hW.entry_some] at this;exact this)
 have hx0:x.id≠0:=hW.ne0 hx;rw[hxi,decide_eq_true hx0] at HAt;have hrx2:=hrx.below (hW.kind x hx) hB;have HX:=aa (show ∀w',Below w2.heap.size w2 w'->w'.cell? ⟨f,1,none⟩=some (.map (some mi))/\w'.cell? ⟨nx.blk,5,none⟩=some (Ad x nx)/\(Instr.lookup 144 (.map (some mi)) (.int .i64 x.id) false).run Tryz.prog w'=.ok (.pointer (some ⟨nx.blk,0,none⟩)) w'/\w'.cell? ⟨nq.blk,0,none⟩=some (.int .i64 i2)/\w'.cell? ⟨nq.blk,4,none⟩=some (.int .i64 (A5 r q:Int)) from λw' hb=>by have h4:=h2.below hW hb;have hg:=h4.get hnx;rw[hrx.id] at hg;have hlk:=(h4.look x.id).2;rw[hg] at hlk;have hq4:=(hrq2.below (.inr (.inl hkq)) hb).cells;exact⟨h4.cells.2.1,(hrx2.below (hW.kind x hx) hb).cells.2.2.2.2.2,hlk,by rw[<-hqi];exact hq4.1,hq4.2.2.2.2.1⟩)
 have hta:∀w,(Instr.typeAssert (Ad x nx) 20 135 true).run Tryz.prog w=.ok (.tuple #[.pointer none,.bool false]) w:=λw=>by rw[Cl,dp hkx]
 have ho0:o.id≠0:=hW.ne0 ho;rw[hoi,decide_eq_true ho0] at HAt2;have hbq:(o.id==x.id)=false:=by rw[beq_eq_false_iff_ne];exact hox
 have hro2:=hro.below (hW.kind o ho) hB;have HO:=aa (show ∀w',Below w2.heap.size w2 w'->(Instr.lookup 144 (.map (some mi)) (.int .i64 o.id) false).run Tryz.prog w'=.ok (.pointer (some ⟨no.blk,0,none⟩)) w' from λw' hb=>by have h4:=h2.below hW hb;have hg:=h4.get hno;rw[hro.id] at hg;have hlk:=(h4.look o.id).2;rw[hg] at hlk;exact hlk)
 have HMy:=aa (show ∀w',Below w2.heap.size w2 w'->Calls Tryz.prog 97 #[.pointer (some ⟨f,0,none⟩),.pointer (some ⟨no.blk,0,none⟩),.bool false] w' λe w''=>e=.returned (.int .i64 (Fp r o false))/\w'=w'' from λw' hb=>by have:=I6 (hro2.below (hW.kind o ho) hb) false (some ⟨f,0,none⟩);exact this)
 have hmn:(Fp r o false != 0)=true:=by rw[bne_iff_ne];exact hmy
 generalize Fp r o false=my at *;clear hw2 hB hb0 hb1 h h2 hW hrp2 hrq2 hpl _hp hkp hnp hrp _hq hkq hnq hrq hpi hqi hl hl2 hk hk2 hv hv2 hx hnx hrx hxi hx0 hrx2 hkx hmy ho hno hro hoi hox ho0 hro2
 go_enter Tryz.func73,Tryz.ntmps73
 go_wp2_with fail
 rw[HW2.out]
 go_upto_region 4 with(go_at_call 99;(with_reducible refine HP.out.mono ?_);rintro e w3 ⟨rfl,hB3⟩;have hs3:=hB3.size;replace hB3:=aa hB3)
 obtain⟨w4,hw4,hB4,hs4,hb40,hb41⟩:=Gn w3 #[.pointer (some ⟨np.blk,0,none⟩),.pointer (some ⟨np.b,0,none⟩),.string s] #[.pointer (some ⟨nq.blk,0,none⟩),.pointer (some ⟨nq.b,0,none⟩),.string s2] 137 137;rw[hw4];have c0:w4.cell? ⟨w3.heap.size,0,none⟩=some (.pointer (some ⟨np.blk,0,none⟩)):=by rw[A1 hb40];rfl
 have c1:w4.cell? ⟨w3.heap.size,1,none⟩=some (.pointer (some ⟨np.b,0,none⟩)):=by rw[A1 hb40];rfl
 have c2:w4.cell? ⟨w3.heap.size,2,none⟩=some (.string s):=by rw[A1 hb40];rfl
 have HQ1:=aa hb40;have HQ2:=aa hb41;have HB4:=aa (hB3.out.trans (hB4.mono (by omega)));clear hw4 hb40 hb41 hB4
 go_wp2_with (first
  | (go_at_call 59;(with_reducible refine(HAt.out w4 HB4.out).mono ?_);rintro e w5 ⟨rfl,hB5⟩;have hs5:=hB5.size;have hY:=(hB5.block _ (by omega)).trans HQ2.out;have d0:w5.cell? ⟨w3.heap.size+1,0,none⟩=_:=A1 hY 0;have d1:w5.cell? ⟨w3.heap.size+1,1,none⟩=_:=A1 hY 1;have d2:w5.cell? ⟨w3.heap.size+1,2,none⟩=_:=A1 hY 2;have HQ25:=aa hY;have HQ15:=aa ((hB5.block _ (by omega)).trans HQ1.out);clear hY;have HB5:=aa (HB4.out.trans (hB5.mono HB4.out.size));obtain⟨x1,x2,x3,-,-⟩:=HX.out w5 HB5.out;clear hB5)
  | (go_at_call 59;(with_reducible refine(HAt2.out w5 HB5.out).mono ?_);rintro e w6 ⟨rfl,hB6⟩;have hs6:=hB6.size;have HQ26:=aa ((hB6.block _ (by omega)).trans HQ25.out);have HQ16:=aa ((hB6.block _ (by omega)).trans HQ15.out);have e0:w6.cell? ⟨w3.heap.size,0,none⟩=_:=A1 HQ16.out 0;have g0:w6.cell? ⟨w3.heap.size+1,0,none⟩=_:=A1 HQ26.out 0;have HB6:=aa (HB5.out.trans (hB6.mono HB5.out.size));obtain⟨y1,y2,y3,y4,y5⟩:=HX.out w6 HB6.out;clear hB6;have z1:=HO.out w6 HB6.out)
  | (go_at_call 100;(with_reducible refine(HBl.out w6 HB6.out).mono ?_);rintro e w7 ⟨rfl,rfl⟩)
  | (go_at_call 97;(with_reducible refine(HMy.out w6 HB6.out).mono ?_);rintro e w7 ⟨rfl,rfl⟩))
 go_ret
 exact⟨rfl,HB.out.trans (HB6.out.mono (by omega))⟩
set_option maxRecDepth 100000 in
set_option maxHeartbeats 8000000 in
theorem Sa {w:World}{f mi mg K:Nat}{r:RFs}{N:List Nd}(h:FsN w f mi mg r N)(hW:Wf r K)(i g:Int)(s:ByteArray)(hs:s.size<=maxLen)(i2 g2:Int)(s2:ByteArray)(hs2:s2.size<=maxLen)
  {p q:RIn} {np nq:Nd} (_hp:p∈r.ins) (hkp:p.kind=2) (hnp:np∈N) (hrp:NodeR w r p np) (hq:q∈r.ins) (hkq:q.kind=2) (hnq:nq∈N) (hrq:NodeR w r q nq) (hpi:p.id=i) (hqi:q.id=i2)
  (hl:Aj r (i,g)=true) (hl2:Aj r (i2,g2)=true) (hk:(A3 r.ins i).kind=2) (hk2:(A3 r.ins i2).kind=2) (hv:Ae s=true) (hv2:Ae s2=true)
  {x:RIn} {nx:Nd} (hx:x∈r.ins) (hnx:nx∈N) (hrx:NodeR w r x nx) (hxi:A2 r.nms i s=x.id) {o:RIn} {no:Nd} (ho:o∈r.ins) (hno:no∈N) (hro:NodeR w r o no) (hoi:A2 r.nms i2 s2=o.id) (hox:o.id≠x.id) (hkx:x.kind=2) (hbl:Be r i2 x.id=false) (hmy:Fp r o true≠0) :
  Calls Tryz.prog 73 #[.pointer (some ⟨f,0,none⟩),.agg #[.int .i64 i,.int .i64 g],.string s,.agg #[.int .i64 i2,.int .i64 g2],.string s2] w λe w'=>e=.returned (.int .i64 (Fp r o true))/\Below w.heap.size w w':=by
 obtain⟨w2,hw2,hB,hz2,hb0,hb1⟩:=Gn w #[.int .i64 i,.int .i64 g] #[.int .i64 i2,.int .i64 g2] 31 31;have t0:w2.cell? ⟨w.heap.size,0,none⟩=some (.int .i64 i):=by rw[A1 hb0];rfl
 have t1:w2.cell? ⟨w.heap.size,1,none⟩=some (.int .i64 g):=by rw[A1 hb0];rfl
 have t2:w2.cell? ⟨w.heap.size+1,0,none⟩=some (.int .i64 i2):=by rw[A1 hb1];rfl
 have t3:w2.cell? ⟨w.heap.size+1,1,none⟩=some (.int .i64 g2):=by rw[A1 hb1];rfl
 have h2:=h.below hW hB;have HW2:=aa hw2;have HB:=aa hB;have hrp2:=hrp.below (.inr (.inl hkp)) hB;have hrq2:=hrq.below (.inr (.inl hkq)) hB;have hpl:=Bv h2 hW i g s hs i2 g2 s2 hs2 hl hl2 hk hk2 hv hv2 hnp hnq (hrp.id.trans hpi) (hrq.id.trans hqi);have HP:=aa hpl;have HAt:=aa (show ∀w4,Below w2.heap.size w2 w4->Calls Tryz.prog 59 #[.agg #[.pointer (some ⟨np.blk,0,none⟩),.pointer (some ⟨np.b,0,none⟩),.string s]] w4 λe w'=>e=.returned (.tuple #[.int .i64 (A2 r.nms i s),.bool (decide (A2 r.nms i s≠0))])/\Below w4.heap.size w4 w' from λw4 hb=>by have hr4:=hrp2.below (.inr (.inl hkp)) hb;have:=Bc hr4 hkp (hr4.lt (.inr (.inl hkp))) s (some ⟨np.blk,0,none⟩);rw[hpi,hW.entry_some] at this;exact this)
 have HAt2:=aa (show ∀w4,Below w2.heap.size w2 w4->Calls Tryz.prog 59 #[.agg #[.pointer (some ⟨nq.blk,0,none⟩),.pointer (some ⟨nq.b,0,none⟩),.string s2]] w4 λe w'=>e=.returned (.tuple #[.int .i64 (A2 r.nms i2 s2),.bool (decide (A2 r.nms i2 s2≠0))])/\Below w4.heap.size w4 w' from λw4 hb=>by have hr4:=hrq2.below (.inr (.inl hkq)) hb;have:=Bc hr4 hkq (hr4.lt (.inr (.inl hkq))) s2 (some ⟨nq.blk,0,none⟩);rw[hqi,hW.entry_some] at this;exact this)
 have hx0:x.id≠0:=hW.ne0 hx;rw[hxi,decide_eq_true hx0] at HAt;have hrx2:=hrx.below (hW.kind x hx) hB;have HX:=aa (show ∀w',Below w2.heap.size w2 w'->w'.cell? ⟨f,1,none⟩=some (.map (some mi))/\w'.cell? ⟨nx.blk,5,none⟩=some (Ad x nx)/\(Instr.lookup 144 (.map (some mi)) (.int .i64 x.id) false).run Tryz.prog w'=.ok (.pointer (some ⟨nx.blk,0,none⟩)) w'/\w'.cell? ⟨nq.blk,0,none⟩=some (.int .i64 i2)/\w'.cell? ⟨nq.blk,4,none⟩=some (.int .i64 (A5 r q:Int)) from λw' hb=>by have h4:=h2.below hW hb;have hg:=h4.get hnx;rw[hrx.id] at hg;have hlk:=(h4.look x.id).2;rw[hg] at hlk;have hq4:=(hrq2.below (.inr (.inl hkq)) hb).cells;exact⟨h4.cells.2.1,(hrx2.below (hW.kind x hx) hb).cells.2.2.2.2.2,hlk,by rw[<-hqi];exact hq4.1,hq4.2.2.2.2.1⟩)
 have hta:∀w,(Instr.typeAssert (Ad x nx) 20 135 true).run Tryz.prog w=.ok (.tuple #[.pointer (some ⟨nx.b,0,none⟩),.bool true]) w:=λw=>by rw[Cl,dq hkx];rfl
 have ho0:o.id≠0:=hW.ne0 ho;rw[hoi,decide_eq_true ho0] at HAt2;have hbq:(o.id==x.id)=false:=by rw[beq_eq_false_iff_ne];exact hox
 have hro2:=hro.below (hW.kind o ho) hB;have HO:=aa (show ∀w',Below w2.heap.size w2 w'->(Instr.lookup 144 (.map (some mi)) (.int .i64 o.id) false).run Tryz.prog w'=.ok (.pointer (some ⟨no.blk,0,none⟩)) w' from λw' hb=>by have h4:=h2.below hW hb;have hg:=h4.get hno;rw[hro.id] at hg;have hlk:=(h4.look o.id).2;rw[hg] at hlk;exact hlk)
 have HMy:=aa (show ∀w',Below w2.heap.size w2 w'->Calls Tryz.prog 97 #[.pointer (some ⟨f,0,none⟩),.pointer (some ⟨no.blk,0,none⟩),.bool true] w' λe w''=>e=.returned (.int .i64 (Fp r o true))/\w'=w'' from λw' hb=>by have:=I6 (hro2.below (hW.kind o ho) hb) true (some ⟨f,0,none⟩);exact this)
 have HBl:=aa (show ∀w',Below w2.heap.size w2 w'->Calls Tryz.prog 100 #[.pointer (some ⟨f,0,none⟩),.int .i64 i2,.int .i64 x.id] w' λe w''=>e=.returned (.bool false)/\w'=w'' from λw' hb=>by have:=E6 (h2.below hW hb) hW hq hkq x.id;rw[hqi,hbl] at this;exact this)
 have hmn:(Fp r o true != 0)=true:=by rw[bne_iff_ne];exact hmy
 generalize Fp r o true=my at *;clear hw2 hB hb0 hb1 h h2 hW hrp2 hrq2 hpl _hp hkp hnp hrp hq hkq hnq hrq hpi hqi hl hl2 hk hk2 hv hv2 hx hnx hrx hxi hx0 hrx2 hkx hmy ho hno hro hoi hox ho0 hro2 hbl
 go_enter Tryz.func73,Tryz.ntmps73
 go_wp2_with fail
 rw[HW2.out]
 go_upto_region 4 with(go_at_call 99;(with_reducible refine HP.out.mono ?_);rintro e w3 ⟨rfl,hB3⟩;have hs3:=hB3.size;replace hB3:=aa hB3)
 obtain⟨w4,hw4,hB4,hs4,hb40,hb41⟩:=Gn w3 #[.pointer (some ⟨np.blk,0,none⟩),.pointer (some ⟨np.b,0,none⟩),.string s] #[.pointer (some ⟨nq.blk,0,none⟩),.pointer (some ⟨nq.b,0,none⟩),.string s2] 137 137;rw[hw4];have c0:w4.cell? ⟨w3.heap.size,0,none⟩=some (.pointer (some ⟨np.blk,0,none⟩)):=by rw[A1 hb40];rfl
 have c1:w4.cell? ⟨w3.heap.size,1,none⟩=some (.pointer (some ⟨np.b,0,none⟩)):=by rw[A1 hb40];rfl
 have c2:w4.cell? ⟨w3.heap.size,2,none⟩=some (.string s):=by rw[A1 hb40];rfl
 have HQ1:=aa hb40;have HQ2:=aa hb41;have HB4:=aa (hB3.out.trans (hB4.mono (by omega)));clear hw4 hb40 hb41 hB4
 go_wp2_with (first
  | (go_at_call 59;(with_reducible refine(HAt.out w4 HB4.out).mono ?_);rintro e w5 ⟨rfl,hB5⟩;have hs5:=hB5.size;have hY:=(hB5.block _ (by omega)).trans HQ2.out;have d0:w5.cell? ⟨w3.heap.size+1,0,none⟩=_:=A1 hY 0;have d1:w5.cell? ⟨w3.heap.size+1,1,none⟩=_:=A1 hY 1;have d2:w5.cell? ⟨w3.heap.size+1,2,none⟩=_:=A1 hY 2;have HQ25:=aa hY;have HQ15:=aa ((hB5.block _ (by omega)).trans HQ1.out);clear hY;have HB5:=aa (HB4.out.trans (hB5.mono HB4.out.size));obtain⟨x1,x2,x3,-,-⟩:=HX.out w5 HB5.out;clear hB5)
  | (go_at_call 59;(with_reducible refine(HAt2.out w5 HB5.out).mono ?_);rintro e w6 ⟨rfl,hB6⟩;have hs6:=hB6.size;have HQ26:=aa ((hB6.block _ (by omega)).trans HQ25.out);have HQ16:=aa ((hB6.block _ (by omega)).trans HQ15.out);have e0:w6.cell? ⟨w3.heap.size,0,none⟩=_:=A1 HQ16.out 0;have g0:w6.cell? ⟨w3.heap.size+1,0,none⟩=_:=A1 HQ26.out 0;have HB6:=aa (HB5.out.trans (hB6.mono HB5.out.size));obtain⟨y1,y2,y3,y4,y5⟩:=HX.out w6 HB6.out;clear hB6;have z1:=HO.out w6 HB6.out)
  | (go_at_call 100;(with_reducible refine(HBl.out w6 HB6.out).mono ?_);rintro e w7 ⟨rfl,rfl⟩)
  | (go_at_call 97;(with_reducible refine(HMy.out w6 HB6.out).mono ?_);rintro e w7 ⟨rfl,rfl⟩))
 go_ret
 exact⟨rfl,HB.out.trans (HB6.out.mono (by omega))⟩
set_option maxRecDepth 100000 in
set_option maxHeartbeats 8000000 in
theorem Rc {w:World}{f mi mg K:Nat}{r:RFs}{N:List Nd}(h:FsN w f mi mg r N)(hW:Wf r K)(i g:Int)(s:ByteArray)(hs:s.size<=maxLen)(i2 g2:Int)(s2:ByteArray)(hs2:s2.size<=maxLen)
  {p q:RIn} {np nq:Nd} (_hp:p∈r.ins) (hkp:p.kind=2) (hnp:np∈N) (hrp:NodeR w r p np) (hq:q∈r.ins) (hkq:q.kind=2) (hnq:nq∈N) (hrq:NodeR w r q nq) (hpi:p.id=i) (hqi:q.id=i2)
  (hl:Aj r (i,g)=true) (hl2:Aj r (i2,g2)=true) (hk:(A3 r.ins i).kind=2) (hk2:(A3 r.ins i2).kind=2) (hv:Ae s=true) (hv2:Ae s2=true)
  {x:RIn} {nx:Nd} (hx:x∈r.ins) (hnx:nx∈N) (hrx:NodeR w r x nx) (hxi:A2 r.nms i s=x.id) (hkx:x.kind=2) (hbl:Be r i2 x.id=false) (ho:A2 r.nms i2 s2=0) (hpq:np.blk≠nq.blk) (hlq:20<=A5 r q) :
  Calls Tryz.prog 73 #[.pointer (some ⟨f,0,none⟩),.agg #[.int .i64 i,.int .i64 g],.string s,.agg #[.int .i64 i2,.int .i64 g2],.string s2] w λe w'=>e=.returned (.int .i64 179)/\Below w.heap.size w w':=by
 obtain⟨w2,hw2,hB,hz2,hb0,hb1⟩:=Gn w #[.int .i64 i,.int .i64 g] #[.int .i64 i2,.int .i64 g2] 31 31;have t0:w2.cell? ⟨w.heap.size,0,none⟩=some (.int .i64 i):=by rw[A1 hb0];rfl
 have t1:w2.cell? ⟨w.heap.size,1,none⟩=some (.int .i64 g):=by rw[A1 hb0];rfl
 have t2:w2.cell? ⟨w.heap.size+1,0,none⟩=some (.int .i64 i2):=by rw[A1 hb1];rfl
 have t3:w2.cell? ⟨w.heap.size+1,1,none⟩=some (.int .i64 g2):=by rw[A1 hb1];rfl
 have h2:=h.below hW hB;have HW2:=aa hw2;have HB:=aa hB;have hrp2:=hrp.below (.inr (.inl hkp)) hB;have hrq2:=hrq.below (.inr (.inl hkq)) hB;have hpl:=Bv h2 hW i g s hs i2 g2 s2 hs2 hl hl2 hk hk2 hv hv2 hnp hnq (hrp.id.trans hpi) (hrq.id.trans hqi);have HP:=aa hpl;have HAt:=aa (show ∀w4,Below w2.heap.size w2 w4->Calls Tryz.prog 59 #[.agg #[.pointer (some ⟨np.blk,0,none⟩),.pointer (some ⟨np.b,0,none⟩),.string s]] w4 λe w'=>e=.returned (.tuple #[.int .i64 (A2 r.nms i s),.bool (decide (A2 r.nms i s≠0))])/\Below w4.heap.size w4 w' from λw4 hb=>by have hr4:=hrp2.below (.inr (.inl hkp)) hb;have:=Bc hr4 hkp (hr4.lt (.inr (.inl hkp))) s (some ⟨np.blk,0,none⟩);rw[hpi,hW.entry_some] at this;exact this)
 have HAt2:=aa (show ∀w4,Below w2.heap.size w2 w4->Calls Tryz.prog 59 #[.agg #[.pointer (some ⟨nq.blk,0,none⟩),.pointer (some ⟨nq.b,0,none⟩),.string s2]] w4 λe w'=>e=.returned (.tuple #[.int .i64 (A2 r.nms i2 s2),.bool (decide (A2 r.nms i2 s2≠0))])/\Below w4.heap.size w4 w' from λw4 hb=>by have hr4:=hrq2.below (.inr (.inl hkq)) hb;have:=Bc hr4 hkq (hr4.lt (.inr (.inl hkq))) s2 (some ⟨nq.blk,0,none⟩);rw[hqi,hW.entry_some] at this;exact this)
 have hx0:x.id≠0:=hW.ne0 hx;rw[hxi,decide_eq_true hx0] at HAt;have hrx2:=hrx.below (hW.kind x hx) hB;have HX:=aa (show ∀w',Below w2.heap.size w2 w'->w'.cell? ⟨f,1,none⟩=some (.map (some mi))/\w'.cell? ⟨nx.blk,5,none⟩=some (Ad x nx)/\(Instr.lookup 144 (.map (some mi)) (.int .i64 x.id) false).run Tryz.prog w'=.ok (.pointer (some ⟨nx.blk,0,none⟩)) w'/\w'.cell? ⟨nq.blk,0,none⟩=some (.int .i64 i2)/\w'.cell? ⟨nq.blk,4,none⟩=some (.int .i64 (A5 r q:Int)) from λw' hb=>by have h4:=h2.below hW hb;have hg:=h4.get hnx;rw[hrx.id] at hg;have hlk:=(h4.look x.id).2;rw[hg] at hlk;have hq4:=(hrq2.below (.inr (.inl hkq)) hb).cells;exact⟨h4.cells.2.1,(hrx2.below (hW.kind x hx) hb).cells.2.2.2.2.2,hlk,by rw[<-hqi];exact hq4.1,hq4.2.2.2.2.1⟩)
 have hta:∀w,(Instr.typeAssert (Ad x nx) 20 135 true).run Tryz.prog w=.ok (.tuple #[.pointer (some ⟨nx.b,0,none⟩),.bool true]) w:=λw=>by rw[Cl,dq hkx];rfl
 rw[ho] at HAt2;simp only[ne_eq,not_true_eq_false,decide_false] at HAt2;have HBl:=aa (show ∀w',Below w2.heap.size w2 w'->Calls Tryz.prog 100 #[.pointer (some ⟨f,0,none⟩),.int .i64 i2,.int .i64 x.id] w' λe w''=>e=.returned (.bool false)/\w'=w'' from λw' hb=>by have:=E6 (h2.below hW hb) hW hq hkq x.id;rw[hqi,hbl] at this;exact this)
 have q3:decide (20<=(A5 r q:Int))=true:=decide_eq_true (by omega);have q4:decide (20<=A5 r q)=true:=decide_eq_true hlq;have HNq:=aa (show ∀w',Below w2.heap.size w2 w'->(binOp .neq 134 (.pointer (some ⟨np.blk,0,none⟩)) (.pointer (some ⟨nq.blk,0,none⟩))).run Tryz.prog w'=.ok (.bool true) w' from λw' hb=>by have:=Tr (hrp2.below (.inr (.inl hkp)) hb).head (hrq2.below (.inr (.inl hkq)) hb).head;rw[decide_eq_false hpq] at this;exact this)
 clear hw2 hB hb0 hb1 h h2 hW hrp2 hrq2 hpl _hp hkp hnp hrp hq hkq hnq hrq hpi hqi hl hl2 hk hk2 hv hv2 hx hnx hrx hxi hx0 hrx2 ho hkx hbl hpq
 go_enter Tryz.func73,Tryz.ntmps73
 go_wp2_with fail
 rw[HW2.out]
 go_upto_region 4 with(go_at_call 99;(with_reducible refine HP.out.mono ?_);rintro e w3 ⟨rfl,hB3⟩;have hs3:=hB3.size;replace hB3:=aa hB3)
 obtain⟨w4,hw4,hB4,hs4,hb40,hb41⟩:=Gn w3 #[.pointer (some ⟨np.blk,0,none⟩),.pointer (some ⟨np.b,0,none⟩),.string s] #[.pointer (some ⟨nq.blk,0,none⟩),.pointer (some ⟨nq.b,0,none⟩),.string s2] 137 137;rw[hw4];have c0:w4.cell? ⟨w3.heap.size,0,none⟩=some (.pointer (some ⟨np.blk,0,none⟩)):=by rw[A1 hb40];rfl
 have c1:w4.cell? ⟨w3.heap.size,1,none⟩=some (.pointer (some ⟨np.b,0,none⟩)):=by rw[A1 hb40];rfl
 have c2:w4.cell? ⟨w3.heap.size,2,none⟩=some (.string s):=by rw[A1 hb40];rfl
 have HQ1:=aa hb40;have HQ2:=aa hb41;have HB4:=aa (hB3.out.trans (hB4.mono (by omega)));clear hw4 hb40 hb41 hB4
 go_wp2_with (first
  | (go_at_call 59;(with_reducible refine(HAt.out w4 HB4.out).mono ?_);rintro e w5 ⟨rfl,hB5⟩;have hs5:=hB5.size;have hY:=(hB5.block _ (by omega)).trans HQ2.out;have d0:w5.cell? ⟨w3.heap.size+1,0,none⟩=_:=A1 hY 0;have d1:w5.cell? ⟨w3.heap.size+1,1,none⟩=_:=A1 hY 1;have d2:w5.cell? ⟨w3.heap.size+1,2,none⟩=_:=A1 hY 2;have HQ25:=aa hY;have HQ15:=aa ((hB5.block _ (by omega)).trans HQ1.out);clear hY;have HB5:=aa (HB4.out.trans (hB5.mono HB4.out.size));obtain⟨x1,x2,x3,-,-⟩:=HX.out w5 HB5.out;clear hB5)
  | (go_at_call 59;(with_reducible refine(HAt2.out w5 HB5.out).mono ?_);rintro e w6 ⟨rfl,hB6⟩;have hs6:=hB6.size;have HQ26:=aa ((hB6.block _ (by omega)).trans HQ25.out);have HQ16:=aa ((hB6.block _ (by omega)).trans HQ15.out);have e0:w6.cell? ⟨w3.heap.size,0,none⟩=_:=A1 HQ16.out 0;have g0:w6.cell? ⟨w3.heap.size+1,0,none⟩=_:=A1 HQ26.out 0;have HB6:=aa (HB5.out.trans (hB6.mono HB5.out.size));obtain⟨y1,y2,y3,y4,y5⟩:=HX.out w6 HB6.out;clear hB6;have y6:=HNq.out w6 HB6.out)
  | (go_at_call 100;(with_reducible refine(HBl.out w6 HB6.out).mono ?_);rintro e w7 ⟨rfl,rfl⟩))
 go_ret
 exact⟨rfl,HB.out.trans (HB6.out.mono (by omega))⟩
set_option maxRecDepth 100000 in
set_option maxHeartbeats 8000000 in
theorem Tz {w:World}{f mi mg K:Nat}{r:RFs}{N:List Nd}(h:FsN w f mi mg r N)(hW:Wf r K)(i g:Int)(s:ByteArray)(hs:s.size<=maxLen)(i2 g2:Int)(s2:ByteArray)(hs2:s2.size<=maxLen)
  {p q:RIn} {np nq:Nd} (hp:p∈r.ins) (hkp:p.kind=2) (hnp:np∈N) (hrp:NodeR w r p np) (hq:q∈r.ins) (hkq:q.kind=2) (hnq:nq∈N) (hrq:NodeR w r q nq) (hpi:p.id=i) (hqi:q.id=i2)
  (hl:Aj r (i,g)=true) (hl2:Aj r (i2,g2)=true) (hk:(A3 r.ins i).kind=2) (hk2:(A3 r.ins i2).kind=2) (hv:Ae s=true) (hv2:Ae s2=true)
  {x:RIn} {nx:Nd} (hx:x∈r.ins) (hnx:nx∈N) (hrx:NodeR w r x nx) (hxi:A2 r.nms i s=x.id) (hxq:x.id≠q.id) (ho:A2 r.nms i2 s2=0) (hkx:¬x.kind=2) (hpq:np.blk≠nq.blk) :
  Calls Tryz.prog 73 #[.pointer (some ⟨f,0,none⟩),.agg #[.int .i64 i,.int .i64 g],.string s,.agg #[.int .i64 i2,.int .i64 g2],.string s2] w λe w'=>e=.returned (.int .i64 0)/\Cr w w' f mi mg N (Ah r i s i2 s2 x):=by
 obtain⟨w2,hw2,hB,hz2,hb0,hb1⟩:=Gn w #[.int .i64 i,.int .i64 g] #[.int .i64 i2,.int .i64 g2] 31 31;have t0:w2.cell? ⟨w.heap.size,0,none⟩=some (.int .i64 i):=by rw[A1 hb0];rfl
 have t1:w2.cell? ⟨w.heap.size,1,none⟩=some (.int .i64 g):=by rw[A1 hb0];rfl
 have t2:w2.cell? ⟨w.heap.size+1,0,none⟩=some (.int .i64 i2):=by rw[A1 hb1];rfl
 have t3:w2.cell? ⟨w.heap.size+1,1,none⟩=some (.int .i64 g2):=by rw[A1 hb1];rfl
 have h2:=h.below hW hB;have HW2:=aa hw2;have HB:=aa hB;have hrp2:=hrp.below (.inr (.inl hkp)) hB;have hrq2:=hrq.below (.inr (.inl hkq)) hB;have hpl:=Bv h2 hW i g s hs i2 g2 s2 hs2 hl hl2 hk hk2 hv hv2 hnp hnq (hrp.id.trans hpi) (hrq.id.trans hqi);have HP:=aa hpl;have HAt:=aa (show ∀w4,Below w2.heap.size w2 w4->Calls Tryz.prog 59 #[.agg #[.pointer (some ⟨np.blk,0,none⟩),.pointer (some ⟨np.b,0,none⟩),.string s]] w4 λe w'=>e=.returned (.tuple #[.int .i64 (A2 r.nms i s),.bool (decide (A2 r.nms i s≠0))])/\Below w4.heap.size w4 w' from λw4 hb=>by have hr4:=hrp2.below (.inr (.inl hkp)) hb;have:=Bc hr4 hkp (hr4.lt (.inr (.inl hkp))) s (some ⟨np.blk,0,none⟩);rw[hpi,hW.entry_some] at this;exact this)
 have HAt2:=aa (show ∀w4,Below w2.heap.size w2 w4->Calls Tryz.prog 59 #[.agg #[.pointer (some ⟨nq.blk,0,none⟩),.pointer (some ⟨nq.b,0,none⟩),.string s2]] w4 λe w'=>e=.returned (.tuple #[.int .i64 (A2 r.nms i2 s2),.bool (decide (A2 r.nms i2 s2≠0))])/\Below w4.heap.size w4 w' from λw4 hb=>by have hr4:=hrq2.below (.inr (.inl hkq)) hb;have:=Bc hr4 hkq (hr4.lt (.inr (.inl hkq))) s2 (some ⟨nq.blk,0,none⟩);rw[hqi,hW.entry_some] at this;exact this)
 have hx0:x.id≠0:=hW.ne0 hx;rw[hxi,decide_eq_true hx0] at HAt;have hrx2:=hrx.below (hW.kind x hx) hB;have HX:=aa (show ∀w',Below w2.heap.size w2 w'->w'.cell? ⟨f,1,none⟩=some (.map (some mi))/\w'.cell? ⟨nx.blk,5,none⟩=some (Ad x nx)/\(Instr.lookup 144 (.map (some mi)) (.int .i64 x.id) false).run Tryz.prog w'=.ok (.pointer (some ⟨nx.blk,0,none⟩)) w'/\w'.cell? ⟨nq.blk,0,none⟩=some (.int .i64 i2)/\w'.cell? ⟨nq.blk,4,none⟩=some (.int .i64 (A5 r q:Int)) from λw' hb=>by have h4:=h2.below hW hb;have hg:=h4.get hnx;rw[hrx.id] at hg;have hlk:=(h4.look x.id).2;rw[hg] at hlk;have hq4:=(hrq2.below (.inr (.inl hkq)) hb).cells;exact⟨h4.cells.2.1,(hrx2.below (hW.kind x hx) hb).cells.2.2.2.2.2,hlk,by rw[<-hqi];exact hq4.1,hq4.2.2.2.2.1⟩)
 have hta:∀w,(Instr.typeAssert (Ad x nx) 20 135 true).run Tryz.prog w=.ok (.tuple #[.pointer none,.bool false]) w:=λw=>by rw[Cl,dp hkx]
 have hh0:A2 r.nms i s≠0:=by rw[hxi];exact hW.ne0 hx
 obtain⟨n0,hn0,m1,m2,m3⟩:=B4 hh0;rw[hxi] at m3;rw[<-hpi] at m1;have hxp:x.id≠p.id:=by rw[<-m3,<-m1];exact hW.self_ne hn0
 have HH:=aa h;have HWf:=aa hW;have HR:=aa (And.intro hrx (And.intro hrp hrq));have HM:=aa (And.intro hx (And.intro hp hq));have HN:=aa (And.intro hnx (And.intro hnp hnq));have H0:=aa (And.intro hn0 (And.intro m1 (And.intro m2 m3)));have HK:=aa (And.intro hkp hkq);have HI:=aa (And.intro hpi hqi);have HXP:=aa hxp;have HNo:=aa (Du hW (l:=r.nms) (λ_ hn=>hn) ho);have HN6:=aa (show ∀w',Below w2.heap.size w2 w'->FsN w' f mi mg r N/\NodeR w' r p np/\NodeR w' r q nq/\NodeR w' r x nx from λw' hb=>⟨h2.below hW hb,hrp2.below (.inr (.inl hkp)) hb,hrq2.below (.inr (.inl hkq)) hb,hrx2.below (hW.kind x hx) hb⟩);rw[ho] at HAt2;simp only[ne_eq,not_true_eq_false,decide_false] at HAt2;have HKX:=aa hkx;have HXQ:=aa hxq;have HAg:=aa (show(Az (Aa r.nms q.id) s2).isSome=false by rw[hW.entry_some,hqi,ho];rfl);have hmm:nq.m≠np.m:=λe=>hpq (by
  by_cases c:nq=np
  .rw[c]
  .exact dt (e ▸ Nd.m_mem (hrp.ne hkp).1) (h.apart hnq hnp c _ (Nd.m_mem (hrq.ne hkq).1)))
 have HMm:=aa hmm;have HPB:=aa hpq;have HPQ:=aa (show p.id≠q.id from λe=>hpq (by rw[Ba h.idU hnp hnq (hrp.id.trans (e.trans hrq.id.symm))]));clear hw2 hB hb0 hb1 h h2 hW hrp2 hrq2 hpl hp hkp hnp hrp hq hkq hnq hrq hpi hqi hl hl2 hk hk2 hv hv2 hx hnx hrx hxi hx0 hrx2 ho hkx hpq hmm hxq hh0 hn0 m1 m2 m3 hxp
 go_enter Tryz.func73,Tryz.ntmps73
 go_wp2_with fail
 rw[HW2.out]
 go_upto_region 4 with(go_at_call 99;(with_reducible refine HP.out.mono ?_);rintro e w3 ⟨rfl,hB3⟩;have hs3:=hB3.size;replace hB3:=aa hB3)
 obtain⟨w4,hw4,hB4,hs4,hb40,hb41⟩:=Gn w3 #[.pointer (some ⟨np.blk,0,none⟩),.pointer (some ⟨np.b,0,none⟩),.string s] #[.pointer (some ⟨nq.blk,0,none⟩),.pointer (some ⟨nq.b,0,none⟩),.string s2] 137 137;rw[hw4];have c0:w4.cell? ⟨w3.heap.size,0,none⟩=some (.pointer (some ⟨np.blk,0,none⟩)):=by rw[A1 hb40];rfl
 have c1:w4.cell? ⟨w3.heap.size,1,none⟩=some (.pointer (some ⟨np.b,0,none⟩)):=by rw[A1 hb40];rfl
 have c2:w4.cell? ⟨w3.heap.size,2,none⟩=some (.string s):=by rw[A1 hb40];rfl
 have HQ1:=aa hb40;have HQ2:=aa hb41;have HB4:=aa (hB3.out.trans (hB4.mono (by omega)));clear hw4 hb40 hb41 hB4
 go_upto_region 22 with(first
  | (go_at_call 59;(with_reducible refine(HAt.out w4 HB4.out).mono ?_);rintro e w5 ⟨rfl,hB5⟩;have hs5:=hB5.size;have hY:=(hB5.block _ (by omega)).trans HQ2.out;have d0:w5.cell? ⟨w3.heap.size+1,0,none⟩=_:=A1 hY 0;have d1:w5.cell? ⟨w3.heap.size+1,1,none⟩=_:=A1 hY 1;have d2:w5.cell? ⟨w3.heap.size+1,2,none⟩=_:=A1 hY 2;have HQ25:=aa hY;have HQ15:=aa ((hB5.block _ (by omega)).trans HQ1.out);clear hY;have HB5:=aa (HB4.out.trans (hB5.mono HB4.out.size));obtain⟨x1,x2,x3,-,-⟩:=HX.out w5 HB5.out;clear hB5)
  | (go_at_call 59;(with_reducible refine(HAt2.out w5 HB5.out).mono ?_);rintro e w6 ⟨rfl,hB6⟩;have hs6:=hB6.size;have HQ26:=aa ((hB6.block _ (by omega)).trans HQ25.out);have HQ16:=aa ((hB6.block _ (by omega)).trans HQ15.out);have e0:w6.cell? ⟨w3.heap.size,0,none⟩=_:=A1 HQ16.out 0;have g0:w6.cell? ⟨w3.heap.size+1,0,none⟩=_:=A1 HQ26.out 0;have HB6:=aa (HB5.out.trans (hB6.mono HB5.out.size));obtain⟨y1,y2,y3,y4,y5⟩:=HX.out w6 HB6.out;clear hB6))
 obtain⟨F6,P6,Q6,X6⟩:=HN6.out w6 HB6.out;have a1:w6.cell? ⟨w3.heap.size,1,none⟩=some (.pointer (some ⟨np.b,0,none⟩)):=by rw[A1 HQ16.out];rfl
 have a2:w6.cell? ⟨np.b,0,none⟩=some (.map (some np.m)):=by rw[A1 (P6.dir HK.out.1).1];rfl
 have hm6:MapB w6 np.m Ci Aw (Aa r.nms p.id):=(P6.dir HK.out.1).2;obtain⟨o1,hdel,hmp1⟩:=C0 (P:=Tryz.prog) (ty:=0) (tk:=9) KS (t:=150) Tryz.underlying150 hm6 s;unfold Ci at hdel;have M1:=aa hmp1;have G6:=aa F6;have P6':=aa P6;have Q6':=aa Q6;have X6':=aa X6;clear F6 P6 Q6 X6 hm6 hmp1
 go_upto_region 23 with fail
 obtain⟨w7,hw7⟩:∃w7,putObj w6 np.m o1=w7:=⟨_,rfl⟩;rw[hw7];have k7:∀k,k≠np.m->w7.heap[k]?=w6.heap[k]?:=λk hk=>by rw[<-hw7];exact A9 w6 o1 hk
 rw[hw7] at M1;have W7:=aa hw7;have K7:=aa k7;have b1:w7.cell? ⟨w3.heap.size+1,1,none⟩=some (.pointer (some ⟨nq.b,0,none⟩)):=by rw[A1 ((k7 _ (A8 (P6'.out.dir HK.out.1).2 HQ26.out).symm).trans HQ26.out)];rfl
 have b2:w7.cell? ⟨nq.b,0,none⟩=some (.map (some nq.m)):=by rw[A1 ((k7 _ (A8 (P6'.out.dir HK.out.1).2 (Q6'.out.dir HK.out.2).1).symm).trans (Q6'.out.dir HK.out.2).1)];rfl
 have hm7:MapB w7 nq.m Ci Aw (Aa r.nms q.id):=(Q6'.out.dir HK.out.2).2.of_block (k7 _ HMm.out);have hag:(Az (Aa r.nms q.id) s2).isSome=false:=HAg.out;obtain⟨o2,hup,hmp2⟩:=Am KS (P:=Tryz.prog) (t:=150) Tryz.underlying150 hm7 s2 x.id;rw[C5 hag] at hmp2;unfold Ci Aw at hup;have M2:=aa hmp2;clear hm7 hag hmp2 hw7 k7 hdel a1 a2
 go_upto_region 24 with fail
 obtain⟨w8,hw8⟩:∃w8,putObj w7 nq.m o2=w8:=⟨_,rfl⟩;rw[hw8];rw[hw8] at M2;have W8:=aa hw8;have K8:=aa (show ∀k,k≠nq.m->w8.heap[k]?=w7.heap[k]? from λk hk=>by rw[<-hw8];exact A9 w7 o2 hk);clear hw8 hup b1 b2
 go_wp2
 go_ret
 refine⟨rfl,?_⟩;obtain⟨ei,eq⟩:=HI.out;subst ei eq;obtain⟨hx,hp,hq⟩:=HM.out;obtain⟨hnx,hnp,hnq⟩:=HN.out;obtain⟨hrx,hrp,hrq⟩:=HR.out;obtain⟨hn0,m1,m2,m3⟩:=H0.out;have B6:=HB.out.trans (HB6.out.mono (show w.heap.size<=w2.heap.size by omega));have hlk:=λy=>C3 HWf.out hx hn0 m3 q.id s2 (y:=y) (y':=y) rfl rfl;rw[m1,m2] at hlk;have hns:∀j,Aa (Ah r p.id s q.id s2 x).nms j=_:=λj=>by rw[Ck,B1,Ay]
 have pm:=(P6'.out.dir HK.out.1).2;have qm:=(Q6'.out.dir HK.out.2).2;have hl:∀y,A5 (Ah r p.id s q.id s2 x) y=A5 r y:=λy=>by have:=hlk y;rw[dp (λe=>HKX.out e.2.1),dp (λe=>HKX.out e.2.1)] at this;exact this
 refine⟨N,Ew HH.out HWf.out hx hnx hrx hp HK.out.1 hnp hrp hq HK.out.2 hnq hrq hn0 m1 m2 m3 HXP.out HXQ.out (λk hk a b _ _ _=>(K8.out k b).trans ((K7.out k a).trans (B6.block k hk))) ?_ ?_ ?_ ?_ (λe=>dt e HKX.out),λk hk=>.inl hk,?_⟩
 .rw[hns,dp HPQ.out,dq rfl];exact M1.out.of_block (K8.out _ (λe=>HMm.out e.symm))
 .rw[hns,dq rfl,dp (λe=>HPQ.out e.symm)];exact M2.out
 .rw[hl];exact(K8.out _ (A8 qm P6'.out.head).symm).trans ((K7.out _ (A8 pm P6'.out.head).symm).trans P6'.out.head)
 .rw[hl];exact(K8.out _ (A8 qm Q6'.out.head).symm).trans ((K7.out _ (A8 pm Q6'.out.head).symm).trans Q6'.out.head)
 .rw[<-W8.out,<-W7.out];exact((Frm.of_below B6).putObj (.inl (Ak hnp (Nd.m_mem (hrp.ne HK.out.1).1))) o1).putObj (.inl (Ak hnq (Nd.m_mem (hrq.ne HK.out.2).1))) o2
set_option maxRecDepth 100000 in
set_option maxHeartbeats 8000000 in
theorem U8 {w:World}{f mi mg K:Nat}{r:RFs}{N:List Nd}(h:FsN w f mi mg r N)(hW:Wf r K)(i g:Int)(s:ByteArray)(hs:s.size<=maxLen)(i2 g2:Int)(s2:ByteArray)(hs2:s2.size<=maxLen)
  {p q:RIn} {np nq:Nd} (hp:p∈r.ins) (hkp:p.kind=2) (hnp:np∈N) (hrp:NodeR w r p np) (hq:q∈r.ins) (hkq:q.kind=2) (hnq:nq∈N) (hrq:NodeR w r q nq) (hpi:p.id=i) (hqi:q.id=i2)
  (hl:Aj r (i,g)=true) (hl2:Aj r (i2,g2)=true) (hk:(A3 r.ins i).kind=2) (hk2:(A3 r.ins i2).kind=2) (hv:Ae s=true) (hv2:Ae s2=true)
  {x:RIn} {nx:Nd} (hx:x∈r.ins) (hnx:nx∈N) (hrx:NodeR w r x nx) (hxi:A2 r.nms i s=x.id) (hxq:x.id≠q.id) (ho:A2 r.nms i2 s2=0) (hkx:¬x.kind=2) (hpq:np=nq) :
  Calls Tryz.prog 73 #[.pointer (some ⟨f,0,none⟩),.agg #[.int .i64 i,.int .i64 g],.string s,.agg #[.int .i64 i2,.int .i64 g2],.string s2] w λe w'=>e=.returned (.int .i64 0)/\Cr w w' f mi mg N (Ah r i s i2 s2 x):=by
 subst hpq;obtain rfl:=h.uniq hW hp hrp hq hrq;obtain rfl:i=i2:=hpi.symm.trans hqi;obtain⟨w2,hw2,hB,hz2,hb0,hb1⟩:=Gn w #[.int .i64 i,.int .i64 g] #[.int .i64 i,.int .i64 g2] 31 31;have t0:w2.cell? ⟨w.heap.size,0,none⟩=some (.int .i64 i):=by rw[A1 hb0];rfl
 have t1:w2.cell? ⟨w.heap.size,1,none⟩=some (.int .i64 g):=by rw[A1 hb0];rfl
 have t2:w2.cell? ⟨w.heap.size+1,0,none⟩=some (.int .i64 i):=by rw[A1 hb1];rfl
 have t3:w2.cell? ⟨w.heap.size+1,1,none⟩=some (.int .i64 g2):=by rw[A1 hb1];rfl
 have h2:=h.below hW hB;have HW2:=aa hw2;have HB:=aa hB;have hrp2:=hrp.below (.inr (.inl hkp)) hB;have hrq2:=hrq.below (.inr (.inl hkq)) hB;have hpl:=Bv h2 hW i g s hs i g2 s2 hs2 hl hl2 hk hk2 hv hv2 hnp hnq (hrp.id.trans hpi) (hrq.id.trans hqi);have HP:=aa hpl;have HAt:=aa (show ∀w4,Below w2.heap.size w2 w4->Calls Tryz.prog 59 #[.agg #[.pointer (some ⟨np.blk,0,none⟩),.pointer (some ⟨np.b,0,none⟩),.string s]] w4 λe w'=>e=.returned (.tuple #[.int .i64 (A2 r.nms i s),.bool (decide (A2 r.nms i s≠0))])/\Below w4.heap.size w4 w' from λw4 hb=>by have hr4:=hrp2.below (.inr (.inl hkp)) hb;have:=Bc hr4 hkp (hr4.lt (.inr (.inl hkp))) s (some ⟨np.blk,0,none⟩);rw[hpi,hW.entry_some] at this;exact this)
 have HAt2:=aa (show ∀w4,Below w2.heap.size w2 w4->Calls Tryz.prog 59 #[.agg #[.pointer (some ⟨np.blk,0,none⟩),.pointer (some ⟨np.b,0,none⟩),.string s2]] w4 λe w'=>e=.returned (.tuple #[.int .i64 (A2 r.nms i s2),.bool (decide (A2 r.nms i s2≠0))])/\Below w4.heap.size w4 w' from λw4 hb=>by have hr4:=hrq2.below (.inr (.inl hkq)) hb;have:=Bc hr4 hkq (hr4.lt (.inr (.inl hkq))) s2 (some ⟨np.blk,0,none⟩);rw[hqi,hW.entry_some] at this;exact this)
 have hx0:x.id≠0:=hW.ne0 hx;rw[hxi,decide_eq_true hx0] at HAt;have hrx2:=hrx.below (hW.kind x hx) hB;have HX:=aa (show ∀w',Below w2.heap.size w2 w'->w'.cell? ⟨f,1,none⟩=some (.map (some mi))/\w'.cell? ⟨nx.blk,5,none⟩=some (Ad x nx)/\(Instr.lookup 144 (.map (some mi)) (.int .i64 x.id) false).run Tryz.prog w'=.ok (.pointer (some ⟨nx.blk,0,none⟩)) w'/\w'.cell? ⟨np.blk,0,none⟩=some (.int .i64 i)/\w'.cell? ⟨np.blk,4,none⟩=some (.int .i64 (A5 r p:Int)) from λw' hb=>by have h4:=h2.below hW hb;have hg:=h4.get hnx;rw[hrx.id] at hg;have hlk:=(h4.look x.id).2;rw[hg] at hlk;have hq4:=(hrq2.below (.inr (.inl hkq)) hb).cells;exact⟨h4.cells.2.1,(hrx2.below (hW.kind x hx) hb).cells.2.2.2.2.2,hlk,by rw[<-hqi];exact hq4.1,hq4.2.2.2.2.1⟩)
 have hta:∀w,(Instr.typeAssert (Ad x nx) 20 135 true).run Tryz.prog w=.ok (.tuple #[.pointer none,.bool false]) w:=λw=>by rw[Cl,dp hkx]
 have hh0:A2 r.nms i s≠0:=by rw[hxi];exact hW.ne0 hx
 obtain⟨n0,hn0,m1,m2,m3⟩:=B4 hh0;rw[hxi] at m3;rw[<-hpi] at m1;have hxp:x.id≠p.id:=by rw[<-m3,<-m1];exact hW.self_ne hn0
 have HH:=aa h;have HWf:=aa hW;have HR:=aa (And.intro hrx (And.intro hrp hrq));have HM:=aa (And.intro hx (And.intro hp hq));have HN:=aa (And.intro hnx (And.intro hnp hnq));have H0:=aa (And.intro hn0 (And.intro m1 (And.intro m2 m3)));have HK:=aa (And.intro hkp hkq);have HI:=aa (And.intro hpi hqi);have HXP:=aa hxp;have HNo:=aa (Du hW (l:=r.nms) (λ_ hn=>hn) ho);have HN6:=aa (show ∀w',Below w2.heap.size w2 w'->FsN w' f mi mg r N/\NodeR w' r p np/\NodeR w' r p np/\NodeR w' r x nx from λw' hb=>⟨h2.below hW hb,hrp2.below (.inr (.inl hkp)) hb,hrq2.below (.inr (.inl hkq)) hb,hrx2.below (hW.kind x hx) hb⟩);rw[ho] at HAt2;simp only[ne_eq,not_true_eq_false,decide_false] at HAt2;have HKX:=aa hkx;have HXQ:=aa hxq;have HAg:=aa (show(Az (Hq (Aa r.nms p.id) s) s2).isSome=false from by
  have h0:(Az (Aa r.nms p.id) s2).isSome=false:=by rw[hW.entry_some,hqi,ho];rfl
  have h1:Az (Aa r.nms p.id) s2=none:=by cases hh:Az (Aa r.nms p.id) s2 with
   | none=>rfl
   | some v=>rw[hh] at h0;cases h0
  rw[Cy] at h1;have h2:Az (Hq (Aa r.nms p.id) s) s2=none:=by rw[Cy];intro z hz;exact h1 z (af.1 hz).1
  rw[h2];rfl)
 clear hw2 hB hb0 hb1 h h2 hW hrp2 hrq2 hpl hp hkp hnp hrp hq hkq hnq hrq hpi hqi hl hl2 hk hk2 hv hv2 hx hnx hrx hxi hx0 hrx2 ho hkx hxq hh0 hn0 m1 m2 m3 hxp
 go_enter Tryz.func73,Tryz.ntmps73
 go_wp2_with fail
 rw[HW2.out]
 go_upto_region 4 with(go_at_call 99;(with_reducible refine HP.out.mono ?_);rintro e w3 ⟨rfl,hB3⟩;have hs3:=hB3.size;replace hB3:=aa hB3)
 obtain⟨w4,hw4,hB4,hs4,hb40,hb41⟩:=Gn w3 #[.pointer (some ⟨np.blk,0,none⟩),.pointer (some ⟨np.b,0,none⟩),.string s] #[.pointer (some ⟨np.blk,0,none⟩),.pointer (some ⟨np.b,0,none⟩),.string s2] 137 137;rw[hw4];have c0:w4.cell? ⟨w3.heap.size,0,none⟩=some (.pointer (some ⟨np.blk,0,none⟩)):=by rw[A1 hb40];rfl
 have c1:w4.cell? ⟨w3.heap.size,1,none⟩=some (.pointer (some ⟨np.b,0,none⟩)):=by rw[A1 hb40];rfl
 have c2:w4.cell? ⟨w3.heap.size,2,none⟩=some (.string s):=by rw[A1 hb40];rfl
 have HQ1:=aa hb40;have HQ2:=aa hb41;have HB4:=aa (hB3.out.trans (hB4.mono (by omega)));clear hw4 hb40 hb41 hB4
 go_upto_region 22 with(first
  | (go_at_call 59;(with_reducible refine(HAt.out w4 HB4.out).mono ?_);rintro e w5 ⟨rfl,hB5⟩;have hs5:=hB5.size;have hY:=(hB5.block _ (by omega)).trans HQ2.out;have d0:w5.cell? ⟨w3.heap.size+1,0,none⟩=_:=A1 hY 0;have d1:w5.cell? ⟨w3.heap.size+1,1,none⟩=_:=A1 hY 1;have d2:w5.cell? ⟨w3.heap.size+1,2,none⟩=_:=A1 hY 2;have HQ25:=aa hY;have HQ15:=aa ((hB5.block _ (by omega)).trans HQ1.out);clear hY;have HB5:=aa (HB4.out.trans (hB5.mono HB4.out.size));obtain⟨x1,x2,x3,-,-⟩:=HX.out w5 HB5.out;clear hB5)
  | (go_at_call 59;(with_reducible refine(HAt2.out w5 HB5.out).mono ?_);rintro e w6 ⟨rfl,hB6⟩;have hs6:=hB6.size;have HQ26:=aa ((hB6.block _ (by omega)).trans HQ25.out);have HQ16:=aa ((hB6.block _ (by omega)).trans HQ15.out);have e0:w6.cell? ⟨w3.heap.size,0,none⟩=_:=A1 HQ16.out 0;have g0:w6.cell? ⟨w3.heap.size+1,0,none⟩=_:=A1 HQ26.out 0;have HB6:=aa (HB5.out.trans (hB6.mono HB5.out.size));obtain⟨y1,y2,y3,y4,y5⟩:=HX.out w6 HB6.out;clear hB6))
 obtain⟨F6,P6,Q6,X6⟩:=HN6.out w6 HB6.out;have a1:w6.cell? ⟨w3.heap.size,1,none⟩=some (.pointer (some ⟨np.b,0,none⟩)):=by rw[A1 HQ16.out];rfl
 have a2:w6.cell? ⟨np.b,0,none⟩=some (.map (some np.m)):=by rw[A1 (P6.dir HK.out.1).1];rfl
 have hm6:MapB w6 np.m Ci Aw (Aa r.nms p.id):=(P6.dir HK.out.1).2;obtain⟨o1,hdel,hmp1⟩:=C0 (P:=Tryz.prog) (ty:=0) (tk:=9) KS (t:=150) Tryz.underlying150 hm6 s;unfold Ci at hdel;have M1:=aa hmp1;have G6:=aa F6;have P6':=aa P6;have Q6':=aa Q6;have X6':=aa X6;clear F6 P6 Q6 X6 hm6 hmp1
 go_upto_region 23 with fail
 obtain⟨w7,hw7⟩:∃w7,putObj w6 np.m o1=w7:=⟨_,rfl⟩;rw[hw7];have k7:∀k,k≠np.m->w7.heap[k]?=w6.heap[k]?:=λk hk=>by rw[<-hw7];exact A9 w6 o1 hk
 rw[hw7] at M1;have W7:=aa hw7;have K7:=aa k7;have b1:w7.cell? ⟨w3.heap.size+1,1,none⟩=some (.pointer (some ⟨np.b,0,none⟩)):=by rw[A1 ((k7 _ (A8 (P6'.out.dir HK.out.1).2 HQ26.out).symm).trans HQ26.out)];rfl
 have b2:w7.cell? ⟨np.b,0,none⟩=some (.map (some np.m)):=by rw[A1 ((k7 _ (A8 (P6'.out.dir HK.out.1).2 (Q6'.out.dir HK.out.2).1).symm).trans (Q6'.out.dir HK.out.2).1)];rfl
 have hm7:MapB w7 np.m Ci Aw (Hq (Aa r.nms p.id) s):=M1.out;have hag:(Az (Hq (Aa r.nms p.id) s) s2).isSome=false:=HAg.out;obtain⟨o2,hup,hmp2⟩:=Am KS (P:=Tryz.prog) (t:=150) Tryz.underlying150 hm7 s2 x.id;rw[C5 hag] at hmp2;unfold Ci Aw at hup;have M2:=aa hmp2;clear hm7 hag hmp2 hw7 k7 hdel a1 a2
 go_upto_region 24 with fail
 obtain⟨w8,hw8⟩:∃w8,putObj w7 np.m o2=w8:=⟨_,rfl⟩;rw[hw8];rw[hw8] at M2;have W8:=aa hw8;have K8:=aa (show ∀k,k≠np.m->w8.heap[k]?=w7.heap[k]? from λk hk=>by rw[<-hw8];exact A9 w7 o2 hk);clear hw8 hup b1 b2
 go_wp2
 go_ret
 refine⟨rfl,?_⟩;obtain⟨ei,-⟩:=HI.out;subst ei;obtain⟨hx,hp,hq⟩:=HM.out;obtain⟨hnx,hnp,hnq⟩:=HN.out;obtain⟨hrx,hrp,hrq⟩:=HR.out;obtain⟨hn0,m1,m2,m3⟩:=H0.out;have B6:=HB.out.trans (HB6.out.mono (show w.heap.size<=w2.heap.size by omega));have hlk:=λy=>C3 HWf.out hx hn0 m3 p.id s2 (y:=y) (y':=y) rfl rfl;rw[m1,m2] at hlk;have hns:∀j,Aa (Ah r p.id s p.id s2 x).nms j=_:=λj=>by rw[Ck,B1,Ay]
 have pm:=(P6'.out.dir HK.out.1).2;have qm:=(Q6'.out.dir HK.out.2).2;have hl:∀y,A5 (Ah r p.id s p.id s2 x) y=A5 r y:=λy=>by have:=hlk y;rw[dp (λe=>HKX.out e.2.1)] at this;exact this
 refine⟨N,Ew HH.out HWf.out hx hnx hrx hp HK.out.1 hnp hrp hq HK.out.2 hnq hrq hn0 m1 m2 m3 HXP.out HXQ.out (λk hk a b _ _ _=>(K8.out k b).trans ((K7.out k a).trans (B6.block k hk))) ?_ ?_ ?_ ?_ (λe=>dt e HKX.out),λk hk=>.inl hk,?_⟩
 .rw[hns,dq rfl,dq rfl];exact M2.out
 .rw[hns,dq rfl,dq rfl];exact M2.out
 .rw[hl];exact(K8.out _ (A8 qm P6'.out.head).symm).trans ((K7.out _ (A8 pm P6'.out.head).symm).trans P6'.out.head)
 .rw[hl];exact(K8.out _ (A8 qm Q6'.out.head).symm).trans ((K7.out _ (A8 pm Q6'.out.head).symm).trans Q6'.out.head)
 .rw[<-W8.out,<-W7.out];exact((Frm.of_below B6).putObj (.inl (Ak hnp (Nd.m_mem (hrp.ne HK.out.1).1))) o1).putObj (.inl (Ak hnq (Nd.m_mem (hrq.ne HK.out.2).1))) o2
set_option maxRecDepth 100000 in
set_option maxHeartbeats 8000000 in
theorem Sq {w:World}{f mi mg K:Nat}{r:RFs}{N:List Nd}(h:FsN w f mi mg r N)(hW:Wf r K)(i g:Int)(s:ByteArray)(hs:s.size<=maxLen)(i2 g2:Int)(s2:ByteArray)(hs2:s2.size<=maxLen)
  {p q:RIn} {np nq:Nd} (hp:p∈r.ins) (hkp:p.kind=2) (hnp:np∈N) (hrp:NodeR w r p np) (hq:q∈r.ins) (hkq:q.kind=2) (hnq:nq∈N) (hrq:NodeR w r q nq) (hpi:p.id=i) (hqi:q.id=i2)
  (hl:Aj r (i,g)=true) (hl2:Aj r (i2,g2)=true) (hk:(A3 r.ins i).kind=2) (hk2:(A3 r.ins i2).kind=2) (hv:Ae s=true) (hv2:Ae s2=true)
  {x:RIn} {nx:Nd} (hx:x∈r.ins) (hnx:nx∈N) (hrx:NodeR w r x nx) (hxi:A2 r.nms i s=x.id) (hxq:x.id≠q.id) (ho:A2 r.nms i2 s2=0) (hkx:x.kind=2) (hbl:Be r i2 x.id=false) (hpq:np.blk≠nq.blk) (hlq:A5 r q < 20) :
  Calls Tryz.prog 73 #[.pointer (some ⟨f,0,none⟩),.agg #[.int .i64 i,.int .i64 g],.string s,.agg #[.int .i64 i2,.int .i64 g2],.string s2] w λe w'=>e=.returned (.int .i64 0)/\Cr w w' f mi mg N (Ah r i s i2 s2 x):=by
 obtain⟨w2,hw2,hB,hz2,hb0,hb1⟩:=Gn w #[.int .i64 i,.int .i64 g] #[.int .i64 i2,.int .i64 g2] 31 31;have t0:w2.cell? ⟨w.heap.size,0,none⟩=some (.int .i64 i):=by rw[A1 hb0];rfl
 have t1:w2.cell? ⟨w.heap.size,1,none⟩=some (.int .i64 g):=by rw[A1 hb0];rfl
 have t2:w2.cell? ⟨w.heap.size+1,0,none⟩=some (.int .i64 i2):=by rw[A1 hb1];rfl
 have t3:w2.cell? ⟨w.heap.size+1,1,none⟩=some (.int .i64 g2):=by rw[A1 hb1];rfl
 have h2:=h.below hW hB;have HW2:=aa hw2;have HB:=aa hB;have hrp2:=hrp.below (.inr (.inl hkp)) hB;have hrq2:=hrq.below (.inr (.inl hkq)) hB;have hpl:=Bv h2 hW i g s hs i2 g2 s2 hs2 hl hl2 hk hk2 hv hv2 hnp hnq (hrp.id.trans hpi) (hrq.id.trans hqi);have HP:=aa hpl;have HAt:=aa (show ∀w4,Below w2.heap.size w2 w4->Calls Tryz.prog 59 #[.agg #[.pointer (some ⟨np.blk,0,none⟩),.pointer (some ⟨np.b,0,none⟩),.string s]] w4 λe w'=>e=.returned (.tuple #[.int .i64 (A2 r.nms i s),.bool (decide (A2 r.nms i s≠0))])/\Below w4.heap.size w4 w' from λw4 hb=>by have hr4:=hrp2.below (.inr (.inl hkp)) hb;have:=Bc hr4 hkp (hr4.lt (.inr (.inl hkp))) s (some ⟨np.blk,0,none⟩);rw[hpi,hW.entry_some] at this;exact this)
 have HAt2:=aa (show ∀w4,Below w2.heap.size w2 w4->Calls Tryz.prog 59 #[.agg #[.pointer (some ⟨nq.blk,0,none⟩),.pointer (some ⟨nq.b,0,none⟩),.string s2]] w4 λe w'=>e=.returned (.tuple #[.int .i64 (A2 r.nms i2 s2),.bool (decide (A2 r.nms i2 s2≠0))])/\Below w4.heap.size w4 w' from λw4 hb=>by have hr4:=hrq2.below (.inr (.inl hkq)) hb;have:=Bc hr4 hkq (hr4.lt (.inr (.inl hkq))) s2 (some ⟨nq.blk,0,none⟩);rw[hqi,hW.entry_some] at this;exact this)
 have hx0:x.id≠0:=hW.ne0 hx;rw[hxi,decide_eq_true hx0] at HAt;have hrx2:=hrx.below (hW.kind x hx) hB;have HX:=aa (show ∀w',Below w2.heap.size w2 w'->w'.cell? ⟨f,1,none⟩=some (.map (some mi))/\w'.cell? ⟨nx.blk,5,none⟩=some (Ad x nx)/\(Instr.lookup 144 (.map (some mi)) (.int .i64 x.id) false).run Tryz.prog w'=.ok (.pointer (some ⟨nx.blk,0,none⟩)) w'/\w'.cell? ⟨nq.blk,0,none⟩=some (.int .i64 i2)/\w'.cell? ⟨nq.blk,4,none⟩=some (.int .i64 (A5 r q:Int)) from λw' hb=>by have h4:=h2.below hW hb;have hg:=h4.get hnx;rw[hrx.id] at hg;have hlk:=(h4.look x.id).2;rw[hg] at hlk;have hq4:=(hrq2.below (.inr (.inl hkq)) hb).cells;exact⟨h4.cells.2.1,(hrx2.below (hW.kind x hx) hb).cells.2.2.2.2.2,hlk,by rw[<-hqi];exact hq4.1,hq4.2.2.2.2.1⟩)
 have hta:∀w,(Instr.typeAssert (Ad x nx) 20 135 true).run Tryz.prog w=.ok (.tuple #[.pointer (some ⟨nx.b,0,none⟩),.bool true]) w:=λw=>by rw[Cl,dq hkx];rfl
 have hh0:A2 r.nms i s≠0:=by rw[hxi];exact hW.ne0 hx
 obtain⟨n0,hn0,m1,m2,m3⟩:=B4 hh0;rw[hxi] at m3;rw[<-hpi] at m1;have hxp:x.id≠p.id:=by rw[<-m3,<-m1];exact hW.self_ne hn0
 have HH:=aa h;have HWf:=aa hW;have HR:=aa (And.intro hrx (And.intro hrp hrq));have HM:=aa (And.intro hx (And.intro hp hq));have HN:=aa (And.intro hnx (And.intro hnp hnq));have H0:=aa (And.intro hn0 (And.intro m1 (And.intro m2 m3)));have HK:=aa (And.intro hkp hkq);have HI:=aa (And.intro hpi hqi);have HXP:=aa hxp;have HNo:=aa (Du hW (l:=r.nms) (λ_ hn=>hn) ho);have HN6:=aa (show ∀w',Below w2.heap.size w2 w'->FsN w' f mi mg r N/\NodeR w' r p np/\NodeR w' r q nq/\NodeR w' r x nx from λw' hb=>⟨h2.below hW hb,hrp2.below (.inr (.inl hkp)) hb,hrq2.below (.inr (.inl hkq)) hb,hrx2.below (hW.kind x hx) hb⟩);rw[ho] at HAt2;simp only[ne_eq,not_true_eq_false,decide_false] at HAt2;have HBl:=aa (show ∀w',Below w2.heap.size w2 w'->Calls Tryz.prog 100 #[.pointer (some ⟨f,0,none⟩),.int .i64 i2,.int .i64 x.id] w' λe w''=>e=.returned (.bool false)/\w'=w'' from λw' hb=>by have:=E6 (h2.below hW hb) hW hq hkq x.id;rw[hqi,hbl] at this;exact this)
 have HKX:=aa hkx;have HXQ:=aa hxq;have HLp:=aa (show 2<=A5 r p/\A5 r p<=20 from⟨by unfold A5;rw[dq hkp];omega,hW.lim p hp⟩);have HLq:=aa (show A5 r q<=20 from hW.lim q hq);have HNq:=aa (show ∀w',Below w2.heap.size w2 w'->(binOp .neq 134 (.pointer (some ⟨np.blk,0,none⟩)) (.pointer (some ⟨nq.blk,0,none⟩))).run Tryz.prog w'=.ok (.bool true) w' from λw' hb=>by have:=Tr (hrp2.below (.inr (.inl hkp)) hb).head (hrq2.below (.inr (.inl hkq)) hb).head;rw[decide_eq_false hpq] at this;exact this)
 have HAg:=aa (show(Az (Aa r.nms q.id) s2).isSome=false by rw[hW.entry_some,hqi,ho];rfl);have hmm:nq.m≠np.m:=λe=>hpq (by
  by_cases c:nq=np
  .rw[c]
  .exact dt (e ▸ Nd.m_mem (hrp.ne hkp).1) (h.apart hnq hnp c _ (Nd.m_mem (hrq.ne hkq).1)))
 have HMm:=aa hmm;have HPB:=aa hpq;have HPQ:=aa (show p.id≠q.id from λe=>hpq (by rw[Ba h.idU hnp hnq (hrp.id.trans (e.trans hrq.id.symm))]));clear hw2 hB hb0 hb1 h h2 hW hrp2 hrq2 hpl hp hkp hnp hrp hq hkq hnq hrq hpi hqi hl hl2 hk hk2 hv hv2 hx hnx hrx hxi hx0 hrx2 ho hkx hpq hmm hxq hbl hh0 hn0 m1 m2 m3 hxp
 go_enter Tryz.func73,Tryz.ntmps73
 go_wp2_with fail
 rw[HW2.out]
 go_upto_region 4 with(go_at_call 99;(with_reducible refine HP.out.mono ?_);rintro e w3 ⟨rfl,hB3⟩;have hs3:=hB3.size;replace hB3:=aa hB3)
 obtain⟨w4,hw4,hB4,hs4,hb40,hb41⟩:=Gn w3 #[.pointer (some ⟨np.blk,0,none⟩),.pointer (some ⟨np.b,0,none⟩),.string s] #[.pointer (some ⟨nq.blk,0,none⟩),.pointer (some ⟨nq.b,0,none⟩),.string s2] 137 137;rw[hw4];have c0:w4.cell? ⟨w3.heap.size,0,none⟩=some (.pointer (some ⟨np.blk,0,none⟩)):=by rw[A1 hb40];rfl
 have c1:w4.cell? ⟨w3.heap.size,1,none⟩=some (.pointer (some ⟨np.b,0,none⟩)):=by rw[A1 hb40];rfl
 have c2:w4.cell? ⟨w3.heap.size,2,none⟩=some (.string s):=by rw[A1 hb40];rfl
 have HQ1:=aa hb40;have HQ2:=aa hb41;have HB4:=aa (hB3.out.trans (hB4.mono (by omega)));clear hw4 hb40 hb41 hB4
 go_upto_region 22 with(first
  | (go_at_call 59;(with_reducible refine(HAt.out w4 HB4.out).mono ?_);rintro e w5 ⟨rfl,hB5⟩;have hs5:=hB5.size;have hY:=(hB5.block _ (by omega)).trans HQ2.out;have d0:w5.cell? ⟨w3.heap.size+1,0,none⟩=_:=A1 hY 0;have d1:w5.cell? ⟨w3.heap.size+1,1,none⟩=_:=A1 hY 1;have d2:w5.cell? ⟨w3.heap.size+1,2,none⟩=_:=A1 hY 2;have HQ25:=aa hY;have HQ15:=aa ((hB5.block _ (by omega)).trans HQ1.out);clear hY;have HB5:=aa (HB4.out.trans (hB5.mono HB4.out.size));obtain⟨x1,x2,x3,-,-⟩:=HX.out w5 HB5.out;clear hB5)
  | (go_at_call 59;(with_reducible refine(HAt2.out w5 HB5.out).mono ?_);rintro e w6 ⟨rfl,hB6⟩;have hs6:=hB6.size;have HQ26:=aa ((hB6.block _ (by omega)).trans HQ25.out);have HQ16:=aa ((hB6.block _ (by omega)).trans HQ15.out);have e0:w6.cell? ⟨w3.heap.size,0,none⟩=_:=A1 HQ16.out 0;have g0:w6.cell? ⟨w3.heap.size+1,0,none⟩=_:=A1 HQ26.out 0;have HB6:=aa (HB5.out.trans (hB6.mono HB5.out.size));obtain⟨y1,y2,y3,y4,y5⟩:=HX.out w6 HB6.out;clear hB6;have y6:=HNq.out w6 HB6.out)
  | (go_at_call 100;(with_reducible refine(HBl.out w6 HB6.out).mono ?_);rintro e w7 ⟨rfl,rfl⟩))
 obtain⟨F6,P6,Q6,X6⟩:=HN6.out w6 HB6.out;have a1:w6.cell? ⟨w3.heap.size,1,none⟩=some (.pointer (some ⟨np.b,0,none⟩)):=by rw[A1 HQ16.out];rfl
 have a2:w6.cell? ⟨np.b,0,none⟩=some (.map (some np.m)):=by rw[A1 (P6.dir HK.out.1).1];rfl
 have hm6:MapB w6 np.m Ci Aw (Aa r.nms p.id):=(P6.dir HK.out.1).2;obtain⟨o1,hdel,hmp1⟩:=C0 (P:=Tryz.prog) (ty:=0) (tk:=9) KS (t:=150) Tryz.underlying150 hm6 s;unfold Ci at hdel;have M1:=aa hmp1;have G6:=aa F6;have P6':=aa P6;have Q6':=aa Q6;have X6':=aa X6;clear F6 P6 Q6 X6 hm6 hmp1
 go_upto_region 23 with fail
 obtain⟨w7,hw7⟩:∃w7,putObj w6 np.m o1=w7:=⟨_,rfl⟩;rw[hw7];have k7:∀k,k≠np.m->w7.heap[k]?=w6.heap[k]?:=λk hk=>by rw[<-hw7];exact A9 w6 o1 hk
 rw[hw7] at M1;have W7:=aa hw7;have K7:=aa k7;have b1:w7.cell? ⟨w3.heap.size+1,1,none⟩=some (.pointer (some ⟨nq.b,0,none⟩)):=by rw[A1 ((k7 _ (A8 (P6'.out.dir HK.out.1).2 HQ26.out).symm).trans HQ26.out)];rfl
 have b2:w7.cell? ⟨nq.b,0,none⟩=some (.map (some nq.m)):=by rw[A1 ((k7 _ (A8 (P6'.out.dir HK.out.1).2 (Q6'.out.dir HK.out.2).1).symm).trans (Q6'.out.dir HK.out.2).1)];rfl
 have hm7:MapB w7 nq.m Ci Aw (Aa r.nms q.id):=(Q6'.out.dir HK.out.2).2.of_block (k7 _ HMm.out);have hag:(Az (Aa r.nms q.id) s2).isSome=false:=HAg.out;obtain⟨o2,hup,hmp2⟩:=Am KS (P:=Tryz.prog) (t:=150) Tryz.underlying150 hm7 s2 x.id;rw[C5 hag] at hmp2;unfold Ci Aw at hup;have M2:=aa hmp2;clear hm7 hag hmp2 hw7 k7 hdel a1 a2
 go_upto_region 24 with fail
 obtain⟨w8,hw8⟩:∃w8,putObj w7 nq.m o2=w8:=⟨_,rfl⟩;rw[hw8];rw[hw8] at M2;have W8:=aa hw8;have K8:=aa (show ∀k,k≠nq.m->w8.heap[k]?=w7.heap[k]? from λk hk=>by rw[<-hw8];exact A9 w7 o2 hk);clear hw8 hup b1 b2;have ne:∀k,k≠np.m->k≠nq.m->w8.heap[k]?=w6.heap[k]?:=λk a b=>(K8.out k b).trans (K7.out k a);have pm:=(P6'.out.dir HK.out.1).2;have qm:=(Q6'.out.dir HK.out.2).2;have xd:=(X6'.out.dir HKX.out).1;have P8:=(ne _ (A8 pm P6'.out.head).symm (A8 qm P6'.out.head).symm).trans P6'.out.head;have Q8:=(ne _ (A8 pm Q6'.out.head).symm (A8 qm Q6'.out.head).symm).trans Q6'.out.head;have X8:=(ne _ (A8 pm xd).symm (A8 qm xd).symm).trans xd;have R8:=(ne _ (A8 pm HQ16.out).symm (A8 qm HQ16.out).symm).trans HQ16.out;have S8:=(ne _ (A8 pm HQ26.out).symm (A8 qm HQ26.out).symm).trans HQ26.out;have f0:w8.cell? ⟨w3.heap.size,0,none⟩=some (.pointer (some ⟨np.blk,0,none⟩)):=by rw[A1 R8];rfl
 have f1:w8.cell? ⟨w3.heap.size+1,0,none⟩=some (.pointer (some ⟨nq.blk,0,none⟩)):=by rw[A1 S8];rfl
 have f2:w8.cell? ⟨nq.blk,0,none⟩=some (.int .i64 q.id):=by rw[A1 Q8];rfl
 have f3:w8.cell? ⟨np.blk,4,none⟩=some (.int .i64 (A5 r p:Int)):=by rw[A1 P8];rfl
 have f4:w8.cell? ⟨nq.blk,4,none⟩=some (.int .i64 (A5 r q:Int)):=by rw[A1 Q8];rfl
 have f5:w8.cell? ⟨nx.b,1,none⟩=some (.int .i64 x.parent):=by rw[A1 X8];rfl
 have f6:w8.frozen? ⟨np.blk,4,none⟩=false:=frozen_of_row w8 np.blk 4 _ _ P8;have f7:w8.frozen? ⟨nq.blk,4,none⟩=false:=frozen_of_row w8 nq.blk 4 _ _ Q8;have f8:w8.frozen? ⟨nx.b,1,none⟩=false:=frozen_of_row w8 nx.b 1 _ _ X8;have n1:w3.heap.size≠nx.b:=Av R8 X8 (by decide);have n2:w3.heap.size≠np.blk:=Av R8 P8 (by decide);have n3:w3.heap.size≠nq.blk:=Av R8 Q8 (by decide);have n4:w3.heap.size+1≠nx.b:=Av S8 X8 (by decide);have n5:w3.heap.size+1≠np.blk:=Av S8 P8 (by decide);have n6:w3.heap.size+1≠nq.blk:=Av S8 Q8 (by decide);have n7:nx.b≠np.blk:=Av X8 P8 (by decide);have n8:nx.b≠nq.blk:=Av X8 Q8 (by decide);have P8':=aa P8;have Q8':=aa Q8;have X8':=aa X8;have hlp:=HLp.out.1;have hlp2:=HLp.out.2;have hlq:=HLq.out;clear P8 Q8 X8 R8 S8 ne pm qm xd;have n9:np.blk≠nq.blk:=HPB.out;obtain⟨lp,elp⟩:∃lp,A5 r p=lp:=⟨_,rfl⟩;obtain⟨lq,elq⟩:∃lq,A5 r q=lq:=⟨_,rfl⟩;rw[elp] at f3 P8' hlp hlp2;rw[elq] at f4 Q8' hlq;have ELP:=aa elp;have ELQ:=aa elq;clear elp elq
 go_wp2
 go_ret
 refine⟨rfl,?_⟩;obtain⟨ei,eq⟩:=HI.out;subst ei eq;obtain⟨hx,hp,hq⟩:=HM.out;obtain⟨hnx,hnp,hnq⟩:=HN.out;obtain⟨hrx,hrp,hrq⟩:=HR.out;obtain⟨hn0,m1,m2,m3⟩:=H0.out;have B6:=HB.out.trans (HB6.out.mono (show w.heap.size<=w2.heap.size by omega));have hlk:=λy=>C3 HWf.out hx hn0 m3 q.id s2 (y:=y) (y':=y) rfl rfl;rw[m1,m2] at hlk;have hns:∀j,Aa (Ah r p.id s q.id s2 x).nms j=_:=λj=>by rw[Ck,B1,Ay]
 have pm:=(P6'.out.dir HK.out.1).2;have qm:=(Q6'.out.dir HK.out.2).2;have xd:=(X6'.out.dir HKX.out).1;have c1:((lp:Int) - 1)=((lp - 1:Nat):Int):=by omega
 have c2:((lq:Int)+1)=((lq+1:Nat):Int):=by omega
 rw[c1,c2];have lP:A5 (Ah r p.id s q.id s2 x) p=lp - 1:=by have:=hlk p;rw[dq ⟨HK.out.1,HKX.out,rfl⟩,dp (λe=>HPQ.out e.2.2.symm),ELP.out] at this;omega
 have lQ:A5 (Ah r p.id s q.id s2 x) q=lq+1:=by have:=hlk q;rw[dp (λe=>HPQ.out e.2.2),dq ⟨HK.out.2,HKX.out,rfl⟩,ELQ.out] at this;omega
 refine⟨N,Ew HH.out HWf.out hx hnx hrx hp HK.out.1 hnp hrp hq HK.out.2 hnq hrq hn0 m1 m2 m3 HXP.out HXQ.out (λk hk a b c d e=>(A4 _ _ _ _ _ d).trans ((A4 _ _ _ _ _ c).trans ((A4 _ _ _ _ _ (e HKX.out)).trans ((K8.out k b).trans ((K7.out k a).trans (B6.block k hk)))))) ?_ ?_ ?_ ?_ (λ_=>?_),λk hk=>.inl hk,?_⟩
 .rw[hns,dp HPQ.out,dq rfl];exact M1.out.of_block ((A4 _ _ _ _ _ (A8 pm Q6'.out.head)).trans ((A4 _ _ _ _ _ (A8 pm P6'.out.head)).trans ((A4 _ _ _ _ _ (A8 pm xd)).trans (K8.out _ (λe=>HMm.out e.symm)))))
 .rw[hns,dq rfl,dp (λe=>HPQ.out e.symm)];exact M2.out.of_block ((A4 _ _ _ _ _ (A8 qm Q6'.out.head)).trans ((A4 _ _ _ _ _ (A8 qm P6'.out.head)).trans (A4 _ _ _ _ _ (A8 qm xd))))
 .rw[lP];exact(A4 _ _ _ _ _ n9).trans (Bp ((A4 _ _ _ _ _ n7.symm).trans P8'.out))
 .rw[lQ];exact Bp ((A4 _ _ _ _ _ n9.symm).trans ((A4 _ _ _ _ _ n8.symm).trans Q8'.out))
 .exact(A4 _ _ _ _ _ n8).trans ((A4 _ _ _ _ _ n7).trans (heap_setCell_same w8 nx.b 1 _ _ _ X8'.out))
 .rw[<-W8.out,<-W7.out];exact((((((Frm.of_below B6).putObj (.inl (Ak hnp (Nd.m_mem (hrp.ne HK.out.1).1))) o1).putObj (.inl (Ak hnq (Nd.m_mem (hrq.ne HK.out.2).1))) o2).setCell (.inl (Ak hnx (Nd.b_mem (hrx.ne HKX.out).1))) _).setCell (.inl (Ak hnp np.blk_mem)) _).setCell (.inl (Ak hnq nq.blk_mem)) _)
set_option maxRecDepth 100000 in
set_option maxHeartbeats 8000000 in
theorem Tl {w:World}{f mi mg K:Nat}{r:RFs}{N:List Nd}(h:FsN w f mi mg r N)(hW:Wf r K)(i g:Int)(s:ByteArray)(hs:s.size<=maxLen)(i2 g2:Int)(s2:ByteArray)(hs2:s2.size<=maxLen)
  {p q:RIn} {np nq:Nd} (hp:p∈r.ins) (hkp:p.kind=2) (hnp:np∈N) (hrp:NodeR w r p np) (hq:q∈r.ins) (hkq:q.kind=2) (hnq:nq∈N) (hrq:NodeR w r q nq) (hpi:p.id=i) (hqi:q.id=i2)
  (hl:Aj r (i,g)=true) (hl2:Aj r (i2,g2)=true) (hk:(A3 r.ins i).kind=2) (hk2:(A3 r.ins i2).kind=2) (hv:Ae s=true) (hv2:Ae s2=true)
  {x:RIn} {nx:Nd} (hx:x∈r.ins) (hnx:nx∈N) (hrx:NodeR w r x nx) (hxi:A2 r.nms i s=x.id) (hxq:x.id≠q.id) (ho:A2 r.nms i2 s2=0) (hkx:x.kind=2) (hbl:Be r i2 x.id=false) (hpq:np=nq) :
  Calls Tryz.prog 73 #[.pointer (some ⟨f,0,none⟩),.agg #[.int .i64 i,.int .i64 g],.string s,.agg #[.int .i64 i2,.int .i64 g2],.string s2] w λe w'=>e=.returned (.int .i64 0)/\Cr w w' f mi mg N (Ah r i s i2 s2 x):=by
 subst hpq;obtain rfl:=h.uniq hW hp hrp hq hrq;obtain rfl:i=i2:=hpi.symm.trans hqi;obtain⟨w2,hw2,hB,hz2,hb0,hb1⟩:=Gn w #[.int .i64 i,.int .i64 g] #[.int .i64 i,.int .i64 g2] 31 31;have t0:w2.cell? ⟨w.heap.size,0,none⟩=some (.int .i64 i):=by rw[A1 hb0];rfl
 have t1:w2.cell? ⟨w.heap.size,1,none⟩=some (.int .i64 g):=by rw[A1 hb0];rfl
 have t2:w2.cell? ⟨w.heap.size+1,0,none⟩=some (.int .i64 i):=by rw[A1 hb1];rfl
 have t3:w2.cell? ⟨w.heap.size+1,1,none⟩=some (.int .i64 g2):=by rw[A1 hb1];rfl
 have h2:=h.below hW hB;have HW2:=aa hw2;have HB:=aa hB;have hrp2:=hrp.below (.inr (.inl hkp)) hB;have hrq2:=hrq.below (.inr (.inl hkq)) hB;have hpl:=Bv h2 hW i g s hs i g2 s2 hs2 hl hl2 hk hk2 hv hv2 hnp hnq (hrp.id.trans hpi) (hrq.id.trans hqi);have HP:=aa hpl;have HAt:=aa (show ∀w4,Below w2.heap.size w2 w4->Calls Tryz.prog 59 #[.agg #[.pointer (some ⟨np.blk,0,none⟩),.pointer (some ⟨np.b,0,none⟩),.string s]] w4 λe w'=>e=.returned (.tuple #[.int .i64 (A2 r.nms i s),.bool (decide (A2 r.nms i s≠0))])/\Below w4.heap.size w4 w' from λw4 hb=>by have hr4:=hrp2.below (.inr (.inl hkp)) hb;have:=Bc hr4 hkp (hr4.lt (.inr (.inl hkp))) s (some ⟨np.blk,0,none⟩);rw[hpi,hW.entry_some] at this;exact this)
 have HAt2:=aa (show ∀w4,Below w2.heap.size w2 w4->Calls Tryz.prog 59 #[.agg #[.pointer (some ⟨np.blk,0,none⟩),.pointer (some ⟨np.b,0,none⟩),.string s2]] w4 λe w'=>e=.returned (.tuple #[.int .i64 (A2 r.nms i s2),.bool (decide (A2 r.nms i s2≠0))])/\Below w4.heap.size w4 w' from λw4 hb=>by have hr4:=hrq2.below (.inr (.inl hkq)) hb;have:=Bc hr4 hkq (hr4.lt (.inr (.inl hkq))) s2 (some ⟨np.blk,0,none⟩);rw[hqi,hW.entry_some] at this;exact this)
 have hx0:x.id≠0:=hW.ne0 hx;rw[hxi,decide_eq_true hx0] at HAt;have hrx2:=hrx.below (hW.kind x hx) hB;have HX:=aa (show ∀w',Below w2.heap.size w2 w'->w'.cell? ⟨f,1,none⟩=some (.map (some mi))/\w'.cell? ⟨nx.blk,5,none⟩=some (Ad x nx)/\(Instr.lookup 144 (.map (some mi)) (.int .i64 x.id) false).run Tryz.prog w'=.ok (.pointer (some ⟨nx.blk,0,none⟩)) w'/\w'.cell? ⟨np.blk,0,none⟩=some (.int .i64 i)/\w'.cell? ⟨np.blk,4,none⟩=some (.int .i64 (A5 r p:Int)) from λw' hb=>by have h4:=h2.below hW hb;have hg:=h4.get hnx;rw[hrx.id] at hg;have hlk:=(h4.look x.id).2;rw[hg] at hlk;have hq4:=(hrq2.below (.inr (.inl hkq)) hb).cells;exact⟨h4.cells.2.1,(hrx2.below (hW.kind x hx) hb).cells.2.2.2.2.2,hlk,by rw[<-hqi];exact hq4.1,hq4.2.2.2.2.1⟩)
 have hta:∀w,(Instr.typeAssert (Ad x nx) 20 135 true).run Tryz.prog w=.ok (.tuple #[.pointer (some ⟨nx.b,0,none⟩),.bool true]) w:=λw=>by rw[Cl,dq hkx];rfl
 have hh0:A2 r.nms i s≠0:=by rw[hxi];exact hW.ne0 hx
 obtain⟨n0,hn0,m1,m2,m3⟩:=B4 hh0;rw[hxi] at m3;rw[<-hpi] at m1;have hxp:x.id≠p.id:=by rw[<-m3,<-m1];exact hW.self_ne hn0
 have HH:=aa h;have HWf:=aa hW;have HR:=aa (And.intro hrx (And.intro hrp hrq));have HM:=aa (And.intro hx (And.intro hp hq));have HN:=aa (And.intro hnx (And.intro hnp hnq));have H0:=aa (And.intro hn0 (And.intro m1 (And.intro m2 m3)));have HK:=aa (And.intro hkp hkq);have HI:=aa (And.intro hpi hqi);have HXP:=aa hxp;have HNo:=aa (Du hW (l:=r.nms) (λ_ hn=>hn) ho);have HN6:=aa (show ∀w',Below w2.heap.size w2 w'->FsN w' f mi mg r N/\NodeR w' r p np/\NodeR w' r p np/\NodeR w' r x nx from λw' hb=>⟨h2.below hW hb,hrp2.below (.inr (.inl hkp)) hb,hrq2.below (.inr (.inl hkq)) hb,hrx2.below (hW.kind x hx) hb⟩);rw[ho] at HAt2;simp only[ne_eq,not_true_eq_false,decide_false] at HAt2;have HBl:=aa (show ∀w',Below w2.heap.size w2 w'->Calls Tryz.prog 100 #[.pointer (some ⟨f,0,none⟩),.int .i64 i,.int .i64 x.id] w' λe w''=>e=.returned (.bool false)/\w'=w'' from λw' hb=>by have:=E6 (h2.below hW hb) hW hq hkq x.id;rw[hqi,hbl] at this;exact this)
 have HKX:=aa hkx;have HXQ:=aa hxq;have HLp:=aa (show 2<=A5 r p/\A5 r p<=20 from⟨by unfold A5;rw[dq hkp];omega,hW.lim p hp⟩);have HLq:=aa (show A5 r p<=20 from hW.lim p hq);have HNq:=aa (show ∀w',Below w2.heap.size w2 w'->(binOp .neq 134 (.pointer (some ⟨np.blk,0,none⟩)) (.pointer (some ⟨np.blk,0,none⟩))).run Tryz.prog w'=.ok (.bool false) w' from λw' hb=>by have:=Tr (hrp2.below (.inr (.inl hkp)) hb).head (hrq2.below (.inr (.inl hkq)) hb).head;rw[show(!decide (np.blk=np.blk))=false by simp] at this;exact this)
 have HAg:=aa (show(Az (Hq (Aa r.nms p.id) s) s2).isSome=false from by
  have h0:(Az (Aa r.nms p.id) s2).isSome=false:=by rw[hW.entry_some,hqi,ho];rfl
  have h1:Az (Aa r.nms p.id) s2=none:=by cases hh:Az (Aa r.nms p.id) s2 with
   | none=>rfl
   | some v=>rw[hh] at h0;cases h0
  rw[Cy] at h1;have h2:Az (Hq (Aa r.nms p.id) s) s2=none:=by rw[Cy];intro z hz;exact h1 z (af.1 hz).1
  rw[h2];rfl)
 clear hw2 hB hb0 hb1 h h2 hW hrp2 hrq2 hpl hp hkp hnp hrp hq hkq hnq hrq hpi hqi hl hl2 hk hk2 hv hv2 hx hnx hrx hxi hx0 hrx2 ho hkx hxq hbl hh0 hn0 m1 m2 m3 hxp
 go_enter Tryz.func73,Tryz.ntmps73
 go_wp2_with fail
 rw[HW2.out]
 go_upto_region 4 with(go_at_call 99;(with_reducible refine HP.out.mono ?_);rintro e w3 ⟨rfl,hB3⟩;have hs3:=hB3.size;replace hB3:=aa hB3)
 obtain⟨w4,hw4,hB4,hs4,hb40,hb41⟩:=Gn w3 #[.pointer (some ⟨np.blk,0,none⟩),.pointer (some ⟨np.b,0,none⟩),.string s] #[.pointer (some ⟨np.blk,0,none⟩),.pointer (some ⟨np.b,0,none⟩),.string s2] 137 137;rw[hw4];have c0:w4.cell? ⟨w3.heap.size,0,none⟩=some (.pointer (some ⟨np.blk,0,none⟩)):=by rw[A1 hb40];rfl
 have c1:w4.cell? ⟨w3.heap.size,1,none⟩=some (.pointer (some ⟨np.b,0,none⟩)):=by rw[A1 hb40];rfl
 have c2:w4.cell? ⟨w3.heap.size,2,none⟩=some (.string s):=by rw[A1 hb40];rfl
 have HQ1:=aa hb40;have HQ2:=aa hb41;have HB4:=aa (hB3.out.trans (hB4.mono (by omega)));clear hw4 hb40 hb41 hB4
 go_upto_region 22 with(first
  | (go_at_call 59;(with_reducible refine(HAt.out w4 HB4.out).mono ?_);rintro e w5 ⟨rfl,hB5⟩;have hs5:=hB5.size;have hY:=(hB5.block _ (by omega)).trans HQ2.out;have d0:w5.cell? ⟨w3.heap.size+1,0,none⟩=_:=A1 hY 0;have d1:w5.cell? ⟨w3.heap.size+1,1,none⟩=_:=A1 hY 1;have d2:w5.cell? ⟨w3.heap.size+1,2,none⟩=_:=A1 hY 2;have HQ25:=aa hY;have HQ15:=aa ((hB5.block _ (by omega)).trans HQ1.out);clear hY;have HB5:=aa (HB4.out.trans (hB5.mono HB4.out.size));obtain⟨x1,x2,x3,-,-⟩:=HX.out w5 HB5.out;clear hB5)
  | (go_at_call 59;(with_reducible refine(HAt2.out w5 HB5.out).mono ?_);rintro e w6 ⟨rfl,hB6⟩;have hs6:=hB6.size;have HQ26:=aa ((hB6.block _ (by omega)).trans HQ25.out);have HQ16:=aa ((hB6.block _ (by omega)).trans HQ15.out);have e0:w6.cell? ⟨w3.heap.size,0,none⟩=_:=A1 HQ16.out 0;have g0:w6.cell? ⟨w3.heap.size+1,0,none⟩=_:=A1 HQ26.out 0;have HB6:=aa (HB5.out.trans (hB6.mono HB5.out.size));obtain⟨y1,y2,y3,y4,y5⟩:=HX.out w6 HB6.out;clear hB6;have y6:=HNq.out w6 HB6.out)
  | (go_at_call 100;(with_reducible refine(HBl.out w6 HB6.out).mono ?_);rintro e w7 ⟨rfl,rfl⟩))
 obtain⟨F6,P6,Q6,X6⟩:=HN6.out w6 HB6.out;have a1:w6.cell? ⟨w3.heap.size,1,none⟩=some (.pointer (some ⟨np.b,0,none⟩)):=by rw[A1 HQ16.out];rfl
 have a2:w6.cell? ⟨np.b,0,none⟩=some (.map (some np.m)):=by rw[A1 (P6.dir HK.out.1).1];rfl
 have hm6:MapB w6 np.m Ci Aw (Aa r.nms p.id):=(P6.dir HK.out.1).2;obtain⟨o1,hdel,hmp1⟩:=C0 (P:=Tryz.prog) (ty:=0) (tk:=9) KS (t:=150) Tryz.underlying150 hm6 s;unfold Ci at hdel;have M1:=aa hmp1;have G6:=aa F6;have P6':=aa P6;have Q6':=aa Q6;have X6':=aa X6;clear F6 P6 Q6 X6 hm6 hmp1
 go_upto_region 23 with fail
 obtain⟨w7,hw7⟩:∃w7,putObj w6 np.m o1=w7:=⟨_,rfl⟩;rw[hw7];have k7:∀k,k≠np.m->w7.heap[k]?=w6.heap[k]?:=λk hk=>by rw[<-hw7];exact A9 w6 o1 hk
 rw[hw7] at M1;have W7:=aa hw7;have K7:=aa k7;have b1:w7.cell? ⟨w3.heap.size+1,1,none⟩=some (.pointer (some ⟨np.b,0,none⟩)):=by rw[A1 ((k7 _ (A8 (P6'.out.dir HK.out.1).2 HQ26.out).symm).trans HQ26.out)];rfl
 have b2:w7.cell? ⟨np.b,0,none⟩=some (.map (some np.m)):=by rw[A1 ((k7 _ (A8 (P6'.out.dir HK.out.1).2 (Q6'.out.dir HK.out.2).1).symm).trans (Q6'.out.dir HK.out.2).1)];rfl
 have hm7:MapB w7 np.m Ci Aw (Hq (Aa r.nms p.id) s):=M1.out;have hag:(Az (Hq (Aa r.nms p.id) s) s2).isSome=false:=HAg.out;obtain⟨o2,hup,hmp2⟩:=Am KS (P:=Tryz.prog) (t:=150) Tryz.underlying150 hm7 s2 x.id;rw[C5 hag] at hmp2;unfold Ci Aw at hup;have M2:=aa hmp2;clear hm7 hag hmp2 hw7 k7 hdel a1 a2
 go_upto_region 24 with fail
 obtain⟨w8,hw8⟩:∃w8,putObj w7 np.m o2=w8:=⟨_,rfl⟩;rw[hw8];rw[hw8] at M2;have W8:=aa hw8;have K8:=aa (show ∀k,k≠np.m->w8.heap[k]?=w7.heap[k]? from λk hk=>by rw[<-hw8];exact A9 w7 o2 hk);clear hw8 hup b1 b2;have ne:∀k,k≠np.m->k≠np.m->w8.heap[k]?=w6.heap[k]?:=λk a b=>(K8.out k b).trans (K7.out k a);have pm:=(P6'.out.dir HK.out.1).2;have qm:=(Q6'.out.dir HK.out.2).2;have xd:=(X6'.out.dir HKX.out).1;have P8:=(ne _ (A8 pm P6'.out.head).symm (A8 qm P6'.out.head).symm).trans P6'.out.head;have Q8:=(ne _ (A8 pm Q6'.out.head).symm (A8 qm Q6'.out.head).symm).trans Q6'.out.head;have X8:=(ne _ (A8 pm xd).symm (A8 qm xd).symm).trans xd;have R8:=(ne _ (A8 pm HQ16.out).symm (A8 qm HQ16.out).symm).trans HQ16.out;have S8:=(ne _ (A8 pm HQ26.out).symm (A8 qm HQ26.out).symm).trans HQ26.out;have f0:w8.cell? ⟨w3.heap.size,0,none⟩=some (.pointer (some ⟨np.blk,0,none⟩)):=by rw[A1 R8];rfl
 have f1:w8.cell? ⟨w3.heap.size+1,0,none⟩=some (.pointer (some ⟨np.blk,0,none⟩)):=by rw[A1 S8];rfl
 have f2:w8.cell? ⟨np.blk,0,none⟩=some (.int .i64 p.id):=by rw[A1 Q8];rfl
 have f3:w8.cell? ⟨np.blk,4,none⟩=some (.int .i64 (A5 r p:Int)):=by rw[A1 P8];rfl
 have f4:w8.cell? ⟨np.blk,4,none⟩=some (.int .i64 (A5 r p:Int)):=by rw[A1 Q8];rfl
 have f5:w8.cell? ⟨nx.b,1,none⟩=some (.int .i64 x.parent):=by rw[A1 X8];rfl
 have f6:w8.frozen? ⟨np.blk,4,none⟩=false:=frozen_of_row w8 np.blk 4 _ _ P8;have f7:w8.frozen? ⟨np.blk,4,none⟩=false:=frozen_of_row w8 np.blk 4 _ _ Q8;have f8:w8.frozen? ⟨nx.b,1,none⟩=false:=frozen_of_row w8 nx.b 1 _ _ X8;have n1:w3.heap.size≠nx.b:=Av R8 X8 (by decide);have n2:w3.heap.size≠np.blk:=Av R8 P8 (by decide);have n3:w3.heap.size≠np.blk:=Av R8 Q8 (by decide);have n4:w3.heap.size+1≠nx.b:=Av S8 X8 (by decide);have n5:w3.heap.size+1≠np.blk:=Av S8 P8 (by decide);have n6:w3.heap.size+1≠np.blk:=Av S8 Q8 (by decide);have n7:nx.b≠np.blk:=Av X8 P8 (by decide);have n8:nx.b≠np.blk:=Av X8 Q8 (by decide);have P8':=aa P8;have Q8':=aa Q8;have X8':=aa X8;have hlp:=HLp.out.1;have hlp2:=HLp.out.2;have hlq:=HLq.out;clear P8 Q8 X8 R8 S8 ne pm qm xd;obtain⟨lp,elp⟩:∃lp,A5 r p=lp:=⟨_,rfl⟩;obtain⟨lq,elq⟩:∃lq,A5 r p=lq:=⟨_,rfl⟩;rw[elp] at f3 P8' hlp hlp2;rw[elq] at f4 Q8' hlq;have ELP:=aa elp;have ELQ:=aa elq;clear elp elq
 go_wp2
 go_ret
 refine⟨rfl,?_⟩;obtain⟨ei,-⟩:=HI.out;subst ei;obtain⟨hx,hp,hq⟩:=HM.out;obtain⟨hnx,hnp,hnq⟩:=HN.out;obtain⟨hrx,hrp,hrq⟩:=HR.out;obtain⟨hn0,m1,m2,m3⟩:=H0.out;have B6:=HB.out.trans (HB6.out.mono (show w.heap.size<=w2.heap.size by omega));have hlk:=λy=>C3 HWf.out hx hn0 m3 p.id s2 (y:=y) (y':=y) rfl rfl;rw[m1,m2] at hlk;have hns:∀j,Aa (Ah r p.id s p.id s2 x).nms j=_:=λj=>by rw[Ck,B1,Ay]
 have pm:=(P6'.out.dir HK.out.1).2;have qm:=(Q6'.out.dir HK.out.2).2;have xd:=(X6'.out.dir HKX.out).1;have c1:((lp:Int) - 1)=((lp - 1:Nat):Int):=by omega
 have c3:((lp:Int) - 1+1)=((lp:Nat):Int):=by omega
 try rw[c3]
 rw[c1];have lP:A5 (Ah r p.id s p.id s2 x) p=lp:=by have:=hlk p;rw[dq ⟨HK.out.1,HKX.out,rfl⟩,ELP.out] at this;omega
 refine⟨N,Ew HH.out HWf.out hx hnx hrx hp HK.out.1 hnp hrp hq HK.out.2 hnq hrq hn0 m1 m2 m3 HXP.out HXQ.out (λk hk a b c d e=>(A4 _ _ _ _ _ d).trans ((A4 _ _ _ _ _ c).trans ((A4 _ _ _ _ _ (e HKX.out)).trans ((K8.out k b).trans ((K7.out k a).trans (B6.block k hk)))))) ?_ ?_ ?_ ?_ (λ_=>?_),λk hk=>.inl hk,?_⟩
 .rw[hns,dq rfl,dq rfl];exact M2.out.of_block ((A4 _ _ _ _ _ (A8 pm P6'.out.head)).trans ((A4 _ _ _ _ _ (A8 pm P6'.out.head)).trans (A4 _ _ _ _ _ (A8 pm xd))))
 .rw[hns,dq rfl,dq rfl];exact M2.out.of_block ((A4 _ _ _ _ _ (A8 pm P6'.out.head)).trans ((A4 _ _ _ _ _ (A8 pm P6'.out.head)).trans (A4 _ _ _ _ _ (A8 pm xd))))
 .rw[lP];exact Bp (Bp (lk':=lp - 1) ((A4 _ _ _ _ _ n7.symm).trans P8'.out))
 .rw[lP];exact Bp (Bp (lk':=lp - 1) ((A4 _ _ _ _ _ n7.symm).trans P8'.out))
 .exact(A4 _ _ _ _ _ n7).trans ((A4 _ _ _ _ _ n7).trans (heap_setCell_same w8 nx.b 1 _ _ _ X8'.out))
 .rw[<-W8.out,<-W7.out];exact((((((Frm.of_below B6).putObj (.inl (Ak hnp (Nd.m_mem (hrp.ne HK.out.1).1))) o1).putObj (.inl (Ak hnq (Nd.m_mem (hrq.ne HK.out.2).1))) o2).setCell (.inl (Ak hnx (Nd.b_mem (hrx.ne HKX.out).1))) _).setCell (.inl (Ak hnp np.blk_mem)) _).setCell (.inl (Ak hnq np.blk_mem)) _)
section
variable {r:RFs} {K:Nat} {x p q o:RIn} {s t:ByteArray}
theorem V6 (r:RFs)(d:Int)(s:ByteArray):(Au r d s).nms=r.nms.filter λn=>!decide (n.dir=d/\n.name=s):=by unfold Au;split<;>rfl
theorem O9 {y:RIn}(b:y∈r.ins){d:Int}(a:y.id≠A2 r.nms d t):y∈(Au r d t).ins:=by
 unfold Au;split
 .exact af.2 ⟨b,by simpa using a⟩
 .exact b
theorem Ju {fo:Bool}(h:Fp r o fo=0):(o.kind=2↔fo=true)/\(o.kind=2->Dz r.nms o.id=0):=by
 unfold Fp at h;by_cases k:o.kind=2
 .rw[dq k] at h;cases fo
  .simp at h
  .simp only[if_true] at h;refine⟨by simp[k],λ_=>?_⟩;split at h
   .cases h
   .omega
 .rw[dp k] at h;cases fo
  .exact⟨by simp[k],λe=>dt e k⟩
  .simp at h
theorem Jc (c:Wf r K)(B:x∈r.ins)(m:p∈r.ins)(k:p.kind=2)(z:q∈r.ins)(n:o∈r.ins)(a:A2 r.nms q.id t=o.id)(g:o.id≠x.id)(i:o.kind=2->Dz r.nms o.id=0)
  {h:RNm} (b:h∈r.nms) (A:h.dir=p.id) (v:h.id=x.id) :
  Wf (Au r q.id t) K/\x∈(Au r q.id t).ins/\p∈(Au r q.id t).ins/\q∈(Au r q.id t).ins/\h∈(Au r q.id t).nms/\Az (Aa (Au r q.id t).nms q.id) t=none:=by
 have w:A2 r.nms q.id t≠0:=by rw[a];exact c.ne0 n
 obtain⟨C,f,a1,a2,y⟩:=B4 w;have u:=c.byId n;have j:p.id≠o.id:=λe=>by
  have:p=o:=by rw[<-c.byId m,e,u]
  subst this;have:=i k;unfold Dz at this;rw[List.countP_eq_zero] at this;have:=this h b;simp[A] at this
 have l:q.id≠o.id:=λe=>c.self_ne f (by rw[y,a,a1,e]);refine⟨Yv c w (by rw[a,u];exact i),O9 B (by rw[a];exact λe=>g e.symm),O9 m (by rw[a];exact j),O9 z (by rw[a];exact l),?_,?_⟩
 .rw[V6,af,Bool.not_eq_true',decide_eq_false_iff_not];refine⟨b,λe=>?_⟩;have:=c.uniq_eq b f (e.1.trans a1.symm) (e.2.trans a2.symm);rw[this,y,a] at v;exact g v
 .rw[V6,Ay,dq rfl,Iz,dq rfl]
theorem Xw (f:Wf r K)(m:q∈r.ins)(b:q.kind=2)(i:o∈r.ins)(e:o.kind=2)(a:A2 r.nms q.id t=o.id):A5 (Au r q.id t) q < 20:=by
 have l:A2 r.nms q.id t≠0:=by rw[a];exact f.ne0 i
 obtain⟨w,g,a1,a2,u⟩:=B4 l;have j:=f.byId i;have k:=Dx f g q;rw[a1,a2,u,a,j,dq b,dq ⟨rfl,e⟩] at k;have v:=f.lim q m;have y:A5 (Au r q.id t) q<=A5 (A7 r q.id t) q:=by
  unfold Au;rw[a,j,dq (.inl e)];unfold A5;rw[dq b,dq b];refine Nat.add_le_add_right (List.countP_mono_left λn _ h=>?_) 2;simp only[decide_eq_true_eq] at h⊢;refine⟨h.1,?_⟩;have c:=h.2;show(A3 r.ins n.id).kind=2
  change (A3 (r.ins.filter λx=>decide (x.id≠o.id)) n.id).kind=2 at c
  rw[Ga] at c;split at c
  .exact dt c (by decide)
  .exact c
 omega
end
theorem D1 {w g:World}{f i e K:Nat}{r rd:RFs}{N b:List Nd}(h:FsN w f i e r N)(v:FsN g f i e rd b)(c:Wf rd K)(a:∀n∈b,n∈N){y:RIn}{n:Nd}(k:y∈rd.ins)(u:n∈N)(l:n.id=y.id):n∈b/\NodeR g rd y n:=by obtain⟨m,j,hr⟩:=v.at_ c k;have:m=n:=Ba h.idU (a m j) u (hr.id.trans l.symm);subst this;exact⟨j,hr⟩
theorem Uy {w:World}{f c b K:Nat}{r:RFs}{N:List Nd}(h:FsN w f c b r N)(e:Wf r K):∀k∈fpL f c b N,k < w.heap.size:=by
 obtain⟨g,l,j,i⟩:=h.lt e;intro k a;unfold fpL at a;simp only[List.mem_cons,List.mem_flatMap] at a;rcases a with rfl | rfl | rfl | ⟨n,hn,a⟩
 .exact g
 .exact l
 .exact j
 .exact i n hn k a
set_option maxRecDepth 100000 in
set_option maxHeartbeats 8000000 in
theorem U4 {w:World}{f mi mg K:Nat}{r:RFs}{N:List Nd}(h:FsN w f mi mg r N)(hW:Wf r K)(i g:Int)(s:ByteArray)(hs:s.size<=maxLen)(i2 g2:Int)(s2:ByteArray)(hs2:s2.size<=maxLen)
  {p q:RIn} {np nq:Nd} (hp:p∈r.ins) (hkp:p.kind=2) (hnp:np∈N) (hrp:NodeR w r p np) (hq:q∈r.ins) (hkq:q.kind=2) (hnq:nq∈N) (hrq:NodeR w r q nq) (hpi:p.id=i) (hqi:q.id=i2)
  (hl:Aj r (i,g)=true) (hl2:Aj r (i2,g2)=true) (hk:(A3 r.ins i).kind=2) (hk2:(A3 r.ins i2).kind=2) (hv:Ae s=true) (hv2:Ae s2=true)
  {x:RIn} {nx:Nd} (hx:x∈r.ins) (hnx:nx∈N) (hrx:NodeR w r x nx) (hxi:A2 r.nms i s=x.id) (hxq:x.id≠q.id) {o:RIn} {no:Nd} (ho:o∈r.ins) (hno:no∈N) (hro:NodeR w r o no) (hoi:A2 r.nms i2 s2=o.id) (hox:o.id≠x.id) (hkx:¬x.kind=2) (hpq:np.blk≠nq.blk) (hmy:Fp r o false=0) :
  Calls Tryz.prog 73 #[.pointer (some ⟨f,0,none⟩),.agg #[.int .i64 i,.int .i64 g],.string s,.agg #[.int .i64 i2,.int .i64 g2],.string s2] w λe w'=>e=.returned (.int .i64 0)/\Cr w w' f mi mg N (Ah (Au r i2 s2) i s i2 s2 x):=by
 obtain⟨w2,hw2,hB,hz2,hb0,hb1⟩:=Gn w #[.int .i64 i,.int .i64 g] #[.int .i64 i2,.int .i64 g2] 31 31;have t0:w2.cell? ⟨w.heap.size,0,none⟩=some (.int .i64 i):=by rw[A1 hb0];rfl
 have t1:w2.cell? ⟨w.heap.size,1,none⟩=some (.int .i64 g):=by rw[A1 hb0];rfl
 have t2:w2.cell? ⟨w.heap.size+1,0,none⟩=some (.int .i64 i2):=by rw[A1 hb1];rfl
 have t3:w2.cell? ⟨w.heap.size+1,1,none⟩=some (.int .i64 g2):=by rw[A1 hb1];rfl
 have h2:=h.below hW hB;have HW2:=aa hw2;have HB:=aa hB;have hrp2:=hrp.below (.inr (.inl hkp)) hB;have hrq2:=hrq.below (.inr (.inl hkq)) hB;have hpl:=Bv h2 hW i g s hs i2 g2 s2 hs2 hl hl2 hk hk2 hv hv2 hnp hnq (hrp.id.trans hpi) (hrq.id.trans hqi);have HP:=aa hpl;have HAt:=aa (show ∀w4,Below w2.heap.size w2 w4->Calls Tryz.prog 59 #[.agg #[.pointer (some ⟨np.blk,0,none⟩),.pointer (some ⟨np.b,0,none⟩),.string s]] w4 λe w'=>e=.returned (.tuple #[.int .i64 (A2 r.nms i s),.bool (decide (A2 r.nms i s≠0))])/\Below w4.heap.size w4 w' from λw4 hb=>by have hr4:=hrp2.below (.inr (.inl hkp)) hb;have:=Bc hr4 hkp (hr4.lt (.inr (.inl hkp))) s (some ⟨np.blk,0,none⟩);rw[hpi,hW.entry_some] at this;exact this)
 have HAt2:=aa (show ∀w4,Below w2.heap.size w2 w4->Calls Tryz.prog 59 #[.agg #[.pointer (some ⟨nq.blk,0,none⟩),.pointer (some ⟨nq.b,0,none⟩),.string s2]] w4 λe w'=>e=.returned (.tuple #[.int .i64 (A2 r.nms i2 s2),.bool (decide (A2 r.nms i2 s2≠0))])/\Below w4.heap.size w4 w' from λw4 hb=>by have hr4:=hrq2.below (.inr (.inl hkq)) hb;have:=Bc hr4 hkq (hr4.lt (.inr (.inl hkq))) s2 (some ⟨nq.blk,0,none⟩);rw[hqi,hW.entry_some] at this;exact this)
 have hx0:x.id≠0:=hW.ne0 hx;rw[hxi,decide_eq_true hx0] at HAt;have hrx2:=hrx.below (hW.kind x hx) hB;have HX:=aa (show ∀w',Below w2.heap.size w2 w'->w'.cell? ⟨f,1,none⟩=some (.map (some mi))/\w'.cell? ⟨nx.blk,5,none⟩=some (Ad x nx)/\(Instr.lookup 144 (.map (some mi)) (.int .i64 x.id) false).run Tryz.prog w'=.ok (.pointer (some ⟨nx.blk,0,none⟩)) w'/\w'.cell? ⟨nq.blk,0,none⟩=some (.int .i64 i2)/\w'.cell? ⟨nq.blk,4,none⟩=some (.int .i64 (A5 r q:Int)) from λw' hb=>by have h4:=h2.below hW hb;have hg:=h4.get hnx;rw[hrx.id] at hg;have hlk:=(h4.look x.id).2;rw[hg] at hlk;have hq4:=(hrq2.below (.inr (.inl hkq)) hb).cells;exact⟨h4.cells.2.1,(hrx2.below (hW.kind x hx) hb).cells.2.2.2.2.2,hlk,by rw[<-hqi];exact hq4.1,hq4.2.2.2.2.1⟩)
 have hta:∀w,(Instr.typeAssert (Ad x nx) 20 135 true).run Tryz.prog w=.ok (.tuple #[.pointer none,.bool false]) w:=λw=>by rw[Cl,dp hkx]
 have hh0:A2 r.nms i s≠0:=by rw[hxi];exact hW.ne0 hx
 obtain⟨n0,hn0,m1,m2,m3⟩:=B4 hh0;rw[hxi] at m3;rw[<-hpi] at m1;have hxp:x.id≠p.id:=by rw[<-m3,<-m1];exact hW.self_ne hn0
 have HH:=aa h;have HWf:=aa hW;have HR:=aa (And.intro hrx (And.intro hrp hrq));have HM:=aa (And.intro hx (And.intro hp hq));have HN:=aa (And.intro hnx (And.intro hnp hnq));have H0:=aa (And.intro hn0 (And.intro m1 (And.intro m2 m3)));have HK:=aa (And.intro hkp hkq);have HI:=aa (And.intro hpi hqi);have HXP:=aa hxp;have HN6:=aa (show ∀w',Below w2.heap.size w2 w'->FsN w' f mi mg r N/\NodeR w' r p np/\NodeR w' r q nq/\NodeR w' r x nx from λw' hb=>⟨h2.below hW hb,hrp2.below (.inr (.inl hkp)) hb,hrq2.below (.inr (.inl hkq)) hb,hrx2.below (hW.kind x hx) hb⟩);have ho0:o.id≠0:=hW.ne0 ho;rw[hoi,decide_eq_true ho0] at HAt2;have hbq:(o.id==x.id)=false:=by rw[beq_eq_false_iff_ne];exact hox
 have hro2:=hro.below (hW.kind o ho) hB;have HO:=aa (show ∀w',Below w2.heap.size w2 w'->(Instr.lookup 144 (.map (some mi)) (.int .i64 o.id) false).run Tryz.prog w'=.ok (.pointer (some ⟨no.blk,0,none⟩)) w' from λw' hb=>by have h4:=h2.below hW hb;have hg:=h4.get hno;rw[hro.id] at hg;have hlk:=(h4.look o.id).2;rw[hg] at hlk;exact hlk)
 have HMy:=aa (show ∀w',Below w2.heap.size w2 w'->Calls Tryz.prog 97 #[.pointer (some ⟨f,0,none⟩),.pointer (some ⟨no.blk,0,none⟩),.bool false] w' λe w''=>e=.returned (.int .i64 0)/\w'=w'' from λw' hb=>by have:=I6 (hro2.below (hW.kind o ho) hb) false (some ⟨f,0,none⟩);rw[hmy] at this;exact this)
 have hoi':A2 r.nms q.id s2=o.id:=by rw[hqi];exact hoi
 have hctx:=Jc hW hx hp hkp hq ho hoi' hox (Ju hmy).2 hn0 m1 m3;have HNo:=aa (And.intro hnx (And.intro hnp hnq));have HIds:=aa (And.intro hrx.id (And.intro hrp.id hrq.id));have HLt:=aa (Uy h hW);obtain⟨rd,erd⟩:∃rd,Au r q.id s2=rd:=⟨_,rfl⟩;have HDr:=aa (show ∀w',Below w2.heap.size w2 w'->Calls Tryz.prog 98 #[.pointer (some ⟨f,0,none⟩),.agg #[.pointer (some ⟨nq.blk,0,none⟩),.pointer (some ⟨nq.b,0,none⟩),.string s2]] w' λe w''=>e=.returned (.tuple #[])/\(∃N',FsN w'' f mi mg rd N'/\∀n∈N',n∈N)/\Frm (fpL f mi mg N) w' w'' from λw' hb=>by have:=J3 (h2.below hW hb) hW hq hkq hnq (hrq2.below (.inr (.inl hkq)) hb) s2 (by rw[hoi'];exact ho0);rw[erd] at this;exact this)
 rw[erd] at hctx;obtain⟨hWd,hxd,hpd,hqd,hnd,hag⟩:=hctx;have HERd:=aa erd;have HWd:=aa hWd;have HMd:=aa (And.intro hxd (And.intro hpd hqd));have H0d:=aa (And.intro hnd (And.intro m1 (And.intro m2 m3)));have HKX:=aa hkx;have HXQ:=aa hxq;have HAg:=aa (show(Az (Aa rd.nms q.id) s2).isSome=false by rw[hag];rfl);have hmm:nq.m≠np.m:=λe=>hpq (by
  by_cases c:nq=np
  .rw[c]
  .exact dt (e ▸ Nd.m_mem (hrp.ne hkp).1) (h.apart hnq hnp c _ (Nd.m_mem (hrq.ne hkq).1)))
 have HMm:=aa hmm;have HPB:=aa hpq;have HPQ:=aa (show p.id≠q.id from λe=>hpq (by rw[Ba h.idU hnp hnq (hrp.id.trans (e.trans hrq.id.symm))]));clear hw2 hB hb0 hb1 h h2 hW hrp2 hrq2 hpl hp hkp hnp hrp hq hkq hnq hrq hpi hqi hl hl2 hk hk2 hv hv2 hx hnx hrx hxi hx0 hrx2 hkx hpq hmm hxq hmy ho hno hro hoi hox ho0 hro2 hoi' hWd hxd hpd hqd hnd hag erd hh0 hn0 m1 m2 m3 hxp
 go_enter Tryz.func73,Tryz.ntmps73
 go_wp2_with fail
 rw[HW2.out]
 go_upto_region 4 with(go_at_call 99;(with_reducible refine HP.out.mono ?_);rintro e w3 ⟨rfl,hB3⟩;have hs3:=hB3.size;replace hB3:=aa hB3)
 obtain⟨w4,hw4,hB4,hs4,hb40,hb41⟩:=Gn w3 #[.pointer (some ⟨np.blk,0,none⟩),.pointer (some ⟨np.b,0,none⟩),.string s] #[.pointer (some ⟨nq.blk,0,none⟩),.pointer (some ⟨nq.b,0,none⟩),.string s2] 137 137;rw[hw4];have c0:w4.cell? ⟨w3.heap.size,0,none⟩=some (.pointer (some ⟨np.blk,0,none⟩)):=by rw[A1 hb40];rfl
 have c1:w4.cell? ⟨w3.heap.size,1,none⟩=some (.pointer (some ⟨np.b,0,none⟩)):=by rw[A1 hb40];rfl
 have c2:w4.cell? ⟨w3.heap.size,2,none⟩=some (.string s):=by rw[A1 hb40];rfl
 have HQ1:=aa hb40;have HQ2:=aa hb41;have HB4:=aa (hB3.out.trans (hB4.mono (by omega)));clear hw4 hb40 hb41 hB4
 go_upto_region 22 with(first
  | (go_at_call 59;(with_reducible refine(HAt.out w4 HB4.out).mono ?_);rintro e w5 ⟨rfl,hB5⟩;have hs5:=hB5.size;have hY:=(hB5.block _ (by omega)).trans HQ2.out;have d0:w5.cell? ⟨w3.heap.size+1,0,none⟩=_:=A1 hY 0;have d1:w5.cell? ⟨w3.heap.size+1,1,none⟩=_:=A1 hY 1;have d2:w5.cell? ⟨w3.heap.size+1,2,none⟩=_:=A1 hY 2;have HQ25:=aa hY;have HQ15:=aa ((hB5.block _ (by omega)).trans HQ1.out);clear hY;have HB5:=aa (HB4.out.trans (hB5.mono HB4.out.size));obtain⟨x1,x2,x3,-,-⟩:=HX.out w5 HB5.out;clear hB5)
  | (go_at_call 59;(with_reducible refine(HAt2.out w5 HB5.out).mono ?_);rintro e w6 ⟨rfl,hB6⟩;have hs6:=hB6.size;have HQ26:=aa ((hB6.block _ (by omega)).trans HQ25.out);have HQ16:=aa ((hB6.block _ (by omega)).trans HQ15.out);have e0:w6.cell? ⟨w3.heap.size,0,none⟩=_:=A1 HQ16.out 0;have g0:w6.cell? ⟨w3.heap.size+1,0,none⟩=_:=A1 HQ26.out 0;have HB6:=aa (HB5.out.trans (hB6.mono HB5.out.size));obtain⟨y1,y2,y3,y4,y5⟩:=HX.out w6 HB6.out;clear hB6;have z1:=HO.out w6 HB6.out;have g1:w6.cell? ⟨w3.heap.size+1,1,none⟩=_:=A1 HQ26.out 1;have g2':w6.cell? ⟨w3.heap.size+1,2,none⟩=_:=A1 HQ26.out 2)
  | (go_at_call 97;(with_reducible refine(HMy.out w6 HB6.out).mono ?_);rintro e w7 ⟨rfl,rfl⟩)
  | (go_at_call 98;(with_reducible refine(HDr.out w6 HB6.out).mono ?_);rintro e wd ⟨rfl,hd⟩;have HD:=aa hd;clear hd))
 obtain⟨⟨N7,F7,hsub⟩,Fr7⟩:=HD.out;have hb6:=HB.out.trans (HB6.out.mono (show w.heap.size<=w2.heap.size by omega));have hsz:=hb6.size;have hwz:w.heap.size+2<=w3.heap.size:=by omega
 have HQ17:=aa ((Fr7.block w3.heap.size (An HQ16.out) (λhm=>by have:=HLt.out _ hm;omega)).trans HQ16.out);have HQ27:=aa ((Fr7.block (w3.heap.size+1) (An HQ26.out) (λhm=>by have:=HLt.out _ hm;omega)).trans HQ26.out);obtain⟨hx7,X6⟩:=D1 HH.out F7 HWd.out hsub HMd.out.1 HNo.out.1 HIds.out.1;obtain⟨hp7,P6⟩:=D1 HH.out F7 HWd.out hsub HMd.out.2.1 HNo.out.2.1 HIds.out.2.1;obtain⟨hq7,Q6⟩:=D1 HH.out F7 HWd.out hsub HMd.out.2.2 HNo.out.2.2 HIds.out.2.2;have F6:=F7;have HSub:=aa hsub;have HNd:=aa (And.intro hx7 (And.intro hp7 hq7));have FB:=aa ((Frm.of_below (S:=fpL f mi mg N) hb6).trans Fr7);clear F7 hsub Fr7 hx7 hp7 hq7 hb6;have a1:wd.cell? ⟨w3.heap.size,1,none⟩=some (.pointer (some ⟨np.b,0,none⟩)):=by rw[A1 HQ17.out];rfl
 have a2:wd.cell? ⟨np.b,0,none⟩=some (.map (some np.m)):=by rw[A1 (P6.dir HK.out.1).1];rfl
 have hm6:MapB wd np.m Ci Aw (Aa rd.nms p.id):=(P6.dir HK.out.1).2;obtain⟨o1,hdel,hmp1⟩:=C0 (P:=Tryz.prog) (ty:=0) (tk:=9) KS (t:=150) Tryz.underlying150 hm6 s;unfold Ci at hdel;have M1:=aa hmp1;have G6:=aa F6;have P6':=aa P6;have Q6':=aa Q6;have X6':=aa X6;clear F6 P6 Q6 X6 hm6 hmp1
 go_upto_region 23 with fail
 obtain⟨w7,hw7⟩:∃w7,putObj wd np.m o1=w7:=⟨_,rfl⟩;rw[hw7];have k7:∀k,k≠np.m->w7.heap[k]?=wd.heap[k]?:=λk hk=>by rw[<-hw7];exact A9 wd o1 hk
 rw[hw7] at M1;have W7:=aa hw7;have K7:=aa k7;have b1:w7.cell? ⟨w3.heap.size+1,1,none⟩=some (.pointer (some ⟨nq.b,0,none⟩)):=by rw[A1 ((k7 _ (A8 (P6'.out.dir HK.out.1).2 HQ27.out).symm).trans HQ27.out)];rfl
 have b2:w7.cell? ⟨nq.b,0,none⟩=some (.map (some nq.m)):=by rw[A1 ((k7 _ (A8 (P6'.out.dir HK.out.1).2 (Q6'.out.dir HK.out.2).1).symm).trans (Q6'.out.dir HK.out.2).1)];rfl
 have hm7:MapB w7 nq.m Ci Aw (Aa rd.nms q.id):=(Q6'.out.dir HK.out.2).2.of_block (k7 _ HMm.out);have hag:(Az (Aa rd.nms q.id) s2).isSome=false:=HAg.out;obtain⟨o2,hup,hmp2⟩:=Am KS (P:=Tryz.prog) (t:=150) Tryz.underlying150 hm7 s2 x.id;rw[C5 hag] at hmp2;unfold Ci Aw at hup;have M2:=aa hmp2;clear hm7 hag hmp2 hw7 k7 hdel a1 a2
 go_upto_region 24 with fail
 obtain⟨w8,hw8⟩:∃w8,putObj w7 nq.m o2=w8:=⟨_,rfl⟩;rw[hw8];rw[hw8] at M2;have W8:=aa hw8;have K8:=aa (show ∀k,k≠nq.m->w8.heap[k]?=w7.heap[k]? from λk hk=>by rw[<-hw8];exact A9 w7 o2 hk);clear hw8 hup b1 b2
 go_wp2
 go_ret
 refine⟨rfl,?_⟩;obtain⟨ei,eq⟩:=HI.out;subst ei eq;rw[HERd.out];obtain⟨hx,hp,hq⟩:=HMd.out;obtain⟨hnx,hnp,hnq⟩:=HNd.out;obtain⟨hrx,hrp,hrq⟩:=And.intro X6'.out (And.intro P6'.out Q6'.out);obtain⟨hn0,m1,m2,m3⟩:=H0d.out;have hlk:=λy=>C3 HWd.out hx hn0 m3 q.id s2 (y:=y) (y':=y) rfl rfl;rw[m1,m2] at hlk;have hns:∀j,Aa (Ah rd p.id s q.id s2 x).nms j=_:=λj=>by rw[Ck,B1,Ay]
 have pm:=(P6'.out.dir HK.out.1).2;have qm:=(Q6'.out.dir HK.out.2).2;have hl:∀y,A5 (Ah rd p.id s q.id s2 x) y=A5 rd y:=λy=>by have:=hlk y;rw[dp (λe=>HKX.out e.2.1),dp (λe=>HKX.out e.2.1)] at this;exact this
 refine⟨N7,Ew G6.out HWd.out hx hnx hrx hp HK.out.1 hnp hrp hq HK.out.2 hnq hrq hn0 m1 m2 m3 HXP.out HXQ.out (λk hk a b _ _ _=>(K8.out k b).trans (K7.out k a)) ?_ ?_ ?_ ?_ (λe=>dt e HKX.out),λk hk=>.inl (Rl HSub.out k hk),?_⟩
 .rw[hns,dp HPQ.out,dq rfl];exact M1.out.of_block (K8.out _ (λe=>HMm.out e.symm))
 .rw[hns,dq rfl,dp (λe=>HPQ.out e.symm)];exact M2.out
 .rw[hl];exact(K8.out _ (A8 qm P6'.out.head).symm).trans ((K7.out _ (A8 pm P6'.out.head).symm).trans P6'.out.head)
 .rw[hl];exact(K8.out _ (A8 qm Q6'.out.head).symm).trans ((K7.out _ (A8 pm Q6'.out.head).symm).trans Q6'.out.head)
 .rw[<-W8.out,<-W7.out];exact(FB.out.putObj (.inl (Ak HNo.out.2.1 (Nd.m_mem (hrp.ne HK.out.1).1))) o1).putObj (.inl (Ak HNo.out.2.2 (Nd.m_mem (hrq.ne HK.out.2).1))) o2
set_option maxRecDepth 100000 in
set_option maxHeartbeats 8000000 in
theorem U2 {w:World}{f mi mg K:Nat}{r:RFs}{N:List Nd}(h:FsN w f mi mg r N)(hW:Wf r K)(i g:Int)(s:ByteArray)(hs:s.size<=maxLen)(i2 g2:Int)(s2:ByteArray)(hs2:s2.size<=maxLen)
  {p q:RIn} {np nq:Nd} (hp:p∈r.ins) (hkp:p.kind=2) (hnp:np∈N) (hrp:NodeR w r p np) (hq:q∈r.ins) (hkq:q.kind=2) (hnq:nq∈N) (hrq:NodeR w r q nq) (hpi:p.id=i) (hqi:q.id=i2)
  (hl:Aj r (i,g)=true) (hl2:Aj r (i2,g2)=true) (hk:(A3 r.ins i).kind=2) (hk2:(A3 r.ins i2).kind=2) (hv:Ae s=true) (hv2:Ae s2=true)
  {x:RIn} {nx:Nd} (hx:x∈r.ins) (hnx:nx∈N) (hrx:NodeR w r x nx) (hxi:A2 r.nms i s=x.id) (hxq:x.id≠q.id) {o:RIn} {no:Nd} (ho:o∈r.ins) (hno:no∈N) (hro:NodeR w r o no) (hoi:A2 r.nms i2 s2=o.id) (hox:o.id≠x.id) (hkx:¬x.kind=2) (hpq:np=nq) (hmy:Fp r o false=0) :
  Calls Tryz.prog 73 #[.pointer (some ⟨f,0,none⟩),.agg #[.int .i64 i,.int .i64 g],.string s,.agg #[.int .i64 i2,.int .i64 g2],.string s2] w λe w'=>e=.returned (.int .i64 0)/\Cr w w' f mi mg N (Ah (Au r i2 s2) i s i2 s2 x):=by
 subst hpq;obtain rfl:=h.uniq hW hp hrp hq hrq;obtain rfl:i=i2:=hpi.symm.trans hqi;obtain⟨w2,hw2,hB,hz2,hb0,hb1⟩:=Gn w #[.int .i64 i,.int .i64 g] #[.int .i64 i,.int .i64 g2] 31 31;have t0:w2.cell? ⟨w.heap.size,0,none⟩=some (.int .i64 i):=by rw[A1 hb0];rfl
 have t1:w2.cell? ⟨w.heap.size,1,none⟩=some (.int .i64 g):=by rw[A1 hb0];rfl
 have t2:w2.cell? ⟨w.heap.size+1,0,none⟩=some (.int .i64 i):=by rw[A1 hb1];rfl
 have t3:w2.cell? ⟨w.heap.size+1,1,none⟩=some (.int .i64 g2):=by rw[A1 hb1];rfl
 have h2:=h.below hW hB;have HW2:=aa hw2;have HB:=aa hB;have hrp2:=hrp.below (.inr (.inl hkp)) hB;have hrq2:=hrq.below (.inr (.inl hkq)) hB;have hpl:=Bv h2 hW i g s hs i g2 s2 hs2 hl hl2 hk hk2 hv hv2 hnp hnq (hrp.id.trans hpi) (hrq.id.trans hqi);have HP:=aa hpl;have HAt:=aa (show ∀w4,Below w2.heap.size w2 w4->Calls Tryz.prog 59 #[.agg #[.pointer (some ⟨np.blk,0,none⟩),.pointer (some ⟨np.b,0,none⟩),.string s]] w4 λe w'=>e=.returned (.tuple #[.int .i64 (A2 r.nms i s),.bool (decide (A2 r.nms i s≠0))])/\Below w4.heap.size w4 w' from λw4 hb=>by have hr4:=hrp2.below (.inr (.inl hkp)) hb;have:=Bc hr4 hkp (hr4.lt (.inr (.inl hkp))) s (some ⟨np.blk,0,none⟩);rw[hpi,hW.entry_some] at this;exact this)
 have HAt2:=aa (show ∀w4,Below w2.heap.size w2 w4->Calls Tryz.prog 59 #[.agg #[.pointer (some ⟨np.blk,0,none⟩),.pointer (some ⟨np.b,0,none⟩),.string s2]] w4 λe w'=>e=.returned (.tuple #[.int .i64 (A2 r.nms i s2),.bool (decide (A2 r.nms i s2≠0))])/\Below w4.heap.size w4 w' from λw4 hb=>by have hr4:=hrq2.below (.inr (.inl hkq)) hb;have:=Bc hr4 hkq (hr4.lt (.inr (.inl hkq))) s2 (some ⟨np.blk,0,none⟩);rw[hqi,hW.entry_some] at this;exact this)
 have hx0:x.id≠0:=hW.ne0 hx;rw[hxi,decide_eq_true hx0] at HAt;have hrx2:=hrx.below (hW.kind x hx) hB;have HX:=aa (show ∀w',Below w2.heap.size w2 w'->w'.cell? ⟨f,1,none⟩=some (.map (some mi))/\w'.cell? ⟨nx.blk,5,none⟩=some (Ad x nx)/\(Instr.lookup 144 (.map (some mi)) (.int .i64 x.id) false).run Tryz.prog w'=.ok (.pointer (some ⟨nx.blk,0,none⟩)) w'/\w'.cell? ⟨np.blk,0,none⟩=some (.int .i64 i)/\w'.cell? ⟨np.blk,4,none⟩=some (.int .i64 (A5 r p:Int)) from λw' hb=>by have h4:=h2.below hW hb;have hg:=h4.get hnx;rw[hrx.id] at hg;have hlk:=(h4.look x.id).2;rw[hg] at hlk;have hq4:=(hrq2.below (.inr (.inl hkq)) hb).cells;exact⟨h4.cells.2.1,(hrx2.below (hW.kind x hx) hb).cells.2.2.2.2.2,hlk,by rw[<-hqi];exact hq4.1,hq4.2.2.2.2.1⟩)
 have hta:∀w,(Instr.typeAssert (Ad x nx) 20 135 true).run Tryz.prog w=.ok (.tuple #[.pointer none,.bool false]) w:=λw=>by rw[Cl,dp hkx]
 have hh0:A2 r.nms i s≠0:=by rw[hxi];exact hW.ne0 hx
 obtain⟨n0,hn0,m1,m2,m3⟩:=B4 hh0;rw[hxi] at m3;rw[<-hpi] at m1;have hxp:x.id≠p.id:=by rw[<-m3,<-m1];exact hW.self_ne hn0
 have HH:=aa h;have HWf:=aa hW;have HR:=aa (And.intro hrx (And.intro hrp hrq));have HM:=aa (And.intro hx (And.intro hp hq));have HN:=aa (And.intro hnx (And.intro hnp hnq));have H0:=aa (And.intro hn0 (And.intro m1 (And.intro m2 m3)));have HK:=aa (And.intro hkp hkq);have HI:=aa (And.intro hpi hqi);have HXP:=aa hxp;have HN6:=aa (show ∀w',Below w2.heap.size w2 w'->FsN w' f mi mg r N/\NodeR w' r p np/\NodeR w' r p np/\NodeR w' r x nx from λw' hb=>⟨h2.below hW hb,hrp2.below (.inr (.inl hkp)) hb,hrq2.below (.inr (.inl hkq)) hb,hrx2.below (hW.kind x hx) hb⟩);have ho0:o.id≠0:=hW.ne0 ho;rw[hoi,decide_eq_true ho0] at HAt2;have hbq:(o.id==x.id)=false:=by rw[beq_eq_false_iff_ne];exact hox
 have hro2:=hro.below (hW.kind o ho) hB;have HO:=aa (show ∀w',Below w2.heap.size w2 w'->(Instr.lookup 144 (.map (some mi)) (.int .i64 o.id) false).run Tryz.prog w'=.ok (.pointer (some ⟨no.blk,0,none⟩)) w' from λw' hb=>by have h4:=h2.below hW hb;have hg:=h4.get hno;rw[hro.id] at hg;have hlk:=(h4.look o.id).2;rw[hg] at hlk;exact hlk)
 have HMy:=aa (show ∀w',Below w2.heap.size w2 w'->Calls Tryz.prog 97 #[.pointer (some ⟨f,0,none⟩),.pointer (some ⟨no.blk,0,none⟩),.bool false] w' λe w''=>e=.returned (.int .i64 0)/\w'=w'' from λw' hb=>by have:=I6 (hro2.below (hW.kind o ho) hb) false (some ⟨f,0,none⟩);rw[hmy] at this;exact this)
 have hoi':A2 r.nms p.id s2=o.id:=by rw[hqi];exact hoi
 have hctx:=Jc hW hx hp hkp hq ho hoi' hox (Ju hmy).2 hn0 m1 m3;have HNo:=aa (And.intro hnx (And.intro hnp hnq));have HIds:=aa (And.intro hrx.id (And.intro hrp.id hrq.id));have HLt:=aa (Uy h hW);obtain⟨rd,erd⟩:∃rd,Au r p.id s2=rd:=⟨_,rfl⟩;have HDr:=aa (show ∀w',Below w2.heap.size w2 w'->Calls Tryz.prog 98 #[.pointer (some ⟨f,0,none⟩),.agg #[.pointer (some ⟨np.blk,0,none⟩),.pointer (some ⟨np.b,0,none⟩),.string s2]] w' λe w''=>e=.returned (.tuple #[])/\(∃N',FsN w'' f mi mg rd N'/\∀n∈N',n∈N)/\Frm (fpL f mi mg N) w' w'' from λw' hb=>by have:=J3 (h2.below hW hb) hW hq hkq hnq (hrq2.below (.inr (.inl hkq)) hb) s2 (by rw[hoi'];exact ho0);rw[erd] at this;exact this)
 rw[erd] at hctx;obtain⟨hWd,hxd,hpd,hqd,hnd,hag⟩:=hctx;have HERd:=aa erd;have HWd:=aa hWd;have HMd:=aa (And.intro hxd (And.intro hpd hqd));have H0d:=aa (And.intro hnd (And.intro m1 (And.intro m2 m3)));have HKX:=aa hkx;have HXQ:=aa hxq;have HAg:=aa (show(Az (Hq (Aa rd.nms p.id) s) s2).isSome=false from by have h1:Az (Aa rd.nms p.id) s2=none:=hag;rw[Iz,h1];split<;>rfl)
 clear hw2 hB hb0 hb1 h h2 hW hrp2 hrq2 hpl hp hkp hnp hrp hq hkq hnq hrq hpi hqi hl hl2 hk hk2 hv hv2 hx hnx hrx hxi hx0 hrx2 hkx hxq hmy ho hno hro hoi hox ho0 hro2 hoi' hWd hxd hpd hqd hnd hag erd hh0 hn0 m1 m2 m3 hxp
 go_enter Tryz.func73,Tryz.ntmps73
 go_wp2_with fail
 rw[HW2.out]
 go_upto_region 4 with(go_at_call 99;(with_reducible refine HP.out.mono ?_);rintro e w3 ⟨rfl,hB3⟩;have hs3:=hB3.size;replace hB3:=aa hB3)
 obtain⟨w4,hw4,hB4,hs4,hb40,hb41⟩:=Gn w3 #[.pointer (some ⟨np.blk,0,none⟩),.pointer (some ⟨np.b,0,none⟩),.string s] #[.pointer (some ⟨np.blk,0,none⟩),.pointer (some ⟨np.b,0,none⟩),.string s2] 137 137;rw[hw4];have c0:w4.cell? ⟨w3.heap.size,0,none⟩=some (.pointer (some ⟨np.blk,0,none⟩)):=by rw[A1 hb40];rfl
 have c1:w4.cell? ⟨w3.heap.size,1,none⟩=some (.pointer (some ⟨np.b,0,none⟩)):=by rw[A1 hb40];rfl
 have c2:w4.cell? ⟨w3.heap.size,2,none⟩=some (.string s):=by rw[A1 hb40];rfl
 have HQ1:=aa hb40;have HQ2:=aa hb41;have HB4:=aa (hB3.out.trans (hB4.mono (by omega)));clear hw4 hb40 hb41 hB4
 go_upto_region 22 with(first
  | (go_at_call 59;(with_reducible refine(HAt.out w4 HB4.out).mono ?_);rintro e w5 ⟨rfl,hB5⟩;have hs5:=hB5.size;have hY:=(hB5.block _ (by omega)).trans HQ2.out;have d0:w5.cell? ⟨w3.heap.size+1,0,none⟩=_:=A1 hY 0;have d1:w5.cell? ⟨w3.heap.size+1,1,none⟩=_:=A1 hY 1;have d2:w5.cell? ⟨w3.heap.size+1,2,none⟩=_:=A1 hY 2;have HQ25:=aa hY;have HQ15:=aa ((hB5.block _ (by omega)).trans HQ1.out);clear hY;have HB5:=aa (HB4.out.trans (hB5.mono HB4.out.size));obtain⟨x1,x2,x3,-,-⟩:=HX.out w5 HB5.out;clear hB5)
  | (go_at_call 59;(with_reducible refine(HAt2.out w5 HB5.out).mono ?_);rintro e w6 ⟨rfl,hB6⟩;have hs6:=hB6.size;have HQ26:=aa ((hB6.block _ (by omega)).trans HQ25.out);have HQ16:=aa ((hB6.block _ (by omega)).trans HQ15.out);have e0:w6.cell? ⟨w3.heap.size,0,none⟩=_:=A1 HQ16.out 0;have g0:w6.cell? ⟨w3.heap.size+1,0,none⟩=_:=A1 HQ26.out 0;have HB6:=aa (HB5.out.trans (hB6.mono HB5.out.size));obtain⟨y1,y2,y3,y4,y5⟩:=HX.out w6 HB6.out;clear hB6;have z1:=HO.out w6 HB6.out;have g1:w6.cell? ⟨w3.heap.size+1,1,none⟩=_:=A1 HQ26.out 1;have g2':w6.cell? ⟨w3.heap.size+1,2,none⟩=_:=A1 HQ26.out 2)
  | (go_at_call 97;(with_reducible refine(HMy.out w6 HB6.out).mono ?_);rintro e w7 ⟨rfl,rfl⟩)
  | (go_at_call 98;(with_reducible refine(HDr.out w6 HB6.out).mono ?_);rintro e wd ⟨rfl,hd⟩;have HD:=aa hd;clear hd))
 obtain⟨⟨N7,F7,hsub⟩,Fr7⟩:=HD.out;have hb6:=HB.out.trans (HB6.out.mono (show w.heap.size<=w2.heap.size by omega));have hsz:=hb6.size;have hwz:w.heap.size+2<=w3.heap.size:=by omega
 have HQ17:=aa ((Fr7.block w3.heap.size (An HQ16.out) (λhm=>by have:=HLt.out _ hm;omega)).trans HQ16.out);have HQ27:=aa ((Fr7.block (w3.heap.size+1) (An HQ26.out) (λhm=>by have:=HLt.out _ hm;omega)).trans HQ26.out);obtain⟨hx7,X6⟩:=D1 HH.out F7 HWd.out hsub HMd.out.1 HNo.out.1 HIds.out.1;obtain⟨hp7,P6⟩:=D1 HH.out F7 HWd.out hsub HMd.out.2.1 HNo.out.2.1 HIds.out.2.1;obtain⟨hq7,Q6⟩:=D1 HH.out F7 HWd.out hsub HMd.out.2.2 HNo.out.2.2 HIds.out.2.2;have F6:=F7;have HSub:=aa hsub;have HNd:=aa (And.intro hx7 (And.intro hp7 hq7));have FB:=aa ((Frm.of_below (S:=fpL f mi mg N) hb6).trans Fr7);clear F7 hsub Fr7 hx7 hp7 hq7 hb6;have a1:wd.cell? ⟨w3.heap.size,1,none⟩=some (.pointer (some ⟨np.b,0,none⟩)):=by rw[A1 HQ17.out];rfl
 have a2:wd.cell? ⟨np.b,0,none⟩=some (.map (some np.m)):=by rw[A1 (P6.dir HK.out.1).1];rfl
 have hm6:MapB wd np.m Ci Aw (Aa rd.nms p.id):=(P6.dir HK.out.1).2;obtain⟨o1,hdel,hmp1⟩:=C0 (P:=Tryz.prog) (ty:=0) (tk:=9) KS (t:=150) Tryz.underlying150 hm6 s;unfold Ci at hdel;have M1:=aa hmp1;have G6:=aa F6;have P6':=aa P6;have Q6':=aa Q6;have X6':=aa X6;clear F6 P6 Q6 X6 hm6 hmp1
 go_upto_region 23 with fail
 obtain⟨w7,hw7⟩:∃w7,putObj wd np.m o1=w7:=⟨_,rfl⟩;rw[hw7];have k7:∀k,k≠np.m->w7.heap[k]?=wd.heap[k]?:=λk hk=>by rw[<-hw7];exact A9 wd o1 hk
 rw[hw7] at M1;have W7:=aa hw7;have K7:=aa k7;have b1:w7.cell? ⟨w3.heap.size+1,1,none⟩=some (.pointer (some ⟨np.b,0,none⟩)):=by rw[A1 ((k7 _ (A8 (P6'.out.dir HK.out.1).2 HQ27.out).symm).trans HQ27.out)];rfl
 have b2:w7.cell? ⟨np.b,0,none⟩=some (.map (some np.m)):=by rw[A1 ((k7 _ (A8 (P6'.out.dir HK.out.1).2 (Q6'.out.dir HK.out.2).1).symm).trans (Q6'.out.dir HK.out.2).1)];rfl
 have hm7:MapB w7 np.m Ci Aw (Hq (Aa rd.nms p.id) s):=M1.out;have hag:(Az (Hq (Aa rd.nms p.id) s) s2).isSome=false:=HAg.out;obtain⟨o2,hup,hmp2⟩:=Am KS (P:=Tryz.prog) (t:=150) Tryz.underlying150 hm7 s2 x.id;rw[C5 hag] at hmp2;unfold Ci Aw at hup;have M2:=aa hmp2;clear hm7 hag hmp2 hw7 k7 hdel a1 a2
 go_upto_region 24 with fail
 obtain⟨w8,hw8⟩:∃w8,putObj w7 np.m o2=w8:=⟨_,rfl⟩;rw[hw8];rw[hw8] at M2;have W8:=aa hw8;have K8:=aa (show ∀k,k≠np.m->w8.heap[k]?=w7.heap[k]? from λk hk=>by rw[<-hw8];exact A9 w7 o2 hk);clear hw8 hup b1 b2
 go_wp2
 go_ret
 refine⟨rfl,?_⟩;obtain⟨ei,-⟩:=HI.out;subst ei;rw[HERd.out];obtain⟨hx,hp,hq⟩:=HMd.out;obtain⟨hnx,hnp,hnq⟩:=HNd.out;obtain⟨hrx,hrp,hrq⟩:=And.intro X6'.out (And.intro P6'.out Q6'.out);obtain⟨hn0,m1,m2,m3⟩:=H0d.out;have hlk:=λy=>C3 HWd.out hx hn0 m3 p.id s2 (y:=y) (y':=y) rfl rfl;rw[m1,m2] at hlk;have hns:∀j,Aa (Ah rd p.id s p.id s2 x).nms j=_:=λj=>by rw[Ck,B1,Ay]
 have pm:=(P6'.out.dir HK.out.1).2;have qm:=(Q6'.out.dir HK.out.2).2;have hl:∀y,A5 (Ah rd p.id s p.id s2 x) y=A5 rd y:=λy=>by have:=hlk y;rw[dp (λe=>HKX.out e.2.1)] at this;exact this
 refine⟨N7,Ew G6.out HWd.out hx hnx hrx hp HK.out.1 hnp hrp hq HK.out.2 hnq hrq hn0 m1 m2 m3 HXP.out HXQ.out (λk hk a b _ _ _=>(K8.out k b).trans (K7.out k a)) ?_ ?_ ?_ ?_ (λe=>dt e HKX.out),λk hk=>.inl (Rl HSub.out k hk),?_⟩
 .rw[hns,dq rfl,dq rfl];exact M2.out
 .rw[hns,dq rfl,dq rfl];exact M2.out
 .rw[hl];exact(K8.out _ (A8 qm P6'.out.head).symm).trans ((K7.out _ (A8 pm P6'.out.head).symm).trans P6'.out.head)
 .rw[hl];exact(K8.out _ (A8 qm Q6'.out.head).symm).trans ((K7.out _ (A8 pm Q6'.out.head).symm).trans Q6'.out.head)
 .rw[<-W8.out,<-W7.out];exact(FB.out.putObj (.inl (Ak HNo.out.2.1 (Nd.m_mem (hrp.ne HK.out.1).1))) o1).putObj (.inl (Ak HNo.out.2.2 (Nd.m_mem (hrq.ne HK.out.2).1))) o2
set_option maxRecDepth 100000 in
set_option maxHeartbeats 8000000 in
theorem Tj {w:World}{f mi mg K:Nat}{r:RFs}{N:List Nd}(h:FsN w f mi mg r N)(hW:Wf r K)(i g:Int)(s:ByteArray)(hs:s.size<=maxLen)(i2 g2:Int)(s2:ByteArray)(hs2:s2.size<=maxLen)
  {p q:RIn} {np nq:Nd} (hp:p∈r.ins) (hkp:p.kind=2) (hnp:np∈N) (hrp:NodeR w r p np) (hq:q∈r.ins) (hkq:q.kind=2) (hnq:nq∈N) (hrq:NodeR w r q nq) (hpi:p.id=i) (hqi:q.id=i2)
  (hl:Aj r (i,g)=true) (hl2:Aj r (i2,g2)=true) (hk:(A3 r.ins i).kind=2) (hk2:(A3 r.ins i2).kind=2) (hv:Ae s=true) (hv2:Ae s2=true)
  {x:RIn} {nx:Nd} (hx:x∈r.ins) (hnx:nx∈N) (hrx:NodeR w r x nx) (hxi:A2 r.nms i s=x.id) (hxq:x.id≠q.id) {o:RIn} {no:Nd} (ho:o∈r.ins) (hno:no∈N) (hro:NodeR w r o no) (hoi:A2 r.nms i2 s2=o.id) (hox:o.id≠x.id) (hkx:x.kind=2) (hbl:Be r i2 x.id=false) (hpq:np.blk≠nq.blk) (hmy:Fp r o true=0) :
  Calls Tryz.prog 73 #[.pointer (some ⟨f,0,none⟩),.agg #[.int .i64 i,.int .i64 g],.string s,.agg #[.int .i64 i2,.int .i64 g2],.string s2] w λe w'=>e=.returned (.int .i64 0)/\Cr w w' f mi mg N (Ah (Au r i2 s2) i s i2 s2 x):=by
 obtain⟨w2,hw2,hB,hz2,hb0,hb1⟩:=Gn w #[.int .i64 i,.int .i64 g] #[.int .i64 i2,.int .i64 g2] 31 31;have t0:w2.cell? ⟨w.heap.size,0,none⟩=some (.int .i64 i):=by rw[A1 hb0];rfl
 have t1:w2.cell? ⟨w.heap.size,1,none⟩=some (.int .i64 g):=by rw[A1 hb0];rfl
 have t2:w2.cell? ⟨w.heap.size+1,0,none⟩=some (.int .i64 i2):=by rw[A1 hb1];rfl
 have t3:w2.cell? ⟨w.heap.size+1,1,none⟩=some (.int .i64 g2):=by rw[A1 hb1];rfl
 have h2:=h.below hW hB;have HW2:=aa hw2;have HB:=aa hB;have hrp2:=hrp.below (.inr (.inl hkp)) hB;have hrq2:=hrq.below (.inr (.inl hkq)) hB;have hpl:=Bv h2 hW i g s hs i2 g2 s2 hs2 hl hl2 hk hk2 hv hv2 hnp hnq (hrp.id.trans hpi) (hrq.id.trans hqi);have HP:=aa hpl;have HAt:=aa (show ∀w4,Below w2.heap.size w2 w4->Calls Tryz.prog 59 #[.agg #[.pointer (some ⟨np.blk,0,none⟩),.pointer (some ⟨np.b,0,none⟩),.string s]] w4 λe w'=>e=.returned (.tuple #[.int .i64 (A2 r.nms i s),.bool (decide (A2 r.nms i s≠0))])/\Below w4.heap.size w4 w' from λw4 hb=>by have hr4:=hrp2.below (.inr (.inl hkp)) hb;have:=Bc hr4 hkp (hr4.lt (.inr (.inl hkp))) s (some ⟨np.blk,0,none⟩);rw[hpi,hW.entry_some] at this;exact this)
 have HAt2:=aa (show ∀w4,Below w2.heap.size w2 w4->Calls Tryz.prog 59 #[.agg #[.pointer (some ⟨nq.blk,0,none⟩),.pointer (some ⟨nq.b,0,none⟩),.string s2]] w4 λe w'=>e=.returned (.tuple #[.int .i64 (A2 r.nms i2 s2),.bool (decide (A2 r.nms i2 s2≠0))])/\Below w4.heap.size w4 w' from λw4 hb=>by have hr4:=hrq2.below (.inr (.inl hkq)) hb;have:=Bc hr4 hkq (hr4.lt (.inr (.inl hkq))) s2 (some ⟨nq.blk,0,none⟩);rw[hqi,hW.entry_some] at this;exact this)
 have hx0:x.id≠0:=hW.ne0 hx;rw[hxi,decide_eq_true hx0] at HAt;have hrx2:=hrx.below (hW.kind x hx) hB;have HX:=aa (show ∀w',Below w2.heap.size w2 w'->w'.cell? ⟨f,1,none⟩=some (.map (some mi))/\w'.cell? ⟨nx.blk,5,none⟩=some (Ad x nx)/\(Instr.lookup 144 (.map (some mi)) (.int .i64 x.id) false).run Tryz.prog w'=.ok (.pointer (some ⟨nx.blk,0,none⟩)) w'/\w'.cell? ⟨nq.blk,0,none⟩=some (.int .i64 i2)/\w'.cell? ⟨nq.blk,4,none⟩=some (.int .i64 (A5 r q:Int)) from λw' hb=>by have h4:=h2.below hW hb;have hg:=h4.get hnx;rw[hrx.id] at hg;have hlk:=(h4.look x.id).2;rw[hg] at hlk;have hq4:=(hrq2.below (.inr (.inl hkq)) hb).cells;exact⟨h4.cells.2.1,(hrx2.below (hW.kind x hx) hb).cells.2.2.2.2.2,hlk,by rw[<-hqi];exact hq4.1,hq4.2.2.2.2.1⟩)
 have hta:∀w,(Instr.typeAssert (Ad x nx) 20 135 true).run Tryz.prog w=.ok (.tuple #[.pointer (some ⟨nx.b,0,none⟩),.bool true]) w:=λw=>by rw[Cl,dq hkx];rfl
 have hh0:A2 r.nms i s≠0:=by rw[hxi];exact hW.ne0 hx
 obtain⟨n0,hn0,m1,m2,m3⟩:=B4 hh0;rw[hxi] at m3;rw[<-hpi] at m1;have hxp:x.id≠p.id:=by rw[<-m3,<-m1];exact hW.self_ne hn0
 have HH:=aa h;have HWf:=aa hW;have HR:=aa (And.intro hrx (And.intro hrp hrq));have HM:=aa (And.intro hx (And.intro hp hq));have HN:=aa (And.intro hnx (And.intro hnp hnq));have H0:=aa (And.intro hn0 (And.intro m1 (And.intro m2 m3)));have HK:=aa (And.intro hkp hkq);have HI:=aa (And.intro hpi hqi);have HXP:=aa hxp;have HN6:=aa (show ∀w',Below w2.heap.size w2 w'->FsN w' f mi mg r N/\NodeR w' r p np/\NodeR w' r q nq/\NodeR w' r x nx from λw' hb=>⟨h2.below hW hb,hrp2.below (.inr (.inl hkp)) hb,hrq2.below (.inr (.inl hkq)) hb,hrx2.below (hW.kind x hx) hb⟩);have ho0:o.id≠0:=hW.ne0 ho;rw[hoi,decide_eq_true ho0] at HAt2;have hbq:(o.id==x.id)=false:=by rw[beq_eq_false_iff_ne];exact hox
 have hro2:=hro.below (hW.kind o ho) hB;have HO:=aa (show ∀w',Below w2.heap.size w2 w'->(Instr.lookup 144 (.map (some mi)) (.int .i64 o.id) false).run Tryz.prog w'=.ok (.pointer (some ⟨no.blk,0,none⟩)) w' from λw' hb=>by have h4:=h2.below hW hb;have hg:=h4.get hno;rw[hro.id] at hg;have hlk:=(h4.look o.id).2;rw[hg] at hlk;exact hlk)
 have HMy:=aa (show ∀w',Below w2.heap.size w2 w'->Calls Tryz.prog 97 #[.pointer (some ⟨f,0,none⟩),.pointer (some ⟨no.blk,0,none⟩),.bool true] w' λe w''=>e=.returned (.int .i64 0)/\w'=w'' from λw' hb=>by have:=I6 (hro2.below (hW.kind o ho) hb) true (some ⟨f,0,none⟩);rw[hmy] at this;exact this)
 have HBl:=aa (show ∀w',Below w2.heap.size w2 w'->Calls Tryz.prog 100 #[.pointer (some ⟨f,0,none⟩),.int .i64 i2,.int .i64 x.id] w' λe w''=>e=.returned (.bool false)/\w'=w'' from λw' hb=>by have:=E6 (h2.below hW hb) hW hq hkq x.id;rw[hqi,hbl] at this;exact this)
 have hoi':A2 r.nms q.id s2=o.id:=by rw[hqi];exact hoi
 have hctx:=Jc hW hx hp hkp hq ho hoi' hox (Ju hmy).2 hn0 m1 m3;have HNo:=aa (And.intro hnx (And.intro hnp hnq));have HIds:=aa (And.intro hrx.id (And.intro hrp.id hrq.id));have HLt:=aa (Uy h hW);obtain⟨rd,erd⟩:∃rd,Au r q.id s2=rd:=⟨_,rfl⟩;have HDr:=aa (show ∀w',Below w2.heap.size w2 w'->Calls Tryz.prog 98 #[.pointer (some ⟨f,0,none⟩),.agg #[.pointer (some ⟨nq.blk,0,none⟩),.pointer (some ⟨nq.b,0,none⟩),.string s2]] w' λe w''=>e=.returned (.tuple #[])/\(∃N',FsN w'' f mi mg rd N'/\∀n∈N',n∈N)/\Frm (fpL f mi mg N) w' w'' from λw' hb=>by have:=J3 (h2.below hW hb) hW hq hkq hnq (hrq2.below (.inr (.inl hkq)) hb) s2 (by rw[hoi'];exact ho0);rw[erd] at this;exact this)
 rw[erd] at hctx;obtain⟨hWd,hxd,hpd,hqd,hnd,hag⟩:=hctx;have HERd:=aa erd;have HWd:=aa hWd;have HMd:=aa (And.intro hxd (And.intro hpd hqd));have H0d:=aa (And.intro hnd (And.intro m1 (And.intro m2 m3)));have HKX:=aa hkx;have HXQ:=aa hxq;have HLp:=aa (show 2<=A5 rd p/\A5 rd p<=20 from⟨by unfold A5;rw[dq hkp];omega,hWd.lim p hpd⟩);have HLq:=aa (show A5 rd q<=20 from hWd.lim q hqd);have HAg:=aa (show(Az (Aa rd.nms q.id) s2).isSome=false by rw[hag];rfl);have hmm:nq.m≠np.m:=λe=>hpq (by
  by_cases c:nq=np
  .rw[c]
  .exact dt (e ▸ Nd.m_mem (hrp.ne hkp).1) (h.apart hnq hnp c _ (Nd.m_mem (hrq.ne hkq).1)))
 have HMm:=aa hmm;have HPB:=aa hpq;have HPQ:=aa (show p.id≠q.id from λe=>hpq (by rw[Ba h.idU hnp hnq (hrp.id.trans (e.trans hrq.id.symm))]));clear hw2 hB hb0 hb1 h h2 hW hrp2 hrq2 hpl hp hkp hnp hrp hq hkq hnq hrq hpi hqi hl hl2 hk hk2 hv hv2 hx hnx hrx hxi hx0 hrx2 hkx hpq hmm hxq hmy ho hno hro hoi hox ho0 hro2 hoi' hWd hxd hpd hqd hnd hag erd hbl hh0 hn0 m1 m2 m3 hxp
 go_enter Tryz.func73,Tryz.ntmps73
 go_wp2_with fail
 rw[HW2.out]
 go_upto_region 4 with(go_at_call 99;(with_reducible refine HP.out.mono ?_);rintro e w3 ⟨rfl,hB3⟩;have hs3:=hB3.size;replace hB3:=aa hB3)
 obtain⟨w4,hw4,hB4,hs4,hb40,hb41⟩:=Gn w3 #[.pointer (some ⟨np.blk,0,none⟩),.pointer (some ⟨np.b,0,none⟩),.string s] #[.pointer (some ⟨nq.blk,0,none⟩),.pointer (some ⟨nq.b,0,none⟩),.string s2] 137 137;rw[hw4];have c0:w4.cell? ⟨w3.heap.size,0,none⟩=some (.pointer (some ⟨np.blk,0,none⟩)):=by rw[A1 hb40];rfl
 have c1:w4.cell? ⟨w3.heap.size,1,none⟩=some (.pointer (some ⟨np.b,0,none⟩)):=by rw[A1 hb40];rfl
 have c2:w4.cell? ⟨w3.heap.size,2,none⟩=some (.string s):=by rw[A1 hb40];rfl
 have HQ1:=aa hb40;have HQ2:=aa hb41;have HB4:=aa (hB3.out.trans (hB4.mono (by omega)));clear hw4 hb40 hb41 hB4
 go_upto_region 22 with(first
  | (go_at_call 59;(with_reducible refine(HAt.out w4 HB4.out).mono ?_);rintro e w5 ⟨rfl,hB5⟩;have hs5:=hB5.size;have hY:=(hB5.block _ (by omega)).trans HQ2.out;have d0:w5.cell? ⟨w3.heap.size+1,0,none⟩=_:=A1 hY 0;have d1:w5.cell? ⟨w3.heap.size+1,1,none⟩=_:=A1 hY 1;have d2:w5.cell? ⟨w3.heap.size+1,2,none⟩=_:=A1 hY 2;have HQ25:=aa hY;have HQ15:=aa ((hB5.block _ (by omega)).trans HQ1.out);clear hY;have HB5:=aa (HB4.out.trans (hB5.mono HB4.out.size));obtain⟨x1,x2,x3,-,-⟩:=HX.out w5 HB5.out;clear hB5)
  | (go_at_call 59;(with_reducible refine(HAt2.out w5 HB5.out).mono ?_);rintro e w6 ⟨rfl,hB6⟩;have hs6:=hB6.size;have HQ26:=aa ((hB6.block _ (by omega)).trans HQ25.out);have HQ16:=aa ((hB6.block _ (by omega)).trans HQ15.out);have e0:w6.cell? ⟨w3.heap.size,0,none⟩=_:=A1 HQ16.out 0;have g0:w6.cell? ⟨w3.heap.size+1,0,none⟩=_:=A1 HQ26.out 0;have HB6:=aa (HB5.out.trans (hB6.mono HB5.out.size));obtain⟨y1,y2,y3,y4,y5⟩:=HX.out w6 HB6.out;clear hB6;have z1:=HO.out w6 HB6.out;have g1:w6.cell? ⟨w3.heap.size+1,1,none⟩=_:=A1 HQ26.out 1;have g2':w6.cell? ⟨w3.heap.size+1,2,none⟩=_:=A1 HQ26.out 2)
  | (go_at_call 100;(with_reducible refine(HBl.out w6 HB6.out).mono ?_);rintro e w7 ⟨rfl,rfl⟩)
  | (go_at_call 97;(with_reducible refine(HMy.out w6 HB6.out).mono ?_);rintro e w7 ⟨rfl,rfl⟩)
  | (go_at_call 98;(with_reducible refine(HDr.out w6 HB6.out).mono ?_);rintro e wd ⟨rfl,hd⟩;have HD:=aa hd;clear hd))
 obtain⟨⟨N7,F7,hsub⟩,Fr7⟩:=HD.out;have hb6:=HB.out.trans (HB6.out.mono (show w.heap.size<=w2.heap.size by omega));have hsz:=hb6.size;have hwz:w.heap.size+2<=w3.heap.size:=by omega
 have HQ17:=aa ((Fr7.block w3.heap.size (An HQ16.out) (λhm=>by have:=HLt.out _ hm;omega)).trans HQ16.out);have HQ27:=aa ((Fr7.block (w3.heap.size+1) (An HQ26.out) (λhm=>by have:=HLt.out _ hm;omega)).trans HQ26.out);obtain⟨hx7,X6⟩:=D1 HH.out F7 HWd.out hsub HMd.out.1 HNo.out.1 HIds.out.1;obtain⟨hp7,P6⟩:=D1 HH.out F7 HWd.out hsub HMd.out.2.1 HNo.out.2.1 HIds.out.2.1;obtain⟨hq7,Q6⟩:=D1 HH.out F7 HWd.out hsub HMd.out.2.2 HNo.out.2.2 HIds.out.2.2;have F6:=F7;have HSub:=aa hsub;have HNd:=aa (And.intro hx7 (And.intro hp7 hq7));have FB:=aa ((Frm.of_below (S:=fpL f mi mg N) hb6).trans Fr7);clear F7 hsub Fr7 hx7 hp7 hq7 hb6;have a1:wd.cell? ⟨w3.heap.size,1,none⟩=some (.pointer (some ⟨np.b,0,none⟩)):=by rw[A1 HQ17.out];rfl
 have a2:wd.cell? ⟨np.b,0,none⟩=some (.map (some np.m)):=by rw[A1 (P6.dir HK.out.1).1];rfl
 have hm6:MapB wd np.m Ci Aw (Aa rd.nms p.id):=(P6.dir HK.out.1).2;obtain⟨o1,hdel,hmp1⟩:=C0 (P:=Tryz.prog) (ty:=0) (tk:=9) KS (t:=150) Tryz.underlying150 hm6 s;unfold Ci at hdel;have M1:=aa hmp1;have G6:=aa F6;have P6':=aa P6;have Q6':=aa Q6;have X6':=aa X6;clear F6 P6 Q6 X6 hm6 hmp1
 go_upto_region 23 with fail
 obtain⟨w7,hw7⟩:∃w7,putObj wd np.m o1=w7:=⟨_,rfl⟩;rw[hw7];have k7:∀k,k≠np.m->w7.heap[k]?=wd.heap[k]?:=λk hk=>by rw[<-hw7];exact A9 wd o1 hk
 rw[hw7] at M1;have W7:=aa hw7;have K7:=aa k7;have b1:w7.cell? ⟨w3.heap.size+1,1,none⟩=some (.pointer (some ⟨nq.b,0,none⟩)):=by rw[A1 ((k7 _ (A8 (P6'.out.dir HK.out.1).2 HQ27.out).symm).trans HQ27.out)];rfl
 have b2:w7.cell? ⟨nq.b,0,none⟩=some (.map (some nq.m)):=by rw[A1 ((k7 _ (A8 (P6'.out.dir HK.out.1).2 (Q6'.out.dir HK.out.2).1).symm).trans (Q6'.out.dir HK.out.2).1)];rfl
 have hm7:MapB w7 nq.m Ci Aw (Aa rd.nms q.id):=(Q6'.out.dir HK.out.2).2.of_block (k7 _ HMm.out);have hag:(Az (Aa rd.nms q.id) s2).isSome=false:=HAg.out;obtain⟨o2,hup,hmp2⟩:=Am KS (P:=Tryz.prog) (t:=150) Tryz.underlying150 hm7 s2 x.id;rw[C5 hag] at hmp2;unfold Ci Aw at hup;have M2:=aa hmp2;clear hm7 hag hmp2 hw7 k7 hdel a1 a2
 go_upto_region 24 with fail
 obtain⟨w8,hw8⟩:∃w8,putObj w7 nq.m o2=w8:=⟨_,rfl⟩;rw[hw8];rw[hw8] at M2;have W8:=aa hw8;have K8:=aa (show ∀k,k≠nq.m->w8.heap[k]?=w7.heap[k]? from λk hk=>by rw[<-hw8];exact A9 w7 o2 hk);clear hw8 hup b1 b2;have ne:∀k,k≠np.m->k≠nq.m->w8.heap[k]?=wd.heap[k]?:=λk a b=>(K8.out k b).trans (K7.out k a);have pm:=(P6'.out.dir HK.out.1).2;have qm:=(Q6'.out.dir HK.out.2).2;have xd:=(X6'.out.dir HKX.out).1;have P8:=(ne _ (A8 pm P6'.out.head).symm (A8 qm P6'.out.head).symm).trans P6'.out.head;have Q8:=(ne _ (A8 pm Q6'.out.head).symm (A8 qm Q6'.out.head).symm).trans Q6'.out.head;have X8:=(ne _ (A8 pm xd).symm (A8 qm xd).symm).trans xd;have R8:=(ne _ (A8 pm HQ17.out).symm (A8 qm HQ17.out).symm).trans HQ17.out;have S8:=(ne _ (A8 pm HQ27.out).symm (A8 qm HQ27.out).symm).trans HQ27.out;have f0:w8.cell? ⟨w3.heap.size,0,none⟩=some (.pointer (some ⟨np.blk,0,none⟩)):=by rw[A1 R8];rfl
 have f1:w8.cell? ⟨w3.heap.size+1,0,none⟩=some (.pointer (some ⟨nq.blk,0,none⟩)):=by rw[A1 S8];rfl
 have f2:w8.cell? ⟨nq.blk,0,none⟩=some (.int .i64 q.id):=by rw[A1 Q8];rfl
 have f3:w8.cell? ⟨np.blk,4,none⟩=some (.int .i64 (A5 rd p:Int)):=by rw[A1 P8];rfl
 have f4:w8.cell? ⟨nq.blk,4,none⟩=some (.int .i64 (A5 rd q:Int)):=by rw[A1 Q8];rfl
 have f5:w8.cell? ⟨nx.b,1,none⟩=some (.int .i64 x.parent):=by rw[A1 X8];rfl
 have f6:w8.frozen? ⟨np.blk,4,none⟩=false:=frozen_of_row w8 np.blk 4 _ _ P8;have f7:w8.frozen? ⟨nq.blk,4,none⟩=false:=frozen_of_row w8 nq.blk 4 _ _ Q8;have f8:w8.frozen? ⟨nx.b,1,none⟩=false:=frozen_of_row w8 nx.b 1 _ _ X8;have n1:w3.heap.size≠nx.b:=Av R8 X8 (by decide);have n2:w3.heap.size≠np.blk:=Av R8 P8 (by decide);have n3:w3.heap.size≠nq.blk:=Av R8 Q8 (by decide);have n4:w3.heap.size+1≠nx.b:=Av S8 X8 (by decide);have n5:w3.heap.size+1≠np.blk:=Av S8 P8 (by decide);have n6:w3.heap.size+1≠nq.blk:=Av S8 Q8 (by decide);have n7:nx.b≠np.blk:=Av X8 P8 (by decide);have n8:nx.b≠nq.blk:=Av X8 Q8 (by decide);have P8':=aa P8;have Q8':=aa Q8;have X8':=aa X8;have hlp:=HLp.out.1;have hlp2:=HLp.out.2;have hlq:=HLq.out;clear P8 Q8 X8 R8 S8 ne pm qm xd;have n9:np.blk≠nq.blk:=HPB.out;obtain⟨lp,elp⟩:∃lp,A5 rd p=lp:=⟨_,rfl⟩;obtain⟨lq,elq⟩:∃lq,A5 rd q=lq:=⟨_,rfl⟩;rw[elp] at f3 P8' hlp hlp2;rw[elq] at f4 Q8' hlq;have ELP:=aa elp;have ELQ:=aa elq;clear elp elq
 go_wp2
 go_ret
 refine⟨rfl,?_⟩;obtain⟨ei,eq⟩:=HI.out;subst ei eq;rw[HERd.out];obtain⟨hx,hp,hq⟩:=HMd.out;obtain⟨hnx,hnp,hnq⟩:=HNd.out;obtain⟨hrx,hrp,hrq⟩:=And.intro X6'.out (And.intro P6'.out Q6'.out);obtain⟨hn0,m1,m2,m3⟩:=H0d.out;have hlk:=λy=>C3 HWd.out hx hn0 m3 q.id s2 (y:=y) (y':=y) rfl rfl;rw[m1,m2] at hlk;have hns:∀j,Aa (Ah rd p.id s q.id s2 x).nms j=_:=λj=>by rw[Ck,B1,Ay]
 have pm:=(P6'.out.dir HK.out.1).2;have qm:=(Q6'.out.dir HK.out.2).2;have xd:=(X6'.out.dir HKX.out).1;have c1:((lp:Int) - 1)=((lp - 1:Nat):Int):=by omega
 have c2:((lq:Int)+1)=((lq+1:Nat):Int):=by omega
 rw[c1,c2];have lP:A5 (Ah rd p.id s q.id s2 x) p=lp - 1:=by have:=hlk p;rw[dq ⟨HK.out.1,HKX.out,rfl⟩,dp (λe=>HPQ.out e.2.2.symm),ELP.out] at this;omega
 have lQ:A5 (Ah rd p.id s q.id s2 x) q=lq+1:=by have:=hlk q;rw[dp (λe=>HPQ.out e.2.2),dq ⟨HK.out.2,HKX.out,rfl⟩,ELQ.out] at this;omega
 refine⟨N7,Ew G6.out HWd.out hx hnx hrx hp HK.out.1 hnp hrp hq HK.out.2 hnq hrq hn0 m1 m2 m3 HXP.out HXQ.out (λk hk a b c d e=>(A4 _ _ _ _ _ d).trans ((A4 _ _ _ _ _ c).trans ((A4 _ _ _ _ _ (e HKX.out)).trans ((K8.out k b).trans (K7.out k a))))) ?_ ?_ ?_ ?_ (λ_=>?_),λk hk=>.inl (Rl HSub.out k hk),?_⟩
 .rw[hns,dp HPQ.out,dq rfl];exact M1.out.of_block ((A4 _ _ _ _ _ (A8 pm Q6'.out.head)).trans ((A4 _ _ _ _ _ (A8 pm P6'.out.head)).trans ((A4 _ _ _ _ _ (A8 pm xd)).trans (K8.out _ (λe=>HMm.out e.symm)))))
 .rw[hns,dq rfl,dp (λe=>HPQ.out e.symm)];exact M2.out.of_block ((A4 _ _ _ _ _ (A8 qm Q6'.out.head)).trans ((A4 _ _ _ _ _ (A8 qm P6'.out.head)).trans (A4 _ _ _ _ _ (A8 qm xd))))
 .rw[lP];exact(A4 _ _ _ _ _ n9).trans (Bp ((A4 _ _ _ _ _ n7.symm).trans P8'.out))
 .rw[lQ];exact Bp ((A4 _ _ _ _ _ n9.symm).trans ((A4 _ _ _ _ _ n8.symm).trans Q8'.out))
 .exact(A4 _ _ _ _ _ n8).trans ((A4 _ _ _ _ _ n7).trans (heap_setCell_same w8 nx.b 1 _ _ _ X8'.out))
 .rw[<-W8.out,<-W7.out];exact(((((FB.out.putObj (.inl (Ak HNo.out.2.1 (Nd.m_mem (hrp.ne HK.out.1).1))) o1).putObj (.inl (Ak HNo.out.2.2 (Nd.m_mem (hrq.ne HK.out.2).1))) o2).setCell (.inl (Ak HNo.out.1 (Nd.b_mem (hrx.ne HKX.out).1))) _).setCell (.inl (Ak HNo.out.2.1 np.blk_mem)) _).setCell (.inl (Ak HNo.out.2.2 nq.blk_mem)) _)
set_option maxRecDepth 100000 in
set_option maxHeartbeats 8000000 in
theorem S2 {w:World}{f mi mg K:Nat}{r:RFs}{N:List Nd}(h:FsN w f mi mg r N)(hW:Wf r K)(i g:Int)(s:ByteArray)(hs:s.size<=maxLen)(i2 g2:Int)(s2:ByteArray)(hs2:s2.size<=maxLen)
  {p q:RIn} {np nq:Nd} (hp:p∈r.ins) (hkp:p.kind=2) (hnp:np∈N) (hrp:NodeR w r p np) (hq:q∈r.ins) (hkq:q.kind=2) (hnq:nq∈N) (hrq:NodeR w r q nq) (hpi:p.id=i) (hqi:q.id=i2)
  (hl:Aj r (i,g)=true) (hl2:Aj r (i2,g2)=true) (hk:(A3 r.ins i).kind=2) (hk2:(A3 r.ins i2).kind=2) (hv:Ae s=true) (hv2:Ae s2=true)
  {x:RIn} {nx:Nd} (hx:x∈r.ins) (hnx:nx∈N) (hrx:NodeR w r x nx) (hxi:A2 r.nms i s=x.id) (hxq:x.id≠q.id) {o:RIn} {no:Nd} (ho:o∈r.ins) (hno:no∈N) (hro:NodeR w r o no) (hoi:A2 r.nms i2 s2=o.id) (hox:o.id≠x.id) (hkx:x.kind=2) (hbl:Be r i2 x.id=false) (hpq:np=nq) (hmy:Fp r o true=0) :
  Calls Tryz.prog 73 #[.pointer (some ⟨f,0,none⟩),.agg #[.int .i64 i,.int .i64 g],.string s,.agg #[.int .i64 i2,.int .i64 g2],.string s2] w λe w'=>e=.returned (.int .i64 0)/\Cr w w' f mi mg N (Ah (Au r i2 s2) i s i2 s2 x):=by
 subst hpq;obtain rfl:=h.uniq hW hp hrp hq hrq;obtain rfl:i=i2:=hpi.symm.trans hqi;obtain⟨w2,hw2,hB,hz2,hb0,hb1⟩:=Gn w #[.int .i64 i,.int .i64 g] #[.int .i64 i,.int .i64 g2] 31 31;have t0:w2.cell? ⟨w.heap.size,0,none⟩=some (.int .i64 i):=by rw[A1 hb0];rfl
 have t1:w2.cell? ⟨w.heap.size,1,none⟩=some (.int .i64 g):=by rw[A1 hb0];rfl
 have t2:w2.cell? ⟨w.heap.size+1,0,none⟩=some (.int .i64 i):=by rw[A1 hb1];rfl
 have t3:w2.cell? ⟨w.heap.size+1,1,none⟩=some (.int .i64 g2):=by rw[A1 hb1];rfl
 have h2:=h.below hW hB;have HW2:=aa hw2;have HB:=aa hB;have hrp2:=hrp.below (.inr (.inl hkp)) hB;have hrq2:=hrq.below (.inr (.inl hkq)) hB;have hpl:=Bv h2 hW i g s hs i g2 s2 hs2 hl hl2 hk hk2 hv hv2 hnp hnq (hrp.id.trans hpi) (hrq.id.trans hqi);have HP:=aa hpl;have HAt:=aa (show ∀w4,Below w2.heap.size w2 w4->Calls Tryz.prog 59 #[.agg #[.pointer (some ⟨np.blk,0,none⟩),.pointer (some ⟨np.b,0,none⟩),.string s]] w4 λe w'=>e=.returned (.tuple #[.int .i64 (A2 r.nms i s),.bool (decide (A2 r.nms i s≠0))])/\Below w4.heap.size w4 w' from λw4 hb=>by have hr4:=hrp2.below (.inr (.inl hkp)) hb;have:=Bc hr4 hkp (hr4.lt (.inr (.inl hkp))) s (some ⟨np.blk,0,none⟩);rw[hpi,hW.entry_some] at this;exact this)
 have HAt2:=aa (show ∀w4,Below w2.heap.size w2 w4->Calls Tryz.prog 59 #[.agg #[.pointer (some ⟨np.blk,0,none⟩),.pointer (some ⟨np.b,0,none⟩),.string s2]] w4 λe w'=>e=.returned (.tuple #[.int .i64 (A2 r.nms i s2),.bool (decide (A2 r.nms i s2≠0))])/\Below w4.heap.size w4 w' from λw4 hb=>by have hr4:=hrq2.below (.inr (.inl hkq)) hb;have:=Bc hr4 hkq (hr4.lt (.inr (.inl hkq))) s2 (some ⟨np.blk,0,none⟩);rw[hqi,hW.entry_some] at this;exact this)
 have hx0:x.id≠0:=hW.ne0 hx;rw[hxi,decide_eq_true hx0] at HAt;have hrx2:=hrx.below (hW.kind x hx) hB;have HX:=aa (show ∀w',Below w2.heap.size w2 w'->w'.cell? ⟨f,1,none⟩=some (.map (some mi))/\w'.cell? ⟨nx.blk,5,none⟩=some (Ad x nx)/\(Instr.lookup 144 (.map (some mi)) (.int .i64 x.id) false).run Tryz.prog w'=.ok (.pointer (some ⟨nx.blk,0,none⟩)) w'/\w'.cell? ⟨np.blk,0,none⟩=some (.int .i64 i)/\w'.cell? ⟨np.blk,4,none⟩=some (.int .i64 (A5 r p:Int)) from λw' hb=>by have h4:=h2.below hW hb;have hg:=h4.get hnx;rw[hrx.id] at hg;have hlk:=(h4.look x.id).2;rw[hg] at hlk;have hq4:=(hrq2.below (.inr (.inl hkq)) hb).cells;exact⟨h4.cells.2.1,(hrx2.below (hW.kind x hx) hb).cells.2.2.2.2.2,hlk,by rw[<-hqi];exact hq4.1,hq4.2.2.2.2.1⟩)
 have hta:∀w,(Instr.typeAssert (Ad x nx) 20 135 true).run Tryz.prog w=.ok (.tuple #[.pointer (some ⟨nx.b,0,none⟩),.bool true]) w:=λw=>by rw[Cl,dq hkx];rfl
 have hh0:A2 r.nms i s≠0:=by rw[hxi];exact hW.ne0 hx
 obtain⟨n0,hn0,m1,m2,m3⟩:=B4 hh0;rw[hxi] at m3;rw[<-hpi] at m1;have hxp:x.id≠p.id:=by rw[<-m3,<-m1];exact hW.self_ne hn0
 have HH:=aa h;have HWf:=aa hW;have HR:=aa (And.intro hrx (And.intro hrp hrq));have HM:=aa (And.intro hx (And.intro hp hq));have HN:=aa (And.intro hnx (And.intro hnp hnq));have H0:=aa (And.intro hn0 (And.intro m1 (And.intro m2 m3)));have HK:=aa (And.intro hkp hkq);have HI:=aa (And.intro hpi hqi);have HXP:=aa hxp;have HN6:=aa (show ∀w',Below w2.heap.size w2 w'->FsN w' f mi mg r N/\NodeR w' r p np/\NodeR w' r p np/\NodeR w' r x nx from λw' hb=>⟨h2.below hW hb,hrp2.below (.inr (.inl hkp)) hb,hrq2.below (.inr (.inl hkq)) hb,hrx2.below (hW.kind x hx) hb⟩);have ho0:o.id≠0:=hW.ne0 ho;rw[hoi,decide_eq_true ho0] at HAt2;have hbq:(o.id==x.id)=false:=by rw[beq_eq_false_iff_ne];exact hox
 have hro2:=hro.below (hW.kind o ho) hB;have HO:=aa (show ∀w',Below w2.heap.size w2 w'->(Instr.lookup 144 (.map (some mi)) (.int .i64 o.id) false).run Tryz.prog w'=.ok (.pointer (some ⟨no.blk,0,none⟩)) w' from λw' hb=>by have h4:=h2.below hW hb;have hg:=h4.get hno;rw[hro.id] at hg;have hlk:=(h4.look o.id).2;rw[hg] at hlk;exact hlk)
 have HMy:=aa (show ∀w',Below w2.heap.size w2 w'->Calls Tryz.prog 97 #[.pointer (some ⟨f,0,none⟩),.pointer (some ⟨no.blk,0,none⟩),.bool true] w' λe w''=>e=.returned (.int .i64 0)/\w'=w'' from λw' hb=>by have:=I6 (hro2.below (hW.kind o ho) hb) true (some ⟨f,0,none⟩);rw[hmy] at this;exact this)
 have HBl:=aa (show ∀w',Below w2.heap.size w2 w'->Calls Tryz.prog 100 #[.pointer (some ⟨f,0,none⟩),.int .i64 i,.int .i64 x.id] w' λe w''=>e=.returned (.bool false)/\w'=w'' from λw' hb=>by have:=E6 (h2.below hW hb) hW hq hkq x.id;rw[hqi,hbl] at this;exact this)
 have hoi':A2 r.nms p.id s2=o.id:=by rw[hqi];exact hoi
 have hctx:=Jc hW hx hp hkp hq ho hoi' hox (Ju hmy).2 hn0 m1 m3;have HNo:=aa (And.intro hnx (And.intro hnp hnq));have HIds:=aa (And.intro hrx.id (And.intro hrp.id hrq.id));have HLt:=aa (Uy h hW);obtain⟨rd,erd⟩:∃rd,Au r p.id s2=rd:=⟨_,rfl⟩;have HDr:=aa (show ∀w',Below w2.heap.size w2 w'->Calls Tryz.prog 98 #[.pointer (some ⟨f,0,none⟩),.agg #[.pointer (some ⟨np.blk,0,none⟩),.pointer (some ⟨np.b,0,none⟩),.string s2]] w' λe w''=>e=.returned (.tuple #[])/\(∃N',FsN w'' f mi mg rd N'/\∀n∈N',n∈N)/\Frm (fpL f mi mg N) w' w'' from λw' hb=>by have:=J3 (h2.below hW hb) hW hq hkq hnq (hrq2.below (.inr (.inl hkq)) hb) s2 (by rw[hoi'];exact ho0);rw[erd] at this;exact this)
 rw[erd] at hctx;obtain⟨hWd,hxd,hpd,hqd,hnd,hag⟩:=hctx;have HERd:=aa erd;have HWd:=aa hWd;have HMd:=aa (And.intro hxd (And.intro hpd hqd));have H0d:=aa (And.intro hnd (And.intro m1 (And.intro m2 m3)));have HKX:=aa hkx;have HXQ:=aa hxq;have HLp:=aa (show 2<=A5 rd p/\A5 rd p<=20 from⟨by unfold A5;rw[dq hkp];omega,hWd.lim p hpd⟩);have HLq:=aa (show A5 rd p<=20 from hWd.lim p hqd);have HAg:=aa (show(Az (Hq (Aa rd.nms p.id) s) s2).isSome=false from by have h1:Az (Aa rd.nms p.id) s2=none:=hag;rw[Iz,h1];split<;>rfl)
 clear hw2 hB hb0 hb1 h h2 hW hrp2 hrq2 hpl hp hkp hnp hrp hq hkq hnq hrq hpi hqi hl hl2 hk hk2 hv hv2 hx hnx hrx hxi hx0 hrx2 hkx hxq hmy ho hno hro hoi hox ho0 hro2 hoi' hWd hxd hpd hqd hnd hag erd hbl hh0 hn0 m1 m2 m3 hxp
 go_enter Tryz.func73,Tryz.ntmps73
 go_wp2_with fail
 rw[HW2.out]
 go_upto_region 4 with(go_at_call 99;(with_reducible refine HP.out.mono ?_);rintro e w3 ⟨rfl,hB3⟩;have hs3:=hB3.size;replace hB3:=aa hB3)
 obtain⟨w4,hw4,hB4,hs4,hb40,hb41⟩:=Gn w3 #[.pointer (some ⟨np.blk,0,none⟩),.pointer (some ⟨np.b,0,none⟩),.string s] #[.pointer (some ⟨np.blk,0,none⟩),.pointer (some ⟨np.b,0,none⟩),.string s2] 137 137;rw[hw4];have c0:w4.cell? ⟨w3.heap.size,0,none⟩=some (.pointer (some ⟨np.blk,0,none⟩)):=by rw[A1 hb40];rfl
 have c1:w4.cell? ⟨w3.heap.size,1,none⟩=some (.pointer (some ⟨np.b,0,none⟩)):=by rw[A1 hb40];rfl
 have c2:w4.cell? ⟨w3.heap.size,2,none⟩=some (.string s):=by rw[A1 hb40];rfl
 have HQ1:=aa hb40;have HQ2:=aa hb41;have HB4:=aa (hB3.out.trans (hB4.mono (by omega)));clear hw4 hb40 hb41 hB4
 go_upto_region 22 with(first
  | (go_at_call 59;(with_reducible refine(HAt.out w4 HB4.out).mono ?_);rintro e w5 ⟨rfl,hB5⟩;have hs5:=hB5.size;have hY:=(hB5.block _ (by omega)).trans HQ2.out;have d0:w5.cell? ⟨w3.heap.size+1,0,none⟩=_:=A1 hY 0;have d1:w5.cell? ⟨w3.heap.size+1,1,none⟩=_:=A1 hY 1;have d2:w5.cell? ⟨w3.heap.size+1,2,none⟩=_:=A1 hY 2;have HQ25:=aa hY;have HQ15:=aa ((hB5.block _ (by omega)).trans HQ1.out);clear hY;have HB5:=aa (HB4.out.trans (hB5.mono HB4.out.size));obtain⟨x1,x2,x3,-,-⟩:=HX.out w5 HB5.out;clear hB5)
  | (go_at_call 59;(with_reducible refine(HAt2.out w5 HB5.out).mono ?_);rintro e w6 ⟨rfl,hB6⟩;have hs6:=hB6.size;have HQ26:=aa ((hB6.block _ (by omega)).trans HQ25.out);have HQ16:=aa ((hB6.block _ (by omega)).trans HQ15.out);have e0:w6.cell? ⟨w3.heap.size,0,none⟩=_:=A1 HQ16.out 0;have g0:w6.cell? ⟨w3.heap.size+1,0,none⟩=_:=A1 HQ26.out 0;have HB6:=aa (HB5.out.trans (hB6.mono HB5.out.size));obtain⟨y1,y2,y3,y4,y5⟩:=HX.out w6 HB6.out;clear hB6;have z1:=HO.out w6 HB6.out;have g1:w6.cell? ⟨w3.heap.size+1,1,none⟩=_:=A1 HQ26.out 1;have g2':w6.cell? ⟨w3.heap.size+1,2,none⟩=_:=A1 HQ26.out 2)
  | (go_at_call 100;(with_reducible refine(HBl.out w6 HB6.out).mono ?_);rintro e w7 ⟨rfl,rfl⟩)
  | (go_at_call 97;(with_reducible refine(HMy.out w6 HB6.out).mono ?_);rintro e w7 ⟨rfl,rfl⟩)
  | (go_at_call 98;(with_reducible refine(HDr.out w6 HB6.out).mono ?_);rintro e wd ⟨rfl,hd⟩;have HD:=aa hd;clear hd))
 obtain⟨⟨N7,F7,hsub⟩,Fr7⟩:=HD.out;have hb6:=HB.out.trans (HB6.out.mono (show w.heap.size<=w2.heap.size by omega));have hsz:=hb6.size;have hwz:w.heap.size+2<=w3.heap.size:=by omega
 have HQ17:=aa ((Fr7.block w3.heap.size (An HQ16.out) (λhm=>by have:=HLt.out _ hm;omega)).trans HQ16.out);have HQ27:=aa ((Fr7.block (w3.heap.size+1) (An HQ26.out) (λhm=>by have:=HLt.out _ hm;omega)).trans HQ26.out);obtain⟨hx7,X6⟩:=D1 HH.out F7 HWd.out hsub HMd.out.1 HNo.out.1 HIds.out.1;obtain⟨hp7,P6⟩:=D1 HH.out F7 HWd.out hsub HMd.out.2.1 HNo.out.2.1 HIds.out.2.1;obtain⟨hq7,Q6⟩:=D1 HH.out F7 HWd.out hsub HMd.out.2.2 HNo.out.2.2 HIds.out.2.2;have F6:=F7;have HSub:=aa hsub;have HNd:=aa (And.intro hx7 (And.intro hp7 hq7));have FB:=aa ((Frm.of_below (S:=fpL f mi mg N) hb6).trans Fr7);clear F7 hsub Fr7 hx7 hp7 hq7 hb6;have a1:wd.cell? ⟨w3.heap.size,1,none⟩=some (.pointer (some ⟨np.b,0,none⟩)):=by rw[A1 HQ17.out];rfl
 have a2:wd.cell? ⟨np.b,0,none⟩=some (.map (some np.m)):=by rw[A1 (P6.dir HK.out.1).1];rfl
 have hm6:MapB wd np.m Ci Aw (Aa rd.nms p.id):=(P6.dir HK.out.1).2;obtain⟨o1,hdel,hmp1⟩:=C0 (P:=Tryz.prog) (ty:=0) (tk:=9) KS (t:=150) Tryz.underlying150 hm6 s;unfold Ci at hdel;have M1:=aa hmp1;have G6:=aa F6;have P6':=aa P6;have Q6':=aa Q6;have X6':=aa X6;clear F6 P6 Q6 X6 hm6 hmp1
 go_upto_region 23 with fail
 obtain⟨w7,hw7⟩:∃w7,putObj wd np.m o1=w7:=⟨_,rfl⟩;rw[hw7];have k7:∀k,k≠np.m->w7.heap[k]?=wd.heap[k]?:=λk hk=>by rw[<-hw7];exact A9 wd o1 hk
 rw[hw7] at M1;have W7:=aa hw7;have K7:=aa k7;have b1:w7.cell? ⟨w3.heap.size+1,1,none⟩=some (.pointer (some ⟨np.b,0,none⟩)):=by rw[A1 ((k7 _ (A8 (P6'.out.dir HK.out.1).2 HQ27.out).symm).trans HQ27.out)];rfl
 have b2:w7.cell? ⟨np.b,0,none⟩=some (.map (some np.m)):=by rw[A1 ((k7 _ (A8 (P6'.out.dir HK.out.1).2 (Q6'.out.dir HK.out.2).1).symm).trans (Q6'.out.dir HK.out.2).1)];rfl
 have hm7:MapB w7 np.m Ci Aw (Hq (Aa rd.nms p.id) s):=M1.out;have hag:(Az (Hq (Aa rd.nms p.id) s) s2).isSome=false:=HAg.out;obtain⟨o2,hup,hmp2⟩:=Am KS (P:=Tryz.prog) (t:=150) Tryz.underlying150 hm7 s2 x.id;rw[C5 hag] at hmp2;unfold Ci Aw at hup;have M2:=aa hmp2;clear hm7 hag hmp2 hw7 k7 hdel a1 a2
 go_upto_region 24 with fail
 obtain⟨w8,hw8⟩:∃w8,putObj w7 np.m o2=w8:=⟨_,rfl⟩;rw[hw8];rw[hw8] at M2;have W8:=aa hw8;have K8:=aa (show ∀k,k≠np.m->w8.heap[k]?=w7.heap[k]? from λk hk=>by rw[<-hw8];exact A9 w7 o2 hk);clear hw8 hup b1 b2;have ne:∀k,k≠np.m->k≠np.m->w8.heap[k]?=wd.heap[k]?:=λk a b=>(K8.out k b).trans (K7.out k a);have pm:=(P6'.out.dir HK.out.1).2;have qm:=(Q6'.out.dir HK.out.2).2;have xd:=(X6'.out.dir HKX.out).1;have P8:=(ne _ (A8 pm P6'.out.head).symm (A8 qm P6'.out.head).symm).trans P6'.out.head;have Q8:=(ne _ (A8 pm Q6'.out.head).symm (A8 qm Q6'.out.head).symm).trans Q6'.out.head;have X8:=(ne _ (A8 pm xd).symm (A8 qm xd).symm).trans xd;have R8:=(ne _ (A8 pm HQ17.out).symm (A8 qm HQ17.out).symm).trans HQ17.out;have S8:=(ne _ (A8 pm HQ27.out).symm (A8 qm HQ27.out).symm).trans HQ27.out;have f0:w8.cell? ⟨w3.heap.size,0,none⟩=some (.pointer (some ⟨np.blk,0,none⟩)):=by rw[A1 R8];rfl
 have f1:w8.cell? ⟨w3.heap.size+1,0,none⟩=some (.pointer (some ⟨np.blk,0,none⟩)):=by rw[A1 S8];rfl
 have f2:w8.cell? ⟨np.blk,0,none⟩=some (.int .i64 p.id):=by rw[A1 Q8];rfl
 have f3:w8.cell? ⟨np.blk,4,none⟩=some (.int .i64 (A5 rd p:Int)):=by rw[A1 P8];rfl
 have f4:w8.cell? ⟨np.blk,4,none⟩=some (.int .i64 (A5 rd p:Int)):=by rw[A1 Q8];rfl
 have f5:w8.cell? ⟨nx.b,1,none⟩=some (.int .i64 x.parent):=by rw[A1 X8];rfl
 have f6:w8.frozen? ⟨np.blk,4,none⟩=false:=frozen_of_row w8 np.blk 4 _ _ P8;have f7:w8.frozen? ⟨np.blk,4,none⟩=false:=frozen_of_row w8 np.blk 4 _ _ Q8;have f8:w8.frozen? ⟨nx.b,1,none⟩=false:=frozen_of_row w8 nx.b 1 _ _ X8;have n1:w3.heap.size≠nx.b:=Av R8 X8 (by decide);have n2:w3.heap.size≠np.blk:=Av R8 P8 (by decide);have n3:w3.heap.size≠np.blk:=Av R8 Q8 (by decide);have n4:w3.heap.size+1≠nx.b:=Av S8 X8 (by decide);have n5:w3.heap.size+1≠np.blk:=Av S8 P8 (by decide);have n6:w3.heap.size+1≠np.blk:=Av S8 Q8 (by decide);have n7:nx.b≠np.blk:=Av X8 P8 (by decide);have n8:nx.b≠np.blk:=Av X8 Q8 (by decide);have P8':=aa P8;have Q8':=aa Q8;have X8':=aa X8;have hlp:=HLp.out.1;have hlp2:=HLp.out.2;have hlq:=HLq.out;clear P8 Q8 X8 R8 S8 ne pm qm xd;obtain⟨lp,elp⟩:∃lp,A5 rd p=lp:=⟨_,rfl⟩;obtain⟨lq,elq⟩:∃lq,A5 rd p=lq:=⟨_,rfl⟩;rw[elp] at f3 P8' hlp hlp2;rw[elq] at f4 Q8' hlq;have ELP:=aa elp;have ELQ:=aa elq;clear elp elq
 go_wp2
 go_ret
 refine⟨rfl,?_⟩;obtain⟨ei,-⟩:=HI.out;subst ei;rw[HERd.out];obtain⟨hx,hp,hq⟩:=HMd.out;obtain⟨hnx,hnp,hnq⟩:=HNd.out;obtain⟨hrx,hrp,hrq⟩:=And.intro X6'.out (And.intro P6'.out Q6'.out);obtain⟨hn0,m1,m2,m3⟩:=H0d.out;have hlk:=λy=>C3 HWd.out hx hn0 m3 p.id s2 (y:=y) (y':=y) rfl rfl;rw[m1,m2] at hlk;have hns:∀j,Aa (Ah rd p.id s p.id s2 x).nms j=_:=λj=>by rw[Ck,B1,Ay]
 have pm:=(P6'.out.dir HK.out.1).2;have qm:=(Q6'.out.dir HK.out.2).2;have xd:=(X6'.out.dir HKX.out).1;have c1:((lp:Int) - 1)=((lp - 1:Nat):Int):=by omega
 have c3:((lp:Int) - 1+1)=((lp:Nat):Int):=by omega
 try rw[c3]
 rw[c1];have lP:A5 (Ah rd p.id s p.id s2 x) p=lp:=by have:=hlk p;rw[dq ⟨HK.out.1,HKX.out,rfl⟩,ELP.out] at this;omega
 refine⟨N7,Ew G6.out HWd.out hx hnx hrx hp HK.out.1 hnp hrp hq HK.out.2 hnq hrq hn0 m1 m2 m3 HXP.out HXQ.out (λk hk a b c d e=>(A4 _ _ _ _ _ d).trans ((A4 _ _ _ _ _ c).trans ((A4 _ _ _ _ _ (e HKX.out)).trans ((K8.out k b).trans (K7.out k a))))) ?_ ?_ ?_ ?_ (λ_=>?_),λk hk=>.inl (Rl HSub.out k hk),?_⟩
 .rw[hns,dq rfl,dq rfl];exact M2.out.of_block ((A4 _ _ _ _ _ (A8 pm P6'.out.head)).trans ((A4 _ _ _ _ _ (A8 pm P6'.out.head)).trans (A4 _ _ _ _ _ (A8 pm xd))))
 .rw[hns,dq rfl,dq rfl];exact M2.out.of_block ((A4 _ _ _ _ _ (A8 pm P6'.out.head)).trans ((A4 _ _ _ _ _ (A8 pm P6'.out.head)).trans (A4 _ _ _ _ _ (A8 pm xd))))
 .rw[lP];exact Bp (Bp (lk':=lp - 1) ((A4 _ _ _ _ _ n7.symm).trans P8'.out))
 .rw[lP];exact Bp (Bp (lk':=lp - 1) ((A4 _ _ _ _ _ n7.symm).trans P8'.out))
 .exact(A4 _ _ _ _ _ n7).trans ((A4 _ _ _ _ _ n7).trans (heap_setCell_same w8 nx.b 1 _ _ _ X8'.out))
 .rw[<-W8.out,<-W7.out];exact(((((FB.out.putObj (.inl (Ak HNo.out.2.1 (Nd.m_mem (hrp.ne HK.out.1).1))) o1).putObj (.inl (Ak HNo.out.2.2 (Nd.m_mem (hrq.ne HK.out.2).1))) o2).setCell (.inl (Ak HNo.out.1 (Nd.b_mem (hrx.ne HKX.out).1))) _).setCell (.inl (Ak HNo.out.2.1 np.blk_mem)) _).setCell (.inl (Ak HNo.out.2.2 np.blk_mem)) _)
set_option maxHeartbeats 2000000 in
theorem Xe {w:World}{f mi mg K:Nat}{r:RFs}{N:List Nd}(h:FsN w f mi mg r N)(H:Wf r K)(i g:Int)(s:ByteArray)(W:s.size<=maxLen)(E M:Int)(I:ByteArray)(z:I.size<=maxLen) :
  Calls Tryz.prog 73 #[.pointer (some ⟨f,0,none⟩),.agg #[.int .i64 i,.int .i64 g],.string s,.agg #[.int .i64 E,.int .i64 M],.string I] w
   λe w'=>e=.returned (.int .i64 (D5 r (i,g) s (E,M) I).2)/\Cr w w' f mi mg N (D5 r (i,g) s (E,M) I).1:=by
 have st:∀{v:Value} {e:Ending} {w':World},e=.returned v/\Below w.heap.size w w'->e=.returned v/\Cr w w' f mi mg N r:=fun⟨a,b⟩=>⟨a,Dv h H b⟩;unfold D5;by_cases he:Di r (i,g) s (E,M) I≠0
 .rw[dq he];exact(Wr h H i g s W E M I z he).mono λe w' T=>st T
 .rw[dp he];obtain⟨X,A,B,c,hv,D⟩:=N5 (ao.1 he);dsimp only at B c⊢;obtain⟨R,l,_⟩:=Ac X;obtain⟨U,j,_⟩:=Ac A;dsimp only at R l U j;obtain⟨np,y,m⟩:=h.at_ H R;obtain⟨nq,n,u⟩:=h.at_ H U;by_cases h0:A2 r.nms i s=0
  .rw[dq h0];exact(Te h H i g s W E M I z R B y m U c n u l j X A B c hv D h0).mono λe w' T=>st T
  .rw[dp h0];obtain⟨n0,hn0,m1,m2,m3⟩:=B4 h0;obtain⟨hx1,x,S,ex⟩:=H.nmI n0 hn0;have C:A2 r.nms i s=x.id:=by rw[<-m3,<-ex]
   obtain⟨nx,G,F⟩:=h.at_ H S;have hbx:A3 r.ins x.id=x:=H.byId S;rw[C,hbx];by_cases hox:x.id=A2 r.nms E I
   .rw[dq hox];exact(Sx h H i g s W E M I z R B y m U c n u l j X A B c hv D S G F C hox.symm).mono λe w' T=>st T
   .rw[dp hox];by_cases Z:x.kind=2/\Be r E x.id=true
    .rw[dq Z];by_cases ho:A2 r.nms E I=0
     .exact(Rt h H i g s W E M I z R B y m U c n u l j X A B c hv D S G F C Z.1 Z.2 ho).mono λe w' T=>st T
     .exact(Qs h H i g s W E M I z R B y m U c n u l j X A B c hv D S G F C Z.1 Z.2 ho (λe=>hox e.symm)).mono λe w' T=>st T
    .rw[dp Z];have Y:x.kind=2->Be r E x.id=false:=λk=>by
      cases T:Be r E x.id
      .rfl
      .exact dt ⟨k,T⟩ Z
     have Q:x.id≠(A3 r.ins E).id:=λe=>by
      have k:x.kind=2:=by rw[<-H.byId S,e,j];exact c
      have:=Y k;rw[e,j,Pf] at this;cases this
     have hpn:np≠nq->np.blk≠nq.blk:=λhne e=>h.apart y n hne _ np.blk_mem (by rw[e];exact nq.blk_mem);by_cases ho:A2 r.nms E I=0
     .rw[dp (by simp[ho])];by_cases hk3:x.kind=2/\i≠E/\20<=A5 r (A3 r.ins E)
      .rw[dq hk3];have hne:np≠nq:=λe=>hk3.2.1 (by rw[<-l,<-j,<-m.id,<-u.id,e]);exact(Rc h H i g s W E M I z R B y m U c n u l j X A B c hv D S G F C hk3.1 (Y hk3.1) ho (hpn hne) hk3.2.2).mono λe w' T=>st T
      .rw[dp hk3];by_cases P:x.kind=2
       .by_cases J:np=nq
        .exact Tl h H i g s W E M I z R B y m U c n u l j X A B c hv D S G F C Q ho P (Y P) J
        .refine Sq h H i g s W E M I z R B y m U c n u l j X A B c hv D S G F C Q ho P (Y P) (hpn J) ?_;refine Nat.lt_of_not_le λe=>hk3 ⟨P,λe2=>J ?_,e⟩;exact Ba h.idU y n (by rw[m.id,u.id,l,j,e2])
       .by_cases J:np=nq
        .exact U8 h H i g s W E M I z R B y m U c n u l j X A B c hv D S G F C Q ho P J
        .exact Tz h H i g s W E M I z R B y m U c n u l j X A B c hv D S G F C Q ho P (hpn J)
     .rw[dq ho];obtain⟨n1,hn1,a1,a2,a3⟩:=B4 ho;obtain⟨_,o,hO,eo⟩:=H.nmI n1 hn1;have V:A2 r.nms E I=o.id:=by rw[<-a3,<-eo]
      obtain⟨no,hno,hro⟩:=h.at_ H hO;have O:o.id≠x.id:=λe=>hox (by rw[V,e]);rw[V,H.byId hO];by_cases P:x.kind=2
      .rw[decide_eq_true P];by_cases L:Fp r o true≠0
       .rw[dq L];exact(Sa h H i g s W E M I z R B y m U c n u l j X A B c hv D S G F C hO hno hro V O P (Y P) L).mono λe w' T=>st T
       .rw[dp L];by_cases J:np=nq
        .exact S2 h H i g s W E M I z R B y m U c n u l j X A B c hv D S G F C Q hO hno hro V O P (Y P) J (ao.1 L)
        .exact Tj h H i g s W E M I z R B y m U c n u l j X A B c hv D S G F C Q hO hno hro V O P (Y P) (hpn J) (ao.1 L)
      .rw[decide_eq_false P];by_cases L:Fp r o false≠0
       .rw[dq L];exact(Sb h H i g s W E M I z R B y m U c n u l j X A B c hv D S G F C hO hno hro V O P L).mono λe w' T=>st T
       .rw[dp L];by_cases J:np=nq
        .exact U2 h H i g s W E M I z R B y m U c n u l j X A B c hv D S G F C Q hO hno hro V O P J (ao.1 L)
        .exact U4 h H i g s W E M I z R B y m U c n u l j X A B c hv D S G F C Q hO hno hro V O P (hpn J) (ao.1 L)
theorem Z2w {r:RFs}{d:Int}{t:ByteArray}:∀y∈(Au r d t).ins,y∈r.ins:=by
 intro y a;unfold Au at a;split at a
 .exact(af.1 a).1
 .exact a
theorem Yi {r rd:RFs}{K:Nat}{f:Int}(j:Wf r K)(c:Wf rd K)(i:∀y∈rd.ins,y∈r.ins){id:Int}(l:Under rd f id):∀y∈rd.ins,y.id=id->y.kind=2->Under r f id:=by
 induction l with
 | refl=>exact λ_ _ _ _=>Under.refl
 | step h1 _ ih =>
  intro y g e k;subst e;rw[c.byId g] at ih;obtain⟨p,h,a,b⟩:=c.par y g k;have:=ih p h a b;refine Under.step h1 ?_;rw[j.byId (i y g)];exact this
theorem Z0 {r:RFs}{K:Nat}(f:Wf r K)(h g:Int × Int)(s t:ByteArray):Wf (D5 r h s g t).1 K:=by
 unfold D5;by_cases Q:Di r h s g t≠0
 .rw[dq Q];exact f
 .rw[dp Q];obtain⟨X,H,W,l,hv,D⟩:=N5 (ao.1 Q);obtain⟨hp,M,_⟩:=Ac X;obtain⟨R,G,_⟩:=Ac H;by_cases L:A2 r.nms h.1 s=0
  .rw[dq L];exact f
  .rw[dp L];obtain⟨Z,n,F,V,y⟩:=B4 L;obtain⟨hx1,x,U,ex⟩:=f.nmI Z n;have A:A2 r.nms h.1 s=x.id:=by rw[<-y,<-ex]
   have T:A3 r.ins x.id=x:=f.byId U;rw[A,T];by_cases i:x.id=A2 r.nms g.1 t
   .rw[dq i];exact f
   .rw[dp i];by_cases m:x.kind=2/\Be r g.1 x.id=true
    .rw[dq m];exact f
    .rw[dp m];have w:x.kind=2->¬Under r x.id g.1:=λk S=>m ⟨k,by unfold Be;exact @decide_eq_true _ (Classical.propDecidable _) S⟩;generalize hpp:A3 r.ins h.1=p at *;generalize hqq:A3 r.ins g.1=q at *;rw[<-M] at F⊢;rw[A] at y;rw[<-G] at w i⊢;by_cases E:A2 r.nms q.id t=0
     .rw[dp (by simp[E])];by_cases v:x.kind=2/\p.id≠q.id/\20<=A5 r q
      .rw[dq v];exact f
      .rw[dp v];exact V5 f U R l n F V y D E w (λa b=>Nat.lt_of_not_le λc=>v ⟨a,b,c⟩)
     .rw[dq E];obtain⟨Y,N,a1,a2,a3⟩:=B4 E;obtain⟨_,o,I,eo⟩:=f.nmI Y N;have j:A2 r.nms q.id t=o.id:=by rw[<-a3,<-eo]
      rw[j,f.byId I];split
      .exact f
      .rename_i u
       have u:=ao.1 u;have B:=Ju u;obtain⟨C,J,hpd,z,O,P⟩:=Jc f U hp W R I j (λe=>i (by rw[j,e])) B.2 n F y;refine V5 C J z l O F V y D (by rw[<-Rn,P];rfl) (λa S=>w a (Yi f C Z2w S q z rfl l)) (λa _=>Xw f R l I (B.1.2 (by simp[a])) j)
theorem Ls {r:RFs}{h:Int × Int}{s:ByteArray}(b:B2 r h s false=0):Ab r h=0/\Ae s=true:=by
 unfold B2 at b;split at b
 .rename_i a;exact dt b a
 .rename_i a
  refine⟨ao.1 a,?_⟩;rw[dp (by simp)] at b;split at b
  .assumption
  .cases b
theorem Z7w {r:RFs}{K:Nat}(g:Wf r K)(h d:Int × Int)(s:ByteArray):Wf (E7 r h d s).1 (K+1):=by
 have f:=g.up (Nat.le_succ K);unfold E7;split
 .exact f
 .rename_i a
  split
  .exact f
  .rename_i b
   split
   .exact f
   .rename_i c
    split
    .exact f
    .rename_i e
     split
     .exact f
     .rename_i q
      obtain⟨n,k⟩:=Ls (ao.1 b);obtain⟨l,j⟩:=Bn n;obtain⟨u,i,_⟩:=Ac l;obtain⟨m,v,_⟩:=Ac (by simpa using a:Aj r h=true);have:=Z37 g u j m c k (by rw[i];exact ao.1 e) (by omega);rw[i,v] at this;exact this
theorem Z2l {r:RFs}{K:Nat}(a:Wf r K)(h:Int × Int)(s:ByteArray)(fo:Bool):Wf (C4 r h s fo).1 K:=by
 unfold C4;split
 .exact a
 .rename_i b
  split
  .exact a
  .rename_i e
   split
   .exact a
   .rename_i c
    obtain⟨g,_⟩:=Ls (ao.1 b);obtain⟨i,j⟩:=Bn g;obtain⟨k,f,_⟩:=Ac i;have:=Yv (d:=A3 r.ins h.1) (s:=s) a (by rw[f];exact e) (by rw[f];exact(Ju (ao.1 c)).2);rw[f] at this;exact this
theorem S4 {r:RFs}{K:Nat}(j:Wf r K)(h:Int × Int)(s:ByteArray)(m:RMk):Wf (Db r h s m).1 (K+1):=by
 have f:=j.up (Nat.le_succ K);unfold Db;split
 .exact f
 .rename_i a
  split
  .exact f
  .rename_i b
   split
   .exact f
   .rename_i c
    split
    .exact f
    .rename_i d
     split
     .exact f
     .rename_i e
      obtain⟨l,n⟩:=Ls (ao.1 a);obtain⟨u,k⟩:=Bn l;obtain⟨v,i,_⟩:=Ac u;have:=Z8m (g:=h.2) j v k n (by simpa using b) (by rw[i];exact ao.1 c) (λq=>by omega) (by omega);rw[i] at this;exact this
theorem Qa {r:RFs}{h:Int × Int}(c:B7 r h=0):A3 r.ins h.1∈r.ins/\(A3 r.ins h.1).kind=1:=by
 unfold B7 at c;split at c
 .rename_i a
  split at c
  .rename_i b
   exact⟨(Ac a).1,b⟩
  .split at c<;>cases c
 .cases c
theorem Z2x {w:World}{f l k K:Nat}{r:RFs}{N:List Nd}(h:FsN w f l k r N)(c:Wf r K)(hd:Int × Int)(a:Int)(b:List UInt8)(t:Int):Wf (Bz r hd a b t).1 K:=by
 unfold Bz;split
 .exact c
 .rename_i a1
  split
  .exact c
  .split
   .exact c
   .rename_i a3
    obtain⟨j,i⟩:=Qa (ao.1 a1);obtain⟨n,z,hr⟩:=h.at_ c j;obtain⟨sz,bl,_,g⟩:=hr.file i;refine Z05 c j i _ _ _ ?_;have v:=Er (Nc g a b);have u:=Er g;have A:=Qt g a b.length;have y:=Ws (bl:=bl) a b;have m:¬K4 r < (Gt (A3 r.ins hd.1).On a b.length:Int):=λe=>a3 (.inl e);unfold K4 at m;omega
theorem Zcw {r:RFs}{K:Nat}(a:Wf r K)(hd:Int × Int)(n t:Int):Wf (Fk r hd n t).1 K:=by
 unfold Fk;split
 .exact a
 .rename_i a1
  split
  .exact a
  .split
   .exact a
   .obtain⟨c,b⟩:=Qa (ao.1 a1);refine Z05 a c b _ _ _ ?_;have f:(Un (A3 r.ins hd.1).B (A3 r.ins hd.1).On n).length<=(A3 r.ins hd.1).On.length:=by
     unfold Un;split
     .exact ah _ _
     .exact av _
    have e:=a.sp;unfold Dn;omega
end Go.Proofs.YtmmdikhljefeiaaGreat
