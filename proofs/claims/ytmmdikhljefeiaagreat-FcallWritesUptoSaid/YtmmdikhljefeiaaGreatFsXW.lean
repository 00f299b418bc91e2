
import Derived.Test.YtmmdikhljefeiaaGreatOP
import Derived.Test.YtmmdikhljefeiaaGreatLaM
import Derived.Test.YtmmdikhljefeiaaGreatYFsR
import Derived.Test.YtmmdikhljefeiaaGreatWA
import Derived.Test.YtmmdikhljefeiaaGreatYFsS
import Derived.LaidEqlPtr
namespace Go.Proofs.YtmmdikhljefeiaaGreat
open Go.RowKit Go.MapKept
section
variable {r:RFs} {K:Nat} {x d:RIn}
theorem Wf.up {a:Nat}(h:Wf r K)(c:K<=a):Wf r a :=
 {h with genK:=λg b=>by have:=h.genK g b;omega,nmK:=by have:=h.nmK;omega}
theorem D1 {room:Int}{y:RIn}(h:y∈(Hv room).ins):y=⟨1,1,2,493,0,1,J8,[],[]⟩:=by unfold Hv at h;simpa using h
theorem Uv {room:Int}(hr:room<=9223372036854775807):Wf (Hv room) 0 where
 ids:=by unfold Hv;simp
 rng:=λy a=>by rw[D1 a];decide
 gen:=λy a=>by rw[D1 a];exact⟨rfl,by decide⟩
 genK:=λg e=>by unfold Hv at e;simp at e;omega
 genL:=by unfold Hv;simp
 kind:=λy a=>by rw[D1 a];decide
 root:=⟨_,by unfold Hv;exact bw.2 rfl,rfl,rfl,rfl,rfl⟩
 nmD:=λn b=>by unfold Hv at b;simp at b
 nmI:=λn b=>by unfold Hv at b;simp at b
 nmV:=λn b=>by unfold Hv at b;simp at b
 uniq:=by unfold Hv;simp
 one:=λy a _ c=>by rw[D1 a] at c;exact dq rfl c
 some:=λy a c=>by rw[D1 a] at c;exact dq rfl c
 par:=λy a _=>⟨y,a,by rw[D1 a],by rw[D1 a]⟩
 tree:=⟨λ_=>0,λy a _ c=>by rw[D1 a] at c;exact dq rfl c⟩
 nmK:=by unfold Hv;simp
 lim:=λy a=>by rw[D1 a];unfold A4 Hv;simp
 file:=λy a _=>by rw[D1 a];exact⟨rfl,rfl⟩
 link:=λy a _=>by rw[D1 a]
 rm:=by unfold Hv;dsimp only;omega
 sp:=by unfold Hv;simp;omega
theorem Kk {r:RFs}{x y:RIn}:y∈(M4 r x).ins↔y∈r.ins/\y.id≠x.id\/y=x:=by unfold M4;simp
theorem Wx {α:Type}(g:α->Nat)(p:α->Bool)(l:List α):((l.filter p).map g).sum<=(l.map g).sum:=by
 induction l with
 | nil=>simp
 | cons a l ih =>
  rw[List.filter_cons];split<;>simp<;>omega
theorem U6 {l:List RIn}(b:(l.map (·.id)).Nodup)(a:x∈l)(g:RIn->Nat):((l.filter λy=>decide (y.id≠x.id)).map g).sum+g x=(l.map g).sum:=by
 induction l with
 | nil=>simp at a
 | cons y l ih =>
  simp only[List.map_cons,List.nodup_cons] at b;rw[List.filter_cons];rcases bo.1 a with rfl | a
  .have h:(l.filter λy=>decide (y.id≠x.id))=l:=by
    rw[List.filter_eq_self];intro z f;simp only[decide_eq_true_eq];exact λe=>b.1 (by rw[<-e];exact bi.2 ⟨z,f,rfl⟩)
   rw[dn (by simp),h];simp;omega
  .have c:y.id≠x.id:=λe=>b.1 (by rw[e];exact bi.2 ⟨x,a,rfl⟩);rw[dp (by simpa using c)];have:=ih b.2 a;simp only[List.map_cons,List.sum_cons];omega
theorem Tu (h:Wf r K)(x:RIn):((M4 r x).ins.map (·.id)).Nodup:=by unfold M4;dsimp only;rw[az,List.nodup_append];refine⟨(h.ids.sublist (List.filter_sublist.map _)),by simp,?_⟩;intro a ha b c;obtain⟨y,e,rfl⟩:=bi.1 ha;simp at c;have:=(af.1 e).2;simp at this;rw[c];exact this
theorem Yx (h:Wf r K)(A:x∈r.ins)(L:x.kind=1)(B:List UInt8)(On:List Nat)(t:Int)(O:(Fr r:Int)+On.length<=r.room+x.On.length):Wf (M4 r (Hg x B On t)) K:=by
 have I:=Jq h A (x':=Hg x B On t) rfl rfl;have k:∀y,y∈(M4 r (Hg x B On t)).ins->∃z∈r.ins,z.id=y.id/\z.gen=y.gen/\z.kind=y.kind/\z.parent=y.parent/\z.target=y.target/\(y.kind≠1->z.B=y.B/\z.On=y.On):=λy b=>by
  rcases Kk.1 b with⟨P,_⟩ | rfl
  .exact⟨y,P,rfl,rfl,rfl,rfl,rfl,λ_=>⟨rfl,rfl⟩⟩
  .exact⟨x,A,rfl,rfl,rfl,rfl,rfl,λe=>dq L e⟩
 have m:∀z∈r.ins,∃y∈(M4 r (Hg x B On t)).ins,z.id=y.id/\z.gen=y.gen/\z.kind=y.kind/\z.parent=y.parent:=λz a=>by
  by_cases e:z.id=x.id
  .have:z=x:=by rw[<-h.byId a,e,h.byId A]
   subst this;exact⟨_,Kk.2 (.inr rfl),rfl,rfl,rfl,rfl⟩
  .exact⟨z,Kk.2 (.inl ⟨a,e⟩),rfl,rfl,rfl,rfl⟩
 refine {ids:=Tu h _,rng:=λy b=>?_,gen:=λy b=>?_,genK:=h.genK,genL:=h.genL,kind:=λy b=>?_,root:=?_,nmD:=λn G=>?_,nmI:=λn G=>?_,nmV:=h.nmV,uniq:=h.uniq,one:=λy b E F=>?_,some:=λy b q=>?_,par:=λy b q=>?_,tree:=?_,nmK:=h.nmK,lim:=λy b=>?_,file:=λy b q=>?_,link:=λy b q=>?_,rm:=h.rm,sp:=?_}
 .obtain⟨z,a,c,g,f,i,l,j⟩:=k y b;rw[<-c];exact h.rng z a
 .obtain⟨z,a,c,g,f,i,l,j⟩:=k y b;rw[<-c,<-g];exact h.gen z a
 .obtain⟨z,a,c,g,f,i,l,j⟩:=k y b;rw[<-f];exact h.kind z a
 .obtain⟨z,a,c,g,f,i⟩:=h.root;obtain⟨y,b,u,C,v,w⟩:=m z a;exact⟨y,b,u ▸ c,C ▸ g,v ▸ f,w ▸ i⟩
 .obtain⟨z,a,c,g⟩:=h.nmD n G;obtain⟨y,b,u,C,v,w⟩:=m z a;exact⟨y,b,u ▸ c,v ▸ g⟩
 .obtain⟨M,z,a,c⟩:=h.nmI n G;obtain⟨y,b,u,C,v,w⟩:=m z a;exact⟨M,y,b,u ▸ c⟩
 .obtain⟨z,a,c,g,f,i,l,j⟩:=k y b;have:=h.one z a (f.trans E) (λe=>F (c ▸ e));rw[c,i] at this;exact this
 .obtain⟨z,a,c,g,f,i,l,j⟩:=k y b;have:=h.some z a (λe=>q (f ▸ e));rw[c] at this;exact this
 .obtain⟨z,a,c,g,f,i,l,j⟩:=k y b;obtain⟨p,H,N,J⟩:=h.par z a (f.trans q);obtain⟨Q,D,u,C,v,w⟩:=m p H;exact⟨Q,D,by rw[<-u,N,i],v ▸ J⟩
 .obtain⟨ρ,hρ⟩:=h.tree;refine⟨ρ,λy b E F=>?_⟩;obtain⟨z,a,c,g,f,i,l,j⟩:=k y b;rw[<-i,<-c];exact hρ z a (f.trans E) (λe=>F (c ▸ e))
 .rw[I];obtain⟨z,a,c,g,f,i,l,j⟩:=k y b;rw[Do (r:=r) (r':=r) (x:=z) (x':=y) c.symm f.symm rfl (λ_ _=>Iff.rfl)];exact h.lim z a
 .obtain⟨z,a,c,g,f,i,l,j⟩:=k y b;rw[<-(j q).1,<-(j q).2];exact h.file z a (λe=>q (f ▸ e))
 .obtain⟨z,a,c,g,f,i,l,j⟩:=k y b;rw[<-l];exact h.link z a (λe=>q (f ▸ e))
 .have:=U6 h.ids A (λy=>y.On.length);unfold Fr at O;unfold M4 Hg;dsimp only;rw[az,List.sum_append];simp only[List.map_cons,List.map_nil,List.sum_cons,List.sum_nil];omega
theorem Di {l:List RNm}{dir:Int}{s:ByteArray}{K:Nat}{r:RFs}(h:Wf r K)(f:∀n∈l,n∈r.nms)(a:A5 l dir s=0):∀n∈l,¬(n.dir=dir/\n.name=s):=by
 intro n b e;unfold A5 at a;cases hf:l.find? λn=>decide (n.dir=dir/\n.name=s) with
 | none =>
  have:=List.find?_eq_none.1 hf n b;simp at this;exact this e.1 e.2
 | some m =>
  rw[hf] at a;have c:=List.mem_of_find?_eq_some hf;obtain⟨_,y,g,i⟩:=h.nmI m (f m c);have:=h.rng y g;simp at a;omega
theorem O9 {l:List RNm}(f:l.Pairwise λa b=>¬(a.dir=b.dir/\a.name=b.name)){m:RNm}(e:∀n∈l,¬(n.dir=m.dir/\n.name=m.name)):(l++[m]).Pairwise λa b=>¬(a.dir=b.dir/\a.name=b.name):=by rw[List.pairwise_append];refine⟨f,by simp,λa ha b c=>?_⟩;simp at c;subst c;exact e a ha
theorem Z3c (h:Wf r K)(hd:d∈r.ins)(B:d.kind=2)(i:x∈r.ins)(c:x.kind≠2){s:ByteArray}(C:Aj s=true)(w:A5 r.nms d.id s=0)(E:A4 r x < 20):Wf (B5 r d.id s x.id) (K+1):=by
 have m:x.id≠1:=λe=>by obtain⟨z,u,A,G,D,F⟩:=h.root;have a:=h.byId i;rw[e,<-A,h.byId u] at a;rw[<-a] at c;exact c D
 have k:∀n,n∈(B5 r d.id s x.id).nms↔n∈r.nms\/n=⟨d.id,s,x.id⟩:=λn=>by unfold B5;simp
 have j:=Dp r d.id s x.id;rw[h.byId i] at j;refine {h.up (Nat.le_succ K) with nmD:=λn b=>?_,nmI:=λn b=>?_,nmV:=λn b=>?_,uniq:=?_,one:=λy g l v=>?_,some:=λy g q=>?_,nmK:=?_,lim:=λy g=>?_}
 .rcases(k n).1 b with f | rfl
  .exact h.nmD n f
  .exact⟨d,hd,rfl,B⟩
 .rcases(k n).1 b with f | rfl
  .exact h.nmI n f
  .exact⟨m,x,i,rfl⟩
 .rcases(k n).1 b with f | rfl
  .exact h.nmV n f
  .exact C
 .exact O9 h.uniq (Di h (λ_ b=>b) w)
 .unfold B5;dsimp only;rw[List.filter_append,az,h.one y g l v];have:¬x.id=y.id:=λe=>by
   have a:=h.byId i;rw[e,h.byId g] at a;rw[a] at l;exact c l
  simp[this]
 .obtain⟨n,b,e⟩:=h.some y g q;exact⟨n,(k n).2 (.inl b),e⟩
 .unfold B5;have:=h.nmK;simp;omega
 .rw[j];have f:=h.lim y g;by_cases q:y.kind=2
  .rw[dp q,dn (λe=>c e.2)];exact f
  .rw[dn q];by_cases e:x.id=y.id
   .have:x=y:=by rw[<-h.byId i,e,h.byId g]
    subst this;rw[dp rfl];omega
   .rw[dn e];exact f
theorem Wf.uniq_eq (h:Wf r K){n m:RNm}(v:n∈r.nms)(w:m∈r.nms)(u:n.dir=m.dir)(l:n.name=m.name):n=m:=by
 obtain⟨a,ha,e⟩:=List.getElem_of_mem v;obtain⟨b,k,c⟩:=List.getElem_of_mem w;have j:=List.pairwise_iff_getElem.1 h.uniq;rcases Nat.lt_trichotomy a b with f | g | i
 .exact dq ⟨by rw[e,c];exact u,by rw[e,c];exact l⟩ (j a b ha k f)
 .subst g;exact e.symm.trans c
 .exact dq ⟨by rw[e,c];exact u.symm,by rw[e,c];exact l.symm⟩ (j b a k ha i)
theorem Zh (h:Wf r K){s:ByteArray}(he:A5 r.nms d.id s≠0)(hm:(A3 r.ins (A5 r.nms d.id s)).kind=2->H8 r.nms (A3 r.ins (A5 r.nms d.id s)).id=0):Wf (Bx r d.id s) K:=by
 obtain⟨n0,l,T,R,e3⟩:=B9 he;obtain⟨D,x,W,I⟩:=h.nmI n0 l;have hid:A5 r.nms d.id s=x.id:=by rw[<-e3,<-I]
 have w:A3 r.ins x.id=x:=h.byId W;rw[hid,w] at hm;have O:=Dj h l;rw[T,R] at O;have i:∀n∈(Aa r d.id s).nms,n∈r.nms/\¬(n.dir=d.id/\n.name=s):=λn c=>by have:=af.1 c;refine⟨this.1,?_⟩;have U:=this.2;rw[Bool.not_eq_true',decide_eq_false_iff_not] at U;exact U
 have m:∀n∈r.nms,n.id≠x.id->n∈(Aa r d.id s).nms:=λn c q=>by refine af.2 ⟨c,?_⟩;rw[Bool.not_eq_true',decide_eq_false_iff_not];intro e;have:=h.uniq_eq c l (e.1.trans T.symm) (e.2.trans R.symm);rw[this] at q;exact q I.symm
 have E:∀y∈r.ins,y.id=x.id->y=x:=λy f e=>by rw[<-h.byId f,e,w]
 have B:∀y:RIn,y.id≠x.id->(Aa r d.id s).nms.filter (λn=>decide (n.id=y.id))=r.nms.filter (λn=>decide (n.id=y.id)):=λy f=>by
  unfold Aa;dsimp only;rw[List.filter_filter];apply List.filter_congr;intro n c;by_cases q:n.id=y.id
  .have:=(af.1 (m n c (λe=>f (q.symm.trans e)))).2;simp only[q,decide_true,Bool.true_and];exact this
  .simp[q]
 have C:(Aa r d.id s).nms.length<=r.nms.length:=ah _ _;have P:∀y,A4 (Aa r d.id s) y<=A4 r y:=λy=>by have:=O y;omega
 by_cases Q:x.kind=2\/A4 (Aa r d.id s) x=0
 .rw[show Bx r d.id s=Kq (Aa r d.id s) x.id by unfold Bx;rw[hid,w,dp Q]];have M:∀n∈(Aa r d.id s).nms,n.id≠x.id:=λn c e=>by
   obtain⟨a,b⟩:=i n c;rcases Q with q | q
   .have:=h.one_name W q (by rw[I];exact D) a l e I.symm;exact b ⟨this.1.trans T,this.2.trans R⟩
   .by_cases J:x.kind=2
    .have:=h.one_name W J (by rw[I];exact D) a l e I.symm;exact b ⟨this.1.trans T,this.2.trans R⟩
    .unfold A4 at q;rw[dn J] at q;rw[List.countP_eq_zero] at q;have:=q n c;simp[e] at this
  have Z:∀n∈r.nms,x.kind=2->n.dir≠x.id:=λn c q e=>by have:=hm q;unfold H8 at this;rw[List.countP_eq_zero] at this;have:=this n c;simp[e] at this
  have X:∀y,A4 (Kq (Aa r d.id s) x.id) y=A4 (Aa r d.id s) y:=Kr λn c V=>dq V (M n c);have g:∀y,y∈(Kq (Aa r d.id s) x.id).ins↔y∈r.ins/\y.id≠x.id:=λy=>by unfold Kq Aa;simp
  have A:∀p∈r.ins,p.kind=2->(∃n∈r.nms,n.dir=p.id)->p.id≠x.id:=λp u q ⟨n,c,e⟩ Y=>by have:=E p u Y;subst this;exact Z n c q e
  have L:∀z∈r.ins,z.id=1->z.id≠x.id:=λz _ e Y=>D (by rw[<-I,<-Y,e]);refine {ids:=h.ids.sublist (List.filter_sublist.map _),rng:=λy f=>h.rng y ((g y).1 f).1,gen:=λy f=>h.gen y ((g y).1 f).1,genK:=h.genK,genL:=h.genL,kind:=λy f=>h.kind y ((g y).1 f).1,root:=?_,nmD:=λn c=>?_,nmI:=λn c=>?_,nmV:=λn c=>h.nmV n (i n c).1,uniq:=h.uniq.filter _,one:=λy f G J=>?_,some:=λy f q=>?_,par:=λy f q=>?_,tree:=?_,nmK:=cm C h.nmK,lim:=λy f=>?_,file:=λy f=>h.file y ((g y).1 f).1,link:=λy f=>h.link y ((g y).1 f).1,rm:=h.rm,sp:=?_}
  .obtain⟨z,S,k,H,a3,a4⟩:=h.root;exact⟨z,(g z).2 ⟨S,L z S k⟩,k,H,a3,a4⟩
  .obtain⟨p,u,k,H⟩:=h.nmD n (i n c).1;exact⟨p,(g p).2 ⟨u,A p u H ⟨n,(i n c).1,k.symm⟩⟩,k,H⟩
  .obtain⟨a0,p,u,k⟩:=h.nmI n (i n c).1;exact⟨a0,p,(g p).2 ⟨u,by rw[k];exact M n c⟩,k⟩
  .obtain⟨j,v⟩:=(g y).1 f;show((Aa r d.id s).nms.filter λn=>decide (n.id=y.id)).map (·.dir)=_;rw[B y v];exact h.one y j G J
  .obtain⟨j,v⟩:=(g y).1 f;obtain⟨n,c,e⟩:=h.some y j q;exact⟨n,m n c (by rw[e];exact v),e⟩
  .obtain⟨j,v⟩:=(g y).1 f;obtain⟨p,u,k,H⟩:=h.par y j q;refine⟨p,(g p).2 ⟨u,?_⟩,k,H⟩;by_cases G:y.id=1
   .obtain⟨z,S,b1,b2,b3,b4⟩:=h.root;have:y=z:=by rw[<-h.byId j,G,<-b1,h.byId S]
    subst this;exact L p u (by rw[k,b4])
   .have ho:=h.one y j q G;have:y.parent∈(r.nms.filter λn=>decide (n.id=y.id)).map (·.dir):=by rw[ho];simp
    obtain⟨n,c,e⟩:=bi.1 this;exact A p u H ⟨n,(af.1 c).1,e.trans k.symm⟩
  .obtain⟨ρ,hρ⟩:=h.tree;exact⟨ρ,λy f=>hρ y ((g y).1 f).1⟩
  .rw[X];exact cm (P y) (h.lim y ((g y).1 f).1)
  .have:=Wx (λy:RIn=>y.On.length) (λy=>decide (y.id≠x.id)) r.ins;have U:=h.sp;show(((((r.ins.filter λy=>decide (y.id≠x.id)).map λy=>y.On.length).sum:Nat)):Int)<=r.room;omega
 .rw[show Bx r d.id s=Aa r d.id s by unfold Bx;rw[hid,w,dn Q]];have N:x.kind≠2:=λe=>Q (.inl e);have F:A4 (Aa r d.id s) x≠0:=λe=>Q (.inr e);refine {h with nmD:=λn c=>h.nmD n (i n c).1,nmI:=λn c=>h.nmI n (i n c).1,nmV:=λn c=>h.nmV n (i n c).1,uniq:=h.uniq.filter _,one:=λy f G J=>?_,some:=λy f q=>?_,nmK:=cm C h.nmK,lim:=λy f=>cm (P y) (h.lim y f)}
  .have hyx:y.id≠x.id:=λe=>N (by rw[<-E y f e];exact G);rw[B y hyx];exact h.one y f G J
  .by_cases e:y.id=x.id
   .have:=E y f e;subst this;unfold A4 at F;rw[dn N] at F;have:=List.countP_pos_iff.1 (Nat.pos_of_ne_zero F);obtain⟨n,c,q3⟩:=this;exact⟨n,c,by simpa using q3⟩
   .obtain⟨n,c,e4⟩:=h.some y f q;exact⟨n,m n c (by rw[e4];exact e),e4⟩
end
section
variable {r:RFs} {K:Nat} {x d:RIn}
theorem Z3u (h:Wf r K)(u:r.ins.length < 200):1<=E2 r.ins/\E2 r.ins<=200/\∀y∈r.ins,y.id≠E2 r.ins:=by
 have f:∃j:Nat,j < 201/\(A3 r.ins ((j:Int)+1)).id=0:=cf λm=>by have:=Pj h (j:=201) (λk a e=>m ⟨k,a,e⟩);omega
 have b:∃j:Nat,(j < 201/\(A3 r.ins ((j:Int)+1)).id=0)/\∀k,k < j->(A3 r.ins ((k:Int)+1)).id≠0:=by
  obtain⟨j,g⟩:=f
  induction j using Nat.strongRecOn with
  | ind j ih =>
   by_cases q:∃k,k < j/\(A3 r.ins ((k:Int)+1)).id=0
   .obtain⟨k,a,e⟩:=q;exact ih k a ⟨by omega,e⟩
   .exact⟨j,g,λk a e=>q ⟨k,a,e⟩⟩
 obtain⟨j,⟨g,c⟩,i⟩:=b;have n:=Pj h i;rw[Kh g c i];refine⟨by omega,by omega,λy l e=>?_⟩;have:=h.byId l;rw[e] at this;rw[this] at c;exact h.ne0 l c
theorem Zd0 {s:ByteArray}(h:s.size=0):s=J8:=by obtain⟨a⟩:=s;have:a=#[]:=Array.eq_empty_of_size_eq_zero h;rw[this];rfl
theorem Z8l (h:Wf r K)(hd:d∈r.ins)(L:d.kind=2){s:ByteArray}{m:RMk}{g:Int}(Y:Aj s=true)(hr:Fl m=true)(W:A5 r.nms d.id s=0)(S:m.kind=2->A4 r d < 20)(V:r.ins.length < 200) :
  Wf (B5 (Ky r (J2 r (d.id,g) m)) d.id s (E2 r.ins)) (K+1):=by
 obtain⟨O,P,f3⟩:=Z3u h V;unfold Fl at hr;obtain⟨r1,r2,r3,r4,r5,r6,Z,T⟩:=of_decide_eq_true hr;obtain⟨x,u⟩:∃x,J2 r (d.id,g) m=x:=⟨_,rfl⟩;have H:x.id=E2 r.ins:=by rw[<-u];rfl
 have Q:x.gen=B0 r.gens x.id+1:=by rw[H,<-u];rfl
 have N:x.kind=m.kind:=by rw[<-u];rfl
 have G:x.parent=d.id:=by rw[<-u];rfl
 have J:x.B=[]/\x.On=[]:=by rw[<-u];exact⟨rfl,rfl⟩
 have U:x.target=m.target:=by rw[<-u];rfl
 rw[u,<-H];rw[<-H] at O P f3;clear u;have E:x.id≠1:=λe=>by obtain⟨z,C,a,_⟩:=h.root;exact f3 z C (a.trans e.symm)
 have k:∀y,y∈(B5 (Ky r x) d.id s x.id).ins↔y∈r.ins\/y=x:=λy=>by unfold B5 Ky;simp
 have l:∀n,n∈(B5 (Ky r x) d.id s x.id).nms↔n∈r.nms\/n=⟨d.id,s,x.id⟩:=λn=>by unfold B5 Ky;simp
 have A:∀j,B0 (B5 (Ky r x) d.id s x.id).gens j=if j=x.id then B0 r.gens x.id+1 else B0 r.gens j:=Iv r.gens (by omega);have w:∀n∈r.nms,n.id≠x.id:=λn l e=>by obtain⟨_,z,C,a⟩:=h.nmI n l;exact f3 z C (a.trans e)
 have R:=Ol h x.id;refine {ids:=?_,rng:=λy f=>?_,gen:=λy f=>?_,genK:=λg A=>?_,genL:=?_,kind:=λy f=>?_,root:=?_,nmD:=λn i=>?_,nmI:=λn i=>?_,nmV:=λn i=>?_,uniq:=?_,one:=λy f D I=>?_,some:=λy f q=>?_,par:=λy f q=>?_,tree:=?_,nmK:=?_,lim:=λy f=>?_,file:=λy f q=>?_,link:=λy f q=>?_,rm:=h.rm,sp:=?_}
 .unfold B5 Ky;dsimp only;rw[az,List.nodup_append];refine⟨h.ids,by simp,λa ha b M=>?_⟩;obtain⟨y,f,rfl⟩:=bi.1 ha;simp at M;rw[M];exact f3 y f
 .rcases(k y).1 f with c | rfl
  .exact h.rng y c
  .exact⟨O,P⟩
 .rw[A];rcases(k y).1 f with c | rfl
  .rw[dn (f3 y c)];exact h.gen y c
  .rw[dp rfl];exact⟨Q,by omega⟩
 .have A:g∈Cw r.gens x.id:=A;unfold Cw at A;rcases cw A with c | c
  .rcases bz.1 c with F | F
   .have:=h.genK g F;omega
   .have:=(List.mem_replicate.1 F).2;omega
  .omega
 .show(Cw r.gens x.id).length<=201;unfold Cw;have:=h.genL;simp;omega
 .rcases(k y).1 f with c | rfl
  .exact h.kind y c
  .omega
 .obtain⟨z,C,a⟩:=h.root;exact⟨z,(k z).2 (.inl C),a⟩
 .rcases(l n).1 i with c | rfl
  .obtain⟨p,v,a⟩:=h.nmD n c;exact⟨p,(k p).2 (.inl v),a⟩
  .exact⟨d,(k d).2 (.inl hd),rfl,L⟩
 .rcases(l n).1 i with c | rfl
  .obtain⟨X,p,v,a⟩:=h.nmI n c;exact⟨X,p,(k p).2 (.inl v),a⟩
  .exact⟨E,x,(k x).2 (.inr rfl),rfl⟩
 .rcases(l n).1 i with c | rfl
  .exact h.nmV n c
  .exact Y
 .exact O9 h.uniq (Di h (λ_ l=>l) W)
 .show((r.nms++[(⟨d.id,s,x.id⟩:RNm)]).filter λn:RNm=>decide (n.id=y.id)).map (λn:RNm=>n.dir)=_;rw[List.filter_append,az];rcases(k y).1 f with c | rfl
  .rw[h.one y c D I];have:¬x.id=y.id:=λe=>f3 y c e.symm;simp[this]
  .rw[List.filter_eq_nil_iff.2 (λn i=>by simpa using w n i)];simp[G]
 .rcases(k y).1 f with c | rfl
  .obtain⟨n,i,e⟩:=h.some y c q;exact⟨n,(l n).2 (.inl i),e⟩
  .exact⟨_,(l _).2 (.inr rfl),rfl⟩
 .rcases(k y).1 f with c | rfl
  .obtain⟨p,v,a⟩:=h.par y c q;exact⟨p,(k p).2 (.inl v),a⟩
  .exact⟨d,(k d).2 (.inl hd),G.symm,L⟩
 .obtain⟨ρ,hρ⟩:=h.tree;refine⟨λj=>if j=x.id then ρ d.id+1 else ρ j,λy f D I=>?_⟩;dsimp only;rcases(k y).1 f with c | rfl
  .obtain⟨p,v,a,_⟩:=h.par y c D;rw[dn (f3 y c),<-a,dn (f3 p v),a];exact hρ y c D I
  .rw[dp rfl,G,dn (f3 d hd)];omega
 .have:=h.nmK;show(r.nms++[_]).length<=_;simp;omega
 .rcases(k y).1 f with c | rfl
  .rw[Ly h f3 s c];have:=h.lim y c;split
   .rename_i q
    have e:d=y:=by rw[<-h.byId hd,q.2.1,h.byId c]
    have:=S (N.symm.trans q.2.2);rw[e] at this;omega
   .omega
  .rw[Gy h f3 hd s];split<;>omega
 .rcases(k y).1 f with c | rfl
  .exact h.file y c q
  .exact J
 .rcases(k y).1 f with c | rfl
  .exact h.link y c q
  .rw[U];exact Zd0 (T (λe=>q (N.trans e)))
 .have:=h.sp;show((((r.ins++[x]).map λy=>y.On.length).sum:Nat):Int)<=r.room;rw[az,List.sum_append];simp[J.2];exact this
end
def upP (x:RIn)(q:Int):RIn:={x with parent:=q}
def Aq (r:RFs)(p:Int)(s:ByteArray)(q:Int)(t:ByteArray)(x:RIn):RFs :=
 if x.kind=2 then M4 (B5 (Aa r p s) q t x.id) (upP x q) else B5 (Aa r p s) q t x.id
section
variable {r:RFs} {K:Nat} {x p q:RIn} {s t:ByteArray}
theorem Cg (r:RFs)(p:Int)(s:ByteArray)(q:Int)(t:ByteArray)(x:RIn):(Aq r p s q t x).nms=(r.nms.filter λn=>!decide (n.dir=p/\n.name=s))++[⟨q,t,x.id⟩]:=by unfold Aq;split<;>rfl
theorem Ps (r:RFs)(x:RIn)(p:Int)(s:ByteArray)(q:Int)(t:ByteArray)(y:RIn):y∈(Aq r p s q t x).ins↔y∈r.ins/\(x.kind=2->y.id≠x.id)\/x.kind=2/\y=upP x q:=by
 unfold Aq;by_cases a:x.kind=2
 .rw[dp a,Kk];simp only[a,true_and,forall_const];exact Iff.rfl
 .rw[dn a];simp[a,B5,Aa]
theorem Vh (r:RFs)(p:Int)(s:ByteArray)(q:Int)(t:ByteArray)(b:A3 r.ins x.id=x)(j:Int):(A3 (Aq r p s q t x).ins j).kind=(A3 r.ins j).kind:=by
 unfold Aq;by_cases a:x.kind=2
 .rw[dp a,Ph];show(if j=x.id then _ else _:RIn).kind=_;by_cases e:j=x.id
  .rw[dp e,e,b];rfl
  .rw[dn e];rfl
 .rw[dn a];rfl
theorem Bw (h:Wf r K)(c:x∈r.ins){a:RNm}(f:a∈r.nms)(u:a.id=x.id)(q:Int)(t:ByteArray){y y':RIn}(j:y'.id=y.id)(l:y'.kind=y.kind) :
  A4 (Aq r a.dir a.name q t x) y'+(if y.kind=2/\x.kind=2/\a.dir=y.id then 1 else 0)=A4 r y+(if y.kind=2/\x.kind=2/\q=y.id then 1 else 0):=by
 have k:A4 (Aq r a.dir a.name q t x) y'=A4 (B5 (Aa r a.dir a.name) q t x.id) y:=by refine Do j l (Cg r a.dir a.name q t x) λn v=>?_;rw[Vh r a.dir a.name q t (h.byId c)];exact Iff.rfl
 have g:=Dp (Aa r a.dir a.name) q t x.id y;have b:=Dj h f y;have m:A3 (Aa r a.dir a.name).ins x.id=x:=h.byId c;rw[m] at g;rw[u,h.byId c] at b;rw[k,g];by_cases e:y.kind=2
 .by_cases i:x.kind=2
  .simp only[e,i,true_and,and_true,if_true] at b⊢;omega
  .simp only[e,i,false_and,and_false,if_false,if_true] at b⊢;omega
 .simp only[e,false_and,if_false] at b⊢;omega
theorem W9 {r:RFs}{a id:Int}(e:id≠1)(c:id≠a):Under r a id↔Under r a (A3 r.ins id).parent:=by
 constructor
 .intro b;cases b with
  | refl=>exact dq rfl c
  | step _ h2=>exact h2
 .exact λb=>Under.step e b
theorem Yd (h:Wf r K){y:RIn}(c:y∈r.ins)(b:y.id≠1)(a:y.id≠x.id):Under r x.id y.id↔Under r x.id y.parent:=by rw[W9 b a,h.byId c]
open Classical in
theorem Ua (h:Wf r K)(hx:x∈r.ins)(hq:q∈r.ins)(Y:q.kind=2){n0:RNm}(G:n0∈r.nms)(e1:n0.dir=p.id)(e2:n0.name=s)(e3:n0.id=x.id)(hv:Aj t=true)(he:A5 r.nms q.id t=0)
  (hu:x.kind=2->¬Under r x.id q.id) (hl:x.kind=2->p.id≠q.id->A4 r q < 20):Wf (Aq r p.id s q.id t x) K:=by
 have O:x.id≠1:=by rw[<-e3];exact(h.nmI n0 G).1
 have hlk:=λy y'=>Bw h hx G e3 q.id t (y:=y) (y':=y');rw[e1,e2] at hlk;have F:=Ps r x p.id s q.id t;have H:=Cg r p.id s q.id t x;generalize P:Aq r p.id s q.id t x=r' at *;have l:r'.gens=r.gens/\r'.room=r.room:=by rw[<-P];unfold Aq;split<;>exact⟨rfl,rfl⟩
 have hqx:x.kind=2->q.id≠x.id:=λk e=>hu k (by rw[e];exact Under.refl);have W:∀y∈r.ins,y.id=x.id->y=x:=λy a e=>by rw[<-h.byId a,e,h.byId hx]
 have c:∀y∈r'.ins,∃z∈r.ins,z.id=y.id/\z.gen=y.gen/\z.kind=y.kind/\z.target=y.target/\z.B=y.B/\z.On=y.On/\(y.parent=z.parent/\(x.kind=2->z.id≠x.id)\/y.parent=q.id/\z=x/\x.kind=2):=λy a=>by
  rcases(F y).1 a with⟨C,h2⟩ | ⟨C,rfl⟩
  .exact⟨y,C,rfl,rfl,rfl,rfl,rfl,rfl,.inl ⟨rfl,h2⟩⟩
  .exact⟨x,hx,rfl,rfl,rfl,rfl,rfl,rfl,.inr ⟨rfl,rfl,C⟩⟩
 have m:∀z∈r.ins,∃y∈r'.ins,z.id=y.id/\z.gen=y.gen/\z.kind=y.kind/\(z.id≠x.id->z.parent=y.parent):=λz f=>by
  by_cases T:x.kind=2
  .by_cases e:z.id=x.id
   .have:=W z f e;subst this;exact⟨upP z q.id,(F _).2 (.inr ⟨T,rfl⟩),rfl,rfl,rfl,λq=>dq rfl q⟩
   .exact⟨z,(F _).2 (.inl ⟨f,λ_=>e⟩),rfl,rfl,rfl,λ_=>rfl⟩
  .exact⟨z,(F _).2 (.inl ⟨f,λe=>dq e T⟩),rfl,rfl,rfl,λ_=>rfl⟩
 have L:∀n,n∈r'.nms↔n∈r.nms/\¬(n.dir=p.id/\n.name=s)\/n=⟨q.id,t,x.id⟩:=λn=>by rw[H,bz,af,bw,Bool.not_eq_true',decide_eq_false_iff_not]
 have hsup:∀n∈r.nms,n.id≠x.id->n∈r'.nms:=λn v M=>(L n).2 (.inl ⟨v,λe=>M (by rw[h.uniq_eq v G (e.1.trans e1.symm) (e.2.trans e2.symm)];exact e3)⟩);have hfil:∀y:RIn,y.id≠x.id->r'.nms.filter (λn=>decide (n.id=y.id))=r.nms.filter (λn=>decide (n.id=y.id)):=λy a=>by
  rw[H,List.filter_append,List.filter_filter];have:¬x.id=y.id:=λe=>a e.symm;simp only[List.filter_cons,List.filter_nil,this,decide_false,Bool.false_eq_true,if_false,List.append_nil];apply List.filter_congr;intro n v;by_cases M:n.id=y.id
  .have:¬(n.dir=p.id/\n.name=s):=λe=>a (by rw[<-M,h.uniq_eq v G (e.1.trans e1.symm) (e.2.trans e2.symm)];exact e3);simp only[M,decide_true,Bool.true_and,this,decide_false,Bool.not_false]
  .simp[M]
 refine {ids:=?_,rng:=λy a=>?_,gen:=λy a=>?_,genK:=by rw[l.1];exact h.genK,genL:=by rw[l.1];exact h.genL,kind:=λy a=>?_,root:=?_,nmD:=λn v=>?_,nmI:=λn v=>?_,nmV:=λn v=>?_,uniq:=?_,one:=λy a U N=>?_,some:=λy a k=>?_,par:=λy a k=>?_,tree:=?_,nmK:=?_,lim:=λy a=>?_,file:=λy a k=>?_,link:=λy a k=>?_,rm:=by rw[l.2];exact h.rm,sp:=?_}
 .rw[<-P];unfold Aq;split
  .exact Tu (r:=r) h (upP x q.id)
  .exact h.ids
 .obtain⟨z,f,g,A,i,D,J,I,E⟩:=c y a;rw[<-g];exact h.rng z f
 .obtain⟨z,f,g,A,i,D,J,I,E⟩:=c y a;rw[<-g,<-A,l.1];exact h.gen z f
 .obtain⟨z,f,g,A,i,D,J,I,E⟩:=c y a;rw[<-i];exact h.kind z f
 .obtain⟨z,f,S,b2,b3,b4⟩:=h.root;obtain⟨y,a,g,A,i,D⟩:=m z f;exact⟨y,a,g ▸ S,A ▸ b2,i ▸ b3,by rw[<-D (λe=>O (e ▸ S))];exact b4⟩
 .rcases(L n).1 v with⟨C,_⟩ | rfl
  .obtain⟨z,f,S,b2⟩:=h.nmD n C;obtain⟨y,a,g,A,i,D⟩:=m z f;exact⟨y,a,g ▸ S,i ▸ b2⟩
  .obtain⟨y,a,g,A,i,D⟩:=m q hq;exact⟨y,a,g.symm,i ▸ Y⟩
 .rcases(L n).1 v with⟨C,_⟩ | rfl
  .obtain⟨b0,z,f,S⟩:=h.nmI n C;obtain⟨y,a,g,A,i,D⟩:=m z f;exact⟨b0,y,a,g ▸ S⟩
  .obtain⟨y,a,g,A,i,D⟩:=m x hx;exact⟨O,y,a,g.symm⟩
 .rcases(L n).1 v with⟨C,_⟩ | rfl
  .exact h.nmV n C
  .exact hv
 .rw[H];exact O9 (h.uniq.filter _) (λn v=>Di h (λ_ v=>v) he n (af.1 v).1)
 .obtain⟨z,f,g,A,i,D,J,I,E⟩:=c y a;by_cases e:y.id=x.id
  .have Q:z=x:=W z f (g.trans e);subst Q;have Z:z.kind=2:=i.trans U;rcases E with⟨_,b⟩ | ⟨b,_,_⟩
   .exact dq rfl (b Z)
   .rw[H,List.filter_append,List.filter_filter,b];have:(r.nms.filter λn=>decide (n.id=y.id)&&!decide (n.dir=p.id/\n.name=s))=[]:=by
     rw[List.filter_eq_nil_iff];intro n v;by_cases M:n.id=z.id
     .have h9:=h.one_name f Z O v G M e3;have:n.dir=p.id/\n.name=s:=⟨h9.1.trans e1,h9.2.trans e2⟩;simp[this]
     .rw[e];simp[M]
    rw[this];simp[e]
  .rw[hfil y e];have Q:z.id≠x.id:=λV=>e (g ▸ V);have:=h.one z f (i.trans U) (λV=>N (g ▸ V));rw[g] at this;rw[this];rcases E with⟨b,_⟩ | ⟨_,b,_⟩
   .rw[b]
   .exact dq (by rw[b]) Q
 .obtain⟨z,f,g,A,i,D,J,I,E⟩:=c y a;by_cases e:y.id=x.id
  .exact⟨_,(L _).2 (.inr rfl),e.symm⟩
  .obtain⟨n,v,b⟩:=h.some z f (λV=>k (i ▸ V));exact⟨n,hsup n v (by rw[b,g];exact e),b.trans g⟩
 .obtain⟨z,f,g,A,i,D,J,I,E⟩:=c y a;rcases E with⟨b,_⟩ | ⟨b,_,_⟩
  .obtain⟨w,hw,c1,c2⟩:=h.par z f (i.trans k);obtain⟨w',R,d1,d2,d3,d4⟩:=m w hw;exact⟨w',R,by rw[<-d1,c1,b],d3 ▸ c2⟩
  .obtain⟨w',R,d1,d2,d3,d4⟩:=m q hq;exact⟨w',R,by rw[<-d1,b],d3 ▸ Y⟩
 .obtain⟨ρ,hρ⟩:=h.tree;by_cases T:x.kind=2
  .refine⟨λj=>if Under r x.id j then ρ j+(ρ q.id+1) else ρ j,λy a U N=>?_⟩;obtain⟨z,f,g,A,i,D,J,I,E⟩:=c y a;rw[<-g] at N⊢;dsimp only;rcases E with⟨b,b'⟩ | ⟨b,rfl,_⟩
   .have hz1:=hρ z f (i.trans U) N;have X:=Yd (x:=x) h f N (b' T);rw[b];by_cases u:Under r x.id z.id
    .rw[dp u,dp (X.1 u)];omega
    .rw[dn u,dn (λu'=>u (X.2 u'))];exact hz1
   .rw[b,dn (hu T),dp Under.refl];omega
  .refine⟨ρ,λy a U N=>?_⟩;obtain⟨z,f,g,A,i,D,J,I,E⟩:=c y a;rcases E with⟨b,_⟩ | ⟨_,_,b⟩
   .rw[b,<-g];exact hρ z f (i.trans U) (λe=>N (g ▸ e))
   .exact dq b T
 .have C:=Es h.uniq G e1 e2 (λ_=>true);have h2:=h.nmK;rw[H];simp only[List.countP_true,if_true] at C;simp only[List.length_append,List.length_cons,List.length_nil];omega
 .obtain⟨z,f,g,A,i,D,J,I,E⟩:=c y a;have C:=hlk z y g.symm i.symm;have h2:=h.lim z f;by_cases c1:z.kind=2/\x.kind=2/\q.id=z.id
  .have hqz:q=z:=by rw[<-h.byId hq,c1.2.2,h.byId f]
   by_cases c2:p.id=z.id
   .rw[dp c1,dp ⟨c1.1,c1.2.1,c2⟩] at C;omega
   .have:=hl c1.2.1 (λe=>c2 (e.trans c1.2.2));rw[dp c1] at C;rw[hqz] at this;omega
  .rw[dn c1] at C;omega
 .obtain⟨z,f,g,A,i,D,J,I,E⟩:=c y a;rw[<-J,<-I];exact h.file z f (λe=>k (i ▸ e))
 .obtain⟨z,f,g,A,i,D,J,I,E⟩:=c y a;rw[<-D];exact h.link z f (λe=>k (i ▸ e))
 .rw[l.2,<-P];have C:=h.sp;have h2:=U6 h.ids hx (λy=>y.On.length);unfold Aq;split
  .unfold M4 B5 Aa upP;dsimp only;rw[az,List.sum_append];simp only[List.map_cons,List.map_nil,List.sum_cons,List.sum_nil];omega
  .exact C
end
theorem NodeR.ne {w:World}{r:RFs}{x:RIn}{n:Nd}(h:NodeR w r x n)(a:x.kind=2):n.big=true/\n.b≠n.m/\n.b≠n.blk/\n.m≠n.blk :=
 ⟨by rw[h.big,a];rfl,λe=>A7 (h.dir a).2 (h.dir a).1 e.symm,Ao (h.dir a).1 h.head (by decide),A7 (h.dir a).2 h.head⟩
theorem FsN.uniq {w:World}{f i e K:Nat}{r:RFs}{N:List Nd}(h:FsN w f i e r N)(c:Wf r K){x y:RIn}{n:Nd}(g:x∈r.ins)(a:NodeR w r x n)(j:y∈r.ins)(b:NodeR w r y n):x=y:=by have _:=h;rw[<-c.byId g,<-a.id,b.id,c.byId j]
theorem Ej {w w':World}{f mi mg K:Nat}{r:RFs}{N:List Nd}(h:FsN w f mi mg r N)(T:Wf r K){x p q:RIn}{nx C A:Nd}(hx:x∈r.ins)(R:nx∈N)(H:NodeR w r x nx)(hp:p∈r.ins)(hkp:p.kind=2)(z:C∈N)(M:NodeR w r p C)(hq:q∈r.ins)(hkq:q.kind=2)(u:A∈N)(L:NodeR w r q A)
  {s:ByteArray} {n0:RNm} (hn0:n0∈r.nms) (e1:n0.dir=p.id) (e2:n0.name=s) (e3:n0.id=x.id) (xp:x.id≠p.id) (xq:x.id≠q.id) {t:ByteArray}
  (U:∀k,k < w.heap.size->k≠C.m->k≠A.m->k≠C.blk->k≠A.blk->(x.kind=2->k≠nx.b)->w'.heap[k]?=w.heap[k]?)
  (hmp:MapB w' C.m Cd Ar (A9 (Aq r p.id s q.id t x).nms p.id)) (hmq:MapB w' A.m Cd Ar (A9 (Aq r p.id s q.id t x).nms q.id))
  (hbp:w'.heap[C.blk]?=some (.cells (Jz p (A4 (Aq r p.id s q.id t x) p) C) 143 (0,0))) (hbq:w'.heap[A.blk]?=some (.cells (Jz q (A4 (Aq r p.id s q.id t x) q) A) 143 (0,0)))
  (hxb:x.kind=2->w'.heap[nx.b]?=some (.cells #[.map (some nx.m),.int .i64 q.id] 152 (0,0))):FsN w' f mi mg (Aq r p.id s q.id t x) N:=by
 have S:=λy y'=>Bw T hx hn0 e3 q.id t (y:=y) (y':=y');rw[e1,e2] at S;have F:=Ps r x p.id s q.id t;have hnm:=Cg r p.id s q.id t x;have E:∀i,i≠p.id->i≠q.id->A9 (Aq r p.id s q.id t x).nms i=A9 r.nms i:=λi a b=>by rw[hnm,Aw,dn b,As,dn a]
 generalize hr':Aq r p.id s q.id t x=r' at *;have J:r'.gens=r.gens/\r'.room=r.room:=by rw[<-hr'];unfold Aq;split<;>exact⟨rfl,rfl⟩
 obtain⟨pb,p1,p2,p3⟩:=M.ne hkp;obtain⟨qb,q1,q2,q3⟩:=L.ne hkq;obtain⟨l1,l2,l3,l4⟩:=h.lt T;have Z:nx≠C:=λe=>xp (by rw[<-H.id,<-M.id,e]);have Y:nx≠A:=λe=>xq (by rw[<-H.id,<-L.id,e]);have c:∀{a b:Nd} {i j:Nat},a∈N->b∈N->a≠b->i∈a.foot->j∈b.foot->i≠j:=λha B hne hi hj e=>h.apart ha B hne _ hi (e ▸ hj);have off:∀{k:Nat},(∀n∈N,k ∉ n.foot)->k < w.heap.size->w'.heap[k]?=w.heap[k]?:=λl hl=>U _ hl (λe=>l C z (e ▸ Nd.m_mem pb)) (λe=>l A u (e ▸ Nd.m_mem qb)) (λe=>l C z (e ▸ C.blk_mem)) (λe=>l A u (e ▸ A.blk_mem)) (λv e=>l nx R (e ▸ Nd.b_mem (by rw[H.big,v];rfl)));obtain⟨G,g1,g2⟩:=h.gmap;refine⟨?_,h.imap.of_block (off (λn g=>(h.off n g).2.1) l2),⟨G,g1.of_block (off (λn g=>(h.off n g).2.2) l3),by rw[J.1];exact g2⟩,λn g=>?_,λy Q=>?_,h.sep,h.off,h.mm⟩
 .rw[J.2];exact(off (λn g=>(h.off n g).1) l1).trans h.head
 .obtain⟨y,Q,hr⟩:=h.node n g;have I:=hr.lt (T.kind y Q);by_cases c1:n=nx
  .subst c1;obtain rfl:=h.uniq T hx H Q hr;have hlx:∀y',y'.id=x.id->y'.kind=x.kind->A4 r' y'=A4 r x:=λy' a b=>by
    have:=S x y' a b;rw[dn (λe=>xp e.2.2.symm),dn (λe=>xq e.2.2.symm)] at this;exact this
   have base:∀k∈n.foot,(x.kind=2->k≠n.b)->w'.heap[k]?=w.heap[k]?:=λk l B=>U k (I k l) (c g z Z l (Nd.m_mem pb)) (c g u Y l (Nd.m_mem qb)) (c g z Z l C.blk_mem) (c g u Y l A.blk_mem) B;by_cases v:x.kind=2
   .obtain⟨xb,x1,x2,x3⟩:=hr.ne v;refine⟨upP x q.id,(F _).2 (.inr ⟨v,rfl⟩),hr.id,?_,hr.big,λe=>?_,λ_=>⟨hxb v,?_⟩⟩
    .rw[hlx (upP x q.id) rfl rfl];exact(base _ n.blk_mem (λ_=>x2.symm)).trans hr.head
    .have:x.kind=1:=e;omega
    .show MapB w' n.m Cd Ar (A9 r'.nms x.id);rw[E _ xp xq];exact(hr.dir v).2.of_block (base _ (Nd.m_mem xb) (λ_=>x1.symm))
   .exact⟨x,(F _).2 (.inl ⟨hx,λe=>dq e v⟩),hr.keep (λk l=>base k l (λe=>dq e v)) (hlx x rfl rfl) (λe=>dq e v)⟩
  .have hyx:y.id≠x.id:=λe=>c1 (B4 h.idU g R (by rw[hr.id,H.id,e]));have P:y∈r'.ins:=(F _).2 (.inl ⟨Q,λ_=>hyx⟩);have D:x.kind=2->∀k∈n.foot,k≠nx.b:=λv k l=>c g R c1 l (Nd.b_mem (by rw[H.big,v];rfl));by_cases V:n=C
   .subst V;obtain rfl:=h.uniq T hp M Q hr;refine⟨p,P,hr.mk2 hbp (λB=>?_) (λe=>dq e (by omega)) (λ_=>hmp)⟩;by_cases O:n=A
    .subst O;exact U _ (I _ (Nd.b_mem B)) p1 p1 p2 p2 (λv=>D v _ (Nd.b_mem B))
    .exact U _ (I _ (Nd.b_mem B)) p1 (c g u O (Nd.b_mem B) (Nd.m_mem qb)) p2 (c g u O (Nd.b_mem B) A.blk_mem) (λv=>D v _ (Nd.b_mem B))
   .by_cases O:n=A
    .subst O;obtain rfl:=h.uniq T hq L Q hr;exact⟨q,P,hr.mk2 hbq (λB=>U _ (I _ (Nd.b_mem B)) (c g z V (Nd.b_mem B) (Nd.m_mem pb)) q1 (c g z V (Nd.b_mem B) C.blk_mem) q2 (λv=>D v _ (Nd.b_mem B))) (λe=>dq e (by omega)) (λ_=>hmq)⟩
    .have X:y.id≠p.id:=λe=>V (B4 h.idU g z (by rw[hr.id,M.id,e]));have W:y.id≠q.id:=λe=>O (B4 h.idU g u (by rw[hr.id,L.id,e]));refine⟨y,P,hr.keep (λk l=>U k (I k l) (c g z V l (Nd.m_mem pb)) (c g u O l (Nd.m_mem qb)) (c g z V l C.blk_mem) (c g u O l A.blk_mem) (λv=>D v k l)) ?_ (λ_=>E _ X W)⟩;have:=S y y rfl rfl;rw[dn (λe=>X e.2.2.symm),dn (λe=>W e.2.2.symm)] at this;exact this
 .rcases(F y).1 Q with⟨h1,_⟩ | ⟨_,rfl⟩
  .exact h.all y h1
  .exact h.all x hx
theorem Rx {w:World}{a b:Nat}{i n:Array Value}{m tb:TypeId}(ha:w.heap[a]?=some (.cells i m (0,0)))(u:w.heap[b]?=some (.cells n tb (0,0))) :
  (binOp .neq 134 (.pointer (some ⟨a,0,none⟩)) (.pointer (some ⟨b,0,none⟩))).run Tryz.prog w=.ok (.bool (!decide (a=b))) w:=by
 have k:∃j,Tryz.prog.info? 143=some j/\j.size=6:=by
  have:(Tryz.prog.info? 143).map (·.size)=some 6:=by kernel_rfl
  cases h:Tryz.prog.info? 143 with
  | none=>rw[h] at this;cases this
  | some j=>rw[h] at this;exact⟨j,rfl,by simpa using this⟩
 obtain⟨j,f,v⟩:=k;have c:Tryz.prog.underlying 134=some (.pointer 143):=by kernel_rfl
 by_cases e:a=b
 .subst e;have h:∀d:Nat,(Op.equalIn (d+1) 134 (.pointer (some ⟨a,0,none⟩)) (.pointer (some ⟨a,0,none⟩))).run Tryz.prog w=.ok true w:=λd=>by
   simp[Op.equalIn,run_underlying c,sizeOf,typeInfo,f,run_sameAddr_same]
  simp only[binOp];simp[Op.equal,Op.maxDepth,h 9999]
 .have h:∀d:Nat,(Op.equalIn (d+1) 134 (.pointer (some ⟨a,0,none⟩)) (.pointer (some ⟨b,0,none⟩))).run Tryz.prog w=.ok false w:=λd=>by
   simp[Op.equalIn,run_underlying c,sizeOf,typeInfo,f,v,run_sameAddr_other w (a:=⟨a,0,none⟩) (b:=⟨b,0,none⟩) (λl=>e (by injection l)) ha u]
  simp only[binOp];simp[Op.equal,Op.maxDepth,h 9999,e]
noncomputable def E6 (r:RFs) (h:Int × Int) (s:ByteArray) (g:Int × Int) (t:ByteArray):RFs × Int :=
 if De r h s g t≠0 then(r,De r h s g t) else if A5 r.nms h.1 s=0 then(r,170) else if A5 r.nms h.1 s=A5 r.nms g.1 t then(r,0)
 else if(A3 r.ins (A5 r.nms h.1 s)).kind=2/\Bq r g.1 (A5 r.nms h.1 s)=true then(r,178)
 else if A5 r.nms g.1 t≠0 then
  (if Hw r (A3 r.ins (A5 r.nms g.1 t)) (decide ((A3 r.ins (A5 r.nms h.1 s)).kind=2))≠0 then(r,Hw r (A3 r.ins (A5 r.nms g.1 t)) (decide ((A3 r.ins (A5 r.nms h.1 s)).kind=2)))
   else(Aq (Bx r g.1 t) h.1 s g.1 t (A3 r.ins (A5 r.nms h.1 s)),0))
 else if(A3 r.ins (A5 r.nms h.1 s)).kind=2/\h.1≠g.1/\20<=A4 r (A3 r.ins g.1) then(r,179)
 else(Aq r h.1 s g.1 t (A3 r.ins (A5 r.nms h.1 s)),0)
theorem Xr {w:World}{f z A K:Nat}{r:RFs}{N:List Nd}(h:FsN w f z A r N)(u:Wf r K)(i g:Int)(s:ByteArray)(m:s.size<=maxLen)(c k:Int)(j:ByteArray)(b:j.size<=maxLen)(v:De r (i,g) s (c,k) j≠0) :
  Calls Tryz.prog 99 #[.pointer (some ⟨f,0,none⟩),.agg #[.int .i64 i,.int .i64 g],.string s,.agg #[.int .i64 c,.int .i64 k],.string j] w
   λe w'=>e=.returned (.tuple #[.agg #[.pointer none,.pointer none,.string ⟨#[]⟩],.agg #[.pointer none,.pointer none,.string ⟨#[]⟩],.int .i64 (De r (i,g) s (c,k) j)])/\Below w.heap.size w w':=by
 unfold De at v⊢;dsimp only at v⊢;cases hl:An r (i,g)
 .simp only[true_or,if_true];exact Z28 h u i g s m c k j b hl
 .cases hl2:An r (c,k)
  .simp only[or_true,if_true];exact Z44 h u i g s m c k j b hl hl2
  .rw[hl,hl2] at v;simp only[Bool.true_eq_false,or_false,if_false] at v⊢;by_cases n:(A3 r.ins i).kind=2
   .by_cases a:(A3 r.ins c).kind=2
    .simp only[n,a,ne_eq,not_true_eq_false,or_false,if_false] at v⊢;by_cases y:Aj s=true
     .by_cases l:Aj j=true
      .simp[y,l] at v
      .simp only[y,l];exact Z45 h u i g s m c k j b hl hl2 n a y l
     .simp only[y];exact Z4d h u i g s m c k j b hl hl2 n a y
    .simp only[a,ne_eq,not_false_eq_true,or_true,if_true];exact Z3h h u i g s m c k j b hl hl2 n a
   .simp only[n,ne_eq,not_false_eq_true,true_or,if_true];by_cases a:(A3 r.ins c).kind=2
    .exact Z4y h u i g s m c k j b hl hl2 n a
    .exact Z1i h u i g s m c k j b hl hl2 n a
theorem Mp {r:RFs}{h g:Int × Int}{s t:ByteArray}(f:De r h s g t=0):An r h=true/\An r g=true/\(A3 r.ins h.1).kind=2/\(A3 r.ins g.1).kind=2/\Aj s=true/\Aj t=true:=by
 unfold De at f;split at f
 .cases f
 .rename_i a
  split at f
  .cases f
  .rename_i b
   split at f
   .rename_i c
    refine⟨?_,?_,?_,?_,c.1,c.2⟩
    .cases hh:An r h
     .exact dq (.inl hh) a
     .rfl
    .cases hh:An r g
     .exact dq (.inr hh) a
     .rfl
    .exact cf λe=>b (.inl e)
    .exact cf λe=>b (.inr e)
   .cases f
set_option maxRecDepth 100000 in
set_option maxHeartbeats 8000000 in
theorem W6 {w:World}{f mi mg K:Nat}{r:RFs}{N:List Nd}(h:FsN w f mi mg r N)(hW:Wf r K)(i g:Int)(s:ByteArray)(hs:s.size<=maxLen)(i2 g2:Int)(s2:ByteArray)(hs2:s2.size<=maxLen)(he:De r (i,g) s (i2,g2) s2≠0) :
  Calls Tryz.prog 73 #[.pointer (some ⟨f,0,none⟩),.agg #[.int .i64 i,.int .i64 g],.string s,.agg #[.int .i64 i2,.int .i64 g2],.string s2] w
   λe w'=>e=.returned (.int .i64 (De r (i,g) s (i2,g2) s2))/\Below w.heap.size w w':=by
 obtain⟨w2,hw2,hB,hz2,hb0,hb1⟩:=Gj w #[.int .i64 i,.int .i64 g] #[.int .i64 i2,.int .i64 g2] 31 31;have t0:w2.cell? ⟨w.heap.size,0,none⟩=some (.int .i64 i):=by rw[A1 hb0];rfl
 have t1:w2.cell? ⟨w.heap.size,1,none⟩=some (.int .i64 g):=by rw[A1 hb0];rfl
 have t2:w2.cell? ⟨w.heap.size+1,0,none⟩=some (.int .i64 i2):=by rw[A1 hb1];rfl
 have t3:w2.cell? ⟨w.heap.size+1,1,none⟩=some (.int .i64 g2):=by rw[A1 hb1];rfl
 have h2:=h.below hW hB;have HW2:=aa hw2;have HB:=aa hB;have HP:=aa (Xr h2 hW i g s hs i2 g2 s2 hs2 he);have hne:(De r (i,g) s (i2,g2) s2 != 0)=true:=by rw[bne_iff_ne];exact he
 generalize De r (i,g) s (i2,g2) s2=pe at *;clear hw2 hB hb0 hb1 h h2 hW he
 go_enter Tryz.func73,Tryz.ntmps73
 go_wp2_with fail
 rw[HW2.out]
 go_wp2_with (go_at_call 99;(with_reducible refine HP.out.mono ?_);rintro e w3 ⟨rfl,hB3⟩;have hs3:=hB3.size;replace hB3:=aa hB3)
 go_ret
 have hfin:=HB.out.trans (hB3.out.mono (by omega));exact⟨rfl,(hfin.alloc hfin.size _).alloc (by have:=hfin.size;simp;omega) _⟩
set_option maxRecDepth 100000 in
set_option maxHeartbeats 8000000 in
theorem Sf {w:World}{f mi mg K:Nat}{r:RFs}{N:List Nd}(h:FsN w f mi mg r N)(hW:Wf r K)(i g:Int)(s:ByteArray)(hs:s.size<=maxLen)(i2 g2:Int)(s2:ByteArray)(hs2:s2.size<=maxLen)
  {p q:RIn} {np nq:Nd} (_hp:p∈r.ins) (hkp:p.kind=2) (hnp:np∈N) (hrp:NodeR w r p np) (_hq:q∈r.ins) (hkq:q.kind=2) (hnq:nq∈N) (hrq:NodeR w r q nq) (hpi:p.id=i) (hqi:q.id=i2)
  (hl:An r (i,g)=true) (hl2:An r (i2,g2)=true) (hk:(A3 r.ins i).kind=2) (hk2:(A3 r.ins i2).kind=2) (hv:Aj s=true) (hv2:Aj s2=true) (he:A5 r.nms i s=0) :
  Calls Tryz.prog 73 #[.pointer (some ⟨f,0,none⟩),.agg #[.int .i64 i,.int .i64 g],.string s,.agg #[.int .i64 i2,.int .i64 g2],.string s2] w λe w'=>e=.returned (.int .i64 170)/\Below w.heap.size w w':=by
 obtain⟨w2,hw2,hB,hz2,hb0,hb1⟩:=Gj w #[.int .i64 i,.int .i64 g] #[.int .i64 i2,.int .i64 g2] 31 31;have t0:w2.cell? ⟨w.heap.size,0,none⟩=some (.int .i64 i):=by rw[A1 hb0];rfl
 have t1:w2.cell? ⟨w.heap.size,1,none⟩=some (.int .i64 g):=by rw[A1 hb0];rfl
 have t2:w2.cell? ⟨w.heap.size+1,0,none⟩=some (.int .i64 i2):=by rw[A1 hb1];rfl
 have t3:w2.cell? ⟨w.heap.size+1,1,none⟩=some (.int .i64 g2):=by rw[A1 hb1];rfl
 have h2:=h.below hW hB;have HW2:=aa hw2;have HB:=aa hB;have hrp2:=hrp.below (.inr (.inl hkp)) hB;have hrq2:=hrq.below (.inr (.inl hkq)) hB;have hpl:=Bn h2 hW i g s hs i2 g2 s2 hs2 hl hl2 hk hk2 hv hv2 hnp hnq (hrp.id.trans hpi) (hrq.id.trans hqi);have HP:=aa hpl;have HAt:=aa (show ∀w4,Below w2.heap.size w2 w4->Calls Tryz.prog 59 #[.agg #[.pointer (some ⟨np.blk,0,none⟩),.pointer (some ⟨np.b,0,none⟩),.string s]] w4 λe w'=>e=.returned (.tuple #[.int .i64 (A5 r.nms i s),.bool (decide (A5 r.nms i s≠0))])/\Below w4.heap.size w4 w' from λw4 hb=>by have hr4:=hrp2.below (.inr (.inl hkp)) hb;have:=B8 hr4 hkp (hr4.lt (.inr (.inl hkp))) s (some ⟨np.blk,0,none⟩);rw[hpi,hW.entry_some] at this;exact this)
 have HAt2:=aa (show ∀w4,Below w2.heap.size w2 w4->Calls Tryz.prog 59 #[.agg #[.pointer (some ⟨nq.blk,0,none⟩),.pointer (some ⟨nq.b,0,none⟩),.string s2]] w4 λe w'=>e=.returned (.tuple #[.int .i64 (A5 r.nms i2 s2),.bool (decide (A5 r.nms i2 s2≠0))])/\Below w4.heap.size w4 w' from λw4 hb=>by have hr4:=hrq2.below (.inr (.inl hkq)) hb;have:=B8 hr4 hkq (hr4.lt (.inr (.inl hkq))) s2 (some ⟨nq.blk,0,none⟩);rw[hqi,hW.entry_some] at this;exact this)
 rw[he] at HAt;simp only[ne_eq,not_true_eq_false,decide_false] at HAt;clear hw2 hB hb0 hb1 h h2 hW hrp2 hrq2 hpl _hp hkp hnp hrp _hq hkq hnq hrq hpi hqi hl hl2 hk hk2 hv hv2 he
 go_enter Tryz.func73,Tryz.ntmps73
 go_wp2_with fail
 rw[HW2.out]
 go_upto_region 4 with(go_at_call 99;(with_reducible refine HP.out.mono ?_);rintro e w3 ⟨rfl,hB3⟩;have hs3:=hB3.size;replace hB3:=aa hB3)
 obtain⟨w4,hw4,hB4,hs4,hb40,hb41⟩:=Gj w3 #[.pointer (some ⟨np.blk,0,none⟩),.pointer (some ⟨np.b,0,none⟩),.string s] #[.pointer (some ⟨nq.blk,0,none⟩),.pointer (some ⟨nq.b,0,none⟩),.string s2] 137 137;rw[hw4];have c0:w4.cell? ⟨w3.heap.size,0,none⟩=some (.pointer (some ⟨np.blk,0,none⟩)):=by rw[A1 hb40];rfl
 have c1:w4.cell? ⟨w3.heap.size,1,none⟩=some (.pointer (some ⟨np.b,0,none⟩)):=by rw[A1 hb40];rfl
 have c2:w4.cell? ⟨w3.heap.size,2,none⟩=some (.string s):=by rw[A1 hb40];rfl
 have HQ1:=aa hb40;have HQ2:=aa hb41;have HB4:=aa (hB3.out.trans (hB4.mono (by omega)));clear hw4 hb40 hb41 hB4
 go_wp2_with (go_at_call 59;(with_reducible refine(HAt.out w4 HB4.out).mono ?_);rintro e w5 ⟨rfl,hB5⟩;replace hB5:=aa hB5)
 go_ret
 exact⟨rfl,HB.out.trans ((HB4.out.trans (hB5.out.mono HB4.out.size)).mono (by omega))⟩
set_option maxRecDepth 100000 in
set_option maxHeartbeats 8000000 in
theorem Rr {w:World}{f mi mg K:Nat}{r:RFs}{N:List Nd}(h:FsN w f mi mg r N)(hW:Wf r K)(i g:Int)(s:ByteArray)(hs:s.size<=maxLen)(i2 g2:Int)(s2:ByteArray)(hs2:s2.size<=maxLen)
  {p q:RIn} {np nq:Nd} (_hp:p∈r.ins) (hkp:p.kind=2) (hnp:np∈N) (hrp:NodeR w r p np) (_hq:q∈r.ins) (hkq:q.kind=2) (hnq:nq∈N) (hrq:NodeR w r q nq) (hpi:p.id=i) (hqi:q.id=i2)
  (hl:An r (i,g)=true) (hl2:An r (i2,g2)=true) (hk:(A3 r.ins i).kind=2) (hk2:(A3 r.ins i2).kind=2) (hv:Aj s=true) (hv2:Aj s2=true)
  {x:RIn} {nx:Nd} (hx:x∈r.ins) (hnx:nx∈N) (hrx:NodeR w r x nx) (hxi:A5 r.nms i s=x.id) (ho:A5 r.nms i2 s2=x.id) :
  Calls Tryz.prog 73 #[.pointer (some ⟨f,0,none⟩),.agg #[.int .i64 i,.int .i64 g],.string s,.agg #[.int .i64 i2,.int .i64 g2],.string s2] w λe w'=>e=.returned (.int .i64 0)/\Below w.heap.size w w':=by
 obtain⟨w2,hw2,hB,hz2,hb0,hb1⟩:=Gj w #[.int .i64 i,.int .i64 g] #[.int .i64 i2,.int .i64 g2] 31 31;have t0:w2.cell? ⟨w.heap.size,0,none⟩=some (.int .i64 i):=by rw[A1 hb0];rfl
 have t1:w2.cell? ⟨w.heap.size,1,none⟩=some (.int .i64 g):=by rw[A1 hb0];rfl
 have t2:w2.cell? ⟨w.heap.size+1,0,none⟩=some (.int .i64 i2):=by rw[A1 hb1];rfl
 have t3:w2.cell? ⟨w.heap.size+1,1,none⟩=some (.int .i64 g2):=by rw[A1 hb1];rfl
 have h2:=h.below hW hB;have HW2:=aa hw2;have HB:=aa hB;have hrp2:=hrp.below (.inr (.inl hkp)) hB;have hrq2:=hrq.below (.inr (.inl hkq)) hB;have hpl:=Bn h2 hW i g s hs i2 g2 s2 hs2 hl hl2 hk hk2 hv hv2 hnp hnq (hrp.id.trans hpi) (hrq.id.trans hqi);have HP:=aa hpl;have HAt:=aa (show ∀w4,Below w2.heap.size w2 w4->Calls Tryz.prog 59 #[.agg #[.pointer (some ⟨np.blk,0,none⟩),.pointer (some ⟨np.b,0,none⟩),.string s]] w4 λe w'=>e=.returned (.tuple #[.int .i64 (A5 r.nms i s),.bool (decide (A5 r.nms i s≠0))])/\Below w4.heap.size w4 w' from λw4 hb=>by have hr4:=hrp2.below (.inr (.inl hkp)) hb;have:=B8 hr4 hkp (hr4.lt (.inr (.inl hkp))) s (some ⟨np.blk,0,none⟩);rw[hpi,hW.entry_some] at this;exact this)
 have HAt2:=aa (show ∀w4,Below w2.heap.size w2 w4->Calls Tryz.prog 59 #[.agg #[.pointer (some ⟨nq.blk,0,none⟩),.pointer (some ⟨nq.b,0,none⟩),.string s2]] w4 λe w'=>e=.returned (.tuple #[.int .i64 (A5 r.nms i2 s2),.bool (decide (A5 r.nms i2 s2≠0))])/\Below w4.heap.size w4 w' from λw4 hb=>by have hr4:=hrq2.below (.inr (.inl hkq)) hb;have:=B8 hr4 hkq (hr4.lt (.inr (.inl hkq))) s2 (some ⟨nq.blk,0,none⟩);rw[hqi,hW.entry_some] at this;exact this)
 have hx0:x.id≠0:=hW.ne0 hx;rw[hxi,decide_eq_true hx0] at HAt;have hrx2:=hrx.below (hW.kind x hx) hB;have HX:=aa (show ∀w',Below w2.heap.size w2 w'->w'.cell? ⟨f,1,none⟩=some (.map (some mi))/\w'.cell? ⟨nx.blk,5,none⟩=some (Ab x nx)/\(Instr.lookup 144 (.map (some mi)) (.int .i64 x.id) false).run Tryz.prog w'=.ok (.pointer (some ⟨nx.blk,0,none⟩)) w'/\w'.cell? ⟨nq.blk,0,none⟩=some (.int .i64 i2)/\w'.cell? ⟨nq.blk,4,none⟩=some (.int .i64 (A4 r q:Int)) from λw' hb=>by have h4:=h2.below hW hb;have hg:=h4.get hnx;rw[hrx.id] at hg;have hlk:=(h4.look x.id).2;rw[hg] at hlk;have hq4:=(hrq2.below (.inr (.inl hkq)) hb).cells;exact⟨h4.cells.2.1,(hrx2.below (hW.kind x hx) hb).cells.2.2.2.2.2,hlk,by rw[<-hqi];exact hq4.1,hq4.2.2.2.2.1⟩)
 rw[ho,decide_eq_true hx0] at HAt2;by_cases hkx:x.kind=2
 all_goals
  first
  | (have hta:∀w,(Instr.typeAssert (Ab x nx) 20 135 true).run Tryz.prog w=.ok (.tuple #[.pointer (some ⟨nx.b,0,none⟩),.bool true]) w:=λw=>by rw[Ce,dp hkx];rfl)
  | (have hta:∀w,(Instr.typeAssert (Ab x nx) 20 135 true).run Tryz.prog w=.ok (.tuple #[.pointer none,.bool false]) w:=λw=>by rw[Ce,dn hkx])
  clear hw2 hB hb0 hb1 h h2 hW hrp2 hrq2 hpl _hp hkp hnp hrp _hq hkq hnq hrq hpi hqi hl hl2 hk hk2 hv hv2 hx hnx hrx hxi hx0 hrx2 ho hkx
  go_enter Tryz.func73,Tryz.ntmps73
  go_wp2_with fail
  rw[HW2.out]
  go_upto_region 4 with(go_at_call 99;(with_reducible refine HP.out.mono ?_);rintro e w3 ⟨rfl,hB3⟩;have hs3:=hB3.size;replace hB3:=aa hB3)
  obtain⟨w4,hw4,hB4,hs4,hb40,hb41⟩:=Gj w3 #[.pointer (some ⟨np.blk,0,none⟩),.pointer (some ⟨np.b,0,none⟩),.string s] #[.pointer (some ⟨nq.blk,0,none⟩),.pointer (some ⟨nq.b,0,none⟩),.string s2] 137 137;rw[hw4];have c0:w4.cell? ⟨w3.heap.size,0,none⟩=some (.pointer (some ⟨np.blk,0,none⟩)):=by rw[A1 hb40];rfl
  have c1:w4.cell? ⟨w3.heap.size,1,none⟩=some (.pointer (some ⟨np.b,0,none⟩)):=by rw[A1 hb40];rfl
  have c2:w4.cell? ⟨w3.heap.size,2,none⟩=some (.string s):=by rw[A1 hb40];rfl
  have HQ1:=aa hb40;have HQ2:=aa hb41;have HB4:=aa (hB3.out.trans (hB4.mono (by omega)));clear hw4 hb40 hb41 hB4
  go_wp2_with (first
  | (go_at_call 59;(with_reducible refine(HAt.out w4 HB4.out).mono ?_);rintro e w5 ⟨rfl,hB5⟩;have hs5:=hB5.size;have hY:=(hB5.block _ (by omega)).trans HQ2.out;have d0:w5.cell? ⟨w3.heap.size+1,0,none⟩=_:=A1 hY 0;have d1:w5.cell? ⟨w3.heap.size+1,1,none⟩=_:=A1 hY 1;have d2:w5.cell? ⟨w3.heap.size+1,2,none⟩=_:=A1 hY 2;have HQ25:=aa hY;have HQ15:=aa ((hB5.block _ (by omega)).trans HQ1.out);clear hY;have HB5:=aa (HB4.out.trans (hB5.mono HB4.out.size));obtain⟨x1,x2,x3,-,-⟩:=HX.out w5 HB5.out;clear hB5)
  | (go_at_call 59;(with_reducible refine(HAt2.out w5 HB5.out).mono ?_);rintro e w6 ⟨rfl,hB6⟩;have hs6:=hB6.size;have HQ26:=aa ((hB6.block _ (by omega)).trans HQ25.out);have HQ16:=aa ((hB6.block _ (by omega)).trans HQ15.out);have e0:w6.cell? ⟨w3.heap.size,0,none⟩=_:=A1 HQ16.out 0;have g0:w6.cell? ⟨w3.heap.size+1,0,none⟩=_:=A1 HQ26.out 0;have HB6:=aa (HB5.out.trans (hB6.mono HB5.out.size));obtain⟨y1,y2,y3,y4,y5⟩:=HX.out w6 HB6.out;clear hB6))
  go_ret
  exact⟨rfl,HB.out.trans (HB6.out.mono (by omega))⟩
set_option maxRecDepth 100000 in
set_option maxHeartbeats 8000000 in
theorem Qi {w:World}{f mi mg K:Nat}{r:RFs}{N:List Nd}(h:FsN w f mi mg r N)(hW:Wf r K)(i g:Int)(s:ByteArray)(hs:s.size<=maxLen)(i2 g2:Int)(s2:ByteArray)(hs2:s2.size<=maxLen)
  {p q:RIn} {np nq:Nd} (_hp:p∈r.ins) (hkp:p.kind=2) (hnp:np∈N) (hrp:NodeR w r p np) (hq:q∈r.ins) (hkq:q.kind=2) (hnq:nq∈N) (hrq:NodeR w r q nq) (hpi:p.id=i) (hqi:q.id=i2)
  (hl:An r (i,g)=true) (hl2:An r (i2,g2)=true) (hk:(A3 r.ins i).kind=2) (hk2:(A3 r.ins i2).kind=2) (hv:Aj s=true) (hv2:Aj s2=true)
  {x:RIn} {nx:Nd} (hx:x∈r.ins) (hnx:nx∈N) (hrx:NodeR w r x nx) (hxi:A5 r.nms i s=x.id) (hkx:x.kind=2) (hbl:Bq r i2 x.id=true) (ho:A5 r.nms i2 s2=0) :
  Calls Tryz.prog 73 #[.pointer (some ⟨f,0,none⟩),.agg #[.int .i64 i,.int .i64 g],.string s,.agg #[.int .i64 i2,.int .i64 g2],.string s2] w λe w'=>e=.returned (.int .i64 178)/\Below w.heap.size w w':=by
 obtain⟨w2,hw2,hB,hz2,hb0,hb1⟩:=Gj w #[.int .i64 i,.int .i64 g] #[.int .i64 i2,.int .i64 g2] 31 31;have t0:w2.cell? ⟨w.heap.size,0,none⟩=some (.int .i64 i):=by rw[A1 hb0];rfl
 have t1:w2.cell? ⟨w.heap.size,1,none⟩=some (.int .i64 g):=by rw[A1 hb0];rfl
 have t2:w2.cell? ⟨w.heap.size+1,0,none⟩=some (.int .i64 i2):=by rw[A1 hb1];rfl
 have t3:w2.cell? ⟨w.heap.size+1,1,none⟩=some (.int .i64 g2):=by rw[A1 hb1];rfl
 have h2:=h.below hW hB;have HW2:=aa hw2;have HB:=aa hB;have hrp2:=hrp.below (.inr (.inl hkp)) hB;have hrq2:=hrq.below (.inr (.inl hkq)) hB;have hpl:=Bn h2 hW i g s hs i2 g2 s2 hs2 hl hl2 hk hk2 hv hv2 hnp hnq (hrp.id.trans hpi) (hrq.id.trans hqi);have HP:=aa hpl;have HAt:=aa (show ∀w4,Below w2.heap.size w2 w4->Calls Tryz.prog 59 #[.agg #[.pointer (some ⟨np.blk,0,none⟩),.pointer (some ⟨np.b,0,none⟩),.string s]] w4 λe w'=>e=.returned (.tuple #[.int .i64 (A5 r.nms i s),.bool (decide (A5 r.nms i s≠0))])/\Below w4.heap.size w4 w' from λw4 hb=>by have hr4:=hrp2.below (.inr (.inl hkp)) hb;have:=B8 hr4 hkp (hr4.lt (.inr (.inl hkp))) s (some ⟨np.blk,0,none⟩);rw[hpi,hW.entry_some] at this;exact this)
 have HAt2:=aa (show ∀w4,Below w2.heap.size w2 w4->Calls Tryz.prog 59 #[.agg #[.pointer (some ⟨nq.blk,0,none⟩),.pointer (some ⟨nq.b,0,none⟩),.string s2]] w4 λe w'=>e=.returned (.tuple #[.int .i64 (A5 r.nms i2 s2),.bool (decide (A5 r.nms i2 s2≠0))])/\Below w4.heap.size w4 w' from λw4 hb=>by have hr4:=hrq2.below (.inr (.inl hkq)) hb;have:=B8 hr4 hkq (hr4.lt (.inr (.inl hkq))) s2 (some ⟨nq.blk,0,none⟩);rw[hqi,hW.entry_some] at this;exact this)
 have hx0:x.id≠0:=hW.ne0 hx;rw[hxi,decide_eq_true hx0] at HAt;have hrx2:=hrx.below (hW.kind x hx) hB;have HX:=aa (show ∀w',Below w2.heap.size w2 w'->w'.cell? ⟨f,1,none⟩=some (.map (some mi))/\w'.cell? ⟨nx.blk,5,none⟩=some (Ab x nx)/\(Instr.lookup 144 (.map (some mi)) (.int .i64 x.id) false).run Tryz.prog w'=.ok (.pointer (some ⟨nx.blk,0,none⟩)) w'/\w'.cell? ⟨nq.blk,0,none⟩=some (.int .i64 i2)/\w'.cell? ⟨nq.blk,4,none⟩=some (.int .i64 (A4 r q:Int)) from λw' hb=>by have h4:=h2.below hW hb;have hg:=h4.get hnx;rw[hrx.id] at hg;have hlk:=(h4.look x.id).2;rw[hg] at hlk;have hq4:=(hrq2.below (.inr (.inl hkq)) hb).cells;exact⟨h4.cells.2.1,(hrx2.below (hW.kind x hx) hb).cells.2.2.2.2.2,hlk,by rw[<-hqi];exact hq4.1,hq4.2.2.2.2.1⟩)
 have hta:∀w,(Instr.typeAssert (Ab x nx) 20 135 true).run Tryz.prog w=.ok (.tuple #[.pointer (some ⟨nx.b,0,none⟩),.bool true]) w:=λw=>by rw[Ce,dp hkx];rfl
 rw[ho] at HAt2;simp only[ne_eq,not_true_eq_false,decide_false] at HAt2;have HBl:=aa (show ∀w',Below w2.heap.size w2 w'->Calls Tryz.prog 100 #[.pointer (some ⟨f,0,none⟩),.int .i64 i2,.int .i64 x.id] w' λe w''=>e=.returned (.bool true)/\w'=w'' from λw' hb=>by have:=Dr (h2.below hW hb) hW hq hkq x.id;rw[hqi,hbl] at this;exact this)
 clear hw2 hB hb0 hb1 h h2 hW hrp2 hrq2 hpl _hp hkp hnp hrp hq hkq hnq hrq hpi hqi hl hl2 hk hk2 hv hv2 hx hnx hrx hxi hx0 hrx2 ho hkx hbl
 go_enter Tryz.func73,Tryz.ntmps73
 go_wp2_with fail
 rw[HW2.out]
 go_upto_region 4 with(go_at_call 99;(with_reducible refine HP.out.mono ?_);rintro e w3 ⟨rfl,hB3⟩;have hs3:=hB3.size;replace hB3:=aa hB3)
 obtain⟨w4,hw4,hB4,hs4,hb40,hb41⟩:=Gj w3 #[.pointer (some ⟨np.blk,0,none⟩),.pointer (some ⟨np.b,0,none⟩),.string s] #[.pointer (some ⟨nq.blk,0,none⟩),.pointer (some ⟨nq.b,0,none⟩),.string s2] 137 137;rw[hw4];have c0:w4.cell? ⟨w3.heap.size,0,none⟩=some (.pointer (some ⟨np.blk,0,none⟩)):=by rw[A1 hb40];rfl
 have c1:w4.cell? ⟨w3.heap.size,1,none⟩=some (.pointer (some ⟨np.b,0,none⟩)):=by rw[A1 hb40];rfl
 have c2:w4.cell? ⟨w3.heap.size,2,none⟩=some (.string s):=by rw[A1 hb40];rfl
 have HQ1:=aa hb40;have HQ2:=aa hb41;have HB4:=aa (hB3.out.trans (hB4.mono (by omega)));clear hw4 hb40 hb41 hB4
 go_wp2_with (first
  | (go_at_call 59;(with_reducible refine(HAt.out w4 HB4.out).mono ?_);rintro e w5 ⟨rfl,hB5⟩;have hs5:=hB5.size;have hY:=(hB5.block _ (by omega)).trans HQ2.out;have d0:w5.cell? ⟨w3.heap.size+1,0,none⟩=_:=A1 hY 0;have d1:w5.cell? ⟨w3.heap.size+1,1,none⟩=_:=A1 hY 1;have d2:w5.cell? ⟨w3.heap.size+1,2,none⟩=_:=A1 hY 2;have HQ25:=aa hY;have HQ15:=aa ((hB5.block _ (by omega)).trans HQ1.out);clear hY;have HB5:=aa (HB4.out.trans (hB5.mono HB4.out.size));obtain⟨x1,x2,x3,-,-⟩:=HX.out w5 HB5.out;clear hB5)
  | (go_at_call 59;(with_reducible refine(HAt2.out w5 HB5.out).mono ?_);rintro e w6 ⟨rfl,hB6⟩;have hs6:=hB6.size;have HQ26:=aa ((hB6.block _ (by omega)).trans HQ25.out);have HQ16:=aa ((hB6.block _ (by omega)).trans HQ15.out);have e0:w6.cell? ⟨w3.heap.size,0,none⟩=_:=A1 HQ16.out 0;have g0:w6.cell? ⟨w3.heap.size+1,0,none⟩=_:=A1 HQ26.out 0;have HB6:=aa (HB5.out.trans (hB6.mono HB5.out.size));obtain⟨y1,y2,y3,y4,y5⟩:=HX.out w6 HB6.out;clear hB6)
  | (go_at_call 100;(with_reducible refine(HBl.out w6 HB6.out).mono ?_);rintro e w7 ⟨rfl,rfl⟩))
 go_ret
 exact⟨rfl,HB.out.trans (HB6.out.mono (by omega))⟩
set_option maxRecDepth 100000 in
set_option maxHeartbeats 8000000 in
theorem Q5 {w:World}{f mi mg K:Nat}{r:RFs}{N:List Nd}(h:FsN w f mi mg r N)(hW:Wf r K)(i g:Int)(s:ByteArray)(hs:s.size<=maxLen)(i2 g2:Int)(s2:ByteArray)(hs2:s2.size<=maxLen)
  {p q:RIn} {np nq:Nd} (_hp:p∈r.ins) (hkp:p.kind=2) (hnp:np∈N) (hrp:NodeR w r p np) (hq:q∈r.ins) (hkq:q.kind=2) (hnq:nq∈N) (hrq:NodeR w r q nq) (hpi:p.id=i) (hqi:q.id=i2)
  (hl:An r (i,g)=true) (hl2:An r (i2,g2)=true) (hk:(A3 r.ins i).kind=2) (hk2:(A3 r.ins i2).kind=2) (hv:Aj s=true) (hv2:Aj s2=true)
  {x:RIn} {nx:Nd} (hx:x∈r.ins) (hnx:nx∈N) (hrx:NodeR w r x nx) (hxi:A5 r.nms i s=x.id) (hkx:x.kind=2) (hbl:Bq r i2 x.id=true) (ho:A5 r.nms i2 s2≠0) (hox:A5 r.nms i2 s2≠x.id) :
  Calls Tryz.prog 73 #[.pointer (some ⟨f,0,none⟩),.agg #[.int .i64 i,.int .i64 g],.string s,.agg #[.int .i64 i2,.int .i64 g2],.string s2] w λe w'=>e=.returned (.int .i64 178)/\Below w.heap.size w w':=by
 obtain⟨w2,hw2,hB,hz2,hb0,hb1⟩:=Gj w #[.int .i64 i,.int .i64 g] #[.int .i64 i2,.int .i64 g2] 31 31;have t0:w2.cell? ⟨w.heap.size,0,none⟩=some (.int .i64 i):=by rw[A1 hb0];rfl
 have t1:w2.cell? ⟨w.heap.size,1,none⟩=some (.int .i64 g):=by rw[A1 hb0];rfl
 have t2:w2.cell? ⟨w.heap.size+1,0,none⟩=some (.int .i64 i2):=by rw[A1 hb1];rfl
 have t3:w2.cell? ⟨w.heap.size+1,1,none⟩=some (.int .i64 g2):=by rw[A1 hb1];rfl
 have h2:=h.below hW hB;have HW2:=aa hw2;have HB:=aa hB;have hrp2:=hrp.below (.inr (.inl hkp)) hB;have hrq2:=hrq.below (.inr (.inl hkq)) hB;have hpl:=Bn h2 hW i g s hs i2 g2 s2 hs2 hl hl2 hk hk2 hv hv2 hnp hnq (hrp.id.trans hpi) (hrq.id.trans hqi);have HP:=aa hpl;have HAt:=aa (show ∀w4,Below w2.heap.size w2 w4->Calls Tryz.prog 59 #[.agg #[.pointer (some ⟨np.blk,0,none⟩),.pointer (some ⟨np.b,0,none⟩),.string s]] w4 λe w'=>e=.returned (.tuple #[.int .i64 (A5 r.nms i s),.bool (decide (A5 r.nms i s≠0))])/\Below w4.heap.size w4 w' from λw4 hb=>by have hr4:=hrp2.below (.inr (.inl hkp)) hb;have:=B8 hr4 hkp (hr4.lt (.inr (.inl hkp))) s (some ⟨np.blk,0,none⟩);rw[hpi,hW.entry_some] at this;exact this)
 have HAt2:=aa (show ∀w4,Below w2.heap.size w2 w4->Calls Tryz.prog 59 #[.agg #[.pointer (some ⟨nq.blk,0,none⟩),.pointer (some ⟨nq.b,0,none⟩),.string s2]] w4 λe w'=>e=.returned (.tuple #[.int .i64 (A5 r.nms i2 s2),.bool (decide (A5 r.nms i2 s2≠0))])/\Below w4.heap.size w4 w' from λw4 hb=>by have hr4:=hrq2.below (.inr (.inl hkq)) hb;have:=B8 hr4 hkq (hr4.lt (.inr (.inl hkq))) s2 (some ⟨nq.blk,0,none⟩);rw[hqi,hW.entry_some] at this;exact this)
 have hx0:x.id≠0:=hW.ne0 hx;rw[hxi,decide_eq_true hx0] at HAt;have hrx2:=hrx.below (hW.kind x hx) hB;have HX:=aa (show ∀w',Below w2.heap.size w2 w'->w'.cell? ⟨f,1,none⟩=some (.map (some mi))/\w'.cell? ⟨nx.blk,5,none⟩=some (Ab x nx)/\(Instr.lookup 144 (.map (some mi)) (.int .i64 x.id) false).run Tryz.prog w'=.ok (.pointer (some ⟨nx.blk,0,none⟩)) w'/\w'.cell? ⟨nq.blk,0,none⟩=some (.int .i64 i2)/\w'.cell? ⟨nq.blk,4,none⟩=some (.int .i64 (A4 r q:Int)) from λw' hb=>by have h4:=h2.below hW hb;have hg:=h4.get hnx;rw[hrx.id] at hg;have hlk:=(h4.look x.id).2;rw[hg] at hlk;have hq4:=(hrq2.below (.inr (.inl hkq)) hb).cells;exact⟨h4.cells.2.1,(hrx2.below (hW.kind x hx) hb).cells.2.2.2.2.2,hlk,by rw[<-hqi];exact hq4.1,hq4.2.2.2.2.1⟩)
 have hta:∀w,(Instr.typeAssert (Ab x nx) 20 135 true).run Tryz.prog w=.ok (.tuple #[.pointer (some ⟨nx.b,0,none⟩),.bool true]) w:=λw=>by rw[Ce,dp hkx];rfl
 rw[decide_eq_true ho] at HAt2;have hbq:(A5 r.nms i2 s2==x.id)=false:=by rw[beq_eq_false_iff_ne];exact hox
 have HBl:=aa (show ∀w',Below w2.heap.size w2 w'->Calls Tryz.prog 100 #[.pointer (some ⟨f,0,none⟩),.int .i64 i2,.int .i64 x.id] w' λe w''=>e=.returned (.bool true)/\w'=w'' from λw' hb=>by have:=Dr (h2.below hW hb) hW hq hkq x.id;rw[hqi,hbl] at this;exact this)
 clear hw2 hB hb0 hb1 h h2 hW hrp2 hrq2 hpl _hp hkp hnp hrp hq hkq hnq hrq hpi hqi hl hl2 hk hk2 hv hv2 hx hnx hrx hxi hx0 hrx2 ho hkx hbl hox
 go_enter Tryz.func73,Tryz.ntmps73
 go_wp2_with fail
 rw[HW2.out]
 go_upto_region 4 with(go_at_call 99;(with_reducible refine HP.out.mono ?_);rintro e w3 ⟨rfl,hB3⟩;have hs3:=hB3.size;replace hB3:=aa hB3)
 obtain⟨w4,hw4,hB4,hs4,hb40,hb41⟩:=Gj w3 #[.pointer (some ⟨np.blk,0,none⟩),.pointer (some ⟨np.b,0,none⟩),.string s] #[.pointer (some ⟨nq.blk,0,none⟩),.pointer (some ⟨nq.b,0,none⟩),.string s2] 137 137;rw[hw4];have c0:w4.cell? ⟨w3.heap.size,0,none⟩=some (.pointer (some ⟨np.blk,0,none⟩)):=by rw[A1 hb40];rfl
 have c1:w4.cell? ⟨w3.heap.size,1,none⟩=some (.pointer (some ⟨np.b,0,none⟩)):=by rw[A1 hb40];rfl
 have c2:w4.cell? ⟨w3.heap.size,2,none⟩=some (.string s):=by rw[A1 hb40];rfl
 have HQ1:=aa hb40;have HQ2:=aa hb41;have HB4:=aa (hB3.out.trans (hB4.mono (by omega)));clear hw4 hb40 hb41 hB4
 go_wp2_with (first
  | (go_at_call 59;(with_reducible refine(HAt.out w4 HB4.out).mono ?_);rintro e w5 ⟨rfl,hB5⟩;have hs5:=hB5.size;have hY:=(hB5.block _ (by omega)).trans HQ2.out;have d0:w5.cell? ⟨w3.heap.size+1,0,none⟩=_:=A1 hY 0;have d1:w5.cell? ⟨w3.heap.size+1,1,none⟩=_:=A1 hY 1;have d2:w5.cell? ⟨w3.heap.size+1,2,none⟩=_:=A1 hY 2;have HQ25:=aa hY;have HQ15:=aa ((hB5.block _ (by omega)).trans HQ1.out);clear hY;have HB5:=aa (HB4.out.trans (hB5.mono HB4.out.size));obtain⟨x1,x2,x3,-,-⟩:=HX.out w5 HB5.out;clear hB5)
  | (go_at_call 59;(with_reducible refine(HAt2.out w5 HB5.out).mono ?_);rintro e w6 ⟨rfl,hB6⟩;have hs6:=hB6.size;have HQ26:=aa ((hB6.block _ (by omega)).trans HQ25.out);have HQ16:=aa ((hB6.block _ (by omega)).trans HQ15.out);have e0:w6.cell? ⟨w3.heap.size,0,none⟩=_:=A1 HQ16.out 0;have g0:w6.cell? ⟨w3.heap.size+1,0,none⟩=_:=A1 HQ26.out 0;have HB6:=aa (HB5.out.trans (hB6.mono HB5.out.size));obtain⟨y1,y2,y3,y4,y5⟩:=HX.out w6 HB6.out;clear hB6)
  | (go_at_call 100;(with_reducible refine(HBl.out w6 HB6.out).mono ?_);rintro e w7 ⟨rfl,rfl⟩))
 go_ret
 exact⟨rfl,HB.out.trans (HB6.out.mono (by omega))⟩
set_option maxRecDepth 100000 in
set_option maxHeartbeats 8000000 in
theorem Su {w:World}{f mi mg K:Nat}{r:RFs}{N:List Nd}(h:FsN w f mi mg r N)(hW:Wf r K)(i g:Int)(s:ByteArray)(hs:s.size<=maxLen)(i2 g2:Int)(s2:ByteArray)(hs2:s2.size<=maxLen)
  {p q:RIn} {np nq:Nd} (_hp:p∈r.ins) (hkp:p.kind=2) (hnp:np∈N) (hrp:NodeR w r p np) (_hq:q∈r.ins) (hkq:q.kind=2) (hnq:nq∈N) (hrq:NodeR w r q nq) (hpi:p.id=i) (hqi:q.id=i2)
  (hl:An r (i,g)=true) (hl2:An r (i2,g2)=true) (hk:(A3 r.ins i).kind=2) (hk2:(A3 r.ins i2).kind=2) (hv:Aj s=true) (hv2:Aj s2=true)
  {x:RIn} {nx:Nd} (hx:x∈r.ins) (hnx:nx∈N) (hrx:NodeR w r x nx) (hxi:A5 r.nms i s=x.id) {o:RIn} {no:Nd} (ho:o∈r.ins) (hno:no∈N) (hro:NodeR w r o no) (hoi:A5 r.nms i2 s2=o.id) (hox:o.id≠x.id) (hkx:¬x.kind=2) (hmy:Hw r o false≠0) :
  Calls Tryz.prog 73 #[.pointer (some ⟨f,0,none⟩),.agg #[.int .i64 i,.int .i64 g],.string s,.agg #[.int .i64 i2,.int .i64 g2],.string s2] w λe w'=>e=.returned (.int .i64 (Hw r o false))/\Below w.heap.size w w':=by
 obtain⟨w2,hw2,hB,hz2,hb0,hb1⟩:=Gj w #[.int .i64 i,.int .i64 g] #[.int .i64 i2,.int .i64 g2] 31 31;have t0:w2.cell? ⟨w.heap.size,0,none⟩=some (.int .i64 i):=by rw[A1 hb0];rfl
 have t1:w2.cell? ⟨w.heap.size,1,none⟩=some (.int .i64 g):=by rw[A1 hb0];rfl
 have t2:w2.cell? ⟨w.heap.size+1,0,none⟩=some (.int .i64 i2):=by rw[A1 hb1];rfl
 have t3:w2.cell? ⟨w.heap.size+1,1,none⟩=some (.int .i64 g2):=by rw[A1 hb1];rfl
 have h2:=h.below hW hB;have HW2:=aa hw2;have HB:=aa hB;have hrp2:=hrp.below (.inr (.inl hkp)) hB;have hrq2:=hrq.below (.inr (.inl hkq)) hB;have hpl:=Bn h2 hW i g s hs i2 g2 s2 hs2 hl hl2 hk hk2 hv hv2 hnp hnq (hrp.id.trans hpi) (hrq.id.trans hqi);have HP:=aa hpl;have HAt:=aa (show ∀w4,Below w2.heap.size w2 w4->Calls Tryz.prog 59 #[.agg #[.pointer (some ⟨np.blk,0,none⟩),.pointer (some ⟨np.b,0,none⟩),.string s]] w4 λe w'=>e=.returned (.tuple #[.int .i64 (A5 r.nms i s),.bool (decide (A5 r.nms i s≠0))])/\Below w4.heap.size w4 w' from λw4 hb=>by have hr4:=hrp2.below (.inr (.inl hkp)) hb;have:=B8 hr4 hkp (hr4.lt (.inr (.inl hkp))) s (some ⟨np.blk,0,none⟩);rw[hpi,hW.entry_some] at this;exact this)
 have HAt2:=aa (show ∀w4,Below w2.heap.size w2 w4->Calls Tryz.prog 59 #[.agg #[.pointer (some ⟨nq.blk,0,none⟩),.pointer (some ⟨nq.b,0,none⟩),.string s2]] w4 λe w'=>e=.returned (.tuple #[.int .i64 (A5 r.nms i2 s2),.bool (decide (A5 r.nms i2 s2≠0))])/\Below w4.heap.size w4 w' from λw4 hb=>by have hr4:=hrq2.below (.inr (.inl hkq)) hb;have:=B8 hr4 hkq (hr4.lt (.inr (.inl hkq))) s2 (some ⟨nq.blk,0,none⟩);rw[hqi,hW.entry_some] at this;exact this)
 have hx0:x.id≠0:=hW.ne0 hx;rw[hxi,decide_eq_true hx0] at HAt;have hrx2:=hrx.below (hW.kind x hx) hB;have HX:=aa (show ∀w',Below w2.heap.size w2 w'->w'.cell? ⟨f,1,none⟩=some (.map (some mi))/\w'.cell? ⟨nx.blk,5,none⟩=some (Ab x nx)/\(Instr.lookup 144 (.map (some mi)) (.int .i64 x.id) false).run Tryz.prog w'=.ok (.pointer (some ⟨nx.blk,0,none⟩)) w'/\w'.cell? ⟨nq.blk,0,none⟩=some (.int .i64 i2)/\w'.cell? ⟨nq.blk,4,none⟩=some (.int .i64 (A4 r q:Int)) from λw' hb=>by have h4:=h2.below hW hb;have hg:=h4.get hnx;rw[hrx.id] at hg;have hlk:=(h4.look x.id).2;rw[hg] at hlk;have hq4:=(hrq2.below (.inr (.inl hkq)) hb).cells;exact⟨h4.cells.2.1,(hrx2.below (hW.kind x hx) hb).cells.2.2.2.2.2,hlk,by rw[<-hqi];exact hq4.1,hq4.2.2.2.2.1⟩)
 have hta:∀w,(Instr.typeAssert (Ab x nx) 20 135 true).run Tryz.prog w=.ok (.tuple #[.pointer none,.bool false]) w:=λw=>by rw[Ce,dn hkx]
 have ho0:o.id≠0:=hW.ne0 ho;rw[hoi,decide_eq_true ho0] at HAt2;have hbq:(o.id==x.id)=false:=by rw[beq_eq_false_iff_ne];exact hox
 have hro2:=hro.below (hW.kind o ho) hB;have HO:=aa (show ∀w',Below w2.heap.size w2 w'->(Instr.lookup 144 (.map (some mi)) (.int .i64 o.id) false).run Tryz.prog w'=.ok (.pointer (some ⟨no.blk,0,none⟩)) w' from λw' hb=>by have h4:=h2.below hW hb;have hg:=h4.get hno;rw[hro.id] at hg;have hlk:=(h4.look o.id).2;rw[hg] at hlk;exact hlk)
 have HMy:=aa (show ∀w',Below w2.heap.size w2 w'->Calls Tryz.prog 97 #[.pointer (some ⟨f,0,none⟩),.pointer (some ⟨no.blk,0,none⟩),.bool false] w' λe w''=>e=.returned (.int .i64 (Hw r o false))/\w'=w'' from λw' hb=>by have:=Hm (hro2.below (hW.kind o ho) hb) false (some ⟨f,0,none⟩);exact this)
 have hmn:(Hw r o false != 0)=true:=by rw[bne_iff_ne];exact hmy
 generalize Hw r o false=my at *;clear hw2 hB hb0 hb1 h h2 hW hrp2 hrq2 hpl _hp hkp hnp hrp _hq hkq hnq hrq hpi hqi hl hl2 hk hk2 hv hv2 hx hnx hrx hxi hx0 hrx2 hkx hmy ho hno hro hoi hox ho0 hro2
 go_enter Tryz.func73,Tryz.ntmps73
 go_wp2_with fail
 rw[HW2.out]
 go_upto_region 4 with(go_at_call 99;(with_reducible refine HP.out.mono ?_);rintro e w3 ⟨rfl,hB3⟩;have hs3:=hB3.size;replace hB3:=aa hB3)
 obtain⟨w4,hw4,hB4,hs4,hb40,hb41⟩:=Gj w3 #[.pointer (some ⟨np.blk,0,none⟩),.pointer (some ⟨np.b,0,none⟩),.string s] #[.pointer (some ⟨nq.blk,0,none⟩),.pointer (some ⟨nq.b,0,none⟩),.string s2] 137 137;rw[hw4];have c0:w4.cell? ⟨w3.heap.size,0,none⟩=some (.pointer (some ⟨np.blk,0,none⟩)):=by rw[A1 hb40];rfl
 have c1:w4.cell? ⟨w3.heap.size,1,none⟩=some (.pointer (some ⟨np.b,0,none⟩)):=by rw[A1 hb40];rfl
 have c2:w4.cell? ⟨w3.heap.size,2,none⟩=some (.string s):=by rw[A1 hb40];rfl
 have HQ1:=aa hb40;have HQ2:=aa hb41;have HB4:=aa (hB3.out.trans (hB4.mono (by omega)));clear hw4 hb40 hb41 hB4
 go_wp2_with (first
  | (go_at_call 59;(with_reducible refine(HAt.out w4 HB4.out).mono ?_);rintro e w5 ⟨rfl,hB5⟩;have hs5:=hB5.size;have hY:=(hB5.block _ (by omega)).trans HQ2.out;have d0:w5.cell? ⟨w3.heap.size+1,0,none⟩=_:=A1 hY 0;have d1:w5.cell? ⟨w3.heap.size+1,1,none⟩=_:=A1 hY 1;have d2:w5.cell? ⟨w3.heap.size+1,2,none⟩=_:=A1 hY 2;have HQ25:=aa hY;have HQ15:=aa ((hB5.block _ (by omega)).trans HQ1.out);clear hY;have HB5:=aa (HB4.out.trans (hB5.mono HB4.out.size));obtain⟨x1,x2,x3,-,-⟩:=HX.out w5 HB5.out;clear hB5)
  | (go_at_call 59;(with_reducible refine(HAt2.out w5 HB5.out).mono ?_);rintro e w6 ⟨rfl,hB6⟩;have hs6:=hB6.size;have HQ26:=aa ((hB6.block _ (by omega)).trans HQ25.out);have HQ16:=aa ((hB6.block _ (by omega)).trans HQ15.out);have e0:w6.cell? ⟨w3.heap.size,0,none⟩=_:=A1 HQ16.out 0;have g0:w6.cell? ⟨w3.heap.size+1,0,none⟩=_:=A1 HQ26.out 0;have HB6:=aa (HB5.out.trans (hB6.mono HB5.out.size));obtain⟨y1,y2,y3,y4,y5⟩:=HX.out w6 HB6.out;clear hB6;have z1:=HO.out w6 HB6.out)
  | (go_at_call 100;(with_reducible refine(HBl.out w6 HB6.out).mono ?_);rintro e w7 ⟨rfl,rfl⟩)
  | (go_at_call 97;(with_reducible refine(HMy.out w6 HB6.out).mono ?_);rintro e w7 ⟨rfl,rfl⟩))
 go_ret
 exact⟨rfl,HB.out.trans (HB6.out.mono (by omega))⟩
set_option maxRecDepth 100000 in
set_option maxHeartbeats 8000000 in
theorem Ta {w:World}{f mi mg K:Nat}{r:RFs}{N:List Nd}(h:FsN w f mi mg r N)(hW:Wf r K)(i g:Int)(s:ByteArray)(hs:s.size<=maxLen)(i2 g2:Int)(s2:ByteArray)(hs2:s2.size<=maxLen)
  {p q:RIn} {np nq:Nd} (_hp:p∈r.ins) (hkp:p.kind=2) (hnp:np∈N) (hrp:NodeR w r p np) (hq:q∈r.ins) (hkq:q.kind=2) (hnq:nq∈N) (hrq:NodeR w r q nq) (hpi:p.id=i) (hqi:q.id=i2)
  (hl:An r (i,g)=true) (hl2:An r (i2,g2)=true) (hk:(A3 r.ins i).kind=2) (hk2:(A3 r.ins i2).kind=2) (hv:Aj s=true) (hv2:Aj s2=true)
  {x:RIn} {nx:Nd} (hx:x∈r.ins) (hnx:nx∈N) (hrx:NodeR w r x nx) (hxi:A5 r.nms i s=x.id) {o:RIn} {no:Nd} (ho:o∈r.ins) (hno:no∈N) (hro:NodeR w r o no) (hoi:A5 r.nms i2 s2=o.id) (hox:o.id≠x.id) (hkx:x.kind=2) (hbl:Bq r i2 x.id=false) (hmy:Hw r o true≠0) :
  Calls Tryz.prog 73 #[.pointer (some ⟨f,0,none⟩),.agg #[.int .i64 i,.int .i64 g],.string s,.agg #[.int .i64 i2,.int .i64 g2],.string s2] w λe w'=>e=.returned (.int .i64 (Hw r o true))/\Below w.heap.size w w':=by
 obtain⟨w2,hw2,hB,hz2,hb0,hb1⟩:=Gj w #[.int .i64 i,.int .i64 g] #[.int .i64 i2,.int .i64 g2] 31 31;have t0:w2.cell? ⟨w.heap.size,0,none⟩=some (.int .i64 i):=by rw[A1 hb0];rfl
 have t1:w2.cell? ⟨w.heap.size,1,none⟩=some (.int .i64 g):=by rw[A1 hb0];rfl
 have t2:w2.cell? ⟨w.heap.size+1,0,none⟩=some (.int .i64 i2):=by rw[A1 hb1];rfl
 have t3:w2.cell? ⟨w.heap.size+1,1,none⟩=some (.int .i64 g2):=by rw[A1 hb1];rfl
 have h2:=h.below hW hB;have HW2:=aa hw2;have HB:=aa hB;have hrp2:=hrp.below (.inr (.inl hkp)) hB;have hrq2:=hrq.below (.inr (.inl hkq)) hB;have hpl:=Bn h2 hW i g s hs i2 g2 s2 hs2 hl hl2 hk hk2 hv hv2 hnp hnq (hrp.id.trans hpi) (hrq.id.trans hqi);have HP:=aa hpl;have HAt:=aa (show ∀w4,Below w2.heap.size w2 w4->Calls Tryz.prog 59 #[.agg #[.pointer (some ⟨np.blk,0,none⟩),.pointer (some ⟨np.b,0,none⟩),.string s]] w4 λe w'=>e=.returned (.tuple #[.int .i64 (A5 r.nms i s),.bool (decide (A5 r.nms i s≠0))])/\Below w4.heap.size w4 w' from λw4 hb=>by have hr4:=hrp2.below (.inr (.inl hkp)) hb;have:=B8 hr4 hkp (hr4.lt (.inr (.inl hkp))) s (some ⟨np.blk,0,none⟩);rw[hpi,hW.entry_some] at this;exact this)
 have HAt2:=aa (show ∀w4,Below w2.heap.size w2 w4->Calls Tryz.prog 59 #[.agg #[.pointer (some ⟨nq.blk,0,none⟩),.pointer (some ⟨nq.b,0,none⟩),.string s2]] w4 λe w'=>e=.returned (.tuple #[.int .i64 (A5 r.nms i2 s2),.bool (decide (A5 r.nms i2 s2≠0))])/\Below w4.heap.size w4 w' from λw4 hb=>by have hr4:=hrq2.below (.inr (.inl hkq)) hb;have:=B8 hr4 hkq (hr4.lt (.inr (.inl hkq))) s2 (some ⟨nq.blk,0,none⟩);rw[hqi,hW.entry_some] at this;exact this)
 have hx0:x.id≠0:=hW.ne0 hx;rw[hxi,decide_eq_true hx0] at HAt;have hrx2:=hrx.below (hW.kind x hx) hB;have HX:=aa (show ∀w',Below w2.heap.size w2 w'->w'.cell? ⟨f,1,none⟩=some (.map (some mi))/\w'.cell? ⟨nx.blk,5,none⟩=some (Ab x nx)/\(Instr.lookup 144 (.map (some mi)) (.int .i64 x.id) false).run Tryz.prog w'=.ok (.pointer (some ⟨nx.blk,0,none⟩)) w'/\w'.cell? ⟨nq.blk,0,none⟩=some (.int .i64 i2)/\w'.cell? ⟨nq.blk,4,none⟩=some (.int .i64 (A4 r q:Int)) from λw' hb=>by have h4:=h2.below hW hb;have hg:=h4.get hnx;rw[hrx.id] at hg;have hlk:=(h4.look x.id).2;rw[hg] at hlk;have hq4:=(hrq2.below (.inr (.inl hkq)) hb).cells;exact⟨h4.cells.2.1,(hrx2.below (hW.kind x hx) hb).cells.2.2.2.2.2,hlk,by rw[<-hqi];exact hq4.1,hq4.2.2.2.2.1⟩)
 have hta:∀w,(Instr.typeAssert (Ab x nx) 20 135 true).run Tryz.prog w=.ok (.tuple #[.pointer (some ⟨nx.b,0,none⟩),.bool true]) w:=λw=>by rw[Ce,dp hkx];rfl
 have ho0:o.id≠0:=hW.ne0 ho;rw[hoi,decide_eq_true ho0] at HAt2;have hbq:(o.id==x.id)=false:=by rw[beq_eq_false_iff_ne];exact hox
 have hro2:=hro.below (hW.kind o ho) hB;have HO:=aa (show ∀w',Below w2.heap.size w2 w'->(Instr.lookup 144 (.map (some mi)) (.int .i64 o.id) false).run Tryz.prog w'=.ok (.pointer (some ⟨no.blk,0,none⟩)) w' from λw' hb=>by have h4:=h2.below hW hb;have hg:=h4.get hno;rw[hro.id] at hg;have hlk:=(h4.look o.id).2;rw[hg] at hlk;exact hlk)
 have HMy:=aa (show ∀w',Below w2.heap.size w2 w'->Calls Tryz.prog 97 #[.pointer (some ⟨f,0,none⟩),.pointer (some ⟨no.blk,0,none⟩),.bool true] w' λe w''=>e=.returned (.int .i64 (Hw r o true))/\w'=w'' from λw' hb=>by have:=Hm (hro2.below (hW.kind o ho) hb) true (some ⟨f,0,none⟩);exact this)
 have HBl:=aa (show ∀w',Below w2.heap.size w2 w'->Calls Tryz.prog 100 #[.pointer (some ⟨f,0,none⟩),.int .i64 i2,.int .i64 x.id] w' λe w''=>e=.returned (.bool false)/\w'=w'' from λw' hb=>by have:=Dr (h2.below hW hb) hW hq hkq x.id;rw[hqi,hbl] at this;exact this)
 have hmn:(Hw r o true != 0)=true:=by rw[bne_iff_ne];exact hmy
 generalize Hw r o true=my at *;clear hw2 hB hb0 hb1 h h2 hW hrp2 hrq2 hpl _hp hkp hnp hrp hq hkq hnq hrq hpi hqi hl hl2 hk hk2 hv hv2 hx hnx hrx hxi hx0 hrx2 hkx hmy ho hno hro hoi hox ho0 hro2 hbl
 go_enter Tryz.func73,Tryz.ntmps73
 go_wp2_with fail
 rw[HW2.out]
 go_upto_region 4 with(go_at_call 99;(with_reducible refine HP.out.mono ?_);rintro e w3 ⟨rfl,hB3⟩;have hs3:=hB3.size;replace hB3:=aa hB3)
 obtain⟨w4,hw4,hB4,hs4,hb40,hb41⟩:=Gj w3 #[.pointer (some ⟨np.blk,0,none⟩),.pointer (some ⟨np.b,0,none⟩),.string s] #[.pointer (some ⟨nq.blk,0,none⟩),.pointer (some ⟨nq.b,0,none⟩),.string s2] 137 137;rw[hw4];have c0:w4.cell? ⟨w3.heap.size,0,none⟩=some (.pointer (some ⟨np.blk,0,none⟩)):=by rw[A1 hb40];rfl
 have c1:w4.cell? ⟨w3.heap.size,1,none⟩=some (.pointer (some ⟨np.b,0,none⟩)):=by rw[A1 hb40];rfl
 have c2:w4.cell? ⟨w3.heap.size,2,none⟩=some (.string s):=by rw[A1 hb40];rfl
 have HQ1:=aa hb40;have HQ2:=aa hb41;have HB4:=aa (hB3.out.trans (hB4.mono (by omega)));clear hw4 hb40 hb41 hB4
 go_wp2_with (first
  | (go_at_call 59;(with_reducible refine(HAt.out w4 HB4.out).mono ?_);rintro e w5 ⟨rfl,hB5⟩;have hs5:=hB5.size;have hY:=(hB5.block _ (by omega)).trans HQ2.out;have d0:w5.cell? ⟨w3.heap.size+1,0,none⟩=_:=A1 hY 0;have d1:w5.cell? ⟨w3.heap.size+1,1,none⟩=_:=A1 hY 1;have d2:w5.cell? ⟨w3.heap.size+1,2,none⟩=_:=A1 hY 2;have HQ25:=aa hY;have HQ15:=aa ((hB5.block _ (by omega)).trans HQ1.out);clear hY;have HB5:=aa (HB4.out.trans (hB5.mono HB4.out.size));obtain⟨x1,x2,x3,-,-⟩:=HX.out w5 HB5.out;clear hB5)
  | (go_at_call 59;(with_reducible refine(HAt2.out w5 HB5.out).mono ?_);rintro e w6 ⟨rfl,hB6⟩;have hs6:=hB6.size;have HQ26:=aa ((hB6.block _ (by omega)).trans HQ25.out);have HQ16:=aa ((hB6.block _ (by omega)).trans HQ15.out);have e0:w6.cell? ⟨w3.heap.size,0,none⟩=_:=A1 HQ16.out 0;have g0:w6.cell? ⟨w3.heap.size+1,0,none⟩=_:=A1 HQ26.out 0;have HB6:=aa (HB5.out.trans (hB6.mono HB5.out.size));obtain⟨y1,y2,y3,y4,y5⟩:=HX.out w6 HB6.out;clear hB6;have z1:=HO.out w6 HB6.out)
  | (go_at_call 100;(with_reducible refine(HBl.out w6 HB6.out).mono ?_);rintro e w7 ⟨rfl,rfl⟩)
  | (go_at_call 97;(with_reducible refine(HMy.out w6 HB6.out).mono ?_);rintro e w7 ⟨rfl,rfl⟩))
 go_ret
 exact⟨rfl,HB.out.trans (HB6.out.mono (by omega))⟩
set_option maxRecDepth 100000 in
set_option maxHeartbeats 8000000 in
theorem Q4 {w:World}{f mi mg K:Nat}{r:RFs}{N:List Nd}(h:FsN w f mi mg r N)(hW:Wf r K)(i g:Int)(s:ByteArray)(hs:s.size<=maxLen)(i2 g2:Int)(s2:ByteArray)(hs2:s2.size<=maxLen)
  {p q:RIn} {np nq:Nd} (_hp:p∈r.ins) (hkp:p.kind=2) (hnp:np∈N) (hrp:NodeR w r p np) (hq:q∈r.ins) (hkq:q.kind=2) (hnq:nq∈N) (hrq:NodeR w r q nq) (hpi:p.id=i) (hqi:q.id=i2)
  (hl:An r (i,g)=true) (hl2:An r (i2,g2)=true) (hk:(A3 r.ins i).kind=2) (hk2:(A3 r.ins i2).kind=2) (hv:Aj s=true) (hv2:Aj s2=true)
  {x:RIn} {nx:Nd} (hx:x∈r.ins) (hnx:nx∈N) (hrx:NodeR w r x nx) (hxi:A5 r.nms i s=x.id) (hkx:x.kind=2) (hbl:Bq r i2 x.id=false) (ho:A5 r.nms i2 s2=0) (hpq:np.blk≠nq.blk) (hlq:20<=A4 r q) :
  Calls Tryz.prog 73 #[.pointer (some ⟨f,0,none⟩),.agg #[.int .i64 i,.int .i64 g],.string s,.agg #[.int .i64 i2,.int .i64 g2],.string s2] w λe w'=>e=.returned (.int .i64 179)/\Below w.heap.size w w':=by
 obtain⟨w2,hw2,hB,hz2,hb0,hb1⟩:=Gj w #[.int .i64 i,.int .i64 g] #[.int .i64 i2,.int .i64 g2] 31 31;have t0:w2.cell? ⟨w.heap.size,0,none⟩=some (.int .i64 i):=by rw[A1 hb0];rfl
 have t1:w2.cell? ⟨w.heap.size,1,none⟩=some (.int .i64 g):=by rw[A1 hb0];rfl
 have t2:w2.cell? ⟨w.heap.size+1,0,none⟩=some (.int .i64 i2):=by rw[A1 hb1];rfl
 have t3:w2.cell? ⟨w.heap.size+1,1,none⟩=some (.int .i64 g2):=by rw[A1 hb1];rfl
 have h2:=h.below hW hB;have HW2:=aa hw2;have HB:=aa hB;have hrp2:=hrp.below (.inr (.inl hkp)) hB;have hrq2:=hrq.below (.inr (.inl hkq)) hB;have hpl:=Bn h2 hW i g s hs i2 g2 s2 hs2 hl hl2 hk hk2 hv hv2 hnp hnq (hrp.id.trans hpi) (hrq.id.trans hqi);have HP:=aa hpl;have HAt:=aa (show ∀w4,Below w2.heap.size w2 w4->Calls Tryz.prog 59 #[.agg #[.pointer (some ⟨np.blk,0,none⟩),.pointer (some ⟨np.b,0,none⟩),.string s]] w4 λe w'=>e=.returned (.tuple #[.int .i64 (A5 r.nms i s),.bool (decide (A5 r.nms i s≠0))])/\Below w4.heap.size w4 w' from λw4 hb=>by have hr4:=hrp2.below (.inr (.inl hkp)) hb;have:=B8 hr4 hkp (hr4.lt (.inr (.inl hkp))) s (some ⟨np.blk,0,none⟩);rw[hpi,hW.entry_some] at this;exact this)
 have HAt2:=aa (show ∀w4,Below w2.heap.size w2 w4->Calls Tryz.prog 59 #[.agg #[.pointer (some ⟨nq.blk,0,none⟩),.pointer (some ⟨nq.b,0,none⟩),.string s2]] w4 λe w'=>e=.returned (.tuple #[.int .i64 (A5 r.nms i2 s2),.bool (decide (A5 r.nms i2 s2≠0))])/\Below w4.heap.size w4 w' from λw4 hb=>by have hr4:=hrq2.below (.inr (.inl hkq)) hb;have:=B8 hr4 hkq (hr4.lt (.inr (.inl hkq))) s2 (some ⟨nq.blk,0,none⟩);rw[hqi,hW.entry_some] at this;exact this)
 have hx0:x.id≠0:=hW.ne0 hx;rw[hxi,decide_eq_true hx0] at HAt;have hrx2:=hrx.below (hW.kind x hx) hB;have HX:=aa (show ∀w',Below w2.heap.size w2 w'->w'.cell? ⟨f,1,none⟩=some (.map (some mi))/\w'.cell? ⟨nx.blk,5,none⟩=some (Ab x nx)/\(Instr.lookup 144 (.map (some mi)) (.int .i64 x.id) false).run Tryz.prog w'=.ok (.pointer (some ⟨nx.blk,0,none⟩)) w'/\w'.cell? ⟨nq.blk,0,none⟩=some (.int .i64 i2)/\w'.cell? ⟨nq.blk,4,none⟩=some (.int .i64 (A4 r q:Int)) from λw' hb=>by have h4:=h2.below hW hb;have hg:=h4.get hnx;rw[hrx.id] at hg;have hlk:=(h4.look x.id).2;rw[hg] at hlk;have hq4:=(hrq2.below (.inr (.inl hkq)) hb).cells;exact⟨h4.cells.2.1,(hrx2.below (hW.kind x hx) hb).cells.2.2.2.2.2,hlk,by rw[<-hqi];exact hq4.1,hq4.2.2.2.2.1⟩)
 have hta:∀w,(Instr.typeAssert (Ab x nx) 20 135 true).run Tryz.prog w=.ok (.tuple #[.pointer (some ⟨nx.b,0,none⟩),.bool true]) w:=λw=>by rw[Ce,dp hkx];rfl
 rw[ho] at HAt2;simp only[ne_eq,not_true_eq_false,decide_false] at HAt2;have HBl:=aa (show ∀w',Below w2.heap.size w2 w'->Calls Tryz.prog 100 #[.pointer (some ⟨f,0,none⟩),.int .i64 i2,.int .i64 x.id] w' λe w''=>e=.returned (.bool false)/\w'=w'' from λw' hb=>by have:=Dr (h2.below hW hb) hW hq hkq x.id;rw[hqi,hbl] at this;exact this)
 have q3:decide (20<=(A4 r q:Int))=true:=decide_eq_true (by omega);have q4:decide (20<=A4 r q)=true:=decide_eq_true hlq;have HNq:=aa (show ∀w',Below w2.heap.size w2 w'->(binOp .neq 134 (.pointer (some ⟨np.blk,0,none⟩)) (.pointer (some ⟨nq.blk,0,none⟩))).run Tryz.prog w'=.ok (.bool true) w' from λw' hb=>by have:=Rx (hrp2.below (.inr (.inl hkp)) hb).head (hrq2.below (.inr (.inl hkq)) hb).head;rw[decide_eq_false hpq] at this;exact this)
 clear hw2 hB hb0 hb1 h h2 hW hrp2 hrq2 hpl _hp hkp hnp hrp hq hkq hnq hrq hpi hqi hl hl2 hk hk2 hv hv2 hx hnx hrx hxi hx0 hrx2 ho hkx hbl hpq
 go_enter Tryz.func73,Tryz.ntmps73
 go_wp2_with fail
 rw[HW2.out]
 go_upto_region 4 with(go_at_call 99;(with_reducible refine HP.out.mono ?_);rintro e w3 ⟨rfl,hB3⟩;have hs3:=hB3.size;replace hB3:=aa hB3)
 obtain⟨w4,hw4,hB4,hs4,hb40,hb41⟩:=Gj w3 #[.pointer (some ⟨np.blk,0,none⟩),.pointer (some ⟨np.b,0,none⟩),.string s] #[.pointer (some ⟨nq.blk,0,none⟩),.pointer (some ⟨nq.b,0,none⟩),.string s2] 137 137;rw[hw4];have c0:w4.cell? ⟨w3.heap.size,0,none⟩=some (.pointer (some ⟨np.blk,0,none⟩)):=by rw[A1 hb40];rfl
 have c1:w4.cell? ⟨w3.heap.size,1,none⟩=some (.pointer (some ⟨np.b,0,none⟩)):=by rw[A1 hb40];rfl
 have c2:w4.cell? ⟨w3.heap.size,2,none⟩=some (.string s):=by rw[A1 hb40];rfl
 have HQ1:=aa hb40;have HQ2:=aa hb41;have HB4:=aa (hB3.out.trans (hB4.mono (by omega)));clear hw4 hb40 hb41 hB4
 go_wp2_with (first
  | (go_at_call 59;(with_reducible refine(HAt.out w4 HB4.out).mono ?_);rintro e w5 ⟨rfl,hB5⟩;have hs5:=hB5.size;have hY:=(hB5.block _ (by omega)).trans HQ2.out;have d0:w5.cell? ⟨w3.heap.size+1,0,none⟩=_:=A1 hY 0;have d1:w5.cell? ⟨w3.heap.size+1,1,none⟩=_:=A1 hY 1;have d2:w5.cell? ⟨w3.heap.size+1,2,none⟩=_:=A1 hY 2;have HQ25:=aa hY;have HQ15:=aa ((hB5.block _ (by omega)).trans HQ1.out);clear hY;have HB5:=aa (HB4.out.trans (hB5.mono HB4.out.size));obtain⟨x1,x2,x3,-,-⟩:=HX.out w5 HB5.out;clear hB5)
  | (go_at_call 59;(with_reducible refine(HAt2.out w5 HB5.out).mono ?_);rintro e w6 ⟨rfl,hB6⟩;have hs6:=hB6.size;have HQ26:=aa ((hB6.block _ (by omega)).trans HQ25.out);have HQ16:=aa ((hB6.block _ (by omega)).trans HQ15.out);have e0:w6.cell? ⟨w3.heap.size,0,none⟩=_:=A1 HQ16.out 0;have g0:w6.cell? ⟨w3.heap.size+1,0,none⟩=_:=A1 HQ26.out 0;have HB6:=aa (HB5.out.trans (hB6.mono HB5.out.size));obtain⟨y1,y2,y3,y4,y5⟩:=HX.out w6 HB6.out;clear hB6;have y6:=HNq.out w6 HB6.out)
  | (go_at_call 100;(with_reducible refine(HBl.out w6 HB6.out).mono ?_);rintro e w7 ⟨rfl,rfl⟩))
 go_ret
 exact⟨rfl,HB.out.trans (HB6.out.mono (by omega))⟩
set_option maxRecDepth 100000 in
set_option maxHeartbeats 8000000 in
theorem Rh {w:World}{f mi mg K:Nat}{r:RFs}{N:List Nd}(h:FsN w f mi mg r N)(hW:Wf r K)(i g:Int)(s:ByteArray)(hs:s.size<=maxLen)(i2 g2:Int)(s2:ByteArray)(hs2:s2.size<=maxLen)
  {p q:RIn} {np nq:Nd} (hp:p∈r.ins) (hkp:p.kind=2) (hnp:np∈N) (hrp:NodeR w r p np) (hq:q∈r.ins) (hkq:q.kind=2) (hnq:nq∈N) (hrq:NodeR w r q nq) (hpi:p.id=i) (hqi:q.id=i2)
  (hl:An r (i,g)=true) (hl2:An r (i2,g2)=true) (hk:(A3 r.ins i).kind=2) (hk2:(A3 r.ins i2).kind=2) (hv:Aj s=true) (hv2:Aj s2=true)
  {x:RIn} {nx:Nd} (hx:x∈r.ins) (hnx:nx∈N) (hrx:NodeR w r x nx) (hxi:A5 r.nms i s=x.id) (hxq:x.id≠q.id) (ho:A5 r.nms i2 s2=0) (hkx:¬x.kind=2) (hpq:np.blk≠nq.blk) :
  Calls Tryz.prog 73 #[.pointer (some ⟨f,0,none⟩),.agg #[.int .i64 i,.int .i64 g],.string s,.agg #[.int .i64 i2,.int .i64 g2],.string s2] w λe w'=>e=.returned (.int .i64 0)/\Cm w w' f mi mg N (Aq r i s i2 s2 x):=by
 obtain⟨w2,hw2,hB,hz2,hb0,hb1⟩:=Gj w #[.int .i64 i,.int .i64 g] #[.int .i64 i2,.int .i64 g2] 31 31;have t0:w2.cell? ⟨w.heap.size,0,none⟩=some (.int .i64 i):=by rw[A1 hb0];rfl
 have t1:w2.cell? ⟨w.heap.size,1,none⟩=some (.int .i64 g):=by rw[A1 hb0];rfl
 have t2:w2.cell? ⟨w.heap.size+1,0,none⟩=some (.int .i64 i2):=by rw[A1 hb1];rfl
 have t3:w2.cell? ⟨w.heap.size+1,1,none⟩=some (.int .i64 g2):=by rw[A1 hb1];rfl
 have h2:=h.below hW hB;have HW2:=aa hw2;have HB:=aa hB;have hrp2:=hrp.below (.inr (.inl hkp)) hB;have hrq2:=hrq.below (.inr (.inl hkq)) hB;have hpl:=Bn h2 hW i g s hs i2 g2 s2 hs2 hl hl2 hk hk2 hv hv2 hnp hnq (hrp.id.trans hpi) (hrq.id.trans hqi);have HP:=aa hpl;have HAt:=aa (show ∀w4,Below w2.heap.size w2 w4->Calls Tryz.prog 59 #[.agg #[.pointer (some ⟨np.blk,0,none⟩),.pointer (some ⟨np.b,0,none⟩),.string s]] w4 λe w'=>e=.returned (.tuple #[.int .i64 (A5 r.nms i s),.bool (decide (A5 r.nms i s≠0))])/\Below w4.heap.size w4 w' from λw4 hb=>by have hr4:=hrp2.below (.inr (.inl hkp)) hb;have:=B8 hr4 hkp (hr4.lt (.inr (.inl hkp))) s (some ⟨np.blk,0,none⟩);rw[hpi,hW.entry_some] at this;exact this)
 have HAt2:=aa (show ∀w4,Below w2.heap.size w2 w4->Calls Tryz.prog 59 #[.agg #[.pointer (some ⟨nq.blk,0,none⟩),.pointer (some ⟨nq.b,0,none⟩),.string s2]] w4 λe w'=>e=.returned (.tuple #[.int .i64 (A5 r.nms i2 s2),.bool (decide (A5 r.nms i2 s2≠0))])/\Below w4.heap.size w4 w' from λw4 hb=>by have hr4:=hrq2.below (.inr (.inl hkq)) hb;have:=B8 hr4 hkq (hr4.lt (.inr (.inl hkq))) s2 (some ⟨nq.blk,0,none⟩);rw[hqi,hW.entry_some] at this;exact this)
 have hx0:x.id≠0:=hW.ne0 hx;rw[hxi,decide_eq_true hx0] at HAt;have hrx2:=hrx.below (hW.kind x hx) hB;have HX:=aa (show ∀w',Below w2.heap.size w2 w'->w'.cell? ⟨f,1,none⟩=some (.map (some mi))/\w'.cell? ⟨nx.blk,5,none⟩=some (Ab x nx)/\(Instr.lookup 144 (.map (some mi)) (.int .i64 x.id) false).run Tryz.prog w'=.ok (.pointer (some ⟨nx.blk,0,none⟩)) w'/\w'.cell? ⟨nq.blk,0,none⟩=some (.int .i64 i2)/\w'.cell? ⟨nq.blk,4,none⟩=some (.int .i64 (A4 r q:Int)) from λw' hb=>by have h4:=h2.below hW hb;have hg:=h4.get hnx;rw[hrx.id] at hg;have hlk:=(h4.look x.id).2;rw[hg] at hlk;have hq4:=(hrq2.below (.inr (.inl hkq)) hb).cells;exact⟨h4.cells.2.1,(hrx2.below (hW.kind x hx) hb).cells.2.2.2.2.2,hlk,by rw[<-hqi];exact hq4.1,hq4.2.2.2.2.1⟩)
 have hta:∀w,(Instr.typeAssert (Ab x nx) 20 135 true).run Tryz.prog w=.ok (.tuple #[.pointer none,.bool false]) w:=λw=>by rw[Ce,dn hkx]
 have hh0:A5 r.nms i s≠0:=by rw[hxi];exact hW.ne0 hx
 obtain⟨n0,hn0,m1,m2,m3⟩:=B9 hh0;rw[hxi] at m3;rw[<-hpi] at m1;have hxp:x.id≠p.id:=by rw[<-m3,<-m1];exact hW.self_ne hn0
 have HH:=aa h;have HWf:=aa hW;have HR:=aa (And.intro hrx (And.intro hrp hrq));have HM:=aa (And.intro hx (And.intro hp hq));have HN:=aa (And.intro hnx (And.intro hnp hnq));have H0:=aa (And.intro hn0 (And.intro m1 (And.intro m2 m3)));have HK:=aa (And.intro hkp hkq);have HI:=aa (And.intro hpi hqi);have HXP:=aa hxp;have HNo:=aa (Di hW (l:=r.nms) (λ_ hn=>hn) ho);have HN6:=aa (show ∀w',Below w2.heap.size w2 w'->FsN w' f mi mg r N/\NodeR w' r p np/\NodeR w' r q nq/\NodeR w' r x nx from λw' hb=>⟨h2.below hW hb,hrp2.below (.inr (.inl hkp)) hb,hrq2.below (.inr (.inl hkq)) hb,hrx2.below (hW.kind x hx) hb⟩);rw[ho] at HAt2;simp only[ne_eq,not_true_eq_false,decide_false] at HAt2;have HKX:=aa hkx;have HXQ:=aa hxq;have HAg:=aa (show(Au (A9 r.nms q.id) s2).isSome=false by rw[hW.entry_some,hqi,ho];rfl);have hmm:nq.m≠np.m:=λe=>hpq (by
  by_cases c:nq=np
  .rw[c]
  .exact dq (e ▸ Nd.m_mem (hrp.ne hkp).1) (h.apart hnq hnp c _ (Nd.m_mem (hrq.ne hkq).1)))
 have HMm:=aa hmm;have HPB:=aa hpq;have HPQ:=aa (show p.id≠q.id from λe=>hpq (by rw[B4 h.idU hnp hnq (hrp.id.trans (e.trans hrq.id.symm))]));clear hw2 hB hb0 hb1 h h2 hW hrp2 hrq2 hpl hp hkp hnp hrp hq hkq hnq hrq hpi hqi hl hl2 hk hk2 hv hv2 hx hnx hrx hxi hx0 hrx2 ho hkx hpq hmm hxq hh0 hn0 m1 m2 m3 hxp
 go_enter Tryz.func73,Tryz.ntmps73
 go_wp2_with fail
 rw[HW2.out]
 go_upto_region 4 with(go_at_call 99;(with_reducible refine HP.out.mono ?_);rintro e w3 ⟨rfl,hB3⟩;have hs3:=hB3.size;replace hB3:=aa hB3)
 obtain⟨w4,hw4,hB4,hs4,hb40,hb41⟩:=Gj w3 #[.pointer (some ⟨np.blk,0,none⟩),.pointer (some ⟨np.b,0,none⟩),.string s] #[.pointer (some ⟨nq.blk,0,none⟩),.pointer (some ⟨nq.b,0,none⟩),.string s2] 137 137;rw[hw4];have c0:w4.cell? ⟨w3.heap.size,0,none⟩=some (.pointer (some ⟨np.blk,0,none⟩)):=by rw[A1 hb40];rfl
 have c1:w4.cell? ⟨w3.heap.size,1,none⟩=some (.pointer (some ⟨np.b,0,none⟩)):=by rw[A1 hb40];rfl
 have c2:w4.cell? ⟨w3.heap.size,2,none⟩=some (.string s):=by rw[A1 hb40];rfl
 have HQ1:=aa hb40;have HQ2:=aa hb41;have HB4:=aa (hB3.out.trans (hB4.mono (by omega)));clear hw4 hb40 hb41 hB4
 go_upto_region 22 with(first
  | (go_at_call 59;(with_reducible refine(HAt.out w4 HB4.out).mono ?_);rintro e w5 ⟨rfl,hB5⟩;have hs5:=hB5.size;have hY:=(hB5.block _ (by omega)).trans HQ2.out;have d0:w5.cell? ⟨w3.heap.size+1,0,none⟩=_:=A1 hY 0;have d1:w5.cell? ⟨w3.heap.size+1,1,none⟩=_:=A1 hY 1;have d2:w5.cell? ⟨w3.heap.size+1,2,none⟩=_:=A1 hY 2;have HQ25:=aa hY;have HQ15:=aa ((hB5.block _ (by omega)).trans HQ1.out);clear hY;have HB5:=aa (HB4.out.trans (hB5.mono HB4.out.size));obtain⟨x1,x2,x3,-,-⟩:=HX.out w5 HB5.out;clear hB5)
  | (go_at_call 59;(with_reducible refine(HAt2.out w5 HB5.out).mono ?_);rintro e w6 ⟨rfl,hB6⟩;have hs6:=hB6.size;have HQ26:=aa ((hB6.block _ (by omega)).trans HQ25.out);have HQ16:=aa ((hB6.block _ (by omega)).trans HQ15.out);have e0:w6.cell? ⟨w3.heap.size,0,none⟩=_:=A1 HQ16.out 0;have g0:w6.cell? ⟨w3.heap.size+1,0,none⟩=_:=A1 HQ26.out 0;have HB6:=aa (HB5.out.trans (hB6.mono HB5.out.size));obtain⟨y1,y2,y3,y4,y5⟩:=HX.out w6 HB6.out;clear hB6))
 obtain⟨F6,P6,Q6,X6⟩:=HN6.out w6 HB6.out;have a1:w6.cell? ⟨w3.heap.size,1,none⟩=some (.pointer (some ⟨np.b,0,none⟩)):=by rw[A1 HQ16.out];rfl
 have a2:w6.cell? ⟨np.b,0,none⟩=some (.map (some np.m)):=by rw[A1 (P6.dir HK.out.1).1];rfl
 have hm6:MapB w6 np.m Cd Ar (A9 r.nms p.id):=(P6.dir HK.out.1).2;obtain⟨o1,hdel,hmp1⟩:=Br (P:=Tryz.prog) (ty:=0) (tk:=9) KS (t:=150) Tryz.underlying150 hm6 s;unfold Cd at hdel;have M1:=aa hmp1;have G6:=aa F6;have P6':=aa P6;have Q6':=aa Q6;have X6':=aa X6;clear F6 P6 Q6 X6 hm6 hmp1
 go_upto_region 23 with fail
 obtain⟨w7,hw7⟩:∃w7,putObj w6 np.m o1=w7:=⟨_,rfl⟩;rw[hw7];have k7:∀k,k≠np.m->w7.heap[k]?=w6.heap[k]?:=λk hk=>by rw[<-hw7];exact A8 w6 o1 hk
 rw[hw7] at M1;have W7:=aa hw7;have K7:=aa k7;have b1:w7.cell? ⟨w3.heap.size+1,1,none⟩=some (.pointer (some ⟨nq.b,0,none⟩)):=by rw[A1 ((k7 _ (A7 (P6'.out.dir HK.out.1).2 HQ26.out).symm).trans HQ26.out)];rfl
 have b2:w7.cell? ⟨nq.b,0,none⟩=some (.map (some nq.m)):=by rw[A1 ((k7 _ (A7 (P6'.out.dir HK.out.1).2 (Q6'.out.dir HK.out.2).1).symm).trans (Q6'.out.dir HK.out.2).1)];rfl
 have hm7:MapB w7 nq.m Cd Ar (A9 r.nms q.id):=(Q6'.out.dir HK.out.2).2.of_block (k7 _ HMm.out);have hag:(Au (A9 r.nms q.id) s2).isSome=false:=HAg.out;obtain⟨o2,hup,hmp2⟩:=Ag KS (P:=Tryz.prog) (t:=150) Tryz.underlying150 hm7 s2 x.id;rw[By hag] at hmp2;unfold Cd Ar at hup;have M2:=aa hmp2;clear hm7 hag hmp2 hw7 k7 hdel a1 a2
 go_upto_region 24 with fail
 obtain⟨w8,hw8⟩:∃w8,putObj w7 nq.m o2=w8:=⟨_,rfl⟩;rw[hw8];rw[hw8] at M2;have W8:=aa hw8;have K8:=aa (show ∀k,k≠nq.m->w8.heap[k]?=w7.heap[k]? from λk hk=>by rw[<-hw8];exact A8 w7 o2 hk);clear hw8 hup b1 b2
 go_wp2
 go_ret
 refine⟨rfl,?_⟩;obtain⟨ei,eq⟩:=HI.out;subst ei eq;obtain⟨hx,hp,hq⟩:=HM.out;obtain⟨hnx,hnp,hnq⟩:=HN.out;obtain⟨hrx,hrp,hrq⟩:=HR.out;obtain⟨hn0,m1,m2,m3⟩:=H0.out;have B6:=HB.out.trans (HB6.out.mono (show w.heap.size<=w2.heap.size by omega));have hlk:=λy=>Bw HWf.out hx hn0 m3 q.id s2 (y:=y) (y':=y) rfl rfl;rw[m1,m2] at hlk;have hns:∀j,A9 (Aq r p.id s q.id s2 x).nms j=_:=λj=>by rw[Cg,Aw,As]
 have pm:=(P6'.out.dir HK.out.1).2;have qm:=(Q6'.out.dir HK.out.2).2;have hl:∀y,A4 (Aq r p.id s q.id s2 x) y=A4 r y:=λy=>by have:=hlk y;rw[dn (λe=>HKX.out e.2.1),dn (λe=>HKX.out e.2.1)] at this;exact this
 refine⟨N,Ej HH.out HWf.out hx hnx hrx hp HK.out.1 hnp hrp hq HK.out.2 hnq hrq hn0 m1 m2 m3 HXP.out HXQ.out (λk hk a b _ _ _=>(K8.out k b).trans ((K7.out k a).trans (B6.block k hk))) ?_ ?_ ?_ ?_ (λe=>dq e HKX.out),λk hk=>.inl hk,?_⟩
 .rw[hns,dn HPQ.out,dp rfl];exact M1.out.of_block (K8.out _ (λe=>HMm.out e.symm))
 .rw[hns,dp rfl,dn (λe=>HPQ.out e.symm)];exact M2.out
 .rw[hl];exact(K8.out _ (A7 qm P6'.out.head).symm).trans ((K7.out _ (A7 pm P6'.out.head).symm).trans P6'.out.head)
 .rw[hl];exact(K8.out _ (A7 qm Q6'.out.head).symm).trans ((K7.out _ (A7 pm Q6'.out.head).symm).trans Q6'.out.head)
 .rw[<-W8.out,<-W7.out];exact((Frm.of_below B6).putObj (.inl (Af hnp (Nd.m_mem (hrp.ne HK.out.1).1))) o1).putObj (.inl (Af hnq (Nd.m_mem (hrq.ne HK.out.2).1))) o2
set_option maxRecDepth 100000 in
set_option maxHeartbeats 8000000 in
theorem Se {w:World}{f mi mg K:Nat}{r:RFs}{N:List Nd}(h:FsN w f mi mg r N)(hW:Wf r K)(i g:Int)(s:ByteArray)(hs:s.size<=maxLen)(i2 g2:Int)(s2:ByteArray)(hs2:s2.size<=maxLen)
  {p q:RIn} {np nq:Nd} (hp:p∈r.ins) (hkp:p.kind=2) (hnp:np∈N) (hrp:NodeR w r p np) (hq:q∈r.ins) (hkq:q.kind=2) (hnq:nq∈N) (hrq:NodeR w r q nq) (hpi:p.id=i) (hqi:q.id=i2)
  (hl:An r (i,g)=true) (hl2:An r (i2,g2)=true) (hk:(A3 r.ins i).kind=2) (hk2:(A3 r.ins i2).kind=2) (hv:Aj s=true) (hv2:Aj s2=true)
  {x:RIn} {nx:Nd} (hx:x∈r.ins) (hnx:nx∈N) (hrx:NodeR w r x nx) (hxi:A5 r.nms i s=x.id) (hxq:x.id≠q.id) (ho:A5 r.nms i2 s2=0) (hkx:¬x.kind=2) (hpq:np=nq) :
  Calls Tryz.prog 73 #[.pointer (some ⟨f,0,none⟩),.agg #[.int .i64 i,.int .i64 g],.string s,.agg #[.int .i64 i2,.int .i64 g2],.string s2] w λe w'=>e=.returned (.int .i64 0)/\Cm w w' f mi mg N (Aq r i s i2 s2 x):=by
 subst hpq;obtain rfl:=h.uniq hW hp hrp hq hrq;obtain rfl:i=i2:=hpi.symm.trans hqi;obtain⟨w2,hw2,hB,hz2,hb0,hb1⟩:=Gj w #[.int .i64 i,.int .i64 g] #[.int .i64 i,.int .i64 g2] 31 31;have t0:w2.cell? ⟨w.heap.size,0,none⟩=some (.int .i64 i):=by rw[A1 hb0];rfl
 have t1:w2.cell? ⟨w.heap.size,1,none⟩=some (.int .i64 g):=by rw[A1 hb0];rfl
 have t2:w2.cell? ⟨w.heap.size+1,0,none⟩=some (.int .i64 i):=by rw[A1 hb1];rfl
 have t3:w2.cell? ⟨w.heap.size+1,1,none⟩=some (.int .i64 g2):=by rw[A1 hb1];rfl
 have h2:=h.below hW hB;have HW2:=aa hw2;have HB:=aa hB;have hrp2:=hrp.below (.inr (.inl hkp)) hB;have hrq2:=hrq.below (.inr (.inl hkq)) hB;have hpl:=Bn h2 hW i g s hs i g2 s2 hs2 hl hl2 hk hk2 hv hv2 hnp hnq (hrp.id.trans hpi) (hrq.id.trans hqi);have HP:=aa hpl;have HAt:=aa (show ∀w4,Below w2.heap.size w2 w4->Calls Tryz.prog 59 #[.agg #[.pointer (some ⟨np.blk,0,none⟩),.pointer (some ⟨np.b,0,none⟩),.string s]] w4 λe w'=>e=.returned (.tuple #[.int .i64 (A5 r.nms i s),.bool (decide (A5 r.nms i s≠0))])/\Below w4.heap.size w4 w' from λw4 hb=>by have hr4:=hrp2.below (.inr (.inl hkp)) hb;have:=B8 hr4 hkp (hr4.lt (.inr (.inl hkp))) s (some ⟨np.blk,0,none⟩);rw[hpi,hW.entry_some] at this;exact this)
 have HAt2:=aa (show ∀w4,Below w2.heap.size w2 w4->Calls Tryz.prog 59 #[.agg #[.pointer (some ⟨np.blk,0,none⟩),.pointer (some ⟨np.b,0,none⟩),.string s2]] w4 λe w'=>e=.returned (.tuple #[.int .i64 (A5 r.nms i s2),.bool (decide (A5 r.nms i s2≠0))])/\Below w4.heap.size w4 w' from λw4 hb=>by have hr4:=hrq2.below (.inr (.inl hkq)) hb;have:=B8 hr4 hkq (hr4.lt (.inr (.inl hkq))) s2 (some ⟨np.blk,0,none⟩);rw[hqi,hW.entry_some] at this;exact this)
 have hx0:x.id≠0:=hW.ne0 hx;rw[hxi,decide_eq_true hx0] at HAt;have hrx2:=hrx.below (hW.kind x hx) hB;have HX:=aa (show ∀w',Below w2.heap.size w2 w'->w'.cell? ⟨f,1,none⟩=some (.map (some mi))/\w'.cell? ⟨nx.blk,5,none⟩=some (Ab x nx)/\(Instr.lookup 144 (.map (some mi)) (.int .i64 x.id) false).run Tryz.prog w'=.ok (.pointer (some ⟨nx.blk,0,none⟩)) w'/\w'.cell? ⟨np.blk,0,none⟩=some (.int .i64 i)/\w'.cell? ⟨np.blk,4,none⟩=some (.int .i64 (A4 r p:Int)) from λw' hb=>by have h4:=h2.below hW hb;have hg:=h4.get hnx;rw[hrx.id] at hg;have hlk:=(h4.look x.id).2;rw[hg] at hlk;have hq4:=(hrq2.below (.inr (.inl hkq)) hb).cells;exact⟨h4.cells.2.1,(hrx2.below (hW.kind x hx) hb).cells.2.2.2.2.2,hlk,by rw[<-hqi];exact hq4.1,hq4.2.2.2.2.1⟩)
 have hta:∀w,(Instr.typeAssert (Ab x nx) 20 135 true).run Tryz.prog w=.ok (.tuple #[.pointer none,.bool false]) w:=λw=>by rw[Ce,dn hkx]
 have hh0:A5 r.nms i s≠0:=by rw[hxi];exact hW.ne0 hx
 obtain⟨n0,hn0,m1,m2,m3⟩:=B9 hh0;rw[hxi] at m3;rw[<-hpi] at m1;have hxp:x.id≠p.id:=by rw[<-m3,<-m1];exact hW.self_ne hn0
 have HH:=aa h;have HWf:=aa hW;have HR:=aa (And.intro hrx (And.intro hrp hrq));have HM:=aa (And.intro hx (And.intro hp hq));have HN:=aa (And.intro hnx (And.intro hnp hnq));have H0:=aa (And.intro hn0 (And.intro m1 (And.intro m2 m3)));have HK:=aa (And.intro hkp hkq);have HI:=aa (And.intro hpi hqi);have HXP:=aa hxp;have HNo:=aa (Di hW (l:=r.nms) (λ_ hn=>hn) ho);have HN6:=aa (show ∀w',Below w2.heap.size w2 w'->FsN w' f mi mg r N/\NodeR w' r p np/\NodeR w' r p np/\NodeR w' r x nx from λw' hb=>⟨h2.below hW hb,hrp2.below (.inr (.inl hkp)) hb,hrq2.below (.inr (.inl hkq)) hb,hrx2.below (hW.kind x hx) hb⟩);rw[ho] at HAt2;simp only[ne_eq,not_true_eq_false,decide_false] at HAt2;have HKX:=aa hkx;have HXQ:=aa hxq;have HAg:=aa (show(Au (He (A9 r.nms p.id) s) s2).isSome=false from by
  have h0:(Au (A9 r.nms p.id) s2).isSome=false:=by rw[hW.entry_some,hqi,ho];rfl
  have h1:Au (A9 r.nms p.id) s2=none:=by cases hh:Au (A9 r.nms p.id) s2 with
   | none=>rfl
   | some v=>rw[hh] at h0;cases h0
  rw[Cq] at h1;have h2:Au (He (A9 r.nms p.id) s) s2=none:=by rw[Cq];intro z hz;exact h1 z (af.1 hz).1
  rw[h2];rfl)
 clear hw2 hB hb0 hb1 h h2 hW hrp2 hrq2 hpl hp hkp hnp hrp hq hkq hnq hrq hpi hqi hl hl2 hk hk2 hv hv2 hx hnx hrx hxi hx0 hrx2 ho hkx hxq hh0 hn0 m1 m2 m3 hxp
 go_enter Tryz.func73,Tryz.ntmps73
 go_wp2_with fail
 rw[HW2.out]
 go_upto_region 4 with(go_at_call 99;(with_reducible refine HP.out.mono ?_);rintro e w3 ⟨rfl,hB3⟩;have hs3:=hB3.size;replace hB3:=aa hB3)
 obtain⟨w4,hw4,hB4,hs4,hb40,hb41⟩:=Gj w3 #[.pointer (some ⟨np.blk,0,none⟩),.pointer (some ⟨np.b,0,none⟩),.string s] #[.pointer (some ⟨np.blk,0,none⟩),.pointer (some ⟨np.b,0,none⟩),.string s2] 137 137;rw[hw4];have c0:w4.cell? ⟨w3.heap.size,0,none⟩=some (.pointer (some ⟨np.blk,0,none⟩)):=by rw[A1 hb40];rfl
 have c1:w4.cell? ⟨w3.heap.size,1,none⟩=some (.pointer (some ⟨np.b,0,none⟩)):=by rw[A1 hb40];rfl
 have c2:w4.cell? ⟨w3.heap.size,2,none⟩=some (.string s):=by rw[A1 hb40];rfl
 have HQ1:=aa hb40;have HQ2:=aa hb41;have HB4:=aa (hB3.out.trans (hB4.mono (by omega)));clear hw4 hb40 hb41 hB4
 go_upto_region 22 with(first
  | (go_at_call 59;(with_reducible refine(HAt.out w4 HB4.out).mono ?_);rintro e w5 ⟨rfl,hB5⟩;have hs5:=hB5.size;have hY:=(hB5.block _ (by omega)).trans HQ2.out;have d0:w5.cell? ⟨w3.heap.size+1,0,none⟩=_:=A1 hY 0;have d1:w5.cell? ⟨w3.heap.size+1,1,none⟩=_:=A1 hY 1;have d2:w5.cell? ⟨w3.heap.size+1,2,none⟩=_:=A1 hY 2;have HQ25:=aa hY;have HQ15:=aa ((hB5.block _ (by omega)).trans HQ1.out);clear hY;have HB5:=aa (HB4.out.trans (hB5.mono HB4.out.size));obtain⟨x1,x2,x3,-,-⟩:=HX.out w5 HB5.out;clear hB5)
  | (go_at_call 59;(with_reducible refine(HAt2.out w5 HB5.out).mono ?_);rintro e w6 ⟨rfl,hB6⟩;have hs6:=hB6.size;have HQ26:=aa ((hB6.block _ (by omega)).trans HQ25.out);have HQ16:=aa ((hB6.block _ (by omega)).trans HQ15.out);have e0:w6.cell? ⟨w3.heap.size,0,none⟩=_:=A1 HQ16.out 0;have g0:w6.cell? ⟨w3.heap.size+1,0,none⟩=_:=A1 HQ26.out 0;have HB6:=aa (HB5.out.trans (hB6.mono HB5.out.size));obtain⟨y1,y2,y3,y4,y5⟩:=HX.out w6 HB6.out;clear hB6))
 obtain⟨F6,P6,Q6,X6⟩:=HN6.out w6 HB6.out;have a1:w6.cell? ⟨w3.heap.size,1,none⟩=some (.pointer (some ⟨np.b,0,none⟩)):=by rw[A1 HQ16.out];rfl
 have a2:w6.cell? ⟨np.b,0,none⟩=some (.map (some np.m)):=by rw[A1 (P6.dir HK.out.1).1];rfl
 have hm6:MapB w6 np.m Cd Ar (A9 r.nms p.id):=(P6.dir HK.out.1).2;obtain⟨o1,hdel,hmp1⟩:=Br (P:=Tryz.prog) (ty:=0) (tk:=9) KS (t:=150) Tryz.underlying150 hm6 s;unfold Cd at hdel;have M1:=aa hmp1;have G6:=aa F6;have P6':=aa P6;have Q6':=aa Q6;have X6':=aa X6;clear F6 P6 Q6 X6 hm6 hmp1
 go_upto_region 23 with fail
 obtain⟨w7,hw7⟩:∃w7,putObj w6 np.m o1=w7:=⟨_,rfl⟩;rw[hw7];have k7:∀k,k≠np.m->w7.heap[k]?=w6.heap[k]?:=λk hk=>by rw[<-hw7];exact A8 w6 o1 hk
 rw[hw7] at M1;have W7:=aa hw7;have K7:=aa k7;have b1:w7.cell? ⟨w3.heap.size+1,1,none⟩=some (.pointer (some ⟨np.b,0,none⟩)):=by rw[A1 ((k7 _ (A7 (P6'.out.dir HK.out.1).2 HQ26.out).symm).trans HQ26.out)];rfl
 have b2:w7.cell? ⟨np.b,0,none⟩=some (.map (some np.m)):=by rw[A1 ((k7 _ (A7 (P6'.out.dir HK.out.1).2 (Q6'.out.dir HK.out.2).1).symm).trans (Q6'.out.dir HK.out.2).1)];rfl
 have hm7:MapB w7 np.m Cd Ar (He (A9 r.nms p.id) s):=M1.out;have hag:(Au (He (A9 r.nms p.id) s) s2).isSome=false:=HAg.out;obtain⟨o2,hup,hmp2⟩:=Ag KS (P:=Tryz.prog) (t:=150) Tryz.underlying150 hm7 s2 x.id;rw[By hag] at hmp2;unfold Cd Ar at hup;have M2:=aa hmp2;clear hm7 hag hmp2 hw7 k7 hdel a1 a2
 go_upto_region 24 with fail
 obtain⟨w8,hw8⟩:∃w8,putObj w7 np.m o2=w8:=⟨_,rfl⟩;rw[hw8];rw[hw8] at M2;have W8:=aa hw8;have K8:=aa (show ∀k,k≠np.m->w8.heap[k]?=w7.heap[k]? from λk hk=>by rw[<-hw8];exact A8 w7 o2 hk);clear hw8 hup b1 b2
 go_wp2
 go_ret
 refine⟨rfl,?_⟩;obtain⟨ei,-⟩:=HI.out;subst ei;obtain⟨hx,hp,hq⟩:=HM.out;obtain⟨hnx,hnp,hnq⟩:=HN.out;obtain⟨hrx,hrp,hrq⟩:=HR.out;obtain⟨hn0,m1,m2,m3⟩:=H0.out;have B6:=HB.out.trans (HB6.out.mono (show w.heap.size<=w2.heap.size by omega));have hlk:=λy=>Bw HWf.out hx hn0 m3 p.id s2 (y:=y) (y':=y) rfl rfl;rw[m1,m2] at hlk;have hns:∀j,A9 (Aq r p.id s p.id s2 x).nms j=_:=λj=>by rw[Cg,Aw,As]
 have pm:=(P6'.out.dir HK.out.1).2;have qm:=(Q6'.out.dir HK.out.2).2;have hl:∀y,A4 (Aq r p.id s p.id s2 x) y=A4 r y:=λy=>by have:=hlk y;rw[dn (λe=>HKX.out e.2.1)] at this;exact this
 refine⟨N,Ej HH.out HWf.out hx hnx hrx hp HK.out.1 hnp hrp hq HK.out.2 hnq hrq hn0 m1 m2 m3 HXP.out HXQ.out (λk hk a b _ _ _=>(K8.out k b).trans ((K7.out k a).trans (B6.block k hk))) ?_ ?_ ?_ ?_ (λe=>dq e HKX.out),λk hk=>.inl hk,?_⟩
 .rw[hns,dp rfl,dp rfl];exact M2.out
 .rw[hns,dp rfl,dp rfl];exact M2.out
 .rw[hl];exact(K8.out _ (A7 qm P6'.out.head).symm).trans ((K7.out _ (A7 pm P6'.out.head).symm).trans P6'.out.head)
 .rw[hl];exact(K8.out _ (A7 qm Q6'.out.head).symm).trans ((K7.out _ (A7 pm Q6'.out.head).symm).trans Q6'.out.head)
 .rw[<-W8.out,<-W7.out];exact((Frm.of_below B6).putObj (.inl (Af hnp (Nd.m_mem (hrp.ne HK.out.1).1))) o1).putObj (.inl (Af hnq (Nd.m_mem (hrq.ne HK.out.2).1))) o2
set_option maxRecDepth 100000 in
set_option maxHeartbeats 8000000 in
theorem Ry {w:World}{f mi mg K:Nat}{r:RFs}{N:List Nd}(h:FsN w f mi mg r N)(hW:Wf r K)(i g:Int)(s:ByteArray)(hs:s.size<=maxLen)(i2 g2:Int)(s2:ByteArray)(hs2:s2.size<=maxLen)
  {p q:RIn} {np nq:Nd} (hp:p∈r.ins) (hkp:p.kind=2) (hnp:np∈N) (hrp:NodeR w r p np) (hq:q∈r.ins) (hkq:q.kind=2) (hnq:nq∈N) (hrq:NodeR w r q nq) (hpi:p.id=i) (hqi:q.id=i2)
  (hl:An r (i,g)=true) (hl2:An r (i2,g2)=true) (hk:(A3 r.ins i).kind=2) (hk2:(A3 r.ins i2).kind=2) (hv:Aj s=true) (hv2:Aj s2=true)
  {x:RIn} {nx:Nd} (hx:x∈r.ins) (hnx:nx∈N) (hrx:NodeR w r x nx) (hxi:A5 r.nms i s=x.id) (hxq:x.id≠q.id) (ho:A5 r.nms i2 s2=0) (hkx:x.kind=2) (hbl:Bq r i2 x.id=false) (hpq:np.blk≠nq.blk) (hlq:A4 r q < 20) :
  Calls Tryz.prog 73 #[.pointer (some ⟨f,0,none⟩),.agg #[.int .i64 i,.int .i64 g],.string s,.agg #[.int .i64 i2,.int .i64 g2],.string s2] w λe w'=>e=.returned (.int .i64 0)/\Cm w w' f mi mg N (Aq r i s i2 s2 x):=by
 obtain⟨w2,hw2,hB,hz2,hb0,hb1⟩:=Gj w #[.int .i64 i,.int .i64 g] #[.int .i64 i2,.int .i64 g2] 31 31;have t0:w2.cell? ⟨w.heap.size,0,none⟩=some (.int .i64 i):=by rw[A1 hb0];rfl
 have t1:w2.cell? ⟨w.heap.size,1,none⟩=some (.int .i64 g):=by rw[A1 hb0];rfl
 have t2:w2.cell? ⟨w.heap.size+1,0,none⟩=some (.int .i64 i2):=by rw[A1 hb1];rfl
 have t3:w2.cell? ⟨w.heap.size+1,1,none⟩=some (.int .i64 g2):=by rw[A1 hb1];rfl
 have h2:=h.below hW hB;have HW2:=aa hw2;have HB:=aa hB;have hrp2:=hrp.below (.inr (.inl hkp)) hB;have hrq2:=hrq.below (.inr (.inl hkq)) hB;have hpl:=Bn h2 hW i g s hs i2 g2 s2 hs2 hl hl2 hk hk2 hv hv2 hnp hnq (hrp.id.trans hpi) (hrq.id.trans hqi);have HP:=aa hpl;have HAt:=aa (show ∀w4,Below w2.heap.size w2 w4->Calls Tryz.prog 59 #[.agg #[.pointer (some ⟨np.blk,0,none⟩),.pointer (some ⟨np.b,0,none⟩),.string s]] w4 λe w'=>e=.returned (.tuple #[.int .i64 (A5 r.nms i s),.bool (decide (A5 r.nms i s≠0))])/\Below w4.heap.size w4 w' from λw4 hb=>by have hr4:=hrp2.below (.inr (.inl hkp)) hb;have:=B8 hr4 hkp (hr4.lt (.inr (.inl hkp))) s (some ⟨np.blk,0,none⟩);rw[hpi,hW.entry_some] at this;exact this)
 have HAt2:=aa (show ∀w4,Below w2.heap.size w2 w4->Calls Tryz.prog 59 #[.agg #[.pointer (some ⟨nq.blk,0,none⟩),.pointer (some ⟨nq.b,0,none⟩),.string s2]] w4 λe w'=>e=.returned (.tuple #[.int .i64 (A5 r.nms i2 s2),.bool (decide (A5 r.nms i2 s2≠0))])/\Below w4.heap.size w4 w' from λw4 hb=>by have hr4:=hrq2.below (.inr (.inl hkq)) hb;have:=B8 hr4 hkq (hr4.lt (.inr (.inl hkq))) s2 (some ⟨nq.blk,0,none⟩);rw[hqi,hW.entry_some] at this;exact this)
 have hx0:x.id≠0:=hW.ne0 hx;rw[hxi,decide_eq_true hx0] at HAt;have hrx2:=hrx.below (hW.kind x hx) hB;have HX:=aa (show ∀w',Below w2.heap.size w2 w'->w'.cell? ⟨f,1,none⟩=some (.map (some mi))/\w'.cell? ⟨nx.blk,5,none⟩=some (Ab x nx)/\(Instr.lookup 144 (.map (some mi)) (.int .i64 x.id) false).run Tryz.prog w'=.ok (.pointer (some ⟨nx.blk,0,none⟩)) w'/\w'.cell? ⟨nq.blk,0,none⟩=some (.int .i64 i2)/\w'.cell? ⟨nq.blk,4,none⟩=some (.int .i64 (A4 r q:Int)) from λw' hb=>by have h4:=h2.below hW hb;have hg:=h4.get hnx;rw[hrx.id] at hg;have hlk:=(h4.look x.id).2;rw[hg] at hlk;have hq4:=(hrq2.below (.inr (.inl hkq)) hb).cells;exact⟨h4.cells.2.1,(hrx2.below (hW.kind x hx) hb).cells.2.2.2.2.2,hlk,by rw[<-hqi];exact hq4.1,hq4.2.2.2.2.1⟩)
 have hta:∀w,(Instr.typeAssert (Ab x nx) 20 135 true).run Tryz.prog w=.ok (.tuple #[.pointer (some ⟨nx.b,0,none⟩),.bool true]) w:=λw=>by rw[Ce,dp hkx];rfl
 have hh0:A5 r.nms i s≠0:=by rw[hxi];exact hW.ne0 hx
 obtain⟨n0,hn0,m1,m2,m3⟩:=B9 hh0;rw[hxi] at m3;rw[<-hpi] at m1;have hxp:x.id≠p.id:=by rw[<-m3,<-m1];exact hW.self_ne hn0
 have HH:=aa h;have HWf:=aa hW;have HR:=aa (And.intro hrx (And.intro hrp hrq));have HM:=aa (And.intro hx (And.intro hp hq));have HN:=aa (And.intro hnx (And.intro hnp hnq));have H0:=aa (And.intro hn0 (And.intro m1 (And.intro m2 m3)));have HK:=aa (And.intro hkp hkq);have HI:=aa (And.intro hpi hqi);have HXP:=aa hxp;have HNo:=aa (Di hW (l:=r.nms) (λ_ hn=>hn) ho);have HN6:=aa (show ∀w',Below w2.heap.size w2 w'->FsN w' f mi mg r N/\NodeR w' r p np/\NodeR w' r q nq/\NodeR w' r x nx from λw' hb=>⟨h2.below hW hb,hrp2.below (.inr (.inl hkp)) hb,hrq2.below (.inr (.inl hkq)) hb,hrx2.below (hW.kind x hx) hb⟩);rw[ho] at HAt2;simp only[ne_eq,not_true_eq_false,decide_false] at HAt2;have HBl:=aa (show ∀w',Below w2.heap.size w2 w'->Calls Tryz.prog 100 #[.pointer (some ⟨f,0,none⟩),.int .i64 i2,.int .i64 x.id] w' λe w''=>e=.returned (.bool false)/\w'=w'' from λw' hb=>by have:=Dr (h2.below hW hb) hW hq hkq x.id;rw[hqi,hbl] at this;exact this)
 have HKX:=aa hkx;have HXQ:=aa hxq;have HLp:=aa (show 2<=A4 r p/\A4 r p<=20 from⟨by unfold A4;rw[dp hkp];omega,hW.lim p hp⟩);have HLq:=aa (show A4 r q<=20 from hW.lim q hq);have HNq:=aa (show ∀w',Below w2.heap.size w2 w'->(binOp .neq 134 (.pointer (some ⟨np.blk,0,none⟩)) (.pointer (some ⟨nq.blk,0,none⟩))).run Tryz.prog w'=.ok (.bool true) w' from λw' hb=>by have:=Rx (hrp2.below (.inr (.inl hkp)) hb).head (hrq2.below (.inr (.inl hkq)) hb).head;rw[decide_eq_false hpq] at this;exact this)
 have HAg:=aa (show(Au (A9 r.nms q.id) s2).isSome=false by rw[hW.entry_some,hqi,ho];rfl);have hmm:nq.m≠np.m:=λe=>hpq (by
  by_cases c:nq=np
  .rw[c]
  .exact dq (e ▸ Nd.m_mem (hrp.ne hkp).1) (h.apart hnq hnp c _ (Nd.m_mem (hrq.ne hkq).1)))
 have HMm:=aa hmm;have HPB:=aa hpq;have HPQ:=aa (show p.id≠q.id from λe=>hpq (by rw[B4 h.idU hnp hnq (hrp.id.trans (e.trans hrq.id.symm))]));clear hw2 hB hb0 hb1 h h2 hW hrp2 hrq2 hpl hp hkp hnp hrp hq hkq hnq hrq hpi hqi hl hl2 hk hk2 hv hv2 hx hnx hrx hxi hx0 hrx2 ho hkx hpq hmm hxq hbl hh0 hn0 m1 m2 m3 hxp
 go_enter Tryz.func73,Tryz.ntmps73
 go_wp2_with fail
 rw[HW2.out]
 go_upto_region 4 with(go_at_call 99;(with_reducible refine HP.out.mono ?_);rintro e w3 ⟨rfl,hB3⟩;have hs3:=hB3.size;replace hB3:=aa hB3)
 obtain⟨w4,hw4,hB4,hs4,hb40,hb41⟩:=Gj w3 #[.pointer (some ⟨np.blk,0,none⟩),.pointer (some ⟨np.b,0,none⟩),.string s] #[.pointer (some ⟨nq.blk,0,none⟩),.pointer (some ⟨nq.b,0,none⟩),.string s2] 137 137;rw[hw4];have c0:w4.cell? ⟨w3.heap.size,0,none⟩=some (.pointer (some ⟨np.blk,0,none⟩)):=by rw[A1 hb40];rfl
 have c1:w4.cell? ⟨w3.heap.size,1,none⟩=some (.pointer (some ⟨np.b,0,none⟩)):=by rw[A1 hb40];rfl
 have c2:w4.cell? ⟨w3.heap.size,2,none⟩=some (.string s):=by rw[A1 hb40];rfl
 have HQ1:=aa hb40;have HQ2:=aa hb41;have HB4:=aa (hB3.out.trans (hB4.mono (by omega)));clear hw4 hb40 hb41 hB4
 go_upto_region 22 with(first
  | (go_at_call 59;(with_reducible refine(HAt.out w4 HB4.out).mono ?_);rintro e w5 ⟨rfl,hB5⟩;have hs5:=hB5.size;have hY:=(hB5.block _ (by omega)).trans HQ2.out;have d0:w5.cell? ⟨w3.heap.size+1,0,none⟩=_:=A1 hY 0;have d1:w5.cell? ⟨w3.heap.size+1,1,none⟩=_:=A1 hY 1;have d2:w5.cell? ⟨w3.heap.size+1,2,none⟩=_:=A1 hY 2;have HQ25:=aa hY;have HQ15:=aa ((hB5.block _ (by omega)).trans HQ1.out);clear hY;have HB5:=aa (HB4.out.trans (hB5.mono HB4.out.size));obtain⟨x1,x2,x3,-,-⟩:=HX.out w5 HB5.out;clear hB5)
  | (go_at_call 59;(with_reducible refine(HAt2.out w5 HB5.out).mono ?_);rintro e w6 ⟨rfl,hB6⟩;have hs6:=hB6.size;have HQ26:=aa ((hB6.block _ (by omega)).trans HQ25.out);have HQ16:=aa ((hB6.block _ (by omega)).trans HQ15.out);have e0:w6.cell? ⟨w3.heap.size,0,none⟩=_:=A1 HQ16.out 0;have g0:w6.cell? ⟨w3.heap.size+1,0,none⟩=_:=A1 HQ26.out 0;have HB6:=aa (HB5.out.trans (hB6.mono HB5.out.size));obtain⟨y1,y2,y3,y4,y5⟩:=HX.out w6 HB6.out;clear hB6;have y6:=HNq.out w6 HB6.out)
  | (go_at_call 100;(with_reducible refine(HBl.out w6 HB6.out).mono ?_);rintro e w7 ⟨rfl,rfl⟩))
 obtain⟨F6,P6,Q6,X6⟩:=HN6.out w6 HB6.out;have a1:w6.cell? ⟨w3.heap.size,1,none⟩=some (.pointer (some ⟨np.b,0,none⟩)):=by rw[A1 HQ16.out];rfl
 have a2:w6.cell? ⟨np.b,0,none⟩=some (.map (some np.m)):=by rw[A1 (P6.dir HK.out.1).1];rfl
 have hm6:MapB w6 np.m Cd Ar (A9 r.nms p.id):=(P6.dir HK.out.1).2;obtain⟨o1,hdel,hmp1⟩:=Br (P:=Tryz.prog) (ty:=0) (tk:=9) KS (t:=150) Tryz.underlying150 hm6 s;unfold Cd at hdel;have M1:=aa hmp1;have G6:=aa F6;have P6':=aa P6;have Q6':=aa Q6;have X6':=aa X6;clear F6 P6 Q6 X6 hm6 hmp1
 go_upto_region 23 with fail
 obtain⟨w7,hw7⟩:∃w7,putObj w6 np.m o1=w7:=⟨_,rfl⟩;rw[hw7];have k7:∀k,k≠np.m->w7.heap[k]?=w6.heap[k]?:=λk hk=>by rw[<-hw7];exact A8 w6 o1 hk
 rw[hw7] at M1;have W7:=aa hw7;have K7:=aa k7;have b1:w7.cell? ⟨w3.heap.size+1,1,none⟩=some (.pointer (some ⟨nq.b,0,none⟩)):=by rw[A1 ((k7 _ (A7 (P6'.out.dir HK.out.1).2 HQ26.out).symm).trans HQ26.out)];rfl
 have b2:w7.cell? ⟨nq.b,0,none⟩=some (.map (some nq.m)):=by rw[A1 ((k7 _ (A7 (P6'.out.dir HK.out.1).2 (Q6'.out.dir HK.out.2).1).symm).trans (Q6'.out.dir HK.out.2).1)];rfl
 have hm7:MapB w7 nq.m Cd Ar (A9 r.nms q.id):=(Q6'.out.dir HK.out.2).2.of_block (k7 _ HMm.out);have hag:(Au (A9 r.nms q.id) s2).isSome=false:=HAg.out;obtain⟨o2,hup,hmp2⟩:=Ag KS (P:=Tryz.prog) (t:=150) Tryz.underlying150 hm7 s2 x.id;rw[By hag] at hmp2;unfold Cd Ar at hup;have M2:=aa hmp2;clear hm7 hag hmp2 hw7 k7 hdel a1 a2
 go_upto_region 24 with fail
 obtain⟨w8,hw8⟩:∃w8,putObj w7 nq.m o2=w8:=⟨_,rfl⟩;rw[hw8];rw[hw8] at M2;have W8:=aa hw8;have K8:=aa (show ∀k,k≠nq.m->w8.heap[k]?=w7.heap[k]? from λk hk=>by rw[<-hw8];exact A8 w7 o2 hk);clear hw8 hup b1 b2;have ne:∀k,k≠np.m->k≠nq.m->w8.heap[k]?=w6.heap[k]?:=λk a b=>(K8.out k b).trans (K7.out k a);have pm:=(P6'.out.dir HK.out.1).2;have qm:=(Q6'.out.dir HK.out.2).2;have xd:=(X6'.out.dir HKX.out).1;have P8:=(ne _ (A7 pm P6'.out.head).symm (A7 qm P6'.out.head).symm).trans P6'.out.head;have Q8:=(ne _ (A7 pm Q6'.out.head).symm (A7 qm Q6'.out.head).symm).trans Q6'.out.head;have X8:=(ne _ (A7 pm xd).symm (A7 qm xd).symm).trans xd;have R8:=(ne _ (A7 pm HQ16.out).symm (A7 qm HQ16.out).symm).trans HQ16.out;have S8:=(ne _ (A7 pm HQ26.out).symm (A7 qm HQ26.out).symm).trans HQ26.out;have f0:w8.cell? ⟨w3.heap.size,0,none⟩=some (.pointer (some ⟨np.blk,0,none⟩)):=by rw[A1 R8];rfl
 have f1:w8.cell? ⟨w3.heap.size+1,0,none⟩=some (.pointer (some ⟨nq.blk,0,none⟩)):=by rw[A1 S8];rfl
 have f2:w8.cell? ⟨nq.blk,0,none⟩=some (.int .i64 q.id):=by rw[A1 Q8];rfl
 have f3:w8.cell? ⟨np.blk,4,none⟩=some (.int .i64 (A4 r p:Int)):=by rw[A1 P8];rfl
 have f4:w8.cell? ⟨nq.blk,4,none⟩=some (.int .i64 (A4 r q:Int)):=by rw[A1 Q8];rfl
 have f5:w8.cell? ⟨nx.b,1,none⟩=some (.int .i64 x.parent):=by rw[A1 X8];rfl
 have f6:w8.frozen? ⟨np.blk,4,none⟩=false:=frozen_of_row w8 np.blk 4 _ _ P8;have f7:w8.frozen? ⟨nq.blk,4,none⟩=false:=frozen_of_row w8 nq.blk 4 _ _ Q8;have f8:w8.frozen? ⟨nx.b,1,none⟩=false:=frozen_of_row w8 nx.b 1 _ _ X8;have n1:w3.heap.size≠nx.b:=Ao R8 X8 (by decide);have n2:w3.heap.size≠np.blk:=Ao R8 P8 (by decide);have n3:w3.heap.size≠nq.blk:=Ao R8 Q8 (by decide);have n4:w3.heap.size+1≠nx.b:=Ao S8 X8 (by decide);have n5:w3.heap.size+1≠np.blk:=Ao S8 P8 (by decide);have n6:w3.heap.size+1≠nq.blk:=Ao S8 Q8 (by decide);have n7:nx.b≠np.blk:=Ao X8 P8 (by decide);have n8:nx.b≠nq.blk:=Ao X8 Q8 (by decide);have P8':=aa P8;have Q8':=aa Q8;have X8':=aa X8;have hlp:=HLp.out.1;have hlp2:=HLp.out.2;have hlq:=HLq.out;clear P8 Q8 X8 R8 S8 ne pm qm xd;have n9:np.blk≠nq.blk:=HPB.out;obtain⟨lp,elp⟩:∃lp,A4 r p=lp:=⟨_,rfl⟩;obtain⟨lq,elq⟩:∃lq,A4 r q=lq:=⟨_,rfl⟩;rw[elp] at f3 P8' hlp hlp2;rw[elq] at f4 Q8' hlq;have ELP:=aa elp;have ELQ:=aa elq;clear elp elq
 go_wp2
 go_ret
 refine⟨rfl,?_⟩;obtain⟨ei,eq⟩:=HI.out;subst ei eq;obtain⟨hx,hp,hq⟩:=HM.out;obtain⟨hnx,hnp,hnq⟩:=HN.out;obtain⟨hrx,hrp,hrq⟩:=HR.out;obtain⟨hn0,m1,m2,m3⟩:=H0.out;have B6:=HB.out.trans (HB6.out.mono (show w.heap.size<=w2.heap.size by omega));have hlk:=λy=>Bw HWf.out hx hn0 m3 q.id s2 (y:=y) (y':=y) rfl rfl;rw[m1,m2] at hlk;have hns:∀j,A9 (Aq r p.id s q.id s2 x).nms j=_:=λj=>by rw[Cg,Aw,As]
 have pm:=(P6'.out.dir HK.out.1).2;have qm:=(Q6'.out.dir HK.out.2).2;have xd:=(X6'.out.dir HKX.out).1;have c1:((lp:Int) - 1)=((lp - 1:Nat):Int):=by omega
 have c2:((lq:Int)+1)=((lq+1:Nat):Int):=by omega
 rw[c1,c2];have lP:A4 (Aq r p.id s q.id s2 x) p=lp - 1:=by have:=hlk p;rw[dp ⟨HK.out.1,HKX.out,rfl⟩,dn (λe=>HPQ.out e.2.2.symm),ELP.out] at this;omega
 have lQ:A4 (Aq r p.id s q.id s2 x) q=lq+1:=by have:=hlk q;rw[dn (λe=>HPQ.out e.2.2),dp ⟨HK.out.2,HKX.out,rfl⟩,ELQ.out] at this;omega
 refine⟨N,Ej HH.out HWf.out hx hnx hrx hp HK.out.1 hnp hrp hq HK.out.2 hnq hrq hn0 m1 m2 m3 HXP.out HXQ.out (λk hk a b c d e=>(A2 _ _ _ _ _ d).trans ((A2 _ _ _ _ _ c).trans ((A2 _ _ _ _ _ (e HKX.out)).trans ((K8.out k b).trans ((K7.out k a).trans (B6.block k hk)))))) ?_ ?_ ?_ ?_ (λ_=>?_),λk hk=>.inl hk,?_⟩
 .rw[hns,dn HPQ.out,dp rfl];exact M1.out.of_block ((A2 _ _ _ _ _ (A7 pm Q6'.out.head)).trans ((A2 _ _ _ _ _ (A7 pm P6'.out.head)).trans ((A2 _ _ _ _ _ (A7 pm xd)).trans (K8.out _ (λe=>HMm.out e.symm)))))
 .rw[hns,dp rfl,dn (λe=>HPQ.out e.symm)];exact M2.out.of_block ((A2 _ _ _ _ _ (A7 qm Q6'.out.head)).trans ((A2 _ _ _ _ _ (A7 qm P6'.out.head)).trans (A2 _ _ _ _ _ (A7 qm xd))))
 .rw[lP];exact(A2 _ _ _ _ _ n9).trans (Bj ((A2 _ _ _ _ _ n7.symm).trans P8'.out))
 .rw[lQ];exact Bj ((A2 _ _ _ _ _ n9.symm).trans ((A2 _ _ _ _ _ n8.symm).trans Q8'.out))
 .exact(A2 _ _ _ _ _ n8).trans ((A2 _ _ _ _ _ n7).trans (heap_setCell_same w8 nx.b 1 _ _ _ X8'.out))
 .rw[<-W8.out,<-W7.out];exact((((((Frm.of_below B6).putObj (.inl (Af hnp (Nd.m_mem (hrp.ne HK.out.1).1))) o1).putObj (.inl (Af hnq (Nd.m_mem (hrq.ne HK.out.2).1))) o2).setCell (.inl (Af hnx (Nd.b_mem (hrx.ne HKX.out).1))) _).setCell (.inl (Af hnp np.blk_mem)) _).setCell (.inl (Af hnq nq.blk_mem)) _)
set_option maxRecDepth 100000 in
set_option maxHeartbeats 8000000 in
theorem Ri {w:World}{f mi mg K:Nat}{r:RFs}{N:List Nd}(h:FsN w f mi mg r N)(hW:Wf r K)(i g:Int)(s:ByteArray)(hs:s.size<=maxLen)(i2 g2:Int)(s2:ByteArray)(hs2:s2.size<=maxLen)
  {p q:RIn} {np nq:Nd} (hp:p∈r.ins) (hkp:p.kind=2) (hnp:np∈N) (hrp:NodeR w r p np) (hq:q∈r.ins) (hkq:q.kind=2) (hnq:nq∈N) (hrq:NodeR w r q nq) (hpi:p.id=i) (hqi:q.id=i2)
  (hl:An r (i,g)=true) (hl2:An r (i2,g2)=true) (hk:(A3 r.ins i).kind=2) (hk2:(A3 r.ins i2).kind=2) (hv:Aj s=true) (hv2:Aj s2=true)
  {x:RIn} {nx:Nd} (hx:x∈r.ins) (hnx:nx∈N) (hrx:NodeR w r x nx) (hxi:A5 r.nms i s=x.id) (hxq:x.id≠q.id) (ho:A5 r.nms i2 s2=0) (hkx:x.kind=2) (hbl:Bq r i2 x.id=false) (hpq:np=nq) :
  Calls Tryz.prog 73 #[.pointer (some ⟨f,0,none⟩),.agg #[.int .i64 i,.int .i64 g],.string s,.agg #[.int .i64 i2,.int .i64 g2],.string s2] w λe w'=>e=.returned (.int .i64 0)/\Cm w w' f mi mg N (Aq r i s i2 s2 x):=by
 subst hpq;obtain rfl:=h.uniq hW hp hrp hq hrq;obtain rfl:i=i2:=hpi.symm.trans hqi;obtain⟨w2,hw2,hB,hz2,hb0,hb1⟩:=Gj w #[.int .i64 i,.int .i64 g] #[.int .i64 i,.int .i64 g2] 31 31;have t0:w2.cell? ⟨w.heap.size,0,none⟩=some (.int .i64 i):=by rw[A1 hb0];rfl
 have t1:w2.cell? ⟨w.heap.size,1,none⟩=some (.int .i64 g):=by rw[A1 hb0];rfl
 have t2:w2.cell? ⟨w.heap.size+1,0,none⟩=some (.int .i64 i):=by rw[A1 hb1];rfl
 have t3:w2.cell? ⟨w.heap.size+1,1,none⟩=some (.int .i64 g2):=by rw[A1 hb1];rfl
 have h2:=h.below hW hB;have HW2:=aa hw2;have HB:=aa hB;have hrp2:=hrp.below (.inr (.inl hkp)) hB;have hrq2:=hrq.below (.inr (.inl hkq)) hB;have hpl:=Bn h2 hW i g s hs i g2 s2 hs2 hl hl2 hk hk2 hv hv2 hnp hnq (hrp.id.trans hpi) (hrq.id.trans hqi);have HP:=aa hpl;have HAt:=aa (show ∀w4,Below w2.heap.size w2 w4->Calls Tryz.prog 59 #[.agg #[.pointer (some ⟨np.blk,0,none⟩),.pointer (some ⟨np.b,0,none⟩),.string s]] w4 λe w'=>e=.returned (.tuple #[.int .i64 (A5 r.nms i s),.bool (decide (A5 r.nms i s≠0))])/\Below w4.heap.size w4 w' from λw4 hb=>by have hr4:=hrp2.below (.inr (.inl hkp)) hb;have:=B8 hr4 hkp (hr4.lt (.inr (.inl hkp))) s (some ⟨np.blk,0,none⟩);rw[hpi,hW.entry_some] at this;exact this)
 have HAt2:=aa (show ∀w4,Below w2.heap.size w2 w4->Calls Tryz.prog 59 #[.agg #[.pointer (some ⟨np.blk,0,none⟩),.pointer (some ⟨np.b,0,none⟩),.string s2]] w4 λe w'=>e=.returned (.tuple #[.int .i64 (A5 r.nms i s2),.bool (decide (A5 r.nms i s2≠0))])/\Below w4.heap.size w4 w' from λw4 hb=>by have hr4:=hrq2.below (.inr (.inl hkq)) hb;have:=B8 hr4 hkq (hr4.lt (.inr (.inl hkq))) s2 (some ⟨np.blk,0,none⟩);rw[hqi,hW.entry_some] at this;exact this)
 have hx0:x.id≠0:=hW.ne0 hx;rw[hxi,decide_eq_true hx0] at HAt;have hrx2:=hrx.below (hW.kind x hx) hB;have HX:=aa (show ∀w',Below w2.heap.size w2 w'->w'.cell? ⟨f,1,none⟩=some (.map (some mi))/\w'.cell? ⟨nx.blk,5,none⟩=some (Ab x nx)/\(Instr.lookup 144 (.map (some mi)) (.int .i64 x.id) false).run Tryz.prog w'=.ok (.pointer (some ⟨nx.blk,0,none⟩)) w'/\w'.cell? ⟨np.blk,0,none⟩=some (.int .i64 i)/\w'.cell? ⟨np.blk,4,none⟩=some (.int .i64 (A4 r p:Int)) from λw' hb=>by have h4:=h2.below hW hb;have hg:=h4.get hnx;rw[hrx.id] at hg;have hlk:=(h4.look x.id).2;rw[hg] at hlk;have hq4:=(hrq2.below (.inr (.inl hkq)) hb).cells;exact⟨h4.cells.2.1,(hrx2.below (hW.kind x hx) hb).cells.2.2.2.2.2,hlk,by rw[<-hqi];exact hq4.1,hq4.2.2.2.2.1⟩)
 have hta:∀w,(Instr.typeAssert (Ab x nx) 20 135 true).run Tryz.prog w=.ok (.tuple #[.pointer (some ⟨nx.b,0,none⟩),.bool true]) w:=λw=>by rw[Ce,dp hkx];rfl
 have hh0:A5 r.nms i s≠0:=by rw[hxi];exact hW.ne0 hx
 obtain⟨n0,hn0,m1,m2,m3⟩:=B9 hh0;rw[hxi] at m3;rw[<-hpi] at m1;have hxp:x.id≠p.id:=by rw[<-m3,<-m1];exact hW.self_ne hn0
 have HH:=aa h;have HWf:=aa hW;have HR:=aa (And.intro hrx (And.intro hrp hrq));have HM:=aa (And.intro hx (And.intro hp hq));have HN:=aa (And.intro hnx (And.intro hnp hnq));have H0:=aa (And.intro hn0 (And.intro m1 (And.intro m2 m3)));have HK:=aa (And.intro hkp hkq);have HI:=aa (And.intro hpi hqi);have HXP:=aa hxp;have HNo:=aa (Di hW (l:=r.nms) (λ_ hn=>hn) ho);have HN6:=aa (show ∀w',Below w2.heap.size w2 w'->FsN w' f mi mg r N/\NodeR w' r p np/\NodeR w' r p np/\NodeR w' r x nx from λw' hb=>⟨h2.below hW hb,hrp2.below (.inr (.inl hkp)) hb,hrq2.below (.inr (.inl hkq)) hb,hrx2.below (hW.kind x hx) hb⟩);rw[ho] at HAt2;simp only[ne_eq,not_true_eq_false,decide_false] at HAt2;have HBl:=aa (show ∀w',Below w2.heap.size w2 w'->Calls Tryz.prog 100 #[.pointer (some ⟨f,0,none⟩),.int .i64 i,.int .i64 x.id] w' λe w''=>e=.returned (.bool false)/\w'=w'' from λw' hb=>by have:=Dr (h2.below hW hb) hW hq hkq x.id;rw[hqi,hbl] at this;exact this)
 have HKX:=aa hkx;have HXQ:=aa hxq;have HLp:=aa (show 2<=A4 r p/\A4 r p<=20 from⟨by unfold A4;rw[dp hkp];omega,hW.lim p hp⟩);have HLq:=aa (show A4 r p<=20 from hW.lim p hq);have HNq:=aa (show ∀w',Below w2.heap.size w2 w'->(binOp .neq 134 (.pointer (some ⟨np.blk,0,none⟩)) (.pointer (some ⟨np.blk,0,none⟩))).run Tryz.prog w'=.ok (.bool false) w' from λw' hb=>by have:=Rx (hrp2.below (.inr (.inl hkp)) hb).head (hrq2.below (.inr (.inl hkq)) hb).head;rw[show(!decide (np.blk=np.blk))=false by simp] at this;exact this)
 have HAg:=aa (show(Au (He (A9 r.nms p.id) s) s2).isSome=false from by
  have h0:(Au (A9 r.nms p.id) s2).isSome=false:=by rw[hW.entry_some,hqi,ho];rfl
  have h1:Au (A9 r.nms p.id) s2=none:=by cases hh:Au (A9 r.nms p.id) s2 with
   | none=>rfl
   | some v=>rw[hh] at h0;cases h0
  rw[Cq] at h1;have h2:Au (He (A9 r.nms p.id) s) s2=none:=by rw[Cq];intro z hz;exact h1 z (af.1 hz).1
  rw[h2];rfl)
 clear hw2 hB hb0 hb1 h h2 hW hrp2 hrq2 hpl hp hkp hnp hrp hq hkq hnq hrq hpi hqi hl hl2 hk hk2 hv hv2 hx hnx hrx hxi hx0 hrx2 ho hkx hxq hbl hh0 hn0 m1 m2 m3 hxp
 go_enter Tryz.func73,Tryz.ntmps73
 go_wp2_with fail
 rw[HW2.out]
 go_upto_region 4 with(go_at_call 99;(with_reducible refine HP.out.mono ?_);rintro e w3 ⟨rfl,hB3⟩;have hs3:=hB3.size;replace hB3:=aa hB3)
 obtain⟨w4,hw4,hB4,hs4,hb40,hb41⟩:=Gj w3 #[.pointer (some ⟨np.blk,0,none⟩),.pointer (some ⟨np.b,0,none⟩),.string s] #[.pointer (some ⟨np.blk,0,none⟩),.pointer (some ⟨np.b,0,none⟩),.string s2] 137 137;rw[hw4];have c0:w4.cell? ⟨w3.heap.size,0,none⟩=some (.pointer (some ⟨np.blk,0,none⟩)):=by rw[A1 hb40];rfl
 have c1:w4.cell? ⟨w3.heap.size,1,none⟩=some (.pointer (some ⟨np.b,0,none⟩)):=by rw[A1 hb40];rfl
 have c2:w4.cell? ⟨w3.heap.size,2,none⟩=some (.string s):=by rw[A1 hb40];rfl
 have HQ1:=aa hb40;have HQ2:=aa hb41;have HB4:=aa (hB3.out.trans (hB4.mono (by omega)));clear hw4 hb40 hb41 hB4
 go_upto_region 22 with(first
  | (go_at_call 59;(with_reducible refine(HAt.out w4 HB4.out).mono ?_);rintro e w5 ⟨rfl,hB5⟩;have hs5:=hB5.size;have hY:=(hB5.block _ (by omega)).trans HQ2.out;have d0:w5.cell? ⟨w3.heap.size+1,0,none⟩=_:=A1 hY 0;have d1:w5.cell? ⟨w3.heap.size+1,1,none⟩=_:=A1 hY 1;have d2:w5.cell? ⟨w3.heap.size+1,2,none⟩=_:=A1 hY 2;have HQ25:=aa hY;have HQ15:=aa ((hB5.block _ (by omega)).trans HQ1.out);clear hY;have HB5:=aa (HB4.out.trans (hB5.mono HB4.out.size));obtain⟨x1,x2,x3,-,-⟩:=HX.out w5 HB5.out;clear hB5)
  | (go_at_call 59;(with_reducible refine(HAt2.out w5 HB5.out).mono ?_);rintro e w6 ⟨rfl,hB6⟩;have hs6:=hB6.size;have HQ26:=aa ((hB6.block _ (by omega)).trans HQ25.out);have HQ16:=aa ((hB6.block _ (by omega)).trans HQ15.out);have e0:w6.cell? ⟨w3.heap.size,0,none⟩=_:=A1 HQ16.out 0;have g0:w6.cell? ⟨w3.heap.size+1,0,none⟩=_:=A1 HQ26.out 0;have HB6:=aa (HB5.out.trans (hB6.mono HB5.out.size));obtain⟨y1,y2,y3,y4,y5⟩:=HX.out w6 HB6.out;clear hB6;have y6:=HNq.out w6 HB6.out)
  | (go_at_call 100;(with_reducible refine(HBl.out w6 HB6.out).mono ?_);rintro e w7 ⟨rfl,rfl⟩))
 obtain⟨F6,P6,Q6,X6⟩:=HN6.out w6 HB6.out;have a1:w6.cell? ⟨w3.heap.size,1,none⟩=some (.pointer (some ⟨np.b,0,none⟩)):=by rw[A1 HQ16.out];rfl
 have a2:w6.cell? ⟨np.b,0,none⟩=some (.map (some np.m)):=by rw[A1 (P6.dir HK.out.1).1];rfl
 have hm6:MapB w6 np.m Cd Ar (A9 r.nms p.id):=(P6.dir HK.out.1).2;obtain⟨o1,hdel,hmp1⟩:=Br (P:=Tryz.prog) (ty:=0) (tk:=9) KS (t:=150) Tryz.underlying150 hm6 s;unfold Cd at hdel;have M1:=aa hmp1;have G6:=aa F6;have P6':=aa P6;have Q6':=aa Q6;have X6':=aa X6;clear F6 P6 Q6 X6 hm6 hmp1
 go_upto_region 23 with fail
 obtain⟨w7,hw7⟩:∃w7,putObj w6 np.m o1=w7:=⟨_,rfl⟩;rw[hw7];have k7:∀k,k≠np.m->w7.heap[k]?=w6.heap[k]?:=λk hk=>by rw[<-hw7];exact A8 w6 o1 hk
 rw[hw7] at M1;have W7:=aa hw7;have K7:=aa k7;have b1:w7.cell? ⟨w3.heap.size+1,1,none⟩=some (.pointer (some ⟨np.b,0,none⟩)):=by rw[A1 ((k7 _ (A7 (P6'.out.dir HK.out.1).2 HQ26.out).symm).trans HQ26.out)];rfl
 have b2:w7.cell? ⟨np.b,0,none⟩=some (.map (some np.m)):=by rw[A1 ((k7 _ (A7 (P6'.out.dir HK.out.1).2 (Q6'.out.dir HK.out.2).1).symm).trans (Q6'.out.dir HK.out.2).1)];rfl
 have hm7:MapB w7 np.m Cd Ar (He (A9 r.nms p.id) s):=M1.out;have hag:(Au (He (A9 r.nms p.id) s) s2).isSome=false:=HAg.out;obtain⟨o2,hup,hmp2⟩:=Ag KS (P:=Tryz.prog) (t:=150) Tryz.underlying150 hm7 s2 x.id;rw[By hag] at hmp2;unfold Cd Ar at hup;have M2:=aa hmp2;clear hm7 hag hmp2 hw7 k7 hdel a1 a2
 go_upto_region 24 with fail
 obtain⟨w8,hw8⟩:∃w8,putObj w7 np.m o2=w8:=⟨_,rfl⟩;rw[hw8];rw[hw8] at M2;have W8:=aa hw8;have K8:=aa (show ∀k,k≠np.m->w8.heap[k]?=w7.heap[k]? from λk hk=>by rw[<-hw8];exact A8 w7 o2 hk);clear hw8 hup b1 b2;have ne:∀k,k≠np.m->k≠np.m->w8.heap[k]?=w6.heap[k]?:=λk a b=>(K8.out k b).trans (K7.out k a);have pm:=(P6'.out.dir HK.out.1).2;have qm:=(Q6'.out.dir HK.out.2).2;have xd:=(X6'.out.dir HKX.out).1;have P8:=(ne _ (A7 pm P6'.out.head).symm (A7 qm P6'.out.head).symm).trans P6'.out.head;have Q8:=(ne _ (A7 pm Q6'.out.head).symm (A7 qm Q6'.out.head).symm).trans Q6'.out.head;have X8:=(ne _ (A7 pm xd).symm (A7 qm xd).symm).trans xd;have R8:=(ne _ (A7 pm HQ16.out).symm (A7 qm HQ16.out).symm).trans HQ16.out;have S8:=(ne _ (A7 pm HQ26.out).symm (A7 qm HQ26.out).symm).trans HQ26.out;have f0:w8.cell? ⟨w3.heap.size,0,none⟩=some (.pointer (some ⟨np.blk,0,none⟩)):=by rw[A1 R8];rfl
 have f1:w8.cell? ⟨w3.heap.size+1,0,none⟩=some (.pointer (some ⟨np.blk,0,none⟩)):=by rw[A1 S8];rfl
 have f2:w8.cell? ⟨np.blk,0,none⟩=some (.int .i64 p.id):=by rw[A1 Q8];rfl
 have f3:w8.cell? ⟨np.blk,4,none⟩=some (.int .i64 (A4 r p:Int)):=by rw[A1 P8];rfl
 have f4:w8.cell? ⟨np.blk,4,none⟩=some (.int .i64 (A4 r p:Int)):=by rw[A1 Q8];rfl
 have f5:w8.cell? ⟨nx.b,1,none⟩=some (.int .i64 x.parent):=by rw[A1 X8];rfl
 have f6:w8.frozen? ⟨np.blk,4,none⟩=false:=frozen_of_row w8 np.blk 4 _ _ P8;have f7:w8.frozen? ⟨np.blk,4,none⟩=false:=frozen_of_row w8 np.blk 4 _ _ Q8;have f8:w8.frozen? ⟨nx.b,1,none⟩=false:=frozen_of_row w8 nx.b 1 _ _ X8;have n1:w3.heap.size≠nx.b:=Ao R8 X8 (by decide);have n2:w3.heap.size≠np.blk:=Ao R8 P8 (by decide);have n3:w3.heap.size≠np.blk:=Ao R8 Q8 (by decide);have n4:w3.heap.size+1≠nx.b:=Ao S8 X8 (by decide);have n5:w3.heap.size+1≠np.blk:=Ao S8 P8 (by decide);have n6:w3.heap.size+1≠np.blk:=Ao S8 Q8 (by decide);have n7:nx.b≠np.blk:=Ao X8 P8 (by decide);have n8:nx.b≠np.blk:=Ao X8 Q8 (by decide);have P8':=aa P8;have Q8':=aa Q8;have X8':=aa X8;have hlp:=HLp.out.1;have hlp2:=HLp.out.2;have hlq:=HLq.out;clear P8 Q8 X8 R8 S8 ne pm qm xd;obtain⟨lp,elp⟩:∃lp,A4 r p=lp:=⟨_,rfl⟩;obtain⟨lq,elq⟩:∃lq,A4 r p=lq:=⟨_,rfl⟩;rw[elp] at f3 P8' hlp hlp2;rw[elq] at f4 Q8' hlq;have ELP:=aa elp;have ELQ:=aa elq;clear elp elq
 go_wp2
 go_ret
 refine⟨rfl,?_⟩;obtain⟨ei,-⟩:=HI.out;subst ei;obtain⟨hx,hp,hq⟩:=HM.out;obtain⟨hnx,hnp,hnq⟩:=HN.out;obtain⟨hrx,hrp,hrq⟩:=HR.out;obtain⟨hn0,m1,m2,m3⟩:=H0.out;have B6:=HB.out.trans (HB6.out.mono (show w.heap.size<=w2.heap.size by omega));have hlk:=λy=>Bw HWf.out hx hn0 m3 p.id s2 (y:=y) (y':=y) rfl rfl;rw[m1,m2] at hlk;have hns:∀j,A9 (Aq r p.id s p.id s2 x).nms j=_:=λj=>by rw[Cg,Aw,As]
 have pm:=(P6'.out.dir HK.out.1).2;have qm:=(Q6'.out.dir HK.out.2).2;have xd:=(X6'.out.dir HKX.out).1;have c1:((lp:Int) - 1)=((lp - 1:Nat):Int):=by omega
 have c3:((lp:Int) - 1+1)=((lp:Nat):Int):=by omega
 try rw[c3]
 rw[c1];have lP:A4 (Aq r p.id s p.id s2 x) p=lp:=by have:=hlk p;rw[dp ⟨HK.out.1,HKX.out,rfl⟩,ELP.out] at this;omega
 refine⟨N,Ej HH.out HWf.out hx hnx hrx hp HK.out.1 hnp hrp hq HK.out.2 hnq hrq hn0 m1 m2 m3 HXP.out HXQ.out (λk hk a b c d e=>(A2 _ _ _ _ _ d).trans ((A2 _ _ _ _ _ c).trans ((A2 _ _ _ _ _ (e HKX.out)).trans ((K8.out k b).trans ((K7.out k a).trans (B6.block k hk)))))) ?_ ?_ ?_ ?_ (λ_=>?_),λk hk=>.inl hk,?_⟩
 .rw[hns,dp rfl,dp rfl];exact M2.out.of_block ((A2 _ _ _ _ _ (A7 pm P6'.out.head)).trans ((A2 _ _ _ _ _ (A7 pm P6'.out.head)).trans (A2 _ _ _ _ _ (A7 pm xd))))
 .rw[hns,dp rfl,dp rfl];exact M2.out.of_block ((A2 _ _ _ _ _ (A7 pm P6'.out.head)).trans ((A2 _ _ _ _ _ (A7 pm P6'.out.head)).trans (A2 _ _ _ _ _ (A7 pm xd))))
 .rw[lP];exact Bj (Bj (lk':=lp - 1) ((A2 _ _ _ _ _ n7.symm).trans P8'.out))
 .rw[lP];exact Bj (Bj (lk':=lp - 1) ((A2 _ _ _ _ _ n7.symm).trans P8'.out))
 .exact(A2 _ _ _ _ _ n7).trans ((A2 _ _ _ _ _ n7).trans (heap_setCell_same w8 nx.b 1 _ _ _ X8'.out))
 .rw[<-W8.out,<-W7.out];exact((((((Frm.of_below B6).putObj (.inl (Af hnp (Nd.m_mem (hrp.ne HK.out.1).1))) o1).putObj (.inl (Af hnq (Nd.m_mem (hrq.ne HK.out.2).1))) o2).setCell (.inl (Af hnx (Nd.b_mem (hrx.ne HKX.out).1))) _).setCell (.inl (Af hnp np.blk_mem)) _).setCell (.inl (Af hnq np.blk_mem)) _)
section
variable {r:RFs} {K:Nat} {x p q o:RIn} {s t:ByteArray}
theorem V7 (r:RFs)(d:Int)(s:ByteArray):(Bx r d s).nms=r.nms.filter λn=>!decide (n.dir=d/\n.name=s):=by unfold Bx;split<;>rfl
theorem Nn {y:RIn}(b:y∈r.ins){d:Int}(a:y.id≠A5 r.nms d t):y∈(Bx r d t).ins:=by
 unfold Bx;split
 .exact af.2 ⟨b,by simpa using a⟩
 .exact b
theorem Jc {fo:Bool}(h:Hw r o fo=0):(o.kind=2↔fo=true)/\(o.kind=2->H8 r.nms o.id=0):=by
 unfold Hw at h;by_cases k:o.kind=2
 .rw[dp k] at h;cases fo
  .simp at h
  .simp only[if_true] at h;refine⟨by simp[k],λ_=>?_⟩;split at h
   .cases h
   .omega
 .rw[dn k] at h;cases fo
  .exact⟨by simp[k],λe=>dq e k⟩
  .simp at h
theorem I7 (c:Wf r K)(C:x∈r.ins)(n:p∈r.ins)(k:p.kind=2)(A:q∈r.ins)(v:o∈r.ins)(a:A5 r.nms q.id t=o.id)(f:o.id≠x.id)(i:o.kind=2->H8 r.nms o.id=0)
  {h:RNm} (b:h∈r.nms) (D:h.dir=p.id) (z:h.id=x.id) :
  Wf (Bx r q.id t) K/\x∈(Bx r q.id t).ins/\p∈(Bx r q.id t).ins/\q∈(Bx r q.id t).ins/\h∈(Bx r q.id t).nms/\Au (A9 (Bx r q.id t).nms q.id) t=none:=by
 have u:A5 r.nms q.id t≠0:=by rw[a];exact c.ne0 v
 obtain⟨E,g,y,B,m⟩:=B9 u;have w:=c.byId v;have j:p.id≠o.id:=λe=>by
  have:p=o:=by rw[<-c.byId n,e,w]
  subst this;have:=i k;unfold H8 at this;rw[List.countP_eq_zero] at this;have:=this h b;simp[D] at this
 have l:q.id≠o.id:=λe=>c.self_ne g (by rw[m,a,y,e]);refine⟨Zh c u (by rw[a,w];exact i),Nn C (by rw[a];exact λe=>f e.symm),Nn n (by rw[a];exact j),Nn A (by rw[a];exact l),?_,?_⟩
 .rw[V7,af,Bool.not_eq_true',decide_eq_false_iff_not];refine⟨b,λe=>?_⟩;have:=c.uniq_eq b g (e.1.trans y.symm) (e.2.trans B.symm);rw[this,m,a] at z;exact f z
 .rw[V7,As,dp rfl,If,dp rfl]
theorem Ve (f:Wf r K)(m:q∈r.ins)(a:q.kind=2)(i:o∈r.ins)(c:o.kind=2)(b:A5 r.nms q.id t=o.id):A4 (Bx r q.id t) q < 20:=by
 have l:A5 r.nms q.id t≠0:=by rw[b];exact f.ne0 i
 obtain⟨z,g,w,u,k⟩:=B9 l;have j:=f.byId i;have v:=Dj f g q;rw[w,u,k,b,j,dp a,dp ⟨rfl,c⟩] at v;have y:=f.lim q m;have A:A4 (Bx r q.id t) q<=A4 (Aa r q.id t) q:=by
  unfold Bx;rw[b,j,dp (.inl c)];unfold A4;rw[dp a,dp a];refine Nat.add_le_add_right (List.countP_mono_left λn _ h=>?_) 2;simp only[decide_eq_true_eq] at h⊢;refine⟨h.1,?_⟩;have e:=h.2;show(A3 r.ins n.id).kind=2
  change (A3 (r.ins.filter λx=>decide (x.id≠o.id)) n.id).kind=2 at e
  rw[G4] at e;split at e
  .exact dq e (by decide)
  .exact e
 omega
end
theorem Cr {w e:World}{f g j K:Nat}{r rd:RFs}{N c:List Nd}(h:FsN w f g j r N)(l:FsN e f g j rd c)(b:Wf rd K)(a:∀n∈c,n∈N){y:RIn}{n:Nd}(v:y∈rd.ins)(u:n∈N)(k:n.id=y.id):n∈c/\NodeR e rd y n:=by obtain⟨m,i,hr⟩:=l.at_ b v;have:m=n:=B4 h.idU (a m i) u (hr.id.trans k.symm);subst this;exact⟨i,hr⟩
theorem Tx {w:World}{f c b K:Nat}{r:RFs}{N:List Nd}(h:FsN w f c b r N)(g:Wf r K):∀k∈fpL f c b N,k < w.heap.size:=by
 obtain⟨i,j,l,e⟩:=h.lt g;intro k a;unfold fpL at a;simp only[List.mem_cons,List.mem_flatMap] at a;rcases a with rfl | rfl | rfl | ⟨n,hn,a⟩
 .exact i
 .exact j
 .exact l
 .exact e n hn k a
set_option maxRecDepth 100000 in
set_option maxHeartbeats 8000000 in
theorem Sn {w:World}{f mi mg K:Nat}{r:RFs}{N:List Nd}(h:FsN w f mi mg r N)(hW:Wf r K)(i g:Int)(s:ByteArray)(hs:s.size<=maxLen)(i2 g2:Int)(s2:ByteArray)(hs2:s2.size<=maxLen)
  {p q:RIn} {np nq:Nd} (hp:p∈r.ins) (hkp:p.kind=2) (hnp:np∈N) (hrp:NodeR w r p np) (hq:q∈r.ins) (hkq:q.kind=2) (hnq:nq∈N) (hrq:NodeR w r q nq) (hpi:p.id=i) (hqi:q.id=i2)
  (hl:An r (i,g)=true) (hl2:An r (i2,g2)=true) (hk:(A3 r.ins i).kind=2) (hk2:(A3 r.ins i2).kind=2) (hv:Aj s=true) (hv2:Aj s2=true)
  {x:RIn} {nx:Nd} (hx:x∈r.ins) (hnx:nx∈N) (hrx:NodeR w r x nx) (hxi:A5 r.nms i s=x.id) (hxq:x.id≠q.id) {o:RIn} {no:Nd} (ho:o∈r.ins) (hno:no∈N) (hro:NodeR w r o no) (hoi:A5 r.nms i2 s2=o.id) (hox:o.id≠x.id) (hkx:¬x.kind=2) (hpq:np.blk≠nq.blk) (hmy:Hw r o false=0) :
  Calls Tryz.prog 73 #[.pointer (some ⟨f,0,none⟩),.agg #[.int .i64 i,.int .i64 g],.string s,.agg #[.int .i64 i2,.int .i64 g2],.string s2] w λe w'=>e=.returned (.int .i64 0)/\Cm w w' f mi mg N (Aq (Bx r i2 s2) i s i2 s2 x):=by
 obtain⟨w2,hw2,hB,hz2,hb0,hb1⟩:=Gj w #[.int .i64 i,.int .i64 g] #[.int .i64 i2,.int .i64 g2] 31 31;have t0:w2.cell? ⟨w.heap.size,0,none⟩=some (.int .i64 i):=by rw[A1 hb0];rfl
 have t1:w2.cell? ⟨w.heap.size,1,none⟩=some (.int .i64 g):=by rw[A1 hb0];rfl
 have t2:w2.cell? ⟨w.heap.size+1,0,none⟩=some (.int .i64 i2):=by rw[A1 hb1];rfl
 have t3:w2.cell? ⟨w.heap.size+1,1,none⟩=some (.int .i64 g2):=by rw[A1 hb1];rfl
 have h2:=h.below hW hB;have HW2:=aa hw2;have HB:=aa hB;have hrp2:=hrp.below (.inr (.inl hkp)) hB;have hrq2:=hrq.below (.inr (.inl hkq)) hB;have hpl:=Bn h2 hW i g s hs i2 g2 s2 hs2 hl hl2 hk hk2 hv hv2 hnp hnq (hrp.id.trans hpi) (hrq.id.trans hqi);have HP:=aa hpl;have HAt:=aa (show ∀w4,Below w2.heap.size w2 w4->Calls Tryz.prog 59 #[.agg #[.pointer (some ⟨np.blk,0,none⟩),.pointer (some ⟨np.b,0,none⟩),.string s]] w4 λe w'=>e=.returned (.tuple #[.int .i64 (A5 r.nms i s),.bool (decide (A5 r.nms i s≠0))])/\Below w4.heap.size w4 w' from λw4 hb=>by have hr4:=hrp2.below (.inr (.inl hkp)) hb;have:=B8 hr4 hkp (hr4.lt (.inr (.inl hkp))) s (some ⟨np.blk,0,none⟩);rw[hpi,hW.entry_some] at this;exact this)
 have HAt2:=aa (show ∀w4,Below w2.heap.size w2 w4->Calls Tryz.prog 59 #[.agg #[.pointer (some ⟨nq.blk,0,none⟩),.pointer (some ⟨nq.b,0,none⟩),.string s2]] w4 λe w'=>e=.returned (.tuple #[.int .i64 (A5 r.nms i2 s2),.bool (decide (A5 r.nms i2 s2≠0))])/\Below w4.heap.size w4 w' from λw4 hb=>by have hr4:=hrq2.below (.inr (.inl hkq)) hb;have:=B8 hr4 hkq (hr4.lt (.inr (.inl hkq))) s2 (some ⟨nq.blk,0,none⟩);rw[hqi,hW.entry_some] at this;exact this)
 have hx0:x.id≠0:=hW.ne0 hx;rw[hxi,decide_eq_true hx0] at HAt;have hrx2:=hrx.below (hW.kind x hx) hB;have HX:=aa (show ∀w',Below w2.heap.size w2 w'->w'.cell? ⟨f,1,none⟩=some (.map (some mi))/\w'.cell? ⟨nx.blk,5,none⟩=some (Ab x nx)/\(Instr.lookup 144 (.map (some mi)) (.int .i64 x.id) false).run Tryz.prog w'=.ok (.pointer (some ⟨nx.blk,0,none⟩)) w'/\w'.cell? ⟨nq.blk,0,none⟩=some (.int .i64 i2)/\w'.cell? ⟨nq.blk,4,none⟩=some (.int .i64 (A4 r q:Int)) from λw' hb=>by have h4:=h2.below hW hb;have hg:=h4.get hnx;rw[hrx.id] at hg;have hlk:=(h4.look x.id).2;rw[hg] at hlk;have hq4:=(hrq2.below (.inr (.inl hkq)) hb).cells;exact⟨h4.cells.2.1,(hrx2.below (hW.kind x hx) hb).cells.2.2.2.2.2,hlk,by rw[<-hqi];exact hq4.1,hq4.2.2.2.2.1⟩)
 have hta:∀w,(Instr.typeAssert (Ab x nx) 20 135 true).run Tryz.prog w=.ok (.tuple #[.pointer none,.bool false]) w:=λw=>by rw[Ce,dn hkx]
 have hh0:A5 r.nms i s≠0:=by rw[hxi];exact hW.ne0 hx
 obtain⟨n0,hn0,m1,m2,m3⟩:=B9 hh0;rw[hxi] at m3;rw[<-hpi] at m1;have hxp:x.id≠p.id:=by rw[<-m3,<-m1];exact hW.self_ne hn0
 have HH:=aa h;have HWf:=aa hW;have HR:=aa (And.intro hrx (And.intro hrp hrq));have HM:=aa (And.intro hx (And.intro hp hq));have HN:=aa (And.intro hnx (And.intro hnp hnq));have H0:=aa (And.intro hn0 (And.intro m1 (And.intro m2 m3)));have HK:=aa (And.intro hkp hkq);have HI:=aa (And.intro hpi hqi);have HXP:=aa hxp;have HN6:=aa (show ∀w',Below w2.heap.size w2 w'->FsN w' f mi mg r N/\NodeR w' r p np/\NodeR w' r q nq/\NodeR w' r x nx from λw' hb=>⟨h2.below hW hb,hrp2.below (.inr (.inl hkp)) hb,hrq2.below (.inr (.inl hkq)) hb,hrx2.below (hW.kind x hx) hb⟩);have ho0:o.id≠0:=hW.ne0 ho;rw[hoi,decide_eq_true ho0] at HAt2;have hbq:(o.id==x.id)=false:=by rw[beq_eq_false_iff_ne];exact hox
 have hro2:=hro.below (hW.kind o ho) hB;have HO:=aa (show ∀w',Below w2.heap.size w2 w'->(Instr.lookup 144 (.map (some mi)) (.int .i64 o.id) false).run Tryz.prog w'=.ok (.pointer (some ⟨no.blk,0,none⟩)) w' from λw' hb=>by have h4:=h2.below hW hb;have hg:=h4.get hno;rw[hro.id] at hg;have hlk:=(h4.look o.id).2;rw[hg] at hlk;exact hlk)
 have HMy:=aa (show ∀w',Below w2.heap.size w2 w'->Calls Tryz.prog 97 #[.pointer (some ⟨f,0,none⟩),.pointer (some ⟨no.blk,0,none⟩),.bool false] w' λe w''=>e=.returned (.int .i64 0)/\w'=w'' from λw' hb=>by have:=Hm (hro2.below (hW.kind o ho) hb) false (some ⟨f,0,none⟩);rw[hmy] at this;exact this)
 have hoi':A5 r.nms q.id s2=o.id:=by rw[hqi];exact hoi
 have hctx:=I7 hW hx hp hkp hq ho hoi' hox (Jc hmy).2 hn0 m1 m3;have HNo:=aa (And.intro hnx (And.intro hnp hnq));have HIds:=aa (And.intro hrx.id (And.intro hrp.id hrq.id));have HLt:=aa (Tx h hW);obtain⟨rd,erd⟩:∃rd,Bx r q.id s2=rd:=⟨_,rfl⟩;have HDr:=aa (show ∀w',Below w2.heap.size w2 w'->Calls Tryz.prog 98 #[.pointer (some ⟨f,0,none⟩),.agg #[.pointer (some ⟨nq.blk,0,none⟩),.pointer (some ⟨nq.b,0,none⟩),.string s2]] w' λe w''=>e=.returned (.tuple #[])/\(∃N',FsN w'' f mi mg rd N'/\∀n∈N',n∈N)/\Frm (fpL f mi mg N) w' w'' from λw' hb=>by have:=Iu (h2.below hW hb) hW hq hkq hnq (hrq2.below (.inr (.inl hkq)) hb) s2 (by rw[hoi'];exact ho0);rw[erd] at this;exact this)
 rw[erd] at hctx;obtain⟨hWd,hxd,hpd,hqd,hnd,hag⟩:=hctx;have HERd:=aa erd;have HWd:=aa hWd;have HMd:=aa (And.intro hxd (And.intro hpd hqd));have H0d:=aa (And.intro hnd (And.intro m1 (And.intro m2 m3)));have HKX:=aa hkx;have HXQ:=aa hxq;have HAg:=aa (show(Au (A9 rd.nms q.id) s2).isSome=false by rw[hag];rfl);have hmm:nq.m≠np.m:=λe=>hpq (by
  by_cases c:nq=np
  .rw[c]
  .exact dq (e ▸ Nd.m_mem (hrp.ne hkp).1) (h.apart hnq hnp c _ (Nd.m_mem (hrq.ne hkq).1)))
 have HMm:=aa hmm;have HPB:=aa hpq;have HPQ:=aa (show p.id≠q.id from λe=>hpq (by rw[B4 h.idU hnp hnq (hrp.id.trans (e.trans hrq.id.symm))]));clear hw2 hB hb0 hb1 h h2 hW hrp2 hrq2 hpl hp hkp hnp hrp hq hkq hnq hrq hpi hqi hl hl2 hk hk2 hv hv2 hx hnx hrx hxi hx0 hrx2 hkx hpq hmm hxq hmy ho hno hro hoi hox ho0 hro2 hoi' hWd hxd hpd hqd hnd hag erd hh0 hn0 m1 m2 m3 hxp
 go_enter Tryz.func73,Tryz.ntmps73
 go_wp2_with fail
 rw[HW2.out]
 go_upto_region 4 with(go_at_call 99;(with_reducible refine HP.out.mono ?_);rintro e w3 ⟨rfl,hB3⟩;have hs3:=hB3.size;replace hB3:=aa hB3)
 obtain⟨w4,hw4,hB4,hs4,hb40,hb41⟩:=Gj w3 #[.pointer (some ⟨np.blk,0,none⟩),.pointer (some ⟨np.b,0,none⟩),.string s] #[.pointer (some ⟨nq.blk,0,none⟩),.pointer (some ⟨nq.b,0,none⟩),.string s2] 137 137;rw[hw4];have c0:w4.cell? ⟨w3.heap.size,0,none⟩=some (.pointer (some ⟨np.blk,0,none⟩)):=by rw[A1 hb40];rfl
 have c1:w4.cell? ⟨w3.heap.size,1,none⟩=some (.pointer (some ⟨np.b,0,none⟩)):=by rw[A1 hb40];rfl
 have c2:w4.cell? ⟨w3.heap.size,2,none⟩=some (.string s):=by rw[A1 hb40];rfl
 have HQ1:=aa hb40;have HQ2:=aa hb41;have HB4:=aa (hB3.out.trans (hB4.mono (by omega)));clear hw4 hb40 hb41 hB4
 go_upto_region 22 with(first
  | (go_at_call 59;(with_reducible refine(HAt.out w4 HB4.out).mono ?_);rintro e w5 ⟨rfl,hB5⟩;have hs5:=hB5.size;have hY:=(hB5.block _ (by omega)).trans HQ2.out;have d0:w5.cell? ⟨w3.heap.size+1,0,none⟩=_:=A1 hY 0;have d1:w5.cell? ⟨w3.heap.size+1,1,none⟩=_:=A1 hY 1;have d2:w5.cell? ⟨w3.heap.size+1,2,none⟩=_:=A1 hY 2;have HQ25:=aa hY;have HQ15:=aa ((hB5.block _ (by omega)).trans HQ1.out);clear hY;have HB5:=aa (HB4.out.trans (hB5.mono HB4.out.size));obtain⟨x1,x2,x3,-,-⟩:=HX.out w5 HB5.out;clear hB5)
  | (go_at_call 59;(with_reducible refine(HAt2.out w5 HB5.out).mono ?_);rintro e w6 ⟨rfl,hB6⟩;have hs6:=hB6.size;have HQ26:=aa ((hB6.block _ (by omega)).trans HQ25.out);have HQ16:=aa ((hB6.block _ (by omega)).trans HQ15.out);have e0:w6.cell? ⟨w3.heap.size,0,none⟩=_:=A1 HQ16.out 0;have g0:w6.cell? ⟨w3.heap.size+1,0,none⟩=_:=A1 HQ26.out 0;have HB6:=aa (HB5.out.trans (hB6.mono HB5.out.size));obtain⟨y1,y2,y3,y4,y5⟩:=HX.out w6 HB6.out;clear hB6;have z1:=HO.out w6 HB6.out;have g1:w6.cell? ⟨w3.heap.size+1,1,none⟩=_:=A1 HQ26.out 1;have g2':w6.cell? ⟨w3.heap.size+1,2,none⟩=_:=A1 HQ26.out 2)
  | (go_at_call 97;(with_reducible refine(HMy.out w6 HB6.out).mono ?_);rintro e w7 ⟨rfl,rfl⟩)
  | (go_at_call 98;(with_reducible refine(HDr.out w6 HB6.out).mono ?_);rintro e wd ⟨rfl,hd⟩;have HD:=aa hd;clear hd))
 obtain⟨⟨N7,F7,hsub⟩,Fr7⟩:=HD.out;have hb6:=HB.out.trans (HB6.out.mono (show w.heap.size<=w2.heap.size by omega));have hsz:=hb6.size;have hwz:w.heap.size+2<=w3.heap.size:=by omega
 have HQ17:=aa ((Fr7.block w3.heap.size (Ah HQ16.out) (λhm=>by have:=HLt.out _ hm;omega)).trans HQ16.out);have HQ27:=aa ((Fr7.block (w3.heap.size+1) (Ah HQ26.out) (λhm=>by have:=HLt.out _ hm;omega)).trans HQ26.out);obtain⟨hx7,X6⟩:=Cr HH.out F7 HWd.out hsub HMd.out.1 HNo.out.1 HIds.out.1;obtain⟨hp7,P6⟩:=Cr HH.out F7 HWd.out hsub HMd.out.2.1 HNo.out.2.1 HIds.out.2.1;obtain⟨hq7,Q6⟩:=Cr HH.out F7 HWd.out hsub HMd.out.2.2 HNo.out.2.2 HIds.out.2.2;have F6:=F7;have HSub:=aa hsub;have HNd:=aa (And.intro hx7 (And.intro hp7 hq7));have FB:=aa ((Frm.of_below (S:=fpL f mi mg N) hb6).trans Fr7);clear F7 hsub Fr7 hx7 hp7 hq7 hb6;have a1:wd.cell? ⟨w3.heap.size,1,none⟩=some (.pointer (some ⟨np.b,0,none⟩)):=by rw[A1 HQ17.out];rfl
 have a2:wd.cell? ⟨np.b,0,none⟩=some (.map (some np.m)):=by rw[A1 (P6.dir HK.out.1).1];rfl
 have hm6:MapB wd np.m Cd Ar (A9 rd.nms p.id):=(P6.dir HK.out.1).2;obtain⟨o1,hdel,hmp1⟩:=Br (P:=Tryz.prog) (ty:=0) (tk:=9) KS (t:=150) Tryz.underlying150 hm6 s;unfold Cd at hdel;have M1:=aa hmp1;have G6:=aa F6;have P6':=aa P6;have Q6':=aa Q6;have X6':=aa X6;clear F6 P6 Q6 X6 hm6 hmp1
 go_upto_region 23 with fail
 obtain⟨w7,hw7⟩:∃w7,putObj wd np.m o1=w7:=⟨_,rfl⟩;rw[hw7];have k7:∀k,k≠np.m->w7.heap[k]?=wd.heap[k]?:=λk hk=>by rw[<-hw7];exact A8 wd o1 hk
 rw[hw7] at M1;have W7:=aa hw7;have K7:=aa k7;have b1:w7.cell? ⟨w3.heap.size+1,1,none⟩=some (.pointer (some ⟨nq.b,0,none⟩)):=by rw[A1 ((k7 _ (A7 (P6'.out.dir HK.out.1).2 HQ27.out).symm).trans HQ27.out)];rfl
 have b2:w7.cell? ⟨nq.b,0,none⟩=some (.map (some nq.m)):=by rw[A1 ((k7 _ (A7 (P6'.out.dir HK.out.1).2 (Q6'.out.dir HK.out.2).1).symm).trans (Q6'.out.dir HK.out.2).1)];rfl
 have hm7:MapB w7 nq.m Cd Ar (A9 rd.nms q.id):=(Q6'.out.dir HK.out.2).2.of_block (k7 _ HMm.out);have hag:(Au (A9 rd.nms q.id) s2).isSome=false:=HAg.out;obtain⟨o2,hup,hmp2⟩:=Ag KS (P:=Tryz.prog) (t:=150) Tryz.underlying150 hm7 s2 x.id;rw[By hag] at hmp2;unfold Cd Ar at hup;have M2:=aa hmp2;clear hm7 hag hmp2 hw7 k7 hdel a1 a2
 go_upto_region 24 with fail
 obtain⟨w8,hw8⟩:∃w8,putObj w7 nq.m o2=w8:=⟨_,rfl⟩;rw[hw8];rw[hw8] at M2;have W8:=aa hw8;have K8:=aa (show ∀k,k≠nq.m->w8.heap[k]?=w7.heap[k]? from λk hk=>by rw[<-hw8];exact A8 w7 o2 hk);clear hw8 hup b1 b2
 go_wp2
 go_ret
 refine⟨rfl,?_⟩;obtain⟨ei,eq⟩:=HI.out;subst ei eq;rw[HERd.out];obtain⟨hx,hp,hq⟩:=HMd.out;obtain⟨hnx,hnp,hnq⟩:=HNd.out;obtain⟨hrx,hrp,hrq⟩:=And.intro X6'.out (And.intro P6'.out Q6'.out);obtain⟨hn0,m1,m2,m3⟩:=H0d.out;have hlk:=λy=>Bw HWd.out hx hn0 m3 q.id s2 (y:=y) (y':=y) rfl rfl;rw[m1,m2] at hlk;have hns:∀j,A9 (Aq rd p.id s q.id s2 x).nms j=_:=λj=>by rw[Cg,Aw,As]
 have pm:=(P6'.out.dir HK.out.1).2;have qm:=(Q6'.out.dir HK.out.2).2;have hl:∀y,A4 (Aq rd p.id s q.id s2 x) y=A4 rd y:=λy=>by have:=hlk y;rw[dn (λe=>HKX.out e.2.1),dn (λe=>HKX.out e.2.1)] at this;exact this
 refine⟨N7,Ej G6.out HWd.out hx hnx hrx hp HK.out.1 hnp hrp hq HK.out.2 hnq hrq hn0 m1 m2 m3 HXP.out HXQ.out (λk hk a b _ _ _=>(K8.out k b).trans (K7.out k a)) ?_ ?_ ?_ ?_ (λe=>dq e HKX.out),λk hk=>.inl (Qh HSub.out k hk),?_⟩
 .rw[hns,dn HPQ.out,dp rfl];exact M1.out.of_block (K8.out _ (λe=>HMm.out e.symm))
 .rw[hns,dp rfl,dn (λe=>HPQ.out e.symm)];exact M2.out
 .rw[hl];exact(K8.out _ (A7 qm P6'.out.head).symm).trans ((K7.out _ (A7 pm P6'.out.head).symm).trans P6'.out.head)
 .rw[hl];exact(K8.out _ (A7 qm Q6'.out.head).symm).trans ((K7.out _ (A7 pm Q6'.out.head).symm).trans Q6'.out.head)
 .rw[<-W8.out,<-W7.out];exact(FB.out.putObj (.inl (Af HNo.out.2.1 (Nd.m_mem (hrp.ne HK.out.1).1))) o1).putObj (.inl (Af HNo.out.2.2 (Nd.m_mem (hrq.ne HK.out.2).1))) o2
set_option maxRecDepth 100000 in
set_option maxHeartbeats 8000000 in
theorem T4 {w:World}{f mi mg K:Nat}{r:RFs}{N:List Nd}(h:FsN w f mi mg r N)(hW:Wf r K)(i g:Int)(s:ByteArray)(hs:s.size<=maxLen)(i2 g2:Int)(s2:ByteArray)(hs2:s2.size<=maxLen)
  {p q:RIn} {np nq:Nd} (hp:p∈r.ins) (hkp:p.kind=2) (hnp:np∈N) (hrp:NodeR w r p np) (hq:q∈r.ins) (hkq:q.kind=2) (hnq:nq∈N) (hrq:NodeR w r q nq) (hpi:p.id=i) (hqi:q.id=i2)
  (hl:An r (i,g)=true) (hl2:An r (i2,g2)=true) (hk:(A3 r.ins i).kind=2) (hk2:(A3 r.ins i2).kind=2) (hv:Aj s=true) (hv2:Aj s2=true)
  {x:RIn} {nx:Nd} (hx:x∈r.ins) (hnx:nx∈N) (hrx:NodeR w r x nx) (hxi:A5 r.nms i s=x.id) (hxq:x.id≠q.id) {o:RIn} {no:Nd} (ho:o∈r.ins) (hno:no∈N) (hro:NodeR w r o no) (hoi:A5 r.nms i2 s2=o.id) (hox:o.id≠x.id) (hkx:¬x.kind=2) (hpq:np=nq) (hmy:Hw r o false=0) :
  Calls Tryz.prog 73 #[.pointer (some ⟨f,0,none⟩),.agg #[.int .i64 i,.int .i64 g],.string s,.agg #[.int .i64 i2,.int .i64 g2],.string s2] w λe w'=>e=.returned (.int .i64 0)/\Cm w w' f mi mg N (Aq (Bx r i2 s2) i s i2 s2 x):=by
 subst hpq;obtain rfl:=h.uniq hW hp hrp hq hrq;obtain rfl:i=i2:=hpi.symm.trans hqi;obtain⟨w2,hw2,hB,hz2,hb0,hb1⟩:=Gj w #[.int .i64 i,.int .i64 g] #[.int .i64 i,.int .i64 g2] 31 31;have t0:w2.cell? ⟨w.heap.size,0,none⟩=some (.int .i64 i):=by rw[A1 hb0];rfl
 have t1:w2.cell? ⟨w.heap.size,1,none⟩=some (.int .i64 g):=by rw[A1 hb0];rfl
 have t2:w2.cell? ⟨w.heap.size+1,0,none⟩=some (.int .i64 i):=by rw[A1 hb1];rfl
 have t3:w2.cell? ⟨w.heap.size+1,1,none⟩=some (.int .i64 g2):=by rw[A1 hb1];rfl
 have h2:=h.below hW hB;have HW2:=aa hw2;have HB:=aa hB;have hrp2:=hrp.below (.inr (.inl hkp)) hB;have hrq2:=hrq.below (.inr (.inl hkq)) hB;have hpl:=Bn h2 hW i g s hs i g2 s2 hs2 hl hl2 hk hk2 hv hv2 hnp hnq (hrp.id.trans hpi) (hrq.id.trans hqi);have HP:=aa hpl;have HAt:=aa (show ∀w4,Below w2.heap.size w2 w4->Calls Tryz.prog 59 #[.agg #[.pointer (some ⟨np.blk,0,none⟩),.pointer (some ⟨np.b,0,none⟩),.string s]] w4 λe w'=>e=.returned (.tuple #[.int .i64 (A5 r.nms i s),.bool (decide (A5 r.nms i s≠0))])/\Below w4.heap.size w4 w' from λw4 hb=>by have hr4:=hrp2.below (.inr (.inl hkp)) hb;have:=B8 hr4 hkp (hr4.lt (.inr (.inl hkp))) s (some ⟨np.blk,0,none⟩);rw[hpi,hW.entry_some] at this;exact this)
 have HAt2:=aa (show ∀w4,Below w2.heap.size w2 w4->Calls Tryz.prog 59 #[.agg #[.pointer (some ⟨np.blk,0,none⟩),.pointer (some ⟨np.b,0,none⟩),.string s2]] w4 λe w'=>e=.returned (.tuple #[.int .i64 (A5 r.nms i s2),.bool (decide (A5 r.nms i s2≠0))])/\Below w4.heap.size w4 w' from λw4 hb=>by have hr4:=hrq2.below (.inr (.inl hkq)) hb;have:=B8 hr4 hkq (hr4.lt (.inr (.inl hkq))) s2 (some ⟨np.blk,0,none⟩);rw[hqi,hW.entry_some] at this;exact this)
 have hx0:x.id≠0:=hW.ne0 hx;rw[hxi,decide_eq_true hx0] at HAt;have hrx2:=hrx.below (hW.kind x hx) hB;have HX:=aa (show ∀w',Below w2.heap.size w2 w'->w'.cell? ⟨f,1,none⟩=some (.map (some mi))/\w'.cell? ⟨nx.blk,5,none⟩=some (Ab x nx)/\(Instr.lookup 144 (.map (some mi)) (.int .i64 x.id) false).run Tryz.prog w'=.ok (.pointer (some ⟨nx.blk,0,none⟩)) w'/\w'.cell? ⟨np.blk,0,none⟩=some (.int .i64 i)/\w'.cell? ⟨np.blk,4,none⟩=some (.int .i64 (A4 r p:Int)) from λw' hb=>by have h4:=h2.below hW hb;have hg:=h4.get hnx;rw[hrx.id] at hg;have hlk:=(h4.look x.id).2;rw[hg] at hlk;have hq4:=(hrq2.below (.inr (.inl hkq)) hb).cells;exact⟨h4.cells.2.1,(hrx2.below (hW.kind x hx) hb).cells.2.2.2.2.2,hlk,by rw[<-hqi];exact hq4.1,hq4.2.2.2.2.1⟩)
 have hta:∀w,(Instr.typeAssert (Ab x nx) 20 135 true).run Tryz.prog w=.ok (.tuple #[.pointer none,.bool false]) w:=λw=>by rw[Ce,dn hkx]
 have hh0:A5 r.nms i s≠0:=by rw[hxi];exact hW.ne0 hx
 obtain⟨n0,hn0,m1,m2,m3⟩:=B9 hh0;rw[hxi] at m3;rw[<-hpi] at m1;have hxp:x.id≠p.id:=by rw[<-m3,<-m1];exact hW.self_ne hn0
 have HH:=aa h;have HWf:=aa hW;have HR:=aa (And.intro hrx (And.intro hrp hrq));have HM:=aa (And.intro hx (And.intro hp hq));have HN:=aa (And.intro hnx (And.intro hnp hnq));have H0:=aa (And.intro hn0 (And.intro m1 (And.intro m2 m3)));have HK:=aa (And.intro hkp hkq);have HI:=aa (And.intro hpi hqi);have HXP:=aa hxp;have HN6:=aa (show ∀w',Below w2.heap.size w2 w'->FsN w' f mi mg r N/\NodeR w' r p np/\NodeR w' r p np/\NodeR w' r x nx from λw' hb=>⟨h2.below hW hb,hrp2.below (.inr (.inl hkp)) hb,hrq2.below (.inr (.inl hkq)) hb,hrx2.below (hW.kind x hx) hb⟩);have ho0:o.id≠0:=hW.ne0 ho;rw[hoi,decide_eq_true ho0] at HAt2;have hbq:(o.id==x.id)=false:=by rw[beq_eq_false_iff_ne];exact hox
 have hro2:=hro.below (hW.kind o ho) hB;have HO:=aa (show ∀w',Below w2.heap.size w2 w'->(Instr.lookup 144 (.map (some mi)) (.int .i64 o.id) false).run Tryz.prog w'=.ok (.pointer (some ⟨no.blk,0,none⟩)) w' from λw' hb=>by have h4:=h2.below hW hb;have hg:=h4.get hno;rw[hro.id] at hg;have hlk:=(h4.look o.id).2;rw[hg] at hlk;exact hlk)
 have HMy:=aa (show ∀w',Below w2.heap.size w2 w'->Calls Tryz.prog 97 #[.pointer (some ⟨f,0,none⟩),.pointer (some ⟨no.blk,0,none⟩),.bool false] w' λe w''=>e=.returned (.int .i64 0)/\w'=w'' from λw' hb=>by have:=Hm (hro2.below (hW.kind o ho) hb) false (some ⟨f,0,none⟩);rw[hmy] at this;exact this)
 have hoi':A5 r.nms p.id s2=o.id:=by rw[hqi];exact hoi
 have hctx:=I7 hW hx hp hkp hq ho hoi' hox (Jc hmy).2 hn0 m1 m3;have HNo:=aa (And.intro hnx (And.intro hnp hnq));have HIds:=aa (And.intro hrx.id (And.intro hrp.id hrq.id));have HLt:=aa (Tx h hW);obtain⟨rd,erd⟩:∃rd,Bx r p.id s2=rd:=⟨_,rfl⟩;have HDr:=aa (show ∀w',Below w2.heap.size w2 w'->Calls Tryz.prog 98 #[.pointer (some ⟨f,0,none⟩),.agg #[.pointer (some ⟨np.blk,0,none⟩),.pointer (some ⟨np.b,0,none⟩),.string s2]] w' λe w''=>e=.returned (.tuple #[])/\(∃N',FsN w'' f mi mg rd N'/\∀n∈N',n∈N)/\Frm (fpL f mi mg N) w' w'' from λw' hb=>by have:=Iu (h2.below hW hb) hW hq hkq hnq (hrq2.below (.inr (.inl hkq)) hb) s2 (by rw[hoi'];exact ho0);rw[erd] at this;exact this)
 rw[erd] at hctx;obtain⟨hWd,hxd,hpd,hqd,hnd,hag⟩:=hctx;have HERd:=aa erd;have HWd:=aa hWd;have HMd:=aa (And.intro hxd (And.intro hpd hqd));have H0d:=aa (And.intro hnd (And.intro m1 (And.intro m2 m3)));have HKX:=aa hkx;have HXQ:=aa hxq;have HAg:=aa (show(Au (He (A9 rd.nms p.id) s) s2).isSome=false from by have h1:Au (A9 rd.nms p.id) s2=none:=hag;rw[If,h1];split<;>rfl)
 clear hw2 hB hb0 hb1 h h2 hW hrp2 hrq2 hpl hp hkp hnp hrp hq hkq hnq hrq hpi hqi hl hl2 hk hk2 hv hv2 hx hnx hrx hxi hx0 hrx2 hkx hxq hmy ho hno hro hoi hox ho0 hro2 hoi' hWd hxd hpd hqd hnd hag erd hh0 hn0 m1 m2 m3 hxp
 go_enter Tryz.func73,Tryz.ntmps73
 go_wp2_with fail
 rw[HW2.out]
 go_upto_region 4 with(go_at_call 99;(with_reducible refine HP.out.mono ?_);rintro e w3 ⟨rfl,hB3⟩;have hs3:=hB3.size;replace hB3:=aa hB3)
 obtain⟨w4,hw4,hB4,hs4,hb40,hb41⟩:=Gj w3 #[.pointer (some ⟨np.blk,0,none⟩),.pointer (some ⟨np.b,0,none⟩),.string s] #[.pointer (some ⟨np.blk,0,none⟩),.pointer (some ⟨np.b,0,none⟩),.string s2] 137 137;rw[hw4];have c0:w4.cell? ⟨w3.heap.size,0,none⟩=some (.pointer (some ⟨np.blk,0,none⟩)):=by rw[A1 hb40];rfl
 have c1:w4.cell? ⟨w3.heap.size,1,none⟩=some (.pointer (some ⟨np.b,0,none⟩)):=by rw[A1 hb40];rfl
 have c2:w4.cell? ⟨w3.heap.size,2,none⟩=some (.string s):=by rw[A1 hb40];rfl
 have HQ1:=aa hb40;have HQ2:=aa hb41;have HB4:=aa (hB3.out.trans (hB4.mono (by omega)));clear hw4 hb40 hb41 hB4
 go_upto_region 22 with(first
  | (go_at_call 59;(with_reducible refine(HAt.out w4 HB4.out).mono ?_);rintro e w5 ⟨rfl,hB5⟩;have hs5:=hB5.size;have hY:=(hB5.block _ (by omega)).trans HQ2.out;have d0:w5.cell? ⟨w3.heap.size+1,0,none⟩=_:=A1 hY 0;have d1:w5.cell? ⟨w3.heap.size+1,1,none⟩=_:=A1 hY 1;have d2:w5.cell? ⟨w3.heap.size+1,2,none⟩=_:=A1 hY 2;have HQ25:=aa hY;have HQ15:=aa ((hB5.block _ (by omega)).trans HQ1.out);clear hY;have HB5:=aa (HB4.out.trans (hB5.mono HB4.out.size));obtain⟨x1,x2,x3,-,-⟩:=HX.out w5 HB5.out;clear hB5)
  | (go_at_call 59;(with_reducible refine(HAt2.out w5 HB5.out).mono ?_);rintro e w6 ⟨rfl,hB6⟩;have hs6:=hB6.size;have HQ26:=aa ((hB6.block _ (by omega)).trans HQ25.out);have HQ16:=aa ((hB6.block _ (by omega)).trans HQ15.out);have e0:w6.cell? ⟨w3.heap.size,0,none⟩=_:=A1 HQ16.out 0;have g0:w6.cell? ⟨w3.heap.size+1,0,none⟩=_:=A1 HQ26.out 0;have HB6:=aa (HB5.out.trans (hB6.mono HB5.out.size));obtain⟨y1,y2,y3,y4,y5⟩:=HX.out w6 HB6.out;clear hB6;have z1:=HO.out w6 HB6.out;have g1:w6.cell? ⟨w3.heap.size+1,1,none⟩=_:=A1 HQ26.out 1;have g2':w6.cell? ⟨w3.heap.size+1,2,none⟩=_:=A1 HQ26.out 2)
  | (go_at_call 97;(with_reducible refine(HMy.out w6 HB6.out).mono ?_);rintro e w7 ⟨rfl,rfl⟩)
  | (go_at_call 98;(with_reducible refine(HDr.out w6 HB6.out).mono ?_);rintro e wd ⟨rfl,hd⟩;have HD:=aa hd;clear hd))
 obtain⟨⟨N7,F7,hsub⟩,Fr7⟩:=HD.out;have hb6:=HB.out.trans (HB6.out.mono (show w.heap.size<=w2.heap.size by omega));have hsz:=hb6.size;have hwz:w.heap.size+2<=w3.heap.size:=by omega
 have HQ17:=aa ((Fr7.block w3.heap.size (Ah HQ16.out) (λhm=>by have:=HLt.out _ hm;omega)).trans HQ16.out);have HQ27:=aa ((Fr7.block (w3.heap.size+1) (Ah HQ26.out) (λhm=>by have:=HLt.out _ hm;omega)).trans HQ26.out);obtain⟨hx7,X6⟩:=Cr HH.out F7 HWd.out hsub HMd.out.1 HNo.out.1 HIds.out.1;obtain⟨hp7,P6⟩:=Cr HH.out F7 HWd.out hsub HMd.out.2.1 HNo.out.2.1 HIds.out.2.1;obtain⟨hq7,Q6⟩:=Cr HH.out F7 HWd.out hsub HMd.out.2.2 HNo.out.2.2 HIds.out.2.2;have F6:=F7;have HSub:=aa hsub;have HNd:=aa (And.intro hx7 (And.intro hp7 hq7));have FB:=aa ((Frm.of_below (S:=fpL f mi mg N) hb6).trans Fr7);clear F7 hsub Fr7 hx7 hp7 hq7 hb6;have a1:wd.cell? ⟨w3.heap.size,1,none⟩=some (.pointer (some ⟨np.b,0,none⟩)):=by rw[A1 HQ17.out];rfl
 have a2:wd.cell? ⟨np.b,0,none⟩=some (.map (some np.m)):=by rw[A1 (P6.dir HK.out.1).1];rfl
 have hm6:MapB wd np.m Cd Ar (A9 rd.nms p.id):=(P6.dir HK.out.1).2;obtain⟨o1,hdel,hmp1⟩:=Br (P:=Tryz.prog) (ty:=0) (tk:=9) KS (t:=150) Tryz.underlying150 hm6 s;unfold Cd at hdel;have M1:=aa hmp1;have G6:=aa F6;have P6':=aa P6;have Q6':=aa Q6;have X6':=aa X6;clear F6 P6 Q6 X6 hm6 hmp1
 go_upto_region 23 with fail
 obtain⟨w7,hw7⟩:∃w7,putObj wd np.m o1=w7:=⟨_,rfl⟩;rw[hw7];have k7:∀k,k≠np.m->w7.heap[k]?=wd.heap[k]?:=λk hk=>by rw[<-hw7];exact A8 wd o1 hk
 rw[hw7] at M1;have W7:=aa hw7;have K7:=aa k7;have b1:w7.cell? ⟨w3.heap.size+1,1,none⟩=some (.pointer (some ⟨np.b,0,none⟩)):=by rw[A1 ((k7 _ (A7 (P6'.out.dir HK.out.1).2 HQ27.out).symm).trans HQ27.out)];rfl
 have b2:w7.cell? ⟨np.b,0,none⟩=some (.map (some np.m)):=by rw[A1 ((k7 _ (A7 (P6'.out.dir HK.out.1).2 (Q6'.out.dir HK.out.2).1).symm).trans (Q6'.out.dir HK.out.2).1)];rfl
 have hm7:MapB w7 np.m Cd Ar (He (A9 rd.nms p.id) s):=M1.out;have hag:(Au (He (A9 rd.nms p.id) s) s2).isSome=false:=HAg.out;obtain⟨o2,hup,hmp2⟩:=Ag KS (P:=Tryz.prog) (t:=150) Tryz.underlying150 hm7 s2 x.id;rw[By hag] at hmp2;unfold Cd Ar at hup;have M2:=aa hmp2;clear hm7 hag hmp2 hw7 k7 hdel a1 a2
 go_upto_region 24 with fail
 obtain⟨w8,hw8⟩:∃w8,putObj w7 np.m o2=w8:=⟨_,rfl⟩;rw[hw8];rw[hw8] at M2;have W8:=aa hw8;have K8:=aa (show ∀k,k≠np.m->w8.heap[k]?=w7.heap[k]? from λk hk=>by rw[<-hw8];exact A8 w7 o2 hk);clear hw8 hup b1 b2
 go_wp2
 go_ret
 refine⟨rfl,?_⟩;obtain⟨ei,-⟩:=HI.out;subst ei;rw[HERd.out];obtain⟨hx,hp,hq⟩:=HMd.out;obtain⟨hnx,hnp,hnq⟩:=HNd.out;obtain⟨hrx,hrp,hrq⟩:=And.intro X6'.out (And.intro P6'.out Q6'.out);obtain⟨hn0,m1,m2,m3⟩:=H0d.out;have hlk:=λy=>Bw HWd.out hx hn0 m3 p.id s2 (y:=y) (y':=y) rfl rfl;rw[m1,m2] at hlk;have hns:∀j,A9 (Aq rd p.id s p.id s2 x).nms j=_:=λj=>by rw[Cg,Aw,As]
 have pm:=(P6'.out.dir HK.out.1).2;have qm:=(Q6'.out.dir HK.out.2).2;have hl:∀y,A4 (Aq rd p.id s p.id s2 x) y=A4 rd y:=λy=>by have:=hlk y;rw[dn (λe=>HKX.out e.2.1)] at this;exact this
 refine⟨N7,Ej G6.out HWd.out hx hnx hrx hp HK.out.1 hnp hrp hq HK.out.2 hnq hrq hn0 m1 m2 m3 HXP.out HXQ.out (λk hk a b _ _ _=>(K8.out k b).trans (K7.out k a)) ?_ ?_ ?_ ?_ (λe=>dq e HKX.out),λk hk=>.inl (Qh HSub.out k hk),?_⟩
 .rw[hns,dp rfl,dp rfl];exact M2.out
 .rw[hns,dp rfl,dp rfl];exact M2.out
 .rw[hl];exact(K8.out _ (A7 qm P6'.out.head).symm).trans ((K7.out _ (A7 pm P6'.out.head).symm).trans P6'.out.head)
 .rw[hl];exact(K8.out _ (A7 qm Q6'.out.head).symm).trans ((K7.out _ (A7 pm Q6'.out.head).symm).trans Q6'.out.head)
 .rw[<-W8.out,<-W7.out];exact(FB.out.putObj (.inl (Af HNo.out.2.1 (Nd.m_mem (hrp.ne HK.out.1).1))) o1).putObj (.inl (Af HNo.out.2.2 (Nd.m_mem (hrq.ne HK.out.2).1))) o2
set_option maxRecDepth 100000 in
set_option maxHeartbeats 8000000 in
theorem Te {w:World}{f mi mg K:Nat}{r:RFs}{N:List Nd}(h:FsN w f mi mg r N)(hW:Wf r K)(i g:Int)(s:ByteArray)(hs:s.size<=maxLen)(i2 g2:Int)(s2:ByteArray)(hs2:s2.size<=maxLen)
  {p q:RIn} {np nq:Nd} (hp:p∈r.ins) (hkp:p.kind=2) (hnp:np∈N) (hrp:NodeR w r p np) (hq:q∈r.ins) (hkq:q.kind=2) (hnq:nq∈N) (hrq:NodeR w r q nq) (hpi:p.id=i) (hqi:q.id=i2)
  (hl:An r (i,g)=true) (hl2:An r (i2,g2)=true) (hk:(A3 r.ins i).kind=2) (hk2:(A3 r.ins i2).kind=2) (hv:Aj s=true) (hv2:Aj s2=true)
  {x:RIn} {nx:Nd} (hx:x∈r.ins) (hnx:nx∈N) (hrx:NodeR w r x nx) (hxi:A5 r.nms i s=x.id) (hxq:x.id≠q.id) {o:RIn} {no:Nd} (ho:o∈r.ins) (hno:no∈N) (hro:NodeR w r o no) (hoi:A5 r.nms i2 s2=o.id) (hox:o.id≠x.id) (hkx:x.kind=2) (hbl:Bq r i2 x.id=false) (hpq:np.blk≠nq.blk) (hmy:Hw r o true=0) :
  Calls Tryz.prog 73 #[.pointer (some ⟨f,0,none⟩),.agg #[.int .i64 i,.int .i64 g],.string s,.agg #[.int .i64 i2,.int .i64 g2],.string s2] w λe w'=>e=.returned (.int .i64 0)/\Cm w w' f mi mg N (Aq (Bx r i2 s2) i s i2 s2 x):=by
 obtain⟨w2,hw2,hB,hz2,hb0,hb1⟩:=Gj w #[.int .i64 i,.int .i64 g] #[.int .i64 i2,.int .i64 g2] 31 31;have t0:w2.cell? ⟨w.heap.size,0,none⟩=some (.int .i64 i):=by rw[A1 hb0];rfl
 have t1:w2.cell? ⟨w.heap.size,1,none⟩=some (.int .i64 g):=by rw[A1 hb0];rfl
 have t2:w2.cell? ⟨w.heap.size+1,0,none⟩=some (.int .i64 i2):=by rw[A1 hb1];rfl
 have t3:w2.cell? ⟨w.heap.size+1,1,none⟩=some (.int .i64 g2):=by rw[A1 hb1];rfl
 have h2:=h.below hW hB;have HW2:=aa hw2;have HB:=aa hB;have hrp2:=hrp.below (.inr (.inl hkp)) hB;have hrq2:=hrq.below (.inr (.inl hkq)) hB;have hpl:=Bn h2 hW i g s hs i2 g2 s2 hs2 hl hl2 hk hk2 hv hv2 hnp hnq (hrp.id.trans hpi) (hrq.id.trans hqi);have HP:=aa hpl;have HAt:=aa (show ∀w4,Below w2.heap.size w2 w4->Calls Tryz.prog 59 #[.agg #[.pointer (some ⟨np.blk,0,none⟩),.pointer (some ⟨np.b,0,none⟩),.string s]] w4 λe w'=>e=.returned (.tuple #[.int .i64 (A5 r.nms i s),.bool (decide (A5 r.nms i s≠0))])/\Below w4.heap.size w4 w' from λw4 hb=>by have hr4:=hrp2.below (.inr (.inl hkp)) hb;have:=B8 hr4 hkp (hr4.lt (.inr (.inl hkp))) s (some ⟨np.blk,0,none⟩);rw[hpi,hW.entry_some] at this;exact this)
 have HAt2:=aa (show ∀w4,Below w2.heap.size w2 w4->Calls Tryz.prog 59 #[.agg #[.pointer (some ⟨nq.blk,0,none⟩),.pointer (some ⟨nq.b,0,none⟩),.string s2]] w4 λe w'=>e=.returned (.tuple #[.int .i64 (A5 r.nms i2 s2),.bool (decide (A5 r.nms i2 s2≠0))])/\Below w4.heap.size w4 w' from λw4 hb=>by have hr4:=hrq2.below (.inr (.inl hkq)) hb;have:=B8 hr4 hkq (hr4.lt (.inr (.inl hkq))) s2 (some ⟨nq.blk,0,none⟩);rw[hqi,hW.entry_some] at this;exact this)
 have hx0:x.id≠0:=hW.ne0 hx;rw[hxi,decide_eq_true hx0] at HAt;have hrx2:=hrx.below (hW.kind x hx) hB;have HX:=aa (show ∀w',Below w2.heap.size w2 w'->w'.cell? ⟨f,1,none⟩=some (.map (some mi))/\w'.cell? ⟨nx.blk,5,none⟩=some (Ab x nx)/\(Instr.lookup 144 (.map (some mi)) (.int .i64 x.id) false).run Tryz.prog w'=.ok (.pointer (some ⟨nx.blk,0,none⟩)) w'/\w'.cell? ⟨nq.blk,0,none⟩=some (.int .i64 i2)/\w'.cell? ⟨nq.blk,4,none⟩=some (.int .i64 (A4 r q:Int)) from λw' hb=>by have h4:=h2.below hW hb;have hg:=h4.get hnx;rw[hrx.id] at hg;have hlk:=(h4.look x.id).2;rw[hg] at hlk;have hq4:=(hrq2.below (.inr (.inl hkq)) hb).cells;exact⟨h4.cells.2.1,(hrx2.below (hW.kind x hx) hb).cells.2.2.2.2.2,hlk,by rw[<-hqi];exact hq4.1,hq4.2.2.2.2.1⟩)
 have hta:∀w,(Instr.typeAssert (Ab x nx) 20 135 true).run Tryz.prog w=.ok (.tuple #[.pointer (some ⟨nx.b,0,none⟩),.bool true]) w:=λw=>by rw[Ce,dp hkx];rfl
 have hh0:A5 r.nms i s≠0:=by rw[hxi];exact hW.ne0 hx
 obtain⟨n0,hn0,m1,m2,m3⟩:=B9 hh0;rw[hxi] at m3;rw[<-hpi] at m1;have hxp:x.id≠p.id:=by rw[<-m3,<-m1];exact hW.self_ne hn0
 have HH:=aa h;have HWf:=aa hW;have HR:=aa (And.intro hrx (And.intro hrp hrq));have HM:=aa (And.intro hx (And.intro hp hq));have HN:=aa (And.intro hnx (And.intro hnp hnq));have H0:=aa (And.intro hn0 (And.intro m1 (And.intro m2 m3)));have HK:=aa (And.intro hkp hkq);have HI:=aa (And.intro hpi hqi);have HXP:=aa hxp;have HN6:=aa (show ∀w',Below w2.heap.size w2 w'->FsN w' f mi mg r N/\NodeR w' r p np/\NodeR w' r q nq/\NodeR w' r x nx from λw' hb=>⟨h2.below hW hb,hrp2.below (.inr (.inl hkp)) hb,hrq2.below (.inr (.inl hkq)) hb,hrx2.below (hW.kind x hx) hb⟩);have ho0:o.id≠0:=hW.ne0 ho;rw[hoi,decide_eq_true ho0] at HAt2;have hbq:(o.id==x.id)=false:=by rw[beq_eq_false_iff_ne];exact hox
 have hro2:=hro.below (hW.kind o ho) hB;have HO:=aa (show ∀w',Below w2.heap.size w2 w'->(Instr.lookup 144 (.map (some mi)) (.int .i64 o.id) false).run Tryz.prog w'=.ok (.pointer (some ⟨no.blk,0,none⟩)) w' from λw' hb=>by have h4:=h2.below hW hb;have hg:=h4.get hno;rw[hro.id] at hg;have hlk:=(h4.look o.id).2;rw[hg] at hlk;exact hlk)
 have HMy:=aa (show ∀w',Below w2.heap.size w2 w'->Calls Tryz.prog 97 #[.pointer (some ⟨f,0,none⟩),.pointer (some ⟨no.blk,0,none⟩),.bool true] w' λe w''=>e=.returned (.int .i64 0)/\w'=w'' from λw' hb=>by have:=Hm (hro2.below (hW.kind o ho) hb) true (some ⟨f,0,none⟩);rw[hmy] at this;exact this)
 have HBl:=aa (show ∀w',Below w2.heap.size w2 w'->Calls Tryz.prog 100 #[.pointer (some ⟨f,0,none⟩),.int .i64 i2,.int .i64 x.id] w' λe w''=>e=.returned (.bool false)/\w'=w'' from λw' hb=>by have:=Dr (h2.below hW hb) hW hq hkq x.id;rw[hqi,hbl] at this;exact this)
 have hoi':A5 r.nms q.id s2=o.id:=by rw[hqi];exact hoi
 have hctx:=I7 hW hx hp hkp hq ho hoi' hox (Jc hmy).2 hn0 m1 m3;have HNo:=aa (And.intro hnx (And.intro hnp hnq));have HIds:=aa (And.intro hrx.id (And.intro hrp.id hrq.id));have HLt:=aa (Tx h hW);obtain⟨rd,erd⟩:∃rd,Bx r q.id s2=rd:=⟨_,rfl⟩;have HDr:=aa (show ∀w',Below w2.heap.size w2 w'->Calls Tryz.prog 98 #[.pointer (some ⟨f,0,none⟩),.agg #[.pointer (some ⟨nq.blk,0,none⟩),.pointer (some ⟨nq.b,0,none⟩),.string s2]] w' λe w''=>e=.returned (.tuple #[])/\(∃N',FsN w'' f mi mg rd N'/\∀n∈N',n∈N)/\Frm (fpL f mi mg N) w' w'' from λw' hb=>by have:=Iu (h2.below hW hb) hW hq hkq hnq (hrq2.below (.inr (.inl hkq)) hb) s2 (by rw[hoi'];exact ho0);rw[erd] at this;exact this)
 rw[erd] at hctx;obtain⟨hWd,hxd,hpd,hqd,hnd,hag⟩:=hctx;have HERd:=aa erd;have HWd:=aa hWd;have HMd:=aa (And.intro hxd (And.intro hpd hqd));have H0d:=aa (And.intro hnd (And.intro m1 (And.intro m2 m3)));have HKX:=aa hkx;have HXQ:=aa hxq;have HLp:=aa (show 2<=A4 rd p/\A4 rd p<=20 from⟨by unfold A4;rw[dp hkp];omega,hWd.lim p hpd⟩);have HLq:=aa (show A4 rd q<=20 from hWd.lim q hqd);have HAg:=aa (show(Au (A9 rd.nms q.id) s2).isSome=false by rw[hag];rfl);have hmm:nq.m≠np.m:=λe=>hpq (by
  by_cases c:nq=np
  .rw[c]
  .exact dq (e ▸ Nd.m_mem (hrp.ne hkp).1) (h.apart hnq hnp c _ (Nd.m_mem (hrq.ne hkq).1)))
 have HMm:=aa hmm;have HPB:=aa hpq;have HPQ:=aa (show p.id≠q.id from λe=>hpq (by rw[B4 h.idU hnp hnq (hrp.id.trans (e.trans hrq.id.symm))]));clear hw2 hB hb0 hb1 h h2 hW hrp2 hrq2 hpl hp hkp hnp hrp hq hkq hnq hrq hpi hqi hl hl2 hk hk2 hv hv2 hx hnx hrx hxi hx0 hrx2 hkx hpq hmm hxq hmy ho hno hro hoi hox ho0 hro2 hoi' hWd hxd hpd hqd hnd hag erd hbl hh0 hn0 m1 m2 m3 hxp
 go_enter Tryz.func73,Tryz.ntmps73
 go_wp2_with fail
 rw[HW2.out]
 go_upto_region 4 with(go_at_call 99;(with_reducible refine HP.out.mono ?_);rintro e w3 ⟨rfl,hB3⟩;have hs3:=hB3.size;replace hB3:=aa hB3)
 obtain⟨w4,hw4,hB4,hs4,hb40,hb41⟩:=Gj w3 #[.pointer (some ⟨np.blk,0,none⟩),.pointer (some ⟨np.b,0,none⟩),.string s] #[.pointer (some ⟨nq.blk,0,none⟩),.pointer (some ⟨nq.b,0,none⟩),.string s2] 137 137;rw[hw4];have c0:w4.cell? ⟨w3.heap.size,0,none⟩=some (.pointer (some ⟨np.blk,0,none⟩)):=by rw[A1 hb40];rfl
 have c1:w4.cell? ⟨w3.heap.size,1,none⟩=some (.pointer (some ⟨np.b,0,none⟩)):=by rw[A1 hb40];rfl
 have c2:w4.cell? ⟨w3.heap.size,2,none⟩=some (.string s):=by rw[A1 hb40];rfl
 have HQ1:=aa hb40;have HQ2:=aa hb41;have HB4:=aa (hB3.out.trans (hB4.mono (by omega)));clear hw4 hb40 hb41 hB4
 go_upto_region 22 with(first
  | (go_at_call 59;(with_reducible refine(HAt.out w4 HB4.out).mono ?_);rintro e w5 ⟨rfl,hB5⟩;have hs5:=hB5.size;have hY:=(hB5.block _ (by omega)).trans HQ2.out;have d0:w5.cell? ⟨w3.heap.size+1,0,none⟩=_:=A1 hY 0;have d1:w5.cell? ⟨w3.heap.size+1,1,none⟩=_:=A1 hY 1;have d2:w5.cell? ⟨w3.heap.size+1,2,none⟩=_:=A1 hY 2;have HQ25:=aa hY;have HQ15:=aa ((hB5.block _ (by omega)).trans HQ1.out);clear hY;have HB5:=aa (HB4.out.trans (hB5.mono HB4.out.size));obtain⟨x1,x2,x3,-,-⟩:=HX.out w5 HB5.out;clear hB5)
  | (go_at_call 59;(with_reducible refine(HAt2.out w5 HB5.out).mono ?_);rintro e w6 ⟨rfl,hB6⟩;have hs6:=hB6.size;have HQ26:=aa ((hB6.block _ (by omega)).trans HQ25.out);have HQ16:=aa ((hB6.block _ (by omega)).trans HQ15.out);have e0:w6.cell? ⟨w3.heap.size,0,none⟩=_:=A1 HQ16.out 0;have g0:w6.cell? ⟨w3.heap.size+1,0,none⟩=_:=A1 HQ26.out 0;have HB6:=aa (HB5.out.trans (hB6.mono HB5.out.size));obtain⟨y1,y2,y3,y4,y5⟩:=HX.out w6 HB6.out;clear hB6;have z1:=HO.out w6 HB6.out;have g1:w6.cell? ⟨w3.heap.size+1,1,none⟩=_:=A1 HQ26.out 1;have g2':w6.cell? ⟨w3.heap.size+1,2,none⟩=_:=A1 HQ26.out 2)
  | (go_at_call 100;(with_reducible refine(HBl.out w6 HB6.out).mono ?_);rintro e w7 ⟨rfl,rfl⟩)
  | (go_at_call 97;(with_reducible refine(HMy.out w6 HB6.out).mono ?_);rintro e w7 ⟨rfl,rfl⟩)
  | (go_at_call 98;(with_reducible refine(HDr.out w6 HB6.out).mono ?_);rintro e wd ⟨rfl,hd⟩;have HD:=aa hd;clear hd))
 obtain⟨⟨N7,F7,hsub⟩,Fr7⟩:=HD.out;have hb6:=HB.out.trans (HB6.out.mono (show w.heap.size<=w2.heap.size by omega));have hsz:=hb6.size;have hwz:w.heap.size+2<=w3.heap.size:=by omega
 have HQ17:=aa ((Fr7.block w3.heap.size (Ah HQ16.out) (λhm=>by have:=HLt.out _ hm;omega)).trans HQ16.out);have HQ27:=aa ((Fr7.block (w3.heap.size+1) (Ah HQ26.out) (λhm=>by have:=HLt.out _ hm;omega)).trans HQ26.out);obtain⟨hx7,X6⟩:=Cr HH.out F7 HWd.out hsub HMd.out.1 HNo.out.1 HIds.out.1;obtain⟨hp7,P6⟩:=Cr HH.out F7 HWd.out hsub HMd.out.2.1 HNo.out.2.1 HIds.out.2.1;obtain⟨hq7,Q6⟩:=Cr HH.out F7 HWd.out hsub HMd.out.2.2 HNo.out.2.2 HIds.out.2.2;have F6:=F7;have HSub:=aa hsub;have HNd:=aa (And.intro hx7 (And.intro hp7 hq7));have FB:=aa ((Frm.of_below (S:=fpL f mi mg N) hb6).trans Fr7);clear F7 hsub Fr7 hx7 hp7 hq7 hb6;have a1:wd.cell? ⟨w3.heap.size,1,none⟩=some (.pointer (some ⟨np.b,0,none⟩)):=by rw[A1 HQ17.out];rfl
 have a2:wd.cell? ⟨np.b,0,none⟩=some (.map (some np.m)):=by rw[A1 (P6.dir HK.out.1).1];rfl
 have hm6:MapB wd np.m Cd Ar (A9 rd.nms p.id):=(P6.dir HK.out.1).2;obtain⟨o1,hdel,hmp1⟩:=Br (P:=Tryz.prog) (ty:=0) (tk:=9) KS (t:=150) Tryz.underlying150 hm6 s;unfold Cd at hdel;have M1:=aa hmp1;have G6:=aa F6;have P6':=aa P6;have Q6':=aa Q6;have X6':=aa X6;clear F6 P6 Q6 X6 hm6 hmp1
 go_upto_region 23 with fail
 obtain⟨w7,hw7⟩:∃w7,putObj wd np.m o1=w7:=⟨_,rfl⟩;rw[hw7];have k7:∀k,k≠np.m->w7.heap[k]?=wd.heap[k]?:=λk hk=>by rw[<-hw7];exact A8 wd o1 hk
 rw[hw7] at M1;have W7:=aa hw7;have K7:=aa k7;have b1:w7.cell? ⟨w3.heap.size+1,1,none⟩=some (.pointer (some ⟨nq.b,0,none⟩)):=by rw[A1 ((k7 _ (A7 (P6'.out.dir HK.out.1).2 HQ27.out).symm).trans HQ27.out)];rfl
 have b2:w7.cell? ⟨nq.b,0,none⟩=some (.map (some nq.m)):=by rw[A1 ((k7 _ (A7 (P6'.out.dir HK.out.1).2 (Q6'.out.dir HK.out.2).1).symm).trans (Q6'.out.dir HK.out.2).1)];rfl
 have hm7:MapB w7 nq.m Cd Ar (A9 rd.nms q.id):=(Q6'.out.dir HK.out.2).2.of_block (k7 _ HMm.out);have hag:(Au (A9 rd.nms q.id) s2).isSome=false:=HAg.out;obtain⟨o2,hup,hmp2⟩:=Ag KS (P:=Tryz.prog) (t:=150) Tryz.underlying150 hm7 s2 x.id;rw[By hag] at hmp2;unfold Cd Ar at hup;have M2:=aa hmp2;clear hm7 hag hmp2 hw7 k7 hdel a1 a2
 go_upto_region 24 with fail
 obtain⟨w8,hw8⟩:∃w8,putObj w7 nq.m o2=w8:=⟨_,rfl⟩;rw[hw8];rw[hw8] at M2;have W8:=aa hw8;have K8:=aa (show ∀k,k≠nq.m->w8.heap[k]?=w7.heap[k]? from λk hk=>by rw[<-hw8];exact A8 w7 o2 hk);clear hw8 hup b1 b2;have ne:∀k,k≠np.m->k≠nq.m->w8.heap[k]?=wd.heap[k]?:=λk a b=>(K8.out k b).trans (K7.out k a);have pm:=(P6'.out.dir HK.out.1).2;have qm:=(Q6'.out.dir HK.out.2).2;have xd:=(X6'.out.dir HKX.out).1;have P8:=(ne _ (A7 pm P6'.out.head).symm (A7 qm P6'.out.head).symm).trans P6'.out.head;have Q8:=(ne _ (A7 pm Q6'.out.head).symm (A7 qm Q6'.out.head).symm).trans Q6'.out.head;have X8:=(ne _ (A7 pm xd).symm (A7 qm xd).symm).trans xd;have R8:=(ne _ (A7 pm HQ17.out).symm (A7 qm HQ17.out).symm).trans HQ17.out;have S8:=(ne _ (A7 pm HQ27.out).symm (A7 qm HQ27.out).symm).trans HQ27.out;have f0:w8.cell? ⟨w3.heap.size,0,none⟩=some (.pointer (some ⟨np.blk,0,none⟩)):=by rw[A1 R8];rfl
 have f1:w8.cell? ⟨w3.heap.size+1,0,none⟩=some (.pointer (some ⟨nq.blk,0,none⟩)):=by rw[A1 S8];rfl
 have f2:w8.cell? ⟨nq.blk,0,none⟩=some (.int .i64 q.id):=by rw[A1 Q8];rfl
 have f3:w8.cell? ⟨np.blk,4,none⟩=some (.int .i64 (A4 rd p:Int)):=by rw[A1 P8];rfl
 have f4:w8.cell? ⟨nq.blk,4,none⟩=some (.int .i64 (A4 rd q:Int)):=by rw[A1 Q8];rfl
 have f5:w8.cell? ⟨nx.b,1,none⟩=some (.int .i64 x.parent):=by rw[A1 X8];rfl
 have f6:w8.frozen? ⟨np.blk,4,none⟩=false:=frozen_of_row w8 np.blk 4 _ _ P8;have f7:w8.frozen? ⟨nq.blk,4,none⟩=false:=frozen_of_row w8 nq.blk 4 _ _ Q8;have f8:w8.frozen? ⟨nx.b,1,none⟩=false:=frozen_of_row w8 nx.b 1 _ _ X8;have n1:w3.heap.size≠nx.b:=Ao R8 X8 (by decide);have n2:w3.heap.size≠np.blk:=Ao R8 P8 (by decide);have n3:w3.heap.size≠nq.blk:=Ao R8 Q8 (by decide);have n4:w3.heap.size+1≠nx.b:=Ao S8 X8 (by decide);have n5:w3.heap.size+1≠np.blk:=Ao S8 P8 (by decide);have n6:w3.heap.size+1≠nq.blk:=Ao S8 Q8 (by decide);have n7:nx.b≠np.blk:=Ao X8 P8 (by decide);have n8:nx.b≠nq.blk:=Ao X8 Q8 (by decide);have P8':=aa P8;have Q8':=aa Q8;have X8':=aa X8;have hlp:=HLp.out.1;have hlp2:=HLp.out.2;have hlq:=HLq.out;clear P8 Q8 X8 R8 S8 ne pm qm xd;have n9:np.blk≠nq.blk:=HPB.out;obtain⟨lp,elp⟩:∃lp,A4 rd p=lp:=⟨_,rfl⟩;obtain⟨lq,elq⟩:∃lq,A4 rd q=lq:=⟨_,rfl⟩;rw[elp] at f3 P8' hlp hlp2;rw[elq] at f4 Q8' hlq;have ELP:=aa elp;have ELQ:=aa elq;clear elp elq
 go_wp2
 go_ret
 refine⟨rfl,?_⟩;obtain⟨ei,eq⟩:=HI.out;subst ei eq;rw[HERd.out];obtain⟨hx,hp,hq⟩:=HMd.out;obtain⟨hnx,hnp,hnq⟩:=HNd.out;obtain⟨hrx,hrp,hrq⟩:=And.intro X6'.out (And.intro P6'.out Q6'.out);obtain⟨hn0,m1,m2,m3⟩:=H0d.out;have hlk:=λy=>Bw HWd.out hx hn0 m3 q.id s2 (y:=y) (y':=y) rfl rfl;rw[m1,m2] at hlk;have hns:∀j,A9 (Aq rd p.id s q.id s2 x).nms j=_:=λj=>by rw[Cg,Aw,As]
 have pm:=(P6'.out.dir HK.out.1).2;have qm:=(Q6'.out.dir HK.out.2).2;have xd:=(X6'.out.dir HKX.out).1;have c1:((lp:Int) - 1)=((lp - 1:Nat):Int):=by omega
 have c2:((lq:Int)+1)=((lq+1:Nat):Int):=by omega
 rw[c1,c2];have lP:A4 (Aq rd p.id s q.id s2 x) p=lp - 1:=by have:=hlk p;rw[dp ⟨HK.out.1,HKX.out,rfl⟩,dn (λe=>HPQ.out e.2.2.symm),ELP.out] at this;omega
 have lQ:A4 (Aq rd p.id s q.id s2 x) q=lq+1:=by have:=hlk q;rw[dn (λe=>HPQ.out e.2.2),dp ⟨HK.out.2,HKX.out,rfl⟩,ELQ.out] at this;omega
 refine⟨N7,Ej G6.out HWd.out hx hnx hrx hp HK.out.1 hnp hrp hq HK.out.2 hnq hrq hn0 m1 m2 m3 HXP.out HXQ.out (λk hk a b c d e=>(A2 _ _ _ _ _ d).trans ((A2 _ _ _ _ _ c).trans ((A2 _ _ _ _ _ (e HKX.out)).trans ((K8.out k b).trans (K7.out k a))))) ?_ ?_ ?_ ?_ (λ_=>?_),λk hk=>.inl (Qh HSub.out k hk),?_⟩
 .rw[hns,dn HPQ.out,dp rfl];exact M1.out.of_block ((A2 _ _ _ _ _ (A7 pm Q6'.out.head)).trans ((A2 _ _ _ _ _ (A7 pm P6'.out.head)).trans ((A2 _ _ _ _ _ (A7 pm xd)).trans (K8.out _ (λe=>HMm.out e.symm)))))
 .rw[hns,dp rfl,dn (λe=>HPQ.out e.symm)];exact M2.out.of_block ((A2 _ _ _ _ _ (A7 qm Q6'.out.head)).trans ((A2 _ _ _ _ _ (A7 qm P6'.out.head)).trans (A2 _ _ _ _ _ (A7 qm xd))))
 .rw[lP];exact(A2 _ _ _ _ _ n9).trans (Bj ((A2 _ _ _ _ _ n7.symm).trans P8'.out))
 .rw[lQ];exact Bj ((A2 _ _ _ _ _ n9.symm).trans ((A2 _ _ _ _ _ n8.symm).trans Q8'.out))
 .exact(A2 _ _ _ _ _ n8).trans ((A2 _ _ _ _ _ n7).trans (heap_setCell_same w8 nx.b 1 _ _ _ X8'.out))
 .rw[<-W8.out,<-W7.out];exact(((((FB.out.putObj (.inl (Af HNo.out.2.1 (Nd.m_mem (hrp.ne HK.out.1).1))) o1).putObj (.inl (Af HNo.out.2.2 (Nd.m_mem (hrq.ne HK.out.2).1))) o2).setCell (.inl (Af HNo.out.1 (Nd.b_mem (hrx.ne HKX.out).1))) _).setCell (.inl (Af HNo.out.2.1 np.blk_mem)) _).setCell (.inl (Af HNo.out.2.2 nq.blk_mem)) _)
set_option maxRecDepth 100000 in
set_option maxHeartbeats 8000000 in
theorem Rj {w:World}{f mi mg K:Nat}{r:RFs}{N:List Nd}(h:FsN w f mi mg r N)(hW:Wf r K)(i g:Int)(s:ByteArray)(hs:s.size<=maxLen)(i2 g2:Int)(s2:ByteArray)(hs2:s2.size<=maxLen)
  {p q:RIn} {np nq:Nd} (hp:p∈r.ins) (hkp:p.kind=2) (hnp:np∈N) (hrp:NodeR w r p np) (hq:q∈r.ins) (hkq:q.kind=2) (hnq:nq∈N) (hrq:NodeR w r q nq) (hpi:p.id=i) (hqi:q.id=i2)
  (hl:An r (i,g)=true) (hl2:An r (i2,g2)=true) (hk:(A3 r.ins i).kind=2) (hk2:(A3 r.ins i2).kind=2) (hv:Aj s=true) (hv2:Aj s2=true)
  {x:RIn} {nx:Nd} (hx:x∈r.ins) (hnx:nx∈N) (hrx:NodeR w r x nx) (hxi:A5 r.nms i s=x.id) (hxq:x.id≠q.id) {o:RIn} {no:Nd} (ho:o∈r.ins) (hno:no∈N) (hro:NodeR w r o no) (hoi:A5 r.nms i2 s2=o.id) (hox:o.id≠x.id) (hkx:x.kind=2) (hbl:Bq r i2 x.id=false) (hpq:np=nq) (hmy:Hw r o true=0) :
  Calls Tryz.prog 73 #[.pointer (some ⟨f,0,none⟩),.agg #[.int .i64 i,.int .i64 g],.string s,.agg #[.int .i64 i2,.int .i64 g2],.string s2] w λe w'=>e=.returned (.int .i64 0)/\Cm w w' f mi mg N (Aq (Bx r i2 s2) i s i2 s2 x):=by
 subst hpq;obtain rfl:=h.uniq hW hp hrp hq hrq;obtain rfl:i=i2:=hpi.symm.trans hqi;obtain⟨w2,hw2,hB,hz2,hb0,hb1⟩:=Gj w #[.int .i64 i,.int .i64 g] #[.int .i64 i,.int .i64 g2] 31 31;have t0:w2.cell? ⟨w.heap.size,0,none⟩=some (.int .i64 i):=by rw[A1 hb0];rfl
 have t1:w2.cell? ⟨w.heap.size,1,none⟩=some (.int .i64 g):=by rw[A1 hb0];rfl
 have t2:w2.cell? ⟨w.heap.size+1,0,none⟩=some (.int .i64 i):=by rw[A1 hb1];rfl
 have t3:w2.cell? ⟨w.heap.size+1,1,none⟩=some (.int .i64 g2):=by rw[A1 hb1];rfl
 have h2:=h.below hW hB;have HW2:=aa hw2;have HB:=aa hB;have hrp2:=hrp.below (.inr (.inl hkp)) hB;have hrq2:=hrq.below (.inr (.inl hkq)) hB;have hpl:=Bn h2 hW i g s hs i g2 s2 hs2 hl hl2 hk hk2 hv hv2 hnp hnq (hrp.id.trans hpi) (hrq.id.trans hqi);have HP:=aa hpl;have HAt:=aa (show ∀w4,Below w2.heap.size w2 w4->Calls Tryz.prog 59 #[.agg #[.pointer (some ⟨np.blk,0,none⟩),.pointer (some ⟨np.b,0,none⟩),.string s]] w4 λe w'=>e=.returned (.tuple #[.int .i64 (A5 r.nms i s),.bool (decide (A5 r.nms i s≠0))])/\Below w4.heap.size w4 w' from λw4 hb=>by have hr4:=hrp2.below (.inr (.inl hkp)) hb;have:=B8 hr4 hkp (hr4.lt (.inr (.inl hkp))) s (some ⟨np.blk,0,none⟩);rw[hpi,hW.entry_some] at this;exact this)
 have HAt2:=aa (show ∀w4,Below w2.heap.size w2 w4->Calls Tryz.prog 59 #[.agg #[.pointer (some ⟨np.blk,0,none⟩),.pointer (some ⟨np.b,0,none⟩),.string s2]] w4 λe w'=>e=.returned (.tuple #[.int .i64 (A5 r.nms i s2),.bool (decide (A5 r.nms i s2≠0))])/\Below w4.heap.size w4 w' from λw4 hb=>by have hr4:=hrq2.below (.inr (.inl hkq)) hb;have:=B8 hr4 hkq (hr4.lt (.inr (.inl hkq))) s2 (some ⟨np.blk,0,none⟩);rw[hqi,hW.entry_some] at this;exact this)
 have hx0:x.id≠0:=hW.ne0 hx;rw[hxi,decide_eq_true hx0] at HAt;have hrx2:=hrx.below (hW.kind x hx) hB;have HX:=aa (show ∀w',Below w2.heap.size w2 w'->w'.cell? ⟨f,1,none⟩=some (.map (some mi))/\w'.cell? ⟨nx.blk,5,none⟩=some (Ab x nx)/\(Instr.lookup 144 (.map (some mi)) (.int .i64 x.id) false).run Tryz.prog w'=.ok (.pointer (some ⟨nx.blk,0,none⟩)) w'/\w'.cell? ⟨np.blk,0,none⟩=some (.int .i64 i)/\w'.cell? ⟨np.blk,4,none⟩=some (.int .i64 (A4 r p:Int)) from λw' hb=>by have h4:=h2.below hW hb;have hg:=h4.get hnx;rw[hrx.id] at hg;have hlk:=(h4.look x.id).2;rw[hg] at hlk;have hq4:=(hrq2.below (.inr (.inl hkq)) hb).cells;exact⟨h4.cells.2.1,(hrx2.below (hW.kind x hx) hb).cells.2.2.2.2.2,hlk,by rw[<-hqi];exact hq4.1,hq4.2.2.2.2.1⟩)
 have hta:∀w,(Instr.typeAssert (Ab x nx) 20 135 true).run Tryz.prog w=.ok (.tuple #[.pointer (some ⟨nx.b,0,none⟩),.bool true]) w:=λw=>by rw[Ce,dp hkx];rfl
 have hh0:A5 r.nms i s≠0:=by rw[hxi];exact hW.ne0 hx
 obtain⟨n0,hn0,m1,m2,m3⟩:=B9 hh0;rw[hxi] at m3;rw[<-hpi] at m1;have hxp:x.id≠p.id:=by rw[<-m3,<-m1];exact hW.self_ne hn0
 have HH:=aa h;have HWf:=aa hW;have HR:=aa (And.intro hrx (And.intro hrp hrq));have HM:=aa (And.intro hx (And.intro hp hq));have HN:=aa (And.intro hnx (And.intro hnp hnq));have H0:=aa (And.intro hn0 (And.intro m1 (And.intro m2 m3)));have HK:=aa (And.intro hkp hkq);have HI:=aa (And.intro hpi hqi);have HXP:=aa hxp;have HN6:=aa (show ∀w',Below w2.heap.size w2 w'->FsN w' f mi mg r N/\NodeR w' r p np/\NodeR w' r p np/\NodeR w' r x nx from λw' hb=>⟨h2.below hW hb,hrp2.below (.inr (.inl hkp)) hb,hrq2.below (.inr (.inl hkq)) hb,hrx2.below (hW.kind x hx) hb⟩);have ho0:o.id≠0:=hW.ne0 ho;rw[hoi,decide_eq_true ho0] at HAt2;have hbq:(o.id==x.id)=false:=by rw[beq_eq_false_iff_ne];exact hox
 have hro2:=hro.below (hW.kind o ho) hB;have HO:=aa (show ∀w',Below w2.heap.size w2 w'->(Instr.lookup 144 (.map (some mi)) (.int .i64 o.id) false).run Tryz.prog w'=.ok (.pointer (some ⟨no.blk,0,none⟩)) w' from λw' hb=>by have h4:=h2.below hW hb;have hg:=h4.get hno;rw[hro.id] at hg;have hlk:=(h4.look o.id).2;rw[hg] at hlk;exact hlk)
 have HMy:=aa (show ∀w',Below w2.heap.size w2 w'->Calls Tryz.prog 97 #[.pointer (some ⟨f,0,none⟩),.pointer (some ⟨no.blk,0,none⟩),.bool true] w' λe w''=>e=.returned (.int .i64 0)/\w'=w'' from λw' hb=>by have:=Hm (hro2.below (hW.kind o ho) hb) true (some ⟨f,0,none⟩);rw[hmy] at this;exact this)
 have HBl:=aa (show ∀w',Below w2.heap.size w2 w'->Calls Tryz.prog 100 #[.pointer (some ⟨f,0,none⟩),.int .i64 i,.int .i64 x.id] w' λe w''=>e=.returned (.bool false)/\w'=w'' from λw' hb=>by have:=Dr (h2.below hW hb) hW hq hkq x.id;rw[hqi,hbl] at this;exact this)
 have hoi':A5 r.nms p.id s2=o.id:=by rw[hqi];exact hoi
 have hctx:=I7 hW hx hp hkp hq ho hoi' hox (Jc hmy).2 hn0 m1 m3;have HNo:=aa (And.intro hnx (And.intro hnp hnq));have HIds:=aa (And.intro hrx.id (And.intro hrp.id hrq.id));have HLt:=aa (Tx h hW);obtain⟨rd,erd⟩:∃rd,Bx r p.id s2=rd:=⟨_,rfl⟩;have HDr:=aa (show ∀w',Below w2.heap.size w2 w'->Calls Tryz.prog 98 #[.pointer (some ⟨f,0,none⟩),.agg #[.pointer (some ⟨np.blk,0,none⟩),.pointer (some ⟨np.b,0,none⟩),.string s2]] w' λe w''=>e=.returned (.tuple #[])/\(∃N',FsN w'' f mi mg rd N'/\∀n∈N',n∈N)/\Frm (fpL f mi mg N) w' w'' from λw' hb=>by have:=Iu (h2.below hW hb) hW hq hkq hnq (hrq2.below (.inr (.inl hkq)) hb) s2 (by rw[hoi'];exact ho0);rw[erd] at this;exact this)
 rw[erd] at hctx;obtain⟨hWd,hxd,hpd,hqd,hnd,hag⟩:=hctx;have HERd:=aa erd;have HWd:=aa hWd;have HMd:=aa (And.intro hxd (And.intro hpd hqd));have H0d:=aa (And.intro hnd (And.intro m1 (And.intro m2 m3)));have HKX:=aa hkx;have HXQ:=aa hxq;have HLp:=aa (show 2<=A4 rd p/\A4 rd p<=20 from⟨by unfold A4;rw[dp hkp];omega,hWd.lim p hpd⟩);have HLq:=aa (show A4 rd p<=20 from hWd.lim p hqd);have HAg:=aa (show(Au (He (A9 rd.nms p.id) s) s2).isSome=false from by have h1:Au (A9 rd.nms p.id) s2=none:=hag;rw[If,h1];split<;>rfl)
 clear hw2 hB hb0 hb1 h h2 hW hrp2 hrq2 hpl hp hkp hnp hrp hq hkq hnq hrq hpi hqi hl hl2 hk hk2 hv hv2 hx hnx hrx hxi hx0 hrx2 hkx hxq hmy ho hno hro hoi hox ho0 hro2 hoi' hWd hxd hpd hqd hnd hag erd hbl hh0 hn0 m1 m2 m3 hxp
 go_enter Tryz.func73,Tryz.ntmps73
 go_wp2_with fail
 rw[HW2.out]
 go_upto_region 4 with(go_at_call 99;(with_reducible refine HP.out.mono ?_);rintro e w3 ⟨rfl,hB3⟩;have hs3:=hB3.size;replace hB3:=aa hB3)
 obtain⟨w4,hw4,hB4,hs4,hb40,hb41⟩:=Gj w3 #[.pointer (some ⟨np.blk,0,none⟩),.pointer (some ⟨np.b,0,none⟩),.string s] #[.pointer (some ⟨np.blk,0,none⟩),.pointer (some ⟨np.b,0,none⟩),.string s2] 137 137;rw[hw4];have c0:w4.cell? ⟨w3.heap.size,0,none⟩=some (.pointer (some ⟨np.blk,0,none⟩)):=by rw[A1 hb40];rfl
 have c1:w4.cell? ⟨w3.heap.size,1,none⟩=some (.pointer (some ⟨np.b,0,none⟩)):=by rw[A1 hb40];rfl
 have c2:w4.cell? ⟨w3.heap.size,2,none⟩=some (.string s):=by rw[A1 hb40];rfl
 have HQ1:=aa hb40;have HQ2:=aa hb41;have HB4:=aa (hB3.out.trans (hB4.mono (by omega)));clear hw4 hb40 hb41 hB4
 go_upto_region 22 with(first
  | (go_at_call 59;(with_reducible refine(HAt.out w4 HB4.out).mono ?_);rintro e w5 ⟨rfl,hB5⟩;have hs5:=hB5.size;have hY:=(hB5.block _ (by omega)).trans HQ2.out;have d0:w5.cell? ⟨w3.heap.size+1,0,none⟩=_:=A1 hY 0;have d1:w5.cell? ⟨w3.heap.size+1,1,none⟩=_:=A1 hY 1;have d2:w5.cell? ⟨w3.heap.size+1,2,none⟩=_:=A1 hY 2;have HQ25:=aa hY;have HQ15:=aa ((hB5.block _ (by omega)).trans HQ1.out);clear hY;have HB5:=aa (HB4.out.trans (hB5.mono HB4.out.size));obtain⟨x1,x2,x3,-,-⟩:=HX.out w5 HB5.out;clear hB5)
  | (go_at_call 59;(with_reducible refine(HAt2.out w5 HB5.out).mono ?_);rintro e w6 ⟨rfl,hB6⟩;have hs6:=hB6.size;have HQ26:=aa ((hB6.block _ (by omega)).trans HQ25.out);have HQ16:=aa ((hB6.block _ (by omega)).trans HQ15.out);have e0:w6.cell? ⟨w3.heap.size,0,none⟩=_:=A1 HQ16.out 0;have g0:w6.cell? ⟨w3.heap.size+1,0,none⟩=_:=A1 HQ26.out 0;have HB6:=aa (HB5.out.trans (hB6.mono HB5.out.size));obtain⟨y1,y2,y3,y4,y5⟩:=HX.out w6 HB6.out;clear hB6;have z1:=HO.out w6 HB6.out;have g1:w6.cell? ⟨w3.heap.size+1,1,none⟩=_:=A1 HQ26.out 1;have g2':w6.cell? ⟨w3.heap.size+1,2,none⟩=_:=A1 HQ26.out 2)
  | (go_at_call 100;(with_reducible refine(HBl.out w6 HB6.out).mono ?_);rintro e w7 ⟨rfl,rfl⟩)
  | (go_at_call 97;(with_reducible refine(HMy.out w6 HB6.out).mono ?_);rintro e w7 ⟨rfl,rfl⟩)
  | (go_at_call 98;(with_reducible refine(HDr.out w6 HB6.out).mono ?_);rintro e wd ⟨rfl,hd⟩;have HD:=aa hd;clear hd))
 obtain⟨⟨N7,F7,hsub⟩,Fr7⟩:=HD.out;have hb6:=HB.out.trans (HB6.out.mono (show w.heap.size<=w2.heap.size by omega));have hsz:=hb6.size;have hwz:w.heap.size+2<=w3.heap.size:=by omega
 have HQ17:=aa ((Fr7.block w3.heap.size (Ah HQ16.out) (λhm=>by have:=HLt.out _ hm;omega)).trans HQ16.out);have HQ27:=aa ((Fr7.block (w3.heap.size+1) (Ah HQ26.out) (λhm=>by have:=HLt.out _ hm;omega)).trans HQ26.out);obtain⟨hx7,X6⟩:=Cr HH.out F7 HWd.out hsub HMd.out.1 HNo.out.1 HIds.out.1;obtain⟨hp7,P6⟩:=Cr HH.out F7 HWd.out hsub HMd.out.2.1 HNo.out.2.1 HIds.out.2.1;obtain⟨hq7,Q6⟩:=Cr HH.out F7 HWd.out hsub HMd.out.2.2 HNo.out.2.2 HIds.out.2.2;have F6:=F7;have HSub:=aa hsub;have HNd:=aa (And.intro hx7 (And.intro hp7 hq7));have FB:=aa ((Frm.of_below (S:=fpL f mi mg N) hb6).trans Fr7);clear F7 hsub Fr7 hx7 hp7 hq7 hb6;have a1:wd.cell? ⟨w3.heap.size,1,none⟩=some (.pointer (some ⟨np.b,0,none⟩)):=by rw[A1 HQ17.out];rfl
 have a2:wd.cell? ⟨np.b,0,none⟩=some (.map (some np.m)):=by rw[A1 (P6.dir HK.out.1).1];rfl
 have hm6:MapB wd np.m Cd Ar (A9 rd.nms p.id):=(P6.dir HK.out.1).2;obtain⟨o1,hdel,hmp1⟩:=Br (P:=Tryz.prog) (ty:=0) (tk:=9) KS (t:=150) Tryz.underlying150 hm6 s;unfold Cd at hdel;have M1:=aa hmp1;have G6:=aa F6;have P6':=aa P6;have Q6':=aa Q6;have X6':=aa X6;clear F6 P6 Q6 X6 hm6 hmp1
 go_upto_region 23 with fail
 obtain⟨w7,hw7⟩:∃w7,putObj wd np.m o1=w7:=⟨_,rfl⟩;rw[hw7];have k7:∀k,k≠np.m->w7.heap[k]?=wd.heap[k]?:=λk hk=>by rw[<-hw7];exact A8 wd o1 hk
 rw[hw7] at M1;have W7:=aa hw7;have K7:=aa k7;have b1:w7.cell? ⟨w3.heap.size+1,1,none⟩=some (.pointer (some ⟨np.b,0,none⟩)):=by rw[A1 ((k7 _ (A7 (P6'.out.dir HK.out.1).2 HQ27.out).symm).trans HQ27.out)];rfl
 have b2:w7.cell? ⟨np.b,0,none⟩=some (.map (some np.m)):=by rw[A1 ((k7 _ (A7 (P6'.out.dir HK.out.1).2 (Q6'.out.dir HK.out.2).1).symm).trans (Q6'.out.dir HK.out.2).1)];rfl
 have hm7:MapB w7 np.m Cd Ar (He (A9 rd.nms p.id) s):=M1.out;have hag:(Au (He (A9 rd.nms p.id) s) s2).isSome=false:=HAg.out;obtain⟨o2,hup,hmp2⟩:=Ag KS (P:=Tryz.prog) (t:=150) Tryz.underlying150 hm7 s2 x.id;rw[By hag] at hmp2;unfold Cd Ar at hup;have M2:=aa hmp2;clear hm7 hag hmp2 hw7 k7 hdel a1 a2
 go_upto_region 24 with fail
 obtain⟨w8,hw8⟩:∃w8,putObj w7 np.m o2=w8:=⟨_,rfl⟩;rw[hw8];rw[hw8] at M2;have W8:=aa hw8;have K8:=aa (show ∀k,k≠np.m->w8.heap[k]?=w7.heap[k]? from λk hk=>by rw[<-hw8];exact A8 w7 o2 hk);clear hw8 hup b1 b2;have ne:∀k,k≠np.m->k≠np.m->w8.heap[k]?=wd.heap[k]?:=λk a b=>(K8.out k b).trans (K7.out k a);have pm:=(P6'.out.dir HK.out.1).2;have qm:=(Q6'.out.dir HK.out.2).2;have xd:=(X6'.out.dir HKX.out).1;have P8:=(ne _ (A7 pm P6'.out.head).symm (A7 qm P6'.out.head).symm).trans P6'.out.head;have Q8:=(ne _ (A7 pm Q6'.out.head).symm (A7 qm Q6'.out.head).symm).trans Q6'.out.head;have X8:=(ne _ (A7 pm xd).symm (A7 qm xd).symm).trans xd;have R8:=(ne _ (A7 pm HQ17.out).symm (A7 qm HQ17.out).symm).trans HQ17.out;have S8:=(ne _ (A7 pm HQ27.out).symm (A7 qm HQ27.out).symm).trans HQ27.out;have f0:w8.cell? ⟨w3.heap.size,0,none⟩=some (.pointer (some ⟨np.blk,0,none⟩)):=by rw[A1 R8];rfl
 have f1:w8.cell? ⟨w3.heap.size+1,0,none⟩=some (.pointer (some ⟨np.blk,0,none⟩)):=by rw[A1 S8];rfl
 have f2:w8.cell? ⟨np.blk,0,none⟩=some (.int .i64 p.id):=by rw[A1 Q8];rfl
 have f3:w8.cell? ⟨np.blk,4,none⟩=some (.int .i64 (A4 rd p:Int)):=by rw[A1 P8];rfl
 have f4:w8.cell? ⟨np.blk,4,none⟩=some (.int .i64 (A4 rd p:Int)):=by rw[A1 Q8];rfl
 have f5:w8.cell? ⟨nx.b,1,none⟩=some (.int .i64 x.parent):=by rw[A1 X8];rfl
 have f6:w8.frozen? ⟨np.blk,4,none⟩=false:=frozen_of_row w8 np.blk 4 _ _ P8;have f7:w8.frozen? ⟨np.blk,4,none⟩=false:=frozen_of_row w8 np.blk 4 _ _ Q8;have f8:w8.frozen? ⟨nx.b,1,none⟩=false:=frozen_of_row w8 nx.b 1 _ _ X8;have n1:w3.heap.size≠nx.b:=Ao R8 X8 (by decide);have n2:w3.heap.size≠np.blk:=Ao R8 P8 (by decide);have n3:w3.heap.size≠np.blk:=Ao R8 Q8 (by decide);have n4:w3.heap.size+1≠nx.b:=Ao S8 X8 (by decide);have n5:w3.heap.size+1≠np.blk:=Ao S8 P8 (by decide);have n6:w3.heap.size+1≠np.blk:=Ao S8 Q8 (by decide);have n7:nx.b≠np.blk:=Ao X8 P8 (by decide);have n8:nx.b≠np.blk:=Ao X8 Q8 (by decide);have P8':=aa P8;have Q8':=aa Q8;have X8':=aa X8;have hlp:=HLp.out.1;have hlp2:=HLp.out.2;have hlq:=HLq.out;clear P8 Q8 X8 R8 S8 ne pm qm xd;obtain⟨lp,elp⟩:∃lp,A4 rd p=lp:=⟨_,rfl⟩;obtain⟨lq,elq⟩:∃lq,A4 rd p=lq:=⟨_,rfl⟩;rw[elp] at f3 P8' hlp hlp2;rw[elq] at f4 Q8' hlq;have ELP:=aa elp;have ELQ:=aa elq;clear elp elq
 go_wp2
 go_ret
 refine⟨rfl,?_⟩;obtain⟨ei,-⟩:=HI.out;subst ei;rw[HERd.out];obtain⟨hx,hp,hq⟩:=HMd.out;obtain⟨hnx,hnp,hnq⟩:=HNd.out;obtain⟨hrx,hrp,hrq⟩:=And.intro X6'.out (And.intro P6'.out Q6'.out);obtain⟨hn0,m1,m2,m3⟩:=H0d.out;have hlk:=λy=>Bw HWd.out hx hn0 m3 p.id s2 (y:=y) (y':=y) rfl rfl;rw[m1,m2] at hlk;have hns:∀j,A9 (Aq rd p.id s p.id s2 x).nms j=_:=λj=>by rw[Cg,Aw,As]
 have pm:=(P6'.out.dir HK.out.1).2;have qm:=(Q6'.out.dir HK.out.2).2;have xd:=(X6'.out.dir HKX.out).1;have c1:((lp:Int) - 1)=((lp - 1:Nat):Int):=by omega
 have c3:((lp:Int) - 1+1)=((lp:Nat):Int):=by omega
 try rw[c3]
 rw[c1];have lP:A4 (Aq rd p.id s p.id s2 x) p=lp:=by have:=hlk p;rw[dp ⟨HK.out.1,HKX.out,rfl⟩,ELP.out] at this;omega
 refine⟨N7,Ej G6.out HWd.out hx hnx hrx hp HK.out.1 hnp hrp hq HK.out.2 hnq hrq hn0 m1 m2 m3 HXP.out HXQ.out (λk hk a b c d e=>(A2 _ _ _ _ _ d).trans ((A2 _ _ _ _ _ c).trans ((A2 _ _ _ _ _ (e HKX.out)).trans ((K8.out k b).trans (K7.out k a))))) ?_ ?_ ?_ ?_ (λ_=>?_),λk hk=>.inl (Qh HSub.out k hk),?_⟩
 .rw[hns,dp rfl,dp rfl];exact M2.out.of_block ((A2 _ _ _ _ _ (A7 pm P6'.out.head)).trans ((A2 _ _ _ _ _ (A7 pm P6'.out.head)).trans (A2 _ _ _ _ _ (A7 pm xd))))
 .rw[hns,dp rfl,dp rfl];exact M2.out.of_block ((A2 _ _ _ _ _ (A7 pm P6'.out.head)).trans ((A2 _ _ _ _ _ (A7 pm P6'.out.head)).trans (A2 _ _ _ _ _ (A7 pm xd))))
 .rw[lP];exact Bj (Bj (lk':=lp - 1) ((A2 _ _ _ _ _ n7.symm).trans P8'.out))
 .rw[lP];exact Bj (Bj (lk':=lp - 1) ((A2 _ _ _ _ _ n7.symm).trans P8'.out))
 .exact(A2 _ _ _ _ _ n7).trans ((A2 _ _ _ _ _ n7).trans (heap_setCell_same w8 nx.b 1 _ _ _ X8'.out))
 .rw[<-W8.out,<-W7.out];exact(((((FB.out.putObj (.inl (Af HNo.out.2.1 (Nd.m_mem (hrp.ne HK.out.1).1))) o1).putObj (.inl (Af HNo.out.2.2 (Nd.m_mem (hrq.ne HK.out.2).1))) o2).setCell (.inl (Af HNo.out.1 (Nd.b_mem (hrx.ne HKX.out).1))) _).setCell (.inl (Af HNo.out.2.1 np.blk_mem)) _).setCell (.inl (Af HNo.out.2.2 np.blk_mem)) _)
set_option maxHeartbeats 2000000 in
theorem Vl {w:World}{f mi mg K:Nat}{r:RFs}{N:List Nd}(h:FsN w f mi mg r N)(H:Wf r K)(i g:Int)(s:ByteArray)(W:s.size<=maxLen)(E M:Int)(J:ByteArray)(z:J.size<=maxLen) :
  Calls Tryz.prog 73 #[.pointer (some ⟨f,0,none⟩),.agg #[.int .i64 i,.int .i64 g],.string s,.agg #[.int .i64 E,.int .i64 M],.string J] w
   λe w'=>e=.returned (.int .i64 (E6 r (i,g) s (E,M) J).2)/\Cm w w' f mi mg N (E6 r (i,g) s (E,M) J).1:=by
 have st:∀{v:Value} {e:Ending} {w':World},e=.returned v/\Below w.heap.size w w'->e=.returned v/\Cm w w' f mi mg N r:=fun⟨a,b⟩=>⟨a,Df h H b⟩;unfold E6;by_cases he:De r (i,g) s (E,M) J≠0
 .rw[dp he];exact(W6 h H i g s W E M J z he).mono λe w' U=>st U
 .rw[dn he];obtain⟨X,A,C,c,hv,B⟩:=Mp (an.1 he);dsimp only at C c⊢;obtain⟨Q,l,_⟩:=Ae X;obtain⟨R,j,_⟩:=Ae A;dsimp only at Q l R j;obtain⟨np,u,y⟩:=h.at_ H Q;obtain⟨nq,n,m⟩:=h.at_ H R;by_cases h0:A5 r.nms i s=0
  .rw[dp h0];exact(Sf h H i g s W E M J z Q C u y R c n m l j X A C c hv B h0).mono λe w' U=>st U
  .rw[dn h0];obtain⟨n0,hn0,m1,m2,m3⟩:=B9 h0;obtain⟨hx1,x,S,ex⟩:=H.nmI n0 hn0;have D:A5 r.nms i s=x.id:=by rw[<-m3,<-ex]
   obtain⟨nx,F,G⟩:=h.at_ H S;have hbx:A3 r.ins x.id=x:=H.byId S;rw[D,hbx];by_cases hox:x.id=A5 r.nms E J
   .rw[dp hox];exact(Rr h H i g s W E M J z Q C u y R c n m l j X A C c hv B S F G D hox.symm).mono λe w' U=>st U
   .rw[dn hox];by_cases Z:x.kind=2/\Bq r E x.id=true
    .rw[dp Z];by_cases ho:A5 r.nms E J=0
     .exact(Qi h H i g s W E M J z Q C u y R c n m l j X A C c hv B S F G D Z.1 Z.2 ho).mono λe w' U=>st U
     .exact(Q5 h H i g s W E M J z Q C u y R c n m l j X A C c hv B S F G D Z.1 Z.2 ho (λe=>hox e.symm)).mono λe w' U=>st U
    .rw[dn Z];have hbl:x.kind=2->Bq r E x.id=false:=λk=>by
      cases U:Bq r E x.id
      .rfl
      .exact dq ⟨k,U⟩ Z
     have T:x.id≠(A3 r.ins E).id:=λe=>by
      have k:x.kind=2:=by rw[<-H.byId S,e,j];exact c
      have:=hbl k;rw[e,j,U9] at this;cases this
     have hpn:np≠nq->np.blk≠nq.blk:=λhne e=>h.apart u n hne _ np.blk_mem (by rw[e];exact nq.blk_mem);by_cases ho:A5 r.nms E J=0
     .rw[dn (by simp[ho])];by_cases Y:x.kind=2/\i≠E/\20<=A4 r (A3 r.ins E)
      .rw[dp Y];have hne:np≠nq:=λe=>Y.2.1 (by rw[<-l,<-j,<-y.id,<-m.id,e]);exact(Q4 h H i g s W E M J z Q C u y R c n m l j X A C c hv B S F G D Y.1 (hbl Y.1) ho (hpn hne) Y.2.2).mono λe w' U=>st U
      .rw[dn Y];by_cases P:x.kind=2
       .by_cases I:np=nq
        .exact Ri h H i g s W E M J z Q C u y R c n m l j X A C c hv B S F G D T ho P (hbl P) I
        .refine Ry h H i g s W E M J z Q C u y R c n m l j X A C c hv B S F G D T ho P (hbl P) (hpn I) ?_;refine Nat.lt_of_not_le λe=>Y ⟨P,λe2=>I ?_,e⟩;exact B4 h.idU u n (by rw[y.id,m.id,l,j,e2])
       .by_cases I:np=nq
        .exact Se h H i g s W E M J z Q C u y R c n m l j X A C c hv B S F G D T ho P I
        .exact Rh h H i g s W E M J z Q C u y R c n m l j X A C c hv B S F G D T ho P (hpn I)
     .rw[dp ho];obtain⟨n1,hn1,a1,a2,a3⟩:=B9 ho;obtain⟨_,o,hO,eo⟩:=H.nmI n1 hn1;have V:A5 r.nms E J=o.id:=by rw[<-a3,<-eo]
      obtain⟨no,hno,hro⟩:=h.at_ H hO;have O:o.id≠x.id:=λe=>hox (by rw[V,e]);rw[V,H.byId hO];by_cases P:x.kind=2
      .rw[decide_eq_true P];by_cases L:Hw r o true≠0
       .rw[dp L];exact(Ta h H i g s W E M J z Q C u y R c n m l j X A C c hv B S F G D hO hno hro V O P (hbl P) L).mono λe w' U=>st U
       .rw[dn L];by_cases I:np=nq
        .exact Rj h H i g s W E M J z Q C u y R c n m l j X A C c hv B S F G D T hO hno hro V O P (hbl P) I (an.1 L)
        .exact Te h H i g s W E M J z Q C u y R c n m l j X A C c hv B S F G D T hO hno hro V O P (hbl P) (hpn I) (an.1 L)
      .rw[decide_eq_false P];by_cases L:Hw r o false≠0
       .rw[dp L];exact(Su h H i g s W E M J z Q C u y R c n m l j X A C c hv B S F G D hO hno hro V O P L).mono λe w' U=>st U
       .rw[dn L];by_cases I:np=nq
        .exact T4 h H i g s W E M J z Q C u y R c n m l j X A C c hv B S F G D T hO hno hro V O P I (an.1 L)
        .exact Sn h H i g s W E M J z Q C u y R c n m l j X A C c hv B S F G D T hO hno hro V O P (hpn I) (an.1 L)
theorem Z39 {r:RFs}{d:Int}{t:ByteArray}:∀y∈(Bx r d t).ins,y∈r.ins:=by
 intro y a;unfold Bx at a;split at a
 .exact(af.1 a).1
 .exact a
theorem Xe {r rd:RFs}{K:Nat}{f:Int}(l:Wf r K)(c:Wf rd K)(j:∀y∈rd.ins,y∈r.ins){id:Int}(i:Under rd f id):∀y∈rd.ins,y.id=id->y.kind=2->Under r f id:=by
 induction i with
 | refl=>exact λ_ _ _ _=>Under.refl
 | step h1 _ ih =>
  intro y g e k;subst e;rw[c.byId g] at ih;obtain⟨p,h,a,b⟩:=c.par y g k;have:=ih p h a b;refine Under.step h1 ?_;rw[l.byId (j y g)];exact this
theorem X5 {r:RFs}{K:Nat}(f:Wf r K)(h g:Int × Int)(s t:ByteArray):Wf (E6 r h s g t).1 K:=by
 unfold E6;by_cases S:De r h s g t≠0
 .rw[dp S];exact f
 .rw[dn S];obtain⟨X,J,hk,i,hv,C⟩:=Mp (an.1 S);obtain⟨W,H,_⟩:=Ae X;obtain⟨G,L,_⟩:=Ae J;by_cases R:A5 r.nms h.1 s=0
  .rw[dp R];exact f
  .rw[dn R];obtain⟨n0,u,F,V,A⟩:=B9 R;obtain⟨Z,x,M,ex⟩:=f.nmI n0 u;have z:A5 r.nms h.1 s=x.id:=by rw[<-A,<-ex]
   have T:A3 r.ins x.id=x:=f.byId M;rw[z,T];by_cases j:x.id=A5 r.nms g.1 t
   .rw[dp j];exact f
   .rw[dn j];by_cases v:x.kind=2/\Bq r g.1 x.id=true
    .rw[dp v];exact f
    .rw[dn v];have w:x.kind=2->¬Under r x.id g.1:=λk I=>v ⟨k,by unfold Bq;exact @decide_eq_true _ (Classical.propDecidable _) I⟩;generalize hpp:A3 r.ins h.1=p at *;generalize hqq:A3 r.ins g.1=q at *;rw[<-H] at F⊢;rw[z] at A;rw[<-L] at w j⊢;by_cases E:A5 r.nms q.id t=0
     .rw[dn (by simp[E])];by_cases m:x.kind=2/\p.id≠q.id/\20<=A4 r q
      .rw[dp m];exact f
      .rw[dn m];exact Ua f M G i u F V A C E w (λa b=>Nat.lt_of_not_le λc=>m ⟨a,b,c⟩)
     .rw[dp E];obtain⟨Y,N,a1,a2,a3⟩:=B9 E;obtain⟨_,o,O,eo⟩:=f.nmI Y N;have l:A5 r.nms q.id t=o.id:=by rw[<-a3,<-eo]
      rw[l,f.byId O];split
      .exact f
      .rename_i n
       have n:=an.1 n;have y:=Jc n;obtain⟨D,U,hpd,B,P,Q⟩:=I7 f M W hk G O l (λe=>j (by rw[l,e])) y.2 u F A;refine Ua D U B i P F V A C (by rw[<-Qq,Q];rfl) (λa I=>w a (Xe f D Z39 I q B rfl i)) (λa _=>Ve f G i O (y.1.2 (by simp[a])) l)
theorem L8 {r:RFs}{h:Int × Int}{s:ByteArray}(b:B2 r h s false=0):Az r h=0/\Aj s=true:=by
 unfold B2 at b;split at b
 .rename_i a;exact dq b a
 .rename_i a
  refine⟨an.1 a,?_⟩;rw[dn (by simp)] at b;split at b
  .assumption
  .cases b
theorem Z8j {r:RFs}{K:Nat}(i:Wf r K)(h d:Int × Int)(s:ByteArray):Wf (Ee r h d s).1 (K+1):=by
 have f:=i.up (Nat.le_succ K);unfold Ee;split
 .exact f
 .rename_i a
  split
  .exact f
  .rename_i b
   split
   .exact f
   .rename_i c
    split
    .exact f
    .rename_i e
     split
     .exact f
     .rename_i q
      obtain⟨l,n⟩:=L8 (an.1 b);obtain⟨k,m⟩:=Bi l;obtain⟨u,g,_⟩:=Ae k;obtain⟨v,j,_⟩:=Ae (by simpa using a:An r h=true);have:=Z3c i u m v c n (by rw[g];exact an.1 e) (by omega);rw[g,j] at this;exact this
theorem Z07 {r:RFs}{K:Nat}(a:Wf r K)(h:Int × Int)(s:ByteArray)(fo:Bool):Wf (Cb r h s fo).1 K:=by
 unfold Cb;split
 .exact a
 .rename_i b
  split
  .exact a
  .rename_i e
   split
   .exact a
   .rename_i c
    obtain⟨i,_⟩:=L8 (an.1 b);obtain⟨g,k⟩:=Bi i;obtain⟨j,f,_⟩:=Ae g;have:=Zh (d:=A3 r.ins h.1) (s:=s) a (by rw[f];exact e) (by rw[f];exact(Jc (an.1 c)).2);rw[f] at this;exact this
theorem Ru {r:RFs}{K:Nat}(j:Wf r K)(h:Int × Int)(s:ByteArray)(m:RMk):Wf (D9 r h s m).1 (K+1):=by
 have f:=j.up (Nat.le_succ K);unfold D9;split
 .exact f
 .rename_i a
  split
  .exact f
  .rename_i b
   split
   .exact f
   .rename_i c
    split
    .exact f
    .rename_i d
     split
     .exact f
     .rename_i e
      obtain⟨u,k⟩:=L8 (an.1 a);obtain⟨l,v⟩:=Bi u;obtain⟨n,i,_⟩:=Ae l;have:=Z8l (g:=h.2) j n v k (by simpa using b) (by rw[i];exact an.1 c) (λq=>by omega) (by omega);rw[i] at this;exact this
theorem Px {r:RFs}{h:Int × Int}(c:Bc r h=0):A3 r.ins h.1∈r.ins/\(A3 r.ins h.1).kind=1:=by
 unfold Bc at c;split at c
 .rename_i a
  split at c
  .rename_i b
   exact⟨(Ae a).1,b⟩
  .split at c<;>cases c
 .cases c
theorem Z43 {w:World}{f k m K:Nat}{r:RFs}{N:List Nd}(h:FsN w f k m r N)(c:Wf r K)(hd:Int × Int)(a:Int)(b:List UInt8)(t:Int):Wf (Bz r hd a b t).1 K:=by
 unfold Bz;split
 .exact c
 .rename_i a1
  split
  .exact c
  .split
   .exact c
   .rename_i a3
    obtain⟨j,i⟩:=Px (an.1 a1);obtain⟨n,y,hr⟩:=h.at_ c j;obtain⟨sz,bl,_,g⟩:=hr.file i;refine Yx c j i _ _ _ ?_;have z:=E8 (Nc g a b);have u:=E8 g;have A:=Pv g a b.length;have v:=Wb (bl:=bl) a b;have l:¬Vs r < (J7 (A3 r.ins hd.1).On a b.length:Int):=λe=>a3 (.inl e);unfold Vs at l;omega
theorem Za5 {r:RFs}{K:Nat}(a:Wf r K)(hd:Int × Int)(n t:Int):Wf (Fs r hd n t).1 K:=by
 unfold Fs;split
 .exact a
 .rename_i a1
  split
  .exact a
  .split
   .exact a
   .obtain⟨c,b⟩:=Px (an.1 a1);refine Yx a c b _ _ _ ?_;have e:(Zc (A3 r.ins hd.1).B (A3 r.ins hd.1).On n).length<=(A3 r.ins hd.1).On.length:=by
     unfold Zc;split
     .exact ah _ _
     .exact au _
    have f:=a.sp;unfold Fr;omega
end Go.Proofs.YtmmdikhljefeiaaGreat
