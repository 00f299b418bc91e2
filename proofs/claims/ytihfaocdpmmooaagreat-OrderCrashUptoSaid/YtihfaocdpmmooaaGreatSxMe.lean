
import Derived.Test.YtihfaocdpmmooaaGreatSxMc
import Derived.ChangeKeysEq
namespace Go.Proofs.YtihfaocdpmmooaaGreat
open Go.RowKit
section
variable {P:Program} {f:FuncId} {gs:List G} {rs:List R} {Q Q':G→List R→Prop}
theorem Mq {rs a:List R}(h:rs.length=a.length)(k:Nat){r:R}(b:look k (Bk rs 0)=some r):∃r',look k (Bk a 0)=some r':=by rw[Ai] at b⊢;have:=(ac.1 b).1;exact⟨_,ab (by omega)⟩
theorem Fro.left {own a c:Os}{I I':Imm}{V V':Va}{w w':World}(h:Fro own I V w c I' V' w')(i:∀k r,look k own=some r→∃r',look k a=some r'):Fro a I V w c I' V' w' :=
 ⟨h.os,h.tape,h.output,h.size,fun b d n=>h.blk b d fun k r g hf=>by obtain⟨r',hr⟩:=i k r g;exact n k r' hr hf,h.mono,fun k r b g hf d=>by obtain⟨j,r',l,e⟩:=h.foot k r b g hf d;obtain⟨o,m⟩:=i j r' l;exact⟨j,o,m,e⟩⟩
theorem Fro.right {own a c:Os}{I I':Imm}{V V':Va}{w w':World}(h:Fro own I V w c I' V' w')(e:∀k r,look k a=some r→∃r',look k c=some r'):Fro own I V w a I' V' w' :=
 ⟨h.os,h.tape,h.output,h.size,h.blk,h.mono,fun k r b j hf d=>by obtain⟨i,g⟩:=e k r j;exact h.foot k i b g hf d⟩
def WkR (r r':R):Prop:=r'=r∨∃p a,r=.abs p∧r'=.abs a∧Loc a∧∀I b S w,p I b S w→a I b S w
def WkL:List R→List R→Prop
 | [],[]=>True
 | r::l,r'::l'=>WkR r r'∧WkL l l'
 | _,_=>False
theorem WkL.len:∀{l a:List R},WkL l a→l.length=a.length
 | [],[],_=>rfl
 | _::_,_::_,h=>by rw[bd,bd,h.2.len]
 | [],_::_,h=>h.elim
 | _::_,[],h=>h.elim
theorem WkL.get:∀{l a:List R},WkL l a→∀{i:Nat} {r':R},a[i]?=some r'→∃r,l[i]?=some r∧WkR r r'
 | [],[],_,i,r',h=>by simp at h
 | r::l,r1::a,h,0,r',hi=>by simp at hi;subst hi;exact⟨r,rfl,h.1⟩
 | r::l,r1::a,h,i+1,r',hi=>by obtain⟨b,c,d⟩:=h.2.get (i:=i) (r':=r') (by simpa using hi);exact⟨b,by simpa using c,d⟩
 | [],_::_,h,_,_,_=>h.elim
 | _::_,[],h,_,_,_=>h.elim
theorem WkL.refl:∀l:List R,WkL l l
 | []=>trivial
 | _::l=>⟨.inl rfl,.refl l⟩
theorem WkR.rep {I:Imm}{V:Va}{k:Nat}{w:World}{r r':R}(h:WkR r r')(hr:RRep I V k w r):RRep I V k w r':=by
 rcases h with rfl | ⟨p,p',rfl,rfl,hl,hp⟩
 ·exact hr
 ·exact⟨hl,hp _ _ _ _ hr.2⟩
theorem Has.wk {I:Imm}{V:Va}{w:World}{l n:List R}(o:WkL l n)(h:Has I V (Bk l 0) w):Has I V (Bk n 0) w:=by
 have e:∀{k r'},look k (Bk n 0)=some r'→∃r,look k (Bk l 0)=some r∧WkR r r':=fun {k r'} a=>by rw[Ai] at a;obtain⟨r,c,g⟩:=o.get a;exact⟨r,by rw[Ai];exact c,g⟩
 refine⟨h.mem,fun k r a=>?_,fun k r a=>?_,fun k r b a j=>?_,fun k k' r r' b a i j m=>?_⟩
 ·obtain⟨d,c,-⟩:=e a;exact h.num k d c
 ·obtain⟨d,c,g⟩:=e a;exact g.rep (h.each k d c)
 ·obtain⟨d,c,-⟩:=e a;exact h.foot k d b c j
 ·obtain⟨d,c,-⟩:=e a;obtain⟨p,g,-⟩:=e i;exact h.disj k k' d p b c g j m
theorem FnO.wk (h:FnO P f gs rs Q)(m:∀g b,Q g b→∃a,WkL b a∧Q' g a):FnO P f gs rs Q' :=
 ⟨h.1,fun I V w vs i l j=>(h.2 I V w vs i l j).mono fun _ _ ⟨x,g,b,I',V',e,k1,k2,k3,k4,k5,k6⟩=>by obtain⟨a,c,d⟩:=m g b k1;exact⟨x,g,a,I',V',e,d,k2.trans c.len,k3.wk c,k4,k5.right fun k r n=>Mq c.len.symm k n,k6⟩⟩
theorem FnO.case {p:Ob}{ι:Type}{q:ι→Ob}(A:Ent P f)(t:∀I b S w,p I b S w→∃i,q i I b S w)(B:∀i,Loc (q i))(h:∀i,FnO P f gs (.abs (q i)::rs) Q):FnO P f gs (.abs p::rs) Q :=
 ⟨A,fun I V w vs hH y u=>by
  obtain⟨i,hi⟩:=t _ _ _ _ (hH.each 0 (.abs p) rfl).2;have o:Has I V (Bk (.abs (q i)::rs) 0) w:=by
   have s:∀{k r'},look k (Bk (.abs (q i)::rs) 0)=some r'→(k=0∧r'=.abs (q i))∨(k≠0∧look k (Bk (.abs p::rs) 0)=some r'):=fun {k r'} a=>by
    rw[Ai] at a⊢;cases k with
    | zero=>simp at a;exact .inl ⟨rfl,a.symm⟩
    | succ k=>exact .inr ⟨by omega,by simpa using a⟩
   have c:∀{k r'},look k (Bk (.abs (q i)::rs) 0)=some r'→∃r,look k (Bk (.abs p::rs) 0)=some r:=fun {k r'} a=>Mq (by simp) k a;refine⟨hH.mem,fun k r a=>?_,fun k r a=>?_,fun k r b a m=>?_,fun k k' r r' b a l m n=>?_⟩
   ·obtain⟨j,d⟩:=c a;exact hH.num k j d
   ·rcases s a with⟨rfl,rfl⟩ | ⟨-,d⟩
    ·exact⟨B i,hi⟩
    ·exact hH.each k r d
   ·obtain⟨j,d⟩:=c a;exact hH.foot k j b d m
   ·obtain⟨j,d⟩:=c a;obtain⟨z,v⟩:=c l;exact hH.disj k k' j z b d v m n
  exact((h i).2 I V w vs o y u).mono fun _ _ ⟨x,g,rs',I',V',e,k1,k2,k3,k4,k5,k6⟩=>⟨x,g,rs',I',V',e,k1,k2,k3,k4,k5.left fun k r a=>Mq (by simp) k a,k6⟩⟩
end
theorem T3 {I I':Imm}{g:G}{x:Value}(h:Gx g=true)(a:VRep I g x):VRep I' g x:=by
 cases g with
 | v u=>have:=Cc a;subst this;exact .v _
 | _=>cases h
theorem FnO.peekN {P:Program}{f:FuncId}{gs:List G}{rows a:List (List G)}{e sz F t:Nat}(h:FnO P f (.sl rows::gs) [] fun g rs=>g=.osl 0∧rs=[.slc a F t])(B:B4 Qw gs=true)(M:∀r∈a,∀g∈r,Gx g=true):FnO P f (.osl 0::gs) [.slc rows e sz] fun g rs=>g=.osl 1∧rs=[.slc rows e sz,.slc a F t] :=
 ⟨h.1,fun I V w vs hH E J=>by
  obtain⟨C,X,Z,-⟩:=F0 (k:=0) (rows:=rows) (e:=e) (sz:=sz) hH rfl;have L:PW (PRep C ⟨0,fun _=>0,fun _=>undef,fun _ _=>False⟩) (.sl rows::gs) vs:=by
   refine⟨J.1,fun j g u m p=>?_⟩;cases j with
   | zero =>
    obtain rfl:G.sl rows=g:=by simpa using m
    have q:=J.2 0 (.osl 0) u rfl p;have q:u=V.s 0:=q.2;rw[q];exact Z
   | succ j =>
    have q:=J.2 (j+1) g u m p;have D:=Ae B g (ae m);have U:VRep I g u:=by
     cases g<;>first
      | exact q
      | cases D
    exact .of_v (U.mono X.fro.mono)
  have T:Has C ⟨0,fun _=>0,fun _=>undef,fun _ _=>False⟩ (Bk [] 0) w:=⟨X.has.mem,fun k r h=>(by cases h),fun k r h=>(by cases h),fun k r b h=>(by cases h),fun k k' r r' b h=>(by cases h)⟩;refine(h.2 C _ w vs T rfl L).mono fun e1 w' ⟨x,g,rs,I3,V1,he,hq,hn1,hH1,O,hF,_⟩=>?_;obtain⟨rfl,rfl⟩:=hq;have old:∀b,b < w.heap.size→w'.heap[b]?=w.heap[b]?:=fun b c=>(hF.blk b c (fun k r h=>by cases h)).1;have new:∀b,V1.f 0 b→w.heap.size≤b:=fun b c=>Nat.le_of_not_lt fun l=>by obtain⟨j,r,Y,-⟩:=hF.foot 0 _ b rfl c l;cases Y
  have A:Mem I w':=fun b o y hy=>by
   have m:=hH.mem b o y hy;have l:b < w.heap.size:=by apply bz;intro l;have:w.heap[b]?=none:=Array.getElem?_eq_none (by omega);simp[World.cell?,this] at m
   have p:=old b l;unfold World.cell? at m⊢;dsimp only at m⊢;rw[p];exact m
  let V':Va:=⟨2,fun k=>if k=0 then V.b 0 else V1.b 0,fun k=>if k=0 then V.s 0 else V1.s 0,fun k=>if k=0 then V.f 0 else V1.f 0⟩;have v:∀{k:Nat} {r:R},look k (Bk [R.slc rows e sz,R.slc a F t] 0)=some r→(k=0∧r=.slc rows e sz)∨(k=1∧r=.slc a F t):=fun {k r} d=>by
   rw[Ai] at d;rcases k with _ | _ | k
   ·simp at d;exact .inl ⟨rfl,d.symm⟩
   ·simp at d;exact .inr ⟨rfl,d.symm⟩
   ·simp at d
  have K:=hH.each 0 _ rfl;have S:=hH1.each 0 _ rfl;have hI3:∀b o,b < w.heap.size→I3 b o=C b o:=fun b o c=>(hF.blk b c (fun k r h=>by cases h)).2 o;refine⟨x,.osl 1,_,I,V',he,⟨rfl,rfl⟩,rfl,⟨A,fun k r d=>?_,fun k r d=>?_,fun k r b d c=>?_,fun k k' r r' b d H c z=>?_⟩,?_,⟨hF.os,hF.tape,hF.output,hF.size,fun b c _=>⟨old b c,fun _=>rfl⟩,fun _ _ _ h=>h,fun k r b d c l=>?_⟩,⟨by rw[E];exact Nat.le_succ 1,fun k d=>?_⟩⟩
  ·rcases v d with⟨rfl,-⟩ | ⟨rfl,-⟩<;>show _ < 2<;>omega
  ·rcases v d with⟨rfl,rfl⟩ | ⟨rfl,rfl⟩
   ·obtain⟨m,rs,p,q⟩:=RRep.keep (I':=I) (V':=V) K (.refl _) (.refl _) (by rw[E];exact Nat.one_pos) rfl hF.os hF.size fun b c=>old b (hH.foot 0 _ b rfl c).1;exact⟨m,rs,p,q⟩
   ·obtain⟨m,rs,p,q,D,U⟩:=S;exact⟨m,rs,p,q,fun i r u hr W=>⟨(D i r u hr W).1,fun j g y B hy=>T3 (M r (ae hr) g (ae B)) ((D i r u hr W).2 j g y B hy)⟩,U⟩
  ·rcases v d with⟨rfl,rfl⟩ | ⟨rfl,rfl⟩
   ·have:=hH.foot 0 _ b rfl c;exact⟨aq this.1 hF.size,this.2⟩
   ·have m:=(hH1.foot 0 _ b rfl c).1;refine⟨m,fun o=>?_⟩;cases hI:I b o with
    | none=>rfl
    | some y =>
     have p:=hH.mem b o y hI;have l:b < w.heap.size:=by apply bz;intro l;have:w.heap[b]?=none:=Array.getElem?_eq_none (by omega);simp[World.cell?,this] at p
     have:=new b c;omega
  ·rcases v d with⟨rfl,rfl⟩ | ⟨rfl,rfl⟩<;>rcases v H with⟨rfl,rfl⟩ | ⟨rfl,rfl⟩
   ·rfl
   ·have:=(hH.foot 0 _ b rfl c).1;have:=new b z;omega
   ·have:=(hH.foot 0 _ b rfl z).1;have:=new b c;omega
   ·rfl
  ·have O:CRep I3 V1 (.osl 0) x:=O;exact(show CRep I V' (.osl 1) x from⟨by show 1 < 2;omega,O.2⟩)
  ·rcases v d with⟨rfl,rfl⟩ | ⟨rfl,rfl⟩
   ·exact⟨0,_,rfl,c⟩
   ·have:=new b c;omega
  ·have E:V.n=1:=E;obtain rfl:k=0:=by omega
   exact⟨rfl,rfl⟩⟩
def Ziq (u:Value):G→G
 | .ptr _ _=>.v u
 | .osl _=>.v u
 | .osv _ _ _ _=>.v u
 | .mp _=>.v u
 | g=>g
def Z5q (u:Nat→Value):Nat→List G→List G
 | _,[]=>[]
 | i,g::l=>Ziq (u i) g::Z5q u (i+1) l
def KeepL:List G→List G→Prop
 | [],[]=>True
 | g::l,g'::l'=>(C2 g'=true∨g'=g)∧KeepL l l'
 | _,_=>False
theorem Qr (u:Nat→Value):∀(l:List G) (i j:Nat),(Z5q u i l)[j]?=(l[j]?).map (Ziq (u (i+j)))
 | [],i,j=>by simp[Z5q]
 | g::l,i,0=>by simp[Z5q]
 | g::l,i,j+1=>by simp only[Z5q,List.getElem?_cons_succ];rw[Qr u l (i+1) j,show i+1+j=i+(j+1) by omega]
theorem Q9 (u:Nat→Value):∀(l:List G) (i:Nat),(Z5q u i l).length=l.length
 | [],_=>rfl
 | g::l,i=>by simp[Z5q,Q9 u l (i+1)]
theorem KeepL.get:∀{l b:List G},KeepL l b→∀{j:Nat} {a:G},b[j]?=some a→C2 a=true∨l[j]?=some a
 | [],[],_,j,a,h=>by simp at h
 | g::l,h0::b,h,0,a,e=>by simp at e;subst e;exact h.1.imp id fun e=>by rw[e];rfl
 | g::l,h0::b,h,j+1,a,e=>by have:=KeepL.get h.2 (j:=j) (by simpa using e);simpa using this
 | [],_::_,h,_,_,_=>h.elim
 | _::_,[],h,_,_,_=>h.elim
theorem KeepL.len:∀{l a:List G},KeepL l a→a.length=l.length
 | [],[],_=>rfl
 | _::_,_::_,h=>by simp[KeepL.len h.2]
 | [],_::_,h=>h.elim
 | _::_,[],h=>h.elim
theorem Oa {u:Value}{g:G}(h:C2 g=true):Ziq u g=g:=by cases g<;>first | rfl | cases h
theorem Z6i {I:Imm}{V i:Va}{g:G}{x:Value}(h:CRep I V g x):CRep I i (Ziq x g) x:=by
 cases g with
 | ptr k o=>exact VRep.v _
 | osl k=>exact VRep.v _
 | osv k a b c=>exact VRep.v _
 | mp k=>exact VRep.v _
 | oel k a b c=>exact h.elim
 | orv k a b c d e=>exact h.elim
 | oag l=>exact h.elim
 | tup l=>exact h.elim
 | elp l o=>exact h.elim
 | clo f a c=>exact h.elim
 | _=>exact h
theorem Z01 {I:Imm}{V p:Va}{g:G}{x:Value}(i:L1 g=true)(h:PRes I V g x):PRes I p g x:=by
 have one:∀g x,Ho g=true→PRe1 I V g x→PRe1 I p g x:=fun g x i h=>by
  cases g with
  | oag l =>
   obtain⟨cs,e,n⟩:=(show TRep1 I V (.oag l) x from h);exact(show TRep1 I p (.oag l) x from⟨cs,e,X8 i n⟩)
  | ptr k o=>cases i
  | osl k=>cases i
  | osv k a b c=>cases i
  | oel k a b c=>cases i
  | orv k a b c d e=>cases i
  | mp k=>cases i
  | clo f a c=>cases i
  | tup l=>cases i
  | _=>exact h
 cases g with
 | tup l =>
  obtain⟨cs,e,n⟩:=h;exact⟨cs,e,n.1,fun j g u m q=>one g u (Ae (show B4 Ho l=true from i) g (ae m)) (n.2 j g u m q)⟩
 | oag l=>exact one (.oag l) x i h
 | ptr k o=>cases i
 | osl k=>cases i
 | osv k a b c=>cases i
 | oel k a b c=>cases i
 | orv k a b c d e=>cases i
 | mp k=>cases i
 | clo f a c=>cases i
 | _=>exact h
theorem FnO.frame {P:Program}{f:FuncId}{gs:List G}{cs D:List G}{t:Nat}{g0:G}{rest:List R}(hK:KeepL cs D)(hg0:L1 g0=true)(T:B4 Qw gs=true)(h:∀u,FnO P f (.ptr 0 0::gs) [.blk (Z5q u 0 cs) t] fun g rs=>g=g0∧rs=[.blk (Z5q u 0 D) t]):FnO P f (.ptr 0 0::gs) (.blk cs t::rest) fun g rs=>g=g0∧rs=.blk D t::rest :=
 ⟨(h fun _=>undef).1,fun I V w vs hH hn W=>by
  obtain⟨Z,K,hw0,F⟩:=hH.each 0 _ rfl;let u:Nat→Value:=fun j=>(K[j]?).getD undef;let V1:Va:=⟨1,V.b,V.s,V.f⟩;have p:∀{cs:List G} {k:Nat} {r:R},look k (Bk [R.blk cs t] 0)=some r→k=0∧r=.blk cs t:=fun {cs k r} i=>by
   rw[Ai] at i;cases k with
   | zero=>simp at i;exact⟨rfl,i.symm⟩
   | succ k=>simp at i
  have hH1:Has I V1 (Bk [R.blk (Z5q u 0 cs) t] 0) w:=⟨hH.mem,fun k r i=>by obtain⟨rfl,-⟩:=p i;exact Nat.one_pos,fun k r i=>by
    obtain⟨rfl,rfl⟩:=p i;refine⟨Z,K,hw0,by rw[Q9];exact F.1,fun j g x T U=>?_⟩;rw[Qr] at T;obtain⟨g1,z,rfl⟩:=ay.1 T;have:u (0+j)=x:=by show(K[0+j]?).getD undef=x;rw[cb,U];rfl
    rw[this];exact Z6i (F.2 j g1 x z U),fun k r b i m=>by obtain⟨rfl,-⟩:=p i;exact hH.foot 0 _ b rfl m,fun k k' r r' b i A _ _=>by obtain⟨rfl,-⟩:=p i;obtain⟨rfl,-⟩:=p A;rfl⟩
  have hp1:PW (PRep I V1) (.ptr 0 0::gs) vs:=by
   refine⟨W.1,fun j g y v hy=>?_⟩;cases j with
   | zero =>
    obtain rfl:G.ptr 0 0=g:=by simpa using v
    have Y:=W.2 0 (.ptr 0 0) y rfl hy;exact⟨Nat.one_pos,Y.2⟩
   | succ j =>
    have Y:=W.2 (j+1) g y v hy;have h4:=Ae T g (ae (by simpa using v));have h5:VRep I g y:=by
     cases g<;>first
      | exact Y
      | cases h4
    exact .of_v h5
  refine((h u).2 I V1 w vs hH1 rfl hp1).mono fun e w' ⟨x,g,rs',I',V',he,hq,hn',hH',U,hF,hle⟩=>?_;obtain⟨rfl,rfl⟩:=hq;have E:V.le ⟨V.n,V.b,V.s,fun k=>if k=0 then V'.f 0 else V.f k⟩:=⟨af _,fun k _=>⟨rfl,rfl⟩⟩;have b0:V'.b 0=V.b 0:=(hle.2 0 Nat.one_pos).1;have B:∀{k:Nat} {r:R},look k (Bk (R.blk D t::rest) 0)=some r→(k=0∧r=.blk D t)∨(k≠0∧look k (Bk (R.blk cs t::rest) 0)=some r):=fun {k r} i=>by
   rw[Ai] at i⊢;cases k with
   | zero=>simp at i;exact .inl ⟨rfl,i.symm⟩
   | succ k=>exact .inr ⟨by omega,by simpa using i⟩
  have old:∀{k:Nat} {r:R} {b:Nat},k≠0→look k (Bk (R.blk cs t::rest) 0)=some r→V.f k b→w'.heap[b]?=w.heap[b]?∧∀o,I' b o=I b o:=fun {k r b} hk0 i m=>hF.blk b (hH.foot k r b i m).1 fun j r' M q=>by obtain⟨rfl,-⟩:=p M;exact hk0 (hH.disj k 0 _ _ b i rfl m q)
  refine⟨x,g,_,I',⟨V.n,V.b,V.s,fun k=>if k=0 then V'.f 0 else V.f k⟩,he,⟨rfl,rfl⟩,?_,⟨hH'.mem,fun k r i=>?_,fun k r i=>?_,fun k r b i m=>?_,fun k k' r r' b i A m q=>?_⟩,Z01 hg0 U,⟨hF.os,hF.tape,hF.output,hF.size,fun b m hno=>hF.blk b m fun k r i hf=>?_,hF.mono,fun k r b i m hlt=>?_⟩,E⟩
  ·rw[hn];rfl
  ·rcases B i with⟨rfl,-⟩ | ⟨-,i⟩
   ·exact hH.num 0 _ rfl
   ·exact hH.num k r i
  ·rcases B i with⟨rfl,rfl⟩ | ⟨hk0,i⟩
   ·obtain⟨X,us',O,J⟩:=hH'.each 0 _ rfl;refine⟨fun b=>?_,us',by rw[b0] at O;exact O,by rw[←J.1,Q9],fun j g y v hy=>?_⟩
    ·have:=X b;rw[b0] at this;exact this
    ·have z:=J.2 j _ y (by rw[Qr,v];rfl) hy;have H:j < K.length:=by
      have:=(ac.1 v).1;rw[hK.len] at this;rw[←F.1];exact this
     rcases hK.get v with C | S
     ·rw[Oa C] at z;exact Kh C z
     ·by_cases C:C2 g=true
      ·rw[Oa C] at z;exact Kh C z
      ·have L:=F.2 j g K[j] S (ab H);have:y=K[j]:=by
        have hu:u (0+j)=K[j]:=by show(K[0+j]?).getD undef=_;rw[cb,ab H];rfl
        rw[hu] at z;cases g with
        | ptr k o=>exact Cc z
        | osl k=>exact Cc z
        | osv k a b c=>exact Cc z
        | mp k=>exact Cc z
        | oel k a b c=>exact L.elim
        | orv k a b c d e=>exact L.elim
        | oag l=>exact L.elim
        | tup l=>exact L.elim
        | elp l o=>exact L.elim
        | clo f a c=>exact L.elim
        | _=>exact de rfl C
       rw[this];exact L.mono hF.mono E
   ·exact(hH.each k r i).keep hF.mono E (hH.num k r i) (db hk0) hF.os hF.size fun b m=>(old hk0 i m).1
  ·rcases B i with⟨rfl,rfl⟩ | ⟨hk0,i⟩
   ·exact hH'.foot 0 _ b rfl m
   ·have m:V.f k b:=(congrFun (show(if k=0 then V'.f 0 else V.f k)=V.f k from db hk0) b).mp m;have z:=hH.foot k r b i m;exact⟨aq z.1 hF.size,fun o=>by rw[(old hk0 i m).2 o];exact z.2 o⟩
  ·have zero:∀{k:Nat} {r:R} {b:Nat},k≠0→look k (Bk (R.blk cs t::rest) 0)=some r→V.f k b→V'.f 0 b→False:=fun {k r b} hk0 i m h0=>by
    obtain⟨j,r',M,hf⟩:=hF.foot 0 _ b rfl h0 (hH.foot k r b i m).1;obtain⟨rfl,-⟩:=p M;exact hk0 (hH.disj k 0 _ _ b i rfl m hf)
   rcases B i with⟨rfl,rfl⟩ | ⟨hk0,i⟩<;>rcases B A with⟨rfl,rfl⟩ | ⟨hk0',A⟩
   ·rfl
   ·have q:V.f k' b:=(congrFun (show(if k'=0 then V'.f 0 else V.f k')=V.f k' from db hk0') b).mp q;exact(zero hk0' A q m).elim
   ·have m:V.f k b:=(congrFun (show(if k=0 then V'.f 0 else V.f k)=V.f k from db hk0) b).mp m;exact(zero hk0 i m q).elim
   ·have q:V.f k' b:=(congrFun (show(if k'=0 then V'.f 0 else V.f k')=V.f k' from db hk0') b).mp q;have m:V.f k b:=(congrFun (show(if k=0 then V'.f 0 else V.f k)=V.f k from db hk0) b).mp m;exact hH.disj k k' r r' b i A m q
  ·obtain⟨rfl,-⟩:=p i;exact hno 0 _ rfl hf
  ·rcases B i with⟨rfl,rfl⟩ | ⟨hk0,i⟩
   ·obtain⟨j,r',M,hf⟩:=hF.foot 0 _ b rfl m hlt;obtain⟨rfl,-⟩:=p M;exact⟨0,_,rfl,hf⟩
   ·have m:V.f k b:=(congrFun (show(if k=0 then V'.f 0 else V.f k)=V.f k from db hk0) b).mp m;exact⟨k,r,i,m⟩⟩
def byV (c:UInt8):Value:=.int .u8 c.toNat
def gB1 (c:UInt8):G:=.v (.int .u8 c.toNat)
theorem O3 {P:Program}(w:World)(d:Nat){e:TypeId}(b:P.plainKey e=true)(l:P.underlying e=some (.int .u8))(xs a:List UInt8):∀(is:List Nat),(∀i∈is,i < xs.length∧i < a.length)→(Op.eqItems (d+1) e 1 (xs.map byV).toArray (a.map byV).toArray is).run P w=.ok (is.all fun i=>xs[i]?==a[i]?) w
 | [],_=>by simp[Op.eqItems]
 | i::is,h=>by
  obtain⟨g,k⟩:=h i (by simp);have o:=O3 w d b l xs a is fun j n=>h j (by simp[n]);have p1:=run_part_plain (P:=P) w b (xs:=(xs.map byV).toArray) (off:=i * 1) (v:=byV xs[i]) (by simp[g]);have p2:=run_part_plain (P:=P) w b (xs:=(a.map byV).toArray) (off:=i * 1) (v:=byV a[i]) (by simp[k]);have p3:(Op.equalIn (d+1) e (byV xs[i]) (byV a[i])).run P w=.ok ((xs[i].toNat:Int)==(a[i].toNat:Int)) w:=run_equalIn_int w d e .u8 .u8 _ _ l;have m:((xs[i].toNat:Int)==(a[i].toNat:Int))=(xs[i]?==a[i]?):=by
   rw[ab g,ab k];by_cases e:xs[i]=a[i]
   ·rw[e];simp
   ·have c:(xs[i].toNat:Int)≠(a[i].toNat:Int):=fun c=>e (UInt8.toNat_inj.1 (by omega));rw[beq_eq_false_iff_ne.2 c];symm;simpa using e
  unfold Op.eqItems;simp only[Sem.run_bind,p1,p2,p3,Result.andThen_ok,List.all_cons,m];cases hc:(xs[i]?==a[i]?) with
  | true=>simpa using o
  | false=>simp
theorem EvEq.arr {P:Program}{t e:TypeId}{i:TypeInfo}{n:Nat}{K:Bool→Prop}(xs a:List UInt8)(o:P.underlying t=some (.array n e))(hi:P.info? e=some i)(l:P.cellsOf e=1)(g:P.plainKey e=true)(p:P.underlying e=some (.int .u8))(m:P.eqGuardType P.depth t=false)(q:xs.length=n)(hy:a.length=n)(h:xs=a→K true)(k:xs≠a→K false):EvEq P t (xs.map gB1) (a.map gB1) K:=by
 refine⟨xs.map byV,a.map byV,(List.range n).all fun i=>xs[i]?==a[i]?,by unfold Nl;rw[List.map_map];rfl,by unfold Nl;rw[List.map_map];rfl,m,fun w=>?_,?_⟩
 ·rw[show(10000:Nat)=9999+1 from rfl,run_equalIn_array w 9999 _ _ o hi,l];exact O3 w 9998 g p xs a _ fun j d=>by have:=List.mem_range.1 d;omega
 ·by_cases b:xs=a
  ·subst b;have:(List.range n).all (fun i=>xs[i]?==xs[i]?)=true:=by simp
   rw[this];exact h rfl
  ·have:(List.range n).all (fun i=>xs[i]?==a[i]?)=false:=by
    rw[←Bool.not_eq_true,List.all_eq_true];intro c;refine b (cp fun j=>?_);by_cases d:j < n
    ·simpa using c j (List.mem_range.2 d)
    ·rw[b9 (by omega),b9 (by omega)]
   rw[this];exact k b
theorem Zkp {α:Type}{l:List α}(h:l.length=8):∃a b c d e f g i,l=[a,b,c,d,e,f,g,i]:=by
 match l,h with
 | [a,b,c,d,e,f,g,i],_=>exact⟨a,b,c,d,e,f,g,i,rfl⟩
def Zel (jo a:Nat)(u:Value):G→G
 | .v x=>.v x
 | .osl j=>bif Nat.beq j jo then .osl a else .v u
 | _=>.v u
def Ks (jo a:Nat)(u:Nat→Value):Nat→List G→List G
 | _,[]=>[]
 | i,g::l=>Zel jo a (u i) g::Ks jo a u (i+1) l
def KeepS (jo nn:Nat):List G→List G→Prop
 | [],[]=>True
 | g::l,g'::l'=>(Gx g'=true∨g'=.osl nn∨(g'=g∧g≠.osl jo))∧KeepS jo nn l l'
 | _,_=>False
theorem H3 (jo a:Nat)(u:Nat→Value):∀(l:List G) (i j:Nat),(Ks jo a u i l)[j]?=(l[j]?).map (Zel jo a (u (i+j)))
 | [],i,j=>by simp[Ks]
 | g::l,i,0=>by simp[Ks]
 | g::l,i,j+1=>by simp only[Ks,List.getElem?_cons_succ];rw[H3 jo a u l (i+1) j,show i+1+j=i+(j+1) by omega]
theorem Hi (jo a:Nat)(u:Nat→Value):∀(l:List G) (i:Nat),(Ks jo a u i l).length=l.length
 | [],_=>rfl
 | g::l,i=>by simp[Ks,Hi jo a u l (i+1)]
theorem KeepS.get {jo nn:Nat}:∀{l b:List G},KeepS jo nn l b→∀{j:Nat} {a:G},b[j]?=some a→Gx a=true∨a=.osl nn∨(l[j]?=some a∧a≠.osl jo)
 | [],[],_,j,a,h=>by simp at h
 | g::l,h0::b,h,0,a,e=>by
  simp at e;subst e;rcases h.1 with h | h | ⟨h,h2⟩
  ·exact .inl h
  ·exact .inr (.inl h)
  ·exact .inr (.inr ⟨by rw[h];rfl,by rw[h];exact h2⟩)
 | g::l,h0::b,h,j+1,a,e=>by have:=KeepS.get h.2 (j:=j) (by simpa using e);simpa using this
 | [],_::_,h,_,_,_=>h.elim
 | _::_,[],h,_,_,_=>h.elim
theorem KeepS.len {jo nn:Nat}:∀{l a:List G},KeepS jo nn l a→a.length=l.length
 | [],[],_=>rfl
 | _::_,_::_,h=>by simp[KeepS.len h.2]
 | [],_::_,h=>h.elim
 | _::_,[],h=>h.elim
theorem Z9s {g:G}(h:Gx g=true):∃x,g=.v x:=by
 cases g with
 | v x=>exact⟨x,rfl⟩
 | _=>cases h
theorem FnO.peekF {P:Program}{f:FuncId}{gs gs':List G}{cs L:List G}{t:Nat}{rest:List R}{jo js e sz e2 S:Nat}{out B rows:List (List G)}
  (p:look jo (Bk (R.blk cs t::rest) 0)=some (.slc out e sz)) (hjs:look js (Bk (R.blk cs t::rest) 0)=some (.slc rows e2 S)) (hne:js≠jo)
  (hK:KeepS jo (rest.length+1) cs L) (hgs:gs.map (Z52 ((js,R.froz rows S)::Bk (R.blk cs t::rest) 0))=gs') (X:B4 Qw gs'=true) (hv:∀r∈B,∀g∈r,Gx g=true)
  (h:∀u,FnO P f (.ptr 0 0::gs') [.blk (Ks jo 1 u 0 cs) t,.slc out e sz] fun g rs=>g=.tup []∧rs=[.blk (Ks (rest.length+1) 2 u 0 L) t,.gone,.slc B e sz]) :
  FnO P f (.ptr 0 0::gs) (.blk cs t::rest) fun g rs=>g=.tup []∧rs=.blk L t::(rest.set (jo - 1) .gone++[.slc B e sz]) :=
 ⟨(h fun _=>undef).1,fun I V w vs hH hn hp=>by
  have O:jo≠0:=fun e=>by subst e;cases p
  have hjon:=hH.num jo _ p;have hVn:V.n=rest.length+1:=hn;obtain⟨hf0,us,hw0,Z⟩:=hH.each 0 _ rfl;obtain⟨I2,hL,-,-⟩:=F0 hH hjs;have hI2:∀b o x,I b o=some x→I2 b o=some x:=hL.fro.mono;let u:Nat→Value:=fun j=>(us[j]?).getD undef;let V1:Va:=⟨2,fun k=>if k=0 then V.b 0 else V.b jo,fun k=>if k=0 then V.s 0 else V.s jo,fun k=>if k=0 then V.f 0 else V.f jo⟩;have F:∀{cs:List G} {o:List (List G)} {k:Nat} {r:R},look k (Bk [R.blk cs t,.slc o e sz] 0)=some r→(k=0∧r=.blk cs t)∨(k=1∧r=.slc o e sz):=fun {cs o k r} d=>by
   rw[Ai] at d;rcases k with _ | _ | k
   ·simp at d;exact .inl ⟨rfl,d.symm⟩
   ·simp at d;exact .inr ⟨rfl,d.symm⟩
   ·simp at d
  have hmem2:Mem I2 w:=hL.has.mem;have U:∀{k:Nat} {r:R} {b:Nat},look k (Bk (R.blk cs t::rest) 0)=some r→k≠js→V.f k b→∀o,I2 b o=none:=fun {k r b} d hkj a o=>by have m:=hL.has.foot k r b (by rw[A5,db hkj];exact d) (by show(V.drop js).f k b;unfold Va.drop;dsimp only;rw[db hkj];exact a);exact m.2 o
  have h0js:0≠js:=fun e=>by subst e;cases hjs
  have hH1:Has I2 V1 (Bk [R.blk (Ks jo 1 u 0 cs) t,.slc out e sz] 0) w:=by
   refine⟨hmem2,fun k r d=>?_,fun k r d=>?_,fun k r b d a=>?_,fun k k' r r' b d H a l=>?_⟩
   ·rcases F d with⟨rfl,-⟩ | ⟨rfl,-⟩<;>show _ < 2<;>omega
   ·rcases F d with⟨rfl,rfl⟩ | ⟨rfl,rfl⟩
    ·refine⟨hf0,us,hw0,by rw[Hi];exact Z.1,fun j g x X hx=>?_⟩;rw[H3] at X;obtain⟨g1,m,rfl⟩:=ay.1 X;have hu:u (0+j)=x:=by show(us[0+j]?).getD undef=x;rw[cb,hx];rfl
     rw[hu];have hc:=Z.2 j g1 x m hx;cases g1 with
     | v z =>
      have:=Cc hc;subst this;exact VRep.v _
     | osl j' =>
      show CRep I2 V1 (bif Nat.beq j' jo then .osl 1 else .v x) x;cases a:Nat.beq j' jo with
      | false=>exact VRep.v _
      | true =>
       have:=ai a;subst this;exact⟨by show 1 < 2;omega,hc.2⟩
     | _=>exact VRep.v _
    ·obtain⟨q1,rs,q2,q3,q4,q5⟩:=hH.each jo _ p;exact⟨q1,rs,q2,q3,fun i r y hr hy=>(q4 i r y hr hy).mono fun _ _ h=>h.mono hI2,q5⟩
   ·rcases F d with⟨rfl,rfl⟩ | ⟨rfl,rfl⟩
    ·exact⟨(hH.foot 0 _ b rfl a).1,U (k:=0) rfl h0js a⟩
    ·exact⟨(hH.foot jo _ b p a).1,U p (fun e=>hne e.symm) a⟩
   ·rcases F d with⟨rfl,rfl⟩ | ⟨rfl,rfl⟩<;>rcases F H with⟨rfl,rfl⟩ | ⟨rfl,rfl⟩
    ·rfl
    ·exact de (hH.disj 0 jo _ _ b rfl p a l) (fun e=>O e.symm)
    ·exact de (hH.disj jo 0 _ _ b p rfl a l) O
    ·rfl
  have hp1:PW (PRep I2 V1) (.ptr 0 0::gs') vs:=by
   subst hgs;refine⟨by have:=hp.1;simpa using this,fun j g y J hy=>?_⟩;cases j with
   | zero =>
    obtain rfl:G.ptr 0 0=g:=by simpa using J
    have C:=hp.2 0 (.ptr 0 0) y rfl hy;exact⟨by show 0 < 2;omega,C.2⟩
   | succ j =>
    have hg2:(gs.map (Z52 ((js,R.froz rows S)::Bk (R.blk cs t::rest) 0)))[j]?=some g:=by simpa using J
    have q:=Ae X g (ae hg2);rw[aj] at hg2;obtain⟨g0,h5,rfl⟩:=ay.1 hg2;have C:=(hp.2 (j+1) g0 y (by simpa using h5) hy).to_t;have h6:=Za2 hL.has (C.mono hL.fro.mono hL.va);have h7:VRep I2 (Z52 ((js,R.froz rows S)::Bk (R.blk cs t::rest) 0) g0) y:=by
     generalize Z52 ((js,R.froz rows S)::Bk (R.blk cs t::rest) 0) g0=gg at q h6;cases gg<;>first
      | exact h6
      | cases q
    exact .of_v h7
  refine((h u).2 I2 V1 w vs hH1 rfl hp1).mono fun e' w' ⟨x,g,rs',I',V',he,hq,hn',hH',hx,hF,hle⟩=>?_;obtain⟨rfl,rfl⟩:=hq;have b0:V'.b 0=V.b 0:=(hle.2 0 (by show 0 < 2;omega)).1;have hI':∀b o,I' b o=none→I b o=none:=fun b o hi=>by
   cases hib:I b o with
   | none=>rfl
   | some y=>have:=hF.mono _ _ _ (hI2 _ _ _ hib);rw[hi] at this;cases this
  have T:∀b,b < w.heap.size→¬V.f 0 b→¬V.f jo b→w'.heap[b]?=w.heap[b]?:=fun b a h0 hj=>(hF.blk b a fun k r d hf=>by
   rcases F d with⟨rfl,-⟩ | ⟨rfl,-⟩
   ·exact h0 hf
   ·exact hj hf).1
  let Y:Va:=⟨rest.length+2,fun k=>if k < V.n then V.b k else V'.b 2,fun k=>if k < V.n then V.s k else V'.s 2,fun k=>if k=0 then V'.f 0 else if k=jo then fun _=>False else if k=rest.length+1 then V'.f 2 else V.f k⟩;have M:V.le Y:=⟨by show V.n≤rest.length+2;omega,fun k d=>⟨dc d,dc d⟩⟩;have f0:Y.f 0=V'.f 0:=by show(if(0:Nat)=0 then V'.f 0 else if(0:Nat)=jo then fun _=>False else if(0:Nat)=rest.length+1 then V'.f 2 else V.f 0)=_;rw[dc rfl]
  have fj:Y.f jo=fun _=>False:=by show(if jo=0 then V'.f 0 else if jo=jo then fun _=>False else if jo=rest.length+1 then V'.f 2 else V.f jo)=_;rw[db O,dc rfl]
  have fn:Y.f (rest.length+1)=V'.f 2:=by show(if rest.length+1=0 then V'.f 0 else if rest.length+1=jo then fun _=>False else if rest.length+1=rest.length+1 then V'.f 2 else V.f (rest.length+1))=_;rw[db (by omega),db (by omega),dc rfl]
  have fo:∀k,k≠0→k≠jo→k≠rest.length+1→Y.f k=V.f k:=fun k m A C=>by show(if k=0 then V'.f 0 else if k=jo then fun _=>False else if k=rest.length+1 then V'.f 2 else V.f k)=_;rw[db m,db A,db C]
  have K:∀{k:Nat} {r:R},look k (Bk (R.blk L t::(rest.set (jo - 1) .gone++[.slc B e sz])) 0)=some r→(k=0∧r=.blk L t)∨(k=jo∧r=.gone)∨(k=rest.length+1∧r=.slc B e sz)∨(k≠0∧k≠jo∧k≠rest.length+1∧look k (Bk (R.blk cs t::rest) 0)=some r):=fun {k r} d=>by
   rw[Ai] at d⊢;cases k with
   | zero=>simp at d;exact .inl ⟨rfl,d.symm⟩
   | succ k =>
    have d:(rest.set (jo - 1) .gone++[.slc B e sz])[k]?=some r:=by simpa using d
    by_cases E:k < rest.length
    ·rw[bl (by simpa using E),cn] at d;split at d
     ·next e1 =>
      rw[dc (by omega)] at d;cases d;exact .inr (.inl ⟨by omega,rfl⟩)
     ·next e1=>exact .inr (.inr (.inr ⟨by omega,by omega,by omega,by simpa using d⟩))
    ·rw[bf (by simp;omega),bh] at d;have hk0:k - rest.length=0:=by
      have:=(ac.1 d).1;simp at this;omega
     rw[hk0] at d;simp at d;exact .inr (.inr (.inl ⟨by omega,d.symm⟩))
  have W:∀{b:Nat},(V'.f 0 b∨V'.f 2 b)→b < w.heap.size→V.f 0 b∨V.f jo b:=fun {b} a E=>by
   rcases a with a | a
   ·obtain⟨j,r',hj,hf⟩:=hF.foot 0 _ b rfl a E;rcases F hj with⟨rfl,-⟩ | ⟨rfl,-⟩
    ·exact .inl hf
    ·exact .inr hf
   ·obtain⟨j,r',hj,hf⟩:=hF.foot 2 _ b rfl a E;rcases F hj with⟨rfl,-⟩ | ⟨rfl,-⟩
    ·exact .inl hf
    ·exact .inr hf
  have D:∀{k:Nat} {r:R} {b:Nat},k≠0→k≠jo→look k (Bk (R.blk cs t::rest) 0)=some r→V.f k b→(V'.f 0 b∨V'.f 2 b)→False:=fun {k r b} m A d a C=>by
   rcases W C (hH.foot k r b d a).1 with q | q
   ·exact m (hH.disj k 0 _ _ b d rfl a q)
   ·exact A (hH.disj k jo _ _ b d p a q)
  refine⟨x,.tup [],_,I,Y,he,⟨rfl,rfl⟩,?_,⟨fun b o y hy=>?_,fun k r d=>?_,fun k r d=>?_,fun k r b d a=>?_,fun k k' r r' b d H a l=>?_⟩,?_,⟨hF.os,hF.tape,hF.output,hF.size,fun b a hno=>⟨T b a (hno 0 _ rfl) (hno jo _ p),fun _=>rfl⟩,fun _ _ _ h=>h,fun k r b d a E=>?_⟩,M⟩
  ·show rest.length+2=_;simp
  ·have m:=hH.mem b o y hy;have E:=hH.mem.lt hy;have A:=T b E (fun hf=>by rw[(hH.foot 0 _ b rfl hf).2 o] at hy;cases hy) (fun hf=>by rw[(hH.foot jo _ b p hf).2 o] at hy;cases hy);unfold World.cell? at m⊢;dsimp only at m⊢;rw[A];exact m
  ·show k < rest.length+2;rcases K d with⟨rfl,-⟩ | ⟨rfl,-⟩ | ⟨rfl,-⟩ | ⟨-,-,-,d⟩
   ·omega
   ·omega
   ·omega
   ·have:=hH.num k r d;omega
  ·rcases K d with⟨rfl,rfl⟩ | ⟨rfl,rfl⟩ | ⟨rfl,rfl⟩ | ⟨m,A,C,d⟩
   ·obtain⟨hf',us',hw',hcs'⟩:=hH'.each 0 _ rfl;have bB:Y.b 0=V.b 0:=dc (by omega);refine⟨fun b=>?_,us',by rw[bB,←b0];exact hw',by rw[←hcs'.1,Hi],fun j g y J hy=>?_⟩
    ·rw[f0,bB,←b0];exact hf' b
    ·have m:=hcs'.2 j _ y (by rw[H3,J];rfl) hy;have hlen:j < us.length:=by
      have:=(ac.1 J).1;rw[hK.len] at this;rw[←Z.1];exact this
     rcases hK.get J with A | rfl | ⟨hold,hnjo⟩
     ·obtain⟨z,rfl⟩:=Z9s A;have m:CRep I' V' (.v z) y:=m;have:=Cc m;subst this;exact VRep.v _
     ·have m:CRep I' V' (Zel (rest.length+1) 2 (u (0+j)) (.osl (rest.length+1))) y:=m;unfold Zel at m;dsimp only at m;rw[Nat.beq_refl] at m;have m:CRep I' V' (.osl 2) y:=m;exact⟨by show rest.length+1 < rest.length+2;omega,by show y=if rest.length+1 < V.n then _ else _;rw[db (by omega)];exact m.2⟩
     ·have A:=Z.2 j g us[j] hold (ab hlen);have hu:u (0+j)=us[j]:=by show(us[0+j]?).getD undef=_;rw[cb,ab hlen];rfl
      rw[hu] at m;have:y=us[j]:=by
       cases g with
       | v z =>
        have C:=Cc (show CRep I' V' (.v z) y from m);have q:=Cc A;rw[C,q]
       | osl k =>
        have hkn:k < V.n:=A.1;have m:CRep I' V' (bif Nat.beq k (rest.length+1) then .osl 2 else .v us[j]) y:=m;have a:Nat.beq k (rest.length+1)=false:=by
         cases a:Nat.beq k (rest.length+1) with
         | false=>rfl
         | true=>have:=ai a;omega
        rw[a] at m;exact Cc m
       | _=>exact Cc m
      rw[this];exact A.mono (.refl _) M
   ·show ∀c,¬Y.f _ c;rw[fj];exact fun c hc=>hc
   ·have hs:Y.s (rest.length+1)=V'.s 2:=db (by omega);obtain⟨q1,rs,q2,q3,q4,q5⟩:=hH'.each 2 _ rfl;exact⟨fun b=>by rw[fn,hs];exact q1 b,rs,by rw[hs];exact q2,q3,fun i r y hr hy=>⟨(q4 i r y hr hy).1,fun j g z X hz=>T3 (hv r (ae hr) g (ae X)) ((q4 i r y hr hy).2 j g z X hz)⟩,q5⟩
   ·exact(hH.each k r d).keep (.refl _) M (hH.num k r d) (fo k m A C) hF.os hF.size fun b a=>T b (hH.foot k r b d a).1 (fun hf=>m (hH.disj k 0 _ _ b d rfl a hf)) (fun hf=>A (hH.disj k jo _ _ b d p a hf))
  ·rcases K d with⟨rfl,rfl⟩ | ⟨rfl,rfl⟩ | ⟨rfl,rfl⟩ | ⟨m,A,C,d⟩
   ·rw[f0] at a;have q:=hH'.foot 0 _ b rfl a;exact⟨q.1,fun o=>hI' b o (q.2 o)⟩
   ·rw[fj] at a;exact a.elim
   ·rw[fn] at a;have q:=hH'.foot 2 _ b rfl a;exact⟨q.1,fun o=>hI' b o (q.2 o)⟩
   ·rw[fo k m A C] at a;have q:=hH.foot k r b d a;exact⟨aq q.1 hF.size,q.2⟩
  ·rcases K d with⟨rfl,rfl⟩ | ⟨rfl,rfl⟩ | ⟨rfl,rfl⟩ | ⟨m,A,C,d⟩<;>rcases K H with⟨rfl,rfl⟩ | ⟨rfl,rfl⟩ | ⟨rfl,rfl⟩ | ⟨h1',h2',h3',H⟩
   ·rfl
   ·rw[fj] at l;exact l.elim
   ·rw[f0] at a;rw[fn] at l;have:=hH'.disj 0 2 _ _ b rfl rfl a l;omega
   ·rw[f0] at a;rw[fo k' h1' h2' h3'] at l;exact(D h1' h2' H l (.inl a)).elim
   ·rw[fj] at a;exact a.elim
   ·rfl
   ·rw[fj] at a;exact a.elim
   ·rw[fj] at a;exact a.elim
   ·rw[fn] at a;rw[f0] at l;have:=hH'.disj 2 0 _ _ b rfl rfl a l;omega
   ·rw[fj] at l;exact l.elim
   ·rfl
   ·rw[fn] at a;rw[fo k' h1' h2' h3'] at l;exact(D h1' h2' H l (.inr a)).elim
   ·rw[fo k m A C] at a;rw[f0] at l;exact(D m A d a (.inl l)).elim
   ·rw[fj] at l;exact l.elim
   ·rw[fo k m A C] at a;rw[fn] at l;exact(D m A d a (.inr l)).elim
   ·rw[fo k m A C] at a;rw[fo k' h1' h2' h3'] at l;exact hH.disj k k' r r' b d H a l
  ·obtain⟨cs0,e0,hp0⟩:=hx;exact⟨cs0,e0,hp0.1,fun j g y X hy=>by simp at X⟩
  ·rcases K d with⟨rfl,rfl⟩ | ⟨rfl,rfl⟩ | ⟨rfl,rfl⟩ | ⟨m,A,C,d⟩
   ·rw[f0] at a;rcases W (.inl a) E with q | q
    ·exact⟨0,_,rfl,q⟩
    ·exact⟨jo,_,p,q⟩
   ·rw[fj] at a;exact a.elim
   ·rw[fn] at a;rcases W (.inr a) E with q | q
    ·exact⟨0,_,rfl,q⟩
    ·exact⟨jo,_,p,q⟩
   ·rw[fo k m A C] at a;exact⟨k,r,d,a⟩⟩
theorem FnO.peekZ {P:Program}{f:FuncId}{gs gs':List G}{cs L:List G}{t:Nat}{rest:List R}{jo e sz:Nat}{out B:List (List G)}
  (p:look jo (Bk (R.blk cs t::rest) 0)=some (.slc out e sz))
  (hK:KeepS jo (rest.length+1) cs L) (hgs:gs=gs') (X:B4 Qw gs'=true) (hv:∀r∈B,∀g∈r,Gx g=true)
  (h:∀u,FnO P f (.ptr 0 0::gs') [.blk (Ks jo 1 u 0 cs) t,.slc out e sz] fun g rs=>g=.tup []∧rs=[.blk (Ks (rest.length+1) 2 u 0 L) t,.gone,.slc B e sz]) :
  FnO P f (.ptr 0 0::gs) (.blk cs t::rest) fun g rs=>g=.tup []∧rs=.blk L t::(rest.set (jo - 1) .gone++[.slc B e sz]) :=
 ⟨(h fun _=>undef).1,fun I V w vs hH hn hp=>by
  have O:jo≠0:=fun e=>by subst e;cases p
  have hjon:=hH.num jo _ p;have hVn:V.n=rest.length+1:=hn;obtain⟨hf0,W,hw0,Z⟩:=hH.each 0 _ rfl;have hI2:∀b o x,I b o=some x→I b o=some x:=fun _ _ _ h=>h;let u:Nat→Value:=fun j=>(W[j]?).getD undef;let V1:Va:=⟨2,fun k=>if k=0 then V.b 0 else V.b jo,fun k=>if k=0 then V.s 0 else V.s jo,fun k=>if k=0 then V.f 0 else V.f jo⟩;have F:∀{cs:List G} {o:List (List G)} {k:Nat} {r:R},look k (Bk [R.blk cs t,.slc o e sz] 0)=some r→(k=0∧r=.blk cs t)∨(k=1∧r=.slc o e sz):=fun {cs o k r} d=>by
   rw[Ai] at d;rcases k with _ | _ | k
   ·simp at d;exact .inl ⟨rfl,d.symm⟩
   ·simp at d;exact .inr ⟨rfl,d.symm⟩
   ·simp at d
  have hmem2:Mem I w:=hH.mem;have T:∀{k:Nat} {r:R} {b:Nat},look k (Bk (R.blk cs t::rest) 0)=some r→V.f k b→∀o,I b o=none:=fun {k r b} d a o=>(hH.foot k r b d a).2 o;have hH1:Has I V1 (Bk [R.blk (Ks jo 1 u 0 cs) t,.slc out e sz] 0) w:=by
   refine⟨hmem2,fun k r d=>?_,fun k r d=>?_,fun k r b d a=>?_,fun k k' r r' b d H a l=>?_⟩
   ·rcases F d with⟨rfl,-⟩ | ⟨rfl,-⟩<;>show _ < 2<;>omega
   ·rcases F d with⟨rfl,rfl⟩ | ⟨rfl,rfl⟩
    ·refine⟨hf0,W,hw0,by rw[Hi];exact Z.1,fun j g x X hx=>?_⟩;rw[H3] at X;obtain⟨g1,m,rfl⟩:=ay.1 X;have hu:u (0+j)=x:=by show(W[0+j]?).getD undef=x;rw[cb,hx];rfl
     rw[hu];have hc:=Z.2 j g1 x m hx;cases g1 with
     | v z =>
      have:=Cc hc;subst this;exact VRep.v _
     | osl j' =>
      show CRep I V1 (bif Nat.beq j' jo then .osl 1 else .v x) x;cases a:Nat.beq j' jo with
      | false=>exact VRep.v _
      | true =>
       have:=ai a;subst this;exact⟨by show 1 < 2;omega,hc.2⟩
     | _=>exact VRep.v _
    ·obtain⟨q1,rs,q2,q3,q4,q5⟩:=hH.each jo _ p;exact⟨q1,rs,q2,q3,fun i r y hr hy=>(q4 i r y hr hy).mono fun _ _ h=>h.mono hI2,q5⟩
   ·rcases F d with⟨rfl,rfl⟩ | ⟨rfl,rfl⟩
    ·exact⟨(hH.foot 0 _ b rfl a).1,T (k:=0) rfl a⟩
    ·exact⟨(hH.foot jo _ b p a).1,T p a⟩
   ·rcases F d with⟨rfl,rfl⟩ | ⟨rfl,rfl⟩<;>rcases F H with⟨rfl,rfl⟩ | ⟨rfl,rfl⟩
    ·rfl
    ·exact de (hH.disj 0 jo _ _ b rfl p a l) (fun e=>O e.symm)
    ·exact de (hH.disj jo 0 _ _ b p rfl a l) O
    ·rfl
  have hp1:PW (PRep I V1) (.ptr 0 0::gs') vs:=by
   subst hgs;refine⟨by have:=hp.1;simpa using this,fun j g y J hy=>?_⟩;cases j with
   | zero =>
    obtain rfl:G.ptr 0 0=g:=by simpa using J
    have C:=hp.2 0 (.ptr 0 0) y rfl hy;exact⟨by show 0 < 2;omega,C.2⟩
   | succ j =>
    have hg2:gs[j]?=some g:=by simpa using J
    have q:=Ae X g (ae hg2);have C:=(hp.2 (j+1) g y (by simpa using hg2) hy).to_t;have h7:VRep I g y:=by
     generalize g=gg at C q;cases gg<;>first
      | exact C
      | cases q
    exact .of_v h7
  refine((h u).2 I V1 w vs hH1 rfl hp1).mono fun e' w' ⟨x,g,rs',I',V',he,hq,hn',hH',hx,hF,hle⟩=>?_;obtain⟨rfl,rfl⟩:=hq;have b0:V'.b 0=V.b 0:=(hle.2 0 (by show 0 < 2;omega)).1;have hI':∀b o,I' b o=none→I b o=none:=fun b o hi=>by
   cases hib:I b o with
   | none=>rfl
   | some y=>have:=hF.mono _ _ _ hib;rw[hi] at this;cases this
  have S:∀b,b < w.heap.size→¬V.f 0 b→¬V.f jo b→w'.heap[b]?=w.heap[b]?:=fun b a h0 hj=>(hF.blk b a fun k r d hf=>by
   rcases F d with⟨rfl,-⟩ | ⟨rfl,-⟩
   ·exact h0 hf
   ·exact hj hf).1
  let Y:Va:=⟨rest.length+2,fun k=>if k < V.n then V.b k else V'.b 2,fun k=>if k < V.n then V.s k else V'.s 2,fun k=>if k=0 then V'.f 0 else if k=jo then fun _=>False else if k=rest.length+1 then V'.f 2 else V.f k⟩;have M:V.le Y:=⟨by show V.n≤rest.length+2;omega,fun k d=>⟨dc d,dc d⟩⟩;have f0:Y.f 0=V'.f 0:=by show(if(0:Nat)=0 then V'.f 0 else if(0:Nat)=jo then fun _=>False else if(0:Nat)=rest.length+1 then V'.f 2 else V.f 0)=_;rw[dc rfl]
  have fj:Y.f jo=fun _=>False:=by show(if jo=0 then V'.f 0 else if jo=jo then fun _=>False else if jo=rest.length+1 then V'.f 2 else V.f jo)=_;rw[db O,dc rfl]
  have fn:Y.f (rest.length+1)=V'.f 2:=by show(if rest.length+1=0 then V'.f 0 else if rest.length+1=jo then fun _=>False else if rest.length+1=rest.length+1 then V'.f 2 else V.f (rest.length+1))=_;rw[db (by omega),db (by omega),dc rfl]
  have fo:∀k,k≠0→k≠jo→k≠rest.length+1→Y.f k=V.f k:=fun k m A C=>by show(if k=0 then V'.f 0 else if k=jo then fun _=>False else if k=rest.length+1 then V'.f 2 else V.f k)=_;rw[db m,db A,db C]
  have K:∀{k:Nat} {r:R},look k (Bk (R.blk L t::(rest.set (jo - 1) .gone++[.slc B e sz])) 0)=some r→(k=0∧r=.blk L t)∨(k=jo∧r=.gone)∨(k=rest.length+1∧r=.slc B e sz)∨(k≠0∧k≠jo∧k≠rest.length+1∧look k (Bk (R.blk cs t::rest) 0)=some r):=fun {k r} d=>by
   rw[Ai] at d⊢;cases k with
   | zero=>simp at d;exact .inl ⟨rfl,d.symm⟩
   | succ k =>
    have d:(rest.set (jo - 1) .gone++[.slc B e sz])[k]?=some r:=by simpa using d
    by_cases E:k < rest.length
    ·rw[bl (by simpa using E),cn] at d;split at d
     ·next e1 =>
      rw[dc (by omega)] at d;cases d;exact .inr (.inl ⟨by omega,rfl⟩)
     ·next e1=>exact .inr (.inr (.inr ⟨by omega,by omega,by omega,by simpa using d⟩))
    ·rw[bf (by simp;omega),bh] at d;have hk0:k - rest.length=0:=by
      have:=(ac.1 d).1;simp at this;omega
     rw[hk0] at d;simp at d;exact .inr (.inr (.inl ⟨by omega,d.symm⟩))
  have U:∀{b:Nat},(V'.f 0 b∨V'.f 2 b)→b < w.heap.size→V.f 0 b∨V.f jo b:=fun {b} a E=>by
   rcases a with a | a
   ·obtain⟨j,r',hj,hf⟩:=hF.foot 0 _ b rfl a E;rcases F hj with⟨rfl,-⟩ | ⟨rfl,-⟩
    ·exact .inl hf
    ·exact .inr hf
   ·obtain⟨j,r',hj,hf⟩:=hF.foot 2 _ b rfl a E;rcases F hj with⟨rfl,-⟩ | ⟨rfl,-⟩
    ·exact .inl hf
    ·exact .inr hf
  have D:∀{k:Nat} {r:R} {b:Nat},k≠0→k≠jo→look k (Bk (R.blk cs t::rest) 0)=some r→V.f k b→(V'.f 0 b∨V'.f 2 b)→False:=fun {k r b} m A d a C=>by
   rcases U C (hH.foot k r b d a).1 with q | q
   ·exact m (hH.disj k 0 _ _ b d rfl a q)
   ·exact A (hH.disj k jo _ _ b d p a q)
  refine⟨x,.tup [],_,I,Y,he,⟨rfl,rfl⟩,?_,⟨fun b o y hy=>?_,fun k r d=>?_,fun k r d=>?_,fun k r b d a=>?_,fun k k' r r' b d H a l=>?_⟩,?_,⟨hF.os,hF.tape,hF.output,hF.size,fun b a hno=>⟨S b a (hno 0 _ rfl) (hno jo _ p),fun _=>rfl⟩,fun _ _ _ h=>h,fun k r b d a E=>?_⟩,M⟩
  ·show rest.length+2=_;simp
  ·have m:=hH.mem b o y hy;have E:=hH.mem.lt hy;have A:=S b E (fun hf=>by rw[(hH.foot 0 _ b rfl hf).2 o] at hy;cases hy) (fun hf=>by rw[(hH.foot jo _ b p hf).2 o] at hy;cases hy);unfold World.cell? at m⊢;dsimp only at m⊢;rw[A];exact m
  ·show k < rest.length+2;rcases K d with⟨rfl,-⟩ | ⟨rfl,-⟩ | ⟨rfl,-⟩ | ⟨-,-,-,d⟩
   ·omega
   ·omega
   ·omega
   ·have:=hH.num k r d;omega
  ·rcases K d with⟨rfl,rfl⟩ | ⟨rfl,rfl⟩ | ⟨rfl,rfl⟩ | ⟨m,A,C,d⟩
   ·obtain⟨hf',us',hw',hcs'⟩:=hH'.each 0 _ rfl;have bB:Y.b 0=V.b 0:=dc (by omega);refine⟨fun b=>?_,us',by rw[bB,←b0];exact hw',by rw[←hcs'.1,Hi],fun j g y J hy=>?_⟩
    ·rw[f0,bB,←b0];exact hf' b
    ·have m:=hcs'.2 j _ y (by rw[H3,J];rfl) hy;have hlen:j < W.length:=by
      have:=(ac.1 J).1;rw[hK.len] at this;rw[←Z.1];exact this
     rcases hK.get J with A | rfl | ⟨hold,hnjo⟩
     ·obtain⟨z,rfl⟩:=Z9s A;have m:CRep I' V' (.v z) y:=m;have:=Cc m;subst this;exact VRep.v _
     ·have m:CRep I' V' (Zel (rest.length+1) 2 (u (0+j)) (.osl (rest.length+1))) y:=m;unfold Zel at m;dsimp only at m;rw[Nat.beq_refl] at m;have m:CRep I' V' (.osl 2) y:=m;exact⟨by show rest.length+1 < rest.length+2;omega,by show y=if rest.length+1 < V.n then _ else _;rw[db (by omega)];exact m.2⟩
     ·have A:=Z.2 j g W[j] hold (ab hlen);have hu:u (0+j)=W[j]:=by show(W[0+j]?).getD undef=_;rw[cb,ab hlen];rfl
      rw[hu] at m;have:y=W[j]:=by
       cases g with
       | v z =>
        have C:=Cc (show CRep I' V' (.v z) y from m);have q:=Cc A;rw[C,q]
       | osl k =>
        have hkn:k < V.n:=A.1;have m:CRep I' V' (bif Nat.beq k (rest.length+1) then .osl 2 else .v W[j]) y:=m;have a:Nat.beq k (rest.length+1)=false:=by
         cases a:Nat.beq k (rest.length+1) with
         | false=>rfl
         | true=>have:=ai a;omega
        rw[a] at m;exact Cc m
       | _=>exact Cc m
      rw[this];exact A.mono (.refl _) M
   ·show ∀c,¬Y.f _ c;rw[fj];exact fun c hc=>hc
   ·have hs:Y.s (rest.length+1)=V'.s 2:=db (by omega);obtain⟨q1,rs,q2,q3,q4,q5⟩:=hH'.each 2 _ rfl;exact⟨fun b=>by rw[fn,hs];exact q1 b,rs,by rw[hs];exact q2,q3,fun i r y hr hy=>⟨(q4 i r y hr hy).1,fun j g z X hz=>T3 (hv r (ae hr) g (ae X)) ((q4 i r y hr hy).2 j g z X hz)⟩,q5⟩
   ·exact(hH.each k r d).keep (.refl _) M (hH.num k r d) (fo k m A C) hF.os hF.size fun b a=>S b (hH.foot k r b d a).1 (fun hf=>m (hH.disj k 0 _ _ b d rfl a hf)) (fun hf=>A (hH.disj k jo _ _ b d p a hf))
  ·rcases K d with⟨rfl,rfl⟩ | ⟨rfl,rfl⟩ | ⟨rfl,rfl⟩ | ⟨m,A,C,d⟩
   ·rw[f0] at a;have q:=hH'.foot 0 _ b rfl a;exact⟨q.1,fun o=>hI' b o (q.2 o)⟩
   ·rw[fj] at a;exact a.elim
   ·rw[fn] at a;have q:=hH'.foot 2 _ b rfl a;exact⟨q.1,fun o=>hI' b o (q.2 o)⟩
   ·rw[fo k m A C] at a;have q:=hH.foot k r b d a;exact⟨aq q.1 hF.size,q.2⟩
  ·rcases K d with⟨rfl,rfl⟩ | ⟨rfl,rfl⟩ | ⟨rfl,rfl⟩ | ⟨m,A,C,d⟩<;>rcases K H with⟨rfl,rfl⟩ | ⟨rfl,rfl⟩ | ⟨rfl,rfl⟩ | ⟨h1',h2',h3',H⟩
   ·rfl
   ·rw[fj] at l;exact l.elim
   ·rw[f0] at a;rw[fn] at l;have:=hH'.disj 0 2 _ _ b rfl rfl a l;omega
   ·rw[f0] at a;rw[fo k' h1' h2' h3'] at l;exact(D h1' h2' H l (.inl a)).elim
   ·rw[fj] at a;exact a.elim
   ·rfl
   ·rw[fj] at a;exact a.elim
   ·rw[fj] at a;exact a.elim
   ·rw[fn] at a;rw[f0] at l;have:=hH'.disj 2 0 _ _ b rfl rfl a l;omega
   ·rw[fj] at l;exact l.elim
   ·rfl
   ·rw[fn] at a;rw[fo k' h1' h2' h3'] at l;exact(D h1' h2' H l (.inr a)).elim
   ·rw[fo k m A C] at a;rw[f0] at l;exact(D m A d a (.inl l)).elim
   ·rw[fj] at l;exact l.elim
   ·rw[fo k m A C] at a;rw[fn] at l;exact(D m A d a (.inr l)).elim
   ·rw[fo k m A C] at a;rw[fo k' h1' h2' h3'] at l;exact hH.disj k k' r r' b d H a l
  ·obtain⟨cs0,e0,hp0⟩:=hx;exact⟨cs0,e0,hp0.1,fun j g y X hy=>by simp at X⟩
  ·rcases K d with⟨rfl,rfl⟩ | ⟨rfl,rfl⟩ | ⟨rfl,rfl⟩ | ⟨m,A,C,d⟩
   ·rw[f0] at a;rcases U (.inl a) E with q | q
    ·exact⟨0,_,rfl,q⟩
    ·exact⟨jo,_,p,q⟩
   ·rw[fj] at a;exact a.elim
   ·rw[fn] at a;rcases U (.inr a) E with q | q
    ·exact⟨0,_,rfl,q⟩
    ·exact⟨jo,_,p,q⟩
   ·rw[fo k m A C] at a;exact⟨k,r,d,a⟩⟩
def No:G→G
 | .tt=>.v (.bool true)
 | .ff=>.v (.bool false)
 | .nl=>.sl []
 | g=>g
theorem Oh {I:Imm}{V:Va}{g:G}{x:Value}(h:CRep I V g x):CRep I V (No g) x:=by
 cases g with
 | tt =>
  have h:VRep I .tt x:=h;cases h;exact VRep.v _
 | ff =>
  have h:VRep I .ff x:=h;cases h;exact VRep.v _
 | nl =>
  have h:VRep I .nl x:=h;cases h;exact VRep.sl (I:=I) [] none 0 0 (fun _ _=>undef) (af _) (fun _=>rfl) (fun r hr=>by cases hr) (fun i r h=>by simp at h) (fun i r j g h=>by simp at h)
 | _=>exact h
theorem FnO.seenE {P:Program}{f:FuncId}{gs cs n:List G}{t:TypeId}{rs:List R}{Q:G→List R→Prop}(E:cs.map No=n)(h:FnO P f gs (.blk n t::rs) Q):FnO P f gs (.blk cs t::rs) Q:=by
 subst E;have B:∀k,k≠0→look k (Bk (R.blk (cs.map No) t::rs) 0)=look k (Bk (R.blk cs t::rs) 0):=fun k a=>by
  cases k with
  | zero=>exact de rfl a
  | succ k=>rfl
 have J:∀(c:List G),look 0 (Bk (R.blk c t::rs) 0)=some (.blk c t):=fun c=>rfl;have l:∀{c o:List G} {k:Nat} {r:R},(c=cs∧o=cs.map No∨c=cs.map No∧o=cs)→look k (Bk (R.blk c t::rs) 0)=some r→∃r',look k (Bk (R.blk o t::rs) 0)=some r':=fun {c o k r} E a=>by
  by_cases m:k=0
  ·subst m;exact⟨_,J o⟩
  ·rcases E with⟨rfl,rfl⟩ | ⟨rfl,rfl⟩
   ·exact⟨r,by rw[B k m];exact a⟩
   ·exact⟨r,by rw[←B k m];exact a⟩
 refine⟨h.1,fun I V w vs hH hn M=>?_⟩;have C:Has I V (Bk (R.blk (cs.map No) t::rs) 0) w:=by
  refine⟨hH.mem,fun k r a=>?_,fun k r a=>?_,fun k r b a d=>?_,fun k k' r r' b a p d D=>?_⟩
  ·obtain⟨r',hr⟩:=l (.inr ⟨rfl,rfl⟩) a;exact hH.num k r' hr
  ·by_cases m:k=0
   ·subst m;rw[J] at a;obtain rfl:=cj a;obtain⟨O,us,Z,U,h4⟩:=hH.each 0 _ (J cs);refine⟨O,us,Z,by rw[aa];exact U,fun j g u L X=>?_⟩;rw[aj] at L;obtain⟨g0,v,rfl⟩:=ay.1 L;exact Oh (h4 j g0 u v X)
   ·rw[B k m] at a;exact hH.each k r a
  ·obtain⟨r',hr⟩:=l (.inr ⟨rfl,rfl⟩) a;exact hH.foot k r' b hr d
  ·obtain⟨q,hr⟩:=l (.inr ⟨rfl,rfl⟩) a;obtain⟨S,K⟩:=l (.inr ⟨rfl,rfl⟩) p;exact hH.disj k k' q S b hr K d D
 refine(h.2 I V w vs C hn M).mono fun e w' Y=>?_;obtain⟨x,g,z,I',V',he,hq,A,W,y,hf,H⟩:=Y;refine⟨x,g,z,I',V',he,hq,A,W,y,⟨hf.os,hf.tape,hf.output,hf.size,fun b d i=>hf.blk b d fun k r a=>?_,hf.mono,fun k r b a d i=>?_⟩,H⟩
 ·obtain⟨r',hr⟩:=l (.inr ⟨rfl,rfl⟩) a;exact i k r' hr
 ·obtain⟨j,r',T,s⟩:=hf.foot k r b a d i;obtain⟨q,F⟩:=l (.inr ⟨rfl,rfl⟩) T;exact⟨j,q,F,s⟩
section
variable {P:Program} {tb:List (Nat × TI)} {N:Nat}
end
def Zll:G→Bool
 | .v _=>true
 | .osl _=>true
 | _=>false
theorem Zhg {P:Program}{f:FuncId}{gs:List G}{rs:List R}{Q:G→List R→Prop}(y:Ent P f)(h:Gh (fun own n=>Z0e P f own n (fun g own n=>Zll g=true∧∃d q,Z5v (List.range rs.length) own n g Q d q) gs) (Bk rs 0) rs.length):FnO P f gs rs Q :=
 ⟨y,fun I V w vs hH j C=>by
  obtain⟨A,O,S,p,o⟩:=Po h j hH;obtain⟨-,L⟩:=Ps p o.has rfl (C.mono fun _ _ h=>h.to_t.mono o.fro.mono o.va);refine L.mono fun e w' ⟨x,g,own2,I2,V2,y,⟨hs,d,q,hE⟩,m,hx⟩=>?_;have c:=o.trans m;have t:PRes I2 V2 g x:=by
   cases g with
   | v u=>exact hx
   | osl k=>exact hx
   | _=>cases hs
  obtain⟨K,z,F,H,M,E,D⟩:=Pc hE m.has t V.s;have a:=c.fro;refine⟨x,q,d.map It.res,I2,K,y,hE.post,by simpa using z,F,H,⟨a.os,a.tape,a.output,a.size,a.blk,a.mono,fun i r b hi B c=>?_⟩,?_,fun i hi=>⟨?_,D i (by rw[List.length_range];omega)⟩⟩
  ·obtain⟨k,r',p,J⟩:=M i b B;exact a.foot k r' b p J c
  ·rw[z,j];obtain⟨l,m⟩:=hE.rts;have:=congrArg List.length m;simp at this;omega
  ·have hr:(List.range rs.length)[i]?=some i:=by rw[cq (by omega)]
   rw[(E i _ hr).1,(c.va.2 _ (by omega)).1]⟩
end Go.Proofs.YtihfaocdpmmooaaGreat
