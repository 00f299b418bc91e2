
import Derived.Test.YtihfaocdpmmooaaGreatSxMc
import Derived.ChangeKeysEq
namespace Go.Proofs.YtihfaocdpmmooaaGreat
open Go.RowKit
section
variable {P:Program} {f:FuncId} {gs:List G} {rs:List R} {Q Q':G→List R→Prop}
theorem Lh {rs rs':List R}(h:rs.length=rs'.length)(k:Nat){r:R}(hk:look k (Aw rs 0)=some r):∃r',look k (Aw rs' 0)=some r':=by
 rw[Af] at hk⊢
 have:=(List.getElem?_eq_some_iff.1 hk).1
 exact⟨_,List.getElem?_eq_getElem (by omega)⟩
theorem Fro.left {own own2 own':Os}{I I':Imm}{V V':Va}{w w':World}(h:Fro own I V w own' I' V' w')(h1:∀k r,look k own=some r→∃r',look k own2=some r'):Fro own2 I V w own' I' V' w' :=
 ⟨h.os,h.tape,h.output,h.size,fun b hb hn=>h.blk b hb fun k r hk hf=>by obtain⟨r',hr⟩:=h1 k r hk;exact hn k r' hr hf,h.mono,fun k r b hk hf hb=>by
  obtain⟨j,r',hj,hf'⟩:=h.foot k r b hk hf hb
  obtain⟨r2,h2⟩:=h1 j r' hj
  exact⟨j,r2,h2,hf'⟩⟩
theorem Fro.right {own own2 own':Os}{I I':Imm}{V V':Va}{w w':World}(h:Fro own I V w own' I' V' w')(h1:∀k r,look k own2=some r→∃r',look k own'=some r'):Fro own I V w own2 I' V' w' :=
 ⟨h.os,h.tape,h.output,h.size,h.blk,h.mono,fun k r b hk hf hb=>by
  obtain⟨r2,h2⟩:=h1 k r hk
  exact h.foot k r2 b h2 hf hb⟩
def WkR (r r':R):Prop:=r'=r∨∃p p',r=.abs p∧r'=.abs p'∧Loc p'∧∀I b S w,p I b S w→p' I b S w
def WkL:List R→List R→Prop
 | [],[]=>True
 | r::l,r'::l'=>WkR r r'∧WkL l l'
 | _,_=>False
theorem WkL.len:∀{l l':List R},WkL l l'→l.length=l'.length
 | [],[],_=>rfl
 | _::_,_::_,h=>by rw[List.length_cons,List.length_cons,h.2.len]
 | [],_::_,h=>h.elim
 | _::_,[],h=>h.elim
theorem WkL.get:∀{l l':List R},WkL l l'→∀{i:Nat} {r':R},l'[i]?=some r'→∃r,l[i]?=some r∧WkR r r'
 | [],[],_,i,r',h=>by simp at h
 | r::l,r1::l',h,0,r',hi=>by simp at hi;subst hi;exact⟨r,rfl,h.1⟩
 | r::l,r1::l',h,i+1,r',hi=>by
  obtain⟨r2,h1,h2⟩:=h.2.get (i:=i) (r':=r') (by simpa using hi)
  exact⟨r2,by simpa using h1,h2⟩
 | [],_::_,h,_,_,_=>h.elim
 | _::_,[],h,_,_,_=>h.elim
theorem WkL.refl:∀l:List R,WkL l l
 | []=>trivial
 | _::l=>⟨.inl rfl,.refl l⟩
theorem WkR.rep {I:Imm}{V:Va}{k:Nat}{w:World}{r r':R}(h:WkR r r')(hr:RRep I V k w r):RRep I V k w r':=by
 rcases h with rfl | ⟨p,p',rfl,rfl,hl,hp⟩
 ·exact hr
 ·exact⟨hl,hp _ _ _ _ hr.2⟩
theorem Has.wk {I:Imm}{V:Va}{w:World}{l l':List R}(hw:WkL l l')(h:Has I V (Aw l 0) w):Has I V (Aw l' 0) w:=by
 have lk:∀{k r'},look k (Aw l' 0)=some r'→∃r,look k (Aw l 0)=some r∧WkR r r':=fun {k r'} hk=>by
  rw[Af] at hk
  obtain⟨r,h1,h2⟩:=hw.get hk
  exact⟨r,by rw[Af];exact h1,h2⟩
 refine⟨h.mem,fun k r hk=>?_,fun k r hk=>?_,fun k r b hk hb=>?_,fun k k' r r' b hk hk' hb hb'=>?_⟩
 ·obtain⟨r1,h1,-⟩:=lk hk;exact h.num k r1 h1
 ·obtain⟨r1,h1,h2⟩:=lk hk;exact h2.rep (h.each k r1 h1)
 ·obtain⟨r1,h1,-⟩:=lk hk;exact h.foot k r1 b h1 hb
 ·obtain⟨r1,h1,-⟩:=lk hk
  obtain⟨r2,h2,-⟩:=lk hk'
  exact h.disj k k' r1 r2 b h1 h2 hb hb'
theorem FnO.wk (h:FnO P f gs rs Q)(hq:∀g rs',Q g rs'→∃rs'',WkL rs' rs''∧Q' g rs''):FnO P f gs rs Q' :=
 ⟨h.1,fun I V w vs h1 h2 h3=>(h.2 I V w vs h1 h2 h3).mono fun _ _ ⟨x,g,rs',I',V',e,k1,k2,k3,k4,k5,k6⟩=>by
  obtain⟨rs'',q1,q2⟩:=hq g rs' k1
  exact⟨x,g,rs'',I',V',e,q2,k2.trans q1.len,k3.wk q1,k4,k5.right fun k r hk=>Lh q1.len.symm k hk,k6⟩⟩
theorem FnO.case {p:Ob}{ι:Type}{q:ι→Ob}(hE:Ent P f)(hp:∀I b S w,p I b S w→∃i,q i I b S w)(hl:∀i,Loc (q i))(h:∀i,FnO P f gs (.abs (q i)::rs) Q):FnO P f gs (.abs p::rs) Q :=
 ⟨hE,fun I V w vs hH hn h3=>by
  obtain⟨i,hi⟩:=hp _ _ _ _ (hH.each 0 (.abs p) rfl).2
  have hH2:Has I V (Aw (.abs (q i)::rs) 0) w:=by
   have lk:∀{k r'},look k (Aw (.abs (q i)::rs) 0)=some r'→(k=0∧r'=.abs (q i))∨(k≠0∧look k (Aw (.abs p::rs) 0)=some r'):=fun {k r'} hk=>by
    rw[Af] at hk⊢
    cases k with
    | zero=>simp at hk;exact .inl ⟨rfl,hk.symm⟩
    | succ k=>exact .inr ⟨by omega,by simpa using hk⟩
   have lk2:∀{k r'},look k (Aw (.abs (q i)::rs) 0)=some r'→∃r,look k (Aw (.abs p::rs) 0)=some r:=fun {k r'} hk=>Lh (by simp) k hk
   refine⟨hH.mem,fun k r hk=>?_,fun k r hk=>?_,fun k r b hk hb=>?_,fun k k' r r' b hk hk' hb hb'=>?_⟩
   ·obtain⟨r1,h1⟩:=lk2 hk;exact hH.num k r1 h1
   ·rcases lk hk with⟨rfl,rfl⟩ | ⟨-,h1⟩
    ·exact⟨hl i,hi⟩
    ·exact hH.each k r h1
   ·obtain⟨r1,h1⟩:=lk2 hk;exact hH.foot k r1 b h1 hb
   ·obtain⟨r1,h1⟩:=lk2 hk
    obtain⟨r2,h2⟩:=lk2 hk'
    exact hH.disj k k' r1 r2 b h1 h2 hb hb'
  exact((h i).2 I V w vs hH2 hn h3).mono fun _ _ ⟨x,g,rs',I',V',e,k1,k2,k3,k4,k5,k6⟩=>⟨x,g,rs',I',V',e,k1,k2,k3,k4,k5.left fun k r hk=>Lh (by simp) k hk,k6⟩⟩
end
end Go.Proofs.YtihfaocdpmmooaaGreat
namespace Go.Proofs.YtihfaocdpmmooaaGreat
open Go.RowKit
theorem Sq {I I':Imm}{g:G}{x:Value}(h:Fy g=true)(hx:VRep I g x):VRep I' g x:=by
 cases g with
 | v u=>have:=C5 hx;subst this;exact .v _
 | _=>cases h
theorem FnO.peekN {P:Program}{f:FuncId}{gs:List G}{rows rows':List (List G)}{e sz e' sz':Nat}(h:FnO P f (.sl rows::gs) [] fun g rs=>g=.osl 0∧rs=[.slc rows' e' sz'])(hg:Ar Q1 gs=true)(hv1:∀r∈rows',∀g∈r,Fy g=true):FnO P f (.osl 0::gs) [.slc rows e sz] fun g rs=>g=.osl 1∧rs=[.slc rows e sz,.slc rows' e' sz'] :=
 ⟨h.1,fun I V w vs hH hn hp=>by
  obtain⟨I2,hL,hv,-⟩:=E9 (k:=0) (rows:=rows) (e:=e) (sz:=sz) hH rfl
  have hp2:PW (PRep I2 ⟨0,fun _=>0,fun _=>undef,fun _ _=>False⟩) (.sl rows::gs) vs:=by
   refine⟨hp.1,fun j g u h1 h2=>?_⟩
   cases j with
   | zero =>
    obtain rfl:G.sl rows=g:=by simpa using h1
    have h3:=hp.2 0 (.osl 0) u rfl h2
    have h3:u=V.s 0:=h3.2
    rw[h3];exact hv
   | succ j =>
    have h3:=hp.2 (j+1) g u h1 h2
    have h4:=Ac hg g (List.mem_of_getElem? h1)
    have h5:VRep I g u:=by
     cases g<;>first
      | exact h3
      | cases h4
    exact .of_v (h5.mono hL.fro.mono)
  have hH0:Has I2 ⟨0,fun _=>0,fun _=>undef,fun _ _=>False⟩ (Aw [] 0) w:=⟨hL.has.mem,fun k r h=>(by cases h),fun k r h=>(by cases h),fun k r b h=>(by cases h),fun k k' r r' b h=>(by cases h)⟩
  refine(h.2 I2 _ w vs hH0 rfl hp2).mono fun e1 w' ⟨x,g,rs,I3,V1,he,hq,hn1,hH1,hx,hF,_⟩=>?_
  obtain⟨rfl,rfl⟩:=hq
  have old:∀b,b < w.heap.size→w'.heap[b]?=w.heap[b]?:=fun b hb=>(hF.blk b hb (fun k r h=>by cases h)).1
  have new:∀b,V1.f 0 b→w.heap.size≤b:=fun b hb=>Nat.le_of_not_lt fun hlt=>by
   obtain⟨j,r,hj,-⟩:=hF.foot 0 _ b rfl hb hlt
   cases hj
  have hmem:Mem I w':=fun b o y hy=>by
   have h1:=hH.mem b o y hy
   have hlt:b < w.heap.size:=by
    apply Classical.byContradiction
    intro hlt
    have:w.heap[b]?=none:=Array.getElem?_eq_none (by omega)
    simp[World.cell?,this] at h1
   have h2:=old b hlt
   unfold World.cell? at h1⊢
   dsimp only at h1⊢
   rw[h2];exact h1
  let V':Va:=⟨2,fun k=>if k=0 then V.b 0 else V1.b 0,fun k=>if k=0 then V.s 0 else V1.s 0,fun k=>if k=0 then V.f 0 else V1.f 0⟩
  have lk:∀{k:Nat} {r:R},look k (Aw [R.slc rows e sz,R.slc rows' e' sz'] 0)=some r→(k=0∧r=.slc rows e sz)∨(k=1∧r=.slc rows' e' sz'):=fun {k r} hk=>by
   rw[Af] at hk
   rcases k with _ | _ | k
   ·simp at hk;exact .inl ⟨rfl,hk.symm⟩
   ·simp at hk;exact .inr ⟨rfl,hk.symm⟩
   ·simp at hk
  have hr0:=hH.each 0 _ rfl
  have hr1:=hH1.each 0 _ rfl
  have hI3:∀b o,b < w.heap.size→I3 b o=I2 b o:=fun b o hb=>(hF.blk b hb (fun k r h=>by cases h)).2 o
  refine⟨x,.osl 1,_,I,V',he,⟨rfl,rfl⟩,rfl,⟨hmem,fun k r hk=>?_,fun k r hk=>?_,fun k r b hk hb=>?_,fun k k' r r' b hk hk' hb hb'=>?_⟩,?_,⟨hF.os,hF.tape,hF.output,hF.size,fun b hb _=>⟨old b hb,fun _=>rfl⟩,fun _ _ _ h=>h,fun k r b hk hb hlt=>?_⟩,⟨by rw[hn];exact Nat.le_succ 1,fun k hk=>?_⟩⟩
  ·rcases lk hk with⟨rfl,-⟩ | ⟨rfl,-⟩<;>show _ < 2<;>omega
  ·rcases lk hk with⟨rfl,rfl⟩ | ⟨rfl,rfl⟩
   ·obtain⟨h1,rs,h2,h3⟩:=RRep.keep (I':=I) (V':=V) hr0 (.refl _) (.refl _) (by rw[hn];exact Nat.one_pos) rfl hF.os hF.size fun b hb=>old b (hH.foot 0 _ b rfl hb).1
    exact⟨h1,rs,h2,h3⟩
   ·obtain⟨h1,rs,h2,h3,h4,h5⟩:=hr1
    exact⟨h1,rs,h2,h3,fun i r u hr hu=>⟨(h4 i r u hr hu).1,fun j g y hg hy=>Sq (hv1 r (List.mem_of_getElem? hr) g (List.mem_of_getElem? hg)) ((h4 i r u hr hu).2 j g y hg hy)⟩,h5⟩
  ·rcases lk hk with⟨rfl,rfl⟩ | ⟨rfl,rfl⟩
   ·have:=hH.foot 0 _ b rfl hb
    exact⟨Nat.lt_of_lt_of_le this.1 hF.size,this.2⟩
   ·have h1:=(hH1.foot 0 _ b rfl hb).1
    refine⟨h1,fun o=>?_⟩
    cases hI:I b o with
    | none=>rfl
    | some y =>
     have h2:=hH.mem b o y hI
     have hlt:b < w.heap.size:=by
      apply Classical.byContradiction
      intro hlt
      have:w.heap[b]?=none:=Array.getElem?_eq_none (by omega)
      simp[World.cell?,this] at h2
     have:=new b hb
     omega
  ·rcases lk hk with⟨rfl,rfl⟩ | ⟨rfl,rfl⟩<;>rcases lk hk' with⟨rfl,rfl⟩ | ⟨rfl,rfl⟩
   ·rfl
   ·have:=(hH.foot 0 _ b rfl hb).1;have:=new b hb';omega
   ·have:=(hH.foot 0 _ b rfl hb').1;have:=new b hb;omega
   ·rfl
  ·have hx:CRep I3 V1 (.osl 0) x:=hx
   exact(show CRep I V' (.osl 1) x from⟨by show 1 < 2;omega,hx.2⟩)
  ·rcases lk hk with⟨rfl,rfl⟩ | ⟨rfl,rfl⟩
   ·exact⟨0,_,rfl,hb⟩
   ·have:=new b hb;omega
  ·have hn:V.n=1:=hn
   obtain rfl:k=0:=by omega
   exact⟨rfl,rfl⟩⟩
end Go.Proofs.YtihfaocdpmmooaaGreat
namespace Go.Proofs.YtihfaocdpmmooaaGreat
open Go.RowKit
def Ze2 (u:Value):G→G
 | .ptr _ _=>.v u
 | .osl _=>.v u
 | .osv _ _ _ _=>.v u
 | .mp _=>.v u
 | g=>g
def Z2p (u:Nat→Value):Nat→List G→List G
 | _,[]=>[]
 | i,g::l=>Ze2 (u i) g::Z2p u (i+1) l
def KeepL:List G→List G→Prop
 | [],[]=>True
 | g::l,g'::l'=>(Be g'=true∨g'=g)∧KeepL l l'
 | _,_=>False
theorem On (u:Nat→Value):∀(l:List G) (i j:Nat),(Z2p u i l)[j]?=(l[j]?).map (Ze2 (u (i+j)))
 | [],i,j=>by simp[Z2p]
 | g::l,i,0=>by simp[Z2p]
 | g::l,i,j+1=>by
  simp only[Z2p,List.getElem?_cons_succ]
  rw[On u l (i+1) j,show i+1+j=i+(j+1) by omega]
theorem Nw (u:Nat→Value):∀(l:List G) (i:Nat),(Z2p u i l).length=l.length
 | [],_=>rfl
 | g::l,i=>by simp[Z2p,Nw u l (i+1)]
theorem KeepL.get:∀{l l':List G},KeepL l l'→∀{j:Nat} {g':G},l'[j]?=some g'→Be g'=true∨l[j]?=some g'
 | [],[],_,j,g',h=>by simp at h
 | g::l,h0::l',h,0,g',e=>by
  simp at e;subst e
  exact h.1.imp id fun e=>by rw[e];rfl
 | g::l,h0::l',h,j+1,g',e=>by
  have:=KeepL.get h.2 (j:=j) (by simpa using e)
  simpa using this
 | [],_::_,h,_,_,_=>h.elim
 | _::_,[],h,_,_,_=>h.elim
theorem KeepL.len:∀{l l':List G},KeepL l l'→l'.length=l.length
 | [],[],_=>rfl
 | _::_,_::_,h=>by simp[KeepL.len h.2]
 | [],_::_,h=>h.elim
 | _::_,[],h=>h.elim
theorem Mw {u:Value}{g:G}(h:Be g=true):Ze2 u g=g:=by cases g<;>first | rfl | cases h
theorem Z57 {I:Imm}{V V1:Va}{g:G}{x:Value}(h:CRep I V g x):CRep I V1 (Ze2 x g) x:=by
 cases g with
 | ptr k o=>exact VRep.v _
 | osl k=>exact VRep.v _
 | osv k a b c=>exact VRep.v _
 | mp k=>exact VRep.v _
 | oel k a b c=>exact h.elim
 | orv k a b c d e=>exact h.elim
 | oag l=>exact h.elim
 | tup l=>exact h.elim
 | elp l o=>exact h.elim
 | clo f a c=>exact h.elim
 | _=>exact h
theorem N6 {I:Imm}{V V1:Va}{g:G}{x:Value}(hg:Ii g=true)(h:PRes I V g x):PRes I V1 g x:=by
 have one:∀g x,G9 g=true→PRe1 I V g x→PRe1 I V1 g x:=fun g x hg h=>by
  cases g with
  | oag l =>
   obtain⟨cs,e,hp⟩:=(show TRep1 I V (.oag l) x from h)
   exact(show TRep1 I V1 (.oag l) x from⟨cs,e,Vi hg hp⟩)
  | ptr k o=>cases hg
  | osl k=>cases hg
  | osv k a b c=>cases hg
  | oel k a b c=>cases hg
  | orv k a b c d e=>cases hg
  | mp k=>cases hg
  | clo f a c=>cases hg
  | tup l=>cases hg
  | _=>exact h
 cases g with
 | tup l =>
  obtain⟨cs,e,hp⟩:=h
  exact⟨cs,e,hp.1,fun j g u hg' hu=>one g u (Ac (show Ar G9 l=true from hg) g (List.mem_of_getElem? hg')) (hp.2 j g u hg' hu)⟩
 | oag l=>exact one (.oag l) x hg h
 | ptr k o=>cases hg
 | osl k=>cases hg
 | osv k a b c=>cases hg
 | oel k a b c=>cases hg
 | orv k a b c d e=>cases hg
 | mp k=>cases hg
 | clo f a c=>cases hg
 | _=>exact h
theorem FnO.frame {P:Program}{f:FuncId}{gs:List G}{cs cs':List G}{t:Nat}{g0:G}{rest:List R}(hK:KeepL cs cs')(hg0:Ii g0=true)(hg:Ar Q1 gs=true)(h:∀u,FnO P f (.ptr 0 0::gs) [.blk (Z2p u 0 cs) t] fun g rs=>g=g0∧rs=[.blk (Z2p u 0 cs') t]):FnO P f (.ptr 0 0::gs) (.blk cs t::rest) fun g rs=>g=g0∧rs=.blk cs' t::rest :=
 ⟨(h fun _=>undef).1,fun I V w vs hH hn hp=>by
  obtain⟨hf0,us,hw0,hcs⟩:=hH.each 0 _ rfl
  let u:Nat→Value:=fun j=>(us[j]?).getD undef
  let V1:Va:=⟨1,V.b,V.s,V.f⟩
  have lk1:∀{cs:List G} {k:Nat} {r:R},look k (Aw [R.blk cs t] 0)=some r→k=0∧r=.blk cs t:=fun {cs k r} hk=>by
   rw[Af] at hk
   cases k with
   | zero=>simp at hk;exact⟨rfl,hk.symm⟩
   | succ k=>simp at hk
  have hH1:Has I V1 (Aw [R.blk (Z2p u 0 cs) t] 0) w:=⟨hH.mem,fun k r hk=>by obtain⟨rfl,-⟩:=lk1 hk;exact Nat.one_pos,fun k r hk=>by
    obtain⟨rfl,rfl⟩:=lk1 hk
    refine⟨hf0,us,hw0,by rw[Nw];exact hcs.1,fun j g x hg hx=>?_⟩
    rw[On] at hg
    obtain⟨g1,h1,rfl⟩:=Option.map_eq_some_iff.1 hg
    have:u (0+j)=x:=by show(us[0+j]?).getD undef=x;rw[Nat.zero_add,hx];rfl
    rw[this]
    exact Z57 (hcs.2 j g1 x h1 hx),fun k r b hk hb=>by obtain⟨rfl,-⟩:=lk1 hk;exact hH.foot 0 _ b rfl hb,fun k k' r r' b hk hk' _ _=>by obtain⟨rfl,-⟩:=lk1 hk;obtain⟨rfl,-⟩:=lk1 hk';rfl⟩
  have hp1:PW (PRep I V1) (.ptr 0 0::gs) vs:=by
   refine⟨hp.1,fun j g y hg' hy=>?_⟩
   cases j with
   | zero =>
    obtain rfl:G.ptr 0 0=g:=by simpa using hg'
    have h3:=hp.2 0 (.ptr 0 0) y rfl hy
    exact⟨Nat.one_pos,h3.2⟩
   | succ j =>
    have h3:=hp.2 (j+1) g y hg' hy
    have h4:=Ac hg g (List.mem_of_getElem? (by simpa using hg'))
    have h5:VRep I g y:=by
     cases g<;>first
      | exact h3
      | cases h4
    exact .of_v h5
  refine((h u).2 I V1 w vs hH1 rfl hp1).mono fun e w' ⟨x,g,rs',I',V',he,hq,hn',hH',hx,hF,hle⟩=>?_
  obtain⟨rfl,rfl⟩:=hq
  have hle2:V.le ⟨V.n,V.b,V.s,fun k=>if k=0 then V'.f 0 else V.f k⟩:=⟨Nat.le_refl _,fun k _=>⟨rfl,rfl⟩⟩
  have b0:V'.b 0=V.b 0:=(hle.2 0 Nat.one_pos).1
  have lk2:∀{k:Nat} {r:R},look k (Aw (R.blk cs' t::rest) 0)=some r→(k=0∧r=.blk cs' t)∨(k≠0∧look k (Aw (R.blk cs t::rest) 0)=some r):=fun {k r} hk=>by
   rw[Af] at hk⊢
   cases k with
   | zero=>simp at hk;exact .inl ⟨rfl,hk.symm⟩
   | succ k=>exact .inr ⟨by omega,by simpa using hk⟩
  have old:∀{k:Nat} {r:R} {b:Nat},k≠0→look k (Aw (R.blk cs t::rest) 0)=some r→V.f k b→w'.heap[b]?=w.heap[b]?∧∀o,I' b o=I b o:=fun {k r b} hk0 hk hb=>hF.blk b (hH.foot k r b hk hb).1 fun j r' hj hb'=>by
   obtain⟨rfl,-⟩:=lk1 hj
   exact hk0 (hH.disj k 0 _ _ b hk rfl hb hb')
  refine⟨x,g,_,I',⟨V.n,V.b,V.s,fun k=>if k=0 then V'.f 0 else V.f k⟩,he,⟨rfl,rfl⟩,?_,⟨hH'.mem,fun k r hk=>?_,fun k r hk=>?_,fun k r b hk hb=>?_,fun k k' r r' b hk hk' hb hb'=>?_⟩,N6 hg0 hx,⟨hF.os,hF.tape,hF.output,hF.size,fun b hb hno=>hF.blk b hb fun k r hk hf=>?_,hF.mono,fun k r b hk hb hlt=>?_⟩,hle2⟩
  ·rw[hn];rfl
  ·rcases lk2 hk with⟨rfl,-⟩ | ⟨-,hk⟩
   ·exact hH.num 0 _ rfl
   ·exact hH.num k r hk
  ·rcases lk2 hk with⟨rfl,rfl⟩ | ⟨hk0,hk⟩
   ·obtain⟨hf',us',hw',hcs'⟩:=hH'.each 0 _ rfl
    refine⟨fun b=>?_,us',by rw[b0] at hw';exact hw',by rw[←hcs'.1,Nw],fun j g y hg' hy=>?_⟩
    ·have:=hf' b
     rw[b0] at this
     exact this
    ·have h1:=hcs'.2 j _ y (by rw[On,hg'];rfl) hy
     have hlen:j < us.length:=by
      have:=(List.getElem?_eq_some_iff.1 hg').1
      rw[hK.len] at this
      rw[←hcs.1];exact this
     rcases hK.get hg' with hnk | hold
     ·rw[Mw hnk] at h1
      exact J3 hnk h1
     ·by_cases hnk:Be g=true
      ·rw[Mw hnk] at h1
       exact J3 hnk h1
      ·have h2:=hcs.2 j g us[j] hold (List.getElem?_eq_getElem hlen)
       have:y=us[j]:=by
        have hu:u (0+j)=us[j]:=by show(us[0+j]?).getD undef=_;rw[Nat.zero_add,List.getElem?_eq_getElem hlen];rfl
        rw[hu] at h1
        cases g with
        | ptr k o=>exact C5 h1
        | osl k=>exact C5 h1
        | osv k a b c=>exact C5 h1
        | mp k=>exact C5 h1
        | oel k a b c=>exact h2.elim
        | orv k a b c d e=>exact h2.elim
        | oag l=>exact h2.elim
        | tup l=>exact h2.elim
        | elp l o=>exact h2.elim
        | clo f a c=>exact h2.elim
        | _=>exact absurd rfl hnk
       rw[this]
       exact h2.mono hF.mono hle2
   ·exact(hH.each k r hk).keep hF.mono hle2 (hH.num k r hk) (if_neg hk0) hF.os hF.size fun b hb=>(old hk0 hk hb).1
  ·rcases lk2 hk with⟨rfl,rfl⟩ | ⟨hk0,hk⟩
   ·exact hH'.foot 0 _ b rfl hb
   ·have hb:V.f k b:=(congrFun (show(if k=0 then V'.f 0 else V.f k)=V.f k from if_neg hk0) b).mp hb
    have h1:=hH.foot k r b hk hb
    exact⟨Nat.lt_of_lt_of_le h1.1 hF.size,fun o=>by rw[(old hk0 hk hb).2 o];exact h1.2 o⟩
  ·have zero:∀{k:Nat} {r:R} {b:Nat},k≠0→look k (Aw (R.blk cs t::rest) 0)=some r→V.f k b→V'.f 0 b→False:=fun {k r b} hk0 hk hb h0=>by
    obtain⟨j,r',hj,hf⟩:=hF.foot 0 _ b rfl h0 (hH.foot k r b hk hb).1
    obtain⟨rfl,-⟩:=lk1 hj
    exact hk0 (hH.disj k 0 _ _ b hk rfl hb hf)
   rcases lk2 hk with⟨rfl,rfl⟩ | ⟨hk0,hk⟩<;>rcases lk2 hk' with⟨rfl,rfl⟩ | ⟨hk0',hk'⟩
   ·rfl
   ·have hb':V.f k' b:=(congrFun (show(if k'=0 then V'.f 0 else V.f k')=V.f k' from if_neg hk0') b).mp hb'
    exact(zero hk0' hk' hb' hb).elim
   ·have hb:V.f k b:=(congrFun (show(if k=0 then V'.f 0 else V.f k)=V.f k from if_neg hk0) b).mp hb
    exact(zero hk0 hk hb hb').elim
   ·have hb':V.f k' b:=(congrFun (show(if k'=0 then V'.f 0 else V.f k')=V.f k' from if_neg hk0') b).mp hb'
    have hb:V.f k b:=(congrFun (show(if k=0 then V'.f 0 else V.f k)=V.f k from if_neg hk0) b).mp hb
    exact hH.disj k k' r r' b hk hk' hb hb'
  ·obtain⟨rfl,-⟩:=lk1 hk
   exact hno 0 _ rfl hf
  ·rcases lk2 hk with⟨rfl,rfl⟩ | ⟨hk0,hk⟩
   ·obtain⟨j,r',hj,hf⟩:=hF.foot 0 _ b rfl hb hlt
    obtain⟨rfl,-⟩:=lk1 hj
    exact⟨0,_,rfl,hf⟩
   ·have hb:V.f k b:=(congrFun (show(if k=0 then V'.f 0 else V.f k)=V.f k from if_neg hk0) b).mp hb
    exact⟨k,r,hk,hb⟩⟩
end Go.Proofs.YtihfaocdpmmooaaGreat
namespace Go.Proofs.YtihfaocdpmmooaaGreat
open Go.RowKit
def byV (c:UInt8):Value:=.int .u8 c.toNat
def gB1 (c:UInt8):G:=.v (.int .u8 c.toNat)
theorem Mx {P:Program}(w:World)(d:Nat){e:TypeId}(hp:P.plainKey e=true)(he:P.underlying e=some (.int .u8))(xs ys:List UInt8):∀(is:List Nat),(∀i∈is,i < xs.length∧i < ys.length)→(Op.eqItems (d+1) e 1 (xs.map byV).toArray (ys.map byV).toArray is).run P w=.ok (is.all fun i=>xs[i]?==ys[i]?) w
 | [],_=>by simp[Op.eqItems]
 | i::is,h=>by
  obtain⟨h1,h2⟩:=h i (by simp)
  have ih:=Mx w d hp he xs ys is fun j hj=>h j (by simp[hj])
  have p1:=run_part_plain (P:=P) w hp (xs:=(xs.map byV).toArray) (off:=i * 1) (v:=byV xs[i]) (by simp[h1])
  have p2:=run_part_plain (P:=P) w hp (xs:=(ys.map byV).toArray) (off:=i * 1) (v:=byV ys[i]) (by simp[h2])
  have p3:(Op.equalIn (d+1) e (byV xs[i]) (byV ys[i])).run P w=.ok ((xs[i].toNat:Int)==(ys[i].toNat:Int)) w:=run_equalIn_int w d e .u8 .u8 _ _ he
  have hb:((xs[i].toNat:Int)==(ys[i].toNat:Int))=(xs[i]?==ys[i]?):=by
   rw[List.getElem?_eq_getElem h1,List.getElem?_eq_getElem h2]
   by_cases e:xs[i]=ys[i]
   ·rw[e];simp
   ·have e2:(xs[i].toNat:Int)≠(ys[i].toNat:Int):=fun e2=>e (UInt8.toNat_inj.1 (by omega))
    rw[beq_eq_false_iff_ne.2 e2]
    symm
    simpa using e
  unfold Op.eqItems
  simp only[Sem.run_bind,p1,p2,p3,Result.andThen_ok,List.all_cons,hb]
  cases hc:(xs[i]?==ys[i]?) with
  | true=>simpa using ih
  | false=>simp
theorem EvEq.arr {P:Program}{t e:TypeId}{i:TypeInfo}{n:Nat}{K:Bool→Prop}(xs ys:List UInt8)(hu:P.underlying t=some (.array n e))(hi:P.info? e=some i)(hz:P.cellsOf e=1)(hp:P.plainKey e=true)(he:P.underlying e=some (.int .u8))(hg:P.eqGuardType P.depth t=false)(hx:xs.length=n)(hy:ys.length=n)(h1:xs=ys→K true)(h2:xs≠ys→K false):EvEq P t (xs.map gB1) (ys.map gB1) K:=by
 refine⟨xs.map byV,ys.map byV,(List.range n).all fun i=>xs[i]?==ys[i]?,by unfold M8;rw[List.map_map];rfl,by unfold M8;rw[List.map_map];rfl,hg,fun w=>?_,?_⟩
 ·rw[show(10000:Nat)=9999+1 from rfl,run_equalIn_array w 9999 _ _ hu hi,hz]
  exact Mx w 9998 hp he xs ys _ fun j hj=>by have:=List.mem_range.1 hj;omega
 ·by_cases hxy:xs=ys
  ·subst hxy
   have:(List.range n).all (fun i=>xs[i]?==xs[i]?)=true:=by simp
   rw[this];exact h1 rfl
  ·have:(List.range n).all (fun i=>xs[i]?==ys[i]?)=false:=by
    rw[←Bool.not_eq_true,List.all_eq_true]
    intro hall
    refine hxy (List.ext_getElem? fun j=>?_)
    by_cases hj:j < n
    ·simpa using hall j (List.mem_range.2 hj)
    ·rw[List.getElem?_eq_none (by omega),List.getElem?_eq_none (by omega)]
   rw[this];exact h2 hxy
theorem Zgd {α:Type}{l:List α}(h:l.length=8):∃a b c d e f g i,l=[a,b,c,d,e,f,g,i]:=by
 match l,h with
 | [a,b,c,d,e,f,g,i],_=>exact⟨a,b,c,d,e,f,g,i,rfl⟩
end Go.Proofs.YtihfaocdpmmooaaGreat
namespace Go.Proofs.YtihfaocdpmmooaaGreat
open Go.RowKit
def Zae (jo nw:Nat)(u:Value):G→G
 | .v x=>.v x
 | .osl j=>bif Nat.beq j jo then .osl nw else .v u
 | _=>.v u
def Jd (jo nw:Nat)(u:Nat→Value):Nat→List G→List G
 | _,[]=>[]
 | i,g::l=>Zae jo nw (u i) g::Jd jo nw u (i+1) l
def KeepS (jo nn:Nat):List G→List G→Prop
 | [],[]=>True
 | g::l,g'::l'=>(Fy g'=true∨g'=.osl nn∨(g'=g∧g≠.osl jo))∧KeepS jo nn l l'
 | _,_=>False
theorem G0 (jo nw:Nat)(u:Nat→Value):∀(l:List G) (i j:Nat),(Jd jo nw u i l)[j]?=(l[j]?).map (Zae jo nw (u (i+j)))
 | [],i,j=>by simp[Jd]
 | g::l,i,0=>by simp[Jd]
 | g::l,i,j+1=>by
  simp only[Jd,List.getElem?_cons_succ]
  rw[G0 jo nw u l (i+1) j,show i+1+j=i+(j+1) by omega]
theorem Gd (jo nw:Nat)(u:Nat→Value):∀(l:List G) (i:Nat),(Jd jo nw u i l).length=l.length
 | [],_=>rfl
 | g::l,i=>by simp[Jd,Gd jo nw u l (i+1)]
theorem KeepS.get {jo nn:Nat}:∀{l l':List G},KeepS jo nn l l'→∀{j:Nat} {g':G},l'[j]?=some g'→Fy g'=true∨g'=.osl nn∨(l[j]?=some g'∧g'≠.osl jo)
 | [],[],_,j,g',h=>by simp at h
 | g::l,h0::l',h,0,g',e=>by
  simp at e;subst e
  rcases h.1 with h | h | ⟨h,h2⟩
  ·exact .inl h
  ·exact .inr (.inl h)
  ·exact .inr (.inr ⟨by rw[h];rfl,by rw[h];exact h2⟩)
 | g::l,h0::l',h,j+1,g',e=>by
  have:=KeepS.get h.2 (j:=j) (by simpa using e)
  simpa using this
 | [],_::_,h,_,_,_=>h.elim
 | _::_,[],h,_,_,_=>h.elim
theorem KeepS.len {jo nn:Nat}:∀{l l':List G},KeepS jo nn l l'→l'.length=l.length
 | [],[],_=>rfl
 | _::_,_::_,h=>by simp[KeepS.len h.2]
 | [],_::_,h=>h.elim
 | _::_,[],h=>h.elim
theorem Z79 {g:G}(h:Fy g=true):∃x,g=.v x:=by
 cases g with
 | v x=>exact⟨x,rfl⟩
 | _=>cases h
theorem FnO.peekF {P:Program}{f:FuncId}{gs gs':List G}{cs cs':List G}{t:Nat}{rest:List R}{jo js e sz e2 sz2:Nat}{out out' rows:List (List G)}
  (hjo:look jo (Aw (R.blk cs t::rest) 0)=some (.slc out e sz)) (hjs:look js (Aw (R.blk cs t::rest) 0)=some (.slc rows e2 sz2)) (hne:js≠jo)
  (hK:KeepS jo (rest.length+1) cs cs') (hgs:gs.map (Z06 ((js,R.froz rows sz2)::Aw (R.blk cs t::rest) 0))=gs') (hg:Ar Q1 gs'=true) (hv:∀r∈out',∀g∈r,Fy g=true)
  (h:∀u,FnO P f (.ptr 0 0::gs') [.blk (Jd jo 1 u 0 cs) t,.slc out e sz] fun g rs=>g=.tup []∧rs=[.blk (Jd (rest.length+1) 2 u 0 cs') t,.gone,.slc out' e sz]) :
  FnO P f (.ptr 0 0::gs) (.blk cs t::rest) fun g rs=>g=.tup []∧rs=.blk cs' t::(rest.set (jo - 1) .gone++[.slc out' e sz]) :=
 ⟨(h fun _=>undef).1,fun I V w vs hH hn hp=>by
  have hjo0:jo≠0:=fun e=>by subst e;cases hjo
  have hjon:=hH.num jo _ hjo
  have hVn:V.n=rest.length+1:=hn
  obtain⟨hf0,us,hw0,hcs⟩:=hH.each 0 _ rfl
  obtain⟨I2,hL,-,-⟩:=E9 hH hjs
  have hI2:∀b o x,I b o=some x→I2 b o=some x:=hL.fro.mono
  let u:Nat→Value:=fun j=>(us[j]?).getD undef
  let V1:Va:=⟨2,fun k=>if k=0 then V.b 0 else V.b jo,fun k=>if k=0 then V.s 0 else V.s jo,fun k=>if k=0 then V.f 0 else V.f jo⟩
  have lk1:∀{cs:List G} {o:List (List G)} {k:Nat} {r:R},look k (Aw [R.blk cs t,.slc o e sz] 0)=some r→(k=0∧r=.blk cs t)∨(k=1∧r=.slc o e sz):=fun {cs o k r} hk=>by
   rw[Af] at hk
   rcases k with _ | _ | k
   ·simp at hk;exact .inl ⟨rfl,hk.symm⟩
   ·simp at hk;exact .inr ⟨rfl,hk.symm⟩
   ·simp at hk
  have hmem2:Mem I2 w:=hL.has.mem
  have notjs:∀{k:Nat} {r:R} {b:Nat},look k (Aw (R.blk cs t::rest) 0)=some r→k≠js→V.f k b→∀o,I2 b o=none:=fun {k r b} hk hkj hb o=>by
   have h1:=hL.has.foot k r b (by rw[A3,if_neg hkj];exact hk) (by show(V.drop js).f k b;unfold Va.drop;dsimp only;rw[if_neg hkj];exact hb)
   exact h1.2 o
  have h0js:0≠js:=fun e=>by subst e;cases hjs
  have hH1:Has I2 V1 (Aw [R.blk (Jd jo 1 u 0 cs) t,.slc out e sz] 0) w:=by
   refine⟨hmem2,fun k r hk=>?_,fun k r hk=>?_,fun k r b hk hb=>?_,fun k k' r r' b hk hk' hb hb'=>?_⟩
   ·rcases lk1 hk with⟨rfl,-⟩ | ⟨rfl,-⟩<;>show _ < 2<;>omega
   ·rcases lk1 hk with⟨rfl,rfl⟩ | ⟨rfl,rfl⟩
    ·refine⟨hf0,us,hw0,by rw[Gd];exact hcs.1,fun j g x hg hx=>?_⟩
     rw[G0] at hg
     obtain⟨g1,h1,rfl⟩:=Option.map_eq_some_iff.1 hg
     have hu:u (0+j)=x:=by show(us[0+j]?).getD undef=x;rw[Nat.zero_add,hx];rfl
     rw[hu]
     have hc:=hcs.2 j g1 x h1 hx
     cases g1 with
     | v z =>
      have:=C5 hc
      subst this
      exact VRep.v _
     | osl j' =>
      show CRep I2 V1 (bif Nat.beq j' jo then .osl 1 else .v x) x
      cases hb:Nat.beq j' jo with
      | false=>exact VRep.v _
      | true =>
       have:=Nat.eq_of_beq_eq_true hb
       subst this
       exact⟨by show 1 < 2;omega,hc.2⟩
     | _=>exact VRep.v _
    ·obtain⟨q1,rs,q2,q3,q4,q5⟩:=hH.each jo _ hjo
     exact⟨q1,rs,q2,q3,fun i r y hr hy=>(q4 i r y hr hy).mono fun _ _ h=>h.mono hI2,q5⟩
   ·rcases lk1 hk with⟨rfl,rfl⟩ | ⟨rfl,rfl⟩
    ·exact⟨(hH.foot 0 _ b rfl hb).1,notjs (k:=0) rfl h0js hb⟩
    ·exact⟨(hH.foot jo _ b hjo hb).1,notjs hjo (fun e=>hne e.symm) hb⟩
   ·rcases lk1 hk with⟨rfl,rfl⟩ | ⟨rfl,rfl⟩<;>rcases lk1 hk' with⟨rfl,rfl⟩ | ⟨rfl,rfl⟩
    ·rfl
    ·exact absurd (hH.disj 0 jo _ _ b rfl hjo hb hb') (fun e=>hjo0 e.symm)
    ·exact absurd (hH.disj jo 0 _ _ b hjo rfl hb hb') hjo0
    ·rfl
  have hp1:PW (PRep I2 V1) (.ptr 0 0::gs') vs:=by
   subst hgs
   refine⟨by have:=hp.1;simpa using this,fun j g y hg' hy=>?_⟩
   cases j with
   | zero =>
    obtain rfl:G.ptr 0 0=g:=by simpa using hg'
    have h3:=hp.2 0 (.ptr 0 0) y rfl hy
    exact⟨by show 0 < 2;omega,h3.2⟩
   | succ j =>
    have hg2:(gs.map (Z06 ((js,R.froz rows sz2)::Aw (R.blk cs t::rest) 0)))[j]?=some g:=by simpa using hg'
    have h4:=Ac hg g (List.mem_of_getElem? hg2)
    rw[List.getElem?_map] at hg2
    obtain⟨g0,h5,rfl⟩:=Option.map_eq_some_iff.1 hg2
    have h3:=(hp.2 (j+1) g0 y (by simpa using h5) hy).to_t
    have h6:=Z71 hL.has (h3.mono hL.fro.mono hL.va)
    have h7:VRep I2 (Z06 ((js,R.froz rows sz2)::Aw (R.blk cs t::rest) 0) g0) y:=by
     generalize Z06 ((js,R.froz rows sz2)::Aw (R.blk cs t::rest) 0) g0=gg at h4 h6
     cases gg<;>first
      | exact h6
      | cases h4
    exact .of_v h7
  refine((h u).2 I2 V1 w vs hH1 rfl hp1).mono fun e' w' ⟨x,g,rs',I',V',he,hq,hn',hH',hx,hF,hle⟩=>?_
  obtain⟨rfl,rfl⟩:=hq
  have b0:V'.b 0=V.b 0:=(hle.2 0 (by show 0 < 2;omega)).1
  have hI':∀b o,I' b o=none→I b o=none:=fun b o hi=>by
   cases hib:I b o with
   | none=>rfl
   | some y=>have:=hF.mono _ _ _ (hI2 _ _ _ hib);rw[hi] at this;cases this
  have blk1:∀b,b < w.heap.size→¬V.f 0 b→¬V.f jo b→w'.heap[b]?=w.heap[b]?:=fun b hb h0 hj=>(hF.blk b hb fun k r hk hf=>by
   rcases lk1 hk with⟨rfl,-⟩ | ⟨rfl,-⟩
   ·exact h0 hf
   ·exact hj hf).1
  let VB:Va:=⟨rest.length+2,fun k=>if k < V.n then V.b k else V'.b 2,fun k=>if k < V.n then V.s k else V'.s 2,fun k=>if k=0 then V'.f 0 else if k=jo then fun _=>False else if k=rest.length+1 then V'.f 2 else V.f k⟩
  have hleB:V.le VB:=⟨by show V.n≤rest.length+2;omega,fun k hk=>⟨if_pos hk,if_pos hk⟩⟩
  have f0:VB.f 0=V'.f 0:=by show(if(0:Nat)=0 then V'.f 0 else if(0:Nat)=jo then fun _=>False else if(0:Nat)=rest.length+1 then V'.f 2 else V.f 0)=_;rw[if_pos rfl]
  have fj:VB.f jo=fun _=>False:=by show(if jo=0 then V'.f 0 else if jo=jo then fun _=>False else if jo=rest.length+1 then V'.f 2 else V.f jo)=_;rw[if_neg hjo0,if_pos rfl]
  have fn:VB.f (rest.length+1)=V'.f 2:=by show(if rest.length+1=0 then V'.f 0 else if rest.length+1=jo then fun _=>False else if rest.length+1=rest.length+1 then V'.f 2 else V.f (rest.length+1))=_;rw[if_neg (by omega),if_neg (by omega),if_pos rfl]
  have fo:∀k,k≠0→k≠jo→k≠rest.length+1→VB.f k=V.f k:=fun k h1 h2 h3=>by show(if k=0 then V'.f 0 else if k=jo then fun _=>False else if k=rest.length+1 then V'.f 2 else V.f k)=_;rw[if_neg h1,if_neg h2,if_neg h3]
  have lk2:∀{k:Nat} {r:R},look k (Aw (R.blk cs' t::(rest.set (jo - 1) .gone++[.slc out' e sz])) 0)=some r→(k=0∧r=.blk cs' t)∨(k=jo∧r=.gone)∨(k=rest.length+1∧r=.slc out' e sz)∨(k≠0∧k≠jo∧k≠rest.length+1∧look k (Aw (R.blk cs t::rest) 0)=some r):=fun {k r} hk=>by
   rw[Af] at hk⊢
   cases k with
   | zero=>simp at hk;exact .inl ⟨rfl,hk.symm⟩
   | succ k =>
    have hk:(rest.set (jo - 1) .gone++[.slc out' e sz])[k]?=some r:=by simpa using hk
    by_cases hlt:k < rest.length
    ·rw[List.getElem?_append_left (by simpa using hlt),List.getElem?_set] at hk
     split at hk
     ·next e1 =>
      rw[if_pos (by omega)] at hk
      cases hk
      exact .inr (.inl ⟨by omega,rfl⟩)
     ·next e1=>exact .inr (.inr (.inr ⟨by omega,by omega,by omega,by simpa using hk⟩))
    ·rw[List.getElem?_append_right (by simp;omega),List.length_set] at hk
     have hk0:k - rest.length=0:=by
      have:=(List.getElem?_eq_some_iff.1 hk).1
      simp at this;omega
     rw[hk0] at hk
     simp at hk
     exact .inr (.inr (.inl ⟨by omega,hk.symm⟩))
  have old2:∀{b:Nat},(V'.f 0 b∨V'.f 2 b)→b < w.heap.size→V.f 0 b∨V.f jo b:=fun {b} hb hlt=>by
   rcases hb with hb | hb
   ·obtain⟨j,r',hj,hf⟩:=hF.foot 0 _ b rfl hb hlt
    rcases lk1 hj with⟨rfl,-⟩ | ⟨rfl,-⟩
    ·exact .inl hf
    ·exact .inr hf
   ·obtain⟨j,r',hj,hf⟩:=hF.foot 2 _ b rfl hb hlt
    rcases lk1 hj with⟨rfl,-⟩ | ⟨rfl,-⟩
    ·exact .inl hf
    ·exact .inr hf
  have cross:∀{k:Nat} {r:R} {b:Nat},k≠0→k≠jo→look k (Aw (R.blk cs t::rest) 0)=some r→V.f k b→(V'.f 0 b∨V'.f 2 b)→False:=fun {k r b} h1 h2 hk hb h3=>by
   rcases old2 h3 (hH.foot k r b hk hb).1 with h4 | h4
   ·exact h1 (hH.disj k 0 _ _ b hk rfl hb h4)
   ·exact h2 (hH.disj k jo _ _ b hk hjo hb h4)
  refine⟨x,.tup [],_,I,VB,he,⟨rfl,rfl⟩,?_,⟨fun b o y hy=>?_,fun k r hk=>?_,fun k r hk=>?_,fun k r b hk hb=>?_,fun k k' r r' b hk hk' hb hb'=>?_⟩,?_,⟨hF.os,hF.tape,hF.output,hF.size,fun b hb hno=>⟨blk1 b hb (hno 0 _ rfl) (hno jo _ hjo),fun _=>rfl⟩,fun _ _ _ h=>h,fun k r b hk hb hlt=>?_⟩,hleB⟩
  ·show rest.length+2=_
   simp
  ·have h1:=hH.mem b o y hy
   have hlt:=hH.mem.lt hy
   have h2:=blk1 b hlt (fun hf=>by rw[(hH.foot 0 _ b rfl hf).2 o] at hy;cases hy) (fun hf=>by rw[(hH.foot jo _ b hjo hf).2 o] at hy;cases hy)
   unfold World.cell? at h1⊢
   dsimp only at h1⊢
   rw[h2];exact h1
  ·show k < rest.length+2
   rcases lk2 hk with⟨rfl,-⟩ | ⟨rfl,-⟩ | ⟨rfl,-⟩ | ⟨-,-,-,hk⟩
   ·omega
   ·omega
   ·omega
   ·have:=hH.num k r hk;omega
  ·rcases lk2 hk with⟨rfl,rfl⟩ | ⟨rfl,rfl⟩ | ⟨rfl,rfl⟩ | ⟨h1,h2,h3,hk⟩
   ·obtain⟨hf',us',hw',hcs'⟩:=hH'.each 0 _ rfl
    have bB:VB.b 0=V.b 0:=if_pos (by omega)
    refine⟨fun b=>?_,us',by rw[bB,←b0];exact hw',by rw[←hcs'.1,Gd],fun j g y hg' hy=>?_⟩
    ·rw[f0,bB,←b0];exact hf' b
    ·have h1:=hcs'.2 j _ y (by rw[G0,hg'];rfl) hy
     have hlen:j < us.length:=by
      have:=(List.getElem?_eq_some_iff.1 hg').1
      rw[hK.len] at this
      rw[←hcs.1];exact this
     rcases hK.get hg' with h2 | rfl | ⟨hold,hnjo⟩
     ·obtain⟨z,rfl⟩:=Z79 h2
      have h1:CRep I' V' (.v z) y:=h1
      have:=C5 h1
      subst this
      exact VRep.v _
     ·have h1:CRep I' V' (Zae (rest.length+1) 2 (u (0+j)) (.osl (rest.length+1))) y:=h1
      unfold Zae at h1
      dsimp only at h1
      rw[Nat.beq_refl] at h1
      have h1:CRep I' V' (.osl 2) y:=h1
      exact⟨by show rest.length+1 < rest.length+2;omega,by show y=if rest.length+1 < V.n then _ else _;rw[if_neg (by omega)];exact h1.2⟩
     ·have h2:=hcs.2 j g us[j] hold (List.getElem?_eq_getElem hlen)
      have hu:u (0+j)=us[j]:=by show(us[0+j]?).getD undef=_;rw[Nat.zero_add,List.getElem?_eq_getElem hlen];rfl
      rw[hu] at h1
      have:y=us[j]:=by
       cases g with
       | v z =>
        have h3:=C5 (show CRep I' V' (.v z) y from h1)
        have h4:=C5 h2
        rw[h3,h4]
       | osl k =>
        have hkn:k < V.n:=h2.1
        have h1:CRep I' V' (bif Nat.beq k (rest.length+1) then .osl 2 else .v us[j]) y:=h1
        have hb:Nat.beq k (rest.length+1)=false:=by
         cases hb:Nat.beq k (rest.length+1) with
         | false=>rfl
         | true=>have:=Nat.eq_of_beq_eq_true hb;omega
        rw[hb] at h1
        exact C5 h1
       | _=>exact C5 h1
      rw[this]
      exact h2.mono (.refl _) hleB
   ·show ∀c,¬VB.f _ c
    rw[fj];exact fun c hc=>hc
   ·have hs:VB.s (rest.length+1)=V'.s 2:=if_neg (by omega)
    obtain⟨q1,rs,q2,q3,q4,q5⟩:=hH'.each 2 _ rfl
    exact⟨fun b=>by rw[fn,hs];exact q1 b,rs,by rw[hs];exact q2,q3,fun i r y hr hy=>⟨(q4 i r y hr hy).1,fun j g z hg hz=>Sq (hv r (List.mem_of_getElem? hr) g (List.mem_of_getElem? hg)) ((q4 i r y hr hy).2 j g z hg hz)⟩,q5⟩
   ·exact(hH.each k r hk).keep (.refl _) hleB (hH.num k r hk) (fo k h1 h2 h3) hF.os hF.size fun b hb=>blk1 b (hH.foot k r b hk hb).1 (fun hf=>h1 (hH.disj k 0 _ _ b hk rfl hb hf)) (fun hf=>h2 (hH.disj k jo _ _ b hk hjo hb hf))
  ·rcases lk2 hk with⟨rfl,rfl⟩ | ⟨rfl,rfl⟩ | ⟨rfl,rfl⟩ | ⟨h1,h2,h3,hk⟩
   ·rw[f0] at hb
    have h4:=hH'.foot 0 _ b rfl hb
    exact⟨h4.1,fun o=>hI' b o (h4.2 o)⟩
   ·rw[fj] at hb;exact hb.elim
   ·rw[fn] at hb
    have h4:=hH'.foot 2 _ b rfl hb
    exact⟨h4.1,fun o=>hI' b o (h4.2 o)⟩
   ·rw[fo k h1 h2 h3] at hb
    have h4:=hH.foot k r b hk hb
    exact⟨Nat.lt_of_lt_of_le h4.1 hF.size,h4.2⟩
  ·rcases lk2 hk with⟨rfl,rfl⟩ | ⟨rfl,rfl⟩ | ⟨rfl,rfl⟩ | ⟨h1,h2,h3,hk⟩<;>rcases lk2 hk' with⟨rfl,rfl⟩ | ⟨rfl,rfl⟩ | ⟨rfl,rfl⟩ | ⟨h1',h2',h3',hk'⟩
   ·rfl
   ·rw[fj] at hb';exact hb'.elim
   ·rw[f0] at hb
    rw[fn] at hb'
    have:=hH'.disj 0 2 _ _ b rfl rfl hb hb'
    omega
   ·rw[f0] at hb
    rw[fo k' h1' h2' h3'] at hb'
    exact(cross h1' h2' hk' hb' (.inl hb)).elim
   ·rw[fj] at hb;exact hb.elim
   ·rfl
   ·rw[fj] at hb;exact hb.elim
   ·rw[fj] at hb;exact hb.elim
   ·rw[fn] at hb
    rw[f0] at hb'
    have:=hH'.disj 2 0 _ _ b rfl rfl hb hb'
    omega
   ·rw[fj] at hb';exact hb'.elim
   ·rfl
   ·rw[fn] at hb
    rw[fo k' h1' h2' h3'] at hb'
    exact(cross h1' h2' hk' hb' (.inr hb)).elim
   ·rw[fo k h1 h2 h3] at hb
    rw[f0] at hb'
    exact(cross h1 h2 hk hb (.inl hb')).elim
   ·rw[fj] at hb';exact hb'.elim
   ·rw[fo k h1 h2 h3] at hb
    rw[fn] at hb'
    exact(cross h1 h2 hk hb (.inr hb')).elim
   ·rw[fo k h1 h2 h3] at hb
    rw[fo k' h1' h2' h3'] at hb'
    exact hH.disj k k' r r' b hk hk' hb hb'
  ·obtain⟨cs0,e0,hp0⟩:=hx
   exact⟨cs0,e0,hp0.1,fun j g y hg hy=>by simp at hg⟩
  ·rcases lk2 hk with⟨rfl,rfl⟩ | ⟨rfl,rfl⟩ | ⟨rfl,rfl⟩ | ⟨h1,h2,h3,hk⟩
   ·rw[f0] at hb
    rcases old2 (.inl hb) hlt with h4 | h4
    ·exact⟨0,_,rfl,h4⟩
    ·exact⟨jo,_,hjo,h4⟩
   ·rw[fj] at hb;exact hb.elim
   ·rw[fn] at hb
    rcases old2 (.inr hb) hlt with h4 | h4
    ·exact⟨0,_,rfl,h4⟩
    ·exact⟨jo,_,hjo,h4⟩
   ·rw[fo k h1 h2 h3] at hb
    exact⟨k,r,hk,hb⟩⟩
end Go.Proofs.YtihfaocdpmmooaaGreat
namespace Go.Proofs.YtihfaocdpmmooaaGreat
open Go.RowKit
theorem FnO.peekZ {P:Program}{f:FuncId}{gs gs':List G}{cs cs':List G}{t:Nat}{rest:List R}{jo e sz:Nat}{out out':List (List G)}
  (hjo:look jo (Aw (R.blk cs t::rest) 0)=some (.slc out e sz))
  (hK:KeepS jo (rest.length+1) cs cs') (hgs:gs=gs') (hg:Ar Q1 gs'=true) (hv:∀r∈out',∀g∈r,Fy g=true)
  (h:∀u,FnO P f (.ptr 0 0::gs') [.blk (Jd jo 1 u 0 cs) t,.slc out e sz] fun g rs=>g=.tup []∧rs=[.blk (Jd (rest.length+1) 2 u 0 cs') t,.gone,.slc out' e sz]) :
  FnO P f (.ptr 0 0::gs) (.blk cs t::rest) fun g rs=>g=.tup []∧rs=.blk cs' t::(rest.set (jo - 1) .gone++[.slc out' e sz]) :=
 ⟨(h fun _=>undef).1,fun I V w vs hH hn hp=>by
  have hjo0:jo≠0:=fun e=>by subst e;cases hjo
  have hjon:=hH.num jo _ hjo
  have hVn:V.n=rest.length+1:=hn
  obtain⟨hf0,us,hw0,hcs⟩:=hH.each 0 _ rfl
  have hI2:∀b o x,I b o=some x→I b o=some x:=fun _ _ _ h=>h
  let u:Nat→Value:=fun j=>(us[j]?).getD undef
  let V1:Va:=⟨2,fun k=>if k=0 then V.b 0 else V.b jo,fun k=>if k=0 then V.s 0 else V.s jo,fun k=>if k=0 then V.f 0 else V.f jo⟩
  have lk1:∀{cs:List G} {o:List (List G)} {k:Nat} {r:R},look k (Aw [R.blk cs t,.slc o e sz] 0)=some r→(k=0∧r=.blk cs t)∨(k=1∧r=.slc o e sz):=fun {cs o k r} hk=>by
   rw[Af] at hk
   rcases k with _ | _ | k
   ·simp at hk;exact .inl ⟨rfl,hk.symm⟩
   ·simp at hk;exact .inr ⟨rfl,hk.symm⟩
   ·simp at hk
  have hmem2:Mem I w:=hH.mem
  have notjs:∀{k:Nat} {r:R} {b:Nat},look k (Aw (R.blk cs t::rest) 0)=some r→V.f k b→∀o,I b o=none:=fun {k r b} hk hb o=>(hH.foot k r b hk hb).2 o
  have hH1:Has I V1 (Aw [R.blk (Jd jo 1 u 0 cs) t,.slc out e sz] 0) w:=by
   refine⟨hmem2,fun k r hk=>?_,fun k r hk=>?_,fun k r b hk hb=>?_,fun k k' r r' b hk hk' hb hb'=>?_⟩
   ·rcases lk1 hk with⟨rfl,-⟩ | ⟨rfl,-⟩<;>show _ < 2<;>omega
   ·rcases lk1 hk with⟨rfl,rfl⟩ | ⟨rfl,rfl⟩
    ·refine⟨hf0,us,hw0,by rw[Gd];exact hcs.1,fun j g x hg hx=>?_⟩
     rw[G0] at hg
     obtain⟨g1,h1,rfl⟩:=Option.map_eq_some_iff.1 hg
     have hu:u (0+j)=x:=by show(us[0+j]?).getD undef=x;rw[Nat.zero_add,hx];rfl
     rw[hu]
     have hc:=hcs.2 j g1 x h1 hx
     cases g1 with
     | v z =>
      have:=C5 hc
      subst this
      exact VRep.v _
     | osl j' =>
      show CRep I V1 (bif Nat.beq j' jo then .osl 1 else .v x) x
      cases hb:Nat.beq j' jo with
      | false=>exact VRep.v _
      | true =>
       have:=Nat.eq_of_beq_eq_true hb
       subst this
       exact⟨by show 1 < 2;omega,hc.2⟩
     | _=>exact VRep.v _
    ·obtain⟨q1,rs,q2,q3,q4,q5⟩:=hH.each jo _ hjo
     exact⟨q1,rs,q2,q3,fun i r y hr hy=>(q4 i r y hr hy).mono fun _ _ h=>h.mono hI2,q5⟩
   ·rcases lk1 hk with⟨rfl,rfl⟩ | ⟨rfl,rfl⟩
    ·exact⟨(hH.foot 0 _ b rfl hb).1,notjs (k:=0) rfl hb⟩
    ·exact⟨(hH.foot jo _ b hjo hb).1,notjs hjo hb⟩
   ·rcases lk1 hk with⟨rfl,rfl⟩ | ⟨rfl,rfl⟩<;>rcases lk1 hk' with⟨rfl,rfl⟩ | ⟨rfl,rfl⟩
    ·rfl
    ·exact absurd (hH.disj 0 jo _ _ b rfl hjo hb hb') (fun e=>hjo0 e.symm)
    ·exact absurd (hH.disj jo 0 _ _ b hjo rfl hb hb') hjo0
    ·rfl
  have hp1:PW (PRep I V1) (.ptr 0 0::gs') vs:=by
   subst hgs
   refine⟨by have:=hp.1;simpa using this,fun j g y hg' hy=>?_⟩
   cases j with
   | zero =>
    obtain rfl:G.ptr 0 0=g:=by simpa using hg'
    have h3:=hp.2 0 (.ptr 0 0) y rfl hy
    exact⟨by show 0 < 2;omega,h3.2⟩
   | succ j =>
    have hg2:gs[j]?=some g:=by simpa using hg'
    have h4:=Ac hg g (List.mem_of_getElem? hg2)
    have h3:=(hp.2 (j+1) g y (by simpa using hg2) hy).to_t
    have h7:VRep I g y:=by
     generalize g=gg at h3 h4
     cases gg<;>first
      | exact h3
      | cases h4
    exact .of_v h7
  refine((h u).2 I V1 w vs hH1 rfl hp1).mono fun e' w' ⟨x,g,rs',I',V',he,hq,hn',hH',hx,hF,hle⟩=>?_
  obtain⟨rfl,rfl⟩:=hq
  have b0:V'.b 0=V.b 0:=(hle.2 0 (by show 0 < 2;omega)).1
  have hI':∀b o,I' b o=none→I b o=none:=fun b o hi=>by
   cases hib:I b o with
   | none=>rfl
   | some y=>have:=hF.mono _ _ _ hib;rw[hi] at this;cases this
  have blk1:∀b,b < w.heap.size→¬V.f 0 b→¬V.f jo b→w'.heap[b]?=w.heap[b]?:=fun b hb h0 hj=>(hF.blk b hb fun k r hk hf=>by
   rcases lk1 hk with⟨rfl,-⟩ | ⟨rfl,-⟩
   ·exact h0 hf
   ·exact hj hf).1
  let VB:Va:=⟨rest.length+2,fun k=>if k < V.n then V.b k else V'.b 2,fun k=>if k < V.n then V.s k else V'.s 2,fun k=>if k=0 then V'.f 0 else if k=jo then fun _=>False else if k=rest.length+1 then V'.f 2 else V.f k⟩
  have hleB:V.le VB:=⟨by show V.n≤rest.length+2;omega,fun k hk=>⟨if_pos hk,if_pos hk⟩⟩
  have f0:VB.f 0=V'.f 0:=by show(if(0:Nat)=0 then V'.f 0 else if(0:Nat)=jo then fun _=>False else if(0:Nat)=rest.length+1 then V'.f 2 else V.f 0)=_;rw[if_pos rfl]
  have fj:VB.f jo=fun _=>False:=by show(if jo=0 then V'.f 0 else if jo=jo then fun _=>False else if jo=rest.length+1 then V'.f 2 else V.f jo)=_;rw[if_neg hjo0,if_pos rfl]
  have fn:VB.f (rest.length+1)=V'.f 2:=by show(if rest.length+1=0 then V'.f 0 else if rest.length+1=jo then fun _=>False else if rest.length+1=rest.length+1 then V'.f 2 else V.f (rest.length+1))=_;rw[if_neg (by omega),if_neg (by omega),if_pos rfl]
  have fo:∀k,k≠0→k≠jo→k≠rest.length+1→VB.f k=V.f k:=fun k h1 h2 h3=>by show(if k=0 then V'.f 0 else if k=jo then fun _=>False else if k=rest.length+1 then V'.f 2 else V.f k)=_;rw[if_neg h1,if_neg h2,if_neg h3]
  have lk2:∀{k:Nat} {r:R},look k (Aw (R.blk cs' t::(rest.set (jo - 1) .gone++[.slc out' e sz])) 0)=some r→(k=0∧r=.blk cs' t)∨(k=jo∧r=.gone)∨(k=rest.length+1∧r=.slc out' e sz)∨(k≠0∧k≠jo∧k≠rest.length+1∧look k (Aw (R.blk cs t::rest) 0)=some r):=fun {k r} hk=>by
   rw[Af] at hk⊢
   cases k with
   | zero=>simp at hk;exact .inl ⟨rfl,hk.symm⟩
   | succ k =>
    have hk:(rest.set (jo - 1) .gone++[.slc out' e sz])[k]?=some r:=by simpa using hk
    by_cases hlt:k < rest.length
    ·rw[List.getElem?_append_left (by simpa using hlt),List.getElem?_set] at hk
     split at hk
     ·next e1 =>
      rw[if_pos (by omega)] at hk
      cases hk
      exact .inr (.inl ⟨by omega,rfl⟩)
     ·next e1=>exact .inr (.inr (.inr ⟨by omega,by omega,by omega,by simpa using hk⟩))
    ·rw[List.getElem?_append_right (by simp;omega),List.length_set] at hk
     have hk0:k - rest.length=0:=by
      have:=(List.getElem?_eq_some_iff.1 hk).1
      simp at this;omega
     rw[hk0] at hk
     simp at hk
     exact .inr (.inr (.inl ⟨by omega,hk.symm⟩))
  have old2:∀{b:Nat},(V'.f 0 b∨V'.f 2 b)→b < w.heap.size→V.f 0 b∨V.f jo b:=fun {b} hb hlt=>by
   rcases hb with hb | hb
   ·obtain⟨j,r',hj,hf⟩:=hF.foot 0 _ b rfl hb hlt
    rcases lk1 hj with⟨rfl,-⟩ | ⟨rfl,-⟩
    ·exact .inl hf
    ·exact .inr hf
   ·obtain⟨j,r',hj,hf⟩:=hF.foot 2 _ b rfl hb hlt
    rcases lk1 hj with⟨rfl,-⟩ | ⟨rfl,-⟩
    ·exact .inl hf
    ·exact .inr hf
  have cross:∀{k:Nat} {r:R} {b:Nat},k≠0→k≠jo→look k (Aw (R.blk cs t::rest) 0)=some r→V.f k b→(V'.f 0 b∨V'.f 2 b)→False:=fun {k r b} h1 h2 hk hb h3=>by
   rcases old2 h3 (hH.foot k r b hk hb).1 with h4 | h4
   ·exact h1 (hH.disj k 0 _ _ b hk rfl hb h4)
   ·exact h2 (hH.disj k jo _ _ b hk hjo hb h4)
  refine⟨x,.tup [],_,I,VB,he,⟨rfl,rfl⟩,?_,⟨fun b o y hy=>?_,fun k r hk=>?_,fun k r hk=>?_,fun k r b hk hb=>?_,fun k k' r r' b hk hk' hb hb'=>?_⟩,?_,⟨hF.os,hF.tape,hF.output,hF.size,fun b hb hno=>⟨blk1 b hb (hno 0 _ rfl) (hno jo _ hjo),fun _=>rfl⟩,fun _ _ _ h=>h,fun k r b hk hb hlt=>?_⟩,hleB⟩
  ·show rest.length+2=_
   simp
  ·have h1:=hH.mem b o y hy
   have hlt:=hH.mem.lt hy
   have h2:=blk1 b hlt (fun hf=>by rw[(hH.foot 0 _ b rfl hf).2 o] at hy;cases hy) (fun hf=>by rw[(hH.foot jo _ b hjo hf).2 o] at hy;cases hy)
   unfold World.cell? at h1⊢
   dsimp only at h1⊢
   rw[h2];exact h1
  ·show k < rest.length+2
   rcases lk2 hk with⟨rfl,-⟩ | ⟨rfl,-⟩ | ⟨rfl,-⟩ | ⟨-,-,-,hk⟩
   ·omega
   ·omega
   ·omega
   ·have:=hH.num k r hk;omega
  ·rcases lk2 hk with⟨rfl,rfl⟩ | ⟨rfl,rfl⟩ | ⟨rfl,rfl⟩ | ⟨h1,h2,h3,hk⟩
   ·obtain⟨hf',us',hw',hcs'⟩:=hH'.each 0 _ rfl
    have bB:VB.b 0=V.b 0:=if_pos (by omega)
    refine⟨fun b=>?_,us',by rw[bB,←b0];exact hw',by rw[←hcs'.1,Gd],fun j g y hg' hy=>?_⟩
    ·rw[f0,bB,←b0];exact hf' b
    ·have h1:=hcs'.2 j _ y (by rw[G0,hg'];rfl) hy
     have hlen:j < us.length:=by
      have:=(List.getElem?_eq_some_iff.1 hg').1
      rw[hK.len] at this
      rw[←hcs.1];exact this
     rcases hK.get hg' with h2 | rfl | ⟨hold,hnjo⟩
     ·obtain⟨z,rfl⟩:=Z79 h2
      have h1:CRep I' V' (.v z) y:=h1
      have:=C5 h1
      subst this
      exact VRep.v _
     ·have h1:CRep I' V' (Zae (rest.length+1) 2 (u (0+j)) (.osl (rest.length+1))) y:=h1
      unfold Zae at h1
      dsimp only at h1
      rw[Nat.beq_refl] at h1
      have h1:CRep I' V' (.osl 2) y:=h1
      exact⟨by show rest.length+1 < rest.length+2;omega,by show y=if rest.length+1 < V.n then _ else _;rw[if_neg (by omega)];exact h1.2⟩
     ·have h2:=hcs.2 j g us[j] hold (List.getElem?_eq_getElem hlen)
      have hu:u (0+j)=us[j]:=by show(us[0+j]?).getD undef=_;rw[Nat.zero_add,List.getElem?_eq_getElem hlen];rfl
      rw[hu] at h1
      have:y=us[j]:=by
       cases g with
       | v z =>
        have h3:=C5 (show CRep I' V' (.v z) y from h1)
        have h4:=C5 h2
        rw[h3,h4]
       | osl k =>
        have hkn:k < V.n:=h2.1
        have h1:CRep I' V' (bif Nat.beq k (rest.length+1) then .osl 2 else .v us[j]) y:=h1
        have hb:Nat.beq k (rest.length+1)=false:=by
         cases hb:Nat.beq k (rest.length+1) with
         | false=>rfl
         | true=>have:=Nat.eq_of_beq_eq_true hb;omega
        rw[hb] at h1
        exact C5 h1
       | _=>exact C5 h1
      rw[this]
      exact h2.mono (.refl _) hleB
   ·show ∀c,¬VB.f _ c
    rw[fj];exact fun c hc=>hc
   ·have hs:VB.s (rest.length+1)=V'.s 2:=if_neg (by omega)
    obtain⟨q1,rs,q2,q3,q4,q5⟩:=hH'.each 2 _ rfl
    exact⟨fun b=>by rw[fn,hs];exact q1 b,rs,by rw[hs];exact q2,q3,fun i r y hr hy=>⟨(q4 i r y hr hy).1,fun j g z hg hz=>Sq (hv r (List.mem_of_getElem? hr) g (List.mem_of_getElem? hg)) ((q4 i r y hr hy).2 j g z hg hz)⟩,q5⟩
   ·exact(hH.each k r hk).keep (.refl _) hleB (hH.num k r hk) (fo k h1 h2 h3) hF.os hF.size fun b hb=>blk1 b (hH.foot k r b hk hb).1 (fun hf=>h1 (hH.disj k 0 _ _ b hk rfl hb hf)) (fun hf=>h2 (hH.disj k jo _ _ b hk hjo hb hf))
  ·rcases lk2 hk with⟨rfl,rfl⟩ | ⟨rfl,rfl⟩ | ⟨rfl,rfl⟩ | ⟨h1,h2,h3,hk⟩
   ·rw[f0] at hb
    have h4:=hH'.foot 0 _ b rfl hb
    exact⟨h4.1,fun o=>hI' b o (h4.2 o)⟩
   ·rw[fj] at hb;exact hb.elim
   ·rw[fn] at hb
    have h4:=hH'.foot 2 _ b rfl hb
    exact⟨h4.1,fun o=>hI' b o (h4.2 o)⟩
   ·rw[fo k h1 h2 h3] at hb
    have h4:=hH.foot k r b hk hb
    exact⟨Nat.lt_of_lt_of_le h4.1 hF.size,h4.2⟩
  ·rcases lk2 hk with⟨rfl,rfl⟩ | ⟨rfl,rfl⟩ | ⟨rfl,rfl⟩ | ⟨h1,h2,h3,hk⟩<;>rcases lk2 hk' with⟨rfl,rfl⟩ | ⟨rfl,rfl⟩ | ⟨rfl,rfl⟩ | ⟨h1',h2',h3',hk'⟩
   ·rfl
   ·rw[fj] at hb';exact hb'.elim
   ·rw[f0] at hb
    rw[fn] at hb'
    have:=hH'.disj 0 2 _ _ b rfl rfl hb hb'
    omega
   ·rw[f0] at hb
    rw[fo k' h1' h2' h3'] at hb'
    exact(cross h1' h2' hk' hb' (.inl hb)).elim
   ·rw[fj] at hb;exact hb.elim
   ·rfl
   ·rw[fj] at hb;exact hb.elim
   ·rw[fj] at hb;exact hb.elim
   ·rw[fn] at hb
    rw[f0] at hb'
    have:=hH'.disj 2 0 _ _ b rfl rfl hb hb'
    omega
   ·rw[fj] at hb';exact hb'.elim
   ·rfl
   ·rw[fn] at hb
    rw[fo k' h1' h2' h3'] at hb'
    exact(cross h1' h2' hk' hb' (.inr hb)).elim
   ·rw[fo k h1 h2 h3] at hb
    rw[f0] at hb'
    exact(cross h1 h2 hk hb (.inl hb')).elim
   ·rw[fj] at hb';exact hb'.elim
   ·rw[fo k h1 h2 h3] at hb
    rw[fn] at hb'
    exact(cross h1 h2 hk hb (.inr hb')).elim
   ·rw[fo k h1 h2 h3] at hb
    rw[fo k' h1' h2' h3'] at hb'
    exact hH.disj k k' r r' b hk hk' hb hb'
  ·obtain⟨cs0,e0,hp0⟩:=hx
   exact⟨cs0,e0,hp0.1,fun j g y hg hy=>by simp at hg⟩
  ·rcases lk2 hk with⟨rfl,rfl⟩ | ⟨rfl,rfl⟩ | ⟨rfl,rfl⟩ | ⟨h1,h2,h3,hk⟩
   ·rw[f0] at hb
    rcases old2 (.inl hb) hlt with h4 | h4
    ·exact⟨0,_,rfl,h4⟩
    ·exact⟨jo,_,hjo,h4⟩
   ·rw[fj] at hb;exact hb.elim
   ·rw[fn] at hb
    rcases old2 (.inr hb) hlt with h4 | h4
    ·exact⟨0,_,rfl,h4⟩
    ·exact⟨jo,_,hjo,h4⟩
   ·rw[fo k h1 h2 h3] at hb
    exact⟨k,r,hk,hb⟩⟩
end Go.Proofs.YtihfaocdpmmooaaGreat
namespace Go.Proofs.YtihfaocdpmmooaaGreat
open Go.RowKit
def Ma:G→G
 | .tt=>.v (.bool true)
 | .ff=>.v (.bool false)
 | .nl=>.sl []
 | g=>g
theorem Mg {I:Imm}{V:Va}{g:G}{x:Value}(h:CRep I V g x):CRep I V (Ma g) x:=by
 cases g with
 | tt =>
  have h:VRep I .tt x:=h
  cases h
  exact VRep.v _
 | ff =>
  have h:VRep I .ff x:=h
  cases h
  exact VRep.v _
 | nl =>
  have h:VRep I .nl x:=h
  cases h
  exact VRep.sl (I:=I) [] none 0 0 (fun _ _=>undef) (Nat.le_refl _) (fun _=>rfl) (fun r hr=>by cases hr) (fun i r h=>by simp at h) (fun i r j g h=>by simp at h)
 | _=>exact h
theorem FnO.seenE {P:Program}{f:FuncId}{gs cs cs':List G}{t:TypeId}{rs:List R}{Q:G→List R→Prop}(hc:cs.map Ma=cs')(h:FnO P f gs (.blk cs' t::rs) Q):FnO P f gs (.blk cs t::rs) Q:=by
 subst hc
 have hl:∀k,k≠0→look k (Aw (R.blk (cs.map Ma) t::rs) 0)=look k (Aw (R.blk cs t::rs) 0):=fun k hk=>by
  cases k with
  | zero=>exact absurd rfl hk
  | succ k=>rfl
 have l0:∀(c:List G),look 0 (Aw (R.blk c t::rs) 0)=some (.blk c t):=fun c=>rfl
 have ex:∀{c c':List G} {k:Nat} {r:R},(c=cs∧c'=cs.map Ma∨c=cs.map Ma∧c'=cs)→look k (Aw (R.blk c t::rs) 0)=some r→∃r',look k (Aw (R.blk c' t::rs) 0)=some r':=fun {c c' k r} hc hk=>by
  by_cases h0:k=0
  ·subst h0;exact⟨_,l0 c'⟩
  ·rcases hc with⟨rfl,rfl⟩ | ⟨rfl,rfl⟩
   ·exact⟨r,by rw[hl k h0];exact hk⟩
   ·exact⟨r,by rw[←hl k h0];exact hk⟩
 refine⟨h.1,fun I V w vs hH hn hp=>?_⟩
 have hH':Has I V (Aw (R.blk (cs.map Ma) t::rs) 0) w:=by
  refine⟨hH.mem,fun k r hk=>?_,fun k r hk=>?_,fun k r b hk hb=>?_,fun k k' r r' b hk hk' hb hb'=>?_⟩
  ·obtain⟨r',hr⟩:=ex (.inr ⟨rfl,rfl⟩) hk
   exact hH.num k r' hr
  ·by_cases h0:k=0
   ·subst h0
    rw[l0] at hk
    obtain rfl:=Option.some.inj hk
    obtain⟨h1,us,h2,h3,h4⟩:=hH.each 0 _ (l0 cs)
    refine⟨h1,us,h2,by rw[List.length_map];exact h3,fun j g u hg hu=>?_⟩
    rw[List.getElem?_map] at hg
    obtain⟨g0,hg0,rfl⟩:=Option.map_eq_some_iff.1 hg
    exact Mg (h4 j g0 u hg0 hu)
   ·rw[hl k h0] at hk
    exact hH.each k r hk
  ·obtain⟨r',hr⟩:=ex (.inr ⟨rfl,rfl⟩) hk
   exact hH.foot k r' b hr hb
  ·obtain⟨q,hr⟩:=ex (.inr ⟨rfl,rfl⟩) hk
   obtain⟨q',hr'⟩:=ex (.inr ⟨rfl,rfl⟩) hk'
   exact hH.disj k k' q q' b hr hr' hb hb'
 refine(h.2 I V w vs hH' hn hp).mono fun e w' hx=>?_
 obtain⟨x,g,rs',I',V',he,hq,hn',hh,hpr,hf,hle⟩:=hx
 refine⟨x,g,rs',I',V',he,hq,hn',hh,hpr,⟨hf.os,hf.tape,hf.output,hf.size,fun b hb hb2=>hf.blk b hb fun k r hk=>?_,hf.mono,fun k r b hk hb hb2=>?_⟩,hle⟩
 ·obtain⟨r',hr⟩:=ex (.inr ⟨rfl,rfl⟩) hk
  exact hb2 k r' hr
 ·obtain⟨j,r',hj,hfj⟩:=hf.foot k r b hk hb hb2
  obtain⟨q,hq'⟩:=ex (.inr ⟨rfl,rfl⟩) hj
  exact⟨j,q,hq',hfj⟩
end Go.Proofs.YtihfaocdpmmooaaGreat
namespace Go.Proofs.YtihfaocdpmmooaaGreat
open Go.RowKit
def Nm:Code→Bool
 | .skip=>true
 | .ret=>true
 | .seq a b=>Nm a&&Nm b
 | .cond _ a b=>Nm a&&Nm b
 | .region _ _ _=>true
 | _=>false
section
variable {P:Program} {tb:List (Nat × TI)} {N:Nat}
theorem Zdb (hT:∀t i,look t tb=some i→TIok P t i)(hm:P.follows .mixedOrders=true):∀{c:Code},Nm c=true→E5 tb N c=true→∀{t:Ts} {own:Os} {I:Imm} {V:Va} {a:Act} {w:World} {K:KC} {Q:Exit→Act→World→Prop},sxC P tb c t own V.n K→Has I V own w→ARep N I V a t→(∀ch d v a w,Q (.panic ch) (a.put d v) w→Q (.panic ch) a w)→(∀e t own' I' V' a' w',K e t own' V'.n→Later own I V w own' I' V' w'→ARep N I' V' a' t→Q e.to a' w')→c.wp P Q a w:=by
 intro c
 induction c with
 | skip=>intro _ _ t own I V a w K Q h hH ha _ hK;exact wp_skip (hK .normal _ _ _ _ _ _ h (.refl hH) ha)
 | ret=>intro _ _ t own I V a w K Q h hH ha _ hK;exact wp_ret (hK .ret _ _ _ _ _ _ h (.refl hH) ha)
 | seq x y ihx ihy =>
  intro hf hc t own I V a w K Q h hH ha hQ hK
  simp only[E5,Bool.and_eq_true] at hc
  simp only[Nm,Bool.and_eq_true] at hf
  have h:T8 x y (sxM P tb x true) (sxM P tb y true) t own V.n K:=h
  unfold T8 at h
  refine wp_seq (ihx hf.1 hc.1 h hH ha (fun ch d v a w=>hQ ch d v a w) fun e t own1 I1 V1 a w1 hk hl ha=>?_)
  cases e with
  | normal=>exact ihy hf.2 hc.2 hk hl.has ha hQ fun e t own2 I2 V2 a w2 hk hl2 ha=>hK e _ _ _ _ _ _ hk (hl.trans hl2) ha
  | exit id=>exact hK (.exit id) _ _ _ _ _ _ hk hl ha
  | ret=>exact hK .ret _ _ _ _ _ _ hk hl ha
  | goto l=>exact hK (.goto l) _ _ _ _ _ _ hk hl ha
 | cond c x y ihx ihy =>
  intro hf hc t own I V a w K Q h hH ha hQ hK
  simp only[E5,Bool.and_eq_true] at hc
  simp only[Nm,Bool.and_eq_true] at hf
  have h:Qf c x y (sxM P tb x true) (sxM P tb y true) t own V.n K:=h
  unfold Qf at h
  obtain⟨g,h,hg⟩:=Av h ha hH
  cases g with
  | tt=>exact wp_cond_true (by generalize a.eval c=z at hg;cases(show VRep I .tt z from hg);rfl) (ihx hf.1 hc.1 h hH ha hQ hK)
  | ff=>exact wp_cond_false (by generalize a.eval c=z at hg;cases(show VRep I .ff z from hg);rfl) (ihy hf.2 hc.2 h hH ha hQ hK)
  | v z =>
   have e:=Ap hg
   cases z with
   | bool b=>exact wp_cond_split e (fun hb=>ihx hf.1 hc.1 (h.1 hb) hH ha hQ hK) (fun hb=>ihy hf.2 hc.2 (h.2 hb) hH ha hQ hK)
   | _=>exact h.elim
  | _=>exact h.elim
 | region id ops dr =>
  intro _ hc t own I V a w K Q h hH ha hQ hK
  simp only[E5,Bool.and_eq_true] at hc
  have hd:∀o∈ops.toList,∀i,o.dst=some i→i < N:=fun o ho i hi=>by
   have:=List.all_eq_true.1 hc.1 o ho
   rw[hi] at this
   exact Nat.le_of_ble_eq_true this
  have h:Z2e P tb id ops dr t own V.n K:=h
  unfold Z2e at h
  have nx:Nxt N own I V w (K .normal) (fun a w=>Q .normal a w):=fun t own1 I1 V1 a w1 hk hl ha=>hK .normal _ _ _ _ _ _ hk hl.later ha
  cases dr with
  | false=>exact wp_region_list (Ud hT nx h (Later.refl hH).since ha hd)
  | true =>
   have hc2:=hc.2
   simp only[Bool.and_eq_true] at hc2
   have hHd:Has I V own w.drew:=hH.heap rfl rfl
   have hL2:Since own I V w own I V w.drew:=⟨hHd,⟨rfl,rfl,rfl,Nat.le_refl _,fun _ _ _=>⟨rfl,fun _=>rfl⟩,fun _ _ _ h=>h,fun k r b e hb _=>⟨k,r,e,hb⟩⟩,Nat.le_refl _,fun _ _=>rfl,fun _ _=>rfl⟩
   have hn:=Z63 ops.toList
   obtain⟨od,hord⟩:=Z12 (tb:=tb) ops.toList ops.toList 0
   obtain⟨late,hlate⟩:=W5 (tb:=tb) od ops.toList ops.toList 0
   obtain⟨XL,hXL,hvol⟩:=Yo (tb:=tb) hH ha late ops.toList ops.toList 0 [] (fun k hk=>by simp at hk)
   have h:Z4p tb ops.toList ops.toList 0 fun od=>Ld tb od ops.toList ops.toList 0 fun late=>Vv tb late t own ops.toList ops.toList 0 [] fun XL=>trK own 3 XL fun XL=>sxD P tb XL od late ops.toList ops.toList (noB ops.toList) t own V.n (K .normal):=h
   rw[hord,hlate] at hc2
   obtain⟨XL2,hXL2,htr⟩:=Z18 hH 3 XL hXL
   have htr:∀K:List Nat→Prop,trK own 3 XL K=K XL2:=htr
   rw[hord,hlate,hvol,htr] at h
   refine Lu hm (late:=late) (S:=Agree V XL2 w.drew) ?_
   have:=Qq (fu:=ops.toList) (l:=noB ops.toList) hT hQ hc2.1 hd nx (by rw[hn.2];simp) (by rw[hn.1];exact Gb _ (by simp)) hc2.2 h hL2 ha hXL2
   rw[hn.1] at this
   simpa using this
 | _=>intro hf;cases hf
def Zal (rs:List R)(own:Os)(g:G)(Q:G→Prop):Prop:=Ii g=true∧leI [] own rs.length (Aw rs 0)∧Q g
def Z6d (tt:List (Nat × TI))(fn:Func)(rs:List R)(Q:G→Prop):KC:=fun e t w _=>match e with
 | .exit _=>False
 | .goto _=>False
 | _=>match fn.results.toList with
  | [r]=>La tt t w [r] fun gs own=>match gs with
   | [g]=>Zal rs own g Q
   | _=>False
  | rs1=>La tt t w rs1 fun gs own=>Zal rs own (.tup gs) Q
theorem Z41 (hT:∀t i,look t tb=some i→TIok P t i)(hm:P.follows .mixedOrders=true){f:FuncId}{fn:Func}{c:Code}{gs:List G}{rs:List R}{Q:G→Prop}(hf:P.funcs[f]?=some fn)(hname:(fn.name=="runtime.NumGoroutine")=false) (hb:fn.body=some c) (hn:gs.length≤fn.ntmps) (hc:E5 tb fn.ntmps c=true) (hfl:Nm c=true)
  (h:sxC P tb c (Jj 0 gs) (Aw rs 0) rs.length (Z6d tb fn rs Q)):FnO P f gs rs fun g rs'=>Q g∧rs'=rs:=by
 refine⟨⟨fn,hf,hname,by rw[hb];rfl⟩,fun I V w vs hH hVn hp=>?_⟩
 have hp2:PW (TRep I V) gs vs:=hp.mono fun _ _ h=>h.to_t
 refine calls_of_wp hf hb ?_
 have hlen:vs.length=gs.length:=hp2.1.symm
 have ha:ARep fn.ntmps I V {tmps:=vs.toArray++Array.replicate (fn.ntmps - vs.toArray.size) undef,defers:=[]} (Jj 0 gs):=by
  refine⟨rfl,by simp;omega,fun i g hg=>?_⟩
  obtain⟨j,e,hj⟩:=Gt hg
  obtain rfl:i=j:=by omega
  obtain⟨u,hu,hr⟩:=hp2.get hj
  refine⟨u,?_,hr⟩
  have hi:=(List.getElem?_eq_some_iff.1 hu).1
  show(vs.toArray++_)[i]?=_
  rw[Array.getElem?_append_left (by simpa using hi)]
  simpa using hu
 rw[←hVn] at h
 refine Zdb hT hm hfl hc h hH ha (fun ch d v a w hq=>?_) fun e t own I1 V1 a w1 hk hS hA=>?_
 ·cases d<;>exact hq
 ·have key:(∀id,e≠.exit id)→bodyPost P fn (fun e w'=>∃x g rs' I' V',e=.returned x∧(Q g∧rs'=rs)∧V'.n=rs'.length∧Has I' V' (Aw rs' 0) w'∧PRes I' V' g x∧Fro (Aw rs 0) I V w (Aw rs' 0) I' V' w'∧V.le V') .ret a w1:=fun he=>by
   refine⟨hA.defers,?_⟩
   have hk:match fn.results.toList with
     | [r]=>La tb t own [r] fun gs own=>match gs with
      | [g]=>Zal rs own g Q
      | _=>False
     | rs1=>La tb t own rs1 fun gs own=>Zal rs own (.tup gs) Q:=by
    cases e with
    | exit id=>exact absurd rfl (he id)
    | goto l=>exact hk.elim
    | normal=>exact hk
    | ret=>exact hk
   have fin:∀{own' I' V' g x},Later own I1 V1 w1 own' I' V' w1→PRes I' V' g x→Zal rs own' g Q→∃x' g rs' I' V',Ending.returned x=.returned x'∧(Q g∧rs'=rs)∧V'.n=rs'.length∧Has I' V' (Aw rs' 0) w1∧PRes I' V' g x'∧Fro (Aw rs 0) I V w (Aw rs' 0) I' V' w1∧V.le V':=fun {own' I' V' g x} hl hx ⟨h1,h2,h3⟩=>by
    have hl:=hS.trans hl
    have hH2:=hl.has
    have lk:∀{k:Nat} {r:R},look k (Aw rs 0)=some r→k < rs.length∧Tv rs.length r=true∧look k own'=some (H3 [] r):=fun hk=>C2 h2 hk
    refine⟨x,g,rs,I',V'.ren [] rs.length,rfl,⟨h3,rfl⟩,rfl,⟨hH2.mem,fun k r hk=>(lk hk).1,fun k r hk=>Ol (lk hk).2.1 (hH2.each _ _ (lk hk).2.2),fun k r b hk hf=>hH2.foot _ _ b (lk hk).2.2 hf,fun k k' r r' b hk hk' hf hf'=>hH2.disj _ _ _ _ b (lk hk).2.2 (lk hk').2.2 hf hf'⟩,N6 h1 hx,⟨hl.fro.os,hl.fro.tape,hl.fro.output,hl.fro.size,hl.fro.blk,hl.fro.mono,fun k r b hk hf hlt=>hl.fro.foot _ _ b (lk hk).2.2 hf hlt⟩,⟨by show V.n≤rs.length;omega,fun k hk=>hl.va.2 k hk⟩⟩
   split at hk
   ·next r hr =>
    obtain⟨gs,o2,I2,V2',vs,k1,kn,k2,k3,k4,k5⟩:=Il hT hk hS.has hA
    rw[←hr] at k4 k5
    refine⟨_,De k4 k5,?_⟩
    cases gs with
    | nil=>exact k1.elim
    | cons g gs =>
     cases gs with
     | cons g' gs=>exact k1.elim
     | nil =>
      obtain⟨v,vs',rfl,hv,hn⟩:=k3.uncons
      obtain rfl:=hn.of_nil
      refine fin k2 ?_ k1
      cases g with
      | tup l=>cases(show VRep I2 (.tup l) v from hv)
      | _=>exact hv
   ·next rs' hr =>
    obtain⟨gs,o2,I2,V2',vs,k1,kn,k2,k3,k4,k5⟩:=Il hT hk hS.has hA
    refine⟨_,De k4 k5,?_⟩
    have hv1:∀v,vs≠[v]:=fun v e=>by
     rw[e] at k4
     cases hq:fn.results.toList with
     | nil=>rw[hq] at k4;simp at k4
     | cons r l =>
      cases l with
      | nil=>exact hr r hq
      | cons r' l=>rw[hq] at k4;simp at k4
    have e:M7 vs=.tuple vs.toArray:=by
     unfold M7
     split
     ·next v=>exact absurd rfl (hv1 v)
     ·rfl
    rw[e]
    exact fin (g:=.tup gs) k2 ⟨vs,rfl,k3⟩ k1
  cases e with
  | normal=>exact key fun id h=>by cases h
  | exit id=>exact hk.elim
  | goto l=>exact hk.elim
  | ret=>exact key fun id h=>by cases h
end
def Zgz:G→Bool
 | .v _=>true
 | .osl _=>true
 | _=>false
theorem Z6w {P:Program}{f:FuncId}{gs:List G}{rs:List R}{Q:G→List R→Prop}(he:Ent P f)(h:Gh (fun own n=>Z2o P f own n (fun g own n=>Zgz g=true∧∃its g',Z5l (List.range rs.length) own n g Q its g') gs) (Aw rs 0) rs.length):FnO P f gs rs Q :=
 ⟨he,fun I V w vs hH hVn hp=>by
  obtain⟨own1,I1,V1,h1,l1⟩:=Q6 h hVn hH
  obtain⟨-,k2⟩:=T0 h1 l1.has rfl (hp.mono fun _ _ h=>h.to_t.mono l1.fro.mono l1.va)
  refine k2.mono fun e w' ⟨x,g,own2,I2,V2,he,⟨hs,its,g',hE⟩,hl,hx⟩=>?_
  have hlt:=l1.trans hl
  have hx2:PRes I2 V2 g x:=by
   cases g with
   | v u=>exact hx
   | osl k=>exact hx
   | _=>cases hs
  obtain⟨V4,q1,q2,q3,q4,q5,q6⟩:=Us hE hl.has hx2 V.s
  have hfro:=hlt.fro
  refine⟨x,g',its.map It.res,I2,V4,he,hE.post,by simpa using q1,q2,q3,⟨hfro.os,hfro.tape,hfro.output,hfro.size,hfro.blk,hfro.mono,fun i r b hi hb hlt=>?_⟩,?_,fun i hi=>⟨?_,q6 i (by rw[List.length_range];omega)⟩⟩
  ·obtain⟨k,r',h1,h2⟩:=q4 i b hb
   exact hfro.foot k r' b h1 h2 hlt
  ·rw[q1,hVn]
   obtain⟨l,hl⟩:=hE.rts
   have:=congrArg List.length hl
   simp at this
   omega
  ·have hr:(List.range rs.length)[i]?=some i:=by rw[List.getElem?_range (by omega)]
   rw[(q5 i _ hr).1,(hlt.va.2 _ (by omega)).1]⟩
theorem Zgg {f:FuncId}{fn:Func}{c:Code}{gs:List G}{rs:List R}{Q:G→Prop}(hf:Tryz.prog.funcs[f]?=some fn)(hname:(fn.name=="runtime.NumGoroutine")=false) (hb:fn.body=some c) (hn:gs.length≤fn.ntmps) (hc:(E5 tab fn.ntmps c&&Nm c)=true) (h:sxC Tryz.prog tab c (Jj 0 gs) (Aw rs 0) rs.length (Z6d tab fn rs Q)):FnO Tryz.prog f gs rs fun g rs'=>Q g∧rs'=rs :=
 Z41 (Z2l Zey) (by kernel_rfl) hf hname hb hn (Bool.and_eq_true _ _ ▸ hc).1 (Bool.and_eq_true _ _ ▸ hc).2 h
end Go.Proofs.YtihfaocdpmmooaaGreat
