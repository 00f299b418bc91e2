
import Derived.Test.YtihfaocdpmmooaaGreatSxMc
import Derived.ChangeKeysEq
namespace Go.Proofs.YtihfaocdpmmooaaGreat
open Go.RowKit
section
variable {P:Program} {f:FuncId} {gs:List G} {rs:List R} {Q Q':G→List R→Prop}
theorem Lw {rs rs':List R}(h:rs.length=rs'.length)(k:Nat){r:R}(hk:look k (B7 rs 0)=some r):∃r',look k (B7 rs' 0)=some r':=by
 rw[Af] at hk⊢
 have:=(ac.1 hk).1
 exact⟨_,ab (by omega)⟩
theorem Fro.left {own own2 own':Os}{I I':Imm}{V V':Va}{w w':World}(h:Fro own I V w own' I' V' w')(h1:∀k r,look k own=some r→∃r',look k own2=some r'):Fro own2 I V w own' I' V' w' :=
 ⟨h.os,h.tape,h.output,h.size,fun b hb hn=>h.blk b hb fun k r hk hf=>by obtain⟨r',hr⟩:=h1 k r hk;exact hn k r' hr hf,h.mono,fun k r b hk hf hb=>by
  obtain⟨j,r',hj,hf'⟩:=h.foot k r b hk hf hb
  obtain⟨r2,h2⟩:=h1 j r' hj
  exact⟨j,r2,h2,hf'⟩⟩
theorem Fro.right {own own2 own':Os}{I I':Imm}{V V':Va}{w w':World}(h:Fro own I V w own' I' V' w')(h1:∀k r,look k own2=some r→∃r',look k own'=some r'):Fro own I V w own2 I' V' w' :=
 ⟨h.os,h.tape,h.output,h.size,h.blk,h.mono,fun k r b hk hf hb=>by
  obtain⟨r2,h2⟩:=h1 k r hk
  exact h.foot k r2 b h2 hf hb⟩
def WkR (r r':R):Prop:=r'=r∨∃p p',r=.abs p∧r'=.abs p'∧Loc p'∧∀I b S w,p I b S w→p' I b S w
def WkL:List R→List R→Prop
 | [],[]=>True
 | r::l,r'::l'=>WkR r r'∧WkL l l'
 | _,_=>False
theorem WkL.len:∀{l l':List R},WkL l l'→l.length=l'.length
 | [],[],_=>rfl
 | _::_,_::_,h=>by rw[bc,bc,h.2.len]
 | [],_::_,h=>h.elim
 | _::_,[],h=>h.elim
theorem WkL.get:∀{l l':List R},WkL l l'→∀{i:Nat} {r':R},l'[i]?=some r'→∃r,l[i]?=some r∧WkR r r'
 | [],[],_,i,r',h=>by simp at h
 | r::l,r1::l',h,0,r',hi=>by simp at hi;subst hi;exact⟨r,rfl,h.1⟩
 | r::l,r1::l',h,i+1,r',hi=>by
  obtain⟨r2,h1,h2⟩:=h.2.get (i:=i) (r':=r') (by simpa using hi)
  exact⟨r2,by simpa using h1,h2⟩
 | [],_::_,h,_,_,_=>h.elim
 | _::_,[],h,_,_,_=>h.elim
theorem WkL.refl:∀l:List R,WkL l l
 | []=>trivial
 | _::l=>⟨.inl rfl,.refl l⟩
theorem WkR.rep {I:Imm}{V:Va}{k:Nat}{w:World}{r r':R}(h:WkR r r')(hr:RRep I V k w r):RRep I V k w r':=by
 rcases h with rfl | ⟨p,p',rfl,rfl,hl,hp⟩
 ·exact hr
 ·exact⟨hl,hp _ _ _ _ hr.2⟩
theorem Has.wk {I:Imm}{V:Va}{w:World}{l l':List R}(hw:WkL l l')(h:Has I V (B7 l 0) w):Has I V (B7 l' 0) w:=by
 have lk:∀{k r'},look k (B7 l' 0)=some r'→∃r,look k (B7 l 0)=some r∧WkR r r':=fun {k r'} hk=>by
  rw[Af] at hk
  obtain⟨r,h1,h2⟩:=hw.get hk
  exact⟨r,by rw[Af];exact h1,h2⟩
 refine⟨h.mem,fun k r hk=>?_,fun k r hk=>?_,fun k r b hk hb=>?_,fun k k' r r' b hk hk' hb hb'=>?_⟩
 ·obtain⟨r1,h1,-⟩:=lk hk;exact h.num k r1 h1
 ·obtain⟨r1,h1,h2⟩:=lk hk;exact h2.rep (h.each k r1 h1)
 ·obtain⟨r1,h1,-⟩:=lk hk;exact h.foot k r1 b h1 hb
 ·obtain⟨r1,h1,-⟩:=lk hk
  obtain⟨r2,h2,-⟩:=lk hk'
  exact h.disj k k' r1 r2 b h1 h2 hb hb'
theorem FnO.wk (h:FnO P f gs rs Q)(hq:∀g rs',Q g rs'→∃rs'',WkL rs' rs''∧Q' g rs''):FnO P f gs rs Q' :=
 ⟨h.1,fun I V w vs h1 h2 h3=>(h.2 I V w vs h1 h2 h3).mono fun _ _ ⟨x,g,rs',I',V',e,k1,k2,k3,k4,k5,k6⟩=>by
  obtain⟨rs'',q1,q2⟩:=hq g rs' k1
  exact⟨x,g,rs'',I',V',e,q2,k2.trans q1.len,k3.wk q1,k4,k5.right fun k r hk=>Lw q1.len.symm k hk,k6⟩⟩
theorem FnO.case {p:Ob}{ι:Type}{q:ι→Ob}(hE:Ent P f)(hp:∀I b S w,p I b S w→∃i,q i I b S w)(hl:∀i,Loc (q i))(h:∀i,FnO P f gs (.abs (q i)::rs) Q):FnO P f gs (.abs p::rs) Q :=
 ⟨hE,fun I V w vs hH hn h3=>by
  obtain⟨i,hi⟩:=hp _ _ _ _ (hH.each 0 (.abs p) rfl).2
  have hH2:Has I V (B7 (.abs (q i)::rs) 0) w:=by
   have lk:∀{k r'},look k (B7 (.abs (q i)::rs) 0)=some r'→(k=0∧r'=.abs (q i))∨(k≠0∧look k (B7 (.abs p::rs) 0)=some r'):=fun {k r'} hk=>by
    rw[Af] at hk⊢
    cases k with
    | zero=>simp at hk;exact .inl ⟨rfl,hk.symm⟩
    | succ k=>exact .inr ⟨by omega,by simpa using hk⟩
   have lk2:∀{k r'},look k (B7 (.abs (q i)::rs) 0)=some r'→∃r,look k (B7 (.abs p::rs) 0)=some r:=fun {k r'} hk=>Lw (by simp) k hk
   refine⟨hH.mem,fun k r hk=>?_,fun k r hk=>?_,fun k r b hk hb=>?_,fun k k' r r' b hk hk' hb hb'=>?_⟩
   ·obtain⟨r1,h1⟩:=lk2 hk;exact hH.num k r1 h1
   ·rcases lk hk with⟨rfl,rfl⟩ | ⟨-,h1⟩
    ·exact⟨hl i,hi⟩
    ·exact hH.each k r h1
   ·obtain⟨r1,h1⟩:=lk2 hk;exact hH.foot k r1 b h1 hb
   ·obtain⟨r1,h1⟩:=lk2 hk
    obtain⟨r2,h2⟩:=lk2 hk'
    exact hH.disj k k' r1 r2 b h1 h2 hb hb'
  exact((h i).2 I V w vs hH2 hn h3).mono fun _ _ ⟨x,g,rs',I',V',e,k1,k2,k3,k4,k5,k6⟩=>⟨x,g,rs',I',V',e,k1,k2,k3,k4,k5.left fun k r hk=>Lw (by simp) k hk,k6⟩⟩
end
theorem T9 {I I':Imm}{g:G}{x:Value}(h:Gb g=true)(hx:VRep I g x):VRep I' g x:=by
 cases g with
 | v u=>have:=C2 hx;subst this;exact .v _
 | _=>cases h
theorem FnO.peekN {P:Program}{f:FuncId}{gs:List G}{rows rows':List (List G)}{e sz e' sz':Nat}(h:FnO P f (.sl rows::gs) [] fun g rs=>g=.osl 0∧rs=[.slc rows' e' sz'])(hg:Av Ps gs=true)(hv1:∀r∈rows',∀g∈r,Gb g=true):FnO P f (.osl 0::gs) [.slc rows e sz] fun g rs=>g=.osl 1∧rs=[.slc rows e sz,.slc rows' e' sz'] :=
 ⟨h.1,fun I V w vs hH hn hp=>by
  obtain⟨I2,hL,hv,-⟩:=Ec (k:=0) (rows:=rows) (e:=e) (sz:=sz) hH rfl
  have hp2:PW (PRep I2 ⟨0,fun _=>0,fun _=>undef,fun _ _=>False⟩) (.sl rows::gs) vs:=by
   refine⟨hp.1,fun j g u h1 h2=>?_⟩
   cases j with
   | zero =>
    obtain rfl:G.sl rows=g:=by simpa using h1
    have h3:=hp.2 0 (.osl 0) u rfl h2
    have h3:u=V.s 0:=h3.2
    rw[h3];exact hv
   | succ j =>
    have h3:=hp.2 (j+1) g u h1 h2
    have h4:=Ac hg g (ae h1)
    have h5:VRep I g u:=by
     cases g<;>first
      | exact h3
      | cases h4
    exact .of_v (h5.mono hL.fro.mono)
  have hH0:Has I2 ⟨0,fun _=>0,fun _=>undef,fun _ _=>False⟩ (B7 [] 0) w:=⟨hL.has.mem,fun k r h=>(by cases h),fun k r h=>(by cases h),fun k r b h=>(by cases h),fun k k' r r' b h=>(by cases h)⟩
  refine(h.2 I2 _ w vs hH0 rfl hp2).mono fun e1 w' ⟨x,g,rs,I3,V1,he,hq,hn1,hH1,hx,hF,_⟩=>?_
  obtain⟨rfl,rfl⟩:=hq
  have old:∀b,b < w.heap.size→w'.heap[b]?=w.heap[b]?:=fun b hb=>(hF.blk b hb (fun k r h=>by cases h)).1
  have new:∀b,V1.f 0 b→w.heap.size≤b:=fun b hb=>Nat.le_of_not_lt fun hlt=>by
   obtain⟨j,r,hj,-⟩:=hF.foot 0 _ b rfl hb hlt
   cases hj
  have hmem:Mem I w':=fun b o y hy=>by
   have h1:=hH.mem b o y hy
   have hlt:b < w.heap.size:=by
    apply bx
    intro hlt
    have:w.heap[b]?=none:=Array.getElem?_eq_none (by omega)
    simp[World.cell?,this] at h1
   have h2:=old b hlt
   unfold World.cell? at h1⊢
   dsimp only at h1⊢
   rw[h2];exact h1
  let V':Va:=⟨2,fun k=>if k=0 then V.b 0 else V1.b 0,fun k=>if k=0 then V.s 0 else V1.s 0,fun k=>if k=0 then V.f 0 else V1.f 0⟩
  have lk:∀{k:Nat} {r:R},look k (B7 [R.slc rows e sz,R.slc rows' e' sz'] 0)=some r→(k=0∧r=.slc rows e sz)∨(k=1∧r=.slc rows' e' sz'):=fun {k r} hk=>by
   rw[Af] at hk
   rcases k with _ | _ | k
   ·simp at hk;exact .inl ⟨rfl,hk.symm⟩
   ·simp at hk;exact .inr ⟨rfl,hk.symm⟩
   ·simp at hk
  have hr0:=hH.each 0 _ rfl
  have hr1:=hH1.each 0 _ rfl
  have hI3:∀b o,b < w.heap.size→I3 b o=I2 b o:=fun b o hb=>(hF.blk b hb (fun k r h=>by cases h)).2 o
  refine⟨x,.osl 1,_,I,V',he,⟨rfl,rfl⟩,rfl,⟨hmem,fun k r hk=>?_,fun k r hk=>?_,fun k r b hk hb=>?_,fun k k' r r' b hk hk' hb hb'=>?_⟩,?_,⟨hF.os,hF.tape,hF.output,hF.size,fun b hb _=>⟨old b hb,fun _=>rfl⟩,fun _ _ _ h=>h,fun k r b hk hb hlt=>?_⟩,⟨by rw[hn];exact Nat.le_succ 1,fun k hk=>?_⟩⟩
  ·rcases lk hk with⟨rfl,-⟩ | ⟨rfl,-⟩<;>show _ < 2<;>omega
  ·rcases lk hk with⟨rfl,rfl⟩ | ⟨rfl,rfl⟩
   ·obtain⟨h1,rs,h2,h3⟩:=RRep.keep (I':=I) (V':=V) hr0 (.refl _) (.refl _) (by rw[hn];exact Nat.one_pos) rfl hF.os hF.size fun b hb=>old b (hH.foot 0 _ b rfl hb).1
    exact⟨h1,rs,h2,h3⟩
   ·obtain⟨h1,rs,h2,h3,h4,h5⟩:=hr1
    exact⟨h1,rs,h2,h3,fun i r u hr hu=>⟨(h4 i r u hr hu).1,fun j g y hg hy=>T9 (hv1 r (ae hr) g (ae hg)) ((h4 i r u hr hu).2 j g y hg hy)⟩,h5⟩
  ·rcases lk hk with⟨rfl,rfl⟩ | ⟨rfl,rfl⟩
   ·have:=hH.foot 0 _ b rfl hb
    exact⟨ap this.1 hF.size,this.2⟩
   ·have h1:=(hH1.foot 0 _ b rfl hb).1
    refine⟨h1,fun o=>?_⟩
    cases hI:I b o with
    | none=>rfl
    | some y =>
     have h2:=hH.mem b o y hI
     have hlt:b < w.heap.size:=by
      apply bx
      intro hlt
      have:w.heap[b]?=none:=Array.getElem?_eq_none (by omega)
      simp[World.cell?,this] at h2
     have:=new b hb
     omega
  ·rcases lk hk with⟨rfl,rfl⟩ | ⟨rfl,rfl⟩<;>rcases lk hk' with⟨rfl,rfl⟩ | ⟨rfl,rfl⟩
   ·rfl
   ·have:=(hH.foot 0 _ b rfl hb).1;have:=new b hb';omega
   ·have:=(hH.foot 0 _ b rfl hb').1;have:=new b hb;omega
   ·rfl
  ·have hx:CRep I3 V1 (.osl 0) x:=hx
   exact(show CRep I V' (.osl 1) x from⟨by show 1 < 2;omega,hx.2⟩)
  ·rcases lk hk with⟨rfl,rfl⟩ | ⟨rfl,rfl⟩
   ·exact⟨0,_,rfl,hb⟩
   ·have:=new b hb;omega
  ·have hn:V.n=1:=hn
   obtain rfl:k=0:=by omega
   exact⟨rfl,rfl⟩⟩
def Zfo (u:Value):G→G
 | .ptr _ _=>.v u
 | .osl _=>.v u
 | .osv _ _ _ _=>.v u
 | .mp _=>.v u
 | g=>g
def Z3q (u:Nat→Value):Nat→List G→List G
 | _,[]=>[]
 | i,g::l=>Zfo (u i) g::Z3q u (i+1) l
def KeepL:List G→List G→Prop
 | [],[]=>True
 | g::l,g'::l'=>(Bm g'=true∨g'=g)∧KeepL l l'
 | _,_=>False
theorem Oz (u:Nat→Value):∀(l:List G) (i j:Nat),(Z3q u i l)[j]?=(l[j]?).map (Zfo (u (i+j)))
 | [],i,j=>by simp[Z3q]
 | g::l,i,0=>by simp[Z3q]
 | g::l,i,j+1=>by
  simp only[Z3q,List.getElem?_cons_succ]
  rw[Oz u l (i+1) j,show i+1+j=i+(j+1) by omega]
theorem O7 (u:Nat→Value):∀(l:List G) (i:Nat),(Z3q u i l).length=l.length
 | [],_=>rfl
 | g::l,i=>by simp[Z3q,O7 u l (i+1)]
theorem KeepL.get:∀{l l':List G},KeepL l l'→∀{j:Nat} {g':G},l'[j]?=some g'→Bm g'=true∨l[j]?=some g'
 | [],[],_,j,g',h=>by simp at h
 | g::l,h0::l',h,0,g',e=>by
  simp at e;subst e
  exact h.1.imp id fun e=>by rw[e];rfl
 | g::l,h0::l',h,j+1,g',e=>by
  have:=KeepL.get h.2 (j:=j) (by simpa using e)
  simpa using this
 | [],_::_,h,_,_,_=>h.elim
 | _::_,[],h,_,_,_=>h.elim
theorem KeepL.len:∀{l l':List G},KeepL l l'→l'.length=l.length
 | [],[],_=>rfl
 | _::_,_::_,h=>by simp[KeepL.len h.2]
 | [],_::_,h=>h.elim
 | _::_,[],h=>h.elim
theorem Na {u:Value}{g:G}(h:Bm g=true):Zfo u g=g:=by cases g<;>first | rfl | cases h
theorem Z64 {I:Imm}{V V1:Va}{g:G}{x:Value}(h:CRep I V g x):CRep I V1 (Zfo x g) x:=by
 cases g with
 | ptr k o=>exact VRep.v _
 | osl k=>exact VRep.v _
 | osv k a b c=>exact VRep.v _
 | mp k=>exact VRep.v _
 | oel k a b c=>exact h.elim
 | orv k a b c d e=>exact h.elim
 | oag l=>exact h.elim
 | tup l=>exact h.elim
 | elp l o=>exact h.elim
 | clo f a c=>exact h.elim
 | _=>exact h
theorem X4 {I:Imm}{V V1:Va}{g:G}{x:Value}(hg:Ki g=true)(h:PRes I V g x):PRes I V1 g x:=by
 have one:∀g x,Gy g=true→PRe1 I V g x→PRe1 I V1 g x:=fun g x hg h=>by
  cases g with
  | oag l =>
   obtain⟨cs,e,hp⟩:=(show TRep1 I V (.oag l) x from h)
   exact(show TRep1 I V1 (.oag l) x from⟨cs,e,Ug hg hp⟩)
  | ptr k o=>cases hg
  | osl k=>cases hg
  | osv k a b c=>cases hg
  | oel k a b c=>cases hg
  | orv k a b c d e=>cases hg
  | mp k=>cases hg
  | clo f a c=>cases hg
  | tup l=>cases hg
  | _=>exact h
 cases g with
 | tup l =>
  obtain⟨cs,e,hp⟩:=h
  exact⟨cs,e,hp.1,fun j g u hg' hu=>one g u (Ac (show Av Gy l=true from hg) g (ae hg')) (hp.2 j g u hg' hu)⟩
 | oag l=>exact one (.oag l) x hg h
 | ptr k o=>cases hg
 | osl k=>cases hg
 | osv k a b c=>cases hg
 | oel k a b c=>cases hg
 | orv k a b c d e=>cases hg
 | mp k=>cases hg
 | clo f a c=>cases hg
 | _=>exact h
theorem FnO.frame {P:Program}{f:FuncId}{gs:List G}{cs cs':List G}{t:Nat}{g0:G}{rest:List R}(hK:KeepL cs cs')(hg0:Ki g0=true)(hg:Av Ps gs=true)(h:∀u,FnO P f (.ptr 0 0::gs) [.blk (Z3q u 0 cs) t] fun g rs=>g=g0∧rs=[.blk (Z3q u 0 cs') t]):FnO P f (.ptr 0 0::gs) (.blk cs t::rest) fun g rs=>g=g0∧rs=.blk cs' t::rest :=
 ⟨(h fun _=>undef).1,fun I V w vs hH hn hp=>by
  obtain⟨hf0,us,hw0,hcs⟩:=hH.each 0 _ rfl
  let u:Nat→Value:=fun j=>(us[j]?).getD undef
  let V1:Va:=⟨1,V.b,V.s,V.f⟩
  have lk1:∀{cs:List G} {k:Nat} {r:R},look k (B7 [R.blk cs t] 0)=some r→k=0∧r=.blk cs t:=fun {cs k r} hk=>by
   rw[Af] at hk
   cases k with
   | zero=>simp at hk;exact⟨rfl,hk.symm⟩
   | succ k=>simp at hk
  have hH1:Has I V1 (B7 [R.blk (Z3q u 0 cs) t] 0) w:=⟨hH.mem,fun k r hk=>by obtain⟨rfl,-⟩:=lk1 hk;exact Nat.one_pos,fun k r hk=>by
    obtain⟨rfl,rfl⟩:=lk1 hk
    refine⟨hf0,us,hw0,by rw[O7];exact hcs.1,fun j g x hg hx=>?_⟩
    rw[Oz] at hg
    obtain⟨g1,h1,rfl⟩:=ax.1 hg
    have:u (0+j)=x:=by show(us[0+j]?).getD undef=x;rw[ca,hx];rfl
    rw[this]
    exact Z64 (hcs.2 j g1 x h1 hx),fun k r b hk hb=>by obtain⟨rfl,-⟩:=lk1 hk;exact hH.foot 0 _ b rfl hb,fun k k' r r' b hk hk' _ _=>by obtain⟨rfl,-⟩:=lk1 hk;obtain⟨rfl,-⟩:=lk1 hk';rfl⟩
  have hp1:PW (PRep I V1) (.ptr 0 0::gs) vs:=by
   refine⟨hp.1,fun j g y hg' hy=>?_⟩
   cases j with
   | zero =>
    obtain rfl:G.ptr 0 0=g:=by simpa using hg'
    have h3:=hp.2 0 (.ptr 0 0) y rfl hy
    exact⟨Nat.one_pos,h3.2⟩
   | succ j =>
    have h3:=hp.2 (j+1) g y hg' hy
    have h4:=Ac hg g (ae (by simpa using hg'))
    have h5:VRep I g y:=by
     cases g<;>first
      | exact h3
      | cases h4
    exact .of_v h5
  refine((h u).2 I V1 w vs hH1 rfl hp1).mono fun e w' ⟨x,g,rs',I',V',he,hq,hn',hH',hx,hF,hle⟩=>?_
  obtain⟨rfl,rfl⟩:=hq
  have hle2:V.le ⟨V.n,V.b,V.s,fun k=>if k=0 then V'.f 0 else V.f k⟩:=⟨af _,fun k _=>⟨rfl,rfl⟩⟩
  have b0:V'.b 0=V.b 0:=(hle.2 0 Nat.one_pos).1
  have lk2:∀{k:Nat} {r:R},look k (B7 (R.blk cs' t::rest) 0)=some r→(k=0∧r=.blk cs' t)∨(k≠0∧look k (B7 (R.blk cs t::rest) 0)=some r):=fun {k r} hk=>by
   rw[Af] at hk⊢
   cases k with
   | zero=>simp at hk;exact .inl ⟨rfl,hk.symm⟩
   | succ k=>exact .inr ⟨by omega,by simpa using hk⟩
  have old:∀{k:Nat} {r:R} {b:Nat},k≠0→look k (B7 (R.blk cs t::rest) 0)=some r→V.f k b→w'.heap[b]?=w.heap[b]?∧∀o,I' b o=I b o:=fun {k r b} hk0 hk hb=>hF.blk b (hH.foot k r b hk hb).1 fun j r' hj hb'=>by
   obtain⟨rfl,-⟩:=lk1 hj
   exact hk0 (hH.disj k 0 _ _ b hk rfl hb hb')
  refine⟨x,g,_,I',⟨V.n,V.b,V.s,fun k=>if k=0 then V'.f 0 else V.f k⟩,he,⟨rfl,rfl⟩,?_,⟨hH'.mem,fun k r hk=>?_,fun k r hk=>?_,fun k r b hk hb=>?_,fun k k' r r' b hk hk' hb hb'=>?_⟩,X4 hg0 hx,⟨hF.os,hF.tape,hF.output,hF.size,fun b hb hno=>hF.blk b hb fun k r hk hf=>?_,hF.mono,fun k r b hk hb hlt=>?_⟩,hle2⟩
  ·rw[hn];rfl
  ·rcases lk2 hk with⟨rfl,-⟩ | ⟨-,hk⟩
   ·exact hH.num 0 _ rfl
   ·exact hH.num k r hk
  ·rcases lk2 hk with⟨rfl,rfl⟩ | ⟨hk0,hk⟩
   ·obtain⟨hf',us',hw',hcs'⟩:=hH'.each 0 _ rfl
    refine⟨fun b=>?_,us',by rw[b0] at hw';exact hw',by rw[←hcs'.1,O7],fun j g y hg' hy=>?_⟩
    ·have:=hf' b
     rw[b0] at this
     exact this
    ·have h1:=hcs'.2 j _ y (by rw[Oz,hg'];rfl) hy
     have hlen:j < us.length:=by
      have:=(ac.1 hg').1
      rw[hK.len] at this
      rw[←hcs.1];exact this
     rcases hK.get hg' with hnk | hold
     ·rw[Na hnk] at h1
      exact Jo hnk h1
     ·by_cases hnk:Bm g=true
      ·rw[Na hnk] at h1
       exact Jo hnk h1
      ·have h2:=hcs.2 j g us[j] hold (ab hlen)
       have:y=us[j]:=by
        have hu:u (0+j)=us[j]:=by show(us[0+j]?).getD undef=_;rw[ca,ab hlen];rfl
        rw[hu] at h1
        cases g with
        | ptr k o=>exact C2 h1
        | osl k=>exact C2 h1
        | osv k a b c=>exact C2 h1
        | mp k=>exact C2 h1
        | oel k a b c=>exact h2.elim
        | orv k a b c d e=>exact h2.elim
        | oag l=>exact h2.elim
        | tup l=>exact h2.elim
        | elp l o=>exact h2.elim
        | clo f a c=>exact h2.elim
        | _=>exact dc rfl hnk
       rw[this]
       exact h2.mono hF.mono hle2
   ·exact(hH.each k r hk).keep hF.mono hle2 (hH.num k r hk) (da hk0) hF.os hF.size fun b hb=>(old hk0 hk hb).1
  ·rcases lk2 hk with⟨rfl,rfl⟩ | ⟨hk0,hk⟩
   ·exact hH'.foot 0 _ b rfl hb
   ·have hb:V.f k b:=(congrFun (show(if k=0 then V'.f 0 else V.f k)=V.f k from da hk0) b).mp hb
    have h1:=hH.foot k r b hk hb
    exact⟨ap h1.1 hF.size,fun o=>by rw[(old hk0 hk hb).2 o];exact h1.2 o⟩
  ·have zero:∀{k:Nat} {r:R} {b:Nat},k≠0→look k (B7 (R.blk cs t::rest) 0)=some r→V.f k b→V'.f 0 b→False:=fun {k r b} hk0 hk hb h0=>by
    obtain⟨j,r',hj,hf⟩:=hF.foot 0 _ b rfl h0 (hH.foot k r b hk hb).1
    obtain⟨rfl,-⟩:=lk1 hj
    exact hk0 (hH.disj k 0 _ _ b hk rfl hb hf)
   rcases lk2 hk with⟨rfl,rfl⟩ | ⟨hk0,hk⟩<;>rcases lk2 hk' with⟨rfl,rfl⟩ | ⟨hk0',hk'⟩
   ·rfl
   ·have hb':V.f k' b:=(congrFun (show(if k'=0 then V'.f 0 else V.f k')=V.f k' from da hk0') b).mp hb'
    exact(zero hk0' hk' hb' hb).elim
   ·have hb:V.f k b:=(congrFun (show(if k=0 then V'.f 0 else V.f k)=V.f k from da hk0) b).mp hb
    exact(zero hk0 hk hb hb').elim
   ·have hb':V.f k' b:=(congrFun (show(if k'=0 then V'.f 0 else V.f k')=V.f k' from da hk0') b).mp hb'
    have hb:V.f k b:=(congrFun (show(if k=0 then V'.f 0 else V.f k)=V.f k from da hk0) b).mp hb
    exact hH.disj k k' r r' b hk hk' hb hb'
  ·obtain⟨rfl,-⟩:=lk1 hk
   exact hno 0 _ rfl hf
  ·rcases lk2 hk with⟨rfl,rfl⟩ | ⟨hk0,hk⟩
   ·obtain⟨j,r',hj,hf⟩:=hF.foot 0 _ b rfl hb hlt
    obtain⟨rfl,-⟩:=lk1 hj
    exact⟨0,_,rfl,hf⟩
   ·have hb:V.f k b:=(congrFun (show(if k=0 then V'.f 0 else V.f k)=V.f k from da hk0) b).mp hb
    exact⟨k,r,hk,hb⟩⟩
def byV (c:UInt8):Value:=.int .u8 c.toNat
def gB1 (c:UInt8):G:=.v (.int .u8 c.toNat)
theorem Nf {P:Program}(w:World)(d:Nat){e:TypeId}(hp:P.plainKey e=true)(he:P.underlying e=some (.int .u8))(xs ys:List UInt8):∀(is:List Nat),(∀i∈is,i < xs.length∧i < ys.length)→(Op.eqItems (d+1) e 1 (xs.map byV).toArray (ys.map byV).toArray is).run P w=.ok (is.all fun i=>xs[i]?==ys[i]?) w
 | [],_=>by simp[Op.eqItems]
 | i::is,h=>by
  obtain⟨h1,h2⟩:=h i (by simp)
  have ih:=Nf w d hp he xs ys is fun j hj=>h j (by simp[hj])
  have p1:=run_part_plain (P:=P) w hp (xs:=(xs.map byV).toArray) (off:=i * 1) (v:=byV xs[i]) (by simp[h1])
  have p2:=run_part_plain (P:=P) w hp (xs:=(ys.map byV).toArray) (off:=i * 1) (v:=byV ys[i]) (by simp[h2])
  have p3:(Op.equalIn (d+1) e (byV xs[i]) (byV ys[i])).run P w=.ok ((xs[i].toNat:Int)==(ys[i].toNat:Int)) w:=run_equalIn_int w d e .u8 .u8 _ _ he
  have hb:((xs[i].toNat:Int)==(ys[i].toNat:Int))=(xs[i]?==ys[i]?):=by
   rw[ab h1,ab h2]
   by_cases e:xs[i]=ys[i]
   ·rw[e];simp
   ·have e2:(xs[i].toNat:Int)≠(ys[i].toNat:Int):=fun e2=>e (UInt8.toNat_inj.1 (by omega))
    rw[beq_eq_false_iff_ne.2 e2]
    symm
    simpa using e
  unfold Op.eqItems
  simp only[Sem.run_bind,p1,p2,p3,Result.andThen_ok,List.all_cons,hb]
  cases hc:(xs[i]?==ys[i]?) with
  | true=>simpa using ih
  | false=>simp
theorem EvEq.arr {P:Program}{t e:TypeId}{i:TypeInfo}{n:Nat}{K:Bool→Prop}(xs ys:List UInt8)(hu:P.underlying t=some (.array n e))(hi:P.info? e=some i)(hz:P.cellsOf e=1)(hp:P.plainKey e=true)(he:P.underlying e=some (.int .u8))(hg:P.eqGuardType P.depth t=false)(hx:xs.length=n)(hy:ys.length=n)(h1:xs=ys→K true)(h2:xs≠ys→K false):EvEq P t (xs.map gB1) (ys.map gB1) K:=by
 refine⟨xs.map byV,ys.map byV,(List.range n).all fun i=>xs[i]?==ys[i]?,by unfold Ml;rw[List.map_map];rfl,by unfold Ml;rw[List.map_map];rfl,hg,fun w=>?_,?_⟩
 ·rw[show(10000:Nat)=9999+1 from rfl,run_equalIn_array w 9999 _ _ hu hi,hz]
  exact Nf w 9998 hp he xs ys _ fun j hj=>by have:=List.mem_range.1 hj;omega
 ·by_cases hxy:xs=ys
  ·subst hxy
   have:(List.range n).all (fun i=>xs[i]?==xs[i]?)=true:=by simp
   rw[this];exact h1 rfl
  ·have:(List.range n).all (fun i=>xs[i]?==ys[i]?)=false:=by
    rw[←Bool.not_eq_true,List.all_eq_true]
    intro hall
    refine hxy (co fun j=>?_)
    by_cases hj:j < n
    ·simpa using hall j (List.mem_range.2 hj)
    ·rw[b8 (by omega),b8 (by omega)]
   rw[this];exact h2 hxy
theorem Zhy {α:Type}{l:List α}(h:l.length=8):∃a b c d e f g i,l=[a,b,c,d,e,f,g,i]:=by
 match l,h with
 | [a,b,c,d,e,f,g,i],_=>exact⟨a,b,c,d,e,f,g,i,rfl⟩
def Zc1 (jo nw:Nat)(u:Value):G→G
 | .v x=>.v x
 | .osl j=>bif Nat.beq j jo then .osl nw else .v u
 | _=>.v u
def K8 (jo nw:Nat)(u:Nat→Value):Nat→List G→List G
 | _,[]=>[]
 | i,g::l=>Zc1 jo nw (u i) g::K8 jo nw u (i+1) l
def KeepS (jo nn:Nat):List G→List G→Prop
 | [],[]=>True
 | g::l,g'::l'=>(Gb g'=true∨g'=.osl nn∨(g'=g∧g≠.osl jo))∧KeepS jo nn l l'
 | _,_=>False
theorem Gm (jo nw:Nat)(u:Nat→Value):∀(l:List G) (i j:Nat),(K8 jo nw u i l)[j]?=(l[j]?).map (Zc1 jo nw (u (i+j)))
 | [],i,j=>by simp[K8]
 | g::l,i,0=>by simp[K8]
 | g::l,i,j+1=>by
  simp only[K8,List.getElem?_cons_succ]
  rw[Gm jo nw u l (i+1) j,show i+1+j=i+(j+1) by omega]
theorem Gn (jo nw:Nat)(u:Nat→Value):∀(l:List G) (i:Nat),(K8 jo nw u i l).length=l.length
 | [],_=>rfl
 | g::l,i=>by simp[K8,Gn jo nw u l (i+1)]
theorem KeepS.get {jo nn:Nat}:∀{l l':List G},KeepS jo nn l l'→∀{j:Nat} {g':G},l'[j]?=some g'→Gb g'=true∨g'=.osl nn∨(l[j]?=some g'∧g'≠.osl jo)
 | [],[],_,j,g',h=>by simp at h
 | g::l,h0::l',h,0,g',e=>by
  simp at e;subst e
  rcases h.1 with h | h | ⟨h,h2⟩
  ·exact .inl h
  ·exact .inr (.inl h)
  ·exact .inr (.inr ⟨by rw[h];rfl,by rw[h];exact h2⟩)
 | g::l,h0::l',h,j+1,g',e=>by
  have:=KeepS.get h.2 (j:=j) (by simpa using e)
  simpa using this
 | [],_::_,h,_,_,_=>h.elim
 | _::_,[],h,_,_,_=>h.elim
theorem KeepS.len {jo nn:Nat}:∀{l l':List G},KeepS jo nn l l'→l'.length=l.length
 | [],[],_=>rfl
 | _::_,_::_,h=>by simp[KeepS.len h.2]
 | [],_::_,h=>h.elim
 | _::_,[],h=>h.elim
theorem Z7q {g:G}(h:Gb g=true):∃x,g=.v x:=by
 cases g with
 | v x=>exact⟨x,rfl⟩
 | _=>cases h
theorem FnO.peekF {P:Program}{f:FuncId}{gs gs':List G}{cs cs':List G}{t:Nat}{rest:List R}{jo js e sz e2 sz2:Nat}{out out' rows:List (List G)}
  (hjo:look jo (B7 (R.blk cs t::rest) 0)=some (.slc out e sz)) (hjs:look js (B7 (R.blk cs t::rest) 0)=some (.slc rows e2 sz2)) (hne:js≠jo)
  (hK:KeepS jo (rest.length+1) cs cs') (hgs:gs.map (Z17 ((js,R.froz rows sz2)::B7 (R.blk cs t::rest) 0))=gs') (hg:Av Ps gs'=true) (hv:∀r∈out',∀g∈r,Gb g=true)
  (h:∀u,FnO P f (.ptr 0 0::gs') [.blk (K8 jo 1 u 0 cs) t,.slc out e sz] fun g rs=>g=.tup []∧rs=[.blk (K8 (rest.length+1) 2 u 0 cs') t,.gone,.slc out' e sz]) :
  FnO P f (.ptr 0 0::gs) (.blk cs t::rest) fun g rs=>g=.tup []∧rs=.blk cs' t::(rest.set (jo - 1) .gone++[.slc out' e sz]) :=
 ⟨(h fun _=>undef).1,fun I V w vs hH hn hp=>by
  have hjo0:jo≠0:=fun e=>by subst e;cases hjo
  have hjon:=hH.num jo _ hjo
  have hVn:V.n=rest.length+1:=hn
  obtain⟨hf0,us,hw0,hcs⟩:=hH.each 0 _ rfl
  obtain⟨I2,hL,-,-⟩:=Ec hH hjs
  have hI2:∀b o x,I b o=some x→I2 b o=some x:=hL.fro.mono
  let u:Nat→Value:=fun j=>(us[j]?).getD undef
  let V1:Va:=⟨2,fun k=>if k=0 then V.b 0 else V.b jo,fun k=>if k=0 then V.s 0 else V.s jo,fun k=>if k=0 then V.f 0 else V.f jo⟩
  have lk1:∀{cs:List G} {o:List (List G)} {k:Nat} {r:R},look k (B7 [R.blk cs t,.slc o e sz] 0)=some r→(k=0∧r=.blk cs t)∨(k=1∧r=.slc o e sz):=fun {cs o k r} hk=>by
   rw[Af] at hk
   rcases k with _ | _ | k
   ·simp at hk;exact .inl ⟨rfl,hk.symm⟩
   ·simp at hk;exact .inr ⟨rfl,hk.symm⟩
   ·simp at hk
  have hmem2:Mem I2 w:=hL.has.mem
  have notjs:∀{k:Nat} {r:R} {b:Nat},look k (B7 (R.blk cs t::rest) 0)=some r→k≠js→V.f k b→∀o,I2 b o=none:=fun {k r b} hk hkj hb o=>by
   have h1:=hL.has.foot k r b (by rw[A3,da hkj];exact hk) (by show(V.drop js).f k b;unfold Va.drop;dsimp only;rw[da hkj];exact hb)
   exact h1.2 o
  have h0js:0≠js:=fun e=>by subst e;cases hjs
  have hH1:Has I2 V1 (B7 [R.blk (K8 jo 1 u 0 cs) t,.slc out e sz] 0) w:=by
   refine⟨hmem2,fun k r hk=>?_,fun k r hk=>?_,fun k r b hk hb=>?_,fun k k' r r' b hk hk' hb hb'=>?_⟩
   ·rcases lk1 hk with⟨rfl,-⟩ | ⟨rfl,-⟩<;>show _ < 2<;>omega
   ·rcases lk1 hk with⟨rfl,rfl⟩ | ⟨rfl,rfl⟩
    ·refine⟨hf0,us,hw0,by rw[Gn];exact hcs.1,fun j g x hg hx=>?_⟩
     rw[Gm] at hg
     obtain⟨g1,h1,rfl⟩:=ax.1 hg
     have hu:u (0+j)=x:=by show(us[0+j]?).getD undef=x;rw[ca,hx];rfl
     rw[hu]
     have hc:=hcs.2 j g1 x h1 hx
     cases g1 with
     | v z =>
      have:=C2 hc
      subst this
      exact VRep.v _
     | osl j' =>
      show CRep I2 V1 (bif Nat.beq j' jo then .osl 1 else .v x) x
      cases hb:Nat.beq j' jo with
      | false=>exact VRep.v _
      | true =>
       have:=ai hb
       subst this
       exact⟨by show 1 < 2;omega,hc.2⟩
     | _=>exact VRep.v _
    ·obtain⟨q1,rs,q2,q3,q4,q5⟩:=hH.each jo _ hjo
     exact⟨q1,rs,q2,q3,fun i r y hr hy=>(q4 i r y hr hy).mono fun _ _ h=>h.mono hI2,q5⟩
   ·rcases lk1 hk with⟨rfl,rfl⟩ | ⟨rfl,rfl⟩
    ·exact⟨(hH.foot 0 _ b rfl hb).1,notjs (k:=0) rfl h0js hb⟩
    ·exact⟨(hH.foot jo _ b hjo hb).1,notjs hjo (fun e=>hne e.symm) hb⟩
   ·rcases lk1 hk with⟨rfl,rfl⟩ | ⟨rfl,rfl⟩<;>rcases lk1 hk' with⟨rfl,rfl⟩ | ⟨rfl,rfl⟩
    ·rfl
    ·exact dc (hH.disj 0 jo _ _ b rfl hjo hb hb') (fun e=>hjo0 e.symm)
    ·exact dc (hH.disj jo 0 _ _ b hjo rfl hb hb') hjo0
    ·rfl
  have hp1:PW (PRep I2 V1) (.ptr 0 0::gs') vs:=by
   subst hgs
   refine⟨by have:=hp.1;simpa using this,fun j g y hg' hy=>?_⟩
   cases j with
   | zero =>
    obtain rfl:G.ptr 0 0=g:=by simpa using hg'
    have h3:=hp.2 0 (.ptr 0 0) y rfl hy
    exact⟨by show 0 < 2;omega,h3.2⟩
   | succ j =>
    have hg2:(gs.map (Z17 ((js,R.froz rows sz2)::B7 (R.blk cs t::rest) 0)))[j]?=some g:=by simpa using hg'
    have h4:=Ac hg g (ae hg2)
    rw[aj] at hg2
    obtain⟨g0,h5,rfl⟩:=ax.1 hg2
    have h3:=(hp.2 (j+1) g0 y (by simpa using h5) hy).to_t
    have h6:=Z7m hL.has (h3.mono hL.fro.mono hL.va)
    have h7:VRep I2 (Z17 ((js,R.froz rows sz2)::B7 (R.blk cs t::rest) 0) g0) y:=by
     generalize Z17 ((js,R.froz rows sz2)::B7 (R.blk cs t::rest) 0) g0=gg at h4 h6
     cases gg<;>first
      | exact h6
      | cases h4
    exact .of_v h7
  refine((h u).2 I2 V1 w vs hH1 rfl hp1).mono fun e' w' ⟨x,g,rs',I',V',he,hq,hn',hH',hx,hF,hle⟩=>?_
  obtain⟨rfl,rfl⟩:=hq
  have b0:V'.b 0=V.b 0:=(hle.2 0 (by show 0 < 2;omega)).1
  have hI':∀b o,I' b o=none→I b o=none:=fun b o hi=>by
   cases hib:I b o with
   | none=>rfl
   | some y=>have:=hF.mono _ _ _ (hI2 _ _ _ hib);rw[hi] at this;cases this
  have blk1:∀b,b < w.heap.size→¬V.f 0 b→¬V.f jo b→w'.heap[b]?=w.heap[b]?:=fun b hb h0 hj=>(hF.blk b hb fun k r hk hf=>by
   rcases lk1 hk with⟨rfl,-⟩ | ⟨rfl,-⟩
   ·exact h0 hf
   ·exact hj hf).1
  let VB:Va:=⟨rest.length+2,fun k=>if k < V.n then V.b k else V'.b 2,fun k=>if k < V.n then V.s k else V'.s 2,fun k=>if k=0 then V'.f 0 else if k=jo then fun _=>False else if k=rest.length+1 then V'.f 2 else V.f k⟩
  have hleB:V.le VB:=⟨by show V.n≤rest.length+2;omega,fun k hk=>⟨db hk,db hk⟩⟩
  have f0:VB.f 0=V'.f 0:=by show(if(0:Nat)=0 then V'.f 0 else if(0:Nat)=jo then fun _=>False else if(0:Nat)=rest.length+1 then V'.f 2 else V.f 0)=_;rw[db rfl]
  have fj:VB.f jo=fun _=>False:=by show(if jo=0 then V'.f 0 else if jo=jo then fun _=>False else if jo=rest.length+1 then V'.f 2 else V.f jo)=_;rw[da hjo0,db rfl]
  have fn:VB.f (rest.length+1)=V'.f 2:=by show(if rest.length+1=0 then V'.f 0 else if rest.length+1=jo then fun _=>False else if rest.length+1=rest.length+1 then V'.f 2 else V.f (rest.length+1))=_;rw[da (by omega),da (by omega),db rfl]
  have fo:∀k,k≠0→k≠jo→k≠rest.length+1→VB.f k=V.f k:=fun k h1 h2 h3=>by show(if k=0 then V'.f 0 else if k=jo then fun _=>False else if k=rest.length+1 then V'.f 2 else V.f k)=_;rw[da h1,da h2,da h3]
  have lk2:∀{k:Nat} {r:R},look k (B7 (R.blk cs' t::(rest.set (jo - 1) .gone++[.slc out' e sz])) 0)=some r→(k=0∧r=.blk cs' t)∨(k=jo∧r=.gone)∨(k=rest.length+1∧r=.slc out' e sz)∨(k≠0∧k≠jo∧k≠rest.length+1∧look k (B7 (R.blk cs t::rest) 0)=some r):=fun {k r} hk=>by
   rw[Af] at hk⊢
   cases k with
   | zero=>simp at hk;exact .inl ⟨rfl,hk.symm⟩
   | succ k =>
    have hk:(rest.set (jo - 1) .gone++[.slc out' e sz])[k]?=some r:=by simpa using hk
    by_cases hlt:k < rest.length
    ·rw[bk (by simpa using hlt),ck] at hk
     split at hk
     ·next e1 =>
      rw[db (by omega)] at hk
      cases hk
      exact .inr (.inl ⟨by omega,rfl⟩)
     ·next e1=>exact .inr (.inr (.inr ⟨by omega,by omega,by omega,by simpa using hk⟩))
    ·rw[be (by simp;omega),bf] at hk
     have hk0:k - rest.length=0:=by
      have:=(ac.1 hk).1
      simp at this;omega
     rw[hk0] at hk
     simp at hk
     exact .inr (.inr (.inl ⟨by omega,hk.symm⟩))
  have old2:∀{b:Nat},(V'.f 0 b∨V'.f 2 b)→b < w.heap.size→V.f 0 b∨V.f jo b:=fun {b} hb hlt=>by
   rcases hb with hb | hb
   ·obtain⟨j,r',hj,hf⟩:=hF.foot 0 _ b rfl hb hlt
    rcases lk1 hj with⟨rfl,-⟩ | ⟨rfl,-⟩
    ·exact .inl hf
    ·exact .inr hf
   ·obtain⟨j,r',hj,hf⟩:=hF.foot 2 _ b rfl hb hlt
    rcases lk1 hj with⟨rfl,-⟩ | ⟨rfl,-⟩
    ·exact .inl hf
    ·exact .inr hf
  have cross:∀{k:Nat} {r:R} {b:Nat},k≠0→k≠jo→look k (B7 (R.blk cs t::rest) 0)=some r→V.f k b→(V'.f 0 b∨V'.f 2 b)→False:=fun {k r b} h1 h2 hk hb h3=>by
   rcases old2 h3 (hH.foot k r b hk hb).1 with h4 | h4
   ·exact h1 (hH.disj k 0 _ _ b hk rfl hb h4)
   ·exact h2 (hH.disj k jo _ _ b hk hjo hb h4)
  refine⟨x,.tup [],_,I,VB,he,⟨rfl,rfl⟩,?_,⟨fun b o y hy=>?_,fun k r hk=>?_,fun k r hk=>?_,fun k r b hk hb=>?_,fun k k' r r' b hk hk' hb hb'=>?_⟩,?_,⟨hF.os,hF.tape,hF.output,hF.size,fun b hb hno=>⟨blk1 b hb (hno 0 _ rfl) (hno jo _ hjo),fun _=>rfl⟩,fun _ _ _ h=>h,fun k r b hk hb hlt=>?_⟩,hleB⟩
  ·show rest.length+2=_
   simp
  ·have h1:=hH.mem b o y hy
   have hlt:=hH.mem.lt hy
   have h2:=blk1 b hlt (fun hf=>by rw[(hH.foot 0 _ b rfl hf).2 o] at hy;cases hy) (fun hf=>by rw[(hH.foot jo _ b hjo hf).2 o] at hy;cases hy)
   unfold World.cell? at h1⊢
   dsimp only at h1⊢
   rw[h2];exact h1
  ·show k < rest.length+2
   rcases lk2 hk with⟨rfl,-⟩ | ⟨rfl,-⟩ | ⟨rfl,-⟩ | ⟨-,-,-,hk⟩
   ·omega
   ·omega
   ·omega
   ·have:=hH.num k r hk;omega
  ·rcases lk2 hk with⟨rfl,rfl⟩ | ⟨rfl,rfl⟩ | ⟨rfl,rfl⟩ | ⟨h1,h2,h3,hk⟩
   ·obtain⟨hf',us',hw',hcs'⟩:=hH'.each 0 _ rfl
    have bB:VB.b 0=V.b 0:=db (by omega)
    refine⟨fun b=>?_,us',by rw[bB,←b0];exact hw',by rw[←hcs'.1,Gn],fun j g y hg' hy=>?_⟩
    ·rw[f0,bB,←b0];exact hf' b
    ·have h1:=hcs'.2 j _ y (by rw[Gm,hg'];rfl) hy
     have hlen:j < us.length:=by
      have:=(ac.1 hg').1
      rw[hK.len] at this
      rw[←hcs.1];exact this
     rcases hK.get hg' with h2 | rfl | ⟨hold,hnjo⟩
     ·obtain⟨z,rfl⟩:=Z7q h2
      have h1:CRep I' V' (.v z) y:=h1
      have:=C2 h1
      subst this
      exact VRep.v _
     ·have h1:CRep I' V' (Zc1 (rest.length+1) 2 (u (0+j)) (.osl (rest.length+1))) y:=h1
      unfold Zc1 at h1
      dsimp only at h1
      rw[Nat.beq_refl] at h1
      have h1:CRep I' V' (.osl 2) y:=h1
      exact⟨by show rest.length+1 < rest.length+2;omega,by show y=if rest.length+1 < V.n then _ else _;rw[da (by omega)];exact h1.2⟩
     ·have h2:=hcs.2 j g us[j] hold (ab hlen)
      have hu:u (0+j)=us[j]:=by show(us[0+j]?).getD undef=_;rw[ca,ab hlen];rfl
      rw[hu] at h1
      have:y=us[j]:=by
       cases g with
       | v z =>
        have h3:=C2 (show CRep I' V' (.v z) y from h1)
        have h4:=C2 h2
        rw[h3,h4]
       | osl k =>
        have hkn:k < V.n:=h2.1
        have h1:CRep I' V' (bif Nat.beq k (rest.length+1) then .osl 2 else .v us[j]) y:=h1
        have hb:Nat.beq k (rest.length+1)=false:=by
         cases hb:Nat.beq k (rest.length+1) with
         | false=>rfl
         | true=>have:=ai hb;omega
        rw[hb] at h1
        exact C2 h1
       | _=>exact C2 h1
      rw[this]
      exact h2.mono (.refl _) hleB
   ·show ∀c,¬VB.f _ c
    rw[fj];exact fun c hc=>hc
   ·have hs:VB.s (rest.length+1)=V'.s 2:=da (by omega)
    obtain⟨q1,rs,q2,q3,q4,q5⟩:=hH'.each 2 _ rfl
    exact⟨fun b=>by rw[fn,hs];exact q1 b,rs,by rw[hs];exact q2,q3,fun i r y hr hy=>⟨(q4 i r y hr hy).1,fun j g z hg hz=>T9 (hv r (ae hr) g (ae hg)) ((q4 i r y hr hy).2 j g z hg hz)⟩,q5⟩
   ·exact(hH.each k r hk).keep (.refl _) hleB (hH.num k r hk) (fo k h1 h2 h3) hF.os hF.size fun b hb=>blk1 b (hH.foot k r b hk hb).1 (fun hf=>h1 (hH.disj k 0 _ _ b hk rfl hb hf)) (fun hf=>h2 (hH.disj k jo _ _ b hk hjo hb hf))
  ·rcases lk2 hk with⟨rfl,rfl⟩ | ⟨rfl,rfl⟩ | ⟨rfl,rfl⟩ | ⟨h1,h2,h3,hk⟩
   ·rw[f0] at hb
    have h4:=hH'.foot 0 _ b rfl hb
    exact⟨h4.1,fun o=>hI' b o (h4.2 o)⟩
   ·rw[fj] at hb;exact hb.elim
   ·rw[fn] at hb
    have h4:=hH'.foot 2 _ b rfl hb
    exact⟨h4.1,fun o=>hI' b o (h4.2 o)⟩
   ·rw[fo k h1 h2 h3] at hb
    have h4:=hH.foot k r b hk hb
    exact⟨ap h4.1 hF.size,h4.2⟩
  ·rcases lk2 hk with⟨rfl,rfl⟩ | ⟨rfl,rfl⟩ | ⟨rfl,rfl⟩ | ⟨h1,h2,h3,hk⟩<;>rcases lk2 hk' with⟨rfl,rfl⟩ | ⟨rfl,rfl⟩ | ⟨rfl,rfl⟩ | ⟨h1',h2',h3',hk'⟩
   ·rfl
   ·rw[fj] at hb';exact hb'.elim
   ·rw[f0] at hb
    rw[fn] at hb'
    have:=hH'.disj 0 2 _ _ b rfl rfl hb hb'
    omega
   ·rw[f0] at hb
    rw[fo k' h1' h2' h3'] at hb'
    exact(cross h1' h2' hk' hb' (.inl hb)).elim
   ·rw[fj] at hb;exact hb.elim
   ·rfl
   ·rw[fj] at hb;exact hb.elim
   ·rw[fj] at hb;exact hb.elim
   ·rw[fn] at hb
    rw[f0] at hb'
    have:=hH'.disj 2 0 _ _ b rfl rfl hb hb'
    omega
   ·rw[fj] at hb';exact hb'.elim
   ·rfl
   ·rw[fn] at hb
    rw[fo k' h1' h2' h3'] at hb'
    exact(cross h1' h2' hk' hb' (.inr hb)).elim
   ·rw[fo k h1 h2 h3] at hb
    rw[f0] at hb'
    exact(cross h1 h2 hk hb (.inl hb')).elim
   ·rw[fj] at hb';exact hb'.elim
   ·rw[fo k h1 h2 h3] at hb
    rw[fn] at hb'
    exact(cross h1 h2 hk hb (.inr hb')).elim
   ·rw[fo k h1 h2 h3] at hb
    rw[fo k' h1' h2' h3'] at hb'
    exact hH.disj k k' r r' b hk hk' hb hb'
  ·obtain⟨cs0,e0,hp0⟩:=hx
   exact⟨cs0,e0,hp0.1,fun j g y hg hy=>by simp at hg⟩
  ·rcases lk2 hk with⟨rfl,rfl⟩ | ⟨rfl,rfl⟩ | ⟨rfl,rfl⟩ | ⟨h1,h2,h3,hk⟩
   ·rw[f0] at hb
    rcases old2 (.inl hb) hlt with h4 | h4
    ·exact⟨0,_,rfl,h4⟩
    ·exact⟨jo,_,hjo,h4⟩
   ·rw[fj] at hb;exact hb.elim
   ·rw[fn] at hb
    rcases old2 (.inr hb) hlt with h4 | h4
    ·exact⟨0,_,rfl,h4⟩
    ·exact⟨jo,_,hjo,h4⟩
   ·rw[fo k h1 h2 h3] at hb
    exact⟨k,r,hk,hb⟩⟩
theorem FnO.peekZ {P:Program}{f:FuncId}{gs gs':List G}{cs cs':List G}{t:Nat}{rest:List R}{jo e sz:Nat}{out out':List (List G)}
  (hjo:look jo (B7 (R.blk cs t::rest) 0)=some (.slc out e sz))
  (hK:KeepS jo (rest.length+1) cs cs') (hgs:gs=gs') (hg:Av Ps gs'=true) (hv:∀r∈out',∀g∈r,Gb g=true)
  (h:∀u,FnO P f (.ptr 0 0::gs') [.blk (K8 jo 1 u 0 cs) t,.slc out e sz] fun g rs=>g=.tup []∧rs=[.blk (K8 (rest.length+1) 2 u 0 cs') t,.gone,.slc out' e sz]) :
  FnO P f (.ptr 0 0::gs) (.blk cs t::rest) fun g rs=>g=.tup []∧rs=.blk cs' t::(rest.set (jo - 1) .gone++[.slc out' e sz]) :=
 ⟨(h fun _=>undef).1,fun I V w vs hH hn hp=>by
  have hjo0:jo≠0:=fun e=>by subst e;cases hjo
  have hjon:=hH.num jo _ hjo
  have hVn:V.n=rest.length+1:=hn
  obtain⟨hf0,us,hw0,hcs⟩:=hH.each 0 _ rfl
  have hI2:∀b o x,I b o=some x→I b o=some x:=fun _ _ _ h=>h
  let u:Nat→Value:=fun j=>(us[j]?).getD undef
  let V1:Va:=⟨2,fun k=>if k=0 then V.b 0 else V.b jo,fun k=>if k=0 then V.s 0 else V.s jo,fun k=>if k=0 then V.f 0 else V.f jo⟩
  have lk1:∀{cs:List G} {o:List (List G)} {k:Nat} {r:R},look k (B7 [R.blk cs t,.slc o e sz] 0)=some r→(k=0∧r=.blk cs t)∨(k=1∧r=.slc o e sz):=fun {cs o k r} hk=>by
   rw[Af] at hk
   rcases k with _ | _ | k
   ·simp at hk;exact .inl ⟨rfl,hk.symm⟩
   ·simp at hk;exact .inr ⟨rfl,hk.symm⟩
   ·simp at hk
  have hmem2:Mem I w:=hH.mem
  have notjs:∀{k:Nat} {r:R} {b:Nat},look k (B7 (R.blk cs t::rest) 0)=some r→V.f k b→∀o,I b o=none:=fun {k r b} hk hb o=>(hH.foot k r b hk hb).2 o
  have hH1:Has I V1 (B7 [R.blk (K8 jo 1 u 0 cs) t,.slc out e sz] 0) w:=by
   refine⟨hmem2,fun k r hk=>?_,fun k r hk=>?_,fun k r b hk hb=>?_,fun k k' r r' b hk hk' hb hb'=>?_⟩
   ·rcases lk1 hk with⟨rfl,-⟩ | ⟨rfl,-⟩<;>show _ < 2<;>omega
   ·rcases lk1 hk with⟨rfl,rfl⟩ | ⟨rfl,rfl⟩
    ·refine⟨hf0,us,hw0,by rw[Gn];exact hcs.1,fun j g x hg hx=>?_⟩
     rw[Gm] at hg
     obtain⟨g1,h1,rfl⟩:=ax.1 hg
     have hu:u (0+j)=x:=by show(us[0+j]?).getD undef=x;rw[ca,hx];rfl
     rw[hu]
     have hc:=hcs.2 j g1 x h1 hx
     cases g1 with
     | v z =>
      have:=C2 hc
      subst this
      exact VRep.v _
     | osl j' =>
      show CRep I V1 (bif Nat.beq j' jo then .osl 1 else .v x) x
      cases hb:Nat.beq j' jo with
      | false=>exact VRep.v _
      | true =>
       have:=ai hb
       subst this
       exact⟨by show 1 < 2;omega,hc.2⟩
     | _=>exact VRep.v _
    ·obtain⟨q1,rs,q2,q3,q4,q5⟩:=hH.each jo _ hjo
     exact⟨q1,rs,q2,q3,fun i r y hr hy=>(q4 i r y hr hy).mono fun _ _ h=>h.mono hI2,q5⟩
   ·rcases lk1 hk with⟨rfl,rfl⟩ | ⟨rfl,rfl⟩
    ·exact⟨(hH.foot 0 _ b rfl hb).1,notjs (k:=0) rfl hb⟩
    ·exact⟨(hH.foot jo _ b hjo hb).1,notjs hjo hb⟩
   ·rcases lk1 hk with⟨rfl,rfl⟩ | ⟨rfl,rfl⟩<;>rcases lk1 hk' with⟨rfl,rfl⟩ | ⟨rfl,rfl⟩
    ·rfl
    ·exact dc (hH.disj 0 jo _ _ b rfl hjo hb hb') (fun e=>hjo0 e.symm)
    ·exact dc (hH.disj jo 0 _ _ b hjo rfl hb hb') hjo0
    ·rfl
  have hp1:PW (PRep I V1) (.ptr 0 0::gs') vs:=by
   subst hgs
   refine⟨by have:=hp.1;simpa using this,fun j g y hg' hy=>?_⟩
   cases j with
   | zero =>
    obtain rfl:G.ptr 0 0=g:=by simpa using hg'
    have h3:=hp.2 0 (.ptr 0 0) y rfl hy
    exact⟨by show 0 < 2;omega,h3.2⟩
   | succ j =>
    have hg2:gs[j]?=some g:=by simpa using hg'
    have h4:=Ac hg g (ae hg2)
    have h3:=(hp.2 (j+1) g y (by simpa using hg2) hy).to_t
    have h7:VRep I g y:=by
     generalize g=gg at h3 h4
     cases gg<;>first
      | exact h3
      | cases h4
    exact .of_v h7
  refine((h u).2 I V1 w vs hH1 rfl hp1).mono fun e' w' ⟨x,g,rs',I',V',he,hq,hn',hH',hx,hF,hle⟩=>?_
  obtain⟨rfl,rfl⟩:=hq
  have b0:V'.b 0=V.b 0:=(hle.2 0 (by show 0 < 2;omega)).1
  have hI':∀b o,I' b o=none→I b o=none:=fun b o hi=>by
   cases hib:I b o with
   | none=>rfl
   | some y=>have:=hF.mono _ _ _ hib;rw[hi] at this;cases this
  have blk1:∀b,b < w.heap.size→¬V.f 0 b→¬V.f jo b→w'.heap[b]?=w.heap[b]?:=fun b hb h0 hj=>(hF.blk b hb fun k r hk hf=>by
   rcases lk1 hk with⟨rfl,-⟩ | ⟨rfl,-⟩
   ·exact h0 hf
   ·exact hj hf).1
  let VB:Va:=⟨rest.length+2,fun k=>if k < V.n then V.b k else V'.b 2,fun k=>if k < V.n then V.s k else V'.s 2,fun k=>if k=0 then V'.f 0 else if k=jo then fun _=>False else if k=rest.length+1 then V'.f 2 else V.f k⟩
  have hleB:V.le VB:=⟨by show V.n≤rest.length+2;omega,fun k hk=>⟨db hk,db hk⟩⟩
  have f0:VB.f 0=V'.f 0:=by show(if(0:Nat)=0 then V'.f 0 else if(0:Nat)=jo then fun _=>False else if(0:Nat)=rest.length+1 then V'.f 2 else V.f 0)=_;rw[db rfl]
  have fj:VB.f jo=fun _=>False:=by show(if jo=0 then V'.f 0 else if jo=jo then fun _=>False else if jo=rest.length+1 then V'.f 2 else V.f jo)=_;rw[da hjo0,db rfl]
  have fn:VB.f (rest.length+1)=V'.f 2:=by show(if rest.length+1=0 then V'.f 0 else if rest.length+1=jo then fun _=>False else if rest.length+1=rest.length+1 then V'.f 2 else V.f (rest.length+1))=_;rw[da (by omega),da (by omega),db rfl]
  have fo:∀k,k≠0→k≠jo→k≠rest.length+1→VB.f k=V.f k:=fun k h1 h2 h3=>by show(if k=0 then V'.f 0 else if k=jo then fun _=>False else if k=rest.length+1 then V'.f 2 else V.f k)=_;rw[da h1,da h2,da h3]
  have lk2:∀{k:Nat} {r:R},look k (B7 (R.blk cs' t::(rest.set (jo - 1) .gone++[.slc out' e sz])) 0)=some r→(k=0∧r=.blk cs' t)∨(k=jo∧r=.gone)∨(k=rest.length+1∧r=.slc out' e sz)∨(k≠0∧k≠jo∧k≠rest.length+1∧look k (B7 (R.blk cs t::rest) 0)=some r):=fun {k r} hk=>by
   rw[Af] at hk⊢
   cases k with
   | zero=>simp at hk;exact .inl ⟨rfl,hk.symm⟩
   | succ k =>
    have hk:(rest.set (jo - 1) .gone++[.slc out' e sz])[k]?=some r:=by simpa using hk
    by_cases hlt:k < rest.length
    ·rw[bk (by simpa using hlt),ck] at hk
     split at hk
     ·next e1 =>
      rw[db (by omega)] at hk
      cases hk
      exact .inr (.inl ⟨by omega,rfl⟩)
     ·next e1=>exact .inr (.inr (.inr ⟨by omega,by omega,by omega,by simpa using hk⟩))
    ·rw[be (by simp;omega),bf] at hk
     have hk0:k - rest.length=0:=by
      have:=(ac.1 hk).1
      simp at this;omega
     rw[hk0] at hk
     simp at hk
     exact .inr (.inr (.inl ⟨by omega,hk.symm⟩))
  have old2:∀{b:Nat},(V'.f 0 b∨V'.f 2 b)→b < w.heap.size→V.f 0 b∨V.f jo b:=fun {b} hb hlt=>by
   rcases hb with hb | hb
   ·obtain⟨j,r',hj,hf⟩:=hF.foot 0 _ b rfl hb hlt
    rcases lk1 hj with⟨rfl,-⟩ | ⟨rfl,-⟩
    ·exact .inl hf
    ·exact .inr hf
   ·obtain⟨j,r',hj,hf⟩:=hF.foot 2 _ b rfl hb hlt
    rcases lk1 hj with⟨rfl,-⟩ | ⟨rfl,-⟩
    ·exact .inl hf
    ·exact .inr hf
  have cross:∀{k:Nat} {r:R} {b:Nat},k≠0→k≠jo→look k (B7 (R.blk cs t::rest) 0)=some r→V.f k b→(V'.f 0 b∨V'.f 2 b)→False:=fun {k r b} h1 h2 hk hb h3=>by
   rcases old2 h3 (hH.foot k r b hk hb).1 with h4 | h4
   ·exact h1 (hH.disj k 0 _ _ b hk rfl hb h4)
   ·exact h2 (hH.disj k jo _ _ b hk hjo hb h4)
  refine⟨x,.tup [],_,I,VB,he,⟨rfl,rfl⟩,?_,⟨fun b o y hy=>?_,fun k r hk=>?_,fun k r hk=>?_,fun k r b hk hb=>?_,fun k k' r r' b hk hk' hb hb'=>?_⟩,?_,⟨hF.os,hF.tape,hF.output,hF.size,fun b hb hno=>⟨blk1 b hb (hno 0 _ rfl) (hno jo _ hjo),fun _=>rfl⟩,fun _ _ _ h=>h,fun k r b hk hb hlt=>?_⟩,hleB⟩
  ·show rest.length+2=_
   simp
  ·have h1:=hH.mem b o y hy
   have hlt:=hH.mem.lt hy
   have h2:=blk1 b hlt (fun hf=>by rw[(hH.foot 0 _ b rfl hf).2 o] at hy;cases hy) (fun hf=>by rw[(hH.foot jo _ b hjo hf).2 o] at hy;cases hy)
   unfold World.cell? at h1⊢
   dsimp only at h1⊢
   rw[h2];exact h1
  ·show k < rest.length+2
   rcases lk2 hk with⟨rfl,-⟩ | ⟨rfl,-⟩ | ⟨rfl,-⟩ | ⟨-,-,-,hk⟩
   ·omega
   ·omega
   ·omega
   ·have:=hH.num k r hk;omega
  ·rcases lk2 hk with⟨rfl,rfl⟩ | ⟨rfl,rfl⟩ | ⟨rfl,rfl⟩ | ⟨h1,h2,h3,hk⟩
   ·obtain⟨hf',us',hw',hcs'⟩:=hH'.each 0 _ rfl
    have bB:VB.b 0=V.b 0:=db (by omega)
    refine⟨fun b=>?_,us',by rw[bB,←b0];exact hw',by rw[←hcs'.1,Gn],fun j g y hg' hy=>?_⟩
    ·rw[f0,bB,←b0];exact hf' b
    ·have h1:=hcs'.2 j _ y (by rw[Gm,hg'];rfl) hy
     have hlen:j < us.length:=by
      have:=(ac.1 hg').1
      rw[hK.len] at this
      rw[←hcs.1];exact this
     rcases hK.get hg' with h2 | rfl | ⟨hold,hnjo⟩
     ·obtain⟨z,rfl⟩:=Z7q h2
      have h1:CRep I' V' (.v z) y:=h1
      have:=C2 h1
      subst this
      exact VRep.v _
     ·have h1:CRep I' V' (Zc1 (rest.length+1) 2 (u (0+j)) (.osl (rest.length+1))) y:=h1
      unfold Zc1 at h1
      dsimp only at h1
      rw[Nat.beq_refl] at h1
      have h1:CRep I' V' (.osl 2) y:=h1
      exact⟨by show rest.length+1 < rest.length+2;omega,by show y=if rest.length+1 < V.n then _ else _;rw[da (by omega)];exact h1.2⟩
     ·have h2:=hcs.2 j g us[j] hold (ab hlen)
      have hu:u (0+j)=us[j]:=by show(us[0+j]?).getD undef=_;rw[ca,ab hlen];rfl
      rw[hu] at h1
      have:y=us[j]:=by
       cases g with
       | v z =>
        have h3:=C2 (show CRep I' V' (.v z) y from h1)
        have h4:=C2 h2
        rw[h3,h4]
       | osl k =>
        have hkn:k < V.n:=h2.1
        have h1:CRep I' V' (bif Nat.beq k (rest.length+1) then .osl 2 else .v us[j]) y:=h1
        have hb:Nat.beq k (rest.length+1)=false:=by
         cases hb:Nat.beq k (rest.length+1) with
         | false=>rfl
         | true=>have:=ai hb;omega
        rw[hb] at h1
        exact C2 h1
       | _=>exact C2 h1
      rw[this]
      exact h2.mono (.refl _) hleB
   ·show ∀c,¬VB.f _ c
    rw[fj];exact fun c hc=>hc
   ·have hs:VB.s (rest.length+1)=V'.s 2:=da (by omega)
    obtain⟨q1,rs,q2,q3,q4,q5⟩:=hH'.each 2 _ rfl
    exact⟨fun b=>by rw[fn,hs];exact q1 b,rs,by rw[hs];exact q2,q3,fun i r y hr hy=>⟨(q4 i r y hr hy).1,fun j g z hg hz=>T9 (hv r (ae hr) g (ae hg)) ((q4 i r y hr hy).2 j g z hg hz)⟩,q5⟩
   ·exact(hH.each k r hk).keep (.refl _) hleB (hH.num k r hk) (fo k h1 h2 h3) hF.os hF.size fun b hb=>blk1 b (hH.foot k r b hk hb).1 (fun hf=>h1 (hH.disj k 0 _ _ b hk rfl hb hf)) (fun hf=>h2 (hH.disj k jo _ _ b hk hjo hb hf))
  ·rcases lk2 hk with⟨rfl,rfl⟩ | ⟨rfl,rfl⟩ | ⟨rfl,rfl⟩ | ⟨h1,h2,h3,hk⟩
   ·rw[f0] at hb
    have h4:=hH'.foot 0 _ b rfl hb
    exact⟨h4.1,fun o=>hI' b o (h4.2 o)⟩
   ·rw[fj] at hb;exact hb.elim
   ·rw[fn] at hb
    have h4:=hH'.foot 2 _ b rfl hb
    exact⟨h4.1,fun o=>hI' b o (h4.2 o)⟩
   ·rw[fo k h1 h2 h3] at hb
    have h4:=hH.foot k r b hk hb
    exact⟨ap h4.1 hF.size,h4.2⟩
  ·rcases lk2 hk with⟨rfl,rfl⟩ | ⟨rfl,rfl⟩ | ⟨rfl,rfl⟩ | ⟨h1,h2,h3,hk⟩<;>rcases lk2 hk' with⟨rfl,rfl⟩ | ⟨rfl,rfl⟩ | ⟨rfl,rfl⟩ | ⟨h1',h2',h3',hk'⟩
   ·rfl
   ·rw[fj] at hb';exact hb'.elim
   ·rw[f0] at hb
    rw[fn] at hb'
    have:=hH'.disj 0 2 _ _ b rfl rfl hb hb'
    omega
   ·rw[f0] at hb
    rw[fo k' h1' h2' h3'] at hb'
    exact(cross h1' h2' hk' hb' (.inl hb)).elim
   ·rw[fj] at hb;exact hb.elim
   ·rfl
   ·rw[fj] at hb;exact hb.elim
   ·rw[fj] at hb;exact hb.elim
   ·rw[fn] at hb
    rw[f0] at hb'
    have:=hH'.disj 2 0 _ _ b rfl rfl hb hb'
    omega
   ·rw[fj] at hb';exact hb'.elim
   ·rfl
   ·rw[fn] at hb
    rw[fo k' h1' h2' h3'] at hb'
    exact(cross h1' h2' hk' hb' (.inr hb)).elim
   ·rw[fo k h1 h2 h3] at hb
    rw[f0] at hb'
    exact(cross h1 h2 hk hb (.inl hb')).elim
   ·rw[fj] at hb';exact hb'.elim
   ·rw[fo k h1 h2 h3] at hb
    rw[fn] at hb'
    exact(cross h1 h2 hk hb (.inr hb')).elim
   ·rw[fo k h1 h2 h3] at hb
    rw[fo k' h1' h2' h3'] at hb'
    exact hH.disj k k' r r' b hk hk' hb hb'
  ·obtain⟨cs0,e0,hp0⟩:=hx
   exact⟨cs0,e0,hp0.1,fun j g y hg hy=>by simp at hg⟩
  ·rcases lk2 hk with⟨rfl,rfl⟩ | ⟨rfl,rfl⟩ | ⟨rfl,rfl⟩ | ⟨h1,h2,h3,hk⟩
   ·rw[f0] at hb
    rcases old2 (.inl hb) hlt with h4 | h4
    ·exact⟨0,_,rfl,h4⟩
    ·exact⟨jo,_,hjo,h4⟩
   ·rw[fj] at hb;exact hb.elim
   ·rw[fn] at hb
    rcases old2 (.inr hb) hlt with h4 | h4
    ·exact⟨0,_,rfl,h4⟩
    ·exact⟨jo,_,hjo,h4⟩
   ·rw[fo k h1 h2 h3] at hb
    exact⟨k,r,hk,hb⟩⟩
def Mi:G→G
 | .tt=>.v (.bool true)
 | .ff=>.v (.bool false)
 | .nl=>.sl []
 | g=>g
theorem Mu {I:Imm}{V:Va}{g:G}{x:Value}(h:CRep I V g x):CRep I V (Mi g) x:=by
 cases g with
 | tt =>
  have h:VRep I .tt x:=h
  cases h
  exact VRep.v _
 | ff =>
  have h:VRep I .ff x:=h
  cases h
  exact VRep.v _
 | nl =>
  have h:VRep I .nl x:=h
  cases h
  exact VRep.sl (I:=I) [] none 0 0 (fun _ _=>undef) (af _) (fun _=>rfl) (fun r hr=>by cases hr) (fun i r h=>by simp at h) (fun i r j g h=>by simp at h)
 | _=>exact h
theorem FnO.seenE {P:Program}{f:FuncId}{gs cs cs':List G}{t:TypeId}{rs:List R}{Q:G→List R→Prop}(hc:cs.map Mi=cs')(h:FnO P f gs (.blk cs' t::rs) Q):FnO P f gs (.blk cs t::rs) Q:=by
 subst hc
 have hl:∀k,k≠0→look k (B7 (R.blk (cs.map Mi) t::rs) 0)=look k (B7 (R.blk cs t::rs) 0):=fun k hk=>by
  cases k with
  | zero=>exact dc rfl hk
  | succ k=>rfl
 have l0:∀(c:List G),look 0 (B7 (R.blk c t::rs) 0)=some (.blk c t):=fun c=>rfl
 have ex:∀{c c':List G} {k:Nat} {r:R},(c=cs∧c'=cs.map Mi∨c=cs.map Mi∧c'=cs)→look k (B7 (R.blk c t::rs) 0)=some r→∃r',look k (B7 (R.blk c' t::rs) 0)=some r':=fun {c c' k r} hc hk=>by
  by_cases h0:k=0
  ·subst h0;exact⟨_,l0 c'⟩
  ·rcases hc with⟨rfl,rfl⟩ | ⟨rfl,rfl⟩
   ·exact⟨r,by rw[hl k h0];exact hk⟩
   ·exact⟨r,by rw[←hl k h0];exact hk⟩
 refine⟨h.1,fun I V w vs hH hn hp=>?_⟩
 have hH':Has I V (B7 (R.blk (cs.map Mi) t::rs) 0) w:=by
  refine⟨hH.mem,fun k r hk=>?_,fun k r hk=>?_,fun k r b hk hb=>?_,fun k k' r r' b hk hk' hb hb'=>?_⟩
  ·obtain⟨r',hr⟩:=ex (.inr ⟨rfl,rfl⟩) hk
   exact hH.num k r' hr
  ·by_cases h0:k=0
   ·subst h0
    rw[l0] at hk
    obtain rfl:=cg hk
    obtain⟨h1,us,h2,h3,h4⟩:=hH.each 0 _ (l0 cs)
    refine⟨h1,us,h2,by rw[aa];exact h3,fun j g u hg hu=>?_⟩
    rw[aj] at hg
    obtain⟨g0,hg0,rfl⟩:=ax.1 hg
    exact Mu (h4 j g0 u hg0 hu)
   ·rw[hl k h0] at hk
    exact hH.each k r hk
  ·obtain⟨r',hr⟩:=ex (.inr ⟨rfl,rfl⟩) hk
   exact hH.foot k r' b hr hb
  ·obtain⟨q,hr⟩:=ex (.inr ⟨rfl,rfl⟩) hk
   obtain⟨q',hr'⟩:=ex (.inr ⟨rfl,rfl⟩) hk'
   exact hH.disj k k' q q' b hr hr' hb hb'
 refine(h.2 I V w vs hH' hn hp).mono fun e w' hx=>?_
 obtain⟨x,g,rs',I',V',he,hq,hn',hh,hpr,hf,hle⟩:=hx
 refine⟨x,g,rs',I',V',he,hq,hn',hh,hpr,⟨hf.os,hf.tape,hf.output,hf.size,fun b hb hb2=>hf.blk b hb fun k r hk=>?_,hf.mono,fun k r b hk hb hb2=>?_⟩,hle⟩
 ·obtain⟨r',hr⟩:=ex (.inr ⟨rfl,rfl⟩) hk
  exact hb2 k r' hr
 ·obtain⟨j,r',hj,hfj⟩:=hf.foot k r b hk hb hb2
  obtain⟨q,hq'⟩:=ex (.inr ⟨rfl,rfl⟩) hj
  exact⟨j,q,hq',hfj⟩
end Go.Proofs.YtihfaocdpmmooaaGreat
