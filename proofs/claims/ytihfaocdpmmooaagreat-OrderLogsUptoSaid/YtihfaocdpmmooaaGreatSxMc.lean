
import Derived.Test.YtihfaocdpmmooaaGreatSxMd
import Derived.Test.YtihfaocdpmmooaaGreatZLaw
import Derived.Test.YtihfaocdpmmooaaGreatProg
namespace Go.Proofs.YtihfaocdpmmooaaGreat
open Go.ChangeShapes Go.WideShapes Go.ChangeAt Go.RowKit
inductive Sp where
 | i (k:IntKind)
 | s
 | b
 | sl (e:List Sp)
def Uy (P:Program)(F:TypeId→Option (List Sp)):List Field→Nat→Option (List Sp)
 | [],_=>some []
 | f::fs,off=>match Nat.beq f.offset off,F f.type with
  | true,some sh=>match Nat.beq (P.cellsOf f.type) sh.length,Uy P F fs (off+sh.length) with
   | true,some sh'=>some (sh++sh')
   | _,_=>none
  | _,_=>none
def Zdd:Nat→List Sp→List Sp
 | 0,_=>[]
 | n+1,l=>l++Zdd n l
def Qa (P:Program):Nat→TypeId→Option (List Sp)
 | 0,_=>none
 | d+1,t=>match P.underlying t with
  | some (.int k)=>some [.i k]
  | some .string=>some [.s]
  | some .bool=>some [.b]
  | some (.slice e)=>match Qa P d e with
   | some sh=>bif Nat.beq (P.cellsOf e) sh.length&&Nat.blt 0 sh.length then some [.sl sh] else none
   | none=>none
  | some (.struct fs)=>match Uy P (Qa P d) fs.toList 0 with
   | some sh=>bif Nat.beq (P.cellsOf t) sh.length then some sh else none
   | none=>none
  | some (.array n e)=>match Qa P d e with
   | some sh=>bif Nat.beq (P.cellsOf e) sh.length&&Nat.beq (P.cellsOf t) (n * sh.length) then some (Zdd n sh) else none
   | none=>none
  | _=>none
inductive TyL:List Sp→List G→Prop
 | nil:TyL [] []
 | i {k:IntKind} {l:List Sp} {gs:List G} (n:Int) (hn:k.min≤n∧n≤k.max) (h:TyL l gs):TyL (.i k::l) (.v (.int k n)::gs)
 | s {l:List Sp} {gs:List G} (s:ByteArray) (hs:s.size≤maxLen) (h:TyL l gs):TyL (.s::l) (.v (.string s)::gs)
 | b {l:List Sp} {gs:List G} (b:Bool) (h:TyL l gs):TyL (.b::l) (.v (.bool b)::gs)
 | sl {e l:List Sp} {gs:List G} (rows:List (List G)) (hl:rows.length≤maxLen) (hr:∀r∈rows,TyL e r) (h:TyL l gs):TyL (.sl e::l) (.sl rows::gs)
theorem TyL.nil_inv {gs:List G}(h:TyL [] gs):gs=[]:=by cases h;rfl
theorem TyL.i_inv {k:IntKind}{l:List Sp}{gs:List G}(h:TyL (.i k::l) gs):∃n gs',gs=.v (.int k n)::gs'∧(k.min≤n∧n≤k.max)∧TyL l gs':=by cases h with | i n hn h=>exact⟨n,_,rfl,hn,h⟩
theorem TyL.s_inv {l:List Sp}{gs:List G}(h:TyL (.s::l) gs):∃s gs',gs=.v (.string s)::gs'∧s.size≤maxLen∧TyL l gs':=by cases h with | s n hn h=>exact⟨n,_,rfl,hn,h⟩
theorem TyL.sl_inv {e l:List Sp}{gs:List G}(h:TyL (.sl e::l) gs):∃rows gs',gs=.sl rows::gs'∧rows.length≤maxLen∧(∀r∈rows,TyL e r)∧TyL l gs':=by cases h with | sl n h1 h2 h=>exact⟨n,_,rfl,h1,h2,h⟩
theorem TyL.app {l m:List Sp}{gs hs:List G}(h:TyL l gs)(h':TyL m hs):TyL (l++m) (gs++hs):=by
 induction h with
 | nil=>exact h'
 | i n hn _ ih=>exact .i n hn ih
 | s n hn _ ih=>exact .s n hn ih
 | b n _ ih=>exact .b n ih
 | sl n h1 h2 _ _ ih=>exact .sl n h1 h2 ih
theorem TyL.len {l:List Sp}{gs:List G}(h:TyL l gs):gs.length=l.length:=by
 induction h with
 | nil=>rfl
 | i _ _ _ ih=>simp[ih]
 | s _ _ _ ih=>simp[ih]
 | b _ _ ih=>simp[ih]
 | sl _ _ _ _ _ ih=>simp[ih]
theorem Z7m {α:Type}{f:α→List G}{Q:α→Prop}{rows:List (List G)}(h:∀r∈rows,∃x,r=f x∧Q x):∃l:List α,rows=l.map f∧∀x∈l,Q x:=by
 induction rows with
 | nil=>exact⟨[],rfl,by simp⟩
 | cons r rows ih =>
  obtain⟨l,h1,h2⟩:=ih fun r hr=>h r (by simp[hr])
  obtain⟨x,rfl,hx⟩:=h r (by simp)
  exact⟨x::l,by simp[h1],fun y hy=>by
   rcases List.mem_cons.1 hy with rfl | hy
   ·exact hx
   ·exact h2 y hy⟩
def Z21 (W:World):Imm:=fun b o=>W.cell? ⟨b,o,none⟩
theorem Z3t (W:World):Mem (Z21 W) W:=fun _ _ _ h=>h
section
variable {P:Program} {W:World} {H:Type} {enc:TypeId × Value→H}
theorem Zai {k:IntKind}{n:Int}(h:(Lit.int k n).wf=true):k.min≤n∧n≤k.max:=by
 have h2:(decide (k.min≤n)&&decide (n≤k.max))=true:=h
 simp only[Bool.and_eq_true,decide_eq_true_eq] at h2
 exact h2
theorem Jo {Q:G→Value→Prop}{gs hs:List G}{cs:List Value}{n:Nat}(h1:PW Q gs (cs.take n))(h2:PW Q hs (cs.drop n)):PW Q (gs++hs) cs:=by
 have:=h1.append h2
 rwa [List.take_append_drop] at this
theorem Z71 {F:FuncId}{gs:List G}(h:FnV P F gs fun q=>q=.v (.bool true)){vs:List Value}(hp:PW (VRep (Z21 W)) gs vs):Calls P F vs.toArray W fun e W'=>e=.returned (.bool true)∧Below W.heap.size W W' :=
 (h.2 (Z21 W) W vs (Z3t W) hp).mono fun e w' ⟨x,g,I',he,hq,_,hx,_,_,hb⟩=>by
  subst hq
  cases(show VRep I' (.v (.bool true)) x from hx)
  exact⟨he,hb⟩
end
end Go.Proofs.YtihfaocdpmmooaaGreat
namespace Go.Proofs.YtihfaocdpmmooaaGreat
open Go.RowKit
def gSt (s:ByteArray):List G:=[.v (.string s)]
theorem eqI {a b:Int}(h:a=b):(some (G.v (.int .i64 a)):Option G)=some (G.v (.int .i64 b)):=by rw[h]
theorem eqR {a b:List (List G)}{e sz:Nat}(h:a=b):(some (R.slc a e sz):Option R)=some (R.slc b e sz):=by rw[h]
theorem Cv {α:Type}{l:List α}{i:Nat}{x:α}(h:l[i]?=some x):l.take (i+1)=l.take i++[x]:=by
 have hi:=(List.getElem?_eq_some_iff.1 h)
 rw[List.take_succ_eq_append_getElem hi.1,hi.2]
theorem Dx {α:Type}{l:List α}{i:Nat}{x:α}(h:l[i]?=some x):i < l.length:=(List.getElem?_eq_some_iff.1 h).1
end Go.Proofs.YtihfaocdpmmooaaGreat
namespace Go.Proofs.YtihfaocdpmmooaaGreat
open Go.RowKit
theorem VR.res {I:Imm}{V:Va}{g:G}{x:Value}(h:VR I g x):PRes I V g x:=by
 cases g with
 | tup l=>obtain⟨cs,e,hp⟩:=h;exact⟨cs,e,hp.mono fun _ _ h=>.of_v h⟩
 | oag l=>cases(show VRep I (.oag l) x from h)
 | _=>exact PRep.of_v (V:=V) h
def Imm.new (I:Imm)(w w':World):Imm:=fun b o=>if w.heap.size≤b then w'.cell? ⟨b,o,none⟩ else I b o
theorem Bz {I:Imm}{z x:Value}(h:VRep I (.v z) x):x=z:=by cases h;rfl
abbrev gI (n:Int):G:=.v (.int .i64 n)
abbrev gS (s:ByteArray):G:=.v (.string s)
theorem jn {T G:Prop}(f:T→G)(x:T):G:=f x
end Go.Proofs.YtihfaocdpmmooaaGreat
namespace Go.Proofs.YtihfaocdpmmooaaGreat
open Go.RowKit
def Z2c:G→Bool
 | .v (.int _ _) | .v (.bool _) | .v (.string _)=>true
 | _=>false
def Ze7:G→Bool
 | .tup l=>Ap Z2c l
 | g=>Z2c g
def P2:G→Bool
 | .v _ | .agg _ | .sl _=>true
 | _=>false
theorem Pw {I I':Imm}{g:G}{x:Value}(h:Z2c g=true)(hx:VRep I g x):VRep I' g x:=by
 cases g with
 | v u=>have:=Ao (V:=⟨0,fun _=>0,fun _=>undef,fun _ _=>False⟩) (show TRep I _ (.v u) x from hx);subst this;exact .v _
 | _=>cases h
theorem FnV.peek {P:Program}{f:FuncId}{gs:List G}{rows:List (List G)}{e sz:Nat}{Q:G→Prop}(h:FnV P f (.sl rows::gs) Q)(hg:Ap P2 gs=true)(hq:∀g,Q g→Ze7 g=true):FnO P f (.osl 0::gs) [.slc rows e sz] fun g rs=>Q g∧rs=[.slc rows e sz] :=
 ⟨h.1,fun I V w vs hH hn hp=>by
  obtain⟨I2,hL,hv,-⟩:=E1 (k:=0) (rows:=rows) (e:=e) (sz:=sz) hH rfl
  have hp2:PW (VRep I2) (.sl rows::gs) vs:=by
   refine⟨hp.1,fun j g u h1 h2=>?_⟩
   cases j with
   | zero =>
    obtain rfl:G.sl rows=g:=by simpa using h1
    have h3:=hp.2 0 (.osl 0) u rfl h2
    have h3:u=V.s 0:=h3.2
    rw[h3];exact hv
   | succ j =>
    have h3:=hp.2 (j+1) g u h1 h2
    have h4:=Ac hg g (List.mem_of_getElem? h1)
    have h5:VRep I g u:=by
     cases g<;>first
      | exact h3
      | cases h4
    exact h5.mono hL.fro.mono
  refine(h.2 I2 w vs hL.has.mem hp2).mono fun e' w' ⟨x,g,I3,he,hq',hM,hx,hle,hold,hb⟩=>?_
  refine⟨x,g,_,I,V,he,⟨hq',rfl⟩,hn,hH.below hb,?_,⟨hb.os,hb.tape,hb.output,hb.size,fun b hlt _=>⟨hb.block b hlt,fun _=>rfl⟩,fun _ _ _ h=>h,fun k r b h1 h2 _=>⟨k,r,h1,h2⟩⟩,.refl _⟩
  have hfl:=hq g hq'
  cases g with
  | tup l =>
   obtain⟨cs,e1,hp⟩:=hx
   refine⟨cs,e1,hp.1,fun j g u h1 h2=>?_⟩
   have h4:=Ac (p:=Z2c) (l:=l) hfl g (List.mem_of_getElem? h1)
   have h5:=Pw (I':=I) h4 (hp.2 j g u h1 h2)
   exact .of_v h5
  | v u=>exact Pw (I':=I) hfl hx
  | _=>cases hfl⟩
end Go.Proofs.YtihfaocdpmmooaaGreat
namespace Go.Proofs.YtihfaocdpmmooaaGreat
open Go.RowKit
def Z5b (tt:List (Nat × TI))(t:Ts)(w:Os)(K:G→Os→Prop):ResultVar→Prop
 | .tmp i=>match look i t with
  | some (.osl k)=>match look k w with
   | some (.slc _ _ _)=>K (.osl k) w
   | _=>Zcl w (.osl k) K
  | some g=>Zcl w g K
  | none=>False
 | .cell i ty=>match look i t,look ty tt with
  | some (.ptr k off),some ti=>match look k w with
   | some (.blk cs _)=>match ti.agg with
    | true=>seg cs off ti.zero.length fun l=>K (.oag l) w
    | false=>False
   | _=>False
  | _,_=>False
def Kr (tt:List (Nat × TI))(t:Ts)(w:Os):List ResultVar→(List G→Os→Prop)→Prop
 | [],K=>K [] w
 | r::rs,K=>Z5b tt t w (fun g w'=>Kr tt t w' rs fun gs w''=>K (g::gs) w'') r
def Zc2 (own:Os):G→G
 | .tup l=>.tup (l.map (Eb own))
 | g=>Eb own g
inductive Z1w (roots:List Nat)(own:Os)(n:Nat)(g:G)(Q:G→List R→Prop):Prop
 | inl (h:∃its g',Z6p roots own n g Q its g')
 | inr (h:∃k r0 its g',look k own=some r0∧Z6p roots ((k,.gone)::own) n g Q its g')
 | gh (h:Gh (fun own n=>∃its g',Z6p roots own n (Zc2 own g) Q its g') own n)
def Z2 (tt:List (Nat × TI))(fn:Func)(roots:List Nat)(Q:G→List R→Prop):KC:=fun e t w n=>match e with
 | .exit _=>False
 | .goto _=>False
 | _=>match fn.results.toList with
  | [r]=>Kr tt t w [r] fun gs own=>match gs with
   | [g]=>Z1w roots own n g Q
   | _=>False
  | rs=>Kr tt t w rs fun gs own=>Z1w roots own n (.tup gs) Q
section
variable {P:Program} {tb:List (Nat × TI)} {N n0:Nat} {I:Imm} {V:Va} {a:Act} {t:Ts} {own own0:Os} {w:World}
theorem Z3n (hT:∀t i,look t tb=some i→TIok P t i){r:ResultVar}{K1:G→Os→Prop}(h:Z5b tb t own K1 r)(hH:Has I V own w)(ha:ARep N I V a t):∃g own' I' V' v,K1 g own'∧V'.n=V.n∧Later own I V w own' I' V' w∧PRe1 I' V' g v∧Dm P a w r v:=by
 cases r with
 | tmp i =>
  have old:Xo tb t own K1 (.tmp i)→∃g own' I' V' v,K1 g own'∧V'.n=V.n∧Later own I V w own' I' V' w∧PRe1 I' V' g v∧Dm P a w (.tmp i) v:=fun h=>by
   obtain⟨g',o1,I1,V1,v,h1,h2,h3,h4,h5⟩:=Z31 (K1:=K1) hT h hH ha
   exact⟨g',o1,I1,V1,v,h1,h2,h3,.of_p h4,h5⟩
  unfold Z5b at h
  dsimp only at h
  split at h
  ·next k hl =>
   split at h
   ·obtain⟨x,hx,hv⟩:=ha.get i _ hl
    exact⟨.osl k,own,I,V,x,h,rfl,.refl hH,hv,by unfold Dm Ij;simp[hx]⟩
   ·exact old (by unfold Xo;dsimp only;rw[hl];exact h)
  ·next g _ hl=>exact old (by unfold Xo;dsimp only;rw[hl];exact h)
  ·exact h.elim
 | cell i ty =>
  unfold Z5b at h
  dsimp only at h
  split at h
  ·next k off ti hl hty =>
   obtain⟨x,hx,hv⟩:=ha.get i _ hl
   obtain⟨-,rfl⟩:=Bo hv
   split at h
   ·next cs ty' hb2 =>
    obtain⟨us,h1,h2,h3⟩:=Km hH hb2
    have hti:=hT _ _ hty
    cases hag:ti.agg with
    | false=>rw[hag] at h;exact h.elim
    | true =>
     rw[hag] at h
     have hseg:=h
     obtain⟨l,hk,k2,-⟩:=Ku h h2
     have hlen2:((us.drop off).take ti.zero.length).length=ti.zero.length:=by
      rcases Nat.eq_zero_or_pos ti.zero.length with h0 | h0
      ·rw[h0];simp
      ·have:=Mz hseg h2 h0;simp;omega
     refine⟨.oag l,own,I,V,Value.agg ((us.drop off).take ti.zero.length).toArray,hk,rfl,.refl hH,⟨_,rfl,k2⟩,?_⟩
     have:=Cm (P:=P) (w:=w) (g:=V.b k) (k:=off) (ty:=ty) (cs:=(us.drop off).take ti.zero.length) (by rw[hti.agg,hag]) (by rw[hti.size,hlen2]) (fun j v hv=>by rw[h3];exact Ie hv)
     unfold Dm Ij
     simp[hx,asAddr,this]
   ·exact h.elim
  ·exact h.elim
theorem Hn (hT:∀t i,look t tb=some i→TIok P t i):∀{rs:List ResultVar} {own:Os} {I:Imm} {V:Va} {K1:List G→Os→Prop},Kr tb t own rs K1→Has I V own w→ARep N I V a t→∃gs own' I' V',∃vs:List Value,K1 gs own'∧V'.n=V.n∧Later own I V w own' I' V' w∧PW (PRe1 I' V') gs vs∧vs.length=rs.length∧∀(i:Nat) r v,rs[i]?=some r→vs[i]?=some v→Dm P a w r v
 | [],own,I,V,K1,h,hH,_=>⟨[],own,I,V,[],h,rfl,.refl hH,.nil,rfl,fun i r v h=>by simp at h⟩
 | r::rs,own,I,V,K1,h,hH,ha=>by
  obtain⟨g,o1,I1,V1,v,h1,hn,h2,h3,h4⟩:=Z3n (K1:=fun g w'=>Kr tb t w' rs fun gs w''=>K1 (g::gs) w'') hT h hH ha
  obtain⟨gs,o2,I2,V2,vs,k1,kn,k2,k3,k4,k5⟩:=Hn hT h1 h2.has (ha.mono h2.fro.mono h2.va)
  refine⟨g::gs,o2,I2,V2,v::vs,k1,kn.trans hn,h2.trans k2,.cons (h3.mono k2.fro.mono k2.va) k3,by simp[k4],fun i r' v' hr hv=>?_⟩
  cases i with
  | zero=>simp at hr hv;subst hr hv;exact h4
  | succ i=>exact k5 i r' v' (by simpa using hr) (by simpa using hv)
theorem PRes.mono {I I':Imm}{V V':Va}{g:G}{x:Value}(h:PRes I V g x)(hI:I.le I')(hV:V.le V'):PRes I' V' g x:=by
 cases g with
 | tup l=>obtain⟨cs,e,hp⟩:=h;exact⟨cs,e,hp.mono fun _ _ h=>h.mono hI hV⟩
 | v z=>exact PRe1.mono (g:=.v z) h hI hV
 | tt=>exact PRe1.mono (g:=.tt) h hI hV
 | ff=>exact PRe1.mono (g:=.ff) h hI hV
 | un=>exact PRe1.mono (g:=.un) h hI hV
 | nl=>exact PRe1.mono (g:=.nl) h hI hV
 | agg l=>exact PRe1.mono (g:=.agg l) h hI hV
 | oag l=>exact PRe1.mono (g:=.oag l) h hI hV
 | ptr k o=>exact PRe1.mono (g:=.ptr k o) h hI hV
 | sl l=>exact PRe1.mono (g:=.sl l) h hI hV
 | osl k=>exact PRe1.mono (g:=.osl k) h hI hV
 | osv k a b c=>exact PRe1.mono (g:=.osv k a b c) h hI hV
 | elp l o=>exact PRe1.mono (g:=.elp l o) h hI hV
 | oel k i s o=>exact PRe1.mono (g:=.oel k i s o) h hI hV
 | orv k i s o l c=>exact PRe1.mono (g:=.orv k i s o l c) h hI hV
 | mp k=>exact PRe1.mono (g:=.mp k) h hI hV
 | clo f a c=>exact PRe1.mono (g:=.clo f a c) h hI hV
theorem Q9 {g:G}{x:Value}(hH:Has I V own w)(h:PRe1 I V g x):PRe1 I V (Eb own g) x:=by
 cases g with
 | osl i =>
  unfold Eb
  dsimp only
  split
  ·next rows sz hl =>
   obtain⟨-,rfl⟩:=(show i < V.n∧x=V.s i from h)
   exact(hH.each i _ hl).2.1
  ·exact h
 | osv i sz lo hi =>
  have h2:=Ll hH (show CRep I V (.osv i sz lo hi) x from h)
  unfold Eb at h2⊢
  dsimp only at h2⊢
  split at h2
  ·split at h2<;>exact h2
  ·exact h2
 | tt=>cases(show VRep I .tt x from h);exact VRep.v _
 | ff=>cases(show VRep I .ff x from h);exact VRep.v _
 | _=>exact h
theorem Zao {g:G}{x:Value}(hH:Has I V own w)(h:PRes I V g x):PRes I V (Zc2 own g) x:=by
 cases g with
 | tup l =>
  obtain⟨cs,e,hp⟩:=h
  refine⟨cs,e,by simpa using hp.1,fun j g u hg hu=>?_⟩
  rw[List.getElem?_map] at hg
  obtain⟨g0,h1,rfl⟩:=Option.map_eq_some_iff.1 hg
  exact Q9 hH (hp.2 j g0 u h1 hu)
 | osl i =>
  have h2:=Q9 (g:=.osl i) hH h
  show PRes I V (Eb own (.osl i)) x
  unfold Eb at h2⊢
  dsimp only at h2⊢
  split at h2<;>exact h2
 | osv i sz lo hi =>
  have h2:=Q9 (g:=.osv i sz lo hi) hH h
  show PRes I V (Eb own (.osv i sz lo hi)) x
  unfold Eb at h2⊢
  dsimp only at h2⊢
  split at h2
  ·split at h2<;>exact h2
  ·exact h2
 | tt=>exact Q9 (g:=.tt) hH h
 | ff=>exact Q9 (g:=.ff) hH h
 | _=>exact h
theorem W3 (hT:∀t i,look t tb=some i→TIok P t i)(hm:P.follows .mixedOrders=true){f:FuncId}{fn:Func}{c:Code}{gs gs0:List G}{rs:List R}{roots:List Nat}{Q:G→List R→Prop}(hf:P.funcs[f]?=some fn)(hname:(fn.name=="runtime.NumGoroutine")=false) (hb:fn.body=some c) (hn:gs0.length≤fn.ntmps) (hc:Dr tb fn.ntmps c=true)
  (ho:Z7y rs gs own0 n0 gs0 roots) (h:sxC P tb c (Iq 0 gs0) own0 n0 (Z2 tb fn roots Q)):FnO P f gs rs Q:=by
 refine⟨⟨fn,hf,hname,by rw[hb];rfl⟩,fun I V w vs hH hVn hp=>?_⟩
 obtain⟨V2,h2n,hH2,hp2,hF2,hroot⟩:=ho.run I V w vs hH hVn hp
 refine calls_of_wp hf hb ?_
 have hlen:vs.length=gs0.length:=hp2.1.symm
 have ha:ARep fn.ntmps I V2 {tmps:=vs.toArray++Array.replicate (fn.ntmps - vs.toArray.size) undef,defers:=[]} (Iq 0 gs0):=by
  refine⟨rfl,by simp;omega,fun i g hg=>?_⟩
  obtain⟨j,e,hj⟩:=G9 hg
  obtain rfl:i=j:=by omega
  obtain⟨u,hu,hr⟩:=hp2.get hj
  refine⟨u,?_,hr⟩
  have hi:=(List.getElem?_eq_some_iff.1 hu).1
  show(vs.toArray++_)[i]?=_
  rw[Array.getElem?_append_left (by simpa using hi)]
  simpa using hu
 have h:sxC P tb c (Iq 0 gs0) own0 V2.n (Z2 tb fn roots Q):=by rw[h2n];exact h
 refine Z6v (own0:=own0) (I0:=I) (V0:=V2) (w0:=w) hT hm (V:=V2) h ⟨hH2,.refl _ _ _ _,Nat.le_refl _,fun _ _=>rfl⟩ ha hc (fun ch d v a w hq=>?_) fun e t own I1 V1 a w1 hk hS hA=>?_
 ·cases d<;>exact hq
 ·have key:(∀id,e≠.exit id)→bodyPost P fn (fun e w'=>∃x g rs' I' V',e=.returned x∧Q g rs'∧V'.n=rs'.length∧Has I' V' (Aw rs' 0) w'∧PRes I' V' g x∧Fro (Aw rs 0) I V w (Aw rs' 0) I' V' w'∧V.le V') .ret a w1:=fun he=>by
   refine⟨hA.defers,?_⟩
   have hk:match fn.results.toList with
     | [r]=>Kr tb t own [r] fun gs own=>match gs with
      | [g]=>Z1w roots own V1.n g Q
      | _=>False
     | rs=>Kr tb t own rs fun gs own=>Z1w roots own V1.n (.tup gs) Q:=by
    cases e with
    | exit id=>exact absurd rfl (he id)
    | goto l=>exact hk.elim
    | normal=>exact hk
    | ret=>exact hk
   have fin1:∀{own' I' V' g x},Later own I1 V1 w1 own' I' V' w1→PRes I' V' g x→(∃its g',Z6p roots own' V'.n g Q its g')→∃x' g rs' I' V',Ending.returned x=.returned x'∧Q g rs'∧V'.n=rs'.length∧Has I' V' (Aw rs' 0) w1∧PRes I' V' g x'∧Fro (Aw rs 0) I V w (Aw rs' 0) I' V' w1∧V.le V':=fun {own' I' V' g x} hl hx ⟨its,g',hE⟩=>by
    obtain⟨V4,k1,k2,k3,k4,k5,k6⟩:=Z37 hE hl.has hx V.s
    have hfro:=(hF2.trans hS.fro).trans hl.fro
    refine⟨x,g',its.map It.res,I',V4,rfl,hE.post,by simpa using k1,k2,k3,⟨hfro.os,hfro.tape,hfro.output,hfro.size,hfro.blk,hfro.mono,fun i r b hi hb hlt=>?_⟩,?_,fun i hi=>⟨?_,k6 i (by rw[ho.len];omega)⟩⟩
    ·obtain⟨k,r',h1,h2⟩:=k4 i b hb
     exact hfro.foot k r' b h1 h2 hlt
    ·rw[k1,hVn,←ho.len]
     obtain⟨l,hl⟩:=hE.rts
     have:=congrArg List.length hl
     simp at this
     omega
    ·have hi':i < roots.length:=by rw[ho.len];omega
     have hr:=List.getElem?_eq_getElem hi'
     obtain⟨h1,h2⟩:=hroot i _ hr
     rw[(k5 i _ hr).1,(hl.va.2 _ (Nat.lt_of_lt_of_le (by omega) hS.n)).1,hS.bb _ (by omega),h1]
   have fin0:∀{own' I' V' g x},V'.n=V1.n→Later own I1 V1 w1 own' I' V' w1→PRes I' V' g x→(∃its g',Z6p roots own' V1.n g Q its g')→∃x' g rs' I' V',Ending.returned x=.returned x'∧Q g rs'∧V'.n=rs'.length∧Has I' V' (Aw rs' 0) w1∧PRes I' V' g x'∧Fro (Aw rs 0) I V w (Aw rs' 0) I' V' w1∧V.le V':=fun {own' I' V' g x} hn hl hx hE=>fin1 hl hx (by rw[hn];exact hE)
   have fin:∀{own' I' V' g x},V'.n=V1.n→Later own I1 V1 w1 own' I' V' w1→PRes I' V' g x→Z1w roots own' V1.n g Q→∃x' g rs' I' V',Ending.returned x=.returned x'∧Q g rs'∧V'.n=rs'.length∧Has I' V' (Aw rs' 0) w1∧PRes I' V' g x'∧Fro (Aw rs 0) I V w (Aw rs' 0) I' V' w1∧V.le V':=fun {own' I' V' g x} hn hl hx hE=>by
    rcases hE with hE | ⟨k,r0,its,g',hk0,hE⟩ | hE
    ·exact fin0 hn hl hx hE
    ·have hl2:=F5 (r:=.gone) hl.has hk0 (.refl _) hl.has.mem (fun _ _ _=>rfl) (fun b=>by simp[Va.drop])
     exact fin0 (V':=V'.drop k) hn (hl.trans hl2) (hx.mono (.refl _) hl2.va) ⟨its,g',hE⟩
    ·obtain⟨own2,I2,V2,hE,hl2⟩:=Sl hE hn hl.has
     exact fin1 (hl.trans hl2) (Zao hl2.has (hx.mono hl2.fro.mono hl2.va)) hE
   split at hk
   ·next r hr =>
    obtain⟨gs,o2,I2,V2',vs,k1,kn,k2,k3,k4,k5⟩:=Hn hT hk hS.has hA
    rw[←hr] at k4 k5
    refine⟨_,D8 k4 k5,?_⟩
    cases gs with
    | nil=>exact k1.elim
    | cons g gs =>
     cases gs with
     | cons g' gs=>exact k1.elim
     | nil =>
      obtain⟨v,vs',rfl,hv,hn⟩:=k3.uncons
      obtain rfl:=hn.of_nil
      refine fin kn k2 ?_ k1
      cases g with
      | tup l=>cases(show VRep I2 (.tup l) v from hv)
      | _=>exact hv
   ·next rs' hr =>
    obtain⟨gs,o2,I2,V2',vs,k1,kn,k2,k3,k4,k5⟩:=Hn hT hk hS.has hA
    refine⟨_,D8 k4 k5,?_⟩
    have hv1:∀v,vs≠[v]:=fun v e=>by
     rw[e] at k4
     cases hq:fn.results.toList with
     | nil=>rw[hq] at k4;simp at k4
     | cons r l =>
      cases l with
      | nil=>exact hr r hq
      | cons r' l=>rw[hq] at k4;simp at k4
    have e:Lu vs=.tuple vs.toArray:=by
     unfold Lu
     split
     ·next v=>exact absurd rfl (hv1 v)
     ·rfl
    rw[e]
    exact fin (g:=.tup gs) kn k2 ⟨vs,rfl,k3⟩ k1
  cases e with
  | normal=>exact key fun id h=>by cases h
  | exit id=>exact hk.elim
  | goto l=>exact hk.elim
  | ret=>exact key fun id h=>by cases h
end
end Go.Proofs.YtihfaocdpmmooaaGreat
namespace Go.Proofs.YtihfaocdpmmooaaGreat
def Zf1:List G:=List.replicate 64 (.v (.int .u8 0))
def zk124:List G:=List.replicate 64 (.v (.int .u8 0))
def Zel:List G:=.v (.int .i64 0)::List.replicate 64 (.v (.int .u8 0))
def zk126:List G:=.v (.int .i64 0)::List.replicate 64 (.v (.int .u8 0))
set_option maxRecDepth 100000 in
def tab:List (Nat × TI):=[
 (1,⟨false,[.v (.nilFunc)],none,[],false,none,.fn⟩),
 (2,⟨false,[.v (.int .i64 0)],none,[],false,some .i64,.no⟩),
 (3,⟨false,[.v (.int .i64 0)],none,[],false,some .i64,.no⟩),
 (4,⟨false,[.ff],none,[],false,none,.bool⟩),
 (5,⟨false,[.v (.int .u8 0)],none,[],false,some .u8,.no⟩),
 (6,⟨false,[.v (.int .u8 0)],none,[],false,some .u8,.no⟩),
 (7,⟨true,[.v (.int .i64 0),.v (.int .i64 0),.ff,.v (.int .u8 0)],none,[(2,0),(3,1),(4,2),(6,3)],false,none,.no⟩),
 (8,⟨true,[.v (.int .i64 0),.v (.int .i64 0),.ff,.v (.int .u8 0)],none,[(2,0),(3,1),(4,2),(6,3)],false,none,.no⟩),
 (9,⟨false,[.v (.string ⟨#[]⟩)],none,[],true,none,.no⟩),
 (10,⟨false,[.v (.string ⟨#[]⟩)],none,[],true,none,.no⟩),
 (11,⟨false,[.v (.string ⟨#[]⟩)],none,[],true,none,.no⟩),
 (12,⟨false,[.v (.int .u64 0)],none,[],false,some .u64,.no⟩),
 (13,⟨true,[.v (.string ⟨#[]⟩),.v (.int .u64 0)],none,[(9,0),(12,1)],false,none,.no⟩),
 (14,⟨true,[.v (.string ⟨#[]⟩),.v (.int .u64 0)],none,[(9,0),(12,1)],false,none,.no⟩),
 (15,⟨false,[.v (.pointer none)],none,[],false,none,.ptr⟩),
 (16,⟨false,[.v (.pointer none)],none,[],false,none,.ptr⟩),
 (17,⟨false,[.v (.pointer none)],none,[],false,none,.ptr⟩),
 (18,⟨true,[.v (.pointer none)],none,[(17,0)],false,none,.no⟩),
 (19,⟨true,[.v (.pointer none)],none,[(17,0)],false,none,.no⟩),
 (20,⟨false,[.v (.nilIface)],none,[],false,none,.no⟩),
 (21,⟨false,[.v (.int .i32 0)],none,[],false,some .i32,.no⟩),
 (22,⟨false,[.nl],some (71,3),[],false,none,.no⟩),
 (23,⟨true,[.v (.int .i64 0),.v (.int .i64 0),.v (.int .i64 0),.v (.int .i64 0),.nl],none,[(3,0),(3,1),(3,2),(3,3),(22,4)],false,none,.no⟩),
 (24,⟨true,[.v (.int .i64 0),.v (.int .i64 0),.v (.int .i64 0),.v (.int .i64 0),.nl],none,[(3,0),(3,1),(3,2),(3,3),(22,4)],false,none,.no⟩),
 (25,⟨false,[.v (.nilFunc)],none,[],false,none,.fn⟩),
 (26,⟨false,[.v (.int .i64 0)],none,[],false,some .i64,.no⟩),
 (28,⟨false,[.v (.nilFunc)],none,[],false,none,.fn⟩),
 (29,⟨true,[.v (.int .i64 0),.v (.int .i64 0),.v (.int .i64 0),.v (.int .i64 0),.nl],none,[(3,0),(3,1),(3,2),(3,3),(22,4)],false,none,.no⟩),
 (30,⟨false,[.v (.nilFunc)],none,[],false,none,.fn⟩),
 (32,⟨false,[.v (.nilFunc)],none,[],false,none,.fn⟩),
 (34,⟨false,[.v (.nilFunc)],none,[],false,none,.fn⟩),
 (35,⟨false,[.v (.nilFunc)],none,[],false,none,.fn⟩),
 (36,⟨false,[.v (.nilFunc)],none,[],false,none,.fn⟩),
 (37,⟨false,[.nl],some (46,4),[],false,none,.no⟩),
 (38,⟨false,[.v (.pointer none)],none,[],false,none,.ptr⟩),
 (39,⟨false,[.v (.nilFunc)],none,[],false,none,.fn⟩),
 (40,⟨false,[.v (.pointer none)],none,[],false,none,.ptr⟩),
 (42,⟨false,[.v (.nilFunc)],none,[],false,none,.fn⟩),
 (43,⟨false,[.v (.nilFunc)],none,[],false,none,.fn⟩),
 (44,⟨false,[.nl],some (5,1),[],false,none,.fn⟩),
 (45,⟨true,[.v (.int .i64 0),.v (.int .i64 0),.v (.int .i64 0),.nl],none,[(3,0),(3,1),(3,2),(44,3)],false,none,.no⟩),
 (46,⟨true,[.v (.int .i64 0),.v (.int .i64 0),.v (.int .i64 0),.nl],none,[(3,0),(3,1),(3,2),(44,3)],false,none,.no⟩),
 (47,⟨false,[.v (.nilFunc)],none,[],false,none,.fn⟩),
 (49,⟨false,[.v (.nilFunc)],none,[],false,none,.fn⟩),
 (50,⟨false,[.v (.nilFunc)],none,[],false,none,.fn⟩),
 (51,⟨false,[.v (.nilFunc)],none,[],false,none,.fn⟩),
 (52,⟨false,[.v (.nilFunc)],none,[],false,none,.fn⟩),
 (53,⟨false,[.nl],some (61,3),[],false,none,.no⟩),
 (54,⟨false,[.v (.nilFunc)],none,[],false,none,.fn⟩),
 (55,⟨false,[.v (.nilFunc)],none,[],false,none,.fn⟩),
 (56,⟨false,[.nl],some (63,7),[],false,none,.no⟩),
 (57,⟨false,[.v (.nilFunc)],none,[],false,none,.fn⟩),
 (58,⟨false,[.v (.pointer none)],none,[],false,none,.ptr⟩),
 (59,⟨false,[.v (.nilFunc)],none,[],false,none,.fn⟩),
 (60,⟨true,[.v (.int .i64 0),.v (.int .i64 0),.v (.string ⟨#[]⟩)],none,[(3,0),(3,1),(9,2)],false,none,.no⟩),
 (61,⟨true,[.v (.int .i64 0),.v (.int .i64 0),.v (.string ⟨#[]⟩)],none,[(3,0),(3,1),(9,2)],false,none,.no⟩),
 (62,⟨true,[.v (.int .i64 0),.v (.int .i64 0),.v (.int .i64 0),.v (.string ⟨#[]⟩),.v (.int .i64 0),.v (.int .i64 0),.v (.string ⟨#[]⟩)],none,[(3,0),(3,1),(3,2),(9,3),(61,4)],false,none,.no⟩),
 (63,⟨true,[.v (.int .i64 0),.v (.int .i64 0),.v (.int .i64 0),.v (.string ⟨#[]⟩),.v (.int .i64 0),.v (.int .i64 0),.v (.string ⟨#[]⟩)],none,[(3,0),(3,1),(3,2),(9,3),(61,4)],false,none,.no⟩),
 (64,⟨false,[.nl],some (40,1),[],false,none,.no⟩),
 (65,⟨false,[.nl],some (38,1),[],false,none,.no⟩),
 (66,⟨false,[.nl],some (77,12),[],false,none,.no⟩),
 (67,⟨true,[.nl,.nl,.nl,.nl],none,[(64,0),(65,1),(66,2),(53,3)],false,none,.no⟩),
 (68,⟨true,[.nl,.nl,.nl,.nl],none,[(64,0),(65,1),(66,2),(53,3)],false,none,.no⟩),
 (69,⟨false,[.v (.nilFunc)],none,[],false,none,.fn⟩),
 (70,⟨true,[.v (.int .i64 0),.v (.int .i64 0),.v (.string ⟨#[]⟩)],none,[(3,0),(3,1),(9,2)],false,none,.no⟩),
 (71,⟨true,[.v (.int .i64 0),.v (.int .i64 0),.v (.string ⟨#[]⟩)],none,[(3,0),(3,1),(9,2)],false,none,.no⟩),
 (72,⟨false,[.v (.nilFunc)],none,[],false,none,.fn⟩),
 (73,⟨false,[.v (.nilFunc)],none,[],false,none,.fn⟩),
 (74,⟨false,[.nl],some (164,4),[],false,none,.no⟩),
 (75,⟨false,[.nl],some (3,1),[],false,none,.no⟩),
 (76,⟨true,[.v (.int .i64 0),.v (.int .i64 0),.v (.int .i64 0),.v (.int .i64 0),.nl,.v (.int .i64 0),.v (.int .i64 0),.nl,.nl,.v (.int .i64 0),.nl,.nl],none,[(3,0),(3,1),(3,2),(3,3),(22,4),(3,5),(3,6),(74,7),(75,8),(3,9),(75,10),(53,11)],false,none,.no⟩),
 (77,⟨true,[.v (.int .i64 0),.v (.int .i64 0),.v (.int .i64 0),.v (.int .i64 0),.nl,.v (.int .i64 0),.v (.int .i64 0),.nl,.nl,.v (.int .i64 0),.nl,.nl],none,[(3,0),(3,1),(3,2),(3,3),(22,4),(3,5),(3,6),(74,7),(75,8),(3,9),(75,10),(53,11)],false,none,.no⟩),
 (78,⟨false,[.v (.nilFunc)],none,[],false,none,.fn⟩),
 (79,⟨false,[.v (.nilFunc)],none,[],false,none,.fn⟩),
 (80,⟨false,[.v (.nilFunc)],none,[],false,none,.fn⟩),
 (81,⟨false,[.v (.nilFunc)],none,[],false,none,.fn⟩),
 (82,⟨false,[.v (.nilFunc)],none,[],false,none,.fn⟩),
 (83,⟨false,[.nl],some (84,3),[],false,none,.no⟩),
 (84,⟨true,[.v (.int .i64 0),.v (.int .i64 0),.v (.int .i64 0)],none,[],false,none,.arr 3 3 1⟩),
 (85,⟨false,[.v (.nilFunc)],none,[],false,none,.fn⟩),
 (87,⟨false,[.v (.nilFunc)],none,[],false,none,.fn⟩),
 (88,⟨false,[.v (.nilFunc)],none,[],false,none,.fn⟩),
 (89,⟨true,[.v (.int .i64 0),.v (.int .i64 0)],none,[],false,none,.arr 2 3 1⟩),
 (90,⟨false,[.v (.nilFunc)],none,[],false,none,.fn⟩),
 (91,⟨false,[.v (.nilFunc)],none,[],false,none,.fn⟩),
 (92,⟨false,[.v (.nilFunc)],none,[],false,none,.fn⟩),
 (93,⟨true,[.v (.int .i64 0),.v (.int .i64 0),.v (.string ⟨#[]⟩)],none,[(3,0),(3,1),(9,2)],false,none,.no⟩),
 (94,⟨true,[.v (.int .i64 0),.v (.int .i64 0),.v (.string ⟨#[]⟩)],none,[(3,0),(3,1),(9,2)],false,none,.no⟩),
 (95,⟨false,[.v (.nilFunc)],none,[],false,none,.fn⟩),
 (96,⟨false,[.nl],some (94,3),[],false,none,.no⟩),
 (98,⟨false,[.v (.nilFunc)],none,[],false,none,.fn⟩),
 (99,⟨false,[.v (.nilFunc)],none,[],false,none,.fn⟩),
 (101,⟨false,[.v (.nilFunc)],none,[],false,none,.fn⟩),
 (103,⟨false,[.v (.nilFunc)],none,[],false,none,.fn⟩),
 (104,⟨false,[.v (.nilFunc)],none,[],false,none,.fn⟩),
 (105,⟨false,[.nl],some (124,64),[],false,none,.no⟩),
 (106,⟨false,[.nl],some (126,65),[],false,none,.no⟩),
 (107,⟨true,[.nl,.nl,.nl,.v (.int .i64 0),.ff],none,[(105,0),(105,1),(106,2),(3,3),(4,4)],false,none,.no⟩),
 (108,⟨true,[.nl,.nl,.nl,.v (.int .i64 0),.ff],none,[(105,0),(105,1),(106,2),(3,3),(4,4)],false,none,.no⟩),
 (109,⟨false,[.v (.pointer none)],none,[],false,none,.ptr⟩),
 (111,⟨false,[.v (.nilFunc)],none,[],false,none,.fn⟩),
 (112,⟨true,[.ff,.v (.int .i64 0),.nl],none,[(4,0),(3,1),(22,2)],false,none,.no⟩),
 (113,⟨true,[.ff,.v (.int .i64 0),.nl],none,[(4,0),(3,1),(22,2)],false,none,.no⟩),
 (114,⟨true,[.ff,.v (.int .i64 0),.nl,.ff,.v (.int .i64 0),.nl,.ff,.v (.int .i64 0),.nl,.ff,.v (.int .i64 0),.nl,.ff,.v (.int .i64 0),.nl,.ff,.v (.int .i64 0),.nl,.ff,.v (.int .i64 0),.nl],none,[],false,none,.arr 7 113 3⟩),
 (115,⟨true,[.v (.int .i64 0),.v (.int .i64 0),.v (.int .i64 0),.v (.int .i64 0),.v (.int .i64 0),.v (.int .i64 0),.v (.int .i64 0)],none,[],false,none,.arr 7 3 1⟩),
 (116,⟨true,[.ff,.ff,.ff,.ff,.ff,.ff,.ff],none,[],false,none,.arr 7 4 1⟩),
 (117,⟨true,[.v (.int .i64 0),.v (.int .i64 0),.v (.pointer none),.v (.int .i64 0),.v (.int .i64 0),.nl,.v (.int .i64 0),.ff,.ff,.ff,.v (.int .i64 0),.nl,.ff,.v (.int .i64 0),.nl,.ff,.v (.int .i64 0),.nl,.ff,.v (.int .i64 0),.nl,.ff,.v (.int .i64 0),.nl,.ff,.v (.int .i64 0),.nl,.ff,.v (.int .i64 0),.nl,.v (.int .i64 0),.v (.int .i64 0),.v (.int .i64 0),.v (.int .i64 0),.v (.int .i64 0),.v (.int .i64 0),.v (.int .i64 0),.v (.int .i64 0),.ff,.ff,.ff,.ff,.ff,.ff,.ff,.nl,.ff],none,[(3,0),(3,1),(109,2),(3,3),(3,4),(22,5),(3,6),(4,7),(4,8),(114,9),(3,30),(115,31),(116,38),(53,45),(4,46)],false,none,.no⟩),
 (118,⟨true,[.v (.int .i64 0),.v (.int .i64 0),.v (.pointer none),.v (.int .i64 0),.v (.int .i64 0),.nl,.v (.int .i64 0),.ff,.ff,.ff,.v (.int .i64 0),.nl,.ff,.v (.int .i64 0),.nl,.ff,.v (.int .i64 0),.nl,.ff,.v (.int .i64 0),.nl,.ff,.v (.int .i64 0),.nl,.ff,.v (.int .i64 0),.nl,.ff,.v (.int .i64 0),.nl,.v (.int .i64 0),.v (.int .i64 0),.v (.int .i64 0),.v (.int .i64 0),.v (.int .i64 0),.v (.int .i64 0),.v (.int .i64 0),.v (.int .i64 0),.ff,.ff,.ff,.ff,.ff,.ff,.ff,.nl,.ff],none,[(3,0),(3,1),(109,2),(3,3),(3,4),(22,5),(3,6),(4,7),(4,8),(114,9),(3,30),(115,31),(116,38),(53,45),(4,46)],false,none,.no⟩),
 (119,⟨false,[.nl],some (9,1),[],false,none,.no⟩),
 (120,⟨false,[.v (.nilFunc)],none,[],false,none,.fn⟩),
 (121,⟨false,[.v (.nilFunc)],none,[],false,none,.fn⟩),
 (122,⟨false,[.v (.nilFunc)],none,[],false,none,.fn⟩),
 (123,⟨true,Zf1,none,[],false,none,.arr 64 5 1⟩),
 (124,⟨true,zk124,none,[],false,none,.arr 64 5 1⟩),
 (125,⟨true,Zel,none,[(3,0),(124,1)],false,none,.no⟩),
 (126,⟨true,zk126,none,[(3,0),(124,1)],false,none,.no⟩),
 (127,⟨false,[.v (.nilFunc)],none,[],false,none,.fn⟩),
 (128,⟨false,[.v (.nilFunc)],none,[],false,none,.fn⟩),
 (129,⟨false,[.v (.nilFunc)],none,[],false,none,.fn⟩),
 (130,⟨false,[.v (.nilFunc)],none,[],false,none,.fn⟩),
 (132,⟨false,[.v (.nilFunc)],none,[],false,none,.fn⟩),
 (133,⟨false,[.v (.nilFunc)],none,[],false,none,.fn⟩),
 (134,⟨false,[.v (.nilFunc)],none,[],false,none,.fn⟩),
 (135,⟨false,[.v (.nilFunc)],none,[],false,none,.fn⟩),
 (137,⟨false,[.v (.nilFunc)],none,[],false,none,.fn⟩),
 (138,⟨false,[.v (.nilFunc)],none,[],false,none,.fn⟩),
 (139,⟨false,[.v (.nilFunc)],none,[],false,none,.fn⟩),
 (140,⟨false,[.v (.nilFunc)],none,[],false,none,.fn⟩),
 (141,⟨false,[.v (.nilFunc)],none,[],false,none,.fn⟩),
 (142,⟨false,[.v (.nilFunc)],none,[],false,none,.fn⟩),
 (143,⟨false,[.v (.nilFunc)],none,[],false,none,.fn⟩),
 (145,⟨false,[.v (.nilFunc)],none,[],false,none,.fn⟩),
 (146,⟨false,[.v (.int .u64 0)],none,[],false,some .u64,.no⟩),
 (147,⟨false,[.v (.nilFunc)],none,[],false,none,.fn⟩),
 (148,⟨true,[.v (.pointer none),.v (.int .i64 0),.v (.int .i64 0),.v (.int .u64 0),.v (.int .i64 0),.v (.int .i64 0),.nl,.nl,.ff],none,[(38,0),(3,1),(3,2),(146,3),(3,4),(3,5),(44,6),(119,7),(4,8)],false,none,.no⟩),
 (149,⟨true,[.v (.pointer none),.v (.int .i64 0),.v (.int .i64 0),.v (.int .u64 0),.v (.int .i64 0),.v (.int .i64 0),.nl,.nl,.ff],none,[(38,0),(3,1),(3,2),(146,3),(3,4),(3,5),(44,6),(119,7),(4,8)],false,none,.no⟩),
 (151,⟨false,[.v (.nilFunc)],none,[],false,none,.fn⟩),
 (152,⟨false,[.v (.nilFunc)],none,[],false,none,.fn⟩),
 (153,⟨false,[.v (.nilFunc)],none,[],false,none,.fn⟩),
 (154,⟨false,[.v (.nilFunc)],none,[],false,none,.fn⟩),
 (155,⟨false,[.v (.nilFunc)],none,[],false,none,.fn⟩),
 (156,⟨false,[.v (.nilFunc)],none,[],false,none,.fn⟩),
 (158,⟨false,[.v (.nilFunc)],none,[],false,none,.fn⟩),
 (159,⟨false,[.v (.nilFunc)],none,[],false,none,.fn⟩),
 (160,⟨false,[.v (.nilFunc)],none,[],false,none,.fn⟩),
 (161,⟨true,[.v (.int .i64 0),.v (.int .i64 0)],none,[(3,0),(3,1)],false,none,.no⟩),
 (162,⟨true,[.v (.int .i64 0),.v (.int .i64 0)],none,[(3,0),(3,1)],false,none,.no⟩),
 (163,⟨true,[.v (.int .i64 0),.v (.int .i64 0),.v (.int .i64 0),.nl],none,[(3,0),(162,1),(22,3)],false,none,.no⟩),
 (164,⟨true,[.v (.int .i64 0),.v (.int .i64 0),.v (.int .i64 0),.nl],none,[(3,0),(162,1),(22,3)],false,none,.no⟩),
 (165,⟨false,[.v (.nilFunc)],none,[],false,none,.fn⟩),
 (166,⟨false,[.v (.nilFunc)],none,[],false,none,.fn⟩),
 (167,⟨false,[.v (.nilFunc)],none,[],false,none,.fn⟩),
 (168,⟨false,[.v (.nilFunc)],none,[],false,none,.fn⟩),
 (169,⟨false,[.v (.nilFunc)],none,[],false,none,.fn⟩),
 (170,⟨false,[.nl],some (162,2),[],false,none,.no⟩),
 (171,⟨false,[.nl],some (22,1),[],false,none,.no⟩),
 (172,⟨false,[.nl],some (113,3),[],false,none,.no⟩),
 (173,⟨false,[.v (.nilFunc)],none,[],false,none,.fn⟩),
 (174,⟨false,[.v (.nilFunc)],none,[],false,none,.fn⟩),
 (175,⟨false,[.v (.nilFunc)],none,[],false,none,.fn⟩),
 (176,⟨false,[.v (.int .u64 0)],none,[],false,some .u64,.no⟩),
 (177,⟨false,[.v (.nilFunc)],none,[],false,none,.fn⟩),
 (178,⟨true,[.v (.int .u8 0),.v (.int .u8 0),.v (.int .u8 0),.v (.int .u8 0),.v (.int .u8 0),.v (.int .u8 0),.v (.int .u8 0),.v (.int .u8 0)],none,[],false,none,.arr 8 5 1⟩),
 (179,⟨true,[.v (.int .u8 0),.v (.int .u8 0),.v (.int .u8 0),.v (.int .u8 0),.v (.int .u8 0),.v (.int .u8 0),.v (.int .u8 0),.v (.int .u8 0)],none,[],false,none,.arr 8 5 1⟩),
 (181,⟨false,[.v (.nilFunc)],none,[],false,none,.fn⟩),
 (182,⟨false,[.v (.nilFunc)],none,[],false,none,.fn⟩),
 (183,⟨false,[.v (.nilFunc)],none,[],false,none,.fn⟩),
 (184,⟨false,[.v (.nilFunc)],none,[],false,none,.fn⟩),
 (185,⟨false,[.v (.nilFunc)],none,[],false,none,.fn⟩),
 (186,⟨false,[.v (.nilFunc)],none,[],false,none,.fn⟩),
 (187,⟨false,[.v (.nilFunc)],none,[],false,none,.fn⟩),
 (188,⟨true,[.nl],none,[(170,0)],false,none,.no⟩),
 (189,⟨true,[.nl],none,[(170,0)],false,none,.no⟩),
 (190,⟨false,[.v (.nilFunc)],none,[],false,none,.fn⟩),
 (191,⟨false,[.v (.nilFunc)],none,[],false,none,.fn⟩),
 (192,⟨false,[.v (.nilFunc)],none,[],false,none,.fn⟩),
 (193,⟨false,[.v (.nilFunc)],none,[],false,none,.fn⟩),
 (194,⟨false,[.v (.nilFunc)],none,[],false,none,.fn⟩),
 (195,⟨false,[.v (.nilFunc)],none,[],false,none,.fn⟩),
 (196,⟨false,[.v (.nilFunc)],none,[],false,none,.fn⟩),
 (197,⟨false,[.v (.nilFunc)],none,[],false,none,.fn⟩),
 (198,⟨false,[.v (.nilFunc)],none,[],false,none,.fn⟩),
 (199,⟨false,[.v (.nilFunc)],none,[],false,none,.fn⟩),
 (200,⟨false,[.v (.nilFunc)],none,[],false,none,.fn⟩),
 (201,⟨false,[.v (.int .i64 0)],none,[],false,some .i64,.no⟩),
 (203,⟨false,[.v (.nilFunc)],none,[],false,none,.fn⟩),
 (204,⟨false,[.v (.nilFunc)],none,[],false,none,.fn⟩),
 (205,⟨false,[.v (.nilFunc)],none,[],false,none,.fn⟩),
 (206,⟨false,[.v (.nilFunc)],none,[],false,none,.fn⟩),
 (207,⟨false,[.v (.nilFunc)],none,[],false,none,.fn⟩),
 (208,⟨false,[.v (.int .u32 0)],none,[],false,some .u32,.no⟩),
 (209,⟨false,[.v (.nilFunc)],none,[],false,none,.fn⟩),
 (210,⟨false,[.v (.int .u64 0)],none,[],false,some .u64,.no⟩),
 (211,⟨false,[.v (.nilFunc)],none,[],false,none,.fn⟩),
 (212,⟨false,[.v (.nilFunc)],none,[],false,none,.fn⟩),
 (213,⟨false,[.v (.nilFunc)],none,[],false,none,.fn⟩),
 (214,⟨false,[.v (.pointer none)],none,[],false,none,.ptr⟩),
 (215,⟨false,[.v (.nilFunc)],none,[],false,none,.fn⟩),
 (216,⟨false,[.v (.pointer none)],none,[],false,none,.ptr⟩),
 (217,⟨false,[.v (.nilFunc)],none,[],false,none,.fn⟩),
 (218,⟨false,[.v (.nilFunc)],none,[],false,none,.fn⟩),
 (219,⟨true,[.v (.pointer none),.v (.pointer none),.v (.pointer none),.v (.string ⟨#[]⟩)],none,[(17,0),(17,1),(17,2),(9,3)],false,none,.no⟩),
 (220,⟨true,[.v (.pointer none),.v (.pointer none),.v (.pointer none),.v (.string ⟨#[]⟩)],none,[(17,0),(17,1),(17,2),(9,3)],false,none,.no⟩),
 (221,⟨true,[],none,[],false,none,.arr 0 16 1⟩),
 (224,⟨false,[.v (.int .u8 0)],none,[],false,some .u8,.no⟩),
 (225,⟨false,[.v (.int .u8 0)],none,[],false,some .u8,.no⟩),
 (226,⟨false,[.v (.nilFunc)],none,[],false,none,.fn⟩),
 (227,⟨false,[.v (.pointer none)],none,[],false,none,.ptr⟩),
 (228,⟨false,[.v (.int .i32 0)],none,[],false,some .i32,.no⟩),
 (229,⟨false,[.v (.int .i32 0)],none,[],false,some .i32,.no⟩),
 (230,⟨true,[.v (.int .u64 0),.v (.int .u64 0),.v (.int .u32 0),.v (.int .u8 0),.v (.int .u8 0),.v (.int .u8 0),.v (.int .u8 0),.v (.nilFunc),.v (.pointer none),.v (.int .i32 0),.v (.int .i32 0)],none,[(12,0),(12,1),(208,2),(224,3),(5,4),(5,5),(225,6),(226,7),(227,8),(228,9),(229,10)],false,none,.no⟩),
 (231,⟨true,[.v (.int .u64 0),.v (.int .u64 0),.v (.int .u32 0),.v (.int .u8 0),.v (.int .u8 0),.v (.int .u8 0),.v (.int .u8 0),.v (.nilFunc),.v (.pointer none),.v (.int .i32 0),.v (.int .i32 0)],none,[(12,0),(12,1),(208,2),(224,3),(5,4),(5,5),(225,6),(226,7),(227,8),(228,9),(229,10)],false,none,.no⟩),
 (232,⟨false,[.v (.pointer none)],none,[],false,none,.no⟩)]
theorem Ze9:Zfe Tryz.prog tab=true:=by kernel_rfl
theorem fnG {f:FuncId}{fn:Func}{c:Code}{gs:List G}{Q:G→Prop}(hf:Tryz.prog.funcs[f]?=some fn)(hname:(fn.name=="runtime.NumGoroutine")=false) (hb:fn.body=some c) (hn:gs.length≤fn.ntmps) (hc:Dr tab fn.ntmps c=true) (h:sxC Tryz.prog tab c (Iq 0 gs) [] 0 (Zcx tab fn Q)):FnV Tryz.prog f gs Q :=
 Z4r (Zi Ze9) (by kernel_rfl) hf hname hb hn hc h
end Go.Proofs.YtihfaocdpmmooaaGreat
namespace Go.Proofs.YtihfaocdpmmooaaGreat
open Go.ChangeShapes Go.WideShapes Go.ChangeAt Go.RowKit
mutual
def M0:G→Nat
 | .v x=>match x with
  | .string s=>s.size+1
  | _=>1
 | .sl rows=>Jk rows+1
 | _=>1
def Du:List G→Nat
 | []=>0
 | g::r=>M0 g+Du r
def Jk:List (List G)→Nat
 | []=>0
 | r::rs=>Du r+Jk rs
end
theorem Q8 (a b:List G):Du (a++b)=Du a+Du b:=by
 induction a with
 | nil=>simp[Du]
 | cons g a ih=>simp only[List.cons_append,Du,ih];omega
section
variable {P:Program} {W:World} {H:Type} {enc:TypeId × Value→H}
theorem Z2s {α:Type}(l:List α)(f:α→List G)(D:α→DataW H)(h:∀x∈l,Du (f x)≤Rows.uptoBulk (D x)):Jk (l.map f)≤Rows.uptoBulkAll (l.map D):=by
 induction l with
 | nil=>simp[Jk,Rows.uptoBulkAll]
 | cons x l ih =>
  simp only[List.map_cons,Jk,Rows.uptoBulkAll]
  have h1:=h x (by simp)
  have h2:=ih fun y hy=>h y (by simp[hy])
  omega
theorem Zd8:∀(d:Nat) (t:TypeId) (sh:List Sp),Qa P d t=some sh→∀(fuel:Nat) (cs:List Value) (y:DataW H × List MemPlace),DataW.trod enc P W 0 (fun _=>true) true fuel t cs=some y→∃gs,TyL sh gs∧PW (VRep (Z21 W)) gs cs∧Du gs≤Rows.uptoBulk y.1
 | 0,t,sh,h=>by cases h
 | d+1,t,sh,h=>by
  intro fuel cs y hy
  unfold Qa at h
  split at h
  ·next k hu =>
   cases h
   obtain⟨n,rfl,rfl,hw⟩:=DataW.trod_int hu hy
   exact⟨_,.i n (Zai hw) .nil,.cons (.v _) .nil,by simp[Du,M0,Rows.uptoBulk]⟩
  ·next hu =>
   cases h
   obtain⟨s,rfl,rfl,hs⟩:=DataW.trod_string hu hy
   exact⟨_,.s s hs .nil,.cons (.v _) .nil,by simp[Du,M0,Rows.uptoBulk]⟩
  ·next hu =>
   cases h
   obtain⟨b,rfl,rfl⟩:=DataW.trod_bool hu hy
   exact⟨_,.b b .nil,.cons (.v _) .nil,by simp[Du,M0,Rows.uptoBulk]⟩
  ·next e hu =>
   split at h
   ·next she he =>
    cases hb:Nat.beq (P.cellsOf e) she.length&&Nat.blt 0 she.length with
    | false=>rw[hb] at h;cases h
    | true =>
     rw[hb] at h
     have h:some [Sp.sl she]=some sh:=h
     cases h
     simp only[Bool.and_eq_true] at hb
     have hsz:=Nat.eq_of_beq_eq_true hb.1
     have hpos:=Nat.le_of_ble_eq_true hb.2
     rcases Go.Deep.open_slice hu hy with⟨rfl,rfl⟩ | ⟨a,len,cap,m,n,D,Pl,rfl,-,hl,hm,hmm,rfl,hi⟩
     ·exact⟨_,.sl [] (by simp) (by simp) .nil,.cons (.sl [] none 0 0 (fun _ _=>undef) (Nat.le_refl _) (fun _=>rfl) (by simp) (fun i r h=>by simp at h) (fun i r j g h=>by simp at h)) .nil,by simp[Du,M0,Jk,Rows.uptoBulk]⟩
     ·simp only[if_true] at hmm
      subst hmm
      have hx:∀i,i < len→∃p:List G × List Value,TyL she p.1∧PW (VRep (Z21 W)) p.1 p.2∧p.2.length=she.length∧(∀(j:Nat) u,p.2[j]?=some u→W.cell? ((a.add (i * she.length)).add j)=some u)∧Du p.1≤Rows.uptoBulk (D i):=fun i hil=>by
       obtain⟨cs',hc,ht'⟩:=hi i (by omega)
       obtain⟨gs,h1,h2,h3⟩:=Zd8 d e she he n cs' _ ht'
       obtain⟨-,hcl,hat⟩:=World.cells?_some hc
       rw[hsz] at hcl hat
       refine⟨(gs,cs'),h1,h2,hcl,fun j u hu=>?_,h3⟩
       have hj:j < she.length:=by rw[←hcl];exact(List.getElem?_eq_some_iff.1 hu).1
       rw[hat j hj]
       exact hu
      haveI:Inhabited (List G × List Value):=⟨([],[])⟩
      obtain⟨p,hp⟩:=Go.Deep.choose_lt hx
      have hrow:∀(i:Nat) r,((List.range len).map fun i=>(p i).1)[i]?=some r→i < len∧r=(p i).1:=fun i r hr=>by
       have hi:=(List.getElem?_eq_some_iff.1 hr).1
       have hi':i < len:=by simpa using hi
       rw[List.getElem?_map,List.getElem?_range hi'] at hr
       exact⟨hi',by simpa using hr.symm⟩
      have hsp:0 < len→a=⟨a.block,a.off,none⟩:=fun h0=>by
       have hq:=(hp 0 h0).2.2.2.1 0 ((p 0).2[0]'(by rw[(hp 0 h0).2.2.1];exact hpos)) (List.getElem?_eq_getElem _)
       have:=World.cell?_spot hq
       simp only[Addr.add,Nat.zero_mul,if_true] at this
       cases a
       simp at this
       subst this
       rfl
      have key:=VRep.sl (I:=Z21 W) ((List.range len).map fun i=>(p i).1) (some a) m she.length (fun i j=>((p i).2[j]?).getD undef) (by simpa using hl) (fun e=>by cases e) (fun r hr=>by
       obtain⟨i,hi,e⟩:=List.mem_iff_getElem.1 hr
       obtain⟨h1,h2⟩:=hrow i r (by rw[List.getElem?_eq_getElem hi,e])
       rw[h2,(hp i h1).2.1.1,(hp i h1).2.2.1]) (fun i r hr=>by
       obtain⟨h1,-⟩:=hrow i r hr
       refine⟨a.block,a.off,by rw[←hsp (by omega)],fun j hj=>?_⟩
       have hj':j < (p i).2.length:=by rw[(hp i h1).2.2.1];exact hj
       have hq:=(hp i h1).2.2.2.1 j _ (List.getElem?_eq_getElem hj')
       rw[List.getElem?_eq_getElem hj',Option.getD_some,←hq]
       unfold Z21
       have e:=hsp (by omega)
       generalize a.block=b at *
       generalize a.off=o at *
       subst e
       rw[By,By]) (fun i r j g hr hg=>by
       obtain⟨h1,rfl⟩:=hrow i r hr
       obtain⟨u,h2,h3⟩:=(hp i h1).2.1.get hg
       rw[h2]
       exact h3)
      refine⟨_,.sl ((List.range len).map fun i=>(p i).1) (by simp;omega) (fun r hr=>?_) .nil,.cons (by simpa using key) .nil,?_⟩
      ·obtain⟨i,hi,rfl⟩:=List.mem_map.1 hr
       exact(hp i (List.mem_range.1 hi)).1
      ·have:=Z2s (List.range len) (fun i=>(p i).1) D fun i hi=>(hp i (List.mem_range.1 hi)).2.2.2.2
       simp only[Du,M0,Rows.uptoBulk]
       omega
   ·cases h
  ·next fs hu =>
   split at h
   ·next sh' hf =>
    cases hb:Nat.beq (P.cellsOf t) sh'.length with
    | false=>rw[hb] at h;cases h
    | true =>
     rw[hb] at h
     have h:some sh'=some sh:=h
     cases h
     have hsz:=Nat.eq_of_beq_eq_true hb
     obtain⟨xs,m,-,rfl,hlen,hxl,hel⟩:=DataW.trod_struct hu hy
     have key:∀(fs':List Field) (xs':List (DataW H × List MemPlace)) (off:Nat) (sh:List Sp),xs'.length=fs'.length→(∀(j:Nat) f,fs'[j]?=some f→DataW.trod enc P W 0 (fun _=>true) true m f.type ((cs.drop f.offset).take (P.cellsOf f.type))=xs'[j]?)→Uy P (Qa P d) fs' off=some sh→cs.length=off+sh.length→∃gs,TyL sh gs∧PW (VRep (Z21 W)) gs (cs.drop off)∧Du gs≤Rows.uptoBulkAll (xs'.map (·.1)):=fun fs'=>by
      induction fs' with
      | nil =>
       intro xs' off sh _ _ h hl
       cases h
       exact⟨[],.nil,by rw[List.drop_eq_nil_of_le (by simp at hl;omega)];exact .nil,by simp[Du]⟩
      | cons f fs' ih =>
       intro xs' off sh hxl hall h hl
       cases xs' with
       | nil=>cases hxl
       | cons y xs' =>
        unfold Uy at h
        split at h
        ·next sh1 e1 e2 =>
         split at h
         ·next sh2 e3 e4 =>
          cases h
          have e1:=Nat.eq_of_beq_eq_true e1
          have e3:=Nat.eq_of_beq_eq_true e3
          have hy:=hall 0 f rfl
          obtain⟨g1,t1,p1,b1⟩:=Zd8 d f.type sh1 e2 m _ y hy
          rw[List.length_append] at hl
          obtain⟨g2,t2,p2,b2⟩:=ih xs' (off+sh1.length) sh2 (by simpa using hxl) (fun j f hf=>hall (j+1) f (by simpa using hf)) e4 (by omega)
          rw[e1,e3] at p1
          refine⟨g1++g2,t1.app t2,Jo p1 ?_,?_⟩
          ·rw[List.drop_drop]
           exact p2
          ·rw[Q8]
           simp only[List.map_cons,Rows.uptoBulkAll]
           omega
         ·cases h
        ·cases h
     obtain⟨gs,h1,h2,h3⟩:=key fs.toList xs 0 sh (by rw[hxl];simp) (fun j f hf=>hel j f (by simpa using hf)) hf (by omega)
     refine⟨gs,h1,by simpa using h2,?_⟩
     simp only[Rows.uptoBulk]
     omega
   ·cases h
  ·next n e hu =>
   split at h
   ·next she he =>
    cases hb:Nat.beq (P.cellsOf e) she.length&&Nat.beq (P.cellsOf t) (n * she.length) with
    | false=>rw[hb] at h;cases h
    | true =>
     rw[hb] at h
     have h:some (Zdd n she)=some sh:=h
     cases h
     simp only[Bool.and_eq_true] at hb
     have hsz:=Nat.eq_of_beq_eq_true hb.1
     have hct:=Nat.eq_of_beq_eq_true hb.2
     obtain⟨xs,m,-,rfl,hlen,hxl,hel⟩:=DataW.trod_array hu hy
     have key:∀(k i:Nat),i+k=n→∃gs,TyL (Zdd k she) gs∧PW (VRep (Z21 W)) gs (cs.drop (i * she.length))∧Du gs≤Rows.uptoBulkAll ((xs.drop i).map (·.1)):=fun k=>by
      induction k with
      | zero =>
       intro i hi
       refine⟨[],.nil,?_,by simp[Du]⟩
       rw[List.drop_eq_nil_of_le (by rw[hlen,hct,←hi,Nat.add_zero];exact Nat.le_refl _)]
       exact .nil
      | succ k ih =>
       intro i hi
       have hxi:i < xs.length:=by omega
       have h1:=hel i (by omega)
       rw[List.getElem?_eq_getElem hxi] at h1
       obtain⟨g1,t1,p1,b1⟩:=Zd8 d e she he m _ _ h1
       obtain⟨g2,t2,p2,b2⟩:=ih (i+1) (by omega)
       rw[hsz] at p1
       refine⟨g1++g2,t1.app t2,Jo p1 ?_,?_⟩
       ·rw[List.drop_drop]
        rw[Nat.succ_mul] at p2
        exact p2
       ·rw[Q8,List.drop_eq_getElem_cons hxi]
        simp only[List.map_cons,Rows.uptoBulkAll]
        omega
     obtain⟨gs,h1,h2,h3⟩:=key n 0 (by omega)
     refine⟨gs,h1,by simpa using h2,?_⟩
     simp only[Rows.uptoBulk]
     simp at h3
     omega
   ·cases h
  ·cases h
theorem U5 {t:TypeId}{sp:Sp}{base:Nat}{v:Value}{d:DataW H}{p:List MemPlace}(hf:Qa P 100 t=some [sp])(ha:Z24 P t=some false)(hv:Value.okWide P W .any base t v)(h:DataW.Trod enc P W 0 (fun _=>true) true t v d p):∃g,TyL [sp] [g]∧VRep (Z21 W) g v∧M0 g≤Rows.uptoBulk d:=by
 obtain⟨fuel,hy⟩:=h
 obtain⟨gs,h1,h2,h3⟩:=Zd8 100 t [sp] hf fuel _ _ hy
 have hag:∀cs,v≠.agg cs:=fun cs e=>by
  subst e
  unfold Value.okWide Cell.okWide at hv
  unfold Qa at hf
  unfold Z24 at ha
  cases hu:P.underlying t with
  | none=>rw[hu] at hf;cases hf
  | some u=>rw[hu] at hf hv ha;cases u<;>first | (cases hf;done) | (simp at ha;done) | (simp[Cell.ok,hu] at hv;done)
 have hc:v.cells.toList=[v]:=by cases v<;>first | rfl | exact absurd rfl (hag _)
 rw[hc] at h2
 have hl:=h1.len
 obtain⟨g,rfl⟩:=List.length_eq_one_iff.1 hl
 exact⟨g,h1,h2.2 0 g v rfl rfl,by simpa [Du] using h3⟩
end
end Go.Proofs.YtihfaocdpmmooaaGreat
