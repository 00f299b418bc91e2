
import Derived.Test.YtihfaocdpmmooaaGreatSxMd
import Derived.Test.YtihfaocdpmmooaaGreatZLaw
import Derived.Test.YtihfaocdpmmooaaGreatProg
namespace Go.Proofs.YtihfaocdpmmooaaGreat
open Go.RowKit
inductive Sh where
 | i (k:IntKind)
 | s
 | b
def Je:List Sh→List Value→Bool
 | [],[]=>true
 | .i k::sh,.int k' _::cs=>decide (k=k')&&Je sh cs
 | .s::sh,.string _::cs=>Je sh cs
 | .b::sh,.bool _::cs=>Je sh cs
 | _,_=>false
def eqC:Value→Value→Bool
 | .int _ a,.int _ b=>a==b
 | .string a,.string b=>a.toList==b.toList
 | .bool a,.bool b=>a==b
 | _,_=>false
def Mg:List Value→List Value→Bool
 | [],[]=>true
 | a::l,b::m=>eqC a b&&Mg l m
 | _,_=>false
def Z1p (P:Program)(F:TypeId→Option (List Sh)):List Field→Nat→Option (List Sh)
 | [],_=>some []
 | f::fs,off=>match f.name=="_",Nat.beq f.offset off,F f.type,Z1p P F fs (off+(match F f.type with | some sh=>sh.length | none=>0)) with
  | false,true,some sh,some sh'=>match(P.info? f.type).map (·.size) with
   | some n=>bif Nat.beq n sh.length then some (sh++sh') else none
   | none=>none
  | _,_,_,_=>none
def X6 (P:Program):Nat→TypeId→Option (List Sh)
 | 0,_=>none
 | d+1,t=>match P.underlying t,Qu P t with
  | some (.int k),some false=>some [.i k]
  | some .string,some false=>some [.s]
  | some .bool,some false=>some [.b]
  | some (.struct fs),some true=>bif P.stoodInHeld t then none else Z1p P (X6 P d) fs.toList 0
  | _,_=>none
section
variable {P:Program}
theorem Yj {x:Sh}{c:Value}{sh:List Sh}{cs:List Value}(h:Je (x::sh) (c::cs)=true):Je sh cs=true:=by
 cases x<;>cases c<;>first
  | (cases h;done)
  | (simp only[Je,Bool.and_eq_true] at h;exact h.2)
  | exact h
theorem Fx:∀{sh:List Sh} {cs:List Value},Je sh cs=true→cs.length=sh.length
 | [],[],_=>rfl
 | [],_::_,h=>by cases h
 | x::_,[],h=>by cases x<;>cases h
 | x::sh,c::cs,h=>by simp[Fx (Yj h)]
theorem O8:∀{sh sh':List Sh} {cs:List Value},Je (sh++sh') cs=true→Je sh (cs.take sh.length)=true∧Je sh' (cs.drop sh.length)=true
 | [],sh',cs,h=>⟨by simp[Je],by simpa using h⟩
 | x::sh,sh',[],h=>by cases x<;>cases h
 | x::sh,sh',c::cs,h=>by
  have key:Je (sh++sh') cs=true∧∀l,Je sh l=true→Je (x::sh) (c::l)=true:=by
   cases x<;>cases c<;>first
    | (cases h;done)
    | (simp only[List.cons_append,Je,Bool.and_eq_true] at h;exact⟨h.2,fun l hl=>by simp only[Je,Bool.and_eq_true];exact⟨h.1,hl⟩⟩)
    | exact⟨h,fun l hl=>hl⟩
  obtain⟨h1,h2⟩:=O8 key.1
  exact⟨by simpa using key.2 _ h1,by simpa using h2⟩
theorem Uj:∀{l m l' m':List Value},l.length=m.length→Mg (l++l') (m++m')=(Mg l m&&Mg l' m')
 | [],[],l',m',_=>by simp[Mg]
 | a::l,b::m,l',m',h=>by
  simp only[List.cons_append,Mg]
  rw[Uj (by simpa using h),Bool.and_assoc]
theorem Oe:∀{sh:List Sh} {cs ds:List Value},Je sh cs=true→Je sh ds=true→(Mg cs ds=true↔cs=ds)
 | [],cs,ds,h,h'=>by
  rw[al (Fx h),al (Fx h')]
  simp[Mg]
 | x::sh,[],ds,h,h'=>by cases x<;>cases h
 | x::sh,c::cs,[],h,h'=>by cases x<;>cases h'
 | x::sh,c::cs,d::ds,h,h'=>by
  have key:Je sh cs=true∧Je sh ds=true∧(eqC c d=true↔c=d):=by
   cases x<;>cases c<;>first
    | (cases h;done)
    | (cases d<;>first
     | (cases h';done)
     | (simp only[Je,Bool.and_eq_true,decide_eq_true_eq] at h h'
        refine⟨h.2,h'.2,?_⟩
        rw[←h.1,←h'.1]
        simp[eqC])
     | (refine⟨h,h',?_⟩;simp[eqC,Uo]))
  simp only[Mg,Bool.and_eq_true]
  rw[key.2.2,Oe key.1 key.2.1]
  simp
theorem J2 {ft:TypeId}{b:Bool}{n:Nat}(ha:Qu P ft=some b)(hs:(P.info? ft).map (·.size)=some n)(cs:List Value)(off:Nat)(w:World):(part ft cs.toArray off).run P w =
  if b=true then .ok (.agg ((cs.drop off).take n).toArray) w else(match cs[off]? with | some v=>.ok v w | none=>.halt (.stuck "part: no such cell") w):=by
 unfold part
 have hs:=Bg (P:=P) hs w
 simp only[Sem.run_bind,Gg ha,Result.andThen_ok]
 cases b with
 | true=>simp[hs,Result.andThen]
 | false=>simp;split<;>simp_all [Go.stuck]
theorem Z1h:∀(d:Nat) (t:TypeId) (sh:List Sh),X6 P d t=some sh→∀cs ds:List Value,Je sh cs=true→Je sh ds=true→∀w:World,
  (Qu P t=some true→(Op.equalIn d t (.agg cs.toArray) (.agg ds.toArray)).run P w=.ok (Mg cs ds) w)∧(Qu P t=some false→∀a b,cs=[a]→ds=[b]→(Op.equalIn d t a b).run P w=.ok (Mg cs ds) w)∧(Qu P t=some true∨(Qu P t=some false∧sh.length=1))
 | 0,t,sh,h=>by cases h
 | d+1,t,sh,h=>by
  intro cs ds hc hd w
  unfold X6 at h
  split at h
  ·next k h1 h2 =>
   cases h
   refine⟨fun e=>(by rw[h2] at e;cases e),fun _ a b ea eb=>?_,.inr ⟨h2,rfl⟩⟩
   subst ea eb
   cases a<;>first | (cases hc;done) | skip
   cases b<;>first | (cases hd;done) | skip
   simp only[Je,Bool.and_eq_true,decide_eq_true_eq] at hc hd
   rw[←hc.1,←hd.1,run_equalIn_int w d t k k _ _ h1]
   simp[Mg,eqC]
  ·next h1 h2 =>
   cases h
   refine⟨fun e=>(by rw[h2] at e;cases e),fun _ a b ea eb=>?_,.inr ⟨h2,rfl⟩⟩
   subst ea eb
   cases a<;>first | (cases hc;done) | skip
   cases b<;>first | (cases hd;done) | skip
   rw[run_equalIn_string w d t _ _ h1]
   simp[Mg,eqC]
  ·next h1 h2 =>
   cases h
   refine⟨fun e=>(by rw[h2] at e;cases e),fun _ a b ea eb=>?_,.inr ⟨h2,rfl⟩⟩
   subst ea eb
   cases a<;>first | (cases hc;done) | skip
   cases b<;>first | (cases hd;done) | skip
   rw[run_equalIn_bool w d t _ _ h1]
   simp[Mg,eqC]
  ·next fs h1 h2 =>
   cases hst:P.stoodInHeld t with
   | true=>rw[hst] at h;cases h
   | false =>
    rw[hst] at h
    have h:Z1p P (X6 P d) fs.toList 0=some sh:=h
    refine⟨fun _=>?_,fun e=>(by rw[h2] at e;cases e),.inl h2⟩
    have hft:P.underlying t=some (.struct (P.fieldsOf t)):=by unfold Program.fieldsOf;rw[h1]
    have hfe:P.fieldsOf t=fs:=by unfold Program.fieldsOf;rw[h1]
    rw[run_equalIn_struct w d t _ _ hft hst,hfe]
    have key:∀(fs:List Field) (off:Nat) (sh:List Sh),Z1p P (X6 P d) fs off=some sh→Je sh (cs.drop off)=true→Je sh (ds.drop off)=true→(Op.eqFields d cs.toArray ds.toArray fs).run P w=.ok (Mg (cs.drop off) (ds.drop off)) w:=fun fs=>by
     induction fs with
     | nil =>
      intro off sh h hc hd
      cases h
      rw[al (Fx hc),al (Fx hd)]
      simp[Op.eqFields,Mg]
     | cons f fs ih =>
      intro off sh h hc hd
      unfold Z1p at h
      split at h
      ·next sh1 sh2 e1 e2 e3 e4 =>
       split at h
       ·next n e5 =>
        cases e6:Nat.beq n sh1.length with
        | false=>rw[e6] at h;cases h
        | true =>
         rw[e6] at h
         have h:some (sh1++sh2)=some sh:=h
         cases h
         have e6:=ai e6
         subst e6
         have e2:=ai e2
         rw[e3] at e4
         obtain⟨c1,c2⟩:=O8 hc
         obtain⟨d1,d2⟩:=O8 hd
         have hlc:((cs.drop off).take sh1.length).length=sh1.length:=Fx c1
         have hld:((ds.drop off).take sh1.length).length=sh1.length:=Fx d1
         obtain⟨q1,q2,q3⟩:=Z1h d f.type sh1 e3 _ _ c1 d1 w
         have e1:f.name≠"_" := by simpa using e1
         have hrest:=ih (off+sh1.length) sh2 e4 (by rw[←List.drop_drop];exact c2) (by rw[←List.drop_drop];exact d2)
         have hsplit:Mg (cs.drop off) (ds.drop off)=(Mg ((cs.drop off).take sh1.length) ((ds.drop off).take sh1.length)&&Mg (cs.drop (off+sh1.length)) (ds.drop (off+sh1.length))):=by
          rw[←List.drop_drop,←List.drop_drop,←Uj (by rw[hlc,hld]),cw,cw]
         have fin:∀(b:Bool),(if(!b)=true then pure false else Op.eqFields d cs.toArray ds.toArray fs:Sem Bool).run P w=.ok (b&&Mg (cs.drop (off+sh1.length)) (ds.drop (off+sh1.length))) w:=fun b=>by
          cases b with
          | true=>simpa using hrest
          | false=>simp
         simp only[Op.eqFields,e1,ne_eq,not_false_eq_true,if_true,Sem.run_bind,e2]
         rw[hsplit,←fin]
         rcases q3 with q3 | ⟨q3,q4⟩
         ·rw[J2 q3 e5,db rfl,Result.andThen_ok,J2 q3 e5,db rfl,Result.andThen_ok,q1 q3,Result.andThen_ok]
         ·obtain⟨a,ha⟩:∃a,(cs.drop off).take sh1.length=[a]:=List.length_eq_one_iff.1 (by rw[hlc,q4])
          obtain⟨b,hb⟩:∃b,(ds.drop off).take sh1.length=[b]:=List.length_eq_one_iff.1 (by rw[hld,q4])
          have get:∀{l:List Value} {a:Value},(l.drop off).take sh1.length=[a]→l[off]?=some a:=fun {l a} h=>by
           have:=congrArg (·[0]?) h
           rw[bi,bu,db (by omega)] at this
           simpa using this
          rw[J2 q3 e5,da (by simp),get ha]
          simp only[Result.andThen_ok]
          rw[J2 q3 e5,da (by simp),get hb]
          simp only[Result.andThen_ok]
          rw[q2 q3 a b ha hb,Result.andThen_ok]
       ·cases h
      ·cases h
    simpa using key fs.toList 0 sh h (by simpa using hc) (by simpa using hd)
  ·cases h
theorem EvEq.flat {t:TypeId}{l m:List G}{K:Bool→Prop}(sh:List Sh)(cs ds:List Value)(hf:X6 P 10000 t=some sh)(hg:P.eqGuardType P.depth t=false)(ha:Qu P t=some true)(hl:Ml l cs)(hm:Ml m ds)(hc:Je sh cs=true)(hd:Je sh ds=true)(h1:cs=ds→K true)(h2:cs≠ds→K false):EvEq P t l m K:=by
 refine⟨cs,ds,Mg cs ds,hl,hm,hg,fun w=>(Z1h 10000 t sh hf cs ds hc hd w).1 ha,?_⟩
 cases hb:Mg cs ds with
 | true=>exact h1 ((Oe hc hd).1 hb)
 | false=>exact h2 fun e=>by rw[(Oe hc hd).2 e] at hb;cases hb
end
open Go.ChangeShapes Go.WideShapes Go.ChangeAt Go.RowKit
inductive Sp where
 | i (k:IntKind)
 | s
 | b
 | sl (e:List Sp)
def Wl (P:Program)(F:TypeId→Option (List Sp)):List Field→Nat→Option (List Sp)
 | [],_=>some []
 | f::fs,off=>match Nat.beq f.offset off,F f.type with
  | true,some sh=>match Nat.beq (P.cellsOf f.type) sh.length,Wl P F fs (off+sh.length) with
   | true,some sh'=>some (sh++sh')
   | _,_=>none
  | _,_=>none
def Zfu:Nat→List Sp→List Sp
 | 0,_=>[]
 | n+1,l=>l++Zfu n l
def R5 (P:Program):Nat→TypeId→Option (List Sp)
 | 0,_=>none
 | d+1,t=>match P.underlying t with
  | some (.int k)=>some [.i k]
  | some .string=>some [.s]
  | some .bool=>some [.b]
  | some (.slice e)=>match R5 P d e with
   | some sh=>bif Nat.beq (P.cellsOf e) sh.length&&Nat.blt 0 sh.length then some [.sl sh] else none
   | none=>none
  | some (.struct fs)=>match Wl P (R5 P d) fs.toList 0 with
   | some sh=>bif Nat.beq (P.cellsOf t) sh.length then some sh else none
   | none=>none
  | some (.array n e)=>match R5 P d e with
   | some sh=>bif Nat.beq (P.cellsOf e) sh.length&&Nat.beq (P.cellsOf t) (n * sh.length) then some (Zfu n sh) else none
   | none=>none
  | _=>none
inductive TyL:List Sp→List G→Prop
 | nil:TyL [] []
 | i {k:IntKind} {l:List Sp} {gs:List G} (n:Int) (hn:k.min≤n∧n≤k.max) (h:TyL l gs):TyL (.i k::l) (.v (.int k n)::gs)
 | s {l:List Sp} {gs:List G} (s:ByteArray) (hs:s.size≤maxLen) (h:TyL l gs):TyL (.s::l) (.v (.string s)::gs)
 | b {l:List Sp} {gs:List G} (b:Bool) (h:TyL l gs):TyL (.b::l) (.v (.bool b)::gs)
 | sl {e l:List Sp} {gs:List G} (rows:List (List G)) (hl:rows.length≤maxLen) (hr:∀r∈rows,TyL e r) (h:TyL l gs):TyL (.sl e::l) (.sl rows::gs)
theorem TyL.nil_inv {gs:List G}(h:TyL [] gs):gs=[]:=by cases h;rfl
theorem TyL.i_inv {k:IntKind}{l:List Sp}{gs:List G}(h:TyL (.i k::l) gs):∃n gs',gs=.v (.int k n)::gs'∧(k.min≤n∧n≤k.max)∧TyL l gs':=by cases h with | i n hn h=>exact⟨n,_,rfl,hn,h⟩
theorem TyL.s_inv {l:List Sp}{gs:List G}(h:TyL (.s::l) gs):∃s gs',gs=.v (.string s)::gs'∧s.size≤maxLen∧TyL l gs':=by cases h with | s n hn h=>exact⟨n,_,rfl,hn,h⟩
theorem TyL.sl_inv {e l:List Sp}{gs:List G}(h:TyL (.sl e::l) gs):∃rows gs',gs=.sl rows::gs'∧rows.length≤maxLen∧(∀r∈rows,TyL e r)∧TyL l gs':=by cases h with | sl n h1 h2 h=>exact⟨n,_,rfl,h1,h2,h⟩
theorem TyL.app {l m:List Sp}{gs hs:List G}(h:TyL l gs)(h':TyL m hs):TyL (l++m) (gs++hs):=by
 induction h with
 | nil=>exact h'
 | i n hn _ ih=>exact .i n hn ih
 | s n hn _ ih=>exact .s n hn ih
 | b n _ ih=>exact .b n ih
 | sl n h1 h2 _ _ ih=>exact .sl n h1 h2 ih
theorem TyL.len {l:List Sp}{gs:List G}(h:TyL l gs):gs.length=l.length:=by
 induction h with
 | nil=>rfl
 | i _ _ _ ih=>simp[ih]
 | s _ _ _ ih=>simp[ih]
 | b _ _ ih=>simp[ih]
 | sl _ _ _ _ _ ih=>simp[ih]
theorem Zbk {α:Type}{f:α→List G}{Q:α→Prop}{rows:List (List G)}(h:∀r∈rows,∃x,r=f x∧Q x):∃l:List α,rows=l.map f∧∀x∈l,Q x:=by
 induction rows with
 | nil=>exact⟨[],rfl,by simp⟩
 | cons r rows ih =>
  obtain⟨l,h1,h2⟩:=ih fun r hr=>h r (by simp[hr])
  obtain⟨x,rfl,hx⟩:=h r (by simp)
  exact⟨x::l,by simp[h1],fun y hy=>by
   rcases bh.1 hy with rfl | hy
   ·exact hx
   ·exact h2 y hy⟩
def Z3o (W:World):Imm:=fun b o=>W.cell? ⟨b,o,none⟩
theorem Z70 (W:World):Mem (Z3o W) W:=fun _ _ _ h=>h
section
variable {P:Program} {W:World} {H:Type} {enc:TypeId × Value→H}
theorem Zcu {k:IntKind}{n:Int}(h:(Lit.int k n).wf=true):k.min≤n∧n≤k.max:=by
 have h2:(decide (k.min≤n)&&decide (n≤k.max))=true:=h
 simp only[Bool.and_eq_true,decide_eq_true_eq] at h2
 exact h2
theorem Kk {Q:G→Value→Prop}{gs hs:List G}{cs:List Value}{n:Nat}(h1:PW Q gs (cs.take n))(h2:PW Q hs (cs.drop n)):PW Q (gs++hs) cs:=by
 have:=h1.append h2
 rwa [cw] at this
theorem Z9t {F:FuncId}{gs:List G}(h:FnV P F gs fun q=>q=.v (.bool true)){vs:List Value}(hp:PW (VRep (Z3o W)) gs vs):Calls P F vs.toArray W fun e W'=>e=.returned (.bool true)∧Below W.heap.size W W' :=
 (h.2 (Z3o W) W vs (Z70 W) hp).mono fun e w' ⟨x,g,I',he,hq,_,hx,_,_,hb⟩=>by
  subst hq
  cases(show VRep I' (.v (.bool true)) x from hx)
  exact⟨he,hb⟩
end
def gSt (s:ByteArray):List G:=[.v (.string s)]
theorem eqI {a b:Int}(h:a=b):(some (G.v (.int .i64 a)):Option G)=some (G.v (.int .i64 b)):=by rw[h]
theorem eqR {a b:List (List G)}{e sz:Nat}(h:a=b):(some (R.slc a e sz):Option R)=some (R.slc b e sz):=by rw[h]
theorem An {α:Type}{l:List α}{i:Nat}{x:α}(h:l[i]?=some x):l.take (i+1)=l.take i++[x]:=by
 have hi:=(ac.1 h)
 rw[List.take_succ_eq_append_getElem hi.1,hi.2]
theorem Bl {α:Type}{l:List α}{i:Nat}{x:α}(h:l[i]?=some x):i < l.length:=(ac.1 h).1
theorem VR.res {I:Imm}{V:Va}{g:G}{x:Value}(h:VR I g x):PRes I V g x:=by
 cases g with
 | tup l=>obtain⟨cs,e,hp⟩:=h;exact⟨cs,e,hp.mono fun _ _ h=>.of_v h⟩
 | oag l=>cases(show VRep I (.oag l) x from h)
 | _=>exact PRep.of_v (V:=V) h
def Imm.new (I:Imm)(w w':World):Imm:=fun b o=>if w.heap.size≤b then w'.cell? ⟨b,o,none⟩ else I b o
theorem C2 {I:Imm}{z x:Value}(h:VRep I (.v z) x):x=z:=by cases h;rfl
abbrev gI (n:Int):G:=.v (.int .i64 n)
abbrev gS (s:ByteArray):G:=.v (.string s)
theorem jn {T G:Prop}(f:T→G)(x:T):G:=f x
def Z63:G→Bool
 | .v (.int _ _) | .v (.bool _) | .v (.string _)=>true
 | _=>false
def Zh0:G→Bool
 | .tup l=>Av Z63 l
 | g=>Z63 g
def Ps:G→Bool
 | .v _ | .agg _ | .sl _=>true
 | _=>false
theorem Qv {I I':Imm}{g:G}{x:Value}(h:Z63 g=true)(hx:VRep I g x):VRep I' g x:=by
 cases g with
 | v u=>have:=As (V:=⟨0,fun _=>0,fun _=>undef,fun _ _=>False⟩) (show TRep I _ (.v u) x from hx);subst this;exact .v _
 | _=>cases h
theorem FnV.peek {P:Program}{f:FuncId}{gs:List G}{rows:List (List G)}{e sz:Nat}{Q:G→Prop}(h:FnV P f (.sl rows::gs) Q)(hg:Av Ps gs=true)(hq:∀g,Q g→Zh0 g=true):FnO P f (.osl 0::gs) [.slc rows e sz] fun g rs=>Q g∧rs=[.slc rows e sz] :=
 ⟨h.1,fun I V w vs hH hn hp=>by
  obtain⟨I2,hL,hv,-⟩:=Ec (k:=0) (rows:=rows) (e:=e) (sz:=sz) hH rfl
  have hp2:PW (VRep I2) (.sl rows::gs) vs:=by
   refine⟨hp.1,fun j g u h1 h2=>?_⟩
   cases j with
   | zero =>
    obtain rfl:G.sl rows=g:=by simpa using h1
    have h3:=hp.2 0 (.osl 0) u rfl h2
    have h3:u=V.s 0:=h3.2
    rw[h3];exact hv
   | succ j =>
    have h3:=hp.2 (j+1) g u h1 h2
    have h4:=Ac hg g (ae h1)
    have h5:VRep I g u:=by
     cases g<;>first
      | exact h3
      | cases h4
    exact h5.mono hL.fro.mono
  refine(h.2 I2 w vs hL.has.mem hp2).mono fun e' w' ⟨x,g,I3,he,hq',hM,hx,hle,hold,hb⟩=>?_
  refine⟨x,g,_,I,V,he,⟨hq',rfl⟩,hn,hH.below hb,?_,⟨hb.os,hb.tape,hb.output,hb.size,fun b hlt _=>⟨hb.block b hlt,fun _=>rfl⟩,fun _ _ _ h=>h,fun k r b h1 h2 _=>⟨k,r,h1,h2⟩⟩,.refl _⟩
  have hfl:=hq g hq'
  cases g with
  | tup l =>
   obtain⟨cs,e1,hp⟩:=hx
   refine⟨cs,e1,hp.1,fun j g u h1 h2=>?_⟩
   have h4:=Ac (p:=Z63) (l:=l) hfl g (ae h1)
   have h5:=Qv (I':=I) h4 (hp.2 j g u h1 h2)
   exact .of_v h5
  | v u=>exact Qv (I':=I) hfl hx
  | _=>cases hfl⟩
def Z4l (tt:List (Nat × TI))(t:Ts)(w:Os)(K:G→Os→Prop):ResultVar→Prop
 | .tmp i=>match look i t with
  | some (.osl k)=>match look k w with
   | some (.slc _ _ _)=>K (.osl k) w
   | _=>Ze2 w (.osl k) K
  | some g=>Ze2 w g K
  | none=>False
 | .cell i ty=>match look i t,look ty tt with
  | some (.ptr k off),some ti=>match look k w with
   | some (.blk cs _)=>match ti.agg with
    | true=>seg cs off ti.zero.length fun l=>K (.oag l) w
    | false=>False
   | _=>False
  | _,_=>False
def Ry (tt:List (Nat × TI))(t:Ts)(w:Os):List ResultVar→(List G→Os→Prop)→Prop
 | [],K=>K [] w
 | r::rs,K=>Z4l tt t w (fun g w'=>Ry tt t w' rs fun gs w''=>K (g::gs) w'') r
def Zel (own:Os):G→G
 | .tup l=>.tup (l.map (Eo own))
 | g=>Eo own g
inductive Z3l (roots:List Nat)(own:Os)(n:Nat)(g:G)(Q:G→List R→Prop):Prop
 | inl (h:∃its g',Z7e roots own n g Q its g')
 | inr (h:∃k r0 its g',look k own=some r0∧Z7e roots ((k,.gone)::own) n g Q its g')
 | gh (h:Gh (fun own n=>∃its g',Z7e roots own n (Zel own g) Q its g') own n)
def Z7 (tt:List (Nat × TI))(fn:Func)(roots:List Nat)(Q:G→List R→Prop):KC:=fun e t w n=>match e with
 | .exit _=>False
 | .goto _=>False
 | _=>match fn.results.toList with
  | [r]=>Ry tt t w [r] fun gs own=>match gs with
   | [g]=>Z3l roots own n g Q
   | _=>False
  | rs=>Ry tt t w rs fun gs own=>Z3l roots own n (.tup gs) Q
section
variable {P:Program} {tb:List (Nat × TI)} {N n0:Nat} {I:Imm} {V:Va} {a:Act} {t:Ts} {own own0:Os} {w:World}
theorem Z6g (hT:∀t i,look t tb=some i→TIok P t i){r:ResultVar}{K1:G→Os→Prop}(h:Z4l tb t own K1 r)(hH:Has I V own w)(ha:ARep N I V a t):∃g own' I' V' v,K1 g own'∧V'.n=V.n∧Later own I V w own' I' V' w∧PRe1 I' V' g v∧E4 P a w r v:=by
 cases r with
 | tmp i =>
  have old:Z1c tb t own K1 (.tmp i)→∃g own' I' V' v,K1 g own'∧V'.n=V.n∧Later own I V w own' I' V' w∧PRe1 I' V' g v∧E4 P a w (.tmp i) v:=fun h=>by
   obtain⟨g',o1,I1,V1,v,h1,h2,h3,h4,h5⟩:=Z3u (K1:=K1) hT h hH ha
   exact⟨g',o1,I1,V1,v,h1,h2,h3,.of_p h4,h5⟩
  unfold Z4l at h
  dsimp only at h
  split at h
  ·next k hl =>
   split at h
   ·obtain⟨x,hx,hv⟩:=ha.get i _ hl
    exact⟨.osl k,own,I,V,x,h,rfl,.refl hH,hv,by unfold E4 Ip;simp[hx]⟩
   ·exact old (by unfold Z1c;dsimp only;rw[hl];exact h)
  ·next g _ hl=>exact old (by unfold Z1c;dsimp only;rw[hl];exact h)
  ·exact h.elim
 | cell i ty =>
  unfold Z4l at h
  dsimp only at h
  split at h
  ·next k off ti hl hty =>
   obtain⟨x,hx,hv⟩:=ha.get i _ hl
   obtain⟨-,rfl⟩:=C4 hv
   split at h
   ·next cs ty' hb2 =>
    obtain⟨us,h1,h2,h3⟩:=Lv hH hb2
    have hti:=hT _ _ hty
    cases hag:ti.agg with
    | false=>rw[hag] at h;exact h.elim
    | true =>
     rw[hag] at h
     have hseg:=h
     obtain⟨l,hk,k2,-⟩:=Lr h h2
     have hlen2:((us.drop off).take ti.zero.length).length=ti.zero.length:=by
      rcases Nat.eq_zero_or_pos ti.zero.length with h0 | h0
      ·rw[h0];simp
      ·have:=Oc hseg h2 h0;simp;omega
     refine⟨.oag l,own,I,V,Value.agg ((us.drop off).take ti.zero.length).toArray,hk,rfl,.refl hH,⟨_,rfl,k2⟩,?_⟩
     have:=D3 (P:=P) (w:=w) (g:=V.b k) (k:=off) (ty:=ty) (cs:=(us.drop off).take ti.zero.length) (by rw[hti.agg,hag]) (by rw[hti.size,hlen2]) (fun j v hv=>by rw[h3];exact Im hv)
     unfold E4 Ip
     simp[hx,asAddr,this]
   ·exact h.elim
  ·exact h.elim
theorem Ns (hT:∀t i,look t tb=some i→TIok P t i):∀{rs:List ResultVar} {own:Os} {I:Imm} {V:Va} {K1:List G→Os→Prop},Ry tb t own rs K1→Has I V own w→ARep N I V a t→∃gs own' I' V',∃vs:List Value,K1 gs own'∧V'.n=V.n∧Later own I V w own' I' V' w∧PW (PRe1 I' V') gs vs∧vs.length=rs.length∧∀(i:Nat) r v,rs[i]?=some r→vs[i]?=some v→E4 P a w r v
 | [],own,I,V,K1,h,hH,_=>⟨[],own,I,V,[],h,rfl,.refl hH,.nil,rfl,fun i r v h=>by simp at h⟩
 | r::rs,own,I,V,K1,h,hH,ha=>by
  obtain⟨g,o1,I1,V1,v,h1,hn,h2,h3,h4⟩:=Z6g (K1:=fun g w'=>Ry tb t w' rs fun gs w''=>K1 (g::gs) w'') hT h hH ha
  obtain⟨gs,o2,I2,V2,vs,k1,kn,k2,k3,k4,k5⟩:=Ns hT h1 h2.has (ha.mono h2.fro.mono h2.va)
  refine⟨g::gs,o2,I2,V2,v::vs,k1,kn.trans hn,h2.trans k2,.cons (h3.mono k2.fro.mono k2.va) k3,by simp[k4],fun i r' v' hr hv=>?_⟩
  cases i with
  | zero=>simp at hr hv;subst hr hv;exact h4
  | succ i=>exact k5 i r' v' (by simpa using hr) (by simpa using hv)
theorem PRes.mono {I I':Imm}{V V':Va}{g:G}{x:Value}(h:PRes I V g x)(hI:I.le I')(hV:V.le V'):PRes I' V' g x:=by
 cases g with
 | tup l=>obtain⟨cs,e,hp⟩:=h;exact⟨cs,e,hp.mono fun _ _ h=>h.mono hI hV⟩
 | v z=>exact PRe1.mono (g:=.v z) h hI hV
 | tt=>exact PRe1.mono (g:=.tt) h hI hV
 | ff=>exact PRe1.mono (g:=.ff) h hI hV
 | un=>exact PRe1.mono (g:=.un) h hI hV
 | nl=>exact PRe1.mono (g:=.nl) h hI hV
 | agg l=>exact PRe1.mono (g:=.agg l) h hI hV
 | oag l=>exact PRe1.mono (g:=.oag l) h hI hV
 | ptr k o=>exact PRe1.mono (g:=.ptr k o) h hI hV
 | sl l=>exact PRe1.mono (g:=.sl l) h hI hV
 | osl k=>exact PRe1.mono (g:=.osl k) h hI hV
 | osv k a b c=>exact PRe1.mono (g:=.osv k a b c) h hI hV
 | elp l o=>exact PRe1.mono (g:=.elp l o) h hI hV
 | oel k i s o=>exact PRe1.mono (g:=.oel k i s o) h hI hV
 | orv k i s o l c=>exact PRe1.mono (g:=.orv k i s o l c) h hI hV
 | mp k=>exact PRe1.mono (g:=.mp k) h hI hV
 | clo f a c=>exact PRe1.mono (g:=.clo f a c) h hI hV
theorem Pv {g:G}{x:Value}(hH:Has I V own w)(h:PRe1 I V g x):PRe1 I V (Eo own g) x:=by
 cases g with
 | osl i =>
  unfold Eo
  dsimp only
  split
  ·next rows sz hl =>
   obtain⟨-,rfl⟩:=(show i < V.n∧x=V.s i from h)
   exact(hH.each i _ hl).2.1
  ·exact h
 | osv i sz lo hi =>
  have h2:=Md hH (show CRep I V (.osv i sz lo hi) x from h)
  unfold Eo at h2⊢
  dsimp only at h2⊢
  split at h2
  ·split at h2<;>exact h2
  ·exact h2
 | tt=>cases(show VRep I .tt x from h);exact VRep.v _
 | ff=>cases(show VRep I .ff x from h);exact VRep.v _
 | _=>exact h
theorem Zdd {g:G}{x:Value}(hH:Has I V own w)(h:PRes I V g x):PRes I V (Zel own g) x:=by
 cases g with
 | tup l =>
  obtain⟨cs,e,hp⟩:=h
  refine⟨cs,e,by simpa using hp.1,fun j g u hg hu=>?_⟩
  rw[aj] at hg
  obtain⟨g0,h1,rfl⟩:=ax.1 hg
  exact Pv hH (hp.2 j g0 u h1 hu)
 | osl i =>
  have h2:=Pv (g:=.osl i) hH h
  show PRes I V (Eo own (.osl i)) x
  unfold Eo at h2⊢
  dsimp only at h2⊢
  split at h2<;>exact h2
 | osv i sz lo hi =>
  have h2:=Pv (g:=.osv i sz lo hi) hH h
  show PRes I V (Eo own (.osv i sz lo hi)) x
  unfold Eo at h2⊢
  dsimp only at h2⊢
  split at h2
  ·split at h2<;>exact h2
  ·exact h2
 | tt=>exact Pv (g:=.tt) hH h
 | ff=>exact Pv (g:=.ff) hH h
 | _=>exact h
theorem Ww (hT:∀t i,look t tb=some i→TIok P t i)(hm:P.follows .mixedOrders=true){f:FuncId}{fn:Func}{c:Code}{gs gs0:List G}{rs:List R}{roots:List Nat}{Q:G→List R→Prop}(hf:P.funcs[f]?=some fn)(hname:(fn.name=="runtime.NumGoroutine")=false) (hb:fn.body=some c) (hn:gs0.length≤fn.ntmps) (hc:G7 tb fn.ntmps c=true)
  (ho:Zau rs gs own0 n0 gs0 roots) (h:sxC P tb c (Mh 0 gs0) own0 n0 (Z7 tb fn roots Q)):FnO P f gs rs Q:=by
 refine⟨⟨fn,hf,hname,by rw[hb];rfl⟩,fun I V w vs hH hVn hp=>?_⟩
 obtain⟨V2,h2n,hH2,hp2,hF2,hroot⟩:=ho.run I V w vs hH hVn hp
 refine calls_of_wp hf hb ?_
 have hlen:vs.length=gs0.length:=hp2.1.symm
 have ha:ARep fn.ntmps I V2 {tmps:=vs.toArray++Array.replicate (fn.ntmps - vs.toArray.size) undef,defers:=[]} (Mh 0 gs0):=by
  refine⟨rfl,by simp;omega,fun i g hg=>?_⟩
  obtain⟨j,e,hj⟩:=Js hg
  obtain rfl:i=j:=by omega
  obtain⟨u,hu,hr⟩:=hp2.get hj
  refine⟨u,?_,hr⟩
  have hi:=(ac.1 hu).1
  show(vs.toArray++_)[i]?=_
  rw[Array.getElem?_append_left (by simpa using hi)]
  simpa using hu
 have h:sxC P tb c (Mh 0 gs0) own0 V2.n (Z7 tb fn roots Q):=by rw[h2n];exact h
 refine Z7p (own0:=own0) (I0:=I) (V0:=V2) (w0:=w) hT hm (V:=V2) h ⟨hH2,.refl _ _ _ _,af _,fun _ _=>rfl⟩ ha hc (fun ch d v a w hq=>?_) fun e t own I1 V1 a w1 hk hS hA=>?_
 ·cases d<;>exact hq
 ·have key:(∀id,e≠.exit id)→bodyPost P fn (fun e w'=>∃x g rs' I' V',e=.returned x∧Q g rs'∧V'.n=rs'.length∧Has I' V' (B7 rs' 0) w'∧PRes I' V' g x∧Fro (B7 rs 0) I V w (B7 rs' 0) I' V' w'∧V.le V') .ret a w1:=fun he=>by
   refine⟨hA.defers,?_⟩
   have hk:match fn.results.toList with
     | [r]=>Ry tb t own [r] fun gs own=>match gs with
      | [g]=>Z3l roots own V1.n g Q
      | _=>False
     | rs=>Ry tb t own rs fun gs own=>Z3l roots own V1.n (.tup gs) Q:=by
    cases e with
    | exit id=>exact dc rfl (he id)
    | goto l=>exact hk.elim
    | normal=>exact hk
    | ret=>exact hk
   have fin1:∀{own' I' V' g x},Later own I1 V1 w1 own' I' V' w1→PRes I' V' g x→(∃its g',Z7e roots own' V'.n g Q its g')→∃x' g rs' I' V',Ending.returned x=.returned x'∧Q g rs'∧V'.n=rs'.length∧Has I' V' (B7 rs' 0) w1∧PRes I' V' g x'∧Fro (B7 rs 0) I V w (B7 rs' 0) I' V' w1∧V.le V':=fun {own' I' V' g x} hl hx ⟨its,g',hE⟩=>by
    obtain⟨V4,k1,k2,k3,k4,k5,k6⟩:=Z74 hE hl.has hx V.s
    have hfro:=(hF2.trans hS.fro).trans hl.fro
    refine⟨x,g',its.map It.res,I',V4,rfl,hE.post,by simpa using k1,k2,k3,⟨hfro.os,hfro.tape,hfro.output,hfro.size,hfro.blk,hfro.mono,fun i r b hi hb hlt=>?_⟩,?_,fun i hi=>⟨?_,k6 i (by rw[ho.len];omega)⟩⟩
    ·obtain⟨k,r',h1,h2⟩:=k4 i b hb
     exact hfro.foot k r' b h1 h2 hlt
    ·rw[k1,hVn,←ho.len]
     obtain⟨l,hl⟩:=hE.rts
     have:=congrArg List.length hl
     simp at this
     omega
    ·have hi':i < roots.length:=by rw[ho.len];omega
     have hr:=ab hi'
     obtain⟨h1,h2⟩:=hroot i _ hr
     rw[(k5 i _ hr).1,(hl.va.2 _ (ap (by omega) hS.n)).1,hS.bb _ (by omega),h1]
   have fin0:∀{own' I' V' g x},V'.n=V1.n→Later own I1 V1 w1 own' I' V' w1→PRes I' V' g x→(∃its g',Z7e roots own' V1.n g Q its g')→∃x' g rs' I' V',Ending.returned x=.returned x'∧Q g rs'∧V'.n=rs'.length∧Has I' V' (B7 rs' 0) w1∧PRes I' V' g x'∧Fro (B7 rs 0) I V w (B7 rs' 0) I' V' w1∧V.le V':=fun {own' I' V' g x} hn hl hx hE=>fin1 hl hx (by rw[hn];exact hE)
   have fin:∀{own' I' V' g x},V'.n=V1.n→Later own I1 V1 w1 own' I' V' w1→PRes I' V' g x→Z3l roots own' V1.n g Q→∃x' g rs' I' V',Ending.returned x=.returned x'∧Q g rs'∧V'.n=rs'.length∧Has I' V' (B7 rs' 0) w1∧PRes I' V' g x'∧Fro (B7 rs 0) I V w (B7 rs' 0) I' V' w1∧V.le V':=fun {own' I' V' g x} hn hl hx hE=>by
    rcases hE with hE | ⟨k,r0,its,g',hk0,hE⟩ | hE
    ·exact fin0 hn hl hx hE
    ·have hl2:=Fp (r:=.gone) hl.has hk0 (.refl _) hl.has.mem (fun _ _ _=>rfl) (fun b=>by simp[Va.drop])
     exact fin0 (V':=V'.drop k) hn (hl.trans hl2) (hx.mono (.refl _) hl2.va) ⟨its,g',hE⟩
    ·obtain⟨own2,I2,V2,hE,hl2⟩:=Sv hE hn hl.has
     exact fin1 (hl.trans hl2) (Zdd hl2.has (hx.mono hl2.fro.mono hl2.va)) hE
   split at hk
   ·next r hr =>
    obtain⟨gs,o2,I2,V2',vs,k1,kn,k2,k3,k4,k5⟩:=Ns hT hk hS.has hA
    rw[←hr] at k4 k5
    refine⟨_,Ft k4 k5,?_⟩
    cases gs with
    | nil=>exact k1.elim
    | cons g gs =>
     cases gs with
     | cons g' gs=>exact k1.elim
     | nil =>
      obtain⟨v,vs',rfl,hv,hn⟩:=k3.uncons
      obtain rfl:=hn.of_nil
      refine fin kn k2 ?_ k1
      cases g with
      | tup l=>cases(show VRep I2 (.tup l) v from hv)
      | _=>exact hv
   ·next rs' hr =>
    obtain⟨gs,o2,I2,V2',vs,k1,kn,k2,k3,k4,k5⟩:=Ns hT hk hS.has hA
    refine⟨_,Ft k4 k5,?_⟩
    have hv1:∀v,vs≠[v]:=fun v e=>by
     rw[e] at k4
     cases hq:fn.results.toList with
     | nil=>rw[hq] at k4;simp at k4
     | cons r l =>
      cases l with
      | nil=>exact hr r hq
      | cons r' l=>rw[hq] at k4;simp at k4
    have e:Qh vs=.tuple vs.toArray:=by
     unfold Qh
     split
     ·next v=>exact dc rfl (hv1 v)
     ·rfl
    rw[e]
    exact fin (g:=.tup gs) kn k2 ⟨vs,rfl,k3⟩ k1
  cases e with
  | normal=>exact key fun id h=>by cases h
  | exit id=>exact hk.elim
  | goto l=>exact hk.elim
  | ret=>exact key fun id h=>by cases h
end
def Zhi:List G:=List.replicate 64 (.v (.int .u8 0))
def zk124:List G:=List.replicate 64 (.v (.int .u8 0))
def Zhh:List G:=.v (.int .i64 0)::List.replicate 64 (.v (.int .u8 0))
def zk126:List G:=.v (.int .i64 0)::List.replicate 64 (.v (.int .u8 0))
set_option maxRecDepth 100000 in
def tab:List (Nat × TI):=[
 (2,⟨false,[.v (.int .i64 0)],none,[],false,some .i64,.no⟩),
 (3,⟨false,[.v (.int .i64 0)],none,[],false,some .i64,.no⟩),
 (4,⟨false,[.ff],none,[],false,none,.bool⟩),
 (5,⟨false,[.v (.int .u8 0)],none,[],false,some .u8,.no⟩),
 (6,⟨false,[.v (.int .u8 0)],none,[],false,some .u8,.no⟩),
 (7,⟨true,[.v (.int .i64 0),.v (.int .i64 0),.ff,.v (.int .u8 0)],none,[(2,0),(3,1),(4,2),(6,3)],false,none,.no⟩),
 (8,⟨true,[.v (.int .i64 0),.v (.int .i64 0),.ff,.v (.int .u8 0)],none,[(2,0),(3,1),(4,2),(6,3)],false,none,.no⟩),
 (9,⟨false,[.v (.string ⟨#[]⟩)],none,[],true,none,.no⟩),
 (10,⟨false,[.v (.string ⟨#[]⟩)],none,[],true,none,.no⟩),
 (11,⟨false,[.v (.string ⟨#[]⟩)],none,[],true,none,.no⟩),
 (12,⟨false,[.v (.int .u64 0)],none,[],false,some .u64,.no⟩),
 (13,⟨true,[.v (.string ⟨#[]⟩),.v (.int .u64 0)],none,[(9,0),(12,1)],false,none,.no⟩),
 (14,⟨true,[.v (.string ⟨#[]⟩),.v (.int .u64 0)],none,[(9,0),(12,1)],false,none,.no⟩),
 (15,⟨false,[.v (.pointer none)],none,[],false,none,.ptr⟩),
 (16,⟨false,[.v (.pointer none)],none,[],false,none,.ptr⟩),
 (17,⟨false,[.v (.pointer none)],none,[],false,none,.ptr⟩),
 (18,⟨true,[.v (.pointer none)],none,[(17,0)],false,none,.no⟩),
 (19,⟨true,[.v (.pointer none)],none,[(17,0)],false,none,.no⟩),
 (20,⟨false,[.v (.nilIface)],none,[],false,none,.no⟩),
 (21,⟨false,[.v (.int .i32 0)],none,[],false,some .i32,.no⟩),
 (22,⟨false,[.nl],some (71,3),[],false,none,.no⟩),
 (23,⟨true,[.v (.int .i64 0),.v (.int .i64 0),.v (.int .i64 0),.v (.int .i64 0),.nl],none,[(3,0),(3,1),(3,2),(3,3),(22,4)],false,none,.no⟩),
 (24,⟨true,[.v (.int .i64 0),.v (.int .i64 0),.v (.int .i64 0),.v (.int .i64 0),.nl],none,[(3,0),(3,1),(3,2),(3,3),(22,4)],false,none,.no⟩),
 (26,⟨false,[.v (.int .i64 0)],none,[],false,some .i64,.no⟩),
 (29,⟨true,[.v (.int .i64 0),.v (.int .i64 0),.v (.int .i64 0),.v (.int .i64 0),.nl],none,[(3,0),(3,1),(3,2),(3,3),(22,4)],false,none,.no⟩),
 (37,⟨false,[.nl],some (46,4),[],false,none,.no⟩),
 (38,⟨false,[.v (.pointer none)],none,[],false,none,.ptr⟩),
 (40,⟨false,[.v (.pointer none)],none,[],false,none,.ptr⟩),
 (44,⟨false,[.nl],some (5,1),[],false,none,.fn⟩),
 (45,⟨true,[.v (.int .i64 0),.v (.int .i64 0),.v (.int .i64 0),.nl],none,[(3,0),(3,1),(3,2),(44,3)],false,none,.no⟩),
 (46,⟨true,[.v (.int .i64 0),.v (.int .i64 0),.v (.int .i64 0),.nl],none,[(3,0),(3,1),(3,2),(44,3)],false,none,.no⟩),
 (53,⟨false,[.nl],some (61,3),[],false,none,.no⟩),
 (56,⟨false,[.nl],some (63,7),[],false,none,.no⟩),
 (58,⟨false,[.v (.pointer none)],none,[],false,none,.ptr⟩),
 (60,⟨true,[.v (.int .i64 0),.v (.int .i64 0),.v (.string ⟨#[]⟩)],none,[(3,0),(3,1),(9,2)],false,none,.no⟩),
 (61,⟨true,[.v (.int .i64 0),.v (.int .i64 0),.v (.string ⟨#[]⟩)],none,[(3,0),(3,1),(9,2)],false,none,.no⟩),
 (62,⟨true,[.v (.int .i64 0),.v (.int .i64 0),.v (.int .i64 0),.v (.string ⟨#[]⟩),.v (.int .i64 0),.v (.int .i64 0),.v (.string ⟨#[]⟩)],none,[(3,0),(3,1),(3,2),(9,3),(61,4)],false,none,.no⟩),
 (63,⟨true,[.v (.int .i64 0),.v (.int .i64 0),.v (.int .i64 0),.v (.string ⟨#[]⟩),.v (.int .i64 0),.v (.int .i64 0),.v (.string ⟨#[]⟩)],none,[(3,0),(3,1),(3,2),(9,3),(61,4)],false,none,.no⟩),
 (64,⟨false,[.nl],some (40,1),[],false,none,.no⟩),
 (65,⟨false,[.nl],some (38,1),[],false,none,.no⟩),
 (66,⟨false,[.nl],some (77,12),[],false,none,.no⟩),
 (67,⟨true,[.nl,.nl,.nl,.nl],none,[(64,0),(65,1),(66,2),(53,3)],false,none,.no⟩),
 (68,⟨true,[.nl,.nl,.nl,.nl],none,[(64,0),(65,1),(66,2),(53,3)],false,none,.no⟩),
 (70,⟨true,[.v (.int .i64 0),.v (.int .i64 0),.v (.string ⟨#[]⟩)],none,[(3,0),(3,1),(9,2)],false,none,.no⟩),
 (71,⟨true,[.v (.int .i64 0),.v (.int .i64 0),.v (.string ⟨#[]⟩)],none,[(3,0),(3,1),(9,2)],false,none,.no⟩),
 (74,⟨false,[.nl],some (164,4),[],false,none,.no⟩),
 (75,⟨false,[.nl],some (3,1),[],false,none,.no⟩),
 (76,⟨true,[.v (.int .i64 0),.v (.int .i64 0),.v (.int .i64 0),.v (.int .i64 0),.nl,.v (.int .i64 0),.v (.int .i64 0),.nl,.nl,.v (.int .i64 0),.nl,.nl],none,[(3,0),(3,1),(3,2),(3,3),(22,4),(3,5),(3,6),(74,7),(75,8),(3,9),(75,10),(53,11)],false,none,.no⟩),
 (77,⟨true,[.v (.int .i64 0),.v (.int .i64 0),.v (.int .i64 0),.v (.int .i64 0),.nl,.v (.int .i64 0),.v (.int .i64 0),.nl,.nl,.v (.int .i64 0),.nl,.nl],none,[(3,0),(3,1),(3,2),(3,3),(22,4),(3,5),(3,6),(74,7),(75,8),(3,9),(75,10),(53,11)],false,none,.no⟩),
 (83,⟨false,[.nl],some (84,3),[],false,none,.no⟩),
 (84,⟨true,[.v (.int .i64 0),.v (.int .i64 0),.v (.int .i64 0)],none,[],false,none,.arr 3 3 1⟩),
 (89,⟨true,[.v (.int .i64 0),.v (.int .i64 0)],none,[],false,none,.arr 2 3 1⟩),
 (93,⟨true,[.v (.int .i64 0),.v (.int .i64 0),.v (.string ⟨#[]⟩)],none,[(3,0),(3,1),(9,2)],false,none,.no⟩),
 (94,⟨true,[.v (.int .i64 0),.v (.int .i64 0),.v (.string ⟨#[]⟩)],none,[(3,0),(3,1),(9,2)],false,none,.no⟩),
 (96,⟨false,[.nl],some (94,3),[],false,none,.no⟩),
 (105,⟨false,[.nl],some (124,64),[],false,none,.no⟩),
 (106,⟨false,[.nl],some (126,65),[],false,none,.no⟩),
 (107,⟨true,[.nl,.nl,.nl,.v (.int .i64 0),.ff],none,[(105,0),(105,1),(106,2),(3,3),(4,4)],false,none,.no⟩),
 (108,⟨true,[.nl,.nl,.nl,.v (.int .i64 0),.ff],none,[(105,0),(105,1),(106,2),(3,3),(4,4)],false,none,.no⟩),
 (109,⟨false,[.v (.pointer none)],none,[],false,none,.ptr⟩),
 (112,⟨true,[.ff,.v (.int .i64 0),.nl],none,[(4,0),(3,1),(22,2)],false,none,.no⟩),
 (113,⟨true,[.ff,.v (.int .i64 0),.nl],none,[(4,0),(3,1),(22,2)],false,none,.no⟩),
 (114,⟨true,[.ff,.v (.int .i64 0),.nl,.ff,.v (.int .i64 0),.nl,.ff,.v (.int .i64 0),.nl,.ff,.v (.int .i64 0),.nl,.ff,.v (.int .i64 0),.nl,.ff,.v (.int .i64 0),.nl,.ff,.v (.int .i64 0),.nl],none,[],false,none,.arr 7 113 3⟩),
 (115,⟨true,[.v (.int .i64 0),.v (.int .i64 0),.v (.int .i64 0),.v (.int .i64 0),.v (.int .i64 0),.v (.int .i64 0),.v (.int .i64 0)],none,[],false,none,.arr 7 3 1⟩),
 (116,⟨true,[.ff,.ff,.ff,.ff,.ff,.ff,.ff],none,[],false,none,.arr 7 4 1⟩),
 (117,⟨true,[.v (.int .i64 0),.v (.int .i64 0),.v (.pointer none),.v (.int .i64 0),.v (.int .i64 0),.nl,.v (.int .i64 0),.ff,.ff,.ff,.v (.int .i64 0),.nl,.ff,.v (.int .i64 0),.nl,.ff,.v (.int .i64 0),.nl,.ff,.v (.int .i64 0),.nl,.ff,.v (.int .i64 0),.nl,.ff,.v (.int .i64 0),.nl,.ff,.v (.int .i64 0),.nl,.v (.int .i64 0),.v (.int .i64 0),.v (.int .i64 0),.v (.int .i64 0),.v (.int .i64 0),.v (.int .i64 0),.v (.int .i64 0),.v (.int .i64 0),.ff,.ff,.ff,.ff,.ff,.ff,.ff,.nl,.ff],none,[(3,0),(3,1),(109,2),(3,3),(3,4),(22,5),(3,6),(4,7),(4,8),(114,9),(3,30),(115,31),(116,38),(53,45),(4,46)],false,none,.no⟩),
 (118,⟨true,[.v (.int .i64 0),.v (.int .i64 0),.v (.pointer none),.v (.int .i64 0),.v (.int .i64 0),.nl,.v (.int .i64 0),.ff,.ff,.ff,.v (.int .i64 0),.nl,.ff,.v (.int .i64 0),.nl,.ff,.v (.int .i64 0),.nl,.ff,.v (.int .i64 0),.nl,.ff,.v (.int .i64 0),.nl,.ff,.v (.int .i64 0),.nl,.ff,.v (.int .i64 0),.nl,.v (.int .i64 0),.v (.int .i64 0),.v (.int .i64 0),.v (.int .i64 0),.v (.int .i64 0),.v (.int .i64 0),.v (.int .i64 0),.v (.int .i64 0),.ff,.ff,.ff,.ff,.ff,.ff,.ff,.nl,.ff],none,[(3,0),(3,1),(109,2),(3,3),(3,4),(22,5),(3,6),(4,7),(4,8),(114,9),(3,30),(115,31),(116,38),(53,45),(4,46)],false,none,.no⟩),
 (119,⟨false,[.nl],some (9,1),[],false,none,.no⟩),
 (123,⟨true,Zhi,none,[],false,none,.arr 64 5 1⟩),
 (124,⟨true,zk124,none,[],false,none,.arr 64 5 1⟩),
 (125,⟨true,Zhh,none,[(3,0),(124,1)],false,none,.no⟩),
 (126,⟨true,zk126,none,[(3,0),(124,1)],false,none,.no⟩),
 (146,⟨false,[.v (.int .u64 0)],none,[],false,some .u64,.no⟩),
 (148,⟨true,[.v (.pointer none),.v (.int .i64 0),.v (.int .i64 0),.v (.int .u64 0),.v (.int .i64 0),.v (.int .i64 0),.nl,.nl,.ff],none,[(38,0),(3,1),(3,2),(146,3),(3,4),(3,5),(44,6),(119,7),(4,8)],false,none,.no⟩),
 (149,⟨true,[.v (.pointer none),.v (.int .i64 0),.v (.int .i64 0),.v (.int .u64 0),.v (.int .i64 0),.v (.int .i64 0),.nl,.nl,.ff],none,[(38,0),(3,1),(3,2),(146,3),(3,4),(3,5),(44,6),(119,7),(4,8)],false,none,.no⟩),
 (161,⟨true,[.v (.int .i64 0),.v (.int .i64 0)],none,[(3,0),(3,1)],false,none,.no⟩),
 (162,⟨true,[.v (.int .i64 0),.v (.int .i64 0)],none,[(3,0),(3,1)],false,none,.no⟩),
 (163,⟨true,[.v (.int .i64 0),.v (.int .i64 0),.v (.int .i64 0),.nl],none,[(3,0),(162,1),(22,3)],false,none,.no⟩),
 (164,⟨true,[.v (.int .i64 0),.v (.int .i64 0),.v (.int .i64 0),.nl],none,[(3,0),(162,1),(22,3)],false,none,.no⟩),
 (170,⟨false,[.nl],some (162,2),[],false,none,.no⟩),
 (171,⟨false,[.nl],some (22,1),[],false,none,.no⟩),
 (172,⟨false,[.nl],some (113,3),[],false,none,.no⟩),
 (176,⟨false,[.v (.int .u64 0)],none,[],false,some .u64,.no⟩),
 (178,⟨true,[.v (.int .u8 0),.v (.int .u8 0),.v (.int .u8 0),.v (.int .u8 0),.v (.int .u8 0),.v (.int .u8 0),.v (.int .u8 0),.v (.int .u8 0)],none,[],false,none,.arr 8 5 1⟩),
 (179,⟨true,[.v (.int .u8 0),.v (.int .u8 0),.v (.int .u8 0),.v (.int .u8 0),.v (.int .u8 0),.v (.int .u8 0),.v (.int .u8 0),.v (.int .u8 0)],none,[],false,none,.arr 8 5 1⟩),
 (188,⟨true,[.nl],none,[(170,0)],false,none,.no⟩),
 (189,⟨true,[.nl],none,[(170,0)],false,none,.no⟩),
 (201,⟨false,[.v (.int .i64 0)],none,[],false,some .i64,.no⟩),
 (208,⟨false,[.v (.int .u32 0)],none,[],false,some .u32,.no⟩),
 (210,⟨false,[.v (.int .u64 0)],none,[],false,some .u64,.no⟩),
 (214,⟨false,[.v (.pointer none)],none,[],false,none,.ptr⟩),
 (216,⟨false,[.v (.pointer none)],none,[],false,none,.ptr⟩),
 (219,⟨true,[.v (.pointer none),.v (.pointer none),.v (.pointer none),.v (.string ⟨#[]⟩)],none,[(17,0),(17,1),(17,2),(9,3)],false,none,.no⟩),
 (220,⟨true,[.v (.pointer none),.v (.pointer none),.v (.pointer none),.v (.string ⟨#[]⟩)],none,[(17,0),(17,1),(17,2),(9,3)],false,none,.no⟩),
 (221,⟨true,[],none,[],false,none,.arr 0 16 1⟩),
 (224,⟨false,[.v (.int .u8 0)],none,[],false,some .u8,.no⟩),
 (225,⟨false,[.v (.int .u8 0)],none,[],false,some .u8,.no⟩),
 (227,⟨false,[.v (.pointer none)],none,[],false,none,.ptr⟩),
 (228,⟨false,[.v (.int .i32 0)],none,[],false,some .i32,.no⟩),
 (229,⟨false,[.v (.int .i32 0)],none,[],false,some .i32,.no⟩),
 (230,⟨true,[.v (.int .u64 0),.v (.int .u64 0),.v (.int .u32 0),.v (.int .u8 0),.v (.int .u8 0),.v (.int .u8 0),.v (.int .u8 0),.v (.nilFunc),.v (.pointer none),.v (.int .i32 0),.v (.int .i32 0)],none,[(12,0),(12,1),(208,2),(224,3),(5,4),(5,5),(225,6),(226,7),(227,8),(228,9),(229,10)],false,none,.no⟩),
 (231,⟨true,[.v (.int .u64 0),.v (.int .u64 0),.v (.int .u32 0),.v (.int .u8 0),.v (.int .u8 0),.v (.int .u8 0),.v (.int .u8 0),.v (.nilFunc),.v (.pointer none),.v (.int .i32 0),.v (.int .i32 0)],none,[(12,0),(12,1),(208,2),(224,3),(5,4),(5,5),(225,6),(226,7),(227,8),(228,9),(229,10)],false,none,.no⟩),
 (232,⟨false,[.v (.pointer none)],none,[],false,none,.no⟩)]
theorem Zi1:Zi5 Tryz.prog tab=true:=by kernel_rfl
theorem fnG {f:FuncId}{fn:Func}{c:Code}{gs:List G}{Q:G→Prop}(hf:Tryz.prog.funcs[f]?=some fn)(h:sxC Tryz.prog tab c (Mh 0 gs) [] 0 (Zck tab fn Q))(hname:(fn.name=="runtime.NumGoroutine")=false:=by kernel_rfl) (hb:fn.body=some c:=by exact rfl) (hn:gs.length≤fn.ntmps:=by exact c9 (by kernel_rfl)) (hc:G7 tab fn.ntmps c=true:=by kernel_rfl):FnV Tryz.prog f gs Q :=
 Z65 (Z79 Zi1) (by kernel_rfl) hf hname hb hn hc h
mutual
def Mj:G→Nat
 | .v x=>match x with
  | .string s=>s.size+1
  | _=>1
 | .sl rows=>Kl rows+1
 | _=>1
def Ea:List G→Nat
 | []=>0
 | g::r=>Mj g+Ea r
def Kl:List (List G)→Nat
 | []=>0
 | r::rs=>Ea r+Kl rs
end
theorem Po (a b:List G):Ea (a++b)=Ea a+Ea b:=by
 induction a with
 | nil=>simp[Ea]
 | cons g a ih=>simp only[List.cons_append,Ea,ih];omega
section
variable {P:Program} {W:World} {H:Type} {enc:TypeId × Value→H}
theorem Z6i {α:Type}(l:List α)(f:α→List G)(D:α→DataW H)(h:∀x∈l,Ea (f x)≤Rows.uptoBulk (D x)):Kl (l.map f)≤Rows.uptoBulkAll (l.map D):=by
 induction l with
 | nil=>simp[Kl,Rows.uptoBulkAll]
 | cons x l ih =>
  simp only[List.map_cons,Kl,Rows.uptoBulkAll]
  have h1:=h x (by simp)
  have h2:=ih fun y hy=>h y (by simp[hy])
  omega
theorem Zfj:∀(d:Nat) (t:TypeId) (sh:List Sp),R5 P d t=some sh→∀(fuel:Nat) (cs:List Value) (y:DataW H × List MemPlace),DataW.trod enc P W 0 (fun _=>true) true fuel t cs=some y→∃gs,TyL sh gs∧PW (VRep (Z3o W)) gs cs∧Ea gs≤Rows.uptoBulk y.1
 | 0,t,sh,h=>by cases h
 | d+1,t,sh,h=>by
  intro fuel cs y hy
  unfold R5 at h
  split at h
  ·next k hu =>
   cases h
   obtain⟨n,rfl,rfl,hw⟩:=DataW.trod_int hu hy
   exact⟨_,.i n (Zcu hw) .nil,.cons (.v _) .nil,by simp[Ea,Mj,Rows.uptoBulk]⟩
  ·next hu =>
   cases h
   obtain⟨s,rfl,rfl,hs⟩:=DataW.trod_string hu hy
   exact⟨_,.s s hs .nil,.cons (.v _) .nil,by simp[Ea,Mj,Rows.uptoBulk]⟩
  ·next hu =>
   cases h
   obtain⟨b,rfl,rfl⟩:=DataW.trod_bool hu hy
   exact⟨_,.b b .nil,.cons (.v _) .nil,by simp[Ea,Mj,Rows.uptoBulk]⟩
  ·next e hu =>
   split at h
   ·next she he =>
    cases hb:Nat.beq (P.cellsOf e) she.length&&Nat.blt 0 she.length with
    | false=>rw[hb] at h;cases h
    | true =>
     rw[hb] at h
     have h:some [Sp.sl she]=some sh:=h
     cases h
     simp only[Bool.and_eq_true] at hb
     have hsz:=ai hb.1
     have hpos:=c9 hb.2
     rcases Go.Deep.open_slice hu hy with⟨rfl,rfl⟩ | ⟨a,len,cap,m,n,D,Pl,rfl,-,hl,hm,hmm,rfl,hi⟩
     ·exact⟨_,.sl [] (by simp) (by simp) .nil,.cons (.sl [] none 0 0 (fun _ _=>undef) (af _) (fun _=>rfl) (by simp) (fun i r h=>by simp at h) (fun i r j g h=>by simp at h)) .nil,by simp[Ea,Mj,Kl,Rows.uptoBulk]⟩
     ·simp only[if_true] at hmm
      subst hmm
      have hx:∀i,i < len→∃p:List G × List Value,TyL she p.1∧PW (VRep (Z3o W)) p.1 p.2∧p.2.length=she.length∧(∀(j:Nat) u,p.2[j]?=some u→W.cell? ((a.add (i * she.length)).add j)=some u)∧Ea p.1≤Rows.uptoBulk (D i):=fun i hil=>by
       obtain⟨cs',hc,ht'⟩:=hi i (by omega)
       obtain⟨gs,h1,h2,h3⟩:=Zfj d e she he n cs' _ ht'
       obtain⟨-,hcl,hat⟩:=World.cells?_some hc
       rw[hsz] at hcl hat
       refine⟨(gs,cs'),h1,h2,hcl,fun j u hu=>?_,h3⟩
       have hj:j < she.length:=by rw[←hcl];exact(ac.1 hu).1
       rw[hat j hj]
       exact hu
      haveI:Inhabited (List G × List Value):=⟨([],[])⟩
      obtain⟨p,hp⟩:=Go.Deep.choose_lt hx
      have hrow:∀(i:Nat) r,((List.range len).map fun i=>(p i).1)[i]?=some r→i < len∧r=(p i).1:=fun i r hr=>by
       have hi:=(ac.1 hr).1
       have hi':i < len:=by simpa using hi
       rw[aj,cp hi'] at hr
       exact⟨hi',by simpa using hr.symm⟩
      have hsp:0 < len→a=⟨a.block,a.off,none⟩:=fun h0=>by
       have hq:=(hp 0 h0).2.2.2.1 0 ((p 0).2[0]'(by rw[(hp 0 h0).2.2.1];exact hpos)) (ab _)
       have:=World.cell?_spot hq
       simp only[Addr.add,Nat.zero_mul,if_true] at this
       cases a
       simp at this
       subst this
       rfl
      have key:=VRep.sl (I:=Z3o W) ((List.range len).map fun i=>(p i).1) (some a) m she.length (fun i j=>((p i).2[j]?).getD undef) (by simpa using hl) (fun e=>by cases e) (fun r hr=>by
       obtain⟨i,hi,e⟩:=cf.1 hr
       obtain⟨h1,h2⟩:=hrow i r (by rw[ab hi,e])
       rw[h2,(hp i h1).2.1.1,(hp i h1).2.2.1]) (fun i r hr=>by
       obtain⟨h1,-⟩:=hrow i r hr
       refine⟨a.block,a.off,by rw[←hsp (by omega)],fun j hj=>?_⟩
       have hj':j < (p i).2.length:=by rw[(hp i h1).2.2.1];exact hj
       have hq:=(hp i h1).2.2.2.1 j _ (ab hj')
       rw[ab hj',Option.getD_some,←hq]
       unfold Z3o
       have e:=hsp (by omega)
       generalize a.block=b at *
       generalize a.off=o at *
       subst e
       rw[C7,C7]) (fun i r j g hr hg=>by
       obtain⟨h1,rfl⟩:=hrow i r hr
       obtain⟨u,h2,h3⟩:=(hp i h1).2.1.get hg
       rw[h2]
       exact h3)
      refine⟨_,.sl ((List.range len).map fun i=>(p i).1) (by simp;omega) (fun r hr=>?_) .nil,.cons (by simpa using key) .nil,?_⟩
      ·obtain⟨i,hi,rfl⟩:=az.1 hr
       exact(hp i (List.mem_range.1 hi)).1
      ·have:=Z6i (List.range len) (fun i=>(p i).1) D fun i hi=>(hp i (List.mem_range.1 hi)).2.2.2.2
       simp only[Ea,Mj,Rows.uptoBulk]
       omega
   ·cases h
  ·next fs hu =>
   split at h
   ·next sh' hf =>
    cases hb:Nat.beq (P.cellsOf t) sh'.length with
    | false=>rw[hb] at h;cases h
    | true =>
     rw[hb] at h
     have h:some sh'=some sh:=h
     cases h
     have hsz:=ai hb
     obtain⟨xs,m,-,rfl,hlen,hxl,hel⟩:=DataW.trod_struct hu hy
     have key:∀(fs':List Field) (xs':List (DataW H × List MemPlace)) (off:Nat) (sh:List Sp),xs'.length=fs'.length→(∀(j:Nat) f,fs'[j]?=some f→DataW.trod enc P W 0 (fun _=>true) true m f.type ((cs.drop f.offset).take (P.cellsOf f.type))=xs'[j]?)→Wl P (R5 P d) fs' off=some sh→cs.length=off+sh.length→∃gs,TyL sh gs∧PW (VRep (Z3o W)) gs (cs.drop off)∧Ea gs≤Rows.uptoBulkAll (xs'.map (·.1)):=fun fs'=>by
      induction fs' with
      | nil =>
       intro xs' off sh _ _ h hl
       cases h
       exact⟨[],.nil,by rw[c7 (by simp at hl;omega)];exact .nil,by simp[Ea]⟩
      | cons f fs' ih =>
       intro xs' off sh hxl hall h hl
       cases xs' with
       | nil=>cases hxl
       | cons y xs' =>
        unfold Wl at h
        split at h
        ·next sh1 e1 e2 =>
         split at h
         ·next sh2 e3 e4 =>
          cases h
          have e1:=ai e1
          have e3:=ai e3
          have hy:=hall 0 f rfl
          obtain⟨g1,t1,p1,b1⟩:=Zfj d f.type sh1 e2 m _ y hy
          rw[aw] at hl
          obtain⟨g2,t2,p2,b2⟩:=ih xs' (off+sh1.length) sh2 (by simpa using hxl) (fun j f hf=>hall (j+1) f (by simpa using hf)) e4 (by omega)
          rw[e1,e3] at p1
          refine⟨g1++g2,t1.app t2,Kk p1 ?_,?_⟩
          ·rw[List.drop_drop]
           exact p2
          ·rw[Po]
           simp only[List.map_cons,Rows.uptoBulkAll]
           omega
         ·cases h
        ·cases h
     obtain⟨gs,h1,h2,h3⟩:=key fs.toList xs 0 sh (by rw[hxl];simp) (fun j f hf=>hel j f (by simpa using hf)) hf (by omega)
     refine⟨gs,h1,by simpa using h2,?_⟩
     simp only[Rows.uptoBulk]
     omega
   ·cases h
  ·next n e hu =>
   split at h
   ·next she he =>
    cases hb:Nat.beq (P.cellsOf e) she.length&&Nat.beq (P.cellsOf t) (n * she.length) with
    | false=>rw[hb] at h;cases h
    | true =>
     rw[hb] at h
     have h:some (Zfu n she)=some sh:=h
     cases h
     simp only[Bool.and_eq_true] at hb
     have hsz:=ai hb.1
     have hct:=ai hb.2
     obtain⟨xs,m,-,rfl,hlen,hxl,hel⟩:=DataW.trod_array hu hy
     have key:∀(k i:Nat),i+k=n→∃gs,TyL (Zfu k she) gs∧PW (VRep (Z3o W)) gs (cs.drop (i * she.length))∧Ea gs≤Rows.uptoBulkAll ((xs.drop i).map (·.1)):=fun k=>by
      induction k with
      | zero =>
       intro i hi
       refine⟨[],.nil,?_,by simp[Ea]⟩
       rw[c7 (by rw[hlen,hct,←hi,Nat.add_zero];exact af _)]
       exact .nil
      | succ k ih =>
       intro i hi
       have hxi:i < xs.length:=by omega
       have h1:=hel i (by omega)
       rw[ab hxi] at h1
       obtain⟨g1,t1,p1,b1⟩:=Zfj d e she he m _ _ h1
       obtain⟨g2,t2,p2,b2⟩:=ih (i+1) (by omega)
       rw[hsz] at p1
       refine⟨g1++g2,t1.app t2,Kk p1 ?_,?_⟩
       ·rw[List.drop_drop]
        rw[Nat.succ_mul] at p2
        exact p2
       ·rw[Po,List.drop_eq_getElem_cons hxi]
        simp only[List.map_cons,Rows.uptoBulkAll]
        omega
     obtain⟨gs,h1,h2,h3⟩:=key n 0 (by omega)
     refine⟨gs,h1,by simpa using h2,?_⟩
     simp only[Rows.uptoBulk]
     simp at h3
     omega
   ·cases h
  ·cases h
theorem W8 {t:TypeId}{sp:Sp}{base:Nat}{v:Value}{d:DataW H}{p:List MemPlace}(hf:R5 P 100 t=some [sp])(ha:Qu P t=some false)(hv:Value.okWide P W .any base t v)(h:DataW.Trod enc P W 0 (fun _=>true) true t v d p):∃g,TyL [sp] [g]∧VRep (Z3o W) g v∧Mj g≤Rows.uptoBulk d:=by
 obtain⟨fuel,hy⟩:=h
 obtain⟨gs,h1,h2,h3⟩:=Zfj 100 t [sp] hf fuel _ _ hy
 have hag:∀cs,v≠.agg cs:=fun cs e=>by
  subst e
  unfold Value.okWide Cell.okWide at hv
  unfold R5 at hf
  unfold Qu at ha
  cases hu:P.underlying t with
  | none=>rw[hu] at hf;cases hf
  | some u=>rw[hu] at hf hv ha;cases u<;>first | (cases hf;done) | (simp at ha;done) | (simp[Cell.ok,hu] at hv;done)
 have hc:v.cells.toList=[v]:=by cases v<;>first | rfl | exact dc rfl (hag _)
 rw[hc] at h2
 have hl:=h1.len
 obtain⟨g,rfl⟩:=List.length_eq_one_iff.1 hl
 exact⟨g,h1,h2.2 0 g v rfl rfl,by simpa [Ea] using h3⟩
end
end Go.Proofs.YtihfaocdpmmooaaGreat
