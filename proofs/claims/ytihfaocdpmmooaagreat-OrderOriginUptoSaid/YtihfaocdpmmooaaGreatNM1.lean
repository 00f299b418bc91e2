
import Derived.Test.YtihfaocdpmmooaaGreatPl1
import Derived.Test.YtihfaocdpmmooaaGreatRkM
import Derived.Test.YtihfaocdpmmooaaGreatFn1
import Derived.Test.YtihfaocdpmmooaaGreatOM2
import Derived.Test.YtihfaocdpmmooaaGreatOM3
import Derived.Test.YtihfaocdpmmooaaGreatSxMe
namespace Go.Proofs.YtihfaocdpmmooaaGreat
abbrev A5 (l:List REnt):Int:=((l.map enE).length:Nat)
theorem Dg (l:List REnt):A5 l=(l.length:Nat):=congrArg Nat.cast (List.length_map ..)
structure RJ where
 is:Bool
 normal:Int
 l:List REnt
structure RPk where
 frm:Int
 to:Int
 body:ByteArray
structure PN where
 self:Nat
 many:Nat
 pmd:Int
 normal:Int
 log:List REnt
 cmt:Int
 lds:Bool
 std:Bool
 jns:Nat→RJ
 first:Int
 aks:Nat→Int
 hrd:Nat→Bool
 out:List RPk
 dead:Bool
 st:LD
def j0:RJ:=⟨false,0,[]⟩
def Cb (kind a b:Int)(s:ByteArray):ByteArray:=⟨(Xv [⟨1,kind,eS⟩,⟨2,a,eS⟩,⟨2,b,eS⟩,⟨3,0,s⟩]).toArray⟩
def Cu (p:Int × Int × List REnt)(r:ByteArray):Option (Int × Int × List REnt) :=
 if(L8 [1,2,2,3] r.data.toList).e≠0 then none else match(L8 [1,2,2,3] r.data.toList).l with
 | [k,a,b,s]=>if k.n=1 then some (a.n,p.2.1,p.2.2) else if k.n=2 then some (p.1,a.n,p.2.2) else if k.n=3 then some (p.1,p.2.1,p.2.2++[⟨a.n,b.n,s.s⟩]) else none
 | _=>none
def B6:List ByteArray→Int × Int × List REnt→Option (Int × Int × List REnt)
 | [],p=>some p
 | r::l,p=>match Cu p r with
  | none=>none
  | some p=>B6 l p
def I4 (self many:Nat)(p:Int × Int × List REnt)(st:LD):PN:=⟨self,many,p.1,p.2.1,p.2.2,0,false,false,fun _=>j0,0,fun _=>0,fun _=>false,[],false,st⟩
def Ml (d:RD)(self many:Int):Option PN :=
 if Am many=0∨self < 0∨self ≥ many∨(d.now.length:Int) < 1100 then none else match Z08 d with
 | none=>none
 | some st=>match B6 st.all (0,0,[]) with
  | none=>none
  | some p=>if Bg p.2.2=true∧p.2.1≤p.1∧B9 p.2.2 p.2.1=true then some (I4 self.toNat many.toNat p st) else none
def Bp (n:PN):List ByteArray:=Cb 1 n.pmd 0 eS::Cb 2 n.normal 0 eS::n.log.map fun e=>Cb 3 e.v e.n e.b
def Dp (n:PN)(e:Int):PN:=if e≠0 then {n with dead:=true,out:=[]} else n
def Bf (n:PN)(r:ByteArray):PN :=
 if Fx n.st r=51 then Dp {n with st:=Fc (Bc n.st r) (Bp n)} (J8 (Bc n.st r) (Bp n))
 else if Fx n.st r≠0 then Dp {n with st:=Bc n.st r} (Fx n.st r)
 else Dp {n with st:=Ja (Bc n.st r)} (Og (Bc n.st r))
def Ch (n:PN)(r:ByteArray):Bool :=
 if Fx n.st r=51 then decide (J8 (Bc n.st r) (Bp n)=0)
 else if Fx n.st r≠0 then false
 else decide (Og (Bc n.st r)=0)
def Aq (n:PN)(to:Nat)(m:RM):PN:=if okM m=true then {n with out:=n.out++[⟨n.self,to,⟨(bM m).toArray⟩⟩]} else n
def Jt (f:PN→Nat→PN)(n:PN)(i:Nat):PN:=(List.range i).foldl (fun n i=>if i=n.self then n else f n i) n
def Ao (n:PN)(m:RM):PN:=Jt (fun n i=>Aq n i m) n n.many
def Ep (n:PN)(view:Int):PN:=Bf {n with pmd:=view,lds:=false,std:=false} (Cb 1 view 0 eS)
def Jv (n:PN)(view:Int):Bool:=Ch {n with pmd:=view,lds:=false,std:=false} (Cb 1 view 0 eS)
def Bj (n:PN)(view:Int)(l:List REnt):PN:={n with pmd:=view,normal:=view,log:=l,cmt:=min n.cmt (A5 l)}
def C8 (n:PN)(view:Int)(l:List REnt):PN:=Dp {Bj n view l with st:=Fc n.st (Bp (Bj n view l))} (J8 n.st (Bp (Bj n view l)))
def Do (n:PN)(view:Int)(l:List REnt):Bool:=decide (J8 n.st (Bp (Bj n view l))=0)
def He (n:PN)(e:REnt):PN:=Bf {n with log:=n.log++[e]} (Cb 3 e.v e.n e.b)
def Xt (n:PN)(e:REnt):Bool:=Ch {n with log:=n.log++[e]} (Cb 3 e.v e.n e.b)
def Bm (n:PN):List Int:=(List.range n.many).map n.aks
def Cp (n:PN):PN:=if Bu (Bm n) > n.cmt then Ao {n with cmt:=Bu (Bm n)} ⟨6,n.pmd,0,Bu (Bm n),[]⟩ else n
def jlN (n:PN)(i:Nat):List RJ:=((List.range i).map n.jns).filter RJ.is
def B5 (n:PN):List RJ:=jlN n n.many
def mkJ (j:RJ):Mk:=⟨j.normal,A5 j.l⟩
def F1 (n:PN):List REnt:=((B5 n)[(M0 ((B5 n).map mkJ)).toNat]?.getD j0).l
def Dc (n:PN):PN:={n with std:=true,first:=A5 n.log,aks:=fun i=>if i=n.self then A5 n.log else 0,hrd:=fun _=>false}
def Br (n:PN):PN :=
 if((B5 n).length:Int) < Am n.many then n
 else if Do n n.pmd (F1 n)=true then Cp (Ao (Dc (C8 n n.pmd (F1 n))) ⟨3,n.pmd,0,0,F1 n⟩)
 else C8 n n.pmd (F1 n)
def C3 (n:PN)(view:Int):PN × Bool :=
 if n.dead=true∨view≤n.pmd∨Aa view n.many≠n.self then(n,false)
 else if Jv n view=true then
  (Br (Ao {Ep n view with lds:=true,jns:=fun i=>if i=n.self then⟨true,n.normal,n.log⟩ else j0} ⟨1,view,0,0,[]⟩),true)
 else(Ep n view,true)
def B3 (n:PN)(s:ByteArray):PN × Bool :=
 if n.dead=true∨n.std=false∨n.log.length ≥ 150∨s.size > 200 then(n,false)
 else if Xt n ⟨n.pmd,A5 n.log+1,s⟩=true then
  (Cp (Ao {He n ⟨n.pmd,A5 n.log+1,s⟩ with aks:=fun i=>if i=n.self then A5 n.log+1 else n.aks i} ⟨4,n.pmd,0,A5 n.log+1 - 1,[⟨n.pmd,A5 n.log+1,s⟩]⟩),true)
 else(He n ⟨n.pmd,A5 n.log+1,s⟩,true)
def Eh (n:PN)(i:Nat):PN :=
 Aq (if n.hrd i=true then Aq n i ⟨4,n.pmd,0,n.aks i,n.log.drop (n.aks i).toNat⟩ else Aq n i ⟨3,n.pmd,0,0,n.log.take n.first.toNat⟩) i ⟨6,n.pmd,0,n.cmt,[]⟩
def Em (n:PN)(i:Nat):PN:=if(n.jns i).is=true then n else Aq n i ⟨1,n.pmd,0,0,[]⟩
def Bl (n:PN):PN :=
 if n.dead=true∨n.lds=false then n
 else if n.std=true then Jt Eh n n.many else Jt Em n n.many
def As (n:PN)(frm:Nat)(m:RM):PN :=
 if n.lds=false∨n.pmd≠m.view then n
 else if m.kind=2∧n.std=false then
  Br (if(n.jns frm).is=true then n else {n with jns:=fun i=>if i=frm then⟨true,m.normal,m.l⟩ else n.jns i})
 else if m.kind=5∧n.std=true∧m.num≤n.log.length then
  (fun n2:PN=>if m.num < n2.log.length then Aq n2 frm ⟨4,n2.pmd,0,m.num,n2.log.drop m.num.toNat⟩ else n2)
   (Cp {n with aks:=fun i=>if i=frm then max (n.aks frm) m.num else n.aks i,hrd:=fun i=>if i=frm then true else n.hrd i})
 else n
def Aj:List REnt→Int→PN→PN × Bool
 | [],_,n=>(n,true)
 | e::l,last,n =>
  if e.n > n.log.length+1 then(n,true)
  else if e.n≤n.log.length∨e.v < last then Aj l last n
  else if Xt n e=true then Aj l e.v (He n e) else(He n e,false)
def A4 (n:PN)(frm:Nat)(m:RM):PN :=
 if m.kind=1 then
  (if m.view > n.pmd then
   (if Jv n m.view=true then Aq (Ep n m.view) frm ⟨2,m.view,n.normal,0,n.log⟩ else Ep n m.view)
  else if m.view=n.pmd∧m.view > n.normal∧n.lds=false then Aq n frm ⟨2,m.view,n.normal,0,n.log⟩ else n)
 else if m.kind=3 then
  (if m.view ≥ n.pmd∧m.view > n.normal then
   (if Do {n with lds:=false,std:=false} m.view m.l=true then Aq (C8 {n with lds:=false,std:=false} m.view m.l) frm ⟨5,m.view,0,A5 m.l,[]⟩
    else C8 {n with lds:=false,std:=false} m.view m.l)
  else if m.view=n.pmd∧m.view=n.normal then Aq n frm ⟨5,m.view,0,A5 n.log,[]⟩ else n)
 else if m.kind=4 then
  (if n.pmd=m.view∧n.normal=m.view∧n.lds=false then
   (fun x:PN × Bool=>if x.2=true then Aq x.1 frm ⟨5,m.view,0,A5 x.1.log,[]⟩ else x.1) (Aj m.l (vw 1 n.log) n)
  else n)
 else if m.kind=6 then
  (if n.pmd=m.view∧n.normal=m.view∧n.lds=false then {n with cmt:=max n.cmt (min m.num (A5 n.log))} else n)
 else n
def Dm (n:PN)(p:RPk):PN :=
 if n.dead=true∨¬Kp p.body.data.toList∨p.to≠n.self∨p.frm=n.self∨p.frm < 0∨p.frm ≥ n.many then n
 else if(mD p.body.data.toList).kind=2∨(mD p.body.data.toList).kind=5 then As n p.frm.toNat (mD p.body.data.toList)
 else if Aa (mD p.body.data.toList).view n.many≠p.frm then n
 else A4 n p.frm.toNat (mD p.body.data.toList)
end Go.Proofs.YtihfaocdpmmooaaGreat
namespace Go.Proofs.YtihfaocdpmmooaaGreat
open Go.RowKit
set_option maxRecDepth 100000
abbrev tNd:Nat:=118
abbrev tPk:Nat:=61
def pkG (p:RPk):List G:=[gI p.frm,gI p.to,.v (.string p.body)]
abbrev Ad (n:PN)(s l o:G):List G:=[gI n.self,gI n.many,s,gI n.pmd,gI n.normal,l,gI n.cmt,.v (.bool n.lds),.v (.bool n.std),.v (.bool (n.jns 0).is),gI (n.jns 0).normal,.sl ((n.jns 0).l.map enE),.v (.bool (n.jns 1).is),gI (n.jns 1).normal,.sl ((n.jns 1).l.map enE),.v (.bool (n.jns 2).is),gI (n.jns 2).normal,.sl ((n.jns 2).l.map enE),.v (.bool (n.jns 3).is),gI (n.jns 3).normal,.sl ((n.jns 3).l.map enE),.v (.bool (n.jns 4).is),gI (n.jns 4).normal,.sl ((n.jns 4).l.map enE),.v (.bool (n.jns 5).is),gI (n.jns 5).normal,.sl ((n.jns 5).l.map enE),.v (.bool (n.jns 6).is),gI (n.jns 6).normal,.sl ((n.jns 6).l.map enE),gI n.first,gI (n.aks 0),gI (n.aks 1),gI (n.aks 2),gI (n.aks 3),gI (n.aks 4),gI (n.aks 5),gI (n.aks 6),.v (.bool (n.hrd 0)),.v (.bool (n.hrd 1)),.v (.bool (n.hrd 2)),.v (.bool (n.hrd 3)),.v (.bool (n.hrd 4)),.v (.bool (n.hrd 5)),.v (.bool (n.hrd 6)),o,.v (.bool n.dead)]
abbrev oA (n:PN)(b e:Nat):List R:=[.blk (Ad n (.ptr 1 0) (.osl 2) (.osl 3)) tNd,.abs (cl (oLs n.st e)),.slc (n.log.map enE) tEn 3,.slc (n.out.map pkG) tPk 3,.adr 0 b]
abbrev oB (n:PN)(b e:Nat):List R:=[.blk (Ad n (.ptr 1 0) (.sl (n.log.map enE)) (.osl 3)) tNd,.abs (cl (oLs n.st e)),.gone,.slc (n.out.map pkG) tPk 3,.adr 0 b]
abbrev oAs (n:PN)(b e:Nat):Os:=Aw (oA n b e) 0
abbrev oBs (n:PN)(b e:Nat):Os:=Aw (oB n b e) 0
abbrev cA (n:PN)(b e:Nat):List R:=[.abs (cl (oAs n b e))]
abbrev cB (n:PN)(b e:Nat):List R:=[.abs (cl (oBs n b e))]
abbrev Z6j (n:PN)(l:G):List G:=[gI n.self,gI n.many,.ptr 1 0,gI n.pmd,gI n.normal,l,gI n.cmt,.v (.bool n.lds),.v (.bool n.std),.v (.bool (n.jns 0).is),gI (n.jns 0).normal,.sl ((n.jns 0).l.map enE),.v (.bool (n.jns 1).is),gI (n.jns 1).normal,.sl ((n.jns 1).l.map enE),.v (.bool (n.jns 2).is),gI (n.jns 2).normal,.sl ((n.jns 2).l.map enE),.v (.bool (n.jns 3).is),gI (n.jns 3).normal,.sl ((n.jns 3).l.map enE),.v (.bool (n.jns 4).is),gI (n.jns 4).normal,.sl ((n.jns 4).l.map enE),.v (.bool (n.jns 5).is),gI (n.jns 5).normal,.sl ((n.jns 5).l.map enE),.v (.bool (n.jns 6).is),gI (n.jns 6).normal,.sl ((n.jns 6).l.map enE),gI n.first,gI (n.aks 0),gI (n.aks 1),gI (n.aks 2),gI (n.aks 3),gI (n.aks 4),gI (n.aks 5),gI (n.aks 6),.v (.bool (n.hrd 0)),.v (.bool (n.hrd 1)),.v (.bool (n.hrd 2)),.v (.bool (n.hrd 3)),.v (.bool (n.hrd 4)),.v (.bool (n.hrd 5)),.v (.bool (n.hrd 6))]
theorem Z92 (l:List RFd):(Xv l).length≤1026 * l.length:=by
 unfold Xv
 split
 ·next h=>exact Ok (Cw h)
 ·exact Nat.zero_le _
theorem Ec (k a b:Int)(s:ByteArray):(Cb k a b s).size≤4104:=by
 have:=Z92 [⟨1,k,eS⟩,⟨2,a,eS⟩,⟨2,b,eS⟩,⟨3,0,s⟩]
 unfold Cb
 show(Xv _).toArray.size≤_
 rw[List.size_toArray]
 exact this
theorem Dl (k a b:Int)(s:ByteArray):FnV Tryz.prog 96 [gI k,gI a,gI b,.v (.string s)] fun g=>g=.v (.string (Cb k a b s)):=by
 refine fnG Tryz.func96 (by kernel_rfl) rfl (Nat.le_of_ble_eq_true (by kernel_rfl)) (by kernel_rfl) ?_
 refine(Rw _).cal fun q hq=>?_
 subst hq
 refine(Hu _).cal fun q hq=>?_
 subst hq
 refine(Hu _).cal fun q hq=>?_
 subst hq
 refine(Vs [⟨1,k,eS⟩,⟨2,a,eS⟩,⟨2,b,eS⟩,⟨3,0,s⟩] (show 4≤800000 by decide)).cal fun q rs hq=>?_
 obtain⟨rfl,rfl⟩:=hq
 refine⟨_,rfl,?_⟩
 exact rfl
theorem Nj (l:List REnt)(hl:l.length≤1000000):FnO Tryz.prog 63 [.sl (l.map enE)] [] fun g rs=>g=.osl 0∧rs=[.slc (l.map enE) tEn 3]:=by
 refine Bd Tryz.func63 (by kernel_rfl) rfl (Nat.le_of_ble_eq_true (by kernel_rfl)) (by kernel_rfl) (Qy _) ?_
 refine⟨fun b hb=>?_⟩
 refine EvIf.mk (fun h=>?_) fun h=>?_
 ·have e:l.map enE=[]:=Classical.byContradiction fun hne=>by rw[hb hne] at h;cases h
  exact Gi (k:=1) rfl e.symm
 ·refine⟨fun r hr=>?_,by simp;omega,?_⟩
  ·obtain⟨c,-,rfl⟩:=List.mem_map.1 hr
   exact⟨rfl,rfl⟩
  ·exact Gi (k:=2) rfl (List.nil_append _)
theorem Zbp (l:List REnt)(hl:l.length≤1000000):FnO Tryz.prog 63 [.osl 0] [.slc (l.map enE) tEn 3] fun g rs=>g=.osl 1∧rs=[.slc (l.map enE) tEn 3,.slc (l.map enE) tEn 3] :=
 FnO.peekN (Nj l hl) rfl fun r hr g hg=>by
  obtain⟨s,-,rfl⟩:=List.mem_map.1 hr
  unfold enE at hg
  simp only[List.mem_cons,List.not_mem_nil,or_false] at hg
  rcases hg with rfl | rfl | rfl<;>rfl
theorem Z8p (n:PN)(b e:Nat):FnO Tryz.prog 20 [.ptr 0 0] (cA n b e) fun g rs=>g=.tup [gI n.pmd,gI n.normal]∧rs=cA n b e:=by
 refine Bd Tryz.func20 (by kernel_rfl) rfl (Nat.le_of_ble_eq_true (by kernel_rfl)) (by kernel_rfl) (A6 (O:=oAs n b e) (n0:=5) rfl) ?_
 exact .inl (A1 (oAs n b e) [] (by exact RL5) rfl ⟨_,rfl⟩ rfl rfl ⟨rfl,rfl⟩)
theorem Yf (n:PN)(b e:Nat):FnO Tryz.prog 23 [.ptr 0 0] (cA n b e) fun g rs=>g=.v (.bool n.lds)∧rs=cA n b e:=by
 refine Bd Tryz.func23 (by kernel_rfl) rfl (Nat.le_of_ble_eq_true (by kernel_rfl)) (by kernel_rfl) (A6 (O:=oAs n b e) (n0:=5) rfl) ?_
 exact .inl (A1 (oAs n b e) [] (by exact RL5) rfl ⟨_,rfl⟩ rfl rfl ⟨rfl,rfl⟩)
theorem Vq (n:PN)(b e:Nat):FnO Tryz.prog 24 [.ptr 0 0] (cA n b e) fun g rs=>g=gI n.cmt∧rs=cA n b e:=by
 refine Bd Tryz.func24 (by kernel_rfl) rfl (Nat.le_of_ble_eq_true (by kernel_rfl)) (by kernel_rfl) (A6 (O:=oAs n b e) (n0:=5) rfl) ?_
 exact .inl (A1 (oAs n b e) [] (by exact RL5) rfl ⟨_,rfl⟩ rfl rfl ⟨rfl,rfl⟩)
theorem Zdf (n:PN)(b e:Nat):FnO Tryz.prog 131 [.ptr 0 0,gI 0] (cA n b e) fun g rs=>g=.v (.bool true)∧rs=cA n b e:=by
 refine Bd Tryz.func131 (by kernel_rfl) rfl (Nat.le_of_ble_eq_true (by kernel_rfl)) (by kernel_rfl) (A6 (O:=oAs n b e) (n0:=5) rfl) ?_
 refine EvIf.bne (fun h=>absurd rfl h) fun _=>?_
 exact .inl (A1 (oAs n b e) [] (by exact RL5) rfl ⟨_,rfl⟩ rfl rfl ⟨rfl,rfl⟩)
theorem Zdl (n:PN)(b e:Nat){er:Int}(he:er≠0):FnO Tryz.prog 131 [.ptr 0 0,gI er] (cA n b e) fun g rs=>g=.v (.bool false)∧rs=cA (Dp n er) b e:=by
 refine FnO.mono (Q:=fun g rs=>g=.v (.bool (er==0))∧rs=cA (Dp n er) b e) ?_ fun g rs h=>by rw[show(er==0)=false by simpa using he] at h;exact h
 refine Bd Tryz.func131 (by kernel_rfl) rfl (Nat.le_of_ble_eq_true (by kernel_rfl)) (by kernel_rfl) (A6 (O:=oAs n b e) (n0:=5) rfl) ?_
 refine EvIf.bne (fun _=>?_) fun h=>absurd h he
 have e1:Dp n er={n with dead:=true,out:=[]}:=by unfold Dp;rw[if_pos he]
 exact .gh (.nil 0 (Z6j n (.osl 2)) [.tt] tNd tPk 3 rfl (by decide) (.seen 0 _ _ rfl (.done (A1 (oAs {n with dead:=true,out:=[]} b e) [(1,1),(2,2),(3,5),(4,4)] (by exact RL5) rfl ⟨_,rfl⟩ rfl rfl ⟨rfl,by rw[e1]⟩))))
theorem Zee (n:PN)(b e:Nat):FnO Tryz.prog 25 [.ptr 0 0] (cA n b e) fun g rs=>g=.osl 1∧rs=[.abs (cl (oAs {n with out:=[]} b e)),.slc (n.out.map pkG) tPk 3]:=by
 refine Bd Tryz.func25 (by kernel_rfl) rfl (Nat.le_of_ble_eq_true (by kernel_rfl)) (by kernel_rfl) (A6 (O:=oAs n b e) (n0:=5) rfl) ?_
 exact .gh (.nil 0 (Z6j n (.osl 2)) [.v (.bool n.dead)] tNd tPk 3 rfl (by decide) (.done ⟨[⟨oAs {n with out:=[]} b e,[(1,1),(2,2),(3,6),(4,4)],true⟩,⟨[(0,.slc (n.out.map pkG) tPk 3)],[(0,3)],false⟩],.osl 1,⟨⟨⟨(by exact RL5),_,rfl⟩,⟨_,rfl,rfl,rfl⟩,trivial⟩,rfl,⟨_,rfl⟩,rfl,rfl,⟨rfl,rfl⟩⟩⟩))
theorem Zb4 (n:PN)(b e:Nat)(hl:n.log.length≤1000000):FnO Tryz.prog 22 [.ptr 0 0] (cA n b e) fun g rs=>g=.osl 1∧rs=[.abs (cl (oAs n b e)),.slc (n.log.map enE) tEn 3]:=by
 refine Bd Tryz.func22 (by kernel_rfl) rfl (Nat.le_of_ble_eq_true (by kernel_rfl)) (by kernel_rfl) (A6 (O:=oAs n b e) (n0:=5) rfl) ?_
 refine EvCall.lend ((Zbp n.log hl).cal fun q rs hq=>?_)
 obtain⟨rfl,rfl⟩:=hq
 exact .inl ⟨[⟨oAs n b e,[],true⟩,⟨[(0,.slc (n.log.map enE) tEn 3)],[(0,6)],false⟩],.osl 1,⟨⟨⟨(by exact RL5),_,rfl⟩,⟨_,rfl,rfl,rfl⟩,trivial⟩,rfl,⟨_,rfl⟩,rfl,rfl,⟨rfl,rfl⟩⟩⟩
theorem Z9a (n:PN)(b e:Nat):FnO Tryz.prog 20 [.ptr 0 0] (cB n b e) fun g rs=>g=.tup [gI n.pmd,gI n.normal]∧rs=cB n b e:=by
 refine Bd Tryz.func20 (by kernel_rfl) rfl (Nat.le_of_ble_eq_true (by kernel_rfl)) (by kernel_rfl) (A6 (O:=oBs n b e) (n0:=5) rfl) ?_
 exact .inl (A1 (oBs n b e) [] (by exact RL5) rfl ⟨_,rfl⟩ rfl rfl ⟨rfl,rfl⟩)
theorem Z9u (n:PN)(b e:Nat):FnO Tryz.prog 23 [.ptr 0 0] (cB n b e) fun g rs=>g=.v (.bool n.lds)∧rs=cB n b e:=by
 refine Bd Tryz.func23 (by kernel_rfl) rfl (Nat.le_of_ble_eq_true (by kernel_rfl)) (by kernel_rfl) (A6 (O:=oBs n b e) (n0:=5) rfl) ?_
 exact .inl (A1 (oBs n b e) [] (by exact RL5) rfl ⟨_,rfl⟩ rfl rfl ⟨rfl,rfl⟩)
theorem Zas (n:PN)(b e:Nat):FnO Tryz.prog 131 [.ptr 0 0,gI 0] (cB n b e) fun g rs=>g=.v (.bool true)∧rs=cB n b e:=by
 refine Bd Tryz.func131 (by kernel_rfl) rfl (Nat.le_of_ble_eq_true (by kernel_rfl)) (by kernel_rfl) (A6 (O:=oBs n b e) (n0:=5) rfl) ?_
 refine EvIf.bne (fun h=>absurd rfl h) fun _=>?_
 exact .inl (A1 (oBs n b e) [] (by exact RL5) rfl ⟨_,rfl⟩ rfl rfl ⟨rfl,rfl⟩)
theorem Zbc (n:PN)(b e:Nat){er:Int}(he:er≠0):FnO Tryz.prog 131 [.ptr 0 0,gI er] (cB n b e) fun g rs=>g=.v (.bool false)∧rs=cB (Dp n er) b e:=by
 refine FnO.mono (Q:=fun g rs=>g=.v (.bool (er==0))∧rs=cB (Dp n er) b e) ?_ fun g rs h=>by rw[show(er==0)=false by simpa using he] at h;exact h
 refine Bd Tryz.func131 (by kernel_rfl) rfl (Nat.le_of_ble_eq_true (by kernel_rfl)) (by kernel_rfl) (A6 (O:=oBs n b e) (n0:=5) rfl) ?_
 refine EvIf.bne (fun _=>?_) fun h=>absurd h he
 have e1:Dp n er={n with dead:=true,out:=[]}:=by unfold Dp;rw[if_pos he]
 exact .gh (.nil 0 (Z6j n (.sl (n.log.map enE))) [.tt] tNd tPk 3 rfl (by decide) (.seen 0 _ _ rfl (.done (A1 (oBs {n with dead:=true,out:=[]} b e) [(1,1),(2,2),(3,5),(4,4)] (by exact RL5) rfl ⟨_,rfl⟩ rfl rfl ⟨rfl,by rw[e1]⟩))))
theorem Zep (n:PN)(b e:Nat):FnO Tryz.prog 25 [.ptr 0 0] (cB n b e) fun g rs=>g=.osl 1∧rs=[.abs (cl (oBs {n with out:=[]} b e)),.slc (n.out.map pkG) tPk 3]:=by
 refine Bd Tryz.func25 (by kernel_rfl) rfl (Nat.le_of_ble_eq_true (by kernel_rfl)) (by kernel_rfl) (A6 (O:=oBs n b e) (n0:=5) rfl) ?_
 exact .gh (.nil 0 (Z6j n (.sl (n.log.map enE))) [.v (.bool n.dead)] tNd tPk 3 rfl (by decide) (.done ⟨[⟨oBs {n with out:=[]} b e,[(1,1),(2,2),(3,6),(4,4)],true⟩,⟨[(0,.slc (n.out.map pkG) tPk 3)],[(0,3)],false⟩],.osl 1,⟨⟨⟨(by exact RL5),_,rfl⟩,⟨_,rfl,rfl,rfl⟩,trivial⟩,rfl,⟨_,rfl⟩,rfl,rfl,⟨rfl,rfl⟩⟩⟩))
theorem Zfh (n:PN)(b e:Nat)(hl:n.log.length≤1000000):FnO Tryz.prog 22 [.ptr 0 0] (cB n b e) fun g rs=>g=.osl 1∧rs=[.abs (cl (oBs n b e)),.slc (n.log.map enE) tEn 3]:=by
 refine Bd Tryz.func22 (by kernel_rfl) rfl (Nat.le_of_ble_eq_true (by kernel_rfl)) (by kernel_rfl) (A6 (O:=oBs n b e) (n0:=5) rfl) ?_
 refine(Nj n.log hl).cal fun q rs hq=>?_
 obtain⟨rfl,rfl⟩:=hq
 exact .inl ⟨[⟨oBs n b e,[],true⟩,⟨[(0,.slc (n.log.map enE) tEn 3)],[(0,6)],false⟩],.osl 1,⟨⟨⟨(by exact RL5),_,rfl⟩,⟨_,rfl,rfl,rfl⟩,trivial⟩,rfl,⟨_,rfl⟩,rfl,rfl,⟨rfl,rfl⟩⟩⟩
end Go.Proofs.YtihfaocdpmmooaaGreat
namespace Go.Proofs.YtihfaocdpmmooaaGreat
open Go.RowKit
set_option maxRecDepth 100000
abbrev cellsH (n:PN)(u:Nat→Value)(o:G):List G:=[gI n.self,gI n.many,.v (u 2),gI n.pmd,gI n.normal,.v (u 5),gI n.cmt,.v (.bool n.lds),.v (.bool n.std),.v (.bool (n.jns 0).is),gI (n.jns 0).normal,.v (u 11),.v (.bool (n.jns 1).is),gI (n.jns 1).normal,.v (u 14),.v (.bool (n.jns 2).is),gI (n.jns 2).normal,.v (u 17),.v (.bool (n.jns 3).is),gI (n.jns 3).normal,.v (u 20),.v (.bool (n.jns 4).is),gI (n.jns 4).normal,.v (u 23),.v (.bool (n.jns 5).is),gI (n.jns 5).normal,.v (u 26),.v (.bool (n.jns 6).is),gI (n.jns 6).normal,.v (u 29),gI n.first,gI (n.aks 0),gI (n.aks 1),gI (n.aks 2),gI (n.aks 3),gI (n.aks 4),gI (n.aks 5),gI (n.aks 6),.v (.bool (n.hrd 0)),.v (.bool (n.hrd 1)),.v (.bool (n.hrd 2)),.v (.bool (n.hrd 3)),.v (.bool (n.hrd 4)),.v (.bool (n.hrd 5)),.v (.bool (n.hrd 6)),o,.v (.bool n.dead)]
abbrev Zg9 (n:PN)(u:Nat→Value):List G:=[gI n.self,gI n.many,.v (u 2),gI n.pmd,gI n.normal,.v (u 5),gI n.cmt,.v (.bool n.lds),.v (.bool n.std),.v (.bool (n.jns 0).is),gI (n.jns 0).normal,.v (u 11),.v (.bool (n.jns 1).is),gI (n.jns 1).normal,.v (u 14),.v (.bool (n.jns 2).is),gI (n.jns 2).normal,.v (u 17),.v (.bool (n.jns 3).is),gI (n.jns 3).normal,.v (u 20),.v (.bool (n.jns 4).is),gI (n.jns 4).normal,.v (u 23),.v (.bool (n.jns 5).is),gI (n.jns 5).normal,.v (u 26),.v (.bool (n.jns 6).is),gI (n.jns 6).normal,.v (u 29),gI n.first,gI (n.aks 0),gI (n.aks 1),gI (n.aks 2),gI (n.aks 3),gI (n.aks 4),gI (n.aks 5),gI (n.aks 6),.v (.bool (n.hrd 0)),.v (.bool (n.hrd 1)),.v (.bool (n.hrd 2)),.v (.bool (n.hrd 3)),.v (.bool (n.hrd 4)),.v (.bool (n.hrd 5)),.v (.bool (n.hrd 6))]
abbrev hN (n:PN)(u:Nat→Value):List R:=[.blk (cellsH n u (.osl 1)) tNd,.slc (n.out.map pkG) tPk 3]
theorem To (n:PN)(u:Nat→Value)(to:Nat)(m:RM)(hm:m.l.length≤1000000)(ho:n.out.length≤1000000):FnO Tryz.prog 99 [.ptr 0 0,gI to,.agg (enM m)] (hN n u) fun g rs=>g=.tup []∧rs=[.blk (cellsH (Aq n to m) u (.osl 2)) tNd,.gone,.slc ((Aq n to m).out.map pkG) tPk 3]:=by
 refine Bd Tryz.func99 (by kernel_rfl) rfl (Nat.le_of_ble_eq_true (by kernel_rfl)) (by kernel_rfl) (C1 _ _) ?_
 refine(Z2j m hm).cal fun q hq=>?_
 subst hq
 unfold wrM
 refine EvIf.beq (fun h=>?_) fun h=>?_
 ·have hk:okM m=true:=by
   unfold eM at h
   split at h
   ·assumption
   ·cases h
  have e1:Aq n to m={n with out:=n.out++[⟨n.self,to,⟨(bM m).toArray⟩⟩]}:=by unfold Aq;rw[if_pos hk]
  have e2:(Aq n to m).out.map pkG=n.out.map pkG++[[gI n.self,gI to,.v (.string ⟨(bM m).toArray⟩)]]:=by rw[e1];exact List.map_append
  rw[e2,e1]
  refine⟨by simp;omega,?_⟩
  exact .inl ⟨[⟨[(0,.blk (cellsH n u (.osl 2)) tNd)],[(0,0)],false⟩,⟨[(0,.gone)],[(0,1)],false⟩,⟨[(0,.slc (n.out.map pkG++[[gI n.self,gI to,.v (.string ⟨(bM m).toArray⟩)]]) tPk 3)],[(0,4)],false⟩],.tup [],⟨⟨⟨_,rfl,rfl,rfl⟩,⟨_,rfl,rfl,rfl⟩,⟨_,rfl,rfl,rfl⟩,trivial⟩,rfl,⟨_,rfl⟩,rfl,rfl,⟨rfl,rfl⟩⟩⟩
 ·have e1:Aq n to m=n:=by
   unfold eM at h
   split at h
   ·exact absurd rfl h
   ·unfold Aq;rw[if_neg (by assumption)]
  rw[e1]
  exact .gh (.rnm 0 1 (Zg9 n u) [.v (.bool n.dead)] tNd _ tPk 3 rfl rfl (.done ⟨[⟨[(0,.blk (cellsH n u (.osl 2)) tNd)],[(0,0)],false⟩,⟨[(0,.gone)],[(0,1)],false⟩,⟨[(0,.slc (n.out.map pkG) tPk 3)],[(0,3)],false⟩],.tup [],⟨⟨⟨_,rfl,rfl,rfl⟩,⟨_,rfl,rfl,rfl⟩,⟨_,rfl,rfl,rfl⟩,trivial⟩,rfl,⟨_,rfl⟩,rfl,rfl,⟨rfl,rfl⟩⟩⟩))
theorem Ee (f:PN→Nat→PN)(n:PN)(i:Nat):Jt f n (i+1)=if i=(Jt f n i).self then Jt f n i else f (Jt f n i) i:=by unfold Jt;rw[List.range_succ,List.foldl_append];rfl
def SameN (n n':PN):Prop:={n' with out:=n.out}=n
theorem SameN.refl (n:PN):SameN n n:=rfl
theorem SameN.to {n n':PN}(h:SameN n n'):∃o,n'={n with out:=o}:=⟨n'.out,by cases n;cases n';unfold SameN at h;cases h;rfl⟩
theorem SameN.trans {n n' n2:PN}(h:SameN n n')(h2:SameN n' n2):SameN n n2:=by
 obtain⟨o,rfl⟩:=h.to
 obtain⟨o2,rfl⟩:=h2.to
 rfl
theorem A8 (n:PN)(to:Nat)(m:RM):SameN n (Aq n to m):=by unfold Aq SameN;split<;>rfl
theorem D6 (n:PN)(to:Nat)(m:RM):(Aq n to m).out.length≤n.out.length+1:=by unfold Aq;split<;>simp
abbrev tNp:Nat:=40
abbrev tMg:Nat:=29
theorem Z2f (n:PN)(u:Nat→Value)(i:Nat)(m:RM)(hm:m.l.length≤1000000)(ho:n.out.length≤1000000):FnO Tryz.prog 98 [gI i,.ptr 0 0,.ptr 1 0] [.blk [.ptr 2 0] tNp,.blk (enM m) tMg,.blk (cellsH n u (.osl 3)) tNd,.slc (n.out.map pkG) tPk 3] fun g rs=>g=.tup []∧rs=[.blk [.ptr 2 0] tNp,.blk (enM m) tMg,.blk (cellsH (Aq n i m) u (.osl 4)) tNd,.gone,.slc ((Aq n i m).out.map pkG) tPk 3]:=by
 refine Bd Tryz.func98 (by kernel_rfl) rfl (Nat.le_of_ble_eq_true (by kernel_rfl)) (by kernel_rfl) (C1 _ _) ?_
 refine EvCall.lend ((To n u i m hm ho).cal fun q rs hq=>?_)
 obtain⟨rfl,rfl⟩:=hq
 exact .inl ⟨[⟨[(0,.blk [.ptr 2 0] tNp)],[(0,0)],false⟩,⟨[(0,.blk (enM m) tMg)],[(0,1)],false⟩,⟨[(0,.blk (cellsH (Aq n i m) u (.osl 4)) tNd)],[(0,2)],false⟩,⟨[(0,.gone)],[(0,3)],false⟩,⟨[(0,.slc ((Aq n i m).out.map pkG) tPk 3)],[(0,4)],false⟩],.tup [],⟨⟨⟨_,rfl,rfl,rfl⟩,⟨_,rfl,rfl,rfl⟩,⟨_,rfl,rfl,rfl⟩,⟨_,rfl,rfl,rfl⟩,⟨_,rfl,rfl,rfl⟩,trivial⟩,rfl,⟨_,rfl⟩,rfl,rfl,⟨rfl,rfl⟩⟩⟩
theorem Z50 (n:PN)(u:Nat→Value)(m:RM)(hm:m.l.length≤1000000)(hk:n.many≤100)(ho:n.out.length≤900000):FnO Tryz.prog 97 [.ptr 0 0,.clo 98 [] [.ptr 1 0,.ptr 2 0]] [.blk (cellsH n u (.osl 3)) tNd,.blk [.ptr 0 0] tNp,.blk (enM m) tMg,.slc (n.out.map pkG) tPk 3] fun g rs=>g=.tup []∧rs=[.blk (cellsH (Jt (fun n i=>Aq n i m) n n.many) u (.osl 4)) tNd,.blk [.ptr 0 0] tNp,.blk (enM m) tMg,.gone,.slc ((Jt (fun n i=>Aq n i m) n n.many).out.map pkG) tPk 3]:=by
 refine Bd Tryz.func97 (by kernel_rfl) rfl (Nat.le_of_ble_eq_true (by kernel_rfl)) (by kernel_rfl) (C1 _ _) ?_
 refine D2 [0,1,8] [1,2] (fun x:Nat × PN=>[(9,gI x.1)]) (fun x=>[(0,.blk (cellsH x.2 u (.osl 3)) tNd),(3,.slc (x.2.out.map pkG) tPk 3)]) (fun x=>x.1≤n.many∧x.2=Jt (fun n i=>Aq n i m) n x.1∧SameN n x.2∧x.2.out.length≤n.out.length+x.1) (fun x=>n.many - x.1) (0,n) ⟨Nat.zero_le _,rfl,rfl,Nat.le_refl _⟩ ⟨⟨rfl,rfl⟩,trivial⟩ (by exact RL2) rfl fun⟨i,n'⟩ hI=>?_
 obtain⟨hi,hn,hs,hl⟩:=hI
 dsimp only at hi hn hs hl
 refine EvIf.dec (fun hlt=>?_) fun hge=>?_
 ·have hlt:i < n.many:=by omega
  have hst:=Ee (fun n i=>Aq n i m) n i
  rw[←hn] at hst
  refine EvIf.bne (fun hne=>?_) fun heq=>?_
  ·have hne:i≠n'.self:=fun e=>hne (by rw[e])
   rw[if_neg hne] at hst
   refine EvCall.lend ((Z2f n' u i m hm (by omega)).cal fun q rs hq=>?_)
   obtain⟨rfl,rfl⟩:=hq
   refine⟨by omega,.done ⟨(i+1,Aq n' i m),[(3,4)],⟨hlt,hst.symm,hs.trans (A8 _ _ _),by have:=D6 n' i m;dsimp only;omega⟩,(by dsimp only;omega),?_⟩⟩
   refine⟨?_,?_,rfl⟩<;>repeat' (first | exact True.intro | with_reducible rfl | exact rfl | refine And.intro ?_ ?_)
  ·have heq:i=n'.self:=by have:((i:Nat):Int)=(n'.self:Nat):=heq;omega
   rw[if_pos heq] at hst
   refine⟨by omega,.done ⟨(i+1,n'),[],⟨hlt,hst.symm,hs,by dsimp only;omega⟩,(by dsimp only;omega),?_⟩⟩
   refine⟨?_,?_,rfl⟩<;>repeat' (first | exact True.intro | with_reducible rfl | exact rfl | refine And.intro ?_ ?_)
 ·have:i=n.many:=by omega
  subst this
  rw[←hn]
  conv=>whnf
  refine Gh.done ?_
  exact .gh (.rnm 0 3 (Zg9 n' u) [.v (.bool n'.dead)] tNd _ tPk 3 rfl rfl (.done ⟨[⟨[(0,.blk (cellsH n' u (.osl 4)) tNd)],[(0,0)],false⟩,⟨[(0,.blk [.ptr 0 0] tNp)],[(0,1)],false⟩,⟨[(0,.blk (enM m) tMg)],[(0,2)],false⟩,⟨[(0,.gone)],[(0,3)],false⟩,⟨[(0,.slc (n'.out.map pkG) tPk 3)],[(0,4)],false⟩],.tup [],⟨⟨⟨_,rfl,rfl,rfl⟩,⟨_,rfl,rfl,rfl⟩,⟨_,rfl,rfl,rfl⟩,⟨_,rfl,rfl,rfl⟩,⟨_,rfl,rfl,rfl⟩,trivial⟩,rfl,⟨_,rfl⟩,rfl,rfl,⟨rfl,rfl⟩⟩⟩))
theorem Ow (n:PN)(u:Nat→Value)(m:RM)(hm:m.l.length≤1000000)(hk:n.many≤100)(ho:n.out.length≤900000):FnO Tryz.prog 66 [.ptr 0 0,.agg (enM m)] (hN n u) fun g rs=>g=.tup []∧rs=[.blk (cellsH (Ao n m) u (.osl 2)) tNd,.gone,.slc ((Ao n m).out.map pkG) tPk 3]:=by
 refine Bd Tryz.func66 (by kernel_rfl) rfl (Nat.le_of_ble_eq_true (by kernel_rfl)) (by kernel_rfl) (C1 _ _) ?_
 refine EvCall.lend ((Z50 n u m hm hk ho).cal fun q rs hq=>?_)
 obtain⟨rfl,rfl⟩:=hq
 exact .inl ⟨[⟨[(0,.blk (cellsH (Ao n m) u (.osl 2)) tNd)],[(0,0)],false⟩,⟨[(0,.gone)],[(0,1)],false⟩,⟨[(0,.slc ((Ao n m).out.map pkG) tPk 3)],[(0,4)],false⟩],.tup [],⟨⟨⟨_,rfl,rfl,rfl⟩,⟨_,rfl,rfl,rfl⟩,⟨_,rfl,rfl,rfl⟩,trivial⟩,rfl,⟨_,rfl⟩,rfl,rfl,⟨rfl,rfl⟩⟩⟩
end Go.Proofs.YtihfaocdpmmooaaGreat
namespace Go.Proofs.YtihfaocdpmmooaaGreat
open Go.RowKit
set_option maxRecDepth 100000
theorem Zai (l:List RPk):∀r∈l.map pkG,∀g∈r,Fy g=true:=fun r hr g hg=>by
 obtain⟨p,-,rfl⟩:=List.mem_map.1 hr
 unfold pkG at hg
 simp only[List.mem_cons,List.not_mem_nil,or_false] at hg
 rcases hg with rfl | rfl | rfl<;>rfl
theorem U7 (n:PN)(f:PN→Nat→PN)(h:∀n i,SameN n (f n i))(k:Nat):SameN n (Jt f n k):=by
 induction k with
 | zero=>exact .refl n
 | succ k ih =>
  rw[Ee]
  split
  ·exact ih
  ·exact ih.trans (h _ _)
theorem A2 (n:PN)(m:RM):SameN n (Ao n m):=U7 n _ (fun n i=>A8 n i m) _
theorem SameN.cells {n n':PN}(h:SameN n n')(s l o:G):Ad n' s l o=Ad n s l o:=by
 obtain⟨x,rfl⟩:=h.to
 rfl
theorem SameN.cellsH {n n':PN}(h:SameN n n')(u:Nat→Value)(o:G):cellsH n' u o=Go.Proofs.YtihfaocdpmmooaaGreat.cellsH n u o:=by
 obtain⟨x,rfl⟩:=h.to
 rfl
theorem Z6n (n:PN):KeepS 3 4 (Ad n (.ptr 1 0) (.osl 2) (.osl 3)) (Ad n (.ptr 1 0) (.osl 2) (.osl 4)):=⟨.inl rfl,.inl rfl,.inr (.inr ⟨rfl,nofun⟩),.inl rfl,.inl rfl,.inr (.inr ⟨rfl,fun h=>by injection h with h;exact absurd h (by decide)⟩),.inl rfl,.inl rfl,.inl rfl,.inl rfl,.inl rfl,.inr (.inr ⟨rfl,nofun⟩),.inl rfl,.inl rfl,.inr (.inr ⟨rfl,nofun⟩),.inl rfl,.inl rfl,.inr (.inr ⟨rfl,nofun⟩),.inl rfl,.inl rfl,.inr (.inr ⟨rfl,nofun⟩),.inl rfl,.inl rfl,.inr (.inr ⟨rfl,nofun⟩),.inl rfl,.inl rfl,.inr (.inr ⟨rfl,nofun⟩),.inl rfl,.inl rfl,.inr (.inr ⟨rfl,nofun⟩),.inl rfl,.inl rfl,.inl rfl,.inl rfl,.inl rfl,.inl rfl,.inl rfl,.inl rfl,.inl rfl,.inl rfl,.inl rfl,.inl rfl,.inl rfl,.inl rfl,.inl rfl,.inr (.inl rfl),.inl rfl,trivial⟩
theorem Z7j (n:PN)(r:List (List G)):KeepS 2 3 (Ad n (.ptr 1 0) (.sl r) (.osl 2)) (Ad n (.ptr 1 0) (.sl r) (.osl 3)):=⟨.inl rfl,.inl rfl,.inr (.inr ⟨rfl,nofun⟩),.inl rfl,.inl rfl,.inr (.inr ⟨rfl,nofun⟩),.inl rfl,.inl rfl,.inl rfl,.inl rfl,.inl rfl,.inr (.inr ⟨rfl,nofun⟩),.inl rfl,.inl rfl,.inr (.inr ⟨rfl,nofun⟩),.inl rfl,.inl rfl,.inr (.inr ⟨rfl,nofun⟩),.inl rfl,.inl rfl,.inr (.inr ⟨rfl,nofun⟩),.inl rfl,.inl rfl,.inr (.inr ⟨rfl,nofun⟩),.inl rfl,.inl rfl,.inr (.inr ⟨rfl,nofun⟩),.inl rfl,.inl rfl,.inr (.inr ⟨rfl,nofun⟩),.inl rfl,.inl rfl,.inl rfl,.inl rfl,.inl rfl,.inl rfl,.inl rfl,.inl rfl,.inl rfl,.inl rfl,.inl rfl,.inl rfl,.inl rfl,.inl rfl,.inl rfl,.inr (.inl rfl),.inl rfl,trivial⟩
theorem Z6h (n:PN):KeepS 3 4 (Ad n (.ptr 2 0) (.osl 1) (.osl 3)) (Ad n (.ptr 2 0) (.osl 1) (.osl 4)):=⟨.inl rfl,.inl rfl,.inr (.inr ⟨rfl,nofun⟩),.inl rfl,.inl rfl,.inr (.inr ⟨rfl,fun h=>by injection h with h;exact absurd h (by decide)⟩),.inl rfl,.inl rfl,.inl rfl,.inl rfl,.inl rfl,.inr (.inr ⟨rfl,nofun⟩),.inl rfl,.inl rfl,.inr (.inr ⟨rfl,nofun⟩),.inl rfl,.inl rfl,.inr (.inr ⟨rfl,nofun⟩),.inl rfl,.inl rfl,.inr (.inr ⟨rfl,nofun⟩),.inl rfl,.inl rfl,.inr (.inr ⟨rfl,nofun⟩),.inl rfl,.inl rfl,.inr (.inr ⟨rfl,nofun⟩),.inl rfl,.inl rfl,.inr (.inr ⟨rfl,nofun⟩),.inl rfl,.inl rfl,.inl rfl,.inl rfl,.inl rfl,.inl rfl,.inl rfl,.inl rfl,.inl rfl,.inl rfl,.inl rfl,.inl rfl,.inl rfl,.inl rfl,.inl rfl,.inr (.inl rfl),.inl rfl,trivial⟩
theorem L9 (n:PN)(p:Ob)(to:Nat)(m:RM)(hm:m.l.length≤1000000)(ho:n.out.length≤1000000):FnO Tryz.prog 99 [.ptr 0 0,gI to,.agg (enM m)] [.blk (Ad n (.ptr 1 0) (.osl 2) (.osl 3)) tNd,.abs p,.slc (n.log.map enE) tEn 3,.slc (n.out.map pkG) tPk 3] fun g rs=>g=.tup []∧rs=[.blk (Ad (Aq n to m) (.ptr 1 0) (.osl 2) (.osl 4)) tNd,.abs p,.slc (n.log.map enE) tEn 3,.gone,.slc ((Aq n to m).out.map pkG) tPk 3]:=by
 rw[(A8 n to m).cells]
 exact FnO.peekZ (rest:=[.abs p,.slc (n.log.map enE) tEn 3,.slc (n.out.map pkG) tPk 3]) (jo:=3) rfl (Z6n n) rfl rfl (Zai _) fun u=>by
  have:=To n u to m hm ho
  rw[(A8 n to m).cellsH] at this
  exact this
theorem Ve (n:PN)(p:Ob)(to:Nat)(m:RM)(hm:m.l.length≤1000000)(ho:n.out.length≤1000000):FnO Tryz.prog 99 [.ptr 0 0,gI to,.agg (enM m)] [.blk (Ad n (.ptr 1 0) (.sl (n.log.map enE)) (.osl 2)) tNd,.abs p,.slc (n.out.map pkG) tPk 3] fun g rs=>g=.tup []∧rs=[.blk (Ad (Aq n to m) (.ptr 1 0) (.sl (n.log.map enE)) (.osl 3)) tNd,.abs p,.gone,.slc ((Aq n to m).out.map pkG) tPk 3]:=by
 rw[(A8 n to m).cells]
 exact FnO.peekZ (rest:=[.abs p,.slc (n.out.map pkG) tPk 3]) (jo:=2) rfl (Z7j n _) rfl rfl (Zai _) fun u=>by
  have:=To n u to m hm ho
  rw[(A8 n to m).cellsH] at this
  exact this
theorem Et (n:PN)(p:Ob)(m:RM)(hm:m.l.length≤1000000)(hk:n.many≤100)(ho:n.out.length≤900000):FnO Tryz.prog 66 [.ptr 0 0,.agg (enM m)] [.blk (Ad n (.ptr 1 0) (.osl 2) (.osl 3)) tNd,.abs p,.slc (n.log.map enE) tEn 3,.slc (n.out.map pkG) tPk 3] fun g rs=>g=.tup []∧rs=[.blk (Ad (Ao n m) (.ptr 1 0) (.osl 2) (.osl 4)) tNd,.abs p,.slc (n.log.map enE) tEn 3,.gone,.slc ((Ao n m).out.map pkG) tPk 3]:=by
 rw[(A2 n m).cells]
 exact FnO.peekZ (rest:=[.abs p,.slc (n.log.map enE) tEn 3,.slc (n.out.map pkG) tPk 3]) (jo:=3) rfl (Z6n n) rfl rfl (Zai _) fun u=>by
  have:=Ow n u m hm hk ho
  rw[(A2 n m).cellsH] at this
  exact this
theorem C4 (n:PN)(p:Ob)(m:RM)(hm:m.l.length≤1000000)(hk:n.many≤100)(ho:n.out.length≤900000):FnO Tryz.prog 66 [.ptr 0 0,.agg (enM m)] [.blk (Ad n (.ptr 1 0) (.sl (n.log.map enE)) (.osl 2)) tNd,.abs p,.slc (n.out.map pkG) tPk 3] fun g rs=>g=.tup []∧rs=[.blk (Ad (Ao n m) (.ptr 1 0) (.sl (n.log.map enE)) (.osl 3)) tNd,.abs p,.gone,.slc ((Ao n m).out.map pkG) tPk 3]:=by
 rw[(A2 n m).cells]
 exact FnO.peekZ (rest:=[.abs p,.slc (n.out.map pkG) tPk 3]) (jo:=2) rfl (Z7j n _) rfl rfl (Zai _) fun u=>by
  have:=Ow n u m hm hk ho
  rw[(A2 n m).cellsH] at this
  exact this
theorem Hc (n:PN)(p:Ob)(to:Nat)(m:RM)(q:G)(hq:Z06 ((1,.froz (n.log.map enE) 3)::Aw [.blk (Ad n (.ptr 2 0) (.osl 1) (.osl 3)) tNd,.slc (n.log.map enE) tEn 3,.abs p,.slc (n.out.map pkG) tPk 3] 0) q=.agg (enM m))(hm:m.l.length≤1000000)(ho:n.out.length≤1000000):FnO Tryz.prog 99 [.ptr 0 0,gI to,q] [.blk (Ad n (.ptr 2 0) (.osl 1) (.osl 3)) tNd,.slc (n.log.map enE) tEn 3,.abs p,.slc (n.out.map pkG) tPk 3] fun g rs=>g=.tup []∧rs=[.blk (Ad (Aq n to m) (.ptr 2 0) (.osl 1) (.osl 4)) tNd,.slc (n.log.map enE) tEn 3,.abs p,.gone,.slc ((Aq n to m).out.map pkG) tPk 3]:=by
 rw[(A8 n to m).cells]
 exact FnO.peekF (rest:=[.slc (n.log.map enE) tEn 3,.abs p,.slc (n.out.map pkG) tPk 3]) (jo:=3) (js:=1) (gs':=[gI to,.agg (enM m)]) rfl rfl (by decide) (Z6h n) (by rw[←hq];rfl) rfl (Zai _) fun u=>by
  have:=To n u to m hm ho
  rw[(A8 n to m).cellsH] at this
  exact this
theorem Fq (n:PN)(p:Ob)(m:RM)(q:G)(hq:Z06 ((1,.froz (n.log.map enE) 3)::Aw [.blk (Ad n (.ptr 2 0) (.osl 1) (.osl 3)) tNd,.slc (n.log.map enE) tEn 3,.abs p,.slc (n.out.map pkG) tPk 3] 0) q=.agg (enM m))(hm:m.l.length≤1000000)(hk:n.many≤100)(ho:n.out.length≤900000):FnO Tryz.prog 66 [.ptr 0 0,q] [.blk (Ad n (.ptr 2 0) (.osl 1) (.osl 3)) tNd,.slc (n.log.map enE) tEn 3,.abs p,.slc (n.out.map pkG) tPk 3] fun g rs=>g=.tup []∧rs=[.blk (Ad (Ao n m) (.ptr 2 0) (.osl 1) (.osl 4)) tNd,.slc (n.log.map enE) tEn 3,.abs p,.gone,.slc ((Ao n m).out.map pkG) tPk 3]:=by
 rw[(A2 n m).cells]
 exact FnO.peekF (rest:=[.slc (n.log.map enE) tEn 3,.abs p,.slc (n.out.map pkG) tPk 3]) (jo:=3) (js:=1) (gs':=[.agg (enM m)]) rfl rfl (by decide) (Z6h n) (by rw[←hq];rfl) rfl (Zai _) fun u=>by
  have:=Ow n u m hm hk ho
  rw[(A2 n m).cellsH] at this
  exact this
end Go.Proofs.YtihfaocdpmmooaaGreat
namespace Go.Proofs.YtihfaocdpmmooaaGreat
open Go.RowKit
set_option maxRecDepth 100000
theorem Qu {n:PN}{i:Nat}{e:REnt}(h:n.log[i]?=some e):(Cb 1 n.pmd 0 eS::Cb 2 n.normal 0 eS::(n.log.take i).map fun e=>Cb 3 e.v e.n e.b)++[Cb 3 e.v e.n e.b]=Cb 1 n.pmd 0 eS::Cb 2 n.normal 0 eS::(n.log.take (i+1)).map fun e=>Cb 3 e.v e.n e.b:=by
 rw[D0 h,List.map_append];rfl
abbrev tSg:Nat:=9
def Z2m (n:PN)(i:Nat):List ByteArray:=Cb 1 n.pmd 0 eS::Cb 2 n.normal 0 eS::(n.log.take i).map fun e=>Cb 3 e.v e.n e.b
abbrev Za9 (n:PN)(o:G):List G:=[gI n.cmt,.v (.bool n.lds),.v (.bool n.std),.v (.bool (n.jns 0).is),gI (n.jns 0).normal,.sl ((n.jns 0).l.map enE),.v (.bool (n.jns 1).is),gI (n.jns 1).normal,.sl ((n.jns 1).l.map enE),.v (.bool (n.jns 2).is),gI (n.jns 2).normal,.sl ((n.jns 2).l.map enE),.v (.bool (n.jns 3).is),gI (n.jns 3).normal,.sl ((n.jns 3).l.map enE),.v (.bool (n.jns 4).is),gI (n.jns 4).normal,.sl ((n.jns 4).l.map enE),.v (.bool (n.jns 5).is),gI (n.jns 5).normal,.sl ((n.jns 5).l.map enE),.v (.bool (n.jns 6).is),gI (n.jns 6).normal,.sl ((n.jns 6).l.map enE),gI n.first,gI (n.aks 0),gI (n.aks 1),gI (n.aks 2),gI (n.aks 3),gI (n.aks 4),gI (n.aks 5),gI (n.aks 6),.v (.bool (n.hrd 0)),.v (.bool (n.hrd 1)),.v (.bool (n.hrd 2)),.v (.bool (n.hrd 3)),.v (.bool (n.hrd 4)),.v (.bool (n.hrd 5)),.v (.bool (n.hrd 6)),o,.v (.bool n.dead)]
theorem Z51 (n:PN)(p:Ob)(hl:n.log.length≤1000000):FnO Tryz.prog 133 [.ptr 0 0] [.blk (Ad n (.ptr 1 0) (.osl 2) (.osl 3)) tNd,.abs p,.slc (n.log.map enE) tEn 3,.slc (n.out.map pkG) tPk 3] fun g rs=>g=.osl 6∧rs=[.blk (Ad n (.ptr 1 0) (.osl 4) (.osl 5)) tNd,.abs p,.gone,.gone,.slc (n.log.map enE) tEn 3,.slc (n.out.map pkG) tPk 3,.slc ((Bp n).map gSt) tSg 1]:=by
 refine Bd Tryz.func133 (by kernel_rfl) rfl (Nat.le_of_ble_eq_true (by kernel_rfl)) (by kernel_rfl) (C1 _ _) ?_
 refine(Dl _ _ _ _).cal fun q hq=>?_
 subst hq
 refine(Dl _ _ _ _).cal fun q hq=>?_
 subst hq
 refine Bo [20,21] [0,1,2,3] (fun i:Nat=>[(22,gI i),(3,.osl 5)]) (fun i=>[(5,.slc ((Z2m n i).map gSt) tSg 1)]) (fun i=>i≤n.log.length) (fun i=>n.log.length - i) 0 (Nat.zero_le _) ⟨⟨rfl,rfl⟩,⟨rfl,rfl⟩,trivial⟩ ⟨⟨rfl,rfl,eqR (by rfl)⟩,trivial⟩ rfl fun i hi=>?_
 refine EvIf.dec (fun h=>?_) fun h=>?_
 ·rw[List.length_map] at h
  obtain⟨c,hc⟩:∃c,n.log[i]?=some c:=⟨_,List.getElem?_eq_getElem (by omega)⟩
  refine⟨⟨by omega,by rw[List.length_map];omega⟩,?_⟩
  refine EvIdx.at hc ?_
  have hlt:=Dy hc
  refine(Dl _ _ _ _).cal fun q hq=>?_
  subst hq
  refine⟨by unfold Z2m;simp;omega,?_⟩
  refine⟨by omega,i+1,hlt,(by dsimp only;omega),?_⟩
  refine⟨?_,?_,rfl⟩<;>repeat' (first | exact True.intro | with_reducible rfl | exact rfl | refine And.intro ?_ ?_)
  exact eqR (by unfold Z2m;rw[←Qu hc];simp;rfl)
 ·have hi2:i=n.log.length:=by rw[List.length_map] at h;omega
  subst hi2
  have e1:Z2m n n.log.length=Bp n:=by unfold Z2m Bp;rw[List.take_length]
  rw[e1]
  exact .gh (.rnm 0 2 [gI n.self,gI n.many,.ptr 1 0,gI n.pmd,gI n.normal] (Za9 n (.osl 3)) tNd _ tEn 3 rfl rfl (.rnm 0 3 (Z6j n (.osl 6)) [.v (.bool n.dead)] tNd _ tPk 3 rfl rfl (.done ⟨[⟨[(0,.blk (Ad n (.ptr 1 0) (.osl 4) (.osl 5)) tNd)],[(0,0)],false⟩,⟨[(0,.abs p)],[(0,1)],false⟩,⟨[(0,.gone)],[(0,2)],false⟩,⟨[(0,.gone)],[(0,3)],false⟩,⟨[(0,.slc (n.log.map enE) tEn 3)],[(0,6)],false⟩,⟨[(0,.slc (n.out.map pkG) tPk 3)],[(0,7)],false⟩,⟨[(0,.slc ((Bp n).map gSt) tSg 1)],[(0,5)],false⟩],.osl 6,⟨⟨⟨_,rfl,rfl,rfl⟩,⟨_,rfl,rfl,rfl⟩,⟨_,rfl,rfl,rfl⟩,⟨_,rfl,rfl,rfl⟩,⟨_,rfl,rfl,rfl⟩,⟨_,rfl,rfl,rfl⟩,⟨_,rfl,rfl,rfl⟩,trivial⟩,rfl,⟨_,rfl⟩,rfl,rfl,⟨rfl,rfl⟩⟩⟩)))
theorem Zfa (n:PN)(p:Ob)(hl:n.log.length≤1000000):FnO Tryz.prog 133 [.ptr 0 0] [.blk (Ad n (.ptr 1 0) (.sl (n.log.map enE)) (.osl 2)) tNd,.abs p,.slc (n.out.map pkG) tPk 3] fun g rs=>g=.osl 4∧rs=[.blk (Ad n (.ptr 1 0) (.sl (n.log.map enE)) (.osl 3)) tNd,.abs p,.gone,.slc (n.out.map pkG) tPk 3,.slc ((Bp n).map gSt) tSg 1]:=by
 refine Bd Tryz.func133 (by kernel_rfl) rfl (Nat.le_of_ble_eq_true (by kernel_rfl)) (by kernel_rfl) (C1 _ _) ?_
 refine(Dl _ _ _ _).cal fun q hq=>?_
 subst hq
 refine(Dl _ _ _ _).cal fun q hq=>?_
 subst hq
 refine Bo [20,21] [0,1,2] (fun i:Nat=>[(22,gI i),(3,.osl 4)]) (fun i=>[(4,.slc ((Z2m n i).map gSt) tSg 1)]) (fun i=>i≤n.log.length) (fun i=>n.log.length - i) 0 (Nat.zero_le _) ⟨⟨rfl,rfl⟩,⟨rfl,rfl⟩,trivial⟩ ⟨⟨rfl,rfl,eqR (by rfl)⟩,trivial⟩ rfl fun i hi=>?_
 refine EvIf.dec (fun h=>?_) fun h=>?_
 ·skip
  skip
  skip
  refine EvIdx.of (by simpa using h) fun c hc=>?_
  have hlt:=Dy hc
  refine(Dl _ _ _ _).cal fun q hq=>?_
  subst hq
  refine⟨by unfold Z2m;simp;omega,?_⟩
  refine⟨by omega,i+1,hlt,(by dsimp only;omega),?_⟩
  refine⟨?_,?_,rfl⟩<;>repeat' (first | exact True.intro | with_reducible rfl | exact rfl | refine And.intro ?_ ?_)
  exact eqR (by unfold Z2m;rw[←Qu hc];simp;rfl)
 ·have hi2:i=n.log.length:=by rw[List.length_map] at h;omega
  subst hi2
  have e1:Z2m n n.log.length=Bp n:=by unfold Z2m Bp;rw[List.take_length]
  rw[e1]
  exact .gh (.rnm 0 2 (Z6j n (.sl (n.log.map enE))) [.v (.bool n.dead)] tNd _ tPk 3 rfl rfl (.done ⟨[⟨[(0,.blk (Ad n (.ptr 1 0) (.sl (n.log.map enE)) (.osl 3)) tNd)],[(0,0)],false⟩,⟨[(0,.abs p)],[(0,1)],false⟩,⟨[(0,.gone)],[(0,2)],false⟩,⟨[(0,.slc (n.out.map pkG) tPk 3)],[(0,5)],false⟩,⟨[(0,.slc ((Bp n).map gSt) tSg 1)],[(0,4)],false⟩],.osl 4,⟨⟨⟨_,rfl,rfl,rfl⟩,⟨_,rfl,rfl,rfl⟩,⟨_,rfl,rfl,rfl⟩,⟨_,rfl,rfl,rfl⟩,⟨_,rfl,rfl,rfl⟩,trivial⟩,rfl,⟨_,rfl⟩,rfl,rfl,⟨rfl,rfl⟩⟩⟩))
end Go.Proofs.YtihfaocdpmmooaaGreat
namespace Go.Proofs.YtihfaocdpmmooaaGreat
open Go.RowKit
set_option maxRecDepth 100000
structure WK (l:LD):Prop where
 wa:WA l
 wait:l.d.wait.length≤80000
 all:l.all.length≤99000
theorem T9 {l:LD}(h:WK l)(s:ByteArray):WA (Bc l s)∧(Bc l s).d.wait.length≤80549:=by
 have hW:=h.wa
 have hwt:=h.wait
 have hall:=h.all
 unfold Bc
 split
 ·exact⟨hW,by omega⟩
 ·split
  ·exact⟨hW,by omega⟩
  ·split
   ·exact⟨hW,by omega⟩
   ·next h1 h2 h3 =>
    have hroom:l.b.length+s.size+4≤35136:=by unfold G1 at h3;omega
    have hb:(l.b++frB s).length≤35136:=by rw[List.length_append,Ds];omega
    have hw:=Z7i hW (by omega) l.half (l.b++frB s) l.b.length hb
    have hn:=Yp (l.b++frB s) l.b.length hb
    have h4:=(Ey (Ce l.half) (l.b++frB s) (nsW (l.b++frB s) l.b.length) l.d hW.d).2.2.1
    have hw2:(wrL l l.half (l.b++frB s) l.b.length).d.wait.length≤80549:=by show(runW _ _ _ _).1.wait.length≤_;omega
    split
    ·exact⟨⟨hw.d,hw.many,hw.armed,hw.wait,hw.half,hb,by show(l.all++[s]).length≤_;simp;omega,hw.mark⟩,hw2⟩
    ·exact⟨hw,hw2⟩
theorem Iq (n:PN):(Bp n).length=n.log.length+2:=by unfold Bp;simp
theorem Fz (n:PN):∀s∈Bp n,s.size≤1000000:=fun s hs=>by
 unfold Bp at hs
 rcases List.mem_cons.1 hs with rfl | hs
 ·have:=Ec 1 n.pmd 0 eS;omega
 ·rcases List.mem_cons.1 hs with rfl | hs
  ·have:=Ec 2 n.normal 0 eS;omega
  ·obtain⟨e,-,rfl⟩:=List.mem_map.1 hs
   have:=Ec 3 e.v e.n e.b;omega
theorem Z1p (n:PN)(b e:Nat)(er:Int):FnO Tryz.prog 131 [.ptr 0 0,gI er] (cA n b e) fun g rs=>g=.v (.bool (decide (er=0)))∧rs=cA (Dp n er) b e:=by
 by_cases h:er=0
 ·subst h
  exact Zdf n b e
 ·have:=Zdl n b e h
  rw[decide_eq_false h]
  exact this
theorem Z74 (n:PN)(b e:Nat)(h:WK n.st)(hl:n.log.length≤198)(r:ByteArray)(hr:r.size≤1000000):FnO Tryz.prog 95 [.ptr 0 0,.v (.string r)] (cA n b e) fun g rs=>g=.v (.bool (Ch n r))∧rs=cA (Bf n r) b e:=by
 refine Bd Tryz.func95 (by kernel_rfl) rfl (Nat.le_of_ble_eq_true (by kernel_rfl)) (by kernel_rfl) (A6 (O:=oAs n b e) (n0:=5) rfl) ?_
 obtain⟨hwa,hwt⟩:=T9 h r
 refine EvCall.lend ((Na n.st e h.wa r hr).cal fun q rs hq=>?_)
 obtain⟨rfl,rfl⟩:=hq
 refine EvIf.beq (fun(h5:Fx n.st r=51)=>?_) fun(h5:Fx n.st r≠51)=>?_
 ·have eN:Bf n r=Dp {n with st:=Fc (Bc n.st r) (Bp n)} (J8 (Bc n.st r) (Bp n)):=by unfold Bf;rw[if_pos h5]
  have eB:Ch n r=decide (J8 (Bc n.st r) (Bp n)=0):=by unfold Ch;rw[if_pos h5]
  rw[eN,eB]
  refine⟨?_,?_⟩
  all_goals
   refine EvCall.lend ((Z51 n _ (by omega)).cal fun q rs hq=>?_)
   obtain⟨rfl,rfl⟩:=hq
   refine EvCall.gh (.frz 7 _ _ _ rfl (.done (.see (.same ((G6 (Bc n.st r) e hwa (by omega) (Bp n) (by rw[Iq];omega) (Fz n)).cal fun q rs hq=>?_)))))
   obtain⟨rfl,rfl⟩:=hq
   refine .done ?_
   refine EvCall.gh (.close (oAs {n with st:=Fc (Bc n.st r) (Bp n)} b e) [(1,1),(2,5),(3,6),(4,4)] (by exact RL5) ⟨_,rfl⟩ rfl (.done (.same ((Z1p _ b e _).cal fun q rs hq=>?_))))
   obtain⟨rfl,rfl⟩:=hq
   refine .done ?_
   exact .inl (A7 rfl rfl ⟨rfl,rfl⟩)
 ·have hd:Dp {n with st:=Bc n.st r} 0={n with st:=Bc n.st r}:=by unfold Dp;rw[if_neg (by decide)]
  refine EvCall.gh (.close (oAs {n with st:=Bc n.st r} b e) [] (by exact RL5) ⟨_,rfl⟩ rfl (.done (.same ((Z1p _ b e _).cal fun q rs hq=>?_))))
  obtain⟨rfl,rfl⟩:=hq
  by_cases h0:Fx n.st r=0
  ·rw[h0,hd]
   refine .opn 0 _ _ _ rfl rfl rfl (.done ?_)
   refine EvIf.mk (fun _=>?_) fun h=>absurd h (by decide)
   have eN:Bf n r=Dp {n with st:=Ja (Bc n.st r)} (Og (Bc n.st r)):=by unfold Bf;rw[if_neg h5,if_neg (fun h=>h h0)]
   have eB:Ch n r=decide (Og (Bc n.st r)=0):=by unfold Ch;rw[if_neg h5,if_neg (fun h=>h h0)]
   rw[eN,eB]
   refine EvCall.gh (.done (.same ((Zz (Bc n.st r) e hwa).cal fun q rs hq=>?_)))
   obtain⟨rfl,rfl⟩:=hq
   refine .done ?_
   refine EvCall.gh (.close (oAs {n with st:=Ja (Bc n.st r)} b e) [(1,5),(2,6),(3,7),(4,8)] (by exact RL5) ⟨_,rfl⟩ rfl (.done (.same ((Z1p _ b e _).cal fun q rs hq=>?_))))
   obtain⟨rfl,rfl⟩:=hq
   refine .done ?_
   exact .inl (A7 rfl rfl ⟨rfl,rfl⟩)
  ·rw[decide_eq_false h0]
   refine .done ?_
   refine EvIf.mk (fun h=>absurd h (by decide)) fun _=>?_
   have eN:Bf n r=Dp {n with st:=Bc n.st r} (Fx n.st r):=by unfold Bf;rw[if_neg h5,if_pos h0]
   have eB:Ch n r=false:=by unfold Ch;rw[if_neg h5,if_pos h0]
   rw[eN,eB]
   exact .inl (A7 rfl rfl ⟨rfl,rfl⟩)
theorem Z96 (n:PN)(b e:Nat)(er:Int):FnO Tryz.prog 131 [.ptr 0 0,gI er] (cB n b e) fun g rs=>g=.v (.bool (decide (er=0)))∧rs=cB (Dp n er) b e:=by
 by_cases h:er=0
 ·subst h
  exact Zas n b e
 ·have:=Zbc n b e h
  rw[decide_eq_false h]
  exact this
theorem Zcc (n:PN)(b e:Nat)(h:WK n.st)(hl:n.log.length≤198)(r:ByteArray)(hr:r.size≤1000000):FnO Tryz.prog 95 [.ptr 0 0,.v (.string r)] (cB n b e) fun g rs=>g=.v (.bool (Ch n r))∧rs=cB (Bf n r) b e:=by
 refine Bd Tryz.func95 (by kernel_rfl) rfl (Nat.le_of_ble_eq_true (by kernel_rfl)) (by kernel_rfl) (A6 (O:=oBs n b e) (n0:=5) rfl) ?_
 obtain⟨hwa,hwt⟩:=T9 h r
 refine EvCall.lend ((Na n.st e h.wa r hr).cal fun q rs hq=>?_)
 obtain⟨rfl,rfl⟩:=hq
 refine EvIf.beq (fun(h5:Fx n.st r=51)=>?_) fun(h5:Fx n.st r≠51)=>?_
 ·have eN:Bf n r=Dp {n with st:=Fc (Bc n.st r) (Bp n)} (J8 (Bc n.st r) (Bp n)):=by unfold Bf;rw[if_pos h5]
  have eB:Ch n r=decide (J8 (Bc n.st r) (Bp n)=0):=by unfold Ch;rw[if_pos h5]
  rw[eN,eB]
  refine⟨?_,?_⟩
  all_goals
   refine EvCall.lend ((Zfa n _ (by omega)).cal fun q rs hq=>?_)
   obtain⟨rfl,rfl⟩:=hq
   refine EvCall.gh (.frz 6 _ _ _ rfl (.done (.see (.same ((G6 (Bc n.st r) e hwa (by omega) (Bp n) (by rw[Iq];omega) (Fz n)).cal fun q rs hq=>?_)))))
   obtain⟨rfl,rfl⟩:=hq
   refine .done ?_
   refine EvCall.gh (.close (oBs {n with st:=Fc (Bc n.st r) (Bp n)} b e) [(1,1),(2,2),(3,5),(4,4)] (by exact RL5) ⟨_,rfl⟩ rfl (.done (.same ((Z96 _ b e _).cal fun q rs hq=>?_))))
   obtain⟨rfl,rfl⟩:=hq
   refine .done ?_
   exact .inl (A7 rfl rfl ⟨rfl,rfl⟩)
 ·have hd:Dp {n with st:=Bc n.st r} 0={n with st:=Bc n.st r}:=by unfold Dp;rw[if_neg (by decide)]
  refine EvCall.gh (.close (oBs {n with st:=Bc n.st r} b e) [] (by exact RL5) ⟨_,rfl⟩ rfl (.done (.same ((Z96 _ b e _).cal fun q rs hq=>?_))))
  obtain⟨rfl,rfl⟩:=hq
  by_cases h0:Fx n.st r=0
  ·rw[h0,hd]
   refine .opn 0 _ _ _ rfl rfl rfl (.done ?_)
   refine EvIf.mk (fun _=>?_) fun h=>absurd h (by decide)
   have eN:Bf n r=Dp {n with st:=Ja (Bc n.st r)} (Og (Bc n.st r)):=by unfold Bf;rw[if_neg h5,if_neg (fun h=>h h0)]
   have eB:Ch n r=decide (Og (Bc n.st r)=0):=by unfold Ch;rw[if_neg h5,if_neg (fun h=>h h0)]
   rw[eN,eB]
   refine EvCall.gh (.done (.same ((Zz (Bc n.st r) e hwa).cal fun q rs hq=>?_)))
   obtain⟨rfl,rfl⟩:=hq
   refine .done ?_
   refine EvCall.gh (.close (oBs {n with st:=Ja (Bc n.st r)} b e) [(1,5),(2,6),(3,7),(4,8)] (by exact RL5) ⟨_,rfl⟩ rfl (.done (.same ((Z96 _ b e _).cal fun q rs hq=>?_))))
   obtain⟨rfl,rfl⟩:=hq
   refine .done ?_
   exact .inl (A7 rfl rfl ⟨rfl,rfl⟩)
  ·rw[decide_eq_false h0]
   refine .done ?_
   refine EvIf.mk (fun h=>absurd h (by decide)) fun _=>?_
   have eN:Bf n r=Dp {n with st:=Bc n.st r} (Fx n.st r):=by unfold Bf;rw[if_neg h5,if_pos h0]
   have eB:Ch n r=false:=by unfold Ch;rw[if_neg h5,if_pos h0]
   rw[eN,eB]
   exact .inl (A7 rfl rfl ⟨rfl,rfl⟩)
end Go.Proofs.YtihfaocdpmmooaaGreat
namespace Go.Proofs.YtihfaocdpmmooaaGreat
structure WSt (k:Nat)(l:LD):Prop where
 d:WD l.d
 many:l.d.now.length=1100
 armed:l.d.armed≤9223372036854775807
 wait:l.d.wait=[]
 half:l.half < 2
 b:l.b=An l.all
 len:l.b.length≤35136
 mark:l.mark≤k
 dead:l.dead=false
 dd:l.d.dead=false
theorem Zj:∀l:List ByteArray,4 * l.length≤(An l).length
 | []=>by simp[An]
 | s::l=>by
  have h1:=Zj l
  unfold An at *
  rw[List.flatMap_cons,List.length_append,Ds,List.length_cons];omega
theorem WSt.wk {k:Nat}{l:LD}(h:WSt k l)(hk:k≤1000000000):WK l:=by
 have h1:=Zj l.all
 rw[←h.b] at h1
 have h2:=h.len
 have h3:=h.mark
 exact⟨⟨h.d,by rw[h.many];exact Nat.le_refl _,h.armed,by rw[h.wait];exact Nat.zero_le _,h.half,h.len,by omega,by omega⟩,by rw[h.wait];exact Nat.zero_le _,by omega⟩
theorem L3 {d:RD}{n:Int}{b:Sec}(h:Bn d n b=0):(Ae d n b).dead=false∧d.dead=false:=by
 unfold Bn at h
 unfold Ae
 by_cases h1:K0 d n=0
 ·rw[if_neg (fun h=>h h1)] at h⊢
  have h2:=(Or h1).1
  split at h
  ·cases h
  ·next h3 =>
   rw[if_neg h3]
   split at h
   ·cases h
   ·next h4 =>
    refine⟨?_,h2⟩
    unfold F4 at h4
    unfold Ba
    show(if d.armed=0 then _ else _:RD).dead=false
    split
    ·exact h2
    ·next h5 =>
     rw[if_neg h5] at h4
     have h6:(d.armed - 1==0)=false:=by simpa using h4
     exact h6
 ·rw[if_pos h1] at h;exact absurd h h1
theorem Kk {d:RD}(h:Da d=0):(Ab d).dead=false∧(Ab d).wait=[]∧d.dead=false:=by
 unfold Da at h
 split at h
 ·cases h
 ·next h1 =>
  have h2:d.dead=false:=by cases hd:d.dead with
   | false=>rfl
   | true=>exact absurd (.inl hd) h1
  have h3:¬F4 d=true:=fun h=>h1 (.inr h)
  unfold Ab
  rw[if_neg (by rw[h2];decide),if_neg h3]
  refine⟨?_,rfl,h2⟩
  show(Ba d).dead=false
  unfold F4 at h3
  unfold Ba
  split
  ·exact h2
  ·next h5=>rw[if_neg h5] at h3;simpa using h3
theorem Z7b {d:RD}{n:Int}{b:Sec}(ha:d.armed=0)(hd:d.dead=false)(h0:0≤n)(h1:n < d.now.length)(hb:b.length≤64):Bn d n b=0∧(Ae d n b).armed=0:=by
 have hm:K0 d n=0:=by unfold K0;rw[hd,if_neg (by decide),if_neg (by omega)]
 have hs:F4 d=false:=by unfold F4;rw[if_pos ha]
 unfold Bn Ae
 rw[if_neg (fun h=>h hm),if_neg (by omega),hs,if_neg (by decide),if_neg (fun h=>h hm),if_neg (by omega)]
 refine⟨rfl,?_⟩
 unfold Ba
 show(if d.armed=0 then _ else _:RD).armed=0
 rw[if_pos ha];exact ha
theorem Zd0 {d:RD}(ha:d.armed=0)(hd:d.dead=false):Da d=0∧(Ab d).armed=0:=by
 have hs:F4 d=false:=by unfold F4;rw[if_pos ha]
 unfold Da Ab
 rw[hd,hs]
 refine⟨by simp,?_⟩
 simp only[Bool.false_eq_true,if_false]
 show(Ba d).armed=0
 unfold Ba
 rw[if_pos ha];exact ha
theorem R8 (f:Nat)(b:Bs):∀(ns:List Nat) (d:RD),d.dead=false→(runW f b ns d).2=true→(runW f b ns d).1.dead=false
 | [],d,h,_=>h
 | n::ns,d,h,hr=>by
  rw[Fa] at hr⊢
  split
  ·next hw=>rw[if_pos hw] at hr;exact R8 f b ns _ (L3 hw).1 hr
  ·next hw=>rw[if_neg hw] at hr;cases hr
theorem Pi (f:Nat)(b:Bs):∀(ns:List Nat) (d:RD),d.dead=false→d.armed=0→(∀n∈ns,f+n < d.now.length)→(runW f b ns d).2=true∧(runW f b ns d).1.armed=0
 | [],d,_,ha,_=>⟨rfl,ha⟩
 | n::ns,d,h,ha,hn=>by
  have h1:=hn n (by simp)
  obtain⟨w1,w2⟩:=Z7b (n:=((f+n:Nat):Int)) (b:=chB b n) ha h (by omega) (by omega) (by unfold chB;rw[List.length_take];omega)
  rw[Fa,if_pos w1]
  refine Pi f b ns _ (L3 w1).1 w2 fun m hm=>?_
  rw[(E7 d _ _).1]
  exact hn m (by simp[hm])
theorem Yy {b:Bs}{frm:Nat}(hb:b.length≤35136){n:Nat}(h:n∈nsW b frm):n < 549:=by
 unfold nsW at h
 rw[List.mem_range'_1] at h
 omega
theorem Lk {l:LD}(hd:l.d.dead=false){h:Nat}{b:Bs}{frm:Nat}(hw:wrE l h b frm=true):(wrL l h b frm).dead=false∧(wrL l h b frm).d.dead=false:=by
 unfold wrE at hw
 unfold wrL
 refine⟨by rw[hw];rfl,?_⟩
 exact R8 _ _ _ _ hd hw
theorem Km {l:LD}(hd:l.d.dead=false)(ha:l.d.armed=0)(hm:l.d.now.length=1100){h:Nat}(hh:h < 2){b:Bs}(hb:b.length≤35136)(frm:Nat):wrE l h b frm=true∧(wrL l h b frm).d.armed=0:=by
 unfold wrE wrL
 exact Pi _ _ _ _ hd ha fun n hn=>by
  have:=Yy hb hn
  rw[hm];unfold Ce;omega
theorem Dn (m h f:Nat):(Ak m h f).length=64:=by
 unfold Ak be8
 simp
theorem Kc {l:LD}{h f:Nat}(hs:(Ah l h f).dead=false):(Ah l h f).d.dead=false∧(Ah l h f).d.wait=[]∧Ah l h f={l with mark:=l.mark+1,half:=h,firm:=f,d:=(Ah l h f).d}:=by
 unfold Ah at hs⊢
 split at hs
 ·cases hs
 ·next h1 =>
  rw[if_neg h1]
  split at hs
  ·cases hs
  ·next h2 =>
   rw[if_neg h2]
   split at hs
   ·cases hs
   ·next h3 =>
    rw[if_neg h3]
    obtain⟨a1,a2,-⟩:=Kk (by omega:Da (Ae (Ab l.d) (((l.mark+1) % 2:Nat):Int) (Ak (l.mark+1) h f))=0)
    exact⟨a1,a2,rfl⟩
theorem Jk {l:LD}(hl:l.dead=false)(hd:l.d.dead=false)(ha:l.d.armed=0)(hm:l.d.now.length=1100)(h f:Nat):(Ah l h f).dead=false∧(Ah l h f).d.armed=0:=by
 obtain⟨s1,s2⟩:=Zd0 ha hd
 obtain⟨s3,-,-⟩:=Kk s1
 have hlen:=(Ia l.d).1
 obtain⟨w1,w2⟩:=Z7b (d:=Ab l.d) (n:=(((l.mark+1) % 2:Nat):Int)) (b:=Ak (l.mark+1) h f) s2 s3 (by omega) (by omega) (by rw[Dn];exact Nat.le_refl _)
 obtain⟨s4,s5⟩:=Zd0 w2 (L3 w1).1
 unfold Ah
 rw[if_neg (fun h=>h s1),if_neg (fun h=>h w1),if_neg (fun h=>h s4)]
 exact⟨hl,s5⟩
theorem Tw {l:LD}(hw:WD l.d)(h f:Nat):WD (Ah l h f).d∧(Ah l h f).d.now.length=l.d.now.length∧(Ah l h f).d.armed≤l.d.armed∧(Ah l h f).d.wait.length≤l.d.wait.length+1:=by
 obtain⟨a1,a2,a3⟩:=Ia l.d
 obtain⟨b1,b2,b3⟩:=E7 (Ab l.d) (((l.mark+1) % 2:Nat):Int) (Ak (l.mark+1) h f)
 obtain⟨c1,c2,c3⟩:=Ia (Ae (Ab l.d) (((l.mark+1) % 2:Nat):Int) (Ak (l.mark+1) h f))
 have w1:=Kg hw
 have w2:=Id w1 (((l.mark+1) % 2:Nat):Int) (Ak (l.mark+1) h f)
 have w3:=Kg w2
 unfold Ah
 split
 ·exact⟨w1,a1,a3,by show(Ab l.d).wait.length≤_;omega⟩
 ·split
  ·exact⟨w2,b1.trans a1,by show(Ae _ _ _).armed≤_;omega,by show(Ae _ _ _).wait.length≤_;omega⟩
  ·split
   ·exact⟨w3,c1.trans (b1.trans a1),by show(Ab _).armed≤_;omega,by show(Ab _).wait.length≤_;omega⟩
   ·exact⟨w3,c1.trans (b1.trans a1),by show(Ab _).armed≤_;omega,by show(Ab _).wait.length≤_;omega⟩
theorem Z6t {k:Nat}{l:LD}(h:WSt k l)(s:ByteArray)(h0:Fx l s=0)(h1:Og (Bc l s)=0):WSt (k+1) (Ja (Bc l s))∧(Ja (Bc l s)).all=l.all++[s]:=by
 unfold Fx at h0
 rw[if_neg (by rw[h.dead];decide)] at h0
 have hs1:¬s.size > 4096:=fun hh=>by rw[if_pos hh] at h0;cases h0
 rw[if_neg hs1] at h0
 have hs2:¬(s.size:Int) > G1 l:=fun hh=>by rw[if_pos hh] at h0;cases h0
 rw[if_neg hs2] at h0
 have hw:wrE l l.half (l.b++frB s) l.b.length=true:=by
  cases hw:wrE l l.half (l.b++frB s) l.b.length with
  | true=>rfl
  | false=>rw[hw] at h0;cases h0
 have hA:Bc l s={wrL l l.half (l.b++frB s) l.b.length with b:=l.b++frB s,all:=l.all++[s]}:=by
  unfold Bc
  rw[if_neg (by rw[h.dead];decide),if_neg hs1,if_neg hs2,if_pos hw]
 have hroom:(l.b++frB s).length≤35136:=by rw[List.length_append,Ds];have:=h.len;unfold G1 at hs2;omega
 obtain⟨hd1,hd2⟩:=Lk h.dd hw
 obtain⟨r1,r2,r3,r4⟩:=Ey (Ce l.half) (l.b++frB s) (nsW (l.b++frB s) l.b.length) l.d h.d
 generalize hx:({wrL l l.half (l.b++frB s) l.b.length with b:=l.b++frB s,all:=l.all++[s]}:LD)=x at hA
 have x1:x.dead=false:=by rw[←hx];exact hd1
 have x2:x.d=(runW (Ce l.half) (l.b++frB s) (nsW (l.b++frB s) l.b.length) l.d).1:=by rw[←hx];rfl
 have x3:x.mark=l.mark:=by rw[←hx];rfl
 have x4:x.half=l.half:=by rw[←hx];rfl
 have x5:x.b=l.b++frB s:=by rw[←hx]
 have x6:x.all=l.all++[s]:=by rw[←hx]
 rw[hA] at h1⊢
 have hS:Ja x=Ah x x.half x.b.length:=by unfold Ja;rw[if_neg (by rw[x1];decide)]
 have hE:(Ah x x.half x.b.length).dead=false:=by
  unfold Og at h1
  rw[if_neg (by rw[x1];decide)] at h1
  unfold Dd at h1
  cases hz:(Ah x x.half x.b.length).dead with
  | false=>rfl
  | true=>rw[hz] at h1;cases h1
 obtain⟨s1,s2,s3⟩:=Kc hE
 obtain⟨q1,q2,q3,q4⟩:=Tw (l:=x) (by rw[x2];exact r1) x.half x.b.length
 rw[hS]
 have fb:(Ah x x.half x.b.length).b=l.b++frB s:=by rw[s3];exact x5
 have fa:(Ah x x.half x.b.length).all=l.all++[s]:=by rw[s3];exact x6
 have ha:=h.armed
 have hm:=h.many
 refine⟨⟨q1,by rw[q2,x2];omega,by rw[x2] at q3;omega,s2,?_,?_,?_,?_,hE,s1⟩,fa⟩
 ·rw[s3];show x.half < 2;rw[x4];exact h.half
 ·rw[fb,fa,Qs,h.b]
 ·rw[fb];exact hroom
 ·rw[s3];show x.mark+1≤_;have:=h.mark;omega
theorem Z1y {k:Nat}{l:LD}(h:WSt k l)(all:List ByteArray)(h0:J8 l all=0):WSt (k+1) (Fc l all)∧(Fc l all).all=all:=by
 unfold J8 at h0
 rw[if_neg (by rw[h.dead];decide)] at h0
 have hf:Me all=0:=by
  by_cases hf:Me all=0
  ·exact hf
  ·rw[if_pos hf] at h0;exact absurd h0 hf
 rw[if_neg (fun h=>h hf)] at h0
 have hw:wrE l (1 - l.half) (An all) 0=true:=by
  cases hw:wrE l (1 - l.half) (An all) 0 with
  | true=>rfl
  | false=>rw[hw] at h0;cases h0
 rw[if_pos hw] at h0
 have hbl:(An all).length≤35136:=by
  unfold Me at hf
  split at hf
  ·cases hf
  ·split at hf
   ·cases hf
   ·omega
 obtain⟨hd1,hd2⟩:=Lk h.dd hw
 obtain⟨r1,r2,r3,r4⟩:=Ey (Ce (1 - l.half)) (An all) (nsW (An all) 0) l.d h.d
 have hE:(Ah (wrL l (1 - l.half) (An all) 0) (1 - l.half) (An all).length).dead=false:=by
  unfold Dd at h0
  cases hz:(Ah (wrL l (1 - l.half) (An all) 0) (1 - l.half) (An all).length).dead with
  | false=>rfl
  | true=>rw[hz] at h0;cases h0
 have hR:Fc l all={Ah (wrL l (1 - l.half) (An all) 0) (1 - l.half) (An all).length with b:=An all,all:=all}:=by
  unfold Fc
  rw[if_neg (by rw[h.dead];decide),if_neg (fun h=>h hf),if_pos hw,if_neg (by rw[hE];decide)]
 obtain⟨s1,s2,s3⟩:=Kc hE
 obtain⟨q1,q2,q3,q4⟩:=Tw (l:=wrL l (1 - l.half) (An all) 0) r1 (1 - l.half) (An all).length
 have x2:(wrL l (1 - l.half) (An all) 0).d=(runW (Ce (1 - l.half)) (An all) (nsW (An all) 0) l.d).1:=rfl
 have ha:=h.armed
 have hm:=h.many
 rw[hR]
 refine⟨⟨q1,?_,?_,s2,?_,rfl,hbl,?_,hE,s1⟩,rfl⟩
 ·show(Ah _ _ _).d.now.length=_;rw[q2,x2];omega
 ·show(Ah _ _ _).d.armed≤_;rw[x2] at q3;omega
 ·show(Ah _ _ _).half < 2
  rw[s3];show 1 - l.half < 2;omega
 ·show(Ah _ _ _).mark≤_
  rw[s3];show l.mark+1≤_;have:=h.mark;omega
end Go.Proofs.YtihfaocdpmmooaaGreat
namespace Go.Proofs.YtihfaocdpmmooaaGreat
open Go.RowKit
set_option maxRecDepth 100000
theorem Zez (n:PN)(b e:Nat)(h:WK n.st)(hl:n.log.length≤190)(x:REnt):FnO Tryz.prog 65 [.ptr 0 0,.agg (enE x)] (cA n b e) fun g rs=>g=.v (.bool (Xt n x))∧rs=cA (He n x) b e:=by
 refine Bd Tryz.func65 (by kernel_rfl) rfl (Nat.le_of_ble_eq_true (by kernel_rfl)) (by kernel_rfl) (A6 (O:=oAs n b e) (n0:=5) rfl) ?_
 refine⟨by simp;omega,?_⟩
 refine(Dl _ _ _ _).cal fun q hq=>?_
 subst hq
 refine EvCall.gh (.close (oAs {n with log:=n.log++[x]} b e) [(1,1),(2,7),(3,3),(4,4)] ⟨RL1,RL1,⟨rfl,rfl,eqR (by rw[List.map_append];rfl)⟩,RL1,RL1,trivial⟩ ⟨_,rfl⟩ rfl (.done (.same ((Z74 {n with log:=n.log++[x]} b e h (by show(n.log++[x]).length≤_;simp;omega) _ (by have:=Ec 3 x.v x.n x.b;omega)).cal fun q rs hq=>?_))))
 obtain⟨rfl,rfl⟩:=hq
 refine .done ?_
 exact .inl (A7 rfl rfl ⟨rfl,rfl⟩)
theorem Z6z (n:PN)(b e:Nat)(h:WK n.st)(hl:n.log.length≤190)(view:Int):FnO Tryz.prog 82 [.ptr 0 0,gI view] (cA n b e) fun g rs=>g=.v (.bool (Jv n view))∧rs=cB (Ep n view) b e:=by
 refine Bd Tryz.func82 (by kernel_rfl) rfl (Nat.le_of_ble_eq_true (by kernel_rfl)) (by kernel_rfl) (A6 (O:=oAs n b e) (n0:=5) rfl) ?_
 refine(Dl _ _ _ _).cal fun q hq=>?_
 subst hq
 refine EvCall.gh (.seen 0 _ _ rfl (.close (oAs {n with pmd:=view,lds:=false,std:=false} b e) [] (by exact RL5) ⟨_,rfl⟩ rfl (.done (.same ((Z74 {n with pmd:=view,lds:=false,std:=false} b e h (by show n.log.length≤_;omega) _ (Nat.le_trans (Ec _ _ _ _) (by decide))).cal fun q rs hq=>?_)))))
 obtain⟨rfl,rfl⟩:=hq
 refine .done ?_
 exact .gh (.opn 0 _ _ _ rfl rfl rfl (.frz 6 _ _ _ rfl (.seen 0 _ _ rfl (.drop 6 _ rfl (.done (A1 (oBs (Ep n view) b e) [(1,5),(2,6),(3,7),(4,8)] (by exact RL5) rfl ⟨_,rfl⟩ rfl rfl ⟨rfl,rfl⟩))))))
theorem Z5z (n:PN)(b e:Nat)(h:WK n.st)(hl:n.log.length≤190)(view:Int):FnO Tryz.prog 82 [.ptr 0 0,gI view] (cB n b e) fun g rs=>g=.v (.bool (Jv n view))∧rs=cB (Ep n view) b e:=by
 refine Bd Tryz.func82 (by kernel_rfl) rfl (Nat.le_of_ble_eq_true (by kernel_rfl)) (by kernel_rfl) (A6 (O:=oBs n b e) (n0:=5) rfl) ?_
 refine(Dl _ _ _ _).cal fun q hq=>?_
 subst hq
 refine EvCall.gh (.seen 0 _ _ rfl (.close (oBs {n with pmd:=view,lds:=false,std:=false} b e) [] (by exact RL5) ⟨_,rfl⟩ rfl (.done (.same ((Zcc {n with pmd:=view,lds:=false,std:=false} b e h (by show n.log.length≤_;omega) _ (Nat.le_trans (Ec _ _ _ _) (by decide))).cal fun q rs hq=>?_)))))
 obtain⟨rfl,rfl⟩:=hq
 refine .done ?_
 exact .inl (A7 rfl rfl ⟨rfl,rfl⟩)
theorem Z99 (n:PN)(b e:Nat)(h:WK n.st)(view:Int)(l:List REnt)(hl:l.length≤190):FnO Tryz.prog 104 [.ptr 0 0,gI view,.sl (l.map enE)] (cA n b e) fun g rs=>g=.v (.bool (Do n view l))∧rs=cA (C8 n view l) b e:=by
 refine Bd Tryz.func104 (by kernel_rfl) rfl (Nat.le_of_ble_eq_true (by kernel_rfl)) (by kernel_rfl) (A6 (O:=oAs n b e) (n0:=5) rfl) ?_
 refine(Nj l (by omega)).cal fun q rs hq=>?_
 obtain⟨rfl,rfl⟩:=hq
 refine⟨?_,?_⟩
 all_goals
  refine EvCall.lend ((Z51 (Bj n view l) _ (by show l.length≤_;omega)).cal fun q rs hq=>?_)
  obtain⟨rfl,rfl⟩:=hq
  refine EvCall.gh (.frz 8 _ _ _ rfl (.done (.see (.same ((G6 n.st e h.wa (by have:=h.wait;omega) (Bp (Bj n view l)) (by rw[Iq];show l.length+2≤_;omega) (Fz _)).cal fun q rs hq=>?_)))))
  obtain⟨rfl,rfl⟩:=hq
  refine .done ?_
  refine EvCall.gh (.close (oAs {Bj n view l with st:=Fc n.st (Bp (Bj n view l))} b e) [(1,1),(2,6),(3,7),(4,4)] (by exact RL5) ⟨_,rfl⟩ rfl (.done (.same ((Z1p _ b e _).cal fun q rs hq=>?_))))
  obtain⟨rfl,rfl⟩:=hq
  refine .done ?_
  exact .inl (A7 rfl rfl ⟨rfl,rfl⟩)
theorem Z13 (n:PN)(b e:Nat)(h:WK n.st)(view:Int)(l:List REnt)(hl:l.length≤190):FnO Tryz.prog 104 [.ptr 0 0,gI view,.sl (l.map enE)] (cB n b e) fun g rs=>g=.v (.bool (Do n view l))∧rs=cA (C8 n view l) b e:=by
 refine Bd Tryz.func104 (by kernel_rfl) rfl (Nat.le_of_ble_eq_true (by kernel_rfl)) (by kernel_rfl) (A6 (O:=oBs n b e) (n0:=5) rfl) ?_
 refine(Nj l (by omega)).cal fun q rs hq=>?_
 obtain⟨rfl,rfl⟩:=hq
 refine⟨?_,?_⟩
 all_goals
  refine EvCall.lend ((Z51 (Bj n view l) _ (by show l.length≤_;omega)).cal fun q rs hq=>?_)
  obtain⟨rfl,rfl⟩:=hq
  refine EvCall.gh (.frz 8 _ _ _ rfl (.done (.see (.same ((G6 n.st e h.wa (by have:=h.wait;omega) (Bp (Bj n view l)) (by rw[Iq];show l.length+2≤_;omega) (Fz _)).cal fun q rs hq=>?_)))))
  obtain⟨rfl,rfl⟩:=hq
  refine .done ?_
  refine EvCall.gh (.close (oAs {Bj n view l with st:=Fc n.st (Bp (Bj n view l))} b e) [(1,1),(2,6),(3,7),(4,4)] (by exact RL5) ⟨_,rfl⟩ rfl (.done (.same ((Z1p _ b e _).cal fun q rs hq=>?_))))
  obtain⟨rfl,rfl⟩:=hq
  refine .done ?_
  exact .inl (A7 rfl rfl ⟨rfl,rfl⟩)
end Go.Proofs.YtihfaocdpmmooaaGreat
namespace Go.Proofs.YtihfaocdpmmooaaGreat
open Go.RowKit
set_option maxRecDepth 100000
theorem Zfe {m:Nat}(h0:1≤m)(h:m≤7):m=1∨m=2∨m=3∨m=4∨m=5∨m=6∨m=7:=by omega
theorem Xh (n:PN)(h0:1≤n.many)(h:n.many≤7)(s l o:G):(((Ad n s l o).drop 31).take n.many).map (fun g=>[g])=(Bm n).map gI1∧Ar Fy (((Ad n s l o).drop 31).take n.many)=true:=by
 unfold Bm
 rcases Zfe h0 h with e | e | e | e | e | e | e<;>rw[e]<;>exact⟨rfl,rfl⟩
theorem Cl (n:PN)(b e:Nat)(h0:1≤n.many)(h:n.many≤7)(ho:n.out.length≤900000):FnO Tryz.prog 67 [.ptr 0 0] (cA n b e) fun g rs=>g=.tup []∧rs=cA (Cp n) b e:=by
 refine Bd Tryz.func67 (by kernel_rfl) rfl (Nat.le_of_ble_eq_true (by kernel_rfl)) (by kernel_rfl) (A6 (O:=oAs n b e) (n0:=5) rfl) ?_
 obtain⟨c1,c2⟩:=Xh n h0 h (.ptr 1 0) (.osl 2) (.osl 3)
 refine⟨⟨by omega,by omega,by omega⟩,?_⟩
 refine EvSn.snap (Ad n (.ptr 1 0) (.osl 2) (.osl 3)) tNd (.int .i64 (Bu (Bm n))) rfl ⟨h,by show 31+n.many≤47;omega⟩ c2 (by
  have:=Zan (Bm n) (by unfold Bm;simp;omega)
  rw[←c1] at this
  exact this) ?_
 refine EvIf.dec (fun hgt=>?_) fun hgt=>?_
 ·have eL:Cp n=Ao {n with cmt:=Bu (Bm n)} ⟨6,n.pmd,0,Bu (Bm n),[]⟩:=by unfold Cp;rw[if_pos hgt]
  have hS:=Et {n with cmt:=Bu (Bm n)} (cl (oLs n.st e)) ⟨6,n.pmd,0,Bu (Bm n),[]⟩ (Nat.zero_le _) (by show n.many≤100;omega) ho
  obtain⟨o,hs⟩:=(A2 {n with cmt:=Bu (Bm n)} ⟨6,n.pmd,0,Bu (Bm n),[]⟩).to
  rw[hs] at hS eL
  rw[eL]
  refine hS.cal fun q rs hq=>?_
  obtain⟨rfl,rfl⟩:=hq
  exact .inl (A1 (oAs {n with cmt:=Bu (Bm n),out:=o} b e) [(3,5)] (by exact RL5) rfl ⟨_,rfl⟩ rfl rfl ⟨rfl,rfl⟩)
 ·have eL:Cp n=n:=by unfold Cp;rw[if_neg hgt]
  rw[eL]
  exact .inl (A1 (oAs n b e) [] (by exact RL5) rfl ⟨_,rfl⟩ rfl rfl ⟨rfl,rfl⟩)
end Go.Proofs.YtihfaocdpmmooaaGreat
