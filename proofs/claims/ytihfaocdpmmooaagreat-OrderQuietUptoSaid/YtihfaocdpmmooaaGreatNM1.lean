
import Derived.Test.YtihfaocdpmmooaaGreatPl1
import Derived.Test.YtihfaocdpmmooaaGreatRkM
import Derived.Test.YtihfaocdpmmooaaGreatFn1
import Derived.Test.YtihfaocdpmmooaaGreatOM2
import Derived.Test.YtihfaocdpmmooaaGreatOM3
import Derived.Test.YtihfaocdpmmooaaGreatSxMe
namespace Go.Proofs.YtihfaocdpmmooaaGreat
abbrev A5 (l:List REnt):Int:=((l.map enE).length:Nat)
theorem Dn (l:List REnt):A5 l=(l.length:Nat):=congrArg Nat.cast (List.length_map ..)
structure RJ where
 is:Bool
 normal:Int
 l:List REnt
structure RPk where
 frm:Int
 to:Int
 body:ByteArray
structure PN where
 self:Nat
 many:Nat
 pmd:Int
 normal:Int
 log:List REnt
 cmt:Int
 lds:Bool
 std:Bool
 jns:Nat→RJ
 first:Int
 aks:Nat→Int
 hrd:Nat→Bool
 out:List RPk
 dead:Bool
 st:LD
def j0:RJ:=⟨false,0,[]⟩
def Ca (kind a b:Int)(s:ByteArray):ByteArray:=⟨(Xi [⟨1,kind,eS⟩,⟨2,a,eS⟩,⟨2,b,eS⟩,⟨3,0,s⟩]).toArray⟩
def Ct (p:Int × Int × List REnt)(r:ByteArray):Option (Int × Int × List REnt) :=
 if(Lz [1,2,2,3] r.data.toList).e≠0 then none else match(Lz [1,2,2,3] r.data.toList).l with
 | [k,a,b,s]=>if k.n=1 then some (a.n,p.2.1,p.2.2) else if k.n=2 then some (p.1,a.n,p.2.2) else if k.n=3 then some (p.1,p.2.1,p.2.2++[⟨a.n,b.n,s.s⟩]) else none
 | _=>none
def B3:List ByteArray→Int × Int × List REnt→Option (Int × Int × List REnt)
 | [],p=>some p
 | r::l,p=>match Ct p r with
  | none=>none
  | some p=>B3 l p
def Hn (self many:Nat)(p:Int × Int × List REnt)(st:LD):PN:=⟨self,many,p.1,p.2.1,p.2.2,0,false,false,fun _=>j0,0,fun _=>0,fun _=>false,[],false,st⟩
def My (d:RD)(self many:Int):Option PN :=
 if Ak many=0∨self < 0∨self ≥ many∨(d.now.length:Int) < 1100 then none else match Z1p d with
 | none=>none
 | some st=>match B3 st.all (0,0,[]) with
  | none=>none
  | some p=>if Bf p.2.2=true∧p.2.1≤p.1∧B6 p.2.2 p.2.1=true then some (Hn self.toNat many.toNat p st) else none
def Bl (n:PN):List ByteArray:=Ca 1 n.pmd 0 eS::Ca 2 n.normal 0 eS::n.log.map fun e=>Ca 3 e.v e.n e.b
def Dm (n:PN)(e:Int):PN:=if e≠0 then {n with dead:=true,out:=[]} else n
def Bj (n:PN)(r:ByteArray):PN :=
 if Fl n.st r=51 then Dm {n with st:=F5 (Ba n.st r) (Bl n)} (Jl (Ba n.st r) (Bl n))
 else if Fl n.st r≠0 then Dm {n with st:=Ba n.st r} (Fl n.st r)
 else Dm {n with st:=Ji (Ba n.st r)} (Om (Ba n.st r))
def Cg (n:PN)(r:ByteArray):Bool :=
 if Fl n.st r=51 then decide (Jl (Ba n.st r) (Bl n)=0)
 else if Fl n.st r≠0 then false
 else decide (Om (Ba n.st r)=0)
def Ar (n:PN)(to:Nat)(m:RM):PN:=if okM m=true then {n with out:=n.out++[⟨n.self,to,⟨(bM m).toArray⟩⟩]} else n
def Js (f:PN→Nat→PN)(n:PN)(i:Nat):PN:=(List.range i).foldl (fun n i=>if i=n.self then n else f n i) n
def Aq (n:PN)(m:RM):PN:=Js (fun n i=>Ar n i m) n n.many
def F7 (n:PN)(view:Int):PN:=Bj {n with pmd:=view,lds:=false,std:=false} (Ca 1 view 0 eS)
def Ix (n:PN)(view:Int):Bool:=Cg {n with pmd:=view,lds:=false,std:=false} (Ca 1 view 0 eS)
def Bh (n:PN)(view:Int)(l:List REnt):PN:={n with pmd:=view,normal:=view,log:=l,cmt:=min n.cmt (A5 l)}
def Ci (n:PN)(view:Int)(l:List REnt):PN:=Dm {Bh n view l with st:=F5 n.st (Bl (Bh n view l))} (Jl n.st (Bl (Bh n view l)))
def Df (n:PN)(view:Int)(l:List REnt):Bool:=decide (Jl n.st (Bl (Bh n view l))=0)
def Jp (n:PN)(e:REnt):PN:=Bj {n with log:=n.log++[e]} (Ca 3 e.v e.n e.b)
def Xf (n:PN)(e:REnt):Bool:=Cg {n with log:=n.log++[e]} (Ca 3 e.v e.n e.b)
def Bk (n:PN):List Int:=(List.range n.many).map n.aks
def Dg (n:PN):PN:=if Bw (Bk n) > n.cmt then Aq {n with cmt:=Bw (Bk n)} ⟨6,n.pmd,0,Bw (Bk n),[]⟩ else n
def jlN (n:PN)(i:Nat):List RJ:=((List.range i).map n.jns).filter RJ.is
def Bd (n:PN):List RJ:=jlN n n.many
def mkJ (j:RJ):Mk:=⟨j.normal,A5 j.l⟩
def Fr (n:PN):List REnt:=((Bd n)[(M1 ((Bd n).map mkJ)).toNat]?.getD j0).l
def Di (n:PN):PN:={n with std:=true,first:=A5 n.log,aks:=fun i=>if i=n.self then A5 n.log else 0,hrd:=fun _=>false}
def C2 (n:PN):PN :=
 if((Bd n).length:Int) < Ak n.many then n
 else if Df n n.pmd (Fr n)=true then Dg (Aq (Di (Ci n n.pmd (Fr n))) ⟨3,n.pmd,0,0,Fr n⟩)
 else Ci n n.pmd (Fr n)
def C5 (n:PN)(view:Int):PN × Bool :=
 if n.dead=true∨view≤n.pmd∨Ab view n.many≠n.self then(n,false)
 else if Ix n view=true then
  (C2 (Aq {F7 n view with lds:=true,jns:=fun i=>if i=n.self then⟨true,n.normal,n.log⟩ else j0} ⟨1,view,0,0,[]⟩),true)
 else(F7 n view,true)
def Br (n:PN)(s:ByteArray):PN × Bool :=
 if n.dead=true∨n.std=false∨n.log.length ≥ 150∨s.size > 200 then(n,false)
 else if Xf n ⟨n.pmd,A5 n.log+1,s⟩=true then
  (Dg (Aq {Jp n ⟨n.pmd,A5 n.log+1,s⟩ with aks:=fun i=>if i=n.self then A5 n.log+1 else n.aks i} ⟨4,n.pmd,0,A5 n.log+1 - 1,[⟨n.pmd,A5 n.log+1,s⟩]⟩),true)
 else(Jp n ⟨n.pmd,A5 n.log+1,s⟩,true)
def Eo (n:PN)(i:Nat):PN :=
 Ar (if n.hrd i=true then Ar n i ⟨4,n.pmd,0,n.aks i,n.log.drop (n.aks i).toNat⟩ else Ar n i ⟨3,n.pmd,0,0,n.log.take n.first.toNat⟩) i ⟨6,n.pmd,0,n.cmt,[]⟩
def En (n:PN)(i:Nat):PN:=if(n.jns i).is=true then n else Ar n i ⟨1,n.pmd,0,0,[]⟩
def Bm (n:PN):PN :=
 if n.dead=true∨n.lds=false then n
 else if n.std=true then Js Eo n n.many else Js En n n.many
def Az (n:PN)(frm:Nat)(m:RM):PN :=
 if n.lds=false∨n.pmd≠m.view then n
 else if m.kind=2∧n.std=false then
  C2 (if(n.jns frm).is=true then n else {n with jns:=fun i=>if i=frm then⟨true,m.normal,m.l⟩ else n.jns i})
 else if m.kind=5∧n.std=true∧m.num≤n.log.length then
  (fun n2:PN=>if m.num < n2.log.length then Ar n2 frm ⟨4,n2.pmd,0,m.num,n2.log.drop m.num.toNat⟩ else n2)
   (Dg {n with aks:=fun i=>if i=frm then max (n.aks frm) m.num else n.aks i,hrd:=fun i=>if i=frm then true else n.hrd i})
 else n
def An:List REnt→Int→PN→PN × Bool
 | [],_,n=>(n,true)
 | e::l,last,n =>
  if e.n > n.log.length+1 then(n,true)
  else if e.n≤n.log.length∨e.v < last then An l last n
  else if Xf n e=true then An l e.v (Jp n e) else(Jp n e,false)
def A4 (n:PN)(frm:Nat)(m:RM):PN :=
 if m.kind=1 then
  (if m.view > n.pmd then
   (if Ix n m.view=true then Ar (F7 n m.view) frm ⟨2,m.view,n.normal,0,n.log⟩ else F7 n m.view)
  else if m.view=n.pmd∧m.view > n.normal∧n.lds=false then Ar n frm ⟨2,m.view,n.normal,0,n.log⟩ else n)
 else if m.kind=3 then
  (if m.view ≥ n.pmd∧m.view > n.normal then
   (if Df {n with lds:=false,std:=false} m.view m.l=true then Ar (Ci {n with lds:=false,std:=false} m.view m.l) frm ⟨5,m.view,0,A5 m.l,[]⟩
    else Ci {n with lds:=false,std:=false} m.view m.l)
  else if m.view=n.pmd∧m.view=n.normal then Ar n frm ⟨5,m.view,0,A5 n.log,[]⟩ else n)
 else if m.kind=4 then
  (if n.pmd=m.view∧n.normal=m.view∧n.lds=false then
   (fun x:PN × Bool=>if x.2=true then Ar x.1 frm ⟨5,m.view,0,A5 x.1.log,[]⟩ else x.1) (An m.l (vw 1 n.log) n)
  else n)
 else if m.kind=6 then
  (if n.pmd=m.view∧n.normal=m.view∧n.lds=false then {n with cmt:=max n.cmt (min m.num (A5 n.log))} else n)
 else n
def D9 (n:PN)(p:RPk):PN :=
 if n.dead=true∨¬L0 p.body.data.toList∨p.to≠n.self∨p.frm=n.self∨p.frm < 0∨p.frm ≥ n.many then n
 else if(mD p.body.data.toList).kind=2∨(mD p.body.data.toList).kind=5 then Az n p.frm.toNat (mD p.body.data.toList)
 else if Ab (mD p.body.data.toList).view n.many≠p.frm then n
 else A4 n p.frm.toNat (mD p.body.data.toList)
end Go.Proofs.YtihfaocdpmmooaaGreat
namespace Go.Proofs.YtihfaocdpmmooaaGreat
open Go.RowKit
set_option maxRecDepth 100000
abbrev tNd:Nat:=118
abbrev tPk:Nat:=61
def pkG (p:RPk):List G:=[gI p.frm,gI p.to,.v (.string p.body)]
abbrev Ad (n:PN)(s l o:G):List G:=[gI n.self,gI n.many,s,gI n.pmd,gI n.normal,l,gI n.cmt,.v (.bool n.lds),.v (.bool n.std),.v (.bool (n.jns 0).is),gI (n.jns 0).normal,.sl ((n.jns 0).l.map enE),.v (.bool (n.jns 1).is),gI (n.jns 1).normal,.sl ((n.jns 1).l.map enE),.v (.bool (n.jns 2).is),gI (n.jns 2).normal,.sl ((n.jns 2).l.map enE),.v (.bool (n.jns 3).is),gI (n.jns 3).normal,.sl ((n.jns 3).l.map enE),.v (.bool (n.jns 4).is),gI (n.jns 4).normal,.sl ((n.jns 4).l.map enE),.v (.bool (n.jns 5).is),gI (n.jns 5).normal,.sl ((n.jns 5).l.map enE),.v (.bool (n.jns 6).is),gI (n.jns 6).normal,.sl ((n.jns 6).l.map enE),gI n.first,gI (n.aks 0),gI (n.aks 1),gI (n.aks 2),gI (n.aks 3),gI (n.aks 4),gI (n.aks 5),gI (n.aks 6),.v (.bool (n.hrd 0)),.v (.bool (n.hrd 1)),.v (.bool (n.hrd 2)),.v (.bool (n.hrd 3)),.v (.bool (n.hrd 4)),.v (.bool (n.hrd 5)),.v (.bool (n.hrd 6)),o,.v (.bool n.dead)]
abbrev oA (n:PN)(b e:Nat):List R:=[.blk (Ad n (.ptr 1 0) (.osl 2) (.osl 3)) tNd,.abs (cl (oLs n.st e)),.slc (n.log.map enE) tEn 3,.slc (n.out.map pkG) tPk 3,.adr 0 b]
abbrev oB (n:PN)(b e:Nat):List R:=[.blk (Ad n (.ptr 1 0) (.sl (n.log.map enE)) (.osl 3)) tNd,.abs (cl (oLs n.st e)),.gone,.slc (n.out.map pkG) tPk 3,.adr 0 b]
abbrev oAs (n:PN)(b e:Nat):Os:=Av (oA n b e) 0
abbrev oBs (n:PN)(b e:Nat):Os:=Av (oB n b e) 0
abbrev cA (n:PN)(b e:Nat):List R:=[.abs (cl (oAs n b e))]
abbrev cB (n:PN)(b e:Nat):List R:=[.abs (cl (oBs n b e))]
abbrev Z76 (n:PN)(l:G):List G:=[gI n.self,gI n.many,.ptr 1 0,gI n.pmd,gI n.normal,l,gI n.cmt,.v (.bool n.lds),.v (.bool n.std),.v (.bool (n.jns 0).is),gI (n.jns 0).normal,.sl ((n.jns 0).l.map enE),.v (.bool (n.jns 1).is),gI (n.jns 1).normal,.sl ((n.jns 1).l.map enE),.v (.bool (n.jns 2).is),gI (n.jns 2).normal,.sl ((n.jns 2).l.map enE),.v (.bool (n.jns 3).is),gI (n.jns 3).normal,.sl ((n.jns 3).l.map enE),.v (.bool (n.jns 4).is),gI (n.jns 4).normal,.sl ((n.jns 4).l.map enE),.v (.bool (n.jns 5).is),gI (n.jns 5).normal,.sl ((n.jns 5).l.map enE),.v (.bool (n.jns 6).is),gI (n.jns 6).normal,.sl ((n.jns 6).l.map enE),gI n.first,gI (n.aks 0),gI (n.aks 1),gI (n.aks 2),gI (n.aks 3),gI (n.aks 4),gI (n.aks 5),gI (n.aks 6),.v (.bool (n.hrd 0)),.v (.bool (n.hrd 1)),.v (.bool (n.hrd 2)),.v (.bool (n.hrd 3)),.v (.bool (n.hrd 4)),.v (.bool (n.hrd 5)),.v (.bool (n.hrd 6))]
theorem Z7f (l:List RFd):(Xi l).length≤1026 * l.length:=by
 unfold Xi
 split
 ·next h=>exact O8 (E6 h)
 ·exact Nat.zero_le _
theorem E5 (k a b:Int)(s:ByteArray):(Ca k a b s).size≤4104:=by
 have:=Z7f [⟨1,k,eS⟩,⟨2,a,eS⟩,⟨2,b,eS⟩,⟨3,0,s⟩]
 unfold Ca
 show(Xi _).toArray.size≤_
 rw[List.size_toArray]
 exact this
theorem De (k a b:Int)(s:ByteArray):FnV Tryz.prog 96 [gI k,gI a,gI b,.v (.string s)] fun g=>g=.v (.string (Ca k a b s)):=by
 refine fnG Tryz.func96 (by kernel_rfl) rfl (Nat.le_of_ble_eq_true (by kernel_rfl)) (by kernel_rfl) ?_
 refine(Sd _).cal fun q hq=>?_
 subst hq
 refine(Hj _).cal fun q hq=>?_
 subst hq
 refine(Hj _).cal fun q hq=>?_
 subst hq
 refine(Vo [⟨1,k,eS⟩,⟨2,a,eS⟩,⟨2,b,eS⟩,⟨3,0,s⟩] (show 4≤800000 by decide)).cal fun q rs hq=>?_
 obtain⟨rfl,rfl⟩:=hq
 refine⟨_,rfl,?_⟩
 exact rfl
theorem N2 (l:List REnt)(hl:l.length≤1000000):FnO Tryz.prog 63 [.sl (l.map enE)] [] fun g rs=>g=.osl 0∧rs=[.slc (l.map enE) tEn 3]:=by
 refine B9 Tryz.func63 (by kernel_rfl) rfl (Nat.le_of_ble_eq_true (by kernel_rfl)) (by kernel_rfl) (Qj _) ?_
 refine⟨fun b hb=>?_⟩
 refine EvIf.mk (fun h=>?_) fun h=>?_
 ·have e:l.map enE=[]:=Classical.byContradiction fun hne=>by rw[hb hne] at h;cases h
  exact G2 (k:=1) rfl e.symm
 ·refine⟨fun r hr=>?_,by simp;omega,?_⟩
  ·obtain⟨c,-,rfl⟩:=List.mem_map.1 hr
   exact⟨rfl,rfl⟩
  ·exact G2 (k:=2) rfl (List.nil_append _)
theorem Zbl (l:List REnt)(hl:l.length≤1000000):FnO Tryz.prog 63 [.osl 0] [.slc (l.map enE) tEn 3] fun g rs=>g=.osl 1∧rs=[.slc (l.map enE) tEn 3,.slc (l.map enE) tEn 3] :=
 FnO.peekN (N2 l hl) rfl fun r hr g hg=>by
  obtain⟨s,-,rfl⟩:=List.mem_map.1 hr
  unfold enE at hg
  simp only[List.mem_cons,List.not_mem_nil,or_false] at hg
  rcases hg with rfl | rfl | rfl<;>rfl
theorem Z9o (n:PN)(b e:Nat):FnO Tryz.prog 20 [.ptr 0 0] (cA n b e) fun g rs=>g=.tup [gI n.pmd,gI n.normal]∧rs=cA n b e:=by
 refine B9 Tryz.func20 (by kernel_rfl) rfl (Nat.le_of_ble_eq_true (by kernel_rfl)) (by kernel_rfl) (A6 (O:=oAs n b e) (n0:=5) rfl) ?_
 exact .inl (A1 (oAs n b e) [] (by exact RL5) rfl ⟨_,rfl⟩ rfl rfl ⟨rfl,rfl⟩)
theorem Yk (n:PN)(b e:Nat):FnO Tryz.prog 23 [.ptr 0 0] (cA n b e) fun g rs=>g=.v (.bool n.lds)∧rs=cA n b e:=by
 refine B9 Tryz.func23 (by kernel_rfl) rfl (Nat.le_of_ble_eq_true (by kernel_rfl)) (by kernel_rfl) (A6 (O:=oAs n b e) (n0:=5) rfl) ?_
 exact .inl (A1 (oAs n b e) [] (by exact RL5) rfl ⟨_,rfl⟩ rfl rfl ⟨rfl,rfl⟩)
theorem Nl (n:PN)(b e:Nat):FnO Tryz.prog 24 [.ptr 0 0] (cA n b e) fun g rs=>g=gI n.cmt∧rs=cA n b e:=by
 refine B9 Tryz.func24 (by kernel_rfl) rfl (Nat.le_of_ble_eq_true (by kernel_rfl)) (by kernel_rfl) (A6 (O:=oAs n b e) (n0:=5) rfl) ?_
 exact .inl (A1 (oAs n b e) [] (by exact RL5) rfl ⟨_,rfl⟩ rfl rfl ⟨rfl,rfl⟩)
theorem Zce (n:PN)(b e:Nat):FnO Tryz.prog 131 [.ptr 0 0,gI 0] (cA n b e) fun g rs=>g=.v (.bool true)∧rs=cA n b e:=by
 refine B9 Tryz.func131 (by kernel_rfl) rfl (Nat.le_of_ble_eq_true (by kernel_rfl)) (by kernel_rfl) (A6 (O:=oAs n b e) (n0:=5) rfl) ?_
 refine EvIf.bne (fun h=>absurd rfl h) fun _=>?_
 exact .inl (A1 (oAs n b e) [] (by exact RL5) rfl ⟨_,rfl⟩ rfl rfl ⟨rfl,rfl⟩)
theorem Zat (n:PN)(b e:Nat){er:Int}(he:er≠0):FnO Tryz.prog 131 [.ptr 0 0,gI er] (cA n b e) fun g rs=>g=.v (.bool false)∧rs=cA (Dm n er) b e:=by
 refine FnO.mono (Q:=fun g rs=>g=.v (.bool (er==0))∧rs=cA (Dm n er) b e) ?_ fun g rs h=>by rw[show(er==0)=false by simpa using he] at h;exact h
 refine B9 Tryz.func131 (by kernel_rfl) rfl (Nat.le_of_ble_eq_true (by kernel_rfl)) (by kernel_rfl) (A6 (O:=oAs n b e) (n0:=5) rfl) ?_
 refine EvIf.bne (fun _=>?_) fun h=>absurd h he
 have e1:Dm n er={n with dead:=true,out:=[]}:=by unfold Dm;rw[if_pos he]
 exact .gh (.nil 0 (Z76 n (.osl 2)) [.tt] tNd tPk 3 rfl (by decide) (.seen 0 _ _ rfl (.done (A1 (oAs {n with dead:=true,out:=[]} b e) [(1,1),(2,2),(3,5),(4,4)] (by exact RL5) rfl ⟨_,rfl⟩ rfl rfl ⟨rfl,by rw[e1]⟩))))
theorem Ze7 (n:PN)(b e:Nat):FnO Tryz.prog 25 [.ptr 0 0] (cA n b e) fun g rs=>g=.osl 1∧rs=[.abs (cl (oAs {n with out:=[]} b e)),.slc (n.out.map pkG) tPk 3]:=by
 refine B9 Tryz.func25 (by kernel_rfl) rfl (Nat.le_of_ble_eq_true (by kernel_rfl)) (by kernel_rfl) (A6 (O:=oAs n b e) (n0:=5) rfl) ?_
 exact .gh (.nil 0 (Z76 n (.osl 2)) [.v (.bool n.dead)] tNd tPk 3 rfl (by decide) (.done ⟨[⟨oAs {n with out:=[]} b e,[(1,1),(2,2),(3,6),(4,4)],true⟩,⟨[(0,.slc (n.out.map pkG) tPk 3)],[(0,3)],false⟩],.osl 1,⟨⟨⟨(by exact RL5),_,rfl⟩,⟨_,rfl,rfl,rfl⟩,trivial⟩,rfl,⟨_,rfl⟩,rfl,rfl,⟨rfl,rfl⟩⟩⟩))
theorem Zdd (n:PN)(b e:Nat)(hl:n.log.length≤1000000):FnO Tryz.prog 22 [.ptr 0 0] (cA n b e) fun g rs=>g=.osl 1∧rs=[.abs (cl (oAs n b e)),.slc (n.log.map enE) tEn 3]:=by
 refine B9 Tryz.func22 (by kernel_rfl) rfl (Nat.le_of_ble_eq_true (by kernel_rfl)) (by kernel_rfl) (A6 (O:=oAs n b e) (n0:=5) rfl) ?_
 refine EvCall.lend ((Zbl n.log hl).cal fun q rs hq=>?_)
 obtain⟨rfl,rfl⟩:=hq
 exact .inl ⟨[⟨oAs n b e,[],true⟩,⟨[(0,.slc (n.log.map enE) tEn 3)],[(0,6)],false⟩],.osl 1,⟨⟨⟨(by exact RL5),_,rfl⟩,⟨_,rfl,rfl,rfl⟩,trivial⟩,rfl,⟨_,rfl⟩,rfl,rfl,⟨rfl,rfl⟩⟩⟩
theorem Z9n (n:PN)(b e:Nat):FnO Tryz.prog 20 [.ptr 0 0] (cB n b e) fun g rs=>g=.tup [gI n.pmd,gI n.normal]∧rs=cB n b e:=by
 refine B9 Tryz.func20 (by kernel_rfl) rfl (Nat.le_of_ble_eq_true (by kernel_rfl)) (by kernel_rfl) (A6 (O:=oBs n b e) (n0:=5) rfl) ?_
 exact .inl (A1 (oBs n b e) [] (by exact RL5) rfl ⟨_,rfl⟩ rfl rfl ⟨rfl,rfl⟩)
theorem Z8g (n:PN)(b e:Nat):FnO Tryz.prog 23 [.ptr 0 0] (cB n b e) fun g rs=>g=.v (.bool n.lds)∧rs=cB n b e:=by
 refine B9 Tryz.func23 (by kernel_rfl) rfl (Nat.le_of_ble_eq_true (by kernel_rfl)) (by kernel_rfl) (A6 (O:=oBs n b e) (n0:=5) rfl) ?_
 exact .inl (A1 (oBs n b e) [] (by exact RL5) rfl ⟨_,rfl⟩ rfl rfl ⟨rfl,rfl⟩)
theorem Z4h (n:PN)(b e:Nat):FnO Tryz.prog 24 [.ptr 0 0] (cB n b e) fun g rs=>g=gI n.cmt∧rs=cB n b e:=by
 refine B9 Tryz.func24 (by kernel_rfl) rfl (Nat.le_of_ble_eq_true (by kernel_rfl)) (by kernel_rfl) (A6 (O:=oBs n b e) (n0:=5) rfl) ?_
 exact .inl (A1 (oBs n b e) [] (by exact RL5) rfl ⟨_,rfl⟩ rfl rfl ⟨rfl,rfl⟩)
theorem Zc6 (n:PN)(b e:Nat):FnO Tryz.prog 131 [.ptr 0 0,gI 0] (cB n b e) fun g rs=>g=.v (.bool true)∧rs=cB n b e:=by
 refine B9 Tryz.func131 (by kernel_rfl) rfl (Nat.le_of_ble_eq_true (by kernel_rfl)) (by kernel_rfl) (A6 (O:=oBs n b e) (n0:=5) rfl) ?_
 refine EvIf.bne (fun h=>absurd rfl h) fun _=>?_
 exact .inl (A1 (oBs n b e) [] (by exact RL5) rfl ⟨_,rfl⟩ rfl rfl ⟨rfl,rfl⟩)
theorem Zbk (n:PN)(b e:Nat){er:Int}(he:er≠0):FnO Tryz.prog 131 [.ptr 0 0,gI er] (cB n b e) fun g rs=>g=.v (.bool false)∧rs=cB (Dm n er) b e:=by
 refine FnO.mono (Q:=fun g rs=>g=.v (.bool (er==0))∧rs=cB (Dm n er) b e) ?_ fun g rs h=>by rw[show(er==0)=false by simpa using he] at h;exact h
 refine B9 Tryz.func131 (by kernel_rfl) rfl (Nat.le_of_ble_eq_true (by kernel_rfl)) (by kernel_rfl) (A6 (O:=oBs n b e) (n0:=5) rfl) ?_
 refine EvIf.bne (fun _=>?_) fun h=>absurd h he
 have e1:Dm n er={n with dead:=true,out:=[]}:=by unfold Dm;rw[if_pos he]
 exact .gh (.nil 0 (Z76 n (.sl (n.log.map enE))) [.tt] tNd tPk 3 rfl (by decide) (.seen 0 _ _ rfl (.done (A1 (oBs {n with dead:=true,out:=[]} b e) [(1,1),(2,2),(3,5),(4,4)] (by exact RL5) rfl ⟨_,rfl⟩ rfl rfl ⟨rfl,by rw[e1]⟩))))
theorem Zez (n:PN)(b e:Nat):FnO Tryz.prog 25 [.ptr 0 0] (cB n b e) fun g rs=>g=.osl 1∧rs=[.abs (cl (oBs {n with out:=[]} b e)),.slc (n.out.map pkG) tPk 3]:=by
 refine B9 Tryz.func25 (by kernel_rfl) rfl (Nat.le_of_ble_eq_true (by kernel_rfl)) (by kernel_rfl) (A6 (O:=oBs n b e) (n0:=5) rfl) ?_
 exact .gh (.nil 0 (Z76 n (.sl (n.log.map enE))) [.v (.bool n.dead)] tNd tPk 3 rfl (by decide) (.done ⟨[⟨oBs {n with out:=[]} b e,[(1,1),(2,2),(3,6),(4,4)],true⟩,⟨[(0,.slc (n.out.map pkG) tPk 3)],[(0,3)],false⟩],.osl 1,⟨⟨⟨(by exact RL5),_,rfl⟩,⟨_,rfl,rfl,rfl⟩,trivial⟩,rfl,⟨_,rfl⟩,rfl,rfl,⟨rfl,rfl⟩⟩⟩))
theorem Zf3 (n:PN)(b e:Nat)(hl:n.log.length≤1000000):FnO Tryz.prog 22 [.ptr 0 0] (cB n b e) fun g rs=>g=.osl 1∧rs=[.abs (cl (oBs n b e)),.slc (n.log.map enE) tEn 3]:=by
 refine B9 Tryz.func22 (by kernel_rfl) rfl (Nat.le_of_ble_eq_true (by kernel_rfl)) (by kernel_rfl) (A6 (O:=oBs n b e) (n0:=5) rfl) ?_
 refine(N2 n.log hl).cal fun q rs hq=>?_
 obtain⟨rfl,rfl⟩:=hq
 exact .inl ⟨[⟨oBs n b e,[],true⟩,⟨[(0,.slc (n.log.map enE) tEn 3)],[(0,6)],false⟩],.osl 1,⟨⟨⟨(by exact RL5),_,rfl⟩,⟨_,rfl,rfl,rfl⟩,trivial⟩,rfl,⟨_,rfl⟩,rfl,rfl,⟨rfl,rfl⟩⟩⟩
end Go.Proofs.YtihfaocdpmmooaaGreat
namespace Go.Proofs.YtihfaocdpmmooaaGreat
open Go.RowKit
set_option maxRecDepth 100000
abbrev cellsH (n:PN)(u:Nat→Value)(o:G):List G:=[gI n.self,gI n.many,.v (u 2),gI n.pmd,gI n.normal,.v (u 5),gI n.cmt,.v (.bool n.lds),.v (.bool n.std),.v (.bool (n.jns 0).is),gI (n.jns 0).normal,.v (u 11),.v (.bool (n.jns 1).is),gI (n.jns 1).normal,.v (u 14),.v (.bool (n.jns 2).is),gI (n.jns 2).normal,.v (u 17),.v (.bool (n.jns 3).is),gI (n.jns 3).normal,.v (u 20),.v (.bool (n.jns 4).is),gI (n.jns 4).normal,.v (u 23),.v (.bool (n.jns 5).is),gI (n.jns 5).normal,.v (u 26),.v (.bool (n.jns 6).is),gI (n.jns 6).normal,.v (u 29),gI n.first,gI (n.aks 0),gI (n.aks 1),gI (n.aks 2),gI (n.aks 3),gI (n.aks 4),gI (n.aks 5),gI (n.aks 6),.v (.bool (n.hrd 0)),.v (.bool (n.hrd 1)),.v (.bool (n.hrd 2)),.v (.bool (n.hrd 3)),.v (.bool (n.hrd 4)),.v (.bool (n.hrd 5)),.v (.bool (n.hrd 6)),o,.v (.bool n.dead)]
abbrev Zg7 (n:PN)(u:Nat→Value):List G:=[gI n.self,gI n.many,.v (u 2),gI n.pmd,gI n.normal,.v (u 5),gI n.cmt,.v (.bool n.lds),.v (.bool n.std),.v (.bool (n.jns 0).is),gI (n.jns 0).normal,.v (u 11),.v (.bool (n.jns 1).is),gI (n.jns 1).normal,.v (u 14),.v (.bool (n.jns 2).is),gI (n.jns 2).normal,.v (u 17),.v (.bool (n.jns 3).is),gI (n.jns 3).normal,.v (u 20),.v (.bool (n.jns 4).is),gI (n.jns 4).normal,.v (u 23),.v (.bool (n.jns 5).is),gI (n.jns 5).normal,.v (u 26),.v (.bool (n.jns 6).is),gI (n.jns 6).normal,.v (u 29),gI n.first,gI (n.aks 0),gI (n.aks 1),gI (n.aks 2),gI (n.aks 3),gI (n.aks 4),gI (n.aks 5),gI (n.aks 6),.v (.bool (n.hrd 0)),.v (.bool (n.hrd 1)),.v (.bool (n.hrd 2)),.v (.bool (n.hrd 3)),.v (.bool (n.hrd 4)),.v (.bool (n.hrd 5)),.v (.bool (n.hrd 6))]
abbrev hN (n:PN)(u:Nat→Value):List R:=[.blk (cellsH n u (.osl 1)) tNd,.slc (n.out.map pkG) tPk 3]
theorem Ti (n:PN)(u:Nat→Value)(to:Nat)(m:RM)(hm:m.l.length≤1000000)(ho:n.out.length≤1000000):FnO Tryz.prog 99 [.ptr 0 0,gI to,.agg (enM m)] (hN n u) fun g rs=>g=.tup []∧rs=[.blk (cellsH (Ar n to m) u (.osl 2)) tNd,.gone,.slc ((Ar n to m).out.map pkG) tPk 3]:=by
 refine B9 Tryz.func99 (by kernel_rfl) rfl (Nat.le_of_ble_eq_true (by kernel_rfl)) (by kernel_rfl) (Bp _ _) ?_
 refine(Yg m hm).cal fun q hq=>?_
 subst hq
 unfold wrM
 refine EvIf.beq (fun h=>?_) fun h=>?_
 ·have hk:okM m=true:=by
   unfold eM at h
   split at h
   ·assumption
   ·cases h
  have e1:Ar n to m={n with out:=n.out++[⟨n.self,to,⟨(bM m).toArray⟩⟩]}:=by unfold Ar;rw[if_pos hk]
  have e2:(Ar n to m).out.map pkG=n.out.map pkG++[[gI n.self,gI to,.v (.string ⟨(bM m).toArray⟩)]]:=by rw[e1];exact List.map_append
  rw[e2,e1]
  refine⟨by simp;omega,?_⟩
  exact .inl ⟨[⟨[(0,.blk (cellsH n u (.osl 2)) tNd)],[(0,0)],false⟩,⟨[(0,.gone)],[(0,1)],false⟩,⟨[(0,.slc (n.out.map pkG++[[gI n.self,gI to,.v (.string ⟨(bM m).toArray⟩)]]) tPk 3)],[(0,4)],false⟩],.tup [],⟨⟨⟨_,rfl,rfl,rfl⟩,⟨_,rfl,rfl,rfl⟩,⟨_,rfl,rfl,rfl⟩,trivial⟩,rfl,⟨_,rfl⟩,rfl,rfl,⟨rfl,rfl⟩⟩⟩
 ·have e1:Ar n to m=n:=by
   unfold eM at h
   split at h
   ·exact absurd rfl h
   ·unfold Ar;rw[if_neg (by assumption)]
  rw[e1]
  exact .gh (.rnm 0 1 (Zg7 n u) [.v (.bool n.dead)] tNd _ tPk 3 rfl rfl (.done ⟨[⟨[(0,.blk (cellsH n u (.osl 2)) tNd)],[(0,0)],false⟩,⟨[(0,.gone)],[(0,1)],false⟩,⟨[(0,.slc (n.out.map pkG) tPk 3)],[(0,3)],false⟩],.tup [],⟨⟨⟨_,rfl,rfl,rfl⟩,⟨_,rfl,rfl,rfl⟩,⟨_,rfl,rfl,rfl⟩,trivial⟩,rfl,⟨_,rfl⟩,rfl,rfl,⟨rfl,rfl⟩⟩⟩))
theorem F3 (f:PN→Nat→PN)(n:PN)(i:Nat):Js f n (i+1)=if i=(Js f n i).self then Js f n i else f (Js f n i) i:=by unfold Js;rw[List.range_succ,List.foldl_append];rfl
def SameN (n n':PN):Prop:={n' with out:=n.out}=n
theorem SameN.refl (n:PN):SameN n n:=rfl
theorem SameN.to {n n':PN}(h:SameN n n'):∃o,n'={n with out:=o}:=⟨n'.out,by cases n;cases n';unfold SameN at h;cases h;rfl⟩
theorem SameN.trans {n n' n2:PN}(h:SameN n n')(h2:SameN n' n2):SameN n n2:=by
 obtain⟨o,rfl⟩:=h.to
 obtain⟨o2,rfl⟩:=h2.to
 rfl
theorem A8 (n:PN)(to:Nat)(m:RM):SameN n (Ar n to m):=by unfold Ar SameN;split<;>rfl
theorem D1 (n:PN)(to:Nat)(m:RM):(Ar n to m).out.length≤n.out.length+1:=by unfold Ar;split<;>simp
abbrev tNp:Nat:=40
abbrev tMg:Nat:=29
theorem Yv (n:PN)(u:Nat→Value)(i:Nat)(m:RM)(hm:m.l.length≤1000000)(ho:n.out.length≤1000000):FnO Tryz.prog 98 [gI i,.ptr 0 0,.ptr 1 0] [.blk [.ptr 2 0] tNp,.blk (enM m) tMg,.blk (cellsH n u (.osl 3)) tNd,.slc (n.out.map pkG) tPk 3] fun g rs=>g=.tup []∧rs=[.blk [.ptr 2 0] tNp,.blk (enM m) tMg,.blk (cellsH (Ar n i m) u (.osl 4)) tNd,.gone,.slc ((Ar n i m).out.map pkG) tPk 3]:=by
 refine B9 Tryz.func98 (by kernel_rfl) rfl (Nat.le_of_ble_eq_true (by kernel_rfl)) (by kernel_rfl) (Bp _ _) ?_
 refine EvCall.lend ((Ti n u i m hm ho).cal fun q rs hq=>?_)
 obtain⟨rfl,rfl⟩:=hq
 exact .inl ⟨[⟨[(0,.blk [.ptr 2 0] tNp)],[(0,0)],false⟩,⟨[(0,.blk (enM m) tMg)],[(0,1)],false⟩,⟨[(0,.blk (cellsH (Ar n i m) u (.osl 4)) tNd)],[(0,2)],false⟩,⟨[(0,.gone)],[(0,3)],false⟩,⟨[(0,.slc ((Ar n i m).out.map pkG) tPk 3)],[(0,4)],false⟩],.tup [],⟨⟨⟨_,rfl,rfl,rfl⟩,⟨_,rfl,rfl,rfl⟩,⟨_,rfl,rfl,rfl⟩,⟨_,rfl,rfl,rfl⟩,⟨_,rfl,rfl,rfl⟩,trivial⟩,rfl,⟨_,rfl⟩,rfl,rfl,⟨rfl,rfl⟩⟩⟩
theorem Z4m (n:PN)(u:Nat→Value)(m:RM)(hm:m.l.length≤1000000)(hk:n.many≤100)(ho:n.out.length≤900000):FnO Tryz.prog 97 [.ptr 0 0,.clo 98 [] [.ptr 1 0,.ptr 2 0]] [.blk (cellsH n u (.osl 3)) tNd,.blk [.ptr 0 0] tNp,.blk (enM m) tMg,.slc (n.out.map pkG) tPk 3] fun g rs=>g=.tup []∧rs=[.blk (cellsH (Js (fun n i=>Ar n i m) n n.many) u (.osl 4)) tNd,.blk [.ptr 0 0] tNp,.blk (enM m) tMg,.gone,.slc ((Js (fun n i=>Ar n i m) n n.many).out.map pkG) tPk 3]:=by
 refine B9 Tryz.func97 (by kernel_rfl) rfl (Nat.le_of_ble_eq_true (by kernel_rfl)) (by kernel_rfl) (Bp _ _) ?_
 refine Cj [0,1,8] [1,2] (fun x:Nat × PN=>[(9,gI x.1)]) (fun x=>[(0,.blk (cellsH x.2 u (.osl 3)) tNd),(3,.slc (x.2.out.map pkG) tPk 3)]) (fun x=>x.1≤n.many∧x.2=Js (fun n i=>Ar n i m) n x.1∧SameN n x.2∧x.2.out.length≤n.out.length+x.1) (fun x=>n.many - x.1) (0,n) ⟨Nat.zero_le _,rfl,rfl,Nat.le_refl _⟩ ⟨⟨rfl,rfl⟩,trivial⟩ (by exact RL2) rfl fun⟨i,n'⟩ hI=>?_
 obtain⟨hi,hn,hs,hl⟩:=hI
 dsimp only at hi hn hs hl
 refine EvIf.dec (fun hlt=>?_) fun hge=>?_
 ·have hlt:i < n.many:=by omega
  have hst:=F3 (fun n i=>Ar n i m) n i
  rw[←hn] at hst
  refine EvIf.bne (fun hne=>?_) fun heq=>?_
  ·have hne:i≠n'.self:=fun e=>hne (by rw[e])
   rw[if_neg hne] at hst
   refine EvCall.lend ((Yv n' u i m hm (by omega)).cal fun q rs hq=>?_)
   obtain⟨rfl,rfl⟩:=hq
   refine⟨by omega,.done ⟨(i+1,Ar n' i m),[(3,4)],⟨hlt,hst.symm,hs.trans (A8 _ _ _),by have:=D1 n' i m;dsimp only;omega⟩,(by dsimp only;omega),?_⟩⟩
   refine⟨?_,?_,rfl⟩<;>repeat' (first | exact True.intro | with_reducible rfl | exact rfl | refine And.intro ?_ ?_)
  ·have heq:i=n'.self:=by have:((i:Nat):Int)=(n'.self:Nat):=heq;omega
   rw[if_pos heq] at hst
   refine⟨by omega,.done ⟨(i+1,n'),[],⟨hlt,hst.symm,hs,by dsimp only;omega⟩,(by dsimp only;omega),?_⟩⟩
   refine⟨?_,?_,rfl⟩<;>repeat' (first | exact True.intro | with_reducible rfl | exact rfl | refine And.intro ?_ ?_)
 ·have:i=n.many:=by omega
  subst this
  rw[←hn]
  conv=>whnf
  refine Gh.done ?_
  exact .gh (.rnm 0 3 (Zg7 n' u) [.v (.bool n'.dead)] tNd _ tPk 3 rfl rfl (.done ⟨[⟨[(0,.blk (cellsH n' u (.osl 4)) tNd)],[(0,0)],false⟩,⟨[(0,.blk [.ptr 0 0] tNp)],[(0,1)],false⟩,⟨[(0,.blk (enM m) tMg)],[(0,2)],false⟩,⟨[(0,.gone)],[(0,3)],false⟩,⟨[(0,.slc (n'.out.map pkG) tPk 3)],[(0,4)],false⟩],.tup [],⟨⟨⟨_,rfl,rfl,rfl⟩,⟨_,rfl,rfl,rfl⟩,⟨_,rfl,rfl,rfl⟩,⟨_,rfl,rfl,rfl⟩,⟨_,rfl,rfl,rfl⟩,trivial⟩,rfl,⟨_,rfl⟩,rfl,rfl,⟨rfl,rfl⟩⟩⟩))
theorem Oi (n:PN)(u:Nat→Value)(m:RM)(hm:m.l.length≤1000000)(hk:n.many≤100)(ho:n.out.length≤900000):FnO Tryz.prog 66 [.ptr 0 0,.agg (enM m)] (hN n u) fun g rs=>g=.tup []∧rs=[.blk (cellsH (Aq n m) u (.osl 2)) tNd,.gone,.slc ((Aq n m).out.map pkG) tPk 3]:=by
 refine B9 Tryz.func66 (by kernel_rfl) rfl (Nat.le_of_ble_eq_true (by kernel_rfl)) (by kernel_rfl) (Bp _ _) ?_
 refine EvCall.lend ((Z4m n u m hm hk ho).cal fun q rs hq=>?_)
 obtain⟨rfl,rfl⟩:=hq
 exact .inl ⟨[⟨[(0,.blk (cellsH (Aq n m) u (.osl 2)) tNd)],[(0,0)],false⟩,⟨[(0,.gone)],[(0,1)],false⟩,⟨[(0,.slc ((Aq n m).out.map pkG) tPk 3)],[(0,4)],false⟩],.tup [],⟨⟨⟨_,rfl,rfl,rfl⟩,⟨_,rfl,rfl,rfl⟩,⟨_,rfl,rfl,rfl⟩,trivial⟩,rfl,⟨_,rfl⟩,rfl,rfl,⟨rfl,rfl⟩⟩⟩
end Go.Proofs.YtihfaocdpmmooaaGreat
namespace Go.Proofs.YtihfaocdpmmooaaGreat
open Go.RowKit
set_option maxRecDepth 100000
theorem Za4 (l:List RPk):∀r∈l.map pkG,∀g∈r,Fn g=true:=fun r hr g hg=>by
 obtain⟨p,-,rfl⟩:=List.mem_map.1 hr
 unfold pkG at hg
 simp only[List.mem_cons,List.not_mem_nil,or_false] at hg
 rcases hg with rfl | rfl | rfl<;>rfl
theorem Vq (n:PN)(f:PN→Nat→PN)(h:∀n i,SameN n (f n i))(k:Nat):SameN n (Js f n k):=by
 induction k with
 | zero=>exact .refl n
 | succ k ih =>
  rw[F3]
  split
  ·exact ih
  ·exact ih.trans (h _ _)
theorem A2 (n:PN)(m:RM):SameN n (Aq n m):=Vq n _ (fun n i=>A8 n i m) _
theorem SameN.cells {n n':PN}(h:SameN n n')(s l o:G):Ad n' s l o=Ad n s l o:=by
 obtain⟨x,rfl⟩:=h.to
 rfl
theorem SameN.cellsH {n n':PN}(h:SameN n n')(u:Nat→Value)(o:G):cellsH n' u o=Go.Proofs.YtihfaocdpmmooaaGreat.cellsH n u o:=by
 obtain⟨x,rfl⟩:=h.to
 rfl
theorem Z6z (n:PN):KeepS 3 4 (Ad n (.ptr 1 0) (.osl 2) (.osl 3)) (Ad n (.ptr 1 0) (.osl 2) (.osl 4)):=⟨.inl rfl,.inl rfl,.inr (.inr ⟨rfl,nofun⟩),.inl rfl,.inl rfl,.inr (.inr ⟨rfl,fun h=>by injection h with h;exact absurd h (by decide)⟩),.inl rfl,.inl rfl,.inl rfl,.inl rfl,.inl rfl,.inr (.inr ⟨rfl,nofun⟩),.inl rfl,.inl rfl,.inr (.inr ⟨rfl,nofun⟩),.inl rfl,.inl rfl,.inr (.inr ⟨rfl,nofun⟩),.inl rfl,.inl rfl,.inr (.inr ⟨rfl,nofun⟩),.inl rfl,.inl rfl,.inr (.inr ⟨rfl,nofun⟩),.inl rfl,.inl rfl,.inr (.inr ⟨rfl,nofun⟩),.inl rfl,.inl rfl,.inr (.inr ⟨rfl,nofun⟩),.inl rfl,.inl rfl,.inl rfl,.inl rfl,.inl rfl,.inl rfl,.inl rfl,.inl rfl,.inl rfl,.inl rfl,.inl rfl,.inl rfl,.inl rfl,.inl rfl,.inl rfl,.inr (.inl rfl),.inl rfl,trivial⟩
theorem Z7d (n:PN)(r:List (List G)):KeepS 2 3 (Ad n (.ptr 1 0) (.sl r) (.osl 2)) (Ad n (.ptr 1 0) (.sl r) (.osl 3)):=⟨.inl rfl,.inl rfl,.inr (.inr ⟨rfl,nofun⟩),.inl rfl,.inl rfl,.inr (.inr ⟨rfl,nofun⟩),.inl rfl,.inl rfl,.inl rfl,.inl rfl,.inl rfl,.inr (.inr ⟨rfl,nofun⟩),.inl rfl,.inl rfl,.inr (.inr ⟨rfl,nofun⟩),.inl rfl,.inl rfl,.inr (.inr ⟨rfl,nofun⟩),.inl rfl,.inl rfl,.inr (.inr ⟨rfl,nofun⟩),.inl rfl,.inl rfl,.inr (.inr ⟨rfl,nofun⟩),.inl rfl,.inl rfl,.inr (.inr ⟨rfl,nofun⟩),.inl rfl,.inl rfl,.inr (.inr ⟨rfl,nofun⟩),.inl rfl,.inl rfl,.inl rfl,.inl rfl,.inl rfl,.inl rfl,.inl rfl,.inl rfl,.inl rfl,.inl rfl,.inl rfl,.inl rfl,.inl rfl,.inl rfl,.inl rfl,.inr (.inl rfl),.inl rfl,trivial⟩
theorem Z6a (n:PN):KeepS 3 4 (Ad n (.ptr 2 0) (.osl 1) (.osl 3)) (Ad n (.ptr 2 0) (.osl 1) (.osl 4)):=⟨.inl rfl,.inl rfl,.inr (.inr ⟨rfl,nofun⟩),.inl rfl,.inl rfl,.inr (.inr ⟨rfl,fun h=>by injection h with h;exact absurd h (by decide)⟩),.inl rfl,.inl rfl,.inl rfl,.inl rfl,.inl rfl,.inr (.inr ⟨rfl,nofun⟩),.inl rfl,.inl rfl,.inr (.inr ⟨rfl,nofun⟩),.inl rfl,.inl rfl,.inr (.inr ⟨rfl,nofun⟩),.inl rfl,.inl rfl,.inr (.inr ⟨rfl,nofun⟩),.inl rfl,.inl rfl,.inr (.inr ⟨rfl,nofun⟩),.inl rfl,.inl rfl,.inr (.inr ⟨rfl,nofun⟩),.inl rfl,.inl rfl,.inr (.inr ⟨rfl,nofun⟩),.inl rfl,.inl rfl,.inl rfl,.inl rfl,.inl rfl,.inl rfl,.inl rfl,.inl rfl,.inl rfl,.inl rfl,.inl rfl,.inl rfl,.inl rfl,.inl rfl,.inl rfl,.inr (.inl rfl),.inl rfl,trivial⟩
theorem Ls (n:PN)(p:Ob)(to:Nat)(m:RM)(hm:m.l.length≤1000000)(ho:n.out.length≤1000000):FnO Tryz.prog 99 [.ptr 0 0,gI to,.agg (enM m)] [.blk (Ad n (.ptr 1 0) (.osl 2) (.osl 3)) tNd,.abs p,.slc (n.log.map enE) tEn 3,.slc (n.out.map pkG) tPk 3] fun g rs=>g=.tup []∧rs=[.blk (Ad (Ar n to m) (.ptr 1 0) (.osl 2) (.osl 4)) tNd,.abs p,.slc (n.log.map enE) tEn 3,.gone,.slc ((Ar n to m).out.map pkG) tPk 3]:=by
 rw[(A8 n to m).cells]
 exact FnO.peekZ (rest:=[.abs p,.slc (n.log.map enE) tEn 3,.slc (n.out.map pkG) tPk 3]) (jo:=3) rfl (Z6z n) rfl rfl (Za4 _) fun u=>by
  have:=Ti n u to m hm ho
  rw[(A8 n to m).cellsH] at this
  exact this
theorem Vd (n:PN)(p:Ob)(to:Nat)(m:RM)(hm:m.l.length≤1000000)(ho:n.out.length≤1000000):FnO Tryz.prog 99 [.ptr 0 0,gI to,.agg (enM m)] [.blk (Ad n (.ptr 1 0) (.sl (n.log.map enE)) (.osl 2)) tNd,.abs p,.slc (n.out.map pkG) tPk 3] fun g rs=>g=.tup []∧rs=[.blk (Ad (Ar n to m) (.ptr 1 0) (.sl (n.log.map enE)) (.osl 3)) tNd,.abs p,.gone,.slc ((Ar n to m).out.map pkG) tPk 3]:=by
 rw[(A8 n to m).cells]
 exact FnO.peekZ (rest:=[.abs p,.slc (n.out.map pkG) tPk 3]) (jo:=2) rfl (Z7d n _) rfl rfl (Za4 _) fun u=>by
  have:=Ti n u to m hm ho
  rw[(A8 n to m).cellsH] at this
  exact this
theorem Ef (n:PN)(p:Ob)(m:RM)(hm:m.l.length≤1000000)(hk:n.many≤100)(ho:n.out.length≤900000):FnO Tryz.prog 66 [.ptr 0 0,.agg (enM m)] [.blk (Ad n (.ptr 1 0) (.osl 2) (.osl 3)) tNd,.abs p,.slc (n.log.map enE) tEn 3,.slc (n.out.map pkG) tPk 3] fun g rs=>g=.tup []∧rs=[.blk (Ad (Aq n m) (.ptr 1 0) (.osl 2) (.osl 4)) tNd,.abs p,.slc (n.log.map enE) tEn 3,.gone,.slc ((Aq n m).out.map pkG) tPk 3]:=by
 rw[(A2 n m).cells]
 exact FnO.peekZ (rest:=[.abs p,.slc (n.log.map enE) tEn 3,.slc (n.out.map pkG) tPk 3]) (jo:=3) rfl (Z6z n) rfl rfl (Za4 _) fun u=>by
  have:=Oi n u m hm hk ho
  rw[(A2 n m).cellsH] at this
  exact this
theorem C1 (n:PN)(p:Ob)(m:RM)(hm:m.l.length≤1000000)(hk:n.many≤100)(ho:n.out.length≤900000):FnO Tryz.prog 66 [.ptr 0 0,.agg (enM m)] [.blk (Ad n (.ptr 1 0) (.sl (n.log.map enE)) (.osl 2)) tNd,.abs p,.slc (n.out.map pkG) tPk 3] fun g rs=>g=.tup []∧rs=[.blk (Ad (Aq n m) (.ptr 1 0) (.sl (n.log.map enE)) (.osl 3)) tNd,.abs p,.gone,.slc ((Aq n m).out.map pkG) tPk 3]:=by
 rw[(A2 n m).cells]
 exact FnO.peekZ (rest:=[.abs p,.slc (n.out.map pkG) tPk 3]) (jo:=2) rfl (Z7d n _) rfl rfl (Za4 _) fun u=>by
  have:=Oi n u m hm hk ho
  rw[(A2 n m).cellsH] at this
  exact this
theorem Gv (n:PN)(p:Ob)(to:Nat)(m:RM)(q:G)(hq:Ys ((1,.froz (n.log.map enE) 3)::Av [.blk (Ad n (.ptr 2 0) (.osl 1) (.osl 3)) tNd,.slc (n.log.map enE) tEn 3,.abs p,.slc (n.out.map pkG) tPk 3] 0) q=.agg (enM m))(hm:m.l.length≤1000000)(ho:n.out.length≤1000000):FnO Tryz.prog 99 [.ptr 0 0,gI to,q] [.blk (Ad n (.ptr 2 0) (.osl 1) (.osl 3)) tNd,.slc (n.log.map enE) tEn 3,.abs p,.slc (n.out.map pkG) tPk 3] fun g rs=>g=.tup []∧rs=[.blk (Ad (Ar n to m) (.ptr 2 0) (.osl 1) (.osl 4)) tNd,.slc (n.log.map enE) tEn 3,.abs p,.gone,.slc ((Ar n to m).out.map pkG) tPk 3]:=by
 rw[(A8 n to m).cells]
 exact FnO.peekF (rest:=[.slc (n.log.map enE) tEn 3,.abs p,.slc (n.out.map pkG) tPk 3]) (jo:=3) (js:=1) (gs':=[gI to,.agg (enM m)]) rfl rfl (by decide) (Z6a n) (by rw[←hq];rfl) rfl (Za4 _) fun u=>by
  have:=Ti n u to m hm ho
  rw[(A8 n to m).cellsH] at this
  exact this
theorem Fg (n:PN)(p:Ob)(m:RM)(q:G)(hq:Ys ((1,.froz (n.log.map enE) 3)::Av [.blk (Ad n (.ptr 2 0) (.osl 1) (.osl 3)) tNd,.slc (n.log.map enE) tEn 3,.abs p,.slc (n.out.map pkG) tPk 3] 0) q=.agg (enM m))(hm:m.l.length≤1000000)(hk:n.many≤100)(ho:n.out.length≤900000):FnO Tryz.prog 66 [.ptr 0 0,q] [.blk (Ad n (.ptr 2 0) (.osl 1) (.osl 3)) tNd,.slc (n.log.map enE) tEn 3,.abs p,.slc (n.out.map pkG) tPk 3] fun g rs=>g=.tup []∧rs=[.blk (Ad (Aq n m) (.ptr 2 0) (.osl 1) (.osl 4)) tNd,.slc (n.log.map enE) tEn 3,.abs p,.gone,.slc ((Aq n m).out.map pkG) tPk 3]:=by
 rw[(A2 n m).cells]
 exact FnO.peekF (rest:=[.slc (n.log.map enE) tEn 3,.abs p,.slc (n.out.map pkG) tPk 3]) (jo:=3) (js:=1) (gs':=[.agg (enM m)]) rfl rfl (by decide) (Z6a n) (by rw[←hq];rfl) rfl (Za4 _) fun u=>by
  have:=Oi n u m hm hk ho
  rw[(A2 n m).cellsH] at this
  exact this
end Go.Proofs.YtihfaocdpmmooaaGreat
namespace Go.Proofs.YtihfaocdpmmooaaGreat
open Go.RowKit
set_option maxRecDepth 100000
theorem Pi {n:PN}{i:Nat}{e:REnt}(h:n.log[i]?=some e):(Ca 1 n.pmd 0 eS::Ca 2 n.normal 0 eS::(n.log.take i).map fun e=>Ca 3 e.v e.n e.b)++[Ca 3 e.v e.n e.b]=Ca 1 n.pmd 0 eS::Ca 2 n.normal 0 eS::(n.log.take (i+1)).map fun e=>Ca 3 e.v e.n e.b:=by
 rw[Cv h,List.map_append];rfl
abbrev tSg:Nat:=9
def Z2d (n:PN)(i:Nat):List ByteArray:=Ca 1 n.pmd 0 eS::Ca 2 n.normal 0 eS::(n.log.take i).map fun e=>Ca 3 e.v e.n e.b
abbrev Za9 (n:PN)(o:G):List G:=[gI n.cmt,.v (.bool n.lds),.v (.bool n.std),.v (.bool (n.jns 0).is),gI (n.jns 0).normal,.sl ((n.jns 0).l.map enE),.v (.bool (n.jns 1).is),gI (n.jns 1).normal,.sl ((n.jns 1).l.map enE),.v (.bool (n.jns 2).is),gI (n.jns 2).normal,.sl ((n.jns 2).l.map enE),.v (.bool (n.jns 3).is),gI (n.jns 3).normal,.sl ((n.jns 3).l.map enE),.v (.bool (n.jns 4).is),gI (n.jns 4).normal,.sl ((n.jns 4).l.map enE),.v (.bool (n.jns 5).is),gI (n.jns 5).normal,.sl ((n.jns 5).l.map enE),.v (.bool (n.jns 6).is),gI (n.jns 6).normal,.sl ((n.jns 6).l.map enE),gI n.first,gI (n.aks 0),gI (n.aks 1),gI (n.aks 2),gI (n.aks 3),gI (n.aks 4),gI (n.aks 5),gI (n.aks 6),.v (.bool (n.hrd 0)),.v (.bool (n.hrd 1)),.v (.bool (n.hrd 2)),.v (.bool (n.hrd 3)),.v (.bool (n.hrd 4)),.v (.bool (n.hrd 5)),.v (.bool (n.hrd 6)),o,.v (.bool n.dead)]
theorem Z5g (n:PN)(p:Ob)(hl:n.log.length≤1000000):FnO Tryz.prog 133 [.ptr 0 0] [.blk (Ad n (.ptr 1 0) (.osl 2) (.osl 3)) tNd,.abs p,.slc (n.log.map enE) tEn 3,.slc (n.out.map pkG) tPk 3] fun g rs=>g=.osl 6∧rs=[.blk (Ad n (.ptr 1 0) (.osl 4) (.osl 5)) tNd,.abs p,.gone,.gone,.slc (n.log.map enE) tEn 3,.slc (n.out.map pkG) tPk 3,.slc ((Bl n).map gSt) tSg 1]:=by
 refine B9 Tryz.func133 (by kernel_rfl) rfl (Nat.le_of_ble_eq_true (by kernel_rfl)) (by kernel_rfl) (Bp _ _) ?_
 refine(De _ _ _ _).cal fun q hq=>?_
 subst hq
 refine(De _ _ _ _).cal fun q hq=>?_
 subst hq
 refine Bq [20,21] [0,1,2,3] (fun i:Nat=>[(22,gI i),(3,.osl 5)]) (fun i=>[(5,.slc ((Z2d n i).map gSt) tSg 1)]) (fun i=>i≤n.log.length) (fun i=>n.log.length - i) 0 (Nat.zero_le _) ⟨⟨rfl,rfl⟩,⟨rfl,rfl⟩,trivial⟩ ⟨⟨rfl,rfl,eqR (by rfl)⟩,trivial⟩ rfl fun i hi=>?_
 refine EvIf.dec (fun h=>?_) fun h=>?_
 ·rw[List.length_map] at h
  obtain⟨c,hc⟩:∃c,n.log[i]?=some c:=⟨_,List.getElem?_eq_getElem (by omega)⟩
  refine⟨⟨by omega,by rw[List.length_map];omega⟩,?_⟩
  refine EvIdx.at hc ?_
  have hlt:=Dt hc
  refine(De _ _ _ _).cal fun q hq=>?_
  subst hq
  refine⟨by unfold Z2d;simp;omega,?_⟩
  refine⟨by omega,i+1,hlt,(by dsimp only;omega),?_⟩
  refine⟨?_,?_,rfl⟩<;>repeat' (first | exact True.intro | with_reducible rfl | exact rfl | refine And.intro ?_ ?_)
  exact eqR (by unfold Z2d;rw[←Pi hc];simp;rfl)
 ·have hi2:i=n.log.length:=by rw[List.length_map] at h;omega
  subst hi2
  have e1:Z2d n n.log.length=Bl n:=by unfold Z2d Bl;rw[List.take_length]
  rw[e1]
  exact .gh (.rnm 0 2 [gI n.self,gI n.many,.ptr 1 0,gI n.pmd,gI n.normal] (Za9 n (.osl 3)) tNd _ tEn 3 rfl rfl (.rnm 0 3 (Z76 n (.osl 6)) [.v (.bool n.dead)] tNd _ tPk 3 rfl rfl (.done ⟨[⟨[(0,.blk (Ad n (.ptr 1 0) (.osl 4) (.osl 5)) tNd)],[(0,0)],false⟩,⟨[(0,.abs p)],[(0,1)],false⟩,⟨[(0,.gone)],[(0,2)],false⟩,⟨[(0,.gone)],[(0,3)],false⟩,⟨[(0,.slc (n.log.map enE) tEn 3)],[(0,6)],false⟩,⟨[(0,.slc (n.out.map pkG) tPk 3)],[(0,7)],false⟩,⟨[(0,.slc ((Bl n).map gSt) tSg 1)],[(0,5)],false⟩],.osl 6,⟨⟨⟨_,rfl,rfl,rfl⟩,⟨_,rfl,rfl,rfl⟩,⟨_,rfl,rfl,rfl⟩,⟨_,rfl,rfl,rfl⟩,⟨_,rfl,rfl,rfl⟩,⟨_,rfl,rfl,rfl⟩,⟨_,rfl,rfl,rfl⟩,trivial⟩,rfl,⟨_,rfl⟩,rfl,rfl,⟨rfl,rfl⟩⟩⟩)))
theorem Zfi (n:PN)(p:Ob)(hl:n.log.length≤1000000):FnO Tryz.prog 133 [.ptr 0 0] [.blk (Ad n (.ptr 1 0) (.sl (n.log.map enE)) (.osl 2)) tNd,.abs p,.slc (n.out.map pkG) tPk 3] fun g rs=>g=.osl 4∧rs=[.blk (Ad n (.ptr 1 0) (.sl (n.log.map enE)) (.osl 3)) tNd,.abs p,.gone,.slc (n.out.map pkG) tPk 3,.slc ((Bl n).map gSt) tSg 1]:=by
 refine B9 Tryz.func133 (by kernel_rfl) rfl (Nat.le_of_ble_eq_true (by kernel_rfl)) (by kernel_rfl) (Bp _ _) ?_
 refine(De _ _ _ _).cal fun q hq=>?_
 subst hq
 refine(De _ _ _ _).cal fun q hq=>?_
 subst hq
 refine Bq [20,21] [0,1,2] (fun i:Nat=>[(22,gI i),(3,.osl 4)]) (fun i=>[(4,.slc ((Z2d n i).map gSt) tSg 1)]) (fun i=>i≤n.log.length) (fun i=>n.log.length - i) 0 (Nat.zero_le _) ⟨⟨rfl,rfl⟩,⟨rfl,rfl⟩,trivial⟩ ⟨⟨rfl,rfl,eqR (by rfl)⟩,trivial⟩ rfl fun i hi=>?_
 refine EvIf.dec (fun h=>?_) fun h=>?_
 ·skip
  skip
  skip
  refine EvIdx.of (by simpa using h) fun c hc=>?_
  have hlt:=Dt hc
  refine(De _ _ _ _).cal fun q hq=>?_
  subst hq
  refine⟨by unfold Z2d;simp;omega,?_⟩
  refine⟨by omega,i+1,hlt,(by dsimp only;omega),?_⟩
  refine⟨?_,?_,rfl⟩<;>repeat' (first | exact True.intro | with_reducible rfl | exact rfl | refine And.intro ?_ ?_)
  exact eqR (by unfold Z2d;rw[←Pi hc];simp;rfl)
 ·have hi2:i=n.log.length:=by rw[List.length_map] at h;omega
  subst hi2
  have e1:Z2d n n.log.length=Bl n:=by unfold Z2d Bl;rw[List.take_length]
  rw[e1]
  exact .gh (.rnm 0 2 (Z76 n (.sl (n.log.map enE))) [.v (.bool n.dead)] tNd _ tPk 3 rfl rfl (.done ⟨[⟨[(0,.blk (Ad n (.ptr 1 0) (.sl (n.log.map enE)) (.osl 3)) tNd)],[(0,0)],false⟩,⟨[(0,.abs p)],[(0,1)],false⟩,⟨[(0,.gone)],[(0,2)],false⟩,⟨[(0,.slc (n.out.map pkG) tPk 3)],[(0,5)],false⟩,⟨[(0,.slc ((Bl n).map gSt) tSg 1)],[(0,4)],false⟩],.osl 4,⟨⟨⟨_,rfl,rfl,rfl⟩,⟨_,rfl,rfl,rfl⟩,⟨_,rfl,rfl,rfl⟩,⟨_,rfl,rfl,rfl⟩,⟨_,rfl,rfl,rfl⟩,trivial⟩,rfl,⟨_,rfl⟩,rfl,rfl,⟨rfl,rfl⟩⟩⟩))
end Go.Proofs.YtihfaocdpmmooaaGreat
namespace Go.Proofs.YtihfaocdpmmooaaGreat
open Go.RowKit
set_option maxRecDepth 100000
structure WK (l:LD):Prop where
 wa:WA l
 wait:l.d.wait.length≤80000
 all:l.all.length≤99000
theorem Sv {l:LD}(h:WK l)(s:ByteArray):WA (Ba l s)∧(Ba l s).d.wait.length≤80549:=by
 have hW:=h.wa
 have hwt:=h.wait
 have hall:=h.all
 unfold Ba
 split
 ·exact⟨hW,by omega⟩
 ·split
  ·exact⟨hW,by omega⟩
  ·split
   ·exact⟨hW,by omega⟩
   ·next h1 h2 h3 =>
    have hroom:l.b.length+s.size+4≤35136:=by unfold G9 at h3;omega
    have hb:(l.b++frB s).length≤35136:=by rw[List.length_append,Dk];omega
    have hw:=Z62 hW (by omega) l.half (l.b++frB s) l.b.length hb
    have hn:=Z0s (l.b++frB s) l.b.length hb
    have h4:=(El (C9 l.half) (l.b++frB s) (nsW (l.b++frB s) l.b.length) l.d hW.d).2.2.1
    have hw2:(wrL l l.half (l.b++frB s) l.b.length).d.wait.length≤80549:=by show(runW _ _ _ _).1.wait.length≤_;omega
    split
    ·exact⟨⟨hw.d,hw.many,hw.armed,hw.wait,hw.half,hb,by show(l.all++[s]).length≤_;simp;omega,hw.mark⟩,hw2⟩
    ·exact⟨hw,hw2⟩
theorem Ic (n:PN):(Bl n).length=n.log.length+2:=by unfold Bl;simp
theorem Fy (n:PN):∀s∈Bl n,s.size≤1000000:=fun s hs=>by
 unfold Bl at hs
 rcases List.mem_cons.1 hs with rfl | hs
 ·have:=E5 1 n.pmd 0 eS;omega
 ·rcases List.mem_cons.1 hs with rfl | hs
  ·have:=E5 2 n.normal 0 eS;omega
  ·obtain⟨e,-,rfl⟩:=List.mem_map.1 hs
   have:=E5 3 e.v e.n e.b;omega
theorem Yf (n:PN)(b e:Nat)(er:Int):FnO Tryz.prog 131 [.ptr 0 0,gI er] (cA n b e) fun g rs=>g=.v (.bool (decide (er=0)))∧rs=cA (Dm n er) b e:=by
 by_cases h:er=0
 ·subst h
  exact Zce n b e
 ·have:=Zat n b e h
  rw[decide_eq_false h]
  exact this
theorem Z6p (n:PN)(b e:Nat)(h:WK n.st)(hl:n.log.length≤198)(r:ByteArray)(hr:r.size≤1000000):FnO Tryz.prog 95 [.ptr 0 0,.v (.string r)] (cA n b e) fun g rs=>g=.v (.bool (Cg n r))∧rs=cA (Bj n r) b e:=by
 refine B9 Tryz.func95 (by kernel_rfl) rfl (Nat.le_of_ble_eq_true (by kernel_rfl)) (by kernel_rfl) (A6 (O:=oAs n b e) (n0:=5) rfl) ?_
 obtain⟨hwa,hwt⟩:=Sv h r
 refine EvCall.lend ((Ov n.st e h.wa r hr).cal fun q rs hq=>?_)
 obtain⟨rfl,rfl⟩:=hq
 refine EvIf.beq (fun(h5:Fl n.st r=51)=>?_) fun(h5:Fl n.st r≠51)=>?_
 ·have eN:Bj n r=Dm {n with st:=F5 (Ba n.st r) (Bl n)} (Jl (Ba n.st r) (Bl n)):=by unfold Bj;rw[if_pos h5]
  have eB:Cg n r=decide (Jl (Ba n.st r) (Bl n)=0):=by unfold Cg;rw[if_pos h5]
  rw[eN,eB]
  refine⟨?_,?_⟩
  all_goals
   refine EvCall.lend ((Z5g n _ (by omega)).cal fun q rs hq=>?_)
   obtain⟨rfl,rfl⟩:=hq
   refine EvCall.gh (.frz 7 _ _ _ rfl (.done (.see (.same ((Fq (Ba n.st r) e hwa (by omega) (Bl n) (by rw[Ic];omega) (Fy n)).cal fun q rs hq=>?_)))))
   obtain⟨rfl,rfl⟩:=hq
   refine .done ?_
   refine EvCall.gh (.close (oAs {n with st:=F5 (Ba n.st r) (Bl n)} b e) [(1,1),(2,5),(3,6),(4,4)] (by exact RL5) ⟨_,rfl⟩ rfl (.done (.same ((Yf _ b e _).cal fun q rs hq=>?_))))
   obtain⟨rfl,rfl⟩:=hq
   refine .done ?_
   exact .inl (A7 rfl rfl ⟨rfl,rfl⟩)
 ·have hd:Dm {n with st:=Ba n.st r} 0={n with st:=Ba n.st r}:=by unfold Dm;rw[if_neg (by decide)]
  refine EvCall.gh (.close (oAs {n with st:=Ba n.st r} b e) [] (by exact RL5) ⟨_,rfl⟩ rfl (.done (.same ((Yf _ b e _).cal fun q rs hq=>?_))))
  obtain⟨rfl,rfl⟩:=hq
  by_cases h0:Fl n.st r=0
  ·rw[h0,hd]
   refine .opn 0 _ _ _ rfl rfl rfl (.done ?_)
   refine EvIf.mk (fun _=>?_) fun h=>absurd h (by decide)
   have eN:Bj n r=Dm {n with st:=Ji (Ba n.st r)} (Om (Ba n.st r)):=by unfold Bj;rw[if_neg h5,if_neg (fun h=>h h0)]
   have eB:Cg n r=decide (Om (Ba n.st r)=0):=by unfold Cg;rw[if_neg h5,if_neg (fun h=>h h0)]
   rw[eN,eB]
   refine EvCall.gh (.done (.same ((Xx (Ba n.st r) e hwa).cal fun q rs hq=>?_)))
   obtain⟨rfl,rfl⟩:=hq
   refine .done ?_
   refine EvCall.gh (.close (oAs {n with st:=Ji (Ba n.st r)} b e) [(1,5),(2,6),(3,7),(4,8)] (by exact RL5) ⟨_,rfl⟩ rfl (.done (.same ((Yf _ b e _).cal fun q rs hq=>?_))))
   obtain⟨rfl,rfl⟩:=hq
   refine .done ?_
   exact .inl (A7 rfl rfl ⟨rfl,rfl⟩)
  ·rw[decide_eq_false h0]
   refine .done ?_
   refine EvIf.mk (fun h=>absurd h (by decide)) fun _=>?_
   have eN:Bj n r=Dm {n with st:=Ba n.st r} (Fl n.st r):=by unfold Bj;rw[if_neg h5,if_pos h0]
   have eB:Cg n r=false:=by unfold Cg;rw[if_neg h5,if_pos h0]
   rw[eN,eB]
   exact .inl (A7 rfl rfl ⟨rfl,rfl⟩)
theorem Z7k (n:PN)(b e:Nat)(er:Int):FnO Tryz.prog 131 [.ptr 0 0,gI er] (cB n b e) fun g rs=>g=.v (.bool (decide (er=0)))∧rs=cB (Dm n er) b e:=by
 by_cases h:er=0
 ·subst h
  exact Zc6 n b e
 ·have:=Zbk n b e h
  rw[decide_eq_false h]
  exact this
theorem Zay (n:PN)(b e:Nat)(h:WK n.st)(hl:n.log.length≤198)(r:ByteArray)(hr:r.size≤1000000):FnO Tryz.prog 95 [.ptr 0 0,.v (.string r)] (cB n b e) fun g rs=>g=.v (.bool (Cg n r))∧rs=cB (Bj n r) b e:=by
 refine B9 Tryz.func95 (by kernel_rfl) rfl (Nat.le_of_ble_eq_true (by kernel_rfl)) (by kernel_rfl) (A6 (O:=oBs n b e) (n0:=5) rfl) ?_
 obtain⟨hwa,hwt⟩:=Sv h r
 refine EvCall.lend ((Ov n.st e h.wa r hr).cal fun q rs hq=>?_)
 obtain⟨rfl,rfl⟩:=hq
 refine EvIf.beq (fun(h5:Fl n.st r=51)=>?_) fun(h5:Fl n.st r≠51)=>?_
 ·have eN:Bj n r=Dm {n with st:=F5 (Ba n.st r) (Bl n)} (Jl (Ba n.st r) (Bl n)):=by unfold Bj;rw[if_pos h5]
  have eB:Cg n r=decide (Jl (Ba n.st r) (Bl n)=0):=by unfold Cg;rw[if_pos h5]
  rw[eN,eB]
  refine⟨?_,?_⟩
  all_goals
   refine EvCall.lend ((Zfi n _ (by omega)).cal fun q rs hq=>?_)
   obtain⟨rfl,rfl⟩:=hq
   refine EvCall.gh (.frz 6 _ _ _ rfl (.done (.see (.same ((Fq (Ba n.st r) e hwa (by omega) (Bl n) (by rw[Ic];omega) (Fy n)).cal fun q rs hq=>?_)))))
   obtain⟨rfl,rfl⟩:=hq
   refine .done ?_
   refine EvCall.gh (.close (oBs {n with st:=F5 (Ba n.st r) (Bl n)} b e) [(1,1),(2,2),(3,5),(4,4)] (by exact RL5) ⟨_,rfl⟩ rfl (.done (.same ((Z7k _ b e _).cal fun q rs hq=>?_))))
   obtain⟨rfl,rfl⟩:=hq
   refine .done ?_
   exact .inl (A7 rfl rfl ⟨rfl,rfl⟩)
 ·have hd:Dm {n with st:=Ba n.st r} 0={n with st:=Ba n.st r}:=by unfold Dm;rw[if_neg (by decide)]
  refine EvCall.gh (.close (oBs {n with st:=Ba n.st r} b e) [] (by exact RL5) ⟨_,rfl⟩ rfl (.done (.same ((Z7k _ b e _).cal fun q rs hq=>?_))))
  obtain⟨rfl,rfl⟩:=hq
  by_cases h0:Fl n.st r=0
  ·rw[h0,hd]
   refine .opn 0 _ _ _ rfl rfl rfl (.done ?_)
   refine EvIf.mk (fun _=>?_) fun h=>absurd h (by decide)
   have eN:Bj n r=Dm {n with st:=Ji (Ba n.st r)} (Om (Ba n.st r)):=by unfold Bj;rw[if_neg h5,if_neg (fun h=>h h0)]
   have eB:Cg n r=decide (Om (Ba n.st r)=0):=by unfold Cg;rw[if_neg h5,if_neg (fun h=>h h0)]
   rw[eN,eB]
   refine EvCall.gh (.done (.same ((Xx (Ba n.st r) e hwa).cal fun q rs hq=>?_)))
   obtain⟨rfl,rfl⟩:=hq
   refine .done ?_
   refine EvCall.gh (.close (oBs {n with st:=Ji (Ba n.st r)} b e) [(1,5),(2,6),(3,7),(4,8)] (by exact RL5) ⟨_,rfl⟩ rfl (.done (.same ((Z7k _ b e _).cal fun q rs hq=>?_))))
   obtain⟨rfl,rfl⟩:=hq
   refine .done ?_
   exact .inl (A7 rfl rfl ⟨rfl,rfl⟩)
  ·rw[decide_eq_false h0]
   refine .done ?_
   refine EvIf.mk (fun h=>absurd h (by decide)) fun _=>?_
   have eN:Bj n r=Dm {n with st:=Ba n.st r} (Fl n.st r):=by unfold Bj;rw[if_neg h5,if_pos h0]
   have eB:Cg n r=false:=by unfold Cg;rw[if_neg h5,if_pos h0]
   rw[eN,eB]
   exact .inl (A7 rfl rfl ⟨rfl,rfl⟩)
end Go.Proofs.YtihfaocdpmmooaaGreat
namespace Go.Proofs.YtihfaocdpmmooaaGreat
structure WSt (k:Nat)(l:LD):Prop where
 d:WD l.d
 many:l.d.now.length=1100
 armed:l.d.armed≤9223372036854775807
 wait:l.d.wait=[]
 half:l.half < 2
 b:l.b=Am l.all
 len:l.b.length≤35136
 mark:l.mark≤k
 dead:l.dead=false
 dd:l.d.dead=false
theorem Z7:∀l:List ByteArray,4 * l.length≤(Am l).length
 | []=>by simp[Am]
 | s::l=>by
  have h1:=Z7 l
  unfold Am at *
  rw[List.flatMap_cons,List.length_append,Dk,List.length_cons];omega
theorem WSt.wk {k:Nat}{l:LD}(h:WSt k l)(hk:k≤1000000000):WK l:=by
 have h1:=Z7 l.all
 rw[←h.b] at h1
 have h2:=h.len
 have h3:=h.mark
 exact⟨⟨h.d,by rw[h.many];exact Nat.le_refl _,h.armed,by rw[h.wait];exact Nat.zero_le _,h.half,h.len,by omega,by omega⟩,by rw[h.wait];exact Nat.zero_le _,by omega⟩
theorem Kr {d:RD}{n:Int}{b:Sec}(h:Bg d n b=0):(Ae d n b).dead=false∧d.dead=false:=by
 unfold Bg at h
 unfold Ae
 by_cases h1:Jt d n=0
 ·rw[if_neg (fun h=>h h1)] at h⊢
  have h2:=(N9 h1).1
  split at h
  ·cases h
  ·next h3 =>
   rw[if_neg h3]
   split at h
   ·cases h
   ·next h4 =>
    refine⟨?_,h2⟩
    unfold Ep at h4
    unfold B7
    show(if d.armed=0 then _ else _:RD).dead=false
    split
    ·exact h2
    ·next h5 =>
     rw[if_neg h5] at h4
     have h6:(d.armed - 1==0)=false:=by simpa using h4
     exact h6
 ·rw[if_pos h1] at h;exact absurd h h1
theorem K3 {d:RD}(h:D2 d=0):(Aa d).dead=false∧(Aa d).wait=[]∧d.dead=false:=by
 unfold D2 at h
 split at h
 ·cases h
 ·next h1 =>
  have h2:d.dead=false:=by cases hd:d.dead with
   | false=>rfl
   | true=>exact absurd (.inl hd) h1
  have h3:¬Ep d=true:=fun h=>h1 (.inr h)
  unfold Aa
  rw[if_neg (by rw[h2];decide),if_neg h3]
  refine⟨?_,rfl,h2⟩
  show(B7 d).dead=false
  unfold Ep at h3
  unfold B7
  split
  ·exact h2
  ·next h5=>rw[if_neg h5] at h3;simpa using h3
theorem Z5z {d:RD}{n:Int}{b:Sec}(ha:d.armed=0)(hd:d.dead=false)(h0:0≤n)(h1:n < d.now.length)(hb:b.length≤64):Bg d n b=0∧(Ae d n b).armed=0:=by
 have hm:Jt d n=0:=by unfold Jt;rw[hd,if_neg (by decide),if_neg (by omega)]
 have hs:Ep d=false:=by unfold Ep;rw[if_pos ha]
 unfold Bg Ae
 rw[if_neg (fun h=>h hm),if_neg (by omega),hs,if_neg (by decide),if_neg (fun h=>h hm),if_neg (by omega)]
 refine⟨rfl,?_⟩
 unfold B7
 show(if d.armed=0 then _ else _:RD).armed=0
 rw[if_pos ha];exact ha
theorem Zcu {d:RD}(ha:d.armed=0)(hd:d.dead=false):D2 d=0∧(Aa d).armed=0:=by
 have hs:Ep d=false:=by unfold Ep;rw[if_pos ha]
 unfold D2 Aa
 rw[hd,hs]
 refine⟨by simp,?_⟩
 simp only[Bool.false_eq_true,if_false]
 show(B7 d).armed=0
 unfold B7
 rw[if_pos ha];exact ha
theorem Qw (f:Nat)(b:Bs):∀(ns:List Nat) (d:RD),d.dead=false→(runW f b ns d).2=true→(runW f b ns d).1.dead=false
 | [],d,h,_=>h
 | n::ns,d,h,hr=>by
  rw[Ey] at hr⊢
  split
  ·next hw=>rw[if_pos hw] at hr;exact Qw f b ns _ (Kr hw).1 hr
  ·next hw=>rw[if_neg hw] at hr;cases hr
theorem Qa (f:Nat)(b:Bs):∀(ns:List Nat) (d:RD),d.dead=false→d.armed=0→(∀n∈ns,f+n < d.now.length)→(runW f b ns d).2=true∧(runW f b ns d).1.armed=0
 | [],d,_,ha,_=>⟨rfl,ha⟩
 | n::ns,d,h,ha,hn=>by
  have h1:=hn n (by simp)
  obtain⟨w1,w2⟩:=Z5z (n:=((f+n:Nat):Int)) (b:=chB b n) ha h (by omega) (by omega) (by unfold chB;rw[List.length_take];omega)
  rw[Ey,if_pos w1]
  refine Qa f b ns _ (Kr w1).1 w2 fun m hm=>?_
  rw[(E2 d _ _).1]
  exact hn m (by simp[hm])
theorem Z24 {b:Bs}{frm:Nat}(hb:b.length≤35136){n:Nat}(h:n∈nsW b frm):n < 549:=by
 unfold nsW at h
 rw[List.mem_range'_1] at h
 omega
theorem Ln {l:LD}(hd:l.d.dead=false){h:Nat}{b:Bs}{frm:Nat}(hw:wrE l h b frm=true):(wrL l h b frm).dead=false∧(wrL l h b frm).d.dead=false:=by
 unfold wrE at hw
 unfold wrL
 refine⟨by rw[hw];rfl,?_⟩
 exact Qw _ _ _ _ hd hw
theorem Kd {l:LD}(hd:l.d.dead=false)(ha:l.d.armed=0)(hm:l.d.now.length=1100){h:Nat}(hh:h < 2){b:Bs}(hb:b.length≤35136)(frm:Nat):wrE l h b frm=true∧(wrL l h b frm).d.armed=0:=by
 unfold wrE wrL
 exact Qa _ _ _ _ hd ha fun n hn=>by
  have:=Z24 hb hn
  rw[hm];unfold C9;omega
theorem Dh (m h f:Nat):(Aj m h f).length=64:=by
 unfold Aj be8
 simp
theorem Ka {l:LD}{h f:Nat}(hs:(Ah l h f).dead=false):(Ah l h f).d.dead=false∧(Ah l h f).d.wait=[]∧Ah l h f={l with mark:=l.mark+1,half:=h,firm:=f,d:=(Ah l h f).d}:=by
 unfold Ah at hs⊢
 split at hs
 ·cases hs
 ·next h1 =>
  rw[if_neg h1]
  split at hs
  ·cases hs
  ·next h2 =>
   rw[if_neg h2]
   split at hs
   ·cases hs
   ·next h3 =>
    rw[if_neg h3]
    obtain⟨a1,a2,-⟩:=K3 (by omega:D2 (Ae (Aa l.d) (((l.mark+1) % 2:Nat):Int) (Aj (l.mark+1) h f))=0)
    exact⟨a1,a2,rfl⟩
theorem Jf {l:LD}(hl:l.dead=false)(hd:l.d.dead=false)(ha:l.d.armed=0)(hm:l.d.now.length=1100)(h f:Nat):(Ah l h f).dead=false∧(Ah l h f).d.armed=0:=by
 obtain⟨s1,s2⟩:=Zcu ha hd
 obtain⟨s3,-,-⟩:=K3 s1
 have hlen:=(If l.d).1
 obtain⟨w1,w2⟩:=Z5z (d:=Aa l.d) (n:=(((l.mark+1) % 2:Nat):Int)) (b:=Aj (l.mark+1) h f) s2 s3 (by omega) (by omega) (by rw[Dh];exact Nat.le_refl _)
 obtain⟨s4,s5⟩:=Zcu w2 (Kr w1).1
 unfold Ah
 rw[if_neg (fun h=>h s1),if_neg (fun h=>h w1),if_neg (fun h=>h s4)]
 exact⟨hl,s5⟩
theorem V9 {l:LD}(hw:WD l.d)(h f:Nat):WD (Ah l h f).d∧(Ah l h f).d.now.length=l.d.now.length∧(Ah l h f).d.armed≤l.d.armed∧(Ah l h f).d.wait.length≤l.d.wait.length+1:=by
 obtain⟨a1,a2,a3⟩:=If l.d
 obtain⟨b1,b2,b3⟩:=E2 (Aa l.d) (((l.mark+1) % 2:Nat):Int) (Aj (l.mark+1) h f)
 obtain⟨c1,c2,c3⟩:=If (Ae (Aa l.d) (((l.mark+1) % 2:Nat):Int) (Aj (l.mark+1) h f))
 have w1:=Kb hw
 have w2:=Hw w1 (((l.mark+1) % 2:Nat):Int) (Aj (l.mark+1) h f)
 have w3:=Kb w2
 unfold Ah
 split
 ·exact⟨w1,a1,a3,by show(Aa l.d).wait.length≤_;omega⟩
 ·split
  ·exact⟨w2,b1.trans a1,by show(Ae _ _ _).armed≤_;omega,by show(Ae _ _ _).wait.length≤_;omega⟩
  ·split
   ·exact⟨w3,c1.trans (b1.trans a1),by show(Aa _).armed≤_;omega,by show(Aa _).wait.length≤_;omega⟩
   ·exact⟨w3,c1.trans (b1.trans a1),by show(Aa _).armed≤_;omega,by show(Aa _).wait.length≤_;omega⟩
theorem Z6y {k:Nat}{l:LD}(h:WSt k l)(s:ByteArray)(h0:Fl l s=0)(h1:Om (Ba l s)=0):WSt (k+1) (Ji (Ba l s))∧(Ji (Ba l s)).all=l.all++[s]:=by
 unfold Fl at h0
 rw[if_neg (by rw[h.dead];decide)] at h0
 have hs1:¬s.size > 4096:=fun hh=>by rw[if_pos hh] at h0;cases h0
 rw[if_neg hs1] at h0
 have hs2:¬(s.size:Int) > G9 l:=fun hh=>by rw[if_pos hh] at h0;cases h0
 rw[if_neg hs2] at h0
 have hw:wrE l l.half (l.b++frB s) l.b.length=true:=by
  cases hw:wrE l l.half (l.b++frB s) l.b.length with
  | true=>rfl
  | false=>rw[hw] at h0;cases h0
 have hA:Ba l s={wrL l l.half (l.b++frB s) l.b.length with b:=l.b++frB s,all:=l.all++[s]}:=by
  unfold Ba
  rw[if_neg (by rw[h.dead];decide),if_neg hs1,if_neg hs2,if_pos hw]
 have hroom:(l.b++frB s).length≤35136:=by rw[List.length_append,Dk];have:=h.len;unfold G9 at hs2;omega
 obtain⟨hd1,hd2⟩:=Ln h.dd hw
 obtain⟨r1,r2,r3,r4⟩:=El (C9 l.half) (l.b++frB s) (nsW (l.b++frB s) l.b.length) l.d h.d
 generalize hx:({wrL l l.half (l.b++frB s) l.b.length with b:=l.b++frB s,all:=l.all++[s]}:LD)=x at hA
 have x1:x.dead=false:=by rw[←hx];exact hd1
 have x2:x.d=(runW (C9 l.half) (l.b++frB s) (nsW (l.b++frB s) l.b.length) l.d).1:=by rw[←hx];rfl
 have x3:x.mark=l.mark:=by rw[←hx];rfl
 have x4:x.half=l.half:=by rw[←hx];rfl
 have x5:x.b=l.b++frB s:=by rw[←hx]
 have x6:x.all=l.all++[s]:=by rw[←hx]
 rw[hA] at h1⊢
 have hS:Ji x=Ah x x.half x.b.length:=by unfold Ji;rw[if_neg (by rw[x1];decide)]
 have hE:(Ah x x.half x.b.length).dead=false:=by
  unfold Om at h1
  rw[if_neg (by rw[x1];decide)] at h1
  unfold Db at h1
  cases hz:(Ah x x.half x.b.length).dead with
  | false=>rfl
  | true=>rw[hz] at h1;cases h1
 obtain⟨s1,s2,s3⟩:=Ka hE
 obtain⟨q1,q2,q3,q4⟩:=V9 (l:=x) (by rw[x2];exact r1) x.half x.b.length
 rw[hS]
 have fb:(Ah x x.half x.b.length).b=l.b++frB s:=by rw[s3];exact x5
 have fa:(Ah x x.half x.b.length).all=l.all++[s]:=by rw[s3];exact x6
 have ha:=h.armed
 have hm:=h.many
 refine⟨⟨q1,by rw[q2,x2];omega,by rw[x2] at q3;omega,s2,?_,?_,?_,?_,hE,s1⟩,fa⟩
 ·rw[s3];show x.half < 2;rw[x4];exact h.half
 ·rw[fb,fa,Qm,h.b]
 ·rw[fb];exact hroom
 ·rw[s3];show x.mark+1≤_;have:=h.mark;omega
theorem Y5 {k:Nat}{l:LD}(h:WSt k l)(all:List ByteArray)(h0:Jl l all=0):WSt (k+1) (F5 l all)∧(F5 l all).all=all:=by
 unfold Jl at h0
 rw[if_neg (by rw[h.dead];decide)] at h0
 have hf:Mj all=0:=by
  by_cases hf:Mj all=0
  ·exact hf
  ·rw[if_pos hf] at h0;exact absurd h0 hf
 rw[if_neg (fun h=>h hf)] at h0
 have hw:wrE l (1 - l.half) (Am all) 0=true:=by
  cases hw:wrE l (1 - l.half) (Am all) 0 with
  | true=>rfl
  | false=>rw[hw] at h0;cases h0
 rw[if_pos hw] at h0
 have hbl:(Am all).length≤35136:=by
  unfold Mj at hf
  split at hf
  ·cases hf
  ·split at hf
   ·cases hf
   ·omega
 obtain⟨hd1,hd2⟩:=Ln h.dd hw
 obtain⟨r1,r2,r3,r4⟩:=El (C9 (1 - l.half)) (Am all) (nsW (Am all) 0) l.d h.d
 have hE:(Ah (wrL l (1 - l.half) (Am all) 0) (1 - l.half) (Am all).length).dead=false:=by
  unfold Db at h0
  cases hz:(Ah (wrL l (1 - l.half) (Am all) 0) (1 - l.half) (Am all).length).dead with
  | false=>rfl
  | true=>rw[hz] at h0;cases h0
 have hR:F5 l all={Ah (wrL l (1 - l.half) (Am all) 0) (1 - l.half) (Am all).length with b:=Am all,all:=all}:=by
  unfold F5
  rw[if_neg (by rw[h.dead];decide),if_neg (fun h=>h hf),if_pos hw,if_neg (by rw[hE];decide)]
 obtain⟨s1,s2,s3⟩:=Ka hE
 obtain⟨q1,q2,q3,q4⟩:=V9 (l:=wrL l (1 - l.half) (Am all) 0) r1 (1 - l.half) (Am all).length
 have x2:(wrL l (1 - l.half) (Am all) 0).d=(runW (C9 (1 - l.half)) (Am all) (nsW (Am all) 0) l.d).1:=rfl
 have ha:=h.armed
 have hm:=h.many
 rw[hR]
 refine⟨⟨q1,?_,?_,s2,?_,rfl,hbl,?_,hE,s1⟩,rfl⟩
 ·show(Ah _ _ _).d.now.length=_;rw[q2,x2];omega
 ·show(Ah _ _ _).d.armed≤_;rw[x2] at q3;omega
 ·show(Ah _ _ _).half < 2
  rw[s3];show 1 - l.half < 2;omega
 ·show(Ah _ _ _).mark≤_
  rw[s3];show l.mark+1≤_;have:=h.mark;omega
end Go.Proofs.YtihfaocdpmmooaaGreat
namespace Go.Proofs.YtihfaocdpmmooaaGreat
open Go.RowKit
set_option maxRecDepth 100000
theorem Zfe (n:PN)(b e:Nat)(h:WK n.st)(hl:n.log.length≤190)(x:REnt):FnO Tryz.prog 65 [.ptr 0 0,.agg (enE x)] (cA n b e) fun g rs=>g=.v (.bool (Xf n x))∧rs=cA (Jp n x) b e:=by
 refine B9 Tryz.func65 (by kernel_rfl) rfl (Nat.le_of_ble_eq_true (by kernel_rfl)) (by kernel_rfl) (A6 (O:=oAs n b e) (n0:=5) rfl) ?_
 refine⟨by simp;omega,?_⟩
 refine(De _ _ _ _).cal fun q hq=>?_
 subst hq
 refine EvCall.gh (.close (oAs {n with log:=n.log++[x]} b e) [(1,1),(2,7),(3,3),(4,4)] ⟨RL1,RL1,⟨rfl,rfl,eqR (by rw[List.map_append];rfl)⟩,RL1,RL1,trivial⟩ ⟨_,rfl⟩ rfl (.done (.same ((Z6p {n with log:=n.log++[x]} b e h (by show(n.log++[x]).length≤_;simp;omega) _ (by have:=E5 3 x.v x.n x.b;omega)).cal fun q rs hq=>?_))))
 obtain⟨rfl,rfl⟩:=hq
 refine .done ?_
 exact .inl (A7 rfl rfl ⟨rfl,rfl⟩)
theorem Z6b (n:PN)(b e:Nat)(h:WK n.st)(hl:n.log.length≤190)(view:Int):FnO Tryz.prog 82 [.ptr 0 0,gI view] (cA n b e) fun g rs=>g=.v (.bool (Ix n view))∧rs=cB (F7 n view) b e:=by
 refine B9 Tryz.func82 (by kernel_rfl) rfl (Nat.le_of_ble_eq_true (by kernel_rfl)) (by kernel_rfl) (A6 (O:=oAs n b e) (n0:=5) rfl) ?_
 refine(De _ _ _ _).cal fun q hq=>?_
 subst hq
 refine EvCall.gh (.seen 0 _ _ rfl (.close (oAs {n with pmd:=view,lds:=false,std:=false} b e) [] (by exact RL5) ⟨_,rfl⟩ rfl (.done (.same ((Z6p {n with pmd:=view,lds:=false,std:=false} b e h (by show n.log.length≤_;omega) _ (Nat.le_trans (E5 _ _ _ _) (by decide))).cal fun q rs hq=>?_)))))
 obtain⟨rfl,rfl⟩:=hq
 refine .done ?_
 exact .gh (.opn 0 _ _ _ rfl rfl rfl (.frz 6 _ _ _ rfl (.seen 0 _ _ rfl (.drop 6 _ rfl (.done (A1 (oBs (F7 n view) b e) [(1,5),(2,6),(3,7),(4,8)] (by exact RL5) rfl ⟨_,rfl⟩ rfl rfl ⟨rfl,rfl⟩))))))
theorem Z6v (n:PN)(b e:Nat)(h:WK n.st)(hl:n.log.length≤190)(view:Int):FnO Tryz.prog 82 [.ptr 0 0,gI view] (cB n b e) fun g rs=>g=.v (.bool (Ix n view))∧rs=cB (F7 n view) b e:=by
 refine B9 Tryz.func82 (by kernel_rfl) rfl (Nat.le_of_ble_eq_true (by kernel_rfl)) (by kernel_rfl) (A6 (O:=oBs n b e) (n0:=5) rfl) ?_
 refine(De _ _ _ _).cal fun q hq=>?_
 subst hq
 refine EvCall.gh (.seen 0 _ _ rfl (.close (oBs {n with pmd:=view,lds:=false,std:=false} b e) [] (by exact RL5) ⟨_,rfl⟩ rfl (.done (.same ((Zay {n with pmd:=view,lds:=false,std:=false} b e h (by show n.log.length≤_;omega) _ (Nat.le_trans (E5 _ _ _ _) (by decide))).cal fun q rs hq=>?_)))))
 obtain⟨rfl,rfl⟩:=hq
 refine .done ?_
 exact .inl (A7 rfl rfl ⟨rfl,rfl⟩)
theorem Z9b (n:PN)(b e:Nat)(h:WK n.st)(view:Int)(l:List REnt)(hl:l.length≤190):FnO Tryz.prog 104 [.ptr 0 0,gI view,.sl (l.map enE)] (cA n b e) fun g rs=>g=.v (.bool (Df n view l))∧rs=cA (Ci n view l) b e:=by
 refine B9 Tryz.func104 (by kernel_rfl) rfl (Nat.le_of_ble_eq_true (by kernel_rfl)) (by kernel_rfl) (A6 (O:=oAs n b e) (n0:=5) rfl) ?_
 refine(N2 l (by omega)).cal fun q rs hq=>?_
 obtain⟨rfl,rfl⟩:=hq
 refine⟨?_,?_⟩
 all_goals
  refine EvCall.lend ((Z5g (Bh n view l) _ (by show l.length≤_;omega)).cal fun q rs hq=>?_)
  obtain⟨rfl,rfl⟩:=hq
  refine EvCall.gh (.frz 8 _ _ _ rfl (.done (.see (.same ((Fq n.st e h.wa (by have:=h.wait;omega) (Bl (Bh n view l)) (by rw[Ic];show l.length+2≤_;omega) (Fy _)).cal fun q rs hq=>?_)))))
  obtain⟨rfl,rfl⟩:=hq
  refine .done ?_
  refine EvCall.gh (.close (oAs {Bh n view l with st:=F5 n.st (Bl (Bh n view l))} b e) [(1,1),(2,6),(3,7),(4,4)] (by exact RL5) ⟨_,rfl⟩ rfl (.done (.same ((Yf _ b e _).cal fun q rs hq=>?_))))
  obtain⟨rfl,rfl⟩:=hq
  refine .done ?_
  exact .inl (A7 rfl rfl ⟨rfl,rfl⟩)
theorem Xr (n:PN)(b e:Nat)(h:WK n.st)(view:Int)(l:List REnt)(hl:l.length≤190):FnO Tryz.prog 104 [.ptr 0 0,gI view,.sl (l.map enE)] (cB n b e) fun g rs=>g=.v (.bool (Df n view l))∧rs=cA (Ci n view l) b e:=by
 refine B9 Tryz.func104 (by kernel_rfl) rfl (Nat.le_of_ble_eq_true (by kernel_rfl)) (by kernel_rfl) (A6 (O:=oBs n b e) (n0:=5) rfl) ?_
 refine(N2 l (by omega)).cal fun q rs hq=>?_
 obtain⟨rfl,rfl⟩:=hq
 refine⟨?_,?_⟩
 all_goals
  refine EvCall.lend ((Z5g (Bh n view l) _ (by show l.length≤_;omega)).cal fun q rs hq=>?_)
  obtain⟨rfl,rfl⟩:=hq
  refine EvCall.gh (.frz 8 _ _ _ rfl (.done (.see (.same ((Fq n.st e h.wa (by have:=h.wait;omega) (Bl (Bh n view l)) (by rw[Ic];show l.length+2≤_;omega) (Fy _)).cal fun q rs hq=>?_)))))
  obtain⟨rfl,rfl⟩:=hq
  refine .done ?_
  refine EvCall.gh (.close (oAs {Bh n view l with st:=F5 n.st (Bl (Bh n view l))} b e) [(1,1),(2,6),(3,7),(4,4)] (by exact RL5) ⟨_,rfl⟩ rfl (.done (.same ((Yf _ b e _).cal fun q rs hq=>?_))))
  obtain⟨rfl,rfl⟩:=hq
  refine .done ?_
  exact .inl (A7 rfl rfl ⟨rfl,rfl⟩)
end Go.Proofs.YtihfaocdpmmooaaGreat
namespace Go.Proofs.YtihfaocdpmmooaaGreat
open Go.RowKit
set_option maxRecDepth 100000
theorem Ze3 {m:Nat}(h0:1≤m)(h:m≤7):m=1∨m=2∨m=3∨m=4∨m=5∨m=6∨m=7:=by omega
theorem Vt (n:PN)(h0:1≤n.many)(h:n.many≤7)(s l o:G):(((Ad n s l o).drop 31).take n.many).map (fun g=>[g])=(Bk n).map gI1∧Ap Fn (((Ad n s l o).drop 31).take n.many)=true:=by
 unfold Bk
 rcases Ze3 h0 h with e | e | e | e | e | e | e<;>rw[e]<;>exact⟨rfl,rfl⟩
theorem Ce (n:PN)(b e:Nat)(h0:1≤n.many)(h:n.many≤7)(ho:n.out.length≤900000):FnO Tryz.prog 67 [.ptr 0 0] (cA n b e) fun g rs=>g=.tup []∧rs=cA (Dg n) b e:=by
 refine B9 Tryz.func67 (by kernel_rfl) rfl (Nat.le_of_ble_eq_true (by kernel_rfl)) (by kernel_rfl) (A6 (O:=oAs n b e) (n0:=5) rfl) ?_
 obtain⟨c1,c2⟩:=Vt n h0 h (.ptr 1 0) (.osl 2) (.osl 3)
 refine⟨⟨by omega,by omega,by omega⟩,?_⟩
 refine EvSn.snap (Ad n (.ptr 1 0) (.osl 2) (.osl 3)) tNd (.int .i64 (Bw (Bk n))) rfl ⟨h,by show 31+n.many≤47;omega⟩ c2 (by
  have:=Zc0 (Bk n) (by unfold Bk;simp;omega)
  rw[←c1] at this
  exact this) ?_
 refine EvIf.dec (fun hgt=>?_) fun hgt=>?_
 ·have eL:Dg n=Aq {n with cmt:=Bw (Bk n)} ⟨6,n.pmd,0,Bw (Bk n),[]⟩:=by unfold Dg;rw[if_pos hgt]
  have hS:=Ef {n with cmt:=Bw (Bk n)} (cl (oLs n.st e)) ⟨6,n.pmd,0,Bw (Bk n),[]⟩ (Nat.zero_le _) (by show n.many≤100;omega) ho
  obtain⟨o,hs⟩:=(A2 {n with cmt:=Bw (Bk n)} ⟨6,n.pmd,0,Bw (Bk n),[]⟩).to
  rw[hs] at hS eL
  rw[eL]
  refine hS.cal fun q rs hq=>?_
  obtain⟨rfl,rfl⟩:=hq
  exact .inl (A1 (oAs {n with cmt:=Bw (Bk n),out:=o} b e) [(3,5)] (by exact RL5) rfl ⟨_,rfl⟩ rfl rfl ⟨rfl,rfl⟩)
 ·have eL:Dg n=n:=by unfold Dg;rw[if_neg hgt]
  rw[eL]
  exact .inl (A1 (oAs n b e) [] (by exact RL5) rfl ⟨_,rfl⟩ rfl rfl ⟨rfl,rfl⟩)
end Go.Proofs.YtihfaocdpmmooaaGreat
