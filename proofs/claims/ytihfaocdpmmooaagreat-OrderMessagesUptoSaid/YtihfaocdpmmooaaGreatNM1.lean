
import Derived.Test.YtihfaocdpmmooaaGreatPl1
import Derived.Test.YtihfaocdpmmooaaGreatRkM
import Derived.Test.YtihfaocdpmmooaaGreatFn1
import Derived.Test.YtihfaocdpmmooaaGreatOM2
import Derived.Test.YtihfaocdpmmooaaGreatOM3
import Derived.Test.YtihfaocdpmmooaaGreatSxMe
namespace Go.Proofs.YtihfaocdpmmooaaGreat
abbrev A3 (l:List REnt):Int:=((l.map enE).length:Nat)
theorem Dw (l:List REnt):A3 l=(l.length:Nat):=congrArg Nat.cast (List.length_map ..)
structure RJ where
 is:Bool
 normal:Int
 l:List REnt
structure RPk where
 frm:Int
 to:Int
 body:ByteArray
structure PN where
 self:Nat
 many:Nat
 pmd:Int
 normal:Int
 log:List REnt
 cmt:Int
 lds:Bool
 std:Bool
 jns:Nat→RJ
 first:Int
 aks:Nat→Int
 hrd:Nat→Bool
 out:List RPk
 dead:Bool
 st:LD
def j0:RJ:=⟨false,0,[]⟩
def C9 (kind a b:Int)(s:ByteArray):ByteArray:=⟨(Q9 [⟨1,kind,eS⟩,⟨2,a,eS⟩,⟨2,b,eS⟩,⟨3,0,s⟩]).toArray⟩
def Cn (p:Int × Int × List REnt)(r:ByteArray):Option (Int × Int × List REnt) :=
 if(Hf [1,2,2,3] r.data.toList).e≠0 then none else match(Hf [1,2,2,3] r.data.toList).l with
 | [k,a,b,s]=>if k.n=1 then some (a.n,p.2.1,p.2.2) else if k.n=2 then some (p.1,a.n,p.2.2) else if k.n=3 then some (p.1,p.2.1,p.2.2++[⟨a.n,b.n,s.s⟩]) else none
 | _=>none
def B5:List ByteArray→Int × Int × List REnt→Option (Int × Int × List REnt)
 | [],p=>some p
 | r::l,p=>match Cn p r with
  | none=>none
  | some p=>B5 l p
def H9 (self many:Nat)(p:Int × Int × List REnt)(st:LD):PN:=⟨self,many,p.1,p.2.1,p.2.2,0,false,false,fun _=>j0,0,fun _=>0,fun _=>false,[],false,st⟩
def Pk (d:RD)(self many:Int):Option PN :=
 if Aj many=0∨self < 0∨self ≥ many∨(d.now.length:Int) < 1100 then none else match Z1d d with
 | none=>none
 | some st=>match B5 st.all (0,0,[]) with
  | none=>none
  | some p=>if Bl p.2.2=true∧p.2.1≤p.1∧Aq p.2.2 p.2.1=true then some (H9 self.toNat many.toNat p st) else none
def Bk (n:PN):List ByteArray:=C9 1 n.pmd 0 eS::C9 2 n.normal 0 eS::n.log.map fun e=>C9 3 e.v e.n e.b
def Dd (n:PN)(e:Int):PN:=if e≠0 then {n with dead:=true,out:=[]} else n
def Bj (n:PN)(r:ByteArray):PN :=
 if F8 n.st r=51 then Dd {n with st:=Ek (B9 n.st r) (Bk n)} (Ic (B9 n.st r) (Bk n))
 else if F8 n.st r≠0 then Dd {n with st:=B9 n.st r} (F8 n.st r)
 else Dd {n with st:=Id (B9 n.st r)} (Ms (B9 n.st r))
def C8 (n:PN)(r:ByteArray):Bool :=
 if F8 n.st r=51 then decide (Ic (B9 n.st r) (Bk n)=0)
 else if F8 n.st r≠0 then false
 else decide (Ms (B9 n.st r)=0)
def B4 (n:PN)(to:Nat)(m:RM):PN:=if okM m=true then {n with out:=n.out++[⟨n.self,to,⟨(bM m).toArray⟩⟩]} else n
def R6 (f:PN→Nat→PN)(n:PN)(i:Nat):PN:=(List.range i).foldl (fun n i=>if i=n.self then n else f n i) n
def Aw (n:PN)(m:RM):PN:=R6 (fun n i=>B4 n i m) n n.many
def Fo (n:PN)(view:Int):PN:=Bj {n with pmd:=view,lds:=false,std:=false} (C9 1 view 0 eS)
def Gf (n:PN)(view:Int):Bool:=C8 {n with pmd:=view,lds:=false,std:=false} (C9 1 view 0 eS)
def Bg (n:PN)(view:Int)(l:List REnt):PN:={n with pmd:=view,normal:=view,log:=l,cmt:=min n.cmt (A3 l)}
def Cg (n:PN)(view:Int)(l:List REnt):PN:=Dd {Bg n view l with st:=Ek n.st (Bk (Bg n view l))} (Ic n.st (Bk (Bg n view l)))
def Cb (n:PN)(view:Int)(l:List REnt):Bool:=decide (Ic n.st (Bk (Bg n view l))=0)
def J8 (n:PN)(e:REnt):PN:=Bj {n with log:=n.log++[e]} (C9 3 e.v e.n e.b)
def Wo (n:PN)(e:REnt):Bool:=C8 {n with log:=n.log++[e]} (C9 3 e.v e.n e.b)
def Bm (n:PN):List Int:=(List.range n.many).map n.aks
def D7 (n:PN):PN:=if Bu (Bm n) > n.cmt then Aw {n with cmt:=Bu (Bm n)} ⟨6,n.pmd,0,Bu (Bm n),[]⟩ else n
def jlN (n:PN)(i:Nat):List RJ:=((List.range i).map n.jns).filter RJ.is
def Bd (n:PN):List RJ:=jlN n n.many
def mkJ (j:RJ):Mk:=⟨j.normal,A3 j.l⟩
def Fb (n:PN):List REnt:=((Bd n)[(Ll ((Bd n).map mkJ)).toNat]?.getD j0).l
def D8 (n:PN):PN:={n with std:=true,first:=A3 n.log,aks:=fun i=>if i=n.self then A3 n.log else 0,hrd:=fun _=>false}
def Bv (n:PN):PN :=
 if((Bd n).length:Int) < Aj n.many then n
 else if Cb n n.pmd (Fb n)=true then D7 (Aw (D8 (Cg n n.pmd (Fb n))) ⟨3,n.pmd,0,0,Fb n⟩)
 else Cg n n.pmd (Fb n)
def Gb (n:PN)(view:Int):PN × Bool :=
 if n.dead=true∨view≤n.pmd∨Am view n.many≠n.self then(n,false)
 else if Gf n view=true then
  (Bv (Aw {Fo n view with lds:=true,jns:=fun i=>if i=n.self then⟨true,n.normal,n.log⟩ else j0} ⟨1,view,0,0,[]⟩),true)
 else(Fo n view,true)
def Cy (n:PN)(s:ByteArray):PN × Bool :=
 if n.dead=true∨n.std=false∨n.log.length ≥ 150∨s.size > 200 then(n,false)
 else if Wo n ⟨n.pmd,A3 n.log+1,s⟩=true then
  (D7 (Aw {J8 n ⟨n.pmd,A3 n.log+1,s⟩ with aks:=fun i=>if i=n.self then A3 n.log+1 else n.aks i} ⟨4,n.pmd,0,A3 n.log+1 - 1,[⟨n.pmd,A3 n.log+1,s⟩]⟩),true)
 else(J8 n ⟨n.pmd,A3 n.log+1,s⟩,true)
def Az (n:PN)(frm:Nat)(m:RM):PN :=
 if n.lds=false∨n.pmd≠m.view then n
 else if m.kind=2∧n.std=false then
  Bv (if(n.jns frm).is=true then n else {n with jns:=fun i=>if i=frm then⟨true,m.normal,m.l⟩ else n.jns i})
 else if m.kind=5∧n.std=true∧m.num≤n.log.length then
  (fun n2:PN=>if m.num < n2.log.length then B4 n2 frm ⟨4,n2.pmd,0,m.num,n2.log.drop m.num.toNat⟩ else n2)
   (D7 {n with aks:=fun i=>if i=frm then max (n.aks frm) m.num else n.aks i,hrd:=fun i=>if i=frm then true else n.hrd i})
 else n
def Ak:List REnt→Int→PN→PN × Bool
 | [],_,n=>(n,true)
 | e::l,last,n =>
  if e.n > n.log.length+1 then(n,true)
  else if e.n≤n.log.length∨e.v < last then Ak l last n
  else if Wo n e=true then Ak l e.v (J8 n e) else(J8 n e,false)
def A4 (n:PN)(frm:Nat)(m:RM):PN :=
 if m.kind=1 then
  (if m.view > n.pmd then
   (if Gf n m.view=true then B4 (Fo n m.view) frm ⟨2,m.view,n.normal,0,n.log⟩ else Fo n m.view)
  else if m.view=n.pmd∧m.view > n.normal∧n.lds=false then B4 n frm ⟨2,m.view,n.normal,0,n.log⟩ else n)
 else if m.kind=3 then
  (if m.view ≥ n.pmd∧m.view > n.normal then
   (if Cb {n with lds:=false,std:=false} m.view m.l=true then B4 (Cg {n with lds:=false,std:=false} m.view m.l) frm ⟨5,m.view,0,A3 m.l,[]⟩
    else Cg {n with lds:=false,std:=false} m.view m.l)
  else if m.view=n.pmd∧m.view=n.normal then B4 n frm ⟨5,m.view,0,A3 n.log,[]⟩ else n)
 else if m.kind=4 then
  (if n.pmd=m.view∧n.normal=m.view∧n.lds=false then
   (fun x:PN × Bool=>if x.2=true then B4 x.1 frm ⟨5,m.view,0,A3 x.1.log,[]⟩ else x.1) (Ak m.l (vw 1 n.log) n)
  else n)
 else if m.kind=6 then
  (if n.pmd=m.view∧n.normal=m.view∧n.lds=false then {n with cmt:=max n.cmt (min m.num (A3 n.log))} else n)
 else n
def Dv (n:PN)(p:RPk):PN :=
 if n.dead=true∨¬Gg p.body.data.toList∨p.to≠n.self∨p.frm=n.self∨p.frm < 0∨p.frm ≥ n.many then n
 else if(mD p.body.data.toList).kind=2∨(mD p.body.data.toList).kind=5 then Az n p.frm.toNat (mD p.body.data.toList)
 else if Am (mD p.body.data.toList).view n.many≠p.frm then n
 else A4 n p.frm.toNat (mD p.body.data.toList)
end Go.Proofs.YtihfaocdpmmooaaGreat
namespace Go.Proofs.YtihfaocdpmmooaaGreat
open Go.RowKit
set_option maxRecDepth 100000
abbrev tNd:Nat:=118
abbrev tPk:Nat:=61
def pkG (p:RPk):List G:=[gI p.frm,gI p.to,.v (.string p.body)]
abbrev An (n:PN)(s l o:G):List G:=[gI n.self,gI n.many,s,gI n.pmd,gI n.normal,l,gI n.cmt,.v (.bool n.lds),.v (.bool n.std),.v (.bool (n.jns 0).is),gI (n.jns 0).normal,.sl ((n.jns 0).l.map enE),.v (.bool (n.jns 1).is),gI (n.jns 1).normal,.sl ((n.jns 1).l.map enE),.v (.bool (n.jns 2).is),gI (n.jns 2).normal,.sl ((n.jns 2).l.map enE),.v (.bool (n.jns 3).is),gI (n.jns 3).normal,.sl ((n.jns 3).l.map enE),.v (.bool (n.jns 4).is),gI (n.jns 4).normal,.sl ((n.jns 4).l.map enE),.v (.bool (n.jns 5).is),gI (n.jns 5).normal,.sl ((n.jns 5).l.map enE),.v (.bool (n.jns 6).is),gI (n.jns 6).normal,.sl ((n.jns 6).l.map enE),gI n.first,gI (n.aks 0),gI (n.aks 1),gI (n.aks 2),gI (n.aks 3),gI (n.aks 4),gI (n.aks 5),gI (n.aks 6),.v (.bool (n.hrd 0)),.v (.bool (n.hrd 1)),.v (.bool (n.hrd 2)),.v (.bool (n.hrd 3)),.v (.bool (n.hrd 4)),.v (.bool (n.hrd 5)),.v (.bool (n.hrd 6)),o,.v (.bool n.dead)]
abbrev oA (n:PN)(b e:Nat):List R:=[.blk (An n (.ptr 1 0) (.osl 2) (.osl 3)) tNd,.abs (cl (oLs n.st e)),.slc (n.log.map enE) tEn 3,.slc (n.out.map pkG) tPk 3,.adr 0 b]
abbrev oB (n:PN)(b e:Nat):List R:=[.blk (An n (.ptr 1 0) (.sl (n.log.map enE)) (.osl 3)) tNd,.abs (cl (oLs n.st e)),.gone,.slc (n.out.map pkG) tPk 3,.adr 0 b]
abbrev oAs (n:PN)(b e:Nat):Os:=B2 (oA n b e) 0
abbrev oBs (n:PN)(b e:Nat):Os:=B2 (oB n b e) 0
abbrev cA (n:PN)(b e:Nat):List R:=[.abs (cl (oAs n b e))]
abbrev cB (n:PN)(b e:Nat):List R:=[.abs (cl (oBs n b e))]
abbrev Z5e (n:PN)(l:G):List G:=[gI n.self,gI n.many,.ptr 1 0,gI n.pmd,gI n.normal,l,gI n.cmt,.v (.bool n.lds),.v (.bool n.std),.v (.bool (n.jns 0).is),gI (n.jns 0).normal,.sl ((n.jns 0).l.map enE),.v (.bool (n.jns 1).is),gI (n.jns 1).normal,.sl ((n.jns 1).l.map enE),.v (.bool (n.jns 2).is),gI (n.jns 2).normal,.sl ((n.jns 2).l.map enE),.v (.bool (n.jns 3).is),gI (n.jns 3).normal,.sl ((n.jns 3).l.map enE),.v (.bool (n.jns 4).is),gI (n.jns 4).normal,.sl ((n.jns 4).l.map enE),.v (.bool (n.jns 5).is),gI (n.jns 5).normal,.sl ((n.jns 5).l.map enE),.v (.bool (n.jns 6).is),gI (n.jns 6).normal,.sl ((n.jns 6).l.map enE),gI n.first,gI (n.aks 0),gI (n.aks 1),gI (n.aks 2),gI (n.aks 3),gI (n.aks 4),gI (n.aks 5),gI (n.aks 6),.v (.bool (n.hrd 0)),.v (.bool (n.hrd 1)),.v (.bool (n.hrd 2)),.v (.bool (n.hrd 3)),.v (.bool (n.hrd 4)),.v (.bool (n.hrd 5)),.v (.bool (n.hrd 6))]
theorem Z8u (l:List RFd):(Q9 l).length≤1026 * l.length:=by
 unfold Q9
 split
 ·next h=>exact Jo (Cu h)
 ·exact Nat.zero_le _
theorem Dy (k a b:Int)(s:ByteArray):(C9 k a b s).size≤4104:=by
 have:=Z8u [⟨1,k,eS⟩,⟨2,a,eS⟩,⟨2,b,eS⟩,⟨3,0,s⟩]
 unfold C9
 show(Q9 _).toArray.size≤_
 rw[List.size_toArray]
 exact this
theorem D5 (k a b:Int)(s:ByteArray):FnV Tryz.prog 96 [gI k,gI a,gI b,.v (.string s)] fun g=>g=.v (.string (C9 k a b s)):=by
 refine fnG Tryz.func96 (by kernel_rfl) rfl (Nat.le_of_ble_eq_true (by kernel_rfl)) (by kernel_rfl) ?_
 refine(Ri _).cal fun q hq=>?_
 subst hq
 refine(Gx _).cal fun q hq=>?_
 subst hq
 refine(Gx _).cal fun q hq=>?_
 subst hq
 refine(Uc [⟨1,k,eS⟩,⟨2,a,eS⟩,⟨2,b,eS⟩,⟨3,0,s⟩] (show 4≤800000 by decide)).cal fun q rs hq=>?_
 obtain⟨rfl,rfl⟩:=hq
 refine⟨_,rfl,?_⟩
 exact rfl
theorem Qk (l:List REnt)(hl:l.length≤1000000):FnO Tryz.prog 63 [.sl (l.map enE)] [] fun g rs=>g=.osl 0∧rs=[.slc (l.map enE) tEn 3]:=by
 refine Bo Tryz.func63 (by kernel_rfl) rfl (Nat.le_of_ble_eq_true (by kernel_rfl)) (by kernel_rfl) (Rl _) ?_
 refine⟨fun b hb=>?_⟩
 refine EvIf.mk (fun h=>?_) fun h=>?_
 ·have e:l.map enE=[]:=Classical.byContradiction fun hne=>by rw[hb hne] at h;cases h
  exact Iy (k:=1) rfl e.symm
 ·refine⟨fun r hr=>?_,by simp;omega,?_⟩
  ·obtain⟨c,-,rfl⟩:=List.mem_map.1 hr
   exact⟨rfl,rfl⟩
  ·exact Iy (k:=2) rfl (List.nil_append _)
theorem Zbn (l:List REnt)(hl:l.length≤1000000):FnO Tryz.prog 63 [.osl 0] [.slc (l.map enE) tEn 3] fun g rs=>g=.osl 1∧rs=[.slc (l.map enE) tEn 3,.slc (l.map enE) tEn 3] :=
 FnO.peekN (Qk l hl) rfl fun r hr g hg=>by
  obtain⟨s,-,rfl⟩:=List.mem_map.1 hr
  unfold enE at hg
  simp only[List.mem_cons,List.not_mem_nil,or_false] at hg
  rcases hg with rfl | rfl | rfl<;>rfl
theorem Z74 (n:PN)(b e:Nat):FnO Tryz.prog 23 [.ptr 0 0] (cA n b e) fun g rs=>g=.v (.bool n.lds)∧rs=cA n b e:=by
 refine Bo Tryz.func23 (by kernel_rfl) rfl (Nat.le_of_ble_eq_true (by kernel_rfl)) (by kernel_rfl) (A8 (O:=oAs n b e) (n0:=5) rfl) ?_
 exact .inl (A1 (oAs n b e) [] ⟨⟨rfl,rfl,rfl⟩,⟨rfl,rfl,rfl⟩,⟨rfl,rfl,rfl⟩,⟨rfl,rfl,rfl⟩,⟨rfl,rfl,rfl⟩,trivial⟩ rfl ⟨_,rfl⟩ rfl rfl ⟨rfl,rfl⟩)
theorem Tn (n:PN)(b e:Nat):FnO Tryz.prog 24 [.ptr 0 0] (cA n b e) fun g rs=>g=gI n.cmt∧rs=cA n b e:=by
 refine Bo Tryz.func24 (by kernel_rfl) rfl (Nat.le_of_ble_eq_true (by kernel_rfl)) (by kernel_rfl) (A8 (O:=oAs n b e) (n0:=5) rfl) ?_
 exact .inl (A1 (oAs n b e) [] ⟨⟨rfl,rfl,rfl⟩,⟨rfl,rfl,rfl⟩,⟨rfl,rfl,rfl⟩,⟨rfl,rfl,rfl⟩,⟨rfl,rfl,rfl⟩,trivial⟩ rfl ⟨_,rfl⟩ rfl rfl ⟨rfl,rfl⟩)
theorem Za5 (n:PN)(b e:Nat):FnO Tryz.prog 131 [.ptr 0 0,gI 0] (cA n b e) fun g rs=>g=.v (.bool true)∧rs=cA n b e:=by
 refine Bo Tryz.func131 (by kernel_rfl) rfl (Nat.le_of_ble_eq_true (by kernel_rfl)) (by kernel_rfl) (A8 (O:=oAs n b e) (n0:=5) rfl) ?_
 refine EvIf.bne (fun h=>absurd rfl h) fun _=>?_
 exact .inl (A1 (oAs n b e) [] ⟨⟨rfl,rfl,rfl⟩,⟨rfl,rfl,rfl⟩,⟨rfl,rfl,rfl⟩,⟨rfl,rfl,rfl⟩,⟨rfl,rfl,rfl⟩,trivial⟩ rfl ⟨_,rfl⟩ rfl rfl ⟨rfl,rfl⟩)
theorem Z9g (n:PN)(b e:Nat){er:Int}(he:er≠0):FnO Tryz.prog 131 [.ptr 0 0,gI er] (cA n b e) fun g rs=>g=.v (.bool false)∧rs=cA (Dd n er) b e:=by
 refine FnO.mono (Q:=fun g rs=>g=.v (.bool (er==0))∧rs=cA (Dd n er) b e) ?_ fun g rs h=>by rw[show(er==0)=false by simpa using he] at h;exact h
 refine Bo Tryz.func131 (by kernel_rfl) rfl (Nat.le_of_ble_eq_true (by kernel_rfl)) (by kernel_rfl) (A8 (O:=oAs n b e) (n0:=5) rfl) ?_
 refine EvIf.bne (fun _=>?_) fun h=>absurd h he
 have e1:Dd n er={n with dead:=true,out:=[]}:=by unfold Dd;rw[if_pos he]
 exact .gh (.nil 0 (Z5e n (.osl 2)) [.tt] tNd tPk 3 rfl (by decide) (.seen 0 _ _ rfl (.done (A1 (oAs {n with dead:=true,out:=[]} b e) [(1,1),(2,2),(3,5),(4,4)] ⟨⟨rfl,rfl,rfl⟩,⟨rfl,rfl,rfl⟩,⟨rfl,rfl,rfl⟩,⟨rfl,rfl,rfl⟩,⟨rfl,rfl,rfl⟩,trivial⟩ rfl ⟨_,rfl⟩ rfl rfl ⟨rfl,by rw[e1]⟩))))
theorem Zd6 (n:PN)(b e:Nat):FnO Tryz.prog 25 [.ptr 0 0] (cA n b e) fun g rs=>g=.osl 1∧rs=[.abs (cl (oAs {n with out:=[]} b e)),.slc (n.out.map pkG) tPk 3]:=by
 refine Bo Tryz.func25 (by kernel_rfl) rfl (Nat.le_of_ble_eq_true (by kernel_rfl)) (by kernel_rfl) (A8 (O:=oAs n b e) (n0:=5) rfl) ?_
 exact .gh (.nil 0 (Z5e n (.osl 2)) [.v (.bool n.dead)] tNd tPk 3 rfl (by decide) (.done ⟨[⟨oAs {n with out:=[]} b e,[(1,1),(2,2),(3,6),(4,4)],true⟩,⟨[(0,.slc (n.out.map pkG) tPk 3)],[(0,3)],false⟩],.osl 1,⟨⟨⟨⟨⟨rfl,rfl,rfl⟩,⟨rfl,rfl,rfl⟩,⟨rfl,rfl,rfl⟩,⟨rfl,rfl,rfl⟩,⟨rfl,rfl,rfl⟩,trivial⟩,_,rfl⟩,⟨_,rfl,rfl,rfl⟩,trivial⟩,rfl,⟨_,rfl⟩,rfl,rfl,⟨rfl,rfl⟩⟩⟩))
theorem Zds (n:PN)(b e:Nat)(hl:n.log.length≤1000000):FnO Tryz.prog 22 [.ptr 0 0] (cA n b e) fun g rs=>g=.osl 1∧rs=[.abs (cl (oAs n b e)),.slc (n.log.map enE) tEn 3]:=by
 refine Bo Tryz.func22 (by kernel_rfl) rfl (Nat.le_of_ble_eq_true (by kernel_rfl)) (by kernel_rfl) (A8 (O:=oAs n b e) (n0:=5) rfl) ?_
 refine EvCall.lend ((Zbn n.log hl).cal fun q rs hq=>?_)
 obtain⟨rfl,rfl⟩:=hq
 exact .inl ⟨[⟨oAs n b e,[],true⟩,⟨[(0,.slc (n.log.map enE) tEn 3)],[(0,6)],false⟩],.osl 1,⟨⟨⟨⟨⟨rfl,rfl,rfl⟩,⟨rfl,rfl,rfl⟩,⟨rfl,rfl,rfl⟩,⟨rfl,rfl,rfl⟩,⟨rfl,rfl,rfl⟩,trivial⟩,_,rfl⟩,⟨_,rfl,rfl,rfl⟩,trivial⟩,rfl,⟨_,rfl⟩,rfl,rfl,⟨rfl,rfl⟩⟩⟩
theorem Z9v (n:PN)(b e:Nat):FnO Tryz.prog 131 [.ptr 0 0,gI 0] (cB n b e) fun g rs=>g=.v (.bool true)∧rs=cB n b e:=by
 refine Bo Tryz.func131 (by kernel_rfl) rfl (Nat.le_of_ble_eq_true (by kernel_rfl)) (by kernel_rfl) (A8 (O:=oBs n b e) (n0:=5) rfl) ?_
 refine EvIf.bne (fun h=>absurd rfl h) fun _=>?_
 exact .inl (A1 (oBs n b e) [] ⟨⟨rfl,rfl,rfl⟩,⟨rfl,rfl,rfl⟩,⟨rfl,rfl,rfl⟩,⟨rfl,rfl,rfl⟩,⟨rfl,rfl,rfl⟩,trivial⟩ rfl ⟨_,rfl⟩ rfl rfl ⟨rfl,rfl⟩)
theorem Zcb (n:PN)(b e:Nat){er:Int}(he:er≠0):FnO Tryz.prog 131 [.ptr 0 0,gI er] (cB n b e) fun g rs=>g=.v (.bool false)∧rs=cB (Dd n er) b e:=by
 refine FnO.mono (Q:=fun g rs=>g=.v (.bool (er==0))∧rs=cB (Dd n er) b e) ?_ fun g rs h=>by rw[show(er==0)=false by simpa using he] at h;exact h
 refine Bo Tryz.func131 (by kernel_rfl) rfl (Nat.le_of_ble_eq_true (by kernel_rfl)) (by kernel_rfl) (A8 (O:=oBs n b e) (n0:=5) rfl) ?_
 refine EvIf.bne (fun _=>?_) fun h=>absurd h he
 have e1:Dd n er={n with dead:=true,out:=[]}:=by unfold Dd;rw[if_pos he]
 exact .gh (.nil 0 (Z5e n (.sl (n.log.map enE))) [.tt] tNd tPk 3 rfl (by decide) (.seen 0 _ _ rfl (.done (A1 (oBs {n with dead:=true,out:=[]} b e) [(1,1),(2,2),(3,5),(4,4)] ⟨⟨rfl,rfl,rfl⟩,⟨rfl,rfl,rfl⟩,⟨rfl,rfl,rfl⟩,⟨rfl,rfl,rfl⟩,⟨rfl,rfl,rfl⟩,trivial⟩ rfl ⟨_,rfl⟩ rfl rfl ⟨rfl,by rw[e1]⟩))))
theorem Zd8 (n:PN)(b e:Nat):FnO Tryz.prog 25 [.ptr 0 0] (cB n b e) fun g rs=>g=.osl 1∧rs=[.abs (cl (oBs {n with out:=[]} b e)),.slc (n.out.map pkG) tPk 3]:=by
 refine Bo Tryz.func25 (by kernel_rfl) rfl (Nat.le_of_ble_eq_true (by kernel_rfl)) (by kernel_rfl) (A8 (O:=oBs n b e) (n0:=5) rfl) ?_
 exact .gh (.nil 0 (Z5e n (.sl (n.log.map enE))) [.v (.bool n.dead)] tNd tPk 3 rfl (by decide) (.done ⟨[⟨oBs {n with out:=[]} b e,[(1,1),(2,2),(3,6),(4,4)],true⟩,⟨[(0,.slc (n.out.map pkG) tPk 3)],[(0,3)],false⟩],.osl 1,⟨⟨⟨⟨⟨rfl,rfl,rfl⟩,⟨rfl,rfl,rfl⟩,⟨rfl,rfl,rfl⟩,⟨rfl,rfl,rfl⟩,⟨rfl,rfl,rfl⟩,trivial⟩,_,rfl⟩,⟨_,rfl,rfl,rfl⟩,trivial⟩,rfl,⟨_,rfl⟩,rfl,rfl,⟨rfl,rfl⟩⟩⟩))
end Go.Proofs.YtihfaocdpmmooaaGreat
namespace Go.Proofs.YtihfaocdpmmooaaGreat
open Go.RowKit
set_option maxRecDepth 100000
abbrev cellsH (n:PN)(u:Nat→Value)(o:G):List G:=[gI n.self,gI n.many,.v (u 2),gI n.pmd,gI n.normal,.v (u 5),gI n.cmt,.v (.bool n.lds),.v (.bool n.std),.v (.bool (n.jns 0).is),gI (n.jns 0).normal,.v (u 11),.v (.bool (n.jns 1).is),gI (n.jns 1).normal,.v (u 14),.v (.bool (n.jns 2).is),gI (n.jns 2).normal,.v (u 17),.v (.bool (n.jns 3).is),gI (n.jns 3).normal,.v (u 20),.v (.bool (n.jns 4).is),gI (n.jns 4).normal,.v (u 23),.v (.bool (n.jns 5).is),gI (n.jns 5).normal,.v (u 26),.v (.bool (n.jns 6).is),gI (n.jns 6).normal,.v (u 29),gI n.first,gI (n.aks 0),gI (n.aks 1),gI (n.aks 2),gI (n.aks 3),gI (n.aks 4),gI (n.aks 5),gI (n.aks 6),.v (.bool (n.hrd 0)),.v (.bool (n.hrd 1)),.v (.bool (n.hrd 2)),.v (.bool (n.hrd 3)),.v (.bool (n.hrd 4)),.v (.bool (n.hrd 5)),.v (.bool (n.hrd 6)),o,.v (.bool n.dead)]
abbrev Zed (n:PN)(u:Nat→Value):List G:=[gI n.self,gI n.many,.v (u 2),gI n.pmd,gI n.normal,.v (u 5),gI n.cmt,.v (.bool n.lds),.v (.bool n.std),.v (.bool (n.jns 0).is),gI (n.jns 0).normal,.v (u 11),.v (.bool (n.jns 1).is),gI (n.jns 1).normal,.v (u 14),.v (.bool (n.jns 2).is),gI (n.jns 2).normal,.v (u 17),.v (.bool (n.jns 3).is),gI (n.jns 3).normal,.v (u 20),.v (.bool (n.jns 4).is),gI (n.jns 4).normal,.v (u 23),.v (.bool (n.jns 5).is),gI (n.jns 5).normal,.v (u 26),.v (.bool (n.jns 6).is),gI (n.jns 6).normal,.v (u 29),gI n.first,gI (n.aks 0),gI (n.aks 1),gI (n.aks 2),gI (n.aks 3),gI (n.aks 4),gI (n.aks 5),gI (n.aks 6),.v (.bool (n.hrd 0)),.v (.bool (n.hrd 1)),.v (.bool (n.hrd 2)),.v (.bool (n.hrd 3)),.v (.bool (n.hrd 4)),.v (.bool (n.hrd 5)),.v (.bool (n.hrd 6))]
abbrev hN (n:PN)(u:Nat→Value):List R:=[.blk (cellsH n u (.osl 1)) tNd,.slc (n.out.map pkG) tPk 3]
theorem Ui (n:PN)(u:Nat→Value)(to:Nat)(m:RM)(hm:m.l.length≤1000000)(ho:n.out.length≤1000000):FnO Tryz.prog 99 [.ptr 0 0,gI to,.agg (enM m)] (hN n u) fun g rs=>g=.tup []∧rs=[.blk (cellsH (B4 n to m) u (.osl 2)) tNd,.gone,.slc ((B4 n to m).out.map pkG) tPk 3]:=by
 refine Bo Tryz.func99 (by kernel_rfl) rfl (Nat.le_of_ble_eq_true (by kernel_rfl)) (by kernel_rfl) (Cs _ _) ?_
 refine(En m hm).cal fun q hq=>?_
 subst hq
 unfold wrM
 refine EvIf.beq (fun h=>?_) fun h=>?_
 ·have hk:okM m=true:=by
   unfold eM at h
   split at h
   ·assumption
   ·cases h
  have e1:B4 n to m={n with out:=n.out++[⟨n.self,to,⟨(bM m).toArray⟩⟩]}:=by unfold B4;rw[if_pos hk]
  have e2:(B4 n to m).out.map pkG=n.out.map pkG++[[gI n.self,gI to,.v (.string ⟨(bM m).toArray⟩)]]:=by rw[e1];exact List.map_append
  rw[e2,e1]
  refine⟨by simp;omega,?_⟩
  exact .inl ⟨[⟨[(0,.blk (cellsH n u (.osl 2)) tNd)],[(0,0)],false⟩,⟨[(0,.gone)],[(0,1)],false⟩,⟨[(0,.slc (n.out.map pkG++[[gI n.self,gI to,.v (.string ⟨(bM m).toArray⟩)]]) tPk 3)],[(0,4)],false⟩],.tup [],⟨⟨⟨_,rfl,rfl,rfl⟩,⟨_,rfl,rfl,rfl⟩,⟨_,rfl,rfl,rfl⟩,trivial⟩,rfl,⟨_,rfl⟩,rfl,rfl,⟨rfl,rfl⟩⟩⟩
 ·have e1:B4 n to m=n:=by
   unfold eM at h
   split at h
   ·exact absurd rfl h
   ·unfold B4;rw[if_neg (by assumption)]
  rw[e1]
  exact .gh (.rnm 0 1 (Zed n u) [.v (.bool n.dead)] tNd _ tPk 3 rfl rfl (.done ⟨[⟨[(0,.blk (cellsH n u (.osl 2)) tNd)],[(0,0)],false⟩,⟨[(0,.gone)],[(0,1)],false⟩,⟨[(0,.slc (n.out.map pkG) tPk 3)],[(0,3)],false⟩],.tup [],⟨⟨⟨_,rfl,rfl,rfl⟩,⟨_,rfl,rfl,rfl⟩,⟨_,rfl,rfl,rfl⟩,trivial⟩,rfl,⟨_,rfl⟩,rfl,rfl,⟨rfl,rfl⟩⟩⟩))
theorem H8 (f:PN→Nat→PN)(n:PN)(i:Nat):R6 f n (i+1)=if i=(R6 f n i).self then R6 f n i else f (R6 f n i) i:=by unfold R6;rw[List.range_succ,List.foldl_append];rfl
def SameN (n n':PN):Prop:={n' with out:=n.out}=n
theorem SameN.refl (n:PN):SameN n n:=rfl
theorem SameN.to {n n':PN}(h:SameN n n'):∃o,n'={n with out:=o}:=⟨n'.out,by cases n;cases n';unfold SameN at h;cases h;rfl⟩
theorem SameN.trans {n n' n2:PN}(h:SameN n n')(h2:SameN n' n2):SameN n n2:=by
 obtain⟨o,rfl⟩:=h.to
 obtain⟨o2,rfl⟩:=h2.to
 rfl
theorem A5 (n:PN)(to:Nat)(m:RM):SameN n (B4 n to m):=by unfold B4 SameN;split<;>rfl
theorem Pa (n:PN)(to:Nat)(m:RM):(B4 n to m).out.length≤n.out.length+1:=by unfold B4;split<;>simp
abbrev tNp:Nat:=40
abbrev tMg:Nat:=29
theorem Yk (n:PN)(u:Nat→Value)(i:Nat)(m:RM)(hm:m.l.length≤1000000)(ho:n.out.length≤1000000):FnO Tryz.prog 98 [gI i,.ptr 0 0,.ptr 1 0] [.blk [.ptr 2 0] tNp,.blk (enM m) tMg,.blk (cellsH n u (.osl 3)) tNd,.slc (n.out.map pkG) tPk 3] fun g rs=>g=.tup []∧rs=[.blk [.ptr 2 0] tNp,.blk (enM m) tMg,.blk (cellsH (B4 n i m) u (.osl 4)) tNd,.gone,.slc ((B4 n i m).out.map pkG) tPk 3]:=by
 refine Bo Tryz.func98 (by kernel_rfl) rfl (Nat.le_of_ble_eq_true (by kernel_rfl)) (by kernel_rfl) (Cs _ _) ?_
 refine EvCall.lend ((Ui n u i m hm ho).cal fun q rs hq=>?_)
 obtain⟨rfl,rfl⟩:=hq
 exact .inl ⟨[⟨[(0,.blk [.ptr 2 0] tNp)],[(0,0)],false⟩,⟨[(0,.blk (enM m) tMg)],[(0,1)],false⟩,⟨[(0,.blk (cellsH (B4 n i m) u (.osl 4)) tNd)],[(0,2)],false⟩,⟨[(0,.gone)],[(0,3)],false⟩,⟨[(0,.slc ((B4 n i m).out.map pkG) tPk 3)],[(0,4)],false⟩],.tup [],⟨⟨⟨_,rfl,rfl,rfl⟩,⟨_,rfl,rfl,rfl⟩,⟨_,rfl,rfl,rfl⟩,⟨_,rfl,rfl,rfl⟩,⟨_,rfl,rfl,rfl⟩,trivial⟩,rfl,⟨_,rfl⟩,rfl,rfl,⟨rfl,rfl⟩⟩⟩
theorem Z3d (n:PN)(u:Nat→Value)(m:RM)(hm:m.l.length≤1000000)(hk:n.many≤100)(ho:n.out.length≤900000):FnO Tryz.prog 97 [.ptr 0 0,.clo 98 [] [.ptr 1 0,.ptr 2 0]] [.blk (cellsH n u (.osl 3)) tNd,.blk [.ptr 0 0] tNp,.blk (enM m) tMg,.slc (n.out.map pkG) tPk 3] fun g rs=>g=.tup []∧rs=[.blk (cellsH (R6 (fun n i=>B4 n i m) n n.many) u (.osl 4)) tNd,.blk [.ptr 0 0] tNp,.blk (enM m) tMg,.gone,.slc ((R6 (fun n i=>B4 n i m) n n.many).out.map pkG) tPk 3]:=by
 refine Bo Tryz.func97 (by kernel_rfl) rfl (Nat.le_of_ble_eq_true (by kernel_rfl)) (by kernel_rfl) (Cs _ _) ?_
 refine Dl [0,1,8] [1,2] (fun x:Nat × PN=>[(9,gI x.1)]) (fun x=>[(0,.blk (cellsH x.2 u (.osl 3)) tNd),(3,.slc (x.2.out.map pkG) tPk 3)]) (fun x=>x.1≤n.many∧x.2=R6 (fun n i=>B4 n i m) n x.1∧SameN n x.2∧x.2.out.length≤n.out.length+x.1) (fun x=>n.many - x.1) (0,n) ⟨Nat.zero_le _,rfl,rfl,Nat.le_refl _⟩ ⟨⟨rfl,rfl⟩,trivial⟩ ⟨⟨rfl,rfl,rfl⟩,⟨rfl,rfl,rfl⟩,trivial⟩ rfl fun⟨i,n'⟩ hI=>?_
 obtain⟨hi,hn,hs,hl⟩:=hI
 dsimp only at hi hn hs hl
 refine EvIf.dec (fun hlt=>?_) fun hge=>?_
 ·have hlt:i < n.many:=by omega
  have hst:=H8 (fun n i=>B4 n i m) n i
  rw[←hn] at hst
  refine EvIf.bne (fun hne=>?_) fun heq=>?_
  ·have hne:i≠n'.self:=fun e=>hne (by rw[e])
   rw[if_neg hne] at hst
   refine EvCall.lend ((Yk n' u i m hm (by omega)).cal fun q rs hq=>?_)
   obtain⟨rfl,rfl⟩:=hq
   refine⟨by omega,.done ⟨(i+1,B4 n' i m),[(3,4)],⟨hlt,hst.symm,hs.trans (A5 _ _ _),by have:=Pa n' i m;dsimp only;omega⟩,(by dsimp only;omega),?_⟩⟩
   refine⟨?_,?_,rfl⟩<;>repeat' (first | exact True.intro | with_reducible rfl | exact rfl | refine And.intro ?_ ?_)
  ·have heq:i=n'.self:=by have:((i:Nat):Int)=(n'.self:Nat):=heq;omega
   rw[if_pos heq] at hst
   refine⟨by omega,.done ⟨(i+1,n'),[],⟨hlt,hst.symm,hs,by dsimp only;omega⟩,(by dsimp only;omega),?_⟩⟩
   refine⟨?_,?_,rfl⟩<;>repeat' (first | exact True.intro | with_reducible rfl | exact rfl | refine And.intro ?_ ?_)
 ·have:i=n.many:=by omega
  subst this
  rw[←hn]
  conv=>whnf
  refine Gh.done ?_
  exact .gh (.rnm 0 3 (Zed n' u) [.v (.bool n'.dead)] tNd _ tPk 3 rfl rfl (.done ⟨[⟨[(0,.blk (cellsH n' u (.osl 4)) tNd)],[(0,0)],false⟩,⟨[(0,.blk [.ptr 0 0] tNp)],[(0,1)],false⟩,⟨[(0,.blk (enM m) tMg)],[(0,2)],false⟩,⟨[(0,.gone)],[(0,3)],false⟩,⟨[(0,.slc (n'.out.map pkG) tPk 3)],[(0,4)],false⟩],.tup [],⟨⟨⟨_,rfl,rfl,rfl⟩,⟨_,rfl,rfl,rfl⟩,⟨_,rfl,rfl,rfl⟩,⟨_,rfl,rfl,rfl⟩,⟨_,rfl,rfl,rfl⟩,trivial⟩,rfl,⟨_,rfl⟩,rfl,rfl,⟨rfl,rfl⟩⟩⟩))
theorem Mq (n:PN)(u:Nat→Value)(m:RM)(hm:m.l.length≤1000000)(hk:n.many≤100)(ho:n.out.length≤900000):FnO Tryz.prog 66 [.ptr 0 0,.agg (enM m)] (hN n u) fun g rs=>g=.tup []∧rs=[.blk (cellsH (Aw n m) u (.osl 2)) tNd,.gone,.slc ((Aw n m).out.map pkG) tPk 3]:=by
 refine Bo Tryz.func66 (by kernel_rfl) rfl (Nat.le_of_ble_eq_true (by kernel_rfl)) (by kernel_rfl) (Cs _ _) ?_
 refine EvCall.lend ((Z3d n u m hm hk ho).cal fun q rs hq=>?_)
 obtain⟨rfl,rfl⟩:=hq
 exact .inl ⟨[⟨[(0,.blk (cellsH (Aw n m) u (.osl 2)) tNd)],[(0,0)],false⟩,⟨[(0,.gone)],[(0,1)],false⟩,⟨[(0,.slc ((Aw n m).out.map pkG) tPk 3)],[(0,4)],false⟩],.tup [],⟨⟨⟨_,rfl,rfl,rfl⟩,⟨_,rfl,rfl,rfl⟩,⟨_,rfl,rfl,rfl⟩,trivial⟩,rfl,⟨_,rfl⟩,rfl,rfl,⟨rfl,rfl⟩⟩⟩
end Go.Proofs.YtihfaocdpmmooaaGreat
namespace Go.Proofs.YtihfaocdpmmooaaGreat
open Go.RowKit
set_option maxRecDepth 100000
theorem Z9a (l:List RPk):∀r∈l.map pkG,∀g∈r,F9 g=true:=fun r hr g hg=>by
 obtain⟨p,-,rfl⟩:=List.mem_map.1 hr
 unfold pkG at hg
 simp only[List.mem_cons,List.not_mem_nil,or_false] at hg
 rcases hg with rfl | rfl | rfl<;>rfl
theorem Z46 (n:PN)(f:PN→Nat→PN)(h:∀n i,SameN n (f n i))(k:Nat):SameN n (R6 f n k):=by
 induction k with
 | zero=>exact .refl n
 | succ k ih =>
  rw[H8]
  split
  ·exact ih
  ·exact ih.trans (h _ _)
theorem A6 (n:PN)(m:RM):SameN n (Aw n m):=Z46 n _ (fun n i=>A5 n i m) _
theorem SameN.cells {n n':PN}(h:SameN n n')(s l o:G):An n' s l o=An n s l o:=by
 obtain⟨x,rfl⟩:=h.to
 rfl
theorem SameN.cellsH {n n':PN}(h:SameN n n')(u:Nat→Value)(o:G):cellsH n' u o=Go.Proofs.YtihfaocdpmmooaaGreat.cellsH n u o:=by
 obtain⟨x,rfl⟩:=h.to
 rfl
theorem Z56 (n:PN):KeepS 3 4 (An n (.ptr 1 0) (.osl 2) (.osl 3)) (An n (.ptr 1 0) (.osl 2) (.osl 4)):=⟨.inl rfl,.inl rfl,.inr (.inr ⟨rfl,nofun⟩),.inl rfl,.inl rfl,.inr (.inr ⟨rfl,fun h=>by injection h with h;exact absurd h (by decide)⟩),.inl rfl,.inl rfl,.inl rfl,.inl rfl,.inl rfl,.inr (.inr ⟨rfl,nofun⟩),.inl rfl,.inl rfl,.inr (.inr ⟨rfl,nofun⟩),.inl rfl,.inl rfl,.inr (.inr ⟨rfl,nofun⟩),.inl rfl,.inl rfl,.inr (.inr ⟨rfl,nofun⟩),.inl rfl,.inl rfl,.inr (.inr ⟨rfl,nofun⟩),.inl rfl,.inl rfl,.inr (.inr ⟨rfl,nofun⟩),.inl rfl,.inl rfl,.inr (.inr ⟨rfl,nofun⟩),.inl rfl,.inl rfl,.inl rfl,.inl rfl,.inl rfl,.inl rfl,.inl rfl,.inl rfl,.inl rfl,.inl rfl,.inl rfl,.inl rfl,.inl rfl,.inl rfl,.inl rfl,.inr (.inl rfl),.inl rfl,trivial⟩
theorem Z62 (n:PN)(r:List (List G)):KeepS 2 3 (An n (.ptr 1 0) (.sl r) (.osl 2)) (An n (.ptr 1 0) (.sl r) (.osl 3)):=⟨.inl rfl,.inl rfl,.inr (.inr ⟨rfl,nofun⟩),.inl rfl,.inl rfl,.inr (.inr ⟨rfl,nofun⟩),.inl rfl,.inl rfl,.inl rfl,.inl rfl,.inl rfl,.inr (.inr ⟨rfl,nofun⟩),.inl rfl,.inl rfl,.inr (.inr ⟨rfl,nofun⟩),.inl rfl,.inl rfl,.inr (.inr ⟨rfl,nofun⟩),.inl rfl,.inl rfl,.inr (.inr ⟨rfl,nofun⟩),.inl rfl,.inl rfl,.inr (.inr ⟨rfl,nofun⟩),.inl rfl,.inl rfl,.inr (.inr ⟨rfl,nofun⟩),.inl rfl,.inl rfl,.inr (.inr ⟨rfl,nofun⟩),.inl rfl,.inl rfl,.inl rfl,.inl rfl,.inl rfl,.inl rfl,.inl rfl,.inl rfl,.inl rfl,.inl rfl,.inl rfl,.inl rfl,.inl rfl,.inl rfl,.inl rfl,.inr (.inl rfl),.inl rfl,trivial⟩
theorem Z5o (n:PN):KeepS 3 4 (An n (.ptr 2 0) (.osl 1) (.osl 3)) (An n (.ptr 2 0) (.osl 1) (.osl 4)):=⟨.inl rfl,.inl rfl,.inr (.inr ⟨rfl,nofun⟩),.inl rfl,.inl rfl,.inr (.inr ⟨rfl,fun h=>by injection h with h;exact absurd h (by decide)⟩),.inl rfl,.inl rfl,.inl rfl,.inl rfl,.inl rfl,.inr (.inr ⟨rfl,nofun⟩),.inl rfl,.inl rfl,.inr (.inr ⟨rfl,nofun⟩),.inl rfl,.inl rfl,.inr (.inr ⟨rfl,nofun⟩),.inl rfl,.inl rfl,.inr (.inr ⟨rfl,nofun⟩),.inl rfl,.inl rfl,.inr (.inr ⟨rfl,nofun⟩),.inl rfl,.inl rfl,.inr (.inr ⟨rfl,nofun⟩),.inl rfl,.inl rfl,.inr (.inr ⟨rfl,nofun⟩),.inl rfl,.inl rfl,.inl rfl,.inl rfl,.inl rfl,.inl rfl,.inl rfl,.inl rfl,.inl rfl,.inl rfl,.inl rfl,.inl rfl,.inl rfl,.inl rfl,.inl rfl,.inr (.inl rfl),.inl rfl,trivial⟩
theorem Eo (n:PN)(p:Ob)(to:Nat)(m:RM)(hm:m.l.length≤1000000)(ho:n.out.length≤1000000):FnO Tryz.prog 99 [.ptr 0 0,gI to,.agg (enM m)] [.blk (An n (.ptr 1 0) (.osl 2) (.osl 3)) tNd,.abs p,.slc (n.log.map enE) tEn 3,.slc (n.out.map pkG) tPk 3] fun g rs=>g=.tup []∧rs=[.blk (An (B4 n to m) (.ptr 1 0) (.osl 2) (.osl 4)) tNd,.abs p,.slc (n.log.map enE) tEn 3,.gone,.slc ((B4 n to m).out.map pkG) tPk 3]:=by
 rw[(A5 n to m).cells]
 exact FnO.peekZ (rest:=[.abs p,.slc (n.log.map enE) tEn 3,.slc (n.out.map pkG) tPk 3]) (jo:=3) rfl (Z56 n) rfl rfl (Z9a _) fun u=>by
  have:=Ui n u to m hm ho
  rw[(A5 n to m).cellsH] at this
  exact this
theorem Hy (n:PN)(p:Ob)(to:Nat)(m:RM)(hm:m.l.length≤1000000)(ho:n.out.length≤1000000):FnO Tryz.prog 99 [.ptr 0 0,gI to,.agg (enM m)] [.blk (An n (.ptr 1 0) (.sl (n.log.map enE)) (.osl 2)) tNd,.abs p,.slc (n.out.map pkG) tPk 3] fun g rs=>g=.tup []∧rs=[.blk (An (B4 n to m) (.ptr 1 0) (.sl (n.log.map enE)) (.osl 3)) tNd,.abs p,.gone,.slc ((B4 n to m).out.map pkG) tPk 3]:=by
 rw[(A5 n to m).cells]
 exact FnO.peekZ (rest:=[.abs p,.slc (n.out.map pkG) tPk 3]) (jo:=2) rfl (Z62 n _) rfl rfl (Z9a _) fun u=>by
  have:=Ui n u to m hm ho
  rw[(A5 n to m).cellsH] at this
  exact this
theorem E4 (n:PN)(p:Ob)(m:RM)(hm:m.l.length≤1000000)(hk:n.many≤100)(ho:n.out.length≤900000):FnO Tryz.prog 66 [.ptr 0 0,.agg (enM m)] [.blk (An n (.ptr 1 0) (.osl 2) (.osl 3)) tNd,.abs p,.slc (n.log.map enE) tEn 3,.slc (n.out.map pkG) tPk 3] fun g rs=>g=.tup []∧rs=[.blk (An (Aw n m) (.ptr 1 0) (.osl 2) (.osl 4)) tNd,.abs p,.slc (n.log.map enE) tEn 3,.gone,.slc ((Aw n m).out.map pkG) tPk 3]:=by
 rw[(A6 n m).cells]
 exact FnO.peekZ (rest:=[.abs p,.slc (n.log.map enE) tEn 3,.slc (n.out.map pkG) tPk 3]) (jo:=3) rfl (Z56 n) rfl rfl (Z9a _) fun u=>by
  have:=Mq n u m hm hk ho
  rw[(A6 n m).cellsH] at this
  exact this
theorem Er (n:PN)(p:Ob)(m:RM)(hm:m.l.length≤1000000)(hk:n.many≤100)(ho:n.out.length≤900000):FnO Tryz.prog 66 [.ptr 0 0,.agg (enM m)] [.blk (An n (.ptr 1 0) (.sl (n.log.map enE)) (.osl 2)) tNd,.abs p,.slc (n.out.map pkG) tPk 3] fun g rs=>g=.tup []∧rs=[.blk (An (Aw n m) (.ptr 1 0) (.sl (n.log.map enE)) (.osl 3)) tNd,.abs p,.gone,.slc ((Aw n m).out.map pkG) tPk 3]:=by
 rw[(A6 n m).cells]
 exact FnO.peekZ (rest:=[.abs p,.slc (n.out.map pkG) tPk 3]) (jo:=2) rfl (Z62 n _) rfl rfl (Z9a _) fun u=>by
  have:=Mq n u m hm hk ho
  rw[(A6 n m).cellsH] at this
  exact this
theorem Gm (n:PN)(p:Ob)(to:Nat)(m:RM)(q:G)(hq:Z1a ((1,.froz (n.log.map enE) 3)::B2 [.blk (An n (.ptr 2 0) (.osl 1) (.osl 3)) tNd,.slc (n.log.map enE) tEn 3,.abs p,.slc (n.out.map pkG) tPk 3] 0) q=.agg (enM m))(hm:m.l.length≤1000000)(ho:n.out.length≤1000000):FnO Tryz.prog 99 [.ptr 0 0,gI to,q] [.blk (An n (.ptr 2 0) (.osl 1) (.osl 3)) tNd,.slc (n.log.map enE) tEn 3,.abs p,.slc (n.out.map pkG) tPk 3] fun g rs=>g=.tup []∧rs=[.blk (An (B4 n to m) (.ptr 2 0) (.osl 1) (.osl 4)) tNd,.slc (n.log.map enE) tEn 3,.abs p,.gone,.slc ((B4 n to m).out.map pkG) tPk 3]:=by
 rw[(A5 n to m).cells]
 exact FnO.peekF (rest:=[.slc (n.log.map enE) tEn 3,.abs p,.slc (n.out.map pkG) tPk 3]) (jo:=3) (js:=1) (gs':=[gI to,.agg (enM m)]) rfl rfl (by decide) (Z5o n) (by rw[←hq];rfl) rfl (Z9a _) fun u=>by
  have:=Ui n u to m hm ho
  rw[(A5 n to m).cellsH] at this
  exact this
theorem Es (n:PN)(p:Ob)(m:RM)(q:G)(hq:Z1a ((1,.froz (n.log.map enE) 3)::B2 [.blk (An n (.ptr 2 0) (.osl 1) (.osl 3)) tNd,.slc (n.log.map enE) tEn 3,.abs p,.slc (n.out.map pkG) tPk 3] 0) q=.agg (enM m))(hm:m.l.length≤1000000)(hk:n.many≤100)(ho:n.out.length≤900000):FnO Tryz.prog 66 [.ptr 0 0,q] [.blk (An n (.ptr 2 0) (.osl 1) (.osl 3)) tNd,.slc (n.log.map enE) tEn 3,.abs p,.slc (n.out.map pkG) tPk 3] fun g rs=>g=.tup []∧rs=[.blk (An (Aw n m) (.ptr 2 0) (.osl 1) (.osl 4)) tNd,.slc (n.log.map enE) tEn 3,.abs p,.gone,.slc ((Aw n m).out.map pkG) tPk 3]:=by
 rw[(A6 n m).cells]
 exact FnO.peekF (rest:=[.slc (n.log.map enE) tEn 3,.abs p,.slc (n.out.map pkG) tPk 3]) (jo:=3) (js:=1) (gs':=[.agg (enM m)]) rfl rfl (by decide) (Z5o n) (by rw[←hq];rfl) rfl (Z9a _) fun u=>by
  have:=Mq n u m hm hk ho
  rw[(A6 n m).cellsH] at this
  exact this
end Go.Proofs.YtihfaocdpmmooaaGreat
namespace Go.Proofs.YtihfaocdpmmooaaGreat
open Go.RowKit
set_option maxRecDepth 100000
theorem Pq {n:PN}{i:Nat}{e:REnt}(h:n.log[i]?=some e):(C9 1 n.pmd 0 eS::C9 2 n.normal 0 eS::(n.log.take i).map fun e=>C9 3 e.v e.n e.b)++[C9 3 e.v e.n e.b]=C9 1 n.pmd 0 eS::C9 2 n.normal 0 eS::(n.log.take (i+1)).map fun e=>C9 3 e.v e.n e.b:=by
 rw[Ba h,List.map_append];rfl
abbrev tSg:Nat:=9
def Z1e (n:PN)(i:Nat):List ByteArray:=C9 1 n.pmd 0 eS::C9 2 n.normal 0 eS::(n.log.take i).map fun e=>C9 3 e.v e.n e.b
abbrev Zd7 (n:PN)(o:G):List G:=[gI n.cmt,.v (.bool n.lds),.v (.bool n.std),.v (.bool (n.jns 0).is),gI (n.jns 0).normal,.sl ((n.jns 0).l.map enE),.v (.bool (n.jns 1).is),gI (n.jns 1).normal,.sl ((n.jns 1).l.map enE),.v (.bool (n.jns 2).is),gI (n.jns 2).normal,.sl ((n.jns 2).l.map enE),.v (.bool (n.jns 3).is),gI (n.jns 3).normal,.sl ((n.jns 3).l.map enE),.v (.bool (n.jns 4).is),gI (n.jns 4).normal,.sl ((n.jns 4).l.map enE),.v (.bool (n.jns 5).is),gI (n.jns 5).normal,.sl ((n.jns 5).l.map enE),.v (.bool (n.jns 6).is),gI (n.jns 6).normal,.sl ((n.jns 6).l.map enE),gI n.first,gI (n.aks 0),gI (n.aks 1),gI (n.aks 2),gI (n.aks 3),gI (n.aks 4),gI (n.aks 5),gI (n.aks 6),.v (.bool (n.hrd 0)),.v (.bool (n.hrd 1)),.v (.bool (n.hrd 2)),.v (.bool (n.hrd 3)),.v (.bool (n.hrd 4)),.v (.bool (n.hrd 5)),.v (.bool (n.hrd 6)),o,.v (.bool n.dead)]
theorem Z3n (n:PN)(p:Ob)(hl:n.log.length≤1000000):FnO Tryz.prog 133 [.ptr 0 0] [.blk (An n (.ptr 1 0) (.osl 2) (.osl 3)) tNd,.abs p,.slc (n.log.map enE) tEn 3,.slc (n.out.map pkG) tPk 3] fun g rs=>g=.osl 6∧rs=[.blk (An n (.ptr 1 0) (.osl 4) (.osl 5)) tNd,.abs p,.gone,.gone,.slc (n.log.map enE) tEn 3,.slc (n.out.map pkG) tPk 3,.slc ((Bk n).map gSt) tSg 1]:=by
 refine Bo Tryz.func133 (by kernel_rfl) rfl (Nat.le_of_ble_eq_true (by kernel_rfl)) (by kernel_rfl) (Cs _ _) ?_
 refine(D5 _ _ _ _).cal fun q hq=>?_
 subst hq
 refine(D5 _ _ _ _).cal fun q hq=>?_
 subst hq
 refine Ay [20,21] [0,1,2,3] (fun i:Nat=>[(22,gI i),(3,.osl 5)]) (fun i=>[(5,.slc ((Z1e n i).map gSt) tSg 1)]) (fun i=>i≤n.log.length) (fun i=>n.log.length - i) 0 (Nat.zero_le _) ⟨⟨rfl,rfl⟩,⟨rfl,rfl⟩,trivial⟩ ⟨⟨rfl,rfl,eqR (by rfl)⟩,trivial⟩ rfl fun i hi=>?_
 refine EvIf.dec (fun h=>?_) fun h=>?_
 ·rw[List.length_map] at h
  obtain⟨c,hc⟩:∃c,n.log[i]?=some c:=⟨_,List.getElem?_eq_getElem (by omega)⟩
  refine⟨⟨by omega,by rw[List.length_map];omega⟩,?_⟩
  refine EvIdx.at hc ?_
  have hlt:=Ch hc
  refine(D5 _ _ _ _).cal fun q hq=>?_
  subst hq
  refine⟨by unfold Z1e;simp;omega,?_⟩
  refine⟨by omega,i+1,hlt,(by dsimp only;omega),?_⟩
  refine⟨?_,?_,rfl⟩<;>repeat' (first | exact True.intro | with_reducible rfl | exact rfl | refine And.intro ?_ ?_)
  exact eqR (by unfold Z1e;rw[←Pq hc];simp;rfl)
 ·have hi2:i=n.log.length:=by rw[List.length_map] at h;omega
  subst hi2
  have e1:Z1e n n.log.length=Bk n:=by unfold Z1e Bk;rw[List.take_length]
  rw[e1]
  exact .gh (.rnm 0 2 [gI n.self,gI n.many,.ptr 1 0,gI n.pmd,gI n.normal] (Zd7 n (.osl 3)) tNd _ tEn 3 rfl rfl (.rnm 0 3 (Z5e n (.osl 6)) [.v (.bool n.dead)] tNd _ tPk 3 rfl rfl (.done ⟨[⟨[(0,.blk (An n (.ptr 1 0) (.osl 4) (.osl 5)) tNd)],[(0,0)],false⟩,⟨[(0,.abs p)],[(0,1)],false⟩,⟨[(0,.gone)],[(0,2)],false⟩,⟨[(0,.gone)],[(0,3)],false⟩,⟨[(0,.slc (n.log.map enE) tEn 3)],[(0,6)],false⟩,⟨[(0,.slc (n.out.map pkG) tPk 3)],[(0,7)],false⟩,⟨[(0,.slc ((Bk n).map gSt) tSg 1)],[(0,5)],false⟩],.osl 6,⟨⟨⟨_,rfl,rfl,rfl⟩,⟨_,rfl,rfl,rfl⟩,⟨_,rfl,rfl,rfl⟩,⟨_,rfl,rfl,rfl⟩,⟨_,rfl,rfl,rfl⟩,⟨_,rfl,rfl,rfl⟩,⟨_,rfl,rfl,rfl⟩,trivial⟩,rfl,⟨_,rfl⟩,rfl,rfl,⟨rfl,rfl⟩⟩⟩)))
theorem Zd2 (n:PN)(p:Ob)(hl:n.log.length≤1000000):FnO Tryz.prog 133 [.ptr 0 0] [.blk (An n (.ptr 1 0) (.sl (n.log.map enE)) (.osl 2)) tNd,.abs p,.slc (n.out.map pkG) tPk 3] fun g rs=>g=.osl 4∧rs=[.blk (An n (.ptr 1 0) (.sl (n.log.map enE)) (.osl 3)) tNd,.abs p,.gone,.slc (n.out.map pkG) tPk 3,.slc ((Bk n).map gSt) tSg 1]:=by
 refine Bo Tryz.func133 (by kernel_rfl) rfl (Nat.le_of_ble_eq_true (by kernel_rfl)) (by kernel_rfl) (Cs _ _) ?_
 refine(D5 _ _ _ _).cal fun q hq=>?_
 subst hq
 refine(D5 _ _ _ _).cal fun q hq=>?_
 subst hq
 refine Ay [20,21] [0,1,2] (fun i:Nat=>[(22,gI i),(3,.osl 4)]) (fun i=>[(4,.slc ((Z1e n i).map gSt) tSg 1)]) (fun i=>i≤n.log.length) (fun i=>n.log.length - i) 0 (Nat.zero_le _) ⟨⟨rfl,rfl⟩,⟨rfl,rfl⟩,trivial⟩ ⟨⟨rfl,rfl,eqR (by rfl)⟩,trivial⟩ rfl fun i hi=>?_
 refine EvIf.dec (fun h=>?_) fun h=>?_
 ·skip
  skip
  skip
  refine EvIdx.of (by simpa using h) fun c hc=>?_
  have hlt:=Ch hc
  refine(D5 _ _ _ _).cal fun q hq=>?_
  subst hq
  refine⟨by unfold Z1e;simp;omega,?_⟩
  refine⟨by omega,i+1,hlt,(by dsimp only;omega),?_⟩
  refine⟨?_,?_,rfl⟩<;>repeat' (first | exact True.intro | with_reducible rfl | exact rfl | refine And.intro ?_ ?_)
  exact eqR (by unfold Z1e;rw[←Pq hc];simp;rfl)
 ·have hi2:i=n.log.length:=by rw[List.length_map] at h;omega
  subst hi2
  have e1:Z1e n n.log.length=Bk n:=by unfold Z1e Bk;rw[List.take_length]
  rw[e1]
  exact .gh (.rnm 0 2 (Z5e n (.sl (n.log.map enE))) [.v (.bool n.dead)] tNd _ tPk 3 rfl rfl (.done ⟨[⟨[(0,.blk (An n (.ptr 1 0) (.sl (n.log.map enE)) (.osl 3)) tNd)],[(0,0)],false⟩,⟨[(0,.abs p)],[(0,1)],false⟩,⟨[(0,.gone)],[(0,2)],false⟩,⟨[(0,.slc (n.out.map pkG) tPk 3)],[(0,5)],false⟩,⟨[(0,.slc ((Bk n).map gSt) tSg 1)],[(0,4)],false⟩],.osl 4,⟨⟨⟨_,rfl,rfl,rfl⟩,⟨_,rfl,rfl,rfl⟩,⟨_,rfl,rfl,rfl⟩,⟨_,rfl,rfl,rfl⟩,⟨_,rfl,rfl,rfl⟩,trivial⟩,rfl,⟨_,rfl⟩,rfl,rfl,⟨rfl,rfl⟩⟩⟩))
end Go.Proofs.YtihfaocdpmmooaaGreat
namespace Go.Proofs.YtihfaocdpmmooaaGreat
open Go.RowKit
set_option maxRecDepth 100000
structure WK (l:LD):Prop where
 wa:WA l
 wait:l.d.wait.length≤80000
 all:l.all.length≤99000
theorem R3 {l:LD}(h:WK l)(s:ByteArray):WA (B9 l s)∧(B9 l s).d.wait.length≤80549:=by
 have hW:=h.wa
 have hwt:=h.wait
 have hall:=h.all
 unfold B9
 split
 ·exact⟨hW,by omega⟩
 ·split
  ·exact⟨hW,by omega⟩
  ·split
   ·exact⟨hW,by omega⟩
   ·next h1 h2 h3 =>
    have hroom:l.b.length+s.size+4≤35136:=by unfold Fs at h3;omega
    have hb:(l.b++frB s).length≤35136:=by rw[List.length_append,Db];omega
    have hw:=Z5d hW (by omega) l.half (l.b++frB s) l.b.length hb
    have hn:=Zg (l.b++frB s) l.b.length hb
    have h4:=(E9 (C4 l.half) (l.b++frB s) (nsW (l.b++frB s) l.b.length) l.d hW.d).2.2.1
    have hw2:(wrL l l.half (l.b++frB s) l.b.length).d.wait.length≤80549:=by show(runW _ _ _ _).1.wait.length≤_;omega
    split
    ·exact⟨⟨hw.d,hw.many,hw.armed,hw.wait,hw.half,hb,by show(l.all++[s]).length≤_;simp;omega,hw.mark⟩,hw2⟩
    ·exact⟨hw,hw2⟩
theorem Hq (n:PN):(Bk n).length=n.log.length+2:=by unfold Bk;simp
theorem Ft (n:PN):∀s∈Bk n,s.size≤1000000:=fun s hs=>by
 unfold Bk at hs
 rcases List.mem_cons.1 hs with rfl | hs
 ·have:=Dy 1 n.pmd 0 eS;omega
 ·rcases List.mem_cons.1 hs with rfl | hs
  ·have:=Dy 2 n.normal 0 eS;omega
  ·obtain⟨e,-,rfl⟩:=List.mem_map.1 hs
   have:=Dy 3 e.v e.n e.b;omega
theorem Z12 (n:PN)(b e:Nat)(er:Int):FnO Tryz.prog 131 [.ptr 0 0,gI er] (cA n b e) fun g rs=>g=.v (.bool (decide (er=0)))∧rs=cA (Dd n er) b e:=by
 by_cases h:er=0
 ·subst h
  exact Za5 n b e
 ·have:=Z9g n b e h
  rw[decide_eq_false h]
  exact this
theorem Z5y (n:PN)(b e:Nat)(h:WK n.st)(hl:n.log.length≤198)(r:ByteArray)(hr:r.size≤1000000):FnO Tryz.prog 95 [.ptr 0 0,.v (.string r)] (cA n b e) fun g rs=>g=.v (.bool (C8 n r))∧rs=cA (Bj n r) b e:=by
 refine Bo Tryz.func95 (by kernel_rfl) rfl (Nat.le_of_ble_eq_true (by kernel_rfl)) (by kernel_rfl) (A8 (O:=oAs n b e) (n0:=5) rfl) ?_
 obtain⟨hwa,hwt⟩:=R3 h r
 refine EvCall.lend ((Mn n.st e h.wa r hr).cal fun q rs hq=>?_)
 obtain⟨rfl,rfl⟩:=hq
 refine EvIf.beq (fun(h5:F8 n.st r=51)=>?_) fun(h5:F8 n.st r≠51)=>?_
 ·have eN:Bj n r=Dd {n with st:=Ek (B9 n.st r) (Bk n)} (Ic (B9 n.st r) (Bk n)):=by unfold Bj;rw[if_pos h5]
  have eB:C8 n r=decide (Ic (B9 n.st r) (Bk n)=0):=by unfold C8;rw[if_pos h5]
  rw[eN,eB]
  refine⟨?_,?_⟩
  all_goals
   refine EvCall.lend ((Z3n n _ (by omega)).cal fun q rs hq=>?_)
   obtain⟨rfl,rfl⟩:=hq
   refine EvCall.gh (.frz 7 _ _ _ rfl (.done (.see (.same ((Fl (B9 n.st r) e hwa (by omega) (Bk n) (by rw[Hq];omega) (Ft n)).cal fun q rs hq=>?_)))))
   obtain⟨rfl,rfl⟩:=hq
   refine .done ?_
   refine EvCall.gh (.close (oAs {n with st:=Ek (B9 n.st r) (Bk n)} b e) [(1,1),(2,5),(3,6),(4,4)] ⟨⟨rfl,rfl,rfl⟩,⟨rfl,rfl,rfl⟩,⟨rfl,rfl,rfl⟩,⟨rfl,rfl,rfl⟩,⟨rfl,rfl,rfl⟩,trivial⟩ ⟨_,rfl⟩ rfl (.done (.same ((Z12 _ b e _).cal fun q rs hq=>?_))))
   obtain⟨rfl,rfl⟩:=hq
   refine .done ?_
   exact .inl (A7 rfl rfl ⟨rfl,rfl⟩)
 ·have hd:Dd {n with st:=B9 n.st r} 0={n with st:=B9 n.st r}:=by unfold Dd;rw[if_neg (by decide)]
  refine EvCall.gh (.close (oAs {n with st:=B9 n.st r} b e) [] ⟨⟨rfl,rfl,rfl⟩,⟨rfl,rfl,rfl⟩,⟨rfl,rfl,rfl⟩,⟨rfl,rfl,rfl⟩,⟨rfl,rfl,rfl⟩,trivial⟩ ⟨_,rfl⟩ rfl (.done (.same ((Z12 _ b e _).cal fun q rs hq=>?_))))
  obtain⟨rfl,rfl⟩:=hq
  by_cases h0:F8 n.st r=0
  ·rw[h0,hd]
   refine .opn 0 _ _ _ rfl rfl rfl (.done ?_)
   refine EvIf.mk (fun _=>?_) fun h=>absurd h (by decide)
   have eN:Bj n r=Dd {n with st:=Id (B9 n.st r)} (Ms (B9 n.st r)):=by unfold Bj;rw[if_neg h5,if_neg (fun h=>h h0)]
   have eB:C8 n r=decide (Ms (B9 n.st r)=0):=by unfold C8;rw[if_neg h5,if_neg (fun h=>h h0)]
   rw[eN,eB]
   refine EvCall.gh (.done (.same ((Xb (B9 n.st r) e hwa).cal fun q rs hq=>?_)))
   obtain⟨rfl,rfl⟩:=hq
   refine .done ?_
   refine EvCall.gh (.close (oAs {n with st:=Id (B9 n.st r)} b e) [(1,5),(2,6),(3,7),(4,8)] ⟨⟨rfl,rfl,rfl⟩,⟨rfl,rfl,rfl⟩,⟨rfl,rfl,rfl⟩,⟨rfl,rfl,rfl⟩,⟨rfl,rfl,rfl⟩,trivial⟩ ⟨_,rfl⟩ rfl (.done (.same ((Z12 _ b e _).cal fun q rs hq=>?_))))
   obtain⟨rfl,rfl⟩:=hq
   refine .done ?_
   exact .inl (A7 rfl rfl ⟨rfl,rfl⟩)
  ·rw[decide_eq_false h0]
   refine .done ?_
   refine EvIf.mk (fun h=>absurd h (by decide)) fun _=>?_
   have eN:Bj n r=Dd {n with st:=B9 n.st r} (F8 n.st r):=by unfold Bj;rw[if_neg h5,if_pos h0]
   have eB:C8 n r=false:=by unfold C8;rw[if_neg h5,if_pos h0]
   rw[eN,eB]
   exact .inl (A7 rfl rfl ⟨rfl,rfl⟩)
theorem Z7l (n:PN)(b e:Nat)(er:Int):FnO Tryz.prog 131 [.ptr 0 0,gI er] (cB n b e) fun g rs=>g=.v (.bool (decide (er=0)))∧rs=cB (Dd n er) b e:=by
 by_cases h:er=0
 ·subst h
  exact Z9v n b e
 ·have:=Zcb n b e h
  rw[decide_eq_false h]
  exact this
theorem Zaq (n:PN)(b e:Nat)(h:WK n.st)(hl:n.log.length≤198)(r:ByteArray)(hr:r.size≤1000000):FnO Tryz.prog 95 [.ptr 0 0,.v (.string r)] (cB n b e) fun g rs=>g=.v (.bool (C8 n r))∧rs=cB (Bj n r) b e:=by
 refine Bo Tryz.func95 (by kernel_rfl) rfl (Nat.le_of_ble_eq_true (by kernel_rfl)) (by kernel_rfl) (A8 (O:=oBs n b e) (n0:=5) rfl) ?_
 obtain⟨hwa,hwt⟩:=R3 h r
 refine EvCall.lend ((Mn n.st e h.wa r hr).cal fun q rs hq=>?_)
 obtain⟨rfl,rfl⟩:=hq
 refine EvIf.beq (fun(h5:F8 n.st r=51)=>?_) fun(h5:F8 n.st r≠51)=>?_
 ·have eN:Bj n r=Dd {n with st:=Ek (B9 n.st r) (Bk n)} (Ic (B9 n.st r) (Bk n)):=by unfold Bj;rw[if_pos h5]
  have eB:C8 n r=decide (Ic (B9 n.st r) (Bk n)=0):=by unfold C8;rw[if_pos h5]
  rw[eN,eB]
  refine⟨?_,?_⟩
  all_goals
   refine EvCall.lend ((Zd2 n _ (by omega)).cal fun q rs hq=>?_)
   obtain⟨rfl,rfl⟩:=hq
   refine EvCall.gh (.frz 6 _ _ _ rfl (.done (.see (.same ((Fl (B9 n.st r) e hwa (by omega) (Bk n) (by rw[Hq];omega) (Ft n)).cal fun q rs hq=>?_)))))
   obtain⟨rfl,rfl⟩:=hq
   refine .done ?_
   refine EvCall.gh (.close (oBs {n with st:=Ek (B9 n.st r) (Bk n)} b e) [(1,1),(2,2),(3,5),(4,4)] ⟨⟨rfl,rfl,rfl⟩,⟨rfl,rfl,rfl⟩,⟨rfl,rfl,rfl⟩,⟨rfl,rfl,rfl⟩,⟨rfl,rfl,rfl⟩,trivial⟩ ⟨_,rfl⟩ rfl (.done (.same ((Z7l _ b e _).cal fun q rs hq=>?_))))
   obtain⟨rfl,rfl⟩:=hq
   refine .done ?_
   exact .inl (A7 rfl rfl ⟨rfl,rfl⟩)
 ·have hd:Dd {n with st:=B9 n.st r} 0={n with st:=B9 n.st r}:=by unfold Dd;rw[if_neg (by decide)]
  refine EvCall.gh (.close (oBs {n with st:=B9 n.st r} b e) [] ⟨⟨rfl,rfl,rfl⟩,⟨rfl,rfl,rfl⟩,⟨rfl,rfl,rfl⟩,⟨rfl,rfl,rfl⟩,⟨rfl,rfl,rfl⟩,trivial⟩ ⟨_,rfl⟩ rfl (.done (.same ((Z7l _ b e _).cal fun q rs hq=>?_))))
  obtain⟨rfl,rfl⟩:=hq
  by_cases h0:F8 n.st r=0
  ·rw[h0,hd]
   refine .opn 0 _ _ _ rfl rfl rfl (.done ?_)
   refine EvIf.mk (fun _=>?_) fun h=>absurd h (by decide)
   have eN:Bj n r=Dd {n with st:=Id (B9 n.st r)} (Ms (B9 n.st r)):=by unfold Bj;rw[if_neg h5,if_neg (fun h=>h h0)]
   have eB:C8 n r=decide (Ms (B9 n.st r)=0):=by unfold C8;rw[if_neg h5,if_neg (fun h=>h h0)]
   rw[eN,eB]
   refine EvCall.gh (.done (.same ((Xb (B9 n.st r) e hwa).cal fun q rs hq=>?_)))
   obtain⟨rfl,rfl⟩:=hq
   refine .done ?_
   refine EvCall.gh (.close (oBs {n with st:=Id (B9 n.st r)} b e) [(1,5),(2,6),(3,7),(4,8)] ⟨⟨rfl,rfl,rfl⟩,⟨rfl,rfl,rfl⟩,⟨rfl,rfl,rfl⟩,⟨rfl,rfl,rfl⟩,⟨rfl,rfl,rfl⟩,trivial⟩ ⟨_,rfl⟩ rfl (.done (.same ((Z7l _ b e _).cal fun q rs hq=>?_))))
   obtain⟨rfl,rfl⟩:=hq
   refine .done ?_
   exact .inl (A7 rfl rfl ⟨rfl,rfl⟩)
  ·rw[decide_eq_false h0]
   refine .done ?_
   refine EvIf.mk (fun h=>absurd h (by decide)) fun _=>?_
   have eN:Bj n r=Dd {n with st:=B9 n.st r} (F8 n.st r):=by unfold Bj;rw[if_neg h5,if_pos h0]
   have eB:C8 n r=false:=by unfold C8;rw[if_neg h5,if_pos h0]
   rw[eN,eB]
   exact .inl (A7 rfl rfl ⟨rfl,rfl⟩)
end Go.Proofs.YtihfaocdpmmooaaGreat
namespace Go.Proofs.YtihfaocdpmmooaaGreat
structure WSt (k:Nat)(l:LD):Prop where
 d:WD l.d
 many:l.d.now.length=1100
 armed:l.d.armed≤9223372036854775807
 wait:l.d.wait=[]
 half:l.half < 2
 b:l.b=Ao l.all
 len:l.b.length≤35136
 mark:l.mark≤k
 dead:l.dead=false
 dd:l.d.dead=false
theorem Z11:∀l:List ByteArray,4 * l.length≤(Ao l).length
 | []=>by simp[Ao]
 | s::l=>by
  have h1:=Z11 l
  unfold Ao at *
  rw[List.flatMap_cons,List.length_append,Db,List.length_cons];omega
theorem WSt.wk {k:Nat}{l:LD}(h:WSt k l)(hk:k≤1000000000):WK l:=by
 have h1:=Z11 l.all
 rw[←h.b] at h1
 have h2:=h.len
 have h3:=h.mark
 exact⟨⟨h.d,by rw[h.many];exact Nat.le_refl _,h.armed,by rw[h.wait];exact Nat.zero_le _,h.half,h.len,by omega,by omega⟩,by rw[h.wait];exact Nat.zero_le _,by omega⟩
theorem Ke {d:RD}{n:Int}{b:Sec}(h:Bf d n b=0):(Ab d n b).dead=false∧d.dead=false:=by
 unfold Bf at h
 unfold Ab
 by_cases h1:Jd d n=0
 ·rw[if_neg (fun h=>h h1)] at h⊢
  have h2:=(Nm h1).1
  split at h
  ·cases h
  ·next h3 =>
   rw[if_neg h3]
   split at h
   ·cases h
   ·next h4 =>
    refine⟨?_,h2⟩
    unfold Eb at h4
    unfold B6
    show(if d.armed=0 then _ else _:RD).dead=false
    split
    ·exact h2
    ·next h5 =>
     rw[if_neg h5] at h4
     have h6:(d.armed - 1==0)=false:=by simpa using h4
     exact h6
 ·rw[if_pos h1] at h;exact absurd h h1
theorem Jn {d:RD}(h:Cw d=0):(A9 d).dead=false∧(A9 d).wait=[]∧d.dead=false:=by
 unfold Cw at h
 split at h
 ·cases h
 ·next h1 =>
  have h2:d.dead=false:=by cases hd:d.dead with
   | false=>rfl
   | true=>exact absurd (.inl hd) h1
  have h3:¬Eb d=true:=fun h=>h1 (.inr h)
  unfold A9
  rw[if_neg (by rw[h2];decide),if_neg h3]
  refine⟨?_,rfl,h2⟩
  show(B6 d).dead=false
  unfold Eb at h3
  unfold B6
  split
  ·exact h2
  ·next h5=>rw[if_neg h5] at h3;simpa using h3
theorem Z4l {d:RD}{n:Int}{b:Sec}(ha:d.armed=0)(hd:d.dead=false)(h0:0≤n)(h1:n < d.now.length)(hb:b.length≤64):Bf d n b=0∧(Ab d n b).armed=0:=by
 have hm:Jd d n=0:=by unfold Jd;rw[hd,if_neg (by decide),if_neg (by omega)]
 have hs:Eb d=false:=by unfold Eb;rw[if_pos ha]
 unfold Bf Ab
 rw[if_neg (fun h=>h hm),if_neg (by omega),hs,if_neg (by decide),if_neg (fun h=>h hm),if_neg (by omega)]
 refine⟨rfl,?_⟩
 unfold B6
 show(if d.armed=0 then _ else _:RD).armed=0
 rw[if_pos ha];exact ha
theorem Zc2 {d:RD}(ha:d.armed=0)(hd:d.dead=false):Cw d=0∧(A9 d).armed=0:=by
 have hs:Eb d=false:=by unfold Eb;rw[if_pos ha]
 unfold Cw A9
 rw[hd,hs]
 refine⟨by simp,?_⟩
 simp only[Bool.false_eq_true,if_false]
 show(B6 d).armed=0
 unfold B6
 rw[if_pos ha];exact ha
theorem P1 (f:Nat)(b:Bs):∀(ns:List Nat) (d:RD),d.dead=false→(runW f b ns d).2=true→(runW f b ns d).1.dead=false
 | [],d,h,_=>h
 | n::ns,d,h,hr=>by
  rw[El] at hr⊢
  split
  ·next hw=>rw[if_pos hw] at hr;exact P1 f b ns _ (Ke hw).1 hr
  ·next hw=>rw[if_neg hw] at hr;cases hr
theorem Pz (f:Nat)(b:Bs):∀(ns:List Nat) (d:RD),d.dead=false→d.armed=0→(∀n∈ns,f+n < d.now.length)→(runW f b ns d).2=true∧(runW f b ns d).1.armed=0
 | [],d,_,ha,_=>⟨rfl,ha⟩
 | n::ns,d,h,ha,hn=>by
  have h1:=hn n (by simp)
  obtain⟨w1,w2⟩:=Z4l (n:=((f+n:Nat):Int)) (b:=chB b n) ha h (by omega) (by omega) (by unfold chB;rw[List.length_take];omega)
  rw[El,if_pos w1]
  refine Pz f b ns _ (Ke w1).1 w2 fun m hm=>?_
  rw[(Dr d _ _).1]
  exact hn m (by simp[hm])
theorem Z0d {b:Bs}{frm:Nat}(hb:b.length≤35136){n:Nat}(h:n∈nsW b frm):n < 549:=by
 unfold nsW at h
 rw[List.mem_range'_1] at h
 omega
theorem Jz {l:LD}(hd:l.d.dead=false){h:Nat}{b:Bs}{frm:Nat}(hw:wrE l h b frm=true):(wrL l h b frm).dead=false∧(wrL l h b frm).d.dead=false:=by
 unfold wrE at hw
 unfold wrL
 refine⟨by rw[hw];rfl,?_⟩
 exact P1 _ _ _ _ hd hw
theorem Jq {l:LD}(hd:l.d.dead=false)(ha:l.d.armed=0)(hm:l.d.now.length=1100){h:Nat}(hh:h < 2){b:Bs}(hb:b.length≤35136)(frm:Nat):wrE l h b frm=true∧(wrL l h b frm).d.armed=0:=by
 unfold wrE wrL
 exact Pz _ _ _ _ hd ha fun n hn=>by
  have:=Z0d hb hn
  rw[hm];unfold C4;omega
theorem Da (m h f:Nat):(Ai m h f).length=64:=by
 unfold Ai be8
 simp
theorem Ju {l:LD}{h f:Nat}(hs:(Af l h f).dead=false):(Af l h f).d.dead=false∧(Af l h f).d.wait=[]∧Af l h f={l with mark:=l.mark+1,half:=h,firm:=f,d:=(Af l h f).d}:=by
 unfold Af at hs⊢
 split at hs
 ·cases hs
 ·next h1 =>
  rw[if_neg h1]
  split at hs
  ·cases hs
  ·next h2 =>
   rw[if_neg h2]
   split at hs
   ·cases hs
   ·next h3 =>
    rw[if_neg h3]
    obtain⟨a1,a2,-⟩:=Jn (by omega:Cw (Ab (A9 l.d) (((l.mark+1) % 2:Nat):Int) (Ai (l.mark+1) h f))=0)
    exact⟨a1,a2,rfl⟩
theorem Im {l:LD}(hl:l.dead=false)(hd:l.d.dead=false)(ha:l.d.armed=0)(hm:l.d.now.length=1100)(h f:Nat):(Af l h f).dead=false∧(Af l h f).d.armed=0:=by
 obtain⟨s1,s2⟩:=Zc2 ha hd
 obtain⟨s3,-,-⟩:=Jn s1
 have hlen:=(Hw l.d).1
 obtain⟨w1,w2⟩:=Z4l (d:=A9 l.d) (n:=(((l.mark+1) % 2:Nat):Int)) (b:=Ai (l.mark+1) h f) s2 s3 (by omega) (by omega) (by rw[Da];exact Nat.le_refl _)
 obtain⟨s4,s5⟩:=Zc2 w2 (Ke w1).1
 unfold Af
 rw[if_neg (fun h=>h s1),if_neg (fun h=>h w1),if_neg (fun h=>h s4)]
 exact⟨hl,s5⟩
theorem Uq {l:LD}(hw:WD l.d)(h f:Nat):WD (Af l h f).d∧(Af l h f).d.now.length=l.d.now.length∧(Af l h f).d.armed≤l.d.armed∧(Af l h f).d.wait.length≤l.d.wait.length+1:=by
 obtain⟨a1,a2,a3⟩:=Hw l.d
 obtain⟨b1,b2,b3⟩:=Dr (A9 l.d) (((l.mark+1) % 2:Nat):Int) (Ai (l.mark+1) h f)
 obtain⟨c1,c2,c3⟩:=Hw (Ab (A9 l.d) (((l.mark+1) % 2:Nat):Int) (Ai (l.mark+1) h f))
 have w1:=Js hw
 have w2:=Ht w1 (((l.mark+1) % 2:Nat):Int) (Ai (l.mark+1) h f)
 have w3:=Js w2
 unfold Af
 split
 ·exact⟨w1,a1,a3,by show(A9 l.d).wait.length≤_;omega⟩
 ·split
  ·exact⟨w2,b1.trans a1,by show(Ab _ _ _).armed≤_;omega,by show(Ab _ _ _).wait.length≤_;omega⟩
  ·split
   ·exact⟨w3,c1.trans (b1.trans a1),by show(A9 _).armed≤_;omega,by show(A9 _).wait.length≤_;omega⟩
   ·exact⟨w3,c1.trans (b1.trans a1),by show(A9 _).armed≤_;omega,by show(A9 _).wait.length≤_;omega⟩
theorem Z50 {k:Nat}{l:LD}(h:WSt k l)(s:ByteArray)(h0:F8 l s=0)(h1:Ms (B9 l s)=0):WSt (k+1) (Id (B9 l s))∧(Id (B9 l s)).all=l.all++[s]:=by
 unfold F8 at h0
 rw[if_neg (by rw[h.dead];decide)] at h0
 have hs1:¬s.size > 4096:=fun hh=>by rw[if_pos hh] at h0;cases h0
 rw[if_neg hs1] at h0
 have hs2:¬(s.size:Int) > Fs l:=fun hh=>by rw[if_pos hh] at h0;cases h0
 rw[if_neg hs2] at h0
 have hw:wrE l l.half (l.b++frB s) l.b.length=true:=by
  cases hw:wrE l l.half (l.b++frB s) l.b.length with
  | true=>rfl
  | false=>rw[hw] at h0;cases h0
 have hA:B9 l s={wrL l l.half (l.b++frB s) l.b.length with b:=l.b++frB s,all:=l.all++[s]}:=by
  unfold B9
  rw[if_neg (by rw[h.dead];decide),if_neg hs1,if_neg hs2,if_pos hw]
 have hroom:(l.b++frB s).length≤35136:=by rw[List.length_append,Db];have:=h.len;unfold Fs at hs2;omega
 obtain⟨hd1,hd2⟩:=Jz h.dd hw
 obtain⟨r1,r2,r3,r4⟩:=E9 (C4 l.half) (l.b++frB s) (nsW (l.b++frB s) l.b.length) l.d h.d
 generalize hx:({wrL l l.half (l.b++frB s) l.b.length with b:=l.b++frB s,all:=l.all++[s]}:LD)=x at hA
 have x1:x.dead=false:=by rw[←hx];exact hd1
 have x2:x.d=(runW (C4 l.half) (l.b++frB s) (nsW (l.b++frB s) l.b.length) l.d).1:=by rw[←hx];rfl
 have x3:x.mark=l.mark:=by rw[←hx];rfl
 have x4:x.half=l.half:=by rw[←hx];rfl
 have x5:x.b=l.b++frB s:=by rw[←hx]
 have x6:x.all=l.all++[s]:=by rw[←hx]
 rw[hA] at h1⊢
 have hS:Id x=Af x x.half x.b.length:=by unfold Id;rw[if_neg (by rw[x1];decide)]
 have hE:(Af x x.half x.b.length).dead=false:=by
  unfold Ms at h1
  rw[if_neg (by rw[x1];decide)] at h1
  unfold D1 at h1
  cases hz:(Af x x.half x.b.length).dead with
  | false=>rfl
  | true=>rw[hz] at h1;cases h1
 obtain⟨s1,s2,s3⟩:=Ju hE
 obtain⟨q1,q2,q3,q4⟩:=Uq (l:=x) (by rw[x2];exact r1) x.half x.b.length
 rw[hS]
 have fb:(Af x x.half x.b.length).b=l.b++frB s:=by rw[s3];exact x5
 have fa:(Af x x.half x.b.length).all=l.all++[s]:=by rw[s3];exact x6
 have ha:=h.armed
 have hm:=h.many
 refine⟨⟨q1,by rw[q2,x2];omega,by rw[x2] at q3;omega,s2,?_,?_,?_,?_,hE,s1⟩,fa⟩
 ·rw[s3];show x.half < 2;rw[x4];exact h.half
 ·rw[fb,fa,Ov,h.b]
 ·rw[fb];exact hroom
 ·rw[s3];show x.mark+1≤_;have:=h.mark;omega
theorem Yh {k:Nat}{l:LD}(h:WSt k l)(all:List ByteArray)(h0:Ic l all=0):WSt (k+1) (Ek l all)∧(Ek l all).all=all:=by
 unfold Ic at h0
 rw[if_neg (by rw[h.dead];decide)] at h0
 have hf:M9 all=0:=by
  by_cases hf:M9 all=0
  ·exact hf
  ·rw[if_pos hf] at h0;exact absurd h0 hf
 rw[if_neg (fun h=>h hf)] at h0
 have hw:wrE l (1 - l.half) (Ao all) 0=true:=by
  cases hw:wrE l (1 - l.half) (Ao all) 0 with
  | true=>rfl
  | false=>rw[hw] at h0;cases h0
 rw[if_pos hw] at h0
 have hbl:(Ao all).length≤35136:=by
  unfold M9 at hf
  split at hf
  ·cases hf
  ·split at hf
   ·cases hf
   ·omega
 obtain⟨hd1,hd2⟩:=Jz h.dd hw
 obtain⟨r1,r2,r3,r4⟩:=E9 (C4 (1 - l.half)) (Ao all) (nsW (Ao all) 0) l.d h.d
 have hE:(Af (wrL l (1 - l.half) (Ao all) 0) (1 - l.half) (Ao all).length).dead=false:=by
  unfold D1 at h0
  cases hz:(Af (wrL l (1 - l.half) (Ao all) 0) (1 - l.half) (Ao all).length).dead with
  | false=>rfl
  | true=>rw[hz] at h0;cases h0
 have hR:Ek l all={Af (wrL l (1 - l.half) (Ao all) 0) (1 - l.half) (Ao all).length with b:=Ao all,all:=all}:=by
  unfold Ek
  rw[if_neg (by rw[h.dead];decide),if_neg (fun h=>h hf),if_pos hw,if_neg (by rw[hE];decide)]
 obtain⟨s1,s2,s3⟩:=Ju hE
 obtain⟨q1,q2,q3,q4⟩:=Uq (l:=wrL l (1 - l.half) (Ao all) 0) r1 (1 - l.half) (Ao all).length
 have x2:(wrL l (1 - l.half) (Ao all) 0).d=(runW (C4 (1 - l.half)) (Ao all) (nsW (Ao all) 0) l.d).1:=rfl
 have ha:=h.armed
 have hm:=h.many
 rw[hR]
 refine⟨⟨q1,?_,?_,s2,?_,rfl,hbl,?_,hE,s1⟩,rfl⟩
 ·show(Af _ _ _).d.now.length=_;rw[q2,x2];omega
 ·show(Af _ _ _).d.armed≤_;rw[x2] at q3;omega
 ·show(Af _ _ _).half < 2
  rw[s3];show 1 - l.half < 2;omega
 ·show(Af _ _ _).mark≤_
  rw[s3];show l.mark+1≤_;have:=h.mark;omega
end Go.Proofs.YtihfaocdpmmooaaGreat
namespace Go.Proofs.YtihfaocdpmmooaaGreat
open Go.RowKit
set_option maxRecDepth 100000
theorem Ze3 (n:PN)(b e:Nat)(h:WK n.st)(hl:n.log.length≤190)(x:REnt):FnO Tryz.prog 65 [.ptr 0 0,.agg (enE x)] (cA n b e) fun g rs=>g=.v (.bool (Wo n x))∧rs=cA (J8 n x) b e:=by
 refine Bo Tryz.func65 (by kernel_rfl) rfl (Nat.le_of_ble_eq_true (by kernel_rfl)) (by kernel_rfl) (A8 (O:=oAs n b e) (n0:=5) rfl) ?_
 refine⟨by simp;omega,?_⟩
 refine(D5 _ _ _ _).cal fun q hq=>?_
 subst hq
 refine EvCall.gh (.close (oAs {n with log:=n.log++[x]} b e) [(1,1),(2,7),(3,3),(4,4)] ⟨⟨rfl,rfl,rfl⟩,⟨rfl,rfl,rfl⟩,⟨rfl,rfl,eqR (by rw[List.map_append];rfl)⟩,⟨rfl,rfl,rfl⟩,⟨rfl,rfl,rfl⟩,trivial⟩ ⟨_,rfl⟩ rfl (.done (.same ((Z5y {n with log:=n.log++[x]} b e h (by show(n.log++[x]).length≤_;simp;omega) _ (by have:=Dy 3 x.v x.n x.b;omega)).cal fun q rs hq=>?_))))
 obtain⟨rfl,rfl⟩:=hq
 refine .done ?_
 exact .inl (A7 rfl rfl ⟨rfl,rfl⟩)
theorem Uu (n:PN)(b e:Nat)(h:WK n.st)(hl:n.log.length≤190)(view:Int):FnO Tryz.prog 82 [.ptr 0 0,gI view] (cA n b e) fun g rs=>g=.v (.bool (Gf n view))∧rs=cB (Fo n view) b e:=by
 refine Bo Tryz.func82 (by kernel_rfl) rfl (Nat.le_of_ble_eq_true (by kernel_rfl)) (by kernel_rfl) (A8 (O:=oAs n b e) (n0:=5) rfl) ?_
 refine(D5 _ _ _ _).cal fun q hq=>?_
 subst hq
 refine EvCall.gh (.seen 0 _ _ rfl (.close (oAs {n with pmd:=view,lds:=false,std:=false} b e) [] ⟨⟨rfl,rfl,rfl⟩,⟨rfl,rfl,rfl⟩,⟨rfl,rfl,rfl⟩,⟨rfl,rfl,rfl⟩,⟨rfl,rfl,rfl⟩,trivial⟩ ⟨_,rfl⟩ rfl (.done (.same ((Z5y {n with pmd:=view,lds:=false,std:=false} b e h (by show n.log.length≤_;omega) _ (Nat.le_trans (Dy _ _ _ _) (by decide))).cal fun q rs hq=>?_)))))
 obtain⟨rfl,rfl⟩:=hq
 refine .done ?_
 exact .gh (.opn 0 _ _ _ rfl rfl rfl (.frz 6 _ _ _ rfl (.seen 0 _ _ rfl (.drop 6 _ rfl (.done (A1 (oBs (Fo n view) b e) [(1,5),(2,6),(3,7),(4,8)] ⟨⟨rfl,rfl,rfl⟩,⟨rfl,rfl,rfl⟩,⟨rfl,rfl,rfl⟩,⟨rfl,rfl,rfl⟩,⟨rfl,rfl,rfl⟩,trivial⟩ rfl ⟨_,rfl⟩ rfl rfl ⟨rfl,rfl⟩))))))
theorem Z05 (n:PN)(b e:Nat)(h:WK n.st)(hl:n.log.length≤190)(view:Int):FnO Tryz.prog 82 [.ptr 0 0,gI view] (cB n b e) fun g rs=>g=.v (.bool (Gf n view))∧rs=cB (Fo n view) b e:=by
 refine Bo Tryz.func82 (by kernel_rfl) rfl (Nat.le_of_ble_eq_true (by kernel_rfl)) (by kernel_rfl) (A8 (O:=oBs n b e) (n0:=5) rfl) ?_
 refine(D5 _ _ _ _).cal fun q hq=>?_
 subst hq
 refine EvCall.gh (.seen 0 _ _ rfl (.close (oBs {n with pmd:=view,lds:=false,std:=false} b e) [] ⟨⟨rfl,rfl,rfl⟩,⟨rfl,rfl,rfl⟩,⟨rfl,rfl,rfl⟩,⟨rfl,rfl,rfl⟩,⟨rfl,rfl,rfl⟩,trivial⟩ ⟨_,rfl⟩ rfl (.done (.same ((Zaq {n with pmd:=view,lds:=false,std:=false} b e h (by show n.log.length≤_;omega) _ (Nat.le_trans (Dy _ _ _ _) (by decide))).cal fun q rs hq=>?_)))))
 obtain⟨rfl,rfl⟩:=hq
 refine .done ?_
 exact .inl (A7 rfl rfl ⟨rfl,rfl⟩)
theorem Qr (n:PN)(b e:Nat)(h:WK n.st)(view:Int)(l:List REnt)(hl:l.length≤190):FnO Tryz.prog 104 [.ptr 0 0,gI view,.sl (l.map enE)] (cA n b e) fun g rs=>g=.v (.bool (Cb n view l))∧rs=cA (Cg n view l) b e:=by
 refine Bo Tryz.func104 (by kernel_rfl) rfl (Nat.le_of_ble_eq_true (by kernel_rfl)) (by kernel_rfl) (A8 (O:=oAs n b e) (n0:=5) rfl) ?_
 refine(Qk l (by omega)).cal fun q rs hq=>?_
 obtain⟨rfl,rfl⟩:=hq
 refine⟨?_,?_⟩
 all_goals
  refine EvCall.lend ((Z3n (Bg n view l) _ (by show l.length≤_;omega)).cal fun q rs hq=>?_)
  obtain⟨rfl,rfl⟩:=hq
  refine EvCall.gh (.frz 8 _ _ _ rfl (.done (.see (.same ((Fl n.st e h.wa (by have:=h.wait;omega) (Bk (Bg n view l)) (by rw[Hq];show l.length+2≤_;omega) (Ft _)).cal fun q rs hq=>?_)))))
  obtain⟨rfl,rfl⟩:=hq
  refine .done ?_
  refine EvCall.gh (.close (oAs {Bg n view l with st:=Ek n.st (Bk (Bg n view l))} b e) [(1,1),(2,6),(3,7),(4,4)] ⟨⟨rfl,rfl,rfl⟩,⟨rfl,rfl,rfl⟩,⟨rfl,rfl,rfl⟩,⟨rfl,rfl,rfl⟩,⟨rfl,rfl,rfl⟩,trivial⟩ ⟨_,rfl⟩ rfl (.done (.same ((Z12 _ b e _).cal fun q rs hq=>?_))))
  obtain⟨rfl,rfl⟩:=hq
  refine .done ?_
  exact .inl (A7 rfl rfl ⟨rfl,rfl⟩)
theorem O7 (n:PN)(b e:Nat)(h:WK n.st)(view:Int)(l:List REnt)(hl:l.length≤190):FnO Tryz.prog 104 [.ptr 0 0,gI view,.sl (l.map enE)] (cB n b e) fun g rs=>g=.v (.bool (Cb n view l))∧rs=cA (Cg n view l) b e:=by
 refine Bo Tryz.func104 (by kernel_rfl) rfl (Nat.le_of_ble_eq_true (by kernel_rfl)) (by kernel_rfl) (A8 (O:=oBs n b e) (n0:=5) rfl) ?_
 refine(Qk l (by omega)).cal fun q rs hq=>?_
 obtain⟨rfl,rfl⟩:=hq
 refine⟨?_,?_⟩
 all_goals
  refine EvCall.lend ((Z3n (Bg n view l) _ (by show l.length≤_;omega)).cal fun q rs hq=>?_)
  obtain⟨rfl,rfl⟩:=hq
  refine EvCall.gh (.frz 8 _ _ _ rfl (.done (.see (.same ((Fl n.st e h.wa (by have:=h.wait;omega) (Bk (Bg n view l)) (by rw[Hq];show l.length+2≤_;omega) (Ft _)).cal fun q rs hq=>?_)))))
  obtain⟨rfl,rfl⟩:=hq
  refine .done ?_
  refine EvCall.gh (.close (oAs {Bg n view l with st:=Ek n.st (Bk (Bg n view l))} b e) [(1,1),(2,6),(3,7),(4,4)] ⟨⟨rfl,rfl,rfl⟩,⟨rfl,rfl,rfl⟩,⟨rfl,rfl,rfl⟩,⟨rfl,rfl,rfl⟩,⟨rfl,rfl,rfl⟩,trivial⟩ ⟨_,rfl⟩ rfl (.done (.same ((Z12 _ b e _).cal fun q rs hq=>?_))))
  obtain⟨rfl,rfl⟩:=hq
  refine .done ?_
  exact .inl (A7 rfl rfl ⟨rfl,rfl⟩)
end Go.Proofs.YtihfaocdpmmooaaGreat
namespace Go.Proofs.YtihfaocdpmmooaaGreat
open Go.RowKit
set_option maxRecDepth 100000
theorem Ze7 {m:Nat}(h0:1≤m)(h:m≤7):m=1∨m=2∨m=3∨m=4∨m=5∨m=6∨m=7:=by omega
theorem W0 (n:PN)(h0:1≤n.many)(h:n.many≤7)(s l o:G):(((An n s l o).drop 31).take n.many).map (fun g=>[g])=(Bm n).map gI1∧As F9 (((An n s l o).drop 31).take n.many)=true:=by
 unfold Bm
 rcases Ze7 h0 h with e | e | e | e | e | e | e<;>rw[e]<;>exact⟨rfl,rfl⟩
theorem Ca (n:PN)(b e:Nat)(h0:1≤n.many)(h:n.many≤7)(ho:n.out.length≤900000):FnO Tryz.prog 67 [.ptr 0 0] (cA n b e) fun g rs=>g=.tup []∧rs=cA (D7 n) b e:=by
 refine Bo Tryz.func67 (by kernel_rfl) rfl (Nat.le_of_ble_eq_true (by kernel_rfl)) (by kernel_rfl) (A8 (O:=oAs n b e) (n0:=5) rfl) ?_
 obtain⟨c1,c2⟩:=W0 n h0 h (.ptr 1 0) (.osl 2) (.osl 3)
 refine⟨⟨by omega,by omega,by omega⟩,?_⟩
 refine EvSn.snap (An n (.ptr 1 0) (.osl 2) (.osl 3)) tNd (.int .i64 (Bu (Bm n))) rfl ⟨h,by show 31+n.many≤47;omega⟩ c2 (by
  have:=Z9j (Bm n) (by unfold Bm;simp;omega)
  rw[←c1] at this
  exact this) ?_
 refine EvIf.dec (fun hgt=>?_) fun hgt=>?_
 ·have eL:D7 n=Aw {n with cmt:=Bu (Bm n)} ⟨6,n.pmd,0,Bu (Bm n),[]⟩:=by unfold D7;rw[if_pos hgt]
  have hS:=E4 {n with cmt:=Bu (Bm n)} (cl (oLs n.st e)) ⟨6,n.pmd,0,Bu (Bm n),[]⟩ (Nat.zero_le _) (by show n.many≤100;omega) ho
  obtain⟨o,hs⟩:=(A6 {n with cmt:=Bu (Bm n)} ⟨6,n.pmd,0,Bu (Bm n),[]⟩).to
  rw[hs] at hS eL
  rw[eL]
  refine hS.cal fun q rs hq=>?_
  obtain⟨rfl,rfl⟩:=hq
  exact .inl (A1 (oAs {n with cmt:=Bu (Bm n),out:=o} b e) [(3,5)] ⟨⟨rfl,rfl,rfl⟩,⟨rfl,rfl,rfl⟩,⟨rfl,rfl,rfl⟩,⟨rfl,rfl,rfl⟩,⟨rfl,rfl,rfl⟩,trivial⟩ rfl ⟨_,rfl⟩ rfl rfl ⟨rfl,rfl⟩)
 ·have eL:D7 n=n:=by unfold D7;rw[if_neg hgt]
  rw[eL]
  exact .inl (A1 (oAs n b e) [] ⟨⟨rfl,rfl,rfl⟩,⟨rfl,rfl,rfl⟩,⟨rfl,rfl,rfl⟩,⟨rfl,rfl,rfl⟩,⟨rfl,rfl,rfl⟩,trivial⟩ rfl ⟨_,rfl⟩ rfl rfl ⟨rfl,rfl⟩)
end Go.Proofs.YtihfaocdpmmooaaGreat
