
import Derived.Test.YtihfaocdpmmooaaGreatPl1
import Derived.Test.YtihfaocdpmmooaaGreatRkM
import Derived.Test.YtihfaocdpmmooaaGreatFn1
import Derived.Test.YtihfaocdpmmooaaGreatOM2
import Derived.Test.YtihfaocdpmmooaaGreatOM3
import Derived.Test.YtihfaocdpmmooaaGreatSxMe
namespace Go.Proofs.YtihfaocdpmmooaaGreat
abbrev A4 (l:List REnt):Int:=((l.map enE).length:Nat)
theorem E1 (l:List REnt):A4 l=(l.length:Nat):=congrArg Nat.cast (aa ..)
structure RJ where
 is:Bool
 normal:Int
 l:List REnt
structure RPk where
 frm:Int
 to:Int
 body:ByteArray
structure PN where
 self:Nat
 many:Nat
 pmd:Int
 normal:Int
 log:List REnt
 cmt:Int
 lds:Bool
 std:Bool
 jns:Nat→RJ
 first:Int
 aks:Nat→Int
 hrd:Nat→Bool
 out:List RPk
 dead:Bool
 st:LD
def j0:RJ:=⟨false,0,[]⟩
def Cp (kind a b:Int)(s:ByteArray):ByteArray:=⟨(Q4 [⟨1,kind,eS⟩,⟨2,a,eS⟩,⟨2,b,eS⟩,⟨3,0,s⟩]).toArray⟩
def Db (p:Int × Int × List REnt)(r:ByteArray):Option (Int × Int × List REnt) :=
 if(Jy [1,2,2,3] r.data.toList).e≠0 then none else match(Jy [1,2,2,3] r.data.toList).l with
 | [k,a,b,s]=>if k.n=1 then some (a.n,p.2.1,p.2.2) else if k.n=2 then some (p.1,a.n,p.2.2) else if k.n=3 then some (p.1,p.2.1,p.2.2++[⟨a.n,b.n,s.s⟩]) else none
 | _=>none
def Bf:List ByteArray→Int × Int × List REnt→Option (Int × Int × List REnt)
 | [],p=>some p
 | r::l,p=>match Db p r with
  | none=>none
  | some p=>Bf l p
def Ih (self many:Nat)(p:Int × Int × List REnt)(st:LD):PN:=⟨self,many,p.1,p.2.1,p.2.2,0,false,false,fun _=>j0,0,fun _=>0,fun _=>false,[],false,st⟩
def N4 (d:RD)(self many:Int):Option PN :=
 if Ag many=0∨self < 0∨self ≥ many∨(d.now.length:Int) < 1100 then none else match Yw d with
 | none=>none
 | some st=>match Bf st.all (0,0,[]) with
  | none=>none
  | some p=>if Bo p.2.2=true∧p.2.1≤p.1∧Au p.2.2 p.2.1=true then some (Ih self.toNat many.toNat p st) else none
def Bz (n:PN):List ByteArray:=Cp 1 n.pmd 0 eS::Cp 2 n.normal 0 eS::n.log.map fun e=>Cp 3 e.v e.n e.b
def E3 (n:PN)(e:Int):PN:=if e≠0 then {n with dead:=true,out:=[]} else n
def Br (n:PN)(r:ByteArray):PN :=
 if Gc n.st r=51 then E3 {n with st:=Fq (Bk n.st r) (Bz n)} (Jv (Bk n.st r) (Bz n))
 else if Gc n.st r≠0 then E3 {n with st:=Bk n.st r} (Gc n.st r)
 else E3 {n with st:=K2 (Bk n.st r)} (P0 (Bk n.st r))
def Cu (n:PN)(r:ByteArray):Bool :=
 if Gc n.st r=51 then decide (Jv (Bk n.st r) (Bz n)=0)
 else if Gc n.st r≠0 then false
 else decide (P0 (Bk n.st r)=0)
def Ay (n:PN)(to:Nat)(m:RM):PN:=if okM m=true then {n with out:=n.out++[⟨n.self,to,⟨(bM m).toArray⟩⟩]} else n
def Kg (f:PN→Nat→PN)(n:PN)(i:Nat):PN:=(List.range i).foldl (fun n i=>if i=n.self then n else f n i) n
def Ax (n:PN)(m:RM):PN:=Kg (fun n i=>Ay n i m) n n.many
def Fl (n:PN)(view:Int):PN:=Br {n with pmd:=view,lds:=false,std:=false} (Cp 1 view 0 eS)
def Jw (n:PN)(view:Int):Bool:=Cu {n with pmd:=view,lds:=false,std:=false} (Cp 1 view 0 eS)
def Bt (n:PN)(view:Int)(l:List REnt):PN:={n with pmd:=view,normal:=view,log:=l,cmt:=min n.cmt (A4 l)}
def Cy (n:PN)(view:Int)(l:List REnt):PN:=E3 {Bt n view l with st:=Fq n.st (Bz (Bt n view l))} (Jv n.st (Bz (Bt n view l)))
def Dw (n:PN)(view:Int)(l:List REnt):Bool:=decide (Jv n.st (Bz (Bt n view l))=0)
def Kf (n:PN)(e:REnt):PN:=Br {n with log:=n.log++[e]} (Cp 3 e.v e.n e.b)
def Ye (n:PN)(e:REnt):Bool:=Cu {n with log:=n.log++[e]} (Cp 3 e.v e.n e.b)
def Bx (n:PN):List Int:=(List.range n.many).map n.aks
def Dy (n:PN):PN:=if Bb (Bx n) > n.cmt then Ax {n with cmt:=Bb (Bx n)} ⟨6,n.pmd,0,Bb (Bx n),[]⟩ else n
def jlN (n:PN)(i:Nat):List RJ:=((List.range i).map n.jns).filter RJ.is
def Bp (n:PN):List RJ:=jlN n n.many
def mkJ (j:RJ):Mk:=⟨j.normal,A4 j.l⟩
def H7 (n:PN):List REnt:=((Bp n)[(Ga ((Bp n).map mkJ)).toNat]?.getD j0).l
def Dt (n:PN):PN:={n with std:=true,first:=A4 n.log,aks:=fun i=>if i=n.self then A4 n.log else 0,hrd:=fun _=>false}
def Cb (n:PN):PN :=
 if((Bp n).length:Int) < Ag n.many then n
 else if Dw n n.pmd (H7 n)=true then Dy (Ax (Dt (Cy n n.pmd (H7 n))) ⟨3,n.pmd,0,0,H7 n⟩)
 else Cy n n.pmd (H7 n)
def Cn (n:PN)(view:Int):PN × Bool :=
 if n.dead=true∨view≤n.pmd∨A9 view n.many≠n.self then(n,false)
 else if Jw n view=true then
  (Cb (Ax {Fl n view with lds:=true,jns:=fun i=>if i=n.self then⟨true,n.normal,n.log⟩ else j0} ⟨1,view,0,0,[]⟩),true)
 else(Fl n view,true)
def C8 (n:PN)(s:ByteArray):PN × Bool :=
 if n.dead=true∨n.std=false∨n.log.length ≥ 150∨s.size > 200 then(n,false)
 else if Ye n ⟨n.pmd,A4 n.log+1,s⟩=true then
  (Dy (Ax {Kf n ⟨n.pmd,A4 n.log+1,s⟩ with aks:=fun i=>if i=n.self then A4 n.log+1 else n.aks i} ⟨4,n.pmd,0,A4 n.log+1 - 1,[⟨n.pmd,A4 n.log+1,s⟩]⟩),true)
 else(Kf n ⟨n.pmd,A4 n.log+1,s⟩,true)
def F0 (n:PN)(i:Nat):PN :=
 Ay (if n.hrd i=true then Ay n i ⟨4,n.pmd,0,n.aks i,n.log.drop (n.aks i).toNat⟩ else Ay n i ⟨3,n.pmd,0,0,n.log.take n.first.toNat⟩) i ⟨6,n.pmd,0,n.cmt,[]⟩
def Ew (n:PN)(i:Nat):PN:=if(n.jns i).is=true then n else Ay n i ⟨1,n.pmd,0,0,[]⟩
def C1 (n:PN):PN :=
 if n.dead=true∨n.lds=false then n
 else if n.std=true then Kg F0 n n.many else Kg Ew n n.many
def B4 (n:PN)(frm:Nat)(m:RM):PN :=
 if n.lds=false∨n.pmd≠m.view then n
 else if m.kind=2∧n.std=false then
  Cb (if(n.jns frm).is=true then n else {n with jns:=fun i=>if i=frm then⟨true,m.normal,m.l⟩ else n.jns i})
 else if m.kind=5∧n.std=true∧m.num≤n.log.length then
  (fun n2:PN=>if m.num < n2.log.length then Ay n2 frm ⟨4,n2.pmd,0,m.num,n2.log.drop m.num.toNat⟩ else n2)
   (Dy {n with aks:=fun i=>if i=frm then max (n.aks frm) m.num else n.aks i,hrd:=fun i=>if i=frm then true else n.hrd i})
 else n
def Ao:List REnt→Int→PN→PN × Bool
 | [],_,n=>(n,true)
 | e::l,last,n =>
  if e.n > n.log.length+1 then(n,true)
  else if e.n≤n.log.length∨e.v < last then Ao l last n
  else if Ye n e=true then Ao l e.v (Kf n e) else(Kf n e,false)
def A6 (n:PN)(frm:Nat)(m:RM):PN :=
 if m.kind=1 then
  (if m.view > n.pmd then
   (if Jw n m.view=true then Ay (Fl n m.view) frm ⟨2,m.view,n.normal,0,n.log⟩ else Fl n m.view)
  else if m.view=n.pmd∧m.view > n.normal∧n.lds=false then Ay n frm ⟨2,m.view,n.normal,0,n.log⟩ else n)
 else if m.kind=3 then
  (if m.view ≥ n.pmd∧m.view > n.normal then
   (if Dw {n with lds:=false,std:=false} m.view m.l=true then Ay (Cy {n with lds:=false,std:=false} m.view m.l) frm ⟨5,m.view,0,A4 m.l,[]⟩
    else Cy {n with lds:=false,std:=false} m.view m.l)
  else if m.view=n.pmd∧m.view=n.normal then Ay n frm ⟨5,m.view,0,A4 n.log,[]⟩ else n)
 else if m.kind=4 then
  (if n.pmd=m.view∧n.normal=m.view∧n.lds=false then
   (fun x:PN × Bool=>if x.2=true then Ay x.1 frm ⟨5,m.view,0,A4 x.1.log,[]⟩ else x.1) (Ao m.l (vw 1 n.log) n)
  else n)
 else if m.kind=6 then
  (if n.pmd=m.view∧n.normal=m.view∧n.lds=false then {n with cmt:=max n.cmt (min m.num (A4 n.log))} else n)
 else n
def El (n:PN)(p:RPk):PN :=
 if n.dead=true∨¬Jd p.body.data.toList∨p.to≠n.self∨p.frm=n.self∨p.frm < 0∨p.frm ≥ n.many then n
 else if(mD p.body.data.toList).kind=2∨(mD p.body.data.toList).kind=5 then B4 n p.frm.toNat (mD p.body.data.toList)
 else if A9 (mD p.body.data.toList).view n.many≠p.frm then n
 else A6 n p.frm.toNat (mD p.body.data.toList)
open Go.RowKit
set_option maxRecDepth 100000
abbrev tNd:Nat:=118
abbrev tPk:Nat:=61
def pkG (p:RPk):List G:=[gI p.frm,gI p.to,.v (.string p.body)]
abbrev Ad (n:PN)(s l o:G):List G:=[gI n.self,gI n.many,s,gI n.pmd,gI n.normal,l,gI n.cmt,.v (.bool n.lds),.v (.bool n.std),.v (.bool (n.jns 0).is),gI (n.jns 0).normal,.sl ((n.jns 0).l.map enE),.v (.bool (n.jns 1).is),gI (n.jns 1).normal,.sl ((n.jns 1).l.map enE),.v (.bool (n.jns 2).is),gI (n.jns 2).normal,.sl ((n.jns 2).l.map enE),.v (.bool (n.jns 3).is),gI (n.jns 3).normal,.sl ((n.jns 3).l.map enE),.v (.bool (n.jns 4).is),gI (n.jns 4).normal,.sl ((n.jns 4).l.map enE),.v (.bool (n.jns 5).is),gI (n.jns 5).normal,.sl ((n.jns 5).l.map enE),.v (.bool (n.jns 6).is),gI (n.jns 6).normal,.sl ((n.jns 6).l.map enE),gI n.first,gI (n.aks 0),gI (n.aks 1),gI (n.aks 2),gI (n.aks 3),gI (n.aks 4),gI (n.aks 5),gI (n.aks 6),.v (.bool (n.hrd 0)),.v (.bool (n.hrd 1)),.v (.bool (n.hrd 2)),.v (.bool (n.hrd 3)),.v (.bool (n.hrd 4)),.v (.bool (n.hrd 5)),.v (.bool (n.hrd 6)),o,.v (.bool n.dead)]
abbrev oA (n:PN)(b e:Nat):List R:=[.blk (Ad n (.ptr 1 0) (.osl 2) (.osl 3)) tNd,.abs (cl (oLs n.st e)),.slc (n.log.map enE) tEn 3,.slc (n.out.map pkG) tPk 3,.adr 0 b]
abbrev oB (n:PN)(b e:Nat):List R:=[.blk (Ad n (.ptr 1 0) (.sl (n.log.map enE)) (.osl 3)) tNd,.abs (cl (oLs n.st e)),.gone,.slc (n.out.map pkG) tPk 3,.adr 0 b]
abbrev oAs (n:PN)(b e:Nat):Os:=B7 (oA n b e) 0
abbrev oBs (n:PN)(b e:Nat):Os:=B7 (oB n b e) 0
abbrev cA (n:PN)(b e:Nat):List R:=[.abs (cl (oAs n b e))]
abbrev cB (n:PN)(b e:Nat):List R:=[.abs (cl (oBs n b e))]
abbrev Z8b (n:PN)(l:G):List G:=[gI n.self,gI n.many,.ptr 1 0,gI n.pmd,gI n.normal,l,gI n.cmt,.v (.bool n.lds),.v (.bool n.std),.v (.bool (n.jns 0).is),gI (n.jns 0).normal,.sl ((n.jns 0).l.map enE),.v (.bool (n.jns 1).is),gI (n.jns 1).normal,.sl ((n.jns 1).l.map enE),.v (.bool (n.jns 2).is),gI (n.jns 2).normal,.sl ((n.jns 2).l.map enE),.v (.bool (n.jns 3).is),gI (n.jns 3).normal,.sl ((n.jns 3).l.map enE),.v (.bool (n.jns 4).is),gI (n.jns 4).normal,.sl ((n.jns 4).l.map enE),.v (.bool (n.jns 5).is),gI (n.jns 5).normal,.sl ((n.jns 5).l.map enE),.v (.bool (n.jns 6).is),gI (n.jns 6).normal,.sl ((n.jns 6).l.map enE),gI n.first,gI (n.aks 0),gI (n.aks 1),gI (n.aks 2),gI (n.aks 3),gI (n.aks 4),gI (n.aks 5),gI (n.aks 6),.v (.bool (n.hrd 0)),.v (.bool (n.hrd 1)),.v (.bool (n.hrd 2)),.v (.bool (n.hrd 3)),.v (.bool (n.hrd 4)),.v (.bool (n.hrd 5)),.v (.bool (n.hrd 6))]
theorem Zav (l:List RFd):(Q4 l).length≤1026 * l.length:=by
 unfold Q4
 split
 ·next h=>exact L4 (Ej h)
 ·exact ah _
theorem Eg (k a b:Int)(s:ByteArray):(Cp k a b s).size≤4104:=by
 have:=Zav [⟨1,k,eS⟩,⟨2,a,eS⟩,⟨2,b,eS⟩,⟨3,0,s⟩]
 unfold Cp
 show(Q4 _).toArray.size≤_
 rw[List.size_toArray]
 exact this
theorem Ds (k a b:Int)(s:ByteArray):FnV Tryz.prog 96 [gI k,gI a,gI b,.v (.string s)] fun g=>g=.v (.string (Cp k a b s)):=by
 refine fnG Tryz.func96 ?_
 refine(Sy _).cal fun q hq=>?_
 subst hq
 refine(Id _).cal fun q hq=>?_
 subst hq
 refine(Id _).cal fun q hq=>?_
 subst hq
 refine(Ue [⟨1,k,eS⟩,⟨2,a,eS⟩,⟨2,b,eS⟩,⟨3,0,s⟩] (show 4≤800000 by decide)).cal fun q rs hq=>?_
 obtain⟨rfl,rfl⟩:=hq
 refine⟨_,rfl,?_⟩
 exact rfl
theorem P5 (l:List REnt)(hl:l.length≤1000000):FnO Tryz.prog 63 [.sl (l.map enE)] [] fun g rs=>g=.osl 0∧rs=[.slc (l.map enE) tEn 3]:=by
 refine Ba Tryz.func63 (Q3 _) ?_
 refine⟨fun b hb=>?_⟩
 refine dj (fun h=>?_) fun h=>?_
 ·have e:l.map enE=[]:=bx fun hne=>by rw[hb hne] at h;cases h
  exact Gr (k:=1) rfl e.symm
 ·refine⟨fun r hr=>?_,by simp;omega,?_⟩
  ·obtain⟨c,-,rfl⟩:=az.1 hr
   exact⟨rfl,rfl⟩
  ·exact Gr (k:=2) rfl (cx _)
theorem Zeb (l:List REnt)(hl:l.length≤1000000):FnO Tryz.prog 63 [.osl 0] [.slc (l.map enE) tEn 3] fun g rs=>g=.osl 1∧rs=[.slc (l.map enE) tEn 3,.slc (l.map enE) tEn 3] :=
 FnO.peekN (P5 l hl) rfl fun r hr g hg=>by
  obtain⟨s,-,rfl⟩:=az.1 hr
  unfold enE at hg
  simp only[List.mem_cons,List.not_mem_nil,or_false] at hg
  rcases hg with rfl | rfl | rfl<;>rfl
theorem Zac (n:PN)(b e:Nat):FnO Tryz.prog 20 [.ptr 0 0] (cA n b e) fun g rs=>g=.tup [gI n.pmd,gI n.normal]∧rs=cA n b e:=by
 refine Ba Tryz.func20 (A5 (O:=oAs n b e) (n0:=5) rfl) ?_
 exact .inl (A1 (oAs n b e) [] (by exact RL5) rfl ⟨_,rfl⟩ rfl rfl ⟨rfl,rfl⟩)
theorem Z0s (n:PN)(b e:Nat):FnO Tryz.prog 23 [.ptr 0 0] (cA n b e) fun g rs=>g=.v (.bool n.lds)∧rs=cA n b e:=by
 refine Ba Tryz.func23 (A5 (O:=oAs n b e) (n0:=5) rfl) ?_
 exact .inl (A1 (oAs n b e) [] (by exact RL5) rfl ⟨_,rfl⟩ rfl rfl ⟨rfl,rfl⟩)
theorem Pc (n:PN)(b e:Nat):FnO Tryz.prog 24 [.ptr 0 0] (cA n b e) fun g rs=>g=gI n.cmt∧rs=cA n b e:=by
 refine Ba Tryz.func24 (A5 (O:=oAs n b e) (n0:=5) rfl) ?_
 exact .inl (A1 (oAs n b e) [] (by exact RL5) rfl ⟨_,rfl⟩ rfl rfl ⟨rfl,rfl⟩)
theorem Zbs (n:PN)(b e:Nat):FnO Tryz.prog 37 [.ptr 0 0] (cA n b e) fun g rs=>g=.v (.bool n.dead)∧rs=cA n b e:=by
 refine Ba Tryz.func37 (A5 (O:=oAs n b e) (n0:=5) rfl) ?_
 exact .inl (A1 (oAs n b e) [] (by exact RL5) rfl ⟨_,rfl⟩ rfl rfl ⟨rfl,rfl⟩)
theorem Zd9 (n:PN)(b e:Nat):FnO Tryz.prog 131 [.ptr 0 0,gI 0] (cA n b e) fun g rs=>g=.v (.bool true)∧rs=cA n b e:=by
 refine Ba Tryz.func131 (A5 (O:=oAs n b e) (n0:=5) rfl) ?_
 refine di (fun h=>dc rfl h) fun _=>?_
 exact .inl (A1 (oAs n b e) [] (by exact RL5) rfl ⟨_,rfl⟩ rfl rfl ⟨rfl,rfl⟩)
theorem Zd6 (n:PN)(b e:Nat){er:Int}(he:er≠0):FnO Tryz.prog 131 [.ptr 0 0,gI er] (cA n b e) fun g rs=>g=.v (.bool false)∧rs=cA (E3 n er) b e:=by
 refine FnO.mono (Q:=fun g rs=>g=.v (.bool (er==0))∧rs=cA (E3 n er) b e) ?_ fun g rs h=>by rw[show(er==0)=false by simpa using he] at h;exact h
 refine Ba Tryz.func131 (A5 (O:=oAs n b e) (n0:=5) rfl) ?_
 refine di (fun _=>?_) fun h=>dc h he
 have e1:E3 n er={n with dead:=true,out:=[]}:=by unfold E3;rw[db he]
 exact .gh (.nil 0 (Z8b n (.osl 2)) [.tt] tNd tPk 3 rfl (by decide) (.seen 0 _ _ rfl (.done (A1 (oAs {n with dead:=true,out:=[]} b e) [(1,1),(2,2),(3,5),(4,4)] (by exact RL5) rfl ⟨_,rfl⟩ rfl rfl ⟨rfl,by rw[e1]⟩))))
theorem Zhd (n:PN)(b e:Nat):FnO Tryz.prog 25 [.ptr 0 0] (cA n b e) fun g rs=>g=.osl 1∧rs=[.abs (cl (oAs {n with out:=[]} b e)),.slc (n.out.map pkG) tPk 3]:=by
 refine Ba Tryz.func25 (A5 (O:=oAs n b e) (n0:=5) rfl) ?_
 exact .gh (.nil 0 (Z8b n (.osl 2)) [.v (.bool n.dead)] tNd tPk 3 rfl (by decide) (.done ⟨[⟨oAs {n with out:=[]} b e,[(1,1),(2,2),(3,6),(4,4)],true⟩,⟨[(0,.slc (n.out.map pkG) tPk 3)],[(0,3)],false⟩],.osl 1,⟨⟨⟨(by exact RL5),_,rfl⟩,⟨_,rfl,rfl,rfl⟩,trivial⟩,rfl,⟨_,rfl⟩,rfl,rfl,⟨rfl,rfl⟩⟩⟩))
theorem Zez (n:PN)(b e:Nat)(hl:n.log.length≤1000000):FnO Tryz.prog 22 [.ptr 0 0] (cA n b e) fun g rs=>g=.osl 1∧rs=[.abs (cl (oAs n b e)),.slc (n.log.map enE) tEn 3]:=by
 refine Ba Tryz.func22 (A5 (O:=oAs n b e) (n0:=5) rfl) ?_
 refine dh ((Zeb n.log hl).cal fun q rs hq=>?_)
 obtain⟨rfl,rfl⟩:=hq
 exact .inl ⟨[⟨oAs n b e,[],true⟩,⟨[(0,.slc (n.log.map enE) tEn 3)],[(0,6)],false⟩],.osl 1,⟨⟨⟨(by exact RL5),_,rfl⟩,⟨_,rfl,rfl,rfl⟩,trivial⟩,rfl,⟨_,rfl⟩,rfl,rfl,⟨rfl,rfl⟩⟩⟩
theorem Za6 (n:PN)(b e:Nat):FnO Tryz.prog 20 [.ptr 0 0] (cB n b e) fun g rs=>g=.tup [gI n.pmd,gI n.normal]∧rs=cB n b e:=by
 refine Ba Tryz.func20 (A5 (O:=oBs n b e) (n0:=5) rfl) ?_
 exact .inl (A1 (oBs n b e) [] (by exact RL5) rfl ⟨_,rfl⟩ rfl rfl ⟨rfl,rfl⟩)
theorem Zaa (n:PN)(b e:Nat):FnO Tryz.prog 23 [.ptr 0 0] (cB n b e) fun g rs=>g=.v (.bool n.lds)∧rs=cB n b e:=by
 refine Ba Tryz.func23 (A5 (O:=oBs n b e) (n0:=5) rfl) ?_
 exact .inl (A1 (oBs n b e) [] (by exact RL5) rfl ⟨_,rfl⟩ rfl rfl ⟨rfl,rfl⟩)
theorem Z3w (n:PN)(b e:Nat):FnO Tryz.prog 24 [.ptr 0 0] (cB n b e) fun g rs=>g=gI n.cmt∧rs=cB n b e:=by
 refine Ba Tryz.func24 (A5 (O:=oBs n b e) (n0:=5) rfl) ?_
 exact .inl (A1 (oBs n b e) [] (by exact RL5) rfl ⟨_,rfl⟩ rfl rfl ⟨rfl,rfl⟩)
theorem Z9j (n:PN)(b e:Nat):FnO Tryz.prog 37 [.ptr 0 0] (cB n b e) fun g rs=>g=.v (.bool n.dead)∧rs=cB n b e:=by
 refine Ba Tryz.func37 (A5 (O:=oBs n b e) (n0:=5) rfl) ?_
 exact .inl (A1 (oBs n b e) [] (by exact RL5) rfl ⟨_,rfl⟩ rfl rfl ⟨rfl,rfl⟩)
theorem Zcz (n:PN)(b e:Nat):FnO Tryz.prog 131 [.ptr 0 0,gI 0] (cB n b e) fun g rs=>g=.v (.bool true)∧rs=cB n b e:=by
 refine Ba Tryz.func131 (A5 (O:=oBs n b e) (n0:=5) rfl) ?_
 refine di (fun h=>dc rfl h) fun _=>?_
 exact .inl (A1 (oBs n b e) [] (by exact RL5) rfl ⟨_,rfl⟩ rfl rfl ⟨rfl,rfl⟩)
theorem Ze8 (n:PN)(b e:Nat){er:Int}(he:er≠0):FnO Tryz.prog 131 [.ptr 0 0,gI er] (cB n b e) fun g rs=>g=.v (.bool false)∧rs=cB (E3 n er) b e:=by
 refine FnO.mono (Q:=fun g rs=>g=.v (.bool (er==0))∧rs=cB (E3 n er) b e) ?_ fun g rs h=>by rw[show(er==0)=false by simpa using he] at h;exact h
 refine Ba Tryz.func131 (A5 (O:=oBs n b e) (n0:=5) rfl) ?_
 refine di (fun _=>?_) fun h=>dc h he
 have e1:E3 n er={n with dead:=true,out:=[]}:=by unfold E3;rw[db he]
 exact .gh (.nil 0 (Z8b n (.sl (n.log.map enE))) [.tt] tNd tPk 3 rfl (by decide) (.seen 0 _ _ rfl (.done (A1 (oBs {n with dead:=true,out:=[]} b e) [(1,1),(2,2),(3,5),(4,4)] (by exact RL5) rfl ⟨_,rfl⟩ rfl rfl ⟨rfl,by rw[e1]⟩))))
theorem Zhg (n:PN)(b e:Nat):FnO Tryz.prog 25 [.ptr 0 0] (cB n b e) fun g rs=>g=.osl 1∧rs=[.abs (cl (oBs {n with out:=[]} b e)),.slc (n.out.map pkG) tPk 3]:=by
 refine Ba Tryz.func25 (A5 (O:=oBs n b e) (n0:=5) rfl) ?_
 exact .gh (.nil 0 (Z8b n (.sl (n.log.map enE))) [.v (.bool n.dead)] tNd tPk 3 rfl (by decide) (.done ⟨[⟨oBs {n with out:=[]} b e,[(1,1),(2,2),(3,6),(4,4)],true⟩,⟨[(0,.slc (n.out.map pkG) tPk 3)],[(0,3)],false⟩],.osl 1,⟨⟨⟨(by exact RL5),_,rfl⟩,⟨_,rfl,rfl,rfl⟩,trivial⟩,rfl,⟨_,rfl⟩,rfl,rfl,⟨rfl,rfl⟩⟩⟩))
theorem Zh5 (n:PN)(b e:Nat)(hl:n.log.length≤1000000):FnO Tryz.prog 22 [.ptr 0 0] (cB n b e) fun g rs=>g=.osl 1∧rs=[.abs (cl (oBs n b e)),.slc (n.log.map enE) tEn 3]:=by
 refine Ba Tryz.func22 (A5 (O:=oBs n b e) (n0:=5) rfl) ?_
 refine(P5 n.log hl).cal fun q rs hq=>?_
 obtain⟨rfl,rfl⟩:=hq
 exact .inl ⟨[⟨oBs n b e,[],true⟩,⟨[(0,.slc (n.log.map enE) tEn 3)],[(0,6)],false⟩],.osl 1,⟨⟨⟨(by exact RL5),_,rfl⟩,⟨_,rfl,rfl,rfl⟩,trivial⟩,rfl,⟨_,rfl⟩,rfl,rfl,⟨rfl,rfl⟩⟩⟩
abbrev cellsH (n:PN)(u:Nat→Value)(o:G):List G:=[gI n.self,gI n.many,.v (u 2),gI n.pmd,gI n.normal,.v (u 5),gI n.cmt,.v (.bool n.lds),.v (.bool n.std),.v (.bool (n.jns 0).is),gI (n.jns 0).normal,.v (u 11),.v (.bool (n.jns 1).is),gI (n.jns 1).normal,.v (u 14),.v (.bool (n.jns 2).is),gI (n.jns 2).normal,.v (u 17),.v (.bool (n.jns 3).is),gI (n.jns 3).normal,.v (u 20),.v (.bool (n.jns 4).is),gI (n.jns 4).normal,.v (u 23),.v (.bool (n.jns 5).is),gI (n.jns 5).normal,.v (u 26),.v (.bool (n.jns 6).is),gI (n.jns 6).normal,.v (u 29),gI n.first,gI (n.aks 0),gI (n.aks 1),gI (n.aks 2),gI (n.aks 3),gI (n.aks 4),gI (n.aks 5),gI (n.aks 6),.v (.bool (n.hrd 0)),.v (.bool (n.hrd 1)),.v (.bool (n.hrd 2)),.v (.bool (n.hrd 3)),.v (.bool (n.hrd 4)),.v (.bool (n.hrd 5)),.v (.bool (n.hrd 6)),o,.v (.bool n.dead)]
abbrev Zho (n:PN)(u:Nat→Value):List G:=[gI n.self,gI n.many,.v (u 2),gI n.pmd,gI n.normal,.v (u 5),gI n.cmt,.v (.bool n.lds),.v (.bool n.std),.v (.bool (n.jns 0).is),gI (n.jns 0).normal,.v (u 11),.v (.bool (n.jns 1).is),gI (n.jns 1).normal,.v (u 14),.v (.bool (n.jns 2).is),gI (n.jns 2).normal,.v (u 17),.v (.bool (n.jns 3).is),gI (n.jns 3).normal,.v (u 20),.v (.bool (n.jns 4).is),gI (n.jns 4).normal,.v (u 23),.v (.bool (n.jns 5).is),gI (n.jns 5).normal,.v (u 26),.v (.bool (n.jns 6).is),gI (n.jns 6).normal,.v (u 29),gI n.first,gI (n.aks 0),gI (n.aks 1),gI (n.aks 2),gI (n.aks 3),gI (n.aks 4),gI (n.aks 5),gI (n.aks 6),.v (.bool (n.hrd 0)),.v (.bool (n.hrd 1)),.v (.bool (n.hrd 2)),.v (.bool (n.hrd 3)),.v (.bool (n.hrd 4)),.v (.bool (n.hrd 5)),.v (.bool (n.hrd 6))]
abbrev hN (n:PN)(u:Nat→Value):List R:=[.blk (cellsH n u (.osl 1)) tNd,.slc (n.out.map pkG) tPk 3]
theorem U5 (n:PN)(u:Nat→Value)(to:Nat)(m:RM)(hm:m.l.length≤1000000)(ho:n.out.length≤1000000):FnO Tryz.prog 99 [.ptr 0 0,gI to,.agg (enM m)] (hN n u) fun g rs=>g=.tup []∧rs=[.blk (cellsH (Ay n to m) u (.osl 2)) tNd,.gone,.slc ((Ay n to m).out.map pkG) tPk 3]:=by
 refine Ba Tryz.func99 (C3 _ _) ?_
 refine(Yg m hm).cal fun q hq=>?_
 subst hq
 unfold wrM
 refine de (fun h=>?_) fun h=>?_
 ·have hk:okM m=true:=by
   unfold eM at h
   split at h
   ·assumption
   ·cases h
  have e1:Ay n to m={n with out:=n.out++[⟨n.self,to,⟨(bM m).toArray⟩⟩]}:=by unfold Ay;rw[db hk]
  have e2:(Ay n to m).out.map pkG=n.out.map pkG++[[gI n.self,gI to,.v (.string ⟨(bM m).toArray⟩)]]:=by rw[e1];exact am
  rw[e2,e1]
  refine⟨by simp;omega,?_⟩
  exact .inl ⟨[⟨[(0,.blk (cellsH n u (.osl 2)) tNd)],[(0,0)],false⟩,⟨[(0,.gone)],[(0,1)],false⟩,⟨[(0,.slc (n.out.map pkG++[[gI n.self,gI to,.v (.string ⟨(bM m).toArray⟩)]]) tPk 3)],[(0,4)],false⟩],.tup [],⟨⟨⟨_,rfl,rfl,rfl⟩,⟨_,rfl,rfl,rfl⟩,⟨_,rfl,rfl,rfl⟩,trivial⟩,rfl,⟨_,rfl⟩,rfl,rfl,⟨rfl,rfl⟩⟩⟩
 ·have e1:Ay n to m=n:=by
   unfold eM at h
   split at h
   ·exact dc rfl h
   ·unfold Ay;rw[da (by assumption)]
  rw[e1]
  exact .gh (.rnm 0 1 (Zho n u) [.v (.bool n.dead)] tNd _ tPk 3 rfl rfl (.done ⟨[⟨[(0,.blk (cellsH n u (.osl 2)) tNd)],[(0,0)],false⟩,⟨[(0,.gone)],[(0,1)],false⟩,⟨[(0,.slc (n.out.map pkG) tPk 3)],[(0,3)],false⟩],.tup [],⟨⟨⟨_,rfl,rfl,rfl⟩,⟨_,rfl,rfl,rfl⟩,⟨_,rfl,rfl,rfl⟩,trivial⟩,rfl,⟨_,rfl⟩,rfl,rfl,⟨rfl,rfl⟩⟩⟩))
theorem Fj (f:PN→Nat→PN)(n:PN)(i:Nat):Kg f n (i+1)=if i=(Kg f n i).self then Kg f n i else f (Kg f n i) i:=by unfold Kg;rw[List.range_succ,List.foldl_append];rfl
def SameN (n n':PN):Prop:={n' with out:=n.out}=n
theorem SameN.refl (n:PN):SameN n n:=rfl
theorem SameN.to {n n':PN}(h:SameN n n'):∃o,n'={n with out:=o}:=⟨n'.out,by cases n;cases n';unfold SameN at h;cases h;rfl⟩
theorem SameN.trans {n n' n2:PN}(h:SameN n n')(h2:SameN n' n2):SameN n n2:=by
 obtain⟨o,rfl⟩:=h.to
 obtain⟨o2,rfl⟩:=h2.to
 rfl
theorem A8 (n:PN)(to:Nat)(m:RM):SameN n (Ay n to m):=by unfold Ay SameN;split<;>rfl
theorem Dh (n:PN)(to:Nat)(m:RM):(Ay n to m).out.length≤n.out.length+1:=by unfold Ay;split<;>simp
abbrev tNp:Nat:=40
abbrev tMg:Nat:=29
theorem Z19 (n:PN)(u:Nat→Value)(i:Nat)(m:RM)(hm:m.l.length≤1000000)(ho:n.out.length≤1000000):FnO Tryz.prog 98 [gI i,.ptr 0 0,.ptr 1 0] [.blk [.ptr 2 0] tNp,.blk (enM m) tMg,.blk (cellsH n u (.osl 3)) tNd,.slc (n.out.map pkG) tPk 3] fun g rs=>g=.tup []∧rs=[.blk [.ptr 2 0] tNp,.blk (enM m) tMg,.blk (cellsH (Ay n i m) u (.osl 4)) tNd,.gone,.slc ((Ay n i m).out.map pkG) tPk 3]:=by
 refine Ba Tryz.func98 (C3 _ _) ?_
 refine dh ((U5 n u i m hm ho).cal fun q rs hq=>?_)
 obtain⟨rfl,rfl⟩:=hq
 exact .inl ⟨[⟨[(0,.blk [.ptr 2 0] tNp)],[(0,0)],false⟩,⟨[(0,.blk (enM m) tMg)],[(0,1)],false⟩,⟨[(0,.blk (cellsH (Ay n i m) u (.osl 4)) tNd)],[(0,2)],false⟩,⟨[(0,.gone)],[(0,3)],false⟩,⟨[(0,.slc ((Ay n i m).out.map pkG) tPk 3)],[(0,4)],false⟩],.tup [],⟨⟨⟨_,rfl,rfl,rfl⟩,⟨_,rfl,rfl,rfl⟩,⟨_,rfl,rfl,rfl⟩,⟨_,rfl,rfl,rfl⟩,⟨_,rfl,rfl,rfl⟩,trivial⟩,rfl,⟨_,rfl⟩,rfl,rfl,⟨rfl,rfl⟩⟩⟩
theorem Z49 (n:PN)(u:Nat→Value)(m:RM)(hm:m.l.length≤1000000)(hk:n.many≤100)(ho:n.out.length≤900000):FnO Tryz.prog 97 [.ptr 0 0,.clo 98 [] [.ptr 1 0,.ptr 2 0]] [.blk (cellsH n u (.osl 3)) tNd,.blk [.ptr 0 0] tNp,.blk (enM m) tMg,.slc (n.out.map pkG) tPk 3] fun g rs=>g=.tup []∧rs=[.blk (cellsH (Kg (fun n i=>Ay n i m) n n.many) u (.osl 4)) tNd,.blk [.ptr 0 0] tNp,.blk (enM m) tMg,.gone,.slc ((Kg (fun n i=>Ay n i m) n n.many).out.map pkG) tPk 3]:=by
 refine Ba Tryz.func97 (C3 _ _) ?_
 refine D2 [0,1,8] [1,2] (fun x:Nat × PN=>[(9,gI x.1)]) (fun x=>[(0,.blk (cellsH x.2 u (.osl 3)) tNd),(3,.slc (x.2.out.map pkG) tPk 3)]) (fun x=>x.1≤n.many∧x.2=Kg (fun n i=>Ay n i m) n x.1∧SameN n x.2∧x.2.out.length≤n.out.length+x.1) (fun x=>n.many - x.1) (0,n) ⟨ah _,rfl,rfl,af _⟩ ⟨⟨rfl,rfl⟩,trivial⟩ (by exact RL2) rfl fun⟨i,n'⟩ hI=>?_
 obtain⟨hi,hn,hs,hl⟩:=hI
 dsimp only at hi hn hs hl
 refine df (fun hlt=>?_) fun hge=>?_
 ·have hlt:i < n.many:=by omega
  have hst:=Fj (fun n i=>Ay n i m) n i
  rw[←hn] at hst
  refine di (fun hne=>?_) fun heq=>?_
  ·have hne:i≠n'.self:=fun e=>hne (by rw[e])
   rw[da hne] at hst
   refine dh ((Z19 n' u i m hm (by omega)).cal fun q rs hq=>?_)
   obtain⟨rfl,rfl⟩:=hq
   refine⟨by omega,.done ⟨(i+1,Ay n' i m),[(3,4)],⟨hlt,hst.symm,hs.trans (A8 _ _ _),by have:=Dh n' i m;dsimp only;omega⟩,(by dsimp only;omega),?_⟩⟩
   refine⟨?_,?_,rfl⟩<;>repeat' (first|exact trivial|with_reducible rfl|exact rfl|refine And.intro ?_ ?_)
  ·have heq:i=n'.self:=by have:((i:Nat):Int)=(n'.self:Nat):=heq;omega
   rw[db heq] at hst
   refine⟨by omega,.done ⟨(i+1,n'),[],⟨hlt,hst.symm,hs,by dsimp only;omega⟩,(by dsimp only;omega),?_⟩⟩
   refine⟨?_,?_,rfl⟩<;>repeat' (first|exact trivial|with_reducible rfl|exact rfl|refine And.intro ?_ ?_)
 ·have:i=n.many:=by omega
  subst this
  rw[←hn]
  conv=>whnf
  refine Gh.done ?_
  exact .gh (.rnm 0 3 (Zho n' u) [.v (.bool n'.dead)] tNd _ tPk 3 rfl rfl (.done ⟨[⟨[(0,.blk (cellsH n' u (.osl 4)) tNd)],[(0,0)],false⟩,⟨[(0,.blk [.ptr 0 0] tNp)],[(0,1)],false⟩,⟨[(0,.blk (enM m) tMg)],[(0,2)],false⟩,⟨[(0,.gone)],[(0,3)],false⟩,⟨[(0,.slc (n'.out.map pkG) tPk 3)],[(0,4)],false⟩],.tup [],⟨⟨⟨_,rfl,rfl,rfl⟩,⟨_,rfl,rfl,rfl⟩,⟨_,rfl,rfl,rfl⟩,⟨_,rfl,rfl,rfl⟩,⟨_,rfl,rfl,rfl⟩,trivial⟩,rfl,⟨_,rfl⟩,rfl,rfl,⟨rfl,rfl⟩⟩⟩))
theorem Ox (n:PN)(u:Nat→Value)(m:RM)(hm:m.l.length≤1000000)(hk:n.many≤100)(ho:n.out.length≤900000):FnO Tryz.prog 66 [.ptr 0 0,.agg (enM m)] (hN n u) fun g rs=>g=.tup []∧rs=[.blk (cellsH (Ax n m) u (.osl 2)) tNd,.gone,.slc ((Ax n m).out.map pkG) tPk 3]:=by
 refine Ba Tryz.func66 (C3 _ _) ?_
 refine dh ((Z49 n u m hm hk ho).cal fun q rs hq=>?_)
 obtain⟨rfl,rfl⟩:=hq
 exact .inl ⟨[⟨[(0,.blk (cellsH (Ax n m) u (.osl 2)) tNd)],[(0,0)],false⟩,⟨[(0,.gone)],[(0,1)],false⟩,⟨[(0,.slc ((Ax n m).out.map pkG) tPk 3)],[(0,4)],false⟩],.tup [],⟨⟨⟨_,rfl,rfl,rfl⟩,⟨_,rfl,rfl,rfl⟩,⟨_,rfl,rfl,rfl⟩,trivial⟩,rfl,⟨_,rfl⟩,rfl,rfl,⟨rfl,rfl⟩⟩⟩
theorem Zc7 (l:List RPk):∀r∈l.map pkG,∀g∈r,Gb g=true:=fun r hr g hg=>by
 obtain⟨p,-,rfl⟩:=az.1 hr
 unfold pkG at hg
 simp only[List.mem_cons,List.not_mem_nil,or_false] at hg
 rcases hg with rfl | rfl | rfl<;>rfl
theorem Vl (n:PN)(f:PN→Nat→PN)(h:∀n i,SameN n (f n i))(k:Nat):SameN n (Kg f n k):=by
 induction k with
 | zero=>exact .refl n
 | succ k ih =>
  rw[Fj]
  split
  ·exact ih
  ·exact ih.trans (h _ _)
theorem A2 (n:PN)(m:RM):SameN n (Ax n m):=Vl n _ (fun n i=>A8 n i m) _
theorem SameN.cells {n n':PN}(h:SameN n n')(s l o:G):Ad n' s l o=Ad n s l o:=by
 obtain⟨x,rfl⟩:=h.to
 rfl
theorem SameN.cellsH {n n':PN}(h:SameN n n')(u:Nat→Value)(o:G):cellsH n' u o=Go.Proofs.YtihfaocdpmmooaaGreat.cellsH n u o:=by
 obtain⟨x,rfl⟩:=h.to
 rfl
theorem Z82 (n:PN):KeepS 3 4 (Ad n (.ptr 1 0) (.osl 2) (.osl 3)) (Ad n (.ptr 1 0) (.osl 2) (.osl 4)):=⟨.inl rfl,.inl rfl,.inr (.inr ⟨rfl,nofun⟩),.inl rfl,.inl rfl,.inr (.inr ⟨rfl,fun h=>by injection h with h;exact dc h (by decide)⟩),.inl rfl,.inl rfl,.inl rfl,.inl rfl,.inl rfl,.inr (.inr ⟨rfl,nofun⟩),.inl rfl,.inl rfl,.inr (.inr ⟨rfl,nofun⟩),.inl rfl,.inl rfl,.inr (.inr ⟨rfl,nofun⟩),.inl rfl,.inl rfl,.inr (.inr ⟨rfl,nofun⟩),.inl rfl,.inl rfl,.inr (.inr ⟨rfl,nofun⟩),.inl rfl,.inl rfl,.inr (.inr ⟨rfl,nofun⟩),.inl rfl,.inl rfl,.inr (.inr ⟨rfl,nofun⟩),.inl rfl,.inl rfl,.inl rfl,.inl rfl,.inl rfl,.inl rfl,.inl rfl,.inl rfl,.inl rfl,.inl rfl,.inl rfl,.inl rfl,.inl rfl,.inl rfl,.inl rfl,.inr (.inl rfl),.inl rfl,trivial⟩
theorem Z8f (n:PN)(r:List (List G)):KeepS 2 3 (Ad n (.ptr 1 0) (.sl r) (.osl 2)) (Ad n (.ptr 1 0) (.sl r) (.osl 3)):=⟨.inl rfl,.inl rfl,.inr (.inr ⟨rfl,nofun⟩),.inl rfl,.inl rfl,.inr (.inr ⟨rfl,nofun⟩),.inl rfl,.inl rfl,.inl rfl,.inl rfl,.inl rfl,.inr (.inr ⟨rfl,nofun⟩),.inl rfl,.inl rfl,.inr (.inr ⟨rfl,nofun⟩),.inl rfl,.inl rfl,.inr (.inr ⟨rfl,nofun⟩),.inl rfl,.inl rfl,.inr (.inr ⟨rfl,nofun⟩),.inl rfl,.inl rfl,.inr (.inr ⟨rfl,nofun⟩),.inl rfl,.inl rfl,.inr (.inr ⟨rfl,nofun⟩),.inl rfl,.inl rfl,.inr (.inr ⟨rfl,nofun⟩),.inl rfl,.inl rfl,.inl rfl,.inl rfl,.inl rfl,.inl rfl,.inl rfl,.inl rfl,.inl rfl,.inl rfl,.inl rfl,.inl rfl,.inl rfl,.inl rfl,.inl rfl,.inr (.inl rfl),.inl rfl,trivial⟩
theorem Z7g (n:PN):KeepS 3 4 (Ad n (.ptr 2 0) (.osl 1) (.osl 3)) (Ad n (.ptr 2 0) (.osl 1) (.osl 4)):=⟨.inl rfl,.inl rfl,.inr (.inr ⟨rfl,nofun⟩),.inl rfl,.inl rfl,.inr (.inr ⟨rfl,fun h=>by injection h with h;exact dc h (by decide)⟩),.inl rfl,.inl rfl,.inl rfl,.inl rfl,.inl rfl,.inr (.inr ⟨rfl,nofun⟩),.inl rfl,.inl rfl,.inr (.inr ⟨rfl,nofun⟩),.inl rfl,.inl rfl,.inr (.inr ⟨rfl,nofun⟩),.inl rfl,.inl rfl,.inr (.inr ⟨rfl,nofun⟩),.inl rfl,.inl rfl,.inr (.inr ⟨rfl,nofun⟩),.inl rfl,.inl rfl,.inr (.inr ⟨rfl,nofun⟩),.inl rfl,.inl rfl,.inr (.inr ⟨rfl,nofun⟩),.inl rfl,.inl rfl,.inl rfl,.inl rfl,.inl rfl,.inl rfl,.inl rfl,.inl rfl,.inl rfl,.inl rfl,.inl rfl,.inl rfl,.inl rfl,.inl rfl,.inl rfl,.inr (.inl rfl),.inl rfl,trivial⟩
theorem Lz (n:PN)(p:Ob)(to:Nat)(m:RM)(hm:m.l.length≤1000000)(ho:n.out.length≤1000000):FnO Tryz.prog 99 [.ptr 0 0,gI to,.agg (enM m)] [.blk (Ad n (.ptr 1 0) (.osl 2) (.osl 3)) tNd,.abs p,.slc (n.log.map enE) tEn 3,.slc (n.out.map pkG) tPk 3] fun g rs=>g=.tup []∧rs=[.blk (Ad (Ay n to m) (.ptr 1 0) (.osl 2) (.osl 4)) tNd,.abs p,.slc (n.log.map enE) tEn 3,.gone,.slc ((Ay n to m).out.map pkG) tPk 3]:=by
 rw[(A8 n to m).cells]
 exact FnO.peekZ (rest:=[.abs p,.slc (n.log.map enE) tEn 3,.slc (n.out.map pkG) tPk 3]) (jo:=3) rfl (Z82 n) rfl rfl (Zc7 _) fun u=>by
  have:=U5 n u to m hm ho
  rw[(A8 n to m).cellsH] at this
  exact this
theorem Uc (n:PN)(p:Ob)(to:Nat)(m:RM)(hm:m.l.length≤1000000)(ho:n.out.length≤1000000):FnO Tryz.prog 99 [.ptr 0 0,gI to,.agg (enM m)] [.blk (Ad n (.ptr 1 0) (.sl (n.log.map enE)) (.osl 2)) tNd,.abs p,.slc (n.out.map pkG) tPk 3] fun g rs=>g=.tup []∧rs=[.blk (Ad (Ay n to m) (.ptr 1 0) (.sl (n.log.map enE)) (.osl 3)) tNd,.abs p,.gone,.slc ((Ay n to m).out.map pkG) tPk 3]:=by
 rw[(A8 n to m).cells]
 exact FnO.peekZ (rest:=[.abs p,.slc (n.out.map pkG) tPk 3]) (jo:=2) rfl (Z8f n _) rfl rfl (Zc7 _) fun u=>by
  have:=U5 n u to m hm ho
  rw[(A8 n to m).cellsH] at this
  exact this
theorem F7 (n:PN)(p:Ob)(m:RM)(hm:m.l.length≤1000000)(hk:n.many≤100)(ho:n.out.length≤900000):FnO Tryz.prog 66 [.ptr 0 0,.agg (enM m)] [.blk (Ad n (.ptr 1 0) (.osl 2) (.osl 3)) tNd,.abs p,.slc (n.log.map enE) tEn 3,.slc (n.out.map pkG) tPk 3] fun g rs=>g=.tup []∧rs=[.blk (Ad (Ax n m) (.ptr 1 0) (.osl 2) (.osl 4)) tNd,.abs p,.slc (n.log.map enE) tEn 3,.gone,.slc ((Ax n m).out.map pkG) tPk 3]:=by
 rw[(A2 n m).cells]
 exact FnO.peekZ (rest:=[.abs p,.slc (n.log.map enE) tEn 3,.slc (n.out.map pkG) tPk 3]) (jo:=3) rfl (Z82 n) rfl rfl (Zc7 _) fun u=>by
  have:=Ox n u m hm hk ho
  rw[(A2 n m).cellsH] at this
  exact this
theorem C9 (n:PN)(p:Ob)(m:RM)(hm:m.l.length≤1000000)(hk:n.many≤100)(ho:n.out.length≤900000):FnO Tryz.prog 66 [.ptr 0 0,.agg (enM m)] [.blk (Ad n (.ptr 1 0) (.sl (n.log.map enE)) (.osl 2)) tNd,.abs p,.slc (n.out.map pkG) tPk 3] fun g rs=>g=.tup []∧rs=[.blk (Ad (Ax n m) (.ptr 1 0) (.sl (n.log.map enE)) (.osl 3)) tNd,.abs p,.gone,.slc ((Ax n m).out.map pkG) tPk 3]:=by
 rw[(A2 n m).cells]
 exact FnO.peekZ (rest:=[.abs p,.slc (n.out.map pkG) tPk 3]) (jo:=2) rfl (Z8f n _) rfl rfl (Zc7 _) fun u=>by
  have:=Ox n u m hm hk ho
  rw[(A2 n m).cellsH] at this
  exact this
theorem Hp (n:PN)(p:Ob)(to:Nat)(m:RM)(q:G)(hq:Z17 ((1,.froz (n.log.map enE) 3)::B7 [.blk (Ad n (.ptr 2 0) (.osl 1) (.osl 3)) tNd,.slc (n.log.map enE) tEn 3,.abs p,.slc (n.out.map pkG) tPk 3] 0) q=.agg (enM m))(hm:m.l.length≤1000000)(ho:n.out.length≤1000000):FnO Tryz.prog 99 [.ptr 0 0,gI to,q] [.blk (Ad n (.ptr 2 0) (.osl 1) (.osl 3)) tNd,.slc (n.log.map enE) tEn 3,.abs p,.slc (n.out.map pkG) tPk 3] fun g rs=>g=.tup []∧rs=[.blk (Ad (Ay n to m) (.ptr 2 0) (.osl 1) (.osl 4)) tNd,.slc (n.log.map enE) tEn 3,.abs p,.gone,.slc ((Ay n to m).out.map pkG) tPk 3]:=by
 rw[(A8 n to m).cells]
 exact FnO.peekF (rest:=[.slc (n.log.map enE) tEn 3,.abs p,.slc (n.out.map pkG) tPk 3]) (jo:=3) (js:=1) (gs':=[gI to,.agg (enM m)]) rfl rfl (by decide) (Z7g n) (by rw[←hq];rfl) rfl (Zc7 _) fun u=>by
  have:=U5 n u to m hm ho
  rw[(A8 n to m).cellsH] at this
  exact this
theorem Fu (n:PN)(p:Ob)(m:RM)(q:G)(hq:Z17 ((1,.froz (n.log.map enE) 3)::B7 [.blk (Ad n (.ptr 2 0) (.osl 1) (.osl 3)) tNd,.slc (n.log.map enE) tEn 3,.abs p,.slc (n.out.map pkG) tPk 3] 0) q=.agg (enM m))(hm:m.l.length≤1000000)(hk:n.many≤100)(ho:n.out.length≤900000):FnO Tryz.prog 66 [.ptr 0 0,q] [.blk (Ad n (.ptr 2 0) (.osl 1) (.osl 3)) tNd,.slc (n.log.map enE) tEn 3,.abs p,.slc (n.out.map pkG) tPk 3] fun g rs=>g=.tup []∧rs=[.blk (Ad (Ax n m) (.ptr 2 0) (.osl 1) (.osl 4)) tNd,.slc (n.log.map enE) tEn 3,.abs p,.gone,.slc ((Ax n m).out.map pkG) tPk 3]:=by
 rw[(A2 n m).cells]
 exact FnO.peekF (rest:=[.slc (n.log.map enE) tEn 3,.abs p,.slc (n.out.map pkG) tPk 3]) (jo:=3) (js:=1) (gs':=[.agg (enM m)]) rfl rfl (by decide) (Z7g n) (by rw[←hq];rfl) rfl (Zc7 _) fun u=>by
  have:=Ox n u m hm hk ho
  rw[(A2 n m).cellsH] at this
  exact this
theorem Qw {n:PN}{i:Nat}{e:REnt}(h:n.log[i]?=some e):(Cp 1 n.pmd 0 eS::Cp 2 n.normal 0 eS::(n.log.take i).map fun e=>Cp 3 e.v e.n e.b)++[Cp 3 e.v e.n e.b]=Cp 1 n.pmd 0 eS::Cp 2 n.normal 0 eS::(n.log.take (i+1)).map fun e=>Cp 3 e.v e.n e.b:=by
 rw[An h,am];rfl
abbrev tSg:Nat:=9
def Z3n (n:PN)(i:Nat):List ByteArray:=Cp 1 n.pmd 0 eS::Cp 2 n.normal 0 eS::(n.log.take i).map fun e=>Cp 3 e.v e.n e.b
abbrev Zbx (n:PN)(o:G):List G:=[gI n.cmt,.v (.bool n.lds),.v (.bool n.std),.v (.bool (n.jns 0).is),gI (n.jns 0).normal,.sl ((n.jns 0).l.map enE),.v (.bool (n.jns 1).is),gI (n.jns 1).normal,.sl ((n.jns 1).l.map enE),.v (.bool (n.jns 2).is),gI (n.jns 2).normal,.sl ((n.jns 2).l.map enE),.v (.bool (n.jns 3).is),gI (n.jns 3).normal,.sl ((n.jns 3).l.map enE),.v (.bool (n.jns 4).is),gI (n.jns 4).normal,.sl ((n.jns 4).l.map enE),.v (.bool (n.jns 5).is),gI (n.jns 5).normal,.sl ((n.jns 5).l.map enE),.v (.bool (n.jns 6).is),gI (n.jns 6).normal,.sl ((n.jns 6).l.map enE),gI n.first,gI (n.aks 0),gI (n.aks 1),gI (n.aks 2),gI (n.aks 3),gI (n.aks 4),gI (n.aks 5),gI (n.aks 6),.v (.bool (n.hrd 0)),.v (.bool (n.hrd 1)),.v (.bool (n.hrd 2)),.v (.bool (n.hrd 3)),.v (.bool (n.hrd 4)),.v (.bool (n.hrd 5)),.v (.bool (n.hrd 6)),o,.v (.bool n.dead)]
theorem Z4g (n:PN)(p:Ob)(hl:n.log.length≤1000000):FnO Tryz.prog 133 [.ptr 0 0] [.blk (Ad n (.ptr 1 0) (.osl 2) (.osl 3)) tNd,.abs p,.slc (n.log.map enE) tEn 3,.slc (n.out.map pkG) tPk 3] fun g rs=>g=.osl 6∧rs=[.blk (Ad n (.ptr 1 0) (.osl 4) (.osl 5)) tNd,.abs p,.gone,.gone,.slc (n.log.map enE) tEn 3,.slc (n.out.map pkG) tPk 3,.slc ((Bz n).map gSt) tSg 1]:=by
 refine Ba Tryz.func133 (C3 _ _) ?_
 refine(Ds _ _ _ _).cal fun q hq=>?_
 subst hq
 refine(Ds _ _ _ _).cal fun q hq=>?_
 subst hq
 refine Ap [20,21] [0,1,2,3] (fun i:Nat=>[(22,gI i),(3,.osl 5)]) (fun i=>[(5,.slc ((Z3n n i).map gSt) tSg 1)]) (fun i=>i≤n.log.length) (fun i=>n.log.length - i) 0 (ah _) ⟨⟨rfl,rfl⟩,⟨rfl,rfl⟩,trivial⟩ ⟨⟨rfl,rfl,eqR (by rfl)⟩,trivial⟩ rfl fun i hi=>?_
 refine df (fun h=>?_) fun h=>?_
 ·rw[aa] at h
  obtain⟨c,hc⟩:∃c,n.log[i]?=some c:=⟨_,ab (by omega)⟩
  refine⟨⟨by omega,by rw[aa];omega⟩,?_⟩
  refine dk hc ?_
  have hlt:=Bl hc
  refine(Ds _ _ _ _).cal fun q hq=>?_
  subst hq
  refine⟨by unfold Z3n;simp;omega,?_⟩
  refine⟨by omega,i+1,hlt,(by dsimp only;omega),?_⟩
  refine⟨?_,?_,rfl⟩<;>repeat' (first|exact trivial|with_reducible rfl|exact rfl|refine And.intro ?_ ?_)
  exact eqR (by unfold Z3n;rw[←Qw hc];simp;rfl)
 ·have hi2:i=n.log.length:=by rw[aa] at h;omega
  subst hi2
  have e1:Z3n n n.log.length=Bz n:=by unfold Z3n Bz;rw[List.take_length]
  rw[e1]
  exact .gh (.rnm 0 2 [gI n.self,gI n.many,.ptr 1 0,gI n.pmd,gI n.normal] (Zbx n (.osl 3)) tNd _ tEn 3 rfl rfl (.rnm 0 3 (Z8b n (.osl 6)) [.v (.bool n.dead)] tNd _ tPk 3 rfl rfl (.done ⟨[⟨[(0,.blk (Ad n (.ptr 1 0) (.osl 4) (.osl 5)) tNd)],[(0,0)],false⟩,⟨[(0,.abs p)],[(0,1)],false⟩,⟨[(0,.gone)],[(0,2)],false⟩,⟨[(0,.gone)],[(0,3)],false⟩,⟨[(0,.slc (n.log.map enE) tEn 3)],[(0,6)],false⟩,⟨[(0,.slc (n.out.map pkG) tPk 3)],[(0,7)],false⟩,⟨[(0,.slc ((Bz n).map gSt) tSg 1)],[(0,5)],false⟩],.osl 6,⟨⟨⟨_,rfl,rfl,rfl⟩,⟨_,rfl,rfl,rfl⟩,⟨_,rfl,rfl,rfl⟩,⟨_,rfl,rfl,rfl⟩,⟨_,rfl,rfl,rfl⟩,⟨_,rfl,rfl,rfl⟩,⟨_,rfl,rfl,rfl⟩,trivial⟩,rfl,⟨_,rfl⟩,rfl,rfl,⟨rfl,rfl⟩⟩⟩)))
theorem Zh1 (n:PN)(p:Ob)(hl:n.log.length≤1000000):FnO Tryz.prog 133 [.ptr 0 0] [.blk (Ad n (.ptr 1 0) (.sl (n.log.map enE)) (.osl 2)) tNd,.abs p,.slc (n.out.map pkG) tPk 3] fun g rs=>g=.osl 4∧rs=[.blk (Ad n (.ptr 1 0) (.sl (n.log.map enE)) (.osl 3)) tNd,.abs p,.gone,.slc (n.out.map pkG) tPk 3,.slc ((Bz n).map gSt) tSg 1]:=by
 refine Ba Tryz.func133 (C3 _ _) ?_
 refine(Ds _ _ _ _).cal fun q hq=>?_
 subst hq
 refine(Ds _ _ _ _).cal fun q hq=>?_
 subst hq
 refine Ap [20,21] [0,1,2] (fun i:Nat=>[(22,gI i),(3,.osl 4)]) (fun i=>[(4,.slc ((Z3n n i).map gSt) tSg 1)]) (fun i=>i≤n.log.length) (fun i=>n.log.length - i) 0 (ah _) ⟨⟨rfl,rfl⟩,⟨rfl,rfl⟩,trivial⟩ ⟨⟨rfl,rfl,eqR (by rfl)⟩,trivial⟩ rfl fun i hi=>?_
 refine df (fun h=>?_) fun h=>?_
 ·skip
  skip
  skip
  refine dn (by simpa using h) fun c hc=>?_
  have hlt:=Bl hc
  refine(Ds _ _ _ _).cal fun q hq=>?_
  subst hq
  refine⟨by unfold Z3n;simp;omega,?_⟩
  refine⟨by omega,i+1,hlt,(by dsimp only;omega),?_⟩
  refine⟨?_,?_,rfl⟩<;>repeat' (first|exact trivial|with_reducible rfl|exact rfl|refine And.intro ?_ ?_)
  exact eqR (by unfold Z3n;rw[←Qw hc];simp;rfl)
 ·have hi2:i=n.log.length:=by rw[aa] at h;omega
  subst hi2
  have e1:Z3n n n.log.length=Bz n:=by unfold Z3n Bz;rw[List.take_length]
  rw[e1]
  exact .gh (.rnm 0 2 (Z8b n (.sl (n.log.map enE))) [.v (.bool n.dead)] tNd _ tPk 3 rfl rfl (.done ⟨[⟨[(0,.blk (Ad n (.ptr 1 0) (.sl (n.log.map enE)) (.osl 3)) tNd)],[(0,0)],false⟩,⟨[(0,.abs p)],[(0,1)],false⟩,⟨[(0,.gone)],[(0,2)],false⟩,⟨[(0,.slc (n.out.map pkG) tPk 3)],[(0,5)],false⟩,⟨[(0,.slc ((Bz n).map gSt) tSg 1)],[(0,4)],false⟩],.osl 4,⟨⟨⟨_,rfl,rfl,rfl⟩,⟨_,rfl,rfl,rfl⟩,⟨_,rfl,rfl,rfl⟩,⟨_,rfl,rfl,rfl⟩,⟨_,rfl,rfl,rfl⟩,trivial⟩,rfl,⟨_,rfl⟩,rfl,rfl,⟨rfl,rfl⟩⟩⟩))
structure WK (l:LD):Prop where
 wa:WA l
 wait:l.d.wait.length≤80000
 all:l.all.length≤99000
theorem Rr {l:LD}(h:WK l)(s:ByteArray):WA (Bk l s)∧(Bk l s).d.wait.length≤80549:=by
 have hW:=h.wa
 have hwt:=h.wait
 have hall:=h.all
 unfold Bk
 split
 ·exact⟨hW,by omega⟩
 ·split
  ·exact⟨hW,by omega⟩
  ·split
   ·exact⟨hW,by omega⟩
   ·next h1 h2 h3 =>
    have hroom:l.b.length+s.size+4≤35136:=by unfold Gf at h3;omega
    have hb:(l.b++frB s).length≤35136:=by rw[aw,E2];omega
    have hw:=Z7c hW (by omega) l.half (l.b++frB s) l.b.length hb
    have hn:=Z2k (l.b++frB s) l.b.length hb
    have h4:=(F5 (Cq l.half) (l.b++frB s) (nsW (l.b++frB s) l.b.length) l.d hW.d).2.2.1
    have hw2:(wrL l l.half (l.b++frB s) l.b.length).d.wait.length≤80549:=by show(runW _ _ _ _).1.wait.length≤_;omega
    split
    ·exact⟨⟨hw.d,hw.many,hw.armed,hw.wait,hw.half,hb,by show(l.all++[s]).length≤_;simp;omega,hw.mark⟩,hw2⟩
    ·exact⟨hw,hw2⟩
theorem J0 (n:PN):(Bz n).length=n.log.length+2:=by unfold Bz;simp
theorem Gi (n:PN):∀s∈Bz n,s.size≤1000000:=fun s hs=>by
 unfold Bz at hs
 rcases bh.1 hs with rfl | hs
 ·have:=Eg 1 n.pmd 0 eS;omega
 ·rcases bh.1 hs with rfl | hs
  ·have:=Eg 2 n.normal 0 eS;omega
  ·obtain⟨e,-,rfl⟩:=az.1 hs
   have:=Eg 3 e.v e.n e.b;omega
theorem Z1l (n:PN)(b e:Nat)(er:Int):FnO Tryz.prog 131 [.ptr 0 0,gI er] (cA n b e) fun g rs=>g=.v (.bool (decide (er=0)))∧rs=cA (E3 n er) b e:=by
 by_cases h:er=0
 ·subst h
  exact Zd9 n b e
 ·have:=Zd6 n b e h
  rw[decide_eq_false h]
  exact this
theorem Z87 (n:PN)(b e:Nat)(h:WK n.st)(hl:n.log.length≤198)(r:ByteArray)(hr:r.size≤1000000):FnO Tryz.prog 95 [.ptr 0 0,.v (.string r)] (cA n b e) fun g rs=>g=.v (.bool (Cu n r))∧rs=cA (Br n r) b e:=by
 refine Ba Tryz.func95 (A5 (O:=oAs n b e) (n0:=5) rfl) ?_
 obtain⟨hwa,hwt⟩:=Rr h r
 refine dh ((Or n.st e h.wa r hr).cal fun q rs hq=>?_)
 obtain⟨rfl,rfl⟩:=hq
 refine de (fun(h5:Gc n.st r=51)=>?_) fun(h5:Gc n.st r≠51)=>?_
 ·have eN:Br n r=E3 {n with st:=Fq (Bk n.st r) (Bz n)} (Jv (Bk n.st r) (Bz n)):=by unfold Br;rw[db h5]
  have eB:Cu n r=decide (Jv (Bk n.st r) (Bz n)=0):=by unfold Cu;rw[db h5]
  rw[eN,eB]
  refine⟨?_,?_⟩
  all_goals
   refine dh ((Z4g n _ (by omega)).cal fun q rs hq=>?_)
   obtain⟨rfl,rfl⟩:=hq
   refine dg (.frz 7 _ _ _ rfl (.done (.see (.same ((Gt (Bk n.st r) e hwa (by omega) (Bz n) (by rw[J0];omega) (Gi n)).cal fun q rs hq=>?_)))))
   obtain⟨rfl,rfl⟩:=hq
   refine .done ?_
   refine dg (.close (oAs {n with st:=Fq (Bk n.st r) (Bz n)} b e) [(1,1),(2,5),(3,6),(4,4)] (by exact RL5) ⟨_,rfl⟩ rfl (.done (.same ((Z1l _ b e _).cal fun q rs hq=>?_))))
   obtain⟨rfl,rfl⟩:=hq
   refine .done ?_
   exact .inl (A7 rfl rfl ⟨rfl,rfl⟩)
 ·have hd:E3 {n with st:=Bk n.st r} 0={n with st:=Bk n.st r}:=by unfold E3;rw[da (by decide)]
  refine dg (.close (oAs {n with st:=Bk n.st r} b e) [] (by exact RL5) ⟨_,rfl⟩ rfl (.done (.same ((Z1l _ b e _).cal fun q rs hq=>?_))))
  obtain⟨rfl,rfl⟩:=hq
  by_cases h0:Gc n.st r=0
  ·rw[h0,hd]
   refine .opn 0 _ _ _ rfl rfl rfl (.done ?_)
   refine dj (fun _=>?_) fun h=>dc h (by decide)
   have eN:Br n r=E3 {n with st:=K2 (Bk n.st r)} (P0 (Bk n.st r)):=by unfold Br;rw[da h5,da (fun h=>h h0)]
   have eB:Cu n r=decide (P0 (Bk n.st r)=0):=by unfold Cu;rw[da h5,da (fun h=>h h0)]
   rw[eN,eB]
   refine dg (.done (.same ((Z09 (Bk n.st r) e hwa).cal fun q rs hq=>?_)))
   obtain⟨rfl,rfl⟩:=hq
   refine .done ?_
   refine dg (.close (oAs {n with st:=K2 (Bk n.st r)} b e) [(1,5),(2,6),(3,7),(4,8)] (by exact RL5) ⟨_,rfl⟩ rfl (.done (.same ((Z1l _ b e _).cal fun q rs hq=>?_))))
   obtain⟨rfl,rfl⟩:=hq
   refine .done ?_
   exact .inl (A7 rfl rfl ⟨rfl,rfl⟩)
  ·rw[decide_eq_false h0]
   refine .done ?_
   refine dj (fun h=>dc h (by decide)) fun _=>?_
   have eN:Br n r=E3 {n with st:=Bk n.st r} (Gc n.st r):=by unfold Br;rw[da h5,db h0]
   have eB:Cu n r=false:=by unfold Cu;rw[da h5,db h0]
   rw[eN,eB]
   exact .inl (A7 rfl rfl ⟨rfl,rfl⟩)
theorem Zat (n:PN)(b e:Nat)(er:Int):FnO Tryz.prog 131 [.ptr 0 0,gI er] (cB n b e) fun g rs=>g=.v (.bool (decide (er=0)))∧rs=cB (E3 n er) b e:=by
 by_cases h:er=0
 ·subst h
  exact Zcz n b e
 ·have:=Ze8 n b e h
  rw[decide_eq_false h]
  exact this
theorem Zdy (n:PN)(b e:Nat)(h:WK n.st)(hl:n.log.length≤198)(r:ByteArray)(hr:r.size≤1000000):FnO Tryz.prog 95 [.ptr 0 0,.v (.string r)] (cB n b e) fun g rs=>g=.v (.bool (Cu n r))∧rs=cB (Br n r) b e:=by
 refine Ba Tryz.func95 (A5 (O:=oBs n b e) (n0:=5) rfl) ?_
 obtain⟨hwa,hwt⟩:=Rr h r
 refine dh ((Or n.st e h.wa r hr).cal fun q rs hq=>?_)
 obtain⟨rfl,rfl⟩:=hq
 refine de (fun(h5:Gc n.st r=51)=>?_) fun(h5:Gc n.st r≠51)=>?_
 ·have eN:Br n r=E3 {n with st:=Fq (Bk n.st r) (Bz n)} (Jv (Bk n.st r) (Bz n)):=by unfold Br;rw[db h5]
  have eB:Cu n r=decide (Jv (Bk n.st r) (Bz n)=0):=by unfold Cu;rw[db h5]
  rw[eN,eB]
  refine⟨?_,?_⟩
  all_goals
   refine dh ((Zh1 n _ (by omega)).cal fun q rs hq=>?_)
   obtain⟨rfl,rfl⟩:=hq
   refine dg (.frz 6 _ _ _ rfl (.done (.see (.same ((Gt (Bk n.st r) e hwa (by omega) (Bz n) (by rw[J0];omega) (Gi n)).cal fun q rs hq=>?_)))))
   obtain⟨rfl,rfl⟩:=hq
   refine .done ?_
   refine dg (.close (oBs {n with st:=Fq (Bk n.st r) (Bz n)} b e) [(1,1),(2,2),(3,5),(4,4)] (by exact RL5) ⟨_,rfl⟩ rfl (.done (.same ((Zat _ b e _).cal fun q rs hq=>?_))))
   obtain⟨rfl,rfl⟩:=hq
   refine .done ?_
   exact .inl (A7 rfl rfl ⟨rfl,rfl⟩)
 ·have hd:E3 {n with st:=Bk n.st r} 0={n with st:=Bk n.st r}:=by unfold E3;rw[da (by decide)]
  refine dg (.close (oBs {n with st:=Bk n.st r} b e) [] (by exact RL5) ⟨_,rfl⟩ rfl (.done (.same ((Zat _ b e _).cal fun q rs hq=>?_))))
  obtain⟨rfl,rfl⟩:=hq
  by_cases h0:Gc n.st r=0
  ·rw[h0,hd]
   refine .opn 0 _ _ _ rfl rfl rfl (.done ?_)
   refine dj (fun _=>?_) fun h=>dc h (by decide)
   have eN:Br n r=E3 {n with st:=K2 (Bk n.st r)} (P0 (Bk n.st r)):=by unfold Br;rw[da h5,da (fun h=>h h0)]
   have eB:Cu n r=decide (P0 (Bk n.st r)=0):=by unfold Cu;rw[da h5,da (fun h=>h h0)]
   rw[eN,eB]
   refine dg (.done (.same ((Z09 (Bk n.st r) e hwa).cal fun q rs hq=>?_)))
   obtain⟨rfl,rfl⟩:=hq
   refine .done ?_
   refine dg (.close (oBs {n with st:=K2 (Bk n.st r)} b e) [(1,5),(2,6),(3,7),(4,8)] (by exact RL5) ⟨_,rfl⟩ rfl (.done (.same ((Zat _ b e _).cal fun q rs hq=>?_))))
   obtain⟨rfl,rfl⟩:=hq
   refine .done ?_
   exact .inl (A7 rfl rfl ⟨rfl,rfl⟩)
  ·rw[decide_eq_false h0]
   refine .done ?_
   refine dj (fun h=>dc h (by decide)) fun _=>?_
   have eN:Br n r=E3 {n with st:=Bk n.st r} (Gc n.st r):=by unfold Br;rw[da h5,db h0]
   have eB:Cu n r=false:=by unfold Cu;rw[da h5,db h0]
   rw[eN,eB]
   exact .inl (A7 rfl rfl ⟨rfl,rfl⟩)
structure WSt (k:Nat)(l:LD):Prop where
 d:WD l.d
 many:l.d.now.length=1100
 armed:l.d.armed≤9223372036854775807
 wait:l.d.wait=[]
 half:l.half < 2
 b:l.b=Am l.all
 len:l.b.length≤35136
 mark:l.mark≤k
 dead:l.dead=false
 dd:l.d.dead=false
theorem Z11:∀l:List ByteArray,4 * l.length≤(Am l).length
 | []=>by simp[Am]
 | s::l=>by
  have h1:=Z11 l
  unfold Am at *
  rw[List.flatMap_cons,aw,E2,bc];omega
theorem WSt.wk {k:Nat}{l:LD}(h:WSt k l)(hk:k≤1000000000):WK l:=by
 have h1:=Z11 l.all
 rw[←h.b] at h1
 have h2:=h.len
 have h3:=h.mark
 exact⟨⟨h.d,by rw[h.many];exact af _,h.armed,by rw[h.wait];exact ah _,h.half,h.len,by omega,by omega⟩,by rw[h.wait];exact ah _,by omega⟩
theorem Ly {d:RD}{n:Int}{b:Sec}(h:Bv d n b=0):(Ae d n b).dead=false∧d.dead=false:=by
 unfold Bv at h
 unfold Ae
 by_cases h1:Kh d n=0
 ·rw[da (fun h=>h h1)] at h⊢
  have h2:=(Np h1).1
  split at h
  ·cases h
  ·next h3 =>
   rw[da h3]
   split at h
   ·cases h
   ·next h4 =>
    refine⟨?_,h2⟩
    unfold F9 at h4
    unfold Bh
    show(if d.armed=0 then _ else _:RD).dead=false
    split
    ·exact h2
    ·next h5 =>
     rw[da h5] at h4
     have h6:(d.armed - 1==0)=false:=by simpa using h4
     exact h6
 ·rw[db h1] at h;exact dc h h1
theorem Ky {d:RD}(h:Dj d=0):(Ab d).dead=false∧(Ab d).wait=[]∧d.dead=false:=by
 unfold Dj at h
 split at h
 ·cases h
 ·next h1 =>
  have h2:d.dead=false:=by cases hd:d.dead with
   | false=>rfl
   | true=>exact dc (.inl hd) h1
  have h3:¬F9 d=true:=fun h=>h1 (.inr h)
  unfold Ab
  rw[da (by rw[h2];decide),da h3]
  refine⟨?_,rfl,h2⟩
  show(Bh d).dead=false
  unfold F9 at h3
  unfold Bh
  split
  ·exact h2
  ·next h5=>rw[da h5] at h3;simpa using h3
theorem Z7f {d:RD}{n:Int}{b:Sec}(ha:d.armed=0)(hd:d.dead=false)(h0:0≤n)(h1:n < d.now.length)(hb:b.length≤64):Bv d n b=0∧(Ae d n b).armed=0:=by
 have hm:Kh d n=0:=by unfold Kh;rw[hd,da (by decide),da (by omega)]
 have hs:F9 d=false:=by unfold F9;rw[db ha]
 unfold Bv Ae
 rw[da (fun h=>h hm),da (by omega),hs,da (by decide),da (fun h=>h hm),da (by omega)]
 refine⟨rfl,?_⟩
 unfold Bh
 show(if d.armed=0 then _ else _:RD).armed=0
 rw[db ha];exact ha
theorem Zd1 {d:RD}(ha:d.armed=0)(hd:d.dead=false):Dj d=0∧(Ab d).armed=0:=by
 have hs:F9 d=false:=by unfold F9;rw[db ha]
 unfold Dj Ab
 rw[hd,hs]
 refine⟨by simp,?_⟩
 simp only[Bool.false_eq_true,if_false]
 show(Bh d).armed=0
 unfold Bh
 rw[db ha];exact ha
theorem Q0 (f:Nat)(b:Bs):∀(ns:List Nat) (d:RD),d.dead=false→(runW f b ns d).2=true→(runW f b ns d).1.dead=false
 | [],d,h,_=>h
 | n::ns,d,h,hr=>by
  rw[Ff] at hr⊢
  split
  ·next hw=>rw[db hw] at hr;exact Q0 f b ns _ (Ly hw).1 hr
  ·next hw=>rw[da hw] at hr;cases hr
theorem Pq (f:Nat)(b:Bs):∀(ns:List Nat) (d:RD),d.dead=false→d.armed=0→(∀n∈ns,f+n < d.now.length)→(runW f b ns d).2=true∧(runW f b ns d).1.armed=0
 | [],d,_,ha,_=>⟨rfl,ha⟩
 | n::ns,d,h,ha,hn=>by
  have h1:=hn n (by simp)
  obtain⟨w1,w2⟩:=Z7f (n:=((f+n:Nat):Int)) (b:=chB b n) ha h (by omega) (by omega) (by unfold chB;rw[au];omega)
  rw[Ff,db w1]
  refine Pq f b ns _ (Ly w1).1 w2 fun m hm=>?_
  rw[(Eb d _ _).1]
  exact hn m (by simp[hm])
theorem Z2p {b:Bs}{frm:Nat}(hb:b.length≤35136){n:Nat}(h:n∈nsW b frm):n < 549:=by
 unfold nsW at h
 rw[List.mem_range'_1] at h
 omega
theorem M8 {l:LD}(hd:l.d.dead=false){h:Nat}{b:Bs}{frm:Nat}(hw:wrE l h b frm=true):(wrL l h b frm).dead=false∧(wrL l h b frm).d.dead=false:=by
 unfold wrE at hw
 unfold wrL
 refine⟨by rw[hw];rfl,?_⟩
 exact Q0 _ _ _ _ hd hw
theorem Kz {l:LD}(hd:l.d.dead=false)(ha:l.d.armed=0)(hm:l.d.now.length=1100){h:Nat}(hh:h < 2){b:Bs}(hb:b.length≤35136)(frm:Nat):wrE l h b frm=true∧(wrL l h b frm).d.armed=0:=by
 unfold wrE wrL
 exact Pq _ _ _ _ hd ha fun n hn=>by
  have:=Z2p hb hn
  rw[hm];unfold Cq;omega
theorem Dv (m h f:Nat):(Ak m h f).length=64:=by
 unfold Ak be8
 simp
theorem Kx {l:LD}{h f:Nat}(hs:(Ai l h f).dead=false):(Ai l h f).d.dead=false∧(Ai l h f).d.wait=[]∧Ai l h f={l with mark:=l.mark+1,half:=h,firm:=f,d:=(Ai l h f).d}:=by
 unfold Ai at hs⊢
 split at hs
 ·cases hs
 ·next h1 =>
  rw[da h1]
  split at hs
  ·cases hs
  ·next h2 =>
   rw[da h2]
   split at hs
   ·cases hs
   ·next h3 =>
    rw[da h3]
    obtain⟨a1,a2,-⟩:=Ky (by omega:Dj (Ae (Ab l.d) (((l.mark+1) % 2:Nat):Int) (Ak (l.mark+1) h f))=0)
    exact⟨a1,a2,rfl⟩
theorem K3 {l:LD}(hl:l.dead=false)(hd:l.d.dead=false)(ha:l.d.armed=0)(hm:l.d.now.length=1100)(h f:Nat):(Ai l h f).dead=false∧(Ai l h f).d.armed=0:=by
 obtain⟨s1,s2⟩:=Zd1 ha hd
 obtain⟨s3,-,-⟩:=Ky s1
 have hlen:=(J7 l.d).1
 obtain⟨w1,w2⟩:=Z7f (d:=Ab l.d) (n:=(((l.mark+1) % 2:Nat):Int)) (b:=Ak (l.mark+1) h f) s2 s3 (by omega) (by omega) (by rw[Dv];exact af _)
 obtain⟨s4,s5⟩:=Zd1 w2 (Ly w1).1
 unfold Ai
 rw[da (fun h=>h s1),da (fun h=>h w1),da (fun h=>h s4)]
 exact⟨hl,s5⟩
theorem V7 {l:LD}(hw:WD l.d)(h f:Nat):WD (Ai l h f).d∧(Ai l h f).d.now.length=l.d.now.length∧(Ai l h f).d.armed≤l.d.armed∧(Ai l h f).d.wait.length≤l.d.wait.length+1:=by
 obtain⟨a1,a2,a3⟩:=J7 l.d
 obtain⟨b1,b2,b3⟩:=Eb (Ab l.d) (((l.mark+1) % 2:Nat):Int) (Ak (l.mark+1) h f)
 obtain⟨c1,c2,c3⟩:=J7 (Ae (Ab l.d) (((l.mark+1) % 2:Nat):Int) (Ak (l.mark+1) h f))
 have w1:=L3 hw
 have w2:=J5 w1 (((l.mark+1) % 2:Nat):Int) (Ak (l.mark+1) h f)
 have w3:=L3 w2
 unfold Ai
 split
 ·exact⟨w1,a1,a3,by show(Ab l.d).wait.length≤_;omega⟩
 ·split
  ·exact⟨w2,b1.trans a1,by show(Ae _ _ _).armed≤_;omega,by show(Ae _ _ _).wait.length≤_;omega⟩
  ·split
   ·exact⟨w3,c1.trans (b1.trans a1),by show(Ab _).armed≤_;omega,by show(Ab _).wait.length≤_;omega⟩
   ·exact⟨w3,c1.trans (b1.trans a1),by show(Ab _).armed≤_;omega,by show(Ab _).wait.length≤_;omega⟩
theorem Z8a {k:Nat}{l:LD}(h:WSt k l)(s:ByteArray)(h0:Gc l s=0)(h1:P0 (Bk l s)=0):WSt (k+1) (K2 (Bk l s))∧(K2 (Bk l s)).all=l.all++[s]:=by
 unfold Gc at h0
 rw[da (by rw[h.dead];decide)] at h0
 have hs1:¬s.size > 4096:=fun hh=>by rw[db hh] at h0;cases h0
 rw[da hs1] at h0
 have hs2:¬(s.size:Int) > Gf l:=fun hh=>by rw[db hh] at h0;cases h0
 rw[da hs2] at h0
 have hw:wrE l l.half (l.b++frB s) l.b.length=true:=by
  cases hw:wrE l l.half (l.b++frB s) l.b.length with
  | true=>rfl
  | false=>rw[hw] at h0;cases h0
 have hA:Bk l s={wrL l l.half (l.b++frB s) l.b.length with b:=l.b++frB s,all:=l.all++[s]}:=by
  unfold Bk
  rw[da (by rw[h.dead];decide),da hs1,da hs2,db hw]
 have hroom:(l.b++frB s).length≤35136:=by rw[aw,E2];have:=h.len;unfold Gf at hs2;omega
 obtain⟨hd1,hd2⟩:=M8 h.dd hw
 obtain⟨r1,r2,r3,r4⟩:=F5 (Cq l.half) (l.b++frB s) (nsW (l.b++frB s) l.b.length) l.d h.d
 generalize hx:({wrL l l.half (l.b++frB s) l.b.length with b:=l.b++frB s,all:=l.all++[s]}:LD)=x at hA
 have x1:x.dead=false:=by rw[←hx];exact hd1
 have x2:x.d=(runW (Cq l.half) (l.b++frB s) (nsW (l.b++frB s) l.b.length) l.d).1:=by rw[←hx];rfl
 have x3:x.mark=l.mark:=by rw[←hx];rfl
 have x4:x.half=l.half:=by rw[←hx];rfl
 have x5:x.b=l.b++frB s:=by rw[←hx]
 have x6:x.all=l.all++[s]:=by rw[←hx]
 rw[hA] at h1⊢
 have hS:K2 x=Ai x x.half x.b.length:=by unfold K2;rw[da (by rw[x1];decide)]
 have hE:(Ai x x.half x.b.length).dead=false:=by
  unfold P0 at h1
  rw[da (by rw[x1];decide)] at h1
  unfold Dp at h1
  cases hz:(Ai x x.half x.b.length).dead with
  | false=>rfl
  | true=>rw[hz] at h1;cases h1
 obtain⟨s1,s2,s3⟩:=Kx hE
 obtain⟨q1,q2,q3,q4⟩:=V7 (l:=x) (by rw[x2];exact r1) x.half x.b.length
 rw[hS]
 have fb:(Ai x x.half x.b.length).b=l.b++frB s:=by rw[s3];exact x5
 have fa:(Ai x x.half x.b.length).all=l.all++[s]:=by rw[s3];exact x6
 have ha:=h.armed
 have hm:=h.many
 refine⟨⟨q1,by rw[q2,x2];omega,by rw[x2] at q3;omega,s2,?_,?_,?_,?_,hE,s1⟩,fa⟩
 ·rw[s3];show x.half < 2;rw[x4];exact h.half
 ·rw[fb,fa,Pu,h.b]
 ·rw[fb];exact hroom
 ·rw[s3];show x.mark+1≤_;have:=h.mark;omega
theorem Z2a {k:Nat}{l:LD}(h:WSt k l)(all:List ByteArray)(h0:Jv l all=0):WSt (k+1) (Fq l all)∧(Fq l all).all=all:=by
 unfold Jv at h0
 rw[da (by rw[h.dead];decide)] at h0
 have hf:N0 all=0:=by
  by_cases hf:N0 all=0
  ·exact hf
  ·rw[db hf] at h0;exact dc h0 hf
 rw[da (fun h=>h hf)] at h0
 have hw:wrE l (1 - l.half) (Am all) 0=true:=by
  cases hw:wrE l (1 - l.half) (Am all) 0 with
  | true=>rfl
  | false=>rw[hw] at h0;cases h0
 rw[db hw] at h0
 have hbl:(Am all).length≤35136:=by
  unfold N0 at hf
  split at hf
  ·cases hf
  ·split at hf
   ·cases hf
   ·omega
 obtain⟨hd1,hd2⟩:=M8 h.dd hw
 obtain⟨r1,r2,r3,r4⟩:=F5 (Cq (1 - l.half)) (Am all) (nsW (Am all) 0) l.d h.d
 have hE:(Ai (wrL l (1 - l.half) (Am all) 0) (1 - l.half) (Am all).length).dead=false:=by
  unfold Dp at h0
  cases hz:(Ai (wrL l (1 - l.half) (Am all) 0) (1 - l.half) (Am all).length).dead with
  | false=>rfl
  | true=>rw[hz] at h0;cases h0
 have hR:Fq l all={Ai (wrL l (1 - l.half) (Am all) 0) (1 - l.half) (Am all).length with b:=Am all,all:=all}:=by
  unfold Fq
  rw[da (by rw[h.dead];decide),da (fun h=>h hf),db hw,da (by rw[hE];decide)]
 obtain⟨s1,s2,s3⟩:=Kx hE
 obtain⟨q1,q2,q3,q4⟩:=V7 (l:=wrL l (1 - l.half) (Am all) 0) r1 (1 - l.half) (Am all).length
 have x2:(wrL l (1 - l.half) (Am all) 0).d=(runW (Cq (1 - l.half)) (Am all) (nsW (Am all) 0) l.d).1:=rfl
 have ha:=h.armed
 have hm:=h.many
 rw[hR]
 refine⟨⟨q1,?_,?_,s2,?_,rfl,hbl,?_,hE,s1⟩,rfl⟩
 ·show(Ai _ _ _).d.now.length=_;rw[q2,x2];omega
 ·show(Ai _ _ _).d.armed≤_;rw[x2] at q3;omega
 ·show(Ai _ _ _).half < 2
  rw[s3];show 1 - l.half < 2;omega
 ·show(Ai _ _ _).mark≤_
  rw[s3];show l.mark+1≤_;have:=h.mark;omega
theorem Zg6 (n:PN)(b e:Nat)(h:WK n.st)(hl:n.log.length≤190)(x:REnt):FnO Tryz.prog 65 [.ptr 0 0,.agg (enE x)] (cA n b e) fun g rs=>g=.v (.bool (Ye n x))∧rs=cA (Kf n x) b e:=by
 refine Ba Tryz.func65 (A5 (O:=oAs n b e) (n0:=5) rfl) ?_
 refine⟨by simp;omega,?_⟩
 refine(Ds _ _ _ _).cal fun q hq=>?_
 subst hq
 refine dg (.close (oAs {n with log:=n.log++[x]} b e) [(1,1),(2,7),(3,3),(4,4)] ⟨RL1,RL1,⟨rfl,rfl,eqR (by rw[am];rfl)⟩,RL1,RL1,trivial⟩ ⟨_,rfl⟩ rfl (.done (.same ((Z87 {n with log:=n.log++[x]} b e h (by show(n.log++[x]).length≤_;simp;omega) _ (by have:=Eg 3 x.v x.n x.b;omega)).cal fun q rs hq=>?_))))
 obtain⟨rfl,rfl⟩:=hq
 refine .done ?_
 exact .inl (A7 rfl rfl ⟨rfl,rfl⟩)
theorem Z8s (n:PN)(b e:Nat)(h:WK n.st)(hl:n.log.length≤190)(view:Int):FnO Tryz.prog 82 [.ptr 0 0,gI view] (cA n b e) fun g rs=>g=.v (.bool (Jw n view))∧rs=cB (Fl n view) b e:=by
 refine Ba Tryz.func82 (A5 (O:=oAs n b e) (n0:=5) rfl) ?_
 refine(Ds _ _ _ _).cal fun q hq=>?_
 subst hq
 refine dg (.seen 0 _ _ rfl (.close (oAs {n with pmd:=view,lds:=false,std:=false} b e) [] (by exact RL5) ⟨_,rfl⟩ rfl (.done (.same ((Z87 {n with pmd:=view,lds:=false,std:=false} b e h (by show n.log.length≤_;omega) _ (b9 (Eg _ _ _ _) (by decide))).cal fun q rs hq=>?_)))))
 obtain⟨rfl,rfl⟩:=hq
 refine .done ?_
 exact .gh (.opn 0 _ _ _ rfl rfl rfl (.frz 6 _ _ _ rfl (.seen 0 _ _ rfl (.drop 6 _ rfl (.done (A1 (oBs (Fl n view) b e) [(1,5),(2,6),(3,7),(4,8)] (by exact RL5) rfl ⟨_,rfl⟩ rfl rfl ⟨rfl,rfl⟩))))))
theorem Z8r (n:PN)(b e:Nat)(h:WK n.st)(hl:n.log.length≤190)(view:Int):FnO Tryz.prog 82 [.ptr 0 0,gI view] (cB n b e) fun g rs=>g=.v (.bool (Jw n view))∧rs=cB (Fl n view) b e:=by
 refine Ba Tryz.func82 (A5 (O:=oBs n b e) (n0:=5) rfl) ?_
 refine(Ds _ _ _ _).cal fun q hq=>?_
 subst hq
 refine dg (.seen 0 _ _ rfl (.close (oBs {n with pmd:=view,lds:=false,std:=false} b e) [] (by exact RL5) ⟨_,rfl⟩ rfl (.done (.same ((Zdy {n with pmd:=view,lds:=false,std:=false} b e h (by show n.log.length≤_;omega) _ (b9 (Eg _ _ _ _) (by decide))).cal fun q rs hq=>?_)))))
 obtain⟨rfl,rfl⟩:=hq
 refine .done ?_
 exact .inl (A7 rfl rfl ⟨rfl,rfl⟩)
theorem Z9c (n:PN)(b e:Nat)(h:WK n.st)(view:Int)(l:List REnt)(hl:l.length≤190):FnO Tryz.prog 104 [.ptr 0 0,gI view,.sl (l.map enE)] (cA n b e) fun g rs=>g=.v (.bool (Dw n view l))∧rs=cA (Cy n view l) b e:=by
 refine Ba Tryz.func104 (A5 (O:=oAs n b e) (n0:=5) rfl) ?_
 refine(P5 l (by omega)).cal fun q rs hq=>?_
 obtain⟨rfl,rfl⟩:=hq
 refine⟨?_,?_⟩
 all_goals
  refine dh ((Z4g (Bt n view l) _ (by show l.length≤_;omega)).cal fun q rs hq=>?_)
  obtain⟨rfl,rfl⟩:=hq
  refine dg (.frz 8 _ _ _ rfl (.done (.see (.same ((Gt n.st e h.wa (by have:=h.wait;omega) (Bz (Bt n view l)) (by rw[J0];show l.length+2≤_;omega) (Gi _)).cal fun q rs hq=>?_)))))
  obtain⟨rfl,rfl⟩:=hq
  refine .done ?_
  refine dg (.close (oAs {Bt n view l with st:=Fq n.st (Bz (Bt n view l))} b e) [(1,1),(2,6),(3,7),(4,4)] (by exact RL5) ⟨_,rfl⟩ rfl (.done (.same ((Z1l _ b e _).cal fun q rs hq=>?_))))
  obtain⟨rfl,rfl⟩:=hq
  refine .done ?_
  exact .inl (A7 rfl rfl ⟨rfl,rfl⟩)
theorem Yt (n:PN)(b e:Nat)(h:WK n.st)(view:Int)(l:List REnt)(hl:l.length≤190):FnO Tryz.prog 104 [.ptr 0 0,gI view,.sl (l.map enE)] (cB n b e) fun g rs=>g=.v (.bool (Dw n view l))∧rs=cA (Cy n view l) b e:=by
 refine Ba Tryz.func104 (A5 (O:=oBs n b e) (n0:=5) rfl) ?_
 refine(P5 l (by omega)).cal fun q rs hq=>?_
 obtain⟨rfl,rfl⟩:=hq
 refine⟨?_,?_⟩
 all_goals
  refine dh ((Z4g (Bt n view l) _ (by show l.length≤_;omega)).cal fun q rs hq=>?_)
  obtain⟨rfl,rfl⟩:=hq
  refine dg (.frz 8 _ _ _ rfl (.done (.see (.same ((Gt n.st e h.wa (by have:=h.wait;omega) (Bz (Bt n view l)) (by rw[J0];show l.length+2≤_;omega) (Gi _)).cal fun q rs hq=>?_)))))
  obtain⟨rfl,rfl⟩:=hq
  refine .done ?_
  refine dg (.close (oAs {Bt n view l with st:=Fq n.st (Bz (Bt n view l))} b e) [(1,1),(2,6),(3,7),(4,4)] (by exact RL5) ⟨_,rfl⟩ rfl (.done (.same ((Z1l _ b e _).cal fun q rs hq=>?_))))
  obtain⟨rfl,rfl⟩:=hq
  refine .done ?_
  exact .inl (A7 rfl rfl ⟨rfl,rfl⟩)
theorem Zhj {m:Nat}(h0:1≤m)(h:m≤7):m=1∨m=2∨m=3∨m=4∨m=5∨m=6∨m=7:=by omega
theorem Y2 (n:PN)(h0:1≤n.many)(h:n.many≤7)(s l o:G):(((Ad n s l o).drop 31).take n.many).map (fun g=>[g])=(Bx n).map gI1∧Av Gb (((Ad n s l o).drop 31).take n.many)=true:=by
 unfold Bx
 rcases Zhj h0 h with e | e | e | e | e | e | e<;>rw[e]<;>exact⟨rfl,rfl⟩
theorem Cv (n:PN)(b e:Nat)(h0:1≤n.many)(h:n.many≤7)(ho:n.out.length≤900000):FnO Tryz.prog 67 [.ptr 0 0] (cA n b e) fun g rs=>g=.tup []∧rs=cA (Dy n) b e:=by
 refine Ba Tryz.func67 (A5 (O:=oAs n b e) (n0:=5) rfl) ?_
 obtain⟨c1,c2⟩:=Y2 n h0 h (.ptr 1 0) (.osl 2) (.osl 3)
 refine⟨⟨by omega,by omega,by omega⟩,?_⟩
 refine EvSn.snap (Ad n (.ptr 1 0) (.osl 2) (.osl 3)) tNd (.int .i64 (Bb (Bx n))) rfl ⟨h,by show 31+n.many≤47;omega⟩ c2 (by
  have:=Zea (Bx n) (by unfold Bx;simp;omega)
  rw[←c1] at this
  exact this) ?_
 refine df (fun hgt=>?_) fun hgt=>?_
 ·have eL:Dy n=Ax {n with cmt:=Bb (Bx n)} ⟨6,n.pmd,0,Bb (Bx n),[]⟩:=by unfold Dy;rw[db hgt]
  have hS:=F7 {n with cmt:=Bb (Bx n)} (cl (oLs n.st e)) ⟨6,n.pmd,0,Bb (Bx n),[]⟩ (ah _) (by show n.many≤100;omega) ho
  obtain⟨o,hs⟩:=(A2 {n with cmt:=Bb (Bx n)} ⟨6,n.pmd,0,Bb (Bx n),[]⟩).to
  rw[hs] at hS eL
  rw[eL]
  refine hS.cal fun q rs hq=>?_
  obtain⟨rfl,rfl⟩:=hq
  exact .inl (A1 (oAs {n with cmt:=Bb (Bx n),out:=o} b e) [(3,5)] (by exact RL5) rfl ⟨_,rfl⟩ rfl rfl ⟨rfl,rfl⟩)
 ·have eL:Dy n=n:=by unfold Dy;rw[da hgt]
  rw[eL]
  exact .inl (A1 (oAs n b e) [] (by exact RL5) rfl ⟨_,rfl⟩ rfl rfl ⟨rfl,rfl⟩)
end Go.Proofs.YtihfaocdpmmooaaGreat
