
import Derived.Test.YtihfaocdpmmooaaGreatPl1
import Derived.Test.YtihfaocdpmmooaaGreatRkM
import Derived.Test.YtihfaocdpmmooaaGreatFn1
import Derived.Test.YtihfaocdpmmooaaGreatOM2
import Derived.Test.YtihfaocdpmmooaaGreatOM3
import Derived.Test.YtihfaocdpmmooaaGreatSxMe
namespace Go.Proofs.YtihfaocdpmmooaaGreat
abbrev A3 (l:List REnt):Int:=((l.map enE).length:Nat)
theorem Dy (l:List REnt):A3 l=(l.length:Nat):=congrArg Nat.cast (aa ..)
structure RJ where
 is:Bool
 normal:Int
 l:List REnt
structure RPk where
 frm:Int
 to:Int
 body:ByteArray
structure PN where
 self:Nat
 many:Nat
 pmd:Int
 normal:Int
 log:List REnt
 cmt:Int
 lds:Bool
 std:Bool
 jns:Nat→RJ
 first:Int
 aks:Nat→Int
 hrd:Nat→Bool
 out:List RPk
 dead:Bool
 st:LD
def j0:RJ:=⟨false,0,[]⟩
def Ce (kind a b:Int)(s:ByteArray):ByteArray:=⟨(Sv [⟨1,kind,eS⟩,⟨2,a,eS⟩,⟨2,b,eS⟩,⟨3,0,s⟩]).toArray⟩
def Dj (p:Int × Int × List REnt)(r:ByteArray):Option (Int × Int × List REnt) :=
 if(K2 [1,2,2,3] r.data.toList).e≠0 then none else match(K2 [1,2,2,3] r.data.toList).l with
 | [k,a,b,s]=>if k.n=1 then some (a.n,p.2.1,p.2.2) else if k.n=2 then some (p.1,a.n,p.2.2) else if k.n=3 then some (p.1,p.2.1,p.2.2++[⟨a.n,b.n,s.s⟩]) else none
 | _=>none
def B1:List ByteArray→Int × Int × List REnt→Option (Int × Int × List REnt)
 | [],p=>some p
 | r::l,p=>match Dj p r with
  | none=>none
  | some p=>B1 l p
def Da (self many:Nat)(p:Int × Int × List REnt)(st:LD):PN:=⟨self,many,p.1,p.2.1,p.2.2,0,false,false,fun _=>j0,0,fun _=>0,fun _=>false,[],false,st⟩
def Nd (d:RD)(self many:Int):Option PN :=
 if Ag many=0∨self < 0∨self ≥ many∨(d.now.length:Int) < 1100 then none else match Z5g d with
 | none=>none
 | some st=>match B1 st.all (0,0,[]) with
  | none=>none
  | some p=>if Bo p.2.2=true∧p.2.1≤p.1∧Aw p.2.2 p.2.1=true then some (Da self.toNat many.toNat p st) else none
def C0 (n:PN):List ByteArray:=Ce 1 n.pmd 0 eS::Ce 2 n.normal 0 eS::n.log.map fun e=>Ce 3 e.v e.n e.b
def D8 (n:PN)(e:Int):PN:=if e≠0 then {n with dead:=true,out:=[]} else n
def B3 (n:PN)(r:ByteArray):PN :=
 if Eb n.st r=51 then D8 {n with st:=Eo (Bj n.st r) (C0 n)} (Id (Bj n.st r) (C0 n))
 else if Eb n.st r≠0 then D8 {n with st:=Bj n.st r} (Eb n.st r)
 else D8 {n with st:=Ic (Bj n.st r)} (N9 (Bj n.st r))
def C9 (n:PN)(r:ByteArray):Bool :=
 if Eb n.st r=51 then decide (Id (Bj n.st r) (C0 n)=0)
 else if Eb n.st r≠0 then false
 else decide (N9 (Bj n.st r)=0)
def Ao (n:PN)(to:Nat)(m:RM):PN:=if okM m=true then {n with out:=n.out++[⟨n.self,to,⟨(bM m).toArray⟩⟩]} else n
def I8 (f:PN→Nat→PN)(n:PN)(i:Nat):PN:=(List.range i).foldl (fun n i=>if i=n.self then n else f n i) n
def An (n:PN)(m:RM):PN:=I8 (fun n i=>Ao n i m) n n.many
def Cq (n:PN)(view:Int):PN:=B3 {n with pmd:=view,lds:=false,std:=false} (Ce 1 view 0 eS)
def El (n:PN)(view:Int):Bool:=C9 {n with pmd:=view,lds:=false,std:=false} (Ce 1 view 0 eS)
def B6 (n:PN)(view:Int)(l:List REnt):PN:={n with pmd:=view,normal:=view,log:=l,cmt:=min n.cmt (A3 l)}
def Ba (n:PN)(view:Int)(l:List REnt):PN:=D8 {B6 n view l with st:=Eo n.st (C0 (B6 n view l))} (Id n.st (C0 (B6 n view l)))
def Bu (n:PN)(view:Int)(l:List REnt):Bool:=decide (Id n.st (C0 (B6 n view l))=0)
def F8 (n:PN)(e:REnt):PN:=B3 {n with log:=n.log++[e]} (Ce 3 e.v e.n e.b)
def Lx (n:PN)(e:REnt):Bool:=C9 {n with log:=n.log++[e]} (Ce 3 e.v e.n e.b)
def By (n:PN):List Int:=(List.range n.many).map n.aks
def Cj (n:PN):PN:=if Bi (By n) > n.cmt then An {n with cmt:=Bi (By n)} ⟨6,n.pmd,0,Bi (By n),[]⟩ else n
def jlN (n:PN)(i:Nat):List RJ:=((List.range i).map n.jns).filter RJ.is
def B7 (n:PN):List RJ:=jlN n n.many
def mkJ (j:RJ):Mk:=⟨j.normal,A3 j.l⟩
def C8 (n:PN):List REnt:=((B7 n)[(Gb ((B7 n).map mkJ)).toNat]?.getD j0).l
def D5 (n:PN):PN:={n with std:=true,first:=A3 n.log,aks:=fun i=>if i=n.self then A3 n.log else 0,hrd:=fun _=>false}
def B2 (n:PN):PN :=
 if((B7 n).length:Int) < Ag n.many then n
 else if Bu n n.pmd (C8 n)=true then Cj (An (D5 (Ba n n.pmd (C8 n))) ⟨3,n.pmd,0,0,C8 n⟩)
 else Ba n n.pmd (C8 n)
def C3 (n:PN)(view:Int):PN × Bool :=
 if n.dead=true∨view≤n.pmd∨A8 view n.many≠n.self then(n,false)
 else if El n view=true then
  (B2 (An {Cq n view with lds:=true,jns:=fun i=>if i=n.self then⟨true,n.normal,n.log⟩ else j0} ⟨1,view,0,0,[]⟩),true)
 else(Cq n view,true)
def Bc (n:PN)(s:ByteArray):PN × Bool :=
 if n.dead=true∨n.std=false∨n.log.length ≥ 150∨s.size > 200 then(n,false)
 else if Lx n ⟨n.pmd,A3 n.log+1,s⟩=true then
  (Cj (An {F8 n ⟨n.pmd,A3 n.log+1,s⟩ with aks:=fun i=>if i=n.self then A3 n.log+1 else n.aks i} ⟨4,n.pmd,0,A3 n.log+1 - 1,[⟨n.pmd,A3 n.log+1,s⟩]⟩),true)
 else(F8 n ⟨n.pmd,A3 n.log+1,s⟩,true)
def Dv (n:PN)(i:Nat):PN :=
 Ao (if n.hrd i=true then Ao n i ⟨4,n.pmd,0,n.aks i,n.log.drop (n.aks i).toNat⟩ else Ao n i ⟨3,n.pmd,0,0,n.log.take n.first.toNat⟩) i ⟨6,n.pmd,0,n.cmt,[]⟩
def E0 (n:PN)(i:Nat):PN:=if(n.jns i).is=true then n else Ao n i ⟨1,n.pmd,0,0,[]⟩
def Bv (n:PN):PN :=
 if n.dead=true∨n.lds=false then n
 else if n.std=true then I8 Dv n n.many else I8 E0 n n.many
def Aq (n:PN)(frm:Nat)(m:RM):PN :=
 if n.lds=false∨n.pmd≠m.view then n
 else if m.kind=2∧n.std=false then
  B2 (if(n.jns frm).is=true then n else {n with jns:=fun i=>if i=frm then⟨true,m.normal,m.l⟩ else n.jns i})
 else if m.kind=5∧n.std=true∧m.num≤n.log.length then
  (fun a:PN=>if m.num < a.log.length then Ao a frm ⟨4,a.pmd,0,m.num,a.log.drop m.num.toNat⟩ else a)
   (Cj {n with aks:=fun i=>if i=frm then max (n.aks frm) m.num else n.aks i,hrd:=fun i=>if i=frm then true else n.hrd i})
 else n
def Ac:List REnt→Int→PN→PN × Bool
 | [],_,n=>(n,true)
 | e::l,last,n =>
  if e.n > n.log.length+1 then(n,true)
  else if e.n≤n.log.length∨e.v < last then Ac l last n
  else if Lx n e=true then Ac l e.v (F8 n e) else(F8 n e,false)
def A4 (n:PN)(frm:Nat)(m:RM):PN :=
 if m.kind=1 then
  (if m.view > n.pmd then
   (if El n m.view=true then Ao (Cq n m.view) frm ⟨2,m.view,n.normal,0,n.log⟩ else Cq n m.view)
  else if m.view=n.pmd∧m.view > n.normal∧n.lds=false then Ao n frm ⟨2,m.view,n.normal,0,n.log⟩ else n)
 else if m.kind=3 then
  (if m.view ≥ n.pmd∧m.view > n.normal then
   (if Bu {n with lds:=false,std:=false} m.view m.l=true then Ao (Ba {n with lds:=false,std:=false} m.view m.l) frm ⟨5,m.view,0,A3 m.l,[]⟩
    else Ba {n with lds:=false,std:=false} m.view m.l)
  else if m.view=n.pmd∧m.view=n.normal then Ao n frm ⟨5,m.view,0,A3 n.log,[]⟩ else n)
 else if m.kind=4 then
  (if n.pmd=m.view∧n.normal=m.view∧n.lds=false then
   (fun x:PN × Bool=>if x.2=true then Ao x.1 frm ⟨5,m.view,0,A3 x.1.log,[]⟩ else x.1) (Ac m.l (vw 1 n.log) n)
  else n)
 else if m.kind=6 then
  (if n.pmd=m.view∧n.normal=m.view∧n.lds=false then {n with cmt:=max n.cmt (min m.num (A3 n.log))} else n)
 else n
def Dd (n:PN)(p:RPk):PN :=
 if n.dead=true∨¬Gw p.body.data.toList∨p.to≠n.self∨p.frm=n.self∨p.frm < 0∨p.frm ≥ n.many then n
 else if(mD p.body.data.toList).kind=2∨(mD p.body.data.toList).kind=5 then Aq n p.frm.toNat (mD p.body.data.toList)
 else if A8 (mD p.body.data.toList).view n.many≠p.frm then n
 else A4 n p.frm.toNat (mD p.body.data.toList)
open Go.RowKit
set_option maxRecDepth 100000
abbrev tNd:Nat:=118
abbrev tPk:Nat:=61
def pkG (p:RPk):List G:=[gI p.frm,gI p.to,.v (.string p.body)]
abbrev Af (n:PN)(s l o:G):List G:=[gI n.self,gI n.many,s,gI n.pmd,gI n.normal,l,gI n.cmt,.v (.bool n.lds),.v (.bool n.std),.v (.bool (n.jns 0).is),gI (n.jns 0).normal,.sl ((n.jns 0).l.map enE),.v (.bool (n.jns 1).is),gI (n.jns 1).normal,.sl ((n.jns 1).l.map enE),.v (.bool (n.jns 2).is),gI (n.jns 2).normal,.sl ((n.jns 2).l.map enE),.v (.bool (n.jns 3).is),gI (n.jns 3).normal,.sl ((n.jns 3).l.map enE),.v (.bool (n.jns 4).is),gI (n.jns 4).normal,.sl ((n.jns 4).l.map enE),.v (.bool (n.jns 5).is),gI (n.jns 5).normal,.sl ((n.jns 5).l.map enE),.v (.bool (n.jns 6).is),gI (n.jns 6).normal,.sl ((n.jns 6).l.map enE),gI n.first,gI (n.aks 0),gI (n.aks 1),gI (n.aks 2),gI (n.aks 3),gI (n.aks 4),gI (n.aks 5),gI (n.aks 6),.v (.bool (n.hrd 0)),.v (.bool (n.hrd 1)),.v (.bool (n.hrd 2)),.v (.bool (n.hrd 3)),.v (.bool (n.hrd 4)),.v (.bool (n.hrd 5)),.v (.bool (n.hrd 6)),o,.v (.bool n.dead)]
abbrev oA (n:PN)(b e:Nat):List R:=[.blk (Af n (.ptr 1 0) (.osl 2) (.osl 3)) tNd,.abs (cl (oLs n.st e)),.slc (n.log.map enE) tEn 3,.slc (n.out.map pkG) tPk 3,.adr 0 b]
abbrev oB (n:PN)(b e:Nat):List R:=[.blk (Af n (.ptr 1 0) (.sl (n.log.map enE)) (.osl 3)) tNd,.abs (cl (oLs n.st e)),.gone,.slc (n.out.map pkG) tPk 3,.adr 0 b]
abbrev oAs (n:PN)(b e:Nat):Os:=Bk (oA n b e) 0
abbrev oBs (n:PN)(b e:Nat):Os:=Bk (oB n b e) 0
abbrev cA (n:PN)(b e:Nat):List R:=[.abs (cl (oAs n b e))]
abbrev cB (n:PN)(b e:Nat):List R:=[.abs (cl (oBs n b e))]
abbrev Zax (n:PN)(l:G):List G:=[gI n.self,gI n.many,.ptr 1 0,gI n.pmd,gI n.normal,l,gI n.cmt,.v (.bool n.lds),.v (.bool n.std),.v (.bool (n.jns 0).is),gI (n.jns 0).normal,.sl ((n.jns 0).l.map enE),.v (.bool (n.jns 1).is),gI (n.jns 1).normal,.sl ((n.jns 1).l.map enE),.v (.bool (n.jns 2).is),gI (n.jns 2).normal,.sl ((n.jns 2).l.map enE),.v (.bool (n.jns 3).is),gI (n.jns 3).normal,.sl ((n.jns 3).l.map enE),.v (.bool (n.jns 4).is),gI (n.jns 4).normal,.sl ((n.jns 4).l.map enE),.v (.bool (n.jns 5).is),gI (n.jns 5).normal,.sl ((n.jns 5).l.map enE),.v (.bool (n.jns 6).is),gI (n.jns 6).normal,.sl ((n.jns 6).l.map enE),gI n.first,gI (n.aks 0),gI (n.aks 1),gI (n.aks 2),gI (n.aks 3),gI (n.aks 4),gI (n.aks 5),gI (n.aks 6),.v (.bool (n.hrd 0)),.v (.bool (n.hrd 1)),.v (.bool (n.hrd 2)),.v (.bool (n.hrd 3)),.v (.bool (n.hrd 4)),.v (.bool (n.hrd 5)),.v (.bool (n.hrd 6))]
theorem Zbi (l:List RFd):(Sv l).length≤1026 * l.length:=by
 unfold Sv;split
 ·next h=>exact Li (Dz h)
 ·exact ah _
theorem Fb (k a b:Int)(s:ByteArray):(Ce k a b s).size≤4104:=by have:=Zbi [⟨1,k,eS⟩,⟨2,a,eS⟩,⟨2,b,eS⟩,⟨3,0,s⟩];unfold Ce;show(Sv _).toArray.size≤_;rw[List.size_toArray];exact this
theorem Ec (k a b:Int)(s:ByteArray):FnV Tryz.prog 96 [gI k,gI a,gI b,.v (.string s)] fun g=>g=.v (.string (Ce k a b s)):=by refine fnG Tryz.func96 ?_;refine(Ub _).cal fun q c=>?_;subst c;refine(Iu _).cal fun q c=>?_;subst c;refine(Iu _).cal fun q c=>?_;subst c;refine(Vp [⟨1,k,eS⟩,⟨2,a,eS⟩,⟨2,b,eS⟩,⟨3,0,s⟩] (show 4≤800000 by decide)).cal fun q rs c=>?_;obtain⟨rfl,rfl⟩:=c;refine⟨_,rfl,?_⟩;exact rfl
theorem Qq (l:List REnt)(f:l.length≤1000000):FnO Tryz.prog 63 [.sl (l.map enE)] [] fun g rs=>g=.osl 0∧rs=[.slc (l.map enE) tEn 3]:=by
 refine Bq Tryz.func63 (S4 _) ?_;refine⟨fun b d=>?_⟩;refine dk (fun h=>?_) fun h=>?_
 ·have e:l.map enE=[]:=bz fun a=>by rw[d a] at h;cases h
  exact Hn (k:=1) rfl e.symm
 ·refine⟨fun r hr=>?_,by simp;omega,?_⟩
  ·obtain⟨c,-,rfl⟩:=ba.1 hr;exact⟨rfl,rfl⟩
  ·exact Hn (k:=2) rfl (cy _)
theorem Zft (l:List REnt)(b:l.length≤1000000):FnO Tryz.prog 63 [.osl 0] [.slc (l.map enE) tEn 3] fun g rs=>g=.osl 1∧rs=[.slc (l.map enE) tEn 3,.slc (l.map enE) tEn 3] :=
 FnO.peekN (Qq l b) rfl fun r hr g a=>by obtain⟨s,-,rfl⟩:=ba.1 hr;unfold enE at a;simp only[List.mem_cons,List.not_mem_nil,or_false] at a;rcases a with rfl | rfl | rfl<;>rfl
theorem Zcm (n:PN)(b e:Nat):FnO Tryz.prog 20 [.ptr 0 0] (cA n b e) fun g rs=>g=.tup [gI n.pmd,gI n.normal]∧rs=cA n b e:=by refine Bq Tryz.func20 (A6 (O:=oAs n b e) (n0:=5) rfl) ?_;exact .inl (A1 (oAs n b e) [] (by exact RL5) rfl ⟨_,rfl⟩ rfl rfl ⟨rfl,rfl⟩)
theorem Z0s (n:PN)(b e:Nat):FnO Tryz.prog 23 [.ptr 0 0] (cA n b e) fun g rs=>g=.v (.bool n.lds)∧rs=cA n b e:=by refine Bq Tryz.func23 (A6 (O:=oAs n b e) (n0:=5) rfl) ?_;exact .inl (A1 (oAs n b e) [] (by exact RL5) rfl ⟨_,rfl⟩ rfl rfl ⟨rfl,rfl⟩)
theorem Pg (n:PN)(b e:Nat):FnO Tryz.prog 24 [.ptr 0 0] (cA n b e) fun g rs=>g=gI n.cmt∧rs=cA n b e:=by refine Bq Tryz.func24 (A6 (O:=oAs n b e) (n0:=5) rfl) ?_;exact .inl (A1 (oAs n b e) [] (by exact RL5) rfl ⟨_,rfl⟩ rfl rfl ⟨rfl,rfl⟩)
theorem Zdt (n:PN)(b e:Nat):FnO Tryz.prog 37 [.ptr 0 0] (cA n b e) fun g rs=>g=.v (.bool n.dead)∧rs=cA n b e:=by refine Bq Tryz.func37 (A6 (O:=oAs n b e) (n0:=5) rfl) ?_;exact .inl (A1 (oAs n b e) [] (by exact RL5) rfl ⟨_,rfl⟩ rfl rfl ⟨rfl,rfl⟩)
theorem Zgs (n:PN)(b e:Nat):FnO Tryz.prog 131 [.ptr 0 0,gI 0] (cA n b e) fun g rs=>g=.v (.bool true)∧rs=cA n b e:=by refine Bq Tryz.func131 (A6 (O:=oAs n b e) (n0:=5) rfl) ?_;refine dj (fun h=>de rfl h) fun _=>?_;exact .inl (A1 (oAs n b e) [] (by exact RL5) rfl ⟨_,rfl⟩ rfl rfl ⟨rfl,rfl⟩)
theorem Zgi (n:PN)(b e:Nat){a:Int}(c:a≠0):FnO Tryz.prog 131 [.ptr 0 0,gI a] (cA n b e) fun g rs=>g=.v (.bool false)∧rs=cA (D8 n a) b e:=by
 refine FnO.mono (Q:=fun g rs=>g=.v (.bool (a==0))∧rs=cA (D8 n a) b e) ?_ fun g rs h=>by rw[show(a==0)=false by simpa using c] at h;exact h
 refine Bq Tryz.func131 (A6 (O:=oAs n b e) (n0:=5) rfl) ?_;refine dj (fun _=>?_) fun h=>de h c;have d:D8 n a={n with dead:=true,out:=[]}:=by unfold D8;rw[dc c]
 exact .gh (.nil 0 (Zax n (.osl 2)) [.tt] tNd tPk 3 rfl (by decide) (.seen 0 _ _ rfl (.done (A1 (oAs {n with dead:=true,out:=[]} b e) [(1,1),(2,2),(3,5),(4,4)] (by exact RL5) rfl ⟨_,rfl⟩ rfl rfl ⟨rfl,by rw[d]⟩))))
theorem Zj5 (n:PN)(b e:Nat):FnO Tryz.prog 25 [.ptr 0 0] (cA n b e) fun g rs=>g=.osl 1∧rs=[.abs (cl (oAs {n with out:=[]} b e)),.slc (n.out.map pkG) tPk 3]:=by refine Bq Tryz.func25 (A6 (O:=oAs n b e) (n0:=5) rfl) ?_;exact .gh (.nil 0 (Zax n (.osl 2)) [.v (.bool n.dead)] tNd tPk 3 rfl (by decide) (.done ⟨[⟨oAs {n with out:=[]} b e,[(1,1),(2,2),(3,6),(4,4)],true⟩,⟨[(0,.slc (n.out.map pkG) tPk 3)],[(0,3)],false⟩],.osl 1,⟨⟨⟨(by exact RL5),_,rfl⟩,⟨_,rfl,rfl,rfl⟩,trivial⟩,rfl,⟨_,rfl⟩,rfl,rfl,⟨rfl,rfl⟩⟩⟩))
theorem Zfp (n:PN)(b e:Nat)(c:n.log.length≤1000000):FnO Tryz.prog 22 [.ptr 0 0] (cA n b e) fun g rs=>g=.osl 1∧rs=[.abs (cl (oAs n b e)),.slc (n.log.map enE) tEn 3]:=by refine Bq Tryz.func22 (A6 (O:=oAs n b e) (n0:=5) rfl) ?_;refine di ((Zft n.log c).cal fun q rs a=>?_);obtain⟨rfl,rfl⟩:=a;exact .inl ⟨[⟨oAs n b e,[],true⟩,⟨[(0,.slc (n.log.map enE) tEn 3)],[(0,6)],false⟩],.osl 1,⟨⟨⟨(by exact RL5),_,rfl⟩,⟨_,rfl,rfl,rfl⟩,trivial⟩,rfl,⟨_,rfl⟩,rfl,rfl,⟨rfl,rfl⟩⟩⟩
theorem Zd8 (n:PN)(b e:Nat):FnO Tryz.prog 20 [.ptr 0 0] (cB n b e) fun g rs=>g=.tup [gI n.pmd,gI n.normal]∧rs=cB n b e:=by refine Bq Tryz.func20 (A6 (O:=oBs n b e) (n0:=5) rfl) ?_;exact .inl (A1 (oBs n b e) [] (by exact RL5) rfl ⟨_,rfl⟩ rfl rfl ⟨rfl,rfl⟩)
theorem Zdc (n:PN)(b e:Nat):FnO Tryz.prog 23 [.ptr 0 0] (cB n b e) fun g rs=>g=.v (.bool n.lds)∧rs=cB n b e:=by refine Bq Tryz.func23 (A6 (O:=oBs n b e) (n0:=5) rfl) ?_;exact .inl (A1 (oBs n b e) [] (by exact RL5) rfl ⟨_,rfl⟩ rfl rfl ⟨rfl,rfl⟩)
theorem Z7c (n:PN)(b e:Nat):FnO Tryz.prog 24 [.ptr 0 0] (cB n b e) fun g rs=>g=gI n.cmt∧rs=cB n b e:=by refine Bq Tryz.func24 (A6 (O:=oBs n b e) (n0:=5) rfl) ?_;exact .inl (A1 (oBs n b e) [] (by exact RL5) rfl ⟨_,rfl⟩ rfl rfl ⟨rfl,rfl⟩)
theorem Zbw (n:PN)(b e:Nat):FnO Tryz.prog 37 [.ptr 0 0] (cB n b e) fun g rs=>g=.v (.bool n.dead)∧rs=cB n b e:=by refine Bq Tryz.func37 (A6 (O:=oBs n b e) (n0:=5) rfl) ?_;exact .inl (A1 (oBs n b e) [] (by exact RL5) rfl ⟨_,rfl⟩ rfl rfl ⟨rfl,rfl⟩)
theorem Zhs (n:PN)(b e:Nat):FnO Tryz.prog 131 [.ptr 0 0,gI 0] (cB n b e) fun g rs=>g=.v (.bool true)∧rs=cB n b e:=by refine Bq Tryz.func131 (A6 (O:=oBs n b e) (n0:=5) rfl) ?_;refine dj (fun h=>de rfl h) fun _=>?_;exact .inl (A1 (oBs n b e) [] (by exact RL5) rfl ⟨_,rfl⟩ rfl rfl ⟨rfl,rfl⟩)
theorem Zhw (n:PN)(b e:Nat){a:Int}(c:a≠0):FnO Tryz.prog 131 [.ptr 0 0,gI a] (cB n b e) fun g rs=>g=.v (.bool false)∧rs=cB (D8 n a) b e:=by
 refine FnO.mono (Q:=fun g rs=>g=.v (.bool (a==0))∧rs=cB (D8 n a) b e) ?_ fun g rs h=>by rw[show(a==0)=false by simpa using c] at h;exact h
 refine Bq Tryz.func131 (A6 (O:=oBs n b e) (n0:=5) rfl) ?_;refine dj (fun _=>?_) fun h=>de h c;have d:D8 n a={n with dead:=true,out:=[]}:=by unfold D8;rw[dc c]
 exact .gh (.nil 0 (Zax n (.sl (n.log.map enE))) [.tt] tNd tPk 3 rfl (by decide) (.seen 0 _ _ rfl (.done (A1 (oBs {n with dead:=true,out:=[]} b e) [(1,1),(2,2),(3,5),(4,4)] (by exact RL5) rfl ⟨_,rfl⟩ rfl rfl ⟨rfl,by rw[d]⟩))))
theorem Zj2 (n:PN)(b e:Nat):FnO Tryz.prog 25 [.ptr 0 0] (cB n b e) fun g rs=>g=.osl 1∧rs=[.abs (cl (oBs {n with out:=[]} b e)),.slc (n.out.map pkG) tPk 3]:=by refine Bq Tryz.func25 (A6 (O:=oBs n b e) (n0:=5) rfl) ?_;exact .gh (.nil 0 (Zax n (.sl (n.log.map enE))) [.v (.bool n.dead)] tNd tPk 3 rfl (by decide) (.done ⟨[⟨oBs {n with out:=[]} b e,[(1,1),(2,2),(3,6),(4,4)],true⟩,⟨[(0,.slc (n.out.map pkG) tPk 3)],[(0,3)],false⟩],.osl 1,⟨⟨⟨(by exact RL5),_,rfl⟩,⟨_,rfl,rfl,rfl⟩,trivial⟩,rfl,⟨_,rfl⟩,rfl,rfl,⟨rfl,rfl⟩⟩⟩))
theorem Zkc (n:PN)(b e:Nat)(c:n.log.length≤1000000):FnO Tryz.prog 22 [.ptr 0 0] (cB n b e) fun g rs=>g=.osl 1∧rs=[.abs (cl (oBs n b e)),.slc (n.log.map enE) tEn 3]:=by refine Bq Tryz.func22 (A6 (O:=oBs n b e) (n0:=5) rfl) ?_;refine(Qq n.log c).cal fun q rs a=>?_;obtain⟨rfl,rfl⟩:=a;exact .inl ⟨[⟨oBs n b e,[],true⟩,⟨[(0,.slc (n.log.map enE) tEn 3)],[(0,6)],false⟩],.osl 1,⟨⟨⟨(by exact RL5),_,rfl⟩,⟨_,rfl,rfl,rfl⟩,trivial⟩,rfl,⟨_,rfl⟩,rfl,rfl,⟨rfl,rfl⟩⟩⟩
abbrev cellsH (n:PN)(u:Nat→Value)(o:G):List G:=[gI n.self,gI n.many,.v (u 2),gI n.pmd,gI n.normal,.v (u 5),gI n.cmt,.v (.bool n.lds),.v (.bool n.std),.v (.bool (n.jns 0).is),gI (n.jns 0).normal,.v (u 11),.v (.bool (n.jns 1).is),gI (n.jns 1).normal,.v (u 14),.v (.bool (n.jns 2).is),gI (n.jns 2).normal,.v (u 17),.v (.bool (n.jns 3).is),gI (n.jns 3).normal,.v (u 20),.v (.bool (n.jns 4).is),gI (n.jns 4).normal,.v (u 23),.v (.bool (n.jns 5).is),gI (n.jns 5).normal,.v (u 26),.v (.bool (n.jns 6).is),gI (n.jns 6).normal,.v (u 29),gI n.first,gI (n.aks 0),gI (n.aks 1),gI (n.aks 2),gI (n.aks 3),gI (n.aks 4),gI (n.aks 5),gI (n.aks 6),.v (.bool (n.hrd 0)),.v (.bool (n.hrd 1)),.v (.bool (n.hrd 2)),.v (.bool (n.hrd 3)),.v (.bool (n.hrd 4)),.v (.bool (n.hrd 5)),.v (.bool (n.hrd 6)),o,.v (.bool n.dead)]
abbrev Zl2 (n:PN)(u:Nat→Value):List G:=[gI n.self,gI n.many,.v (u 2),gI n.pmd,gI n.normal,.v (u 5),gI n.cmt,.v (.bool n.lds),.v (.bool n.std),.v (.bool (n.jns 0).is),gI (n.jns 0).normal,.v (u 11),.v (.bool (n.jns 1).is),gI (n.jns 1).normal,.v (u 14),.v (.bool (n.jns 2).is),gI (n.jns 2).normal,.v (u 17),.v (.bool (n.jns 3).is),gI (n.jns 3).normal,.v (u 20),.v (.bool (n.jns 4).is),gI (n.jns 4).normal,.v (u 23),.v (.bool (n.jns 5).is),gI (n.jns 5).normal,.v (u 26),.v (.bool (n.jns 6).is),gI (n.jns 6).normal,.v (u 29),gI n.first,gI (n.aks 0),gI (n.aks 1),gI (n.aks 2),gI (n.aks 3),gI (n.aks 4),gI (n.aks 5),gI (n.aks 6),.v (.bool (n.hrd 0)),.v (.bool (n.hrd 1)),.v (.bool (n.hrd 2)),.v (.bool (n.hrd 3)),.v (.bool (n.hrd 4)),.v (.bool (n.hrd 5)),.v (.bool (n.hrd 6))]
abbrev hN (n:PN)(u:Nat→Value):List R:=[.blk (cellsH n u (.osl 1)) tNd,.slc (n.out.map pkG) tPk 3]
theorem Xe (n:PN)(u:Nat→Value)(to:Nat)(m:RM)(e:m.l.length≤1000000)(f:n.out.length≤1000000):FnO Tryz.prog 99 [.ptr 0 0,gI to,.agg (enM m)] (hN n u) fun g rs=>g=.tup []∧rs=[.blk (cellsH (Ao n to m) u (.osl 2)) tNd,.gone,.slc ((Ao n to m).out.map pkG) tPk 3]:=by
 refine Bq Tryz.func99 (Ci _ _) ?_;refine(Z3x m e).cal fun q b=>?_;subst b;unfold wrM;refine df (fun h=>?_) fun h=>?_
 ·have d:okM m=true:=by
   unfold eM at h;split at h
   ·assumption
   ·cases h
  have a:Ao n to m={n with out:=n.out++[⟨n.self,to,⟨(bM m).toArray⟩⟩]}:=by unfold Ao;rw[dc d]
  have c:(Ao n to m).out.map pkG=n.out.map pkG++[[gI n.self,gI to,.v (.string ⟨(bM m).toArray⟩)]]:=by rw[a];exact ao
  rw[c,a];refine⟨by simp;omega,?_⟩;exact .inl ⟨[⟨[(0,.blk (cellsH n u (.osl 2)) tNd)],[(0,0)],false⟩,⟨[(0,.gone)],[(0,1)],false⟩,⟨[(0,.slc (n.out.map pkG++[[gI n.self,gI to,.v (.string ⟨(bM m).toArray⟩)]]) tPk 3)],[(0,4)],false⟩],.tup [],⟨⟨⟨_,rfl,rfl,rfl⟩,⟨_,rfl,rfl,rfl⟩,⟨_,rfl,rfl,rfl⟩,trivial⟩,rfl,⟨_,rfl⟩,rfl,rfl,⟨rfl,rfl⟩⟩⟩
 ·have a:Ao n to m=n:=by
   unfold eM at h;split at h
   ·exact de rfl h
   ·unfold Ao;rw[db (by assumption)]
  rw[a];exact .gh (.rnm 0 1 (Zl2 n u) [.v (.bool n.dead)] tNd _ tPk 3 rfl rfl (.done ⟨[⟨[(0,.blk (cellsH n u (.osl 2)) tNd)],[(0,0)],false⟩,⟨[(0,.gone)],[(0,1)],false⟩,⟨[(0,.slc (n.out.map pkG) tPk 3)],[(0,3)],false⟩],.tup [],⟨⟨⟨_,rfl,rfl,rfl⟩,⟨_,rfl,rfl,rfl⟩,⟨_,rfl,rfl,rfl⟩,trivial⟩,rfl,⟨_,rfl⟩,rfl,rfl,⟨rfl,rfl⟩⟩⟩))
theorem Di (f:PN→Nat→PN)(n:PN)(i:Nat):I8 f n (i+1)=if i=(I8 f n i).self then I8 f n i else f (I8 f n i) i:=by unfold I8;rw[List.range_succ,List.foldl_append];rfl
def SameN (n a:PN):Prop:={a with out:=n.out}=n
theorem SameN.refl (n:PN):SameN n n:=rfl
theorem SameN.to {n a:PN}(h:SameN n a):∃o,a={n with out:=o}:=⟨a.out,by cases n;cases a;unfold SameN at h;cases h;rfl⟩
theorem SameN.trans {n a b:PN}(h:SameN n a)(c:SameN a b):SameN n b:=by obtain⟨o,rfl⟩:=h.to;obtain⟨d,rfl⟩:=c.to;rfl
theorem A9 (n:PN)(to:Nat)(m:RM):SameN n (Ao n to m):=by unfold Ao SameN;split<;>rfl
theorem Dr (n:PN)(to:Nat)(m:RM):(Ao n to m).out.length≤n.out.length+1:=by unfold Ao;split<;>simp
abbrev tNp:Nat:=40
abbrev tMg:Nat:=29
theorem Z33 (n:PN)(u:Nat→Value)(i:Nat)(m:RM)(b:m.l.length≤1000000)(c:n.out.length≤1000000):FnO Tryz.prog 98 [gI i,.ptr 0 0,.ptr 1 0] [.blk [.ptr 2 0] tNp,.blk (enM m) tMg,.blk (cellsH n u (.osl 3)) tNd,.slc (n.out.map pkG) tPk 3] fun g rs=>g=.tup []∧rs=[.blk [.ptr 2 0] tNp,.blk (enM m) tMg,.blk (cellsH (Ao n i m) u (.osl 4)) tNd,.gone,.slc ((Ao n i m).out.map pkG) tPk 3]:=by refine Bq Tryz.func98 (Ci _ _) ?_;refine di ((Xe n u i m b c).cal fun q rs a=>?_);obtain⟨rfl,rfl⟩:=a;exact .inl ⟨[⟨[(0,.blk [.ptr 2 0] tNp)],[(0,0)],false⟩,⟨[(0,.blk (enM m) tMg)],[(0,1)],false⟩,⟨[(0,.blk (cellsH (Ao n i m) u (.osl 4)) tNd)],[(0,2)],false⟩,⟨[(0,.gone)],[(0,3)],false⟩,⟨[(0,.slc ((Ao n i m).out.map pkG) tPk 3)],[(0,4)],false⟩],.tup [],⟨⟨⟨_,rfl,rfl,rfl⟩,⟨_,rfl,rfl,rfl⟩,⟨_,rfl,rfl,rfl⟩,⟨_,rfl,rfl,rfl⟩,⟨_,rfl,rfl,rfl⟩,trivial⟩,rfl,⟨_,rfl⟩,rfl,rfl,⟨rfl,rfl⟩⟩⟩
theorem Z63 (n:PN)(u:Nat→Value)(m:RM)(o:m.l.length≤1000000)(r:n.many≤100)(s:n.out.length≤900000):FnO Tryz.prog 97 [.ptr 0 0,.clo 98 [] [.ptr 1 0,.ptr 2 0]] [.blk (cellsH n u (.osl 3)) tNd,.blk [.ptr 0 0] tNp,.blk (enM m) tMg,.slc (n.out.map pkG) tPk 3] fun g rs=>g=.tup []∧rs=[.blk (cellsH (I8 (fun n i=>Ao n i m) n n.many) u (.osl 4)) tNd,.blk [.ptr 0 0] tNp,.blk (enM m) tMg,.gone,.slc ((I8 (fun n i=>Ao n i m) n n.many).out.map pkG) tPk 3]:=by
 refine Bq Tryz.func97 (Ci _ _) ?_;refine D2 [0,1,8] [1,2] (fun x:Nat × PN=>[(9,gI x.1)]) (fun x=>[(0,.blk (cellsH x.2 u (.osl 3)) tNd),(3,.slc (x.2.out.map pkG) tPk 3)]) (fun x=>x.1≤n.many∧x.2=I8 (fun n i=>Ao n i m) n x.1∧SameN n x.2∧x.2.out.length≤n.out.length+x.1) (fun x=>n.many - x.1) (0,n) ⟨ah _,rfl,rfl,af _⟩ ⟨⟨rfl,rfl⟩,trivial⟩ (by exact RL2) rfl fun⟨i,n'⟩ hI=>?_;obtain⟨hi,f,h,j⟩:=hI;dsimp only at hi f h j;refine dg (fun c=>?_) fun p=>?_
 ·have c:i < n.many:=by omega
  have a:=Di (fun n i=>Ao n i m) n i;rw[←f] at a;refine dj (fun b=>?_) fun d=>?_
  ·have b:i≠n'.self:=fun e=>b (by rw[e]);rw[db b] at a;refine di ((Z33 n' u i m o (by omega)).cal fun q rs k=>?_);obtain⟨rfl,rfl⟩:=k;refine⟨by omega,.done ⟨(i+1,Ao n' i m),[(3,4)],⟨c,a.symm,h.trans (A9 _ _ _),by have:=Dr n' i m;dsimp only;omega⟩,(by dsimp only;omega),?_⟩⟩;refine⟨?_,?_,rfl⟩<;>repeat' (first|exact trivial|with_reducible rfl|exact rfl|refine And.intro ?_ ?_)
  ·have d:i=n'.self:=by have:((i:Nat):Int)=(n'.self:Nat):=d;omega
   rw[dc d] at a;refine⟨by omega,.done ⟨(i+1,n'),[],⟨c,a.symm,h,by dsimp only;omega⟩,(by dsimp only;omega),?_⟩⟩;refine⟨?_,?_,rfl⟩<;>repeat' (first|exact trivial|with_reducible rfl|exact rfl|refine And.intro ?_ ?_)
 ·have:i=n.many:=by omega
  subst this;rw[←f]
  conv=>whnf
  refine Gh.done ?_;exact .gh (.rnm 0 3 (Zl2 n' u) [.v (.bool n'.dead)] tNd _ tPk 3 rfl rfl (.done ⟨[⟨[(0,.blk (cellsH n' u (.osl 4)) tNd)],[(0,0)],false⟩,⟨[(0,.blk [.ptr 0 0] tNp)],[(0,1)],false⟩,⟨[(0,.blk (enM m) tMg)],[(0,2)],false⟩,⟨[(0,.gone)],[(0,3)],false⟩,⟨[(0,.slc (n'.out.map pkG) tPk 3)],[(0,4)],false⟩],.tup [],⟨⟨⟨_,rfl,rfl,rfl⟩,⟨_,rfl,rfl,rfl⟩,⟨_,rfl,rfl,rfl⟩,⟨_,rfl,rfl,rfl⟩,⟨_,rfl,rfl,rfl⟩,trivial⟩,rfl,⟨_,rfl⟩,rfl,rfl,⟨rfl,rfl⟩⟩⟩))
theorem P6 (n:PN)(u:Nat→Value)(m:RM)(b:m.l.length≤1000000)(c:n.many≤100)(d:n.out.length≤900000):FnO Tryz.prog 66 [.ptr 0 0,.agg (enM m)] (hN n u) fun g rs=>g=.tup []∧rs=[.blk (cellsH (An n m) u (.osl 2)) tNd,.gone,.slc ((An n m).out.map pkG) tPk 3]:=by refine Bq Tryz.func66 (Ci _ _) ?_;refine di ((Z63 n u m b c d).cal fun q rs a=>?_);obtain⟨rfl,rfl⟩:=a;exact .inl ⟨[⟨[(0,.blk (cellsH (An n m) u (.osl 2)) tNd)],[(0,0)],false⟩,⟨[(0,.gone)],[(0,1)],false⟩,⟨[(0,.slc ((An n m).out.map pkG) tPk 3)],[(0,4)],false⟩],.tup [],⟨⟨⟨_,rfl,rfl,rfl⟩,⟨_,rfl,rfl,rfl⟩,⟨_,rfl,rfl,rfl⟩,trivial⟩,rfl,⟨_,rfl⟩,rfl,rfl,⟨rfl,rfl⟩⟩⟩
theorem Zem (l:List RPk):∀r∈l.map pkG,∀g∈r,Gx g=true:=fun r hr g a=>by obtain⟨p,-,rfl⟩:=ba.1 hr;unfold pkG at a;simp only[List.mem_cons,List.not_mem_nil,or_false] at a;rcases a with rfl | rfl | rfl<;>rfl
theorem Vm (n:PN)(f:PN→Nat→PN)(h:∀n i,SameN n (f n i))(k:Nat):SameN n (I8 f n k):=by
 induction k with
 | zero=>exact .refl n
 | succ k ih =>
  rw[Di];split
  ·exact ih
  ·exact ih.trans (h _ _)
theorem A2 (n:PN)(m:RM):SameN n (An n m):=Vm n _ (fun n i=>A9 n i m) _
theorem SameN.cells {n a:PN}(h:SameN n a)(s l o:G):Af a s l o=Af n s l o:=by obtain⟨x,rfl⟩:=h.to;rfl
theorem SameN.cellsH {n a:PN}(h:SameN n a)(u:Nat→Value)(o:G):cellsH a u o=Go.Proofs.YtihfaocdpmmooaaGreat.cellsH n u o:=by obtain⟨x,rfl⟩:=h.to;rfl
theorem Zah (n:PN):KeepS 3 4 (Af n (.ptr 1 0) (.osl 2) (.osl 3)) (Af n (.ptr 1 0) (.osl 2) (.osl 4)):=⟨.inl rfl,.inl rfl,.inr (.inr ⟨rfl,nofun⟩),.inl rfl,.inl rfl,.inr (.inr ⟨rfl,fun h=>by injection h with h;exact de h (by decide)⟩),.inl rfl,.inl rfl,.inl rfl,.inl rfl,.inl rfl,.inr (.inr ⟨rfl,nofun⟩),.inl rfl,.inl rfl,.inr (.inr ⟨rfl,nofun⟩),.inl rfl,.inl rfl,.inr (.inr ⟨rfl,nofun⟩),.inl rfl,.inl rfl,.inr (.inr ⟨rfl,nofun⟩),.inl rfl,.inl rfl,.inr (.inr ⟨rfl,nofun⟩),.inl rfl,.inl rfl,.inr (.inr ⟨rfl,nofun⟩),.inl rfl,.inl rfl,.inr (.inr ⟨rfl,nofun⟩),.inl rfl,.inl rfl,.inl rfl,.inl rfl,.inl rfl,.inl rfl,.inl rfl,.inl rfl,.inl rfl,.inl rfl,.inl rfl,.inl rfl,.inl rfl,.inl rfl,.inl rfl,.inr (.inl rfl),.inl rfl,trivial⟩
theorem Z9t (n:PN)(r:List (List G)):KeepS 2 3 (Af n (.ptr 1 0) (.sl r) (.osl 2)) (Af n (.ptr 1 0) (.sl r) (.osl 3)):=⟨.inl rfl,.inl rfl,.inr (.inr ⟨rfl,nofun⟩),.inl rfl,.inl rfl,.inr (.inr ⟨rfl,nofun⟩),.inl rfl,.inl rfl,.inl rfl,.inl rfl,.inl rfl,.inr (.inr ⟨rfl,nofun⟩),.inl rfl,.inl rfl,.inr (.inr ⟨rfl,nofun⟩),.inl rfl,.inl rfl,.inr (.inr ⟨rfl,nofun⟩),.inl rfl,.inl rfl,.inr (.inr ⟨rfl,nofun⟩),.inl rfl,.inl rfl,.inr (.inr ⟨rfl,nofun⟩),.inl rfl,.inl rfl,.inr (.inr ⟨rfl,nofun⟩),.inl rfl,.inl rfl,.inr (.inr ⟨rfl,nofun⟩),.inl rfl,.inl rfl,.inl rfl,.inl rfl,.inl rfl,.inl rfl,.inl rfl,.inl rfl,.inl rfl,.inl rfl,.inl rfl,.inl rfl,.inl rfl,.inl rfl,.inl rfl,.inr (.inl rfl),.inl rfl,trivial⟩
theorem Z9g (n:PN):KeepS 3 4 (Af n (.ptr 2 0) (.osl 1) (.osl 3)) (Af n (.ptr 2 0) (.osl 1) (.osl 4)):=⟨.inl rfl,.inl rfl,.inr (.inr ⟨rfl,nofun⟩),.inl rfl,.inl rfl,.inr (.inr ⟨rfl,fun h=>by injection h with h;exact de h (by decide)⟩),.inl rfl,.inl rfl,.inl rfl,.inl rfl,.inl rfl,.inr (.inr ⟨rfl,nofun⟩),.inl rfl,.inl rfl,.inr (.inr ⟨rfl,nofun⟩),.inl rfl,.inl rfl,.inr (.inr ⟨rfl,nofun⟩),.inl rfl,.inl rfl,.inr (.inr ⟨rfl,nofun⟩),.inl rfl,.inl rfl,.inr (.inr ⟨rfl,nofun⟩),.inl rfl,.inl rfl,.inr (.inr ⟨rfl,nofun⟩),.inl rfl,.inl rfl,.inr (.inr ⟨rfl,nofun⟩),.inl rfl,.inl rfl,.inl rfl,.inl rfl,.inl rfl,.inl rfl,.inl rfl,.inl rfl,.inl rfl,.inl rfl,.inl rfl,.inl rfl,.inl rfl,.inl rfl,.inl rfl,.inr (.inl rfl),.inl rfl,trivial⟩
theorem Mc (n:PN)(p:Ob)(to:Nat)(m:RM)(a:m.l.length≤1000000)(b:n.out.length≤1000000):FnO Tryz.prog 99 [.ptr 0 0,gI to,.agg (enM m)] [.blk (Af n (.ptr 1 0) (.osl 2) (.osl 3)) tNd,.abs p,.slc (n.log.map enE) tEn 3,.slc (n.out.map pkG) tPk 3] fun g rs=>g=.tup []∧rs=[.blk (Af (Ao n to m) (.ptr 1 0) (.osl 2) (.osl 4)) tNd,.abs p,.slc (n.log.map enE) tEn 3,.gone,.slc ((Ao n to m).out.map pkG) tPk 3]:=by
 rw[(A9 n to m).cells];exact FnO.peekZ (rest:=[.abs p,.slc (n.log.map enE) tEn 3,.slc (n.out.map pkG) tPk 3]) (jo:=3) rfl (Zah n) rfl rfl (Zem _) fun u=>by have:=Xe n u to m a b;rw[(A9 n to m).cellsH] at this;exact this
theorem Vl (n:PN)(p:Ob)(to:Nat)(m:RM)(a:m.l.length≤1000000)(b:n.out.length≤1000000):FnO Tryz.prog 99 [.ptr 0 0,gI to,.agg (enM m)] [.blk (Af n (.ptr 1 0) (.sl (n.log.map enE)) (.osl 2)) tNd,.abs p,.slc (n.out.map pkG) tPk 3] fun g rs=>g=.tup []∧rs=[.blk (Af (Ao n to m) (.ptr 1 0) (.sl (n.log.map enE)) (.osl 3)) tNd,.abs p,.gone,.slc ((Ao n to m).out.map pkG) tPk 3]:=by
 rw[(A9 n to m).cells];exact FnO.peekZ (rest:=[.abs p,.slc (n.out.map pkG) tPk 3]) (jo:=2) rfl (Z9t n _) rfl rfl (Zem _) fun u=>by have:=Xe n u to m a b;rw[(A9 n to m).cellsH] at this;exact this
theorem Fm (n:PN)(p:Ob)(m:RM)(a:m.l.length≤1000000)(b:n.many≤100)(c:n.out.length≤900000):FnO Tryz.prog 66 [.ptr 0 0,.agg (enM m)] [.blk (Af n (.ptr 1 0) (.osl 2) (.osl 3)) tNd,.abs p,.slc (n.log.map enE) tEn 3,.slc (n.out.map pkG) tPk 3] fun g rs=>g=.tup []∧rs=[.blk (Af (An n m) (.ptr 1 0) (.osl 2) (.osl 4)) tNd,.abs p,.slc (n.log.map enE) tEn 3,.gone,.slc ((An n m).out.map pkG) tPk 3]:=by
 rw[(A2 n m).cells];exact FnO.peekZ (rest:=[.abs p,.slc (n.log.map enE) tEn 3,.slc (n.out.map pkG) tPk 3]) (jo:=3) rfl (Zah n) rfl rfl (Zem _) fun u=>by have:=P6 n u m a b c;rw[(A2 n m).cellsH] at this;exact this
theorem Cs (n:PN)(p:Ob)(m:RM)(a:m.l.length≤1000000)(b:n.many≤100)(c:n.out.length≤900000):FnO Tryz.prog 66 [.ptr 0 0,.agg (enM m)] [.blk (Af n (.ptr 1 0) (.sl (n.log.map enE)) (.osl 2)) tNd,.abs p,.slc (n.out.map pkG) tPk 3] fun g rs=>g=.tup []∧rs=[.blk (Af (An n m) (.ptr 1 0) (.sl (n.log.map enE)) (.osl 3)) tNd,.abs p,.gone,.slc ((An n m).out.map pkG) tPk 3]:=by
 rw[(A2 n m).cells];exact FnO.peekZ (rest:=[.abs p,.slc (n.out.map pkG) tPk 3]) (jo:=2) rfl (Z9t n _) rfl rfl (Zem _) fun u=>by have:=P6 n u m a b c;rw[(A2 n m).cellsH] at this;exact this
theorem Ij (n:PN)(p:Ob)(to:Nat)(m:RM)(q:G)(a:Z52 ((1,.froz (n.log.map enE) 3)::Bk [.blk (Af n (.ptr 2 0) (.osl 1) (.osl 3)) tNd,.slc (n.log.map enE) tEn 3,.abs p,.slc (n.out.map pkG) tPk 3] 0) q=.agg (enM m))(b:m.l.length≤1000000)(c:n.out.length≤1000000):FnO Tryz.prog 99 [.ptr 0 0,gI to,q] [.blk (Af n (.ptr 2 0) (.osl 1) (.osl 3)) tNd,.slc (n.log.map enE) tEn 3,.abs p,.slc (n.out.map pkG) tPk 3] fun g rs=>g=.tup []∧rs=[.blk (Af (Ao n to m) (.ptr 2 0) (.osl 1) (.osl 4)) tNd,.slc (n.log.map enE) tEn 3,.abs p,.gone,.slc ((Ao n to m).out.map pkG) tPk 3]:=by
 rw[(A9 n to m).cells];exact FnO.peekF (rest:=[.slc (n.log.map enE) tEn 3,.abs p,.slc (n.out.map pkG) tPk 3]) (jo:=3) (js:=1) (gs':=[gI to,.agg (enM m)]) rfl rfl (by decide) (Z9g n) (by rw[←a];rfl) rfl (Zem _) fun u=>by have:=Xe n u to m b c;rw[(A9 n to m).cellsH] at this;exact this
theorem G9 (n:PN)(p:Ob)(m:RM)(q:G)(a:Z52 ((1,.froz (n.log.map enE) 3)::Bk [.blk (Af n (.ptr 2 0) (.osl 1) (.osl 3)) tNd,.slc (n.log.map enE) tEn 3,.abs p,.slc (n.out.map pkG) tPk 3] 0) q=.agg (enM m))(b:m.l.length≤1000000)(c:n.many≤100)(d:n.out.length≤900000):FnO Tryz.prog 66 [.ptr 0 0,q] [.blk (Af n (.ptr 2 0) (.osl 1) (.osl 3)) tNd,.slc (n.log.map enE) tEn 3,.abs p,.slc (n.out.map pkG) tPk 3] fun g rs=>g=.tup []∧rs=[.blk (Af (An n m) (.ptr 2 0) (.osl 1) (.osl 4)) tNd,.slc (n.log.map enE) tEn 3,.abs p,.gone,.slc ((An n m).out.map pkG) tPk 3]:=by
 rw[(A2 n m).cells];exact FnO.peekF (rest:=[.slc (n.log.map enE) tEn 3,.abs p,.slc (n.out.map pkG) tPk 3]) (jo:=3) (js:=1) (gs':=[.agg (enM m)]) rfl rfl (by decide) (Z9g n) (by rw[←a];rfl) rfl (Zem _) fun u=>by have:=P6 n u m b c d;rw[(A2 n m).cellsH] at this;exact this
theorem Rl {n:PN}{i:Nat}{e:REnt}(h:n.log[i]?=some e):(Ce 1 n.pmd 0 eS::Ce 2 n.normal 0 eS::(n.log.take i).map fun e=>Ce 3 e.v e.n e.b)++[Ce 3 e.v e.n e.b]=Ce 1 n.pmd 0 eS::Ce 2 n.normal 0 eS::(n.log.take (i+1)).map fun e=>Ce 3 e.v e.n e.b:=by rw[Ar h,ao];rfl
abbrev tSg:Nat:=9
def Z5y (n:PN)(i:Nat):List ByteArray:=Ce 1 n.pmd 0 eS::Ce 2 n.normal 0 eS::(n.log.take i).map fun e=>Ce 3 e.v e.n e.b
abbrev Zek (n:PN)(o:G):List G:=[gI n.cmt,.v (.bool n.lds),.v (.bool n.std),.v (.bool (n.jns 0).is),gI (n.jns 0).normal,.sl ((n.jns 0).l.map enE),.v (.bool (n.jns 1).is),gI (n.jns 1).normal,.sl ((n.jns 1).l.map enE),.v (.bool (n.jns 2).is),gI (n.jns 2).normal,.sl ((n.jns 2).l.map enE),.v (.bool (n.jns 3).is),gI (n.jns 3).normal,.sl ((n.jns 3).l.map enE),.v (.bool (n.jns 4).is),gI (n.jns 4).normal,.sl ((n.jns 4).l.map enE),.v (.bool (n.jns 5).is),gI (n.jns 5).normal,.sl ((n.jns 5).l.map enE),.v (.bool (n.jns 6).is),gI (n.jns 6).normal,.sl ((n.jns 6).l.map enE),gI n.first,gI (n.aks 0),gI (n.aks 1),gI (n.aks 2),gI (n.aks 3),gI (n.aks 4),gI (n.aks 5),gI (n.aks 6),.v (.bool (n.hrd 0)),.v (.bool (n.hrd 1)),.v (.bool (n.hrd 2)),.v (.bool (n.hrd 3)),.v (.bool (n.hrd 4)),.v (.bool (n.hrd 5)),.v (.bool (n.hrd 6)),o,.v (.bool n.dead)]
theorem Z9d (n:PN)(p:Ob)(j:n.log.length≤1000000):FnO Tryz.prog 133 [.ptr 0 0] [.blk (Af n (.ptr 1 0) (.osl 2) (.osl 3)) tNd,.abs p,.slc (n.log.map enE) tEn 3,.slc (n.out.map pkG) tPk 3] fun g rs=>g=.osl 6∧rs=[.blk (Af n (.ptr 1 0) (.osl 4) (.osl 5)) tNd,.abs p,.gone,.gone,.slc (n.log.map enE) tEn 3,.slc (n.out.map pkG) tPk 3,.slc ((C0 n).map gSt) tSg 1]:=by
 refine Bq Tryz.func133 (Ci _ _) ?_;refine(Ec _ _ _ _).cal fun q a=>?_;subst a;refine(Ec _ _ _ _).cal fun q a=>?_;subst a;refine As [20,21] [0,1,2,3] (fun i:Nat=>[(22,gI i),(3,.osl 5)]) (fun i=>[(5,.slc ((Z5y n i).map gSt) tSg 1)]) (fun i=>i≤n.log.length) (fun i=>n.log.length - i) 0 (ah _) ⟨⟨rfl,rfl⟩,⟨rfl,rfl⟩,trivial⟩ ⟨⟨rfl,rfl,eqR (by rfl)⟩,trivial⟩ rfl fun i hi=>?_;refine dg (fun h=>?_) fun h=>?_
 ·rw[aa] at h;obtain⟨c,e⟩:∃c,n.log[i]?=some c:=⟨_,ab (by omega)⟩;refine⟨⟨by omega,by rw[aa];omega⟩,?_⟩;refine dl e ?_;have d:=C1 e;refine(Ec _ _ _ _).cal fun q a=>?_;subst a;refine⟨by unfold Z5y;simp;omega,?_⟩;refine⟨by omega,i+1,d,(by dsimp only;omega),?_⟩;refine⟨?_,?_,rfl⟩<;>repeat' (first|exact trivial|with_reducible rfl|exact rfl|refine And.intro ?_ ?_)
  exact eqR (by unfold Z5y;rw[←Rl e];simp;rfl)
 ·have b:i=n.log.length:=by rw[aa] at h;omega
  subst b;have f:Z5y n n.log.length=C0 n:=by unfold Z5y C0;rw[List.take_length]
  rw[f];exact .gh (.rnm 0 2 [gI n.self,gI n.many,.ptr 1 0,gI n.pmd,gI n.normal] (Zek n (.osl 3)) tNd _ tEn 3 rfl rfl (.rnm 0 3 (Zax n (.osl 6)) [.v (.bool n.dead)] tNd _ tPk 3 rfl rfl (.done ⟨[⟨[(0,.blk (Af n (.ptr 1 0) (.osl 4) (.osl 5)) tNd)],[(0,0)],false⟩,⟨[(0,.abs p)],[(0,1)],false⟩,⟨[(0,.gone)],[(0,2)],false⟩,⟨[(0,.gone)],[(0,3)],false⟩,⟨[(0,.slc (n.log.map enE) tEn 3)],[(0,6)],false⟩,⟨[(0,.slc (n.out.map pkG) tPk 3)],[(0,7)],false⟩,⟨[(0,.slc ((C0 n).map gSt) tSg 1)],[(0,5)],false⟩],.osl 6,⟨⟨⟨_,rfl,rfl,rfl⟩,⟨_,rfl,rfl,rfl⟩,⟨_,rfl,rfl,rfl⟩,⟨_,rfl,rfl,rfl⟩,⟨_,rfl,rfl,rfl⟩,⟨_,rfl,rfl,rfl⟩,⟨_,rfl,rfl,rfl⟩,trivial⟩,rfl,⟨_,rfl⟩,rfl,rfl,⟨rfl,rfl⟩⟩⟩)))
theorem Zkj (n:PN)(p:Ob)(j:n.log.length≤1000000):FnO Tryz.prog 133 [.ptr 0 0] [.blk (Af n (.ptr 1 0) (.sl (n.log.map enE)) (.osl 2)) tNd,.abs p,.slc (n.out.map pkG) tPk 3] fun g rs=>g=.osl 4∧rs=[.blk (Af n (.ptr 1 0) (.sl (n.log.map enE)) (.osl 3)) tNd,.abs p,.gone,.slc (n.out.map pkG) tPk 3,.slc ((C0 n).map gSt) tSg 1]:=by
 refine Bq Tryz.func133 (Ci _ _) ?_;refine(Ec _ _ _ _).cal fun q a=>?_;subst a;refine(Ec _ _ _ _).cal fun q a=>?_;subst a;refine As [20,21] [0,1,2] (fun i:Nat=>[(22,gI i),(3,.osl 4)]) (fun i=>[(4,.slc ((Z5y n i).map gSt) tSg 1)]) (fun i=>i≤n.log.length) (fun i=>n.log.length - i) 0 (ah _) ⟨⟨rfl,rfl⟩,⟨rfl,rfl⟩,trivial⟩ ⟨⟨rfl,rfl,eqR (by rfl)⟩,trivial⟩ rfl fun i hi=>?_;refine dg (fun h=>?_) fun h=>?_
 ·skip
  skip
  skip
  refine dp (by simpa using h) fun c e=>?_;have d:=C1 e;refine(Ec _ _ _ _).cal fun q a=>?_;subst a;refine⟨by unfold Z5y;simp;omega,?_⟩;refine⟨by omega,i+1,d,(by dsimp only;omega),?_⟩;refine⟨?_,?_,rfl⟩<;>repeat' (first|exact trivial|with_reducible rfl|exact rfl|refine And.intro ?_ ?_)
  exact eqR (by unfold Z5y;rw[←Rl e];simp;rfl)
 ·have b:i=n.log.length:=by rw[aa] at h;omega
  subst b;have f:Z5y n n.log.length=C0 n:=by unfold Z5y C0;rw[List.take_length]
  rw[f];exact .gh (.rnm 0 2 (Zax n (.sl (n.log.map enE))) [.v (.bool n.dead)] tNd _ tPk 3 rfl rfl (.done ⟨[⟨[(0,.blk (Af n (.ptr 1 0) (.sl (n.log.map enE)) (.osl 3)) tNd)],[(0,0)],false⟩,⟨[(0,.abs p)],[(0,1)],false⟩,⟨[(0,.gone)],[(0,2)],false⟩,⟨[(0,.slc (n.out.map pkG) tPk 3)],[(0,5)],false⟩,⟨[(0,.slc ((C0 n).map gSt) tSg 1)],[(0,4)],false⟩],.osl 4,⟨⟨⟨_,rfl,rfl,rfl⟩,⟨_,rfl,rfl,rfl⟩,⟨_,rfl,rfl,rfl⟩,⟨_,rfl,rfl,rfl⟩,⟨_,rfl,rfl,rfl⟩,trivial⟩,rfl,⟨_,rfl⟩,rfl,rfl,⟨rfl,rfl⟩⟩⟩))
structure WK (l:LD):Prop where
 wa:WA l
 wait:l.d.wait.length≤80000
 all:l.all.length≤99000
theorem Uw {l:LD}(h:WK l)(s:ByteArray):WA (Bj l s)∧(Bj l s).d.wait.length≤80549:=by
 have e:=h.wa;have k:=h.wait;have i:=h.all;unfold Bj;split
 ·exact⟨e,by omega⟩
 ·split
  ·exact⟨e,by omega⟩
  ·split
   ·exact⟨e,by omega⟩
   ·next p m j =>
    have g:l.b.length+s.size+4≤35136:=by unfold Fa at j;omega
    have f:(l.b++frB s).length≤35136:=by rw[ax,Dx];omega
    have a:=Za7 e (by omega) l.half (l.b++frB s) l.b.length f;have o:=Te (l.b++frB s) l.b.length f;have n:=(Ey (Cw l.half) (l.b++frB s) (nsW (l.b++frB s) l.b.length) l.d e.d).2.2.1;have c:(wrL l l.half (l.b++frB s) l.b.length).d.wait.length≤80549:=by show(runW _ _ _ _).1.wait.length≤_;omega
    split
    ·exact⟨⟨a.d,a.many,a.armed,a.wait,a.half,f,by show(l.all++[s]).length≤_;simp;omega,a.mark⟩,c⟩
    ·exact⟨a,c⟩
theorem Jp (n:PN):(C0 n).length=n.log.length+2:=by unfold C0;simp
theorem Hb (n:PN):∀s∈C0 n,s.size≤1000000:=fun s a=>by
 unfold C0 at a;rcases bi.1 a with rfl | a
 ·have:=Fb 1 n.pmd 0 eS;omega
 ·rcases bi.1 a with rfl | a
  ·have:=Fb 2 n.normal 0 eS;omega
  ·obtain⟨e,-,rfl⟩:=ba.1 a;have:=Fb 3 e.v e.n e.b;omega
theorem Z0d (n:PN)(b e:Nat)(a:Int):FnO Tryz.prog 131 [.ptr 0 0,gI a] (cA n b e) fun g rs=>g=.v (.bool (decide (a=0)))∧rs=cA (D8 n a) b e:=by
 by_cases h:a=0
 ·subst h;exact Zgs n b e
 ·have:=Zgi n b e h;rw[decide_eq_false h];exact this
theorem Zaa (n:PN)(b e:Nat)(h:WK n.st)(l:n.log.length≤198)(r:ByteArray)(hr:r.size≤1000000):FnO Tryz.prog 95 [.ptr 0 0,.v (.string r)] (cA n b e) fun g rs=>g=.v (.bool (C9 n r))∧rs=cA (B3 n r) b e:=by
 refine Bq Tryz.func95 (A6 (O:=oAs n b e) (n0:=5) rfl) ?_;obtain⟨i,k⟩:=Uw h r;refine di ((Oq n.st e h.wa r hr).cal fun q rs a=>?_);obtain⟨rfl,rfl⟩:=a;refine df (fun(c:Eb n.st r=51)=>?_) fun(c:Eb n.st r≠51)=>?_
 ·have j:B3 n r=D8 {n with st:=Eo (Bj n.st r) (C0 n)} (Id (Bj n.st r) (C0 n)):=by unfold B3;rw[dc c]
  have f:C9 n r=decide (Id (Bj n.st r) (C0 n)=0):=by unfold C9;rw[dc c]
  rw[j,f];refine⟨?_,?_⟩
  all_goals
   refine di ((Z9d n _ (by omega)).cal fun q rs a=>?_);obtain⟨rfl,rfl⟩:=a;refine dh (.frz 7 _ _ _ rfl (.done (.see (.same ((Hk (Bj n.st r) e i (by omega) (C0 n) (by rw[Jp];omega) (Hb n)).cal fun q rs a=>?_)))));obtain⟨rfl,rfl⟩:=a;refine .done ?_;refine dh (.close (oAs {n with st:=Eo (Bj n.st r) (C0 n)} b e) [(1,1),(2,5),(3,6),(4,4)] (by exact RL5) ⟨_,rfl⟩ rfl (.done (.same ((Z0d _ b e _).cal fun q rs a=>?_))));obtain⟨rfl,rfl⟩:=a;refine .done ?_;exact .inl (A7 rfl rfl ⟨rfl,rfl⟩)
 ·have hd:D8 {n with st:=Bj n.st r} 0={n with st:=Bj n.st r}:=by unfold D8;rw[db (by decide)]
  refine dh (.close (oAs {n with st:=Bj n.st r} b e) [] (by exact RL5) ⟨_,rfl⟩ rfl (.done (.same ((Z0d _ b e _).cal fun q rs a=>?_))));obtain⟨rfl,rfl⟩:=a;by_cases d:Eb n.st r=0
  ·rw[d,hd];refine .opn 0 _ _ _ rfl rfl rfl (.done ?_);refine dk (fun _=>?_) fun h=>de h (by decide);have j:B3 n r=D8 {n with st:=Ic (Bj n.st r)} (N9 (Bj n.st r)):=by unfold B3;rw[db c,db (fun h=>h d)]
   have f:C9 n r=decide (N9 (Bj n.st r)=0):=by unfold C9;rw[db c,db (fun h=>h d)]
   rw[j,f];refine dh (.done (.same ((Z48 (Bj n.st r) e i).cal fun q rs a=>?_)));obtain⟨rfl,rfl⟩:=a;refine .done ?_;refine dh (.close (oAs {n with st:=Ic (Bj n.st r)} b e) [(1,5),(2,6),(3,7),(4,8)] (by exact RL5) ⟨_,rfl⟩ rfl (.done (.same ((Z0d _ b e _).cal fun q rs a=>?_))));obtain⟨rfl,rfl⟩:=a;refine .done ?_;exact .inl (A7 rfl rfl ⟨rfl,rfl⟩)
  ·rw[decide_eq_false d];refine .done ?_;refine dk (fun h=>de h (by decide)) fun _=>?_;have j:B3 n r=D8 {n with st:=Bj n.st r} (Eb n.st r):=by unfold B3;rw[db c,dc d]
   have f:C9 n r=false:=by unfold C9;rw[db c,dc d]
   rw[j,f];exact .inl (A7 rfl rfl ⟨rfl,rfl⟩)
theorem Zcr (n:PN)(b e:Nat)(a:Int):FnO Tryz.prog 131 [.ptr 0 0,gI a] (cB n b e) fun g rs=>g=.v (.bool (decide (a=0)))∧rs=cB (D8 n a) b e:=by
 by_cases h:a=0
 ·subst h;exact Zhs n b e
 ·have:=Zhw n b e h;rw[decide_eq_false h];exact this
theorem Zho (n:PN)(b e:Nat)(h:WK n.st)(l:n.log.length≤198)(r:ByteArray)(hr:r.size≤1000000):FnO Tryz.prog 95 [.ptr 0 0,.v (.string r)] (cB n b e) fun g rs=>g=.v (.bool (C9 n r))∧rs=cB (B3 n r) b e:=by
 refine Bq Tryz.func95 (A6 (O:=oBs n b e) (n0:=5) rfl) ?_;obtain⟨i,k⟩:=Uw h r;refine di ((Oq n.st e h.wa r hr).cal fun q rs a=>?_);obtain⟨rfl,rfl⟩:=a;refine df (fun(c:Eb n.st r=51)=>?_) fun(c:Eb n.st r≠51)=>?_
 ·have j:B3 n r=D8 {n with st:=Eo (Bj n.st r) (C0 n)} (Id (Bj n.st r) (C0 n)):=by unfold B3;rw[dc c]
  have f:C9 n r=decide (Id (Bj n.st r) (C0 n)=0):=by unfold C9;rw[dc c]
  rw[j,f];refine⟨?_,?_⟩
  all_goals
   refine di ((Zkj n _ (by omega)).cal fun q rs a=>?_);obtain⟨rfl,rfl⟩:=a;refine dh (.frz 6 _ _ _ rfl (.done (.see (.same ((Hk (Bj n.st r) e i (by omega) (C0 n) (by rw[Jp];omega) (Hb n)).cal fun q rs a=>?_)))));obtain⟨rfl,rfl⟩:=a;refine .done ?_;refine dh (.close (oBs {n with st:=Eo (Bj n.st r) (C0 n)} b e) [(1,1),(2,2),(3,5),(4,4)] (by exact RL5) ⟨_,rfl⟩ rfl (.done (.same ((Zcr _ b e _).cal fun q rs a=>?_))));obtain⟨rfl,rfl⟩:=a;refine .done ?_;exact .inl (A7 rfl rfl ⟨rfl,rfl⟩)
 ·have hd:D8 {n with st:=Bj n.st r} 0={n with st:=Bj n.st r}:=by unfold D8;rw[db (by decide)]
  refine dh (.close (oBs {n with st:=Bj n.st r} b e) [] (by exact RL5) ⟨_,rfl⟩ rfl (.done (.same ((Zcr _ b e _).cal fun q rs a=>?_))));obtain⟨rfl,rfl⟩:=a;by_cases d:Eb n.st r=0
  ·rw[d,hd];refine .opn 0 _ _ _ rfl rfl rfl (.done ?_);refine dk (fun _=>?_) fun h=>de h (by decide);have j:B3 n r=D8 {n with st:=Ic (Bj n.st r)} (N9 (Bj n.st r)):=by unfold B3;rw[db c,db (fun h=>h d)]
   have f:C9 n r=decide (N9 (Bj n.st r)=0):=by unfold C9;rw[db c,db (fun h=>h d)]
   rw[j,f];refine dh (.done (.same ((Z48 (Bj n.st r) e i).cal fun q rs a=>?_)));obtain⟨rfl,rfl⟩:=a;refine .done ?_;refine dh (.close (oBs {n with st:=Ic (Bj n.st r)} b e) [(1,5),(2,6),(3,7),(4,8)] (by exact RL5) ⟨_,rfl⟩ rfl (.done (.same ((Zcr _ b e _).cal fun q rs a=>?_))));obtain⟨rfl,rfl⟩:=a;refine .done ?_;exact .inl (A7 rfl rfl ⟨rfl,rfl⟩)
  ·rw[decide_eq_false d];refine .done ?_;refine dk (fun h=>de h (by decide)) fun _=>?_;have j:B3 n r=D8 {n with st:=Bj n.st r} (Eb n.st r):=by unfold B3;rw[db c,dc d]
   have f:C9 n r=false:=by unfold C9;rw[db c,dc d]
   rw[j,f];exact .inl (A7 rfl rfl ⟨rfl,rfl⟩)
structure WSt (k:Nat)(l:LD):Prop where
 d:WD l.d
 many:l.d.now.length=1100
 armed:l.d.armed≤9223372036854775807
 wait:l.d.wait=[]
 half:l.half < 2
 b:l.b=Ak l.all
 len:l.b.length≤35136
 mark:l.mark≤k
 dead:l.dead=false
 dd:l.d.dead=false
theorem Z2k:∀l:List ByteArray,4 * l.length≤(Ak l).length
 | []=>by simp[Ak]
 | s::l=>by have a:=Z2k l;unfold Ak at *;rw[List.flatMap_cons,ax,Dx,bd];omega
theorem WSt.wk {k:Nat}{l:LD}(h:WSt k l)(c:k≤1000000000):WK l:=by have a:=Z2k l.all;rw[←h.b] at a;have f:=h.len;have e:=h.mark;exact⟨⟨h.d,by rw[h.many];exact af _,h.armed,by rw[h.wait];exact ah _,h.half,h.len,by omega,by omega⟩,by rw[h.wait];exact ah _,by omega⟩
theorem N7 {d:RD}{n:Int}{b:Sec}(h:Bg d n b=0):(Ad d n b).dead=false∧d.dead=false:=by
 unfold Bg at h;unfold Ad;by_cases a:K7 d n=0
 ·rw[db (fun h=>h a)] at h⊢;have e:=(Mx a).1;split at h
  ·cases h
  ·next g =>
   rw[db g];split at h
   ·cases h
   ·next c =>
    refine⟨?_,e⟩;unfold E3 at c;unfold Bt;show(if d.armed=0 then _ else _:RD).dead=false;split
    ·exact e
    ·next f =>
     rw[db f] at c;have i:(d.armed - 1==0)=false:=by simpa using c
     exact i
 ·rw[dc a] at h;exact de h a
theorem Lk {d:RD}(h:Ct d=0):(Aa d).dead=false∧(Aa d).wait=[]∧d.dead=false:=by
 unfold Ct at h;split at h
 ·cases h
 ·next c =>
  have b:d.dead=false:=by cases hd:d.dead with
   | false=>rfl
   | true=>exact de (.inl hd) c
  have a:¬E3 d=true:=fun h=>c (.inr h);unfold Aa;rw[db (by rw[b];decide),db a];refine⟨?_,rfl,b⟩;show(Bt d).dead=false;unfold E3 at a;unfold Bt;split
  ·exact b
  ·next e=>rw[db e] at a;simpa using a
theorem Zag {d:RD}{n:Int}{b:Sec}(ha:d.armed=0)(hd:d.dead=false)(f:0≤n)(g:n < d.now.length)(e:b.length≤64):Bg d n b=0∧(Ad d n b).armed=0:=by
 have a:K7 d n=0:=by unfold K7;rw[hd,db (by decide),db (by omega)]
 have c:E3 d=false:=by unfold E3;rw[dc ha]
 unfold Bg Ad;rw[db (fun h=>h a),db (by omega),c,db (by decide),db (fun h=>h a),db (by omega)];refine⟨rfl,?_⟩;unfold Bt;show(if d.armed=0 then _ else _:RD).armed=0;rw[dc ha];exact ha
theorem Zgr {d:RD}(ha:d.armed=0)(hd:d.dead=false):Ct d=0∧(Aa d).armed=0:=by
 have a:E3 d=false:=by unfold E3;rw[dc ha]
 unfold Ct Aa;rw[hd,a];refine⟨by simp,?_⟩;simp only[Bool.false_eq_true,if_false];show(Bt d).armed=0;unfold Bt;rw[dc ha];exact ha
theorem S7 (f:Nat)(b:Bs):∀(c:List Nat) (d:RD),d.dead=false→(runW f b c d).2=true→(runW f b c d).1.dead=false
 | [],d,h,_=>h
 | n::c,d,h,hr=>by
  rw[Ei] at hr⊢;split
  ·next a=>rw[dc a] at hr;exact S7 f b c _ (N7 a).1 hr
  ·next a=>rw[db a] at hr;cases hr
theorem Rz (f:Nat)(b:Bs):∀(a:List Nat) (d:RD),d.dead=false→d.armed=0→(∀n∈a,f+n < d.now.length)→(runW f b a d).2=true∧(runW f b a d).1.armed=0
 | [],d,_,ha,_=>⟨rfl,ha⟩
 | n::a,d,h,ha,hn=>by have i:=hn n (by simp);obtain⟨c,e⟩:=Zag (n:=((f+n:Nat):Int)) (b:=chB b n) ha h (by omega) (by omega) (by unfold chB;rw[aw];omega);rw[Ei,dc c];refine Rz f b a _ (N7 c).1 e fun m g=>?_;rw[(Ez d _ _).1];exact hn m (by simp[g])
theorem Z5a {b:Bs}{frm:Nat}(a:b.length≤35136){n:Nat}(h:n∈nsW b frm):n < 549:=by unfold nsW at h;rw[List.mem_range'_1] at h;omega
theorem Mt {l:LD}(hd:l.d.dead=false){h:Nat}{b:Bs}{frm:Nat}(a:wrE l h b frm=true):(wrL l h b frm).dead=false∧(wrL l h b frm).d.dead=false:=by unfold wrE at a;unfold wrL;refine⟨by rw[a];rfl,?_⟩;exact S7 _ _ _ _ hd a
theorem Lq {l:LD}(hd:l.d.dead=false)(ha:l.d.armed=0)(e:l.d.now.length=1100){h:Nat}(f:h < 2){b:Bs}(a:b.length≤35136)(frm:Nat):wrE l h b frm=true∧(wrL l h b frm).d.armed=0:=by
 unfold wrE wrL;exact Rz _ _ _ _ hd ha fun n c=>by have:=Z5a a c;rw[e];unfold Cw;omega
theorem Ee (m h f:Nat):(Am m h f).length=64:=by unfold Am be8;simp
theorem Lh {l:LD}{h f:Nat}(a:(Ah l h f).dead=false):(Ah l h f).d.dead=false∧(Ah l h f).d.wait=[]∧Ah l h f={l with mark:=l.mark+1,half:=h,firm:=f,d:=(Ah l h f).d}:=by
 unfold Ah at a⊢;split at a
 ·cases a
 ·next b =>
  rw[db b];split at a
  ·cases a
  ·next e =>
   rw[db e];split at a
   ·cases a
   ·next c =>
    rw[db c];obtain⟨a1,a2,-⟩:=Lk (by omega:Ct (Ad (Aa l.d) (((l.mark+1) % 2:Nat):Int) (Am (l.mark+1) h f))=0);exact⟨a1,a2,rfl⟩
theorem Kr {l:LD}(m:l.dead=false)(hd:l.d.dead=false)(ha:l.d.armed=0)(p:l.d.now.length=1100)(h f:Nat):(Ah l h f).dead=false∧(Ah l h f).d.armed=0:=by obtain⟨a,i⟩:=Zgr ha hd;obtain⟨j,-,-⟩:=Lk a;have e:=(K3 l.d).1;obtain⟨c,g⟩:=Zag (d:=Aa l.d) (n:=(((l.mark+1) % 2:Nat):Int)) (b:=Am (l.mark+1) h f) i j (by omega) (by omega) (by rw[Ee];exact af _);obtain⟨o,k⟩:=Zgr g (N7 c).1;unfold Ah;rw[db (fun h=>h a),db (fun h=>h c),db (fun h=>h o)];exact⟨m,k⟩
theorem Ou {l:LD}(i:WD l.d)(h f:Nat):WD (Ah l h f).d∧(Ah l h f).d.now.length=l.d.now.length∧(Ah l h f).d.armed≤l.d.armed∧(Ah l h f).d.wait.length≤l.d.wait.length+1:=by
 obtain⟨a1,a2,g⟩:=K3 l.d;obtain⟨b1,b2,k⟩:=Ez (Aa l.d) (((l.mark+1) % 2:Nat):Int) (Am (l.mark+1) h f);obtain⟨b,j,m⟩:=K3 (Ad (Aa l.d) (((l.mark+1) % 2:Nat):Int) (Am (l.mark+1) h f));have e:=Lo i;have a:=K6 e (((l.mark+1) % 2:Nat):Int) (Am (l.mark+1) h f);have c:=Lo a;unfold Ah;split
 ·exact⟨e,a1,g,by show(Aa l.d).wait.length≤_;omega⟩
 ·split
  ·exact⟨a,b1.trans a1,by show(Ad _ _ _).armed≤_;omega,by show(Ad _ _ _).wait.length≤_;omega⟩
  ·split
   ·exact⟨c,b.trans (b1.trans a1),by show(Aa _).armed≤_;omega,by show(Aa _).wait.length≤_;omega⟩
   ·exact⟨c,b.trans (b1.trans a1),by show(Aa _).armed≤_;omega,by show(Aa _).wait.length≤_;omega⟩
theorem Zaj {k:Nat}{l:LD}(h:WSt k l)(s:ByteArray)(a:Eb l s=0)(f:N9 (Bj l s)=0):WSt (k+1) (Ic (Bj l s))∧(Ic (Bj l s)).all=l.all++[s]:=by
 unfold Eb at a;rw[db (by rw[h.dead];decide)] at a;have i:¬s.size > 4096:=fun n=>by rw[dc n] at a;cases a
 rw[db i] at a;have e:¬(s.size:Int) > Fa l:=fun n=>by rw[dc n] at a;cases a
 rw[db e] at a;have j:wrE l l.half (l.b++frB s) l.b.length=true:=by
  cases j:wrE l l.half (l.b++frB s) l.b.length with
  | true=>rfl
  | false=>rw[j] at a;cases a
 have r:Bj l s={wrL l l.half (l.b++frB s) l.b.length with b:=l.b++frB s,all:=l.all++[s]}:=by unfold Bj;rw[db (by rw[h.dead];decide),db i,db e,dc j]
 have c:(l.b++frB s).length≤35136:=by rw[ax,Dx];have:=h.len;unfold Fa at e;omega
 obtain⟨o,C⟩:=Mt h.dd j;obtain⟨G,K,N,I⟩:=Ey (Cw l.half) (l.b++frB s) (nsW (l.b++frB s) l.b.length) l.d h.d;generalize g:({wrL l l.half (l.b++frB s) l.b.length with b:=l.b++frB s,all:=l.all++[s]}:LD)=x at r;have u:x.dead=false:=by rw[←g];exact o
 have p:x.d=(runW (Cw l.half) (l.b++frB s) (nsW (l.b++frB s) l.b.length) l.d).1:=by rw[←g];rfl
 have J:x.mark=l.mark:=by rw[←g];rfl
 have z:x.half=l.half:=by rw[←g];rfl
 have E:x.b=l.b++frB s:=by rw[←g]
 have y:x.all=l.all++[s]:=by rw[←g]
 rw[r] at f⊢;have B:Ic x=Ah x x.half x.b.length:=by unfold Ic;rw[db (by rw[u];decide)]
 have t:(Ah x x.half x.b.length).dead=false:=by
  unfold N9 at f;rw[db (by rw[u];decide)] at f;unfold D7 at f;cases hz:(Ah x x.half x.b.length).dead with
  | false=>rfl
  | true=>rw[hz] at f;cases f
 obtain⟨w,H,m⟩:=Lh t;obtain⟨A,D,F,L⟩:=Ou (l:=x) (by rw[p];exact G) x.half x.b.length;rw[B];have q:(Ah x x.half x.b.length).b=l.b++frB s:=by rw[m];exact E
 have v:(Ah x x.half x.b.length).all=l.all++[s]:=by rw[m];exact y
 have ha:=h.armed;have M:=h.many;refine⟨⟨A,by rw[D,p];omega,by rw[p] at F;omega,H,?_,?_,?_,?_,t,w⟩,v⟩
 ·rw[m];show x.half < 2;rw[z];exact h.half
 ·rw[q,v,Na,h.b]
 ·rw[q];exact c
 ·rw[m];show x.mark+1≤_;have:=h.mark;omega
theorem Z53 {k:Nat}{l:LD}(h:WSt k l)(all:List ByteArray)(a:Id l all=0):WSt (k+1) (Eo l all)∧(Eo l all).all=all:=by
 unfold Id at a;rw[db (by rw[h.dead];decide)] at a;have hf:Nh all=0:=by
  by_cases hf:Nh all=0
  ·exact hf
  ·rw[dc hf] at a;exact de a hf
 rw[db (fun h=>h hf)] at a;have c:wrE l (1 - l.half) (Ak all) 0=true:=by
  cases c:wrE l (1 - l.half) (Ak all) 0 with
  | true=>rfl
  | false=>rw[c] at a;cases a
 rw[dc c] at a;have e:(Ak all).length≤35136:=by
  unfold Nh at hf;split at hf
  ·cases hf
  ·split at hf
   ·cases hf
   ·omega
 obtain⟨m,o⟩:=Mt h.dd c;obtain⟨s,v,y,u⟩:=Ey (Cw (1 - l.half)) (Ak all) (nsW (Ak all) 0) l.d h.d;have f:(Ah (wrL l (1 - l.half) (Ak all) 0) (1 - l.half) (Ak all).length).dead=false:=by
  unfold D7 at a;cases hz:(Ah (wrL l (1 - l.half) (Ak all) 0) (1 - l.half) (Ak all).length).dead with
  | false=>rfl
  | true=>rw[hz] at a;cases a
 have q:Eo l all={Ah (wrL l (1 - l.half) (Ak all) 0) (1 - l.half) (Ak all).length with b:=Ak all,all:=all}:=by unfold Eo;rw[db (by rw[h.dead];decide),db (fun h=>h hf),dc c,db (by rw[f];decide)]
 obtain⟨j,t,i⟩:=Lh f;obtain⟨n,p,r,w⟩:=Ou (l:=wrL l (1 - l.half) (Ak all) 0) s (1 - l.half) (Ak all).length;have g:(wrL l (1 - l.half) (Ak all) 0).d=(runW (Cw (1 - l.half)) (Ak all) (nsW (Ak all) 0) l.d).1:=rfl;have ha:=h.armed;have x:=h.many;rw[q];refine⟨⟨n,?_,?_,t,?_,rfl,e,?_,f,j⟩,rfl⟩
 ·show(Ah _ _ _).d.now.length=_;rw[p,g];omega
 ·show(Ah _ _ _).d.armed≤_;rw[g] at r;omega
 ·show(Ah _ _ _).half < 2;rw[i];show 1 - l.half < 2;omega
 ·show(Ah _ _ _).mark≤_;rw[i];show l.mark+1≤_;have:=h.mark;omega
theorem Zk9 (n:PN)(b e:Nat)(h:WK n.st)(c:n.log.length≤190)(x:REnt):FnO Tryz.prog 65 [.ptr 0 0,.agg (enE x)] (cA n b e) fun g rs=>g=.v (.bool (Lx n x))∧rs=cA (F8 n x) b e:=by refine Bq Tryz.func65 (A6 (O:=oAs n b e) (n0:=5) rfl) ?_;refine⟨by simp;omega,?_⟩;refine(Ec _ _ _ _).cal fun q a=>?_;subst a;refine dh (.close (oAs {n with log:=n.log++[x]} b e) [(1,1),(2,7),(3,3),(4,4)] ⟨RL1,RL1,⟨rfl,rfl,eqR (by rw[ao];rfl)⟩,RL1,RL1,trivial⟩ ⟨_,rfl⟩ rfl (.done (.same ((Zaa {n with log:=n.log++[x]} b e h (by show(n.log++[x]).length≤_;simp;omega) _ (by have:=Fb 3 x.v x.n x.b;omega)).cal fun q rs a=>?_))));obtain⟨rfl,rfl⟩:=a;refine .done ?_;exact .inl (A7 rfl rfl ⟨rfl,rfl⟩)
theorem Zb0 (n:PN)(b e:Nat)(h:WK n.st)(c:n.log.length≤190)(view:Int):FnO Tryz.prog 82 [.ptr 0 0,gI view] (cA n b e) fun g rs=>g=.v (.bool (El n view))∧rs=cB (Cq n view) b e:=by refine Bq Tryz.func82 (A6 (O:=oAs n b e) (n0:=5) rfl) ?_;refine(Ec _ _ _ _).cal fun q a=>?_;subst a;refine dh (.seen 0 _ _ rfl (.close (oAs {n with pmd:=view,lds:=false,std:=false} b e) [] (by exact RL5) ⟨_,rfl⟩ rfl (.done (.same ((Zaa {n with pmd:=view,lds:=false,std:=false} b e h (by show n.log.length≤_;omega) _ (ca (Fb _ _ _ _) (by decide))).cal fun q rs a=>?_)))));obtain⟨rfl,rfl⟩:=a;refine .done ?_;exact .gh (.opn 0 _ _ _ rfl rfl rfl (.frz 6 _ _ _ rfl (.seen 0 _ _ rfl (.drop 6 _ rfl (.done (A1 (oBs (Cq n view) b e) [(1,5),(2,6),(3,7),(4,8)] (by exact RL5) rfl ⟨_,rfl⟩ rfl rfl ⟨rfl,rfl⟩))))))
theorem Zaq (n:PN)(b e:Nat)(h:WK n.st)(c:n.log.length≤190)(view:Int):FnO Tryz.prog 82 [.ptr 0 0,gI view] (cB n b e) fun g rs=>g=.v (.bool (El n view))∧rs=cB (Cq n view) b e:=by refine Bq Tryz.func82 (A6 (O:=oBs n b e) (n0:=5) rfl) ?_;refine(Ec _ _ _ _).cal fun q a=>?_;subst a;refine dh (.seen 0 _ _ rfl (.close (oBs {n with pmd:=view,lds:=false,std:=false} b e) [] (by exact RL5) ⟨_,rfl⟩ rfl (.done (.same ((Zho {n with pmd:=view,lds:=false,std:=false} b e h (by show n.log.length≤_;omega) _ (ca (Fb _ _ _ _) (by decide))).cal fun q rs a=>?_)))));obtain⟨rfl,rfl⟩:=a;refine .done ?_;exact .inl (A7 rfl rfl ⟨rfl,rfl⟩)
theorem Zbd (n:PN)(b e:Nat)(h:WK n.st)(view:Int)(l:List REnt)(c:l.length≤190):FnO Tryz.prog 104 [.ptr 0 0,gI view,.sl (l.map enE)] (cA n b e) fun g rs=>g=.v (.bool (Bu n view l))∧rs=cA (Ba n view l) b e:=by
 refine Bq Tryz.func104 (A6 (O:=oAs n b e) (n0:=5) rfl) ?_;refine(Qq l (by omega)).cal fun q rs a=>?_;obtain⟨rfl,rfl⟩:=a;refine⟨?_,?_⟩
 all_goals
  refine di ((Z9d (B6 n view l) _ (by show l.length≤_;omega)).cal fun q rs a=>?_);obtain⟨rfl,rfl⟩:=a;refine dh (.frz 8 _ _ _ rfl (.done (.see (.same ((Hk n.st e h.wa (by have:=h.wait;omega) (C0 (B6 n view l)) (by rw[Jp];show l.length+2≤_;omega) (Hb _)).cal fun q rs a=>?_)))));obtain⟨rfl,rfl⟩:=a;refine .done ?_;refine dh (.close (oAs {B6 n view l with st:=Eo n.st (C0 (B6 n view l))} b e) [(1,1),(2,6),(3,7),(4,4)] (by exact RL5) ⟨_,rfl⟩ rfl (.done (.same ((Z0d _ b e _).cal fun q rs a=>?_))));obtain⟨rfl,rfl⟩:=a;refine .done ?_;exact .inl (A7 rfl rfl ⟨rfl,rfl⟩)
theorem Z07 (n:PN)(b e:Nat)(h:WK n.st)(view:Int)(l:List REnt)(c:l.length≤190):FnO Tryz.prog 104 [.ptr 0 0,gI view,.sl (l.map enE)] (cB n b e) fun g rs=>g=.v (.bool (Bu n view l))∧rs=cA (Ba n view l) b e:=by
 refine Bq Tryz.func104 (A6 (O:=oBs n b e) (n0:=5) rfl) ?_;refine(Qq l (by omega)).cal fun q rs a=>?_;obtain⟨rfl,rfl⟩:=a;refine⟨?_,?_⟩
 all_goals
  refine di ((Z9d (B6 n view l) _ (by show l.length≤_;omega)).cal fun q rs a=>?_);obtain⟨rfl,rfl⟩:=a;refine dh (.frz 8 _ _ _ rfl (.done (.see (.same ((Hk n.st e h.wa (by have:=h.wait;omega) (C0 (B6 n view l)) (by rw[Jp];show l.length+2≤_;omega) (Hb _)).cal fun q rs a=>?_)))));obtain⟨rfl,rfl⟩:=a;refine .done ?_;refine dh (.close (oAs {B6 n view l with st:=Eo n.st (C0 (B6 n view l))} b e) [(1,1),(2,6),(3,7),(4,4)] (by exact RL5) ⟨_,rfl⟩ rfl (.done (.same ((Z0d _ b e _).cal fun q rs a=>?_))));obtain⟨rfl,rfl⟩:=a;refine .done ?_;exact .inl (A7 rfl rfl ⟨rfl,rfl⟩)
theorem Zj0 {m:Nat}(a:1≤m)(h:m≤7):m=1∨m=2∨m=3∨m=4∨m=5∨m=6∨m=7:=by omega
theorem Z9 (n:PN)(a:1≤n.many)(h:n.many≤7)(s l o:G):(((Af n s l o).drop 31).take n.many).map (fun g=>[g])=(By n).map gI1∧B4 Gx (((Af n s l o).drop 31).take n.many)=true:=by unfold By;rcases Zj0 a h with e | e | e | e | e | e | e<;>rw[e]<;>exact⟨rfl,rfl⟩
theorem Dg (n:PN)(b e:Nat)(j:1≤n.many)(h:n.many≤7)(l:n.out.length≤900000):FnO Tryz.prog 67 [.ptr 0 0] (cA n b e) fun g rs=>g=.tup []∧rs=cA (Cj n) b e:=by
 refine Bq Tryz.func67 (A6 (O:=oAs n b e) (n0:=5) rfl) ?_;obtain⟨f,k⟩:=Z9 n j h (.ptr 1 0) (.osl 2) (.osl 3);refine⟨⟨by omega,by omega,by omega⟩,?_⟩;refine EvSn.snap (Af n (.ptr 1 0) (.osl 2) (.osl 3)) tNd (.int .i64 (Bi (By n))) rfl ⟨h,by show 31+n.many≤47;omega⟩ k (by have:=Zfn (By n) (by unfold By;simp;omega);rw[←f] at this;exact this) ?_
 refine dg (fun a=>?_) fun a=>?_
 ·have c:Cj n=An {n with cmt:=Bi (By n)} ⟨6,n.pmd,0,Bi (By n),[]⟩:=by unfold Cj;rw[dc a]
  have d:=Fm {n with cmt:=Bi (By n)} (cl (oLs n.st e)) ⟨6,n.pmd,0,Bi (By n),[]⟩ (ah _) (by show n.many≤100;omega) l;obtain⟨o,m⟩:=(A2 {n with cmt:=Bi (By n)} ⟨6,n.pmd,0,Bi (By n),[]⟩).to;rw[m] at d c;rw[c];refine d.cal fun q rs i=>?_;obtain⟨rfl,rfl⟩:=i;exact .inl (A1 (oAs {n with cmt:=Bi (By n),out:=o} b e) [(3,5)] (by exact RL5) rfl ⟨_,rfl⟩ rfl rfl ⟨rfl,rfl⟩)
 ·have c:Cj n=n:=by unfold Cj;rw[db a]
  rw[c];exact .inl (A1 (oAs n b e) [] (by exact RL5) rfl ⟨_,rfl⟩ rfl rfl ⟨rfl,rfl⟩)
end Go.Proofs.YtihfaocdpmmooaaGreat
