
import Derived.Test.YtihfaocdpmmooaaGreatSxMc
import Derived.Test.YtihfaocdpmmooaaGreatRkM
namespace Go.Proofs.YtihfaocdpmmooaaGreat
open Go.RowKit
theorem Bd {f:FuncId}{fn:Func}{c:Code}{gs gs0:List G}{rs:List R}{own0:Os}{n0:Nat}{roots:List Nat}{Q:G→List R→Prop}(hf:Tryz.prog.funcs[f]?=some fn)(hname:(fn.name=="runtime.NumGoroutine")=false) (hb:fn.body=some c) (hn:gs0.length≤fn.ntmps) (hc:E5 tab fn.ntmps c=true) (ho:Z7v rs gs own0 n0 gs0 roots) (h:sxC Tryz.prog tab c (Jj 0 gs0) own0 n0 (Z0d tab fn roots Q)):FnO Tryz.prog f gs rs Q :=
 Xd (Z2l Zey) (by kernel_rfl) hf hname hb hn hc ho h
end Go.Proofs.YtihfaocdpmmooaaGreat
namespace Go.Proofs.YtihfaocdpmmooaaGreat
open Go.RowKit
theorem Z8w {α:Type}{I:Imm}{w:World}{l:List α}{C:α→List Value}{sz:Nat}{x:Value}(hm:Mem I w)(h:VRep I (.sl (l.map fun a=>(C a).map G.v)) x)(hs:∀a∈l,(C a).length=sz)(h0:0 < sz):∃A c,x=.slice A l.length c∧Rd w w.heap.size sz C A l:=by
 generalize hL:(l.map fun a=>(C a).map G.v)=L at h
 cases h with
 | sl _ A c sz0 u hc hA hz h hu =>
  have hlen:L.length=l.length:=by rw[←hL,List.length_map]
  refine⟨A,c,by rw[hlen],fun i a ha=>?_⟩
  have hr:L[i]?=some ((C a).map G.v):=by rw[←hL,List.getElem?_map,ha];rfl
  have hsz:sz0=sz:=by
   have h1:=hz _ (List.mem_of_getElem? hr)
   have h2:=hs a (List.mem_of_getElem? ha)
   rw[List.length_map] at h1
   omega
  subst hsz
  obtain⟨b,o,hAb,hI⟩:=h i _ hr
  refine⟨⟨b,o,none⟩,hAb,?_,fun j v hv=>?_⟩
  ·cases hC:C a with
   | nil =>
    have h2:=hs a (List.mem_of_getElem? ha)
    rw[hC] at h2
    exact absurd h2 (by rw[List.length_nil];omega)
   | cons v vs =>
    have h2:=hs a (List.mem_of_getElem? ha)
    rw[hC] at h2
    exact hm.lt (hI 0 (by rw[←h2];exact Nat.succ_pos _))
  ·have hj:j < sz0:=by have:=(List.getElem?_eq_some_iff.1 hv).1;rw[hs a (List.mem_of_getElem? ha)] at this;exact this
   have h1:=hI j hj
   have h2:=hu i _ j (.v v) hr (by rw[List.getElem?_map,hv];rfl)
   have h3:=hm _ _ _ h1
   rw[C5 h2] at h3
   rw[C0,C0]
   exact h3
theorem Lz {P:Program}{f:FuncId}{gs:List G}{v:Value}(he:Ent P f)(h:∀I w vs,Mem I w→PW (VRep I) gs vs→Calls P f vs.toArray w fun e w'=>e=.returned v∧Below w.heap.size w w'):FnV P f gs fun g=>g=.v v :=
 ⟨he,fun I w vs hm hp=>(h I w vs hm hp).mono fun _ _ ⟨he,hb⟩=>⟨v,.v v,I,he,rfl,hm.keep fun b _ _ hx=>hb.block b (hm.lt hx),.v v,fun _ _ _ h=>h,fun _ _ _=>rfl,hb⟩⟩
theorem Kj {w w':World}(h:w=w'):Below w.heap.size w w':=h ▸ .refl _ _
theorem Lj {I:Imm}{g:G}{vs:List Value}(h:PW (VRep I) [g] vs):∃x,vs=[x]∧VRep I g x:=by
 obtain⟨x,vs',rfl,hx,hn⟩:=h.uncons
 obtain rfl:=hn.of_nil
 exact⟨x,rfl,hx⟩
theorem Z24 {I:Imm}{g g':G}{vs:List Value}(h:PW (VRep I) [g,g'] vs):∃x y,vs=[x,y]∧VRep I g x∧VRep I g' y:=by
 obtain⟨x,vs',rfl,hx,hn⟩:=h.uncons
 obtain⟨y,rfl,hy⟩:=Lj hn
 exact⟨x,y,rfl,hx,hy⟩
def enE (e:REnt):List G:=[gI e.v,gI e.n,.v (.string e.b)]
def Zg4 (m:Mk):List G:=[gI m.v,gI m.n]
def gI1 (x:Int):List G:=[gI x]
theorem Tx (m:Int):FnV Tryz.prog 54 [gI m] fun g=>g=gI (Am m) :=
 Lz ⟨_,Tryz.func54,by kernel_rfl,by kernel_rfl⟩ fun I w vs _ hp=>by
  obtain⟨x,rfl,hx⟩:=Lj hp
  rw[C5 hx]
  exact(My m w).mono fun e w' ⟨he,hw⟩=>⟨he,Kj hw⟩
theorem Cg (v m:Int):FnV Tryz.prog 72 [gI v,gI m] fun g=>g=gI (Aa v m) :=
 Lz ⟨_,Tryz.func72,by kernel_rfl,by kernel_rfl⟩ fun I w vs _ hp=>by
  obtain⟨x,y,rfl,hx,hy⟩:=Z24 hp
  rw[C5 hx,C5 hy]
  exact(S8 v m w).mono fun e w' ⟨he,hw⟩=>⟨he,Kj hw⟩
theorem Zan (l:List Int)(hl:l.length≤1000):FnV Tryz.prog 100 [.sl (l.map gI1)] fun g=>g=gI (Bu l) :=
 Lz ⟨_,Tryz.func100,by kernel_rfl,by kernel_rfl⟩ fun I w vs hm hp=>by
  obtain⟨x,rfl,hx⟩:=Lj hp
  obtain⟨A,c,rfl,hr⟩:=Z8w (C:=Zfz) (sz:=1) hm hx (fun _ _=>rfl) (by decide)
  exact Z3n l A c w (by unfold maxLen;omega) hr
theorem Zb0 (l:List Mk)(hl:l.length≤1000):FnV Tryz.prog 122 [.sl (l.map Zg4)] fun g=>g=gI (M0 l) :=
 Lz ⟨_,Tryz.func122,by kernel_rfl,by kernel_rfl⟩ fun I w vs hm hp=>by
  obtain⟨x,rfl,hx⟩:=Lj hp
  obtain⟨A,c,rfl,hr⟩:=Z8w (C:=mkC) (sz:=2) hm hx (fun _ _=>rfl) (by decide)
  exact Z3d l A c w (by unfold maxLen;omega) hr
theorem Rs (l:List REnt)(hl:l.length≤1000000):FnV Tryz.prog 59 [.sl (l.map enE)] fun g=>g=.v (.bool (Bg l)) :=
 Lz ⟨_,Tryz.func59,by kernel_rfl,by kernel_rfl⟩ fun I w vs hm hp=>by
  obtain⟨x,rfl,hx⟩:=Lj hp
  obtain⟨A,c,rfl,hr⟩:=Z8w (C:=Zg1) (sz:=3) hm hx (fun _ _=>rfl) (by decide)
  exact Zy l A c w (by unfold maxLen;omega) hr
end Go.Proofs.YtihfaocdpmmooaaGreat
