
import Derived.Test.YtihfaocdpmmooaaGreatSxMc
import Derived.Test.YtihfaocdpmmooaaGreatRkM
namespace Go.Proofs.YtihfaocdpmmooaaGreat
open Go.RowKit
theorem Ba {f:FuncId}{fn:Func}{c:Code}{gs gs0:List G}{rs:List R}{own0:Os}{n0:Nat}{roots:List Nat}{Q:G→List R→Prop}(hf:Tryz.prog.funcs[f]?=some fn)(hname:(fn.name=="runtime.NumGoroutine")=false) (hb:fn.body=some c) (hn:gs0.length≤fn.ntmps) (hc:Dr tab fn.ntmps c=true) (ho:Z7y rs gs own0 n0 gs0 roots) (h:sxC Tryz.prog tab c (Iq 0 gs0) own0 n0 (Z2 tab fn roots Q)):FnO Tryz.prog f gs rs Q :=
 W3 (Zi Ze9) (by kernel_rfl) hf hname hb hn hc ho h
end Go.Proofs.YtihfaocdpmmooaaGreat
namespace Go.Proofs.YtihfaocdpmmooaaGreat
open Go.RowKit
theorem Z4x {α:Type}{I:Imm}{w:World}{l:List α}{C:α→List Value}{sz:Nat}{x:Value}(hm:Mem I w)(h:VRep I (.sl (l.map fun a=>(C a).map G.v)) x)(hs:∀a∈l,(C a).length=sz)(h0:0 < sz):∃A c,x=.slice A l.length c∧Rd w w.heap.size sz C A l:=by
 generalize hL:(l.map fun a=>(C a).map G.v)=L at h
 cases h with
 | sl _ A c sz0 u hc hA hz h hu =>
  have hlen:L.length=l.length:=by rw[←hL,List.length_map]
  refine⟨A,c,by rw[hlen],fun i a ha=>?_⟩
  have hr:L[i]?=some ((C a).map G.v):=by rw[←hL,List.getElem?_map,ha];rfl
  have hsz:sz0=sz:=by
   have h1:=hz _ (List.mem_of_getElem? hr)
   have h2:=hs a (List.mem_of_getElem? ha)
   rw[List.length_map] at h1
   omega
  subst hsz
  obtain⟨b,o,hAb,hI⟩:=h i _ hr
  refine⟨⟨b,o,none⟩,hAb,?_,fun j v hv=>?_⟩
  ·cases hC:C a with
   | nil =>
    have h2:=hs a (List.mem_of_getElem? ha)
    rw[hC] at h2
    exact absurd h2 (by rw[List.length_nil];omega)
   | cons v vs =>
    have h2:=hs a (List.mem_of_getElem? ha)
    rw[hC] at h2
    exact hm.lt (hI 0 (by rw[←h2];exact Nat.succ_pos _))
  ·have hj:j < sz0:=by have:=(List.getElem?_eq_some_iff.1 hv).1;rw[hs a (List.mem_of_getElem? ha)] at this;exact this
   have h1:=hI j hj
   have h2:=hu i _ j (.v v) hr (by rw[List.getElem?_map,hv];rfl)
   have h3:=hm _ _ _ h1
   rw[Bz h2] at h3
   rw[By,By]
   exact h3
theorem J0 {P:Program}{f:FuncId}{gs:List G}{v:Value}(he:Ent P f)(h:∀I w vs,Mem I w→PW (VRep I) gs vs→Calls P f vs.toArray w fun e w'=>e=.returned v∧Below w.heap.size w w'):FnV P f gs fun g=>g=.v v :=
 ⟨he,fun I w vs hm hp=>(h I w vs hm hp).mono fun _ _ ⟨he,hb⟩=>⟨v,.v v,I,he,rfl,hm.keep fun b _ _ hx=>hb.block b (hm.lt hx),.v v,fun _ _ _ h=>h,fun _ _ _=>rfl,hb⟩⟩
theorem K3 {w w':World}(h:w=w'):Below w.heap.size w w':=h ▸ .refl _ _
theorem Ir {I:Imm}{g:G}{vs:List Value}(h:PW (VRep I) [g] vs):∃x,vs=[x]∧VRep I g x:=by
 obtain⟨x,vs',rfl,hx,hn⟩:=h.uncons
 obtain rfl:=hn.of_nil
 exact⟨x,rfl,hx⟩
theorem Z03 {I:Imm}{g g':G}{vs:List Value}(h:PW (VRep I) [g,g'] vs):∃x y,vs=[x,y]∧VRep I g x∧VRep I g' y:=by
 obtain⟨x,vs',rfl,hx,hn⟩:=h.uncons
 obtain⟨y,rfl,hy⟩:=Ir hn
 exact⟨x,y,rfl,hx,hy⟩
def enE (e:REnt):List G:=[gI e.v,gI e.n,.v (.string e.b)]
def Zf6 (m:Mk):List G:=[gI m.v,gI m.n]
def gI1 (x:Int):List G:=[gI x]
theorem T4 (m:Int):FnV Tryz.prog 54 [gI m] fun g=>g=gI (Ak m) :=
 J0 ⟨_,Tryz.func54,by kernel_rfl,by kernel_rfl⟩ fun I w vs _ hp=>by
  obtain⟨x,rfl,hx⟩:=Ir hp
  rw[Bz hx]
  exact(Mq m w).mono fun e w' ⟨he,hw⟩=>⟨he,K3 hw⟩
theorem Cf (v m:Int):FnV Tryz.prog 72 [gI v,gI m] fun g=>g=gI (Ab v m) :=
 J0 ⟨_,Tryz.func72,by kernel_rfl,by kernel_rfl⟩ fun I w vs _ hp=>by
  obtain⟨x,y,rfl,hx,hy⟩:=Z03 hp
  rw[Bz hx,Bz hy]
  exact(S6 v m w).mono fun e w' ⟨he,hw⟩=>⟨he,K3 hw⟩
theorem Zb8 (l:List Int)(hl:l.length≤1000):FnV Tryz.prog 100 [.sl (l.map gI1)] fun g=>g=gI (Bx l) :=
 J0 ⟨_,Tryz.func100,by kernel_rfl,by kernel_rfl⟩ fun I w vs hm hp=>by
  obtain⟨x,rfl,hx⟩:=Ir hp
  obtain⟨A,c,rfl,hr⟩:=Z4x (C:=Zfd) (sz:=1) hm hx (fun _ _=>rfl) (by decide)
  exact Z4t l A c w (by unfold maxLen;omega) hr
theorem Z9v (l:List Mk)(hl:l.length≤1000):FnV Tryz.prog 122 [.sl (l.map Zf6)] fun g=>g=gI (Lw l) :=
 J0 ⟨_,Tryz.func122,by kernel_rfl,by kernel_rfl⟩ fun I w vs hm hp=>by
  obtain⟨x,rfl,hx⟩:=Ir hp
  obtain⟨A,c,rfl,hr⟩:=Z4x (C:=mkC) (sz:=2) hm hx (fun _ _=>rfl) (by decide)
  exact Z4c l A c w (by unfold maxLen;omega) hr
theorem R8 (l:List REnt)(hl:l.length≤1000000):FnV Tryz.prog 59 [.sl (l.map enE)] fun g=>g=.v (.bool (B3 l)) :=
 J0 ⟨_,Tryz.func59,by kernel_rfl,by kernel_rfl⟩ fun I w vs hm hp=>by
  obtain⟨x,rfl,hx⟩:=Ir hp
  obtain⟨A,c,rfl,hr⟩:=Z4x (C:=Zdh) (sz:=3) hm hx (fun _ _=>rfl) (by decide)
  exact Z1g l A c w (by unfold maxLen;omega) hr
theorem X2 (l:List REnt)(hl:l.length≤1000000):FnV Tryz.prog 21 [.sl (l.map enE)] fun g=>g=.v (.bool (B3 l)) :=
 J0 ⟨_,Tryz.func21,by kernel_rfl,by kernel_rfl⟩ fun I w vs hm hp=>by
  obtain⟨x,rfl,hx⟩:=Ir hp
  obtain⟨A,c,rfl,hr⟩:=Z4x (C:=Zdh) (sz:=3) hm hx (fun _ _=>rfl) (by decide)
  exact(Qo l A c w (by unfold maxLen;omega) hr).mono fun e w' ⟨he,n,hw⟩=>⟨he,by rw[hw];exact Lf (.refl _ _) n⟩
end Go.Proofs.YtihfaocdpmmooaaGreat
