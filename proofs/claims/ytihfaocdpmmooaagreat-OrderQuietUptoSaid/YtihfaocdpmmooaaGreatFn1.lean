
import Derived.Test.YtihfaocdpmmooaaGreatSxMc
import Derived.Test.YtihfaocdpmmooaaGreatRkM
namespace Go.Proofs.YtihfaocdpmmooaaGreat
open Go.RowKit
theorem B9 {f:FuncId}{fn:Func}{c:Code}{gs gs0:List G}{rs:List R}{own0:Os}{n0:Nat}{roots:List Nat}{Q:G→List R→Prop}(hf:Tryz.prog.funcs[f]?=some fn)(hname:(fn.name=="runtime.NumGoroutine")=false) (hb:fn.body=some c) (hn:gs0.length≤fn.ntmps) (hc:Dw tab fn.ntmps c=true) (ho:Z7w rs gs own0 n0 gs0 roots) (h:sxC Tryz.prog tab c (J0 0 gs0) own0 n0 (Zr tab fn roots Q)):FnO Tryz.prog f gs rs Q :=
 Wi (Y8 Zfk) (by kernel_rfl) hf hname hb hn hc ho h
end Go.Proofs.YtihfaocdpmmooaaGreat
namespace Go.Proofs.YtihfaocdpmmooaaGreat
open Go.RowKit
theorem Z8n {α:Type}{I:Imm}{w:World}{l:List α}{C:α→List Value}{sz:Nat}{x:Value}(hm:Mem I w)(h:VRep I (.sl (l.map fun a=>(C a).map G.v)) x)(hs:∀a∈l,(C a).length=sz)(h0:0 < sz):∃A c,x=.slice A l.length c∧Rd w w.heap.size sz C A l:=by
 generalize hL:(l.map fun a=>(C a).map G.v)=L at h
 cases h with
 | sl _ A c sz0 u hc hA hz h hu =>
  have hlen:L.length=l.length:=by rw[←hL,List.length_map]
  refine⟨A,c,by rw[hlen],fun i a ha=>?_⟩
  have hr:L[i]?=some ((C a).map G.v):=by rw[←hL,List.getElem?_map,ha];rfl
  have hsz:sz0=sz:=by
   have h1:=hz _ (List.mem_of_getElem? hr)
   have h2:=hs a (List.mem_of_getElem? ha)
   rw[List.length_map] at h1
   omega
  subst hsz
  obtain⟨b,o,hAb,hI⟩:=h i _ hr
  refine⟨⟨b,o,none⟩,hAb,?_,fun j v hv=>?_⟩
  ·cases hC:C a with
   | nil =>
    have h2:=hs a (List.mem_of_getElem? ha)
    rw[hC] at h2
    exact absurd h2 (by rw[List.length_nil];omega)
   | cons v vs =>
    have h2:=hs a (List.mem_of_getElem? ha)
    rw[hC] at h2
    exact hm.lt (hI 0 (by rw[←h2];exact Nat.succ_pos _))
  ·have hj:j < sz0:=by have:=(List.getElem?_eq_some_iff.1 hv).1;rw[hs a (List.mem_of_getElem? ha)] at this;exact this
   have h1:=hI j hj
   have h2:=hu i _ j (.v v) hr (by rw[List.getElem?_map,hv];rfl)
   have h3:=hm _ _ _ h1
   rw[Bz h2] at h3
   rw[Bx,Bx]
   exact h3
theorem L1 {P:Program}{f:FuncId}{gs:List G}{v:Value}(he:Ent P f)(h:∀I w vs,Mem I w→PW (VRep I) gs vs→Calls P f vs.toArray w fun e w'=>e=.returned v∧Below w.heap.size w w'):FnV P f gs fun g=>g=.v v :=
 ⟨he,fun I w vs hm hp=>(h I w vs hm hp).mono fun _ _ ⟨he,hb⟩=>⟨v,.v v,I,he,rfl,hm.keep fun b _ _ hx=>hb.block b (hm.lt hx),.v v,fun _ _ _ h=>h,fun _ _ _=>rfl,hb⟩⟩
theorem K7 {w w':World}(h:w=w'):Below w.heap.size w w':=h ▸ .refl _ _
theorem La {I:Imm}{g:G}{vs:List Value}(h:PW (VRep I) [g] vs):∃x,vs=[x]∧VRep I g x:=by
 obtain⟨x,vs',rfl,hx,hn⟩:=h.uncons
 obtain rfl:=hn.of_nil
 exact⟨x,rfl,hx⟩
theorem Xk {I:Imm}{g g':G}{vs:List Value}(h:PW (VRep I) [g,g'] vs):∃x y,vs=[x,y]∧VRep I g x∧VRep I g' y:=by
 obtain⟨x,vs',rfl,hx,hn⟩:=h.uncons
 obtain⟨y,rfl,hy⟩:=La hn
 exact⟨x,y,rfl,hx,hy⟩
def enE (e:REnt):List G:=[gI e.v,gI e.n,.v (.string e.b)]
def Zfp (m:Mk):List G:=[gI m.v,gI m.n]
def gI1 (x:Int):List G:=[gI x]
theorem Us (m:Int):FnV Tryz.prog 54 [gI m] fun g=>g=gI (Ak m) :=
 L1 ⟨_,Tryz.func54,by kernel_rfl,by kernel_rfl⟩ fun I w vs _ hp=>by
  obtain⟨x,rfl,hx⟩:=La hp
  rw[Bz hx]
  exact(Mq m w).mono fun e w' ⟨he,hw⟩=>⟨he,K7 hw⟩
theorem Ch (v m:Int):FnV Tryz.prog 72 [gI v,gI m] fun g=>g=gI (Ab v m) :=
 L1 ⟨_,Tryz.func72,by kernel_rfl,by kernel_rfl⟩ fun I w vs _ hp=>by
  obtain⟨x,y,rfl,hx,hy⟩:=Xk hp
  rw[Bz hx,Bz hy]
  exact(R8 v m w).mono fun e w' ⟨he,hw⟩=>⟨he,K7 hw⟩
theorem Zc0 (l:List Int)(hl:l.length≤1000):FnV Tryz.prog 100 [.sl (l.map gI1)] fun g=>g=gI (Bw l) :=
 L1 ⟨_,Tryz.func100,by kernel_rfl,by kernel_rfl⟩ fun I w vs hm hp=>by
  obtain⟨x,rfl,hx⟩:=La hp
  obtain⟨A,c,rfl,hr⟩:=Z8n (C:=Zfr) (sz:=1) hm hx (fun _ _=>rfl) (by decide)
  exact Z3n l A c w (by unfold maxLen;omega) hr
theorem Zbr (l:List Mk)(hl:l.length≤1000):FnV Tryz.prog 122 [.sl (l.map Zfp)] fun g=>g=gI (M1 l) :=
 L1 ⟨_,Tryz.func122,by kernel_rfl,by kernel_rfl⟩ fun I w vs hm hp=>by
  obtain⟨x,rfl,hx⟩:=La hp
  obtain⟨A,c,rfl,hr⟩:=Z8n (C:=mkC) (sz:=2) hm hx (fun _ _=>rfl) (by decide)
  exact Z45 l A c w (by unfold maxLen;omega) hr
theorem Rc (l:List REnt)(hl:l.length≤1000000):FnV Tryz.prog 59 [.sl (l.map enE)] fun g=>g=.v (.bool (Bf l)) :=
 L1 ⟨_,Tryz.func59,by kernel_rfl,by kernel_rfl⟩ fun I w vs hm hp=>by
  obtain⟨x,rfl,hx⟩:=La hp
  obtain⟨A,c,rfl,hr⟩:=Z8n (C:=Zg1) (sz:=3) hm hx (fun _ _=>rfl) (by decide)
  exact Xy l A c w (by unfold maxLen;omega) hr
end Go.Proofs.YtihfaocdpmmooaaGreat
