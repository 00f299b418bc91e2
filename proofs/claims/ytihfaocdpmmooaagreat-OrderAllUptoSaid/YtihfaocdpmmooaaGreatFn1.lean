
import Derived.Test.YtihfaocdpmmooaaGreatSxMc
import Derived.Test.YtihfaocdpmmooaaGreatRkM
namespace Go.Proofs.YtihfaocdpmmooaaGreat
open Go.RowKit
theorem Ba {f:FuncId}{fn:Func}{c:Code}{gs gs0:List G}{rs:List R}{own0:Os}{n0:Nat}{roots:List Nat}{Q:G→List R→Prop}(hf:Tryz.prog.funcs[f]?=some fn)(ho:Zau rs gs own0 n0 gs0 roots)(h:sxC Tryz.prog tab c (Mh 0 gs0) own0 n0 (Z7 tab fn roots Q))(hname:(fn.name=="runtime.NumGoroutine")=false:=by kernel_rfl) (hb:fn.body=some c:=by exact rfl) (hn:gs0.length≤fn.ntmps:=by exact c9 (by kernel_rfl)) (hc:G7 tab fn.ntmps c=true:=by kernel_rfl):FnO Tryz.prog f gs rs Q :=
 Ww (Z79 Zi1) (by kernel_rfl) hf hname hb hn hc ho h
theorem Z1d {α:Type}{I:Imm}{w:World}{l:List α}{C:α→List Value}{sz:Nat}{x:Value}(hm:Mem I w)(h:VRep I (.sl (l.map fun a=>(C a).map G.v)) x)(hs:∀a∈l,(C a).length=sz)(h0:0 < sz):∃A c,x=.slice A l.length c∧Rd w w.heap.size sz C A l:=by
 generalize hL:(l.map fun a=>(C a).map G.v)=L at h
 cases h with
 | sl _ A c sz0 u hc hA hz h hu =>
  have hlen:L.length=l.length:=by rw[←hL,aa]
  refine⟨A,c,by rw[hlen],fun i a ha=>?_⟩
  have hr:L[i]?=some ((C a).map G.v):=by rw[←hL,aj,ha];rfl
  have hsz:sz0=sz:=by
   have h1:=hz _ (ae hr)
   have h2:=hs a (ae ha)
   rw[aa] at h1
   omega
  subst hsz
  obtain⟨b,o,hAb,hI⟩:=h i _ hr
  refine⟨⟨b,o,none⟩,hAb,?_,fun j v hv=>?_⟩
  ·cases hC:C a with
   | nil =>
    have h2:=hs a (ae ha)
    rw[hC] at h2
    exact dc h2 (by rw[List.length_nil];omega)
   | cons v vs =>
    have h2:=hs a (ae ha)
    rw[hC] at h2
    exact hm.lt (hI 0 (by rw[←h2];exact Nat.succ_pos _))
  ·have hj:j < sz0:=by have:=(ac.1 hv).1;rw[hs a (ae ha)] at this;exact this
   have h1:=hI j hj
   have h2:=hu i _ j (.v v) hr (by rw[aj,hv];rfl)
   have h3:=hm _ _ _ h1
   rw[C2 h2] at h3
   rw[C7,C7]
   exact h3
theorem Fy {P:Program}{f:FuncId}{gs:List G}{v:Value}(he:Ent P f)(h:∀I w vs,Mem I w→PW (VRep I) gs vs→Calls P f vs.toArray w fun e w'=>e=.returned v∧Below w.heap.size w w'):FnV P f gs fun g=>g=.v v :=
 ⟨he,fun I w vs hm hp=>(h I w vs hm hp).mono fun _ _ ⟨he,hb⟩=>⟨v,.v v,I,he,rfl,hm.keep fun b _ _ hx=>hb.block b (hm.lt hx),.v v,fun _ _ _ h=>h,fun _ _ _=>rfl,hb⟩⟩
theorem Fv {w w':World}(h:w=w'):Below w.heap.size w w':=h ▸ .refl _ _
theorem Gv {I:Imm}{g:G}{vs:List Value}(h:PW (VRep I) [g] vs):∃x,vs=[x]∧VRep I g x:=by
 obtain⟨x,vs',rfl,hx,hn⟩:=h.uncons
 obtain rfl:=hn.of_nil
 exact⟨x,rfl,hx⟩
theorem Sb {I:Imm}{g g':G}{vs:List Value}(h:PW (VRep I) [g,g'] vs):∃x y,vs=[x,y]∧VRep I g x∧VRep I g' y:=by
 obtain⟨x,vs',rfl,hx,hn⟩:=h.uncons
 obtain⟨y,rfl,hy⟩:=Gv hn
 exact⟨x,y,rfl,hx,hy⟩
def enE (e:REnt):List G:=[gI e.v,gI e.n,.v (.string e.b)]
def Zbm (m:Mk):List G:=[gI m.v,gI m.n]
def gI1 (x:Int):List G:=[gI x]
theorem W1 (m:Int):FnV Tryz.prog 54 [gI m] fun g=>g=gI (Ag m) :=
 Fy ⟨_,Tryz.func54,by kernel_rfl,by kernel_rfl⟩ fun I w vs _ hp=>by
  obtain⟨x,rfl,hx⟩:=Gv hp
  rw[C2 hx]
  exact(Mx m w).mono fun e w' ⟨he,hw⟩=>⟨he,Fv hw⟩
theorem Sq (m:Int):FnV Tryz.prog 18 [gI m] fun g=>g=gI (Ag m) :=
 Fy ⟨_,Tryz.func18,by kernel_rfl,by kernel_rfl⟩ fun I w vs _ hp=>by
  obtain⟨x,rfl,hx⟩:=Gv hp
  rw[C2 hx]
  exact(Iu m w).mono fun e w' ⟨he,hw⟩=>⟨he,Fv hw⟩
theorem Ct (v m:Int):FnV Tryz.prog 72 [gI v,gI m] fun g=>g=gI (A9 v m) :=
 Fy ⟨_,Tryz.func72,by kernel_rfl,by kernel_rfl⟩ fun I w vs _ hp=>by
  obtain⟨x,y,rfl,hx,hy⟩:=Sb hp
  rw[C2 hx,C2 hy]
  exact(S3 v m w).mono fun e w' ⟨he,hw⟩=>⟨he,Fv hw⟩
theorem Kc (v m:Int):FnV Tryz.prog 108 [gI v,gI m] fun g=>g=gI (A9 v m) :=
 Fy ⟨_,Tryz.func108,by kernel_rfl,by kernel_rfl⟩ fun I w vs _ hp=>by
  obtain⟨x,y,rfl,hx,hy⟩:=Sb hp
  rw[C2 hx,C2 hy]
  exact(C0 v m w).mono fun e w' ⟨he,hw⟩=>⟨he,Fv hw⟩
theorem Zea (l:List Int)(hl:l.length≤1000):FnV Tryz.prog 100 [.sl (l.map gI1)] fun g=>g=gI (Bb l) :=
 Fy ⟨_,Tryz.func100,by kernel_rfl,by kernel_rfl⟩ fun I w vs hm hp=>by
  obtain⟨x,rfl,hx⟩:=Gv hp
  obtain⟨A,c,rfl,hr⟩:=Z1d (C:=Zf7) (sz:=1) hm hx (fun _ _=>rfl) (by decide)
  exact Z73 l A c w (by unfold maxLen;omega) hr
theorem Z1n (l:List Int)(hl:l.length≤1000):FnV Tryz.prog 138 [.sl (l.map gI1)] fun g=>g=gI (Bb l) :=
 Fy ⟨_,Tryz.func138,by kernel_rfl,by kernel_rfl⟩ fun I w vs hm hp=>by
  obtain⟨x,rfl,hx⟩:=Gv hp
  obtain⟨A,c,rfl,hr⟩:=Z1d (C:=Zf7) (sz:=1) hm hx (fun _ _=>rfl) (by decide)
  exact(Sa l A c w (by unfold maxLen;omega) hr).mono fun e w' ⟨he,hw⟩=>⟨he,Fv hw⟩
theorem Zei (l:List Mk)(hl:l.length≤1000):FnV Tryz.prog 122 [.sl (l.map Zbm)] fun g=>g=gI (Ga l) :=
 Fy ⟨_,Tryz.func122,by kernel_rfl,by kernel_rfl⟩ fun I w vs hm hp=>by
  obtain⟨x,rfl,hx⟩:=Gv hp
  obtain⟨A,c,rfl,hr⟩:=Z1d (C:=mkC) (sz:=2) hm hx (fun _ _=>rfl) (by decide)
  exact Z4e l A c w (by unfold maxLen;omega) hr
theorem Zf (l:List Mk)(hl:l.length≤1000):FnV Tryz.prog 137 [.sl (l.map Zbm)] fun g=>g=gI (Ga l) :=
 Fy ⟨_,Tryz.func137,by kernel_rfl,by kernel_rfl⟩ fun I w vs hm hp=>by
  obtain⟨x,rfl,hx⟩:=Gv hp
  obtain⟨A,c,rfl,hr⟩:=Z1d (C:=mkC) (sz:=2) hm hx (fun _ _=>rfl) (by decide)
  exact S1 l A c w (by unfold maxLen;omega) hr
theorem T8 (l:List REnt)(hl:l.length≤1000000):FnV Tryz.prog 59 [.sl (l.map enE)] fun g=>g=.v (.bool (Bo l)) :=
 Fy ⟨_,Tryz.func59,by kernel_rfl,by kernel_rfl⟩ fun I w vs hm hp=>by
  obtain⟨x,rfl,hx⟩:=Gv hp
  obtain⟨A,c,rfl,hr⟩:=Z1d (C:=Zi8) (sz:=3) hm hx (fun _ _=>rfl) (by decide)
  exact Z0a l A c w (by unfold maxLen;omega) hr
end Go.Proofs.YtihfaocdpmmooaaGreat
