
import Derived.Test.YtihfaocdpmmooaaGreatSxMc
import Derived.Test.YtihfaocdpmmooaaGreatRkM
namespace Go.Proofs.YtihfaocdpmmooaaGreat
open Go.RowKit
theorem Bq {f:FuncId}{fn:Func}{c:Code}{e d:List G}{rs:List R}{own0:Os}{n0:Nat}{a:List Nat}{Q:G→List R→Prop}(hf:Tryz.prog.funcs[f]?=some fn)(j:Zci rs e own0 n0 d a)(h:sxC Tryz.prog tab c (Np 0 d) own0 n0 (Z29 tab fn a Q))(b:(fn.name=="runtime.NumGoroutine")=false:=by kernel_rfl) (g:fn.body=some c:=by exact rfl) (i:d.length≤fn.ntmps:=by exact da (by kernel_rfl)) (k:Gs tab fn.ntmps c=true:=by kernel_rfl):FnO Tryz.prog f e rs Q :=
 Zs (Zad Zl3) (by kernel_rfl) hf b g i k j h
theorem Tv {α:Type}{I:Imm}{w:World}{l:List α}{C:α→List Value}{sz:Nat}{x:Value}(r:Mem I w)(h:VRep I (.sl (l.map fun a=>(C a).map G.v)) x)(f:∀a∈l,(C a).length=sz)(y:0 < sz):∃A c,x=.slice A l.length c∧Rd w w.heap.size sz C A l:=by
 generalize p:(l.map fun a=>(C a).map G.v)=L at h;cases h with
 | sl _ A c sz0 u hc hA hz h hu =>
  have e:L.length=l.length:=by rw[←p,aa]
  refine⟨A,c,by rw[e],fun i a ha=>?_⟩;have hr:L[i]?=some ((C a).map G.v):=by rw[←p,aj,ha];rfl
  have k:sz0=sz:=by have g:=hz _ (ae hr);have d:=f a (ae ha);rw[aa] at g;omega
  subst k;obtain⟨b,o,m,q⟩:=h i _ hr;refine⟨⟨b,o,none⟩,m,?_,fun j v s=>?_⟩
  ·cases hC:C a with
   | nil =>
    have d:=f a (ae ha);rw[hC] at d;exact de d (by rw[List.length_nil];omega)
   | cons v vs =>
    have d:=f a (ae ha);rw[hC] at d;exact r.lt (q 0 (by rw[←d];exact Nat.succ_pos _))
  ·have t:j < sz0:=by have:=(ac.1 s).1;rw[f a (ae ha)] at this;exact this
   have g:=q j t;have d:=hu i _ j (.v v) hr (by rw[aj,s];rfl);have n:=r _ _ _ g;rw[Cc d] at n;rw[Cp,Cp];exact n
theorem Fu {P:Program}{f:FuncId}{d:List G}{v:Value}(c:Ent P f)(h:∀I w vs,Mem I w→PW (VRep I) d vs→Calls P f vs.toArray w fun e w'=>e=.returned v∧Below w.heap.size w w'):FnV P f d fun g=>g=.v v :=
 ⟨c,fun I w vs a i=>(h I w vs a i).mono fun _ _ ⟨c,hb⟩=>⟨v,.v v,I,c,rfl,a.keep fun b _ _ j=>hb.block b (a.lt j),.v v,fun _ _ _ h=>h,fun _ _ _=>rfl,hb⟩⟩
theorem Gf {w w':World}(h:w=w'):Below w.heap.size w w':=h ▸ .refl _ _
theorem H8 {I:Imm}{g:G}{vs:List Value}(h:PW (VRep I) [g] vs):∃x,vs=[x]∧VRep I g x:=by obtain⟨x,b,rfl,c,a⟩:=h.uncons;obtain rfl:=a.of_nil;exact⟨x,rfl,c⟩
theorem Pm {I:Imm}{g a:G}{vs:List Value}(h:PW (VRep I) [g,a] vs):∃x y,vs=[x,y]∧VRep I g x∧VRep I a y:=by obtain⟨x,c,rfl,d,b⟩:=h.uncons;obtain⟨y,rfl,hy⟩:=H8 b;exact⟨x,y,rfl,d,hy⟩
def enE (e:REnt):List G:=[gI e.v,gI e.n,.v (.string e.b)]
def Zct (m:Mk):List G:=[gI m.v,gI m.n]
def gI1 (x:Int):List G:=[gI x]
theorem Xq (m:Int):FnV Tryz.prog 54 [gI m] fun g=>g=gI (Ag m) :=
 Fu ⟨_,Tryz.func54,by kernel_rfl,by kernel_rfl⟩ fun I w vs _ a=>by obtain⟨x,rfl,b⟩:=H8 a;rw[Cc b];exact(Ol m w).mono fun e w' ⟨c,hw⟩=>⟨c,Gf hw⟩
theorem Uc (m:Int):FnV Tryz.prog 18 [gI m] fun g=>g=gI (Ag m) :=
 Fu ⟨_,Tryz.func18,by kernel_rfl,by kernel_rfl⟩ fun I w vs _ a=>by obtain⟨x,rfl,b⟩:=H8 a;rw[Cc b];exact(Jm m w).mono fun e w' ⟨c,hw⟩=>⟨c,Gf hw⟩
theorem Df (v m:Int):FnV Tryz.prog 72 [gI v,gI m] fun g=>g=gI (A8 v m) :=
 Fu ⟨_,Tryz.func72,by kernel_rfl,by kernel_rfl⟩ fun I w vs _ a=>by obtain⟨x,y,rfl,b,hy⟩:=Pm a;rw[Cc b,Cc hy];exact(T4 v m w).mono fun e w' ⟨c,hw⟩=>⟨c,Gf hw⟩
theorem Kz (v m:Int):FnV Tryz.prog 108 [gI v,gI m] fun g=>g=gI (A8 v m) :=
 Fu ⟨_,Tryz.func108,by kernel_rfl,by kernel_rfl⟩ fun I w vs _ a=>by obtain⟨x,y,rfl,b,hy⟩:=Pm a;rw[Cc b,Cc hy];exact(C7 v m w).mono fun e w' ⟨c,hw⟩=>⟨c,Gf hw⟩
theorem Zfn (l:List Int)(e:l.length≤1000):FnV Tryz.prog 100 [.sl (l.map gI1)] fun g=>g=gI (Bi l) :=
 Fu ⟨_,Tryz.func100,by kernel_rfl,by kernel_rfl⟩ fun I w vs b a=>by obtain⟨x,rfl,d⟩:=H8 a;obtain⟨A,c,rfl,hr⟩:=Tv (C:=Zgn) (sz:=1) b d (fun _ _=>rfl) (by decide);exact Z91 l A c w (by unfold maxLen;omega) hr
theorem Z49 (l:List Int)(h:l.length≤1000):FnV Tryz.prog 138 [.sl (l.map gI1)] fun g=>g=gI (Bi l) :=
 Fu ⟨_,Tryz.func138,by kernel_rfl,by kernel_rfl⟩ fun I w vs d a=>by obtain⟨x,rfl,b⟩:=H8 a;obtain⟨A,c,rfl,hr⟩:=Tv (C:=Zgn) (sz:=1) d b (fun _ _=>rfl) (by decide);exact(Up l A c w (by unfold maxLen;omega) hr).mono fun e w' ⟨f,hw⟩=>⟨f,Gf hw⟩
theorem Zh0 (l:List Mk)(e:l.length≤1000):FnV Tryz.prog 122 [.sl (l.map Zct)] fun g=>g=gI (Gb l) :=
 Fu ⟨_,Tryz.func122,by kernel_rfl,by kernel_rfl⟩ fun I w vs b a=>by obtain⟨x,rfl,d⟩:=H8 a;obtain⟨A,c,rfl,hr⟩:=Tv (C:=mkC) (sz:=2) b d (fun _ _=>rfl) (by decide);exact Z8x l A c w (by unfold maxLen;omega) hr
theorem Z19 (l:List Mk)(e:l.length≤1000):FnV Tryz.prog 137 [.sl (l.map Zct)] fun g=>g=gI (Gb l) :=
 Fu ⟨_,Tryz.func137,by kernel_rfl,by kernel_rfl⟩ fun I w vs b a=>by obtain⟨x,rfl,d⟩:=H8 a;obtain⟨A,c,rfl,hr⟩:=Tv (C:=mkC) (sz:=2) b d (fun _ _=>rfl) (by decide);exact Ur l A c w (by unfold maxLen;omega) hr
theorem T8 (l:List REnt)(e:l.length≤1000000):FnV Tryz.prog 59 [.sl (l.map enE)] fun g=>g=.v (.bool (Bo l)) :=
 Fu ⟨_,Tryz.func59,by kernel_rfl,by kernel_rfl⟩ fun I w vs b a=>by obtain⟨x,rfl,d⟩:=H8 a;obtain⟨A,c,rfl,hr⟩:=Tv (C:=Zed) (sz:=3) b d (fun _ _=>rfl) (by decide);exact Z2s l A c w (by unfold maxLen;omega) hr
theorem J3 (l m:List REnt)(k:l.length≤1000000):FnV Tryz.prog 81 [.sl (l.map enE),.sl (m.map enE)] fun g=>g=gI (Cd l m) :=
 Fu ⟨_,Tryz.func81,by kernel_rfl,by kernel_rfl⟩ fun I w vs b d=>by obtain⟨x,y,rfl,f,hy⟩:=Pm d;obtain⟨A,c,rfl,hr⟩:=Tv (C:=Zed) (sz:=3) b f (fun _ _=>rfl) (by decide);obtain⟨i,h,rfl,a⟩:=Tv (C:=Zed) (sz:=3) b hy (fun _ _=>rfl) (by decide);exact(Pr l m A i c h w (by unfold maxLen;omega) hr a).mono fun e w' ⟨j,n,hw⟩=>⟨j,by rw[hw];exact Mh (.refl _ _) n⟩
end Go.Proofs.YtihfaocdpmmooaaGreat
