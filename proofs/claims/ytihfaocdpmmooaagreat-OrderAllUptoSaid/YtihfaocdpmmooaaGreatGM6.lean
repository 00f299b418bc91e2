
import Derived.Test.YtihfaocdpmmooaaGreatGM5
import Derived.Test.YtihfaocdpmmooaaGreatGM4
import Derived.Test.YtihfaocdpmmooaaGreatSxMc
namespace Go.Proofs.YtihfaocdpmmooaaGreat
open Go.RowKit
set_option maxRecDepth 100000
abbrev Zg4 (n:PN):List G:=[gI 0,gI 0,gI n.pmd,gI n.normal,.sl (n.log.map enE),gI n.cmt,gI (if n.lds=true then 1 else 0),.nl,.nl,gI 0,.nl,.nl]
theorem Zdl (l:List GM)(i:Nat)(x:GM)(hx:l[i]?=some x)(hl:x.n.log.length≤1000000):FnO Tryz.prog 31 [.v (.pointer (some ⟨x.b,0,none⟩))] [.fam (l.map mOb)] fun g rs=>g=.oag (Zg4 x.n)∧rs=[.fam (l.map mOb)]:=by
 have hil:=(ac.1 hx).1
 obtain⟨s,n,b,e,r⟩:=x
 dsimp only at hl⊢
 refine Ba Tryz.func31 (C3 _ _) ?_
 refine dg (.take 0 i _ _ rfl (Fi hx) (.lies 2 b _ rfl (Hn ⟨s,n,b,e,r⟩) (.done (.raw 3 2 rfl (.same ((Z3b s n b e).cal fun q rs hq=>?_))))))
 obtain⟨rfl,rfl⟩:=hq
 refine .done ?_
 refine dg (.done (.raw 3 2 rfl (.same ((Z57 s n b e).cal fun q rs hq=>?_))))
 obtain⟨rfl,rfl⟩:=hq
 refine .done ?_
 refine dg (.done (.raw 3 2 rfl (.same ((Zga s n b e hl).cal fun q rs hq=>?_))))
 obtain⟨rfl,rfl⟩:=hq
 refine .frz 4 _ _ _ rfl (.done ?_)
 refine dg (.done (.raw 3 2 rfl (.same ((Z9u s n b e).cal fun q rs hq=>?_))))
 obtain⟨rfl,rfl⟩:=hq
 refine .put 0 i 2 _ _ rfl (by rw[bf,aa];exact hil) rfl (.drop 3 _ rfl (.done ?_))
 refine dj (fun h=>?_) fun h=>?_
 ·refine .inl ⟨[⟨[(0,.fam (((l.map mOb).set i Yf).set i (cl (oSs s n b e))))],[(0,0)],false⟩],.oag [gI 0,gI 0,gI n.pmd,gI n.normal,.sl (n.log.map enE),gI n.cmt,gI 1,.nl,.nl,gI 0,.nl,.nl],⟨⟨⟨_,rfl,rfl,rfl⟩,trivial⟩,rfl,⟨[],rfl⟩,rfl,rfl,⟨by unfold Zg4;rw[db h],?_⟩⟩⟩
  exact congrArg (fun q=>[R.fam q]) (Hf hx)
 ·refine .inl ⟨[⟨[(0,.fam (((l.map mOb).set i Yf).set i (cl (oSs s n b e))))],[(0,0)],false⟩],.oag [gI 0,gI 0,gI n.pmd,gI n.normal,.sl (n.log.map enE),gI n.cmt,gI 0,.nl,.nl,gI 0,.nl,.nl],⟨⟨⟨_,rfl,rfl,rfl⟩,trivial⟩,rfl,⟨[],rfl⟩,rfl,rfl,⟨by unfold Zg4;rw[da (by rw[h];decide)],?_⟩⟩⟩
  exact congrArg (fun q=>[R.fam q]) (Hf hx)
abbrev Zj1 (n:PN):List G:=[gI 0,gI 0,gI n.pmd,gI n.normal,.sl (n.log.map enE),gI n.cmt,gI (if n.lds=true then 1 else 0),.sl [],.sl [],gI 0,.sl [],.sl []]
def Zha:List Sp:=[.i .i64,.i .i64,.i .i64,.s,.i .i64,.i .i64,.s]
theorem Zg7 {r:List G}(h:TyL Zha r):∃s:GSt,r=Z3s s∧s.p.body.size≤Ea r:=by
 obtain⟨a0,r,rfl,-,h⟩:=h.i_inv
 obtain⟨a1,r,rfl,-,h⟩:=h.i_inv
 obtain⟨a2,r,rfl,-,h⟩:=h.i_inv
 obtain⟨a3,r,rfl,-,h⟩:=h.s_inv
 obtain⟨a4,r,rfl,-,h⟩:=h.i_inv
 obtain⟨a5,r,rfl,-,h⟩:=h.i_inv
 obtain⟨a6,r,rfl,-,h⟩:=h.s_inv
 obtain rfl:=h.nil_inv
 exact⟨⟨a0,a1,a2,a3,⟨a4,a5,a6⟩⟩,rfl,by simp only[Ea,Mj];omega⟩
theorem Tu {r:List G}:∀{rows:List (List G)},r∈rows→Ea r≤Kl rows
 | [],h=>by cases h
 | q::rows,h=>by
  simp only[Kl]
  rcases bh.1 h with rfl | h
  ·omega
  ·have:=Tu h;omega
theorem Z6k {g:G}(h:TyL [.sl Zha] [g])(hb:Mj g≤1048576):∃l:List GSt,g=.sl (l.map Z3s)∧∀s∈l,s.p.body.size≤2000000:=by
 obtain⟨rows,r,e,-,hr,h⟩:=h.sl_inv
 obtain rfl:=h.nil_inv
 have e:g=.sl rows:=by simpa using e
 subst e
 obtain⟨l,rfl,hq⟩:=Zbk (f:=Z3s) (Q:=fun s=>s.p.body.size≤Ea (Z3s s)) fun r hr'=>by
  obtain⟨s,rfl,h1⟩:=Zg7 (hr r hr')
  exact⟨s,rfl,h1⟩
 refine⟨l,rfl,fun s hs=>?_⟩
 have h1:=hq s hs
 have h2:=Tu (az.2 ⟨s,hs,rfl⟩:Z3s s∈l.map Z3s)
 simp only[Mj] at hb
 omega
theorem Za9 {g:G}(h:TyL [.i .i64] [g]):∃n:Int,g=gI n:=by
 obtain⟨n,r,e,-,h⟩:=h.i_inv
 obtain rfl:=h.nil_inv
 have e:g=gI n:=by simpa using e
 exact⟨n,e⟩
end Go.Proofs.YtihfaocdpmmooaaGreat
