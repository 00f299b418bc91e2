
import Derived.Test.YtihfaocdpmmooaaGreatOM1
namespace Go.Proofs.YtihfaocdpmmooaaGreat
open Go.RowKit
set_option maxRecDepth 100000
theorem Z7a {n:Nat}(h:n < 2 ^ 64):IntKind.wrap .u64 (n:Int)=n:=by
 simp only[IntKind.wrap,IntKind.bits,IntKind.signed,Bool.false_and,if_false,Bool.false_eq_true]
 omega
def Z70 (m hf fm:Nat):List (List G):=(be8 (m:Int)).map gBy++[[G.v (.int .u8 ((hf:Int) % 256))],[G.v (.int .u8 (((fm:Int).fdiv (2 ^ min (Int.toNat 24) 64)) % 256))],[G.v (.int .u8 (((fm:Int).fdiv (2 ^ min (Int.toNat 16) 64)) % 256))],[G.v (.int .u8 (((fm:Int).fdiv (2 ^ min (Int.toNat 8) 64)) % 256))],[G.v (.int .u8 ((fm:Int) % 256))]]++List.replicate 43 [G.v (.int .u8 0)]++(be8 (m:Int)).map gBy
theorem Z3q (m fm:Nat){hf:Nat}(hh:hf < 2):Z70 m hf fm=(Aj m hf fm).map gBy:=by
 have e0:[G.v (.int .u8 ((hf:Int) % 256))]=gBy (UInt8.ofNat hf):=by
  unfold gBy
  have:(UInt8.ofNat hf).toNat=hf:=by rw[UInt8.toNat_ofNat'];omega
  rw[this,Int.emod_eq_of_lt (by omega) (by omega)]
 have eb:∀n:Int,[G.v (.int .u8 (n % 256))]=gBy (byI n):=fun n=>by unfold gBy;rw[Bw]
 unfold Z70 Aj
 rw[E2 _ 16777216 (Int.toNat 24) 24 rfl rfl (by decide),E2 _ 65536 (Int.toNat 16) 16 rfl rfl (by decide),E2 _ 256 (Int.toNat 8) 8 rfl rfl (by decide),e0,eb,eb,eb,eb]
 simp only[List.map_append,List.map_cons,List.map_replicate,List.append_assoc,List.cons_append,List.nil_append]
 rfl
set_option maxHeartbeats 8000000 in
theorem Z4y (l:LD)(e:Nat)(h:WA l)(hd:l.dead=false){hf:Nat}(hh:hf < 2)(fm:Nat)(_hfm:fm≤35136):FnO Tryz.prog 144 [.ptr 0 0,gI hf,gI fm] (cL l e) fun g rs=>g=gI (D5 l hf fm)∧rs=cL (Ah l hf fm) e:=by
 refine Bm Tryz.func144 (by kernel_rfl) rfl (Nat.le_of_ble_eq_true (by kernel_rfl)) (by kernel_rfl) (A8 (O:=oLs l e) (n0:=4) rfl) ?_
 have hS:=Z4a l.d h.d h.armed (by have:=h.wait;omega)
 by_cases hs:Cz l.d=0
 ·rw[hs] at hS
  refine EvCall.lend (hS.cal fun q rs hq=>?_)
  obtain⟨rfl,rfl⟩:=hq
  refine EvCall.lend ((G7 l _ hd).cal fun q rs hq=>?_)
  obtain⟨rfl,rfl⟩:=hq
  refine EvIf.bne (fun h=>absurd rfl h) fun _=>?_
  have eM:IntKind.wrap .u64 ((l.mark:Int)+1)=((l.mark+1:Nat):Int):=by
   have:=h.mark
   rw[show(l.mark:Int)+1=((l.mark+1:Nat):Int) by omega]
   exact Z7a (by omega)
  have hlay:=Zc8 (l.mark+1)
  have eT:(IntKind.wrap .u64 ((l.mark:Int)+1)).tmod 2=(((l.mark+1) % 2:Nat):Int):=by rw[eM];rfl
  have eN:0+(IntKind.wrap .u64 ((l.mark:Int)+1)).tmod 2=(((l.mark+1) % 2:Nat):Int):=by rw[eT];omega
  obtain⟨s1,s2,s3⟩:=Gx l.d
  have hW:=I5 (Aa l.d) (Ja h.d) (by have:=h.armed;omega) (by have:=h.wait;omega) (((l.mark+1) % 2:Nat):Int) (Aj (l.mark+1) hf fm)
  rw[←Z3q _ _ hh] at hW
  have hW:FnO Tryz.prog 19 [.ptr 0 0,gI (0+(IntKind.wrap .u64 ((l.mark:Int)+1)).tmod 2),.sl (Z70 (l.mark+1) hf fm)] (cD (Aa l.d)) fun g rs=>g=gI (Bg (Aa l.d) (((l.mark+1) % 2:Nat):Int) (Aj (l.mark+1) hf fm))∧rs=cD (A9 (Aa l.d) (((l.mark+1) % 2:Nat):Int) (Aj (l.mark+1) hf fm)):=by rw[eN];exact hW
  have hS2:=Z4a (A9 (Aa l.d) (((l.mark+1) % 2:Nat):Int) (Aj (l.mark+1) hf fm)) (Fn (Ja h.d) _ _) (by have:=h.armed;have:=(Do (Aa l.d) (((l.mark+1) % 2:Nat):Int) (Aj (l.mark+1) hf fm)).2.2;omega) (by have:=h.wait;have:=(Do (Aa l.d) (((l.mark+1) % 2:Nat):Int) (Aj (l.mark+1) hf fm)).2.1;omega)
  have eB:¬Bg (Aa l.d) (((l.mark+1) % 2:Nat):Int) (Aj (l.mark+1) hf fm)=0→Ah l hf fm=Ge l (A9 (Aa l.d) (((l.mark+1) % 2:Nat):Int) (Aj (l.mark+1) hf fm)):=fun hw=>by
   unfold Ah
   rw[if_neg (fun h=>h hs),if_pos hw]
  have eC:Bg (Aa l.d) (((l.mark+1) % 2:Nat):Int) (Aj (l.mark+1) hf fm)=0→¬Cz (A9 (Aa l.d) (((l.mark+1) % 2:Nat):Int) (Aj (l.mark+1) hf fm))=0→Ah l hf fm=Ge l (Aa (A9 (Aa l.d) (((l.mark+1) % 2:Nat):Int) (Aj (l.mark+1) hf fm))):=fun hw h2=>by
   unfold Ah
   rw[if_neg (fun h=>h hs),if_neg (fun h=>h hw),if_pos h2]
  have eS:Bg (Aa l.d) (((l.mark+1) % 2:Nat):Int) (Aj (l.mark+1) hf fm)=0→Cz (A9 (Aa l.d) (((l.mark+1) % 2:Nat):Int) (Aj (l.mark+1) hf fm))=0→Ah l hf fm={l with mark:=l.mark+1,half:=hf,firm:=fm,d:=Aa (A9 (Aa l.d) (((l.mark+1) % 2:Nat):Int) (Aj (l.mark+1) hf fm))}:=fun hw h2=>by
   unfold Ah
   rw[if_neg (fun h=>h hs),if_neg (fun h=>h hw),if_neg (fun h=>h h2)]
  have eD:Bg (Aa l.d) (((l.mark+1) % 2:Nat):Int) (Aj (l.mark+1) hf fm)=0→Cz (A9 (Aa l.d) (((l.mark+1) % 2:Nat):Int) (Aj (l.mark+1) hf fm))=0→some (R.blk [.ptr 1 0,gI 0,gI 549,.v (.int .u64 (IntKind.wrap .u64 ((l.mark:Int)+1))),gI hf,gI fm,.sl (l.b.map gBy),.osl 2,.v (.bool l.dead)] tLg)=some (.blk (Bc (Ah l hf fm) (.ptr 1 0) (.osl 2)) tLg):=fun hw h2=>by rw[eS hw h2,eM]
  have eDd:Bg (Aa l.d) (((l.mark+1) % 2:Nat):Int) (Aj (l.mark+1) hf fm)=0→Cz (A9 (Aa l.d) (((l.mark+1) % 2:Nat):Int) (Aj (l.mark+1) hf fm))=0→some (R.abs (cl (oDs (Aa (A9 (Aa l.d) (((l.mark+1) % 2:Nat):Int) (Aj (l.mark+1) hf fm))))))=some (.abs (cl (oDs (Ah l hf fm).d))):=fun hw h2=>by rw[eS hw h2]
  have eDa:Bg (Aa l.d) (((l.mark+1) % 2:Nat):Int) (Aj (l.mark+1) hf fm)=0→Cz (A9 (Aa l.d) (((l.mark+1) % 2:Nat):Int) (Aj (l.mark+1) hf fm))=0→some (R.slc (l.all.map gSt) 9 1)=some (.slc ((Ah l hf fm).all.map gSt) 9 1):=fun hw h2=>by rw[eS hw h2]
  have eDe:Bg (Aa l.d) (((l.mark+1) % 2:Nat):Int) (Aj (l.mark+1) hf fm)=0→Cz (A9 (Aa l.d) (((l.mark+1) % 2:Nat):Int) (Aj (l.mark+1) hf fm))=0→D5 l hf fm=0:=fun hw h2=>by unfold D5;rw[eS hw h2];dsimp only;rw[hd];rfl
  refine((show FnV Tryz.prog 152 [.v (.int .u64 (IntKind.wrap .u64 ((l.mark:Int)+1)))] _ from by rw[eM];exact hlay).cal fun q hq=>?_)
  subst hq
  refine⟨?_,?_⟩
  all_goals
   refine⟨⟨rfl,fun g hg=>Zde hg⟩,?_⟩
   refine⟨by decide,?_⟩
   refine⟨⟨(show(8:Nat) < 64 from by decide),rfl⟩,?_⟩
   refine⟨rfl,?_⟩
   refine⟨⟨by decide,by decide,by decide⟩,?_⟩
   refine⟨by decide,by decide,by decide,?_⟩
   refine⟨?_,?_⟩
  ·refine⟨rfl,⟨by decide,by decide,by decide⟩,⟨rfl,?_⟩⟩
   refine⟨by decide,?_⟩
   refine⟨by rw[eT];omega,?_⟩
   refine⟨by rw[eT];omega,?_⟩
   refine⟨rfl,?_⟩
   refine hW.cal fun q rs hq=>?_
   obtain⟨rfl,rfl⟩:=hq
   by_cases hw:Bg (Aa l.d) (((l.mark+1) % 2:Nat):Int) (Aj (l.mark+1) hf fm)=0
   ·rw[hw]
    refine EvCall.lend ((G7 l _ hd).cal fun q rs hq=>?_)
    obtain⟨rfl,rfl⟩:=hq
    refine EvIf.bne (fun h=>absurd rfl h) fun _=>?_
    refine EvCall.lend (hS2.cal fun q rs hq=>?_)
    obtain⟨rfl,rfl⟩:=hq
    by_cases hs2:Cz (A9 (Aa l.d) (((l.mark+1) % 2:Nat):Int) (Aj (l.mark+1) hf fm))=0
    ·rw[hs2]
     refine EvCall.lend ((G7 l _ hd).cal fun q rs hq=>?_)
     obtain⟨rfl,rfl⟩:=hq
     refine EvIf.bne (fun h=>absurd rfl h) fun _=>?_
     exact .inl (A1 (oLs (Ah l hf fm) e) [] ⟨⟨rfl,rfl,eD hw hs2⟩,⟨rfl,rfl,eDd hw hs2⟩,⟨rfl,rfl,eDa hw hs2⟩,⟨rfl,rfl,rfl⟩,trivial⟩ rfl ⟨_,rfl⟩ rfl rfl ⟨by rw[eDe hw hs2];rfl,rfl⟩)
    ·refine EvCall.lend ((G5 l _ hs2).cal fun q rs hq=>?_)
     obtain⟨rfl,rfl⟩:=hq
     refine EvIf.bne (fun _=>?_) fun h=>absurd h (by decide)
     exact .inl (A1 (oLs (Ge l (Aa (A9 (Aa l.d) (((l.mark+1) % 2:Nat):Int) (Aj (l.mark+1) hf fm)))) e) [] ⟨⟨rfl,rfl,rfl⟩,⟨rfl,rfl,rfl⟩,⟨rfl,rfl,rfl⟩,⟨rfl,rfl,rfl⟩,trivial⟩ rfl ⟨_,rfl⟩ rfl rfl ⟨by unfold D5;rw[eC hw hs2];rfl,by rw[eC hw hs2]⟩)
   ·refine EvCall.lend ((G5 l _ hw).cal fun q rs hq=>?_)
    obtain⟨rfl,rfl⟩:=hq
    refine EvIf.bne (fun _=>?_) fun h=>absurd h (by decide)
    exact .inl (A1 (oLs (Ge l (A9 (Aa l.d) (((l.mark+1) % 2:Nat):Int) (Aj (l.mark+1) hf fm))) e) [] ⟨⟨rfl,rfl,rfl⟩,⟨rfl,rfl,rfl⟩,⟨rfl,rfl,rfl⟩,⟨rfl,rfl,rfl⟩,trivial⟩ rfl ⟨_,rfl⟩ rfl rfl ⟨by unfold D5;rw[eB hw];rfl,by rw[eB hw]⟩)
  ·refine⟨rfl,⟨rfl,⟨by decide,by decide,by decide⟩,?_⟩⟩
   refine⟨by decide,?_⟩
   refine⟨by rw[eT];omega,?_⟩
   refine⟨by rw[eT];omega,?_⟩
   refine⟨rfl,?_⟩
   refine hW.cal fun q rs hq=>?_
   obtain⟨rfl,rfl⟩:=hq
   by_cases hw:Bg (Aa l.d) (((l.mark+1) % 2:Nat):Int) (Aj (l.mark+1) hf fm)=0
   ·rw[hw]
    refine EvCall.lend ((G7 l _ hd).cal fun q rs hq=>?_)
    obtain⟨rfl,rfl⟩:=hq
    refine EvIf.bne (fun h=>absurd rfl h) fun _=>?_
    refine EvCall.lend (hS2.cal fun q rs hq=>?_)
    obtain⟨rfl,rfl⟩:=hq
    by_cases hs2:Cz (A9 (Aa l.d) (((l.mark+1) % 2:Nat):Int) (Aj (l.mark+1) hf fm))=0
    ·rw[hs2]
     refine EvCall.lend ((G7 l _ hd).cal fun q rs hq=>?_)
     obtain⟨rfl,rfl⟩:=hq
     refine EvIf.bne (fun h=>absurd rfl h) fun _=>?_
     exact .inl (A1 (oLs (Ah l hf fm) e) [] ⟨⟨rfl,rfl,eD hw hs2⟩,⟨rfl,rfl,eDd hw hs2⟩,⟨rfl,rfl,eDa hw hs2⟩,⟨rfl,rfl,rfl⟩,trivial⟩ rfl ⟨_,rfl⟩ rfl rfl ⟨by rw[eDe hw hs2];rfl,rfl⟩)
    ·refine EvCall.lend ((G5 l _ hs2).cal fun q rs hq=>?_)
     obtain⟨rfl,rfl⟩:=hq
     refine EvIf.bne (fun _=>?_) fun h=>absurd h (by decide)
     exact .inl (A1 (oLs (Ge l (Aa (A9 (Aa l.d) (((l.mark+1) % 2:Nat):Int) (Aj (l.mark+1) hf fm)))) e) [] ⟨⟨rfl,rfl,rfl⟩,⟨rfl,rfl,rfl⟩,⟨rfl,rfl,rfl⟩,⟨rfl,rfl,rfl⟩,trivial⟩ rfl ⟨_,rfl⟩ rfl rfl ⟨by unfold D5;rw[eC hw hs2];rfl,by rw[eC hw hs2]⟩)
   ·refine EvCall.lend ((G5 l _ hw).cal fun q rs hq=>?_)
    obtain⟨rfl,rfl⟩:=hq
    refine EvIf.bne (fun _=>?_) fun h=>absurd h (by decide)
    exact .inl (A1 (oLs (Ge l (A9 (Aa l.d) (((l.mark+1) % 2:Nat):Int) (Aj (l.mark+1) hf fm))) e) [] ⟨⟨rfl,rfl,rfl⟩,⟨rfl,rfl,rfl⟩,⟨rfl,rfl,rfl⟩,⟨rfl,rfl,rfl⟩,trivial⟩ rfl ⟨_,rfl⟩ rfl rfl ⟨by unfold D5;rw[eB hw];rfl,by rw[eB hw]⟩)
  ·refine⟨rfl,⟨by decide,by decide,by decide⟩,⟨rfl,?_⟩⟩
   refine⟨by decide,?_⟩
   refine⟨by rw[eT];omega,?_⟩
   refine⟨by rw[eT];omega,?_⟩
   refine⟨rfl,?_⟩
   refine hW.cal fun q rs hq=>?_
   obtain⟨rfl,rfl⟩:=hq
   by_cases hw:Bg (Aa l.d) (((l.mark+1) % 2:Nat):Int) (Aj (l.mark+1) hf fm)=0
   ·rw[hw]
    refine EvCall.lend ((G7 l _ hd).cal fun q rs hq=>?_)
    obtain⟨rfl,rfl⟩:=hq
    refine EvIf.bne (fun h=>absurd rfl h) fun _=>?_
    refine EvCall.lend (hS2.cal fun q rs hq=>?_)
    obtain⟨rfl,rfl⟩:=hq
    by_cases hs2:Cz (A9 (Aa l.d) (((l.mark+1) % 2:Nat):Int) (Aj (l.mark+1) hf fm))=0
    ·rw[hs2]
     refine EvCall.lend ((G7 l _ hd).cal fun q rs hq=>?_)
     obtain⟨rfl,rfl⟩:=hq
     refine EvIf.bne (fun h=>absurd rfl h) fun _=>?_
     exact .inl (A1 (oLs (Ah l hf fm) e) [] ⟨⟨rfl,rfl,eD hw hs2⟩,⟨rfl,rfl,eDd hw hs2⟩,⟨rfl,rfl,eDa hw hs2⟩,⟨rfl,rfl,rfl⟩,trivial⟩ rfl ⟨_,rfl⟩ rfl rfl ⟨by rw[eDe hw hs2];rfl,rfl⟩)
    ·refine EvCall.lend ((G5 l _ hs2).cal fun q rs hq=>?_)
     obtain⟨rfl,rfl⟩:=hq
     refine EvIf.bne (fun _=>?_) fun h=>absurd h (by decide)
     exact .inl (A1 (oLs (Ge l (Aa (A9 (Aa l.d) (((l.mark+1) % 2:Nat):Int) (Aj (l.mark+1) hf fm)))) e) [] ⟨⟨rfl,rfl,rfl⟩,⟨rfl,rfl,rfl⟩,⟨rfl,rfl,rfl⟩,⟨rfl,rfl,rfl⟩,trivial⟩ rfl ⟨_,rfl⟩ rfl rfl ⟨by unfold D5;rw[eC hw hs2];rfl,by rw[eC hw hs2]⟩)
   ·refine EvCall.lend ((G5 l _ hw).cal fun q rs hq=>?_)
    obtain⟨rfl,rfl⟩:=hq
    refine EvIf.bne (fun _=>?_) fun h=>absurd h (by decide)
    exact .inl (A1 (oLs (Ge l (A9 (Aa l.d) (((l.mark+1) % 2:Nat):Int) (Aj (l.mark+1) hf fm))) e) [] ⟨⟨rfl,rfl,rfl⟩,⟨rfl,rfl,rfl⟩,⟨rfl,rfl,rfl⟩,⟨rfl,rfl,rfl⟩,trivial⟩ rfl ⟨_,rfl⟩ rfl rfl ⟨by unfold D5;rw[eB hw];rfl,by rw[eB hw]⟩)
  ·refine⟨rfl,⟨rfl,⟨by decide,by decide,by decide⟩,?_⟩⟩
   refine⟨by decide,?_⟩
   refine⟨by rw[eT];omega,?_⟩
   refine⟨by rw[eT];omega,?_⟩
   refine⟨rfl,?_⟩
   refine hW.cal fun q rs hq=>?_
   obtain⟨rfl,rfl⟩:=hq
   by_cases hw:Bg (Aa l.d) (((l.mark+1) % 2:Nat):Int) (Aj (l.mark+1) hf fm)=0
   ·rw[hw]
    refine EvCall.lend ((G7 l _ hd).cal fun q rs hq=>?_)
    obtain⟨rfl,rfl⟩:=hq
    refine EvIf.bne (fun h=>absurd rfl h) fun _=>?_
    refine EvCall.lend (hS2.cal fun q rs hq=>?_)
    obtain⟨rfl,rfl⟩:=hq
    by_cases hs2:Cz (A9 (Aa l.d) (((l.mark+1) % 2:Nat):Int) (Aj (l.mark+1) hf fm))=0
    ·rw[hs2]
     refine EvCall.lend ((G7 l _ hd).cal fun q rs hq=>?_)
     obtain⟨rfl,rfl⟩:=hq
     refine EvIf.bne (fun h=>absurd rfl h) fun _=>?_
     exact .inl (A1 (oLs (Ah l hf fm) e) [] ⟨⟨rfl,rfl,eD hw hs2⟩,⟨rfl,rfl,eDd hw hs2⟩,⟨rfl,rfl,eDa hw hs2⟩,⟨rfl,rfl,rfl⟩,trivial⟩ rfl ⟨_,rfl⟩ rfl rfl ⟨by rw[eDe hw hs2];rfl,rfl⟩)
    ·refine EvCall.lend ((G5 l _ hs2).cal fun q rs hq=>?_)
     obtain⟨rfl,rfl⟩:=hq
     refine EvIf.bne (fun _=>?_) fun h=>absurd h (by decide)
     exact .inl (A1 (oLs (Ge l (Aa (A9 (Aa l.d) (((l.mark+1) % 2:Nat):Int) (Aj (l.mark+1) hf fm)))) e) [] ⟨⟨rfl,rfl,rfl⟩,⟨rfl,rfl,rfl⟩,⟨rfl,rfl,rfl⟩,⟨rfl,rfl,rfl⟩,trivial⟩ rfl ⟨_,rfl⟩ rfl rfl ⟨by unfold D5;rw[eC hw hs2];rfl,by rw[eC hw hs2]⟩)
   ·refine EvCall.lend ((G5 l _ hw).cal fun q rs hq=>?_)
    obtain⟨rfl,rfl⟩:=hq
    refine EvIf.bne (fun _=>?_) fun h=>absurd h (by decide)
    exact .inl (A1 (oLs (Ge l (A9 (Aa l.d) (((l.mark+1) % 2:Nat):Int) (Aj (l.mark+1) hf fm))) e) [] ⟨⟨rfl,rfl,rfl⟩,⟨rfl,rfl,rfl⟩,⟨rfl,rfl,rfl⟩,⟨rfl,rfl,rfl⟩,trivial⟩ rfl ⟨_,rfl⟩ rfl rfl ⟨by unfold D5;rw[eB hw];rfl,by rw[eB hw]⟩)
 ·refine EvCall.lend (hS.cal fun q rs hq=>?_)
  obtain⟨rfl,rfl⟩:=hq
  refine EvCall.lend ((G5 l _ hs).cal fun q rs hq=>?_)
  obtain⟨rfl,rfl⟩:=hq
  refine EvIf.bne (fun _=>?_) fun h=>absurd h (by decide)
  have eA:Ah l hf fm=Ge l (Aa l.d):=by unfold Ah;rw[if_pos hs]
  exact .inl (A1 (oLs (Ge l (Aa l.d)) e) [] ⟨⟨rfl,rfl,rfl⟩,⟨rfl,rfl,rfl⟩,⟨rfl,rfl,rfl⟩,⟨rfl,rfl,rfl⟩,trivial⟩ rfl ⟨_,rfl⟩ rfl rfl ⟨by unfold D5;rw[eA];rfl,by rw[eA]⟩)
end Go.Proofs.YtihfaocdpmmooaaGreat
namespace Go.Proofs.YtihfaocdpmmooaaGreat
open Go.RowKit
set_option maxRecDepth 100000
theorem Zo (l:LD)(e:Nat)(h:WA l):FnO Tryz.prog 134 [.ptr 0 0] (cL l e) fun g rs=>g=gI (Mt l)∧rs=cL (Ht l) e:=by
 refine Bm Tryz.func134 (by kernel_rfl) rfl (Nat.le_of_ble_eq_true (by kernel_rfl)) (by kernel_rfl) (A8 (O:=oLs l e) (n0:=4) rfl) ?_
 refine EvIf.mk (fun hd=>?_) fun hd=>?_
 ·exact .inl (A1 (oLs l e) [] ⟨⟨rfl,rfl,rfl⟩,⟨rfl,rfl,rfl⟩,⟨rfl,rfl,rfl⟩,⟨rfl,rfl,rfl⟩,trivial⟩ rfl ⟨_,rfl⟩ rfl rfl ⟨by unfold Mt;rw[if_pos hd];rfl,by unfold Ht;rw[if_pos hd]⟩)
 have hlb:(((l.b.map gBy).length:Nat):Int)=l.b.length:=by rw[List.length_map]
 have hS:=Z4y l e h hd h.half l.b.length h.len
 rw[←hlb] at hS
 refine EvCall.gh (.close (oLs l e) [] ⟨⟨rfl,rfl,rfl⟩,⟨rfl,rfl,rfl⟩,⟨rfl,rfl,rfl⟩,⟨rfl,rfl,rfl⟩,trivial⟩ ⟨_,rfl⟩ rfl (.done (.same (hS.cal fun q rs hq=>?_))))
 obtain⟨rfl,rfl⟩:=hq
 refine .done ?_
 exact .inl (A7 rfl rfl ⟨by unfold Mt;rw[if_neg (by rw[hd];decide)],by unfold Ht;rw[if_neg (by rw[hd];decide)]⟩)
theorem Pr (l:List ByteArray)(s:ByteArray):Ao (l++[s])=Ao l++frB s:=by unfold Ao;rw[List.flatMap_append];simp
theorem U9:∀(l:List ByteArray),(∀s∈l,s.size≤4096)→(Ao l).length≤4100 * l.length
 | [],_=>by simp[Ao]
 | s::l,h=>by
  have h1:=U9 l fun x hx=>h x (by simp[hx])
  have h2:=h s (by simp)
  unfold Ao at *
  rw[List.flatMap_cons,List.length_append,Df,List.length_cons];omega
theorem E4 (f:Nat)(b:Bs):∀(ns:List Nat) (d:RD),WD d→WD (runW f b ns d).1∧(runW f b ns d).1.now.length=d.now.length∧(runW f b ns d).1.wait.length≤d.wait.length+ns.length∧(runW f b ns d).1.armed≤d.armed
 | [],d,h=>⟨h,rfl,Nat.le_refl _,Int.le_refl _⟩
 | n::ns,d,h=>by
  obtain⟨h1,h2,h3⟩:=Do d ((f+n:Nat):Int) (chB b n)
  have hw:=Fn h ((f+n:Nat):Int) (chB b n)
  rw[Eg]
  split
  ·obtain⟨i1,i2,i3,i4⟩:=E4 f b ns _ hw
   refine⟨i1,by omega,?_,by omega⟩
   rw[List.length_cons];omega
  ·refine⟨hw,h1,?_,h3⟩
   rw[List.length_cons];show(A9 d _ _).wait.length≤_;omega
theorem Zi (b:Bs)(frm:Nat)(hb:b.length≤35136):(nsW b frm).length≤549:=by unfold nsW;rw[List.length_range'];omega
theorem Z43 {l:LD}(h:WA l)(hw9:l.d.wait.length≤90000)(half:Nat)(b:Bs)(frm:Nat)(hb:b.length≤35136):WA (wrL l half b frm):=by
 obtain⟨h1,h2,h3,h4⟩:=E4 (C5 half) b (nsW b frm) l.d h.d
 have h5:=Zi b frm hb
 have h6:=h.many
 have h7:=h.armed
 exact⟨h1,by show 1100≤(runW _ _ _ _).1.now.length;omega,by show(runW _ _ _ _).1.armed≤_;omega,by show(runW _ _ _ _).1.wait.length≤_;omega,h.half,h.len,h.all,h.mark⟩
theorem Fa (l:LD)(e:Nat)(h:WA l)(hw9:l.d.wait.length≤90000)(all:List ByteArray)(ha:all.length≤200)(hz:∀s∈all,s.size≤1000000):FnO Tryz.prog 132 [.ptr 0 0,.sl (all.map gSt)] (cL l e) fun g rs=>g=gI (Ie l all)∧rs=cL (Ej l all) e:=by
 refine Bm Tryz.func132 (by kernel_rfl) rfl (Nat.le_of_ble_eq_true (by kernel_rfl)) (by kernel_rfl) (A8 (O:=oLs l e) (n0:=4) rfl) ?_
 refine EvIf.mk (fun hd=>?_) fun hd=>?_
 ·exact .inl (A1 (oLs l e) [] ⟨⟨rfl,rfl,rfl⟩,⟨rfl,rfl,rfl⟩,⟨rfl,rfl,rfl⟩,⟨rfl,rfl,rfl⟩,trivial⟩ rfl ⟨_,rfl⟩ rfl rfl ⟨by unfold Ie;rw[if_pos hd];rfl,by unfold Ej;rw[if_pos hd]⟩)
 have hE:Ie l all=if Lc all≠0 then Lc all else if wrE l (1 - l.half) (Ao all) 0=true then D5 (wrL l (1 - l.half) (Ao all) 0) (1 - l.half) (Ao all).length else 40:=by unfold Ie;rw[if_neg (by rw[hd];decide)]
 have hR:Ej l all=if Lc all≠0 then l else if wrE l (1 - l.half) (Ao all) 0=true then
  (if(Ah (wrL l (1 - l.half) (Ao all) 0) (1 - l.half) (Ao all).length).dead=true then Ah (wrL l (1 - l.half) (Ao all) 0) (1 - l.half) (Ao all).length
   else {Ah (wrL l (1 - l.half) (Ao all) 0) (1 - l.half) (Ao all).length with b:=Ao all,all:=all})
  else wrL l (1 - l.half) (Ao all) 0:=by unfold Ej;rw[if_neg (by rw[hd];decide)]
 refine Bu [0,1,12,13] [0,1,2,3] (fun i:Nat=>[(14,gI i),(5,.osl 4)]) (fun i=>[(4,.slc ((Ao (all.take i)).map gBy) 5 1)]) (fun i=>i≤all.length∧∀s∈all.take i,s.size≤4096) (fun i=>all.length - i) 0 ⟨Nat.zero_le _,fun s hs=>by simp at hs⟩ ⟨⟨rfl,rfl⟩,⟨rfl,rfl⟩,trivial⟩ ⟨⟨rfl,rfl,rfl⟩,trivial⟩ rfl fun i hi=>?_
 obtain⟨hi,hI⟩:=hi
 refine EvIf.dec (fun hlt=>?_) fun hlt=>?_
 ·refine EvIdx.of (by simpa using hlt) fun s hs=>?_
  have hlt:=Dj hs
  have hmem:=List.mem_of_getElem? hs
  refine EvIf.dec (fun h4=>?_) fun h4=>?_
  ·have hf:Lc all=52:=by
    unfold Lc
    rw[if_pos (List.any_eq_true.2 ⟨s,hmem,by rw[decide_eq_true_iff];omega⟩)]
   exact .inl (A1 (oLs l e) [] ⟨⟨rfl,rfl,rfl⟩,⟨rfl,rfl,rfl⟩,⟨rfl,rfl,rfl⟩,⟨rfl,rfl,rfl⟩,trivial⟩ rfl ⟨_,rfl⟩ rfl rfl ⟨by rw[hE,hf];rfl,by rw[hR,hf];rfl⟩)
  have hb:=U9 _ hI
  rw[List.length_take] at hb
  refine EvCall.lend ((Tb (Ao (all.take i)) (by omega) s (hz s hmem)).cal fun q rs hq=>?_)
  obtain⟨rfl,rfl⟩:=hq
  refine⟨by omega,i+1,⟨hlt,fun x hx=>?_⟩,(by dsimp only;omega),?_⟩
  ·rw[Cs hs] at hx
   rcases List.mem_append.1 hx with hx | hx
   ·exact hI x hx
   ·rw[List.mem_singleton.1 hx];omega
  refine⟨?_,?_,rfl⟩<;>repeat' (first | exact True.intro | with_reducible rfl | exact rfl | refine And.intro ?_ ?_)
  exact eqR (by rw[Cs hs,Pr])
 ·have hlen:(((all.map gSt).length:Nat):Int)=all.length:=by rw[List.length_map]
  rw[hlen] at hlt
  rw[List.take_of_length_le (by omega)] at hI⊢
  have hany:all.any (fun s=>decide (s.size > 4096))=false:=by
   rw[←Bool.not_eq_true,List.any_eq_true]
   rintro⟨s,hs,hs2⟩
   have:=hI s hs
   rw[decide_eq_true_iff] at hs2
   omega
  have hfit:Lc all=if(Ao all).length > 35136 then 51 else 0:=by
   unfold Lc
   rw[hany];rfl
  refine EvCall.lend ((Y4 l _).cal fun q rs hq=>?_)
  obtain⟨rfl,rfl⟩:=hq
  refine EvIf.dec (fun h1=>?_) fun h1=>?_
  ·rw[List.length_map] at h1
   have hf:Lc all=51:=by rw[hfit,if_pos (by omega)]
   exact .inl (A1 (oLs l e) [] ⟨⟨rfl,rfl,rfl⟩,⟨rfl,rfl,rfl⟩,⟨rfl,rfl,rfl⟩,⟨rfl,rfl,rfl⟩,trivial⟩ rfl ⟨_,rfl⟩ rfl rfl ⟨by rw[hE,hf];rfl,by rw[hR,hf];rfl⟩)
  rw[List.length_map] at h1
  have hf:Lc all=0:=by rw[hfit,if_neg (by omega)]
  rw[hf,if_neg (fun h=>h rfl)] at hE hR
  have hhf:=h.half
  have hW:=Y5 l e h.d h.many h.armed (by have:=h.wait;omega) hd (h:=1 - l.half) (by omega) (Ao all) (by omega) 0 (Nat.zero_le _)
  have hhi:((1 - l.half:Nat):Int)=1 - (l.half:Int):=by omega
  rw[hhi] at hW
  refine⟨by omega,?_⟩
  have hWA:=Z43 h hw9 (1 - l.half) (Ao all) 0 (by omega)
  cases hw:wrE l (1 - l.half) (Ao all) 0 with
  | false =>
   rw[hw] at hW hE hR
   refine EvCall.gh (.close (oLs l e) [] ⟨⟨rfl,rfl,rfl⟩,⟨rfl,rfl,rfl⟩,⟨rfl,rfl,rfl⟩,⟨rfl,rfl,rfl⟩,trivial⟩ ⟨_,rfl⟩ rfl (.frz 4 _ _ _ rfl (.done (.see (.same (hW.cal fun q rs hq=>?_))))))
   obtain⟨rfl,rfl⟩:=hq
   refine .opn 0 _ _ _ rfl rfl rfl (.done ?_)
   refine EvIf.bne (fun _=>?_) fun h=>absurd h (by decide)
   exact .inl (A1 (oLs (wrL l (1 - l.half) (Ao all) 0) e) [(1,5),(2,6),(3,7)] ⟨⟨rfl,rfl,rfl⟩,⟨rfl,rfl,rfl⟩,⟨rfl,rfl,rfl⟩,⟨rfl,rfl,rfl⟩,trivial⟩ rfl ⟨_,rfl⟩ rfl rfl ⟨by rw[hE];rfl,by rw[hR];rfl⟩)
  | true =>
   rw[hw] at hW hE hR
   have hd2:(wrL l (1 - l.half) (Ao all) 0).dead=false:=by
    unfold wrE at hw
    unfold wrL
    rw[hw];rfl
   have hS:=Z4y (wrL l (1 - l.half) (Ao all) 0) e hWA hd2 (hf:=1 - l.half) (by omega) (Ao all).length (by omega)
   refine EvCall.gh (.close (oLs l e) [] ⟨⟨rfl,rfl,rfl⟩,⟨rfl,rfl,rfl⟩,⟨rfl,rfl,rfl⟩,⟨rfl,rfl,rfl⟩,trivial⟩ ⟨_,rfl⟩ rfl (.frz 4 _ _ _ rfl (.done (.see (.same (hW.cal fun q rs hq=>?_))))))
   obtain⟨rfl,rfl⟩:=hq
   refine .opn 0 _ _ _ rfl rfl rfl (.done ?_)
   refine EvIf.bne (fun h=>absurd rfl h) fun _=>?_
   refine⟨by show _≤1 - (l.half:Int)∧1 - (l.half:Int)≤_;omega,?_⟩
   have hhi2:((1 - l.half:Nat):Int)=1 - ((wrL l (1 - l.half) (Ao all) 0).half:Int):=hhi
   have hlb:((((Ao all).map gBy).length:Nat):Int)=(Ao all).length:=by rw[List.length_map]
   rw[hhi2,←hlb] at hS
   refine EvCall.gh (.close (oLs (wrL l (1 - l.half) (Ao all) 0) e) [(1,5),(2,6),(3,7)] ⟨⟨rfl,rfl,rfl⟩,⟨rfl,rfl,rfl⟩,⟨rfl,rfl,rfl⟩,⟨rfl,rfl,rfl⟩,trivial⟩ ⟨_,rfl⟩ rfl (.done (.same (hS.cal fun q rs hq=>?_))))
   obtain⟨rfl,rfl⟩:=hq
   refine .opn 0 _ _ _ rfl rfl rfl (.done ?_)
   cases hz:(Ah (wrL l (1 - l.half) (Ao all) 0) (1 - l.half) (Ao all).length).dead with
   | true =>
    have eS:D5 (wrL l (1 - l.half) (Ao all) 0) (1 - l.half) (Ao all).length=40:=by unfold D5;rw[hz];rfl
    rw[eS] at hE⊢
    rw[hz] at hR
    refine EvIf.bne (fun _=>?_) fun h=>absurd h (by decide)
    exact .inl (A1 (oLs (Ah (wrL l (1 - l.half) (Ao all) 0) (1 - l.half) (Ao all).length) e) [(1,8),(2,9),(3,10)] ⟨⟨rfl,rfl,rfl⟩,⟨rfl,rfl,rfl⟩,⟨rfl,rfl,rfl⟩,⟨rfl,rfl,rfl⟩,trivial⟩ rfl ⟨_,rfl⟩ rfl rfl ⟨by rw[hE];rfl,by rw[hR];rfl⟩)
   | false =>
    have eS:D5 (wrL l (1 - l.half) (Ao all) 0) (1 - l.half) (Ao all).length=0:=by unfold D5;rw[hz];rfl
    rw[eS] at hE⊢
    rw[hz] at hR
    refine EvIf.bne (fun h=>absurd rfl h) fun _=>?_
    refine(Y6 all (by omega)).cal fun q rs hq=>?_
    obtain⟨rfl,rfl⟩:=hq
    exact .inl (A1 (oLs {Ah (wrL l (1 - l.half) (Ao all) 0) (1 - l.half) (Ao all).length with b:=Ao all,all:=all} e) [(1,8),(2,11),(3,10)] ⟨⟨rfl,rfl,rfl⟩,⟨rfl,rfl,rfl⟩,⟨rfl,rfl,rfl⟩,⟨rfl,rfl,rfl⟩,trivial⟩ rfl ⟨_,rfl⟩ rfl rfl ⟨by rw[hE];rfl,by rw[hR];rfl⟩)
end Go.Proofs.YtihfaocdpmmooaaGreat
