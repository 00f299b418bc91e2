
import Derived.Test.YtihfaocdpmmooaaGreatOM1
namespace Go.Proofs.YtihfaocdpmmooaaGreat
open Go.RowKit
set_option maxRecDepth 100000
theorem Z8h {n:Nat}(h:n < 2 ^ 64):IntKind.wrap .u64 (n:Int)=n:=by
 simp only[IntKind.wrap,IntKind.bits,IntKind.signed,Bool.false_and,if_false,Bool.false_eq_true]
 omega
def Z9x (m hf fm:Nat):List (List G):=(be8 (m:Int)).map gBy++[[G.v (.int .u8 ((hf:Int) % 256))],[G.v (.int .u8 (((fm:Int).fdiv (2 ^ min (Int.toNat 24) 64)) % 256))],[G.v (.int .u8 (((fm:Int).fdiv (2 ^ min (Int.toNat 16) 64)) % 256))],[G.v (.int .u8 (((fm:Int).fdiv (2 ^ min (Int.toNat 8) 64)) % 256))],[G.v (.int .u8 ((fm:Int) % 256))]]++List.replicate 43 [G.v (.int .u8 0)]++(be8 (m:Int)).map gBy
theorem Z54 (m fm:Nat){hf:Nat}(hh:hf < 2):Z9x m hf fm=(Ak m hf fm).map gBy:=by
 have e0:[G.v (.int .u8 ((hf:Int) % 256))]=gBy (UInt8.ofNat hf):=by
  unfold gBy
  have:(UInt8.ofNat hf).toNat=hf:=by rw[UInt8.toNat_ofNat'];omega
  rw[this,Int.emod_eq_of_lt (by omega) (by omega)]
 have eb:∀n:Int,[G.v (.int .u8 (n % 256))]=gBy (byI n):=fun n=>by unfold gBy;rw[C9]
 unfold Z9x Ak
 rw[Es _ 16777216 (Int.toNat 24) 24 rfl rfl (by decide),Es _ 65536 (Int.toNat 16) 16 rfl rfl (by decide),Es _ 256 (Int.toNat 8) 8 rfl rfl (by decide),e0,eb,eb,eb,eb]
 simp only[List.map_append,List.map_cons,List.map_replicate,List.append_assoc,List.cons_append,List.nil_append]
 rfl
set_option maxHeartbeats 8000000 in
theorem Z6m (l:LD)(e:Nat)(h:WA l)(hd:l.dead=false){hf:Nat}(hh:hf < 2)(fm:Nat)(_hfm:fm≤35136):FnO Tryz.prog 144 [.ptr 0 0,gI hf,gI fm] (cL l e) fun g rs=>g=gI (Dd l hf fm)∧rs=cL (Ah l hf fm) e:=by
 refine Bd Tryz.func144 (by kernel_rfl) rfl (Nat.le_of_ble_eq_true (by kernel_rfl)) (by kernel_rfl) (A6 (O:=oLs l e) (n0:=4) rfl) ?_
 have hS:=Z6u l.d h.d h.armed (by have:=h.wait;omega)
 by_cases hs:Da l.d=0
 ·rw[hs] at hS
  refine EvCall.lend (hS.cal fun q rs hq=>?_)
  obtain⟨rfl,rfl⟩:=hq
  refine EvCall.lend ((Ha l _ hd).cal fun q rs hq=>?_)
  obtain⟨rfl,rfl⟩:=hq
  refine EvIf.bne (fun h=>absurd rfl h) fun _=>?_
  have eM:IntKind.wrap .u64 ((l.mark:Int)+1)=((l.mark+1:Nat):Int):=by
   have:=h.mark
   rw[show(l.mark:Int)+1=((l.mark+1:Nat):Int) by omega]
   exact Z8h (by omega)
  have hlay:=Zfc (l.mark+1)
  have eT:(IntKind.wrap .u64 ((l.mark:Int)+1)).tmod 2=(((l.mark+1) % 2:Nat):Int):=by rw[eM];rfl
  have eN:0+(IntKind.wrap .u64 ((l.mark:Int)+1)).tmod 2=(((l.mark+1) % 2:Nat):Int):=by rw[eT];omega
  obtain⟨s1,s2,s3⟩:=Ia l.d
  have hW:=Zc (Ab l.d) (Kg h.d) (by have:=h.armed;omega) (by have:=h.wait;omega) (((l.mark+1) % 2:Nat):Int) (Ak (l.mark+1) hf fm)
  rw[←Z54 _ _ hh] at hW
  have hW:FnO Tryz.prog 19 [.ptr 0 0,gI (0+(IntKind.wrap .u64 ((l.mark:Int)+1)).tmod 2),.sl (Z9x (l.mark+1) hf fm)] (cD (Ab l.d)) fun g rs=>g=gI (Bn (Ab l.d) (((l.mark+1) % 2:Nat):Int) (Ak (l.mark+1) hf fm))∧rs=cD (Ae (Ab l.d) (((l.mark+1) % 2:Nat):Int) (Ak (l.mark+1) hf fm)):=by rw[eN];exact hW
  have hS2:=Z6u (Ae (Ab l.d) (((l.mark+1) % 2:Nat):Int) (Ak (l.mark+1) hf fm)) (Id (Kg h.d) _ _) (by have:=h.armed;have:=(E7 (Ab l.d) (((l.mark+1) % 2:Nat):Int) (Ak (l.mark+1) hf fm)).2.2;omega) (by have:=h.wait;have:=(E7 (Ab l.d) (((l.mark+1) % 2:Nat):Int) (Ak (l.mark+1) hf fm)).2.1;omega)
  have eB:¬Bn (Ab l.d) (((l.mark+1) % 2:Nat):Int) (Ak (l.mark+1) hf fm)=0→Ah l hf fm=Hk l (Ae (Ab l.d) (((l.mark+1) % 2:Nat):Int) (Ak (l.mark+1) hf fm)):=fun hw=>by
   unfold Ah
   rw[if_neg (fun h=>h hs),if_pos hw]
  have eC:Bn (Ab l.d) (((l.mark+1) % 2:Nat):Int) (Ak (l.mark+1) hf fm)=0→¬Da (Ae (Ab l.d) (((l.mark+1) % 2:Nat):Int) (Ak (l.mark+1) hf fm))=0→Ah l hf fm=Hk l (Ab (Ae (Ab l.d) (((l.mark+1) % 2:Nat):Int) (Ak (l.mark+1) hf fm))):=fun hw h2=>by
   unfold Ah
   rw[if_neg (fun h=>h hs),if_neg (fun h=>h hw),if_pos h2]
  have eS:Bn (Ab l.d) (((l.mark+1) % 2:Nat):Int) (Ak (l.mark+1) hf fm)=0→Da (Ae (Ab l.d) (((l.mark+1) % 2:Nat):Int) (Ak (l.mark+1) hf fm))=0→Ah l hf fm={l with mark:=l.mark+1,half:=hf,firm:=fm,d:=Ab (Ae (Ab l.d) (((l.mark+1) % 2:Nat):Int) (Ak (l.mark+1) hf fm))}:=fun hw h2=>by
   unfold Ah
   rw[if_neg (fun h=>h hs),if_neg (fun h=>h hw),if_neg (fun h=>h h2)]
  have eD:Bn (Ab l.d) (((l.mark+1) % 2:Nat):Int) (Ak (l.mark+1) hf fm)=0→Da (Ae (Ab l.d) (((l.mark+1) % 2:Nat):Int) (Ak (l.mark+1) hf fm))=0→some (R.blk [.ptr 1 0,gI 0,gI 549,.v (.int .u64 (IntKind.wrap .u64 ((l.mark:Int)+1))),gI hf,gI fm,.sl (l.b.map gBy),.osl 2,.v (.bool l.dead)] tLg)=some (.blk (Bi (Ah l hf fm) (.ptr 1 0) (.osl 2)) tLg):=fun hw h2=>by rw[eS hw h2,eM]
  have eDd:Bn (Ab l.d) (((l.mark+1) % 2:Nat):Int) (Ak (l.mark+1) hf fm)=0→Da (Ae (Ab l.d) (((l.mark+1) % 2:Nat):Int) (Ak (l.mark+1) hf fm))=0→some (R.abs (cl (oDs (Ab (Ae (Ab l.d) (((l.mark+1) % 2:Nat):Int) (Ak (l.mark+1) hf fm))))))=some (.abs (cl (oDs (Ah l hf fm).d))):=fun hw h2=>by rw[eS hw h2]
  have eDa:Bn (Ab l.d) (((l.mark+1) % 2:Nat):Int) (Ak (l.mark+1) hf fm)=0→Da (Ae (Ab l.d) (((l.mark+1) % 2:Nat):Int) (Ak (l.mark+1) hf fm))=0→some (R.slc (l.all.map gSt) 9 1)=some (.slc ((Ah l hf fm).all.map gSt) 9 1):=fun hw h2=>by rw[eS hw h2]
  have eDe:Bn (Ab l.d) (((l.mark+1) % 2:Nat):Int) (Ak (l.mark+1) hf fm)=0→Da (Ae (Ab l.d) (((l.mark+1) % 2:Nat):Int) (Ak (l.mark+1) hf fm))=0→Dd l hf fm=0:=fun hw h2=>by unfold Dd;rw[eS hw h2];dsimp only;rw[hd];rfl
  refine((show FnV Tryz.prog 152 [.v (.int .u64 (IntKind.wrap .u64 ((l.mark:Int)+1)))] _ from by rw[eM];exact hlay).cal fun q hq=>?_)
  subst hq
  refine⟨?_,?_⟩
  all_goals
   refine⟨⟨rfl,fun g hg=>Zg2 hg⟩,?_⟩
   refine⟨by decide,?_⟩
   refine⟨⟨(show(8:Nat) < 64 from by decide),rfl⟩,?_⟩
   refine⟨rfl,?_⟩
   refine⟨⟨by decide,by decide,by decide⟩,?_⟩
   refine⟨by decide,by decide,by decide,?_⟩
   refine⟨?_,?_⟩
  ·refine⟨rfl,⟨by decide,by decide,by decide⟩,⟨rfl,?_⟩⟩
   refine⟨by decide,?_⟩
   refine⟨by rw[eT];omega,?_⟩
   refine⟨by rw[eT];omega,?_⟩
   refine⟨rfl,?_⟩
   refine hW.cal fun q rs hq=>?_
   obtain⟨rfl,rfl⟩:=hq
   by_cases hw:Bn (Ab l.d) (((l.mark+1) % 2:Nat):Int) (Ak (l.mark+1) hf fm)=0
   ·rw[hw]
    refine EvCall.lend ((Ha l _ hd).cal fun q rs hq=>?_)
    obtain⟨rfl,rfl⟩:=hq
    refine EvIf.bne (fun h=>absurd rfl h) fun _=>?_
    refine EvCall.lend (hS2.cal fun q rs hq=>?_)
    obtain⟨rfl,rfl⟩:=hq
    by_cases hs2:Da (Ae (Ab l.d) (((l.mark+1) % 2:Nat):Int) (Ak (l.mark+1) hf fm))=0
    ·rw[hs2]
     refine EvCall.lend ((Ha l _ hd).cal fun q rs hq=>?_)
     obtain⟨rfl,rfl⟩:=hq
     refine EvIf.bne (fun h=>absurd rfl h) fun _=>?_
     exact .inl (A1 (oLs (Ah l hf fm) e) [] ⟨⟨rfl,rfl,eD hw hs2⟩,⟨rfl,rfl,eDd hw hs2⟩,⟨rfl,rfl,eDa hw hs2⟩,RL1,trivial⟩ rfl ⟨_,rfl⟩ rfl rfl ⟨by rw[eDe hw hs2];rfl,rfl⟩)
    ·refine EvCall.lend ((Hb l _ hs2).cal fun q rs hq=>?_)
     obtain⟨rfl,rfl⟩:=hq
     refine EvIf.bne (fun _=>?_) fun h=>absurd h (by decide)
     exact .inl (A1 (oLs (Hk l (Ab (Ae (Ab l.d) (((l.mark+1) % 2:Nat):Int) (Ak (l.mark+1) hf fm)))) e) [] (by exact RL4) rfl ⟨_,rfl⟩ rfl rfl ⟨by unfold Dd;rw[eC hw hs2];rfl,by rw[eC hw hs2]⟩)
   ·refine EvCall.lend ((Hb l _ hw).cal fun q rs hq=>?_)
    obtain⟨rfl,rfl⟩:=hq
    refine EvIf.bne (fun _=>?_) fun h=>absurd h (by decide)
    exact .inl (A1 (oLs (Hk l (Ae (Ab l.d) (((l.mark+1) % 2:Nat):Int) (Ak (l.mark+1) hf fm))) e) [] (by exact RL4) rfl ⟨_,rfl⟩ rfl rfl ⟨by unfold Dd;rw[eB hw];rfl,by rw[eB hw]⟩)
  ·refine⟨rfl,⟨rfl,⟨by decide,by decide,by decide⟩,?_⟩⟩
   refine⟨by decide,?_⟩
   refine⟨by rw[eT];omega,?_⟩
   refine⟨by rw[eT];omega,?_⟩
   refine⟨rfl,?_⟩
   refine hW.cal fun q rs hq=>?_
   obtain⟨rfl,rfl⟩:=hq
   by_cases hw:Bn (Ab l.d) (((l.mark+1) % 2:Nat):Int) (Ak (l.mark+1) hf fm)=0
   ·rw[hw]
    refine EvCall.lend ((Ha l _ hd).cal fun q rs hq=>?_)
    obtain⟨rfl,rfl⟩:=hq
    refine EvIf.bne (fun h=>absurd rfl h) fun _=>?_
    refine EvCall.lend (hS2.cal fun q rs hq=>?_)
    obtain⟨rfl,rfl⟩:=hq
    by_cases hs2:Da (Ae (Ab l.d) (((l.mark+1) % 2:Nat):Int) (Ak (l.mark+1) hf fm))=0
    ·rw[hs2]
     refine EvCall.lend ((Ha l _ hd).cal fun q rs hq=>?_)
     obtain⟨rfl,rfl⟩:=hq
     refine EvIf.bne (fun h=>absurd rfl h) fun _=>?_
     exact .inl (A1 (oLs (Ah l hf fm) e) [] ⟨⟨rfl,rfl,eD hw hs2⟩,⟨rfl,rfl,eDd hw hs2⟩,⟨rfl,rfl,eDa hw hs2⟩,RL1,trivial⟩ rfl ⟨_,rfl⟩ rfl rfl ⟨by rw[eDe hw hs2];rfl,rfl⟩)
    ·refine EvCall.lend ((Hb l _ hs2).cal fun q rs hq=>?_)
     obtain⟨rfl,rfl⟩:=hq
     refine EvIf.bne (fun _=>?_) fun h=>absurd h (by decide)
     exact .inl (A1 (oLs (Hk l (Ab (Ae (Ab l.d) (((l.mark+1) % 2:Nat):Int) (Ak (l.mark+1) hf fm)))) e) [] (by exact RL4) rfl ⟨_,rfl⟩ rfl rfl ⟨by unfold Dd;rw[eC hw hs2];rfl,by rw[eC hw hs2]⟩)
   ·refine EvCall.lend ((Hb l _ hw).cal fun q rs hq=>?_)
    obtain⟨rfl,rfl⟩:=hq
    refine EvIf.bne (fun _=>?_) fun h=>absurd h (by decide)
    exact .inl (A1 (oLs (Hk l (Ae (Ab l.d) (((l.mark+1) % 2:Nat):Int) (Ak (l.mark+1) hf fm))) e) [] (by exact RL4) rfl ⟨_,rfl⟩ rfl rfl ⟨by unfold Dd;rw[eB hw];rfl,by rw[eB hw]⟩)
  ·refine⟨rfl,⟨by decide,by decide,by decide⟩,⟨rfl,?_⟩⟩
   refine⟨by decide,?_⟩
   refine⟨by rw[eT];omega,?_⟩
   refine⟨by rw[eT];omega,?_⟩
   refine⟨rfl,?_⟩
   refine hW.cal fun q rs hq=>?_
   obtain⟨rfl,rfl⟩:=hq
   by_cases hw:Bn (Ab l.d) (((l.mark+1) % 2:Nat):Int) (Ak (l.mark+1) hf fm)=0
   ·rw[hw]
    refine EvCall.lend ((Ha l _ hd).cal fun q rs hq=>?_)
    obtain⟨rfl,rfl⟩:=hq
    refine EvIf.bne (fun h=>absurd rfl h) fun _=>?_
    refine EvCall.lend (hS2.cal fun q rs hq=>?_)
    obtain⟨rfl,rfl⟩:=hq
    by_cases hs2:Da (Ae (Ab l.d) (((l.mark+1) % 2:Nat):Int) (Ak (l.mark+1) hf fm))=0
    ·rw[hs2]
     refine EvCall.lend ((Ha l _ hd).cal fun q rs hq=>?_)
     obtain⟨rfl,rfl⟩:=hq
     refine EvIf.bne (fun h=>absurd rfl h) fun _=>?_
     exact .inl (A1 (oLs (Ah l hf fm) e) [] ⟨⟨rfl,rfl,eD hw hs2⟩,⟨rfl,rfl,eDd hw hs2⟩,⟨rfl,rfl,eDa hw hs2⟩,RL1,trivial⟩ rfl ⟨_,rfl⟩ rfl rfl ⟨by rw[eDe hw hs2];rfl,rfl⟩)
    ·refine EvCall.lend ((Hb l _ hs2).cal fun q rs hq=>?_)
     obtain⟨rfl,rfl⟩:=hq
     refine EvIf.bne (fun _=>?_) fun h=>absurd h (by decide)
     exact .inl (A1 (oLs (Hk l (Ab (Ae (Ab l.d) (((l.mark+1) % 2:Nat):Int) (Ak (l.mark+1) hf fm)))) e) [] (by exact RL4) rfl ⟨_,rfl⟩ rfl rfl ⟨by unfold Dd;rw[eC hw hs2];rfl,by rw[eC hw hs2]⟩)
   ·refine EvCall.lend ((Hb l _ hw).cal fun q rs hq=>?_)
    obtain⟨rfl,rfl⟩:=hq
    refine EvIf.bne (fun _=>?_) fun h=>absurd h (by decide)
    exact .inl (A1 (oLs (Hk l (Ae (Ab l.d) (((l.mark+1) % 2:Nat):Int) (Ak (l.mark+1) hf fm))) e) [] (by exact RL4) rfl ⟨_,rfl⟩ rfl rfl ⟨by unfold Dd;rw[eB hw];rfl,by rw[eB hw]⟩)
  ·refine⟨rfl,⟨rfl,⟨by decide,by decide,by decide⟩,?_⟩⟩
   refine⟨by decide,?_⟩
   refine⟨by rw[eT];omega,?_⟩
   refine⟨by rw[eT];omega,?_⟩
   refine⟨rfl,?_⟩
   refine hW.cal fun q rs hq=>?_
   obtain⟨rfl,rfl⟩:=hq
   by_cases hw:Bn (Ab l.d) (((l.mark+1) % 2:Nat):Int) (Ak (l.mark+1) hf fm)=0
   ·rw[hw]
    refine EvCall.lend ((Ha l _ hd).cal fun q rs hq=>?_)
    obtain⟨rfl,rfl⟩:=hq
    refine EvIf.bne (fun h=>absurd rfl h) fun _=>?_
    refine EvCall.lend (hS2.cal fun q rs hq=>?_)
    obtain⟨rfl,rfl⟩:=hq
    by_cases hs2:Da (Ae (Ab l.d) (((l.mark+1) % 2:Nat):Int) (Ak (l.mark+1) hf fm))=0
    ·rw[hs2]
     refine EvCall.lend ((Ha l _ hd).cal fun q rs hq=>?_)
     obtain⟨rfl,rfl⟩:=hq
     refine EvIf.bne (fun h=>absurd rfl h) fun _=>?_
     exact .inl (A1 (oLs (Ah l hf fm) e) [] ⟨⟨rfl,rfl,eD hw hs2⟩,⟨rfl,rfl,eDd hw hs2⟩,⟨rfl,rfl,eDa hw hs2⟩,RL1,trivial⟩ rfl ⟨_,rfl⟩ rfl rfl ⟨by rw[eDe hw hs2];rfl,rfl⟩)
    ·refine EvCall.lend ((Hb l _ hs2).cal fun q rs hq=>?_)
     obtain⟨rfl,rfl⟩:=hq
     refine EvIf.bne (fun _=>?_) fun h=>absurd h (by decide)
     exact .inl (A1 (oLs (Hk l (Ab (Ae (Ab l.d) (((l.mark+1) % 2:Nat):Int) (Ak (l.mark+1) hf fm)))) e) [] (by exact RL4) rfl ⟨_,rfl⟩ rfl rfl ⟨by unfold Dd;rw[eC hw hs2];rfl,by rw[eC hw hs2]⟩)
   ·refine EvCall.lend ((Hb l _ hw).cal fun q rs hq=>?_)
    obtain⟨rfl,rfl⟩:=hq
    refine EvIf.bne (fun _=>?_) fun h=>absurd h (by decide)
    exact .inl (A1 (oLs (Hk l (Ae (Ab l.d) (((l.mark+1) % 2:Nat):Int) (Ak (l.mark+1) hf fm))) e) [] (by exact RL4) rfl ⟨_,rfl⟩ rfl rfl ⟨by unfold Dd;rw[eB hw];rfl,by rw[eB hw]⟩)
 ·refine EvCall.lend (hS.cal fun q rs hq=>?_)
  obtain⟨rfl,rfl⟩:=hq
  refine EvCall.lend ((Hb l _ hs).cal fun q rs hq=>?_)
  obtain⟨rfl,rfl⟩:=hq
  refine EvIf.bne (fun _=>?_) fun h=>absurd h (by decide)
  have eA:Ah l hf fm=Hk l (Ab l.d):=by unfold Ah;rw[if_pos hs]
  exact .inl (A1 (oLs (Hk l (Ab l.d)) e) [] (by exact RL4) rfl ⟨_,rfl⟩ rfl rfl ⟨by unfold Dd;rw[eA];rfl,by rw[eA]⟩)
end Go.Proofs.YtihfaocdpmmooaaGreat
namespace Go.Proofs.YtihfaocdpmmooaaGreat
open Go.RowKit
set_option maxRecDepth 100000
theorem Zz (l:LD)(e:Nat)(h:WA l):FnO Tryz.prog 134 [.ptr 0 0] (cL l e) fun g rs=>g=gI (Og l)∧rs=cL (Ja l) e:=by
 refine Bd Tryz.func134 (by kernel_rfl) rfl (Nat.le_of_ble_eq_true (by kernel_rfl)) (by kernel_rfl) (A6 (O:=oLs l e) (n0:=4) rfl) ?_
 refine EvIf.mk (fun hd=>?_) fun hd=>?_
 ·exact .inl (A1 (oLs l e) [] (by exact RL4) rfl ⟨_,rfl⟩ rfl rfl ⟨by unfold Og;rw[if_pos hd];rfl,by unfold Ja;rw[if_pos hd]⟩)
 have hlb:(((l.b.map gBy).length:Nat):Int)=l.b.length:=by rw[List.length_map]
 have hS:=Z6m l e h hd h.half l.b.length h.len
 rw[←hlb] at hS
 refine EvCall.gh (.close (oLs l e) [] (by exact RL4) ⟨_,rfl⟩ rfl (.done (.same (hS.cal fun q rs hq=>?_))))
 obtain⟨rfl,rfl⟩:=hq
 refine .done ?_
 exact .inl (A7 rfl rfl ⟨by unfold Og;rw[if_neg (by rw[hd];decide)],by unfold Ja;rw[if_neg (by rw[hd];decide)]⟩)
theorem Qs (l:List ByteArray)(s:ByteArray):An (l++[s])=An l++frB s:=by unfold An;rw[List.flatMap_append];simp
theorem Ur:∀(l:List ByteArray),(∀s∈l,s.size≤4096)→(An l).length≤4100 * l.length
 | [],_=>by simp[An]
 | s::l,h=>by
  have h1:=Ur l fun x hx=>h x (by simp[hx])
  have h2:=h s (by simp)
  unfold An at *
  rw[List.flatMap_cons,List.length_append,Ds,List.length_cons];omega
theorem Ey (f:Nat)(b:Bs):∀(ns:List Nat) (d:RD),WD d→WD (runW f b ns d).1∧(runW f b ns d).1.now.length=d.now.length∧(runW f b ns d).1.wait.length≤d.wait.length+ns.length∧(runW f b ns d).1.armed≤d.armed
 | [],d,h=>⟨h,rfl,Nat.le_refl _,Int.le_refl _⟩
 | n::ns,d,h=>by
  obtain⟨h1,h2,h3⟩:=E7 d ((f+n:Nat):Int) (chB b n)
  have hw:=Id h ((f+n:Nat):Int) (chB b n)
  rw[Fa]
  split
  ·obtain⟨i1,i2,i3,i4⟩:=Ey f b ns _ hw
   refine⟨i1,by omega,?_,by omega⟩
   rw[List.length_cons];omega
  ·refine⟨hw,h1,?_,h3⟩
   rw[List.length_cons];show(Ae d _ _).wait.length≤_;omega
theorem Yp (b:Bs)(frm:Nat)(hb:b.length≤35136):(nsW b frm).length≤549:=by unfold nsW;rw[List.length_range'];omega
theorem Z7i {l:LD}(h:WA l)(hw9:l.d.wait.length≤90000)(half:Nat)(b:Bs)(frm:Nat)(hb:b.length≤35136):WA (wrL l half b frm):=by
 obtain⟨h1,h2,h3,h4⟩:=Ey (Ce half) b (nsW b frm) l.d h.d
 have h5:=Yp b frm hb
 have h6:=h.many
 have h7:=h.armed
 exact⟨h1,by show 1100≤(runW _ _ _ _).1.now.length;omega,by show(runW _ _ _ _).1.armed≤_;omega,by show(runW _ _ _ _).1.wait.length≤_;omega,h.half,h.len,h.all,h.mark⟩
theorem G6 (l:LD)(e:Nat)(h:WA l)(hw9:l.d.wait.length≤90000)(all:List ByteArray)(ha:all.length≤200)(hz:∀s∈all,s.size≤1000000):FnO Tryz.prog 132 [.ptr 0 0,.sl (all.map gSt)] (cL l e) fun g rs=>g=gI (J8 l all)∧rs=cL (Fc l all) e:=by
 refine Bd Tryz.func132 (by kernel_rfl) rfl (Nat.le_of_ble_eq_true (by kernel_rfl)) (by kernel_rfl) (A6 (O:=oLs l e) (n0:=4) rfl) ?_
 refine EvIf.mk (fun hd=>?_) fun hd=>?_
 ·exact .inl (A1 (oLs l e) [] (by exact RL4) rfl ⟨_,rfl⟩ rfl rfl ⟨by unfold J8;rw[if_pos hd];rfl,by unfold Fc;rw[if_pos hd]⟩)
 have hE:J8 l all=if Me all≠0 then Me all else if wrE l (1 - l.half) (An all) 0=true then Dd (wrL l (1 - l.half) (An all) 0) (1 - l.half) (An all).length else 40:=by unfold J8;rw[if_neg (by rw[hd];decide)]
 have hR:Fc l all=if Me all≠0 then l else if wrE l (1 - l.half) (An all) 0=true then
  (if(Ah (wrL l (1 - l.half) (An all) 0) (1 - l.half) (An all).length).dead=true then Ah (wrL l (1 - l.half) (An all) 0) (1 - l.half) (An all).length
   else {Ah (wrL l (1 - l.half) (An all) 0) (1 - l.half) (An all).length with b:=An all,all:=all})
  else wrL l (1 - l.half) (An all) 0:=by unfold Fc;rw[if_neg (by rw[hd];decide)]
 refine Bo [0,1,12,13] [0,1,2,3] (fun i:Nat=>[(14,gI i),(5,.osl 4)]) (fun i=>[(4,.slc ((An (all.take i)).map gBy) 5 1)]) (fun i=>i≤all.length∧∀s∈all.take i,s.size≤4096) (fun i=>all.length - i) 0 ⟨Nat.zero_le _,fun s hs=>by simp at hs⟩ ⟨⟨rfl,rfl⟩,⟨rfl,rfl⟩,trivial⟩ ⟨RL1,trivial⟩ rfl fun i hi=>?_
 obtain⟨hi,hI⟩:=hi
 refine EvIf.dec (fun hlt=>?_) fun hlt=>?_
 ·refine EvIdx.of (by simpa using hlt) fun s hs=>?_
  have hlt:=Dy hs
  have hmem:=List.mem_of_getElem? hs
  refine EvIf.dec (fun h4=>?_) fun h4=>?_
  ·have hf:Me all=52:=by
    unfold Me
    rw[if_pos (List.any_eq_true.2 ⟨s,hmem,by rw[decide_eq_true_iff];omega⟩)]
   exact .inl (A1 (oLs l e) [] (by exact RL4) rfl ⟨_,rfl⟩ rfl rfl ⟨by rw[hE,hf];rfl,by rw[hR,hf];rfl⟩)
  have hb:=Ur _ hI
  rw[List.length_take] at hb
  refine EvCall.lend ((U2 (An (all.take i)) (by omega) s (hz s hmem)).cal fun q rs hq=>?_)
  obtain⟨rfl,rfl⟩:=hq
  refine⟨by omega,i+1,⟨hlt,fun x hx=>?_⟩,(by dsimp only;omega),?_⟩
  ·rw[D0 hs] at hx
   rcases List.mem_append.1 hx with hx | hx
   ·exact hI x hx
   ·rw[List.mem_singleton.1 hx];omega
  refine⟨?_,?_,rfl⟩<;>repeat' (first | exact True.intro | with_reducible rfl | exact rfl | refine And.intro ?_ ?_)
  exact eqR (by rw[D0 hs,Qs])
 ·have hlen:(((all.map gSt).length:Nat):Int)=all.length:=by rw[List.length_map]
  rw[hlen] at hlt
  rw[List.take_of_length_le (by omega)] at hI⊢
  have hany:all.any (fun s=>decide (s.size > 4096))=false:=by
   rw[←Bool.not_eq_true,List.any_eq_true]
   rintro⟨s,hs,hs2⟩
   have:=hI s hs
   rw[decide_eq_true_iff] at hs2
   omega
  have hfit:Me all=if(An all).length > 35136 then 51 else 0:=by
   unfold Me
   rw[hany];rfl
  refine EvCall.lend ((Z4 l _).cal fun q rs hq=>?_)
  obtain⟨rfl,rfl⟩:=hq
  refine EvIf.dec (fun h1=>?_) fun h1=>?_
  ·rw[List.length_map] at h1
   have hf:Me all=51:=by rw[hfit,if_pos (by omega)]
   exact .inl (A1 (oLs l e) [] (by exact RL4) rfl ⟨_,rfl⟩ rfl rfl ⟨by rw[hE,hf];rfl,by rw[hR,hf];rfl⟩)
  rw[List.length_map] at h1
  have hf:Me all=0:=by rw[hfit,if_neg (by omega)]
  rw[hf,if_neg (fun h=>h rfl)] at hE hR
  have hhf:=h.half
  have hW:=Z2k l e h.d h.many h.armed (by have:=h.wait;omega) hd (h:=1 - l.half) (by omega) (An all) (by omega) 0 (Nat.zero_le _)
  have hhi:((1 - l.half:Nat):Int)=1 - (l.half:Int):=by omega
  rw[hhi] at hW
  refine⟨by omega,?_⟩
  have hWA:=Z7i h hw9 (1 - l.half) (An all) 0 (by omega)
  cases hw:wrE l (1 - l.half) (An all) 0 with
  | false =>
   rw[hw] at hW hE hR
   refine EvCall.gh (.close (oLs l e) [] (by exact RL4) ⟨_,rfl⟩ rfl (.frz 4 _ _ _ rfl (.done (.see (.same (hW.cal fun q rs hq=>?_))))))
   obtain⟨rfl,rfl⟩:=hq
   refine .opn 0 _ _ _ rfl rfl rfl (.done ?_)
   refine EvIf.bne (fun _=>?_) fun h=>absurd h (by decide)
   exact .inl (A1 (oLs (wrL l (1 - l.half) (An all) 0) e) [(1,5),(2,6),(3,7)] (by exact RL4) rfl ⟨_,rfl⟩ rfl rfl ⟨by rw[hE];rfl,by rw[hR];rfl⟩)
  | true =>
   rw[hw] at hW hE hR
   have hd2:(wrL l (1 - l.half) (An all) 0).dead=false:=by
    unfold wrE at hw
    unfold wrL
    rw[hw];rfl
   have hS:=Z6m (wrL l (1 - l.half) (An all) 0) e hWA hd2 (hf:=1 - l.half) (by omega) (An all).length (by omega)
   refine EvCall.gh (.close (oLs l e) [] (by exact RL4) ⟨_,rfl⟩ rfl (.frz 4 _ _ _ rfl (.done (.see (.same (hW.cal fun q rs hq=>?_))))))
   obtain⟨rfl,rfl⟩:=hq
   refine .opn 0 _ _ _ rfl rfl rfl (.done ?_)
   refine EvIf.bne (fun h=>absurd rfl h) fun _=>?_
   refine⟨by show _≤1 - (l.half:Int)∧1 - (l.half:Int)≤_;omega,?_⟩
   have hhi2:((1 - l.half:Nat):Int)=1 - ((wrL l (1 - l.half) (An all) 0).half:Int):=hhi
   have hlb:((((An all).map gBy).length:Nat):Int)=(An all).length:=by rw[List.length_map]
   rw[hhi2,←hlb] at hS
   refine EvCall.gh (.close (oLs (wrL l (1 - l.half) (An all) 0) e) [(1,5),(2,6),(3,7)] (by exact RL4) ⟨_,rfl⟩ rfl (.done (.same (hS.cal fun q rs hq=>?_))))
   obtain⟨rfl,rfl⟩:=hq
   refine .opn 0 _ _ _ rfl rfl rfl (.done ?_)
   cases hz:(Ah (wrL l (1 - l.half) (An all) 0) (1 - l.half) (An all).length).dead with
   | true =>
    have eS:Dd (wrL l (1 - l.half) (An all) 0) (1 - l.half) (An all).length=40:=by unfold Dd;rw[hz];rfl
    rw[eS] at hE⊢
    rw[hz] at hR
    refine EvIf.bne (fun _=>?_) fun h=>absurd h (by decide)
    exact .inl (A1 (oLs (Ah (wrL l (1 - l.half) (An all) 0) (1 - l.half) (An all).length) e) [(1,8),(2,9),(3,10)] (by exact RL4) rfl ⟨_,rfl⟩ rfl rfl ⟨by rw[hE];rfl,by rw[hR];rfl⟩)
   | false =>
    have eS:Dd (wrL l (1 - l.half) (An all) 0) (1 - l.half) (An all).length=0:=by unfold Dd;rw[hz];rfl
    rw[eS] at hE⊢
    rw[hz] at hR
    refine EvIf.bne (fun h=>absurd rfl h) fun _=>?_
    refine(Z1w all (by omega)).cal fun q rs hq=>?_
    obtain⟨rfl,rfl⟩:=hq
    exact .inl (A1 (oLs {Ah (wrL l (1 - l.half) (An all) 0) (1 - l.half) (An all).length with b:=An all,all:=all} e) [(1,8),(2,11),(3,10)] (by exact RL4) rfl ⟨_,rfl⟩ rfl rfl ⟨by rw[hE];rfl,by rw[hR];rfl⟩)
end Go.Proofs.YtihfaocdpmmooaaGreat
