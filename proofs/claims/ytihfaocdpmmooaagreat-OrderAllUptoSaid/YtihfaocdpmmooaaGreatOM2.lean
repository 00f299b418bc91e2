
import Derived.Test.YtihfaocdpmmooaaGreatOM1
namespace Go.Proofs.YtihfaocdpmmooaaGreat
open Go.RowKit
set_option maxRecDepth 100000
theorem Zb7 {n:Nat}(h:n < 2 ^ 64):IntKind.wrap .u64 (n:Int)=n:=by
 simp only[IntKind.wrap,IntKind.bits,IntKind.signed,Bool.false_and,if_false,Bool.false_eq_true]
 omega
def Zbo (m hf fm:Nat):List (List G):=(be8 (m:Int)).map gBy++[[G.v (.int .u8 ((hf:Int) % 256))],[G.v (.int .u8 (((fm:Int).fdiv (2 ^ min (Int.toNat 24) 64)) % 256))],[G.v (.int .u8 (((fm:Int).fdiv (2 ^ min (Int.toNat 16) 64)) % 256))],[G.v (.int .u8 (((fm:Int).fdiv (2 ^ min (Int.toNat 8) 64)) % 256))],[G.v (.int .u8 ((fm:Int) % 256))]]++List.replicate 43 [G.v (.int .u8 0)]++(be8 (m:Int)).map gBy
theorem Z71 (m fm:Nat){hf:Nat}(hh:hf < 2):Zbo m hf fm=(Ak m hf fm).map gBy:=by
 have e0:[G.v (.int .u8 ((hf:Int) % 256))]=gBy (UInt8.ofNat hf):=by
  unfold gBy
  have:(UInt8.ofNat hf).toNat=hf:=by rw[UInt8.toNat_ofNat'];omega
  rw[this,Int.emod_eq_of_lt (by omega) (by omega)]
 have eb:∀n:Int,[G.v (.int .u8 (n % 256))]=gBy (byI n):=fun n=>by unfold gBy;rw[Ci]
 unfold Zbo Ak
 rw[Ez _ 16777216 (Int.toNat 24) 24 rfl rfl (by decide),Ez _ 65536 (Int.toNat 16) 16 rfl rfl (by decide),Ez _ 256 (Int.toNat 8) 8 rfl rfl (by decide),e0,eb,eb,eb,eb]
 simp only[List.map_append,List.map_cons,List.map_replicate,List.append_assoc,List.cons_append,List.nil_append]
 rfl
set_option maxHeartbeats 8000000 in
theorem Z7o (l:LD)(e:Nat)(h:WA l)(hd:l.dead=false){hf:Nat}(hh:hf < 2)(fm:Nat)(_hfm:fm≤35136):FnO Tryz.prog 144 [.ptr 0 0,gI hf,gI fm] (cL l e) fun g rs=>g=gI (Dp l hf fm)∧rs=cL (Ai l hf fm) e:=by
 refine Ba Tryz.func144 (A5 (O:=oLs l e) (n0:=4) rfl) ?_
 have hS:=Z7b l.d h.d h.armed (by have:=h.wait;omega)
 by_cases hs:Dj l.d=0
 ·rw[hs] at hS
  refine dh (hS.cal fun q rs hq=>?_)
  obtain⟨rfl,rfl⟩:=hq
  refine dh ((Ho l _ hd).cal fun q rs hq=>?_)
  obtain⟨rfl,rfl⟩:=hq
  refine di (fun h=>dc rfl h) fun _=>?_
  have eM:IntKind.wrap .u64 ((l.mark:Int)+1)=((l.mark+1:Nat):Int):=by
   have:=h.mark
   rw[show(l.mark:Int)+1=((l.mark+1:Nat):Int) by omega]
   exact Zb7 (by omega)
  have hlay:=Zgu (l.mark+1)
  have eT:(IntKind.wrap .u64 ((l.mark:Int)+1)).tmod 2=(((l.mark+1) % 2:Nat):Int):=by rw[eM];rfl
  have eN:0+(IntKind.wrap .u64 ((l.mark:Int)+1)).tmod 2=(((l.mark+1) % 2:Nat):Int):=by rw[eT];omega
  obtain⟨s1,s2,s3⟩:=J7 l.d
  have hW:=Z2s (Ab l.d) (L3 h.d) (by have:=h.armed;omega) (by have:=h.wait;omega) (((l.mark+1) % 2:Nat):Int) (Ak (l.mark+1) hf fm)
  rw[←Z71 _ _ hh] at hW
  have hW:FnO Tryz.prog 19 [.ptr 0 0,gI (0+(IntKind.wrap .u64 ((l.mark:Int)+1)).tmod 2),.sl (Zbo (l.mark+1) hf fm)] (cD (Ab l.d)) fun g rs=>g=gI (Bv (Ab l.d) (((l.mark+1) % 2:Nat):Int) (Ak (l.mark+1) hf fm))∧rs=cD (Ae (Ab l.d) (((l.mark+1) % 2:Nat):Int) (Ak (l.mark+1) hf fm)):=by rw[eN];exact hW
  have hS2:=Z7b (Ae (Ab l.d) (((l.mark+1) % 2:Nat):Int) (Ak (l.mark+1) hf fm)) (J5 (L3 h.d) _ _) (by have:=h.armed;have:=(Eb (Ab l.d) (((l.mark+1) % 2:Nat):Int) (Ak (l.mark+1) hf fm)).2.2;omega) (by have:=h.wait;have:=(Eb (Ab l.d) (((l.mark+1) % 2:Nat):Int) (Ak (l.mark+1) hf fm)).2.1;omega)
  have eB:¬Bv (Ab l.d) (((l.mark+1) % 2:Nat):Int) (Ak (l.mark+1) hf fm)=0→Ai l hf fm=Hu l (Ae (Ab l.d) (((l.mark+1) % 2:Nat):Int) (Ak (l.mark+1) hf fm)):=fun hw=>by
   unfold Ai
   rw[da (fun h=>h hs),db hw]
  have eC:Bv (Ab l.d) (((l.mark+1) % 2:Nat):Int) (Ak (l.mark+1) hf fm)=0→¬Dj (Ae (Ab l.d) (((l.mark+1) % 2:Nat):Int) (Ak (l.mark+1) hf fm))=0→Ai l hf fm=Hu l (Ab (Ae (Ab l.d) (((l.mark+1) % 2:Nat):Int) (Ak (l.mark+1) hf fm))):=fun hw h2=>by
   unfold Ai
   rw[da (fun h=>h hs),da (fun h=>h hw),db h2]
  have eS:Bv (Ab l.d) (((l.mark+1) % 2:Nat):Int) (Ak (l.mark+1) hf fm)=0→Dj (Ae (Ab l.d) (((l.mark+1) % 2:Nat):Int) (Ak (l.mark+1) hf fm))=0→Ai l hf fm={l with mark:=l.mark+1,half:=hf,firm:=fm,d:=Ab (Ae (Ab l.d) (((l.mark+1) % 2:Nat):Int) (Ak (l.mark+1) hf fm))}:=fun hw h2=>by
   unfold Ai
   rw[da (fun h=>h hs),da (fun h=>h hw),da (fun h=>h h2)]
  have eD:Bv (Ab l.d) (((l.mark+1) % 2:Nat):Int) (Ak (l.mark+1) hf fm)=0→Dj (Ae (Ab l.d) (((l.mark+1) % 2:Nat):Int) (Ak (l.mark+1) hf fm))=0→some (R.blk [.ptr 1 0,gI 0,gI 549,.v (.int .u64 (IntKind.wrap .u64 ((l.mark:Int)+1))),gI hf,gI fm,.sl (l.b.map gBy),.osl 2,.v (.bool l.dead)] tLg)=some (.blk (Bn (Ai l hf fm) (.ptr 1 0) (.osl 2)) tLg):=fun hw h2=>by rw[eS hw h2,eM]
  have eDd:Bv (Ab l.d) (((l.mark+1) % 2:Nat):Int) (Ak (l.mark+1) hf fm)=0→Dj (Ae (Ab l.d) (((l.mark+1) % 2:Nat):Int) (Ak (l.mark+1) hf fm))=0→some (R.abs (cl (oDs (Ab (Ae (Ab l.d) (((l.mark+1) % 2:Nat):Int) (Ak (l.mark+1) hf fm))))))=some (.abs (cl (oDs (Ai l hf fm).d))):=fun hw h2=>by rw[eS hw h2]
  have eDa:Bv (Ab l.d) (((l.mark+1) % 2:Nat):Int) (Ak (l.mark+1) hf fm)=0→Dj (Ae (Ab l.d) (((l.mark+1) % 2:Nat):Int) (Ak (l.mark+1) hf fm))=0→some (R.slc (l.all.map gSt) 9 1)=some (.slc ((Ai l hf fm).all.map gSt) 9 1):=fun hw h2=>by rw[eS hw h2]
  have eDe:Bv (Ab l.d) (((l.mark+1) % 2:Nat):Int) (Ak (l.mark+1) hf fm)=0→Dj (Ae (Ab l.d) (((l.mark+1) % 2:Nat):Int) (Ak (l.mark+1) hf fm))=0→Dp l hf fm=0:=fun hw h2=>by unfold Dp;rw[eS hw h2];dsimp only;rw[hd];rfl
  refine((show FnV Tryz.prog 152 [.v (.int .u64 (IntKind.wrap .u64 ((l.mark:Int)+1)))] _ from by rw[eM];exact hlay).cal fun q hq=>?_)
  subst hq
  refine⟨?_,?_⟩
  all_goals
   refine⟨⟨rfl,fun g hg=>Zi6 hg⟩,?_⟩
   refine⟨by decide,?_⟩
   refine⟨⟨(show(8:Nat) < 64 from by decide),rfl⟩,?_⟩
   refine⟨rfl,?_⟩
   refine⟨⟨by decide,by decide,by decide⟩,?_⟩
   refine⟨by decide,by decide,by decide,?_⟩
   refine⟨?_,?_⟩
  ·refine⟨rfl,⟨by decide,by decide,by decide⟩,⟨rfl,?_⟩⟩
   refine⟨by decide,?_⟩
   refine⟨by rw[eT];omega,?_⟩
   refine⟨by rw[eT];omega,?_⟩
   refine⟨rfl,?_⟩
   refine hW.cal fun q rs hq=>?_
   obtain⟨rfl,rfl⟩:=hq
   by_cases hw:Bv (Ab l.d) (((l.mark+1) % 2:Nat):Int) (Ak (l.mark+1) hf fm)=0
   ·rw[hw]
    refine dh ((Ho l _ hd).cal fun q rs hq=>?_)
    obtain⟨rfl,rfl⟩:=hq
    refine di (fun h=>dc rfl h) fun _=>?_
    refine dh (hS2.cal fun q rs hq=>?_)
    obtain⟨rfl,rfl⟩:=hq
    by_cases hs2:Dj (Ae (Ab l.d) (((l.mark+1) % 2:Nat):Int) (Ak (l.mark+1) hf fm))=0
    ·rw[hs2]
     refine dh ((Ho l _ hd).cal fun q rs hq=>?_)
     obtain⟨rfl,rfl⟩:=hq
     refine di (fun h=>dc rfl h) fun _=>?_
     exact .inl (A1 (oLs (Ai l hf fm) e) [] ⟨⟨rfl,rfl,eD hw hs2⟩,⟨rfl,rfl,eDd hw hs2⟩,⟨rfl,rfl,eDa hw hs2⟩,RL1,trivial⟩ rfl ⟨_,rfl⟩ rfl rfl ⟨by rw[eDe hw hs2];rfl,rfl⟩)
    ·refine dh ((Hm l _ hs2).cal fun q rs hq=>?_)
     obtain⟨rfl,rfl⟩:=hq
     refine di (fun _=>?_) fun h=>dc h (by decide)
     exact .inl (A1 (oLs (Hu l (Ab (Ae (Ab l.d) (((l.mark+1) % 2:Nat):Int) (Ak (l.mark+1) hf fm)))) e) [] (by exact RL4) rfl ⟨_,rfl⟩ rfl rfl ⟨by unfold Dp;rw[eC hw hs2];rfl,by rw[eC hw hs2]⟩)
   ·refine dh ((Hm l _ hw).cal fun q rs hq=>?_)
    obtain⟨rfl,rfl⟩:=hq
    refine di (fun _=>?_) fun h=>dc h (by decide)
    exact .inl (A1 (oLs (Hu l (Ae (Ab l.d) (((l.mark+1) % 2:Nat):Int) (Ak (l.mark+1) hf fm))) e) [] (by exact RL4) rfl ⟨_,rfl⟩ rfl rfl ⟨by unfold Dp;rw[eB hw];rfl,by rw[eB hw]⟩)
  ·refine⟨rfl,⟨rfl,⟨by decide,by decide,by decide⟩,?_⟩⟩
   refine⟨by decide,?_⟩
   refine⟨by rw[eT];omega,?_⟩
   refine⟨by rw[eT];omega,?_⟩
   refine⟨rfl,?_⟩
   refine hW.cal fun q rs hq=>?_
   obtain⟨rfl,rfl⟩:=hq
   by_cases hw:Bv (Ab l.d) (((l.mark+1) % 2:Nat):Int) (Ak (l.mark+1) hf fm)=0
   ·rw[hw]
    refine dh ((Ho l _ hd).cal fun q rs hq=>?_)
    obtain⟨rfl,rfl⟩:=hq
    refine di (fun h=>dc rfl h) fun _=>?_
    refine dh (hS2.cal fun q rs hq=>?_)
    obtain⟨rfl,rfl⟩:=hq
    by_cases hs2:Dj (Ae (Ab l.d) (((l.mark+1) % 2:Nat):Int) (Ak (l.mark+1) hf fm))=0
    ·rw[hs2]
     refine dh ((Ho l _ hd).cal fun q rs hq=>?_)
     obtain⟨rfl,rfl⟩:=hq
     refine di (fun h=>dc rfl h) fun _=>?_
     exact .inl (A1 (oLs (Ai l hf fm) e) [] ⟨⟨rfl,rfl,eD hw hs2⟩,⟨rfl,rfl,eDd hw hs2⟩,⟨rfl,rfl,eDa hw hs2⟩,RL1,trivial⟩ rfl ⟨_,rfl⟩ rfl rfl ⟨by rw[eDe hw hs2];rfl,rfl⟩)
    ·refine dh ((Hm l _ hs2).cal fun q rs hq=>?_)
     obtain⟨rfl,rfl⟩:=hq
     refine di (fun _=>?_) fun h=>dc h (by decide)
     exact .inl (A1 (oLs (Hu l (Ab (Ae (Ab l.d) (((l.mark+1) % 2:Nat):Int) (Ak (l.mark+1) hf fm)))) e) [] (by exact RL4) rfl ⟨_,rfl⟩ rfl rfl ⟨by unfold Dp;rw[eC hw hs2];rfl,by rw[eC hw hs2]⟩)
   ·refine dh ((Hm l _ hw).cal fun q rs hq=>?_)
    obtain⟨rfl,rfl⟩:=hq
    refine di (fun _=>?_) fun h=>dc h (by decide)
    exact .inl (A1 (oLs (Hu l (Ae (Ab l.d) (((l.mark+1) % 2:Nat):Int) (Ak (l.mark+1) hf fm))) e) [] (by exact RL4) rfl ⟨_,rfl⟩ rfl rfl ⟨by unfold Dp;rw[eB hw];rfl,by rw[eB hw]⟩)
  ·refine⟨rfl,⟨by decide,by decide,by decide⟩,⟨rfl,?_⟩⟩
   refine⟨by decide,?_⟩
   refine⟨by rw[eT];omega,?_⟩
   refine⟨by rw[eT];omega,?_⟩
   refine⟨rfl,?_⟩
   refine hW.cal fun q rs hq=>?_
   obtain⟨rfl,rfl⟩:=hq
   by_cases hw:Bv (Ab l.d) (((l.mark+1) % 2:Nat):Int) (Ak (l.mark+1) hf fm)=0
   ·rw[hw]
    refine dh ((Ho l _ hd).cal fun q rs hq=>?_)
    obtain⟨rfl,rfl⟩:=hq
    refine di (fun h=>dc rfl h) fun _=>?_
    refine dh (hS2.cal fun q rs hq=>?_)
    obtain⟨rfl,rfl⟩:=hq
    by_cases hs2:Dj (Ae (Ab l.d) (((l.mark+1) % 2:Nat):Int) (Ak (l.mark+1) hf fm))=0
    ·rw[hs2]
     refine dh ((Ho l _ hd).cal fun q rs hq=>?_)
     obtain⟨rfl,rfl⟩:=hq
     refine di (fun h=>dc rfl h) fun _=>?_
     exact .inl (A1 (oLs (Ai l hf fm) e) [] ⟨⟨rfl,rfl,eD hw hs2⟩,⟨rfl,rfl,eDd hw hs2⟩,⟨rfl,rfl,eDa hw hs2⟩,RL1,trivial⟩ rfl ⟨_,rfl⟩ rfl rfl ⟨by rw[eDe hw hs2];rfl,rfl⟩)
    ·refine dh ((Hm l _ hs2).cal fun q rs hq=>?_)
     obtain⟨rfl,rfl⟩:=hq
     refine di (fun _=>?_) fun h=>dc h (by decide)
     exact .inl (A1 (oLs (Hu l (Ab (Ae (Ab l.d) (((l.mark+1) % 2:Nat):Int) (Ak (l.mark+1) hf fm)))) e) [] (by exact RL4) rfl ⟨_,rfl⟩ rfl rfl ⟨by unfold Dp;rw[eC hw hs2];rfl,by rw[eC hw hs2]⟩)
   ·refine dh ((Hm l _ hw).cal fun q rs hq=>?_)
    obtain⟨rfl,rfl⟩:=hq
    refine di (fun _=>?_) fun h=>dc h (by decide)
    exact .inl (A1 (oLs (Hu l (Ae (Ab l.d) (((l.mark+1) % 2:Nat):Int) (Ak (l.mark+1) hf fm))) e) [] (by exact RL4) rfl ⟨_,rfl⟩ rfl rfl ⟨by unfold Dp;rw[eB hw];rfl,by rw[eB hw]⟩)
  ·refine⟨rfl,⟨rfl,⟨by decide,by decide,by decide⟩,?_⟩⟩
   refine⟨by decide,?_⟩
   refine⟨by rw[eT];omega,?_⟩
   refine⟨by rw[eT];omega,?_⟩
   refine⟨rfl,?_⟩
   refine hW.cal fun q rs hq=>?_
   obtain⟨rfl,rfl⟩:=hq
   by_cases hw:Bv (Ab l.d) (((l.mark+1) % 2:Nat):Int) (Ak (l.mark+1) hf fm)=0
   ·rw[hw]
    refine dh ((Ho l _ hd).cal fun q rs hq=>?_)
    obtain⟨rfl,rfl⟩:=hq
    refine di (fun h=>dc rfl h) fun _=>?_
    refine dh (hS2.cal fun q rs hq=>?_)
    obtain⟨rfl,rfl⟩:=hq
    by_cases hs2:Dj (Ae (Ab l.d) (((l.mark+1) % 2:Nat):Int) (Ak (l.mark+1) hf fm))=0
    ·rw[hs2]
     refine dh ((Ho l _ hd).cal fun q rs hq=>?_)
     obtain⟨rfl,rfl⟩:=hq
     refine di (fun h=>dc rfl h) fun _=>?_
     exact .inl (A1 (oLs (Ai l hf fm) e) [] ⟨⟨rfl,rfl,eD hw hs2⟩,⟨rfl,rfl,eDd hw hs2⟩,⟨rfl,rfl,eDa hw hs2⟩,RL1,trivial⟩ rfl ⟨_,rfl⟩ rfl rfl ⟨by rw[eDe hw hs2];rfl,rfl⟩)
    ·refine dh ((Hm l _ hs2).cal fun q rs hq=>?_)
     obtain⟨rfl,rfl⟩:=hq
     refine di (fun _=>?_) fun h=>dc h (by decide)
     exact .inl (A1 (oLs (Hu l (Ab (Ae (Ab l.d) (((l.mark+1) % 2:Nat):Int) (Ak (l.mark+1) hf fm)))) e) [] (by exact RL4) rfl ⟨_,rfl⟩ rfl rfl ⟨by unfold Dp;rw[eC hw hs2];rfl,by rw[eC hw hs2]⟩)
   ·refine dh ((Hm l _ hw).cal fun q rs hq=>?_)
    obtain⟨rfl,rfl⟩:=hq
    refine di (fun _=>?_) fun h=>dc h (by decide)
    exact .inl (A1 (oLs (Hu l (Ae (Ab l.d) (((l.mark+1) % 2:Nat):Int) (Ak (l.mark+1) hf fm))) e) [] (by exact RL4) rfl ⟨_,rfl⟩ rfl rfl ⟨by unfold Dp;rw[eB hw];rfl,by rw[eB hw]⟩)
 ·refine dh (hS.cal fun q rs hq=>?_)
  obtain⟨rfl,rfl⟩:=hq
  refine dh ((Hm l _ hs).cal fun q rs hq=>?_)
  obtain⟨rfl,rfl⟩:=hq
  refine di (fun _=>?_) fun h=>dc h (by decide)
  have eA:Ai l hf fm=Hu l (Ab l.d):=by unfold Ai;rw[db hs]
  exact .inl (A1 (oLs (Hu l (Ab l.d)) e) [] (by exact RL4) rfl ⟨_,rfl⟩ rfl rfl ⟨by unfold Dp;rw[eA];rfl,by rw[eA]⟩)
theorem Z09 (l:LD)(e:Nat)(h:WA l):FnO Tryz.prog 134 [.ptr 0 0] (cL l e) fun g rs=>g=gI (P0 l)∧rs=cL (K2 l) e:=by
 refine Ba Tryz.func134 (A5 (O:=oLs l e) (n0:=4) rfl) ?_
 refine dj (fun hd=>?_) fun hd=>?_
 ·exact .inl (A1 (oLs l e) [] (by exact RL4) rfl ⟨_,rfl⟩ rfl rfl ⟨by unfold P0;rw[db hd];rfl,by unfold K2;rw[db hd]⟩)
 have hlb:(((l.b.map gBy).length:Nat):Int)=l.b.length:=by rw[aa]
 have hS:=Z7o l e h hd h.half l.b.length h.len
 rw[←hlb] at hS
 refine dg (.close (oLs l e) [] (by exact RL4) ⟨_,rfl⟩ rfl (.done (.same (hS.cal fun q rs hq=>?_))))
 obtain⟨rfl,rfl⟩:=hq
 refine .done ?_
 exact .inl (A7 rfl rfl ⟨by unfold P0;rw[da (by rw[hd];decide)],by unfold K2;rw[da (by rw[hd];decide)]⟩)
theorem Pu (l:List ByteArray)(s:ByteArray):Am (l++[s])=Am l++frB s:=by unfold Am;rw[List.flatMap_append];simp
theorem Vx:∀(l:List ByteArray),(∀s∈l,s.size≤4096)→(Am l).length≤4100 * l.length
 | [],_=>by simp[Am]
 | s::l,h=>by
  have h1:=Vx l fun x hx=>h x (by simp[hx])
  have h2:=h s (by simp)
  unfold Am at *
  rw[List.flatMap_cons,aw,E2,bc];omega
theorem F5 (f:Nat)(b:Bs):∀(ns:List Nat) (d:RD),WD d→WD (runW f b ns d).1∧(runW f b ns d).1.now.length=d.now.length∧(runW f b ns d).1.wait.length≤d.wait.length+ns.length∧(runW f b ns d).1.armed≤d.armed
 | [],d,h=>⟨h,rfl,af _,bp _⟩
 | n::ns,d,h=>by
  obtain⟨h1,h2,h3⟩:=Eb d ((f+n:Nat):Int) (chB b n)
  have hw:=J5 h ((f+n:Nat):Int) (chB b n)
  rw[Ff]
  split
  ·obtain⟨i1,i2,i3,i4⟩:=F5 f b ns _ hw
   refine⟨i1,by omega,?_,by omega⟩
   rw[bc];omega
  ·refine⟨hw,h1,?_,h3⟩
   rw[bc];show(Ae d _ _).wait.length≤_;omega
theorem Z2k (b:Bs)(frm:Nat)(hb:b.length≤35136):(nsW b frm).length≤549:=by unfold nsW;rw[List.length_range'];omega
theorem Z7c {l:LD}(h:WA l)(hw9:l.d.wait.length≤90000)(half:Nat)(b:Bs)(frm:Nat)(hb:b.length≤35136):WA (wrL l half b frm):=by
 obtain⟨h1,h2,h3,h4⟩:=F5 (Cq half) b (nsW b frm) l.d h.d
 have h5:=Z2k b frm hb
 have h6:=h.many
 have h7:=h.armed
 exact⟨h1,by show 1100≤(runW _ _ _ _).1.now.length;omega,by show(runW _ _ _ _).1.armed≤_;omega,by show(runW _ _ _ _).1.wait.length≤_;omega,h.half,h.len,h.all,h.mark⟩
theorem Gt (l:LD)(e:Nat)(h:WA l)(hw9:l.d.wait.length≤90000)(all:List ByteArray)(ha:all.length≤200)(hz:∀s∈all,s.size≤1000000):FnO Tryz.prog 132 [.ptr 0 0,.sl (all.map gSt)] (cL l e) fun g rs=>g=gI (Jv l all)∧rs=cL (Fq l all) e:=by
 refine Ba Tryz.func132 (A5 (O:=oLs l e) (n0:=4) rfl) ?_
 refine dj (fun hd=>?_) fun hd=>?_
 ·exact .inl (A1 (oLs l e) [] (by exact RL4) rfl ⟨_,rfl⟩ rfl rfl ⟨by unfold Jv;rw[db hd];rfl,by unfold Fq;rw[db hd]⟩)
 have hE:Jv l all=if N0 all≠0 then N0 all else if wrE l (1 - l.half) (Am all) 0=true then Dp (wrL l (1 - l.half) (Am all) 0) (1 - l.half) (Am all).length else 40:=by unfold Jv;rw[da (by rw[hd];decide)]
 have hR:Fq l all=if N0 all≠0 then l else if wrE l (1 - l.half) (Am all) 0=true then
  (if(Ai (wrL l (1 - l.half) (Am all) 0) (1 - l.half) (Am all).length).dead=true then Ai (wrL l (1 - l.half) (Am all) 0) (1 - l.half) (Am all).length
   else {Ai (wrL l (1 - l.half) (Am all) 0) (1 - l.half) (Am all).length with b:=Am all,all:=all})
  else wrL l (1 - l.half) (Am all) 0:=by unfold Fq;rw[da (by rw[hd];decide)]
 refine Ap [0,1,12,13] [0,1,2,3] (fun i:Nat=>[(14,gI i),(5,.osl 4)]) (fun i=>[(4,.slc ((Am (all.take i)).map gBy) 5 1)]) (fun i=>i≤all.length∧∀s∈all.take i,s.size≤4096) (fun i=>all.length - i) 0 ⟨ah _,fun s hs=>by simp at hs⟩ ⟨⟨rfl,rfl⟩,⟨rfl,rfl⟩,trivial⟩ ⟨RL1,trivial⟩ rfl fun i hi=>?_
 obtain⟨hi,hI⟩:=hi
 refine df (fun hlt=>?_) fun hlt=>?_
 ·refine dn (by simpa using hlt) fun s hs=>?_
  have hlt:=Bl hs
  have hmem:=ae hs
  refine df (fun h4=>?_) fun h4=>?_
  ·have hf:N0 all=52:=by
    unfold N0
    rw[db (List.any_eq_true.2 ⟨s,hmem,by rw[decide_eq_true_iff];omega⟩)]
   exact .inl (A1 (oLs l e) [] (by exact RL4) rfl ⟨_,rfl⟩ rfl rfl ⟨by rw[hE,hf];rfl,by rw[hR,hf];rfl⟩)
  have hb:=Vx _ hI
  rw[au] at hb
  refine dh ((Uh (Am (all.take i)) (by omega) s (hz s hmem)).cal fun q rs hq=>?_)
  obtain⟨rfl,rfl⟩:=hq
  refine⟨by omega,i+1,⟨hlt,fun x hx=>?_⟩,(by dsimp only;omega),?_⟩
  ·rw[An hs] at hx
   rcases br.1 hx with hx | hx
   ·exact hI x hx
   ·rw[bm.1 hx];omega
  refine⟨?_,?_,rfl⟩<;>repeat' (first|exact trivial|with_reducible rfl|exact rfl|refine And.intro ?_ ?_)
  exact eqR (by rw[An hs,Pu])
 ·have hlen:(((all.map gSt).length:Nat):Int)=all.length:=by rw[aa]
  rw[hlen] at hlt
  rw[ao (by omega)] at hI⊢
  have hany:all.any (fun s=>decide (s.size > 4096))=false:=by
   rw[←Bool.not_eq_true,List.any_eq_true]
   rintro⟨s,hs,hs2⟩
   have:=hI s hs
   rw[decide_eq_true_iff] at hs2
   omega
  have hfit:N0 all=if(Am all).length > 35136 then 51 else 0:=by
   unfold N0
   rw[hany];rfl
  refine dh ((Zu l _).cal fun q rs hq=>?_)
  obtain⟨rfl,rfl⟩:=hq
  refine df (fun h1=>?_) fun h1=>?_
  ·rw[aa] at h1
   have hf:N0 all=51:=by rw[hfit,db (by omega)]
   exact .inl (A1 (oLs l e) [] (by exact RL4) rfl ⟨_,rfl⟩ rfl rfl ⟨by rw[hE,hf];rfl,by rw[hR,hf];rfl⟩)
  rw[aa] at h1
  have hf:N0 all=0:=by rw[hfit,da (by omega)]
  rw[hf,da (fun h=>h rfl)] at hE hR
  have hhf:=h.half
  have hW:=Z07 l e h.d h.many h.armed (by have:=h.wait;omega) hd (h:=1 - l.half) (by omega) (Am all) (by omega) 0 (ah _)
  have hhi:((1 - l.half:Nat):Int)=1 - (l.half:Int):=by omega
  rw[hhi] at hW
  refine⟨by omega,?_⟩
  have hWA:=Z7c h hw9 (1 - l.half) (Am all) 0 (by omega)
  cases hw:wrE l (1 - l.half) (Am all) 0 with
  | false =>
   rw[hw] at hW hE hR
   refine dg (.close (oLs l e) [] (by exact RL4) ⟨_,rfl⟩ rfl (.frz 4 _ _ _ rfl (.done (.see (.same (hW.cal fun q rs hq=>?_))))))
   obtain⟨rfl,rfl⟩:=hq
   refine .opn 0 _ _ _ rfl rfl rfl (.done ?_)
   refine di (fun _=>?_) fun h=>dc h (by decide)
   exact .inl (A1 (oLs (wrL l (1 - l.half) (Am all) 0) e) [(1,5),(2,6),(3,7)] (by exact RL4) rfl ⟨_,rfl⟩ rfl rfl ⟨by rw[hE];rfl,by rw[hR];rfl⟩)
  | true =>
   rw[hw] at hW hE hR
   have hd2:(wrL l (1 - l.half) (Am all) 0).dead=false:=by
    unfold wrE at hw
    unfold wrL
    rw[hw];rfl
   have hS:=Z7o (wrL l (1 - l.half) (Am all) 0) e hWA hd2 (hf:=1 - l.half) (by omega) (Am all).length (by omega)
   refine dg (.close (oLs l e) [] (by exact RL4) ⟨_,rfl⟩ rfl (.frz 4 _ _ _ rfl (.done (.see (.same (hW.cal fun q rs hq=>?_))))))
   obtain⟨rfl,rfl⟩:=hq
   refine .opn 0 _ _ _ rfl rfl rfl (.done ?_)
   refine di (fun h=>dc rfl h) fun _=>?_
   refine⟨by show _≤1 - (l.half:Int)∧1 - (l.half:Int)≤_;omega,?_⟩
   have hhi2:((1 - l.half:Nat):Int)=1 - ((wrL l (1 - l.half) (Am all) 0).half:Int):=hhi
   have hlb:((((Am all).map gBy).length:Nat):Int)=(Am all).length:=by rw[aa]
   rw[hhi2,←hlb] at hS
   refine dg (.close (oLs (wrL l (1 - l.half) (Am all) 0) e) [(1,5),(2,6),(3,7)] (by exact RL4) ⟨_,rfl⟩ rfl (.done (.same (hS.cal fun q rs hq=>?_))))
   obtain⟨rfl,rfl⟩:=hq
   refine .opn 0 _ _ _ rfl rfl rfl (.done ?_)
   cases hz:(Ai (wrL l (1 - l.half) (Am all) 0) (1 - l.half) (Am all).length).dead with
   | true =>
    have eS:Dp (wrL l (1 - l.half) (Am all) 0) (1 - l.half) (Am all).length=40:=by unfold Dp;rw[hz];rfl
    rw[eS] at hE⊢
    rw[hz] at hR
    refine di (fun _=>?_) fun h=>dc h (by decide)
    exact .inl (A1 (oLs (Ai (wrL l (1 - l.half) (Am all) 0) (1 - l.half) (Am all).length) e) [(1,8),(2,9),(3,10)] (by exact RL4) rfl ⟨_,rfl⟩ rfl rfl ⟨by rw[hE];rfl,by rw[hR];rfl⟩)
   | false =>
    have eS:Dp (wrL l (1 - l.half) (Am all) 0) (1 - l.half) (Am all).length=0:=by unfold Dp;rw[hz];rfl
    rw[eS] at hE⊢
    rw[hz] at hR
    refine di (fun h=>dc rfl h) fun _=>?_
    refine(Zq all (by omega)).cal fun q rs hq=>?_
    obtain⟨rfl,rfl⟩:=hq
    exact .inl (A1 (oLs {Ai (wrL l (1 - l.half) (Am all) 0) (1 - l.half) (Am all).length with b:=Am all,all:=all} e) [(1,8),(2,11),(3,10)] (by exact RL4) rfl ⟨_,rfl⟩ rfl rfl ⟨by rw[hE];rfl,by rw[hR];rfl⟩)
end Go.Proofs.YtihfaocdpmmooaaGreat
