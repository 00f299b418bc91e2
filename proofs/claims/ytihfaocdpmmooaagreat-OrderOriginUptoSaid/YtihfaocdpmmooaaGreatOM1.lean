
import Derived.Test.YtihfaocdpmmooaaGreatPl1
import Derived.Test.YtihfaocdpmmooaaGreatFn1
import Derived.Test.YtihfaocdpmmooaaGreatPKN
import Derived.Test.YtihfaocdpmmooaaGreatSxMe
namespace Go.Proofs.YtihfaocdpmmooaaGreat
open Go.RowKit
set_option maxRecDepth 100000
abbrev tDk:Nat:=108
abbrev tSc:Nat:=124
abbrev tWr:Nat:=126
def Dw (s:Sec):List G:=s.map fun c=>.v (.int .u8 c.toNat)
def enW (w:Nat × Sec):List G:=gI w.1::Dw w.2
abbrev oD (d:RD):List R:=[.blk [.osl 1,.osl 2,.osl 3,gI d.armed,.v (.bool d.dead)] tDk,.slc (d.now.map Dw) tSc 64,.slc (d.firm.map Dw) tSc 64,.slc (d.wait.map enW) tWr 65]
abbrev oDs (d:RD):Os:=Aw (oD d) 0
abbrev cD (d:RD):List R:=[.abs (cl (oDs d))]
theorem Hd {s:Sec}{g:G}(h:g∈Dw s):Fy g=true:=by
 obtain⟨c,-,rfl⟩:=List.mem_map.1 h
 rfl
theorem Bk (s:Sec):(Dw s).length=s.length:=List.length_map ..
theorem Qg {w:Nat × Sec}{g:G}(h:g∈enW w):Fy g=true:=by
 rcases List.mem_cons.1 h with rfl | h
 ·rfl
 ·exact Hd h
theorem N8 (b:Bs):∀r∈b.map gBy,r.length=1∧r.all G.one=true:=fun r hr=>by
 obtain⟨c,-,rfl⟩:=List.mem_map.1 hr
 exact⟨rfl,rfl⟩
theorem Xj (b:Bs):(b.map gBy).take (min (b.map gBy).length (zk124.map fun g=>[g]).length)++(zk124.map fun g=>[g]).drop (min (b.map gBy).length (zk124.map fun g=>[g]).length)=(E1 b).map gBy:=by
 have e:zk124.map (fun g=>[g])=(List.replicate 64 (0:UInt8)).map gBy:=by
  unfold zk124
  rw[List.map_replicate,List.map_replicate]
  rfl
 rw[e]
 unfold E1
 rw[List.map_append,←List.map_take,←List.map_drop,List.length_map,List.length_map,List.length_replicate,List.drop_replicate]
 congr 2
 ·by_cases h:b.length≤64
  ·rw[Nat.min_eq_left h,List.take_of_length_le (Nat.le_refl _),List.take_of_length_le h]
  ·rw[Nat.min_eq_right (by omega)]
 ·congr 1;omega
theorem Tl (s:Sec):∀r∈s.map gBy,∀g∈r,g.pure=true:=fun r hr g hg=>by
 obtain⟨c,-,rfl⟩:=List.mem_map.1 hr
 rw[List.mem_singleton.1 hg];rfl
theorem P5:∀s:Sec,(s.map gBy).flatten=Dw s
 | []=>rfl
 | c::s=>by
  rw[List.map_cons,List.flatten_cons,P5 s]
  rfl
theorem Oe {s:Sec}(h:s.length=64):((s.map gBy).flatten.drop 0).take 64=Dw s:=by
 rw[P5,List.drop_zero,List.take_of_length_le (by rw[Bk,h];exact Nat.le_refl _)]
theorem S6 {s:Sec}(h:s.length=64):(((s.map gBy).flatten.drop 0).take 64).length=64:=by rw[Oe h,Bk,h]
theorem Zf7 (s:Sec):∀g∈((s.map gBy).flatten.drop 0).take 64,Fy g=true:=fun g hg=>by
 have:=List.mem_of_mem_drop (List.mem_of_mem_take hg)
 rw[P5] at this
 exact Hd this
theorem Sa {l:List Sec}{i:Nat}{s:Sec}{cs:List G}{K:List (List G)→Prop}(hi:i < l.length)(hl:∀x∈l,x.length=64)(hs:s.length=64)(hc:cs=Dw s)(h:K ((l.set i s).map Dw)):EvSet (l.map Dw) i (fun row k=>ovr 64 row 0 cs k) K:=by
 subst hc
 refine EvSet.at (f:=Dw) (List.getElem?_eq_getElem hi) (fun k hk=>?_) rfl h
 have hx:=hl _ (List.getElem_mem hi)
 refine(show Ed ((Dw s).length=64∧0+64≤(Dw l[i]).length) (k ((Dw l[i]).take 0++Dw s++(Dw l[i]).drop (0+64))) from⟨⟨by rw[Bk,hs],by rw[Bk,hx];exact Nat.le_refl _⟩,?_⟩)
 rw[List.take_zero,List.nil_append,List.drop_of_length_le (by rw[Bk,hx];exact Nat.le_refl _),List.append_nil]
 exact hk
theorem Co {w:Nat × Sec}(h:w.2.length=64):(enW w).length=65:=by
 show(Dw w.2).length+1=65
 rw[Bk,h]
theorem Z4w {n:Int}{s:Sec}(h0:0≤n)(h:s.length=64):List.take 1 (gI n::List.replicate 64 (G.v (.int .u8 0)))++((s.map gBy).flatten.drop 0).take zk124.length++List.drop (1+zk124.length) (gI n::List.replicate 64 (G.v (.int .u8 0)))=enW (n.toNat,s):=by
 rw[show zk124.length=64 from rfl]
 rw[Oe h,List.drop_of_length_le (by simp),List.append_nil]
 show gI n::Dw s=gI (n.toNat:Nat)::Dw s
 rw[Int.toNat_of_nonneg h0]
theorem Z8q (s:Sec):(Dw s).map (fun g=>[g])=s.map gBy:=List.map_map ..
theorem Z5i {s:Sec}(h:s.length=64):List.take zk124.length (List.drop 0 (Dw s))=Dw s:=by
 rw[List.drop_zero,List.take_of_length_le (by rw[Bk,h];exact Nat.le_refl _)]
theorem Z4f (s:Sec):List.take 0 zk124++Dw s++List.drop (0+zk124.length) zk124=Dw s:=by
 rw[List.take_zero,List.nil_append,List.drop_of_length_le (by simp),List.append_nil]
theorem Rp {w:Nat × Sec}(h:w.2.length=64):List.take zk126.length (List.drop 0 (enW w))=enW w:=by
 rw[List.drop_zero,List.take_of_length_le (by rw[Co h];exact Nat.le_refl _)]
theorem T7 (w:Nat × Sec):List.take 0 zk126++enW w++List.drop (0+zk126.length) zk126=enW w:=by
 rw[List.take_zero,List.nil_append,List.drop_of_length_le (by simp),List.append_nil]
theorem Z6a {w:Nat × Sec}(h:w.2.length=64):List.take zk124.length (List.drop (Nat.add 0 1) (enW w))=Dw w.2:=by
 show List.take 64 (Dw w.2)=_
 rw[List.take_of_length_le (by rw[Bk,h];exact Nat.le_refl _)]
theorem Zg2 {g:G}(h:g∈zk124):Fy g=true:=by rw[(List.mem_replicate.1 h).2];rfl
theorem Zat (d:RD)(n:Int):FnO Tryz.prog 61 [.ptr 0 0,gI n] (cD d) fun g rs=>g=gI (K0 d n)∧rs=cD d:=by
 refine Bd Tryz.func61 (by kernel_rfl) rfl (Nat.le_of_ble_eq_true (by kernel_rfl)) (by kernel_rfl) (A6 (O:=oDs d) (n0:=4) rfl) ?_
 have fin:∀{e:Int} {own:Os} {n0:Nat},leI [] own n0 (oDs d)→e=K0 d n→Z2n [0] own n0 (gI e) (fun g rs=>g=gI (K0 d n)∧rs=cD d):=fun hl he=>.inl (A1 (oDs d) [] hl rfl ⟨_,rfl⟩ rfl rfl ⟨by rw[he],rfl⟩)
 refine EvIf.mk (fun hd=>?_) fun hd=>?_
 ·exact fin (by exact RL4) (by unfold K0;rw[if_pos hd])
 have hm:K0 d n=if n < 0∨n ≥ d.now.length then 41 else 0:=by unfold K0;rw[if_neg (by rw[hd];decide)]
 refine EvIf.dec (fun h=>?_) fun h=>?_
 ·exact fin (by exact RL4) (by rw[hm,if_pos (.inl h)])
 ·refine EvIf.dec (fun h2=>?_) fun h2=>?_
  ·exact fin (by exact RL4) (by rw[List.length_map] at h2;rw[hm,if_pos (.inr h2)])
  ·exact fin (by exact RL4) (by rw[List.length_map] at h2;rw[hm,if_neg (by omega)])
theorem Z6y (d:RD)(ha:0≤d.armed)(hb:d.armed≤9223372036854775807):FnO Tryz.prog 62 [.ptr 0 0] (cD d) fun g rs=>g=.v (.bool (F4 d))∧rs=cD (Ba d):=by
 refine Bd Tryz.func62 (by kernel_rfl) rfl (Nat.le_of_ble_eq_true (by kernel_rfl)) (by kernel_rfl) (A6 (O:=oDs d) (n0:=4) rfl) ?_
 refine EvIf.beq (fun h=>?_) fun h=>?_
 ·exact .inl (A1 (oDs d) [] (by exact RL4) rfl ⟨_,rfl⟩ rfl rfl ⟨by unfold F4;rw[if_pos h],by unfold Ba;rw[if_pos h]⟩)
 ·refine⟨by omega,?_⟩
  exact .inl (A1 (oDs {d with armed:=d.armed - 1,dead:=(d.armed - 1==0)}) [] (by exact RL4) rfl ⟨_,rfl⟩ rfl rfl ⟨by unfold F4;rw[if_neg h],by unfold Ba;rw[if_neg h]⟩)
theorem Zh (d:RD):FnO Tryz.prog 55 [.ptr 0 0] (cD d) fun g rs=>g=gI d.now.length∧rs=cD d:=by
 refine Bd Tryz.func55 (by kernel_rfl) rfl (Nat.le_of_ble_eq_true (by kernel_rfl)) (by kernel_rfl) (A6 (O:=oDs d) (n0:=4) rfl) ?_
 exact .inl (A1 (oDs d) [] (by exact RL4) rfl ⟨_,rfl⟩ rfl rfl ⟨by rw[List.length_map],rfl⟩)
theorem Z0w (d:RD):FnO Tryz.prog 53 [.ptr 0 0] (cD d) fun g rs=>g=.v (.bool d.dead)∧rs=cD d:=by
 refine Bd Tryz.func53 (by kernel_rfl) rfl (Nat.le_of_ble_eq_true (by kernel_rfl)) (by kernel_rfl) (A6 (O:=oDs d) (n0:=4) rfl) ?_
 exact .inl (A1 (oDs d) [] (by exact RL4) rfl ⟨_,rfl⟩ rfl rfl ⟨rfl,rfl⟩)
theorem Zc0 (many:Int):FnO Tryz.prog 16 [gI many] [] fun g rs=>g=.ptr 0 0∧rs=cD (Xb many):=by
 refine Bd Tryz.func16 (by kernel_rfl) rfl (Nat.le_of_ble_eq_true (by kernel_rfl)) (by kernel_rfl) (Qy _) ?_
 have hm:0≤min (max many 0) 65536∧min (max many 0) 65536≤65536:=by omega
 have hb:0≤min (max many 0) 65536∧min (max many 0) 65536≤1073741824∧min (max many 0) 65536=min (max many 0) 65536∧min (max many 0) 65536 * 64≤1073741824:=⟨hm.1,by omega,rfl,by omega⟩
 have e1:List.replicate (min (max many 0) 65536).toNat zk124=(Xb many).now.map Dw:=by
  show _=(List.replicate _ _).map Dw
  rw[List.map_replicate];rfl
 refine⟨⟨hb,⟨hb,?_⟩⟩,⟨hb,⟨hb,?_⟩⟩⟩
 ·exact .gh (.nil 2 [.osl 0,.osl 1] [gI 0,.ff] tDk tWr 65 rfl (by decide) (.seen 2 _ _ rfl (.done ⟨[⟨oDs (Xb many),[(0,2),(1,0),(2,1),(3,3)],true⟩],.ptr 0 0,⟨⟨⟨⟨RL1,⟨rfl,rfl,eqR e1⟩,⟨rfl,rfl,eqR e1⟩,RL1,trivial⟩,_,rfl⟩,trivial⟩,rfl,⟨_,rfl⟩,rfl,rfl,⟨rfl,rfl⟩⟩⟩)))
 ·exact .gh (.nil 2 [.osl 1,.osl 0] [gI 0,.ff] tDk tWr 65 rfl (by decide) (.seen 2 _ _ rfl (.done ⟨[⟨oDs (Xb many),[(0,2),(1,1),(2,0),(3,3)],true⟩],.ptr 0 0,⟨⟨⟨⟨RL1,⟨rfl,rfl,eqR e1⟩,⟨rfl,rfl,eqR e1⟩,RL1,trivial⟩,_,rfl⟩,trivial⟩,rfl,⟨_,rfl⟩,rfl,rfl,⟨rfl,rfl⟩⟩⟩)))
theorem Zc (d:RD)(hd:WD d)(ha:d.armed≤9223372036854775807)(hw:d.wait.length≤1000000)(n:Int)(b:Sec):FnO Tryz.prog 19 [.ptr 0 0,gI n,.sl (b.map gBy)] (cD d) fun g rs=>g=gI (Bn d n b)∧rs=cD (Ae d n b):=by
 refine Bd Tryz.func19 (by kernel_rfl) rfl (Nat.le_of_ble_eq_true (by kernel_rfl)) (by kernel_rfl) (A6 (O:=oDs d) (n0:=4) rfl) ?_
 refine EvCall.gh (.close (oDs d) [] (by exact RL4) ⟨_,rfl⟩ rfl (.done (.same ((Zat d n).cal fun q rs hq=>?_))))
 obtain⟨rfl,rfl⟩:=hq
 refine .opn 0 _ _ _ rfl rfl rfl (.done ?_)
 refine EvIf.bne (fun he=>?_) fun he=>?_
 ·exact .inl (A1 (oDs d) [(1,4),(2,5),(3,6)] (by exact RL4) rfl ⟨_,rfl⟩ rfl rfl ⟨by unfold Bn;rw[if_pos he],by unfold Ae;rw[if_pos he]⟩)
 have hE:Bn d n b=if b.length > 64 then 41 else if F4 d=true then 40 else 0:=by unfold Bn;rw[if_neg (by simpa using he)]
 have hW:Ae d n b=if b.length > 64 then d else Ba (Z4o d n.toNat (E1 b)):=by unfold Ae;rw[if_neg (by simpa using he)]
 have hm:=Or he
 refine EvIf.dec (fun h6=>?_) fun h6=>?_
 ·rw[List.length_map] at h6
  exact .inl (A1 (oDs d) [(1,4),(2,5),(3,6)] (by exact RL4) rfl ⟨_,rfl⟩ rfl rfl ⟨by rw[hE,if_pos (by omega)];rfl,by rw[hW,if_pos (by omega)]⟩)
 rw[List.length_map] at h6
 refine⟨⟨rfl,fun g hg=>Zg2 hg⟩,⟨N8 b,?_⟩⟩
 conv=>whnf
 rw[Xj b]
 refine⟨⟨by rw[List.length_map,Ca];exact Nat.le_refl _,Tl _⟩,?_⟩
 refine⟨⟨hm.2.1,by rw[List.length_map];exact hm.2.2⟩,?_⟩
 refine⟨⟨S6 (Ca b),Zf7 _⟩,?_⟩
 refine Sa (s:=E1 b) (l:=d.now) (by omega) hd.now (Ca b) (Oe (Ca b)) ?_
 refine⟨⟨by rw[List.length_map,Ca];exact Nat.le_refl _,Tl _⟩,?_⟩
 refine⟨S6 (Ca b),?_⟩
 refine⟨⟨S6 (Ca b),Nat.le_refl _⟩,?_⟩
 conv=>whnf
 rw[Z4w hm.2.1 (Ca b)]
 refine⟨fun g hg=>Fh (Qg hg),?_⟩
 refine⟨⟨Co (w:=(n.toNat,E1 b)) (Ca b),fun g hg=>Qg hg⟩,?_⟩
 refine⟨by rw[List.length_map];show d.wait.length+1≤_;omega,?_⟩
 refine EvCall.gh (.close (oDs (Z4o d n.toNat (E1 b))) [(1,4),(2,5),(3,10)] ⟨RL1,RL1,RL1,⟨rfl,rfl,eqR (by show _=(d.wait++[_]).map enW;rw[List.map_append];rfl)⟩,trivial⟩ ⟨_,rfl⟩ rfl (.done (.same ((Z6y (Z4o d n.toNat (E1 b)) hd.armed ha).cal fun q rs hq=>?_))))
 obtain⟨rfl,rfl⟩:=hq
 refine .done ?_
 have e1:F4 (Z4o d n.toNat (E1 b))=F4 d:=rfl
 refine EvIf.mk (fun h=>?_) fun h=>?_
 ·exact .inl (A7 rfl rfl ⟨by rw[hE,if_neg (by omega),if_pos (e1 ▸ h)];rfl,by rw[hW,if_neg (by omega)]⟩)
 ·exact .inl (A7 rfl rfl ⟨by rw[hE,if_neg (by omega),if_neg (by rw[←e1,h];decide)];rfl,by rw[hW,if_neg (by omega)]⟩)
theorem Z68 (d:RD)(hd:WD d)(n:Int):FnO Tryz.prog 125 [.ptr 0 0,gI n] (cD d) fun g rs=>g=.tup [.sl ((Mc d n).map gBy),gI (K0 d n)]∧rs=cD d:=by
 refine Bd Tryz.func125 (by kernel_rfl) rfl (Nat.le_of_ble_eq_true (by kernel_rfl)) (by kernel_rfl) (A6 (O:=oDs d) (n0:=4) rfl) ?_
 refine EvCall.gh (.close (oDs d) [] (by exact RL4) ⟨_,rfl⟩ rfl (.done (.same ((Zat d n).cal fun q rs hq=>?_))))
 obtain⟨rfl,rfl⟩:=hq
 refine .opn 0 _ _ _ rfl rfl rfl (.done ?_)
 refine EvIf.bne (fun he=>?_) fun he=>?_
 ·exact .gh (.frz 8 [] _ _ rfl (.done (A1 (oDs d) [(1,5),(2,6),(3,7)] (by exact RL4) rfl ⟨_,rfl⟩ rfl rfl ⟨by unfold Mc;rw[if_pos he];rfl,rfl⟩)))
 have hm:=Or he
 have hlt:n.toNat < d.now.length:=by omega
 have hs:=hd.now _ (List.getElem_mem hlt)
 have hR:Mc d n=d.now[n.toNat]:=by unfold Mc;rw[if_neg (by simpa using he),List.getElem?_eq_getElem hlt];rfl
 refine⟨⟨hm.2.1,by rw[List.length_map];exact hm.2.2⟩,?_⟩
 refine EvIdx.at (List.getElem?_eq_getElem hlt) ?_
 refine⟨by rw[Bk,hs];exact Nat.le_refl _,?_⟩
 conv=>whnf
 rw[Z5i hs]
 refine⟨⟨(Bk _).trans hs,fun g hg=>Hd hg⟩,?_⟩
 refine⟨⟨(Bk _).trans hs,Nat.le_refl _⟩,?_⟩
 conv=>whnf
 rw[Z4f]
 refine⟨⟨(Bk _).trans hs,fun g hg=>Hd hg⟩,?_⟩
 refine .gh (.frz 9 _ _ _ rfl (.done (A1 (oDs d) [(1,5),(2,6),(3,7)] (by exact RL4) rfl ⟨_,rfl⟩ rfl rfl ⟨?_,rfl⟩)))
 rw[hR,he,←Z8q]
 exact rfl
theorem Z6u (d:RD)(hd:WD d)(ha:d.armed≤9223372036854775807)(hw:d.wait.length≤1000000):FnO Tryz.prog 151 [.ptr 0 0] (cD d) fun g rs=>g=gI (Da d)∧rs=cD (Ab d):=by
 refine Bd Tryz.func151 (by kernel_rfl) rfl (Nat.le_of_ble_eq_true (by kernel_rfl)) (by kernel_rfl) (A6 (O:=oDs d) (n0:=4) rfl) ?_
 refine EvIf.mk (fun h=>?_) fun h=>?_
 ·exact .inl (A1 (oDs d) [] (by exact RL4) rfl ⟨_,rfl⟩ rfl rfl ⟨by unfold Da;rw[if_pos (.inl h)];rfl,by unfold Ab;rw[if_pos h]⟩)
 have hc:Ab d=if F4 d=true then Ba d else {Ba d with firm:=Fw d.firm d.wait,wait:=[]}:=by unfold Ab;rw[if_neg (by rw[h];decide)]
 have hE:Da d=if F4 d=true then 40 else 0:=by unfold Da;rw[h];simp
 refine EvCall.gh (.close (oDs d) [] (by exact RL4) ⟨_,rfl⟩ rfl (.done (.same ((Z6y d hd.armed ha).cal fun q rs hq=>?_))))
 obtain⟨rfl,rfl⟩:=hq
 refine .opn 0 _ _ _ rfl rfl rfl (.done ?_)
 refine EvIf.mk (fun h2=>?_) fun h2=>?_
 ·exact .inl (A1 (oDs (Ba d)) [(1,4),(2,5),(3,6)] (by exact RL4) rfl ⟨_,rfl⟩ rfl rfl ⟨by rw[hE,if_pos h2];rfl,by rw[hc,if_pos h2]⟩)
 have e1:(Ba d).now=d.now∧(Ba d).firm=d.firm∧(Ba d).wait=d.wait:=by unfold Ba;split<;>exact⟨rfl,rfl,rfl⟩
 have hw1:=Od hd
 refine Bo [0,16,17] [0,4,6] (fun i:Nat=>[(18,gI i)]) (fun i=>[(5,.slc ((Fw (Ba d).firm ((Ba d).wait.take i)).map Dw) tSc 64)]) (fun i=>i≤(Ba d).wait.length) (fun i=>(Ba d).wait.length - i) 0 (Nat.zero_le _) ⟨⟨rfl,rfl⟩,trivial⟩ ⟨RL1,trivial⟩ rfl fun i hi=>?_
 refine EvIf.dec (fun h5=>?_) fun h5=>?_
 ·refine⟨⟨by omega,h5⟩,EvIdx.of (by simpa using h5) fun x hx=>?_⟩
  have hx2:=hw1.wait x (List.mem_of_getElem? hx)
  refine⟨by rw[Co hx2.2];exact Nat.le_refl _,?_⟩
  conv=>whnf
  rw[Rp hx2.2]
  refine⟨⟨(Co hx2.2),fun g hg=>Qg hg⟩,?_⟩
  refine⟨⟨(Co hx2.2),Nat.le_refl _⟩,?_⟩
  conv=>whnf
  rw[T7]
  refine⟨by rw[Co hx2.2];exact Nat.le_refl _,?_⟩
  conv=>whnf
  rw[Z6a hx2.2]
  refine⟨fun g hg=>Fh (Hd hg),?_⟩
  have hfl:(Fw (Ba d).firm ((Ba d).wait.take i)).length=(Ba d).now.length:=(Ew _ _).trans hw1.len
  refine⟨⟨by omega,by rw[List.length_map,hfl];have:=hx2.1;omega⟩,?_⟩
  refine⟨⟨(Bk _).trans hx2.2,fun g hg=>Hd hg⟩,?_⟩
  refine Sa (s:=x.2) (l:=Fw (Ba d).firm ((Ba d).wait.take i)) (by rw[hfl];have:=hx2.1;omega) (Eu _ _ hw1.firm fun w hw=>(hw1.wait w (List.mem_of_mem_take hw)).2) hx2.2 rfl ?_
  have hx:(Ba d).wait[i]?=some x:=hx
  have hlt:=Dy hx
  refine⟨by rw[e1.2.2] at hlt;omega,i+1,by omega,(by dsimp only;omega),?_⟩
  refine⟨?_,?_,rfl⟩<;>repeat' (first | exact True.intro | with_reducible rfl | exact rfl | refine And.intro ?_ ?_)
  exact eqR (by rw[Q9 hx];rfl)
 ·rw[List.length_map] at h5
  rw[List.take_of_length_le (by omega)]
  refine .gh (.nil 0 [.osl 4,.osl 5] [gI (Ba d).armed,.v (.bool (Ba d).dead)] tDk tWr 65 rfl (by decide) (.done (A1 (oDs {Ba d with firm:=Fw d.firm d.wait,wait:=[]}) [(1,4),(2,5),(3,7)] ⟨RL1,RL1,⟨rfl,rfl,eqR (by rw[e1.2.1,e1.2.2])⟩,RL1,trivial⟩ rfl ⟨_,rfl⟩ rfl rfl ⟨by rw[hE,if_neg (by rw[h2];decide)];rfl,by rw[hc,if_neg (by rw[h2];decide)]⟩)))
end Go.Proofs.YtihfaocdpmmooaaGreat
namespace Go.Proofs.YtihfaocdpmmooaaGreat
open Go.RowKit
set_option maxRecDepth 100000
abbrev tLg:Nat:=149
abbrev gU (n:Nat):G:=.v (.int .u64 (n:Nat))
abbrev Bi (l:LD)(p a:G):List G:=[p,gI 0,gI 549,gU l.mark,gI l.half,gI l.firm,.sl (l.b.map gBy),a,.v (.bool l.dead)]
abbrev oL (l:LD)(e:Nat):List R:=[.blk (Bi l (.ptr 1 0) (.osl 2)) tLg,.abs (cl (oDs l.d)),.slc (l.all.map gSt) 9 1,.adr 1 e]
abbrev oLs (l:LD)(e:Nat):Os:=Aw (oL l e) 0
abbrev cL (l:LD)(e:Nat):List R:=[.abs (cl (oLs l e))]
theorem Z40 (l l':LD):KeepL (Bi l (.ptr 1 0) (.osl 2)) (Bi l' (.ptr 1 0) (.osl 2)):=⟨.inr rfl,.inl rfl,.inl rfl,.inl rfl,.inl rfl,.inl rfl,.inl rfl,.inr rfl,.inl rfl,trivial⟩
theorem Z7x (l:LD)(p a:Value){h:Nat}(hh:h < 2):FnO Tryz.prog 128 [.ptr 0 0,gI h] [.blk (Bi l (.v p) (.v a)) tLg] fun g rs=>g=gI (Ce h:Nat)∧rs=[.blk (Bi l (.v p) (.v a)) tLg]:=by
 refine Bd Tryz.func128 (by kernel_rfl) rfl (Nat.le_of_ble_eq_true (by kernel_rfl)) (by kernel_rfl) (Sy _ _) ?_
 refine⟨by decide,by omega,by omega,?_⟩
 conv=>whnf
 rw[show(0+2+(h:Int) * 549:Int)=((Ce h:Nat):Int) by unfold Ce;omega]
 exact .inl ⟨[⟨[(0,.blk (Bi l (.v p) (.v a)) tLg)],[(0,0)],false⟩],_,⟨⟨⟨_,rfl,rfl,rfl⟩,trivial⟩,rfl,⟨[],rfl⟩,rfl,rfl,⟨rfl,rfl⟩⟩⟩
theorem Ri (l:LD)(rest:List R){h:Nat}(hh:h < 2):FnO Tryz.prog 128 [.ptr 0 0,gI h] (.blk (Bi l (.ptr 1 0) (.osl 2)) tLg::rest) fun g rs=>g=gI (Ce h:Nat)∧rs=.blk (Bi l (.ptr 1 0) (.osl 2)) tLg::rest :=
 FnO.frame (Z40 l l) rfl rfl fun u=>Z7x l (u 0) (u 7) hh
theorem Z0r (l:LD)(p a:Value):FnO Tryz.prog 127 [.ptr 0 0] [.blk (Bi l (.v p) (.v a)) tLg] fun g rs=>g=gI 35136∧rs=[.blk (Bi l (.v p) (.v a)) tLg]:=by
 refine Bd Tryz.func127 (by kernel_rfl) rfl (Nat.le_of_ble_eq_true (by kernel_rfl)) (by kernel_rfl) (Sy _ _) ?_
 refine⟨by decide,?_⟩
 exact .inl ⟨[⟨[(0,.blk (Bi l (.v p) (.v a)) tLg)],[(0,0)],false⟩],_,⟨⟨⟨_,rfl,rfl,rfl⟩,trivial⟩,rfl,⟨[],rfl⟩,rfl,rfl,⟨rfl,rfl⟩⟩⟩
theorem Z4 (l:LD)(rest:List R):FnO Tryz.prog 127 [.ptr 0 0] (.blk (Bi l (.ptr 1 0) (.osl 2)) tLg::rest) fun g rs=>g=gI 35136∧rs=.blk (Bi l (.ptr 1 0) (.osl 2)) tLg::rest :=
 FnO.frame (Z40 l l) rfl rfl fun u=>Z0r l (u 0) (u 7)
theorem Zfu (l:LD)(p a:Value)(e:Int):FnO Tryz.prog 150 [.ptr 0 0,gI e] [.blk (Bi l (.v p) (.v a)) tLg] fun g rs=>g=gI (if l.dead=true∨e≠0 then 40 else 0)∧rs=[.blk (Bi {l with dead:=l.dead||e != 0} (.v p) (.v a)) tLg]:=by
 refine Bd Tryz.func150 (by kernel_rfl) rfl (Nat.le_of_ble_eq_true (by kernel_rfl)) (by kernel_rfl) (Sy _ _) ?_
 refine EvIf.mk (fun h=>?_) fun h=>?_
 ·rw[if_pos (.inl h),h]
  exact .gh (.seen 0 _ _ rfl (.done ⟨[⟨[(0,.blk (Bi {l with dead:=true} (.v p) (.v a)) tLg)],[(0,0)],false⟩],_,⟨⟨⟨_,rfl,rfl,rfl⟩,trivial⟩,rfl,⟨[],rfl⟩,rfl,rfl,⟨rfl,rfl⟩⟩⟩))
 ·refine EvIf.mk (fun h2=>?_) fun h2=>?_
  ·rw[if_pos (.inr (by simpa using h2)),h]
   exact .inl ⟨[⟨[(0,.blk (Bi {l with dead:=e != 0} (.v p) (.v a)) tLg)],[(0,0)],false⟩],_,⟨⟨⟨_,rfl,rfl,rfl⟩,trivial⟩,rfl,⟨[],rfl⟩,rfl,rfl,⟨rfl,rfl⟩⟩⟩
  ·rw[if_neg (by rintro(h3 | h3);exact absurd h3 (by rw[h];decide);exact h3 (by simpa using h2)),h]
   exact .inl ⟨[⟨[(0,.blk (Bi {l with dead:=e != 0} (.v p) (.v a)) tLg)],[(0,0)],false⟩],_,⟨⟨⟨_,rfl,rfl,rfl⟩,trivial⟩,rfl,⟨[],rfl⟩,rfl,rfl,⟨rfl,rfl⟩⟩⟩
theorem Zc8 (l:LD)(rest:List R)(e:Int):FnO Tryz.prog 150 [.ptr 0 0,gI e] (.blk (Bi l (.ptr 1 0) (.osl 2)) tLg::rest) fun g rs=>g=gI (if l.dead=true∨e≠0 then 40 else 0)∧rs=.blk (Bi {l with dead:=l.dead||e != 0} (.ptr 1 0) (.osl 2)) tLg::rest :=
 FnO.frame (Z40 l {l with dead:=l.dead||e != 0}) rfl rfl fun u=>Zfu l (u 0) (u 7) e
theorem Zct (l:LD)(p a:Value)(hl:l.b.length≤1000000000):FnO Tryz.prog 140 [.ptr 0 0] [.blk (Bi l (.v p) (.v a)) tLg] fun g rs=>g=gI (G1 l)∧rs=[.blk (Bi l (.v p) (.v a)) tLg]:=by
 refine Bd Tryz.func140 (by kernel_rfl) rfl (Nat.le_of_ble_eq_true (by kernel_rfl)) (by kernel_rfl) (Sy _ _) ?_
 have key:(((l.b.map gBy).length:Nat):Int)=l.b.length:=by rw[List.length_map]
 have r1:-9223372036854775808≤35136 - (((l.b.map gBy).length:Nat):Int)∧35136 - (((l.b.map gBy).length:Nat):Int)≤9223372036854775807:=by omega
 have r2:-9223372036854775808≤35136 - (((l.b.map gBy).length:Nat):Int) - 4∧35136 - (((l.b.map gBy).length:Nat):Int) - 4≤9223372036854775807:=by omega
 refine jn (T:=?T1) (fun hj=>?a1) ?b1
 case a1 =>
  refine⟨?_,?_⟩
  all_goals
   refine EvCall.lend ((Z0r l p a).cal fun q rs hq=>?_)
   obtain⟨rfl,rfl⟩:=hq
   refine⟨r1,r2,?_⟩
  all_goals (conv=>whnf)
  exact hj
  all_goals exact hj
 unfold G1
 rw[←key]
 exact .inl ⟨[⟨[(0,.blk (Bi l (.v p) (.v a)) tLg)],[(0,0)],false⟩],_,⟨⟨⟨_,rfl,rfl,rfl⟩,trivial⟩,rfl,⟨[],rfl⟩,rfl,rfl,⟨rfl,rfl⟩⟩⟩
theorem Zdn (l:LD)(rest:List R)(hl:l.b.length≤1000000000):FnO Tryz.prog 140 [.ptr 0 0] (.blk (Bi l (.ptr 1 0) (.osl 2)) tLg::rest) fun g rs=>g=gI (G1 l)∧rs=.blk (Bi l (.ptr 1 0) (.osl 2)) tLg::rest :=
 FnO.frame (Z40 l l) rfl rfl fun u=>Zct l (u 0) (u 7) hl
theorem Z09 (b:Bs)(hb:b.length≤8):FnV Tryz.prog 126 [.sl (b.map gBy)] fun g=>g=gU (Ct b):=by
 refine fnG Tryz.func126 (by kernel_rfl) rfl (Nat.le_of_ble_eq_true (by kernel_rfl)) (by kernel_rfl) ?_
 refine Bo [6,7] [] (fun i:Nat=>[(8,gI i),(3,gU (Ct (b.take i)))]) (fun _=>[]) (fun i=>i≤b.length) (fun i=>b.length - i) 0 (Nat.zero_le _) ⟨⟨rfl,rfl⟩,⟨rfl,rfl⟩,trivial⟩ trivial rfl fun i hi=>?_
 refine EvIf.dec (fun h=>?_) (fun h=>?_)
 ·have h:i < b.length:=by simpa using h
  refine EvIdx.of (by simpa using h) fun x hx=>?_
  refine⟨by decide,by omega,i+1,by omega,(by dsimp only;omega),?_⟩
  refine⟨?_,?_,rfl⟩<;>repeat' (first | exact True.intro | with_reducible rfl | exact rfl | refine And.intro ?_ ?_)
  have hlt:Ct (b.take i) < 2 ^ 56:=by
   have h1:=Ji (b.take i)
   refine Nat.lt_of_lt_of_le h1 ?_
   rw[show(2:Nat) ^ 56=256 ^ 7 by decide]
   exact Nat.pow_le_pow_right (by decide) (by rw[List.length_take];omega)
  rw[D0 hx,R7]
  exact congrArg (fun n=>some (G.v (.int .u64 n))) (Z6g _ _ hlt x.toNat_lt)
 ·have h:¬i < b.length:=by simpa using h
  rw[List.take_of_length_le (by omega)]
  exact rfl
def Zgr (n i:Nat):List G:=((be8 n).take i).map (fun c=>.v (.int .u8 c.toNat))++List.replicate (8 - i) (.v (.int .u8 0))
def Z6q (n k:Nat)(g:G):List G:=((be8 n).take k).map (fun c=>.v (.int .u8 c.toNat))++g::List.replicate (7 - k) (.v (.int .u8 0))
theorem Jy (n:Nat)(c p:Int)(h:p=c)(hc:0≤c):G.v (.int .u8 ((n:Int).fdiv p % 256))=.v (.int .u8 ((byI ((n:Int) / c)).toNat:Nat)):=by
 subst h
 rw[C9,Int.fdiv_eq_ediv_of_nonneg _ hc]
theorem Zcr (n:Nat)(p:Int)(h:p=1):G.v (.int .u8 ((n:Int).fdiv p % 256))=.v (.int .u8 ((byI (n:Int)).toNat:Nat)):=by
 rw[Jy n 1 p h (by decide),Int.ediv_one]
theorem Zfc (n:Nat):FnV Tryz.prog 152 [gU n] fun g=>g=.agg ((be8 n).map fun c=>.v (.int .u8 c.toNat)):=by
 refine fnG Tryz.func152 (by kernel_rfl) rfl (Nat.le_of_ble_eq_true (by kernel_rfl)) (by kernel_rfl) ?_
 refine Bo [0,2,3] [0] (fun i:Nat=>[(5,gI i)]) (fun i=>[(1,.blk (Zgr n i) 179)]) (fun i=>i≤8) (fun i=>8 - i) 0 (Nat.zero_le _) ⟨⟨rfl,rfl⟩,trivial⟩ ⟨RL1,trivial⟩ rfl fun i hi=>?_
 refine EvIf.dec (fun h=>?_) (fun h=>?_)
 ·have hc:i=0∨i=1∨i=2∨i=3∨i=4∨i=5∨i=6∨i=7:=by omega
  rcases hc with rfl | rfl | rfl | rfl | rfl | rfl | rfl | rfl
  ·refine⟨by decide,by decide,by decide,⟨by decide,by decide⟩,by decide,?_⟩
   refine⟨1,by decide,by decide,?_⟩
   refine⟨?_,?_,rfl⟩<;>repeat' (first | exact True.intro | with_reducible rfl | exact rfl | refine And.intro ?_ ?_)
   exact congrArg (fun g=>some (R.blk (Z6q n 0 g) 179)) (Jy n 72057594037927936 _ rfl (by decide))
  ·refine⟨by decide,by decide,by decide,⟨by decide,by decide⟩,by decide,?_⟩
   refine⟨2,by decide,by decide,?_⟩
   refine⟨?_,?_,rfl⟩<;>repeat' (first | exact True.intro | with_reducible rfl | exact rfl | refine And.intro ?_ ?_)
   exact congrArg (fun g=>some (R.blk (Z6q n 1 g) 179)) (Jy n 281474976710656 _ rfl (by decide))
  ·refine⟨by decide,by decide,by decide,⟨by decide,by decide⟩,by decide,?_⟩
   refine⟨3,by decide,by decide,?_⟩
   refine⟨?_,?_,rfl⟩<;>repeat' (first | exact True.intro | with_reducible rfl | exact rfl | refine And.intro ?_ ?_)
   exact congrArg (fun g=>some (R.blk (Z6q n 2 g) 179)) (Jy n 1099511627776 _ rfl (by decide))
  ·refine⟨by decide,by decide,by decide,⟨by decide,by decide⟩,by decide,?_⟩
   refine⟨4,by decide,by decide,?_⟩
   refine⟨?_,?_,rfl⟩<;>repeat' (first | exact True.intro | with_reducible rfl | exact rfl | refine And.intro ?_ ?_)
   exact congrArg (fun g=>some (R.blk (Z6q n 3 g) 179)) (Jy n 4294967296 _ rfl (by decide))
  ·refine⟨by decide,by decide,by decide,⟨by decide,by decide⟩,by decide,?_⟩
   refine⟨5,by decide,by decide,?_⟩
   refine⟨?_,?_,rfl⟩<;>repeat' (first | exact True.intro | with_reducible rfl | exact rfl | refine And.intro ?_ ?_)
   exact congrArg (fun g=>some (R.blk (Z6q n 4 g) 179)) (Jy n 16777216 _ rfl (by decide))
  ·refine⟨by decide,by decide,by decide,⟨by decide,by decide⟩,by decide,?_⟩
   refine⟨6,by decide,by decide,?_⟩
   refine⟨?_,?_,rfl⟩<;>repeat' (first | exact True.intro | with_reducible rfl | exact rfl | refine And.intro ?_ ?_)
   exact congrArg (fun g=>some (R.blk (Z6q n 5 g) 179)) (Jy n 65536 _ rfl (by decide))
  ·refine⟨by decide,by decide,by decide,⟨by decide,by decide⟩,by decide,?_⟩
   refine⟨7,by decide,by decide,?_⟩
   refine⟨?_,?_,rfl⟩<;>repeat' (first | exact True.intro | with_reducible rfl | exact rfl | refine And.intro ?_ ?_)
   exact congrArg (fun g=>some (R.blk (Z6q n 6 g) 179)) (Jy n 256 _ rfl (by decide))
  ·refine⟨by decide,by decide,by decide,⟨by decide,by decide⟩,by decide,?_⟩
   refine⟨8,by decide,by decide,?_⟩
   refine⟨?_,?_,rfl⟩<;>repeat' (first | exact True.intro | with_reducible rfl | exact rfl | refine And.intro ?_ ?_)
   exact congrArg (fun g=>some (R.blk (Z6q n 7 g) 179)) (Zcr n _ rfl)
 ·obtain rfl:i=8:=by omega
  exact rfl
end Go.Proofs.YtihfaocdpmmooaaGreat
namespace Go.Proofs.YtihfaocdpmmooaaGreat
open Go.RowKit
set_option maxRecDepth 100000
theorem Zcd (l:LD)(e:Nat)(hwd:WD l.d)(hml:1100≤l.d.now.length)(hd:l.d.dead=false)(n:Nat)(hn:n < 2):FnO Tryz.prog 91 [.ptr 0 0,gI n] (cL l e) fun g rs=>g=.tup [gU (Cv l.d n).mark,gI (Cv l.d n).half,gI (Cv l.d n).firm,.v (.bool (Cv l.d n).is)]∧rs=cL l e:=by
 refine Bd Tryz.func91 (by kernel_rfl) rfl (Nat.le_of_ble_eq_true (by kernel_rfl)) (by kernel_rfl) (A6 (O:=oLs l e) (n0:=4) rfl) ?_
 have hmay:K0 l.d (n:Nat)=0:=by
  unfold K0
  rw[hd,if_neg (by decide),if_neg (by omega)]
 have hlt:n < l.d.now.length:=by omega
 obtain⟨b,hb⟩:∃b,Mc l.d (n:Nat)=b:=⟨_,rfl⟩
 have hb64:b.length=64:=by
  rw[←hb]
  unfold Mc
  rw[if_neg (by rw[hmay];decide),Int.toNat_natCast,List.getElem?_eq_getElem hlt]
  exact hwd.now _ (List.getElem_mem hlt)
 have hM:Cv l.d n=if b.take 8≠b.drop 56 then⟨0,0,0,false⟩ else⟨Ct (b.take 8),((b[8]?).getD 0).toNat,Ct ((b.drop 9).take 4),decide (((b[8]?).getD 0).toNat < 2)&&decide (Ct ((b.drop 9).take 4)≤35136)⟩:=by
  unfold Cv
  dsimp only
  rw[hb,hmay]
  simp
 have hr:FnO Tryz.prog 125 [.ptr 0 0,gI (0+(n:Int))] (cD l.d) fun g rs=>g=.tup [.sl (b.map gBy),gI 0]∧rs=cD l.d:=by
  have:=Z68 l.d hwd (n:Nat)
  rw[hb,hmay] at this
  rwa [Int.zero_add]
 rw[hM]
 refine⟨by omega,?_⟩
 refine EvCall.lend (hr.cal fun q rs hq=>?_)
 obtain⟨rfl,rfl⟩:=hq
 refine EvIf.mk (fun h=>absurd h (by decide)) fun _=>?_
 have hL:((b.map gBy).length:Int)=64:=by rw[List.length_map,hb64];rfl
 have hR:∀r∈b.map gBy,r.length=1:=fun r hr=>by
  obtain⟨x,-,rfl⟩:=List.mem_map.1 hr
  rfl
 refine⟨⟨by decide,by decide,by rw[hL];decide⟩,⟨hR,?_⟩⟩
 obtain⟨x0,x1,x2,x3,x4,x5,x6,x7,hx⟩:=Zgd (l:=b.take 8) (by rw[List.length_take,hb64];rfl)
 obtain⟨y0,y1,y2,y3,y4,y5,y6,y7,hy⟩:=Zgd (l:=b.drop 56) (by rw[List.length_drop,hb64])
 have e1:Ea (b.map gBy) (0:Int).toNat (8:Int).toNat=[x0,x1,x2,x3,x4,x5,x6,x7].map gBy:=by
  rw[←hx,List.map_take];rfl
 have e2:Ea (b.map gBy) (56:Int).toNat (((b.map gBy).length:Nat):Int).toNat=[y0,y1,y2,y3,y4,y5,y6,y7].map gBy:=by
  rw[←hy,List.map_drop]
  show(List.take _ _).drop 56=_
  rw[List.take_of_length_le (by omega)]
 refine⟨by decide,[gB1 x0,gB1 x1,gB1 x2,gB1 x3,gB1 x4,gB1 x5,gB1 x6,gB1 x7],rfl,by rw[e1];rfl,?_⟩
 refine⟨⟨by decide,by rw[hL];decide,Int.le_refl _⟩,⟨hR,?_⟩⟩
 refine⟨by decide,[gB1 y0,gB1 y1,gB1 y2,gB1 y3,gB1 y4,gB1 y5,gB1 y6,gB1 y7],rfl,by rw[e2];rfl,?_⟩
 refine EvEq.arr [x0,x1,x2,x3,x4,x5,x6,x7] [y0,y1,y2,y3,y4,y5,y6,y7] rfl rfl rfl (by kernel_rfl) rfl (by kernel_rfl) rfl rfl (fun heq=>?_) fun hne=>?_
 ·refine EvIf.mk (fun h=>absurd h (by decide)) fun _=>?_
  have hq:b.take 8=b.drop 56:=by rw[hx,hy];exact heq
  rw[if_neg (fun h=>h hq)]
  refine⟨⟨by decide,by decide,by rw[hL];decide⟩,⟨hR,?_⟩⟩
  obtain⟨c,hc⟩:∃c,b[8]?=some c:=⟨_,List.getElem?_eq_getElem (by omega)⟩
  refine EvIdx.atI (by decide) hc ?_
  have hcl:=c.toNat_lt
  have f4:Ct ((b.drop 9).take 4) < 256 ^ 4:=by
   refine Nat.lt_of_lt_of_le (Ji _) (Nat.pow_le_pow_right (by decide) ?_)
   exact List.length_take_le ..
  have e8:Ea (b.map gBy) (0:Int).toNat (8:Int).toNat=(b.take 8).map gBy:=by rw[List.map_take];rfl
  have e4:Ea (b.map gBy) (9:Int).toNat (13:Int).toNat=((b.drop 9).take 4).map gBy:=by
   rw[List.map_take,List.map_drop]
   show(List.take 13 _).drop 9=_
   rw[List.drop_take]
  have t8:=Z09 (b.take 8) (by rw[List.length_take];omega)
  have t4:=Z09 ((b.drop 9).take 4) (by rw[List.length_take];omega)
  rw[←e8] at t8
  rw[←e4] at t4
  have r4:-9223372036854775808≤((Ct ((b.drop 9).take 4):Nat):Int)∧((Ct ((b.drop 9).take 4):Nat):Int)≤9223372036854775807:=by omega
  refine⟨by omega,?_⟩
  refine⟨⟨by decide,by decide,by rw[hL];decide⟩,⟨hR,?_⟩⟩
  refine t8.cal fun q hq=>?_
  subst hq
  refine t4.cal fun q hq=>?_
  subst hq
  refine⟨r4,?_⟩
  rw[hc]
  refine EvIf.dec (fun h2=>?_) fun h2=>?_
  ·refine EvCall.lend ((Z4 l _).cal fun q rs hq=>?_)
   obtain⟨rfl,rfl⟩:=hq
   have eb:decide (((Ct ((b.drop 9).take 4):Nat):Int)≤35136)=(decide (((some c).getD 0).toNat < 2)&&decide (Ct ((b.drop 9).take 4)≤35136)):=by
    rw[show(some c).getD 0=c from rfl,decide_eq_true (by omega:c.toNat < 2),Bool.true_and]
    exact decide_eq_decide.2 (by omega)
   exact .inl (A1 (oLs l e) [] (by exact RL4) rfl ⟨_,rfl⟩ rfl rfl ⟨congrArg (fun z=>G.tup [gU (Ct (b.take 8)),gI c.toNat,gI (Ct ((b.drop 9).take 4)),.v (.bool z)]) eb,rfl⟩)
  ·have eb:false=(decide (((some c).getD 0).toNat < 2)&&decide (Ct ((b.drop 9).take 4)≤35136)):=by
    rw[show(some c).getD 0=c from rfl,decide_eq_false (by omega:¬c.toNat < 2),Bool.false_and]
   exact .inl (A1 (oLs l e) [] (by exact RL4) rfl ⟨_,rfl⟩ rfl rfl ⟨congrArg (fun z=>G.tup [gU (Ct (b.take 8)),gI c.toNat,gI (Ct ((b.drop 9).take 4)),.v (.bool z)]) eb,rfl⟩)
 ·refine EvIf.mk (fun _=>?_) fun h=>absurd h (by decide)
  have hq:b.take 8≠b.drop 56:=by rw[hx,hy];exact hne
  rw[if_pos hq]
  exact .inl (A1 (oLs l e) [] (by exact RL4) rfl ⟨_,rfl⟩ rfl rfl ⟨rfl,rfl⟩)
theorem Qt (b:Bs)(hb:b.length≤1000000):FnO Tryz.prog 129 [.sl (b.map gBy)] [] fun g rs=>g=.tup [.osl 0,.v (.bool (M5 b).isSome)]∧rs=[.slc (((M5 b).getD []).map gSt) 9 1]:=by
 refine Bd Tryz.func129 (by kernel_rfl) rfl (Nat.le_of_ble_eq_true (by kernel_rfl)) (by kernel_rfl) (Qy _) ?_
 refine Bo [] [0] (fun p:Bs × List ByteArray=>[(0,.sl (p.1.map gBy)),(4,.osl 1)]) (fun p=>[(1,.slc (p.2.map gSt) 9 1)]) (fun p=>M5 b=(M5 p.1).map (p.2++·)∧p.1.length+p.2.length≤b.length) (fun p=>p.1.length) (b,[]) ⟨by cases M5 b<;>rfl,Nat.le_refl _⟩ ⟨⟨rfl,rfl⟩,⟨rfl,rfl⟩,trivial⟩ ⟨RL1,trivial⟩ rfl fun p hi=>?_
 obtain⟨c,l⟩:=p
 obtain⟨hrec,hlen⟩:=hi
 dsimp only at hrec hlen
 have hL:(((c.map gBy).length:Nat):Int)=c.length:=by rw[List.length_map]
 have hR:∀r∈c.map gBy,r.length=1:=fun r hr=>by
  obtain⟨x,-,rfl⟩:=List.mem_map.1 hr
  rfl
 have bad:M5 c=none→∀{own:Os} {n k:Nat},look k own=some (.slc [] 9 1)→Z2n [] own n (.tup [.osl k,.v (.bool false)]) (fun g rs=>g=.tup [.osl 0,.v (.bool (M5 b).isSome)]∧rs=[.slc (((M5 b).getD []).map gSt) 9 1]):=fun h {own n k} hk=>by
  rw[hrec,h]
  exact .inl ⟨[⟨[(0,.slc [] 9 1)],[(0,k)],false⟩],.tup [.osl 0,.v (.bool false)],⟨⟨⟨_,rfl,hk,rfl⟩,trivial⟩,rfl,⟨_,rfl⟩,rfl,rfl,⟨rfl,rfl⟩⟩⟩
 refine EvIf.dec (fun h0=>?_) fun h0=>?_
 ·rw[hL] at h0
  have hne:c≠[]:=fun e=>by rw[e] at h0;exact absurd h0 (by decide)
  have hst:=Qr hne
  refine EvIf.dec (fun h4=>?_) fun h4=>?_
  ·rw[hL] at h4
   refine bad (k:=2) (by rw[hst,if_pos (by omega)]) ?_
   exact rfl
  rw[hL] at h4
  refine⟨⟨by decide,by decide,by rw[hL];omega⟩,⟨hR,?_⟩⟩
  have e4:Ea (c.map gBy) (0:Int).toNat (4:Int).toNat=(c.take 4).map gBy:=by rw[List.map_take];rfl
  have t4:=Z09 (c.take 4) (by rw[List.length_take];omega)
  rw[←e4] at t4
  have f4:Ct (c.take 4) < 256 ^ 4:=Nat.lt_of_lt_of_le (Ji _) (Nat.pow_le_pow_right (by decide) (List.length_take_le ..))
  refine t4.cal fun q hq=>?_
  subst hq
  refine⟨by omega,?_⟩
  refine EvIf.dec (fun h5=>?_) fun h5=>?_
  ·refine bad (k:=2) (by rw[hst,if_neg (by omega),if_pos (.inl (by omega))]) ?_
   exact rfl
  refine⟨by rw[hL];omega,?_⟩
  refine EvIf.dec (fun h6=>?_) fun h6=>?_
  ·rw[hL] at h6
   refine bad (k:=2) (by rw[hst,if_neg (by omega),if_pos (.inr (by omega))]) ?_
   exact rfl
  rw[hL] at h6
  have hgood:=hst
  rw[if_neg (by omega),if_neg (by omega)] at hgood
  refine⟨by omega,?_⟩
  refine⟨⟨by decide,by omega,by rw[hL];omega⟩,⟨hR,?_⟩⟩
  have eb:Ea (c.map gBy) (4:Int).toNat (4+((Ct (c.take 4):Nat):Int)).toNat=((c.drop 4).take (Ct (c.take 4))).map gBy:=by
   rw[List.map_take,List.map_drop]
   show(List.take _ _).drop 4=_
   rw[List.drop_take]
   congr 1;omega
  have er:Ea (c.map gBy) (4+((Ct (c.take 4):Nat):Int)).toNat (((c.map gBy).length:Nat):Int).toNat=(c.drop (4+Ct (c.take 4))).map gBy:=by
   rw[List.map_drop]
   show(List.take (((c.map gBy).length:Nat):Int).toNat (c.map gBy)).drop (4+((Ct (c.take 4):Nat):Int)).toNat=_
   rw[Int.toNat_natCast,List.take_length,show(4+((Ct (c.take 4):Nat):Int)).toNat=4+Ct (c.take 4) by omega]
  refine⟨_,eb,?_⟩
  have hroom:(l.map gSt).length+1≤1073741824:=by rw[List.length_map];omega
  refine⟨hroom,?_⟩
  refine⟨by omega,?_⟩
  refine⟨⟨by omega,by rw[hL];omega,Int.le_refl _⟩,⟨hR,?_⟩⟩
  refine⟨(c.drop (4+Ct (c.take 4)),l++[⟨((c.drop 4).take (Ct (c.take 4))).toArray⟩]),⟨?_,?_⟩,?_,?_⟩
  ·rw[hrec,hgood]
   cases M5 (c.drop (4+Ct (c.take 4)))<;>simp
  ·simp;omega
  ·dsimp only;rw[List.length_drop];omega
  refine⟨?_,?_,rfl⟩<;>repeat' (first | exact True.intro | with_reducible rfl | exact rfl | refine And.intro ?_ ?_)
  ·exact congrArg (fun x=>some (G.sl x)) er
  ·exact eqR (by rw[List.map_append];rfl)
 ·rw[hL] at h0
  obtain rfl:c=[]:=List.eq_nil_of_length_eq_zero (by omega)
  rw[V7] at hrec
  have hrec:M5 b=some l:=by rw[hrec];simp
  rw[hrec]
  exact .inl ⟨[⟨[(0,.slc (l.map gSt) 9 1)],[(0,1)],false⟩],.tup [.osl 0,.v (.bool true)],⟨⟨⟨_,rfl,rfl,rfl⟩,trivial⟩,rfl,⟨_,rfl⟩,rfl,rfl,⟨rfl,rfl⟩⟩⟩
end Go.Proofs.YtihfaocdpmmooaaGreat
namespace Go.Proofs.YtihfaocdpmmooaaGreat
open Go.RowKit
set_option maxRecDepth 100000
theorem Ku:∀(L:List Sec) (i:Nat),(∀s∈L,s.length=64)→i≤L.length→L.flatten.take (i * 64)=(L.take i).flatten
 | _,0,_,_=>by simp
 | [],i+1,_,hi=>by simp at hi
 | s::L,i+1,h,hi=>by
  have hs:=h s (by simp)
  rw[List.flatten_cons,List.take_succ_cons,List.flatten_cons,←Ku L i (fun x hx=>h x (by simp[hx])) (by simpa using hi),show(i+1) * 64=s.length+i * 64 by omega,List.take_length_add_append]
theorem Po {d:RD}(hwd:WD d)(hml:1100≤d.now.length){h:Nat}(hh:h < 2):((d.now.drop (Ce h)).take 549).length=549∧(∀s∈(d.now.drop (Ce h)).take 549,s.length=64)∧∀i,i < 549→((d.now.drop (Ce h)).take 549)[i]?=d.now[Ce h+i]?:=by
 refine⟨by unfold Ce;simp;omega,fun s hs=>hwd.now s (List.mem_of_mem_drop (List.mem_of_mem_take hs)),fun i hi=>?_⟩
 rw[List.getElem?_take,if_pos hi,List.getElem?_drop]
theorem Wm {d:RD}(hwd:WD d)(hml:1100≤d.now.length){h:Nat}(hh:h < 2){i:Nat}(hi:i < 549){s:Sec}(hs:d.now[Ce h+i]?=some s):(Cf d h).take ((i+1) * 64)=(Cf d h).take (i * 64)++s:=by
 obtain⟨h1,h2,h3⟩:=Po hwd hml hh
 unfold Cf
 rw[Ku _ _ h2 (by omega),Ku _ _ h2 (by omega),List.take_add_one,h3 i hi,hs]
 simp
theorem Z9 {d:RD}(hwd:WD d)(hml:1100≤d.now.length){h:Nat}(hh:h < 2):(Cf d h).length=35136:=by
 obtain⟨h1,h2,-⟩:=Po hwd hml hh
 unfold Cf
 have:∀L:List Sec,(∀s∈L,s.length=64)→L.flatten.length=L.length * 64:=fun L hL=>by
  induction L with
  | nil=>rfl
  | cons s L ih=>rw[List.flatten_cons,List.length_append,hL s (by simp),ih fun x hx=>hL x (by simp[hx]),List.length_cons];omega
 rw[this _ h2,h1]
theorem Zbm (l:LD)(e:Nat)(hwd:WD l.d)(hml:1100≤l.d.now.length)(hd:l.d.dead=false)(hh:l.half < 2)(hf:l.firm≤35136):FnO Tryz.prog 92 [.ptr 0 0] (cL l e) fun g rs=>(M5 ((Cf l.d l.half).take l.firm)=none∧g=gI 50∧rs=cL {l with b:=(Cf l.d l.half).take l.firm} e)∨∃a,M5 ((Cf l.d l.half).take l.firm)=some a∧g=gI 0∧rs=cL {l with b:=(Cf l.d l.half).take l.firm,all:=a} e:=by
 refine Bd Tryz.func92 (by kernel_rfl) rfl (Nat.le_of_ble_eq_true (by kernel_rfl)) (by kernel_rfl) (A6 (O:=oLs l e) (n0:=4) rfl) ?_
 have hB:=Z9 hwd hml hh
 refine Bo [0,12] [0,1,2,3] (fun i:Nat=>[(13,gI i),(3,.osl 4)]) (fun i=>[(4,.slc (((Cf l.d l.half).take (i * 64)).map gBy) 5 1)]) (fun i=>i≤549) (fun i=>549 - i) 0 (Nat.zero_le _) ⟨⟨rfl,rfl⟩,⟨rfl,rfl⟩,trivial⟩ ⟨RL1,trivial⟩ rfl fun i hi=>?_
 refine EvIf.dec (fun h=>?_) fun h=>?_
 ·have hi:i < 549:=by omega
  have hfl:Ce l.half+i < l.d.now.length:=by unfold Ce;omega
  obtain⟨s,hs⟩:∃s,l.d.now[Ce l.half+i]?=some s:=⟨_,List.getElem?_eq_getElem hfl⟩
  have hs64:s.length=64:=hwd.now s (List.mem_of_getElem? hs)
  have hr:FnO Tryz.prog 125 [.ptr 0 0,gI ((Ce l.half:Nat)+(i:Int))] (cD l.d) fun g rs=>g=.tup [.sl (s.map gBy),gI 0]∧rs=cD l.d:=by
   have hm:K0 l.d ((Ce l.half+i:Nat):Int)=0:=by
    unfold K0
    rw[hd,if_neg (by decide),if_neg (by omega)]
   have:=Z68 l.d hwd ((Ce l.half+i:Nat):Int)
   unfold Mc at this
   rw[hm,if_neg (fun h=>h rfl),Int.toNat_natCast,hs] at this
   rwa [Int.natCast_add] at this
  have hrng:-9223372036854775808≤((Ce l.half:Nat):Int)+(i:Int)∧((Ce l.half:Nat):Int)+(i:Int)≤9223372036854775807:=by unfold Ce;omega
  refine⟨?_,?_⟩
  all_goals
   refine EvCall.lend ((Ri l _ hh).cal fun q rs hq=>?_)
   obtain⟨rfl,rfl⟩:=hq
   refine⟨hrng,?_⟩
   refine EvCall.lend (hr.cal fun q rs hq=>?_)
   obtain⟨rfl,rfl⟩:=hq
   refine EvIf.mk (fun h=>absurd h (by decide)) fun _=>?_
   refine⟨N8 s,by rw[List.length_map,List.length_map,List.length_take,hB];omega,?_⟩
   have eA:((Cf l.d l.half).take (i * 64)).map gBy++s.map gBy=((Cf l.d l.half).take ((i+1) * 64)).map gBy:=by rw[Wm hwd hml hh hi hs,List.map_append]
   conv=>whnf
   rw[eA]
   refine EvIf.dec (fun hge=>?_) fun hlt=>?_
   ·rw[List.length_map,List.length_take,hB] at hge
    have hm1:l.firm≤(i+1) * 64:=by omega
    have hm2:(i+1) * 64≤35136:=by omega
    have hlen:((((Cf l.d l.half).take ((i+1) * 64)).map gBy).length:Int)=((i+1) * 64:Nat):=by rw[List.length_map,List.length_take,hB,Nat.min_eq_left hm2]
    refine⟨⟨Int.le_refl _,by omega,by rw[hlen];omega⟩,?_⟩
    have eS:Ea (((Cf l.d l.half).take ((i+1) * 64)).map gBy) (0:Int).toNat ((l.firm:Nat):Int).toNat=((Cf l.d l.half).take l.firm).map gBy:=by
     show((List.map gBy _).take l.firm).drop 0=_
     rw[List.drop_zero,←List.map_take,List.take_take,Nat.min_eq_left hm1]
    have hrec:=Qt ((Cf l.d l.half).take l.firm) (by rw[List.length_take];omega)
    rw[←eS] at hrec
    refine hrec.cal fun q rs hq=>?_
    obtain⟨rfl,rfl⟩:=hq
    cases hrb:M5 ((Cf l.d l.half).take l.firm) with
    | none =>
     refine EvIf.mk (fun _=>?_) fun h=>absurd h (by decide)
     exact .gh (.seen 0 _ _ rfl (.done (A1 (oLs {l with b:=(Cf l.d l.half).take l.firm} e) [] ⟨⟨rfl,rfl,congrArg (fun z=>some (R.blk [.ptr 1 0,gI 0,gI 549,gU l.mark,gI l.half,gI l.firm,.sl z,.osl 2,.v (.bool l.dead)] tLg)) eS⟩,RL1,RL1,RL1,trivial⟩ rfl ⟨_,rfl⟩ rfl rfl (.inl RL1))))
    | some a =>
     refine EvIf.mk (fun h=>absurd h (fun h=>by cases h)) fun _=>?_
     exact .gh (.seen 0 _ _ rfl (.done (A1 (oLs {l with b:=(Cf l.d l.half).take l.firm,all:=a} e) [(2,6)] ⟨⟨rfl,rfl,congrArg (fun z=>some (R.blk [.ptr 1 0,gI 0,gI 549,gU l.mark,gI l.half,gI l.firm,.sl z,.osl 6,.v (.bool l.dead)] tLg)) eS⟩,RL1,RL1,RL1,trivial⟩ rfl ⟨_,rfl⟩ rfl rfl (.inr ⟨a,rfl,rfl,rfl⟩))))
   ·refine⟨by omega,i+1,by omega,(by dsimp only;omega),?_⟩
    refine⟨?_,?_,rfl⟩<;>repeat' (first | exact True.intro | with_reducible rfl | exact rfl | refine And.intro ?_ ?_)
 ·obtain rfl:i=549:=by omega
  have hm1:l.firm≤549 * 64:=by omega
  have hm2:549 * 64≤35136:=by decide
  have hlen:((((Cf l.d l.half).take (549 * 64)).map gBy).length:Int)=(549 * 64:Nat):=by rw[List.length_map,List.length_take,hB,Nat.min_eq_left hm2]
  refine⟨⟨Int.le_refl _,by omega,by rw[hlen];omega⟩,?_⟩
  have eS:Ea (((Cf l.d l.half).take (549 * 64)).map gBy) (0:Int).toNat ((l.firm:Nat):Int).toNat=((Cf l.d l.half).take l.firm).map gBy:=by
   show((List.map gBy _).take l.firm).drop 0=_
   rw[List.drop_zero,←List.map_take,List.take_take,Nat.min_eq_left hm1]
  have hrec:=Qt ((Cf l.d l.half).take l.firm) (by rw[List.length_take];omega)
  rw[←eS] at hrec
  refine hrec.cal fun q rs hq=>?_
  obtain⟨rfl,rfl⟩:=hq
  cases hrb:M5 ((Cf l.d l.half).take l.firm) with
  | none =>
   refine EvIf.mk (fun _=>?_) fun h=>absurd h (by decide)
   exact .gh (.seen 0 _ _ rfl (.done (A1 (oLs {l with b:=(Cf l.d l.half).take l.firm} e) [] ⟨⟨rfl,rfl,congrArg (fun z=>some (R.blk [.ptr 1 0,gI 0,gI 549,gU l.mark,gI l.half,gI l.firm,.sl z,.osl 2,.v (.bool l.dead)] tLg)) eS⟩,RL1,RL1,RL1,trivial⟩ rfl ⟨_,rfl⟩ rfl rfl (.inl RL1))))
  | some a =>
   refine EvIf.mk (fun h=>absurd h (fun h=>by cases h)) fun _=>?_
   exact .gh (.seen 0 _ _ rfl (.done (A1 (oLs {l with b:=(Cf l.d l.half).take l.firm,all:=a} e) [(2,5)] ⟨⟨rfl,rfl,congrArg (fun z=>some (R.blk [.ptr 1 0,gI 0,gI 549,gU l.mark,gI l.half,gI l.firm,.sl z,.osl 5,.v (.bool l.dead)] tLg)) eS⟩,RL1,RL1,RL1,trivial⟩ rfl ⟨_,rfl⟩ rfl rfl (.inr ⟨a,rfl,rfl,rfl⟩))))
end Go.Proofs.YtihfaocdpmmooaaGreat
namespace Go.Proofs.YtihfaocdpmmooaaGreat
open Go.RowKit
set_option maxRecDepth 100000
def mkN (d:RD):Nat→MkL
 | 0=>⟨0,0,0,true⟩
 | i+1=>F3 (mkN d i) (Cv d i)
abbrev Rz (d:RD)(m:MkL):LD:=⟨m.mark,m.half,m.firm,[],[],false,d⟩
theorem Z5d (d:RD)(n:Nat)(h:(Cv d n).is=true):(Cv d n).half < 2∧(Cv d n).firm≤35136:=by
 unfold Cv at h⊢
 dsimp only at h⊢
 split at h
 ·cases h
 ·next h2 =>
  rw[if_neg h2]
  simpa using h
theorem Z6b (d:RD):∀i,(mkN d i).half < 2∧(mkN d i).firm≤35136
 | 0=>⟨Nat.zero_lt_succ 1,Nat.zero_le _⟩
 | i+1=>by
  unfold mkN F3
  split
  ·next h=>exact Z5d d i h.1
  ·exact Z6b d i
theorem Zda (d:RD)(hwd:WD d)(hml:1100≤d.now.length)(hd:d.dead=false):FnO Tryz.prog 56 [.ptr 0 0,gI 0,gI 1100] (cD d) fun g rs=>(Z08 d=none∧g=.tup [.v (.pointer none),gI 50]∧rs=cD d)∨∃l b,Z08 d=some l∧g=.tup [.ptr 1 0,gI 0]∧rs=[.gone,.abs (cl (oLs l b)),.adr 0 b]:=by
 refine Bd Tryz.func56 (by kernel_rfl) rfl (Nat.le_of_ble_eq_true (by kernel_rfl)) (by kernel_rfl) (Sy _ _) ?_
 refine EvCall.lend ((Z0w d).cal fun q rs hq=>?_)
 obtain⟨rfl,rfl⟩:=hq
 rw[hd]
 refine EvIf.mk (fun h=>absurd h (by decide)) fun _=>?_
 refine EvIf.dec (fun h=>absurd h (by decide)) fun _=>?_
 refine EvIf.dec (fun h=>absurd h (by decide)) fun _=>?_
 refine EvCall.lend ((Zh d).cal fun q rs hq=>?_)
 obtain⟨rfl,rfl⟩:=hq
 refine EvIf.dec (fun h=>by omega) fun _=>?_
 refine EvCall.lend ((Zh d).cal fun q rs hq=>?_)
 obtain⟨rfl,rfl⟩:=hq
 have hwm:=hwd.few
 refine⟨by omega,?_⟩
 refine EvIf.dec (fun h=>by omega) fun _=>?_
 refine⟨by omega,?_⟩
 refine⟨by decide,by decide,?_⟩
 refine Z20 (.nil 1 [.ptr 0 0,gI 0,gI 549,gU 0,gI 0,gI 0] [.nl,.ff] tLg 5 1 rfl (by decide) (.frz 2 _ _ _ rfl (.seen 1 _ _ rfl (.nil 1 [.ptr 0 0,gI 0,gI 549,gU 0,gI 0,gI 0,.sl []] [.v (.bool false)] tLg 9 1 rfl (by decide) (.adr 0 _ rfl fun e=>.dup 4 0 e rfl (.close (oLs (Rz d (mkN d 0)) e) [(0,1),(1,0),(2,3),(3,4)] (by exact RL4) ⟨_,rfl⟩ rfl (.done ?_)))))))
 refine D2 [8] [0,5] (fun i:Nat=>[(46,gI i)]) (fun i=>[(1,.abs (cl (oLs (Rz d (mkN d i)) e)))]) (fun i=>i≤2) (fun i=>2 - i) 0 (Nat.zero_le _) ⟨⟨rfl,rfl⟩,trivial⟩ ⟨RL1,trivial⟩ rfl fun i hi=>?_
 refine EvIf.dec (fun h=>?_) fun h=>?_
 ·have hi2:i < 2:=by omega
  refine EvCall.gh (.done (.same ((Zcd (Rz d (mkN d i)) e hwd hml hd i hi2).cal fun q rs hq=>?_)))
  obtain⟨rfl,rfl⟩:=hq
  refine .opn 1 _ _ _ rfl rfl rfl (.done ?_)
  refine EvIf.mk (fun his=>?_) fun his=>?_
  ·refine EvIf.dec (fun hgt=>?_) fun hgt=>?_
   ·have hgt:(((Cv d i).mark:Nat):Int) > ((mkN d i).mark:Nat):=hgt
    have his:(Cv d i).is=true:=his
    have hN:mkN d (i+1)=Cv d i:=by
     show F3 _ _=_
     unfold F3
     rw[if_pos ⟨his,by omega⟩]
    refine⟨by omega,?_⟩
    refine Gh.close (oLs (Rz d (Cv d i)) e) [(0,1),(1,6),(2,7),(3,8)] (by exact RL4) ⟨_,rfl⟩ rfl (.done ⟨i+1,[],by omega,(by dsimp only;omega),?_⟩)
    refine⟨?_,?_,rfl⟩<;>repeat' (first | exact True.intro | with_reducible rfl | exact rfl | refine And.intro ?_ ?_)
    rw[hN];exact rfl
   ·have hgt:¬(((Cv d i).mark:Nat):Int) > ((mkN d i).mark:Nat):=hgt
    have hN:mkN d (i+1)=mkN d i:=by
     show F3 _ _=_
     unfold F3
     rw[if_neg (fun h=>hgt (by omega))]
    refine⟨by omega,?_⟩
    refine Gh.close (oLs (Rz d (mkN d i)) e) [(0,1),(1,6),(2,7),(3,8)] (by exact RL4) ⟨_,rfl⟩ rfl (.done ⟨i+1,[],by omega,(by dsimp only;omega),?_⟩)
    refine⟨?_,?_,rfl⟩<;>repeat' (first | exact True.intro | with_reducible rfl | exact rfl | refine And.intro ?_ ?_)
    rw[hN];exact rfl
  ·have his:(Cv d i).is=false:=his
   have hN:mkN d (i+1)=mkN d i:=by
    show F3 _ _=_
    unfold F3
    rw[if_neg (fun h=>by rw[his] at h;cases h.1)]
   refine⟨by omega,?_⟩
   refine Gh.close (oLs (Rz d (mkN d i)) e) [(0,1),(1,6),(2,7),(3,8)] (by exact RL4) ⟨_,rfl⟩ rfl (.done ⟨i+1,[],by omega,(by dsimp only;omega),?_⟩)
   refine⟨?_,?_,rfl⟩<;>repeat' (first | exact True.intro | with_reducible rfl | exact rfl | refine And.intro ?_ ?_)
   rw[hN];exact rfl
 ·obtain rfl:i=2:=by omega
  obtain⟨hm1,hm2⟩:=Z6b d 2
  conv=>whnf
  refine Gh.done ?_
  refine EvCall.lend ((Zbm (Rz d (mkN d 2)) e hwd hml hd hm1 hm2).cal fun q rs hq=>?_)
  rcases hq with⟨hr,rfl,rfl⟩ | ⟨a,hr,rfl,rfl⟩
  ·refine EvIf.bne (fun _=>?_) fun h=>absurd h (by decide)
   exact .gh (.opn 1 _ _ _ rfl rfl rfl (.move 6 0 8 5 e _ rfl rfl rfl rfl (.done (A7 rfl rfl (.inl ⟨by unfold Z08;rw[show Kb d=mkN d 2 from rfl,hr],rfl,rfl⟩)))))
  ·refine EvIf.bne (fun h=>absurd rfl h) fun _=>?_
   exact .inl ⟨[⟨[(0,.gone)],[(0,0)],false⟩,⟨[(0,.abs _)],[(0,1)],false⟩,⟨[(0,.adr 0 e)],[(0,5)],false⟩],.tup [.ptr 1 0,gI 0],⟨⟨⟨_,rfl,rfl,rfl⟩,⟨_,rfl,rfl,rfl⟩,⟨_,rfl,rfl,rfl⟩,trivial⟩,rfl,⟨_,rfl⟩,rfl,rfl,.inr ⟨_,e,by unfold Z08;rw[show Kb d=mkN d 2 from rfl,hr],rfl,rfl⟩⟩⟩
end Go.Proofs.YtihfaocdpmmooaaGreat
namespace Go.Proofs.YtihfaocdpmmooaaGreat
open Go.RowKit
set_option maxRecDepth 100000
theorem Gi {own:Os}{n k:Nat}{rows rows':List (List G)}{e sz:Nat}(h:look k own=some (.slc rows e sz))(he:rows=rows'):Z2n [] own n (.osl k) (fun g rs=>g=.osl 0∧rs=[.slc rows' e sz]):=by
 subst he
 exact .inl ⟨[⟨[(0,.slc rows e sz)],[(0,k)],false⟩],.osl 0,⟨⟨⟨_,rfl,h,rfl⟩,trivial⟩,rfl,⟨_,rfl⟩,rfl,rfl,⟨rfl,rfl⟩⟩⟩
theorem Z53 (l:List ByteArray):∀r∈l.map gSt,r.length=1∧r.all G.one=true:=fun r hr=>by
 obtain⟨c,-,rfl⟩:=List.mem_map.1 hr
 exact⟨rfl,rfl⟩
theorem Z1w (l:List ByteArray)(hl:l.length≤1000000):FnO Tryz.prog 93 [.sl (l.map gSt)] [] fun g rs=>g=.osl 0∧rs=[.slc (l.map gSt) 9 1]:=by
 refine Bd Tryz.func93 (by kernel_rfl) rfl (Nat.le_of_ble_eq_true (by kernel_rfl)) (by kernel_rfl) (Qy _) ?_
 refine⟨fun b hb=>?_⟩
 refine EvIf.mk (fun h=>?_) fun h=>?_
 ·have e:l.map gSt=[]:=Classical.byContradiction fun hne=>by rw[hb hne] at h;cases h
  exact Gi (k:=1) rfl e.symm
 ·refine⟨Z53 l,by simp;omega,?_⟩
  exact Gi (k:=2) rfl (List.nil_append _)
theorem Zbh (l:List ByteArray)(hl:l.length≤1000000):FnO Tryz.prog 93 [.osl 0] [.slc (l.map gSt) 9 1] fun g rs=>g=.osl 1∧rs=[.slc (l.map gSt) 9 1,.slc (l.map gSt) 9 1] :=
 FnO.peekN (Z1w l hl) rfl fun r hr g hg=>by
  obtain⟨s,-,rfl⟩:=List.mem_map.1 hr
  rw[List.mem_singleton.1 hg];rfl
theorem Z8s (l:Bs)(hl:l.length≤1000000):FnO Tryz.prog 142 [.sl (l.map gBy)] [] fun g rs=>g=.osl 0∧rs=[.slc (l.map gBy) 5 1]:=by
 refine Bd Tryz.func142 (by kernel_rfl) rfl (Nat.le_of_ble_eq_true (by kernel_rfl)) (by kernel_rfl) (Qy _) ?_
 refine⟨fun b hb=>?_⟩
 refine EvIf.mk (fun h=>?_) fun h=>?_
 ·have e:l.map gBy=[]:=Classical.byContradiction fun hne=>by rw[hb hne] at h;cases h
  exact Gi (k:=1) rfl e.symm
 ·refine⟨N8 l,by simp;omega,?_⟩
  exact Gi (k:=2) rfl (List.nil_append _)
theorem Zf8 (l:LD)(e:Nat)(hl:l.all.length≤1000000):FnO Tryz.prog 57 [.ptr 0 0] (cL l e) fun g rs=>g=.osl 1∧rs=[.abs (cl (oLs l e)),.slc (l.all.map gSt) 9 1]:=by
 refine Bd Tryz.func57 (by kernel_rfl) rfl (Nat.le_of_ble_eq_true (by kernel_rfl)) (by kernel_rfl) (A6 (O:=oLs l e) (n0:=4) rfl) ?_
 refine EvCall.lend ((Zbh l.all hl).cal fun q rs hq=>?_)
 obtain⟨rfl,rfl⟩:=hq
 exact .inl ⟨[⟨oLs l e,[],true⟩,⟨[(0,.slc (l.all.map gSt) 9 1)],[(0,5)],false⟩],.osl 1,⟨⟨⟨(by exact RL4),_,rfl⟩,⟨_,rfl,rfl,rfl⟩,trivial⟩,rfl,⟨_,rfl⟩,rfl,rfl,⟨rfl,rfl⟩⟩⟩
theorem U2 (b:Bs)(hb:b.length≤1000000)(s:ByteArray)(hs:s.size≤1000000):FnO Tryz.prog 141 [.osl 0,.v (.string s)] [.slc (b.map gBy) 5 1] fun g rs=>g=.osl 1∧rs=[.gone,.slc ((b++frB s).map gBy) 5 1]:=by
 refine Bd Tryz.func141 (by kernel_rfl) rfl (Nat.le_of_ble_eq_true (by kernel_rfl)) (by kernel_rfl) (Sy _ _) ?_
 have hlen:s.data.toList.length=s.size:=by rw[Array.length_toList];rfl
 refine⟨by decide,by decide,by decide,?_⟩
 refine⟨by rw[List.length_map];show b.length+4≤_;omega,?_⟩
 refine⟨by simp;omega,?_⟩
 have e1:b.map gBy++[[G.v (.int .u8 (((s.size:Int).fdiv (2 ^ min (Int.toNat 24) 64)) % 256))],[G.v (.int .u8 (((s.size:Int).fdiv (2 ^ min (Int.toNat 16) 64)) % 256))],[G.v (.int .u8 (((s.size:Int).fdiv (2 ^ min (Int.toNat 8) 64)) % 256))],[G.v (.int .u8 ((s.size:Int) % 256))]]++s.data.toList.map gBy=(b++frB s).map gBy:=by
  unfold frB
  rw[List.map_append,List.append_assoc]
  congr 1
  show _=gBy _::gBy _::gBy _::gBy _::s.data.toList.map gBy
  unfold gBy
  rw[C9,C9,C9,C9,Es _ 16777216 (Int.toNat 24) 24 rfl rfl (by decide),Es _ 65536 (Int.toNat 16) 16 rfl rfl (by decide),Es _ 256 (Int.toNat 8) 8 rfl rfl (by decide)]
  rfl
 rw[←e1]
 exact .inl ⟨[⟨[(0,.gone)],[(0,0)],false⟩,⟨[(0,.slc _ 5 1)],[(0,4)],false⟩],.osl 1,⟨⟨⟨_,rfl,rfl,rfl⟩,⟨_,rfl,rfl,rfl⟩,trivial⟩,rfl,⟨_,rfl⟩,rfl,rfl,⟨rfl,rfl⟩⟩⟩
end Go.Proofs.YtihfaocdpmmooaaGreat
namespace Go.Proofs.YtihfaocdpmmooaaGreat
open Go.RowKit
set_option maxRecDepth 100000
theorem Ha (l:LD)(rest:List R)(h:l.dead=false):FnO Tryz.prog 150 [.ptr 0 0,gI 0] (.blk (Bi l (.ptr 1 0) (.osl 2)) tLg::rest) fun g rs=>g=gI 0∧rs=.blk (Bi l (.ptr 1 0) (.osl 2)) tLg::rest :=
 (Zc8 l rest 0).mono fun g rs ⟨h1,h2⟩=>⟨by rw[h1,h];rfl,by rw[h2];cases l;dsimp only at h;subst h;rfl⟩
theorem Hb (l:LD)(rest:List R){e:Int}(he:e≠0):FnO Tryz.prog 150 [.ptr 0 0,gI e] (.blk (Bi l (.ptr 1 0) (.osl 2)) tLg::rest) fun g rs=>g=gI 40∧rs=.blk (Bi {l with dead:=true} (.ptr 1 0) (.osl 2)) tLg::rest :=
 (Zc8 l rest e).mono fun g rs ⟨h1,h2⟩=>⟨by rw[h1,if_pos (.inr he)],by rw[h2,show(l.dead||e != 0)=true by cases l.dead<;>simp[he]]⟩
theorem Pv (d:RD):(Ba d).now=d.now∧(Ba d).wait=d.wait∧(Ba d).firm=d.firm∧(Ba d).armed≤d.armed:=by
 unfold Ba
 split
 ·exact⟨rfl,rfl,rfl,Int.le_refl _⟩
 ·exact⟨rfl,rfl,rfl,by show d.armed - 1≤_;omega⟩
theorem E7 (d:RD)(n:Int)(b:Sec):(Ae d n b).now.length=d.now.length∧(Ae d n b).wait.length≤d.wait.length+1∧(Ae d n b).armed≤d.armed:=by
 unfold Ae
 split
 ·exact⟨rfl,Nat.le_succ _,Int.le_refl _⟩
 ·split
  ·exact⟨rfl,Nat.le_succ _,Int.le_refl _⟩
  ·obtain⟨h1,h2,-,h3⟩:=Pv (Z4o d n.toNat (E1 b))
   rw[h1,h2]
   exact⟨by show(d.now.set _ _).length=_;rw[List.length_set],by show(d.wait++[_]).length≤_;simp,h3⟩
theorem Ia (d:RD):(Ab d).now.length=d.now.length∧(Ab d).wait.length≤d.wait.length∧(Ab d).armed≤d.armed:=by
 obtain⟨h1,h2,-,h3⟩:=Pv d
 unfold Ab
 split
 ·exact⟨rfl,Nat.le_refl _,Int.le_refl _⟩
 ·split
  ·rw[h1,h2];exact⟨rfl,Nat.le_refl _,h3⟩
  ·exact⟨by show(Ba d).now.length=_;rw[h1],Nat.zero_le _,h3⟩
theorem Fa (f:Nat)(b:Bs)(n:Nat)(ns:List Nat)(d:RD):runW f b (n::ns) d=if Bn d ((f+n:Nat):Int) (chB b n)=0 then runW f b ns (Ae d ((f+n:Nat):Int) (chB b n)) else(Ae d ((f+n:Nat):Int) (chB b n),false):=rfl
structure WrI (l:LD)(f:Nat)(b:Bs)(n0 k:Nat)(x:Nat × RD):Prop where
 le:x.1≤k
 run:runW f b (List.range' n0 k) l.d=runW f b (List.range' (n0+x.1) (k - x.1)) x.2
 wd:WD x.2
 len:x.2.now.length=l.d.now.length
 wait:x.2.wait.length≤l.d.wait.length+x.1
 armed:x.2.armed≤9223372036854775807
theorem Z2k (l:LD)(e:Nat)(hwd:WD l.d)(hml:1100≤l.d.now.length)(ha:l.d.armed≤9223372036854775807)(hwt:l.d.wait.length≤100000)(hd:l.dead=false){h:Nat}(hh:h < 2)(b:Bs)(hb:b.length≤35136)(frm:Nat)(hf:frm≤b.length):FnO Tryz.prog 143 [.ptr 0 0,gI h,.sl (b.map gBy),gI frm] (cL l e) fun g rs=>g=gI (if wrE l h b frm=true then 0 else 40)∧rs=cL (wrL l h b frm) e:=by
 refine Bd Tryz.func143 (by kernel_rfl) rfl (Nat.le_of_ble_eq_true (by kernel_rfl)) (by kernel_rfl) (A6 (O:=oLs l e) (n0:=4) rfl) ?_
 have hdiv:((frm:Nat):Int).tdiv 64=((frm / 64:Nat):Int):=rfl
 refine⟨by decide,?_⟩
 refine⟨by rw[hdiv];omega,?_⟩
 obtain⟨n0,hn0⟩:∃n0,n0=frm / 64:=⟨_,rfl⟩
 obtain⟨k,hk⟩:∃k,k=(b.length+63) / 64 - frm / 64:=⟨_,rfl⟩
 have hbl:(((b.map gBy).length:Nat):Int)=b.length:=by rw[List.length_map]
 refine Bo [0,1,2] [0,2,3] (fun x:Nat × RD=>[(9,gI ((n0+x.1:Nat):Int))]) (fun x=>[(1,.abs (cl (oDs x.2)))]) (WrI l (Ce h) b n0 k) (fun x=>k - x.1) (0,l.d) ⟨Nat.zero_le _,rfl,hwd,rfl,Nat.le_refl _,ha⟩ ⟨⟨rfl,by rw[hn0];rfl⟩,trivial⟩ ⟨RL1,trivial⟩ rfl fun⟨i,d⟩ hI=>?_
 refine⟨by have:=hI.le;dsimp only at this⊢;omega,?_⟩
 refine EvIf.dec (fun hlt=>?_) fun hge=>?_
 ·dsimp only at hlt
  rw[hbl] at hlt
  have hle:=hI.le
  have hwt2:=hI.wait
  have hln:=hI.len
  have hrun:=hI.run
  dsimp only at hle hwt2 hln hrun
  have hik:i < k:=by omega
  obtain⟨n,hn⟩:∃n,n=n0+i:=⟨_,rfl⟩
  rw[←hn] at hlt hrun⊢
  have hnb:n * 64 < b.length:=by omega
  have hn549:n < 549:=by omega
  rw[show k - i=(k - (i+1))+1 by omega,List.range'_succ] at hrun
  have hrng1:-9223372036854775808≤((n:Nat):Int) * 64∧((n:Nat):Int) * 64≤9223372036854775807:=by omega
  have hrng2:-9223372036854775808≤((n:Nat):Int)+1∧((n:Nat):Int)+1≤9223372036854775807:=by omega
  have hrng3:-9223372036854775808≤(((n:Nat):Int)+1) * 64∧(((n:Nat):Int)+1) * 64≤9223372036854775807:=by omega
  have hR:∀r∈b.map gBy,r.length=1:=fun r hr=>by
   obtain⟨x,-,rfl⟩:=List.mem_map.1 hr
   rfl
  refine⟨hrng1,hrng2,hrng3,⟨by omega,by rw[hbl];omega,by rw[hbl];omega⟩,⟨hR,?_⟩⟩
  have eC:Ea (b.map gBy) (((n:Nat):Int) * 64).toNat (min (((b.map gBy).length:Nat):Int) ((((n:Nat):Int)+1) * 64)).toNat=(chB b n).map gBy:=by
   rw[hbl]
   unfold chB
   show((b.map gBy).take _).drop _=_
   rw[List.map_take,List.map_drop,List.drop_take,show(((n:Nat):Int) * 64).toNat=n * 64 by omega]
   by_cases h2:b.length≤(n+1) * 64
   ·rw[List.take_of_length_le (by simp;omega),List.take_of_length_le (by simp;omega)]
   ·congr 1;omega
  obtain⟨n',hn'⟩:∃n':Int,n'=((Ce h:Nat):Int)+((n:Nat):Int):=⟨_,rfl⟩
  have hn2:n'=((Ce h+n:Nat):Int):=by rw[hn'];omega
  have hf2:Ce h≤551:=by unfold Ce;omega
  have hrng4:-9223372036854775808≤((Ce h:Nat):Int)+((n:Nat):Int)∧((Ce h:Nat):Int)+((n:Nat):Int)≤9223372036854775807:=by omega
  have hW:=Zc d hI.wd hI.armed (by omega) n' (chB b n)
  rw[←eC] at hW
  obtain⟨hl1,hl2,hl3⟩:=E7 d n' (chB b n)
  by_cases he:Bn d n' (chB b n)=0
  ·rw[he] at hW
   have hrun2:runW (Ce h) b (List.range' n0 k) l.d=runW (Ce h) b (List.range' (n0+(i+1)) (k - (i+1))) (Ae d n' (chB b n)):=by
    rw[hrun,Fa,←hn2,if_pos he,hn,Nat.add_assoc]
   refine⟨?_,?_⟩
   all_goals
    refine EvCall.lend ((Ri l _ hh).cal fun q rs hq=>?_)
    obtain⟨rfl,rfl⟩:=hq
    refine⟨hrng4,?_⟩
    rw[←hn']
    refine EvCall.lend (hW.cal fun q rs hq=>?_)
    obtain⟨rfl,rfl⟩:=hq
    refine EvCall.lend ((Ha l _ hd).cal fun q rs hq=>?_)
    obtain⟨rfl,rfl⟩:=hq
    refine EvIf.bne (fun h=>absurd rfl h) fun _=>?_
    refine⟨hrng2,(i+1,Ae d n' (chB b n)),⟨hik,hrun2,Id hI.wd _ _,hl1.trans hln,by dsimp only;omega,by have:=hI.armed;dsimp only at this⊢;omega⟩,(by dsimp only;omega),?_⟩
    refine⟨?_,?_,rfl⟩<;>repeat' (first | exact True.intro | with_reducible rfl | exact rfl | refine And.intro ?_ ?_)
    exact congrArg (fun z=>some (gI z)) (by omega)
  ·have hrun2:runW (Ce h) b (List.range' n0 k) l.d=(Ae d n' (chB b n),false):=by
    rw[hrun]
    unfold runW
    rw[←hn2,if_neg he]
   have hw:wrL l h b frm={l with d:=Ae d n' (chB b n),dead:=true}:=by
    unfold wrL nsW
    rw[←hk,←hn0,hrun2];rfl
   have hE:wrE l h b frm=false:=by
    unfold wrE nsW
    rw[←hk,←hn0,hrun2]
   refine⟨?_,?_⟩
   all_goals
    refine EvCall.lend ((Ri l _ hh).cal fun q rs hq=>?_)
    obtain⟨rfl,rfl⟩:=hq
    refine⟨hrng4,?_⟩
    rw[←hn']
    refine EvCall.lend (hW.cal fun q rs hq=>?_)
    obtain⟨rfl,rfl⟩:=hq
    refine EvCall.lend ((Hb l _ he).cal fun q rs hq=>?_)
    obtain⟨rfl,rfl⟩:=hq
    refine EvIf.bne (fun _=>?_) fun h=>absurd h (by decide)
    exact .inl (A1 (oLs {l with d:=Ae d n' (chB b n),dead:=true} e) [] (by exact RL4) rfl ⟨_,rfl⟩ rfl rfl ⟨by rw[hE];rfl,by rw[hw]⟩)
 ·dsimp only at hge
  rw[hbl] at hge
  have hle:=hI.le
  have hrun:=hI.run
  dsimp only at hle hrun
  have hik:k - i=0:=by omega
  rw[hik] at hrun
  have hrun:runW (Ce h) b (List.range' n0 k) l.d=(d,true):=hrun
  have hw:wrL l h b frm={l with d:=d,dead:=false}:=by
   unfold wrL nsW
   rw[←hk,←hn0,hrun];rfl
  have hE:wrE l h b frm=true:=by
   unfold wrE nsW
   rw[←hk,←hn0,hrun]
  have hl:{l with d:=d,dead:=false}={l with d:=d}:=by cases l;dsimp only at hd;subst hd;rfl
  rw[hl] at hw
  exact .inl (A1 (oLs {l with d:=d} e) [] (by exact RL4) rfl ⟨_,rfl⟩ rfl rfl ⟨by rw[hE];rfl,by rw[hw]⟩)
end Go.Proofs.YtihfaocdpmmooaaGreat
namespace Go.Proofs.YtihfaocdpmmooaaGreat
open Go.RowKit
set_option maxRecDepth 100000
structure WA (l:LD):Prop where
 d:WD l.d
 many:1100≤l.d.now.length
 armed:l.d.armed≤9223372036854775807
 wait:l.d.wait.length≤95000
 half:l.half < 2
 len:l.b.length≤35136
 all:l.all.length≤100000
 mark:l.mark≤1000000000
theorem Ds (s:ByteArray):(frB s).length=s.size+4:=by
 unfold frB
 simp
theorem Na (l:LD)(e:Nat)(h:WA l)(s:ByteArray)(hs:s.size≤1000000):FnO Tryz.prog 130 [.ptr 0 0,.v (.string s)] (cL l e) fun g rs=>g=gI (Fx l s)∧rs=cL (Bc l s) e:=by
 refine Bd Tryz.func130 (by kernel_rfl) rfl (Nat.le_of_ble_eq_true (by kernel_rfl)) (by kernel_rfl) (A6 (O:=oLs l e) (n0:=4) rfl) ?_
 refine EvIf.mk (fun hd=>?_) fun hd=>?_
 ·exact .inl (A1 (oLs l e) [] (by exact RL4) rfl ⟨_,rfl⟩ rfl rfl ⟨by unfold Fx;rw[if_pos hd];rfl,by unfold Bc;rw[if_pos hd]⟩)
 have hA:Fx l s=if s.size > 4096 then 52 else if(s.size:Int) > G1 l then 51 else if wrE l l.half (l.b++frB s) l.b.length=true then 0 else 40:=by unfold Fx;rw[if_neg (by rw[hd];decide)]
 have hB:Bc l s=if s.size > 4096 then l else if(s.size:Int) > G1 l then l else if wrE l l.half (l.b++frB s) l.b.length=true then {wrL l l.half (l.b++frB s) l.b.length with b:=l.b++frB s,all:=l.all++[s]} else wrL l l.half (l.b++frB s) l.b.length:=by unfold Bc;rw[if_neg (by rw[hd];decide)]
 refine EvIf.dec (fun h1=>?_) fun h1=>?_
 ·exact .inl (A1 (oLs l e) [] (by exact RL4) rfl ⟨_,rfl⟩ rfl rfl ⟨by rw[hA,if_pos (by omega)];rfl,by rw[hB,if_pos (by omega)]⟩)
 rw[if_neg (by omega)] at hA hB
 have hlen:=h.len
 refine EvCall.lend ((Zdn l _ (by omega)).cal fun q rs hq=>?_)
 obtain⟨rfl,rfl⟩:=hq
 refine EvIf.dec (fun h2=>?_) fun h2=>?_
 ·exact .inl (A1 (oLs l e) [] (by exact RL4) rfl ⟨_,rfl⟩ rfl rfl ⟨by rw[hA,if_pos h2];rfl,by rw[hB,if_pos h2]⟩)
 rw[if_neg h2] at hA hB
 have hroom:l.b.length+s.size+4≤35136:=by unfold G1 at h2;omega
 have hall:=h.all
 refine(Z8s l.b (by omega)).cal fun q rs hq=>?_
 obtain⟨rfl,rfl⟩:=hq
 refine EvCall.lend ((U2 l.b (by omega) s hs).cal fun q rs hq=>?_)
 obtain⟨rfl,rfl⟩:=hq
 have hbl:(l.b++frB s).length≤35136:=by rw[List.length_append,Ds];omega
 have hW:=Z2k l e h.d h.many h.armed (by have:=h.wait;omega) hd h.half (l.b++frB s) hbl l.b.length (by rw[List.length_append];omega)
 have hlb:(((l.b.map gBy).length:Nat):Int)=l.b.length:=by rw[List.length_map]
 rw[←hlb] at hW
 cases hE:wrE l l.half (l.b++frB s) l.b.length with
 | true =>
  rw[hE] at hW hA hB
  obtain⟨X,hX⟩:∃X,X=(runW (Ce l.half) (l.b++frB s) (nsW (l.b++frB s) l.b.length) l.d).1:=⟨_,rfl⟩
  have hw:wrL l l.half (l.b++frB s) l.b.length={l with d:=X}:=by
   unfold wrE at hE
   unfold wrL
   rw[hE,hX]
   cases l;dsimp only at hd;subst hd;rfl
  rw[hw] at hW hB
  refine EvCall.gh (.close (oLs l e) [] (by exact RL4) ⟨_,rfl⟩ rfl (.frz 5 _ _ _ rfl (.done (.see (.same (hW.cal fun q rs hq=>?_))))))
  obtain⟨rfl,rfl⟩:=hq
  refine .opn 0 _ _ _ rfl rfl rfl (.done ?_)
  refine EvIf.bne (fun h=>absurd rfl h) fun _=>?_
  refine⟨by rw[List.length_map];show l.all.length+1≤_;omega,?_⟩
  exact .inl (A1 (oLs {l with d:=X,b:=l.b++frB s,all:=l.all++[s]} e) [(1,6),(2,10),(3,8)] ⟨RL1,RL1,⟨rfl,rfl,eqR (by rw[List.map_append];rfl)⟩,RL1,trivial⟩ rfl ⟨_,rfl⟩ rfl rfl ⟨by rw[hA];rfl,by rw[hB];rfl⟩)
 | false =>
  rw[hE] at hW hA hB
  refine EvCall.gh (.close (oLs l e) [] (by exact RL4) ⟨_,rfl⟩ rfl (.frz 5 _ _ _ rfl (.done (.see (.same (hW.cal fun q rs hq=>?_))))))
  obtain⟨rfl,rfl⟩:=hq
  refine .opn 0 _ _ _ rfl rfl rfl (.done ?_)
  refine EvIf.bne (fun _=>?_) fun h=>absurd h (by decide)
  exact .inl (A1 (oLs (wrL l l.half (l.b++frB s) l.b.length) e) [(1,6),(2,7),(3,8)] (by exact RL4) rfl ⟨_,rfl⟩ rfl rfl ⟨by rw[hA];rfl,by rw[hB];rfl⟩)
end Go.Proofs.YtihfaocdpmmooaaGreat
