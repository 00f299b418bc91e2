
import Derived.Test.YtihfaocdpmmooaaGreatPl1
import Derived.Test.YtihfaocdpmmooaaGreatFn1
import Derived.Test.YtihfaocdpmmooaaGreatPKN
import Derived.Test.YtihfaocdpmmooaaGreatSxMe
namespace Go.Proofs.YtihfaocdpmmooaaGreat
open Go.RowKit
set_option maxRecDepth 100000
abbrev tDk:Nat:=108
abbrev tSc:Nat:=124
abbrev tWr:Nat:=126
def E5 (s:Sec):List G:=s.map fun c=>.v (.int .u8 c.toNat)
def enW (w:Nat × Sec):List G:=gI w.1::E5 w.2
abbrev oD (d:RD):List R:=[.blk [.osl 1,.osl 2,.osl 3,gI d.armed,.v (.bool d.dead)] tDk,.slc (d.now.map E5) tSc 64,.slc (d.firm.map E5) tSc 64,.slc (d.wait.map enW) tWr 65]
abbrev oDs (d:RD):Os:=B7 (oD d) 0
abbrev cD (d:RD):List R:=[.abs (cl (oDs d))]
theorem Hq {s:Sec}{g:G}(h:g∈E5 s):Gb g=true:=by
 obtain⟨c,-,rfl⟩:=az.1 h
 rfl
theorem Bw (s:Sec):(E5 s).length=s.length:=aa ..
theorem Qf {w:Nat × Sec}{g:G}(h:g∈enW w):Gb g=true:=by
 rcases bh.1 h with rfl | h
 ·rfl
 ·exact Hq h
theorem O2 (b:Bs):∀r∈b.map gBy,r.length=1∧r.all G.one=true:=fun r hr=>by
 obtain⟨c,-,rfl⟩:=az.1 hr
 exact⟨rfl,rfl⟩
theorem Xu (b:Bs):(b.map gBy).take (min (b.map gBy).length (zk124.map fun g=>[g]).length)++(zk124.map fun g=>[g]).drop (min (b.map gBy).length (zk124.map fun g=>[g]).length)=(E8 b).map gBy:=by
 have e:zk124.map (fun g=>[g])=(List.replicate 64 (0:UInt8)).map gBy:=by
  unfold zk124
  rw[List.map_replicate,List.map_replicate]
  rfl
 rw[e]
 unfold E8
 rw[am,←cv,←List.map_drop,aa,aa,List.length_replicate,List.drop_replicate]
 congr 2
 ·by_cases h:b.length≤64
  ·rw[ce h,ao (af _),ao h]
  ·rw[Nat.min_eq_right (by omega)]
 ·congr 1;omega
theorem Vu (s:Sec):∀r∈s.map gBy,∀g∈r,g.pure=true:=fun r hr g hg=>by
 obtain⟨c,-,rfl⟩:=az.1 hr
 rw[bm.1 hg];rfl
theorem Pa:∀s:Sec,(s.map gBy).flatten=E5 s
 | []=>rfl
 | c::s=>by
  rw[cj,b7,Pa s]
  rfl
theorem Nt {s:Sec}(h:s.length=64):((s.map gBy).flatten.drop 0).take 64=E5 s:=by
 rw[Pa,List.drop_zero,ao (by rw[Bw,h];exact af _)]
theorem S4 {s:Sec}(h:s.length=64):(((s.map gBy).flatten.drop 0).take 64).length=64:=by rw[Nt h,Bw,h]
theorem Zgi (s:Sec):∀g∈((s.map gBy).flatten.drop 0).take 64,Gb g=true:=fun g hg=>by
 have:=bz (bd hg)
 rw[Pa] at this
 exact Hq this
theorem S2 {l:List Sec}{i:Nat}{s:Sec}{cs:List G}{K:List (List G)→Prop}(hi:i < l.length)(hl:∀x∈l,x.length=64)(hs:s.length=64)(hc:cs=E5 s)(h:K ((l.set i s).map E5)):EvSet (l.map E5) i (fun row k=>ovr 64 row 0 cs k) K:=by
 subst hc
 refine dm (f:=E5) (ab hi) (fun k hk=>?_) rfl h
 have hx:=hl _ (bl hi)
 refine(show Et ((E5 s).length=64∧0+64≤(E5 l[i]).length) (k ((E5 l[i]).take 0++E5 s++(E5 l[i]).drop (0+64))) from⟨⟨by rw[Bw,hs],by rw[Bw,hx];exact af _⟩,?_⟩)
 rw[List.take_zero,cx,List.drop_of_length_le (by rw[Bw,hx];exact af _),cy]
 exact hk
theorem D5 {w:Nat × Sec}(h:w.2.length=64):(enW w).length=65:=by
 show(E5 w.2).length+1=65
 rw[Bw,h]
theorem Z6c {n:Int}{s:Sec}(h0:0≤n)(h:s.length=64):List.take 1 (gI n::List.replicate 64 (G.v (.int .u8 0)))++((s.map gBy).flatten.drop 0).take zk124.length++List.drop (1+zk124.length) (gI n::List.replicate 64 (G.v (.int .u8 0)))=enW (n.toNat,s):=by
 rw[show zk124.length=64 from rfl]
 rw[Nt h,List.drop_of_length_le (by simp),cy]
 show gI n::E5 s=gI (n.toNat:Nat)::E5 s
 rw[Int.toNat_of_nonneg h0]
theorem Z9l (s:Sec):(E5 s).map (fun g=>[g])=s.map gBy:=List.map_map ..
theorem Z5x {s:Sec}(h:s.length=64):List.take zk124.length (List.drop 0 (E5 s))=E5 s:=by
 rw[List.drop_zero,ao (by rw[Bw,h];exact af _)]
theorem Z4b (s:Sec):List.take 0 zk124++E5 s++List.drop (0+zk124.length) zk124=E5 s:=by
 rw[List.take_zero,cx,List.drop_of_length_le (by simp),cy]
theorem Sc {w:Nat × Sec}(h:w.2.length=64):List.take zk126.length (List.drop 0 (enW w))=enW w:=by
 rw[List.drop_zero,ao (by rw[D5 h];exact af _)]
theorem Rn (w:Nat × Sec):List.take 0 zk126++enW w++List.drop (0+zk126.length) zk126=enW w:=by
 rw[List.take_zero,cx,List.drop_of_length_le (by simp),cy]
theorem Z89 {w:Nat × Sec}(h:w.2.length=64):List.take zk124.length (List.drop (Nat.add 0 1) (enW w))=E5 w.2:=by
 show List.take 64 (E5 w.2)=_
 rw[ao (by rw[Bw,h];exact af _)]
theorem Zi6 {g:G}(h:g∈zk124):Gb g=true:=by rw[(List.mem_replicate.1 h).2];rfl
theorem Ze4 (d:RD)(n:Int):FnO Tryz.prog 61 [.ptr 0 0,gI n] (cD d) fun g rs=>g=gI (Kh d n)∧rs=cD d:=by
 refine Ba Tryz.func61 (A5 (O:=oDs d) (n0:=4) rfl) ?_
 have fin:∀{e:Int} {own:Os} {n0:Nat},leI [] own n0 (oDs d)→e=Kh d n→Z3l [0] own n0 (gI e) (fun g rs=>g=gI (Kh d n)∧rs=cD d):=fun hl he=>.inl (A1 (oDs d) [] hl rfl ⟨_,rfl⟩ rfl rfl ⟨by rw[he],rfl⟩)
 refine dj (fun hd=>?_) fun hd=>?_
 ·exact fin (by exact RL4) (by unfold Kh;rw[db hd])
 have hm:Kh d n=if n < 0∨n ≥ d.now.length then 41 else 0:=by unfold Kh;rw[da (by rw[hd];decide)]
 refine df (fun h=>?_) fun h=>?_
 ·exact fin (by exact RL4) (by rw[hm,db (.inl h)])
 ·refine df (fun h2=>?_) fun h2=>?_
  ·exact fin (by exact RL4) (by rw[aa] at h2;rw[hm,db (.inr h2)])
  ·exact fin (by exact RL4) (by rw[aa] at h2;rw[hm,da (by omega)])
theorem Z77 (d:RD)(ha:0≤d.armed)(hb:d.armed≤9223372036854775807):FnO Tryz.prog 62 [.ptr 0 0] (cD d) fun g rs=>g=.v (.bool (F9 d))∧rs=cD (Bh d):=by
 refine Ba Tryz.func62 (A5 (O:=oDs d) (n0:=4) rfl) ?_
 refine de (fun h=>?_) fun h=>?_
 ·exact .inl (A1 (oDs d) [] (by exact RL4) rfl ⟨_,rfl⟩ rfl rfl ⟨by unfold F9;rw[db h],by unfold Bh;rw[db h]⟩)
 ·refine⟨by omega,?_⟩
  exact .inl (A1 (oDs {d with armed:=d.armed - 1,dead:=(d.armed - 1==0)}) [] (by exact RL4) rfl ⟨_,rfl⟩ rfl rfl ⟨by unfold F9;rw[da h],by unfold Bh;rw[da h]⟩)
theorem Za (d:RD):FnO Tryz.prog 55 [.ptr 0 0] (cD d) fun g rs=>g=gI d.now.length∧rs=cD d:=by
 refine Ba Tryz.func55 (A5 (O:=oDs d) (n0:=4) rfl) ?_
 exact .inl (A1 (oDs d) [] (by exact RL4) rfl ⟨_,rfl⟩ rfl rfl ⟨by rw[aa],rfl⟩)
theorem Z2w (d:RD):FnO Tryz.prog 53 [.ptr 0 0] (cD d) fun g rs=>g=.v (.bool d.dead)∧rs=cD d:=by
 refine Ba Tryz.func53 (A5 (O:=oDs d) (n0:=4) rfl) ?_
 exact .inl (A1 (oDs d) [] (by exact RL4) rfl ⟨_,rfl⟩ rfl rfl ⟨rfl,rfl⟩)
theorem Zf0 (many:Int):FnO Tryz.prog 16 [gI many] [] fun g rs=>g=.ptr 0 0∧rs=cD (Y5 many):=by
 refine Ba Tryz.func16 (Q3 _) ?_
 have hm:0≤min (max many 0) 65536∧min (max many 0) 65536≤65536:=by omega
 have hb:0≤min (max many 0) 65536∧min (max many 0) 65536≤1073741824∧min (max many 0) 65536=min (max many 0) 65536∧min (max many 0) 65536 * 64≤1073741824:=⟨hm.1,by omega,rfl,by omega⟩
 have e1:List.replicate (min (max many 0) 65536).toNat zk124=(Y5 many).now.map E5:=by
  show _=(List.replicate _ _).map E5
  rw[List.map_replicate];rfl
 refine⟨⟨hb,⟨hb,?_⟩⟩,⟨hb,⟨hb,?_⟩⟩⟩
 ·exact .gh (.nil 2 [.osl 0,.osl 1] [gI 0,.ff] tDk tWr 65 rfl (by decide) (.seen 2 _ _ rfl (.done ⟨[⟨oDs (Y5 many),[(0,2),(1,0),(2,1),(3,3)],true⟩],.ptr 0 0,⟨⟨⟨⟨RL1,⟨rfl,rfl,eqR e1⟩,⟨rfl,rfl,eqR e1⟩,RL1,trivial⟩,_,rfl⟩,trivial⟩,rfl,⟨_,rfl⟩,rfl,rfl,⟨rfl,rfl⟩⟩⟩)))
 ·exact .gh (.nil 2 [.osl 1,.osl 0] [gI 0,.ff] tDk tWr 65 rfl (by decide) (.seen 2 _ _ rfl (.done ⟨[⟨oDs (Y5 many),[(0,2),(1,1),(2,0),(3,3)],true⟩],.ptr 0 0,⟨⟨⟨⟨RL1,⟨rfl,rfl,eqR e1⟩,⟨rfl,rfl,eqR e1⟩,RL1,trivial⟩,_,rfl⟩,trivial⟩,rfl,⟨_,rfl⟩,rfl,rfl,⟨rfl,rfl⟩⟩⟩)))
theorem Z2s (d:RD)(hd:WD d)(ha:d.armed≤9223372036854775807)(hw:d.wait.length≤1000000)(n:Int)(b:Sec):FnO Tryz.prog 19 [.ptr 0 0,gI n,.sl (b.map gBy)] (cD d) fun g rs=>g=gI (Bv d n b)∧rs=cD (Ae d n b):=by
 refine Ba Tryz.func19 (A5 (O:=oDs d) (n0:=4) rfl) ?_
 refine dg (.close (oDs d) [] (by exact RL4) ⟨_,rfl⟩ rfl (.done (.same ((Ze4 d n).cal fun q rs hq=>?_))))
 obtain⟨rfl,rfl⟩:=hq
 refine .opn 0 _ _ _ rfl rfl rfl (.done ?_)
 refine di (fun he=>?_) fun he=>?_
 ·exact .inl (A1 (oDs d) [(1,4),(2,5),(3,6)] (by exact RL4) rfl ⟨_,rfl⟩ rfl rfl ⟨by unfold Bv;rw[db he],by unfold Ae;rw[db he]⟩)
 have hE:Bv d n b=if b.length > 64 then 41 else if F9 d=true then 40 else 0:=by unfold Bv;rw[da (by simpa using he)]
 have hW:Ae d n b=if b.length > 64 then d else Bh (Z6z d n.toNat (E8 b)):=by unfold Ae;rw[da (by simpa using he)]
 have hm:=Np he
 refine df (fun h6=>?_) fun h6=>?_
 ·rw[aa] at h6
  exact .inl (A1 (oDs d) [(1,4),(2,5),(3,6)] (by exact RL4) rfl ⟨_,rfl⟩ rfl rfl ⟨by rw[hE,db (by omega)];rfl,by rw[hW,db (by omega)]⟩)
 rw[aa] at h6
 refine⟨⟨rfl,fun g hg=>Zi6 hg⟩,⟨O2 b,?_⟩⟩
 conv=>whnf
 rw[Xu b]
 refine⟨⟨by rw[aa,Ch];exact af _,Vu _⟩,?_⟩
 refine⟨⟨hm.2.1,by rw[aa];exact hm.2.2⟩,?_⟩
 refine⟨⟨S4 (Ch b),Zgi _⟩,?_⟩
 refine S2 (s:=E8 b) (l:=d.now) (by omega) hd.now (Ch b) (Nt (Ch b)) ?_
 refine⟨⟨by rw[aa,Ch];exact af _,Vu _⟩,?_⟩
 refine⟨S4 (Ch b),?_⟩
 refine⟨⟨S4 (Ch b),af _⟩,?_⟩
 conv=>whnf
 rw[Z6c hm.2.1 (Ch b)]
 refine⟨fun g hg=>Fe (Qf hg),?_⟩
 refine⟨⟨D5 (w:=(n.toNat,E8 b)) (Ch b),fun g hg=>Qf hg⟩,?_⟩
 refine⟨by rw[aa];show d.wait.length+1≤_;omega,?_⟩
 refine dg (.close (oDs (Z6z d n.toNat (E8 b))) [(1,4),(2,5),(3,10)] ⟨RL1,RL1,RL1,⟨rfl,rfl,eqR (by show _=(d.wait++[_]).map enW;rw[am];rfl)⟩,trivial⟩ ⟨_,rfl⟩ rfl (.done (.same ((Z77 (Z6z d n.toNat (E8 b)) hd.armed ha).cal fun q rs hq=>?_))))
 obtain⟨rfl,rfl⟩:=hq
 refine .done ?_
 have e1:F9 (Z6z d n.toNat (E8 b))=F9 d:=rfl
 refine dj (fun h=>?_) fun h=>?_
 ·exact .inl (A7 rfl rfl ⟨by rw[hE,da (by omega),db (e1 ▸ h)];rfl,by rw[hW,da (by omega)]⟩)
 ·exact .inl (A7 rfl rfl ⟨by rw[hE,da (by omega),da (by rw[←e1,h];decide)];rfl,by rw[hW,da (by omega)]⟩)
theorem Z8l (d:RD)(hd:WD d)(n:Int):FnO Tryz.prog 125 [.ptr 0 0,gI n] (cD d) fun g rs=>g=.tup [.sl ((Mp d n).map gBy),gI (Kh d n)]∧rs=cD d:=by
 refine Ba Tryz.func125 (A5 (O:=oDs d) (n0:=4) rfl) ?_
 refine dg (.close (oDs d) [] (by exact RL4) ⟨_,rfl⟩ rfl (.done (.same ((Ze4 d n).cal fun q rs hq=>?_))))
 obtain⟨rfl,rfl⟩:=hq
 refine .opn 0 _ _ _ rfl rfl rfl (.done ?_)
 refine di (fun he=>?_) fun he=>?_
 ·exact .gh (.frz 8 [] _ _ rfl (.done (A1 (oDs d) [(1,5),(2,6),(3,7)] (by exact RL4) rfl ⟨_,rfl⟩ rfl rfl ⟨by unfold Mp;rw[db he];rfl,rfl⟩)))
 have hm:=Np he
 have hlt:n.toNat < d.now.length:=by omega
 have hs:=hd.now _ (bl hlt)
 have hR:Mp d n=d.now[n.toNat]:=by unfold Mp;rw[da (by simpa using he),ab hlt];rfl
 refine⟨⟨hm.2.1,by rw[aa];exact hm.2.2⟩,?_⟩
 refine dk (ab hlt) ?_
 refine⟨by rw[Bw,hs];exact af _,?_⟩
 conv=>whnf
 rw[Z5x hs]
 refine⟨⟨(Bw _).trans hs,fun g hg=>Hq hg⟩,?_⟩
 refine⟨⟨(Bw _).trans hs,af _⟩,?_⟩
 conv=>whnf
 rw[Z4b]
 refine⟨⟨(Bw _).trans hs,fun g hg=>Hq hg⟩,?_⟩
 refine .gh (.frz 9 _ _ _ rfl (.done (A1 (oDs d) [(1,5),(2,6),(3,7)] (by exact RL4) rfl ⟨_,rfl⟩ rfl rfl ⟨?_,rfl⟩)))
 rw[hR,he,←Z9l]
 exact rfl
theorem Z7b (d:RD)(hd:WD d)(ha:d.armed≤9223372036854775807)(hw:d.wait.length≤1000000):FnO Tryz.prog 151 [.ptr 0 0] (cD d) fun g rs=>g=gI (Dj d)∧rs=cD (Ab d):=by
 refine Ba Tryz.func151 (A5 (O:=oDs d) (n0:=4) rfl) ?_
 refine dj (fun h=>?_) fun h=>?_
 ·exact .inl (A1 (oDs d) [] (by exact RL4) rfl ⟨_,rfl⟩ rfl rfl ⟨by unfold Dj;rw[db (.inl h)];rfl,by unfold Ab;rw[db h]⟩)
 have hc:Ab d=if F9 d=true then Bh d else {Bh d with firm:=Ge d.firm d.wait,wait:=[]}:=by unfold Ab;rw[da (by rw[h];decide)]
 have hE:Dj d=if F9 d=true then 40 else 0:=by unfold Dj;rw[h];simp
 refine dg (.close (oDs d) [] (by exact RL4) ⟨_,rfl⟩ rfl (.done (.same ((Z77 d hd.armed ha).cal fun q rs hq=>?_))))
 obtain⟨rfl,rfl⟩:=hq
 refine .opn 0 _ _ _ rfl rfl rfl (.done ?_)
 refine dj (fun h2=>?_) fun h2=>?_
 ·exact .inl (A1 (oDs (Bh d)) [(1,4),(2,5),(3,6)] (by exact RL4) rfl ⟨_,rfl⟩ rfl rfl ⟨by rw[hE,db h2];rfl,by rw[hc,db h2]⟩)
 have e1:(Bh d).now=d.now∧(Bh d).firm=d.firm∧(Bh d).wait=d.wait:=by unfold Bh;split<;>exact⟨rfl,rfl,rfl⟩
 have hw1:=Pf hd
 refine Ap [0,16,17] [0,4,6] (fun i:Nat=>[(18,gI i)]) (fun i=>[(5,.slc ((Ge (Bh d).firm ((Bh d).wait.take i)).map E5) tSc 64)]) (fun i=>i≤(Bh d).wait.length) (fun i=>(Bh d).wait.length - i) 0 (ah _) ⟨⟨rfl,rfl⟩,trivial⟩ ⟨RL1,trivial⟩ rfl fun i hi=>?_
 refine df (fun h5=>?_) fun h5=>?_
 ·refine⟨⟨by omega,h5⟩,dn (by simpa using h5) fun x hx=>?_⟩
  have hx2:=hw1.wait x (ae hx)
  refine⟨by rw[D5 hx2.2];exact af _,?_⟩
  conv=>whnf
  rw[Sc hx2.2]
  refine⟨⟨(D5 hx2.2),fun g hg=>Qf hg⟩,?_⟩
  refine⟨⟨(D5 hx2.2),af _⟩,?_⟩
  conv=>whnf
  rw[Rn]
  refine⟨by rw[D5 hx2.2];exact af _,?_⟩
  conv=>whnf
  rw[Z89 hx2.2]
  refine⟨fun g hg=>Fe (Hq hg),?_⟩
  have hfl:(Ge (Bh d).firm ((Bh d).wait.take i)).length=(Bh d).now.length:=(F8 _ _).trans hw1.len
  refine⟨⟨by omega,by rw[aa,hfl];have:=hx2.1;omega⟩,?_⟩
  refine⟨⟨(Bw _).trans hx2.2,fun g hg=>Hq hg⟩,?_⟩
  refine S2 (s:=x.2) (l:=Ge (Bh d).firm ((Bh d).wait.take i)) (by rw[hfl];have:=hx2.1;omega) (F6 _ _ hw1.firm fun w hw=>(hw1.wait w (bd hw)).2) hx2.2 rfl ?_
  have hx:(Bh d).wait[i]?=some x:=hx
  have hlt:=Bl hx
  refine⟨by rw[e1.2.2] at hlt;omega,i+1,by omega,(by dsimp only;omega),?_⟩
  refine⟨?_,?_,rfl⟩<;>repeat' (first|exact trivial|with_reducible rfl|exact rfl|refine And.intro ?_ ?_)
  exact eqR (by rw[Qx hx];rfl)
 ·rw[aa] at h5
  rw[ao (by omega)]
  refine .gh (.nil 0 [.osl 4,.osl 5] [gI (Bh d).armed,.v (.bool (Bh d).dead)] tDk tWr 65 rfl (by decide) (.done (A1 (oDs {Bh d with firm:=Ge d.firm d.wait,wait:=[]}) [(1,4),(2,5),(3,7)] ⟨RL1,RL1,⟨rfl,rfl,eqR (by rw[e1.2.1,e1.2.2])⟩,RL1,trivial⟩ rfl ⟨_,rfl⟩ rfl rfl ⟨by rw[hE,da (by rw[h2];decide)];rfl,by rw[hc,da (by rw[h2];decide)]⟩)))
abbrev tLg:Nat:=149
abbrev gU (n:Nat):G:=.v (.int .u64 (n:Nat))
abbrev Bn (l:LD)(p a:G):List G:=[p,gI 0,gI 549,gU l.mark,gI l.half,gI l.firm,.sl (l.b.map gBy),a,.v (.bool l.dead)]
abbrev oL (l:LD)(e:Nat):List R:=[.blk (Bn l (.ptr 1 0) (.osl 2)) tLg,.abs (cl (oDs l.d)),.slc (l.all.map gSt) 9 1,.adr 1 e]
abbrev oLs (l:LD)(e:Nat):Os:=B7 (oL l e) 0
abbrev cL (l:LD)(e:Nat):List R:=[.abs (cl (oLs l e))]
theorem Z5f (l l':LD):KeepL (Bn l (.ptr 1 0) (.osl 2)) (Bn l' (.ptr 1 0) (.osl 2)):=⟨.inr rfl,.inl rfl,.inl rfl,.inl rfl,.inl rfl,.inl rfl,.inl rfl,.inr rfl,.inl rfl,trivial⟩
theorem Zbu (l:LD)(p a:Value){h:Nat}(hh:h < 2):FnO Tryz.prog 128 [.ptr 0 0,gI h] [.blk (Bn l (.v p) (.v a)) tLg] fun g rs=>g=gI (Cq h:Nat)∧rs=[.blk (Bn l (.v p) (.v a)) tLg]:=by
 refine Ba Tryz.func128 (Tj _ _) ?_
 refine⟨by decide,by omega,by omega,?_⟩
 conv=>whnf
 rw[show(0+2+(h:Int) * 549:Int)=((Cq h:Nat):Int) by unfold Cq;omega]
 exact .inl ⟨[⟨[(0,.blk (Bn l (.v p) (.v a)) tLg)],[(0,0)],false⟩],_,⟨⟨⟨_,rfl,rfl,rfl⟩,trivial⟩,rfl,⟨[],rfl⟩,rfl,rfl,⟨rfl,rfl⟩⟩⟩
theorem S7 (l:LD)(rest:List R){h:Nat}(hh:h < 2):FnO Tryz.prog 128 [.ptr 0 0,gI h] (.blk (Bn l (.ptr 1 0) (.osl 2)) tLg::rest) fun g rs=>g=gI (Cq h:Nat)∧rs=.blk (Bn l (.ptr 1 0) (.osl 2)) tLg::rest :=
 FnO.frame (Z5f l l) rfl rfl fun u=>Zbu l (u 0) (u 7) hh
theorem Z37 (l:LD)(p a:Value):FnO Tryz.prog 127 [.ptr 0 0] [.blk (Bn l (.v p) (.v a)) tLg] fun g rs=>g=gI 35136∧rs=[.blk (Bn l (.v p) (.v a)) tLg]:=by
 refine Ba Tryz.func127 (Tj _ _) ?_
 refine⟨by decide,?_⟩
 exact .inl ⟨[⟨[(0,.blk (Bn l (.v p) (.v a)) tLg)],[(0,0)],false⟩],_,⟨⟨⟨_,rfl,rfl,rfl⟩,trivial⟩,rfl,⟨[],rfl⟩,rfl,rfl,⟨rfl,rfl⟩⟩⟩
theorem Zu (l:LD)(rest:List R):FnO Tryz.prog 127 [.ptr 0 0] (.blk (Bn l (.ptr 1 0) (.osl 2)) tLg::rest) fun g rs=>g=gI 35136∧rs=.blk (Bn l (.ptr 1 0) (.osl 2)) tLg::rest :=
 FnO.frame (Z5f l l) rfl rfl fun u=>Z37 l (u 0) (u 7)
theorem Zgm (l:LD)(p a:Value)(e:Int):FnO Tryz.prog 150 [.ptr 0 0,gI e] [.blk (Bn l (.v p) (.v a)) tLg] fun g rs=>g=gI (if l.dead=true∨e≠0 then 40 else 0)∧rs=[.blk (Bn {l with dead:=l.dead||e != 0} (.v p) (.v a)) tLg]:=by
 refine Ba Tryz.func150 (Tj _ _) ?_
 refine dj (fun h=>?_) fun h=>?_
 ·rw[db (.inl h),h]
  exact .gh (.seen 0 _ _ rfl (.done ⟨[⟨[(0,.blk (Bn {l with dead:=true} (.v p) (.v a)) tLg)],[(0,0)],false⟩],_,⟨⟨⟨_,rfl,rfl,rfl⟩,trivial⟩,rfl,⟨[],rfl⟩,rfl,rfl,⟨rfl,rfl⟩⟩⟩))
 ·refine dj (fun h2=>?_) fun h2=>?_
  ·rw[db (.inr (by simpa using h2)),h]
   exact .inl ⟨[⟨[(0,.blk (Bn {l with dead:=e != 0} (.v p) (.v a)) tLg)],[(0,0)],false⟩],_,⟨⟨⟨_,rfl,rfl,rfl⟩,trivial⟩,rfl,⟨[],rfl⟩,rfl,rfl,⟨rfl,rfl⟩⟩⟩
  ·rw[da (by rintro(h3 | h3);exact dc h3 (by rw[h];decide);exact h3 (by simpa using h2)),h]
   exact .inl ⟨[⟨[(0,.blk (Bn {l with dead:=e != 0} (.v p) (.v a)) tLg)],[(0,0)],false⟩],_,⟨⟨⟨_,rfl,rfl,rfl⟩,trivial⟩,rfl,⟨[],rfl⟩,rfl,rfl,⟨rfl,rfl⟩⟩⟩
theorem Zdx (l:LD)(rest:List R)(e:Int):FnO Tryz.prog 150 [.ptr 0 0,gI e] (.blk (Bn l (.ptr 1 0) (.osl 2)) tLg::rest) fun g rs=>g=gI (if l.dead=true∨e≠0 then 40 else 0)∧rs=.blk (Bn {l with dead:=l.dead||e != 0} (.ptr 1 0) (.osl 2)) tLg::rest :=
 FnO.frame (Z5f l {l with dead:=l.dead||e != 0}) rfl rfl fun u=>Zgm l (u 0) (u 7) e
theorem Zcg (l:LD)(p a:Value)(hl:l.b.length≤1000000000):FnO Tryz.prog 140 [.ptr 0 0] [.blk (Bn l (.v p) (.v a)) tLg] fun g rs=>g=gI (Gf l)∧rs=[.blk (Bn l (.v p) (.v a)) tLg]:=by
 refine Ba Tryz.func140 (Tj _ _) ?_
 have key:(((l.b.map gBy).length:Nat):Int)=l.b.length:=by rw[aa]
 have r1:-9223372036854775808≤35136 - (((l.b.map gBy).length:Nat):Int)∧35136 - (((l.b.map gBy).length:Nat):Int)≤9223372036854775807:=by omega
 have r2:-9223372036854775808≤35136 - (((l.b.map gBy).length:Nat):Int) - 4∧35136 - (((l.b.map gBy).length:Nat):Int) - 4≤9223372036854775807:=by omega
 refine jn (T:=?T1) (fun hj=>?a1) ?b1
 case a1 =>
  refine⟨?_,?_⟩
  all_goals
   refine dh ((Z37 l p a).cal fun q rs hq=>?_)
   obtain⟨rfl,rfl⟩:=hq
   refine⟨r1,r2,?_⟩
  all_goals (conv=>whnf)
  exact hj
  all_goals exact hj
 unfold Gf
 rw[←key]
 exact .inl ⟨[⟨[(0,.blk (Bn l (.v p) (.v a)) tLg)],[(0,0)],false⟩],_,⟨⟨⟨_,rfl,rfl,rfl⟩,trivial⟩,rfl,⟨[],rfl⟩,rfl,rfl,⟨rfl,rfl⟩⟩⟩
theorem Zcb (l:LD)(rest:List R)(hl:l.b.length≤1000000000):FnO Tryz.prog 140 [.ptr 0 0] (.blk (Bn l (.ptr 1 0) (.osl 2)) tLg::rest) fun g rs=>g=gI (Gf l)∧rs=.blk (Bn l (.ptr 1 0) (.osl 2)) tLg::rest :=
 FnO.frame (Z5f l l) rfl rfl fun u=>Zcg l (u 0) (u 7) hl
theorem Z00 (b:Bs)(hb:b.length≤8):FnV Tryz.prog 126 [.sl (b.map gBy)] fun g=>g=gU (D0 b):=by
 refine fnG Tryz.func126 ?_
 refine Ap [6,7] [] (fun i:Nat=>[(8,gI i),(3,gU (D0 (b.take i)))]) (fun _=>[]) (fun i=>i≤b.length) (fun i=>b.length - i) 0 (ah _) ⟨⟨rfl,rfl⟩,⟨rfl,rfl⟩,trivial⟩ trivial rfl fun i hi=>?_
 refine df (fun h=>?_) (fun h=>?_)
 ·have h:i < b.length:=by simpa using h
  refine dn (by simpa using h) fun x hx=>?_
  refine⟨by decide,by omega,i+1,by omega,(by dsimp only;omega),?_⟩
  refine⟨?_,?_,rfl⟩<;>repeat' (first|exact trivial|with_reducible rfl|exact rfl|refine And.intro ?_ ?_)
  have hlt:D0 (b.take i) < 2 ^ 56:=by
   have h1:=Gk (b.take i)
   refine ap h1 ?_
   rw[show(2:Nat) ^ 56=256 ^ 7 by decide]
   exact Nat.pow_le_pow_right (by decide) (by rw[au];omega)
  rw[An hx,Lo]
  exact congrArg (fun n=>some (G.v (.int .u64 n))) (Z7d _ _ hlt x.toNat_lt)
 ·have h:¬i < b.length:=by simpa using h
  rw[ao (by omega)]
  exact rfl
def Zj3 (n i:Nat):List G:=((be8 n).take i).map (fun c=>.v (.int .u8 c.toNat))++List.replicate (8 - i) (.v (.int .u8 0))
def Z8d (n k:Nat)(g:G):List G:=((be8 n).take k).map (fun c=>.v (.int .u8 c.toNat))++g::List.replicate (7 - k) (.v (.int .u8 0))
theorem Kd (n:Nat)(c p:Int)(h:p=c)(hc:0≤c):G.v (.int .u8 ((n:Int).fdiv p % 256))=.v (.int .u8 ((byI ((n:Int) / c)).toNat:Nat)):=by
 subst h
 rw[Ci,Int.fdiv_eq_ediv_of_nonneg _ hc]
theorem Zf5 (n:Nat)(p:Int)(h:p=1):G.v (.int .u8 ((n:Int).fdiv p % 256))=.v (.int .u8 ((byI (n:Int)).toNat:Nat)):=by
 rw[Kd n 1 p h (by decide),Int.ediv_one]
theorem Zgu (n:Nat):FnV Tryz.prog 152 [gU n] fun g=>g=.agg ((be8 n).map fun c=>.v (.int .u8 c.toNat)):=by
 refine fnG Tryz.func152 ?_
 refine Ap [0,2,3] [0] (fun i:Nat=>[(5,gI i)]) (fun i=>[(1,.blk (Zj3 n i) 179)]) (fun i=>i≤8) (fun i=>8 - i) 0 (ah _) ⟨⟨rfl,rfl⟩,trivial⟩ ⟨RL1,trivial⟩ rfl fun i hi=>?_
 refine df (fun h=>?_) (fun h=>?_)
 ·have hc:i=0∨i=1∨i=2∨i=3∨i=4∨i=5∨i=6∨i=7:=by omega
  rcases hc with rfl | rfl | rfl | rfl | rfl | rfl | rfl | rfl
  ·refine⟨by decide,by decide,by decide,⟨by decide,by decide⟩,by decide,?_⟩
   refine⟨1,by decide,by decide,?_⟩
   refine⟨?_,?_,rfl⟩<;>repeat' (first|exact trivial|with_reducible rfl|exact rfl|refine And.intro ?_ ?_)
   exact congrArg (fun g=>some (R.blk (Z8d n 0 g) 179)) (Kd n 72057594037927936 _ rfl (by decide))
  ·refine⟨by decide,by decide,by decide,⟨by decide,by decide⟩,by decide,?_⟩
   refine⟨2,by decide,by decide,?_⟩
   refine⟨?_,?_,rfl⟩<;>repeat' (first|exact trivial|with_reducible rfl|exact rfl|refine And.intro ?_ ?_)
   exact congrArg (fun g=>some (R.blk (Z8d n 1 g) 179)) (Kd n 281474976710656 _ rfl (by decide))
  ·refine⟨by decide,by decide,by decide,⟨by decide,by decide⟩,by decide,?_⟩
   refine⟨3,by decide,by decide,?_⟩
   refine⟨?_,?_,rfl⟩<;>repeat' (first|exact trivial|with_reducible rfl|exact rfl|refine And.intro ?_ ?_)
   exact congrArg (fun g=>some (R.blk (Z8d n 2 g) 179)) (Kd n 1099511627776 _ rfl (by decide))
  ·refine⟨by decide,by decide,by decide,⟨by decide,by decide⟩,by decide,?_⟩
   refine⟨4,by decide,by decide,?_⟩
   refine⟨?_,?_,rfl⟩<;>repeat' (first|exact trivial|with_reducible rfl|exact rfl|refine And.intro ?_ ?_)
   exact congrArg (fun g=>some (R.blk (Z8d n 3 g) 179)) (Kd n 4294967296 _ rfl (by decide))
  ·refine⟨by decide,by decide,by decide,⟨by decide,by decide⟩,by decide,?_⟩
   refine⟨5,by decide,by decide,?_⟩
   refine⟨?_,?_,rfl⟩<;>repeat' (first|exact trivial|with_reducible rfl|exact rfl|refine And.intro ?_ ?_)
   exact congrArg (fun g=>some (R.blk (Z8d n 4 g) 179)) (Kd n 16777216 _ rfl (by decide))
  ·refine⟨by decide,by decide,by decide,⟨by decide,by decide⟩,by decide,?_⟩
   refine⟨6,by decide,by decide,?_⟩
   refine⟨?_,?_,rfl⟩<;>repeat' (first|exact trivial|with_reducible rfl|exact rfl|refine And.intro ?_ ?_)
   exact congrArg (fun g=>some (R.blk (Z8d n 5 g) 179)) (Kd n 65536 _ rfl (by decide))
  ·refine⟨by decide,by decide,by decide,⟨by decide,by decide⟩,by decide,?_⟩
   refine⟨7,by decide,by decide,?_⟩
   refine⟨?_,?_,rfl⟩<;>repeat' (first|exact trivial|with_reducible rfl|exact rfl|refine And.intro ?_ ?_)
   exact congrArg (fun g=>some (R.blk (Z8d n 6 g) 179)) (Kd n 256 _ rfl (by decide))
  ·refine⟨by decide,by decide,by decide,⟨by decide,by decide⟩,by decide,?_⟩
   refine⟨8,by decide,by decide,?_⟩
   refine⟨?_,?_,rfl⟩<;>repeat' (first|exact trivial|with_reducible rfl|exact rfl|refine And.intro ?_ ?_)
   exact congrArg (fun g=>some (R.blk (Z8d n 7 g) 179)) (Zf5 n _ rfl)
 ·obtain rfl:i=8:=by omega
  exact rfl
theorem Ze5 (l:LD)(e:Nat)(hwd:WD l.d)(hml:1100≤l.d.now.length)(hd:l.d.dead=false)(n:Nat)(hn:n < 2):FnO Tryz.prog 91 [.ptr 0 0,gI n] (cL l e) fun g rs=>g=.tup [gU (Da l.d n).mark,gI (Da l.d n).half,gI (Da l.d n).firm,.v (.bool (Da l.d n).is)]∧rs=cL l e:=by
 refine Ba Tryz.func91 (A5 (O:=oLs l e) (n0:=4) rfl) ?_
 have hmay:Kh l.d (n:Nat)=0:=by
  unfold Kh
  rw[hd,da (by decide),da (by omega)]
 have hlt:n < l.d.now.length:=by omega
 obtain⟨b,hb⟩:∃b,Mp l.d (n:Nat)=b:=⟨_,rfl⟩
 have hb64:b.length=64:=by
  rw[←hb]
  unfold Mp
  rw[da (by rw[hmay];decide),ay,ab hlt]
  exact hwd.now _ (bl hlt)
 have hM:Da l.d n=if b.take 8≠b.drop 56 then⟨0,0,0,false⟩ else⟨D0 (b.take 8),((b[8]?).getD 0).toNat,D0 ((b.drop 9).take 4),decide (((b[8]?).getD 0).toNat < 2)&&decide (D0 ((b.drop 9).take 4)≤35136)⟩:=by
  unfold Da
  dsimp only
  rw[hb,hmay]
  simp
 have hr:FnO Tryz.prog 125 [.ptr 0 0,gI (0+(n:Int))] (cD l.d) fun g rs=>g=.tup [.sl (b.map gBy),gI 0]∧rs=cD l.d:=by
  have:=Z8l l.d hwd (n:Nat)
  rw[hb,hmay] at this
  rwa [Int.zero_add]
 rw[hM]
 refine⟨by omega,?_⟩
 refine dh (hr.cal fun q rs hq=>?_)
 obtain⟨rfl,rfl⟩:=hq
 refine dj (fun h=>dc h (by decide)) fun _=>?_
 have hL:((b.map gBy).length:Int)=64:=by rw[aa,hb64];rfl
 have hR:∀r∈b.map gBy,r.length=1:=fun r hr=>by
  obtain⟨x,-,rfl⟩:=az.1 hr
  rfl
 refine⟨⟨by decide,by decide,by rw[hL];decide⟩,⟨hR,?_⟩⟩
 obtain⟨x0,x1,x2,x3,x4,x5,x6,x7,hx⟩:=Zhy (l:=b.take 8) (by rw[au,hb64];rfl)
 obtain⟨y0,y1,y2,y3,y4,y5,y6,y7,hy⟩:=Zhy (l:=b.drop 56) (by rw[ba,hb64])
 have e1:E6 (b.map gBy) (0:Int).toNat (8:Int).toNat=[x0,x1,x2,x3,x4,x5,x6,x7].map gBy:=by
  rw[←hx,cv];rfl
 have e2:E6 (b.map gBy) (56:Int).toNat (((b.map gBy).length:Nat):Int).toNat=[y0,y1,y2,y3,y4,y5,y6,y7].map gBy:=by
  rw[←hy,List.map_drop]
  show(List.take _ _).drop 56=_
  rw[ao (by omega)]
 refine⟨by decide,[gB1 x0,gB1 x1,gB1 x2,gB1 x3,gB1 x4,gB1 x5,gB1 x6,gB1 x7],rfl,by rw[e1];rfl,?_⟩
 refine⟨⟨by decide,by rw[hL];decide,bp _⟩,⟨hR,?_⟩⟩
 refine⟨by decide,[gB1 y0,gB1 y1,gB1 y2,gB1 y3,gB1 y4,gB1 y5,gB1 y6,gB1 y7],rfl,by rw[e2];rfl,?_⟩
 refine EvEq.arr [x0,x1,x2,x3,x4,x5,x6,x7] [y0,y1,y2,y3,y4,y5,y6,y7] rfl rfl rfl (by kernel_rfl) rfl (by kernel_rfl) rfl rfl (fun heq=>?_) fun hne=>?_
 ·refine dj (fun h=>dc h (by decide)) fun _=>?_
  have hq:b.take 8=b.drop 56:=by rw[hx,hy];exact heq
  rw[da (fun h=>h hq)]
  refine⟨⟨by decide,by decide,by rw[hL];decide⟩,⟨hR,?_⟩⟩
  obtain⟨c,hc⟩:∃c,b[8]?=some c:=⟨_,ab (by omega)⟩
  refine dl (by decide) hc ?_
  have hcl:=c.toNat_lt
  have f4:D0 ((b.drop 9).take 4) < 256 ^ 4:=by
   refine ap (Gk _) (Nat.pow_le_pow_right (by decide) ?_)
   exact List.length_take_le ..
  have e8:E6 (b.map gBy) (0:Int).toNat (8:Int).toNat=(b.take 8).map gBy:=by rw[cv];rfl
  have e4:E6 (b.map gBy) (9:Int).toNat (13:Int).toNat=((b.drop 9).take 4).map gBy:=by
   rw[cv,List.map_drop]
   show(List.take 13 _).drop 9=_
   rw[List.drop_take]
  have t8:=Z00 (b.take 8) (by rw[au];omega)
  have t4:=Z00 ((b.drop 9).take 4) (by rw[au];omega)
  rw[←e8] at t8
  rw[←e4] at t4
  have r4:-9223372036854775808≤((D0 ((b.drop 9).take 4):Nat):Int)∧((D0 ((b.drop 9).take 4):Nat):Int)≤9223372036854775807:=by omega
  refine⟨by omega,?_⟩
  refine⟨⟨by decide,by decide,by rw[hL];decide⟩,⟨hR,?_⟩⟩
  refine t8.cal fun q hq=>?_
  subst hq
  refine t4.cal fun q hq=>?_
  subst hq
  refine⟨r4,?_⟩
  rw[hc]
  refine df (fun h2=>?_) fun h2=>?_
  ·refine dh ((Zu l _).cal fun q rs hq=>?_)
   obtain⟨rfl,rfl⟩:=hq
   have eb:decide (((D0 ((b.drop 9).take 4):Nat):Int)≤35136)=(decide (((some c).getD 0).toNat < 2)&&decide (D0 ((b.drop 9).take 4)≤35136)):=by
    rw[show(some c).getD 0=c from rfl,decide_eq_true (by omega:c.toNat < 2),Bool.true_and]
    exact decide_eq_decide.2 (by omega)
   exact .inl (A1 (oLs l e) [] (by exact RL4) rfl ⟨_,rfl⟩ rfl rfl ⟨congrArg (fun z=>G.tup [gU (D0 (b.take 8)),gI c.toNat,gI (D0 ((b.drop 9).take 4)),.v (.bool z)]) eb,rfl⟩)
  ·have eb:false=(decide (((some c).getD 0).toNat < 2)&&decide (D0 ((b.drop 9).take 4)≤35136)):=by
    rw[show(some c).getD 0=c from rfl,decide_eq_false (by omega:¬c.toNat < 2),Bool.false_and]
   exact .inl (A1 (oLs l e) [] (by exact RL4) rfl ⟨_,rfl⟩ rfl rfl ⟨congrArg (fun z=>G.tup [gU (D0 (b.take 8)),gI c.toNat,gI (D0 ((b.drop 9).take 4)),.v (.bool z)]) eb,rfl⟩)
 ·refine dj (fun _=>?_) fun h=>dc h (by decide)
  have hq:b.take 8≠b.drop 56:=by rw[hx,hy];exact hne
  rw[db hq]
  exact .inl (A1 (oLs l e) [] (by exact RL4) rfl ⟨_,rfl⟩ rfl rfl ⟨rfl,rfl⟩)
theorem Qt (b:Bs)(hb:b.length≤1000000):FnO Tryz.prog 129 [.sl (b.map gBy)] [] fun g rs=>g=.tup [.osl 0,.v (.bool (Me b).isSome)]∧rs=[.slc (((Me b).getD []).map gSt) 9 1]:=by
 refine Ba Tryz.func129 (Q3 _) ?_
 refine Ap [] [0] (fun p:Bs × List ByteArray=>[(0,.sl (p.1.map gBy)),(4,.osl 1)]) (fun p=>[(1,.slc (p.2.map gSt) 9 1)]) (fun p=>Me b=(Me p.1).map (p.2++·)∧p.1.length+p.2.length≤b.length) (fun p=>p.1.length) (b,[]) ⟨by cases Me b<;>rfl,af _⟩ ⟨⟨rfl,rfl⟩,⟨rfl,rfl⟩,trivial⟩ ⟨RL1,trivial⟩ rfl fun p hi=>?_
 obtain⟨c,l⟩:=p
 obtain⟨hrec,hlen⟩:=hi
 dsimp only at hrec hlen
 have hL:(((c.map gBy).length:Nat):Int)=c.length:=by rw[aa]
 have hR:∀r∈c.map gBy,r.length=1:=fun r hr=>by
  obtain⟨x,-,rfl⟩:=az.1 hr
  rfl
 have bad:Me c=none→∀{own:Os} {n k:Nat},look k own=some (.slc [] 9 1)→Z3l [] own n (.tup [.osl k,.v (.bool false)]) (fun g rs=>g=.tup [.osl 0,.v (.bool (Me b).isSome)]∧rs=[.slc (((Me b).getD []).map gSt) 9 1]):=fun h {own n k} hk=>by
  rw[hrec,h]
  exact .inl ⟨[⟨[(0,.slc [] 9 1)],[(0,k)],false⟩],.tup [.osl 0,.v (.bool false)],⟨⟨⟨_,rfl,hk,rfl⟩,trivial⟩,rfl,⟨_,rfl⟩,rfl,rfl,⟨rfl,rfl⟩⟩⟩
 refine df (fun h0=>?_) fun h0=>?_
 ·rw[hL] at h0
  have hne:c≠[]:=fun e=>by rw[e] at h0;exact dc h0 (by decide)
  have hst:=Pw hne
  refine df (fun h4=>?_) fun h4=>?_
  ·rw[hL] at h4
   refine bad (k:=2) (by rw[hst,db (by omega)]) ?_
   exact rfl
  rw[hL] at h4
  refine⟨⟨by decide,by decide,by rw[hL];omega⟩,⟨hR,?_⟩⟩
  have e4:E6 (c.map gBy) (0:Int).toNat (4:Int).toNat=(c.take 4).map gBy:=by rw[cv];rfl
  have t4:=Z00 (c.take 4) (by rw[au];omega)
  rw[←e4] at t4
  have f4:D0 (c.take 4) < 256 ^ 4:=ap (Gk _) (Nat.pow_le_pow_right (by decide) (List.length_take_le ..))
  refine t4.cal fun q hq=>?_
  subst hq
  refine⟨by omega,?_⟩
  refine df (fun h5=>?_) fun h5=>?_
  ·refine bad (k:=2) (by rw[hst,da (by omega),db (.inl (by omega))]) ?_
   exact rfl
  refine⟨by rw[hL];omega,?_⟩
  refine df (fun h6=>?_) fun h6=>?_
  ·rw[hL] at h6
   refine bad (k:=2) (by rw[hst,da (by omega),db (.inr (by omega))]) ?_
   exact rfl
  rw[hL] at h6
  have hgood:=hst
  rw[da (by omega),da (by omega)] at hgood
  refine⟨by omega,?_⟩
  refine⟨⟨by decide,by omega,by rw[hL];omega⟩,⟨hR,?_⟩⟩
  have eb:E6 (c.map gBy) (4:Int).toNat (4+((D0 (c.take 4):Nat):Int)).toNat=((c.drop 4).take (D0 (c.take 4))).map gBy:=by
   rw[cv,List.map_drop]
   show(List.take _ _).drop 4=_
   rw[List.drop_take]
   congr 1;omega
  have er:E6 (c.map gBy) (4+((D0 (c.take 4):Nat):Int)).toNat (((c.map gBy).length:Nat):Int).toNat=(c.drop (4+D0 (c.take 4))).map gBy:=by
   rw[List.map_drop]
   show(List.take (((c.map gBy).length:Nat):Int).toNat (c.map gBy)).drop (4+((D0 (c.take 4):Nat):Int)).toNat=_
   rw[ay,List.take_length,show(4+((D0 (c.take 4):Nat):Int)).toNat=4+D0 (c.take 4) by omega]
  refine⟨_,eb,?_⟩
  have hroom:(l.map gSt).length+1≤1073741824:=by rw[aa];omega
  refine⟨hroom,?_⟩
  refine⟨by omega,?_⟩
  refine⟨⟨by omega,by rw[hL];omega,bp _⟩,⟨hR,?_⟩⟩
  refine⟨(c.drop (4+D0 (c.take 4)),l++[⟨((c.drop 4).take (D0 (c.take 4))).toArray⟩]),⟨?_,?_⟩,?_,?_⟩
  ·rw[hrec,hgood]
   cases Me (c.drop (4+D0 (c.take 4)))<;>simp
  ·simp;omega
  ·dsimp only;rw[ba];omega
  refine⟨?_,?_,rfl⟩<;>repeat' (first|exact trivial|with_reducible rfl|exact rfl|refine And.intro ?_ ?_)
  ·exact congrArg (fun x=>some (G.sl x)) er
  ·exact eqR (by rw[am];rfl)
 ·rw[hL] at h0
  obtain rfl:c=[]:=al (by omega)
  rw[U0] at hrec
  have hrec:Me b=some l:=by rw[hrec];simp
  rw[hrec]
  exact .inl ⟨[⟨[(0,.slc (l.map gSt) 9 1)],[(0,1)],false⟩],.tup [.osl 0,.v (.bool true)],⟨⟨⟨_,rfl,rfl,rfl⟩,trivial⟩,rfl,⟨_,rfl⟩,rfl,rfl,⟨rfl,rfl⟩⟩⟩
theorem M2:∀(L:List Sec) (i:Nat),(∀s∈L,s.length=64)→i≤L.length→L.flatten.take (i * 64)=(L.take i).flatten
 | _,0,_,_=>by simp
 | [],i+1,_,hi=>by simp at hi
 | s::L,i+1,h,hi=>by
  have hs:=h s (by simp)
  rw[b7,List.take_succ_cons,b7,←M2 L i (fun x hx=>h x (by simp[hx])) (by simpa using hi),show(i+1) * 64=s.length+i * 64 by omega,List.take_length_add_append]
theorem R7 {d:RD}(hwd:WD d)(hml:1100≤d.now.length){h:Nat}(hh:h < 2):((d.now.drop (Cq h)).take 549).length=549∧(∀s∈(d.now.drop (Cq h)).take 549,s.length=64)∧∀i,i < 549→((d.now.drop (Cq h)).take 549)[i]?=d.now[Cq h+i]?:=by
 refine⟨by unfold Cq;simp;omega,fun s hs=>hwd.now s (bz (bd hs)),fun i hi=>?_⟩
 rw[bi,db hi,bu]
theorem Xz {d:RD}(hwd:WD d)(hml:1100≤d.now.length){h:Nat}(hh:h < 2){i:Nat}(hi:i < 549){s:Sec}(hs:d.now[Cq h+i]?=some s):(Cr d h).take ((i+1) * 64)=(Cr d h).take (i * 64)++s:=by
 obtain⟨h1,h2,h3⟩:=R7 hwd hml hh
 unfold Cr
 rw[M2 _ _ h2 (by omega),M2 _ _ h2 (by omega),List.take_add_one,h3 i hi,hs]
 simp
theorem Z33 {d:RD}(hwd:WD d)(hml:1100≤d.now.length){h:Nat}(hh:h < 2):(Cr d h).length=35136:=by
 obtain⟨h1,h2,-⟩:=R7 hwd hml hh
 unfold Cr
 have:∀L:List Sec,(∀s∈L,s.length=64)→L.flatten.length=L.length * 64:=fun L hL=>by
  induction L with
  | nil=>rfl
  | cons s L ih=>rw[b7,aw,hL s (by simp),ih fun x hx=>hL x (by simp[hx]),bc];omega
 rw[this _ h2,h1]
theorem Zc8 (l:LD)(e:Nat)(hwd:WD l.d)(hml:1100≤l.d.now.length)(hd:l.d.dead=false)(hh:l.half < 2)(hf:l.firm≤35136):FnO Tryz.prog 92 [.ptr 0 0] (cL l e) fun g rs=>(Me ((Cr l.d l.half).take l.firm)=none∧g=gI 50∧rs=cL {l with b:=(Cr l.d l.half).take l.firm} e)∨∃a,Me ((Cr l.d l.half).take l.firm)=some a∧g=gI 0∧rs=cL {l with b:=(Cr l.d l.half).take l.firm,all:=a} e:=by
 refine Ba Tryz.func92 (A5 (O:=oLs l e) (n0:=4) rfl) ?_
 have hB:=Z33 hwd hml hh
 refine Ap [0,12] [0,1,2,3] (fun i:Nat=>[(13,gI i),(3,.osl 4)]) (fun i=>[(4,.slc (((Cr l.d l.half).take (i * 64)).map gBy) 5 1)]) (fun i=>i≤549) (fun i=>549 - i) 0 (ah _) ⟨⟨rfl,rfl⟩,⟨rfl,rfl⟩,trivial⟩ ⟨RL1,trivial⟩ rfl fun i hi=>?_
 refine df (fun h=>?_) fun h=>?_
 ·have hi:i < 549:=by omega
  have hfl:Cq l.half+i < l.d.now.length:=by unfold Cq;omega
  obtain⟨s,hs⟩:∃s,l.d.now[Cq l.half+i]?=some s:=⟨_,ab hfl⟩
  have hs64:s.length=64:=hwd.now s (ae hs)
  have hr:FnO Tryz.prog 125 [.ptr 0 0,gI ((Cq l.half:Nat)+(i:Int))] (cD l.d) fun g rs=>g=.tup [.sl (s.map gBy),gI 0]∧rs=cD l.d:=by
   have hm:Kh l.d ((Cq l.half+i:Nat):Int)=0:=by
    unfold Kh
    rw[hd,da (by decide),da (by omega)]
   have:=Z8l l.d hwd ((Cq l.half+i:Nat):Int)
   unfold Mp at this
   rw[hm,da (fun h=>h rfl),ay,hs] at this
   rwa [Int.natCast_add] at this
  have hrng:-9223372036854775808≤((Cq l.half:Nat):Int)+(i:Int)∧((Cq l.half:Nat):Int)+(i:Int)≤9223372036854775807:=by unfold Cq;omega
  refine⟨?_,?_⟩
  all_goals
   refine dh ((S7 l _ hh).cal fun q rs hq=>?_)
   obtain⟨rfl,rfl⟩:=hq
   refine⟨hrng,?_⟩
   refine dh (hr.cal fun q rs hq=>?_)
   obtain⟨rfl,rfl⟩:=hq
   refine dj (fun h=>dc h (by decide)) fun _=>?_
   refine⟨O2 s,by rw[aa,aa,au,hB];omega,?_⟩
   have eA:((Cr l.d l.half).take (i * 64)).map gBy++s.map gBy=((Cr l.d l.half).take ((i+1) * 64)).map gBy:=by rw[Xz hwd hml hh hi hs,am]
   conv=>whnf
   rw[eA]
   refine df (fun hge=>?_) fun hlt=>?_
   ·rw[aa,au,hB] at hge
    have hm1:l.firm≤(i+1) * 64:=by omega
    have hm2:(i+1) * 64≤35136:=by omega
    have hlen:((((Cr l.d l.half).take ((i+1) * 64)).map gBy).length:Int)=((i+1) * 64:Nat):=by rw[aa,au,hB,ce hm2]
    refine⟨⟨bp _,by omega,by rw[hlen];omega⟩,?_⟩
    have eS:E6 (((Cr l.d l.half).take ((i+1) * 64)).map gBy) (0:Int).toNat ((l.firm:Nat):Int).toNat=((Cr l.d l.half).take l.firm).map gBy:=by
     show((List.map gBy _).take l.firm).drop 0=_
     rw[List.drop_zero,←cv,List.take_take,ce hm1]
    have hrec:=Qt ((Cr l.d l.half).take l.firm) (by rw[au];omega)
    rw[←eS] at hrec
    refine hrec.cal fun q rs hq=>?_
    obtain⟨rfl,rfl⟩:=hq
    cases hrb:Me ((Cr l.d l.half).take l.firm) with
    | none =>
     refine dj (fun _=>?_) fun h=>dc h (by decide)
     exact .gh (.seen 0 _ _ rfl (.done (A1 (oLs {l with b:=(Cr l.d l.half).take l.firm} e) [] ⟨⟨rfl,rfl,congrArg (fun z=>some (R.blk [.ptr 1 0,gI 0,gI 549,gU l.mark,gI l.half,gI l.firm,.sl z,.osl 2,.v (.bool l.dead)] tLg)) eS⟩,RL1,RL1,RL1,trivial⟩ rfl ⟨_,rfl⟩ rfl rfl (.inl RL1))))
    | some a =>
     refine dj (fun h=>dc h (fun h=>by cases h)) fun _=>?_
     exact .gh (.seen 0 _ _ rfl (.done (A1 (oLs {l with b:=(Cr l.d l.half).take l.firm,all:=a} e) [(2,6)] ⟨⟨rfl,rfl,congrArg (fun z=>some (R.blk [.ptr 1 0,gI 0,gI 549,gU l.mark,gI l.half,gI l.firm,.sl z,.osl 6,.v (.bool l.dead)] tLg)) eS⟩,RL1,RL1,RL1,trivial⟩ rfl ⟨_,rfl⟩ rfl rfl (.inr ⟨a,rfl,rfl,rfl⟩))))
   ·refine⟨by omega,i+1,by omega,(by dsimp only;omega),?_⟩
    refine⟨?_,?_,rfl⟩<;>repeat' (first|exact trivial|with_reducible rfl|exact rfl|refine And.intro ?_ ?_)
 ·obtain rfl:i=549:=by omega
  have hm1:l.firm≤549 * 64:=by omega
  have hm2:549 * 64≤35136:=by decide
  have hlen:((((Cr l.d l.half).take (549 * 64)).map gBy).length:Int)=(549 * 64:Nat):=by rw[aa,au,hB,ce hm2]
  refine⟨⟨bp _,by omega,by rw[hlen];omega⟩,?_⟩
  have eS:E6 (((Cr l.d l.half).take (549 * 64)).map gBy) (0:Int).toNat ((l.firm:Nat):Int).toNat=((Cr l.d l.half).take l.firm).map gBy:=by
   show((List.map gBy _).take l.firm).drop 0=_
   rw[List.drop_zero,←cv,List.take_take,ce hm1]
  have hrec:=Qt ((Cr l.d l.half).take l.firm) (by rw[au];omega)
  rw[←eS] at hrec
  refine hrec.cal fun q rs hq=>?_
  obtain⟨rfl,rfl⟩:=hq
  cases hrb:Me ((Cr l.d l.half).take l.firm) with
  | none =>
   refine dj (fun _=>?_) fun h=>dc h (by decide)
   exact .gh (.seen 0 _ _ rfl (.done (A1 (oLs {l with b:=(Cr l.d l.half).take l.firm} e) [] ⟨⟨rfl,rfl,congrArg (fun z=>some (R.blk [.ptr 1 0,gI 0,gI 549,gU l.mark,gI l.half,gI l.firm,.sl z,.osl 2,.v (.bool l.dead)] tLg)) eS⟩,RL1,RL1,RL1,trivial⟩ rfl ⟨_,rfl⟩ rfl rfl (.inl RL1))))
  | some a =>
   refine dj (fun h=>dc h (fun h=>by cases h)) fun _=>?_
   exact .gh (.seen 0 _ _ rfl (.done (A1 (oLs {l with b:=(Cr l.d l.half).take l.firm,all:=a} e) [(2,5)] ⟨⟨rfl,rfl,congrArg (fun z=>some (R.blk [.ptr 1 0,gI 0,gI 549,gU l.mark,gI l.half,gI l.firm,.sl z,.osl 5,.v (.bool l.dead)] tLg)) eS⟩,RL1,RL1,RL1,trivial⟩ rfl ⟨_,rfl⟩ rfl rfl (.inr ⟨a,rfl,rfl,rfl⟩))))
def mkN (d:RD):Nat→MkL
 | 0=>⟨0,0,0,true⟩
 | i+1=>Fc (mkN d i) (Da d i)
abbrev T5 (d:RD)(m:MkL):LD:=⟨m.mark,m.half,m.firm,[],[],false,d⟩
theorem Z4n (d:RD)(n:Nat)(h:(Da d n).is=true):(Da d n).half < 2∧(Da d n).firm≤35136:=by
 unfold Da at h⊢
 dsimp only at h⊢
 split at h
 ·cases h
 ·next h2 =>
  rw[da h2]
  simpa using h
theorem Z7l (d:RD):∀i,(mkN d i).half < 2∧(mkN d i).firm≤35136
 | 0=>⟨Nat.zero_lt_succ 1,ah _⟩
 | i+1=>by
  unfold mkN Fc
  split
  ·next h=>exact Z4n d i h.1
  ·exact Z7l d i
theorem Zes (d:RD)(hwd:WD d)(hml:1100≤d.now.length)(hd:d.dead=false):FnO Tryz.prog 56 [.ptr 0 0,gI 0,gI 1100] (cD d) fun g rs=>(Yw d=none∧g=.tup [.v (.pointer none),gI 50]∧rs=cD d)∨∃l b,Yw d=some l∧g=.tup [.ptr 1 0,gI 0]∧rs=[.gone,.abs (cl (oLs l b)),.adr 0 b]:=by
 refine Ba Tryz.func56 (Tj _ _) ?_
 refine dh ((Z2w d).cal fun q rs hq=>?_)
 obtain⟨rfl,rfl⟩:=hq
 rw[hd]
 refine dj (fun h=>dc h (by decide)) fun _=>?_
 refine df (fun h=>dc h (by decide)) fun _=>?_
 refine df (fun h=>dc h (by decide)) fun _=>?_
 refine dh ((Za d).cal fun q rs hq=>?_)
 obtain⟨rfl,rfl⟩:=hq
 refine df (fun h=>by omega) fun _=>?_
 refine dh ((Za d).cal fun q rs hq=>?_)
 obtain⟨rfl,rfl⟩:=hq
 have hwm:=hwd.few
 refine⟨by omega,?_⟩
 refine df (fun h=>by omega) fun _=>?_
 refine⟨by omega,?_⟩
 refine⟨by decide,by decide,?_⟩
 refine Z3z (.nil 1 [.ptr 0 0,gI 0,gI 549,gU 0,gI 0,gI 0] [.nl,.ff] tLg 5 1 rfl (by decide) (.frz 2 _ _ _ rfl (.seen 1 _ _ rfl (.nil 1 [.ptr 0 0,gI 0,gI 549,gU 0,gI 0,gI 0,.sl []] [.v (.bool false)] tLg 9 1 rfl (by decide) (.adr 0 _ rfl fun e=>.dup 4 0 e rfl (.close (oLs (T5 d (mkN d 0)) e) [(0,1),(1,0),(2,3),(3,4)] (by exact RL4) ⟨_,rfl⟩ rfl (.done ?_)))))))
 refine D2 [8] [0,5] (fun i:Nat=>[(46,gI i)]) (fun i=>[(1,.abs (cl (oLs (T5 d (mkN d i)) e)))]) (fun i=>i≤2) (fun i=>2 - i) 0 (ah _) ⟨⟨rfl,rfl⟩,trivial⟩ ⟨RL1,trivial⟩ rfl fun i hi=>?_
 refine df (fun h=>?_) fun h=>?_
 ·have hi2:i < 2:=by omega
  refine dg (.done (.same ((Ze5 (T5 d (mkN d i)) e hwd hml hd i hi2).cal fun q rs hq=>?_)))
  obtain⟨rfl,rfl⟩:=hq
  refine .opn 1 _ _ _ rfl rfl rfl (.done ?_)
  refine dj (fun his=>?_) fun his=>?_
  ·refine df (fun hgt=>?_) fun hgt=>?_
   ·have hgt:(((Da d i).mark:Nat):Int) > ((mkN d i).mark:Nat):=hgt
    have his:(Da d i).is=true:=his
    have hN:mkN d (i+1)=Da d i:=by
     show Fc _ _=_
     unfold Fc
     rw[db ⟨his,by omega⟩]
    refine⟨by omega,?_⟩
    refine Gh.close (oLs (T5 d (Da d i)) e) [(0,1),(1,6),(2,7),(3,8)] (by exact RL4) ⟨_,rfl⟩ rfl (.done ⟨i+1,[],by omega,(by dsimp only;omega),?_⟩)
    refine⟨?_,?_,rfl⟩<;>repeat' (first|exact trivial|with_reducible rfl|exact rfl|refine And.intro ?_ ?_)
    rw[hN];exact rfl
   ·have hgt:¬(((Da d i).mark:Nat):Int) > ((mkN d i).mark:Nat):=hgt
    have hN:mkN d (i+1)=mkN d i:=by
     show Fc _ _=_
     unfold Fc
     rw[da (fun h=>hgt (by omega))]
    refine⟨by omega,?_⟩
    refine Gh.close (oLs (T5 d (mkN d i)) e) [(0,1),(1,6),(2,7),(3,8)] (by exact RL4) ⟨_,rfl⟩ rfl (.done ⟨i+1,[],by omega,(by dsimp only;omega),?_⟩)
    refine⟨?_,?_,rfl⟩<;>repeat' (first|exact trivial|with_reducible rfl|exact rfl|refine And.intro ?_ ?_)
    rw[hN];exact rfl
  ·have his:(Da d i).is=false:=his
   have hN:mkN d (i+1)=mkN d i:=by
    show Fc _ _=_
    unfold Fc
    rw[da (fun h=>by rw[his] at h;cases h.1)]
   refine⟨by omega,?_⟩
   refine Gh.close (oLs (T5 d (mkN d i)) e) [(0,1),(1,6),(2,7),(3,8)] (by exact RL4) ⟨_,rfl⟩ rfl (.done ⟨i+1,[],by omega,(by dsimp only;omega),?_⟩)
   refine⟨?_,?_,rfl⟩<;>repeat' (first|exact trivial|with_reducible rfl|exact rfl|refine And.intro ?_ ?_)
   rw[hN];exact rfl
 ·obtain rfl:i=2:=by omega
  obtain⟨hm1,hm2⟩:=Z7l d 2
  conv=>whnf
  refine Gh.done ?_
  refine dh ((Zc8 (T5 d (mkN d 2)) e hwd hml hd hm1 hm2).cal fun q rs hq=>?_)
  rcases hq with⟨hr,rfl,rfl⟩ | ⟨a,hr,rfl,rfl⟩
  ·refine di (fun _=>?_) fun h=>dc h (by decide)
   exact .gh (.opn 1 _ _ _ rfl rfl rfl (.move 6 0 8 5 e _ rfl rfl rfl rfl (.done (A7 rfl rfl (.inl ⟨by unfold Yw;rw[show Ko d=mkN d 2 from rfl,hr],rfl,rfl⟩)))))
  ·refine di (fun h=>dc rfl h) fun _=>?_
   exact .inl ⟨[⟨[(0,.gone)],[(0,0)],false⟩,⟨[(0,.abs _)],[(0,1)],false⟩,⟨[(0,.adr 0 e)],[(0,5)],false⟩],.tup [.ptr 1 0,gI 0],⟨⟨⟨_,rfl,rfl,rfl⟩,⟨_,rfl,rfl,rfl⟩,⟨_,rfl,rfl,rfl⟩,trivial⟩,rfl,⟨_,rfl⟩,rfl,rfl,.inr ⟨_,e,by unfold Yw;rw[show Ko d=mkN d 2 from rfl,hr],rfl,rfl⟩⟩⟩
theorem Gr {own:Os}{n k:Nat}{rows rows':List (List G)}{e sz:Nat}(h:look k own=some (.slc rows e sz))(he:rows=rows'):Z3l [] own n (.osl k) (fun g rs=>g=.osl 0∧rs=[.slc rows' e sz]):=by
 subst he
 exact .inl ⟨[⟨[(0,.slc rows e sz)],[(0,k)],false⟩],.osl 0,⟨⟨⟨_,rfl,h,rfl⟩,trivial⟩,rfl,⟨_,rfl⟩,rfl,rfl,⟨rfl,rfl⟩⟩⟩
theorem Z40 (l:List ByteArray):∀r∈l.map gSt,r.length=1∧r.all G.one=true:=fun r hr=>by
 obtain⟨c,-,rfl⟩:=az.1 hr
 exact⟨rfl,rfl⟩
theorem Zq (l:List ByteArray)(hl:l.length≤1000000):FnO Tryz.prog 93 [.sl (l.map gSt)] [] fun g rs=>g=.osl 0∧rs=[.slc (l.map gSt) 9 1]:=by
 refine Ba Tryz.func93 (Q3 _) ?_
 refine⟨fun b hb=>?_⟩
 refine dj (fun h=>?_) fun h=>?_
 ·have e:l.map gSt=[]:=bx fun hne=>by rw[hb hne] at h;cases h
  exact Gr (k:=1) rfl e.symm
 ·refine⟨Z40 l,by simp;omega,?_⟩
  exact Gr (k:=2) rfl (cx _)
theorem Zd0 (l:List ByteArray)(hl:l.length≤1000000):FnO Tryz.prog 93 [.osl 0] [.slc (l.map gSt) 9 1] fun g rs=>g=.osl 1∧rs=[.slc (l.map gSt) 9 1,.slc (l.map gSt) 9 1] :=
 FnO.peekN (Zq l hl) rfl fun r hr g hg=>by
  obtain⟨s,-,rfl⟩:=az.1 hr
  rw[bm.1 hg];rfl
theorem Zbc (l:Bs)(hl:l.length≤1000000):FnO Tryz.prog 142 [.sl (l.map gBy)] [] fun g rs=>g=.osl 0∧rs=[.slc (l.map gBy) 5 1]:=by
 refine Ba Tryz.func142 (Q3 _) ?_
 refine⟨fun b hb=>?_⟩
 refine dj (fun h=>?_) fun h=>?_
 ·have e:l.map gBy=[]:=bx fun hne=>by rw[hb hne] at h;cases h
  exact Gr (k:=1) rfl e.symm
 ·refine⟨O2 l,by simp;omega,?_⟩
  exact Gr (k:=2) rfl (cx _)
theorem Zgx (l:LD)(e:Nat)(hl:l.all.length≤1000000):FnO Tryz.prog 57 [.ptr 0 0] (cL l e) fun g rs=>g=.osl 1∧rs=[.abs (cl (oLs l e)),.slc (l.all.map gSt) 9 1]:=by
 refine Ba Tryz.func57 (A5 (O:=oLs l e) (n0:=4) rfl) ?_
 refine dh ((Zd0 l.all hl).cal fun q rs hq=>?_)
 obtain⟨rfl,rfl⟩:=hq
 exact .inl ⟨[⟨oLs l e,[],true⟩,⟨[(0,.slc (l.all.map gSt) 9 1)],[(0,5)],false⟩],.osl 1,⟨⟨⟨(by exact RL4),_,rfl⟩,⟨_,rfl,rfl,rfl⟩,trivial⟩,rfl,⟨_,rfl⟩,rfl,rfl,⟨rfl,rfl⟩⟩⟩
theorem Uh (b:Bs)(hb:b.length≤1000000)(s:ByteArray)(hs:s.size≤1000000):FnO Tryz.prog 141 [.osl 0,.v (.string s)] [.slc (b.map gBy) 5 1] fun g rs=>g=.osl 1∧rs=[.gone,.slc ((b++frB s).map gBy) 5 1]:=by
 refine Ba Tryz.func141 (Tj _ _) ?_
 have hlen:s.data.toList.length=s.size:=by rw[cb];rfl
 refine⟨by decide,by decide,by decide,?_⟩
 refine⟨by rw[aa];show b.length+4≤_;omega,?_⟩
 refine⟨by simp;omega,?_⟩
 have e1:b.map gBy++[[G.v (.int .u8 (((s.size:Int).fdiv (2 ^ min (Int.toNat 24) 64)) % 256))],[G.v (.int .u8 (((s.size:Int).fdiv (2 ^ min (Int.toNat 16) 64)) % 256))],[G.v (.int .u8 (((s.size:Int).fdiv (2 ^ min (Int.toNat 8) 64)) % 256))],[G.v (.int .u8 ((s.size:Int) % 256))]]++s.data.toList.map gBy=(b++frB s).map gBy:=by
  unfold frB
  rw[am,bw]
  congr 1
  show _=gBy _::gBy _::gBy _::gBy _::s.data.toList.map gBy
  unfold gBy
  rw[Ci,Ci,Ci,Ci,Ez _ 16777216 (Int.toNat 24) 24 rfl rfl (by decide),Ez _ 65536 (Int.toNat 16) 16 rfl rfl (by decide),Ez _ 256 (Int.toNat 8) 8 rfl rfl (by decide)]
  rfl
 rw[←e1]
 exact .inl ⟨[⟨[(0,.gone)],[(0,0)],false⟩,⟨[(0,.slc _ 5 1)],[(0,4)],false⟩],.osl 1,⟨⟨⟨_,rfl,rfl,rfl⟩,⟨_,rfl,rfl,rfl⟩,trivial⟩,rfl,⟨_,rfl⟩,rfl,rfl,⟨rfl,rfl⟩⟩⟩
theorem Ho (l:LD)(rest:List R)(h:l.dead=false):FnO Tryz.prog 150 [.ptr 0 0,gI 0] (.blk (Bn l (.ptr 1 0) (.osl 2)) tLg::rest) fun g rs=>g=gI 0∧rs=.blk (Bn l (.ptr 1 0) (.osl 2)) tLg::rest :=
 (Zdx l rest 0).mono fun g rs ⟨h1,h2⟩=>⟨by rw[h1,h];rfl,by rw[h2];cases l;dsimp only at h;subst h;rfl⟩
theorem Hm (l:LD)(rest:List R){e:Int}(he:e≠0):FnO Tryz.prog 150 [.ptr 0 0,gI e] (.blk (Bn l (.ptr 1 0) (.osl 2)) tLg::rest) fun g rs=>g=gI 40∧rs=.blk (Bn {l with dead:=true} (.ptr 1 0) (.osl 2)) tLg::rest :=
 (Zdx l rest e).mono fun g rs ⟨h1,h2⟩=>⟨by rw[h1,db (.inr he)],by rw[h2,show(l.dead||e != 0)=true by cases l.dead<;>simp[he]]⟩
theorem R3 (d:RD):(Bh d).now=d.now∧(Bh d).wait=d.wait∧(Bh d).firm=d.firm∧(Bh d).armed≤d.armed:=by
 unfold Bh
 split
 ·exact⟨rfl,rfl,rfl,bp _⟩
 ·exact⟨rfl,rfl,rfl,by show d.armed - 1≤_;omega⟩
theorem Eb (d:RD)(n:Int)(b:Sec):(Ae d n b).now.length=d.now.length∧(Ae d n b).wait.length≤d.wait.length+1∧(Ae d n b).armed≤d.armed:=by
 unfold Ae
 split
 ·exact⟨rfl,Nat.le_succ _,bp _⟩
 ·split
  ·exact⟨rfl,Nat.le_succ _,bp _⟩
  ·obtain⟨h1,h2,-,h3⟩:=R3 (Z6z d n.toNat (E8 b))
   rw[h1,h2]
   exact⟨by show(d.now.set _ _).length=_;rw[bf],by show(d.wait++[_]).length≤_;simp,h3⟩
theorem J7 (d:RD):(Ab d).now.length=d.now.length∧(Ab d).wait.length≤d.wait.length∧(Ab d).armed≤d.armed:=by
 obtain⟨h1,h2,-,h3⟩:=R3 d
 unfold Ab
 split
 ·exact⟨rfl,af _,bp _⟩
 ·split
  ·rw[h1,h2];exact⟨rfl,af _,h3⟩
  ·exact⟨by show(Bh d).now.length=_;rw[h1],ah _,h3⟩
theorem Ff (f:Nat)(b:Bs)(n:Nat)(ns:List Nat)(d:RD):runW f b (n::ns) d=if Bv d ((f+n:Nat):Int) (chB b n)=0 then runW f b ns (Ae d ((f+n:Nat):Int) (chB b n)) else(Ae d ((f+n:Nat):Int) (chB b n),false):=rfl
structure WrI (l:LD)(f:Nat)(b:Bs)(n0 k:Nat)(x:Nat × RD):Prop where
 le:x.1≤k
 run:runW f b (List.range' n0 k) l.d=runW f b (List.range' (n0+x.1) (k - x.1)) x.2
 wd:WD x.2
 len:x.2.now.length=l.d.now.length
 wait:x.2.wait.length≤l.d.wait.length+x.1
 armed:x.2.armed≤9223372036854775807
theorem Z07 (l:LD)(e:Nat)(hwd:WD l.d)(hml:1100≤l.d.now.length)(ha:l.d.armed≤9223372036854775807)(hwt:l.d.wait.length≤100000)(hd:l.dead=false){h:Nat}(hh:h < 2)(b:Bs)(hb:b.length≤35136)(frm:Nat)(hf:frm≤b.length):FnO Tryz.prog 143 [.ptr 0 0,gI h,.sl (b.map gBy),gI frm] (cL l e) fun g rs=>g=gI (if wrE l h b frm=true then 0 else 40)∧rs=cL (wrL l h b frm) e:=by
 refine Ba Tryz.func143 (A5 (O:=oLs l e) (n0:=4) rfl) ?_
 have hdiv:((frm:Nat):Int).tdiv 64=((frm / 64:Nat):Int):=rfl
 refine⟨by decide,?_⟩
 refine⟨by rw[hdiv];omega,?_⟩
 obtain⟨n0,hn0⟩:∃n0,n0=frm / 64:=⟨_,rfl⟩
 obtain⟨k,hk⟩:∃k,k=(b.length+63) / 64 - frm / 64:=⟨_,rfl⟩
 have hbl:(((b.map gBy).length:Nat):Int)=b.length:=by rw[aa]
 refine Ap [0,1,2] [0,2,3] (fun x:Nat × RD=>[(9,gI ((n0+x.1:Nat):Int))]) (fun x=>[(1,.abs (cl (oDs x.2)))]) (WrI l (Cq h) b n0 k) (fun x=>k - x.1) (0,l.d) ⟨ah _,rfl,hwd,rfl,af _,ha⟩ ⟨⟨rfl,by rw[hn0];rfl⟩,trivial⟩ ⟨RL1,trivial⟩ rfl fun⟨i,d⟩ hI=>?_
 refine⟨by have:=hI.le;dsimp only at this⊢;omega,?_⟩
 refine df (fun hlt=>?_) fun hge=>?_
 ·dsimp only at hlt
  rw[hbl] at hlt
  have hle:=hI.le
  have hwt2:=hI.wait
  have hln:=hI.len
  have hrun:=hI.run
  dsimp only at hle hwt2 hln hrun
  have hik:i < k:=by omega
  obtain⟨n,hn⟩:∃n,n=n0+i:=⟨_,rfl⟩
  rw[←hn] at hlt hrun⊢
  have hnb:n * 64 < b.length:=by omega
  have hn549:n < 549:=by omega
  rw[show k - i=(k - (i+1))+1 by omega,List.range'_succ] at hrun
  have hrng1:-9223372036854775808≤((n:Nat):Int) * 64∧((n:Nat):Int) * 64≤9223372036854775807:=by omega
  have hrng2:-9223372036854775808≤((n:Nat):Int)+1∧((n:Nat):Int)+1≤9223372036854775807:=by omega
  have hrng3:-9223372036854775808≤(((n:Nat):Int)+1) * 64∧(((n:Nat):Int)+1) * 64≤9223372036854775807:=by omega
  have hR:∀r∈b.map gBy,r.length=1:=fun r hr=>by
   obtain⟨x,-,rfl⟩:=az.1 hr
   rfl
  refine⟨hrng1,hrng2,hrng3,⟨by omega,by rw[hbl];omega,by rw[hbl];omega⟩,⟨hR,?_⟩⟩
  have eC:E6 (b.map gBy) (((n:Nat):Int) * 64).toNat (min (((b.map gBy).length:Nat):Int) ((((n:Nat):Int)+1) * 64)).toNat=(chB b n).map gBy:=by
   rw[hbl]
   unfold chB
   show((b.map gBy).take _).drop _=_
   rw[cv,List.map_drop,List.drop_take,show(((n:Nat):Int) * 64).toNat=n * 64 by omega]
   by_cases h2:b.length≤(n+1) * 64
   ·rw[ao (by simp;omega),ao (by simp;omega)]
   ·congr 1;omega
  obtain⟨n',hn'⟩:∃n':Int,n'=((Cq h:Nat):Int)+((n:Nat):Int):=⟨_,rfl⟩
  have hn2:n'=((Cq h+n:Nat):Int):=by rw[hn'];omega
  have hf2:Cq h≤551:=by unfold Cq;omega
  have hrng4:-9223372036854775808≤((Cq h:Nat):Int)+((n:Nat):Int)∧((Cq h:Nat):Int)+((n:Nat):Int)≤9223372036854775807:=by omega
  have hW:=Z2s d hI.wd hI.armed (by omega) n' (chB b n)
  rw[←eC] at hW
  obtain⟨hl1,hl2,hl3⟩:=Eb d n' (chB b n)
  by_cases he:Bv d n' (chB b n)=0
  ·rw[he] at hW
   have hrun2:runW (Cq h) b (List.range' n0 k) l.d=runW (Cq h) b (List.range' (n0+(i+1)) (k - (i+1))) (Ae d n' (chB b n)):=by
    rw[hrun,Ff,←hn2,db he,hn,cu]
   refine⟨?_,?_⟩
   all_goals
    refine dh ((S7 l _ hh).cal fun q rs hq=>?_)
    obtain⟨rfl,rfl⟩:=hq
    refine⟨hrng4,?_⟩
    rw[←hn']
    refine dh (hW.cal fun q rs hq=>?_)
    obtain⟨rfl,rfl⟩:=hq
    refine dh ((Ho l _ hd).cal fun q rs hq=>?_)
    obtain⟨rfl,rfl⟩:=hq
    refine di (fun h=>dc rfl h) fun _=>?_
    refine⟨hrng2,(i+1,Ae d n' (chB b n)),⟨hik,hrun2,J5 hI.wd _ _,hl1.trans hln,by dsimp only;omega,by have:=hI.armed;dsimp only at this⊢;omega⟩,(by dsimp only;omega),?_⟩
    refine⟨?_,?_,rfl⟩<;>repeat' (first|exact trivial|with_reducible rfl|exact rfl|refine And.intro ?_ ?_)
    exact congrArg (fun z=>some (gI z)) (by omega)
  ·have hrun2:runW (Cq h) b (List.range' n0 k) l.d=(Ae d n' (chB b n),false):=by
    rw[hrun]
    unfold runW
    rw[←hn2,da he]
   have hw:wrL l h b frm={l with d:=Ae d n' (chB b n),dead:=true}:=by
    unfold wrL nsW
    rw[←hk,←hn0,hrun2];rfl
   have hE:wrE l h b frm=false:=by
    unfold wrE nsW
    rw[←hk,←hn0,hrun2]
   refine⟨?_,?_⟩
   all_goals
    refine dh ((S7 l _ hh).cal fun q rs hq=>?_)
    obtain⟨rfl,rfl⟩:=hq
    refine⟨hrng4,?_⟩
    rw[←hn']
    refine dh (hW.cal fun q rs hq=>?_)
    obtain⟨rfl,rfl⟩:=hq
    refine dh ((Hm l _ he).cal fun q rs hq=>?_)
    obtain⟨rfl,rfl⟩:=hq
    refine di (fun _=>?_) fun h=>dc h (by decide)
    exact .inl (A1 (oLs {l with d:=Ae d n' (chB b n),dead:=true} e) [] (by exact RL4) rfl ⟨_,rfl⟩ rfl rfl ⟨by rw[hE];rfl,by rw[hw]⟩)
 ·dsimp only at hge
  rw[hbl] at hge
  have hle:=hI.le
  have hrun:=hI.run
  dsimp only at hle hrun
  have hik:k - i=0:=by omega
  rw[hik] at hrun
  have hrun:runW (Cq h) b (List.range' n0 k) l.d=(d,true):=hrun
  have hw:wrL l h b frm={l with d:=d,dead:=false}:=by
   unfold wrL nsW
   rw[←hk,←hn0,hrun];rfl
  have hE:wrE l h b frm=true:=by
   unfold wrE nsW
   rw[←hk,←hn0,hrun]
  have hl:{l with d:=d,dead:=false}={l with d:=d}:=by cases l;dsimp only at hd;subst hd;rfl
  rw[hl] at hw
  exact .inl (A1 (oLs {l with d:=d} e) [] (by exact RL4) rfl ⟨_,rfl⟩ rfl rfl ⟨by rw[hE];rfl,by rw[hw]⟩)
structure WA (l:LD):Prop where
 d:WD l.d
 many:1100≤l.d.now.length
 armed:l.d.armed≤9223372036854775807
 wait:l.d.wait.length≤95000
 half:l.half < 2
 len:l.b.length≤35136
 all:l.all.length≤100000
 mark:l.mark≤1000000000
theorem E2 (s:ByteArray):(frB s).length=s.size+4:=by
 unfold frB
 simp
theorem Or (l:LD)(e:Nat)(h:WA l)(s:ByteArray)(hs:s.size≤1000000):FnO Tryz.prog 130 [.ptr 0 0,.v (.string s)] (cL l e) fun g rs=>g=gI (Gc l s)∧rs=cL (Bk l s) e:=by
 refine Ba Tryz.func130 (A5 (O:=oLs l e) (n0:=4) rfl) ?_
 refine dj (fun hd=>?_) fun hd=>?_
 ·exact .inl (A1 (oLs l e) [] (by exact RL4) rfl ⟨_,rfl⟩ rfl rfl ⟨by unfold Gc;rw[db hd];rfl,by unfold Bk;rw[db hd]⟩)
 have hA:Gc l s=if s.size > 4096 then 52 else if(s.size:Int) > Gf l then 51 else if wrE l l.half (l.b++frB s) l.b.length=true then 0 else 40:=by unfold Gc;rw[da (by rw[hd];decide)]
 have hB:Bk l s=if s.size > 4096 then l else if(s.size:Int) > Gf l then l else if wrE l l.half (l.b++frB s) l.b.length=true then {wrL l l.half (l.b++frB s) l.b.length with b:=l.b++frB s,all:=l.all++[s]} else wrL l l.half (l.b++frB s) l.b.length:=by unfold Bk;rw[da (by rw[hd];decide)]
 refine df (fun h1=>?_) fun h1=>?_
 ·exact .inl (A1 (oLs l e) [] (by exact RL4) rfl ⟨_,rfl⟩ rfl rfl ⟨by rw[hA,db (by omega)];rfl,by rw[hB,db (by omega)]⟩)
 rw[da (by omega)] at hA hB
 have hlen:=h.len
 refine dh ((Zcb l _ (by omega)).cal fun q rs hq=>?_)
 obtain⟨rfl,rfl⟩:=hq
 refine df (fun h2=>?_) fun h2=>?_
 ·exact .inl (A1 (oLs l e) [] (by exact RL4) rfl ⟨_,rfl⟩ rfl rfl ⟨by rw[hA,db h2];rfl,by rw[hB,db h2]⟩)
 rw[da h2] at hA hB
 have hroom:l.b.length+s.size+4≤35136:=by unfold Gf at h2;omega
 have hall:=h.all
 refine(Zbc l.b (by omega)).cal fun q rs hq=>?_
 obtain⟨rfl,rfl⟩:=hq
 refine dh ((Uh l.b (by omega) s hs).cal fun q rs hq=>?_)
 obtain⟨rfl,rfl⟩:=hq
 have hbl:(l.b++frB s).length≤35136:=by rw[aw,E2];omega
 have hW:=Z07 l e h.d h.many h.armed (by have:=h.wait;omega) hd h.half (l.b++frB s) hbl l.b.length (by rw[aw];omega)
 have hlb:(((l.b.map gBy).length:Nat):Int)=l.b.length:=by rw[aa]
 rw[←hlb] at hW
 cases hE:wrE l l.half (l.b++frB s) l.b.length with
 | true =>
  rw[hE] at hW hA hB
  obtain⟨X,hX⟩:∃X,X=(runW (Cq l.half) (l.b++frB s) (nsW (l.b++frB s) l.b.length) l.d).1:=⟨_,rfl⟩
  have hw:wrL l l.half (l.b++frB s) l.b.length={l with d:=X}:=by
   unfold wrE at hE
   unfold wrL
   rw[hE,hX]
   cases l;dsimp only at hd;subst hd;rfl
  rw[hw] at hW hB
  refine dg (.close (oLs l e) [] (by exact RL4) ⟨_,rfl⟩ rfl (.frz 5 _ _ _ rfl (.done (.see (.same (hW.cal fun q rs hq=>?_))))))
  obtain⟨rfl,rfl⟩:=hq
  refine .opn 0 _ _ _ rfl rfl rfl (.done ?_)
  refine di (fun h=>dc rfl h) fun _=>?_
  refine⟨by rw[aa];show l.all.length+1≤_;omega,?_⟩
  exact .inl (A1 (oLs {l with d:=X,b:=l.b++frB s,all:=l.all++[s]} e) [(1,6),(2,10),(3,8)] ⟨RL1,RL1,⟨rfl,rfl,eqR (by rw[am];rfl)⟩,RL1,trivial⟩ rfl ⟨_,rfl⟩ rfl rfl ⟨by rw[hA];rfl,by rw[hB];rfl⟩)
 | false =>
  rw[hE] at hW hA hB
  refine dg (.close (oLs l e) [] (by exact RL4) ⟨_,rfl⟩ rfl (.frz 5 _ _ _ rfl (.done (.see (.same (hW.cal fun q rs hq=>?_))))))
  obtain⟨rfl,rfl⟩:=hq
  refine .opn 0 _ _ _ rfl rfl rfl (.done ?_)
  refine di (fun _=>?_) fun h=>dc h (by decide)
  exact .inl (A1 (oLs (wrL l l.half (l.b++frB s) l.b.length) e) [(1,6),(2,7),(3,8)] (by exact RL4) rfl ⟨_,rfl⟩ rfl rfl ⟨by rw[hA];rfl,by rw[hB];rfl⟩)
end Go.Proofs.YtihfaocdpmmooaaGreat
