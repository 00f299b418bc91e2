
import Derived.Test.YtihfaocdpmmooaaGreatPl1
import Derived.Test.YtihfaocdpmmooaaGreatFn1
import Derived.Test.YtihfaocdpmmooaaGreatPKN
import Derived.Test.YtihfaocdpmmooaaGreatSxMe
namespace Go.Proofs.YtihfaocdpmmooaaGreat
open Go.RowKit
set_option maxRecDepth 100000
abbrev tDk:Nat:=108
abbrev tSc:Nat:=124
abbrev tWr:Nat:=126
def Et (s:Sec):List G:=s.map fun c=>.v (.int .u8 c.toNat)
def enW (w:Nat × Sec):List G:=gI w.1::Et w.2
abbrev oD (d:RD):List R:=[.blk [.osl 1,.osl 2,.osl 3,gI d.armed,.v (.bool d.dead)] tDk,.slc (d.now.map Et) tSc 64,.slc (d.firm.map Et) tSc 64,.slc (d.wait.map enW) tWr 65]
abbrev oDs (d:RD):Os:=Bk (oD d) 0
abbrev cD (d:RD):List R:=[.abs (cl (oDs d))]
theorem Il {s:Sec}{g:G}(h:g∈Et s):Gx g=true:=by obtain⟨c,-,rfl⟩:=ba.1 h;rfl
theorem C6 (s:Sec):(Et s).length=s.length:=aa ..
theorem Rw {w:Nat × Sec}{g:G}(h:g∈enW w):Gx g=true:=by
 rcases bi.1 h with rfl | h
 ·rfl
 ·exact Il h
theorem Om (b:Bs):∀r∈b.map gBy,r.length=1∧r.all G.one=true:=fun r hr=>by obtain⟨c,-,rfl⟩:=ba.1 hr;exact⟨rfl,rfl⟩
theorem Z6 (b:Bs):(b.map gBy).take (min (b.map gBy).length (zk124.map fun g=>[g]).length)++(zk124.map fun g=>[g]).drop (min (b.map gBy).length (zk124.map fun g=>[g]).length)=(Ek b).map gBy:=by
 have e:zk124.map (fun g=>[g])=(List.replicate 64 (0:UInt8)).map gBy:=by unfold zk124;rw[List.map_replicate,List.map_replicate];rfl
 rw[e];unfold Ek;rw[ao,←cw,←List.map_drop,aa,aa,List.length_replicate,List.drop_replicate]
 congr 2
 ·by_cases h:b.length≤64
  ·rw[cf h,ap (af _),ap h]
  ·rw[Nat.min_eq_right (by omega)]
 ·congr 1;omega
theorem Vk (s:Sec):∀r∈s.map gBy,∀g∈r,g.pure=true:=fun r hr g a=>by obtain⟨c,-,rfl⟩:=ba.1 hr;rw[bo.1 a];rfl
theorem Q4:∀s:Sec,(s.map gBy).flatten=Et s
 | []=>rfl
 | c::s=>by rw[ck,b8,Q4 s];rfl
theorem Qf {s:Sec}(h:s.length=64):((s.map gBy).flatten.drop 0).take 64=Et s:=by rw[Q4,List.drop_zero,ap (by rw[C6,h];exact af _)]
theorem Tz {s:Sec}(h:s.length=64):(((s.map gBy).flatten.drop 0).take 64).length=64:=by rw[Qf h,C6,h]
theorem Zjk (s:Sec):∀g∈((s.map gBy).flatten.drop 0).take 64,Gx g=true:=fun g a=>by have:=b7 (be a);rw[Q4] at this;exact Il this
theorem Uq {l:List Sec}{i:Nat}{s:Sec}{cs:List G}{K:List (List G)→Prop}(hi:i < l.length)(d:∀x∈l,x.length=64)(e:s.length=64)(c:cs=Et s)(h:K ((l.set i s).map Et)):EvSet (l.map Et) i (fun row k=>ovr 64 row 0 cs k) K:=by subst c;refine dn (f:=Et) (ab hi) (fun k b=>?_) rfl h;have a:=d _ (bm hi);refine(show Fc ((Et s).length=64∧0+64≤(Et l[i]).length) (k ((Et l[i]).take 0++Et s++(Et l[i]).drop (0+64))) from⟨⟨by rw[C6,e],by rw[C6,a];exact af _⟩,?_⟩);rw[List.take_zero,cy,List.drop_of_length_le (by rw[C6,a];exact af _),cz];exact b
theorem Dm {w:Nat × Sec}(h:w.2.length=64):(enW w).length=65:=by show(Et w.2).length+1=65;rw[C6,h]
theorem Z6z {n:Int}{s:Sec}(a:0≤n)(h:s.length=64):List.take 1 (gI n::List.replicate 64 (G.v (.int .u8 0)))++((s.map gBy).flatten.drop 0).take zk124.length++List.drop (1+zk124.length) (gI n::List.replicate 64 (G.v (.int .u8 0)))=enW (n.toNat,s):=by rw[show zk124.length=64 from rfl];rw[Qf h,List.drop_of_length_le (by simp),cz];show gI n::Et s=gI (n.toNat:Nat)::Et s;rw[Int.toNat_of_nonneg a]
theorem Zch (s:Sec):(Et s).map (fun g=>[g])=s.map gBy:=List.map_map ..
theorem Z8i {s:Sec}(h:s.length=64):List.take zk124.length (List.drop 0 (Et s))=Et s:=by rw[List.drop_zero,ap (by rw[C6,h];exact af _)]
theorem Z6k (s:Sec):List.take 0 zk124++Et s++List.drop (0+zk124.length) zk124=Et s:=by rw[List.take_zero,cy,List.drop_of_length_le (by simp),cz]
theorem Tb {w:Nat × Sec}(h:w.2.length=64):List.take zk126.length (List.drop 0 (enW w))=enW w:=by rw[List.drop_zero,ap (by rw[Dm h];exact af _)]
theorem U4 (w:Nat × Sec):List.take 0 zk126++enW w++List.drop (0+zk126.length) zk126=enW w:=by rw[List.take_zero,cy,List.drop_of_length_le (by simp),cz]
theorem Zae {w:Nat × Sec}(h:w.2.length=64):List.take zk124.length (List.drop (Nat.add 0 1) (enW w))=Et w.2:=by show List.take 64 (Et w.2)=_;rw[ap (by rw[C6,h];exact af _)]
theorem Zl5 {g:G}(h:g∈zk124):Gx g=true:=by rw[(List.mem_replicate.1 h).2];rfl
theorem Zez (d:RD)(n:Int):FnO Tryz.prog 61 [.ptr 0 0,gI n] (cD d) fun g rs=>g=gI (K7 d n)∧rs=cD d:=by
 refine Bq Tryz.func61 (A6 (O:=oDs d) (n0:=4) rfl) ?_;have fin:∀{e:Int} {own:Os} {n0:Nat},leI [] own n0 (oDs d)→e=K7 d n→Z5z [0] own n0 (gI e) (fun g rs=>g=gI (K7 d n)∧rs=cD d):=fun c f=>.inl (A1 (oDs d) [] c rfl ⟨_,rfl⟩ rfl rfl ⟨by rw[f],rfl⟩);refine dk (fun hd=>?_) fun hd=>?_
 ·exact fin (by exact RL4) (by unfold K7;rw[dc hd])
 have b:K7 d n=if n < 0∨n ≥ d.now.length then 41 else 0:=by unfold K7;rw[db (by rw[hd];decide)]
 refine dg (fun h=>?_) fun h=>?_
 ·exact fin (by exact RL4) (by rw[b,dc (.inl h)])
 ·refine dg (fun a=>?_) fun a=>?_
  ·exact fin (by exact RL4) (by rw[aa] at a;rw[b,dc (.inr a)])
  ·exact fin (by exact RL4) (by rw[aa] at a;rw[b,db (by omega)])
theorem Za5 (d:RD)(ha:0≤d.armed)(a:d.armed≤9223372036854775807):FnO Tryz.prog 62 [.ptr 0 0] (cD d) fun g rs=>g=.v (.bool (E3 d))∧rs=cD (Bt d):=by
 refine Bq Tryz.func62 (A6 (O:=oDs d) (n0:=4) rfl) ?_;refine df (fun h=>?_) fun h=>?_
 ·exact .inl (A1 (oDs d) [] (by exact RL4) rfl ⟨_,rfl⟩ rfl rfl ⟨by unfold E3;rw[dc h],by unfold Bt;rw[dc h]⟩)
 ·refine⟨by omega,?_⟩;exact .inl (A1 (oDs {d with armed:=d.armed - 1,dead:=(d.armed - 1==0)}) [] (by exact RL4) rfl ⟨_,rfl⟩ rfl rfl ⟨by unfold E3;rw[db h],by unfold Bt;rw[db h]⟩)
theorem Z4z (d:RD):FnO Tryz.prog 55 [.ptr 0 0] (cD d) fun g rs=>g=gI d.now.length∧rs=cD d:=by refine Bq Tryz.func55 (A6 (O:=oDs d) (n0:=4) rfl) ?_;exact .inl (A1 (oDs d) [] (by exact RL4) rfl ⟨_,rfl⟩ rfl rfl ⟨by rw[aa],rfl⟩)
theorem Z51 (d:RD):FnO Tryz.prog 53 [.ptr 0 0] (cD d) fun g rs=>g=.v (.bool d.dead)∧rs=cD d:=by refine Bq Tryz.func53 (A6 (O:=oDs d) (n0:=4) rfl) ?_;exact .inl (A1 (oDs d) [] (by exact RL4) rfl ⟨_,rfl⟩ rfl rfl ⟨rfl,rfl⟩)
theorem Zg6 (many:Int):FnO Tryz.prog 16 [gI many] [] fun g rs=>g=.ptr 0 0∧rs=cD (Z5 many):=by
 refine Bq Tryz.func16 (S4 _) ?_;have c:0≤min (max many 0) 65536∧min (max many 0) 65536≤65536:=by omega
 have a:0≤min (max many 0) 65536∧min (max many 0) 65536≤1073741824∧min (max many 0) 65536=min (max many 0) 65536∧min (max many 0) 65536 * 64≤1073741824:=⟨c.1,by omega,rfl,by omega⟩;have b:List.replicate (min (max many 0) 65536).toNat zk124=(Z5 many).now.map Et:=by show _=(List.replicate _ _).map Et;rw[List.map_replicate];rfl
 refine⟨⟨a,⟨a,?_⟩⟩,⟨a,⟨a,?_⟩⟩⟩
 ·exact .gh (.nil 2 [.osl 0,.osl 1] [gI 0,.ff] tDk tWr 65 rfl (by decide) (.seen 2 _ _ rfl (.done ⟨[⟨oDs (Z5 many),[(0,2),(1,0),(2,1),(3,3)],true⟩],.ptr 0 0,⟨⟨⟨⟨RL1,⟨rfl,rfl,eqR b⟩,⟨rfl,rfl,eqR b⟩,RL1,trivial⟩,_,rfl⟩,trivial⟩,rfl,⟨_,rfl⟩,rfl,rfl,⟨rfl,rfl⟩⟩⟩)))
 ·exact .gh (.nil 2 [.osl 1,.osl 0] [gI 0,.ff] tDk tWr 65 rfl (by decide) (.seen 2 _ _ rfl (.done ⟨[⟨oDs (Z5 many),[(0,2),(1,1),(2,0),(3,3)],true⟩],.ptr 0 0,⟨⟨⟨⟨RL1,⟨rfl,rfl,eqR b⟩,⟨rfl,rfl,eqR b⟩,RL1,trivial⟩,_,rfl⟩,trivial⟩,rfl,⟨_,rfl⟩,rfl,rfl,⟨rfl,rfl⟩⟩⟩)))
theorem Z1e (d:RD)(hd:WD d)(ha:d.armed≤9223372036854775807)(o:d.wait.length≤1000000)(n:Int)(b:Sec):FnO Tryz.prog 19 [.ptr 0 0,gI n,.sl (b.map gBy)] (cD d) fun g rs=>g=gI (Bg d n b)∧rs=cD (Ad d n b):=by
 refine Bq Tryz.func19 (A6 (O:=oDs d) (n0:=4) rfl) ?_;refine dh (.close (oDs d) [] (by exact RL4) ⟨_,rfl⟩ rfl (.done (.same ((Zez d n).cal fun q rs f=>?_))));obtain⟨rfl,rfl⟩:=f;refine .opn 0 _ _ _ rfl rfl rfl (.done ?_);refine dj (fun a=>?_) fun a=>?_
 ·exact .inl (A1 (oDs d) [(1,4),(2,5),(3,6)] (by exact RL4) rfl ⟨_,rfl⟩ rfl rfl ⟨by unfold Bg;rw[dc a],by unfold Ad;rw[dc a]⟩)
 have i:Bg d n b=if b.length > 64 then 41 else if E3 d=true then 40 else 0:=by unfold Bg;rw[db (by simpa using a)]
 have e:Ad d n b=if b.length > 64 then d else Bt (Z5s d n.toNat (Ek b)):=by unfold Ad;rw[db (by simpa using a)]
 have j:=Mx a;refine dg (fun k=>?_) fun k=>?_
 ·rw[aa] at k;exact .inl (A1 (oDs d) [(1,4),(2,5),(3,6)] (by exact RL4) rfl ⟨_,rfl⟩ rfl rfl ⟨by rw[i,dc (by omega)];rfl,by rw[e,dc (by omega)]⟩)
 rw[aa] at k;refine⟨⟨rfl,fun g c=>Zl5 c⟩,⟨Om b,?_⟩⟩
 conv=>whnf
 rw[Z6 b];refine⟨⟨by rw[aa,Cz];exact af _,Vk _⟩,?_⟩;refine⟨⟨j.2.1,by rw[aa];exact j.2.2⟩,?_⟩;refine⟨⟨Tz (Cz b),Zjk _⟩,?_⟩;refine Uq (s:=Ek b) (l:=d.now) (by omega) hd.now (Cz b) (Qf (Cz b)) ?_;refine⟨⟨by rw[aa,Cz];exact af _,Vk _⟩,?_⟩;refine⟨Tz (Cz b),?_⟩;refine⟨⟨Tz (Cz b),af _⟩,?_⟩
 conv=>whnf
 rw[Z6z j.2.1 (Cz b)];refine⟨fun g c=>Fz (Rw c),?_⟩;refine⟨⟨Dm (w:=(n.toNat,Ek b)) (Cz b),fun g c=>Rw c⟩,?_⟩;refine⟨by rw[aa];show d.wait.length+1≤_;omega,?_⟩;refine dh (.close (oDs (Z5s d n.toNat (Ek b))) [(1,4),(2,5),(3,10)] ⟨RL1,RL1,RL1,⟨rfl,rfl,eqR (by show _=(d.wait++[_]).map enW;rw[ao];rfl)⟩,trivial⟩ ⟨_,rfl⟩ rfl (.done (.same ((Za5 (Z5s d n.toNat (Ek b)) hd.armed ha).cal fun q rs f=>?_))));obtain⟨rfl,rfl⟩:=f;refine .done ?_;have m:E3 (Z5s d n.toNat (Ek b))=E3 d:=rfl;refine dk (fun h=>?_) fun h=>?_
 ·exact .inl (A7 rfl rfl ⟨by rw[i,db (by omega),dc (m ▸ h)];rfl,by rw[e,db (by omega)]⟩)
 ·exact .inl (A7 rfl rfl ⟨by rw[i,db (by omega),db (by rw[←m,h];decide)];rfl,by rw[e,db (by omega)]⟩)
theorem Z9n (d:RD)(hd:WD d)(n:Int):FnO Tryz.prog 125 [.ptr 0 0,gI n] (cD d) fun g rs=>g=.tup [.sl ((Ni d n).map gBy),gI (K7 d n)]∧rs=cD d:=by
 refine Bq Tryz.func125 (A6 (O:=oDs d) (n0:=4) rfl) ?_;refine dh (.close (oDs d) [] (by exact RL4) ⟨_,rfl⟩ rfl (.done (.same ((Zez d n).cal fun q rs h=>?_))));obtain⟨rfl,rfl⟩:=h;refine .opn 0 _ _ _ rfl rfl rfl (.done ?_);refine dj (fun c=>?_) fun c=>?_
 ·exact .gh (.frz 8 [] _ _ rfl (.done (A1 (oDs d) [(1,5),(2,6),(3,7)] (by exact RL4) rfl ⟨_,rfl⟩ rfl rfl ⟨by unfold Ni;rw[dc c];rfl,rfl⟩)))
 have f:=Mx c;have a:n.toNat < d.now.length:=by omega
 have b:=hd.now _ (bm a);have i:Ni d n=d.now[n.toNat]:=by unfold Ni;rw[db (by simpa using c),ab a];rfl
 refine⟨⟨f.2.1,by rw[aa];exact f.2.2⟩,?_⟩;refine dl (ab a) ?_;refine⟨by rw[C6,b];exact af _,?_⟩
 conv=>whnf
 rw[Z8i b];refine⟨⟨(C6 _).trans b,fun g e=>Il e⟩,?_⟩;refine⟨⟨(C6 _).trans b,af _⟩,?_⟩
 conv=>whnf
 rw[Z6k];refine⟨⟨(C6 _).trans b,fun g e=>Il e⟩,?_⟩;refine .gh (.frz 9 _ _ _ rfl (.done (A1 (oDs d) [(1,5),(2,6),(3,7)] (by exact RL4) rfl ⟨_,rfl⟩ rfl rfl ⟨?_,rfl⟩)));rw[i,c,←Zch];exact rfl
theorem Zb1 (d:RD)(hd:WD d)(ha:d.armed≤9223372036854775807)(o:d.wait.length≤1000000):FnO Tryz.prog 151 [.ptr 0 0] (cD d) fun g rs=>g=gI (Ct d)∧rs=cD (Aa d):=by
 refine Bq Tryz.func151 (A6 (O:=oDs d) (n0:=4) rfl) ?_;refine dk (fun h=>?_) fun h=>?_
 ·exact .inl (A1 (oDs d) [] (by exact RL4) rfl ⟨_,rfl⟩ rfl rfl ⟨by unfold Ct;rw[dc (.inl h)];rfl,by unfold Aa;rw[dc h]⟩)
 have p:Aa d=if E3 d=true then Bt d else {Bt d with firm:=Gu d.firm d.wait,wait:=[]}:=by unfold Aa;rw[db (by rw[h];decide)]
 have r:Ct d=if E3 d=true then 40 else 0:=by unfold Ct;rw[h];simp
 refine dh (.close (oDs d) [] (by exact RL4) ⟨_,rfl⟩ rfl (.done (.same ((Za5 d hd.armed ha).cal fun q rs t=>?_))));obtain⟨rfl,rfl⟩:=t;refine .opn 0 _ _ _ rfl rfl rfl (.done ?_);refine dk (fun j=>?_) fun j=>?_
 ·exact .inl (A1 (oDs (Bt d)) [(1,4),(2,5),(3,6)] (by exact RL4) rfl ⟨_,rfl⟩ rfl rfl ⟨by rw[r,dc j];rfl,by rw[p,dc j]⟩)
 have m:(Bt d).now=d.now∧(Bt d).firm=d.firm∧(Bt d).wait=d.wait:=by unfold Bt;split<;>exact⟨rfl,rfl,rfl⟩
 have b:=Pk hd;refine As [0,16,17] [0,4,6] (fun i:Nat=>[(18,gI i)]) (fun i=>[(5,.slc ((Gu (Bt d).firm ((Bt d).wait.take i)).map Et) tSc 64)]) (fun i=>i≤(Bt d).wait.length) (fun i=>(Bt d).wait.length - i) 0 (ah _) ⟨⟨rfl,rfl⟩,trivial⟩ ⟨RL1,trivial⟩ rfl fun i hi=>?_;refine dg (fun k=>?_) fun k=>?_
 ·refine⟨⟨by omega,k⟩,dp (by simpa using k) fun x f=>?_⟩;have a:=b.wait x (ae f);refine⟨by rw[Dm a.2];exact af _,?_⟩
  conv=>whnf
  rw[Tb a.2];refine⟨⟨(Dm a.2),fun g e=>Rw e⟩,?_⟩;refine⟨⟨(Dm a.2),af _⟩,?_⟩
  conv=>whnf
  rw[U4];refine⟨by rw[Dm a.2];exact af _,?_⟩
  conv=>whnf
  rw[Zae a.2];refine⟨fun g e=>Fz (Il e),?_⟩;have c:(Gu (Bt d).firm ((Bt d).wait.take i)).length=(Bt d).now.length:=(Fg _ _).trans b.len;refine⟨⟨by omega,by rw[aa,c];have:=a.1;omega⟩,?_⟩;refine⟨⟨(C6 _).trans a.2,fun g e=>Il e⟩,?_⟩;refine Uq (s:=x.2) (l:=Gu (Bt d).firm ((Bt d).wait.take i)) (by rw[c];have:=a.1;omega) (Fp _ _ b.firm fun w o=>(b.wait w (be o)).2) a.2 rfl ?_;have f:(Bt d).wait[i]?=some x:=f;have n:=C1 f;refine⟨by rw[m.2.2] at n;omega,i+1,by omega,(by dsimp only;omega),?_⟩;refine⟨?_,?_,rfl⟩<;>repeat' (first|exact trivial|with_reducible rfl|exact rfl|refine And.intro ?_ ?_)
  exact eqR (by rw[Sa f];rfl)
 ·rw[aa] at k;rw[ap (by omega)];refine .gh (.nil 0 [.osl 4,.osl 5] [gI (Bt d).armed,.v (.bool (Bt d).dead)] tDk tWr 65 rfl (by decide) (.done (A1 (oDs {Bt d with firm:=Gu d.firm d.wait,wait:=[]}) [(1,4),(2,5),(3,7)] ⟨RL1,RL1,⟨rfl,rfl,eqR (by rw[m.2.1,m.2.2])⟩,RL1,trivial⟩ rfl ⟨_,rfl⟩ rfl rfl ⟨by rw[r,db (by rw[j];decide)];rfl,by rw[p,db (by rw[j];decide)]⟩)))
abbrev tLg:Nat:=149
abbrev gU (n:Nat):G:=.v (.int .u64 (n:Nat))
abbrev C4 (l:LD)(p a:G):List G:=[p,gI 0,gI 549,gU l.mark,gI l.half,gI l.firm,.sl (l.b.map gBy),a,.v (.bool l.dead)]
abbrev oL (l:LD)(e:Nat):List R:=[.blk (C4 l (.ptr 1 0) (.osl 2)) tLg,.abs (cl (oDs l.d)),.slc (l.all.map gSt) 9 1,.adr 1 e]
abbrev oLs (l:LD)(e:Nat):Os:=Bk (oL l e) 0
abbrev cL (l:LD)(e:Nat):List R:=[.abs (cl (oLs l e))]
theorem Z76 (l a:LD):KeepL (C4 l (.ptr 1 0) (.osl 2)) (C4 a (.ptr 1 0) (.osl 2)):=⟨.inr rfl,.inl rfl,.inl rfl,.inl rfl,.inl rfl,.inl rfl,.inl rfl,.inr rfl,.inl rfl,trivial⟩
theorem Zc9 (l:LD)(p a:Value){h:Nat}(b:h < 2):FnO Tryz.prog 128 [.ptr 0 0,gI h] [.blk (C4 l (.v p) (.v a)) tLg] fun g rs=>g=gI (Cw h:Nat)∧rs=[.blk (C4 l (.v p) (.v a)) tLg]:=by
 refine Bq Tryz.func128 (V7 _ _) ?_;refine⟨by decide,by omega,by omega,?_⟩
 conv=>whnf
 rw[show(0+2+(h:Int) * 549:Int)=((Cw h:Nat):Int) by unfold Cw;omega];exact .inl ⟨[⟨[(0,.blk (C4 l (.v p) (.v a)) tLg)],[(0,0)],false⟩],_,⟨⟨⟨_,rfl,rfl,rfl⟩,trivial⟩,rfl,⟨[],rfl⟩,rfl,rfl,⟨rfl,rfl⟩⟩⟩
theorem Ux (l:LD)(rest:List R){h:Nat}(a:h < 2):FnO Tryz.prog 128 [.ptr 0 0,gI h] (.blk (C4 l (.ptr 1 0) (.osl 2)) tLg::rest) fun g rs=>g=gI (Cw h:Nat)∧rs=.blk (C4 l (.ptr 1 0) (.osl 2)) tLg::rest :=
 FnO.frame (Z76 l l) rfl rfl fun u=>Zc9 l (u 0) (u 7) a
theorem Z1m (l:LD)(p a:Value):FnO Tryz.prog 127 [.ptr 0 0] [.blk (C4 l (.v p) (.v a)) tLg] fun g rs=>g=gI 35136∧rs=[.blk (C4 l (.v p) (.v a)) tLg]:=by refine Bq Tryz.func127 (V7 _ _) ?_;refine⟨by decide,?_⟩;exact .inl ⟨[⟨[(0,.blk (C4 l (.v p) (.v a)) tLg)],[(0,0)],false⟩],_,⟨⟨⟨_,rfl,rfl,rfl⟩,trivial⟩,rfl,⟨[],rfl⟩,rfl,rfl,⟨rfl,rfl⟩⟩⟩
theorem Z5j (l:LD)(rest:List R):FnO Tryz.prog 127 [.ptr 0 0] (.blk (C4 l (.ptr 1 0) (.osl 2)) tLg::rest) fun g rs=>g=gI 35136∧rs=.blk (C4 l (.ptr 1 0) (.osl 2)) tLg::rest :=
 FnO.frame (Z76 l l) rfl rfl fun u=>Z1m l (u 0) (u 7)
theorem Zjy (l:LD)(p a:Value)(e:Int):FnO Tryz.prog 150 [.ptr 0 0,gI e] [.blk (C4 l (.v p) (.v a)) tLg] fun g rs=>g=gI (if l.dead=true∨e≠0 then 40 else 0)∧rs=[.blk (C4 {l with dead:=l.dead||e != 0} (.v p) (.v a)) tLg]:=by
 refine Bq Tryz.func150 (V7 _ _) ?_;refine dk (fun h=>?_) fun h=>?_
 ·rw[dc (.inl h),h];exact .gh (.seen 0 _ _ rfl (.done ⟨[⟨[(0,.blk (C4 {l with dead:=true} (.v p) (.v a)) tLg)],[(0,0)],false⟩],_,⟨⟨⟨_,rfl,rfl,rfl⟩,trivial⟩,rfl,⟨[],rfl⟩,rfl,rfl,⟨rfl,rfl⟩⟩⟩))
 ·refine dk (fun c=>?_) fun c=>?_
  ·rw[dc (.inr (by simpa using c)),h];exact .inl ⟨[⟨[(0,.blk (C4 {l with dead:=e != 0} (.v p) (.v a)) tLg)],[(0,0)],false⟩],_,⟨⟨⟨_,rfl,rfl,rfl⟩,trivial⟩,rfl,⟨[],rfl⟩,rfl,rfl,⟨rfl,rfl⟩⟩⟩
  ·rw[db (by rintro(b | b);exact de b (by rw[h];decide);exact b (by simpa using c)),h];exact .inl ⟨[⟨[(0,.blk (C4 {l with dead:=e != 0} (.v p) (.v a)) tLg)],[(0,0)],false⟩],_,⟨⟨⟨_,rfl,rfl,rfl⟩,trivial⟩,rfl,⟨[],rfl⟩,rfl,rfl,⟨rfl,rfl⟩⟩⟩
theorem Zhm (l:LD)(rest:List R)(e:Int):FnO Tryz.prog 150 [.ptr 0 0,gI e] (.blk (C4 l (.ptr 1 0) (.osl 2)) tLg::rest) fun g rs=>g=gI (if l.dead=true∨e≠0 then 40 else 0)∧rs=.blk (C4 {l with dead:=l.dead||e != 0} (.ptr 1 0) (.osl 2)) tLg::rest :=
 FnO.frame (Z76 l {l with dead:=l.dead||e != 0}) rfl rfl fun u=>Zjy l (u 0) (u 7) e
theorem Zi3 (l:LD)(p a:Value)(h:l.b.length≤1000000000):FnO Tryz.prog 140 [.ptr 0 0] [.blk (C4 l (.v p) (.v a)) tLg] fun g rs=>g=gI (Fa l)∧rs=[.blk (C4 l (.v p) (.v a)) tLg]:=by
 refine Bq Tryz.func140 (V7 _ _) ?_;have key:(((l.b.map gBy).length:Nat):Int)=l.b.length:=by rw[aa]
 have e:-9223372036854775808≤35136 - (((l.b.map gBy).length:Nat):Int)∧35136 - (((l.b.map gBy).length:Nat):Int)≤9223372036854775807:=by omega
 have f:-9223372036854775808≤35136 - (((l.b.map gBy).length:Nat):Int) - 4∧35136 - (((l.b.map gBy).length:Nat):Int) - 4≤9223372036854775807:=by omega
 refine jn (T:=?T1) (fun c=>?a1) ?b1
 case a1 =>
  refine⟨?_,?_⟩
  all_goals
   refine di ((Z1m l p a).cal fun q rs d=>?_);obtain⟨rfl,rfl⟩:=d;refine⟨e,f,?_⟩
  all_goals (conv=>whnf)
  exact c
  all_goals exact c
 unfold Fa;rw[←key];exact .inl ⟨[⟨[(0,.blk (C4 l (.v p) (.v a)) tLg)],[(0,0)],false⟩],_,⟨⟨⟨_,rfl,rfl,rfl⟩,trivial⟩,rfl,⟨[],rfl⟩,rfl,rfl,⟨rfl,rfl⟩⟩⟩
theorem Zep (l:LD)(rest:List R)(a:l.b.length≤1000000000):FnO Tryz.prog 140 [.ptr 0 0] (.blk (C4 l (.ptr 1 0) (.osl 2)) tLg::rest) fun g rs=>g=gI (Fa l)∧rs=.blk (C4 l (.ptr 1 0) (.osl 2)) tLg::rest :=
 FnO.frame (Z76 l l) rfl rfl fun u=>Zi3 l (u 0) (u 7) a
theorem Z0b (b:Bs)(e:b.length≤8):FnV Tryz.prog 126 [.sl (b.map gBy)] fun g=>g=gU (Dc b):=by
 refine fnG Tryz.func126 ?_;refine As [6,7] [] (fun i:Nat=>[(8,gI i),(3,gU (Dc (b.take i)))]) (fun _=>[]) (fun i=>i≤b.length) (fun i=>b.length - i) 0 (ah _) ⟨⟨rfl,rfl⟩,⟨rfl,rfl⟩,trivial⟩ trivial rfl fun i hi=>?_;refine dg (fun h=>?_) (fun h=>?_)
 ·have h:i < b.length:=by simpa using h
  refine dp (by simpa using h) fun x d=>?_;refine⟨by decide,by omega,i+1,by omega,(by dsimp only;omega),?_⟩;refine⟨?_,?_,rfl⟩<;>repeat' (first|exact trivial|with_reducible rfl|exact rfl|refine And.intro ?_ ?_)
  have a:Dc (b.take i) < 2 ^ 56:=by have c:=Hf (b.take i);refine aq c ?_;rw[show(2:Nat) ^ 56=256 ^ 7 by decide];exact Nat.pow_le_pow_right (by decide) (by rw[aw];omega)
  rw[Ar d,Mn];exact congrArg (fun n=>some (G.v (.int .u64 n))) (Za8 _ _ a x.toNat_lt)
 ·have h:¬i < b.length:=by simpa using h
  rw[ap (by omega)];exact rfl
def Zlz (n i:Nat):List G:=((be8 n).take i).map (fun c=>.v (.int .u8 c.toNat))++List.replicate (8 - i) (.v (.int .u8 0))
def Z9q (n k:Nat)(g:G):List G:=((be8 n).take k).map (fun c=>.v (.int .u8 c.toNat))++g::List.replicate (7 - k) (.v (.int .u8 0))
theorem L4 (n:Nat)(c p:Int)(h:p=c)(a:0≤c):G.v (.int .u8 ((n:Int).fdiv p % 256))=.v (.int .u8 ((byI ((n:Int) / c)).toNat:Nat)):=by subst h;rw[Cy,Int.fdiv_eq_ediv_of_nonneg _ a]
theorem Zi4 (n:Nat)(p:Int)(h:p=1):G.v (.int .u8 ((n:Int).fdiv p % 256))=.v (.int .u8 ((byI (n:Int)).toNat:Nat)):=by rw[L4 n 1 p h (by decide),Int.ediv_one]
theorem Zkk (n:Nat):FnV Tryz.prog 152 [gU n] fun g=>g=.agg ((be8 n).map fun c=>.v (.int .u8 c.toNat)):=by
 refine fnG Tryz.func152 ?_;refine As [0,2,3] [0] (fun i:Nat=>[(5,gI i)]) (fun i=>[(1,.blk (Zlz n i) 179)]) (fun i=>i≤8) (fun i=>8 - i) 0 (ah _) ⟨⟨rfl,rfl⟩,trivial⟩ ⟨RL1,trivial⟩ rfl fun i hi=>?_;refine dg (fun h=>?_) (fun h=>?_)
 ·have a:i=0∨i=1∨i=2∨i=3∨i=4∨i=5∨i=6∨i=7:=by omega
  rcases a with rfl | rfl | rfl | rfl | rfl | rfl | rfl | rfl
  ·refine⟨by decide,by decide,by decide,⟨by decide,by decide⟩,by decide,?_⟩;refine⟨1,by decide,by decide,?_⟩;refine⟨?_,?_,rfl⟩<;>repeat' (first|exact trivial|with_reducible rfl|exact rfl|refine And.intro ?_ ?_)
   exact congrArg (fun g=>some (R.blk (Z9q n 0 g) 179)) (L4 n 72057594037927936 _ rfl (by decide))
  ·refine⟨by decide,by decide,by decide,⟨by decide,by decide⟩,by decide,?_⟩;refine⟨2,by decide,by decide,?_⟩;refine⟨?_,?_,rfl⟩<;>repeat' (first|exact trivial|with_reducible rfl|exact rfl|refine And.intro ?_ ?_)
   exact congrArg (fun g=>some (R.blk (Z9q n 1 g) 179)) (L4 n 281474976710656 _ rfl (by decide))
  ·refine⟨by decide,by decide,by decide,⟨by decide,by decide⟩,by decide,?_⟩;refine⟨3,by decide,by decide,?_⟩;refine⟨?_,?_,rfl⟩<;>repeat' (first|exact trivial|with_reducible rfl|exact rfl|refine And.intro ?_ ?_)
   exact congrArg (fun g=>some (R.blk (Z9q n 2 g) 179)) (L4 n 1099511627776 _ rfl (by decide))
  ·refine⟨by decide,by decide,by decide,⟨by decide,by decide⟩,by decide,?_⟩;refine⟨4,by decide,by decide,?_⟩;refine⟨?_,?_,rfl⟩<;>repeat' (first|exact trivial|with_reducible rfl|exact rfl|refine And.intro ?_ ?_)
   exact congrArg (fun g=>some (R.blk (Z9q n 3 g) 179)) (L4 n 4294967296 _ rfl (by decide))
  ·refine⟨by decide,by decide,by decide,⟨by decide,by decide⟩,by decide,?_⟩;refine⟨5,by decide,by decide,?_⟩;refine⟨?_,?_,rfl⟩<;>repeat' (first|exact trivial|with_reducible rfl|exact rfl|refine And.intro ?_ ?_)
   exact congrArg (fun g=>some (R.blk (Z9q n 4 g) 179)) (L4 n 16777216 _ rfl (by decide))
  ·refine⟨by decide,by decide,by decide,⟨by decide,by decide⟩,by decide,?_⟩;refine⟨6,by decide,by decide,?_⟩;refine⟨?_,?_,rfl⟩<;>repeat' (first|exact trivial|with_reducible rfl|exact rfl|refine And.intro ?_ ?_)
   exact congrArg (fun g=>some (R.blk (Z9q n 5 g) 179)) (L4 n 65536 _ rfl (by decide))
  ·refine⟨by decide,by decide,by decide,⟨by decide,by decide⟩,by decide,?_⟩;refine⟨7,by decide,by decide,?_⟩;refine⟨?_,?_,rfl⟩<;>repeat' (first|exact trivial|with_reducible rfl|exact rfl|refine And.intro ?_ ?_)
   exact congrArg (fun g=>some (R.blk (Z9q n 6 g) 179)) (L4 n 256 _ rfl (by decide))
  ·refine⟨by decide,by decide,by decide,⟨by decide,by decide⟩,by decide,?_⟩;refine⟨8,by decide,by decide,?_⟩;refine⟨?_,?_,rfl⟩<;>repeat' (first|exact trivial|with_reducible rfl|exact rfl|refine And.intro ?_ ?_)
   exact congrArg (fun g=>some (R.blk (Z9q n 7 g) 179)) (Zi4 n _ rfl)
 ·obtain rfl:i=8:=by omega
  exact rfl
theorem Zfh (l:LD)(e:Nat)(k:WD l.d)(U:1100≤l.d.now.length)(hd:l.d.dead=false)(n:Nat)(hn:n < 2):FnO Tryz.prog 91 [.ptr 0 0,gI n] (cL l e) fun g rs=>g=.tup [gU (Dp l.d n).mark,gI (Dp l.d n).half,gI (Dp l.d n).firm,.v (.bool (Dp l.d n).is)]∧rs=cL l e:=by
 refine Bq Tryz.func91 (A6 (O:=oLs l e) (n0:=4) rfl) ?_;have f:K7 l.d (n:Nat)=0:=by unfold K7;rw[hd,db (by decide),db (by omega)]
 have j:n < l.d.now.length:=by omega
 obtain⟨b,p⟩:∃b,Ni l.d (n:Nat)=b:=⟨_,rfl⟩;have a:b.length=64:=by rw[←p];unfold Ni;rw[db (by rw[f];decide),az,ab j];exact k.now _ (bm j)
 have hM:Dp l.d n=if b.take 8≠b.drop 56 then⟨0,0,0,false⟩ else⟨Dc (b.take 8),((b[8]?).getD 0).toNat,Dc ((b.drop 9).take 4),decide (((b[8]?).getD 0).toNat < 2)&&decide (Dc ((b.drop 9).take 4)≤35136)⟩:=by unfold Dp;dsimp only;rw[p,f];simp
 have hr:FnO Tryz.prog 125 [.ptr 0 0,gI (0+(n:Int))] (cD l.d) fun g rs=>g=.tup [.sl (b.map gBy),gI 0]∧rs=cD l.d:=by
  have:=Z9n l.d k (n:Nat);rw[p,f] at this
  rwa [Int.zero_add]
 rw[hM];refine⟨by omega,?_⟩;refine di (hr.cal fun q rs i=>?_);obtain⟨rfl,rfl⟩:=i;refine dk (fun h=>de h (by decide)) fun _=>?_;have m:((b.map gBy).length:Int)=64:=by rw[aa,a];rfl
 have o:∀r∈b.map gBy,r.length=1:=fun r hr=>by obtain⟨x,-,rfl⟩:=ba.1 hr;rfl
 refine⟨⟨by decide,by decide,by rw[m];decide⟩,⟨o,?_⟩⟩;obtain⟨F,M,u,A,w,E,s,y,I⟩:=Zkp (l:=b.take 8) (by rw[aw,a];rfl);obtain⟨H,N,P,C,K,Q,t,L,hy⟩:=Zkp (l:=b.drop 56) (by rw[bc,a]);have W:Es (b.map gBy) (0:Int).toNat (8:Int).toNat=[F,M,u,A,w,E,s,y].map gBy:=by rw[←I,cw];rfl
 have V:Es (b.map gBy) (56:Int).toNat (((b.map gBy).length:Nat):Int).toNat=[H,N,P,C,K,Q,t,L].map gBy:=by rw[←hy,List.map_drop];show(List.take _ _).drop 56=_;rw[ap (by omega)]
 refine⟨by decide,[gB1 F,gB1 M,gB1 u,gB1 A,gB1 w,gB1 E,gB1 s,gB1 y],rfl,by rw[W];rfl,?_⟩;refine⟨⟨by decide,by rw[m];decide,br _⟩,⟨o,?_⟩⟩;refine⟨by decide,[gB1 H,gB1 N,gB1 P,gB1 C,gB1 K,gB1 Q,gB1 t,gB1 L],rfl,by rw[V];rfl,?_⟩;refine EvEq.arr [F,M,u,A,w,E,s,y] [H,N,P,C,K,Q,t,L] rfl rfl rfl (by kernel_rfl) rfl (by kernel_rfl) rfl rfl (fun B=>?_) fun J=>?_
 ·refine dk (fun h=>de h (by decide)) fun _=>?_;have i:b.take 8=b.drop 56:=by rw[I,hy];exact B
  rw[db (fun h=>h i)];refine⟨⟨by decide,by decide,by rw[m];decide⟩,⟨o,?_⟩⟩;obtain⟨c,T⟩:∃c,b[8]?=some c:=⟨_,ab (by omega)⟩;refine dm (by decide) T ?_;have hcl:=c.toNat_lt;have f4:Dc ((b.drop 9).take 4) < 256 ^ 4:=by refine aq (Hf _) (Nat.pow_le_pow_right (by decide) ?_);exact List.length_take_le ..
  have Y:Es (b.map gBy) (0:Int).toNat (8:Int).toNat=(b.take 8).map gBy:=by rw[cw];rfl
  have Z:Es (b.map gBy) (9:Int).toNat (13:Int).toNat=((b.drop 9).take 4).map gBy:=by rw[cw,List.map_drop];show(List.take 13 _).drop 9=_;rw[List.drop_take]
  have R:=Z0b (b.take 8) (by rw[aw];omega);have S:=Z0b ((b.drop 9).take 4) (by rw[aw];omega);rw[←Y] at R;rw[←Z] at S;have X:-9223372036854775808≤((Dc ((b.drop 9).take 4):Nat):Int)∧((Dc ((b.drop 9).take 4):Nat):Int)≤9223372036854775807:=by omega
  refine⟨by omega,?_⟩;refine⟨⟨by decide,by decide,by rw[m];decide⟩,⟨o,?_⟩⟩;refine R.cal fun q i=>?_;subst i;refine S.cal fun q i=>?_;subst i;refine⟨X,?_⟩;rw[T];refine dg (fun h2=>?_) fun h2=>?_
  ·refine di ((Z5j l _).cal fun q rs i=>?_);obtain⟨rfl,rfl⟩:=i;have D:decide (((Dc ((b.drop 9).take 4):Nat):Int)≤35136)=(decide (((some c).getD 0).toNat < 2)&&decide (Dc ((b.drop 9).take 4)≤35136)):=by
    rw[show(some c).getD 0=c from rfl,decide_eq_true (by omega:c.toNat < 2),Bool.true_and];exact decide_eq_decide.2 (by omega)
   exact .inl (A1 (oLs l e) [] (by exact RL4) rfl ⟨_,rfl⟩ rfl rfl ⟨congrArg (fun z=>G.tup [gU (Dc (b.take 8)),gI c.toNat,gI (Dc ((b.drop 9).take 4)),.v (.bool z)]) D,rfl⟩)
  ·have D:false=(decide (((some c).getD 0).toNat < 2)&&decide (Dc ((b.drop 9).take 4)≤35136)):=by
    rw[show(some c).getD 0=c from rfl,decide_eq_false (by omega:¬c.toNat < 2),Bool.false_and]
   exact .inl (A1 (oLs l e) [] (by exact RL4) rfl ⟨_,rfl⟩ rfl rfl ⟨congrArg (fun z=>G.tup [gU (Dc (b.take 8)),gI c.toNat,gI (Dc ((b.drop 9).take 4)),.v (.bool z)]) D,rfl⟩)
 ·refine dk (fun _=>?_) fun h=>de h (by decide);have i:b.take 8≠b.drop 56:=by rw[I,hy];exact J
  rw[dc i];exact .inl (A1 (oLs l e) [] (by exact RL4) rfl ⟨_,rfl⟩ rfl rfl ⟨rfl,rfl⟩)
theorem Rv (b:Bs)(F:b.length≤1000000):FnO Tryz.prog 129 [.sl (b.map gBy)] [] fun g rs=>g=.tup [.osl 0,.v (.bool (Ng b).isSome)]∧rs=[.slc (((Ng b).getD []).map gSt) 9 1]:=by
 refine Bq Tryz.func129 (S4 _) ?_;refine As [] [0] (fun p:Bs × List ByteArray=>[(0,.sl (p.1.map gBy)),(4,.osl 1)]) (fun p=>[(1,.slc (p.2.map gSt) 9 1)]) (fun p=>Ng b=(Ng p.1).map (p.2++·)∧p.1.length+p.2.length≤b.length) (fun p=>p.1.length) (b,[]) ⟨by cases Ng b<;>rfl,af _⟩ ⟨⟨rfl,rfl⟩,⟨rfl,rfl⟩,trivial⟩ ⟨RL1,trivial⟩ rfl fun p hi=>?_;obtain⟨c,l⟩:=p;obtain⟨a,o⟩:=hi;dsimp only at a o;have f:(((c.map gBy).length:Nat):Int)=c.length:=by rw[aa]
 have u:∀r∈c.map gBy,r.length=1:=fun r hr=>by obtain⟨x,-,rfl⟩:=ba.1 hr;rfl
 have bad:Ng c=none→∀{own:Os} {n k:Nat},look k own=some (.slc [] 9 1)→Z5z [] own n (.tup [.osl k,.v (.bool false)]) (fun g rs=>g=.tup [.osl 0,.v (.bool (Ng b).isSome)]∧rs=[.slc (((Ng b).getD []).map gSt) 9 1]):=fun h {own n k} A=>by rw[a,h];exact .inl ⟨[⟨[(0,.slc [] 9 1)],[(0,k)],false⟩],.tup [.osl 0,.v (.bool false)],⟨⟨⟨_,rfl,A,rfl⟩,trivial⟩,rfl,⟨_,rfl⟩,rfl,rfl,⟨rfl,rfl⟩⟩⟩
 refine dg (fun m=>?_) fun m=>?_
 ·rw[f] at m;have s:c≠[]:=fun e=>by rw[e] at m;exact de m (by decide)
  have i:=R6 s;refine dg (fun w=>?_) fun w=>?_
  ·rw[f] at w;refine bad (k:=2) (by rw[i,dc (by omega)]) ?_;exact rfl
  rw[f] at w;refine⟨⟨by decide,by decide,by rw[f];omega⟩,⟨u,?_⟩⟩;have B:Es (c.map gBy) (0:Int).toNat (4:Int).toNat=(c.take 4).map gBy:=by rw[cw];rfl
  have y:=Z0b (c.take 4) (by rw[aw];omega);rw[←B] at y;have H:Dc (c.take 4) < 256 ^ 4:=aq (Hf _) (Nat.pow_le_pow_right (by decide) (List.length_take_le ..));refine y.cal fun q C=>?_;subst C;refine⟨by omega,?_⟩;refine dg (fun D=>?_) fun D=>?_
  ·refine bad (k:=2) (by rw[i,db (by omega),dc (.inl (by omega))]) ?_;exact rfl
  refine⟨by rw[f];omega,?_⟩;refine dg (fun t=>?_) fun t=>?_
  ·rw[f] at t;refine bad (k:=2) (by rw[i,db (by omega),dc (.inr (by omega))]) ?_;exact rfl
  rw[f] at t;have d:=i;rw[db (by omega),db (by omega)] at d;refine⟨by omega,?_⟩;refine⟨⟨by decide,by omega,by rw[f];omega⟩,⟨u,?_⟩⟩;have z:Es (c.map gBy) (4:Int).toNat (4+((Dc (c.take 4):Nat):Int)).toNat=((c.drop 4).take (Dc (c.take 4))).map gBy:=by
   rw[cw,List.map_drop];show(List.take _ _).drop 4=_;rw[List.drop_take]
   congr 1;omega
  have E:Es (c.map gBy) (4+((Dc (c.take 4):Nat):Int)).toNat (((c.map gBy).length:Nat):Int).toNat=(c.drop (4+Dc (c.take 4))).map gBy:=by rw[List.map_drop];show(List.take (((c.map gBy).length:Nat):Int).toNat (c.map gBy)).drop (4+((Dc (c.take 4):Nat):Int)).toNat=_;rw[az,List.take_length,show(4+((Dc (c.take 4):Nat):Int)).toNat=4+Dc (c.take 4) by omega]
  refine⟨_,z,?_⟩;have j:(l.map gSt).length+1≤1073741824:=by rw[aa];omega
  refine⟨j,?_⟩;refine⟨by omega,?_⟩;refine⟨⟨by omega,by rw[f];omega,br _⟩,⟨u,?_⟩⟩;refine⟨(c.drop (4+Dc (c.take 4)),l++[⟨((c.drop 4).take (Dc (c.take 4))).toArray⟩]),⟨?_,?_⟩,?_,?_⟩
  ·rw[a,d];cases Ng (c.drop (4+Dc (c.take 4)))<;>simp
  ·simp;omega
  ·dsimp only;rw[bc];omega
  refine⟨?_,?_,rfl⟩<;>repeat' (first|exact trivial|with_reducible rfl|exact rfl|refine And.intro ?_ ?_)
  ·exact congrArg (fun x=>some (G.sl x)) E
  ·exact eqR (by rw[ao];rfl)
 ·rw[f] at m;obtain rfl:c=[]:=am (by omega);rw[Xy] at a;have a:Ng b=some l:=by rw[a];simp
  rw[a];exact .inl ⟨[⟨[(0,.slc (l.map gSt) 9 1)],[(0,1)],false⟩],.tup [.osl 0,.v (.bool true)],⟨⟨⟨_,rfl,rfl,rfl⟩,trivial⟩,rfl,⟨_,rfl⟩,rfl,rfl,⟨rfl,rfl⟩⟩⟩
theorem Md:∀(L:List Sec) (i:Nat),(∀s∈L,s.length=64)→i≤L.length→L.flatten.take (i * 64)=(L.take i).flatten
 | _,0,_,_=>by simp
 | [],i+1,_,hi=>by simp at hi
 | s::L,i+1,h,hi=>by have b:=h s (by simp);rw[b8,List.take_succ_cons,b8,←Md L i (fun x a=>h x (by simp[a])) (by simpa using hi),show(i+1) * 64=s.length+i * 64 by omega,List.take_length_add_append]
theorem Qv {d:RD}(a:WD d)(b:1100≤d.now.length){h:Nat}(e:h < 2):((d.now.drop (Cw h)).take 549).length=549∧(∀s∈(d.now.drop (Cw h)).take 549,s.length=64)∧∀i,i < 549→((d.now.drop (Cw h)).take 549)[i]?=d.now[Cw h+i]?:=by refine⟨by unfold Cw;simp;omega,fun s c=>a.now s (b7 (be c)),fun i hi=>?_⟩;rw[bj,dc hi,bw]
theorem Z1 {d:RD}(b:WD d)(a:1100≤d.now.length){h:Nat}(f:h < 2){i:Nat}(hi:i < 549){s:Sec}(g:d.now[Cw h+i]?=some s):(D6 d h).take ((i+1) * 64)=(D6 d h).take (i * 64)++s:=by obtain⟨j,c,e⟩:=Qv b a f;unfold D6;rw[Md _ _ c (by omega),Md _ _ c (by omega),List.take_add_one,e i hi,g];simp
theorem Z5k {d:RD}(b:WD d)(a:1100≤d.now.length){h:Nat}(g:h < 2):(D6 d h).length=35136:=by
 obtain⟨e,i,-⟩:=Qv b a g;unfold D6;have:∀L:List Sec,(∀s∈L,s.length=64)→L.flatten.length=L.length * 64:=fun L c=>by
  induction L with
  | nil=>rfl
  | cons s L ih=>rw[b8,ax,c s (by simp),ih fun x f=>c x (by simp[f]),bd];omega
 rw[this _ i,e]
theorem Zgz (l:LD)(e:Nat)(j:WD l.d)(o:1100≤l.d.now.length)(hd:l.d.dead=false)(u:l.half < 2)(hf:l.firm≤35136):FnO Tryz.prog 92 [.ptr 0 0] (cL l e) fun g rs=>(Ng ((D6 l.d l.half).take l.firm)=none∧g=gI 50∧rs=cL {l with b:=(D6 l.d l.half).take l.firm} e)∨∃a,Ng ((D6 l.d l.half).take l.firm)=some a∧g=gI 0∧rs=cL {l with b:=(D6 l.d l.half).take l.firm,all:=a} e:=by
 refine Bq Tryz.func92 (A6 (O:=oLs l e) (n0:=4) rfl) ?_;have r:=Z5k j o u;refine As [0,12] [0,1,2,3] (fun i:Nat=>[(13,gI i),(3,.osl 4)]) (fun i=>[(4,.slc (((D6 l.d l.half).take (i * 64)).map gBy) 5 1)]) (fun i=>i≤549) (fun i=>549 - i) 0 (ah _) ⟨⟨rfl,rfl⟩,⟨rfl,rfl⟩,trivial⟩ ⟨RL1,trivial⟩ rfl fun i hi=>?_;refine dg (fun h=>?_) fun h=>?_
 ·have hi:i < 549:=by omega
  have t:Cw l.half+i < l.d.now.length:=by unfold Cw;omega
  obtain⟨s,w⟩:∃s,l.d.now[Cw l.half+i]?=some s:=⟨_,ab t⟩;have y:s.length=64:=j.now s (ae w);have hr:FnO Tryz.prog 125 [.ptr 0 0,gI ((Cw l.half:Nat)+(i:Int))] (cD l.d) fun g rs=>g=.tup [.sl (s.map gBy),gI 0]∧rs=cD l.d:=by
   have C:K7 l.d ((Cw l.half+i:Nat):Int)=0:=by unfold K7;rw[hd,db (by decide),db (by omega)]
   have:=Z9n l.d j ((Cw l.half+i:Nat):Int);unfold Ni at this;rw[C,db (fun h=>h rfl),az,w] at this
   rwa [Int.natCast_add] at this
  have p:-9223372036854775808≤((Cw l.half:Nat):Int)+(i:Int)∧((Cw l.half:Nat):Int)+(i:Int)≤9223372036854775807:=by unfold Cw;omega
  refine⟨?_,?_⟩
  all_goals
   refine di ((Ux l _ u).cal fun q rs n=>?_);obtain⟨rfl,rfl⟩:=n;refine⟨p,?_⟩;refine di (hr.cal fun q rs n=>?_);obtain⟨rfl,rfl⟩:=n;refine dk (fun h=>de h (by decide)) fun _=>?_;refine⟨Om s,by rw[aa,aa,aw,r];omega,?_⟩;have B:((D6 l.d l.half).take (i * 64)).map gBy++s.map gBy=((D6 l.d l.half).take ((i+1) * 64)).map gBy:=by rw[Z1 j o u hi w,ao]
   conv=>whnf
   rw[B];refine dg (fun x=>?_) fun A=>?_
   ·rw[aa,aw,r] at x;have k:l.firm≤(i+1) * 64:=by omega
    have m:(i+1) * 64≤35136:=by omega
    have f:((((D6 l.d l.half).take ((i+1) * 64)).map gBy).length:Int)=((i+1) * 64:Nat):=by rw[aa,aw,r,cf m]
    refine⟨⟨br _,by omega,by rw[f];omega⟩,?_⟩;have eS:Es (((D6 l.d l.half).take ((i+1) * 64)).map gBy) (0:Int).toNat ((l.firm:Nat):Int).toNat=((D6 l.d l.half).take l.firm).map gBy:=by show((List.map gBy _).take l.firm).drop 0=_;rw[List.drop_zero,←cw,List.take_take,cf k]
    have c:=Rv ((D6 l.d l.half).take l.firm) (by rw[aw];omega);rw[←eS] at c;refine c.cal fun q rs n=>?_;obtain⟨rfl,rfl⟩:=n;cases hrb:Ng ((D6 l.d l.half).take l.firm) with
    | none =>
     refine dk (fun _=>?_) fun h=>de h (by decide);exact .gh (.seen 0 _ _ rfl (.done (A1 (oLs {l with b:=(D6 l.d l.half).take l.firm} e) [] ⟨⟨rfl,rfl,congrArg (fun z=>some (R.blk [.ptr 1 0,gI 0,gI 549,gU l.mark,gI l.half,gI l.firm,.sl z,.osl 2,.v (.bool l.dead)] tLg)) eS⟩,RL1,RL1,RL1,trivial⟩ rfl ⟨_,rfl⟩ rfl rfl (.inl RL1))))
    | some a =>
     refine dk (fun h=>de h (fun h=>by cases h)) fun _=>?_;exact .gh (.seen 0 _ _ rfl (.done (A1 (oLs {l with b:=(D6 l.d l.half).take l.firm,all:=a} e) [(2,6)] ⟨⟨rfl,rfl,congrArg (fun z=>some (R.blk [.ptr 1 0,gI 0,gI 549,gU l.mark,gI l.half,gI l.firm,.sl z,.osl 6,.v (.bool l.dead)] tLg)) eS⟩,RL1,RL1,RL1,trivial⟩ rfl ⟨_,rfl⟩ rfl rfl (.inr ⟨a,rfl,rfl,rfl⟩))))
   ·refine⟨by omega,i+1,by omega,(by dsimp only;omega),?_⟩;refine⟨?_,?_,rfl⟩<;>repeat' (first|exact trivial|with_reducible rfl|exact rfl|refine And.intro ?_ ?_)
 ·obtain rfl:i=549:=by omega
  have k:l.firm≤549 * 64:=by omega
  have m:549 * 64≤35136:=by decide
  have f:((((D6 l.d l.half).take (549 * 64)).map gBy).length:Int)=(549 * 64:Nat):=by rw[aa,aw,r,cf m]
  refine⟨⟨br _,by omega,by rw[f];omega⟩,?_⟩;have eS:Es (((D6 l.d l.half).take (549 * 64)).map gBy) (0:Int).toNat ((l.firm:Nat):Int).toNat=((D6 l.d l.half).take l.firm).map gBy:=by show((List.map gBy _).take l.firm).drop 0=_;rw[List.drop_zero,←cw,List.take_take,cf k]
  have c:=Rv ((D6 l.d l.half).take l.firm) (by rw[aw];omega);rw[←eS] at c;refine c.cal fun q rs n=>?_;obtain⟨rfl,rfl⟩:=n;cases hrb:Ng ((D6 l.d l.half).take l.firm) with
  | none =>
   refine dk (fun _=>?_) fun h=>de h (by decide);exact .gh (.seen 0 _ _ rfl (.done (A1 (oLs {l with b:=(D6 l.d l.half).take l.firm} e) [] ⟨⟨rfl,rfl,congrArg (fun z=>some (R.blk [.ptr 1 0,gI 0,gI 549,gU l.mark,gI l.half,gI l.firm,.sl z,.osl 2,.v (.bool l.dead)] tLg)) eS⟩,RL1,RL1,RL1,trivial⟩ rfl ⟨_,rfl⟩ rfl rfl (.inl RL1))))
  | some a =>
   refine dk (fun h=>de h (fun h=>by cases h)) fun _=>?_;exact .gh (.seen 0 _ _ rfl (.done (A1 (oLs {l with b:=(D6 l.d l.half).take l.firm,all:=a} e) [(2,5)] ⟨⟨rfl,rfl,congrArg (fun z=>some (R.blk [.ptr 1 0,gI 0,gI 549,gU l.mark,gI l.half,gI l.firm,.sl z,.osl 5,.v (.bool l.dead)] tLg)) eS⟩,RL1,RL1,RL1,trivial⟩ rfl ⟨_,rfl⟩ rfl rfl (.inr ⟨a,rfl,rfl,rfl⟩))))
def mkN (d:RD):Nat→MkL
 | 0=>⟨0,0,0,true⟩
 | i+1=>Fv (mkN d i) (Dp d i)
abbrev U5 (d:RD)(m:MkL):LD:=⟨m.mark,m.half,m.firm,[],[],false,d⟩
theorem Z8b (d:RD)(n:Nat)(h:(Dp d n).is=true):(Dp d n).half < 2∧(Dp d n).firm≤35136:=by
 unfold Dp at h⊢;dsimp only at h⊢;split at h
 ·cases h
 ·next a =>
  rw[db a];simpa using h
theorem Z9l (d:RD):∀i,(mkN d i).half < 2∧(mkN d i).firm≤35136
 | 0=>⟨Nat.zero_lt_succ 1,ah _⟩
 | i+1=>by
  unfold mkN Fv;split
  ·next h=>exact Z8b d i h.1
  ·exact Z9l d i
theorem Zg9 (d:RD)(k:WD d)(m:1100≤d.now.length)(hd:d.dead=false):FnO Tryz.prog 56 [.ptr 0 0,gI 0,gI 1100] (cD d) fun g rs=>(Z5g d=none∧g=.tup [.v (.pointer none),gI 50]∧rs=cD d)∨∃l b,Z5g d=some l∧g=.tup [.ptr 1 0,gI 0]∧rs=[.gone,.abs (cl (oLs l b)),.adr 0 b]:=by
 refine Bq Tryz.func56 (V7 _ _) ?_;refine di ((Z51 d).cal fun q rs j=>?_);obtain⟨rfl,rfl⟩:=j;rw[hd];refine dk (fun h=>de h (by decide)) fun _=>?_;refine dg (fun h=>de h (by decide)) fun _=>?_;refine dg (fun h=>de h (by decide)) fun _=>?_;refine di ((Z4z d).cal fun q rs j=>?_);obtain⟨rfl,rfl⟩:=j;refine dg (fun h=>by omega) fun _=>?_;refine di ((Z4z d).cal fun q rs j=>?_);obtain⟨rfl,rfl⟩:=j;have r:=k.few;refine⟨by omega,?_⟩;refine dg (fun h=>by omega) fun _=>?_;refine⟨by omega,?_⟩;refine⟨by decide,by decide,?_⟩;refine Z7i (.nil 1 [.ptr 0 0,gI 0,gI 549,gU 0,gI 0,gI 0] [.nl,.ff] tLg 5 1 rfl (by decide) (.frz 2 _ _ _ rfl (.seen 1 _ _ rfl (.nil 1 [.ptr 0 0,gI 0,gI 549,gU 0,gI 0,gI 0,.sl []] [.v (.bool false)] tLg 9 1 rfl (by decide) (.adr 0 _ rfl fun e=>.dup 4 0 e rfl (.close (oLs (U5 d (mkN d 0)) e) [(0,1),(1,0),(2,3),(3,4)] (by exact RL4) ⟨_,rfl⟩ rfl (.done ?_)))))));refine D2 [8] [0,5] (fun i:Nat=>[(46,gI i)]) (fun i=>[(1,.abs (cl (oLs (U5 d (mkN d i)) e)))]) (fun i=>i≤2) (fun i=>2 - i) 0 (ah _) ⟨⟨rfl,rfl⟩,trivial⟩ ⟨RL1,trivial⟩ rfl fun i hi=>?_;refine dg (fun h=>?_) fun h=>?_
 ·have p:i < 2:=by omega
  refine dh (.done (.same ((Zfh (U5 d (mkN d i)) e k m hd i p).cal fun q rs j=>?_)));obtain⟨rfl,rfl⟩:=j;refine .opn 1 _ _ _ rfl rfl rfl (.done ?_);refine dk (fun c=>?_) fun c=>?_
  ·refine dg (fun f=>?_) fun f=>?_
   ·have f:(((Dp d i).mark:Nat):Int) > ((mkN d i).mark:Nat):=f;have c:(Dp d i).is=true:=c;have hN:mkN d (i+1)=Dp d i:=by
     show Fv _ _=_;unfold Fv;rw[dc ⟨c,by omega⟩]
    refine⟨by omega,?_⟩;refine Gh.close (oLs (U5 d (Dp d i)) e) [(0,1),(1,6),(2,7),(3,8)] (by exact RL4) ⟨_,rfl⟩ rfl (.done ⟨i+1,[],by omega,(by dsimp only;omega),?_⟩);refine⟨?_,?_,rfl⟩<;>repeat' (first|exact trivial|with_reducible rfl|exact rfl|refine And.intro ?_ ?_)
    rw[hN];exact rfl
   ·have f:¬(((Dp d i).mark:Nat):Int) > ((mkN d i).mark:Nat):=f;have hN:mkN d (i+1)=mkN d i:=by
     show Fv _ _=_;unfold Fv;rw[db (fun h=>f (by omega))]
    refine⟨by omega,?_⟩;refine Gh.close (oLs (U5 d (mkN d i)) e) [(0,1),(1,6),(2,7),(3,8)] (by exact RL4) ⟨_,rfl⟩ rfl (.done ⟨i+1,[],by omega,(by dsimp only;omega),?_⟩);refine⟨?_,?_,rfl⟩<;>repeat' (first|exact trivial|with_reducible rfl|exact rfl|refine And.intro ?_ ?_)
    rw[hN];exact rfl
  ·have c:(Dp d i).is=false:=c;have hN:mkN d (i+1)=mkN d i:=by
    show Fv _ _=_;unfold Fv;rw[db (fun h=>by rw[c] at h;cases h.1)]
   refine⟨by omega,?_⟩;refine Gh.close (oLs (U5 d (mkN d i)) e) [(0,1),(1,6),(2,7),(3,8)] (by exact RL4) ⟨_,rfl⟩ rfl (.done ⟨i+1,[],by omega,(by dsimp only;omega),?_⟩);refine⟨?_,?_,rfl⟩<;>repeat' (first|exact trivial|with_reducible rfl|exact rfl|refine And.intro ?_ ?_)
   rw[hN];exact rfl
 ·obtain rfl:i=2:=by omega
  obtain⟨n,o⟩:=Z9l d 2
  conv=>whnf
  refine Gh.done ?_;refine di ((Zgz (U5 d (mkN d 2)) e k m hd n o).cal fun q rs j=>?_);rcases j with⟨hr,rfl,rfl⟩ | ⟨a,hr,rfl,rfl⟩
  ·refine dj (fun _=>?_) fun h=>de h (by decide);exact .gh (.opn 1 _ _ _ rfl rfl rfl (.move 6 0 8 5 e _ rfl rfl rfl rfl (.done (A7 rfl rfl (.inl ⟨by unfold Z5g;rw[show L8 d=mkN d 2 from rfl,hr],rfl,rfl⟩)))))
  ·refine dj (fun h=>de rfl h) fun _=>?_;exact .inl ⟨[⟨[(0,.gone)],[(0,0)],false⟩,⟨[(0,.abs _)],[(0,1)],false⟩,⟨[(0,.adr 0 e)],[(0,5)],false⟩],.tup [.ptr 1 0,gI 0],⟨⟨⟨_,rfl,rfl,rfl⟩,⟨_,rfl,rfl,rfl⟩,⟨_,rfl,rfl,rfl⟩,trivial⟩,rfl,⟨_,rfl⟩,rfl,rfl,.inr ⟨_,e,by unfold Z5g;rw[show L8 d=mkN d 2 from rfl,hr],rfl,rfl⟩⟩⟩
theorem Hn {own:Os}{n k:Nat}{rows a:List (List G)}{e sz:Nat}(h:look k own=some (.slc rows e sz))(b:rows=a):Z5z [] own n (.osl k) (fun g rs=>g=.osl 0∧rs=[.slc a e sz]):=by subst b;exact .inl ⟨[⟨[(0,.slc rows e sz)],[(0,k)],false⟩],.osl 0,⟨⟨⟨_,rfl,h,rfl⟩,trivial⟩,rfl,⟨_,rfl⟩,rfl,rfl,⟨rfl,rfl⟩⟩⟩
theorem Z69 (l:List ByteArray):∀r∈l.map gSt,r.length=1∧r.all G.one=true:=fun r hr=>by obtain⟨c,-,rfl⟩:=ba.1 hr;exact⟨rfl,rfl⟩
theorem Z4l (l:List ByteArray)(d:l.length≤1000000):FnO Tryz.prog 93 [.sl (l.map gSt)] [] fun g rs=>g=.osl 0∧rs=[.slc (l.map gSt) 9 1]:=by
 refine Bq Tryz.func93 (S4 _) ?_;refine⟨fun b c=>?_⟩;refine dk (fun h=>?_) fun h=>?_
 ·have e:l.map gSt=[]:=bz fun a=>by rw[c a] at h;cases h
  exact Hn (k:=1) rfl e.symm
 ·refine⟨Z69 l,by simp;omega,?_⟩;exact Hn (k:=2) rfl (cy _)
theorem Zfe (l:List ByteArray)(b:l.length≤1000000):FnO Tryz.prog 93 [.osl 0] [.slc (l.map gSt) 9 1] fun g rs=>g=.osl 1∧rs=[.slc (l.map gSt) 9 1,.slc (l.map gSt) 9 1] :=
 FnO.peekN (Z4l l b) rfl fun r hr g a=>by obtain⟨s,-,rfl⟩:=ba.1 hr;rw[bo.1 a];rfl
theorem Zdh (l:Bs)(d:l.length≤1000000):FnO Tryz.prog 142 [.sl (l.map gBy)] [] fun g rs=>g=.osl 0∧rs=[.slc (l.map gBy) 5 1]:=by
 refine Bq Tryz.func142 (S4 _) ?_;refine⟨fun b c=>?_⟩;refine dk (fun h=>?_) fun h=>?_
 ·have e:l.map gBy=[]:=bz fun a=>by rw[c a] at h;cases h
  exact Hn (k:=1) rfl e.symm
 ·refine⟨Om l,by simp;omega,?_⟩;exact Hn (k:=2) rfl (cy _)
theorem Zkg (l:LD)(e:Nat)(a:l.all.length≤1000000):FnO Tryz.prog 57 [.ptr 0 0] (cL l e) fun g rs=>g=.osl 1∧rs=[.abs (cl (oLs l e)),.slc (l.all.map gSt) 9 1]:=by refine Bq Tryz.func57 (A6 (O:=oLs l e) (n0:=4) rfl) ?_;refine di ((Zfe l.all a).cal fun q rs b=>?_);obtain⟨rfl,rfl⟩:=b;exact .inl ⟨[⟨oLs l e,[],true⟩,⟨[(0,.slc (l.all.map gSt) 9 1)],[(0,5)],false⟩],.osl 1,⟨⟨⟨(by exact RL4),_,rfl⟩,⟨_,rfl,rfl,rfl⟩,trivial⟩,rfl,⟨_,rfl⟩,rfl,rfl,⟨rfl,rfl⟩⟩⟩
theorem Xt (b:Bs)(d:b.length≤1000000)(s:ByteArray)(e:s.size≤1000000):FnO Tryz.prog 141 [.osl 0,.v (.string s)] [.slc (b.map gBy) 5 1] fun g rs=>g=.osl 1∧rs=[.gone,.slc ((b++frB s).map gBy) 5 1]:=by
 refine Bq Tryz.func141 (V7 _ _) ?_;have a:s.data.toList.length=s.size:=by rw[cd];rfl
 refine⟨by decide,by decide,by decide,?_⟩;refine⟨by rw[aa];show b.length+4≤_;omega,?_⟩;refine⟨by simp;omega,?_⟩;have c:b.map gBy++[[G.v (.int .u8 (((s.size:Int).fdiv (2 ^ min (Int.toNat 24) 64)) % 256))],[G.v (.int .u8 (((s.size:Int).fdiv (2 ^ min (Int.toNat 16) 64)) % 256))],[G.v (.int .u8 (((s.size:Int).fdiv (2 ^ min (Int.toNat 8) 64)) % 256))],[G.v (.int .u8 ((s.size:Int) % 256))]]++s.data.toList.map gBy=(b++frB s).map gBy:=by
  unfold frB;rw[ao,bx]
  congr 1
  show _=gBy _::gBy _::gBy _::gBy _::s.data.toList.map gBy;unfold gBy;rw[Cy,Cy,Cy,Cy,Fh _ 16777216 (Int.toNat 24) 24 rfl rfl (by decide),Fh _ 65536 (Int.toNat 16) 16 rfl rfl (by decide),Fh _ 256 (Int.toNat 8) 8 rfl rfl (by decide)];rfl
 rw[←c];exact .inl ⟨[⟨[(0,.gone)],[(0,0)],false⟩,⟨[(0,.slc _ 5 1)],[(0,4)],false⟩],.osl 1,⟨⟨⟨_,rfl,rfl,rfl⟩,⟨_,rfl,rfl,rfl⟩,trivial⟩,rfl,⟨_,rfl⟩,rfl,rfl,⟨rfl,rfl⟩⟩⟩
theorem Im (l:LD)(rest:List R)(h:l.dead=false):FnO Tryz.prog 150 [.ptr 0 0,gI 0] (.blk (C4 l (.ptr 1 0) (.osl 2)) tLg::rest) fun g rs=>g=gI 0∧rs=.blk (C4 l (.ptr 1 0) (.osl 2)) tLg::rest :=
 (Zhm l rest 0).mono fun g rs ⟨a,h2⟩=>⟨by rw[a,h];rfl,by rw[h2];cases l;dsimp only at h;subst h;rfl⟩
theorem Ih (l:LD)(rest:List R){e:Int}(a:e≠0):FnO Tryz.prog 150 [.ptr 0 0,gI e] (.blk (C4 l (.ptr 1 0) (.osl 2)) tLg::rest) fun g rs=>g=gI 40∧rs=.blk (C4 {l with dead:=true} (.ptr 1 0) (.osl 2)) tLg::rest :=
 (Zhm l rest e).mono fun g rs ⟨b,h2⟩=>⟨by rw[b,dc (.inr a)],by rw[h2,show(l.dead||e != 0)=true by cases l.dead<;>simp[a]]⟩
theorem Sc (d:RD):(Bt d).now=d.now∧(Bt d).wait=d.wait∧(Bt d).firm=d.firm∧(Bt d).armed≤d.armed:=by
 unfold Bt;split
 ·exact⟨rfl,rfl,rfl,br _⟩
 ·exact⟨rfl,rfl,rfl,by show d.armed - 1≤_;omega⟩
theorem Ez (d:RD)(n:Int)(b:Sec):(Ad d n b).now.length=d.now.length∧(Ad d n b).wait.length≤d.wait.length+1∧(Ad d n b).armed≤d.armed:=by
 unfold Ad;split
 ·exact⟨rfl,Nat.le_succ _,br _⟩
 ·split
  ·exact⟨rfl,Nat.le_succ _,br _⟩
  ·obtain⟨a,e,-,c⟩:=Sc (Z5s d n.toNat (Ek b));rw[a,e];exact⟨by show(d.now.set _ _).length=_;rw[bh],by show(d.wait++[_]).length≤_;simp,c⟩
theorem K3 (d:RD):(Aa d).now.length=d.now.length∧(Aa d).wait.length≤d.wait.length∧(Aa d).armed≤d.armed:=by
 obtain⟨a,c,-,b⟩:=Sc d;unfold Aa;split
 ·exact⟨rfl,af _,br _⟩
 ·split
  ·rw[a,c];exact⟨rfl,af _,b⟩
  ·exact⟨by show(Bt d).now.length=_;rw[a],ah _,b⟩
theorem Ei (f:Nat)(b:Bs)(n:Nat)(a:List Nat)(d:RD):runW f b (n::a) d=if Bg d ((f+n:Nat):Int) (chB b n)=0 then runW f b a (Ad d ((f+n:Nat):Int) (chB b n)) else(Ad d ((f+n:Nat):Int) (chB b n),false):=rfl
structure WrI (l:LD)(f:Nat)(b:Bs)(n0 k:Nat)(x:Nat × RD):Prop where
 le:x.1≤k
 run:runW f b (List.range' n0 k) l.d=runW f b (List.range' (n0+x.1) (k - x.1)) x.2
 wd:WD x.2
 len:x.2.now.length=l.d.now.length
 wait:x.2.wait.length≤l.d.wait.length+x.1
 armed:x.2.armed≤9223372036854775807
theorem Z3k (l:LD)(e:Nat)(M:WD l.d)(U:1100≤l.d.now.length)(ha:l.d.armed≤9223372036854775807)(Z:l.d.wait.length≤100000)(hd:l.dead=false){h:Nat}(P:h < 2)(b:Bs)(hb:b.length≤35136)(frm:Nat)(hf:frm≤b.length):FnO Tryz.prog 143 [.ptr 0 0,gI h,.sl (b.map gBy),gI frm] (cL l e) fun g rs=>g=gI (if wrE l h b frm=true then 0 else 40)∧rs=cL (wrL l h b frm) e:=by
 refine Bq Tryz.func143 (A6 (O:=oLs l e) (n0:=4) rfl) ?_;have C:((frm:Nat):Int).tdiv 64=((frm / 64:Nat):Int):=rfl;refine⟨by decide,?_⟩;refine⟨by rw[C];omega,?_⟩;obtain⟨n0,p⟩:∃n0,n0=frm / 64:=⟨_,rfl⟩;obtain⟨k,J⟩:∃k,k=(b.length+63) / 64 - frm / 64:=⟨_,rfl⟩;have o:(((b.map gBy).length:Nat):Int)=b.length:=by rw[aa]
 refine As [0,1,2] [0,2,3] (fun x:Nat × RD=>[(9,gI ((n0+x.1:Nat):Int))]) (fun x=>[(1,.abs (cl (oDs x.2)))]) (WrI l (Cw h) b n0 k) (fun x=>k - x.1) (0,l.d) ⟨ah _,rfl,M,rfl,af _,ha⟩ ⟨⟨rfl,by rw[p];rfl⟩,trivial⟩ ⟨RL1,trivial⟩ rfl fun⟨i,d⟩ hI=>?_;refine⟨by have:=hI.le;dsimp only at this⊢;omega,?_⟩;refine dg (fun y=>?_) fun F=>?_
 ·dsimp only at y;rw[o] at y;have v:=hI.le;have B:=hI.wait;have E:=hI.len;have a:=hI.run;dsimp only at v B E a;have t:i < k:=by omega
  obtain⟨n,Q⟩:∃n,n=n0+i:=⟨_,rfl⟩;rw[←Q] at y a⊢;have R:n * 64 < b.length:=by omega
  have K:n < 549:=by omega
  rw[show k - i=(k - (i+1))+1 by omega,List.range'_succ] at a;have w:-9223372036854775808≤((n:Nat):Int) * 64∧((n:Nat):Int) * 64≤9223372036854775807:=by omega
  have m:-9223372036854775808≤((n:Nat):Int)+1∧((n:Nat):Int)+1≤9223372036854775807:=by omega
  have u:-9223372036854775808≤(((n:Nat):Int)+1) * 64∧(((n:Nat):Int)+1) * 64≤9223372036854775807:=by omega
  have Y:∀r∈b.map gBy,r.length=1:=fun r hr=>by obtain⟨x,-,rfl⟩:=ba.1 hr;rfl
  refine⟨w,m,u,⟨by omega,by rw[o];omega,by rw[o];omega⟩,⟨Y,?_⟩⟩;have S:Es (b.map gBy) (((n:Nat):Int) * 64).toNat (min (((b.map gBy).length:Nat):Int) ((((n:Nat):Int)+1) * 64)).toNat=(chB b n).map gBy:=by
   rw[o];unfold chB;show((b.map gBy).take _).drop _=_;rw[cw,List.map_drop,List.drop_take,show(((n:Nat):Int) * 64).toNat=n * 64 by omega];by_cases h2:b.length≤(n+1) * 64
   ·rw[ap (by simp;omega),ap (by simp;omega)]
   ·congr 1;omega
  obtain⟨f,A⟩:∃f:Int,f=((Cw h:Nat):Int)+((n:Nat):Int):=⟨_,rfl⟩;have D:f=((Cw h+n:Nat):Int):=by rw[A];omega
  have V:Cw h≤551:=by unfold Cw;omega
  have j:-9223372036854775808≤((Cw h:Nat):Int)+((n:Nat):Int)∧((Cw h:Nat):Int)+((n:Nat):Int)≤9223372036854775807:=by omega
  have G:=Z1e d hI.wd hI.armed (by omega) f (chB b n);rw[←S] at G;obtain⟨N,X,W⟩:=Ez d f (chB b n);by_cases I:Bg d f (chB b n)=0
  ·rw[I] at G;have c:runW (Cw h) b (List.range' n0 k) l.d=runW (Cw h) b (List.range' (n0+(i+1)) (k - (i+1))) (Ad d f (chB b n)):=by
    rw[a,Ei,←D,dc I,Q,cv]
   refine⟨?_,?_⟩
   all_goals
    refine di ((Ux l _ P).cal fun q rs s=>?_);obtain⟨rfl,rfl⟩:=s;refine⟨j,?_⟩;rw[←A];refine di (G.cal fun q rs s=>?_);obtain⟨rfl,rfl⟩:=s;refine di ((Im l _ hd).cal fun q rs s=>?_);obtain⟨rfl,rfl⟩:=s;refine dj (fun h=>de rfl h) fun _=>?_;refine⟨m,(i+1,Ad d f (chB b n)),⟨t,c,K6 hI.wd _ _,N.trans E,by dsimp only;omega,by have:=hI.armed;dsimp only at this⊢;omega⟩,(by dsimp only;omega),?_⟩;refine⟨?_,?_,rfl⟩<;>repeat' (first|exact trivial|with_reducible rfl|exact rfl|refine And.intro ?_ ?_)
    exact congrArg (fun z=>some (gI z)) (by omega)
  ·have c:runW (Cw h) b (List.range' n0 k) l.d=(Ad d f (chB b n),false):=by
    rw[a];unfold runW;rw[←D,db I]
   have H:wrL l h b frm={l with d:=Ad d f (chB b n),dead:=true}:=by unfold wrL nsW;rw[←J,←p,c];rfl
   have L:wrE l h b frm=false:=by unfold wrE nsW;rw[←J,←p,c]
   refine⟨?_,?_⟩
   all_goals
    refine di ((Ux l _ P).cal fun q rs s=>?_);obtain⟨rfl,rfl⟩:=s;refine⟨j,?_⟩;rw[←A];refine di (G.cal fun q rs s=>?_);obtain⟨rfl,rfl⟩:=s;refine di ((Ih l _ I).cal fun q rs s=>?_);obtain⟨rfl,rfl⟩:=s;refine dj (fun _=>?_) fun h=>de h (by decide);exact .inl (A1 (oLs {l with d:=Ad d f (chB b n),dead:=true} e) [] (by exact RL4) rfl ⟨_,rfl⟩ rfl rfl ⟨by rw[L];rfl,by rw[H]⟩)
 ·dsimp only at F;rw[o] at F;have v:=hI.le;have a:=hI.run;dsimp only at v a;have t:k - i=0:=by omega
  rw[t] at a;have a:runW (Cw h) b (List.range' n0 k) l.d=(d,true):=a;have H:wrL l h b frm={l with d:=d,dead:=false}:=by unfold wrL nsW;rw[←J,←p,a];rfl
  have L:wrE l h b frm=true:=by unfold wrE nsW;rw[←J,←p,a]
  have T:{l with d:=d,dead:=false}={l with d:=d}:=by cases l;dsimp only at hd;subst hd;rfl
  rw[T] at H;exact .inl (A1 (oLs {l with d:=d} e) [] (by exact RL4) rfl ⟨_,rfl⟩ rfl rfl ⟨by rw[L];rfl,by rw[H]⟩)
structure WA (l:LD):Prop where
 d:WD l.d
 many:1100≤l.d.now.length
 armed:l.d.armed≤9223372036854775807
 wait:l.d.wait.length≤95000
 half:l.half < 2
 len:l.b.length≤35136
 all:l.all.length≤100000
 mark:l.mark≤1000000000
theorem Dx (s:ByteArray):(frB s).length=s.size+4:=by unfold frB;simp
theorem Oq (l:LD)(e:Nat)(h:WA l)(s:ByteArray)(u:s.size≤1000000):FnO Tryz.prog 130 [.ptr 0 0,.v (.string s)] (cL l e) fun g rs=>g=gI (Eb l s)∧rs=cL (Bj l s) e:=by
 refine Bq Tryz.func130 (A6 (O:=oLs l e) (n0:=4) rfl) ?_;refine dk (fun hd=>?_) fun hd=>?_
 ·exact .inl (A1 (oLs l e) [] (by exact RL4) rfl ⟨_,rfl⟩ rfl rfl ⟨by unfold Eb;rw[dc hd];rfl,by unfold Bj;rw[dc hd]⟩)
 have f:Eb l s=if s.size > 4096 then 52 else if(s.size:Int) > Fa l then 51 else if wrE l l.half (l.b++frB s) l.b.length=true then 0 else 40:=by unfold Eb;rw[db (by rw[hd];decide)]
 have a:Bj l s=if s.size > 4096 then l else if(s.size:Int) > Fa l then l else if wrE l l.half (l.b++frB s) l.b.length=true then {wrL l l.half (l.b++frB s) l.b.length with b:=l.b++frB s,all:=l.all++[s]} else wrL l l.half (l.b++frB s) l.b.length:=by unfold Bj;rw[db (by rw[hd];decide)]
 refine dg (fun t=>?_) fun t=>?_
 ·exact .inl (A1 (oLs l e) [] (by exact RL4) rfl ⟨_,rfl⟩ rfl rfl ⟨by rw[f,dc (by omega)];rfl,by rw[a,dc (by omega)]⟩)
 rw[db (by omega)] at f a;have p:=h.len;refine di ((Zep l _ (by omega)).cal fun q rs c=>?_);obtain⟨rfl,rfl⟩:=c;refine dg (fun j=>?_) fun j=>?_
 ·exact .inl (A1 (oLs l e) [] (by exact RL4) rfl ⟨_,rfl⟩ rfl rfl ⟨by rw[f,dc j];rfl,by rw[a,dc j]⟩)
 rw[db j] at f a;have m:l.b.length+s.size+4≤35136:=by unfold Fa at j;omega
 have o:=h.all;refine(Zdh l.b (by omega)).cal fun q rs c=>?_;obtain⟨rfl,rfl⟩:=c;refine di ((Xt l.b (by omega) s u).cal fun q rs c=>?_);obtain⟨rfl,rfl⟩:=c;have k:(l.b++frB s).length≤35136:=by rw[ax,Dx];omega
 have i:=Z3k l e h.d h.many h.armed (by have:=h.wait;omega) hd h.half (l.b++frB s) k l.b.length (by rw[ax];omega);have n:(((l.b.map gBy).length:Nat):Int)=l.b.length:=by rw[aa]
 rw[←n] at i;cases hE:wrE l l.half (l.b++frB s) l.b.length with
 | true =>
  rw[hE] at i f a;obtain⟨X,r⟩:∃X,X=(runW (Cw l.half) (l.b++frB s) (nsW (l.b++frB s) l.b.length) l.d).1:=⟨_,rfl⟩;have w:wrL l l.half (l.b++frB s) l.b.length={l with d:=X}:=by unfold wrE at hE;unfold wrL;rw[hE,r];cases l;dsimp only at hd;subst hd;rfl
  rw[w] at i a;refine dh (.close (oLs l e) [] (by exact RL4) ⟨_,rfl⟩ rfl (.frz 5 _ _ _ rfl (.done (.see (.same (i.cal fun q rs c=>?_))))));obtain⟨rfl,rfl⟩:=c;refine .opn 0 _ _ _ rfl rfl rfl (.done ?_);refine dj (fun h=>de rfl h) fun _=>?_;refine⟨by rw[aa];show l.all.length+1≤_;omega,?_⟩;exact .inl (A1 (oLs {l with d:=X,b:=l.b++frB s,all:=l.all++[s]} e) [(1,6),(2,10),(3,8)] ⟨RL1,RL1,⟨rfl,rfl,eqR (by rw[ao];rfl)⟩,RL1,trivial⟩ rfl ⟨_,rfl⟩ rfl rfl ⟨by rw[f];rfl,by rw[a];rfl⟩)
 | false =>
  rw[hE] at i f a;refine dh (.close (oLs l e) [] (by exact RL4) ⟨_,rfl⟩ rfl (.frz 5 _ _ _ rfl (.done (.see (.same (i.cal fun q rs c=>?_))))));obtain⟨rfl,rfl⟩:=c;refine .opn 0 _ _ _ rfl rfl rfl (.done ?_);refine dj (fun _=>?_) fun h=>de h (by decide);exact .inl (A1 (oLs (wrL l l.half (l.b++frB s) l.b.length) e) [(1,6),(2,7),(3,8)] (by exact RL4) rfl ⟨_,rfl⟩ rfl rfl ⟨by rw[f];rfl,by rw[a];rfl⟩)
end Go.Proofs.YtihfaocdpmmooaaGreat
