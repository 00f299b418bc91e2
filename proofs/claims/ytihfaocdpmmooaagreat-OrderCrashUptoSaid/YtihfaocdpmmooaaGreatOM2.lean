
import Derived.Test.YtihfaocdpmmooaaGreatOM1
namespace Go.Proofs.YtihfaocdpmmooaaGreat
open Go.RowKit
set_option maxRecDepth 100000
theorem Zb9 {n:Nat}(h:n < 2 ^ 64):IntKind.wrap .u64 (n:Int)=n:=by simp only[IntKind.wrap,IntKind.bits,IntKind.signed,Bool.false_and,if_false,Bool.false_eq_true];omega
def Zc3 (m hf a:Nat):List (List G):=(be8 (m:Int)).map gBy++[[G.v (.int .u8 ((hf:Int) % 256))],[G.v (.int .u8 (((a:Int).fdiv (2 ^ min (Int.toNat 24) 64)) % 256))],[G.v (.int .u8 (((a:Int).fdiv (2 ^ min (Int.toNat 16) 64)) % 256))],[G.v (.int .u8 (((a:Int).fdiv (2 ^ min (Int.toNat 8) 64)) % 256))],[G.v (.int .u8 ((a:Int) % 256))]]++List.replicate 43 [G.v (.int .u8 0)]++(be8 (m:Int)).map gBy
theorem Z88 (m b:Nat){hf:Nat}(d:hf < 2):Zc3 m hf b=(Am m hf b).map gBy:=by
 have c:[G.v (.int .u8 ((hf:Int) % 256))]=gBy (UInt8.ofNat hf):=by
  unfold gBy;have:(UInt8.ofNat hf).toNat=hf:=by rw[UInt8.toNat_ofNat'];omega
  rw[this,Int.emod_eq_of_lt (by omega) (by omega)]
 have a:∀n:Int,[G.v (.int .u8 (n % 256))]=gBy (byI n):=fun n=>by unfold gBy;rw[Cy]
 unfold Zc3 Am;rw[Fh _ 16777216 (Int.toNat 24) 24 rfl rfl (by decide),Fh _ 65536 (Int.toNat 16) 16 rfl rfl (by decide),Fh _ 256 (Int.toNat 8) 8 rfl rfl (by decide),c,a,a,a,a];simp only[List.map_append,List.map_cons,List.map_replicate,List.append_assoc,List.cons_append,List.nil_append];rfl
set_option maxHeartbeats 8000000 in
theorem Zaw (l:LD)(e:Nat)(h:WA l)(hd:l.dead=false){hf:Nat}(y:hf < 2)(c:Nat)(_hfm:c≤35136):FnO Tryz.prog 144 [.ptr 0 0,gI hf,gI c] (cL l e) fun g rs=>g=gI (D7 l hf c)∧rs=cL (Ah l hf c) e:=by
 refine Bq Tryz.func144 (A6 (O:=oLs l e) (n0:=4) rfl) ?_;have w:=Zb1 l.d h.d h.armed (by have:=h.wait;omega);by_cases t:Ct l.d=0
 ·rw[t] at w;refine di (w.cal fun q rs i=>?_);obtain⟨rfl,rfl⟩:=i;refine di ((Im l _ hd).cal fun q rs i=>?_);obtain⟨rfl,rfl⟩:=i;refine dj (fun h=>de rfl h) fun _=>?_;have eM:IntKind.wrap .u64 ((l.mark:Int)+1)=((l.mark+1:Nat):Int):=by
   have:=h.mark;rw[show(l.mark:Int)+1=((l.mark+1:Nat):Int) by omega];exact Zb9 (by omega)
  have u:=Zkk (l.mark+1);have eT:(IntKind.wrap .u64 ((l.mark:Int)+1)).tmod 2=(((l.mark+1) % 2:Nat):Int):=by rw[eM];rfl
  have A:0+(IntKind.wrap .u64 ((l.mark:Int)+1)).tmod 2=(((l.mark+1) % 2:Nat):Int):=by rw[eT];omega
  obtain⟨B,C,D⟩:=K3 l.d;have s:=Z1e (Aa l.d) (Lo h.d) (by have:=h.armed;omega) (by have:=h.wait;omega) (((l.mark+1) % 2:Nat):Int) (Am (l.mark+1) hf c);rw[←Z88 _ _ y] at s;have s:FnO Tryz.prog 19 [.ptr 0 0,gI (0+(IntKind.wrap .u64 ((l.mark:Int)+1)).tmod 2),.sl (Zc3 (l.mark+1) hf c)] (cD (Aa l.d)) fun g rs=>g=gI (Bg (Aa l.d) (((l.mark+1) % 2:Nat):Int) (Am (l.mark+1) hf c))∧rs=cD (Ad (Aa l.d) (((l.mark+1) % 2:Nat):Int) (Am (l.mark+1) hf c)):=by rw[A];exact s
  have k:=Zb1 (Ad (Aa l.d) (((l.mark+1) % 2:Nat):Int) (Am (l.mark+1) hf c)) (K6 (Lo h.d) _ _) (by have:=h.armed;have:=(Ez (Aa l.d) (((l.mark+1) % 2:Nat):Int) (Am (l.mark+1) hf c)).2.2;omega) (by have:=h.wait;have:=(Ez (Aa l.d) (((l.mark+1) % 2:Nat):Int) (Am (l.mark+1) hf c)).2.1;omega);have r:¬Bg (Aa l.d) (((l.mark+1) % 2:Nat):Int) (Am (l.mark+1) hf c)=0→Ah l hf c=Gr l (Ad (Aa l.d) (((l.mark+1) % 2:Nat):Int) (Am (l.mark+1) hf c)):=fun f=>by unfold Ah;rw[db (fun h=>h t),dc f]
  have p:Bg (Aa l.d) (((l.mark+1) % 2:Nat):Int) (Am (l.mark+1) hf c)=0→¬Ct (Ad (Aa l.d) (((l.mark+1) % 2:Nat):Int) (Am (l.mark+1) hf c))=0→Ah l hf c=Gr l (Aa (Ad (Aa l.d) (((l.mark+1) % 2:Nat):Int) (Am (l.mark+1) hf c))):=fun f j=>by unfold Ah;rw[db (fun h=>h t),db (fun h=>h f),dc j]
  have eS:Bg (Aa l.d) (((l.mark+1) % 2:Nat):Int) (Am (l.mark+1) hf c)=0→Ct (Ad (Aa l.d) (((l.mark+1) % 2:Nat):Int) (Am (l.mark+1) hf c))=0→Ah l hf c={l with mark:=l.mark+1,half:=hf,firm:=c,d:=Aa (Ad (Aa l.d) (((l.mark+1) % 2:Nat):Int) (Am (l.mark+1) hf c))}:=fun f j=>by unfold Ah;rw[db (fun h=>h t),db (fun h=>h f),db (fun h=>h j)]
  have eD:Bg (Aa l.d) (((l.mark+1) % 2:Nat):Int) (Am (l.mark+1) hf c)=0→Ct (Ad (Aa l.d) (((l.mark+1) % 2:Nat):Int) (Am (l.mark+1) hf c))=0→some (R.blk [.ptr 1 0,gI 0,gI 549,.v (.int .u64 (IntKind.wrap .u64 ((l.mark:Int)+1))),gI hf,gI c,.sl (l.b.map gBy),.osl 2,.v (.bool l.dead)] tLg)=some (.blk (C4 (Ah l hf c) (.ptr 1 0) (.osl 2)) tLg):=fun f j=>by rw[eS f j,eM]
  have n:Bg (Aa l.d) (((l.mark+1) % 2:Nat):Int) (Am (l.mark+1) hf c)=0→Ct (Ad (Aa l.d) (((l.mark+1) % 2:Nat):Int) (Am (l.mark+1) hf c))=0→some (R.abs (cl (oDs (Aa (Ad (Aa l.d) (((l.mark+1) % 2:Nat):Int) (Am (l.mark+1) hf c))))))=some (.abs (cl (oDs (Ah l hf c).d))):=fun f j=>by rw[eS f j]
  have o:Bg (Aa l.d) (((l.mark+1) % 2:Nat):Int) (Am (l.mark+1) hf c)=0→Ct (Ad (Aa l.d) (((l.mark+1) % 2:Nat):Int) (Am (l.mark+1) hf c))=0→some (R.slc (l.all.map gSt) 9 1)=some (.slc ((Ah l hf c).all.map gSt) 9 1):=fun f j=>by rw[eS f j]
  have m:Bg (Aa l.d) (((l.mark+1) % 2:Nat):Int) (Am (l.mark+1) hf c)=0→Ct (Ad (Aa l.d) (((l.mark+1) % 2:Nat):Int) (Am (l.mark+1) hf c))=0→D7 l hf c=0:=fun f j=>by unfold D7;rw[eS f j];dsimp only;rw[hd];rfl
  refine((show FnV Tryz.prog 152 [.v (.int .u64 (IntKind.wrap .u64 ((l.mark:Int)+1)))] _ from by rw[eM];exact u).cal fun q i=>?_);subst i;refine⟨?_,?_⟩
  all_goals
   refine⟨⟨rfl,fun g z=>Zl5 z⟩,?_⟩;refine⟨by decide,?_⟩;refine⟨⟨(show(8:Nat) < 64 from by decide),rfl⟩,?_⟩;refine⟨rfl,?_⟩;refine⟨⟨by decide,by decide,by decide⟩,?_⟩;refine⟨by decide,by decide,by decide,?_⟩;refine⟨?_,?_⟩
  ·refine⟨rfl,⟨by decide,by decide,by decide⟩,⟨rfl,?_⟩⟩;refine⟨by decide,?_⟩;refine⟨by rw[eT];omega,?_⟩;refine⟨by rw[eT];omega,?_⟩;refine⟨rfl,?_⟩;refine s.cal fun q rs i=>?_;obtain⟨rfl,rfl⟩:=i;by_cases f:Bg (Aa l.d) (((l.mark+1) % 2:Nat):Int) (Am (l.mark+1) hf c)=0
   ·rw[f];refine di ((Im l _ hd).cal fun q rs i=>?_);obtain⟨rfl,rfl⟩:=i;refine dj (fun h=>de rfl h) fun _=>?_;refine di (k.cal fun q rs i=>?_);obtain⟨rfl,rfl⟩:=i;by_cases a:Ct (Ad (Aa l.d) (((l.mark+1) % 2:Nat):Int) (Am (l.mark+1) hf c))=0
    ·rw[a];refine di ((Im l _ hd).cal fun q rs i=>?_);obtain⟨rfl,rfl⟩:=i;refine dj (fun h=>de rfl h) fun _=>?_;exact .inl (A1 (oLs (Ah l hf c) e) [] ⟨⟨rfl,rfl,eD f a⟩,⟨rfl,rfl,n f a⟩,⟨rfl,rfl,o f a⟩,RL1,trivial⟩ rfl ⟨_,rfl⟩ rfl rfl ⟨by rw[m f a];rfl,rfl⟩)
    ·refine di ((Ih l _ a).cal fun q rs i=>?_);obtain⟨rfl,rfl⟩:=i;refine dj (fun _=>?_) fun h=>de h (by decide);exact .inl (A1 (oLs (Gr l (Aa (Ad (Aa l.d) (((l.mark+1) % 2:Nat):Int) (Am (l.mark+1) hf c)))) e) [] (by exact RL4) rfl ⟨_,rfl⟩ rfl rfl ⟨by unfold D7;rw[p f a];rfl,by rw[p f a]⟩)
   ·refine di ((Ih l _ f).cal fun q rs i=>?_);obtain⟨rfl,rfl⟩:=i;refine dj (fun _=>?_) fun h=>de h (by decide);exact .inl (A1 (oLs (Gr l (Ad (Aa l.d) (((l.mark+1) % 2:Nat):Int) (Am (l.mark+1) hf c))) e) [] (by exact RL4) rfl ⟨_,rfl⟩ rfl rfl ⟨by unfold D7;rw[r f];rfl,by rw[r f]⟩)
  ·refine⟨rfl,⟨rfl,⟨by decide,by decide,by decide⟩,?_⟩⟩;refine⟨by decide,?_⟩;refine⟨by rw[eT];omega,?_⟩;refine⟨by rw[eT];omega,?_⟩;refine⟨rfl,?_⟩;refine s.cal fun q rs i=>?_;obtain⟨rfl,rfl⟩:=i;by_cases f:Bg (Aa l.d) (((l.mark+1) % 2:Nat):Int) (Am (l.mark+1) hf c)=0
   ·rw[f];refine di ((Im l _ hd).cal fun q rs i=>?_);obtain⟨rfl,rfl⟩:=i;refine dj (fun h=>de rfl h) fun _=>?_;refine di (k.cal fun q rs i=>?_);obtain⟨rfl,rfl⟩:=i;by_cases a:Ct (Ad (Aa l.d) (((l.mark+1) % 2:Nat):Int) (Am (l.mark+1) hf c))=0
    ·rw[a];refine di ((Im l _ hd).cal fun q rs i=>?_);obtain⟨rfl,rfl⟩:=i;refine dj (fun h=>de rfl h) fun _=>?_;exact .inl (A1 (oLs (Ah l hf c) e) [] ⟨⟨rfl,rfl,eD f a⟩,⟨rfl,rfl,n f a⟩,⟨rfl,rfl,o f a⟩,RL1,trivial⟩ rfl ⟨_,rfl⟩ rfl rfl ⟨by rw[m f a];rfl,rfl⟩)
    ·refine di ((Ih l _ a).cal fun q rs i=>?_);obtain⟨rfl,rfl⟩:=i;refine dj (fun _=>?_) fun h=>de h (by decide);exact .inl (A1 (oLs (Gr l (Aa (Ad (Aa l.d) (((l.mark+1) % 2:Nat):Int) (Am (l.mark+1) hf c)))) e) [] (by exact RL4) rfl ⟨_,rfl⟩ rfl rfl ⟨by unfold D7;rw[p f a];rfl,by rw[p f a]⟩)
   ·refine di ((Ih l _ f).cal fun q rs i=>?_);obtain⟨rfl,rfl⟩:=i;refine dj (fun _=>?_) fun h=>de h (by decide);exact .inl (A1 (oLs (Gr l (Ad (Aa l.d) (((l.mark+1) % 2:Nat):Int) (Am (l.mark+1) hf c))) e) [] (by exact RL4) rfl ⟨_,rfl⟩ rfl rfl ⟨by unfold D7;rw[r f];rfl,by rw[r f]⟩)
  ·refine⟨rfl,⟨by decide,by decide,by decide⟩,⟨rfl,?_⟩⟩;refine⟨by decide,?_⟩;refine⟨by rw[eT];omega,?_⟩;refine⟨by rw[eT];omega,?_⟩;refine⟨rfl,?_⟩;refine s.cal fun q rs i=>?_;obtain⟨rfl,rfl⟩:=i;by_cases f:Bg (Aa l.d) (((l.mark+1) % 2:Nat):Int) (Am (l.mark+1) hf c)=0
   ·rw[f];refine di ((Im l _ hd).cal fun q rs i=>?_);obtain⟨rfl,rfl⟩:=i;refine dj (fun h=>de rfl h) fun _=>?_;refine di (k.cal fun q rs i=>?_);obtain⟨rfl,rfl⟩:=i;by_cases a:Ct (Ad (Aa l.d) (((l.mark+1) % 2:Nat):Int) (Am (l.mark+1) hf c))=0
    ·rw[a];refine di ((Im l _ hd).cal fun q rs i=>?_);obtain⟨rfl,rfl⟩:=i;refine dj (fun h=>de rfl h) fun _=>?_;exact .inl (A1 (oLs (Ah l hf c) e) [] ⟨⟨rfl,rfl,eD f a⟩,⟨rfl,rfl,n f a⟩,⟨rfl,rfl,o f a⟩,RL1,trivial⟩ rfl ⟨_,rfl⟩ rfl rfl ⟨by rw[m f a];rfl,rfl⟩)
    ·refine di ((Ih l _ a).cal fun q rs i=>?_);obtain⟨rfl,rfl⟩:=i;refine dj (fun _=>?_) fun h=>de h (by decide);exact .inl (A1 (oLs (Gr l (Aa (Ad (Aa l.d) (((l.mark+1) % 2:Nat):Int) (Am (l.mark+1) hf c)))) e) [] (by exact RL4) rfl ⟨_,rfl⟩ rfl rfl ⟨by unfold D7;rw[p f a];rfl,by rw[p f a]⟩)
   ·refine di ((Ih l _ f).cal fun q rs i=>?_);obtain⟨rfl,rfl⟩:=i;refine dj (fun _=>?_) fun h=>de h (by decide);exact .inl (A1 (oLs (Gr l (Ad (Aa l.d) (((l.mark+1) % 2:Nat):Int) (Am (l.mark+1) hf c))) e) [] (by exact RL4) rfl ⟨_,rfl⟩ rfl rfl ⟨by unfold D7;rw[r f];rfl,by rw[r f]⟩)
  ·refine⟨rfl,⟨rfl,⟨by decide,by decide,by decide⟩,?_⟩⟩;refine⟨by decide,?_⟩;refine⟨by rw[eT];omega,?_⟩;refine⟨by rw[eT];omega,?_⟩;refine⟨rfl,?_⟩;refine s.cal fun q rs i=>?_;obtain⟨rfl,rfl⟩:=i;by_cases f:Bg (Aa l.d) (((l.mark+1) % 2:Nat):Int) (Am (l.mark+1) hf c)=0
   ·rw[f];refine di ((Im l _ hd).cal fun q rs i=>?_);obtain⟨rfl,rfl⟩:=i;refine dj (fun h=>de rfl h) fun _=>?_;refine di (k.cal fun q rs i=>?_);obtain⟨rfl,rfl⟩:=i;by_cases a:Ct (Ad (Aa l.d) (((l.mark+1) % 2:Nat):Int) (Am (l.mark+1) hf c))=0
    ·rw[a];refine di ((Im l _ hd).cal fun q rs i=>?_);obtain⟨rfl,rfl⟩:=i;refine dj (fun h=>de rfl h) fun _=>?_;exact .inl (A1 (oLs (Ah l hf c) e) [] ⟨⟨rfl,rfl,eD f a⟩,⟨rfl,rfl,n f a⟩,⟨rfl,rfl,o f a⟩,RL1,trivial⟩ rfl ⟨_,rfl⟩ rfl rfl ⟨by rw[m f a];rfl,rfl⟩)
    ·refine di ((Ih l _ a).cal fun q rs i=>?_);obtain⟨rfl,rfl⟩:=i;refine dj (fun _=>?_) fun h=>de h (by decide);exact .inl (A1 (oLs (Gr l (Aa (Ad (Aa l.d) (((l.mark+1) % 2:Nat):Int) (Am (l.mark+1) hf c)))) e) [] (by exact RL4) rfl ⟨_,rfl⟩ rfl rfl ⟨by unfold D7;rw[p f a];rfl,by rw[p f a]⟩)
   ·refine di ((Ih l _ f).cal fun q rs i=>?_);obtain⟨rfl,rfl⟩:=i;refine dj (fun _=>?_) fun h=>de h (by decide);exact .inl (A1 (oLs (Gr l (Ad (Aa l.d) (((l.mark+1) % 2:Nat):Int) (Am (l.mark+1) hf c))) e) [] (by exact RL4) rfl ⟨_,rfl⟩ rfl rfl ⟨by unfold D7;rw[r f];rfl,by rw[r f]⟩)
 ·refine di (w.cal fun q rs i=>?_);obtain⟨rfl,rfl⟩:=i;refine di ((Ih l _ t).cal fun q rs i=>?_);obtain⟨rfl,rfl⟩:=i;refine dj (fun _=>?_) fun h=>de h (by decide);have x:Ah l hf c=Gr l (Aa l.d):=by unfold Ah;rw[dc t]
  exact .inl (A1 (oLs (Gr l (Aa l.d)) e) [] (by exact RL4) rfl ⟨_,rfl⟩ rfl rfl ⟨by unfold D7;rw[x];rfl,by rw[x]⟩)
theorem Z48 (l:LD)(e:Nat)(h:WA l):FnO Tryz.prog 134 [.ptr 0 0] (cL l e) fun g rs=>g=gI (N9 l)∧rs=cL (Ic l) e:=by
 refine Bq Tryz.func134 (A6 (O:=oLs l e) (n0:=4) rfl) ?_;refine dk (fun hd=>?_) fun hd=>?_
 ·exact .inl (A1 (oLs l e) [] (by exact RL4) rfl ⟨_,rfl⟩ rfl rfl ⟨by unfold N9;rw[dc hd];rfl,by unfold Ic;rw[dc hd]⟩)
 have a:(((l.b.map gBy).length:Nat):Int)=l.b.length:=by rw[aa]
 have c:=Zaw l e h hd h.half l.b.length h.len;rw[←a] at c;refine dh (.close (oLs l e) [] (by exact RL4) ⟨_,rfl⟩ rfl (.done (.same (c.cal fun q rs d=>?_))));obtain⟨rfl,rfl⟩:=d;refine .done ?_;exact .inl (A7 rfl rfl ⟨by unfold N9;rw[db (by rw[hd];decide)],by unfold Ic;rw[db (by rw[hd];decide)]⟩)
theorem Na (l:List ByteArray)(s:ByteArray):Ak (l++[s])=Ak l++frB s:=by unfold Ak;rw[List.flatMap_append];simp
theorem W8:∀(l:List ByteArray),(∀s∈l,s.size≤4096)→(Ak l).length≤4100 * l.length
 | [],_=>by simp[Ak]
 | s::l,h=>by have c:=W8 l fun x a=>h x (by simp[a]);have b:=h s (by simp);unfold Ak at *;rw[List.flatMap_cons,ax,Dx,bd];omega
theorem Ey (f:Nat)(b:Bs):∀(a:List Nat) (d:RD),WD d→WD (runW f b a d).1∧(runW f b a d).1.now.length=d.now.length∧(runW f b a d).1.wait.length≤d.wait.length+a.length∧(runW f b a d).1.armed≤d.armed
 | [],d,h=>⟨h,rfl,af _,br _⟩
 | n::a,d,h=>by
  obtain⟨g,m,i⟩:=Ez d ((f+n:Nat):Int) (chB b n);have c:=K6 h ((f+n:Nat):Int) (chB b n);rw[Ei];split
  ·obtain⟨e,j,k,l⟩:=Ey f b a _ c;refine⟨e,by omega,?_,by omega⟩;rw[bd];omega
  ·refine⟨c,g,?_,i⟩;rw[bd];show(Ad d _ _).wait.length≤_;omega
theorem Te (b:Bs)(frm:Nat)(a:b.length≤35136):(nsW b frm).length≤549:=by unfold nsW;rw[List.length_range'];omega
theorem Za7 {l:LD}(h:WA l)(c:l.d.wait.length≤90000)(half:Nat)(b:Bs)(frm:Nat)(a:b.length≤35136):WA (wrL l half b frm):=by obtain⟨e,k,i,m⟩:=Ey (Cw half) b (nsW b frm) l.d h.d;have g:=Te b frm a;have j:=h.many;have f:=h.armed;exact⟨e,by show 1100≤(runW _ _ _ _).1.now.length;omega,by show(runW _ _ _ _).1.armed≤_;omega,by show(runW _ _ _ _).1.wait.length≤_;omega,h.half,h.len,h.all,h.mark⟩
theorem Hk (l:LD)(e:Nat)(h:WA l)(z:l.d.wait.length≤90000)(all:List ByteArray)(ha:all.length≤200)(o:∀s∈all,s.size≤1000000):FnO Tryz.prog 132 [.ptr 0 0,.sl (all.map gSt)] (cL l e) fun g rs=>g=gI (Id l all)∧rs=cL (Eo l all) e:=by
 refine Bq Tryz.func132 (A6 (O:=oLs l e) (n0:=4) rfl) ?_;refine dk (fun hd=>?_) fun hd=>?_
 ·exact .inl (A1 (oLs l e) [] (by exact RL4) rfl ⟨_,rfl⟩ rfl rfl ⟨by unfold Id;rw[dc hd];rfl,by unfold Eo;rw[dc hd]⟩)
 have j:Id l all=if Nh all≠0 then Nh all else if wrE l (1 - l.half) (Ak all) 0=true then D7 (wrL l (1 - l.half) (Ak all) 0) (1 - l.half) (Ak all).length else 40:=by unfold Id;rw[db (by rw[hd];decide)]
 have f:Eo l all=if Nh all≠0 then l else if wrE l (1 - l.half) (Ak all) 0=true then
  (if(Ah (wrL l (1 - l.half) (Ak all) 0) (1 - l.half) (Ak all).length).dead=true then Ah (wrL l (1 - l.half) (Ak all) 0) (1 - l.half) (Ak all).length
   else {Ah (wrL l (1 - l.half) (Ak all) 0) (1 - l.half) (Ak all).length with b:=Ak all,all:=all})
  else wrL l (1 - l.half) (Ak all) 0:=by unfold Eo;rw[db (by rw[hd];decide)]
 refine As [0,1,12,13] [0,1,2,3] (fun i:Nat=>[(14,gI i),(5,.osl 4)]) (fun i=>[(4,.slc ((Ak (all.take i)).map gBy) 5 1)]) (fun i=>i≤all.length∧∀s∈all.take i,s.size≤4096) (fun i=>all.length - i) 0 ⟨ah _,fun s m=>by simp at m⟩ ⟨⟨rfl,rfl⟩,⟨rfl,rfl⟩,trivial⟩ ⟨RL1,trivial⟩ rfl fun i hi=>?_;obtain⟨hi,y⟩:=hi;refine dg (fun a=>?_) fun a=>?_
 ·refine dp (by simpa using a) fun s m=>?_;have a:=C1 m;have n:=ae m;refine dg (fun H=>?_) fun H=>?_
  ·have hf:Nh all=52:=by
    unfold Nh;rw[dc (List.any_eq_true.2 ⟨s,n,by rw[decide_eq_true_iff];omega⟩)]
   exact .inl (A1 (oLs l e) [] (by exact RL4) rfl ⟨_,rfl⟩ rfl rfl ⟨by rw[j,hf];rfl,by rw[f,hf];rfl⟩)
  have F:=W8 _ y;rw[aw] at F;refine di ((Xt (Ak (all.take i)) (by omega) s (o s n)).cal fun q rs c=>?_);obtain⟨rfl,rfl⟩:=c;refine⟨by omega,i+1,⟨a,fun x p=>?_⟩,(by dsimp only;omega),?_⟩
  ·rw[Ar m] at p;rcases bu.1 p with p | p
   ·exact y x p
   ·rw[bo.1 p];omega
  refine⟨?_,?_,rfl⟩<;>repeat' (first|exact trivial|with_reducible rfl|exact rfl|refine And.intro ?_ ?_)
  exact eqR (by rw[Ar m,Na])
 ·have u:(((all.map gSt).length:Nat):Int)=all.length:=by rw[aa]
  rw[u] at a;rw[ap (by omega)] at y⊢;have r:all.any (fun s=>decide (s.size > 4096))=false:=by rw[←Bool.not_eq_true,List.any_eq_true];rintro⟨s,m,hs2⟩;have:=y s m;rw[decide_eq_true_iff] at hs2;omega
  have k:Nh all=if(Ak all).length > 35136 then 51 else 0:=by unfold Nh;rw[r];rfl
  refine di ((Z5j l _).cal fun q rs c=>?_);obtain⟨rfl,rfl⟩:=c;refine dg (fun A=>?_) fun A=>?_
  ·rw[aa] at A;have hf:Nh all=51:=by rw[k,dc (by omega)]
   exact .inl (A1 (oLs l e) [] (by exact RL4) rfl ⟨_,rfl⟩ rfl rfl ⟨by rw[j,hf];rfl,by rw[f,hf];rfl⟩)
  rw[aa] at A;have hf:Nh all=0:=by rw[k,db (by omega)]
  rw[hf,db (fun h=>h rfl)] at j f;have G:=h.half;have v:=Z3k l e h.d h.many h.armed (by have:=h.wait;omega) hd (h:=1 - l.half) (by omega) (Ak all) (by omega) 0 (ah _);have t:((1 - l.half:Nat):Int)=1 - (l.half:Int):=by omega
  rw[t] at v;refine⟨by omega,?_⟩;have C:=Za7 h z (1 - l.half) (Ak all) 0 (by omega);cases hw:wrE l (1 - l.half) (Ak all) 0 with
  | false =>
   rw[hw] at v j f;refine dh (.close (oLs l e) [] (by exact RL4) ⟨_,rfl⟩ rfl (.frz 4 _ _ _ rfl (.done (.see (.same (v.cal fun q rs c=>?_))))));obtain⟨rfl,rfl⟩:=c;refine .opn 0 _ _ _ rfl rfl rfl (.done ?_);refine dj (fun _=>?_) fun h=>de h (by decide);exact .inl (A1 (oLs (wrL l (1 - l.half) (Ak all) 0) e) [(1,5),(2,6),(3,7)] (by exact RL4) rfl ⟨_,rfl⟩ rfl rfl ⟨by rw[j];rfl,by rw[f];rfl⟩)
  | true =>
   rw[hw] at v j f;have D:(wrL l (1 - l.half) (Ak all) 0).dead=false:=by unfold wrE at hw;unfold wrL;rw[hw];rfl
   have E:=Zaw (wrL l (1 - l.half) (Ak all) 0) e C D (hf:=1 - l.half) (by omega) (Ak all).length (by omega);refine dh (.close (oLs l e) [] (by exact RL4) ⟨_,rfl⟩ rfl (.frz 4 _ _ _ rfl (.done (.see (.same (v.cal fun q rs c=>?_))))));obtain⟨rfl,rfl⟩:=c;refine .opn 0 _ _ _ rfl rfl rfl (.done ?_);refine dj (fun h=>de rfl h) fun _=>?_;refine⟨by show _≤1 - (l.half:Int)∧1 - (l.half:Int)≤_;omega,?_⟩;have w:((1 - l.half:Nat):Int)=1 - ((wrL l (1 - l.half) (Ak all) 0).half:Int):=t;have B:((((Ak all).map gBy).length:Nat):Int)=(Ak all).length:=by rw[aa]
   rw[w,←B] at E;refine dh (.close (oLs (wrL l (1 - l.half) (Ak all) 0) e) [(1,5),(2,6),(3,7)] (by exact RL4) ⟨_,rfl⟩ rfl (.done (.same (E.cal fun q rs c=>?_))));obtain⟨rfl,rfl⟩:=c;refine .opn 0 _ _ _ rfl rfl rfl (.done ?_);cases o:(Ah (wrL l (1 - l.half) (Ak all) 0) (1 - l.half) (Ak all).length).dead with
   | true =>
    have eS:D7 (wrL l (1 - l.half) (Ak all) 0) (1 - l.half) (Ak all).length=40:=by unfold D7;rw[o];rfl
    rw[eS] at j⊢;rw[o] at f;refine dj (fun _=>?_) fun h=>de h (by decide);exact .inl (A1 (oLs (Ah (wrL l (1 - l.half) (Ak all) 0) (1 - l.half) (Ak all).length) e) [(1,8),(2,9),(3,10)] (by exact RL4) rfl ⟨_,rfl⟩ rfl rfl ⟨by rw[j];rfl,by rw[f];rfl⟩)
   | false =>
    have eS:D7 (wrL l (1 - l.half) (Ak all) 0) (1 - l.half) (Ak all).length=0:=by unfold D7;rw[o];rfl
    rw[eS] at j⊢;rw[o] at f;refine dj (fun h=>de rfl h) fun _=>?_;refine(Z4l all (by omega)).cal fun q rs c=>?_;obtain⟨rfl,rfl⟩:=c;exact .inl (A1 (oLs {Ah (wrL l (1 - l.half) (Ak all) 0) (1 - l.half) (Ak all).length with b:=Ak all,all:=all} e) [(1,8),(2,11),(3,10)] (by exact RL4) rfl ⟨_,rfl⟩ rfl rfl ⟨by rw[j];rfl,by rw[f];rfl⟩)
end Go.Proofs.YtihfaocdpmmooaaGreat
