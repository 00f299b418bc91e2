
import Derived.Test.YtmmdikhljefeiaaGreatSM1
import Derived.Test.YtmmdikhljefeiaaGreatYFsE
namespace Go.Proofs.YtmmdikhljefeiaaGreat
open Go.RowKit Go.MapKept
def A7 (r:RFs)(dir:Int)(s:ByteArray):RFs:={r with nms:=r.nms.filter λn=>!decide (n.dir=dir/\n.name=s)}
def Hk (r:RFs)(id:Int):RFs:={r with ins:=r.ins.filter λx=>decide (x.id≠id)}
def Ai (r:RFs)(dir:Int)(s:ByteArray)(id:Int):RFs:={r with nms:=r.nms++[⟨dir,s,id⟩]}
def Hn (r:RFs)(x:RIn):RFs:={r with ins:=(r.ins.filter λy=>decide (y.id≠x.id))++[x]}
def Au (r:RFs)(dir:Int)(s:ByteArray):RFs :=
 if(A3 r.ins (A2 r.nms dir s)).kind=2\/A5 (A7 r dir s) (A3 r.ins (A2 r.nms dir s))=0 then Hk (A7 r dir s) (A2 r.nms dir s) else A7 r dir s
def Fp (r:RFs)(x:RIn)(fo:Bool):Int :=
 if x.kind=2 then(if fo=true then(if 0 < Dz r.nms x.id then 174 else 0) else 172) else(if fo=true then 173 else 0)
theorem F5 {l:List RNm}{dir:Int}{s:ByteArray}(g:l.Pairwise λa b=>¬(a.dir=b.dir/\a.name=b.name)){n:RNm}(c:n∈l)(i:n.dir=dir)(f:n.name=s)(P:RNm->Bool) :
  l.countP P=(l.filter λn=>!decide (n.dir=dir/\n.name=s)).countP P+if P n=true then 1 else 0:=by
 induction l with
 | nil=>simp at c
 | cons a l ih =>
  obtain⟨ha,g⟩:=List.pairwise_cons.1 g;rcases bq.1 c with e | c
  .subst e;have j:(l.filter λn=>!decide (n.dir=dir/\n.name=s))=l:=by
    rw[List.filter_eq_self];intro m k;have:=ha m k;rw[i,f] at this;simp only[Bool.not_eq_true',decide_eq_false_iff_not];exact λe=>this ⟨e.1.symm,e.2.symm⟩
   rw[List.filter_cons,dp (by simp[i,f]),j,List.countP_cons]
  .have h:¬(a.dir=dir/\a.name=s):=λe=>ha n c ⟨e.1.trans i.symm,e.2.trans f.symm⟩;rw[List.filter_cons,dq (by rw[decide_eq_false h];rfl),List.countP_cons,List.countP_cons,ih g c];omega
theorem Ay (l:List RNm)(dir d:Int)(s:ByteArray):Aa (l.filter λn=>!decide (n.dir=dir/\n.name=s)) d=if d=dir then Hq (Aa l d) s else Aa l d:=by
 unfold Aa Hq;rw[List.filter_map,List.filter_filter,List.filter_filter];by_cases h:d=dir
 .subst h;rw[dq rfl]
  congr 1
  apply List.filter_congr;intro n _;by_cases a:n.dir=d<;>by_cases b:n.name=s<;>simp[a,b]
 .rw[dp h]
  congr 1
  apply List.filter_congr;intro n _;by_cases a:n.dir=d
  .have:¬n.dir=dir:=λe=>h (a.symm.trans e);simp[a];exact .inl h
  .simp[a]
theorem B1 (l:List RNm)(dir d id:Int)(s:ByteArray):Aa (l++[⟨dir,s,id⟩]) d=if d=dir then Aa l d++[(s,id)] else Aa l d:=by
 unfold Aa;rw[List.filter_append,ba];by_cases h:d=dir
 .subst h;simp
 .have:¬dir=d:=λe=>h e.symm;simp[h,this]
theorem Ga (l:List RIn)(i j:Int):A3 (l.filter λx=>decide (x.id≠i)) j=if j=i then Z71 else A3 l j:=by
 by_cases h:j=i
 .rw[dq h,Jz];intro x b e;have:=(af.1 b).2;simp at this;exact this (e.trans h)
 .rw[dp h];unfold A3
  congr 1
  induction l with
  | nil=>rfl
  | cons x l ih =>
   rw[List.filter_cons,List.find?_cons];by_cases a:x.id=i
   .have:¬x.id=j:=λe=>h (e.symm.trans a);simp only[a,ne_eq,not_true_eq_false,decide_false,Bool.false_eq_true,if_false];rw[show decide (i=j)=false from decide_eq_false (λe=>h e.symm)];simp only[ne_eq] at ih;exact ih
   .simp only[ne_eq,a,not_false_eq_true,decide_true,if_true,List.find?_cons];simp only[ne_eq] at ih;rw[ih]
theorem Ko (l:List RIn)(x:RIn)(j:Int)(h:∀y∈l,y.id≠x.id):A3 (l++[x]) j=if j=x.id then x else A3 l j:=by
 unfold A3;rw[List.find?_append];by_cases a:j=x.id
 .subst a;rw[dq rfl,List.find?_eq_none.2 (λy b=>by simpa using h y b)];simp
 .rw[dp a];have:¬x.id=j:=λe=>a e.symm;simp[this]
theorem Qh (r:RFs)(x:RIn)(j:Int):A3 (Hn r x).ins j=if j=x.id then x else A3 r.ins j:=by
 unfold Hn;dsimp only;rw[Ko _ _ _ (λy b=>by have:=(af.1 b).2;simpa using this),Ga];by_cases a:j=x.id
 .rw[dq a,dq a]
 .rw[dp a,dp a,dp a]
theorem E1 {r r':RFs}{x x':RIn}(b:x'.id=x.id)(a:x'.kind=x.kind)(c:r'.nms=r.nms)(e:∀n∈r.nms,(A3 r'.ins n.id).kind=2↔(A3 r.ins n.id).kind=2):A5 r' x'=A5 r x:=by
 unfold A5;rw[b,a,c];split
 .congr 1
  apply List.countP_congr;intro n f;have:=e n f;simp[this]
 .rfl
theorem Dx {r:RFs}{K:Nat}(b:Wf r K){n:RNm}(a:n∈r.nms)(y:RIn) :
  A5 r y=A5 (A7 r n.dir n.name) y+if y.kind=2 then(if n.dir=y.id/\(A3 r.ins n.id).kind=2 then 1 else 0) else if n.id=y.id then 1 else 0:=by
 unfold A5 A7;dsimp only;by_cases h:y.kind=2
 .rw[dq h,dq h,dq h,F5 b.uniq a rfl rfl];simp only[decide_eq_true_eq];omega
 .rw[dp h,dp h,dp h,F5 b.uniq a rfl rfl];simp only[decide_eq_true_eq]
theorem Lt {r:RFs}{id:Int}(h:∀n∈r.nms,n.id=id->(A3 r.ins id).kind≠2)(y:RIn):A5 (Hk r id) y=A5 r y:=by
 refine E1 rfl rfl rfl λn b=>?_;show(A3 (r.ins.filter λx=>decide (x.id≠id)) n.id).kind=2↔_;rw[Ga];by_cases a:n.id=id
 .rw[dq a,a];exact⟨λe=>dt e (by decide),λe=>dt e (h n b a)⟩
 .rw[dp a]
theorem E2 (r:RFs)(dir:Int)(s:ByteArray)(id:Int)(y:RIn) :
  A5 (Ai r dir s id) y=A5 r y+if y.kind=2 then(if dir=y.id/\(A3 r.ins id).kind=2 then 1 else 0) else if id=y.id then 1 else 0:=by
 unfold A5 Ai;dsimp only;by_cases h:y.kind=2
 .rw[dq h,dq h,dq h,List.countP_append];simp only[List.countP_cons,List.countP_nil,decide_eq_true_eq];omega
 .rw[dp h,dp h,dp h,List.countP_append];simp only[List.countP_cons,List.countP_nil,decide_eq_true_eq];omega
theorem Wf.one_name {r:RFs}{K:Nat}(g:Wf r K){x:RIn}(o:x∈r.ins)(e:x.kind=2)(h:x.id≠1){n m:RNm}(k:n∈r.nms)(l:m∈r.nms)(j:n.id=x.id)(em:m.id=x.id):n.dir=m.dir/\n.name=m.name:=by
 have f:=g.one x o e h;have i:(r.nms.filter λn=>decide (n.id=x.id)).length=1:=by have:=congrArg List.length f;simpa using this
 obtain⟨a,ha⟩:=List.length_eq_one_iff.1 i;have b:n∈r.nms.filter λn=>decide (n.id=x.id):=af.2 ⟨k,by simpa using j⟩;have c:m∈r.nms.filter λn=>decide (n.id=x.id):=af.2 ⟨l,by simpa using em⟩;rw[ha,bx] at b c;rw[b,c];exact⟨rfl,rfl⟩
theorem Wf.dir_of {r:RFs}{K:Nat}(e:Wf r K){x:RIn}(i:x∈r.ins)(f:x.kind=2){n:RNm}(c:n∈r.nms)(a:n.id=x.id):n.dir=x.parent:=by
 have h:x.id≠1:=by rw[<-a];exact(e.nmI n c).1
 have g:=e.one x i f h;have b:n.dir∈(r.nms.filter λn=>decide (n.id=x.id)).map (·.dir):=bk.2 ⟨n,af.2 ⟨c,by simpa using a⟩,rfl⟩;rw[g] at b;simpa using b
theorem Wf.par_ne {r:RFs}{K:Nat}(b:Wf r K){x:RIn}(f:x∈r.ins)(a:x.kind=2)(c:x.id≠1):x.parent≠x.id:=by obtain⟨ρ,hρ⟩:=b.tree;have:=hρ x f a c;intro e;rw[e] at this;omega
theorem Wf.self_ne {r:RFs}{K:Nat}(a:Wf r K){n:RNm}(b:n∈r.nms):n.id≠n.dir:=by intro e;obtain⟨d,hd,c,f⟩:=a.nmD n b;have h:=(a.nmI n b).1;have g:=a.dir_of hd f b (by rw[e,c]);have:=a.par_ne hd f (by rw[c,<-e];exact h);rw[<-g,c] at this;exact this rfl
def Em (t:Int):Bool:=decide (0<=t/\t<=1099511627776)
def Cw (m:RMk):Bool:=decide (1<=m.kind/\m.kind<=3/\0<=m.mode/\m.mode < 4096/\0<=m.time/\m.time<=1099511627776/\((m.kind=3->1<=m.target.size/\m.target.size<=100)/\(m.kind≠3->m.target.size=0)))
def mkV (m:RMk):Value:=.agg #[.int .i64 m.kind,.int .i64 m.mode,.int .i64 m.time,.string m.target]
set_option maxRecDepth 100000 in
set_option maxHeartbeats 400000 in
theorem M9 (t:Int)(w:World):Calls Tryz.prog 94 #[.int .i64 t] w λe w'=>e=.returned (.bool (Em t))/\w=w':=by
 go_enter Tryz.func94,Tryz.ntmps94
 go_wp2
 all_goals
  go_ret
  refine⟨Io ?_,rfl⟩;unfold Em
  first
   | (rw[decide_eq_decide];omega)
   | (rw[eq_comm,decide_eq_false_iff_not];omega)
   | (rw[eq_comm,decide_eq_true_eq];omega)
theorem Z2i {s:ByteArray}(h:s.toList=[]):s.size=0:=by rw[Ie,<-toList_data,h];rfl
theorem Z4f {s:ByteArray}(h:¬s.toList=[]):1<=s.size:=by rw[Ie,<-toList_data];exact List.length_pos_iff.2 h
set_option maxRecDepth 100000 in
set_option maxHeartbeats 4000000 in
theorem Ik (m:RMk)(w:World)(hs:m.target.size<=maxLen):Calls Tryz.prog 60 #[mkV m] w λe w'=>e=.returned (.bool (Cw m))/\Below w.heap.size w w':=by
 obtain⟨kd,md,tm,tg⟩:=m;unfold maxLen at hs;dsimp only at hs;unfold mkV;dsimp only;obtain⟨w1,hw1,hB,hs1,hb⟩:=Ht w #[.int .i64 kd,.int .i64 md,.int .i64 tm,.string tg] 32;have c0:w1.cell? ⟨w.heap.size,0,none⟩=_:=A1 hb 0;have c1:w1.cell? ⟨w.heap.size,1,none⟩=_:=A1 hb 1;have c2:w1.cell? ⟨w.heap.size,2,none⟩=_:=A1 hb 2;have c3:w1.cell? ⟨w.heap.size,3,none⟩=_:=A1 hb 3;have HW1:=aa hw1;have HB:=aa hB;have hcs:tg.toList=[]\/¬tg.toList=[]:=Decidable.em _;have hck:kd=3\/kd < 3\/3 < kd:=by omega
 clear hw1 hB hb;have HC:=aa (M9 tm);rcases hcs with q1 | q1
 all_goals
  have hsz:tg.size=0\/1<=tg.size:=by omega
  have HS:=aa (show tg.toList=[]->tg.size=0 from Z2i);have HS2:=aa (show ¬tg.toList=[]->1<=tg.size from Z4f);rcases hck with rfl | q2 | q2
  all_goals
   go_enter Tryz.func60,Tryz.ntmps60
   go_wp2_with fail
   try rw[HW1.out]
   go_wp2_with (go_at_call 94;(with_reducible refine(HC.out _).mono ?_);rintro e w2 ⟨rfl,rfl⟩)
   all_goals
    have h1:=HS.out;have h2:=HS2.out
    go_ret
    refine⟨Io ?_,by first | exact HB.out | exact(ab _ _).alloc (av _) _⟩;clear HB HW1 HC HS HS2 c0 c1 c2 c3;rw[Bool.eq_iff_iff];unfold Cw;dsimp only;generalize tg.size=z at *;simp[Em,q1] at *
    try omega
def Fc (room:Int):RFs:=⟨max room 0,[⟨1,1,2,493,0,1,Jr,[],[]⟩],[],[0,1]⟩
attribute [local go_sem] C8
set_option maxRecDepth 100000 in
set_option maxHeartbeats 1000000 in
theorem Z33 (room:Int)(w:World):Calls Tryz.prog 45 #[.int .i64 room] w λe w'=>∃f mi mg N,e=.returned (De f)/\FsN w' f mi mg (Fc room) N/\w.heap.size<=f/\w.heap.size<=mi/\w.heap.size<=mg/\(∀n∈N,∀k∈n.foot,w.heap.size<=k)/\Below w.heap.size w w':=by
 have hmm:=@run_makeMap Tryz.prog;have hm2:MapB ((w.alloc (.map #[] 0)).alloc (.map #[] 0)) (w.heap.size+1) Aw Aw ([]:List (Int × Int)):=by have:=Eb (w.alloc (.map #[] 0)) Aw Aw;simpa using this
 have hm1:MapB ((w.alloc (.map #[] 0)).alloc (.map #[] 0)) w.heap.size Aw De ([]:List (Int × Nat)):=(Eb w Aw De).of_block (ae _ _ _ (by simp));obtain⟨o,hup,hmp⟩:=Am KI (t:=145) Tryz.underlying145 hm2 (1:Int) (1:Int);have hm1':=hm1.of_block (A9 ((w.alloc (.map #[] 0)).alloc (.map #[] 0)) (m:=w.heap.size+1) o (by omega));have hB2:Below w.heap.size w (putObj ((w.alloc (.map #[] 0)).alloc (.map #[] 0)) (w.heap.size+1) o) :=
  Frm.below (S:=[w.heap.size+1]) ((Frm.refl _ _).putObj (.inl (by simp)) o) (((ab _ _).alloc (av _) _).alloc (by simp) _) (by simp;omega) (by simp)
 have hs2:(putObj ((w.alloc (.map #[] 0)).alloc (.map #[] 0)) (w.heap.size+1) o).heap.size=w.heap.size+2:=by rw[C8];simp
 obtain⟨w2,e2⟩:∃w2,putObj ((w.alloc (.map #[] 0)).alloc (.map #[] 0)) (w.heap.size+1) o=w2:=⟨_,rfl⟩;rw[e2] at hs2 hB2 hm1' hmp;obtain⟨w3,e3⟩:∃w3,w2.alloc (.cells #[.int .i64 (max room 0),.map (some w.heap.size),.map (some (w.heap.size+1))] 147)=w3:=⟨_,rfl⟩;obtain⟨w4,e4⟩:∃w4,w3.alloc (.map #[] 0)=w4:=⟨_,rfl⟩;obtain⟨w5,e5⟩:∃w5,w4.alloc (.cells #[.map (some (w.heap.size+1+1+1)),.int .i64 1] 152)=w5:=⟨_,rfl⟩;obtain⟨w6,e6⟩:∃w6,w5.alloc (.cells #[.int .i64 1,.int .i64 1,.int .i64 493,.int .i64 0,.int .i64 2,.iface 135 (.pointer (some ⟨w.heap.size+1+1+1+1,0,none⟩))] 143)=w6:=⟨_,rfl⟩;have hs3:w3.heap.size=w.heap.size+3:=by rw[<-e3];simp[hs2]
 have hs4:w4.heap.size=w.heap.size+4:=by rw[<-e4];simp[hs3]
 have hs5:w5.heap.size=w.heap.size+5:=by rw[<-e5];simp[hs4]
 have hs6:w6.heap.size=w.heap.size+6:=by rw[<-e6];simp[hs5]
 have k3:∀k,k < w.heap.size+2->w3.heap[k]?=w2.heap[k]?:=λk hk=>by rw[<-e3];exact ae _ _ _ (by omega)
 have k4:∀k,k < w.heap.size+3->w4.heap[k]?=w3.heap[k]?:=λk hk=>by rw[<-e4];exact ae _ _ _ (by omega)
 have k5:∀k,k < w.heap.size+4->w5.heap[k]?=w4.heap[k]?:=λk hk=>by rw[<-e5];exact ae _ _ _ (by omega)
 have k6:∀k,k < w.heap.size+5->w6.heap[k]?=w5.heap[k]?:=λk hk=>by rw[<-e6];exact ae _ _ _ (by omega)
 have n3:w3.heap[w.heap.size+2]?=some (.cells #[.int .i64 (max room 0),.map (some w.heap.size),.map (some (w.heap.size+1))] 147 (0,0)):=by have:=heap_alloc_new w2 (.cells #[.int .i64 (max room 0),.map (some w.heap.size),.map (some (w.heap.size+1))] 147);rw[e3,hs2] at this;exact this
 have n5:w5.heap[w.heap.size+4]?=some (.cells #[.map (some (w.heap.size+1+1+1)),.int .i64 1] 152 (0,0)):=by have:=heap_alloc_new w4 (.cells #[.map (some (w.heap.size+1+1+1)),.int .i64 1] 152);rw[e5,hs4] at this;exact this
 have n6:w6.heap[w.heap.size+5]?=some (.cells #[.int .i64 1,.int .i64 1,.int .i64 493,.int .i64 0,.int .i64 2,.iface 135 (.pointer (some ⟨w.heap.size+1+1+1+1,0,none⟩))] 143 (0,0)):=by have:=heap_alloc_new w5 (.cells #[.int .i64 1,.int .i64 1,.int .i64 493,.int .i64 0,.int .i64 2,.iface 135 (.pointer (some ⟨w.heap.size+1+1+1+1,0,none⟩))] 143);rw[e6,hs5] at this;exact this
 have hm6:MapB w6 w.heap.size Aw De ([]:List (Int × Nat)):=hm1'.of_block (by rw[k6 _ (by omega),k5 _ (by omega),k4 _ (by omega),k3 _ (by omega)]);obtain⟨o2,hup2,hmp2⟩:=Am KI (t:=144) Tryz.underlying144 hm6 (1:Int) (w.heap.size+1+1+1+1+1);have hB6:Below w.heap.size w (putObj w6 w.heap.size o2):=by refine Frm.below (S:=[w.heap.size]) ((Frm.refl _ _).putObj (.inl (by simp)) o2) ?_ (by omega) (by simp);rw[<-e6,<-e5,<-e4,<-e3];exact(((hB2.alloc (by omega) _).alloc (by simp;omega) _).alloc (by simp;omega) _).alloc (by simp;omega) _
 have hFs:FsN (putObj w6 w.heap.size o2) (w.heap.size+1+1) w.heap.size (w.heap.size+1) (Fc room) [⟨1,w.heap.size+1+1+1+1+1,w.heap.size+1+1+1+1,w.heap.size+1+1+1,true⟩]:=by
  have hk:∀k,k≠w.heap.size->(putObj w6 w.heap.size o2).heap[k]?=w6.heap[k]?:=λk hk=>A9 w6 o2 hk;refine⟨?_,hmp2,⟨_,hmp.of_block ?_,?_⟩,?_,?_,by simp,?_,by omega⟩
  .rw[hk _ (by omega),k6 _ (by omega),k5 _ (by omega),k4 _ (by omega),show w.heap.size+1+1=w.heap.size+2 by omega,n3];rfl
  .rw[hk _ (by omega),k6 _ (by omega),k5 _ (by omega),k4 _ (by omega),k3 _ (by omega)]
  .intro id;rw[D0];unfold Aq Fc;by_cases h1:id=1
   .subst h1;rfl
   .rw[dp h1];show(0:Int)=_;by_cases h2:0<=id
    .rw[dq h2];obtain⟨j,rfl⟩:=al h2
     match j,h1 with
     | 0,_=>rfl
     | 1,h1=>exact dt rfl h1
     | j+2,_=>show(0:Int)=[0,1].getD (Int.toNat ((j+2:Nat):Int)) 0;rw[bj];rfl
    .rw[dp h2]
  .intro n hn;simp only[List.mem_singleton] at hn;subst hn;refine⟨⟨1,1,2,493,0,1,Jr,[],[]⟩,bx.2 rfl,⟨rfl,?_,rfl,λh=>dt h (by decide),λ_=>⟨?_,?_⟩⟩⟩
   .show(putObj w6 w.heap.size o2).heap[w.heap.size+1+1+1+1+1]?=_;rw[hk _ (by omega),show w.heap.size+1+1+1+1+1=w.heap.size+5 by omega,n6];rfl
   .show(putObj w6 w.heap.size o2).heap[w.heap.size+1+1+1+1]?=_;rw[hk _ (by omega),k6 _ (by omega),show w.heap.size+1+1+1+1=w.heap.size+4 by omega,n5]
   .refine MapB.of_block (w:=w4) ?_ (show(putObj w6 w.heap.size o2).heap[w.heap.size+1+1+1]?=w4.heap[w.heap.size+1+1+1]? by rw[hk _ (by omega),k6 _ (by omega),k5 _ (by omega)]);have:=Eb w3 Ci Aw;rw[e4,hs3] at this;exact this
  .intro x hx;unfold Fc at hx;simp at hx;subst hx;exact⟨_,by simp;rfl,rfl⟩
  .intro n hn;simp only[List.mem_singleton] at hn;subst hn;simp[Nd.foot];omega
 have HFs:=aa hFs;have HB6:=aa hB6;rw[<-e6,<-e5,<-e4,<-e3,<-e2] at hup2 HFs HB6;unfold Aw De at hup2;unfold Aw at hup;clear hFs hB6 hmp2 hm6 hs3 hs4 hs5 hs6 k3 k4 k5 k6 n3 n5 n6 e2 e3 e4 e5 e6 hs2 hB2 hm1' hmp hm1 hm2
 go_enter Tryz.func45,Tryz.ntmps45
 go_wp2
 go_ret
 exact⟨_,_,_,_,rfl,HFs.out,by omega,by omega,by omega,λn hn k hk=>by simp only[List.mem_singleton] at hn;subst hn;simp[Nd.foot] at hk;omega,HB6.out⟩
set_option maxRecDepth 100000 in
set_option maxHeartbeats 2000000 in
theorem I6 {w:World}{r:RFs}{x:RIn}{n:Nd}(h:NodeR w r x n)(fo:Bool)(fp:Option Addr) :
  Calls Tryz.prog 97 #[.pointer fp,.pointer (some ⟨n.blk,0,none⟩),.bool fo] w λe w'=>e=.returned (.int .i64 (Fp r x fo))/\w=w':=by
 obtain⟨-,-,-,-,-,c5⟩:=h.cells;have hta:=λw=>Cl w x n;by_cases hk:x.kind=2
 .obtain⟨hd,hm⟩:=h.dir hk;have c0:w.cell? ⟨n.b,0,none⟩=some (.map (some n.m)):=by rw[A1 hd];rfl
  have hl:=Bg (P:=Tryz.prog) (ty:=3) (t:=150) Tryz.underlying150 hm;rw[Jn] at hl;unfold Fp;simp only[hk,if_true,De] at hta⊢;clear h hd hm hk;generalize Ad x n=hv at *;generalize Dz r.nms x.id=k at *;have hcs:fo=false\/fo=true/\(0 < k\/k=0):=by cases fo<;>simp;omega
  rcases hcs with rfl | ⟨rfl,q | rfl⟩
  .simp only[Bool.false_eq_true,if_false]
   go_enter Tryz.func97,Tryz.ntmps97
   go_wp2
   go_ret
   exact⟨rfl,rfl⟩
  .simp only[q,if_true];have q2:decide (0 < (k:Int))=true:=decide_eq_true (by omega);have q3:decide (0 < k)=true:=decide_eq_true q
   go_enter Tryz.func97,Tryz.ntmps97
   go_wp2
   go_ret
   exact⟨rfl,rfl⟩
  .simp only[Nat.lt_irrefl,if_true,if_false]
   go_enter Tryz.func97,Tryz.ntmps97
   go_wp2
   go_ret
   exact⟨rfl,rfl⟩
 .unfold Fp;simp only[hk,if_false] at hta⊢;clear h hk;generalize Ad x n=hv at *;cases fo
  .simp only[Bool.false_eq_true,if_false]
   go_enter Tryz.func97,Tryz.ntmps97
   go_wp2
   go_ret
   exact⟨rfl,rfl⟩
  .simp only[if_true]
   go_enter Tryz.func97,Tryz.ntmps97
   go_wp2
   go_ret
   exact⟨rfl,rfl⟩
def fpL (f b a:Nat)(N:List Nd):List Nat:=f::b::a::N.flatMap Nd.foot
theorem Ak {f e a:Nat}{N:List Nd}{n:Nd}(c:n∈N){k:Nat}(b:k∈n.foot):k∈fpL f e a N:=by unfold fpL;simp only[List.mem_cons,List.mem_flatMap];exact .inr (.inr (.inr ⟨n,c,b⟩))
theorem NodeR.mk2 {w w':World}{r r':RFs}{x:RIn}{n:Nd}(h:NodeR w r x n)(g:w'.heap[n.blk]?=some (.cells (Ks x (A5 r' x) n) 143 (0,0)))(e:n.big=true->w'.heap[n.b]?=w.heap[n.b]?)(j:x.kind=1->w'.heap[n.m]?=w.heap[n.m]?)(i:x.kind=2->MapB w' n.m Ci Aw (Aa r'.nms x.id)):NodeR w' r' x n:=by
 refine⟨h.id,g,h.big,λc=>?_,λc=>?_⟩
 .have a:n.big=true:=by rw[h.big,c];rfl
  obtain⟨s,bl,f,k⟩:=h.file c;exact⟨s,bl,f.keep (e a) (j c),k⟩
 .have a:n.big=true:=by rw[h.big,c];rfl
  exact⟨(e a).trans (h.dir c).1,i c⟩
theorem Bp {w:World}{x:RIn}{n:Nd}{lk lk':Nat}(h:w.heap[n.blk]?=some (.cells (Ks x lk n) 143 (0,0))):(w.setCell ⟨n.blk,4,none⟩ (.int .i64 (lk':Int))).heap[n.blk]?=some (.cells (Ks x lk' n) 143 (0,0)) :=
 heap_setCell_same w n.blk 4 _ _ _ h
theorem A4 (w:World)(b i k:Nat)(v:Value)(h:k≠b):(w.setCell ⟨b,i,none⟩ v).heap[k]?=w.heap[k]?:=Below.heap_setCell w ⟨b,i,none⟩ v k h
theorem Av {w:World}{a b:Nat}{cs f:Array Value}{t g:TypeId}{j c:Nat × Nat}(ha:w.heap[a]?=some (.cells cs t j))(h:w.heap[b]?=some (.cells f g c))(i:t≠g):a≠b:=λe=>by rw[e,h] at ha;injection ha with ha;injection ha with _ h2 _;exact i h2.symm
theorem A8 {κ β:Type}{w:World}{a b:Nat}{i:κ->Value}{j:β->Value}{L:List (κ × β)}{cs:Array Value}{t:TypeId}{f:Nat × Nat}(ha:MapB w a i j L)(g:w.heap[b]?=some (.cells cs t f)):a≠b:=λe=>by obtain⟨es,c,h,_⟩:=ha;rw[e,g] at h;cases h
set_option maxRecDepth 100000 in
set_option maxHeartbeats 4000000 in
theorem J3 {w:World}{f mi mg K:Nat}{r:RFs}{N:List Nd}(h:FsN w f mi mg r N)(hW:Wf r K){d:RIn}{np:Nd}(hd:d∈r.ins)(hk:d.kind=2)(hnp:np∈N)(hrp:NodeR w r d np)(s:ByteArray)(he:A2 r.nms d.id s≠0) :
  Calls Tryz.prog 98 #[.pointer (some ⟨f,0,none⟩),.agg #[.pointer (some ⟨np.blk,0,none⟩),.pointer (some ⟨np.b,0,none⟩),.string s]] w
   λe w'=>e=.returned (.tuple #[])/\(∃N',FsN w' f mi mg (Au r d.id s) N'/\∀n∈N',n∈N)/\Frm (fpL f mi mg N) w w':=by
 obtain⟨n0,hn0,e1,e2,e3⟩:=B4 he;obtain⟨hx1,x,hx,ex⟩:=hW.nmI n0 hn0;obtain⟨nx,hnx,hrx⟩:=h.at_ hW hx;have hid:A2 r.nms d.id s=x.id:=by rw[<-e3,<-ex]
 have hbx:A3 r.ins x.id=x:=hW.byId hx;have hxd:x.id≠d.id:=by rw[ex,<-e1];exact hW.self_ne hn0
 have hnxp:nx≠np:=λe=>hxd (by rw[<-hrx.id,<-hrp.id,e]);have hne:nx.blk≠np.blk:=λe=>h.apart hnx hnp hnxp _ nx.blk_mem (by rw[e];exact np.blk_mem);have hpb:np.big=true:=by rw[hrp.big,hk];rfl
 obtain⟨l1,l2,l3,l4⟩:=h.lt hW;obtain⟨o1,o2,o3⟩:=h.off np hnp;obtain⟨o4,o5,o6⟩:=h.off nx hnx;have hun:=Dx hW hn0;rw[e1,e2] at hun;have hlx:1<=A5 r x:=by
  have:=hun x;by_cases hkx:x.kind=2
  .unfold A5;rw[dq hkx];omega
  .rw[dp hkx,dq ex.symm] at this;omega
 have hlx2:=hW.lim x hx;have hld2:=hW.lim d hd;have hld:2<=A5 r d:=by unfold A5;rw[dq hk];omega
 obtain⟨w1,hw1,hB1,hs1,hb1⟩:=Ht w #[.pointer (some ⟨np.blk,0,none⟩),.pointer (some ⟨np.b,0,none⟩),.string s] 137;have h1:=h.below hW hB1;have hrp1:=hrp.below (.inr (.inl hk)) hB1;have HAt:=aa (Bc hrp1 hk (hrp1.lt (.inr (.inl hk))) s (some ⟨np.blk,0,none⟩));rw[hid] at HAt;have HG:=aa (show ∀w2,Below w1.heap.size w1 w2->FsN w2 f mi mg r N/\NodeR w2 r d np/\NodeR w2 r x nx/\w2.heap[w.heap.size]?=some (.cells #[.pointer (some ⟨np.blk,0,none⟩),.pointer (some ⟨np.b,0,none⟩),.string s] 137 (0,0))/\Below w.heap.size w w2 from λw2 hb =>
  ⟨h1.below hW hb,hrp1.below (.inr (.inl hk)) hb,(hrx.below (hW.kind x hx) hB1).below (hW.kind x hx) hb,(hb.block _ (by omega)).trans hb1,hB1.trans (hb.mono hB1.size)⟩)
 have HW1:=aa hw1;have HGet:=aa (h.get hnx);rw[hrx.id] at HGet;have hta:=λw=>Cl w x nx;have HFin:Hid (∀(w3:World),Frm [np.m] w w3->MapB w3 np.m Ci Aw (Hq (Aa r.nms d.id) s) ->
   (x.kind=2->∀o,MapB (putObj ((w3.setCell ⟨nx.blk,4,none⟩ (.int .i64 ((A5 r x - 1:Nat):Int))).setCell ⟨np.blk,4,none⟩ (.int .i64 ((A5 r d - 1:Nat):Int))) mi o) mi Aw De (Hq (N.map λn=>(n.id,n.blk)) x.id) ->
    (∃N',FsN (putObj ((w3.setCell ⟨nx.blk,4,none⟩ (.int .i64 ((A5 r x - 1:Nat):Int))).setCell ⟨np.blk,4,none⟩ (.int .i64 ((A5 r d - 1:Nat):Int))) mi o) f mi mg (Au r d.id s) N'/\∀n∈N',n∈N)/\Frm (fpL f mi mg N) w (putObj ((w3.setCell ⟨nx.blk,4,none⟩ (.int .i64 ((A5 r x - 1:Nat):Int))).setCell ⟨np.blk,4,none⟩ (.int .i64 ((A5 r d - 1:Nat):Int))) mi o)) /\
   (x.kind≠2->A5 r x=1->∀o,MapB (putObj (w3.setCell ⟨nx.blk,4,none⟩ (.int .i64 ((A5 r x - 1:Nat):Int))) mi o) mi Aw De (Hq (N.map λn=>(n.id,n.blk)) x.id) ->
    (∃N',FsN (putObj (w3.setCell ⟨nx.blk,4,none⟩ (.int .i64 ((A5 r x - 1:Nat):Int))) mi o) f mi mg (Au r d.id s) N'/\∀n∈N',n∈N)/\Frm (fpL f mi mg N) w (putObj (w3.setCell ⟨nx.blk,4,none⟩ (.int .i64 ((A5 r x - 1:Nat):Int))) mi o)) /\
   (x.kind≠2->A5 r x≠1 ->
    (∃N',FsN (w3.setCell ⟨nx.blk,4,none⟩ (.int .i64 ((A5 r x - 1:Nat):Int))) f mi mg (Au r d.id s) N'/\∀n∈N',n∈N)/\Frm (fpL f mi mg N) w (w3.setCell ⟨nx.blk,4,none⟩ (.int .i64 ((A5 r x - 1:Nat):Int))))):=by
  have hkx:=hW.kind x hx;have hm3:np.m ∉ nx.foot:=λhm=>h.apart hnp hnx (λe=>hnxp e.symm) _ (Nd.m_mem hpb) hm;have hud:A5 (A7 r d.id s) d=if x.kind=2 then A5 r d - 1 else A5 r d:=by
   have:=hun d;rw[dq hk,e3,hid,hbx] at this;by_cases q:x.kind=2
   .rw[dq q];rw[dq ⟨rfl,q⟩] at this;omega
   .rw[dp q];rw[dp (λe=>q e.2)] at this;omega
  have hux:x.kind≠2->A5 (A7 r d.id s) x=A5 r x - 1:=λq=>by have:=hun x;rw[dp q,dq ex.symm] at this;omega
  have huo:∀y:RIn,y.id≠d.id->y.id≠x.id->A5 (A7 r d.id s) y=A5 r y:=λy q1 q2=>by
   have:=hun y;by_cases q:y.kind=2
   .rw[dq q,dp (λe=>q1 e.1.symm)] at this;omega
   .rw[dp q,dp (λe=>q2 (e.symm.trans ex.symm))] at this;omega
  have hgo:∀y,A5 (Hk (A7 r d.id s) x.id) y=A5 (A7 r d.id s) y:=λy=>by refine Lt (λn hn hni=>?_) y;show(A3 r.ins x.id).kind≠2;rw[hbx];intro q;have hn':=(af.1 hn);have:=hW.one_name hx q (by rw[ex];exact hx1) hn'.1 hn0 hni ex.symm;have hn2:=hn'.2;rw[this.1,this.2,e1,e2] at hn2;simp at hn2
  intro w3 F3 M3;have M3':MapB w3 np.m Ci Aw (Aa (A7 r d.id s).nms d.id):=by unfold A7;rw[Ay,dq rfl];exact M3
  have hno:∀y:RIn,y.id≠d.id->Aa (A7 r d.id s).nms y.id=Aa r.nms y.id:=λy q=>by unfold A7;rw[Ay,dp q]
  have k3:∀k,k < w.heap.size->k≠np.m->w3.heap[k]?=w.heap[k]?:=λk hk1 hk2=>F3.block k hk1 (by simpa using hk2);have hpm:np.m < w.heap.size:=l4 np hnp _ (Nd.m_mem hpb)
  
  have node:∀(w':World) (r':RFs),(∀k,k < w.heap.size->k≠np.m->k≠nx.blk->k≠np.blk->k≠mi->w'.heap[k]?=w.heap[k]?)->w'.heap[np.m]?=w3.heap[np.m]? ->
    r'.nms=(A7 r d.id s).nms->(∀y,A5 r' y=A5 (A7 r d.id s) y) ->
    (w'.heap[np.blk]?=some (.cells (Ks d (A5 (A7 r d.id s) d) np) 143 (0,0))) ->
    ∀n∈N,n≠nx->∃y∈r.ins,y.id≠x.id/\NodeR w' r' y n:=by
   intro w' r' hk1 hm1 hn1 hl1 hp1 n hn hnn;obtain⟨y,hy,hr⟩:=h.node n hn;have hyx:y.id≠x.id:=λe=>hnn (Ba h.idU hn hnx (by rw[hr.id,hrx.id,e]));refine⟨y,hy,hyx,?_⟩;have hmi':mi ∉ n.foot:=(h.off n hn).2.1;have hxb:nx.blk ∉ n.foot:=λhm=>h.apart hnx hn (λe=>hnn e.symm) _ nx.blk_mem hm;by_cases hnp':n=np
   .subst hnp';have:y=d:=by
     have a1:=hW.byId hy;have a2:=hW.byId hd;rw[<-hr.id,hrp.id,a2] at a1;exact a1.symm
    subst this;refine hr.mk2 (by rw[hl1];exact hp1) (λhb=>hk1 _ (l4 _ hn _ (Nd.b_mem hb)) ?_ (λe=>hxb (by rw[<-e];exact Nd.b_mem hb)) ?_ (λe=>hmi' (by rw[<-e];exact Nd.b_mem hb))) (λq=>dt q (by omega)) (λ_=>?_)
    .exact λe=>A8 (hr.dir hk).2 (hr.dir hk).1 e.symm
    .exact Av (hr.dir hk).1 hr.head (by decide)
    .rw[hn1];exact M3'.of_block hm1
   .have hyd:y.id≠d.id:=λe=>hnp' (Ba h.idU hn hnp (by rw[hr.id,hrp.id,e]));have hap:=h.apart hnp hn (λe=>hnp' e.symm);refine hr.keep (λk hkf=>hk1 k (l4 n hn k hkf) (λe=>hap _ (Nd.m_mem hpb) (e ▸ hkf)) (λe=>hxb (e ▸ hkf)) (λe=>hap _ np.blk_mem (e ▸ hkf)) (λe=>hmi' (e ▸ hkf))) ?_ (λ_=>?_)
    .rw[hl1];exact huo y hyd hyx
    .rw[hn1];exact hno y hyd
  have hx3:w3.heap[nx.blk]?=some (.cells (Ks x (A5 r x) nx) 143 (0,0)):=(k3 _ (l4 nx hnx _ nx.blk_mem) (λe=>hm3 (e ▸ nx.blk_mem))).trans hrx.head;have hp3:w3.heap[np.blk]?=some (.cells (Ks d (A5 r d) np) 143 (0,0)):=(k3 _ (l4 np hnp _ np.blk_mem) (λe=>A8 (hrp.dir hk).2 hrp.head e.symm)).trans hrp.head;obtain⟨G,hg1,hg2⟩:=h.gmap;have hmn:mi≠nx.blk:=λe=>o5 (e ▸ nx.blk_mem);have hmp':mi≠np.blk:=λe=>o2 (e ▸ np.blk_mem);have hgn:mg≠nx.blk:=λe=>o6 (e ▸ nx.blk_mem);have hgp:mg≠np.blk:=λe=>o3 (e ▸ np.blk_mem);have hfn:f≠nx.blk:=λe=>o4 (e ▸ nx.blk_mem);have hfp:f≠np.blk:=λe=>o1 (e ▸ np.blk_mem);have hfm:f≠np.m:=λe=>o1 (e ▸ Nd.m_mem hpb);have hmm:mi≠np.m:=λe=>o2 (e ▸ Nd.m_mem hpb);have hgm:mg≠np.m:=λe=>o3 (e ▸ Nd.m_mem hpb);have hfi:f≠mi:=λe=>A8 h.imap h.head e.symm;have o1p:np.m≠np.blk:=A8 (hrp.dir hk).2 hrp.head;have hadl:Hq (N.map λn=>(n.id,n.blk)) x.id=(N.filter λn=>decide (n.id≠x.id)).map λn=>(n.id,n.blk):=by unfold Hq;rw[List.filter_map];rfl
  refine⟨λq o hmp=>?_,λq ql o hmp=>?_,λq ql=>?_⟩
  .have hr':Au r d.id s=Hk (A7 r d.id s) x.id:=by
    unfold Au;rw[hid,hbx,dq (.inl q)]
   rw[hr'];have kk:∀k,k < w.heap.size->k≠np.m->k≠nx.blk->k≠np.blk->k≠mi->(putObj ((w3.setCell ⟨nx.blk,4,none⟩ (.int .i64 ((A5 r x - 1:Nat):Int))).setCell ⟨np.blk,4,none⟩ (.int .i64 ((A5 r d - 1:Nat):Int))) mi o).heap[k]?=w.heap[k]?:=λk a b c c2 e=>(A9 _ o e).trans ((A4 _ _ _ _ _ c2).trans ((A4 _ _ _ _ _ c).trans (k3 k a b)));have km:(putObj ((w3.setCell ⟨nx.blk,4,none⟩ (.int .i64 ((A5 r x - 1:Nat):Int))).setCell ⟨np.blk,4,none⟩ (.int .i64 ((A5 r d - 1:Nat):Int))) mi o).heap[np.m]?=w3.heap[np.m]?:=(A9 _ o (λe=>hmm e.symm)).trans ((A4 _ _ _ _ _ (λe=>o1p e)).trans (A4 _ _ _ _ _ (λe=>hm3 (e ▸ nx.blk_mem))));refine⟨⟨N.filter λn=>decide (n.id≠x.id),⟨(kk f l1 hfm hfn hfp hfi).trans h.head,?_,⟨G,hg1.of_block (kk mg l3 hgm hgn hgp (λe=>h.mm e.symm)),hg2⟩,λn hn=>?_,λy hy=>?_,h.sep.filter _,λn hn=>h.off n (af.1 hn).1,h.mm⟩,λn hn=>(af.1 hn).1⟩,?_⟩
   .have e:=hadl;rw[e] at hmp;exact hmp
   .obtain⟨hn1,hn2⟩:=af.1 hn;have hnn:n≠nx:=λe=>by rw[e,hrx.id] at hn2;simp at hn2
    obtain⟨y,hy,hyx,hr⟩:=node _ (Hk (A7 r d.id s) x.id) kk km rfl hgo ((A9 _ o (λe=>hmp' e.symm)).trans (by rw[hud,dq q];exact Bp ((A4 _ _ _ _ _ (λe=>hne e.symm)).trans hp3))) n hn1 hnn;exact⟨y,af.2 ⟨hy,by simpa using hyx⟩,hr⟩
   .obtain⟨hy1,hy2⟩:=af.1 hy;obtain⟨n,hn,e⟩:=h.all y hy1;exact⟨n,af.2 ⟨hn,by rw[e];exact hy2⟩,e⟩
   .exact(((F3.mono (λk hk1=>by simp at hk1;subst hk1;exact Ak hnp (Nd.m_mem hpb))).setCell (.inl (Ak hnx nx.blk_mem)) _).setCell (.inl (Ak hnp np.blk_mem)) _).putObj (.inl (by unfold fpL;simp)) o
  .have hr':Au r d.id s=Hk (A7 r d.id s) x.id:=by
    unfold Au;rw[hid,hbx,dq (.inr (by rw[hux q,ql]))]
   rw[hr'];have kk:∀k,k < w.heap.size->k≠np.m->k≠nx.blk->k≠np.blk->k≠mi->(putObj (w3.setCell ⟨nx.blk,4,none⟩ (.int .i64 ((A5 r x - 1:Nat):Int))) mi o).heap[k]?=w.heap[k]?:=λk a b c c2 e=>(A9 _ o e).trans ((A4 _ _ _ _ _ c).trans (k3 k a b));have km:(putObj (w3.setCell ⟨nx.blk,4,none⟩ (.int .i64 ((A5 r x - 1:Nat):Int))) mi o).heap[np.m]?=w3.heap[np.m]?:=(A9 _ o (λe=>hmm e.symm)).trans (A4 _ _ _ _ _ (λe=>hm3 (e ▸ nx.blk_mem)));refine⟨⟨N.filter λn=>decide (n.id≠x.id),⟨(kk f l1 hfm hfn hfp hfi).trans h.head,?_,⟨G,hg1.of_block (kk mg l3 hgm hgn hgp (λe=>h.mm e.symm)),hg2⟩,λn hn=>?_,λy hy=>?_,h.sep.filter _,λn hn=>h.off n (af.1 hn).1,h.mm⟩,λn hn=>(af.1 hn).1⟩,?_⟩
   .have e:=hadl;rw[e] at hmp;exact hmp
   .obtain⟨hn1,hn2⟩:=af.1 hn;have hnn:n≠nx:=λe=>by rw[e,hrx.id] at hn2;simp at hn2
    obtain⟨y,hy,hyx,hr⟩:=node _ (Hk (A7 r d.id s) x.id) kk km rfl hgo ((A9 _ o (λe=>hmp' e.symm)).trans ((A4 _ _ _ _ _ (λe=>hne e.symm)).trans (by rw[hp3,hud,dp q]))) n hn1 hnn;exact⟨y,af.2 ⟨hy,by simpa using hyx⟩,hr⟩
   .obtain⟨hy1,hy2⟩:=af.1 hy;obtain⟨n,hn,e⟩:=h.all y hy1;exact⟨n,af.2 ⟨hn,by rw[e];exact hy2⟩,e⟩
   .exact((F3.mono (λk hk1=>by simp at hk1;subst hk1;exact Ak hnp (Nd.m_mem hpb))).setCell (.inl (Ak hnx nx.blk_mem)) _).putObj (.inl (by unfold fpL;simp)) o
  .have hr':Au r d.id s=A7 r d.id s:=by
    unfold Au;rw[hid,hbx,dp];rintro(e | e)
    .exact q e
    .rw[hux q] at e;omega
   rw[hr'];have kk:∀k,k < w.heap.size->k≠np.m->k≠nx.blk->(w3.setCell ⟨nx.blk,4,none⟩ (.int .i64 ((A5 r x - 1:Nat):Int))).heap[k]?=w.heap[k]?:=λk a b c=>(A4 _ _ _ _ _ c).trans (k3 k a b);refine⟨⟨N,⟨(kk f l1 hfm hfn).trans h.head,h.imap.of_block (kk mi l2 hmm hmn),⟨G,hg1.of_block (kk mg l3 hgm hgn),hg2⟩,λn hn=>?_,h.all,h.sep,h.off,h.mm⟩,λn hn=>hn⟩,?_⟩
   .by_cases hnn:n=nx
    .subst hnn;refine⟨x,hx,hrx.mk2 ?_ (λhb=>kk _ (l4 _ hnx _ (Nd.b_mem hb)) (λe=>hm3 (e ▸ Nd.b_mem hb)) ?_) (λq1=>kk _ (l4 _ hnx _ (Nd.m_mem (by rw[hrx.big,q1];rfl))) (λe=>hm3 (e ▸ Nd.m_mem (by rw[hrx.big,q1];rfl))) ?_) (λq1=>dt q1 q)⟩
     .rw[hux q];exact Bp hx3
     .rcases hkx with q1 | q1 | q1
      .obtain⟨sz,bl,g1,_⟩:=hrx.file q1;exact Av g1.head hrx.head (by decide)
      .exact dt q1 q
      .rw[hrx.big,q1] at hb;cases hb
     .obtain⟨sz,bl,g1,_⟩:=hrx.file q1;exact A8 g1.map hrx.head
    .obtain⟨y,hy,_,hr⟩:=node _ (A7 r d.id s) (λk a b c _ _=>kk k a b c) (A4 _ _ _ _ _ (λe=>hm3 (e ▸ nx.blk_mem))) rfl (λ_=>rfl) ((A4 _ _ _ _ _ (λe=>hne e.symm)).trans (by rw[hp3,hud,dp q])) n hn hnn;exact⟨y,hy,hr⟩
   .exact(F3.mono (λk hk1=>by simp at hk1;subst hk1;exact Ak hnp (Nd.m_mem hpb))).setCell (.inl (Ak hnx nx.blk_mem)) _
 have HKd:=aa hk;have HMi:=aa (show mi≠np.m from λe=>o2 (by rw[e];exact Nd.m_mem hpb));clear hw1 hB1 hb1 h1 hrp1 h hW hd hk hnp hrp he hn0 hx1 hx ex hnx hrx hid hbx hxd hnxp hpb l1 l2 l3 l4 hun e1 e2 e3 o1 o2 o3 o4 o5 o6
 go_enter Tryz.func98,Tryz.ntmps98
 go_wp2_with fail
 rw[HW1.out]
 go_upto_region 3 with(go_at_call 59;(with_reducible refine HAt.out.mono ?_);rintro e w2 ⟨rfl,hB2⟩;obtain⟨g1,g2,g3,g4,g5⟩:=HG.out w2 hB2;have hlk:=(g1.look x.id).2;rw[HGet.out] at hlk;simp only[Option.map_some,Option.getD_some,De] at hlk;obtain⟨-,f1,-⟩:=g1.cells;replace hB2:=aa hB2;replace g1:=aa g1;replace g2:=aa g2;replace g3:=aa g3;replace g4:=aa g4;replace g5:=aa g5)
 have d0:w2.cell? ⟨np.b,0,none⟩=some (.map (some np.m)):=by rw[A1 (g2.out.dir HKd.out).1];rfl
 have q1:w2.cell? ⟨w.heap.size,1,none⟩=_:=A1 g4.out 1;have q2:w2.cell? ⟨w.heap.size,2,none⟩=_:=A1 g4.out 2;have hmD:MapB w2.drew np.m Ci Aw (Aa r.nms d.id):=(g2.out.dir HKd.out).2;obtain⟨o,hdel,hmp⟩:=C0 (P:=Tryz.prog) (ty:=0) (tk:=9) KS (t:=150) Tryz.underlying150 hmD s;have hmlt:=hmD.lt;have M3:=aa hmp;have hF3:Frm [np.m] w2 (putObj w2.drew np.m o):=(Frm.refl _ _).drew.putObj (.inl (by simp)) o;have F3:=aa ((Frm.of_below g5.out).trans hF3);have k1:=A8 (g2.out.dir HKd.out).2 g3.out.head;have k2:=A8 (g2.out.dir HKd.out).2 g2.out.head;have X3:=aa ((hF3.block nx.blk (An g3.out.head) (by simpa using λe=>k1 e.symm)).trans g3.out.head);have D3:=aa ((hF3.block np.blk (An g2.out.head) (by simpa using λe=>k2 e.symm)).trans g2.out.head);have Q3:=aa ((hF3.block w.heap.size (An g4.out) (by simpa using A8 (g2.out.dir HKd.out).2 g4.out |>.symm)).trans g4.out);have E3:=aa ((hF3.block f (An g1.out.head) (by simpa using A8 (g2.out.dir HKd.out).2 g1.out.head |>.symm)).trans g1.out.head);have hmi:mi≠np.m:=HMi.out;have I3:=aa (g1.out.imap.of_block (hF3.block mi g1.out.imap.lt (by simpa using hmi)));unfold Ci at hdel;clear hmD hmp hF3
 go_still_tail 7,(by kernel_rfl)
 change wpList _ _ _ _ _ w2.drew
 go_upto_region 4 with fail
 obtain⟨w3,hw3⟩:∃w3,putObj w2.drew np.m o=w3:=⟨_,rfl⟩;rw[hw3];rw[hw3] at M3 F3 X3 D3 Q3 E3 I3;clear hw3 hdel k1 k2 hlk d0 q1 q2 f1;have x4:w3.cell? ⟨nx.blk,4,none⟩=some (.int .i64 (A5 r x:Int)):=by rw[A1 X3.out];rfl
 have x5:w3.cell? ⟨nx.blk,5,none⟩=some (Ad x nx):=by rw[A1 X3.out];rfl
 have x4f:w3.frozen? ⟨nx.blk,4,none⟩=false:=frozen_of_row w3 nx.blk 4 _ _ X3.out;have y4:w3.cell? ⟨np.blk,4,none⟩=some (.int .i64 (A5 r d:Int)):=by rw[A1 D3.out];rfl
 have y4f:w3.frozen? ⟨np.blk,4,none⟩=false:=frozen_of_row w3 np.blk 4 _ _ D3.out;have z0:w3.cell? ⟨w.heap.size,0,none⟩=some (.pointer (some ⟨np.blk,0,none⟩)):=by rw[A1 Q3.out];rfl
 have f1:w3.cell? ⟨f,1,none⟩=some (.map (some mi)):=by rw[A1 E3.out];rfl
 have hqn:w.heap.size≠nx.blk:=Av Q3.out X3.out (by decide);have hqp:w.heap.size≠np.blk:=Av Q3.out D3.out (by decide);have hfn:f≠nx.blk:=Av E3.out X3.out (by decide);have hfp:f≠np.blk:=Av E3.out D3.out (by decide);generalize hlkx:A5 r x=lk at *;generalize hlkd:A5 r d=ld at *;have c1:((lk:Int) - 1)=((lk - 1:Nat):Int):=by omega
 have c2:((ld:Int) - 1)=((ld - 1:Nat):Int):=by omega
 clear hlkx hlkd;generalize hh:Ad x nx=hv at *;clear hh;obtain⟨t1,t2,t3⟩:=HFin.out w3 F3.out M3.out;have T1:=aa t1;have T2:=aa t2;have T3:=aa t3;clear t1 t2 t3 HFin;have hcs:x.kind=2\/x.kind≠2/\(lk=1\/2<=lk):=by omega
 rcases hcs with q | ⟨q,q' | q'⟩
 .simp only[q,if_true] at hta;have T:=aa (T1.out q);clear T1 T2 T3 q;have q3:(2:Int)<=ld:=by omega
  rw[<-c1,<-c2] at T;clear c1 c2;obtain⟨o2,hdl2,hmp2⟩:=C0 (P:=Tryz.prog) (ty:=0) (tk:=3) KI (t:=144) Tryz.underlying144 (I3.out.of_block (w':=(w3.setCell ⟨nx.blk,4,none⟩ (.int .i64 ((lk:Int) - 1))).setCell ⟨np.blk,4,none⟩ (.int .i64 ((ld:Int) - 1))) ((A4 _ _ _ _ _ (A8 I3.out D3.out)).trans (A4 _ _ _ _ _ (A8 I3.out X3.out)))) x.id;have HT:=aa (T.out o2 hmp2);unfold Aw at hdl2;clear T hmp2
  go_wp2
  ((try simp only[Exit.inBlock,Exit.then]);first | refine bodyPost_ret (results_none rfl _ _ _) rfl ?_ | refine bodyPost_end (results_none rfl _ _ _) rfl ?_)
  exact⟨rfl,HT.out⟩
 .simp only[q,if_false] at hta;have T:=aa (T2.out q q');clear T1 T2 T3 q c1 c2;subst q';rw[show(((1 - 1:Nat)):Int)=0 from rfl] at T;obtain⟨o2,hdl2,hmp2⟩:=C0 (P:=Tryz.prog) (ty:=0) (tk:=3) KI (t:=144) Tryz.underlying144 (I3.out.of_block (w':=w3.setCell ⟨nx.blk,4,none⟩ (.int .i64 0)) (A4 _ _ _ _ _ (A8 I3.out X3.out))) x.id;have HT:=aa (T.out o2 hmp2);unfold Aw at hdl2;clear T hmp2
  go_wp2
  ((try simp only[Exit.inBlock,Exit.then]);first | refine bodyPost_ret (results_none rfl _ _ _) rfl ?_ | refine bodyPost_end (results_none rfl _ _ _) rfl ?_)
  exact⟨rfl,HT.out⟩
 .simp only[q,if_false] at hta;have T:=aa (T3.out q (by omega));clear T1 T2 T3 q;have q2:((lk:Int) - 1==0)=false:=by rw[beq_eq_false_iff_ne];omega
  rw[<-c1] at T;clear c1 c2
  go_wp2
  ((try simp only[Exit.inBlock,Exit.then]);first | refine bodyPost_ret (results_none rfl _ _ _) rfl ?_ | refine bodyPost_end (results_none rfl _ _ _) rfl ?_)
  exact⟨rfl,T.out⟩
def Cr (w w':World)(f b a:Nat)(N:List Nd)(r':RFs):Prop :=
 ∃c,FsN w' f b a r' c/\(∀k∈fpL f b a c,k∈fpL f b a N\/w.heap.size<=k)/\Frm (fpL f b a N) w w'
theorem Dv {w w':World}{f c a K:Nat}{N:List Nd}{r:RFs}(h:FsN w f c a r N)(g:Wf r K)(b:Below w.heap.size w w'):Cr w w' f c a N r :=
 ⟨N,h.below g b,λ_ e=>.inl e,Frm.of_below b⟩
theorem Rl {f g c:Nat}{N e:List Nd}(h:∀n∈e,n∈N):∀k∈fpL f g c e,k∈fpL f g c N:=by
 intro k b;unfold fpL at b⊢;simp only[List.mem_cons,List.mem_flatMap] at b⊢;rcases b with a | a | a | ⟨n,hn,a⟩
 .exact .inl a
 .exact .inr (.inl a)
 .exact .inr (.inr (.inl a))
 .exact .inr (.inr (.inr ⟨n,h n hn,a⟩))
def C4 (r:RFs)(h:Int × Int)(s:ByteArray)(fo:Bool):RFs × Int :=
 if B2 r h s false≠0 then(r,B2 r h s false) else if A2 r.nms h.1 s=0 then(r,170)
 else if Fp r (A3 r.ins (A2 r.nms h.1 s)) fo≠0 then(r,Fp r (A3 r.ins (A2 r.nms h.1 s)) fo) else(Au r h.1 s,0)
set_option maxRecDepth 100000 in
set_option maxHeartbeats 4000000 in
theorem W9 {w:World}{f mi mg K:Nat}{r:RFs}{N:List Nd}(h:FsN w f mi mg r N)(hW:Wf r K)(i g:Int)(s:ByteArray)(hs:s.size<=maxLen)(fo:Bool) :
  Calls Tryz.prog 72 #[.pointer (some ⟨f,0,none⟩),.agg #[.int .i64 i,.int .i64 g],.string s,.bool fo] w
   λe w'=>e=.returned (.int .i64 (C4 r (i,g) s fo).2)/\Cr w w' f mi mg N (C4 r (i,g) s fo).1:=by
 obtain⟨w1,hw1,hB,hs1,hb0⟩:=Ht w #[.int .i64 i,.int .i64 g] 31;have t0:w1.cell? ⟨w.heap.size,0,none⟩=some (.int .i64 i):=by rw[A1 hb0];rfl
 have t1:w1.cell? ⟨w.heap.size,1,none⟩=some (.int .i64 g):=by rw[A1 hb0];rfl
 have h1:=h.below hW hB;have HW1:=aa hw1;have HB:=aa hB;have HSt:=aa (show ∀w',Below w.heap.size w w'->Cr w w' f mi mg N r from λw' hb=>Dv h hW hb);by_cases hp:B2 r (i,g) s false=0
 .have hf:=C9 hp;obtain⟨hl,hk2⟩:=Bn hf;obtain⟨m1,m2,m3⟩:=Ac hl;obtain⟨n,hn,hr⟩:=h1.at_ hW m1;have hni:n.id=i:=hr.id.trans m2;have hpl:=E5 h1 hW i g s hs false hf hn hni;rw[hp] at hpl;have HP:=aa hpl;have HAt:=aa (show ∀w4,Below w1.heap.size w1 w4->Calls Tryz.prog 59 #[.agg #[.pointer (some ⟨n.blk,0,none⟩),.pointer (some ⟨n.b,0,none⟩),.string s]] w4 λe w'=>e=.returned (.tuple #[.int .i64 (A2 r.nms i s),.bool (decide (A2 r.nms i s≠0))])/\Below w4.heap.size w4 w' from λw4 hb=>by
   have hr4:=hr.below (hW.kind _ m1) hb;have:=Bc hr4 hk2 (hr4.lt (hW.kind _ m1)) s (some ⟨n.blk,0,none⟩);rw[m2,hW.entry_some] at this;exact this)
  by_cases he:A2 r.nms i s=0
  .rw[show C4 r (i,g) s fo=(r,170) by unfold C4;rw[dp (by simp[hp]),dq he]];rw[he] at HAt;simp only[ne_eq,not_true_eq_false,decide_false] at HAt;clear hw1 hB hb0 h h1 hW hp hf hl hk2 m1 m2 m3 hn hr hni hpl he
   go_enter Tryz.func72,Tryz.ntmps72
   go_wp2_with fail
   rw[HW1.out]
   go_upto_region 4 with(go_at_call 58;(with_reducible refine HP.out.mono ?_);rintro e w3 ⟨rfl,hB3⟩;have hs3:=hB3.size;replace hB3:=aa hB3)
   obtain⟨w4,hw4,hB4,hs4,hb4⟩:=Ht w3 #[.pointer (some ⟨n.blk,0,none⟩),.pointer (some ⟨n.b,0,none⟩),.string s] 137;rw[hw4];have c5:w4.cell? ⟨w3.heap.size,0,none⟩=some (.pointer (some ⟨n.blk,0,none⟩)):=by rw[A1 hb4];rfl
   have c6:w4.cell? ⟨w3.heap.size,1,none⟩=some (.pointer (some ⟨n.b,0,none⟩)):=by rw[A1 hb4];rfl
   have c7:w4.cell? ⟨w3.heap.size,2,none⟩=some (.string s):=by rw[A1 hb4];rfl
   have HB4:=aa (hB3.out.trans (hB4.mono (by omega)));clear hw4 hb4 hB4
   go_wp2_with (go_at_call 59;(with_reducible refine(HAt.out _ HB4.out).mono ?_);rintro e w5 ⟨rfl,hB5⟩;replace hB5:=aa hB5)
   go_ret
   exact⟨rfl,HSt.out _ ((HB.out.trans (HB4.out.mono (by omega))).trans (hB5.out.mono (by omega)))⟩
  .obtain⟨nm,hnm,e1,e2,e3⟩:=B4 he;obtain⟨_,x,hx,ex⟩:=hW.nmI nm hnm;obtain⟨nx,hnx,hrx⟩:=h1.at_ hW hx;have hid:A2 r.nms i s=x.id:=by rw[<-e3,<-ex]
   have hbx:A3 r.ins x.id=x:=hW.byId hx;have hxk:=hW.kind x hx;have HG:=aa (show ∀w2,Below w1.heap.size w1 w2->w2.cell? ⟨f,1,none⟩=some (.map (some mi))/\(Instr.lookup 144 (.map (some mi)) (.int .i64 x.id) false).run Tryz.prog w2=.ok (.pointer (some ⟨nx.blk,0,none⟩)) w2 from λw2 hb=>by have h2:=h1.below hW hb;have hlk:=(h2.look x.id).2;have hg:=h2.get hnx;rw[hrx.id] at hg;rw[hg] at hlk;exact⟨h2.cells.2.1,hlk⟩)
   have HMy:=aa (show ∀w2,Below w1.heap.size w1 w2->Calls Tryz.prog 97 #[.pointer (some ⟨f,0,none⟩),.pointer (some ⟨nx.blk,0,none⟩),.bool fo] w2 λe w'=>e=.returned (.int .i64 (Fp r x fo))/\w2=w' from λw2 hb=>I6 (hrx.below hxk hb) fo (some ⟨f,0,none⟩));have he':decide (x.id≠0)=true:=decide_eq_true (by rw[<-hid];exact he);by_cases hm:Fp r x fo=0
   .have HD:=aa (show ∀w2,Below w1.heap.size w1 w2->Calls Tryz.prog 98 #[.pointer (some ⟨f,0,none⟩),.agg #[.pointer (some ⟨n.blk,0,none⟩),.pointer (some ⟨n.b,0,none⟩),.string s]] w2 λe w'=>e=.returned (.tuple #[])/\Cr w w' f mi mg N (Au r i s) from λw2 hb=>by
     have:=J3 (h1.below hW hb) hW m1 hk2 hn (hr.below (hW.kind _ m1) hb) s (by rw[m2];exact he);rw[m2] at this;refine this.mono λe w' ⟨h1,⟨N',h2,h3⟩,h4⟩=>⟨h1,N',h2,λk hk=>.inl (Rl h3 k hk),?_⟩;exact(Frm.of_below (hB.trans (hb.mono hB.size))).trans h4)
    rw[show C4 r (i,g) s fo=(Au r i s,0) by unfold C4;rw[dp (by simp[hp]),dp he,dp (by rw[hid,hbx,hm];simp)]];rw[hid] at HAt;rw[he'] at HAt;rw[hm] at HMy;clear hw1 hB hb0 h h1 hW hp hf hl hk2 m1 m2 m3 hn hr hni hpl he e1 e2 e3 hx ex hnx hrx hid hbx hxk he' hm hnm
    go_enter Tryz.func72,Tryz.ntmps72
    go_wp2_with fail
    rw[HW1.out]
    go_upto_region 4 with(go_at_call 58;(with_reducible refine HP.out.mono ?_);rintro e w3 ⟨rfl,hB3⟩;have hs3:=hB3.size;replace hB3:=aa hB3)
    obtain⟨w4,hw4,hB4,hs4,hb4⟩:=Ht w3 #[.pointer (some ⟨n.blk,0,none⟩),.pointer (some ⟨n.b,0,none⟩),.string s] 137;rw[hw4];have c5:w4.cell? ⟨w3.heap.size,0,none⟩=some (.pointer (some ⟨n.blk,0,none⟩)):=by rw[A1 hb4];rfl
    have c6:w4.cell? ⟨w3.heap.size,1,none⟩=some (.pointer (some ⟨n.b,0,none⟩)):=by rw[A1 hb4];rfl
    have c7:w4.cell? ⟨w3.heap.size,2,none⟩=some (.string s):=by rw[A1 hb4];rfl
    have HB4:=aa (hB3.out.trans (hB4.mono (by omega)));have HX4:=aa hb4;clear hw4 hb4 hB4
    go_wp2_with (first
     | (go_at_call 59;(with_reducible refine(HAt.out _ HB4.out).mono ?_);rintro e w5 ⟨rfl,hB5⟩;have hX5:=(hB5.block _ (by omega)).trans HX4.out;have d5:w5.cell? ⟨w3.heap.size,0,none⟩=_:=A1 hX5 0;have d6:w5.cell? ⟨w3.heap.size,1,none⟩=_:=A1 hX5 1;have d7:w5.cell? ⟨w3.heap.size,2,none⟩=_:=A1 hX5 2;have hB5':=HB4.out.trans (hB5.mono (by omega));obtain⟨j1,j2⟩:=HG.out w5 hB5';clear hX5;replace hB5':=aa hB5';clear hB5)
     | (go_at_call 97;(with_reducible refine(HMy.out _ hB5'.out).mono ?_);rintro e w6 ⟨rfl,rfl⟩)
     | (go_at_call 98;(with_reducible refine(HD.out _ hB5'.out).mono ?_);rintro e w7 ⟨rfl,hS7⟩;replace hS7:=aa hS7))
    go_ret
    exact⟨rfl,hS7.out⟩
   .rw[show C4 r (i,g) s fo=(r,Fp r x fo) by unfold C4;rw[dp (by simp[hp]),dp he,dq (by rw[hid,hbx];exact hm),hid,hbx]];rw[hid] at HAt;rw[he'] at HAt;have hne:(Fp r x fo != 0)=true:=by rw[bne_iff_ne];exact hm
    generalize Fp r x fo=my at *;clear hw1 hB hb0 h h1 hW hp hf hl hk2 m1 m2 m3 hn hr hni hpl he e1 e2 e3 hx ex hnx hrx hid hbx hxk he' hm hnm
    go_enter Tryz.func72,Tryz.ntmps72
    go_wp2_with fail
    rw[HW1.out]
    go_upto_region 4 with(go_at_call 58;(with_reducible refine HP.out.mono ?_);rintro e w3 ⟨rfl,hB3⟩;have hs3:=hB3.size;replace hB3:=aa hB3)
    obtain⟨w4,hw4,hB4,hs4,hb4⟩:=Ht w3 #[.pointer (some ⟨n.blk,0,none⟩),.pointer (some ⟨n.b,0,none⟩),.string s] 137;rw[hw4];have c5:w4.cell? ⟨w3.heap.size,0,none⟩=some (.pointer (some ⟨n.blk,0,none⟩)):=by rw[A1 hb4];rfl
    have c6:w4.cell? ⟨w3.heap.size,1,none⟩=some (.pointer (some ⟨n.b,0,none⟩)):=by rw[A1 hb4];rfl
    have c7:w4.cell? ⟨w3.heap.size,2,none⟩=some (.string s):=by rw[A1 hb4];rfl
    have HB4:=aa (hB3.out.trans (hB4.mono (by omega)));clear hw4 hb4 hB4
    go_wp2_with (first
     | (go_at_call 59;(with_reducible refine(HAt.out _ HB4.out).mono ?_);rintro e w5 ⟨rfl,hB5⟩;have hB5':=HB4.out.trans (hB5.mono (by omega));obtain⟨j1,j2⟩:=HG.out w5 hB5';replace hB5':=aa hB5';clear hB5)
     | (go_at_call 97;(with_reducible refine(HMy.out _ hB5'.out).mono ?_);rintro e w6 ⟨rfl,rfl⟩))
    go_ret
    exact⟨rfl,HSt.out _ (HB.out.trans (hB5'.out.mono (by omega)))⟩
 .rw[show C4 r (i,g) s fo=(r,B2 r (i,g) s false) by unfold C4;rw[dq hp]];obtain⟨pa,pb,pc,hpl⟩:=L1 h1 hW i g s hs false hp;have HP:=aa hpl;have hne:(B2 r (i,g) s false != 0)=true:=by rw[bne_iff_ne];exact hp
  generalize B2 r (i,g) s false=pe at *;clear hw1 hB hb0 h h1 hW hp hpl
  go_enter Tryz.func72,Tryz.ntmps72
  go_wp2_with fail
  rw[HW1.out]
  go_wp2_with (go_at_call 58;(with_reducible refine HP.out.mono ?_);rintro e w3 ⟨rfl,hB3⟩;have hs3:=hB3.size;replace hB3:=aa hB3)
  go_ret
  exact⟨rfl,HSt.out _ ((HB.out.trans (hB3.out.mono (by omega))).alloc (by omega) _)⟩
theorem M6 (w:World)(x:RIn)(n:Nd):(Instr.typeAssert (Ad x n) 20 148 true).run Tryz.prog w=.ok (if x.kind=1 then .tuple #[De n.b,.bool true] else .tuple #[.pointer none,.bool false]) w:=by
 unfold Ad;by_cases a:x.kind=1
 .rw[dq a,dq a];exact Sd w _ _ _ Tryz.underlying148 (λe h=>by cases h)
 .rw[dp a,dp a];by_cases c:x.kind=2
  .rw[dq c];exact Hg w _ _ _ _ Tryz.underlying148 (λe h=>by cases h) (by decide) (Zfx w)
  .rw[dp c];exact Hg w _ _ _ _ Tryz.underlying148 (λe h=>by cases h) (by decide) (Zfx w)
theorem Z11 (w:World)(x:RIn)(n:Nd):(Instr.typeAssert (Ad x n) 20 9 true).run Tryz.prog w=.ok (if x.kind≠1/\x.kind≠2 then .tuple #[.string x.target,.bool true] else .tuple #[.string Jr,.bool false]) w:=by
 unfold Ad;by_cases b:x.kind=1
 .rw[dq b,dp (λe=>e.1 b)];exact Hg w _ _ _ _ Tryz.underlying9 (λc h=>by cases h) (by decide) (Zfs w)
 .rw[dp b];by_cases a:x.kind=2
  .rw[dq a,dp (λe=>e.2 a)];exact Hg w _ _ _ _ Tryz.underlying9 (λc h=>by cases h) (by decide) (Zfs w)
  .rw[dp a,dq ⟨b,a⟩];exact Sd w _ _ _ Tryz.underlying9 (λc h=>by cases h)
def B7 (r:RFs)(h:Int × Int):Int:=if Aj r h=true then(if(A3 r.ins h.1).kind=1 then 0 else if(A3 r.ins h.1).kind=2 then 172 else 1) else 175
theorem Dt {r:RFs}{h:Int × Int}(a:B7 r h=0):Aj r h=true/\(A3 r.ins h.1).kind=1:=by
 unfold B7 at a;split at a
 .rename_i h1
  split at a
  .rename_i h2;exact⟨h1,h2⟩
  .split at a<;>cases a
 .cases a
set_option maxRecDepth 100000 in
set_option maxHeartbeats 2000000 in
theorem Lk {w:World}{f mi mg K:Nat}{r:RFs}{N:List Nd}(h:FsN w f mi mg r N)(hW:Wf r K)(i g:Int)(he:B7 r (i,g)=0){n:Nd}(hn:n∈N)(hi:n.id=i) :
  Calls Tryz.prog 101 #[.pointer (some ⟨f,0,none⟩),.agg #[.int .i64 i,.int .i64 g]] w λe w'=>e=.returned (.tuple #[.pointer (some ⟨n.blk,0,none⟩),.pointer (some ⟨n.b,0,none⟩),.int .i64 0])/\Below w.heap.size w w':=by
 obtain⟨hl,hk⟩:=Dt he;obtain⟨w1,hw1,hB,hs1,hb0⟩:=Ht w #[.int .i64 i,.int .i64 g] 31;have t0:w1.cell? ⟨w.heap.size,0,none⟩=some (.int .i64 i):=by rw[A1 hb0];rfl
 have t1:w1.cell? ⟨w.heap.size,1,none⟩=some (.int .i64 g):=by rw[A1 hb0];rfl
 have h1:=h.below hW hB;have HFd:=aa (Ec h1 hW i g hl hn hi);unfold De at HFd;obtain⟨x,hx,hr⟩:=h1.node n hn;have hxk:x.kind=1:=by have a:=hW.byId hx;rw[<-hr.id,hi] at a;rw[<-a];exact hk
 have HC:=aa (show ∀w2,Below w1.heap.size w1 w2->w2.cell? ⟨n.blk,5,none⟩=some (Ad x n) from λw2 hb=>((hr.below (.inl hxk) hb).cells).2.2.2.2.2);have hta:=λw=>M6 w x n;simp only[hxk,if_true,De] at hta;generalize Ad x n=hv at *;have HW1:=aa hw1;have HB:=aa hB;clear hw1 hB hb0 h h1 hW he hl hk hn hi hx hr hxk
 go_enter Tryz.func101,Tryz.ntmps101
 go_wp2_with fail
 rw[HW1.out]
 go_wp2_with (go_at_call 81;(with_reducible refine HFd.out.mono ?_);rintro e w3 ⟨rfl,hB3⟩;have c5:=HC.out w3 hB3;replace hB3:=aa hB3)
 go_ret3
 exact⟨rfl,HB.out.trans (hB3.out.mono (by omega))⟩
set_option maxRecDepth 100000 in
set_option maxHeartbeats 2000000 in
theorem Ov {w:World}{f mi mg K:Nat}{r:RFs}{N:List Nd}(h:FsN w f mi mg r N)(hW:Wf r K)(i g:Int)(he:B7 r (i,g)≠0) :
  Calls Tryz.prog 101 #[.pointer (some ⟨f,0,none⟩),.agg #[.int .i64 i,.int .i64 g]] w λe w'=>e=.returned (.tuple #[.pointer none,.pointer none,.int .i64 (B7 r (i,g))])/\Below w.heap.size w w':=by
 obtain⟨w1,hw1,hB,hs1,hb0⟩:=Ht w #[.int .i64 i,.int .i64 g] 31;have t0:w1.cell? ⟨w.heap.size,0,none⟩=some (.int .i64 i):=by rw[A1 hb0];rfl
 have t1:w1.cell? ⟨w.heap.size,1,none⟩=some (.int .i64 g):=by rw[A1 hb0];rfl
 have h1:=h.below hW hB;have HW1:=aa hw1;have HB:=aa hB;cases hl:Aj r (i,g)
 .have HFd:=aa (Hv h1 hW i g hl);rw[show B7 r (i,g)=175 by unfold B7;rw[hl];rfl];clear hw1 hB hb0 h h1 hW he hl
  go_enter Tryz.func101,Tryz.ntmps101
  go_wp2_with fail
  rw[HW1.out]
  go_wp2_with (go_at_call 81;(with_reducible refine HFd.out.mono ?_);rintro e w3 ⟨rfl,hB3⟩;replace hB3:=aa hB3)
  go_ret3
  exact⟨rfl,HB.out.trans (hB3.out.mono (by omega))⟩
 .obtain⟨m1,m2,m3⟩:=Ac hl;obtain⟨n,hn,hr⟩:=h1.at_ hW m1;have HFd:=aa (Ec h1 hW i g hl hn (hr.id.trans m2));unfold De at HFd;have hk:=hW.kind _ m1;have HC:=aa (show ∀w2,Below w1.heap.size w1 w2->w2.cell? ⟨n.blk,5,none⟩=some (Ad (A3 r.ins i) n) from λw2 hb=>((hr.below hk hb).cells).2.2.2.2.2);have hta:=λw=>M6 w (A3 r.ins i) n;have htd:=λw=>Cl w (A3 r.ins i) n;have hk1:(A3 r.ins i).kind≠1:=λe=>he (by unfold B7;rw[dq hl,dq e]);by_cases hk2:(A3 r.ins i).kind=2
  .rw[show B7 r (i,g)=172 by unfold B7;rw[dq hl,dp hk1,dq hk2]];simp only[hk1,if_false] at hta;simp only[hk2,if_true,De] at htd;generalize Ad (A3 r.ins i) n=hv at *;clear hw1 hB hb0 h h1 hW he hl m1 m2 m3 hn hr hk hk1 hk2
   go_enter Tryz.func101,Tryz.ntmps101
   go_wp2_with fail
   rw[HW1.out]
   go_wp2_with (go_at_call 81;(with_reducible refine HFd.out.mono ?_);rintro e w3 ⟨rfl,hB3⟩;have c5:=HC.out w3 hB3;replace hB3:=aa hB3)
   go_ret3
   exact⟨rfl,HB.out.trans (hB3.out.mono (by omega))⟩
  .rw[show B7 r (i,g)=1 by unfold B7;rw[dq hl,dp hk1,dp hk2]];simp only[hk1,if_false] at hta;simp only[hk2,if_false] at htd;generalize Ad (A3 r.ins i) n=hv at *;clear hw1 hB hb0 h h1 hW he hl m1 m2 m3 hn hr hk hk1 hk2
   go_enter Tryz.func101,Tryz.ntmps101
   go_wp2_with fail
   rw[HW1.out]
   go_wp2_with (go_at_call 81;(with_reducible refine HFd.out.mono ?_);rintro e w3 ⟨rfl,hB3⟩;have c5:=HC.out w3 hB3;replace hB3:=aa hB3)
   go_ret3
   exact⟨rfl,HB.out.trans (hB3.out.mono (by omega))⟩
def Zfj (w w':World)(P:Option Addr)(l:List UInt8):Prop:=P=none/\l=[]\/∃g,w.heap.size<=g/\P=some ⟨g,0,none⟩/\w'.heap[g]?=some (.cells (l.map B3).toArray 5 (0,0))
theorem Zca {w:World}{b m size:Nat}{bl:List (Nat × List UInt8)}{B:List UInt8}{On:List Nat}(h:Raw w b m size bl)(c:Kz size bl B On)(a n:Int) :
  Calls Tryz.prog 105 #[.pointer (some ⟨b,0,none⟩),.int .i64 a,.int .i64 n] w
   λe w'=>∃P,e=.returned (.slice P (Ej B a n).length (Ej B a n).length)/\Zfj w w' P (Ej B a n)/\Below w.heap.size w w':=by
 refine(Z5t h a n).mono λe w' ⟨i,h2,h3⟩=>?_;cases hf:N8 size a n
 .have f:Ej B a n=[]:=by unfold Ej;rw[c.len,hf];rfl
  rw[f];exact⟨none,i hf,.inl ⟨rfl,rfl⟩,h3⟩
 .obtain⟨g,l,k,j⟩:=h2 hf;obtain⟨g0,p,o⟩:=of_decide_eq_true hf;have f:Ej B a n=Iw bl a.toNat (min n.toNat (size - a.toNat)):=by
   unfold Ej;rw[c.len,hf,dq rfl,Yj c _ _ (by omega),List.take_eq_take_iff];simp[c.len]
  rw[f,Gv];exact⟨_,k,.inr ⟨g,l,rfl,j⟩,h3⟩
def Ct (r:RFs)(h:Int × Int)(a n:Int):List UInt8 × Int:=if B7 r h≠0 then([],B7 r h) else if a < 0\/n < 0 then([],1) else(Ej (A3 r.ins h.1).B a n,0)
set_option maxRecDepth 100000 in
set_option maxHeartbeats 2000000 in
theorem Z06 {w:World}{f mi mg K:Nat}{r:RFs}{N:List Nd}(h:FsN w f mi mg r N)(hW:Wf r K)(i g a n:Int) :
  Calls Tryz.prog 77 #[.pointer (some ⟨f,0,none⟩),.agg #[.int .i64 i,.int .i64 g],.int .i64 a,.int .i64 n] w
   λe w'=>∃P,e=.returned (.tuple #[.slice P (Ct r (i,g) a n).1.length (Ct r (i,g) a n).1.length,.int .i64 (Ct r (i,g) a n).2])/\Zfj w w' P (Ct r (i,g) a n).1/\Below w.heap.size w w':=by
 obtain⟨w1,hw1,hB,hs1,hb0⟩:=Ht w #[.int .i64 i,.int .i64 g] 31;have t0:w1.cell? ⟨w.heap.size,0,none⟩=some (.int .i64 i):=by rw[A1 hb0];rfl
 have t1:w1.cell? ⟨w.heap.size,1,none⟩=some (.int .i64 g):=by rw[A1 hb0];rfl
 have h1:=h.below hW hB;have HW1:=aa hw1;have HB:=aa hB;by_cases he:B7 r (i,g)=0
 .obtain⟨hl,hk⟩:=Dt he;obtain⟨m1,m2,m3⟩:=Ac hl;obtain⟨nx,hn,hr⟩:=h1.at_ hW m1;have HSh:=aa (Lk h1 hW i g he hn (hr.id.trans m2));have hne:¬B7 r (i,g)≠0:=by simp[he]
  by_cases hneg:a < 0\/n < 0
  .rw[show Ct r (i,g) a n=([],1) by unfold Ct;rw[dp hne,dq hneg]];have hcs:a < 0\/0<=a/\n < 0:=by omega
   clear hw1 hB hb0 h h1 hW he hl hk m1 m2 m3 hn hr hne hneg;rcases hcs with q | ⟨q,q'⟩
   all_goals
    go_enter Tryz.func77,Tryz.ntmps77
    go_wp2_with fail
    rw[HW1.out]
    go_wp2_with (go_at_call 101;(with_reducible refine HSh.out.mono ?_);rintro e w3 ⟨rfl,hB3⟩;replace hB3:=aa hB3)
    go_ret2
    exact⟨none,rfl,.inl ⟨rfl,rfl⟩,HB.out.trans (hB3.out.mono (by omega))⟩
  .rw[show Ct r (i,g) a n=(Ej (A3 r.ins i).B a n,0) by unfold Ct;rw[dp hne,dp hneg]];have HRd:=aa (show ∀w2,Below w1.heap.size w1 w2->Calls Tryz.prog 105 #[.pointer (some ⟨nx.b,0,none⟩),.int .i64 a,.int .i64 n] w2
     λe w'=>∃P,e=.returned (.slice P (Ej (A3 r.ins i).B a n).length (Ej (A3 r.ins i).B a n).length)/\Zfj w2 w' P (Ej (A3 r.ins i).B a n)/\Below w2.heap.size w2 w' from λw2 hb=>by
    obtain⟨sz,bl,g1,g2⟩:=(hr.below (.inl hk) hb).file hk;exact Zca g1 g2 a n)
   generalize Ej (A3 r.ins i).B a n=L at *;have q1:0<=a:=by omega
   have q2:0<=n:=by omega
   clear hw1 hB hb0 h h1 hW he hl hk m1 m2 m3 hn hr hne hneg
   go_enter Tryz.func77,Tryz.ntmps77
   go_wp2_with fail
   rw[HW1.out]
   go_wp2_with (first
    | (go_at_call 101;(with_reducible refine HSh.out.mono ?_);rintro e w3 ⟨rfl,hB3⟩;replace hB3:=aa hB3)
    | (go_at_call 105;(with_reducible refine(HRd.out w3 hB3.out).mono ?_);rintro e w4 ⟨P,rfl,ho4,hB4⟩;replace hB4:=aa hB4;replace ho4:=aa ho4))
   go_ret2
   have h3:=hB3.out.size;refine⟨P,rfl,?_,(HB.out.trans (hB3.out.mono (by omega))).trans (hB4.out.mono (by omega))⟩;rcases ho4.out with h | ⟨g,a1,a2,a3⟩
   .exact .inl h
   .exact .inr ⟨g,by omega,a2,a3⟩
 .have HSh:=aa (Ov h1 hW i g he);have hne:(B7 r (i,g) != 0)=true:=by rw[bne_iff_ne];exact he
  rw[show Ct r (i,g) a n=([],B7 r (i,g)) by unfold Ct;rw[dq he]];generalize B7 r (i,g)=se at *;clear hw1 hB hb0 h h1 hW he
  go_enter Tryz.func77,Tryz.ntmps77
  go_wp2_with fail
  rw[HW1.out]
  go_wp2_with (go_at_call 101;(with_reducible refine HSh.out.mono ?_);rintro e w3 ⟨rfl,hB3⟩;replace hB3:=aa hB3)
  go_ret2
  exact⟨none,rfl,.inl ⟨rfl,rfl⟩,HB.out.trans (hB3.out.mono (by omega))⟩
theorem Jp {r:RFs}{K:Nat}(c:Wf r K){x x':RIn}(f:x∈r.ins)(b:x'.id=x.id)(a:x'.kind=x.kind)(y:RIn):A5 (Hn r x') y=A5 r y:=by
 refine E1 rfl rfl rfl λn _=>?_;rw[Qh];by_cases e:n.id=x'.id
 .rw[dq e,a,e,b,c.byId f]
 .rw[dp e]
theorem Zdj {w w':World}{f q j K:Nat}{r:RFs}{N:List Nd}(h:FsN w f q j r N)(v:Wf r K){x x':RIn}{nx:Nd}(z:x∈r.ins)(t:x'.id=x.id)(A:x'.kind=x.kind)(b:nx∈N)(l:NodeR w r x nx)
  (i:∀k,k < w.heap.size->k ∉ nx.foot->w'.heap[k]?=w.heap[k]?) (s:NodeR w' (Hn r x') x' nx):FsN w' f q j (Hn r x') N:=by
 obtain⟨C,D,F,E⟩:=h.lt v;obtain⟨B,H,I⟩:=h.off nx b;obtain⟨G,u,p⟩:=h.gmap;refine⟨(i f C B).trans h.head,h.imap.of_block (i q D H),⟨G,u.of_block (i j F I),p⟩,λn c=>?_,λy a=>?_,h.sep,h.off,h.mm⟩
 .by_cases e:n=nx
  .subst e;exact⟨x',cd.2 (.inr (by simp)),s⟩
  .obtain⟨y,a,hr⟩:=h.node n c;have o:y.id≠x.id:=λm=>e (Ba h.idU c b (by rw[hr.id,l.id,m]));exact⟨y,cd.2 (.inl (af.2 ⟨a,by simpa [t] using o⟩)),hr.keep (λk g=>i k (E n c k g) (λm=>h.apart c b e k g m)) (Jp v z t A y) (λ_=>rfl)⟩
 .rcases cd.1 a with a | a
  .exact h.all y (af.1 a).1
  .simp only[List.mem_singleton] at a;subst a;obtain⟨n,c,e⟩:=h.all x z;exact⟨n,c,by rw[e,t]⟩
def Gl (x:RIn)(B:List UInt8)(On:List Nat)(t:Int):RIn:={x with B:=B,On:=On,time:=t}
theorem Y9 {w l w':World}{f D v K:Nat}{r:RFs}{N:List Nd}(h:FsN w f D v r N)(y:Wf r K){x:RIn}{nx:Nd}(E:x∈r.ins)(c:x.kind=1)(j:nx∈N)(a:NodeR w r x nx){size:Nat}{bl:List (Nat × List UInt8)}{B:List UInt8}{On:List Nat}{t:Int}
  (u:Frm [nx.b,nx.m] w l) (I:Raw l nx.b nx.m size bl) (L:Kz size bl B On) (i:l.setCell ⟨nx.blk,3,none⟩ (.int .i64 t)=w'):Cr w w' f D v N (Hn r (Gl x B On t)):=by
 have g:nx.big=true:=by rw[a.big,c];rfl
 obtain⟨sz,H,C,M⟩:=a.file c;have z:nx.blk≠nx.b:=Av a.head C.head (by decide);have A:nx.m≠nx.blk:=A8 C.map a.head;have F:l.heap[nx.blk]?=some (.cells (Ks x (A5 r x) nx) 143 (0,0)):=(u.block _ (An a.head) (by simp;exact⟨z,λe=>A e.symm⟩)).trans a.head;have n:w'.heap[nx.blk]?=some (.cells (Ks (Gl x B On t) (A5 r x) nx) 143 (0,0)):=by rw[<-i];exact heap_setCell_same l nx.blk 3 _ _ _ F
 have p:∀k,k≠nx.blk->w'.heap[k]?=l.heap[k]?:=λk c=>by rw[<-i];exact A4 _ _ _ _ _ c
 have s:Raw w' nx.b nx.m size bl:=I.keep (p _ (λe=>z e.symm)) (p _ A);have J:nx.b∈nx.foot:=Nd.b_mem g;have G:nx.m∈nx.foot:=Nd.m_mem g;refine⟨N,Zdj h y E (x':=Gl x B On t) rfl rfl j a (λk c o=>(p k (λe=>o (e ▸ nx.blk_mem))).trans (u.block k c (by simp;exact⟨λe=>o (e ▸ J),λe=>o (e ▸ G)⟩))) ⟨a.id,?_,a.big,λ_=>⟨size,bl,s,L⟩,λq=>dt (c.symm.trans q) (by decide)⟩,λk c=>.inl c,?_⟩
 .rw[Jp y E (x':=Gl x B On t) rfl rfl];exact n
 .rw[<-i];exact(u.mono (λk c=>by simp at c;rcases c with rfl | rfl<;>exact Ak j (by assumption))).setCell (.inl (Ak j nx.blk_mem)) _
def Fk (r:RFs)(h:Int × Int)(n t:Int):RFs × Int :=
 if B7 r h≠0 then(r,B7 r h) else if n < 0\/Em t=false then(r,1) else if G7 n=false then(r,177)
 else(Hn r (Gl (A3 r.ins h.1) (rcB (A3 r.ins h.1).B n) (Un (A3 r.ins h.1).B (A3 r.ins h.1).On n) t),0)
set_option maxRecDepth 100000 in
set_option maxHeartbeats 4000000 in
theorem Z3a {w:World}{f mi mg K:Nat}{r:RFs}{N:List Nd}(h:FsN w f mi mg r N)(hW:Wf r K)(i g n t:Int) :
  Calls Tryz.prog 75 #[.pointer (some ⟨f,0,none⟩),.agg #[.int .i64 i,.int .i64 g],.int .i64 n,.int .i64 t] w
   λe w'=>e=.returned (.int .i64 (Fk r (i,g) n t).2)/\Cr w w' f mi mg N (Fk r (i,g) n t).1:=by
 obtain⟨w1,hw1,hB,hs1,hb0⟩:=Ht w #[.int .i64 i,.int .i64 g] 31;have t0:w1.cell? ⟨w.heap.size,0,none⟩=some (.int .i64 i):=by rw[A1 hb0];rfl
 have t1:w1.cell? ⟨w.heap.size,1,none⟩=some (.int .i64 g):=by rw[A1 hb0];rfl
 have h1:=h.below hW hB;have HW1:=aa hw1;have HB:=aa hB;have HSt:=aa (show ∀w',Below w.heap.size w w'->Cr w w' f mi mg N r from λw' hb=>Dv h hW hb);have HC:=aa (M9 t);by_cases he:B7 r (i,g)=0
 .obtain⟨hl,hk⟩:=Dt he;obtain⟨m1,m2,m3⟩:=Ac hl;obtain⟨nx,hn,hr⟩:=h1.at_ hW m1;have HSh:=aa (Lk h1 hW i g he hn (hr.id.trans m2));have hne:¬B7 r (i,g)≠0:=by simp[he]
  have hcs:(n < 0\/0<=n/\Em t=false)\/0<=n/\Em t=true/\(G7 n=false\/G7 n=true):=by cases Em t<;>cases G7 n<;>simp<;>omega
  have HCt:=aa (show ∀w2,Below w1.heap.size w1 w2->Calls Tryz.prog 104 #[.pointer (some ⟨nx.b,0,none⟩),.int .i64 n] w2
    λe w'=>e=.returned (.bool (G7 n))/\(G7 n=false->Cr w w' f mi mg N r)/\w'.cell? ⟨nx.blk,3,none⟩=some (.int .i64 (A3 r.ins i).time)/\w'.frozen? ⟨nx.blk,3,none⟩=false /\
     ∀w5,w'.setCell ⟨nx.blk,3,none⟩ (.int .i64 t)=w5->Cr w w5 f mi mg N (Hn r (Gl (A3 r.ins i) (rcB (A3 r.ins i).B n) (Un (A3 r.ins i).B (A3 r.ins i).On n) t)) from λw2 hb=>by
   have hr2:=hr.below (.inl hk) hb;obtain⟨sz,bl,g1,g2⟩:=hr2.file hk;have hbw:Below w.heap.size w w2:=hB.trans (hb.mono hB.size);refine(Z8f g1 n).mono λe w' ⟨a1,a2,a3⟩=>?_;have n1:nx.blk≠nx.b:=Av hr2.head g1.head (by decide);have n2:nx.m≠nx.blk:=A8 g1.map hr2.head;have hh:w'.heap[nx.blk]?=_:=(a3.block nx.blk (An hr2.head) (by simp;exact⟨n1,λe=>n2 e.symm⟩)).trans hr2.head;refine⟨a1,λq=>?_,by rw[A1 hh];rfl,frozen_of_row w' nx.blk 3 _ _ hh,λw5 hw5=>?_⟩
   .have hbl:Gs sz bl n=bl:=by unfold Gs;rw[dp (by rw[q];simp)]
    have hsz:Ds sz n=sz:=by unfold Ds;rw[dp (by rw[q];simp)]
    rw[hbl,hsz] at a2;have h2:=h1.below hW hb;refine⟨N,?_,λk hk=>.inl hk,((Frm.of_below hbw).trans (a3.mono λk hk'=>?_))⟩
    .obtain⟨l1,l2,l3,l4⟩:=h2.lt hW;obtain⟨o1,o2,o3⟩:=h2.off nx hn;have hbig:nx.big=true:=by rw[hr2.big,hk];rfl
     obtain⟨G,hg1,hg2⟩:=h2.gmap;have kk:∀k,k < w2.heap.size->k ∉ nx.foot->w'.heap[k]?=w2.heap[k]?:=λk hk' hf=>a3.block k hk' (by simp;exact⟨λe=>hf (e ▸ Nd.b_mem hbig),λe=>hf (e ▸ Nd.m_mem hbig)⟩);refine⟨(kk f l1 o1).trans h2.head,h2.imap.of_block (kk mi l2 o2),⟨G,hg1.of_block (kk mg l3 o3),hg2⟩,λn' hn'=>?_,h2.all,h2.sep,h2.off,h2.mm⟩;by_cases e:n'=nx
     .subst e;exact⟨_,m1,⟨hr2.id,hh,hr2.big,λ_=>⟨sz,bl,a2,g2⟩,λq=>dt (hk.symm.trans q) (by decide)⟩⟩
     .obtain⟨y,hy,hry⟩:=h2.node n' hn';exact⟨y,hy,hry.keep (λk hkf=>kk k (l4 n' hn' k hkf) (λe2=>h2.apart hn' hn e k hkf e2)) rfl (λ_=>rfl)⟩
    .simp at hk';have hbig:nx.big=true:=by rw[hr2.big,hk];rfl
     rcases hk' with rfl | rfl
     .exact Ak hn (Nd.b_mem hbig)
     .exact Ak hn (Nd.m_mem hbig)
   .have:=Y9 (h1.below hW hb) hW m1 hk hn hr2 a3 a2 (Z5n g2 n) hw5;obtain⟨N',x1,x2,x3⟩:=this;exact⟨N',x1,λk hk=>by rcases x2 k hk with a | a;exact .inl a;exact .inr (cn hbw.size a),(Frm.of_below hbw).trans x3⟩)
  generalize (A3 r.ins i).time=tm0 at *;rcases hcs with q | ⟨q,qc,q2 | q2⟩
  .rw[show Fk r (i,g) n t=(r,1) by unfold Fk;rw[dp hne,dq (by rcases q with q | q;exact .inl q;exact .inr q.2)]];clear hw1 hB hb0 h h1 hW he hl hk m1 m2 m3 hn hr hne HCt;rcases q with q | ⟨q,qc⟩
   .go_enter Tryz.func75,Tryz.ntmps75
    go_wp2_with fail
    rw[HW1.out]
    go_wp2_with (go_at_call 101;(with_reducible refine HSh.out.mono ?_);rintro e w3 ⟨rfl,hB3⟩;replace hB3:=aa hB3)
    go_ret
    exact⟨rfl,HSt.out _ (HB.out.trans (hB3.out.mono (by omega)))⟩
   .rw[qc] at HC
    go_enter Tryz.func75,Tryz.ntmps75
    go_wp2_with fail
    rw[HW1.out]
    go_wp2_with (first
     | (go_at_call 101;(with_reducible refine HSh.out.mono ?_);rintro e w3 ⟨rfl,hB3⟩;replace hB3:=aa hB3)
     | (go_at_call 94;(with_reducible refine(HC.out _).mono ?_);rintro e w4 ⟨rfl,rfl⟩))
    go_ret
    exact⟨rfl,HSt.out _ (HB.out.trans (hB3.out.mono (by omega)))⟩
  .rw[show Fk r (i,g) n t=(r,177) by unfold Fk;rw[dp hne,dp (by rw[qc];simp;omega),dq q2]];rw[qc] at HC;rw[q2] at HCt;clear hw1 hB hb0 h h1 hW he hl hk m1 m2 m3 hn hr hne qc q2
   go_enter Tryz.func75,Tryz.ntmps75
   go_wp2_with fail
   rw[HW1.out]
   go_wp2_with (first
    | (go_at_call 101;(with_reducible refine HSh.out.mono ?_);rintro e w3 ⟨rfl,hB3⟩;replace hB3:=aa hB3)
    | (go_at_call 94;(with_reducible refine(HC.out _).mono ?_);rintro e w4 ⟨rfl,rfl⟩)
    | (go_at_call 104;(with_reducible refine(HCt.out w3 hB3.out).mono ?_);rintro e w4 ⟨rfl,hS4,-,-,-⟩;replace hS4:=aa (show Cr w w4 f mi mg N r by first | exact hS4 trivial | exact hS4 rfl)))
   go_ret
   exact⟨rfl,hS4.out⟩
  .rw[show Fk r (i,g) n t=(Hn r (Gl (A3 r.ins i) (rcB (A3 r.ins i).B n) (Un (A3 r.ins i).B (A3 r.ins i).On n) t),0) by unfold Fk;rw[dp hne,dp (by rw[qc];simp;omega),dp (by rw[q2];simp)]];rw[qc] at HC;rw[q2] at HCt;clear hw1 hB hb0 h h1 hW he hl hk m1 m2 m3 hn hr hne qc q2
   go_enter Tryz.func75,Tryz.ntmps75
   go_wp2_with fail
   rw[HW1.out]
   go_wp2_with (first
    | (go_at_call 101;(with_reducible refine HSh.out.mono ?_);rintro e w3 ⟨rfl,hB3⟩;replace hB3:=aa hB3)
    | (go_at_call 94;(with_reducible refine(HC.out _).mono ?_);rintro e w4 ⟨rfl,rfl⟩)
    | (go_at_call 104;(with_reducible refine(HCt.out w3 hB3.out).mono ?_);rintro e w4 ⟨rfl,-,d1,d2,hS4⟩;replace hS4:=aa hS4))
   go_ret
   exact⟨rfl,hS4.out _ rfl⟩
 .have HSh:=aa (Ov h1 hW i g he);have hne:(B7 r (i,g) != 0)=true:=by rw[bne_iff_ne];exact he
  rw[show Fk r (i,g) n t=(r,B7 r (i,g)) by unfold Fk;rw[dq he]];generalize B7 r (i,g)=se at *;clear hw1 hB hb0 h h1 hW he
  go_enter Tryz.func75,Tryz.ntmps75
  go_wp2_with fail
  rw[HW1.out]
  go_wp2_with (go_at_call 101;(with_reducible refine HSh.out.mono ?_);rintro e w3 ⟨rfl,hB3⟩;replace hB3:=aa hB3)
  go_ret
  exact⟨rfl,HSt.out _ (HB.out.trans (hB3.out.mono (by omega)))⟩
def E7 (r:RFs)(h d:Int × Int)(s:ByteArray):RFs × Int :=
 if Aj r h=false then(r,175) else if B2 r d s false≠0 then(r,B2 r d s false) else if(A3 r.ins h.1).kind=2 then(r,172)
 else if A2 r.nms d.1 s≠0 then(r,171) else if 20<=A5 r (A3 r.ins h.1) then(r,179) else(Ai r d.1 s h.1,0)
theorem Z30 {w w':World}{f W R K:Nat}{r:RFs}{N:List Nd}(h:FsN w f W R r N)(B:Wf r K){d x:RIn}{l nx:Nd}(hd:d∈r.ins)(u:d.kind=2)(t:l∈N)(o:NodeR w r d l)(Y:x∈r.ins)(i:x.kind≠2)(p:nx∈N)(v:NodeR w r x nx)(s:ByteArray)
  (F:∀k,k < w.heap.size->k≠l.m->k≠nx.blk->w'.heap[k]?=w.heap[k]?) (M:MapB w' l.m Ci Aw (Aa r.nms d.id++[(s,x.id)]))
  (X:w'.heap[nx.blk]?=some (.cells (Ks x (A5 r x+1) nx) 143 (0,0))):FsN w' f W R (Ai r d.id s x.id) N:=by
 have hbx:A3 r.ins x.id=x:=B.byId Y;have hxd:x.id≠d.id:=λe=>by have a1:=B.byId Y;rw[e,B.byId hd] at a1;rw[a1] at u;exact i u
 have J:nx≠l:=λe=>hxd (by rw[<-v.id,<-o.id,e]);have C:l.big=true:=by rw[o.big,u];rfl
 obtain⟨l1,l2,l3,I⟩:=h.lt B;obtain⟨o1,o2,o3⟩:=h.off l t;obtain⟨o4,o5,o6⟩:=h.off nx p;have L:l.m ∉ nx.foot:=λM=>h.apart t p (λe=>J e.symm) _ (Nd.m_mem C) M;have P:=E2 r d.id s x.id;rw[hbx] at P;obtain⟨G,Z,hg2⟩:=h.gmap;have T:∀k,k < w.heap.size->k ∉ l.foot->k ∉ nx.foot->w'.heap[k]?=w.heap[k]?:=λk a b c=>F k a (λe=>b (e ▸ Nd.m_mem C)) (λe=>c (e ▸ nx.blk_mem));refine⟨(T f l1 o1 o4).trans h.head,h.imap.of_block (T W l2 o2 o5),⟨G,Z.of_block (T R l3 o3 o6),hg2⟩,λn j=>?_,h.all,h.sep,h.off,h.mm⟩;obtain⟨y,hy,hr⟩:=h.node n j;refine⟨y,hy,?_⟩;have uniq:∀{z:RIn} {U:Nd},z∈r.ins->NodeR w r z U->n=U->y=z:=λ{z U} hz V e=>by have a1:=B.byId hy;rw[<-hr.id,e,V.id,B.byId hz] at a1;exact a1.symm
 by_cases O:n=nx
 .have:=uniq Y v O;subst O this;refine hr.mk2 (by rw[P,dp i,dq rfl];exact X) (λE=>F _ (I _ j _ (Nd.b_mem E)) (λe=>L (e ▸ Nd.b_mem E)) ?_) (λg=>F _ (I _ j _ (Nd.m_mem (by rw[hr.big,g];rfl))) (λe=>L (e ▸ Nd.m_mem (by rw[hr.big,g];rfl))) ?_) (λg=>dt g i)
  .rcases B.kind y hy with g | g | g
   .obtain⟨sz,bl,g1,_⟩:=hr.file g;exact Av g1.head hr.head (by decide)
   .exact dt g i
   .rw[hr.big,g] at E;cases E
  .obtain⟨sz,bl,g1,_⟩:=hr.file g;exact A8 g1.map hr.head
 .have D:nx.blk ∉ n.foot:=λM=>h.apart p j (λe=>O e.symm) _ nx.blk_mem M;have S:y.id≠x.id:=λe=>O (Ba h.idU j p (by rw[hr.id,v.id,e]));by_cases Q:n=l
  .have:=uniq hd o Q;subst Q this;refine hr.mk2 ?_ (λE=>F _ (I _ j _ (Nd.b_mem E)) (λe=>A8 (hr.dir u).2 (hr.dir u).1 e.symm) (λe=>D (e ▸ Nd.b_mem E))) (λq=>dt q (by omega)) (λ_=>?_)
   .rw[P,dq u,dp (λe=>i e.2),Nat.add_zero];exact(F _ (I _ j _ n.blk_mem) (λe=>A8 (hr.dir u).2 hr.head e.symm) (λe=>D (e ▸ n.blk_mem))).trans hr.head
   .unfold Ai;rw[B1,dq rfl];exact M
  .have hap:=h.apart t j (λe=>Q e.symm);have H:y.id≠d.id:=λe=>Q (Ba h.idU j t (by rw[hr.id,o.id,e]));refine hr.keep (λk A=>F k (I n j k A) (λe=>hap _ (Nd.m_mem C) (e ▸ A)) (λe=>D (e ▸ A))) ?_ (λ_=>?_)
   .rw[P];by_cases q:y.kind=2
    .rw[dq q,dp (λe=>H e.1.symm)];rfl
    .rw[dp q,dp (λe=>S e.symm)];rfl
   .unfold Ai;rw[B1,dp H]
theorem C5 {κ β:Type}[DecidableEq κ]{L:List (κ × β)}{k:κ}{v:β}(h:(Az L k).isSome=false):Gy L k v=L++[(k,v)]:=by unfold Gy;rw[dp (by rw[h];simp)]
set_option maxRecDepth 100000 in
set_option maxHeartbeats 8000000 in
theorem Z69 {w:World}{f mi mg K:Nat}{r:RFs}{N:List Nd}(h:FsN w f mi mg r N)(hW:Wf r K)(i g di dg:Int)(s:ByteArray)(hs:s.size<=maxLen) :
  Calls Tryz.prog 71 #[.pointer (some ⟨f,0,none⟩),.agg #[.int .i64 i,.int .i64 g],.agg #[.int .i64 di,.int .i64 dg],.string s] w
   λe w'=>e=.returned (.int .i64 (E7 r (i,g) (di,dg) s).2)/\Cr w w' f mi mg N (E7 r (i,g) (di,dg) s).1:=by
 obtain⟨w2,hw2,hB,hs2,hb0,hb1⟩:=Gn w #[.int .i64 i,.int .i64 g] #[.int .i64 di,.int .i64 dg] 31 31;have t0:w2.cell? ⟨w.heap.size,0,none⟩=some (.int .i64 i):=by rw[A1 hb0];rfl
 have t1:w2.cell? ⟨w.heap.size,1,none⟩=some (.int .i64 g):=by rw[A1 hb0];rfl
 have h2:=h.below hW hB;have HW2:=aa hw2;have HB:=aa hB;have HSt:=aa (show ∀w',Below w.heap.size w w'->Cr w w' f mi mg N r from λw' hb=>Dv h hW hb);have HB1:=aa hb1;cases hl:Aj r (i,g)
 .have HFd:=aa (Hv h2 hW i g hl);rw[show E7 r (i,g) (di,dg) s=(r,175) by unfold E7;rw[dq hl]];clear hw2 hB hb0 hb1 h h2 hW hl
  go_enter Tryz.func71,Tryz.ntmps71
  go_wp2_with fail
  rw[HW2.out]
  go_wp2_with (go_at_call 81;(with_reducible refine HFd.out.mono ?_);rintro e w3 ⟨rfl,hB3⟩;replace hB3:=aa hB3)
  go_ret
  exact⟨rfl,HSt.out _ (HB.out.trans (hB3.out.mono (by omega)))⟩
 .obtain⟨x1,x2,x3⟩:=Ac hl;obtain⟨nx,hnx,hrx⟩:=h2.at_ hW x1;have hxi:nx.id=i:=hrx.id.trans x2;have HFd:=aa (Ec h2 hW i g hl hnx hxi);unfold De at HFd;have hxk:=hW.kind _ x1;have hl':¬Aj r (i,g)=false:=by rw[hl];simp
  have HFi:=aa (show ∀w3,Below w2.heap.size w2 w3->w3.cell? ⟨w.heap.size+1,0,none⟩=some (.int .i64 di)/\w3.cell? ⟨w.heap.size+1,1,none⟩=some (.int .i64 dg) from λw3 hb=>by have:=(hb.block _ (by omega)).trans hb1;exact⟨A1 this 0,A1 this 1⟩)
  by_cases hp:B2 r (di,dg) s false=0
  .have hf:=C9 hp;obtain⟨hl2,hk2⟩:=Bn hf;obtain⟨m1,m2,m3⟩:=Ac hl2;obtain⟨n,hn,hr⟩:=h2.at_ hW m1;have hni:n.id=di:=hr.id.trans m2;have HP:=aa (show ∀w3,Below w2.heap.size w2 w3->Calls Tryz.prog 58 #[.pointer (some ⟨f,0,none⟩),.agg #[.int .i64 di,.int .i64 dg],.string s,.bool false] w3
    λe w'=>e=.returned (.tuple #[.agg #[.pointer (some ⟨n.blk,0,none⟩),.pointer (some ⟨n.b,0,none⟩),.string s],.int .i64 0])/\Below w3.heap.size w3 w' from λw3 hb=>by
    have:=E5 (h2.below hW hb) hW di dg s hs false hf hn hni;rw[hp] at this;exact this)
   have HAt:=aa (show ∀w4,Below w2.heap.size w2 w4->Calls Tryz.prog 59 #[.agg #[.pointer (some ⟨n.blk,0,none⟩),.pointer (some ⟨n.b,0,none⟩),.string s]] w4 λe w'=>e=.returned (.tuple #[.int .i64 (A2 r.nms di s),.bool (decide (A2 r.nms di s≠0))])/\Below w4.heap.size w4 w' from λw4 hb=>by have hr4:=hr.below (hW.kind _ m1) hb;have:=Bc hr4 hk2 (hr4.lt (hW.kind _ m1)) s (some ⟨n.blk,0,none⟩);rw[m2,hW.entry_some] at this;exact this)
   have HX:=aa (show ∀w4,Below w2.heap.size w2 w4->NodeR w4 r (A3 r.ins i) nx from λw4 hb=>hrx.below hxk hb);have HD:=aa (show ∀w4,Below w2.heap.size w2 w4->NodeR w4 r (A3 r.ins di) n from λw4 hb=>hr.below (.inr (.inl hk2)) hb);have HF:=aa (show ∀w4,Below w2.heap.size w2 w4->FsN w4 f mi mg r N from λw4 hb=>h2.below hW hb);have hta:=λw=>Cl w (A3 r.ins i) nx;have hlx:=hW.lim _ x1;have hcs:(A3 r.ins i).kind=2\/(A3 r.ins i).kind≠2/\(A2 r.nms di s≠0\/A2 r.nms di s=0/\(20<=A5 r (A3 r.ins i)\/A5 r (A3 r.ins i) < 20)):=by omega
   have HFin:=aa (show(A3 r.ins i).kind≠2->∀w',(∀k,k < w.heap.size->k≠n.m->k≠nx.blk->w'.heap[k]?=w.heap[k]?)->Frm [n.m,nx.blk] w w'->MapB w' n.m Ci Aw (Aa r.nms di++[(s,i)]) ->
     w'.heap[nx.blk]?=some (.cells (Ks (A3 r.ins i) (A5 r (A3 r.ins i)+1) nx) 143 (0,0))->Cr w w' f mi mg N (Ai r di s i) from λq w' k1 k2 k3 k4=>by
    obtain⟨nx',hnx',hrx'⟩:=h.at_ hW x1;obtain⟨n',hn',hr'⟩:=h.at_ hW m1;have e1:nx'=nx:=Ba h.idU hnx' hnx (by rw[hrx'.id,hrx.id]);have e2:n'=n:=Ba h.idU hn' hn (by rw[hr'.id,hr.id]);subst e1 e2;have:=Z30 h hW m1 hk2 hn' hr' x1 q hnx' hrx' s k1 (by rw[m2,x2];exact k3) k4;rw[m2,x2] at this;refine⟨N,this,λk hk=>.inl hk,k2.mono λk hk=>?_⟩;simp at hk;rcases hk with rfl | rfl
    .exact Ak hn' (Nd.m_mem (by rw[hr'.big,hk2];rfl))
    .exact Ak hnx' nx'.blk_mem)
   have HPut:=aa (show A2 r.nms di s=0->Gy (Aa r.nms di) s i=Aa r.nms di++[(s,i)] from λe=>C5 (by rw[hW.entry_some];simp[e]));have HNe:=aa (show(A3 r.ins i).kind≠2->n.m≠nx.blk from λq e=>A8 (hr.dir hk2).2 hrx.head e);have HK2:=aa hk2;have HXi:=aa x2;have HDi:=aa m2;have HLt:=aa ((h.lt hW).2.2.2 nx hnx nx.blk nx.blk_mem);rcases hcs with q | ⟨q,q1 | ⟨q1,q2 | q2⟩⟩
   .rw[show E7 r (i,g) (di,dg) s=(r,172) by unfold E7;rw[dp hl',dp (by simp[hp]),dq q]];simp only[q,if_true] at hta;clear hw2 hB hb0 hb1 h h2 hW hl x1 x2 x3 hnx hrx hxi hxk hl' hp hf hl2 hk2 m1 m2 m3 hn hr hni q HFin HPut HNe HK2
    go_enter Tryz.func71,Tryz.ntmps71
    go_wp2_with fail
    rw[HW2.out]
    go_upto_region 7 with(first
     | (go_at_call 81;(with_reducible refine HFd.out.mono ?_);rintro e w3 ⟨rfl,hB3⟩;obtain⟨i1,i2⟩:=HFi.out w3 hB3;have hs3:=hB3.size;replace hB3:=aa hB3)
     | (go_at_call 58;(with_reducible refine(HP.out w3 hB3.out).mono ?_);rintro e w4 ⟨rfl,hB4⟩;have hs4:=hB4.size;replace hB4:=aa (hB3.out.trans (hB4.mono (by omega)))))
    obtain⟨w5,hw5,hB5,hs5,hb5⟩:=Ht w4 #[.pointer (some ⟨n.blk,0,none⟩),.pointer (some ⟨n.b,0,none⟩),.string s] 137;rw[hw5];have c5:w5.cell? ⟨w4.heap.size,0,none⟩=some (.pointer (some ⟨n.blk,0,none⟩)):=by rw[A1 hb5];rfl
    have c6:w5.cell? ⟨w4.heap.size,1,none⟩=some (.pointer (some ⟨n.b,0,none⟩)):=by rw[A1 hb5];rfl
    have c7:w5.cell? ⟨w4.heap.size,2,none⟩=some (.string s):=by rw[A1 hb5];rfl
    have HQ5:=aa hb5;replace hB5:=aa (hB4.out.trans (hB5.mono (by omega)));clear hw5 hb5;obtain⟨-,-,-,-,x4,x5⟩:=(HX.out w5 hB5.out).cells
    go_wp2_with (go_at_call 59;(with_reducible refine(HAt.out w5 hB5.out).mono ?_);rintro e w6 ⟨rfl,hB6⟩;have hs6:=hB6.size;have hq:=(hB6.block _ (by omega)).trans HQ5.out;have q60:w6.cell? ⟨w4.heap.size,1,none⟩=_:=A1 hq 1;clear hq;replace hB6:=aa (hB5.out.trans (hB6.mono (by omega)));obtain⟨y0,-,-,-,y4,-⟩:=(HX.out w6 hB6.out).cells)
    go_ret
    exact⟨rfl,HSt.out _ (HB.out.trans (hB6.out.mono (by omega)))⟩
   .rw[show E7 r (i,g) (di,dg) s=(r,171) by unfold E7;rw[dp hl',dp (by simp[hp]),dp q,dq q1]];simp only[q,if_false] at hta;rw[decide_eq_true q1] at HAt;clear hw2 hB hb0 hb1 h h2 hW hl x1 x2 x3 hnx hrx hxi hxk hl' hp hf hl2 hk2 m1 m2 m3 hn hr hni q q1 HFin HPut HNe HK2
    go_enter Tryz.func71,Tryz.ntmps71
    go_wp2_with fail
    rw[HW2.out]
    go_upto_region 7 with(first
     | (go_at_call 81;(with_reducible refine HFd.out.mono ?_);rintro e w3 ⟨rfl,hB3⟩;obtain⟨i1,i2⟩:=HFi.out w3 hB3;have hs3:=hB3.size;replace hB3:=aa hB3)
     | (go_at_call 58;(with_reducible refine(HP.out w3 hB3.out).mono ?_);rintro e w4 ⟨rfl,hB4⟩;have hs4:=hB4.size;replace hB4:=aa (hB3.out.trans (hB4.mono (by omega)))))
    obtain⟨w5,hw5,hB5,hs5,hb5⟩:=Ht w4 #[.pointer (some ⟨n.blk,0,none⟩),.pointer (some ⟨n.b,0,none⟩),.string s] 137;rw[hw5];have c5:w5.cell? ⟨w4.heap.size,0,none⟩=some (.pointer (some ⟨n.blk,0,none⟩)):=by rw[A1 hb5];rfl
    have c6:w5.cell? ⟨w4.heap.size,1,none⟩=some (.pointer (some ⟨n.b,0,none⟩)):=by rw[A1 hb5];rfl
    have c7:w5.cell? ⟨w4.heap.size,2,none⟩=some (.string s):=by rw[A1 hb5];rfl
    have HQ5:=aa hb5;replace hB5:=aa (hB4.out.trans (hB5.mono (by omega)));clear hw5 hb5;obtain⟨-,-,-,-,x4,x5⟩:=(HX.out w5 hB5.out).cells
    go_wp2_with (go_at_call 59;(with_reducible refine(HAt.out w5 hB5.out).mono ?_);rintro e w6 ⟨rfl,hB6⟩;have hs6:=hB6.size;have hq:=(hB6.block _ (by omega)).trans HQ5.out;have q60:w6.cell? ⟨w4.heap.size,1,none⟩=_:=A1 hq 1;clear hq;replace hB6:=aa (hB5.out.trans (hB6.mono (by omega)));obtain⟨y0,-,-,-,y4,-⟩:=(HX.out w6 hB6.out).cells)
    go_ret
    exact⟨rfl,HSt.out _ (HB.out.trans (hB6.out.mono (by omega)))⟩
   .rw[show E7 r (i,g) (di,dg) s=(r,179) by unfold E7;rw[dp hl',dp (by simp[hp]),dp q,dp (by simp[q1]),dq q2]];simp only[q,if_false] at hta;rw[q1] at HAt;simp only[ne_eq,not_true_eq_false,decide_false] at HAt;have q3:decide (20<=(A5 r (A3 r.ins i):Int))=true:=decide_eq_true (by omega);have q4:decide (20<=A5 r (A3 r.ins i))=true:=decide_eq_true q2;clear hw2 hB hb0 hb1 h h2 hW hl x1 x2 x3 hnx hrx hxi hxk hl' hp hf hl2 hk2 m1 m2 m3 hn hr hni q q1 HFin HPut HNe HK2
    go_enter Tryz.func71,Tryz.ntmps71
    go_wp2_with fail
    rw[HW2.out]
    go_upto_region 7 with(first
     | (go_at_call 81;(with_reducible refine HFd.out.mono ?_);rintro e w3 ⟨rfl,hB3⟩;obtain⟨i1,i2⟩:=HFi.out w3 hB3;have hs3:=hB3.size;replace hB3:=aa hB3)
     | (go_at_call 58;(with_reducible refine(HP.out w3 hB3.out).mono ?_);rintro e w4 ⟨rfl,hB4⟩;have hs4:=hB4.size;replace hB4:=aa (hB3.out.trans (hB4.mono (by omega)))))
    obtain⟨w5,hw5,hB5,hs5,hb5⟩:=Ht w4 #[.pointer (some ⟨n.blk,0,none⟩),.pointer (some ⟨n.b,0,none⟩),.string s] 137;rw[hw5];have c5:w5.cell? ⟨w4.heap.size,0,none⟩=some (.pointer (some ⟨n.blk,0,none⟩)):=by rw[A1 hb5];rfl
    have c6:w5.cell? ⟨w4.heap.size,1,none⟩=some (.pointer (some ⟨n.b,0,none⟩)):=by rw[A1 hb5];rfl
    have c7:w5.cell? ⟨w4.heap.size,2,none⟩=some (.string s):=by rw[A1 hb5];rfl
    have HQ5:=aa hb5;replace hB5:=aa (hB4.out.trans (hB5.mono (by omega)));clear hw5 hb5;obtain⟨-,-,-,-,x4,x5⟩:=(HX.out w5 hB5.out).cells
    go_wp2_with (go_at_call 59;(with_reducible refine(HAt.out w5 hB5.out).mono ?_);rintro e w6 ⟨rfl,hB6⟩;have hs6:=hB6.size;have hq:=(hB6.block _ (by omega)).trans HQ5.out;have q60:w6.cell? ⟨w4.heap.size,1,none⟩=_:=A1 hq 1;clear hq;replace hB6:=aa (hB5.out.trans (hB6.mono (by omega)));obtain⟨y0,-,-,-,y4,-⟩:=(HX.out w6 hB6.out).cells)
    go_ret
    exact⟨rfl,HSt.out _ (HB.out.trans (hB6.out.mono (by omega)))⟩
   .rw[show E7 r (i,g) (di,dg) s=(Ai r di s i,0) by unfold E7;rw[dp hl',dp (by simp[hp]),dp q,dp (by simp[q1]),dp (show ¬20<=A5 r (A3 r.ins i) by omega)]];simp only[q,if_false] at hta;rw[q1] at HAt;simp only[ne_eq,not_true_eq_false,decide_false] at HAt;have HFin2:=aa (HFin.out q);have HPut2:=aa (HPut.out q1);have HNe2:=aa (HNe.out q);clear hw2 hB hb0 hb1 h h2 hW hl x1 x2 x3 hnx hrx hxi hxk hl' hp hf hl2 hk2 m1 m2 m3 hn hr hni q q1 HFin HPut HNe
    go_enter Tryz.func71,Tryz.ntmps71
    go_wp2_with fail
    rw[HW2.out]
    go_upto_region 7 with(first
     | (go_at_call 81;(with_reducible refine HFd.out.mono ?_);rintro e w3 ⟨rfl,hB3⟩;obtain⟨i1,i2⟩:=HFi.out w3 hB3;have hs3:=hB3.size;replace hB3:=aa hB3)
     | (go_at_call 58;(with_reducible refine(HP.out w3 hB3.out).mono ?_);rintro e w4 ⟨rfl,hB4⟩;have hs4:=hB4.size;replace hB4:=aa (hB3.out.trans (hB4.mono (by omega)))))
    obtain⟨w5,hw5,hB5,hs5,hb5⟩:=Ht w4 #[.pointer (some ⟨n.blk,0,none⟩),.pointer (some ⟨n.b,0,none⟩),.string s] 137;rw[hw5];have c5:w5.cell? ⟨w4.heap.size,0,none⟩=some (.pointer (some ⟨n.blk,0,none⟩)):=by rw[A1 hb5];rfl
    have c6:w5.cell? ⟨w4.heap.size,1,none⟩=some (.pointer (some ⟨n.b,0,none⟩)):=by rw[A1 hb5];rfl
    have c7:w5.cell? ⟨w4.heap.size,2,none⟩=some (.string s):=by rw[A1 hb5];rfl
    have HQ5:=aa hb5;replace hB5:=aa (hB4.out.trans (hB5.mono (by omega)));clear hw5 hb5;obtain⟨-,-,-,-,x4,x5⟩:=(HX.out w5 hB5.out).cells
    go_upto_region 15 with(go_at_call 59;(with_reducible refine(HAt.out w5 hB5.out).mono ?_);rintro e w6 ⟨rfl,hB6⟩;have hs6:=hB6.size;have hq:=(hB6.block _ (by omega)).trans HQ5.out;have q60:w6.cell? ⟨w4.heap.size,1,none⟩=_:=A1 hq 1;clear hq;replace hB6:=aa (hB5.out.trans (hB6.mono (by omega)));obtain⟨y0,-,-,-,y4,-⟩:=(HX.out w6 hB6.out).cells)
    have lt20:A5 r (A3 r.ins i) < 20:=q2;have hX6:=aa (HX.out w6 hB6.out).head;have hD6:=aa ((HD.out w6 hB6.out).dir HK2.out);rw[HDi.out] at hD6;have y4f:w6.frozen? ⟨nx.blk,4,none⟩=false:=frozen_of_row w6 nx.blk 4 _ _ hX6.out;have n1:n.b≠nx.blk:=Av hD6.out.1 hX6.out (by decide);have n2:w4.heap.size≠nx.blk:=λe=>by have:=HLt.out;have:=HB.out.size;omega
    have q61:w6.cell? ⟨w4.heap.size,1,none⟩=some (.pointer (some ⟨n.b,0,none⟩)):=q60;have q62:w6.cell? ⟨n.b,0,none⟩=some (.map (some n.m)):=by rw[A1 hD6.out.1];rfl
    rw[HXi.out] at y0;clear q60 x4 x5 c5 c6 c7;obtain⟨w7,hw7⟩:∃w7,w6.setCell ⟨nx.blk,4,none⟩ (.int .i64 ((A5 r (A3 r.ins i):Int)+1))=w7:=⟨_,rfl⟩;have k7:∀k,k≠nx.blk->w7.heap[k]?=w6.heap[k]?:=λk hk=>by rw[<-hw7];exact A4 _ _ _ _ _ hk
    have hL:w7.heap[nx.blk]?=some (.cells (Ks (A3 r.ins i) (A5 r (A3 r.ins i)+1) nx) 143 (0,0)):=by rw[<-hw7];exact Bp (lk':=A5 r (A3 r.ins i)+1) hX6.out
    have hF7:Frm [n.m,nx.blk] w w7:=by rw[<-hw7];exact(Frm.of_below (HB.out.trans (hB6.out.mono (by omega)))).setCell (p:=⟨nx.blk,4,none⟩) (.inl (by simp)) _
    have hm7:MapB w7.drew n.m Ci Aw (Aa r.nms di):=hD6.out.2.of_block (k7 _ HNe2.out);obtain⟨o,hup,hmp⟩:=Am KS (P:=Tryz.prog) (t:=150) Tryz.underlying150 hm7 s i;have HS:=aa (HFin2.out (putObj w7.drew n.m o) (λk a b c=>(A9 w7.drew o b).trans ((k7 k c).trans ((HB.out.trans (hB6.out.mono (by omega))).block k a)))
     (hF7.drew.putObj (.inl (by simp)) o) (by rw[<-HPut2.out];exact hmp) ((A9 w7.drew o (λe=>HNe2.out e.symm)).trans hL))
    unfold Ci Aw at hup;have z1:w7.cell? ⟨w4.heap.size,1,none⟩=some (.pointer (some ⟨n.b,0,none⟩)):=(ac (k7 _ n2)).trans q61;have z2:w7.cell? ⟨n.b,0,none⟩=some (.map (some n.m)):=(ac (k7 _ n1)).trans q62;have z3:w7.cell? ⟨nx.blk,0,none⟩=some (.int .i64 i):=by rw[A1 hL];show some (Value.int .i64 (A3 r.ins i).id)=_;rw[HXi.out]
    generalize A5 r (A3 r.ins i)=lk at *;have HW7:=aa hw7;clear hm7 hmp HFin2 HPut2 hw7 k7 hL hF7
    go_upto_region 16 with fail
    rw[HW7.out];clear y0 y4 q61 q62
    go_still_tail 11,(by kernel_rfl)
    change wpList _ _ _ _ _ w7.drew
    go_wp2
    go_ret
    exact⟨rfl,HS.out⟩
  .rw[show E7 r (i,g) (di,dg) s=(r,B2 r (di,dg) s false) by unfold E7;rw[dp hl',dq hp]];have HPn:=aa (show ∀w3,Below w2.heap.size w2 w3->∃pa pb pc,Calls Tryz.prog 58 #[.pointer (some ⟨f,0,none⟩),.agg #[.int .i64 di,.int .i64 dg],.string s,.bool false] w3
    λe w'=>e=.returned (.tuple #[.agg #[.pointer pa,.pointer pb,.string pc],.int .i64 (B2 r (di,dg) s false)])/\Below w3.heap.size w3 w' from λw3 hb=>L1 (h2.below hW hb) hW di dg s hs false hp)
   have hne:(B2 r (di,dg) s false != 0)=true:=by rw[bne_iff_ne];exact hp
   generalize B2 r (di,dg) s false=pe at *;clear hw2 hB hb0 hb1 h h2 hW hl x1 x2 x3 hnx hrx hxi hxk hl' hp
   go_enter Tryz.func71,Tryz.ntmps71
   go_wp2_with fail
   rw[HW2.out]
   go_wp2_with (first
    | (go_at_call 81;(with_reducible refine HFd.out.mono ?_);rintro e w3 ⟨rfl,hB3⟩;obtain⟨i1,i2⟩:=HFi.out w3 hB3;have hs3:=hB3.size;replace hB3:=aa hB3)
    | (go_at_call 58;obtain⟨pa,pb,pc,hpl⟩:=HPn.out w3 hB3.out;(with_reducible refine hpl.mono ?_);clear hpl;rintro e w4 ⟨rfl,hB4⟩;have hs4:=hB4.size;replace hB4:=aa (hB3.out.trans (hB4.mono (by omega)))))
   go_ret
   have hfin:=HB.out.trans (hB4.out.mono (by omega));exact⟨rfl,HSt.out _ (hfin.alloc hfin.size _)⟩
def Df (l:List RIn):Int:=((((List.range 201).find? λk:Nat=>decide ((A3 l ((k:Int)+1)).id=0)).getD 0:Nat):Int)+1
theorem Jf {l:List RIn}{j:Nat}(b:j < 201)(e:(A3 l ((j:Int)+1)).id=0)(c:∀k,k < j->(A3 l ((k:Int)+1)).id≠0):Df l=(j:Int)+1:=by
 unfold Df;have:(List.range 201).find? (λk:Nat=>decide ((A3 l ((k:Int)+1)).id=0))=some j:=by rw[List.find?_range_eq_some];refine⟨decide_eq_true e,List.mem_range.2 b,λk a=>?_⟩;simpa using c k a
 rw[this];rfl
theorem Nw {r:RFs}{K:Nat}(_hW:Wf r K){j:Nat}(f:∀k,k < j->(A3 r.ins ((k:Int)+1)).id≠0):j<=r.ins.length:=by
 have c:=C1 (l:=(List.range j).map λk=>((k:Nat):Int)+1) (m:=r.ins.map (·.id)) (by
  rw[List.nodup_iff_pairwise_ne,List.pairwise_map];exact(List.nodup_iff_pairwise_ne.1 List.nodup_range).imp λh e=>h (by omega)) (λx g=>by
  obtain⟨k,b,rfl⟩:=bk.1 g;have a:=Cx (f k (List.mem_range.1 b));exact bk.2 ⟨_,a.1,a.2⟩)
 simpa using c
def By (l:List Int)(id:Int):List Int:=(l++List.replicate (id.toNat+1 - l.length) 0).set id.toNat (Aq l id+1)
theorem Je (l:List Int){id:Int}(c:0<=id)(j:Int):Aq (By l id) j=if j=id then Aq l id+1 else Aq l j:=by
 unfold By;by_cases a:0<=j
 .have e:Aq ((l++List.replicate (id.toNat+1 - l.length) 0).set id.toNat (Aq l id+1)) j=((l++List.replicate (id.toNat+1 - l.length) 0).set id.toNat (Aq l id+1)).getD j.toNat 0:=by
   show(if 0<=j then _ else _)=_;rw[dq a]
  rw[e,List.getD_eq_getElem?_getD,cw];by_cases b:j=id
  .subst b;rw[dq rfl,dq (by simp;omega),dq rfl];rfl
  .rw[dp (by omega),dp b];unfold Aq;rw[dq a,List.getD_eq_getElem?_getD,List.getElem?_append];split
   .rfl
   .rename_i h2
    rw[cm (l:=l) (by omega),List.getElem?_replicate];split<;>rfl
 .unfold Aq;rw[dp a,dp (by omega),dp a]
def Fa (r:RFs)(h:Int × Int)(m:RMk):RIn:=⟨Df r.ins,Aq r.gens (Df r.ins)+1,m.kind,m.mode,m.time,h.1,m.target,[],[]⟩
def Id (r:RFs)(x:RIn):RFs:={r with ins:=r.ins++[x],gens:=By r.gens x.id}
def Db (r:RFs)(h:Int × Int)(s:ByteArray)(m:RMk):RFs × (Int × Int) × Int :=
 if B2 r h s false≠0 then(r,(0,0),B2 r h s false) else if Cw m=false then(r,(0,0),1) else if A2 r.nms h.1 s≠0 then(r,(0,0),171)
 else if m.kind=2/\20<=A5 r (A3 r.ins h.1) then(r,(0,0),179) else if 200<=r.ins.length then(r,(0,0),177)
 else(Ai (Id r (Fa r h m)) h.1 s (Df r.ins),(Df r.ins,Aq r.gens (Df r.ins)+1),0)
section
variable {r:RFs} {K:Nat} {x d:RIn}
theorem Le (a:∀y∈r.ins,y.id≠x.id)(j:Int):A3 (Id r x).ins j=if j=x.id then x else A3 r.ins j:=Ko _ _ _ a
theorem N6 (f:Wf r K)(a:∀y∈r.ins,y.id≠x.id)(y:RIn):A5 (Id r x) y=A5 r y:=by refine E1 rfl rfl rfl λn c=>?_;rw[Le a,dp];intro e;obtain⟨_,z,b,g⟩:=f.nmI n c;exact a z b (g.trans e)
theorem Ll (f:Wf r K)(a:∀y∈r.ins,y.id≠x.id)(s:ByteArray){y:RIn}(b:y∈r.ins):A5 (Ai (Id r x) d.id s x.id) y=A5 r y+if y.kind=2/\d.id=y.id/\x.kind=2 then 1 else 0:=by rw[E2,N6 f a,Le a,dq rfl,dp (c:=x.id=y.id) (λe=>a y b e.symm)];by_cases h:y.kind=2<;>simp[h]
theorem H9 (c:Wf r K)(a:∀y∈r.ins,y.id≠x.id)(hd:d∈r.ins)(s:ByteArray):A5 (Ai (Id r x) d.id s x.id) x=if x.kind=2 then 2 else 1:=by
 rw[E2,N6 c a,Le a,dq rfl];have j:r.nms.countP (λn=>decide (n.dir=x.id/\(A3 r.ins n.id).kind=2))=0:=by rw[List.countP_eq_zero];intro n b;obtain⟨e,f,g,_⟩:=c.nmD n b;simp only[decide_eq_true_eq];exact λq=>a e f (g.trans q.1)
 have i:r.nms.countP (λn=>decide (n.id=x.id))=0:=by rw[List.countP_eq_zero];intro n b;obtain⟨_,e,f,g⟩:=c.nmI n b;simp only[decide_eq_true_eq];exact λq=>a e f (g.trans q)
 unfold A5;by_cases h:x.kind=2
 .rw[dq h,dq h,dq h,j,dp (λe=>a d hd e.1)]
 .rw[dp h,dp h,dp h,i,dq rfl]
theorem We (c:Wf r K)(a:∀y∈r.ins,y.id≠x.id):Aa r.nms x.id=[]:=by unfold Aa;rw[List.map_eq_nil_iff,List.filter_eq_nil_iff];intro n b;obtain⟨e,f,g,_⟩:=c.nmD n b;simp only[decide_eq_true_eq];exact λq=>a e f (g.trans q)
end
theorem Z1m {r:RFs}{K:Nat}{x d:RIn}(b:Wf r K)(a:∀y∈r.ins,y.id≠x.id)(hd:d∈r.ins)(s:ByteArray):Aa (Ai (Id r x) d.id s x.id).nms x.id=[]:=by show Aa (r.nms++[⟨d.id,s,x.id⟩]) x.id=[];rw[B1,dp (λe=>a d hd e.symm)];exact We b a
theorem Frm.trans' {S:List Nat}{a b c:World}{g:Nat}(h:Frm S a b)(e:b.grownBy c (some g))(j:a.heap.size<=g):Frm S a c :=
 ⟨e.os.trans h.os,e.tape.trans h.tape,e.output.trans h.output,cn h.size e.size,λk f i=>(e.block k (bd f h.size) (by simp;omega)).trans (h.block k f i)⟩
theorem FsN.len {w:World}{f p g K:Nat}{r:RFs}{N:List Nd}(h:FsN w f p g r N)(k:Wf r K):N.length=r.ins.length:=by
 have o:=C1 (l:=N.map (·.id)) (m:=r.ins.map (·.id)) h.idU (λi a=>by obtain⟨n,b,rfl⟩:=bk.1 a;obtain⟨x,c,hr⟩:=h.node n b;exact bk.2 ⟨x,c,hr.id.symm⟩)
 have j:=C1 (l:=r.ins.map (·.id)) (m:=N.map (·.id)) k.ids (λi a=>by obtain⟨x,c,rfl⟩:=bk.1 a;obtain⟨n,b,e⟩:=h.all x c;exact bk.2 ⟨n,b,e⟩)
 simp at o j;omega
theorem T0 {w w':World}{f B p K:Nat}{r:RFs}{N:List Nd}(h:FsN w f B p r N)(E:Wf r K){d x:RIn}{c nd:Nd}(hd:d∈r.ins)(t:d.kind=2)(o:c∈N)(j:NodeR w r d c)(X:∀y∈r.ins,y.id≠x.id)(s:ByteArray)
  (L:∀k,k < w.heap.size->k≠c.m->k≠c.blk->k≠B->k≠p->w'.heap[k]?=w.heap[k]?) (Y:MapB w' c.m Ci Aw (Aa r.nms d.id++[(s,x.id)]))
  (V:MapB w' B Aw De (N.map (λn=>(n.id,n.blk))++[(x.id,nd.blk)])) (U:∃G,MapB w' p Aw Aw G/\∀id,(Az G id).getD 0=Aq (By r.gens x.id) id)
  (Q:w'.heap[c.blk]?=some (.cells (Ks d (A5 r d+if x.kind=2 then 1 else 0) c) 143 (0,0))) (l:NodeR w' (Ai (Id r x) d.id s x.id) x nd) (b:∀k∈nd.foot,w.heap.size<=k) :
  FsN w' f B p (Ai (Id r x) d.id s x.id) (N++[nd]):=by
 have z:c.big=true:=by rw[j.big,t];rfl
 obtain⟨W,Z,l3,H⟩:=h.lt E;obtain⟨S,o2,o3⟩:=h.off c o;obtain⟨G,M,_⟩:=h.gmap;have I:f≠B:=λe=>A8 h.imap h.head e.symm;have O:f≠p:=λe=>A8 M h.head e.symm;refine⟨(L f W (λe=>S (e ▸ Nd.m_mem z)) (λe=>S (e ▸ c.blk_mem)) I O).trans h.head,?_,U,λn a=>?_,λy i=>?_,?_,λn a=>?_,h.mm⟩
 .rw[ba,cv,List.map_nil,l.id];exact V
 .rcases cd.1 a with a | a
  .obtain⟨y,i,hr⟩:=h.node n a;refine⟨y,cd.2 (.inl i),?_⟩;have A:=(h.off n a).2.1;have v:=(h.off n a).2.2;have T:=Ll (d:=d) E X s i;by_cases F:n=c
   .have:y=d:=by
     have a1:=E.byId i;rw[<-hr.id,F,j.id,E.byId hd] at a1;exact a1.symm
    subst F this;refine hr.mk2 ?_ (λP=>L _ (H _ a _ (Nd.b_mem P)) (λe=>A8 (hr.dir t).2 (hr.dir t).1 e.symm) (Av (hr.dir t).1 hr.head (by decide)) (λe=>A (e ▸ Nd.b_mem P)) (λe=>v (e ▸ Nd.b_mem P))) (λq=>dt q (by omega)) (λ_=>?_)
    .rw[T,Q];simp[t]
    .show MapB w' n.m Ci Aw (Aa (r.nms++[⟨y.id,s,x.id⟩]) y.id);rw[B1,dq rfl];exact Y
   .have D:=h.apart o a (λe=>F e.symm);have u:y.id≠d.id:=λe=>F (Ba h.idU a o (by rw[hr.id,j.id,e]));refine hr.keep (λk g=>L k (H n a k g) (λe=>D _ (Nd.m_mem z) (e ▸ g)) (λe=>D _ c.blk_mem (e ▸ g)) (λe=>A (e ▸ g)) (λe=>v (e ▸ g))) ?_ (λ_=>?_)
    .rw[T,dp (λe=>u e.2.1.symm)];rfl
    .show Aa (r.nms++[⟨d.id,s,x.id⟩]) y.id=_;rw[B1,dp u]
  .simp only[List.mem_singleton] at a;subst a;exact⟨x,cd.2 (.inr (by simp)),l⟩
 .rcases cd.1 i with i | i
  .obtain⟨n,a,e⟩:=h.all y i;exact⟨n,cd.2 (.inl a),e⟩
  .simp only[List.mem_singleton] at i;subst i;exact⟨nd,by simp,l.id⟩
 .rw[List.pairwise_append];refine⟨h.sep,by simp,λn a n' C k J R=>?_⟩;simp only[List.mem_singleton] at C;subst C;have:=H n a k J;have:=b k R;omega
 .rcases cd.1 a with a | a
  .exact h.off n a
  .simp only[List.mem_singleton] at a;subst a;exact⟨λe=>by have:=b _ e;omega,λe=>by have:=b _ e;omega,λe=>by have:=b _ e;omega⟩
theorem Ro:(Tryz.prog.info? 50).map (·.size)=some 8:=by kernel_rfl
theorem Z3n:Tryz.prog.underlying 50=some (.struct (Tryz.prog.fieldsOf 50)):=by kernel_rfl
def G9 (r:RFs)(x:RIn):Int:=if x.kind=1 then x.B.length else if x.kind=2 then Dz r.nms x.id else x.target.size
def X4 (i g k m l s b t:Int):Value:=.agg #[.int .i64 i,.int .i64 g,.int .i64 k,.int .i64 m,.int .i64 l,.int .i64 s,.int .i64 b,.int .i64 t]
def Wl (r:RFs)(h:Int × Int):Value :=
 if Aj r h=true then .tuple #[X4 h.1 h.2 (A3 r.ins h.1).kind (A3 r.ins h.1).mode (A5 r (A3 r.ins h.1)) (G9 r (A3 r.ins h.1)) ((A3 r.ins h.1).On.length:Int) (A3 r.ins h.1).time,.int .i64 0]
 else .tuple #[X4 0 0 0 0 0 0 0 0,.int .i64 175]
theorem L4 (a b c d e f g h:Int):∀v∈(#[.int .i64 a,.int .i64 b,.int .i64 c,.int .i64 d,.int .i64 e,.int .i64 f,.int .i64 g,.int .i64 h]:Array Value).toList,v.oneCell'=true:=λv i=>by simp at i;rcases i with rfl | rfl | rfl | rfl | rfl | rfl | rfl | rfl<;>rfl
set_option maxRecDepth 100000 in
set_option maxHeartbeats 8000000 in
theorem Z5d {w:World}{f mi mg K:Nat}{r:RFs}{N:List Nd}(h:FsN w f mi mg r N)(hW:Wf r K)(i g:Int) :
  Calls Tryz.prog 51 #[.pointer (some ⟨f,0,none⟩),.agg #[.int .i64 i,.int .i64 g]] w λe w'=>e=.returned (Wl r (i,g))/\Below w.heap.size w w':=by
 obtain⟨w2,hw2,hB,hs2,hb0,hb1⟩:=Gn w #[.int .i64 i,.int .i64 g] #[.int .i64 0,.int .i64 0,.int .i64 0,.int .i64 0,.int .i64 0,.int .i64 0,.int .i64 0,.int .i64 0] 31 50;have t0:w2.cell? ⟨w.heap.size,0,none⟩=some (.int .i64 i):=by rw[A1 hb0];rfl
 have t1:w2.cell? ⟨w.heap.size,1,none⟩=some (.int .i64 g):=by rw[A1 hb0];rfl
 have h2:=h.below hW hB;have HW2:=aa hw2;have HB:=aa hB;have HB1:=aa hb1;have HB0:=aa hb0;cases hl:Aj r (i,g)
 .rw[show Wl r (i,g)=.tuple #[X4 0 0 0 0 0 0 0 0,.int .i64 175] by unfold Wl;rw[hl];rfl];have HFd:=aa (Hv h2 hW i g hl);have HPv:=aa (L4 0 0 0 0 0 0 0 0);unfold X4;clear hw2 hB hb0 hb1 h h2 hW hl
  go_enter Tryz.func51,Tryz.ntmps51
  go_wp2_with fail
  rw[HW2.out]
  go_wp2_with (first
   | (go_at_call 81;(with_reducible refine HFd.out.mono ?_);rintro e w3 ⟨rfl,hB3⟩;have hX3:=(hB3.block _ (by omega)).trans HB1.out;have hs3:=hB3.size;replace hB3:=aa hB3;replace hX3:=aa hX3)
   | (refine A6 rfl 50 (.tmp 4) (.tmp 20) rfl w3 (w.heap.size+1) _ _ _ rfl rfl hX3.out rfl Ro HPv.out ?_;intro w5 hX5 hG5))
  have hb5:=Below.grownBy (HB.out.trans (hB3.out.mono (by omega))) hG5 (by omega) (λk hk=>by injection hk with hk;omega);exact Ag (p:=4) (u:=5) rfl rfl hX5 Z3n rfl Ro rfl rfl ⟨rfl,hb5⟩
 .obtain⟨m1,m2,m3⟩:=Ac hl;obtain⟨n,hn,hr⟩:=h2.at_ hW m1;have HFd:=aa (Ec h2 hW i g hl hn (hr.id.trans m2));unfold De at HFd;have hxk:=hW.kind _ m1;rw[show Wl r (i,g)=.tuple #[X4 i g (A3 r.ins i).kind (A3 r.ins i).mode (A5 r (A3 r.ins i)) (G9 r (A3 r.ins i)) ((A3 r.ins i).On.length:Int) (A3 r.ins i).time,.int .i64 0] by unfold Wl;rw[dq hl]];have HX:=aa (show ∀w3,Below w2.heap.size w2 w3->NodeR w3 r (A3 r.ins i) n from λw3 hb=>hr.below hxk hb);have HFi:=aa (hW.file _ m1);have HXi:=aa m2;generalize A3 r.ins i=x at *;generalize hlk:A5 r x=lk at *;have HLk:=aa hlk;clear hlk;unfold X4;clear hw2 hB hb0 hb1 h h2 hW hl m1 m2 m3 hn hr;have hkk:x.kind=1\/x.kind=2\/x.kind=3:=hxk;rcases hkk with hk | hk | hk
  .have hta:∀w,(Instr.typeAssert (Ad x n) 20 148 true).run Tryz.prog w=.ok (.tuple #[.pointer (some ⟨n.b,0,none⟩),.bool true]) w:=λw=>by rw[M6,dq hk];rfl
   have hsz:G9 r x=x.B.length:=by unfold G9;rw[dq hk]
   rw[hsz,hk]
   go_enter Tryz.func51,Tryz.ntmps51
   go_wp2_with fail
   rw[HW2.out]
   go_upto_region 4 with(go_at_call 81;(with_reducible refine HFd.out.mono ?_);rintro e w3 ⟨rfl,hB3⟩;have hX3:=(hB3.block _ (by omega)).trans HB1.out;have hs3:=hB3.size;obtain⟨-,-,x2,x3,x4,x5⟩:=(HX.out w3 hB3).cells;have hY3:=(hB3.block _ (by omega)).trans HB0.out;have y0:w3.cell? ⟨w.heap.size,0,none⟩=_:=A1 hY3 0;have y1:w3.cell? ⟨w.heap.size,1,none⟩=_:=A1 hY3 1;clear hY3;replace hB3:=aa hB3;replace hX3:=aa hX3)
   rw[HLk.out] at x4
   go_region_held3 (λw'=>w'.cell? ⟨w.heap.size,0,none⟩=some (.int .i64 i)/\w'.cell? ⟨w.heap.size,1,none⟩=some (.int .i64 g)/\w'.cell? ⟨n.blk,2,none⟩=some (.int .i64 x.mode)/\w'.cell? ⟨n.blk,3,none⟩=some (.int .i64 x.time)/\w'.cell? ⟨n.blk,4,none⟩=some (.int .i64 (lk:Int))/\w'.cell? ⟨n.blk,5,none⟩=some (Ad x n))
    (go_keep)
    (fail)
   go_upto_region 5 with fail
   clear x2 x3 x4 x5 y0 y1;obtain⟨w4,hw4⟩:∃w4,(w3.alloc (.cells #[.int .i64 i,.int .i64 g,.int .i64 0,.int .i64 x.mode,.int .i64 (lk:Int),.int .i64 0,.int .i64 0,.int .i64 x.time] 50)).drew=w4:=⟨_,rfl⟩;rw[hw4];have HX4:=aa ((show w4.heap[w.heap.size+1]?=w3.heap[w.heap.size+1]? from by rw[<-hw4];exact ae _ _ _ (by omega)).trans hX3.out);have hN4:w4.heap[w3.heap.size]?=some (.cells #[.int .i64 i,.int .i64 g,.int .i64 0,.int .i64 x.mode,.int .i64 (lk:Int),.int .i64 0,.int .i64 0,.int .i64 x.time] 50 (0,0)):=by rw[<-hw4];exact heap_alloc_new _ _
   have HB4:=aa (show Below w2.heap.size w2 w4 from by rw[<-hw4];exact(hB3.out.alloc hs3 _).drew);clear hw4;have d0:=A1 hN4 0;have d1:=A1 hN4 1;have d2:=A1 hN4 2;have d3:=A1 hN4 3;have d4:=A1 hN4 4;have d5:=A1 hN4 5;have d6:=A1 hN4 6;have d7:=A1 hN4 7;simp at d0 d1 d2 d3 d4 d5 d6 d7;have df:∀k,w4.frozen? ⟨w3.heap.size,k,none⟩=false:=λk=>by simp[World.frozen?,hN4]
   have x5:=(HX.out _ HB4.out).cells.2.2.2.2.2;obtain⟨size,bl,hR,hS⟩:=(HX.out _ HB4.out).file hk;have HSz:=aa (Z4w hR);have HBl:=aa (Nr hR);rw[<-Er hS] at HBl;rw[<-hS.len] at HSz;clear hR hS
   go_upto_region 15 with(first
    | (go_at_call 82;(with_reducible refine HSz.out.mono ?_);rintro e w5 ⟨rfl,rfl⟩)
    | (go_at_call 83;(with_reducible refine HBl.out.mono ?_);rintro e w5 ⟨rfl,rfl⟩))
   obtain⟨w5,hw5⟩:∃w5,(((w4.setCell ⟨w3.heap.size,2,none⟩ (.int .i64 1)).setCell ⟨w3.heap.size,5,none⟩ (.int .i64 (x.B.length:Int))).setCell ⟨w3.heap.size,6,none⟩ (.int .i64 (x.On.length:Int)))=w5:=⟨_,rfl⟩;rw[hw5];have hX5:=(show w5.heap[w.heap.size+1]?=w4.heap[w.heap.size+1]? from by rw[<-hw5];simp only[A4 _ _ _ _ _ (show w.heap.size+1≠w3.heap.size by omega)]).trans HX4.out;have hN5:w5.heap[w3.heap.size]?=some (.cells #[.int .i64 i,.int .i64 g,.int .i64 1,.int .i64 x.mode,.int .i64 (lk:Int),.int .i64 (x.B.length:Int),.int .i64 (x.On.length:Int),.int .i64 x.time] 50 (0,0)):=by rw[<-hw5];exact(heap_setCell_same _ _ 6 _ _ _ (heap_setCell_same _ _ 5 _ _ _ (heap_setCell_same _ _ 2 _ _ _ hN4)))
   have HB5:=aa (show Below w2.heap.size w2 w5 from by rw[<-hw5];exact((((((HB4.out).setCell (by omega) _)).setCell (by omega) _)).setCell (by omega) _));clear hw5 d0 d1 d2 d3 d4 d5 d6 d7 df hN4;have d0:=A1 hN5 0;have d1:=A1 hN5 1;have d2:=A1 hN5 2;have d3:=A1 hN5 3;have d4:=A1 hN5 4;have d5:=A1 hN5 5;have d6:=A1 hN5 6;have d7:=A1 hN5 7;simp at d0 d1 d2 d3 d4 d5 d6 d7;clear hN5;have HX5:=aa hX5;clear hX5;have HPv:=aa (L4 i g 1 x.mode lk (x.B.length:Int) (x.On.length:Int) x.time)
   go_wp2_with (refine A6 rfl 50 (.tmp 4) (.tmp 67) rfl _ (w.heap.size+1) _ _ _ rfl rfl HX5.out rfl Ro HPv.out ?_;intro w6 hX6 hG6)
   have hb6:=Below.grownBy (HB.out.trans (HB5.out.mono (by omega))) hG6 (cn (by omega) HB5.out.size) (λk hk=>by injection hk with hk;omega);exact Ag (p:=4) (u:=5) rfl rfl hX6 Z3n rfl Ro rfl rfl ⟨rfl,hb6⟩
  .have hta:∀w,(Instr.typeAssert (Ad x n) 20 148 true).run Tryz.prog w=.ok (.tuple #[.pointer none,.bool false]) w:=λw=>by rw[M6,dp (by omega)]
   have htd:∀w,(Instr.typeAssert (Ad x n) 20 135 true).run Tryz.prog w=.ok (.tuple #[.pointer (some ⟨n.b,0,none⟩),.bool true]) w:=λw=>by rw[Cl,dq hk];rfl
   have hsz:G9 r x=Dz r.nms x.id:=by unfold G9;rw[dp (by omega),dq hk]
   have hon:x.On=[]:=(HFi.out (by omega)).2;rw[hsz,hon,hk]
   go_enter Tryz.func51,Tryz.ntmps51
   go_wp2_with fail
   rw[HW2.out]
   go_upto_region 4 with(go_at_call 81;(with_reducible refine HFd.out.mono ?_);rintro e w3 ⟨rfl,hB3⟩;have hX3:=(hB3.block _ (by omega)).trans HB1.out;have hs3:=hB3.size;obtain⟨-,-,x2,x3,x4,x5⟩:=(HX.out w3 hB3).cells;have hY3:=(hB3.block _ (by omega)).trans HB0.out;have y0:w3.cell? ⟨w.heap.size,0,none⟩=_:=A1 hY3 0;have y1:w3.cell? ⟨w.heap.size,1,none⟩=_:=A1 hY3 1;clear hY3;replace hB3:=aa hB3;replace hX3:=aa hX3)
   rw[HLk.out] at x4
   go_region_held3 (λw'=>w'.cell? ⟨w.heap.size,0,none⟩=some (.int .i64 i)/\w'.cell? ⟨w.heap.size,1,none⟩=some (.int .i64 g)/\w'.cell? ⟨n.blk,2,none⟩=some (.int .i64 x.mode)/\w'.cell? ⟨n.blk,3,none⟩=some (.int .i64 x.time)/\w'.cell? ⟨n.blk,4,none⟩=some (.int .i64 (lk:Int))/\w'.cell? ⟨n.blk,5,none⟩=some (Ad x n))
    (go_keep)
    (fail)
   go_upto_region 5 with fail
   clear x2 x3 x4 x5 y0 y1;obtain⟨w4,hw4⟩:∃w4,(w3.alloc (.cells #[.int .i64 i,.int .i64 g,.int .i64 0,.int .i64 x.mode,.int .i64 (lk:Int),.int .i64 0,.int .i64 0,.int .i64 x.time] 50)).drew=w4:=⟨_,rfl⟩;rw[hw4];have HX4:=aa ((show w4.heap[w.heap.size+1]?=w3.heap[w.heap.size+1]? from by rw[<-hw4];exact ae _ _ _ (by omega)).trans hX3.out);have hN4:w4.heap[w3.heap.size]?=some (.cells #[.int .i64 i,.int .i64 g,.int .i64 0,.int .i64 x.mode,.int .i64 (lk:Int),.int .i64 0,.int .i64 0,.int .i64 x.time] 50 (0,0)):=by rw[<-hw4];exact heap_alloc_new _ _
   have HB4:=aa (show Below w2.heap.size w2 w4 from by rw[<-hw4];exact(hB3.out.alloc hs3 _).drew);clear hw4;have d0:=A1 hN4 0;have d1:=A1 hN4 1;have d2:=A1 hN4 2;have d3:=A1 hN4 3;have d4:=A1 hN4 4;have d5:=A1 hN4 5;have d6:=A1 hN4 6;have d7:=A1 hN4 7;simp at d0 d1 d2 d3 d4 d5 d6 d7;have df:∀k,w4.frozen? ⟨w3.heap.size,k,none⟩=false:=λk=>by simp[World.frozen?,hN4]
   have x5:=(HX.out _ HB4.out).cells.2.2.2.2.2;have hr4:=HX.out _ HB4.out;obtain⟨g1,g2⟩:=hr4.dir hk;have c5:=A1 g1 0;have c6:(Builtin.len_ #[150] 3 #[.map (some n.m)]).run Tryz.prog w4=.ok (.int .i64 (Dz r.nms x.id:Int)) w4:=by rw[<-Jn];exact Bg Tryz.underlying150 g2
   have hb5:c5=c5:=rfl;clear hr4 g1 g2 hb5
   go_upto_region 15 with fail
   obtain⟨w5,hw5⟩:∃w5,((w4.setCell ⟨w3.heap.size,2,none⟩ (.int .i64 2)).setCell ⟨w3.heap.size,5,none⟩ (.int .i64 (Dz r.nms x.id:Int)))=w5:=⟨_,rfl⟩;rw[hw5];have hX5:=(show w5.heap[w.heap.size+1]?=w4.heap[w.heap.size+1]? from by rw[<-hw5];simp only[A4 _ _ _ _ _ (show w.heap.size+1≠w3.heap.size by omega)]).trans HX4.out;have hN5:w5.heap[w3.heap.size]?=some (.cells #[.int .i64 i,.int .i64 g,.int .i64 2,.int .i64 x.mode,.int .i64 (lk:Int),.int .i64 (Dz r.nms x.id:Int),.int .i64 0,.int .i64 x.time] 50 (0,0)):=by rw[<-hw5];exact(heap_setCell_same _ _ 5 _ _ _ (heap_setCell_same _ _ 2 _ _ _ hN4))
   have HB5:=aa (show Below w2.heap.size w2 w5 from by rw[<-hw5];exact((((HB4.out).setCell (by omega) _)).setCell (by omega) _));clear hw5 d0 d1 d2 d3 d4 d5 d6 d7 df hN4;have d0:=A1 hN5 0;have d1:=A1 hN5 1;have d2:=A1 hN5 2;have d3:=A1 hN5 3;have d4:=A1 hN5 4;have d5:=A1 hN5 5;have d6:=A1 hN5 6;have d7:=A1 hN5 7;simp at d0 d1 d2 d3 d4 d5 d6 d7;clear hN5;have HX5:=aa hX5;clear hX5;have HPv:=aa (L4 i g 2 x.mode lk (Dz r.nms x.id:Int) 0 x.time)
   go_wp2_with (refine A6 rfl 50 (.tmp 4) (.tmp 67) rfl _ (w.heap.size+1) _ _ _ rfl rfl HX5.out rfl Ro HPv.out ?_;intro w6 hX6 hG6)
   have hb6:=Below.grownBy (HB.out.trans (HB5.out.mono (by omega))) hG6 (cn (by omega) HB5.out.size) (λk hk=>by injection hk with hk;omega);exact Ag (p:=4) (u:=5) rfl rfl hX6 Z3n rfl Ro rfl rfl ⟨rfl,hb6⟩
  .have hta:∀w,(Instr.typeAssert (Ad x n) 20 148 true).run Tryz.prog w=.ok (.tuple #[.pointer none,.bool false]) w:=λw=>by rw[M6,dp (by omega)]
   have htd:∀w,(Instr.typeAssert (Ad x n) 20 135 true).run Tryz.prog w=.ok (.tuple #[.pointer none,.bool false]) w:=λw=>by rw[Cl,dp (by omega)]
   have htt:∀w,(Instr.typeAssert (Ad x n) 20 9 true).run Tryz.prog w=.ok (.tuple #[.string x.target,.bool true]) w:=λw=>by rw[Z11,dq (by omega)]
   have hsz:G9 r x=x.target.size:=by unfold G9;rw[dp (by omega),dp (by omega)]
   have hon:x.On=[]:=(HFi.out (by omega)).2;rw[hsz,hon,hk]
   go_enter Tryz.func51,Tryz.ntmps51
   go_wp2_with fail
   rw[HW2.out]
   go_upto_region 4 with(go_at_call 81;(with_reducible refine HFd.out.mono ?_);rintro e w3 ⟨rfl,hB3⟩;have hX3:=(hB3.block _ (by omega)).trans HB1.out;have hs3:=hB3.size;obtain⟨-,-,x2,x3,x4,x5⟩:=(HX.out w3 hB3).cells;have hY3:=(hB3.block _ (by omega)).trans HB0.out;have y0:w3.cell? ⟨w.heap.size,0,none⟩=_:=A1 hY3 0;have y1:w3.cell? ⟨w.heap.size,1,none⟩=_:=A1 hY3 1;clear hY3;replace hB3:=aa hB3;replace hX3:=aa hX3)
   rw[HLk.out] at x4
   go_region_held3 (λw'=>w'.cell? ⟨w.heap.size,0,none⟩=some (.int .i64 i)/\w'.cell? ⟨w.heap.size,1,none⟩=some (.int .i64 g)/\w'.cell? ⟨n.blk,2,none⟩=some (.int .i64 x.mode)/\w'.cell? ⟨n.blk,3,none⟩=some (.int .i64 x.time)/\w'.cell? ⟨n.blk,4,none⟩=some (.int .i64 (lk:Int))/\w'.cell? ⟨n.blk,5,none⟩=some (Ad x n))
    (go_keep)
    (fail)
   go_upto_region 5 with fail
   clear x2 x3 x4 x5 y0 y1;obtain⟨w4,hw4⟩:∃w4,(w3.alloc (.cells #[.int .i64 i,.int .i64 g,.int .i64 0,.int .i64 x.mode,.int .i64 (lk:Int),.int .i64 0,.int .i64 0,.int .i64 x.time] 50)).drew=w4:=⟨_,rfl⟩;rw[hw4];have HX4:=aa ((show w4.heap[w.heap.size+1]?=w3.heap[w.heap.size+1]? from by rw[<-hw4];exact ae _ _ _ (by omega)).trans hX3.out);have hN4:w4.heap[w3.heap.size]?=some (.cells #[.int .i64 i,.int .i64 g,.int .i64 0,.int .i64 x.mode,.int .i64 (lk:Int),.int .i64 0,.int .i64 0,.int .i64 x.time] 50 (0,0)):=by rw[<-hw4];exact heap_alloc_new _ _
   have HB4:=aa (show Below w2.heap.size w2 w4 from by rw[<-hw4];exact(hB3.out.alloc hs3 _).drew);clear hw4;have d0:=A1 hN4 0;have d1:=A1 hN4 1;have d2:=A1 hN4 2;have d3:=A1 hN4 3;have d4:=A1 hN4 4;have d5:=A1 hN4 5;have d6:=A1 hN4 6;have d7:=A1 hN4 7;simp at d0 d1 d2 d3 d4 d5 d6 d7;have df:∀k,w4.frozen? ⟨w3.heap.size,k,none⟩=false:=λk=>by simp[World.frozen?,hN4]
   have x5:=(HX.out _ HB4.out).cells.2.2.2.2.2
   go_upto_region 15 with fail
   obtain⟨w5,hw5⟩:∃w5,((w4.setCell ⟨w3.heap.size,2,none⟩ (.int .i64 3)).setCell ⟨w3.heap.size,5,none⟩ (.int .i64 (x.target.size:Int)))=w5:=⟨_,rfl⟩;rw[hw5];have hX5:=(show w5.heap[w.heap.size+1]?=w4.heap[w.heap.size+1]? from by rw[<-hw5];simp only[A4 _ _ _ _ _ (show w.heap.size+1≠w3.heap.size by omega)]).trans HX4.out;have hN5:w5.heap[w3.heap.size]?=some (.cells #[.int .i64 i,.int .i64 g,.int .i64 3,.int .i64 x.mode,.int .i64 (lk:Int),.int .i64 (x.target.size:Int),.int .i64 0,.int .i64 x.time] 50 (0,0)):=by rw[<-hw5];exact(heap_setCell_same _ _ 5 _ _ _ (heap_setCell_same _ _ 2 _ _ _ hN4))
   have HB5:=aa (show Below w2.heap.size w2 w5 from by rw[<-hw5];exact((((HB4.out).setCell (by omega) _)).setCell (by omega) _));clear hw5 d0 d1 d2 d3 d4 d5 d6 d7 df hN4;have d0:=A1 hN5 0;have d1:=A1 hN5 1;have d2:=A1 hN5 2;have d3:=A1 hN5 3;have d4:=A1 hN5 4;have d5:=A1 hN5 5;have d6:=A1 hN5 6;have d7:=A1 hN5 7;simp at d0 d1 d2 d3 d4 d5 d6 d7;clear hN5;have HX5:=aa hX5;clear hX5;have HPv:=aa (L4 i g 3 x.mode lk (x.target.size:Int) 0 x.time)
   go_wp2_with (refine A6 rfl 50 (.tmp 4) (.tmp 67) rfl _ (w.heap.size+1) _ _ _ rfl rfl HX5.out rfl Ro HPv.out ?_;intro w6 hX6 hG6)
   have hb6:=Below.grownBy (HB.out.trans (HB5.out.mono (by omega))) hG6 (cn (by omega) HB5.out.size) (λk hk=>by injection hk with hk;omega);exact Ag (p:=4) (u:=5) rfl rfl hX6 Z3n rfl Ro rfl rfl ⟨rfl,hb6⟩
end Go.Proofs.YtmmdikhljefeiaaGreat
