
import Derived.Test.YtmmdikhljefeiaaGreatSM1
import Derived.Test.YtmmdikhljefeiaaGreatYShG
import Derived.Test.YtmmdikhljefeiaaGreatOwnM
import Derived.Deep.QuietTactic
import Derived.BigQuiet
namespace Go.Proofs.YtmmdikhljefeiaaGreat
open Go.RowKit Go.MapKept
structure Nd where
 id:Int
 blk:Nat
 b:Nat
 m:Nat
 big:Bool
def Nd.foot (n:Nd):List Nat:=if n.big=true then [n.blk,n.b,n.m] else [n.blk]
theorem Nd.blk_mem (n:Nd):n.blk∈n.foot:=by unfold Nd.foot;split<;>simp
theorem Nd.b_mem {n:Nd}(h:n.big=true):n.b∈n.foot:=by unfold Nd.foot;rw[dq h];simp
theorem Nd.m_mem {n:Nd}(h:n.big=true):n.m∈n.foot:=by unfold Nd.foot;rw[dq h];simp
def De (b:Nat):Value:=.pointer (some ⟨b,0,none⟩)
def Ad (x:RIn)(n:Nd):Value :=
 if x.kind=1 then .iface 148 (.pointer (some ⟨n.b,0,none⟩)) else if x.kind=2 then .iface 135 (.pointer (some ⟨n.b,0,none⟩)) else .iface 9 (.string x.target)
def Ks (x:RIn)(lk:Nat)(n:Nd):Array Value:=#[.int .i64 x.id,.int .i64 x.gen,.int .i64 x.mode,.int .i64 x.time,.int .i64 (lk:Int),Ad x n]
structure NodeR (w:World)(r:RFs)(x:RIn)(n:Nd):Prop where
 id:n.id=x.id
 head:w.heap[n.blk]?=some (.cells (Ks x (A5 r x) n) 143 (0,0))
 big:n.big=decide (x.kind≠3)
 file:x.kind=1->∃size bl,Raw w n.b n.m size bl/\Kz size bl x.B x.On
 dir:x.kind=2->w.heap[n.b]?=some (.cells #[.map (some n.m),.int .i64 x.parent] 152 (0,0))/\MapB w n.m Ci Aw (Aa r.nms x.id)
structure FsN (w:World)(f mi mg:Nat)(r:RFs)(N:List Nd):Prop where
 head:w.heap[f]?=some (.cells #[.int .i64 r.room,.map (some mi),.map (some mg)] 147 (0,0))
 imap:MapB w mi Aw De (N.map λn=>(n.id,n.blk))
 gmap:∃G,MapB w mg Aw Aw G/\∀id,(Az G id).getD 0=Aq r.gens id
 node:∀n∈N,∃x∈r.ins,NodeR w r x n
 all:∀x∈r.ins,∃n∈N,n.id=x.id
 sep:N.Pairwise λn n'=>∀k∈n.foot,k ∉ n'.foot
 off:∀n∈N,f ∉ n.foot/\mi ∉ n.foot/\mg ∉ n.foot
 mm:mi≠mg
theorem An {w:World}{k:Nat}{o:Obj}(h:w.heap[k]?=some o):k < w.heap.size:=(bz.1 h).1
section
variable {w w':World} {f mi mg K:Nat} {r:RFs} {N:List Nd} {x:RIn} {n:Nd}
theorem NodeR.lt (h:NodeR w r x n)(a:x.kind=1\/x.kind=2\/x.kind=3):∀k∈n.foot,k < w.heap.size:=by
 intro k b;unfold Nd.foot at b;rw[h.big] at b;rcases a with a | a | a
 .obtain⟨s,bl,c,_⟩:=h.file a;simp[a] at b;rcases b with rfl | rfl | rfl
  .exact An h.head
  .exact c.lt
  .exact c.map.lt
 .obtain⟨c,d⟩:=h.dir a;simp[a] at b;rcases b with rfl | rfl | rfl
  .exact An h.head
  .exact An c
  .exact d.lt
 .simp[a] at b;subst b;exact An h.head
theorem NodeR.keep {r':RFs}(h:NodeR w r x n)(c:∀k∈n.foot,w'.heap[k]?=w.heap[k]?)(i:A5 r' x=A5 r x)(g:x.kind=2->Aa r'.nms x.id=Aa r.nms x.id):NodeR w' r' x n:=by
 refine⟨h.id,by rw[i];exact(c _ n.blk_mem).trans h.head,h.big,λb=>?_,λb=>?_⟩
 .have a:n.big=true:=by rw[h.big,b];rfl
  obtain⟨s,bl,e,d⟩:=h.file b;exact⟨s,bl,e.keep (c _ (Nd.b_mem a)) (c _ (Nd.m_mem a)),d⟩
 .have a:n.big=true:=by rw[h.big,b];rfl
  obtain⟨e,d⟩:=h.dir b;exact⟨(c _ (Nd.b_mem a)).trans e,by rw[g b];exact d.of_block (c _ (Nd.m_mem a))⟩
theorem FsN.keep (h:FsN w f mi mg r N)(c:w'.heap[f]?=w.heap[f]?)(e:w'.heap[mi]?=w.heap[mi]?)(d:w'.heap[mg]?=w.heap[mg]?)(g:∀n∈N,∀k∈n.foot,w'.heap[k]?=w.heap[k]?):FsN w' f mi mg r N:=by obtain⟨G,b,i⟩:=h.gmap;refine⟨c.trans h.head,h.imap.of_block e,⟨G,b.of_block d,i⟩,λn a=>?_,h.all,h.sep,h.off,h.mm⟩;obtain⟨x,j,hr⟩:=h.node n a;exact⟨x,j,hr.keep (g n a) rfl (λ_=>rfl)⟩
theorem FsN.lt (h:FsN w f mi mg r N)(c:Wf r K):f < w.heap.size/\mi < w.heap.size/\mg < w.heap.size/\∀n∈N,∀k∈n.foot,k < w.heap.size:=by obtain⟨G,a,_⟩:=h.gmap;refine⟨An h.head,h.imap.lt,a.lt,λn b=>?_⟩;obtain⟨x,d,hr⟩:=h.node n b;exact hr.lt (c.kind x d)
theorem FsN.below (h:FsN w f mi mg r N)(d:Wf r K)(a:Below w.heap.size w w'):FsN w' f mi mg r N:=by obtain⟨g,j,i,e⟩:=h.lt d;exact h.keep (a.block _ g) (a.block _ j) (a.block _ i) (λn c k b=>a.block k (e n c k b))
theorem FsN.at_ (h:FsN w f mi mg r N)(b:Wf r K)(d:x∈r.ins):∃n∈N,NodeR w r x n:=by
 obtain⟨n,a,e⟩:=h.all x d;obtain⟨y,g,hr⟩:=h.node n a;have:y=x:=by have c:=b.byId g;have i:=b.byId d;rw[<-hr.id,e,i] at c;exact c.symm
 subst this;exact⟨n,a,hr⟩
theorem FsN.idU (h:FsN w f mi mg r N):(N.map (·.id)).Nodup:=by have:=h.imap.nodup;simpa [List.map_map,Function.comp_def] using this
theorem Ba {α β:Type}{g:α->β}{l:List α}(h:(l.map g).Nodup){a b:α}(ha:a∈l)(d:b∈l)(e:g a=g b):a=b:=by
 induction l with
 | nil=>simp at ha
 | cons c l ih =>
  simp only[List.map_cons,List.nodup_cons] at h;rcases bq.1 ha with j | ha<;>rcases bq.1 d with i | d
  .rw[j,i]
  .exact dt (bk.2 ⟨b,d,by rw[<-e,j]⟩) h.1
  .exact dt (bk.2 ⟨a,ha,by rw[e,i]⟩) h.1
  .exact ih h.2 ha d
theorem FsN.apart (h:FsN w f mi mg r N){a b:Nd}(ha:a∈N)(s:b∈N)(d:a≠b):∀k∈a.foot,k ∉ b.foot:=by
 obtain⟨i,p,rfl⟩:=List.getElem_of_mem ha;obtain⟨j,o,rfl⟩:=List.getElem_of_mem s;have m:=List.pairwise_iff_getElem.1 h.sep;rcases Nat.lt_trichotomy i j with e | c | g
 .exact m i j p o e
 .subst c;exact dt rfl d
 .exact λk q l=>m j i o p g k l q
theorem FsN.get (h:FsN w f mi mg r N)(a:n∈N):Az (N.map λn=>(n.id,n.blk)) n.id=some n.blk :=
 Si h.imap.nodup (bk.2 ⟨n,a,rfl⟩)
theorem FsN.get_none (h:FsN w f mi mg r N)(a:Wf r K){id:Int}(hid:(A3 r.ins id).id=0):Az (N.map λn=>(n.id,n.blk)) id=none:=by rw[Cy];intro p d e;obtain⟨n,g,rfl⟩:=bk.1 d;obtain⟨x,c,hr⟩:=h.node n g;have b:=a.byId c;rw[<-hr.id,show n.id=id from e] at b;rw[b] at hid;exact a.ne0 c hid
end
theorem KI:KeyOk Tryz.prog 3 Aw:=Mp Tryz.underlying3
theorem KS:KeyOk Tryz.prog 9 Ci:=J5 Tryz.underlying9
theorem Zee (w:World):(zeroValue 134).run Tryz.prog w=.ok (.pointer none) w:=by kernel_rfl
theorem Za3 (w:World):(zeroValue 3).run Tryz.prog w=.ok (.int .i64 0) w:=by kernel_rfl
theorem Z16 (w:World)(a b c d:Int):(binOp .neq 31 (.agg #[.int .i64 a,.int .i64 b]) (.agg #[.int .i64 c,.int .i64 d])).run Tryz.prog w=.ok (.bool (!decide (a=c/\b=d))) w:=by
 have j:Tryz.prog.underlying 31=some (.struct (Tryz.prog.fieldsOf 31)):=by kernel_rfl
 have g:(Tryz.prog.fieldsOf 31).toList.map (λf=>(f.name,f.type,f.offset))=[("Id",3,0),("Gen",3,1)]:=by kernel_rfl
 rw[My w j (by kernel_rfl) g];have e:Tryz.prog.plainKey 3=true:=by kernel_rfl
 have l:=fun(w:World) (x y:Int)=>run_part_plain (P:=Tryz.prog) (w:=w) e (xs:=#[.int .i64 x,.int .i64 y]) (off:=0) (v:=.int .i64 x) rfl;have h:=fun(w:World) (x y:Int)=>run_part_plain (P:=Tryz.prog) (w:=w) e (xs:=#[.int .i64 x,.int .i64 y]) (off:=1) (v:=.int .i64 y) rfl;have q:=fun(w:World) (x y:Int)=>run_equalIn_int (P:=Tryz.prog) w 9998 3 .i64 .i64 x y Tryz.underlying3;have m:(eqF 9999 #[.int .i64 a,.int .i64 b] #[.int .i64 c,.int .i64 d] [("Id",3,0),("Gen",3,1)]).run Tryz.prog w=.ok (decide (a=c/\b=d)) w:=by simp only[eqF,ne_eq];by_cases k:a=c<;>by_cases i:b=d<;>simp[k,i,Sem.run_bind,l,h,q,Result.andThen]
 rw[m];rfl
set_option maxHeartbeats 1000000 in
theorem Ec {w:World}{f mi mg K:Nat}{r:RFs}{N:List Nd}(h:FsN w f mi mg r N)(hW:Wf r K)(i g:Int)(hl:Aj r (i,g)=true){n:Nd}(hn:n∈N)(hi:n.id=i) :
  Calls Tryz.prog 81 #[.pointer (some ⟨f,0,none⟩),.agg #[.int .i64 i,.int .i64 g]] w λe w'=>e=.returned (.tuple #[De n.blk,.int .i64 0])/\Below w.heap.size w w':=by
 obtain⟨x,hx,hr⟩:=h.node n hn;have hg:x.gen=g:=by have:=(Ac hl).2.2;have e:=hW.byId hx;rw[<-hr.id,hi] at e;rw[e] at this;exact this
 have e0:x.id=i:=hr.id.symm.trans hi;have hlk:∀w',Below w.heap.size w w'->(Instr.lookup 144 (.map (some mi)) (.int .i64 i) true).run Tryz.prog w'=.ok (.tuple #[.pointer (some ⟨n.blk,0,none⟩),.bool true]) w':=λw' hb=>by have:=Ca KI (t:=144) (et:=134) Tryz.underlying144 (Zee w') ((h.below hW hb).imap) i;rw[<-hi,h.get hn] at this;rw[<-hi];exact this
 have hc:∀w',Below w.heap.size w w'->w'.cell? ⟨f,1,none⟩=some (.map (some mi))/\w'.cell? ⟨n.blk,0,none⟩=some (.int .i64 i)/\w'.cell? ⟨n.blk,1,none⟩=some (.int .i64 g):=λw' hb=>by
  have h':=h.below hW hb;obtain⟨y,hy,hr'⟩:=h'.node n hn;have:y=x:=by have e1:=hW.byId hy;rw[<-hr'.id,hr.id,hW.byId hx] at e1;exact e1.symm
  subst this;refine⟨by rw[A1 h'.head];rfl,?_,?_⟩
  .rw[A1 hr'.head,<-e0];rfl
  .rw[A1 hr'.head,<-hg];rfl
 obtain⟨w1,hw1⟩:∃w1,w.alloc (.cells #[.int .i64 i,.int .i64 g] 31)=w1:=⟨_,rfl⟩;have hB:Below w.heap.size w w1:=by rw[<-hw1];exact(ab _ _).alloc (av _) _
 have hb0:w1.heap[w.heap.size]?=some (.cells #[.int .i64 i,.int .i64 g] 31 (0,0)):=by rw[<-hw1];exact heap_alloc_new _ _
 have t0:w1.cell? ⟨w.heap.size,0,none⟩=some (.int .i64 i):=by rw[A1 hb0];rfl
 have t1:w1.cell? ⟨w.heap.size,1,none⟩=some (.int .i64 g):=by rw[A1 hb0];rfl
 obtain⟨c1,c2,c3⟩:=hc w1 hB;have hl1:=λq=>hlk (w1.drewN q) (D7 hB q);have hne:=λw=>Z16 w i g i g;simp only[and_self,decide_true,Bool.not_true] at hne;have HW1:=aa hw1;have HB:=aa hB;clear hw1 hB hb0 hlk hc hr hg e0 hx hl h hW hn hi
 go_enter Tryz.func81,Tryz.ntmps81
 go_wp2
 rw[HW1.out]
 go_quiet (fail)
 go_wp2
 go_quiet (fail)
 go_wp2
 go_ret2
 exact⟨rfl,by repeat (first | exact HB.out | refine D7 ?_ _)⟩
section
variable {w w':World} {f mi mg K:Nat} {r:RFs} {N:List Nd} {x:RIn} {n:Nd}
theorem FsN.cells (h:FsN w f mi mg r N):w.cell? ⟨f,0,none⟩=some (.int .i64 r.room)/\w.cell? ⟨f,1,none⟩=some (.map (some mi))/\w.cell? ⟨f,2,none⟩=some (.map (some mg)) :=
 ⟨by rw[A1 h.head];rfl,by rw[A1 h.head];rfl,by rw[A1 h.head];rfl⟩
theorem NodeR.cells (h:NodeR w r x n):w.cell? ⟨n.blk,0,none⟩=some (.int .i64 x.id)/\w.cell? ⟨n.blk,1,none⟩=some (.int .i64 x.gen)/\w.cell? ⟨n.blk,2,none⟩=some (.int .i64 x.mode)/\w.cell? ⟨n.blk,3,none⟩=some (.int .i64 x.time)/\w.cell? ⟨n.blk,4,none⟩=some (.int .i64 (A5 r x:Int))/\w.cell? ⟨n.blk,5,none⟩=some (Ad x n) :=
 ⟨by rw[A1 h.head];rfl,by rw[A1 h.head];rfl,by rw[A1 h.head];rfl,by rw[A1 h.head];rfl,by rw[A1 h.head];rfl,by rw[A1 h.head];rfl⟩
theorem NodeR.below (h:NodeR w r x n)(b:x.kind=1\/x.kind=2\/x.kind=3)(c:Below w.heap.size w w'):NodeR w' r x n :=
 h.keep (λk a=>c.block k (h.lt b k a)) rfl (λ_=>rfl)
theorem FsN.look (h:FsN w f mi mg r N)(i:Int):(Instr.lookup 144 (.map (some mi)) (.int .i64 i) true).run Tryz.prog w=.ok (.tuple #[((Az (N.map λn=>(n.id,n.blk)) i).map De).getD (.pointer none),.bool (Az (N.map λn=>(n.id,n.blk)) i).isSome]) w /\
  (Instr.lookup 144 (.map (some mi)) (.int .i64 i) false).run Tryz.prog w=.ok (((Az (N.map λn=>(n.id,n.blk)) i).map De).getD (.pointer none)) w :=
 ⟨Ca KI Tryz.underlying144 (Zee w) h.imap i,Ar KI Tryz.underlying144 (Zee w) h.imap i⟩
end
set_option maxHeartbeats 1000000 in
theorem Hv {w:World}{f mi mg K:Nat}{r:RFs}{N:List Nd}(h:FsN w f mi mg r N)(hW:Wf r K)(i g:Int)(hl:Aj r (i,g)=false) :
  Calls Tryz.prog 81 #[.pointer (some ⟨f,0,none⟩),.agg #[.int .i64 i,.int .i64 g]] w λe w'=>e=.returned (.tuple #[.pointer none,.int .i64 175])/\Below w.heap.size w w':=by
 obtain⟨w1,hw1⟩:∃w1,w.alloc (.cells #[.int .i64 i,.int .i64 g] 31)=w1:=⟨_,rfl⟩;have hB:Below w.heap.size w w1:=by rw[<-hw1];exact(ab _ _).alloc (av _) _
 have hb0:w1.heap[w.heap.size]?=some (.cells #[.int .i64 i,.int .i64 g] 31 (0,0)):=by rw[<-hw1];exact heap_alloc_new _ _
 have t0:w1.cell? ⟨w.heap.size,0,none⟩=some (.int .i64 i):=by rw[A1 hb0];rfl
 have t1:w1.cell? ⟨w.heap.size,1,none⟩=some (.int .i64 g):=by rw[A1 hb0];rfl
 have h1:=h.below hW hB;obtain⟨-,c1,-⟩:=h1.cells;have hlk:=λq=>((h.below hW (D7 hB q)).look i).1;have HW1:=aa hw1;have HB:=aa hB;by_cases hid:(A3 r.ins i).id=0
 .rw[h.get_none hW hid] at hlk;simp only[Option.map_none,Option.getD_none,Option.isSome_none] at hlk;clear hw1 hB hb0 hl h hW h1 hid
  go_enter Tryz.func81,Tryz.ntmps81
  go_wp2
  rw[HW1.out]
  go_quiet (fail)
  go_wp2
  go_quiet (fail)
  go_wp2
  go_ret2
  exact⟨rfl,by repeat (first | exact HB.out | refine D7 ?_ _)⟩
 .obtain⟨hx,he⟩:=Cx hid;obtain⟨n,hn,hr⟩:=h.at_ hW hx;have hi:n.id=i:=hr.id.trans he;have hgne:(A3 r.ins i).gen≠g:=λe=>by
   have:=of_decide_eq_false hl;exact this ⟨hid,e⟩
  have hget:=h.get hn;rw[hi] at hget;rw[hget] at hlk;obtain⟨d0,d1,-⟩:=(hr.below (hW.kind _ hx) hB).cells;rw[he] at d0;have hne:=λw=>Z16 w i (A3 r.ins i).gen i g;simp only[true_and,hgne,decide_false,Bool.not_false] at hne;simp only[Option.map_some,Option.getD_some,Option.isSome_some,De] at hlk;generalize (A3 r.ins i).gen=g' at *;clear hw1 hB hb0 hl h hW h1 hid hx he hr hi hget hn hgne
  go_enter Tryz.func81,Tryz.ntmps81
  go_wp2
  rw[HW1.out]
  go_quiet (fail)
  go_wp2
  go_quiet (fail)
  go_wp2
  go_ret2
  exact⟨rfl,by repeat (first | exact HB.out | refine D7 ?_ _)⟩
end Go.Proofs.YtmmdikhljefeiaaGreat
