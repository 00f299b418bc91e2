
import Derived.Test.YtmmdikhljefeiaaGreatYFsB
import Derived.Test.YtmmdikhljefeiaaGreatYIdx
import Derived.WalkLawsBesides
import Derived.Lib.IndexLaws
namespace Go.Proofs.YtmmdikhljefeiaaGreat
open Go.RowKit Go.MapKept
def Ed (s:ByteArray):Int:=if Ae s=true then 0 else 176
theorem Dq (s:ByteArray):Ae s=true↔(1<=s.size/\s.size<=60/\s≠Mu/\s≠dot2S)/\∀c∈s.data.toList,c≠47/\c≠0:=by unfold Ae;rw[be,decide_eq_true_eq,List.all_eq_true];simp only[decide_eq_true_eq]
theorem Hh {s:ByteArray}(h:¬Ae s=true):Ed s=176:=dp h
theorem toList_data (s:ByteArray):s.toList=s.data.toList:=ByteArray.toList_eq s
theorem Ie (s:ByteArray):s.size=s.data.toList.length:=rfl
theorem Dy {s:ByteArray}{l:List UInt8}(h:s.toList=l):s=⟨l.toArray⟩:=by rw[toList_data] at h;obtain⟨⟨x⟩⟩:=s;simp at h;rw[h]
theorem Z14 {l:List UInt8}{c:UInt8}(h:0<=Lib.indexByte l c):c∈l:=by obtain⟨o,a⟩:=al h;exact au (Lib.indexByte_some a).1
theorem Z1g {l:List UInt8}{c:UInt8}(h:Lib.indexByte l c < 0):c ∉ l:=λb=>by have d:=Lib.indexByte_ge l c;obtain⟨k,a⟩:=List.getElem?_of_mem b;exact Lib.indexByte_none (show Lib.indexByte l c=-1 by omega) k a
section
variable {s:ByteArray}
theorem Zgb (h:s.toList=[]):Ed s=176:=Hh λa=>by have:=((Dq s).1 a).1.1;rw[Ie,<-toList_data,h] at this;simp at this
theorem Zgv (h:60 < (s.size:Int)):Ed s=176:=Hh λa=>by have:=((Dq s).1 a).1.2.1;omega
theorem Zgs (h:s.toList=[46]):Ed s=176:=Hh λa=>((Dq s).1 a).1.2.2.1 (Dy h)
theorem Zgd (h:s.toList=[46,46]):Ed s=176:=Hh λa=>((Dq s).1 a).1.2.2.2 (Dy h)
theorem Zgm (h:0<=Lib.indexByte s.data.toList 47):Ed s=176:=Hh λa=>(((Dq s).1 a).2 _ (Z14 h)).1 rfl
theorem Zg6 (h:0<=Lib.indexByte s.data.toList 0):Ed s=176:=Hh λa=>(((Dq s).1 a).2 _ (Z14 h)).2 rfl
theorem Zh0 (b:¬s.toList=[])(h:(s.size:Int)<=60)(g:¬s.toList=[46])(d:¬s.toList=[46,46])(e:Lib.indexByte s.data.toList 47 < 0)(f:Lib.indexByte s.data.toList 0 < 0):Ed s=0:=dq ((Dq s).2 (by
 refine⟨⟨?_,by omega,?_,?_⟩,λc a=>⟨?_,?_⟩⟩
 .rw[Ie,<-toList_data];exact List.length_pos_iff.2 b
 .rintro rfl;exact g (toList_data _)
 .rintro rfl;exact d (toList_data _)
 .rintro rfl;exact Z1g e a
 .rintro rfl;exact Z1g f a))
end
set_option maxHeartbeats 1000000 in
theorem Bj (s:ByteArray)(w:World)(hs:s.size<=maxLen):Calls Tryz.prog 93 #[.string s] w λe w'=>e=.returned (.int .i64 (Ed s))/\w=w':=by
 unfold maxLen at hs;have H1:=aa (λw=>(Tryz.strings_IndexByte s 47 w));have H2:=aa (λw=>(Tryz.strings_IndexByte s 0 w));have hcs:0<=Lib.indexByte s.data.toList 0\/Lib.indexByte s.data.toList 0 < 0:=by omega
 rcases hcs with hcs | hcs
 all_goals
  go_enter Tryz.func93,Tryz.ntmps93
  go_wp2_with (first
   | (go_at_call 120;(with_reducible refine(H1.out _).mono ?_);rintro e w1 ⟨rfl,rfl⟩)
   | (go_at_call 120;(with_reducible refine(H2.out _).mono ?_);rintro e w1 ⟨rfl,rfl⟩))
  all_goals
   go_ret
   refine⟨Kh ?_,rfl⟩;symm
   first
    | exact Zgb (by assumption)
    | exact Zgv (by assumption)
    | exact Zgs (by assumption)
    | exact Zgd (by assumption)
    | exact Zgm (by assumption)
    | exact Zg6 (by assumption)
    | exact Zh0 (by assumption) (by assumption) (by assumption) (by assumption) (by assumption) (by assumption)
    | (exfalso;simp_all<;>omega)
theorem Sd {P:Program}(w:World)(t b:TypeId)(v:Value){d:TypeDesc}(c:P.underlying t=some d)(hd:∀a,d≠.interface a):(Instr.typeAssert (.iface t v) b t true).run P w=.ok (.tuple #[v,.bool true]) w:=by simp only[Instr.typeAssert,Sem.run_bind,run_underlying c,Result.andThen_ok];cases d<;>first | exact dt rfl (hd _) | simp
theorem Hg {P:Program}(w:World)(t a f:TypeId)(v:Value){d:TypeDesc}(g:P.underlying a=some d)(hd:∀e,d≠.interface e)(b:t≠a){z:Value}(c:(zeroValue a).run P w=.ok z w):(Instr.typeAssert (.iface t v) f a true).run P w=.ok (.tuple #[z,.bool false]) w:=by simp only[Instr.typeAssert,Sem.run_bind,run_underlying g,Result.andThen_ok];cases d<;>first | exact dt rfl (hd _) | simp[b,c,Result.andThen]
theorem Zfp (w:World):(zeroValue 135).run Tryz.prog w=.ok (.pointer none) w:=by kernel_rfl
theorem Zfx (w:World):(zeroValue 148).run Tryz.prog w=.ok (.pointer none) w:=by kernel_rfl
theorem Zfs (w:World):(zeroValue 9).run Tryz.prog w=.ok (.string Jr) w:=by kernel_rfl
theorem Cl (w:World)(x:RIn)(n:Nd):(Instr.typeAssert (Ad x n) 20 135 true).run Tryz.prog w=.ok (if x.kind=2 then .tuple #[De n.b,.bool true] else .tuple #[.pointer none,.bool false]) w:=by
 unfold Ad;by_cases d:x.kind=1
 .rw[dq d,dp (by omega)];exact Hg w _ _ _ _ Tryz.underlying135 (λc h=>by cases h) (by decide) (Zfp w)
 .rw[dp d];by_cases a:x.kind=2
  .rw[dq a,dq a];exact Sd w _ _ _ Tryz.underlying135 (λc h=>by cases h)
  .rw[dp a,dp a];exact Hg w _ _ _ _ Tryz.underlying135 (λc h=>by cases h) (by decide) (Zfp w)
set_option maxRecDepth 100000 in
set_option maxHeartbeats 1000000 in
theorem Cu {w:World}{r:RFs}{x:RIn}{n:Nd}(h:NodeR w r x n) :
  Calls Tryz.prog 92 #[.pointer (some ⟨n.blk,0,none⟩)] w λe w'=>e=.returned (if x.kind=2 then .tuple #[De n.b,.int .i64 0] else .tuple #[.pointer none,.int .i64 173])/\w=w':=by
 obtain⟨-,-,-,-,-,c5⟩:=h.cells;have hta:=λw=>Cl w x n;clear h;generalize Ad x n=hv at *;by_cases h1:x.kind=2
 .simp only[h1,if_true,De] at hta⊢;clear h1
  go_enter Tryz.func92,Tryz.ntmps92
  go_wp2
  go_ret2
  exact⟨rfl,rfl⟩
 .simp only[h1,if_false] at hta⊢;clear h1
  go_enter Tryz.func92,Tryz.ntmps92
  go_wp2
  go_ret2
  exact⟨rfl,rfl⟩
set_option maxHeartbeats 1000000 in
theorem Bc {w:World}{r:RFs}{x:RIn}{n:Nd}(h:NodeR w r x n)(hk:x.kind=2)(hb:∀k∈n.foot,k < w.heap.size)(s:ByteArray)(pv:Option Addr) :
  Calls Tryz.prog 59 #[.agg #[.pointer pv,.pointer (some ⟨n.b,0,none⟩),.string s]] w λe w'=>e=.returned (.tuple #[.int .i64 (A2 r.nms x.id s),.bool (Az (Aa r.nms x.id) s).isSome])/\Below w.heap.size w w':=by
 obtain⟨w1,hw1⟩:∃w1,w.alloc (.cells #[.pointer pv,.pointer (some ⟨n.b,0,none⟩),.string s] 137)=w1:=⟨_,rfl⟩;have hB:Below w.heap.size w w1:=by rw[<-hw1];exact(ab _ _).alloc (av _) _
 have hb0:w1.heap[w.heap.size]?=some (.cells #[.pointer pv,.pointer (some ⟨n.b,0,none⟩),.string s] 137 (0,0)):=by rw[<-hw1];exact heap_alloc_new _ _
 have t0:w1.cell? ⟨w.heap.size,1,none⟩=some (.pointer (some ⟨n.b,0,none⟩)):=by rw[A1 hb0];rfl
 have t1:w1.cell? ⟨w.heap.size,2,none⟩=some (.string s):=by rw[A1 hb0];rfl
 have hbig:n.big=true:=by rw[h.big,hk];rfl
 obtain⟨hd,hm⟩:=h.dir hk;have hd1:=(hB.block _ (hb _ (Nd.b_mem hbig))).trans hd;have c0:w1.cell? ⟨n.b,0,none⟩=some (.map (some n.m)):=by rw[A1 hd1];rfl
 have hlk:∀q,(Instr.lookup 150 (.map (some n.m)) (.string s) true).run Tryz.prog (w1.drewN q)=.ok (.tuple #[.int .i64 (A2 r.nms x.id s),.bool (Az (Aa r.nms x.id) s).isSome]) (w1.drewN q):=λq=>by have hm1:MapB (w1.drewN q) n.m Ci Aw (Aa r.nms x.id):=hm.of_block (hB.block _ (hb _ (Nd.m_mem hbig)));have:=Ca KS (t:=150) (et:=3) Tryz.underlying150 (Za3 _) hm1 s;rw[show((Az (Aa r.nms x.id) s).map Aw).getD (.int .i64 0)=Aw (A2 r.nms x.id s) by rw[<-Rn];cases Az (Aa r.nms x.id) s<;>rfl] at this;exact this
 have HW1:=aa hw1;have HB:=aa hB;generalize A2 r.nms x.id s=ent at *;generalize (Az (Aa r.nms x.id) s).isSome=is at *;clear hw1 hB hb0 hd hm hd1 h hb hk hbig
 go_enter Tryz.func59,Tryz.ntmps59
 go_wp2
 rw[HW1.out]
 go_quiet (fail)
 go_wp2
 go_ret2
 exact⟨rfl,by repeat (first | exact HB.out | refine D7 ?_ _)⟩
end Go.Proofs.YtmmdikhljefeiaaGreat
