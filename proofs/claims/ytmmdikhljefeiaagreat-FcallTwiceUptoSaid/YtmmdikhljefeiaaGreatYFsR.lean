
import Derived.Test.YtmmdikhljefeiaaGreatWA
import Derived.Deep.LoopGhost
namespace Go.Proofs.YtmmdikhljefeiaaGreat
open Go.RowKit Go.MapKept
inductive Under (r:RFs)(top:Int):Int->Prop
 | refl:Under r top top
 | step {id:Int}:id≠1->Under r top (A3 r.ins id).parent->Under r top id
open Classical in
noncomputable def Be (r:RFs) (id top:Int):Bool:=decide (Under r top id)
theorem Pf (r:RFs)(a:Int):Be r a a=true:=by unfold Be;exact @decide_eq_true _ (Classical.propDecidable _) Under.refl
theorem Na {r:RFs}{id a:Int}(h:id≠a)(c:id≠1):Be r id a=Be r (A3 r.ins id).parent a:=by
 unfold Be;rw[decide_eq_decide];constructor
 .intro b;cases b with
  | refl=>exact dt rfl h
  | step _ h3=>exact h3
 .exact λb=>Under.step c b
theorem Ns {r:RFs}{a:Int}(h:1≠a):Be r 1 a=false:=by
 unfold Be;rw[decide_eq_false_iff_not];intro b;cases b with
 | refl=>exact h rfl
 | step h3 _=>exact h3 rfl
set_option maxRecDepth 100000 in
set_option maxHeartbeats 2000000 in
theorem E6 {w:World}{f mi mg K:Nat}{r:RFs}{N:List Nd}(h:FsN w f mi mg r N)(hW:Wf r K){x:RIn}(hx:x∈r.ins)(hk:x.kind=2)(top:Int) :
  Calls Tryz.prog 100 #[.pointer (some ⟨f,0,none⟩),.int .i64 x.id,.int .i64 top] w λe w'=>e=.returned (.bool (Be r x.id top))/\w=w':=by
 obtain⟨ρ,hρ⟩:=hW.tree;obtain⟨_,c1,_⟩:=h.cells;have HLk:=aa (show ∀y∈r.ins,y.kind=2->∃n:Nd,(Instr.lookup 144 (.map (some mi)) (.int .i64 y.id) false).run Tryz.prog w=.ok (.pointer (some ⟨n.blk,0,none⟩)) w /\
   Calls Tryz.prog 92 #[.pointer (some ⟨n.blk,0,none⟩)] w (λe w'=>e=.returned (.tuple #[.pointer (some ⟨n.b,0,none⟩),.int .i64 0])/\w=w') /\
   w.cell? ⟨n.b,1,none⟩=some (.int .i64 y.parent) from λy hy hk=>by
  obtain⟨n,hn,hr⟩:=h.at_ hW hy;have hlk:=(h.look y.id).2;have hg:=h.get hn;rw[hr.id] at hg;rw[hg] at hlk;have hd:=Cu hr;rw[dq hk] at hd;exact⟨n,hlk,hd,by rw[A1 (hr.dir hk).1];rfl⟩)
 have HPar:=aa (show ∀y∈r.ins,y.kind=2->A3 r.ins y.id=y/\(y.id≠1->ρ y.parent < ρ y.id)/\∃p∈r.ins,p.id=y.parent/\p.kind=2 from λy hy hk=>⟨hW.byId hy,hρ y hy hk,hW.par y hy hk⟩);have HX:=aa hx;have HK:=aa hk;have H0:=aa (show Be r x.id top=Be r x.id top from rfl);obtain⟨b,hb⟩:∃b,Be r x.id top=b:=⟨_,rfl⟩;rw[hb];have HBx:=aa hb;clear h hW hρ hx hk H0 hb
 go_enter Tryz.func100,Tryz.ntmps100
 go_wp2
 go_loopg [1] (ρ x.id) (λgg v wr=>∃y∈r.ins,y.kind=2/\v=.int .i64 y.id/\Be r y.id top=b/\ρ y.id<=gg/\w=wr)
 case atStart=>exact⟨x,HX.out,HK.out,rfl,HBx.out,av _,rfl⟩
 case round =>
  obtain⟨y,hy,hk,rfl,hb,hg,rfl⟩:=hrel;obtain⟨hby,hlt,p,hp,hpi,hpk⟩:=HPar.out y hy hk;obtain⟨n,l1,l2,l3⟩:=HLk.out y hy hk;have HD:=aa l2;clear l2;have HP:=aa (And.intro hp (And.intro hpi hpk));have HLt:=aa hlt;have HB:=aa hb;have HG:=aa hg;have HBy:=aa hby;clear hp hpi hpk hlt hb hg hby hy hk;by_cases q1:y.id=top
  .have e1:Be r y.id top=true:=by rw[q1];exact Pf _ _
   have HE:=aa e1;clear e1
   go_wp2
   go_ret
   refine⟨Io ?_,rfl⟩;rw[<-HB.out,HE.out]
  .by_cases q2:y.id=1
   .have e1:Be r y.id top=false:=by rw[q2];exact Ns (λe=>q1 (q2.trans e))
    have HE:=aa e1;clear e1
    go_wp2
    go_ret
    refine⟨Io ?_,rfl⟩;rw[<-HB.out,HE.out];rw[beq_eq_false_iff_ne];assumption
   .have e1:Be r y.id top=Be r y.parent top:=by rw[Na q1 q2,HBy.out]
    have HE:=aa e1;clear e1;have b1:(y.id != top)=true:=by rw[bne_iff_ne];exact q1
    have b2:(y.id != 1)=true:=by rw[bne_iff_ne];exact q2
    obtain⟨gg,rfl⟩:∃gg,gk=gg+1:=⟨gk - 1,by have:=HLt.out q2;have:=HG.out;omega⟩
    go_wp2_with (go_at_call 92;(with_reducible refine HD.out.mono ?_);rintro e w3 ⟨rfl,rfl⟩)
    go_roundg gg
    case rel=>exact⟨p,HP.out.1,HP.out.2.2,by rw[HP.out.2.1],by rw[HP.out.2.1,<-HE.out,HB.out],by rw[HP.out.2.1];have:=HLt.out q2;have:=HG.out;omega,rfl⟩
    case measure=>omega
end Go.Proofs.YtmmdikhljefeiaaGreat
