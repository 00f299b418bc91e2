/- OrderOpens: on a disk on which anything was written Open tells a node, or that it is none; of a member that there is not, or a small disk, none: for every input whose bulk is at most 1048576 the law returns true. No other condition. -/
import Derived.LaidLaws
import Derived.Test.YtihfaocdpmmooaaGreatGM4
import Derived.Test.YtihfaocdpmmooaaGreatZLz
namespace Go.Proofs.YtihfaocdpmmooaaGreat
open Go.ChangeShapes Go.WideShapes Go.ChangeAt Go.RowKit
set_option maxRecDepth 100000 in
theorem orderOpens_given (W:World)(args:Array Value)(h:Z52 W Tryz.f4 args) :
  Calls Tryz.prog 4 args W fun e W'=>e=.returned (.bool true)∧Below W.heap.size W W':=by
 obtain⟨⟨H,enc,ds,p,hA,hk⟩,base,hval⟩:=h
 rw[Tryz.params4] at hA hval
 obtain⟨v0,vs0,d0,ds0,p0,q0,hargs,rfl,rfl,h0,r0⟩:=trodAll_cons hA
 obtain⟨v1,vs1,d1,ds1,p1,q1,rfl,rfl,rfl,h1,r1⟩:=trodAll_cons r0
 obtain⟨v2,vs2,d2,ds2,p2,q2,rfl,rfl,rfl,h2,r2⟩:=trodAll_cons r1
 obtain⟨rfl,rfl,rfl⟩:=trodAll_nil r2
 obtain rfl:args=#[v0,v1,v2]:=by cases args;simp_all
 simp only[Rows.uptoBulkAll] at hk
 obtain⟨g0,t0,y0,b0⟩:=Mj (sp:=.sl Zda) (by kernel_rfl) (by kernel_rfl) (hval 0 _ v0 rfl rfl) h0
 obtain⟨l,rfl⟩:=Z68 t0
 obtain⟨g1,t1,y1,b1⟩:=Mj (sp:=.i .i64) (by kernel_rfl) (by kernel_rfl) (hval 1 _ v1 rfl rfl) h1
 obtain⟨s,rfl⟩:=Z0c t1
 obtain⟨g2,t2,y2,b2⟩:=Mj (sp:=.i .i64) (by kernel_rfl) (by kernel_rfl) (hval 2 _ v2 rfl rfl) h2
 obtain⟨m,rfl⟩:=Z0c t2
 exact Z6f (Pk l s m) (.cons y0 (.cons y1 (.cons y2 .nil)))
noncomputable def orderOpens_world (os:Go.Os):World:={(World.holding Tryz.prog os ⟨#[],#[],[]⟩) with heap:=(World.holding Tryz.prog os ⟨#[],#[],[]⟩).heap}
set_option maxRecDepth 100000 in
theorem orderOpens_met (os:Go.Os):laidMet Tryz.prog Rows.orderOpensUptoRow.laid ((orderOpens_world os).forCall (fun _ _=>0) ⟨#[],#[.slice none 0 0,.int .i64 0,.int .i64 0],[]⟩).memory :=
 laidMet_of_run' 8 (by kernel_rfl) (by kernel_rfl)
set_option maxRecDepth 100000 in
theorem orderOpens_reads (os:Go.Os){H:Type}(enc:TypeId × Value→H):∃places,DataW.whole enc Tryz.prog ((orderOpens_world os).forCall (fun _ _=>0) ⟨#[],#[.slice none 0 0,.int .i64 0,.int .i64 0],[]⟩).memory Tryz.f4.params.toList Rows.orderOpensSpec.vars false (#[.slice none 0 0,.int .i64 0,.int .i64 0]:Array Value).toList 8=some ([.nil,.lit (.int .i64 0),.lit (.int .i64 0)],[],places) :=
 ⟨[],by kernel_rfl⟩
set_option maxRecDepth 100000 in
theorem orderOpens_lifted (os:Go.Os)(std:os.Started)(H:Type)(enc:TypeId × Value→H)(St:Stop.Interp) :
  ReturnsInHanded {} Tryz.checked os 4 .any ((Rows.OpenSpec.upto Rows.orderOpensSpec).preRow enc Tryz.prog Tryz.f4 Rows.orderOpensUptoRow.domain false Rows.orderOpensUptoRow.laid) (((Rows.OpenSpec.upto Rows.orderOpensSpec).at St).post enc Tryz.prog Tryz.f4 false true false false):=by
 obtain⟨places,hx⟩:=orderOpens_reads os enc
 exact S3 (s:=Rows.orderOpensSpec) os std H enc St (by kernel_rfl) Tryz.func4 rfl (by kernel_rfl)
  (by rw[Tryz.params4];intro t ht;simp at ht;rcases ht with rfl | rfl | rfl<;>exact⟨by kernel_rfl,of_decide_eq_true (by kernel_rfl)⟩)
  (by rw[Tryz.params4];intro ds hd;match ds,hd with | [x0,x1,x2],_=>exact⟨rfl,rfl,rfl⟩)
  (witness_row_at (enc:=enc) (C:=Tryz.checked) false (orderOpens_world os) #[.slice none 0 0,.int .i64 0,.int .i64 0] rfl (by kernel_rfl) (by kernel_rfl) (by kernel_rfl)
   (OpenSpec.preRow_of_cond 8 hx (by kernel_rfl) (fun k hk=>by cases hk;kernel_rfl) (by kernel_rfl) (orderOpens_met os)))
  orderOpens_given
theorem orderOpens_said:Rows.OrderOpensUptoSaid :=
 OpenClaim.holds_of_cond 4 Tryz.f4 rfl rfl rfl rfl rfl rfl rfl ⟨rfl,rfl,rfl,rfl,rfl⟩ rfl rfl rfl rfl rfl (by kernel_rfl) Tryz.func4 (by kernel_rfl)
  (of_decide_eq_true (by kernel_rfl)) (by unfold Func.isWrapper;first | (rw[if_pos (by decide +kernel)];kernel_rfl) | (rw[if_neg (by decide +kernel)];exact⟨rfl,rfl⟩))
  (fun os std H enc _ St=>by rw[OpenClaim.pre_eq_preRow];exact orderOpens_lifted os std H enc St)
#print axioms orderOpens_said
end Go.Proofs.YtihfaocdpmmooaaGreat
