/- OrderLogs: whatever comes, also what no node sent: each log is one, no view is normal that was not promised, nothing is committed beyond the log: for every input whose bulk is at most 1048576 the law returns true. No other condition. -/
import Derived.LaidLaws
import Derived.Test.YtihfaocdpmmooaaGreatGM6
import Derived.Test.YtihfaocdpmmooaaGreatZLz
namespace Go.Proofs.YtihfaocdpmmooaaGreat
open Go.ChangeShapes Go.WideShapes Go.ChangeAt Go.RowKit
set_option maxRecDepth 100000 in
theorem orderLogs_given (W:World)(args:Array Value)(h:Z5q W Tryz.f6 args) :
  Calls Tryz.prog 6 args W fun e W'=>e=.returned (.bool true)∧Below W.heap.size W W':=by
 obtain⟨⟨H,enc,ds,p,hA,hk⟩,base,hval⟩:=h
 rw[Tryz.params6] at hA hval
 obtain⟨v0,vs0,d0,ds0,p0,q0,hargs,rfl,rfl,h0,r0⟩:=trodAll_cons hA
 obtain⟨v1,vs1,d1,ds1,p1,q1,rfl,rfl,rfl,h1,r1⟩:=trodAll_cons r0
 obtain⟨rfl,rfl,rfl⟩:=trodAll_nil r1
 obtain rfl:args=#[v0,v1]:=by cases args;simp_all
 simp only[Rows.uptoBulkAll] at hk
 obtain⟨g0,t0,y0,b0⟩:=U5 (sp:=.i .i64) (by kernel_rfl) (by kernel_rfl) (hval 0 _ v0 rfl rfl) h0
 obtain⟨m,rfl⟩:=Z97 t0
 obtain⟨g1,t1,y1,b1⟩:=U5 (sp:=.sl Zdw) (by kernel_rfl) (by kernel_rfl) (hval 1 _ v1 rfl rfl) h1
 obtain⟨s,rfl,hs⟩:=Z3p t1 (by omega)
 exact Z71 (R2 m s hs) (.cons y0 (.cons y1 .nil))
noncomputable def orderLogs_world (os:Go.Os):World:={(World.holding Tryz.prog os ⟨#[],#[],[]⟩) with heap:=(World.holding Tryz.prog os ⟨#[],#[],[]⟩).heap}
set_option maxRecDepth 100000 in
theorem orderLogs_met (os:Go.Os):laidMet Tryz.prog Rows.orderLogsUptoRow.laid ((orderLogs_world os).forCall (fun _ _=>0) ⟨#[],#[.int .i64 0,.slice none 0 0],[]⟩).memory :=
 laidMet_of_run' 8 (by kernel_rfl) (by kernel_rfl)
set_option maxRecDepth 100000 in
theorem orderLogs_reads (os:Go.Os){H:Type}(enc:TypeId × Value→H):∃places,DataW.whole enc Tryz.prog ((orderLogs_world os).forCall (fun _ _=>0) ⟨#[],#[.int .i64 0,.slice none 0 0],[]⟩).memory Tryz.f6.params.toList Rows.orderLogsSpec.vars false (#[.int .i64 0,.slice none 0 0]:Array Value).toList 8=some ([.lit (.int .i64 0),.nil],[],places) :=
 ⟨[],by kernel_rfl⟩
set_option maxRecDepth 100000 in
theorem orderLogs_lifted (os:Go.Os)(std:os.Started)(H:Type)(enc:TypeId × Value→H)(St:Stop.Interp) :
  ReturnsInHanded {} Tryz.checked os 6 .any ((Rows.OpenSpec.upto Rows.orderLogsSpec).preRow enc Tryz.prog Tryz.f6 Rows.orderLogsUptoRow.domain false Rows.orderLogsUptoRow.laid) (((Rows.OpenSpec.upto Rows.orderLogsSpec).at St).post enc Tryz.prog Tryz.f6 false true false false):=by
 obtain⟨places,hx⟩:=orderLogs_reads os enc
 exact Rc (s:=Rows.orderLogsSpec) os std H enc St (by kernel_rfl) Tryz.func6 rfl (by kernel_rfl)
  (by rw[Tryz.params6];intro t ht;simp at ht;rcases ht with rfl | rfl<;>exact⟨by kernel_rfl,of_decide_eq_true (by kernel_rfl)⟩)
  (by rw[Tryz.params6];intro ds hd;match ds,hd with | [x0,x1],_=>exact⟨rfl,rfl,rfl⟩)
  (witness_row_at (enc:=enc) (C:=Tryz.checked) false (orderLogs_world os) #[.int .i64 0,.slice none 0 0] rfl (by kernel_rfl) (by kernel_rfl) (by kernel_rfl)
   (OpenSpec.preRow_of_cond 8 hx (by kernel_rfl) (fun k hk=>by cases hk;kernel_rfl) (by kernel_rfl) (orderLogs_met os)))
  orderLogs_given
theorem orderLogs_said:Rows.OrderLogsUptoSaid :=
 OpenClaim.holds_of_cond 6 Tryz.f6 rfl rfl rfl rfl rfl rfl rfl ⟨rfl,rfl,rfl,rfl,rfl⟩ rfl rfl rfl rfl rfl (by kernel_rfl) Tryz.func6 (by kernel_rfl)
  (of_decide_eq_true (by kernel_rfl)) (by unfold Func.isWrapper;first | (rw[if_pos (by decide +kernel)];kernel_rfl) | (rw[if_neg (by decide +kernel)];exact⟨rfl,rfl⟩))
  (fun os std H enc _ St=>by rw[OpenClaim.pre_eq_preRow];exact orderLogs_lifted os std H enc St)
#print axioms orderLogs_said
end Go.Proofs.YtihfaocdpmmooaaGreat
