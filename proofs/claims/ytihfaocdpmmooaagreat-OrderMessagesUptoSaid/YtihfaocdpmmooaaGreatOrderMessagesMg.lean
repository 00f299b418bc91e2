/- OrderMessages: any message is written as the document says, or refused; any text is read as the message that it is, or refused; both lead back: for every input whose bulk is at most 1048576 the law returns true. No other condition. -/
import Derived.LaidLaws
import Derived.Test.YtihfaocdpmmooaaGreatGM4
import Derived.Test.YtihfaocdpmmooaaGreatZLz
namespace Go.Proofs.YtihfaocdpmmooaaGreat
open Go.ChangeShapes Go.WideShapes Go.ChangeAt Go.RowKit
set_option maxRecDepth 100000 in
theorem orderMessages_given (W:World)(args:Array Value)(h:Z54 W Tryz.f3 args) :
  Calls Tryz.prog 3 args W fun e W'=>e=.returned (.bool true)∧Below W.heap.size W W':=by
 obtain⟨⟨H,enc,ds,p,hA,hk⟩,base,hval⟩:=h
 rw[Tryz.params3] at hA hval
 obtain⟨v0,vs0,d0,ds0,p0,q0,hargs,rfl,rfl,h0,r0⟩:=trodAll_cons hA
 obtain⟨v1,vs1,d1,ds1,p1,q1,rfl,rfl,rfl,h1,r1⟩:=trodAll_cons r0
 obtain⟨rfl,rfl,rfl⟩:=trodAll_nil r1
 obtain rfl:args=#[v0,v1]:=by cases args;simp_all
 simp only[Rows.uptoBulkAll] at hk
 obtain⟨g0,t0,y0,b0⟩:=Z1x (sh:=Zc1) (by kernel_rfl) (by kernel_rfl) (hval 0 _ v0 rfl rfl) h0
 obtain⟨m,rfl,hm⟩:=Zb3 t0 (by omega)
 obtain⟨g1,t1,y1,b1⟩:=Z1o (sp:=.s) (by kernel_rfl) (by kernel_rfl) (hval 1 _ v1 rfl rfl) h1
 obtain⟨s,rfl,hs⟩:=Z8r t1 (by omega)
 exact Z8q (K7 m s (by omega)) (.cons y0 (.cons y1 .nil))
noncomputable def orderMessages_world (os:Go.Os):World:={(World.holding Tryz.prog os ⟨#[],#[],[]⟩) with heap:=(World.holding Tryz.prog os ⟨#[],#[],[]⟩).heap}
set_option maxRecDepth 100000 in
theorem orderMessages_met (os:Go.Os):laidMet Tryz.prog Rows.orderMessagesUptoRow.laid ((orderMessages_world os).forCall (fun _ _=>0) ⟨#[],#[.agg #[.int .i64 0,.int .i64 0,.int .i64 0,.int .i64 0,.slice none 0 0],.string ⟨#[]⟩],[]⟩).memory :=
 laidMet_of_run' 8 (by kernel_rfl) (by kernel_rfl)
set_option maxRecDepth 100000 in
theorem orderMessages_reads (os:Go.Os){H:Type}(enc:TypeId × Value→H):∃places,DataW.whole enc Tryz.prog ((orderMessages_world os).forCall (fun _ _=>0) ⟨#[],#[.agg #[.int .i64 0,.int .i64 0,.int .i64 0,.int .i64 0,.slice none 0 0],.string ⟨#[]⟩],[]⟩).memory Tryz.f3.params.toList Rows.orderMessagesSpec.vars false (#[.agg #[.int .i64 0,.int .i64 0,.int .i64 0,.int .i64 0,.slice none 0 0],.string ⟨#[]⟩]:Array Value).toList 8=some ([.agg [.lit (.int .i64 0),.lit (.int .i64 0),.lit (.int .i64 0),.lit (.int .i64 0),.nil],.lit (.string [])],[],places) :=
 ⟨[],by kernel_rfl⟩
set_option maxRecDepth 100000 in
theorem orderMessages_lifted (os:Go.Os)(std:os.Started)(H:Type)(enc:TypeId × Value→H)(St:Stop.Interp) :
  ReturnsInHanded {} Tryz.checked os 3 .any ((Rows.OpenSpec.upto Rows.orderMessagesSpec).preRow enc Tryz.prog Tryz.f3 Rows.orderMessagesUptoRow.domain false Rows.orderMessagesUptoRow.laid) (((Rows.OpenSpec.upto Rows.orderMessagesSpec).at St).post enc Tryz.prog Tryz.f3 false true false false):=by
 obtain⟨places,hx⟩:=orderMessages_reads os enc
 exact Qq (s:=Rows.orderMessagesSpec) os std H enc St (by kernel_rfl) Tryz.func3 rfl (by kernel_rfl)
  (by rw[Tryz.params3];intro t ht;simp at ht;rcases ht with rfl | rfl<;>exact⟨by kernel_rfl,of_decide_eq_true (by kernel_rfl)⟩)
  (by rw[Tryz.params3];intro ds hd;match ds,hd with | [x0,x1],_=>exact⟨rfl,rfl,rfl⟩)
  (witness_row_at (enc:=enc) (C:=Tryz.checked) false (orderMessages_world os) #[.agg #[.int .i64 0,.int .i64 0,.int .i64 0,.int .i64 0,.slice none 0 0],.string ⟨#[]⟩] rfl (by kernel_rfl) (by kernel_rfl) (by kernel_rfl)
   (OpenSpec.preRow_of_cond 8 hx (by kernel_rfl) (fun k hk=>by cases hk;kernel_rfl) (by kernel_rfl) (orderMessages_met os)))
  orderMessages_given
theorem orderMessages_said:Rows.OrderMessagesUptoSaid :=
 OpenClaim.holds_of_cond 3 Tryz.f3 rfl rfl rfl rfl rfl rfl rfl ⟨rfl,rfl,rfl,rfl,rfl⟩ rfl rfl rfl rfl rfl (by kernel_rfl) Tryz.func3 (by kernel_rfl)
  (of_decide_eq_true (by kernel_rfl)) (by unfold Func.isWrapper;first | (rw[if_pos (by decide +kernel)];kernel_rfl) | (rw[if_neg (by decide +kernel)];exact⟨rfl,rfl⟩))
  (fun os std H enc _ St=>by rw[OpenClaim.pre_eq_preRow];exact orderMessages_lifted os std H enc St)
#print axioms orderMessages_said
end Go.Proofs.YtihfaocdpmmooaaGreat
