/- OrderAll: in a group every step of any script is answered as the document says, with its messages; and so all members stand: for every input whose bulk is at most 1048576 the law returns true. No other condition. -/
import Derived.LaidLaws
import Derived.Test.YtihfaocdpmmooaaGreatHM2
import Derived.Test.YtihfaocdpmmooaaGreatGM6
import Derived.Test.YtihfaocdpmmooaaGreatZLz
namespace Go.Proofs.YtihfaocdpmmooaaGreat
open Go.ChangeShapes Go.WideShapes Go.ChangeAt Go.RowKit
set_option maxRecDepth 100000 in
theorem orderAll_given (W:World)(args:Array Value)(h:Z8j W Tryz.f8 args) :
  Calls Tryz.prog 8 args W fun e W'=>e=.returned (.bool true)∧Below W.heap.size W W':=by
 obtain⟨⟨H,enc,ds,p,hA,hk⟩,base,hval⟩:=h
 rw[Tryz.params8] at hA hval
 obtain⟨v0,vs0,d0,ds0,p0,q0,hargs,rfl,rfl,h0,r0⟩:=trodAll_cons hA
 obtain⟨v1,vs1,d1,ds1,p1,q1,rfl,rfl,rfl,h1,r1⟩:=trodAll_cons r0
 obtain⟨rfl,rfl,rfl⟩:=trodAll_nil r1
 obtain rfl:args=#[v0,v1]:=by cases args;simp_all
 simp only[Rows.uptoBulkAll] at hk
 obtain⟨g0,t0,y0,b0⟩:=W8 (sp:=.i .i64) (by kernel_rfl) (by kernel_rfl) (hval 0 _ v0 rfl rfl) h0
 obtain⟨m,rfl⟩:=Za9 t0
 obtain⟨g1,t1,y1,b1⟩:=W8 (sp:=.sl Zha) (by kernel_rfl) (by kernel_rfl) (hval 1 _ v1 rfl rfl) h1
 obtain⟨s,rfl,hs⟩:=Z6k t1 (by omega)
 exact Z9t (Xo m s hs) (.cons y0 (.cons y1 .nil))
noncomputable def orderAll_world (os:Go.Os):World:={(World.holding Tryz.prog os ⟨#[],#[],[]⟩) with heap:=(World.holding Tryz.prog os ⟨#[],#[],[]⟩).heap}
set_option maxRecDepth 100000 in
theorem orderAll_met (os:Go.Os):laidMet Tryz.prog Rows.orderAllUptoRow.laid ((orderAll_world os).forCall (fun _ _=>0) ⟨#[],#[.int .i64 0,.slice none 0 0],[]⟩).memory :=
 laidMet_of_run' 8 (by kernel_rfl) (by kernel_rfl)
set_option maxRecDepth 100000 in
theorem orderAll_reads (os:Go.Os){H:Type}(enc:TypeId × Value→H):∃places,DataW.whole enc Tryz.prog ((orderAll_world os).forCall (fun _ _=>0) ⟨#[],#[.int .i64 0,.slice none 0 0],[]⟩).memory Tryz.f8.params.toList Rows.orderAllSpec.vars false (#[.int .i64 0,.slice none 0 0]:Array Value).toList 8=some ([.lit (.int .i64 0),.nil],[],places) :=
 ⟨[],by kernel_rfl⟩
set_option maxRecDepth 100000 in
theorem orderAll_lifted (os:Go.Os)(std:os.Started)(H:Type)(enc:TypeId × Value→H)(St:Stop.Interp) :
  ReturnsInHanded {} Tryz.checked os 8 .any ((Rows.OpenSpec.upto Rows.orderAllSpec).preRow enc Tryz.prog Tryz.f8 Rows.orderAllUptoRow.domain false Rows.orderAllUptoRow.laid) (((Rows.OpenSpec.upto Rows.orderAllSpec).at St).post enc Tryz.prog Tryz.f8 false true false false):=by
 obtain⟨places,hx⟩:=orderAll_reads os enc
 exact Rv (s:=Rows.orderAllSpec) os std H enc St (by kernel_rfl) Tryz.func8 rfl (by kernel_rfl)
  (by rw[Tryz.params8];intro t ht;simp at ht;rcases ht with rfl | rfl<;>exact⟨by kernel_rfl,of_decide_eq_true (by kernel_rfl)⟩)
  (by rw[Tryz.params8];intro ds hd;match ds,hd with | [x0,x1],_=>exact⟨rfl,rfl,rfl⟩)
  (witness_row_at (enc:=enc) (C:=Tryz.checked) false (orderAll_world os) #[.int .i64 0,.slice none 0 0] rfl (by kernel_rfl) (by kernel_rfl) (by kernel_rfl)
   (OpenSpec.preRow_of_cond 8 hx (by kernel_rfl) (fun k hk=>by cases hk;kernel_rfl) (by kernel_rfl) (orderAll_met os)))
  orderAll_given
theorem orderAll_said:Rows.OrderAllUptoSaid :=
 OpenClaim.holds_of_cond 8 Tryz.f8 rfl rfl rfl rfl rfl rfl rfl ⟨rfl,rfl,rfl,rfl,rfl⟩ rfl rfl rfl rfl rfl (by kernel_rfl) Tryz.func8 (by kernel_rfl)
  (of_decide_eq_true (by kernel_rfl)) (by unfold Func.isWrapper;first | (rw[if_pos (by decide +kernel)];kernel_rfl) | (rw[if_neg (by decide +kernel)];exact⟨rfl,rfl⟩))
  (fun os std H enc _ St=>by rw[OpenClaim.pre_eq_preRow];exact orderAll_lifted os std H enc St)
#print axioms orderAll_said
end Go.Proofs.YtihfaocdpmmooaaGreat
