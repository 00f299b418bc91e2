/- OrderQuiet: a message that is not for a node, or of nobody, or none, changes nothing, and nothing is sent for it: for every input whose bulk is at most 1048576 the law returns true. No other condition. -/
import Derived.LaidLaws
import Derived.Test.YtihfaocdpmmooaaGreatGM6
import Derived.Test.YtihfaocdpmmooaaGreatZLz
namespace Go.Proofs.YtihfaocdpmmooaaGreat
open Go.ChangeShapes Go.WideShapes Go.ChangeAt Go.RowKit
set_option maxRecDepth 100000 in
theorem orderQuiet_given (W:World)(args:Array Value)(h:Z6j W Tryz.f7 args) :
  Calls Tryz.prog 7 args W fun e W'=>e=.returned (.bool true)∧Below W.heap.size W W':=by
 obtain⟨⟨H,enc,ds,p,hA,hk⟩,base,hval⟩:=h
 rw[Tryz.params7] at hA hval
 obtain⟨v0,vs0,d0,ds0,p0,q0,hargs,rfl,rfl,h0,r0⟩:=trodAll_cons hA
 obtain⟨v1,vs1,d1,ds1,p1,q1,rfl,rfl,rfl,h1,r1⟩:=trodAll_cons r0
 obtain⟨rfl,rfl,rfl⟩:=trodAll_nil r1
 obtain rfl:args=#[v0,v1]:=by cases args;simp_all
 simp only[Rows.uptoBulkAll] at hk
 obtain⟨g0,t0,y0,b0⟩:=Z3v (sp:=.sl Zff) (by kernel_rfl) (by kernel_rfl) (hval 0 _ v0 rfl rfl) h0
 obtain⟨s,rfl,hs⟩:=Z5h t0 (by omega)
 obtain⟨g1,t1,y1,b1⟩:=Z5d (sh:=Zfo) (by kernel_rfl) (by kernel_rfl) (hval 1 _ v1 rfl rfl) h1
 obtain⟨p,rfl,hp⟩:=Zei t1 (by omega)
 exact Z9g (Qh s hs p hp) (.cons y0 (.cons y1 .nil))
noncomputable def orderQuiet_world (os:Go.Os):World:={(World.holding Tryz.prog os ⟨#[],#[],[]⟩) with heap:=(World.holding Tryz.prog os ⟨#[],#[],[]⟩).heap}
set_option maxRecDepth 100000 in
theorem orderQuiet_met (os:Go.Os):laidMet Tryz.prog Rows.orderQuietUptoRow.laid ((orderQuiet_world os).forCall (fun _ _=>0) ⟨#[],#[.slice none 0 0,.agg #[.int .i64 0,.int .i64 0,.string ⟨#[]⟩]],[]⟩).memory :=
 laidMet_of_run' 8 (by kernel_rfl) (by kernel_rfl)
set_option maxRecDepth 100000 in
theorem orderQuiet_reads (os:Go.Os){H:Type}(enc:TypeId × Value→H):∃places,DataW.whole enc Tryz.prog ((orderQuiet_world os).forCall (fun _ _=>0) ⟨#[],#[.slice none 0 0,.agg #[.int .i64 0,.int .i64 0,.string ⟨#[]⟩]],[]⟩).memory Tryz.f7.params.toList Rows.orderQuietSpec.vars false (#[.slice none 0 0,.agg #[.int .i64 0,.int .i64 0,.string ⟨#[]⟩]]:Array Value).toList 8=some ([.nil,.agg [.lit (.int .i64 0),.lit (.int .i64 0),.lit (.string [])]],[],places) :=
 ⟨[],by kernel_rfl⟩
set_option maxRecDepth 100000 in
theorem orderQuiet_lifted (os:Go.Os)(std:os.Started)(H:Type)(enc:TypeId × Value→H)(St:Stop.Interp) :
  ReturnsInHanded {} Tryz.checked os 7 .any ((Rows.OpenSpec.upto Rows.orderQuietSpec).preRow enc Tryz.prog Tryz.f7 Rows.orderQuietUptoRow.domain false Rows.orderQuietUptoRow.laid) (((Rows.OpenSpec.upto Rows.orderQuietSpec).at St).post enc Tryz.prog Tryz.f7 false true false false):=by
 obtain⟨places,hx⟩:=orderQuiet_reads os enc
 exact S8 (s:=Rows.orderQuietSpec) os std H enc St (by kernel_rfl) Tryz.func7 rfl (by kernel_rfl)
  (by rw[Tryz.params7];intro t ht;simp at ht;rcases ht with rfl | rfl<;>exact⟨by kernel_rfl,of_decide_eq_true (by kernel_rfl)⟩)
  (by rw[Tryz.params7];intro ds hd;match ds,hd with | [x0,x1],_=>exact⟨rfl,rfl,rfl⟩)
  (witness_row_at (enc:=enc) (C:=Tryz.checked) false (orderQuiet_world os) #[.slice none 0 0,.agg #[.int .i64 0,.int .i64 0,.string ⟨#[]⟩]] rfl (by kernel_rfl) (by kernel_rfl) (by kernel_rfl)
   (OpenSpec.preRow_of_cond 8 hx (by kernel_rfl) (fun k hk=>by cases hk;kernel_rfl) (by kernel_rfl) (orderQuiet_met os)))
  orderQuiet_given
theorem orderQuiet_said:Rows.OrderQuietUptoSaid :=
 OpenClaim.holds_of_cond 7 Tryz.f7 rfl rfl rfl rfl rfl rfl rfl ⟨rfl,rfl,rfl,rfl,rfl⟩ rfl rfl rfl rfl rfl (by kernel_rfl) Tryz.func7 (by kernel_rfl)
  (of_decide_eq_true (by kernel_rfl)) (by unfold Func.isWrapper;first | (rw[if_pos (by decide +kernel)];kernel_rfl) | (rw[if_neg (by decide +kernel)];exact⟨rfl,rfl⟩))
  (fun os std H enc _ St=>by rw[OpenClaim.pre_eq_preRow];exact orderQuiet_lifted os std H enc St)
#print axioms orderQuiet_said
end Go.Proofs.YtihfaocdpmmooaaGreat
