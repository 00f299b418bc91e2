/- FcallWrites: any call is written as the document says, or refused; what was written is read as it was: for every input whose bulk is at most 1048576 the law returns true. No other condition. -/
import Derived.LaidLaws
import Derived.Test.YtmmdikhljefeiaaGreatFcM3
import Derived.Test.YtmmdikhljefeiaaGreatYLz
namespace Go.Proofs.YtmmdikhljefeiaaGreat
open Go.ChangeShapes Go.WideShapes Go.ChangeAt Go.RowKit
set_option maxRecDepth 100000 in
theorem fcallWrites_given (W:World)(args:Array Value)(h:Z4 W Tryz.f3 args) :
  Calls Tryz.prog 3 args W λe j=>e=.returned (.bool true)/\Below W.heap.size W j:=by
 obtain⟨⟨H,enc,ds,p,d,k⟩,base,a⟩:=h;rw[Tryz.params3] at d a;obtain⟨f,n,s,m,t,u,b,rfl,rfl,g,l⟩:=trodAll_cons d;obtain⟨rfl,rfl,rfl⟩:=trodAll_nil l;obtain rfl:args=#[f]:=by cases args;simp_all
 simp only[Rows.uptoBulkAll] at k;obtain⟨g0,o,i,r⟩:=Z2x (sh:=Zdo) (by kernel_rfl) (by kernel_rfl) (a 0 _ f rfl rfl) g;obtain⟨c,rfl,q⟩:=Z8f o;exact Y3 (Og c) (.cons i .nil)
noncomputable def fcallWrites_world (os:Go.Os):World:={(World.holding Tryz.prog os ⟨#[],#[],[]⟩) with heap:=(World.holding Tryz.prog os ⟨#[],#[],[]⟩).heap}
set_option maxRecDepth 100000 in
theorem fcallWrites_met (os:Go.Os):laidMet Tryz.prog Rows.fcallWritesUptoRow.laid ((fcallWrites_world os).forCall (λ_ _=>0) ⟨#[],#[.agg #[.int .i64 0,.int .i64 0,.int .i64 0,.int .i64 0,.int .i64 0,.int .i64 0,.int .i64 0,.string ⟨#[]⟩,.string ⟨#[]⟩,.int .i64 0,.int .i64 0,.int .i64 0,.string ⟨#[]⟩,.bool false,.int .i64 0,.int .i64 0,.int .i64 0,.string ⟨#[]⟩]],[]⟩).memory :=
 laidMet_of_run' 8 (by kernel_rfl) (by kernel_rfl)
set_option maxRecDepth 100000 in
theorem fcallWrites_reads (os:Go.Os){H:Type}(enc:TypeId × Value->H):∃a,DataW.whole enc Tryz.prog ((fcallWrites_world os).forCall (λ_ _=>0) ⟨#[],#[.agg #[.int .i64 0,.int .i64 0,.int .i64 0,.int .i64 0,.int .i64 0,.int .i64 0,.int .i64 0,.string ⟨#[]⟩,.string ⟨#[]⟩,.int .i64 0,.int .i64 0,.int .i64 0,.string ⟨#[]⟩,.bool false,.int .i64 0,.int .i64 0,.int .i64 0,.string ⟨#[]⟩]],[]⟩).memory Tryz.f3.params.toList Rows.fcallWritesSpec.vars false (#[.agg #[.int .i64 0,.int .i64 0,.int .i64 0,.int .i64 0,.int .i64 0,.int .i64 0,.int .i64 0,.string ⟨#[]⟩,.string ⟨#[]⟩,.int .i64 0,.int .i64 0,.int .i64 0,.string ⟨#[]⟩,.bool false,.int .i64 0,.int .i64 0,.int .i64 0,.string ⟨#[]⟩]]:Array Value).toList 8=some ([.agg [.lit (.int .i64 0),.lit (.int .i64 0),.lit (.int .i64 0),.agg [.lit (.int .i64 0),.lit (.int .i64 0)],.agg [.lit (.int .i64 0),.lit (.int .i64 0)],.lit (.string []),.lit (.string []),.agg [.lit (.int .i64 0),.lit (.int .i64 0),.lit (.int .i64 0),.lit (.string [])],.lit (.bool false),.lit (.int .i64 0),.lit (.int .i64 0),.lit (.int .i64 0),.lit (.string [])]],[],a) :=
 ⟨[],by kernel_rfl⟩
set_option maxRecDepth 100000 in
theorem fcallWrites_lifted (os:Go.Os)(b:os.Started)(H:Type)(enc:TypeId × Value->H)(c:Stop.Interp) :
  ReturnsInHanded {} Tryz.checked os 3 .any ((Rows.OpenSpec.upto Rows.fcallWritesSpec).preRow enc Tryz.prog Tryz.f3 Rows.fcallWritesUptoRow.domain false Rows.fcallWritesUptoRow.laid) (((Rows.OpenSpec.upto Rows.fcallWritesSpec).at c).post enc Tryz.prog Tryz.f3 false true false false):=by
 obtain⟨a,e⟩:=fcallWrites_reads os enc;exact Lg (s:=Rows.fcallWritesSpec) os b H enc c (by kernel_rfl) Tryz.func3 rfl (by kernel_rfl)
  (by rw[Tryz.params3];intro t d;simp at d;rcases d with rfl<;>exact⟨by kernel_rfl,of_decide_eq_true (by kernel_rfl)⟩)
  (by rw[Tryz.params3];intro ds hd;match ds,hd with | [x0],_=>exact⟨rfl,rfl,rfl⟩)
  (witness_row_at (enc:=enc) (C:=Tryz.checked) false (fcallWrites_world os) #[.agg #[.int .i64 0,.int .i64 0,.int .i64 0,.int .i64 0,.int .i64 0,.int .i64 0,.int .i64 0,.string ⟨#[]⟩,.string ⟨#[]⟩,.int .i64 0,.int .i64 0,.int .i64 0,.string ⟨#[]⟩,.bool false,.int .i64 0,.int .i64 0,.int .i64 0,.string ⟨#[]⟩]] rfl (by kernel_rfl) (by kernel_rfl) (by kernel_rfl)
   (OpenSpec.preRow_of_cond 8 e (by kernel_rfl) (λk f=>by cases f;kernel_rfl) (by kernel_rfl) (fcallWrites_met os)))
  fcallWrites_given
theorem fcallWrites_said:Rows.FcallWritesUptoSaid :=
 OpenClaim.holds_of_cond 3 Tryz.f3 rfl rfl rfl rfl rfl rfl rfl ⟨rfl,rfl,rfl,rfl,rfl⟩ rfl rfl rfl rfl rfl (by kernel_rfl) Tryz.func3 (by kernel_rfl)
  (of_decide_eq_true (by kernel_rfl)) (by unfold Func.isWrapper;first | (rw[if_pos (by decide +kernel)];kernel_rfl) | (rw[if_neg (by decide +kernel)];exact⟨rfl,rfl⟩))
  (λos a H enc _ b=>by rw[OpenClaim.pre_eq_preRow];exact fcallWrites_lifted os a H enc b)
#print axioms fcallWrites_said
end Go.Proofs.YtmmdikhljefeiaaGreat
