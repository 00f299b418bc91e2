/- FcallTwice: what was done for a number is not done again: it is answered as it was, and nothing changes; an earlier number is refused: for every input whose bulk is at most 1048576 the law returns true. No other condition. -/
import Derived.LaidLaws
import Derived.Test.YtmmdikhljefeiaaGreatFcM3
import Derived.Test.YtmmdikhljefeiaaGreatYLz
namespace Go.Proofs.YtmmdikhljefeiaaGreat
open Go.ChangeShapes Go.WideShapes Go.ChangeAt Go.RowKit
set_option maxRecDepth 100000 in
theorem fcallTwice_given (W:World)(args:Array Value)(h:Z7a W Tryz.f7 args) :
  Calls Tryz.prog 7 args W λe y=>e=.returned (.bool true)/\Below W.heap.size W y:=by
 obtain⟨⟨H,enc,ds,p,g,i⟩,base,a⟩:=h;rw[Tryz.params7] at g a;obtain⟨f,o,F,v,B,A,b,rfl,rfl,m,z⟩:=trodAll_cons g;obtain⟨d,r,I,j,E,G,rfl,rfl,rfl,s,q⟩:=trodAll_cons z;obtain⟨rfl,rfl,rfl⟩:=trodAll_nil q;obtain rfl:args=#[f,d]:=by cases args;simp_all
 simp only[Rows.uptoBulkAll] at i;obtain⟨g0,x,u,D⟩:=Z6b (sp:=.sl Zea) (by kernel_rfl) (by kernel_rfl) (a 0 _ f rfl rfl) m;obtain⟨l,rfl,k⟩:=Zk x;obtain⟨C,w,n,b1⟩:=Z4l (sh:=Zea) (by kernel_rfl) (by kernel_rfl) (a 1 _ d rfl rfl) s;obtain⟨c,rfl,t⟩:=Z2d w;exact Z9j (Qu l k c t) (.cons u (.cons n .nil))
noncomputable def fcallTwice_world (os:Go.Os):World:={(World.holding Tryz.prog os ⟨#[],#[],[]⟩) with heap:=(World.holding Tryz.prog os ⟨#[],#[],[]⟩).heap}
set_option maxRecDepth 100000 in
theorem fcallTwice_met (os:Go.Os):laidMet Tryz.prog Rows.fcallTwiceUptoRow.laid ((fcallTwice_world os).forCall (λ_ _=>0) ⟨#[],#[.slice none 0 0,.agg #[.int .i64 0,.int .i64 0,.int .i64 0,.int .i64 0,.int .i64 0,.int .i64 0,.int .i64 0,.string ⟨#[]⟩,.string ⟨#[]⟩,.int .i64 0,.int .i64 0,.int .i64 0,.string ⟨#[]⟩,.bool false,.int .i64 0,.int .i64 0,.int .i64 0,.string ⟨#[]⟩]],[]⟩).memory :=
 laidMet_of_run' 8 (by kernel_rfl) (by kernel_rfl)
set_option maxRecDepth 100000 in
theorem fcallTwice_reads (os:Go.Os){H:Type}(enc:TypeId × Value->H):∃a,DataW.whole enc Tryz.prog ((fcallTwice_world os).forCall (λ_ _=>0) ⟨#[],#[.slice none 0 0,.agg #[.int .i64 0,.int .i64 0,.int .i64 0,.int .i64 0,.int .i64 0,.int .i64 0,.int .i64 0,.string ⟨#[]⟩,.string ⟨#[]⟩,.int .i64 0,.int .i64 0,.int .i64 0,.string ⟨#[]⟩,.bool false,.int .i64 0,.int .i64 0,.int .i64 0,.string ⟨#[]⟩]],[]⟩).memory Tryz.f7.params.toList Rows.fcallTwiceSpec.vars false (#[.slice none 0 0,.agg #[.int .i64 0,.int .i64 0,.int .i64 0,.int .i64 0,.int .i64 0,.int .i64 0,.int .i64 0,.string ⟨#[]⟩,.string ⟨#[]⟩,.int .i64 0,.int .i64 0,.int .i64 0,.string ⟨#[]⟩,.bool false,.int .i64 0,.int .i64 0,.int .i64 0,.string ⟨#[]⟩]]:Array Value).toList 8=some ([.nil,.agg [.lit (.int .i64 0),.lit (.int .i64 0),.lit (.int .i64 0),.agg [.lit (.int .i64 0),.lit (.int .i64 0)],.agg [.lit (.int .i64 0),.lit (.int .i64 0)],.lit (.string []),.lit (.string []),.agg [.lit (.int .i64 0),.lit (.int .i64 0),.lit (.int .i64 0),.lit (.string [])],.lit (.bool false),.lit (.int .i64 0),.lit (.int .i64 0),.lit (.int .i64 0),.lit (.string [])]],[],a) :=
 ⟨[],by kernel_rfl⟩
set_option maxRecDepth 100000 in
theorem fcallTwice_lifted (os:Go.Os)(b:os.Started)(H:Type)(enc:TypeId × Value->H)(d:Stop.Interp) :
  ReturnsInHanded {} Tryz.checked os 7 .any ((Rows.OpenSpec.upto Rows.fcallTwiceSpec).preRow enc Tryz.prog Tryz.f7 Rows.fcallTwiceUptoRow.domain false Rows.fcallTwiceUptoRow.laid) (((Rows.OpenSpec.upto Rows.fcallTwiceSpec).at d).post enc Tryz.prog Tryz.f7 false true false false):=by
 obtain⟨a,f⟩:=fcallTwice_reads os enc;exact Tx (s:=Rows.fcallTwiceSpec) os b H enc d (by kernel_rfl) Tryz.func7 rfl (by kernel_rfl)
  (by rw[Tryz.params7];intro t c;simp at c;rcases c with rfl | rfl<;>exact⟨by kernel_rfl,of_decide_eq_true (by kernel_rfl)⟩)
  (by rw[Tryz.params7];intro ds hd;match ds,hd with | [x0,x1],_=>exact⟨rfl,rfl,rfl⟩)
  (witness_row_at (enc:=enc) (C:=Tryz.checked) false (fcallTwice_world os) #[.slice none 0 0,.agg #[.int .i64 0,.int .i64 0,.int .i64 0,.int .i64 0,.int .i64 0,.int .i64 0,.int .i64 0,.string ⟨#[]⟩,.string ⟨#[]⟩,.int .i64 0,.int .i64 0,.int .i64 0,.string ⟨#[]⟩,.bool false,.int .i64 0,.int .i64 0,.int .i64 0,.string ⟨#[]⟩]] rfl (by kernel_rfl) (by kernel_rfl) (by kernel_rfl)
   (OpenSpec.preRow_of_cond 8 f (by kernel_rfl) (λk e=>by cases e;kernel_rfl) (by kernel_rfl) (fcallTwice_met os)))
  fcallTwice_given
theorem fcallTwice_said:Rows.FcallTwiceUptoSaid :=
 OpenClaim.holds_of_cond 7 Tryz.f7 rfl rfl rfl rfl rfl rfl rfl ⟨rfl,rfl,rfl,rfl,rfl⟩ rfl rfl rfl rfl rfl (by kernel_rfl) Tryz.func7 (by kernel_rfl)
  (of_decide_eq_true (by kernel_rfl)) (by unfold Func.isWrapper;first | (rw[if_pos (by decide +kernel)];kernel_rfl) | (rw[if_neg (by decide +kernel)];exact⟨rfl,rfl⟩))
  (λos a H enc _ b=>by rw[OpenClaim.pre_eq_preRow];exact fcallTwice_lifted os a H enc b)
#print axioms fcallTwice_said
end Go.Proofs.YtmmdikhljefeiaaGreat
