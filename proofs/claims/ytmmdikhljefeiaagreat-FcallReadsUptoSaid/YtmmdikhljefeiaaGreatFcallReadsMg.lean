/- FcallReads: a call that only reads changes nothing but the last answer: for every input whose bulk is at most 1048576 the law returns true. No other condition. -/
import Derived.LaidLaws
import Derived.Test.YtmmdikhljefeiaaGreatFcM3
import Derived.Test.YtmmdikhljefeiaaGreatYLz
namespace Go.Proofs.YtmmdikhljefeiaaGreat
open Go.ChangeShapes Go.WideShapes Go.ChangeAt Go.RowKit
set_option maxRecDepth 100000 in
theorem fcallReads_given (W:World)(args:Array Value)(h:Se W Tryz.f8 args) :
  Calls Tryz.prog 8 args W λe s=>e=.returned (.bool true)/\Below W.heap.size W s:=by
 obtain⟨⟨H,enc,ds,p,g,r⟩,base,a⟩:=h;rw[Tryz.params8] at g a;obtain⟨f,j,A,x,J,F,b,rfl,rfl,w,u⟩:=trodAll_cons g;obtain⟨d,n,E,t,I,D,rfl,rfl,rfl,i,v⟩:=trodAll_cons u;obtain⟨rfl,rfl,rfl⟩:=trodAll_nil v;obtain rfl:args=#[f,d]:=by cases args;simp_all
 simp only[Rows.uptoBulkAll] at r;obtain⟨g0,y,m,C⟩:=G5 (sp:=.sl Z6z) (by kernel_rfl) (by kernel_rfl) (a 0 _ f rfl rfl) w;obtain⟨l,rfl,o⟩:=Gf y;obtain⟨G,k,z,B⟩:=Z4e (sh:=Z6z) (by kernel_rfl) (by kernel_rfl) (a 1 _ d rfl rfl) i;obtain⟨c,rfl,q⟩:=Z0d k;exact Pi (Rc l o c q) (.cons m (.cons z .nil))
noncomputable def fcallReads_world (os:Go.Os):World:={(World.holding Tryz.prog os ⟨#[],#[],[]⟩) with heap:=(World.holding Tryz.prog os ⟨#[],#[],[]⟩).heap}
set_option maxRecDepth 100000 in
theorem fcallReads_met (os:Go.Os):laidMet Tryz.prog Rows.fcallReadsUptoRow.laid ((fcallReads_world os).forCall (λ_ _=>0) ⟨#[],#[.slice none 0 0,.agg #[.int .i64 0,.int .i64 0,.int .i64 0,.int .i64 0,.int .i64 0,.int .i64 0,.int .i64 0,.string ⟨#[]⟩,.string ⟨#[]⟩,.int .i64 0,.int .i64 0,.int .i64 0,.string ⟨#[]⟩,.bool false,.int .i64 0,.int .i64 0,.int .i64 0,.string ⟨#[]⟩]],[]⟩).memory :=
 laidMet_of_run' 8 (by kernel_rfl) (by kernel_rfl)
set_option maxRecDepth 100000 in
theorem fcallReads_reads (os:Go.Os){H:Type}(enc:TypeId × Value->H):∃a,DataW.whole enc Tryz.prog ((fcallReads_world os).forCall (λ_ _=>0) ⟨#[],#[.slice none 0 0,.agg #[.int .i64 0,.int .i64 0,.int .i64 0,.int .i64 0,.int .i64 0,.int .i64 0,.int .i64 0,.string ⟨#[]⟩,.string ⟨#[]⟩,.int .i64 0,.int .i64 0,.int .i64 0,.string ⟨#[]⟩,.bool false,.int .i64 0,.int .i64 0,.int .i64 0,.string ⟨#[]⟩]],[]⟩).memory Tryz.f8.params.toList Rows.fcallReadsSpec.vars false (#[.slice none 0 0,.agg #[.int .i64 0,.int .i64 0,.int .i64 0,.int .i64 0,.int .i64 0,.int .i64 0,.int .i64 0,.string ⟨#[]⟩,.string ⟨#[]⟩,.int .i64 0,.int .i64 0,.int .i64 0,.string ⟨#[]⟩,.bool false,.int .i64 0,.int .i64 0,.int .i64 0,.string ⟨#[]⟩]]:Array Value).toList 8=some ([.nil,.agg [.lit (.int .i64 0),.lit (.int .i64 0),.lit (.int .i64 0),.agg [.lit (.int .i64 0),.lit (.int .i64 0)],.agg [.lit (.int .i64 0),.lit (.int .i64 0)],.lit (.string []),.lit (.string []),.agg [.lit (.int .i64 0),.lit (.int .i64 0),.lit (.int .i64 0),.lit (.string [])],.lit (.bool false),.lit (.int .i64 0),.lit (.int .i64 0),.lit (.int .i64 0),.lit (.string [])]],[],a) :=
 ⟨[],by kernel_rfl⟩
set_option maxRecDepth 100000 in
theorem fcallReads_lifted (os:Go.Os)(b:os.Started)(H:Type)(enc:TypeId × Value->H)(c:Stop.Interp) :
  ReturnsInHanded {} Tryz.checked os 8 .any ((Rows.OpenSpec.upto Rows.fcallReadsSpec).preRow enc Tryz.prog Tryz.f8 Rows.fcallReadsUptoRow.domain false Rows.fcallReadsUptoRow.laid) (((Rows.OpenSpec.upto Rows.fcallReadsSpec).at c).post enc Tryz.prog Tryz.f8 false true false false):=by
 obtain⟨a,f⟩:=fcallReads_reads os enc;exact Fy (s:=Rows.fcallReadsSpec) os b H enc c (by kernel_rfl) Tryz.func8 rfl (by kernel_rfl)
  (by rw[Tryz.params8];intro t d;simp at d;rcases d with rfl | rfl<;>exact⟨by kernel_rfl,of_decide_eq_true (by kernel_rfl)⟩)
  (by rw[Tryz.params8];intro ds hd;match ds,hd with | [x0,x1],_=>exact⟨rfl,rfl,rfl⟩)
  (witness_row_at (enc:=enc) (C:=Tryz.checked) false (fcallReads_world os) #[.slice none 0 0,.agg #[.int .i64 0,.int .i64 0,.int .i64 0,.int .i64 0,.int .i64 0,.int .i64 0,.int .i64 0,.string ⟨#[]⟩,.string ⟨#[]⟩,.int .i64 0,.int .i64 0,.int .i64 0,.string ⟨#[]⟩,.bool false,.int .i64 0,.int .i64 0,.int .i64 0,.string ⟨#[]⟩]] rfl (by kernel_rfl) (by kernel_rfl) (by kernel_rfl)
   (OpenSpec.preRow_of_cond 8 f (by kernel_rfl) (λk e=>by cases e;kernel_rfl) (by kernel_rfl) (fcallReads_met os)))
  fcallReads_given
theorem fcallReads_said:Rows.FcallReadsUptoSaid :=
 OpenClaim.holds_of_cond 8 Tryz.f8 rfl rfl rfl rfl rfl rfl rfl ⟨rfl,rfl,rfl,rfl,rfl⟩ rfl rfl rfl rfl rfl (by kernel_rfl) Tryz.func8 (by kernel_rfl)
  (of_decide_eq_true (by kernel_rfl)) (by unfold Func.isWrapper;first | (rw[if_pos (by decide +kernel)];kernel_rfl) | (rw[if_neg (by decide +kernel)];exact⟨rfl,rfl⟩))
  (λos a H enc _ b=>by rw[OpenClaim.pre_eq_preRow];exact fcallReads_lifted os a H enc b)
#print axioms fcallReads_said
end Go.Proofs.YtmmdikhljefeiaaGreat
