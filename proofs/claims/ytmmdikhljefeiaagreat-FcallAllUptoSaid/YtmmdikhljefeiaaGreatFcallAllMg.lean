/- FcallAll: every call of any script is answered as the document says, and so the table stands: for every input whose bulk is at most 1048576 the law returns true. No other condition. -/
import Derived.LaidLaws
import Derived.Test.YtmmdikhljefeiaaGreatFcM3
import Derived.Test.YtmmdikhljefeiaaGreatYLz
namespace Go.Proofs.YtmmdikhljefeiaaGreat
open Go.ChangeShapes Go.WideShapes Go.ChangeAt Go.RowKit
set_option maxRecDepth 100000 in
theorem fcallAll_given (W:World)(args:Array Value)(h:Se W Tryz.f6 args) :
  Calls Tryz.prog 6 args W λe s=>e=.returned (.bool true)/\Below W.heap.size W s:=by
 obtain⟨⟨H,enc,ds,p,f,r⟩,base,a⟩:=h;rw[Tryz.params6] at f a;obtain⟨d,j,B,y,K,G,b,rfl,rfl,x,v⟩:=trodAll_cons f;obtain⟨c,o,F,t,J,E,rfl,rfl,rfl,g,w⟩:=trodAll_cons v;obtain⟨rfl,rfl,rfl⟩:=trodAll_nil w;obtain rfl:args=#[d,c]:=by cases args;simp_all
 simp only[Rows.uptoBulkAll] at r;obtain⟨g0,z,m,D⟩:=G5 (sp:=.i .i64) (by kernel_rfl) (by kernel_rfl) (a 0 _ d rfl rfl) x;obtain⟨n,rfl,u⟩:=Zr z;obtain⟨I,k,A,C⟩:=G5 (sp:=.sl Z6z) (by kernel_rfl) (by kernel_rfl) (a 1 _ c rfl rfl) g;obtain⟨l,rfl,q⟩:=Gf k;exact Pi (Y6 n u l q) (.cons m (.cons A .nil))
noncomputable def fcallAll_world (os:Go.Os):World:={(World.holding Tryz.prog os ⟨#[],#[],[]⟩) with heap:=(World.holding Tryz.prog os ⟨#[],#[],[]⟩).heap}
set_option maxRecDepth 100000 in
theorem fcallAll_met (os:Go.Os):laidMet Tryz.prog Rows.fcallAllUptoRow.laid ((fcallAll_world os).forCall (λ_ _=>0) ⟨#[],#[.int .i64 0,.slice none 0 0],[]⟩).memory :=
 laidMet_of_run' 8 (by kernel_rfl) (by kernel_rfl)
set_option maxRecDepth 100000 in
theorem fcallAll_reads (os:Go.Os){H:Type}(enc:TypeId × Value->H):∃a,DataW.whole enc Tryz.prog ((fcallAll_world os).forCall (λ_ _=>0) ⟨#[],#[.int .i64 0,.slice none 0 0],[]⟩).memory Tryz.f6.params.toList Rows.fcallAllSpec.vars false (#[.int .i64 0,.slice none 0 0]:Array Value).toList 8=some ([.lit (.int .i64 0),.nil],[],a) :=
 ⟨[],by kernel_rfl⟩
set_option maxRecDepth 100000 in
theorem fcallAll_lifted (os:Go.Os)(b:os.Started)(H:Type)(enc:TypeId × Value->H)(c:Stop.Interp) :
  ReturnsInHanded {} Tryz.checked os 6 .any ((Rows.OpenSpec.upto Rows.fcallAllSpec).preRow enc Tryz.prog Tryz.f6 Rows.fcallAllUptoRow.domain false Rows.fcallAllUptoRow.laid) (((Rows.OpenSpec.upto Rows.fcallAllSpec).at c).post enc Tryz.prog Tryz.f6 false true false false):=by
 obtain⟨a,f⟩:=fcallAll_reads os enc;exact Fy (s:=Rows.fcallAllSpec) os b H enc c (by kernel_rfl) Tryz.func6 rfl (by kernel_rfl)
  (by rw[Tryz.params6];intro t d;simp at d;rcases d with rfl | rfl<;>exact⟨by kernel_rfl,of_decide_eq_true (by kernel_rfl)⟩)
  (by rw[Tryz.params6];intro ds hd;match ds,hd with | [x0,x1],_=>exact⟨rfl,rfl,rfl⟩)
  (witness_row_at (enc:=enc) (C:=Tryz.checked) false (fcallAll_world os) #[.int .i64 0,.slice none 0 0] rfl (by kernel_rfl) (by kernel_rfl) (by kernel_rfl)
   (OpenSpec.preRow_of_cond 8 f (by kernel_rfl) (λk e=>by cases e;kernel_rfl) (by kernel_rfl) (fcallAll_met os)))
  fcallAll_given
theorem fcallAll_said:Rows.FcallAllUptoSaid :=
 OpenClaim.holds_of_cond 6 Tryz.f6 rfl rfl rfl rfl rfl rfl rfl ⟨rfl,rfl,rfl,rfl,rfl⟩ rfl rfl rfl rfl rfl (by kernel_rfl) Tryz.func6 (by kernel_rfl)
  (of_decide_eq_true (by kernel_rfl)) (by unfold Func.isWrapper;first | (rw[if_pos (by decide +kernel)];kernel_rfl) | (rw[if_neg (by decide +kernel)];exact⟨rfl,rfl⟩))
  (λos a H enc _ b=>by rw[OpenClaim.pre_eq_preRow];exact fcallAll_lifted os a H enc b)
#print axioms fcallAll_said
end Go.Proofs.YtmmdikhljefeiaaGreat
