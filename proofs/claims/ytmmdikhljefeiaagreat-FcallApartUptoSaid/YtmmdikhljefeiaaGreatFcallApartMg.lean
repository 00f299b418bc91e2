/- FcallApart: a table that was cloned goes its own way; what is told is a copy: for every input whose bulk is at most 1048576 the law returns true. No other condition. -/
import Derived.LaidLaws
import Derived.Test.YtmmdikhljefeiaaGreatFcM3
import Derived.Test.YtmmdikhljefeiaaGreatYLz
namespace Go.Proofs.YtmmdikhljefeiaaGreat
open Go.ChangeShapes Go.WideShapes Go.ChangeAt Go.RowKit
set_option maxRecDepth 100000 in
theorem fcallApart_given (W:World)(args:Array Value)(h:Se W Tryz.f9 args) :
  Calls Tryz.prog 9 args W λe s=>e=.returned (.bool true)/\Below W.heap.size W s:=by
 obtain⟨⟨H,enc,ds,p,f,r⟩,base,a⟩:=h;rw[Tryz.params9] at f a;obtain⟨d,j,A,x,J,F,b,rfl,rfl,w,u⟩:=trodAll_cons f;obtain⟨c,o,E,t,I,D,rfl,rfl,rfl,i,v⟩:=trodAll_cons u;obtain⟨rfl,rfl,rfl⟩:=trodAll_nil v;obtain rfl:args=#[d,c]:=by cases args;simp_all
 simp only[Rows.uptoBulkAll] at r;obtain⟨g0,y,n,C⟩:=G5 (sp:=.sl Z6z) (by kernel_rfl) (by kernel_rfl) (a 0 _ d rfl rfl) w;obtain⟨l,rfl,q⟩:=Gf y;obtain⟨G,k,z,B⟩:=G5 (sp:=.sl Z6z) (by kernel_rfl) (by kernel_rfl) (a 1 _ c rfl rfl) i;obtain⟨m,rfl,g⟩:=Gf k;exact Pi (Sd l m q g) (.cons n (.cons z .nil))
noncomputable def fcallApart_world (os:Go.Os):World:={(World.holding Tryz.prog os ⟨#[],#[],[]⟩) with heap:=(World.holding Tryz.prog os ⟨#[],#[],[]⟩).heap}
set_option maxRecDepth 100000 in
theorem fcallApart_met (os:Go.Os):laidMet Tryz.prog Rows.fcallApartUptoRow.laid ((fcallApart_world os).forCall (λ_ _=>0) ⟨#[],#[.slice none 0 0,.slice none 0 0],[]⟩).memory :=
 laidMet_of_run' 8 (by kernel_rfl) (by kernel_rfl)
set_option maxRecDepth 100000 in
theorem fcallApart_reads (os:Go.Os){H:Type}(enc:TypeId × Value->H):∃a,DataW.whole enc Tryz.prog ((fcallApart_world os).forCall (λ_ _=>0) ⟨#[],#[.slice none 0 0,.slice none 0 0],[]⟩).memory Tryz.f9.params.toList Rows.fcallApartSpec.vars false (#[.slice none 0 0,.slice none 0 0]:Array Value).toList 8=some ([.nil,.nil],[],a) :=
 ⟨[],by kernel_rfl⟩
set_option maxRecDepth 100000 in
theorem fcallApart_lifted (os:Go.Os)(b:os.Started)(H:Type)(enc:TypeId × Value->H)(c:Stop.Interp) :
  ReturnsInHanded {} Tryz.checked os 9 .any ((Rows.OpenSpec.upto Rows.fcallApartSpec).preRow enc Tryz.prog Tryz.f9 Rows.fcallApartUptoRow.domain false Rows.fcallApartUptoRow.laid) (((Rows.OpenSpec.upto Rows.fcallApartSpec).at c).post enc Tryz.prog Tryz.f9 false true false false):=by
 obtain⟨a,f⟩:=fcallApart_reads os enc;exact Fy (s:=Rows.fcallApartSpec) os b H enc c (by kernel_rfl) Tryz.func9 rfl (by kernel_rfl)
  (by rw[Tryz.params9];intro t d;simp at d;rcases d with rfl | rfl<;>exact⟨by kernel_rfl,of_decide_eq_true (by kernel_rfl)⟩)
  (by rw[Tryz.params9];intro ds hd;match ds,hd with | [x0,x1],_=>exact⟨rfl,rfl,rfl⟩)
  (witness_row_at (enc:=enc) (C:=Tryz.checked) false (fcallApart_world os) #[.slice none 0 0,.slice none 0 0] rfl (by kernel_rfl) (by kernel_rfl) (by kernel_rfl)
   (OpenSpec.preRow_of_cond 8 f (by kernel_rfl) (λk e=>by cases e;kernel_rfl) (by kernel_rfl) (fcallApart_met os)))
  fcallApart_given
theorem fcallApart_said:Rows.FcallApartUptoSaid :=
 OpenClaim.holds_of_cond 9 Tryz.f9 rfl rfl rfl rfl rfl rfl rfl ⟨rfl,rfl,rfl,rfl,rfl⟩ rfl rfl rfl rfl rfl (by kernel_rfl) Tryz.func9 (by kernel_rfl)
  (of_decide_eq_true (by kernel_rfl)) (by unfold Func.isWrapper;first | (rw[if_pos (by decide +kernel)];kernel_rfl) | (rw[if_neg (by decide +kernel)];exact⟨rfl,rfl⟩))
  (λos a H enc _ b=>by rw[OpenClaim.pre_eq_preRow];exact fcallApart_lifted os a H enc b)
#print axioms fcallApart_said
end Go.Proofs.YtmmdikhljefeiaaGreat
