/- FcallTexts: any text is read as the call that it is, or refused; what was read is written as that text: for every input whose bulk is at most 1048576 the law returns true. No other condition. -/
import Derived.LaidLaws
import Derived.Test.YtmmdikhljefeiaaGreatFcM3
import Derived.Test.YtmmdikhljefeiaaGreatYLz
namespace Go.Proofs.YtmmdikhljefeiaaGreat
open Go.ChangeShapes Go.WideShapes Go.ChangeAt Go.RowKit
set_option maxRecDepth 100000 in
theorem fcallTexts_given (W:World)(args:Array Value)(h:Z4 W Tryz.f4 args) :
  Calls Tryz.prog 4 args W λe j=>e=.returned (.bool true)/\Below W.heap.size W j:=by
 obtain⟨⟨H,enc,ds,p,c,k⟩,base,a⟩:=h;rw[Tryz.params4] at c a;obtain⟨d,n,r,m,t,u,b,rfl,rfl,f,l⟩:=trodAll_cons c;obtain⟨rfl,rfl,rfl⟩:=trodAll_nil l;obtain rfl:args=#[d]:=by cases args;simp_all
 simp only[Rows.uptoBulkAll] at k;obtain⟨g0,o,g,q⟩:=Z2g (sp:=.s) (by kernel_rfl) (by kernel_rfl) (a 0 _ d rfl rfl) f;obtain⟨s,rfl,i⟩:=Z6w o (by omega);exact Y3 (Qt s i) (.cons g .nil)
noncomputable def fcallTexts_world (os:Go.Os):World:={(World.holding Tryz.prog os ⟨#[],#[],[]⟩) with heap:=(World.holding Tryz.prog os ⟨#[],#[],[]⟩).heap}
set_option maxRecDepth 100000 in
theorem fcallTexts_met (os:Go.Os):laidMet Tryz.prog Rows.fcallTextsUptoRow.laid ((fcallTexts_world os).forCall (λ_ _=>0) ⟨#[],#[.string ⟨#[]⟩],[]⟩).memory :=
 laidMet_of_run' 8 (by kernel_rfl) (by kernel_rfl)
set_option maxRecDepth 100000 in
theorem fcallTexts_reads (os:Go.Os){H:Type}(enc:TypeId × Value->H):∃a,DataW.whole enc Tryz.prog ((fcallTexts_world os).forCall (λ_ _=>0) ⟨#[],#[.string ⟨#[]⟩],[]⟩).memory Tryz.f4.params.toList Rows.fcallTextsSpec.vars false (#[.string ⟨#[]⟩]:Array Value).toList 8=some ([.lit (.string [])],[],a) :=
 ⟨[],by kernel_rfl⟩
set_option maxRecDepth 100000 in
theorem fcallTexts_lifted (os:Go.Os)(b:os.Started)(H:Type)(enc:TypeId × Value->H)(c:Stop.Interp) :
  ReturnsInHanded {} Tryz.checked os 4 .any ((Rows.OpenSpec.upto Rows.fcallTextsSpec).preRow enc Tryz.prog Tryz.f4 Rows.fcallTextsUptoRow.domain false Rows.fcallTextsUptoRow.laid) (((Rows.OpenSpec.upto Rows.fcallTextsSpec).at c).post enc Tryz.prog Tryz.f4 false true false false):=by
 obtain⟨a,e⟩:=fcallTexts_reads os enc;exact Lg (s:=Rows.fcallTextsSpec) os b H enc c (by kernel_rfl) Tryz.func4 rfl (by kernel_rfl)
  (by rw[Tryz.params4];intro t d;simp at d;rcases d with rfl<;>exact⟨by kernel_rfl,of_decide_eq_true (by kernel_rfl)⟩)
  (by rw[Tryz.params4];intro ds hd;match ds,hd with | [x0],_=>exact⟨rfl,rfl,rfl⟩)
  (witness_row_at (enc:=enc) (C:=Tryz.checked) false (fcallTexts_world os) #[.string ⟨#[]⟩] rfl (by kernel_rfl) (by kernel_rfl) (by kernel_rfl)
   (OpenSpec.preRow_of_cond 8 e (by kernel_rfl) (λk f=>by cases f;kernel_rfl) (by kernel_rfl) (fcallTexts_met os)))
  fcallTexts_given
theorem fcallTexts_said:Rows.FcallTextsUptoSaid :=
 OpenClaim.holds_of_cond 4 Tryz.f4 rfl rfl rfl rfl rfl rfl rfl ⟨rfl,rfl,rfl,rfl,rfl⟩ rfl rfl rfl rfl rfl (by kernel_rfl) Tryz.func4 (by kernel_rfl)
  (of_decide_eq_true (by kernel_rfl)) (by unfold Func.isWrapper;first | (rw[if_pos (by decide +kernel)];kernel_rfl) | (rw[if_neg (by decide +kernel)];exact⟨rfl,rfl⟩))
  (λos a H enc _ b=>by rw[OpenClaim.pre_eq_preRow];exact fcallTexts_lifted os a H enc b)
#print axioms fcallTexts_said
end Go.Proofs.YtmmdikhljefeiaaGreat
