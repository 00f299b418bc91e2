/- OrderCrash: what a node is opened with, behind any crash of its disk, is what lasted ahead of the call in which it died, or behind it, or with some of the entries that came, in order: for every input whose bulk is at most 1048576 the law returns true. No other condition. -/
import Derived.LaidLaws
import Derived.Test.YtihfaocdpmmooaaGreatJM2
import Derived.Test.YtihfaocdpmmooaaGreatZLz
namespace Go.Proofs.YtihfaocdpmmooaaGreat
open Go.ChangeShapes Go.WideShapes Go.ChangeAt Go.RowKit
set_option maxRecDepth 100000 in
theorem orderCrash_given (W:World)(args:Array Value)(h:Z9p W Tryz.f9 args) :
  Calls Tryz.prog 9 args W fun e m=>e=.returned (.bool true)∧Below W.heap.size W m:=by
 obtain⟨⟨H,enc,ds,p,f,o⟩,base,a⟩:=h;rw[Tryz.params9] at f a;obtain⟨d,q,E,y,B,F,b,rfl,rfl,v,l⟩:=trodAll_cons f;obtain⟨c,g,G,t,p1,D,rfl,rfl,rfl,k,x⟩:=trodAll_cons l;obtain⟨rfl,rfl,rfl⟩:=trodAll_nil x;obtain rfl:args=#[d,c]:=by cases args;simp_all
 simp only[Rows.uptoBulkAll] at o;obtain⟨g0,n,w,C⟩:=Xg (sp:=.sl Zk8) (by kernel_rfl) (by kernel_rfl) (a 0 _ d rfl rfl) v;obtain⟨s,rfl,r⟩:=Z8v n (by omega);obtain⟨A,u,z,b1⟩:=Xg (sp:=.sl [.i .i64,.i .i64,.i .i64]) (by kernel_rfl) (by kernel_rfl) (a 1 _ c rfl rfl) k;obtain⟨p,rfl,j⟩:=Z6r u;exact Zds (Rq s p r j) (.cons w (.cons z .nil))
noncomputable def orderCrash_world (os:Go.Os):World:={(World.holding Tryz.prog os ⟨#[],#[],[]⟩) with heap:=(World.holding Tryz.prog os ⟨#[],#[],[]⟩).heap}
set_option maxRecDepth 100000 in
theorem orderCrash_met (os:Go.Os):laidMet Tryz.prog Rows.orderCrashUptoRow.laid ((orderCrash_world os).forCall (fun _ _=>0) ⟨#[],#[.slice none 0 0,.slice none 0 0],[]⟩).memory :=
 laidMet_of_run' 8 (by kernel_rfl) (by kernel_rfl)
set_option maxRecDepth 100000 in
theorem orderCrash_reads (os:Go.Os){H:Type}(enc:TypeId × Value→H):∃a,DataW.whole enc Tryz.prog ((orderCrash_world os).forCall (fun _ _=>0) ⟨#[],#[.slice none 0 0,.slice none 0 0],[]⟩).memory Tryz.f9.params.toList Rows.orderCrashSpec.vars false (#[.slice none 0 0,.slice none 0 0]:Array Value).toList 8=some ([.nil,.nil],[],a) :=
 ⟨[],by kernel_rfl⟩
set_option maxRecDepth 100000 in
theorem orderCrash_lifted (os:Go.Os)(std:os.Started)(H:Type)(enc:TypeId × Value→H)(c:Stop.Interp) :
  ReturnsInHanded {} Tryz.checked os 9 .any ((Rows.OpenSpec.upto Rows.orderCrashSpec).preRow enc Tryz.prog Tryz.f9 Rows.orderCrashUptoRow.domain false Rows.orderCrashUptoRow.laid) (((Rows.OpenSpec.upto Rows.orderCrashSpec).at c).post enc Tryz.prog Tryz.f9 false true false false):=by
 obtain⟨a,e⟩:=orderCrash_reads os enc;exact Tt (s:=Rows.orderCrashSpec) os std H enc c (by kernel_rfl) Tryz.func9 rfl (by kernel_rfl)
  (by rw[Tryz.params9];intro t b;simp at b;rcases b with rfl | rfl<;>exact⟨by kernel_rfl,of_decide_eq_true (by kernel_rfl)⟩)
  (by rw[Tryz.params9];intro ds hd;match ds,hd with | [x0,x1],_=>exact⟨rfl,rfl,rfl⟩)
  (witness_row_at (enc:=enc) (C:=Tryz.checked) false (orderCrash_world os) #[.slice none 0 0,.slice none 0 0] rfl (by kernel_rfl) (by kernel_rfl) (by kernel_rfl)
   (OpenSpec.preRow_of_cond 8 e (by kernel_rfl) (fun k d=>by cases d;kernel_rfl) (by kernel_rfl) (orderCrash_met os)))
  orderCrash_given
theorem orderCrash_said:Rows.OrderCrashUptoSaid :=
 OpenClaim.holds_of_cond 9 Tryz.f9 rfl rfl rfl rfl rfl rfl rfl ⟨rfl,rfl,rfl,rfl,rfl⟩ rfl rfl rfl rfl rfl (by kernel_rfl) Tryz.func9 (by kernel_rfl)
  (of_decide_eq_true (by kernel_rfl)) (by unfold Func.isWrapper;first | (rw[if_pos (by decide +kernel)];kernel_rfl) | (rw[if_neg (by decide +kernel)];exact⟨rfl,rfl⟩))
  (fun os std H enc _ a=>by rw[OpenClaim.pre_eq_preRow];exact orderCrash_lifted os std H enc a)
#print axioms orderCrash_said
end Go.Proofs.YtihfaocdpmmooaaGreat
