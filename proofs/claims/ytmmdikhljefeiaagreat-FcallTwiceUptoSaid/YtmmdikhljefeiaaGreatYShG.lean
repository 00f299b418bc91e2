
import Derived.Test.YtmmdikhljefeiaaGreatSE
import Derived.Deep.RegionHeld3
namespace Go.Proofs.YtmmdikhljefeiaaGreat
open Go.RowKit Go.MapKept Go.Shelf
theorem Xs {m:Nat}{es:Array MapEntry}{clock:Nat}(w:World)(a:w.heap[m]?=some (.map es clock)) :
  Calls Tryz.prog 119 #[.map (some m)] w λe w'=>e=.returned (.map (some w.heap.size))/\w'=w.alloc (.map es clock) :=
 AnyW.maps_Clone Tryz.cloneL m es clock w a
set_option maxRecDepth 100000 in
set_option maxHeartbeats 1000000 in
theorem Z12 {w:World}{b m size:Nat}{bl:List (Nat × List UInt8)}(h:Raw w b m size bl) :
  Calls Tryz.prog 89 #[.pointer (some ⟨b,0,none⟩)] w
   λe w'=>∃b' m',e=.returned (.pointer (some ⟨b',0,none⟩))/\w.heap.size<=b'/\w.heap.size<=m'/\Raw w' b' m' size bl/\Below w.heap.size w w':=by
 have c0:=h.c0;have c1:=h.c1;obtain⟨es,clock,hb,hst,he⟩:=h.map;have HH:=aa h;have HS:=aa hst;have HE:=aa he;have hml:=h.map.lt;have hmb:=h.lt;clear h hst he
 go_enter Tryz.func89,Tryz.ntmps89
 go_wp2
 go_region_held3 (λw'=>w'.cell? ⟨b,0,none⟩=some (.int .i64 (size:Int))/\w'.cell? ⟨b,1,none⟩=some (.map (some m)))
  (first
   | go_keep
   | skip)
  (first | (go_at_call 119;(refine(Xs (m:=m) (es:=es) (clock:=clock) w.drew hb).mono ?_);rintro e w1 ⟨rfl,rfl⟩))
 go_wp2
 go_ret
 refine⟨w.heap.size+1,w.heap.size,rfl,by omega,av _,⟨?_,⟨es,clock,?_,HS.out,HE.out⟩,HH.out.full,HH.out.small,HH.out.keys⟩,(((ab _ _).alloc (av _) _).alloc (by simp) _).drew⟩
 .have h:=heap_alloc_new (w.alloc (.map es clock)) (.cells #[.int .i64 (size:Int),.map (some w.heap.size)] 192);rw[show(w.alloc (.map es clock)).heap.size=w.heap.size+1 by simp] at h;exact h
 .exact(ae _ _ _ (by simp)).trans (heap_alloc_new w _)
end Go.Proofs.YtmmdikhljefeiaaGreat
