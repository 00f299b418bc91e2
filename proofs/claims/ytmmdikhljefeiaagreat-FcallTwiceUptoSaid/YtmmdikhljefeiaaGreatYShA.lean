
import Derived.Test.YtmmdikhljefeiaaGreatYFrm
namespace Go.Proofs.YtmmdikhljefeiaaGreat
open Go.RowKit Go.MapKept
def B3 (x:UInt8):Value:=.int .u8 (x.toNat:Int)
def Ih (x:UInt8):List Value:=[B3 x]
def Ze4 (b:List UInt8):Value:=.agg (b.map B3).toArray
structure Raw (w:World)(b m size:Nat)(bl:List (Nat × List UInt8)):Prop where
 head:w.heap[b]?=some (.cells #[.int .i64 (size:Int),.map (some m)] 192 (0,0))
 map:MapB w m N1 Ze4 bl
 full:∀p∈bl,p.2.length=16
 small:size<=1048576
 keys:∀p∈bl,p.1 < 65536
theorem Raw.keep {w w':World}{b m size:Nat}{bl:List (Nat × List UInt8)}(h:Raw w b m size bl)(a:w'.heap[b]?=w.heap[b]?)(c:w'.heap[m]?=w.heap[m]?):Raw w' b m size bl :=
 ⟨a.trans h.head,h.map.of_block c,h.full,h.small,h.keys⟩
theorem Raw.lt {w:World}{b m size:Nat}{bl:List (Nat × List UInt8)}(h:Raw w b m size bl):b < w.heap.size:=(bz.1 h.head).1
theorem Raw.ne {w:World}{b m size:Nat}{bl:List (Nat × List UInt8)}(h:Raw w b m size bl):b≠m:=by rintro rfl;obtain⟨es,clock,a,_⟩:=h.map;have:=h.head;rw[a] at this;cases this
theorem Raw.frm {w w':World}{S:List Nat}{b m size:Nat}{bl:List (Nat × List UInt8)}(h:Raw w b m size bl)(a:Frm S w w')(c:b ∉ S)(d:m ∉ S):Raw w' b m size bl :=
 h.keep (a.block b h.lt c) (a.block m h.map.lt d)
theorem Raw.below {w w':World}{b m size:Nat}{bl:List (Nat × List UInt8)}(h:Raw w b m size bl)(a:Below w.heap.size w w'):Raw w' b m size bl :=
 h.keep (a.block b h.lt) (a.block m h.map.lt)
theorem Raw.c0 {w:World}{b m size:Nat}{bl:List (Nat × List UInt8)}(h:Raw w b m size bl):w.cell? ⟨b,0,none⟩=some (.int .i64 (size:Int)):=by rw[A1 h.head];rfl
theorem Raw.c1 {w:World}{b m size:Nat}{bl:List (Nat × List UInt8)}(h:Raw w b m size bl):w.cell? ⟨b,1,none⟩=some (.map (some m)):=by rw[A1 h.head];rfl
theorem Raw.f0 {w:World}{b m size:Nat}{bl:List (Nat × List UInt8)}(h:Raw w b m size bl)(i:Nat):w.frozen? ⟨b,i,none⟩=false:=by simp[World.frozen?,h.head]
theorem K64:KeyOk Tryz.prog 3 N1:=Z15 Tryz.underlying3
theorem Z7g:Tryz.prog.underlying 190=some (.map 3 234):=Tryz.underlying190
set_option maxHeartbeats 400000 in
theorem Z83 (w:World):Calls Tryz.prog 61 #[] w λe w'=>∃b m,e=.returned (.pointer (some ⟨b,0,none⟩))/\w.heap.size<=b/\w.heap.size<=m/\Raw w' b m 0 []/\Below w.heap.size w w':=by
 have hmm:=@run_makeMap Tryz.prog
 go_enter Tryz.func61,Tryz.ntmps61
 go_wp2
 go_ret
 refine⟨w.heap.size+1,w.heap.size,rfl,by omega,av _,⟨?_,?_,by simp,by omega,by simp⟩,((ab _ _).alloc (av _) _).alloc (by simp) _⟩
 .have h:=heap_alloc_new (w.alloc (.map #[] 0)) (.cells #[.int .i64 0,.map (some w.heap.size)] 192);simpa using h
 .exact(Eb w N1 Ze4).of_block (ae _ _ _ (by simp))
set_option maxHeartbeats 400000 in
theorem Z4w {w:World}{b m size:Nat}{bl:List (Nat × List UInt8)}(h:Raw w b m size bl) :
  Calls Tryz.prog 82 #[.pointer (some ⟨b,0,none⟩)] w λe w'=>e=.returned (.int .i64 (size:Int))/\w=w':=by
 have c0:=h.c0;clear h
 go_enter Tryz.func82,Tryz.ntmps82
 go_wp2
 go_ret
 exact⟨rfl,rfl⟩
set_option maxHeartbeats 400000 in
theorem Nr {w:World}{b m size:Nat}{bl:List (Nat × List UInt8)}(h:Raw w b m size bl) :
  Calls Tryz.prog 83 #[.pointer (some ⟨b,0,none⟩)] w λe w'=>e=.returned (.int .i64 (bl.length:Int))/\w=w':=by
 have c1:=h.c1;have hl:=Bg (P:=Tryz.prog) (ty:=3) Z7g h.map;clear h
 go_enter Tryz.func83,Tryz.ntmps83
 go_wp2
 go_ret
 exact⟨rfl,rfl⟩
def D9 (a:Int)(n:Nat):Bool:=decide (0<=a/\n<=1048576/\a<=1048576 - n)
set_option maxHeartbeats 400000 in
theorem Ua (a:Int)(A:Option Addr)(n c:Nat)(hn:n<=maxLen)(w:World) :
  Calls Tryz.prog 121 #[.int .i64 a,.slice A n c] w λe w'=>e=.returned (.bool (D9 a n))/\w=w':=by
 unfold maxLen at hn
 go_enter Tryz.func121,Tryz.ntmps121
 go_wp2
 all_goals (go_ret;refine⟨Io ?_,rfl⟩)
 all_goals
  unfold D9
  first
   | (rw[decide_eq_decide];omega)
   | (rw[eq_comm,decide_eq_false_iff_not];omega)
end Go.Proofs.YtmmdikhljefeiaaGreat
