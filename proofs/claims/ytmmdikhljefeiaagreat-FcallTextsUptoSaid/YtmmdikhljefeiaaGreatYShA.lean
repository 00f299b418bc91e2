
import Derived.Test.YtmmdikhljefeiaaGreatYFrm
namespace Go.Proofs.YtmmdikhljefeiaaGreat
open Go.RowKit Go.MapKept
def Ax (x:UInt8):Value:=.int .u8 (x.toNat:Int)
def Iq (x:UInt8):List Value:=[Ax x]
def Zbp (b:List UInt8):Value:=.agg (b.map Ax).toArray
structure Raw (w:World)(b m size:Nat)(bl:List (Nat × List UInt8)):Prop where
 head:w.heap[b]?=some (.cells #[.int .i64 (size:Int),.map (some m)] 192 (0,0))
 map:MapB w m Mf Zbp bl
 full:∀p∈bl,p.2.length=16
 small:size<=1048576
 keys:∀p∈bl,p.1 < 65536
theorem Raw.keep {w w':World}{b m size:Nat}{bl:List (Nat × List UInt8)}(h:Raw w b m size bl)(c:w'.heap[b]?=w.heap[b]?)(a:w'.heap[m]?=w.heap[m]?):Raw w' b m size bl :=
 ⟨c.trans h.head,h.map.of_block a,h.full,h.small,h.keys⟩
theorem Raw.lt {w:World}{b m size:Nat}{bl:List (Nat × List UInt8)}(h:Raw w b m size bl):b < w.heap.size:=(bx.1 h.head).1
theorem Raw.ne {w:World}{b m size:Nat}{bl:List (Nat × List UInt8)}(h:Raw w b m size bl):b≠m:=by rintro rfl;obtain⟨es,clock,a,_⟩:=h.map;have:=h.head;rw[a] at this;cases this
theorem Raw.frm {w w':World}{S:List Nat}{b m size:Nat}{bl:List (Nat × List UInt8)}(h:Raw w b m size bl)(a:Frm S w w')(d:b ∉ S)(c:m ∉ S):Raw w' b m size bl :=
 h.keep (a.block b h.lt d) (a.block m h.map.lt c)
theorem Raw.below {w w':World}{b m size:Nat}{bl:List (Nat × List UInt8)}(h:Raw w b m size bl)(a:Below w.heap.size w w'):Raw w' b m size bl :=
 h.keep (a.block b h.lt) (a.block m h.map.lt)
theorem Raw.c0 {w:World}{b m size:Nat}{bl:List (Nat × List UInt8)}(h:Raw w b m size bl):w.cell? ⟨b,0,none⟩=some (.int .i64 (size:Int)):=by rw[A1 h.head];rfl
theorem Raw.c1 {w:World}{b m size:Nat}{bl:List (Nat × List UInt8)}(h:Raw w b m size bl):w.cell? ⟨b,1,none⟩=some (.map (some m)):=by rw[A1 h.head];rfl
theorem Raw.f0 {w:World}{b m size:Nat}{bl:List (Nat × List UInt8)}(h:Raw w b m size bl)(i:Nat):w.frozen? ⟨b,i,none⟩=false:=by simp[World.frozen?,h.head]
theorem K64:KeyOk Tryz.prog 3 Mf:=Z02 Tryz.underlying3
theorem Z61:Tryz.prog.underlying 190=some (.map 3 234):=Tryz.underlying190
set_option maxHeartbeats 400000 in
theorem Z6n (w:World):Calls Tryz.prog 61 #[] w λe w'=>∃b m,e=.returned (.pointer (some ⟨b,0,none⟩))/\w.heap.size<=b/\w.heap.size<=m/\Raw w' b m 0 []/\Below w.heap.size w w':=by
 have hmm:=@run_makeMap Tryz.prog
 go_enter Tryz.func61,Tryz.ntmps61
 go_wp2
 go_ret
 refine⟨w.heap.size+1,w.heap.size,rfl,by omega,au _,⟨?_,?_,by simp,by omega,by simp⟩,((ab _ _).alloc (au _) _).alloc (by simp) _⟩
 .have h:=heap_alloc_new (w.alloc (.map #[] 0)) (.cells #[.int .i64 0,.map (some w.heap.size)] 192);simpa using h
 .exact(Dx w Mf Zbp).of_block (ae _ _ _ (by simp))
set_option maxHeartbeats 400000 in
theorem Z4u {w:World}{b m size:Nat}{bl:List (Nat × List UInt8)}(h:Raw w b m size bl) :
  Calls Tryz.prog 82 #[.pointer (some ⟨b,0,none⟩)] w λe w'=>e=.returned (.int .i64 (size:Int))/\w=w':=by
 have c0:=h.c0;clear h
 go_enter Tryz.func82,Tryz.ntmps82
 go_wp2
 go_ret
 exact⟨rfl,rfl⟩
set_option maxHeartbeats 400000 in
theorem My {w:World}{b m size:Nat}{bl:List (Nat × List UInt8)}(h:Raw w b m size bl) :
  Calls Tryz.prog 83 #[.pointer (some ⟨b,0,none⟩)] w λe w'=>e=.returned (.int .i64 (bl.length:Int))/\w=w':=by
 have c1:=h.c1;have hl:=Bh (P:=Tryz.prog) (ty:=3) Z61 h.map;clear h
 go_enter Tryz.func83,Tryz.ntmps83
 go_wp2
 go_ret
 exact⟨rfl,rfl⟩
def Ef (a:Int)(n:Nat):Bool:=decide (0<=a/\n<=1048576/\a<=1048576 - n)
set_option maxHeartbeats 400000 in
theorem Ug (a:Int)(A:Option Addr)(n c:Nat)(hn:n<=maxLen)(w:World) :
  Calls Tryz.prog 121 #[.int .i64 a,.slice A n c] w λe w'=>e=.returned (.bool (Ef a n))/\w=w':=by
 unfold maxLen at hn
 go_enter Tryz.func121,Tryz.ntmps121
 go_wp2
 all_goals (go_ret;refine⟨Io ?_,rfl⟩)
 all_goals
  unfold Ef
  first
   | (rw[decide_eq_decide];omega)
   | (rw[eq_comm,decide_eq_false_iff_not];omega)
end Go.Proofs.YtmmdikhljefeiaaGreat
