
import Derived.Test.YtmmdikhljefeiaaGreatYRow
import Derived.Test.YtmmdikhljefeiaaGreatYPure
import Derived.Laws.AppendOwnNone
namespace Go.Proofs.YtmmdikhljefeiaaGreat
open Go.RowKit
def Own {α:Type}(w:World)(base:Nat)(e:TypeId)(sz:Nat)(f:α->List Value)(v:Value)(l:List α):Prop :=
 w.ownsRow base e sz v l.length (l.flatMap f)
section
variable {α:Type} {w w':World} {base:Nat} {t e:TypeId} {sz bytes:Nat} {f:α->List Value} {v:Value} {l:List α}
theorem O8 (a:∀x,(f x).length=sz):∀(l:List α) (i:Nat) (x:α),l[i]?=some x->∀(j:Nat) (u:Value),(f x)[j]?=some u->(l.flatMap f)[i * sz+j]?=some u
 | [],i,x,h,_,_,_=>by simp at h
 | y::l,0,x,h,j,u,hu=>by simp only[List.getElem?_cons_zero,Option.some.injEq] at h;subst h;rw[List.flatMap_cons,Nat.zero_mul,co,bu (ar.1 hu).1];exact hu
 | y::l,i+1,x,h,j,u,hu=>by rw[List.flatMap_cons,bp (by rw[a,Nat.add_mul];omega),a,show(i+1) * sz+j - sz=i * sz+j by rw[Nat.add_mul];omega];exact O8 a l i x (by simpa using h) j u hu
theorem Own.nil (w:World)(base:Nat)(e:TypeId)(sz:Nat)(f:α->List Value):Own w base e sz f (.slice none 0 0) []:=World.ownsRow_nil w base e sz
theorem Own.kept (h:Own w base e sz f v l){row:Option Nat}(b:w.grownBy w' row)(a:v.ownBlock=none\/v.ownBlock≠row):Own w' base e sz f v l:=World.ownsRow.kept h b a
theorem Own.below (h:Own w base e sz f v l){B:Nat}(a:Below B w w')(c:w.heap.size<=B):Own w' base e sz f v l:=by refine World.ownsRow.kept (row:=none) h ⟨a.os,a.tape,a.output,a.size,λk b _=>a.block k (bd b c)⟩ ?_;cases hv:v.ownBlock<;>simp
theorem Own.alloc (h:Own w base e sz f v l)(o:Obj):Own (w.alloc o) base e sz f v l:=World.ownsRow.alloc h o
theorem Own.drew (h:Own w base e sz f v l):Own w.drew base e sz f v l:=h
theorem Own.lt (h:Own w base e sz f v l):∀k,v.ownBlock=some k->base<=k/\k < w.heap.size:=World.ownsRow.lt h
theorem Own.val (h:Own w base e sz f v l):∃A c,v=.slice A l.length c/\l.length<=c/\c<=maxLen/\(∀a,A=some a->a.off=0/\base<=a.block/\a.block < w.heap.size)/\(A=none->l=[]):=by
 rcases h.2 with⟨rfl,h0⟩ | ⟨g,cap,cur,rfl,hb,hg,hn,hc,_⟩
 .exact⟨none,0,by rw[h0],by omega,by simp[maxLen],λa ha=>by simp at ha,λ_=>az h0⟩
 .exact⟨_,cap,rfl,hn,hc,λa ha=>by injection ha with ha;subst ha;exact⟨rfl,hb,(bz.1 hg).1⟩,λh=>by cases h⟩
theorem Own.rd (h:Own w base e sz f v l)(k:∀x,(f x).length=sz):∃A c,v=.slice A l.length c/\l.length<=c/\c<=maxLen/\Rd w w.heap.size sz f A l/\∀a,A=some a->base<=a.block:=by
 rcases h.2 with⟨rfl,h0⟩ | ⟨g,cap,cur,rfl,hb,hg,hn,hc,hs,ht⟩
 .have:l=[]:=az h0;subst this;exact⟨none,0,rfl,by omega,by simp[maxLen],Rd.nil _ _ _ _ _,λa ha=>by cases ha⟩
 .refine⟨_,cap,rfl,hn,hc,Pt hg (bz.1 hg).1 λi x m j u d=>?_,λa ha=>by injection ha with ha;subst ha;exact hb⟩;have b:=O8 k l i x m j u d;rw[<-ht,br] at b;split at b
  .simpa using b
  .cases b
theorem Own.get (h:Own w base e sz f v l)(d:∀x,(f x).length=sz){i:Nat}(b:i < l.length){j:Nat}{u:Value}(k:(f l[i])[j]?=some u):∃g c,v=.slice (some ⟨g,0,none⟩) l.length c/\base<=g/\g < w.heap.size/\w.cell? ⟨g,i * sz+j,none⟩=some u:=by
 rcases h.2 with⟨rfl,h0⟩ | ⟨g,cap,cur,rfl,hb,hg,hn,hc,hs,ht⟩
 .omega
 .refine⟨g,cap,rfl,hb,(bz.1 hg).1,?_⟩;have a:=O8 d l i l[i] (aq b) j u k;rw[<-ht,br] at a;rw[A1 hg];split at a
  .simpa using a
  .cases a
theorem Below.grownBy {B:Nat}{w0 w w':World}{row:Option Nat}(h:Below B w0 w)(a:w.grownBy w' row)(b:B<=w.heap.size)(hr:∀k,row=some k->B<=k):Below B w0 w':=Below.grown h a b hr
theorem Own.grown {B:Nat}{w0:World}(h:Own w base e sz f v l)(c:Below B w0 w)(d:w.grownBy w' v.ownBlock)(g:B<=base)(b:B<=w.heap.size):Below B w0 w' :=
 Below.grown c d b (λk a=>cn g (h.lt k a).1)
end
theorem Mx (w:World)(g:Nat)(cs:Array Value):w.grownBy (w.setRow g cs) (some g) :=
 ⟨rfl,rfl,rfl,by simp[World.setRow],λk _ a=>setRow_other w g k cs (λe=>a (by rw[e]))⟩
theorem A6 {P:Program}{ops:Array Oper}{b:List Oper}{o:Oper}{a:Act}{Q:Exit->Act->World->Prop}(i:o.guard=none)(ty:TypeId)(x y:Operand)(m:o.op=.store ty x y)
  (w:World) (g:Nat) (c cs:Array Value) (t:TypeId) (s:a.eval x=.pointer (some ⟨g,0,none⟩)) (n:a.eval y=.agg cs) (k:w.heap[g]?=some (.cells c t (0,0))) (j:c.size=cs.size) (r:(P.info? ty).map (·.size)=some cs.size) (p:∀v∈cs.toList,v.oneCell'=true)
  (h:∀w',w'.heap[g]?=some (.cells cs t (0,0))->w.grownBy w' (some g)->wpList P ops Q b (a.put o.dst undef) w'):wpList P ops Q (o::b) a w:=by
 refine wpList_plain i λK q=>?_;have d:=Gw (P:=P) (w:=w) (g:=g) (ty:=ty) k j r p;unfold Oper.wp execOp;simp only[m,s,n,Sem.run_bind,d,Result.andThen_ok,Sem.run_pure];exact q _ _ (h _ (setRow_heap w g c cs t _ k) (Mx w g cs))
theorem Ag {P:Program}{fn:Func}{R:Ending->World->Prop}{a:Act}{w:World}{p u:Tmp}{ty:TypeId}(hr:fn.results=#[.cell p ty,.tmp u]){g:Nat}{cs:Array Value}{t:TypeId}{b:Nat × Nat}{d:TypeDesc}
  (c:a.tmps.getD p undef=.pointer (some ⟨g,0,none⟩)) (o:w.heap[g]?=some (.cells cs t b)) (m:P.underlying ty=some d) (ha:(match d with | .struct _ | .array _ _=>true | _=>false)=true) {n:Nat} (h:(P.info? ty).map (·.size)=some n) (k:cs.size=n)
  (hd:a.defers=[]) (i:R (.returned (.tuple #[.agg cs,a.tmps.getD u undef])) w):bodyPost P fn R .ret a w:=by
 refine bodyPost_ret (v:=.tuple #[.agg cs,a.tmps.getD u undef]) ?_ hd i;rw[results_cell_tmp hr,c];have j:=run_loadVar_row (P:=P) w g t ty cs b d o m ha (by rw[k];exact h);simp[asAddr,j,Result.andThen]
theorem Ud {α:Type}{f:α->List Value}{sz:Nat}(b:∀x,(f x).length=sz):∀(X:List α) (i j:Nat) (y:α) (u:Value) (a:i < X.length),j < sz->f y=(f X[i]).set j u->(X.set i y).flatMap f=(X.flatMap f).set (i * sz+j) u
 | [],i,_,_,_,a,_,_=>by simp at a
 | x::X,0,j,y,u,_,hj,hy=>by rw[List.set_cons_zero,List.flatMap_cons,List.flatMap_cons,Nat.zero_mul,co,List.set_append,dq (by rw[b];exact hj),hy];rfl
 | x::X,i+1,j,y,u,a,hj,hy=>by
  rw[List.set_cons_succ,List.flatMap_cons,List.flatMap_cons,List.set_append,dp (by rw[b,Nat.add_mul];omega),b,show(i+1) * sz+j - sz=i * sz+j by rw[Nat.add_mul];omega]
  congr 1
  exact Ud b X i j y u (by simpa using a) hj hy
theorem Own.setC {α:Type}{w:World}{base sz:Nat}{e:TypeId}{f:α->List Value}{X:List α}{b n c:Nat}(o:∀x,(f x).length=sz)(h:Own w base e sz f (.slice (some ⟨b,0,none⟩) n c) X){i j:Nat}(q:i < X.length)(p:j < sz)(y:α)(u:Value)(k:f y=(f X[i]).set j u) :
  Own (w.setCell ⟨b,i * sz+j,none⟩ u) base e sz f (.slice (some ⟨b,0,none⟩) n c) (X.set i y):=by
 rcases h with⟨m,⟨hv,h0⟩ | ⟨b',cap,cur,e1,hb,hg,hn,hc,hs,ht⟩⟩
 .cases hv
 .obtain⟨g,rfl,rfl⟩:=Value.slice.inj e1;obtain rfl:b=b':=by injection g with g;injection g
  have d:=heap_setCell_same w b (i * sz+j) cur e u hg;have a:=Ud o X i j y u q p k;unfold Own;rw[List.length_set];refine⟨by rw[a,List.length_set];exact m,.inr ⟨b,c,_,rfl,hb,d,hn,hc,by simpa using hs,?_⟩⟩;rw[a,<-ht,<-List.take_set];simp
theorem Own.mono {α:Type}{w:World}{base a sz:Nat}{e:TypeId}{f:α->List Value}{v:Value}{l:List α}(h:Own w base e sz f v l)(c:a<=base):Own w a e sz f v l:=by
 rcases h with⟨b,h2 | ⟨g,cap,cur,e1,h3,h4⟩⟩
 .exact⟨b,.inl h2⟩
 .exact⟨b,.inr ⟨g,cap,cur,e1,cn c h3,h4⟩⟩
def Tag (w:World)(e:TypeId)(A:Option Addr):Prop:=∀a,A=some a->∃cs b,w.heap[a.block]?=some (.cells cs e b)
theorem Tag.none (w:World)(e:TypeId):Tag w e none:=λa h=>by cases h
theorem Tag.below {w w':World}{e:TypeId}{A:Option Addr}(h:Tag w e A)(c:Below w.heap.size w w'):Tag w' e A:=λa ha=>by obtain⟨cs,d,b⟩:=h a ha;exact⟨cs,d,(c.block _ (bz.1 b).1).trans b⟩
theorem Tag.grown {w w':World}{e:TypeId}{A:Option Addr}{g:Nat}(h:Tag w e A)(m:w.grownBy w' (some g)){cs:Array Value}{t:TypeId}{n:Nat × Nat}(k:w.heap[g]?=some (.cells cs t n))(j:t≠e):Tag w' e A:=λa ha=>by obtain⟨d,c,b⟩:=h a ha;refine⟨d,c,(m.block _ (bz.1 b).1 (λi=>?_)).trans b⟩;injection i with i;rw[i,k] at b;injection b with b;injection b with _ e2 _;exact j e2
theorem Tag.ne {w:World}{e:TypeId}{A:Option Addr}{g:Nat}(h:Tag w e A){o:Obj}(i:w.heap[g]?=some o)(c:∀cs d,o≠.cells cs e d):∀a,A=some a->a.block≠g:=λa ha j=>by obtain⟨cs,d,b⟩:=h a ha;rw[j,i] at b;injection b with b;exact c _ _ b
end Go.Proofs.YtmmdikhljefeiaaGreat
