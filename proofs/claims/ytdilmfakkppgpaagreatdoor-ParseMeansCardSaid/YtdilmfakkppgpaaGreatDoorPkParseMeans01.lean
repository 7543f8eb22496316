/- Part 1 of the proof of LawParseMeans: Bytes, Own, Row, Turn, WordsM, WordsM2, NumR. Condition: as each theorem says; none at the end. -/
import Derived.Below
import Derived.Laws.OwnMore
import Derived.Laws.Rows
import Derived.Deep.Draws
import Derived.Laws.Slices
import Derived.Test.YtdilmfakkppgpaaGreatDoorProg
import Derived.WalkKit
import Derived.Maps.AppendAt
import Derived.Deep.AppendLies
import Derived.RegionTactic
import Derived.Lib.Hide
import Derived.OwnWalkIn
import Derived.Laws.BitsAllLaws
import Derived.Deep.OwnRows
import Derived.Laws.CopyOwn
set_option maxRecDepth 100000
set_option maxHeartbeats 16000000
namespace Go.Proofs.YtdilmfakkppgpaaGreatDoor
open Go
theorem Xh2 {a b:Prop} (a1:a) (b1:b):RowKit.Hid (a∧b):=Lib.hid ⟨a1,b1⟩
theorem Xh3 {a b c:Prop} (a1:a) (b1:b) (c1:c):RowKit.Hid (a∧b∧c):=Lib.hid ⟨a1,b1,c1⟩
theorem Xh4 {a b c d:Prop} (a1:a) (b1:b) (c1:c) (d1:d):RowKit.Hid (a∧b∧c∧d):=Lib.hid ⟨a1,b1,c1,d1⟩
theorem Xh5 {a b c d e:Prop} (a1:a) (b1:b) (c1:c) (d1:d) (e1:e):RowKit.Hid (a∧b∧c∧d∧e):=Lib.hid ⟨a1,b1,c1,d1,e1⟩
theorem Xh6 {a b c d e f:Prop} (a1:a) (b1:b) (c1:c) (d1:d) (e1:e) (f1:f):RowKit.Hid (a∧b∧c∧d∧e∧f):=Lib.hid ⟨a1,b1,c1,d1,e1,f1⟩
theorem Xh7 {a b c d e f g:Prop} (a1:a) (b1:b) (c1:c) (d1:d) (e1:e) (f1:f) (g1:g):RowKit.Hid (a∧b∧c∧d∧e∧f∧g):=Lib.hid ⟨a1,b1,c1,d1,e1,f1,g1⟩
theorem Xh8 {a b c d e f g i:Prop} (a1:a) (b1:b) (c1:c) (d1:d) (e1:e) (f1:f) (g1:g) (i1:i):RowKit.Hid (a∧b∧c∧d∧e∧f∧g∧i):=Lib.hid ⟨a1,b1,c1,d1,e1,f1,g1,i1⟩
theorem Xh9 {a b c d e f g i j:Prop} (a1:a) (b1:b) (c1:c) (d1:d) (e1:e) (f1:f) (g1:g) (i1:i) (j1:j):RowKit.Hid (a∧b∧c∧d∧e∧f∧g∧i∧j):=Lib.hid ⟨a1,b1,c1,d1,e1,f1,g1,i1,j1⟩
theorem Xh10 {a b c d e f g i j k:Prop} (a1:a) (b1:b) (c1:c) (d1:d) (e1:e) (f1:f) (g1:g) (i1:i) (j1:j) (k1:k):RowKit.Hid (a∧b∧c∧d∧e∧f∧g∧i∧j∧k):=Lib.hid ⟨a1,b1,c1,d1,e1,f1,g1,i1,j1,k1⟩
theorem Xh11 {a b c d e f g i j k l:Prop} (a1:a) (b1:b) (c1:c) (d1:d) (e1:e) (f1:f) (g1:g) (i1:i) (j1:j) (k1:k) (l1:l):RowKit.Hid (a∧b∧c∧d∧e∧f∧g∧i∧j∧k∧l):=Lib.hid ⟨a1,b1,c1,d1,e1,f1,g1,i1,j1,k1,l1⟩
theorem Xh12 {a b c d e f g i j k l m:Prop} (a1:a) (b1:b) (c1:c) (d1:d) (e1:e) (f1:f) (g1:g) (i1:i) (j1:j) (k1:k) (l1:l) (m1:m):RowKit.Hid (a∧b∧c∧d∧e∧f∧g∧i∧j∧k∧l∧m):=Lib.hid ⟨a1,b1,c1,d1,e1,f1,g1,i1,j1,k1,l1,m1⟩
theorem Xh13 {a b c d e f g i j k l m n:Prop} (a1:a) (b1:b) (c1:c) (d1:d) (e1:e) (f1:f) (g1:g) (i1:i) (j1:j) (k1:k) (l1:l) (m1:m) (n1:n):RowKit.Hid (a∧b∧c∧d∧e∧f∧g∧i∧j∧k∧l∧m∧n):=Lib.hid ⟨a1,b1,c1,d1,e1,f1,g1,i1,j1,k1,l1,m1,n1⟩
theorem Xh14 {a b c d e f g i j k l m n p:Prop} (a1:a) (b1:b) (c1:c) (d1:d) (e1:e) (f1:f) (g1:g) (i1:i) (j1:j) (k1:k) (l1:l) (m1:m) (n1:n) (p1:p):RowKit.Hid (a∧b∧c∧d∧e∧f∧g∧i∧j∧k∧l∧m∧n∧p):=Lib.hid ⟨a1,b1,c1,d1,e1,f1,g1,i1,j1,k1,l1,m1,n1,p1⟩
theorem Xh15 {a b c d e f g i j k l m n p q:Prop} (a1:a) (b1:b) (c1:c) (d1:d) (e1:e) (f1:f) (g1:g) (i1:i) (j1:j) (k1:k) (l1:l) (m1:m) (n1:n) (p1:p) (q1:q):RowKit.Hid (a∧b∧c∧d∧e∧f∧g∧i∧j∧k∧l∧m∧n∧p∧q):=Lib.hid ⟨a1,b1,c1,d1,e1,f1,g1,i1,j1,k1,l1,m1,n1,p1,q1⟩
theorem Xh16 {a b c d e f g i j k l m n p q r:Prop} (a1:a) (b1:b) (c1:c) (d1:d) (e1:e) (f1:f) (g1:g) (i1:i) (j1:j) (k1:k) (l1:l) (m1:m) (n1:n) (p1:p) (q1:q) (r1:r):RowKit.Hid (a∧b∧c∧d∧e∧f∧g∧i∧j∧k∧l∧m∧n∧p∧q∧r):=Lib.hid ⟨a1,b1,c1,d1,e1,f1,g1,i1,j1,k1,l1,m1,n1,p1,q1,r1⟩
theorem Xh17 {a b c d e f g i j k l m n p q r s:Prop} (a1:a) (b1:b) (c1:c) (d1:d) (e1:e) (f1:f) (g1:g) (i1:i) (j1:j) (k1:k) (l1:l) (m1:m) (n1:n) (p1:p) (q1:q) (r1:r) (s1:s):RowKit.Hid (a∧b∧c∧d∧e∧f∧g∧i∧j∧k∧l∧m∧n∧p∧q∧r∧s):=Lib.hid ⟨a1,b1,c1,d1,e1,f1,g1,i1,j1,k1,l1,m1,n1,p1,q1,r1,s1⟩
theorem Xo0 {a b:Prop} (h:RowKit.Hid (a∧b)):a:=h.out.1
theorem Xo1 {a b c:Prop} (h:RowKit.Hid (a∧b∧c)):b:=h.out.2.1
theorem Xe1 {a b:Prop} (h:RowKit.Hid (a∧b)):b:=h.out.2
theorem Xo2 {a b c d:Prop} (h:RowKit.Hid (a∧b∧c∧d)):c:=h.out.2.2.1
theorem Xe2 {a b c:Prop} (h:RowKit.Hid (a∧b∧c)):c:=h.out.2.2
theorem Xo3 {a b c d e:Prop} (h:RowKit.Hid (a∧b∧c∧d∧e)):d:=h.out.2.2.2.1
theorem Xe3 {a b c d:Prop} (h:RowKit.Hid (a∧b∧c∧d)):d:=h.out.2.2.2
theorem Xo4 {a b c d e f:Prop} (h:RowKit.Hid (a∧b∧c∧d∧e∧f)):e:=h.out.2.2.2.2.1
theorem Xe4 {a b c d e:Prop} (h:RowKit.Hid (a∧b∧c∧d∧e)):e:=h.out.2.2.2.2
theorem Xo5 {a b c d e f g:Prop} (h:RowKit.Hid (a∧b∧c∧d∧e∧f∧g)):f:=h.out.2.2.2.2.2.1
theorem Xe5 {a b c d e f:Prop} (h:RowKit.Hid (a∧b∧c∧d∧e∧f)):f:=h.out.2.2.2.2.2
theorem Xo6 {a b c d e f g i:Prop} (h:RowKit.Hid (a∧b∧c∧d∧e∧f∧g∧i)):g:=h.out.2.2.2.2.2.2.1
theorem Xe6 {a b c d e f g:Prop} (h:RowKit.Hid (a∧b∧c∧d∧e∧f∧g)):g:=h.out.2.2.2.2.2.2
theorem Xo7 {a b c d e f g i j:Prop} (h:RowKit.Hid (a∧b∧c∧d∧e∧f∧g∧i∧j)):i:=h.out.2.2.2.2.2.2.2.1
theorem Xe7 {a b c d e f g i:Prop} (h:RowKit.Hid (a∧b∧c∧d∧e∧f∧g∧i)):i:=h.out.2.2.2.2.2.2.2
theorem Xo8 {a b c d e f g i j k:Prop} (h:RowKit.Hid (a∧b∧c∧d∧e∧f∧g∧i∧j∧k)):j:=h.out.2.2.2.2.2.2.2.2.1
theorem Xe8 {a b c d e f g i j:Prop} (h:RowKit.Hid (a∧b∧c∧d∧e∧f∧g∧i∧j)):j:=h.out.2.2.2.2.2.2.2.2
theorem Xo9 {a b c d e f g i j k l:Prop} (h:RowKit.Hid (a∧b∧c∧d∧e∧f∧g∧i∧j∧k∧l)):k:=h.out.2.2.2.2.2.2.2.2.2.1
theorem Xe9 {a b c d e f g i j k:Prop} (h:RowKit.Hid (a∧b∧c∧d∧e∧f∧g∧i∧j∧k)):k:=h.out.2.2.2.2.2.2.2.2.2
theorem Xo10 {a b c d e f g i j k l m:Prop} (h:RowKit.Hid (a∧b∧c∧d∧e∧f∧g∧i∧j∧k∧l∧m)):l:=h.out.2.2.2.2.2.2.2.2.2.2.1
theorem Xe10 {a b c d e f g i j k l:Prop} (h:RowKit.Hid (a∧b∧c∧d∧e∧f∧g∧i∧j∧k∧l)):l:=h.out.2.2.2.2.2.2.2.2.2.2
theorem Xo11 {a b c d e f g i j k l m n:Prop} (h:RowKit.Hid (a∧b∧c∧d∧e∧f∧g∧i∧j∧k∧l∧m∧n)):m:=h.out.2.2.2.2.2.2.2.2.2.2.2.1
theorem Xe11 {a b c d e f g i j k l m:Prop} (h:RowKit.Hid (a∧b∧c∧d∧e∧f∧g∧i∧j∧k∧l∧m)):m:=h.out.2.2.2.2.2.2.2.2.2.2.2
theorem Xo12 {a b c d e f g i j k l m n p:Prop} (h:RowKit.Hid (a∧b∧c∧d∧e∧f∧g∧i∧j∧k∧l∧m∧n∧p)):n:=h.out.2.2.2.2.2.2.2.2.2.2.2.2.1
theorem Xe12 {a b c d e f g i j k l m n:Prop} (h:RowKit.Hid (a∧b∧c∧d∧e∧f∧g∧i∧j∧k∧l∧m∧n)):n:=h.out.2.2.2.2.2.2.2.2.2.2.2.2
theorem Xo13 {a b c d e f g i j k l m n p q:Prop} (h:RowKit.Hid (a∧b∧c∧d∧e∧f∧g∧i∧j∧k∧l∧m∧n∧p∧q)):p:=h.out.2.2.2.2.2.2.2.2.2.2.2.2.2.1
theorem Xe13 {a b c d e f g i j k l m n p:Prop} (h:RowKit.Hid (a∧b∧c∧d∧e∧f∧g∧i∧j∧k∧l∧m∧n∧p)):p:=h.out.2.2.2.2.2.2.2.2.2.2.2.2.2
theorem Xo14 {a b c d e f g i j k l m n p q r:Prop} (h:RowKit.Hid (a∧b∧c∧d∧e∧f∧g∧i∧j∧k∧l∧m∧n∧p∧q∧r)):q:=h.out.2.2.2.2.2.2.2.2.2.2.2.2.2.2.1
theorem Xe14 {a b c d e f g i j k l m n p q:Prop} (h:RowKit.Hid (a∧b∧c∧d∧e∧f∧g∧i∧j∧k∧l∧m∧n∧p∧q)):q:=h.out.2.2.2.2.2.2.2.2.2.2.2.2.2.2
theorem Xo15 {a b c d e f g i j k l m n p q r s:Prop} (h:RowKit.Hid (a∧b∧c∧d∧e∧f∧g∧i∧j∧k∧l∧m∧n∧p∧q∧r∧s)):r:=h.out.2.2.2.2.2.2.2.2.2.2.2.2.2.2.2.1
theorem Xe15 {a b c d e f g i j k l m n p q r:Prop} (h:RowKit.Hid (a∧b∧c∧d∧e∧f∧g∧i∧j∧k∧l∧m∧n∧p∧q∧r)):r:=h.out.2.2.2.2.2.2.2.2.2.2.2.2.2.2.2
theorem Xo16 {a b c d e f g i j k l m n p q r s t:Prop} (h:RowKit.Hid (a∧b∧c∧d∧e∧f∧g∧i∧j∧k∧l∧m∧n∧p∧q∧r∧s∧t)):s:=h.out.2.2.2.2.2.2.2.2.2.2.2.2.2.2.2.2.1
theorem Xe16 {a b c d e f g i j k l m n p q r s:Prop} (h:RowKit.Hid (a∧b∧c∧d∧e∧f∧g∧i∧j∧k∧l∧m∧n∧p∧q∧r∧s)):s:=h.out.2.2.2.2.2.2.2.2.2.2.2.2.2.2.2.2
end Go.Proofs.YtdilmfakkppgpaaGreatDoor
namespace Go.Proofs.YtdilmfakkppgpaaGreatDoor
open Go.RowKit
section
variable {w w':World} {B B':Nat} {a:Option Addr} {bs:List UInt8}
end
def Qnm (a:Option Addr) (m l s:Nat):Option Addr:=if m=l then a else a.map (·.add (l*s))
theorem Qai (a:Option Addr) (m s:Nat):Qnm a m 0 s=a:=by
 unfold Qnm
 split
 ·rfl
 ·cases a with
  |none=>rfl
  |some x=>simp[Addr.add]
structure Part where
 a:Option Addr
 n:Nat
 c:Nat
 bs:List UInt8
section
variable {w w':World} {B B':Nat} {a:Option Addr} {ps:List Part}
end
theorem Qnn:(Tryz.prog.info? 5).map (fun i=>(i.zero,i.size,i.bytes))=some (some (.int .u8 0),1,1):=by kernel_rfl
theorem Below.next0 {w0 w w':World} (h:Below w0.heap.size w0 w) (hb:Below w.heap.size w w'):Below w0.heap.size w0 w':=h.trans (hb.mono h.size)
section
variable {w w':World} {B:Nat} {a:Option Addr} {n c:Nat} {bs:List UInt8}
end
section
variable {w w':World} {B:Nat} {a:Option Addr} {n c:Nat} {bs:List UInt8}
end
section
variable {o:Oper} {act:Act} {Q:Exit->Act->World->Prop}
theorem Q0a {P:Program} {ops:Array Oper} {rest:List Oper} {w:World} (hgd:o.guard=none) (s x:Operand) (t1 t2:TypeId) (ho:o.op=.call { callee:=.builtin .append,args:= #[s,x],argTypes:= #[t1,t2] })
 (va vx:Value) (hs:act.eval s=va) (hx:act.eval x=vx) (v:Value) (w':World) (hrun:(Builtin.append_ #[t1,t2] o.type #[va,vx]).run P w=.ok v w') (h:wpList P ops Q rest (act.put o.dst v) w'):wpList P ops Q (o::rest) act w:=
 wpList_plain hgd fun _ hK=>by
  unfold Oper.wp execOp
  simp only[ho,resolve,invoke,builtin,Sem.run_bind,Sem.run_pure,Result.andThen_ok,List.map_toArray,List.map_cons,List.map_nil,hs,hx,hrun]
  exact hK _ _ h
end
def Row (w:World) (B:Nat) (e:TypeId) (k:Nat) (a:Option Addr) (n c:Nat) (xs:List Value):Prop:=w.ownsRow B e k (.slice a n c) n xs
section
variable {w w':World} {B:Nat} {e:TypeId} {k:Nat} {a:Option Addr} {n c:Nat} {xs:List Value}
theorem Row.len (h:Row w B e k a n c xs):xs.length=n*k:=h.1
theorem Row.nil_ (w:World) (B:Nat) (e:TypeId) (k:Nat):Row w B e k none 0 0 []:=⟨by simp,.inl ⟨rfl,rfl⟩⟩
theorem Row.form (h:Row w B e k a n c xs):(a=none/\n=0/\c=0/\xs=[])∨∃g cur,a=some ⟨g,0,none⟩/\B<=g/\g<w.heap.size/\w.heap[g]?=some (.cells cur e (0,0))/\n<=c/\c<=maxLen/\cur.size=c*k/\cur.toList.take (n*k)=xs:=by
 obtain ⟨h1,⟨h2,h3⟩|⟨g,cap,cur,hv,hg,hh,hn,hc,hs,ht⟩⟩:=h
 ·injection h2 with e1 e2 e3
  subst e1;subst e2;subst e3
  exact .inl ⟨rfl,rfl,rfl,by simpa using h1⟩
 ·injection hv with e1 e2 e3
  subst e1;subst e3
  exact .inr ⟨g,cur,rfl,hg,(Array.getElem?_eq_some_iff.1 hh).1,hh,hn,hc,hs,ht⟩
theorem Row.cap (h:Row w B e k a n c xs):n<=c/\c<=maxLen:=by
 rcases h.form with ⟨_,rfl,rfl,_⟩|⟨g,cur,_,_,_,_,hn,hc,_,_⟩
 ·exact ⟨by omega,by omega⟩
 ·exact ⟨hn,hc⟩
theorem Row.at_ (h:Row w B e k a n c xs) {j:Nat} {x:Value} (hx:xs[j]?=some x):∃g,a=some ⟨g,0,none⟩/\B<=g/\g<w.heap.size/\w.cell? ⟨g,j,none⟩=some x:=by
 rcases h.form with ⟨_,_,_,rfl⟩|⟨g,cur,rfl,hB,hg,hh,hn,hc,hs,ht⟩
 ·simp at hx
 ·refine ⟨g,rfl,hB,hg,?_⟩
  rw[<-ht,List.getElem?_take] at hx
  split at hx
  ·rw[cell_of_row _ _ _ _ _ _ hh,<-Array.getElem?_toList];exact hx
  ·cases hx
theorem Row.call (h:Row w B e k a n c xs) (hb:Below w.heap.size w w'):Row w' B e k a n c xs:=by
 refine ⟨h.1,?_⟩
 rcases h.2 with h2|⟨g,cap,cur,hv,hg,hh,hr⟩
 ·exact .inl h2
 ·exact .inr ⟨g,cap,cur,hv,hg,(hb.block g (Array.getElem?_eq_some_iff.1 hh).1).trans hh,hr⟩
theorem Row.lower {B':Nat} (h:Row w B e k a n c xs) (hB:B'<=B):Row w B' e k a n c xs:=by
 refine ⟨h.1,?_⟩
 rcases h.2 with h2|⟨g,cap,cur,hv,hg,hr⟩
 ·exact .inl h2
 ·exact .inr ⟨g,cap,cur,hv,by omega,hr⟩
theorem Row.alloc (h:Row w B e k a n c xs) (o:Obj):Row (w.alloc o) B e k a n c xs:=h.call ((Below.refl _ _).alloc (Nat.le_refl _) _)
theorem Row.drew (h:Row w B e k a n c xs):Row w.drew B e k a n c xs:=h
theorem Row.drewN (h:Row w B e k a n c xs) (j:Nat):Row (w.drewN j) B e k a n c xs:=h
theorem Row.far (h:Row w B e k a n c xs) {p:Addr} (hp:∀x,a=some x->x.block≠p.block) (u:Value):Row (w.setCell p u) B e k a n c xs:=by
 refine ⟨h.1,?_⟩
 rcases h.2 with h2|⟨g,cap,cur,hv,hg,hh,hr⟩
 ·exact .inl h2
 ·refine .inr ⟨g,cap,cur,hv,hg,(Below.heap_setCell w p u g ?_).trans hh,hr⟩
  injection hv with e1
  exact hp _ e1
theorem Row.row_le (h:Row w B e k a n c xs):∀j,a.map (·.block)=some j->B<=j:=by
 intro j hj
 rcases h.form with ⟨rfl,_⟩|⟨g,cur,rfl,hg,_⟩
 ·cases hj
 ·simp at hj;omega
theorem Row.lit (w:World) (hB:B<=w.heap.size) (e:TypeId) (k:Nat) (cs:Array Value) (n:Nat) (hm:n<=maxLen) (hk:cs.size=n*k):Row (w.alloc (.cells cs e)) B e k (some ⟨w.heap.size,0,none⟩) n n cs.toList:=
 ⟨by simp[hk],.inr ⟨w.heap.size,n,cs,rfl,hB,heap_alloc_new w _,Nat.le_refl _,hm,hk,List.take_of_length_le (by simp[hk])⟩⟩
end
theorem Q3v (w0 w:World) (ty t e:TypeId) (i:TypeInfo) (z:Value) (size bytes:Nat) (ht:Tryz.prog.underlying t=some (.slice e)) (hi:Tryz.prog.info? e=some i) (hz:i.zero=some z)
 (hsize:i.size=size) (hby:i.bytes=bytes) (hzs:z.cells.size=size) (hsz:0<size)
 (B:Nat) (hb0:Below B w0 w) (hB:B<=w.heap.size) (a:Option Addr) (n c:Nat) (xs:List Value) (hown:Row w B e size a n c xs)
 (ad:Addr) (m d:Nat) (news:List Value) (hl:news.length=m*size) (hnews:∀j u,news[j]?=some u->w.cell? (ad.add j)=some u) (h1:∀u∈news,u.oneCell'=true) (N:Nat) (hN:n+m=N) (hsum:N<=9223372036854775807) (hbytes:N*bytes<=140737488355328):
 ∃a' c' w',(Builtin.append_ #[t,t] ty #[.slice a n c,.slice (some ad) m d]).run Tryz.prog w=.ok (.slice a' N c') w'/\Row w' B e size a' N c' (xs++news)/\w.grownBy w' (a.map (·.block))/\Below B w0 w'/\
  (a'.map (·.block)=a.map (·.block)∨a'.map (·.block)=some w.heap.size):=by
 subst hN
 have hblk:∀(x:Option Addr) (k l:Nat),Value.ownBlock (.slice x k l)=x.map (·.block):=fun x k l=>by cases x <;> rfl
 obtain ⟨v',w',hrun,h2,h3,_,h5⟩:=run_append_own_at (P:=Tryz.prog) w B t ty e i z size bytes ht hi hz hsize hby hzs hsz (.slice a n c) n _ hown ad m d news hl hnews h1 (by unfold maxLen;omega) hbytes hB
 rw[hblk] at h3 h5
 have h4:Below B w0 w':=hb0.grown h3 hB hown.row_le
 rcases h2.2 with ⟨rfl,h0⟩|⟨g,cap,cur,rfl,hg⟩
 ·rw[h0] at h2⊢
  exact ⟨none,0,w',hrun,h2,h3,h4,by simpa[hblk] using h5⟩
 ·exact ⟨_,cap,w',hrun,h2,h3,h4,by simpa[hblk] using h5⟩
section
variable {o:Oper} {act:Act} {Q:Exit->Act->World->Prop}
theorem Q0o {ops:Array Oper} {rest:List Oper} (hgd:o.guard=none) (s x:Operand) (t:TypeId) (ho:o.op=.call { callee:=.builtin .append,args:= #[s,x],argTypes:= #[t,t] })
 (w0 w:World) (e:TypeId) (i:TypeInfo) (z:Value) (size bytes:Nat) (ht:Tryz.prog.underlying t=some (.slice e)) (hi:Tryz.prog.info? e=some i) (hz:i.zero=some z)
 (hsize:i.size=size) (hby:i.bytes=bytes) (hzs:z.cells.size=size) (hsz:0<size)
 (B:Nat) (hb0:Below B w0 w) (hB:B<=w.heap.size) (a:Option Addr) (n c:Nat) (xs:List Value) (hs:act.eval s=.slice a n c) (hown:Row w B e size a n c xs)
 (ad:Addr) (m d:Nat) (news:List Value) (hx:act.eval x=.slice (some ad) m d) (hl:news.length=m*size) (hnews:∀j u,news[j]?=some u->w.cell? (ad.add j)=some u) (h1:∀u∈news,u.oneCell'=true) (N:Nat) (hN:n+m=N) (hsum:N<=9223372036854775807) (hbytes:N*bytes<=140737488355328)
 (h:∀a' c' w',Row w' B e size a' N c' (xs++news)->w.grownBy w' (a.map (·.block))->Below B w0 w'->(a'.map (·.block)=a.map (·.block)∨a'.map (·.block)=some w.heap.size)->wpList Tryz.prog ops Q rest (act.put o.dst (.slice a' N c')) w'):wpList Tryz.prog ops Q (o::rest) act w:=by
 obtain ⟨a',c',w',hrun,h2,h3,h4,h5⟩:=Q3v w0 w o.type t e i z size bytes ht hi hz hsize hby hzs hsz B hb0 hB a n c xs hown ad m d news hl hnews h1 N hN hsum hbytes
 exact Q0a hgd s x t t ho _ _ hs hx _ _ hrun (h a' c' w' h2 h3 h4 h5)
end
theorem Q2w (w:World) (cs:Array Value) (e:TypeId) (p:Nat × Nat):∀(j:Nat) u,cs.toList[j]?=some u->(w.alloc (.cells cs e p)).cell? ((⟨w.heap.size,0,none⟩:Addr).add j)=some u:=by
 intro j u hu
 rw[Addr.add_lit,Nat.zero_add,cell_of_row _ _ _ _ _ _ (heap_alloc_new _ _),<-Array.getElem?_toList];exact hu
structure Q0n (fp:Nat->Prop) (w w':World):Prop where
 os:w'.os=w.os
 tape:w'.tape=w.tape
 output:w'.output=w.output
 size:w.heap.size<=w'.heap.size
 block:∀k,k<w.heap.size->¬fp k->w'.heap[k]?=w.heap[k]?
section
variable {fp fp':Nat->Prop} {w w' w'':World} {B:Nat}
theorem Q0n.refl (fp:Nat->Prop) (w:World):Q0n fp w w:=⟨rfl,rfl,rfl,Nat.le_refl _,fun _ _ _=>rfl⟩
theorem Q0n.trans (h:Q0n fp w w') (h':Q0n fp' w' w'') (hs:∀k,k<w.heap.size->fp' k->fp k):Q0n fp w w'':=
 ⟨h'.os.trans h.os,h'.tape.trans h.tape,h'.output.trans h.output,Nat.le_trans h.size h'.size,fun k hk hn=>(h'.block k (Nat.lt_of_lt_of_le hk h.size) (fun e=>hn (hs k hk e))).trans (h.block k hk hn)⟩
theorem Q0n.trans0 (h:Q0n fp w w') (h':Q0n fp w' w''):Q0n fp w w'':=h.trans h' fun _ _ h=>h
theorem Q0n.of_below (h:Below w.heap.size w w') (fp:Nat->Prop):Q0n fp w w':=⟨h.os,h.tape,h.output,h.size,fun k hk _=>h.block k hk⟩
theorem Q0n.of_grown {row:Option Nat} (h:w.grownBy w' row) (hr:∀r,row=some r->r<w.heap.size->fp r):Q0n fp w w':=
 ⟨h.os,h.tape,h.output,h.size,fun k hk hn=>h.block k hk (fun e=>hn (hr k e.symm hk))⟩
theorem Q0n.setCell (fp:Nat->Prop) (w:World) {p:Addr} (hp:fp p.block) (v:Value):Q0n fp w (w.setCell p v):=
 ⟨rfl,rfl,rfl,by simp[World.setCell],fun k _ hn=>Below.heap_setCell _ _ _ _ (fun e=>hn (by rw[e];exact hp))⟩
theorem Q0n.drewN (h:Q0n fp w w') (k:Nat):Q0n fp w (w'.drewN k):=⟨h.os,h.tape,h.output,h.size,h.block⟩
theorem Q0n.drew (h:Q0n fp w w'):Q0n fp w w'.drew:=⟨h.os,h.tape,h.output,h.size,h.block⟩
theorem Below.turn (h:Below B w w') (h':Q0n fp w' w'') (hB:B<=w'.heap.size) (hf:∀k,fp k->B<=k):Below B w w'':=
 h.trans ⟨h'.os,h'.tape,h'.output,h'.size,fun k hk=>h'.block k (by omega) (fun e=>by have:=hf k e;omega)⟩
theorem Q0n.cell (h:Q0n fp w w') {p:Addr} (hp:p.block<w.heap.size) (hn:¬fp p.block):w'.cell? p=w.cell? p:=World.cell?_of_block (h.block _ hp hn)
theorem Q0n.frozen (h:Q0n fp w w') {p:Addr} (hp:p.block<w.heap.size) (hn:¬fp p.block):w'.frozen? p=w.frozen? p:=World.frozen?_of_block (h.block _ hp hn)
end
theorem Row.turn {fp:Nat->Prop} {w w':World} {B:Nat} {e:TypeId} {k:Nat} {a:Option Addr} {n c:Nat} {xs:List Value} (h:Row w B e k a n c xs) (ht:Q0n fp w w') (hn:∀x,a=some x->¬fp x.block):Row w' B e k a n c xs:=by
 refine ⟨h.1,?_⟩
 rcases h.2 with h2|⟨g,cap,cur,hv,hB,hh,hr⟩
 ·exact .inl h2
 ·refine .inr ⟨g,cap,cur,hv,hB,(ht.block g (Array.getElem?_eq_some_iff.1 hh).1 ?_).trans hh,hr⟩
  injection hv with e1
  exact hn _ e1
end Go.Proofs.YtdilmfakkppgpaaGreatDoor
namespace Go.Proofs.YtdilmfakkppgpaaGreatDoor
namespace WordsM
def val (B:Nat):List Nat->Nat
 |[]=>0
 |x::r=>x+B*val B r
def Qt4 (B:Nat):Nat->Nat->List Nat
 |0,_=>[]
 |k+1,n=>if n=0 then [] else n%B::Qt4 B k (n / B)
def dig (B n:Nat):List Nat:=Qt4 B n n
def trimL (l:List Nat):List Nat:=(l.reverse.dropWhile (·==0)).reverse
def Low (B:Nat) (l:List Nat):Prop:=∀x∈l,x<B
def Q4v (l:List Nat):Prop:=∀x,l.getLast?=some x->x≠0
section
variable {B:Nat}
theorem Q8i (l r:List Nat):val B (l++r)=val B l+B^l.length*val B r:=by
 induction l with
 |nil=>simp[val]
 |cons x l ih=>
  simp only[List.cons_append,val,ih,List.length_cons,Nat.pow_succ,Nat.mul_add]
  rw[Nat.mul_comm (B^l.length) B,Nat.mul_assoc,Nat.add_assoc]
theorem Q9y (l:List Nat) (x:Nat):val B (l++[x])=val B l+B^l.length*x:=by rw[Q8i];simp[val]
theorem Q2o (_hB:0<B) (l:List Nat) (h:Low B l):val B l<B^l.length:=by
 induction l with
 |nil=>simp[val]
 |cons x r ih=>
  have h1:=h x (by simp)
  have h2:=ih fun y hy=>h y (by simp[hy])
  simp only[val,List.length_cons,Nat.pow_succ]
  have h3:B*(val B r+1)<=B*B^r.length:=Nat.mul_le_mul_left B h2
  rw[Nat.mul_add,Nat.mul_one] at h3
  rw[Nat.mul_comm (B^r.length) B];omega
theorem Qno (hB:2<=B):∀(k n j:Nat),n<=k->n<=j->Qt4 B k n=Qt4 B j n:=by
 intro k
 induction k with
 |zero=>intro n j h1 h2;obtain rfl:n=0:=by omega
        cases j <;> simp[Qt4]
 |succ k ih=>
  intro n j h1 h2
  cases j with
  |zero=>obtain rfl:n=0:=by omega
         simp[Qt4]
  |succ j=>
   simp only[Qt4]
   by_cases h0:n=0
   ·simp[h0]
   ·rw[if_neg h0,if_neg h0]
    have h3:n / B<n:=Nat.div_lt_self (by omega) (by omega)
    rw[ih (n / B) j (by omega) (by omega)]
theorem Q0x:dig B 0=[]:=rfl
theorem Q3w (hB:2<=B) {n:Nat} (h:n≠0):dig B n=n%B::dig B (n / B):=by
 unfold dig
 cases n with
 |zero=>exact absurd rfl h
 |succ n=>
  have h3:(n+1) / B<n+1:=Nat.div_lt_self (by omega) (by omega)
  simp only[Qt4,if_neg h]
  rw[Qno hB n ((n+1) / B) ((n+1) / B) (by omega) (by omega)]
theorem Q0r (hB:2<=B) (n:Nat):val B (dig B n)=n:=by
 induction n using Nat.strongRecOn with
 |ind n ih=>
  by_cases h0:n=0
  ·subst h0;rfl
  ·rw[Q3w hB h0]
   have h3:n / B<n:=Nat.div_lt_self (by omega) (by omega)
   simp only[val,ih _ h3]
   exact Nat.mod_add_div n B
theorem Q22 (hB:2<=B) (n:Nat):Low B (dig B n):=by
 induction n using Nat.strongRecOn with
 |ind n ih=>
  by_cases h0:n=0
  ·subst h0;intro x hx;simp[Q0x] at hx
  ·rw[Q3w hB h0]
   intro x hx
   rcases List.mem_cons.1 hx with rfl|hx
   ·exact Nat.mod_lt _ (by omega)
   ·exact ih _ (Nat.div_lt_self (by omega) (by omega)) x hx
theorem Qjm (hB:2<=B) (n:Nat):Q4v (dig B n):=by
 induction n using Nat.strongRecOn with
 |ind n ih=>
  by_cases h0:n=0
  ·subst h0;intro x hx;simp[Q0x] at hx
  ·rw[Q3w hB h0]
   intro x hx
   by_cases h1:n / B=0
   ·rw[h1,Q0x] at hx
    simp at hx
    subst hx
    have:=Nat.div_add_mod n B
    rw[h1] at this
    omega
   ·have h2:=Q3w hB h1
    rw[List.getLast?_cons,h2] at hx
    refine ih (n / B) (Nat.div_lt_self (Nat.pos_of_ne_zero h0) hB) x ?_
    rw[h2]
    simp only[List.getLast?_cons] at hx⊢
    simpa using hx
theorem Qhm (hB:2<=B):∀(l:List Nat),Low B l->Q4v l->dig B (val B l)=l:=by
 intro l
 induction l with
 |nil=>intro _ _;rfl
 |cons x r ih=>
  intro hl hn
  have hx:=hl x (by simp)
  have hr:Low B r:=fun y hy=>hl y (by simp[hy])
  by_cases h0:r=[]
  ·subst h0
   have hx0:x≠0:=hn x (by simp)
   simp only[val,Nat.mul_zero,Nat.add_zero]
   rw[Q3w hB hx0,Nat.mod_eq_of_lt hx,Nat.div_eq_of_lt hx,Q0x]
  ·have hnr:Q4v r:=fun y hy=>hn y (by rw[List.getLast?_cons,hy];rfl)
   have ih':=ih hr hnr
   have hv:val B r≠0:=fun e=>by rw[e,Q0x] at ih';exact h0 ih'.symm
   have hpos:0<B*val B r:=Nat.mul_pos (by omega) (by omega)
   have hne:val B (x::r)≠0:=by simp only[val];omega
   rw[Q3w hB hne]
   simp only[val]
   rw[Nat.add_mul_mod_self_left,Nat.mod_eq_of_lt hx,Nat.add_mul_div_left _ _ (by omega),Nat.div_eq_of_lt hx,Nat.zero_add,ih']
theorem Q3a (l:List Nat):trimL (l++[0])=trimL l:=by simp[trimL]
theorem Q4i (l:List Nat) {x:Nat} (h:x≠0):trimL (l++[x])=l++[x]:=by simp[trimL,h]
theorem Qhn (l:List Nat) (h:Q4v l):trimL l=l:=by
 rcases List.eq_nil_or_concat l with rfl|⟨r,x,rfl⟩
 ·rfl
 ·rw[List.concat_eq_append] at h⊢
  exact Q4i _ (h x (by simp))
theorem Q7l (l:List Nat):∃k,l=trimL l++List.replicate k 0:=by
 induction h:l.length generalizing l with
 |zero=>obtain rfl:=List.length_eq_zero_iff.1 h;exact ⟨0,rfl⟩
 |succ n ih=>
  rcases List.eq_nil_or_concat l with rfl|⟨r,x,rfl⟩
  ·simp at h
  ·rw[List.concat_eq_append] at h⊢
   by_cases h0:x=0
   ·subst h0
    obtain ⟨k,hk⟩:=ih r (by simpa using h)
    refine ⟨k+1,?_⟩
    rw[Q3a]
    calc r++[0]=(trimL r++List.replicate k 0)++[0]:=by rw[<-hk]
     _=_:=by rw[List.append_assoc,List.replicate_succ']
   ·exact ⟨0,by rw[Q4i _ h0];simp⟩
theorem Q65 (k:Nat):val B (List.replicate k 0)=0:=by
 induction k with
 |zero=>rfl
 |succ k ih=>simp[List.replicate_succ,val,ih]
theorem Q1b (l:List Nat):val B (trimL l)=val B l:=by
 obtain ⟨k,hk⟩:=Q7l l
 have:=congrArg (val B) hk
 rw[Q8i,Q65,Nat.mul_zero,Nat.add_zero] at this
 exact this.symm
theorem Qed (l:List Nat):Q4v (trimL l):=by
 intro x hx h0
 subst h0
 unfold trimL at hx
 rw[List.getLast?_reverse] at hx
 have:∀m:List Nat,(m.dropWhile (·==0)).head?≠some 0:=by
  intro m
  induction m with
  |nil=>simp
  |cons y r ih=>
   by_cases hy:y=0
   ·subst hy;simpa using ih
   ·simp[hy]
 exact this _ hx
theorem Qdh {l:List Nat} (h:Low B l):Low B (trimL l):=by
 obtain ⟨k,hk⟩:=Q7l l
 intro x hx
 exact h x (by rw[hk];simp[hx])
theorem Q1j (hB:2<=B) {l:List Nat} (h:Low B l):trimL l=dig B (val B l):=by
 rw[<-Q1b l,Qhm hB _ (Qdh h) (Qed l)]
theorem trim_len (l:List Nat):(trimL l).length<=l.length:=by
 obtain ⟨k,hk⟩:=Q7l l
 have:=congrArg List.length hk
 simp at this;omega
theorem Q3y (l:List Nat):l.take (trimL l).length=trimL l:=by
 obtain ⟨k,hk⟩:=Q7l l
 calc l.take (trimL l).length=(trimL l++List.replicate k 0).take (trimL l).length:=by rw[<-hk]
  _=_:=by rw[List.take_left' rfl]
theorem Q23 (hB:2<=B) {n k:Nat} (h:n<B^k):(dig B n).length<=k:=by
 induction k generalizing n with
 |zero=>obtain rfl:n=0:=by simpa using h
        simp[Q0x]
 |succ k ih=>
  by_cases h0:n=0
  ·subst h0;simp[Q0x]
  ·rw[Q3w hB h0,List.length_cons]
   have:n / B<B^k:=Nat.div_lt_of_lt_mul (by rw[Nat.mul_comm];rw[Nat.pow_succ] at h;exact h)
   have:=ih this
   omega
theorem Q4m (hB:2<=B) {n:Nat}:dig B n=[]↔n=0:=by
 constructor
 ·intro h
  have:=Q0r hB n
  rw[h] at this
  exact this.symm
 ·rintro rfl;rfl
end
end WordsM
namespace WordsM
section
variable {B:Nat}
theorem Q8j (l:List Nat) (i x y:Nat) (h:l[i]?=some y):val B (l.set i x)+y*B^i=val B l+x*B^i:=by
 induction l generalizing i with
 |nil=>simp at h
 |cons z r ih=>
  cases i with
  |zero=>
   simp only[List.getElem?_cons_zero,Option.some.injEq] at h
   subst h
   simp only[List.set_cons_zero,val,Nat.pow_zero,Nat.mul_one]
   omega
  |succ i=>
   have ih':=ih i (by simpa using h)
   simp only[List.set_cons_succ,val,Nat.pow_succ]
   have e1:y*(B^i*B)=B*(y*B^i):=by rw[<-Nat.mul_assoc,Nat.mul_comm]
   have e2:x*(B^i*B)=B*(x*B^i):=by rw[<-Nat.mul_assoc,Nat.mul_comm]
   rw[e1,e2]
   have e3:B*(val B (r.set i x)+y*B^i)=B*(val B r+x*B^i):=by rw[ih']
   rw[Nat.mul_add,Nat.mul_add] at e3
   omega
theorem Q9z {L:List Nat} {i x b c S:Nat} (hx:L[i]?=some x) (h:val B L+c*B^i=S):val B (L.set i ((x+b+c)%B))+(x+b+c) / B*B^(i+1)=S+b*B^i:=by
 have h1:=Q8j (B:=B) L i ((x+b+c)%B) x hx
 have h2:=Nat.div_add_mod (x+b+c) B
 have h3:(B*((x+b+c) / B)+(x+b+c)%B)*B^i=(x+b+c)*B^i:=by rw[h2]
 have h4:(x+b+c) / B*B^(i+1)=B*((x+b+c) / B)*B^i:=by rw[Nat.pow_succ,Nat.mul_comm (B^i) B,<-Nat.mul_assoc,Nat.mul_comm B]
 rw[Nat.add_mul] at h3
 rw[Nat.add_mul,Nat.add_mul] at h3
 omega
theorem Qjn {B x y o c:Nat} (hB:0<B) (hx:x<B) (hy:y<B) (ho:o<B) (hc:c<B):
 ((x*y%B+o)%B+c)%B=(o+x*y+c)%B/\x*y / B+(x*y%B+o) / B+((x*y%B+o)%B+c) / B=(o+x*y+c) / B/\(o+x*y+c) / B<B:=by
 have e1:=Nat.div_add_mod (x*y) B
 have e2:=Nat.div_add_mod (x*y%B+o) B
 have e3:=Nat.div_add_mod ((x*y%B+o)%B+c) B
 have h3:((x*y%B+o)%B+c)%B<B:=Nat.mod_lt _ hB
 have hs:o+x*y+c=((x*y%B+o)%B+c)%B+B*(x*y / B+(x*y%B+o) / B+((x*y%B+o)%B+c) / B):=by
  rw[Nat.mul_add,Nat.mul_add];omega
 refine ⟨?_,?_,?_⟩
 ·rw[hs,Nat.add_mul_mod_self_left,Nat.mod_eq_of_lt h3]
 ·rw[hs,Nat.add_mul_div_left _ _ hB,Nat.div_eq_of_lt h3,Nat.zero_add]
 ·refine Nat.div_lt_of_lt_mul ?_
  have h4:x*y<=(B-1)*(B-1):=Nat.mul_le_mul (by omega) (by omega)
  obtain ⟨d,rfl⟩:∃d,B=d+1:=⟨B-1,by omega⟩
  rw[Nat.add_sub_cancel] at h4
  have h5:(d+1)*(d+1)=d*d+d+d+1:=by rw[Nat.add_mul,Nat.mul_add];omega
  omega
theorem Q3q {l:List Nat} (h:Low B l) {i x:Nat} (hx:x<B):Low B (l.set i x):=fun y hy=>by
 rcases List.mem_or_eq_of_mem_set hy with h1|rfl
 ·exact h y h1
 ·exact hx
theorem Q13 (l:List Nat) (i x:Nat) (h:l[i]?=some x):val B (l.take (i+1))=val B (l.take i)+B^i*x:=by
 have hi:i<l.length:=(List.getElem?_eq_some_iff.1 h).1
 rw[List.take_add_one,h,Option.toList_some,Q9y,List.length_take,Nat.min_eq_left (by omega)]
theorem Q3b (l:List Nat) (i:Nat):val B l=val B (l.take i)+B^i*val B (l.drop i):=by
 by_cases h:i<=l.length
 ·have:=Q8i (B:=B) (l.take i) (l.drop i)
  rw[List.take_append_drop,List.length_take,Nat.min_eq_left h] at this
  exact this
 ·rw[List.take_of_length_le (by omega),List.drop_eq_nil_of_le (by omega)];simp[val]
theorem Qjo (hB:0<B) (l:List Nat) (hl:Low B l) (i:Nat) (h:i<=l.length):val B (l.drop i)=val B l / B^i:=by
 have h1:=Q3b (B:=B) l i
 have h2:=Q2o hB (l.take i) fun x hx=>hl x (List.mem_of_mem_take hx)
 rw[List.length_take,Nat.min_eq_left h] at h2
 rw[h1,Nat.add_mul_div_left _ _ (Nat.pow_pos hB),Nat.div_eq_of_lt h2,Nat.zero_add]
def shr (s t:Nat):List Nat->List Nat
 |[]=>[]
 |x::r=>(x / 2^s+(r.headD 0*2^t)%2^(s+t))::shr s t r
theorem Qho (s t:Nat) (l:List Nat):(shr s t l).length=l.length:=by
 induction l with
 |nil=>rfl
 |cons x r ih=>simp[shr,ih]
theorem Qhp (s t:Nat):∀l:List Nat,val (2^(s+t)) (shr s t l)=val (2^(s+t)) l / 2^s
 |[]=>by simp[shr,val]
 |x::r=>by
  have ih:=Qhp s t r
  simp only[shr,val]
  rw[ih]
  obtain ⟨V,hV⟩:∃V,val (2^(s+t)) r=V:=⟨_,rfl⟩
  have hp:2^(s+t)=2^s*2^t:=Nat.pow_add ..
  have hps:0<2^s:=Nat.pow_pos (by decide)
  have hpt:0<2^t:=Nat.pow_pos (by decide)
  have hm:r.headD 0%2^s=V%2^s:=by
   rw[<-hV]
   cases r with
   |nil=>rfl
   |cons y r'=>
    simp only[List.headD_cons,val]
    rw[hp,Nat.mul_assoc,Nat.add_mul_mod_self_left]
  rw[hV]
  have e1:(r.headD 0*2^t)%2^(s+t)=(V%2^s)*2^t:=by
   rw[hp,Nat.mul_mod_mul_right,hm]
  rw[e1,hp]
  have e2:x+2^s*2^t*V=x+2^s*(2^t*V):=by rw[Nat.mul_assoc]
  rw[e2,Nat.add_mul_div_left _ _ hps]
  have e3:V=2^s*(V / 2^s)+V%2^s:=(Nat.div_add_mod V (2^s)).symm
  obtain ⟨P,hP⟩:∃P,2^s=P:=⟨_,rfl⟩
  obtain ⟨T,hT⟩:∃T,2^t=T:=⟨_,rfl⟩
  obtain ⟨q,hq⟩:∃q,V / 2^s=q:=⟨_,rfl⟩
  obtain ⟨m,hm2⟩:∃m,V%2^s=m:=⟨_,rfl⟩
  rw[hq,hm2] at e3
  rw[hq,hm2,hP,hT,e3,hP,Nat.mul_add,<-Nat.mul_assoc T P q,Nat.mul_comm T P,Nat.mul_comm m T]
  omega
end
def Qhq (n z:Nat):Prop:=n%2^z=0/\n / 2^z%2=1
theorem Qhq.pos {n z:Nat} (h:Qhq n z):n≠0:=by
 rintro rfl
 have:=h.2
 simp at this
theorem Qhq.eq {n z y:Nat} (h:Qhq n z) (h':Qhq n y):z=y:=by
 have key:∀a b:Nat,Qhq n a->Qhq n b->¬a<b:=by
  intro a b ha hb hlt
  obtain ⟨d,rfl⟩:∃d,b=a+(d+1):=⟨b-a-1,by omega⟩
  have h1:=hb.1
  have h2:=ha.2
  have hpa:0<2^a:=Nat.pow_pos (by decide)
  rw[Nat.pow_add] at h1
  obtain ⟨q,hq⟩:∃q,n=2^a*2^(d+1)*q:=⟨n / (2^a*2^(d+1)),by have:=Nat.div_add_mod n (2^a*2^(d+1));omega⟩
  rw[hq,Nat.mul_assoc,Nat.mul_div_cancel_left _ hpa,Nat.pow_succ,Nat.mul_assoc,Nat.mul_comm 2 q,<-Nat.mul_assoc,Nat.mul_mod_left] at h2
  omega
 have h1:=key z y h h'
 have h2:=key y z h' h
 omega
theorem Qee {n:Nat} (h:n≠0):∃z,Qhq n z:=by
 induction n using Nat.strongRecOn with
 |ind n ih=>
  by_cases h1:n%2=1
  ·exact ⟨0,by simp[Nat.mod_one],by simpa using h1⟩
  ·obtain ⟨z,h2,h3⟩:=ih (n / 2) (by omega) (by omega)
   refine ⟨z+1,?_,?_⟩
   ·rw[Nat.pow_succ,Nat.mul_comm,Nat.mod_mul,h2];omega
   ·rw[Nat.pow_succ,Nat.mul_comm,<-Nat.div_div_eq_div_mul];exact h3
end WordsM
namespace WordsM
theorem Qhr (s t:Nat):∀(l:List Nat) (i x:Nat),l[i]?=some x->(shr s t l)[i]?=some (x / 2^s+((l[i+1]?).getD 0*2^t)%2^(s+t))
 |[],i,x,h=>by simp at h
 |y::r,0,x,h=>by
  simp only[List.getElem?_cons_zero,Option.some.injEq] at h
  subst h
  cases r <;> simp[shr]
 |y::r,i+1,x,h=>by
  simp only[List.getElem?_cons_succ] at h
  simp only[shr,List.getElem?_cons_succ]
  exact Qhr s t r i x h
theorem Qjp (s t y:Nat):(y*2^t)%2^(s+t)=(y%2^s)*2^t:=by rw[Nat.pow_add,Nat.mul_mod_mul_right]
theorem Qnp {s t x:Nat} (hx:x<2^(s+t)):x / 2^s<2^t:=Nat.div_lt_of_lt_mul (by rw[<-Nat.pow_add];exact hx)
theorem Qnq {s t x y:Nat} (hx:x<2^(s+t)):x / 2^s+(y*2^t)%2^(s+t)<2^(s+t):=by
 have h1:=Qnp hx
 have h2:y%2^s<2^s:=Nat.mod_lt _ (Nat.pow_pos (by decide))
 rw[Qjp]
 have h3:(y%2^s+1)*2^t<=2^s*2^t:=Nat.mul_le_mul_right _ h2
 rw[Nat.add_mul,Nat.one_mul,<-Nat.pow_add] at h3
 omega
theorem Qhs {s t:Nat}:∀{l:List Nat},Low (2^(s+t)) l->Low (2^(s+t)) (shr s t l)
 |[],_=>fun x hx=>by cases hx
 |y::r,h=>fun x hx=>by
  rcases List.mem_cons.1 hx with rfl|hx
  ·exact Qnq (h _ (List.mem_cons_self ..))
  ·exact Qhs (l:=r) (fun z hz=>h z (List.mem_cons_of_mem _ hz)) x hx
theorem Qv7 {s t x y:Nat} (hx:x<2^(s+t)):(x / 2^s) |||((y*2^t)%2^(s+t))=x / 2^s+(y*2^t)%2^(s+t):=by
 rw[Qjp,Nat.or_comm,nat_join t _ _ (Nat.mul_mod_left _ _) (Qnp hx),Nat.add_comm]
theorem Qr9 (A:List Nat) (hA:Low (2^64) A) (k s:Nat) (hk:k<=A.length) (hs:s<64):val (2^64) (shr s (64-s) (A.drop k))=val (2^64) A / 2^(64*k+s):=by
 have h1:=Qhp s (64-s) (A.drop k)
 rw[show s+(64-s)=64 by omega] at h1
 rw[h1,Qjo (Nat.pow_pos (by decide)) A hA k hk,Nat.div_div_eq_div_mul,<-Nat.pow_mul,<-Nat.pow_add]
theorem Qra {A:List Nat} (hA:Low (2^64) A) (k s:Nat) (hs:s<64):Low (2^64) (shr s (64-s) (A.drop k)):=by
 have h:=Qhs (s:=s) (t:=64-s) (l:=A.drop k) (by rw[show s+(64-s)=64 by omega];exact fun x hx=>hA x (List.mem_of_mem_drop hx))
 rwa[show s+(64-s)=64 by omega] at h
theorem Qrb {A:List Nat} (hA:Low (2^64) A) {k s:Nat} (hk:A.length<=k):val (2^64) A / 2^(64*k+s)=0:=by
 apply Nat.div_eq_of_lt
 have h1:=Q2o (B:=2^64) (Nat.pow_pos (by decide)) A hA
 rw[<-Nat.pow_mul] at h1
 exact Nat.lt_of_lt_of_le h1 (Nat.pow_le_pow_right (by decide) (by omega))
theorem Qef {L R:List Nat} {i r:Nat} (h:∀j,j<i->L[j]?=R[j]?) (hr:R[i]?=some r) (hi:i<L.length):∀j,j<i+1->(L.set i r)[j]?=R[j]?:=by
 intro j hj
 by_cases hji:j=i
 ·subst hji;rw[List.getElem?_set_self hi,hr]
 ·rw[List.getElem?_set_ne (fun e=>hji e.symm)];exact h j (by omega)
theorem Qdi {L R:List Nat} (h:∀j,j<R.length->L[j]?=R[j]?) (hl:L.length=R.length):L=R:=by
 apply List.ext_getElem?
 intro j
 by_cases hj:j<R.length
 ·exact h j hj
 ·rw[List.getElem?_eq_none (by omega),List.getElem?_eq_none (by omega)]
end WordsM
end Go.Proofs.YtdilmfakkppgpaaGreatDoor
namespace Go.Proofs.YtdilmfakkppgpaaGreatDoor
open Go.RowKit WordsM
def nv (K:IntKind) (x:Nat):Value:=.int K (x:Int)
theorem Qnr (K:IntKind) (ls:List Nat):∀u∈ls.map (nv K),u.oneCell'=true:=by
 intro u hu
 obtain ⟨x,_,rfl⟩:=List.mem_map.1 hu
 rfl
def RdI (K:IntKind) (w:World) (B:Nat) (a:Option Addr) (ls:List Nat):Prop:=
 ls=[]∨∃b o,a=some ⟨b,o,none⟩/\b<B/\∀(j:Nat) x,ls[j]?=some x->w.cell? ⟨b,o+j,none⟩=some (nv K x)
section
variable {K:IntKind} {w w':World} {B B':Nat} {a:Option Addr} {ls:List Nat}
theorem RdI.keep (h:RdI K w B a ls) (hk:∀p:Addr,p.block<B->w'.cell? p=w.cell? p):RdI K w' B a ls:=by
 rcases h with rfl|⟨b,o,rfl,hb,hc⟩
 ·exact .inl rfl
 ·exact .inr ⟨b,o,rfl,hb,fun j x hx=>(hk _ hb).trans (hc j x hx)⟩
theorem RdI.more (h:RdI K w B a ls) (hB:B<=B'):RdI K w B' a ls:=by
 rcases h with rfl|⟨b,o,rfl,hb,hc⟩
 ·exact .inl rfl
 ·exact .inr ⟨b,o,rfl,by omega,hc⟩
theorem RdI.below (h:RdI K w B a ls) (hb:Below B w w'):RdI K w' B a ls:=h.keep fun _ hp=>hb.cell hp
theorem RdI.step (h:RdI K w w.heap.size a ls) (hb:Below w.heap.size w w'):RdI K w' w'.heap.size a ls:=(h.below hb).more hb.size
theorem RdI.front (h:RdI K w B a ls) (k:Nat):RdI K w B a (ls.take k):=by
 rcases h with rfl|⟨b,o,rfl,hb,hc⟩
 ·exact .inl (by simp)
 ·refine .inr ⟨b,o,rfl,hb,fun j x hx=>hc j x ?_⟩
  rw[List.getElem?_take] at hx
  split at hx
  ·exact hx
  ·cases hx
theorem RdI.at_ {k x:Nat} (h:RdI K w B a ls) (hx:ls[k]?=some x):∃b o,a=some ⟨b,o,none⟩/\b<B/\w.cell? ⟨b,o+k,none⟩=some (.int K (x:Int)):=by
 rcases h with rfl|⟨b,o,rfl,hb,hc⟩
 ·simp at hx
 ·exact ⟨b,o,rfl,hb,hc k x hx⟩
end
def Arr (T:TypeId) (K:IntKind) (w:World) (g:Nat) (ls:List Nat):Prop:=w.heap[g]?=some (.cells (ls.map (nv K)).toArray T (0,0))
section
variable {T:TypeId} {K:IntKind} {w w':World} {g:Nat} {ls:List Nat}
theorem Arr.lt (h:Arr T K w g ls):g<w.heap.size:=(Array.getElem?_eq_some_iff.1 h).1
theorem Arr.cell (h:Arr T K w g ls) {i x:Nat} (hx:ls[i]?=some x):w.cell? ⟨g,i,none⟩=some (.int K (x:Int)):=by
 rw[cell_of_row _ _ _ _ _ _ h]
 simp[hx,nv]
theorem Arr.frozen (h:Arr T K w g ls) (i:Nat):w.frozen? ⟨g,i,none⟩=false:=frozen_of_row _ _ _ _ _ h
theorem Arr.set (h:Arr T K w g ls) (i x:Nat):Arr T K (w.setCell ⟨g,i,none⟩ (.int K (x:Int))) g (ls.set i x):=by
 unfold Arr
 rw[heap_setCell_same _ _ _ _ _ _ h]
 rw[List.map_set,List.setIfInBounds_toArray];rfl
theorem Arr.call (h:Arr T K w g ls) (hb:Below w.heap.size w w'):Arr T K w' g ls:=(hb.block g h.lt).trans h
theorem Arr.rd (h:Arr T K w g ls):RdI K w w.heap.size (some ⟨g,0,none⟩) ls:=.inr ⟨g,0,rfl,h.lt,fun j x hx=>by rw[Nat.zero_add];exact h.cell hx⟩
theorem Arr.new (w:World) (T:TypeId) (K:IntKind) (ls:List Nat):Arr T K (w.alloc (.cells (ls.map (nv K)).toArray T)) w.heap.size ls:=heap_alloc_new _ _
theorem Ql8 (K:IntKind) (n:Nat):madeCells #[.int K 0] n=((List.replicate n 0).map (nv K)).toArray:=by
 apply Array.ext_getElem?
 intro i
 simp only[madeCells]
 simp[Nat.mod_one,Array.getElem?_map,Array.getElem?_range,Array.getElem?_replicate,nv]
theorem Q1y (K:IntKind) (n:Nat):madeCells #[.int K 0] n=Array.replicate n (nv K 0):=by rw[Ql8];simp
theorem Arr.zeros (w:World) (T:TypeId) (K:IntKind) (n:Nat):Arr T K (w.alloc (.cells (Array.replicate n (nv K 0)) T)) w.heap.size (List.replicate n 0):=by
 have h:=Arr.new w T K (List.replicate n 0)
 rwa[show ((List.replicate n 0).map (nv K)).toArray=Array.replicate n (nv K 0) by simp] at h
end
theorem Q9o {P:Program} {w:World} {ops:Array Oper} {rest:List Oper} {o:Oper} {act:Act} {Q:Exit->Act->World->Prop} (hgd:o.guard=none) (d s:Operand) (dT sT:TypeId)
 (ho:o.op=.call { callee:=.builtin .copy,args:= #[d,s],argTypes:= #[dT,sT] }) (elem:TypeId) (hu:P.underlying dT=some (.slice elem)) (hsz:(P.info? elem).map (·.size)=some 1)
 (T:TypeId) (K:IntKind) (g D Dc:Nat) (L:List Nat) (hg:Arr T K w g L) (p:Option Addr) (N pc B:Nat) (A:List Nat) (hd:act.eval d=.slice (some ⟨g,0,none⟩) D Dc) (hs:act.eval s=.slice p N pc)
 (hr:RdI K w B p A) (hA:A.length=N) (hN:N<=D) (hD:D<=L.length)
 (h:∀w',Arr T K w' g (A++L.drop N)->Q0n (fun k=>k=g) w w'->wpList P ops Q rest (act.put o.dst (goInt N)) w'):wpList P ops Q (o::rest) act w:=by
 rcases hr with rfl|⟨b,off,rfl,hb,hc⟩
 ·obtain rfl:N=0:=hA.symm
  refine wpList_copy_nothing hgd d s dT sT ho elem hu hsz _ p D Dc 0 pc hd hs (by simp) ?_
  exact h w (by simpa using hg) (Q0n.refl _ w)
 ·have hmin:Nat.min N D=N:=Nat.min_eq_left hN
  refine wpList_copy_own hgd d s dT sT ho elem hu hsz g 0 D Dc ⟨b,off,none⟩ N pc hd hs _ T hg (A.map (nv K)) (by rw[List.length_map,hA,hmin]) (fun j v hv=>?_) (by simp;omega) (Qnr K A) ?_
  ·rw[List.getElem?_map] at hv
   cases hx:A[j]? with
   |none=>rw[hx] at hv;cases hv
   |some x=>
    rw[hx] at hv
    simp only[Option.map_some,Option.some.injEq] at hv
    subst hv
    rw[show (⟨b,off,none⟩:Addr).add j=⟨b,off+j,none⟩ by unfold Addr.add;split <;> simp_all]
    exact hc j x hx
  ·rw[List.length_map,hA]
   refine h _ ?_ ⟨rfl,rfl,rfl,by simp[World.setRow],fun k _ hk=>setRow_other w g k _ hk⟩
   unfold Arr
   rw[setRow_heap w g _ _ T _ hg]
   simp
end Go.Proofs.YtdilmfakkppgpaaGreatDoor
