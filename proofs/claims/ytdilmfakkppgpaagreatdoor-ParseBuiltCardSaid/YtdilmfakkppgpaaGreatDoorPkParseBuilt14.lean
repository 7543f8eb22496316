/- Part 14 of the proof of LawParseBuilt: PolyF, PolyG, PolyH, LinesM. Condition: as each theorem says; none at the end. -/
import Derived.DeepKeys4
import Derived.Maps.Keyed
import Derived.Maps.OwnSet
import Derived.Maps.Views
import Derived.Test.YtdilmfakkppgpaaGreatDoorPkParseBuilt13
set_option maxRecDepth 100000
set_option maxHeartbeats 16000000
namespace Go.Proofs.YtdilmfakkppgpaaGreatDoor
open Go.RowKit WordsM
theorem Qw6 {E:List Int} (h:∀x∈E,0<=x):0<=E.sum:=by
 induction E with
 |nil=>simp
 |cons a t ih=>
  rw[List.sum_cons];have h1:=h a (by simp);have h2:=ih fun x hx=>h x (by simp[hx]);omega
theorem Qqw {E:List Int} (h:∀x∈E,0<=x) {x:Int} (hx:x∈E):x<=E.sum:=by
 induction E with
 |nil=>cases hx
 |cons a t ih=>
  rw[List.sum_cons];have h1:=h a (by simp);have h2:0<=t.sum:=Qw6 (E:=t) (fun z hz=>h z (Xau _ hz));rcases UF.1 hx with e|hx
  ·omega
  ·have h3:=ih (fun z hz=>h z (Xau _ hz)) hx;omega
structure Qka (W2 w:World) (v g:Nat) (v0 v1 v2 v3:Value) (T:TypeId) (m c:Nat) (xs:LV):Prop where
 box:Q38 w v v0 v1 v2 v3
 row:Row w W2.heap.size T 1 (some ⟨g,0,none⟩) m c xs
 below:Bw W2 w
 lo:W2.heap.size<=v
 ne:v≠g
 hi:v<w.heap.size
theorem Q38.far {w:World} {b:Nat} {v0 v1 v2 v3:Value} (h:Q38 w b v0 v1 v2 v3) {p:Addr} (hp:p.block≠b) (u:Value):Q38 (w.setCell p u) b v0 v1 v2 v3:=
 ⟨(Uc _ _ _ _ (fun e=>hp (by rw[e]))).trans h.c0,(Uc _ _ _ _ (fun e=>hp (by rw[e]))).trans h.c1,(Uc _ _ _ _ (fun e=>hp (by rw[e]))).trans h.c2,(Uc _ _ _ _ (fun e=>hp (by rw[e]))).trans h.c3,(Uh _ _ _ _).trans h.f0,(Uh _ _ _ _).trans h.f1,(Uh _ _ _ _).trans h.f2,(Uh _ _ _ _).trans h.f3⟩
theorem Q38.set0 {w:World} {b:Nat} {v0 v1 v2 v3:Value} (h:Q38 w b v0 v1 v2 v3) (u:Value):Q38 (w.setCell ⟨b,0,none⟩ u) b u v1 v2 v3:=
 ⟨UE _ _ _ (by rw[h.c0];rfl),(Uc _ _ _ _ (by simp)).trans h.c1,(Uc _ _ _ _ (by simp)).trans h.c2,(Uc _ _ _ _ (by simp)).trans h.c3,(Uh _ _ _ _).trans h.f0,(Uh _ _ _ _).trans h.f1,(Uh _ _ _ _).trans h.f2,(Uh _ _ _ _).trans h.f3⟩
theorem Q38.set1 {w:World} {b:Nat} {v0 v1 v2 v3:Value} (h:Q38 w b v0 v1 v2 v3) (u:Value):Q38 (w.setCell ⟨b,1,none⟩ u) b v0 u v2 v3:=
 ⟨(Uc _ _ _ _ (by simp)).trans h.c0,UE _ _ _ (by rw[h.c1];rfl),(Uc _ _ _ _ (by simp)).trans h.c2,(Uc _ _ _ _ (by simp)).trans h.c3,(Uh _ _ _ _).trans h.f0,(Uh _ _ _ _).trans h.f1,(Uh _ _ _ _).trans h.f2,(Uh _ _ _ _).trans h.f3⟩
theorem Q38.set2 {w:World} {b:Nat} {v0 v1 v2 v3:Value} (h:Q38 w b v0 v1 v2 v3) (u:Value):Q38 (w.setCell ⟨b,2,none⟩ u) b v0 v1 u v3:=
 ⟨(Uc _ _ _ _ (by simp)).trans h.c0,(Uc _ _ _ _ (by simp)).trans h.c1,UE _ _ _ (by rw[h.c2];rfl),(Uc _ _ _ _ (by simp)).trans h.c3,(Uh _ _ _ _).trans h.f0,(Uh _ _ _ _).trans h.f1,(Uh _ _ _ _).trans h.f2,(Uh _ _ _ _).trans h.f3⟩
theorem Q38.set3 {w:World} {b:Nat} {v0 v1 v2 v3:Value} (h:Q38 w b v0 v1 v2 v3) (u:Value):Q38 (w.setCell ⟨b,3,none⟩ u) b v0 v1 v2 u:=
 ⟨(Uc _ _ _ _ (by simp)).trans h.c0,(Uc _ _ _ _ (by simp)).trans h.c1,(Uc _ _ _ _ (by simp)).trans h.c2,UE _ _ _ (by rw[h.c3];rfl),(Uh _ _ _ _).trans h.f0,(Uh _ _ _ _).trans h.f1,(Uh _ _ _ _).trans h.f2,(Uh _ _ _ _).trans h.f3⟩
theorem Q38.store {w:World} {b:Nat} {v0 v1 v2 v3:Value} (h:Q38 w b v0 v1 v2 v3) (u0 u1 u2 u3:Value):Q38 ((((w.setCell ⟨b,0,none⟩ u0).setCell ⟨b,1,none⟩ u1).setCell ⟨b,2,none⟩ u2).setCell ⟨b,3,none⟩ u3) b u0 u1 u2 u3:=(((h.set0 u0).set1 u1).set2 u2).set3 u3
theorem Qxi {W2 w3:World} {B g m c:Nat} {T:TypeId} {xs:LV} (hB:W2.heap.size<=B) (h:Row w3 B T 1 (some ⟨g,0,none⟩) m c xs) (hb:Bw W2 w3) (v0 v1 v2 v3:Value) (T2:TypeId):
 Qka W2 (w3.alloc (.cells #[v0,v1,v2,v3] T2)) w3.heap.size g v0 v1 v2 v3 T m c xs:=
 ⟨Q38.new w3 v0 v1 v2 v3 T2,(h.lower hB).alloc _,hb.alloc hb.size _,hb.size,by have:=h.fresh;omega,by rw[Uo];omega⟩
theorem Qxj {W2 w3:World} {B g m c:Nat} {T:TypeId} {xs:LV} {v0 v1 v2 v3:Value} (hB:W2.heap.size<B) (h:Row w3 B T 1 (some ⟨g,0,none⟩) m c xs) (hb:Bw W2 w3) (hm:Q38 w3 W2.heap.size v0 v1 v2 v3) (u0 u1 u2 u3:Value):
 Qka W2 ((((w3.setCell ⟨W2.heap.size,0,none⟩ u0).setCell ⟨W2.heap.size,1,none⟩ u1).setCell ⟨W2.heap.size,2,none⟩ u2).setCell ⟨W2.heap.size,3,none⟩ u3) W2.heap.size g u0 u1 u2 u3 T m c xs:=by
 have hg:=h.fresh;have far:∀(w:World) (o:Nat) (u:Value),Row w W2.heap.size T 1 (some ⟨g,0,none⟩) m c xs->Row (w.setCell ⟨W2.heap.size,o,none⟩ u) W2.heap.size T 1 (some ⟨g,0,none⟩) m c xs:=fun w o u h=>h.far (fun x hx=>by injection hx with hx;subst hx;show g≠W2.heap.size;omega) u;exact ⟨hm.store u0 u1 u2 u3,far _ 3 _ (far _ 2 _ (far _ 1 _ (far _ 0 _ (h.lower (TI hB))))),(((hb.setCell (Ug _) _).setCell (Ug _) _).setCell (Ug _) _).setCell (Ug _) _,Ug _,by omega,by simp only[UV];omega⟩
theorem Qka.put {W2 w:World} {v g m c:Nat} {T:TypeId} {Z:List Int} {v0 v1 v2 v3:Value} (h:Qka W2 w v g v0 v1 v2 v3 T m c (Z.map zv)) (i:Nat) (u:Int):
 Qka W2 (w.setCell ⟨g,i,none⟩ (.int .i64 u)) v g v0 v1 v2 v3 T m c ((Z.set i u).map zv):=by
 refine ⟨h.box.far (p:=⟨g,i,none⟩) (fun e=>h.ne e.symm) _,?_,h.below.setCell h.row.fresh.1 _,h.lo,h.ne,by rw[UV];exact h.hi⟩;rw[List.map_set];exact h.row.set0 i _
theorem Qw7 {Ex Ey Z:List Int} {i k:Nat} {x y:Int} (hZ:Z.length=k) (hik:i<k) (h:∀(j:Nat) (x y:Int),Ex[j]?=some x->Ey[j]?=some y->Z[j]?=some (if j<i then x+y else x)) (hx:Ex[i]?=some x) (hy:Ey[i]?=some y):
 ∀(j:Nat) (x' y':Int),Ex[j]?=some x'->Ey[j]?=some y'->(Z.set i (x+y))[j]?=some (if j<i+1 then x'+y' else x'):=by
 intro j x' y' Qt hy'
 by_cases e:j=i
 ·subst e;rw[hx] at Qt;rw[hy] at hy';cases Qt;cases hy';rw[TN (by omega),Us (TB _)]
 ·rw[Tj (fun h=>e h.symm),h j x' y' Qt hy']
  by_cases hl:j<i
  ·rw[Us hl,Us (by omega)]
  ·rw[Uq hl,Uq (by omega)]
theorem WordsIn.set4 {w:World} {a:OA} {n c b:Nat} {L:LN} {b0:Bool} {e0:Int} {a0 a1:OA} {n0 c0 n1 c1:Nat} (h:WordsIn w a n c L) (hM:Q38 w b (.bool b0) (.int .i64 e0) (.slice a0 n0 c0) (.slice a1 n1 c1)) (u0 u1 u2 u3:Value):
 WordsIn ((((w.setCell ⟨b,0,none⟩ u0).setCell ⟨b,1,none⟩ u1).setCell ⟨b,2,none⟩ u2).setCell ⟨b,3,none⟩ u3) a n c L:=
 (((h.set1 hM.c0 (fun _=>by simp[nv]) u0).set1 (hM.set0 u0).c1 (fun _=>by simp[nv]) u1).set1 ((hM.set0 u0).set1 u1).c2 (fun _=>by simp[nv]) u2).set1 (((hM.set0 u0).set1 u1).set2 u2).c3 (fun _=>by simp[nv]) u3
theorem Qw8 {Ex Ey Z:List Int} {k:Nat} (r1:Q14 k Ex) (r2:Q14 k Ey) (hZ:Z.length=k) (h:∀(j:Nat) (x y:Int),Ex[j]?=some x->Ey[j]?=some y->Z[j]?=some (if j<k then x+y else x)):Z=List.zipWith (·+·) Ex Ey:=by
 apply List.ext_getElem?
 intro j
 by_cases hj:j<k
 ·have hx:=Ub (l:=Ex) (i:=j) (by rw[r1.1];exact hj);have hy:=Ub (l:=Ey) (i:=j) (by rw[r2.1];exact hj);rw[h j _ _ hx hy,Us hj,List.getElem?_zipWith,hx,hy]
 ·rw[Tk (by omega),Tk (by rw[Xbs,r1.1,r2.1];omega)]
theorem Row.far4 {w:World} {B g m c r:Nat} {T:TypeId} {xs:LV} (h:Row w B T 1 (some ⟨g,0,none⟩) m c xs) (C1:g≠r) (u0 u1 u2 u3:Value):Row ((((w.setCell ⟨r,0,none⟩ u0).setCell ⟨r,1,none⟩ u1).setCell ⟨r,2,none⟩ u2).setCell ⟨r,3,none⟩ u3) B T 1 (some ⟨g,0,none⟩) m c xs:=by
 have far:∀(w:World) (o:Nat) (u:Value),Row w B T 1 (some ⟨g,0,none⟩) m c xs->Row (w.setCell ⟨r,o,none⟩ u) B T 1 (some ⟨g,0,none⟩) m c xs:=fun w o u h=>h.far (fun x hx=>by injection hx with hx;subst hx;exact C1) u;exact far _ 3 _ (far _ 2 _ (far _ 1 _ (far _ 0 _ h)))
theorem Qqx {k:Nat} {Ex Ey:List Int} (r1:Q14 k Ex) (r2:Q14 k Ey):∀x∈List.zipWith (·+·) Ex Ey,-9223372036854775808<=x/\x<=9223372036854775807:=by
 intro x hx;have h0:=Qk4 Ex Ey r1.2.1 r2.2.1;have h1:=Qqw h0 hx;rw[Qk3 _ _ (r1.1.trans r2.1.symm)] at h1;have h2:=h0 x hx;have:=r1.2.2;have:=r2.2.2;omega
theorem Qkb (nx:Bool) (ex:Int) (ax:OA) (lx cx:Nat) (ls:LN) (bx:OA) (mx dx:Nat) (Ex:List Int) (ny:Bool) (ey:Int) (ay:OA) (ly cy:Nat) (ks:LN) (bY:OA) (my dy':Nat) (Ey:List Int) (k:Nat) (w:World)
 (h1:WordsIn w ax lx cx ls) (g1:Q0j w bx mx dx Ex) (h2:WordsIn w ay ly cy ks) (g2:Q0j w bY my dy' Ey) (i1:Q0i nx ex ls) (i2:Q0i ny ey ks) (r1:Q14 k Ex) (r2:Q14 k Ey) (hk:1<=k) (N9:k<=4) (hT:Q2n w):
 Calls Tryz.prog 170 #[.agg #[.bool nx,.int .i64 ex,.slice ax lx cx,.slice bx mx dx],.agg #[.bool ny,.int .i64 ey,.slice ay ly cy,.slice bY my dy']] w fun r w'=>
  ∃n' e' a' l' c' L er be le ce,r=.returned (.tuple #[.agg #[.bool n',.int .i64 e',.slice a' l' c',.slice be le ce],.int .i64 er])/\Qlm (Q28 nx ex ls*Q28 ny ey ks) n' e' L er/\Q2m w w' a' l' c' L/\Q0j w' be le ce (List.zipWith (·+·) Ex Ey)/\(∃g,be=some ⟨g,0,none⟩/\w.heap.size<=g)/\Bw w w':=by
 obtain ⟨BX,hBX⟩:∃o:Obj,o=.cells #[.bool nx,.int .i64 ex,.slice ax lx cx,.slice bx mx dx] 44:=⟨_,rfl⟩;obtain ⟨BY,hBY⟩:∃o:Obj,o=.cells #[.bool ny,.int .i64 ey,.slice ay ly cy,.slice bY my dy'] 44:=⟨_,rfl⟩;obtain ⟨BR,hBR⟩:∃o:Obj,o=.cells #[.bool false,.int .i64 0,.slice none 0 0,.slice none 0 0] 44:=⟨_,rfl⟩;have B2:(w.alloc BX).heap.size=w.heap.size+1:=Uo _ _;have X6:((w.alloc BX).alloc BY).heap.size=w.heap.size+2:=by rw[Uo,B2]
 have y6:(((w.alloc BX).alloc BY).alloc BR).heap.size=w.heap.size+3:=by rw[Uo,X6]
 have C0:Bw w (w.alloc BX):=Ba;have D0:Below (w.alloc BX).heap.size (w.alloc BX) ((w.alloc BX).alloc BY):=Ba;have G0:Below ((w.alloc BX).alloc BY).heap.size ((w.alloc BX).alloc BY) (((w.alloc BX).alloc BY).alloc BR):=Ba;have hX:Q38 (((w.alloc BX).alloc BY).alloc BR) w.heap.size (.bool nx) (.int .i64 ex) (.slice ax lx cx) (.slice bx mx dx):=by
  have h:=((Q38.new w (.bool nx) (.int .i64 ex) (.slice ax lx cx) (.slice bx mx dx) 44).step (by rw[<-hBX];exact D0) (by rw[B2];omega)).step G0 (by rw[X6];omega);exact h
 have hY:Q38 (((w.alloc BX).alloc BY).alloc BR) (w.heap.size+1) (.bool ny) (.int .i64 ey) (.slice ay ly cy) (.slice bY my dy'):=by
  have h:=Q38.new (w.alloc BX) (.bool ny) (.int .i64 ey) (.slice ay ly cy) (.slice bY my dy') 44;rw[B2,<-hBY] at h;exact h.step G0 (by rw[X6];omega)
 have hR:Q38 (((w.alloc BX).alloc BY).alloc BR) (w.heap.size+2) (.bool false) (.int .i64 0) (.slice none 0 0) (.slice none 0 0):=by
  have h:=Q38.new ((w.alloc BX).alloc BY) (.bool false) (.int .i64 0) (.slice none 0 0) (.slice none 0 0) 44;rw[X6,<-hBR] at h;exact h
 have hB:=Below.next0 (Below.next0 C0 D0) G0;subst hBX;subst hBY;subst hBR;generalize I3:((w.alloc (.cells #[.bool nx,.int .i64 ex,.slice ax lx cx,.slice bx mx dx] 44)).alloc (.cells #[.bool ny,.int .i64 ey,.slice ay ly cy,.slice bY my dy'] 44)).alloc (.cells #[.bool false,.int .i64 0,.slice none 0 0,.slice none 0 0] 44)=W0 at y6 hX hY hR hB;obtain ⟨x0,x1,x2,x3,_,_,_,_⟩:=id hX;obtain ⟨y0,y1,y2,y3,_,_,_,_⟩:=id hY;have q7:=Qne nx ex ax lx cx ls ny ey ay ly cy ks W0 (h1.step hB) (h2.step hB) i1 i2 (hT.step hB);have HC:=Xh6 hX hY hR hB q7 y6;have HG:=Xh2 g1 g2;clear B2 X6 y6 C0 D0 G0 hX hY hR hB q7 hT h1 h2 i1 i2 g1 g2
 go_enter Tryz.func170,Tryz.ntmps170
 go_upto_region 2 with (refine (Xo4 HC).mono ?_;rintro r w1 ⟨n',e',a',l',c',L,er,rfl,d6,S1,C0⟩;have HA:=Xh3 d6 S1 C0;clear d6 S1 C0)
 have T4:Bw w1 (w1.alloc (.cells #[.bool n',.int .i64 e',.slice a' l' c'] 41)):=Ba;have hN6:=Q02.new w1 (.bool n') (.int .i64 e') (.slice a' l' c') 41;have hl6:=Q0r w1 (.cells #[.bool n',.int .i64 e',.slice a' l' c'] 41);generalize J7:w1.alloc (.cells #[.bool n',.int .i64 e',.slice a' l' c'] 41)=W2 at T4 hN6 hl6;have Xb:=Below.next0 (Xe2 HA) T4;have S2:=(Xo0 HC).step Xb (by have:=(Xe5 HC);omega);have hY2:=(Xo1 HC).step Xb (by have:=(Xe5 HC);omega);have QJ:=(Xo2 HC).step Xb (by have:=(Xe5 HC);omega);have hEx0:Ex≠[]:=fun e=>by have:=r1.1;rw[e] at this;simp at this;omega
 have hmx:mx=k:=by rw[<-(Xo0 HG).len];exact r1.1
 have O3:=fun W (hW:Bw W2 W)=>Qas bx mx dx Ex W ((Xo0 HG).step (Below.next0 (Below.next0 (Xo3 HC) Xb) hW)) hEx0 (by omega);have Kt:=Xh6 S2 hY2 QJ Xb hN6 hl6;have HCL:=Ua O3;have n0:W2.drew.cell? ⟨w1.heap.size,0,none⟩=some (.bool n'):=hN6.c0;have n1:W2.drew.cell? ⟨w1.heap.size,1,none⟩=some (.int .i64 e'):=hN6.c1;have n2:W2.drew.cell? ⟨w1.heap.size,2,none⟩=some (.slice a' l' c'):=hN6.c2;have p3:W2.drew.cell? ⟨w.heap.size,3,none⟩=some (.slice bx mx dx):=S2.c3;have V5:=Below.next0 ((Uf W2.heap.size W2).alloc (Ug _) (.cells #[.bool false,.int .i64 0,.slice none 0 0,.slice none 0 0] 44)) (Q05 _);have hNa:=hN6.step V5 hl6;have hXa:=S2.step V5 (by have:=(Xe5 HC);have:=Xb.size;omega);have na0:=hNa.c0;have na1:=hNa.c1;have na2:=hNa.c2;have pa3:=hXa.c3;clear V5 hNa hXa S2 hY2 QJ Xb T4 O3 hN6 hl6 x0 x1 x2 x3 y0 y1 y2 y3 hmx hEx0
 go_cut [8] (fun s8 wx=>∃v g c3,s8=.pointer (some ⟨v,0,none⟩)/\Qka W2 wx v g (.bool n') (.int .i64 e') (.slice a' l' c') (.slice (some ⟨g,0,none⟩) mx c3) 3 mx c3 (Ex.map zv))
 case first=>
  go_region_law (
   refine Q2y (by rfl) 137 #[.slice bx mx dx] (by simp[go_sem]) ?_;refine (HCL.out _ ?_).mono ?_
   (first|exact Q05 W2|exact Below.next0 ((Uf W2.heap.size W2).alloc (Ug _) _) (Q05 _)|exact (Uf W2.heap.size W2).alloc (Ug _) _|exact Below.next0 (Q05 W2) (Ba))
   rintro r w3 ⟨g,c3,rfl,I0,G0⟩;refine ⟨_,rfl,?_⟩;have E3:Bw W2 w3:=by
    first
     |exact Below.next0 (Q05 W2) G0
     |exact Below.next0 ((Uf W2.heap.size W2).alloc (Ug _) _) G0
     |exact Below.next0 (Below.next0 ((Uf W2.heap.size W2).alloc (Ug _) _) (Q05 _)) G0
     |exact Below.next0 (Below.next0 (Q05 W2) (Ba)) G0
   have hN:=(Xo4 Kt).step E3 (Xe5 Kt);have m0:w3.cell? ⟨w1.heap.size,0,none⟩=some (.bool n'):=hN.c0;have m1:w3.cell? ⟨w1.heap.size,1,none⟩=some (.int .i64 e'):=hN.c1;have m2:w3.cell? ⟨w1.heap.size,2,none⟩=some (.slice a' l' c'):=hN.c2
   (first
     |(have hM:=((Q38.new W2 (.bool false) (.int .i64 0) (.slice none 0 0) (.slice none 0 0) 44).step (Q05 _) (by rw[Uo];exact TB _)).step G0 (by show _<(World.alloc _ _).heap.size;rw[Uo];exact TB _)
       have o0:=hM.c0;have o1:=hM.c1;have o2:=hM.c2;have o3:=hM.c3;have u0:=hM.f0;have u1:=hM.f1;have u2:=hM.f2;have u3:=hM.f3;clear hM)
     |skip)
   have hNw:=hN.step ((Uf w3.heap.size w3).alloc (Ug _) (.cells #[.bool false,.int .i64 0,.slice none 0 0,.slice none 0 0] 44)) (Ue (Xe5 Kt) E3.size);have mm0:=hNw.c0;have mm1:=hNw.c1;have mm2:=hNw.c2;have HZ:=Xh3 I0 G0 E3;clear I0 G0 E3 hN hNw)
  all_goals go_wp2_with fail
  all_goals go_meet
  all_goals first
   |(have hh:=Qxi (W2:=W2) (B:=W2.drew.heap.size) (Ug W2.heap.size) (Xo0 HZ) (Xe2 HZ) (.bool n') (.int .i64 e') (.slice a' l' c') (.slice (some ⟨g,0,none⟩) mx c3) 44
     exact ⟨w3.heap.size,g,c3,rfl,hh⟩)
   |(have hh:=Qxj (W2:=W2) (B:=(W2.alloc (.cells #[.bool false,.int .i64 0,.slice none 0 0,.slice none 0 0] 44)).drew.heap.size) (by show _<(W2.alloc _).heap.size;rw[Uo];exact TB _) (Xo0 HZ) (Xe2 HZ) ⟨o0,o1,o2,o3,u0,u1,u2,u3⟩ (.bool n') (.int .i64 e') (.slice a' l' c') (.slice (some ⟨g,0,none⟩) mx c3)
     exact ⟨W2.heap.size,g,c3,rfl,hh⟩)
 case rest=>
  obtain ⟨v,g,c3,rfl,hP⟩:=hcut;have hYc:=(Xo1 Kt).step hP.below (by have:=(Xe5 HC);have:=(Xo3 Kt).size;omega);have y3:=hYc.c3;have hmy:my=k:=by rw[<-(Xe1 HG).len];exact r2.1
  have hgy:=(Xe1 HG).step (Below.next0 (Below.next0 (Xo3 HC) (Xo3 Kt)) hP.below);have HP:=Xh3 hP hgy hmy;clear hP hYc hgy hmy n0 n1 n2 p3 na0 na1 na2 pa3
  go_wp2_with fail
  go_loopw [27] (fun iv wr=>∃(i:Nat) (Z:List Int),iv=.int .i64 (i:Int)/\i<=k/\Z.length=k/\(∀j x y,Ex[j]?=some x->Ey[j]?=some y->Z[j]?=some (if j<i then x+y else x))/\Qka W2 wr v g (.bool n') (.int .i64 e') (.slice a' l' c') (.slice (some ⟨g,0,none⟩) mx c3) 3 mx c3 (Z.map zv)/\wr.heap.size=wc.heap.size/\Bw W2 wr) (fun iv _=>k-(intOf iv).toNat)
  case atStart=>
   refine ⟨0,Ex,rfl,Uu _,r1.1,fun j x y hx _=>by simp[hx],(Xo0 HP),rfl,(Xo0 HP).below⟩
  case round=>
   obtain ⟨i,Z,rfl,hi,hZ,A5,hQ,Z1,N0⟩:=hrel
   by_cases B0:i<my
   ·have hik:i<k:=(by have:=(Xe2 HP);omega);have E0:(i:Int)<(my:Int):=(by omega);have hmx':(i:Int)<(mx:Int):=(by have h:=(Xo0 HG).len;have h2:=r1.1;omega);obtain ⟨y,hy⟩:∃y,Ey[i]?=some y:=⟨_,Ub (by have:=r2.1;omega)⟩;obtain ⟨x,hx⟩:∃x,Ex[i]?=some x:=⟨_,Ub (by have:=r1.1;omega)⟩;obtain ⟨ba,oa,N6,V5,y9⟩:=((Xe1 HG).step (Below.next0 (Below.next0 (Xo3 HC) (Xo3 Kt)) hQ.below)).rd.at_ hy;subst N6;have hzx:Z[i]?=some x:=(by have h:=A5 i x y hx hy;simpa using h);have b3:=hQ.box.c3;have E6:wr.cell? ⟨g,i,none⟩=some (.int .i64 x):=hQ.row.cell0 (by rw[UT,hzx];rfl);have Zv:=hQ.row.frozen0 i;have M5:=Qqw r1.2.1 (Ud hx);have hy8:=Qqw r2.2.1 (Ud hy);have y5:=r1.2.1 x (Ud hx);have JV:=r2.2.1 y (Ud hy);have Q2:IntKind.i64.wrap (x+y)=x+y:=(by rw[Ut];have:=r1.2.2;have:=r2.2.2;omega);have HI:=Xh7 hZ A5 hQ Z1 N0 hx hy;clear hZ A5 hQ Z1 N0 M5 hy8 y5 JV hzx
    go_wp2_with fail
    exact ⟨⟨i+1,Z.set i (x+y),by simp,by omega,by rw[Xbk];exact (Xo0 HI),Qw7 (Xo0 HI) hik (Xo1 HI) (Xo5 HI) (Xe6 HI),(Xo2 HI).put i (x+y),by rw[UV];exact (Xo3 HI),((Xo2 HI).put i (x+y)).below⟩,by simp only[intOf];omega⟩
   ·have hik:i=k:=(by have:=(Xe2 HP);omega);have E0:¬((i:Int)<(my:Int)):=(by omega);have b0:=hQ.box.c0;have b1:=hQ.box.c1;have b2:=hQ.box.c2;have b3:=hQ.box.c3;have hR:=(Xo2 Kt).step hQ.below (by have:=(Xe5 HC);have:=(Xo3 Kt).size;omega);have q0:=hR.c0;have q1:=hR.c1;have q2:=hR.c2;have q3:=hR.c3;have t0:=hR.f0;have t1:=hR.f1;have t2:=hR.f2;have t3:=hR.f3;have HI:=Xh7 hik hZ A5 hQ Z1 N0 hR;clear hik hZ A5 hQ Z1 N0 hR
    go_wp2_with fail
    have U5:Q38 wr (w.heap.size+1+1) (.bool false) (.int .i64 0) (.slice none 0 0) (.slice none 0 0):=(Xe6 HI);have hV:=U5.store (.bool n') (.int .i64 e') (.slice a' l' c') (.slice (some ⟨g,0,none⟩) mx c3);have k0:=hV.c0;have k1:=hV.c1;have k2:=hV.c2;have k3:=hV.c3;have y8:Bw w1 W2:=(by rw[<-J7];exact Ba);have hw:=((Xo1 HA).step (Below.next0 y8 (Xo3 HI).below)).set4 U5 (.bool n') (.int .i64 e') (.slice a' l' c') (.slice (some ⟨g,0,none⟩) mx c3);have N0:=((((Below.next0 (Below.next0 (Xo3 HC) (Xo3 Kt)) (Xo3 HI).below).setCell (p:=⟨w.heap.size+1+1,0,none⟩) (by show w.heap.size<=w.heap.size+1+1;omega) (.bool n')).setCell (p:=⟨w.heap.size+1+1,1,none⟩) (by show w.heap.size<=w.heap.size+1+1;omega) (.int .i64 e')).setCell (p:=⟨w.heap.size+1+1,2,none⟩) (by show w.heap.size<=w.heap.size+1+1;omega) (.slice a' l' c')).setCell (p:=⟨w.heap.size+1+1,3,none⟩) (by show w.heap.size<=w.heap.size+1+1;omega) (.slice (some ⟨g,0,none⟩) mx c3);refine ⟨rfl,.tuple #[.agg #[.bool n',.int .i64 e',.slice a' l' c',.slice (some ⟨g,0,none⟩) mx c3],.int .i64 er],by simp[results,go_sem,k0,k1,k2,k3],?_⟩;have Zf:Q0j ((((wr.setCell ⟨w.heap.size+1+1,0,none⟩ (.bool n')).setCell ⟨w.heap.size+1+1,1,none⟩ (.int .i64 e')).setCell ⟨w.heap.size+1+1,2,none⟩ (.slice a' l' c')).setCell ⟨w.heap.size+1+1,3,none⟩ (.slice (some ⟨g,0,none⟩) mx c3)) (some ⟨g,0,none⟩) mx c3 (List.zipWith (fun a b=>a+b) Ex Ey):=by
     have hgne:g≠w.heap.size+1+1:=by
      have h1:=(Xe5 HC);have h2:=(Xo3 Kt).size;have h3:=(Xo3 HI).row.fresh.1;omega
     have hZe:Z=List.zipWith (fun a b=>a+b) Ex Ey:=Qw8 r1 r2 (Xo1 HI) (by have h:=(Xo2 HI);rwa[(Xo0 HI)] at h);have I0:=(Xo3 HI).row.far4 hgne (.bool n') (.int .i64 e') (.slice a' l' c') (.slice (some ⟨g,0,none⟩) mx c3);rw[hZe] at I0;exact I0.ints (Qqx r1 r2)
    have L7:w.heap.size<=g:=Ur (Below.next0 (Xo3 HC) (Xo3 Kt)).size (Xo3 HI).row.fresh.1;cases n' with
    |false=>exact .inl ⟨e',a',l',c',L,er,_,_,_,rfl,(Xo0 HA),((Xo1 HA).lower (Xo3 HC).size).on hw,Zf,⟨g,rfl,L7⟩,N0⟩
    |true=>exact .inr ⟨e',a',l',c',L,er,_,_,_,rfl,(Xo0 HA),((Xo1 HA).lower (Xo3 HC).size).on hw,Zf,⟨g,rfl,L7⟩,N0⟩
end Go.Proofs.YtdilmfakkppgpaaGreatDoor
namespace Go.Proofs.YtdilmfakkppgpaaGreatDoor
open Go.RowKit Go.Maps WordsM Go.ChangeShapes Go.WideShapes
theorem Qqy:laidOutB Tryz.prog=true:=by kernel_rfl
theorem Qvh:(182:TypeId)<Tryz.prog.types.size:=Xab (by kernel_rfl)
theorem Qw9:(match Tryz.prog.underlying 182 with|some (.array _ _)|some (.struct _)=>true|_=>false)=true:=by kernel_rfl
theorem Qxk:Go.WideMaps.KeyLaw Tryz.prog 182:=deep_law_laid Qqy (m:=3) (Nat.le_of_ble_eq_true rfl) Qvh (by kernel_rfl) Qw9
theorem Qhi:Keyed Tryz.prog 182:=Keyed.of_law Qxk
theorem Qm1:Tryz.prog.underlying 182=some (.array 4 3):=by kernel_rfl
theorem Qtp:Tryz.prog.underlying 3=some (.int .i64):=by kernel_rfl
theorem Qqz:Tryz.prog.underlying 179=some (.map 182 3):=by kernel_rfl
theorem Qwa:Tryz.prog.keyType 182=true:=by kernel_rfl
theorem Qm2:Tryz.prog.cellsOf 182=4:=by kernel_rfl
theorem Qtq:Tryz.prog.cellsOf 3=1:=by kernel_rfl
theorem Qwb (w:World):(zeroValue 3).run Tryz.prog w=.ok (.int .i64 0) w:=by kernel_rfl
theorem Qtr:∀(k n:Nat),k<n->∃m,n=m+1:=fun k n h=>⟨n-1,by omega⟩
theorem Qxl:∃m,Tryz.prog.types.size=m+1:=Qtr _ _ Qvh
def Qsx (a b c d:Int):Value:=.agg #[.int .i64 a,.int .i64 b,.int .i64 c,.int .i64 d]
def small (x:Int):Prop:= -9223372036854775808<=x/\x<=9223372036854775807
theorem Qts {x:Int} (h:small x):(Lit.int .i64 x).wf=true:=by
 unfold small at h;have h1:IntKind.i64.min= -9223372036854775808:=rfl;have h2:IntKind.i64.max=9223372036854775807:=rfl;simp[Lit.wf,h1,h2];omega
theorem Q5t {m:Nat} {x:Int} (h:small x):Tryz.prog.keyLits (m+1) 3 [.int .i64 x]=some [.int .i64 x]:=by
 unfold Program.keyLits;rw[Qtp];simp[Qts h]
theorem Qkc {a b c d:Int} (ha:small a) (hb:small b) (hc:small c) (hd:small d):∃l,keyOf Tryz.prog 182 (Qsx a b c d)=some l:=by
 unfold keyOf;rw[Qm1,Qwa];have hf:(Qsx a b c d).formed Tryz.prog 182=true:=by
  simp[Value.formed,Qsx,Qm2]
 simp only[hf,Bool.and_self,Xa5];obtain ⟨m,hm⟩:=Qxl;rw[hm];have hk:Tryz.prog.keyLits (m+1+1) 182 (Qsx a b c d).cells.toList=some ([[Lit.int .i64 a],[.int .i64 b],[.int .i64 c],[.int .i64 d]].flatten):=by
  unfold Program.keyLits;rw[Qm1];have O3:(Qsx a b c d).cells.toList=[.int .i64 a,.int .i64 b,.int .i64 c,.int .i64 d]:=by simp[Qsx,Value.cells]
  rw[O3];simp[Qm2,Qtq,List.range,List.range.loop,Q5t ha,Q5t hb,Q5t hc,Q5t hd]
 rw[hk];exact ⟨_,rfl⟩
theorem Qtt {a b c d a' b' c' d':Int} (h:Qsx a b c d=Qsx a' b' c' d'):a=a'/\b=b'/\c=c'/\d=d':=by
 unfold Qsx at h;injection h with h;simpa using h
abbrev P4:=Int × Int × Int × Int
def P4.v (q:P4):Value:=Qsx q.1 q.2.1 q.2.2.1 q.2.2.2
def P4.ok (q:P4):Prop:=small q.1/\small q.2.1/\small q.2.2.1/\small q.2.2.2
theorem P4.key {q:P4} (h:q.ok):∃l,keyOf Tryz.prog 182 q.v=some l:=Qkc h.1 h.2.1 h.2.2.1 h.2.2.2
theorem P4.inj {q r:P4} (h:q.v=r.v):q=r:=by
 obtain ⟨a,b,c,d⟩:=q;obtain ⟨a',b',c',d'⟩:=r;obtain ⟨h1,h2,h3,h4⟩:=Qtt h;simp only at h1 h2 h3 h4;subst h1;subst h2;subst h3;subst h4;rfl
def Qxm (v:Value):Option (DataW Value × List MemPlace):=some (.held v,[])
def Q4v (w:World) (b n:Nat) (g:P4->Option Nat):Prop:=
 ∃D,w.ownsMap Tryz.prog 182 Qxm b n D/\∀q l,q.ok->keyOf Tryz.prog 182 q.v=some l->Maps.has D l=(g q).isSome/\D.atKey l (.held (.int .i64 0))=.held (.int .i64 (((g q).getD 0:Nat):Int))
section
variable {w w':World} {b n:Nat} {g:P4->Option Nat}
theorem Q4v.made (w:World):Q4v (w.alloc (.map #[] 0)) w.heap.size 0 (fun _=>none):=
 ⟨_,World.ownsMap_made _ _ _ _,fun _ _ _ _=>⟨rfl,rfl⟩⟩
theorem Q4v.lt (h:Q4v w b n g):b<w.heap.size:=by obtain ⟨D,h1,_⟩:=h;exact h1.lt
theorem Q4v.keep (h:Q4v w b n g) (hk:w'.heap[b]?=w.heap[b]?):Q4v w' b n g:=by
 obtain ⟨D,⟨es',clock,hb,r⟩,h2⟩:=h;exact ⟨D,⟨es',clock,hk.trans hb,r⟩,h2⟩
theorem Q4v.look_ok (h:Q4v w b n g) {q:P4} (hq:q.ok):
 (Instr.lookup 179 (.map (some b)) q.v true).run Tryz.prog w=.ok (.tuple #[.int .i64 (((g q).getD 0:Nat):Int),.bool (g q).isSome]) w:=by
 obtain ⟨D,h1,h2⟩:=h;obtain ⟨l,hl⟩:=q.key hq;obtain ⟨v,ps,I1,hv⟩:=World.ownsMap.look_ok h1 Qhi Qqz (Qwb w) (zd:=.held (.int .i64 0)) (zp:=[]) rfl hl;obtain ⟨e1,e2⟩:=h2 q l hq hl;rw[e1] at I1;rw[e2] at hv;unfold Qxm at hv;injection hv with hv;injection hv with hv _;injection hv with hv;rw[I1,hv]
theorem Q4v.store (h:Q4v w b n g) {q:P4} (hq:q.ok) (hn:n<1000000) (k:Nat):
 ∃w',(Instr.mapUpdate 179 (.map (some b)) q.v (.int .i64 (k:Int))).run Tryz.prog w=.ok () w'/\Q4v w' b (n+1) (fun r=>if r=q then some k else g r)/\w.grownBy w' (some b):=by
 obtain ⟨D,h1,h2⟩:=h;obtain ⟨l,hl⟩:=q.key hq;obtain ⟨w',I1,h3,h4⟩:=World.ownsMap.store h1 Qhi Qqz (by unfold maxLen;omega) (val:=.int .i64 (k:Int)) (d:=.held (.int .i64 (k:Int))) (ps:=[]) hl rfl;refine ⟨w',I1,⟨_,h3,fun r m hr hm=>?_⟩,h4.grown⟩
 show Maps.has _ _=(if r=q then some k else g r).isSome/\_=DataW.held (Value.int .i64 (((if r=q then some k else g r).getD 0:Nat):Int))
 by_cases e:r=q
 ·subst e;rw[hl] at hm;injection hm with hm;subst hm;rw[Us rfl];exact ⟨Maps.has_put_same h1.isMap (Qhi.key hl) _,Maps.atKey_put_same h1.isMap (Qhi.key hl) _ _⟩
 ·have C1:m≠l:=fun e2=>by
   subst e2;exact e (P4.inj (Qhi.inj hm hl))
  rw[Uq e,Maps.has_put_other C1,Maps.atKey_put_other C1];exact h2 r m hr hm
end
end Go.Proofs.YtdilmfakkppgpaaGreatDoor
namespace Go.Proofs.YtdilmfakkppgpaaGreatDoor
open Go.RowKit WordsM
theorem Qkd (B:Nat) (w:World):Below B w w.drew:=⟨rfl,rfl,rfl,Ug _,fun _ _=>rfl⟩
def p4 (E:List Int):P4:=(E.getD 0 0,E.getD 1 0,E.getD 2 0,E.getD 3 0)
theorem Qr0 {E:List Int} (h:E.length<=4):Go.splice [zv 0,zv 0,zv 0,zv 0] 0 (E.map zv)=[zv (p4 E).1,zv (p4 E).2.1,zv (p4 E).2.2.1,zv (p4 E).2.2.2]:=by
 match E,h with
 |[],_=>rfl
 |[_],_=>rfl
 |[_,_],_=>rfl
 |[_,_,_],_=>rfl
 |[_,_,_,_],_=>rfl
 |_::_::_::_::_::_,h=>exact absurd h (by simp)
theorem Qvi {n:Nat} {E F:List Int} (hE:E.length=n) (hF:F.length=n) (hn:n<=4) (h:p4 E=p4 F):E=F:=by
 unfold p4 at h;simp only[Xbw] at h;obtain ⟨h0,h1,h2,h3⟩:=h
 apply List.ext_getElem?
 intro j
 by_cases hj:j<n
 ·have e:∀(A:List Int),A.length=n->A[j]?=some (A.getD j 0):=fun A hA=>by
   rw[Tf,Ub (by omega)];rfl
  rw[e E hE,e F hF]
  congr 1
  match j,hj with
  |0,_=>exact h0
  |1,_=>exact h1
  |2,_=>exact h2
  |3,_=>exact h3
  |j+4,hj=>omega
 ·rw[Tk (by omega),Tk (by omega)]
theorem Qyr {E:List Int} (h:∀x∈E,small x):(p4 E).ok:=by
 have e:∀j,small (E.getD j 0):=fun j=>by
  rw[Tf];cases hj:E[j]? with
  |none=>unfold small;simp
  |some x=>exact h x (Ud hj)
 exact ⟨e 0,e 1,e 2,e 3⟩
theorem Qnk (nx:Bool) (ex:Int) (ax:OA) (lx cx:Nat) (bx:OA) (mx dx:Nat) (E:List Int) (w:World) (hE:Q0j w bx mx dx E) (h4:E.length<=4) (h0:E≠[]):
 Calls Tryz.prog 136 #[.agg #[.bool nx,.int .i64 ex,.slice ax lx cx,.slice bx mx dx]] w fun r w'=>r=.returned (p4 E).v/\Bw w w':=by
 have Z2:=hE.len;have hsp:=Qr0 h4;obtain ⟨⟨a0,a1,a2,a3⟩,hP4⟩:∃P:P4,p4 E=P:=⟨_,rfl⟩;rw[hP4] at hsp⊢;obtain ⟨p,o,rfl,hp,hc⟩:∃p o,bx=some ⟨p,o,none⟩/\p<w.heap.size/\∀(j:Nat) x,E[j]?=some x->w.cell? ⟨p,o+j,none⟩=some (.int .i64 x):=by
  rcases hE.rd with h1|h1
  ·exact absurd h1 h0
  ·exact h1
 have Z1:(Tryz.prog.info? 3).map (·.size)=some 1:=by kernel_rfl
 obtain ⟨o1,ho1⟩:∃oo:Obj,oo=.cells #[.bool nx,.int .i64 ex,.slice ax lx cx,.slice (some ⟨p,o,none⟩) mx dx] 44:=⟨_,rfl⟩;obtain ⟨o2,Kh⟩:∃oo:Obj,oo=.cells #[.int .i64 0,.int .i64 0,.int .i64 0,.int .i64 0] 182:=⟨_,rfl⟩;have s1:(w.alloc o1).heap.size=w.heap.size+1:=Uo _ _;have s2:((w.alloc o1).alloc o2).heap.size=w.heap.size+1+1:=by rw[Uo,s1]
 have s3:(((w.alloc o1).alloc o2).alloc o2).heap.size=w.heap.size+1+1+1:=by rw[Uo,s2]
 have b1:Bw w (w.alloc o1):=Ba;have b2:Below (w.alloc o1).heap.size (w.alloc o1) ((w.alloc o1).alloc o2):=Ba;have b3:Below ((w.alloc o1).alloc o2).heap.size ((w.alloc o1).alloc o2) (((w.alloc o1).alloc o2).alloc o2):=Ba;have hX0:Q38 (w.alloc o1) w.heap.size (.bool nx) (.int .i64 ex) (.slice ax lx cx) (.slice (some ⟨p,o,none⟩) mx dx):=by rw[ho1];exact Q38.new _ _ _ _ _ _
 have hX:=(hX0.step b2 (by omega)).step b3 (by omega);have hR0:Q38 ((w.alloc o1).alloc o2) (w.alloc o1).heap.size (.int .i64 0) (.int .i64 0) (.int .i64 0) (.int .i64 0):=by rw[Kh];exact Q38.new _ _ _ _ _ _
 have hR:=hR0.step b3 (by omega);have hP:(((w.alloc o1).alloc o2).alloc o2).heap[w.heap.size+1+1]?=some o2:=by
  have h:=Ul ((w.alloc o1).alloc o2) o2;rw[s2] at h;exact h
 rw[s1] at hR;clear hX0 hR0;have hB:=Below.next0 (Below.next0 b1 b2) b3;rw[ho1,Kh] at hX hR hB hP s3;generalize I3:((w.alloc (.cells #[.bool nx,.int .i64 ex,.slice ax lx cx,.slice (some ⟨p,o,none⟩) mx dx] 44)).alloc (.cells #[.int .i64 0,.int .i64 0,.int .i64 0,.int .i64 0] 182)).alloc (.cells #[.int .i64 0,.int .i64 0,.int .i64 0,.int .i64 0] 182)=W0 at hX hR hB hP s3;have x3:=hX.c3;have x3d:W0.drew.cell? ⟨w.heap.size,3,none⟩=some (.slice (some ⟨p,o,none⟩) mx dx):=x3;have hmx:mx<=4:=by omega
 have M8:∀j v,(E.map zv)[j]?=some v->W0.drew.cell? ((⟨p,o,none⟩:Addr).add j)=some v:=fun j v hv=>by
  rw[UT] at hv;cases hx:E[j]? with
  |none=>rw[hx] at hv;cases hv
  |some x=>
   rw[hx] at hv;simp only[UM,Un] at hv;subst hv;have I6:(⟨p,o,none⟩:Addr).add j=⟨p,o+j,none⟩:=(by unfold Addr.add;split <;> simp_all);rw[I6];exact (hB.cell (p:=⟨p,o+j,none⟩) hp).trans (hc j x hx)
 have HC:=Xh8 hX hR hB hP s3 M8 Z2 hsp;clear hX hR hB hP s3 s1 s2 b1 b2 b3 ho1 Kh M8 hc hE Z2 hsp h0
 go_enter Tryz.func136,Tryz.ntmps136
 go_upto_region 2 with fail
 go_cut [] (fun wx=>wx.heap[w.heap.size+1+1]?=some (.cells #[zv a0,zv a1,zv a2,zv a3] 182 (0,0))/\Below (w.heap.size+1+1) W0 wx)
 case first=>
  go_region_law (
   refine step_copy_splice rfl (.tmp 4) (.tmp 6) 42 42 rfl 3 Tryz.underlying42 Z1 (some ⟨w.heap.size+1+1,0,none⟩) (some ⟨p,o,none⟩) 4 4 mx dx rfl rfl (w.heap.size+1+1) 0 [zv 0,zv 0,zv 0,zv 0] 182 (Xo3 HC) (E.map zv) (by rw[UQ,(Xo6 HC)];exact (Xa9 hmx).symm) (fun _=>⟨rfl,⟨p,o,none⟩,rfl,(Xo5 HC)⟩) (by simp;omega) (Qvg E) (w.heap.size+1+1) W0 (Qkd _ _) (Ug _) ?_;intro w4 hh F1)
  all_goals go_wp2_with fail
  all_goals go_meet
  all_goals exact ⟨by rw[<-(Xe7 HC)];exact hh.out,F1⟩
 case rest=>
  obtain ⟨hh,F1⟩:=hcut;have KB:=(Xo1 HC).step F1 (by omega);have HH:=Ua F1;have q0:=Ux wc (w.heap.size+1+1) 0 _ _ _ hh;have q1:=Ux wc (w.heap.size+1+1) 1 _ _ _ hh;have q2:=Ux wc (w.heap.size+1+1) 2 _ _ _ hh;have q3:=Ux wc (w.heap.size+1+1) 3 _ _ _ hh;simp only[List.getElem?_toArray,UI,List.getElem?_cons_succ,zv] at q0 q1 q2 q3;have d1:=(Uc wc ⟨w.heap.size+1,0,none⟩ ⟨w.heap.size+1,1,none⟩ (.int .i64 a0) (by simp)).trans KB.c1;have d2:=((KB.set0 (.int .i64 a0)).set1 (.int .i64 a1)).c2;have d3:=(((KB.set0 (.int .i64 a0)).set1 (.int .i64 a1)).set2 (.int .i64 a2)).c3;have r0:=KB.c0;have r1:=KB.c1;have r2:=KB.c2;have r3:=KB.c3;have t0:=KB.f0;have t1:=KB.f1;have t2:=KB.f2;have t3:=KB.f3;have hS:=KB.store (.int .i64 a0) (.int .i64 a1) (.int .i64 a2) (.int .i64 a3);have HS:=Xh2 hS F1;clear KB hS F1 hh
  go_wp2_with fail
  have hw:=(Xo0 HS);have k0:=hw.c0;have k1:=hw.c1;have k2:=hw.c2;have k3:=hw.c3;have R4:=(((((Xo2 HC).trans (show Below w.heap.size W0 wc from ⟨(Xe1 HS).os,(Xe1 HS).tape,(Xe1 HS).output,(Xe1 HS).size,fun k hk=>(Xe1 HS).block k (by omega)⟩)).setCell (p:=⟨w.heap.size+1,0,none⟩) (by show w.heap.size<=w.heap.size+1;omega) (.int .i64 a0)).setCell (p:=⟨w.heap.size+1,1,none⟩) (by show w.heap.size<=w.heap.size+1;omega) (.int .i64 a1)).setCell (p:=⟨w.heap.size+1,2,none⟩) (by show w.heap.size<=w.heap.size+1;omega) (.int .i64 a2)).setCell (p:=⟨w.heap.size+1,3,none⟩) (by show w.heap.size<=w.heap.size+1;omega) (.int .i64 a3);refine ⟨rfl,.agg #[.int .i64 a0,.int .i64 a1,.int .i64 a2,.int .i64 a3],by simp[results,go_sem,k0,k1,k2,k3],rfl,R4⟩
end Go.Proofs.YtdilmfakkppgpaaGreatDoor
namespace Go.Proofs.YtdilmfakkppgpaaGreatDoor
open Go.RowKit WordsM DecM
mutual
def Q32 (m:Nat):Ex->Prop
 | .num none=>True
 | .num (some c)=>Q75 c
 | .var i=>i<m
 | .sum l=>Q7b m l
 | .prod l=>Q7l m l
 | .pow b k=>Q32 m b/\k<=8
def Q7b (m:Nat):List (Bool × Ex)->Prop
 |[]=>True
 |(_,x)::r=>Q32 m x/\Q7b m r
def Q7l (m:Nat):List Ex->Prop
 |[]=>True
 |x::r=>Q32 m x/\Q7l m r
end
theorem Qhj {m:Nat}:∀{l r:List (Bool × Ex)},Q7b m l->Q7b m r->Q7b m (l++r)
 |[],_,_,h=>h
 |(_,_)::_,_,h,h'=>by
  rw[TD,Q7b];rw[Q7b] at h;exact ⟨h.1,Qhj h.2 h'⟩
theorem Qhk {m:Nat}:∀{l r:List Ex},Q7l m l->Q7l m r->Q7l m (l++r)
 |[],_,_,h=>h
 |_::_,_,h,h'=>by
  rw[TD,Q7l];rw[Q7l] at h;exact ⟨h.1,Qhk h.2 h'⟩
def Q2k (s:LU) (p q:Nat):Prop:=∀j,p<=j->j<q->Q06 s j≠10
theorem Q2k.trans {s:LU} {p q r:Nat} (h:Q2k s p q) (h':Q2k s q r):Q2k s p r:=fun j h1 h2=>by
 by_cases e:j<q
 ·exact h j h1 e
 ·exact h' j (by omega) h2
theorem Q2k.one {s:LU} {p:Nat} (h:Q06 s p≠10):Q2k s p (p+1):=fun j h1 h2=>by
 obtain rfl:j=p:=by omega
 exact h
theorem Q2k.nil_ (s:LU) (p:Nat):Q2k s p p:=fun j h1 h2=>by omega
theorem Q6h {s:LU} {j:Nat} (h:j<s.length):Q06 s j=s[j]:=by
 unfold Q06;rw[Tf,Ub h];rfl
theorem Qa7 (s:LU) (p:Nat):Q2k s p (Q13 s p):=by
 intro j h1 h2 h3;unfold Q13 at h2;have B0:=Q0e h3 (by decide);have hm:s[j]∈(s.drop p).take (digN (s.drop p)):=by
  rw[Ts];exact ⟨j-p,by rw[To,Us (by omega),Xad,show p+(j-p)=j by omega,Ub B0]⟩
 have:=Q59 _ _ hm;rw[<-Q6h B0,h3] at this;exact absurd this.1 (by decide)
theorem Q20 (s:LU):∀p,Q2k s p (Q03 s p):=by
 have key:∀n p,s.length-p=n->Q2k s p (Q03 s p):=by
  intro n
  induction n using Nat.strongRecOn with
  |ind n ih=>
   intro p hn
   by_cases h:Q06 s p=32
   ·have hp:=Q0e h (by decide);rw[Q54 h];exact (Q2k.one (by rw[h];decide)).trans (ih (s.length-(p+1)) (by omega) (p+1) rfl)
   ·rw[Q5c h];exact Q2k.nil_ s p
 exact fun p=>key _ p rfl
theorem Qr1 (s:LU) (p:Nat):Q2k s p (Q8g s p):=by
 have h1:=Qa7 s p;unfold Q8g
 split
 ·rename_i h2;have h3:Q2k s (Q13 s p) (Q13 s p+1):=Q2k.one (by rw[h2];decide)
  split
  ·rename_i h4;exact (h1.trans h3).trans ((Q2k.one (p:=Q13 s p+1) (by rw[h4];decide)).trans (Qa7 s _))
  ·exact (h1.trans h3).trans (Qa7 s _)
 ·exact h1
theorem Qcc {s:LU} {p:Nat} (h:48<=(Q06 s p).toNat):Q2k s p (p+1):=Q2k.one fun e=>by rw[e] at h;exact absurd h (by decide)
def Clr (s:LU) (m p:Nat) (r:PR Ex):Prop:=
 match r with
 | .error _=>True
 | .ok (x,q)=>Q32 m x/\Q2k s p q
theorem Qwc (s:LU) (m p:Nat):Clr s m p (Qg0 s p):=by
 unfold Qg0
 split
 ·trivial
 ·refine ⟨?_,Qr1 s p⟩
  split
  ·rename_i h;rw[Q32];exact (Q2a _).1 h
  ·rw[Q32];trivial
theorem Clr.from {s:LU} {m p q:Nat} {r:PR Ex} (h:Clr s m q r) (h':Q2k s p q):Clr s m p r:=by
 revert h
 cases r with
 |error e=>exact id
 |ok z=>exact fun h=>⟨h.1,h'.trans h.2⟩
theorem Qtu {sub:Nat->PR Ex} {opens:Bool} {s:LU} {m:Nat} (hs:opens=true->∀p,Clr s m p (sub p)) (p:Nat):Clr s m p (Q4n sub opens s m p):=by
 have h1:=Q20 s p;unfold Q4n
 split
 ·exact (Qwc s m _).from h1
 ·split
  ·rename_i h3
   split
   ·rename_i h5;refine ⟨?_,h1.trans ((Q2k.one (by rw[h3];decide)).trans (Qcc (p:=Q03 s p+1) (by omega)))⟩;rw[Q32];omega
   ·trivial
  ·split
   ·rename_i h3;have h5:=hs h3.2 (Q03 s p+1)
    revert h5
    cases sub (Q03 s p+1) with
    |error e=>exact id
    |ok r=>
     obtain ⟨x,q⟩:=r;intro h5;have x7:Q32 m x/\Q2k s (Q03 s p+1) q:=h5;simp only
     split
     ·rename_i h8;exact ⟨x7.1,h1.trans ((Q2k.one (by rw[h3.1];decide)).trans (x7.2.trans ((Q20 s q).trans (Q2k.one (by rw[h8];decide)))))⟩
     ·trivial
   ·trivial
theorem Qnl {sub:Nat->PR Ex} {opens:Bool} {s:LU} {m:Nat} (hs:opens=true->∀p,Clr s m p (sub p)) (p:Nat):Clr s m p (Q1t sub opens s m p):=by
 have h5:=Qtu hs p;unfold Q1t
 revert h5
 cases Q4n sub opens s m p with
 |error e=>exact id
 |ok r=>
  obtain ⟨x,q⟩:=r;intro h5;have x7:Q32 m x/\Q2k s p q:=h5;simp only
  split
  ·rename_i h8
   split
   ·rename_i h12;refine ⟨?_,x7.2.trans ((Q20 s q).trans ((Q2k.one (by rw[h8];decide)).trans ((Q20 s _).trans (Qcc h12.1))))⟩;rw[Q32];exact ⟨x7.1,by omega⟩
   ·trivial
  ·exact ⟨x7.1,x7.2.trans (Q20 s q)⟩
theorem Qm3 {sub:Nat->PR Ex} {opens:Bool} {s:LU} {m:Nat} (hs:opens=true->∀p,Clr s m p (sub p)):∀(f p:Nat) (acc:List Ex),Q7l m acc->Clr s m p (Q36 sub opens s m f p acc)
 |0,p,acc,_=>trivial
 |f+1,p,acc,ha=>by
  have h5:=Qnl hs p;unfold Q36
  revert h5
  cases Q1t sub opens s m p with
  |error e=>exact id
  |ok r=>
   obtain ⟨x,q⟩:=r;intro h5;have x7:Q32 m x/\Q2k s p q:=h5;have hg:Q7l m (acc++[x]):=Qhk ha (by rw[Q7l,Q7l];exact ⟨x7.1,trivial⟩);simp only
   split
   ·rename_i h8;exact (Qm3 hs f (Q03 s q+1) (acc++[x]) hg).from (x7.2.trans ((Q20 s q).trans (Q2k.one (by rw[h8];decide))))
   ·refine ⟨?_,x7.2.trans (Q20 s q)⟩;rw[Q32];exact hg
theorem Qfd {sub:Nat->PR Ex} {opens:Bool} {s:LU} {m:Nat} (hs:opens=true->∀p,Clr s m p (sub p)):∀(f p:Nat) (below:Bool) (acc:List (Bool × Ex)),Q7b m acc->Clr s m p (Q8h sub opens s m f p below acc)
 |0,p,below,acc,_=>trivial
 |f+1,p,below,acc,ha=>by
  have h5:=Qm3 hs (s.length+1) p [] (by rw[Q7l];trivial);unfold Q8h
  revert h5
  cases Q36 sub opens s m (s.length+1) p [] with
  |error e=>exact id
  |ok r=>
   obtain ⟨x,q⟩:=r;intro h5;have x7:Q32 m x/\Q2k s p q:=h5;have hg:Q7b m (acc++[(below,x)]):=Qhj ha (by rw[Q7b,Q7b];exact ⟨x7.1,trivial⟩);simp only
   split
   ·rename_i h8;exact (Qfd hs f (Q03 s q+1) false (acc++[(below,x)]) hg).from (x7.2.trans ((Q20 s q).trans (Q2k.one (by rw[h8];decide))))
   ·split
    ·rename_i h8;exact (Qfd hs f (Q03 s q+1) true (acc++[(below,x)]) hg).from (x7.2.trans ((Q20 s q).trans (Q2k.one (by rw[h8];decide))))
    ·refine ⟨?_,x7.2.trans (Q20 s q)⟩;rw[Q32];exact hg
theorem Qhl {sub:Nat->PR Ex} {opens:Bool} {s:LU} {m:Nat} (hs:opens=true->∀p,Clr s m p (sub p)) (p:Nat):Clr s m p (Q6c sub opens s m p):=by
 unfold Q6c
 split
 ·rename_i h8;exact (Qfd hs (s.length+1) (Q03 s p+1) true [] (by rw[Q7b];trivial)).from ((Q20 s p).trans (Q2k.one (by rw[h8];decide)))
 ·exact (Qfd hs (s.length+1) (Q03 s p) false [] (by rw[Q7b];trivial)).from (Q20 s p)
theorem Qm4 (s:LU) (m:Nat):∀(d p:Nat),Clr s m p (Q6d s m d p)
 |0,p=>Qhl (fun h=>by cases h) p
 |d+1,p=>Qhl (fun _ p=>Qm4 s m d p) p
theorem Qcd {s:LU}:∀(t:LU) (p q:Nat),Q1h s t p=.ok q->(10:UInt8)∉t->q=p+t.length/\Q2k s p q
 |[],p,q,h,_=>by
  rw[Q1h] at h;injection h with h;subst h;exact ⟨rfl,Q2k.nil_ s p⟩
 |c::r,p,q,h,hn=>by
  rw[Q1h] at h
  split at h
  ·rename_i h1;obtain ⟨e,h2⟩:=Qcd r (p+1) q h (fun hm=>hn (Xau _ hm));refine ⟨by rw[e,Uz];omega,(Q2k.one (fun e=>hn ?_)).trans h2⟩;rw[<-h1,e];exact Xa2
  ·cases h
theorem Qhm {s:LU}:∀(t:LU) (p q:Nat),Q1h s t p=.ok q->(0:UInt8)∉t->p<=s.length->q<=s.length
 |[],p,q,h,_,hp=>by
  rw[Q1h] at h;injection h with h;subst h;exact hp
 |c::r,p,q,h,hn,hp=>by
  rw[Q1h] at h
  split at h
  ·rename_i h1;exact Qhm r (p+1) q h (fun hm=>hn (Xau _ hm)) (Q0e h1 (fun e=>hn (by rw[e];exact Xa2)))
  ·cases h
theorem Qr2 {i:Nat} (hi:i<9):(0:UInt8)∉Q3t i:=by
 rw[Q3t,Q71 (by omega)];intro h;simp only[UF,List.not_mem_nil,or_false,TD,TW] at h;rcases h with h|h|h|h|h|h
 ·exact absurd h (by decide)
 ·have:=Q9d (i:=i+1) (by omega);rw[<-h] at this;have u9:(0:UInt8).toNat=0:=rfl;omega
 all_goals exact absurd h (by decide)
theorem Qtv {i:Nat} (hi:i<9):(10:UInt8)∉Q3t i:=by
 rw[Q3t,Q71 (by omega)];intro h;simp only[UF,List.not_mem_nil,or_false,TD,TW] at h;rcases h with h|h|h|h|h|h
 ·exact absurd h (by decide)
 ·have:=Q9d (i:=i+1) (by omega);rw[<-h] at this;have u9:(10:UInt8).toNat=10:=rfl;omega
 all_goals exact absurd h (by decide)
theorem Qm5 {s:LU} {m i p q:Nat} {x:Ex} (hi:i<9) (hp:p<=s.length) (h:Q8i s m i p=.ok (x,q)):∃r,q=r+1/\Q06 s r=10/\Q2k s p r/\Q32 m x/\p<=r/\q<=s.length:=by
 unfold Q8i at h;cases hf:Q1h s (Q3t i) p with
 |error e=>rw[hf] at h;cases h
 |ok p1=>
  rw[hf] at h;obtain ⟨h1,h2⟩:=Qcd _ _ _ hf (Qtv hi);simp only at h;have h3:=Qm4 s m 16 p1;cases he:Q6d s m 16 p1 with
  |error e=>rw[he] at h;cases h
  |ok z=>
   obtain ⟨y,t⟩:=z;rw[he] at h h3;simp only at h;have h3':Q32 m y/\Q2k s p1 t:=h3
   split at h
   ·rename_i h4;injection h with h;injection h with h5 h6;subst h5;have h7:=Q0e h4 (by decide);have h8:=Qhm _ _ _ hf (Qr2 hi) hp;have h9:=Q6f s m 16 p1 h8;rw[he] at h9;have h9':p1<t/\t<=s.length:=h9;have u9:=Q1m s t;exact ⟨Q03 s t,h6.symm,h4,h2.trans (h3'.2.trans (Q20 s t)),h3'.1,by omega,by omega⟩
   ·cases h
theorem Qe3 {s:LU}:∀(n p r:Nat),r-p=n->p<=r->Q2k s p r->Q06 s r=10->(s.drop p).count 10=1+(s.drop (r+1)).count 10
 |0,p,r,hn,hp,_,h=>by
  obtain rfl:p=r:=by omega
  have hl:=Q0e h (by decide);rw[UC hl,<-Q6h hl,h,List.count_cons_self,Xbf]
 |n+1,p,r,hn,hp,hc,h=>by
  have hl:=Q0e h (by decide);have Qb:p<s.length:=by omega
  have h1:=hc p (Ug _) (by omega);rw[UC Qb,List.count_cons_of_ne (by rw[<-Q6h Qb];exact h1)];exact Qe3 n (p+1) r (by omega) (by omega) (fun j h2 h3=>hc j (by omega) h3) h
theorem Qhn {s:LU} {m:Nat}:∀(f p:Nat) (acc l:List (Nat × Ex)),p<=s.length->acc.length+f<=4->Q3c s m f p acc=.ok l->(∀z∈acc,Q32 m z.2)->l.length=acc.length+(s.drop p).count 10/\acc.length<l.length/\l.length<=acc.length+f/\∀z∈l,Q32 m z.2
 |0,p,acc,l,_,_,h,_=>by rw[Q3c] at h;cases h
 |f+1,p,acc,l,hp,hf,h,ha=>by
  rw[Q3c] at h;cases hl:Q8i s m acc.length p with
  |error e=>rw[hl] at h;cases h
  |ok z=>
   obtain ⟨x,q⟩:=z;rw[hl] at h;simp only at h;obtain ⟨r,rfl,h1,h2,h3,h4,h5⟩:=Qm5 (by omega) hp hl;have hc:=Qe3 _ p r rfl h4 h2 h1;have ha':∀z∈acc++[(p,x)],Q32 m z.2:=fun z hz=>by
    rcases UY.1 hz with hz|hz
    ·exact ha z hz
    ·rw[Uy] at hz;subst hz;exact h3
   split at h
   ·obtain ⟨g1,g2,g3,g4⟩:=Qhn f (r+1) (acc++[(p,x)]) l h5 (by simp only[Uj,Xa1];omega) h ha';simp only[Uj,Xa1] at g1 g2 g3;exact ⟨by omega,by omega,by omega,g4⟩
   ·rename_i h6;injection h with h;subst h;rw[hc,UZ (by omega)];simp only[Uj,Xa1,List.count_nil];exact ⟨trivial,by omega,by omega,ha'⟩
theorem Qe4 {s:LU} {l:List (Nat × Ex)} (h:Q3c s (min (s.count 10) 4) 4 0 []=.ok l):1<=l.length/\l.length<=4/\∀z∈l,Q32 l.length z.2:=by
 obtain ⟨h1,h2,h3,h4⟩:=Qhn 4 0 [] l (Uu _) (by simp) h (fun z hz=>by cases hz);simp only[Xan,UB,Xaw] at h1 h2 h3;have:min (s.count 10) 4=l.length:=by omega
 rw[this] at h4;exact ⟨by omega,h3,h4⟩
theorem Q5e (n:Nat):Q14 n (List.replicate n 0):=⟨List.length_replicate ..,fun x hx=>by rw[TP hx];exact Int.le_refl _,by rw[Qqs];decide⟩
theorem Qe5 {n i:Nat} (hi:i<n):Q14 n (Q84 n i):=by
 have hs:=Qhf n i 1 hi;refine ⟨by simp[Q84],fun x hx=>?_,by show (Qhe n i 1).sum<=8;omega⟩;obtain ⟨j,hj⟩:=Ts.1 hx;unfold Q84 at hj
 by_cases e:i=j
 ·subst e;rw[TN (by simpa using hi)] at hj;injection hj with hj;omega
 ·rw[Tj e,TL] at hj
  split at hj
  ·injection hj with hj;omega
  ·cases hj
end Go.Proofs.YtdilmfakkppgpaaGreatDoor
