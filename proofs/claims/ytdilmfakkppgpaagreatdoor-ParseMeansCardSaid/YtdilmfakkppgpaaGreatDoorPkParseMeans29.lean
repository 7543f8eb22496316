/- Part 29 of the proof of LawParseMeans: RefVal. Condition: as each theorem says; none at the end. -/
import Derived.Test.YtdilmfakkppgpaaGreatDoorPkParseMeans28
set_option maxRecDepth 100000
set_option maxHeartbeats 16000000
namespace Go.Proofs.YtdilmfakkppgpaaGreatDoor
open Go.RowKit WordsM
structure Qst (w W:World) (x0 x1 x2 y0 y1 y2:Value):Prop where
 bx:Q04 W w.heap.size x0 x1 x2
 by_:Q04 W (w.heap.size+1) y0 y1 y2
 br:Q04 W (w.heap.size+2) (.bool false) (.slice none 0 0) (.int .i64 0)
 lt:w.heap.size+2<W.heap.size
 bel:Below w.heap.size w W
theorem Qst.step {w W W':World} {x0 x1 x2 y0 y1 y2:Value} (h:Qst w W x0 x1 x2 y0 y1 y2) (hb:Below W.heap.size W W'):Qst w W' x0 x1 x2 y0 y1 y2:=by
 have hlt:=h.lt
 exact ⟨h.bx.step hb (by omega),h.by_.step hb (by omega),h.br.step hb (by omega),Nat.lt_of_lt_of_le h.lt hb.size,Below.next0 h.bel hb⟩
theorem Qbr (w:World) (x0 x1 x2 y0 y1 y2:Value) (T1 T2 T3:TypeId):Qst w (((w.alloc (.cells #[x0,x1,x2] T1)).alloc (.cells #[y0,y1,y2] T2)).alloc (.cells #[.bool false,.slice none 0 0,.int .i64 0] T3)) x0 x1 x2 y0 y1 y2:=by
 obtain ⟨h1,h2,h3,h4,h5⟩:=Qw4 w x0 x1 x2 y0 y1 y2 (.bool false) (.slice none 0 0) (.int .i64 0) T1 T2 T3
 exact ⟨h2,h3,h4,by omega,h5⟩
structure Two (w W:World) (x0 x1 x2:Value):Prop where
 bx:Q04 W w.heap.size x0 x1 x2
 br:Q04 W (w.heap.size+1) (.bool false) (.slice none 0 0) (.int .i64 0)
 lt:w.heap.size+1<W.heap.size
 bel:Below w.heap.size w W
theorem Two.step {w W W':World} {x0 x1 x2:Value} (h:Two w W x0 x1 x2) (hb:Below W.heap.size W W'):Two w W' x0 x1 x2:=by
 have hlt:=h.lt
 exact ⟨h.bx.step hb (by omega),h.br.step hb (by omega),Nat.lt_of_lt_of_le h.lt hb.size,Below.next0 h.bel hb⟩
theorem Qqg (w:World) (x0 x1 x2:Value) (T1 T3:TypeId):Two w ((w.alloc (.cells #[x0,x1,x2] T1)).alloc (.cells #[.bool false,.slice none 0 0,.int .i64 0] T3)) x0 x1 x2:=by
 obtain ⟨h1,h2,h3,h4⟩:=Qti w x0 x1 x2 (.bool false) (.slice none 0 0) (.int .i64 0) T1 T3
 exact ⟨h2,h3,by omega,h4⟩
theorem Qqh {nx ny:Bool} {ex ey:Int} {vx vy:Nat} (h1:vx≠0) (h2:vy≠0) (c1:Q37 nx vx ex) (c2:Q37 ny vy ey):Q37 (nx != ny) (vx*vy) (ex+ey):=
 ⟨fun h=>by rcases Nat.mul_eq_zero.1 h with h|h <;> contradiction,fun _=>by rw[Nat.mul_mod,c1.2 h1,c2.2 h2]⟩
theorem Qw5 (n:Bool) (v:Nat) {e f:Int} {k:Nat} (h:e=f+k):dy (sgn n v) e=dy (sgn n (v*2^k)) f:=by
 subst h
 rw[Qc5,Q73]
theorem Qj6 (n:Bool) (x y:Nat) (f:Int):dy (sgn n x) f+dy (sgn n y) f=dy (sgn n (x+y)) f:=by
 rw[Qju]
 congr 1
 cases n <;> simp[sgn];omega
theorem Q7d {n m:Bool} (h:n≠m) {x y:Nat} (hxy:y<=x) (f:Int):dy (sgn n x) f+dy (sgn m y) f=dy (sgn n (x-y)) f:=by
 rw[Qju]
 congr 1
 cases n <;> cases m <;> simp_all [sgn] <;> omega
theorem Q8a (nx:Bool) (ex:Int) (ax:Option Addr) (lx cx:Nat) (ls:List Nat) (w:World) (h:WordsIn w ax lx cx ls) (hi:Q0h nx ex ls):
 Calls Tryz.prog 24 #[.agg #[.bool nx,.int .i64 ex,.slice ax lx cx]] w (Qgm w (Q1q nx ex ls)):=by
 have hlx:=(Q3d hi h.low).1
 have hl0:=h.len
 have hcn:Q37 nx (val (2^64) ls) ex:=Qj4 hi h.low
 have hQ:=fun W=>(Qqg w (.bool nx) (.int .i64 ex) (.slice ax lx cx) 41 56).step (W':=W)
 obtain ⟨W0,hW0⟩:∃W0,(w.alloc (.cells #[.bool nx,.int .i64 ex,.slice ax lx cx] 41)).alloc (.cells #[.bool false,.slice none 0 0,.int .i64 0] 56)=W0:=⟨_,rfl⟩
 rw[hW0] at hQ
 have HQ:=Lib.hid hQ
 have HW:=Lib.hid h
 have HC:=Lib.hid hcn
 clear hQ h hcn hi
 go_enter Tryz.func24,Tryz.ntmps24
 go_wp2_with fail
 refine Q1o (by kernel_rfl) 8 rfl (fun W=>Below W0.heap.size W0 W) (fun _ _ h h'=>Below.next0 h h') (Q6k [.pointer (some ⟨w.heap.size,0,none⟩),.bool nx,.pointer (some ⟨w.heap.size,2,none⟩),.slice ax lx cx,undef,.pointer (some ⟨w.heap.size,1,none⟩),.int .i64 ex,undef] (Q5o [(4,SlD (2*lx) (val (2^64) ls)),(7,fun u w=>Q4h w u (Q1q nx ex ls))])) (Q0q (Q1c (Qj3 (SlD.stable _ _) (Q1d _)))) (Quu w (w.heap.size+1) (Q1q nx ex ls)) (by kernel_rfl) (by kernel_rfl) (by kernel_rfl) (by kernel_rfl) (Q08 W0) ?_ ?_ ?_
 ·skip
  refine ⟨fun A W hW hag hdep=>?_,?_⟩
  ·have e1:A.tmps[1]?.getD undef=.pointer (some ⟨w.heap.size,0,none⟩):=Q03 (hag.keep (t:=1) (by kernel_rfl) rfl)
   refine Q01 rfl ?_
   refine Q02 (u:=.pointer (some ⟨w.heap.size,0,none⟩)) ?_ ((Q00 rfl).2 rfl)
   simp[go_sem,e1]
  refine ⟨fun A W hW hag hdep=>?_,?_⟩
  ·have e3:A.tmps[3]?.getD undef=.pointer (some ⟨w.heap.size,0,none⟩):=Q03 ((Q00 rfl).1 (hdep 0 (by decide)))
   refine Q01 rfl ?_
   obtain ⟨k0,_,_,_,_,_⟩:=(HQ.out W hW).bx
   refine Q02 (u:=.bool nx) ?_ ((Q00 rfl).2 rfl)
   simp[go_sem,e3,k0]
  refine ⟨fun A W hW hag hdep=>?_,?_⟩
  ·have e1:A.tmps[1]?.getD undef=.pointer (some ⟨w.heap.size,0,none⟩):=Q03 (hag.keep (t:=1) (by kernel_rfl) rfl)
   refine Q01 rfl ?_
   refine Q02 (u:=.pointer (some ⟨w.heap.size,2,none⟩)) ?_ ((Q00 rfl).2 rfl)
   simp[go_sem,e1]
  refine ⟨fun A W hW hag hdep=>?_,?_⟩
  ·have e5:A.tmps[5]?.getD undef=.pointer (some ⟨w.heap.size,2,none⟩):=Q03 ((Q00 rfl).1 (hdep 2 (by decide)))
   refine Q01 rfl ?_
   obtain ⟨_,_,k2,_,_,_⟩:=(HQ.out W hW).bx
   refine Q02 (u:=.slice ax lx cx) ?_ ((Q00 rfl).2 rfl)
   simp[go_sem,e5,k2]
  refine ⟨fun A W hW hag hdep=>?_,?_⟩
  ·have e6:A.tmps[6]?.getD undef=.slice ax lx cx:=Q03 ((Q00 rfl).1 (hdep 3 (by decide)))
   refine Q01 rfl ?_
   refine Q0j (f:=56) (args:= #[.slice ax lx cx]) (by simp[go_sem,e6]) ((Qao ax lx cx ls W (HW.out.step (HQ.out W hW).bel) (by omega)).mono ?_)
   rintro e w2 ⟨a',n',c',rfl,hn',hd',hb'⟩
   exact ⟨_,rfl,hb',(Q06 rfl).2 ⟨a',n',c',rfl,hn',hd'⟩⟩
  refine ⟨fun A W hW hag hdep=>?_,?_⟩
  ·have e1:A.tmps[1]?.getD undef=.pointer (some ⟨w.heap.size,0,none⟩):=Q03 (hag.keep (t:=1) (by kernel_rfl) rfl)
   refine Q01 rfl ?_
   refine Q02 (u:=.pointer (some ⟨w.heap.size,1,none⟩)) ?_ ((Q00 rfl).2 rfl)
   simp[go_sem,e1]
  refine ⟨fun A W hW hag hdep=>?_,?_⟩
  ·have e8:A.tmps[8]?.getD undef=.pointer (some ⟨w.heap.size,1,none⟩):=Q03 ((Q00 rfl).1 (hdep 5 (by decide)))
   refine Q01 rfl ?_
   obtain ⟨_,k1,_,_,_,_⟩:=(HQ.out W hW).bx
   refine Q02 (u:=.int .i64 ex) ?_ ((Q00 rfl).2 rfl)
   simp[go_sem,e8,k1]
  refine ⟨fun A W hW hag hdep=>?_,?_⟩
  ·have e4:A.tmps[4]?.getD undef=.bool nx:=Q03 ((Q00 rfl).1 (hdep 1 (by decide)))
   have e9:A.tmps[9]?.getD undef=.int .i64 ex:=Q03 ((Q00 rfl).1 (hdep 6 (by decide)))
   refine Q01 rfl ?_
   obtain ⟨a7,l7,c7,hv7,hl7,hd7⟩:=(Q06 rfl).1 (hdep 4 (by decide))
   have e7:=Q03 hv7
   refine Q02 (u:=.agg #[.bool nx,.slice a7 l7 c7,.int .i64 ex]) ?_ ((Q06 rfl).2 ⟨nx,a7,l7,c7,ex,_,rfl,hd7,HC.out,rfl⟩)
   simp[go_sem,e4,e7,e9]
  exact trivial
 ·intro A W hW hag hdep
  obtain ⟨n8,a8,l8,c8,q8,v8,hv8,hd8,hcn8,hD8⟩:=(Q06 rfl).1 (hdep 7 (by decide))
  have e10:=Q03 hv8
  have e2:A.tmps[2]?.getD undef=.pointer (some ⟨(w.heap.size+1),0,none⟩):=Q03 (hag.keep (t:=2) (by kernel_rfl) rfl)
  have hN8:=(HQ.out W hW).br
  have k0:=hN8.c0
  have f0:=hN8.f0
  have f1:=hN8.f1
  have f2:=hN8.f2
  have d1:=hN8.d1 (.bool n8)
  have d2:=hN8.d2 (.bool n8) (.slice a8 l8 c8)
  refine Q2f (w':=(((W.setCell ⟨(w.heap.size+1),0,none⟩ (.bool n8)).setCell ⟨(w.heap.size+1),1,none⟩ (.slice a8 l8 c8)).setCell ⟨(w.heap.size+1),2,none⟩ (.int .i64 q8))) (by simp[go_sem,e2,e10,k0,f0,f1,f2,d1,d2]) ?_
  exact Q4l (by omega) (HQ.out W hW).bel hN8 hd8 hcn8 hD8
 intro vs W1 hfin
 simp only[Q10,Act.put,List.setIfInBounds_toArray,List.set_cons_zero,List.set_cons_succ]
 obtain ⟨n9,a9,l9,c9,e9,v9,hN9,hd9,hcn9,hD9,hb9⟩:=hfin
 have k0:=hN9.c0
 have k1:=hN9.c1
 have k2:=hN9.c2
 have HE:=Xh4 hd9 hcn9 hD9 hb9
 clear hN9 hd9 hcn9 hD9 hb9
 go_wp2_with fail
 exact ⟨rfl,.agg #[.bool n9,.slice a9 l9 c9,.int .i64 e9],by simp[results,go_sem,k0,k1,k2],_,rfl,⟨n9,a9,l9,c9,e9,v9,rfl,(Xo0 HE),(Xo1 HE),(Xo2 HE)⟩,(Xe3 HE)⟩
theorem Qgn (nx:Bool) (ax:Option Addr) (lx cx:Nat) (ex:Int) (vx:Nat) (ny:Bool) (ay:Option Addr) (ly cy:Nat) (ey:Int) (vy:Nat) (w:World) (h1:Q0l w ax lx cx vx) (h2:Q0l w ay ly cy vy) (c1:Q37 nx vx ex) (c2:Q37 ny vy ey) (T:Nat) (b1:bnd T (dy (sgn nx vx) ex)) (b2:bnd T (dy (sgn ny vy) ey)) (hT:T<=500000):
 Calls Tryz.prog 27 #[.agg #[.bool nx,.slice ax lx cx,.int .i64 ex],.agg #[.bool ny,.slice ay ly cy,.int .i64 ey]] w (Qgm w (dy (sgn nx vx) ex*dy (sgn ny vy) ey)):=by
 obtain ⟨g1,g2,g3⟩:=Qbp (k:=31250) c1 b1 (by omega)
 obtain ⟨g4,g5,g6⟩:=Qbp (k:=31250) c2 b2 (by omega)
 rw[h1.len] at g1
 rw[h2.len] at g4
 have hQ:=fun W=>(Qbr w (.bool nx) (.slice ax lx cx) (.int .i64 ex) (.bool ny) (.slice ay ly cy) (.int .i64 ey) 56 56 56).step (W':=W)
 obtain ⟨W0,hW0⟩:∃W0,((w.alloc (.cells #[.bool nx,.slice ax lx cx,.int .i64 ex] 56)).alloc (.cells #[.bool ny,.slice ay ly cy,.int .i64 ey] 56)).alloc (.cells #[.bool false,.slice none 0 0,.int .i64 0] 56)=W0:=⟨_,rfl⟩
 rw[hW0] at hQ
 have HQ:=Lib.hid hQ
 have hx0:=fun h=>Q0l.none_of h1 h
 have hy0:=fun h=>Q0l.none_of h2 h
 have hwr:IntKind.i64.wrap (ex+ey)=ex+ey:=by rw[IntKind.wrap_i64];omega
 by_cases hvx:vx=0
 ·obtain rfl:=hx0 hvx
  have hD:(0:Dyadic)=dy (sgn nx vx) ex*dy (sgn ny vy) ey:=by rw[Q95 nx ex hvx,Dyadic.zero_mul]
  have HD:=Lib.hid hD
  clear hD h1 h2 c1 c2 b1 b2 hx0 hy0 hvx
  have xc1:=(HQ.out W0 (Below.refl _ _)).bx.c1
  have rc0:=(HQ.out W0 (Below.refl _ _)).br.c0
  have rc1:=(HQ.out W0 (Below.refl _ _)).br.c1
  have rc2:=(HQ.out W0 (Below.refl _ _)).br.c2
  have rf0:=(HQ.out W0 (Below.refl _ _)).br.f0
  have rf1:=(HQ.out W0 (Below.refl _ _)).br.f1
  have rf2:=(HQ.out W0 (Below.refl _ _)).br.f2
  have rd1:=(HQ.out W0 (Below.refl _ _)).br.d1 (.bool false)
  have rd2:=(HQ.out W0 (Below.refl _ _)).br.d2 (.bool false) (.slice none 0 0)
  go_enter Tryz.func27,Tryz.ntmps27
  go_wp2_with fail
  have hS:=(HQ.out W0 (Below.refl _ _)).br.store (.bool false) (.slice none 0 0) (.int .i64 0)
  have k0:=hS.c0
  have k1:=hS.c1
  have k2:=hS.c2
  have hbz:=Q04.below (HQ.out W0 (Below.refl _ _)).bel (show w.heap.size<=w.heap.size+2 by omega) (.bool false) (.slice none 0 0) (.int .i64 0)
  exact ⟨rfl,.agg #[.bool false,.slice none 0 0,.int .i64 0],by simp[results,go_sem,k0,k1,k2],_,rfl,⟨false,none,0,0,0,0,rfl,Q0l.nil_ _,⟨fun _=>⟨rfl,rfl⟩,fun h=>absurd rfl h⟩,HD.out⟩,hbz⟩
 have hlx:((lx:Int)==0)=false:=by
  rw[beq_eq_false_iff_ne]
  intro e
  exact hvx (h1.zero_of (by omega))
 by_cases hvy:vy=0
 ·obtain rfl:=hy0 hvy
  have hD:(0:Dyadic)=dy (sgn nx vx) ex*dy (sgn ny vy) ey:=by rw[Q95 ny ey hvy,Dyadic.mul_zero]
  have HD:=Lib.hid hD
  clear hD h1 h2 c1 c2 b1 b2 hx0 hy0 hvy hvx
  have xc1:=(HQ.out W0 (Below.refl _ _)).bx.c1
  have yc1:=(HQ.out W0 (Below.refl _ _)).by_.c1
  have rc0:=(HQ.out W0 (Below.refl _ _)).br.c0
  have rc1:=(HQ.out W0 (Below.refl _ _)).br.c1
  have rc2:=(HQ.out W0 (Below.refl _ _)).br.c2
  have rf0:=(HQ.out W0 (Below.refl _ _)).br.f0
  have rf1:=(HQ.out W0 (Below.refl _ _)).br.f1
  have rf2:=(HQ.out W0 (Below.refl _ _)).br.f2
  have rd1:=(HQ.out W0 (Below.refl _ _)).br.d1 (.bool false)
  have rd2:=(HQ.out W0 (Below.refl _ _)).br.d2 (.bool false) (.slice none 0 0)
  go_enter Tryz.func27,Tryz.ntmps27
  go_wp2_with fail
  have hS:=(HQ.out W0 (Below.refl _ _)).br.store (.bool false) (.slice none 0 0) (.int .i64 0)
  have k0:=hS.c0
  have k1:=hS.c1
  have k2:=hS.c2
  have hbz:=Q04.below (HQ.out W0 (Below.refl _ _)).bel (show w.heap.size<=w.heap.size+2 by omega) (.bool false) (.slice none 0 0) (.int .i64 0)
  exact ⟨rfl,.agg #[.bool false,.slice none 0 0,.int .i64 0],by simp[results,go_sem,k0,k1,k2],_,rfl,⟨false,none,0,0,0,0,rfl,Q0l.nil_ _,⟨fun _=>⟨rfl,rfl⟩,fun h=>absurd rfl h⟩,HD.out⟩,hbz⟩
 have hly:((ly:Int)==0)=false:=by
  rw[beq_eq_false_iff_ne]
  intro e
  exact hvy (h2.zero_of (by omega))
 have HW:=Xh2 h1 h2
 have hcm:=Qqh hvx hvy c1 c2
 have hdm:dy (sgn (nx != ny) (vx*vy)) (ex+ey)=dy (sgn nx vx) ex*dy (sgn ny vy) ey:=by rw[Qjv,Qi5]
 have HC:=Xh2 hcm hdm
 have xc1:=(HQ.out W0 (Below.refl _ _)).bx.c1
 have yc1:=(HQ.out W0 (Below.refl _ _)).by_.c1
 clear h1 h2 c1 c2 b1 b2 hx0 hy0 hvy hvx hcm hdm
 go_enter Tryz.func27,Tryz.ntmps27
 go_wp2_with fail
 refine Q1o (by kernel_rfl) 16 rfl (fun W=>Below W0.heap.size W0 W) (fun _ _ h h'=>Below.next0 h h') (Q6k [.pointer (some ⟨w.heap.size,0,none⟩),.bool nx,.pointer (some ⟨(w.heap.size+1),0,none⟩),.bool ny,.bool (nx != ny),.pointer (some ⟨w.heap.size,1,none⟩),.slice ax lx cx,.pointer (some ⟨(w.heap.size+1),1,none⟩),.slice ay ly cy,undef,.pointer (some ⟨w.heap.size,2,none⟩),.int .i64 ex,.pointer (some ⟨(w.heap.size+1),2,none⟩),.int .i64 ey,.int .i64 (ex+ey),undef] (Q5o [(9,SlD 9223372036854775807 (vx*vy)),(15,fun u w=>Q4h w u (dy (sgn nx vx) ex*dy (sgn ny vy) ey))])) (Q0q (Q1c (Qj3 (SlD.stable _ _) (Q1d _)))) (Quu w (w.heap.size+2) (dy (sgn nx vx) ex*dy (sgn ny vy) ey)) (by kernel_rfl) (by kernel_rfl) (by kernel_rfl) (by kernel_rfl) (Q08 W0) ?_ ?_ ?_
 ·skip
  refine ⟨fun A W hW hag hdep=>?_,?_⟩
  ·have e2:A.tmps[2]?.getD undef=.pointer (some ⟨w.heap.size,0,none⟩):=Q03 (hag.keep (t:=2) (by kernel_rfl) rfl)
   refine Q01 rfl ?_
   refine Q02 (u:=.pointer (some ⟨w.heap.size,0,none⟩)) ?_ ((Q00 rfl).2 rfl)
   simp[go_sem,e2]
  refine ⟨fun A W hW hag hdep=>?_,?_⟩
  ·have e16:A.tmps[16]?.getD undef=.pointer (some ⟨w.heap.size,0,none⟩):=Q03 ((Q00 rfl).1 (hdep 0 (by decide)))
   refine Q01 rfl ?_
   obtain ⟨k0,_,_,_,_,_⟩:=(HQ.out W hW).bx
   refine Q02 (u:=.bool nx) ?_ ((Q00 rfl).2 rfl)
   simp[go_sem,e16,k0]
  refine ⟨fun A W hW hag hdep=>?_,?_⟩
  ·have e3:A.tmps[3]?.getD undef=.pointer (some ⟨(w.heap.size+1),0,none⟩):=Q03 (hag.keep (t:=3) (by kernel_rfl) rfl)
   refine Q01 rfl ?_
   refine Q02 (u:=.pointer (some ⟨(w.heap.size+1),0,none⟩)) ?_ ((Q00 rfl).2 rfl)
   simp[go_sem,e3]
  refine ⟨fun A W hW hag hdep=>?_,?_⟩
  ·have e18:A.tmps[18]?.getD undef=.pointer (some ⟨(w.heap.size+1),0,none⟩):=Q03 ((Q00 rfl).1 (hdep 2 (by decide)))
   refine Q01 rfl ?_
   obtain ⟨k0,_,_,_,_,_⟩:=(HQ.out W hW).by_
   refine Q02 (u:=.bool ny) ?_ ((Q00 rfl).2 rfl)
   simp[go_sem,e18,k0]
  refine ⟨fun A W hW hag hdep=>?_,?_⟩
  ·have e17:A.tmps[17]?.getD undef=.bool nx:=Q03 ((Q00 rfl).1 (hdep 1 (by decide)))
   have e19:A.tmps[19]?.getD undef=.bool ny:=Q03 ((Q00 rfl).1 (hdep 3 (by decide)))
   refine Q01 rfl ?_
   refine Q02 (u:=.bool (nx != ny)) ?_ ((Q00 rfl).2 rfl)
   cases nx <;> cases ny <;> simp[go_sem,e17,e19]
  refine ⟨fun A W hW hag hdep=>?_,?_⟩
  ·have e2:A.tmps[2]?.getD undef=.pointer (some ⟨w.heap.size,0,none⟩):=Q03 (hag.keep (t:=2) (by kernel_rfl) rfl)
   refine Q01 rfl ?_
   refine Q02 (u:=.pointer (some ⟨w.heap.size,1,none⟩)) ?_ ((Q00 rfl).2 rfl)
   simp[go_sem,e2]
  refine ⟨fun A W hW hag hdep=>?_,?_⟩
  ·have e21:A.tmps[21]?.getD undef=.pointer (some ⟨w.heap.size,1,none⟩):=Q03 ((Q00 rfl).1 (hdep 5 (by decide)))
   refine Q01 rfl ?_
   obtain ⟨_,k1,_,_,_,_⟩:=(HQ.out W hW).bx
   refine Q02 (u:=.slice ax lx cx) ?_ ((Q00 rfl).2 rfl)
   simp[go_sem,e21,k1]
  refine ⟨fun A W hW hag hdep=>?_,?_⟩
  ·have e3:A.tmps[3]?.getD undef=.pointer (some ⟨(w.heap.size+1),0,none⟩):=Q03 (hag.keep (t:=3) (by kernel_rfl) rfl)
   refine Q01 rfl ?_
   refine Q02 (u:=.pointer (some ⟨(w.heap.size+1),1,none⟩)) ?_ ((Q00 rfl).2 rfl)
   simp[go_sem,e3]
  refine ⟨fun A W hW hag hdep=>?_,?_⟩
  ·have e23:A.tmps[23]?.getD undef=.pointer (some ⟨(w.heap.size+1),1,none⟩):=Q03 ((Q00 rfl).1 (hdep 7 (by decide)))
   refine Q01 rfl ?_
   obtain ⟨_,k1,_,_,_,_⟩:=(HQ.out W hW).by_
   refine Q02 (u:=.slice ay ly cy) ?_ ((Q00 rfl).2 rfl)
   simp[go_sem,e23,k1]
  refine ⟨fun A W hW hag hdep=>?_,?_⟩
  ·have e22:A.tmps[22]?.getD undef=.slice ax lx cx:=Q03 ((Q00 rfl).1 (hdep 6 (by decide)))
   have e24:A.tmps[24]?.getD undef=.slice ay ly cy:=Q03 ((Q00 rfl).1 (hdep 8 (by decide)))
   refine Q01 rfl ?_
   refine Q0j (f:=63) (args:= #[.slice ax lx cx,.slice ay ly cy]) (by simp[go_sem,e22,e24]) ((Qle ax lx cx vx ay ly cy vy W ((Xo0 HW).step (HQ.out W hW).bel) ((Xe1 HW).step (HQ.out W hW).bel) (by omega) (by omega)).mono ?_)
   rintro e w2 ⟨a',n',rfl,hd',hb'⟩
   exact ⟨_,rfl,hb',(Q06 rfl).2 ⟨a',n',n',rfl,Qss hd',hd'⟩⟩
  refine ⟨fun A W hW hag hdep=>?_,?_⟩
  ·have e2:A.tmps[2]?.getD undef=.pointer (some ⟨w.heap.size,0,none⟩):=Q03 (hag.keep (t:=2) (by kernel_rfl) rfl)
   refine Q01 rfl ?_
   refine Q02 (u:=.pointer (some ⟨w.heap.size,2,none⟩)) ?_ ((Q00 rfl).2 rfl)
   simp[go_sem,e2]
  refine ⟨fun A W hW hag hdep=>?_,?_⟩
  ·have e26:A.tmps[26]?.getD undef=.pointer (some ⟨w.heap.size,2,none⟩):=Q03 ((Q00 rfl).1 (hdep 10 (by decide)))
   refine Q01 rfl ?_
   obtain ⟨_,_,k2,_,_,_⟩:=(HQ.out W hW).bx
   refine Q02 (u:=.int .i64 ex) ?_ ((Q00 rfl).2 rfl)
   simp[go_sem,e26,k2]
  refine ⟨fun A W hW hag hdep=>?_,?_⟩
  ·have e3:A.tmps[3]?.getD undef=.pointer (some ⟨(w.heap.size+1),0,none⟩):=Q03 (hag.keep (t:=3) (by kernel_rfl) rfl)
   refine Q01 rfl ?_
   refine Q02 (u:=.pointer (some ⟨(w.heap.size+1),2,none⟩)) ?_ ((Q00 rfl).2 rfl)
   simp[go_sem,e3]
  refine ⟨fun A W hW hag hdep=>?_,?_⟩
  ·have e28:A.tmps[28]?.getD undef=.pointer (some ⟨(w.heap.size+1),2,none⟩):=Q03 ((Q00 rfl).1 (hdep 12 (by decide)))
   refine Q01 rfl ?_
   obtain ⟨_,_,k2,_,_,_⟩:=(HQ.out W hW).by_
   refine Q02 (u:=.int .i64 ey) ?_ ((Q00 rfl).2 rfl)
   simp[go_sem,e28,k2]
  refine ⟨fun A W hW hag hdep=>?_,?_⟩
  ·have e27:A.tmps[27]?.getD undef=.int .i64 ex:=Q03 ((Q00 rfl).1 (hdep 11 (by decide)))
   have e29:A.tmps[29]?.getD undef=.int .i64 ey:=Q03 ((Q00 rfl).1 (hdep 13 (by decide)))
   refine Q01 rfl ?_
   refine Q02 (u:=.int .i64 (ex+ey)) ?_ ((Q00 rfl).2 rfl)
   simp[go_sem,e27,e29,hwr]
  refine ⟨fun A W hW hag hdep=>?_,?_⟩
  ·have e20:A.tmps[20]?.getD undef=.bool (nx != ny):=Q03 ((Q00 rfl).1 (hdep 4 (by decide)))
   have e30:A.tmps[30]?.getD undef=.int .i64 (ex+ey):=Q03 ((Q00 rfl).1 (hdep 14 (by decide)))
   refine Q01 rfl ?_
   obtain ⟨a7,l7,c7,hv7,hl7,hd7⟩:=(Q06 rfl).1 (hdep 9 (by decide))
   have e25:=Q03 hv7
   refine Q02 (u:=.agg #[.bool (nx != ny),.slice a7 l7 c7,.int .i64 (ex+ey)]) ?_ ((Q06 rfl).2 ⟨_,a7,l7,c7,_,_,rfl,hd7,(Xo0 HC),(Xe1 HC)⟩)
   simp[go_sem,e20,e25,e30]
  exact trivial
 ·intro A W hW hag hdep
  obtain ⟨n8,a8,l8,c8,q8,v8,hv8,hd8,hcn8,hD8⟩:=(Q06 rfl).1 (hdep 15 (by decide))
  have e31:=Q03 hv8
  have e4:A.tmps[4]?.getD undef=.pointer (some ⟨(w.heap.size+2),0,none⟩):=Q03 (hag.keep (t:=4) (by kernel_rfl) rfl)
  have hN8:=(HQ.out W hW).br
  have k0:=hN8.c0
  have f0:=hN8.f0
  have f1:=hN8.f1
  have f2:=hN8.f2
  have d1:=hN8.d1 (.bool n8)
  have d2:=hN8.d2 (.bool n8) (.slice a8 l8 c8)
  refine Q2f (w':=(((W.setCell ⟨(w.heap.size+2),0,none⟩ (.bool n8)).setCell ⟨(w.heap.size+2),1,none⟩ (.slice a8 l8 c8)).setCell ⟨(w.heap.size+2),2,none⟩ (.int .i64 q8))) (by simp[go_sem,e4,e31,k0,f0,f1,f2,d1,d2]) ?_
  exact Q4l (by omega) (HQ.out W hW).bel hN8 hd8 hcn8 hD8
 intro vs W1 hfin
 simp only[Q10,Act.put,List.setIfInBounds_toArray,List.set_cons_zero,List.set_cons_succ]
 obtain ⟨n9,a9,l9,c9,e9,v9,hN9,hd9,hcn9,hD9,hb9⟩:=hfin
 have k0:=hN9.c0
 have k1:=hN9.c1
 have k2:=hN9.c2
 have HE:=Xh4 hd9 hcn9 hD9 hb9
 clear hN9 hd9 hcn9 hD9 hb9
 go_wp2_with fail
 exact ⟨rfl,.agg #[.bool n9,.slice a9 l9 c9,.int .i64 e9],by simp[results,go_sem,k0,k1,k2],_,rfl,⟨n9,a9,l9,c9,e9,v9,rfl,(Xo0 HE),(Xo1 HE),(Xo2 HE)⟩,(Xe3 HE)⟩
theorem Q7e (nx:Bool) (ax:Option Addr) (lx cx:Nat) (ex:Int) (vx:Nat) (ny:Bool) (ay:Option Addr) (ly cy:Nat) (ey:Int) (vy:Nat) (w:World) (h1:Q0l w ax lx cx vx) (h2:Q0l w ay ly cy vy) (c1:Q37 nx vx ex) (c2:Q37 ny vy ey) (T:Nat) (b1:bnd T (dy (sgn nx vx) ex)) (b2:bnd T (dy (sgn ny vy) ey)) (hT:T<=500000):
 Calls Tryz.prog 25 #[.agg #[.bool nx,.slice ax lx cx,.int .i64 ex],.agg #[.bool ny,.slice ay ly cy,.int .i64 ey]] w (Qgm w (dy (sgn nx vx) ex+dy (sgn ny vy) ey)):=by
 obtain ⟨g1,g2,g3⟩:=Qbp (k:=31250) c1 b1 (by omega)
 obtain ⟨g4,g5,g6⟩:=Qbp (k:=31250) c2 b2 (by omega)
 rw[h1.len] at g1
 rw[h2.len] at g4
 have hQ:=fun W=>(Qbr w (.bool nx) (.slice ax lx cx) (.int .i64 ex) (.bool ny) (.slice ay ly cy) (.int .i64 ey) 56 56 56).step (W':=W)
 obtain ⟨W0,hW0⟩:∃W0,((w.alloc (.cells #[.bool nx,.slice ax lx cx,.int .i64 ex] 56)).alloc (.cells #[.bool ny,.slice ay ly cy,.int .i64 ey] 56)).alloc (.cells #[.bool false,.slice none 0 0,.int .i64 0] 56)=W0:=⟨_,rfl⟩
 rw[hW0] at hQ
 have HQ:=Lib.hid hQ
 have hx0:=fun h=>Q0l.none_of h1 h
 have hy0:=fun h=>Q0l.none_of h2 h
 by_cases hvx:vx=0
 ·obtain rfl:=hx0 hvx
  have hD:dy (sgn ny vy) ey=dy (sgn nx vx) ex+dy (sgn ny vy) ey:=by rw[Q95 nx ex hvx,Dyadic.zero_add]
  have HD:=Xh3 hD c2 h2
  clear hD h1 h2 c1 c2 b1 b2 hx0 hy0 hvx
  have xc1:=(HQ.out W0 (Below.refl _ _)).bx.c1
  have yc0:=(HQ.out W0 (Below.refl _ _)).by_.c0
  have yc1:=(HQ.out W0 (Below.refl _ _)).by_.c1
  have yc2:=(HQ.out W0 (Below.refl _ _)).by_.c2
  have rc0:=(HQ.out W0 (Below.refl _ _)).br.c0
  have rc1:=(HQ.out W0 (Below.refl _ _)).br.c1
  have rc2:=(HQ.out W0 (Below.refl _ _)).br.c2
  have rf0:=(HQ.out W0 (Below.refl _ _)).br.f0
  have rf1:=(HQ.out W0 (Below.refl _ _)).br.f1
  have rf2:=(HQ.out W0 (Below.refl _ _)).br.f2
  have rd1:=(HQ.out W0 (Below.refl _ _)).br.d1 (.bool ny)
  have rd2:=(HQ.out W0 (Below.refl _ _)).br.d2 (.bool ny) (.slice ay ly cy)
  go_enter Tryz.func25,Tryz.ntmps25
  go_wp2_with fail
  have hS:=(HQ.out W0 (Below.refl _ _)).br.store (.bool ny) (.slice ay ly cy) (.int .i64 ey)
  have k0:=hS.c0
  have k1:=hS.c1
  have k2:=hS.c2
  have hbz:=Q04.below (HQ.out W0 (Below.refl _ _)).bel (show w.heap.size<=w.heap.size+2 by omega) (.bool ny) (.slice ay ly cy) (.int .i64 ey)
  exact ⟨rfl,.agg #[.bool ny,.slice ay ly cy,.int .i64 ey],by simp[results,go_sem,k0,k1,k2],_,rfl,⟨_,_,_,_,_,_,rfl,((Xe2 HD).step (HQ.out W0 (Below.refl _ _)).bel).box (HQ.out W0 (Below.refl _ _)).br _ _ _,(Xo1 HD),(Xo0 HD)⟩,hbz⟩
 have hlx:((lx:Int)==0)=false:=by
  rw[beq_eq_false_iff_ne]
  intro e
  exact hvx (h1.zero_of (by omega))
 by_cases hvy:vy=0
 ·obtain rfl:=hy0 hvy
  have hD:dy (sgn nx vx) ex=dy (sgn nx vx) ex+dy (sgn ny vy) ey:=by rw[Q95 ny ey hvy,Dyadic.add_zero]
  have HD:=Xh3 hD c1 h1
  clear hD h1 h2 c1 c2 b1 b2 hx0 hy0 hvy hvx
  have xc0:=(HQ.out W0 (Below.refl _ _)).bx.c0
  have xc1:=(HQ.out W0 (Below.refl _ _)).bx.c1
  have xc2:=(HQ.out W0 (Below.refl _ _)).bx.c2
  have yc1:=(HQ.out W0 (Below.refl _ _)).by_.c1
  have rc0:=(HQ.out W0 (Below.refl _ _)).br.c0
  have rc1:=(HQ.out W0 (Below.refl _ _)).br.c1
  have rc2:=(HQ.out W0 (Below.refl _ _)).br.c2
  have rf0:=(HQ.out W0 (Below.refl _ _)).br.f0
  have rf1:=(HQ.out W0 (Below.refl _ _)).br.f1
  have rf2:=(HQ.out W0 (Below.refl _ _)).br.f2
  have rd1:=(HQ.out W0 (Below.refl _ _)).br.d1 (.bool nx)
  have rd2:=(HQ.out W0 (Below.refl _ _)).br.d2 (.bool nx) (.slice ax lx cx)
  go_enter Tryz.func25,Tryz.ntmps25
  go_wp2_with fail
  have hS:=(HQ.out W0 (Below.refl _ _)).br.store (.bool nx) (.slice ax lx cx) (.int .i64 ex)
  have k0:=hS.c0
  have k1:=hS.c1
  have k2:=hS.c2
  have hbz:=Q04.below (HQ.out W0 (Below.refl _ _)).bel (show w.heap.size<=w.heap.size+2 by omega) (.bool nx) (.slice ax lx cx) (.int .i64 ex)
  exact ⟨rfl,.agg #[.bool nx,.slice ax lx cx,.int .i64 ex],by simp[results,go_sem,k0,k1,k2],_,rfl,⟨_,_,_,_,_,_,rfl,((Xe2 HD).step (HQ.out W0 (Below.refl _ _)).bel).box (HQ.out W0 (Below.refl _ _)).br _ _ _,(Xo1 HD),(Xo0 HD)⟩,hbz⟩
 have hly:((ly:Int)==0)=false:=by
  rw[beq_eq_false_iff_ne]
  intro e
  exact hvy (h2.zero_of (by omega))
 obtain ⟨ee,hee⟩:∃ee,min ex ey=ee:=⟨_,rfl⟩
 obtain ⟨p,hp⟩:∃p:Nat,ex-ee=(p:Int):=⟨(ex-ee).toNat,by omega⟩
 obtain ⟨q,hq⟩:∃q:Nat,ey-ee=(q:Int):=⟨(ey-ee).toNat,by omega⟩
 have hp2:p<=1000000:=by omega
 have hq2:q<=1000000:=by omega
 have hee1: -1000000<=ee:=by omega
 have hee2:ee<=1000000:=by omega
 have hDx:=Qw5 nx vx (e:=ex) (f:=ee) (k:=p) (by omega)
 have hDy:=Qw5 ny vy (e:=ey) (f:=ee) (k:=q) (by omega)
 obtain ⟨X,hX⟩:∃X,vx*2^p=X:=⟨_,rfl⟩
 obtain ⟨Y,hY⟩:∃Y,vy*2^q=Y:=⟨_,rfl⟩
 rw[hX] at hDx
 rw[hY] at hDy
 have hw1:IntKind.i64.wrap (p:Int)=(p:Int):=by rw[IntKind.wrap_i64];omega
 have hw2:IntKind.i64.wrap (q:Int)=(q:Int):=by rw[IntKind.wrap_i64];omega
 have HW:=Xh2 h1 h2
 have HV:=Xh2 hX hY
 have xc:=(HQ.out W0 (Below.refl _ _)).bx
 have yc:=(HQ.out W0 (Below.refl _ _)).by_
 have xc1:=xc.c1
 have yc1:=yc.c1
 have xc2:=xc.c2
 have yc2:=yc.c2
 rw[hDx,hDy]
 obtain ⟨D,hD⟩:∃D,dy (sgn nx X) ee+dy (sgn ny Y) ee=D:=⟨_,rfl⟩
 rw[hD]
 have HD:=Lib.hid hD
 clear h1 h2 c1 c2 b1 b2 hx0 hy0 hvy hvx hX hY hDx hDy hD xc yc g2 g3 g5 g6
 go_enter Tryz.func25,Tryz.ntmps25
 go_upto_region 6 with fail
 refine Q0y (E:=Qi7) (fun _=>Below.refl _ _) (by kernel_rfl) (fun W=>Below W0.heap.size W0 W) (fun _ _ h h'=>Below.next0 h h') (Q6k [.pointer (some ⟨w.heap.size,1,none⟩),.slice ax lx cx,.pointer (some ⟨w.heap.size,2,none⟩),.int .i64 ex,.int .i64 ee,.int .i64 (p:Int),undef,.pointer (some ⟨(w.heap.size+1),1,none⟩),.slice ay ly cy,.pointer (some ⟨(w.heap.size+1),2,none⟩),.int .i64 ey,.int .i64 ee,.int .i64 (q:Int),undef,undef,undef] (Q5o [(6,SlD (lx+p / 32+1) X),(14,SlD (lx+p / 32+1) X),(13,SlD (ly+q / 32+1) Y),(15,SlD (ly+q / 32+1) Y)])) (Q0q (Q1c (Qut (SlD.stable _ _) (SlD.stable _ _) (SlD.stable _ _) (SlD.stable _ _)))) (Q5x (by kernel_rfl)) (by kernel_rfl) (Q08 W0) ?_ ?_
 ·skip
  refine ⟨fun A W hW hag hdep=>?_,?_⟩
  ·have e2:A.tmps[2]?.getD undef=.pointer (some ⟨w.heap.size,0,none⟩):=Q03 (hag.keep (t:=2) (by kernel_rfl) rfl)
   refine Q01 rfl ?_
   refine Q02 (u:=.pointer (some ⟨w.heap.size,1,none⟩)) ?_ ((Q00 rfl).2 rfl)
   simp[go_sem,e2]
  refine ⟨fun A W hW hag hdep=>?_,?_⟩
  ·have e23:A.tmps[23]?.getD undef=.pointer (some ⟨w.heap.size,1,none⟩):=Q03 ((Q00 rfl).1 (hdep 0 (by decide)))
   refine Q01 rfl ?_
   obtain ⟨_,k1,_,_,_,_⟩:=(HQ.out W hW).bx
   refine Q02 (u:=.slice ax lx cx) ?_ ((Q00 rfl).2 rfl)
   simp[go_sem,e23,k1]
  refine ⟨fun A W hW hag hdep=>?_,?_⟩
  ·have e2:A.tmps[2]?.getD undef=.pointer (some ⟨w.heap.size,0,none⟩):=Q03 (hag.keep (t:=2) (by kernel_rfl) rfl)
   refine Q01 rfl ?_
   refine Q02 (u:=.pointer (some ⟨w.heap.size,2,none⟩)) ?_ ((Q00 rfl).2 rfl)
   simp[go_sem,e2]
  refine ⟨fun A W hW hag hdep=>?_,?_⟩
  ·have e25:A.tmps[25]?.getD undef=.pointer (some ⟨w.heap.size,2,none⟩):=Q03 ((Q00 rfl).1 (hdep 2 (by decide)))
   refine Q01 rfl ?_
   obtain ⟨_,_,k2,_,_,_⟩:=(HQ.out W hW).bx
   refine Q02 (u:=.int .i64 ex) ?_ ((Q00 rfl).2 rfl)
   simp[go_sem,e25,k2]
  refine ⟨fun A W hW hag hdep=>?_,?_⟩
  ·have e5:A.tmps[5]?.getD undef=.int .i64 ee:=Q03 (hag.keep (t:=5) (by kernel_rfl) rfl)
   refine Q01 rfl ?_
   refine Q02 (u:=.int .i64 ee) ?_ ((Q00 rfl).2 rfl)
   simp[go_sem,e5]
  refine ⟨fun A W hW hag hdep=>?_,?_⟩
  ·have e26:A.tmps[26]?.getD undef=.int .i64 ex:=Q03 ((Q00 rfl).1 (hdep 3 (by decide)))
   have e27:A.tmps[27]?.getD undef=.int .i64 ee:=Q03 ((Q00 rfl).1 (hdep 4 (by decide)))
   refine Q01 rfl ?_
   refine Q02 (u:=.int .i64 (p:Int)) ?_ ((Q00 rfl).2 rfl)
   simp[go_sem,e26,e27,hp,hw1]
  refine ⟨fun A W hW hag hdep=>?_,?_⟩
  ·have e24:A.tmps[24]?.getD undef=.slice ax lx cx:=Q03 ((Q00 rfl).1 (hdep 1 (by decide)))
   have e28:A.tmps[28]?.getD undef=.int .i64 (p:Int):=Q03 ((Q00 rfl).1 (hdep 5 (by decide)))
   refine Q01 rfl ?_
   refine Q0j (f:=57) (args:= #[.slice ax lx cx,.int .i64 (p:Int)]) (by simp[go_sem,e24,e28]) ((Qap ax lx cx vx p W ((Xo0 HW).step (HQ.out W hW).bel) (by omega) (by omega)).mono ?_)
   rintro e w2 ⟨a',n',rfl,hn',hd',hb'⟩
   rw[(Xo0 HV)] at hd'
   exact ⟨_,rfl,hb',(Q06 rfl).2 ⟨a',n',n',rfl,hn',hd'⟩⟩
  refine ⟨fun A W hW hag hdep=>?_,?_⟩
  ·have e3:A.tmps[3]?.getD undef=.pointer (some ⟨(w.heap.size+1),0,none⟩):=Q03 (hag.keep (t:=3) (by kernel_rfl) rfl)
   refine Q01 rfl ?_
   refine Q02 (u:=.pointer (some ⟨(w.heap.size+1),1,none⟩)) ?_ ((Q00 rfl).2 rfl)
   simp[go_sem,e3]
  refine ⟨fun A W hW hag hdep=>?_,?_⟩
  ·have e30:A.tmps[30]?.getD undef=.pointer (some ⟨(w.heap.size+1),1,none⟩):=Q03 ((Q00 rfl).1 (hdep 7 (by decide)))
   refine Q01 rfl ?_
   obtain ⟨_,k1,_,_,_,_⟩:=(HQ.out W hW).by_
   refine Q02 (u:=.slice ay ly cy) ?_ ((Q00 rfl).2 rfl)
   simp[go_sem,e30,k1]
  refine ⟨fun A W hW hag hdep=>?_,?_⟩
  ·have e3:A.tmps[3]?.getD undef=.pointer (some ⟨(w.heap.size+1),0,none⟩):=Q03 (hag.keep (t:=3) (by kernel_rfl) rfl)
   refine Q01 rfl ?_
   refine Q02 (u:=.pointer (some ⟨(w.heap.size+1),2,none⟩)) ?_ ((Q00 rfl).2 rfl)
   simp[go_sem,e3]
  refine ⟨fun A W hW hag hdep=>?_,?_⟩
  ·have e32:A.tmps[32]?.getD undef=.pointer (some ⟨(w.heap.size+1),2,none⟩):=Q03 ((Q00 rfl).1 (hdep 9 (by decide)))
   refine Q01 rfl ?_
   obtain ⟨_,_,k2,_,_,_⟩:=(HQ.out W hW).by_
   refine Q02 (u:=.int .i64 ey) ?_ ((Q00 rfl).2 rfl)
   simp[go_sem,e32,k2]
  refine ⟨fun A W hW hag hdep=>?_,?_⟩
  ·have e5:A.tmps[5]?.getD undef=.int .i64 ee:=Q03 (hag.keep (t:=5) (by kernel_rfl) rfl)
   refine Q01 rfl ?_
   refine Q02 (u:=.int .i64 ee) ?_ ((Q00 rfl).2 rfl)
   simp[go_sem,e5]
  refine ⟨fun A W hW hag hdep=>?_,?_⟩
  ·have e33:A.tmps[33]?.getD undef=.int .i64 ey:=Q03 ((Q00 rfl).1 (hdep 10 (by decide)))
   have e34:A.tmps[34]?.getD undef=.int .i64 ee:=Q03 ((Q00 rfl).1 (hdep 11 (by decide)))
   refine Q01 rfl ?_
   refine Q02 (u:=.int .i64 (q:Int)) ?_ ((Q00 rfl).2 rfl)
   simp[go_sem,e33,e34,hq,hw2]
  refine ⟨fun A W hW hag hdep=>?_,?_⟩
  ·have e31:A.tmps[31]?.getD undef=.slice ay ly cy:=Q03 ((Q00 rfl).1 (hdep 8 (by decide)))
   have e35:A.tmps[35]?.getD undef=.int .i64 (q:Int):=Q03 ((Q00 rfl).1 (hdep 12 (by decide)))
   refine Q01 rfl ?_
   refine Q0j (f:=57) (args:= #[.slice ay ly cy,.int .i64 (q:Int)]) (by simp[go_sem,e31,e35]) ((Qap ay ly cy vy q W ((Xe1 HW).step (HQ.out W hW).bel) (by omega) (by omega)).mono ?_)
   rintro e w2 ⟨a',n',rfl,hn',hd',hb'⟩
   rw[(Xe1 HV)] at hd'
   exact ⟨_,rfl,hb',(Q06 rfl).2 ⟨a',n',n',rfl,hn',hd'⟩⟩
  refine ⟨fun A W hW hag hdep=>?_,?_⟩
  ·refine Q01 rfl ?_
   have e29:=(Q06 rfl).1 (hdep 6 (by decide))
   refine Q02 (u:=A.eval (.tmp 29)) ?_ ((Q06 rfl).2 e29)
   simp[go_sem,Act.eval]
  refine ⟨fun A W hW hag hdep=>?_,?_⟩
  ·refine Q01 rfl ?_
   have e36:=(Q06 rfl).1 (hdep 13 (by decide))
   refine Q02 (u:=A.eval (.tmp 36)) ?_ ((Q06 rfl).2 e36)
   simp[go_sem,Act.eval]
  exact trivial
 intro vs W1 hW1 hvs
 obtain ⟨a6,n6,c6,hv6,hn6,hd6⟩:=(Q06 rfl).1 (hvs 14 (by decide))
 obtain ⟨a7,n7,c7,hv7,hn7,hd7⟩:=(Q06 rfl).1 (hvs 15 (by decide))
 simp only[Q10,Act.put,List.setIfInBounds_toArray,List.set_cons_zero,List.set_cons_succ]
 rw[hv6,hv7]
 have hl6:=hd6.len
 have hl7:=hd7.len
 have hn6':n6<=62501:=by omega
 have hn7':n7<=62501:=by omega
 have hsum:(dig (2^32) (X+Y)).length<=100000:=Nat.le_trans (Qj5 (k:=62501) (by omega) (by omega)) (by decide)
 have hd1:(dig (2^32) (X-Y)).length<=100000:=Nat.le_trans (Q1m (by decide) (Nat.sub_le X Y)) (by omega)
 have hd2:(dig (2^32) (Y-X)).length<=100000:=Nat.le_trans (Q1m (by decide) (Nat.sub_le Y X)) (by omega)
 have HQ1:=Lib.hid (fun W (h:Below W1.heap.size W1 W)=>(HQ.out W1 hW1).step h)
 have HD6:=Xh5 hd6 hd7 hsum hd1 hd2
 have xc0:=(HQ.out W1 hW1).bx.c0
 have yc0:=(HQ.out W1 hW1).by_.c0
 clear hd6 hd7 hsum hd1 hd2 hv6 hv7 hn6 hn7 hvs hl6 hl7 hQ hW0 xc1 yc1 xc2 yc2 hW1 HQ hlx hly hee hp hq hp2 hq2 hw1 hw2 g1 g4
 by_cases hneg:nx=ny
 ·subst hneg
  have hnn:(nx==nx)=true:=by simp
  have hs:dy (sgn nx (X+Y)) ee=D:=by rw[<-HD.out,Qj6]
  have HS:=Lib.hid hs
  clear hs
  go_upto_region 8 with fail
  refine Q1o (by kernel_rfl) 7 rfl (fun W=>Below W1.heap.size W1 W) (fun _ _ h h'=>Below.next0 h h') (Q6k [.pointer (some ⟨w.heap.size,0,none⟩),.bool nx,.slice a6 n6 c6,.slice a7 n7 c7,undef,.int .i64 ee,undef] (Q5o [(4,SlD 100000 (X+Y)),(6,fun u w=>Q4h w u D)])) (Q0q (Q1c (Qj3 (SlD.stable _ _) (Q1d _)))) (Quu w (w.heap.size+2) D) (by kernel_rfl) (by kernel_rfl) (by kernel_rfl) (by kernel_rfl) (Q08 W1) ?_ ?_ ?_
  ·skip
   refine ⟨fun A W hW hag hdep=>?_,?_⟩
   ·have e2:A.tmps[2]?.getD undef=.pointer (some ⟨w.heap.size,0,none⟩):=Q03 (hag.keep (t:=2) (by kernel_rfl) rfl)
    refine Q01 rfl ?_
    refine Q02 (u:=.pointer (some ⟨w.heap.size,0,none⟩)) ?_ ((Q00 rfl).2 rfl)
    simp[go_sem,e2]
   refine ⟨fun A W hW hag hdep=>?_,?_⟩
   ·have e42:A.tmps[42]?.getD undef=.pointer (some ⟨w.heap.size,0,none⟩):=Q03 ((Q00 rfl).1 (hdep 0 (by decide)))
    refine Q01 rfl ?_
    obtain ⟨k0,_,_,_,_,_⟩:=(HQ1.out W hW).bx
    refine Q02 (u:=.bool nx) ?_ ((Q00 rfl).2 rfl)
    simp[go_sem,e42,k0]
   refine ⟨fun A W hW hag hdep=>?_,?_⟩
   ·have e6:A.tmps[6]?.getD undef=.slice a6 n6 c6:=Q03 (hag.keep (t:=6) (by kernel_rfl) rfl)
    refine Q01 rfl ?_
    refine Q02 (u:=.slice a6 n6 c6) ?_ ((Q00 rfl).2 rfl)
    simp[go_sem,e6]
   refine ⟨fun A W hW hag hdep=>?_,?_⟩
   ·have e7:A.tmps[7]?.getD undef=.slice a7 n7 c7:=Q03 (hag.keep (t:=7) (by kernel_rfl) rfl)
    refine Q01 rfl ?_
    refine Q02 (u:=.slice a7 n7 c7) ?_ ((Q00 rfl).2 rfl)
    simp[go_sem,e7]
   refine ⟨fun A W hW hag hdep=>?_,?_⟩
   ·have e44:A.tmps[44]?.getD undef=.slice a6 n6 c6:=Q03 ((Q00 rfl).1 (hdep 2 (by decide)))
    have e45:A.tmps[45]?.getD undef=.slice a7 n7 c7:=Q03 ((Q00 rfl).1 (hdep 3 (by decide)))
    refine Q01 rfl ?_
    refine Q0j (f:=59) (args:= #[.slice a6 n6 c6,.slice a7 n7 c7]) (by simp[go_sem,e44,e45]) ((Qld a6 n6 c6 X a7 n7 c7 Y W ((Xo0 HD6).step hW) ((Xo1 HD6).step hW) (by omega) (by omega)).mono ?_)
    rintro e w2' ⟨a',n',rfl,hd',hb'⟩
    exact ⟨_,rfl,hb',(Q06 rfl).2 ⟨a',n',n',rfl,by rw[<-hd'.len];exact (Xo2 HD6),hd'⟩⟩
   refine ⟨fun A W hW hag hdep=>?_,?_⟩
   ·have e5:A.tmps[5]?.getD undef=.int .i64 ee:=Q03 (hag.keep (t:=5) (by kernel_rfl) rfl)
    refine Q01 rfl ?_
    refine Q02 (u:=.int .i64 ee) ?_ ((Q00 rfl).2 rfl)
    simp[go_sem,e5]
   refine ⟨fun A W hW hag hdep=>?_,?_⟩
   ·have e43:A.tmps[43]?.getD undef=.bool nx:=Q03 ((Q00 rfl).1 (hdep 1 (by decide)))
    have e47:A.tmps[47]?.getD undef=.int .i64 ee:=Q03 ((Q00 rfl).1 (hdep 5 (by decide)))
    obtain ⟨a5,l5,c5,hv5,hl5,hd5⟩:=(Q06 rfl).1 (hdep 4 (by decide))
    have e46:=Q03 hv5
    refine Q01 rfl ?_
    refine Q0j (f:=58) (args:= #[.bool nx,.slice a5 l5 c5,.int .i64 ee]) (by simp[go_sem,e43,e47,e46]) ((Q6j nx a5 l5 c5 _ ee W hd5 (by omega) (by omega) (by omega)).mono ?_)
    rintro e w2' ⟨n',a',l',c',v',e',rfl,ho',hd',_,_,_,hb'⟩
    obtain ⟨hc',hv'⟩:=Qar ho'
    exact ⟨_,rfl,hb',(Q06 rfl).2 ⟨_,_,_,_,_,_,rfl,hd',hc',hv'.trans HS.out⟩⟩
   exact trivial
  ·intro A W hW hag hdep
   obtain ⟨n8,a8,l8,c8,q8,v8,hv8,hd8,hcn8,hD8⟩:=(Q06 rfl).1 (hdep 6 (by decide))
   have e48:=Q03 hv8
   have e4:A.tmps[4]?.getD undef=.pointer (some ⟨(w.heap.size+2),0,none⟩):=Q03 (hag.keep (t:=4) (by kernel_rfl) rfl)
   have hN8:=(HQ1.out W hW).br
   have k0:=hN8.c0
   have f0:=hN8.f0
   have f1:=hN8.f1
   have f2:=hN8.f2
   have d1:=hN8.d1 (.bool n8)
   have d2:=hN8.d2 (.bool n8) (.slice a8 l8 c8)
   refine Q2f (w':=(((W.setCell ⟨(w.heap.size+2),0,none⟩ (.bool n8)).setCell ⟨(w.heap.size+2),1,none⟩ (.slice a8 l8 c8)).setCell ⟨(w.heap.size+2),2,none⟩ (.int .i64 q8))) (by simp[go_sem,e4,e48,k0,f0,f1,f2,d1,d2]) ?_
   exact Q4l (by omega) (HQ1.out W hW).bel hN8 hd8 hcn8 hD8
  intro vs W3 hfin
  simp only[Q10,Act.put,List.setIfInBounds_toArray,List.set_cons_zero,List.set_cons_succ]
  clear hnn
  obtain ⟨n9,a9,l9,c9,e9,v9,hN9,hd9,hcn9,hD9,hb9⟩:=hfin
  have k0:=hN9.c0
  have k1:=hN9.c1
  have k2:=hN9.c2
  have HE:=Xh4 hd9 hcn9 hD9 hb9
  clear hN9 hd9 hcn9 hD9 hb9
  go_wp2_with fail
  exact ⟨rfl,.agg #[.bool n9,.slice a9 l9 c9,.int .i64 e9],by simp[results,go_sem,k0,k1,k2],_,rfl,⟨n9,a9,l9,c9,e9,v9,rfl,(Xo0 HE),(Xo1 HE),(Xo2 HE)⟩,(Xe3 HE)⟩
 ·have hnn:(nx==ny)=false:=by cases nx <;> cases ny <;> simp_all
  have hcm:=Qmx a6 n6 c6 X a7 n7 c7 Y W1 (Xo0 HD6) (Xo1 HD6) (by omega)
  by_cases hgt:Y<X
  ·have hcv:Qmw X Y=1:=by unfold Qmw;rw[if_neg (by omega),if_pos hgt]
   have hs:dy (sgn nx (X-Y)) ee=D:=by rw[<-HD.out,Q7d hneg (Nat.le_of_lt hgt)]
   rw[hcv] at hcm
   have HS:=Xh3 hs hcm hgt
   clear hs hcm hcv hneg hgt
   go_upto_block 0 with (go_at_call_of 60 (Value.slice a6 n6 c6);refine (Xo1 HS).mono ?_;rintro r w2 ⟨rfl,hb2⟩;have H2:=Lib.hid hb2;clear hb2)
   have HQ2:=Lib.hid (fun W (h:Below w2.heap.size w2 W)=>(HQ1.out w2 H2.out).step h)
   go_upto_region 11 with fail
   refine Q1o (by kernel_rfl) 7 rfl (fun W=>Below w2.heap.size w2 W) (fun _ _ h h'=>Below.next0 h h') (Q6k [.pointer (some ⟨w.heap.size,0,none⟩),.bool nx,.slice a6 n6 c6,.slice a7 n7 c7,undef,.int .i64 ee,undef] (Q5o [(4,SlD 100000 (X-Y)),(6,fun u w=>Q4h w u D)])) (Q0q (Q1c (Qj3 (SlD.stable _ _) (Q1d _)))) (Quu w (w.heap.size+2) D) (by kernel_rfl) (by kernel_rfl) (by kernel_rfl) (by kernel_rfl) (Q08 w2) ?_ ?_ ?_
   ·skip
    refine ⟨fun A W hW hag hdep=>?_,?_⟩
    ·have e2:A.tmps[2]?.getD undef=.pointer (some ⟨w.heap.size,0,none⟩):=Q03 (hag.keep (t:=2) (by kernel_rfl) rfl)
     refine Q01 rfl ?_
     refine Q02 (u:=.pointer (some ⟨w.heap.size,0,none⟩)) ?_ ((Q00 rfl).2 rfl)
     simp[go_sem,e2]
    refine ⟨fun A W hW hag hdep=>?_,?_⟩
    ·have e54:A.tmps[54]?.getD undef=.pointer (some ⟨w.heap.size,0,none⟩):=Q03 ((Q00 rfl).1 (hdep 0 (by decide)))
     refine Q01 rfl ?_
     obtain ⟨k0,_,_,_,_,_⟩:=(HQ2.out W hW).bx
     refine Q02 (u:=.bool nx) ?_ ((Q00 rfl).2 rfl)
     simp[go_sem,e54,k0]
    refine ⟨fun A W hW hag hdep=>?_,?_⟩
    ·have e6:A.tmps[6]?.getD undef=.slice a6 n6 c6:=Q03 (hag.keep (t:=6) (by kernel_rfl) rfl)
     refine Q01 rfl ?_
     refine Q02 (u:=.slice a6 n6 c6) ?_ ((Q00 rfl).2 rfl)
     simp[go_sem,e6]
    refine ⟨fun A W hW hag hdep=>?_,?_⟩
    ·have e7:A.tmps[7]?.getD undef=.slice a7 n7 c7:=Q03 (hag.keep (t:=7) (by kernel_rfl) rfl)
     refine Q01 rfl ?_
     refine Q02 (u:=.slice a7 n7 c7) ?_ ((Q00 rfl).2 rfl)
     simp[go_sem,e7]
    refine ⟨fun A W hW hag hdep=>?_,?_⟩
    ·have e56:A.tmps[56]?.getD undef=.slice a6 n6 c6:=Q03 ((Q00 rfl).1 (hdep 2 (by decide)))
     have e57:A.tmps[57]?.getD undef=.slice a7 n7 c7:=Q03 ((Q00 rfl).1 (hdep 3 (by decide)))
     refine Q01 rfl ?_
     refine Q0j (f:=61) (args:= #[.slice a6 n6 c6,.slice a7 n7 c7]) (by simp[go_sem,e56,e57]) ((Qd9 a6 n6 c6 X a7 n7 c7 Y W ((Xo0 HD6).step (Below.next0 H2.out hW)) ((Xo1 HD6).step (Below.next0 H2.out hW)) (by omega) (Nat.le_of_lt (Xe2 HS))).mono ?_)
     rintro e w2' ⟨a',n',rfl,hd',hb'⟩
     exact ⟨_,rfl,hb',(Q06 rfl).2 ⟨a',n',n',rfl,by rw[<-hd'.len];exact (Xo3 HD6),hd'⟩⟩
    refine ⟨fun A W hW hag hdep=>?_,?_⟩
    ·have e5:A.tmps[5]?.getD undef=.int .i64 ee:=Q03 (hag.keep (t:=5) (by kernel_rfl) rfl)
     refine Q01 rfl ?_
     refine Q02 (u:=.int .i64 ee) ?_ ((Q00 rfl).2 rfl)
     simp[go_sem,e5]
    refine ⟨fun A W hW hag hdep=>?_,?_⟩
    ·have e55:A.tmps[55]?.getD undef=.bool nx:=Q03 ((Q00 rfl).1 (hdep 1 (by decide)))
     have e59:A.tmps[59]?.getD undef=.int .i64 ee:=Q03 ((Q00 rfl).1 (hdep 5 (by decide)))
     obtain ⟨a5,l5,c5,hv5,hl5,hd5⟩:=(Q06 rfl).1 (hdep 4 (by decide))
     have e58:=Q03 hv5
     refine Q01 rfl ?_
     refine Q0j (f:=58) (args:= #[.bool nx,.slice a5 l5 c5,.int .i64 ee]) (by simp[go_sem,e55,e59,e58]) ((Q6j nx a5 l5 c5 _ ee W hd5 (by omega) (by omega) (by omega)).mono ?_)
     rintro e w2' ⟨n',a',l',c',v',e',rfl,ho',hd',_,_,_,hb'⟩
     obtain ⟨hc',hv'⟩:=Qar ho'
     exact ⟨_,rfl,hb',(Q06 rfl).2 ⟨_,_,_,_,_,_,rfl,hd',hc',hv'.trans (Xo0 HS)⟩⟩
    exact trivial
   ·intro A W hW hag hdep
    obtain ⟨n8,a8,l8,c8,q8,v8,hv8,hd8,hcn8,hD8⟩:=(Q06 rfl).1 (hdep 6 (by decide))
    have e60:=Q03 hv8
    have e4:A.tmps[4]?.getD undef=.pointer (some ⟨(w.heap.size+2),0,none⟩):=Q03 (hag.keep (t:=4) (by kernel_rfl) rfl)
    have hN8:=(HQ2.out W hW).br
    have k0:=hN8.c0
    have f0:=hN8.f0
    have f1:=hN8.f1
    have f2:=hN8.f2
    have d1:=hN8.d1 (.bool n8)
    have d2:=hN8.d2 (.bool n8) (.slice a8 l8 c8)
    refine Q2f (w':=(((W.setCell ⟨(w.heap.size+2),0,none⟩ (.bool n8)).setCell ⟨(w.heap.size+2),1,none⟩ (.slice a8 l8 c8)).setCell ⟨(w.heap.size+2),2,none⟩ (.int .i64 q8))) (by simp[go_sem,e4,e60,k0,f0,f1,f2,d1,d2]) ?_
    exact Q4l (by omega) (HQ2.out W hW).bel hN8 hd8 hcn8 hD8
   intro vs W3 hfin
   simp only[Q10,Act.put,List.setIfInBounds_toArray,List.set_cons_zero,List.set_cons_succ]
   obtain ⟨n9,a9,l9,c9,e9,v9,hN9,hd9,hcn9,hD9,hb9⟩:=hfin
   have k0:=hN9.c0
   have k1:=hN9.c1
   have k2:=hN9.c2
   have HE:=Xh4 hd9 hcn9 hD9 hb9
   clear hN9 hd9 hcn9 hD9 hb9
   go_wp2_with fail
   exact ⟨rfl,.agg #[.bool n9,.slice a9 l9 c9,.int .i64 e9],by simp[results,go_sem,k0,k1,k2],_,rfl,⟨n9,a9,l9,c9,e9,v9,rfl,(Xo0 HE),(Xo1 HE),(Xo2 HE)⟩,(Xe3 HE)⟩
  ·by_cases hlt:X<Y
   ·have hcv:Qmw X Y= -1:=by unfold Qmw;rw[if_pos hlt]
    have hs:dy (sgn ny (Y-X)) ee=D:=by rw[<-HD.out,<-Q7d (Ne.symm hneg) (Nat.le_of_lt hlt)];exact Dyadic.add_comm _ _
    rw[hcv] at hcm
    have HS:=Xh3 hs hcm hlt
    clear hs hcm hcv hneg hgt hlt
    go_upto_block 0 with (go_at_call_of 60 (Value.slice a6 n6 c6);refine (Xo1 HS).mono ?_;rintro r w2 ⟨rfl,hb2⟩;have H2:=Lib.hid hb2;clear hb2)
    have HQ2:=Lib.hid (fun W (h:Below w2.heap.size w2 W)=>(HQ1.out w2 H2.out).step h)
    go_upto_region 13 with fail
    refine Q1o (by kernel_rfl) 7 rfl (fun W=>Below w2.heap.size w2 W) (fun _ _ h h'=>Below.next0 h h') (Q6k [.pointer (some ⟨(w.heap.size+1),0,none⟩),.bool ny,.slice a7 n7 c7,.slice a6 n6 c6,undef,.int .i64 ee,undef] (Q5o [(4,SlD 100000 (Y-X)),(6,fun u w=>Q4h w u D)])) (Q0q (Q1c (Qj3 (SlD.stable _ _) (Q1d _)))) (Quu w (w.heap.size+2) D) (by kernel_rfl) (by kernel_rfl) (by kernel_rfl) (by kernel_rfl) (Q08 w2) ?_ ?_ ?_
    ·skip
     refine ⟨fun A W hW hag hdep=>?_,?_⟩
     ·have e3:A.tmps[3]?.getD undef=.pointer (some ⟨(w.heap.size+1),0,none⟩):=Q03 (hag.keep (t:=3) (by kernel_rfl) rfl)
      refine Q01 rfl ?_
      refine Q02 (u:=.pointer (some ⟨(w.heap.size+1),0,none⟩)) ?_ ((Q00 rfl).2 rfl)
      simp[go_sem,e3]
     refine ⟨fun A W hW hag hdep=>?_,?_⟩
     ·have e63:A.tmps[63]?.getD undef=.pointer (some ⟨(w.heap.size+1),0,none⟩):=Q03 ((Q00 rfl).1 (hdep 0 (by decide)))
      refine Q01 rfl ?_
      obtain ⟨k0,_,_,_,_,_⟩:=(HQ2.out W hW).by_
      refine Q02 (u:=.bool ny) ?_ ((Q00 rfl).2 rfl)
      simp[go_sem,e63,k0]
     refine ⟨fun A W hW hag hdep=>?_,?_⟩
     ·have e7:A.tmps[7]?.getD undef=.slice a7 n7 c7:=Q03 (hag.keep (t:=7) (by kernel_rfl) rfl)
      refine Q01 rfl ?_
      refine Q02 (u:=.slice a7 n7 c7) ?_ ((Q00 rfl).2 rfl)
      simp[go_sem,e7]
     refine ⟨fun A W hW hag hdep=>?_,?_⟩
     ·have e6:A.tmps[6]?.getD undef=.slice a6 n6 c6:=Q03 (hag.keep (t:=6) (by kernel_rfl) rfl)
      refine Q01 rfl ?_
      refine Q02 (u:=.slice a6 n6 c6) ?_ ((Q00 rfl).2 rfl)
      simp[go_sem,e6]
     refine ⟨fun A W hW hag hdep=>?_,?_⟩
     ·have e65:A.tmps[65]?.getD undef=.slice a7 n7 c7:=Q03 ((Q00 rfl).1 (hdep 2 (by decide)))
      have e66:A.tmps[66]?.getD undef=.slice a6 n6 c6:=Q03 ((Q00 rfl).1 (hdep 3 (by decide)))
      refine Q01 rfl ?_
      refine Q0j (f:=61) (args:= #[.slice a7 n7 c7,.slice a6 n6 c6]) (by simp[go_sem,e65,e66]) ((Qd9 a7 n7 c7 Y a6 n6 c6 X W ((Xo1 HD6).step (Below.next0 H2.out hW)) ((Xo0 HD6).step (Below.next0 H2.out hW)) (by omega) (Nat.le_of_lt (Xe2 HS))).mono ?_)
      rintro e w2' ⟨a',n',rfl,hd',hb'⟩
      exact ⟨_,rfl,hb',(Q06 rfl).2 ⟨a',n',n',rfl,by rw[<-hd'.len];exact (Xe4 HD6),hd'⟩⟩
     refine ⟨fun A W hW hag hdep=>?_,?_⟩
     ·have e5:A.tmps[5]?.getD undef=.int .i64 ee:=Q03 (hag.keep (t:=5) (by kernel_rfl) rfl)
      refine Q01 rfl ?_
      refine Q02 (u:=.int .i64 ee) ?_ ((Q00 rfl).2 rfl)
      simp[go_sem,e5]
     refine ⟨fun A W hW hag hdep=>?_,?_⟩
     ·have e64:A.tmps[64]?.getD undef=.bool ny:=Q03 ((Q00 rfl).1 (hdep 1 (by decide)))
      have e68:A.tmps[68]?.getD undef=.int .i64 ee:=Q03 ((Q00 rfl).1 (hdep 5 (by decide)))
      obtain ⟨a5,l5,c5,hv5,hl5,hd5⟩:=(Q06 rfl).1 (hdep 4 (by decide))
      have e67:=Q03 hv5
      refine Q01 rfl ?_
      refine Q0j (f:=58) (args:= #[.bool ny,.slice a5 l5 c5,.int .i64 ee]) (by simp[go_sem,e64,e68,e67]) ((Q6j ny a5 l5 c5 _ ee W hd5 (by omega) (by omega) (by omega)).mono ?_)
      rintro e w2' ⟨n',a',l',c',v',e',rfl,ho',hd',_,_,_,hb'⟩
      obtain ⟨hc',hv'⟩:=Qar ho'
      exact ⟨_,rfl,hb',(Q06 rfl).2 ⟨_,_,_,_,_,_,rfl,hd',hc',hv'.trans (Xo0 HS)⟩⟩
     exact trivial
    ·intro A W hW hag hdep
     obtain ⟨n8,a8,l8,c8,q8,v8,hv8,hd8,hcn8,hD8⟩:=(Q06 rfl).1 (hdep 6 (by decide))
     have e69:=Q03 hv8
     have e4:A.tmps[4]?.getD undef=.pointer (some ⟨(w.heap.size+2),0,none⟩):=Q03 (hag.keep (t:=4) (by kernel_rfl) rfl)
     have hN8:=(HQ2.out W hW).br
     have k0:=hN8.c0
     have f0:=hN8.f0
     have f1:=hN8.f1
     have f2:=hN8.f2
     have d1:=hN8.d1 (.bool n8)
     have d2:=hN8.d2 (.bool n8) (.slice a8 l8 c8)
     refine Q2f (w':=(((W.setCell ⟨(w.heap.size+2),0,none⟩ (.bool n8)).setCell ⟨(w.heap.size+2),1,none⟩ (.slice a8 l8 c8)).setCell ⟨(w.heap.size+2),2,none⟩ (.int .i64 q8))) (by simp[go_sem,e4,e69,k0,f0,f1,f2,d1,d2]) ?_
     exact Q4l (by omega) (HQ2.out W hW).bel hN8 hd8 hcn8 hD8
    intro vs W3 hfin
    simp only[Q10,Act.put,List.setIfInBounds_toArray,List.set_cons_zero,List.set_cons_succ]
    obtain ⟨n9,a9,l9,c9,e9,v9,hN9,hd9,hcn9,hD9,hb9⟩:=hfin
    have k0:=hN9.c0
    have k1:=hN9.c1
    have k2:=hN9.c2
    have HE:=Xh4 hd9 hcn9 hD9 hb9
    clear hN9 hd9 hcn9 hD9 hb9
    go_wp2_with fail
    exact ⟨rfl,.agg #[.bool n9,.slice a9 l9 c9,.int .i64 e9],by simp[results,go_sem,k0,k1,k2],_,rfl,⟨n9,a9,l9,c9,e9,v9,rfl,(Xo0 HE),(Xo1 HE),(Xo2 HE)⟩,(Xe3 HE)⟩
   ·have hcv:Qmw X Y=0:=by unfold Qmw;rw[if_neg hlt,if_neg hgt]
    have hXY:X=Y:=by omega
    have hs:(0:Dyadic)=D:=by
     rw[<-HD.out,Q7d hneg (by omega),hXY,Nat.sub_self,Q4d];exact (Qi4 ee).symm
    rw[hcv] at hcm
    have HS:=Xh2 hs hcm
    clear hs hcm hcv hneg hgt hlt hXY
    have hrb:=fun W2 (hb:Below W1.heap.size W1 W2)=>HQ1.out W2 hb
    have HRB:=Lib.hid hrb
    clear hrb
    go_wp2_with (go_at_call_of 60 (Value.slice a6 n6 c6);refine (Xe1 HS).mono ?_;rintro r w2 ⟨rfl,hb2⟩;have h3:=HRB.out w2 hb2;have rc0:=h3.br.c0;have rc1:=h3.br.c1;have rc2:=h3.br.c2;have rf0:=h3.br.f0;have rf1:=h3.br.f1;have rf2:=h3.br.f2;have rd1:=h3.br.d1 (.bool false);have rd2:=h3.br.d2 (.bool false) (.slice none 0 0);have H2:=Lib.hid h3;clear h3 hb2)
    have hS:=H2.out.br.store (.bool false) (.slice none 0 0) (.int .i64 0)
    have k0:=hS.c0
    have k1:=hS.c1
    have k2:=hS.c2
    have hbz:=Q04.below H2.out.bel (show w.heap.size<=w.heap.size+2 by omega) (.bool false) (.slice none 0 0) (.int .i64 0)
    exact ⟨rfl,.agg #[.bool false,.slice none 0 0,.int .i64 0],by simp[results,go_sem,k0,k1,k2],_,rfl,⟨false,none,0,0,0,0,rfl,Q0l.nil_ _,⟨fun _=>⟨rfl,rfl⟩,fun h=>absurd rfl h⟩,(Xo0 HS)⟩,hbz⟩
end Go.Proofs.YtdilmfakkppgpaaGreatDoor
