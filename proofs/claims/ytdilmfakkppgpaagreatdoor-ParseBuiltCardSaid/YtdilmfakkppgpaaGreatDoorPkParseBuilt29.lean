/- Part 29 of the proof of LawParseBuilt: RefVal, RefVal2, Ref10A. Condition: as each theorem says; none at the end. -/
import Derived.Test.YtdilmfakkppgpaaGreatDoorPkParseBuilt28
set_option maxRecDepth 100000
set_option maxHeartbeats 16000000
namespace Go.Proofs.YtdilmfakkppgpaaGreatDoor
open Go.RowKit WordsM
structure Quo (w W:World) (x0 x1 x2 y0 y1 y2:Value):Prop where
 bx:Q02 W w.heap.size x0 x1 x2
 by_:Q02 W (w.heap.size+1) y0 y1 y2
 br:Q02 W (w.heap.size+2) (.bool false) (.slice none 0 0) (.int .i64 0)
 lt:w.heap.size+2<W.heap.size
 bel:Bw w W
theorem Quo.step {w W W':World} {x0 x1 x2 y0 y1 y2:Value} (h:Quo w W x0 x1 x2 y0 y1 y2) (hb:Bw W W'):Quo w W' x0 x1 x2 y0 y1 y2:=by
 have B0:=h.lt;exact ⟨h.bx.step hb (by omega),h.by_.step hb (by omega),h.br.step hb (by omega),Ue h.lt hb.size,Below.next0 h.bel hb⟩
theorem Qif (w:World) (x0 x1 x2 y0 y1 y2:Value) (T1 T2 T3:TypeId):Quo w (((w.alloc (.cells #[x0,x1,x2] T1)).alloc (.cells #[y0,y1,y2] T2)).alloc (.cells #[.bool false,.slice none 0 0,.int .i64 0] T3)) x0 x1 x2 y0 y1 y2:=by
 obtain ⟨h1,h2,h3,h4,h5⟩:=Qgf w x0 x1 x2 y0 y1 y2 (.bool false) (.slice none 0 0) (.int .i64 0) T1 T2 T3;exact ⟨h2,h3,h4,by omega,h5⟩
structure Two (w W:World) (x0 x1 x2:Value):Prop where
 bx:Q02 W w.heap.size x0 x1 x2
 br:Q02 W (w.heap.size+1) (.bool false) (.slice none 0 0) (.int .i64 0)
 lt:w.heap.size+1<W.heap.size
 bel:Bw w W
theorem Two.step {w W W':World} {x0 x1 x2:Value} (h:Two w W x0 x1 x2) (hb:Bw W W'):Two w W' x0 x1 x2:=by
 have B0:=h.lt;exact ⟨h.bx.step hb (by omega),h.br.step hb (by omega),Ue h.lt hb.size,Below.next0 h.bel hb⟩
theorem Qwx (w:World) (x0 x1 x2:Value) (T1 T3:TypeId):Two w ((w.alloc (.cells #[x0,x1,x2] T1)).alloc (.cells #[.bool false,.slice none 0 0,.int .i64 0] T3)) x0 x1 x2:=by
 obtain ⟨h1,h2,h3,h4⟩:=Q92 w x0 x1 x2 (.bool false) (.slice none 0 0) (.int .i64 0) T1 T3;exact ⟨h2,h3,by omega,h4⟩
theorem Qs3 {nx ny:Bool} {ex ey:Int} {vx vy:Nat} (h1:vx≠0) (h2:vy≠0) (c1:Q5b nx vx ex) (c2:Q5b ny vy ey):Q5b (nx != ny) (vx*vy) (ex+ey):=
 ⟨fun h=>by rcases Nat.mul_eq_zero.1 h with h|h <;> contradiction,fun _=>by rw[Nat.mul_mod,c1.2 h1,c2.2 h2]⟩
theorem Qy7 (n:Bool) (v:Nat) {e f:Int} {k:Nat} (h:e=f+k):dy (sgn n v) e=dy (sgn n (v*2^k)) f:=by
 subst h;rw[Qgt,Q8b]
theorem Qku (n:Bool) (x y:Nat) (f:Int):dy (sgn n x) f+dy (sgn n y) f=dy (sgn n (x+y)) f:=by
 rw[Qll]
 congr 1
 cases n <;> simp[sgn];omega
theorem Q8r {n m:Bool} (h:n≠m) {x y:Nat} (Vj:y<=x) (f:Int):dy (sgn n x) f+dy (sgn m y) f=dy (sgn n (x-y)) f:=by
 rw[Qll]
 congr 1
 cases n <;> cases m <;> simp_all [sgn] <;> omega
theorem Qd0 (nx:Bool) (ex:Int) (ax:OA) (lx cx:Nat) (ls:LN) (w:World) (h:WordsIn w ax lx cx ls) (hi:Q0i nx ex ls):
 Calls Tryz.prog 24 #[.agg #[.bool nx,.int .i64 ex,.slice ax lx cx]] w (Qs2 w (Q28 nx ex ls)):=by
 have Z9:=(Q67 hi h.low).1;have A3:=h.len;have QH:Q5b nx (val (2^64) ls) ex:=Qks hi h.low;have hQ:=fun W=>(Qwx w (.bool nx) (.int .i64 ex) (.slice ax lx cx) 41 56).step (W':=W);obtain ⟨W0,I3⟩:∃W0,(w.alloc (.cells #[.bool nx,.int .i64 ex,.slice ax lx cx] 41)).alloc (.cells #[.bool false,.slice none 0 0,.int .i64 0] 56)=W0:=⟨_,rfl⟩;rw[I3] at hQ;have HQ:=Ua hQ;have HW:=Ua h;have HC:=Ua QH;clear hQ h QH hi
 go_enter Tryz.func24,Tryz.ntmps24
 go_wp2_with fail
 refine Q2q (by kernel_rfl) 8 rfl (fun W=>Bw W0 W) (fun _ _ h h'=>Below.next0 h h') (Q3x [.pointer (some ⟨w.heap.size,0,none⟩),.bool nx,.pointer (some ⟨w.heap.size,2,none⟩),.slice ax lx cx,undef,.pointer (some ⟨w.heap.size,1,none⟩),.int .i64 ex,undef] (Q1n [(4,SlD (2*lx) (val (2^64) ls)),(7,fun u w=>Q8q w u (Q28 nx ex ls))])) (Q0h (Q0m (Qod (SlD.stable _ _) (Q2r _)))) (Qx7 w (w.heap.size+1) (Q28 nx ex ls)) (by kernel_rfl) (by kernel_rfl) (by kernel_rfl) (by kernel_rfl) (Q05 W0) ?_ ?_ ?_
 ·skip
  repeat' (first|exact Q98|refine Q97 ?_ ?_)
  all_goals first
   |(refine Q29 rfl fun A W hW F0 hd hd=>?_
     simp[Q82,Region.binds,Q1n] at hd;have e1:=Q0d F0 1 (by kernel_rfl) rfl;obtain ⟨u0_0,u0_1,u0_2,_,_,_⟩:=(HQ.out W hW).bx;refine Q3n rfl rfl ?_;simp[go_sem,hd,e1,u0_0,u0_2,u0_1]
     done)
   |skip
  ·intro A W hW F0 A0;have e6:=Q0o A0 3 (by decide) rfl rfl rfl;refine Q04 rfl ?_;refine Q0y (f:=56) (args:= #[.slice ax lx cx]) (by simp[go_sem,e6]) ((Q58 ax lx cx ls W (HW.out.step (HQ.out W hW).bel) (by omega)).mono ?_);rintro e w2 ⟨a',n',c',rfl,XB,p8,J5⟩;exact ⟨_,rfl,J5,(Q00 rfl).2 ⟨a',n',c',rfl,XB,p8⟩⟩
  ·intro A W hW F0 A0;have e4:=Q0o A0 1 (by decide) rfl rfl rfl;have e9:=Q0o A0 6 (by decide) rfl rfl rfl;refine Q04 rfl ?_;obtain ⟨a7,l7,c7,hv7,hl7,KH⟩:=(Q00 rfl).1 (A0 4 (by decide));have e7:=Q1f hv7;refine Q96 (u:=.agg #[.bool nx,.slice a7 l7 c7,.int .i64 ex]) ?_ ((Q00 rfl).2 ⟨nx,a7,l7,c7,ex,_,rfl,KH,HC.out,rfl⟩);simp[go_sem,e4,e7,e9]
 ·intro A W hW F0 A0;obtain ⟨n8,a8,l8,c8,q8,v8,k7,QX,R7,ZB⟩:=(Q00 rfl).1 (A0 7 (by decide));have e10:=Q1f k7;have e2:=Q0d F0 2 (by kernel_rfl) rfl;have Q6:=(HQ.out W hW).br;have k0:=Q6.c0;have f0:=Q6.f0;have f1:=Q6.f1;have f2:=Q6.f2;have d1:=Q6.d1 (.bool n8);have d2:=Q6.d2 (.bool n8) (.slice a8 l8 c8);refine Q3j (w':=(((W.setCell ⟨(w.heap.size+1),0,none⟩ (.bool n8)).setCell ⟨(w.heap.size+1),1,none⟩ (.slice a8 l8 c8)).setCell ⟨(w.heap.size+1),2,none⟩ (.int .i64 q8))) (by simp[go_sem,e2,e10,k0,f0,f1,f2,d1,d2]) ?_;exact Q6m (by omega) (HQ.out W hW).bel Q6 QX R7 ZB
 intro vs W1 G3;simp only[Q0s,Act.put,Uw,UK,UJ];obtain ⟨n9,a9,l9,c9,e9,v9,QI,JJ,i6,JQ,Z4⟩:=G3;have k0:=QI.c0;have k1:=QI.c1;have k2:=QI.c2;have HE:=Xh4 JJ i6 JQ Z4;clear QI JJ i6 JQ Z4
 go_wp2_with fail
 exact ⟨rfl,.agg #[.bool n9,.slice a9 l9 c9,.int .i64 e9],by simp[results,go_sem,k0,k1,k2],_,rfl,⟨n9,a9,l9,c9,e9,v9,rfl,(Xo0 HE),(Xo1 HE),(Xo2 HE)⟩,(Xe3 HE)⟩
theorem Qs4 (nx:Bool) (ax:OA) (lx cx:Nat) (ex:Int) (vx:Nat) (ny:Bool) (ay:OA) (ly cy:Nat) (ey:Int) (vy:Nat) (w:World) (h1:Q0n w ax lx cx vx) (h2:Q0n w ay ly cy vy) (c1:Q5b nx vx ex) (c2:Q5b ny vy ey) (T:Nat) (b1:bnd T (dy (sgn nx vx) ex)) (b2:bnd T (dy (sgn ny vy) ey)) (hT:T<=500000):
 Calls Tryz.prog 27 #[.agg #[.bool nx,.slice ax lx cx,.int .i64 ex],.agg #[.bool ny,.slice ay ly cy,.int .i64 ey]] w (Qs2 w (dy (sgn nx vx) ex*dy (sgn ny vy) ey)):=by
 obtain ⟨g1,g2,g3⟩:=Qaj (k:=31250) c1 b1 (by omega);obtain ⟨g4,g5,g6⟩:=Qaj (k:=31250) c2 b2 (by omega);rw[h1.len] at g1;rw[h2.len] at g4;have hQ:=fun W=>(Qif w (.bool nx) (.slice ax lx cx) (.int .i64 ex) (.bool ny) (.slice ay ly cy) (.int .i64 ey) 56 56 56).step (W':=W);obtain ⟨W0,I3⟩:∃W0,((w.alloc (.cells #[.bool nx,.slice ax lx cx,.int .i64 ex] 56)).alloc (.cells #[.bool ny,.slice ay ly cy,.int .i64 ey] 56)).alloc (.cells #[.bool false,.slice none 0 0,.int .i64 0] 56)=W0:=⟨_,rfl⟩;rw[I3] at hQ;have HQ:=Ua hQ;have y5:=fun h=>Q0n.none_of h1 h;have JV:=fun h=>Q0n.none_of h2 h;have Q2:IntKind.i64.wrap (ex+ey)=ex+ey:=by rw[Ut];omega
 by_cases hvx:vx=0
 ·obtain rfl:=y5 hvx;have hD:(0:Dyadic)=dy (sgn nx vx) ex*dy (sgn ny vy) ey:=by rw[Qcz nx ex hvx,Dyadic.zero_mul]
  have HD:=Ua hD;clear hD h1 h2 c1 c2 b1 b2 y5 JV hvx;have xc1:=(HQ.out W0 (Uf _ _)).bx.c1;have rc0:=(HQ.out W0 (Uf _ _)).br.c0;have rc1:=(HQ.out W0 (Uf _ _)).br.c1;have rc2:=(HQ.out W0 (Uf _ _)).br.c2;have rf0:=(HQ.out W0 (Uf _ _)).br.f0;have rf1:=(HQ.out W0 (Uf _ _)).br.f1;have rf2:=(HQ.out W0 (Uf _ _)).br.f2;have rd1:=(HQ.out W0 (Uf _ _)).br.d1 (.bool false);have rd2:=(HQ.out W0 (Uf _ _)).br.d2 (.bool false) (.slice none 0 0)
  go_enter Tryz.func27,Tryz.ntmps27
  go_wp2_with fail
  have hS:=(HQ.out W0 (Uf _ _)).br.store (.bool false) (.slice none 0 0) (.int .i64 0);have k0:=hS.c0;have k1:=hS.c1;have k2:=hS.c2;have R4:=Q02.below (HQ.out W0 (Uf _ _)).bel (show w.heap.size<=w.heap.size+2 by omega) (.bool false) (.slice none 0 0) (.int .i64 0);exact ⟨rfl,.agg #[.bool false,.slice none 0 0,.int .i64 0],by simp[results,go_sem,k0,k1,k2],_,rfl,⟨false,none,0,0,0,0,rfl,Q0n.nil_ _,⟨fun _=>⟨rfl,rfl⟩,fun h=>absurd rfl h⟩,HD.out⟩,R4⟩
 have Z9:((lx:Int)==0)=false:=by
  rw[Ui];intro e;exact hvx (h1.zero_of (by omega))
 by_cases hvy:vy=0
 ·obtain rfl:=JV hvy;have hD:(0:Dyadic)=dy (sgn nx vx) ex*dy (sgn ny vy) ey:=by rw[Qcz ny ey hvy,Dyadic.mul_zero]
  have HD:=Ua hD;clear hD h1 h2 c1 c2 b1 b2 y5 JV hvy hvx;have xc1:=(HQ.out W0 (Uf _ _)).bx.c1;have yc1:=(HQ.out W0 (Uf _ _)).by_.c1;have rc0:=(HQ.out W0 (Uf _ _)).br.c0;have rc1:=(HQ.out W0 (Uf _ _)).br.c1;have rc2:=(HQ.out W0 (Uf _ _)).br.c2;have rf0:=(HQ.out W0 (Uf _ _)).br.f0;have rf1:=(HQ.out W0 (Uf _ _)).br.f1;have rf2:=(HQ.out W0 (Uf _ _)).br.f2;have rd1:=(HQ.out W0 (Uf _ _)).br.d1 (.bool false);have rd2:=(HQ.out W0 (Uf _ _)).br.d2 (.bool false) (.slice none 0 0)
  go_enter Tryz.func27,Tryz.ntmps27
  go_wp2_with fail
  have hS:=(HQ.out W0 (Uf _ _)).br.store (.bool false) (.slice none 0 0) (.int .i64 0);have k0:=hS.c0;have k1:=hS.c1;have k2:=hS.c2;have R4:=Q02.below (HQ.out W0 (Uf _ _)).bel (show w.heap.size<=w.heap.size+2 by omega) (.bool false) (.slice none 0 0) (.int .i64 0);exact ⟨rfl,.agg #[.bool false,.slice none 0 0,.int .i64 0],by simp[results,go_sem,k0,k1,k2],_,rfl,⟨false,none,0,0,0,0,rfl,Q0n.nil_ _,⟨fun _=>⟨rfl,rfl⟩,fun h=>absurd rfl h⟩,HD.out⟩,R4⟩
 have hly:((ly:Int)==0)=false:=by
  rw[Ui];intro e;exact hvy (h2.zero_of (by omega))
 have HW:=Xh2 h1 h2;have E4:=Qs3 hvx hvy c1 c2;have Yd:dy (sgn (nx != ny) (vx*vy)) (ex+ey)=dy (sgn nx vx) ex*dy (sgn ny vy) ey:=by rw[Qq4,Qq7]
 have HC:=Xh2 E4 Yd;have xc1:=(HQ.out W0 (Uf _ _)).bx.c1;have yc1:=(HQ.out W0 (Uf _ _)).by_.c1;clear h1 h2 c1 c2 b1 b2 y5 JV hvy hvx E4 Yd
 go_enter Tryz.func27,Tryz.ntmps27
 go_wp2_with fail
 refine Q2q (by kernel_rfl) 16 rfl (fun W=>Bw W0 W) (fun _ _ h h'=>Below.next0 h h') (Q3x [.pointer (some ⟨w.heap.size,0,none⟩),.bool nx,.pointer (some ⟨(w.heap.size+1),0,none⟩),.bool ny,.bool (nx != ny),.pointer (some ⟨w.heap.size,1,none⟩),.slice ax lx cx,.pointer (some ⟨(w.heap.size+1),1,none⟩),.slice ay ly cy,undef,.pointer (some ⟨w.heap.size,2,none⟩),.int .i64 ex,.pointer (some ⟨(w.heap.size+1),2,none⟩),.int .i64 ey,.int .i64 (ex+ey),undef] (Q1n [(9,SlD 9223372036854775807 (vx*vy)),(15,fun u w=>Q8q w u (dy (sgn nx vx) ex*dy (sgn ny vy) ey))])) (Q0h (Q0m (Qod (SlD.stable _ _) (Q2r _)))) (Qx7 w (w.heap.size+2) (dy (sgn nx vx) ex*dy (sgn ny vy) ey)) (by kernel_rfl) (by kernel_rfl) (by kernel_rfl) (by kernel_rfl) (Q05 W0) ?_ ?_ ?_
 ·skip
  repeat' (first|exact Q98|refine Q97 ?_ ?_)
  all_goals first
   |(refine Q29 rfl fun A W hW F0 hd hd=>?_
     simp[Q82,Region.binds,Q1n] at hd;have e2:=Q0d F0 2 (by kernel_rfl) rfl;have e3:=Q0d F0 3 (by kernel_rfl) rfl;obtain ⟨u0_0,u0_1,u0_2,_,_,_⟩:=(HQ.out W hW).bx;obtain ⟨u1_0,u1_1,u1_2,_,_,_⟩:=(HQ.out W hW).by_;refine Q3n rfl rfl ?_;simp[go_sem,hd,e2,e3,u0_0,u1_0,u0_1,u1_1,u0_2,u1_2,Q2]
     done)
   |skip
  ·intro A W hW F0 A0;have e17:=Q0o A0 1 (by decide) rfl rfl rfl;have e19:=Q0o A0 3 (by decide) rfl rfl rfl;refine Q04 rfl ?_;refine Q3n rfl rfl ?_;cases nx <;> cases ny <;> simp[go_sem,e17,e19]
  ·intro A W hW F0 A0;have e22:=Q0o A0 6 (by decide) rfl rfl rfl;have e24:=Q0o A0 8 (by decide) rfl rfl rfl;refine Q04 rfl ?_;refine Q0y (f:=63) (args:= #[.slice ax lx cx,.slice ay ly cy]) (by simp[go_sem,e22,e24]) ((Qdo ax lx cx vx ay ly cy vy W ((Xo0 HW).step (HQ.out W hW).bel) ((Xe1 HW).step (HQ.out W hW).bel) (by omega) (by omega)).mono ?_);rintro e w2 ⟨a',n',rfl,p8,J5⟩;exact ⟨_,rfl,J5,(Q00 rfl).2 ⟨a',n',n',rfl,Qun p8,p8⟩⟩
  ·intro A W hW F0 A0;have e20:=Q0o A0 4 (by decide) rfl rfl rfl;have e30:=Q0o A0 14 (by decide) rfl rfl rfl;refine Q04 rfl ?_;obtain ⟨a7,l7,c7,hv7,hl7,KH⟩:=(Q00 rfl).1 (A0 9 (by decide));have e25:=Q1f hv7;refine Q96 (u:=.agg #[.bool (nx != ny),.slice a7 l7 c7,.int .i64 (ex+ey)]) ?_ ((Q00 rfl).2 ⟨_,a7,l7,c7,_,_,rfl,KH,(Xo0 HC),(Xe1 HC)⟩);simp[go_sem,e20,e25,e30]
 ·intro A W hW F0 A0;obtain ⟨n8,a8,l8,c8,q8,v8,k7,QX,R7,ZB⟩:=(Q00 rfl).1 (A0 15 (by decide));have e31:=Q1f k7;have e4:=Q0d F0 4 (by kernel_rfl) rfl;have Q6:=(HQ.out W hW).br;have k0:=Q6.c0;have f0:=Q6.f0;have f1:=Q6.f1;have f2:=Q6.f2;have d1:=Q6.d1 (.bool n8);have d2:=Q6.d2 (.bool n8) (.slice a8 l8 c8);refine Q3j (w':=(((W.setCell ⟨(w.heap.size+2),0,none⟩ (.bool n8)).setCell ⟨(w.heap.size+2),1,none⟩ (.slice a8 l8 c8)).setCell ⟨(w.heap.size+2),2,none⟩ (.int .i64 q8))) (by simp[go_sem,e4,e31,k0,f0,f1,f2,d1,d2]) ?_;exact Q6m (by omega) (HQ.out W hW).bel Q6 QX R7 ZB
 intro vs W1 G3;simp only[Q0s,Act.put,Uw,UK,UJ];obtain ⟨n9,a9,l9,c9,e9,v9,QI,JJ,i6,JQ,Z4⟩:=G3;have k0:=QI.c0;have k1:=QI.c1;have k2:=QI.c2;have HE:=Xh4 JJ i6 JQ Z4;clear QI JJ i6 JQ Z4
 go_wp2_with fail
 exact ⟨rfl,.agg #[.bool n9,.slice a9 l9 c9,.int .i64 e9],by simp[results,go_sem,k0,k1,k2],_,rfl,⟨n9,a9,l9,c9,e9,v9,rfl,(Xo0 HE),(Xo1 HE),(Xo2 HE)⟩,(Xe3 HE)⟩
theorem Qkv (nx:Bool) (ax:OA) (lx cx:Nat) (ex:Int) (vx:Nat) (ny:Bool) (ay:OA) (ly cy:Nat) (ey:Int) (vy:Nat) (w:World) (h1:Q0n w ax lx cx vx) (h2:Q0n w ay ly cy vy) (c1:Q5b nx vx ex) (c2:Q5b ny vy ey) (T:Nat) (b1:bnd T (dy (sgn nx vx) ex)) (b2:bnd T (dy (sgn ny vy) ey)) (hT:T<=500000):
 Calls Tryz.prog 25 #[.agg #[.bool nx,.slice ax lx cx,.int .i64 ex],.agg #[.bool ny,.slice ay ly cy,.int .i64 ey]] w (Qs2 w (dy (sgn nx vx) ex+dy (sgn ny vy) ey)):=by
 obtain ⟨g1,g2,g3⟩:=Qaj (k:=31250) c1 b1 (by omega);obtain ⟨g4,g5,g6⟩:=Qaj (k:=31250) c2 b2 (by omega);rw[h1.len] at g1;rw[h2.len] at g4;have hQ:=fun W=>(Qif w (.bool nx) (.slice ax lx cx) (.int .i64 ex) (.bool ny) (.slice ay ly cy) (.int .i64 ey) 56 56 56).step (W':=W);obtain ⟨W0,I3⟩:∃W0,((w.alloc (.cells #[.bool nx,.slice ax lx cx,.int .i64 ex] 56)).alloc (.cells #[.bool ny,.slice ay ly cy,.int .i64 ey] 56)).alloc (.cells #[.bool false,.slice none 0 0,.int .i64 0] 56)=W0:=⟨_,rfl⟩;rw[I3] at hQ;have HQ:=Ua hQ;have y5:=fun h=>Q0n.none_of h1 h;have JV:=fun h=>Q0n.none_of h2 h
 by_cases hvx:vx=0
 ·obtain rfl:=y5 hvx;have hD:dy (sgn ny vy) ey=dy (sgn nx vx) ex+dy (sgn ny vy) ey:=by rw[Qcz nx ex hvx,Dyadic.zero_add]
  have HD:=Xh3 hD c2 h2;clear hD h1 h2 c1 c2 b1 b2 y5 JV hvx;have xc1:=(HQ.out W0 (Uf _ _)).bx.c1;have yc0:=(HQ.out W0 (Uf _ _)).by_.c0;have yc1:=(HQ.out W0 (Uf _ _)).by_.c1;have yc2:=(HQ.out W0 (Uf _ _)).by_.c2;have rc0:=(HQ.out W0 (Uf _ _)).br.c0;have rc1:=(HQ.out W0 (Uf _ _)).br.c1;have rc2:=(HQ.out W0 (Uf _ _)).br.c2;have rf0:=(HQ.out W0 (Uf _ _)).br.f0;have rf1:=(HQ.out W0 (Uf _ _)).br.f1;have rf2:=(HQ.out W0 (Uf _ _)).br.f2;have rd1:=(HQ.out W0 (Uf _ _)).br.d1 (.bool ny);have rd2:=(HQ.out W0 (Uf _ _)).br.d2 (.bool ny) (.slice ay ly cy)
  go_enter Tryz.func25,Tryz.ntmps25
  go_wp2_with fail
  have hS:=(HQ.out W0 (Uf _ _)).br.store (.bool ny) (.slice ay ly cy) (.int .i64 ey);have k0:=hS.c0;have k1:=hS.c1;have k2:=hS.c2;have R4:=Q02.below (HQ.out W0 (Uf _ _)).bel (show w.heap.size<=w.heap.size+2 by omega) (.bool ny) (.slice ay ly cy) (.int .i64 ey);exact ⟨rfl,.agg #[.bool ny,.slice ay ly cy,.int .i64 ey],by simp[results,go_sem,k0,k1,k2],_,rfl,⟨_,_,_,_,_,_,rfl,((Xe2 HD).step (HQ.out W0 (Uf _ _)).bel).box (HQ.out W0 (Uf _ _)).br _ _ _,(Xo1 HD),(Xo0 HD)⟩,R4⟩
 have Z9:((lx:Int)==0)=false:=by
  rw[Ui];intro e;exact hvx (h1.zero_of (by omega))
 by_cases hvy:vy=0
 ·obtain rfl:=JV hvy;have hD:dy (sgn nx vx) ex=dy (sgn nx vx) ex+dy (sgn ny vy) ey:=by rw[Qcz ny ey hvy,Xbv]
  have HD:=Xh3 hD c1 h1;clear hD h1 h2 c1 c2 b1 b2 y5 JV hvy hvx;have xc0:=(HQ.out W0 (Uf _ _)).bx.c0;have xc1:=(HQ.out W0 (Uf _ _)).bx.c1;have xc2:=(HQ.out W0 (Uf _ _)).bx.c2;have yc1:=(HQ.out W0 (Uf _ _)).by_.c1;have rc0:=(HQ.out W0 (Uf _ _)).br.c0;have rc1:=(HQ.out W0 (Uf _ _)).br.c1;have rc2:=(HQ.out W0 (Uf _ _)).br.c2;have rf0:=(HQ.out W0 (Uf _ _)).br.f0;have rf1:=(HQ.out W0 (Uf _ _)).br.f1;have rf2:=(HQ.out W0 (Uf _ _)).br.f2;have rd1:=(HQ.out W0 (Uf _ _)).br.d1 (.bool nx);have rd2:=(HQ.out W0 (Uf _ _)).br.d2 (.bool nx) (.slice ax lx cx)
  go_enter Tryz.func25,Tryz.ntmps25
  go_wp2_with fail
  have hS:=(HQ.out W0 (Uf _ _)).br.store (.bool nx) (.slice ax lx cx) (.int .i64 ex);have k0:=hS.c0;have k1:=hS.c1;have k2:=hS.c2;have R4:=Q02.below (HQ.out W0 (Uf _ _)).bel (show w.heap.size<=w.heap.size+2 by omega) (.bool nx) (.slice ax lx cx) (.int .i64 ex);exact ⟨rfl,.agg #[.bool nx,.slice ax lx cx,.int .i64 ex],by simp[results,go_sem,k0,k1,k2],_,rfl,⟨_,_,_,_,_,_,rfl,((Xe2 HD).step (HQ.out W0 (Uf _ _)).bel).box (HQ.out W0 (Uf _ _)).br _ _ _,(Xo1 HD),(Xo0 HD)⟩,R4⟩
 have hly:((ly:Int)==0)=false:=by
  rw[Ui];intro e;exact hvy (h2.zero_of (by omega))
 obtain ⟨ee,hee⟩:∃ee,min ex ey=ee:=⟨_,rfl⟩;obtain ⟨p,hp⟩:∃p:Nat,ex-ee=(p:Int):=⟨(ex-ee).toNat,by omega⟩;obtain ⟨q,hq⟩:∃q:Nat,ey-ee=(q:Int):=⟨(ey-ee).toNat,by omega⟩;have Jl:p<=1000000:=by omega
 have N4:q<=1000000:=by omega
 have hee1: -1000000<=ee:=by omega
 have hee2:ee<=1000000:=by omega
 have hDx:=Qy7 nx vx (e:=ex) (f:=ee) (k:=p) (by omega);have hDy:=Qy7 ny vy (e:=ey) (f:=ee) (k:=q) (by omega);obtain ⟨X,hX⟩:∃X,vx*2^p=X:=⟨_,rfl⟩;obtain ⟨Y,hY⟩:∃Y,vy*2^q=Y:=⟨_,rfl⟩;rw[hX] at hDx;rw[hY] at hDy;have K4:IntKind.i64.wrap (p:Int)=(p:Int):=by rw[Ut];omega
 have Q8:IntKind.i64.wrap (q:Int)=(q:Int):=by rw[Ut];omega
 have HW:=Xh2 h1 h2;have HV:=Xh2 hX hY;have xc:=(HQ.out W0 (Uf _ _)).bx;have yc:=(HQ.out W0 (Uf _ _)).by_;have xc1:=xc.c1;have yc1:=yc.c1;have xc2:=xc.c2;have yc2:=yc.c2;rw[hDx,hDy];obtain ⟨D,hD⟩:∃D,dy (sgn nx X) ee+dy (sgn ny Y) ee=D:=⟨_,rfl⟩;rw[hD];have HD:=Ua hD;clear h1 h2 c1 c2 b1 b2 y5 JV hvy hvx hX hY hDx hDy hD xc yc g2 g3 g5 g6
 go_enter Tryz.func25,Tryz.ntmps25
 go_upto_region 6 with fail
 refine Q0c (E:=Qap) (fun _=>Uf _ _) (by kernel_rfl) (fun W=>Bw W0 W) (fun _ _ h h'=>Below.next0 h h') (Q3x [.pointer (some ⟨w.heap.size,1,none⟩),.slice ax lx cx,.pointer (some ⟨w.heap.size,2,none⟩),.int .i64 ex,.int .i64 ee,.int .i64 (p:Int),undef,.pointer (some ⟨(w.heap.size+1),1,none⟩),.slice ay ly cy,.pointer (some ⟨(w.heap.size+1),2,none⟩),.int .i64 ey,.int .i64 ee,.int .i64 (q:Int),undef,undef,undef] (Q1n [(6,SlD (lx+p / 32+1) X),(14,SlD (lx+p / 32+1) X),(13,SlD (ly+q / 32+1) Y),(15,SlD (ly+q / 32+1) Y)])) (Q0h (Q0m (Qkr (SlD.stable _ _) (SlD.stable _ _) (SlD.stable _ _) (SlD.stable _ _)))) (Q22 (by kernel_rfl)) (by kernel_rfl) (Q05 W0) ?_ ?_
 ·skip
  repeat' (first|exact Q98|refine Q97 ?_ ?_)
  all_goals first
   |(refine Q29 rfl fun A W hW F0 hd hd=>?_
     simp[Q82,Region.binds,Q1n] at hd;have e2:=Q0d F0 2 (by kernel_rfl) rfl;have e5:=Q0d F0 5 (by kernel_rfl) rfl;have e3:=Q0d F0 3 (by kernel_rfl) rfl;obtain ⟨_,u0_1,u0_2,_,_,_⟩:=(HQ.out W hW).bx;obtain ⟨_,u1_1,u1_2,_,_,_⟩:=(HQ.out W hW).by_;refine Q3n rfl rfl ?_;simp[go_sem,hd,e2,e5,e3,u0_1,u0_2,hp,K4,u1_1,u1_2,hq,Q8]
     done)
   |skip
  ·intro A W hW F0 A0;have e24:=Q0o A0 1 (by decide) rfl rfl rfl;have e28:=Q0o A0 5 (by decide) rfl rfl rfl;refine Q04 rfl ?_;refine Q0y (f:=57) (args:= #[.slice ax lx cx,.int .i64 (p:Int)]) (by simp[go_sem,e24,e28]) ((Qc1 ax lx cx vx p W ((Xo0 HW).step (HQ.out W hW).bel) (by omega) (by omega)).mono ?_);rintro e w2 ⟨a',n',rfl,XB,p8,J5⟩;rw[(Xo0 HV)] at p8;exact ⟨_,rfl,J5,(Q00 rfl).2 ⟨a',n',n',rfl,XB,p8⟩⟩
  ·intro A W hW F0 A0;have e31:=Q0o A0 8 (by decide) rfl rfl rfl;have e35:=Q0o A0 12 (by decide) rfl rfl rfl;refine Q04 rfl ?_;refine Q0y (f:=57) (args:= #[.slice ay ly cy,.int .i64 (q:Int)]) (by simp[go_sem,e31,e35]) ((Qc1 ay ly cy vy q W ((Xe1 HW).step (HQ.out W hW).bel) (by omega) (by omega)).mono ?_);rintro e w2 ⟨a',n',rfl,XB,p8,J5⟩;rw[(Xe1 HV)] at p8;exact ⟨_,rfl,J5,(Q00 rfl).2 ⟨a',n',n',rfl,XB,p8⟩⟩
  ·intro A W hW F0 A0;refine Q04 rfl ?_;have e29:=(Q00 rfl).1 (A0 6 (by decide));refine Q96 (u:=A.eval (.tmp 29)) ?_ ((Q00 rfl).2 e29);simp[go_sem,Act.eval]
  ·intro A W hW F0 A0;refine Q04 rfl ?_;have e36:=(Q00 rfl).1 (A0 13 (by decide));refine Q96 (u:=A.eval (.tmp 36)) ?_ ((Q00 rfl).2 e36);simp[go_sem,Act.eval]
 intro vs W1 S1 C3;obtain ⟨a6,n6,c6,hv6,hn6,hd6⟩:=(Q00 rfl).1 (C3 14 (by decide));obtain ⟨a7,n7,c7,hv7,hn7,KH⟩:=(Q00 rfl).1 (C3 15 (by decide));simp only[Q0s,Act.put,Uw,UK,UJ];rw[hv6,hv7];have hl6:=hd6.len;have hl7:=KH.len;have hn6':n6<=62501:=by omega
 have hn7':n7<=62501:=by omega
 have m6:(dig (2^32) (X+Y)).length<=100000:=Ur (Qkt (k:=62501) (by omega) (by omega)) (by decide);have K2:(dig (2^32) (X-Y)).length<=100000:=Ur (Q1v (by decide) (Nat.sub_le X Y)) (by omega);have M2:(dig (2^32) (Y-X)).length<=100000:=Ur (Q1v (by decide) (Nat.sub_le Y X)) (by omega);have HQ1:=Ua (fun W (h:Bw W1 W)=>(HQ.out W1 S1).step h);have Ky:=Xh5 hd6 KH m6 K2 M2;have xc0:=(HQ.out W1 S1).bx.c0;have yc0:=(HQ.out W1 S1).by_.c0;clear hd6 KH m6 K2 M2 hv6 hv7 hn6 hn7 C3 hl6 hl7 hQ I3 xc1 yc1 xc2 yc2 S1 HQ Z9 hly hee hp hq Jl N4 K4 Q8 g1 g4
 by_cases P6:nx=ny
 ·subst P6;have Xd:(nx==nx)=true:=by simp
  have hs:dy (sgn nx (X+Y)) ee=D:=by rw[<-HD.out,Qku]
  have HS:=Ua hs;clear hs
  go_upto_region 8 with fail
  refine Q2q (by kernel_rfl) 7 rfl (fun W=>Bw W1 W) (fun _ _ h h'=>Below.next0 h h') (Q3x [.pointer (some ⟨w.heap.size,0,none⟩),.bool nx,.slice a6 n6 c6,.slice a7 n7 c7,undef,.int .i64 ee,undef] (Q1n [(4,SlD 100000 (X+Y)),(6,fun u w=>Q8q w u D)])) (Q0h (Q0m (Qod (SlD.stable _ _) (Q2r _)))) (Qx7 w (w.heap.size+2) D) (by kernel_rfl) (by kernel_rfl) (by kernel_rfl) (by kernel_rfl) (Q05 W1) ?_ ?_ ?_
  ·skip
   repeat' (first|exact Q98|refine Q97 ?_ ?_)
   all_goals first
    |(refine Q29 rfl fun A W hW F0 hd hd=>?_
      simp[Q82,Region.binds,Q1n] at hd;have e2:=Q0d F0 2 (by kernel_rfl) rfl;have e6:=Q0d F0 6 (by kernel_rfl) rfl;have e7:=Q0d F0 7 (by kernel_rfl) rfl;have e5:=Q0d F0 5 (by kernel_rfl) rfl;obtain ⟨u0_0,_,_,_,_,_⟩:=(HQ1.out W hW).bx;refine Q3n rfl rfl ?_;simp[go_sem,hd,e2,e6,e7,e5,u0_0]
      done)
    |skip
   ·intro A W hW F0 A0;have e44:=Q0o A0 2 (by decide) rfl rfl rfl;have e45:=Q0o A0 3 (by decide) rfl rfl rfl;refine Q04 rfl ?_;refine Q0y (f:=59) (args:= #[.slice a6 n6 c6,.slice a7 n7 c7]) (by simp[go_sem,e44,e45]) ((Qdn a6 n6 c6 X a7 n7 c7 Y W ((Xo0 Ky).step hW) ((Xo1 Ky).step hW) (by omega) (by omega)).mono ?_);rintro e w2' ⟨a',n',rfl,p8,J5⟩;exact ⟨_,rfl,J5,(Q00 rfl).2 ⟨a',n',n',rfl,by rw[<-p8.len];exact (Xo2 Ky),p8⟩⟩
   ·intro A W hW F0 A0;have e43:=Q0o A0 1 (by decide) rfl rfl rfl;have e47:=Q0o A0 5 (by decide) rfl rfl rfl;obtain ⟨a5,l5,c5,hv5,hl5,WW⟩:=(Q00 rfl).1 (A0 4 (by decide));have e46:=Q1f hv5;refine Q04 rfl ?_;refine Q0y (f:=58) (args:= #[.bool nx,.slice a5 l5 c5,.int .i64 ee]) (by simp[go_sem,e43,e47,e46]) ((Q41 nx a5 l5 c5 _ ee W WW (by omega) (by omega) (by omega)).mono ?_);rintro e w2' ⟨n',a',l',c',v',e',rfl,G9,p8,_,_,_,J5⟩;obtain ⟨JZ,ZG⟩:=Qc4 G9;exact ⟨_,rfl,J5,(Q00 rfl).2 ⟨_,_,_,_,_,_,rfl,p8,JZ,ZG.trans HS.out⟩⟩
  ·intro A W hW F0 A0;obtain ⟨n8,a8,l8,c8,q8,v8,k7,QX,R7,ZB⟩:=(Q00 rfl).1 (A0 6 (by decide));have e48:=Q1f k7;have e4:=Q0d F0 4 (by kernel_rfl) rfl;have Q6:=(HQ1.out W hW).br;have k0:=Q6.c0;have f0:=Q6.f0;have f1:=Q6.f1;have f2:=Q6.f2;have d1:=Q6.d1 (.bool n8);have d2:=Q6.d2 (.bool n8) (.slice a8 l8 c8);refine Q3j (w':=(((W.setCell ⟨(w.heap.size+2),0,none⟩ (.bool n8)).setCell ⟨(w.heap.size+2),1,none⟩ (.slice a8 l8 c8)).setCell ⟨(w.heap.size+2),2,none⟩ (.int .i64 q8))) (by simp[go_sem,e4,e48,k0,f0,f1,f2,d1,d2]) ?_;exact Q6m (by omega) (HQ1.out W hW).bel Q6 QX R7 ZB
  intro vs W3 G3;simp only[Q0s,Act.put,Uw,UK,UJ];clear Xd;obtain ⟨n9,a9,l9,c9,e9,v9,QI,JJ,i6,JQ,Z4⟩:=G3;have k0:=QI.c0;have k1:=QI.c1;have k2:=QI.c2;have HE:=Xh4 JJ i6 JQ Z4;clear QI JJ i6 JQ Z4
  go_wp2_with fail
  exact ⟨rfl,.agg #[.bool n9,.slice a9 l9 c9,.int .i64 e9],by simp[results,go_sem,k0,k1,k2],_,rfl,⟨n9,a9,l9,c9,e9,v9,rfl,(Xo0 HE),(Xo1 HE),(Xo2 HE)⟩,(Xe3 HE)⟩
 ·have Xd:(nx==ny)=false:=by cases nx <;> cases ny <;> simp_all
  have E4:=Qoc a6 n6 c6 X a7 n7 c7 Y W1 (Xo0 Ky) (Xo1 Ky) (by omega)
  by_cases hgt:Y<X
  ·have Qu:Qob X Y=1:=(by unfold Qob;rw[Uq (by omega),Us hgt]);have hs:dy (sgn nx (X-Y)) ee=D:=(by rw[<-HD.out,Q8r P6 (TI hgt)]);rw[Qu] at E4;have HS:=Xh3 hs E4 hgt;clear hs E4 Qu P6 hgt
   go_upto_block 0 with (go_at_call_of 60 (Value.slice a6 n6 c6);refine (Xo1 HS).mono ?_;rintro r w2 ⟨rfl,D0⟩;have H2:=Ua D0;clear D0)
   have Xn:=Ua (fun W (h:Bw w2 W)=>(HQ1.out w2 H2.out).step h)
   go_upto_region 11 with fail
   refine Q2q (by kernel_rfl) 7 rfl (fun W=>Bw w2 W) (fun _ _ h h'=>Below.next0 h h') (Q3x [.pointer (some ⟨w.heap.size,0,none⟩),.bool nx,.slice a6 n6 c6,.slice a7 n7 c7,undef,.int .i64 ee,undef] (Q1n [(4,SlD 100000 (X-Y)),(6,fun u w=>Q8q w u D)])) (Q0h (Q0m (Qod (SlD.stable _ _) (Q2r _)))) (Qx7 w (w.heap.size+2) D) (by kernel_rfl) (by kernel_rfl) (by kernel_rfl) (by kernel_rfl) (Q05 w2) ?_ ?_ ?_
   ·skip
    repeat' (first|exact Q98|refine Q97 ?_ ?_)
    all_goals first
     |(refine Q29 rfl fun A W hW F0 hd hd=>?_
       simp[Q82,Region.binds,Q1n] at hd;have e2:=Q0d F0 2 (by kernel_rfl) rfl;have e6:=Q0d F0 6 (by kernel_rfl) rfl;have e7:=Q0d F0 7 (by kernel_rfl) rfl;have e5:=Q0d F0 5 (by kernel_rfl) rfl;obtain ⟨u0_0,_,_,_,_,_⟩:=(Xn.out W hW).bx;refine Q3n rfl rfl ?_;simp[go_sem,hd,e2,e6,e7,e5,u0_0]
       done)
     |skip
    ·intro A W hW F0 A0;have e56:=Q0o A0 2 (by decide) rfl rfl rfl;have e57:=Q0o A0 3 (by decide) rfl rfl rfl;refine Q04 rfl ?_;refine Q0y (f:=61) (args:= #[.slice a6 n6 c6,.slice a7 n7 c7]) (by simp[go_sem,e56,e57]) ((Qej a6 n6 c6 X a7 n7 c7 Y W ((Xo0 Ky).step (Below.next0 H2.out hW)) ((Xo1 Ky).step (Below.next0 H2.out hW)) (by omega) (TI (Xe2 HS))).mono ?_);rintro e w2' ⟨a',n',rfl,p8,J5⟩;exact ⟨_,rfl,J5,(Q00 rfl).2 ⟨a',n',n',rfl,by rw[<-p8.len];exact (Xo3 Ky),p8⟩⟩
    ·intro A W hW F0 A0;have e55:=Q0o A0 1 (by decide) rfl rfl rfl;have e59:=Q0o A0 5 (by decide) rfl rfl rfl;obtain ⟨a5,l5,c5,hv5,hl5,WW⟩:=(Q00 rfl).1 (A0 4 (by decide));have e58:=Q1f hv5;refine Q04 rfl ?_;refine Q0y (f:=58) (args:= #[.bool nx,.slice a5 l5 c5,.int .i64 ee]) (by simp[go_sem,e55,e59,e58]) ((Q41 nx a5 l5 c5 _ ee W WW (by omega) (by omega) (by omega)).mono ?_);rintro e w2' ⟨n',a',l',c',v',e',rfl,G9,p8,_,_,_,J5⟩;obtain ⟨JZ,ZG⟩:=Qc4 G9;exact ⟨_,rfl,J5,(Q00 rfl).2 ⟨_,_,_,_,_,_,rfl,p8,JZ,ZG.trans (Xo0 HS)⟩⟩
   ·intro A W hW F0 A0;obtain ⟨n8,a8,l8,c8,q8,v8,k7,QX,R7,ZB⟩:=(Q00 rfl).1 (A0 6 (by decide));have e60:=Q1f k7;have e4:=Q0d F0 4 (by kernel_rfl) rfl;have Q6:=(Xn.out W hW).br;have k0:=Q6.c0;have f0:=Q6.f0;have f1:=Q6.f1;have f2:=Q6.f2;have d1:=Q6.d1 (.bool n8);have d2:=Q6.d2 (.bool n8) (.slice a8 l8 c8);refine Q3j (w':=(((W.setCell ⟨(w.heap.size+2),0,none⟩ (.bool n8)).setCell ⟨(w.heap.size+2),1,none⟩ (.slice a8 l8 c8)).setCell ⟨(w.heap.size+2),2,none⟩ (.int .i64 q8))) (by simp[go_sem,e4,e60,k0,f0,f1,f2,d1,d2]) ?_;exact Q6m (by omega) (Xn.out W hW).bel Q6 QX R7 ZB
   intro vs W3 G3;simp only[Q0s,Act.put,Uw,UK,UJ];obtain ⟨n9,a9,l9,c9,e9,v9,QI,JJ,i6,JQ,Z4⟩:=G3;have k0:=QI.c0;have k1:=QI.c1;have k2:=QI.c2;have HE:=Xh4 JJ i6 JQ Z4;clear QI JJ i6 JQ Z4
   go_wp2_with fail
   exact ⟨rfl,.agg #[.bool n9,.slice a9 l9 c9,.int .i64 e9],by simp[results,go_sem,k0,k1,k2],_,rfl,⟨n9,a9,l9,c9,e9,v9,rfl,(Xo0 HE),(Xo1 HE),(Xo2 HE)⟩,(Xe3 HE)⟩
  ·by_cases B0:X<Y
   ·have Qu:Qob X Y= -1:=(by unfold Qob;rw[Us B0]);have hs:dy (sgn ny (Y-X)) ee=D:=(by rw[<-HD.out,<-Q8r (Ne.symm P6) (TI B0)];exact Dyadic.add_comm _ _);rw[Qu] at E4;have HS:=Xh3 hs E4 B0;clear hs E4 Qu P6 hgt B0
    go_upto_block 0 with (go_at_call_of 60 (Value.slice a6 n6 c6);refine (Xo1 HS).mono ?_;rintro r w2 ⟨rfl,D0⟩;have H2:=Ua D0;clear D0)
    have Xn:=Ua (fun W (h:Bw w2 W)=>(HQ1.out w2 H2.out).step h)
    go_upto_region 13 with fail
    refine Q2q (by kernel_rfl) 7 rfl (fun W=>Bw w2 W) (fun _ _ h h'=>Below.next0 h h') (Q3x [.pointer (some ⟨(w.heap.size+1),0,none⟩),.bool ny,.slice a7 n7 c7,.slice a6 n6 c6,undef,.int .i64 ee,undef] (Q1n [(4,SlD 100000 (Y-X)),(6,fun u w=>Q8q w u D)])) (Q0h (Q0m (Qod (SlD.stable _ _) (Q2r _)))) (Qx7 w (w.heap.size+2) D) (by kernel_rfl) (by kernel_rfl) (by kernel_rfl) (by kernel_rfl) (Q05 w2) ?_ ?_ ?_
    ·skip
     repeat' (first|exact Q98|refine Q97 ?_ ?_)
     all_goals first
      |(refine Q29 rfl fun A W hW F0 hd hd=>?_
        simp[Q82,Region.binds,Q1n] at hd;have e3:=Q0d F0 3 (by kernel_rfl) rfl;have e7:=Q0d F0 7 (by kernel_rfl) rfl;have e6:=Q0d F0 6 (by kernel_rfl) rfl;have e5:=Q0d F0 5 (by kernel_rfl) rfl;obtain ⟨u0_0,_,_,_,_,_⟩:=(Xn.out W hW).by_;refine Q3n rfl rfl ?_;simp[go_sem,hd,e3,e7,e6,e5,u0_0]
        done)
      |skip
     ·intro A W hW F0 A0;have e65:=Q0o A0 2 (by decide) rfl rfl rfl;have e66:=Q0o A0 3 (by decide) rfl rfl rfl;refine Q04 rfl ?_;refine Q0y (f:=61) (args:= #[.slice a7 n7 c7,.slice a6 n6 c6]) (by simp[go_sem,e65,e66]) ((Qej a7 n7 c7 Y a6 n6 c6 X W ((Xo1 Ky).step (Below.next0 H2.out hW)) ((Xo0 Ky).step (Below.next0 H2.out hW)) (by omega) (TI (Xe2 HS))).mono ?_);rintro e w2' ⟨a',n',rfl,p8,J5⟩;exact ⟨_,rfl,J5,(Q00 rfl).2 ⟨a',n',n',rfl,by rw[<-p8.len];exact (Xe4 Ky),p8⟩⟩
     ·intro A W hW F0 A0;have e64:=Q0o A0 1 (by decide) rfl rfl rfl;have e68:=Q0o A0 5 (by decide) rfl rfl rfl;obtain ⟨a5,l5,c5,hv5,hl5,WW⟩:=(Q00 rfl).1 (A0 4 (by decide));have e67:=Q1f hv5;refine Q04 rfl ?_;refine Q0y (f:=58) (args:= #[.bool ny,.slice a5 l5 c5,.int .i64 ee]) (by simp[go_sem,e64,e68,e67]) ((Q41 ny a5 l5 c5 _ ee W WW (by omega) (by omega) (by omega)).mono ?_);rintro e w2' ⟨n',a',l',c',v',e',rfl,G9,p8,_,_,_,J5⟩;obtain ⟨JZ,ZG⟩:=Qc4 G9;exact ⟨_,rfl,J5,(Q00 rfl).2 ⟨_,_,_,_,_,_,rfl,p8,JZ,ZG.trans (Xo0 HS)⟩⟩
    ·intro A W hW F0 A0;obtain ⟨n8,a8,l8,c8,q8,v8,k7,QX,R7,ZB⟩:=(Q00 rfl).1 (A0 6 (by decide));have e69:=Q1f k7;have e4:=Q0d F0 4 (by kernel_rfl) rfl;have Q6:=(Xn.out W hW).br;have k0:=Q6.c0;have f0:=Q6.f0;have f1:=Q6.f1;have f2:=Q6.f2;have d1:=Q6.d1 (.bool n8);have d2:=Q6.d2 (.bool n8) (.slice a8 l8 c8);refine Q3j (w':=(((W.setCell ⟨(w.heap.size+2),0,none⟩ (.bool n8)).setCell ⟨(w.heap.size+2),1,none⟩ (.slice a8 l8 c8)).setCell ⟨(w.heap.size+2),2,none⟩ (.int .i64 q8))) (by simp[go_sem,e4,e69,k0,f0,f1,f2,d1,d2]) ?_;exact Q6m (by omega) (Xn.out W hW).bel Q6 QX R7 ZB
    intro vs W3 G3;simp only[Q0s,Act.put,Uw,UK,UJ];obtain ⟨n9,a9,l9,c9,e9,v9,QI,JJ,i6,JQ,Z4⟩:=G3;have k0:=QI.c0;have k1:=QI.c1;have k2:=QI.c2;have HE:=Xh4 JJ i6 JQ Z4;clear QI JJ i6 JQ Z4
    go_wp2_with fail
    exact ⟨rfl,.agg #[.bool n9,.slice a9 l9 c9,.int .i64 e9],by simp[results,go_sem,k0,k1,k2],_,rfl,⟨n9,a9,l9,c9,e9,v9,rfl,(Xo0 HE),(Xo1 HE),(Xo2 HE)⟩,(Xe3 HE)⟩
   ·have Qu:Qob X Y=0:=(by unfold Qob;rw[Uq B0,Uq hgt]);have hXY:X=Y:=(by omega);have hs:(0:Dyadic)=D:=by
     rw[<-HD.out,Q8r P6 (by omega),hXY,Xbp,Q4t];exact (Qjx ee).symm
    rw[Qu] at E4;have HS:=Xh2 hs E4;clear hs E4 Qu P6 hgt B0 hXY;have hrb:=fun W2 (hb:Bw W1 W2)=>HQ1.out W2 hb;have HRB:=Ua hrb;clear hrb
    go_wp2_with (go_at_call_of 60 (Value.slice a6 n6 c6);refine (Xe1 HS).mono ?_;rintro r w2 ⟨rfl,D0⟩;have h3:=HRB.out w2 D0;have rc0:=h3.br.c0;have rc1:=h3.br.c1;have rc2:=h3.br.c2;have rf0:=h3.br.f0;have rf1:=h3.br.f1;have rf2:=h3.br.f2;have rd1:=h3.br.d1 (.bool false);have rd2:=h3.br.d2 (.bool false) (.slice none 0 0);have H2:=Ua h3;clear h3 D0)
    have hS:=H2.out.br.store (.bool false) (.slice none 0 0) (.int .i64 0);have k0:=hS.c0;have k1:=hS.c1;have k2:=hS.c2;have R4:=Q02.below H2.out.bel (show w.heap.size<=w.heap.size+2 by omega) (.bool false) (.slice none 0 0) (.int .i64 0);exact ⟨rfl,.agg #[.bool false,.slice none 0 0,.int .i64 0],by simp[results,go_sem,k0,k1,k2],_,rfl,⟨false,none,0,0,0,0,rfl,Q0n.nil_ _,⟨fun _=>⟨rfl,rfl⟩,fun h=>absurd rfl h⟩,(Xo0 HS)⟩,R4⟩
def Qsy (n:Bool) (v:Nat):Int:=if v=0 then 0 else if n=true then -1 else 1
theorem Qig {n:Bool} {v:Nat} {e:Int} (hc:Q5b n v e):Qsy n v=0↔dy (sgn n v) e=0:=by
 unfold Qsy
 by_cases h:v=0
 ·rw[Us h];exact ⟨fun _=>Qcz n e h,fun _=>rfl⟩
 ·rw[Uq h];have h1:dy (sgn n v) e≠0:=Qq6 (Q4m (hc.2 h))
  constructor
  ·intro h2;split at h2 <;> cases h2
  ·intro h2;exact absurd h2 h1
theorem Qkw (nx:Bool) (ax:OA) (lx cx:Nat) (ex:Int) (vx:Nat) (w:World) (h1:Q0n w ax lx cx vx) (c1:Q5b nx vx ex):
 Calls Tryz.prog 64 #[.agg #[.bool nx,.slice ax lx cx,.int .i64 ex]] w fun e w'=>e=.returned (.int .i64 (Qsy nx vx))/\Bw w w':=by
 have hb:=Q02.new w (.bool nx) (.slice ax lx cx) (.int .i64 ex) 56;have N0:Bw w (w.alloc (.cells #[.bool nx,.slice ax lx cx,.int .i64 ex] 56)):=Ba;obtain ⟨W0,I3⟩:∃W0,w.alloc (.cells #[.bool nx,.slice ax lx cx,.int .i64 ex] 56)=W0:=⟨_,rfl⟩;rw[I3] at hb N0;have c0:=hb.c0;have c1':=hb.c1;have y5:=fun h=>Q0n.none_of h1 h;obtain ⟨r,hr⟩:∃r,Qsy nx vx=r:=⟨_,rfl⟩;rw[hr];have HB:=Ua N0
 by_cases hvx:vx=0
 ·obtain rfl:=y5 hvx;obtain rfl:0=r:=by rw[<-hr,Qsy,Us hvx]
  clear h1 c1 hb N0 y5 hvx hr
  go_enter Tryz.func64,Tryz.ntmps64
  go_wp2_with fail
  go_ret;exact ⟨rfl,HB.out⟩
 ·have Z9:((lx:Int)==0)=false:=by
   rw[Ui];intro e;exact hvx (h1.zero_of (by omega))
  cases nx with
  |true=>
   obtain rfl: -1=r:=(by rw[<-hr,Qsy,Uq hvx,Us rfl]);clear h1 c1 hb N0 y5 hvx hr
   go_enter Tryz.func64,Tryz.ntmps64
   go_wp2_with fail
   go_ret;exact ⟨rfl,HB.out⟩
  |false=>
   obtain rfl:1=r:=(by rw[<-hr,Qsy,Uq hvx,Uq (by decide)]);clear h1 c1 hb N0 y5 hvx hr
   go_enter Tryz.func64,Tryz.ntmps64
   go_wp2_with fail
   go_ret;exact ⟨rfl,HB.out⟩
theorem Qs5 {w wr:World} (h:∀j,∃kk,wr.drewN j=w.drewN kk) (i j:Nat):∃kk,(wr.drewN i).drewN j=w.drewN kk:=by
 obtain ⟨kk,h1⟩:=h i;exact ⟨kk+j,by rw[h1,Xbq]⟩
theorem Q64 (a:OA) (n c:Nat) (E:List Int) (b:OA) (d:Nat) (F:List Int) (w:World) (h1:Q0j w a n c E) (h2:Q0j w b n d F):
 Calls Tryz.prog 117 #[.slice a n c,.slice b n d] w fun r w'=>r=.returned (.int .i64 (Q2u E F))/\∃k,w'=w.drewN k:=by
 have V7:=h1.len;have JD:=h2.len;have E4:=Ur h1.cap h1.most;have HC:=Xh2 h1.rd h2.rd;clear h1 h2;obtain ⟨V,hV⟩:∃V,Q2u E F=V:=⟨_,rfl⟩;rw[hV];have HV:=Ua hV;clear hV
 go_enter Tryz.func117,Tryz.ntmps117
 go_wp2_with fail
 go_loopw [5] (fun iv wr=>∃i:Nat,iv=.int .i64 (i:Int)/\i<=n/\Q2u (E.drop i) (F.drop i)=V/\∃k,wr=w.drewN k) (fun iv _=>n-(intOf iv).toNat)
 case atStart=>exact ⟨0,rfl,Uu _,HV.out,0,rfl⟩
 case round=>
  obtain ⟨i,rfl,hi,P5,Q2⟩:=hrel;have V0:∀p,wr.cell? p=w.cell? p:=fun p=>by obtain ⟨kk,rfl⟩:=Q2;rfl
  have M9:∀j,∃kk,wr.drewN j=w.drewN kk:=fun j=>by obtain ⟨kk,rfl⟩:=Q2;exact ⟨_,Xbq ..⟩
  have HW:=Xh2 Q2 M9;clear Q2 M9
  by_cases B0:i<n
  ·have E0:(i:Int)<(n:Int):=(by omega);obtain ⟨x,hx⟩:∃x,E[i]?=some x:=⟨_,Ub (by omega)⟩;obtain ⟨y,hy⟩:∃y,F[i]?=some y:=⟨_,Ub (by omega)⟩;obtain ⟨ba,oa,rfl,V5,WP⟩:=(Xo0 HC).at_ hx;obtain ⟨bb,ob,rfl,E3,VA⟩:=(Xe1 HC).at_ hy;have E6:=(V0 ⟨ba,oa+i,none⟩).trans WP;have y9:=(V0 ⟨bb,ob+i,none⟩).trans VA;have Ws:=Qm0 hx hy;rw[P5] at Ws;have HH:=Ua Ws;clear Ws hx hy P5 WP VA V0
   by_cases h1:y<x
   ·have D6:V=1:=(by rw[HH.out,Uq (by omega),Us h1]);subst D6
    go_wp2_with fail
    go_quiet (fail)
    go_wp2_with fail
    go_ret;exact ⟨rfl,(Xe1 HW) _⟩
   ·by_cases h2:x<y
    ·have D6:V= -1:=(by rw[HH.out,Us h2]);subst D6
     go_wp2_with fail
     go_quiet (fail)
     go_wp2_with fail
     go_quiet (fail)
     go_wp2_with fail
     go_ret;exact ⟨rfl,Qs5 (Xe1 HW) _ _⟩
    ·go_wp2_with fail
     go_quiet (fail)
     go_wp2_with fail
     go_quiet (fail)
     go_wp2_with fail
     refine ⟨⟨i+1,congrArg (Value.int .i64) (by omega),B0,?_,(Xe1 HW) _⟩,by simp only[intOf];omega⟩;rw[HH.out,Uq (by omega),Uq (by omega)]
  ·have E0:¬(i:Int)<(n:Int):=(by omega);have D6:V=0:=(by rw[<-P5,UZ (by omega),UZ (by omega)];rfl);subst D6;clear P5 V0
   go_wp2_with fail
   go_ret;exact ⟨rfl,(Xo0 HW)⟩
theorem Qd1 (n:Bool) (e:Int) (a:OA) (l c:Nat) (L:LN) (b:OA) (m d:Nat) (E:List Int) (k:Nat) (w:World) (h:WordsIn w a l c L) (hE:Q0j w b m d E) (hk:k<=4) (he: -9223372036854775808<=e) (V6:e<=9223372036854775807):
 Calls Tryz.prog 92 #[.agg #[.bool n,.int .i64 e,.slice a l c,.slice b m d],.int .i64 (k:Int)] w fun r w'=>r=.returned (.bool (decide (Q14 k E/\Q0i n e L)))/\Bw w w':=by
 obtain ⟨rs,Kn⟩:∃rs,decide (Q14 k E/\Q0i n e L)=rs:=⟨_,rfl⟩;rw[Kn];have Wt:=Ua Kn;clear Kn;have C0:Bw w (w.alloc (.cells #[.bool n,.int .i64 e,.slice a l c,.slice b m d] 44)):=Ba;have hX:=Q38.new w (.bool n) (.int .i64 e) (.slice a l c) (.slice b m d) 44;have B0:=Q0r w (.cells #[.bool n,.int .i64 e,.slice a l c,.slice b m d] 44);generalize hW:w.alloc (.cells #[.bool n,.int .i64 e,.slice a l c,.slice b m d] 44)=W at C0 hX B0;have y5:=hX.c0;have U4:=hX.c1;have J4:=hX.c2;have hx3:=hX.c3;have Z2:=hE.len;subst Z2;have Zi:=Q5q n e a l c L W (h.step C0) he V6 (by have:=h.cap;have:=h.most;omega);have X8:=hE.rd.below C0;have E4:=Ur hE.cap hE.most;have HC:=Xh4 Zi X8 C0 hE.rng.1;clear C0 hX B0 Zi X8 h hE
 go_enter Tryz.func92,Tryz.ntmps92
 go_wp2_with fail
 go_loopw [5,6] (fun sv_ iv wr=>∃(i:Nat) (s:Int),sv_=.int .i64 s/\iv=.int .i64 (i:Int)/\i<=E.length/\i<=4/\(E.take i).sum=s/\0<=s/\s<=8*i/\(∀x∈E.take i,0<=x)/\W=wr) (fun _ iv _=>4-(intOf iv).toNat)
 case atStart=>exact ⟨0,0,rfl,rfl,Uu _,by decide,by simp,by decide,by decide,by simp,rfl⟩
 case round=>
  obtain ⟨i,s,rfl,rfl,hi,hi4,hs,Zs,Ve,N5,rfl⟩:=hrel
  by_cases B0:i<E.length/\i<4
  ·have E0:(i:Int)<(E.length:Int):=(by omega);have hlt4:(i:Int)<4:=(by omega);obtain ⟨x,hx⟩:∃x,E[i]?=some x:=⟨_,Ub B0.1⟩;obtain ⟨ba,oa,rfl,V5,E6⟩:=(Xo1 HC).at_ hx;have Kp:=(Xe3 HC) x (Ud hx);have S9:=Qbi hx;have HS:=Xh4 hs S9 N5 hx;clear hs S9 N5 hx
   by_cases hx0':x<0
   ·go_wp2_with fail
    go_ret;have D7:¬(Q14 k E/\Q0i n e L):=fun h=>by
     have:=h.1.2.1 x (Ud (Xe3 HS));omega
    have hf:rs=false:=(by rw[<-Wt.out];exact UL D7);exact ⟨by rw[hf];rfl,(Xo2 HC)⟩
   ·by_cases M5:8<x
    ·go_wp2_with fail
     go_ret;have D7:¬(Q14 k E/\Q0i n e L):=fun h=>by
      have:=(Q1x h.1 x (Ud (Xe3 HS))).2;omega
     have hf:rs=false:=(by rw[<-Wt.out];exact UL D7);exact ⟨by rw[hf];rfl,(Xo2 HC)⟩
    ·go_wp2_with fail
     refine ⟨⟨i+1,s+x,rfl,congrArg (Value.int .i64) (by omega),by omega,by omega,by rw[(Xo1 HS),(Xo0 HS)],by omega,by omega,fun y hy=>?_,trivial⟩,by simp only[intOf];omega⟩;obtain ⟨j,hj,hjy⟩:=Qca hy
     by_cases R6:j=i
     ·subst R6;have h5:=(Xe3 HS);rw[hjy] at h5;injection h5 with h5;omega
     ·exact (Xo2 HS) y (Ts.2 ⟨j,by rw[To,Us (by omega)];exact hjy⟩)
  ·by_cases N9:E.length=k
   ·have A6:i=E.length:=(by omega);rw[A6,Ta] at hs N5;have V7:¬(i:Int)<(E.length:Int):=(by omega);have hkk:((E.length:Int)==(k:Int))=true:=(by rw[beq_iff_eq];omega);have HS:=Xh3 hs N5 N9;clear hs N5 N9 A6
    by_cases h8:s<=8
    ·have Ja:rs=decide (Q0i n e L):=by
      rw[<-Wt.out];exact decide_eq_decide.2 ⟨fun h=>h.2,fun h=>⟨⟨(Xe2 HS),(Xo1 HS),by rw[(Xo0 HS)];exact h8⟩,h⟩⟩
     have HR:=Ua Ja;clear Ja
     go_wp2_with (go_at_call 118;refine (Xo0 HC).mono ?_;rintro r w1 ⟨rfl,C0⟩;have H1:=Ua C0;clear C0)
     go_ret;exact ⟨by rw[HR.out];rfl,Below.next0 (Xo2 HC) H1.out⟩
    ·have D7:¬(Q14 k E/\Q0i n e L):=fun h=>by
      have:=h.1.2.2;have:=(Xo0 HS);omega
     have hf:rs=false:=(by rw[<-Wt.out];exact UL D7);have HR:=Ua hf;clear hf D7
     go_wp2_with fail
     go_ret;exact ⟨by rw[HR.out];rfl,(Xo2 HC)⟩
   ·have hkk:((E.length:Int)==(k:Int))=false:=(by rw[Ui];omega);have D7:¬(Q14 k E/\Q0i n e L):=fun h=>N9 h.1.1;have hf:rs=false:=(by rw[<-Wt.out];exact UL D7);have HR:=Ua hf;clear hf D7 hs N5
    by_cases V7:i<E.length
    ·have hl1':(i:Int)<(E.length:Int):=(by omega);have hl4:¬(i:Int)<4:=by omega
     go_wp2_with fail
     go_ret;exact ⟨by rw[HR.out];rfl,(Xo2 HC)⟩
    ·have hl1':¬(i:Int)<(E.length:Int):=by omega
     go_wp2_with fail
     go_ret;exact ⟨by rw[HR.out];rfl,(Xo2 HC)⟩
end Go.Proofs.YtdilmfakkppgpaaGreatDoor
