/- Part 14. No condition. -/
import Derived.Test.YtidojbkhlenahaaGreatDoorPkProblemDrawn12
set_option maxRecDepth 100000
set_option maxHeartbeats 16000000
namespace Go.Proofs.YtidojbkhlenahaaGreatDoor
open Go.RowKit WordsM
structure Qtt (w W:World) (x0 x1 x2 y0 y1 y2:Value):Prop where
 bx:Q03 W w.heap.size x0 x1 x2
 by_:Q03 W (w.heap.size+1) y0 y1 y2
 br:Q03 W (w.heap.size+2) (.bool false) (.slice none 0 0) (.int .i64 0)
 lt:w.heap.size+2<W.heap.size
 bel:Bw w W
theorem Qtt.step {w W W':World} {x0 x1 x2 y0 y1 y2:Value} (h:Qtt w W x0 x1 x2 y0 y1 y2) (hb:Bw W W'):Qtt w W' x0 x1 x2 y0 y1 y2:=by
 have F0:=h.lt;exact ⟨h.bx.step hb (by omega),h.by_.step hb (by omega),h.br.step hb (by omega),Uc h.lt hb.size,Below.next0 h.bel hb⟩
theorem Q9p (w:World) (x0 x1 x2 y0 y1 y2:Value) (T1 T2 T3:TypeId):Qtt w (((w.alloc (.cells #[x0,x1,x2] T1)).alloc (.cells #[y0,y1,y2] T2)).alloc (.cells #[.bool false,.slice none 0 0,.int .i64 0] T3)) x0 x1 x2 y0 y1 y2:=by
 obtain ⟨h1,h2,h3,h4,h5⟩:=Qom w x0 x1 x2 y0 y1 y2 (.bool false) (.slice none 0 0) (.int .i64 0) T1 T2 T3;exact ⟨h2,h3,h4,by omega,h5⟩
structure Two (w W:World) (x0 x1 x2:Value):Prop where
 bx:Q03 W w.heap.size x0 x1 x2
 br:Q03 W (w.heap.size+1) (.bool false) (.slice none 0 0) (.int .i64 0)
 lt:w.heap.size+1<W.heap.size
 bel:Bw w W
theorem Two.step {w W W':World} {x0 x1 x2:Value} (h:Two w W x0 x1 x2) (hb:Bw W W'):Two w W' x0 x1 x2:=by
 have F0:=h.lt;exact ⟨h.bx.step hb (by omega),h.br.step hb (by omega),Uc h.lt hb.size,Below.next0 h.bel hb⟩
theorem Qqu (w:World) (x0 x1 x2:Value) (T1 T3:TypeId):Two w ((w.alloc (.cells #[x0,x1,x2] T1)).alloc (.cells #[.bool false,.slice none 0 0,.int .i64 0] T3)) x0 x1 x2:=by
 obtain ⟨h1,h2,h3,h4⟩:=Q89 w x0 x1 x2 (.bool false) (.slice none 0 0) (.int .i64 0) T1 T3;exact ⟨h2,h3,by omega,h4⟩
theorem Qqv {nx ny:Bool} {ex ey:Int} {vx vy:Nat} (h1:vx≠0) (h2:vy≠0) (c1:Q3j nx vx ex) (c2:Q3j ny vy ey):Q3j (nx != ny) (vx*vy) (ex+ey):=
 ⟨fun h=>by rcases Nat.mul_eq_zero.1 h with h|h <;> contradiction,fun _=>by rw[Nat.mul_mod,c1.2 h1,c2.2 h2]⟩
theorem Qxw (n:Bool) (v:Nat) {e f:Int} {k:Nat} (h:e=f+k):dy (sgn n v) e=dy (sgn n (v*2^k)) f:=by
 subst h;rw[Q88,Q3i]
theorem Qk6 (n:Bool) (x y:Nat) (f:Int):dy (sgn n x) f+dy (sgn n y) f=dy (sgn n (x+y)) f:=by
 rw[Qdr]
 congr 1
 cases n <;> simp[sgn];omega
theorem Q8r {n m:Bool} (h:n≠m) {x y:Nat} (Jt:y<=x) (f:Int):dy (sgn n x) f+dy (sgn m y) f=dy (sgn n (x-y)) f:=by
 rw[Qdr]
 congr 1
 cases n <;> cases m <;> simp_all [sgn] <;> omega
theorem Q7p (nx:Bool) (ex:Int) (ax:OA) (lx cx:Nat) (ls:LN) (w:World) (h:WordsIn w ax lx cx ls) (hi:Q0a nx ex ls):
 Calls Tryz.prog 59 #[.agg #[.bool nx,.int .i64 ex,.slice ax lx cx]] w (Qe0 w (Q2m nx ex ls)):=by
 have O6:=(Q7m hi h.low).1;have O2:=h.len;have XU:Q3j nx (val (2^64) ls) ex:=Qc9 hi h.low;have hQ:=fun W=>(Qqu w (.bool nx) (.int .i64 ex) (.slice ax lx cx) 26 87).step (W':=W);obtain ⟨W0,M1⟩:∃W0,(w.alloc (.cells #[.bool nx,.int .i64 ex,.slice ax lx cx] 26)).alloc (.cells #[.bool false,.slice none 0 0,.int .i64 0] 87)=W0:=⟨_,rfl⟩;rw[M1] at hQ;have HQ:=Ua hQ;have HW:=Ua h;have HC:=Ua XU;clear hQ h XU hi
 go_enter Tryz.func59,Tryz.ntmps59
 go_wp2_with fail
 refine Q1y (by kernel_rfl) 8 rfl (fun W=>Bw W0 W) (fun _ _ h h'=>Below.next0 h h') (Q3q [.pointer (some ⟨w.heap.size,0,none⟩),.bool nx,.pointer (some ⟨w.heap.size,2,none⟩),.slice ax lx cx,undef,.pointer (some ⟨w.heap.size,1,none⟩),.int .i64 ex,undef] (Q13 [(4,SlD (2*lx) (val (2^64) ls)),(7,fun u w=>Q5c w u (Q2m nx ex ls))])) (Q08 (Q0e (Qjn (SlD.stable _ _) (Q1g _)))) (Qvs w (w.heap.size+1) (Q2m nx ex ls)) (by kernel_rfl) (by kernel_rfl) (by kernel_rfl) (by kernel_rfl) (Q04 W0) ?_ ?_ ?_
 ·skip
  repeat' (first|exact Q83|refine Q82 ?_ ?_)
  all_goals first
   |(refine Q1p rfl fun A W hW E0 hd hd=>?_
     simp[Q72,Region.binds,Q13] at hd;have e1:=Q07 E0 1 (by kernel_rfl) rfl;obtain ⟨u0_0,u0_1,u0_2,_,_,_⟩:=(HQ.out W hW).bx;refine Q12 rfl rfl ?_;simp[go_sem,hd,e1,u0_0,u0_2,u0_1]
     done)
   |skip
  ·intro A W hW E0 A0;have e6:=Q11 A0 3 (by decide) rfl rfl rfl;refine Q02 rfl ?_;refine Q0s (f:=73) (args:= #[.slice ax lx cx]) (by simp[go_sem,e6]) ((Q3l ax lx cx ls W (HW.out.step (HQ.out W hW).bel) (by omega)).mono ?_);rintro e w2 ⟨a',n',c',rfl,ZT,t7,F3⟩;exact ⟨_,rfl,F3,(Q00 rfl).2 ⟨a',n',c',rfl,ZT,t7⟩⟩
  ·intro A W hW E0 A0;have e4:=Q11 A0 1 (by decide) rfl rfl rfl;have e9:=Q11 A0 6 (by decide) rfl rfl rfl;refine Q02 rfl ?_;obtain ⟨a7,l7,c7,XI,Yi,Q9⟩:=(Q00 rfl).1 (A0 4 (by decide));have e7:=Q1o XI;refine Q6p (u:=.agg #[.bool nx,.slice a7 l7 c7,.int .i64 ex]) ?_ ((Q00 rfl).2 ⟨nx,a7,l7,c7,ex,_,rfl,Q9,HC.out,rfl⟩);simp[go_sem,e4,e7,e9]
 ·intro A W hW E0 A0;obtain ⟨n8,a8,l8,c8,q8,v8,A9,Qv,u6,Y9⟩:=(Q00 rfl).1 (A0 7 (by decide));have e10:=Q1o A9;have e2:=Q07 E0 2 (by kernel_rfl) rfl;have G3:=(HQ.out W hW).br;have k0:=G3.c0;have f0:=G3.f0;have f1:=G3.f1;have f2:=G3.f2;have d1:=G3.d1 (.bool n8);have d2:=G3.d2 (.bool n8) (.slice a8 l8 c8);refine Q2p (w':=(((W.setCell ⟨(w.heap.size+1),0,none⟩ (.bool n8)).setCell ⟨(w.heap.size+1),1,none⟩ (.slice a8 l8 c8)).setCell ⟨(w.heap.size+1),2,none⟩ (.int .i64 q8))) (by simp[go_sem,e2,e10,k0,f0,f1,f2,d1,d2]) ?_;exact Q4z (by omega) (HQ.out W hW).bel G3 Qv u6 Y9
 intro vs W1 I2;simp only[Q0t,Act.put,Um,Ux,Ut];obtain ⟨n9,a9,l9,c9,e9,v9,Y6,QO,D7,P8,N3⟩:=I2;obtain ⟨k0,k1,k2⟩:=Y6.cc;have HE:=Xh4 QO D7 P8 N3;clear Y6 QO D7 P8 N3
 go_wp2_with fail
 exact ⟨rfl,.agg #[.bool n9,.slice a9 l9 c9,.int .i64 e9],by simp[results,go_sem,k0,k1,k2],_,rfl,⟨n9,a9,l9,c9,e9,v9,rfl,(Xo0 HE),(Xo1 HE),(Xo2 HE)⟩,(Xe3 HE)⟩
theorem Qxx (nx:Bool) (ax:OA) (lx cx:Nat) (ex:Int) (vx:Nat) (ny:Bool) (ay:OA) (ly cy:Nat) (ey:Int) (vy:Nat) (w:World) (h1:Q0v w ax lx cx vx) (h2:Q0v w ay ly cy vy) (c1:Q3j nx vx ex) (c2:Q3j ny vy ey) (T:Nat) (b1:bnd T (dy (sgn nx vx) ex)) (b2:bnd T (dy (sgn ny vy) ey)) (hT:T<=500000):
 Calls Tryz.prog 223 #[.agg #[.bool nx,.slice ax lx cx,.int .i64 ex],.agg #[.bool ny,.slice ay ly cy,.int .i64 ey]] w (Qe0 w (dy (sgn nx vx) ex*dy (sgn ny vy) ey)):=by
 obtain ⟨g1,g2,g3⟩:=Q8l (k:=31250) c1 b1 (by omega);obtain ⟨g4,g5,g6⟩:=Q8l (k:=31250) c2 b2 (by omega);rw[h1.len] at g1;rw[h2.len] at g4;have hQ:=fun W=>(Q9p w (.bool nx) (.slice ax lx cx) (.int .i64 ex) (.bool ny) (.slice ay ly cy) (.int .i64 ey) 87 87 87).step (W':=W);obtain ⟨W0,M1⟩:∃W0,((w.alloc (.cells #[.bool nx,.slice ax lx cx,.int .i64 ex] 87)).alloc (.cells #[.bool ny,.slice ay ly cy,.int .i64 ey] 87)).alloc (.cells #[.bool false,.slice none 0 0,.int .i64 0] 87)=W0:=⟨_,rfl⟩;rw[M1] at hQ;have HQ:=Ua hQ;have Y5:=fun h=>Q0v.none_of h1 h;have ZF:=fun h=>Q0v.none_of h2 h;have A7:IntKind.i64.wrap (ex+ey)=ex+ey:=by rw[UY];omega
 by_cases hvx:vx=0
 ·obtain rfl:=Y5 hvx;have hD:(0:Dyadic)=dy (sgn nx vx) ex*dy (sgn ny vy) ey:=by rw[Qa8 nx ex hvx,Dyadic.zero_mul]
  have HD:=Ua hD;clear hD h1 h2 c1 c2 b1 b2 Y5 ZF hvx;have xc1:=(HQ.out W0 (Ud _ _)).bx.c1;have rc0:=(HQ.out W0 (Ud _ _)).br.c0;have rc1:=(HQ.out W0 (Ud _ _)).br.c1;have rc2:=(HQ.out W0 (Ud _ _)).br.c2;have rf0:=(HQ.out W0 (Ud _ _)).br.f0;have rf1:=(HQ.out W0 (Ud _ _)).br.f1;have rf2:=(HQ.out W0 (Ud _ _)).br.f2;have rd1:=(HQ.out W0 (Ud _ _)).br.d1 (.bool false);have rd2:=(HQ.out W0 (Ud _ _)).br.d2 (.bool false) (.slice none 0 0)
  go_enter Tryz.func223,Tryz.ntmps223
  go_wp2_with fail
  have hS:=(HQ.out W0 (Ud _ _)).br.store (.bool false) (.slice none 0 0) (.int .i64 0);obtain ⟨k0,k1,k2⟩:=hS.cc;have X3:=Q03.below (HQ.out W0 (Ud _ _)).bel (show w.heap.size<=w.heap.size+2 by omega) (.bool false) (.slice none 0 0) (.int .i64 0);exact ⟨rfl,.agg #[.bool false,.slice none 0 0,.int .i64 0],by simp[results,go_sem,k0,k1,k2],_,rfl,⟨false,none,0,0,0,0,rfl,Q0v.nil_ _,⟨fun _=>⟨rfl,rfl⟩,fun h=>absurd rfl h⟩,HD.out⟩,X3⟩
 have O6:((lx:Int)==0)=false:=by
  rw[Uk];intro e;exact hvx (h1.zero_of (by omega))
 by_cases hvy:vy=0
 ·obtain rfl:=ZF hvy;have hD:(0:Dyadic)=dy (sgn nx vx) ex*dy (sgn ny vy) ey:=by rw[Qa8 ny ey hvy,Dyadic.mul_zero]
  have HD:=Ua hD;clear hD h1 h2 c1 c2 b1 b2 Y5 ZF hvy hvx;have xc1:=(HQ.out W0 (Ud _ _)).bx.c1;have yc1:=(HQ.out W0 (Ud _ _)).by_.c1;have rc0:=(HQ.out W0 (Ud _ _)).br.c0;have rc1:=(HQ.out W0 (Ud _ _)).br.c1;have rc2:=(HQ.out W0 (Ud _ _)).br.c2;have rf0:=(HQ.out W0 (Ud _ _)).br.f0;have rf1:=(HQ.out W0 (Ud _ _)).br.f1;have rf2:=(HQ.out W0 (Ud _ _)).br.f2;have rd1:=(HQ.out W0 (Ud _ _)).br.d1 (.bool false);have rd2:=(HQ.out W0 (Ud _ _)).br.d2 (.bool false) (.slice none 0 0)
  go_enter Tryz.func223,Tryz.ntmps223
  go_wp2_with fail
  have hS:=(HQ.out W0 (Ud _ _)).br.store (.bool false) (.slice none 0 0) (.int .i64 0);obtain ⟨k0,k1,k2⟩:=hS.cc;have X3:=Q03.below (HQ.out W0 (Ud _ _)).bel (show w.heap.size<=w.heap.size+2 by omega) (.bool false) (.slice none 0 0) (.int .i64 0);exact ⟨rfl,.agg #[.bool false,.slice none 0 0,.int .i64 0],by simp[results,go_sem,k0,k1,k2],_,rfl,⟨false,none,0,0,0,0,rfl,Q0v.nil_ _,⟨fun _=>⟨rfl,rfl⟩,fun h=>absurd rfl h⟩,HD.out⟩,X3⟩
 have hly:((ly:Int)==0)=false:=by
  rw[Uk];intro e;exact hvy (h2.zero_of (by omega))
 have HW:=Xh2 h1 h2;have E3:=Qqv hvx hvy c1 c2;have Wc:dy (sgn (nx != ny) (vx*vy)) (ex+ey)=dy (sgn nx vx) ex*dy (sgn ny vy) ey:=by rw[Qxa,Qvc]
 have HC:=Xh2 E3 Wc;have xc1:=(HQ.out W0 (Ud _ _)).bx.c1;have yc1:=(HQ.out W0 (Ud _ _)).by_.c1;clear h1 h2 c1 c2 b1 b2 Y5 ZF hvy hvx E3 Wc
 go_enter Tryz.func223,Tryz.ntmps223
 go_wp2_with fail
 refine Q1y (by kernel_rfl) 16 rfl (fun W=>Bw W0 W) (fun _ _ h h'=>Below.next0 h h') (Q3q [.pointer (some ⟨w.heap.size,0,none⟩),.bool nx,.pointer (some ⟨(w.heap.size+1),0,none⟩),.bool ny,.bool (nx != ny),.pointer (some ⟨w.heap.size,1,none⟩),.slice ax lx cx,.pointer (some ⟨(w.heap.size+1),1,none⟩),.slice ay ly cy,undef,.pointer (some ⟨w.heap.size,2,none⟩),.int .i64 ex,.pointer (some ⟨(w.heap.size+1),2,none⟩),.int .i64 ey,.int .i64 (ex+ey),undef] (Q13 [(9,SlD 9223372036854775807 (vx*vy)),(15,fun u w=>Q5c w u (dy (sgn nx vx) ex*dy (sgn ny vy) ey))])) (Q08 (Q0e (Qjn (SlD.stable _ _) (Q1g _)))) (Qvs w (w.heap.size+2) (dy (sgn nx vx) ex*dy (sgn ny vy) ey)) (by kernel_rfl) (by kernel_rfl) (by kernel_rfl) (by kernel_rfl) (Q04 W0) ?_ ?_ ?_
 ·skip
  repeat' (first|exact Q83|refine Q82 ?_ ?_)
  all_goals first
   |(refine Q1p rfl fun A W hW E0 hd hd=>?_
     simp[Q72,Region.binds,Q13] at hd;have e2:=Q07 E0 2 (by kernel_rfl) rfl;have e3:=Q07 E0 3 (by kernel_rfl) rfl;obtain ⟨u0_0,u0_1,u0_2,_,_,_⟩:=(HQ.out W hW).bx;obtain ⟨u1_0,u1_1,u1_2,_,_,_⟩:=(HQ.out W hW).by_;refine Q12 rfl rfl ?_;simp[go_sem,hd,e2,e3,u0_0,u1_0,u0_1,u1_1,u0_2,u1_2,A7]
     done)
   |skip
  ·intro A W hW E0 A0;have e17:=Q11 A0 1 (by decide) rfl rfl rfl;have e19:=Q11 A0 3 (by decide) rfl rfl rfl;refine Q02 rfl ?_;refine Q12 rfl rfl ?_;cases nx <;> cases ny <;> simp[go_sem,e17,e19]
  ·intro A W hW E0 A0;have e22:=Q11 A0 6 (by decide) rfl rfl rfl;have e24:=Q11 A0 8 (by decide) rfl rfl rfl;refine Q02 rfl ?_;refine Q0s (f:=139) (args:= #[.slice ax lx cx,.slice ay ly cy]) (by simp[go_sem,e22,e24]) ((Qmb ax lx cx vx ay ly cy vy W ((Xo0 HW).step (HQ.out W hW).bel) ((Xe1 HW).step (HQ.out W hW).bel) (by omega) (by omega)).mono ?_);rintro e w2 ⟨a',n',rfl,t7,F3⟩;exact ⟨_,rfl,F3,(Q00 rfl).2 ⟨a',n',n',rfl,Qt5 t7,t7⟩⟩
  ·intro A W hW E0 A0;have e20:=Q11 A0 4 (by decide) rfl rfl rfl;have e30:=Q11 A0 14 (by decide) rfl rfl rfl;refine Q02 rfl ?_;obtain ⟨a7,l7,c7,XI,Yi,Q9⟩:=(Q00 rfl).1 (A0 9 (by decide));have e25:=Q1o XI;refine Q6p (u:=.agg #[.bool (nx != ny),.slice a7 l7 c7,.int .i64 (ex+ey)]) ?_ ((Q00 rfl).2 ⟨_,a7,l7,c7,_,_,rfl,Q9,(Xo0 HC),(Xe1 HC)⟩);simp[go_sem,e20,e25,e30]
 ·intro A W hW E0 A0;obtain ⟨n8,a8,l8,c8,q8,v8,A9,Qv,u6,Y9⟩:=(Q00 rfl).1 (A0 15 (by decide));have e31:=Q1o A9;have e4:=Q07 E0 4 (by kernel_rfl) rfl;have G3:=(HQ.out W hW).br;have k0:=G3.c0;have f0:=G3.f0;have f1:=G3.f1;have f2:=G3.f2;have d1:=G3.d1 (.bool n8);have d2:=G3.d2 (.bool n8) (.slice a8 l8 c8);refine Q2p (w':=(((W.setCell ⟨(w.heap.size+2),0,none⟩ (.bool n8)).setCell ⟨(w.heap.size+2),1,none⟩ (.slice a8 l8 c8)).setCell ⟨(w.heap.size+2),2,none⟩ (.int .i64 q8))) (by simp[go_sem,e4,e31,k0,f0,f1,f2,d1,d2]) ?_;exact Q4z (by omega) (HQ.out W hW).bel G3 Qv u6 Y9
 intro vs W1 I2;simp only[Q0t,Act.put,Um,Ux,Ut];obtain ⟨n9,a9,l9,c9,e9,v9,Y6,QO,D7,P8,N3⟩:=I2;obtain ⟨k0,k1,k2⟩:=Y6.cc;have HE:=Xh4 QO D7 P8 N3;clear Y6 QO D7 P8 N3
 go_wp2_with fail
 exact ⟨rfl,.agg #[.bool n9,.slice a9 l9 c9,.int .i64 e9],by simp[results,go_sem,k0,k1,k2],_,rfl,⟨n9,a9,l9,c9,e9,v9,rfl,(Xo0 HE),(Xo1 HE),(Xo2 HE)⟩,(Xe3 HE)⟩
theorem Q8s (nx:Bool) (ax:OA) (lx cx:Nat) (ex:Int) (vx:Nat) (ny:Bool) (ay:OA) (ly cy:Nat) (ey:Int) (vy:Nat) (w:World) (h1:Q0v w ax lx cx vx) (h2:Q0v w ay ly cy vy) (c1:Q3j nx vx ex) (c2:Q3j ny vy ey) (T:Nat) (b1:bnd T (dy (sgn nx vx) ex)) (b2:bnd T (dy (sgn ny vy) ey)) (hT:T<=500000):
 Calls Tryz.prog 151 #[.agg #[.bool nx,.slice ax lx cx,.int .i64 ex],.agg #[.bool ny,.slice ay ly cy,.int .i64 ey]] w (Qe0 w (dy (sgn nx vx) ex+dy (sgn ny vy) ey)):=by
 obtain ⟨g1,g2,g3⟩:=Q8l (k:=31250) c1 b1 (by omega);obtain ⟨g4,g5,g6⟩:=Q8l (k:=31250) c2 b2 (by omega);rw[h1.len] at g1;rw[h2.len] at g4;have hQ:=fun W=>(Q9p w (.bool nx) (.slice ax lx cx) (.int .i64 ex) (.bool ny) (.slice ay ly cy) (.int .i64 ey) 87 87 87).step (W':=W);obtain ⟨W0,M1⟩:∃W0,((w.alloc (.cells #[.bool nx,.slice ax lx cx,.int .i64 ex] 87)).alloc (.cells #[.bool ny,.slice ay ly cy,.int .i64 ey] 87)).alloc (.cells #[.bool false,.slice none 0 0,.int .i64 0] 87)=W0:=⟨_,rfl⟩;rw[M1] at hQ;have HQ:=Ua hQ;have Y5:=fun h=>Q0v.none_of h1 h;have ZF:=fun h=>Q0v.none_of h2 h
 by_cases hvx:vx=0
 ·obtain rfl:=Y5 hvx;have hD:dy (sgn ny vy) ey=dy (sgn nx vx) ex+dy (sgn ny vy) ey:=by rw[Qa8 nx ex hvx,Dyadic.zero_add]
  have HD:=Xh3 hD c2 h2;clear hD h1 h2 c1 c2 b1 b2 Y5 ZF hvx;have xc1:=(HQ.out W0 (Ud _ _)).bx.c1;have yc0:=(HQ.out W0 (Ud _ _)).by_.c0;have yc1:=(HQ.out W0 (Ud _ _)).by_.c1;have yc2:=(HQ.out W0 (Ud _ _)).by_.c2;have rc0:=(HQ.out W0 (Ud _ _)).br.c0;have rc1:=(HQ.out W0 (Ud _ _)).br.c1;have rc2:=(HQ.out W0 (Ud _ _)).br.c2;have rf0:=(HQ.out W0 (Ud _ _)).br.f0;have rf1:=(HQ.out W0 (Ud _ _)).br.f1;have rf2:=(HQ.out W0 (Ud _ _)).br.f2;have rd1:=(HQ.out W0 (Ud _ _)).br.d1 (.bool ny);have rd2:=(HQ.out W0 (Ud _ _)).br.d2 (.bool ny) (.slice ay ly cy)
  go_enter Tryz.func151,Tryz.ntmps151
  go_wp2_with fail
  have hS:=(HQ.out W0 (Ud _ _)).br.store (.bool ny) (.slice ay ly cy) (.int .i64 ey);obtain ⟨k0,k1,k2⟩:=hS.cc;have X3:=Q03.below (HQ.out W0 (Ud _ _)).bel (show w.heap.size<=w.heap.size+2 by omega) (.bool ny) (.slice ay ly cy) (.int .i64 ey);exact ⟨rfl,.agg #[.bool ny,.slice ay ly cy,.int .i64 ey],by simp[results,go_sem,k0,k1,k2],_,rfl,⟨_,_,_,_,_,_,rfl,((Xe2 HD).step (HQ.out W0 (Ud _ _)).bel).box (HQ.out W0 (Ud _ _)).br _ _ _,(Xo1 HD),(Xo0 HD)⟩,X3⟩
 have O6:((lx:Int)==0)=false:=by
  rw[Uk];intro e;exact hvx (h1.zero_of (by omega))
 by_cases hvy:vy=0
 ·obtain rfl:=ZF hvy;have hD:dy (sgn nx vx) ex=dy (sgn nx vx) ex+dy (sgn ny vy) ey:=by rw[Qa8 ny ey hvy,Xbr]
  have HD:=Xh3 hD c1 h1;clear hD h1 h2 c1 c2 b1 b2 Y5 ZF hvy hvx;have xc0:=(HQ.out W0 (Ud _ _)).bx.c0;have xc1:=(HQ.out W0 (Ud _ _)).bx.c1;have xc2:=(HQ.out W0 (Ud _ _)).bx.c2;have yc1:=(HQ.out W0 (Ud _ _)).by_.c1;have rc0:=(HQ.out W0 (Ud _ _)).br.c0;have rc1:=(HQ.out W0 (Ud _ _)).br.c1;have rc2:=(HQ.out W0 (Ud _ _)).br.c2;have rf0:=(HQ.out W0 (Ud _ _)).br.f0;have rf1:=(HQ.out W0 (Ud _ _)).br.f1;have rf2:=(HQ.out W0 (Ud _ _)).br.f2;have rd1:=(HQ.out W0 (Ud _ _)).br.d1 (.bool nx);have rd2:=(HQ.out W0 (Ud _ _)).br.d2 (.bool nx) (.slice ax lx cx)
  go_enter Tryz.func151,Tryz.ntmps151
  go_wp2_with fail
  have hS:=(HQ.out W0 (Ud _ _)).br.store (.bool nx) (.slice ax lx cx) (.int .i64 ex);obtain ⟨k0,k1,k2⟩:=hS.cc;have X3:=Q03.below (HQ.out W0 (Ud _ _)).bel (show w.heap.size<=w.heap.size+2 by omega) (.bool nx) (.slice ax lx cx) (.int .i64 ex);exact ⟨rfl,.agg #[.bool nx,.slice ax lx cx,.int .i64 ex],by simp[results,go_sem,k0,k1,k2],_,rfl,⟨_,_,_,_,_,_,rfl,((Xe2 HD).step (HQ.out W0 (Ud _ _)).bel).box (HQ.out W0 (Ud _ _)).br _ _ _,(Xo1 HD),(Xo0 HD)⟩,X3⟩
 have hly:((ly:Int)==0)=false:=by
  rw[Uk];intro e;exact hvy (h2.zero_of (by omega))
 obtain ⟨ee,hee⟩:∃ee,min ex ey=ee:=⟨_,rfl⟩;obtain ⟨p,hp⟩:∃p:Nat,ex-ee=(p:Int):=⟨(ex-ee).toNat,by omega⟩;obtain ⟨q,hq⟩:∃q:Nat,ey-ee=(q:Int):=⟨(ey-ee).toNat,by omega⟩;have JS:p<=1000000:=by omega
 have P6:q<=1000000:=by omega
 have hee1: -1000000<=ee:=by omega
 have hee2:ee<=1000000:=by omega
 have hDx:=Qxw nx vx (e:=ex) (f:=ee) (k:=p) (by omega);have hDy:=Qxw ny vy (e:=ey) (f:=ee) (k:=q) (by omega);obtain ⟨X,hX⟩:∃X,vx*2^p=X:=⟨_,rfl⟩;obtain ⟨Y,hY⟩:∃Y,vy*2^q=Y:=⟨_,rfl⟩;rw[hX] at hDx;rw[hY] at hDy;have S4:IntKind.i64.wrap (p:Int)=(p:Int):=by rw[UY];omega
 have Z4:IntKind.i64.wrap (q:Int)=(q:Int):=by rw[UY];omega
 have HW:=Xh2 h1 h2;have HV:=Xh2 hX hY;have xc:=(HQ.out W0 (Ud _ _)).bx;have yc:=(HQ.out W0 (Ud _ _)).by_;have xc1:=xc.c1;have yc1:=yc.c1;have xc2:=xc.c2;have yc2:=yc.c2;rw[hDx,hDy];obtain ⟨D,hD⟩:∃D,dy (sgn nx X) ee+dy (sgn ny Y) ee=D:=⟨_,rfl⟩;rw[hD];have HD:=Ua hD;clear h1 h2 c1 c2 b1 b2 Y5 ZF hvy hvx hX hY hDx hDy hD xc yc g2 g3 g5 g6
 go_enter Tryz.func151,Tryz.ntmps151
 go_upto_region 6 with fail
 refine Q06 (E:=Q7l) (fun _=>Ud _ _) (by kernel_rfl) (fun W=>Bw W0 W) (fun _ _ h h'=>Below.next0 h h') (Q3q [.pointer (some ⟨w.heap.size,1,none⟩),.slice ax lx cx,.pointer (some ⟨w.heap.size,2,none⟩),.int .i64 ex,.int .i64 ee,.int .i64 (p:Int),undef,.pointer (some ⟨(w.heap.size+1),1,none⟩),.slice ay ly cy,.pointer (some ⟨(w.heap.size+1),2,none⟩),.int .i64 ey,.int .i64 ee,.int .i64 (q:Int),undef,undef,undef] (Q13 [(6,SlD (lx+p / 32+1) X),(14,SlD (lx+p / 32+1) X),(13,SlD (ly+q / 32+1) Y),(15,SlD (ly+q / 32+1) Y)])) (Q08 (Q0e (Qt4 (SlD.stable _ _) (SlD.stable _ _) (SlD.stable _ _) (SlD.stable _ _)))) (Q15 (by kernel_rfl)) (by kernel_rfl) (Q04 W0) ?_ ?_
 ·skip
  repeat' (first|exact Q83|refine Q82 ?_ ?_)
  all_goals first
   |(refine Q1p rfl fun A W hW E0 hd hd=>?_
     simp[Q72,Region.binds,Q13] at hd;have e2:=Q07 E0 2 (by kernel_rfl) rfl;have e5:=Q07 E0 5 (by kernel_rfl) rfl;have e3:=Q07 E0 3 (by kernel_rfl) rfl;obtain ⟨_,u0_1,u0_2,_,_,_⟩:=(HQ.out W hW).bx;obtain ⟨_,u1_1,u1_2,_,_,_⟩:=(HQ.out W hW).by_;refine Q12 rfl rfl ?_;simp[go_sem,hd,e2,e5,e3,u0_1,u0_2,hp,S4,u1_1,u1_2,hq,Z4]
     done)
   |skip
  ·intro A W hW E0 A0;have e24:=Q11 A0 1 (by decide) rfl rfl rfl;have e28:=Q11 A0 5 (by decide) rfl rfl rfl;refine Q02 rfl ?_;refine Q0s (f:=206) (args:= #[.slice ax lx cx,.int .i64 (p:Int)]) (by simp[go_sem,e24,e28]) ((Qc5 ax lx cx vx p W ((Xo0 HW).step (HQ.out W hW).bel) (by omega) (by omega)).mono ?_);rintro e w2 ⟨a',n',rfl,ZT,t7,F3⟩;rw[(Xo0 HV)] at t7;exact ⟨_,rfl,F3,(Q00 rfl).2 ⟨a',n',n',rfl,ZT,t7⟩⟩
  ·intro A W hW E0 A0;have e31:=Q11 A0 8 (by decide) rfl rfl rfl;have e35:=Q11 A0 12 (by decide) rfl rfl rfl;refine Q02 rfl ?_;refine Q0s (f:=206) (args:= #[.slice ay ly cy,.int .i64 (q:Int)]) (by simp[go_sem,e31,e35]) ((Qc5 ay ly cy vy q W ((Xe1 HW).step (HQ.out W hW).bel) (by omega) (by omega)).mono ?_);rintro e w2 ⟨a',n',rfl,ZT,t7,F3⟩;rw[(Xe1 HV)] at t7;exact ⟨_,rfl,F3,(Q00 rfl).2 ⟨a',n',n',rfl,ZT,t7⟩⟩
  ·intro A W hW E0 A0;refine Q02 rfl ?_;have e29:=(Q00 rfl).1 (A0 6 (by decide));refine Q6p (u:=A.eval (.tmp 29)) ?_ ((Q00 rfl).2 e29);simp[go_sem,Act.eval]
  ·intro A W hW E0 A0;refine Q02 rfl ?_;have e36:=(Q00 rfl).1 (A0 13 (by decide));refine Q6p (u:=A.eval (.tmp 36)) ?_ ((Q00 rfl).2 e36);simp[go_sem,Act.eval]
 intro vs W1 R1 A3;obtain ⟨a6,n6,c6,hv6,hn6,hd6⟩:=(Q00 rfl).1 (A3 14 (by decide));obtain ⟨a7,n7,c7,XI,hn7,Q9⟩:=(Q00 rfl).1 (A3 15 (by decide));simp only[Q0t,Act.put,Um,Ux,Ut];rw[hv6,XI];have hl6:=hd6.len;have Yi:=Q9.len;have hn6':n6<=62501:=by omega
 have hn7':n7<=62501:=by omega
 have M5:(dig (2^32) (X+Y)).length<=100000:=Uj (Qjo (k:=62501) (by omega) (by omega)) (by decide);have D3:(dig (2^32) (X-Y)).length<=100000:=Uj (Q1w (by decide) (Nat.sub_le X Y)) (by omega);have Z2:(dig (2^32) (Y-X)).length<=100000:=Uj (Q1w (by decide) (Nat.sub_le Y X)) (by omega);have HQ1:=Ua (fun W (h:Bw W1 W)=>(HQ.out W1 R1).step h);have KU:=Xh5 hd6 Q9 M5 D3 Z2;have xc0:=(HQ.out W1 R1).bx.c0;have yc0:=(HQ.out W1 R1).by_.c0;clear hd6 Q9 M5 D3 Z2 hv6 XI hn6 hn7 A3 hl6 Yi hQ M1 xc1 yc1 xc2 yc2 R1 HQ O6 hly hee hp hq JS P6 S4 Z4 g1 g4
 by_cases Q6:nx=ny
 ·subst Q6;have KK:(nx==nx)=true:=by simp
  have hs:dy (sgn nx (X+Y)) ee=D:=by rw[<-HD.out,Qk6]
  have HS:=Ua hs;clear hs
  go_upto_region 8 with fail
  refine Q1y (by kernel_rfl) 7 rfl (fun W=>Bw W1 W) (fun _ _ h h'=>Below.next0 h h') (Q3q [.pointer (some ⟨w.heap.size,0,none⟩),.bool nx,.slice a6 n6 c6,.slice a7 n7 c7,undef,.int .i64 ee,undef] (Q13 [(4,SlD 100000 (X+Y)),(6,fun u w=>Q5c w u D)])) (Q08 (Q0e (Qjn (SlD.stable _ _) (Q1g _)))) (Qvs w (w.heap.size+2) D) (by kernel_rfl) (by kernel_rfl) (by kernel_rfl) (by kernel_rfl) (Q04 W1) ?_ ?_ ?_
  ·skip
   repeat' (first|exact Q83|refine Q82 ?_ ?_)
   all_goals first
    |(refine Q1p rfl fun A W hW E0 hd hd=>?_
      simp[Q72,Region.binds,Q13] at hd;have e2:=Q07 E0 2 (by kernel_rfl) rfl;have e6:=Q07 E0 6 (by kernel_rfl) rfl;have e7:=Q07 E0 7 (by kernel_rfl) rfl;have e5:=Q07 E0 5 (by kernel_rfl) rfl;obtain ⟨u0_0,_,_,_,_,_⟩:=(HQ1.out W hW).bx;refine Q12 rfl rfl ?_;simp[go_sem,hd,e2,e6,e7,e5,u0_0]
      done)
    |skip
   ·intro A W hW E0 A0;have e44:=Q11 A0 2 (by decide) rfl rfl rfl;have e45:=Q11 A0 3 (by decide) rfl rfl rfl;refine Q02 rfl ?_;refine Q0s (f:=138) (args:= #[.slice a6 n6 c6,.slice a7 n7 c7]) (by simp[go_sem,e44,e45]) ((Qma a6 n6 c6 X a7 n7 c7 Y W ((Xo0 KU).step hW) ((Xo1 KU).step hW) (by omega) (by omega)).mono ?_);rintro e w2' ⟨a',n',rfl,t7,F3⟩;exact ⟨_,rfl,F3,(Q00 rfl).2 ⟨a',n',n',rfl,by rw[<-t7.len];exact (Xo2 KU),t7⟩⟩
   ·intro A W hW E0 A0;have e43:=Q11 A0 1 (by decide) rfl rfl rfl;have e47:=Q11 A0 5 (by decide) rfl rfl rfl;obtain ⟨a5,l5,c5,Yt,hl5,hd5⟩:=(Q00 rfl).1 (A0 4 (by decide));have e46:=Q1o Yt;refine Q02 rfl ?_;refine Q0s (f:=140) (args:= #[.bool nx,.slice a5 l5 c5,.int .i64 ee]) (by simp[go_sem,e43,e47,e46]) ((Q7t nx a5 l5 c5 _ ee W hd5 (by omega) (by omega) (by omega)).mono ?_);rintro e w2' ⟨n',a',l',c',v',e',rfl,Qe,t7,_,_,_,F3⟩;obtain ⟨m5,B9⟩:=Qbs Qe;exact ⟨_,rfl,F3,(Q00 rfl).2 ⟨_,_,_,_,_,_,rfl,t7,m5,B9.trans HS.out⟩⟩
  ·intro A W hW E0 A0;obtain ⟨n8,a8,l8,c8,q8,v8,A9,Qv,u6,Y9⟩:=(Q00 rfl).1 (A0 6 (by decide));have e48:=Q1o A9;have e4:=Q07 E0 4 (by kernel_rfl) rfl;have G3:=(HQ1.out W hW).br;have k0:=G3.c0;have f0:=G3.f0;have f1:=G3.f1;have f2:=G3.f2;have d1:=G3.d1 (.bool n8);have d2:=G3.d2 (.bool n8) (.slice a8 l8 c8);refine Q2p (w':=(((W.setCell ⟨(w.heap.size+2),0,none⟩ (.bool n8)).setCell ⟨(w.heap.size+2),1,none⟩ (.slice a8 l8 c8)).setCell ⟨(w.heap.size+2),2,none⟩ (.int .i64 q8))) (by simp[go_sem,e4,e48,k0,f0,f1,f2,d1,d2]) ?_;exact Q4z (by omega) (HQ1.out W hW).bel G3 Qv u6 Y9
  intro vs W3 I2;simp only[Q0t,Act.put,Um,Ux,Ut];clear KK;obtain ⟨n9,a9,l9,c9,e9,v9,Y6,QO,D7,P8,N3⟩:=I2;obtain ⟨k0,k1,k2⟩:=Y6.cc;have HE:=Xh4 QO D7 P8 N3;clear Y6 QO D7 P8 N3
  go_wp2_with fail
  exact ⟨rfl,.agg #[.bool n9,.slice a9 l9 c9,.int .i64 e9],by simp[results,go_sem,k0,k1,k2],_,rfl,⟨n9,a9,l9,c9,e9,v9,rfl,(Xo0 HE),(Xo1 HE),(Xo2 HE)⟩,(Xe3 HE)⟩
 ·have KK:(nx==ny)=false:=by cases nx <;> cases ny <;> simp_all
  have E3:=Qn1 a6 n6 c6 X a7 n7 c7 Y W1 (Xo0 KU) (Xo1 KU) (by omega)
  by_cases hgt:Y<X
  ·have JD:Qn0 X Y=1:=(by unfold Qn0;rw[Uq (by omega),Uu hgt]);have hs:dy (sgn nx (X-Y)) ee=D:=(by rw[<-HD.out,Q8r Q6 (Xbi hgt)]);rw[JD] at E3;have HS:=Xh3 hs E3 hgt;clear hs E3 JD Q6 hgt
   go_upto_block 0 with (go_at_call_of 207 (Value.slice a6 n6 c6);refine (Xo1 HS).mono ?_;rintro r w2 ⟨rfl,D0⟩;have H2:=Ua D0;clear D0)
   have XR:=Ua (fun W (h:Bw w2 W)=>(HQ1.out w2 H2.out).step h)
   go_upto_region 11 with fail
   refine Q1y (by kernel_rfl) 7 rfl (fun W=>Bw w2 W) (fun _ _ h h'=>Below.next0 h h') (Q3q [.pointer (some ⟨w.heap.size,0,none⟩),.bool nx,.slice a6 n6 c6,.slice a7 n7 c7,undef,.int .i64 ee,undef] (Q13 [(4,SlD 100000 (X-Y)),(6,fun u w=>Q5c w u D)])) (Q08 (Q0e (Qjn (SlD.stable _ _) (Q1g _)))) (Qvs w (w.heap.size+2) D) (by kernel_rfl) (by kernel_rfl) (by kernel_rfl) (by kernel_rfl) (Q04 w2) ?_ ?_ ?_
   ·skip
    repeat' (first|exact Q83|refine Q82 ?_ ?_)
    all_goals first
     |(refine Q1p rfl fun A W hW E0 hd hd=>?_
       simp[Q72,Region.binds,Q13] at hd;have e2:=Q07 E0 2 (by kernel_rfl) rfl;have e6:=Q07 E0 6 (by kernel_rfl) rfl;have e7:=Q07 E0 7 (by kernel_rfl) rfl;have e5:=Q07 E0 5 (by kernel_rfl) rfl;obtain ⟨u0_0,_,_,_,_,_⟩:=(XR.out W hW).bx;refine Q12 rfl rfl ?_;simp[go_sem,hd,e2,e6,e7,e5,u0_0]
       done)
     |skip
    ·intro A W hW E0 A0;have e56:=Q11 A0 2 (by decide) rfl rfl rfl;have e57:=Q11 A0 3 (by decide) rfl rfl rfl;refine Q02 rfl ?_;refine Q0s (f:=208) (args:= #[.slice a6 n6 c6,.slice a7 n7 c7]) (by simp[go_sem,e56,e57]) ((Qdz a6 n6 c6 X a7 n7 c7 Y W ((Xo0 KU).step (Below.next0 H2.out hW)) ((Xo1 KU).step (Below.next0 H2.out hW)) (by omega) (Xbi (Xe2 HS))).mono ?_);rintro e w2' ⟨a',n',rfl,t7,F3⟩;exact ⟨_,rfl,F3,(Q00 rfl).2 ⟨a',n',n',rfl,by rw[<-t7.len];exact (Xo3 KU),t7⟩⟩
    ·intro A W hW E0 A0;have e55:=Q11 A0 1 (by decide) rfl rfl rfl;have e59:=Q11 A0 5 (by decide) rfl rfl rfl;obtain ⟨a5,l5,c5,Yt,hl5,hd5⟩:=(Q00 rfl).1 (A0 4 (by decide));have e58:=Q1o Yt;refine Q02 rfl ?_;refine Q0s (f:=140) (args:= #[.bool nx,.slice a5 l5 c5,.int .i64 ee]) (by simp[go_sem,e55,e59,e58]) ((Q7t nx a5 l5 c5 _ ee W hd5 (by omega) (by omega) (by omega)).mono ?_);rintro e w2' ⟨n',a',l',c',v',e',rfl,Qe,t7,_,_,_,F3⟩;obtain ⟨m5,B9⟩:=Qbs Qe;exact ⟨_,rfl,F3,(Q00 rfl).2 ⟨_,_,_,_,_,_,rfl,t7,m5,B9.trans (Xo0 HS)⟩⟩
   ·intro A W hW E0 A0;obtain ⟨n8,a8,l8,c8,q8,v8,A9,Qv,u6,Y9⟩:=(Q00 rfl).1 (A0 6 (by decide));have e60:=Q1o A9;have e4:=Q07 E0 4 (by kernel_rfl) rfl;have G3:=(XR.out W hW).br;have k0:=G3.c0;have f0:=G3.f0;have f1:=G3.f1;have f2:=G3.f2;have d1:=G3.d1 (.bool n8);have d2:=G3.d2 (.bool n8) (.slice a8 l8 c8);refine Q2p (w':=(((W.setCell ⟨(w.heap.size+2),0,none⟩ (.bool n8)).setCell ⟨(w.heap.size+2),1,none⟩ (.slice a8 l8 c8)).setCell ⟨(w.heap.size+2),2,none⟩ (.int .i64 q8))) (by simp[go_sem,e4,e60,k0,f0,f1,f2,d1,d2]) ?_;exact Q4z (by omega) (XR.out W hW).bel G3 Qv u6 Y9
   intro vs W3 I2;simp only[Q0t,Act.put,Um,Ux,Ut];obtain ⟨n9,a9,l9,c9,e9,v9,Y6,QO,D7,P8,N3⟩:=I2;obtain ⟨k0,k1,k2⟩:=Y6.cc;have HE:=Xh4 QO D7 P8 N3;clear Y6 QO D7 P8 N3
   go_wp2_with fail
   exact ⟨rfl,.agg #[.bool n9,.slice a9 l9 c9,.int .i64 e9],by simp[results,go_sem,k0,k1,k2],_,rfl,⟨n9,a9,l9,c9,e9,v9,rfl,(Xo0 HE),(Xo1 HE),(Xo2 HE)⟩,(Xe3 HE)⟩
  ·by_cases F0:X<Y
   ·have JD:Qn0 X Y= -1:=(by unfold Qn0;rw[Uu F0]);have hs:dy (sgn ny (Y-X)) ee=D:=(by rw[<-HD.out,<-Q8r (Xah Q6) (Xbi F0)];exact Dyadic.add_comm _ _);rw[JD] at E3;have HS:=Xh3 hs E3 F0;clear hs E3 JD Q6 hgt F0
    go_upto_block 0 with (go_at_call_of 207 (Value.slice a6 n6 c6);refine (Xo1 HS).mono ?_;rintro r w2 ⟨rfl,D0⟩;have H2:=Ua D0;clear D0)
    have XR:=Ua (fun W (h:Bw w2 W)=>(HQ1.out w2 H2.out).step h)
    go_upto_region 13 with fail
    refine Q1y (by kernel_rfl) 7 rfl (fun W=>Bw w2 W) (fun _ _ h h'=>Below.next0 h h') (Q3q [.pointer (some ⟨(w.heap.size+1),0,none⟩),.bool ny,.slice a7 n7 c7,.slice a6 n6 c6,undef,.int .i64 ee,undef] (Q13 [(4,SlD 100000 (Y-X)),(6,fun u w=>Q5c w u D)])) (Q08 (Q0e (Qjn (SlD.stable _ _) (Q1g _)))) (Qvs w (w.heap.size+2) D) (by kernel_rfl) (by kernel_rfl) (by kernel_rfl) (by kernel_rfl) (Q04 w2) ?_ ?_ ?_
    ·skip
     repeat' (first|exact Q83|refine Q82 ?_ ?_)
     all_goals first
      |(refine Q1p rfl fun A W hW E0 hd hd=>?_
        simp[Q72,Region.binds,Q13] at hd;have e3:=Q07 E0 3 (by kernel_rfl) rfl;have e7:=Q07 E0 7 (by kernel_rfl) rfl;have e6:=Q07 E0 6 (by kernel_rfl) rfl;have e5:=Q07 E0 5 (by kernel_rfl) rfl;obtain ⟨u0_0,_,_,_,_,_⟩:=(XR.out W hW).by_;refine Q12 rfl rfl ?_;simp[go_sem,hd,e3,e7,e6,e5,u0_0]
        done)
      |skip
     ·intro A W hW E0 A0;have e65:=Q11 A0 2 (by decide) rfl rfl rfl;have e66:=Q11 A0 3 (by decide) rfl rfl rfl;refine Q02 rfl ?_;refine Q0s (f:=208) (args:= #[.slice a7 n7 c7,.slice a6 n6 c6]) (by simp[go_sem,e65,e66]) ((Qdz a7 n7 c7 Y a6 n6 c6 X W ((Xo1 KU).step (Below.next0 H2.out hW)) ((Xo0 KU).step (Below.next0 H2.out hW)) (by omega) (Xbi (Xe2 HS))).mono ?_);rintro e w2' ⟨a',n',rfl,t7,F3⟩;exact ⟨_,rfl,F3,(Q00 rfl).2 ⟨a',n',n',rfl,by rw[<-t7.len];exact (Xe4 KU),t7⟩⟩
     ·intro A W hW E0 A0;have e64:=Q11 A0 1 (by decide) rfl rfl rfl;have e68:=Q11 A0 5 (by decide) rfl rfl rfl;obtain ⟨a5,l5,c5,Yt,hl5,hd5⟩:=(Q00 rfl).1 (A0 4 (by decide));have e67:=Q1o Yt;refine Q02 rfl ?_;refine Q0s (f:=140) (args:= #[.bool ny,.slice a5 l5 c5,.int .i64 ee]) (by simp[go_sem,e64,e68,e67]) ((Q7t ny a5 l5 c5 _ ee W hd5 (by omega) (by omega) (by omega)).mono ?_);rintro e w2' ⟨n',a',l',c',v',e',rfl,Qe,t7,_,_,_,F3⟩;obtain ⟨m5,B9⟩:=Qbs Qe;exact ⟨_,rfl,F3,(Q00 rfl).2 ⟨_,_,_,_,_,_,rfl,t7,m5,B9.trans (Xo0 HS)⟩⟩
    ·intro A W hW E0 A0;obtain ⟨n8,a8,l8,c8,q8,v8,A9,Qv,u6,Y9⟩:=(Q00 rfl).1 (A0 6 (by decide));have e69:=Q1o A9;have e4:=Q07 E0 4 (by kernel_rfl) rfl;have G3:=(XR.out W hW).br;have k0:=G3.c0;have f0:=G3.f0;have f1:=G3.f1;have f2:=G3.f2;have d1:=G3.d1 (.bool n8);have d2:=G3.d2 (.bool n8) (.slice a8 l8 c8);refine Q2p (w':=(((W.setCell ⟨(w.heap.size+2),0,none⟩ (.bool n8)).setCell ⟨(w.heap.size+2),1,none⟩ (.slice a8 l8 c8)).setCell ⟨(w.heap.size+2),2,none⟩ (.int .i64 q8))) (by simp[go_sem,e4,e69,k0,f0,f1,f2,d1,d2]) ?_;exact Q4z (by omega) (XR.out W hW).bel G3 Qv u6 Y9
    intro vs W3 I2;simp only[Q0t,Act.put,Um,Ux,Ut];obtain ⟨n9,a9,l9,c9,e9,v9,Y6,QO,D7,P8,N3⟩:=I2;obtain ⟨k0,k1,k2⟩:=Y6.cc;have HE:=Xh4 QO D7 P8 N3;clear Y6 QO D7 P8 N3
    go_wp2_with fail
    exact ⟨rfl,.agg #[.bool n9,.slice a9 l9 c9,.int .i64 e9],by simp[results,go_sem,k0,k1,k2],_,rfl,⟨n9,a9,l9,c9,e9,v9,rfl,(Xo0 HE),(Xo1 HE),(Xo2 HE)⟩,(Xe3 HE)⟩
   ·have JD:Qn0 X Y=0:=(by unfold Qn0;rw[Uq F0,Uq hgt]);have hXY:X=Y:=(by omega);have hs:(0:Dyadic)=D:=by
     rw[<-HD.out,Q8r Q6 (by omega),hXY,Nat.sub_self,Q2z];exact (Q4m ee).symm
    rw[JD] at E3;have HS:=Xh2 hs E3;clear hs E3 JD Q6 hgt F0 hXY;have hrb:=fun W2 (hb:Bw W1 W2)=>HQ1.out W2 hb;have HRB:=Ua hrb;clear hrb
    go_wp2_with (go_at_call_of 207 (Value.slice a6 n6 c6);refine (Xe1 HS).mono ?_;rintro r w2 ⟨rfl,D0⟩;have h3:=HRB.out w2 D0;have rc0:=h3.br.c0;have rc1:=h3.br.c1;have rc2:=h3.br.c2;have rf0:=h3.br.f0;have rf1:=h3.br.f1;have rf2:=h3.br.f2;have rd1:=h3.br.d1 (.bool false);have rd2:=h3.br.d2 (.bool false) (.slice none 0 0);have H2:=Ua h3;clear h3 D0)
    have hS:=H2.out.br.store (.bool false) (.slice none 0 0) (.int .i64 0);obtain ⟨k0,k1,k2⟩:=hS.cc;have X3:=Q03.below H2.out.bel (show w.heap.size<=w.heap.size+2 by omega) (.bool false) (.slice none 0 0) (.int .i64 0);exact ⟨rfl,.agg #[.bool false,.slice none 0 0,.int .i64 0],by simp[results,go_sem,k0,k1,k2],_,rfl,⟨false,none,0,0,0,0,rfl,Q0v.nil_ _,⟨fun _=>⟨rfl,rfl⟩,fun h=>absurd rfl h⟩,(Xo0 HS)⟩,X3⟩
theorem Qqw (n:Bool) (v:Nat) (e:Int):dy (sgn (!n) v) e= -dy (sgn n v) e:=by rw[Qgd,Qvb]
def Qnn (n:Bool) (v:Nat):Int:=if v=0 then 0 else if n=true then -1 else 1
theorem Qhw {n:Bool} {v:Nat} {e:Int} (hc:Q3j n v e):Qnn n v=0↔dy (sgn n v) e=0:=by
 unfold Qnn
 by_cases h:v=0
 ·rw[Uu h];exact ⟨fun _=>Qa8 n e h,fun _=>rfl⟩
 ·rw[Uq h];have h1:dy (sgn n v) e≠0:=Qj3 (Q4n (hc.2 h))
  constructor
  ·intro h2;split at h2 <;> cases h2
  ·intro h2;exact absurd h2 h1
theorem Qfn (nx:Bool) (ax:OA) (lx cx:Nat) (ex:Int) (vx:Nat) (w:World) (h1:Q0v w ax lx cx vx) (c1:Q3j nx vx ex):
 Calls Tryz.prog 152 #[.agg #[.bool nx,.slice ax lx cx,.int .i64 ex]] w (Qe0 w (-(dy (sgn nx vx) ex))):=by
 have hQ:=fun W=>(Qqu w (.bool nx) (.slice ax lx cx) (.int .i64 ex) 87 87).step (W':=W);obtain ⟨W0,M1⟩:∃W0,(w.alloc (.cells #[.bool nx,.slice ax lx cx,.int .i64 ex] 87)).alloc (.cells #[.bool false,.slice none 0 0,.int .i64 0] 87)=W0:=⟨_,rfl⟩;rw[M1] at hQ;have HQ:=Ua hQ;have Y5:=fun h=>Q0v.none_of h1 h
 by_cases hvx:vx=0
 ·obtain rfl:=Y5 hvx;have hD:dy (sgn nx vx) ex= -(dy (sgn nx vx) ex):=by rw[Qa8 nx ex hvx];exact Dyadic.neg_zero.symm
  have HD:=Xh3 hD c1 h1;clear hD h1 c1 Y5 hvx;have xc0:=(HQ.out W0 (Ud _ _)).bx.c0;have xc1:=(HQ.out W0 (Ud _ _)).bx.c1;have xc2:=(HQ.out W0 (Ud _ _)).bx.c2;have rc0:=(HQ.out W0 (Ud _ _)).br.c0;have rc1:=(HQ.out W0 (Ud _ _)).br.c1;have rc2:=(HQ.out W0 (Ud _ _)).br.c2;have rf0:=(HQ.out W0 (Ud _ _)).br.f0;have rf1:=(HQ.out W0 (Ud _ _)).br.f1;have rf2:=(HQ.out W0 (Ud _ _)).br.f2;have rd1:=(HQ.out W0 (Ud _ _)).br.d1 (.bool nx);have rd2:=(HQ.out W0 (Ud _ _)).br.d2 (.bool nx) (.slice ax 0 cx)
  go_enter Tryz.func152,Tryz.ntmps152
  go_wp2_with fail
  have hS:=(HQ.out W0 (Ud _ _)).br.store (.bool nx) (.slice ax 0 cx) (.int .i64 ex);obtain ⟨k0,k1,k2⟩:=hS.cc;have X3:=Q03.below (HQ.out W0 (Ud _ _)).bel (show w.heap.size<=w.heap.size+1 by omega) (.bool nx) (.slice ax 0 cx) (.int .i64 ex);exact ⟨rfl,.agg #[.bool nx,.slice ax 0 cx,.int .i64 ex],by simp[results,go_sem,k0,k1,k2],_,rfl,⟨_,_,_,_,_,_,rfl,((Xe2 HD).step (HQ.out W0 (Ud _ _)).bel).box (HQ.out W0 (Ud _ _)).br _ _ _,(Xo1 HD),(Xo0 HD)⟩,X3⟩
 have O6:(0:Int)<(lx:Int):=by
  have:lx≠0:=fun e=>hvx (h1.zero_of e);omega
 have hD:dy (sgn (!nx) vx) ex= -(dy (sgn nx vx) ex):=Qqw nx vx ex;have XU:Q3j (!nx) vx ex:=⟨fun h=>absurd h hvx,fun h=>c1.2 h⟩;have HD:=Xh3 hD XU h1;have xb:=(HQ.out W0 (Ud _ _)).bx;have xc0:=xb.c0;have xc1:=xb.c1;have xf0:=xb.f0;have HB:=Ua xb;clear hD h1 c1 Y5 hvx XU xb
 go_enter Tryz.func152,Tryz.ntmps152
 go_upto_region 3 with fail
 have C0:=HB.out.set0 (.bool (!nx));have D0:=(HQ.out W0 (Ud _ _)).br.far (p:=⟨w.heap.size,0,none⟩) (by show w.heap.size≠w.heap.size+1;omega) (.bool (!nx));have Y0:Bw w (W0.setCell ⟨w.heap.size,0,none⟩ (.bool (!nx))):=(HQ.out W0 (Ud _ _)).bel.setCell (p:=⟨w.heap.size,0,none⟩) (Ue _) _;have ZV:=(Xe2 HD).step Y0;generalize W0.setCell ⟨w.heap.size,0,none⟩ (.bool (!nx))=W5 at C0 D0 Y0 ZV⊢;have HE:=Xh3 D0 Y0 ZV;obtain ⟨c0,c1,c2⟩:=C0.cc;have f0:=D0.f0;have f1:=D0.f1;have f2:=D0.f2;have k0:=D0.c0;have d1:=D0.d1 (.bool (!nx));have d2:=D0.d2 (.bool (!nx)) (.slice ax lx cx);clear C0 D0 Y0 ZV xc0 xc1 xf0 M1 hQ
 go_wp2_with fail
 have hS:=(Xo0 HE).store (.bool (!nx)) (.slice ax lx cx) (.int .i64 ex);obtain ⟨s0,s1,s2⟩:=hS.cc;have X3:=Q03.below (Xo1 HE) (show w.heap.size<=w.heap.size+1 by omega) (.bool (!nx)) (.slice ax lx cx) (.int .i64 ex);exact ⟨rfl,.agg #[.bool (!nx),.slice ax lx cx,.int .i64 ex],by simp[results,go_sem,s0,s1,s2],_,rfl,⟨_,_,_,_,_,_,rfl,(Xe2 HE).box (Xo0 HE) _ _ _,(Xo1 HD),(Xo0 HD)⟩,X3⟩
theorem Qcn (nx:Bool) (ax:OA) (lx cx:Nat) (ex:Int) (vx:Nat) (w:World) (h1:Q0v w ax lx cx vx) (c1:Q3j nx vx ex):
 Calls Tryz.prog 102 #[.agg #[.bool nx,.slice ax lx cx,.int .i64 ex]] w fun e w'=>e=.returned (.int .i64 (Qnn nx vx))/\Bw w w':=by
 have hb:=Q03.new w (.bool nx) (.slice ax lx cx) (.int .i64 ex) 87;have Y0:Bw w (w.alloc (.cells #[.bool nx,.slice ax lx cx,.int .i64 ex] 87)):=Ba;obtain ⟨W0,M1⟩:∃W0,w.alloc (.cells #[.bool nx,.slice ax lx cx,.int .i64 ex] 87)=W0:=⟨_,rfl⟩;rw[M1] at hb Y0;have c0:=hb.c0;have c1':=hb.c1;have Y5:=fun h=>Q0v.none_of h1 h;obtain ⟨r,hr⟩:∃r,Qnn nx vx=r:=⟨_,rfl⟩;rw[hr];have HB:=Ua Y0
 by_cases hvx:vx=0
 ·obtain rfl:=Y5 hvx;obtain rfl:0=r:=by rw[<-hr,Qnn,Uu hvx]
  clear h1 c1 hb Y0 Y5 hvx hr
  go_enter Tryz.func102,Tryz.ntmps102
  go_wp2_with fail
  go_ret;exact ⟨rfl,HB.out⟩
 ·have O6:((lx:Int)==0)=false:=by
   rw[Uk];intro e;exact hvx (h1.zero_of (by omega))
  cases nx with
  |true=>
   obtain rfl: -1=r:=(by rw[<-hr,Qnn,Uq hvx,Uu rfl]);clear h1 c1 hb Y0 Y5 hvx hr
   go_enter Tryz.func102,Tryz.ntmps102
   go_wp2_with fail
   go_ret;exact ⟨rfl,HB.out⟩
  |false=>
   obtain rfl:1=r:=(by rw[<-hr,Qnn,Uq hvx,Uq (by decide)]);clear h1 c1 hb Y0 Y5 hvx hr
   go_enter Tryz.func102,Tryz.ntmps102
   go_wp2_with fail
   go_ret;exact ⟨rfl,HB.out⟩
theorem Qk7 (nx:Bool) (ax:OA) (lx cx:Nat) (ex:Int) (vx:Nat) (ny:Bool) (ay:OA) (ly cy:Nat) (ey:Int) (vy:Nat) (w:World) (h1:Q0v w ax lx cx vx) (h2:Q0v w ay ly cy vy) (c1:Q3j nx vx ex) (c2:Q3j ny vy ey) (T:Nat) (b1:bnd T (dy (sgn nx vx) ex)) (b2:bnd T (dy (sgn ny vy) ey)) (hT:T<=500000):
 Calls Tryz.prog 101 #[.agg #[.bool nx,.slice ax lx cx,.int .i64 ex],.agg #[.bool ny,.slice ay ly cy,.int .i64 ey]] w (Qe0 w (dy (sgn nx vx) ex+ -(dy (sgn ny vy) ey))):=by
 have hQ:=fun W=>(Q9p w (.bool nx) (.slice ax lx cx) (.int .i64 ex) (.bool ny) (.slice ay ly cy) (.int .i64 ey) 87 87 87).step (W':=W);obtain ⟨W0,M1⟩:∃W0,((w.alloc (.cells #[.bool nx,.slice ax lx cx,.int .i64 ex] 87)).alloc (.cells #[.bool ny,.slice ay ly cy,.int .i64 ey] 87)).alloc (.cells #[.bool false,.slice none 0 0,.int .i64 0] 87)=W0:=⟨_,rfl⟩;rw[M1] at hQ;have HQ:=Ua hQ;have HW:=Xh6 h1 h2 c1 c2 b1 b2;clear h1 h2 c1 c2 b1 b2 hQ
 go_enter Tryz.func101,Tryz.ntmps101
 go_upto_region 1 with fail
 refine Q1y (by kernel_rfl) 4 rfl (fun W=>Bw W0 W) (fun _ _ h h'=>Below.next0 h h') (Q3q [.agg #[.bool nx,.slice ax lx cx,.int .i64 ex],.agg #[.bool ny,.slice ay ly cy,.int .i64 ey],undef,undef] (Q13 [(2,fun u w=>Q5c w u (-(dy (sgn ny vy) ey))),(3,fun u w=>Q5c w u (dy (sgn nx vx) ex+ -(dy (sgn ny vy) ey)))])) (Q08 (Q0e (Qjn (Q1g _) (Q1g _)))) (Qvs w (w.heap.size+2) (dy (sgn nx vx) ex+ -(dy (sgn ny vy) ey))) (by kernel_rfl) (by kernel_rfl) (by kernel_rfl) (by kernel_rfl) (Q04 W0) ?_ ?_ ?_
 ·skip;refine ⟨fun A W hW E0 A0=>?_,?_⟩
  ·have e2:=Q07 E0 2 (by kernel_rfl) rfl;refine Q02 rfl ?_;obtain ⟨k0,k1,k2,_,_,_⟩:=(HQ.out W hW).bx;refine Q12 rfl rfl ?_;simp[go_sem,e2,k0,k1,k2]
  refine ⟨fun A W hW E0 A0=>?_,?_⟩
  ·have e3:=Q07 E0 3 (by kernel_rfl) rfl;refine Q02 rfl ?_;obtain ⟨k0,k1,k2,_,_,_⟩:=(HQ.out W hW).by_;refine Q12 rfl rfl ?_;simp[go_sem,e3,k0,k1,k2]
  refine ⟨fun A W hW E0 A0=>?_,?_⟩
  ·have e6:=Q11 A0 1 (by decide) rfl rfl rfl;refine Q02 rfl ?_;refine Q0s (f:=152) (args:= #[.agg #[.bool ny,.slice ay ly cy,.int .i64 ey]]) (by simp[go_sem,e6]) ((Qfn ny ay ly cy ey vy W ((Xo1 HW).step (HQ.out W hW).bel) (Xo3 HW)).mono ?_);rintro e w2' ⟨u',rfl,B9,F3⟩;exact ⟨_,rfl,F3,(Q00 rfl).2 B9⟩
  refine ⟨fun A W hW E0 A0=>?_,?_⟩
  ·have e5:=Q11 A0 0 (by decide) rfl rfl rfl;obtain ⟨n7,a7,l7,c7,e7,v7,XI,Q9,WX,Xe⟩:=(Q00 rfl).1 (A0 2 (by decide));have e7':=Q1o XI;refine Q02 rfl ?_;refine Q0s (f:=151) (args:= #[.agg #[.bool nx,.slice ax lx cx,.int .i64 ex],.agg #[.bool n7,.slice a7 l7 c7,.int .i64 e7]]) (by simp[go_sem,e5,e7']) ((Q8s nx ax lx cx ex vx n7 a7 l7 c7 e7 v7 W ((Xo0 HW).step (HQ.out W hW).bel) Q9 (Xo2 HW) WX T (Xo4 HW) (by rw[Xe];exact (Xe5 HW).neg) hT).mono ?_);rintro e w2' ⟨u',rfl,B9,F3⟩;rw[Xe] at B9;exact ⟨_,rfl,F3,(Q00 rfl).2 B9⟩
  exact trivial
 ·intro A W hW E0 A0;obtain ⟨n8,a8,l8,c8,q8,v8,A9,Qv,u6,Y9⟩:=(Q00 rfl).1 (A0 3 (by decide));have e8:=Q1o A9;have e4:=Q07 E0 4 (by kernel_rfl) rfl;have G3:=(HQ.out W hW).br;have k0:=G3.c0;have f0:=G3.f0;have f1:=G3.f1;have f2:=G3.f2;have d1:=G3.d1 (.bool n8);have d2:=G3.d2 (.bool n8) (.slice a8 l8 c8);refine Q2p (w':=(((W.setCell ⟨(w.heap.size+2),0,none⟩ (.bool n8)).setCell ⟨(w.heap.size+2),1,none⟩ (.slice a8 l8 c8)).setCell ⟨(w.heap.size+2),2,none⟩ (.int .i64 q8))) (by simp[go_sem,e4,e8,k0,f0,f1,f2,d1,d2]) ?_;exact Q4z (by omega) (HQ.out W hW).bel G3 Qv u6 Y9
 intro vs W1 I2;simp only[Q0t,Act.put,Um,Ux,Ut];obtain ⟨n9,a9,l9,c9,e9,v9,Y6,QO,D7,P8,N3⟩:=I2;obtain ⟨k0,k1,k2⟩:=Y6.cc;have HE:=Xh4 QO D7 P8 N3;clear Y6 QO D7 P8 N3
 go_wp2_with fail
 exact ⟨rfl,.agg #[.bool n9,.slice a9 l9 c9,.int .i64 e9],by simp[results,go_sem,k0,k1,k2],_,rfl,⟨n9,a9,l9,c9,e9,v9,rfl,(Xo0 HE),(Xo1 HE),(Xo2 HE)⟩,(Xe3 HE)⟩
theorem Qhx (nx:Bool) (ax:OA) (lx cx:Nat) (ex:Int) (vx:Nat) (ny:Bool) (ay:OA) (ly cy:Nat) (ey:Int) (vy:Nat) (w:World) (h1:Q0v w ax lx cx vx) (h2:Q0v w ay ly cy vy) (c1:Q3j nx vx ex) (c2:Q3j ny vy ey) (T:Nat) (b1:bnd T (dy (sgn nx vx) ex)) (b2:bnd T (dy (sgn ny vy) ey)) (hT:T<=500000):
 Calls Tryz.prog 58 #[.agg #[.bool nx,.slice ax lx cx,.int .i64 ex],.agg #[.bool ny,.slice ay ly cy,.int .i64 ey]] w fun e w'=>(∃n v f,e=.returned (.int .i64 (Qnn n v))/\Q3j n v f/\dy (sgn n v) f=dy (sgn nx vx) ex+ -(dy (sgn ny vy) ey))/\Bw w w':=by
 have B5:(w.alloc (.cells #[.bool nx,.slice ax lx cx,.int .i64 ex] 87)).heap.size=w.heap.size+1:=Ur _ _;have C0:Bw w (w.alloc (.cells #[.bool nx,.slice ax lx cx,.int .i64 ex] 87)):=Ba;have D0:Below (w.alloc (.cells #[.bool nx,.slice ax lx cx,.int .i64 ex] 87)).heap.size (w.alloc (.cells #[.bool nx,.slice ax lx cx,.int .i64 ex] 87)) ((w.alloc (.cells #[.bool nx,.slice ax lx cx,.int .i64 ex] 87)).alloc (.cells #[.bool ny,.slice ay ly cy,.int .i64 ey] 87)):=Ba;have hX:=(Q03.new w (.bool nx) (.slice ax lx cx) (.int .i64 ex) 87).step D0 (Q0o _ _);have hY:=Q03.new (w.alloc (.cells #[.bool nx,.slice ax lx cx,.int .i64 ex] 87)) (.bool ny) (.slice ay ly cy) (.int .i64 ey) 87;rw[B5] at hY;have hb:=Below.next0 C0 D0;obtain ⟨W0,M1⟩:∃W0,(w.alloc (.cells #[.bool nx,.slice ax lx cx,.int .i64 ex] 87)).alloc (.cells #[.bool ny,.slice ay ly cy,.int .i64 ey] 87)=W0:=⟨_,rfl⟩;rw[M1] at hX hY hb;obtain ⟨x0,x1,x2⟩:=hX.cc;obtain ⟨y0,y1,y2⟩:=hY.cc;have hls:=Qk7 nx ax lx cx ex vx ny ay ly cy ey vy W0 (h1.step hb) (h2.step hb) c1 c2 T b1 b2 hT;have H:=Xh2 hls hb;clear h1 h2 c1 c2 b1 b2 hls hb hX hY B5 C0 D0
 go_enter Tryz.func58,Tryz.ntmps58
 go_wp2_with (first
  |(go_at_call 102;refine (Qcn n9 a9 l9 c9 e9 v9 w1 (Xo0 H1) (Xo1 H1)).mono ?_;rintro r w2 ⟨rfl,D0⟩;have H2:=Ua D0;clear D0)
  |(go_at_call 101;refine (Xo0 H).mono ?_;rintro r w1 ⟨u,rfl,⟨n9,a9,l9,c9,e9,v9,rfl,QO,hc9,P8⟩,C0⟩;have H1:=Xh4 QO hc9 P8 C0;clear QO hc9 P8 C0))
 go_ret;exact ⟨⟨n9,v9,e9,rfl,(Xo1 H1),(Xo2 H1)⟩,Below.next0 (Below.next0 (Xe1 H) (Xe3 H1)) H2.out⟩
theorem Qqx {w wr:World} (h:∀j,∃kk,wr.drewN j=w.drewN kk) (i j:Nat):∃kk,(wr.drewN i).drewN j=w.drewN kk:=by
 obtain ⟨kk,h1⟩:=h i;exact ⟨kk+j,by rw[h1,Xbj]⟩
theorem Q5t [LT ZK] (a:OA) (n c:Nat) (E:List Int) (b:OA) (d:Nat) (F:List Int) (w:World) (h1:Q0p w a n c E) (h2:Q0p w b n d F):
 Calls Tryz.prog 100 #[.slice a n c,.slice b n d] w fun r w'=>r=.returned (.int .i64 (Q2w E F))/\∃k,w'=w.drewN k:=by
 have C6:=h1.len;have Z6:=h2.len;have E3:=Uj h1.cap h1.most;have HC:=Xh2 h1.rd h2.rd;clear h1 h2;obtain ⟨V,hV⟩:∃V,Q2w E F=V:=⟨_,rfl⟩;rw[hV];have HV:=Ua hV;clear hV
 go_enter Tryz.func100,Tryz.ntmps100
 go_wp2_with fail
 go_loopw [5] (fun iv wr=>∃i:Nat,iv=.int .i64 (i:Int)/\i<=n/\Q2w (E.drop i) (F.drop i)=V/\∃k,wr=w.drewN k) (fun iv _=>n-(intOf iv).toNat)
 case atStart=>exact ⟨0,rfl,Uv _,HV.out,0,rfl⟩
 case round=>
  obtain ⟨i,rfl,hi,A5,A7⟩:=hrel;have J0:∀p,wr.cell? p=w.cell? p:=fun p=>by obtain ⟨kk,rfl⟩:=A7;rfl
  have KE:∀j,∃kk,wr.drewN j=w.drewN kk:=fun j=>by obtain ⟨kk,rfl⟩:=A7;exact ⟨_,Xbj ..⟩
  have HW:=Xh2 A7 KE;clear A7 KE
  by_cases F0:i<n
  ·have G0:(i:Int)<(n:Int):=(by omega);obtain ⟨x,hx⟩:∃x,E[i]?=some x:=⟨_,Ub (by omega)⟩;obtain ⟨y,hy⟩:∃y,F[i]?=some y:=⟨_,Ub (by omega)⟩;obtain ⟨ba,oa,rfl,Q1,KZ⟩:=(Xo0 HC).at_ hx;obtain ⟨bb,ob,rfl,C3,VW⟩:=(Xe1 HC).at_ hy;have Y4:=(J0 ⟨ba,oa+i,none⟩).trans KZ;have QV:=(J0 ⟨bb,ob+i,none⟩).trans VW;have Ve:=Qlg hx hy;rw[A5] at Ve;have HH:=Ua Ve;clear Ve hx hy A5 KZ VW J0
   by_cases h1:y<x
   ·have P5:V=1:=(by rw[HH.out,Uq (by omega),Uu h1]);subst P5
    go_wp2_with fail
    go_quiet (fail)
    go_wp2_with fail
    go_ret;exact ⟨rfl,(Xe1 HW) _⟩
   ·by_cases h2:x<y
    ·have P5:V= -1:=(by rw[HH.out,Uu h2]);subst P5
     go_wp2_with fail
     go_quiet (fail)
     go_wp2_with fail
     go_quiet (fail)
     go_wp2_with fail
     go_ret;exact ⟨rfl,Qqx (Xe1 HW) _ _⟩
    ·go_wp2_with fail
     go_quiet (fail)
     go_wp2_with fail
     go_quiet (fail)
     go_wp2_with fail
     refine ⟨⟨i+1,congrArg (Value.int .i64) (by omega),F0,?_,(Xe1 HW) _⟩,by simp only[intOf];omega⟩;rw[HH.out,Uq (by omega),Uq (by omega)]
  ·have G0:¬(i:Int)<(n:Int):=(by omega);have P5:V=0:=(by rw[<-A5,Tm (by omega),Tm (by omega)];rfl);subst P5;clear A5 J0
   go_wp2_with fail
   go_ret;exact ⟨rfl,(Xo0 HW)⟩
theorem Qco [LT ZK] (n:Bool) (e:Int) (a:OA) (l c:Nat) (L:LN) (b:OA) (m d:Nat) (E:List Int) (k:Nat) (w:World) (h:WordsIn w a l c L) (hE:Q0p w b m d E) (hk:k<=4) (he: -9223372036854775808<=e) (Q5:e<=9223372036854775807):
 Calls Tryz.prog 99 #[.agg #[.bool n,.int .i64 e,.slice a l c,.slice b m d],.int .i64 (k:Int)] w fun r w'=>r=.returned (.bool (decide (Q1l k E/\Q0a n e L)))/\Bw w w':=by
 obtain ⟨rs,KR⟩:∃rs,decide (Q1l k E/\Q0a n e L)=rs:=⟨_,rfl⟩;rw[KR];have Vp:=Ua KR;clear KR;have C0:Bw w (w.alloc (.cells #[.bool n,.int .i64 e,.slice a l c,.slice b m d] 98)):=Ba;have hX:=Q50.new w (.bool n) (.int .i64 e) (.slice a l c) (.slice b m d) 98;have F0:=Q0o w (.cells #[.bool n,.int .i64 e,.slice a l c,.slice b m d] 98);generalize hW:w.alloc (.cells #[.bool n,.int .i64 e,.slice a l c,.slice b m d] 98)=W at C0 hX F0;obtain ⟨Y5,K5,Z3⟩:=hX.cc;have Vf:=hX.c3;have P2:=hE.len;subst P2;have j9:=Q1m n e a l c L W (h.step C0) he Q5 (by have:=h.cap;have:=h.most;omega);have R7:=hE.rd.below C0;have E3:=Uj hE.cap hE.most;have HC:=Xh4 j9 R7 C0 hE.rng.1;clear C0 hX F0 j9 R7 h hE
 go_enter Tryz.func99,Tryz.ntmps99
 go_wp2_with fail
 go_loopw [5,6] (fun sv_ iv wr=>∃(i:Nat) (s:Int),sv_=.int .i64 s/\iv=.int .i64 (i:Int)/\i<=E.length/\i<=4/\(E.take i).sum=s/\0<=s/\s<=8*i/\(∀x∈E.take i,0<=x)/\W=wr) (fun _ iv _=>4-(intOf iv).toNat)
 case atStart=>exact ⟨0,0,rfl,rfl,Uv _,by decide,by simp,by decide,by decide,by simp,rfl⟩
 case round=>
  obtain ⟨i,s,rfl,rfl,hi,hi4,hs,KN,VA,p6,rfl⟩:=hrel
  by_cases F0:i<E.length/\i<4
  ·have G0:(i:Int)<(E.length:Int):=(by omega);have hlt4:(i:Int)<4:=(by omega);obtain ⟨x,hx⟩:∃x,E[i]?=some x:=⟨_,Ub F0.1⟩;obtain ⟨ba,oa,rfl,Q1,Y4⟩:=(Xo1 HC).at_ hx;have hxr:=(Xe3 HC) x (Ug hx);have Qi:=Qfe hx;have HS:=Xh4 hs Qi p6 hx;clear hs Qi p6 hx
   by_cases hx0':x<0
   ·go_wp2_with fail
    go_ret;have C4:¬(Q1l k E/\Q0a n e L):=fun h=>by
     have:=h.1.2.1 x (Ug (Xe3 HS));omega
    have hf:rs=false:=(by rw[<-Vp.out];exact UU C4);exact ⟨by rw[hf];rfl,(Xo2 HC)⟩
   ·by_cases hx8:8<x
    ·go_wp2_with fail
     go_ret;have C4:¬(Q1l k E/\Q0a n e L):=fun h=>by
      have:=(Q3p h.1 x (Ug (Xe3 HS))).2;omega
     have hf:rs=false:=(by rw[<-Vp.out];exact UU C4);exact ⟨by rw[hf];rfl,(Xo2 HC)⟩
    ·go_wp2_with fail
     refine ⟨⟨i+1,s+x,rfl,congrArg (Value.int .i64) (by omega),by omega,by omega,by rw[(Xo1 HS),(Xo0 HS)],by omega,by omega,fun y hy=>?_,trivial⟩,by simp only[intOf];omega⟩;obtain ⟨j,hj,hjy⟩:=Qcb hy
     by_cases hji:j=i
     ·subst hji;have h5:=(Xe3 HS);rw[hjy] at h5;injection h5 with h5;omega
     ·exact (Xo2 HS) y (US.2 ⟨j,by rw[Ty,Uu (by omega)];exact hjy⟩)
  ·by_cases K6:E.length=k
   ·have p8:i=E.length:=(by omega);rw[p8,Tw] at hs p6;have C6:¬(i:Int)<(E.length:Int):=(by omega);have hkk:((E.length:Int)==(k:Int))=true:=(by rw[beq_iff_eq];omega);have HS:=Xh3 hs p6 K6;clear hs p6 K6 p8
    by_cases h8:s<=8
    ·have Qw:rs=decide (Q0a n e L):=by
      rw[<-Vp.out];exact decide_eq_decide.2 ⟨fun h=>h.2,fun h=>⟨⟨(Xe2 HS),(Xo1 HS),by rw[(Xo0 HS)];exact h8⟩,h⟩⟩
     have HR:=Ua Qw;clear Qw
     go_wp2_with (go_at_call 25;refine (Xo0 HC).mono ?_;rintro r w1 ⟨rfl,C0⟩;have H1:=Ua C0;clear C0)
     go_ret;exact ⟨by rw[HR.out];rfl,Below.next0 (Xo2 HC) H1.out⟩
    ·have C4:¬(Q1l k E/\Q0a n e L):=fun h=>by
      have:=h.1.2.2;have:=(Xo0 HS);omega
     have hf:rs=false:=(by rw[<-Vp.out];exact UU C4);have HR:=Ua hf;clear hf C4
     go_wp2_with fail
     go_ret;exact ⟨by rw[HR.out];rfl,(Xo2 HC)⟩
   ·have hkk:((E.length:Int)==(k:Int))=false:=(by rw[Uk];omega);have C4:¬(Q1l k E/\Q0a n e L):=fun h=>K6 h.1.1;have hf:rs=false:=(by rw[<-Vp.out];exact UU C4);have HR:=Ua hf;clear hf C4 hs p6
    by_cases C6:i<E.length
    ·have hl1':(i:Int)<(E.length:Int):=(by omega);have Jj:¬(i:Int)<4:=by omega
     go_wp2_with fail
     go_ret;exact ⟨by rw[HR.out];rfl,(Xo2 HC)⟩
    ·have hl1':¬(i:Int)<(E.length:Int):=by omega
     go_wp2_with fail
     go_ret;exact ⟨by rw[HR.out];rfl,(Xo2 HC)⟩
end Go.Proofs.YtidojbkhlenahaaGreatDoor
namespace Go.Proofs.YtidojbkhlenahaaGreatDoor
open Go Go.RowKit
section
variable {P:Program}
def Qtu (P:Program) (ops:Array Oper) (C:World->Prop) (V:Nat->Value->World->Prop) (a0:Act) (n:Nat) (Mid:Value->World->Prop):List Oper->Prop
 |[o,o2]=>(∀a w,C w->Q7h ops a0 a->(∀i∈Q20 o,V i (Q09 ops a i) w)->Q0r P Mid ((execOp a.eval o).run P w))/\n∈Q20 o2/\∀a w,Q7h ops a0 a->(execOp a.eval o2).run P w=.ok (.value (Q09 ops a n)) w
 |_=>False
theorem Qqy {l:List Oper} {n i:Nat} {a:Act} (hn:l.length=n+2) (hi:i≠n+1):Q09 (l.take (n+1)).toArray a i=Q09 l.toArray a i:=by
 unfold Q09;have h:(l.take (n+1)).toArray[i]?=l.toArray[i]?:=by
  simp only[List.getElem?_toArray,Ty]
  split
  ·rfl
  ·rw[Ta (by omega)]
 rw[h]
theorem Qno {l:List Oper} {n:Nat} {a0 a:Act} (hn:l.length=n+2) (E0:Q7h l.toArray a0 a) (hs:Q09 l.toArray a (n+1)=Q09 l.toArray a0 (n+1)):Q7h (l.take (n+1)).toArray a0 a:=by
 refine ⟨E0.1,E0.2.1,fun t ht=>?_⟩;obtain ⟨o2,ZE⟩:∃o2,l[n+1]?=some o2:=⟨_,Ub (by omega)⟩
 by_cases h2:o2.dst=some t
 ·have e1:∀b:Act,Q09 l.toArray b (n+1)=b.tmps.getD t undef:=fun b=>by
   unfold Q09;rw[List.getElem?_toArray,ZE,Xat,h2]
  rw[e1,e1] at hs
  by_cases F0:t<a0.tmps.size
  ·have G0:t<a.tmps.size:=(by rw[E0.2.1];exact F0);rw[UA,UA,UZ F0,UZ G0,Xa0,Xa0] at hs;rw[UZ F0,UZ G0,hs]
  ·have F2:=E0.2.1;have h3:a0.tmps.size<=t:=Nat.le_of_not_lt F0;rw[Array.getElem?_eq_none (xs:=a.tmps) (Uj (Nat.le_of_eq F2) h3),Array.getElem?_eq_none (xs:=a0.tmps) h3]
 ·refine E0.2.2 t fun o ho e=>?_;obtain ⟨i,hi,rfl⟩:=Xaw ho;have QE:i<l.length:=by simpa using hi
  by_cases S9:i=n+1
  ·subst S9;rw[Ub QE] at ZE;injection ZE with ZE;exact h2 (by rw[<-ZE];exact e)
  ·refine ht l[i] ?_ e;rw[US];refine ⟨i,?_⟩
   show (l.take (n+1))[i]?=_
   rw[Ty,Uu (by omega),Ub QE]
theorem Q5u {Q:Exit->Act->World->Prop} {id:Nat} {l:List Oper} {a0:Act} {w:World} (hm:P.follows .mixedOrders=true) (n:Nat) (hn:l.length=n+2) (C:World->Prop) (hC:∀w w',C w->Bw w w'->C w') (V:Nat->Value->World->Prop) (hV:∀i v w w',V i v w->Bw w w'->V i v w') (Mid:Value->World->Prop)
 (hB:Q7i l a0.tmps.size=true) (hA:Qle l n=true) (hG:(l.all fun o=>o.guard.isNone)=true) (hD:(l.all fun o=>o.dst.isSome)=true) (h0:C w.drew)
 (step:Q3g P Q7l (l.take (n+1)).toArray C V a0 (l.take n) 0) (last:Qtu P l.toArray C V a0 n Mid (l.drop n)) (fin:∀vs w,Mid (vs n) w->vs (n+1)=vs n->Q .normal (Q0t vs l 0 a0) w):(Code.region id l.toArray true).wp P Q a0 w:=by
 have U5:∀(k:Nat) (o:Oper),l[k]?=some o->∀y,Region.wanted o y=true:=fun k o ho y=>by
  have h1:=Ts.1 hG o (Ug ho);unfold Region.wanted;cases hg:o.guard with
  |none=>rfl
  |some g=>rw[hg] at h1;cases h1
 obtain ⟨o1,o2,F6⟩:∃o1 o2,l.drop n=[o1,o2]:=by
  have h1:(l.drop n).length=2:=by rw[Th];omega
  cases hl:l.drop n with
  |nil=>rw[hl] at h1;cases h1
  |cons x r=>
   cases r with
   |nil=>rw[hl] at h1;cases h1
   |cons y s=>
    cases s with
    |nil=>exact ⟨x,y,rfl⟩
    |cons z s=>rw[hl] at h1;simp at h1
 have ho1:l[n]?=some o1:=by have:=congrArg (fun x=>x[0]?) F6;simpa using this
 have ZE:l[n+1]?=some o2:=by have:=congrArg (fun x=>x[1]?) F6;simpa using this
 rw[F6] at last;obtain ⟨last1,last2,last3⟩:=last;have A1:∀(k:Nat) (o:Oper),l[k]?=some o->Q62 P l.toArray (fun D vs w=>(if D n=true then (Mid (vs n) w/\(D (n+1)=true->vs (n+1)=vs n)) else (C w/\∀j,D j=true->V j (vs j) w))/\(D (n+1)=false->vs (n+1)=Q09 l.toArray a0 (n+1))) a0 k o:=by
  intro k o ho a w D hI0 E0 hk p5 F1;obtain ⟨hI,ZW⟩:=hI0;have WB:k<=n+1:=by have:=(Uh.1 ho).1;omega
  refine ⟨U5 k o ho _,?_⟩
  by_cases K6:k=n+1
  ·subst K6;rw[ZE] at ho;injection ho with ho;subst ho;have i7:D n=true:=p5 n last2;simp only[i7,if_true] at hI;rw[last3 a w E0]
   show (if Q1x D (n+1) n=true then _ else _)/\_
   have e1:Q1x D (n+1) n=true:=(by unfold Q1x;rw[Uq (by omega)];exact i7);rw[Uu e1];have e2:Q24 (Q09 l.toArray a) (n+1) (Q09 l.toArray a n) n=Q09 l.toArray a n:=(by unfold Q24;rw[Uq (by omega)]);have e3:Q24 (Q09 l.toArray a) (n+1) (Q09 l.toArray a n) (n+1)=Q09 l.toArray a n:=(by unfold Q24;rw[Uu rfl]);rw[e2,e3];exact ⟨⟨hI.1,fun _=>rfl⟩,fun h=>by rw[Q27] at h;cases h⟩
  ·have Zw:k<=n:=(by omega);have i7:D n=false:=Qc8 hA (D:=D) (fun j oj hj=>F1 j oj (by simpa using hj)) _ k rfl Zw hk;have Xu:D (n+1)=false:=by
    cases hb:D (n+1) with
    |false=>rfl
    |true=>have:=F1 (n+1) o2 (by simpa using ZE) hb n last2;rw[i7] at this;cases this
   simp only[i7] at hI;obtain ⟨Zf,KD⟩:=hI;have hS:∀u,Q1x D k (n+1)=false->Q24 (Q09 l.toArray a) k u (n+1)=Q09 l.toArray a0 (n+1):=fun u _=>by unfold Q24;rw[Uq (fun e=>K6 e.symm)];exact ZW Xu
   have Zd:∀i∈Q20 o,V i (Q09 l.toArray a i) w:=fun i hi=>KD i (p5 i hi)
   by_cases M9:k=n
   ·subst M9;rw[ho1] at ho;injection ho with ho;subst ho;have h1:=last1 a w Zf E0 Zd;have hK:∀u w',Mid u w'->(if Q1x D k k=true then (Mid (Q24 (Q09 l.toArray a) k u k) w'/\(Q1x D k (k+1)=true->Q24 (Q09 l.toArray a) k u (k+1)=Q24 (Q09 l.toArray a) k u k)) else (C w'/\∀j,Q1x D k j=true->V j (Q24 (Q09 l.toArray a) k u j) w')):=fun u w' h=>by
     rw[Q27,Uu rfl];have e1:Q1x D k (k+1)=false:=(by unfold Q1x;rw[Uq (by omega)];exact Xu);have e2:Q24 (Q09 l.toArray a) k u k=u:=(by unfold Q24;rw[Uu rfl]);rw[e1,e2];exact ⟨h,fun h=>by cases h⟩
    revert h1
    generalize (execOp a.eval o1).run P w=res;intro h1;cases res with
    |ok x w'=>
     cases x with
     |value u=>exact ⟨hK u w' h1,hS u⟩
     |enter f args=>
      refine Xa6 h1 ?_;rintro e w'' ⟨v,rfl,hf⟩;exact ⟨v,rfl,hK v w'' hf,hS v⟩
     |skip=>exact ⟨hK undef w' h1,hS undef⟩
     |_=>exact h1.elim
    |halt x w'=>exact h1.elim
   ·have y8:(l.take n)[k]?=some o:=(by rw[Ty,Uu (by omega)];exact ho);have h1:=Q3g.at_ _ _ _ _ step y8;rw[UH] at h1;have h1:=h1 a w Zf (Qno hn E0 (ZW Xu)) (fun i hi=>by
     rw[Qqy hn (fun e=>by subst e;have:=p5 _ hi;rw[Xu] at this;cases this)];exact Zd i hi)
    rw[Uu (U5 k o ho _)] at h1;have hK:∀u w',Bw w w'->V k u w'->(if Q1x D k n=true then (Mid (Q24 (Q09 l.toArray a) k u n) w'/\(Q1x D k (n+1)=true->Q24 (Q09 l.toArray a) k u (n+1)=Q24 (Q09 l.toArray a) k u n)) else (C w'/\∀j,Q1x D k j=true->V j (Q24 (Q09 l.toArray a) k u j) w')):=fun u w' hb hu=>by
     have e:Q1x D k n=false:=(by unfold Q1x;rw[Uq (fun e=>M9 e.symm)];exact i7);rw[e,Uq (by decide)];refine ⟨hC _ _ Zf hb,fun j hj=>?_⟩;unfold Q24;unfold Q1x at hj
     by_cases QG:j=k
     ·subst QG;rw[Uu rfl];exact hu
     ·rw[Uq QG];rw[Uq QG] at hj;exact hV _ _ _ _ (KD j hj) hb
    revert h1
    generalize (execOp a.eval o).run P w=res;intro h1;cases res with
    |ok x w'=>
     cases x with
     |value u=>exact ⟨hK u w' h1.1 h1.2,hS u⟩
     |enter f args=>
      refine Xa6 h1 ?_;rintro e w'' ⟨v,rfl,hb,hv⟩;exact ⟨v,rfl,hK v w'' hb hv,hS v⟩
     |skip=>exact ⟨hK undef w' h1.1 h1.2,hS undef⟩
     |_=>exact h1.elim
    |halt x w'=>exact h1.elim
 have QN:∀(r:List Oper) (k:Nat),(∀(i:Nat) o,r[i]?=some o->l[k+i]?=some o)->Q84 P l.toArray (fun D vs w=>(if D n=true then (Mid (vs n) w/\(D (n+1)=true->vs (n+1)=vs n)) else (C w/\∀j,D j=true->V j (vs j) w))/\(D (n+1)=false->vs (n+1)=Q09 l.toArray a0 (n+1))) a0 r k:=by
  intro r
  induction r with
  |nil=>intro k _;trivial
  |cons o r ih=>
   intro k h;refine ⟨A1 k o (by simpa using h 0 o rfl),ih (k+1) fun i o' Qe=>?_⟩;have:=h (i+1) o' (by simpa using Qe);rwa[show k+(i+1)=k+1+i by omega] at this
 refine Q73 hm (fun D vs w=>(if D n=true then (Mid (vs n) w/\(D (n+1)=true->vs (n+1)=vs n)) else (C w/\∀j,D j=true->V j (vs j) w))/\(D (n+1)=false->vs (n+1)=Q09 l.toArray a0 (n+1))) (fun i o hi hd D vs v w h=>?_) hB ?_ (QN l 0 fun i o h=>by rw[UH];exact h) (fun D vs w A1 h=>?_)
 ·have h1:=Ts.1 hD o (Ug hi);rw[hd] at h1;cases h1
 ·exact ⟨⟨h0,fun j hj=>by cases hj⟩,fun _=>rfl⟩
 ·have i7:=A1 n (by omega);have Xu:=A1 (n+1) (by omega);simp only[i7,if_true] at h;exact fin vs w h.1.1 (h.1.2 Xu)
end
end Go.Proofs.YtidojbkhlenahaaGreatDoor
namespace Go.Proofs.YtidojbkhlenahaaGreatDoor
open Go.RowKit WordsM
def NoD (v:Value):Prop:=∀x:Nat,v≠nv .u32 x
theorem Qbd (b:Bool):NoD (.bool b):=fun _=>by simp[nv]
theorem Q66 (a:OA) (n c:Nat):NoD (.slice a n c):=fun _=>by simp[nv]
theorem Qfo (e:Int):NoD (.int .i64 e):=fun _=>by simp[nv]
theorem Q4c.offD {w:World} {B:Nat} {e:TypeId} {k:Nat} {a:OA} {n c:Nat} {xs:LV} (h:Q4c NoD w B e k a n c xs) {aw:OA} {l cw v:Nat} (hw:Q0v w aw l cw v):dig (2^32) v=[]∨∃b o,aw=some ⟨b,o,none⟩/\b<w.heap.size/\(∀(j:Nat) x,(dig (2^32) v)[j]?=some x->w.cell? ⟨b,o+j,none⟩=some (nv .u32 x))/\∀y,a=some y->y.block≠b:=by
 rcases hw.rd with h0|⟨b,o,rfl,hb,hc⟩
 ·exact .inl h0
 cases hL:dig (2^32) v with
 |nil=>exact .inl rfl
 |cons y r=>
  rw[hL] at hc;refine .inr ⟨b,o,rfl,hb,hc,fun z hz e=>?_⟩;have h1:=hc 0 y rfl;rcases h.1.form with ⟨h0,_⟩|⟨g,cur,h0,_,_,hh,_⟩
  ·rw[h0] at hz;cases hz
  ·rw[h0] at hz;injection hz with hz;subst hz;have e:g=b:=e;subst e;rw[UL _ _ _ _ _ _ hh] at h1;exact h.2 g cur _ _ h0 hh _ (Array.mem_toList_iff.2 (Array.mem_of_getElem? h1)) y rfl
theorem Q4c.grownD {w w':World} {B:Nat} {e:TypeId} {k:Nat} {a:OA} {n c:Nat} {xs:LV} (h:Q4c NoD w B e k a n c xs) (hg:w.grownBy w' (a.map (·.block))) {aw:OA} {l cw v:Nat} (hw:Q0v w aw l cw v):Q0v w' aw l cw v:=by
 refine ⟨hw.len,hw.cap,hw.most,?_⟩;rcases h.offD hw with h0|⟨b,o,rfl,hb,hc,C1⟩
 ·exact .inl h0
 ·refine .inr ⟨b,o,rfl,Uc hb hg.size,fun j x hx=>(UK (a:=⟨b,o+j,none⟩) (hg.block b hb fun e=>?_)).trans (hc j x hx)⟩;cases a with
  |none=>simp at e
  |some z=>
   simp only[UG,Un] at e;exact C1 z rfl e.symm
theorem Q0v.set1 {w:World} {a:OA} {n c v:Nat} (h:Q0v w a n c v) {p:Addr} {u:Value} (hp:w.cell? p=some u) (hu:NoD u) (x:Value):Q0v (w.setCell p x) a n c v:=by
 refine ⟨h.len,h.cap,h.most,?_⟩;have:=h.rd.store1 hp hu x;rwa[Tk]
def Q5v [LT ZK] (w0 w:World):List Q0m->LV->Prop
 |[],xs=>xs=[]
 |p::r,xs=>∃n a l c e v ae le ce ys,xs=.bool n:: .slice a l c:: .int .i64 e:: .slice ae le ce::ys/\(Q0v w a l c v/\Q3j n v e/\dy (sgn n v) e=p.1/\Q0p w0 ae le ce p.2)/\Q5v w0 w r ys
theorem Q5v.len [LT ZK] {w0 w:World}:∀{ts:List Q0m} {xs:LV},Q5v w0 w ts xs->xs.length=ts.length*4
 |[],_,h=>by cases h;rfl
 |p::r,_,⟨_,_,_,_,_,_,_,_,_,ys,rfl,_,h⟩=>by
  have:=Q5v.len h;simp only[Ul];omega
theorem Q5v.one [LT ZK] {w0 w:World}:∀{ts:List Q0m} {xs:LV},Q5v w0 w ts xs->∀u∈xs,u.oneCell'=true/\NoD u
 |[],_,h,u,hu=>by cases h;cases hu
 |p::r,_,⟨_,_,_,_,_,_,_,_,_,ys,rfl,_,h⟩,u,hu=>by
  simp only[UD] at hu;rcases hu with rfl|rfl|rfl|rfl|hu
  ·exact ⟨rfl,Qbd _⟩
  ·exact ⟨rfl,Q66 _ _ _⟩
  ·exact ⟨rfl,Qfo _⟩
  ·exact ⟨rfl,Q66 _ _ _⟩
  ·exact Q5v.one h u hu
theorem Q5v.app [LT ZK] {w0 w:World} {ts':List Q0m} {ys:LV} (h':Q5v w0 w ts' ys):∀{ts:List Q0m} {xs:LV},Q5v w0 w ts xs->Q5v w0 w (ts++ts') (xs++ys)
 |[],_,h=>by cases h;exact h'
 |p::r,_,⟨n,a,l,c,e,v,ae,le,ce,zs,rfl,hg,h⟩=>⟨n,a,l,c,e,v,ae,le,ce,zs++ys,rfl,hg,Q5v.app h' h⟩
theorem Q5v.parts [LT ZK] {w0 w:World}:∀{ts:List Q0m} {xs:LV} (k:Nat),Q5v w0 w ts xs->Q5v w0 w (ts.take k) (xs.take (k*4))/\Q5v w0 w (ts.drop k) (xs.drop (k*4))
 |ts,xs,0,h=>by simp only[TQ,List.take_zero,Xa3];exact ⟨rfl,h⟩
 |[],_,k+1,h=>by cases h;simp only[List.take_nil,List.drop_nil];exact ⟨rfl,rfl⟩
 |p::r,_,k+1,⟨n,a,l,c,e,v,ae,le,ce,zs,rfl,hg,h⟩=>by
  obtain ⟨h1,h2⟩:=Q5v.parts k h;rw[show (k+1)*4=k*4+4 by omega];exact ⟨⟨n,a,l,c,e,v,ae,le,ce,zs.take (k*4),rfl,hg,h1⟩,h2⟩
theorem Q5v.keep [LT ZK] {w0 w w':World} (hk:∀{a l c v},Q0v w a l c v->Q0v w' a l c v):∀{ts:List Q0m} {xs:LV},Q5v w0 w ts xs->Q5v w0 w' ts xs
 |[],_,h=>h
 |_::_,_,⟨n,a,l,c,e,v,ae,le,ce,zs,hx,hg,h⟩=>⟨n,a,l,c,e,v,ae,le,ce,zs,hx,⟨hk hg.1,hg.2⟩,Q5v.keep hk h⟩
theorem Q5v.old [LT ZK] {w0 w1 w:World} (hk:∀{a l c E},Q0p w0 a l c E->Q0p w1 a l c E):∀{ts:List Q0m} {xs:LV},Q5v w0 w ts xs->Q5v w1 w ts xs
 |[],_,h=>h
 |_::_,_,⟨n,a,l,c,e,v,ae,le,ce,zs,hx,hg,h⟩=>⟨n,a,l,c,e,v,ae,le,ce,zs,hx,⟨hg.1,hg.2.1,hg.2.2.1,hk hg.2.2.2⟩,Q5v.old hk h⟩
theorem Q5v.get [LT ZK] {w0 w:World}:∀{ts:List Q0m} {xs:LV} {i:Nat} {p:Q0m},Q5v w0 w ts xs->ts[i]?=some p->∃n a l c e v ae le ce,xs[i*4]?=some (.bool n)/\xs[i*4+1]?=some (.slice a l c)/\xs[i*4+2]?=some (.int .i64 e)/\xs[i*4+3]?=some (.slice ae le ce)/\Q0v w a l c v/\Q3j n v e/\dy (sgn n v) e=p.1/\Q0p w0 ae le ce p.2
 |[],_,i,p,_,hp=>by simp at hp
 |q::r,_,0,p,⟨n,a,l,c,e,v,ae,le,ce,zs,rfl,⟨h1,h2,h3,h4⟩,h⟩,hp=>by
  simp only[UO,Un] at hp;subst hp;exact ⟨n,a,l,c,e,v,ae,le,ce,rfl,rfl,rfl,rfl,h1,h2,h3,h4⟩
 |q::r,_,i+1,p,⟨_,_,_,_,_,_,_,_,_,zs,rfl,_,h⟩,hp=>by
  obtain ⟨n,a,l,c,e,v,ae,le,ce,h0,h1,h2,h3,h4⟩:=Q5v.get (i:=i) h (by simpa using hp);rw[show (i+1)*4=i*4+4 by omega];exact ⟨n,a,l,c,e,v,ae,le,ce,h0,h1,h2,h3,h4⟩
theorem Q5v.put [LT ZK] {w0 w:World} {n':Bool} {a':OA} {l' c' v':Nat} {e':Int} (hd:Q0v w a' l' c' v') (hc:Q3j n' v' e'):∀{ts:List Q0m} {xs:LV} {i:Nat} {p:Q0m},Q5v w0 w ts xs->ts[i]?=some p->Q5v w0 w (ts.set i (dy (sgn n' v') e',p.2)) (((xs.set (i*4) (.bool n')).set (i*4+1) (.slice a' l' c')).set (i*4+2) (.int .i64 e'))
 |[],_,i,p,_,hp=>by simp at hp
 |q::r,_,0,p,⟨n,a,l,c,e,v,ae,le,ce,zs,rfl,⟨h1,h2,h3,h4⟩,h⟩,hp=>by
  simp only[UO,Un] at hp;subst hp;exact ⟨n',a',l',c',e',v',ae,le,ce,zs,rfl,⟨hd,hc,rfl,h4⟩,h⟩
 |q::r,_,i+1,p,⟨n,a,l,c,e,v,ae,le,ce,zs,rfl,hg,h⟩,hp=>by
  have ih:=Q5v.put hd hc (i:=i) h (by simpa using hp);rw[show (i+1)*4=i*4+4 by omega];exact ⟨n,a,l,c,e,v,ae,le,ce,_,rfl,hg,ih⟩
def Qqz [LT ZK] (w:World) (a:OA) (n c:Nat) (ts:List Q0m):Prop:=
 ts.length=n/\n<=c/\c<=9223372036854775807/\(ts=[]∨∃b o,a=some ⟨b,o,none⟩/\b<w.heap.size/\∃xs,Q5v w w ts xs/\∀j u,xs[j]?=some u->w.cell? ⟨b,o+j,none⟩=some u)
theorem Qlt {S:Nat}:∀{l:List Q0m} {c:Q0m},(∀p∈l,bnd S p.1)->bnd S c.1->∀p∈Q8f l c,bnd (S+1) p.1
 |[],c,_,hc,p,h=>by rw[Q8f,Uy] at h;subst h;exact hc.more (Xar _)
 |q::r,c,hl,hc,p,h=>by
  rw[Q8f] at h
  split at h
  ·rcases UD.1 h with rfl|h
   ·exact (hl _ (by simp)).more (Xar _)
   ·exact Qlt (fun x hx=>hl x (by simp[hx])) hc p h
  ·split at h
   ·rcases UD.1 h with rfl|h
    ·exact (hl q (by simp)).add hc
    ·exact (hl p (by simp[h])).more (Xar _)
   ·rcases UD.1 h with rfl|h
    ·exact hc.more (Xar _)
    ·exact (hl p h).more (Xar _)
theorem Qbe {T:Nat} {ts:List Q0m} (h:∀p∈ts,bnd T p.1):∀i,∀p∈Q23 (ts.take i),bnd (T+i) p.1
 |0,p,hp=>by simp[Q23] at hp
 |i+1,p,hp=>by
  cases hi:ts[i]? with
  |none=>
   have:ts.take (i+1)=ts.take i:=by
    rw[List.getElem?_eq_none_iff] at hi;rw[Uw hi,Uw (by omega)]
   rw[this] at hp;exact (Qbe h i p hp).more (by omega)
  |some c=>
   rw[Tu,hi,show ts.take i++Option.toList (some c)=ts.take i++[c] from rfl,Q7v] at hp;exact Qlt (Qbe h i) ((h c (Ug hi)).more (by omega)) p hp
theorem Qlu:∀(l:List Q0m) (c:Q0m),(Q8f l c).length<=l.length+1
 |[],c=>by simp[Q8f]
 |q::r,c=>by
  have:=Qlu r c;rw[Q8f]
  split
  ·simp only[Ul];omega
  ·split <;> simp
theorem Qbf (ts:List Q0m):∀i,(Q23 (ts.take i)).length<=i
 |0=>by simp[Q23]
 |i+1=>by
  cases hi:ts[i]? with
  |none=>
   have:ts.take (i+1)=ts.take i:=by
    rw[List.getElem?_eq_none_iff] at hi;rw[Uw hi,Uw (by omega)]
   rw[this];have:=Qbf ts i;omega
  |some c=>
   rw[Tu,hi,show ts.take i++Option.toList (some c)=ts.take i++[c] from rfl,Q7v];have h1:=Qbf ts i;have h2:=Qlu (Q23 (ts.take i)) c;omega
theorem Qk8 {c:Q0m}:∀(l:List Q0m) (k:Nat),k<=l.length->(∀j p,j<k->l[j]?=some p->0<Q2w p.2 c.2)->Q8f l c=l.take k++Q8f (l.drop k) c
 |l,0,_,_=>by simp
 |[],k+1,h,_=>by simp at h
 |q::r,k+1,h,hj=>by
  rw[Q8f,Uu (hj 0 q (by omega) rfl),Qk8 r k (by simpa using h) (fun j p QG hp=>hj (j+1) p (by omega) (by simpa using hp))];rfl
theorem Qr0 {c p:Q0m} {l:List Q0m} {k:Nat} (hk:∀j p,j<k->l[j]?=some p->0<Q2w p.2 c.2) (hp:l[k]?=some p) (he:Q2w p.2 c.2=0):Q8f l c=l.set k (p.1+c.1,p.2):=by
 have F0:=(Uh.1 hp).1;rw[Qk8 l k (Xbi F0) hk,Q6h l k p hp,Q8f,Uq (by omega),Uu ((Q6k _ _).1 he),List.set_eq_take_append_cons_drop,Uu F0]
theorem Qhy {c:Q0m} {l:List Q0m} {k:Nat} (M9:k<=l.length) (hk:∀j p,j<k->l[j]?=some p->0<Q2w p.2 c.2) (hp:∀p,l[k]?=some p->Q2w p.2 c.2<0):Q8f l c=l.take k++(c::l.drop k):=by
 rw[Qk8 l k M9 hk];cases hd:l[k]? with
 |none=>
  rw[List.getElem?_eq_none_iff] at hd;rw[Tm hd,Q8f]
 |some p=>
  have h1:=hp p hd;rw[Q6h l k p hd,Q8f,Uq (by omega),Uq (fun e=>by rw[(Q6k _ _).2 e] at h1;omega)]
theorem Q6x:Tryz.prog.underlying 217=some (.slice (Tryz.prog.elem 217)):=by kernel_rfl
theorem Qhz (w:World):(sizeOf (Tryz.prog.elem 217)).run Tryz.prog w=.ok 4 w:=by kernel_rfl
theorem Qi0:(Tryz.prog.info? 219).map (fun i=>(i.zero,i.size,i.bytes))=some (some (.agg #[.bool false,.slice none 0 0,.int .i64 0,.slice none 0 0]),4,64):=by kernel_rfl
theorem Qi1 (w:World) (a:OA) (n c k:Nat) (h1:k<=n):
 (Instr.slice 217 (.slice a n c) (some (.int .i64 (k:Int))) none none).run Tryz.prog w=.ok (.slice (Qof a c k 4) (n-k) (c-k)) w:=by
 rw[run_slice_l w _ a n c Q6x .i64 (k:Int) (by omega) (by omega),Qhz]
 show Result.ok (Value.slice (Qof a c ((k:Int).toNat) 4) _ _) w=_
 rw[TS]
theorem Qi2 (w:World) (a:OA) (n c k:Nat) (h2:k<=c):
 (Instr.slice 217 (.slice a n c) none (some (.int .i64 (k:Int))) none).run Tryz.prog w=.ok (.slice a k c) w:=by
 rw[run_slice_h w _ a n c Q6x .i64 (k:Int) (by omega) (by omega),Qhz];have:=Qbj a c 4
 show Result.ok (Value.slice (Qof a c 0 4) _ _) w=_
 rw[this,Nat.sub_zero,Nat.sub_zero,TS]
theorem Qnp (w:World) (r:Option Nat):w.grownBy w r:=⟨rfl,rfl,rfl,Ue _,fun _ _ _=>rfl⟩
theorem Qnq {w w':World} {B:Nat} {w0:World} (h:w.grownBy w' none) (hb:Below B w0 w) (hB:B<=w.heap.size):Below B w0 w':=
 hb.trans ⟨h.os,h.tape,h.output,h.size,fun z hz=>h.block z (Uc hz hB) (fun e=>by cases e)⟩
theorem Q5j (ty:TypeId) (w:World) (B:Nat) (hB:B<=w.heap.size) (a:OA) (n c:Nat) (xs:LV) (h:Q4c NoD w B 219 4 a n c xs) (b:OA) (m d:Nat) (ys:LV) (hl:ys.length=m*4) (hy:m=0∨∃x,b=some x/\∀j u,ys[j]?=some u->w.cell? (x.add j)=some u) (h1:∀u∈ys,u.oneCell'=true/\NoD u) (hn:n+m<=100000):
 ∃a' c' w',(Builtin.append_ #[217,217] ty #[.slice a n c,.slice b m d]).run Tryz.prog w=.ok (.slice a' (n+m) c') w'/\Q4c NoD w' B 219 4 a' (n+m) c' (xs++ys)/\w.grownBy w' (a.map (·.block))/\(a'=a∨∀y,a'=some y->y.block=w.heap.size):=by
 obtain ⟨i0,S2,E2,O1,Y1⟩:=Q0z Qi0;rcases TZ m with rfl|hm
 ·obtain rfl:ys=[]:=UC.1 (by omega);exact ⟨a,c,w,Qci w _ ty _ i0 Q6x S2 a b n c d h.1.cap.1,by simpa using h,Qnp _ _,.inl rfl⟩
 ·rcases hy with h0|⟨x,rfl,hx⟩
  ·omega
  obtain ⟨g,c',w',C2,K0,Z5,J2⟩:=Q63 (P:=Tryz.prog) NoD w 217 ty 219 i0 _ 4 64 Q6x S2 E2 O1 Y1 rfl (by
   intro u hu;simp[Value.cells] at hu;rcases hu with rfl|rfl|rfl|rfl
   ·exact Qbd _
   ·exact Q66 _ _ _
   ·exact Qfo _
   ·exact Q66 _ _ _) B hB a n c xs h x m d ys hl hx (fun u hu=>(h1 u hu).1) (fun u hu=>(h1 u hu).2) hm (by omega) (by decide) (by decide)
  refine ⟨_,c',w',C2,K0,Z5,?_⟩;rcases J2 with h0|h0
  ·exact .inl h0.symm
  ·exact .inr fun y hy=>by injection hy with hy;subst hy;exact h0
theorem Q4c.src {Pr:Value->Prop} {w:World} {B:Nat} {e:TypeId} {n c:Nat} {a:OA} {xs:LV} (h:Q4c Pr w B e 4 a n c xs) (k m:Nat) (hkm:k+m=n):m=0∨∃x,Qof a c k 4=some x/\∀j u,((xs.drop (k*4)).take (m*4))[j]?=some u->w.cell? (x.add j)=some u:=by
 rcases TZ m with h0|hm
 ·exact .inl h0
 refine .inr ?_;rcases h.1.form with ⟨_,h0,_⟩|⟨g,cur,rfl,_,_,_⟩
 ·omega
 have hc:=h.1.cap.1;refine ⟨⟨g,k*4,none⟩,?_,fun j u hj=>?_⟩
 ·unfold Qof;rw[Uq (by omega)];simp[Addr.add_lit]
 ·rw[Ty] at hj
  split at hj
  ·rw[Xaz] at hj;obtain ⟨g',e',_,_,J0⟩:=h.1.at_ hj;injection e' with e';injection e' with e';subst e';rw[Addr.add_lit];exact J0
  ·cases hj
theorem Qeh [LT ZK] (w0 wr:World) (hb:Bw w0 wr) (ao:OA) (m co:Nat) (xs:LV) (out:List Q0m) (O0:out.length=m) (K0:Q4c NoD wr w0.heap.size 219 4 ao m co xs) (Zt:Q5v w0 wr out xs) (k:Nat) (hk:k<=m) (cc:Q0m) (lit:LV) (Xj:Q5v w0 wr [cc] lit) (hm:m<=10000):
 ∃a7 c7 w7,(Builtin.append_ #[217,217] 217 #[.slice none 0 0,.slice ao k co]).run Tryz.prog wr=.ok (.slice a7 k c7) w7/\Bw w0 w7/\
  ∃a8 c8 w8,(Builtin.append_ #[217,217] 217 #[.slice a7 k c7,.slice (some ⟨w7.heap.size,0,none⟩) 1 1]).run Tryz.prog (w7.alloc (.cells lit.toArray 219))=.ok (.slice a8 (k+1) c8) w8/\Bw w0 w8/\
   ∃a9 c9 w9,(Builtin.append_ #[217,217] 217 #[.slice a8 (k+1) c8,.slice (Qof ao co k 4) (m-k) (co-k)]).run Tryz.prog w8=.ok (.slice a9 (m+1) c9) w9/\Bw w0 w9/\
    Q4c NoD w9 w0.heap.size 219 4 a9 (m+1) c9 (xs.take (k*4)++lit++xs.drop (k*4))/\Q5v w0 w9 (out.take k++cc::out.drop k) (xs.take (k*4)++lit++xs.drop (k*4)):=by
 have B4:xs.length=m*4:=by rw[Zt.len,O0]
 have WF:=fun u hu=>Zt.one u hu;have hB:=hb.size;obtain ⟨F9,JS⟩:=Zt.parts k
 --the front
 have hs7:k=0∨∃x,ao=some x/\∀j u,(xs.take (k*4))[j]?=some u->wr.cell? (x.add j)=some u:=by
  rcases TZ k with h0|p6
  ·exact .inl h0
  ·rcases K0.1.form with ⟨_,h0,_⟩|⟨g,cur,rfl,_,_,_⟩
   ·omega
   ·refine .inr ⟨⟨g,0,none⟩,rfl,fun j u hj=>?_⟩;rw[Ty] at hj
    split at hj
    ·obtain ⟨g',e',_,_,J0⟩:=K0.1.at_ hj;injection e' with e';injection e' with e';subst e';rw[Addr.add_lit,UH];exact J0
    ·cases hj
 obtain ⟨a7,c7,w7,Qy,YU,hgr7,hat7⟩:=Q5j 217 wr w0.heap.size hB none 0 0 [] (Q4c.nil_ _ _ _ _ _) ao k co (xs.take (k*4)) (by rw[UR,B4];omega) hs7 (fun u hu=>WF u (Td hu)) (by omega);rw[UH,Xaa] at YU;rw[UH] at Qy;have Qs:wr.grownBy w7 none:=hgr7;have N7:=Qnq Qs hb hB;have hbw7:Bw wr w7:=⟨Qs.os,Qs.tape,Qs.output,Qs.size,fun z hz=>Qs.block z hz (fun e=>by cases e)⟩;refine ⟨a7,c7,w7,Qy,N7,?_⟩
 --the term
 have R4:Bw w7 (w7.alloc (.cells lit.toArray 219)):=Ba;have Qn:lit.length=4:=by rw[Xj.len];rfl
 have hb7a:=Below.next0 N7 R4;obtain ⟨a8,c8,w8,O3,XP,m6,hat8⟩:=Q5j 217 (w7.alloc (.cells lit.toArray 219)) w0.heap.size hb7a.size a7 k c7 (xs.take (k*4)) (YU.step R4) (some ⟨w7.heap.size,0,none⟩) 1 1 lit (by rw[Qn]) (.inr ⟨_,rfl,fun j u hj=>by
  rw[Addr.add_lit,UH,UL _ _ _ _ _ _ (Up _ _)];simpa using hj⟩) (fun u hu=>Xj.one u hu) (by omega)
 have hne7:∀z,z<wr.heap.size->a7.map (·.block)≠some z:=fun z hz e=>by
  cases a7 with
  |none=>simp at e
  |some y=>
   simp only[UG,Un] at e;rcases hat7 with h0|h0
   ·cases h0
   ·have:=h0 y rfl;omega
 have G5:Bw w0 w8:=hb7a.trans ⟨m6.os,m6.tape,m6.output,m6.size,fun z hz=>m6.block z (Uc hz hb7a.size) (fun e=>hne7 z (by omega) e.symm)⟩;have hb8r:Bw wr w8:=(Below.next0 hbw7 R4).trans ⟨m6.os,m6.tape,m6.output,m6.size,fun z hz=>m6.block z (Uc hz (Below.next0 hbw7 R4).size) (fun e=>hne7 z hz e.symm)⟩;refine ⟨a8,c8,w8,O3,G5,?_⟩
 --the rest
 have YZ:=(K0.step hb8r).src k (m-k) (by omega);have i4:(xs.drop (k*4)).take ((m-k)*4)=xs.drop (k*4):=Uw (by rw[Th,B4,Nat.sub_mul];omega);rw[i4] at YZ;obtain ⟨a9,c9,w9,J9,D9,Xi,hat9⟩:=Q5j 217 w8 w0.heap.size G5.size a8 (k+1) c8 (xs.take (k*4)++lit) XP (Qof ao co k 4) (m-k) (co-k) (xs.drop (k*4)) (by rw[Th,B4,Nat.sub_mul]) YZ (fun u hu=>WF u (Xbg hu)) (by omega);rw[show k+1+(m-k)=m+1 by omega] at J9 D9;have hne8:∀z,z<wr.heap.size->a8.map (·.block)≠some z:=fun z hz e=>by
  rcases hat8 with h0|h0
  ·rw[h0] at e;exact hne7 z hz e
  ·cases a8 with
   |none=>simp at e
   |some y=>
    simp only[UG,Un] at e;have h1:=h0 y rfl;have h2:=(Below.next0 hbw7 R4).size;omega
 have N3:Bw w0 w9:=G5.trans ⟨Xi.os,Xi.tape,Xi.output,Xi.size,fun z hz=>Xi.block z (Uc hz G5.size) (fun e=>hne8 z (by omega) e.symm)⟩;refine ⟨a9,c9,w9,J9,N3,D9,?_⟩;have Ka:∀{a l c v},Q0v wr a l c v->Q0v w9 a l c v:=fun h=>XP.grownD Xi (h.step hb8r);have h1:=(F9.keep Ka);have h2:=(JS.keep Ka);have h3:=(Xj.keep Ka);have:=Q5v.app h2 (Q5v.app h3 h1);rwa[show out.take k++[cc]++out.drop k=out.take k++cc::out.drop k by simp] at this
end Go.Proofs.YtidojbkhlenahaaGreatDoor
