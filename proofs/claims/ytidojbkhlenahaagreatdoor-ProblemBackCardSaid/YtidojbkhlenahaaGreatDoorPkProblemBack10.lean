/- Part 10. No condition. -/
import Derived.DeepKeys4
import Derived.Maps.Keyed
import Derived.Maps.OwnSet
import Derived.Maps.Views
import Derived.Test.YtidojbkhlenahaaGreatDoorPkProblemBack09
set_option maxRecDepth 100000
set_option maxHeartbeats 16000000
namespace Go.Proofs.YtidojbkhlenahaaGreatDoor
open Go.RowKit WordsM
structure Qw4 (w W:World) (x0 x1 x2 y0 y1 y2:Value):Prop where
 bx:Q03 W w.heap.size x0 x1 x2
 by_:Q03 W (w.heap.size+1) y0 y1 y2
 br:Q03 W (w.heap.size+2) (.bool false) (.slice none 0 0) (.int .i64 0)
 lt:w.heap.size+2<W.heap.size
 bel:Bw w W
theorem Qw4.step {w W W':World} {x0 x1 x2 y0 y1 y2:Value} (h:Qw4 w W x0 x1 x2 y0 y1 y2) (hb:Bw W W'):Qw4 w W' x0 x1 x2 y0 y1 y2:=by
 have E0:=h.lt;exact ⟨h.bx.step hb (by omega),h.by_.step hb (by omega),h.br.step hb (by omega),Uc h.lt hb.size,Below.next0 h.bel hb⟩
theorem Qdj (w:World) (x0 x1 x2 y0 y1 y2:Value) (T1 T2 T3:TypeId):Qw4 w (((w.alloc (.cells #[x0,x1,x2] T1)).alloc (.cells #[y0,y1,y2] T2)).alloc (.cells #[.bool false,.slice none 0 0,.int .i64 0] T3)) x0 x1 x2 y0 y1 y2:=by
 obtain ⟨h1,h2,h3,h4,h5⟩:=Qf3 w x0 x1 x2 y0 y1 y2 (.bool false) (.slice none 0 0) (.int .i64 0) T1 T2 T3;exact ⟨h2,h3,h4,by omega,h5⟩
structure Two (w W:World) (x0 x1 x2:Value):Prop where
 bx:Q03 W w.heap.size x0 x1 x2
 br:Q03 W (w.heap.size+1) (.bool false) (.slice none 0 0) (.int .i64 0)
 lt:w.heap.size+1<W.heap.size
 bel:Bw w W
theorem Two.step {w W W':World} {x0 x1 x2:Value} (h:Two w W x0 x1 x2) (hb:Bw W W'):Two w W' x0 x1 x2:=by
 have E0:=h.lt;exact ⟨h.bx.step hb (by omega),h.br.step hb (by omega),Uc h.lt hb.size,Below.next0 h.bel hb⟩
theorem Qyt (w:World) (x0 x1 x2:Value) (T1 T3:TypeId):Two w ((w.alloc (.cells #[x0,x1,x2] T1)).alloc (.cells #[.bool false,.slice none 0 0,.int .i64 0] T3)) x0 x1 x2:=by
 obtain ⟨h1,h2,h3,h4⟩:=Q8g w x0 x1 x2 (.bool false) (.slice none 0 0) (.int .i64 0) T1 T3;exact ⟨h2,h3,by omega,h4⟩
theorem Qt7 {nx ny:Bool} {ex ey:Int} {vx vy:Nat} (h1:vx≠0) (h2:vy≠0) (c1:Q4y nx vx ex) (c2:Q4y ny vy ey):Q4y (nx != ny) (vx*vy) (ex+ey):=
 ⟨fun h=>by rcases Nat.mul_eq_zero.1 h with h|h <;> contradiction,fun _=>by rw[Nat.mul_mod,c1.2 h1,c2.2 h2]⟩
theorem J0c (n:Bool) (v:Nat) {e f:Int} {k:Nat} (h:e=f+k):dy (sgn n v) e=dy (sgn n (v*2^k)) f:=by
 subst h;rw[Q9i,Q3n]
theorem Qm3 (n:Bool) (x y:Nat) (f:Int):dy (sgn n x) f+dy (sgn n y) f=dy (sgn n (x+y)) f:=by
 rw[Qf6]
 congr 1
 cases n <;> simp[sgn];omega
theorem Q90 {n m:Bool} (h:n≠m) {x y:Nat} (Kc:y<=x) (f:Int):dy (sgn n x) f+dy (sgn m y) f=dy (sgn n (x-y)) f:=by
 rw[Qf6]
 congr 1
 cases n <;> cases m <;> simp_all [sgn] <;> omega
theorem Qdk (nx:Bool) (ex:Int) (ax:OA) (lx cx:Nat) (ls:LN) (w:World) (h:WordsIn w ax lx cx ls) (hi:Q0a nx ex ls):
 Calls Tryz.prog 59 #[.agg #[.bool nx,.int .i64 ex,.slice ax lx cx]] w (Qnv w (Q1p nx ex ls)):=by
 have U7:=(Q5g hi h.low).1;have I3:=h.len;have Kn:Q4y nx (val (2^64) ls) ex:=Qdb hi h.low;have hQ:=fun W=>(Qyt w (.bool nx) (.int .i64 ex) (.slice ax lx cx) 26 87).step (W':=W);obtain ⟨W0,R1⟩:∃W0,(w.alloc (.cells #[.bool nx,.int .i64 ex,.slice ax lx cx] 26)).alloc (.cells #[.bool false,.slice none 0 0,.int .i64 0] 87)=W0:=⟨_,rfl⟩;rw[R1] at hQ;have HQ:=Ub hQ;have HW:=Ub h;have HC:=Ub Kn;clear hQ h Kn hi
 go_enter Tryz.func59,Tryz.ntmps59
 go_wp2_with fail
 refine Q23 (by kernel_rfl) 8 rfl (fun W=>Bw W0 W) (fun _ _ h h'=>Below.next0 h h') (Q56 [.pointer (some ⟨w.heap.size,0,none⟩),.bool nx,.pointer (some ⟨w.heap.size,2,none⟩),.slice ax lx cx,undef,.pointer (some ⟨w.heap.size,1,none⟩),.int .i64 ex,undef] (Q2s [(4,SlD (2*lx) (val (2^64) ls)),(7,fun u w=>Q7b w u (Q1p nx ex ls))])) (Q0j (Q12 (Qpp (SlD.stable _ _) (Q2c _)))) (J00 w (w.heap.size+1) (Q1p nx ex ls)) (by kernel_rfl) (by kernel_rfl) (by kernel_rfl) (by kernel_rfl) (Q04 W0) ?_ ?_ ?_
 ·skip
  repeat' (first|exact Qet|refine Qes ?_ ?_)
  all_goals first
   |(refine Q3i rfl fun A W hW F0 hd hd=>?_
     simp[Qbq,Region.binds,Q2s] at hd;have e1:=Q0d F0 1 (by kernel_rfl) rfl;obtain ⟨u0_0,u0_1,u0_2,_,_,_⟩:=(HQ.out W hW).bx;refine Q1m rfl rfl ?_;simp[go_sem,hd,e1,u0_0,u0_2,u0_1]
     done)
   |skip
  ·intro A W hW F0 A0;have e6:=Q0s A0 3 (by decide) rfl rfl rfl;refine Q02 rfl ?_;refine Q0u (f:=73) (args:= #[.slice ax lx cx]) (by simp[go_sem,e6]) ((Q8v ax lx cx ls W (HW.out.step (HQ.out W hW).bel) (by omega)).mono ?_);rintro e w2 ⟨a',n',c',rfl,Zb,y7,B4⟩;exact ⟨_,rfl,B4,(Q00 rfl).2 ⟨a',n',c',rfl,Zb,y7⟩⟩
  ·intro A W hW F0 A0;have e4:=Q0s A0 1 (by decide) rfl rfl rfl;have e9:=Q0s A0 6 (by decide) rfl rfl rfl;refine Q02 rfl ?_;obtain ⟨a7,l7,c7,KD,YH,Qb⟩:=(Q00 rfl).1 (A0 4 (by decide));have e7:=Q1w KD;refine Q70 (u:=.agg #[.bool nx,.slice a7 l7 c7,.int .i64 ex]) ?_ ((Q00 rfl).2 ⟨nx,a7,l7,c7,ex,_,rfl,Qb,HC.out,rfl⟩);simp[go_sem,e4,e7,e9]
 ·intro A W hW F0 A0;obtain ⟨n8,a8,l8,c8,q8,v8,Z9,ZS,T7,JA⟩:=(Q00 rfl).1 (A0 7 (by decide));have e10:=Q1w Z9;have e2:=Q0d F0 2 (by kernel_rfl) rfl;have M3:=(HQ.out W hW).br;have k0:=M3.c0;have f0:=M3.f0;have f1:=M3.f1;have f2:=M3.f2;have d1:=M3.d1 (.bool n8);have d2:=M3.d2 (.bool n8) (.slice a8 l8 c8);refine Q32 (w':=(((W.setCell ⟨(w.heap.size+1),0,none⟩ (.bool n8)).setCell ⟨(w.heap.size+1),1,none⟩ (.slice a8 l8 c8)).setCell ⟨(w.heap.size+1),2,none⟩ (.int .i64 q8))) (by simp[go_sem,e2,e10,k0,f0,f1,f2,d1,d2]) ?_;exact Q6i (by omega) (HQ.out W hW).bel M3 ZS T7 JA
 intro vs W1 S2;simp only[Q0y,Act.put,Uu,UI,UF];obtain ⟨n9,a9,l9,c9,e9,v9,O7,XG,P8,QV,V3⟩:=S2;obtain ⟨k0,k1,k2⟩:=O7.cc;have HE:=Xh4 XG P8 QV V3;clear O7 XG P8 QV V3
 go_wp2_with fail
 exact ⟨rfl,.agg #[.bool n9,.slice a9 l9 c9,.int .i64 e9],by simp[results,go_sem,k0,k1,k2],_,rfl,⟨n9,a9,l9,c9,e9,v9,rfl,(Xo0 HE),(Xo1 HE),(Xo2 HE)⟩,(Xe3 HE)⟩
theorem J0d (nx:Bool) (ax:OA) (lx cx:Nat) (ex:Int) (vx:Nat) (ny:Bool) (ay:OA) (ly cy:Nat) (ey:Int) (vy:Nat) (w:World) (h1:Q0r w ax lx cx vx) (h2:Q0r w ay ly cy vy) (c1:Q4y nx vx ex) (c2:Q4y ny vy ey) (T:Nat) (b1:bnd T (dy (sgn nx vx) ex)) (b2:bnd T (dy (sgn ny vy) ey)) (hT:T<=500000):
 Calls Tryz.prog 223 #[.agg #[.bool nx,.slice ax lx cx,.int .i64 ex],.agg #[.bool ny,.slice ay ly cy,.int .i64 ey]] w (Qnv w (dy (sgn nx vx) ex*dy (sgn ny vy) ey)):=by
 obtain ⟨g1,g2,g3⟩:=Q8y (k:=31250) c1 b1 (by omega);obtain ⟨g4,g5,g6⟩:=Q8y (k:=31250) c2 b2 (by omega);rw[h1.len] at g1;rw[h2.len] at g4;have hQ:=fun W=>(Qdj w (.bool nx) (.slice ax lx cx) (.int .i64 ex) (.bool ny) (.slice ay ly cy) (.int .i64 ey) 87 87 87).step (W':=W);obtain ⟨W0,R1⟩:∃W0,((w.alloc (.cells #[.bool nx,.slice ax lx cx,.int .i64 ex] 87)).alloc (.cells #[.bool ny,.slice ay ly cy,.int .i64 ey] 87)).alloc (.cells #[.bool false,.slice none 0 0,.int .i64 0] 87)=W0:=⟨_,rfl⟩;rw[R1] at hQ;have HQ:=Ub hQ;have m5:=fun h=>Q0r.none_of h1 h;have Ql:=fun h=>Q0r.none_of h2 h;have Z6:IntKind.i64.wrap (ex+ey)=ex+ey:=by rw[UN];omega
 by_cases hvx:vx=0
 ·obtain rfl:=m5 hvx;have hD:(0:Dyadic)=dy (sgn nx vx) ex*dy (sgn ny vy) ey:=by rw[Qdc nx ex hvx,Dyadic.zero_mul]
  have HD:=Ub hD;clear hD h1 h2 c1 c2 b1 b2 m5 Ql hvx;have xc1:=(HQ.out W0 (Ug _ _)).bx.c1;have rc0:=(HQ.out W0 (Ug _ _)).br.c0;have rc1:=(HQ.out W0 (Ug _ _)).br.c1;have rc2:=(HQ.out W0 (Ug _ _)).br.c2;have rf0:=(HQ.out W0 (Ug _ _)).br.f0;have rf1:=(HQ.out W0 (Ug _ _)).br.f1;have rf2:=(HQ.out W0 (Ug _ _)).br.f2;have rd1:=(HQ.out W0 (Ug _ _)).br.d1 (.bool false);have rd2:=(HQ.out W0 (Ug _ _)).br.d2 (.bool false) (.slice none 0 0)
  go_enter Tryz.func223,Tryz.ntmps223
  go_wp2_with fail
  have hS:=(HQ.out W0 (Ug _ _)).br.store (.bool false) (.slice none 0 0) (.int .i64 0);obtain ⟨k0,k1,k2⟩:=hS.cc;have Q3:=Q03.below (HQ.out W0 (Ug _ _)).bel (show w.heap.size<=w.heap.size+2 by omega) (.bool false) (.slice none 0 0) (.int .i64 0);exact ⟨rfl,.agg #[.bool false,.slice none 0 0,.int .i64 0],by simp[results,go_sem,k0,k1,k2],_,rfl,⟨false,none,0,0,0,0,rfl,Q0r.nil_ _,⟨fun _=>⟨rfl,rfl⟩,fun h=>absurd rfl h⟩,HD.out⟩,Q3⟩
 have U7:((lx:Int)==0)=false:=by
  rw[Uk];intro e;exact hvx (h1.zero_of (by omega))
 by_cases hvy:vy=0
 ·obtain rfl:=Ql hvy;have hD:(0:Dyadic)=dy (sgn nx vx) ex*dy (sgn ny vy) ey:=by rw[Qdc ny ey hvy,Dyadic.mul_zero]
  have HD:=Ub hD;clear hD h1 h2 c1 c2 b1 b2 m5 Ql hvy hvx;have xc1:=(HQ.out W0 (Ug _ _)).bx.c1;have yc1:=(HQ.out W0 (Ug _ _)).by_.c1;have rc0:=(HQ.out W0 (Ug _ _)).br.c0;have rc1:=(HQ.out W0 (Ug _ _)).br.c1;have rc2:=(HQ.out W0 (Ug _ _)).br.c2;have rf0:=(HQ.out W0 (Ug _ _)).br.f0;have rf1:=(HQ.out W0 (Ug _ _)).br.f1;have rf2:=(HQ.out W0 (Ug _ _)).br.f2;have rd1:=(HQ.out W0 (Ug _ _)).br.d1 (.bool false);have rd2:=(HQ.out W0 (Ug _ _)).br.d2 (.bool false) (.slice none 0 0)
  go_enter Tryz.func223,Tryz.ntmps223
  go_wp2_with fail
  have hS:=(HQ.out W0 (Ug _ _)).br.store (.bool false) (.slice none 0 0) (.int .i64 0);obtain ⟨k0,k1,k2⟩:=hS.cc;have Q3:=Q03.below (HQ.out W0 (Ug _ _)).bel (show w.heap.size<=w.heap.size+2 by omega) (.bool false) (.slice none 0 0) (.int .i64 0);exact ⟨rfl,.agg #[.bool false,.slice none 0 0,.int .i64 0],by simp[results,go_sem,k0,k1,k2],_,rfl,⟨false,none,0,0,0,0,rfl,Q0r.nil_ _,⟨fun _=>⟨rfl,rfl⟩,fun h=>absurd rfl h⟩,HD.out⟩,Q3⟩
 have hly:((ly:Int)==0)=false:=by
  rw[Uk];intro e;exact hvy (h2.zero_of (by omega))
 have HW:=Xh2 h1 h2;have J3:=Qt7 hvx hvy c1 c2;have Vx:dy (sgn (nx != ny) (vx*vy)) (ex+ey)=dy (sgn nx vx) ex*dy (sgn ny vy) ey:=by rw[Qxj,Qrs]
 have HC:=Xh2 J3 Vx;have xc1:=(HQ.out W0 (Ug _ _)).bx.c1;have yc1:=(HQ.out W0 (Ug _ _)).by_.c1;clear h1 h2 c1 c2 b1 b2 m5 Ql hvy hvx J3 Vx
 go_enter Tryz.func223,Tryz.ntmps223
 go_wp2_with fail
 refine Q23 (by kernel_rfl) 16 rfl (fun W=>Bw W0 W) (fun _ _ h h'=>Below.next0 h h') (Q56 [.pointer (some ⟨w.heap.size,0,none⟩),.bool nx,.pointer (some ⟨(w.heap.size+1),0,none⟩),.bool ny,.bool (nx != ny),.pointer (some ⟨w.heap.size,1,none⟩),.slice ax lx cx,.pointer (some ⟨(w.heap.size+1),1,none⟩),.slice ay ly cy,undef,.pointer (some ⟨w.heap.size,2,none⟩),.int .i64 ex,.pointer (some ⟨(w.heap.size+1),2,none⟩),.int .i64 ey,.int .i64 (ex+ey),undef] (Q2s [(9,SlD 9223372036854775807 (vx*vy)),(15,fun u w=>Q7b w u (dy (sgn nx vx) ex*dy (sgn ny vy) ey))])) (Q0j (Q12 (Qpp (SlD.stable _ _) (Q2c _)))) (J00 w (w.heap.size+2) (dy (sgn nx vx) ex*dy (sgn ny vy) ey)) (by kernel_rfl) (by kernel_rfl) (by kernel_rfl) (by kernel_rfl) (Q04 W0) ?_ ?_ ?_
 ·skip
  repeat' (first|exact Qet|refine Qes ?_ ?_)
  all_goals first
   |(refine Q3i rfl fun A W hW F0 hd hd=>?_
     simp[Qbq,Region.binds,Q2s] at hd;have e2:=Q0d F0 2 (by kernel_rfl) rfl;have e3:=Q0d F0 3 (by kernel_rfl) rfl;obtain ⟨u0_0,u0_1,u0_2,_,_,_⟩:=(HQ.out W hW).bx;obtain ⟨u1_0,u1_1,u1_2,_,_,_⟩:=(HQ.out W hW).by_;refine Q1m rfl rfl ?_;simp[go_sem,hd,e2,e3,u0_0,u1_0,u0_1,u1_1,u0_2,u1_2,Z6]
     done)
   |skip
  ·intro A W hW F0 A0;have e17:=Q0s A0 1 (by decide) rfl rfl rfl;have e19:=Q0s A0 3 (by decide) rfl rfl rfl;refine Q02 rfl ?_;refine Q1m rfl rfl ?_;cases nx <;> cases ny <;> simp[go_sem,e17,e19]
  ·intro A W hW F0 A0;have e22:=Q0s A0 6 (by decide) rfl rfl rfl;have e24:=Q0s A0 8 (by decide) rfl rfl rfl;refine Q02 rfl ?_;refine Q0u (f:=139) (args:= #[.slice ax lx cx,.slice ay ly cy]) (by simp[go_sem,e22,e24]) ((Qoy ax lx cx vx ay ly cy vy W ((Xo0 HW).step (HQ.out W hW).bel) ((Xe1 HW).step (HQ.out W hW).bel) (by omega) (by omega)).mono ?_);rintro e w2 ⟨a',n',rfl,y7,B4⟩;exact ⟨_,rfl,B4,(Q00 rfl).2 ⟨a',n',n',rfl,Qw0 y7,y7⟩⟩
  ·intro A W hW F0 A0;have e20:=Q0s A0 4 (by decide) rfl rfl rfl;have e30:=Q0s A0 14 (by decide) rfl rfl rfl;refine Q02 rfl ?_;obtain ⟨a7,l7,c7,KD,YH,Qb⟩:=(Q00 rfl).1 (A0 9 (by decide));have e25:=Q1w KD;refine Q70 (u:=.agg #[.bool (nx != ny),.slice a7 l7 c7,.int .i64 (ex+ey)]) ?_ ((Q00 rfl).2 ⟨_,a7,l7,c7,_,_,rfl,Qb,(Xo0 HC),(Xe1 HC)⟩);simp[go_sem,e20,e25,e30]
 ·intro A W hW F0 A0;obtain ⟨n8,a8,l8,c8,q8,v8,Z9,ZS,T7,JA⟩:=(Q00 rfl).1 (A0 15 (by decide));have e31:=Q1w Z9;have e4:=Q0d F0 4 (by kernel_rfl) rfl;have M3:=(HQ.out W hW).br;have k0:=M3.c0;have f0:=M3.f0;have f1:=M3.f1;have f2:=M3.f2;have d1:=M3.d1 (.bool n8);have d2:=M3.d2 (.bool n8) (.slice a8 l8 c8);refine Q32 (w':=(((W.setCell ⟨(w.heap.size+2),0,none⟩ (.bool n8)).setCell ⟨(w.heap.size+2),1,none⟩ (.slice a8 l8 c8)).setCell ⟨(w.heap.size+2),2,none⟩ (.int .i64 q8))) (by simp[go_sem,e4,e31,k0,f0,f1,f2,d1,d2]) ?_;exact Q6i (by omega) (HQ.out W hW).bel M3 ZS T7 JA
 intro vs W1 S2;simp only[Q0y,Act.put,Uu,UI,UF];obtain ⟨n9,a9,l9,c9,e9,v9,O7,XG,P8,QV,V3⟩:=S2;obtain ⟨k0,k1,k2⟩:=O7.cc;have HE:=Xh4 XG P8 QV V3;clear O7 XG P8 QV V3
 go_wp2_with fail
 exact ⟨rfl,.agg #[.bool n9,.slice a9 l9 c9,.int .i64 e9],by simp[results,go_sem,k0,k1,k2],_,rfl,⟨n9,a9,l9,c9,e9,v9,rfl,(Xo0 HE),(Xo1 HE),(Xo2 HE)⟩,(Xe3 HE)⟩
theorem Qdl (nx:Bool) (ax:OA) (lx cx:Nat) (ex:Int) (vx:Nat) (ny:Bool) (ay:OA) (ly cy:Nat) (ey:Int) (vy:Nat) (w:World) (h1:Q0r w ax lx cx vx) (h2:Q0r w ay ly cy vy) (c1:Q4y nx vx ex) (c2:Q4y ny vy ey) (T:Nat) (b1:bnd T (dy (sgn nx vx) ex)) (b2:bnd T (dy (sgn ny vy) ey)) (hT:T<=500000):
 Calls Tryz.prog 151 #[.agg #[.bool nx,.slice ax lx cx,.int .i64 ex],.agg #[.bool ny,.slice ay ly cy,.int .i64 ey]] w (Qnv w (dy (sgn nx vx) ex+dy (sgn ny vy) ey)):=by
 obtain ⟨g1,g2,g3⟩:=Q8y (k:=31250) c1 b1 (by omega);obtain ⟨g4,g5,g6⟩:=Q8y (k:=31250) c2 b2 (by omega);rw[h1.len] at g1;rw[h2.len] at g4;have hQ:=fun W=>(Qdj w (.bool nx) (.slice ax lx cx) (.int .i64 ex) (.bool ny) (.slice ay ly cy) (.int .i64 ey) 87 87 87).step (W':=W);obtain ⟨W0,R1⟩:∃W0,((w.alloc (.cells #[.bool nx,.slice ax lx cx,.int .i64 ex] 87)).alloc (.cells #[.bool ny,.slice ay ly cy,.int .i64 ey] 87)).alloc (.cells #[.bool false,.slice none 0 0,.int .i64 0] 87)=W0:=⟨_,rfl⟩;rw[R1] at hQ;have HQ:=Ub hQ;have m5:=fun h=>Q0r.none_of h1 h;have Ql:=fun h=>Q0r.none_of h2 h
 by_cases hvx:vx=0
 ·obtain rfl:=m5 hvx;have hD:dy (sgn ny vy) ey=dy (sgn nx vx) ex+dy (sgn ny vy) ey:=by rw[Qdc nx ex hvx,Dyadic.zero_add]
  have HD:=Xh3 hD c2 h2;clear hD h1 h2 c1 c2 b1 b2 m5 Ql hvx;have xc1:=(HQ.out W0 (Ug _ _)).bx.c1;have yc0:=(HQ.out W0 (Ug _ _)).by_.c0;have yc1:=(HQ.out W0 (Ug _ _)).by_.c1;have yc2:=(HQ.out W0 (Ug _ _)).by_.c2;have rc0:=(HQ.out W0 (Ug _ _)).br.c0;have rc1:=(HQ.out W0 (Ug _ _)).br.c1;have rc2:=(HQ.out W0 (Ug _ _)).br.c2;have rf0:=(HQ.out W0 (Ug _ _)).br.f0;have rf1:=(HQ.out W0 (Ug _ _)).br.f1;have rf2:=(HQ.out W0 (Ug _ _)).br.f2;have rd1:=(HQ.out W0 (Ug _ _)).br.d1 (.bool ny);have rd2:=(HQ.out W0 (Ug _ _)).br.d2 (.bool ny) (.slice ay ly cy)
  go_enter Tryz.func151,Tryz.ntmps151
  go_wp2_with fail
  have hS:=(HQ.out W0 (Ug _ _)).br.store (.bool ny) (.slice ay ly cy) (.int .i64 ey);obtain ⟨k0,k1,k2⟩:=hS.cc;have Q3:=Q03.below (HQ.out W0 (Ug _ _)).bel (show w.heap.size<=w.heap.size+2 by omega) (.bool ny) (.slice ay ly cy) (.int .i64 ey);exact ⟨rfl,.agg #[.bool ny,.slice ay ly cy,.int .i64 ey],by simp[results,go_sem,k0,k1,k2],_,rfl,⟨_,_,_,_,_,_,rfl,((Xe2 HD).step (HQ.out W0 (Ug _ _)).bel).box (HQ.out W0 (Ug _ _)).br _ _ _,(Xo1 HD),(Xo0 HD)⟩,Q3⟩
 have U7:((lx:Int)==0)=false:=by
  rw[Uk];intro e;exact hvx (h1.zero_of (by omega))
 by_cases hvy:vy=0
 ·obtain rfl:=Ql hvy;have hD:dy (sgn nx vx) ex=dy (sgn nx vx) ex+dy (sgn ny vy) ey:=by rw[Qdc ny ey hvy,Xbu]
  have HD:=Xh3 hD c1 h1;clear hD h1 h2 c1 c2 b1 b2 m5 Ql hvy hvx;have xc0:=(HQ.out W0 (Ug _ _)).bx.c0;have xc1:=(HQ.out W0 (Ug _ _)).bx.c1;have xc2:=(HQ.out W0 (Ug _ _)).bx.c2;have yc1:=(HQ.out W0 (Ug _ _)).by_.c1;have rc0:=(HQ.out W0 (Ug _ _)).br.c0;have rc1:=(HQ.out W0 (Ug _ _)).br.c1;have rc2:=(HQ.out W0 (Ug _ _)).br.c2;have rf0:=(HQ.out W0 (Ug _ _)).br.f0;have rf1:=(HQ.out W0 (Ug _ _)).br.f1;have rf2:=(HQ.out W0 (Ug _ _)).br.f2;have rd1:=(HQ.out W0 (Ug _ _)).br.d1 (.bool nx);have rd2:=(HQ.out W0 (Ug _ _)).br.d2 (.bool nx) (.slice ax lx cx)
  go_enter Tryz.func151,Tryz.ntmps151
  go_wp2_with fail
  have hS:=(HQ.out W0 (Ug _ _)).br.store (.bool nx) (.slice ax lx cx) (.int .i64 ex);obtain ⟨k0,k1,k2⟩:=hS.cc;have Q3:=Q03.below (HQ.out W0 (Ug _ _)).bel (show w.heap.size<=w.heap.size+2 by omega) (.bool nx) (.slice ax lx cx) (.int .i64 ex);exact ⟨rfl,.agg #[.bool nx,.slice ax lx cx,.int .i64 ex],by simp[results,go_sem,k0,k1,k2],_,rfl,⟨_,_,_,_,_,_,rfl,((Xe2 HD).step (HQ.out W0 (Ug _ _)).bel).box (HQ.out W0 (Ug _ _)).br _ _ _,(Xo1 HD),(Xo0 HD)⟩,Q3⟩
 have hly:((ly:Int)==0)=false:=by
  rw[Uk];intro e;exact hvy (h2.zero_of (by omega))
 obtain ⟨ee,hee⟩:∃ee,min ex ey=ee:=⟨_,rfl⟩;obtain ⟨p,hp⟩:∃p:Nat,ex-ee=(p:Int):=⟨(ex-ee).toNat,by omega⟩;obtain ⟨q,hq⟩:∃q:Nat,ey-ee=(q:Int):=⟨(ey-ee).toNat,by omega⟩;have JF:p<=1000000:=by omega
 have F6:q<=1000000:=by omega
 have hee1: -1000000<=ee:=by omega
 have hee2:ee<=1000000:=by omega
 have hDx:=J0c nx vx (e:=ex) (f:=ee) (k:=p) (by omega);have hDy:=J0c ny vy (e:=ey) (f:=ee) (k:=q) (by omega);obtain ⟨X,hX⟩:∃X,vx*2^p=X:=⟨_,rfl⟩;obtain ⟨Y,hY⟩:∃Y,vy*2^q=Y:=⟨_,rfl⟩;rw[hX] at hDx;rw[hY] at hDy;have G4:IntKind.i64.wrap (p:Int)=(p:Int):=by rw[UN];omega
 have D6:IntKind.i64.wrap (q:Int)=(q:Int):=by rw[UN];omega
 have HW:=Xh2 h1 h2;have HV:=Xh2 hX hY;have xc:=(HQ.out W0 (Ug _ _)).bx;have yc:=(HQ.out W0 (Ug _ _)).by_;have xc1:=xc.c1;have yc1:=yc.c1;have xc2:=xc.c2;have yc2:=yc.c2;rw[hDx,hDy];obtain ⟨D,hD⟩:∃D,dy (sgn nx X) ee+dy (sgn ny Y) ee=D:=⟨_,rfl⟩;rw[hD];have HD:=Ub hD;clear h1 h2 c1 c2 b1 b2 m5 Ql hvy hvx hX hY hDx hDy hD xc yc g2 g3 g5 g6
 go_enter Tryz.func151,Tryz.ntmps151
 go_upto_region 6 with fail
 refine Q0l (E:=Qeo) (fun _=>Ug _ _) (by kernel_rfl) (fun W=>Bw W0 W) (fun _ _ h h'=>Below.next0 h h') (Q56 [.pointer (some ⟨w.heap.size,1,none⟩),.slice ax lx cx,.pointer (some ⟨w.heap.size,2,none⟩),.int .i64 ex,.int .i64 ee,.int .i64 (p:Int),undef,.pointer (some ⟨(w.heap.size+1),1,none⟩),.slice ay ly cy,.pointer (some ⟨(w.heap.size+1),2,none⟩),.int .i64 ey,.int .i64 ee,.int .i64 (q:Int),undef,undef,undef] (Q2s [(6,SlD (lx+p / 32+1) X),(14,SlD (lx+p / 32+1) X),(13,SlD (ly+q / 32+1) Y),(15,SlD (ly+q / 32+1) Y)])) (Q0j (Q12 (Qyp (SlD.stable _ _) (SlD.stable _ _) (SlD.stable _ _) (SlD.stable _ _)))) (Q3l (by kernel_rfl)) (by kernel_rfl) (Q04 W0) ?_ ?_
 ·skip
  repeat' (first|exact Qet|refine Qes ?_ ?_)
  all_goals first
   |(refine Q3i rfl fun A W hW F0 hd hd=>?_
     simp[Qbq,Region.binds,Q2s] at hd;have e2:=Q0d F0 2 (by kernel_rfl) rfl;have e5:=Q0d F0 5 (by kernel_rfl) rfl;have e3:=Q0d F0 3 (by kernel_rfl) rfl;obtain ⟨_,u0_1,u0_2,_,_,_⟩:=(HQ.out W hW).bx;obtain ⟨_,u1_1,u1_2,_,_,_⟩:=(HQ.out W hW).by_;refine Q1m rfl rfl ?_;simp[go_sem,hd,e2,e5,e3,u0_1,u0_2,hp,G4,u1_1,u1_2,hq,D6]
     done)
   |skip
  ·intro A W hW F0 A0;have e24:=Q0s A0 1 (by decide) rfl rfl rfl;have e28:=Q0s A0 5 (by decide) rfl rfl rfl;refine Q02 rfl ?_;refine Q0u (f:=206) (args:= #[.slice ax lx cx,.int .i64 (p:Int)]) (by simp[go_sem,e24,e28]) ((Qd7 ax lx cx vx p W ((Xo0 HW).step (HQ.out W hW).bel) (by omega) (by omega)).mono ?_);rintro e w2 ⟨a',n',rfl,Zb,y7,B4⟩;rw[(Xo0 HV)] at y7;exact ⟨_,rfl,B4,(Q00 rfl).2 ⟨a',n',n',rfl,Zb,y7⟩⟩
  ·intro A W hW F0 A0;have e31:=Q0s A0 8 (by decide) rfl rfl rfl;have e35:=Q0s A0 12 (by decide) rfl rfl rfl;refine Q02 rfl ?_;refine Q0u (f:=206) (args:= #[.slice ay ly cy,.int .i64 (q:Int)]) (by simp[go_sem,e31,e35]) ((Qd7 ay ly cy vy q W ((Xe1 HW).step (HQ.out W hW).bel) (by omega) (by omega)).mono ?_);rintro e w2 ⟨a',n',rfl,Zb,y7,B4⟩;rw[(Xe1 HV)] at y7;exact ⟨_,rfl,B4,(Q00 rfl).2 ⟨a',n',n',rfl,Zb,y7⟩⟩
  ·intro A W hW F0 A0;refine Q02 rfl ?_;have e29:=(Q00 rfl).1 (A0 6 (by decide));refine Q70 (u:=A.eval (.tmp 29)) ?_ ((Q00 rfl).2 e29);simp[go_sem,Act.eval]
  ·intro A W hW F0 A0;refine Q02 rfl ?_;have e36:=(Q00 rfl).1 (A0 13 (by decide));refine Q70 (u:=A.eval (.tmp 36)) ?_ ((Q00 rfl).2 e36);simp[go_sem,Act.eval]
 intro vs W1 O2 D5;obtain ⟨a6,n6,c6,hv6,hn6,hd6⟩:=(Q00 rfl).1 (D5 14 (by decide));obtain ⟨a7,n7,c7,KD,hn7,Qb⟩:=(Q00 rfl).1 (D5 15 (by decide));simp only[Q0y,Act.put,Uu,UI,UF];rw[hv6,KD];have hl6:=hd6.len;have YH:=Qb.len;have hn6':n6<=62501:=by omega
 have hn7':n7<=62501:=by omega
 have N5:(dig (2^32) (X+Y)).length<=100000:=Un (Qly (k:=62501) (by omega) (by omega)) (by decide);have C3:(dig (2^32) (X-Y)).length<=100000:=Un (Q1n (by decide) (Nat.sub_le X Y)) (by omega);have V2:(dig (2^32) (Y-X)).length<=100000:=Un (Q1n (by decide) (Nat.sub_le Y X)) (by omega);have HQ1:=Ub (fun W (h:Bw W1 W)=>(HQ.out W1 O2).step h);have VE:=Xh5 hd6 Qb N5 C3 V2;have xc0:=(HQ.out W1 O2).bx.c0;have yc0:=(HQ.out W1 O2).by_.c0;clear hd6 Qb N5 C3 V2 hv6 KD hn6 hn7 D5 hl6 YH hQ R1 xc1 yc1 xc2 yc2 O2 HQ U7 hly hee hp hq JF F6 G4 D6 g1 g4
 by_cases x5:nx=ny
 ·subst x5;have KL:(nx==nx)=true:=by simp
  have hs:dy (sgn nx (X+Y)) ee=D:=by rw[<-HD.out,Qm3]
  have HS:=Ub hs;clear hs
  go_upto_region 8 with fail
  refine Q23 (by kernel_rfl) 7 rfl (fun W=>Bw W1 W) (fun _ _ h h'=>Below.next0 h h') (Q56 [.pointer (some ⟨w.heap.size,0,none⟩),.bool nx,.slice a6 n6 c6,.slice a7 n7 c7,undef,.int .i64 ee,undef] (Q2s [(4,SlD 100000 (X+Y)),(6,fun u w=>Q7b w u D)])) (Q0j (Q12 (Qpp (SlD.stable _ _) (Q2c _)))) (J00 w (w.heap.size+2) D) (by kernel_rfl) (by kernel_rfl) (by kernel_rfl) (by kernel_rfl) (Q04 W1) ?_ ?_ ?_
  ·skip
   repeat' (first|exact Qet|refine Qes ?_ ?_)
   all_goals first
    |(refine Q3i rfl fun A W hW F0 hd hd=>?_
      simp[Qbq,Region.binds,Q2s] at hd;have e2:=Q0d F0 2 (by kernel_rfl) rfl;have e6:=Q0d F0 6 (by kernel_rfl) rfl;have e7:=Q0d F0 7 (by kernel_rfl) rfl;have e5:=Q0d F0 5 (by kernel_rfl) rfl;obtain ⟨u0_0,_,_,_,_,_⟩:=(HQ1.out W hW).bx;refine Q1m rfl rfl ?_;simp[go_sem,hd,e2,e6,e7,e5,u0_0]
      done)
    |skip
   ·intro A W hW F0 A0;have e44:=Q0s A0 2 (by decide) rfl rfl rfl;have e45:=Q0s A0 3 (by decide) rfl rfl rfl;refine Q02 rfl ?_;refine Q0u (f:=138) (args:= #[.slice a6 n6 c6,.slice a7 n7 c7]) (by simp[go_sem,e44,e45]) ((Qox a6 n6 c6 X a7 n7 c7 Y W ((Xo0 VE).step hW) ((Xo1 VE).step hW) (by omega) (by omega)).mono ?_);rintro e w2' ⟨a',n',rfl,y7,B4⟩;exact ⟨_,rfl,B4,(Q00 rfl).2 ⟨a',n',n',rfl,by rw[<-y7.len];exact (Xo2 VE),y7⟩⟩
   ·intro A W hW F0 A0;have e43:=Q0s A0 1 (by decide) rfl rfl rfl;have e47:=Q0s A0 5 (by decide) rfl rfl rfl;obtain ⟨a5,l5,c5,Wr,hl5,hd5⟩:=(Q00 rfl).1 (A0 4 (by decide));have e46:=Q1w Wr;refine Q02 rfl ?_;refine Q0u (f:=140) (args:= #[.bool nx,.slice a5 l5 c5,.int .i64 ee]) (by simp[go_sem,e43,e47,e46]) ((Q7z nx a5 l5 c5 _ ee W hd5 (by omega) (by omega) (by omega)).mono ?_);rintro e w2' ⟨n',a',l',c',v',e',rfl,Qf,y7,_,_,_,B4⟩;obtain ⟨D7,Jl⟩:=Qcn Qf;exact ⟨_,rfl,B4,(Q00 rfl).2 ⟨_,_,_,_,_,_,rfl,y7,D7,Jl.trans HS.out⟩⟩
  ·intro A W hW F0 A0;obtain ⟨n8,a8,l8,c8,q8,v8,Z9,ZS,T7,JA⟩:=(Q00 rfl).1 (A0 6 (by decide));have e48:=Q1w Z9;have e4:=Q0d F0 4 (by kernel_rfl) rfl;have M3:=(HQ1.out W hW).br;have k0:=M3.c0;have f0:=M3.f0;have f1:=M3.f1;have f2:=M3.f2;have d1:=M3.d1 (.bool n8);have d2:=M3.d2 (.bool n8) (.slice a8 l8 c8);refine Q32 (w':=(((W.setCell ⟨(w.heap.size+2),0,none⟩ (.bool n8)).setCell ⟨(w.heap.size+2),1,none⟩ (.slice a8 l8 c8)).setCell ⟨(w.heap.size+2),2,none⟩ (.int .i64 q8))) (by simp[go_sem,e4,e48,k0,f0,f1,f2,d1,d2]) ?_;exact Q6i (by omega) (HQ1.out W hW).bel M3 ZS T7 JA
  intro vs W3 S2;simp only[Q0y,Act.put,Uu,UI,UF];clear KL;obtain ⟨n9,a9,l9,c9,e9,v9,O7,XG,P8,QV,V3⟩:=S2;obtain ⟨k0,k1,k2⟩:=O7.cc;have HE:=Xh4 XG P8 QV V3;clear O7 XG P8 QV V3
  go_wp2_with fail
  exact ⟨rfl,.agg #[.bool n9,.slice a9 l9 c9,.int .i64 e9],by simp[results,go_sem,k0,k1,k2],_,rfl,⟨n9,a9,l9,c9,e9,v9,rfl,(Xo0 HE),(Xo1 HE),(Xo2 HE)⟩,(Xe3 HE)⟩
 ·have KL:(nx==ny)=false:=by cases nx <;> cases ny <;> simp_all
  have J3:=Qpo a6 n6 c6 X a7 n7 c7 Y W1 (Xo0 VE) (Xo1 VE) (by omega)
  by_cases hgt:Y<X
  ·have JS:Qpn X Y=1:=(by unfold Qpn;rw[Up (by omega),Us hgt]);have hs:dy (sgn nx (X-Y)) ee=D:=(by rw[<-HD.out,Q90 x5 (Xa1 hgt)]);rw[JS] at J3;have HS:=Xh3 hs J3 hgt;clear hs J3 JS x5 hgt
   go_upto_block 0 with (go_at_call_of 207 (Value.slice a6 n6 c6);refine (Xo1 HS).mono ?_;rintro r w2 ⟨rfl,D0⟩;have H2:=Ub D0;clear D0)
   have XH:=Ub (fun W (h:Bw w2 W)=>(HQ1.out w2 H2.out).step h)
   go_upto_region 11 with fail
   refine Q23 (by kernel_rfl) 7 rfl (fun W=>Bw w2 W) (fun _ _ h h'=>Below.next0 h h') (Q56 [.pointer (some ⟨w.heap.size,0,none⟩),.bool nx,.slice a6 n6 c6,.slice a7 n7 c7,undef,.int .i64 ee,undef] (Q2s [(4,SlD 100000 (X-Y)),(6,fun u w=>Q7b w u D)])) (Q0j (Q12 (Qpp (SlD.stable _ _) (Q2c _)))) (J00 w (w.heap.size+2) D) (by kernel_rfl) (by kernel_rfl) (by kernel_rfl) (by kernel_rfl) (Q04 w2) ?_ ?_ ?_
   ·skip
    repeat' (first|exact Qet|refine Qes ?_ ?_)
    all_goals first
     |(refine Q3i rfl fun A W hW F0 hd hd=>?_
       simp[Qbq,Region.binds,Q2s] at hd;have e2:=Q0d F0 2 (by kernel_rfl) rfl;have e6:=Q0d F0 6 (by kernel_rfl) rfl;have e7:=Q0d F0 7 (by kernel_rfl) rfl;have e5:=Q0d F0 5 (by kernel_rfl) rfl;obtain ⟨u0_0,_,_,_,_,_⟩:=(XH.out W hW).bx;refine Q1m rfl rfl ?_;simp[go_sem,hd,e2,e6,e7,e5,u0_0]
       done)
     |skip
    ·intro A W hW F0 A0;have e56:=Q0s A0 2 (by decide) rfl rfl rfl;have e57:=Q0s A0 3 (by decide) rfl rfl rfl;refine Q02 rfl ?_;refine Q0u (f:=208) (args:= #[.slice a6 n6 c6,.slice a7 n7 c7]) (by simp[go_sem,e56,e57]) ((Qfo a6 n6 c6 X a7 n7 c7 Y W ((Xo0 VE).step (Below.next0 H2.out hW)) ((Xo1 VE).step (Below.next0 H2.out hW)) (by omega) (Xa1 (Xe2 HS))).mono ?_);rintro e w2' ⟨a',n',rfl,y7,B4⟩;exact ⟨_,rfl,B4,(Q00 rfl).2 ⟨a',n',n',rfl,by rw[<-y7.len];exact (Xo3 VE),y7⟩⟩
    ·intro A W hW F0 A0;have e55:=Q0s A0 1 (by decide) rfl rfl rfl;have e59:=Q0s A0 5 (by decide) rfl rfl rfl;obtain ⟨a5,l5,c5,Wr,hl5,hd5⟩:=(Q00 rfl).1 (A0 4 (by decide));have e58:=Q1w Wr;refine Q02 rfl ?_;refine Q0u (f:=140) (args:= #[.bool nx,.slice a5 l5 c5,.int .i64 ee]) (by simp[go_sem,e55,e59,e58]) ((Q7z nx a5 l5 c5 _ ee W hd5 (by omega) (by omega) (by omega)).mono ?_);rintro e w2' ⟨n',a',l',c',v',e',rfl,Qf,y7,_,_,_,B4⟩;obtain ⟨D7,Jl⟩:=Qcn Qf;exact ⟨_,rfl,B4,(Q00 rfl).2 ⟨_,_,_,_,_,_,rfl,y7,D7,Jl.trans (Xo0 HS)⟩⟩
   ·intro A W hW F0 A0;obtain ⟨n8,a8,l8,c8,q8,v8,Z9,ZS,T7,JA⟩:=(Q00 rfl).1 (A0 6 (by decide));have e60:=Q1w Z9;have e4:=Q0d F0 4 (by kernel_rfl) rfl;have M3:=(XH.out W hW).br;have k0:=M3.c0;have f0:=M3.f0;have f1:=M3.f1;have f2:=M3.f2;have d1:=M3.d1 (.bool n8);have d2:=M3.d2 (.bool n8) (.slice a8 l8 c8);refine Q32 (w':=(((W.setCell ⟨(w.heap.size+2),0,none⟩ (.bool n8)).setCell ⟨(w.heap.size+2),1,none⟩ (.slice a8 l8 c8)).setCell ⟨(w.heap.size+2),2,none⟩ (.int .i64 q8))) (by simp[go_sem,e4,e60,k0,f0,f1,f2,d1,d2]) ?_;exact Q6i (by omega) (XH.out W hW).bel M3 ZS T7 JA
   intro vs W3 S2;simp only[Q0y,Act.put,Uu,UI,UF];obtain ⟨n9,a9,l9,c9,e9,v9,O7,XG,P8,QV,V3⟩:=S2;obtain ⟨k0,k1,k2⟩:=O7.cc;have HE:=Xh4 XG P8 QV V3;clear O7 XG P8 QV V3
   go_wp2_with fail
   exact ⟨rfl,.agg #[.bool n9,.slice a9 l9 c9,.int .i64 e9],by simp[results,go_sem,k0,k1,k2],_,rfl,⟨n9,a9,l9,c9,e9,v9,rfl,(Xo0 HE),(Xo1 HE),(Xo2 HE)⟩,(Xe3 HE)⟩
  ·by_cases E0:X<Y
   ·have JS:Qpn X Y= -1:=(by unfold Qpn;rw[Us E0]);have hs:dy (sgn ny (Y-X)) ee=D:=(by rw[<-HD.out,<-Q90 (Xbb x5) (Xa1 E0)];exact Dyadic.add_comm _ _);rw[JS] at J3;have HS:=Xh3 hs J3 E0;clear hs J3 JS x5 hgt E0
    go_upto_block 0 with (go_at_call_of 207 (Value.slice a6 n6 c6);refine (Xo1 HS).mono ?_;rintro r w2 ⟨rfl,D0⟩;have H2:=Ub D0;clear D0)
    have XH:=Ub (fun W (h:Bw w2 W)=>(HQ1.out w2 H2.out).step h)
    go_upto_region 13 with fail
    refine Q23 (by kernel_rfl) 7 rfl (fun W=>Bw w2 W) (fun _ _ h h'=>Below.next0 h h') (Q56 [.pointer (some ⟨(w.heap.size+1),0,none⟩),.bool ny,.slice a7 n7 c7,.slice a6 n6 c6,undef,.int .i64 ee,undef] (Q2s [(4,SlD 100000 (Y-X)),(6,fun u w=>Q7b w u D)])) (Q0j (Q12 (Qpp (SlD.stable _ _) (Q2c _)))) (J00 w (w.heap.size+2) D) (by kernel_rfl) (by kernel_rfl) (by kernel_rfl) (by kernel_rfl) (Q04 w2) ?_ ?_ ?_
    ·skip
     repeat' (first|exact Qet|refine Qes ?_ ?_)
     all_goals first
      |(refine Q3i rfl fun A W hW F0 hd hd=>?_
        simp[Qbq,Region.binds,Q2s] at hd;have e3:=Q0d F0 3 (by kernel_rfl) rfl;have e7:=Q0d F0 7 (by kernel_rfl) rfl;have e6:=Q0d F0 6 (by kernel_rfl) rfl;have e5:=Q0d F0 5 (by kernel_rfl) rfl;obtain ⟨u0_0,_,_,_,_,_⟩:=(XH.out W hW).by_;refine Q1m rfl rfl ?_;simp[go_sem,hd,e3,e7,e6,e5,u0_0]
        done)
      |skip
     ·intro A W hW F0 A0;have e65:=Q0s A0 2 (by decide) rfl rfl rfl;have e66:=Q0s A0 3 (by decide) rfl rfl rfl;refine Q02 rfl ?_;refine Q0u (f:=208) (args:= #[.slice a7 n7 c7,.slice a6 n6 c6]) (by simp[go_sem,e65,e66]) ((Qfo a7 n7 c7 Y a6 n6 c6 X W ((Xo1 VE).step (Below.next0 H2.out hW)) ((Xo0 VE).step (Below.next0 H2.out hW)) (by omega) (Xa1 (Xe2 HS))).mono ?_);rintro e w2' ⟨a',n',rfl,y7,B4⟩;exact ⟨_,rfl,B4,(Q00 rfl).2 ⟨a',n',n',rfl,by rw[<-y7.len];exact (Xe4 VE),y7⟩⟩
     ·intro A W hW F0 A0;have e64:=Q0s A0 1 (by decide) rfl rfl rfl;have e68:=Q0s A0 5 (by decide) rfl rfl rfl;obtain ⟨a5,l5,c5,Wr,hl5,hd5⟩:=(Q00 rfl).1 (A0 4 (by decide));have e67:=Q1w Wr;refine Q02 rfl ?_;refine Q0u (f:=140) (args:= #[.bool ny,.slice a5 l5 c5,.int .i64 ee]) (by simp[go_sem,e64,e68,e67]) ((Q7z ny a5 l5 c5 _ ee W hd5 (by omega) (by omega) (by omega)).mono ?_);rintro e w2' ⟨n',a',l',c',v',e',rfl,Qf,y7,_,_,_,B4⟩;obtain ⟨D7,Jl⟩:=Qcn Qf;exact ⟨_,rfl,B4,(Q00 rfl).2 ⟨_,_,_,_,_,_,rfl,y7,D7,Jl.trans (Xo0 HS)⟩⟩
    ·intro A W hW F0 A0;obtain ⟨n8,a8,l8,c8,q8,v8,Z9,ZS,T7,JA⟩:=(Q00 rfl).1 (A0 6 (by decide));have e69:=Q1w Z9;have e4:=Q0d F0 4 (by kernel_rfl) rfl;have M3:=(XH.out W hW).br;have k0:=M3.c0;have f0:=M3.f0;have f1:=M3.f1;have f2:=M3.f2;have d1:=M3.d1 (.bool n8);have d2:=M3.d2 (.bool n8) (.slice a8 l8 c8);refine Q32 (w':=(((W.setCell ⟨(w.heap.size+2),0,none⟩ (.bool n8)).setCell ⟨(w.heap.size+2),1,none⟩ (.slice a8 l8 c8)).setCell ⟨(w.heap.size+2),2,none⟩ (.int .i64 q8))) (by simp[go_sem,e4,e69,k0,f0,f1,f2,d1,d2]) ?_;exact Q6i (by omega) (XH.out W hW).bel M3 ZS T7 JA
    intro vs W3 S2;simp only[Q0y,Act.put,Uu,UI,UF];obtain ⟨n9,a9,l9,c9,e9,v9,O7,XG,P8,QV,V3⟩:=S2;obtain ⟨k0,k1,k2⟩:=O7.cc;have HE:=Xh4 XG P8 QV V3;clear O7 XG P8 QV V3
    go_wp2_with fail
    exact ⟨rfl,.agg #[.bool n9,.slice a9 l9 c9,.int .i64 e9],by simp[results,go_sem,k0,k1,k2],_,rfl,⟨n9,a9,l9,c9,e9,v9,rfl,(Xo0 HE),(Xo1 HE),(Xo2 HE)⟩,(Xe3 HE)⟩
   ·have JS:Qpn X Y=0:=(by unfold Qpn;rw[Up E0,Up hgt]);have hXY:X=Y:=(by omega);have hs:(0:Dyadic)=D:=by
     rw[<-HD.out,Q90 x5 (by omega),hXY,Nat.sub_self,Q2u];exact (Qah ee).symm
    rw[JS] at J3;have HS:=Xh2 hs J3;clear hs J3 JS x5 hgt E0 hXY;have hrb:=fun W2 (hb:Bw W1 W2)=>HQ1.out W2 hb;have HRB:=Ub hrb;clear hrb
    go_wp2_with (go_at_call_of 207 (Value.slice a6 n6 c6);refine (Xe1 HS).mono ?_;rintro r w2 ⟨rfl,D0⟩;have h3:=HRB.out w2 D0;have rc0:=h3.br.c0;have rc1:=h3.br.c1;have rc2:=h3.br.c2;have rf0:=h3.br.f0;have rf1:=h3.br.f1;have rf2:=h3.br.f2;have rd1:=h3.br.d1 (.bool false);have rd2:=h3.br.d2 (.bool false) (.slice none 0 0);have H2:=Ub h3;clear h3 D0)
    have hS:=H2.out.br.store (.bool false) (.slice none 0 0) (.int .i64 0);obtain ⟨k0,k1,k2⟩:=hS.cc;have Q3:=Q03.below H2.out.bel (show w.heap.size<=w.heap.size+2 by omega) (.bool false) (.slice none 0 0) (.int .i64 0);exact ⟨rfl,.agg #[.bool false,.slice none 0 0,.int .i64 0],by simp[results,go_sem,k0,k1,k2],_,rfl,⟨false,none,0,0,0,0,rfl,Q0r.nil_ _,⟨fun _=>⟨rfl,rfl⟩,fun h=>absurd rfl h⟩,(Xo0 HS)⟩,Q3⟩
def Qv9 (n:Bool) (v:Nat):Int:=if v=0 then 0 else if n=true then -1 else 1
theorem Qiy {n:Bool} {v:Nat} {e:Int} (hc:Q4y n v e):Qv9 n v=0↔dy (sgn n v) e=0:=by
 unfold Qv9
 by_cases h:v=0
 ·rw[Us h];exact ⟨fun _=>Qdc n e h,fun _=>rfl⟩
 ·rw[Up h];have h1:dy (sgn n v) e≠0:=Ql6 (Q4r (hc.2 h))
  constructor
  ·intro h2;split at h2 <;> cases h2
  ·intro h2;exact absurd h2 h1
theorem Qm4 (nx:Bool) (ax:OA) (lx cx:Nat) (ex:Int) (vx:Nat) (w:World) (h1:Q0r w ax lx cx vx) (c1:Q4y nx vx ex):
 Calls Tryz.prog 102 #[.agg #[.bool nx,.slice ax lx cx,.int .i64 ex]] w fun e w'=>e=.returned (.int .i64 (Qv9 nx vx))/\Bw w w':=by
 have hb:=Q03.new w (.bool nx) (.slice ax lx cx) (.int .i64 ex) 87;have O0:Bw w (w.alloc (.cells #[.bool nx,.slice ax lx cx,.int .i64 ex] 87)):=Ba;obtain ⟨W0,R1⟩:∃W0,w.alloc (.cells #[.bool nx,.slice ax lx cx,.int .i64 ex] 87)=W0:=⟨_,rfl⟩;rw[R1] at hb O0;have c0:=hb.c0;have c1':=hb.c1;have m5:=fun h=>Q0r.none_of h1 h;obtain ⟨r,hr⟩:∃r,Qv9 nx vx=r:=⟨_,rfl⟩;rw[hr];have HB:=Ub O0
 by_cases hvx:vx=0
 ·obtain rfl:=m5 hvx;obtain rfl:0=r:=by rw[<-hr,Qv9,Us hvx]
  clear h1 c1 hb O0 m5 hvx hr
  go_enter Tryz.func102,Tryz.ntmps102
  go_wp2_with fail
  go_ret;exact ⟨rfl,HB.out⟩
 ·have U7:((lx:Int)==0)=false:=by
   rw[Uk];intro e;exact hvx (h1.zero_of (by omega))
  cases nx with
  |true=>
   obtain rfl: -1=r:=(by rw[<-hr,Qv9,Up hvx,Us rfl]);clear h1 c1 hb O0 m5 hvx hr
   go_enter Tryz.func102,Tryz.ntmps102
   go_wp2_with fail
   go_ret;exact ⟨rfl,HB.out⟩
  |false=>
   obtain rfl:1=r:=(by rw[<-hr,Qv9,Up hvx,Up (by decide)]);clear h1 c1 hb O0 m5 hvx hr
   go_enter Tryz.func102,Tryz.ntmps102
   go_wp2_with fail
   go_ret;exact ⟨rfl,HB.out⟩
def Qm5 (ms:List Q01):Int:=Qra (ms.map Q01.term)
theorem Qt8 {ms:List Q01} {i:Nat} {m:Q01} (h:ms[i]?=some m):Qm5 (ms.take (i+1))=max (Qm5 (ms.take i)) m.es.sum:=by
 unfold Qm5 Qra;rw[Tc,h,UR,List.foldl_append];rfl
theorem Qfq (a:OA) (n c:Nat) (ms:List Q01) (k:Nat) (w:World) (h:Q08 w a n c ms) (hr:Q1o k ms):
 Calls Tryz.prog 246 #[.slice a n c] w fun r w'=>r=.returned (.int .i64 (Qm5 ms))/\Bw w w':=by
 have G3:=h.1;subst G3;have J3:=Un h.2.1 h.2.2.1
 by_cases h0:ms=[]
 ·subst h0
  go_enter Tryz.func246,Tryz.ntmps246
  go_wp2_with fail
  go_ret;exact ⟨rfl,Ug _ _⟩
 have O6:0<ms.length:=by
  cases ms with
  |nil=>exact absurd rfl h0
  |cons x r=>simp
 have hposb:((ms.length:Int)==0)=false:=by rw[Uk];omega
 have hposI:(0:Int)<(ms.length:Int):=by omega
 obtain ⟨m0,o9⟩:∃m,ms[0]?=some m:=⟨_,Ua O6⟩;obtain ⟨b0,o0,rfl,X1,Y1⟩:∃b o,a=some ⟨b,o,none⟩/\b<w.heap.size/\∀j m,ms[j]?=some m->Q4n w b (o+j*4) m:=by
  rcases h.2.2.2 with h1|h1
  ·exact absurd h1 h0
  ·exact h1
 obtain ⟨aw,lw,cw,ae,le,ce,z0,z1,z2,z3,Vm,he0,_,_⟩:=Y1 0 m0 o9;have hk:le=k:=by rw[<-he0.len];exact (hr.2.2.2.1 m0 (Uf o9)).1.1.1
 subst hk;have Je:Calls Tryz.prog 51 #[.slice (some ⟨b0,o0,none⟩) ms.length c,.int .i64 (le:Int)] w fun r w'=>r=.returned (.bool true)/\Bw w w':=(Q36 (some ⟨b0,o0,none⟩) ms.length c ms le w h (by have:=hr.2.1;omega)).mono (by
  rintro r w' ⟨⟨b,rfl,E4⟩,B4⟩;rw[E4.2 hr];exact ⟨rfl,B4⟩)
 rw[Xaa,Tz] at z3;have HM:=Xh3 h hr Je;clear h hr Je Y1 Vm he0 z0 z1 z2 h0 o9
 go_enter Tryz.func246,Tryz.ntmps246
 go_wp2_with (refine (Xe2 HM).mono ?_;rintro r w1 ⟨rfl,C0⟩;have K0:=Ub C0;clear C0)
 go_loopw [3,21] (fun sv iv wr=>∃i:Nat,sv=.int .i64 (Qm5 (ms.take i))/\iv=.int .i64 (i:Int)/\i<=ms.length/\Bw w wr) (fun _ iv _=>ms.length-(intOf iv).toNat)
 case atStart=>exact ⟨0,rfl,rfl,Ut _,K0.out⟩
 case round=>
  obtain ⟨i,rfl,rfl,hi,hb⟩:=hrel
  by_cases E0:i<ms.length
  ·have J0:(i:Int)<(ms.length:Int):=(by omega);obtain ⟨m,hm⟩:∃m,ms[i]?=some m:=⟨_,Ua E0⟩;have Y1:∀j m,ms[j]?=some m->Q4n wr b0 (o0+j*4) m:=by
    rcases ((Xo0 HM).step hb).2.2.2 with h1|⟨b,o,h2,h3,h4⟩
    ·rw[h1] at E0;simp at E0
    ·injection h2 with h2;injection h2 with h5 h6;subst h5;subst h6;exact h4
   obtain ⟨bw,lw2,cw2,be,le2,ce2,k0,k1,k2,k3,hw,he,_,_⟩:=Y1 i m hm;have Z2:Bw wr (wr.alloc (.cells #[.bool m.neg,.int .i64 m.exp,.slice bw lw2 cw2,.slice be le2 ce2] 98)):=Ba;have hX:=Q34.new wr (.bool m.neg) (.int .i64 m.exp) (.slice bw lw2 cw2) (.slice be le2 ce2) 98;have KA:=((Xo1 HM).2.2.2.1 m (Uf hm)).1.1;have hre2:Q0x le2 m.es:=(by rw[<-he.len];exact ⟨rfl,KA.2⟩);generalize R1:wr.alloc (.cells #[.bool m.neg,.int .i64 m.exp,.slice bw lw2 cw2,.slice be le2 ce2] 98)=W0 at Z2 hX;obtain ⟨x0,x1,x2,x3,_,_,_,_⟩:=hX;have A2:=Qw2 (.bool m.neg) (.int .i64 m.exp) (.slice bw lw2 cw2) be le2 ce2 m.es W0 (he.step Z2) hre2;have hdt:=Qt8 hm;obtain ⟨D,hD⟩:∃D,Qm5 (ms.take i)=D:=⟨_,rfl⟩;obtain ⟨S,hS⟩:∃S,m.es.sum=S:=⟨_,rfl⟩;rw[hD,hS] at hdt;rw[hS] at A2;rw[hD];have HA:=Xh3 A2 hdt (Below.next0 hb Z2);clear A2 hdt hb Z2 Y1 hw he KA hre2 hm hD hS
   go_wp2_with (refine (Xo0 HA).mono ?_;rintro r w2 ⟨rfl,D0⟩;have F1:=Ub D0;clear D0)
   refine ⟨⟨i+1,?_,by simp,by omega,Below.next0 (Xe2 HA) F1.out⟩,by simp only[intOf];omega⟩;rw[(Xo1 HA)]
  ·obtain rfl:i=ms.length:=(by omega);have J0:¬((ms.length:Int)<(ms.length:Int)):=(by omega);rw[Tn];have HB:=Ub hb;clear hb
   go_wp2_with fail
   go_ret;exact ⟨rfl,HB.out⟩
def zv (x:Int):Value:=.int .i64 x
theorem Qxq (E:List Int):∀u∈E.map zv,u.oneCell'=true:=by
 intro u hu;obtain ⟨x,_,rfl⟩:=To.1 hu;rfl
theorem Q9z:(Tryz.prog.info? 3).map (fun i=>(i.zero,i.size,i.bytes))=some (some (.int .i64 0),1,8):=by kernel_rfl
theorem Qw5:∀w,(Go.sizeOf 3).run Tryz.prog w=.ok 1 w:=by intro w;kernel_rfl
theorem Row.ints {w:World} {B:Nat} {a:OA} {n c:Nat} {E:List Int} (h:Row w B 3 1 a n c (E.map zv)) (hr:∀x∈E,-9223372036854775808<=x/\x<=9223372036854775807):Q0g w a n c E:=by
 have hl:=h.len;simp only[UK,Nat.mul_one] at hl;refine ⟨hl,h.cap.1,by have:=h.cap.2;simpa[maxLen] using this,⟨hr,?_⟩,?_⟩
 ·intro b o e;rcases h.form with ⟨h1,_⟩|⟨g,cur,rfl,_⟩
  ·rw[h1] at e;cases e
  ·cases e;rfl
 rcases h.form with ⟨_,_,_,h0⟩|⟨g,cur,rfl,_,hg,_⟩
 ·exact .inl (by simpa using h0)
 ·refine .inr ⟨g,0,rfl,hg,fun j x hx=>?_⟩;rw[UH];exact h.cell0 (by rw[UP,hx];rfl)
theorem Qbc (b:OA) (m d:Nat) (E:List Int) (w:World) (h:Q0g w b m d E) (h0:E≠[]) (hm:m<=1000000):
 Calls Tryz.prog 187 #[.slice b m d] w fun r w'=>∃g c',r=.returned (.slice (some ⟨g,0,none⟩) m c')/\Row w' w.heap.size 3 1 (some ⟨g,0,none⟩) m c' (E.map zv)/\Bw w w':=by
 obtain ⟨i0,E2,P1,G1,K1⟩:=Xbq Q9z;have G3:=h.len;obtain ⟨p,o,rfl,hp,hc⟩:∃p o,b=some ⟨p,o,none⟩/\p<w.heap.size/\∀(j:Nat) x,E[j]?=some x->w.cell? ⟨p,o+j,none⟩=some (.int .i64 x):=by
  rcases h.rd with h1|h1
  ·exact absurd h1 h0
  ·exact h1
 refine (Tryz.J46 i0 (.int .i64 0) 1 8 E2 P1 G1 K1 rfl (by decide) Qw5 p o m d (E.map zv) w (by simp[G3]) (by unfold maxLen;omega) (by omega) (fun j u hu=>?_) (Qxq E)).mono ?_
 ·rw[UP] at hu;cases hx:E[j]? with
  |none=>rw[hx] at hu;cases hu
  |some x=>
   rw[hx] at hu;simp only[Uz,Uj] at hu;subst hu;exact hc j x hx
 ·rintro r w' ⟨v',rfl,⟨hl,J4⟩,KL,hb⟩;rcases J4 with ⟨e,_⟩|⟨g,cap,cur,rfl,y8,hg,hnc,J3,G8,V5⟩
  ·exact absurd e KL
  ·exact ⟨g,cap,rfl,⟨hl,.inr ⟨g,cap,cur,rfl,y8,hg,hnc,J3,G8,V5⟩⟩,hb⟩
theorem Qyu {E:List Int} (h:∀x∈E,0<=x):0<=E.sum:=by
 induction E with
 |nil=>simp
 |cons a t ih=>
  rw[Xax];have h1:=h a (by simp);have h2:=ih fun x hx=>h x (by simp[hx]);omega
theorem Qt9 {E:List Int} (h:∀x∈E,0<=x) {x:Int} (hx:x∈E):x<=E.sum:=by
 induction E with
 |nil=>cases hx
 |cons a t ih=>
  rw[Xax];have h1:=h a (by simp);have h2:0<=t.sum:=Qyu (E:=t) (fun z hz=>h z (TH _ hz));rcases Uy.1 hx with e|hx
  ·omega
  ·have h3:=ih (fun z hz=>h z (TH _ hz)) hx;omega
structure Qm6 (W2 w:World) (v g:Nat) (v0 v1 v2 v3:Value) (T:TypeId) (m c:Nat) (xs:LV):Prop where
 box:Q34 w v v0 v1 v2 v3
 row:Row w W2.heap.size T 1 (some ⟨g,0,none⟩) m c xs
 below:Bw W2 w
 lo:W2.heap.size<=v
 ne:v≠g
 hi:v<w.heap.size
theorem Q34.far {w:World} {b:Nat} {v0 v1 v2 v3:Value} (h:Q34 w b v0 v1 v2 v3) {p:Addr} (hp:p.block≠b) (u:Value):Q34 (w.setCell p u) b v0 v1 v2 v3:=
 ⟨(Ud _ _ _ _ (fun e=>hp (by rw[e]))).trans h.c0,(Ud _ _ _ _ (fun e=>hp (by rw[e]))).trans h.c1,(Ud _ _ _ _ (fun e=>hp (by rw[e]))).trans h.c2,(Ud _ _ _ _ (fun e=>hp (by rw[e]))).trans h.c3,(Uo _ _ _ _).trans h.f0,(Uo _ _ _ _).trans h.f1,(Uo _ _ _ _).trans h.f2,(Uo _ _ _ _).trans h.f3⟩
theorem Q34.set0 {w:World} {b:Nat} {v0 v1 v2 v3:Value} (h:Q34 w b v0 v1 v2 v3) (u:Value):Q34 (w.setCell ⟨b,0,none⟩ u) b u v1 v2 v3:=
 ⟨UE _ _ _ (by rw[h.c0];rfl),(Ud _ _ _ _ (by simp)).trans h.c1,(Ud _ _ _ _ (by simp)).trans h.c2,(Ud _ _ _ _ (by simp)).trans h.c3,(Uo _ _ _ _).trans h.f0,(Uo _ _ _ _).trans h.f1,(Uo _ _ _ _).trans h.f2,(Uo _ _ _ _).trans h.f3⟩
theorem Q34.set1 {w:World} {b:Nat} {v0 v1 v2 v3:Value} (h:Q34 w b v0 v1 v2 v3) (u:Value):Q34 (w.setCell ⟨b,1,none⟩ u) b v0 u v2 v3:=
 ⟨(Ud _ _ _ _ (by simp)).trans h.c0,UE _ _ _ (by rw[h.c1];rfl),(Ud _ _ _ _ (by simp)).trans h.c2,(Ud _ _ _ _ (by simp)).trans h.c3,(Uo _ _ _ _).trans h.f0,(Uo _ _ _ _).trans h.f1,(Uo _ _ _ _).trans h.f2,(Uo _ _ _ _).trans h.f3⟩
theorem Q34.set2 {w:World} {b:Nat} {v0 v1 v2 v3:Value} (h:Q34 w b v0 v1 v2 v3) (u:Value):Q34 (w.setCell ⟨b,2,none⟩ u) b v0 v1 u v3:=
 ⟨(Ud _ _ _ _ (by simp)).trans h.c0,(Ud _ _ _ _ (by simp)).trans h.c1,UE _ _ _ (by rw[h.c2];rfl),(Ud _ _ _ _ (by simp)).trans h.c3,(Uo _ _ _ _).trans h.f0,(Uo _ _ _ _).trans h.f1,(Uo _ _ _ _).trans h.f2,(Uo _ _ _ _).trans h.f3⟩
theorem Q34.set3 {w:World} {b:Nat} {v0 v1 v2 v3:Value} (h:Q34 w b v0 v1 v2 v3) (u:Value):Q34 (w.setCell ⟨b,3,none⟩ u) b v0 v1 v2 u:=
 ⟨(Ud _ _ _ _ (by simp)).trans h.c0,(Ud _ _ _ _ (by simp)).trans h.c1,(Ud _ _ _ _ (by simp)).trans h.c2,UE _ _ _ (by rw[h.c3];rfl),(Uo _ _ _ _).trans h.f0,(Uo _ _ _ _).trans h.f1,(Uo _ _ _ _).trans h.f2,(Uo _ _ _ _).trans h.f3⟩
theorem Q34.store {w:World} {b:Nat} {v0 v1 v2 v3:Value} (h:Q34 w b v0 v1 v2 v3) (u0 u1 u2 u3:Value):Q34 ((((w.setCell ⟨b,0,none⟩ u0).setCell ⟨b,1,none⟩ u1).setCell ⟨b,2,none⟩ u2).setCell ⟨b,3,none⟩ u3) b u0 u1 u2 u3:=(((h.set0 u0).set1 u1).set2 u2).set3 u3
theorem J0e {W2 w3:World} {B g m c:Nat} {T:TypeId} {xs:LV} (hB:W2.heap.size<=B) (h:Row w3 B T 1 (some ⟨g,0,none⟩) m c xs) (hb:Bw W2 w3) (v0 v1 v2 v3:Value) (T2:TypeId):
 Qm6 W2 (w3.alloc (.cells #[v0,v1,v2,v3] T2)) w3.heap.size g v0 v1 v2 v3 T m c xs:=
 ⟨Q34.new w3 v0 v1 v2 v3 T2,(h.lower hB).alloc _,hb.alloc hb.size _,hb.size,by have:=h.fresh;omega,by rw[Ui];omega⟩
theorem J0f {W2 w3:World} {B g m c:Nat} {T:TypeId} {xs:LV} {v0 v1 v2 v3:Value} (hB:W2.heap.size<B) (h:Row w3 B T 1 (some ⟨g,0,none⟩) m c xs) (hb:Bw W2 w3) (hm:Q34 w3 W2.heap.size v0 v1 v2 v3) (u0 u1 u2 u3:Value):
 Qm6 W2 ((((w3.setCell ⟨W2.heap.size,0,none⟩ u0).setCell ⟨W2.heap.size,1,none⟩ u1).setCell ⟨W2.heap.size,2,none⟩ u2).setCell ⟨W2.heap.size,3,none⟩ u3) W2.heap.size g u0 u1 u2 u3 T m c xs:=by
 have hg:=h.fresh;have far:∀(w:World) (o:Nat) (u:Value),Row w W2.heap.size T 1 (some ⟨g,0,none⟩) m c xs->Row (w.setCell ⟨W2.heap.size,o,none⟩ u) W2.heap.size T 1 (some ⟨g,0,none⟩) m c xs:=fun w o u h=>h.far (fun x hx=>by injection hx with hx;subst hx;show g≠W2.heap.size;omega) u;exact ⟨hm.store u0 u1 u2 u3,far _ 3 _ (far _ 2 _ (far _ 1 _ (far _ 0 _ (h.lower (Xa1 hB))))),(((hb.setCell (Ue _) _).setCell (Ue _) _).setCell (Ue _) _).setCell (Ue _) _,Ue _,by omega,by simp only[UT];omega⟩
theorem Qm6.put {W2 w:World} {v g m c:Nat} {T:TypeId} {Z:List Int} {v0 v1 v2 v3:Value} (h:Qm6 W2 w v g v0 v1 v2 v3 T m c (Z.map zv)) (i:Nat) (u:Int):
 Qm6 W2 (w.setCell ⟨g,i,none⟩ (.int .i64 u)) v g v0 v1 v2 v3 T m c ((Z.set i u).map zv):=by
 refine ⟨h.box.far (p:=⟨g,i,none⟩) (fun e=>h.ne e.symm) _,?_,h.below.setCell h.row.fresh.1 _,h.lo,h.ne,by rw[UT];exact h.hi⟩;rw[List.map_set];exact h.row.set0 i _
theorem Qyv {Ex Ey Z:List Int} {i k:Nat} {x y:Int} (hZ:Z.length=k) (hik:i<k) (h:∀(j:Nat) (x y:Int),Ex[j]?=some x->Ey[j]?=some y->Z[j]?=some (if j<i then x+y else x)) (hx:Ex[i]?=some x) (hy:Ey[i]?=some y):
 ∀(j:Nat) (x' y':Int),Ex[j]?=some x'->Ey[j]?=some y'->(Z.set i (x+y))[j]?=some (if j<i+1 then x'+y' else x'):=by
 intro j x' y' QQ hy'
 by_cases e:j=i
 ·subst e;rw[hx] at QQ;rw[hy] at hy';cases QQ;cases hy';rw[TG (by omega),Us (TF _)]
 ·rw[Te (fun h=>e h.symm),h j x' y' QQ hy']
  by_cases hl:j<i
  ·rw[Us hl,Us (by omega)]
  ·rw[Up hl,Up (by omega)]
theorem WordsIn.set4 {w:World} {a:OA} {n c b:Nat} {L:LN} {b0:Bool} {e0:Int} {a0 a1:OA} {n0 c0 n1 c1:Nat} (h:WordsIn w a n c L) (hM:Q34 w b (.bool b0) (.int .i64 e0) (.slice a0 n0 c0) (.slice a1 n1 c1)) (u0 u1 u2 u3:Value):
 WordsIn ((((w.setCell ⟨b,0,none⟩ u0).setCell ⟨b,1,none⟩ u1).setCell ⟨b,2,none⟩ u2).setCell ⟨b,3,none⟩ u3) a n c L:=
 (((h.set1 hM.c0 (fun _=>by simp[nv]) u0).set1 (hM.set0 u0).c1 (fun _=>by simp[nv]) u1).set1 ((hM.set0 u0).set1 u1).c2 (fun _=>by simp[nv]) u2).set1 (((hM.set0 u0).set1 u1).set2 u2).c3 (fun _=>by simp[nv]) u3
theorem Qyw {Ex Ey Z:List Int} {k:Nat} (r1:Q0x k Ex) (r2:Q0x k Ey) (hZ:Z.length=k) (h:∀(j:Nat) (x y:Int),Ex[j]?=some x->Ey[j]?=some y->Z[j]?=some (if j<k then x+y else x)):Z=List.zipWith (·+·) Ex Ey:=by
 apply Xa9
 intro j
 by_cases hj:j<k
 ·have hx:=Ua (l:=Ex) (i:=j) (by rw[r1.1];exact hj);have hy:=Ua (l:=Ey) (i:=j) (by rw[r2.1];exact hj);rw[h j _ _ hx hy,Us hj,List.getElem?_zipWith,hx,hy]
 ·rw[UU (by omega),UU (by rw[List.length_zipWith,r1.1,r2.1];omega)]
theorem Row.far4 {w:World} {B g m c r:Nat} {T:TypeId} {xs:LV} (h:Row w B T 1 (some ⟨g,0,none⟩) m c xs) (Q0:g≠r) (u0 u1 u2 u3:Value):Row ((((w.setCell ⟨r,0,none⟩ u0).setCell ⟨r,1,none⟩ u1).setCell ⟨r,2,none⟩ u2).setCell ⟨r,3,none⟩ u3) B T 1 (some ⟨g,0,none⟩) m c xs:=by
 have far:∀(w:World) (o:Nat) (u:Value),Row w B T 1 (some ⟨g,0,none⟩) m c xs->Row (w.setCell ⟨r,o,none⟩ u) B T 1 (some ⟨g,0,none⟩) m c xs:=fun w o u h=>h.far (fun x hx=>by injection hx with hx;subst hx;exact Q0) u;exact far _ 3 _ (far _ 2 _ (far _ 1 _ (far _ 0 _ h)))
theorem Qta {k:Nat} {Ex Ey:List Int} (r1:Q0x k Ex) (r2:Q0x k Ey):∀x∈List.zipWith (·+·) Ex Ey,-9223372036854775808<=x/\x<=9223372036854775807:=by
 intro x hx;have h0:=Qlb Ex Ey r1.2.1 r2.2.1;have h1:=Qt9 h0 hx;rw[Qla _ _ (r1.1.trans r2.1.symm)] at h1;have h2:=h0 x hx;have:=r1.2.2;have:=r2.2.2;omega
theorem Qm7 (nx:Bool) (ex:Int) (ax:OA) (lx cx:Nat) (ls:LN) (bx:OA) (mx dx:Nat) (Ex:List Int) (ny:Bool) (ey:Int) (ay:OA) (ly cy:Nat) (ks:LN) (bY:OA) (my dy':Nat) (Ey:List Int) (k:Nat) (w:World)
 (h1:WordsIn w ax lx cx ls) (g1:Q0g w bx mx dx Ex) (h2:WordsIn w ay ly cy ks) (g2:Q0g w bY my dy' Ey) (i1:Q0a nx ex ls) (i2:Q0a ny ey ks) (r1:Q0x k Ex) (r2:Q0x k Ey) (hk:1<=k) (o5:k<=4) (hT:Q1s w):
 Calls Tryz.prog 247 #[.agg #[.bool nx,.int .i64 ex,.slice ax lx cx,.slice bx mx dx],.agg #[.bool ny,.int .i64 ey,.slice ay ly cy,.slice bY my dy']] w fun r w'=>
  ∃n' e' a' l' c' L er be le ce,r=.returned (.tuple #[.agg #[.bool n',.int .i64 e',.slice a' l' c',.slice be le ce],.int .i64 er])/\Qnb (Q1p nx ex ls*Q1p ny ey ks) n' e' L er/\Q2n w w' a' l' c' L/\Q0g w' be le ce (List.zipWith (·+·) Ex Ey)/\(∃g,be=some ⟨g,0,none⟩/\w.heap.size<=g)/\Bw w w':=by
 obtain ⟨BX,hBX⟩:∃o:Obj,o=.cells #[.bool nx,.int .i64 ex,.slice ax lx cx,.slice bx mx dx] 98:=⟨_,rfl⟩;obtain ⟨BY,hBY⟩:∃o:Obj,o=.cells #[.bool ny,.int .i64 ey,.slice ay ly cy,.slice bY my dy'] 98:=⟨_,rfl⟩;obtain ⟨BR,hBR⟩:∃o:Obj,o=.cells #[.bool false,.int .i64 0,.slice none 0 0,.slice none 0 0] 98:=⟨_,rfl⟩;have A3:(w.alloc BX).heap.size=w.heap.size+1:=Ui _ _;have X5:((w.alloc BX).alloc BY).heap.size=w.heap.size+2:=by rw[Ui,A3]
 have p5:(((w.alloc BX).alloc BY).alloc BR).heap.size=w.heap.size+3:=by rw[Ui,X5]
 have C0:Bw w (w.alloc BX):=Ba;have D0:Below (w.alloc BX).heap.size (w.alloc BX) ((w.alloc BX).alloc BY):=Ba;have G0:Below ((w.alloc BX).alloc BY).heap.size ((w.alloc BX).alloc BY) (((w.alloc BX).alloc BY).alloc BR):=Ba;have hX:Q34 (((w.alloc BX).alloc BY).alloc BR) w.heap.size (.bool nx) (.int .i64 ex) (.slice ax lx cx) (.slice bx mx dx):=by
  have h:=((Q34.new w (.bool nx) (.int .i64 ex) (.slice ax lx cx) (.slice bx mx dx) 98).step (by rw[<-hBX];exact D0) (by rw[A3];omega)).step G0 (by rw[X5];omega);exact h
 have hY:Q34 (((w.alloc BX).alloc BY).alloc BR) (w.heap.size+1) (.bool ny) (.int .i64 ey) (.slice ay ly cy) (.slice bY my dy'):=by
  have h:=Q34.new (w.alloc BX) (.bool ny) (.int .i64 ey) (.slice ay ly cy) (.slice bY my dy') 98;rw[A3,<-hBY] at h;exact h.step G0 (by rw[X5];omega)
 have hR:Q34 (((w.alloc BX).alloc BY).alloc BR) (w.heap.size+2) (.bool false) (.int .i64 0) (.slice none 0 0) (.slice none 0 0):=by
  have h:=Q34.new ((w.alloc BX).alloc BY) (.bool false) (.int .i64 0) (.slice none 0 0) (.slice none 0 0) 98;rw[X5,<-hBR] at h;exact h
 have hB:=Below.next0 (Below.next0 C0 D0) G0;subst hBX;subst hBY;subst hBR;generalize R1:((w.alloc (.cells #[.bool nx,.int .i64 ex,.slice ax lx cx,.slice bx mx dx] 98)).alloc (.cells #[.bool ny,.int .i64 ey,.slice ay ly cy,.slice bY my dy'] 98)).alloc (.cells #[.bool false,.int .i64 0,.slice none 0 0,.slice none 0 0] 98)=W0 at p5 hX hY hR hB;obtain ⟨x0,x1,x2,x3,_,_,_,_⟩:=id hX;obtain ⟨y0,y1,y2,y3,_,_,_,_⟩:=id hY;have U9:=Qpm nx ex ax lx cx ls ny ey ay ly cy ks W0 (h1.step hB) (h2.step hB) i1 i2 (hT.step hB);have HC:=Xh6 hX hY hR hB U9 p5;have HG:=Xh2 g1 g2;clear A3 X5 p5 C0 D0 G0 hX hY hR hB U9 hT h1 h2 i1 i2 g1 g2
 go_enter Tryz.func247,Tryz.ntmps247
 go_upto_region 2 with (refine (Xo4 HC).mono ?_;rintro r w1 ⟨n',e',a',l',c',L,er,rfl,t7,O2,C0⟩;have HA:=Xh3 t7 O2 C0;clear t7 O2 C0)
 have O4:Bw w1 (w1.alloc (.cells #[.bool n',.int .i64 e',.slice a' l' c'] 26)):=Ba;have Yc:=Q03.new w1 (.bool n') (.int .i64 e') (.slice a' l' c') 26;have hl6:=Q0h w1 (.cells #[.bool n',.int .i64 e',.slice a' l' c'] 26);generalize I4:w1.alloc (.cells #[.bool n',.int .i64 e',.slice a' l' c'] 26)=W2 at O4 Yc hl6;have Zk:=Below.next0 (Xe2 HA) O4;have V4:=(Xo0 HC).step Zk (by have:=(Xe5 HC);omega);have hY2:=(Xo1 HC).step Zk (by have:=(Xe5 HC);omega);have L7:=(Xo2 HC).step Zk (by have:=(Xe5 HC);omega);have hEx0:Ex≠[]:=fun e=>by have:=r1.1;rw[e] at this;simp at this;omega
 have hmx:mx=k:=by rw[<-(Xo0 HG).len];exact r1.1
 have C2:=fun W (hW:Bw W2 W)=>Qbc bx mx dx Ex W ((Xo0 HG).step (Below.next0 (Below.next0 (Xo3 HC) Zk) hW)) hEx0 (by omega);have Xx:=Xh6 V4 hY2 L7 Zk Yc hl6;have HCL:=Ub C2;have n0:W2.drew.cell? ⟨w1.heap.size,0,none⟩=some (.bool n'):=Yc.c0;have n1:W2.drew.cell? ⟨w1.heap.size,1,none⟩=some (.int .i64 e'):=Yc.c1;have n2:W2.drew.cell? ⟨w1.heap.size,2,none⟩=some (.slice a' l' c'):=Yc.c2;have p3:W2.drew.cell? ⟨w.heap.size,3,none⟩=some (.slice bx mx dx):=V4.c3;have J1:=Below.next0 ((Ug W2.heap.size W2).alloc (Ue _) (.cells #[.bool false,.int .i64 0,.slice none 0 0,.slice none 0 0] 98)) (Q04 _);have hNa:=Yc.step J1 hl6;have hXa:=V4.step J1 (by have:=(Xe5 HC);have:=Zk.size;omega);obtain ⟨na0,na1,na2⟩:=hNa.cc;have pa3:=hXa.c3;clear J1 hNa hXa V4 hY2 L7 Zk O4 C2 Yc hl6 x0 x1 x2 x3 y0 y1 y2 y3 hmx hEx0
 go_cut [8] (fun s8 wx=>∃v g c3,s8=.pointer (some ⟨v,0,none⟩)/\Qm6 W2 wx v g (.bool n') (.int .i64 e') (.slice a' l' c') (.slice (some ⟨g,0,none⟩) mx c3) 3 mx c3 (Ex.map zv))
 case first=>
  go_region_law (
   refine Q3h (by rfl) 187 #[.slice bx mx dx] (by simp[go_sem]) ?_;refine (HCL.out _ ?_).mono ?_
   (first|exact Q04 W2|exact Below.next0 ((Ug W2.heap.size W2).alloc (Ue _) _) (Q04 _)|exact (Ug W2.heap.size W2).alloc (Ue _) _|exact Below.next0 (Q04 W2) (Ba))
   rintro r w3 ⟨g,c3,rfl,I0,G0⟩;refine ⟨_,rfl,?_⟩;have E4:Bw W2 w3:=by
    first
     |exact Below.next0 (Q04 W2) G0
     |exact Below.next0 ((Ug W2.heap.size W2).alloc (Ue _) _) G0
     |exact Below.next0 (Below.next0 ((Ug W2.heap.size W2).alloc (Ue _) _) (Q04 _)) G0
     |exact Below.next0 (Below.next0 (Q04 W2) (Ba)) G0
   have hN:=(Xo4 Xx).step E4 (Xe5 Xx);have m0:w3.cell? ⟨w1.heap.size,0,none⟩=some (.bool n'):=hN.c0;have m1:w3.cell? ⟨w1.heap.size,1,none⟩=some (.int .i64 e'):=hN.c1;have m2:w3.cell? ⟨w1.heap.size,2,none⟩=some (.slice a' l' c'):=hN.c2
   (first
     |(have hM:=((Q34.new W2 (.bool false) (.int .i64 0) (.slice none 0 0) (.slice none 0 0) 98).step (Q04 _) (by rw[Ui];exact TF _)).step G0 (by show _<(World.alloc _ _).heap.size;rw[Ui];exact TF _)
       obtain ⟨o0,o1,o2⟩:=hM.cc;have o3:=hM.c3;have u0:=hM.f0;have u1:=hM.f1;have u2:=hM.f2;have u3:=hM.f3;clear hM)
     |skip)
   have hNw:=hN.step ((Ug w3.heap.size w3).alloc (Ue _) (.cells #[.bool false,.int .i64 0,.slice none 0 0,.slice none 0 0] 98)) (Uc (Xe5 Xx) E4.size);obtain ⟨mm0,mm1,mm2⟩:=hNw.cc;have HZ:=Xh3 I0 G0 E4;clear I0 G0 E4 hN hNw)
  all_goals go_wp2_with fail
  all_goals go_meet
  all_goals first
   |(have hh:=J0e (W2:=W2) (B:=W2.drew.heap.size) (Ue W2.heap.size) (Xo0 HZ) (Xe2 HZ) (.bool n') (.int .i64 e') (.slice a' l' c') (.slice (some ⟨g,0,none⟩) mx c3) 98
     exact ⟨w3.heap.size,g,c3,rfl,hh⟩)
   |(have hh:=J0f (W2:=W2) (B:=(W2.alloc (.cells #[.bool false,.int .i64 0,.slice none 0 0,.slice none 0 0] 98)).drew.heap.size) (by show _<(W2.alloc _).heap.size;rw[Ui];exact TF _) (Xo0 HZ) (Xe2 HZ) ⟨o0,o1,o2,o3,u0,u1,u2,u3⟩ (.bool n') (.int .i64 e') (.slice a' l' c') (.slice (some ⟨g,0,none⟩) mx c3)
     exact ⟨W2.heap.size,g,c3,rfl,hh⟩)
 case rest=>
  obtain ⟨v,g,c3,rfl,hP⟩:=hcut;have hYc:=(Xo1 Xx).step hP.below (by have:=(Xe5 HC);have:=(Xo3 Xx).size;omega);have y3:=hYc.c3;have hmy:my=k:=by rw[<-(Xe1 HG).len];exact r2.1
  have hgy:=(Xe1 HG).step (Below.next0 (Below.next0 (Xo3 HC) (Xo3 Xx)) hP.below);have HP:=Xh3 hP hgy hmy;clear hP hYc hgy hmy n0 n1 n2 p3 na0 na1 na2 pa3
  go_wp2_with fail
  go_loopw [27] (fun iv wr=>∃(i:Nat) (Z:List Int),iv=.int .i64 (i:Int)/\i<=k/\Z.length=k/\(∀j x y,Ex[j]?=some x->Ey[j]?=some y->Z[j]?=some (if j<i then x+y else x))/\Qm6 W2 wr v g (.bool n') (.int .i64 e') (.slice a' l' c') (.slice (some ⟨g,0,none⟩) mx c3) 3 mx c3 (Z.map zv)/\wr.heap.size=wc.heap.size/\Bw W2 wr) (fun iv _=>k-(intOf iv).toNat)
  case atStart=>
   refine ⟨0,Ex,rfl,Ut _,r1.1,fun j x y hx _=>by simp[hx],(Xo0 HP),rfl,(Xo0 HP).below⟩
  case round=>
   obtain ⟨i,Z,rfl,hi,hZ,T4,hQ,A2,O0⟩:=hrel
   by_cases E0:i<my
   ·have hik:i<k:=(by have:=(Xe2 HP);omega);have J0:(i:Int)<(my:Int):=(by omega);have hmx':(i:Int)<(mx:Int):=(by have h:=(Xo0 HG).len;have h2:=r1.1;omega);obtain ⟨y,hy⟩:∃y,Ey[i]?=some y:=⟨_,Ua (by have:=r2.1;omega)⟩;obtain ⟨x,hx⟩:∃x,Ex[i]?=some x:=⟨_,Ua (by have:=r1.1;omega)⟩;obtain ⟨ba,oa,U5,J1,K9⟩:=((Xe1 HG).step (Below.next0 (Below.next0 (Xo3 HC) (Xo3 Xx)) hQ.below)).rd.at_ hy;subst U5;have hzx:Z[i]?=some x:=(by have h:=T4 i x y hx hy;simpa using h);have b3:=hQ.box.c3;have u5:wr.cell? ⟨g,i,none⟩=some (.int .i64 x):=hQ.row.cell0 (by rw[UP,hzx];rfl);have ZW:=hQ.row.frozen0 i;have hx8:=Qt9 r1.2.1 (Uf hx);have hy8:=Qt9 r2.2.1 (Uf hy);have m5:=r1.2.1 x (Uf hx);have Ql:=r2.2.1 y (Uf hy);have Z6:IntKind.i64.wrap (x+y)=x+y:=(by rw[UN];have:=r1.2.2;have:=r2.2.2;omega);have HI:=Xh7 hZ T4 hQ A2 O0 hx hy;clear hZ T4 hQ A2 O0 hx8 hy8 m5 Ql hzx
    go_wp2_with fail
    exact ⟨⟨i+1,Z.set i (x+y),by simp,by omega,by rw[Tk];exact (Xo0 HI),Qyv (Xo0 HI) hik (Xo1 HI) (Xo5 HI) (Xe6 HI),(Xo2 HI).put i (x+y),by rw[UT];exact (Xo3 HI),((Xo2 HI).put i (x+y)).below⟩,by simp only[intOf];omega⟩
   ·have hik:i=k:=(by have:=(Xe2 HP);omega);have J0:¬((i:Int)<(my:Int)):=(by omega);have b0:=hQ.box.c0;have b1:=hQ.box.c1;have b2:=hQ.box.c2;have b3:=hQ.box.c3;have hR:=(Xo2 Xx).step hQ.below (by have:=(Xe5 HC);have:=(Xo3 Xx).size;omega);obtain ⟨q0,q1,q2⟩:=hR.cc;have q3:=hR.c3;have t0:=hR.f0;have t1:=hR.f1;have t2:=hR.f2;have t3:=hR.f3;have HI:=Xh7 hik hZ T4 hQ A2 O0 hR;clear hik hZ T4 hQ A2 O0 hR
    go_wp2_with fail
    have x6:Q34 wr (w.heap.size+1+1) (.bool false) (.int .i64 0) (.slice none 0 0) (.slice none 0 0):=(Xe6 HI);have hV:=x6.store (.bool n') (.int .i64 e') (.slice a' l' c') (.slice (some ⟨g,0,none⟩) mx c3);obtain ⟨k0,k1,k2⟩:=hV.cc;have k3:=hV.c3;have U6:Bw w1 W2:=(by rw[<-I4];exact Ba);have hw:=((Xo1 HA).step (Below.next0 U6 (Xo3 HI).below)).set4 x6 (.bool n') (.int .i64 e') (.slice a' l' c') (.slice (some ⟨g,0,none⟩) mx c3);have O0:=((((Below.next0 (Below.next0 (Xo3 HC) (Xo3 Xx)) (Xo3 HI).below).setCell (p:=⟨w.heap.size+1+1,0,none⟩) (by show w.heap.size<=w.heap.size+1+1;omega) (.bool n')).setCell (p:=⟨w.heap.size+1+1,1,none⟩) (by show w.heap.size<=w.heap.size+1+1;omega) (.int .i64 e')).setCell (p:=⟨w.heap.size+1+1,2,none⟩) (by show w.heap.size<=w.heap.size+1+1;omega) (.slice a' l' c')).setCell (p:=⟨w.heap.size+1+1,3,none⟩) (by show w.heap.size<=w.heap.size+1+1;omega) (.slice (some ⟨g,0,none⟩) mx c3);refine ⟨rfl,.tuple #[.agg #[.bool n',.int .i64 e',.slice a' l' c',.slice (some ⟨g,0,none⟩) mx c3],.int .i64 er],by simp[results,go_sem,k0,k1,k2,k3],?_⟩;have Ju:Q0g ((((wr.setCell ⟨w.heap.size+1+1,0,none⟩ (.bool n')).setCell ⟨w.heap.size+1+1,1,none⟩ (.int .i64 e')).setCell ⟨w.heap.size+1+1,2,none⟩ (.slice a' l' c')).setCell ⟨w.heap.size+1+1,3,none⟩ (.slice (some ⟨g,0,none⟩) mx c3)) (some ⟨g,0,none⟩) mx c3 (List.zipWith (fun a b=>a+b) Ex Ey):=by
     have hgne:g≠w.heap.size+1+1:=by
      have h1:=(Xe5 HC);have h2:=(Xo3 Xx).size;have h3:=(Xo3 HI).row.fresh.1;omega
     have hZe:Z=List.zipWith (fun a b=>a+b) Ex Ey:=Qyw r1 r2 (Xo1 HI) (by have h:=(Xo2 HI);rwa[(Xo0 HI)] at h);have I0:=(Xo3 HI).row.far4 hgne (.bool n') (.int .i64 e') (.slice a' l' c') (.slice (some ⟨g,0,none⟩) mx c3);rw[hZe] at I0;exact I0.ints (Qta r1 r2)
    have E7:w.heap.size<=g:=Un (Below.next0 (Xo3 HC) (Xo3 Xx)).size (Xo3 HI).row.fresh.1;cases n' with
    |false=>exact .inl ⟨e',a',l',c',L,er,_,_,_,rfl,(Xo0 HA),((Xo1 HA).lower (Xo3 HC).size).on hw,Ju,⟨g,rfl,E7⟩,O0⟩
    |true=>exact .inr ⟨e',a',l',c',L,er,_,_,_,rfl,(Xo0 HA),((Xo1 HA).lower (Xo3 HC).size).on hw,Ju,⟨g,rfl,E7⟩,O0⟩
theorem Qtb {w wr:World} (h:∀j,∃kk,wr.drewN j=w.drewN kk) (i j:Nat):∃kk,(wr.drewN i).drewN j=w.drewN kk:=by
 obtain ⟨kk,h1⟩:=h i;exact ⟨kk+j,by rw[h1,Xbl]⟩
theorem Qeu (a:OA) (n c:Nat) (E:List Int) (b:OA) (d:Nat) (F:List Int) (w:World) (h1:Q0g w a n c E) (h2:Q0g w b n d F):
 Calls Tryz.prog 100 #[.slice a n c,.slice b n d] w fun r w'=>r=.returned (.int .i64 (Q3j E F))/\∃k,w'=w.drewN k:=by
 have A8:=h1.len;have i7:=h2.len;have J3:=Un h1.cap h1.most;have HC:=Xh2 h1.rd h2.rd;clear h1 h2;obtain ⟨V,hV⟩:∃V,Q3j E F=V:=⟨_,rfl⟩;rw[hV];have HV:=Ub hV;clear hV
 go_enter Tryz.func100,Tryz.ntmps100
 go_wp2_with fail
 go_loopw [5] (fun iv wr=>∃i:Nat,iv=.int .i64 (i:Int)/\i<=n/\Q3j (E.drop i) (F.drop i)=V/\∃k,wr=w.drewN k) (fun iv _=>n-(intOf iv).toNat)
 case atStart=>exact ⟨0,rfl,Ut _,HV.out,0,rfl⟩
 case round=>
  obtain ⟨i,rfl,hi,C5,Z6⟩:=hrel;have R0:∀p,wr.cell? p=w.cell? p:=fun p=>by obtain ⟨kk,rfl⟩:=Z6;rfl
  have Jd:∀j,∃kk,wr.drewN j=w.drewN kk:=fun j=>by obtain ⟨kk,rfl⟩:=Z6;exact ⟨_,Xbl ..⟩
  have HW:=Xh2 Z6 Jd;clear Z6 Jd
  by_cases E0:i<n
  ·have J0:(i:Int)<(n:Int):=(by omega);obtain ⟨x,hx⟩:∃x,E[i]?=some x:=⟨_,Ua (by omega)⟩;obtain ⟨y,hy⟩:∃y,F[i]?=some y:=⟨_,Ua (by omega)⟩;obtain ⟨ba,oa,rfl,J1,Ko⟩:=(Xo0 HC).at_ hx;obtain ⟨bb,ob,rfl,E4,Kt⟩:=(Xe1 HC).at_ hy;have u5:=(R0 ⟨ba,oa+i,none⟩).trans Ko;have K9:=(R0 ⟨bb,ob+i,none⟩).trans Kt;have Vj:=Qnx hx hy;rw[C5] at Vj;have HH:=Ub Vj;clear Vj hx hy C5 Ko Kt R0
   by_cases h1:y<x
   ·have O5:V=1:=(by rw[HH.out,Up (by omega),Us h1]);subst O5
    go_wp2_with fail
    go_quiet (fail)
    go_wp2_with fail
    go_ret;exact ⟨rfl,(Xe1 HW) _⟩
   ·by_cases h2:x<y
    ·have O5:V= -1:=(by rw[HH.out,Us h2]);subst O5
     go_wp2_with fail
     go_quiet (fail)
     go_wp2_with fail
     go_quiet (fail)
     go_wp2_with fail
     go_ret;exact ⟨rfl,Qtb (Xe1 HW) _ _⟩
    ·go_wp2_with fail
     go_quiet (fail)
     go_wp2_with fail
     go_quiet (fail)
     go_wp2_with fail
     refine ⟨⟨i+1,congrArg (Value.int .i64) (by omega),E0,?_,(Xe1 HW) _⟩,by simp only[intOf];omega⟩;rw[HH.out,Up (by omega),Up (by omega)]
  ·have J0:¬(i:Int)<(n:Int):=(by omega);have O5:V=0:=(by rw[<-C5,UW (by omega),UW (by omega)];rfl);subst O5;clear C5 R0
   go_wp2_with fail
   go_ret;exact ⟨rfl,(Xo0 HW)⟩
theorem Qm8 (n:Bool) (e:Int) (a:OA) (l c:Nat) (L:LN) (b:OA) (m d:Nat) (E:List Int) (k:Nat) (w:World) (h:WordsIn w a l c L) (hE:Q0g w b m d E) (hk:k<=4) (he: -9223372036854775808<=e) (Q6:e<=9223372036854775807):
 Calls Tryz.prog 99 #[.agg #[.bool n,.int .i64 e,.slice a l c,.slice b m d],.int .i64 (k:Int)] w fun r w'=>r=.returned (.bool (decide (Q0x k E/\Q0a n e L)))/\Bw w w':=by
 obtain ⟨rs,KN⟩:∃rs,decide (Q0x k E/\Q0a n e L)=rs:=⟨_,rfl⟩;rw[KN];have Va:=Ub KN;clear KN;have C0:Bw w (w.alloc (.cells #[.bool n,.int .i64 e,.slice a l c,.slice b m d] 98)):=Ba;have hX:=Q34.new w (.bool n) (.int .i64 e) (.slice a l c) (.slice b m d) 98;have E0:=Q0h w (.cells #[.bool n,.int .i64 e,.slice a l c,.slice b m d] 98);generalize hW:w.alloc (.cells #[.bool n,.int .i64 e,.slice a l c,.slice b m d] 98)=W at C0 hX E0;obtain ⟨m5,R4,Z3⟩:=hX.cc;have KC:=hX.c3;have G3:=hE.len;subst G3;have Qx:=Q5u n e a l c L W (h.step C0) he Q6 (by have:=h.cap;have:=h.most;omega);have i9:=hE.rd.below C0;have J3:=Un hE.cap hE.most;have HC:=Xh4 Qx i9 C0 hE.rng.1;clear C0 hX E0 Qx i9 h hE
 go_enter Tryz.func99,Tryz.ntmps99
 go_wp2_with fail
 go_loopw [5,6] (fun sv_ iv wr=>∃(i:Nat) (s:Int),sv_=.int .i64 s/\iv=.int .i64 (i:Int)/\i<=E.length/\i<=4/\(E.take i).sum=s/\0<=s/\s<=8*i/\(∀x∈E.take i,0<=x)/\W=wr) (fun _ iv _=>4-(intOf iv).toNat)
 case atStart=>exact ⟨0,0,rfl,rfl,Ut _,by decide,by simp,by decide,by decide,by simp,rfl⟩
 case round=>
  obtain ⟨i,s,rfl,rfl,hi,hi4,hs,Xr,Vk,O6,rfl⟩:=hrel
  by_cases E0:i<E.length/\i<4
  ·have J0:(i:Int)<(E.length:Int):=(by omega);have hlt4:(i:Int)<4:=(by omega);obtain ⟨x,hx⟩:∃x,E[i]?=some x:=⟨_,Ua E0.1⟩;obtain ⟨ba,oa,rfl,J1,u5⟩:=(Xo1 HC).at_ hx;have hxr:=(Xe3 HC) x (Uf hx);have ZV:=Qh1 hx;have HS:=Xh4 hs ZV O6 hx;clear hs ZV O6 hx
   by_cases hx0':x<0
   ·go_wp2_with fail
    go_ret;have E5:¬(Q0x k E/\Q0a n e L):=fun h=>by
     have:=h.1.2.1 x (Uf (Xe3 HS));omega
    have hf:rs=false:=(by rw[<-Va.out];exact Ta E5);exact ⟨by rw[hf];rfl,(Xo2 HC)⟩
   ·by_cases hx8:8<x
    ·go_wp2_with fail
     go_ret;have E5:¬(Q0x k E/\Q0a n e L):=fun h=>by
      have:=(Q2g h.1 x (Uf (Xe3 HS))).2;omega
     have hf:rs=false:=(by rw[<-Va.out];exact Ta E5);exact ⟨by rw[hf];rfl,(Xo2 HC)⟩
    ·go_wp2_with fail
     refine ⟨⟨i+1,s+x,rfl,congrArg (Value.int .i64) (by omega),by omega,by omega,by rw[(Xo1 HS),(Xo0 HS)],by omega,by omega,fun y hy=>?_,trivial⟩,by simp only[intOf];omega⟩;obtain ⟨j,hj,hjy⟩:=Qde hy
     by_cases hji:j=i
     ·subst hji;have h5:=(Xe3 HS);rw[hjy] at h5;injection h5 with h5;omega
     ·exact (Xo2 HS) y (UV.2 ⟨j,by rw[Tw,Us (by omega)];exact hjy⟩)
  ·by_cases o5:E.length=k
   ·have I7:i=E.length:=(by omega);rw[I7,Tn] at hs O6;have A8:¬(i:Int)<(E.length:Int):=(by omega);have hkk:((E.length:Int)==(k:Int))=true:=(by rw[beq_iff_eq];omega);have HS:=Xh3 hs O6 o5;clear hs O6 o5 I7
    by_cases h8:s<=8
    ·have QY:rs=decide (Q0a n e L):=by
      rw[<-Va.out];exact decide_eq_decide.2 ⟨fun h=>h.2,fun h=>⟨⟨(Xe2 HS),(Xo1 HS),by rw[(Xo0 HS)];exact h8⟩,h⟩⟩
     have HR:=Ub QY;clear QY
     go_wp2_with (go_at_call 25;refine (Xo0 HC).mono ?_;rintro r w1 ⟨rfl,C0⟩;have H1:=Ub C0;clear C0)
     go_ret;exact ⟨by rw[HR.out];rfl,Below.next0 (Xo2 HC) H1.out⟩
    ·have E5:¬(Q0x k E/\Q0a n e L):=fun h=>by
      have:=h.1.2.2;have:=(Xo0 HS);omega
     have hf:rs=false:=(by rw[<-Va.out];exact Ta E5);have HR:=Ub hf;clear hf E5
     go_wp2_with fail
     go_ret;exact ⟨by rw[HR.out];rfl,(Xo2 HC)⟩
   ·have hkk:((E.length:Int)==(k:Int))=false:=(by rw[Uk];omega);have E5:¬(Q0x k E/\Q0a n e L):=fun h=>o5 h.1.1;have hf:rs=false:=(by rw[<-Va.out];exact Ta E5);have HR:=Ub hf;clear hf E5 hs O6
    by_cases A8:i<E.length
    ·have hl1':(i:Int)<(E.length:Int):=(by omega);have XO:¬(i:Int)<4:=by omega
     go_wp2_with fail
     go_ret;exact ⟨by rw[HR.out];rfl,(Xo2 HC)⟩
    ·have hl1':¬(i:Int)<(E.length:Int):=by omega
     go_wp2_with fail
     go_ret;exact ⟨by rw[HR.out];rfl,(Xo2 HC)⟩
open Go.ChangeShapes Go.Maps Go.WideShapes
theorem Qtc:laidOutB Tryz.prog=true:=by kernel_rfl
theorem Qxr:(230:TypeId)<Tryz.prog.types.size:=Xa0 (by kernel_rfl)
theorem Qyx:(match Tryz.prog.underlying 230 with|some (.array _ _)|some (.struct _)=>true|_=>false)=true:=by kernel_rfl
theorem J0g:Go.WideMaps.KeyLaw Tryz.prog 230:=deep_law_laid Qtc (m:=3) (Nat.le_of_ble_eq_true rfl) Qxr (by kernel_rfl) Qyx
theorem Qiz:Keyed Tryz.prog 230:=Keyed.of_law J0g
theorem Qnz:Tryz.prog.underlying 230=some (.array 4 3):=by kernel_rfl
theorem Qw6:Tryz.prog.underlying 3=some (.int .i64):=by kernel_rfl
theorem Qtd:Tryz.prog.underlying 228=some (.map 230 3):=by kernel_rfl
theorem Qyy:Tryz.prog.keyType 230=true:=by kernel_rfl
theorem Qo0:Tryz.prog.cellsOf 230=4:=by kernel_rfl
theorem Qw7:Tryz.prog.cellsOf 3=1:=by kernel_rfl
theorem Qyz (w:World):(zeroValue 3).run Tryz.prog w=.ok (.int .i64 0) w:=by kernel_rfl
theorem Qw8:∀(k n:Nat),k<n->∃m,n=m+1:=fun k n h=>⟨n-1,by omega⟩
theorem J0h:∃m,Tryz.prog.types.size=m+1:=Qw8 _ _ Qxr
def Qva (a b c d:Int):Value:=.agg #[.int .i64 a,.int .i64 b,.int .i64 c,.int .i64 d]
def Q62 (x:Int):Prop:= -9223372036854775808<=x/\x<=9223372036854775807
theorem Qw9 {x:Int} (h:Q62 x):(Lit.int .i64 x).wf=true:=by
 unfold Q62 at h;have h1:IntKind.i64.min= -9223372036854775808:=rfl;have h2:IntKind.i64.max=9223372036854775807:=rfl;simp[Lit.wf,h1,h2];omega
theorem Q5w {m:Nat} {x:Int} (h:Q62 x):Tryz.prog.keyLits (m+1) 3 [.int .i64 x]=some [.int .i64 x]:=by
 unfold Program.keyLits;rw[Qw6];simp[Qw9 h]
theorem Qm9 {a b c d:Int} (ha:Q62 a) (hb:Q62 b) (hc:Q62 c) (hd:Q62 d):∃l,keyOf Tryz.prog 230 (Qva a b c d)=some l:=by
 unfold keyOf;rw[Qnz,Qyy];have hf:(Qva a b c d).formed Tryz.prog 230=true:=by
  simp[Value.formed,Qva,Qo0]
 simp only[hf,Bool.and_self,Xaz];obtain ⟨m,hm⟩:=J0h;rw[hm];have hk:Tryz.prog.keyLits (m+1+1) 230 (Qva a b c d).cells.toList=some ([[Lit.int .i64 a],[.int .i64 b],[.int .i64 c],[.int .i64 d]].flatten):=by
  unfold Program.keyLits;rw[Qnz];have C2:(Qva a b c d).cells.toList=[.int .i64 a,.int .i64 b,.int .i64 c,.int .i64 d]:=by simp[Qva,Value.cells]
  rw[C2];simp[Qo0,Qw7,List.range,List.range.loop,Q5w ha,Q5w hb,Q5w hc,Q5w hd]
 rw[hk];exact ⟨_,rfl⟩
theorem Qwa {a b c d a' b' c' d':Int} (h:Qva a b c d=Qva a' b' c' d'):a=a'/\b=b'/\c=c'/\d=d':=by
 unfold Qva at h;injection h with h;simpa using h
abbrev P4:=Int × Int × Int × Int
def P4.v (q:P4):Value:=Qva q.1 q.2.1 q.2.2.1 q.2.2.2
def P4.ok (q:P4):Prop:=Q62 q.1/\Q62 q.2.1/\Q62 q.2.2.1/\Q62 q.2.2.2
theorem P4.key {q:P4} (h:q.ok):∃l,keyOf Tryz.prog 230 q.v=some l:=Qm9 h.1 h.2.1 h.2.2.1 h.2.2.2
theorem P4.inj {q r:P4} (h:q.v=r.v):q=r:=by
 obtain ⟨a,b,c,d⟩:=q;obtain ⟨a',b',c',d'⟩:=r;obtain ⟨h1,h2,h3,h4⟩:=Qwa h;simp only at h1 h2 h3 h4;subst h1;subst h2;subst h3;subst h4;rfl
def J0i (v:Value):Option (DataW Value × List MemPlace):=some (.held v,[])
def Q53 (w:World) (b n:Nat) (g:P4->Option Nat):Prop:=
 ∃D,w.ownsMap Tryz.prog 230 J0i b n D/\∀q l,q.ok->keyOf Tryz.prog 230 q.v=some l->Maps.has D l=(g q).isSome/\D.atKey l (.held (.int .i64 0))=.held (.int .i64 (((g q).getD 0:Nat):Int))
section
variable {w w':World} {b n:Nat} {g:P4->Option Nat}
theorem Q53.made (w:World):Q53 (w.alloc (.map #[] 0)) w.heap.size 0 (fun _=>none):=
 ⟨_,World.ownsMap_made _ _ _ _,fun _ _ _ _=>⟨rfl,rfl⟩⟩
theorem Q53.lt (h:Q53 w b n g):b<w.heap.size:=by obtain ⟨D,h1,_⟩:=h;exact h1.lt
theorem Q53.keep (h:Q53 w b n g) (hk:w'.heap[b]?=w.heap[b]?):Q53 w' b n g:=by
 obtain ⟨D,⟨es',clock,hb,r⟩,h2⟩:=h;exact ⟨D,⟨es',clock,hk.trans hb,r⟩,h2⟩
theorem Q53.look_ok (h:Q53 w b n g) {q:P4} (hq:q.ok):
 (Instr.lookup 228 (.map (some b)) q.v true).run Tryz.prog w=.ok (.tuple #[.int .i64 (((g q).getD 0:Nat):Int),.bool (g q).isSome]) w:=by
 obtain ⟨D,h1,h2⟩:=h;obtain ⟨l,hl⟩:=q.key hq;obtain ⟨v,ps,S1,hv⟩:=World.ownsMap.look_ok h1 Qiz Qtd (Qyz w) (zd:=.held (.int .i64 0)) (zp:=[]) rfl hl;obtain ⟨e1,e2⟩:=h2 q l hq hl;rw[e1] at S1;rw[e2] at hv;unfold J0i at hv;injection hv with hv;injection hv with hv _;injection hv with hv;rw[S1,hv]
theorem Q53.store (h:Q53 w b n g) {q:P4} (hq:q.ok) (hn:n<1000000) (k:Nat):
 ∃w',(Instr.mapUpdate 228 (.map (some b)) q.v (.int .i64 (k:Int))).run Tryz.prog w=.ok () w'/\Q53 w' b (n+1) (fun r=>if r=q then some k else g r)/\w.grownBy w' (some b):=by
 obtain ⟨D,h1,h2⟩:=h;obtain ⟨l,hl⟩:=q.key hq;obtain ⟨w',S1,h3,h4⟩:=World.ownsMap.store h1 Qiz Qtd (by unfold maxLen;omega) (val:=.int .i64 (k:Int)) (d:=.held (.int .i64 (k:Int))) (ps:=[]) hl rfl;refine ⟨w',S1,⟨_,h3,fun r m hr hm=>?_⟩,h4.grown⟩
 show Maps.has _ _=(if r=q then some k else g r).isSome/\_=DataW.held (Value.int .i64 (((if r=q then some k else g r).getD 0:Nat):Int))
 by_cases e:r=q
 ·subst e;rw[hl] at hm;injection hm with hm;subst hm;rw[Us rfl];exact ⟨Maps.has_put_same h1.isMap (Qiz.key hl) _,Maps.atKey_put_same h1.isMap (Qiz.key hl) _ _⟩
 ·have Q0:m≠l:=fun e2=>by
   subst e2;exact e (P4.inj (Qiz.inj hm hl))
  rw[Up e,Maps.has_put_other Q0,Maps.atKey_put_other Q0];exact h2 r m hr hm
end
end Go.Proofs.YtidojbkhlenahaaGreatDoor
namespace Go.Proofs.YtidojbkhlenahaaGreatDoor
open Go.RowKit WordsM
theorem Qma (B:Nat) (w:World):Below B w w.drew:=⟨rfl,rfl,rfl,Ue _,fun _ _=>rfl⟩
def p4 (E:List Int):P4:=(E.getD 0 0,E.getD 1 0,E.getD 2 0,E.getD 3 0)
theorem Qte {E:List Int} (h:E.length<=4):Go.splice [zv 0,zv 0,zv 0,zv 0] 0 (E.map zv)=[zv (p4 E).1,zv (p4 E).2.1,zv (p4 E).2.2.1,zv (p4 E).2.2.2]:=by
 match E,h with
 |[],_=>rfl
 |[_],_=>rfl
 |[_,_],_=>rfl
 |[_,_,_],_=>rfl
 |[_,_,_,_],_=>rfl
 |_::_::_::_::_::_,h=>exact absurd h (by simp)
theorem Qxs {n:Nat} {E F:List Int} (hE:E.length=n) (hF:F.length=n) (hn:n<=4) (h:p4 E=p4 F):E=F:=by
 unfold p4 at h;simp only[Xas] at h;obtain ⟨h0,h1,h2,h3⟩:=h
 apply Xa9
 intro j
 by_cases hj:j<n
 ·have e:∀(A:List Int),A.length=n->A[j]?=some (A.getD j 0):=fun A hA=>by
   rw[US,Ua (by omega)];rfl
  rw[e E hE,e F hF]
  congr 1
  match j,hj with
  |0,_=>exact h0
  |1,_=>exact h1
  |2,_=>exact h2
  |3,_=>exact h3
  |j+4,hj=>omega
 ·rw[UU (by omega),UU (by omega)]
theorem J1l {E:List Int} (h:∀x∈E,Q62 x):(p4 E).ok:=by
 have e:∀j,Q62 (E.getD j 0):=fun j=>by
  rw[US];cases hj:E[j]? with
  |none=>unfold Q62;simp
  |some x=>exact h x (Uf hj)
 exact ⟨e 0,e 1,e 2,e 3⟩
theorem Qpu (nx:Bool) (ex:Int) (ax:OA) (lx cx:Nat) (bx:OA) (mx dx:Nat) (E:List Int) (w:World) (hE:Q0g w bx mx dx E) (h4:E.length<=4) (h0:E≠[]):
 Calls Tryz.prog 186 #[.agg #[.bool nx,.int .i64 ex,.slice ax lx cx,.slice bx mx dx]] w fun r w'=>r=.returned (p4 E).v/\Bw w w':=by
 have G3:=hE.len;have Ya:=Qte h4;obtain ⟨⟨a0,a1,a2,a3⟩,hP4⟩:∃P:P4,p4 E=P:=⟨_,rfl⟩;rw[hP4] at Ya⊢;obtain ⟨p,o,rfl,hp,hc⟩:∃p o,bx=some ⟨p,o,none⟩/\p<w.heap.size/\∀(j:Nat) x,E[j]?=some x->w.cell? ⟨p,o+j,none⟩=some (.int .i64 x):=by
  rcases hE.rd with h1|h1
  ·exact absurd h1 h0
  ·exact h1
 have A2:(Tryz.prog.info? 3).map (·.size)=some 1:=by kernel_rfl
 obtain ⟨o1,Yb⟩:∃oo:Obj,oo=.cells #[.bool nx,.int .i64 ex,.slice ax lx cx,.slice (some ⟨p,o,none⟩) mx dx] 98:=⟨_,rfl⟩;obtain ⟨o2,ZI⟩:∃oo:Obj,oo=.cells #[.int .i64 0,.int .i64 0,.int .i64 0,.int .i64 0] 230:=⟨_,rfl⟩;have s1:(w.alloc o1).heap.size=w.heap.size+1:=Ui _ _;have s2:((w.alloc o1).alloc o2).heap.size=w.heap.size+1+1:=by rw[Ui,s1]
 have s3:(((w.alloc o1).alloc o2).alloc o2).heap.size=w.heap.size+1+1+1:=by rw[Ui,s2]
 have b1:Bw w (w.alloc o1):=Ba;have b2:Below (w.alloc o1).heap.size (w.alloc o1) ((w.alloc o1).alloc o2):=Ba;have b3:Below ((w.alloc o1).alloc o2).heap.size ((w.alloc o1).alloc o2) (((w.alloc o1).alloc o2).alloc o2):=Ba;have hX0:Q34 (w.alloc o1) w.heap.size (.bool nx) (.int .i64 ex) (.slice ax lx cx) (.slice (some ⟨p,o,none⟩) mx dx):=by rw[Yb];exact Q34.new _ _ _ _ _ _
 have hX:=(hX0.step b2 (by omega)).step b3 (by omega);have hR0:Q34 ((w.alloc o1).alloc o2) (w.alloc o1).heap.size (.int .i64 0) (.int .i64 0) (.int .i64 0) (.int .i64 0):=by rw[ZI];exact Q34.new _ _ _ _ _ _
 have hR:=hR0.step b3 (by omega);have hP:(((w.alloc o1).alloc o2).alloc o2).heap[w.heap.size+1+1]?=some o2:=by
  have h:=Um ((w.alloc o1).alloc o2) o2;rw[s2] at h;exact h
 rw[s1] at hR;clear hX0 hR0;have hB:=Below.next0 (Below.next0 b1 b2) b3;rw[Yb,ZI] at hX hR hB hP s3;generalize R1:((w.alloc (.cells #[.bool nx,.int .i64 ex,.slice ax lx cx,.slice (some ⟨p,o,none⟩) mx dx] 98)).alloc (.cells #[.int .i64 0,.int .i64 0,.int .i64 0,.int .i64 0] 230)).alloc (.cells #[.int .i64 0,.int .i64 0,.int .i64 0,.int .i64 0] 230)=W0 at hX hR hB hP s3;have x3:=hX.c3;have x3d:W0.drew.cell? ⟨w.heap.size,3,none⟩=some (.slice (some ⟨p,o,none⟩) mx dx):=x3;have hmx:mx<=4:=by omega
 have G8:∀j v,(E.map zv)[j]?=some v->W0.drew.cell? ((⟨p,o,none⟩:Addr).add j)=some v:=fun j v hv=>by
  rw[UP] at hv;cases hx:E[j]? with
  |none=>rw[hx] at hv;cases hv
  |some x=>
   rw[hx] at hv;simp only[Uz,Uj] at hv;subst hv;have S5:(⟨p,o,none⟩:Addr).add j=⟨p,o+j,none⟩:=(by unfold Addr.add;split <;> simp_all);rw[S5];exact (hB.cell (p:=⟨p,o+j,none⟩) hp).trans (hc j x hx)
 have HC:=Xh8 hX hR hB hP s3 G8 G3 Ya;clear hX hR hB hP s3 s1 s2 b1 b2 b3 Yb ZI G8 hc hE G3 Ya h0
 go_enter Tryz.func186,Tryz.ntmps186
 go_upto_region 2 with fail
 go_cut [] (fun wx=>wx.heap[w.heap.size+1+1]?=some (.cells #[zv a0,zv a1,zv a2,zv a3] 230 (0,0))/\Below (w.heap.size+1+1) W0 wx)
 case first=>
  go_region_law (
   refine step_copy_splice rfl (.tmp 4) (.tmp 6) 96 96 rfl 3 Tryz.underlying96 A2 (some ⟨w.heap.size+1+1,0,none⟩) (some ⟨p,o,none⟩) 4 4 mx dx rfl rfl (w.heap.size+1+1) 0 [zv 0,zv 0,zv 0,zv 0] 230 (Xo3 HC) (E.map zv) (by rw[UK,(Xo6 HC)];exact (Xa4 hmx).symm) (fun _=>⟨rfl,⟨p,o,none⟩,rfl,(Xo5 HC)⟩) (by simp;omega) (Qxq E) (w.heap.size+1+1) W0 (Qma _ _) (Ue _) ?_;intro w4 hh F2)
  all_goals go_wp2_with fail
  all_goals go_meet
  all_goals exact ⟨by rw[<-(Xe7 HC)];exact hh.out,F2⟩
 case rest=>
  obtain ⟨hh,F2⟩:=hcut;have D8:=(Xo1 HC).step F2 (by omega);have HH:=Ub F2;have q0:=Uv wc (w.heap.size+1+1) 0 _ _ _ hh;have q1:=Uv wc (w.heap.size+1+1) 1 _ _ _ hh;have q2:=Uv wc (w.heap.size+1+1) 2 _ _ _ hh;have q3:=Uv wc (w.heap.size+1+1) 3 _ _ _ hh;simp only[List.getElem?_toArray,UD,List.getElem?_cons_succ,zv] at q0 q1 q2 q3;have d1:=(Ud wc ⟨w.heap.size+1,0,none⟩ ⟨w.heap.size+1,1,none⟩ (.int .i64 a0) (by simp)).trans D8.c1;have d2:=((D8.set0 (.int .i64 a0)).set1 (.int .i64 a1)).c2;have d3:=(((D8.set0 (.int .i64 a0)).set1 (.int .i64 a1)).set2 (.int .i64 a2)).c3;obtain ⟨r0,r1,r2⟩:=D8.cc;have r3:=D8.c3;have t0:=D8.f0;have t1:=D8.f1;have t2:=D8.f2;have t3:=D8.f3;have hS:=D8.store (.int .i64 a0) (.int .i64 a1) (.int .i64 a2) (.int .i64 a3);have HS:=Xh2 hS F2;clear D8 hS F2 hh
  go_wp2_with fail
  have hw:=(Xo0 HS);obtain ⟨k0,k1,k2⟩:=hw.cc;have k3:=hw.c3;have Q3:=(((((Xo2 HC).trans (show Below w.heap.size W0 wc from ⟨(Xe1 HS).os,(Xe1 HS).tape,(Xe1 HS).output,(Xe1 HS).size,fun k hk=>(Xe1 HS).block k (by omega)⟩)).setCell (p:=⟨w.heap.size+1,0,none⟩) (by show w.heap.size<=w.heap.size+1;omega) (.int .i64 a0)).setCell (p:=⟨w.heap.size+1,1,none⟩) (by show w.heap.size<=w.heap.size+1;omega) (.int .i64 a1)).setCell (p:=⟨w.heap.size+1,2,none⟩) (by show w.heap.size<=w.heap.size+1;omega) (.int .i64 a2)).setCell (p:=⟨w.heap.size+1,3,none⟩) (by show w.heap.size<=w.heap.size+1;omega) (.int .i64 a3);refine ⟨rfl,.agg #[.int .i64 a0,.int .i64 a1,.int .i64 a2,.int .i64 a3],by simp[results,go_sem,k0,k1,k2,k3],rfl,Q3⟩
end Go.Proofs.YtidojbkhlenahaaGreatDoor
