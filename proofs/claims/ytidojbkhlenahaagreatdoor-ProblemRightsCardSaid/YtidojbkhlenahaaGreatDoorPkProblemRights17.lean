/- Part 17. No condition. -/
import Derived.Great.BuildSlice
import Derived.RangeFuncNested
import Derived.Scope
import Derived.RangeFuncWrites
import Derived.RangeFuncBound
import Derived.RangeFuncLeaves
import Derived.Test.YtidojbkhlenahaaGreatDoorPkProblemRights16
set_option maxRecDepth 100000
set_option maxHeartbeats 16000000
namespace Go.Proofs.YtidojbkhlenahaaGreatDoor
open Go.RowKit WordsM
structure Qvs (w W:World) (x0 x1 x2 y0 y1 y2:Value):Prop where
 bx:Q03 W w.heap.size x0 x1 x2
 by_:Q03 W (w.heap.size+1) y0 y1 y2
 br:Q03 W (w.heap.size+2) (.bool false) (.slice none 0 0) (.int .i64 0)
 lt:w.heap.size+2<W.heap.size
 bel:Bw w W
theorem Qvs.step {w W W':World} {x0 x1 x2 y0 y1 y2:Value} (h:Qvs w W x0 x1 x2 y0 y1 y2) (hb:Bw W W'):Qvs w W' x0 x1 x2 y0 y1 y2:=by
 have E0:=h.lt;exact ⟨h.bx.step hb (by omega),h.by_.step hb (by omega),h.br.step hb (by omega),Ue h.lt hb.size,Below.next0 h.bel hb⟩
theorem Qds (w:World) (x0 x1 x2 y0 y1 y2:Value) (T1 T2 T3:TypeId):Qvs w (((w.alloc (.cells #[x0,x1,x2] T1)).alloc (.cells #[y0,y1,y2] T2)).alloc (.cells #[.bool false,.slice none 0 0,.int .i64 0] T3)) x0 x1 x2 y0 y1 y2:=by
 obtain ⟨h1,h2,h3,h4,h5⟩:=Qhf w x0 x1 x2 y0 y1 y2 (.bool false) (.slice none 0 0) (.int .i64 0) T1 T2 T3;exact ⟨h2,h3,h4,by omega,h5⟩
structure Two (w W:World) (x0 x1 x2:Value):Prop where
 bx:Q03 W w.heap.size x0 x1 x2
 br:Q03 W (w.heap.size+1) (.bool false) (.slice none 0 0) (.int .i64 0)
 lt:w.heap.size+1<W.heap.size
 bel:Bw w W
theorem Two.step {w W W':World} {x0 x1 x2:Value} (h:Two w W x0 x1 x2) (hb:Bw W W'):Two w W' x0 x1 x2:=by
 have E0:=h.lt;exact ⟨h.bx.step hb (by omega),h.br.step hb (by omega),Ue h.lt hb.size,Below.next0 h.bel hb⟩
theorem Qt1 (w:World) (x0 x1 x2:Value) (T1 T3:TypeId):Two w ((w.alloc (.cells #[x0,x1,x2] T1)).alloc (.cells #[.bool false,.slice none 0 0,.int .i64 0] T3)) x0 x1 x2:=by
 obtain ⟨h1,h2,h3,h4⟩:=Q7d w x0 x1 x2 (.bool false) (.slice none 0 0) (.int .i64 0) T1 T3;exact ⟨h2,h3,by omega,h4⟩
theorem Qt2 {nx ny:Bool} {ex ey:Int} {vx vy:Nat} (h1:vx≠0) (h2:vy≠0) (c1:Q5n nx vx ex) (c2:Q5n ny vy ey):Q5n (nx != ny) (vx*vy) (ex+ey):=
 ⟨fun h=>by rcases Nat.mul_eq_zero.1 h with h|h <;> contradiction,fun _=>by rw[Nat.mul_mod,c1.2 h1,c2.2 h2]⟩
theorem Qzi (n:Bool) (v:Nat) {e f:Int} {k:Nat} (h:e=f+k):dy (sgn n v) e=dy (sgn n (v*2^k)) f:=by
 subst h;rw[Qcc,Q3k]
theorem Qlq (n:Bool) (x y:Nat) (f:Int):dy (sgn n x) f+dy (sgn n y) f=dy (sgn n (x+y)) f:=by
 rw[Qm8]
 congr 1
 cases n <;> simp[sgn];omega
theorem Q8w {n m:Bool} (h:n≠m) {x y:Nat} (JY:y<=x) (f:Int):dy (sgn n x) f+dy (sgn m y) f=dy (sgn n (x-y)) f:=by
 rw[Qm8]
 congr 1
 cases n <;> cases m <;> simp_all [sgn] <;> omega
theorem Qjo (nx:Bool) (ex:Int) (ax:OA) (lx cx:Nat) (ls:LN) (w:World) (h:WordsIn w ax lx cx ls) (hi:Q0a nx ex ls):
 Calls Tryz.prog 59 #[.agg #[.bool nx,.int .i64 ex,.slice ax lx cx]] w (Qil w (Q1r nx ex ls)):=by
 have K5:=(Q6e hi h.low).1;have J3:=h.len;have hcn:Q5n nx (val (2^64) ls) ex:=Ql2 hi h.low;have hQ:=fun W=>(Qt1 w (.bool nx) (.int .i64 ex) (.slice ax lx cx) 26 87).step (W':=W);obtain ⟨W0,E1⟩:∃W0,(w.alloc (.cells #[.bool nx,.int .i64 ex,.slice ax lx cx] 26)).alloc (.cells #[.bool false,.slice none 0 0,.int .i64 0] 87)=W0:=⟨_,rfl⟩;rw[E1] at hQ;have HQ:=Ua hQ;have HW:=Ua h;have HC:=Ua hcn;clear hQ h hcn hi
 go_enter Tryz.func59,Tryz.ntmps59
 go_wp2_with fail
 refine Q2a (by kernel_rfl) 8 rfl (fun W=>Bw W0 W) (fun _ _ h h'=>Below.next0 h h') (Q40 [.pointer (some ⟨w.heap.size,0,none⟩),.bool nx,.pointer (some ⟨w.heap.size,2,none⟩),.slice ax lx cx,undef,.pointer (some ⟨w.heap.size,1,none⟩),.int .i64 ex,undef] (Q1h [(4,SlD (2*lx) (val (2^64) ls)),(7,fun u w=>Q9k w u (Q1r nx ex ls))])) (Q0c (Q0h (Ql1 (SlD.stable _ _) (Q34 _)))) (Qxd w (w.heap.size+1) (Q1r nx ex ls)) (by kernel_rfl) (by kernel_rfl) (by kernel_rfl) (by kernel_rfl) (Q01 W0) ?_ ?_ ?_
 ·skip
  repeat' (first|exact Q8n|refine Q8m ?_ ?_)
  all_goals first
   |(refine Q1u rfl fun A W hW G0 hd hd=>?_
     simp[Q7q,Region.binds,Q1h] at hd;have e1:=Q0d G0 1 (by kernel_rfl) rfl;obtain ⟨u0_0,u0_1,u0_2,_,_,_⟩:=(HQ.out W hW).bx;refine Q2x rfl rfl ?_;simp[go_sem,hd,e1,u0_0,u0_2,u0_1]
     done)
   |skip
  ·intro A W hW G0 C0;have e6:=Q12 C0 3 (by decide) rfl rfl rfl;refine Q07 rfl ?_;refine Q0z (f:=73) (args:= #[.slice ax lx cx]) (by simp[go_sem,e6]) ((Q5b ax lx cx ls W (HW.out.step (HQ.out W hW).bel) (by omega)).mono ?_);rintro e w2 ⟨a',n',c',rfl,ZF,Y7,K3⟩;exact ⟨_,rfl,K3,(Q02 rfl).2 ⟨a',n',c',rfl,ZF,Y7⟩⟩
  ·intro A W hW G0 C0;have e4:=Q12 C0 1 (by decide) rfl rfl rfl;have e9:=Q12 C0 6 (by decide) rfl rfl rfl;refine Q07 rfl ?_;obtain ⟨a7,l7,c7,WX,hl7,KW⟩:=(Q02 rfl).1 (C0 4 (by decide));have e7:=Q44 WX;refine Q6v (u:=.agg #[.bool nx,.slice a7 l7 c7,.int .i64 ex]) ?_ ((Q02 rfl).2 ⟨nx,a7,l7,c7,ex,_,rfl,KW,HC.out,rfl⟩);simp[go_sem,e4,e7,e9]
 ·intro A W hW G0 C0;obtain ⟨n8,a8,l8,c8,q8,v8,Ji,Zi,Y9,Za⟩:=(Q02 rfl).1 (C0 7 (by decide));have e10:=Q44 Ji;have e2:=Q0d G0 2 (by kernel_rfl) rfl;have Y4:=(HQ.out W hW).br;have k0:=Y4.c0;have f0:=Y4.f0;have f1:=Y4.f1;have f2:=Y4.f2;have d1:=Y4.d1 (.bool n8);have d2:=Y4.d2 (.bool n8) (.slice a8 l8 c8);refine Q45 (w':=(((W.setCell ⟨(w.heap.size+1),0,none⟩ (.bool n8)).setCell ⟨(w.heap.size+1),1,none⟩ (.slice a8 l8 c8)).setCell ⟨(w.heap.size+1),2,none⟩ (.int .i64 q8))) (by simp[go_sem,e2,e10,k0,f0,f1,f2,d1,d2]) ?_;exact Q51 (by omega) (HQ.out W hW).bel Y4 Zi Y9 Za
 intro vs W1 X2;simp only[Q0r,Act.put,Ur,Ux,Uv];obtain ⟨n9,a9,l9,c9,e9,v9,i7,V9,o6,QS,j4⟩:=X2;obtain ⟨k0,k1,k2⟩:=i7.cc;have HE:=Xh4 V9 o6 QS j4;clear i7 V9 o6 QS j4
 go_wp2_with fail
 exact ⟨rfl,.agg #[.bool n9,.slice a9 l9 c9,.int .i64 e9],by simp[results,go_sem,k0,k1,k2],_,rfl,⟨n9,a9,l9,c9,e9,v9,rfl,(Xo0 HE),(Xo1 HE),(Xo2 HE)⟩,(Xe3 HE)⟩
theorem Qzj (nx:Bool) (ax:OA) (lx cx:Nat) (ex:Int) (vx:Nat) (ny:Bool) (ay:OA) (ly cy:Nat) (ey:Int) (vy:Nat) (w:World) (h1:Q0x w ax lx cx vx) (h2:Q0x w ay ly cy vy) (c1:Q5n nx vx ex) (c2:Q5n ny vy ey) (T:Nat) (b1:bnd T (dy (sgn nx vx) ex)) (b2:bnd T (dy (sgn ny vy) ey)) (hT:T<=500000):
 Calls Tryz.prog 223 #[.agg #[.bool nx,.slice ax lx cx,.int .i64 ex],.agg #[.bool ny,.slice ay ly cy,.int .i64 ey]] w (Qil w (dy (sgn nx vx) ex*dy (sgn ny vy) ey)):=by
 obtain ⟨g1,g2,g3⟩:=Qgm (k:=31250) c1 b1 (by omega);obtain ⟨g4,g5,g6⟩:=Qgm (k:=31250) c2 b2 (by omega);rw[h1.len] at g1;rw[h2.len] at g4;have hQ:=fun W=>(Qds w (.bool nx) (.slice ax lx cx) (.int .i64 ex) (.bool ny) (.slice ay ly cy) (.int .i64 ey) 87 87 87).step (W':=W);obtain ⟨W0,E1⟩:∃W0,((w.alloc (.cells #[.bool nx,.slice ax lx cx,.int .i64 ex] 87)).alloc (.cells #[.bool ny,.slice ay ly cy,.int .i64 ey] 87)).alloc (.cells #[.bool false,.slice none 0 0,.int .i64 0] 87)=W0:=⟨_,rfl⟩;rw[E1] at hQ;have HQ:=Ua hQ;have O4:=fun h=>Q0x.none_of h1 h;have QY:=fun h=>Q0x.none_of h2 h;have Qt:IntKind.i64.wrap (ex+ey)=ex+ey:=by rw[UO];omega
 by_cases hvx:vx=0
 ·obtain rfl:=O4 hvx;have hD:(0:Dyadic)=dy (sgn nx vx) ex*dy (sgn ny vy) ey:=by rw[Qd2 nx ex hvx,Dyadic.zero_mul]
  have HD:=Ua hD;clear hD h1 h2 c1 c2 b1 b2 O4 QY hvx;have xc1:=(HQ.out W0 (Uc _ _)).bx.c1;have rc0:=(HQ.out W0 (Uc _ _)).br.c0;have rc1:=(HQ.out W0 (Uc _ _)).br.c1;have rc2:=(HQ.out W0 (Uc _ _)).br.c2;have rf0:=(HQ.out W0 (Uc _ _)).br.f0;have rf1:=(HQ.out W0 (Uc _ _)).br.f1;have rf2:=(HQ.out W0 (Uc _ _)).br.f2;have rd1:=(HQ.out W0 (Uc _ _)).br.d1 (.bool false);have rd2:=(HQ.out W0 (Uc _ _)).br.d2 (.bool false) (.slice none 0 0)
  go_enter Tryz.func223,Tryz.ntmps223
  go_wp2_with fail
  have hS:=(HQ.out W0 (Uc _ _)).br.store (.bool false) (.slice none 0 0) (.int .i64 0);obtain ⟨k0,k1,k2⟩:=hS.cc;have G3:=Q03.below (HQ.out W0 (Uc _ _)).bel (show w.heap.size<=w.heap.size+2 by omega) (.bool false) (.slice none 0 0) (.int .i64 0);exact ⟨rfl,.agg #[.bool false,.slice none 0 0,.int .i64 0],by simp[results,go_sem,k0,k1,k2],_,rfl,⟨false,none,0,0,0,0,rfl,Q0x.nil_ _,⟨fun _=>⟨rfl,rfl⟩,fun h=>absurd rfl h⟩,HD.out⟩,G3⟩
 have K5:((lx:Int)==0)=false:=by
  rw[Uj];intro e;exact hvx (h1.zero_of (by omega))
 by_cases hvy:vy=0
 ·obtain rfl:=QY hvy;have hD:(0:Dyadic)=dy (sgn nx vx) ex*dy (sgn ny vy) ey:=by rw[Qd2 ny ey hvy,Dyadic.mul_zero]
  have HD:=Ua hD;clear hD h1 h2 c1 c2 b1 b2 O4 QY hvy hvx;have xc1:=(HQ.out W0 (Uc _ _)).bx.c1;have yc1:=(HQ.out W0 (Uc _ _)).by_.c1;have rc0:=(HQ.out W0 (Uc _ _)).br.c0;have rc1:=(HQ.out W0 (Uc _ _)).br.c1;have rc2:=(HQ.out W0 (Uc _ _)).br.c2;have rf0:=(HQ.out W0 (Uc _ _)).br.f0;have rf1:=(HQ.out W0 (Uc _ _)).br.f1;have rf2:=(HQ.out W0 (Uc _ _)).br.f2;have rd1:=(HQ.out W0 (Uc _ _)).br.d1 (.bool false);have rd2:=(HQ.out W0 (Uc _ _)).br.d2 (.bool false) (.slice none 0 0)
  go_enter Tryz.func223,Tryz.ntmps223
  go_wp2_with fail
  have hS:=(HQ.out W0 (Uc _ _)).br.store (.bool false) (.slice none 0 0) (.int .i64 0);obtain ⟨k0,k1,k2⟩:=hS.cc;have G3:=Q03.below (HQ.out W0 (Uc _ _)).bel (show w.heap.size<=w.heap.size+2 by omega) (.bool false) (.slice none 0 0) (.int .i64 0);exact ⟨rfl,.agg #[.bool false,.slice none 0 0,.int .i64 0],by simp[results,go_sem,k0,k1,k2],_,rfl,⟨false,none,0,0,0,0,rfl,Q0x.nil_ _,⟨fun _=>⟨rfl,rfl⟩,fun h=>absurd rfl h⟩,HD.out⟩,G3⟩
 have hly:((ly:Int)==0)=false:=by
  rw[Uj];intro e;exact hvy (h2.zero_of (by omega))
 have HW:=Xh2 h1 h2;have R2:=Qt2 hvx hvy c1 c2;have Va:dy (sgn (nx != ny) (vx*vy)) (ex+ey)=dy (sgn nx vx) ex*dy (sgn ny vy) ey:=by rw[Qwd,Qqj]
 have HC:=Xh2 R2 Va;have xc1:=(HQ.out W0 (Uc _ _)).bx.c1;have yc1:=(HQ.out W0 (Uc _ _)).by_.c1;clear h1 h2 c1 c2 b1 b2 O4 QY hvy hvx R2 Va
 go_enter Tryz.func223,Tryz.ntmps223
 go_wp2_with fail
 refine Q2a (by kernel_rfl) 16 rfl (fun W=>Bw W0 W) (fun _ _ h h'=>Below.next0 h h') (Q40 [.pointer (some ⟨w.heap.size,0,none⟩),.bool nx,.pointer (some ⟨(w.heap.size+1),0,none⟩),.bool ny,.bool (nx != ny),.pointer (some ⟨w.heap.size,1,none⟩),.slice ax lx cx,.pointer (some ⟨(w.heap.size+1),1,none⟩),.slice ay ly cy,undef,.pointer (some ⟨w.heap.size,2,none⟩),.int .i64 ex,.pointer (some ⟨(w.heap.size+1),2,none⟩),.int .i64 ey,.int .i64 (ex+ey),undef] (Q1h [(9,SlD 9223372036854775807 (vx*vy)),(15,fun u w=>Q9k w u (dy (sgn nx vx) ex*dy (sgn ny vy) ey))])) (Q0c (Q0h (Ql1 (SlD.stable _ _) (Q34 _)))) (Qxd w (w.heap.size+2) (dy (sgn nx vx) ex*dy (sgn ny vy) ey)) (by kernel_rfl) (by kernel_rfl) (by kernel_rfl) (by kernel_rfl) (Q01 W0) ?_ ?_ ?_
 ·skip
  repeat' (first|exact Q8n|refine Q8m ?_ ?_)
  all_goals first
   |(refine Q1u rfl fun A W hW G0 hd hd=>?_
     simp[Q7q,Region.binds,Q1h] at hd;have e2:=Q0d G0 2 (by kernel_rfl) rfl;have e3:=Q0d G0 3 (by kernel_rfl) rfl;obtain ⟨u0_0,u0_1,u0_2,_,_,_⟩:=(HQ.out W hW).bx;obtain ⟨u1_0,u1_1,u1_2,_,_,_⟩:=(HQ.out W hW).by_;refine Q2x rfl rfl ?_;simp[go_sem,hd,e2,e3,u0_0,u1_0,u0_1,u1_1,u0_2,u1_2,Qt]
     done)
   |skip
  ·intro A W hW G0 C0;have e17:=Q12 C0 1 (by decide) rfl rfl rfl;have e19:=Q12 C0 3 (by decide) rfl rfl rfl;refine Q07 rfl ?_;refine Q2x rfl rfl ?_;cases nx <;> cases ny <;> simp[go_sem,e17,e19]
  ·intro A W hW G0 C0;have e22:=Q12 C0 6 (by decide) rfl rfl rfl;have e24:=Q12 C0 8 (by decide) rfl rfl rfl;refine Q07 rfl ?_;refine Q0z (f:=139) (args:= #[.slice ax lx cx,.slice ay ly cy]) (by simp[go_sem,e22,e24]) ((Qns ax lx cx vx ay ly cy vy W ((Xo0 HW).step (HQ.out W hW).bel) ((Xe1 HW).step (HQ.out W hW).bel) (by omega) (by omega)).mono ?_);rintro e w2 ⟨a',n',rfl,Y7,K3⟩;exact ⟨_,rfl,K3,(Q02 rfl).2 ⟨a',n',n',rfl,Quw Y7,Y7⟩⟩
  ·intro A W hW G0 C0;have e20:=Q12 C0 4 (by decide) rfl rfl rfl;have e30:=Q12 C0 14 (by decide) rfl rfl rfl;refine Q07 rfl ?_;obtain ⟨a7,l7,c7,WX,hl7,KW⟩:=(Q02 rfl).1 (C0 9 (by decide));have e25:=Q44 WX;refine Q6v (u:=.agg #[.bool (nx != ny),.slice a7 l7 c7,.int .i64 (ex+ey)]) ?_ ((Q02 rfl).2 ⟨_,a7,l7,c7,_,_,rfl,KW,(Xo0 HC),(Xe1 HC)⟩);simp[go_sem,e20,e25,e30]
 ·intro A W hW G0 C0;obtain ⟨n8,a8,l8,c8,q8,v8,Ji,Zi,Y9,Za⟩:=(Q02 rfl).1 (C0 15 (by decide));have e31:=Q44 Ji;have e4:=Q0d G0 4 (by kernel_rfl) rfl;have Y4:=(HQ.out W hW).br;have k0:=Y4.c0;have f0:=Y4.f0;have f1:=Y4.f1;have f2:=Y4.f2;have d1:=Y4.d1 (.bool n8);have d2:=Y4.d2 (.bool n8) (.slice a8 l8 c8);refine Q45 (w':=(((W.setCell ⟨(w.heap.size+2),0,none⟩ (.bool n8)).setCell ⟨(w.heap.size+2),1,none⟩ (.slice a8 l8 c8)).setCell ⟨(w.heap.size+2),2,none⟩ (.int .i64 q8))) (by simp[go_sem,e4,e31,k0,f0,f1,f2,d1,d2]) ?_;exact Q51 (by omega) (HQ.out W hW).bel Y4 Zi Y9 Za
 intro vs W1 X2;simp only[Q0r,Act.put,Ur,Ux,Uv];obtain ⟨n9,a9,l9,c9,e9,v9,i7,V9,o6,QS,j4⟩:=X2;obtain ⟨k0,k1,k2⟩:=i7.cc;have HE:=Xh4 V9 o6 QS j4;clear i7 V9 o6 QS j4
 go_wp2_with fail
 exact ⟨rfl,.agg #[.bool n9,.slice a9 l9 c9,.int .i64 e9],by simp[results,go_sem,k0,k1,k2],_,rfl,⟨n9,a9,l9,c9,e9,v9,rfl,(Xo0 HE),(Xo1 HE),(Xo2 HE)⟩,(Xe3 HE)⟩
theorem Qlr (nx:Bool) (ax:OA) (lx cx:Nat) (ex:Int) (vx:Nat) (ny:Bool) (ay:OA) (ly cy:Nat) (ey:Int) (vy:Nat) (w:World) (h1:Q0x w ax lx cx vx) (h2:Q0x w ay ly cy vy) (c1:Q5n nx vx ex) (c2:Q5n ny vy ey) (T:Nat) (b1:bnd T (dy (sgn nx vx) ex)) (b2:bnd T (dy (sgn ny vy) ey)) (hT:T<=500000):
 Calls Tryz.prog 151 #[.agg #[.bool nx,.slice ax lx cx,.int .i64 ex],.agg #[.bool ny,.slice ay ly cy,.int .i64 ey]] w (Qil w (dy (sgn nx vx) ex+dy (sgn ny vy) ey)):=by
 obtain ⟨g1,g2,g3⟩:=Qgm (k:=31250) c1 b1 (by omega);obtain ⟨g4,g5,g6⟩:=Qgm (k:=31250) c2 b2 (by omega);rw[h1.len] at g1;rw[h2.len] at g4;have hQ:=fun W=>(Qds w (.bool nx) (.slice ax lx cx) (.int .i64 ex) (.bool ny) (.slice ay ly cy) (.int .i64 ey) 87 87 87).step (W':=W);obtain ⟨W0,E1⟩:∃W0,((w.alloc (.cells #[.bool nx,.slice ax lx cx,.int .i64 ex] 87)).alloc (.cells #[.bool ny,.slice ay ly cy,.int .i64 ey] 87)).alloc (.cells #[.bool false,.slice none 0 0,.int .i64 0] 87)=W0:=⟨_,rfl⟩;rw[E1] at hQ;have HQ:=Ua hQ;have O4:=fun h=>Q0x.none_of h1 h;have QY:=fun h=>Q0x.none_of h2 h
 by_cases hvx:vx=0
 ·obtain rfl:=O4 hvx;have hD:dy (sgn ny vy) ey=dy (sgn nx vx) ex+dy (sgn ny vy) ey:=by rw[Qd2 nx ex hvx,Dyadic.zero_add]
  have HD:=Xh3 hD c2 h2;clear hD h1 h2 c1 c2 b1 b2 O4 QY hvx;have xc1:=(HQ.out W0 (Uc _ _)).bx.c1;have yc0:=(HQ.out W0 (Uc _ _)).by_.c0;have yc1:=(HQ.out W0 (Uc _ _)).by_.c1;have yc2:=(HQ.out W0 (Uc _ _)).by_.c2;have rc0:=(HQ.out W0 (Uc _ _)).br.c0;have rc1:=(HQ.out W0 (Uc _ _)).br.c1;have rc2:=(HQ.out W0 (Uc _ _)).br.c2;have rf0:=(HQ.out W0 (Uc _ _)).br.f0;have rf1:=(HQ.out W0 (Uc _ _)).br.f1;have rf2:=(HQ.out W0 (Uc _ _)).br.f2;have rd1:=(HQ.out W0 (Uc _ _)).br.d1 (.bool ny);have rd2:=(HQ.out W0 (Uc _ _)).br.d2 (.bool ny) (.slice ay ly cy)
  go_enter Tryz.func151,Tryz.ntmps151
  go_wp2_with fail
  have hS:=(HQ.out W0 (Uc _ _)).br.store (.bool ny) (.slice ay ly cy) (.int .i64 ey);obtain ⟨k0,k1,k2⟩:=hS.cc;have G3:=Q03.below (HQ.out W0 (Uc _ _)).bel (show w.heap.size<=w.heap.size+2 by omega) (.bool ny) (.slice ay ly cy) (.int .i64 ey);exact ⟨rfl,.agg #[.bool ny,.slice ay ly cy,.int .i64 ey],by simp[results,go_sem,k0,k1,k2],_,rfl,⟨_,_,_,_,_,_,rfl,((Xe2 HD).step (HQ.out W0 (Uc _ _)).bel).box (HQ.out W0 (Uc _ _)).br _ _ _,(Xo1 HD),(Xo0 HD)⟩,G3⟩
 have K5:((lx:Int)==0)=false:=by
  rw[Uj];intro e;exact hvx (h1.zero_of (by omega))
 by_cases hvy:vy=0
 ·obtain rfl:=QY hvy;have hD:dy (sgn nx vx) ex=dy (sgn nx vx) ex+dy (sgn ny vy) ey:=by rw[Qd2 ny ey hvy,Xbo]
  have HD:=Xh3 hD c1 h1;clear hD h1 h2 c1 c2 b1 b2 O4 QY hvy hvx;have xc0:=(HQ.out W0 (Uc _ _)).bx.c0;have xc1:=(HQ.out W0 (Uc _ _)).bx.c1;have xc2:=(HQ.out W0 (Uc _ _)).bx.c2;have yc1:=(HQ.out W0 (Uc _ _)).by_.c1;have rc0:=(HQ.out W0 (Uc _ _)).br.c0;have rc1:=(HQ.out W0 (Uc _ _)).br.c1;have rc2:=(HQ.out W0 (Uc _ _)).br.c2;have rf0:=(HQ.out W0 (Uc _ _)).br.f0;have rf1:=(HQ.out W0 (Uc _ _)).br.f1;have rf2:=(HQ.out W0 (Uc _ _)).br.f2;have rd1:=(HQ.out W0 (Uc _ _)).br.d1 (.bool nx);have rd2:=(HQ.out W0 (Uc _ _)).br.d2 (.bool nx) (.slice ax lx cx)
  go_enter Tryz.func151,Tryz.ntmps151
  go_wp2_with fail
  have hS:=(HQ.out W0 (Uc _ _)).br.store (.bool nx) (.slice ax lx cx) (.int .i64 ex);obtain ⟨k0,k1,k2⟩:=hS.cc;have G3:=Q03.below (HQ.out W0 (Uc _ _)).bel (show w.heap.size<=w.heap.size+2 by omega) (.bool nx) (.slice ax lx cx) (.int .i64 ex);exact ⟨rfl,.agg #[.bool nx,.slice ax lx cx,.int .i64 ex],by simp[results,go_sem,k0,k1,k2],_,rfl,⟨_,_,_,_,_,_,rfl,((Xe2 HD).step (HQ.out W0 (Uc _ _)).bel).box (HQ.out W0 (Uc _ _)).br _ _ _,(Xo1 HD),(Xo0 HD)⟩,G3⟩
 have hly:((ly:Int)==0)=false:=by
  rw[Uj];intro e;exact hvy (h2.zero_of (by omega))
 obtain ⟨ee,hee⟩:∃ee,min ex ey=ee:=⟨_,rfl⟩;obtain ⟨p,hp⟩:∃p:Nat,ex-ee=(p:Int):=⟨(ex-ee).toNat,by omega⟩;obtain ⟨q,hq⟩:∃q:Nat,ey-ee=(q:Int):=⟨(ey-ee).toNat,by omega⟩;have Qr:p<=1000000:=by omega
 have J5:q<=1000000:=by omega
 have hee1: -1000000<=ee:=by omega
 have hee2:ee<=1000000:=by omega
 have hDx:=Qzi nx vx (e:=ex) (f:=ee) (k:=p) (by omega);have hDy:=Qzi ny vy (e:=ey) (f:=ee) (k:=q) (by omega);obtain ⟨X,hX⟩:∃X,vx*2^p=X:=⟨_,rfl⟩;obtain ⟨Y,hY⟩:∃Y,vy*2^q=Y:=⟨_,rfl⟩;rw[hX] at hDx;rw[hY] at hDy;have E3:IntKind.i64.wrap (p:Int)=(p:Int):=by rw[UO];omega
 have R4:IntKind.i64.wrap (q:Int)=(q:Int):=by rw[UO];omega
 have HW:=Xh2 h1 h2;have HV:=Xh2 hX hY;have xc:=(HQ.out W0 (Uc _ _)).bx;have yc:=(HQ.out W0 (Uc _ _)).by_;have xc1:=xc.c1;have yc1:=yc.c1;have xc2:=xc.c2;have yc2:=yc.c2;rw[hDx,hDy];obtain ⟨D,hD⟩:∃D,dy (sgn nx X) ee+dy (sgn ny Y) ee=D:=⟨_,rfl⟩;rw[hD];have HD:=Ua hD;clear h1 h2 c1 c2 b1 b2 O4 QY hvy hvx hX hY hDx hDy hD xc yc g2 g3 g5 g6
 go_enter Tryz.func151,Tryz.ntmps151
 go_upto_region 6 with fail
 refine Q06 (E:=Q8a) (fun _=>Uc _ _) (by kernel_rfl) (fun W=>Bw W0 W) (fun _ _ h h'=>Below.next0 h h') (Q40 [.pointer (some ⟨w.heap.size,1,none⟩),.slice ax lx cx,.pointer (some ⟨w.heap.size,2,none⟩),.int .i64 ex,.int .i64 ee,.int .i64 (p:Int),undef,.pointer (some ⟨(w.heap.size+1),1,none⟩),.slice ay ly cy,.pointer (some ⟨(w.heap.size+1),2,none⟩),.int .i64 ey,.int .i64 ee,.int .i64 (q:Int),undef,undef,undef] (Q1h [(6,SlD (lx+p / 32+1) X),(14,SlD (lx+p / 32+1) X),(13,SlD (ly+q / 32+1) Y),(15,SlD (ly+q / 32+1) Y)])) (Q0c (Q0h (Qyv (SlD.stable _ _) (SlD.stable _ _) (SlD.stable _ _) (SlD.stable _ _)))) (Q0w (by kernel_rfl)) (by kernel_rfl) (Q01 W0) ?_ ?_
 ·skip
  repeat' (first|exact Q8n|refine Q8m ?_ ?_)
  all_goals first
   |(refine Q1u rfl fun A W hW G0 hd hd=>?_
     simp[Q7q,Region.binds,Q1h] at hd;have e2:=Q0d G0 2 (by kernel_rfl) rfl;have e5:=Q0d G0 5 (by kernel_rfl) rfl;have e3:=Q0d G0 3 (by kernel_rfl) rfl;obtain ⟨_,u0_1,u0_2,_,_,_⟩:=(HQ.out W hW).bx;obtain ⟨_,u1_1,u1_2,_,_,_⟩:=(HQ.out W hW).by_;refine Q2x rfl rfl ?_;simp[go_sem,hd,e2,e5,e3,u0_1,u0_2,hp,E3,u1_1,u1_2,hq,R4]
     done)
   |skip
  ·intro A W hW G0 C0;have e24:=Q12 C0 1 (by decide) rfl rfl rfl;have e28:=Q12 C0 5 (by decide) rfl rfl rfl;refine Q07 rfl ?_;refine Q0z (f:=206) (args:= #[.slice ax lx cx,.int .i64 (p:Int)]) (by simp[go_sem,e24,e28]) ((Qcz ax lx cx vx p W ((Xo0 HW).step (HQ.out W hW).bel) (by omega) (by omega)).mono ?_);rintro e w2 ⟨a',n',rfl,ZF,Y7,K3⟩;rw[(Xo0 HV)] at Y7;exact ⟨_,rfl,K3,(Q02 rfl).2 ⟨a',n',n',rfl,ZF,Y7⟩⟩
  ·intro A W hW G0 C0;have e31:=Q12 C0 8 (by decide) rfl rfl rfl;have e35:=Q12 C0 12 (by decide) rfl rfl rfl;refine Q07 rfl ?_;refine Q0z (f:=206) (args:= #[.slice ay ly cy,.int .i64 (q:Int)]) (by simp[go_sem,e31,e35]) ((Qcz ay ly cy vy q W ((Xe1 HW).step (HQ.out W hW).bel) (by omega) (by omega)).mono ?_);rintro e w2 ⟨a',n',rfl,ZF,Y7,K3⟩;rw[(Xe1 HV)] at Y7;exact ⟨_,rfl,K3,(Q02 rfl).2 ⟨a',n',n',rfl,ZF,Y7⟩⟩
  ·intro A W hW G0 C0;refine Q07 rfl ?_;have e29:=(Q02 rfl).1 (C0 6 (by decide));refine Q6v (u:=A.eval (.tmp 29)) ?_ ((Q02 rfl).2 e29);simp[go_sem,Act.eval]
  ·intro A W hW G0 C0;refine Q07 rfl ?_;have e36:=(Q02 rfl).1 (C0 13 (by decide));refine Q6v (u:=A.eval (.tmp 36)) ?_ ((Q02 rfl).2 e36);simp[go_sem,Act.eval]
 intro vs W1 I1 K2;obtain ⟨a6,n6,c6,hv6,hn6,hd6⟩:=(Q02 rfl).1 (K2 14 (by decide));obtain ⟨a7,n7,c7,WX,hn7,KW⟩:=(Q02 rfl).1 (K2 15 (by decide));simp only[Q0r,Act.put,Ur,Ux,Uv];rw[hv6,WX];have WF:=hd6.len;have hl7:=KW.len;have hn6':n6<=62501:=by omega
 have hn7':n7<=62501:=by omega
 have t6:(dig (2^32) (X+Y)).length<=100000:=Ul (Ql3 (k:=62501) (by omega) (by omega)) (by decide);have C6:(dig (2^32) (X-Y)).length<=100000:=Ul (Q1o (by decide) (Nat.sub_le X Y)) (by omega);have A7:(dig (2^32) (Y-X)).length<=100000:=Ul (Q1o (by decide) (Nat.sub_le Y X)) (by omega);have HQ1:=Ua (fun W (h:Bw W1 W)=>(HQ.out W1 I1).step h);have KT:=Xh5 hd6 KW t6 C6 A7;have xc0:=(HQ.out W1 I1).bx.c0;have yc0:=(HQ.out W1 I1).by_.c0;clear hd6 KW t6 C6 A7 hv6 WX hn6 hn7 K2 WF hl7 hQ E1 xc1 yc1 xc2 yc2 I1 HQ K5 hly hee hp hq Qr J5 E3 R4 g1 g4
 by_cases X5:nx=ny
 ·subst X5;have XU:(nx==nx)=true:=by simp
  have hs:dy (sgn nx (X+Y)) ee=D:=by rw[<-HD.out,Qlq]
  have HS:=Ua hs;clear hs
  go_upto_region 8 with fail
  refine Q2a (by kernel_rfl) 7 rfl (fun W=>Bw W1 W) (fun _ _ h h'=>Below.next0 h h') (Q40 [.pointer (some ⟨w.heap.size,0,none⟩),.bool nx,.slice a6 n6 c6,.slice a7 n7 c7,undef,.int .i64 ee,undef] (Q1h [(4,SlD 100000 (X+Y)),(6,fun u w=>Q9k w u D)])) (Q0c (Q0h (Ql1 (SlD.stable _ _) (Q34 _)))) (Qxd w (w.heap.size+2) D) (by kernel_rfl) (by kernel_rfl) (by kernel_rfl) (by kernel_rfl) (Q01 W1) ?_ ?_ ?_
  ·skip
   repeat' (first|exact Q8n|refine Q8m ?_ ?_)
   all_goals first
    |(refine Q1u rfl fun A W hW G0 hd hd=>?_
      simp[Q7q,Region.binds,Q1h] at hd;have e2:=Q0d G0 2 (by kernel_rfl) rfl;have e6:=Q0d G0 6 (by kernel_rfl) rfl;have e7:=Q0d G0 7 (by kernel_rfl) rfl;have e5:=Q0d G0 5 (by kernel_rfl) rfl;obtain ⟨u0_0,_,_,_,_,_⟩:=(HQ1.out W hW).bx;refine Q2x rfl rfl ?_;simp[go_sem,hd,e2,e6,e7,e5,u0_0]
      done)
    |skip
   ·intro A W hW G0 C0;have e44:=Q12 C0 2 (by decide) rfl rfl rfl;have e45:=Q12 C0 3 (by decide) rfl rfl rfl;refine Q07 rfl ?_;refine Q0z (f:=138) (args:= #[.slice a6 n6 c6,.slice a7 n7 c7]) (by simp[go_sem,e44,e45]) ((Qnr a6 n6 c6 X a7 n7 c7 Y W ((Xo0 KT).step hW) ((Xo1 KT).step hW) (by omega) (by omega)).mono ?_);rintro e w2' ⟨a',n',rfl,Y7,K3⟩;exact ⟨_,rfl,K3,(Q02 rfl).2 ⟨a',n',n',rfl,by rw[<-Y7.len];exact (Xo2 KT),Y7⟩⟩
   ·intro A W hW G0 C0;have e43:=Q12 C0 1 (by decide) rfl rfl rfl;have e47:=Q12 C0 5 (by decide) rfl rfl rfl;obtain ⟨a5,l5,c5,Vt,hl5,hd5⟩:=(Q02 rfl).1 (C0 4 (by decide));have e46:=Q44 Vt;refine Q07 rfl ?_;refine Q0z (f:=140) (args:= #[.bool nx,.slice a5 l5 c5,.int .i64 ee]) (by simp[go_sem,e43,e47,e46]) ((Qa3 nx a5 l5 c5 _ ee W hd5 (by omega) (by omega) (by omega)).mono ?_);rintro e w2' ⟨n',a',l',c',v',e',rfl,JL,Y7,_,_,_,K3⟩;obtain ⟨R6,Jk⟩:=Qcf JL;exact ⟨_,rfl,K3,(Q02 rfl).2 ⟨_,_,_,_,_,_,rfl,Y7,R6,Jk.trans HS.out⟩⟩
  ·intro A W hW G0 C0;obtain ⟨n8,a8,l8,c8,q8,v8,Ji,Zi,Y9,Za⟩:=(Q02 rfl).1 (C0 6 (by decide));have e48:=Q44 Ji;have e4:=Q0d G0 4 (by kernel_rfl) rfl;have Y4:=(HQ1.out W hW).br;have k0:=Y4.c0;have f0:=Y4.f0;have f1:=Y4.f1;have f2:=Y4.f2;have d1:=Y4.d1 (.bool n8);have d2:=Y4.d2 (.bool n8) (.slice a8 l8 c8);refine Q45 (w':=(((W.setCell ⟨(w.heap.size+2),0,none⟩ (.bool n8)).setCell ⟨(w.heap.size+2),1,none⟩ (.slice a8 l8 c8)).setCell ⟨(w.heap.size+2),2,none⟩ (.int .i64 q8))) (by simp[go_sem,e4,e48,k0,f0,f1,f2,d1,d2]) ?_;exact Q51 (by omega) (HQ1.out W hW).bel Y4 Zi Y9 Za
  intro vs W3 X2;simp only[Q0r,Act.put,Ur,Ux,Uv];clear XU;obtain ⟨n9,a9,l9,c9,e9,v9,i7,V9,o6,QS,j4⟩:=X2;obtain ⟨k0,k1,k2⟩:=i7.cc;have HE:=Xh4 V9 o6 QS j4;clear i7 V9 o6 QS j4
  go_wp2_with fail
  exact ⟨rfl,.agg #[.bool n9,.slice a9 l9 c9,.int .i64 e9],by simp[results,go_sem,k0,k1,k2],_,rfl,⟨n9,a9,l9,c9,e9,v9,rfl,(Xo0 HE),(Xo1 HE),(Xo2 HE)⟩,(Xe3 HE)⟩
 ·have XU:(nx==ny)=false:=by cases nx <;> cases ny <;> simp_all
  have R2:=Qoi a6 n6 c6 X a7 n7 c7 Y W1 (Xo0 KT) (Xo1 KT) (by omega)
  by_cases hgt:Y<X
  ·have QZ:Qoh X Y=1:=(by unfold Qoh;rw[Us (by omega),Uu hgt]);have hs:dy (sgn nx (X-Y)) ee=D:=(by rw[<-HD.out,Q8w X5 (Xa9 hgt)]);rw[QZ] at R2;have HS:=Xh3 hs R2 hgt;clear hs R2 QZ X5 hgt
   go_upto_block 0 with (go_at_call_of 207 (Value.slice a6 n6 c6);refine (Xo1 HS).mono ?_;rintro r w2 ⟨rfl,D0⟩;have H2:=Ua D0;clear D0)
   have Ze:=Ua (fun W (h:Bw w2 W)=>(HQ1.out w2 H2.out).step h)
   go_upto_region 11 with fail
   refine Q2a (by kernel_rfl) 7 rfl (fun W=>Bw w2 W) (fun _ _ h h'=>Below.next0 h h') (Q40 [.pointer (some ⟨w.heap.size,0,none⟩),.bool nx,.slice a6 n6 c6,.slice a7 n7 c7,undef,.int .i64 ee,undef] (Q1h [(4,SlD 100000 (X-Y)),(6,fun u w=>Q9k w u D)])) (Q0c (Q0h (Ql1 (SlD.stable _ _) (Q34 _)))) (Qxd w (w.heap.size+2) D) (by kernel_rfl) (by kernel_rfl) (by kernel_rfl) (by kernel_rfl) (Q01 w2) ?_ ?_ ?_
   ·skip
    repeat' (first|exact Q8n|refine Q8m ?_ ?_)
    all_goals first
     |(refine Q1u rfl fun A W hW G0 hd hd=>?_
       simp[Q7q,Region.binds,Q1h] at hd;have e2:=Q0d G0 2 (by kernel_rfl) rfl;have e6:=Q0d G0 6 (by kernel_rfl) rfl;have e7:=Q0d G0 7 (by kernel_rfl) rfl;have e5:=Q0d G0 5 (by kernel_rfl) rfl;obtain ⟨u0_0,_,_,_,_,_⟩:=(Ze.out W hW).bx;refine Q2x rfl rfl ?_;simp[go_sem,hd,e2,e6,e7,e5,u0_0]
       done)
     |skip
    ·intro A W hW G0 C0;have e56:=Q12 C0 2 (by decide) rfl rfl rfl;have e57:=Q12 C0 3 (by decide) rfl rfl rfl;refine Q07 rfl ?_;refine Q0z (f:=208) (args:= #[.slice a6 n6 c6,.slice a7 n7 c7]) (by simp[go_sem,e56,e57]) ((Qf5 a6 n6 c6 X a7 n7 c7 Y W ((Xo0 KT).step (Below.next0 H2.out hW)) ((Xo1 KT).step (Below.next0 H2.out hW)) (by omega) (Xa9 (Xe2 HS))).mono ?_);rintro e w2' ⟨a',n',rfl,Y7,K3⟩;exact ⟨_,rfl,K3,(Q02 rfl).2 ⟨a',n',n',rfl,by rw[<-Y7.len];exact (Xo3 KT),Y7⟩⟩
    ·intro A W hW G0 C0;have e55:=Q12 C0 1 (by decide) rfl rfl rfl;have e59:=Q12 C0 5 (by decide) rfl rfl rfl;obtain ⟨a5,l5,c5,Vt,hl5,hd5⟩:=(Q02 rfl).1 (C0 4 (by decide));have e58:=Q44 Vt;refine Q07 rfl ?_;refine Q0z (f:=140) (args:= #[.bool nx,.slice a5 l5 c5,.int .i64 ee]) (by simp[go_sem,e55,e59,e58]) ((Qa3 nx a5 l5 c5 _ ee W hd5 (by omega) (by omega) (by omega)).mono ?_);rintro e w2' ⟨n',a',l',c',v',e',rfl,JL,Y7,_,_,_,K3⟩;obtain ⟨R6,Jk⟩:=Qcf JL;exact ⟨_,rfl,K3,(Q02 rfl).2 ⟨_,_,_,_,_,_,rfl,Y7,R6,Jk.trans (Xo0 HS)⟩⟩
   ·intro A W hW G0 C0;obtain ⟨n8,a8,l8,c8,q8,v8,Ji,Zi,Y9,Za⟩:=(Q02 rfl).1 (C0 6 (by decide));have e60:=Q44 Ji;have e4:=Q0d G0 4 (by kernel_rfl) rfl;have Y4:=(Ze.out W hW).br;have k0:=Y4.c0;have f0:=Y4.f0;have f1:=Y4.f1;have f2:=Y4.f2;have d1:=Y4.d1 (.bool n8);have d2:=Y4.d2 (.bool n8) (.slice a8 l8 c8);refine Q45 (w':=(((W.setCell ⟨(w.heap.size+2),0,none⟩ (.bool n8)).setCell ⟨(w.heap.size+2),1,none⟩ (.slice a8 l8 c8)).setCell ⟨(w.heap.size+2),2,none⟩ (.int .i64 q8))) (by simp[go_sem,e4,e60,k0,f0,f1,f2,d1,d2]) ?_;exact Q51 (by omega) (Ze.out W hW).bel Y4 Zi Y9 Za
   intro vs W3 X2;simp only[Q0r,Act.put,Ur,Ux,Uv];obtain ⟨n9,a9,l9,c9,e9,v9,i7,V9,o6,QS,j4⟩:=X2;obtain ⟨k0,k1,k2⟩:=i7.cc;have HE:=Xh4 V9 o6 QS j4;clear i7 V9 o6 QS j4
   go_wp2_with fail
   exact ⟨rfl,.agg #[.bool n9,.slice a9 l9 c9,.int .i64 e9],by simp[results,go_sem,k0,k1,k2],_,rfl,⟨n9,a9,l9,c9,e9,v9,rfl,(Xo0 HE),(Xo1 HE),(Xo2 HE)⟩,(Xe3 HE)⟩
  ·by_cases E0:X<Y
   ·have QZ:Qoh X Y= -1:=(by unfold Qoh;rw[Uu E0]);have hs:dy (sgn ny (Y-X)) ee=D:=(by rw[<-HD.out,<-Q8w (Ne.symm X5) (Xa9 E0)];exact Dyadic.add_comm _ _);rw[QZ] at R2;have HS:=Xh3 hs R2 E0;clear hs R2 QZ X5 hgt E0
    go_upto_block 0 with (go_at_call_of 207 (Value.slice a6 n6 c6);refine (Xo1 HS).mono ?_;rintro r w2 ⟨rfl,D0⟩;have H2:=Ua D0;clear D0)
    have Ze:=Ua (fun W (h:Bw w2 W)=>(HQ1.out w2 H2.out).step h)
    go_upto_region 13 with fail
    refine Q2a (by kernel_rfl) 7 rfl (fun W=>Bw w2 W) (fun _ _ h h'=>Below.next0 h h') (Q40 [.pointer (some ⟨(w.heap.size+1),0,none⟩),.bool ny,.slice a7 n7 c7,.slice a6 n6 c6,undef,.int .i64 ee,undef] (Q1h [(4,SlD 100000 (Y-X)),(6,fun u w=>Q9k w u D)])) (Q0c (Q0h (Ql1 (SlD.stable _ _) (Q34 _)))) (Qxd w (w.heap.size+2) D) (by kernel_rfl) (by kernel_rfl) (by kernel_rfl) (by kernel_rfl) (Q01 w2) ?_ ?_ ?_
    ·skip
     repeat' (first|exact Q8n|refine Q8m ?_ ?_)
     all_goals first
      |(refine Q1u rfl fun A W hW G0 hd hd=>?_
        simp[Q7q,Region.binds,Q1h] at hd;have e3:=Q0d G0 3 (by kernel_rfl) rfl;have e7:=Q0d G0 7 (by kernel_rfl) rfl;have e6:=Q0d G0 6 (by kernel_rfl) rfl;have e5:=Q0d G0 5 (by kernel_rfl) rfl;obtain ⟨u0_0,_,_,_,_,_⟩:=(Ze.out W hW).by_;refine Q2x rfl rfl ?_;simp[go_sem,hd,e3,e7,e6,e5,u0_0]
        done)
      |skip
     ·intro A W hW G0 C0;have e65:=Q12 C0 2 (by decide) rfl rfl rfl;have e66:=Q12 C0 3 (by decide) rfl rfl rfl;refine Q07 rfl ?_;refine Q0z (f:=208) (args:= #[.slice a7 n7 c7,.slice a6 n6 c6]) (by simp[go_sem,e65,e66]) ((Qf5 a7 n7 c7 Y a6 n6 c6 X W ((Xo1 KT).step (Below.next0 H2.out hW)) ((Xo0 KT).step (Below.next0 H2.out hW)) (by omega) (Xa9 (Xe2 HS))).mono ?_);rintro e w2' ⟨a',n',rfl,Y7,K3⟩;exact ⟨_,rfl,K3,(Q02 rfl).2 ⟨a',n',n',rfl,by rw[<-Y7.len];exact (Xe4 KT),Y7⟩⟩
     ·intro A W hW G0 C0;have e64:=Q12 C0 1 (by decide) rfl rfl rfl;have e68:=Q12 C0 5 (by decide) rfl rfl rfl;obtain ⟨a5,l5,c5,Vt,hl5,hd5⟩:=(Q02 rfl).1 (C0 4 (by decide));have e67:=Q44 Vt;refine Q07 rfl ?_;refine Q0z (f:=140) (args:= #[.bool ny,.slice a5 l5 c5,.int .i64 ee]) (by simp[go_sem,e64,e68,e67]) ((Qa3 ny a5 l5 c5 _ ee W hd5 (by omega) (by omega) (by omega)).mono ?_);rintro e w2' ⟨n',a',l',c',v',e',rfl,JL,Y7,_,_,_,K3⟩;obtain ⟨R6,Jk⟩:=Qcf JL;exact ⟨_,rfl,K3,(Q02 rfl).2 ⟨_,_,_,_,_,_,rfl,Y7,R6,Jk.trans (Xo0 HS)⟩⟩
    ·intro A W hW G0 C0;obtain ⟨n8,a8,l8,c8,q8,v8,Ji,Zi,Y9,Za⟩:=(Q02 rfl).1 (C0 6 (by decide));have e69:=Q44 Ji;have e4:=Q0d G0 4 (by kernel_rfl) rfl;have Y4:=(Ze.out W hW).br;have k0:=Y4.c0;have f0:=Y4.f0;have f1:=Y4.f1;have f2:=Y4.f2;have d1:=Y4.d1 (.bool n8);have d2:=Y4.d2 (.bool n8) (.slice a8 l8 c8);refine Q45 (w':=(((W.setCell ⟨(w.heap.size+2),0,none⟩ (.bool n8)).setCell ⟨(w.heap.size+2),1,none⟩ (.slice a8 l8 c8)).setCell ⟨(w.heap.size+2),2,none⟩ (.int .i64 q8))) (by simp[go_sem,e4,e69,k0,f0,f1,f2,d1,d2]) ?_;exact Q51 (by omega) (Ze.out W hW).bel Y4 Zi Y9 Za
    intro vs W3 X2;simp only[Q0r,Act.put,Ur,Ux,Uv];obtain ⟨n9,a9,l9,c9,e9,v9,i7,V9,o6,QS,j4⟩:=X2;obtain ⟨k0,k1,k2⟩:=i7.cc;have HE:=Xh4 V9 o6 QS j4;clear i7 V9 o6 QS j4
    go_wp2_with fail
    exact ⟨rfl,.agg #[.bool n9,.slice a9 l9 c9,.int .i64 e9],by simp[results,go_sem,k0,k1,k2],_,rfl,⟨n9,a9,l9,c9,e9,v9,rfl,(Xo0 HE),(Xo1 HE),(Xo2 HE)⟩,(Xe3 HE)⟩
   ·have QZ:Qoh X Y=0:=(by unfold Qoh;rw[Us E0,Us hgt]);have hXY:X=Y:=(by omega);have hs:(0:Dyadic)=D:=by
     rw[<-HD.out,Q8w X5 (by omega),hXY,Nat.sub_self,Q4b];exact (Q6s ee).symm
    rw[QZ] at R2;have HS:=Xh2 hs R2;clear hs R2 QZ X5 hgt E0 hXY;have hrb:=fun W2 (hb:Bw W1 W2)=>HQ1.out W2 hb;have HRB:=Ua hrb;clear hrb
    go_wp2_with (go_at_call_of 207 (Value.slice a6 n6 c6);refine (Xe1 HS).mono ?_;rintro r w2 ⟨rfl,D0⟩;have h3:=HRB.out w2 D0;have rc0:=h3.br.c0;have rc1:=h3.br.c1;have rc2:=h3.br.c2;have rf0:=h3.br.f0;have rf1:=h3.br.f1;have rf2:=h3.br.f2;have rd1:=h3.br.d1 (.bool false);have rd2:=h3.br.d2 (.bool false) (.slice none 0 0);have H2:=Ua h3;clear h3 D0)
    have hS:=H2.out.br.store (.bool false) (.slice none 0 0) (.int .i64 0);obtain ⟨k0,k1,k2⟩:=hS.cc;have G3:=Q03.below H2.out.bel (show w.heap.size<=w.heap.size+2 by omega) (.bool false) (.slice none 0 0) (.int .i64 0);exact ⟨rfl,.agg #[.bool false,.slice none 0 0,.int .i64 0],by simp[results,go_sem,k0,k1,k2],_,rfl,⟨false,none,0,0,0,0,rfl,Q0x.nil_ _,⟨fun _=>⟨rfl,rfl⟩,fun h=>absurd rfl h⟩,(Xo0 HS)⟩,G3⟩
theorem Qt3 (n:Bool) (v:Nat) (e:Int):dy (sgn (!n) v) e= -dy (sgn n v) e:=by rw[Qcb,Qqi]
def Qws (n:Bool) (v:Nat):Int:=if v=0 then 0 else if n=true then -1 else 1
theorem Qgz (nx:Bool) (ax:OA) (lx cx:Nat) (ex:Int) (vx:Nat) (w:World) (h1:Q0x w ax lx cx vx) (c1:Q5n nx vx ex):
 Calls Tryz.prog 152 #[.agg #[.bool nx,.slice ax lx cx,.int .i64 ex]] w (Qil w (-(dy (sgn nx vx) ex))):=by
 have hQ:=fun W=>(Qt1 w (.bool nx) (.slice ax lx cx) (.int .i64 ex) 87 87).step (W':=W);obtain ⟨W0,E1⟩:∃W0,(w.alloc (.cells #[.bool nx,.slice ax lx cx,.int .i64 ex] 87)).alloc (.cells #[.bool false,.slice none 0 0,.int .i64 0] 87)=W0:=⟨_,rfl⟩;rw[E1] at hQ;have HQ:=Ua hQ;have O4:=fun h=>Q0x.none_of h1 h
 by_cases hvx:vx=0
 ·obtain rfl:=O4 hvx;have hD:dy (sgn nx vx) ex= -(dy (sgn nx vx) ex):=by rw[Qd2 nx ex hvx];exact Dyadic.neg_zero.symm
  have HD:=Xh3 hD c1 h1;clear hD h1 c1 O4 hvx;have xc0:=(HQ.out W0 (Uc _ _)).bx.c0;have xc1:=(HQ.out W0 (Uc _ _)).bx.c1;have xc2:=(HQ.out W0 (Uc _ _)).bx.c2;have rc0:=(HQ.out W0 (Uc _ _)).br.c0;have rc1:=(HQ.out W0 (Uc _ _)).br.c1;have rc2:=(HQ.out W0 (Uc _ _)).br.c2;have rf0:=(HQ.out W0 (Uc _ _)).br.f0;have rf1:=(HQ.out W0 (Uc _ _)).br.f1;have rf2:=(HQ.out W0 (Uc _ _)).br.f2;have rd1:=(HQ.out W0 (Uc _ _)).br.d1 (.bool nx);have rd2:=(HQ.out W0 (Uc _ _)).br.d2 (.bool nx) (.slice ax 0 cx)
  go_enter Tryz.func152,Tryz.ntmps152
  go_wp2_with fail
  have hS:=(HQ.out W0 (Uc _ _)).br.store (.bool nx) (.slice ax 0 cx) (.int .i64 ex);obtain ⟨k0,k1,k2⟩:=hS.cc;have G3:=Q03.below (HQ.out W0 (Uc _ _)).bel (show w.heap.size<=w.heap.size+1 by omega) (.bool nx) (.slice ax 0 cx) (.int .i64 ex);exact ⟨rfl,.agg #[.bool nx,.slice ax 0 cx,.int .i64 ex],by simp[results,go_sem,k0,k1,k2],_,rfl,⟨_,_,_,_,_,_,rfl,((Xe2 HD).step (HQ.out W0 (Uc _ _)).bel).box (HQ.out W0 (Uc _ _)).br _ _ _,(Xo1 HD),(Xo0 HD)⟩,G3⟩
 have K5:(0:Int)<(lx:Int):=by
  have:lx≠0:=fun e=>hvx (h1.zero_of e);omega
 have hD:dy (sgn (!nx) vx) ex= -(dy (sgn nx vx) ex):=Qt3 nx vx ex;have hcn:Q5n (!nx) vx ex:=⟨fun h=>absurd h hvx,fun h=>c1.2 h⟩;have HD:=Xh3 hD hcn h1;have xb:=(HQ.out W0 (Uc _ _)).bx;have xc0:=xb.c0;have xc1:=xb.c1;have xf0:=xb.f0;have HB:=Ua xb;clear hD h1 c1 O4 hvx hcn xb
 go_enter Tryz.func152,Tryz.ntmps152
 go_upto_region 3 with fail
 have A0:=HB.out.set0 (.bool (!nx));have D0:=(HQ.out W0 (Uc _ _)).br.far (p:=⟨w.heap.size,0,none⟩) (by show w.heap.size≠w.heap.size+1;omega) (.bool (!nx));have N0:Bw w (W0.setCell ⟨w.heap.size,0,none⟩ (.bool (!nx))):=(HQ.out W0 (Uc _ _)).bel.setCell (p:=⟨w.heap.size,0,none⟩) (Uf _) _;have Zu:=(Xe2 HD).step N0;generalize W0.setCell ⟨w.heap.size,0,none⟩ (.bool (!nx))=W5 at A0 D0 N0 Zu⊢;have HE:=Xh3 D0 N0 Zu;obtain ⟨c0,c1,c2⟩:=A0.cc;have f0:=D0.f0;have f1:=D0.f1;have f2:=D0.f2;have k0:=D0.c0;have d1:=D0.d1 (.bool (!nx));have d2:=D0.d2 (.bool (!nx)) (.slice ax lx cx);clear A0 D0 N0 Zu xc0 xc1 xf0 E1 hQ
 go_wp2_with fail
 have hS:=(Xo0 HE).store (.bool (!nx)) (.slice ax lx cx) (.int .i64 ex);obtain ⟨s0,s1,s2⟩:=hS.cc;have G3:=Q03.below (Xo1 HE) (show w.heap.size<=w.heap.size+1 by omega) (.bool (!nx)) (.slice ax lx cx) (.int .i64 ex);exact ⟨rfl,.agg #[.bool (!nx),.slice ax lx cx,.int .i64 ex],by simp[results,go_sem,s0,s1,s2],_,rfl,⟨_,_,_,_,_,_,rfl,(Xe2 HE).box (Xo0 HE) _ _ _,(Xo1 HD),(Xo0 HD)⟩,G3⟩
theorem Qls (nx:Bool) (ax:OA) (lx cx:Nat) (ex:Int) (vx:Nat) (w:World) (h1:Q0x w ax lx cx vx) (c1:Q5n nx vx ex):
 Calls Tryz.prog 102 #[.agg #[.bool nx,.slice ax lx cx,.int .i64 ex]] w fun e w'=>e=.returned (.int .i64 (Qws nx vx))/\Bw w w':=by
 have hb:=Q03.new w (.bool nx) (.slice ax lx cx) (.int .i64 ex) 87;have N0:Bw w (w.alloc (.cells #[.bool nx,.slice ax lx cx,.int .i64 ex] 87)):=Ba;obtain ⟨W0,E1⟩:∃W0,w.alloc (.cells #[.bool nx,.slice ax lx cx,.int .i64 ex] 87)=W0:=⟨_,rfl⟩;rw[E1] at hb N0;have c0:=hb.c0;have c1':=hb.c1;have O4:=fun h=>Q0x.none_of h1 h;obtain ⟨r,hr⟩:∃r,Qws nx vx=r:=⟨_,rfl⟩;rw[hr];have HB:=Ua N0
 by_cases hvx:vx=0
 ·obtain rfl:=O4 hvx;obtain rfl:0=r:=by rw[<-hr,Qws,Uu hvx]
  clear h1 c1 hb N0 O4 hvx hr
  go_enter Tryz.func102,Tryz.ntmps102
  go_wp2_with fail
  go_ret;exact ⟨rfl,HB.out⟩
 ·have K5:((lx:Int)==0)=false:=by
   rw[Uj];intro e;exact hvx (h1.zero_of (by omega))
  cases nx with
  |true=>
   obtain rfl: -1=r:=(by rw[<-hr,Qws,Us hvx,Uu rfl]);clear h1 c1 hb N0 O4 hvx hr
   go_enter Tryz.func102,Tryz.ntmps102
   go_wp2_with fail
   go_ret;exact ⟨rfl,HB.out⟩
  |false=>
   obtain rfl:1=r:=(by rw[<-hr,Qws,Us hvx,Us (by decide)]);clear h1 c1 hb N0 O4 hvx hr
   go_enter Tryz.func102,Tryz.ntmps102
   go_wp2_with fail
   go_ret;exact ⟨rfl,HB.out⟩
theorem Qlt (nx:Bool) (ax:OA) (lx cx:Nat) (ex:Int) (vx:Nat) (ny:Bool) (ay:OA) (ly cy:Nat) (ey:Int) (vy:Nat) (w:World) (h1:Q0x w ax lx cx vx) (h2:Q0x w ay ly cy vy) (c1:Q5n nx vx ex) (c2:Q5n ny vy ey) (T:Nat) (b1:bnd T (dy (sgn nx vx) ex)) (b2:bnd T (dy (sgn ny vy) ey)) (hT:T<=500000):
 Calls Tryz.prog 101 #[.agg #[.bool nx,.slice ax lx cx,.int .i64 ex],.agg #[.bool ny,.slice ay ly cy,.int .i64 ey]] w (Qil w (dy (sgn nx vx) ex+ -(dy (sgn ny vy) ey))):=by
 have hQ:=fun W=>(Qds w (.bool nx) (.slice ax lx cx) (.int .i64 ex) (.bool ny) (.slice ay ly cy) (.int .i64 ey) 87 87 87).step (W':=W);obtain ⟨W0,E1⟩:∃W0,((w.alloc (.cells #[.bool nx,.slice ax lx cx,.int .i64 ex] 87)).alloc (.cells #[.bool ny,.slice ay ly cy,.int .i64 ey] 87)).alloc (.cells #[.bool false,.slice none 0 0,.int .i64 0] 87)=W0:=⟨_,rfl⟩;rw[E1] at hQ;have HQ:=Ua hQ;have HW:=Xh6 h1 h2 c1 c2 b1 b2;clear h1 h2 c1 c2 b1 b2 hQ
 go_enter Tryz.func101,Tryz.ntmps101
 go_upto_region 1 with fail
 refine Q2a (by kernel_rfl) 4 rfl (fun W=>Bw W0 W) (fun _ _ h h'=>Below.next0 h h') (Q40 [.agg #[.bool nx,.slice ax lx cx,.int .i64 ex],.agg #[.bool ny,.slice ay ly cy,.int .i64 ey],undef,undef] (Q1h [(2,fun u w=>Q9k w u (-(dy (sgn ny vy) ey))),(3,fun u w=>Q9k w u (dy (sgn nx vx) ex+ -(dy (sgn ny vy) ey)))])) (Q0c (Q0h (Ql1 (Q34 _) (Q34 _)))) (Qxd w (w.heap.size+2) (dy (sgn nx vx) ex+ -(dy (sgn ny vy) ey))) (by kernel_rfl) (by kernel_rfl) (by kernel_rfl) (by kernel_rfl) (Q01 W0) ?_ ?_ ?_
 ·skip;refine ⟨fun A W hW G0 C0=>?_,?_⟩
  ·have e2:=Q0d G0 2 (by kernel_rfl) rfl;refine Q07 rfl ?_;obtain ⟨k0,k1,k2,_,_,_⟩:=(HQ.out W hW).bx;refine Q2x rfl rfl ?_;simp[go_sem,e2,k0,k1,k2]
  refine ⟨fun A W hW G0 C0=>?_,?_⟩
  ·have e3:=Q0d G0 3 (by kernel_rfl) rfl;refine Q07 rfl ?_;obtain ⟨k0,k1,k2,_,_,_⟩:=(HQ.out W hW).by_;refine Q2x rfl rfl ?_;simp[go_sem,e3,k0,k1,k2]
  refine ⟨fun A W hW G0 C0=>?_,?_⟩
  ·have e6:=Q12 C0 1 (by decide) rfl rfl rfl;refine Q07 rfl ?_;refine Q0z (f:=152) (args:= #[.agg #[.bool ny,.slice ay ly cy,.int .i64 ey]]) (by simp[go_sem,e6]) ((Qgz ny ay ly cy ey vy W ((Xo1 HW).step (HQ.out W hW).bel) (Xo3 HW)).mono ?_);rintro e w2' ⟨u',rfl,Jk,K3⟩;exact ⟨_,rfl,K3,(Q02 rfl).2 Jk⟩
  refine ⟨fun A W hW G0 C0=>?_,?_⟩
  ·have e5:=Q12 C0 0 (by decide) rfl rfl rfl;obtain ⟨n7,a7,l7,c7,e7,v7,WX,KW,hc7,hD7⟩:=(Q02 rfl).1 (C0 2 (by decide));have e7':=Q44 WX;refine Q07 rfl ?_;refine Q0z (f:=151) (args:= #[.agg #[.bool nx,.slice ax lx cx,.int .i64 ex],.agg #[.bool n7,.slice a7 l7 c7,.int .i64 e7]]) (by simp[go_sem,e5,e7']) ((Qlr nx ax lx cx ex vx n7 a7 l7 c7 e7 v7 W ((Xo0 HW).step (HQ.out W hW).bel) KW (Xo2 HW) hc7 T (Xo4 HW) (by rw[hD7];exact (Xe5 HW).neg) hT).mono ?_);rintro e w2' ⟨u',rfl,Jk,K3⟩;rw[hD7] at Jk;exact ⟨_,rfl,K3,(Q02 rfl).2 Jk⟩
  exact trivial
 ·intro A W hW G0 C0;obtain ⟨n8,a8,l8,c8,q8,v8,Ji,Zi,Y9,Za⟩:=(Q02 rfl).1 (C0 3 (by decide));have e8:=Q44 Ji;have e4:=Q0d G0 4 (by kernel_rfl) rfl;have Y4:=(HQ.out W hW).br;have k0:=Y4.c0;have f0:=Y4.f0;have f1:=Y4.f1;have f2:=Y4.f2;have d1:=Y4.d1 (.bool n8);have d2:=Y4.d2 (.bool n8) (.slice a8 l8 c8);refine Q45 (w':=(((W.setCell ⟨(w.heap.size+2),0,none⟩ (.bool n8)).setCell ⟨(w.heap.size+2),1,none⟩ (.slice a8 l8 c8)).setCell ⟨(w.heap.size+2),2,none⟩ (.int .i64 q8))) (by simp[go_sem,e4,e8,k0,f0,f1,f2,d1,d2]) ?_;exact Q51 (by omega) (HQ.out W hW).bel Y4 Zi Y9 Za
 intro vs W1 X2;simp only[Q0r,Act.put,Ur,Ux,Uv];obtain ⟨n9,a9,l9,c9,e9,v9,i7,V9,o6,QS,j4⟩:=X2;obtain ⟨k0,k1,k2⟩:=i7.cc;have HE:=Xh4 V9 o6 QS j4;clear i7 V9 o6 QS j4
 go_wp2_with fail
 exact ⟨rfl,.agg #[.bool n9,.slice a9 l9 c9,.int .i64 e9],by simp[results,go_sem,k0,k1,k2],_,rfl,⟨n9,a9,l9,c9,e9,v9,rfl,(Xo0 HE),(Xo1 HE),(Xo2 HE)⟩,(Xe3 HE)⟩
theorem Qjp (nx:Bool) (ax:OA) (lx cx:Nat) (ex:Int) (vx:Nat) (ny:Bool) (ay:OA) (ly cy:Nat) (ey:Int) (vy:Nat) (w:World) (h1:Q0x w ax lx cx vx) (h2:Q0x w ay ly cy vy) (c1:Q5n nx vx ex) (c2:Q5n ny vy ey) (T:Nat) (b1:bnd T (dy (sgn nx vx) ex)) (b2:bnd T (dy (sgn ny vy) ey)) (hT:T<=500000):
 Calls Tryz.prog 58 #[.agg #[.bool nx,.slice ax lx cx,.int .i64 ex],.agg #[.bool ny,.slice ay ly cy,.int .i64 ey]] w fun e w'=>(∃n v f,e=.returned (.int .i64 (Qws n v))/\Q5n n v f/\dy (sgn n v) f=dy (sgn nx vx) ex+ -(dy (sgn ny vy) ey))/\Bw w w':=by
 have D2:(w.alloc (.cells #[.bool nx,.slice ax lx cx,.int .i64 ex] 87)).heap.size=w.heap.size+1:=Uk _ _;have A0:Bw w (w.alloc (.cells #[.bool nx,.slice ax lx cx,.int .i64 ex] 87)):=Ba;have D0:Below (w.alloc (.cells #[.bool nx,.slice ax lx cx,.int .i64 ex] 87)).heap.size (w.alloc (.cells #[.bool nx,.slice ax lx cx,.int .i64 ex] 87)) ((w.alloc (.cells #[.bool nx,.slice ax lx cx,.int .i64 ex] 87)).alloc (.cells #[.bool ny,.slice ay ly cy,.int .i64 ey] 87)):=Ba;have hX:=(Q03.new w (.bool nx) (.slice ax lx cx) (.int .i64 ex) 87).step D0 (Q0p _ _);have hY:=Q03.new (w.alloc (.cells #[.bool nx,.slice ax lx cx,.int .i64 ex] 87)) (.bool ny) (.slice ay ly cy) (.int .i64 ey) 87;rw[D2] at hY;have hb:=Below.next0 A0 D0;obtain ⟨W0,E1⟩:∃W0,(w.alloc (.cells #[.bool nx,.slice ax lx cx,.int .i64 ex] 87)).alloc (.cells #[.bool ny,.slice ay ly cy,.int .i64 ey] 87)=W0:=⟨_,rfl⟩;rw[E1] at hX hY hb;obtain ⟨x0,x1,x2⟩:=hX.cc;obtain ⟨y0,y1,y2⟩:=hY.cc;have hls:=Qlt nx ax lx cx ex vx ny ay ly cy ey vy W0 (h1.step hb) (h2.step hb) c1 c2 T b1 b2 hT;have H:=Xh2 hls hb;clear h1 h2 c1 c2 b1 b2 hls hb hX hY D2 A0 D0
 go_enter Tryz.func58,Tryz.ntmps58
 go_wp2_with (first
  |(go_at_call 102;refine (Qls n9 a9 l9 c9 e9 v9 w1 (Xo0 H1) (Xo1 H1)).mono ?_;rintro r w2 ⟨rfl,D0⟩;have H2:=Ua D0;clear D0)
  |(go_at_call 101;refine (Xo0 H).mono ?_;rintro r w1 ⟨u,rfl,⟨n9,a9,l9,c9,e9,v9,rfl,V9,hc9,QS⟩,A0⟩;have H1:=Xh4 V9 hc9 QS A0;clear V9 hc9 QS A0))
 go_ret;exact ⟨⟨n9,v9,e9,rfl,(Xo1 H1),(Xo2 H1)⟩,Below.next0 (Below.next0 (Xe1 H) (Xe3 H1)) H2.out⟩
theorem Qt4 {w wr:World} (h:∀j,∃kk,wr.drewN j=w.drewN kk) (i j:Nat):∃kk,(wr.drewN i).drewN j=w.drewN kk:=by
 obtain ⟨kk,h1⟩:=h i;exact ⟨kk+j,by rw[h1,World.drewN_drewN]⟩
theorem Q8g [LT ZK] (a:OA) (n c:Nat) (E:List Int) (b:OA) (d:Nat) (F:List Int) (w:World) (h1:Q0q w a n c E) (h2:Q0q w b n d F):
 Calls Tryz.prog 100 #[.slice a n c,.slice b n d] w fun r w'=>r=.returned (.int .i64 (Q3e E F))/\∃k,w'=w.drewN k:=by
 have i5:=h1.len;have o7:=h2.len;have R2:=Ul h1.cap h1.most;have HC:=Xh2 h1.rd h2.rd;clear h1 h2;obtain ⟨V,hV⟩:∃V,Q3e E F=V:=⟨_,rfl⟩;rw[hV];have HV:=Ua hV;clear hV
 go_enter Tryz.func100,Tryz.ntmps100
 go_wp2_with fail
 go_loopw [5] (fun iv wr=>∃i:Nat,iv=.int .i64 (i:Int)/\i<=n/\Q3e (E.drop i) (F.drop i)=V/\∃k,wr=w.drewN k) (fun iv _=>n-(intOf iv).toNat)
 case atStart=>exact ⟨0,rfl,Ut _,HV.out,0,rfl⟩
 case round=>
  obtain ⟨i,rfl,hi,U4,Qt⟩:=hrel;have G1:∀p,wr.cell? p=w.cell? p:=fun p=>by obtain ⟨kk,rfl⟩:=Qt;rfl
  have Qy:∀j,∃kk,wr.drewN j=w.drewN kk:=fun j=>by obtain ⟨kk,rfl⟩:=Qt;exact ⟨_,World.drewN_drewN ..⟩
  have HW:=Xh2 Qt Qy;clear Qt Qy
  by_cases E0:i<n
  ·have F0:(i:Int)<(n:Int):=(by omega);obtain ⟨x,hx⟩:∃x,E[i]?=some x:=⟨_,Ub (by omega)⟩;obtain ⟨y,hy⟩:∃y,F[i]?=some y:=⟨_,Ub (by omega)⟩;obtain ⟨ba,oa,rfl,P3,KA⟩:=(Xo0 HC).at_ hx;obtain ⟨bb,ob,rfl,Y2,KE⟩:=(Xe1 HC).at_ hy;have Y3:=(G1 ⟨ba,oa+i,none⟩).trans KA;have K9:=(G1 ⟨bb,ob+i,none⟩).trans KE;have Kw:=Qmu hx hy;rw[U4] at Kw;have HH:=Ua Kw;clear Kw hx hy U4 KA KE G1
   by_cases h1:y<x
   ·have KP:V=1:=(by rw[HH.out,Us (by omega),Uu h1]);subst KP
    go_wp2_with fail
    go_quiet (fail)
    go_wp2_with fail
    go_ret;exact ⟨rfl,(Xe1 HW) _⟩
   ·by_cases h2:x<y
    ·have KP:V= -1:=(by rw[HH.out,Uu h2]);subst KP
     go_wp2_with fail
     go_quiet (fail)
     go_wp2_with fail
     go_quiet (fail)
     go_wp2_with fail
     go_ret;exact ⟨rfl,Qt4 (Xe1 HW) _ _⟩
    ·go_wp2_with fail
     go_quiet (fail)
     go_wp2_with fail
     go_quiet (fail)
     go_wp2_with fail
     refine ⟨⟨i+1,congrArg (Value.int .i64) (by omega),E0,?_,(Xe1 HW) _⟩,by simp only[intOf];omega⟩;rw[HH.out,Us (by omega),Us (by omega)]
  ·have F0:¬(i:Int)<(n:Int):=(by omega);have KP:V=0:=(by rw[<-U4,Tc (by omega),Tc (by omega)];rfl);subst KP;clear U4 G1
   go_wp2_with fail
   go_ret;exact ⟨rfl,(Xo0 HW)⟩
theorem Qlu [LT ZK] (n:Bool) (e:Int) (a:OA) (l c:Nat) (L:LN) (b:OA) (m d:Nat) (E:List Int) (k:Nat) (w:World) (h:WordsIn w a l c L) (hE:Q0q w b m d E) (hk:k<=4) (he: -9223372036854775808<=e) (D5:e<=9223372036854775807):
 Calls Tryz.prog 99 #[.agg #[.bool n,.int .i64 e,.slice a l c,.slice b m d],.int .i64 (k:Int)] w fun r w'=>r=.returned (.bool (decide (Q10 k E/\Q0a n e L)))/\Bw w w':=by
 obtain ⟨rs,XV⟩:∃rs,decide (Q10 k E/\Q0a n e L)=rs:=⟨_,rfl⟩;rw[XV];have Ko:=Ua XV;clear XV;have A0:Bw w (w.alloc (.cells #[.bool n,.int .i64 e,.slice a l c,.slice b m d] 98)):=Ba;have hX:=Q32.new w (.bool n) (.int .i64 e) (.slice a l c) (.slice b m d) 98;have E0:=Q0p w (.cells #[.bool n,.int .i64 e,.slice a l c,.slice b m d] 98);generalize hW:w.alloc (.cells #[.bool n,.int .i64 e,.slice a l c,.slice b m d] 98)=W at A0 hX E0;obtain ⟨O4,S4,Q3⟩:=hX.cc;have VH:=hX.c3;have Q2:=hE.len;subst Q2;have J9:=Q2f n e a l c L W (h.step A0) he D5 (by have:=h.cap;have:=h.most;omega);have j9:=hE.rd.below A0;have R2:=Ul hE.cap hE.most;have HC:=Xh4 J9 j9 A0 hE.rng.1;clear A0 hX E0 J9 j9 h hE
 go_enter Tryz.func99,Tryz.ntmps99
 go_wp2_with fail
 go_loopw [5,6] (fun sv_ iv wr=>∃(i:Nat) (s:Int),sv_=.int .i64 s/\iv=.int .i64 (i:Int)/\i<=E.length/\i<=4/\(E.take i).sum=s/\0<=s/\s<=8*i/\(∀x∈E.take i,0<=x)/\W=wr) (fun _ iv _=>4-(intOf iv).toNat)
 case atStart=>exact ⟨0,0,rfl,rfl,Ut _,by decide,by simp,by decide,by decide,by simp,rfl⟩
 case round=>
  obtain ⟨i,s,rfl,rfl,hi,hi4,hs,Zs,Xe,F6,rfl⟩:=hrel
  by_cases E0:i<E.length/\i<4
  ·have F0:(i:Int)<(E.length:Int):=(by omega);have hlt4:(i:Int)<4:=(by omega);obtain ⟨x,hx⟩:∃x,E[i]?=some x:=⟨_,Ub E0.1⟩;obtain ⟨ba,oa,rfl,P3,Y3⟩:=(Xo1 HC).at_ hx;have hxr:=(Xe3 HC) x (Ug hx);have F9:=Qbs hx;have HS:=Xh4 hs F9 F6 hx;clear hs F9 F6 hx
   by_cases hx0':x<0
   ·go_wp2_with fail
    go_ret;have i4:¬(Q10 k E/\Q0a n e L):=fun h=>by
     have:=h.1.2.1 x (Ug (Xe3 HS));omega
    have hf:rs=false:=(by rw[<-Ko.out];exact UX i4);exact ⟨by rw[hf];rfl,(Xo2 HC)⟩
   ·by_cases hx8:8<x
    ·go_wp2_with fail
     go_ret;have i4:¬(Q10 k E/\Q0a n e L):=fun h=>by
      have:=(Q27 h.1 x (Ug (Xe3 HS))).2;omega
     have hf:rs=false:=(by rw[<-Ko.out];exact UX i4);exact ⟨by rw[hf];rfl,(Xo2 HC)⟩
    ·go_wp2_with fail
     refine ⟨⟨i+1,s+x,rfl,congrArg (Value.int .i64) (by omega),by omega,by omega,by rw[(Xo1 HS),(Xo0 HS)],by omega,by omega,fun y hy=>?_,trivial⟩,by simp only[intOf];omega⟩;obtain ⟨j,hj,hjy⟩:=Qd4 hy
     by_cases hji:j=i
     ·subst hji;have h5:=(Xe3 HS);rw[hjy] at h5;injection h5 with h5;omega
     ·exact (Xo2 HS) y (UQ.2 ⟨j,by rw[TL,Uu (by omega)];exact hjy⟩)
  ·by_cases Z6:E.length=k
   ·have U5:i=E.length:=(by omega);rw[U5,Ti] at hs F6;have i5:¬(i:Int)<(E.length:Int):=(by omega);have hkk:((E.length:Int)==(k:Int))=true:=(by rw[beq_iff_eq];omega);have HS:=Xh3 hs F6 Z6;clear hs F6 Z6 U5
    by_cases h8:s<=8
    ·have Jn:rs=decide (Q0a n e L):=by
      rw[<-Ko.out];exact decide_eq_decide.2 ⟨fun h=>h.2,fun h=>⟨⟨(Xe2 HS),(Xo1 HS),by rw[(Xo0 HS)];exact h8⟩,h⟩⟩
     have HR:=Ua Jn;clear Jn
     go_wp2_with (go_at_call 25;refine (Xo0 HC).mono ?_;rintro r w1 ⟨rfl,A0⟩;have H1:=Ua A0;clear A0)
     go_ret;exact ⟨by rw[HR.out];rfl,Below.next0 (Xo2 HC) H1.out⟩
    ·have i4:¬(Q10 k E/\Q0a n e L):=fun h=>by
      have:=h.1.2.2;have:=(Xo0 HS);omega
     have hf:rs=false:=(by rw[<-Ko.out];exact UX i4);have HR:=Ua hf;clear hf i4
     go_wp2_with fail
     go_ret;exact ⟨by rw[HR.out];rfl,(Xo2 HC)⟩
   ·have hkk:((E.length:Int)==(k:Int))=false:=(by rw[Uj];omega);have i4:¬(Q10 k E/\Q0a n e L):=fun h=>Z6 h.1.1;have hf:rs=false:=(by rw[<-Ko.out];exact UX i4);have HR:=Ua hf;clear hf i4 hs F6
    by_cases i5:i<E.length
    ·have Ys:(i:Int)<(E.length:Int):=(by omega);have Jq:¬(i:Int)<4:=by omega
     go_wp2_with fail
     go_ret;exact ⟨by rw[HR.out];rfl,(Xo2 HC)⟩
    ·have Ys:¬(i:Int)<(E.length:Int):=by omega
     go_wp2_with fail
     go_ret;exact ⟨by rw[HR.out];rfl,(Xo2 HC)⟩
end Go.Proofs.YtidojbkhlenahaaGreatDoor
namespace Go.Proofs.YtidojbkhlenahaaGreatDoor
open Go Go.RowKit
section
variable {P:Program}
def Qvt (P:Program) (ops:Array Oper) (C:World->Prop) (V:Nat->Value->World->Prop) (a0:Act) (n:Nat) (Mid:Value->World->Prop):List Oper->Prop
 |[o,o2]=>(∀a w,C w->Q9f ops a0 a->(∀i∈Q2u o,V i (Q0g ops a i) w)->Q2p P Mid ((execOp a.eval o).run P w))/\n∈Q2u o2/\∀a w,Q9f ops a0 a->(execOp a.eval o2).run P w=.ok (.value (Q0g ops a n)) w
 |_=>False
theorem Qt5 {l:List Oper} {n i:Nat} {a:Act} (hn:l.length=n+2) (hi:i≠n+1):Q0g (l.take (n+1)).toArray a i=Q0g l.toArray a i:=by
 unfold Q0g;have h:(l.take (n+1)).toArray[i]?=l.toArray[i]?:=by
  simp only[List.getElem?_toArray,TL]
  split
  ·rfl
  ·rw[UU (by omega)]
 rw[h]
theorem Qpg {l:List Oper} {n:Nat} {a0 a:Act} (hn:l.length=n+2) (G0:Q9f l.toArray a0 a) (hs:Q0g l.toArray a (n+1)=Q0g l.toArray a0 (n+1)):Q9f (l.take (n+1)).toArray a0 a:=by
 refine ⟨G0.1,G0.2.1,fun t ht=>?_⟩;obtain ⟨o2,ZQ⟩:∃o2,l[n+1]?=some o2:=⟨_,Ub (by omega)⟩
 by_cases h2:o2.dst=some t
 ·have e1:∀b:Act,Q0g l.toArray b (n+1)=b.tmps.getD t undef:=fun b=>by
   unfold Q0g;rw[List.getElem?_toArray,ZQ,TF,h2]
  rw[e1,e1] at hs
  by_cases E0:t<a0.tmps.size
  ·have F0:t<a.tmps.size:=(by rw[G0.2.1];exact E0);rw[Uy,Uy,Ta E0,Ta F0,Xaw,Xaw] at hs;rw[Ta E0,Ta F0,hs]
  ·have Y1:=G0.2.1;have h3:a0.tmps.size<=t:=Nat.le_of_not_lt E0;rw[Array.getElem?_eq_none (xs:=a.tmps) (Ul (Nat.le_of_eq Y1) h3),Array.getElem?_eq_none (xs:=a0.tmps) h3]
 ·refine G0.2.2 t fun o ho e=>?_;obtain ⟨i,hi,rfl⟩:=List.getElem_of_mem ho;have g9:i<l.length:=by simpa using hi
  by_cases QA:i=n+1
  ·subst QA;rw[Ub g9] at ZQ;injection ZQ with ZQ;exact h2 (by rw[<-ZQ];exact e)
  ·refine ht l[i] ?_ e;rw[UQ];refine ⟨i,?_⟩
   show (l.take (n+1))[i]?=_
   rw[TL,Uu (by omega),Ub g9]
theorem Qef {Q:Exit->Act->World->Prop} {id:Nat} {l:List Oper} {a0:Act} {w:World} (hm:P.follows .mixedOrders=true) (n:Nat) (hn:l.length=n+2) (C:World->Prop) (hC:∀w w',C w->Bw w w'->C w') (V:Nat->Value->World->Prop) (hV:∀i v w w',V i v w->Bw w w'->V i v w') (Mid:Value->World->Prop)
 (hB:Q9g l a0.tmps.size=true) (hA:Qrs l n=true) (hG:(l.all fun o=>o.guard.isNone)=true) (hD:(l.all fun o=>o.dst.isSome)=true) (h0:C w.drew)
 (step:Q4e P Q8a (l.take (n+1)).toArray C V a0 (l.take n) 0) (last:Qvt P l.toArray C V a0 n Mid (l.drop n)) (fin:∀vs w,Mid (vs n) w->vs (n+1)=vs n->Q .normal (Q0r vs l 0 a0) w):(Code.region id l.toArray true).wp P Q a0 w:=by
 have m9:∀(k:Nat) (o:Oper),l[k]?=some o->∀y,Region.wanted o y=true:=fun k o ho y=>by
  have h1:=TH.1 hG o (Ug ho);unfold Region.wanted;cases hg:o.guard with
  |none=>rfl
  |some g=>rw[hg] at h1;cases h1
 obtain ⟨o1,o2,X7⟩:∃o1 o2,l.drop n=[o1,o2]:=by
  have h1:(l.drop n).length=2:=by rw[Tu];omega
  cases hl:l.drop n with
  |nil=>rw[hl] at h1;cases h1
  |cons x r=>
   cases r with
   |nil=>rw[hl] at h1;cases h1
   |cons y s=>
    cases s with
    |nil=>exact ⟨x,y,rfl⟩
    |cons z s=>rw[hl] at h1;simp at h1
 have ho1:l[n]?=some o1:=by have:=congrArg (fun x=>x[0]?) X7;simpa using this
 have ZQ:l[n+1]?=some o2:=by have:=congrArg (fun x=>x[1]?) X7;simpa using this
 rw[X7] at last;obtain ⟨last1,last2,last3⟩:=last;have R0:∀(k:Nat) (o:Oper),l[k]?=some o->Q9j P l.toArray (fun D vs w=>(if D n=true then (Mid (vs n) w/\(D (n+1)=true->vs (n+1)=vs n)) else (C w/\∀j,D j=true->V j (vs j) w))/\(D (n+1)=false->vs (n+1)=Q0g l.toArray a0 (n+1))) a0 k o:=by
  intro k o ho a w D YR G0 hk i8 G2;obtain ⟨hI,Jc⟩:=YR;have Wg:k<=n+1:=by have:=(Ui.1 ho).1;omega
  refine ⟨m9 k o ho _,?_⟩
  by_cases Z6:k=n+1
  ·subst Z6;rw[ZQ] at ho;injection ho with ho;subst ho;have Qi:D n=true:=i8 n last2;simp only[Qi,Xa8] at hI;rw[last3 a w G0]
   show (if Q4d D (n+1) n=true then _ else _)/\_
   have e1:Q4d D (n+1) n=true:=(by unfold Q4d;rw[Us (by omega)];exact Qi);rw[Uu e1];have e2:Q3z (Q0g l.toArray a) (n+1) (Q0g l.toArray a n) n=Q0g l.toArray a n:=(by unfold Q3z;rw[Us (by omega)]);have e3:Q3z (Q0g l.toArray a) (n+1) (Q0g l.toArray a n) (n+1)=Q0g l.toArray a n:=(by unfold Q3z;rw[Uu rfl]);rw[e2,e3];exact ⟨⟨hI.1,fun _=>rfl⟩,fun h=>by rw[Q6c] at h;cases h⟩
  ·have KM:k<=n:=(by omega);have Qi:D n=false:=Qik hA (D:=D) (fun j oj hj=>G2 j oj (by simpa using hj)) _ k rfl KM hk;have XD:D (n+1)=false:=by
    cases hb:D (n+1) with
    |false=>rfl
    |true=>have:=G2 (n+1) o2 (by simpa using ZQ) hb n last2;rw[Qi] at this;cases this
   simp only[Qi] at hI;obtain ⟨YP,hVw⟩:=hI;have hS:∀u,Q4d D k (n+1)=false->Q3z (Q0g l.toArray a) k u (n+1)=Q0g l.toArray a0 (n+1):=fun u _=>by unfold Q3z;rw[Us (fun e=>Z6 e.symm)];exact Jc XD
   have XZ:∀i∈Q2u o,V i (Q0g l.toArray a i) w:=fun i hi=>hVw i (i8 i hi)
   by_cases Qv:k=n
   ·subst Qv;rw[ho1] at ho;injection ho with ho;subst ho;have h1:=last1 a w YP G0 XZ;have hK:∀u w',Mid u w'->(if Q4d D k k=true then (Mid (Q3z (Q0g l.toArray a) k u k) w'/\(Q4d D k (k+1)=true->Q3z (Q0g l.toArray a) k u (k+1)=Q3z (Q0g l.toArray a) k u k)) else (C w'/\∀j,Q4d D k j=true->V j (Q3z (Q0g l.toArray a) k u j) w')):=fun u w' h=>by
     rw[Q6c,Uu rfl];have e1:Q4d D k (k+1)=false:=(by unfold Q4d;rw[Us (by omega)];exact XD);have e2:Q3z (Q0g l.toArray a) k u k=u:=(by unfold Q3z;rw[Uu rfl]);rw[e1,e2];exact ⟨h,fun h=>by cases h⟩
    revert h1
    generalize (execOp a.eval o1).run P w=res;intro h1;cases res with
    |ok x w'=>
     cases x with
     |value u=>exact ⟨hK u w' h1,hS u⟩
     |enter f args=>
      refine Xbr h1 ?_;rintro e w'' ⟨v,rfl,hf⟩;exact ⟨v,rfl,hK v w'' hf,hS v⟩
     |skip=>exact ⟨hK undef w' h1,hS undef⟩
     |_=>exact h1.elim
    |halt x w'=>exact h1.elim
   ·have QU:(l.take n)[k]?=some o:=(by rw[TL,Uu (by omega)];exact ho);have h1:=Q4e.at_ _ _ _ _ step QU;rw[UV] at h1;have h1:=h1 a w YP (Qpg hn G0 (Jc XD)) (fun i hi=>by
     rw[Qt5 hn (fun e=>by subst e;have:=i8 _ hi;rw[XD] at this;cases this)];exact XZ i hi)
    rw[Uu (m9 k o ho _)] at h1;have hK:∀u w',Bw w w'->V k u w'->(if Q4d D k n=true then (Mid (Q3z (Q0g l.toArray a) k u n) w'/\(Q4d D k (n+1)=true->Q3z (Q0g l.toArray a) k u (n+1)=Q3z (Q0g l.toArray a) k u n)) else (C w'/\∀j,Q4d D k j=true->V j (Q3z (Q0g l.toArray a) k u j) w')):=fun u w' hb hu=>by
     have e:Q4d D k n=false:=(by unfold Q4d;rw[Us (fun e=>Qv e.symm)];exact Qi);rw[e,Us (by decide)];refine ⟨hC _ _ YP hb,fun j hj=>?_⟩;unfold Q3z;unfold Q4d at hj
     by_cases XP:j=k
     ·subst XP;rw[Uu rfl];exact hu
     ·rw[Us XP];rw[Us XP] at hj;exact hV _ _ _ _ (hVw j hj) hb
    revert h1
    generalize (execOp a.eval o).run P w=res;intro h1;cases res with
    |ok x w'=>
     cases x with
     |value u=>exact ⟨hK u w' h1.1 h1.2,hS u⟩
     |enter f args=>
      refine Xbr h1 ?_;rintro e w'' ⟨v,rfl,hb,hv⟩;exact ⟨v,rfl,hK v w'' hb hv,hS v⟩
     |skip=>exact ⟨hK undef w' h1.1 h1.2,hS undef⟩
     |_=>exact h1.elim
    |halt x w'=>exact h1.elim
 have KR:∀(r:List Oper) (k:Nat),(∀(i:Nat) o,r[i]?=some o->l[k+i]?=some o)->Qbr P l.toArray (fun D vs w=>(if D n=true then (Mid (vs n) w/\(D (n+1)=true->vs (n+1)=vs n)) else (C w/\∀j,D j=true->V j (vs j) w))/\(D (n+1)=false->vs (n+1)=Q0g l.toArray a0 (n+1))) a0 r k:=by
  intro r
  induction r with
  |nil=>intro k _;trivial
  |cons o r ih=>
   intro k h;refine ⟨R0 k o (by simpa using h 0 o rfl),ih (k+1) fun i o' JL=>?_⟩;have:=h (i+1) o' (by simpa using JL);rwa[show k+(i+1)=k+1+i by omega] at this
 refine Q77 hm (fun D vs w=>(if D n=true then (Mid (vs n) w/\(D (n+1)=true->vs (n+1)=vs n)) else (C w/\∀j,D j=true->V j (vs j) w))/\(D (n+1)=false->vs (n+1)=Q0g l.toArray a0 (n+1))) (fun i o hi hd D vs v w h=>?_) hB ?_ (KR l 0 fun i o h=>by rw[UV];exact h) (fun D vs w R0 h=>?_)
 ·have h1:=TH.1 hD o (Ug hi);rw[hd] at h1;cases h1
 ·exact ⟨⟨h0,fun j hj=>by cases hj⟩,fun _=>rfl⟩
 ·have Qi:=R0 n (by omega);have XD:=R0 (n+1) (by omega);simp only[Qi,Xa8] at h;exact fin vs w h.1.1 (h.1.2 XD)
end
end Go.Proofs.YtidojbkhlenahaaGreatDoor
namespace Go.Proofs.YtidojbkhlenahaaGreatDoor
open Go.RowKit WordsM
theorem Qt6 {P:Program} {V:Value->World->Prop} {w w':World} {u:Value} {res:Result Next} (hr:res=.ok (.value u) w') (hb:Bw w w') (h:V u w'):Q1g P Q8a V w res:=by rw[hr];exact ⟨hb,h⟩
theorem Qlv {P:Program} {a:Operand->Value} {o:Oper} (s x:Operand) (t1 t2:TypeId) (ho:o.op=.call { callee:=.builtin .append,args:= #[s,x],argTypes:= #[t1,t2] }) {va vx:Value} (hs:a s=va) (hx:a x=vx) {v:Value} {w w':World} (Q1:(Builtin.append_ #[t1,t2] o.type #[va,vx]).run P w=.ok v w'):(execOp a o).run P w=.ok (.value v) w':=by
 unfold execOp;simp only[ho,resolve,invoke,builtin,Sem.run_bind,Sem.run_pure,Result.andThen_ok,List.map_toArray,Xai,List.map_nil,hs,hx,Q1]
theorem Qfp {P:Program} {a:Operand->Value} {o:Oper} (t:TypeId) (len:Nat) (parts:Array (Nat × Operand)) (ho:o.op=.buildSlice t len parts) {parts':Array (Nat × Value)} (hp:(parts.map fun (i,x)=>(i,a x))=parts') {v:Value} {w w':World} (Q1:(Instr.buildSlice t len parts').run P w=.ok v w'):(execOp a o).run P w=.ok (.value v) w':=by
 subst hp;unfold execOp;simp only[ho,Sem.run_bind,Q1,Result.andThen_ok,Sem.run_pure]
open DecM
theorem Q1z {x:Q39} {w:World} {a:OA} {l c:Nat} (h:Q0i w a l c x) (hi:x.ok):Q23 x.neg x.exp x.ws=dyT x.val/\(dyT x.val).length<=1401:=by
 obtain ⟨n,e,L⟩:=x;have hl:=h.lie.low;have h5:Q0a n e L:=hi;unfold Q39.val;simp only at hl⊢;rw[show Q23 n e L=Q21 n (val (2^64) L) e from Uu h5];rcases Q1a h5 hl with ⟨rfl,rfl,rfl⟩|⟨_,ho,_,hv,g1,g2⟩
 ·rw[show Q1r false 0 []=0 from rfl,show val (2^64) ([]:LN)=0 from rfl,Qkj];exact ⟨by simp[Q21,Q9y,Q1t],by decide⟩
 ·have ht:dyT (Q1r n e L)=Q21 n (val (2^64) L) e:=Qck ho;rw[ht];refine ⟨rfl,?_⟩;have h1:=Qfn hv g1 g2;cases n
  ·omega
  ·have h2:(Q21 true (val (2^64) L) e).length=(Q21 false (val (2^64) L) e).length+1:=(by simp[Q21]);omega
theorem Qlw (x:Q39) (a:OA) (l c:Nat) (w:World) (h:Q0i w a l c x) (hi:x.ok) (hP:Qbh w):
 Calls Tryz.prog 38 #[.agg #[.bool x.neg,.int .i64 x.exp,.slice a l c]] w fun r w'=>r=.returned (.string ⟨(dyT x.val).toArray⟩)/\Bw w w':=by
 have h1:=Qgx x.neg x.exp a l c x.ws w h.lie h.lo h.hi hP;rwa[(Q1z h hi).1] at h1
theorem Qlx (n:Int) (w:World) (h0:0<=n) (h1:n<=5000) (hP:Qbh w):
 Calls Tryz.prog 37 #[.int .i64 n] w fun r w'=>r=.returned (.string ⟨(dec n.toNat).toArray⟩)/\Bw w w':=by
 refine (Tryz.J1j n (by omega) (by omega) w (hP w (Uc _ _))).mono ?_;rintro e w' ⟨rfl,k,os,rfl⟩;have h2:Lib.itoa n=dec n.toNat:=by unfold Lib.itoa;rw[Us (by omega)]
 rw[h2];exact ⟨rfl,Lib.below_grow _ _ (Uf _) k os⟩
theorem Q49 {n:Int} (h1:n<=5000):(dec n.toNat).length<=4:=dec_len 4 n.toNat (by omega) (by decide)
theorem Qap (a b:LU):(Q22 a b).length=a.length+b.length+2:=by simp[Q22];omega
theorem Qyk (B:Nat) (l t1 t2:LU) (w:World) (hb:Q60 B B l w) (hB:B<=w.heap.size) (hl:l.length+t1.length+t2.length<=100000000):
 Calls Tryz.prog 34 #[.slice (some ⟨w.heap.size,0,none⟩) 2 2,.pointer (some ⟨B,0,none⟩)] (w.alloc (.cells #[.string ⟨t1.toArray⟩,.string ⟨t2.toArray⟩] 9)) fun r w'=>r=.returned (.tuple #[])/\Q60 B B (l++Q22 t1 t2) w'/\Below B w w':=by
 have P3:Bw w (w.alloc (.cells #[.string ⟨t1.toArray⟩,.string ⟨t2.toArray⟩] 9)):=Ba;have hC:=Q3h.new w [sv t1,sv t2] 9;have hj:Lib.join [t1,t2] [32]=t1++32::t2:=by rw[Lib.join_cons];simp[Lib.joinTail]
 have h:=Qt0 B B w.heap.size 2 l [t1,t2] _ (hb.call P3) (Ul hB P3.size) (Q0p w _) (fun j x hx=>hC j (sv x) (by
  have:([t1,t2].map sv)[j]?=some (sv x):=by rw[UK,hx];rfl
  exact this)) rfl (by decide) (by rw[hj];simp;omega)
 refine h.mono ?_;rintro r w' ⟨h1,h2,h3⟩;refine ⟨h1,?_,(P3.mono hB).trans h3⟩;rw[hj] at h2;have:t1++32::t2++[10]=Q22 t1 t2:=by simp[Q22]
 rwa[this] at h2
theorem Qph (W:World) (v0 v1 v2:ByteArray):(Instr.buildSlice 39 3 #[(0,.string v0),(1,.string v1),(2,.string v2)]).run Tryz.prog W=.ok (.slice (some ⟨W.heap.size,0,none⟩) 3 3) (W.alloc (.cells #[.string v0,.string v1,.string v2] 9)):=by
 obtain ⟨i0,O2,E2,I2,X1⟩:=Q1c Q8u;exact run_buildSlice W 39 9 3 _ #[.string v0,.string v1,.string v2] i0 _ Tryz.underlying39 O2 E2 (by rw[I2];decide) (by rw[I2];decide) (by rw[I2];first|kernel_rfl|simp[Instr.fill,Value.cells])
theorem put3 (B g:Nat) (l t1 t2 t3:LU) (w:World) (hb:Q60 B B l w) (hB:B<=w.heap.size) (hg:w.heap[g]?=some (.cells #[.string ⟨t1.toArray⟩,.string ⟨t2.toArray⟩,.string ⟨t3.toArray⟩] 9 (0,0))) (hl:l.length+t1.length+t2.length+t3.length<=100000000):
 Calls Tryz.prog 34 #[.slice (some ⟨g,0,none⟩) 3 3,.pointer (some ⟨B,0,none⟩)] w fun r w'=>r=.returned (.tuple #[])/\Q60 B B (l++Q22 t1 (t2++32::t3)) w'/\Below B w w':=by
 have hj:Lib.join [t1,t2,t3] [32]=t1++32::(t2++32::t3):=by rw[Lib.join_cons];simp[Lib.joinTail]
 have h:=Qt0 B B g 3 l [t1,t2,t3] w hb hB (Uq.1 hg).1 (fun j x hx=>by
  rw[Uw _ _ _ _ _ _ hg];have h1:([t1,t2,t3].map sv)[j]?=some (sv x):=by rw[UK,hx];rfl
  have h2:(#[Value.string ⟨t1.toArray⟩,.string ⟨t2.toArray⟩,.string ⟨t3.toArray⟩]:Array Value)=([t1,t2,t3].map sv).toArray:=rfl;rw[h2,List.getElem?_toArray];exact h1) rfl (by decide) (by rw[hj];simp;omega)
 rw[hj] at h;have:t1++32::(t2++32::t3)++[10]=Q22 t1 (t2++32::t3):=by simp[Q22]
 rwa[this] at h
end Go.Proofs.YtidojbkhlenahaaGreatDoor
namespace Go.Proofs.YtidojbkhlenahaaGreatDoor
open Go.RowKit
def Qzk {α:Type} (F:Fence) (n:Nat) (P:Program) (g:Nat) (lb:Array Value) (encs:α->Array Value) (Ok:List α->α->World->Prop) (Kp:World->World->Prop) (S Sp:List α->Prop) (w:World):Prop:=
 ∀(l:Nat) (J Jx:List α->World->Prop) (W:World),Bw w W->AbidesFrom W.heap.size J->AbidesFrom W.heap.size Jx->
  (∀pre x W1,J pre W1->Ok pre x W1->YieldAt F (n-1) P l (encs x) W1 fun e W'=>
    (e=.returned (.bool true)/\J (pre++[x]) W'/\Kp W1 W')∨(e=.returned (.bool false)/\Jx (pre++[x]) W'))->
  J [] W->
  CallsIn F n P g (#[.func (.yield l) #[] #[]]++lb) W fun e W'=>(∃v,e=.returned v)/\((∃xs,S xs/\J xs W')∨(∃pre,Sp pre/\Jx pre W'))
variable {F:Fence} {n:Nat} {P:Program}
theorem Qh0 {α:Type} {g:Operand} {ps:Array Tmp} {assign body:Code} {Q:Exit->Act->World->Prop} {a:Act} {w:World}
 (hro:F.round=none) (h1:1<=n) {gf:Nat} {lb:Array Value} (hg:a.eval g=.func (.func gf) #[] lb) (hFg:F.fn gf) (eg:∀args w,(callFunc gf args).run P w=.ok (.enter gf args) w)
 {encs:α->Array Value} {Ok:List α->α->World->Prop} {Kp:World->World->Prop} {S Sp:List α->Prop} {w0:World} (hseq:Qzk F (n-1) P gf lb encs Ok Kp S Sp w0)
 (hKt:∀{A B C:World},Kp A B->Kp B C->Kp A C) (JJ:∀(W:World) (l:Nat) (o o':Obj),w.heap.size<=l->W.heap[l]?=some o->o.isCells=false->Kp W (W.putObj l o')) (hOk:∀pre x (W:World) (l:Nat) (o o':Obj),Ok pre x W->w.heap.size<=l->W.heap[l]?=some o->o.isCells=false->Ok pre x (W.putObj l o'))
 (Z0:Bw w0 w) (ZL:∀x,(encs x).size=ps.size)
 (I:List α->World->Prop) (Ix:Code->List α->World->Prop) (hI:OwnFrom w.heap.size I) (hIx:∀c,OwnFrom w.heap.size (Ix c)) (h0:I [] w) (a₁:α->Act)
 (VS:∀(l:Nat) (x:α) (W:World) (K:Act->World->Prop),K (a₁ x) W->
   assign.wpIn (F.inRound l) (n-1-1) P (Exit.then K (fun _ _ _=>False)) { tmps:=(ps.zip (encs x)).foldl (fun t (p,v)=>t.setIfInBounds p v) a.tmps,defers:=[] } W)
 (hbody:∀(l:Nat) (pre:List α) (x:α) (W:World),I pre W->Ok pre x W->body.wpIn (F.inRound l) (n-1-1) P (ownPostG w.heap.size Kp I Ix (pre++[x]) W) (a₁ x) W)
 (hdone:∀(D:Nat) (xs:List α) (W:World),w.heap.size<=D->S xs->I xs W->W.heap[D]?=some (.deferred (some []))->Q .normal { a with defers:={ target:=.collected D,args:= #[] }::a.defers } W)
 (hstop:∀(D:Nat) (c:Code) (pre:List α) (W:World),w.heap.size<=D->Sp pre->Ix c pre W->W.heap[D]?=some (.deferred (some []))->c.wpIn F n P Q { a with defers:={ target:=.collected D,args:= #[] }::a.defers } W):
 (Code.rangeFunc g ps assign body).wpIn F n P Q a w:=by
 refine wpIn_rangeFunc fun fn hfn=>?_;rw[hro];obtain ⟨rec,B8⟩:∃rec:LoopState->Option Code->Loop,rec=fun st pe=>{ state:=st,pending:=pe,fn,tmps:=a.tmps,params:=ps,assign,body,defers:=w.heap.size }:=⟨_,rfl⟩;obtain ⟨W1,I1⟩:∃W1,(w.alloc (.deferred (some []))).alloc (.loop (rec .ready none))=W1:=⟨_,rfl⟩;have D2:W1.heap.size=w.heap.size+2:=by rw[<-I1];simp
 have Jo:W1.heap[w.heap.size+1]?=some (.loop (rec .ready none)):=by
  have h:=World.alloc_heap_new (w.alloc (.deferred (some []))) (.loop (rec .ready none));rw[Uk] at h;rw[<-I1];exact h
 have Jh:W1.heap[w.heap.size]?=some (.deferred (some [])):=by
  rw[<-I1];exact (Below.heap_alloc _ _ _ (by simp)).trans (World.alloc_heap_new w _)
 have G8:I [] W1:=by rw[<-I1];exact hI.alloc _ (hI.alloc _ h0)
 have A0:Bw w0 W1:=by
  rw[<-I1];exact Z0.trans ((((Uc _ w).alloc (Uf _) _).alloc (by simp) _).mono Z0.size)
 refine ⟨w.heap.size+1,[{ target:=.collected w.heap.size,args:= #[] }],W1,{ target:=.fn (.func gf) lb,args:= #[.func (.yield (w.heap.size+1)) #[] #[]] },W1,gf,
  #[.func (.yield (w.heap.size+1)) #[] #[]]++lb,W1,?_,?_,?_,?_,fun _=>h1,?_⟩
 ·rw[<-I1,B8];exact run_enterLoop_outer _ _ _ _ _
 ·simp only[resolve,hg];simp[go_sem]
 ·intro f' hf';simp[Target.leads] at hf';subst hf';exact hFg
 ·simp[invoke,go_sem,eg]
 have S6:∀{A:World} {row:Option Nat},(∀r,row=some r->W1.heap.size<=r/\∃o:Obj,A.heap[r]?=some o/\o.isWalk=true)->(∀r,row=some r->w.heap.size<=r/\∃o:Obj,A.heap[r]?=some o/\o.isCells=false):=
  fun hr r e=>by obtain ⟨hB,o,ho,hw⟩:=hr r e;exact ⟨by omega,o,ho,Obj.not_cells_of_walk hw⟩
 refine (hseq (w.heap.size+1)
  (fun pre W=>I pre W/\W.heap[w.heap.size+1]?=some (.loop (rec .ready none))/\W.heap[w.heap.size]?=some (.deferred (some [])))
  (fun pre W=>∃c,Ix c pre W/\W.heap[w.heap.size+1]?=some (.loop (rec .done (some c)))/\W.heap[w.heap.size]?=some (.deferred (some [])))
  W1 A0
  (fun s A B row hs Qo hr=>⟨hI s A B row hs.1 Qo (S6 hr),(grownBy_keeps Qo (fun r e=>(hr r e).2) hs.2.1 rfl).trans hs.2.1,(grownBy_keeps Qo (fun r e=>(hr r e).2) hs.2.2 rfl).trans hs.2.2⟩)
  (fun s A B row hs Qo hr=>by
    obtain ⟨c,hc,hl,hk⟩:=hs;exact ⟨c,hIx c s A B row hc Qo (S6 hr),(grownBy_keeps Qo (fun r e=>(hr r e).2) hl rfl).trans hl,(grownBy_keeps Qo (fun r e=>(hr r e).2) hk rfl).trans hk⟩)
  ?round ⟨G8,Jo,Jh⟩).mono ?behind
 case round=>
  rintro pre x W ⟨hi,hl,hk⟩ O1;have E0:w.heap.size+1<W.heap.size:=(Uq.1 hl).1;have hy:=run_yield (P:=P) (args:=encs x) hl (by rw[B8];exact ZL x);rw[B8] at hy;refine ⟨fn,_,assign,body,hy,roundIn_of_wpIn hfn (VS _ x W _ ⟨_,run_beginRound hl (by rw[B8]),?_⟩)⟩;have o7:(W.putObj (w.heap.size+1) (.loop { rec .ready none with state:=.busy })).heap[w.heap.size+1]?=some (.loop { rec .ready none with state:=.busy }):=World.putObj_heap_same E0;have Z6:(W.putObj (w.heap.size+1) (.loop { rec .ready none with state:=.busy })).heap[w.heap.size]?=some (.deferred (some [])):=(World.putObj_heap_other (by omega)).trans hk;have R4:Kp W (W.putObj (w.heap.size+1) (.loop { rec .ready none with state:=.busy })):=JJ _ _ _ _ (by omega) hl rfl;refine wpIn_mono (hbody _ pre x _ (hI.putObj _ hi (by omega) hl rfl) (hOk _ _ _ _ _ _ O1 (by omega) hl rfl)) ?_;have fin:∀(jump:Option Code) (W3:World),KeepsFrom w.heap.size (W.putObj (w.heap.size+1) (.loop { rec .ready none with state:=.busy })) W3->
   (Instr.endRound (w.heap.size+1) jump).run P W3=.ok (.bool jump.isNone) (W3.putObj (w.heap.size+1) (.loop (rec (if jump.isNone then .ready else .done) jump)))/\
   W3.heap[w.heap.size+1]?=some (.loop { rec .ready none with state:=.busy })/\
   (W3.putObj (w.heap.size+1) (.loop (rec (if jump.isNone then .ready else .done) jump))).heap[w.heap.size+1]?=some (.loop (rec (if jump.isNone then .ready else .done) jump))/\
   (W3.putObj (w.heap.size+1) (.loop (rec (if jump.isNone then .ready else .done) jump))).heap[w.heap.size]?=some (.deferred (some [])):=fun jump W3 QW=>by
   have Qd:=QW.same _ _ (by omega) o7 rfl;have S3:=run_endRound (P:=P) jump Qd;rw[B8] at S3⊢;rw[B8] at Qd;exact ⟨S3,Qd,World.putObj_heap_same (Uq.1 Qd).1,(World.putObj_heap_other (by omega)).trans (QW.same _ _ (Uf _) Z6 rfl)⟩
  rintro e a3 W3 hp;cases e with
  |normal=>
   obtain ⟨QW,hkp3,Yi⟩:=hp;obtain ⟨hr,Qd,Jq,R5⟩:=fin none W3 QW;exact ⟨_,_,hr,.inl ⟨rfl,⟨hI.putObj _ Yi (by omega) Qd rfl,Jq,R5⟩,hKt (hKt R4 hkp3) (JJ _ _ _ _ (by omega) Qd rfl)⟩⟩
  |ret=>
   obtain ⟨QW,Yi⟩:=hp;obtain ⟨hr,Qd,Jq,R5⟩:=fin (some .ret) W3 QW;exact ⟨_,_,hr,.inr ⟨rfl,.ret,(hIx _).putObj _ Yi (by omega) Qd rfl,Jq,R5⟩⟩
  |exit id=>
   obtain ⟨QW,Yi⟩:=hp;obtain ⟨hr,Qd,Jq,R5⟩:=fin (some (.exit id)) W3 QW;exact ⟨_,_,hr,.inr ⟨rfl,.exit id,(hIx _).putObj _ Yi (by omega) Qd rfl,Jq,R5⟩⟩
  |goto t=>
   obtain ⟨QW,Yi⟩:=hp;obtain ⟨hr,Qd,Jq,R5⟩:=fin (some (.goto t)) W3 QW;exact ⟨_,_,hr,.inr ⟨rfl,.goto t,(hIx _).putObj _ Yi (by omega) Qd rfl,Jq,R5⟩⟩
  |panic ch=>exact hp.elim
  |outgrown=>exact hp.elim
 case behind=>
  rintro e W2 ⟨⟨v,rfl⟩,(⟨xs,hS,hi,hl,hk⟩|⟨pre,hSp,c,hi,hl,hk⟩)⟩
  ·have S3:=run_endLoop (P:=P) hl (by rw[B8];simp);rw[B8] at S3;exact ⟨none,_,S3,hdone _ xs _ (Uf _) hS (hI.putObj _ hi (by omega) hl rfl) ((World.putObj_heap_other (by omega)).trans hk)⟩
  ·have S3:=run_endLoop (P:=P) hl (by rw[B8];simp);rw[B8] at S3;exact ⟨some c,_,S3,hstop _ c pre _ (Uf _) hSp ((hIx c).putObj _ hi (by omega) hl rfl) ((World.putObj_heap_other (by omega)).trans hk)⟩
section
variable {b:Frame} {a:Act} {k:List Item} {cs:List Frame} {w:World} {Q:Exit->Act->World->Prop}
end
def Q71 (B1 B2:Nat) (W W':World):Prop:=W.heap.size<=W'.heap.size/\∀k,B1<=k->k<B2->W'.heap[k]?=W.heap[k]?
theorem Q71.refl (B1 B2:Nat) (W:World):Q71 B1 B2 W W:=⟨Uf _,fun _ _ _=>rfl⟩
theorem Q71.trans {B1 B2:Nat} {A B C:World} (h:Q71 B1 B2 A B) (k:Q71 B1 B2 B C):Q71 B1 B2 A C:=⟨Ul h.1 k.1,fun i h1 h2=>(k.2 i h1 h2).trans (h.2 i h1 h2)⟩
theorem Q71.turn {B1 B2:Nat} (W:World) (l:Nat) (o':Obj) (hl:B2<=l):Q71 B1 B2 W (W.putObj l o'):=⟨by simp,fun k _ h2=>World.putObj_heap_other (by omega)⟩
theorem Q71.setCell {B1 B2:Nat} {W0 W:World} (h:Q71 B1 B2 W0 W) {p:Addr} (hp:p.block<B1∨B2<=p.block) (u:Value):Q71 B1 B2 W0 (W.setCell p u):=
 ⟨by simpa[World.setCell] using h.1,fun k h1 h2=>(Td W p u k (by omega)).trans (h.2 k h1 h2)⟩
def Box (U:World) (b:Nat) (v:Value):Prop:=U.cell? ⟨b,0,none⟩=some v/\U.frozen? ⟨b,0,none⟩=false
section
variable {U V:World} {b:Nat} {v:Value}
theorem Box.turned (h:Box U b v) {row:Option Nat} (hg:U.grownBy V row) (hr:∀r,row=some r->∃o:Obj,U.heap[r]?=some o/\o.isCells=false):Box V b v:=⟨cell_kept h.1 hg hr,(frozen_kept h.1 hg hr).trans h.2⟩
theorem Box.call (h:Box U b v) (hb:Bw U V):Box V b v:=by
 have E0:=UI h.1;exact ⟨(hb.cell (p:=⟨b,0,none⟩) E0).trans h.1,(hb.frozen (p:=⟨b,0,none⟩) E0).trans h.2⟩
theorem Box.new (U:World) (v:Value) (t:TypeId):Box (U.alloc (.cells #[v] t)) U.heap.size v:=⟨by rw[Uw _ _ _ _ _ _ (Uo _ _)];rfl,TO _ _ _ _ _ (Uo _ _)⟩
theorem Box.alloc (h:Box U b v) (o:Obj):Box (U.alloc o) b v:=h.call (Ba)
theorem Box.set (h:Box U b v) (x:Value):Box (U.setCell ⟨b,0,none⟩ x) b x:=⟨UD _ _ _ (by rw[h.1];rfl),by rw[Un];exact h.2⟩
theorem Box.other (h:Box U b v) {p:Addr} (hp:p.block≠b) (x:Value):Box (U.setCell p x) b v:=⟨(Ud _ _ _ _ (by intro e;rw[e] at hp;exact hp rfl)).trans h.1,by rw[Un];exact h.2⟩
end
end Go.Proofs.YtidojbkhlenahaaGreatDoor
