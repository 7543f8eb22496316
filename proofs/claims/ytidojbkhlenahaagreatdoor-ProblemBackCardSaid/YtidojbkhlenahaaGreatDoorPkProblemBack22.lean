/- Part 22. No condition. -/
import Derived.Test.YtidojbkhlenahaaGreatDoorPkProblemBack21
set_option maxRecDepth 100000
set_option maxHeartbeats 16000000
namespace Go.Proofs.YtidojbkhlenahaaGreatDoor
open Go.RowKit WordsM DecM
theorem Qkp (x y:Q47) (ax:OA) (lx cx:Nat) (ay:OA) (ly cy:Nat) (w:World) (h1:Q0m w ax lx cx x) (h2:Q0m w ay ly cy y) (i1:x.ok) (i2:y.ok) (hf:Q44 (x.val+y.val)):
 Calls Tryz.prog 120 #[.int .i64 0,.agg #[.bool x.neg,.int .i64 x.exp,.slice ax lx cx],.agg #[.bool y.neg,.int .i64 y.exp,.slice ay ly cy]] w fun e w'=>(∃u,e=.returned u/\Q9c (x.val+y.val) u w')/\Bw w w':=by
 obtain ⟨A2,hX,hY,hR,X1⟩:=Qf3 w (.bool x.neg) (.int .i64 x.exp) (.slice ax lx cx) (.bool y.neg) (.int .i64 y.exp) (.slice ay ly cy) (.bool false) (.int .i64 0) (.slice none 0 0) 26 26 26;obtain ⟨W0,R1⟩:∃W0,((w.alloc (.cells #[.bool x.neg,.int .i64 x.exp,.slice ax lx cx] 26)).alloc (.cells #[.bool y.neg,.int .i64 y.exp,.slice ay ly cy] 26)).alloc (.cells #[.bool false,.int .i64 0,.slice none 0 0] 26)=W0:=⟨_,rfl⟩;rw[R1] at A2 hX hY hR X1;have hR:Q03 W0 (w.heap.size+1+1) (.bool false) (.int .i64 0) (.slice none 0 0):=hR;obtain ⟨S,hS⟩:∃S,x.val+y.val=S:=⟨_,rfl⟩;rw[hS] at hf⊢;have Ki:=fun W (hW:Bw W0 W)=>Q5u x.neg x.exp ax lx cx x.ws W (h1.lie.step (Below.next0 X1 hW)) h1.lo h1.hi (Un h1.lie.cap h1.lie.most);have hry:=fun W (hW:Bw W0 W)=>Q5u y.neg y.exp ay ly cy y.ws W (h2.lie.step (Below.next0 X1 hW)) h2.lo h2.hi (Un h2.lie.cap h2.lie.most);rw[UQ (show Q0a x.neg x.exp x.ws from i1)] at Ki;rw[UQ (show Q0a y.neg y.exp y.ws from i2)] at hry;have HQ:=Xh5 (fun W (hW:Bw W0 W)=>And.intro (hX.step hW (by omega)) (And.intro (hY.step hW (by omega)) (hR.step hW (by omega)))) Ki hry X1 A2;have HW:=Xh6 h1 h2 i1 i2 hf hS;obtain ⟨k0,k1,k2⟩:=hX.cc;clear A2 hX hY hR X1 Ki hry h1 h2 i1 i2 hf
 go_enter Tryz.func120,Tryz.ntmps120
 go_upto_region 1 with fail
 clear R1
 go_upto_region 3 with (first
  |(go_at_call 25;refine ((Xo2 HQ) W1 H1.out).mono ?_;rintro r W2 ⟨rfl,D0⟩;have H2:=Ub (Below.next0 H1.out D0);clear D0)
  |(go_at_call 25;refine ((Xo1 HQ) W0 (Ug _ _)).mono ?_;rintro r W1 ⟨rfl,C0⟩
    have hq:=((Xo0 HQ) W1 C0).2.1;obtain ⟨l0,l1,l2⟩:=hq.cc;have H1:=Ub C0;clear C0 hq))
 have HC:=Ub (fun W (hW:Bw W2 W)=>(Xo0 HQ) W (Below.next0 H2.out hW));have HB:=Ub (fun W (hW:Bw W2 W)=>Below.next0 (Below.next0 (Xo3 HQ) H2.out) hW);clear hS;refine Q7w (by kernel_rfl) 9 rfl (fun W=>Bw W2 W) (fun _ _ h h'=>Below.next0 h h') (Q56 [.int .i64 0,.agg #[.bool x.neg,.int .i64 x.exp,.slice ax lx cx],undef,.agg #[.bool y.neg,.int .i64 y.exp,.slice ay ly cy],undef,undef,undef,undef,.int .i64 0] (Q2s [(2,fun u w=>Q7b w u x.val),(4,fun u w=>Q7b w u y.val),(5,fun u w=>Q7b w u S),(6,Q9c S),(7,fun u w=>Q6u w u S)])) (Q0j (Q12 (fun p hp=>by
  simp only[Uy,TN,Xbo] at hp;rcases hp with rfl|rfl|rfl|rfl|rfl
  ·exact Q2c _
  ·exact Q2c _
  ·exact Q2c _
  ·exact Q8p _
  ·exact Qbi _))) (J1v w (w.heap.size+1+1) S) 8 (.int .i64 0) (fun v w h=>(Q0f rfl).1 h) (by decide) (by kernel_rfl) (by kernel_rfl) (by kernel_rfl) (by kernel_rfl) (by kernel_rfl) (Q04 W2) ?_ ?_ ?_
 ·refine ⟨fun A W hW F0 A0=>?_,?_⟩
  ·have e0:=Q0d F0 0 (by kernel_rfl) rfl;refine Q02 rfl (Q1m rfl rfl ?_);simp[go_sem,e0]
  refine ⟨fun A W hW F0 A0=>?_,?_⟩
  ·have e4:=Q0d F0 4 (by kernel_rfl) rfl;have hq:=(HC.out W hW).1;obtain ⟨k0,k1,k2⟩:=hq.cc;refine Q02 rfl (Q1m rfl rfl ?_);simp[go_sem,e4,k0,k1,k2]
  refine ⟨fun A W hW F0 A0=>?_,?_⟩
  ·have e18:=Q0s A0 1 (by decide) rfl rfl rfl;refine Q02 rfl ?_;refine Q0u (f:=59) (args:= #[.agg #[.bool x.neg,.int .i64 x.exp,.slice ax lx cx]]) (by simp[go_sem,e18]) ((Qdk x.neg x.exp ax lx cx x.ws W ((Xo0 HW).lie.step (HB.out W hW)) (Xo2 HW)).mono ?_);rintro e w2' ⟨u',rfl,Jl,B4⟩;exact ⟨_,rfl,B4,(Q00 rfl).2 Jl⟩
  refine ⟨fun A W hW F0 A0=>?_,?_⟩
  ·have e5:=Q0d F0 5 (by kernel_rfl) rfl;have hq:=(HC.out W hW).2.1;obtain ⟨k0,k1,k2⟩:=hq.cc;refine Q02 rfl (Q1m rfl rfl ?_);simp[go_sem,e5,k0,k1,k2]
  refine ⟨fun A W hW F0 A0=>?_,?_⟩
  ·have e20:=Q0s A0 3 (by decide) rfl rfl rfl;refine Q02 rfl ?_;refine Q0u (f:=59) (args:= #[.agg #[.bool y.neg,.int .i64 y.exp,.slice ay ly cy]]) (by simp[go_sem,e20]) ((Qdk y.neg y.exp ay ly cy y.ws W ((Xo1 HW).lie.step (HB.out W hW)) (Xo3 HW)).mono ?_);rintro e w2' ⟨u',rfl,Jl,B4⟩;exact ⟨_,rfl,B4,(Q00 rfl).2 Jl⟩
  refine ⟨fun A W hW F0 A0=>?_,?_⟩
  ·have e17:=Q0s A0 0 (by decide) rfl rfl rfl;have i8:=(Q00 rfl).1 (A0 2 (by decide));have hv4:=(Q00 rfl).1 (A0 4 (by decide));have y6:=Qko _ _ _ _ W i8 hv4 (Q35 (Xo2 HW) (Xo0 HW).lie.low) (Q35 (Xo3 HW) (Xo1 HW).lie.low);obtain ⟨n7,a7,l7,c7,q7,v7,Qs,_⟩:=i8;obtain ⟨n8,a8,l8,c8,q8,v8,hu8,_⟩:=hv4;have e19:=Q1w Qs;have e21:=Q1w hu8;rw[Qs,hu8] at y6;have hS:x.val+y.val=S:=(Xe5 HW);rw[hS] at y6;refine Q02 rfl ?_;refine Q0u (f:=168) (args:= #[.int .i64 0,.agg #[.bool n7,.slice a7 l7 c7,.int .i64 q7],.agg #[.bool n8,.slice a8 l8 c8,.int .i64 q8]]) (by simp[go_sem,e17,e19,e21]) (y6.mono ?_);rintro e w2' ⟨u',rfl,Jl,B4⟩;exact ⟨_,rfl,B4,(Q00 rfl).2 Jl⟩
  refine ⟨fun A W hW F0 A0=>?_,?_⟩
  ·obtain ⟨n7,a7,l7,c7,q7,v7,Qs,Qb,hc7,hD7⟩:=(Q00 rfl).1 (A0 5 (by decide));have e22:=Q1w Qs;have YH:=(Q8y (k:=4352) hc7 (Q9x (T:=69632) (by rw[hD7];exact (Xo4 HW)) (Ue _)) (by omega)).1;rw[Qb.len] at YH;refine Q02 rfl ?_;refine Q0u (f:=118) (args:= #[.agg #[.bool n7,.slice a7 l7 c7,.int .i64 q7]]) (by simp[go_sem,e22]) ((Q80 n7 a7 l7 c7 v7 q7 W Qb (by omega)).mono ?_);rintro e w2' ⟨n',e',a',l',c',L,er,rfl,WA,hw',B4⟩;refine ⟨_,rfl,B4,(Q00 rfl).2 ?_⟩;have:=Qv3 hc7 WA hw' (by rw[hD7];exact (Xo4 HW));rwa[hD7] at this
  refine ⟨fun A W hW F0 A0=>?_,?_⟩
  ·obtain ⟨v,Qs,KD⟩:=(Q00 rfl).1 (A0 6 (by decide));have e23:=Q1w Qs;refine Q02 rfl ?_;exact Q33 (w':=W) (u:=v) (by simp[go_sem,e23]) (Ug _ _) ((Q00 rfl).2 KD)
  refine ⟨fun A W hW F0 A0=>?_,trivial⟩
  ·obtain ⟨v,Qs,KD⟩:=(Q00 rfl).1 (A0 6 (by decide));have e23:=Q1w Qs;refine Q02 rfl (Q1m rfl rfl ?_);simp[go_sem,e23]
 ·refine And.intro ?_ (And.intro (by decide) ?_)
  ·intro A W hW F0 A0;obtain ⟨z,a7,l7,c7,Qs,h1,h2,h3⟩:=(Q00 rfl).1 (A0 7 (by decide));have e24:=Q1w Qs;have e6:=Q0d F0 6 (by kernel_rfl) rfl;have M3:=(HC.out W hW).2.2;have k0:=M3.c0;have f0:=M3.f0;have f1:=M3.f1;have f2:=M3.f2;have d1:=M3.d1 (.bool z.neg);have d2:=M3.d2 (.bool z.neg) (.int .i64 z.exp);refine Q32 (w':=(((W.setCell ⟨w.heap.size+1+1,0,none⟩ (.bool z.neg)).setCell ⟨w.heap.size+1+1,1,none⟩ (.int .i64 z.exp)).setCell ⟨w.heap.size+1+1,2,none⟩ (.slice a7 l7 c7))) (by simp[go_sem,e6,e24,k0,f0,f1,f2,d1,d2]) ?_;exact Qgb (by omega) (HB.out W hW) M3 h1 h2 h3
  ·intro A W F0 hv;have e25:=Q0i (j:=8) (t:=25) rfl hv;simp[go_sem,e25]
 intro vs W9 S2 VF;simp only[Q0y,Act.put,Uu,UI,UF,VF];obtain ⟨z,a9,l9,c9,O7,h1,h2,h3,V3⟩:=S2;obtain ⟨g0,g1,g2⟩:=O7.cc;have HE:=Xh4 h1 h2 h3 V3;clear O7 h1 h2 h3 V3 VF
 go_wp2_with fail
 exact ⟨rfl,.tuple #[.agg #[.bool z.neg,.int .i64 z.exp,.slice a9 l9 c9],.int .i64 0],by simp[results,go_sem,g0,g1,g2],⟨_,rfl,_,rfl,z,a9,l9,c9,rfl,(Xo0 HE),(Xo1 HE),(Xo2 HE)⟩,(Xe3 HE)⟩
def J1e (v:Nat) (n:Nat) (u:Value) (w:World):Prop:=∃a l c,u=.slice a l c/\l<=n/\Q0r w a l c v
theorem Qkq (v n:Nat):Q24 (J1e v n):=fun _ _ _ ⟨a,l,c,h1,h3,h2⟩ hb=>⟨a,l,c,h1,h3,h2.step hb⟩
theorem Qv4 (x:Q47) (k:Int) (ax:OA) (lx cx:Nat) (w:World) (h1:Q0m w ax lx cx x) (i1:x.ok) (h0:x.ws≠[]) (hk: -131072<=k/\k<=131072) (S:Dyadic) (hS:dy (sgn x.neg (val (2^64) x.ws)) (x.exp+k)=S) (hf:Q44 S):
 Calls Tryz.prog 78 #[.agg #[.bool x.neg,.int .i64 x.exp,.slice ax lx cx],.int .i64 k] w fun e w'=>(∃u,e=.returned u/\Q9c S u w')/\Bw w w':=by
 obtain ⟨A2,hX,hR,X1⟩:=Q8g w (.bool x.neg) (.int .i64 x.exp) (.slice ax lx cx) (.bool false) (.int .i64 0) (.slice none 0 0) 26 26;obtain ⟨W0,R1⟩:∃W0,(w.alloc (.cells #[.bool x.neg,.int .i64 x.exp,.slice ax lx cx] 26)).alloc (.cells #[.bool false,.int .i64 0,.slice none 0 0] 26)=W0:=⟨_,rfl⟩;rw[R1] at A2 hX hR X1;have Ki:=fun W (hW:Bw W0 W)=>Q5u x.neg x.exp ax lx cx x.ws W (h1.lie.step (Below.next0 X1 hW)) h1.lo h1.hi (Un h1.lie.cap h1.lie.most);rw[UQ (show Q0a x.neg x.exp x.ws from i1)] at Ki;have y6:=Qa8 i1;have Kn:Q4y x.neg (val (2^64) x.ws) x.exp:=Qdb i1 h1.lie.low;have x7:val (2^64) x.ws≠0:=fun e=>h0 ((Q45 i1 h1.lie.low).1 (by
  show dy (sgn x.neg (val (2^64) x.ws)) x.exp=0
  rw[e,Q2u];exact Qah _))
 have hcn2:Q4y x.neg (val (2^64) x.ws) (x.exp+k):=⟨fun e=>absurd e x7,Kn.2⟩;have XJ:=(Q5g i1 h1.lie.low).1;have I3:¬((lx:Int)=0):=by
  have:=h1.lie.len;intro e;exact h0 (UJ.1 (by omega))
 have hl0b:((lx:Int)==0)=false:=beq_eq_false_iff_ne.2 I3;have X2:¬(131072<k):=by omega
 have o5:¬(k< -131072):=by omega
 have Z6:IntKind.i64.wrap (x.exp+k)=x.exp+k:=by rw[UN];omega
 have HQ:=Xh4 (fun W (hW:Bw W0 W)=>And.intro (hX.step hW (by omega)) (hR.step hW (by omega))) Ki X1 A2;have HW:=Xh7 h1 i1 hcn2 hS hf y6 XJ;obtain ⟨k0,k1,k2⟩:=hX.cc;clear A2 hX hR X1 Ki h1 i1 hf Kn hcn2 hS hk x7 h0 XJ I3 y6
 go_enter Tryz.func78,Tryz.ntmps78
 go_upto_region 1 with fail
 clear R1
 go_upto_region 7 with (go_at_call 25;refine ((Xo1 HQ) W0 (Ug _ _)).mono ?_;rintro r W1 ⟨rfl,C0⟩
                        have hq:=((Xo0 HQ) W1 C0).1;obtain ⟨k0,k1,k2⟩:=hq.cc;have H1:=Ub C0;clear C0 hq)
 have HC:=Ub (fun W (hW:Bw W1 W)=>(Xo0 HQ) W (Below.next0 H1.out hW));have HB:=Ub (fun W (hW:Bw W1 W)=>Below.next0 (Below.next0 (Xo2 HQ) H1.out) hW);refine Q7w (by kernel_rfl) 13 rfl (fun W=>Bw W1 W) (fun _ _ h h'=>Below.next0 h h') (Q56 [.pointer (some ⟨w.heap.size,0,none⟩),.bool x.neg,.pointer (some ⟨w.heap.size,2,none⟩),.slice ax lx cx,undef,.pointer (some ⟨w.heap.size,1,none⟩),.int .i64 x.exp,.int .i64 k,.int .i64 (x.exp+k),undef,undef,undef,.int .i64 0] (Q2s [(4,J1e (val (2^64) x.ws) 1000),(9,fun u w=>Q7b w u S),(10,Q9c S),(11,fun u w=>Q6u w u S)])) (Q0j (Q12 (Qyp (Qkq _ _) (Q2c _) (Q8p _) (Qbi _)))) (J1v w (w.heap.size+1) S) 12 (.int .i64 0) (fun v w h=>(Q0f rfl).1 h) (by decide) (by kernel_rfl) (by kernel_rfl) (by kernel_rfl) (by kernel_rfl) (by kernel_rfl) (Q04 W1) ?_ ?_ ?_
 ·refine ⟨fun A W hW F0 A0=>?_,?_⟩
  ·have e2:=Q0d F0 2 (by kernel_rfl) rfl;refine Q02 rfl (Q1m rfl rfl ?_);simp[go_sem,e2]
  refine ⟨fun A W hW F0 A0=>?_,?_⟩
  ·have e:=Q0s A0 0 (by decide) rfl rfl rfl;have k0:=(HC.out W hW).1.c0;refine Q02 rfl (Q1m rfl rfl ?_);simp[go_sem,e,k0]
  refine ⟨fun A W hW F0 A0=>?_,?_⟩
  ·have e2:=Q0d F0 2 (by kernel_rfl) rfl;refine Q02 rfl (Q1m rfl rfl ?_);simp[go_sem,e2]
  refine ⟨fun A W hW F0 A0=>?_,?_⟩
  ·have e:=Q0s A0 2 (by decide) rfl rfl rfl;have k0:=(HC.out W hW).1.c2;refine Q02 rfl (Q1m rfl rfl ?_);simp[go_sem,e,k0]
  refine ⟨fun A W hW F0 A0=>?_,?_⟩
  ·have e:=Q0s A0 3 (by decide) rfl rfl rfl;have hl:=(Xo0 HW).lie.len;have XJ:=(Xe6 HW);refine Q02 rfl ?_;refine Q0u (f:=73) (args:= #[.slice ax lx cx]) (by simp[go_sem,e]) ((Q8v ax lx cx x.ws W ((Xo0 HW).lie.step (HB.out W hW)) (by omega)).mono ?_);rintro e w2' ⟨a',n',c',rfl,Zb,y7,B4⟩;exact ⟨_,rfl,B4,(Q00 rfl).2 ⟨a',n',c',rfl,by omega,y7⟩⟩
  refine ⟨fun A W hW F0 A0=>?_,?_⟩
  ·have e2:=Q0d F0 2 (by kernel_rfl) rfl;refine Q02 rfl (Q1m rfl rfl ?_);simp[go_sem,e2]
  refine ⟨fun A W hW F0 A0=>?_,?_⟩
  ·have e:=Q0s A0 5 (by decide) rfl rfl rfl;have k0:=(HC.out W hW).1.c1;refine Q02 rfl (Q1m rfl rfl ?_);simp[go_sem,e,k0]
  refine ⟨fun A W hW F0 A0=>?_,?_⟩
  ·have e1:=Q0d F0 1 (by kernel_rfl) rfl;refine Q02 rfl (Q1m rfl rfl ?_);simp[go_sem,e1]
  refine ⟨fun A W hW F0 A0=>?_,?_⟩
  ·have e:=Q0s A0 6 (by decide) rfl rfl rfl;have e':=Q0s A0 7 (by decide) rfl rfl rfl;refine Q02 rfl (Q1m rfl rfl ?_);simp[go_sem,e,e',Z6]
  refine ⟨fun A W hW F0 A0=>?_,?_⟩
  ·have e:=Q0s A0 1 (by decide) rfl rfl rfl;have e':=Q0s A0 8 (by decide) rfl rfl rfl;obtain ⟨a7,l7,c7,Qs,YH,Qb⟩:=(Q00 rfl).1 (A0 4 (by decide));have e4:=Q1w Qs;refine Q02 rfl ?_;exact Q33 (w':=W) (u:=.agg #[.bool x.neg,.slice a7 l7 c7,.int .i64 (x.exp+k)]) (by simp[go_sem,e,e',e4]) (Ug _ _) ((Q00 rfl).2 ⟨_,_,_,_,_,_,rfl,Qb,(Xo2 HW),(Xo3 HW)⟩)
  refine ⟨fun A W hW F0 A0=>?_,?_⟩
  ·obtain ⟨n7,a7,l7,c7,q7,v7,Qs,Qb,hc7,hD7⟩:=(Q00 rfl).1 (A0 9 (by decide));have e22:=Q1w Qs;have YH:=(Q8y (k:=4352) hc7 (Q9x (T:=69632) (by rw[hD7];exact (Xo4 HW)) (Ue _)) (by omega)).1;rw[Qb.len] at YH;refine Q02 rfl ?_;refine Q0u (f:=118) (args:= #[.agg #[.bool n7,.slice a7 l7 c7,.int .i64 q7]]) (by simp[go_sem,e22]) ((Q80 n7 a7 l7 c7 v7 q7 W Qb (by omega)).mono ?_);rintro e w2' ⟨n',e',a',l',c',L,er,rfl,WA,hw',B4⟩;refine ⟨_,rfl,B4,(Q00 rfl).2 ?_⟩;have:=Qv3 hc7 WA hw' (by rw[hD7];exact (Xo4 HW));rwa[hD7] at this
  refine ⟨fun A W hW F0 A0=>?_,?_⟩
  ·obtain ⟨v,Qs,KD⟩:=(Q00 rfl).1 (A0 10 (by decide));have e23:=Q1w Qs;refine Q02 rfl ?_;exact Q33 (w':=W) (u:=v) (by simp[go_sem,e23]) (Ug _ _) ((Q00 rfl).2 KD)
  refine ⟨fun A W hW F0 A0=>?_,trivial⟩
  ·obtain ⟨v,Qs,KD⟩:=(Q00 rfl).1 (A0 10 (by decide));have e23:=Q1w Qs;refine Q02 rfl (Q1m rfl rfl ?_);simp[go_sem,e23]
 ·refine And.intro ?_ (And.intro (by decide) ?_)
  ·intro A W hW F0 A0;obtain ⟨z,a7,l7,c7,Qs,h1,h2,h3⟩:=(Q00 rfl).1 (A0 11 (by decide));have e24:=Q1w Qs;have e4:=Q0d F0 4 (by kernel_rfl) rfl;have M3:=(HC.out W hW).2;have k0:=M3.c0;have f0:=M3.f0;have f1:=M3.f1;have f2:=M3.f2;have d1:=M3.d1 (.bool z.neg);have d2:=M3.d2 (.bool z.neg) (.int .i64 z.exp);refine Q32 (w':=(((W.setCell ⟨w.heap.size+1,0,none⟩ (.bool z.neg)).setCell ⟨w.heap.size+1,1,none⟩ (.int .i64 z.exp)).setCell ⟨w.heap.size+1,2,none⟩ (.slice a7 l7 c7))) (by simp[go_sem,e4,e24,k0,f0,f1,f2,d1,d2]) ?_;exact Qgb (by omega) (HB.out W hW) M3 h1 h2 h3
  ·intro A W F0 hv;have e25:=Q0i (j:=12) (t:=34) rfl hv;simp[go_sem,e25]
 intro vs W9 S2 VF;simp only[Q0y,Act.put,Uu,UI,UF,VF];obtain ⟨z,a9,l9,c9,O7,h1,h2,h3,V3⟩:=S2;obtain ⟨g0,g1,g2⟩:=O7.cc;have HE:=Xh4 h1 h2 h3 V3;clear O7 h1 h2 h3 V3 VF
 go_wp2_with fail
 exact ⟨rfl,.tuple #[.agg #[.bool z.neg,.int .i64 z.exp,.slice a9 l9 c9],.int .i64 0],by simp[results,go_sem,g0,g1,g2],⟨_,rfl,_,rfl,z,a9,l9,c9,rfl,(Xo0 HE),(Xo1 HE),(Xo2 HE)⟩,(Xe3 HE)⟩
theorem WordsIn.turnD {w w':World} {b i:Nat} {a:OA} {l c:Nat} {L:LN} (h:WordsIn w a l c L) (hd:Q42 w b i) (ht:Q0e (·=b) w w'):WordsIn w' a l c L:=
 (Q0m.turnD (x:=⟨false,0,L⟩) ⟨h,(by show _<=(0:Int);decide),(by show (0:Int)<=_;decide)⟩ hd ht).lie
theorem Qej {v:Nat} {e:Int} (neg:Bool) (hv:v<1024) (h1: -1000<=e) (h2:e<=1000):Q44 (dy (sgn neg v) e):=by
 by_cases h0:v=0
 ·subst h0;rw[Q2u,Qah];exact .inl rfl
 ·obtain ⟨z,u,hu,rfl⟩:=Qnq v h0;have P1:0<2^z:=Tr (by decide);have hdiv:u*2^z / 2^z=u:=Nat.mul_div_cancel _ P1;have htz:Qn5 (u*2^z) z:=by
   refine ⟨?_,?_⟩
   all_goals first
    |exact Nat.mul_mod_left _ _
    |(rw[hdiv];exact hu)
  have m8:z<10:=by
   refine TI fun G5=>?_;have h3:2^10<=2^z:=UO (by decide) G5;have h4:1*2^z<=u*2^z:=Td _ (by omega);omega
  have Kl:u<1024:=by
   have:=Nat.le_mul_of_pos_right u P1;omega
  have h5:=Qrt htz neg e;rw[hdiv] at h5;rw[<-h5];exact (Q5t hu).2 ⟨Uc Kl (by decide),by omega,by omega⟩
theorem Qos {m e:Int} (hm:m.natAbs<1024) (h1: -1000<=e) (h2:e<=1000):Q44 (dy m e):=by
 have h:=Qej (v:=m.natAbs) (e:=e) (decide (m<0)) hm h1 h2;have hs:sgn (decide (m<0)) m.natAbs=m:=by
  unfold sgn
  by_cases h0:m<0
  ·simp[h0];omega
  ·simp[h0];omega
 rwa[hs] at h
theorem Qxd (b i:Nat) (w:World) (h:Q42 w b i) (hi:i<=990000):
 Calls Tryz.prog 80 #[.pointer (some ⟨b,0,none⟩)] w fun e w'=>(∃(v:Nat) (e0:Int) (u:Value),1<=v/\v<=8/\-3<=e0/\e0<=0/\e=.returned u/\Q6u w' u (dy (v:Int) e0))/\Q42 w' b (i+2)/\Q0e (·=b) w w':=by
 have Z2:∀o,Bw w (w.alloc o):=fun o=>Ba;have I3:=Q0h w (.cells #[.bool false,.int .i64 0,.slice none 0 0] 26);have O9:=Q03.new w (.bool false) (.int .i64 0) (.slice none 0 0) 26;have U4:=h.lt;have K5:=Q4o b i (w.alloc (.cells #[.bool false,.int .i64 0,.slice none 0 0] 26)) (h.call (Z2 _)) (by omega);have HM:=Xh2 K5 O9;clear K5 O9 h
 go_enter Tryz.func80,Tryz.ntmps80
 go_upto_region 1 with fail
 go_wp2_with (first
  |(go_at_call 117;refine (Xo0 HM).mono ?_;rintro e w1 ⟨⟨x,hx,rfl⟩,C3,Q2⟩
    obtain ⟨p,hp,hp7⟩:∃p:Nat,bits .and .u64 (x:Int) (7:Int)=(p:Int)/\p<=7:=⟨_,u64_and_nat x 7 hx (by decide),Nat.and_le_right⟩;obtain ⟨m,hm,KB,hm8⟩:∃m:Nat,(1:Int)+(p:Int)=(m:Int)/\1<=m/\m<=8:=⟨1+p,by omega,by omega,by omega⟩;have J1:Bw w1 (w1.alloc (.cells #[.int .u64 (m:Int)] 83)):=Ba;have C6:=Qdu b (i+1) 4 (w1.alloc (.cells #[.int .u64 (m:Int)] 83)) (C3.call J1) (by omega) (by decide) (by decide);have JT:=Qdi w1 m (by omega) 83;have XZ:w.heap.size<w1.heap.size:=Uc I3 Q2.size;have J2:=((Xe1 HM).turn Q2 I3 (by omega)).step J1 XZ;have hT1:Q0e (·=b) w (w1.alloc (.cells #[.int .u64 (m:Int)] 83)):=((Q0e.of_below (Z2 _) _).trans0 Q2).trans0 (Q0e.of_below J1 _);have Zn:=Xh6 C6 JT (C3.call J1) J2 hT1 (Uc XZ J1.size);clear C3 Q2 C6 JT J1 J2 hT1 XZ)
  |(go_at_call 77;refine (Xo0 Zn).mono ?_;rintro e w2 ⟨⟨y,hy,rfl⟩,V2,M1⟩
    have Z1:=Q61 false (some ⟨w1.heap.size,0,none⟩) 1 1 [m] ((y:Int)-3) w2 ((Xo1 Zn).turnD (Xo2 Zn) M1) (by decide) (by omega) (by omega);have JU:=(Xo3 Zn).turn M1 (Xe5 Zn) (by omega);have ZR:=Xh5 Z1 V2 JU ((Xo4 Zn).trans0 M1) (Uc (Xe5 Zn) M1.size);clear V2 M1 Z1 JU)
  |(go_at_call 76;refine (Xo0 ZR).mono ?_;rintro e w3 ⟨C4,G0⟩
    obtain ⟨u,rfl,z,a3,l3,c3,rfl,G1,K1,Jy⟩:=Qce C4 (Qej false (by simp[val];omega) (by omega) (by omega));have A1:=(Xo2 ZR).step G0 (Xe4 ZR);have N4:=A1.c0;have m4:=A1.f0;have Y3:=A1.f1;have A4:=A1.f2;have V6:=A1.d1 (.bool z.neg);have I5:=A1.d2 (.bool z.neg) (.int .i64 z.exp);have E3:=Xh6 A1 ((Xo3 ZR).trans0 (Q0e.of_below G0 _)) G1 K1 Jy ((Xo1 ZR).call G0);clear A1 G1 K1 Jy G0 C4))
 have JN:=(Xo0 E3).store (.bool z.neg) (.int .i64 z.exp) (.slice a3 l3 c3);obtain ⟨g0,g1,g2⟩:=JN.cc;have XM:=(((Xo1 E3).newSet (p:=⟨w.heap.size,0,none⟩) (Ue _) (.bool z.neg)).newSet (p:=⟨w.heap.size,1,none⟩) (Ue _) (.int .i64 z.exp)).newSet (p:=⟨w.heap.size,2,none⟩) (Ue _) (.slice a3 l3 c3);have ht7:Q0e (fun k=>k=w.heap.size) w3 (((w3.setCell ⟨w.heap.size,0,none⟩ (.bool z.neg)).setCell ⟨w.heap.size,1,none⟩ (.int .i64 z.exp)).setCell ⟨w.heap.size,2,none⟩ (.slice a3 l3 c3)):=((Q0e.setCell (fun k=>k=w.heap.size) w3 (p:=⟨w.heap.size,0,none⟩) rfl (.bool z.neg)).trans0 (Q0e.setCell (fun k=>k=w.heap.size) _ (p:=⟨w.heap.size,1,none⟩) rfl (.int .i64 z.exp))).trans0 (Q0e.setCell (fun k=>k=w.heap.size) _ (p:=⟨w.heap.size,2,none⟩) rfl (.slice a3 l3 c3));have Qb:=(Xe5 E3).turn ht7 (fun k hk=>by omega);have G1:=(Xo2 E3);have QS:Q0m _ a3 l3 c3 z:=⟨G1.lie.set3 (Xo0 E3) (.bool z.neg) (.int .i64 z.exp) (.slice a3 l3 c3),G1.lo,G1.hi⟩;have hv:dy (sgn false (val (2^64) [m])) ((y:Int)-3)=dy (m:Int) ((y:Int)-3):=by
  have:val (2^64) [m]=m:=by simp[val]
  rw[this];rfl
 have Jy:=(Xo4 E3);rw[hv] at Jy;clear JN N4 m4 Y3 A4 V6 I5 ht7 G1 hv;generalize World.setCell _ _ _=W5 at g0 g1 g2 XM QS Qb⊢;exact ⟨rfl,.agg #[.bool z.neg,.int .i64 z.exp,.slice a3 l3 c3],by simp[results,go_sem,g0,g1,g2],⟨m,_,_,KB,hm8,by omega,by omega,rfl,z,a3,l3,c3,rfl,QS,(Xo3 E3),Jy⟩,Qb,XM⟩
theorem Q26.turnD {w w':World} {B b i:Nat} {p:Pl} {L:List IvV} (h:Q26 w B p L) (hd:Q42 w b i) (ht:Q0e (·=b) w w') (hb:b<B):Q26 w' B p L:=by
 obtain ⟨xs,hr⟩:=h.row;have Q0:∀x,p.a=some x->x.block≠b:=fun x hx=>by have:=(h.lt hx).1;omega
 refine ⟨⟨xs,hr.keep fun x hx=>ht.block _ (h.lt hx).2 (Q0 x hx)⟩,h.len,fun j x hx=>?_⟩;obtain ⟨g,ha,a,l,c,a2,m,d,⟨h0,h1,h2,h3,h4,h5⟩,h6,h7⟩:=h.ent j x hx;have hc:∀k u,w.cell? ⟨g,k,none⟩=some u->w'.cell? ⟨g,k,none⟩=some u:=fun k u hu=>(ht.cell (p:=⟨g,k,none⟩) (h.lt ha).2 (by have:=Q0 _ ha;exact this)).trans hu;exact ⟨g,ha,a,l,c,a2,m,d,⟨hc _ _ h0,hc _ _ h1,hc _ _ h2,hc _ _ h3,hc _ _ h4,hc _ _ h5⟩,h6.turnD hd ht,h7.turnD hd ht⟩
theorem Qzv {W:World} {B:Nat} {p:Pl} {L:List IvV} (hS:Q26 W B p L) (hB:B<=W.heap.size) {y:IvV} {q1 q2:Pl} (h1:Q0m W q1.a q1.l q1.c y.lo) (h2:Q0m W q2.a q2.l q2.c y.hi) (hl:p.l<=1000) (ty:TypeId):
 ∃a' c' W',(Builtin.append_ #[23,23] ty #[.slice p.a p.l p.c,.slice (some ⟨W.heap.size,0,none⟩) 1 1]).run Tryz.prog (W.alloc (.cells #[.bool y.lo.neg,.int .i64 y.lo.exp,.slice q1.a q1.l q1.c,.bool y.hi.neg,.int .i64 y.hi.exp,.slice q2.a q2.l q2.c] 44))=.ok (.slice a' (p.l+1) c') W'/\Q26 W' B ⟨a',p.l+1,c'⟩ (L++[y])/\Below B W W':=by
 obtain ⟨W1,O2⟩:∃W1,W.alloc (.cells #[.bool y.lo.neg,.int .i64 y.lo.exp,.slice q1.a q1.l q1.c,.bool y.hi.neg,.int .i64 y.hi.exp,.slice q2.a q2.l q2.c] 44)=W1:=⟨_,rfl⟩;have hb:Bw W W1:=by rw[<-O2];exact Ba
 have G8:W1.heap[W.heap.size]?=some (.cells (ivL q1 q2 y).toArray 44 (0,0)):=by rw[<-O2];exact Um _ _
 rw[O2];obtain ⟨i0,E2,P1,G1,K1⟩:=Q0p Qmx;have hW:=hS.step hb;obtain ⟨xs,hr⟩:=hW.row;have hBW:=Un hB hb.size;obtain ⟨g,c',w',S1,I0,K6,Y1⟩:=Q0w (P:=Tryz.prog) NoU W1 23 ty 44 i0 _ 6 80 Qeb E2 P1 G1 K1 rfl Qxz B hBW p.a p.l p.c xs hr W.heap.size 1 1 (ivL q1 q2 y) rfl (Tx (cs:=(ivL q1 q2 y).toArray) G8) (by intro u hu;simp only[ivL,Uy,TN,Xbo] at hu;rcases hu with rfl|rfl|rfl|rfl|rfl|rfl <;> rfl) (Quq _ _ _) (by decide) (by omega) (by decide) (by decide);have VI:=hW.push hr K6 Y1 I0 (h1.step hb) (h2.step hb);refine ⟨_,c',w',S1,VI,?_⟩;have VW:Below B W W1:=⟨hb.os,hb.tape,hb.output,hb.size,fun z hz=>hb.block z (Uc hz hB)⟩;exact VW.trans ⟨K6.os,K6.tape,K6.output,K6.size,fun z hz=>K6.block z (Uc hz hBW) (fun e=>by
  cases ha:p.a with
  |none=>rw[ha] at e;cases e
  |some q=>rw[ha] at e;simp only[Uz,Uj] at e;have:=(hW.lt ha).1;omega)⟩
theorem Qxe (neg:Bool) (p q:Nat):dy (sgn neg p) (-2)+dy (sgn false q) (-6)=dy (sgn neg p*16+q) (-6):=by
 have h:=Q9i (sgn neg p) (-6) 4;rw[show (-6:Int)+(4:Nat)= -2 from rfl] at h;rw[h,Qf6];rfl
theorem Qzw (neg:Bool) (p q:Nat):Qer (dy (sgn neg p) (-2)) (dy (sgn neg p*16+q) (-6)):=by
 have h:=Q9i (sgn neg p) (-6) 4;rw[show (-6:Int)+(4:Nat)= -2 from rfl] at h;unfold Qer;rw[h,Q6g];exact Ta (by show¬(sgn neg p*16+(q:Int)<sgn neg p*2^4);omega)
def J1w (w:World) (b i n:Nat) (s5 s6:Value) (wr:World):Prop:=∃(j:Nat) (a:OA) (c:Nat) (L:List IvV),s5=.slice a j c/\s6=.int .i64 (j:Int)/\j<=n/\Q26 wr w.heap.size ⟨a,j,c⟩ L/\(∀x∈L,x.ok)/\Q42 wr b (i+3*j)/\Q0e (·=b) w wr
theorem Qxf (b i n:Nat) (w:World) (h:Q42 w b i) (hi:i<=90000) (hn:n<=100):
 Calls Tryz.prog 79 #[.pointer (some ⟨b,0,none⟩),.int .i64 (n:Int)] w fun e w'=>(∃a c L,e=.returned (.slice a n c)/\Q26 w' w.heap.size ⟨a,n,c⟩ L/\∀x∈L,x.ok)/\Q42 w' b (i+3*n)/\Q0e (·=b) w w':=by
 have U4:=h.lt;have HD:=Ub h;clear h
 go_enter Tryz.func79,Tryz.ntmps79
 go_wp2_with fail
 go_loopw [5,6] (fun s5 s6 wr=>J1w w b i n s5 s6 wr) (fun _ iv _=>n-(intOf iv).toNat)
 case atStart=>exact ⟨0,none,0,[],rfl,rfl,Ut _,Q26.nil_ _ _,(fun x hx=>by cases hx),HD.out,Q0e.refl _ _⟩
 case round=>
  obtain ⟨j,a1,c1,L,rfl,rfl,hj,hS,P2,F8,ht⟩:=hrel
  by_cases E0:j<n
  ·have J0:(j:Int)<(n:Int):=(by omega);have WC:=Qzt b (i+3*j) 2 wr F8 (by omega) (by decide) (by decide);have HS:=Xh4 hS P2 F8 ht;clear hS P2 F8 ht
   go_upto_region 8 with (first
    |(go_at_call 120;refine (Xo0 H5).mono ?_;rintro e w6 ⟨⟨_,rfl,_,rfl,z3,a6,l6,c6,rfl,A3,X5,p5⟩,F3⟩
      have J1:Bw w6 (w6.alloc (.cells #[.bool z3.neg,.int .i64 z3.exp,.slice a6 l6 c6] 26)):=Ba;have hB:=F3.trans (J1.mono F3.size);have J2:=(Xo1 H5).1.step hB (Xo1 H5).2;have hN3:=Q03.new w6 (.bool z3.neg) (.int .i64 z3.exp) (.slice a6 l6 c6) 26;obtain ⟨k0,k1,k2⟩:=J2.cc;obtain ⟨m0,m1,m2⟩:=hN3.cc;have H6:=Xh8 ((Xo2 H5).step hB) (Xo3 H5) (A3.step J1) X5 p5 ((Xo4 H5).call hB) ((Xo5 H5).step hB) ((Xe6 H5).trans0 (Q0e.of_below hB _));clear J1 hB J2 hN3 A3 X5 p5 F3)
    |(go_at_call 76;refine (Xo0 H4).mono ?_;rintro e w5 ⟨C4,Z0⟩
      obtain ⟨u,rfl,z2,a5,l5,c5,rfl,J8,i8,hv3⟩:=Qce C4 (Qej false (by simp[val];omega) (by decide) (by decide));have J1:Bw w5 (w5.alloc (.cells #[.bool z2.neg,.int .i64 z2.exp,.slice a5 l5 c5] 26)):=Ba;have hB:=Z0.trans (J1.mono Z0.size);have J2:=(Xo1 H4).1.step hB (Xo1 H4).2;have JU:=Q03.new w5 (.bool z2.neg) (.int .i64 z2.exp) (.slice a5 l5 c5) 26;have hin1:=(Xo2 H4).step hB;have hin2:=J8.step J1;have VM:z.val=dy (sgn y p) (-2):=(by rw[(Xo3 H4).2];simp[val]);have YR:z2.val=dy (sgn false p2) (-6):=(by rw[hv3];simp[val]);have N5:z.val+z2.val=dy (sgn y p*16+p2) (-6):=(by rw[VM,YR,Qxe]);have P0:=Qkp z z2 a3 l3 c3 a5 l5 c5 (w5.alloc (.cells #[.bool z2.neg,.int .i64 z2.exp,.slice a5 l5 c5] 26)) hin1 hin2 (Xo3 H4).1 i8 (by rw[N5];exact Qos (by have:=Qai y p;omega) (by decide) (by decide));rw[N5] at P0;obtain ⟨k0,k1,k2⟩:=J2.cc;obtain ⟨l0,l1,l2⟩:=JU.cc;have H5:=Xh7 P0 (And.intro J2 (UA J2.c0)) hin1 (And.intro (Xo3 H4).1 VM) ((Xo4 H4).call hB) ((Xo5 H4).step hB) ((Xe6 H4).trans0 (Q0e.of_below hB _));clear J1 hB J2 JU hin1 hin2 VM YR N5 P0 J8 i8 hv3 Z0 C4)
    |(go_at_call 117;refine (Xo0 H3).mono ?_;rintro e w4 ⟨⟨x2,Z3,rfl⟩,hd4,I9⟩
      obtain ⟨p2,JF,hp27⟩:∃p:Nat,bits .and .u64 (x2:Int) (7:Int)=(p:Int)/\p<=7:=⟨_,u64_and_nat x2 7 Z3 (by decide),Nat.and_le_right⟩;have J1:Bw w4 (w4.alloc (.cells #[.int .u64 (p2:Int)] 83)):=Ba;have JT:=Qdi w4 p2 (by omega) 83;have Z1:=Q61 false (some ⟨w4.heap.size,0,none⟩) 1 1 [p2] (-6) (w4.alloc (.cells #[.int .u64 (p2:Int)] 83)) JT (by decide) (by decide) (by decide);have J2:=((Xo1 H3).1.turn I9 (Xo1 H3).2.1 (by have:=(Xo1 H3).2.2;omega)).step J1 (Uc (Xo1 H3).2.1 I9.size);have H4:=Xh7 Z1 (And.intro J2 (UA J2.c0)) (((Xo2 H3).turnD (Xo4 H3) I9).step J1) (Xo3 H3) (hd4.call J1) (((Xo5 H3).turnD (Xo4 H3) I9 U4).step J1) (((Xe6 H3).trans0 I9).trans0 (Q0e.of_below J1 _));clear hd4 I9 J1 JT Z1 J2)
    |(go_at_call 76;refine (Xo0 H2).mono ?_;rintro e w3 ⟨C4,G0⟩
      obtain ⟨u,rfl,z,a3,l3,c3,rfl,G1,K1,Jy⟩:=Qce C4 (Qej y (by simp[val];omega) (by decide) (by decide));have J1:Bw w3 (w3.alloc (.cells #[.bool z.neg,.int .i64 z.exp,.slice a3 l3 c3] 26)):=Ba;have hB:=G0.trans (J1.mono G0.size);have J2:=Q03.new w3 (.bool z.neg) (.int .i64 z.exp) (.slice a3 l3 c3) 26;have JO:=(Xo1 H2).call hB;have C6:=Q4o b (i+3*j+1+1) (w3.alloc (.cells #[.bool z.neg,.int .i64 z.exp,.slice a3 l3 c3] 26)) JO (by omega);have B8:=UA J2.c0;have JR:=(Xe3 H2).size;have hge2:=G0.size;have H3:=Xh7 C6 (And.intro J2 (And.intro B8 (show b<w3.heap.size by omega))) (G1.step J1) (And.intro K1 Jy) JO ((Xo2 H2).step hB) ((Xe3 H2).trans0 (Q0e.of_below hB _));clear J1 hB J2 JO C6 G1 K1 Jy G0 C4 B8 JR hge2)
    |(go_at_call 117;refine (Xo0 H1).mono ?_;rintro e w2 ⟨⟨x1,R4,rfl⟩,V2,M1⟩
      obtain ⟨p,hp,hp7⟩:∃p:Nat,bits .and .u64 (x1:Int) (7:Int)=(p:Int)/\p<=7:=⟨_,u64_and_nat x1 7 R4 (by decide),Nat.and_le_right⟩;have J1:Bw w2 (w2.alloc (.cells #[.int .u64 (p:Int)] 83)):=Ba;have JT:=Qdi w2 p (by omega) 83;have Z1:=Q61 y (some ⟨w2.heap.size,0,none⟩) 1 1 [p] (-2) (w2.alloc (.cells #[.int .u64 (p:Int)] 83)) JT (by decide) (by decide) (by decide);have H2:=Xh4 Z1 (V2.call J1) (((Xo1 H1).turnD (Xo2 H1) M1 U4).step J1) (((Xe3 H1).trans0 M1).trans0 (Q0e.of_below J1 _));clear V2 M1 J1 JT Z1)
    |(go_at_call 119;refine WC.mono ?_;rintro e w1 ⟨⟨y,rfl⟩,C3,Q2⟩
      have K5:=Q4o b (i+3*j+1) w1 C3 (by omega);have H1:=Xh4 K5 ((Xo0 HS).turnD (Xo2 HS) Q2 U4) C3 ((Xe3 HS).trans0 Q2);clear C3 Q2 K5 WC))
   have JR:=(Xe7 H6).size;obtain ⟨a8,c8,w8,R3,hS8,A5⟩:=Qzv (Xo6 H6) JR (y:=⟨z,z3⟩) (q1:=⟨a3,l3,c3⟩) (q2:=⟨a6,l6,c6⟩) (Xo0 H6) (Xo2 H6) (by show j<=1000;omega) 23;simp only[Ui] at R3;have hn8:∀x∈L++[(⟨z,z3⟩:IvV)],x.ok:=fun x hx=>by
    rcases Tq.1 hx with hx|hx
    ·exact (Xo1 HS) x hx
    ·rw[Ux] at hx;subst hx;exact ⟨(Xo1 H6).1,(Xo3 H6),by show Qer z.val z3.val;rw[(Xo1 H6).2,(Xo4 H6)];exact Qzw y p p2⟩
   have H8:=Xh3 hS8 A5 hn8;have HR8:=Ub R3;clear hS8 A5 hn8 JR R3
   go_wp2_with (at_builtin;refine Q06 rfl (.tmp 34) (.tmp 38) 23 23 rfl _ _ rfl rfl _ _ HR8.out ?_)
   have K2:=(Xo1 H8);have hdk8:Q42 w8 b (i+3*(j+1)):=by
    have:=(Xo5 H6);have h2:Q42 w8 b (i+3*j+1+1+1):=this.turn ⟨K2.os,K2.tape,K2.output,K2.size,fun k hk hn=>K2.block k (TI hn)⟩ (fp:=fun k=>w.heap.size<=k) (fun k hk h=>by omega);rwa[show i+3*(j+1)=i+3*j+1+1+1 by omega]
   refine ⟨⟨j+1,a8,c8,L++[⟨z,z3⟩],rfl,congrArg (Value.int .i64) (by omega),by omega,(Xo0 H8),(Xe2 H8),hdk8,(Xe7 H6).past K2⟩,by simp only[intOf];omega⟩
  ·have J0:¬(j:Int)<(n:Int):=(by omega);obtain rfl:j=n:=(by omega);have HE:=Xh4 hS P2 F8 ht;clear hS P2 F8 ht
   go_wp2_with fail
   go_ret;exact ⟨⟨a1,c1,rfl,L,(Xo0 HE),(Xo1 HE)⟩,(Xo2 HE),(Xe3 HE)⟩
end Go.Proofs.YtidojbkhlenahaaGreatDoor
namespace Go.Proofs.YtidojbkhlenahaaGreatDoor
open Go Go.RowKit
section
variable {P:Program}
def Qv5 (P:Program) (E:World->World->Prop) (ops:Array Oper) (C:World->Prop) (V:Nat->Value->World->Prop) (Bx:Qlq) (a0:Act) (k:Nat) (o:Oper):Prop:=
 ∀a w D,C w->(∀j,D j=true->V j (Q09 ops a j) w)->Bx D (Q09 ops a) w->Q7q ops a0 a->D k=false->(∀i∈Q1v o,D i=true)->(∀j oj,ops[j]?=some oj->D j=true->∀i∈Q1v oj,D i=true)->
  Q0n P (fun u w'=>E w w'/\V k u w'/\Bx (Q1z D k) (Q27 (Q09 ops a) k u) w') ((execOp a.eval o).run P w)
def Qgc (P:Program) (E:World->World->Prop) (ops:Array Oper) (C:World->Prop) (V:Nat->Value->World->Prop) (Bx:Qlq) (plain:Nat->Bool) (a0:Act):List Oper->Nat->Prop
 |[],_=>True
 |o::r,k=>((plain k=true/\Q4m P Qeo ops C V a0 k o)∨Qv5 P E ops C V Bx a0 k o)/\Qgc P E ops C V Bx plain a0 r (k+1)
theorem Qgc.at_ {E:World->World->Prop} {ops:Array Oper} {C:World->Prop} {V:Nat->Value->World->Prop} {Bx:Qlq} {plain:Nat->Bool} {a0:Act}:∀(l:List Oper) (k i:Nat) (o:Oper),Qgc P E ops C V Bx plain a0 l k->l[i]?=some o->(plain (k+i)=true/\Q4m P Qeo ops C V a0 (k+i) o)∨Qv5 P E ops C V Bx a0 (k+i) o
 |[],_,_,_,_,h=>by simp at h
 |x::r,k,0,o,h,ho=>by
  simp only[UD,Uj] at ho;subst ho;exact h.1
 |x::r,k,i+1,o,h,ho=>by
  have:=Qgc.at_ r (k+1) i o h.2 (by simpa using ho);rwa[show k+1+i=k+(i+1) by omega] at this
theorem Qad {Q:Exit->Act->World->Prop} {id:Nat} {l:List Oper} {a0:Act} {w:World} (hm:P.follows .mixedOrders=true) (plain:Nat->Bool) (E:World->World->Prop) (hE:∀w w',Bw w w'->E w w') (C:World->Prop) (hC:∀w w',C w->E w w'->C w') (V:Nat->Value->World->Prop) (hV:∀i v w w',V i v w->E w w'->V i v w') (Bx:Qlq)
 (hBx:∀D vs w w' k u,plain k=true->D k=false->Bx D vs w->Bw w w'->Bx (Q1z D k) (Q27 vs k u) w')
 (hN:∀(i:Nat) o,l[i]?=some o->o.dst=none->(∀v u w,V i v w->V i u w)/\∀D vs v w,Bx D (Q27 vs i v) w->Bx D vs w)
 (hB:Q7r l a0.tmps.size=true) (hG:(l.all fun o=>o.guard.isNone)=true) (h0:C w.drew) (Z2:∀vs,Bx (fun _=>false) vs w.drew)
 (step:Qgc P E l.toArray C V Bx plain a0 l 0) (fin:∀D vs w,(∀j,j<l.length->D j=true)->C w->(∀j,D j=true->V j (vs j) w)->Bx D vs w->Q .normal (Q0y vs l 0 a0) w):(Code.region id l.toArray true).wp P Q a0 w:=by
 have Q5:∀(k:Nat) (o:Oper),l[k]?=some o->∀y,Region.wanted o y=true:=fun k o ho y=>by
  have h1:=Tu.1 hG o (Uf ho);unfold Region.wanted;cases hg:o.guard with
  |none=>rfl
  |some g=>rw[hg] at h1;cases h1
 have Y0:∀(k:Nat) (o:Oper),l[k]?=some o->Q6h P l.toArray (fun D vs w=>C w/\(∀j,D j=true->V j (vs j) w)/\Bx D vs w) a0 k o:=by
  intro k o ho a w D ⟨ZO,KH,hBw⟩ F0 hk q5 C2;refine ⟨Q5 k o ho _,?_⟩;have Xs:∀u w',E w w'->V k u w'->∀j,Q1z D k j=true->V j (Q27 (Q09 l.toArray a) k u j) w':=fun u w' hb hu j hj=>by
   unfold Q27;unfold Q1z at hj
   by_cases y9:j=k
   ·subst y9;rw[Us rfl];exact hu
   ·rw[Up y9];rw[Up y9] at hj;exact hV _ _ _ _ (KH j hj) hb
  have P0:=Qgc.at_ _ _ _ _ step ho;rw[UH] at P0;rcases P0 with ⟨hp,h1⟩|h1
  ·have h1:=h1 a w ZO F0 fun i hi=>KH i (q5 i hi);rw[Us (Q5 k o ho _)] at h1;have hK:∀u w',Bw w w'->V k u w'->C w'/\(∀j,Q1z D k j=true->V j (Q27 (Q09 l.toArray a) k u j) w')/\Bx (Q1z D k) (Q27 (Q09 l.toArray a) k u) w':=fun u w' hb hu=>⟨hC _ _ ZO (hE _ _ hb),Xs u w' (hE _ _ hb) hu,hBx _ _ _ _ _ _ hp hk hBw hb⟩
   revert h1
   generalize (execOp a.eval o).run P w=res;intro h1;cases res with
   |ok x w'=>
    cases x with
    |value u=>exact hK u w' h1.1 h1.2
    |enter f args=>
     refine Xbd h1 ?_;rintro e w'' ⟨v,rfl,hb,hv⟩;exact ⟨v,rfl,hK v w'' hb hv⟩
    |skip=>exact hK undef w' h1.1 h1.2
    |_=>exact h1.elim
   |halt x w'=>exact h1.elim
  ·have h1:=h1 a w D ZO KH hBw F0 hk q5 C2;have hK:∀u w',E w w'/\V k u w'/\Bx (Q1z D k) (Q27 (Q09 l.toArray a) k u) w'->C w'/\(∀j,Q1z D k j=true->V j (Q27 (Q09 l.toArray a) k u j) w')/\Bx (Q1z D k) (Q27 (Q09 l.toArray a) k u) w':=fun u w' h=>⟨hC _ _ ZO h.1,Xs u w' h.1 h.2.1,h.2.2⟩
   revert h1
   generalize (execOp a.eval o).run P w=res;intro h1;cases res with
   |ok x w'=>
    cases x with
    |value u=>exact hK u w' h1
    |enter f args=>
     refine Xbd h1 ?_;rintro e w'' ⟨v,rfl,hv⟩;exact ⟨v,rfl,hK v w'' hv⟩
    |skip=>exact hK undef w' h1
    |_=>exact h1.elim
   |halt x w'=>exact h1.elim
 have QK:∀(r:List Oper) (k:Nat),(∀(i:Nat) o,r[i]?=some o->l[k+i]?=some o)->Q89 P l.toArray (fun D vs w=>C w/\(∀j,D j=true->V j (vs j) w)/\Bx D vs w) a0 r k:=by
  intro r
  induction r with
  |nil=>intro k _;trivial
  |cons o r ih=>
   intro k h;refine ⟨Y0 k o (by simpa using h 0 o rfl),ih (k+1) fun i o' Qf=>?_⟩;have:=h (i+1) o' (by simpa using Qf);rwa[show k+(i+1)=k+1+i by omega] at this
 refine Q31 hm (fun D vs w=>C w/\(∀j,D j=true->V j (vs j) w)/\Bx D vs w) (fun i o hi hd D vs v w h=>?_) hB (fun vs=>⟨h0,(fun j hj=>by cases hj),Z2 vs⟩) (QK l 0 fun i o h=>by rw[UH];exact h) (fun D vs w Y0 h=>fin D vs w Y0 h.1 h.2.1 h.2.2);obtain ⟨h1,h2⟩:=hN i o hi hd;refine ⟨h.1,fun j hj=>?_,h2 _ _ _ _ h.2.2⟩;have h3:=h.2.1 j hj;unfold Q27 at h3
 by_cases hji:j=i
 ·subst hji;rw[Us rfl] at h3;exact h1 _ _ _ h3
 ·rwa[Up hji] at h3
end
end Go.Proofs.YtidojbkhlenahaaGreatDoor
namespace Go.Proofs.YtidojbkhlenahaaGreatDoor
open Go.RowKit WordsM DecM
theorem Q42.blk {w:World} {b i:Nat} (h:Q42 w b i):∃a n c,Blk w b [.slice a n c,.int .i64 (i:Int)]:=by
 obtain ⟨a,n,c,ls,hh,_⟩:=h;refine ⟨a,n,c,fun j v hj=>?_,fun j _=>TC _ _ _ _ _ hh,fun j hj=>?_⟩
 ·rw[Uv _ _ _ _ _ _ hh];simpa using hj
 ·rw[Uv _ _ _ _ _ _ hh];simpa using hj
theorem Qxg (a:OA) (n c:Nat) (i:Int):Odd [.slice a n c,.int .i64 i]:=by
 refine ⟨fun u hu=>?_,fun e h=>by simp at h,fun j _ _ _ _ _ _ h1 _=>?_⟩
 ·simp only[Uy,TN,Xbo] at hu;rcases hu with rfl|rfl <;> first|exact Q3z _ _ _|exact Q2t _
 ·simp at h1
theorem Q1g.turnE {w w':World} {b i:Nat} {a:OA} {n c:Nat} {F:List (List Q01)} (h:Q1g w a n c F) (hd:Q42 w b i) (ht:Q0e (·=b) w w') (ha:∀x,a=some x->x.block≠b):Q1g w' a n c F:=by
 obtain ⟨a0,n0,c0,hb⟩:=hd.blk;exact h.only ⟨ht.size,fun k hk hn=>ht.block k hk hn,hb⟩ (Qxg _ _ _ _) ha
structure EK (fp:Nat->Prop) (a:OA) (n c:Nat) (F:List (List Q01)) (w w':World):Prop where
 turn:Q0e fp w w'
 u64:∀(p:Addr) (x:Nat),w.cell? p=some (nv .u64 x)->w'.cell? p=some (nv .u64 x)
 fld:Q1g w a n c F->Q1g w' a n c F
section
variable {fp:Nat->Prop} {fa:OA} {fl fc:Nat} {F:List (List Q01)}
theorem EK.of_below {w w':World} (h:Bw w w'):EK fp fa fl fc F w w':=⟨Q0e.of_below h _,fun _ _ hp=>(h.cell (UA hp)).trans hp,fun hf=>hf.step h⟩
theorem EK.of_deck {w w':World} {b i:Nat} (hd:Q42 w b i) (ht:Q0e (·=b) w w') (hb:fp b) (ha:∀x,fa=some x->x.block≠b):EK fp fa fl fc F w w':=
 ⟨ht.more fun k _ e=>by subst e;exact hb,fun p x hp=>(ht.cell (UA hp) fun e=>by
   have e:p.block=b:=e;cases hs:p.spot with
   |none=>exact hd.nou p.off x (by rw[<-e];rw[<-hp];congr 1;cases p;simp only at hs;rw[hs])
   |some z=>
    obtain ⟨a0,n0,c0,ls,hh,_⟩:=hd;unfold World.cell? at hp;rw[e,hh] at hp;simp[hs] at hp).trans hp,fun hf=>hf.turnE hd ht ha⟩
theorem EK.of_only {w w':World} {g:Nat} {vs:LV} (h:Qf1 w w' g vs) (ho:Odd vs) (hos:w'.os=w.os/\w'.tape=w.tape/\w'.output=w.output) (hg:fp g) (ha:∀x,fa=some x->x.block≠g):EK fp fa fl fc F w w':=
 ⟨⟨hos.1,hos.2.1,hos.2.2,h.size,fun k hk hn=>h.block k hk (fun e=>hn (by subst e;exact hg))⟩,fun p x hp=>h.cell hp fun e=>by
   cases hs:p.spot with
   |none=>
    have T8:w.cell? ⟨g,p.off,none⟩=some (nv .u64 x):=(by rw[<-hp,<-e];congr 1;cases p;simp only at hs;rw[hs]);exact ho.nou _ (Uf (h.in_ T8)) x rfl
   |some z=>
    unfold World.cell? at hp;rw[hs] at hp
    split at hp <;> simp at hp,fun hf=>hf.only h ho ha⟩
theorem EK.num {w w':World} (h:EK fp fa fl fc F w w') {a:OA} {l c:Nat} {x:Q47} (hn:Q0m w a l c x):Q0m w' a l c x:=by
 refine ⟨⟨hn.lie.len,hn.lie.cap,hn.lie.most,hn.lie.low,?_⟩,hn.lo,hn.hi⟩;rcases hn.lie.rd with h0|⟨g,o,rfl,hg,hc⟩
 ·exact .inl h0
 ·exact .inr ⟨g,o,rfl,Uc hg h.turn.size,fun j y hy=>h.u64 _ _ (hc j y hy)⟩
theorem EK.numat {w w':World} (h:EK fp fa fl fc F w w') {u:Value} {d:Dyadic} (hn:Q6u w u d):Q6u w' u d:=by
 obtain ⟨x,a,l,c,rfl,h1,h2,h3⟩:=hn;exact ⟨x,a,l,c,rfl,h.num h1,h2,h3⟩
theorem EK.box {w w':World} {B:Nat} (h:EK fp fa fl fc F w w') {p:Pl} {L:List IvV} (hS:Q26 w B p L) (hf:∀k,fp k->k<B):Q26 w' B p L:=by
 obtain ⟨xs,hr⟩:=hS.row;have Q0:∀x,p.a=some x->¬fp x.block:=fun x hx e=>by have:=(hS.lt hx).1;have:=hf _ e;omega
 refine ⟨⟨xs,hr.keep fun x hx=>h.turn.block _ (hS.lt hx).2 (Q0 x hx)⟩,hS.len,fun j x hx=>?_⟩;obtain ⟨g,ha,a,l,c,a2,m,d,⟨h0,h1,h2,h3,h4,h5⟩,h6,h7⟩:=hS.ent j x hx;have hc:∀k u,w.cell? ⟨g,k,none⟩=some u->w'.cell? ⟨g,k,none⟩=some u:=fun k u hu=>(h.turn.cell (p:=⟨g,k,none⟩) (hS.lt ha).2 (by have:=Q0 _ ha;exact this)).trans hu;exact ⟨g,ha,a,l,c,a2,m,d,⟨hc _ _ h0,hc _ _ h1,hc _ _ h2,hc _ _ h3,hc _ _ h4,hc _ _ h5⟩,h.num h6,h.num h7⟩
theorem EK.trans {w1 w2 w3:World} (h:EK fp fa fl fc F w1 w2) (k:EK fp fa fl fc F w2 w3):EK fp fa fl fc F w1 w3:=⟨h.turn.trans0 k.turn,fun p x hp=>k.u64 p x (h.u64 p x hp),fun hf=>k.fld (h.fld hf)⟩
end
theorem Q26.lower {w:World} {B B':Nat} {p:Pl} {L:List IvV} (h:Q26 w B p L) (hB:B'<=B):Q26 w B' p L:=by
 obtain ⟨xs,hr⟩:=h.row;refine ⟨⟨xs,⟨⟨hr.1.1,?_⟩,hr.2⟩⟩,h.len,h.ent⟩;rcases hr.1.2 with h1|⟨g,cap,cur,e,hb,r⟩
 ·exact .inl h1
 ·exact .inr ⟨g,cap,cur,e,Un hB hb,r⟩
theorem Qv6 {x:Q47} {e:Int} (h1:x.ok) (h2:Low (2^64) x.ws) (h3:x.val=dy 1 e) (he: -100<=e/\e<=100):x=⟨false,e,[1]⟩:=by
 refine Qg9 h1 h2 ?_ (fun y hy=>by rw[Ux] at hy;subst hy;decide) ?_
 ·show Q0a false e [1]
  unfold Q0a;rw[Up (by simp)];exact ⟨by decide,by decide,by decide,by omega,by omega⟩
 ·rw[h3];show dy 1 e=dy (sgn false (val (2^64) [1])) e
  simp[val,sgn]
theorem Q9d {E:World->World->Prop}:∀{l:List (Nat × (Value->World->Prop))},(∀p∈l,∀v w w',p.2 v w->E w w'->p.2 v w')->∀i φ,Q2s l i=some φ->∀v w w',φ v w->E w w'->φ v w'
 |[],_,i,φ,h=>by cases h
 |(j,ψ)::r,hs,i,φ,h=>by
  unfold Q2s at h
  split at h
  ·injection h with h;subst h;exact hs (j,ψ) (by simp)
  ·exact Q9d (fun p hp=>hs p (by simp[hp])) i φ h
theorem Q0n.value {P:Program} {K:Value->World->Prop} {u:Value} {w':World} {res:Result Next} (hr:res=.ok (.value u) w') (h:K u w'):Q0n P K res:=by rw[hr];exact h
theorem Q0n.skip_ {P:Program} {K:Value->World->Prop} {w':World} {res:Result Next} (hr:res=.ok .skip w') (h:K undef w'):Q0n P K res:=by rw[hr];exact h
theorem Q0n.enter_ {P:Program} {K:Value->World->Prop} {w:World} {f:FuncId} {args:Array Value} {res:Result Next} (hr:res=.ok (.enter f args) w) (h:Calls P f args w fun e w'=>∃v,e=.returned v/\K v w'):Q0n P K res:=by rw[hr];exact h
def Qmy (lo n:Int) (u:Value) (_:World):Prop:=∃k:Int,0<=k/\k<n/\u=.int .i64 (lo+k)
def J1f (n:Int) (u:Value) (_:World):Prop:=∃k:Int,0<=k/\k<n/\u=.int .i64 (-k)
def Qkr (e:Int) (u:Value) (w:World):Prop:=∃k:Int,0<=k/\k<7/\Q9c (dy 1 (e-k)) u w
def Qzx (e:Int) (u:Value) (w:World):Prop:=∃k:Int,0<=k/\k<7/\Q6u w u (dy 1 (e-k))
theorem Q03.turnE2 {w w':World} {fp:Nat->Prop} {fa:OA} {fl fc:Nat} {F:List (List Q01)} {g:Nat} {v0 v1 v2:Value} (h:Q03 w g v0 v1 v2) (ht:EK fp fa fl fc F w w') (hg:g<w.heap.size) (hn:¬fp g):Q03 w' g v0 v1 v2:=
 ⟨(ht.turn.cell (p:=⟨g,0,none⟩) hg hn).trans h.c0,(ht.turn.cell (p:=⟨g,1,none⟩) hg hn).trans h.c1,(ht.turn.cell (p:=⟨g,2,none⟩) hg hn).trans h.c2,(ht.turn.frozen (p:=⟨g,0,none⟩) hg hn).trans h.f0,(ht.turn.frozen (p:=⟨g,1,none⟩) hg hn).trans h.f1,(ht.turn.frozen (p:=⟨g,2,none⟩) hg hn).trans h.f2⟩
theorem Blk.box3 {w:World} {g:Nat} {v0 v1 v2:Value} (h:Blk w g [v0,v1,v2]):Q03 w g v0 v1 v2:=⟨h.c 0 _ rfl,h.c 1 _ rfl,h.c 2 _ rfl,h.f 0 (by simp),h.f 1 (by simp),h.f 2 (by simp)⟩
theorem Qzy (n:Bool) (e:Int) (a:OA) (l c:Nat):Odd [.bool n,.int .i64 e,.slice a l c]:=by
 refine ⟨fun u hu=>?_,fun e h=>by simp at h,fun j _ _ _ _ _ _ _ h2=>?_⟩
 ·simp only[Uy,TN,Xbo] at hu;rcases hu with rfl|rfl|rfl <;> first|exact Q2m _|exact Q2t _|exact Q3z _ _ _
 ·simp at h2
def Qmz (b q0 N2:Nat) (e:Int) (D:Nat->Bool) (vs:Nat->Value) (w:World):Prop:=Q42 w b (q0+if D 2=true then 1 else 0)/\(D 8=true->∃g,vs 8=.pointer (some ⟨g,0,none⟩)/\N2<=g/\g<w.heap.size/\
 (if D 9=true then (∃(z:Q47) (a:OA) (l c:Nat) (k:Int),Q03 w g (.bool z.neg) (.int .i64 z.exp) (.slice a l c)/\Q0m w a l c z/\z.ok/\0<=k/\k<7/\z.val=dy 1 (e-k)) else Blk w g [.bool false,.int .i64 0,.slice none 0 0]))
theorem Qhl {v:Nat} {e:Int} (h:1<=v):Qgq (dy (v:Int) e):=by
 refine ⟨fun h0=>?_,by rw[Q9r];exact Ta (by omega)⟩;have:=Qlx (h0.trans (Qah e).symm);omega
theorem Qxh {e k:Int} (h:0<=k):Qer (dy 1 (e-k)) (dy 1 e):=by
 obtain ⟨j,rfl⟩:∃j:Nat,k=(j:Int):=⟨k.toNat,by omega⟩;have h1:=Q9i 1 (e-(j:Int)) j;rw[show e-(j:Int)+(j:Int)=e by omega] at h1;unfold Qer;rw[h1,Q6g];have h2:(0:Int)<2^j:=Int.pow_pos (by decide);exact Ta (by omega)
def BoxV (B n:Nat) (u:Value) (w:World):Prop:=∃a c L,u=.slice a n c/\Q26 w B ⟨a,n,c⟩ L/\∀x∈L,x.ok
def J1x (u:Value) (w:World):Prop:=∃(v:Nat) (e0:Int),1<=v/\v<=8/\-3<=e0/\e0<=0/\Q6u w u (dy (v:Int) e0)
def J1g (B n:Nat) (fa:OA) (fc:Nat) (F:List (List Q01)) (u:Value) (w:World):Prop:=∃p x,u=.agg (Q57 p x).toArray/\Q1g w fa n fc F/\p.f=⟨fa,n,fc⟩/\x.field=F/\Q26 w B p.b x.box/\Q0m w p.t.a p.t.l p.t.c x.til/\Q0m w p.m.a p.m.l p.m.c x.most/\Q0m w p.e.a p.e.l p.e.c x.least/\Q3c x
theorem Blk.lt0 {w:World} {b:Nat} (h:Blk w b zpL):b<w.heap.size:=Blk.lt (v:=.slice none 0 0) h
def Qep (n:Nat) (D:Nat->Bool):Nat:=(if D 4=true then 3*n else 0)+(if D 6=true then 2 else 0)+(if D 10=true then 1 else 0)+(if D 13=true then 1 else 0)+(if D 16=true then 1 else 0)
def Qv7 (b q0 n t4:Nat) (fa:OA) (D:Nat->Bool) (w:World):Prop:=Q42 w b (q0+Qep n D)/\(if D 19=true then (∃p x,Blk w t4 (Q57 p x)/\Q3x w p x/\Q3c x/\p.f.a=fa/\Q26 w (t4+1) p.b x.box) else Blk w t4 zpL)
theorem Qek (n:Nat) (D:Nat->Bool) (hn:n<=4):Qep n D<=17:=by
 unfold Qep;have h1:(if D 4=true then 3*n else 0)<=12:=by split <;> omega
 have h2:(if D 6=true then 2 else 0)<=2:=by split <;> omega
 have h3:(if D 10=true then 1 else 0)<=1:=by split <;> omega
 have h4:(if D 13=true then 1 else 0)<=1:=by split <;> omega
 have h5:(if D 16=true then 1 else 0)<=1:=by split <;> omega
 omega
theorem Q6v {b q0 n t4:Nat} {fa:OA} {D:Nat->Bool} {w w':World} (k s:Nat) (h:Qv7 b q0 n t4 fa D w) (hk:D k=false) (ht:Q0e (·=b) w w') (hb:t4≠b) (hd:Q42 w' b (q0+Qep n D+s)) (hc:Qep n (Q1z D k)=Qep n D+s) (h19:k≠19:=by decide) (E5:D 19=false:=by assumption):Qv7 b q0 n t4 fa (Q1z D k) w':=by
 refine ⟨by rw[hc,<-Nat.add_assoc];exact hd,?_⟩;rw[Q10 (Xbb h19),Up (by rw[E5];decide)];have h2:=h.2;rw[Up (by rw[E5];decide)] at h2;exact h2.same (ht.block t4 h2.lt0 hb)
theorem Qn0 {b q0 n t4 k:Nat} {fa:OA} {D:Nat->Bool} {w w':World} (h:Qv7 b q0 n t4 fa D w) (hb:Bw w w') (h4:k≠4) (h6:k≠6) (QL:k≠10) (Yd:k≠13) (h16:k≠16) (h19:k≠19):Qv7 b q0 n t4 fa (Q1z D k) w':=by
 have hc:Qep n (Q1z D k)=Qep n D:=by unfold Qep;rw[Q10 (Xbb h4),Q10 (Xbb h6),Q10 (Xbb QL),Q10 (Xbb Yd),Q10 (Xbb h16)]
 refine ⟨by rw[hc];exact h.1.call hb,?_⟩;rw[Q10 (Xbb h19)];have h2:=h.2
 by_cases hD:D 19=true
 ·rw[Us hD] at h2⊢;obtain ⟨p,x,g1,g2,g3,g4,g5⟩:=h2;exact ⟨p,x,g1.step hb g1.lt,g2.step hb,g3,g4,g5.step hb⟩
 ·rw[Up hD] at h2⊢;exact h2.step hb h2.lt0
theorem Qn1 (b i n:Nat) (fa:OA) (fc:Nat) (F:List (List Q01)) (w:World) (h:Q42 w b i) (hi:i<=80000) (hF:Q1g w fa n fc F) (hr:Q2j F) (Yl:∀x,fa=some x->x.block≠b):
 Calls Tryz.prog 45 #[.pointer (some ⟨b,0,none⟩),.slice fa n fc] w fun e w'=>(∃p x,e=.returned (.agg (Q57 p x).toArray)/\Q3x w' p x/\Q3c x/\p.f.a=fa/\Q26 w' w.heap.size p.b x.box)/\(∃q,Q42 w' b q)/\Q0e (·=b) w w':=by
 have U4:=h.lt;have Qj:n<=4:=by rw[<-hF.1];exact hr.2.1
 have K5:1<=n:=by rw[<-hF.1];exact hr.1
 have hZ:=Blk.new w zpL 28;have X1:Bw w (w.alloc (.cells zpL.toArray 28)):=Ba;have I3:=Q0h w (.cells zpL.toArray 28);obtain ⟨W0,R1⟩:∃W0,w.alloc (.cells zpL.toArray 28)=W0:=⟨_,rfl⟩;rw[R1] at hZ X1 I3;have J1:Bw W0 (W0.alloc (.cells #[.int .u64 1] 83)):=Ba;have JT:WordsIn (W0.alloc (.cells #[.int .u64 1] 83)) (some ⟨W0.heap.size,0,none⟩) 1 1 [1]:=Qdi W0 1 (by decide) 83;have Kn:=Qdu b i 4 (W0.alloc (.cells #[.int .u64 1] 83)) ((h.call X1).call J1) (by omega) (by decide) (by decide);have H0:=Xh8 Kn ((h.call X1).call J1) JT (hZ.step J1 I3) (X1.trans (J1.mono X1.size)) hF hr Yl;clear Kn J1 JT hZ hF hr Yl h;have WR:w.heap.size<W0.heap.size:=I3;clear I3 X1
 go_enter Tryz.func45,Tryz.ntmps45
 go_upto_region 1 with fail
 change Code.wp _ _ _ _ (w.alloc (.cells zpL.toArray 28))
 rw[R1];clear R1
 go_upto_region 2 with (first
  |(go_at_call 76;refine (Xo0 H1).mono ?_;rintro e w2 ⟨C4,D0⟩
    obtain ⟨u,rfl,x,ax,lx,cx,rfl,R4,Z3,KC⟩:=Qce C4 (Qej false (by simp[val]) (by omega) (by omega));obtain ⟨e0,he0⟩:∃e0:Int,(y:Int)-3=e0:=⟨_,rfl⟩;have WK:x=⟨false,e0,[1]⟩:=Qv6 Z3 R4.lie.low (by rw[KC,he0];simp[val,sgn]) (by omega);subst WK;have J1:Bw w2 (w2.alloc (.cells #[.bool false,.int .i64 e0,.slice ax lx cx] 26)):=Ba;have hB:=D0.trans (J1.mono D0.size);have hN:=Q03.new w2 (.bool false) (.int .i64 e0) (.slice ax lx cx) 26;have H2:=Xh7 hN (R4.step J1) Z3 ((Xo1 H1).call hB) ((Xo2 H1).step hB (Uc WR (Xe5 H1))) ((Xo3 H1).trans0 (Q0e.of_below hB _)) ((Xo4 H1).step hB);have HE0:=Ub (show -3<=e0/\e0<=0 by omega);have Zm:w.heap.size<w2.heap.size:=Uc (Uc WR (Xe5 H1)) D0.size;simp only;clear J1 hB hN R4 Z3 KC D0 C4)
  |(go_at_call 77;refine (Xo0 H0).mono ?_;rintro e w1 ⟨⟨y,hy,rfl⟩,C3,Q2⟩
    have Z1:=Q61 false (some ⟨W0.heap.size,0,none⟩) 1 1 [1] ((y:Int)-3) w1 ((Xo2 H0).turnD (Xo1 H0) Q2) (by decide) (by omega) (by omega);have hlW:W0.heap.size<=w1.heap.size:=Un (by rw[Ui];omega) Q2.size;have H1:=Xh6 Z1 C3 ((Xo3 H0).same (Q2.block _ (by rw[Ui];omega) (by omega))) ((Q0e.of_below (Xo4 H0) _).trans0 Q2) (((Xo5 H0).step (Xo4 H0)).turnE (Xo1 H0) Q2 (Xe7 H0)) hlW;clear Z1 C3 Q2 hlW))
 obtain ⟨W2,I4⟩:∃W2,w2.alloc (.cells #[.bool false,.int .i64 e0,.slice ax lx cx] 26)=W2:=⟨_,rfl⟩;have i7:w2.heap.size<W2.heap.size:=by rw[<-I4];exact Q0h _ _
 rw[I4] at H2⊢;clear I4;obtain ⟨t5,JV⟩:∃t5,w2.heap.size=t5:=⟨_,rfl⟩;rw[JV] at H2 i7 Zm⊢;clear JV;have Z0:b<t5:=Nat.lt_trans U4 Zm;refine Qad (by kernel_rfl) (fun k=>k != 2 && k != 8 && k != 9) (EK (fun k=>k=b∨W2.heap.size<=k) fa n fc F) (fun _ _ h=>EK.of_below h) (EK (fun k=>k=b∨W2.heap.size<=k) fa n fc F W2) (fun _ _ h k=>h.trans k) (Q56 [.agg #[.bool false,.int .i64 e0,.slice ax lx cx],.pointer (some ⟨b,0,none⟩),undef,undef,undef,undef,undef,.int .i64 0,undef,undef,.int .i64 0] (Q2s [(2,Qmy 0 7),(3,J1f 7),(4,Qkr e0),(5,Qkr e0),(6,Qzx e0),(8,fun _ _=>True),(9,fun _ _=>True)])) (Q0j (Q9d (fun q hq v w w' h hs=>?_))) (Qmz b (i+1) W2.heap.size e0) ?_ ?_ (by kernel_rfl) (by kernel_rfl) (EK.of_below (Q04 W2)) ?_ ?_ ?_
 ·simp only[Uy,TN,Xbo] at hq;rcases hq with rfl|rfl|rfl|rfl|rfl|rfl|rfl
  ·exact h
  ·exact h
  ·obtain ⟨k,h1,h2,v',h3,h4⟩:=h;exact ⟨k,h1,h2,v',h3,hs.numat h4⟩
  ·obtain ⟨k,h1,h2,v',h3,h4⟩:=h;exact ⟨k,h1,h2,v',h3,hs.numat h4⟩
  ·obtain ⟨k,h1,h2,h4⟩:=h;exact ⟨k,h1,h2,hs.numat h4⟩
  ·trivial
  ·trivial
 ·intro D vs w w' k u hp hk h hb;simp only[Xan,bne_iff_ne] at hp;obtain ⟨⟨h2,h8⟩,h9⟩:=hp;obtain ⟨hd,hx⟩:=h;unfold Qmz;rw[Q10 (Xbb h2),Q10 (Xbb h8),Q10 (Xbb h9),Q4a (Xbb h8)];refine ⟨hd.call hb,fun h=>?_⟩;obtain ⟨g,e1,e2,e3,e4⟩:=hx h;refine ⟨g,e1,e2,Uc e3 hb.size,?_⟩
  by_cases QV:D 9=true
  ·rw[Us QV] at e4⊢;obtain ⟨z,a,l,c,k,g1,g2,g3⟩:=e4;exact ⟨z,a,l,c,k,g1.step hb e3,g2.step hb,g3⟩
  ·rw[Up QV] at e4⊢;exact e4.step hb e3
 ·intro i o hi hd;have WE:i=9:=by
   rcases Qc2 (x:=9) (y:=9) (by kernel_rfl) hi hd with h|h <;> exact h
  subst WE;refine ⟨fun v u w _=>(Q00 rfl).2 trivial,fun D vs v w h=>?_⟩;unfold Qmz at h⊢;rw[Q4a (by decide)] at h;exact h
 ·intro vs;refine ⟨?_,fun h=>(by cases h)⟩;exact (Xo3 H2)
 ·refine ⟨.inl ⟨rfl,fun A W hW F0 A0=>?_⟩,?_⟩
  ·have e5:=Q0d F0 5 (by kernel_rfl) rfl;have hN:=(Xo0 H2).turnE2 hW i7 (by omega);obtain ⟨k0,k1,k2⟩:=hN.cc;refine Q02 rfl (Q1m rfl rfl ?_);simp[go_sem,e5,k0,k1,k2]
  refine ⟨.inl ⟨rfl,fun A W hW F0 A0=>?_⟩,?_⟩
  ·have e0':=Q0d F0 0 (by kernel_rfl) rfl;refine Q02 rfl (Q1m rfl rfl ?_);simp[go_sem,e0']
  refine ⟨.inr fun A W D hW hV hB F0 hk A0 C2=>?_,?_⟩
  ·have e15:=Q0i (j:=1) (t:=15) rfl ((Q0f rfl).1 (hV 1 (A0 1 (by decide))));have hd:Q42 W b (i+1):=by
    have:=hB.1;rw[Up (by rw[show D 2=false from hk];decide)] at this;exact this
   refine Q0n.enter_ (w:=W) (f:=77) (args:= #[.pointer (some ⟨b,0,none⟩),.int .i64 7]) (by simp[go_sem,e15]) ?_;refine (Qdu b (i+1) 7 W hd (by omega) (by decide) (by decide)).mono ?_;rintro e w' ⟨⟨y,hy,rfl⟩,V2,M1⟩;refine ⟨_,rfl,EK.of_deck hd M1 (.inl rfl) (Xe7 H0),(Q00 rfl).2 ⟨(y:Int),by omega,by omega,by rw[Xbr]⟩,?_,fun h=>?_⟩
   ·rw[Us (Q3g _ _)];exact V2
   ·rw[Q10 (by decide)] at h;obtain ⟨g,e1,e2,e3,e4⟩:=hB.2 h;refine ⟨g,by rw[Q4a (by decide)];exact e1,e2,Uc e3 M1.size,?_⟩;rw[Q10 (by decide)];have Vi:g≠b:=by omega
    by_cases QV:D 9=true
    ·have:D 2=true:=C2 9 _ rfl QV 2 (by decide);rw[hk] at this;cases this
    ·rw[Up QV] at e4⊢;exact e4.same (M1.block g e3 Vi)
  refine ⟨.inl ⟨rfl,fun A W hW F0 A0=>?_⟩,?_⟩
  ·obtain ⟨k,h1,h2,h3⟩:=(Q00 rfl).1 (A0 2 (by decide));rw[Xbr] at h3;have e16:=Q1w h3;have Z6:IntKind.i64.wrap (-k)= -k:=(by rw[UN];omega);refine Q02 rfl (Q33 (w':=W) (u:=.int .i64 (-k)) (by simp[go_sem,e16,Z6]) (Ug _ _) ((Q00 rfl).2 ⟨k,h1,h2,rfl⟩))
  refine ⟨.inl ⟨rfl,fun A W hW F0 A0=>?_⟩,?_⟩
  ·have e14:=Q0s A0 0 (by decide) rfl rfl rfl;obtain ⟨k,h1,h2,h3⟩:=(Q00 rfl).1 (A0 3 (by decide));have e17:=Q1w h3;have hS:dy (sgn false (val (2^64) [1])) (e0+ -k)=dy 1 (e0-k):=by
    have:e0+ -k=e0-k:=(by omega);rw[this];simp[val,sgn]
   refine Q02 rfl ?_;refine Q0u (f:=78) (args:= #[.agg #[.bool false,.int .i64 e0,.slice ax lx cx],.int .i64 (-k)]) (by simp[go_sem,e14,e17]) ((Qv4 ⟨false,e0,[1]⟩ (-k) ax lx cx W (hW.num (Xo1 H2)) (Xo2 H2) (by simp) (by omega) (dy 1 (e0-k)) hS (Qos (by decide) (by have:=HE0.out;omega) (by have:=HE0.out;omega))).mono ?_);rintro e w' ⟨⟨u,rfl,hu⟩,B4⟩;exact ⟨_,rfl,B4,(Q00 rfl).2 ⟨k,h1,h2,hu⟩⟩
  refine ⟨.inl ⟨rfl,fun A W hW F0 A0=>?_⟩,?_⟩
  ·obtain ⟨k,h1,h2,v,h3,h4⟩:=(Q00 rfl).1 (A0 4 (by decide));have e18:=Q1w h3;refine Q02 rfl (Q33 (w':=W) (u:=.tuple #[v,.int .i64 0]) (by simp[go_sem,e18]) (Ug _ _) ((Q00 rfl).2 ⟨k,h1,h2,v,rfl,h4⟩))
  refine ⟨.inl ⟨rfl,fun A W hW F0 A0=>?_⟩,?_⟩
  ·obtain ⟨k,h1,h2,v,h3,h4⟩:=(Q00 rfl).1 (A0 5 (by decide));have e13:=Q1w h3;refine Q02 rfl (Q33 (w':=W) (u:=v) (by simp[go_sem,e13]) (Ug _ _) ((Q00 rfl).2 ⟨k,h1,h2,h4⟩))
  refine ⟨.inl ⟨rfl,fun A W hW F0 A0=>?_⟩,?_⟩
  ·obtain ⟨k,h1,h2,v,h3,h4⟩:=(Q00 rfl).1 (A0 5 (by decide));have e13:=Q1w h3;refine Q02 rfl (Q1m rfl rfl ?_);simp[go_sem,e13]
  refine ⟨.inr fun A W D hW hV hB F0 hk A0 C2=>?_,?_⟩
  ·have J1:Bw W (W.alloc (.cells #[.bool false,.int .i64 0,.slice none 0 0] 26)):=Ba;have QV:¬D 9=true:=fun h=>by have:=C2 9 _ rfl h 8 (by decide);rw[hk] at this;cases this
   refine Q0n.value (u:=.pointer (some ⟨W.heap.size,0,none⟩)) (w':=W.alloc (.cells #[.bool false,.int .i64 0,.slice none 0 0] 26)) (by simp[go_sem]) ⟨EK.of_below J1,(Q00 rfl).2 trivial,?_,fun _=>⟨W.heap.size,Qa9 _ _ _,hW.turn.size,Q0h _ _,?_⟩⟩
   ·rw[Q10 (by decide)];exact hB.1.call J1
   ·rw[Q10 (by decide),Up QV];exact Blk.new W [.bool false,.int .i64 0,.slice none 0 0] 26
  refine ⟨.inr fun A W D hW hV hB F0 hk A0 C2=>?_,?_⟩
  ·obtain ⟨g,e1,e2,e3,e4⟩:=hB.2 (A0 8 (by decide));rw[Up (by rw[show D 9=false from hk];decide)] at e4;obtain ⟨k,h1,h2,z,a7,l7,c7,h3,h4,h5,h6⟩:=(Q00 rfl).1 (hV 6 (A0 6 (by decide)));have e6:=Q0i (j:=8) (t:=6) rfl e1;have e19:=Q0i (j:=6) (t:=19) rfl h3;have e4n:=e4.box3;have k0:=e4n.c0;have f0:=e4n.f0;have f1:=e4n.f1;have f2:=e4n.f2;have d1:=e4n.d1 (.bool z.neg);have d2:=e4n.d2 (.bool z.neg) (.int .i64 z.exp);have hO:=((Qf1.set e4 0 (.bool z.neg)).more 1 (.int .i64 z.exp)).more 2 (.slice a7 l7 c7);have hE:=EK.of_only (fp:=fun k=>k=b∨W2.heap.size<=k) (fa:=fa) (fl:=n) (fc:=fc) (F:=F) hO (Qzy _ _ _ _ _) ⟨rfl,rfl,rfl⟩ (.inr e2) (fun x hx he=>by
    have h1:=(Xe6 H2);rcases h1.2.2.2 with h0|⟨b0,o0,Yi,C0,_⟩
    ·have:=(Xo6 H0).1;rw[h0] at this;simp at this
    ·rw[Yi] at hx;injection hx with hx;subst hx
     have he:b0=g:=he;omega)
   refine Q0n.skip_ (w':=((W.setCell ⟨g,0,none⟩ (.bool z.neg)).setCell ⟨g,1,none⟩ (.int .i64 z.exp)).setCell ⟨g,2,none⟩ (.slice a7 l7 c7)) (by simp[go_sem,e6,e19,k0,f0,f1,f2,d1,d2]) ⟨hE,(Q00 rfl).2 trivial,?_,fun _=>⟨g,by rw[Q4a (by decide)];exact e1,e2,by simp only[UT];exact e3,?_⟩⟩
   ·rw[Q10 (by decide)];have hn:¬g<=b:=(by omega);exact hB.1.turn (fp:=fun k=>k=g) ⟨rfl,rfl,rfl,hO.size,fun k hk hn=>hO.block k hk hn⟩ (fun k hk e=>by omega)
   ·rw[Us (Q3g _ _)];exact ⟨z,a7,l7,c7,k,e4n.store _ _ _,hE.num h4,h5,h1,h2,h6⟩
  refine ⟨.inl ⟨rfl,fun A W hW F0 A0=>?_⟩,trivial⟩
  ·have e20:=Q0s A0 7 (by decide) rfl rfl rfl;refine Q02 rfl (Q1m rfl rfl ?_);simp[go_sem,e20]
 ·intro D vs W hD hC hV hB;have JO:Q42 W b (i+2):=by
   have:=hB.1;rw[Us (hD 2 (by decide))] at this;exact this
  obtain ⟨g,e8,R6,J5,K2⟩:=hB.2 (hD 8 (by decide));rw[Us (hD 9 (by decide))] at K2;obtain ⟨z,a7,l7,c7,k7,G1,K1,Jy,X2,o5,Yx⟩:=K2;have e10:=(Q0f rfl).1 (hV 10 (hD 10 (by decide)));have hmN:=(Xo0 H2).turnE2 hC i7 (by omega);have hmI:=hC.num (Xo1 H2);have hF3:=hC.fld (Xe6 H2);have hZ3:Blk W w.heap.size zpL:=(Xo4 H2).same (hC.turn.block _ (by omega) (by omega));have hT3:Q0e (·=b) w W:=(Xo5 H2).trans hC.turn (fun k hk h=>by have:=(Xo5 H2).size;omega);have hsz3:=hC.turn.size;have H3:=Xh6 JO (And.intro hmN (And.intro hmI (Xo2 H2))) (And.intro G1 (And.intro K1 (And.intro Jy Yx))) hF3 hZ3 hT3;clear JO G1 K1 Jy Yx hmN hmI hF3 hZ3 hT3 hB hC hV hD;simp only[Q0y,Act.put,Uu,UI,UF,e8];clear e8 e10
  go_upto_region 3 with fail
  have JV:t5<W.heap.size:=Uc i7 hsz3;refine Qad (by kernel_rfl) (fun k=>k != 4 && k != 6 && k != 10 && k != 13 && k != 16 && k != 19) (EK (fun k=>k=b∨k=w.heap.size) fa n fc F) (fun _ _ h=>EK.of_below h) (EK (fun k=>k=b∨k=w.heap.size) fa n fc F W) (fun _ _ h k=>h.trans k) (Q56 [.slice fa n fc,.pointer (some ⟨b,0,none⟩),.slice fa n fc,.int .i64 (n:Int),undef,.pointer (some ⟨b,0,none⟩),undef,.agg #[.bool false,.int .i64 e0,.slice ax lx cx],.agg #[.bool z.neg,.int .i64 z.exp,.slice a7 l7 c7],.pointer (some ⟨b,0,none⟩),undef,undef,.pointer (some ⟨b,0,none⟩),undef,undef,.pointer (some ⟨b,0,none⟩),undef,undef,undef,undef] (Q2s [(4,BoxV W.heap.size n),(6,J1x),(10,Qmy 0 49),(11,Qmy 16 49),(13,Qmy 0 3),(14,Qmy 2 3),(16,Qmy 0 9),(17,Qmy 1 9),(18,J1g W.heap.size n fa fc F),(19,fun _ _=>True)])) (Q0j (Q9d (fun q hq v w1 w2 h hs=>?_))) (fun D _ U=>Qv7 b (i+2) n w.heap.size fa D U) ?_ ?_ (by kernel_rfl) (by kernel_rfl) (EK.of_below (Q04 W)) ?_ ?_ ?_
  ·have hfW:∀k,(k=b∨k=w.heap.size)->k<W.heap.size:=fun k hk=>by omega
   simp only[Uy,TN,Xbo] at hq;rcases hq with rfl|rfl|rfl|rfl|rfl|rfl|rfl|rfl|rfl|rfl
   ·obtain ⟨a,c,L,h1,h2,h3⟩:=h;exact ⟨a,c,L,h1,hs.box h2 hfW,h3⟩
   ·obtain ⟨v',e',h1,h2,h3,h4,h5⟩:=h;exact ⟨v',e',h1,h2,h3,h4,hs.numat h5⟩
   ·exact h
   ·exact h
   ·exact h
   ·exact h
   ·exact h
   ·exact h
   ·obtain ⟨p,x,h1,h2,h3,h4,h5,h6,h7,h8,h9⟩:=h;exact ⟨p,x,h1,hs.fld h2,h3,h4,hs.box h5 hfW,hs.num h6,hs.num h7,hs.num h8,h9⟩
   ·trivial
  ·intro D vs w1 w2 k u hp hk h hb;simp only[Xan,bne_iff_ne] at hp;obtain ⟨⟨⟨⟨⟨h4,h6⟩,QL⟩,Yd⟩,h16⟩,h19⟩:=hp;exact Qn0 h hb h4 h6 QL Yd h16 h19
  ·intro o op hi hd;have WE:o=19:=by
    rcases Qc2 (x:=19) (y:=19) (by kernel_rfl) hi hd with h|h <;> exact h
   subst WE;exact ⟨fun v u w _=>(Q00 rfl).2 trivial,fun D vs v w h=>h⟩
  ·intro vs;exact ⟨(Xo0 H3),by rw[Up (fun h=>by cases h)];exact (Xo4 H3).drew⟩
  ·skip;refine ⟨.inl ⟨rfl,fun A U hU F0 A0=>?_⟩,?_⟩
   ·have e0':=Q0d F0 1 (by kernel_rfl) rfl;refine Q02 rfl (Q1m rfl rfl ?_);simp[go_sem,e0']
   refine ⟨.inl ⟨rfl,fun A U hU F0 A0=>?_⟩,?_⟩
   ·have e0':=Q0d F0 0 (by kernel_rfl) rfl;refine Q02 rfl (Q1m rfl rfl ?_);simp[go_sem,e0']
   refine ⟨.inl ⟨rfl,fun A U hU F0 A0=>?_⟩,?_⟩
   ·have e0':=Q0d F0 1 (by kernel_rfl) rfl;refine Q02 rfl (Q1m rfl rfl ?_);simp[go_sem,e0']
   refine ⟨.inl ⟨rfl,fun A U hU F0 A0=>?_⟩,?_⟩
   ·have e0':=Q0s A0 2 (by decide) rfl rfl rfl;refine Q02 rfl (Q1m rfl rfl ?_);simp[go_sem,e0']
   refine ⟨.inr fun A U D hU hV hB F0 hk A0 C2=>?_,?_⟩
   ·have e1:=Q0i (j:=1) (t:=22) rfl ((Q0f rfl).1 (hV 1 (A0 1 (by decide))));have e3:=Q0i (j:=3) (t:=24) rfl ((Q0f rfl).1 (hV 3 (A0 3 (by decide))));have hq:=Qek n D Qj;have E5:D 19=false:=(by cases V3:D 19;rfl;exact absurd (C2 19 _ rfl V3 4 (by decide)) (by rw[show D 4=false from hk];decide));refine Q0n.enter_ (w:=U) (f:=79) (args:= #[.pointer (some ⟨b,0,none⟩),.int .i64 (n:Int)]) (by simp[go_sem,e1,e3]) ?_;refine (Qxf b (i+2+Qep n D) n U hB.1 (by omega) (by omega)).mono ?_;rintro e w' ⟨⟨a,c,L,rfl,hS,P2⟩,V2,M1⟩;exact ⟨_,rfl,EK.of_deck hB.1 M1 (.inl rfl) (Xe7 H0),(Q00 rfl).2 ⟨a,c,L,rfl,hS.lower hU.turn.size,P2⟩,Q6v 4 (3*n) hB hk M1 (by omega) V2 (by unfold Qep;simp only[Q1z];simp[hk];try omega)⟩
   refine ⟨.inl ⟨rfl,fun A U hU F0 A0=>?_⟩,?_⟩
   ·have e0':=Q0d F0 0 (by kernel_rfl) rfl;refine Q02 rfl (Q1m rfl rfl ?_);simp[go_sem,e0']
   refine ⟨.inr fun A U D hU hV hB F0 hk A0 C2=>?_,?_⟩
   ·have e1:=Q0i (j:=5) (t:=26) rfl ((Q0f rfl).1 (hV 5 (A0 5 (by decide))));have hq:=Qek n D Qj;have E5:D 19=false:=(by cases V3:D 19;rfl;exact absurd (C2 19 _ rfl V3 6 (by decide)) (by rw[show D 6=false from hk];decide));refine Q0n.enter_ (w:=U) (f:=80) (args:= #[.pointer (some ⟨b,0,none⟩)]) (by simp[go_sem,e1]) ?_;refine (Qxd b (i+2+Qep n D) U hB.1 (by omega)).mono ?_;rintro e w' ⟨⟨v',e',u',h1,h2,h3,h4,rfl,h5⟩,V2,M1⟩;exact ⟨_,rfl,EK.of_deck hB.1 M1 (.inl rfl) (Xe7 H0),(Q00 rfl).2 ⟨v',e',h1,h2,h3,h4,h5⟩,Q6v 6 2 hB hk M1 (by omega) V2 (by unfold Qep;simp only[Q1z];simp[hk];try omega)⟩
   refine ⟨.inl ⟨rfl,fun A U hU F0 A0=>?_⟩,?_⟩
   ·have e5:=Q0d F0 5 (by kernel_rfl) rfl;have hN:=(Xo1 H3).1.turnE2 hU JV (by omega);obtain ⟨k0,k1,k2⟩:=hN.cc;refine Q02 rfl (Q1m rfl rfl ?_);simp[go_sem,e5,k0,k1,k2]
   refine ⟨.inl ⟨rfl,fun A U hU F0 A0=>?_⟩,?_⟩
   ·have e6:=Q0d F0 6 (by kernel_rfl) rfl;have hN:=(Xo2 H3).1.turnE2 hU J5 (by omega);obtain ⟨k0,k1,k2⟩:=hN.cc;refine Q02 rfl (Q1m rfl rfl ?_);simp[go_sem,e6,k0,k1,k2]
   refine ⟨.inl ⟨rfl,fun A U hU F0 A0=>?_⟩,?_⟩
   ·have e0':=Q0d F0 0 (by kernel_rfl) rfl;refine Q02 rfl (Q1m rfl rfl ?_);simp[go_sem,e0']
   refine ⟨.inr fun A U D hU hV hB F0 hk A0 C2=>?_,?_⟩
   ·have e1:=Q0i (j:=9) (t:=30) rfl ((Q0f rfl).1 (hV 9 (A0 9 (by decide))));have hq:=Qek n D Qj;have E5:D 19=false:=(by cases V3:D 19;rfl;exact absurd (C2 19 _ rfl V3 10 (by decide)) (by rw[show D 10=false from hk];decide));refine Q0n.enter_ (w:=U) (f:=77) (args:= #[.pointer (some ⟨b,0,none⟩),.int .i64 49]) (by simp[go_sem,e1]) ?_;refine (Qdu b (i+2+Qep n D) 49 U hB.1 (by omega) (by decide) (by decide)).mono ?_;rintro e w' ⟨⟨y',hy',rfl⟩,V2,M1⟩;refine ⟨_,rfl,EK.of_deck hB.1 M1 (.inl rfl) (Xe7 H0),(Q00 rfl).2 ⟨(y':Int),by omega,by omega,by rw[Xbr]⟩,Q6v 10 1 hB hk M1 (by omega) V2 (by unfold Qep;simp only[Q1z];simp[hk];try omega)⟩
   refine ⟨.inl ⟨rfl,fun A U hU F0 A0=>?_⟩,?_⟩
   ·obtain ⟨k,h1,h2,h3⟩:=(Q00 rfl).1 (A0 10 (by decide));rw[Xbr] at h3;have e31:=Q1w h3;have Z6:IntKind.i64.wrap (16+k)=16+k:=(by rw[UN];omega);exact Q02 rfl (Q33 (w':=U) (u:=.int .i64 (16+k)) (by simp[go_sem,e31,Z6]) (Ug _ _) ((Q00 rfl).2 ⟨k,h1,h2,rfl⟩))
   refine ⟨.inl ⟨rfl,fun A U hU F0 A0=>?_⟩,?_⟩
   ·have e0':=Q0d F0 0 (by kernel_rfl) rfl;refine Q02 rfl (Q1m rfl rfl ?_);simp[go_sem,e0']
   refine ⟨.inr fun A U D hU hV hB F0 hk A0 C2=>?_,?_⟩
   ·have e1:=Q0i (j:=12) (t:=33) rfl ((Q0f rfl).1 (hV 12 (A0 12 (by decide))));have hq:=Qek n D Qj;have E5:D 19=false:=(by cases V3:D 19;rfl;exact absurd (C2 19 _ rfl V3 13 (by decide)) (by rw[show D 13=false from hk];decide));refine Q0n.enter_ (w:=U) (f:=77) (args:= #[.pointer (some ⟨b,0,none⟩),.int .i64 3]) (by simp[go_sem,e1]) ?_;refine (Qdu b (i+2+Qep n D) 3 U hB.1 (by omega) (by decide) (by decide)).mono ?_;rintro e w' ⟨⟨y',hy',rfl⟩,V2,M1⟩;refine ⟨_,rfl,EK.of_deck hB.1 M1 (.inl rfl) (Xe7 H0),(Q00 rfl).2 ⟨(y':Int),by omega,by omega,by rw[Xbr]⟩,Q6v 13 1 hB hk M1 (by omega) V2 (by unfold Qep;simp only[Q1z];simp[hk];try omega)⟩
   refine ⟨.inl ⟨rfl,fun A U hU F0 A0=>?_⟩,?_⟩
   ·obtain ⟨k,h1,h2,h3⟩:=(Q00 rfl).1 (A0 13 (by decide));rw[Xbr] at h3;have e31:=Q1w h3;have Z6:IntKind.i64.wrap (2+k)=2+k:=(by rw[UN];omega);exact Q02 rfl (Q33 (w':=U) (u:=.int .i64 (2+k)) (by simp[go_sem,e31,Z6]) (Ug _ _) ((Q00 rfl).2 ⟨k,h1,h2,rfl⟩))
   refine ⟨.inl ⟨rfl,fun A U hU F0 A0=>?_⟩,?_⟩
   ·have e0':=Q0d F0 0 (by kernel_rfl) rfl;refine Q02 rfl (Q1m rfl rfl ?_);simp[go_sem,e0']
   refine ⟨.inr fun A U D hU hV hB F0 hk A0 C2=>?_,?_⟩
   ·have e1:=Q0i (j:=15) (t:=36) rfl ((Q0f rfl).1 (hV 15 (A0 15 (by decide))));have hq:=Qek n D Qj;have E5:D 19=false:=(by cases V3:D 19;rfl;exact absurd (C2 19 _ rfl V3 16 (by decide)) (by rw[show D 16=false from hk];decide));refine Q0n.enter_ (w:=U) (f:=77) (args:= #[.pointer (some ⟨b,0,none⟩),.int .i64 9]) (by simp[go_sem,e1]) ?_;refine (Qdu b (i+2+Qep n D) 9 U hB.1 (by omega) (by decide) (by decide)).mono ?_;rintro e w' ⟨⟨y',hy',rfl⟩,V2,M1⟩;refine ⟨_,rfl,EK.of_deck hB.1 M1 (.inl rfl) (Xe7 H0),(Q00 rfl).2 ⟨(y':Int),by omega,by omega,by rw[Xbr]⟩,Q6v 16 1 hB hk M1 (by omega) V2 (by unfold Qep;simp only[Q1z];simp[hk];try omega)⟩
   refine ⟨.inl ⟨rfl,fun A U hU F0 A0=>?_⟩,?_⟩
   ·obtain ⟨k,h1,h2,h3⟩:=(Q00 rfl).1 (A0 16 (by decide));rw[Xbr] at h3;have e31:=Q1w h3;have Z6:IntKind.i64.wrap (1+k)=1+k:=(by rw[UN];omega);exact Q02 rfl (Q33 (w':=U) (u:=.int .i64 (1+k)) (by simp[go_sem,e31,Z6]) (Ug _ _) ((Q00 rfl).2 ⟨k,h1,h2,rfl⟩))
   refine ⟨.inl ⟨rfl,fun A U hU F0 A0=>?_⟩,?_⟩
   ·have e21:=Q0s A0 0 (by decide) rfl rfl rfl;obtain ⟨aB,cB,L,Xl,hB2,hB3⟩:=(Q00 rfl).1 (A0 4 (by decide));obtain ⟨vT,eT,hT1,hT2,hT3,hT4,xT,aT,lT,cT,hT5,hT6,hT7,hT8⟩:=(Q00 rfl).1 (A0 6 (by decide));have e28:=Q0s A0 7 (by decide) rfl rfl rfl;have e29:=Q0s A0 8 (by decide) rfl rfl rfl;obtain ⟨kp,p1,p2,p3⟩:=(Q00 rfl).1 (A0 11 (by decide));obtain ⟨ko,o1,o2,o3⟩:=(Q00 rfl).1 (A0 14 (by decide));obtain ⟨kb,b1,b2,b3⟩:=(Q00 rfl).1 (A0 17 (by decide));have e25:=Q1w Xl;have e27:=Q1w hT5;have e32:=Q1w p3;have e35:=Q1w o3;have e38:=Q1w b3;have hLn:L.length=n:=hB2.len;have hFn:F.length=n:=(Xo5 H0).1;refine Q02 rfl (Q33 (w':=U) (u:=.agg #[.slice fa n fc,.slice aB n cB,.bool xT.neg,.int .i64 xT.exp,.slice aT lT cT,.bool false,.int .i64 e0,.slice ax lx cx,.bool z.neg,.int .i64 z.exp,.slice a7 l7 c7,.int .i64 (16+kp),.int .i64 (2+ko),.int .i64 (1+kb)]) (by simp[go_sem,e21,e25,e27,e28,e29,e32,e35,e38]) (Ug _ _) ((Q00 rfl).2 ⟨⟨⟨fa,n,fc⟩,⟨aB,n,cB⟩,⟨aT,lT,cT⟩,⟨ax,lx,cx⟩,⟨a7,l7,c7⟩⟩,⟨F,L,xT,⟨false,e0,[1]⟩,z,16+kp,2+ko,1+kb⟩,rfl,hU.fld (Xo3 H3),rfl,rfl,hB2,hT6,hU.num (Xo1 H3).2.1,hU.num (Xo2 H3).2.1,?_⟩));have Vg:(⟨false,e0,[1]⟩:Q47).val=dy 1 e0:=by show dy (sgn false (val (2^64) [1])) e0=dy 1 e0;simp[val,sgn]
    refine ⟨(Xo6 H0),⟨by show 1<=L.length;omega,by show L.length<=4;omega,hB3⟩,by show L.length=F.length;omega,⟨hT7,by rw[hT8];exact Qhl hT1⟩,⟨(Xo1 H3).2.2,by rw[Vg];exact Qhl (v:=1) (by decide)⟩,⟨(Xo2 H3).2.2.1,by rw[(Xo2 H3).2.2.2];exact Qhl (v:=1) (by decide)⟩,by show Qer z.val _;rw[Vg,(Xo2 H3).2.2.2];exact Qxh X2,?_,?_,?_⟩
    ·show 8<=16+kp/\16+kp<=256;omega
    ·show 2<=2+ko/\2+ko<=10;omega
    ·show 1<=1+kb/\1+kb<=4096;omega
   refine ⟨.inr fun A U D hU hV hB F0 hk A0 C2=>?_,trivial⟩
   ·obtain ⟨p,x,hu,h2,h3,h4,h5,h6,h7,h8,h9⟩:=(Q00 rfl).1 (hV 18 (A0 18 (by decide)));have hZ:=hB.2;rw[Up (by rw[show D 19=false from hk];decide)] at hZ;obtain ⟨k0,k1,k2,k3,k4,k5,k6,k7,k8,k9,k10,k11,k12,k13⟩:=Q0c hZ.c;obtain ⟨f0,f1,f2,f3,f4,f5,f6,f7,f8,f9,f10,f11,f12,f13⟩:=Quw hZ (by decide);have e4:=Q0d F0 4 (by kernel_rfl) rfl;have e39:=Q0i (j:=18) (t:=39) rfl hu;simp only[Q57] at e39;obtain ⟨V,Yt,hO,hbl9,XV⟩:=Qef (.slice p.f.a p.f.l p.f.c) (.slice p.b.a p.b.l p.b.c) (.bool x.til.neg) (.int .i64 x.til.exp) (.slice p.t.a p.t.l p.t.c) (.bool x.most.neg) (.int .i64 x.most.exp) (.slice p.m.a p.m.l p.m.c) (.bool x.least.neg) (.int .i64 x.least.exp) (.slice p.e.a p.e.l p.e.c) (.int .i64 x.prec) (.int .i64 x.order) (.int .i64 x.budget) hZ (Ug w.heap.size U) (Ue _);have hE:=EK.of_only (fp:=fun k=>k=b∨k=w.heap.size) (fa:=fa) (fl:=n) (fc:=fc) (F:=F) hO Q7v ⟨XV.os,XV.tape,XV.output⟩ (.inr rfl) (fun y hy he=>by
     rcases (Xo5 H0).2.2.2 with h0|⟨b0,o0,Yi,C0,_⟩
     ·have:=(Xo6 H0).1;rw[h0] at this;simp at this
     ·rw[Yi] at hy;injection hy with hy;subst hy
      have he:b0=w.heap.size:=he;omega)
    refine Q0n.skip_ (w':=V) (by rw[<-Yt];unfold Qkm;simp[go_sem,e4,e39,k0,k1,k2,k3,k4,k5,k6,k7,k8,k9,k10,k11,k12,k13,f0,f1,f2,f3,f4,f5,f6,f7,f8,f9,f10,f11,f12,f13]) ⟨hE,(Q00 rfl).2 trivial,?_,?_⟩
    ·have hc:Qep n (Q1z D 19)=Qep n D:=(by unfold Qep;simp only[Q1z];simp);rw[hc];exact hB.1.turn (fp:=fun k=>k=w.heap.size) ⟨XV.os,XV.tape,XV.output,hO.size,fun k hk hn=>hO.block k hk hn⟩ (fun k hk e=>by omega)
    ·rw[Us (Q3g _ _)];exact ⟨p,x,hbl9,⟨by rw[h3,h4];exact hE.fld h2,(hE.box h5 (fun k hk=>by omega)).boxIn,hE.num h6,hE.num h7,hE.num h8⟩,h9,by rw[h3],(hE.box h5 (fun k hk=>by omega)).lower (by omega)⟩
  ·intro D vs U hD hC hV hB;obtain ⟨F8,K2⟩:=hB;rw[Us (hD 19 (by decide))] at K2;obtain ⟨p,x,hZ,hP,hR,ZC,hbs⟩:=K2;obtain ⟨c0,c1,c2,c3,c4,c5,c6,c7,c8,c9,c10,c11,c12,c13⟩:=Q0c hZ.c;have hT:Q0e (·=b) w U:=(Xe5 H3).trans hC.turn (fun k hk h=>by omega);have HE:=Xh4 hP (And.intro hR (And.intro ZC (hbs.lower (Xaq _)))) F8 hT;clear hP hR F8 hT ZC hbs hZ hC hV hD;simp only[Q0y,Act.put,Uu,UI,UF]
   go_wp2_with fail
   exact ⟨rfl,.agg (Q57 p x).toArray,by simp[results,go_sem,Q57,c0,c1,c2,c3,c4,c5,c6,c7,c8,c9,c10,c11,c12,c13],⟨p,x,rfl,(Xo0 HE),(Xo1 HE)⟩,⟨_,(Xo2 HE)⟩,(Xe3 HE)⟩
theorem Qr9 (a:OA) (n c:Nat) (ls:LN) (w:World) (G3:ls.length=n) (hn:n<=9223372036854775807) (i9:RdU w w.heap.size a ls) (hx:∀x∈ls,x<18446744073709551616):
 Calls Tryz.prog 15 #[.slice a n c,.int .u8 15] w fun e w'=>∃p x,e=.returned (.agg (Q57 p x).toArray)/\Q3x w' p x/\Q3c x/\Bw w w':=by
 have hZ:=Blk.new w zpL 28;have X1:Bw w (w.alloc (.cells zpL.toArray 28)):=Ba;have I3:=Q0h w (.cells zpL.toArray 28);obtain ⟨W0,R1⟩:∃W0,w.alloc (.cells zpL.toArray 28)=W0:=⟨_,rfl⟩;rw[R1] at hZ X1 I3;have hrd0:=(RdI.below (K:=.u64) i9 X1).more X1.size;have hof:=Qps a n c ls W0 G3 hn hrd0 hx;have H0:=Xh3 hof hZ X1;have WR:w.heap.size<W0.heap.size:=I3;clear hof hZ X1 I3 hrd0 i9 hx
 go_enter Tryz.func15,Tryz.ntmps15
 go_upto_region 1 with fail
 change Code.wp _ _ _ _ (w.alloc (.cells zpL.toArray 28))
 rw[R1];clear R1
 go_upto_region 3 with (first
  |(go_at_call 45
    refine (Qn1 W0.heap.size q4 nd a4 c4 F4 w4 (Xo0 H4) (by omega) (Xo1 H4) (Xo2 H4) (fun x hx=>by have:=(Xo3 H4) x hx;omega)).mono ?_;rintro e w5 ⟨⟨p,x,rfl,hP,hR,ZC,hbs⟩,_,JV⟩;have hZ5:=(Xo4 H4).same (JV.block _ (Uc WR (Xe1 ZU)) (by omega));have Z0:Bw w w5:=Below.turn (Xe5 H4) JV (Xe5 H4).size (fun k e=>by omega);have hpn:∀y,p.f.a=some y->y.block≠w.heap.size:=fun y hy=>by rw[ZC] at hy;have:=(Xo3 H4) y hy;omega
    have H5:=Xh6 hP hR hpn (hbs.lower (Un WR (Xe1 ZU))) hZ5 Z0;have HS5:=Ub (Un (Xe1 ZU) JV.size);simp only[Q57];clear hP hR ZC hbs JV hZ5 Z0 hpn)
  |(go_at_call 46
    refine (Qey W0.heap.size 1 nd 4 5 w3 (Xo0 H3) (by decide) (Xo3 H3) (Xe4 H3) (by decide) (by decide)).mono ?_;rintro e w4 ⟨⟨a4,c4,F4,rfl,hF4,Y9,XO,Qj,q4,hd4,hq4⟩,I9⟩;have VU:Bw w w4:=Below.turn (Xo1 H3) I9 (Xo1 H3).size (fun k e=>by omega);have hZ4:=(Xo2 H3).same (I9.block _ (Uc WR (Xe1 HS3)) (by omega));have E0:=(Xo0 H3).lt;have hq:q4<=80000:=(by have:=(Xe4 H3);omega);have H4:=Xh6 hd4 hF4 Y9 (fun x hx=>Uc E0 (Qj x hx)) hZ4 VU;have ZU:=Xh2 hq (Un (Xe1 HS3) I9.size);clear hF4 Y9 XO I9 VU Qj hd4 hq4 hZ4 E0)
  |(go_at_call 47
    refine (Qzd W0.heap.size 0 w2 (Xo0 H2) (by decide)).mono ?_;rintro e w3 ⟨⟨nd,K5,Qj,rfl⟩,JO,Z5⟩;have hbw3:Bw w w3:=Below.turn (Xo1 H2) Z5 (Xo1 H2).size (fun k e=>by omega);have hZ3:=(Xo2 H2).same (Z5.block _ (Uc WR (Xe3 H2)) (by omega));have H3:=Xh5 JO hbw3 hZ3 K5 Qj;have HS3:=Xh2 trivial (Un (Xe3 H2) Z5.size);clear JO Z5 hbw3 K5 Qj hZ3)
  |(go_at_call 44
    refine (Xo0 H0).mono ?_;rintro e w2 ⟨rfl,V2,D0⟩;have H2:=Xh4 V2 (Below.next0 (Xe2 H0) D0) ((Xo1 H0).step D0 WR) D0.size;clear V2 D0))
 have hC:=Blk.new w5 (Q57 p x) 28;have J1:Bw w5 (w5.alloc (.cells (Q57 p x).toArray 28)):=Ba;have hz6:=(Xo4 H5).step J1 (Uc WR HS5.out);have hP6:=(Xo0 H5).step J1;have Xy:=(Xo3 H5).step J1;have F3:=Below.next0 (Xe5 H5) J1;obtain ⟨W6,QS⟩:∃W6,w5.alloc (.cells (Q57 p x).toArray 28)=W6:=⟨_,rfl⟩;rw[QS] at hC hz6 hP6 Xy F3;simp only[Q57] at QS
 try rw[QS]
 obtain ⟨k0,k1,k2,k3,k4,k5,k6,k7,k8,k9,k10,k11,k12,k13⟩:=Q0c hC.c;obtain ⟨z0,z1,z2,z3,z4,z5,z6,z7,z8,z9,z10,z11,z12,z13⟩:=Q0c hz6.c;obtain ⟨f0,f1,f2,f3,f4,f5,f6,f7,f8,f9,f10,f11,f12,f13⟩:=Quw hz6 (by decide);have H6:=Xh4 hz6 hP6 Xy F3;clear QS hC J1 hz6 hP6 Xy F3
 go_wp2_with fail
 obtain ⟨V,Yt,hO,hz9,V3⟩:=Qef (.slice p.f.a p.f.l p.f.c) (.slice p.b.a p.b.l p.b.c) (.bool x.til.neg) (.int .i64 x.til.exp) (.slice p.t.a p.t.l p.t.c) (.bool x.most.neg) (.int .i64 x.most.exp) (.slice p.m.a p.m.l p.m.c) (.bool x.least.neg) (.int .i64 x.least.exp) (.slice p.e.a p.e.l p.e.c) (.int .i64 x.prec) (.int .i64 x.order) (.int .i64 x.budget) (Xo0 H6) (Xe3 H6) (Ue _);have Kd:=And.intro ((Xo1 H6).f.only hO Q7v (Xo2 H5)) (And.intro ((Xo2 H6).only hO Q7v (TF _)).boxIn (And.intro ((Xo1 H6).t.only hO Q7v) (And.intro ((Xo1 H6).m.only hO Q7v) ((Xo1 H6).e.only hO Q7v))));unfold Qkm at Yt;subst Yt;obtain ⟨c0,c1,c2,c3,c4,c5,c6,c7,c8,c9,c10,c11,c12,c13⟩:=Q0c hz9.c;refine ⟨rfl,.agg (Q57 p x).toArray,by simp[results,go_sem,Q57,c0,c1,c2,c3,c4,c5,c6,c7,c8,c9,c10,c11,c12,c13],p,x,rfl,⟨Kd.1,Kd.2.1,Kd.2.2.1,Kd.2.2.2.1,Kd.2.2.2.2⟩,(Xo1 H5),V3⟩
end Go.Proofs.YtidojbkhlenahaaGreatDoor
