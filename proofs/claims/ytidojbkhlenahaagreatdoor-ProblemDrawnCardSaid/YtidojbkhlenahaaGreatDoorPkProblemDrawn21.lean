/- Part 21. No condition. -/
import Derived.Test.YtidojbkhlenahaaGreatDoorPkProblemDrawn20
set_option maxRecDepth 100000
set_option maxHeartbeats 16000000
namespace Go.Proofs.YtidojbkhlenahaaGreatDoor
open Go.RowKit WordsM DecM
theorem Qin (x y:Q2u) (ax:OA) (lx cx:Nat) (ay:OA) (ly cy:Nat) (w:World) (h1:Q0f w ax lx cx x) (h2:Q0f w ay ly cy y) (i1:x.ok) (i2:y.ok) (hf:Q6i (x.val+y.val)):
 Calls Tryz.prog 120 #[.int .i64 0,.agg #[.bool x.neg,.int .i64 x.exp,.slice ax lx cx],.agg #[.bool y.neg,.int .i64 y.exp,.slice ay ly cy]] w fun e w'=>(∃u,e=.returned u/\Q8u (x.val+y.val) u w')/\Bw w w':=by
 obtain ⟨F2,hX,hY,hR,Q0⟩:=Qom w (.bool x.neg) (.int .i64 x.exp) (.slice ax lx cx) (.bool y.neg) (.int .i64 y.exp) (.slice ay ly cy) (.bool false) (.int .i64 0) (.slice none 0 0) 26 26 26;obtain ⟨W0,M1⟩:∃W0,((w.alloc (.cells #[.bool x.neg,.int .i64 x.exp,.slice ax lx cx] 26)).alloc (.cells #[.bool y.neg,.int .i64 y.exp,.slice ay ly cy] 26)).alloc (.cells #[.bool false,.int .i64 0,.slice none 0 0] 26)=W0:=⟨_,rfl⟩;rw[M1] at F2 hX hY hR Q0;have hR:Q03 W0 (w.heap.size+1+1) (.bool false) (.int .i64 0) (.slice none 0 0):=hR;obtain ⟨S,hS⟩:∃S,x.val+y.val=S:=⟨_,rfl⟩;rw[hS] at hf⊢;have Zy:=fun W (hW:Bw W0 W)=>Q1m x.neg x.exp ax lx cx x.ws W (h1.lie.step (Below.next0 Q0 hW)) h1.lo h1.hi (Uj h1.lie.cap h1.lie.most);have hry:=fun W (hW:Bw W0 W)=>Q1m y.neg y.exp ay ly cy y.ws W (h2.lie.step (Below.next0 Q0 hW)) h2.lo h2.hi (Uj h2.lie.cap h2.lie.most);rw[UW (show Q0a x.neg x.exp x.ws from i1)] at Zy;rw[UW (show Q0a y.neg y.exp y.ws from i2)] at hry;have HQ:=Xh5 (fun W (hW:Bw W0 W)=>And.intro (hX.step hW (by omega)) (And.intro (hY.step hW (by omega)) (hR.step hW (by omega)))) Zy hry Q0 F2;have HW:=Xh6 h1 h2 i1 i2 hf hS;obtain ⟨k0,k1,k2⟩:=hX.cc;clear F2 hX hY hR Q0 Zy hry h1 h2 i1 i2 hf
 go_enter Tryz.func120,Tryz.ntmps120
 go_upto_region 1 with fail
 clear M1
 go_upto_region 3 with (first
  |(go_at_call 25;refine ((Xo2 HQ) W1 H1.out).mono ?_;rintro r W2 ⟨rfl,D0⟩;have H2:=Ua (Below.next0 H1.out D0);clear D0)
  |(go_at_call 25;refine ((Xo1 HQ) W0 (Ud _ _)).mono ?_;rintro r W1 ⟨rfl,C0⟩
    have hq:=((Xo0 HQ) W1 C0).2.1;obtain ⟨l0,l1,l2⟩:=hq.cc;have H1:=Ua C0;clear C0 hq))
 have HC:=Ua (fun W (hW:Bw W2 W)=>(Xo0 HQ) W (Below.next0 H2.out hW));have HB:=Ua (fun W (hW:Bw W2 W)=>Below.next0 (Below.next0 (Xo3 HQ) H2.out) hW);clear hS;refine Q7s (by kernel_rfl) 9 rfl (fun W=>Bw W2 W) (fun _ _ h h'=>Below.next0 h h') (Q3q [.int .i64 0,.agg #[.bool x.neg,.int .i64 x.exp,.slice ax lx cx],undef,.agg #[.bool y.neg,.int .i64 y.exp,.slice ay ly cy],undef,undef,undef,undef,.int .i64 0] (Q13 [(2,fun u w=>Q5c w u x.val),(4,fun u w=>Q5c w u y.val),(5,fun u w=>Q5c w u S),(6,Q8u S),(7,fun u w=>Q6d w u S)])) (Q08 (Q0e (fun p hp=>by
  simp only[UD,TK,Xbm] at hp;rcases hp with rfl|rfl|rfl|rfl|rfl
  ·exact Q1g _
  ·exact Q1g _
  ·exact Q1g _
  ·exact Q8d _
  ·exact Qas _))) (Qz6 w (w.heap.size+1+1) S) 8 (.int .i64 0) (fun v w h=>(Q0j rfl).1 h) (by decide) (by kernel_rfl) (by kernel_rfl) (by kernel_rfl) (by kernel_rfl) (by kernel_rfl) (Q04 W2) ?_ ?_ ?_
 ·refine ⟨fun A W hW E0 A0=>?_,?_⟩
  ·have e0:=Q07 E0 0 (by kernel_rfl) rfl;refine Q02 rfl (Q12 rfl rfl ?_);simp[go_sem,e0]
  refine ⟨fun A W hW E0 A0=>?_,?_⟩
  ·have e4:=Q07 E0 4 (by kernel_rfl) rfl;have hq:=(HC.out W hW).1;obtain ⟨k0,k1,k2⟩:=hq.cc;refine Q02 rfl (Q12 rfl rfl ?_);simp[go_sem,e4,k0,k1,k2]
  refine ⟨fun A W hW E0 A0=>?_,?_⟩
  ·have e18:=Q11 A0 1 (by decide) rfl rfl rfl;refine Q02 rfl ?_;refine Q0s (f:=59) (args:= #[.agg #[.bool x.neg,.int .i64 x.exp,.slice ax lx cx]]) (by simp[go_sem,e18]) ((Q7p x.neg x.exp ax lx cx x.ws W ((Xo0 HW).lie.step (HB.out W hW)) (Xo2 HW)).mono ?_);rintro e w2' ⟨u',rfl,B9,F3⟩;exact ⟨_,rfl,F3,(Q00 rfl).2 B9⟩
  refine ⟨fun A W hW E0 A0=>?_,?_⟩
  ·have e5:=Q07 E0 5 (by kernel_rfl) rfl;have hq:=(HC.out W hW).2.1;obtain ⟨k0,k1,k2⟩:=hq.cc;refine Q02 rfl (Q12 rfl rfl ?_);simp[go_sem,e5,k0,k1,k2]
  refine ⟨fun A W hW E0 A0=>?_,?_⟩
  ·have e20:=Q11 A0 3 (by decide) rfl rfl rfl;refine Q02 rfl ?_;refine Q0s (f:=59) (args:= #[.agg #[.bool y.neg,.int .i64 y.exp,.slice ay ly cy]]) (by simp[go_sem,e20]) ((Q7p y.neg y.exp ay ly cy y.ws W ((Xo1 HW).lie.step (HB.out W hW)) (Xo3 HW)).mono ?_);rintro e w2' ⟨u',rfl,B9,F3⟩;exact ⟨_,rfl,F3,(Q00 rfl).2 B9⟩
  refine ⟨fun A W hW E0 A0=>?_,?_⟩
  ·have e17:=Q11 A0 0 (by decide) rfl rfl rfl;have G9:=(Q00 rfl).1 (A0 2 (by decide));have hv4:=(Q00 rfl).1 (A0 4 (by decide));have S6:=Qim _ _ _ _ W G9 hv4 (Q2h (Xo2 HW) (Xo0 HW).lie.low) (Q2h (Xo3 HW) (Xo1 HW).lie.low);obtain ⟨n7,a7,l7,c7,q7,v7,QR,_⟩:=G9;obtain ⟨n8,a8,l8,c8,q8,v8,hu8,_⟩:=hv4;have e19:=Q1o QR;have e21:=Q1o hu8;rw[QR,hu8] at S6;have hS:x.val+y.val=S:=(Xe5 HW);rw[hS] at S6;refine Q02 rfl ?_;refine Q0s (f:=168) (args:= #[.int .i64 0,.agg #[.bool n7,.slice a7 l7 c7,.int .i64 q7],.agg #[.bool n8,.slice a8 l8 c8,.int .i64 q8]]) (by simp[go_sem,e17,e19,e21]) (S6.mono ?_);rintro e w2' ⟨u',rfl,B9,F3⟩;exact ⟨_,rfl,F3,(Q00 rfl).2 B9⟩
  refine ⟨fun A W hW E0 A0=>?_,?_⟩
  ·obtain ⟨n7,a7,l7,c7,q7,v7,QR,Q9,WX,Xe⟩:=(Q00 rfl).1 (A0 5 (by decide));have e22:=Q1o QR;have Yi:=(Q8l (k:=4352) WX (Q6q (T:=69632) (by rw[Xe];exact (Xo4 HW)) (Ue _)) (by omega)).1;rw[Q9.len] at Yi;refine Q02 rfl ?_;refine Q0s (f:=118) (args:= #[.agg #[.bool n7,.slice a7 l7 c7,.int .i64 q7]]) (by simp[go_sem,e22]) ((Q7u n7 a7 l7 c7 v7 q7 W Q9 (by omega)).mono ?_);rintro e w2' ⟨n',e',a',l',c',L,er,rfl,Wb,hw',F3⟩;refine ⟨_,rfl,F3,(Q00 rfl).2 ?_⟩;have:=Qs2 WX Wb hw' (by rw[Xe];exact (Xo4 HW));rwa[Xe] at this
  refine ⟨fun A W hW E0 A0=>?_,?_⟩
  ·obtain ⟨v,QR,XI⟩:=(Q00 rfl).1 (A0 6 (by decide));have e23:=Q1o QR;refine Q02 rfl ?_;exact Q2y (w':=W) (u:=v) (by simp[go_sem,e23]) (Ud _ _) ((Q00 rfl).2 XI)
  refine ⟨fun A W hW E0 A0=>?_,trivial⟩
  ·obtain ⟨v,QR,XI⟩:=(Q00 rfl).1 (A0 6 (by decide));have e23:=Q1o QR;refine Q02 rfl (Q12 rfl rfl ?_);simp[go_sem,e23]
 ·refine And.intro ?_ (And.intro (by decide) ?_)
  ·intro A W hW E0 A0;obtain ⟨z,a7,l7,c7,QR,h1,h2,h3⟩:=(Q00 rfl).1 (A0 7 (by decide));have e24:=Q1o QR;have e6:=Q07 E0 6 (by kernel_rfl) rfl;have G3:=(HC.out W hW).2.2;have k0:=G3.c0;have f0:=G3.f0;have f1:=G3.f1;have f2:=G3.f2;have d1:=G3.d1 (.bool z.neg);have d2:=G3.d2 (.bool z.neg) (.int .i64 z.exp);refine Q2p (w':=(((W.setCell ⟨w.heap.size+1+1,0,none⟩ (.bool z.neg)).setCell ⟨w.heap.size+1+1,1,none⟩ (.int .i64 z.exp)).setCell ⟨w.heap.size+1+1,2,none⟩ (.slice a7 l7 c7))) (by simp[go_sem,e6,e24,k0,f0,f1,f2,d1,d2]) ?_;exact Qep (by omega) (HB.out W hW) G3 h1 h2 h3
  ·intro A W E0 hv;have e25:=Q0h (j:=8) (t:=25) rfl hv;simp[go_sem,e25]
 intro vs W9 I2 VF;simp only[Q0t,Act.put,Um,Ux,Ut,VF];obtain ⟨z,a9,l9,c9,Y6,h1,h2,h3,N3⟩:=I2;obtain ⟨g0,g1,g2⟩:=Y6.cc;have HE:=Xh4 h1 h2 h3 N3;clear Y6 h1 h2 h3 N3 VF
 go_wp2_with fail
 exact ⟨rfl,.tuple #[.agg #[.bool z.neg,.int .i64 z.exp,.slice a9 l9 c9],.int .i64 0],by simp[results,go_sem,g0,g1,g2],⟨_,rfl,_,rfl,z,a9,l9,c9,rfl,(Xo0 HE),(Xo1 HE),(Xo2 HE)⟩,(Xe3 HE)⟩
def Qyl (v:Nat) (n:Nat) (u:Value) (w:World):Prop:=∃a l c,u=.slice a l c/\l<=n/\Q0v w a l c v
theorem Qio (v n:Nat):Q2d (Qyl v n):=fun _ _ _ ⟨a,l,c,h1,h3,h2⟩ hb=>⟨a,l,c,h1,h3,h2.step hb⟩
theorem Qs3 (x:Q2u) (k:Int) (ax:OA) (lx cx:Nat) (w:World) (h1:Q0f w ax lx cx x) (i1:x.ok) (h0:x.ws≠[]) (hk: -131072<=k/\k<=131072) (S:Dyadic) (hS:dy (sgn x.neg (val (2^64) x.ws)) (x.exp+k)=S) (hf:Q6i S):
 Calls Tryz.prog 78 #[.agg #[.bool x.neg,.int .i64 x.exp,.slice ax lx cx],.int .i64 k] w fun e w'=>(∃u,e=.returned u/\Q8u S u w')/\Bw w w':=by
 obtain ⟨F2,hX,hR,Q0⟩:=Q89 w (.bool x.neg) (.int .i64 x.exp) (.slice ax lx cx) (.bool false) (.int .i64 0) (.slice none 0 0) 26 26;obtain ⟨W0,M1⟩:∃W0,(w.alloc (.cells #[.bool x.neg,.int .i64 x.exp,.slice ax lx cx] 26)).alloc (.cells #[.bool false,.int .i64 0,.slice none 0 0] 26)=W0:=⟨_,rfl⟩;rw[M1] at F2 hX hR Q0;have Zy:=fun W (hW:Bw W0 W)=>Q1m x.neg x.exp ax lx cx x.ws W (h1.lie.step (Below.next0 Q0 hW)) h1.lo h1.hi (Uj h1.lie.cap h1.lie.most);rw[UW (show Q0a x.neg x.exp x.ws from i1)] at Zy;have S6:=Q9r i1;have XU:Q3j x.neg (val (2^64) x.ws) x.exp:=Qc9 i1 h1.lie.low;have M7:val (2^64) x.ws≠0:=fun e=>h0 ((Q45 i1 h1.lie.low).1 (by
  show dy (sgn x.neg (val (2^64) x.ws)) x.exp=0
  rw[e,Q2z];exact Q4m _))
 have hcn2:Q3j x.neg (val (2^64) x.ws) (x.exp+k):=⟨fun e=>absurd e M7,XU.2⟩;have Qn:=(Q7m i1 h1.lie.low).1;have O2:¬((lx:Int)=0):=by
  have:=h1.lie.len;intro e;exact h0 (UC.1 (by omega))
 have hl0b:((lx:Int)==0)=false:=beq_eq_false_iff_ne.2 O2;have S3:¬(131072<k):=by omega
 have K6:¬(k< -131072):=by omega
 have A7:IntKind.i64.wrap (x.exp+k)=x.exp+k:=by rw[UY];omega
 have HQ:=Xh4 (fun W (hW:Bw W0 W)=>And.intro (hX.step hW (by omega)) (hR.step hW (by omega))) Zy Q0 F2;have HW:=Xh7 h1 i1 hcn2 hS hf S6 Qn;obtain ⟨k0,k1,k2⟩:=hX.cc;clear F2 hX hR Q0 Zy h1 i1 hf XU hcn2 hS hk M7 h0 Qn O2 S6
 go_enter Tryz.func78,Tryz.ntmps78
 go_upto_region 1 with fail
 clear M1
 go_upto_region 7 with (go_at_call 25;refine ((Xo1 HQ) W0 (Ud _ _)).mono ?_;rintro r W1 ⟨rfl,C0⟩
                        have hq:=((Xo0 HQ) W1 C0).1;obtain ⟨k0,k1,k2⟩:=hq.cc;have H1:=Ua C0;clear C0 hq)
 have HC:=Ua (fun W (hW:Bw W1 W)=>(Xo0 HQ) W (Below.next0 H1.out hW));have HB:=Ua (fun W (hW:Bw W1 W)=>Below.next0 (Below.next0 (Xo2 HQ) H1.out) hW);refine Q7s (by kernel_rfl) 13 rfl (fun W=>Bw W1 W) (fun _ _ h h'=>Below.next0 h h') (Q3q [.pointer (some ⟨w.heap.size,0,none⟩),.bool x.neg,.pointer (some ⟨w.heap.size,2,none⟩),.slice ax lx cx,undef,.pointer (some ⟨w.heap.size,1,none⟩),.int .i64 x.exp,.int .i64 k,.int .i64 (x.exp+k),undef,undef,undef,.int .i64 0] (Q13 [(4,Qyl (val (2^64) x.ws) 1000),(9,fun u w=>Q5c w u S),(10,Q8u S),(11,fun u w=>Q6d w u S)])) (Q08 (Q0e (Qt4 (Qio _ _) (Q1g _) (Q8d _) (Qas _)))) (Qz6 w (w.heap.size+1) S) 12 (.int .i64 0) (fun v w h=>(Q0j rfl).1 h) (by decide) (by kernel_rfl) (by kernel_rfl) (by kernel_rfl) (by kernel_rfl) (by kernel_rfl) (Q04 W1) ?_ ?_ ?_
 ·refine ⟨fun A W hW E0 A0=>?_,?_⟩
  ·have e2:=Q07 E0 2 (by kernel_rfl) rfl;refine Q02 rfl (Q12 rfl rfl ?_);simp[go_sem,e2]
  refine ⟨fun A W hW E0 A0=>?_,?_⟩
  ·have e:=Q11 A0 0 (by decide) rfl rfl rfl;have k0:=(HC.out W hW).1.c0;refine Q02 rfl (Q12 rfl rfl ?_);simp[go_sem,e,k0]
  refine ⟨fun A W hW E0 A0=>?_,?_⟩
  ·have e2:=Q07 E0 2 (by kernel_rfl) rfl;refine Q02 rfl (Q12 rfl rfl ?_);simp[go_sem,e2]
  refine ⟨fun A W hW E0 A0=>?_,?_⟩
  ·have e:=Q11 A0 2 (by decide) rfl rfl rfl;have k0:=(HC.out W hW).1.c2;refine Q02 rfl (Q12 rfl rfl ?_);simp[go_sem,e,k0]
  refine ⟨fun A W hW E0 A0=>?_,?_⟩
  ·have e:=Q11 A0 3 (by decide) rfl rfl rfl;have hl:=(Xo0 HW).lie.len;have Qn:=(Xe6 HW);refine Q02 rfl ?_;refine Q0s (f:=73) (args:= #[.slice ax lx cx]) (by simp[go_sem,e]) ((Q3l ax lx cx x.ws W ((Xo0 HW).lie.step (HB.out W hW)) (by omega)).mono ?_);rintro e w2' ⟨a',n',c',rfl,ZT,t7,F3⟩;exact ⟨_,rfl,F3,(Q00 rfl).2 ⟨a',n',c',rfl,by omega,t7⟩⟩
  refine ⟨fun A W hW E0 A0=>?_,?_⟩
  ·have e2:=Q07 E0 2 (by kernel_rfl) rfl;refine Q02 rfl (Q12 rfl rfl ?_);simp[go_sem,e2]
  refine ⟨fun A W hW E0 A0=>?_,?_⟩
  ·have e:=Q11 A0 5 (by decide) rfl rfl rfl;have k0:=(HC.out W hW).1.c1;refine Q02 rfl (Q12 rfl rfl ?_);simp[go_sem,e,k0]
  refine ⟨fun A W hW E0 A0=>?_,?_⟩
  ·have e1:=Q07 E0 1 (by kernel_rfl) rfl;refine Q02 rfl (Q12 rfl rfl ?_);simp[go_sem,e1]
  refine ⟨fun A W hW E0 A0=>?_,?_⟩
  ·have e:=Q11 A0 6 (by decide) rfl rfl rfl;have e':=Q11 A0 7 (by decide) rfl rfl rfl;refine Q02 rfl (Q12 rfl rfl ?_);simp[go_sem,e,e',A7]
  refine ⟨fun A W hW E0 A0=>?_,?_⟩
  ·have e:=Q11 A0 1 (by decide) rfl rfl rfl;have e':=Q11 A0 8 (by decide) rfl rfl rfl;obtain ⟨a7,l7,c7,QR,Yi,Q9⟩:=(Q00 rfl).1 (A0 4 (by decide));have e4:=Q1o QR;refine Q02 rfl ?_;exact Q2y (w':=W) (u:=.agg #[.bool x.neg,.slice a7 l7 c7,.int .i64 (x.exp+k)]) (by simp[go_sem,e,e',e4]) (Ud _ _) ((Q00 rfl).2 ⟨_,_,_,_,_,_,rfl,Q9,(Xo2 HW),(Xo3 HW)⟩)
  refine ⟨fun A W hW E0 A0=>?_,?_⟩
  ·obtain ⟨n7,a7,l7,c7,q7,v7,QR,Q9,WX,Xe⟩:=(Q00 rfl).1 (A0 9 (by decide));have e22:=Q1o QR;have Yi:=(Q8l (k:=4352) WX (Q6q (T:=69632) (by rw[Xe];exact (Xo4 HW)) (Ue _)) (by omega)).1;rw[Q9.len] at Yi;refine Q02 rfl ?_;refine Q0s (f:=118) (args:= #[.agg #[.bool n7,.slice a7 l7 c7,.int .i64 q7]]) (by simp[go_sem,e22]) ((Q7u n7 a7 l7 c7 v7 q7 W Q9 (by omega)).mono ?_);rintro e w2' ⟨n',e',a',l',c',L,er,rfl,Wb,hw',F3⟩;refine ⟨_,rfl,F3,(Q00 rfl).2 ?_⟩;have:=Qs2 WX Wb hw' (by rw[Xe];exact (Xo4 HW));rwa[Xe] at this
  refine ⟨fun A W hW E0 A0=>?_,?_⟩
  ·obtain ⟨v,QR,XI⟩:=(Q00 rfl).1 (A0 10 (by decide));have e23:=Q1o QR;refine Q02 rfl ?_;exact Q2y (w':=W) (u:=v) (by simp[go_sem,e23]) (Ud _ _) ((Q00 rfl).2 XI)
  refine ⟨fun A W hW E0 A0=>?_,trivial⟩
  ·obtain ⟨v,QR,XI⟩:=(Q00 rfl).1 (A0 10 (by decide));have e23:=Q1o QR;refine Q02 rfl (Q12 rfl rfl ?_);simp[go_sem,e23]
 ·refine And.intro ?_ (And.intro (by decide) ?_)
  ·intro A W hW E0 A0;obtain ⟨z,a7,l7,c7,QR,h1,h2,h3⟩:=(Q00 rfl).1 (A0 11 (by decide));have e24:=Q1o QR;have e4:=Q07 E0 4 (by kernel_rfl) rfl;have G3:=(HC.out W hW).2;have k0:=G3.c0;have f0:=G3.f0;have f1:=G3.f1;have f2:=G3.f2;have d1:=G3.d1 (.bool z.neg);have d2:=G3.d2 (.bool z.neg) (.int .i64 z.exp);refine Q2p (w':=(((W.setCell ⟨w.heap.size+1,0,none⟩ (.bool z.neg)).setCell ⟨w.heap.size+1,1,none⟩ (.int .i64 z.exp)).setCell ⟨w.heap.size+1,2,none⟩ (.slice a7 l7 c7))) (by simp[go_sem,e4,e24,k0,f0,f1,f2,d1,d2]) ?_;exact Qep (by omega) (HB.out W hW) G3 h1 h2 h3
  ·intro A W E0 hv;have e25:=Q0h (j:=12) (t:=34) rfl hv;simp[go_sem,e25]
 intro vs W9 I2 VF;simp only[Q0t,Act.put,Um,Ux,Ut,VF];obtain ⟨z,a9,l9,c9,Y6,h1,h2,h3,N3⟩:=I2;obtain ⟨g0,g1,g2⟩:=Y6.cc;have HE:=Xh4 h1 h2 h3 N3;clear Y6 h1 h2 h3 N3 VF
 go_wp2_with fail
 exact ⟨rfl,.tuple #[.agg #[.bool z.neg,.int .i64 z.exp,.slice a9 l9 c9],.int .i64 0],by simp[results,go_sem,g0,g1,g2],⟨_,rfl,_,rfl,z,a9,l9,c9,rfl,(Xo0 HE),(Xo1 HE),(Xo2 HE)⟩,(Xe3 HE)⟩
theorem WordsIn.turnD {w w':World} {b i:Nat} {a:OA} {l c:Nat} {L:LN} (h:WordsIn w a l c L) (hd:Q42 w b i) (ht:Q0l (·=b) w w'):WordsIn w' a l c L:=
 (Q0f.turnD (x:=⟨false,0,L⟩) ⟨h,(by show _<=(0:Int);decide),(by show (0:Int)<=_;decide)⟩ hd ht).lie
theorem Qd8 {v:Nat} {e:Int} (neg:Bool) (hv:v<1024) (h1: -1000<=e) (h2:e<=1000):Q6i (dy (sgn neg v) e):=by
 by_cases h0:v=0
 ·subst h0;rw[Q2z,Q4m];exact .inl rfl
 ·obtain ⟨z,u,hu,rfl⟩:=Qlb v h0;have E2:0<2^z:=Tn (by decide);have WV:u*2^z / 2^z=u:=Nat.mul_div_cancel _ E2;have Vg:Qkv (u*2^z) z:=by
   refine ⟨?_,?_⟩
   all_goals first
    |exact Nat.mul_mod_left _ _
    |(rw[WV];exact hu)
  have j8:z<10:=by
   refine TR fun x5=>?_;have h3:2^10<=2^z:=UN (by decide) x5;have h4:1*2^z<=u*2^z:=UT _ (by omega);omega
  have Vd:u<1024:=by
   have:=Nat.le_mul_of_pos_right u E2;omega
  have h5:=Qox Vg neg e;rw[WV] at h5;rw[<-h5];exact (Q6j hu).2 ⟨Uc Vd (by decide),by omega,by omega⟩
theorem Qm5 {m e:Int} (hm:m.natAbs<1024) (h1: -1000<=e) (h2:e<=1000):Q6i (dy m e):=by
 have h:=Qd8 (v:=m.natAbs) (e:=e) (decide (m<0)) hm h1 h2;have hs:sgn (decide (m<0)) m.natAbs=m:=by
  unfold sgn
  by_cases h0:m<0
  ·simp[h0];omega
  ·simp[h0];omega
 rwa[hs] at h
theorem Quk (b i:Nat) (w:World) (h:Q42 w b i) (hi:i<=990000):
 Calls Tryz.prog 80 #[.pointer (some ⟨b,0,none⟩)] w fun e w'=>(∃(v:Nat) (e0:Int) (u:Value),1<=v/\v<=8/\-3<=e0/\e0<=0/\e=.returned u/\Q6d w' u (dy (v:Int) e0))/\Q42 w' b (i+2)/\Q0l (·=b) w w':=by
 have M2:∀o,Bw w (w.alloc o):=fun o=>Ba;have O2:=Q0o w (.cells #[.bool false,.int .i64 0,.slice none 0 0] 26);have Qt:=Q03.new w (.bool false) (.int .i64 0) (.slice none 0 0) 26;have K4:=h.lt;have E6:=Q4k b i (w.alloc (.cells #[.bool false,.int .i64 0,.slice none 0 0] 26)) (h.call (M2 _)) (by omega);have HM:=Xh2 E6 Qt;clear E6 Qt h
 go_enter Tryz.func80,Tryz.ntmps80
 go_upto_region 1 with fail
 go_wp2_with (first
  |(go_at_call 117;refine (Xo0 HM).mono ?_;rintro e w1 ⟨⟨x,hx,rfl⟩,D3,I3⟩
    obtain ⟨p,hp,hp7⟩:∃p:Nat,bits .and .u64 (x:Int) (7:Int)=(p:Int)/\p<=7:=⟨_,u64_and_nat x 7 hx (by decide),Nat.and_le_right⟩;obtain ⟨m,hm,KC,hm8⟩:∃m:Nat,(1:Int)+(p:Int)=(m:Int)/\1<=m/\m<=8:=⟨1+p,by omega,by omega,by omega⟩;have Q1:Bw w1 (w1.alloc (.cells #[.int .u64 (m:Int)] 83)):=Ba;have C5:=Qcx b (i+1) 4 (w1.alloc (.cells #[.int .u64 (m:Int)] 83)) (D3.call Q1) (by omega) (by decide) (by decide);have JP:=Qcw w1 m (by omega) 83;have Kn:w.heap.size<w1.heap.size:=Uc O2 I3.size;have K2:=((Xe1 HM).turn I3 O2 (by omega)).step Q1 Kn;have Ym:Q0l (·=b) w (w1.alloc (.cells #[.int .u64 (m:Int)] 83)):=((Q0l.of_below (M2 _) _).trans0 I3).trans0 (Q0l.of_below Q1 _);have Zl:=Xh6 C5 JP (D3.call Q1) K2 Ym (Uc Kn Q1.size);clear D3 I3 C5 JP Q1 K2 Ym Kn)
  |(go_at_call 77;refine (Xo0 Zl).mono ?_;rintro e w2 ⟨⟨y,hy,rfl⟩,Z2,X2⟩
    have K1:=Q5l false (some ⟨w1.heap.size,0,none⟩) 1 1 [m] ((y:Int)-3) w2 ((Xo1 Zl).turnD (Xo2 Zl) X2) (by decide) (by omega) (by omega);have XE:=(Xo3 Zl).turn X2 (Xe5 Zl) (by omega);have Zb:=Xh5 K1 Z2 XE ((Xo4 Zl).trans0 X2) (Uc (Xe5 Zl) X2.size);clear Z2 X2 K1 XE)
  |(go_at_call 76;refine (Xo0 Zb).mono ?_;rintro e w3 ⟨j4,M0⟩
    obtain ⟨u,rfl,z,a3,l3,c3,rfl,O1,Y1,Jf⟩:=Qbi j4 (Qd8 false (by simp[val];omega) (by omega) (by omega));have G1:=(Xo2 Zb).step M0 (Xe4 Zb);have E4:=G1.c0;have U4:=G1.f0;have j3:=G1.f1;have U3:=G1.f2;have U6:=G1.d1 (.bool z.neg);have N5:=G1.d2 (.bool z.neg) (.int .i64 z.exp);have B3:=Xh6 G1 ((Xo3 Zb).trans0 (Q0l.of_below M0 _)) O1 Y1 Jf ((Xo1 Zb).call M0);clear G1 O1 Y1 Jf M0 j4))
 have JV:=(Xo0 B3).store (.bool z.neg) (.int .i64 z.exp) (.slice a3 l3 c3);obtain ⟨g0,g1,g2⟩:=JV.cc;have ht6:=(((Xo1 B3).newSet (p:=⟨w.heap.size,0,none⟩) (Ue _) (.bool z.neg)).newSet (p:=⟨w.heap.size,1,none⟩) (Ue _) (.int .i64 z.exp)).newSet (p:=⟨w.heap.size,2,none⟩) (Ue _) (.slice a3 l3 c3);have ht7:Q0l (fun k=>k=w.heap.size) w3 (((w3.setCell ⟨w.heap.size,0,none⟩ (.bool z.neg)).setCell ⟨w.heap.size,1,none⟩ (.int .i64 z.exp)).setCell ⟨w.heap.size,2,none⟩ (.slice a3 l3 c3)):=((Q0l.setCell (fun k=>k=w.heap.size) w3 (p:=⟨w.heap.size,0,none⟩) rfl (.bool z.neg)).trans0 (Q0l.setCell (fun k=>k=w.heap.size) _ (p:=⟨w.heap.size,1,none⟩) rfl (.int .i64 z.exp))).trans0 (Q0l.setCell (fun k=>k=w.heap.size) _ (p:=⟨w.heap.size,2,none⟩) rfl (.slice a3 l3 c3));have Q9:=(Xe5 B3).turn ht7 (fun k hk=>by omega);have O1:=(Xo2 B3);have QY:Q0f _ a3 l3 c3 z:=⟨O1.lie.set3 (Xo0 B3) (.bool z.neg) (.int .i64 z.exp) (.slice a3 l3 c3),O1.lo,O1.hi⟩;have hv:dy (sgn false (val (2^64) [m])) ((y:Int)-3)=dy (m:Int) ((y:Int)-3):=by
  have:val (2^64) [m]=m:=by simp[val]
  rw[this];rfl
 have Jf:=(Xo4 B3);rw[hv] at Jf;clear JV E4 U4 j3 U3 U6 N5 ht7 O1 hv;generalize World.setCell _ _ _=W5 at g0 g1 g2 ht6 QY Q9⊢;exact ⟨rfl,.agg #[.bool z.neg,.int .i64 z.exp,.slice a3 l3 c3],by simp[results,go_sem,g0,g1,g2],⟨m,_,_,KC,hm8,by omega,by omega,rfl,z,a3,l3,c3,rfl,QY,(Xo3 B3),Jf⟩,Q9,ht6⟩
theorem Q1q.turnD {w w':World} {B b i:Nat} {p:Pl} {L:List IvV} (h:Q1q w B p L) (hd:Q42 w b i) (ht:Q0l (·=b) w w') (hb:b<B):Q1q w' B p L:=by
 obtain ⟨xs,hr⟩:=h.row;have C1:∀x,p.a=some x->x.block≠b:=fun x hx=>by have:=(h.lt hx).1;omega
 refine ⟨⟨xs,hr.keep fun x hx=>ht.block _ (h.lt hx).2 (C1 x hx)⟩,h.len,fun j x hx=>?_⟩;obtain ⟨g,ha,a,l,c,a2,m,d,⟨h0,h1,h2,h3,h4,h5⟩,h6,h7⟩:=h.ent j x hx;have hc:∀k u,w.cell? ⟨g,k,none⟩=some u->w'.cell? ⟨g,k,none⟩=some u:=fun k u hu=>(ht.cell (p:=⟨g,k,none⟩) (h.lt ha).2 (by have:=C1 _ ha;exact this)).trans hu;exact ⟨g,ha,a,l,c,a2,m,d,⟨hc _ _ h0,hc _ _ h1,hc _ _ h2,hc _ _ h3,hc _ _ h4,hc _ _ h5⟩,h6.turnD hd ht,h7.turnD hd ht⟩
theorem Qwu {W:World} {B:Nat} {p:Pl} {L:List IvV} (hS:Q1q W B p L) (hB:B<=W.heap.size) {y:IvV} {q1 q2:Pl} (h1:Q0f W q1.a q1.l q1.c y.lo) (h2:Q0f W q2.a q2.l q2.c y.hi) (hl:p.l<=1000) (ty:TypeId):
 ∃a' c' W',(Builtin.append_ #[23,23] ty #[.slice p.a p.l p.c,.slice (some ⟨W.heap.size,0,none⟩) 1 1]).run Tryz.prog (W.alloc (.cells #[.bool y.lo.neg,.int .i64 y.lo.exp,.slice q1.a q1.l q1.c,.bool y.hi.neg,.int .i64 y.hi.exp,.slice q2.a q2.l q2.c] 44))=.ok (.slice a' (p.l+1) c') W'/\Q1q W' B ⟨a',p.l+1,c'⟩ (L++[y])/\Below B W W':=by
 obtain ⟨W1,R1⟩:∃W1,W.alloc (.cells #[.bool y.lo.neg,.int .i64 y.lo.exp,.slice q1.a q1.l q1.c,.bool y.hi.neg,.int .i64 y.hi.exp,.slice q2.a q2.l q2.c] 44)=W1:=⟨_,rfl⟩;have hb:Bw W W1:=by rw[<-R1];exact Ba
 have B7:W1.heap[W.heap.size]?=some (.cells (ivL q1 q2 y).toArray 44 (0,0)):=by rw[<-R1];exact Up _ _
 rw[R1];obtain ⟨i0,S2,E2,O1,Y1⟩:=Q0z Qct;have hW:=hS.step hb;obtain ⟨xs,hr⟩:=hW.row;have hBW:=Uj hB hb.size;obtain ⟨g,c',w',C2,K0,Z5,J2⟩:=Q16 (P:=Tryz.prog) NoU W1 23 ty 44 i0 _ 6 80 Q4j S2 E2 O1 Y1 rfl Qm0 B hBW p.a p.l p.c xs hr W.heap.size 1 1 (ivL q1 q2 y) rfl (Tz (cs:=(ivL q1 q2 y).toArray) B7) (by intro u hu;simp only[ivL,UD,TK,Xbm] at hu;rcases hu with rfl|rfl|rfl|rfl|rfl|rfl <;> rfl) (Qkg _ _ _) (by decide) (by omega) (by decide) (by decide);have JK:=hW.push hr Z5 J2 K0 (h1.step hb) (h2.step hb);refine ⟨_,c',w',C2,JK,?_⟩;have VX:Below B W W1:=⟨hb.os,hb.tape,hb.output,hb.size,fun z hz=>hb.block z (Uc hz hB)⟩;exact VX.trans ⟨Z5.os,Z5.tape,Z5.output,Z5.size,fun z hz=>Z5.block z (Uc hz hBW) (fun e=>by
  cases ha:p.a with
  |none=>rw[ha] at e;cases e
  |some q=>rw[ha] at e;simp only[UG,Un] at e;have:=(hW.lt ha).1;omega)⟩
theorem Qul (neg:Bool) (p q:Nat):dy (sgn neg p) (-2)+dy (sgn false q) (-6)=dy (sgn neg p*16+q) (-6):=by
 have h:=Q88 (sgn neg p) (-6) 4;rw[show (-6:Int)+(4:Nat)= -2 from rfl] at h;rw[h,Qdr];rfl
theorem Qwv (neg:Bool) (p q:Nat):Q9x (dy (sgn neg p) (-2)) (dy (sgn neg p*16+q) (-6)):=by
 have h:=Q88 (sgn neg p) (-6) 4;rw[show (-6:Int)+(4:Nat)= -2 from rfl] at h;unfold Q9x;rw[h,Q4h];exact UU (by show¬(sgn neg p*16+(q:Int)<sgn neg p*2^4);omega)
def Qz7 (w:World) (b i n:Nat) (s5 s6:Value) (wr:World):Prop:=∃(j:Nat) (a:OA) (c:Nat) (L:List IvV),s5=.slice a j c/\s6=.int .i64 (j:Int)/\j<=n/\Q1q wr w.heap.size ⟨a,j,c⟩ L/\(∀x∈L,x.ok)/\Q42 wr b (i+3*j)/\Q0l (·=b) w wr
theorem Qum (b i n:Nat) (w:World) (h:Q42 w b i) (hi:i<=90000) (hn:n<=100):
 Calls Tryz.prog 79 #[.pointer (some ⟨b,0,none⟩),.int .i64 (n:Int)] w fun e w'=>(∃a c L,e=.returned (.slice a n c)/\Q1q w' w.heap.size ⟨a,n,c⟩ L/\∀x∈L,x.ok)/\Q42 w' b (i+3*n)/\Q0l (·=b) w w':=by
 have K4:=h.lt;have HD:=Ua h;clear h
 go_enter Tryz.func79,Tryz.ntmps79
 go_wp2_with fail
 go_loopw [5,6] (fun s5 s6 wr=>Qz7 w b i n s5 s6 wr) (fun _ iv _=>n-(intOf iv).toNat)
 case atStart=>exact ⟨0,none,0,[],rfl,rfl,Uv _,Q1q.nil_ _ _,(fun x hx=>by cases hx),HD.out,Q0l.refl _ _⟩
 case round=>
  obtain ⟨j,a1,c1,L,rfl,rfl,hj,hS,X1,C8,ht⟩:=hrel
  by_cases F0:j<n
  ·have G0:(j:Int)<(n:Int):=(by omega);have WU:=Qws b (i+3*j) 2 wr C8 (by omega) (by decide) (by decide);have HS:=Xh4 hS X1 C8 ht;clear hS X1 C8 ht
   go_upto_region 8 with (first
    |(go_at_call 120;refine (Xo0 H5).mono ?_;rintro e w6 ⟨⟨_,rfl,_,rfl,z3,a6,l6,c6,rfl,B5,V8,QP⟩,N4⟩
      have Q1:Bw w6 (w6.alloc (.cells #[.bool z3.neg,.int .i64 z3.exp,.slice a6 l6 c6] 26)):=Ba;have hB:=N4.trans (Q1.mono N4.size);have K2:=(Xo1 H5).1.step hB (Xo1 H5).2;have hN3:=Q03.new w6 (.bool z3.neg) (.int .i64 z3.exp) (.slice a6 l6 c6) 26;obtain ⟨k0,k1,k2⟩:=K2.cc;obtain ⟨m0,m1,m2⟩:=hN3.cc;have H6:=Xh8 ((Xo2 H5).step hB) (Xo3 H5) (B5.step Q1) V8 QP ((Xo4 H5).call hB) ((Xo5 H5).step hB) ((Xe6 H5).trans0 (Q0l.of_below hB _));clear Q1 hB K2 hN3 B5 V8 QP N4)
    |(go_at_call 76;refine (Xo0 H4).mono ?_;rintro e w5 ⟨j4,P0⟩
      obtain ⟨u,rfl,z2,a5,l5,c5,rfl,D8,G9,hv3⟩:=Qbi j4 (Qd8 false (by simp[val];omega) (by decide) (by decide));have Q1:Bw w5 (w5.alloc (.cells #[.bool z2.neg,.int .i64 z2.exp,.slice a5 l5 c5] 26)):=Ba;have hB:=P0.trans (Q1.mono P0.size);have K2:=(Xo1 H4).1.step hB (Xo1 H4).2;have XE:=Q03.new w5 (.bool z2.neg) (.int .i64 z2.exp) (.slice a5 l5 c5) 26;have hin1:=(Xo2 H4).step hB;have hin2:=D8.step Q1;have Va:z.val=dy (sgn y p) (-2):=(by rw[(Xo3 H4).2];simp[val]);have YI:z2.val=dy (sgn false p2) (-6):=(by rw[hv3];simp[val]);have M5:z.val+z2.val=dy (sgn y p*16+p2) (-6):=(by rw[Va,YI,Qul]);have R0:=Qin z z2 a3 l3 c3 a5 l5 c5 (w5.alloc (.cells #[.bool z2.neg,.int .i64 z2.exp,.slice a5 l5 c5] 26)) hin1 hin2 (Xo3 H4).1 G9 (by rw[M5];exact Qm5 (by have:=Qa2 y p;omega) (by decide) (by decide));rw[M5] at R0;obtain ⟨k0,k1,k2⟩:=K2.cc;obtain ⟨l0,l1,l2⟩:=XE.cc;have H5:=Xh7 R0 (And.intro K2 (Uz K2.c0)) hin1 (And.intro (Xo3 H4).1 Va) ((Xo4 H4).call hB) ((Xo5 H4).step hB) ((Xe6 H4).trans0 (Q0l.of_below hB _));clear Q1 hB K2 XE hin1 hin2 Va YI M5 R0 D8 G9 hv3 P0 j4)
    |(go_at_call 117;refine (Xo0 H3).mono ?_;rintro e w4 ⟨⟨x2,Z3,rfl⟩,hd4,XM⟩
      obtain ⟨p2,JS,hp27⟩:∃p:Nat,bits .and .u64 (x2:Int) (7:Int)=(p:Int)/\p<=7:=⟨_,u64_and_nat x2 7 Z3 (by decide),Nat.and_le_right⟩;have Q1:Bw w4 (w4.alloc (.cells #[.int .u64 (p2:Int)] 83)):=Ba;have JP:=Qcw w4 p2 (by omega) 83;have K1:=Q5l false (some ⟨w4.heap.size,0,none⟩) 1 1 [p2] (-6) (w4.alloc (.cells #[.int .u64 (p2:Int)] 83)) JP (by decide) (by decide) (by decide);have K2:=((Xo1 H3).1.turn XM (Xo1 H3).2.1 (by have:=(Xo1 H3).2.2;omega)).step Q1 (Uc (Xo1 H3).2.1 XM.size);have H4:=Xh7 K1 (And.intro K2 (Uz K2.c0)) (((Xo2 H3).turnD (Xo4 H3) XM).step Q1) (Xo3 H3) (hd4.call Q1) (((Xo5 H3).turnD (Xo4 H3) XM K4).step Q1) (((Xe6 H3).trans0 XM).trans0 (Q0l.of_below Q1 _));clear hd4 XM Q1 JP K1 K2)
    |(go_at_call 76;refine (Xo0 H2).mono ?_;rintro e w3 ⟨j4,M0⟩
      obtain ⟨u,rfl,z,a3,l3,c3,rfl,O1,Y1,Jf⟩:=Qbi j4 (Qd8 y (by simp[val];omega) (by decide) (by decide));have Q1:Bw w3 (w3.alloc (.cells #[.bool z.neg,.int .i64 z.exp,.slice a3 l3 c3] 26)):=Ba;have hB:=M0.trans (Q1.mono M0.size);have K2:=Q03.new w3 (.bool z.neg) (.int .i64 z.exp) (.slice a3 l3 c3) 26;have Jb:=(Xo1 H2).call hB;have C5:=Q4k b (i+3*j+1+1) (w3.alloc (.cells #[.bool z.neg,.int .i64 z.exp,.slice a3 l3 c3] 26)) Jb (by omega);have Q7:=Uz K2.c0;have JX:=(Xe3 H2).size;have hge2:=M0.size;have H3:=Xh7 C5 (And.intro K2 (And.intro Q7 (show b<w3.heap.size by omega))) (O1.step Q1) (And.intro Y1 Jf) Jb ((Xo2 H2).step hB) ((Xe3 H2).trans0 (Q0l.of_below hB _));clear Q1 hB K2 Jb C5 O1 Y1 Jf M0 j4 Q7 JX hge2)
    |(go_at_call 117;refine (Xo0 H1).mono ?_;rintro e w2 ⟨⟨x1,K5,rfl⟩,Z2,X2⟩
      obtain ⟨p,hp,hp7⟩:∃p:Nat,bits .and .u64 (x1:Int) (7:Int)=(p:Int)/\p<=7:=⟨_,u64_and_nat x1 7 K5 (by decide),Nat.and_le_right⟩;have Q1:Bw w2 (w2.alloc (.cells #[.int .u64 (p:Int)] 83)):=Ba;have JP:=Qcw w2 p (by omega) 83;have K1:=Q5l y (some ⟨w2.heap.size,0,none⟩) 1 1 [p] (-2) (w2.alloc (.cells #[.int .u64 (p:Int)] 83)) JP (by decide) (by decide) (by decide);have H2:=Xh4 K1 (Z2.call Q1) (((Xo1 H1).turnD (Xo2 H1) X2 K4).step Q1) (((Xe3 H1).trans0 X2).trans0 (Q0l.of_below Q1 _));clear Z2 X2 Q1 JP K1)
    |(go_at_call 119;refine WU.mono ?_;rintro e w1 ⟨⟨y,rfl⟩,D3,I3⟩
      have E6:=Q4k b (i+3*j+1) w1 D3 (by omega);have H1:=Xh4 E6 ((Xo0 HS).turnD (Xo2 HS) I3 K4) D3 ((Xe3 HS).trans0 I3);clear D3 I3 E6 WU))
   have JX:=(Xe7 H6).size;obtain ⟨a8,c8,w8,O3,hS8,G5⟩:=Qwu (Xo6 H6) JX (y:=⟨z,z3⟩) (q1:=⟨a3,l3,c3⟩) (q2:=⟨a6,l6,c6⟩) (Xo0 H6) (Xo2 H6) (by show j<=1000;omega) 23;simp only[Ur] at O3;have hn8:∀x∈L++[(⟨z,z3⟩:IvV)],x.ok:=fun x hx=>by
    rcases Tl.1 hx with hx|hx
    ·exact (Xo1 HS) x hx
    ·rw[Uy] at hx;subst hx;exact ⟨(Xo1 H6).1,(Xo3 H6),by show Q9x z.val z3.val;rw[(Xo1 H6).2,(Xo4 H6)];exact Qwv y p p2⟩
   have H8:=Xh3 hS8 G5 hn8;have HR8:=Ua O3;clear hS8 G5 hn8 JX O3
   go_wp2_with (at_builtin;refine Q0d rfl (.tmp 34) (.tmp 38) 23 23 rfl _ _ rfl rfl _ _ HR8.out ?_)
   have A2:=(Xo1 H8);have hdk8:Q42 w8 b (i+3*(j+1)):=by
    have:=(Xo5 H6);have h2:Q42 w8 b (i+3*j+1+1+1):=this.turn ⟨A2.os,A2.tape,A2.output,A2.size,fun k hk hn=>A2.block k (TR hn)⟩ (fp:=fun k=>w.heap.size<=k) (fun k hk h=>by omega);rwa[show i+3*(j+1)=i+3*j+1+1+1 by omega]
   refine ⟨⟨j+1,a8,c8,L++[⟨z,z3⟩],rfl,congrArg (Value.int .i64) (by omega),by omega,(Xo0 H8),(Xe2 H8),hdk8,(Xe7 H6).past A2⟩,by simp only[intOf];omega⟩
  ·have G0:¬(j:Int)<(n:Int):=(by omega);obtain rfl:j=n:=(by omega);have HE:=Xh4 hS X1 C8 ht;clear hS X1 C8 ht
   go_wp2_with fail
   go_ret;exact ⟨⟨a1,c1,rfl,L,(Xo0 HE),(Xo1 HE)⟩,(Xo2 HE),(Xe3 HE)⟩
end Go.Proofs.YtidojbkhlenahaaGreatDoor
namespace Go.Proofs.YtidojbkhlenahaaGreatDoor
open Go Go.RowKit
section
variable {P:Program}
def Qs4 (P:Program) (E:World->World->Prop) (ops:Array Oper) (C:World->Prop) (V:Nat->Value->World->Prop) (Bx:Qji) (a0:Act) (k:Nat) (o:Oper):Prop:=
 ∀a w D,C w->(∀j,D j=true->V j (Q09 ops a j) w)->Bx D (Q09 ops a) w->Q7h ops a0 a->D k=false->(∀i∈Q20 o,D i=true)->(∀j oj,ops[j]?=some oj->D j=true->∀i∈Q20 oj,D i=true)->
  Q0r P (fun u w'=>E w w'/\V k u w'/\Bx (Q1x D k) (Q24 (Q09 ops a) k u) w') ((execOp a.eval o).run P w)
def Qeq (P:Program) (E:World->World->Prop) (ops:Array Oper) (C:World->Prop) (V:Nat->Value->World->Prop) (Bx:Qji) (plain:Nat->Bool) (a0:Act):List Oper->Nat->Prop
 |[],_=>True
 |o::r,k=>((plain k=true/\Q4i P Q7l ops C V a0 k o)∨Qs4 P E ops C V Bx a0 k o)/\Qeq P E ops C V Bx plain a0 r (k+1)
theorem Qeq.at_ {E:World->World->Prop} {ops:Array Oper} {C:World->Prop} {V:Nat->Value->World->Prop} {Bx:Qji} {plain:Nat->Bool} {a0:Act}:∀(l:List Oper) (k i:Nat) (o:Oper),Qeq P E ops C V Bx plain a0 l k->l[i]?=some o->(plain (k+i)=true/\Q4i P Q7l ops C V a0 (k+i) o)∨Qs4 P E ops C V Bx a0 (k+i) o
 |[],_,_,_,_,h=>by simp at h
 |x::r,k,0,o,h,ho=>by
  simp only[UO,Un] at ho;subst ho;exact h.1
 |x::r,k,i+1,o,h,ho=>by
  have:=Qeq.at_ r (k+1) i o h.2 (by simpa using ho);rwa[show k+1+i=k+(i+1) by omega] at this
theorem Q9w {Q:Exit->Act->World->Prop} {id:Nat} {l:List Oper} {a0:Act} {w:World} (hm:P.follows .mixedOrders=true) (plain:Nat->Bool) (E:World->World->Prop) (hE:∀w w',Bw w w'->E w w') (C:World->Prop) (hC:∀w w',C w->E w w'->C w') (V:Nat->Value->World->Prop) (hV:∀i v w w',V i v w->E w w'->V i v w') (Bx:Qji)
 (hBx:∀D vs w w' k u,plain k=true->D k=false->Bx D vs w->Bw w w'->Bx (Q1x D k) (Q24 vs k u) w')
 (hN:∀(i:Nat) o,l[i]?=some o->o.dst=none->(∀v u w,V i v w->V i u w)/\∀D vs v w,Bx D (Q24 vs i v) w->Bx D vs w)
 (hB:Q7i l a0.tmps.size=true) (hG:(l.all fun o=>o.guard.isNone)=true) (h0:C w.drew) (M2:∀vs,Bx (fun _=>false) vs w.drew)
 (step:Qeq P E l.toArray C V Bx plain a0 l 0) (fin:∀D vs w,(∀j,j<l.length->D j=true)->C w->(∀j,D j=true->V j (vs j) w)->Bx D vs w->Q .normal (Q0t vs l 0 a0) w):(Code.region id l.toArray true).wp P Q a0 w:=by
 have U5:∀(k:Nat) (o:Oper),l[k]?=some o->∀y,Region.wanted o y=true:=fun k o ho y=>by
  have h1:=Ts.1 hG o (Ug ho);unfold Region.wanted;cases hg:o.guard with
  |none=>rfl
  |some g=>rw[hg] at h1;cases h1
 have A1:∀(k:Nat) (o:Oper),l[k]?=some o->Q62 P l.toArray (fun D vs w=>C w/\(∀j,D j=true->V j (vs j) w)/\Bx D vs w) a0 k o:=by
  intro k o ho a w D ⟨Zf,KD,hBw⟩ E0 hk p5 F1;refine ⟨U5 k o ho _,?_⟩;have Xl:∀u w',E w w'->V k u w'->∀j,Q1x D k j=true->V j (Q24 (Q09 l.toArray a) k u j) w':=fun u w' hb hu j hj=>by
   unfold Q24;unfold Q1x at hj
   by_cases QG:j=k
   ·subst QG;rw[Uu rfl];exact hu
   ·rw[Uq QG];rw[Uq QG] at hj;exact hV _ _ _ _ (KD j hj) hb
  have R0:=Qeq.at_ _ _ _ _ step ho;rw[UH] at R0;rcases R0 with ⟨hp,h1⟩|h1
  ·have h1:=h1 a w Zf E0 fun i hi=>KD i (p5 i hi);rw[Uu (U5 k o ho _)] at h1;have hK:∀u w',Bw w w'->V k u w'->C w'/\(∀j,Q1x D k j=true->V j (Q24 (Q09 l.toArray a) k u j) w')/\Bx (Q1x D k) (Q24 (Q09 l.toArray a) k u) w':=fun u w' hb hu=>⟨hC _ _ Zf (hE _ _ hb),Xl u w' (hE _ _ hb) hu,hBx _ _ _ _ _ _ hp hk hBw hb⟩
   revert h1
   generalize (execOp a.eval o).run P w=res;intro h1;cases res with
   |ok x w'=>
    cases x with
    |value u=>exact hK u w' h1.1 h1.2
    |enter f args=>
     refine Xa6 h1 ?_;rintro e w'' ⟨v,rfl,hb,hv⟩;exact ⟨v,rfl,hK v w'' hb hv⟩
    |skip=>exact hK undef w' h1.1 h1.2
    |_=>exact h1.elim
   |halt x w'=>exact h1.elim
  ·have h1:=h1 a w D Zf KD hBw E0 hk p5 F1;have hK:∀u w',E w w'/\V k u w'/\Bx (Q1x D k) (Q24 (Q09 l.toArray a) k u) w'->C w'/\(∀j,Q1x D k j=true->V j (Q24 (Q09 l.toArray a) k u j) w')/\Bx (Q1x D k) (Q24 (Q09 l.toArray a) k u) w':=fun u w' h=>⟨hC _ _ Zf h.1,Xl u w' h.1 h.2.1,h.2.2⟩
   revert h1
   generalize (execOp a.eval o).run P w=res;intro h1;cases res with
   |ok x w'=>
    cases x with
    |value u=>exact hK u w' h1
    |enter f args=>
     refine Xa6 h1 ?_;rintro e w'' ⟨v,rfl,hv⟩;exact ⟨v,rfl,hK v w'' hv⟩
    |skip=>exact hK undef w' h1
    |_=>exact h1.elim
   |halt x w'=>exact h1.elim
 have QN:∀(r:List Oper) (k:Nat),(∀(i:Nat) o,r[i]?=some o->l[k+i]?=some o)->Q84 P l.toArray (fun D vs w=>C w/\(∀j,D j=true->V j (vs j) w)/\Bx D vs w) a0 r k:=by
  intro r
  induction r with
  |nil=>intro k _;trivial
  |cons o r ih=>
   intro k h;refine ⟨A1 k o (by simpa using h 0 o rfl),ih (k+1) fun i o' Qe=>?_⟩;have:=h (i+1) o' (by simpa using Qe);rwa[show k+(i+1)=k+1+i by omega] at this
 refine Q2i hm (fun D vs w=>C w/\(∀j,D j=true->V j (vs j) w)/\Bx D vs w) (fun i o hi hd D vs v w h=>?_) hB (fun vs=>⟨h0,(fun j hj=>by cases hj),M2 vs⟩) (QN l 0 fun i o h=>by rw[UH];exact h) (fun D vs w A1 h=>fin D vs w A1 h.1 h.2.1 h.2.2);obtain ⟨h1,h2⟩:=hN i o hi hd;refine ⟨h.1,fun j hj=>?_,h2 _ _ _ _ h.2.2⟩;have h3:=h.2.1 j hj;unfold Q24 at h3
 by_cases hji:j=i
 ·subst hji;rw[Uu rfl] at h3;exact h1 _ _ _ h3
 ·rwa[Uq hji] at h3
end
end Go.Proofs.YtidojbkhlenahaaGreatDoor
namespace Go.Proofs.YtidojbkhlenahaaGreatDoor
open Go.RowKit WordsM DecM
theorem Q42.blk {w:World} {b i:Nat} (h:Q42 w b i):∃a n c,Blk w b [.slice a n c,.int .i64 (i:Int)]:=by
 obtain ⟨a,n,c,ls,hh,_⟩:=h;refine ⟨a,n,c,fun j v hj=>?_,fun j _=>Tx _ _ _ _ _ hh,fun j hj=>?_⟩
 ·rw[UL _ _ _ _ _ _ hh];simpa using hj
 ·rw[UL _ _ _ _ _ _ hh];simpa using hj
theorem Qun (a:OA) (n c:Nat) (i:Int):Odd [.slice a n c,.int .i64 i]:=by
 refine ⟨fun u hu=>?_,fun e h=>by simp at h,fun j _ _ _ _ _ _ h1 _=>?_⟩
 ·simp only[UD,TK,Xbm] at hu;rcases hu with rfl|rfl <;> first|exact Q3f _ _ _|exact Q2q _
 ·simp at h1
theorem Q1a.turnE [LT ZK] [Nonempty (PLift Zz)] {w w':World} {b i:Nat} {a:OA} {n c:Nat} {F:List (List Q01)} (h:Q1a w a n c F) (hd:Q42 w b i) (ht:Q0l (·=b) w w') (ha:∀x,a=some x->x.block≠b):Q1a w' a n c F:=by
 obtain ⟨a0,n0,c0,hb⟩:=hd.blk;exact h.only ⟨ht.size,fun k hk hn=>ht.block k hk hn,hb⟩ (Qun _ _ _ _) ha
structure EK [LT ZK] (fp:Nat->Prop) (a:OA) (n c:Nat) (F:List (List Q01)) (w w':World):Prop where
 turn:Q0l fp w w'
 u64:∀(p:Addr) (x:Nat),w.cell? p=some (nv .u64 x)->w'.cell? p=some (nv .u64 x)
 fld:Q1a w a n c F->Q1a w' a n c F
section
variable {fp:Nat->Prop} {fa:OA} {fl fc:Nat} {F:List (List Q01)}
theorem EK.of_below [LT ZK] {w w':World} (h:Bw w w'):EK fp fa fl fc F w w':=⟨Q0l.of_below h _,fun _ _ hp=>(h.cell (Uz hp)).trans hp,fun hf=>hf.step h⟩
theorem EK.of_deck [LT ZK] [Nonempty (PLift Zz)] {w w':World} {b i:Nat} (hd:Q42 w b i) (ht:Q0l (·=b) w w') (hb:fp b) (ha:∀x,fa=some x->x.block≠b):EK fp fa fl fc F w w':=
 ⟨ht.more fun k _ e=>by subst e;exact hb,fun p x hp=>(ht.cell (Uz hp) fun e=>by
   have e:p.block=b:=e;cases hs:p.spot with
   |none=>exact hd.nou p.off x (by rw[<-e];rw[<-hp];congr 1;cases p;simp only at hs;rw[hs])
   |some z=>
    obtain ⟨a0,n0,c0,ls,hh,_⟩:=hd;unfold World.cell? at hp;rw[e,hh] at hp;simp[hs] at hp).trans hp,fun hf=>hf.turnE hd ht ha⟩
theorem EK.of_only [LT ZK] [Nonempty (PLift Zz)] {w w':World} {g:Nat} {vs:LV} (h:Qdc w w' g vs) (ho:Odd vs) (hos:w'.os=w.os/\w'.tape=w.tape/\w'.output=w.output) (hg:fp g) (ha:∀x,fa=some x->x.block≠g):EK fp fa fl fc F w w':=
 ⟨⟨hos.1,hos.2.1,hos.2.2,h.size,fun k hk hn=>h.block k hk (fun e=>hn (by subst e;exact hg))⟩,fun p x hp=>h.cell hp fun e=>by
   cases hs:p.spot with
   |none=>
    have ZN:w.cell? ⟨g,p.off,none⟩=some (nv .u64 x):=(by rw[<-hp,<-e];congr 1;cases p;simp only at hs;rw[hs]);exact ho.nou _ (Ug (h.in_ ZN)) x rfl
   |some z=>
    unfold World.cell? at hp;rw[hs] at hp
    split at hp <;> simp at hp,fun hf=>hf.only h ho ha⟩
theorem EK.num [LT ZK] {w w':World} (h:EK fp fa fl fc F w w') {a:OA} {l c:Nat} {x:Q2u} (hn:Q0f w a l c x):Q0f w' a l c x:=by
 refine ⟨⟨hn.lie.len,hn.lie.cap,hn.lie.most,hn.lie.low,?_⟩,hn.lo,hn.hi⟩;rcases hn.lie.rd with h0|⟨g,o,rfl,hg,hc⟩
 ·exact .inl h0
 ·exact .inr ⟨g,o,rfl,Uc hg h.turn.size,fun j y hy=>h.u64 _ _ (hc j y hy)⟩
theorem EK.numat [LT ZK] {w w':World} (h:EK fp fa fl fc F w w') {u:Value} {d:Dyadic} (hn:Q6d w u d):Q6d w' u d:=by
 obtain ⟨x,a,l,c,rfl,h1,h2,h3⟩:=hn;exact ⟨x,a,l,c,rfl,h.num h1,h2,h3⟩
theorem EK.box [LT ZK] {w w':World} {B:Nat} (h:EK fp fa fl fc F w w') {p:Pl} {L:List IvV} (hS:Q1q w B p L) (hf:∀k,fp k->k<B):Q1q w' B p L:=by
 obtain ⟨xs,hr⟩:=hS.row;have C1:∀x,p.a=some x->¬fp x.block:=fun x hx e=>by have:=(hS.lt hx).1;have:=hf _ e;omega
 refine ⟨⟨xs,hr.keep fun x hx=>h.turn.block _ (hS.lt hx).2 (C1 x hx)⟩,hS.len,fun j x hx=>?_⟩;obtain ⟨g,ha,a,l,c,a2,m,d,⟨h0,h1,h2,h3,h4,h5⟩,h6,h7⟩:=hS.ent j x hx;have hc:∀k u,w.cell? ⟨g,k,none⟩=some u->w'.cell? ⟨g,k,none⟩=some u:=fun k u hu=>(h.turn.cell (p:=⟨g,k,none⟩) (hS.lt ha).2 (by have:=C1 _ ha;exact this)).trans hu;exact ⟨g,ha,a,l,c,a2,m,d,⟨hc _ _ h0,hc _ _ h1,hc _ _ h2,hc _ _ h3,hc _ _ h4,hc _ _ h5⟩,h.num h6,h.num h7⟩
theorem EK.trans [LT ZK] {w1 w2 w3:World} (h:EK fp fa fl fc F w1 w2) (k:EK fp fa fl fc F w2 w3):EK fp fa fl fc F w1 w3:=⟨h.turn.trans0 k.turn,fun p x hp=>k.u64 p x (h.u64 p x hp),fun hf=>k.fld (h.fld hf)⟩
end
theorem Q1q.lower {w:World} {B B':Nat} {p:Pl} {L:List IvV} (h:Q1q w B p L) (hB:B'<=B):Q1q w B' p L:=by
 obtain ⟨xs,hr⟩:=h.row;refine ⟨⟨xs,⟨⟨hr.1.1,?_⟩,hr.2⟩⟩,h.len,h.ent⟩;rcases hr.1.2 with h1|⟨g,cap,cur,e,hb,r⟩
 ·exact .inl h1
 ·exact .inr ⟨g,cap,cur,e,Uj hB hb,r⟩
theorem Qs5 {x:Q2u} {e:Int} (h1:x.ok) (h2:Low (2^64) x.ws) (h3:x.val=dy 1 e) (he: -100<=e/\e<=100):x=⟨false,e,[1]⟩:=by
 refine Qek h1 h2 ?_ (fun y hy=>by rw[Uy] at hy;subst hy;decide) ?_
 ·show Q0a false e [1]
  unfold Q0a;rw[Uq (by simp)];exact ⟨by decide,by decide,by decide,by omega,by omega⟩
 ·rw[h3];show dy 1 e=dy (sgn false (val (2^64) [1])) e
  simp[val,sgn]
theorem Q8v {E:World->World->Prop}:∀{l:List (Nat × (Value->World->Prop))},(∀p∈l,∀v w w',p.2 v w->E w w'->p.2 v w')->∀i φ,Q13 l i=some φ->∀v w w',φ v w->E w w'->φ v w'
 |[],_,i,φ,h=>by cases h
 |(j,ψ)::r,hs,i,φ,h=>by
  unfold Q13 at h
  split at h
  ·injection h with h;subst h;exact hs (j,ψ) (by simp)
  ·exact Q8v (fun p hp=>hs p (by simp[hp])) i φ h
theorem Q0r.value {P:Program} {K:Value->World->Prop} {u:Value} {w':World} {res:Result Next} (hr:res=.ok (.value u) w') (h:K u w'):Q0r P K res:=by rw[hr];exact h
theorem Q0r.skip_ {P:Program} {K:Value->World->Prop} {w':World} {res:Result Next} (hr:res=.ok .skip w') (h:K undef w'):Q0r P K res:=by rw[hr];exact h
theorem Q0r.enter_ {P:Program} {K:Value->World->Prop} {w:World} {f:FuncId} {args:Array Value} {res:Result Next} (hr:res=.ok (.enter f args) w) (h:Calls P f args w fun e w'=>∃v,e=.returned v/\K v w'):Q0r P K res:=by rw[hr];exact h
def Qko (lo n:Int) (u:Value) (_:World):Prop:=∃k:Int,0<=k/\k<n/\u=.int .i64 (lo+k)
def Qym (n:Int) (u:Value) (_:World):Prop:=∃k:Int,0<=k/\k<n/\u=.int .i64 (-k)
def Qip (e:Int) (u:Value) (w:World):Prop:=∃k:Int,0<=k/\k<7/\Q8u (dy 1 (e-k)) u w
def Qww (e:Int) (u:Value) (w:World):Prop:=∃k:Int,0<=k/\k<7/\Q6d w u (dy 1 (e-k))
theorem Q03.turnE2 [LT ZK] {w w':World} {fp:Nat->Prop} {fa:OA} {fl fc:Nat} {F:List (List Q01)} {g:Nat} {v0 v1 v2:Value} (h:Q03 w g v0 v1 v2) (ht:EK fp fa fl fc F w w') (hg:g<w.heap.size) (hn:¬fp g):Q03 w' g v0 v1 v2:=
 ⟨(ht.turn.cell (p:=⟨g,0,none⟩) hg hn).trans h.c0,(ht.turn.cell (p:=⟨g,1,none⟩) hg hn).trans h.c1,(ht.turn.cell (p:=⟨g,2,none⟩) hg hn).trans h.c2,(ht.turn.frozen (p:=⟨g,0,none⟩) hg hn).trans h.f0,(ht.turn.frozen (p:=⟨g,1,none⟩) hg hn).trans h.f1,(ht.turn.frozen (p:=⟨g,2,none⟩) hg hn).trans h.f2⟩
theorem Blk.box3 {w:World} {g:Nat} {v0 v1 v2:Value} (h:Blk w g [v0,v1,v2]):Q03 w g v0 v1 v2:=⟨h.c 0 _ rfl,h.c 1 _ rfl,h.c 2 _ rfl,h.f 0 (by simp),h.f 1 (by simp),h.f 2 (by simp)⟩
theorem Qwx (n:Bool) (e:Int) (a:OA) (l c:Nat):Odd [.bool n,.int .i64 e,.slice a l c]:=by
 refine ⟨fun u hu=>?_,fun e h=>by simp at h,fun j _ _ _ _ _ _ _ h2=>?_⟩
 ·simp only[UD,TK,Xbm] at hu;rcases hu with rfl|rfl|rfl <;> first|exact Q2g _|exact Q2q _|exact Q3f _ _ _
 ·simp at h2
def Qkp (b q0 N2:Nat) (e:Int) (D:Nat->Bool) (vs:Nat->Value) (w:World):Prop:=Q42 w b (q0+if D 2=true then 1 else 0)/\(D 8=true->∃g,vs 8=.pointer (some ⟨g,0,none⟩)/\N2<=g/\g<w.heap.size/\
 (if D 9=true then (∃(z:Q2u) (a:OA) (l c:Nat) (k:Int),Q03 w g (.bool z.neg) (.int .i64 z.exp) (.slice a l c)/\Q0f w a l c z/\z.ok/\0<=k/\k<7/\z.val=dy 1 (e-k)) else Blk w g [.bool false,.int .i64 0,.slice none 0 0]))
theorem Qfz {v:Nat} {e:Int} (h:1<=v):Q6o (dy (v:Int) e):=by
 refine ⟨fun h0=>?_,by rw[Q4g];exact UU (by omega)⟩;have:=Qc7 (h0.trans (Q4m e).symm);omega
theorem Quo {e k:Int} (h:0<=k):Q9x (dy 1 (e-k)) (dy 1 e):=by
 obtain ⟨j,rfl⟩:∃j:Nat,k=(j:Int):=⟨k.toNat,by omega⟩;have h1:=Q88 1 (e-(j:Int)) j;rw[show e-(j:Int)+(j:Int)=e by omega] at h1;unfold Q9x;rw[h1,Q4h];have h2:(0:Int)<2^j:=Int.pow_pos (by decide);exact UU (by omega)
def BoxV (B n:Nat) (u:Value) (w:World):Prop:=∃a c L,u=.slice a n c/\Q1q w B ⟨a,n,c⟩ L/\∀x∈L,x.ok
def Qz8 (u:Value) (w:World):Prop:=∃(v:Nat) (e0:Int),1<=v/\v<=8/\-3<=e0/\e0<=0/\Q6d w u (dy (v:Int) e0)
def Qyn [LT ZK] (B n:Nat) (fa:OA) (fc:Nat) (F:List (List Q01)) (u:Value) (w:World):Prop:=∃p x,u=.agg (Q2e p x).toArray/\Q1a w fa n fc F/\p.f=⟨fa,n,fc⟩/\x.field=F/\Q1q w B p.b x.box/\Q0f w p.t.a p.t.l p.t.c x.til/\Q0f w p.m.a p.m.l p.m.c x.most/\Q0f w p.e.a p.e.l p.e.c x.least/\Q1h x
theorem Blk.lt0 {w:World} {b:Nat} (h:Blk w b zpL):b<w.heap.size:=Blk.lt (v:=.slice none 0 0) h
def Qdd (n:Nat) (D:Nat->Bool):Nat:=(if D 4=true then 3*n else 0)+(if D 6=true then 2 else 0)+(if D 10=true then 1 else 0)+(if D 13=true then 1 else 0)+(if D 16=true then 1 else 0)
def Qs6 [LT ZK] (b q0 n t4:Nat) (pf:Pl) (F:List (List Q01)) (D:Nat->Bool) (w:World):Prop:=Q42 w b (q0+Qdd n D)/\(if D 19=true then (∃p x,Blk w t4 (Q2e p x)/\Q2j w p x/\Q1h x/\(p.f=pf/\x.field=F)/\Q1q w (t4+1) p.b x.box) else Blk w t4 zpL)
theorem Qd9 (n:Nat) (D:Nat->Bool) (hn:n<=4):Qdd n D<=17:=by
 unfold Qdd;have h1:(if D 4=true then 3*n else 0)<=12:=by split <;> omega
 have h2:(if D 6=true then 2 else 0)<=2:=by split <;> omega
 have h3:(if D 10=true then 1 else 0)<=1:=by split <;> omega
 have h4:(if D 13=true then 1 else 0)<=1:=by split <;> omega
 have h5:(if D 16=true then 1 else 0)<=1:=by split <;> omega
 omega
theorem Q6e [LT ZK] {b q0 n t4:Nat} {pf:Pl} {F:List (List Q01)} {D:Nat->Bool} {w w':World} (k s:Nat) (h:Qs6 b q0 n t4 pf F D w) (hk:D k=false) (ht:Q0l (·=b) w w') (hb:t4≠b) (hd:Q42 w' b (q0+Qdd n D+s)) (hc:Qdd n (Q1x D k)=Qdd n D+s) (h19:k≠19:=by decide) (C4:D 19=false:=by assumption):Qs6 b q0 n t4 pf F (Q1x D k) w':=by
 refine ⟨by rw[hc,<-Nat.add_assoc];exact hd,?_⟩;rw[Q0i (Xah h19),Uq (by rw[C4];decide)];have h2:=h.2;rw[Uq (by rw[C4];decide)] at h2;exact h2.same (ht.block t4 h2.lt0 hb)
theorem Qkq [LT ZK] {b q0 n t4 k:Nat} {pf:Pl} {F:List (List Q01)} {D:Nat->Bool} {w w':World} (h:Qs6 b q0 n t4 pf F D w) (hb:Bw w w') (h4:k≠4) (h6:k≠6) (QC:k≠10) (Zx:k≠13) (h16:k≠16) (h19:k≠19):Qs6 b q0 n t4 pf F (Q1x D k) w':=by
 have hc:Qdd n (Q1x D k)=Qdd n D:=by unfold Qdd;rw[Q0i (Xah h4),Q0i (Xah h6),Q0i (Xah QC),Q0i (Xah Zx),Q0i (Xah h16)]
 refine ⟨by rw[hc];exact h.1.call hb,?_⟩;rw[Q0i (Xah h19)];have h2:=h.2
 by_cases hD:D 19=true
 ·rw[Uu hD] at h2⊢;obtain ⟨p,x,g1,g2,g3,g4,g5⟩:=h2;exact ⟨p,x,g1.step hb g1.lt,g2.step hb,g3,g4,g5.step hb⟩
 ·rw[Uq hD] at h2⊢;exact h2.step hb h2.lt0
theorem Qkr [LT ZK] [Nonempty (PLift Zz)] (b i n:Nat) (fa:OA) (fc:Nat) (F:List (List Q01)) (w:World) (h:Q42 w b i) (hi:i<=80000) (hF:Q1a w fa n fc F) (hr:Q1u F) (hfa:∀x,fa=some x->x.block≠b):
 Calls Tryz.prog 45 #[.pointer (some ⟨b,0,none⟩),.slice fa n fc] w fun e w'=>(∃p x,e=.returned (.agg (Q2e p x).toArray)/\Q2j w' p x/\Q1h x/\(p.f=⟨fa,n,fc⟩/\x.field=F)/\Q1q w' w.heap.size p.b x.box)/\(∃q,Q42 w' b q)/\Q0l (·=b) w w':=by
 have K4:=h.lt;have X9:n<=4:=by rw[<-hF.1];exact hr.2.1
 have E6:1<=n:=by rw[<-hF.1];exact hr.1
 have hZ:=Blk.new w zpL 28;have Q0:Bw w (w.alloc (.cells zpL.toArray 28)):=Ba;have O2:=Q0o w (.cells zpL.toArray 28);obtain ⟨W0,M1⟩:∃W0,w.alloc (.cells zpL.toArray 28)=W0:=⟨_,rfl⟩;rw[M1] at hZ Q0 O2;have Q1:Bw W0 (W0.alloc (.cells #[.int .u64 1] 83)):=Ba;have JP:WordsIn (W0.alloc (.cells #[.int .u64 1] 83)) (some ⟨W0.heap.size,0,none⟩) 1 1 [1]:=Qcw W0 1 (by decide) 83;have XU:=Qcx b i 4 (W0.alloc (.cells #[.int .u64 1] 83)) ((h.call Q0).call Q1) (by omega) (by decide) (by decide);have H0:=Xh8 XU ((h.call Q0).call Q1) JP (hZ.step Q1 O2) (Q0.trans (Q1.mono Q0.size)) hF hr hfa;clear XU Q1 JP hZ hF hr hfa h;have JB:w.heap.size<W0.heap.size:=O2;clear O2 Q0
 go_enter Tryz.func45,Tryz.ntmps45
 go_upto_region 1 with fail
 change Code.wp _ _ _ _ (w.alloc (.cells zpL.toArray 28))
 rw[M1];clear M1
 go_upto_region 2 with (first
  |(go_at_call 76;refine (Xo0 H1).mono ?_;rintro e w2 ⟨j4,D0⟩
    obtain ⟨u,rfl,x,ax,lx,cx,rfl,K5,Z3,Vf⟩:=Qbi j4 (Qd8 false (by simp[val]) (by omega) (by omega));obtain ⟨e0,he0⟩:∃e0:Int,(y:Int)-3=e0:=⟨_,rfl⟩;have WR:x=⟨false,e0,[1]⟩:=Qs5 Z3 K5.lie.low (by rw[Vf,he0];simp[val,sgn]) (by omega);subst WR;have Q1:Bw w2 (w2.alloc (.cells #[.bool false,.int .i64 e0,.slice ax lx cx] 26)):=Ba;have hB:=D0.trans (Q1.mono D0.size);have hN:=Q03.new w2 (.bool false) (.int .i64 e0) (.slice ax lx cx) 26;have H2:=Xh7 hN (K5.step Q1) Z3 ((Xo1 H1).call hB) ((Xo2 H1).step hB (Uc JB (Xe5 H1))) ((Xo3 H1).trans0 (Q0l.of_below hB _)) ((Xo4 H1).step hB);have HE0:=Ua (show -3<=e0/\e0<=0 by omega);have Zn:w.heap.size<w2.heap.size:=Uc (Uc JB (Xe5 H1)) D0.size;simp only;clear Q1 hB hN K5 Z3 Vf D0 j4)
  |(go_at_call 77;refine (Xo0 H0).mono ?_;rintro e w1 ⟨⟨y,hy,rfl⟩,D3,I3⟩
    have K1:=Q5l false (some ⟨W0.heap.size,0,none⟩) 1 1 [1] ((y:Int)-3) w1 ((Xo2 H0).turnD (Xo1 H0) I3) (by decide) (by omega) (by omega);have hlW:W0.heap.size<=w1.heap.size:=Uj (by rw[Ur];omega) I3.size;have H1:=Xh6 K1 D3 ((Xo3 H0).same (I3.block _ (by rw[Ur];omega) (by omega))) ((Q0l.of_below (Xo4 H0) _).trans0 I3) (((Xo5 H0).step (Xo4 H0)).turnE (Xo1 H0) I3 (Xe7 H0)) hlW;clear K1 D3 I3 hlW))
 obtain ⟨W2,i5⟩:∃W2,w2.alloc (.cells #[.bool false,.int .i64 e0,.slice ax lx cx] 26)=W2:=⟨_,rfl⟩;have Z6:w2.heap.size<W2.heap.size:=by rw[<-i5];exact Q0o _ _
 rw[i5] at H2⊢;clear i5;obtain ⟨t5,Vo⟩:∃t5,w2.heap.size=t5:=⟨_,rfl⟩;rw[Vo] at H2 Z6 Zn⊢;clear Vo;have P0:b<t5:=Nat.lt_trans K4 Zn;refine Q9w (by kernel_rfl) (fun k=>k != 2 && k != 8 && k != 9) (EK (fun k=>k=b∨W2.heap.size<=k) fa n fc F) (fun _ _ h=>EK.of_below h) (EK (fun k=>k=b∨W2.heap.size<=k) fa n fc F W2) (fun _ _ h k=>h.trans k) (Q3q [.agg #[.bool false,.int .i64 e0,.slice ax lx cx],.pointer (some ⟨b,0,none⟩),undef,undef,undef,undef,undef,.int .i64 0,undef,undef,.int .i64 0] (Q13 [(2,Qko 0 7),(3,Qym 7),(4,Qip e0),(5,Qip e0),(6,Qww e0),(8,fun _ _=>True),(9,fun _ _=>True)])) (Q08 (Q8v (fun q hq v w w' h hs=>?_))) (Qkp b (i+1) W2.heap.size e0) ?_ ?_ (by kernel_rfl) (by kernel_rfl) (EK.of_below (Q04 W2)) ?_ ?_ ?_
 ·simp only[UD,TK,Xbm] at hq;rcases hq with rfl|rfl|rfl|rfl|rfl|rfl|rfl
  ·exact h
  ·exact h
  ·obtain ⟨k,h1,h2,v',h3,h4⟩:=h;exact ⟨k,h1,h2,v',h3,hs.numat h4⟩
  ·obtain ⟨k,h1,h2,v',h3,h4⟩:=h;exact ⟨k,h1,h2,v',h3,hs.numat h4⟩
  ·obtain ⟨k,h1,h2,h4⟩:=h;exact ⟨k,h1,h2,hs.numat h4⟩
  ·trivial
  ·trivial
 ·intro D vs w w' k u hp hk h hb;simp only[Xad,bne_iff_ne] at hp;obtain ⟨⟨h2,h8⟩,h9⟩:=hp;obtain ⟨hd,hx⟩:=h;unfold Qkp;rw[Q0i (Xah h2),Q0i (Xah h8),Q0i (Xah h9),Q18 (Xah h8)];refine ⟨hd.call hb,fun h=>?_⟩;obtain ⟨g,e1,e2,e3,e4⟩:=hx h;refine ⟨g,e1,e2,Uc e3 hb.size,?_⟩
  by_cases P8:D 9=true
  ·rw[Uu P8] at e4⊢;obtain ⟨z,a,l,c,k,g1,g2,g3⟩:=e4;exact ⟨z,a,l,c,k,g1.step hb e3,g2.step hb,g3⟩
  ·rw[Uq P8] at e4⊢;exact e4.step hb e3
 ·intro i o hi hd;have WC:i=9:=by
   rcases Q9f (x:=9) (y:=9) (by kernel_rfl) hi hd with h|h <;> exact h
  subst WC;refine ⟨fun v u w _=>(Q00 rfl).2 trivial,fun D vs v w h=>?_⟩;unfold Qkp at h⊢;rw[Q18 (by decide)] at h;exact h
 ·intro vs;refine ⟨?_,fun h=>(by cases h)⟩;exact (Xo3 H2)
 ·refine ⟨.inl ⟨rfl,fun A W hW E0 A0=>?_⟩,?_⟩
  ·have e5:=Q07 E0 5 (by kernel_rfl) rfl;have hN:=(Xo0 H2).turnE2 hW Z6 (by omega);obtain ⟨k0,k1,k2⟩:=hN.cc;refine Q02 rfl (Q12 rfl rfl ?_);simp[go_sem,e5,k0,k1,k2]
  refine ⟨.inl ⟨rfl,fun A W hW E0 A0=>?_⟩,?_⟩
  ·have e0':=Q07 E0 0 (by kernel_rfl) rfl;refine Q02 rfl (Q12 rfl rfl ?_);simp[go_sem,e0']
  refine ⟨.inr fun A W D hW hV hB E0 hk A0 F1=>?_,?_⟩
  ·have e15:=Q0h (j:=1) (t:=15) rfl ((Q0j rfl).1 (hV 1 (A0 1 (by decide))));have hd:Q42 W b (i+1):=by
    have:=hB.1;rw[Uq (by rw[show D 2=false from hk];decide)] at this;exact this
   refine Q0r.enter_ (w:=W) (f:=77) (args:= #[.pointer (some ⟨b,0,none⟩),.int .i64 7]) (by simp[go_sem,e15]) ?_;refine (Qcx b (i+1) 7 W hd (by omega) (by decide) (by decide)).mono ?_;rintro e w' ⟨⟨y,hy,rfl⟩,Z2,X2⟩;refine ⟨_,rfl,EK.of_deck hd X2 (.inl rfl) (Xe7 H0),(Q00 rfl).2 ⟨(y:Int),by omega,by omega,by rw[Xbo]⟩,?_,fun h=>?_⟩
   ·rw[Uu (Q27 _ _)];exact Z2
   ·rw[Q0i (by decide)] at h;obtain ⟨g,e1,e2,e3,e4⟩:=hB.2 h;refine ⟨g,by rw[Q18 (by decide)];exact e1,e2,Uc e3 X2.size,?_⟩;rw[Q0i (by decide)];have KP:g≠b:=by omega
    by_cases P8:D 9=true
    ·have:D 2=true:=F1 9 _ rfl P8 2 (by decide);rw[hk] at this;cases this
    ·rw[Uq P8] at e4⊢;exact e4.same (X2.block g e3 KP)
  refine ⟨.inl ⟨rfl,fun A W hW E0 A0=>?_⟩,?_⟩
  ·obtain ⟨k,h1,h2,h3⟩:=(Q00 rfl).1 (A0 2 (by decide));rw[Xbo] at h3;have e16:=Q1o h3;have A7:IntKind.i64.wrap (-k)= -k:=(by rw[UY];omega);refine Q02 rfl (Q2y (w':=W) (u:=.int .i64 (-k)) (by simp[go_sem,e16,A7]) (Ud _ _) ((Q00 rfl).2 ⟨k,h1,h2,rfl⟩))
  refine ⟨.inl ⟨rfl,fun A W hW E0 A0=>?_⟩,?_⟩
  ·have e14:=Q11 A0 0 (by decide) rfl rfl rfl;obtain ⟨k,h1,h2,h3⟩:=(Q00 rfl).1 (A0 3 (by decide));have e17:=Q1o h3;have hS:dy (sgn false (val (2^64) [1])) (e0+ -k)=dy 1 (e0-k):=by
    have:e0+ -k=e0-k:=(by omega);rw[this];simp[val,sgn]
   refine Q02 rfl ?_;refine Q0s (f:=78) (args:= #[.agg #[.bool false,.int .i64 e0,.slice ax lx cx],.int .i64 (-k)]) (by simp[go_sem,e14,e17]) ((Qs3 ⟨false,e0,[1]⟩ (-k) ax lx cx W (hW.num (Xo1 H2)) (Xo2 H2) (by simp) (by omega) (dy 1 (e0-k)) hS (Qm5 (by decide) (by have:=HE0.out;omega) (by have:=HE0.out;omega))).mono ?_);rintro e w' ⟨⟨u,rfl,hu⟩,F3⟩;exact ⟨_,rfl,F3,(Q00 rfl).2 ⟨k,h1,h2,hu⟩⟩
  refine ⟨.inl ⟨rfl,fun A W hW E0 A0=>?_⟩,?_⟩
  ·obtain ⟨k,h1,h2,v,h3,h4⟩:=(Q00 rfl).1 (A0 4 (by decide));have e18:=Q1o h3;refine Q02 rfl (Q2y (w':=W) (u:=.tuple #[v,.int .i64 0]) (by simp[go_sem,e18]) (Ud _ _) ((Q00 rfl).2 ⟨k,h1,h2,v,rfl,h4⟩))
  refine ⟨.inl ⟨rfl,fun A W hW E0 A0=>?_⟩,?_⟩
  ·obtain ⟨k,h1,h2,v,h3,h4⟩:=(Q00 rfl).1 (A0 5 (by decide));have e13:=Q1o h3;refine Q02 rfl (Q2y (w':=W) (u:=v) (by simp[go_sem,e13]) (Ud _ _) ((Q00 rfl).2 ⟨k,h1,h2,h4⟩))
  refine ⟨.inl ⟨rfl,fun A W hW E0 A0=>?_⟩,?_⟩
  ·obtain ⟨k,h1,h2,v,h3,h4⟩:=(Q00 rfl).1 (A0 5 (by decide));have e13:=Q1o h3;refine Q02 rfl (Q12 rfl rfl ?_);simp[go_sem,e13]
  refine ⟨.inr fun A W D hW hV hB E0 hk A0 F1=>?_,?_⟩
  ·have Q1:Bw W (W.alloc (.cells #[.bool false,.int .i64 0,.slice none 0 0] 26)):=Ba;have P8:¬D 9=true:=fun h=>by have:=F1 9 _ rfl h 8 (by decide);rw[hk] at this;cases this
   refine Q0r.value (u:=.pointer (some ⟨W.heap.size,0,none⟩)) (w':=W.alloc (.cells #[.bool false,.int .i64 0,.slice none 0 0] 26)) (by simp[go_sem]) ⟨EK.of_below Q1,(Q00 rfl).2 trivial,?_,fun _=>⟨W.heap.size,Q3z _ _ _,hW.turn.size,Q0o _ _,?_⟩⟩
   ·rw[Q0i (by decide)];exact hB.1.call Q1
   ·rw[Q0i (by decide),Uq P8];exact Blk.new W [.bool false,.int .i64 0,.slice none 0 0] 26
  refine ⟨.inr fun A W D hW hV hB E0 hk A0 F1=>?_,?_⟩
  ·obtain ⟨g,e1,e2,e3,e4⟩:=hB.2 (A0 8 (by decide));rw[Uq (by rw[show D 9=false from hk];decide)] at e4;obtain ⟨k,h1,h2,z,a7,l7,c7,h3,h4,h5,h6⟩:=(Q00 rfl).1 (hV 6 (A0 6 (by decide)));have e6:=Q0h (j:=8) (t:=6) rfl e1;have e19:=Q0h (j:=6) (t:=19) rfl h3;have e4n:=e4.box3;have k0:=e4n.c0;have f0:=e4n.f0;have f1:=e4n.f1;have f2:=e4n.f2;have d1:=e4n.d1 (.bool z.neg);have d2:=e4n.d2 (.bool z.neg) (.int .i64 z.exp);have hO:=((Qdc.set e4 0 (.bool z.neg)).more 1 (.int .i64 z.exp)).more 2 (.slice a7 l7 c7);have hE:=EK.of_only (fp:=fun k=>k=b∨W2.heap.size<=k) (fa:=fa) (fl:=n) (fc:=fc) (F:=F) hO (Qwx _ _ _ _ _) ⟨rfl,rfl,rfl⟩ (.inr e2) (fun x hx he=>by
    have h1:=(Xe6 H2);rcases h1.2.2.2 with h0|⟨b0,o0,hb0',C0,_⟩
    ·have:=(Xo6 H0).1;rw[h0] at this;simp at this
    ·rw[hb0'] at hx;injection hx with hx;subst hx
     have he:b0=g:=he;omega)
   refine Q0r.skip_ (w':=((W.setCell ⟨g,0,none⟩ (.bool z.neg)).setCell ⟨g,1,none⟩ (.int .i64 z.exp)).setCell ⟨g,2,none⟩ (.slice a7 l7 c7)) (by simp[go_sem,e6,e19,k0,f0,f1,f2,d1,d2]) ⟨hE,(Q00 rfl).2 trivial,?_,fun _=>⟨g,by rw[Q18 (by decide)];exact e1,e2,by simp only[Tk];exact e3,?_⟩⟩
   ·rw[Q0i (by decide)];have hn:¬g<=b:=(by omega);exact hB.1.turn (fp:=fun k=>k=g) ⟨rfl,rfl,rfl,hO.size,fun k hk hn=>hO.block k hk hn⟩ (fun k hk e=>by omega)
   ·rw[Uu (Q27 _ _)];exact ⟨z,a7,l7,c7,k,e4n.store _ _ _,hE.num h4,h5,h1,h2,h6⟩
  refine ⟨.inl ⟨rfl,fun A W hW E0 A0=>?_⟩,trivial⟩
  ·have e20:=Q11 A0 7 (by decide) rfl rfl rfl;refine Q02 rfl (Q12 rfl rfl ?_);simp[go_sem,e20]
 ·intro D vs W hD hC hV hB;have Jb:Q42 W b (i+2):=by
   have:=hB.1;rw[Uu (hD 2 (by decide))] at this;exact this
  obtain ⟨g,e8,O5,Q2,A2⟩:=hB.2 (hD 8 (by decide));rw[Uu (hD 9 (by decide))] at A2;obtain ⟨z,a7,l7,c7,k7,O1,Y1,Jf,S3,K6,YJ⟩:=A2;have e10:=(Q0j rfl).1 (hV 10 (hD 10 (by decide)));have hmN:=(Xo0 H2).turnE2 hC Z6 (by omega);have hmI:=hC.num (Xo1 H2);have hF3:=hC.fld (Xe6 H2);have hZ3:Blk W w.heap.size zpL:=(Xo4 H2).same (hC.turn.block _ (by omega) (by omega));have hT3:Q0l (·=b) w W:=(Xo5 H2).trans hC.turn (fun k hk h=>by have:=(Xo5 H2).size;omega);have hsz3:=hC.turn.size;have H3:=Xh6 Jb (And.intro hmN (And.intro hmI (Xo2 H2))) (And.intro O1 (And.intro Y1 (And.intro Jf YJ))) hF3 hZ3 hT3;clear Jb O1 Y1 Jf YJ hmN hmI hF3 hZ3 hT3 hB hC hV hD;simp only[Q0t,Act.put,Um,Ux,Ut,e8];clear e8 e10
  go_upto_region 3 with fail
  have Vo:t5<W.heap.size:=Uc Z6 hsz3;refine Q9w (by kernel_rfl) (fun k=>k != 4 && k != 6 && k != 10 && k != 13 && k != 16 && k != 19) (EK (fun k=>k=b∨k=w.heap.size) fa n fc F) (fun _ _ h=>EK.of_below h) (EK (fun k=>k=b∨k=w.heap.size) fa n fc F W) (fun _ _ h k=>h.trans k) (Q3q [.slice fa n fc,.pointer (some ⟨b,0,none⟩),.slice fa n fc,.int .i64 (n:Int),undef,.pointer (some ⟨b,0,none⟩),undef,.agg #[.bool false,.int .i64 e0,.slice ax lx cx],.agg #[.bool z.neg,.int .i64 z.exp,.slice a7 l7 c7],.pointer (some ⟨b,0,none⟩),undef,undef,.pointer (some ⟨b,0,none⟩),undef,undef,.pointer (some ⟨b,0,none⟩),undef,undef,undef,undef] (Q13 [(4,BoxV W.heap.size n),(6,Qz8),(10,Qko 0 49),(11,Qko 16 49),(13,Qko 0 3),(14,Qko 2 3),(16,Qko 0 9),(17,Qko 1 9),(18,Qyn W.heap.size n fa fc F),(19,fun _ _=>True)])) (Q08 (Q8v (fun q hq v w1 w2 h hs=>?_))) (fun D _ U=>Qs6 b (i+2) n w.heap.size ⟨fa,n,fc⟩ F D U) ?_ ?_ (by kernel_rfl) (by kernel_rfl) (EK.of_below (Q04 W)) ?_ ?_ ?_
  ·have hfW:∀k,(k=b∨k=w.heap.size)->k<W.heap.size:=fun k hk=>by omega
   simp only[UD,TK,Xbm] at hq;rcases hq with rfl|rfl|rfl|rfl|rfl|rfl|rfl|rfl|rfl|rfl
   ·obtain ⟨a,c,L,h1,h2,h3⟩:=h;exact ⟨a,c,L,h1,hs.box h2 hfW,h3⟩
   ·obtain ⟨v',e',h1,h2,h3,h4,h5⟩:=h;exact ⟨v',e',h1,h2,h3,h4,hs.numat h5⟩
   ·exact h
   ·exact h
   ·exact h
   ·exact h
   ·exact h
   ·exact h
   ·obtain ⟨p,x,h1,h2,h3,h4,h5,h6,h7,h8,h9⟩:=h;exact ⟨p,x,h1,hs.fld h2,h3,h4,hs.box h5 hfW,hs.num h6,hs.num h7,hs.num h8,h9⟩
   ·trivial
  ·intro D vs w1 w2 k u hp hk h hb;simp only[Xad,bne_iff_ne] at hp;obtain ⟨⟨⟨⟨⟨h4,h6⟩,QC⟩,Zx⟩,h16⟩,h19⟩:=hp;exact Qkq h hb h4 h6 QC Zx h16 h19
  ·intro o op hi hd;have WC:o=19:=by
    rcases Q9f (x:=19) (y:=19) (by kernel_rfl) hi hd with h|h <;> exact h
   subst WC;exact ⟨fun v u w _=>(Q00 rfl).2 trivial,fun D vs v w h=>h⟩
  ·intro vs;exact ⟨(Xo0 H3),by rw[Uq (fun h=>by cases h)];exact (Xo4 H3).drew⟩
  ·skip;refine ⟨.inl ⟨rfl,fun A U hU E0 A0=>?_⟩,?_⟩
   ·have e0':=Q07 E0 1 (by kernel_rfl) rfl;refine Q02 rfl (Q12 rfl rfl ?_);simp[go_sem,e0']
   refine ⟨.inl ⟨rfl,fun A U hU E0 A0=>?_⟩,?_⟩
   ·have e0':=Q07 E0 0 (by kernel_rfl) rfl;refine Q02 rfl (Q12 rfl rfl ?_);simp[go_sem,e0']
   refine ⟨.inl ⟨rfl,fun A U hU E0 A0=>?_⟩,?_⟩
   ·have e0':=Q07 E0 1 (by kernel_rfl) rfl;refine Q02 rfl (Q12 rfl rfl ?_);simp[go_sem,e0']
   refine ⟨.inl ⟨rfl,fun A U hU E0 A0=>?_⟩,?_⟩
   ·have e0':=Q11 A0 2 (by decide) rfl rfl rfl;refine Q02 rfl (Q12 rfl rfl ?_);simp[go_sem,e0']
   refine ⟨.inr fun A U D hU hV hB E0 hk A0 F1=>?_,?_⟩
   ·have e1:=Q0h (j:=1) (t:=22) rfl ((Q0j rfl).1 (hV 1 (A0 1 (by decide))));have e3:=Q0h (j:=3) (t:=24) rfl ((Q0j rfl).1 (hV 3 (A0 3 (by decide))));have hq:=Qd9 n D X9;have C4:D 19=false:=(by cases N3:D 19;rfl;exact absurd (F1 19 _ rfl N3 4 (by decide)) (by rw[show D 4=false from hk];decide));refine Q0r.enter_ (w:=U) (f:=79) (args:= #[.pointer (some ⟨b,0,none⟩),.int .i64 (n:Int)]) (by simp[go_sem,e1,e3]) ?_;refine (Qum b (i+2+Qdd n D) n U hB.1 (by omega) (by omega)).mono ?_;rintro e w' ⟨⟨a,c,L,rfl,hS,X1⟩,Z2,X2⟩;exact ⟨_,rfl,EK.of_deck hB.1 X2 (.inl rfl) (Xe7 H0),(Q00 rfl).2 ⟨a,c,L,rfl,hS.lower hU.turn.size,X1⟩,Q6e 4 (3*n) hB hk X2 (by omega) Z2 (by unfold Qdd;simp only[Q1x];simp[hk];try omega)⟩
   refine ⟨.inl ⟨rfl,fun A U hU E0 A0=>?_⟩,?_⟩
   ·have e0':=Q07 E0 0 (by kernel_rfl) rfl;refine Q02 rfl (Q12 rfl rfl ?_);simp[go_sem,e0']
   refine ⟨.inr fun A U D hU hV hB E0 hk A0 F1=>?_,?_⟩
   ·have e1:=Q0h (j:=5) (t:=26) rfl ((Q0j rfl).1 (hV 5 (A0 5 (by decide))));have hq:=Qd9 n D X9;have C4:D 19=false:=(by cases N3:D 19;rfl;exact absurd (F1 19 _ rfl N3 6 (by decide)) (by rw[show D 6=false from hk];decide));refine Q0r.enter_ (w:=U) (f:=80) (args:= #[.pointer (some ⟨b,0,none⟩)]) (by simp[go_sem,e1]) ?_;refine (Quk b (i+2+Qdd n D) U hB.1 (by omega)).mono ?_;rintro e w' ⟨⟨v',e',u',h1,h2,h3,h4,rfl,h5⟩,Z2,X2⟩;exact ⟨_,rfl,EK.of_deck hB.1 X2 (.inl rfl) (Xe7 H0),(Q00 rfl).2 ⟨v',e',h1,h2,h3,h4,h5⟩,Q6e 6 2 hB hk X2 (by omega) Z2 (by unfold Qdd;simp only[Q1x];simp[hk];try omega)⟩
   refine ⟨.inl ⟨rfl,fun A U hU E0 A0=>?_⟩,?_⟩
   ·have e5:=Q07 E0 5 (by kernel_rfl) rfl;have hN:=(Xo1 H3).1.turnE2 hU Vo (by omega);obtain ⟨k0,k1,k2⟩:=hN.cc;refine Q02 rfl (Q12 rfl rfl ?_);simp[go_sem,e5,k0,k1,k2]
   refine ⟨.inl ⟨rfl,fun A U hU E0 A0=>?_⟩,?_⟩
   ·have e6:=Q07 E0 6 (by kernel_rfl) rfl;have hN:=(Xo2 H3).1.turnE2 hU Q2 (by omega);obtain ⟨k0,k1,k2⟩:=hN.cc;refine Q02 rfl (Q12 rfl rfl ?_);simp[go_sem,e6,k0,k1,k2]
   refine ⟨.inl ⟨rfl,fun A U hU E0 A0=>?_⟩,?_⟩
   ·have e0':=Q07 E0 0 (by kernel_rfl) rfl;refine Q02 rfl (Q12 rfl rfl ?_);simp[go_sem,e0']
   refine ⟨.inr fun A U D hU hV hB E0 hk A0 F1=>?_,?_⟩
   ·have e1:=Q0h (j:=9) (t:=30) rfl ((Q0j rfl).1 (hV 9 (A0 9 (by decide))));have hq:=Qd9 n D X9;have C4:D 19=false:=(by cases N3:D 19;rfl;exact absurd (F1 19 _ rfl N3 10 (by decide)) (by rw[show D 10=false from hk];decide));refine Q0r.enter_ (w:=U) (f:=77) (args:= #[.pointer (some ⟨b,0,none⟩),.int .i64 49]) (by simp[go_sem,e1]) ?_;refine (Qcx b (i+2+Qdd n D) 49 U hB.1 (by omega) (by decide) (by decide)).mono ?_;rintro e w' ⟨⟨y',hy',rfl⟩,Z2,X2⟩;refine ⟨_,rfl,EK.of_deck hB.1 X2 (.inl rfl) (Xe7 H0),(Q00 rfl).2 ⟨(y':Int),by omega,by omega,by rw[Xbo]⟩,Q6e 10 1 hB hk X2 (by omega) Z2 (by unfold Qdd;simp only[Q1x];simp[hk];try omega)⟩
   refine ⟨.inl ⟨rfl,fun A U hU E0 A0=>?_⟩,?_⟩
   ·obtain ⟨k,h1,h2,h3⟩:=(Q00 rfl).1 (A0 10 (by decide));rw[Xbo] at h3;have e31:=Q1o h3;have A7:IntKind.i64.wrap (16+k)=16+k:=(by rw[UY];omega);exact Q02 rfl (Q2y (w':=U) (u:=.int .i64 (16+k)) (by simp[go_sem,e31,A7]) (Ud _ _) ((Q00 rfl).2 ⟨k,h1,h2,rfl⟩))
   refine ⟨.inl ⟨rfl,fun A U hU E0 A0=>?_⟩,?_⟩
   ·have e0':=Q07 E0 0 (by kernel_rfl) rfl;refine Q02 rfl (Q12 rfl rfl ?_);simp[go_sem,e0']
   refine ⟨.inr fun A U D hU hV hB E0 hk A0 F1=>?_,?_⟩
   ·have e1:=Q0h (j:=12) (t:=33) rfl ((Q0j rfl).1 (hV 12 (A0 12 (by decide))));have hq:=Qd9 n D X9;have C4:D 19=false:=(by cases N3:D 19;rfl;exact absurd (F1 19 _ rfl N3 13 (by decide)) (by rw[show D 13=false from hk];decide));refine Q0r.enter_ (w:=U) (f:=77) (args:= #[.pointer (some ⟨b,0,none⟩),.int .i64 3]) (by simp[go_sem,e1]) ?_;refine (Qcx b (i+2+Qdd n D) 3 U hB.1 (by omega) (by decide) (by decide)).mono ?_;rintro e w' ⟨⟨y',hy',rfl⟩,Z2,X2⟩;refine ⟨_,rfl,EK.of_deck hB.1 X2 (.inl rfl) (Xe7 H0),(Q00 rfl).2 ⟨(y':Int),by omega,by omega,by rw[Xbo]⟩,Q6e 13 1 hB hk X2 (by omega) Z2 (by unfold Qdd;simp only[Q1x];simp[hk];try omega)⟩
   refine ⟨.inl ⟨rfl,fun A U hU E0 A0=>?_⟩,?_⟩
   ·obtain ⟨k,h1,h2,h3⟩:=(Q00 rfl).1 (A0 13 (by decide));rw[Xbo] at h3;have e31:=Q1o h3;have A7:IntKind.i64.wrap (2+k)=2+k:=(by rw[UY];omega);exact Q02 rfl (Q2y (w':=U) (u:=.int .i64 (2+k)) (by simp[go_sem,e31,A7]) (Ud _ _) ((Q00 rfl).2 ⟨k,h1,h2,rfl⟩))
   refine ⟨.inl ⟨rfl,fun A U hU E0 A0=>?_⟩,?_⟩
   ·have e0':=Q07 E0 0 (by kernel_rfl) rfl;refine Q02 rfl (Q12 rfl rfl ?_);simp[go_sem,e0']
   refine ⟨.inr fun A U D hU hV hB E0 hk A0 F1=>?_,?_⟩
   ·have e1:=Q0h (j:=15) (t:=36) rfl ((Q0j rfl).1 (hV 15 (A0 15 (by decide))));have hq:=Qd9 n D X9;have C4:D 19=false:=(by cases N3:D 19;rfl;exact absurd (F1 19 _ rfl N3 16 (by decide)) (by rw[show D 16=false from hk];decide));refine Q0r.enter_ (w:=U) (f:=77) (args:= #[.pointer (some ⟨b,0,none⟩),.int .i64 9]) (by simp[go_sem,e1]) ?_;refine (Qcx b (i+2+Qdd n D) 9 U hB.1 (by omega) (by decide) (by decide)).mono ?_;rintro e w' ⟨⟨y',hy',rfl⟩,Z2,X2⟩;refine ⟨_,rfl,EK.of_deck hB.1 X2 (.inl rfl) (Xe7 H0),(Q00 rfl).2 ⟨(y':Int),by omega,by omega,by rw[Xbo]⟩,Q6e 16 1 hB hk X2 (by omega) Z2 (by unfold Qdd;simp only[Q1x];simp[hk];try omega)⟩
   refine ⟨.inl ⟨rfl,fun A U hU E0 A0=>?_⟩,?_⟩
   ·obtain ⟨k,h1,h2,h3⟩:=(Q00 rfl).1 (A0 16 (by decide));rw[Xbo] at h3;have e31:=Q1o h3;have A7:IntKind.i64.wrap (1+k)=1+k:=(by rw[UY];omega);exact Q02 rfl (Q2y (w':=U) (u:=.int .i64 (1+k)) (by simp[go_sem,e31,A7]) (Ud _ _) ((Q00 rfl).2 ⟨k,h1,h2,rfl⟩))
   refine ⟨.inl ⟨rfl,fun A U hU E0 A0=>?_⟩,?_⟩
   ·have e21:=Q11 A0 0 (by decide) rfl rfl rfl;obtain ⟨aB,cB,L,Xf,hB2,hB3⟩:=(Q00 rfl).1 (A0 4 (by decide));obtain ⟨vT,eT,Ym,hT2,hT3,hT4,xT,aT,lT,cT,hT5,hT6,hT7,hT8⟩:=(Q00 rfl).1 (A0 6 (by decide));have e28:=Q11 A0 7 (by decide) rfl rfl rfl;have e29:=Q11 A0 8 (by decide) rfl rfl rfl;obtain ⟨kp,p1,p2,p3⟩:=(Q00 rfl).1 (A0 11 (by decide));obtain ⟨ko,o1,o2,o3⟩:=(Q00 rfl).1 (A0 14 (by decide));obtain ⟨kb,b1,b2,b3⟩:=(Q00 rfl).1 (A0 17 (by decide));have e25:=Q1o Xf;have e27:=Q1o hT5;have e32:=Q1o p3;have e35:=Q1o o3;have e38:=Q1o b3;have hLn:L.length=n:=hB2.len;have hFn:F.length=n:=(Xo5 H0).1;refine Q02 rfl (Q2y (w':=U) (u:=.agg #[.slice fa n fc,.slice aB n cB,.bool xT.neg,.int .i64 xT.exp,.slice aT lT cT,.bool false,.int .i64 e0,.slice ax lx cx,.bool z.neg,.int .i64 z.exp,.slice a7 l7 c7,.int .i64 (16+kp),.int .i64 (2+ko),.int .i64 (1+kb)]) (by simp[go_sem,e21,e25,e27,e28,e29,e32,e35,e38]) (Ud _ _) ((Q00 rfl).2 ⟨⟨⟨fa,n,fc⟩,⟨aB,n,cB⟩,⟨aT,lT,cT⟩,⟨ax,lx,cx⟩,⟨a7,l7,c7⟩⟩,⟨F,L,xT,⟨false,e0,[1]⟩,z,16+kp,2+ko,1+kb⟩,rfl,hU.fld (Xo3 H3),rfl,rfl,hB2,hT6,hU.num (Xo1 H3).2.1,hU.num (Xo2 H3).2.1,?_⟩));have hmv:(⟨false,e0,[1]⟩:Q2u).val=dy 1 e0:=by show dy (sgn false (val (2^64) [1])) e0=dy 1 e0;simp[val,sgn]
    refine ⟨(Xo6 H0),⟨by show 1<=L.length;omega,by show L.length<=4;omega,hB3⟩,by show L.length=F.length;omega,⟨hT7,by rw[hT8];exact Qfz Ym⟩,⟨(Xo1 H3).2.2,by rw[hmv];exact Qfz (v:=1) (by decide)⟩,⟨(Xo2 H3).2.2.1,by rw[(Xo2 H3).2.2.2];exact Qfz (v:=1) (by decide)⟩,by show Q9x z.val _;rw[hmv,(Xo2 H3).2.2.2];exact Quo S3,?_,?_,?_⟩
    ·show 8<=16+kp/\16+kp<=256;omega
    ·show 2<=2+ko/\2+ko<=10;omega
    ·show 1<=1+kb/\1+kb<=4096;omega
   refine ⟨.inr fun A U D hU hV hB E0 hk A0 F1=>?_,trivial⟩
   ·obtain ⟨p,x,hu,h2,h3,h4,h5,h6,h7,h8,h9⟩:=(Q00 rfl).1 (hV 18 (A0 18 (by decide)));have hZ:=hB.2;rw[Uq (by rw[show D 19=false from hk];decide)] at hZ;obtain ⟨k0,k1,k2,k3,k4,k5,k6,k7,k8,k9,k10,k11,k12,k13⟩:=Q05 hZ.c;obtain ⟨f0,f1,f2,f3,f4,f5,f6,f7,f8,f9,f10,f11,f12,f13⟩:=Qkj hZ (by decide);have e4:=Q07 E0 4 (by kernel_rfl) rfl;have e39:=Q0h (j:=18) (t:=39) rfl hu;simp only[Q2e] at e39;obtain ⟨V,WP,hO,hbl9,KA⟩:=Qd0 (.slice p.f.a p.f.l p.f.c) (.slice p.b.a p.b.l p.b.c) (.bool x.til.neg) (.int .i64 x.til.exp) (.slice p.t.a p.t.l p.t.c) (.bool x.most.neg) (.int .i64 x.most.exp) (.slice p.m.a p.m.l p.m.c) (.bool x.least.neg) (.int .i64 x.least.exp) (.slice p.e.a p.e.l p.e.c) (.int .i64 x.prec) (.int .i64 x.order) (.int .i64 x.budget) hZ (Ud w.heap.size U) (Ue _);have hE:=EK.of_only (fp:=fun k=>k=b∨k=w.heap.size) (fa:=fa) (fl:=n) (fc:=fc) (F:=F) hO Q7q ⟨KA.os,KA.tape,KA.output⟩ (.inr rfl) (fun y hy he=>by
     rcases (Xo5 H0).2.2.2 with h0|⟨b0,o0,hb0',C0,_⟩
     ·have:=(Xo6 H0).1;rw[h0] at this;simp at this
     ·rw[hb0'] at hy;injection hy with hy;subst hy
      have he:b0=w.heap.size:=he;omega)
    refine Q0r.skip_ (w':=V) (by rw[<-WP];unfold Qfu;simp[go_sem,e4,e39,k0,k1,k2,k3,k4,k5,k6,k7,k8,k9,k10,k11,k12,k13,f0,f1,f2,f3,f4,f5,f6,f7,f8,f9,f10,f11,f12,f13]) ⟨hE,(Q00 rfl).2 trivial,?_,?_⟩
    ·have hc:Qdd n (Q1x D 19)=Qdd n D:=(by unfold Qdd;simp only[Q1x];simp);rw[hc];exact hB.1.turn (fp:=fun k=>k=w.heap.size) ⟨KA.os,KA.tape,KA.output,hO.size,fun k hk hn=>hO.block k hk hn⟩ (fun k hk e=>by omega)
    ·rw[Uu (Q27 _ _)];exact ⟨p,x,hbl9,⟨by rw[h3,h4];exact hE.fld h2,(hE.box h5 (fun k hk=>by omega)).boxIn,hE.num h6,hE.num h7,hE.num h8⟩,h9,⟨h3,h4⟩,(hE.box h5 (fun k hk=>by omega)).lower (by omega)⟩
  ·intro D vs U hD hC hV hB;obtain ⟨C8,A2⟩:=hB;rw[Uu (hD 19 (by decide))] at A2;obtain ⟨p,x,hZ,hP,hR,Z9,Vr⟩:=A2;obtain ⟨c0,c1,c2,c3,c4,c5,c6,c7,c8,c9,c10,c11,c12,c13⟩:=Q05 hZ.c;have hT:Q0l (·=b) w U:=(Xe5 H3).trans hC.turn (fun k hk h=>by omega);have HE:=Xh4 hP (And.intro hR (And.intro Z9 (Vr.lower (Xar _)))) C8 hT;clear hP hR C8 hT Z9 Vr hZ hC hV hD;simp only[Q0t,Act.put,Um,Ux,Ut]
   go_wp2_with fail
   exact ⟨rfl,.agg (Q2e p x).toArray,by simp[results,go_sem,Q2e,c0,c1,c2,c3,c4,c5,c6,c7,c8,c9,c10,c11,c12,c13],⟨p,x,rfl,(Xo0 HE),(Xo1 HE)⟩,⟨_,(Xo2 HE)⟩,(Xe3 HE)⟩
theorem Q6r.only {w w':World} {b:Nat} {vs:LV} (h:Qdc w w' b vs) (ho:Odd vs) {a:OA} {n c:Nat} {B:List IvV} (hB:Q6r w a n c B) (ha:∀x,a=some x->x.block≠b):Q6r w' a n c B:=by
 obtain ⟨h1,h2,h3,h4⟩:=hB;refine ⟨h1,h2,h3,h4.imp id fun ⟨g,o,e,hg,hc⟩=>⟨g,o,e,Uc hg h.size,fun j x hx=>?_⟩⟩;have hn:g≠b:=ha _ e;obtain ⟨a1,l1,c1,a2,l2,c2,⟨k0,k1,k2,k3,k4,k5⟩,h6,h7⟩:=hc j x hx;exact ⟨a1,l1,c1,a2,l2,c2,⟨h.cell k0 hn,h.cell k1 hn,h.cell k2 hn,h.cell k3 hn,h.cell k4 hn,h.cell k5 hn⟩,h6.only h ho,h7.only h ho⟩
structure Qiq [LT ZK] (w wx:World) (B g R3:Nat) (p:Qfg) (x:Q33):Prop where
 c:Q2x wx g (Q2e p x)
 z:Blk wx B zpL
 i:Q2j wx p x
 f:∀y,p.f.a=some y->y.block≠B
 b:∀y,p.b.a=some y->y.block≠B
 r:R3=15->Q1h x
 w:Below B w wx
theorem Qiq.fin [LT ZK] [Nonempty (PLift Zz)] {w wx:World} {B g R3:Nat} {p:Qfg} {x:Q33} (h:Qiq w wx B g R3 p x):∃V,Qfu wx B (.slice p.f.a p.f.l p.f.c) (.slice p.b.a p.b.l p.b.c) (.bool x.til.neg) (.int .i64 x.til.exp) (.slice p.t.a p.t.l p.t.c) (.bool x.most.neg) (.int .i64 x.most.exp) (.slice p.m.a p.m.l p.m.c) (.bool x.least.neg) (.int .i64 x.least.exp) (.slice p.e.a p.e.l p.e.c) (.int .i64 x.prec) (.int .i64 x.order) (.int .i64 x.budget)=V/\Q2x V B (Q2e p x)/\Q2j V p x/\Below B w V:=by
 obtain ⟨V,WP,hO,hz9,N3⟩:=Qd0 (.slice p.f.a p.f.l p.f.c) (.slice p.b.a p.b.l p.b.c) (.bool x.til.neg) (.int .i64 x.til.exp) (.slice p.t.a p.t.l p.t.c) (.bool x.most.neg) (.int .i64 x.most.exp) (.slice p.m.a p.m.l p.m.c) (.bool x.least.neg) (.int .i64 x.least.exp) (.slice p.e.a p.e.l p.e.c) (.int .i64 x.prec) (.int .i64 x.order) (.int .i64 x.budget) h.z h.w (Ue _);exact ⟨V,WP,hz9.c,⟨h.i.f.only hO Q7q h.f,h.i.b.only hO Q7q h.b,h.i.t.only hO Q7q,h.i.m.only hO Q7q,h.i.e.only hO Q7q⟩,N3⟩
theorem Qup {W W7:World} {B g:Nat} {p:Pl} {y:IvV} {r:List IvV} (h:Q1q W B p (y::r)) (hg:p.a=some ⟨g,0,none⟩) (ht:Q0l (·=g) W W7) (hc:∀i,6<=i->W7.cell? ⟨g,i,none⟩=W.cell? ⟨g,i,none⟩) {a b:OA} {l c m d:Nat} (n6:Q0f W a l c y.lo) (n7:Q0f W b m d y.hi)
 (h0:W7.cell? ⟨g,0,none⟩=some (.bool y.hi.neg)) (h1:W7.cell? ⟨g,1,none⟩=some (.int .i64 y.hi.exp)) (h2:W7.cell? ⟨g,2,none⟩=some (.slice b m d)) (h3:W7.cell? ⟨g,3,none⟩=some (.bool y.lo.neg)) (h4:W7.cell? ⟨g,4,none⟩=some (.int .i64 y.lo.exp)) (h5:W7.cell? ⟨g,5,none⟩=some (.slice a l c)):
 (∀a l c x,Q0f W a l c x->Q0f W7 a l c x)/\Q6r W7 p.a p.l p.c (⟨y.hi,y.lo⟩::r):=by
 have K1:∀a l c x,Q0f W a l c x->Q0f W7 a l c x:=fun a l c x hx=>by
  obtain ⟨xs,hr⟩:=h.row;exact ⟨hx.lie.turn (hr.off hx.lie) ht (fun k e=>⟨_,hg,e.symm⟩),hx.lo,hx.hi⟩
 refine ⟨K1,?_⟩;obtain ⟨e1,e2,e3,_⟩:=h.boxIn;refine ⟨by rw[<-e1];rfl,e2,e3,.inr ⟨g,0,hg,Uc (h.lt hg).2 ht.size,fun j x hx=>?_⟩⟩;cases j with
 |zero=>
  simp only[UO,Un] at hx;subst hx;rw[TQ,UH];exact ⟨b,m,d,a,l,c,⟨h0,h1,h2,h3,h4,h5⟩,K1 _ _ _ _ n7,K1 _ _ _ _ n6⟩
 |succ j=>
  obtain ⟨g2,Q2,a2,l2,c2,b2,m2,d2,⟨k0,k1,k2,k3,k4,k5⟩,k6,k7⟩:=h.ent (j+1) x hx;rw[hg] at Q2;injection Q2 with Q2;injection Q2 with Q2;subst Q2;rw[UH];exact ⟨a2,l2,c2,b2,m2,d2,⟨(hc _ (by omega)).trans k0,(hc _ (by omega)).trans k1,(hc _ (by omega)).trans k2,(hc _ (by omega)).trans k3,(hc _ (by omega)).trans k4,(hc _ (by omega)).trans k5⟩,K1 _ _ _ _ k6,K1 _ _ _ _ k7⟩
theorem Q1q.head {W:World} {B:Nat} {p:Pl} {y:IvV} {r:List IvV} (h:Q1q W B p (y::r)):∃g a l c b m d,p.a=some ⟨g,0,none⟩/\B<=g/\g<W.heap.size/\(W.cell? ⟨g,0,none⟩=some (.bool y.lo.neg)/\W.cell? ⟨g,1,none⟩=some (.int .i64 y.lo.exp)/\W.cell? ⟨g,2,none⟩=some (.slice a l c)/\W.cell? ⟨g,3,none⟩=some (.bool y.hi.neg)/\W.cell? ⟨g,4,none⟩=some (.int .i64 y.hi.exp)/\W.cell? ⟨g,5,none⟩=some (.slice b m d))/\Q0f W a l c y.lo/\Q0f W b m d y.hi/\∀i,i<6->W.frozen? ⟨g,i,none⟩=false:=by
 obtain ⟨g,hg,a,l,c,b,m,d,hc,h6,h7⟩:=h.ent 0 y rfl;rw[TQ] at hc;obtain ⟨xs,hr⟩:=h.row;have hl:=h.lt hg;have P2:0<p.l:=by rw[<-h.len];exact Nat.succ_pos _
 rw[hg] at hr;exact ⟨g,a,l,c,b,m,d,hg,hl.1,hl.2,by simpa using hc,h6,h7,fun i _=>hr.1.frozen0 i⟩
theorem Qyo {W W7:World} {g:Nat} {u0 u1 u2 u3 u4 u5:Value} (q0:W.cell? ⟨g,0,none⟩=some u0) (q1:W.cell? ⟨g,1,none⟩=some u1) (q2:W.cell? ⟨g,2,none⟩=some u2) (q3:W.cell? ⟨g,3,none⟩=some u3) (q4:W.cell? ⟨g,4,none⟩=some u4) (q5:W.cell? ⟨g,5,none⟩=some u5) (v0 v1 v2 v3 v4 v5:Value)
 (hW:((((((W.setCell ⟨g,0,none⟩ v0).setCell ⟨g,1,none⟩ v1).setCell ⟨g,2,none⟩ v2).setCell ⟨g,3,none⟩ v3).setCell ⟨g,4,none⟩ v4).setCell ⟨g,5,none⟩ v5).drew=W7):
 Q0l (·=g) W W7/\(∀i,6<=i->W7.cell? ⟨g,i,none⟩=W.cell? ⟨g,i,none⟩)/\W7.cell? ⟨g,0,none⟩=some v0/\W7.cell? ⟨g,1,none⟩=some v1/\W7.cell? ⟨g,2,none⟩=some v2/\W7.cell? ⟨g,3,none⟩=some v3/\W7.cell? ⟨g,4,none⟩=some v4/\W7.cell? ⟨g,5,none⟩=some v5:=by
 have other:∀(V:World) (i j:Nat) (v:Value),i≠j->(V.setCell ⟨g,i,none⟩ v).cell? ⟨g,j,none⟩=V.cell? ⟨g,j,none⟩:=fun V i j v h=>Uf _ _ _ _ (by intro e;injection e with _ e;exact h e);have same:∀(V:World) (i:Nat) (v:Value),(V.cell? ⟨g,i,none⟩).isSome=true->(V.setCell ⟨g,i,none⟩ v).cell? ⟨g,i,none⟩=some v:=fun V i v h=>UF _ _ _ h;subst hW;simp only[World.cell?_drew];refine ⟨((((((Q0l.setCell (·=g) W (p:=⟨g,0,none⟩) rfl v0).trans0 (Q0l.setCell (·=g) _ (p:=⟨g,1,none⟩) rfl v1)).trans0 (Q0l.setCell (·=g) _ (p:=⟨g,2,none⟩) rfl v2)).trans0 (Q0l.setCell (·=g) _ (p:=⟨g,3,none⟩) rfl v3)).trans0 (Q0l.setCell (·=g) _ (p:=⟨g,4,none⟩) rfl v4)).trans0 (Q0l.setCell (·=g) _ (p:=⟨g,5,none⟩) rfl v5)).drew,fun i hi=>?_,?_,?_,?_,?_,?_,?_⟩
 ·rw[other _ 5 i _ (by omega),other _ 4 i _ (by omega),other _ 3 i _ (by omega),other _ 2 i _ (by omega),other _ 1 i _ (by omega),other _ 0 i _ (by omega)]
 all_goals
  repeat rw[other _ _ _ _ (by decide)]
  refine same _ _ _ ?_
  repeat rw[other _ _ _ _ (by decide)]
  simp only[q0,q1,q2,q3,q4,q5,Option.isSome_some]
end Go.Proofs.YtidojbkhlenahaaGreatDoor
