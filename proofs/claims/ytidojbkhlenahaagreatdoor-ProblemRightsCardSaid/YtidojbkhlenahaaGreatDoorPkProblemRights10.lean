/- Part 10. No condition. -/
import Derived.DeepKeys4
import Derived.Maps.Keyed
import Derived.Maps.OwnSet
import Derived.Maps.Views
import Derived.Test.YtidojbkhlenahaaGreatDoorPkProblemRights09
set_option maxRecDepth 100000
set_option maxHeartbeats 16000000
namespace Go.Proofs.YtidojbkhlenahaaGreatDoor
open Go.RowKit WordsM
theorem Qf7 {x y:IvV}:x=y↔x.lo=y.lo/\x.hi=y.hi:=⟨fun e=>by subst e;exact ⟨rfl,rfl⟩,fun ⟨h1,h2⟩=>by cases x;cases y;simp at h1 h2;subst h1 h2;rfl⟩
theorem Q9o {w:World} {b:Nat} {v0 v1 v2 v3 v4 v5:Value} (h:Q3h w b [v0,v1,v2,v3,v4,v5]):
 w.cell? ⟨b,0,none⟩=some v0/\w.cell? ⟨b,1,none⟩=some v1/\w.cell? ⟨b,2,none⟩=some v2/\w.cell? ⟨b,3,none⟩=some v3/\w.cell? ⟨b,4,none⟩=some v4/\w.cell? ⟨b,5,none⟩=some v5:=
 ⟨h 0 _ rfl,h 1 _ rfl,h 2 _ rfl,h 3 _ rfl,h 4 _ rfl,h 5 _ rfl⟩
theorem Q7s {w W:World} (xs ys:LV) (T:TypeId) (hW:(w.alloc (.cells xs.toArray T)).alloc (.cells ys.toArray T)=W):Q3h W w.heap.size xs/\Q3h W (w.heap.size+1) ys/\Bw w W/\W.heap.size=w.heap.size+2:=by
 have h1:(w.alloc (.cells xs.toArray T)).heap.size=w.heap.size+1:=Uk _ _;have h2:=Q3h.new w xs T;have h3:=Q3h.new (w.alloc (.cells xs.toArray T)) ys T;have A0:Bw w (w.alloc (.cells xs.toArray T)):=Ba;generalize w.alloc (.cells xs.toArray T)=V at*;have D0:Bw V (V.alloc (.cells ys.toArray T)):=Ba;rw[hW] at h3 D0;rw[h1] at h3;refine ⟨h2.step D0 (by omega),h3,Below.next0 A0 D0,?_⟩;rw[<-hW,Uk,h1]
theorem Qd9 {w:World} {a:OA} {n c i:Nat} {B:List IvV} {x:IvV} (h:Q86 w a n c B) (hx:B[i]?=some x):∃b o,a=some ⟨b,o,none⟩/\b<w.heap.size/\Quz w b (o+i*6) x:=by
 rcases h.2.2.2 with h0|⟨b,o,h1,h2,h3⟩
 ·rw[h0] at hx;simp at hx
 ·exact ⟨b,o,h1,h2,h3 i x hx⟩
theorem Qom (x y:IvV) (p q r s:Pl) (w:World) (h1:Q0i w p.a p.l p.c x.lo) (h2:Q0i w q.a q.l q.c x.hi) (h3:Q0i w r.a r.l r.c y.lo) (h4:Q0i w s.a s.l s.c y.hi):
 Calls Tryz.prog 62 #[.agg #[.bool x.lo.neg,.int .i64 x.lo.exp,.slice p.a p.l p.c,.bool x.hi.neg,.int .i64 x.hi.exp,.slice q.a q.l q.c],.agg #[.bool y.lo.neg,.int .i64 y.lo.exp,.slice r.a r.l r.c,.bool y.hi.neg,.int .i64 y.hi.exp,.slice s.a s.l s.c]] w fun r w'=>Q09 (x=y) r/\Bw w w':=by
 obtain ⟨W0,E1⟩:∃W0,(w.alloc (.cells #[.bool x.lo.neg,.int .i64 x.lo.exp,.slice p.a p.l p.c,.bool x.hi.neg,.int .i64 x.hi.exp,.slice q.a q.l q.c] 44)).alloc (.cells #[.bool y.lo.neg,.int .i64 y.lo.exp,.slice r.a r.l r.c,.bool y.hi.neg,.int .i64 y.hi.exp,.slice s.a s.l s.c] 44)=W0:=⟨_,rfl⟩;obtain ⟨hX,hY,Z0,Y1⟩:=Q7s [.bool x.lo.neg,.int .i64 x.lo.exp,.slice p.a p.l p.c,.bool x.hi.neg,.int .i64 x.hi.exp,.slice q.a q.l q.c] [.bool y.lo.neg,.int .i64 y.lo.exp,.slice r.a r.l r.c,.bool y.hi.neg,.int .i64 y.hi.exp,.slice s.a s.l s.c] 44 E1;obtain ⟨b1,e1⟩:∃b,yesB (x.lo=y.lo)=b:=⟨_,rfl⟩;obtain ⟨b2,e2⟩:∃b,yesB (x.hi=y.hi)=b:=⟨_,rfl⟩;have i4:b1=false->¬x=y:=fun h e=>by rw[Q0b.2 (Qf7.1 e).1] at e1;rw[<-e1] at h;cases h
 have QQ:b1=true->(b2=true↔x=y):=fun h=>by
  rw[<-e2,Q0b];exact ⟨fun h2=>Qf7.2 ⟨Q0b.1 (e1.trans h),h2⟩,fun e=>(Qf7.1 e).2⟩
 have HC:=Ua (fun V (hV:Bw W0 V)=>have hb:=Below.next0 Z0 hV;And.intro (hX.step hV (by omega)) (And.intro (hY.step hV (by omega)) (And.intro (yn1 (Q47 x.lo y.lo p.a r.a p.l p.c r.l r.c V (h1.step hb) (h3.step hb)) e1) (yn1 (Q47 x.hi y.hi q.a s.a q.l q.c s.l s.c V (h2.step hb) (h4.step hb)) e2))));have HB:=Xh3 Z0 i4 QQ;obtain ⟨k0,k1,k2,k3,k4,k5⟩:=Q9o hX;obtain ⟨l0,l1,l2,l3,l4,l5⟩:=Q9o hY;clear hX hY Z0 Y1 h1 h2 h3 h4 i4 QQ e1 e2;cases b1
 all_goals
  go_enter Tryz.func62,Tryz.ntmps62
  go_upto_region 1 with fail
  clear E1
  go_wp2_with (first
   |(go_at_call_of 30 (Value.agg #[.bool x.lo.neg,.int .i64 x.lo.exp,.slice p.a p.l p.c]);refine (HC.out W0 (Uc _ _)).2.2.1.mono ?_;rintro e w1 ⟨rfl,hb⟩;have H1:=Ua hb;have hq:=HC.out w1 hb;obtain ⟨k0,k1,k2,k3,k4,k5⟩:=Q9o hq.1;obtain ⟨l0,l1,l2,l3,l4,l5⟩:=Q9o hq.2.1;clear hq hb)
   |(refine (HC.out w1 H1.out).2.2.2.mono ?_;rintro e w2 ⟨rfl,hb⟩;have H2:=Ua (Below.next0 H1.out hb);clear hb))
  go_ret
 ·exact ⟨Q09.no ((Xo1 HB) (by trivial)) rfl,Below.next0 (Xo0 HB) H1.out⟩
 ·exact ⟨Q09.of ((Xe2 HB) (by trivial)) rfl,Below.next0 (Xo0 HB) H2.out⟩
theorem Qon (a b:OA) (n c m d:Nat) (B D:List IvV) (w:World) (h1:Q86 w a n c B) (h2:Q86 w b m d D):
 Calls Tryz.prog 61 #[.slice a n c,.slice b m d,.func (.func 62) #[] #[]] w fun r w'=>Q09 (B=D) r/\Bw w w':=by
 have Q2:=h1.1;have x6:=h2.1;have R2:=Ul h1.2.1 h1.2.2.1;have Zm:=Ul h2.2.1 h2.2.2.1;have H:=Xh2 h1 h2;clear h1 h2
 by_cases ZT:n=m
 case neg=>
  have A8:¬(n:Int)=(m:Int):=by omega
  go_enter Tryz.func61,Tryz.ntmps61
  go_wp2_with fail
  go_ret;exact ⟨Q09.no (Qd8 Q2 x6 A8) rfl,Uc _ _⟩
 case pos=>
 subst ZT
 go_enter Tryz.func61,Tryz.ntmps61
 go_wp2_with fail
 go_loopw [15] (fun s15 wr=>∃i:Nat,s15=.int .i64 (i:Int)/\i<=n/\(∀j,j<i->B[j]?=D[j]?)/\Bw w wr) (fun iv _=>n-(intOf iv).toNat)
 case atStart=>exact ⟨0,rfl,Ut _,fun j hj=>absurd hj (Tk _),Uc _ _⟩
 case round=>
  obtain ⟨i,rfl,hi,hq,M0⟩:=hrel
  by_cases E0:i<n
  ·have F0:(i:Int)<(n:Int):=(by omega);obtain ⟨x,hx⟩:∃x,B[i]?=some x:=⟨_,Ub (by omega)⟩;obtain ⟨y,hy⟩:∃x,D[i]?=some x:=⟨_,Ub (by omega)⟩;obtain ⟨b1,o1,rfl,A0,pa,pl,pc,qa,ql,qc,hk,A5,o4⟩:=Qd9 ((Xo0 H).step M0) hx;obtain ⟨b2,o2,rfl,D0,ra,rl,rc,sa,sl,sc,hl,hn3,Qx⟩:=Qd9 ((Xe1 H).step M0) hy;obtain ⟨bb,Y2⟩:∃b,yesB (x=y)=b:=⟨_,rfl⟩;have HC:=Xh3 (fun (W:World) (hB:Bw wr W)=>And.intro (fun (j:Nat) v (h:wr.cell? ⟨b1,j,none⟩=some v)=>(hB.cell (p:=⟨b1,j,none⟩) A0).trans h) (And.intro (fun (j:Nat) v (h:wr.cell? ⟨b2,j,none⟩=some v)=>(hB.cell (p:=⟨b2,j,none⟩) D0).trans h) (yn1 (Qom x y ⟨pa,pl,pc⟩ ⟨qa,ql,qc⟩ ⟨ra,rl,rc⟩ ⟨sa,sl,sc⟩ W (A5.step hB) (o4.step hB) (hn3.step hB) (Qx.step hB)) Y2))) hk hl;have HS:=Xh5 M0 hq hx hy Y2;clear hk hl M0 A5 o4 hn3 Qx hx hy hq Y2
   go_upto_region 6 with fail
   refine Q06 (E:=Q8a) (fun _=>Uc _ _) (by kernel_rfl) (fun W=>Bw wr W) (fun _ _ h h'=>Below.next0 h h') (Q40 [.func (.func 62) #[] #[],.slice (some ⟨b1,o1,none⟩) n c,.int .i64 (i:Int),.pointer (some ⟨b1,o1+i*6,none⟩),.agg #[.bool x.lo.neg,.int .i64 x.lo.exp,.slice pa pl pc,.bool x.hi.neg,.int .i64 x.hi.exp,.slice qa ql qc],.slice (some ⟨b2,o2,none⟩) n d,.int .i64 (i:Int),.pointer (some ⟨b2,o2+i*6,none⟩),.agg #[.bool y.lo.neg,.int .i64 y.lo.exp,.slice ra rl rc,.bool y.hi.neg,.int .i64 y.hi.exp,.slice sa sl sc],.bool bb,.bool (!bb)] (Q1h [])) (Q0c (Q0h ((fun p hp=>by cases hp)))) (Q0w (by kernel_rfl)) (by kernel_rfl) (Q01 wr) ?_ ?_
   ·skip
    repeat' (first|exact Q8n|refine Q8m ?_ ?_)
    all_goals
     refine Q1u rfl fun A W hW G0 hd hd=>?_;simp[Q7q,Region.binds,Q1h] at hd;have e0:=Q0d G0 0 (by kernel_rfl) rfl;have e1:=Q0d G0 1 (by kernel_rfl) rfl;have e2:=Q0d G0 2 (by kernel_rfl) rfl;have e7:=Q0d G0 7 (by kernel_rfl) rfl;obtain ⟨hk,hl,G2⟩:=(Xo0 HC) W hW;obtain ⟨⟨k0,k1,k2,k3,k4,k5⟩,l0,l1,l2,l3,l4,l5⟩:=(Xe1 HC)
     first
     |(refine Q2x rfl rfl ?_;simp[go_sem,hd,e0,e1,e2,e7,F0,hk _ _ k0,hk _ _ k1,hk _ _ k2,hk _ _ k3,hk _ _ k4,hk _ _ k5,hl _ _ l0,hl _ _ l1,hl _ _ l2,hl _ _ l3,hl _ _ l4,hl _ _ l5];done)
     |(refine Q29 rfl rfl ?_ G2;simp[go_sem,hd];done)
   intro vs W1 I1 K2;have HB:=Ua I1;have e10:vs 10=.bool (!bb):=(Q0f rfl).1 (K2 10 (by decide));simp only[Q0r,Act.put,Ur,Ux,Uv,e10];clear I1 K2 e10;cases bb
   ·go_wp2_with fail
    go_ret;exact ⟨Q09.no (Q6w (Xo2 HS) (Xo3 HS) fun e=>by have:=(Xe4 HS);rw[Q0b.2 e] at this;cases this) rfl,Below.next0 (Xo0 HS) HB.out⟩
   ·go_wp2_with fail
    have e:=Q0b.1 (Xe4 HS);exact ⟨⟨i+1,congrArg (Value.int .i64) (by omega),by omega,Q5g (Xo1 HS) (Xo2 HS) (by rw[e];exact (Xo3 HS)),Below.next0 (Xo0 HS) HB.out⟩,by simp only[intOf];omega⟩
  ·have F0:¬(i:Int)<(n:Int):=(by omega);have HS:=Xh2 M0 (Q5f Q2 x6 fun j hj=>hq j (by omega));clear M0 hq
   go_wp2_with fail
   go_ret;exact ⟨Q09.yes (Xe1 HS) rfl,(Xo0 HS)⟩
theorem Ql7 (a b:OA) (n c m d:Nat) (B D:List IvV) (w:World) (h1:Q86 w a n c B) (h2:Q86 w b m d D):
 Calls Tryz.prog 29 #[.slice a n c,.slice b m d] w fun r w'=>Q09 (B=D) r/\Bw w w':=by
 obtain ⟨bb,Y2,hc⟩:=yn (Qon a b n c m d B D w h1 h2);have HB:=Ua Y2;clear h1 h2 Y2
 go_enter Tryz.func29,Tryz.ntmps29
 go_wp2_with (go_at_call 61;refine hc.mono ?_;rintro r w1 ⟨rfl,hb⟩)
 go_ret;exact ⟨Q09.of HB.out rfl,hb⟩
theorem Q1x {x y:Q33}:x=y↔x.field=y.field/\x.box=y.box/\x.til=y.til/\x.most=y.most/\x.least=y.least/\x.prec=y.prec/\x.order=y.order/\x.budget=y.budget:=by
 refine ⟨fun e=>by subst e;exact ⟨rfl,rfl,rfl,rfl,rfl,rfl,rfl,rfl⟩,fun ⟨h1,h2,h3,h4,h5,h6,h7,h8⟩=>?_⟩;cases x;cases y;simp only at h1 h2 h3 h4 h5 h6 h7 h8;subst h1 h2 h3 h4 h5 h6 h7 h8;rfl
theorem Qip (b1 b2 b3 b4 b5:Bool) (p q r:Prop):b1=false∨(b1=true/\b2=false)∨(b1=true/\b2=true/\b3=false)∨(b1=true/\b2=true/\b3=true/\b4=false)∨(b1=true/\b2=true/\b3=true/\b4=true/\b5=false)∨(b1=true/\b2=true/\b3=true/\b4=true/\b5=true/\¬p)∨(b1=true/\b2=true/\b3=true/\b4=true/\b5=true/\p/\¬q)∨(b1=true/\b2=true/\b3=true/\b4=true/\b5=true/\p/\q/\¬r)∨(b1=true/\b2=true/\b3=true/\b4=true/\b5=true/\p/\q/\r):=by
 by_cases p <;> by_cases q <;> by_cases r <;> cases b1 <;> cases b2 <;> cases b3 <;> cases b4 <;> cases b5 <;> simp_all
theorem Q7t [LT ZK] (x y:Q33) (p q:Qgo) (w:World) (h1:Q2g w p x) (h2:Q2g w q y):
 Calls Tryz.prog 11 #[.agg (Q46 p x).toArray,.agg (Q46 q y).toArray] w fun r w'=>Q09 (x=y) r/\Bw w w':=by
 obtain ⟨⟨pfa,pfl,pfc⟩,⟨pba,pbl,pbc⟩,⟨pta,ptl,ptc⟩,⟨pma,pml,pmc⟩,⟨pea,pel,pec⟩⟩:=p;obtain ⟨⟨qfa,qfl,qfc⟩,⟨qba,qbl,qbc⟩,⟨qta,qtl,qtc⟩,⟨qma,qml,qmc⟩,⟨qea,qel,qec⟩⟩:=q;obtain ⟨F,B,⟨tn,te,ts⟩,⟨mn,me,ms⟩,⟨en,ee,es⟩,prec,order,budget⟩:=x;obtain ⟨G,D,⟨un,ue,us⟩,⟨nn,ne,ns⟩,⟨fn,fe,fs⟩,prec2,order2,budget2⟩:=y;simp only[Q46];obtain ⟨W0,E1⟩:∃W0,(w.alloc (.cells #[.slice pfa pfl pfc,.slice pba pbl pbc,.bool tn,.int .i64 te,.slice pta ptl ptc,.bool mn,.int .i64 me,.slice pma pml pmc,.bool en,.int .i64 ee,.slice pea pel pec,.int .i64 prec,.int .i64 order,.int .i64 budget] 28)).alloc (.cells #[.slice qfa qfl qfc,.slice qba qbl qbc,.bool un,.int .i64 ue,.slice qta qtl qtc,.bool nn,.int .i64 ne,.slice qma qml qmc,.bool fn,.int .i64 fe,.slice qea qel qec,.int .i64 prec2,.int .i64 order2,.int .i64 budget2] 28)=W0:=⟨_,rfl⟩;obtain ⟨hX,hY,Z0,Y1⟩:=Q7s [.slice pfa pfl pfc,.slice pba pbl pbc,.bool tn,.int .i64 te,.slice pta ptl ptc,.bool mn,.int .i64 me,.slice pma pml pmc,.bool en,.int .i64 ee,.slice pea pel pec,.int .i64 prec,.int .i64 order,.int .i64 budget] [.slice qfa qfl qfc,.slice qba qbl qbc,.bool un,.int .i64 ue,.slice qta qtl qtc,.bool nn,.int .i64 ne,.slice qma qml qmc,.bool fn,.int .i64 fe,.slice qea qel qec,.int .i64 prec2,.int .i64 order2,.int .i64 budget2] 28 E1;obtain ⟨b1,e1⟩:∃b,yesB (F=G)=b:=⟨_,rfl⟩;obtain ⟨b2,e2⟩:∃b,yesB (B=D)=b:=⟨_,rfl⟩;obtain ⟨b3,e3⟩:∃b,yesB ((⟨tn,te,ts⟩:Q39)=⟨un,ue,us⟩)=b:=⟨_,rfl⟩;obtain ⟨b4,e4⟩:∃b,yesB ((⟨mn,me,ms⟩:Q39)=⟨nn,ne,ns⟩)=b:=⟨_,rfl⟩;obtain ⟨b5,e5⟩:∃b,yesB ((⟨en,ee,es⟩:Q39)=⟨fn,fe,fs⟩)=b:=⟨_,rfl⟩;have HC:=Ua (fun V (hV:Bw W0 V)=>have hb:=Below.next0 Z0 hV;have g1:=h1.step hb;have g2:=h2.step hb;And.intro (hX.step hV (by omega)) (And.intro (hY.step hV (by omega)) (And.intro (yn1 (Qgq _ _ _ _ _ _ _ _ V g1.f g2.f) e1) (And.intro (yn1 (Ql7 _ _ _ _ _ _ _ _ V g1.b g2.b) e2) (And.intro (yn1 (Q47 _ _ _ _ _ _ _ _ V g1.t g2.t) e3) (And.intro (yn1 (Q47 _ _ _ _ _ _ _ _ V g1.m g2.m) e4) (yn1 (Q47 _ _ _ _ _ _ _ _ V g1.e g2.e) e5)))))));have HB:=Ua Z0;have HE:=Xh5 e1 e2 e3 e4 e5;obtain ⟨k0,k1,k2,k3,k4,k5,k6,k7,k8,k9,k10,k11,k12,k13⟩:=Q04 hX;obtain ⟨l0,l1,l2,l3,l4,l5,l6,l7,l8,l9,l10,l11,l12,l13⟩:=Q04 hY;have key:=Qip b1 b2 b3 b4 b5 (prec=prec2) (order=order2) (budget=budget2);clear hX hY Z0 Y1 h1 h2 e1 e2 e3 e4 e5;rcases key with rfl|⟨rfl,rfl⟩|⟨rfl,rfl,rfl⟩|⟨rfl,rfl,rfl,rfl⟩|⟨rfl,rfl,rfl,rfl,rfl⟩|⟨rfl,rfl,rfl,rfl,rfl,hx⟩|⟨rfl,rfl,rfl,rfl,rfl,rfl,hx⟩|⟨rfl,rfl,rfl,rfl,rfl,rfl,rfl,hx⟩|⟨rfl,rfl,rfl,rfl,rfl,rfl,rfl,rfl⟩
 all_goals
  try (have D9:(budget==budget2)=false:=by simpa using hx)
  go_enter Tryz.func11,Tryz.ntmps11
  go_upto_region 1 with fail
  clear E1
  go_wp2_with (first
   |(go_at_call 28;refine (HC.out W0 (Uc _ _)).2.2.1.mono ?_;rintro e w1 ⟨rfl,hb⟩;have H1:=Ua hb;have hq:=HC.out w1 H1.out;obtain ⟨k0,k1,k2,k3,k4,k5,k6,k7,k8,k9,k10,k11,k12,k13⟩:=Q04 hq.1;obtain ⟨l0,l1,l2,l3,l4,l5,l6,l7,l8,l9,l10,l11,l12,l13⟩:=Q04 hq.2.1;clear hq hb)
   |(go_at_call 29;refine (HC.out w1 H1.out).2.2.2.1.mono ?_;rintro e w2 ⟨rfl,hb⟩;have H2:=Ua (Below.next0 H1.out hb);have hq:=HC.out w2 H2.out;obtain ⟨k0,k1,k2,k3,k4,k5,k6,k7,k8,k9,k10,k11,k12,k13⟩:=Q04 hq.1;obtain ⟨l0,l1,l2,l3,l4,l5,l6,l7,l8,l9,l10,l11,l12,l13⟩:=Q04 hq.2.1;clear hq hb)
   |(go_at_call_of 30 (Value.agg #[.bool tn,.int .i64 te,.slice pta ptl ptc]);refine (HC.out w2 H2.out).2.2.2.2.1.mono ?_;rintro e w3 ⟨rfl,hb⟩;have H3:=Ua (Below.next0 H2.out hb);have hq:=HC.out w3 H3.out;obtain ⟨k0,k1,k2,k3,k4,k5,k6,k7,k8,k9,k10,k11,k12,k13⟩:=Q04 hq.1;obtain ⟨l0,l1,l2,l3,l4,l5,l6,l7,l8,l9,l10,l11,l12,l13⟩:=Q04 hq.2.1;clear hq hb)
   |(go_at_call_of 30 (Value.agg #[.bool mn,.int .i64 me,.slice pma pml pmc]);refine (HC.out w3 H3.out).2.2.2.2.2.1.mono ?_;rintro e w4 ⟨rfl,hb⟩;have H4:=Ua (Below.next0 H3.out hb);have hq:=HC.out w4 H4.out;obtain ⟨k0,k1,k2,k3,k4,k5,k6,k7,k8,k9,k10,k11,k12,k13⟩:=Q04 hq.1;obtain ⟨l0,l1,l2,l3,l4,l5,l6,l7,l8,l9,l10,l11,l12,l13⟩:=Q04 hq.2.1;clear hq hb)
   |(go_at_call_of 30 (Value.agg #[.bool en,.int .i64 ee,.slice pea pel pec]);refine (HC.out w4 H4.out).2.2.2.2.2.2.mono ?_;rintro e w5 ⟨rfl,hb⟩;have H5:=Ua (Below.next0 H4.out hb);have hq:=HC.out w5 H5.out;obtain ⟨k0,k1,k2,k3,k4,k5,k6,k7,k8,k9,k10,k11,k12,k13⟩:=Q04 hq.1;obtain ⟨l0,l1,l2,l3,l4,l5,l6,l7,l8,l9,l10,l11,l12,l13⟩:=Q04 hq.2.1;clear hq hb))
  go_ret
 ·exact ⟨Q09.no (fun e=>Q5e (Xo0 HE) (Q1x.1 e).1) rfl,Below.next0 HB.out H1.out⟩
 ·exact ⟨Q09.no (fun e=>Q5e (Xo1 HE) (Q1x.1 e).2.1) rfl,Below.next0 HB.out H2.out⟩
 ·exact ⟨Q09.no (fun e=>Q5e (Xo2 HE) (Q1x.1 e).2.2.1) rfl,Below.next0 HB.out H3.out⟩
 ·exact ⟨Q09.no (fun e=>Q5e (Xo3 HE) (Q1x.1 e).2.2.2.1) rfl,Below.next0 HB.out H4.out⟩
 ·exact ⟨Q09.no (fun e=>Q5e (Xe4 HE) (Q1x.1 e).2.2.2.2.1) rfl,Below.next0 HB.out H5.out⟩
 ·exact ⟨Q09.no (fun e=>hx (Q1x.1 e).2.2.2.2.2.1) rfl,Below.next0 HB.out H5.out⟩
 ·exact ⟨Q09.no (fun e=>hx (Q1x.1 e).2.2.2.2.2.2.1) rfl,Below.next0 HB.out H5.out⟩
 ·exact ⟨Q09.no (fun e=>hx (Q1x.1 e).2.2.2.2.2.2.2) rfl,Below.next0 HB.out H5.out⟩
 ·exact ⟨Q09.yes (Q1x.2 ⟨Q0b.1 (Xo0 HE),Q0b.1 (Xo1 HE),Q0b.1 (Xo2 HE),Q0b.1 (Xo3 HE),Q0b.1 (Xe4 HE),rfl,rfl,rfl⟩) rfl,Below.next0 HB.out H5.out⟩
theorem Qiq [LT ZK] (x:Q33) (p q:Qgo) (w:World) (h1:Q2g w p x) (h2:Q2g w q x):
 Calls Tryz.prog 11 #[.agg (Q46 p x).toArray,.agg (Q46 q x).toArray] w fun r w'=>r=.returned (.bool true)/\Bw w w':=
 yn1 (Q7t x x p q w h1 h2) (Q0b.2 rfl)
def Ql8 (ms:List Q00):Int:=Qpz (ms.map Q00.term)
theorem Qrx {ms:List Q00} {i:Nat} {m:Q00} (h:ms[i]?=some m):Ql8 (ms.take (i+1))=max (Ql8 (ms.take i)) m.es.sum:=by
 unfold Ql8 Qpz;rw[Tr,h,UZ,List.foldl_append];rfl
theorem Qf8 [LT ZK] (a:OA) (n c:Nat) (ms:List Q00) (k:Nat) (w:World) (h:Q0e w a n c ms) (hr:Q1p k ms):
 Calls Tryz.prog 246 #[.slice a n c] w fun r w'=>r=.returned (.int .i64 (Ql8 ms))/\Bw w w':=by
 have Q2:=h.1;subst Q2;have R2:=Ul h.2.1 h.2.2.1
 by_cases h0:ms=[]
 ·subst h0
  go_enter Tryz.func246,Tryz.ntmps246
  go_wp2_with fail
  go_ret;exact ⟨rfl,Uc _ _⟩
 have F6:0<ms.length:=by
  cases ms with
  |nil=>exact absurd rfl h0
  |cons x r=>simp
 have hposb:((ms.length:Int)==0)=false:=by rw[Uj];omega
 have hposI:(0:Int)<(ms.length:Int):=by omega
 obtain ⟨m0,C8⟩:∃m,ms[0]?=some m:=⟨_,Ub F6⟩;obtain ⟨b0,o0,rfl,Z0,R1⟩:∃b o,a=some ⟨b,o,none⟩/\b<w.heap.size/\∀j m,ms[j]?=some m->Q41 w b (o+j*4) m:=by
  rcases h.2.2.2 with h1|h1
  ·exact absurd h1 h0
  ·exact h1
 obtain ⟨aw,lw,cw,ae,le,ce,z0,z1,z2,z3,Ky,he0,_,_⟩:=R1 0 m0 C8;have hk:le=k:=by rw[<-he0.len];exact (hr.2.2.2.1 m0 (Ug C8)).1.1.1
 subst hk;have F8:Calls Tryz.prog 51 #[.slice (some ⟨b0,o0,none⟩) ms.length c,.int .i64 (le:Int)] w fun r w'=>r=.returned (.bool true)/\Bw w w':=(Q35 (some ⟨b0,o0,none⟩) ms.length c ms le w h (by have:=hr.2.1;omega)).mono (by
  rintro r w' ⟨⟨b,rfl,Y2⟩,K3⟩;rw[Y2.2 hr];exact ⟨rfl,K3⟩)
 rw[Xaq,TD] at z3;have HM:=Xh3 h hr F8;clear h hr F8 R1 Ky he0 z0 z1 z2 h0 C8
 go_enter Tryz.func246,Tryz.ntmps246
 go_wp2_with (refine (Xe2 HM).mono ?_;rintro r w1 ⟨rfl,A0⟩;have O0:=Ua A0;clear A0)
 go_loopw [3,21] (fun sv iv wr=>∃i:Nat,sv=.int .i64 (Ql8 (ms.take i))/\iv=.int .i64 (i:Int)/\i<=ms.length/\Bw w wr) (fun _ iv _=>ms.length-(intOf iv).toNat)
 case atStart=>exact ⟨0,rfl,rfl,Ut _,O0.out⟩
 case round=>
  obtain ⟨i,rfl,rfl,hi,hb⟩:=hrel
  by_cases E0:i<ms.length
  ·have F0:(i:Int)<(ms.length:Int):=(by omega);obtain ⟨m,hm⟩:∃m,ms[i]?=some m:=⟨_,Ub E0⟩;have R1:∀j m,ms[j]?=some m->Q41 wr b0 (o0+j*4) m:=by
    rcases ((Xo0 HM).step hb).2.2.2 with h1|⟨b,o,h2,h3,h4⟩
    ·rw[h1] at E0;simp at E0
    ·injection h2 with h2;injection h2 with h5 h6;subst h5;subst h6;exact h4
   obtain ⟨bw,lw2,cw2,be,le2,ce2,k0,k1,k2,k3,hw,he,_,_⟩:=R1 i m hm;have Z2:Bw wr (wr.alloc (.cells #[.bool m.neg,.int .i64 m.exp,.slice bw lw2 cw2,.slice be le2 ce2] 98)):=Ba;have hX:=Q32.new wr (.bool m.neg) (.int .i64 m.exp) (.slice bw lw2 cw2) (.slice be le2 ce2) 98;have Vd:=((Xo1 HM).2.2.2.1 m (Ug hm)).1.1;have hre2:Q10 le2 m.es:=(by rw[<-he.len];exact ⟨rfl,Vd.2⟩);generalize E1:wr.alloc (.cells #[.bool m.neg,.int .i64 m.exp,.slice bw lw2 cw2,.slice be le2 ce2] 98)=W0 at Z2 hX;obtain ⟨x0,x1,x2,x3,_,_,_,_⟩:=hX;have Y1:=Quy (.bool m.neg) (.int .i64 m.exp) (.slice bw lw2 cw2) be le2 ce2 m.es W0 (he.step Z2) hre2;have hdt:=Qrx hm;obtain ⟨D,hD⟩:∃D,Ql8 (ms.take i)=D:=⟨_,rfl⟩;obtain ⟨S,hS⟩:∃S,m.es.sum=S:=⟨_,rfl⟩;rw[hD,hS] at hdt;rw[hS] at Y1;rw[hD];have HA:=Xh3 Y1 hdt (Below.next0 hb Z2);clear Y1 hdt hb Z2 R1 hw he Vd hre2 hm hD hS
   go_wp2_with (refine (Xo0 HA).mono ?_;rintro r w2 ⟨rfl,D0⟩;have D1:=Ua D0;clear D0)
   refine ⟨⟨i+1,?_,by simp,by omega,Below.next0 (Xe2 HA) D1.out⟩,by simp only[intOf];omega⟩;rw[(Xo1 HA)]
  ·obtain rfl:i=ms.length:=(by omega);have F0:¬((ms.length:Int)<(ms.length:Int)):=(by omega);rw[Ti];have HB:=Ua hb;clear hb
   go_wp2_with fail
   go_ret;exact ⟨rfl,HB.out⟩
def zv (x:Int):Value:=.int .i64 x
theorem Qwk (E:List Int):∀u∈E.map zv,u.oneCell'=true:=by
 intro u hu;obtain ⟨x,_,rfl⟩:=Tx.1 hu;rfl
theorem Qgr:(Tryz.prog.info? 3).map (fun i=>(i.zero,i.size,i.bytes))=some (some (.int .i64 0),1,8):=by kernel_rfl
theorem Qv0:∀w,(Go.sizeOf 3).run Tryz.prog w=.ok 1 w:=by intro w;kernel_rfl
theorem Row.ints [LT ZK] {w:World} {B:Nat} {a:OA} {n c:Nat} {E:List Int} (h:Row w B 3 1 a n c (E.map zv)) (hr:∀x∈E,-9223372036854775808<=x/\x<=9223372036854775807):Q0q w a n c E:=by
 have hl:=h.len;simp only[UF,Xbm] at hl;refine ⟨hl,h.cap.1,by have:=h.cap.2;simpa[maxLen] using this,⟨hr,?_⟩,?_⟩
 ·intro b o e _;rcases h.form with ⟨h1,_⟩|⟨g,cur,rfl,_⟩
  ·rw[h1] at e;cases e
  ·cases e;rfl
 rcases h.form with ⟨_,_,_,h0⟩|⟨g,cur,rfl,_,hg,_⟩
 ·exact .inl (by simpa using h0)
 ·refine .inr ⟨g,0,rfl,hg,fun j x hx=>?_⟩;rw[UV];exact h.cell0 (by rw[UK,hx];rfl)
theorem Qb3 [LT ZK] (b:OA) (m d:Nat) (E:List Int) (w:World) (h:Q0q w b m d E) (h0:E≠[]) (hm:m<=1000000):
 Calls Tryz.prog 187 #[.slice b m d] w fun r w'=>∃g c',r=.returned (.slice (some ⟨g,0,none⟩) m c')/\Row w' w.heap.size 3 1 (some ⟨g,0,none⟩) m c' (E.map zv)/\Bw w w':=by
 obtain ⟨i0,O2,E2,I2,X1⟩:=Xbq Qgr;have Q2:=h.len;obtain ⟨p,o,rfl,hp,hc⟩:∃p o,b=some ⟨p,o,none⟩/\p<w.heap.size/\∀(j:Nat) x,E[j]?=some x->w.cell? ⟨p,o+j,none⟩=some (.int .i64 x):=by
  rcases h.rd with h1|h1
  ·exact absurd h1 h0
  ·exact h1
 refine (Tryz.J2f i0 (.int .i64 0) 1 8 O2 E2 I2 X1 rfl (by decide) Qv0 p o m d (E.map zv) w (by simp[Q2]) (by unfold maxLen;omega) (by omega) (fun j u hu=>?_) (Qwk E)).mono ?_
 ·rw[UK] at hu;cases hx:E[j]? with
  |none=>rw[hx] at hu;cases hu
  |some x=>
   rw[hx] at hu;simp only[UE,Up] at hu;subst hu;exact hc j x hx
 ·rintro r w' ⟨v',rfl,⟨hl,R3⟩,XU,hb⟩;rcases R3 with ⟨e,_⟩|⟨g,cap,cur,rfl,JD,hg,YA,R2,W6,o5⟩
  ·exact absurd e XU
  ·exact ⟨g,cap,rfl,⟨hl,.inr ⟨g,cap,cur,rfl,JD,hg,YA,R2,W6,o5⟩⟩,hb⟩
theorem Qry {E:List Int} (h:∀x∈E,0<=x):0<=E.sum:=by
 induction E with
 |nil=>simp
 |cons a t ih=>
  rw[Xbp];have h1:=h a (by simp);have h2:=ih fun x hx=>h x (by simp[hx]);omega
theorem Qrz {E:List Int} (h:∀x∈E,0<=x) {x:Int} (hx:x∈E):x<=E.sum:=by
 induction E with
 |nil=>cases hx
 |cons a t ih=>
  rw[Xbp];have h1:=h a (by simp);have h2:0<=t.sum:=Qry (E:=t) (fun z hz=>h z (Xaa _ hz));rcases UG.1 hx with e|hx
  ·omega
  ·have h3:=ih (fun z hz=>h z (Xaa _ hz)) hx;omega
structure Ql9 (W2 w:World) (v g:Nat) (v0 v1 v2 v3:Value) (T:TypeId) (m c:Nat) (xs:LV):Prop where
 box:Q32 w v v0 v1 v2 v3
 row:Row w W2.heap.size T 1 (some ⟨g,0,none⟩) m c xs
 below:Bw W2 w
 lo:W2.heap.size<=v
 ne:v≠g
 hi:v<w.heap.size
theorem Q32.far {w:World} {b:Nat} {v0 v1 v2 v3:Value} (h:Q32 w b v0 v1 v2 v3) {p:Addr} (hp:p.block≠b) (u:Value):Q32 (w.setCell p u) b v0 v1 v2 v3:=
 ⟨(Ud _ _ _ _ (fun e=>hp (by rw[e]))).trans h.c0,(Ud _ _ _ _ (fun e=>hp (by rw[e]))).trans h.c1,(Ud _ _ _ _ (fun e=>hp (by rw[e]))).trans h.c2,(Ud _ _ _ _ (fun e=>hp (by rw[e]))).trans h.c3,(Un _ _ _ _).trans h.f0,(Un _ _ _ _).trans h.f1,(Un _ _ _ _).trans h.f2,(Un _ _ _ _).trans h.f3⟩
theorem Q32.set0 {w:World} {b:Nat} {v0 v1 v2 v3:Value} (h:Q32 w b v0 v1 v2 v3) (u:Value):Q32 (w.setCell ⟨b,0,none⟩ u) b u v1 v2 v3:=
 ⟨UD _ _ _ (by rw[h.c0];rfl),(Ud _ _ _ _ (by simp)).trans h.c1,(Ud _ _ _ _ (by simp)).trans h.c2,(Ud _ _ _ _ (by simp)).trans h.c3,(Un _ _ _ _).trans h.f0,(Un _ _ _ _).trans h.f1,(Un _ _ _ _).trans h.f2,(Un _ _ _ _).trans h.f3⟩
theorem Q32.set1 {w:World} {b:Nat} {v0 v1 v2 v3:Value} (h:Q32 w b v0 v1 v2 v3) (u:Value):Q32 (w.setCell ⟨b,1,none⟩ u) b v0 u v2 v3:=
 ⟨(Ud _ _ _ _ (by simp)).trans h.c0,UD _ _ _ (by rw[h.c1];rfl),(Ud _ _ _ _ (by simp)).trans h.c2,(Ud _ _ _ _ (by simp)).trans h.c3,(Un _ _ _ _).trans h.f0,(Un _ _ _ _).trans h.f1,(Un _ _ _ _).trans h.f2,(Un _ _ _ _).trans h.f3⟩
theorem Q32.set2 {w:World} {b:Nat} {v0 v1 v2 v3:Value} (h:Q32 w b v0 v1 v2 v3) (u:Value):Q32 (w.setCell ⟨b,2,none⟩ u) b v0 v1 u v3:=
 ⟨(Ud _ _ _ _ (by simp)).trans h.c0,(Ud _ _ _ _ (by simp)).trans h.c1,UD _ _ _ (by rw[h.c2];rfl),(Ud _ _ _ _ (by simp)).trans h.c3,(Un _ _ _ _).trans h.f0,(Un _ _ _ _).trans h.f1,(Un _ _ _ _).trans h.f2,(Un _ _ _ _).trans h.f3⟩
theorem Q32.set3 {w:World} {b:Nat} {v0 v1 v2 v3:Value} (h:Q32 w b v0 v1 v2 v3) (u:Value):Q32 (w.setCell ⟨b,3,none⟩ u) b v0 v1 v2 u:=
 ⟨(Ud _ _ _ _ (by simp)).trans h.c0,(Ud _ _ _ _ (by simp)).trans h.c1,(Ud _ _ _ _ (by simp)).trans h.c2,UD _ _ _ (by rw[h.c3];rfl),(Un _ _ _ _).trans h.f0,(Un _ _ _ _).trans h.f1,(Un _ _ _ _).trans h.f2,(Un _ _ _ _).trans h.f3⟩
theorem Q32.store {w:World} {b:Nat} {v0 v1 v2 v3:Value} (h:Q32 w b v0 v1 v2 v3) (u0 u1 u2 u3:Value):Q32 ((((w.setCell ⟨b,0,none⟩ u0).setCell ⟨b,1,none⟩ u1).setCell ⟨b,2,none⟩ u2).setCell ⟨b,3,none⟩ u3) b u0 u1 u2 u3:=(((h.set0 u0).set1 u1).set2 u2).set3 u3
theorem Qyx {W2 w3:World} {B g m c:Nat} {T:TypeId} {xs:LV} (hB:W2.heap.size<=B) (h:Row w3 B T 1 (some ⟨g,0,none⟩) m c xs) (hb:Bw W2 w3) (v0 v1 v2 v3:Value) (T2:TypeId):
 Ql9 W2 (w3.alloc (.cells #[v0,v1,v2,v3] T2)) w3.heap.size g v0 v1 v2 v3 T m c xs:=
 ⟨Q32.new w3 v0 v1 v2 v3 T2,(h.lower hB).alloc _,hb.alloc hb.size _,hb.size,by have:=h.fresh;omega,by rw[Uk];omega⟩
theorem Qyy {W2 w3:World} {B g m c:Nat} {T:TypeId} {xs:LV} {v0 v1 v2 v3:Value} (hB:W2.heap.size<B) (h:Row w3 B T 1 (some ⟨g,0,none⟩) m c xs) (hb:Bw W2 w3) (hm:Q32 w3 W2.heap.size v0 v1 v2 v3) (u0 u1 u2 u3:Value):
 Ql9 W2 ((((w3.setCell ⟨W2.heap.size,0,none⟩ u0).setCell ⟨W2.heap.size,1,none⟩ u1).setCell ⟨W2.heap.size,2,none⟩ u2).setCell ⟨W2.heap.size,3,none⟩ u3) W2.heap.size g u0 u1 u2 u3 T m c xs:=by
 have hg:=h.fresh;have far:∀(w:World) (o:Nat) (u:Value),Row w W2.heap.size T 1 (some ⟨g,0,none⟩) m c xs->Row (w.setCell ⟨W2.heap.size,o,none⟩ u) W2.heap.size T 1 (some ⟨g,0,none⟩) m c xs:=fun w o u h=>h.far (fun x hx=>by injection hx with hx;subst hx;show g≠W2.heap.size;omega) u;exact ⟨hm.store u0 u1 u2 u3,far _ 3 _ (far _ 2 _ (far _ 1 _ (far _ 0 _ (h.lower (Xa9 hB))))),(((hb.setCell (Uf _) _).setCell (Uf _) _).setCell (Uf _) _).setCell (Uf _) _,Uf _,by omega,by simp only[Tj];omega⟩
theorem Ql9.put {W2 w:World} {v g m c:Nat} {T:TypeId} {Z:List Int} {v0 v1 v2 v3:Value} (h:Ql9 W2 w v g v0 v1 v2 v3 T m c (Z.map zv)) (i:Nat) (u:Int):
 Ql9 W2 (w.setCell ⟨g,i,none⟩ (.int .i64 u)) v g v0 v1 v2 v3 T m c ((Z.set i u).map zv):=by
 refine ⟨h.box.far (p:=⟨g,i,none⟩) (fun e=>h.ne e.symm) _,?_,h.below.setCell h.row.fresh.1 _,h.lo,h.ne,by rw[Tj];exact h.hi⟩;rw[List.map_set];exact h.row.set0 i _
theorem Qxg {Ex Ey Z:List Int} {i k:Nat} {x y:Int} (hZ:Z.length=k) (Ws:i<k) (h:∀(j:Nat) (x y:Int),Ex[j]?=some x->Ey[j]?=some y->Z[j]?=some (if j<i then x+y else x)) (hx:Ex[i]?=some x) (hy:Ey[i]?=some y):
 ∀(j:Nat) (x' y':Int),Ex[j]?=some x'->Ey[j]?=some y'->(Z.set i (x+y))[j]?=some (if j<i+1 then x'+y' else x'):=by
 intro j x' y' D9 hy'
 by_cases e:j=i
 ·subst e;rw[hx] at D9;rw[hy] at hy';cases D9;cases hy';rw[TN (by omega),Uu (TU _)]
 ·rw[Th (fun h=>e h.symm),h j x' y' D9 hy']
  by_cases hl:j<i
  ·rw[Uu hl,Uu (by omega)]
  ·rw[Us hl,Us (by omega)]
theorem WordsIn.set4 {w:World} {a:OA} {n c b:Nat} {L:LN} {b0:Bool} {e0:Int} {a0 a1:OA} {n0 c0 n1 c1:Nat} (h:WordsIn w a n c L) (hM:Q32 w b (.bool b0) (.int .i64 e0) (.slice a0 n0 c0) (.slice a1 n1 c1)) (u0 u1 u2 u3:Value):
 WordsIn ((((w.setCell ⟨b,0,none⟩ u0).setCell ⟨b,1,none⟩ u1).setCell ⟨b,2,none⟩ u2).setCell ⟨b,3,none⟩ u3) a n c L:=
 (((h.set1 hM.c0 (fun _=>by simp[nv]) u0).set1 (hM.set0 u0).c1 (fun _=>by simp[nv]) u1).set1 ((hM.set0 u0).set1 u1).c2 (fun _=>by simp[nv]) u2).set1 (((hM.set0 u0).set1 u1).set2 u2).c3 (fun _=>by simp[nv]) u3
theorem Qxh {Ex Ey Z:List Int} {k:Nat} (r1:Q10 k Ex) (r2:Q10 k Ey) (hZ:Z.length=k) (h:∀(j:Nat) (x y:Int),Ex[j]?=some x->Ey[j]?=some y->Z[j]?=some (if j<k then x+y else x)):Z=List.zipWith (·+·) Ex Ey:=by
 apply Xax
 intro j
 by_cases hj:j<k
 ·have hx:=Ub (l:=Ex) (i:=j) (by rw[r1.1];exact hj);have hy:=Ub (l:=Ey) (i:=j) (by rw[r2.1];exact hj);rw[h j _ _ hx hy,Uu hj,List.getElem?_zipWith,hx,hy]
 ·rw[UU (by omega),UU (by rw[List.length_zipWith,r1.1,r2.1];omega)]
theorem Row.far4 {w:World} {B g m c r:Nat} {T:TypeId} {xs:LV} (h:Row w B T 1 (some ⟨g,0,none⟩) m c xs) (P0:g≠r) (u0 u1 u2 u3:Value):Row ((((w.setCell ⟨r,0,none⟩ u0).setCell ⟨r,1,none⟩ u1).setCell ⟨r,2,none⟩ u2).setCell ⟨r,3,none⟩ u3) B T 1 (some ⟨g,0,none⟩) m c xs:=by
 have far:∀(w:World) (o:Nat) (u:Value),Row w B T 1 (some ⟨g,0,none⟩) m c xs->Row (w.setCell ⟨r,o,none⟩ u) B T 1 (some ⟨g,0,none⟩) m c xs:=fun w o u h=>h.far (fun x hx=>by injection hx with hx;subst hx;exact P0) u;exact far _ 3 _ (far _ 2 _ (far _ 1 _ (far _ 0 _ h)))
theorem Qs0 {k:Nat} {Ex Ey:List Int} (r1:Q10 k Ex) (r2:Q10 k Ey):∀x∈List.zipWith (·+·) Ex Ey,-9223372036854775808<=x/\x<=9223372036854775807:=by
 intro x hx;have h0:=Qkg Ex Ey r1.2.1 r2.2.1;have h1:=Qrz h0 hx;rw[Qkf _ _ (r1.1.trans r2.1.symm)] at h1;have h2:=h0 x hx;have:=r1.2.2;have:=r2.2.2;omega
theorem Qla [LT ZK] (nx:Bool) (ex:Int) (ax:OA) (lx cx:Nat) (ls:LN) (bx:OA) (mx dx:Nat) (Ex:List Int) (ny:Bool) (ey:Int) (ay:OA) (ly cy:Nat) (ks:LN) (bY:OA) (my dy':Nat) (Ey:List Int) (k:Nat) (w:World)
 (h1:WordsIn w ax lx cx ls) (g1:Q0q w bx mx dx Ex) (h2:WordsIn w ay ly cy ks) (g2:Q0q w bY my dy' Ey) (i1:Q0a nx ex ls) (i2:Q0a ny ey ks) (r1:Q10 k Ex) (r2:Q10 k Ey) (hk:1<=k) (Z6:k<=4) (hT:Q1s w):
 Calls Tryz.prog 247 #[.agg #[.bool nx,.int .i64 ex,.slice ax lx cx,.slice bx mx dx],.agg #[.bool ny,.int .i64 ey,.slice ay ly cy,.slice bY my dy']] w fun r w'=>
  ∃n' e' a' l' c' L er be le ce,r=.returned (.tuple #[.agg #[.bool n',.int .i64 e',.slice a' l' c',.slice be le ce],.int .i64 er])/\Qql (Q1r nx ex ls*Q1r ny ey ks) n' e' L er/\Q2n w w' a' l' c' L/\Q0q w' be le ce (List.zipWith (·+·) Ex Ey)/\(∃g,be=some ⟨g,0,none⟩/\w.heap.size<=g)/\Bw w w':=by
 obtain ⟨BX,hBX⟩:∃o:Obj,o=.cells #[.bool nx,.int .i64 ex,.slice ax lx cx,.slice bx mx dx] 98:=⟨_,rfl⟩;obtain ⟨BY,hBY⟩:∃o:Obj,o=.cells #[.bool ny,.int .i64 ey,.slice ay ly cy,.slice bY my dy'] 98:=⟨_,rfl⟩;obtain ⟨BR,hBR⟩:∃o:Obj,o=.cells #[.bool false,.int .i64 0,.slice none 0 0,.slice none 0 0] 98:=⟨_,rfl⟩;have D2:(w.alloc BX).heap.size=w.heap.size+1:=Uk _ _;have Q5:((w.alloc BX).alloc BY).heap.size=w.heap.size+2:=by rw[Uk,D2]
 have K4:(((w.alloc BX).alloc BY).alloc BR).heap.size=w.heap.size+3:=by rw[Uk,Q5]
 have A0:Bw w (w.alloc BX):=Ba;have D0:Below (w.alloc BX).heap.size (w.alloc BX) ((w.alloc BX).alloc BY):=Ba;have I0:Below ((w.alloc BX).alloc BY).heap.size ((w.alloc BX).alloc BY) (((w.alloc BX).alloc BY).alloc BR):=Ba;have hX:Q32 (((w.alloc BX).alloc BY).alloc BR) w.heap.size (.bool nx) (.int .i64 ex) (.slice ax lx cx) (.slice bx mx dx):=by
  have h:=((Q32.new w (.bool nx) (.int .i64 ex) (.slice ax lx cx) (.slice bx mx dx) 98).step (by rw[<-hBX];exact D0) (by rw[D2];omega)).step I0 (by rw[Q5];omega);exact h
 have hY:Q32 (((w.alloc BX).alloc BY).alloc BR) (w.heap.size+1) (.bool ny) (.int .i64 ey) (.slice ay ly cy) (.slice bY my dy'):=by
  have h:=Q32.new (w.alloc BX) (.bool ny) (.int .i64 ey) (.slice ay ly cy) (.slice bY my dy') 98;rw[D2,<-hBY] at h;exact h.step I0 (by rw[Q5];omega)
 have hR:Q32 (((w.alloc BX).alloc BY).alloc BR) (w.heap.size+2) (.bool false) (.int .i64 0) (.slice none 0 0) (.slice none 0 0):=by
  have h:=Q32.new ((w.alloc BX).alloc BY) (.bool false) (.int .i64 0) (.slice none 0 0) (.slice none 0 0) 98;rw[Q5,<-hBR] at h;exact h
 have hB:=Below.next0 (Below.next0 A0 D0) I0;subst hBX;subst hBY;subst hBR;generalize E1:((w.alloc (.cells #[.bool nx,.int .i64 ex,.slice ax lx cx,.slice bx mx dx] 98)).alloc (.cells #[.bool ny,.int .i64 ey,.slice ay ly cy,.slice bY my dy'] 98)).alloc (.cells #[.bool false,.int .i64 0,.slice none 0 0,.slice none 0 0] 98)=W0 at K4 hX hY hR hB;obtain ⟨x0,x1,x2,x3,_,_,_,_⟩:=id hX;obtain ⟨y0,y1,y2,y3,_,_,_,_⟩:=id hY;have y8:=Qog nx ex ax lx cx ls ny ey ay ly cy ks W0 (h1.step hB) (h2.step hB) i1 i2 (hT.step hB);have HC:=Xh6 hX hY hR hB y8 K4;have HG:=Xh2 g1 g2;clear D2 Q5 K4 A0 D0 I0 hX hY hR hB y8 hT h1 h2 i1 i2 g1 g2
 go_enter Tryz.func247,Tryz.ntmps247
 go_upto_region 2 with (refine (Xo4 HC).mono ?_;rintro r w1 ⟨n',e',a',l',c',L,er,rfl,O7,I1,A0⟩;have HA:=Xh3 O7 I1 A0;clear O7 I1 A0)
 have N6:Bw w1 (w1.alloc (.cells #[.bool n',.int .i64 e',.slice a' l' c'] 26)):=Ba;have hN6:=Q03.new w1 (.bool n') (.int .i64 e') (.slice a' l' c') 26;have WF:=Q0p w1 (.cells #[.bool n',.int .i64 e',.slice a' l' c'] 26);generalize u4:w1.alloc (.cells #[.bool n',.int .i64 e',.slice a' l' c'] 26)=W2 at N6 hN6 WF;have ZM:=Below.next0 (Xe2 HA) N6;have A4:=(Xo0 HC).step ZM (by have:=(Xe5 HC);omega);have hY2:=(Xo1 HC).step ZM (by have:=(Xe5 HC);omega);have P8:=(Xo2 HC).step ZM (by have:=(Xe5 HC);omega);have hEx0:Ex≠[]:=fun e=>by have:=r1.1;rw[e] at this;simp at this;omega
 have hmx:mx=k:=by rw[<-(Xo0 HG).len];exact r1.1
 have G2:=fun W (hW:Bw W2 W)=>Qb3 bx mx dx Ex W ((Xo0 HG).step (Below.next0 (Below.next0 (Xo3 HC) ZM) hW)) hEx0 (by omega);have XN:=Xh6 A4 hY2 P8 ZM hN6 WF;have HCL:=Ua G2;have n0:W2.drew.cell? ⟨w1.heap.size,0,none⟩=some (.bool n'):=hN6.c0;have n1:W2.drew.cell? ⟨w1.heap.size,1,none⟩=some (.int .i64 e'):=hN6.c1;have n2:W2.drew.cell? ⟨w1.heap.size,2,none⟩=some (.slice a' l' c'):=hN6.c2;have p3:W2.drew.cell? ⟨w.heap.size,3,none⟩=some (.slice bx mx dx):=A4.c3;have P3:=Below.next0 ((Uc W2.heap.size W2).alloc (Uf _) (.cells #[.bool false,.int .i64 0,.slice none 0 0,.slice none 0 0] 98)) (Q01 _);have hNa:=hN6.step P3 WF;have hXa:=A4.step P3 (by have:=(Xe5 HC);have:=ZM.size;omega);obtain ⟨na0,na1,na2⟩:=hNa.cc;have pa3:=hXa.c3;clear P3 hNa hXa A4 hY2 P8 ZM N6 G2 hN6 WF x0 x1 x2 x3 y0 y1 y2 y3 hmx hEx0
 go_cut [8] (fun s8 wx=>∃v g c3,s8=.pointer (some ⟨v,0,none⟩)/\Ql9 W2 wx v g (.bool n') (.int .i64 e') (.slice a' l' c') (.slice (some ⟨g,0,none⟩) mx c3) 3 mx c3 (Ex.map zv))
 case first=>
  go_region_law (
   refine Q3g (by rfl) 187 #[.slice bx mx dx] (by simp[go_sem]) ?_;refine (HCL.out _ ?_).mono ?_
   (first|exact Q01 W2|exact Below.next0 ((Uc W2.heap.size W2).alloc (Uf _) _) (Q01 _)|exact (Uc W2.heap.size W2).alloc (Uf _) _|exact Below.next0 (Q01 W2) (Ba))
   rintro r w3 ⟨g,c3,rfl,A1,I0⟩;refine ⟨_,rfl,?_⟩;have Y2:Bw W2 w3:=by
    first
     |exact Below.next0 (Q01 W2) I0
     |exact Below.next0 ((Uc W2.heap.size W2).alloc (Uf _) _) I0
     |exact Below.next0 (Below.next0 ((Uc W2.heap.size W2).alloc (Uf _) _) (Q01 _)) I0
     |exact Below.next0 (Below.next0 (Q01 W2) (Ba)) I0
   have hN:=(Xo4 XN).step Y2 (Xe5 XN);have m0:w3.cell? ⟨w1.heap.size,0,none⟩=some (.bool n'):=hN.c0;have m1:w3.cell? ⟨w1.heap.size,1,none⟩=some (.int .i64 e'):=hN.c1;have m2:w3.cell? ⟨w1.heap.size,2,none⟩=some (.slice a' l' c'):=hN.c2
   (first
     |(have hM:=((Q32.new W2 (.bool false) (.int .i64 0) (.slice none 0 0) (.slice none 0 0) 98).step (Q01 _) (by rw[Uk];exact TU _)).step I0 (by show _<(World.alloc _ _).heap.size;rw[Uk];exact TU _)
       obtain ⟨o0,o1,o2⟩:=hM.cc;have o3:=hM.c3;have u0:=hM.f0;have u1:=hM.f1;have u2:=hM.f2;have u3:=hM.f3;clear hM)
     |skip)
   have hNw:=hN.step ((Uc w3.heap.size w3).alloc (Uf _) (.cells #[.bool false,.int .i64 0,.slice none 0 0,.slice none 0 0] 98)) (Ue (Xe5 XN) Y2.size);obtain ⟨mm0,mm1,mm2⟩:=hNw.cc;have HZ:=Xh3 A1 I0 Y2;clear A1 I0 Y2 hN hNw)
  all_goals go_wp2_with fail
  all_goals go_meet
  all_goals first
   |(have hh:=Qyx (W2:=W2) (B:=W2.drew.heap.size) (Uf W2.heap.size) (Xo0 HZ) (Xe2 HZ) (.bool n') (.int .i64 e') (.slice a' l' c') (.slice (some ⟨g,0,none⟩) mx c3) 98
     exact ⟨w3.heap.size,g,c3,rfl,hh⟩)
   |(have hh:=Qyy (W2:=W2) (B:=(W2.alloc (.cells #[.bool false,.int .i64 0,.slice none 0 0,.slice none 0 0] 98)).drew.heap.size) (by show _<(W2.alloc _).heap.size;rw[Uk];exact TU _) (Xo0 HZ) (Xe2 HZ) ⟨o0,o1,o2,o3,u0,u1,u2,u3⟩ (.bool n') (.int .i64 e') (.slice a' l' c') (.slice (some ⟨g,0,none⟩) mx c3)
     exact ⟨W2.heap.size,g,c3,rfl,hh⟩)
 case rest=>
  obtain ⟨v,g,c3,rfl,hP⟩:=hcut;have hYc:=(Xo1 XN).step hP.below (by have:=(Xe5 HC);have:=(Xo3 XN).size;omega);have y3:=hYc.c3;have hmy:my=k:=by rw[<-(Xe1 HG).len];exact r2.1
  have hgy:=(Xe1 HG).step (Below.next0 (Below.next0 (Xo3 HC) (Xo3 XN)) hP.below);have HP:=Xh3 hP hgy hmy;clear hP hYc hgy hmy n0 n1 n2 p3 na0 na1 na2 pa3
  go_wp2_with fail
  go_loopw [27] (fun iv wr=>∃(i:Nat) (Z:List Int),iv=.int .i64 (i:Int)/\i<=k/\Z.length=k/\(∀j x y,Ex[j]?=some x->Ey[j]?=some y->Z[j]?=some (if j<i then x+y else x))/\Ql9 W2 wr v g (.bool n') (.int .i64 e') (.slice a' l' c') (.slice (some ⟨g,0,none⟩) mx c3) 3 mx c3 (Z.map zv)/\wr.heap.size=wc.heap.size/\Bw W2 wr) (fun iv _=>k-(intOf iv).toNat)
  case atStart=>
   refine ⟨0,Ex,rfl,Ut _,r1.1,fun j x y hx _=>by simp[hx],(Xo0 HP),rfl,(Xo0 HP).below⟩
  case round=>
   obtain ⟨i,Z,rfl,hi,hZ,Z3,hQ,Y1,N0⟩:=hrel
   by_cases E0:i<my
   ·have Ws:i<k:=(by have:=(Xe2 HP);omega);have F0:(i:Int)<(my:Int):=(by omega);have hmx':(i:Int)<(mx:Int):=(by have h:=(Xo0 HG).len;have h2:=r1.1;omega);obtain ⟨y,hy⟩:∃y,Ey[i]?=some y:=⟨_,Ub (by have:=r2.1;omega)⟩;obtain ⟨x,hx⟩:∃x,Ex[i]?=some x:=⟨_,Ub (by have:=r1.1;omega)⟩;obtain ⟨ba,oa,E5,P3,K9⟩:=((Xe1 HG).step (Below.next0 (Below.next0 (Xo3 HC) (Xo3 XN)) hQ.below)).rd.at_ hy;subst E5;have hzx:Z[i]?=some x:=(by have h:=Z3 i x y hx hy;simpa using h);have b3:=hQ.box.c3;have Y3:wr.cell? ⟨g,i,none⟩=some (.int .i64 x):=hQ.row.cell0 (by rw[UK,hzx];rfl);have hfz:=hQ.row.frozen0 i;have hx8:=Qrz r1.2.1 (Ug hx);have hy8:=Qrz r2.2.1 (Ug hy);have O4:=r1.2.1 x (Ug hx);have QY:=r2.2.1 y (Ug hy);have Qt:IntKind.i64.wrap (x+y)=x+y:=(by rw[UO];have:=r1.2.2;have:=r2.2.2;omega);have HI:=Xh7 hZ Z3 hQ Y1 N0 hx hy;clear hZ Z3 hQ Y1 N0 hx8 hy8 O4 QY hzx
    go_wp2_with fail
    exact ⟨⟨i+1,Z.set i (x+y),by simp,by omega,by rw[Tm];exact (Xo0 HI),Qxg (Xo0 HI) Ws (Xo1 HI) (Xo5 HI) (Xe6 HI),(Xo2 HI).put i (x+y),by rw[Tj];exact (Xo3 HI),((Xo2 HI).put i (x+y)).below⟩,by simp only[intOf];omega⟩
   ·have Ws:i=k:=(by have:=(Xe2 HP);omega);have F0:¬((i:Int)<(my:Int)):=(by omega);have b0:=hQ.box.c0;have b1:=hQ.box.c1;have b2:=hQ.box.c2;have b3:=hQ.box.c3;have hR:=(Xo2 XN).step hQ.below (by have:=(Xe5 HC);have:=(Xo3 XN).size;omega);obtain ⟨q0,q1,q2⟩:=hR.cc;have q3:=hR.c3;have t0:=hR.f0;have t1:=hR.f1;have t2:=hR.f2;have t3:=hR.f3;have HI:=Xh7 Ws hZ Z3 hQ Y1 N0 hR;clear Ws hZ Z3 hQ Y1 N0 hR
    go_wp2_with fail
    have M5:Q32 wr (w.heap.size+1+1) (.bool false) (.int .i64 0) (.slice none 0 0) (.slice none 0 0):=(Xe6 HI);have hV:=M5.store (.bool n') (.int .i64 e') (.slice a' l' c') (.slice (some ⟨g,0,none⟩) mx c3);obtain ⟨k0,k1,k2⟩:=hV.cc;have k3:=hV.c3;have G6:Bw w1 W2:=(by rw[<-u4];exact Ba);have hw:=((Xo1 HA).step (Below.next0 G6 (Xo3 HI).below)).set4 M5 (.bool n') (.int .i64 e') (.slice a' l' c') (.slice (some ⟨g,0,none⟩) mx c3);have N0:=((((Below.next0 (Below.next0 (Xo3 HC) (Xo3 XN)) (Xo3 HI).below).setCell (p:=⟨w.heap.size+1+1,0,none⟩) (by show w.heap.size<=w.heap.size+1+1;omega) (.bool n')).setCell (p:=⟨w.heap.size+1+1,1,none⟩) (by show w.heap.size<=w.heap.size+1+1;omega) (.int .i64 e')).setCell (p:=⟨w.heap.size+1+1,2,none⟩) (by show w.heap.size<=w.heap.size+1+1;omega) (.slice a' l' c')).setCell (p:=⟨w.heap.size+1+1,3,none⟩) (by show w.heap.size<=w.heap.size+1+1;omega) (.slice (some ⟨g,0,none⟩) mx c3);refine ⟨rfl,.tuple #[.agg #[.bool n',.int .i64 e',.slice a' l' c',.slice (some ⟨g,0,none⟩) mx c3],.int .i64 er],by simp[results,go_sem,k0,k1,k2,k3],?_⟩;have JS:Q0q ((((wr.setCell ⟨w.heap.size+1+1,0,none⟩ (.bool n')).setCell ⟨w.heap.size+1+1,1,none⟩ (.int .i64 e')).setCell ⟨w.heap.size+1+1,2,none⟩ (.slice a' l' c')).setCell ⟨w.heap.size+1+1,3,none⟩ (.slice (some ⟨g,0,none⟩) mx c3)) (some ⟨g,0,none⟩) mx c3 (List.zipWith (fun a b=>a+b) Ex Ey):=by
     have hgne:g≠w.heap.size+1+1:=by
      have h1:=(Xe5 HC);have h2:=(Xo3 XN).size;have h3:=(Xo3 HI).row.fresh.1;omega
     have hZe:Z=List.zipWith (fun a b=>a+b) Ex Ey:=Qxh r1 r2 (Xo1 HI) (by have h:=(Xo2 HI);rwa[(Xo0 HI)] at h);have A1:=(Xo3 HI).row.far4 hgne (.bool n') (.int .i64 e') (.slice a' l' c') (.slice (some ⟨g,0,none⟩) mx c3);rw[hZe] at A1;exact A1.ints (Qs0 r1 r2)
    have B6:w.heap.size<=g:=Ul (Below.next0 (Xo3 HC) (Xo3 XN)).size (Xo3 HI).row.fresh.1;cases n' with
    |false=>exact .inl ⟨e',a',l',c',L,er,_,_,_,rfl,(Xo0 HA),((Xo1 HA).lower (Xo3 HC).size).on hw,JS,⟨g,rfl,B6⟩,N0⟩
    |true=>exact .inr ⟨e',a',l',c',L,er,_,_,_,rfl,(Xo0 HA),((Xo1 HA).lower (Xo3 HC).size).on hw,JS,⟨g,rfl,B6⟩,N0⟩
open Go.ChangeShapes Go.Maps Go.WideShapes
theorem Qlb:laidOutB Tryz.prog=true:=by kernel_rfl
theorem Qwl:(230:TypeId)<Tryz.prog.types.size:=Tt (by kernel_rfl)
theorem Qxi:(match Tryz.prog.underlying 230 with|some (.array _ _)|some (.struct _)=>true|_=>false)=true:=by kernel_rfl
theorem Qyz:Go.WideMaps.KeyLaw Tryz.prog 230:=deep_law_laid Qlb (m:=3) (Nat.le_of_ble_eq_true rfl) Qwl (by kernel_rfl) Qxi
theorem Qir:Keyed Tryz.prog 230:=Keyed.of_law Qyz
theorem Qmw:Tryz.prog.underlying 230=some (.array 4 3):=by kernel_rfl
theorem Qv1:Tryz.prog.underlying 3=some (.int .i64):=by kernel_rfl
theorem Qs1:Tryz.prog.underlying 228=some (.map 230 3):=by kernel_rfl
theorem Qxj:Tryz.prog.keyType 230=true:=by kernel_rfl
theorem Qmx:Tryz.prog.cellsOf 230=4:=by kernel_rfl
theorem Qv2:Tryz.prog.cellsOf 3=1:=by kernel_rfl
theorem Qxk (w:World):(zeroValue 3).run Tryz.prog w=.ok (.int .i64 0) w:=by kernel_rfl
theorem Qv3:∀(k n:Nat),k<n->∃m,n=m+1:=fun k n h=>⟨n-1,by omega⟩
theorem Qz0:∃m,Tryz.prog.types.size=m+1:=Qv3 _ _ Qwl
def Qu4 (a b c d:Int):Value:=.agg #[.int .i64 a,.int .i64 b,.int .i64 c,.int .i64 d]
def small (x:Int):Prop:= -9223372036854775808<=x/\x<=9223372036854775807
theorem Qv4 {x:Int} (h:small x):(Lit.int .i64 x).wf=true:=by
 unfold small at h;have h1:IntKind.i64.min= -9223372036854775808:=rfl;have h2:IntKind.i64.max=9223372036854775807:=rfl;simp[Lit.wf,h1,h2];omega
theorem Q5t {m:Nat} {x:Int} (h:small x):Tryz.prog.keyLits (m+1) 3 [.int .i64 x]=some [.int .i64 x]:=by
 unfold Program.keyLits;rw[Qv1];simp[Qv4 h]
theorem Qlc {a b c d:Int} (ha:small a) (hb:small b) (hc:small c) (hd:small d):∃l,keyOf Tryz.prog 230 (Qu4 a b c d)=some l:=by
 unfold keyOf;rw[Qmw,Qxj];have hf:(Qu4 a b c d).formed Tryz.prog 230=true:=by
  simp[Value.formed,Qu4,Qmx]
 simp only[hf,Bool.and_self,Xa8];obtain ⟨m,hm⟩:=Qz0;rw[hm];have hk:Tryz.prog.keyLits (m+1+1) 230 (Qu4 a b c d).cells.toList=some ([[Lit.int .i64 a],[.int .i64 b],[.int .i64 c],[.int .i64 d]].flatten):=by
  unfold Program.keyLits;rw[Qmw];have G2:(Qu4 a b c d).cells.toList=[.int .i64 a,.int .i64 b,.int .i64 c,.int .i64 d]:=by simp[Qu4,Value.cells]
  rw[G2];simp[Qmx,Qv2,List.range,List.range.loop,Q5t ha,Q5t hb,Q5t hc,Q5t hd]
 rw[hk];exact ⟨_,rfl⟩
theorem Qv5 {a b c d a' b' c' d':Int} (h:Qu4 a b c d=Qu4 a' b' c' d'):a=a'/\b=b'/\c=c'/\d=d':=by
 unfold Qu4 at h;injection h with h;simpa using h
abbrev P4:=Int × Int × Int × Int
def P4.v (q:P4):Value:=Qu4 q.1 q.2.1 q.2.2.1 q.2.2.2
def P4.ok (q:P4):Prop:=small q.1/\small q.2.1/\small q.2.2.1/\small q.2.2.2
theorem P4.key {q:P4} (h:q.ok):∃l,keyOf Tryz.prog 230 q.v=some l:=Qlc h.1 h.2.1 h.2.2.1 h.2.2.2
theorem P4.inj {q r:P4} (h:q.v=r.v):q=r:=by
 obtain ⟨a,b,c,d⟩:=q;obtain ⟨a',b',c',d'⟩:=r;obtain ⟨h1,h2,h3,h4⟩:=Qv5 h;simp only at h1 h2 h3 h4;subst h1;subst h2;subst h3;subst h4;rfl
def Qz1 (v:Value):Option (DataW Value × List MemPlace):=some (.held v,[])
def Q4w (w:World) (b n:Nat) (g:P4->Option Nat):Prop:=
 ∃D,w.ownsMap Tryz.prog 230 Qz1 b n D/\∀q l,q.ok->keyOf Tryz.prog 230 q.v=some l->Maps.has D l=(g q).isSome/\D.atKey l (.held (.int .i64 0))=.held (.int .i64 (((g q).getD 0:Nat):Int))
section
variable {w w':World} {b n:Nat} {g:P4->Option Nat}
theorem Q4w.made (w:World):Q4w (w.alloc (.map #[] 0)) w.heap.size 0 (fun _=>none):=
 ⟨_,World.ownsMap_made _ _ _ _,fun _ _ _ _=>⟨rfl,rfl⟩⟩
theorem Q4w.lt (h:Q4w w b n g):b<w.heap.size:=by obtain ⟨D,h1,_⟩:=h;exact h1.lt
theorem Q4w.keep (h:Q4w w b n g) (hk:w'.heap[b]?=w.heap[b]?):Q4w w' b n g:=by
 obtain ⟨D,⟨es',clock,hb,r⟩,h2⟩:=h;exact ⟨D,⟨es',clock,hk.trans hb,r⟩,h2⟩
theorem Q4w.look_ok (h:Q4w w b n g) {q:P4} (hq:q.ok):
 (Instr.lookup 228 (.map (some b)) q.v true).run Tryz.prog w=.ok (.tuple #[.int .i64 (((g q).getD 0:Nat):Int),.bool (g q).isSome]) w:=by
 obtain ⟨D,h1,h2⟩:=h;obtain ⟨l,hl⟩:=q.key hq;obtain ⟨v,ps,Q1,hv⟩:=World.ownsMap.look_ok h1 Qir Qs1 (Qxk w) (zd:=.held (.int .i64 0)) (zp:=[]) rfl hl;obtain ⟨e1,e2⟩:=h2 q l hq hl;rw[e1] at Q1;rw[e2] at hv;unfold Qz1 at hv;injection hv with hv;injection hv with hv _;injection hv with hv;rw[Q1,hv]
theorem Q4w.store (h:Q4w w b n g) {q:P4} (hq:q.ok) (hn:n<1000000) (k:Nat):
 ∃w',(Instr.mapUpdate 228 (.map (some b)) q.v (.int .i64 (k:Int))).run Tryz.prog w=.ok () w'/\Q4w w' b (n+1) (fun r=>if r=q then some k else g r)/\w.grownBy w' (some b):=by
 obtain ⟨D,h1,h2⟩:=h;obtain ⟨l,hl⟩:=q.key hq;obtain ⟨w',Q1,h3,h4⟩:=World.ownsMap.store h1 Qir Qs1 (by unfold maxLen;omega) (val:=.int .i64 (k:Int)) (d:=.held (.int .i64 (k:Int))) (ps:=[]) hl rfl;refine ⟨w',Q1,⟨_,h3,fun r m hr hm=>?_⟩,h4.grown⟩
 show Maps.has _ _=(if r=q then some k else g r).isSome/\_=DataW.held (Value.int .i64 (((if r=q then some k else g r).getD 0:Nat):Int))
 by_cases e:r=q
 ·subst e;rw[hl] at hm;injection hm with hm;subst hm;rw[Uu rfl];exact ⟨Maps.has_put_same h1.isMap (Qir.key hl) _,Maps.atKey_put_same h1.isMap (Qir.key hl) _ _⟩
 ·have P0:m≠l:=fun e2=>by
   subst e2;exact e (P4.inj (Qir.inj hm hl))
  rw[Us e,Maps.has_put_other P0,Maps.atKey_put_other P0];exact h2 r m hr hm
end
end Go.Proofs.YtidojbkhlenahaaGreatDoor
namespace Go.Proofs.YtidojbkhlenahaaGreatDoor
open Go.RowKit WordsM
theorem Qld (B:Nat) (w:World):Below B w w.drew:=⟨rfl,rfl,rfl,Uf _,fun _ _=>rfl⟩
def p4 (E:List Int):P4:=(E.getD 0 0,E.getD 1 0,E.getD 2 0,E.getD 3 0)
theorem Qs2 {E:List Int} (h:E.length<=4):Go.splice [zv 0,zv 0,zv 0,zv 0] 0 (E.map zv)=[zv (p4 E).1,zv (p4 E).2.1,zv (p4 E).2.2.1,zv (p4 E).2.2.2]:=by
 match E,h with
 |[],_=>rfl
 |[_],_=>rfl
 |[_,_],_=>rfl
 |[_,_,_],_=>rfl
 |[_,_,_,_],_=>rfl
 |_::_::_::_::_::_,h=>exact absurd h (by simp)
theorem Qwm {n:Nat} {E F:List Int} (hE:E.length=n) (hF:F.length=n) (hn:n<=4) (h:p4 E=p4 F):E=F:=by
 unfold p4 at h;simp only[Xat] at h;obtain ⟨h0,h1,h2,h3⟩:=h
 apply Xax
 intro j
 by_cases hj:j<n
 ·have e:∀(A:List Int),A.length=n->A[j]?=some (A.getD j 0):=fun A hA=>by
   rw[Te,Ub (by omega)];rfl
  rw[e E hE,e F hF]
  congr 1
  match j,hj with
  |0,_=>exact h0
  |1,_=>exact h1
  |2,_=>exact h2
  |3,_=>exact h3
  |j+4,hj=>omega
 ·rw[UU (by omega),UU (by omega)]
theorem J01 {E:List Int} (h:∀x∈E,small x):(p4 E).ok:=by
 have e:∀j,small (E.getD j 0):=fun j=>by
  rw[Te];cases hj:E[j]? with
  |none=>unfold small;simp
  |some x=>exact h x (Ug hj)
 exact ⟨e 0,e 1,e 2,e 3⟩
theorem Qoo [LT ZK] (nx:Bool) (ex:Int) (ax:OA) (lx cx:Nat) (bx:OA) (mx dx:Nat) (E:List Int) (w:World) (hE:Q0q w bx mx dx E) (h4:E.length<=4) (h0:E≠[]):
 Calls Tryz.prog 186 #[.agg #[.bool nx,.int .i64 ex,.slice ax lx cx,.slice bx mx dx]] w fun r w'=>r=.returned (p4 E).v/\Bw w w':=by
 have Q2:=hE.len;have Zk:=Qs2 h4;obtain ⟨⟨a0,a1,a2,a3⟩,hP4⟩:∃P:P4,p4 E=P:=⟨_,rfl⟩;rw[hP4] at Zk⊢;obtain ⟨p,o,rfl,hp,hc⟩:∃p o,bx=some ⟨p,o,none⟩/\p<w.heap.size/\∀(j:Nat) x,E[j]?=some x->w.cell? ⟨p,o+j,none⟩=some (.int .i64 x):=by
  rcases hE.rd with h1|h1
  ·exact absurd h1 h0
  ·exact h1
 have Y1:(Tryz.prog.info? 3).map (·.size)=some 1:=by kernel_rfl
 obtain ⟨o1,ho1⟩:∃oo:Obj,oo=.cells #[.bool nx,.int .i64 ex,.slice ax lx cx,.slice (some ⟨p,o,none⟩) mx dx] 98:=⟨_,rfl⟩;obtain ⟨o2,ZQ⟩:∃oo:Obj,oo=.cells #[.int .i64 0,.int .i64 0,.int .i64 0,.int .i64 0] 230:=⟨_,rfl⟩;have s1:(w.alloc o1).heap.size=w.heap.size+1:=Uk _ _;have s2:((w.alloc o1).alloc o2).heap.size=w.heap.size+1+1:=by rw[Uk,s1]
 have s3:(((w.alloc o1).alloc o2).alloc o2).heap.size=w.heap.size+1+1+1:=by rw[Uk,s2]
 have b1:Bw w (w.alloc o1):=Ba;have b2:Below (w.alloc o1).heap.size (w.alloc o1) ((w.alloc o1).alloc o2):=Ba;have b3:Below ((w.alloc o1).alloc o2).heap.size ((w.alloc o1).alloc o2) (((w.alloc o1).alloc o2).alloc o2):=Ba;have hX0:Q32 (w.alloc o1) w.heap.size (.bool nx) (.int .i64 ex) (.slice ax lx cx) (.slice (some ⟨p,o,none⟩) mx dx):=by rw[ho1];exact Q32.new _ _ _ _ _ _
 have hX:=(hX0.step b2 (by omega)).step b3 (by omega);have hR0:Q32 ((w.alloc o1).alloc o2) (w.alloc o1).heap.size (.int .i64 0) (.int .i64 0) (.int .i64 0) (.int .i64 0):=by rw[ZQ];exact Q32.new _ _ _ _ _ _
 have hR:=hR0.step b3 (by omega);have hP:(((w.alloc o1).alloc o2).alloc o2).heap[w.heap.size+1+1]?=some o2:=by
  have h:=Uo ((w.alloc o1).alloc o2) o2;rw[s2] at h;exact h
 rw[s1] at hR;clear hX0 hR0;have hB:=Below.next0 (Below.next0 b1 b2) b3;rw[ho1,ZQ] at hX hR hB hP s3;generalize E1:((w.alloc (.cells #[.bool nx,.int .i64 ex,.slice ax lx cx,.slice (some ⟨p,o,none⟩) mx dx] 98)).alloc (.cells #[.int .i64 0,.int .i64 0,.int .i64 0,.int .i64 0] 230)).alloc (.cells #[.int .i64 0,.int .i64 0,.int .i64 0,.int .i64 0] 230)=W0 at hX hR hB hP s3;have x3:=hX.c3;have x3d:W0.drew.cell? ⟨w.heap.size,3,none⟩=some (.slice (some ⟨p,o,none⟩) mx dx):=x3;have hmx:mx<=4:=by omega
 have W6:∀j v,(E.map zv)[j]?=some v->W0.drew.cell? ((⟨p,o,none⟩:Addr).add j)=some v:=fun j v hv=>by
  rw[UK] at hv;cases hx:E[j]? with
  |none=>rw[hx] at hv;cases hv
  |some x=>
   rw[hx] at hv;simp only[UE,Up] at hv;subst hv;have V6:(⟨p,o,none⟩:Addr).add j=⟨p,o+j,none⟩:=(by unfold Addr.add;split <;> simp_all);rw[V6];exact (hB.cell (p:=⟨p,o+j,none⟩) hp).trans (hc j x hx)
 have HC:=Xh8 hX hR hB hP s3 W6 Q2 Zk;clear hX hR hB hP s3 s1 s2 b1 b2 b3 ho1 ZQ W6 hc hE Q2 Zk h0
 go_enter Tryz.func186,Tryz.ntmps186
 go_upto_region 2 with fail
 go_cut [] (fun wx=>wx.heap[w.heap.size+1+1]?=some (.cells #[zv a0,zv a1,zv a2,zv a3] 230 (0,0))/\Below (w.heap.size+1+1) W0 wx)
 case first=>
  go_region_law (
   refine step_copy_splice rfl (.tmp 4) (.tmp 6) 96 96 rfl 3 Tryz.underlying96 Y1 (some ⟨w.heap.size+1+1,0,none⟩) (some ⟨p,o,none⟩) 4 4 mx dx rfl rfl (w.heap.size+1+1) 0 [zv 0,zv 0,zv 0,zv 0] 230 (Xo3 HC) (E.map zv) (by rw[UF,(Xo6 HC)];exact (Xa0 hmx).symm) (fun _=>⟨rfl,⟨p,o,none⟩,rfl,(Xo5 HC)⟩) (by simp;omega) (Qwk E) (w.heap.size+1+1) W0 (Qld _ _) (Uf _) ?_;intro w4 hh N1)
  all_goals go_wp2_with fail
  all_goals go_meet
  all_goals exact ⟨by rw[<-(Xe7 HC)];exact hh.out,N1⟩
 case rest=>
  obtain ⟨hh,N1⟩:=hcut;have S7:=(Xo1 HC).step N1 (by omega);have HH:=Ua N1;have q0:=Uw wc (w.heap.size+1+1) 0 _ _ _ hh;have q1:=Uw wc (w.heap.size+1+1) 1 _ _ _ hh;have q2:=Uw wc (w.heap.size+1+1) 2 _ _ _ hh;have q3:=Uw wc (w.heap.size+1+1) 3 _ _ _ hh;simp only[List.getElem?_toArray,US,List.getElem?_cons_succ,zv] at q0 q1 q2 q3;have d1:=(Ud wc ⟨w.heap.size+1,0,none⟩ ⟨w.heap.size+1,1,none⟩ (.int .i64 a0) (by simp)).trans S7.c1;have d2:=((S7.set0 (.int .i64 a0)).set1 (.int .i64 a1)).c2;have d3:=(((S7.set0 (.int .i64 a0)).set1 (.int .i64 a1)).set2 (.int .i64 a2)).c3;obtain ⟨r0,r1,r2⟩:=S7.cc;have r3:=S7.c3;have t0:=S7.f0;have t1:=S7.f1;have t2:=S7.f2;have t3:=S7.f3;have hS:=S7.store (.int .i64 a0) (.int .i64 a1) (.int .i64 a2) (.int .i64 a3);have HS:=Xh2 hS N1;clear S7 hS N1 hh
  go_wp2_with fail
  have hw:=(Xo0 HS);obtain ⟨k0,k1,k2⟩:=hw.cc;have k3:=hw.c3;have G3:=(((((Xo2 HC).trans (show Below w.heap.size W0 wc from ⟨(Xe1 HS).os,(Xe1 HS).tape,(Xe1 HS).output,(Xe1 HS).size,fun k hk=>(Xe1 HS).block k (by omega)⟩)).setCell (p:=⟨w.heap.size+1,0,none⟩) (by show w.heap.size<=w.heap.size+1;omega) (.int .i64 a0)).setCell (p:=⟨w.heap.size+1,1,none⟩) (by show w.heap.size<=w.heap.size+1;omega) (.int .i64 a1)).setCell (p:=⟨w.heap.size+1,2,none⟩) (by show w.heap.size<=w.heap.size+1;omega) (.int .i64 a2)).setCell (p:=⟨w.heap.size+1,3,none⟩) (by show w.heap.size<=w.heap.size+1;omega) (.int .i64 a3);refine ⟨rfl,.agg #[.int .i64 a0,.int .i64 a1,.int .i64 a2,.int .i64 a3],by simp[results,go_sem,k0,k1,k2,k3],rfl,G3⟩
open DecM
mutual
def Q48 (m:Nat):Ex->Prop
 | .num none=>True
 | .num (some c)=>Q64 c
 | .var i=>i<m
 | .sum l=>Q87 m l
 | .prod l=>Q8p m l
 | .pow b k=>Q48 m b/\k<=8
def Q87 (m:Nat):List (Bool × Ex)->Prop
 |[]=>True
 |(_,x)::r=>Q48 m x/\Q87 m r
def Q8p (m:Nat):List Ex->Prop
 |[]=>True
 |x::r=>Q48 m x/\Q8p m r
end
theorem Qis {m:Nat}:∀{l r:List (Bool × Ex)},Q87 m l->Q87 m r->Q87 m (l++r)
 |[],_,_,h=>h
 |(_,_)::_,_,h,h'=>by
  rw[To,Q87];rw[Q87] at h;exact ⟨h.1,Qis h.2 h'⟩
theorem Qit {m:Nat}:∀{l r:List Ex},Q8p m l->Q8p m r->Q8p m (l++r)
 |[],_,_,h=>h
 |_::_,_,h,h'=>by
  rw[To,Q8p];rw[Q8p] at h;exact ⟨h.1,Qit h.2 h'⟩
def Q2l (s:LU) (p q:Nat):Prop:=∀j,p<=j->j<q->Q08 s j≠10
theorem Q2l.trans {s:LU} {p q r:Nat} (h:Q2l s p q) (h':Q2l s q r):Q2l s p r:=fun j h1 h2=>by
 by_cases e:j<q
 ·exact h j h1 e
 ·exact h' j (by omega) h2
theorem Q2l.one {s:LU} {p:Nat} (h:Q08 s p≠10):Q2l s p (p+1):=fun j h1 h2=>by
 obtain rfl:j=p:=by omega
 exact h
theorem Q2l.nil_ (s:LU) (p:Nat):Q2l s p p:=fun j h1 h2=>by omega
theorem Q6f {s:LU} {j:Nat} (h:j<s.length):Q08 s j=s[j]:=by
 unfold Q08;rw[Te,Ub h];rfl
theorem Qaf (s:LU) (p:Nat):Q2l s p (Q1k s p):=by
 intro j h1 h2 h3;unfold Q1k at h2;have E0:=Q0k h3 (by decide);have hm:s[j]∈(s.drop p).take (digN (s.drop p)):=by
  rw[UQ];exact ⟨j-p,by rw[TL,Uu (by omega),Xa4,show p+(j-p)=j by omega,Ub E0]⟩
 have:=Q7h _ _ hm;rw[<-Q6f E0,h3] at this;exact absurd this.1 (by decide)
theorem Q1q (s:LU):∀p,Q2l s p (Q05 s p):=by
 have key:∀n p,s.length-p=n->Q2l s p (Q05 s p):=by
  intro n
  induction n using Nat.strongRecOn with
  |ind n ih=>
   intro p hn
   by_cases h:Q08 s p=32
   ·have hp:=Q0k h (by decide);rw[Q68 h];exact (Q2l.one (by rw[h];decide)).trans (ih (s.length-(p+1)) (by omega) (p+1) rfl)
   ·rw[Q7i h];exact Q2l.nil_ s p
 exact fun p=>key _ p rfl
theorem Qs3 (s:LU) (p:Nat):Q2l s p (Qba s p):=by
 have h1:=Qaf s p;unfold Qba
 split
 ·rename_i h2;have h3:Q2l s (Q1k s p) (Q1k s p+1):=Q2l.one (by rw[h2];decide)
  split
  ·rename_i h4;exact (h1.trans h3).trans ((Q2l.one (p:=Q1k s p+1) (by rw[h4];decide)).trans (Qaf s _))
  ·exact (h1.trans h3).trans (Qaf s _)
 ·exact h1
theorem Qda {s:LU} {p:Nat} (h:48<=(Q08 s p).toNat):Q2l s p (p+1):=Q2l.one fun e=>by rw[e] at h;exact absurd h (by decide)
def Clr (s:LU) (m p:Nat) (r:PR Ex):Prop:=
 match r with
 | .error _=>True
 | .ok (x,q)=>Q48 m x/\Q2l s p q
theorem Qxl (s:LU) (m p:Nat):Clr s m p (Qki s p):=by
 unfold Qki
 split
 ·trivial
 ·refine ⟨?_,Qs3 s p⟩
  split
  ·rename_i h;rw[Q48];exact (Q1j _).1 h
  ·rw[Q48];trivial
theorem Clr.from {s:LU} {m p q:Nat} {r:PR Ex} (h:Clr s m q r) (h':Q2l s p q):Clr s m p r:=by
 revert h
 cases r with
 |error e=>exact id
 |ok z=>exact fun h=>⟨h.1,h'.trans h.2⟩
theorem Qv6 {sub:Nat->PR Ex} {opens:Bool} {s:LU} {m:Nat} (hs:opens=true->∀p,Clr s m p (sub p)) (p:Nat):Clr s m p (Q69 sub opens s m p):=by
 have h1:=Q1q s p;unfold Q69
 split
 ·exact (Qxl s m _).from h1
 ·split
  ·rename_i h3
   split
   ·rename_i h5;refine ⟨?_,h1.trans ((Q2l.one (by rw[h3];decide)).trans (Qda (p:=Q05 s p+1) (by omega)))⟩;rw[Q48];omega
   ·trivial
  ·split
   ·rename_i h3;have h5:=hs h3.2 (Q05 s p+1)
    revert h5
    cases sub (Q05 s p+1) with
    |error e=>exact id
    |ok r=>
     obtain ⟨x,q⟩:=r;intro h5;have I7:Q48 m x/\Q2l s (Q05 s p+1) q:=h5;simp only
     split
     ·rename_i h8;exact ⟨I7.1,h1.trans ((Q2l.one (by rw[h3.1];decide)).trans (I7.2.trans ((Q1q s q).trans (Q2l.one (by rw[h8];decide)))))⟩
     ·trivial
   ·trivial
theorem Qop {sub:Nat->PR Ex} {opens:Bool} {s:LU} {m:Nat} (hs:opens=true->∀p,Clr s m p (sub p)) (p:Nat):Clr s m p (Q2s sub opens s m p):=by
 have h5:=Qv6 hs p;unfold Q2s
 revert h5
 cases Q69 sub opens s m p with
 |error e=>exact id
 |ok r=>
  obtain ⟨x,q⟩:=r;intro h5;have I7:Q48 m x/\Q2l s p q:=h5;simp only
  split
  ·rename_i h8
   split
   ·rename_i QN;refine ⟨?_,I7.2.trans ((Q1q s q).trans ((Q2l.one (by rw[h8];decide)).trans ((Q1q s _).trans (Qda QN.1))))⟩;rw[Q48];exact ⟨I7.1,by omega⟩
   ·trivial
  ·exact ⟨I7.1,I7.2.trans (Q1q s q)⟩
theorem Qmy {sub:Nat->PR Ex} {opens:Bool} {s:LU} {m:Nat} (hs:opens=true->∀p,Clr s m p (sub p)):∀(f p:Nat) (acc:List Ex),Q8p m acc->Clr s m p (Q57 sub opens s m f p acc)
 |0,p,acc,_=>trivial
 |f+1,p,acc,ha=>by
  have h5:=Qop hs p;unfold Q57
  revert h5
  cases Q2s sub opens s m p with
  |error e=>exact id
  |ok r=>
   obtain ⟨x,q⟩:=r;intro h5;have I7:Q48 m x/\Q2l s p q:=h5;have hg:Q8p m (acc++[x]):=Qit ha (by rw[Q8p,Q8p];exact ⟨I7.1,trivial⟩);simp only
   split
   ·rename_i h8;exact (Qmy hs f (Q05 s q+1) (acc++[x]) hg).from (I7.2.trans ((Q1q s q).trans (Q2l.one (by rw[h8];decide))))
   ·refine ⟨?_,I7.2.trans (Q1q s q)⟩;rw[Q48];exact hg
theorem Qgs {sub:Nat->PR Ex} {opens:Bool} {s:LU} {m:Nat} (hs:opens=true->∀p,Clr s m p (sub p)):∀(f p:Nat) (below:Bool) (acc:List (Bool × Ex)),Q87 m acc->Clr s m p (Qbb sub opens s m f p below acc)
 |0,p,below,acc,_=>trivial
 |f+1,p,below,acc,ha=>by
  have h5:=Qmy hs (s.length+1) p [] (by rw[Q8p];trivial);unfold Qbb
  revert h5
  cases Q57 sub opens s m (s.length+1) p [] with
  |error e=>exact id
  |ok r=>
   obtain ⟨x,q⟩:=r;intro h5;have I7:Q48 m x/\Q2l s p q:=h5;have hg:Q87 m (acc++[(below,x)]):=Qis ha (by rw[Q87,Q87];exact ⟨I7.1,trivial⟩);simp only
   split
   ·rename_i h8;exact (Qgs hs f (Q05 s q+1) false (acc++[(below,x)]) hg).from (I7.2.trans ((Q1q s q).trans (Q2l.one (by rw[h8];decide))))
   ·split
    ·rename_i h8;exact (Qgs hs f (Q05 s q+1) true (acc++[(below,x)]) hg).from (I7.2.trans ((Q1q s q).trans (Q2l.one (by rw[h8];decide))))
    ·refine ⟨?_,I7.2.trans (Q1q s q)⟩;rw[Q48];exact hg
theorem Qiu {sub:Nat->PR Ex} {opens:Bool} {s:LU} {m:Nat} (hs:opens=true->∀p,Clr s m p (sub p)) (p:Nat):Clr s m p (Q7j sub opens s m p):=by
 unfold Q7j
 split
 ·rename_i h8;exact (Qgs hs (s.length+1) (Q05 s p+1) true [] (by rw[Q87];trivial)).from ((Q1q s p).trans (Q2l.one (by rw[h8];decide)))
 ·exact (Qgs hs (s.length+1) (Q05 s p) false [] (by rw[Q87];trivial)).from (Q1q s p)
theorem Qmz (s:LU) (m:Nat):∀(d p:Nat),Clr s m p (Q84 s m d p)
 |0,p=>Qiu (fun h=>by cases h) p
 |d+1,p=>Qiu (fun _ p=>Qmz s m d p) p
theorem Qdb {s:LU}:∀(t:LU) (p q:Nat),Q2e s t p=.ok q->(10:UInt8)∉t->q=p+t.length/\Q2l s p q
 |[],p,q,h,_=>by
  rw[Q2e] at h;injection h with h;subst h;exact ⟨rfl,Q2l.nil_ s p⟩
 |c::r,p,q,h,hn=>by
  rw[Q2e] at h
  split at h
  ·rename_i h1;obtain ⟨e,h2⟩:=Qdb r (p+1) q h (fun hm=>hn (Xaa _ hm));refine ⟨by rw[e,Um];omega,(Q2l.one (fun e=>hn ?_)).trans h2⟩;rw[<-h1,e];exact Xad
  ·cases h
theorem Qiv {s:LU}:∀(t:LU) (p q:Nat),Q2e s t p=.ok q->(0:UInt8)∉t->p<=s.length->q<=s.length
 |[],p,q,h,_,hp=>by
  rw[Q2e] at h;injection h with h;subst h;exact hp
 |c::r,p,q,h,hn,hp=>by
  rw[Q2e] at h
  split at h
  ·rename_i h1;exact Qiv r (p+1) q h (fun hm=>hn (Xaa _ hm)) (Q0k h1 (fun e=>hn (by rw[e];exact Xad)))
  ·cases h
theorem Qs4 {i:Nat} (hi:i<9):(0:UInt8)∉Q3f i:=by
 rw[Q3f,Q6u (by omega)];intro h;simp only[UG,Xa6,or_false,To,TC] at h;rcases h with h|h|h|h|h|h
 ·exact absurd h (by decide)
 ·have:=Q9a (i:=i+1) (by omega);rw[<-h] at this;have L8:(0:UInt8).toNat=0:=rfl;omega
 all_goals exact absurd h (by decide)
theorem Qv7 {i:Nat} (hi:i<9):(10:UInt8)∉Q3f i:=by
 rw[Q3f,Q6u (by omega)];intro h;simp only[UG,Xa6,or_false,To,TC] at h;rcases h with h|h|h|h|h|h
 ·exact absurd h (by decide)
 ·have:=Q9a (i:=i+1) (by omega);rw[<-h] at this;have L8:(10:UInt8).toNat=10:=rfl;omega
 all_goals exact absurd h (by decide)
theorem Qv8 {s:LU} {m i p q:Nat} {x:Ex} (hi:i<9) (hp:p<=s.length) (h:Qg5 s m i p=.ok (x,q)):∃r,q=r+1/\Q08 s r=10/\Q2l s p r/\Q48 m x/\p<=r/\q<=s.length:=by
 unfold Qg5 at h;cases hf:Q2e s (Q3f i) p with
 |error e=>rw[hf] at h;cases h
 |ok p1=>
  rw[hf] at h;obtain ⟨h1,h2⟩:=Qdb _ _ _ hf (Qv7 hi);simp only at h;have h3:=Qmz s m 16 p1;cases he:Q84 s m 16 p1 with
  |error e=>rw[he] at h;cases h
  |ok z=>
   obtain ⟨y,t⟩:=z;rw[he] at h h3;simp only at h;have Vi:Q48 m y/\Q2l s p1 t:=h3
   split at h
   ·rename_i h4;injection h with h;injection h with h5 h6;subst h5;have h7:=Q0k h4 (by decide);have h8:=Qiv _ _ _ hf (Qs4 hi) hp;have h9:=Qa6 s m 16 p1 h8;rw[he] at h9;have h9':p1<t/\t<=s.length:=h9;have L8:=Q5z s t;exact ⟨Q05 s t,h6.symm,h4,h2.trans (Vi.2.trans (Q1q s t)),Vi.1,by omega,by omega⟩
   ·cases h
theorem Qf9 {s:LU}:∀(n p r:Nat),r-p=n->p<=r->Q2l s p r->Q08 s r=10->(s.drop p).count 10=1+(s.drop (r+1)).count 10
 |0,p,r,hn,hp,_,h=>by
  obtain rfl:p=r:=by omega
  have hl:=Q0k h (by decide);rw[UB hl,<-Q6f hl,h,List.count_cons_self,Xbd]
 |n+1,p,r,hn,hp,hc,h=>by
  have hl:=Q0k h (by decide);have x7:p<s.length:=by omega
  have h1:=hc p (Uf _) (by omega);rw[UB x7,List.count_cons_of_ne (by rw[<-Q6f x7];exact h1)];exact Qf9 n (p+1) r (by omega) (by omega) (fun j h2 h3=>hc j (by omega) h3) h
theorem Qiw {s:LU} {m:Nat}:∀(f p:Nat) (acc l:List (Nat × Ex)),p<=s.length->acc.length+f<=4->Q4s s m f p acc=.ok l->(∀z∈acc,Q48 m z.2)->l.length=acc.length+(s.drop p).count 10/\acc.length<l.length/\l.length<=acc.length+f/\∀z∈l,Q48 m z.2
 |0,p,acc,l,_,_,h,_=>by rw[Q4s] at h;cases h
 |f+1,p,acc,l,hp,hf,h,ha=>by
  rw[Q4s] at h;cases hl:Qg5 s m acc.length p with
  |error e=>rw[hl] at h;cases h
  |ok z=>
   obtain ⟨x,q⟩:=z;rw[hl] at h;simp only at h;obtain ⟨r,rfl,h1,h2,h3,h4,h5⟩:=Qv8 (by omega) hp hl;have hc:=Qf9 _ p r rfl h4 h2 h1;have WM:∀z∈acc++[(p,x)],Q48 m z.2:=fun z hz=>by
    rcases Tp.1 hz with hz|hz
    ·exact ha z hz
    ·rw[UC] at hz;subst hz;exact h3
   split at h
   ·obtain ⟨g1,g2,g3,g4⟩:=Qiw f (r+1) (acc++[(p,x)]) l h5 (by simp only[Uh,Xas];omega) h WM;simp only[Uh,Xas] at g1 g2 g3;exact ⟨by omega,by omega,by omega,g4⟩
   ·rename_i h6;injection h with h;subst h;rw[hc,Tc (by omega)];simp only[Uh,Xas,List.count_nil];exact ⟨trivial,by omega,by omega,WM⟩
theorem Qoq {s:LU} {l:List (Nat × Ex)} (h:Q4s s (min (s.count 10) 4) 4 0 []=.ok l):1<=l.length/\l.length<=4/\∀z∈l,Q48 l.length z.2:=by
 obtain ⟨h1,h2,h3,h4⟩:=Qiw 4 0 [] l (Ut _) (by simp) h (fun z hz=>by cases hz);simp only[UP,UV,Xba] at h1 h2 h3;have:min (s.count 10) 4=l.length:=by omega
 rw[this] at h4;exact ⟨by omega,h3,h4⟩
theorem Qdc (n:Nat):Q10 n (List.replicate n 0):=⟨List.length_replicate ..,fun x hx=>by rw[TV hx];exact Int.le_refl _,by rw[Qhz];decide⟩
theorem Qor {n i:Nat} (hi:i<n):Q10 n (Qb9 n i):=by
 have hs:=Q4h n i 1 hi;refine ⟨by simp[Qb9],fun x hx=>?_,by show (Q38 n i 1).sum<=8;omega⟩;obtain ⟨j,hj⟩:=UQ.1 hx;unfold Qb9 at hj
 by_cases e:i=j
 ·subst e;rw[TN (by simpa using hi)] at hj;injection hj with hj;omega
 ·rw[Th e,TK] at hj
  split at hj
  ·injection hj with hj;omega
  ·cases hj
end Go.Proofs.YtidojbkhlenahaaGreatDoor
namespace Go.Proofs.YtidojbkhlenahaaGreatDoor
open Go.RowKit WordsM
structure Q0o (w:World) (R:Nat) (s:ByteArray) (p m d:Int) (bad:Bool):Prop where
 c0:w.cell? ⟨R,0,none⟩=some (.string s)
 c1:w.cell? ⟨R,1,none⟩=some (.int .i64 p)
 c2:w.cell? ⟨R,2,none⟩=some (.int .i64 m)
 c3:w.cell? ⟨R,3,none⟩=some (.int .i64 d)
 c4:w.cell? ⟨R,4,none⟩=some (.bool bad)
 f0:w.frozen? ⟨R,0,none⟩=false
 f1:w.frozen? ⟨R,1,none⟩=false
 f2:w.frozen? ⟨R,2,none⟩=false
 f3:w.frozen? ⟨R,3,none⟩=false
 f4:w.frozen? ⟨R,4,none⟩=false
 lt:R<w.heap.size
 c5:∀o,5<=o->w.cell? ⟨R,o,none⟩=none
theorem Q0o.cc {w:World} {R:Nat} {s:ByteArray} {p m d:Int} {bad:Bool} (h:Q0o w R s p m d bad):w.cell? ⟨R,0,none⟩=some (.string s)/\w.cell? ⟨R,1,none⟩=some (.int .i64 p)/\w.cell? ⟨R,2,none⟩=some (.int .i64 m):=⟨h.c0,h.c1,h.c2⟩
theorem Q0o.cf {w:World} {R:Nat} {s:ByteArray} {p m d:Int} {bad:Bool} (h:Q0o w R s p m d bad):w.cell? ⟨R,0,none⟩=some (.string s)/\w.cell? ⟨R,1,none⟩=some (.int .i64 p)/\w.cell? ⟨R,2,none⟩=some (.int .i64 m)/\w.frozen? ⟨R,0,none⟩=false/\w.frozen? ⟨R,1,none⟩=false/\w.frozen? ⟨R,2,none⟩=false:=⟨h.c0,h.c1,h.c2,h.f0,h.f1,h.f2⟩
abbrev OnR (R:Nat):Nat->Prop:=fun k=>k=R
section
variable {w w':World} {R:Nat} {s:ByteArray} {p m d:Int} {bad:Bool}
theorem Q0o.step (h:Q0o w R s p m d bad) (hb:Bw w w'):Q0o w' R s p m d bad:=
 ⟨(hb.cell (p:=⟨R,0,none⟩) h.lt).trans h.c0,(hb.cell (p:=⟨R,1,none⟩) h.lt).trans h.c1,(hb.cell (p:=⟨R,2,none⟩) h.lt).trans h.c2,(hb.cell (p:=⟨R,3,none⟩) h.lt).trans h.c3,(hb.cell (p:=⟨R,4,none⟩) h.lt).trans h.c4,
   (hb.frozen (p:=⟨R,0,none⟩) h.lt).trans h.f0,(hb.frozen (p:=⟨R,1,none⟩) h.lt).trans h.f1,(hb.frozen (p:=⟨R,2,none⟩) h.lt).trans h.f2,(hb.frozen (p:=⟨R,3,none⟩) h.lt).trans h.f3,(hb.frozen (p:=⟨R,4,none⟩) h.lt).trans h.f4,Ue h.lt hb.size,fun o ho=>(hb.cell (p:=⟨R,o,none⟩) h.lt).trans (h.c5 o ho)⟩
theorem Q0o.drewN (h:Q0o w R s p m d bad) (k:Nat):Q0o (w.drewN k) R s p m d bad:=⟨h.c0,h.c1,h.c2,h.c3,h.c4,h.f0,h.f1,h.f2,h.f3,h.f4,h.lt,h.c5⟩
theorem Q0o.drew (h:Q0o w R s p m d bad):Q0o w.drew R s p m d bad:=⟨h.c0,h.c1,h.c2,h.c3,h.c4,h.f0,h.f1,h.f2,h.f3,h.f4,h.lt,h.c5⟩
theorem Q0o.setAt (h:Q0o w R s p m d bad) (q:Int):Q0o (w.setCell ⟨R,1,none⟩ (.int .i64 q)) R s q m d bad:=
 ⟨(Ud _ _ _ _ (by simp)).trans h.c0,UD _ _ _ (by rw[h.c1];rfl),(Ud _ _ _ _ (by simp)).trans h.c2,(Ud _ _ _ _ (by simp)).trans h.c3,(Ud _ _ _ _ (by simp)).trans h.c4,
   (Un _ _ _ _).trans h.f0,(Un _ _ _ _).trans h.f1,(Un _ _ _ _).trans h.f2,(Un _ _ _ _).trans h.f3,(Un _ _ _ _).trans h.f4,by rw[Tj];exact h.lt,fun o ho=>(Ud _ _ _ _ (fun e=>by injection e with _ e _;omega)).trans (h.c5 o ho)⟩
theorem Q0o.setDeep (h:Q0o w R s p m d bad) (q:Int):Q0o (w.setCell ⟨R,3,none⟩ (.int .i64 q)) R s p m q bad:=
 ⟨(Ud _ _ _ _ (by simp)).trans h.c0,(Ud _ _ _ _ (by simp)).trans h.c1,(Ud _ _ _ _ (by simp)).trans h.c2,UD _ _ _ (by rw[h.c3];rfl),(Ud _ _ _ _ (by simp)).trans h.c4,
   (Un _ _ _ _).trans h.f0,(Un _ _ _ _).trans h.f1,(Un _ _ _ _).trans h.f2,(Un _ _ _ _).trans h.f3,(Un _ _ _ _).trans h.f4,by rw[Tj];exact h.lt,fun o ho=>(Ud _ _ _ _ (fun e=>by injection e with _ e _;omega)).trans (h.c5 o ho)⟩
theorem Q0o.setBad (h:Q0o w R s p m d bad) (q:Bool):Q0o (w.setCell ⟨R,4,none⟩ (.bool q)) R s p m d q:=
 ⟨(Ud _ _ _ _ (by simp)).trans h.c0,(Ud _ _ _ _ (by simp)).trans h.c1,(Ud _ _ _ _ (by simp)).trans h.c2,(Ud _ _ _ _ (by simp)).trans h.c3,UD _ _ _ (by rw[h.c4];rfl),
   (Un _ _ _ _).trans h.f0,(Un _ _ _ _).trans h.f1,(Un _ _ _ _).trans h.f2,(Un _ _ _ _).trans h.f3,(Un _ _ _ _).trans h.f4,by rw[Tj];exact h.lt,fun o ho=>(Ud _ _ _ _ (fun e=>by injection e with _ e _;omega)).trans (h.c5 o ho)⟩
theorem Q1y (w:World) (R o:Nat) (v:Value):Q0v (OnR R) w (w.setCell ⟨R,o,none⟩ v):=Q0v.setCell (OnR R) w rfl v
end
def nxB (s:LU) (p:Nat) (bad:Bool):UInt8:=if bad=true then 0 else Q08 s p
def skS (s:LU) (p:Nat) (bad:Bool):Nat:=if bad=true then p else Q05 s p
theorem Qxm {s:LU} {p:Nat} {bad:Bool} (h:nxB s p bad≠0):bad=false/\p<s.length/\nxB s p bad=Q08 s p:=by
 unfold nxB at h⊢;cases bad
 ·exact ⟨rfl,Q67 (by simpa using h),rfl⟩
 ·exact absurd rfl h
def Qxn (fp:Nat->Prop) (a:OA) (L:LN):Prop:=L=[]∨∀x,a=some x->¬fp x.block
theorem WordsIn.turn {w w':World} {fp fq:Nat->Prop} {a:OA} {n c:Nat} {L:LN} (h:WordsIn w a n c L) (ho:Qxn fp a L) (ht:Q0v fq w w') (hs:∀k,fq k->fp k):WordsIn w' a n c L:=by
 refine ⟨h.len,h.cap,h.most,h.low,?_⟩;rcases ho with rfl|ho
 ·exact .inl rfl
 rcases h.rd with h0|⟨b,o,rfl,hb,hc⟩
 ·exact .inl h0
 ·exact .inr ⟨b,o,rfl,Ue hb ht.size,fun j x hx=>(ht.cell (p:=⟨b,o+j,none⟩) hb (fun hk=>ho _ rfl (hs _ hk))).trans (hc j x hx)⟩
theorem Qxn.more {w:World} {fp fp':Nat->Prop} {a:OA} {n c:Nat} {L:LN} (ho:Qxn fp a L) (h:WordsIn w a n c L) (hs:∀k,fp' k->fp k∨w.heap.size<=k):Qxn fp' a L:=by
 rcases ho with rfl|ho
 ·exact .inl rfl
 rcases h.rd with h0|⟨b,o,rfl,hb,hc⟩
 ·exact .inl h0
 ·refine .inr fun x hx hk=>?_;injection hx with hx;subst hx;rcases hs _ hk with h1|h1
  ·exact ho _ rfl h1
  ·exact absurd hb (Nat.not_lt_of_le h1)
mutual
def Q2v (fp:Nat->Prop) (w:World):Ex->Value->Prop
 | .num none,v=>∃(b:Bool) (e:Int) (a:OA) (l k:Nat),v=.iface 171 (.agg #[.bool b,.int .i64 e,.slice a l k,.int .i64 2])
 | .num (some c),v=>∃n e a l k L,v=.iface 171 (.agg #[.bool n,.int .i64 e,.slice a l k,.int .i64 0])/\WordsIn w a l k L/\Qxn fp a L/\Q0a n e L/\Q1r n e L=c
 | .var i,v=>v=.iface 174 (.agg #[.int .i64 (i:Int)])
 | .sum l,v=>∃a b c d,v=.iface 178 (.agg #[.slice (some ⟨a,0,none⟩) l.length c,.slice (some ⟨b,0,none⟩) l.length d])/\¬fp a/\¬fp b/\a<w.heap.size/\b<w.heap.size/\l.length<=c/\c<=maxLen/\l.length<=d/\d<=maxLen/\l≠[]/\Qbe fp w a b 0 l
 | .prod l,v=>∃a c,v=.iface 181 (.agg #[.slice (some ⟨a,0,none⟩) l.length c])/\¬fp a/\a<w.heap.size/\l.length<=c/\c<=maxLen/\l≠[]/\Qag fp w a 0 l
 | .pow x k,v=>∃u,v=.iface 184 (.agg #[u,.int .i64 (k:Int)])/\Q2v fp w x u
def Qbe (fp:Nat->Prop) (w:World) (a b:Nat) (o:Nat):List (Bool × Ex)->Prop
 |[]=>True
 |(t,x)::r=>(∃u,w.cell? ⟨a,o,none⟩=some u/\Q2v fp w x u)/\w.cell? ⟨b,o,none⟩=some (.bool t)/\Qbe fp w a b (o+1) r
def Qag (fp:Nat->Prop) (w:World) (a:Nat) (o:Nat):List Ex->Prop
 |[]=>True
 |x::r=>(∃u,w.cell? ⟨a,o,none⟩=some u/\Q2v fp w x u)/\Qag fp w a (o+1) r
end
mutual
theorem Q2v.turn {fp fq:Nat->Prop} {w w':World} (ht:Q0v fq w w') (hs:∀k,fq k->fp k):∀{x:Ex} {v:Value},Q2v fp w x v->Q2v fp w' x v
 | .num none,v,h=>by rw[Q2v] at h⊢;exact h
 | .num (some c),v,h=>by
   rw[Q2v] at h⊢;obtain ⟨n,e,a,l,k,L,rfl,h1,h2,h3,h4⟩:=h;exact ⟨n,e,a,l,k,L,rfl,h1.turn h2 ht hs,h2,h3,h4⟩
 | .var i,v,h=>by rw[Q2v] at h⊢;exact h
 | .sum l,v,h=>by
   rw[Q2v] at h⊢;obtain ⟨a,b,c,d,h0,h1,h2,h3,h4,h5,h6,h7,h8,h9,L8⟩:=h;exact ⟨a,b,c,d,h0,h1,h2,Ue h3 ht.size,Ue h4 ht.size,h5,h6,h7,h8,h9,Qbe.turn ht hs (fun hk=>h1 (hs _ hk)) (fun hk=>h2 (hs _ hk)) h3 h4 L8⟩
 | .prod l,v,h=>by
   rw[Q2v] at h⊢;obtain ⟨a,c,h0,h1,h2,h3,h4,h5,h6⟩:=h;exact ⟨a,c,h0,h1,Ue h2 ht.size,h3,h4,h5,Qag.turn ht hs (fun hk=>h1 (hs _ hk)) h2 h6⟩
 | .pow x k,v,h=>by
   rw[Q2v] at h⊢;obtain ⟨u,h0,h1⟩:=h;exact ⟨u,h0,Q2v.turn ht hs h1⟩
theorem Qbe.turn {fp fq:Nat->Prop} {w w':World} (ht:Q0v fq w w') (hs:∀k,fq k->fp k) {a b:Nat} (ha:¬fq a) (hb:¬fq b) (Q9:a<w.heap.size) (D0:b<w.heap.size):∀{l:List (Bool × Ex)} {o:Nat},Qbe fp w a b o l->Qbe fp w' a b o l
 |[],_,_=>by rw[Qbe];trivial
 |(t,x)::r,o,h=>by
  rw[Qbe] at h⊢;obtain ⟨⟨u,h1,h2⟩,h3,h4⟩:=h;exact ⟨⟨u,(ht.cell (p:=⟨a,o,none⟩) Q9 ha).trans h1,Q2v.turn ht hs h2⟩,(ht.cell (p:=⟨b,o,none⟩) D0 hb).trans h3,Qbe.turn ht hs ha hb Q9 D0 h4⟩
theorem Qag.turn {fp fq:Nat->Prop} {w w':World} (ht:Q0v fq w w') (hs:∀k,fq k->fp k) {a:Nat} (ha:¬fq a) (Q9:a<w.heap.size):∀{l:List Ex} {o:Nat},Qag fp w a o l->Qag fp w' a o l
 |[],_,_=>by rw[Qag];trivial
 |x::r,o,h=>by
  rw[Qag] at h⊢;obtain ⟨⟨u,h1,h2⟩,h4⟩:=h;exact ⟨⟨u,(ht.cell (p:=⟨a,o,none⟩) Q9 ha).trans h1,Q2v.turn ht hs h2⟩,Qag.turn ht hs ha Q9 h4⟩
end
mutual
theorem Q2v.more {fp fp':Nat->Prop} {w:World} (hs:∀k,fp' k->fp k∨w.heap.size<=k):∀{x:Ex} {v:Value},Q2v fp w x v->Q2v fp' w x v
 | .num none,v,h=>by rw[Q2v] at h⊢;exact h
 | .num (some c),v,h=>by
   rw[Q2v] at h⊢;obtain ⟨n,e,a,l,k,L,rfl,h1,h2,h3,h4⟩:=h;exact ⟨n,e,a,l,k,L,rfl,h1,h2.more h1 hs,h3,h4⟩
 | .var i,v,h=>by rw[Q2v] at h⊢;exact h
 | .sum l,v,h=>by
   rw[Q2v] at h⊢;obtain ⟨a,b,c,d,h0,h1,h2,h3,h4,h5,h6,h7,h8,h9,L8⟩:=h;exact ⟨a,b,c,d,h0,fun hk=>(hs _ hk).elim h1 (Nat.not_le_of_lt h3),fun hk=>(hs _ hk).elim h2 (Nat.not_le_of_lt h4),h3,h4,h5,h6,h7,h8,h9,Qbe.more hs L8⟩
 | .prod l,v,h=>by
   rw[Q2v] at h⊢;obtain ⟨a,c,h0,h1,h2,h3,h4,h5,h6⟩:=h;exact ⟨a,c,h0,fun hk=>(hs _ hk).elim h1 (Nat.not_le_of_lt h2),h2,h3,h4,h5,Qag.more hs h6⟩
 | .pow x k,v,h=>by
   rw[Q2v] at h⊢;obtain ⟨u,h0,h1⟩:=h;exact ⟨u,h0,Q2v.more hs h1⟩
theorem Qbe.more {fp fp':Nat->Prop} {w:World} (hs:∀k,fp' k->fp k∨w.heap.size<=k) {a b:Nat}:∀{l:List (Bool × Ex)} {o:Nat},Qbe fp w a b o l->Qbe fp' w a b o l
 |[],_,_=>by rw[Qbe];trivial
 |(t,x)::r,o,h=>by
  rw[Qbe] at h⊢;obtain ⟨⟨u,h1,h2⟩,h3,h4⟩:=h;exact ⟨⟨u,h1,Q2v.more hs h2⟩,h3,Qbe.more hs h4⟩
theorem Qag.more {fp fp':Nat->Prop} {w:World} (hs:∀k,fp' k->fp k∨w.heap.size<=k) {a:Nat}:∀{l:List Ex} {o:Nat},Qag fp w a o l->Qag fp' w a o l
 |[],_,_=>by rw[Qag];trivial
 |x::r,o,h=>by
  rw[Qag] at h⊢;obtain ⟨⟨u,h1,h2⟩,h4⟩:=h;exact ⟨⟨u,h1,Q2v.more hs h2⟩,Qag.more hs h4⟩
end
theorem Q2v.step {fp:Nat->Prop} {w w':World} {x:Ex} {v:Value} (h:Q2v fp w x v) (hb:Bw w w'):Q2v fp w' x v:=h.turn (Q0v.of_below hb fun _=>False) fun _ h=>h.elim
def Q1b (fp:Nat->Prop) (w:World):List Ex->LV->Prop
 |[],[]=>True
 |x::r,v::s=>Q2v fp w x v/\Q1b fp w r s
 |_,_=>False
theorem Q1b.turn {fp fq:Nat->Prop} {w w':World} (ht:Q0v fq w w') (hs:∀k,fq k->fp k):∀{l:List Ex} {vs:LV},Q1b fp w l vs->Q1b fp w' l vs
 |[],[],h=>h
 |_::_,_::_,h=>⟨h.1.turn ht hs,Q1b.turn ht hs h.2⟩
 |[],_::_,h=>h.elim
 |_::_,[],h=>h.elim
theorem Q1b.more {fp fp':Nat->Prop} {w:World} (hs:∀k,fp' k->fp k∨w.heap.size<=k):∀{l:List Ex} {vs:LV},Q1b fp w l vs->Q1b fp' w l vs
 |[],[],h=>h
 |_::_,_::_,h=>⟨h.1.more hs,Q1b.more hs h.2⟩
 |[],_::_,h=>h.elim
 |_::_,[],h=>h.elim
theorem Q1b.len {fp:Nat->Prop} {w:World}:∀{l:List Ex} {vs:LV},Q1b fp w l vs->l.length=vs.length
 |[],[],_=>rfl
 |_::_,_::_,h=>congrArg (·+1) (Q1b.len h.2)
 |[],_::_,h=>h.elim
 |_::_,[],h=>h.elim
theorem Q1b.snoc {fp:Nat->Prop} {w:World} {x:Ex} {v:Value} (hx:Q2v fp w x v):∀{l:List Ex} {vs:LV},Q1b fp w l vs->Q1b fp w (l++[x]) (vs++[v])
 |[],[],_=>⟨hx,trivial⟩
 |_::_,_::_,h=>⟨h.1,Q1b.snoc hx h.2⟩
 |[],_::_,h=>h.elim
 |_::_,[],h=>h.elim
theorem Q1b.row {fp:Nat->Prop} {w:World} {g:Nat}:∀{l:List Ex} {vs:LV} (o:Nat),Q1b fp w l vs->(∀(j:Nat) v,vs[j]?=some v->w.cell? ⟨g,o+j,none⟩=some v)->Qag fp w g o l
 |[],[],_,_,_=>by rw[Qag];trivial
 |_::_,v::_,o,h,hc=>by
  rw[Qag];refine ⟨⟨v,by simpa using hc 0 v rfl,h.1⟩,Q1b.row (o+1) h.2 fun j u hu=>?_⟩;have:=hc (j+1) u (by simpa using hu);rwa[show o+(j+1)=o+1+j by omega] at this
 |[],_::_,_,h,_=>h.elim
 |_::_,[],_,h,_=>h.elim
theorem Q1b.rows {fp:Nat->Prop} {w:World} {g b:Nat}:∀{l:List (Bool × Ex)} {vs:LV} (o:Nat),Q1b fp w (l.map (·.2)) vs->(∀(j:Nat) v,vs[j]?=some v->w.cell? ⟨g,o+j,none⟩=some v)->(∀(j:Nat) t,(l.map (·.1))[j]?=some t->w.cell? ⟨b,o+j,none⟩=some (.bool t))->Qbe fp w g b o l
 |[],[],_,_,_,_=>by rw[Qbe];trivial
 |(t,_)::_,v::_,o,h,hc,hb=>by
  rw[Qbe];refine ⟨⟨v,by simpa using hc 0 v rfl,h.1⟩,by simpa using hb 0 t rfl,Q1b.rows (o+1) h.2 (fun j u hu=>?_) fun j u hu=>?_⟩
  ·have:=hc (j+1) u (by simpa using hu);rwa[show o+(j+1)=o+1+j by omega] at this
  ·have:=hb (j+1) u (by simpa using hu);rwa[show o+(j+1)=o+1+j by omega] at this
 |[],_::_,_,h,_,_=>h.elim
 |_::_,[],_,h,_,_=>h.elim
def Q6p (R:Nat) (s:ByteArray) (m d:Int) (res:PR Ex) (w:World) (e:Ending) (w':World):Prop:=
 ∃t u,e=.returned (.iface t u)/\Q0v (OnR R) w w'/\match res with
  | .ok (x,q)=>Q2v (·<w.heap.size) w' x (.iface t u)/\Q0o w' R s (q:Int) m d false/\q<=s.size
  | .error q=>Q0o w' R s (q:Int) m d true/\q<=s.size
end Go.Proofs.YtidojbkhlenahaaGreatDoor
