/- Part 18. No condition. -/
import Derived.Lib.Walk
import Derived.Lib.AppendIntMem
import Derived.BigCall
import Derived.BigGuard
import Derived.WalkSmall
import Derived.Lib.Builder
import Derived.Lib.AppendStr
import Derived.Lib.UnsafeStr
import Derived.Laws.Externs
import Derived.Lib.Join
import Derived.Test.YtidojbkhlenahaaGreatDoorPkProblemBack17
set_option maxRecDepth 100000
set_option maxHeartbeats 16000000
namespace Go.Proofs.YtidojbkhlenahaaGreatDoor
open Go.RowKit WordsM
theorem Q6q (x:Q47) (a b:OA) (l c m d:Nat) (w:World) (h1:Q0m w a l c x) (h2:Q0m w b m d x):
 Calls Tryz.prog 30 #[.agg #[.bool x.neg,.int .i64 x.exp,.slice a l c],.agg #[.bool x.neg,.int .i64 x.exp,.slice b m d]] w fun r w'=>r=.returned (.bool true)/\Bw w w':=by
 have h:=Q8q x.neg x.exp a l c x.ws x.neg x.exp b m d x.ws w h1.lie h2.lie (Un h1.lie.cap h1.lie.most);rwa[UQ ⟨rfl,rfl,rfl⟩] at h
theorem Qk6 {w:World} {b:Nat} {v0 v1 v2 v3 v4 v5:Value} (h:Q3w w b [v0,v1,v2,v3,v4,v5]):
 w.cell? ⟨b,0,none⟩=some v0/\w.cell? ⟨b,1,none⟩=some v1/\w.cell? ⟨b,2,none⟩=some v2/\w.cell? ⟨b,3,none⟩=some v3/\w.cell? ⟨b,4,none⟩=some v4/\w.cell? ⟨b,5,none⟩=some v5:=
 ⟨h 0 _ rfl,h 1 _ rfl,h 2 _ rfl,h 3 _ rfl,h 4 _ rfl,h 5 _ rfl⟩
theorem Qk7 {w W:World} (xs ys:LV) (T:TypeId) (hW:(w.alloc (.cells xs.toArray T)).alloc (.cells ys.toArray T)=W):Q3w W w.heap.size xs/\Q3w W (w.heap.size+1) ys/\Bw w W/\W.heap.size=w.heap.size+2:=by
 have h1:(w.alloc (.cells xs.toArray T)).heap.size=w.heap.size+1:=Ui _ _;have h2:=Q3w.new w xs T;have h3:=Q3w.new (w.alloc (.cells xs.toArray T)) ys T;have C0:Bw w (w.alloc (.cells xs.toArray T)):=Ba;generalize w.alloc (.cells xs.toArray T)=V at*;have D0:Bw V (V.alloc (.cells ys.toArray T)):=Ba;rw[hW] at h3 D0;rw[h1] at h3;refine ⟨h2.step D0 (by omega),h3,Below.next0 C0 D0,?_⟩;rw[<-hW,Ui,h1]
theorem Qqs (x:IvV) (p q r s:Pl) (w:World) (h1:Q0m w p.a p.l p.c x.lo) (h2:Q0m w q.a q.l q.c x.hi) (h3:Q0m w r.a r.l r.c x.lo) (h4:Q0m w s.a s.l s.c x.hi):
 Calls Tryz.prog 62 #[.agg #[.bool x.lo.neg,.int .i64 x.lo.exp,.slice p.a p.l p.c,.bool x.hi.neg,.int .i64 x.hi.exp,.slice q.a q.l q.c],.agg #[.bool x.lo.neg,.int .i64 x.lo.exp,.slice r.a r.l r.c,.bool x.hi.neg,.int .i64 x.hi.exp,.slice s.a s.l s.c]] w fun r w'=>r=.returned (.bool true)/\Bw w w':=by
 obtain ⟨W0,R1⟩:∃W0,(w.alloc (.cells #[.bool x.lo.neg,.int .i64 x.lo.exp,.slice p.a p.l p.c,.bool x.hi.neg,.int .i64 x.hi.exp,.slice q.a q.l q.c] 44)).alloc (.cells #[.bool x.lo.neg,.int .i64 x.lo.exp,.slice r.a r.l r.c,.bool x.hi.neg,.int .i64 x.hi.exp,.slice s.a s.l s.c] 44)=W0:=⟨_,rfl⟩;obtain ⟨hX,hY,X1,A2⟩:=Qk7 [.bool x.lo.neg,.int .i64 x.lo.exp,.slice p.a p.l p.c,.bool x.hi.neg,.int .i64 x.hi.exp,.slice q.a q.l q.c] [.bool x.lo.neg,.int .i64 x.lo.exp,.slice r.a r.l r.c,.bool x.hi.neg,.int .i64 x.hi.exp,.slice s.a s.l s.c] 44 R1;have HC:=Ub (fun V (hV:Bw W0 V)=>have hb:=Below.next0 X1 hV;And.intro (hX.step hV (by omega)) (And.intro (hY.step hV (by omega)) (And.intro (Q6q x.lo p.a r.a p.l p.c r.l r.c V (h1.step hb) (h3.step hb)) (Q6q x.hi q.a s.a q.l q.c s.l s.c V (h2.step hb) (h4.step hb)))));have HB:=Ub X1;obtain ⟨k0,k1,k2,k3,k4,k5⟩:=Qk6 hX;obtain ⟨l0,l1,l2,l3,l4,l5⟩:=Qk6 hY;clear hX hY X1 A2 h1 h2 h3 h4
 go_enter Tryz.func62,Tryz.ntmps62
 go_upto_region 1 with fail
 clear R1
 go_wp2_with (first
  |(go_at_call_of 30 (Value.agg #[.bool x.lo.neg,.int .i64 x.lo.exp,.slice p.a p.l p.c]);refine (HC.out W0 (Ug _ _)).2.2.1.mono ?_;rintro e w1 ⟨rfl,hb⟩;have H1:=Ub hb;have hq:=HC.out w1 hb;obtain ⟨k0,k1,k2,k3,k4,k5⟩:=Qk6 hq.1;obtain ⟨l0,l1,l2,l3,l4,l5⟩:=Qk6 hq.2.1;clear hq hb)
  |(refine (HC.out w1 H1.out).2.2.2.mono ?_;rintro e w2 ⟨rfl,hb⟩;have H2:=Ub (Below.next0 H1.out hb);clear hb))
 go_ret;exact ⟨rfl,Below.next0 HB.out H2.out⟩
theorem Qqt (a b:OA) (n c d:Nat) (B:List IvV) (w:World) (h1:Qdh w a n c B) (h2:Qdh w b n d B):
 Calls Tryz.prog 61 #[.slice a n c,.slice b n d,.func (.func 62) #[] #[]] w fun e w'=>e=.returned (.bool true)/\Bw w w':=by
 have G3:=h1.1;have J3:=Un h1.2.1 h1.2.2.1;have H:=Xh2 h1 h2;clear h1 h2
 go_enter Tryz.func61,Tryz.ntmps61
 go_wp2_with fail
 go_loopw [15] (fun s15 wr=>∃i:Nat,s15=.int .i64 (i:Int)/\i<=n/\Bw w wr) (fun iv _=>n-(intOf iv).toNat)
 case atStart=>exact ⟨0,rfl,Ut _,Ug _ _⟩
 case round=>
  obtain ⟨i,rfl,hi,C1⟩:=hrel
  by_cases E0:i<n
  ·have J0:(i:Int)<(n:Int):=(by omega);obtain ⟨x,hx⟩:∃x,B[i]?=some x:=⟨_,Ua (by omega)⟩;obtain ⟨b1,o1,rfl,C0,ZF⟩:∃b o,a=some ⟨b,o,none⟩/\b<w.heap.size/\∀j x,B[j]?=some x->Qw3 w b (o+j*6) x:=by
    rcases (Xo0 H).2.2.2 with h0|h0
    ·rw[h0] at hx;simp at hx
    ·exact h0
   obtain ⟨b2,o2,rfl,D0,Jz⟩:∃b' o,b=some ⟨b',o,none⟩/\b'<w.heap.size/\∀j x,B[j]?=some x->Qw3 w b' (o+j*6) x:=by
    rcases (Xe4 H) with h0|h0
    ·rw[h0] at hx;simp at hx
    ·exact h0
   obtain ⟨pa,pl,pc,qa,ql,qc,hk,K5,C6⟩:=ZF i x hx;obtain ⟨ra,rl,rc,sa,sl,sc,hl,hn3,Qj⟩:=Jz i x hx;have hK:∀(W:World),Bw wr W->(∀j v,w.cell? ⟨b1,j,none⟩=some v->W.cell? ⟨b1,j,none⟩=some v)/\(∀j v,w.cell? ⟨b2,j,none⟩=some v->W.cell? ⟨b2,j,none⟩=some v):=fun W hW=>by
    have hB:=Below.next0 C1 hW;exact ⟨fun j v h=>(hB.cell (p:=⟨b1,j,none⟩) C0).trans h,fun j v h=>(hB.cell (p:=⟨b2,j,none⟩) D0).trans h⟩
   have hS:∀(W:World),Bw wr W->Calls Tryz.prog 62 #[.agg #[.bool x.lo.neg,.int .i64 x.lo.exp,.slice pa pl pc,.bool x.hi.neg,.int .i64 x.hi.exp,.slice qa ql qc],.agg #[.bool x.lo.neg,.int .i64 x.lo.exp,.slice ra rl rc,.bool x.hi.neg,.int .i64 x.hi.exp,.slice sa sl sc]] W fun e w'=>e=.returned (.bool true)/\Bw W w':=fun W hW=>by
    have hB:=Below.next0 C1 hW;exact Qqs x ⟨pa,pl,pc⟩ ⟨qa,ql,qc⟩ ⟨ra,rl,rc⟩ ⟨sa,sl,sc⟩ W (K5.step hB) (C6.step hB) (hn3.step hB) (Qj.step hB)
   have HC:=Xh4 hK hS hk hl;have HS:=Ub C1;clear hK hS hk hl C1 ZF Jz K5 C6 hn3 Qj hx
   go_upto_region 6 with fail
   refine Q0l (E:=Qeo) (fun _=>Ug _ _) (by kernel_rfl) (fun W=>Bw wr W) (fun _ _ h h'=>Below.next0 h h') (Q56 [.func (.func 62) #[] #[],.slice (some ⟨b1,o1,none⟩) n c,.int .i64 (i:Int),.pointer (some ⟨b1,o1+i*6,none⟩),.agg #[.bool x.lo.neg,.int .i64 x.lo.exp,.slice pa pl pc,.bool x.hi.neg,.int .i64 x.hi.exp,.slice qa ql qc],.slice (some ⟨b2,o2,none⟩) n d,.int .i64 (i:Int),.pointer (some ⟨b2,o2+i*6,none⟩),.agg #[.bool x.lo.neg,.int .i64 x.lo.exp,.slice ra rl rc,.bool x.hi.neg,.int .i64 x.hi.exp,.slice sa sl sc],.bool true,.bool false] (Q2s [])) (Q0j (Q12 ((fun p hp=>by cases hp)))) (Q3l (by kernel_rfl)) (by kernel_rfl) (Q04 wr) ?_ ?_
   ·skip
    repeat' (first|exact Qet|refine Qes ?_ ?_)
    all_goals
     refine Q3i rfl fun A W hW F0 hd hd=>?_;simp[Qbq,Region.binds,Q2s] at hd;have e0:=Q0d F0 0 (by kernel_rfl) rfl;have e1:=Q0d F0 1 (by kernel_rfl) rfl;have e2:=Q0d F0 2 (by kernel_rfl) rfl;have e7:=Q0d F0 7 (by kernel_rfl) rfl;have hk:=((Xo0 HC) W hW).1;have hl:=((Xo0 HC) W hW).2;obtain ⟨⟨k0,k1,k2,k3,k4,k5⟩,l0,l1,l2,l3,l4,l5⟩:=(Xe2 HC)
     first
     |(refine Q1m rfl rfl ?_;simp[go_sem,hd,e0,e1,e2,e7,J0,hk _ _ k0,hk _ _ k1,hk _ _ k2,hk _ _ k3,hk _ _ k4,hk _ _ k5,hl _ _ l0,hl _ _ l1,hl _ _ l2,hl _ _ l3,hl _ _ l4,hl _ _ l5];done)
     |(refine Q8x rfl rfl ?_ ((Xo1 HC) W hW);simp[go_sem,hd];done)
   intro vs W1 O2 D5;have HB:=Ub O2;have e10:vs 10=.bool false:=(Q0f rfl).1 (D5 10 (by decide));simp only[Q0y,Act.put,Uu,UI,UF,e10];clear O2 D5 e10
   go_wp2_with fail
   exact ⟨⟨i+1,congrArg (Value.int .i64) (by omega),by omega,Below.next0 HS.out HB.out⟩,by simp only[intOf];omega⟩
  ·have J0:¬(i:Int)<(n:Int):=(by omega);have HS:=Ub C1;clear C1
   go_wp2_with fail
   go_ret;exact ⟨rfl,HS.out⟩
theorem Qmn (a b:OA) (n c d:Nat) (B:List IvV) (w:World) (h1:Qdh w a n c B) (h2:Qdh w b n d B):
 Calls Tryz.prog 29 #[.slice a n c,.slice b n d] w fun e w'=>e=.returned (.bool true)/\Bw w w':=by
 have hc:=Qqt a b n c d B w h1 h2;clear h1 h2
 go_enter Tryz.func29,Tryz.ntmps29
 go_wp2_with (go_at_call 61;refine hc.mono ?_;rintro r w1 ⟨rfl,hb⟩)
 go_ret;exact ⟨rfl,hb⟩
theorem Qbf (x:Q52) (p q:Qt5) (w:World) (h1:Q3x w p x) (h2:Q3x w q x) (h0:∀ms∈x.field,∀m∈ms,m.es≠[]):
 Calls Tryz.prog 11 #[.agg (Q57 p x).toArray,.agg (Q57 q x).toArray] w fun r w'=>r=.returned (.bool true)/\Bw w w':=by
 obtain ⟨⟨pfa,fl,pfc⟩,⟨pba,bl,pbc⟩,⟨pta,ptl,ptc⟩,⟨pma,pml,pmc⟩,⟨pea,pel,pec⟩⟩:=p;obtain ⟨⟨qfa,qfl,qfc⟩,⟨qba,qbl,qbc⟩,⟨qta,qtl,qtc⟩,⟨qma,qml,qmc⟩,⟨qea,qel,qec⟩⟩:=q;obtain ⟨F,B,⟨tn,te,ts⟩,⟨mn,me,ms⟩,⟨en,ee,es⟩,prec,order,budget⟩:=x;obtain rfl:fl=qfl:=h1.f.1.symm.trans h2.f.1;obtain rfl:bl=qbl:=h1.b.1.symm.trans h2.b.1;simp only[Q57];obtain ⟨W0,R1⟩:∃W0,(w.alloc (.cells #[.slice pfa fl pfc,.slice pba bl pbc,.bool tn,.int .i64 te,.slice pta ptl ptc,.bool mn,.int .i64 me,.slice pma pml pmc,.bool en,.int .i64 ee,.slice pea pel pec,.int .i64 prec,.int .i64 order,.int .i64 budget] 28)).alloc (.cells #[.slice qfa fl qfc,.slice qba bl qbc,.bool tn,.int .i64 te,.slice qta qtl qtc,.bool mn,.int .i64 me,.slice qma qml qmc,.bool en,.int .i64 ee,.slice qea qel qec,.int .i64 prec,.int .i64 order,.int .i64 budget] 28)=W0:=⟨_,rfl⟩;obtain ⟨hX,hY,X1,A2⟩:=Qk7 [.slice pfa fl pfc,.slice pba bl pbc,.bool tn,.int .i64 te,.slice pta ptl ptc,.bool mn,.int .i64 me,.slice pma pml pmc,.bool en,.int .i64 ee,.slice pea pel pec,.int .i64 prec,.int .i64 order,.int .i64 budget] [.slice qfa fl qfc,.slice qba bl qbc,.bool tn,.int .i64 te,.slice qta qtl qtc,.bool mn,.int .i64 me,.slice qma qml qmc,.bool en,.int .i64 ee,.slice qea qel qec,.int .i64 prec,.int .i64 order,.int .i64 budget] 28 R1;have HC:=Ub (fun V (hV:Bw W0 V)=>have hb:=Below.next0 X1 hV;have g1:=h1.step hb;have g2:=h2.step hb;And.intro (hX.step hV (by omega)) (And.intro (hY.step hV (by omega)) (And.intro (Qhb _ _ _ _ _ _ V g1.f g2.f h0) (And.intro (Qmn _ _ _ _ _ _ V g1.b g2.b) (And.intro (Q6q _ _ _ _ _ _ _ V g1.t g2.t) (And.intro (Q6q _ _ _ _ _ _ _ V g1.m g2.m) (Q6q _ _ _ _ _ _ _ V g1.e g2.e)))))));have HB:=Ub X1;obtain ⟨k0,k1,k2,k3,k4,k5,k6,k7,k8,k9,k10,k11,k12,k13⟩:=Q0c hX;obtain ⟨l0,l1,l2,l3,l4,l5,l6,l7,l8,l9,l10,l11,l12,l13⟩:=Q0c hY;clear hX hY X1 A2 h1 h2
 go_enter Tryz.func11,Tryz.ntmps11
 go_upto_region 1 with fail
 clear R1
 go_wp2_with (first
  |(go_at_call 28;refine (HC.out W0 (Ug _ _)).2.2.1.mono ?_;rintro e w1 ⟨rfl,hb⟩;have H1:=Ub hb;have hq:=HC.out w1 H1.out;obtain ⟨k0,k1,k2,k3,k4,k5,k6,k7,k8,k9,k10,k11,k12,k13⟩:=Q0c hq.1;obtain ⟨l0,l1,l2,l3,l4,l5,l6,l7,l8,l9,l10,l11,l12,l13⟩:=Q0c hq.2.1;clear hq hb)
  |(go_at_call 29;refine (HC.out w1 H1.out).2.2.2.1.mono ?_;rintro e w2 ⟨rfl,hb⟩;have H2:=Ub (Below.next0 H1.out hb);have hq:=HC.out w2 H2.out;obtain ⟨k0,k1,k2,k3,k4,k5,k6,k7,k8,k9,k10,k11,k12,k13⟩:=Q0c hq.1;obtain ⟨l0,l1,l2,l3,l4,l5,l6,l7,l8,l9,l10,l11,l12,l13⟩:=Q0c hq.2.1;clear hq hb)
  |(go_at_call_of 30 (Value.agg #[.bool tn,.int .i64 te,.slice pta ptl ptc]);refine (HC.out w2 H2.out).2.2.2.2.1.mono ?_;rintro e w3 ⟨rfl,hb⟩;have H3:=Ub (Below.next0 H2.out hb);have hq:=HC.out w3 H3.out;obtain ⟨k0,k1,k2,k3,k4,k5,k6,k7,k8,k9,k10,k11,k12,k13⟩:=Q0c hq.1;obtain ⟨l0,l1,l2,l3,l4,l5,l6,l7,l8,l9,l10,l11,l12,l13⟩:=Q0c hq.2.1;clear hq hb)
  |(go_at_call_of 30 (Value.agg #[.bool mn,.int .i64 me,.slice pma pml pmc]);refine (HC.out w3 H3.out).2.2.2.2.2.1.mono ?_;rintro e w4 ⟨rfl,hb⟩;have H4:=Ub (Below.next0 H3.out hb);have hq:=HC.out w4 H4.out;obtain ⟨k0,k1,k2,k3,k4,k5,k6,k7,k8,k9,k10,k11,k12,k13⟩:=Q0c hq.1;obtain ⟨l0,l1,l2,l3,l4,l5,l6,l7,l8,l9,l10,l11,l12,l13⟩:=Q0c hq.2.1;clear hq hb)
  |(go_at_call_of 30 (Value.agg #[.bool en,.int .i64 ee,.slice pea pel pec]);refine (HC.out w4 H4.out).2.2.2.2.2.2.mono ?_;rintro e w5 ⟨rfl,hb⟩;have H5:=Ub (Below.next0 H4.out hb);have hq:=HC.out w5 H5.out;obtain ⟨k0,k1,k2,k3,k4,k5,k6,k7,k8,k9,k10,k11,k12,k13⟩:=Q0c hq.1;obtain ⟨l0,l1,l2,l3,l4,l5,l6,l7,l8,l9,l10,l11,l12,l13⟩:=Q0c hq.2.1;clear hq hb))
 go_ret;exact ⟨rfl,Below.next0 HB.out H5.out⟩
end Go.Proofs.YtidojbkhlenahaaGreatDoor
namespace Go.Proofs.YtidojbkhlenahaaGreatDoor
open Go.RowKit Go.Shelf Go.Sort Go.Lib
theorem below_grow {w:World} (k:Nat) (os:Array Obj):Bw w (grow (w.drewN k) os):=
 ⟨rfl,rfl,rfl,by
   show w.heap.size<=(w.heap++os).size
   simp,fun g hg=>heap_grow_old w k os g hg⟩
theorem Qzg (u:Nat) (Zy:u<18446744073709551616) (w:World) (d6:Lib.TabIs Tryz.prog w "internal/strconv.uint64pow10" .u64 Lib.pow10Tab):
 Calls Tryz.prog 160 #[.int .u64 (u:Int),.int .i64 10] w fun e w'=>e=.returned (.string ⟨(Lib.decDigits u).toArray⟩)/\Bw w w':=by
 by_cases hi:u<100
 ·have hiI:(u:Int)<100:=by omega
  have u7:=fun W=>Tryz.J2w u hi W
  go_enter Tryz.func160,Tryz.ntmps160
  go_wp2_with (refine (u7 _).mono ?_;rintro e w' ⟨rfl,rfl⟩)
  go_ret;exact ⟨rfl,Ug _ _⟩
 ·have hiI:¬(u:Int)<100:=by omega
  have KE:1<=u:=by omega
  have hnd20:Lib.nDigits u<=20:=by have:=Lib.numDigits_eq u KE Zy;split at this <;> omega
  have O4:Tryz.prog.arrayLen 202=24:=by kernel_rfl
  have hel:Tryz.prog.elem 202=5:=by kernel_rfl
  have hsl1:∀W,(Instr.sliceAt 202 (.pointer (some ⟨w.heap.size,0,none⟩)) none (some (.int .i64 (Lib.nDigits u:Int))) none).run Tryz.prog W=.ok (.slice (some ⟨w.heap.size,0,none⟩) (Lib.nDigits u) 24) W:=fun W=>by
   rw[run_sliceAt_array_h W 202 ⟨w.heap.size,0,none⟩ (by kernel_rfl) .i64 (Lib.nDigits u:Int) (by omega) (by rw[O4];omega)]
   go_simp
   try omega
  have hH0:=Lib.holds_zero0 w 202 (Lib.nDigits u) (by omega);have hfmt:=Tryz.J32 w.heap.size 0 24 u (Array.replicate (Lib.nDigits u) 0) (w.alloc (.cells Lib.zeros24 202)) hH0 (by rw[Array.size_replicate];exact Lib.lt_pow_nDigits u) Zy (by rw[Array.size_replicate];omega);rw[Array.size_replicate] at hfmt;have Z1:=Tryz.J2z u KE Zy (w.alloc (.cells Lib.zeros24 202)) (Lib.tabIs_alloc d6 _);have HH0:=Ub hH0;clear hH0 O4 hel
  go_enter Tryz.func160,Tryz.ntmps160
  go_wp2_with (first
   |(refine Z1.mono ?_;rintro e w' ⟨rfl,rfl⟩)
   |(refine hfmt.mono ?_;rintro e w' ⟨rfl,k,v',dk,rfl,hF⟩;
     have JS:(convert 55 9 (.slice (some ⟨w.heap.size,0,none⟩) (Lib.nDigits u) 24)).run Tryz.prog ((putRow (fun (b:UInt8)=>Value.int .u8 (b.toNat:Int)) (w.alloc (.cells Lib.zeros24 202)) w.heap.size 0 dk).drewN k)=.ok (.string ⟨(Lib.decDigits u).toArray⟩) ((putRow (fun (b:UInt8)=>Value.int .u8 (b.toNat:Int)) (w.alloc (.cells Lib.zeros24 202)) w.heap.size 0 dk).drewN k):=by {
      have h:=run_convert_bytes_back (P:=Tryz.prog) ((putRow (fun (b:UInt8)=>Value.int .u8 (b.toNat:Int)) (w.alloc (.cells Lib.zeros24 202)) w.heap.size 0 dk).drewN k) 55 9 5 ⟨w.heap.size,0,none⟩ 24 (Lib.decDigits u) (by kernel_rfl) (by kernel_rfl) (by kernel_rfl) (fun j hj=>by
       rw[Lib.row_is_numeral hF j hj,Lib.add_plain,World.cell?_drewN];exact cell?_putRow (fun (b:UInt8)=>Value.int .u8 (b.toNat:Int)) _ w.heap.size 0 _ dk HH0.out (by rw[hF.size,Array.size_replicate]) j (by rw[hF.size];rw[Lib.decDigits_length] at hj;exact hj))
      rw[Lib.decDigits_length] at h;exact h };
     obtain ⟨os,eo⟩:=Lib.fin_at w (.cells Lib.zeros24 202) dk k 0;have HEO:=Xh2 eo hF;clear eo hF hfmt Z1;generalize ((putRow (fun (b:UInt8)=>Value.int .u8 (b.toNat:Int)) (w.alloc (.cells Lib.zeros24 202)) w.heap.size 0 dk).drewN k)=W4 at*))
  go_ret;refine ⟨rfl,?_⟩;rw[(Xo0 HEO)];exact below_grow k os
theorem Qca (u:Nat) (Zy:u<18446744073709551616) (w:World) (d6:Lib.TabIs Tryz.prog w "internal/strconv.uint64pow10" .u64 Lib.pow10Tab):
 Calls Tryz.prog 110 #[.int .u64 (u:Int),.int .i64 10] w fun e w'=>e=.returned (.string ⟨(Lib.decDigits u).toArray⟩)/\Bw w w':=by
 have h:=Qzg u Zy w d6
 go_enter Tryz.func110,Tryz.ntmps110
 go_wp2_with (refine h.mono ?_;rintro e w1 ⟨rfl,hb⟩;have HB:=Ub hb;clear hb)
 go_ret;exact ⟨rfl,HB.out⟩
end Go.Proofs.YtidojbkhlenahaaGreatDoor
namespace Go.Proofs.YtidojbkhlenahaaGreatDoor
open Go.RowKit
theorem Qbg:(Tryz.prog.info? 57).map (·.size)=some 2:=by kernel_rfl
theorem Qk8:liesAt Tryz.prog Tryz.prog.depth 57 (2 / Tryz.prog.cellsOf 57) 0 57 1=true:=by kernel_rfl
abbrev Q3q (B b:Nat) (p:Value) (l:LU) (w:World):Prop:=Lib.BuilderAt 57 5 B b p (Lib.byteCells l) w
theorem Qk9 (b:Nat) (w:World) (h0:w.cell? ⟨b,0,none⟩=some (.pointer (some ⟨b,0,none⟩))):
 Calls Tryz.prog 65 #[.pointer (some ⟨b,0,none⟩)] w fun e w'=>e=.returned (.tuple #[])/\w=w':=by
 obtain ⟨j,hj,_⟩:=Option.map_eq_some_iff.1 Qbg
 go_enter Tryz.func65,Tryz.ntmps65
 go_wp2_with fail
 rw[Lib.run_neq_ptr_same w _ Tryz.underlying54 hj]
 go_wp2_with fail
 go_end0
 exact ⟨rfl,rfl⟩
theorem Qg4 (b:Nat) (w:World) (h0:w.cell? ⟨b,0,none⟩=some (.pointer none)) (Jc:w.shape? b=some (57,2)) (ZW:w.frozen? ⟨b,0,none⟩=false):
 Calls Tryz.prog 65 #[.pointer (some ⟨b,0,none⟩)] w fun e w'=>e=.returned (.tuple #[])/\w'=w.setCell ⟨b,0,none⟩ (.pointer (some ⟨b,0,none⟩)):=by
 obtain ⟨j,hj,hjs⟩:=Option.map_eq_some_iff.1 Qbg
 go_enter Tryz.func65,Tryz.ntmps65
 go_wp2_with fail
 rw[Lib.run_to_unsafe w ⟨b,0,none⟩ Tryz.underlying54 Tryz.underlying142 hj (by rw[hjs];decide) Jc (Nat.zero_lt_succ 1)];simp only[Result.andThen];rw[Oper.upon_value]
 go_wp2_with fail
 rw[run_callFunc_extern Tryz.func106 (by kernel_rfl) (by kernel_rfl) (by kernel_rfl) (e:=Extern.AbiNoEscape.same) (by kernel_rfl)];rw[Lib.run_noEscape];simp only[Result.andThen];rw[Oper.upon_value]
 go_wp2_with fail
 rw[Lib.run_from_unsafe w ⟨b,0,none⟩ Tryz.underlying142 Tryz.underlying54 hj Jc Qk8];simp only[Result.andThen];rw[Oper.upon_value]
 go_wp2_with fail
 go_end0
 exact ⟨rfl,rfl⟩
theorem Qx0 (B b:Nat) (l:LU) (w:World) (h:Lib.IsBuilder 57 5 B b (Lib.byteCells l) w):
 Calls Tryz.prog 65 #[.pointer (some ⟨b,0,none⟩)] w fun e w'=>e=.returned (.tuple #[])/\Q3q B b (.pointer (some ⟨b,0,none⟩)) l w'/\Below B w w'/\w'.heap.size=w.heap.size:=by
 rcases h with h|h
 ·refine (Qg4 b w h.cell0 h.shape h.frozen0).mono ?_;rintro e w' ⟨rfl,rfl⟩;exact ⟨rfl,h.used _,(Ug B w).setCell (p:=⟨b,0,none⟩) h.1 _,by simp⟩
 ·refine (Qk9 b w h.cell0).mono ?_;rintro e w' ⟨rfl,rfl⟩;exact ⟨rfl,h,Ug B _,rfl⟩
theorem Qa6 (a b:LU):Lib.byteCells (a++b)=Lib.byteCells a++Lib.byteCells b:=by simp[Lib.byteCells]
theorem Qka (B b:Nat) (l t:LU) (w:World) (h:Lib.IsBuilder 57 5 B b (Lib.byteCells l) w) (N0:l.length+t.length<=140737488355328) (hBw:B<=w.heap.size):
 Calls Tryz.prog 35 #[.pointer (some ⟨b,0,none⟩),sv t] w fun e w'=>e=.returned (.tuple #[.int .i64 (t.length:Int),.nilIface])/\Q3q B b (.pointer (some ⟨b,0,none⟩)) (l++t) w'/\Below B w w':=by
 obtain ⟨i0,hi,P1,G1,K1⟩:=Xbq Qrf;have HI:=Ub h;clear h
 go_enter Tryz.func35,Tryz.ntmps35
 go_wp2_with (refine (Qx0 B b l _ HI.out).mono ?_)
 rintro e w1 ⟨rfl,h1,C0,A2⟩;obtain ⟨hB,v,E8,J4,Q0⟩:=h1;have VN:B<=w1.heap.size:=by omega
 have HSZ:=Ub A2;clear A2;have c0:w1.cell? ⟨b,0,none⟩=some (.pointer (some ⟨b,0,none⟩)):=by rw[Lib.cell_of_heap E8];rfl
 have c1:w1.cell? ⟨b,1,none⟩=some v:=by rw[Lib.cell_of_heap E8];rfl
 have E0:b<w1.heap.size:=(Uq.1 E8).1;have HBK:=Ub E8;have C2:(Lib.byteCells l).length+(⟨t.toArray⟩:ByteArray).size<=140737488355328:=by rw[Lib.byteCells_length];exact N0
 have J3:(Lib.byteCells l).length+(⟨t.toArray⟩:ByteArray).size<=maxLen:=by unfold maxLen;omega
 clear E8
 go_wp2_with (at_builtin;refine Lib.wpList_append_own_string _ rfl _ _ 55 9 rfl B 5 i0 Tryz.underlying55 Tryz.underlying9 hi P1 G1 K1 _ _ _ rfl J4 ⟨t.toArray⟩ rfl J3 C2 VN ?_)
 intro v' w2 C7 K3 _;have D0:w2.heap[b]?=some (.cells #[.pointer (some ⟨b,0,none⟩),v] 57 (0,0)):=by
  rw[K3.block b E0 (fun e=>Q0 e.symm)];exact HBK.out
 have d0:w2.cell? ⟨b,0,none⟩=some (.pointer (some ⟨b,0,none⟩)):=by rw[Lib.cell_of_heap D0];rfl
 have d1:w2.cell? ⟨b,1,none⟩=some v:=by rw[Lib.cell_of_heap D0];rfl
 have f1:w2.frozen? ⟨b,1,none⟩=false:=Lib.frozen_of_heap D0 1;obtain ⟨ao,n',cap,rfl⟩:∃ao n' cap,v'=.slice ao n' cap:=by
  rcases C7.2 with ⟨hv,_⟩|⟨g,cap,cur,hv,_⟩
  ·exact ⟨_,_,_,hv⟩
  ·exact ⟨_,_,_,hv⟩
 have HE:=Xh4 D0 C7 K3 C0;clear D0 C7 K3 C0 C2 J3
 go_wp2_with fail
 go_ret2
 obtain ⟨D0,C7,K3,C0⟩:=HE.out;refine ⟨rfl,?_,?_⟩
 ·refine Lib.BuilderAt.put (T:=57) (e:=5) hB D0 (bs':=Lib.byteCells (l++t)) ?_ (by decide);rw[Qa6];have e1:Lib.strCells ⟨t.toArray⟩=Lib.byteCells t:=rfl;rw[<-e1,Uh,Lib.strCells_length];exact C7
 ·exact (C0.grown K3 (by omega) (fun k hk=>(J4.lt k hk).1)).setCell (p:=⟨b,1,none⟩) hB _
theorem Q3q.call {B b:Nat} {p:Value} {l:LU} {w w':World} (h:Q3q B b p l w) (hb:Bw w w'):Q3q B b p l w':=by
 obtain ⟨hB,v,E8,J4,Q0⟩:=h;refine ⟨hB,v,(hb.block _ (Uq.1 E8).1).trans E8,⟨J4.1,?_⟩,Q0⟩;rcases J4.2 with h2|⟨g,cap,cur,hv,hg,hh,hr⟩
 ·exact .inl h2
 ·exact .inr ⟨g,cap,cur,hv,hg,(hb.block g (Uq.1 hh).1).trans hh,hr⟩
def Q66 (B b:Nat) (l:LU) (w:World):Prop:=Lib.IsBuilder 57 5 B b (Lib.byteCells l) w
theorem Q66.call {B b:Nat} {l:LU} {w w':World} (h:Q66 B b l w) (hb:Bw w w'):Q66 B b l w':=by
 rcases h with h|h
 ·exact .inl (Q3q.call h hb)
 ·exact .inr (Q3q.call h hb)
theorem Q66.new (B:Nat) (w:World) (hB:B<=w.heap.size):Q66 B w.heap.size [] (w.alloc (.cells #[.pointer none,.slice none 0 0] 57)):=
 .inl ⟨hB,_,Um _ _,⟨rfl,.inl ⟨rfl,rfl⟩⟩,by simp[Value.ownBlock]⟩
open DecM WordsM
theorem Qx1:(Tryz.prog.info? 9).map (fun i=>(i.zero,i.size,i.bytes))=some (some (.string ⟨#[]⟩),1,16):=by kernel_rfl
theorem Qcb (t:ByteArray):∀u∈[Value.string t],u.oneCell'=true:=by
 intro u hu;rw[Ux] at hu;subst hu;rfl
theorem Q74 (m:Nat):Lib.repeatL [48] m=List.replicate m (48:UInt8):=by
 induction m with
 |zero=>rfl
 |succ m ih=>rw[TU,<-ih];rfl
def rev (xs:List (LU)):LU:=xs.reverse.flatten
theorem Qoi (xs:List (LU)) (t:LU):rev (xs++[t])=t++rev xs:=by simp[rev]
theorem Qzh (xs:List (LU)) (h:∀x∈xs,1<=x.length):xs.length<=(rev xs).length:=by
 induction xs with
 |nil=>simp[rev]
 |cons x r ih=>
  have h1:=ih fun y hy=>h y (by simp[hy]);have h2:=h x (by simp);simp only[rev,List.reverse_cons,List.flatten_append,Uh,Ur] at h1⊢;simp only[List.flatten_cons,List.flatten_nil,Xai];omega
def Qg5 (v u:Nat) (xs:List (LU)):Prop:=(u=0->rev xs=dec v)/\(u≠0->dec v=dec u++rev xs)/\∀x∈xs,1<=x.length
theorem Qg5.len {v u:Nat} {xs:List (LU)} (h:Qg5 v u xs):xs.length<=(dec v).length/\(rev xs).length<=(dec v).length:=by
 have h1:=Qzh xs h.2.2
 by_cases h0:u=0
 ·rw[<-h.1 h0];exact ⟨h1,Ue _⟩
 ·have h2:=congrArg List.length (h.2.1 h0);rw[Uh] at h2;omega
theorem Qg5.next {v u q r:Nat} {xs:List (LU)} (h:Qg5 v u xs) (hu:u≠0) (hq:u=q*10^19+r) (hr:r<10^19):Qg5 v q (xs++[if q=0 then dec r else List.replicate (19-(dec r).length) 48++dec r]):=by
 have h1:=Q3o r;refine ⟨fun h0=>?_,fun h0=>?_,fun x hx=>?_⟩
 ·rw[Us h0,Qoi,h.2.1 hu,hq,h0];simp
 ·rw[Up h0,Qoi,h.2.1 hu,hq,Qxk q (by omega) 19 r hr,Qxl 19 r (by decide) hr];simp
 ·rcases Tq.1 hx with hx|hx
  ·exact h.2.2 x hx
  ·rw[Ux] at hx;subst hx
   split
   ·exact h1
   ·rw[Uh];omega
theorem Qmo {w w':World} {a:OA} {n c:Nat} {ls:LN} {row:Option Nat} (h:WordsIn w a n c ls) (hg:w.grownBy w' row) (Q0:∀x,a=some x->some x.block≠row):WordsIn w' a n c ls:=by
 refine ⟨h.len,h.cap,h.most,h.low,?_⟩;rcases h.rd with h0|⟨b,o,rfl,hb,hc⟩
 ·exact .inl h0
 ·have E8:=hg.block b hb (Q0 _ rfl);have B4:b<w'.heap.size:=by
   have h1:w.heap[b]?=some w.heap[b]:=Ti hb;rw[<-E8] at h1;exact (Uq.1 h1).1
  exact .inr ⟨b,o,rfl,B4,fun j x hx=>(UM (a:=⟨b,o+j,none⟩) E8).trans (hc j x hx)⟩
theorem Qa7 {wr w2 w5:World} {O:Obj} {aq al a3:OA} {nq cq q:Nat} (hW:WordsIn w2 aq nq cq (dig (2^64) q)) (m9:q≠0) (E7:∀x,aq=some x->wr.heap.size<=x.block) (O4:∀y,al=some y->y.block<wr.heap.size)
 (hg:(w2.alloc O).grownBy w5 (al.map (·.block))) (Y1:a3.map (·.block)=al.map (·.block)∨a3.map (·.block)=some (w2.alloc O).heap.size):WordsIn w5 aq nq cq (dig (2^64) q)/\∀x y,aq=some x->a3=some y->x.block≠y.block:=by
 have E0:∀x,aq=some x->x.block<w2.heap.size:=fun x e=>by
  rcases hW.rd with h0|⟨b,o,rfl,hb,_⟩
  ·exact absurd ((Q58 (by decide)).1 h0) m9
  ·injection e with e;subst e;exact hb
 refine ⟨Qmo (hW.step ((Ug _ _).alloc (Ue _) O)) hg fun x e e2=>?_,fun x y ex ey e=>?_⟩
 ·cases hal2:al with
  |none=>rw[hal2] at e2;cases e2
  |some z=>
   rw[hal2] at e2;simp only[Uz,Uj] at e2;have:=E7 x e;have:=O4 z hal2;omega
 ·have h1:=E0 x ex;have h2:=E7 x ex;rw[ey,Uz] at Y1;rcases Y1 with h3|h3
  ·cases hal2:al with
   |none=>rw[hal2] at h3;cases h3
   |some z=>
    rw[hal2] at h3;simp only[Uz,Uj] at h3;have:=O4 z hal2;omega
  ·simp only[Uj] at h3;rw[Ui] at h3;omega
theorem Qmp (a:OA) (n c:Nat) (v:Nat) (w:World) (h:WordsIn w a n c (dig (2^64) v)) (hn:n<=64) (ZP:(dec v).length<=1281) (d6:∀W,Bw w W->Lib.TabIs Tryz.prog W "internal/strconv.uint64pow10" .u64 Lib.pow10Tab):
 Calls Tryz.prog 68 #[.slice a n c] w fun e w'=>e=.returned (sv (dec v))/\Bw w w':=by
 by_cases x7:v=0
 ·have A9:n=0:=by have:=h.len;rw[x7,Q0z] at this;exact this.symm
  subst A9 x7;have E9:dec 0=[48]:=Q2i (by decide);have HD:=Ub E9;clear h E9 d6 ZP
  go_enter Tryz.func68,Tryz.ntmps68
  go_wp2_with fail
  go_ret;rw[HD.out];exact ⟨rfl,Ug _ _⟩
 ·have A9:n≠0:=fun e=>x7 ((Q58 (B:=2^64) (by decide)).1 (UJ.1 (by rw[h.len,e])));have hn0I:((n:Int)==0)=false:=by rw[Uk];omega
  obtain ⟨i0,E2,P1,G1,K1⟩:=Xbq Qx1;have HI:=Xh4 E2 P1 G1 K1;have H:=Xh3 h d6 x7;clear h d6 x7 E2 P1 G1 K1
  go_enter Tryz.func68,Tryz.ntmps68
  go_wp2_with fail
  go_loopg [0,3] v (fun g wv lv wr=>∃(u:Nat) (ao:OA) (no co:Nat) (al:OA) (k cl:Nat) (xs:List (LU)),wv=.slice ao no co/\lv=.slice al k cl/\no<=64/\WordsIn wr ao no co (dig (2^64) u)/\Row wr w.heap.size 9 1 al k cl (xs.map sv)/\xs.length=k/\Qg5 v u xs/\g=u/\Bw w wr/\(u≠0->∀x y,ao=some x->al=some y->x.block≠y.block))
  case atStart=>exact ⟨v,a,n,c,none,0,0,[],rfl,rfl,hn,(Xo0 H),Row.nil_ _ _ _ _,rfl,⟨fun e=>absurd e (Xe2 H),fun _=>by simp[rev],fun x hx=>by simp at hx⟩,rfl,Ug _ _,fun _ x y _ e=>by cases e⟩
  case round=>
   obtain ⟨u,ao,no,co,al,k,cl,xs,rfl,rfl,E5,hW,I0,D4,Qv,hg,hb,hdis⟩:=hrel
   by_cases hu:u=0
   ·subst hu;have hno0:no=0:=(by have:=hW.len;rw[Q0z] at this;exact this.symm);subst hno0;have hrv:=Qv.1 rfl;have hk:=Qv.len;have o5:k<=1281:=(by omega);have XI:∀W,Bw wr W->∀i t,xs[i]?=some t->∃g,al=some ⟨g,0,none⟩/\W.cell? ⟨g,i,none⟩=some (sv t):=fun W M7 i t ht=>by
     obtain ⟨g,R6,_,J5,hc⟩:=I0.at_ (j:=i) (x:=sv t) (by rw[UP,ht];rfl);exact ⟨g,R6,(M7.cell (p:=⟨g,i,none⟩) J5).trans hc⟩
    have N0:(rev xs).length<=1281:=(by omega);have J1:Bw wr (wr.alloc (.cells #[.pointer none,.slice none 0 0] 57)):=Ba;have Ku:=Q66.new wr.heap.size wr (Ue _);have HX:=Xh6 hrv XI N0 hb J1 Ku;clear hrv hk XI N0 hb J1 Ku I0 Qv hdis hW hg;generalize wr=W1 at*
    go_wp2_with fail
    go_loopw [10] (fun iv wz=>∃j:Nat,iv=.int .i64 ((j:Int)-1)/\j<=k/\Q66 W1.heap.size W1.heap.size (rev (xs.drop j)) wz/\Bw W1 wz) (fun iv _=>(intOf iv+1).toNat)
    case atStart=>exact ⟨k,rfl,Ue _,by rw[Xbe (by omega)];exact (Xe5 HX),(Xo4 HX)⟩
    case round=>
     obtain ⟨j,rfl,hj,A7,Q3⟩:=hrel;cases j with
     |zero=>
      rw[Xbg,(Xo0 HX)] at A7;have HB:=Xh2 A7 Q3;clear A7 Q3
      go_wp2_with (refine (Tryz.J22 W1.heap.size W1.heap.size _ _ (Xo0 HB) (Xe1 HB).size).mono ?_;rintro e w3 ⟨rfl,Z0⟩;have S4:=Ub Z0;clear Z0)
      go_ret;exact ⟨rfl,Below.next0 (Xo3 HX) ((Xe1 HB).trans S4.out)⟩
     |succ j=>
      obtain ⟨t,ht⟩:∃t,xs[j]?=some t:=⟨_,Ua (by omega)⟩;obtain ⟨g,rfl,hct⟩:=(Xo1 HX) _ Q3 j t ht;have M6:rev (xs.drop j)=rev (xs.drop (j+1))++t:=by
       have e1:=Ul.1 ht;rw[UG e1.1,e1.2];simp[rev]
      have hl:(rev (xs.drop (j+1))).length+t.length<=1281:=by
       have h1:xs=xs.take j++xs.drop j:=(Xbi j xs).symm;have h2:(rev (xs.drop j)).length<=(rev xs).length:=by
        have h3:rev xs=rev (xs.drop j)++rev (xs.take j):=by
         have h4:=congrArg rev h1;rw[h4];unfold rev;rw[List.reverse_append,List.flatten_append]
        rw[h3,Uh];omega
       rw[M6,Uh] at h2;have:=(Xo2 HX);omega
      have hjI:((j+1:Nat):Int)-1=(j:Int):=(by omega);have y9:(j:Int)<(k:Int):=(by omega);have HD:=Xh4 M6 A7 Q3 hl;clear M6 A7 Q3 hl ht;rw[hjI]
      go_wp2_with (refine (Qka W1.heap.size W1.heap.size _ t _ (Xo1 HD) (by have:=(Xe3 HD);omega) (Xo2 HD).size).mono ?_;rintro e w3 ⟨rfl,G0,F2⟩;have M5:=Xh2 G0 F2;clear G0 F2)
      exact ⟨⟨j,rfl,by omega,by rw[(Xo0 HD)];exact .inr (Xo0 M5),(Xo2 HD).trans (Xe1 M5)⟩,by simp only[intOf];omega⟩
   ·have hno0:no≠0:=fun e=>hu ((Q58 (B:=2^64) (by decide)).1 (UJ.1 (by rw[hW.len,e])));have hnoI:(0:Int)<(no:Int):=(by omega);have J1:Bw wr (wr.alloc (.cells #[.int .u64 10000000000000000000] 83)):=Ba;have Wf:=Qln ao no co (dig (2^64) u) (some ⟨wr.heap.size,0,none⟩) 1 10000000000000000000 (wr.alloc (.cells #[.int .u64 10000000000000000000] 83)) (hW.step J1) (Qgv wr 10000000000000000000 (by decide) 83) (by omega) (by decide) (by rw[Q0v (by decide)];exact hu);rw[Q0v (by decide)] at Wf;obtain ⟨q,hq⟩:∃q,u / 10000000000000000000=q:=⟨_,rfl⟩;obtain ⟨r,hr⟩:∃r,u%10000000000000000000=r:=⟨_,rfl⟩;rw[hq,hr] at Wf;have hr19:r<10000000000000000000:=(by rw[<-hr];exact TK _ (by decide));have Xc:r<2^64:=Nat.lt_trans hr19 (by decide);have huq:u=q*10^19+r:=(by rw[<-hq,<-hr,UC];exact (TQ u (10^19)).symm);have S7:=Qv.next hu huq hr19;have hqu:q<u:=(by rw[<-hq];exact Xbs (by omega) (by decide));have YG:(dig (2^64) q).length<=64:=Un (Q1n (by decide) (Xa1 hqu)) (by rw[hW.len];exact E5);have XP:(dec r).length<=19:=dec_len 19 r hr19 (by decide);have hk:=Qv.len;have o5:k<=1281:=(by omega);have HDV:=Ub Wf;have YQ:=Ub J1;have Qt:=Ub hb;have HTB:=Ub (Xo1 H);have O4:∀y,al=some y->y.block<wr.heap.size:=fun y e=>by
     rcases I0.form with ⟨h0,_⟩|⟨g,cur,h0,_,hg,_⟩
     ·rw[h0] at e;cases e
     ·rw[h0] at e;injection e with e;subst e;exact hg
    have HAL:=Xh2 O4 hdis;clear O4 hdis;have HRW:=Ub (fun W (M7:Bw wr W)=>I0.call M7);have QU:=Xh5 S7 hqu YG hg hb;clear Wf hq hr huq S7 hqu YG I0 hb hW hg J1 hk Qv
    by_cases m9:q=0
    ·by_cases u4:r=0
     ·skip;have JB:=Ub m9;have Xh:=Ub (show (0:Nat)=0 from rfl);clear m9;subst u4;have hS:(dec 0).length<=19:=XP;obtain ⟨t,ht⟩:∃t:LU,t=dec 0:=⟨_,rfl⟩;have P6:t.length<=40:=(by rw[ht];omega);have HT:=Ub ht
      go_wp2_with (first
       |(go_at_call_of 109 ao;refine HDV.out.mono ?_;rintro e w1 ⟨aq,nq,cq,ar,nr,cr,rfl,QT,Zs,C0,E7⟩;have Vb:=Ub (fun x (e:aq=some x)=>Un YQ.out.size (E7 x e));clear E7;obtain rfl:nq=0:=by { have:=QT.len;rw[JB.out,Q0z] at this;exact this.symm };obtain rfl:nr=0:=by { have:=Zs.len;rw[Xh.out,Q0z] at this;exact this.symm };have K0:=Xh2 QT (Below.next0 YQ.out C0);clear QT Zs C0)
       |(refine (Qca 0 (by omega) _ (HTB.out _ (Below.next0 Qt.out (Xe1 K0)))).mono ?_;rintro e w2 ⟨rfl,D0⟩;have F1:=Xh2 ((Xo0 K0).step D0) (Below.next0 (Xe1 K0) D0);clear D0)
       |(at_builtin;refine Q0o rfl (.tmp 41) (.tmp 43) 39 rfl w _ 9 i0 _ 1 16 Tryz.underlying39 (Xo0 HI) (Xo1 HI) (Xo2 HI) (Xe3 HI) rfl (by decide) w.heap.size ((Below.next0 Qt.out (Xe1 F1)).alloc (Below.next0 Qt.out (Xe1 F1)).size _) ((Below.next0 Qt.out (Xe1 F1)).alloc (Below.next0 Qt.out (Xe1 F1)).size _).size al k cl _ rfl ((HRW.out _ (Xe1 F1)).alloc _) ⟨w2.heap.size,0,none⟩ 1 1 [sv (dec 0)] rfl rfl (Q3f w2 #[sv (dec 0)] _ _) (Qcb _) (k+1) rfl (by omega) (by omega) ?_;intro a3 c3 w5 Z7 X9 Z0 T5;have HO:=Xh4 Z7 Z0 X9 T5;clear Z7 X9 Z0 T5))
      go_roundg q
      case measure=>have h1:=(Xo1 QU);have h2:=(Xo3 QU);omega
      case rel=>
       have h1:=(Xo0 QU);rw[Us JB.out] at h1;have Vm:0<=64:=(by have h3:=(Xo0 F1).len;have h4:=(Xo2 QU);omega);have Ve:Row w5 w.heap.size 9 1 a3 (k+1) c3 ((xs++[t]).map sv):=by
        have h5:=(Xo0 HO);rw[UR,HT.out];exact h5
       exact ⟨q,aq,0,cq,a3,k+1,c3,xs++[t],rfl,rfl,Vm,⟨(Xo0 F1).len,(Xo0 F1).cap,(Xo0 F1).most,(Xo0 F1).low,.inl (by rw[JB.out];rfl)⟩,Ve,by rw[Uh,D4];rfl,by rw[HT.out];exact h1,rfl,(Xo1 HO),fun h=>absurd JB.out h⟩
     ·skip;have JB:=Ub m9;have Xh:=Ub u4;clear m9 u4;have hS:(dec r).length<=19:=XP;obtain ⟨t,ht⟩:∃t:LU,t=dec r:=⟨_,rfl⟩;have P6:t.length<=40:=(by rw[ht];omega);have HT:=Ub ht
      go_wp2_with (first
       |(go_at_call_of 109 ao;refine HDV.out.mono ?_;rintro e w1 ⟨aq,nq,cq,ar,nr,cr,rfl,QT,Zs,C0,E7⟩;have Vb:=Ub (fun x (e:aq=some x)=>Un YQ.out.size (E7 x e));clear E7;obtain rfl:nq=0:=by { have:=QT.len;rw[JB.out,Q0z] at this;exact this.symm };have C3:=Qsl (d:=r) Xc Xh.out;rw[C3] at Zs;obtain rfl:nr=1:=Zs.len.symm;obtain ⟨gr,og,KA,K6,Qe⟩:=Zs.rd.at_ (k:=0) (x:=r) rfl;rw[Tz] at Qe;subst KA;have K0:=Xh2 QT (Below.next0 YQ.out C0);clear QT Zs C0)
       |(refine (Qca r (by omega) _ (HTB.out _ (Below.next0 Qt.out (Xe1 K0)))).mono ?_;rintro e w2 ⟨rfl,D0⟩;have F1:=Xh2 ((Xo0 K0).step D0) (Below.next0 (Xe1 K0) D0);clear D0)
       |(at_builtin;refine Q0o rfl (.tmp 41) (.tmp 43) 39 rfl w _ 9 i0 _ 1 16 Tryz.underlying39 (Xo0 HI) (Xo1 HI) (Xo2 HI) (Xe3 HI) rfl (by decide) w.heap.size ((Below.next0 Qt.out (Xe1 F1)).alloc (Below.next0 Qt.out (Xe1 F1)).size _) ((Below.next0 Qt.out (Xe1 F1)).alloc (Below.next0 Qt.out (Xe1 F1)).size _).size al k cl _ rfl ((HRW.out _ (Xe1 F1)).alloc _) ⟨w2.heap.size,0,none⟩ 1 1 [sv (dec r)] rfl rfl (Q3f w2 #[sv (dec r)] _ _) (Qcb _) (k+1) rfl (by omega) (by omega) ?_;intro a3 c3 w5 Z7 X9 Z0 T5;have HO:=Xh4 Z7 Z0 X9 T5;clear Z7 X9 Z0 T5))
      go_roundg q
      case measure=>have h1:=(Xo1 QU);have h2:=(Xo3 QU);omega
      case rel=>
       have h1:=(Xo0 QU);rw[Us JB.out] at h1;have Vm:0<=64:=(by have h3:=(Xo0 F1).len;have h4:=(Xo2 QU);omega);have Ve:Row w5 w.heap.size 9 1 a3 (k+1) c3 ((xs++[t]).map sv):=by
        have h5:=(Xo0 HO);rw[UR,HT.out];exact h5
       exact ⟨q,aq,0,cq,a3,k+1,c3,xs++[t],rfl,rfl,Vm,⟨(Xo0 F1).len,(Xo0 F1).cap,(Xo0 F1).most,(Xo0 F1).low,.inl (by rw[JB.out];rfl)⟩,Ve,by rw[Uh,D4];rfl,by rw[HT.out];exact h1,rfl,(Xo1 HO),fun h=>absurd JB.out h⟩
    ·by_cases u4:r=0
     ·skip;have JB:=Ub m9;have Xh:=Ub (show (0:Nat)=0 from rfl);clear m9;subst u4;obtain ⟨m,hm⟩:∃m,19-(dec 0).length=m:=⟨_,rfl⟩;have hmI:(19:Int)-((dec 0).length:Int)=(m:Int):=(by omega);have hm19:m<=19:=(by omega);have hrpl:(Lib.repeatL [48] m).length=m:=(by rw[Q74,List.length_replicate]);have hdl19':(Lib.decDigits _).length<=19:=XP;have hrp:=fun W=>Tryz.J3z ⟨#[48]⟩ m W (by omega) (by show 1*m<=_;omega);obtain ⟨t,ht⟩:∃t:LU,t=List.replicate m 48++dec 0:=⟨_,rfl⟩;have P6:t.length<=40:=(by rw[ht];simp;omega);have HT:=Ub ht
      go_wp2_with (first
       |(go_at_call_of 109 ao;refine HDV.out.mono ?_;rintro e w1 ⟨aq,nq,cq,ar,nr,cr,rfl,QT,Zs,C0,E7⟩;have Vb:=Ub (fun x (e:aq=some x)=>Un YQ.out.size (E7 x e));clear E7;have hnqI:(0:Int)<(nq:Int):=by { have h9:=QT.len;have h8:nq≠0:=fun e=>JB.out ((Q58 (B:=2^64) (by decide)).1 (UJ.1 (by rw[h9,e])));omega };obtain rfl:nr=0:=by { have:=Zs.len;rw[Xh.out,Q0z] at this;exact this.symm };have K0:=Xh2 QT (Below.next0 YQ.out C0);clear QT Zs C0)
       |(refine (Qca 0 (by omega) _ (HTB.out _ (Below.next0 Qt.out (Xe1 K0)))).mono ?_;rintro e w2 ⟨rfl,D0⟩;have F1:=Xh2 ((Xo0 K0).step D0) (Below.next0 (Xe1 K0) D0);clear D0)
       |(go_at_call_of 111 (Value.string ⟨#[48]⟩);refine (hrp _).mono ?_;rintro e w3 ⟨rfl,G0⟩;have E3:=Xh2 ((Xo0 F1).step G0) (Below.next0 (Xe1 F1) G0);clear G0)
       |(at_builtin;refine Q0o rfl (.tmp 41) (.tmp 43) 39 rfl w _ 9 i0 _ 1 16 Tryz.underlying39 (Xo0 HI) (Xo1 HI) (Xo2 HI) (Xe3 HI) rfl (by decide) w.heap.size ((Below.next0 Qt.out (Xe1 E3)).alloc (Below.next0 Qt.out (Xe1 E3)).size _) ((Below.next0 Qt.out (Xe1 E3)).alloc (Below.next0 Qt.out (Xe1 E3)).size _).size al k cl _ rfl ((HRW.out _ (Xe1 E3)).alloc _) ⟨w3.heap.size,0,none⟩ 1 1 [Value.string (⟨(Lib.repeatL [48] m).toArray⟩++⟨(dec 0).toArray⟩)] rfl rfl (Q3f w3 #[Value.string (⟨(Lib.repeatL [48] m).toArray⟩++⟨(dec 0).toArray⟩)] _ _) (Qcb _) (k+1) rfl (by omega) (by omega) ?_;intro a3 c3 w5 Z7 X9 Z0 T5;have HO:=Xh4 Z7 Z0 X9 T5;clear Z7 X9 Z0 T5))
      go_roundg q
      case measure=>have h1:=(Xo1 QU);have h2:=(Xo3 QU);omega
      case rel=>
       have h1:=(Xo0 QU);rw[Up JB.out,hm] at h1;have Vm:nq<=64:=(by have h3:=(Xo0 E3).len;have h4:=(Xo2 QU);omega);have Ve:Row w5 w.heap.size 9 1 a3 (k+1) c3 ((xs++[t]).map sv):=by
        have h5:=(Xo0 HO);rw[UR,HT.out];rw[Q74] at h5;have h6:∀(l r:LU),Value.string ((⟨l.toArray⟩:ByteArray)++⟨r.toArray⟩)=sv (l++r):=fun l r=>congrArg Value.string (ByteArray.ext (by simp[Xae]));rw[h6] at h5;exact h5
       exact ⟨q,aq,nq,cq,a3,k+1,c3,xs++[t],rfl,rfl,Vm,(Qa7 (Xo0 E3) JB.out Vb.out (Xo0 HAL) (Xo2 HO) (Xe3 HO)).1,Ve,by rw[Uh,D4];rfl,by rw[HT.out];exact h1,rfl,(Xo1 HO),fun _=>(Qa7 (Xo0 E3) JB.out Vb.out (Xo0 HAL) (Xo2 HO) (Xe3 HO)).2⟩
     ·skip;have JB:=Ub m9;have Xh:=Ub u4;clear m9 u4;obtain ⟨m,hm⟩:∃m,19-(dec r).length=m:=⟨_,rfl⟩;have hmI:(19:Int)-((dec r).length:Int)=(m:Int):=(by omega);have hm19:m<=19:=(by omega);have hrpl:(Lib.repeatL [48] m).length=m:=(by rw[Q74,List.length_replicate]);have hdl19':(Lib.decDigits _).length<=19:=XP;have hrp:=fun W=>Tryz.J3z ⟨#[48]⟩ m W (by omega) (by show 1*m<=_;omega);obtain ⟨t,ht⟩:∃t:LU,t=List.replicate m 48++dec r:=⟨_,rfl⟩;have P6:t.length<=40:=(by rw[ht];simp;omega);have HT:=Ub ht
      go_wp2_with (first
       |(go_at_call_of 109 ao;refine HDV.out.mono ?_;rintro e w1 ⟨aq,nq,cq,ar,nr,cr,rfl,QT,Zs,C0,E7⟩;have Vb:=Ub (fun x (e:aq=some x)=>Un YQ.out.size (E7 x e));clear E7;have hnqI:(0:Int)<(nq:Int):=by { have h9:=QT.len;have h8:nq≠0:=fun e=>JB.out ((Q58 (B:=2^64) (by decide)).1 (UJ.1 (by rw[h9,e])));omega };have C3:=Qsl (d:=r) Xc Xh.out;rw[C3] at Zs;obtain rfl:nr=1:=Zs.len.symm;obtain ⟨gr,og,KA,K6,Qe⟩:=Zs.rd.at_ (k:=0) (x:=r) rfl;rw[Tz] at Qe;subst KA;have K0:=Xh2 QT (Below.next0 YQ.out C0);clear QT Zs C0)
       |(refine (Qca r (by omega) _ (HTB.out _ (Below.next0 Qt.out (Xe1 K0)))).mono ?_;rintro e w2 ⟨rfl,D0⟩;have F1:=Xh2 ((Xo0 K0).step D0) (Below.next0 (Xe1 K0) D0);clear D0)
       |(go_at_call_of 111 (Value.string ⟨#[48]⟩);refine (hrp _).mono ?_;rintro e w3 ⟨rfl,G0⟩;have E3:=Xh2 ((Xo0 F1).step G0) (Below.next0 (Xe1 F1) G0);clear G0)
       |(at_builtin;refine Q0o rfl (.tmp 41) (.tmp 43) 39 rfl w _ 9 i0 _ 1 16 Tryz.underlying39 (Xo0 HI) (Xo1 HI) (Xo2 HI) (Xe3 HI) rfl (by decide) w.heap.size ((Below.next0 Qt.out (Xe1 E3)).alloc (Below.next0 Qt.out (Xe1 E3)).size _) ((Below.next0 Qt.out (Xe1 E3)).alloc (Below.next0 Qt.out (Xe1 E3)).size _).size al k cl _ rfl ((HRW.out _ (Xe1 E3)).alloc _) ⟨w3.heap.size,0,none⟩ 1 1 [Value.string (⟨(Lib.repeatL [48] m).toArray⟩++⟨(dec r).toArray⟩)] rfl rfl (Q3f w3 #[Value.string (⟨(Lib.repeatL [48] m).toArray⟩++⟨(dec r).toArray⟩)] _ _) (Qcb _) (k+1) rfl (by omega) (by omega) ?_;intro a3 c3 w5 Z7 X9 Z0 T5;have HO:=Xh4 Z7 Z0 X9 T5;clear Z7 X9 Z0 T5))
      go_roundg q
      case measure=>have h1:=(Xo1 QU);have h2:=(Xo3 QU);omega
      case rel=>
       have h1:=(Xo0 QU);rw[Up JB.out,hm] at h1;have Vm:nq<=64:=(by have h3:=(Xo0 E3).len;have h4:=(Xo2 QU);omega);have Ve:Row w5 w.heap.size 9 1 a3 (k+1) c3 ((xs++[t]).map sv):=by
        have h5:=(Xo0 HO);rw[UR,HT.out];rw[Q74] at h5;have h6:∀(l r:LU),Value.string ((⟨l.toArray⟩:ByteArray)++⟨r.toArray⟩)=sv (l++r):=fun l r=>congrArg Value.string (ByteArray.ext (by simp[Xae]));rw[h6] at h5;exact h5
       exact ⟨q,aq,nq,cq,a3,k+1,c3,xs++[t],rfl,rfl,Vm,(Qa7 (Xo0 E3) JB.out Vb.out (Xo0 HAL) (Xo2 HO) (Xe3 HO)).1,Ve,by rw[Uh,D4];rfl,by rw[HT.out];exact h1,rfl,(Xo1 HO),fun _=>(Qa7 (Xo0 E3) JB.out Vb.out (Xo0 HAL) (Xo2 HO) (Xe3 HO)).2⟩
theorem Qui {w:World} {a:OA} {n c:Nat} {ls:LN} {neg:Bool} {exp:Int} (h:WordsIn w a n c ls) (hn:Q0a neg exp ls):ls=dig (2^64) (val (2^64) ls):=by
 have h1:trimL ls=ls:=by
  by_cases h0:ls=[]
  ·subst h0;rfl
  ·unfold Q0a at hn;rw[Up h0] at hn;have h2:=Q4f ls;rw[hn.1,Tn] at h2;exact h2.symm
 have h3:=Q1l (B:=2^64) (by decide) h.low;rw[h1] at h3;exact h3
theorem Qhc (neg:Bool) (exp:Int) (a:OA) (n c:Nat) (ls:LN) (w:World) (h:WordsIn w a n c ls) (he: -9223372036854775808<=exp) (Q6:exp<=9223372036854775807) (d6:∀W,Bw w W->Lib.TabIs Tryz.prog W "internal/strconv.uint64pow10" .u64 Lib.pow10Tab):
 Calls Tryz.prog 38 #[.agg #[.bool neg,.int .i64 exp,.slice a n c]] w fun e w'=>e=.returned (sv (Q3b neg exp ls))/\Bw w w':=by
 have J3:=Un h.cap h.most;have Z2:Bw w (w.alloc (.cells #[.bool neg,.int .i64 exp,.slice a n c] 26)):=Ba;have hN:=Q03.new w (.bool neg) (.int .i64 exp) (.slice a n c) 26;have I3:=Q0h w (.cells #[.bool neg,.int .i64 exp,.slice a n c] 26);have hr:=Q11 neg exp a n c ls _ (h.step Z2) he Q6 J3
 by_cases Z1:Q0a neg exp ls
 ·have Q9:Q3b neg exp ls=Q2e neg (val (2^64) ls) exp:=Us Z1;rw[Q9];have y6:=Z1.exp;have hn64:n<=64:=by rw[<-h.len];exact y6.2.2
  rw[UQ Z1] at hr;have hdl:=Qsu h hn64;have WN:=Qui h Z1;have hp:=fun W (hb:Bw w W)=>Qmp a n c (val (2^64) ls) W (by rw[<-WN];exact h.step hb) hn64 hdl (fun V hV=>d6 V (Below.next0 hb hV));generalize val (2^64) ls=v at*;have HR:=Xh5 hr hp hN Z2 d6;clear hr hp Q9 Z1 h hN Z2 WN d6
  by_cases h0:exp=0
  ·subst h0;cases neg
   all_goals
    go_enter Tryz.func38,Tryz.ntmps38
    go_wp2_with (first
     |(go_at_call_of 68 a;refine ((Xo1 HR) _ K0.out).mono ?_;rintro e w3 ⟨rfl,G0⟩;have K2:=Below.next0 Xh.out G0;have hQ:=(Xo2 HR).step K2 I3;have y8:=hQ.c0;have R6:=hQ.c1;have E3:=Ub K2;clear G0 K2 hQ)
     |(refine (Xo0 HR).mono ?_;rintro e w1 ⟨rfl,C0⟩;have hQ:=(Xo2 HR).step C0 I3;have J5:=hQ.c2;have K0:=Ub (Below.next0 (Xo3 HR) C0);have Xh:=Ub C0;clear C0 hQ))
    go_ret;refine ⟨?_,Below.next0 (Xo3 HR) E3.out⟩;refine congrArg Ending.returned (congrArg Value.string (ByteArray.ext ?_));simp[Q2e,Qbl]
  ·obtain ⟨m,hm⟩:∃m:Nat,exp.natAbs=m:=⟨_,rfl⟩;have o9:0<m:=(by omega);have KB:m<=65536:=(by omega);have XL:=dec_len 5 m (by omega) (by decide);have hml':(Lib.decDigits m).length<=5:=XL;have h0I:((exp != 0):Bool)=true:=by rw[bne_iff_ne];exact h0
   by_cases x5:exp<0
   ·skip;have Q8:Lib.itoa exp=45::dec m:=(by { rw[show exp= -(m:Int) by omega];exact Lib.itoa_neg m o9 });have hitl:(Lib.itoa exp).length<=6:=(by { rw[Q8];simp;omega });have HIT:=Xh2 Q8 hm;clear Q8 hm y6;cases neg
    all_goals
     go_enter Tryz.func38,Tryz.ntmps38
     go_wp2_with (first
      |(go_at_call_of 68 a;refine ((Xo1 HR) _ K0.out).mono ?_;rintro e w3 ⟨rfl,G0⟩;have K2:=Below.next0 Xh.out G0;have hQ:=(Xo2 HR).step K2 I3;have y8:=hQ.c0;have R6:=hQ.c1;have E3:=Ub K2;clear G0 K2 hQ)
      |(go_at_call_of 69 exp;refine (Tryz.J3d exp he Q6 _ ((Xe4 HR) _ (Below.next0 (Xo3 HR) E3.out))).mono ?_;rintro e w4 ⟨rfl,k4,os4,rfl⟩;have M5:=Ub (Below.next0 E3.out (below_grow k4 os4)))
      |(refine (Xo0 HR).mono ?_;rintro e w1 ⟨rfl,C0⟩;have hQ:=(Xo2 HR).step C0 I3;have J5:=hQ.c2;have K0:=Ub (Below.next0 (Xo3 HR) C0);have Xh:=Ub C0;clear C0 hQ))
     go_ret;refine ⟨?_,Below.next0 (Xo3 HR) M5.out⟩;refine congrArg Ending.returned (congrArg Value.string (ByteArray.ext ?_));simp[Xae,Q2e,Qbl,h0,x5,(Xo0 HIT),(Xe1 HIT)]
   ·skip;have Q8:Lib.itoa exp=dec m:=(by { rw[show exp=(m:Int) by omega];exact Lib.itoa_nonneg m });have hitl:(Lib.itoa exp).length<=6:=(by { rw[Q8];exact Un XL (by decide) });have HIT:=Xh2 Q8 hm;clear Q8 hm y6;cases neg
    all_goals
     go_enter Tryz.func38,Tryz.ntmps38
     go_wp2_with (first
      |(go_at_call_of 68 a;refine ((Xo1 HR) _ K0.out).mono ?_;rintro e w3 ⟨rfl,G0⟩;have K2:=Below.next0 Xh.out G0;have hQ:=(Xo2 HR).step K2 I3;have y8:=hQ.c0;have R6:=hQ.c1;have E3:=Ub K2;clear G0 K2 hQ)
      |(go_at_call_of 69 exp;refine (Tryz.J3d exp he Q6 _ ((Xe4 HR) _ (Below.next0 (Xo3 HR) E3.out))).mono ?_;rintro e w4 ⟨rfl,k4,os4,rfl⟩;have M5:=Ub (Below.next0 E3.out (below_grow k4 os4)))
      |(refine (Xo0 HR).mono ?_;rintro e w1 ⟨rfl,C0⟩;have hQ:=(Xo2 HR).step C0 I3;have J5:=hQ.c2;have K0:=Ub (Below.next0 (Xo3 HR) C0);have Xh:=Ub C0;clear C0 hQ))
     go_ret;refine ⟨?_,Below.next0 (Xo3 HR) M5.out⟩;refine congrArg Ending.returned (congrArg Value.string (ByteArray.ext ?_));simp[Xae,Q2e,Qbl,h0,x5,(Xo0 HIT),(Xe1 HIT)]
 ·have Q9:Q3b neg exp ls=[]:=Up Z1;rw[Q9];rw[Ta Z1] at hr;have HR:=Xh3 hr hN Z2;clear hr Q9 Z1 h hN Z2 d6
  go_enter Tryz.func38,Tryz.ntmps38
  go_wp2_with (refine (Xo0 HR).mono ?_;rintro e w1 ⟨rfl,C0⟩;have K0:=Ub (Below.next0 (Xe2 HR) C0);clear C0)
  go_ret;exact ⟨rfl,K0.out⟩
theorem Q98:(Tryz.prog.info? 9).map (fun i=>(i.zero,i.size,i.bytes))=some (some (.string ⟨#[]⟩),1,16):=by kernel_rfl
def Qe1 (w:World):Prop:=∀W,Bw w W->Lib.TabIs Tryz.prog W "internal/strconv.uint64pow10" .u64 Lib.pow10Tab
theorem Qe1.step {w w':World} (h:Qe1 w) (hb:Bw w w'):Qe1 w':=fun W hW=>h W (Below.next0 hb hW)
theorem Qkb:∀(E F:List Int) (i:Nat),Q2p i (E++F)=Q2p i E++Q2p (i+E.length) F
 |[],F,i=>by simp[Q2p]
 |k::r,F,i=>by
  rw[Tt,Q2p,Q2p,Qkb r F (i+1),Tb,Ur];rw[show i+1+r.length=i+(r.length+1) by omega]
theorem Qqu {E:List Int} {i:Nat} {k:Int} (h:E[i]?=some k):Q2p 0 (E.take (i+1))=Q2p 0 (E.take i)++Qi8 i k:=by
 have E0:=(Ul.1 h).1;rw[Tc,h,Qkb]
 congr 1
 show Q2p (0+(E.take i).length) [k]=_
 rw[Tl,Xa4 (by omega),UH,Q2p,Q2p,Xai]
theorem Qb2:∀(l:List (LU)),Lib.join l [42]=Q50 l
 |[]=>rfl
 |[x]=>by rw[Lib.join_one];rfl
 |x::y::r=>by
  rw[Lib.join_cons,Q50,<-Qb2 (y::r),Lib.join_cons];simp[Lib.joinTail]
def Qrc (w:World) (B:Nat) (a:OA) (n c:Nat) (ts:List (LU)):Prop:=Row w B 9 1 a n c (ts.map sv)
def Qzi (w:World) (E:List Int) (s3 s10:Value) (wx:World):Prop:=∃(i:Nat) (a:OA) (n c:Nat),s3=.slice a n c/\s10=.int .i64 (i:Int)/\i<=E.length/\n<=i/\Qrc wx w.heap.size a n c (Q2p 0 (E.take i))/\Bw w wx
theorem Qg6 (ty:TypeId) (w0 w:World) (hb:Bw w0 w) (a:OA) (n c:Nat) (ts:List (LU)) (hr:Qrc w w0.heap.size a n c ts) (t:LU) (hn:n<=1000) (v:Value) (hv:v=sv t):
 ∃a' c' w',(Builtin.append_ #[39,39] ty #[.slice a n c,.slice (some ⟨w.heap.size,0,none⟩) 1 1]).run Tryz.prog (w.alloc (.cells #[v] 9))=.ok (.slice a' (n+1) c') w'/\Qrc w' w0.heap.size a' (n+1) c' (ts++[t])/\Bw w0 w':=by
 subst hv;obtain ⟨i0,E2,P1,G1,K1⟩:=Q0p Q98;have D0:=hb.alloc hb.size (.cells #[sv t] 9);obtain ⟨a',c',w',S1,I0,K6,O0,_⟩:=Q4b w0 (w.alloc (.cells #[sv t] 9)) ty 39 9 i0 _ 1 16 Tryz.underlying39 E2 P1 G1 K1 rfl (by decide) w0.heap.size D0 D0.size a n c _ (hr.alloc _) ⟨w.heap.size,0,none⟩ 1 1 [sv t] rfl (Tx (cs:= #[sv t]) (Um _ _)) (by simp[Value.oneCell',sv]) (n+1) rfl (by omega) (by omega);exact ⟨a',c',w',S1,by unfold Qrc;rw[UR];exact I0,O0⟩
theorem Qg7 {v:Nat} {e:Int} (hv:v<(2^64)^64) (h1: -65536<=e) (h2:e<=65536):(Q2e false v e).length<=1400:=by
 have hd:=DecM.dec_len 1300 v (Uc hv Qcv) (by decide);have he:=DecM.dec_len 6 e.natAbs (by omega) (by decide);unfold Q2e Qbl;rw[Up (by decide),Ty,Uh]
 split
 ·simp;omega
 ·rw[Ur]
  split
  ·rw[Ur];omega
  ·omega
theorem Qqv {i:Nat} {k:Int} (hi:i<9) (h8:k<=8):∀t∈Qi8 i k,t.length<=4:=by
 intro t ht;unfold Qi8 at ht
 split at ht
 ·rw[Ux] at ht;subst ht;rw[Q2i (by omega)];simp
 ·split at ht
  ·rw[Ux] at ht;subst ht;rw[Q2i (by omega),Q2i (by omega)];simp
  ·cases ht
theorem Qqw (i:Nat) (k:Int):(Qi8 i k).length<=1:=by
 unfold Qi8
 split
 ·simp
 ·split <;> simp
theorem Q99:∀(E:List Int) (i:Nat),i+E.length<=9->(∀x∈E,x<=8)->(∀t∈Q2p i E,t.length<=4)/\(Q2p i E).length<=E.length
 |[],i,_,_=>⟨(fun t h=>by cases h),Ue _⟩
 |k::r,i,hi,h=>by
  rw[Ur] at hi;obtain ⟨h1,h2⟩:=Q99 r (i+1) (by omega) (fun x hx=>h x (by simp[hx]));rw[Q2p];refine ⟨fun t ht=>?_,?_⟩
  ·rcases Tq.1 ht with h3|h3
   ·exact Qqv (by omega) (h k (by simp)) t h3
   ·exact h1 t h3
  ·rw[Uh,Ur];have:=Qqw i k;omega
theorem Qe2 {N:Nat}:∀(ts:List (LU)),(∀t∈ts,t.length<=N)->(Q50 ts).length<=ts.length*(N+1)
 |[],_=>by simp[Q50]
 |[x],h=>by
  have:=h x (by simp);simp only[Q50,Ur,TW];omega
 |x::y::r,h=>by
  have h1:=h x (by simp);have h2:=Qe2 (y::r) (fun t ht=>h t (by simp[ht]));rw[Q50,Uh,Ur];rw[Ur,Tm];omega
theorem Qe3 (ty:TypeId) (w0 w:World) (hb:Bw w0 w) (a:OA) (n c:Nat) (ts:List (LU)) (hr:Qrc w w0.heap.size a n c ts) (B:Nat) (b:OA) (m d:Nat) (us:List (LU)) (hs:Qrc w B b m d us) (hn:n+m<=1000):
 ∃a' c' w',(Builtin.append_ #[39,39] ty #[.slice a n c,.slice b m d]).run Tryz.prog w=.ok (.slice a' (n+m) c') w'/\Qrc w' w0.heap.size a' (n+m) c' (ts++us)/\Bw w0 w':=by
 obtain ⟨i0,E2,P1,G1,K1⟩:=Q0p Q98;rcases hs.form with ⟨rfl,rfl,rfl,hu⟩|⟨g,cur,rfl,_⟩
 ·have hun:us=[]:=List.map_eq_nil_iff.1 hu;subst hun;exact ⟨a,c,w,Q94 w _ ty _ i0 Tryz.underlying39 E2 a none n c 0 hr.cap.1,by simpa using hr,hb⟩
 ·have R0:∀j u,(us.map sv)[j]?=some u->w.cell? ((⟨g,0,none⟩:Addr).add j)=some u:=fun j u hj=>by
   obtain ⟨g',e,_,_,h⟩:=hs.at_ hj;injection e with e;injection e with e;subst e;rw[Xbp,UH];exact h
  obtain ⟨a',c',w',S1,I0,K6,O0,_⟩:=Q4b w0 w ty 39 9 i0 _ 1 16 Tryz.underlying39 E2 P1 G1 K1 rfl (by decide) w0.heap.size hb hb.size a n c _ hr ⟨g,0,none⟩ m d (us.map sv) hs.len R0 (by intro u hu;obtain ⟨t,_,rfl⟩:=To.1 hu;rfl) (n+m) rfl (by omega) (by omega);exact ⟨a',c',w',S1,by unfold Qrc;rw[UR];exact I0,O0⟩
theorem Qe4 {w:World} {B:Nat} {a:OA} {n c:Nat} {ts:List (LU)} (h:Qrc w B a n c ts) (hn:n<=1000) (ht:∀t∈ts,t.length<=1400):
 Calls Tryz.prog 36 #[.slice a n c,.string ⟨#[42]⟩] w fun e w'=>e=.returned (sv (Q50 ts))/\Bw w w':=by
 have N0:ts.length=n:=by have:=h.len;simpa using this
 rcases h.form with ⟨rfl,rfl,rfl,hu⟩|⟨g,cur,rfl,_,hg,_⟩
 ·have hun:ts=[]:=List.map_eq_nil_iff.1 hu;subst hun;refine (Tryz.J26 none 0 ⟨#[42]⟩ w).mono ?_;rintro e w' ⟨rfl,rfl⟩;exact ⟨rfl,Ug _ _⟩
 ·have M9:(ts.map fun t=>(⟨t.toArray⟩:ByteArray)).map (·.data.toList)=ts:=by
   rw[List.map_map];exact (List.map_congr_left fun t _=>by simp).trans (List.map_id ts)
  have hj:=Qe2 ts ht;have K4:=Tryz.J27 g 0 c (ts.map fun t=>(⟨t.toArray⟩:ByteArray)) ⟨#[42]⟩ w (fun j x hx=>by
   rw[UP] at hx;obtain ⟨t,Q2,rfl⟩:=Option.map_eq_some_iff.1 hx;obtain ⟨g',e,_,_,h2⟩:=h.at_ (j:=j) (x:=sv t) (by rw[UP,Q2];rfl);injection e with e;injection e with e;subst e;rw[UH];exact h2) hg (by rw[UK];omega) (by rw[UK,N0];exact h.cap.1) (by
   rw[M9]
   show (Lib.join ts [42]).length<=_
   rw[Qb2];have:ts.length*1401<=1000*1401:=Td _ (by omega);omega)
  rw[M9,UK,N0] at K4;refine K4.mono ?_;rintro e w' ⟨rfl,hb⟩;refine ⟨?_,hb⟩
  show Ending.returned (.string ⟨(Lib.join ts [42]).toArray⟩)=_
  rw[Qb2]
theorem Qkc {k:Nat} {m:Q01} (h:OkM k m) (hl:Low (2^64) m.ws):Qby m.term.1=Q1p false m.exp m.ws/\dyT (Qby m.term.1)=Q3b false m.exp m.ws/\Q0a false m.exp m.ws/\(Q3b false m.exp m.ws).length<=1400:=by
 obtain ⟨⟨h1,h2⟩,h3⟩:=h;rcases Q1t h2 hl with ⟨h4,_⟩|⟨_,ho,_,hv,g1,g2⟩
 ·exact absurd h4 h3
 have h5:Q0a false m.exp m.ws:=by
  unfold Q0a at h2⊢;rw[Up h3] at h2⊢;exact h2
 have ha:Qby m.term.1=Q1p false m.exp m.ws:=Qgm ho;refine ⟨ha,?_,h5,?_⟩
 ·rw[ha,show Q3b false m.exp m.ws=Q2e false (val (2^64) m.ws) m.exp from Us h5];exact Qcu ho
 ·rw[show Q3b false m.exp m.ws=Q2e false (val (2^64) m.ws) m.exp from Us h5];exact Qg7 hv g1 g2
theorem Qx2 {e e':Int} {n':Bool} {L K:LN} (h1:Q0a false e L) (l1:Low (2^64) L) (h2:Q0a n' e' K) (l2:Low (2^64) K) (hv:Q1p n' e' K=dy 1 0):decide (false=n'/\e=e'/\L=K)=decide (Q1p false e L=1):=by
 refine decide_eq_decide.2 ⟨fun ⟨a,b,c⟩=>?_,fun h=>?_⟩
 ·subst a;subst b;subst c;rw[hv];rfl
 ·exact Ql7 h1 l1 h2 l2 (h.trans hv.symm)
theorem Qkd (k:Nat) (m:Q01) (a:OA) (l c:Nat) (b:OA) (n d:Nat) (w:World) (hw:WordsIn w a l c m.ws) (he:Q0g w b n d m.es) (P2:OkM k m) (Y5:k<=4) (hT:Q1s w) (hP:Qe1 w):
 Calls Tryz.prog 71 #[.agg #[.bool m.neg,.int .i64 m.exp,.slice a l c,.slice b n d]] w fun r w'=>r=.returned (sv (Q1y m.term))/\Bw w w':=by
 have hX:=Q34.new w (.bool m.neg) (.int .i64 m.exp) (.slice a l c) (.slice b n d) 98;have K2:Bw w (w.alloc (.cells #[.bool m.neg,.int .i64 m.exp,.slice a l c,.slice b n d] 98)):=Ba;have U7:=Q0h w (.cells #[.bool m.neg,.int .i64 m.exp,.slice a l c,.slice b n d] 98);have N0:=he.len;have Wd:m.es.length<=4:=by have:=P2.1.1.1;omega
 have u7:=Q2g P2.1.1;have S3:=he.cap;have hmost:=he.most;obtain ⟨e0,e1,e2⟩:=hX.cc;have e3:=hX.c3;have H:=Xh9 hw he P2 hT hP hX K2 U7 u7;clear hw he P2 hT hP hX K2 U7 u7
 go_enter Tryz.func71,Tryz.ntmps71
 go_wp2_with fail
 generalize O2:w.alloc (.cells #[.bool m.neg,.int .i64 m.exp,.slice a l c,.slice b n d] 98)=W1 at e0 e1 e2 e3 H⊢;clear O2
 go_loopw [3,10] (fun s3 s10 wr=>Qzi W1 m.es s3 s10 wr) (fun _ iv _=>n-(intOf iv).toNat)
 case atStart=>exact ⟨0,none,0,0,rfl,rfl,Ut _,Ue _,Row.nil_ _ _ _ _,Ug _ _⟩
 case round=>
  obtain ⟨i,a3,n3,c3,rfl,rfl,hi,hn3,Jp,C1⟩:=hrel
  by_cases E0:i<m.es.length
  ·have J0:(i:Int)<(n:Int):=(by omega);obtain ⟨x,hx⟩:∃x,m.es[i]?=some x:=⟨_,Ua E0⟩;obtain ⟨b0,o0,U5,X1,u5⟩:=(((Xo1 H).step (Xo6 H)).step C1).rd.at_ hx;subst U5;obtain ⟨m5,hx8⟩:=(Xe8 H) x (Uf hx);have ZV:=Qqu hx;have Q8:=Tryz.J3a (i+1) (by omega) wr;rw[show ((i+1:Nat):Int)=(i:Int)+1 by omega] at Q8;obtain ⟨q,hq⟩:∃q,Lib.decDigits (i+1)=[q]:=⟨_,Q2i (by omega)⟩;rw[hq] at Q8;have Z6:wrap64 ((i:Int)+1)=(i:Int)+1:=(by unfold wrap64;omega);have HS:=Xh6 Jp C1 ZV Q8 hq hx;clear Jp C1 ZV Q8 hq hx
   by_cases h1:x=1
   ·subst h1;obtain ⟨a5,c5,w5,VL,Jk,Z0⟩:=Qg6 39 W1 wr (Xo1 HS) a3 n3 c3 _ (Xo0 HS) [120,q] (by omega) (.string ⟨#[120,q]⟩) rfl;have H5:=Xh2 Jk Z0;clear Jk Z0
    go_wp2_with (first|(at_builtin;refine Q06 rfl (.tmp 18) (.tmp 23) 39 39 rfl _ _ rfl rfl _ _ VL ?_)|(refine (Xo3 HS).mono ?_;rintro r w4 ⟨rfl,rfl⟩))
    refine ⟨⟨i+1,a5,n3+1,c5,rfl,congrArg (Value.int .i64) (by omega),E0,by omega,?_,(Xe1 H5)⟩,by simp only[intOf];omega⟩;rw[(Xo2 HS),show Qi8 i 1=[[120,q]] by rw[Qi8,Us rfl,show dec (i+1)=[q] from (Xo4 HS)]];exact (Xo0 H5)
   ·have h1':(x==1)=false:=beq_eq_false_iff_ne.2 h1
    by_cases h2:1<x
    ·obtain ⟨K,hK⟩:∃K:Nat,x=(K:Int):=⟨x.toNat,by omega⟩;subst hK;have hit2:=Tryz.J3a K (by omega) wr;obtain ⟨q2,F6⟩:∃q2,Lib.decDigits K=[q2]:=⟨_,Q2i (by omega)⟩;rw[F6] at hit2;obtain ⟨a5,c5,w5,VL,Jk,Z0⟩:=Qg6 39 W1 wr (Xo1 HS) a3 n3 c3 _ (Xo0 HS) [120,q,94,q2] (by omega) (.string ⟨#[120,q,94,q2]⟩) rfl;have h1n:¬K=1:=(by omega);have h2n:1<K:=(by omega);have H5:=Xh6 Jk Z0 hit2 F6 h1n h2n;clear Jk Z0 hit2 F6 h1n h2n
     go_wp2_with (first|(at_builtin;refine Q06 rfl (.tmp 28) (.tmp 37) 39 39 rfl _ _ rfl rfl _ _ VL ?_)|(go_at_call_of 37 (Value.int .i64 (K:Int));refine (Xo2 H5).mono ?_;rintro r w6 ⟨rfl,rfl⟩)|(refine (Xo3 HS).mono ?_;rintro r w4 ⟨rfl,rfl⟩))
     refine ⟨⟨i+1,a5,n3+1,c5,rfl,congrArg (Value.int .i64) (by omega),E0,by omega,?_,(Xo1 H5)⟩,by simp only[intOf];omega⟩;rw[(Xo2 HS),show Qi8 i (K:Int)=[[120,q,94,q2]] by
      rw[Qi8,Up h1,Us h2,show dec (i+1)=[q] from (Xo4 HS),show (K:Int).toNat=K by omega,show dec K=[q2] from (Xo3 H5)];rfl]
     exact (Xo0 H5)
    ·have JX:¬(1<x):=h2;have HX0:=Xh2 h1 h2;clear h1 h2
     go_wp2_with fail
     refine ⟨⟨i+1,a3,n3,c3,rfl,congrArg (Value.int .i64) (by omega),E0,by omega,?_,(Xo1 HS)⟩,by simp only[intOf];omega⟩;rw[(Xo2 HS),show Qi8 i x=[] by rw[Qi8,Up (Xo0 HX0),Up (by have:=(Xe1 HX0);omega)],Xai];exact (Xo0 HS)
  ·have J0:¬((i:Int)<(n:Int)):=(by omega);have I7:i=m.es.length:=(by omega);rw[I7,Tn] at Jp;have HS:=Xh2 Jp C1;clear Jp C1 I7;have hlT:(Q2p 0 m.es).length=n3:=(by have:=(Xo0 HS).len;simpa using this);have hn3':n3<=4:=(by omega);have habs:=Qpk m.neg m.exp a l c m.ws wr (((Xo0 H).step (Xo6 H)).step (Xe1 HS)) (Xo2 H).1.2 (Xo2 H).2;have f0:=((Xe1 HS).cell (p:=⟨w.heap.size,0,none⟩) (Xo7 H)).trans e0;have f1:=((Xe1 HS).cell (p:=⟨w.heap.size,1,none⟩) (Xo7 H)).trans e1;have f2:=((Xe1 HS).cell (p:=⟨w.heap.size,2,none⟩) (Xo7 H)).trans e2;have F7:=(Xo0 H).low;obtain ⟨g1,g2,g3,g4⟩:=Qkc (Xo2 H) F7;have Kk:=(Q99 m.es 0 (by omega) (fun x hx=>((Xe8 H) x hx).2)).1;have Y0:∀t∈[Q3b false m.exp m.ws]++Q2p 0 m.es,t.length<=1400:=fun t ht=>by
    rcases Tq.1 ht with h|h
    ·rw[Ux] at h;rw[h];exact g4
    ·have:=Kk t h;omega
   have HA:=Xh6 habs hlT g1 g2 g3 Y0;clear habs hlT g1 g2 g3 g4 Kk Y0 F7
   by_cases R8:Q2p 0 m.es=[]
   ·have A9:((n3:Int)==0)=true:=(by rw[<-(Xo1 HA),R8];rfl);have HT0:=Ub R8;clear R8
    go_upto_region 11 with (go_at_call_of 112 (Value.agg #[.bool m.neg,.int .i64 m.exp,.slice a l c]);refine (Xo0 HA).mono ?_;rintro r w4 ⟨a4,l4,c4,rfl,i6,F2⟩;have H4:=Xh2 i6 F2;clear i6 F2)
    go_quiet (fail)
    have X7:Bw W1 ((w4.alloc (.cells #[.bool false,.int .i64 m.exp,.slice a4 l4 c4] 26)).drewN nq):=Below.drewN' ((Below.next0 (Xe1 HS) (Xe1 H4)).alloc (Below.next0 (Xe1 HS) (Xe1 H4)).size _) _;have hN:=Q03.new w4 (.bool false) (.int .i64 m.exp) (.slice a4 l4 c4) 26;have Xa:WordsIn ((w4.alloc (.cells #[.bool false,.int .i64 m.exp,.slice a4 l4 c4] 26)).drewN nq) a4 l4 c4 m.ws:=(Xo0 H4).toWordsIn.step (Below.drewN' (Ba) _);have hsq:Qrc ((w4.alloc (.cells #[.bool false,.int .i64 m.exp,.slice a4 l4 c4] 26)).drewN nq) W1.heap.size a3 n3 c3 (Q2p 0 m.es):=((Xo0 HS).call (Xe1 H4)).alloc _;generalize QT:(w4.alloc (.cells #[.bool false,.int .i64 m.exp,.slice a4 l4 c4] 26)).drewN nq=Wq at X7 Xa hsq⊢;have n0:Wq.cell? ⟨w4.heap.size,0,none⟩=some (.bool false):=(by rw[<-QT];exact hN.c0);have n1:Wq.cell? ⟨w4.heap.size,1,none⟩=some (.int .i64 m.exp):=(by rw[<-QT];exact hN.c1);have n2:Wq.cell? ⟨w4.heap.size,2,none⟩=some (.slice a4 l4 c4):=(by rw[<-QT];exact hN.c2);clear QT;have Q9:=Qhc false m.exp a4 l4 c4 m.ws Wq Xa (by have:=Q2h (Xo4 HA) (Xo0 H4).toWordsIn;omega) (by have:=Q2h (Xo4 HA) (Xo0 H4).toWordsIn;omega) ((Xo4 H).step (Below.next0 (Xo6 H) X7));have HQ:=Xh3 X7 hsq Q9;clear X7 Xa hsq Q9 hN
    go_wp2_with (first
     |(go_at_call_of 38 (Value.agg #[.bool false,.int .i64 m.exp,.slice a4 l4 c4]);refine (Xe2 HQ).mono ?_;rintro r w7 ⟨rfl,q6⟩
       have JE:=Below.next0 (Xo0 HQ) q6;obtain ⟨a8,c8,w8,R3,Vk,A5⟩:=Qe3 39 W1 (w7.alloc (.cells #[sv (Q3b false m.exp m.ws)] 9)) (JE.alloc JE.size _) (some ⟨w7.heap.size,0,none⟩) 1 1 [Q3b false m.exp m.ws] ((Row.lit w7 (Ue _) 9 1 #[sv (Q3b false m.exp m.ws)] 1 (by decide) rfl).lower JE.size) W1.heap.size a3 n3 c3 (Q2p 0 m.es) (((Xo1 HQ).call q6).alloc _) (by omega);have M3:1+n3<=1000:=(by omega);generalize 1+n3=N8 at R3 Vk M3;have T9:=Qe4 Vk M3 (Xe5 HA);have H8:=Xh2 T9 A5;clear q6 JE Vk A5 T9)
     |(at_builtin;refine Q06 rfl (.tmp 54) (.tmp 55) 39 39 rfl _ _ rfl rfl _ _ R3 ?_)
     |(go_at_call_of 36 (Value.slice a8 N8 c8);refine (Xo0 H8).mono ?_;rintro r w9 ⟨rfl,V3⟩;have H9:=Ub V3;clear V3))
    go_ret;refine ⟨?_,Below.next0 (Xo6 H) (Below.next0 (Xe1 H8) H9.out)⟩;rw[Q1y,Q41,Us (by exact .inl HT0.out),(Xo3 HA)];rfl
   ·have A9:((n3:Int)==0)=false:=by
     rw[Uk];intro e;exact R8 (TP (by rw[(Xo1 HA)];omega))
    have HT0:=Ub R8;clear R8
    go_upto_region 11 with (go_at_call_of 112 (Value.agg #[.bool m.neg,.int .i64 m.exp,.slice a l c]);refine (Xo0 HA).mono ?_;rintro r w4 ⟨a4,l4,c4,rfl,i6,F2⟩;have H4:=Xh2 i6 F2;clear i6 F2)
    have X7:Bw W1 (w4.alloc (.cells #[.bool false,.int .i64 m.exp,.slice a4 l4 c4] 26)):=(Below.next0 (Xe1 HS) (Xe1 H4)).alloc (Below.next0 (Xe1 HS) (Xe1 H4)).size _;have hN:=Q03.new w4 (.bool false) (.int .i64 m.exp) (.slice a4 l4 c4) 26;have Xa:WordsIn (w4.alloc (.cells #[.bool false,.int .i64 m.exp,.slice a4 l4 c4] 26)) a4 l4 c4 m.ws:=(Xo0 H4).toWordsIn.step (Ba);have hsq:Qrc (w4.alloc (.cells #[.bool false,.int .i64 m.exp,.slice a4 l4 c4] 26)) W1.heap.size a3 n3 c3 (Q2p 0 m.es):=((Xo0 HS).call (Xe1 H4)).alloc _;have hlq:=Q0h w4 (.cells #[.bool false,.int .i64 m.exp,.slice a4 l4 c4] 26);generalize QT:w4.alloc (.cells #[.bool false,.int .i64 m.exp,.slice a4 l4 c4] 26)=Wq at X7 hN Xa hsq hlq⊢;clear QT;obtain ⟨n0,n1,n2⟩:=hN.cc;have HQ:=Xh5 X7 hN Xa hsq hlq;clear X7 hN Xa hsq hlq
    go_cut [51] (fun v wx=>∃bb,v=.bool bb/\(!decide (Q1p false m.exp m.ws=1))=bb/\Bw Wq wx)
    case first=>
     go_region_with (first
      |(go_at_call_of 113 (Value.int .i64 1)
        refine (Qat 1 _ (by decide) (((Xo3 H).step (Below.next0 (Xo6 H) (Xo0 HQ))).step (by first|exact Ug _ _|exact Q04 _))).mono ?_;rintro r w5 ⟨n5,e5,a5,l5,c5,L5,rfl,hi5,Wr,hw5,Z0⟩;have VQ:Bw Wq w5:=by first|exact Z0|exact Below.next0 (Q04 _) Z0
        have k0:=(VQ.cell (p:=⟨w4.heap.size,0,none⟩) (Xe4 HQ)).trans n0;have k1:=(VQ.cell (p:=⟨w4.heap.size,1,none⟩) (Xe4 HQ)).trans n1;have k2:=(VQ.cell (p:=⟨w4.heap.size,2,none⟩) (Xe4 HQ)).trans n2;have u7:=Q8q false m.exp a4 l4 c4 m.ws n5 e5 a5 l5 c5 L5;have hso:=Qx2 (Xo4 HA) (Xo2 HQ).low hi5 hw5.toWordsIn.low Wr;have H5:=Xh4 VQ hw5 u7 hso;clear Z0 VQ hw5 u7 hso hi5 Wr)
      |(go_at_call_of 30 (Value.agg #[.bool false,.int .i64 m.exp,.slice a4 l4 c4])
        refine ((Xo2 H5) _ (((Xo2 HQ).step (Xo0 H5)).step (by first|exact Ug _ _|exact Q04 _)) ((Xo1 H5).toWordsIn.step (by first|exact Ug _ _|exact Q04 _)) (by have:=Q2h (Xo4 HA) (Xo2 HQ);omega)).mono ?_;rintro r w6 ⟨rfl,F3⟩;rw[(Xe3 H5)];have hb6':Bw Wq w6:=by first|exact Below.next0 (Xo0 H5) F3|exact Below.next0 (Xo0 H5) (Below.next0 (Q04 _) F3)
        have H6:=Ub hb6';clear F3 hb6'))
     all_goals go_wp2_with fail
     all_goals go_meet
     all_goals exact ⟨_,rfl,rfl,H6.out⟩
    case rest=>
     obtain ⟨bb,rfl,E4,Km⟩:=hcut;have r0:=(Km.cell (p:=⟨w4.heap.size,0,none⟩) (Xe4 HQ)).trans n0;have r1:=(Km.cell (p:=⟨w4.heap.size,1,none⟩) (Xe4 HQ)).trans n1;have r2:=(Km.cell (p:=⟨w4.heap.size,2,none⟩) (Xe4 HQ)).trans n2;have O0:=Below.next0 (Xo0 HQ) Km;have hsc:Qrc wc W1.heap.size a3 n3 c3 (Q2p 0 m.es):=(Xo3 HQ).call Km;have hwc:=(Xo2 HQ).step Km;clear n0 n1 n2;cases bb with
     |false=>
      have h1:Q1p false m.exp m.ws=1:=(by simpa using E4);have T9:=Qe4 hsc (by omega) (fun t ht=>(Xe5 HA) t (by simp[ht]));have HR:=Xh3 h1 T9 O0;clear h1 T9 O0 hsc hwc E4 Km
      go_wp2_with (go_at_call_of 36 (Value.slice a3 n3 c3);refine (Xo1 HR).mono ?_;rintro r w9 ⟨rfl,V3⟩;have H9:=Ub V3;clear V3)
      go_ret;refine ⟨?_,Below.next0 (Xo6 H) (Below.next0 (Xe2 HR) H9.out)⟩;rw[Q1y,Q41,Up (by
       rintro (h|h)
       ·exact HT0.out h
       ·exact h ((Xo2 HA).trans (Xo0 HR)))]
      rfl
     |true=>
      have h1:Q1p false m.exp m.ws≠1:=(by simpa using E4);have Q9:=Qhc false m.exp a4 l4 c4 m.ws wc hwc (by have:=Q2h (Xo4 HA) hwc;omega) (by have:=Q2h (Xo4 HA) hwc;omega) ((Xo4 H).step (Below.next0 (Xo6 H) O0));have HR:=Xh4 O0 hsc Q9 h1;clear h1 Q9 O0 hsc hwc E4 Km
      go_wp2_with (first
       |(go_at_call_of 38 (Value.agg #[.bool false,.int .i64 m.exp,.slice a4 l4 c4]);refine (Xo2 HR).mono ?_;rintro r w7 ⟨rfl,q6⟩
         have JE:=Below.next0 (Xo0 HR) q6;obtain ⟨a8,c8,w8,R3,Vk,A5⟩:=Qe3 39 W1 (w7.alloc (.cells #[sv (Q3b false m.exp m.ws)] 9)) (JE.alloc JE.size _) (some ⟨w7.heap.size,0,none⟩) 1 1 [Q3b false m.exp m.ws] ((Row.lit w7 (Ue _) 9 1 #[sv (Q3b false m.exp m.ws)] 1 (by decide) rfl).lower JE.size) W1.heap.size a3 n3 c3 (Q2p 0 m.es) (((Xo1 HR).call q6).alloc _) (by omega);have M3:1+n3<=1000:=(by omega);generalize 1+n3=N8 at R3 Vk M3;have T9:=Qe4 Vk M3 (Xe5 HA);have H8:=Xh2 T9 A5;clear q6 JE Vk A5 T9)
       |(at_builtin;refine Q06 rfl (.tmp 54) (.tmp 55) 39 39 rfl _ _ rfl rfl _ _ R3 ?_)
       |(go_at_call_of 36 (Value.slice a8 N8 c8);refine (Xo0 H8).mono ?_;rintro r w9 ⟨rfl,V3⟩;have H9:=Ub V3;clear V3))
      go_ret;refine ⟨?_,Below.next0 (Xo6 H) (Below.next0 (Xe1 H8) H9.out)⟩;rw[Q1y,Q41,Us (by exact .inr fun h=>(Xe3 HR) ((Xo2 HA).symm.trans h)),(Xo3 HA)];rfl
end Go.Proofs.YtidojbkhlenahaaGreatDoor
namespace Go.Proofs.YtidojbkhlenahaaGreatDoor
open Go.RowKit
theorem Quj (B b:Nat) (l:LU) (w:World) (h:Lib.IsBuilder 57 5 B b (Lib.byteCells l) w):
 Calls Tryz.prog 65 #[.pointer (some ⟨b,0,none⟩)] w fun e w'=>e=.returned (.tuple #[])/\Q3q B b (.pointer (some ⟨b,0,none⟩)) l w'/\Below B w w'/\w'.heap.size=w.heap.size/\∀k,k≠b->w'.heap[k]?=w.heap[k]?:=by
 rcases h with h|h
 ·refine (Qg4 b w h.cell0 h.shape h.frozen0).mono ?_;rintro e w' ⟨rfl,rfl⟩;exact ⟨rfl,h.used _,(Ug B w).setCell (p:=⟨b,0,none⟩) h.1 _,by simp,fun k hk=>UZ _ _ _ _ hk⟩
 ·refine (Qk9 b w h.cell0).mono ?_;rintro e w' ⟨rfl,rfl⟩;exact ⟨rfl,h,Ug B _,rfl,fun _ _=>rfl⟩
theorem Q2d (B b:Nat) (l t:LU) (w:World) (h:Lib.IsBuilder 57 5 B b (Lib.byteCells l) w) (N0:l.length+t.length<=140737488355328) (hBw:B<=w.heap.size):
 Calls Tryz.prog 35 #[.pointer (some ⟨b,0,none⟩),sv t] w fun e w'=>e=.returned (.tuple #[.int .i64 (t.length:Int),.nilIface])/\Q3q B b (.pointer (some ⟨b,0,none⟩)) (l++t) w'/\Below B w w'/\∀k cur T fr,w.heap[k]?=some (.cells cur T fr)->T≠5->k≠b->w'.heap[k]?=w.heap[k]?:=by
 obtain ⟨i0,hi,P1,G1,K1⟩:=Xbq Qrf;have HI:=Ub h;clear h
 go_enter Tryz.func35,Tryz.ntmps35
 go_wp2_with (refine (Quj B b l _ HI.out).mono ?_)
 rintro e w1 ⟨rfl,h1,C0,A2,hkp⟩;obtain ⟨hB,v,E8,J4,Q0⟩:=h1;have VN:B<=w1.heap.size:=by omega
 have HSZ:=Xh2 A2 hkp;clear A2 hkp;have c0:w1.cell? ⟨b,0,none⟩=some (.pointer (some ⟨b,0,none⟩)):=by rw[Lib.cell_of_heap E8];rfl
 have c1:w1.cell? ⟨b,1,none⟩=some v:=by rw[Lib.cell_of_heap E8];rfl
 have E0:b<w1.heap.size:=(Uq.1 E8).1;have HBK:=Ub E8;have C2:(Lib.byteCells l).length+(⟨t.toArray⟩:ByteArray).size<=140737488355328:=by rw[Lib.byteCells_length];exact N0
 have J3:(Lib.byteCells l).length+(⟨t.toArray⟩:ByteArray).size<=maxLen:=by unfold maxLen;omega
 clear E8
 go_wp2_with (at_builtin;refine Lib.wpList_append_own_string _ rfl _ _ 55 9 rfl B 5 i0 Tryz.underlying55 Tryz.underlying9 hi P1 G1 K1 _ _ _ rfl J4 ⟨t.toArray⟩ rfl J3 C2 VN ?_)
 intro v' w2 C7 K3 _;have D0:w2.heap[b]?=some (.cells #[.pointer (some ⟨b,0,none⟩),v] 57 (0,0)):=by
  rw[K3.block b E0 (fun e=>Q0 e.symm)];exact HBK.out
 have d0:w2.cell? ⟨b,0,none⟩=some (.pointer (some ⟨b,0,none⟩)):=by rw[Lib.cell_of_heap D0];rfl
 have d1:w2.cell? ⟨b,1,none⟩=some v:=by rw[Lib.cell_of_heap D0];rfl
 have f1:w2.frozen? ⟨b,1,none⟩=false:=Lib.frozen_of_heap D0 1;obtain ⟨ao,n',cap,rfl⟩:∃ao n' cap,v'=.slice ao n' cap:=by
  rcases C7.2 with ⟨hv,_⟩|⟨g,cap,cur,hv,_⟩
  ·exact ⟨_,_,_,hv⟩
  ·exact ⟨_,_,_,hv⟩
 have HE:=Xh4 D0 C7 K3 C0;clear D0 C7 K3 C0 C2 J3
 go_wp2_with fail
 go_ret2
 obtain ⟨D0,C7,K3,C0⟩:=HE.out;refine ⟨rfl,?_,?_,fun k cur T fr hk hT hkb=>?_⟩
 ·refine Lib.BuilderAt.put (T:=57) (e:=5) hB D0 (bs':=Lib.byteCells (l++t)) ?_ (by decide);rw[Qa6];have e1:Lib.strCells ⟨t.toArray⟩=Lib.byteCells t:=rfl;rw[<-e1,Uh,Lib.strCells_length];exact C7
 ·exact (C0.grown K3 (by omega) (fun k hk=>(J4.lt k hk).1)).setCell (p:=⟨b,1,none⟩) hB _
 ·have X2:w1.heap[k]?=w.heap[k]?:=(Xe1 HSZ) k hkb;have hklt:k<w1.heap.size:=(Uq.1 (X2.trans hk)).1;rw[UZ _ _ _ _ hkb,K3.block k hklt (fun e=>?_),X2];rcases J4.2 with ⟨hv,_⟩|⟨g,cap,cur2,hv,_,hh,_⟩
  ·rw[hv] at e;simp[Value.ownBlock] at e
  ·rw[hv] at e;simp only[Value.ownBlock,Uj] at e;subst e;rw[X2,hk] at hh;injection hh with hh;injection hh with _ hh _;exact hT hh
end Go.Proofs.YtidojbkhlenahaaGreatDoor
