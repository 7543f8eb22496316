/- Part 18. No condition. -/
import Derived.Test.YtidojbkhlenahaaGreatDoorPkProblemDrawn17
set_option maxRecDepth 100000
set_option maxHeartbeats 16000000
namespace Go.Proofs.YtidojbkhlenahaaGreatDoor
open Go.RowKit WordsM DecM
theorem Qrf {P:Program} {K:Value->World->Prop} {w:World} {f:FuncId} {args:Array Value} {res:Result Next} (hr:res=.ok (.enter f args) w) (h:Calls P f args w fun e w''=>∃v,e=.returned v/\K v w''):Q0r P K res:=by rw[hr];exact h
theorem Q6a {x:Q2u} {a:OA} {l c:Nat} {w:World} (h:Q0f w a l c x) (hi:x.ok) (hP:Qax w) {t:LU} (ht:dyT x.val=t):
 Calls Tryz.prog 38 #[.agg #[.bool x.neg,.int .i64 x.exp,.slice a l c]] w fun r w'=>r=.returned (.string ⟨t.toArray⟩)/\Bw w w':=by subst ht;exact Qkc x a l c w h hi hP
theorem Qag {n:Int} {w:World} (h0:0<=n) (h1:n<=5000) (hP:Qax w) {t:LU} (ht:dec n.toNat=t):
 Calls Tryz.prog 37 #[.int .i64 n] w fun r w'=>r=.returned (.string ⟨t.toArray⟩)/\Bw w w':=by subst ht;exact Qkd n w h0 h1 hP
def Q33.prob (x:Q33):Qgw:=⟨Q0x x.field,x.box.map fun b=>(b.lo.val,b.hi.val),x.til.val,x.most.val,x.least.val,x.prec.toNat,x.order.toNat,x.budget.toNat⟩
structure Qwf (L0 L1 L2 L3 L4 L5 L6 sp so sb st sm se:LU):Prop where
 eq0:L0++Q2t Qbz sp=L1
 eq1:L1++Q2t Q7d so=L2
 eq2:L2++Q2t Q54 sb=L3
 eq3:L3++Q2t Q7e st=L4
 eq4:L4++Q2t Qc0 sm=L5
 eq5:L5++Q2t Q7f se=L6
 len0:L0.length+Qbz.length+sp.length<=100000000
 len1:L1.length+Q7d.length+so.length<=100000000
 len2:L2.length+Q54.length+sb.length<=100000000
 len3:L3.length+Q7e.length+st.length<=100000000
 len4:L4.length+Qc0.length+sm.length<=100000000
 len5:L5.length+Q7f.length+se.length<=100000000
 all:L6.length<=10000
theorem Qy7 {sp so sb st sm se:LU} (h1:sp.length<=4) (h2:so.length<=4) (h3:sb.length<=4) (h4:st.length<=1401) (h5:sm.length<=1401) (h6:se.length<=1401):∃L1 L2 L3 L4 L5 L6,Qwf [] L1 L2 L3 L4 L5 L6 sp so sb st sm se:=by
 have e1:Qbz.length=4:=rfl;have e2:Q7d.length=5:=rfl;have e3:Q54.length=6:=rfl;have e4:Q7e.length=5:=rfl;have e5:Qc0.length=4:=rfl;have e6:Q7f.length=5:=rfl;refine ⟨_,_,_,_,_,_,rfl,rfl,rfl,rfl,rfl,rfl,?_,?_,?_,?_,?_,?_,?_⟩ <;> simp only[Ui,UP,Qae] <;> omega
theorem Qwf.text {L1 L2 L3 L4 L5 L6 sp so sb st sm se r:LU} (h:Qwf [] L1 L2 L3 L4 L5 L6 sp so sb st sm se):L6++r=Q2t Qbz sp++(Q2t Q7d so++(Q2t Q54 sb++(Q2t Q7e st++(Q2t Qc0 sm++(Q2t Q7f se++r))))):=by
 rw[<-h.eq5,<-h.eq4,<-h.eq3,<-h.eq2,<-h.eq1,<-h.eq0];simp only[Xaa,UV]
theorem Qcy (b:Dyadic × Dyadic):∀l,Q98 (l++[b])=Q98 l++Q2t Ql9 (dyT b.1++32::dyT b.2)
 |[]=>by simp[Q98]
 |c::r=>by rw[Xab,Q98,Q98,Qcy b r,UV]
theorem Q9t:∀(l:List (Dyadic × Dyadic)),(∀b∈l,(dyT b.1).length<=1401/\(dyT b.2).length<=1401)->(Q98 l).length<=l.length*2810
 |[],_=>by simp[Q98]
 |b::r,h=>by
  have h1:=Q9t r fun x hx=>h x (Xai _ hx);have h2:=h b (TY ..);have e:Ql9.length=3:=rfl;rw[Q98,Ui,Qae,Ui,Ul,Ul];omega
def Qy8 (w1:World) (L:LU) (bl:Nat) (bx:List (Dyadic × Dyadic)) (s:Value) (wr:World):Prop:=∃i:Nat,s=.int .i64 (i:Int)/\i<=bl/\Q5s w1.heap.size w1.heap.size (L++Q98 (bx.take i)) wr/\Bw w1 wr
theorem Qar [LT ZK] (p:Qfg) (x:Q33) (w:World) (h:Q2j w p x) (hR:Q1h x) (hT:Q3r w) (hP:Qax w):
 Calls Tryz.prog 13 #[.agg (Q2e p x).toArray] w fun r w'=>r=.returned (sv (Qmn x.prob))/\Bw w w':=by
 obtain ⟨⟨fa,fl,fc⟩,⟨ba,bl,bc⟩,⟨ta,tl,tc⟩,⟨ma,ml,mc⟩,⟨ea,el,ec⟩⟩:=p;obtain ⟨F,B,⟨tn,te,ts⟩,⟨mn,me,ms⟩,⟨en,ee,es⟩,prec,order,budget⟩:=x;have K4:B.length=bl:=h.b.1;have E3:=Uj h.b.2.1 h.b.2.2.1;simp only at E3;have nt:=Q22 h.t hR.til.1;have nm:=Q22 h.m hR.most.1;have ne:=Q22 h.e hR.least.1;have rp:=hR.prec;have ro:=hR.order;have rb:=hR.budget;simp only at rp ro rb;obtain ⟨sp,Xp⟩:∃t,dec prec.toNat=t:=⟨_,rfl⟩;obtain ⟨so,KI⟩:∃t,dec order.toNat=t:=⟨_,rfl⟩;obtain ⟨sb,Xd⟩:∃t,dec budget.toNat=t:=⟨_,rfl⟩;obtain ⟨st,R0⟩:∃t,dyT (Q2u.val ⟨tn,te,ts⟩)=t:=⟨_,rfl⟩;obtain ⟨sm,X4⟩:∃t,dyT (Q2u.val ⟨mn,me,ms⟩)=t:=⟨_,rfl⟩;obtain ⟨se,i9⟩:∃t,dyT (Q2u.val ⟨en,ee,es⟩)=t:=⟨_,rfl⟩;obtain ⟨L1,L2,L3,L4,L5,L6,hL⟩:=Qy7 (sp:=sp) (so:=so) (sb:=sb) (st:=st) (sm:=sm) (se:=se) (by rw[<-Xp];exact Q49 (by omega)) (by rw[<-KI];exact Q49 (by omega)) (by rw[<-Xd];exact Q49 (by omega)) (by rw[<-R0];exact nt.2) (by rw[<-X4];exact nm.2) (by rw[<-i9];exact ne.2);obtain ⟨Y,hY⟩:∃t,Qmn (Q33.prob ⟨F,B,⟨tn,te,ts⟩,⟨mn,me,ms⟩,⟨en,ee,es⟩,prec,order,budget⟩)=t:=⟨_,rfl⟩;have hYL:L6++(Q98 (B.map fun b=>(b.lo.val,b.hi.val))++Q1d 0 (Q0x F))=Y:=by rw[hL.text,<-hY,<-Xp,<-KI,<-Xd,<-R0,<-X4,<-i9];rfl
 rw[hY];have HL:=Ua hL;have HY:=Ua hYL;clear nt nm ne hY hYL hL;have hC:=Q2x.new w (Q2e ⟨⟨fa,fl,fc⟩,⟨ba,bl,bc⟩,⟨ta,tl,tc⟩,⟨ma,ml,mc⟩,⟨ea,el,ec⟩⟩ ⟨F,B,⟨tn,te,ts⟩,⟨mn,me,ms⟩,⟨en,ee,es⟩,prec,order,budget⟩) 28;have Q0:Bw w (w.alloc (.cells (Q2e ⟨⟨fa,fl,fc⟩,⟨ba,bl,bc⟩,⟨ta,tl,tc⟩,⟨ma,ml,mc⟩,⟨ea,el,ec⟩⟩ ⟨F,B,⟨tn,te,ts⟩,⟨mn,me,ms⟩,⟨en,ee,es⟩,prec,order,budget⟩).toArray 28)):=Ba;have F0:=Q0o w (.cells (Q2e ⟨⟨fa,fl,fc⟩,⟨ba,bl,bc⟩,⟨ta,tl,tc⟩,⟨ma,ml,mc⟩,⟨ea,el,ec⟩⟩ ⟨F,B,⟨tn,te,ts⟩,⟨mn,me,ms⟩,⟨en,ee,es⟩,prec,order,budget⟩).toArray 28);have D6:=fun V (hV:Bw w V)=>Q34 _ _ V (h.step hV);simp only[Q2e] at hC Q0 F0 D6⊢;obtain ⟨W0,M1⟩:∃W0,w.alloc (.cells #[.slice fa fl fc,.slice ba bl bc,.bool tn,.int .i64 te,.slice ta tl tc,.bool mn,.int .i64 me,.slice ma ml mc,.bool en,.int .i64 ee,.slice ea el ec,.int .i64 prec,.int .i64 order,.int .i64 budget] 28)=W0:=⟨_,rfl⟩;rw[M1] at hC Q0 F0;have HC:=Ua (fun V (hV:Bw W0 V)=>have hb:=Below.next0 Q0 hV;have hh:=h.step hb;have WQ:=hP.step hb;And.intro (hC.step hV F0) (And.intro (Qag (n:=prec) (by omega) (by omega) WQ Xp) (And.intro (Qag (n:=order) (by omega) (by omega) WQ KI) (And.intro (Qag (n:=budget) (by omega) (by omega) WQ Xd) (And.intro (Q6a (x:=⟨tn,te,ts⟩) hh.t hR.til.1 WQ R0) (And.intro (Q6a (x:=⟨mn,me,ms⟩) hh.m hR.most.1 WQ X4) (And.intro (Q6a (x:=⟨en,ee,es⟩) hh.e hR.least.1 WQ i9) (And.intro hh (And.intro WQ (hT.step hb))))))))));have P3:=yn1 (D6 W0 Q0) (Q0c.2 hR);have HR:=Xh3 P3 hR Q0;obtain ⟨k0,k1,k2,k3,k4,k5,k6,k7,k8,k9,k10,k11,k12,k13⟩:=Q05 hC;clear hC Q0 F0 h D6 P3 hR hT hP Xp KI Xd R0 X4 i9
 go_enter Tryz.func13,Tryz.ntmps13
 go_upto_region 1 with fail
 clear M1
 go_upto_region 5 with (go_at_call 9;refine (Xo0 HR).mono ?_;rintro r w1 ⟨rfl,hb⟩;have H1:=Ua hb;clear hb)
 have R4:Bw w1 (w1.alloc (.cells #[.pointer none,.slice none 0 0] 57)):=Ba;have Kj:=Q5s.new w1.heap.size w1 (Ue _);have H2:=Xh2 R4 Kj;have hq:=(HC.out _ (Below.next0 H1.out R4)).1;obtain ⟨k0,k1,k2,k3,k4,k5,k6,k7,k8,k9,k10,k11,k12,k13⟩:=Q05 hq;clear R4 Kj hq;generalize w1.alloc (.cells #[.pointer none,.slice none 0 0] 57)=w2 at*;obtain ⟨bx,A2⟩:∃l,(B.map fun b=>(b.lo.val,b.hi.val))=l:=⟨_,rfl⟩;have O6:bx.length=bl:=by rw[<-A2,UE,K4]
 rw[A2] at HY;have HX:=Xh2 A2 O6;clear A2 O6
 go_wp2_with (first
  |(go_at_call_of 34 (Value.slice (some ⟨w13.heap.size,0,none⟩) 2 2);refine (Qx7 w1.heap.size L5 Q7f se w13 (Xe1 H13) (Xo0 H13).size HL.out.len5).mono ?_;rintro r w14 ⟨rfl,G7,hb⟩;rw[HL.out.eq5] at G7;have H14:=Xh2 ((Xo0 H13).trans hb) G7;have hq:=(HC.out w14 (Below.next0 H1.out (Xo0 H14))).1;obtain ⟨k0,k1,k2,k3,k4,k5,k6,k7,k8,k9,k10,k11,k12,k13⟩:=Q05 hq;clear hq hb;clear G7)
  |(go_at_call_of 38 (Value.agg #[.bool en,.int .i64 ee,.slice ea el ec]);refine ((HC.out w12 (Below.next0 H1.out (Xo0 H12))).2.2.2.2.2.2.1).mono ?_;rintro r w13 ⟨rfl,hb⟩;have H13:=Xh2 (Below.next0 (Xo0 H12) hb) ((Xe1 H12).call hb);have hq:=(HC.out w13 (Below.next0 H1.out (Xo0 H13))).1;obtain ⟨k0,k1,k2,k3,k4,k5,k6,k7,k8,k9,k10,k11,k12,k13⟩:=Q05 hq;clear hq hb)
  |(go_at_call_of 34 (Value.slice (some ⟨w11.heap.size,0,none⟩) 2 2);refine (Qx7 w1.heap.size L4 Qc0 sm w11 (Xe1 Vl) (Xo0 Vl).size HL.out.len4).mono ?_;rintro r w12 ⟨rfl,G7,hb⟩;rw[HL.out.eq4] at G7;have H12:=Xh2 ((Xo0 Vl).trans hb) G7;have hq:=(HC.out w12 (Below.next0 H1.out (Xo0 H12))).1;obtain ⟨k0,k1,k2,k3,k4,k5,k6,k7,k8,k9,k10,k11,k12,k13⟩:=Q05 hq;clear hq hb;clear G7)
  |(go_at_call_of 38 (Value.agg #[.bool mn,.int .i64 me,.slice ma ml mc]);refine ((HC.out w10 (Below.next0 H1.out (Xo0 Jl))).2.2.2.2.2.1).mono ?_;rintro r w11 ⟨rfl,hb⟩;have Vl:=Xh2 (Below.next0 (Xo0 Jl) hb) ((Xe1 Jl).call hb);have hq:=(HC.out w11 (Below.next0 H1.out (Xo0 Vl))).1;obtain ⟨k0,k1,k2,k3,k4,k5,k6,k7,k8,k9,k10,k11,k12,k13⟩:=Q05 hq;clear hq hb)
  |(go_at_call_of 34 (Value.slice (some ⟨w9.heap.size,0,none⟩) 2 2);refine (Qx7 w1.heap.size L3 Q7e st w9 (Xe1 H9) (Xo0 H9).size HL.out.len3).mono ?_;rintro r w10 ⟨rfl,G7,hb⟩;rw[HL.out.eq3] at G7;have Jl:=Xh2 ((Xo0 H9).trans hb) G7;have hq:=(HC.out w10 (Below.next0 H1.out (Xo0 Jl))).1;obtain ⟨k0,k1,k2,k3,k4,k5,k6,k7,k8,k9,k10,k11,k12,k13⟩:=Q05 hq;clear hq hb;clear G7)
  |(go_at_call_of 38 (Value.agg #[.bool tn,.int .i64 te,.slice ta tl tc]);refine ((HC.out w8 (Below.next0 H1.out (Xo0 H8))).2.2.2.2.1).mono ?_;rintro r w9 ⟨rfl,hb⟩;have H9:=Xh2 (Below.next0 (Xo0 H8) hb) ((Xe1 H8).call hb);have hq:=(HC.out w9 (Below.next0 H1.out (Xo0 H9))).1;obtain ⟨k0,k1,k2,k3,k4,k5,k6,k7,k8,k9,k10,k11,k12,k13⟩:=Q05 hq;clear hq hb)
  |(go_at_call_of 34 (Value.slice (some ⟨w7.heap.size,0,none⟩) 2 2);refine (Qx7 w1.heap.size L2 Q54 sb w7 (Xe1 H7) (Xo0 H7).size HL.out.len2).mono ?_;rintro r w8 ⟨rfl,G7,hb⟩;rw[HL.out.eq2] at G7;have H8:=Xh2 ((Xo0 H7).trans hb) G7;have hq:=(HC.out w8 (Below.next0 H1.out (Xo0 H8))).1;obtain ⟨k0,k1,k2,k3,k4,k5,k6,k7,k8,k9,k10,k11,k12,k13⟩:=Q05 hq;clear hq hb;clear G7)
  |(go_at_call_of 37 (Value.int .i64 budget);refine ((HC.out w6 (Below.next0 H1.out (Xo0 H6))).2.2.2.1).mono ?_;rintro r w7 ⟨rfl,hb⟩;have H7:=Xh2 (Below.next0 (Xo0 H6) hb) ((Xe1 H6).call hb);have hq:=(HC.out w7 (Below.next0 H1.out (Xo0 H7))).1;obtain ⟨k0,k1,k2,k3,k4,k5,k6,k7,k8,k9,k10,k11,k12,k13⟩:=Q05 hq;clear hq hb)
  |(go_at_call_of 34 (Value.slice (some ⟨w5.heap.size,0,none⟩) 2 2);refine (Qx7 w1.heap.size L1 Q7d so w5 (Xe1 H5) (Xo0 H5).size HL.out.len1).mono ?_;rintro r w6 ⟨rfl,G7,hb⟩;rw[HL.out.eq1] at G7;have H6:=Xh2 ((Xo0 H5).trans hb) G7;have hq:=(HC.out w6 (Below.next0 H1.out (Xo0 H6))).1;obtain ⟨k0,k1,k2,k3,k4,k5,k6,k7,k8,k9,k10,k11,k12,k13⟩:=Q05 hq;clear hq hb;clear G7)
  |(go_at_call_of 37 (Value.int .i64 order);refine ((HC.out w4 (Below.next0 H1.out (Xo0 H4))).2.2.1).mono ?_;rintro r w5 ⟨rfl,hb⟩;have H5:=Xh2 (Below.next0 (Xo0 H4) hb) ((Xe1 H4).call hb);have hq:=(HC.out w5 (Below.next0 H1.out (Xo0 H5))).1;obtain ⟨k0,k1,k2,k3,k4,k5,k6,k7,k8,k9,k10,k11,k12,k13⟩:=Q05 hq;clear hq hb)
  |(go_at_call_of 34 (Value.slice (some ⟨w3.heap.size,0,none⟩) 2 2);refine (Qx7 w1.heap.size [] Qbz sp w3 (Xe1 H3) (Xo0 H3).size HL.out.len0).mono ?_;rintro r w4 ⟨rfl,G7,hb⟩;rw[HL.out.eq0] at G7;have H4:=Xh2 ((Xo0 H3).trans hb) G7;have hq:=(HC.out w4 (Below.next0 H1.out (Xo0 H4))).1;obtain ⟨k0,k1,k2,k3,k4,k5,k6,k7,k8,k9,k10,k11,k12,k13⟩:=Q05 hq;clear hq hb;clear G7)
  |(go_at_call_of 37 (Value.int .i64 prec);refine ((HC.out w2 (Below.next0 H1.out (Xo0 H2))).2.1).mono ?_;rintro r w3 ⟨rfl,hb⟩;have H3:=Xh2 (Below.next0 (Xo0 H2) hb) ((Xe1 H2).call hb);have hq:=(HC.out w3 (Below.next0 H1.out (Xo0 H3))).1;obtain ⟨k0,k1,k2,k3,k4,k5,k6,k7,k8,k9,k10,k11,k12,k13⟩:=Q05 hq;clear hq hb))
 go_loopw [50] (fun s50 wr=>Qy8 w1 L6 bl bx s50 wr) (fun iv _=>bl-(intOf iv).toNat)
 case atStart=>exact ⟨0,rfl,Uv _,by rw[List.take_zero];simpa[Q98] using (Xe1 H14),(Xo0 H14)⟩
 case round=>
  obtain ⟨i,rfl,hi,QS,Z0⟩:=hrel;have hq:=HC.out wr (Below.next0 H1.out Z0)
  by_cases F0:i<bl
  ·have G0:(i:Int)<(bl:Int):=(by omega);obtain ⟨z,hz⟩:∃z,B[i]?=some z:=⟨_,Ub (by omega)⟩;obtain ⟨b0,o0,rfl,Q0,J2⟩:∃b o,ba=some ⟨b,o,none⟩/\b<wr.heap.size/\∀j x,B[j]?=some x->Qt7 wr b (o+j*6) x:=by
    rcases hq.2.2.2.2.2.2.2.1.b.2.2.2 with h0|h0
    ·simp only at h0;rw[h0] at hz;simp at hz
    ·exact h0
   obtain ⟨pa,pl,pc,qa,ql,qc,⟨y0,y1,y2,y3,y4,y5⟩,E6,C5⟩:=J2 i z hz;have X1:=(Xo1 HR).box.2.2 z (Ug hz);obtain ⟨u1,Zr⟩:∃t,dyT z.lo.val=t:=⟨_,rfl⟩;obtain ⟨u2,Ze⟩:∃t,dyT z.hi.val=t:=⟨_,rfl⟩;have C6:u1.length<=1401:=(by rw[<-Zr];exact (Q22 E6 X1.1).2);have Z6:u2.length<=1401:=(by rw[<-Ze];exact (Q22 C5 X1.2.1).2);obtain ⟨V0,hV0⟩:∃V,wr.alloc (.cells #[.bool z.lo.neg,.int .i64 z.lo.exp,.slice pa pl pc,.bool z.hi.neg,.int .i64 z.hi.exp,.slice qa ql qc] 44)=V:=⟨_,rfl⟩;have hC6:=Q2x.new wr [.bool z.lo.neg,.int .i64 z.lo.exp,.slice pa pl pc,.bool z.hi.neg,.int .i64 z.hi.exp,.slice qa ql qc] 44
   change Q2x (wr.alloc (.cells #[.bool z.lo.neg,.int .i64 z.lo.exp,.slice pa pl pc,.bool z.hi.neg,.int .i64 z.hi.exp,.slice qa ql qc] 44)) _ _ at hC6
   have Q1:Bw wr (wr.alloc (.cells #[.bool z.lo.neg,.int .i64 z.lo.exp,.slice pa pl pc,.bool z.hi.neg,.int .i64 z.hi.exp,.slice qa ql qc] 44)):=Ba;have hltb:=Q0o wr (.cells #[.bool z.lo.neg,.int .i64 z.lo.exp,.slice pa pl pc,.bool z.hi.neg,.int .i64 z.hi.exp,.slice qa ql qc] 44);rw[hV0] at hC6 Q1 hltb;have X3:bx[i]?=some (z.lo.val,z.hi.val):=(by rw[<-(Xo0 HX),UI,hz];rfl);have O8:L6++Q98 (bx.take (i+1))=L6++Q98 (bx.take i)++Q2t Ql9 (u1++32::u2):=(by rw[Q65 X3,Qcy,Zr,Ze,UV]);obtain ⟨T,VS⟩:∃t,L6++Q98 (bx.take i)=t:=⟨_,rfl⟩;have X8:T.length+Ql9.length+u1.length+u2.length<=100000000:=by
    have h1:=Q9t (bx.take i) (fun b hb=>by
     rw[<-(Xo0 HX)] at hb;obtain ⟨y,hy,rfl⟩:=TE.1 (Td hb);obtain ⟨j,hj⟩:=US.1 hy;obtain ⟨_,_,_,_,_,_,_,m1,m2⟩:=J2 j y hj;have Jn:=(Xo1 HR).box.2.2 y hy;exact ⟨(Q22 m1 Jn.1).2,(Q22 m2 Jn.2.1).2⟩)
    have h2:(bx.take i).length<=4:=by
     have:=(Xo1 HR).box.2.1;simp only at this;rw[UR];omega
    have h3:=UT 2810 h2;have h4:=HL.out.all;have h5:Ql9.length=3:=rfl;rw[<-VS,Ui];omega
   rw[VS] at QS O8;have HV:=Ua (fun V (hV:Bw V0 V)=>have hb:=Below.next0 Q1 hV;And.intro (hC6.step hV hltb) (And.intro (Q6a (E6.step hb) X1.1 (hq.2.2.2.2.2.2.2.2.1.step hb) Zr) (And.intro (Q6a (C5.step hb) X1.2.1 (hq.2.2.2.2.2.2.2.2.1.step hb) Ze) (And.intro (QS.call hb) (Below.next0 Z0 hb)))));have HT:=Xh2 O8 X8;clear hq J2 E6 C5 X1 Zr Ze C6 Z6 hC6 Q1 hltb X3 O8 VS X8 QS Z0 hz
   go_upto_region 14 with fail
   clear hV0;refine Q1y (by kernel_rfl) 8 rfl (fun W=>Bw V0 W) (fun _ _ h h'=>Below.next0 h h') (Q3q [.func (.func 34) #[] #[.pointer (some ⟨w1.heap.size,0,none⟩)],.pointer (some ⟨wr.heap.size,0,none⟩),.agg #[.bool z.lo.neg,.int .i64 z.lo.exp,.slice pa pl pc],.string ⟨u1.toArray⟩,.pointer (some ⟨wr.heap.size,3,none⟩),.agg #[.bool z.hi.neg,.int .i64 z.hi.exp,.slice qa ql qc],.string ⟨u2.toArray⟩,undef] (Q13 [(7,fun v W=>∃g,v=.slice (some ⟨g,0,none⟩) 3 3/\W.heap[g]?=some (.cells #[.string ⟨#[98,111,120]⟩,.string ⟨u1.toArray⟩,.string ⟨u2.toArray⟩] 9 (0,0)))])) (Q08 (Q0e (Qvr (fun _ _ _ ⟨g,h1,h2⟩ hb=>⟨g,h1,(hb.block g (Uo.1 h2).1).trans h2⟩)))) (fun W'=>Q5s w1.heap.size w1.heap.size (L6++Q98 (bx.take (i+1))) W'/\Bw w1 W') (by kernel_rfl) (by kernel_rfl) (by kernel_rfl) (by kernel_rfl) (Q04 V0) ?_ ?_ ?_
   ·skip
    repeat' (first|exact Q83|refine Q82 ?_ ?_)
    all_goals first
     |(refine Q1p rfl fun A W hW E0 hd hd=>?_
       simp[Q72,Region.binds,Q13] at hd;have e4:=Q07 E0 4 (by kernel_rfl) rfl;have e6:=Q07 E0 6 (by kernel_rfl) rfl;have hq:=HV.out W hW;obtain ⟨c0,c1,c2,c3,c4,c5⟩:=Q9i hq.1
       first
       |(refine Q12 rfl rfl ?_;simp[go_sem,hd,e4,e6,c0,c1,c2,c3,c4,c5];done)
       |(refine Q2b rfl rfl ?_ hq.2.1;simp[go_sem,hd];done)
       |(refine Q2b rfl rfl ?_ hq.2.2.1;simp[go_sem,hd];done))
     |skip
    ·intro A W hW E0 A0;have e57:=Q11 A0 3 (by decide) rfl rfl rfl;have e60:=Q11 A0 6 (by decide) rfl rfl rfl;refine Q02 rfl ?_;exact Q2y (Q48 39 3 #[(0,.const (.string ⟨#[98,111,120]⟩)),(1,.tmp 57),(2,.tmp 60)] (by rfl) (parts':= #[(0,.string ⟨#[98,111,120]⟩),(1,.string ⟨u1.toArray⟩),(2,.string ⟨u2.toArray⟩)]) (by simp[go_sem,e57,e60]) (Qnu W _ _ _)) (Ba) ((Q00 rfl).2 ⟨W.heap.size,rfl,Up _ _⟩)
   ·intro A W hW E0 A0;obtain ⟨g,hv,hg⟩:=(Q00 rfl).1 (A0 7 (by decide));have e61:=Q1o hv;have e54:=Q11 A0 0 (by decide) rfl rfl rfl;have hq:=HV.out W hW;refine Qrf (f:=34) (args:= #[.slice (some ⟨g,0,none⟩) 3 3,.pointer (some ⟨w1.heap.size,0,none⟩)]) (by simp[go_sem,e54,e61]) ((put3 w1.heap.size g T Ql9 u1 u2 W hq.2.2.2.1 hq.2.2.2.2.size hg (Xe1 HT)).mono ?_);rintro r w' ⟨rfl,G7,hb⟩;exact ⟨_,rfl,by rw[(Xo0 HT)];exact G7,hq.2.2.2.2.trans hb⟩
   intro vs W2 I2;simp only[Q0t,Act.put,Um,Ux,Ut];have HF:=Ua I2;clear I2
   go_wp2_with fail
   exact ⟨⟨i+1,by simp,by omega,(Xo0 HF),(Xe1 HF)⟩,by simp only[intOf];omega⟩
  ·obtain rfl:i=bl:=(by omega);have G0:¬((i:Int)<(i:Int)):=(by omega);obtain ⟨Z,hZ⟩:∃t,L6++Q98 bx=t:=⟨_,rfl⟩;obtain ⟨K,hK⟩:∃t,Q1d 0 (Q0x F)=t:=⟨_,rfl⟩;have hF4:F.length<=4:=(Xo1 HR).field.2.1;have hKl:K.length<=800000:=by
    have h1:=Q5i (Qbc hq.2.2.2.2.2.2.2.1.f (Xo1 HR).field) 0 (by simp only;omega);have h2:=UT 168200 hF4;rw[<-hK];simp only at h1;omega
   have Yz:Z.length<=100000/\Z≠[]:=by
    have h1:=Q9t bx (fun b hb=>by
     rw[<-(Xo0 HX)] at hb;obtain ⟨y,hy,rfl⟩:=TE.1 hb;obtain ⟨j,hj⟩:=US.1 hy;have Jn:=(Xo1 HR).box.2.2 y hy;rcases hq.2.2.2.2.2.2.2.1.b.2.2.2 with h0|⟨_,_,_,_,J2⟩
     ·simp only at h0;rw[h0] at hj;simp at hj
     ·obtain ⟨_,_,_,_,_,_,_,m1,m2⟩:=J2 j y hj;exact ⟨(Q22 m1 Jn.1).2,(Q22 m2 Jn.2.1).2⟩)
    have h2:bx.length<=4:=by
     have:=(Xo1 HR).box.2.1;simp only at this;rw[(Xe1 HX)];omega
    have h3:=UT 2810 h2;have h4:=HL.out.all;have h5:=HL.out.eq5;have h6:=congrArg List.length h5;rw[Ui,Qae] at h6;have h7:=congrArg List.length hZ;rw[Ui] at h7;exact ⟨by omega,fun e=>by rw[e,UP] at h7;omega⟩
   have hcat:¬9223372036854775807<Z.length+K.length:=(by omega);have i4:bx.take i=bx:=Uw (by rw[(Xe1 HX)];exact Ue _);rw[i4,hZ] at QS;have hYs:sv Y=.string (⟨Z.toArray⟩++⟨K.toArray⟩):=by
    rw[<-HY.out,<-UV,hZ,hK];unfold sv;refine congrArg Value.string ?_
    apply ByteArray.ext
    simp[UM]
   have s1:∀U,Bw wr U->Calls Tryz.prog 39 #[.pointer (some ⟨w1.heap.size,0,none⟩)] U fun r w'=>r=.returned (.string ⟨Z.toArray⟩)/\Bw w1 w':=fun U hU=>by
    refine (Tryz.Qzc w1.heap.size w1.heap.size Z U (QS.call hU) Yz.2).mono ?_;rintro r w' ⟨h1,h2⟩;exact ⟨h1,(Z0.trans (hU.mono Z0.size)).trans h2⟩
   have s3:∀U,Bw w1 U->Calls Tryz.prog 40 #[.slice fa fl fc] U fun r w'=>r=.returned (.string ⟨K.toArray⟩)/\Bw U w':=fun U hU=>by
    have hqU:=HC.out U (Below.next0 H1.out hU);refine (Qfm fa fl fc F U hqU.2.2.2.2.2.2.2.1.f hqU.2.2.2.2.2.2.2.2.2 hqU.2.2.2.2.2.2.2.2.1).mono ?_;rintro r w' ⟨h1,_,h2⟩;refine ⟨?_,h2⟩;rw[h1 (Xo1 HR).field,hK]
   have Y0:=Z0;obtain ⟨k0,k1,k2,k3,k4,k5,k6,k7,k8,k9,k10,k11,k12,k13⟩:=Q05 hq.1;have HZ:=Xh3 s1 s3 Y0;have HYs:=Ua hYs;clear hq hZ hK hKl Yz i4 QS hYs s1 s3 Y0 Z0
   go_upto_region 16 with fail
   go_region_with (first
    |(go_at_call 39
      refine ((Xo0 HZ) _ (by first|exact HPq.out|exact Below.next0 HPq.out (Q04 _))).mono ?_;rintro r wF ⟨rfl,hb⟩;have HF:=Ua hb;clear hb)
    |(go_at_call 39
      refine ((Xo0 HZ) _ (by first|exact Ud _ _|exact Q04 _)).mono ?_;rintro r wS ⟨rfl,hb⟩;have HS:=Ua hb;have hq:=(HC.out wS (Below.next0 H1.out hb)).1;obtain ⟨k0,k1,k2,k3,k4,k5,k6,k7,k8,k9,k10,k11,k12,k13⟩:=Q05 hq;clear hb hq)
    |(go_at_call 40
      refine ((Xo1 HZ) _ (by first|exact HS.out|exact HS.out.trans ((Q04 _).mono HS.out.size))).mono ?_;rintro r wF ⟨rfl,hb⟩;have F3:Bw w1 wF:=by first|exact Below.next0 HS.out hb|exact Below.next0 (HS.out.trans ((Q04 _).mono HS.out.size)) hb
      have HF:=Ua F3;clear hb F3)
    |(go_at_call 40
      refine ((Xo1 HZ) _ (by first|exact (Xe2 HZ)|exact (Xe2 HZ).trans ((Q04 _).mono (Xe2 HZ).size))).mono ?_;rintro r wP ⟨rfl,hb⟩;have F3:Bw wr wP:=by first|exact hb|exact Below.next0 (Q04 _) hb
      have HPq:=Ua F3;clear hb F3))
   all_goals
    go_wp2_with fail
    go_ret;exact ⟨by rw[HYs.out];rfl,Below.next0 (Below.next0 (Xe2 HR) H1.out) HF.out⟩
structure Qdc (w w':World) (b:Nat) (vs:LV):Prop where
 size:w.heap.size<=w'.heap.size
 block:∀k,k<w.heap.size->k≠b->w'.heap[k]?=w.heap[k]?
 was:Blk w b vs
theorem Qdc.cell {w w':World} {b:Nat} {vs:LV} (h:Qdc w w' b vs) {p:Addr} {v:Value} (hp:w.cell? p=some v) (hn:p.block≠b):w'.cell? p=some v:=(UK (h.block _ (Uz hp) hn)).trans hp
theorem Qdc.in_ {w w':World} {b i:Nat} {vs:LV} (h:Qdc w w' b vs) {v:Value} (hp:w.cell? ⟨b,i,none⟩=some v):vs[i]?=some v:=by
 by_cases hi:i<vs.length
 ·have h1:=h.was.c i _ (Ub hi);rw[hp] at h1;rw[Ub hi];exact h1.symm
 ·have:=h.was.e i (by omega);rw[hp] at this;cases this
structure Odd (vs:LV):Prop where
 nou:∀u∈vs,NoU u
 first:∀e:Int,vs[0]?≠some (.int .i64 e)
 two:∀i a l c a' l' c',vs[i+2]?=some (.slice a l c)->vs[i+3]?=some (.slice a' l' c')->False
theorem WordsIn.only {w w':World} {b:Nat} {vs:LV} (h:Qdc w w' b vs) (ho:Odd vs) {a:OA} {l c:Nat} {L:LN} (hw:WordsIn w a l c L):WordsIn w' a l c L:=by
 refine ⟨hw.len,hw.cap,hw.most,hw.low,?_⟩;rcases hw.rd with h0|⟨g,o,rfl,hg,hc⟩
 ·exact .inl h0
 ·refine .inr ⟨g,o,rfl,Uc hg h.size,fun j y hy=>h.cell (hc j y hy) ?_⟩;intro e;have e:g=b:=e;subst e;exact ho.nou _ (Ug (h.in_ (hc j y hy))) y rfl
theorem Q0f.only {w w':World} {b:Nat} {vs:LV} (h:Qdc w w' b vs) (ho:Odd vs) {a:OA} {l c:Nat} {x:Q2u} (hw:Q0f w a l c x):Q0f w' a l c x:=⟨hw.lie.only h ho,hw.lo,hw.hi⟩
theorem Q0p.only [LT ZK] [Nonempty (PLift Zz)] {w w':World} {b:Nat} {vs:LV} (h:Qdc w w' b vs) (ho:Odd vs) {a:OA} {l c:Nat} {E:List Int} (hi:Q0p w a l c E):Q0p w' a l c E:=by
 refine ⟨hi.len,hi.cap,hi.most,hi.rng,?_⟩;rcases hi.rd with h0|⟨g,o,rfl,hg,hc⟩
 ·exact .inl h0
 ·refine .inr ⟨g,o,rfl,Uc hg h.size,fun j y hy=>h.cell (hc j y hy) ?_⟩;intro e;have e:g=b:=e;subst e;obtain rfl:o=0:=hi.rng.2 _ _ rfl zz_t;cases E with
  |nil=>simp at hy
  |cons z r=>
   have h1:=h.in_ (hc 0 z rfl);exact ho.first z h1
theorem Q0k.only [LT ZK] [Nonempty (PLift Zz)] {w w':World} {b:Nat} {vs:LV} (h:Qdc w w' b vs) (ho:Odd vs) {a:OA} {n c:Nat} {ms:List Q01} (hm:Q0k w a n c ms):Q0k w' a n c ms:=by
 obtain ⟨h1,h2,h3,h4⟩:=hm;refine ⟨h1,h2,h3,?_⟩;rcases h4 with h4|⟨g,o,h5,h6,h7⟩
 ·exact .inl h4
 ·refine .inr ⟨g,o,h5,Uc h6 h.size,fun j m hj=>?_⟩;obtain ⟨aw,lw,cw,ae,le,ce,k0,k1,k2,k3,k4,k5,k6⟩:=h7 j m hj;have KP:g≠b:=by
   intro e;subst e;refine ho.two (o+j*4) aw lw cw ae le ce (h.in_ k2) (h.in_ k3)
  exact ⟨aw,lw,cw,ae,le,ce,h.cell k0 KP,h.cell k1 KP,h.cell k2 KP,h.cell k3 KP,k4.only h ho,k5.only h ho,k6⟩
theorem Q1a.only [LT ZK] [Nonempty (PLift Zz)] {w w':World} {b:Nat} {vs:LV} (h:Qdc w w' b vs) (ho:Odd vs) {a:OA} {n c:Nat} {F:List (List Q01)} (hF:Q1a w a n c F) (ha:∀x,a=some x->x.block≠b):Q1a w' a n c F:=by
 obtain ⟨h1,h2,h3,h4⟩:=hF;refine ⟨h1,h2,h3,?_⟩;rcases h4 with h4|⟨g,o,h5,h6,h7⟩
 ·exact .inl h4
 ·refine .inr ⟨g,o,h5,Uc h6 h.size,fun j ms hj=>?_⟩;obtain ⟨p,l,d,k0,k1⟩:=h7 j ms hj;exact ⟨p,l,d,h.cell k0 (by have:=ha _ h5;exact this),k1.only h ho⟩
theorem Q1q.only {w w':World} {b B:Nat} {vs:LV} (h:Qdc w w' b vs) (ho:Odd vs) (hb:b<B) {p:Pl} {L:List IvV} (hL:Q1q w B p L):Q1q w' B p L:=by
 obtain ⟨xs,hr⟩:=hL.row;have C1:∀x,p.a=some x->x.block≠b:=fun x hx=>by have:=(hL.lt hx).1;omega
 refine ⟨⟨xs,hr.keep fun x hx=>h.block _ (hL.lt hx).2 (C1 x hx)⟩,hL.len,fun j x hx=>?_⟩;obtain ⟨g,ha,a,l,c,a2,m,d,⟨h0,h1,h2,h3,h4,h5⟩,h6,h7⟩:=hL.ent j x hx;have hg:=C1 _ ha;exact ⟨g,ha,a,l,c,a2,m,d,⟨h.cell h0 hg,h.cell h1 hg,h.cell h2 hg,h.cell h3 hg,h.cell h4 hg,h.cell h5 hg⟩,h6.only h ho,h7.only h ho⟩
theorem Qdc.set {w:World} {b:Nat} {vs:LV} (hb:Blk w b vs) (i:Nat) (v:Value):Qdc w (w.setCell ⟨b,i,none⟩ v) b vs:=⟨by rw[Tk];exact Ue _,fun k _ hk=>UX _ _ _ _ hk,hb⟩
theorem Qdc.more {w w':World} {b:Nat} {vs:LV} (h:Qdc w w' b vs) (i:Nat) (v:Value):Qdc w (w'.setCell ⟨b,i,none⟩ v) b vs:=⟨by rw[Tk];exact h.size,fun k h1 hk=>(UX _ _ _ _ hk).trans (h.block k h1 hk),h.was⟩
theorem Qej (p:RpP) (x:RpV):Odd (rpL p x):=by
 refine ⟨Q6z _ _,fun e h=>by simp[rpL] at h,fun i a l c a' l' c' h1 h2=>?_⟩
 match i with
 |0|1|2|3|4|5|6|7|8|9|10|11|12=>simp[rpL] at h1 h2
 |n+13=>simp[rpL] at h1
def zpL:LV:=[.slice none 0 0,.slice none 0 0,.bool false,.int .i64 0,.slice none 0 0,.bool false,.int .i64 0,.slice none 0 0,.bool false,.int .i64 0,.slice none 0 0,.int .i64 0,.int .i64 0,.int .i64 0]
theorem Q7q:Odd zpL:=by
 refine ⟨fun u hu=>?_,fun e h=>by simp[zpL] at h,fun i a l c a' l' c' h1 h2=>?_⟩
 ·simp only[zpL,UD,TK,Xbm] at hu;rcases hu with rfl|rfl|rfl|rfl|rfl|rfl|rfl|rfl|rfl|rfl|rfl|rfl|rfl|rfl <;> first|exact Q2g _|exact Q2q _|exact Q3f _ _ _
 ·match i with
  |0|1|2|3|4|5|6|7|8|9|10|11=>simp[zpL] at h1 h2
  |n+12=>simp[zpL] at h1
theorem Qu5 {x:RpV} {st:PrS} (h:StM x st) (hf:Qty st) (ho:st.over=none) (Fv:List (List Q01)):(⟨Fv,x.box,x.til,x.most,x.least,x.prec,x.order,x.budget⟩:Q33).prob=st.prob (Q0x Fv):=by
 obtain ⟨f1,f2,f3,f4⟩:=hf ho;have hd:∀{y:Q2u} {d:Option Dyadic},Qly y d->d≠none->y.val=d.getD 0:=fun {y d} hy hn=>by
  cases d with
  |none=>exact absurd rfl hn
  |some z=>exact (hy z rfl).2
 have JK:x.box.map (fun b=>(b.lo.val,b.hi.val))=st.box.map fun b=>(b.1.getD 0,b.2.getD 0):=by
  apply Xbh
  intro j;rw[UI,UI]
  by_cases hj:j<x.box.length
  ·have WO:j<st.box.length:=(by rw[<-h.len];exact hj);rw[Ub hj,Ub WO];obtain ⟨h1,h2⟩:=h.box j _ _ (Ub hj) (Ub WO);obtain ⟨n1,n2⟩:=f4 _ (List.getElem_mem WO);simp only[UG,hd h1 n1,hd h2 n2]
  ·rw[Ta (by omega),Ta (by rw[<-h.len];omega)];rfl
 unfold Q33.prob PrS.prob;simp only[JK,hd h.til f1,hd h.most f2,hd h.least f3,h.prec,h.order,h.budget,TS]
structure OkV (x:Q33):Prop where
 til:x.til.ok
 most:x.most.ok
 least:x.least.ok
 box:∀b∈x.box,b.lo.ok/\b.hi.ok
 prec:0<=x.prec
 order:0<=x.order
 budget:0<=x.budget
theorem Qy9 {x:RpV} {st:PrS} (h:StM x st) (hf:Qty st) (ho:st.over=none) (Fv:List (List Q01)):OkV ⟨Fv,x.box,x.til,x.most,x.least,x.prec,x.order,x.budget⟩:=by
 obtain ⟨f1,f2,f3,f4⟩:=hf ho;have hd:∀{y:Q2u} {d:Option Dyadic},Qly y d->d≠none->y.ok:=fun {y d} hy hn=>by
  cases d with
  |none=>exact absurd rfl hn
  |some z=>exact (hy z rfl).1
 refine ⟨hd h.til f1,hd h.most f2,hd h.least f3,fun b hb=>?_,by show 0<=x.prec;rw[h.prec];omega,by show 0<=x.order;rw[h.order];omega,by show 0<=x.budget;rw[h.budget];omega⟩;obtain ⟨j,hj⟩:=US.1 hb;have hj1:j<x.box.length:=(Uh.1 hj).1;have WO:j<st.box.length:=by rw[<-h.len];exact hj1
 obtain ⟨h1,h2⟩:=h.box j _ _ hj (Ub WO);obtain ⟨n1,n2⟩:=f4 _ (List.getElem_mem WO);exact ⟨hd h1 n1,hd h2 n2⟩
def Qwg [LT ZK] (w:World) (X:Except (Nat × Int) Qgw) (r:Ending) (w':World):Prop:=Bw w w'/\match X with
 | .error (q,e)=>r=.returned (.tuple #[.agg zpL.toArray,.int .i64 (q:Int),.int .i64 e])
 | .ok T=>∃p x,Q2j w' p x/\x.prob=T/\Q1u x.field/\OkV x/\(Q1h x->r=.returned (.tuple #[.agg (Q2e p x).toArray,.int .i64 0,.int .i64 0]))/\(¬Q1h x->r=.returned (.tuple #[.agg zpL.toArray,.int .i64 0,.int .i64 1]))
theorem Qkj {w:World} {b:Nat} {vs:LV} (h:Blk w b vs) (hl:14<=vs.length):w.frozen? ⟨b,0,none⟩=false/\w.frozen? ⟨b,1,none⟩=false/\w.frozen? ⟨b,2,none⟩=false/\w.frozen? ⟨b,3,none⟩=false/\w.frozen? ⟨b,4,none⟩=false/\w.frozen? ⟨b,5,none⟩=false/\w.frozen? ⟨b,6,none⟩=false/\w.frozen? ⟨b,7,none⟩=false/\w.frozen? ⟨b,8,none⟩=false/\w.frozen? ⟨b,9,none⟩=false/\w.frozen? ⟨b,10,none⟩=false/\w.frozen? ⟨b,11,none⟩=false/\w.frozen? ⟨b,12,none⟩=false/\w.frozen? ⟨b,13,none⟩=false:=
 ⟨h.f _ (by omega),h.f _ (by omega),h.f _ (by omega),h.f _ (by omega),h.f _ (by omega),h.f _ (by omega),h.f _ (by omega),h.f _ (by omega),h.f _ (by omega),h.f _ (by omega),h.f _ (by omega),h.f _ (by omega),h.f _ (by omega),h.f _ (by omega)⟩
theorem Blk.drew {w:World} {b:Nat} {vs:LV} (h:Blk w b vs):Blk w.drew b vs:=h.same rfl
def Qfu (w:World) (b:Nat) (v0 v1 v2 v3 v4 v5 v6 v7 v8 v9 v10 v11 v12 v13:Value):World:=(((((((((((((w.setCell ⟨b,0,none⟩ v0).setCell ⟨b,1,none⟩ v1).setCell ⟨b,2,none⟩ v2).setCell ⟨b,3,none⟩ v3).setCell ⟨b,4,none⟩ v4).setCell ⟨b,5,none⟩ v5).setCell ⟨b,6,none⟩ v6).setCell ⟨b,7,none⟩ v7).setCell ⟨b,8,none⟩ v8).setCell ⟨b,9,none⟩ v9).setCell ⟨b,10,none⟩ v10).setCell ⟨b,11,none⟩ v11).setCell ⟨b,12,none⟩ v12).setCell ⟨b,13,none⟩ v13
section
variable {w:World} {b:Nat} (v0 v1 v2 v3 v4 v5 v6 v7 v8 v9 v10 v11 v12 v13:Value)
theorem Qij (h:Blk w b zpL):Blk (Qfu w b v0 v1 v2 v3 v4 v5 v6 v7 v8 v9 v10 v11 v12 v13) b [v0,v1,v2,v3,v4,v5,v6,v7,v8,v9,v10,v11,v12,v13]:=((((((((((((((h.set (i:=0) (by decide) v0).set (i:=1) (by simp[zpL]) v1).set (i:=2) (by simp[zpL]) v2).set (i:=3) (by simp[zpL]) v3).set (i:=4) (by simp[zpL]) v4).set (i:=5) (by simp[zpL]) v5).set (i:=6) (by simp[zpL]) v6).set (i:=7) (by simp[zpL]) v7).set (i:=8) (by simp[zpL]) v8).set (i:=9) (by simp[zpL]) v9).set (i:=10) (by simp[zpL]) v10).set (i:=11) (by simp[zpL]) v11).set (i:=12) (by simp[zpL]) v12).set (i:=13) (by simp[zpL]) v13)
theorem Qo8 (h:Blk w b zpL):Qdc w (Qfu w b v0 v1 v2 v3 v4 v5 v6 v7 v8 v9 v10 v11 v12 v13) b zpL:=((((((((((((((Qdc.set h 0 v0).more 1 v1).more 2 v2).more 3 v3).more 4 v4).more 5 v5).more 6 v6).more 7 v7).more 8 v8).more 9 v9).more 10 v10).more 11 v11).more 12 v12).more 13 v13)
theorem Qcz {w0:World} {B:Nat} (hb:Below B w0 w) (hB:B<=b):Below B w0 (Qfu w b v0 v1 v2 v3 v4 v5 v6 v7 v8 v9 v10 v11 v12 v13):=((((((((((((((hb.setCell (p:=⟨b,0,none⟩) hB v0).setCell (p:=⟨b,1,none⟩) hB v1).setCell (p:=⟨b,2,none⟩) hB v2).setCell (p:=⟨b,3,none⟩) hB v3).setCell (p:=⟨b,4,none⟩) hB v4).setCell (p:=⟨b,5,none⟩) hB v5).setCell (p:=⟨b,6,none⟩) hB v6).setCell (p:=⟨b,7,none⟩) hB v7).setCell (p:=⟨b,8,none⟩) hB v8).setCell (p:=⟨b,9,none⟩) hB v9).setCell (p:=⟨b,10,none⟩) hB v10).setCell (p:=⟨b,11,none⟩) hB v11).setCell (p:=⟨b,12,none⟩) hB v12).setCell (p:=⟨b,13,none⟩) hB v13)
theorem Qd0 {w0:World} {B:Nat} (h:Blk w b zpL) (hb:Below B w0 w) (hB:B<=b):∃V,Qfu w b v0 v1 v2 v3 v4 v5 v6 v7 v8 v9 v10 v11 v12 v13=V/\Qdc w V b zpL/\Blk V b [v0,v1,v2,v3,v4,v5,v6,v7,v8,v9,v10,v11,v12,v13]/\Below B w0 V:=⟨_,rfl,Qo8 v0 v1 v2 v3 v4 v5 v6 v7 v8 v9 v10 v11 v12 v13 h,Qij v0 v1 v2 v3 v4 v5 v6 v7 v8 v9 v10 v11 v12 v13 h,Qcz v0 v1 v2 v3 v4 v5 v6 v7 v8 v9 v10 v11 v12 v13 hb hB⟩
end
theorem Qd1 (s:ByteArray) (w:World) (hs:s.size<=1000000) (hT:Q3r w):∃W0,(w.alloc (.cells zpL.toArray 28)).alloc (.cells (zpL++[Value.int .i64 (-1)]).toArray 75)=W0/\Calls Tryz.prog 48 #[.pointer (some ⟨w.heap.size+1,0,none⟩),.string s] W0 (TopR W0 (w.heap.size+1) s.data.toList)/\Bw w W0/\Blk W0 w.heap.size zpL/\Q3r w/\W0.heap.size=w.heap.size+2:=by
 obtain ⟨W0,M1⟩:∃W0,(w.alloc (.cells zpL.toArray 28)).alloc (.cells (zpL++[Value.int .i64 (-1)]).toArray 75)=W0:=⟨_,rfl⟩;have B5:(w.alloc (.cells zpL.toArray 28)).heap.size=w.heap.size+1:=Ur _ _;have V8:W0.heap.size=w.heap.size+2:=by rw[<-M1,Ur,B5]
 have Q0:Bw w W0:=by rw[<-M1];exact (Ba).alloc (by rw[B5];omega) _
 have hZ:Blk W0 w.heap.size zpL:=by
  rw[<-M1];exact (Blk.new w zpL 28).step (Ba) (by rw[B5];omega)
 have hRd:Blk W0 (w.heap.size+1) (rpL ⟨⟨none,0,0⟩,⟨none,0,0⟩,⟨none,0,0⟩,⟨none,0,0⟩⟩ ⟨[],⟨false,0,[]⟩,⟨false,0,[]⟩,⟨false,0,[]⟩,0,0,0,-1⟩):=by
  have h:=Blk.new (w.alloc (.cells zpL.toArray 28)) (zpL++[Value.int .i64 (-1)]) 75;rw[B5,M1] at h;exact h
 have E2:Q0f W0 none 0 0 ⟨false,0,[]⟩:=⟨⟨rfl,Ue _,by decide,fun x hx=>by simp at hx,.inl rfl⟩,by decide,by decide⟩;have htop:=Qr7 (w.heap.size+1) s W0 hs (fun W hW=>hT.step (Q0.trans (hW.below (by omega) (by omega)))) 0 ⟨hRd,Q1q.nil_ _ _,E2,E2,E2⟩;exact ⟨W0,M1,htop,Q0,hZ,hT,V8⟩
theorem Qfv [LT ZK] (s:ByteArray) (w:World) (hs:s.size<=1000000) (hT:Q3r w) (q:Nat) (er:Int) (hY:Qla s.data.toList (s.data.toList.length+1) 0 0 PrS.empty=.error (q,er)):
 Calls Tryz.prog 16 #[.string s] w (Qwg w (.error (q,er))):=by
 have HY:=Ua hY;clear hY;obtain ⟨W0,M1,VC⟩:=Qd1 s w hs hT;have HT:=Ua VC;clear VC hT
 go_enter Tryz.func16,Tryz.ntmps16
 go_upto_region 2 with fail
 change Code.wp _ _ _ _ ((w.alloc (.cells zpL.toArray 28)).alloc (.cells (zpL++[Value.int .i64 (-1)]).toArray 75))
 rw[M1];clear M1
 go_upto_region 3 with (go_at_call 48;refine (Xo0 HT).mono ?_;rintro e W1 ⟨B,p,x,P3,S3,Kc,hm⟩;rw[HY.out] at hm;obtain ⟨rfl,rfl⟩:=hm
                        have O1:Blk W1 w.heap.size zpL:=(Xo2 HT).same (S3.block _ (by have:=(Xe4 HT);omega) (by omega));have C0:Bw w W1:=(Xo1 HT).trans (S3.below (by omega) (by have:=(Xe4 HT);omega));obtain ⟨k0,k1,k2,k3,k4,k5,k6,k7,k8,k9,k10,k11,k12,k13⟩:=Q05 O1.c;obtain ⟨f0,f1,f2,f3,f4,f5,f6,f7,f8,f9,f10,f11,f12,f13⟩:=Qkj O1 (by decide);have HB:=Ua C0;clear P3 S3 Kc C0;have HZ:=Ua O1;clear O1)
 go_wp2_with fail
 have Y1:=Qij (.slice none 0 0) (.slice none 0 0) (.bool false) (.int .i64 0) (.slice none 0 0) (.bool false) (.int .i64 0) (.slice none 0 0) (.bool false) (.int .i64 0) (.slice none 0 0) (.int .i64 0) (.int .i64 0) (.int .i64 0) HZ.out;have D0:=Qcz (.slice none 0 0) (.slice none 0 0) (.bool false) (.int .i64 0) (.slice none 0 0) (.bool false) (.int .i64 0) (.slice none 0 0) (.bool false) (.int .i64 0) (.slice none 0 0) (.int .i64 0) (.int .i64 0) (.int .i64 0) HB.out (Ue _);unfold Qfu at Y1 D0;obtain ⟨c0,c1,c2,c3,c4,c5,c6,c7,c8,c9,c10,c11,c12,c13⟩:=Q05 Y1.c;refine ⟨rfl,.tuple #[.agg zpL.toArray,.int .i64 (q:Int),.int .i64 5],by simp[results,go_sem,zpL,c0,c1,c2,c3,c4,c5,c6,c7,c8,c9,c10,c11,c12,c13],D0,?_⟩;rfl
def pK:Qgw:=⟨[[(1,[1])]],[(1,1)],1,dy 1 (-2),dy 1 (-20),64,4,100⟩
def sK:LU:=[112,114,101,99,32,54,52,10,111,114,100,101,114,32,52,10,98,117,100,103,101,116,32,49,48,48,10,117,110,116,105,108,32,49,10,109,111,115,116,32,49,112,45,50,10,108,101,97,115,116,32,49,112,45,50,48,10,98,111,120,32,49,32,49,10,120,49,39,32,61,32,120,49,10]
def sB:LU:=[112,114,101,99,32,54,52,10,111,114,100,101,114,32,48,10]
theorem Qrg:(1:Dyadic)=dy 1 0:=by decide+kernel
theorem Qfw (e:Int) (h1: -65536<=e) (h2:e<=65536):Q6i (dy 1 e):=.inr ⟨1,e,rfl,rfl,by decide,h1,h2⟩
theorem Qbh:Q6i 1:=by rw[Qrg];exact Qfw 0 (by decide) (by decide)
theorem Qd2 (e:Int):Q6o (dy 1 e):=⟨Qj3 (by decide),by rw[Q4g];decide⟩
theorem Qu6:Qpi pK where
 field:=by
  refine ⟨Ue _,by decide,fun P hP=>?_⟩;have WQ:P=[(1,[1])]:=by simpa[pK] using hP
  subst WQ;refine ⟨List.pairwise_singleton _ _,by decide,fun p hp=>?_⟩;rw[Uy] at hp;subst hp;exact ⟨by show (1:Dyadic)≠0;rw[Qrg];exact Qj3 (by decide),Qbh,rfl,by decide,by decide⟩
 box:=fun b hb=>by
  have F3:b=(1,1):=by simpa[pK] using hb
  subst F3;exact ⟨Qbh,Qbh,by unfold Q9x;decide+kernel⟩
 same:=rfl
 til:=⟨Qbh,by show Q6o 1;rw[Qrg];exact Qd2 0⟩
 most:=⟨Qfw _ (by decide) (by decide),Qd2 _⟩
 least:=⟨Qfw _ (by decide) (by decide),Qd2 _⟩
 ord:=by unfold Q9x;decide+kernel
 prec:=⟨by decide,by decide⟩
 order:=⟨by decide,by decide⟩
 budget:=⟨by decide,by decide⟩
theorem Qwh:Qmn pK=sK:=by decide+kernel
structure Qu7 (x:Q33):Prop extends OkV x where
 field:∃k,∀ms∈x.field,∀m∈ms,OkM k m/\Low (2^64) m.ws
 lt:Low (2^64) x.til.ws
 lm:Low (2^64) x.most.ws
 le:Low (2^64) x.least.ws
 lb:∀b∈x.box,Low (2^64) b.lo.ws/\Low (2^64) b.hi.ws
theorem Qwi {w:World} {a:OA} {n c:Nat} {B:List IvV} (h:Q6r w a n c B) {x:IvV} (hx:x∈B):Low (2^64) x.lo.ws/\Low (2^64) x.hi.ws:=by
 obtain ⟨_,_,_,h0|⟨g,o,_,_,J2⟩⟩:=h
 ·rw[h0] at hx;cases hx
 ·obtain ⟨j,hj⟩:=US.1 hx;obtain ⟨_,_,_,_,_,_,_,h1,h2⟩:=J2 j x hj;exact ⟨h1.lie.low,h2.lie.low⟩
theorem Qrh [LT ZK] {w:World} {p:Qfg} {x:Q33} (h:Q2j w p x) (hF:Q1u x.field) (hO:OkV x):Qu7 x:=
 ⟨hO,⟨_,Qu4 h.f hF⟩,h.t.lie.low,h.m.lie.low,h.e.lie.low,fun _ hb=>Qwi h.b hb⟩
theorem Qek {x y:Q2u} (h1:x.ok) (l1:Low (2^64) x.ws) (h2:y.ok) (l2:Low (2^64) y.ws) (h:x.val=y.val):x=y:=by
 obtain ⟨e1,e2,e3⟩:=Qj4 h1 l1 h2 l2 h;cases x;cases y;simp only at e1 e2 e3;rw[e1,e2,e3]
theorem Qv6:∀{B C:List IvV},(∀b∈B,(b.lo.ok/\b.hi.ok)/\Low (2^64) b.lo.ws/\Low (2^64) b.hi.ws)->(∀b∈C,(b.lo.ok/\b.hi.ok)/\Low (2^64) b.lo.ws/\Low (2^64) b.hi.ws)->B.map (fun b=>(b.lo.val,b.hi.val))=C.map (fun b=>(b.lo.val,b.hi.val))->B=C
 |[],[],_,_,_=>rfl
 |[],_::_,_,_,h=>by simp at h
 |_::_,[],_,_,h=>by simp at h
 |b::B,c::C,h1,h2,h=>by
  simp only[Xa1,List.cons.injEq,Xa9] at h;have hb:=h1 b (by simp);have hc:=h2 c (by simp);have e1:=Qek hb.1.1 hb.2.1 hc.1.1 hc.2.1 h.1.1;have e2:=Qek hb.1.2 hb.2.2 hc.1.2 hc.2.2 h.1.2;have e3:b=c:=by cases b;cases c;simp only at e1 e2;rw[e1,e2]
  rw[e3,Qv6 (fun x hx=>h1 x (by simp[hx])) (fun x hx=>h2 x (by simp[hx])) h.2]
theorem Qu8 {x y:Q33} (hx:Qu7 x) (hy:Qu7 y) (h:x.prob=y.prob):x=y:=by
 unfold Q33.prob at h;simp only[Qgw.mk.injEq] at h;obtain ⟨e1,e2,e3,e4,e5,e6,e7,e8⟩:=h;obtain ⟨k,hk⟩:=hx.field;obtain ⟨j,hj⟩:=hy.field;have f1:=Qii hk hj e1;have f2:=Qv6 (fun b hb=>⟨hx.box b hb,hx.lb b hb⟩) (fun b hb=>⟨hy.box b hb,hy.lb b hb⟩) e2;have f3:=Qek hx.til hx.lt hy.til hy.lt e3;have f4:=Qek hx.most hx.lm hy.most hy.lm e4;have f5:=Qek hx.least hx.le hy.least hy.le e5;have f6:x.prec=y.prec:=by have:=hx.prec;have:=hy.prec;omega
 have f7:x.order=y.order:=by have:=hx.order;have:=hy.order;omega
 have f8:x.budget=y.budget:=by have:=hx.budget;have:=hy.budget;omega
 cases x;cases y;simp only at f1 f2 f3 f4 f5 f6 f7 f8;rw[f1,f2,f3,f4,f5,f6,f7,f8]
theorem Qz2 {x:Q33} (h:Q1h x):OkV x:=⟨h.til.1,h.most.1,h.least.1,fun b hb=>⟨(h.box.2.2 b hb).1,(h.box.2.2 b hb).2.1⟩,by have:=h.prec;omega,by have:=h.order;omega,by have:=h.budget;omega⟩
theorem Qri [LT ZK] {w:World} {p:Qfg} {x:Q33} (h:Q2j w p x) (hF:Q1u x.field) (hO:OkV x):Q1h x↔Qpi x.prob:=by
 have hp:=Qrh h hF hO;have hfl:x.prob.field.length=x.field.length:=UE ..;have K4:x.prob.box.length=x.box.length:=UE ..
 constructor
 ·intro hR;refine ⟨Qre h.f hF,fun b hb=>?_,by rw[hfl,K4];exact hR.same,⟨Q2h hO.til hp.lt,hR.til.2⟩,⟨Q2h hO.most hp.lm,hR.most.2⟩,⟨Q2h hO.least hp.le,hR.least.2⟩,hR.ord,?_,?_,?_⟩
  ·obtain ⟨z,hz,rfl⟩:=TE.1 hb;exact ⟨Q2h (hO.box z hz).1 (hp.lb z hz).1,Q2h (hO.box z hz).2 (hp.lb z hz).2,(hR.box.2.2 z hz).2.2⟩
  ·have:=hR.prec;show 8<=x.prec.toNat/\x.prec.toNat<=256;omega
  ·have:=hR.order;show 2<=x.order.toNat/\x.order.toNat<=10;omega
  ·have:=hR.budget;show 1<=x.budget.toNat/\x.budget.toNat<=4096;omega
 ·intro hR;have X4:x.box.length=x.field.length:=by rw[<-hfl,<-K4];exact hR.same
  refine ⟨hF,⟨by rw[X4];exact hF.1,by rw[X4];exact hF.2.1,fun z hz=>⟨(hO.box z hz).1,(hO.box z hz).2,(hR.box _ (TE.2 ⟨z,hz,rfl⟩)).2.2⟩⟩,X4,⟨hO.til,hR.til.2⟩,⟨hO.most,hR.most.2⟩,⟨hO.least,hR.least.2⟩,hR.ord,?_,?_,?_⟩
  ·have:8<=x.prec.toNat/\x.prec.toNat<=256:=hR.prec;omega
  ·have:2<=x.order.toNat/\x.order.toNat<=10:=hR.order;omega
  ·have:1<=x.budget.toNat/\x.budget.toNat<=4096:=hR.budget;omega
def xK:Q33:=⟨[[⟨false,0,[1],[1]⟩]],[⟨⟨false,0,[1]⟩,⟨false,0,[1]⟩⟩],⟨false,0,[1]⟩,⟨false,-2,[1]⟩,⟨false,-20,[1]⟩,64,4,100⟩
theorem Qrj:xK.prob=pK:=by
 have h1:Q2m false 0 [1]=1:=by decide+kernel
 have h2:Q2m false (-2) [1]=dy 1 (-2):=by decide+kernel
 have h3:Q2m false (-20) [1]=dy 1 (-20):=by decide+kernel
 show (⟨[[(Q2m false 0 [1],[1])]],[(Q2m false 0 [1],Q2m false 0 [1])],Q2m false 0 [1],Q2m false (-2) [1],Q2m false (-20) [1],64,4,100⟩:Qgw)=pK
 rw[h1,h2,h3];rfl
theorem Qwj:Qu7 xK:=by
 have hl:Low (2^64) [1]:=fun x hx=>by rw[Uy] at hx;subst hx;decide
 refine ⟨⟨by show Q0a false 0 [1];decide,by show Q0a false (-2) [1];decide,by show Q0a false (-20) [1];decide,fun b hb=>?_,by decide,by decide,by decide⟩,⟨1,fun ms V5 m hm=>?_⟩,hl,hl,hl,fun b hb=>?_⟩
 ·have F3:b=⟨⟨false,0,[1]⟩,⟨false,0,[1]⟩⟩:=by simpa[xK] using hb
  subst F3;exact ⟨by unfold Q2u.ok;decide,by unfold Q2u.ok;decide⟩
 ·have e1:ms=[⟨false,0,[1],[1]⟩]:=by simpa[xK] using V5
  subst e1;rw[Uy] at hm;subst hm;exact ⟨by decide,hl⟩
 ·have F3:b=⟨⟨false,0,[1]⟩,⟨false,0,[1]⟩⟩:=by simpa[xK] using hb
  subst F3;exact ⟨hl,hl⟩
structure Qx8 (s:ByteArray) (p:Nat):Prop where
 size:s.size<=1000000
 room:p+2<=s.size
 x:Q0n s.data.toList p=120
 one:Q0n s.data.toList (p+1)=49
 nl:Q0n s.data.toList (p+2)=10
section
variable {w:World} {R:Nat} {s:ByteArray} {p:Nat} {d:Int}
theorem Qel {c:UInt8} {m:Int} (h:Q17 w R s (p:Int) m d false) (hp:p<=s.size) (hs:s.size<=1000000) (hc:Q0n s.data.toList p=c) (h32:c≠32):
 Calls Tryz.prog 131 #[.pointer (some ⟨R,0,none⟩)] w fun e w'=>e=.returned (.int .u8 (c.toNat:Int))/\Q17 w' R s (p:Int) m d false/\Q0l (OnR R) w w':=by
 have o4:=Qtg h hp (by omega);have e1:nxB s.data.toList p false=c:=by simpa[nxB] using hc
 rw[Qqc (by rw[e1];exact h32),e1] at o4;exact o4
theorem Qya (h:Q17 w R s (p:Int) 1 d false) (hx:Qx8 s p):
 Calls Tryz.prog 273 #[.pointer (some ⟨R,0,none⟩)] w (Qqa R s 1 d (.ok (.var 0,p+2)) w):=by
 have o4:=Qel h (by have:=hx.room;omega) hx.size hx.x (by decide);have Qz:=hx.room;have F2:=hx.size;have S4:IntKind.i64.wrap ((p:Int)+1)=(p:Int)+1:=by rw[UY];omega
 have ZV:∀W,Q17 W R s ((p+1:Nat):Int) 1 d false->Calls Tryz.prog 274 #[.pointer (some ⟨R,0,none⟩),.int .i64 1,.int .i64 1] W fun e w'=>e=.returned (.int .i64 1)/\Q17 w' R s ((p+2:Nat):Int) 1 d false/\Q0l (OnR R) W w':=fun W hW=>by
  refine (Qnb hW (by omega) (by omega) 1 1 (by decide)).mono ?_;rintro e w2 ⟨U8,ht⟩;rw[hx.one] at U8;rcases U8 with ⟨_,_,_,h3,h4⟩|⟨h1,_⟩
  ·exact ⟨h3,h4,ht⟩
  ·exact absurd ⟨rfl,by decide,by decide⟩ h1
 have H:=Xh2 o4 ZV;have HP:=Ua Qz;clear h hx o4 ZV Qz F2;have n1:(48:Int)<=(((120:UInt8).toNat:Nat):Int):=by decide
 have n2:¬(((120:UInt8).toNat:Nat):Int)<=57:=by decide
 have n3:((((120:UInt8).toNat:Nat):Int)==120)=true:=by decide
 go_enter Tryz.func273,Tryz.ntmps273
 go_wp2_with (first
  |(go_at_call_of 131 (Value.pointer (some ⟨R,0,none⟩));refine (Xo0 H).mono ?_;rintro r w1 ⟨rfl,P3,I3⟩;have k1:=P3.c1;have g1:=P3.f1;have hr1s:=P3.setAt ((p:Int)+1);have k2:=hr1s.c2;have HS1:=Xh2 hr1s I3;clear P3 I3 hr1s)
  |(go_at_call_of 274 (Value.pointer (some ⟨R,0,none⟩));refine ((Xe1 H) _ (show Q17 _ R s ((p+1:Nat):Int) 1 d false from (Xo0 HS1))).mono ?_;rintro r w2 ⟨rfl,P1,X2⟩;have H2:=Xh2 P1 X2;clear P1 X2))
 go_ret;refine Qqa.okd (((Xe1 HS1).trans0 (Q86 w1 R 1 (.int .i64 ((p:Int)+1)))).trans0 (Xe1 H2)) ?_ (Xo0 H2) HP.out;rw[Q3h];rfl
theorem Qu9 (h:Q17 w R s (p:Int) 1 d false) (hx:Qx8 s p):
 Calls Tryz.prog 238 #[.pointer (some ⟨R,0,none⟩)] w (Qqa R s 1 d (.ok (.var 0,p+2)) w):=by
 have hb:=Qya h hx;have H:=Xh3 hb hx h.lt;clear h hb hx;have n94:((((10:UInt8).toNat:Nat):Int) != 94)=true:=by decide
 go_enter Tryz.func238,Tryz.ntmps238
 go_wp2_with (first
  |(go_at_call_of 273 (Value.pointer (some ⟨R,0,none⟩));refine (Xo0 H).mono ?_;rintro r w1 ⟨t,u,rfl,I3,hN⟩;have H1:=Xh2 I3 hN;clear I3 hN)
  |(go_at_call_of 131 (Value.pointer (some ⟨R,0,none⟩));refine (Qel (Xo2 H1) (Xe3 H1) (Xo1 H).size (Xo1 H).nl (by decide)).mono ?_;rintro r w2 ⟨rfl,P1,X2⟩;have H3:=Xh2 P1 X2;clear P1 X2))
 go_ret;exact Qqa.okd ((Xo0 H1).trans0 (Xe1 H3)) ((Xo1 H1).turn (Xe1 H3) fun k (hk:k=R)=>by subst hk;exact (Xe2 H)) (Xo0 H3) (Xo1 H).room
def Qyb:Value:=.iface 174 (.agg #[.int .i64 0])
theorem Qua (h:Q17 w R s (p:Int) 1 d false) (hx:Qx8 s p):
 Calls Tryz.prog 238 #[.pointer (some ⟨R,0,none⟩)] w fun e w'=>e=.returned (.iface 174 (.agg #[.int .i64 0]))/\Q17 w' R s ((p+2:Nat):Int) 1 d false/\Q0l (OnR R) w w':=(Qu9 h hx).mono (by
 rintro e w' ⟨t,u,rfl,ht,h1,h2,_⟩;rw[Q3h] at h1;exact ⟨congrArg Ending.returned h1,h2,ht⟩)
def Qyc (R:Nat) (s:ByteArray) (p:Nat) (d:Int) (w wx:World):Prop:=
 ∃g cap,wx.cell? ⟨w.heap.size,0,none⟩=some (.slice (some ⟨g,0,none⟩) 1 cap)/\Q0l (OnR R) w wx/\Q17 wx R s ((p+2:Nat):Int) 1 d false/\wx.cell? ⟨g,0,none⟩=some Qyb/\w.heap.size<g/\g<wx.heap.size/\1<=cap/\cap<=maxLen
theorem Qrk {w3 w4:World} {T:TypeId} {g cap:Nat} (hR:R<w.heap.size) (ht:Q0l (OnR R) w w3) (hr:Q17 w3 R s ((p+2:Nat):Int) 1 d false) {o:Obj} (Z5:(w3.alloc o).grownBy w4 none)
 (K0:Row w4 (w.heap.size+1) T 1 (some ⟨g,0,none⟩) 1 cap [Qyb]) (F1:w4.cell? ⟨w.heap.size,0,none⟩=some (.slice none 0 0)):Qyc R s p d w (w4.setCell ⟨w.heap.size,0,none⟩ (.slice (some ⟨g,0,none⟩) 1 cap)):=by
 have h1:Q0l (fun k=>k=w.heap.size) w3 (w4.setCell ⟨w.heap.size,0,none⟩ (.slice (some ⟨g,0,none⟩) 1 cap)):=
  ((Q0l.of_below (Ba) _).trans0 (Q0l.of_grown Z5 fun r hr _=>by cases hr)).trans0 (Q0l.setCell (fun k=>k=w.heap.size) _ (p:=⟨w.heap.size,0,none⟩) (show w.heap.size=w.heap.size from rfl) _)
 have hg:=Q2k K0 rfl;have I9:=K0.far (p:=⟨w.heap.size,0,none⟩) (fun y hy=>by injection hy with hy;subst hy;show g≠w.heap.size;have:=hg.1;simp only at this;omega) (.slice (some ⟨g,0,none⟩) 1 cap);obtain ⟨g',e,_,_,hc⟩:=I9.at_ (show [Qyb][0]?=some Qyb from rfl);injection e with e;injection e with e;subst e;have JH:=K0.cap;exact ⟨g,cap,UF _ _ _ (by rw[F1];rfl),ht.trans h1 (fun k hk (hf:k=w.heap.size)=>by omega),hr.keep h1 (fun (e:R=w.heap.size)=>by omega),hc,hg.1,by rw[Tk];exact hg.2,JH.1,JH.2⟩
theorem Qyd (h:Q17 w R s (p:Int) 1 d false) (hx:Qx8 s p):
 Calls Tryz.prog 183 #[.pointer (some ⟨R,0,none⟩)] w (Qqa R s 1 d (.ok (.prod [.var 0],p+2)) w):=by
 obtain ⟨i0,S2,E2,O1,Y1⟩:=Q0z Qhk;have hR:=h.lt;have R4:Bw w (w.alloc (.cells #[.slice none 0 0] 181)):=Ba;have E4:(w.alloc (.cells #[.slice none 0 0] 181)).cell? ⟨w.heap.size,0,none⟩=some (.slice none 0 0):=by rw[UL _ _ _ _ _ _ (Up _ _)];rfl
 have U4:(w.alloc (.cells #[.slice none 0 0] 181)).frozen? ⟨w.heap.size,0,none⟩=false:=Tx _ _ _ _ _ (Up _ _);obtain ⟨W0,M1⟩:∃W0,w.alloc (.cells #[.slice none 0 0] 181)=W0:=⟨_,rfl⟩;rw[M1] at R4 E4 U4;have H:=Xh6 hR (Q0l.of_below R4 (OnR R)) (h.step R4) E4 U4 hx;clear h hx hR R4 E4 U4
 go_enter Tryz.func183,Tryz.ntmps183
 go_wp2_with fail
 go_step3
 go_wp2_with fail
 go_step3
 go_wp2_with fail
 try rw[M1]
 clear M1
 go_loopw [] (fun wr=>W0=wr) (fun _=>0)
 case atStart=>exact rfl
 case round=>
  obtain rfl:=hrel;have hfa:=Qua ((Xo2 H).drew) (Xe5 H);have hkd:W0.drew.cell? ⟨w.heap.size,0,none⟩=some (.slice none 0 0):=(Xo3 H);have HF:=Ua hfa;clear hfa
  go_upto_region 2 with fail
  go_cut [] (fun wx=>Qyc R s p d w wx)
  case first=>
   go_region_law (first
    |(refine Q9e (by rfl) 238 #[.pointer (some ⟨R,0,none⟩)] (by simp[go_sem]) ?_;refine HF.out.mono ?_;rintro e w3 ⟨rfl,Zg,y6⟩;refine ⟨_,rfl,?_⟩;(have Kq:Q0l (OnR R) W0 w3:=Qqj y6);(have Q7:w.heap.size<w3.heap.size:=Uc (Uz (Xo3 H)) Kq.size);(have q0:w3.cell? ⟨w.heap.size,0,none⟩=some (.slice none 0 0):=(Kq.cell (p:=⟨w.heap.size,0,none⟩) (Uz (Xo3 H)) (fun (e:w.heap.size=R)=>by have:=(Xo0 H);omega)).trans (Xo3 H));(have hfz3:w3.frozen? ⟨w.heap.size,0,none⟩=false:=(Kq.frozen (p:=⟨w.heap.size,0,none⟩) (Uz (Xo3 H)) (fun (e:w.heap.size=R)=>by have:=(Xo0 H);omega)).trans (Xo4 H));(have qa:(w3.alloc (.cells #[(.iface 174 (.agg #[.int .i64 0]))] 119)).cell? ⟨w.heap.size,0,none⟩=some (.slice none 0 0):=(Xau _ _ _ Q7).trans q0);(have H3:=Xh2 Zg ((Xo1 H).trans0 Kq));clear Zg y6 Kq)
    |(refine step_append_lies _ (by rfl) _ _ _ (by rfl) (w.heap.size+1) 119 i0 _ 1 16 Tryz.underlying175 S2 E2 O1 Y1 rfl (by omega) (.slice none 0 0) 0 [] (by rfl) (Row.nil_ _ _ _ _) ⟨w3.heap.size,0,none⟩ 1 1 [(.iface 174 (.agg #[.int .i64 0]))] (by rfl) (by rfl) (Tz (cs:= #[(.iface 174 (.agg #[.int .i64 0]))]) (t:=119) (fr:=(0,0)) (Up w3 _)) (by simp[Value.oneCell']) (by omega) (by unfold maxLen;omega) (by omega) (by rw[Ur];omega) (w3.heap.size+1) (by simp) ?_;intro g cap w4 YG J3 J2 hltg;(have c4:=(J3.cell_far ⟨w.heap.size,0,none⟩ (by rw[Ur];exact Nat.lt_succ_of_lt Q7) (by simp[Value.ownBlock])).trans qa);(have f4:w4.frozen? ⟨w.heap.size,0,none⟩=false:=(Xak (J3.block _ (by rw[Ur];exact Nat.lt_succ_of_lt Q7) (by simp[Value.ownBlock]))).trans ((Xak (((Ud w3.heap.size w3).alloc (Ue _) _).block _ Q7)).trans hfz3));(have YX:=Qrk (Xo0 H) (Xe1 H3) (Xo0 H3) J3 YG c4);(have H4:=Ua YX);clear YX J3 YG J2))
   all_goals go_wp2_with fail
   all_goals go_meet
   all_goals exact H4.out
  case rest=>
   obtain ⟨g,cap,hk,Kb,hr,hv,O5,Q2,J1,I1⟩:=hcut;have hs:=Qel hr (Xe5 H).room (Xe5 H).size (Xe5 H).nl (by decide);have n42:((((10:UInt8).toNat:Nat):Int)==42)=false:=(by decide);have HK:=Xh7 hs Kb hv O5 Q2 J1 I1;clear hkd hs Kb hr hv O5 Q2 J1 I1
   go_wp2_with (go_at_call_of 131 (Value.pointer (some ⟨R,0,none⟩));refine (Xo0 HK).mono ?_;rintro r w2 ⟨rfl,P1,X2⟩;have k2:=(X2.cell (p:=⟨w.heap.size,0,none⟩) (Uz hk) (fun (e:w.heap.size=R)=>by have:=(Xo0 H);omega)).trans hk;have H3:=Xh2 P1 X2;clear P1 X2)
   first|rw[Xan]|skip
   go_ret;obtain ⟨_,Kb,hv,O5,Q2,J1,I1⟩:=HK.out;have hR:=(Xo0 H);refine Qqa.okd (Kb.trans0 (Xe1 H3)) ?_ (Xo0 H3) (Xe5 H).room;rw[Q3h];refine ⟨g,cap,rfl,fun (e:g<w.heap.size)=>by omega,Uc Q2 (Xe1 H3).size,J1,I1,by simp,?_⟩;rw[Qdb,Qdb];refine ⟨⟨Qyb,((Xe1 H3).cell (p:=⟨g,0,none⟩) Q2 (fun (e:g=R)=>by omega)).trans hv,?_⟩,trivial⟩;rw[Q3h];rfl
end
theorem Qye {w:World} {R:Nat} {s:ByteArray} {p:Nat} {d:Int} (h:Q17 w R s (p:Int) 1 d false) (hx:Qx8 s p):
 Calls Tryz.prog 130 #[.pointer (some ⟨R,0,none⟩)] w (Qqa R s 1 d (.ok (.sum [(false,.prod [.var 0])],p+2)) w):=by
 obtain ⟨i0,S2,E2,O1,Y1⟩:=Q0z Qhk;obtain ⟨i1,hi1,ZF,Xz,Xm⟩:=Q0z Qqi;have hR:=h.lt;have R4:Bw w (w.alloc (.cells #[.slice none 0 0,.slice none 0 0] 178)):=Ba;have R0:Qcg R w (w.alloc (.cells #[.slice none 0 0,.slice none 0 0] 178)) none 0 0 none 0 [] []:=
  ⟨Q0l.of_below R4 _,by rw[UL _ _ _ _ _ _ (Up _ _)];rfl,by rw[UL _ _ _ _ _ _ (Up _ _)];rfl,Tx _ _ _ _ _ (Up _ _),Tx _ _ _ _ _ (Up _ _),Row.nil_ _ _ _ _,Row.nil_ _ _ _ _,trivial,rfl⟩
 have o4:=Qel (h.step R4) (by have:=hx.room;omega) hx.size hx.x (by decide);have H:=Xh4 hR R0 o4 hx;clear h hx hR R0 R4 o4;have n45:((((120:UInt8).toNat:Nat):Int)==45)=false:=by decide
 go_enter Tryz.func130,Tryz.ntmps130
 go_wp2_with fail
 go_step3
 go_wp2_with (go_at_call_of 131 (Value.pointer (some ⟨R,0,none⟩));refine (Xo2 H).mono ?_;rintro r W0 ⟨rfl,P3,I3⟩;have H1:=Xh2 P3 ((Xo1 H).step (Xo0 H) I3);clear P3 I3)
 go_step3
 go_wp2_with fail
 have HF:=Xh3 (fun (W:World) (hW:Q17 W R s (p:Int) 1 d false) (_:Q0l (OnR R) w W)=>Qyd hW (Xe3 H)) (Xe1 H1) (Xo0 H1);clear H1
 go_loopw [4] (fun bv wr=>bv=.bool false/\W0=wr) (fun _ _=>0)
 case atStart=>exact ⟨rfl,rfl⟩
 case round=>
  obtain ⟨rfl,rfl⟩:=hrel
  go_upto_region 5 with fail
  go_cut [] (fun wx=>Qv3 R s 1 d w 0 false [] [] (.ok (.prod [.var 0],p+2)) wx)
  case first=>
   refine Q2i (by kernel_rfl) (fun D V W=>∃N,EI R s 1 d w W0 none 0 0 none 0 false [] [] p false (.ok (.prod [.var 0],p+2)) N D V W) ?_ (by kernel_rfl) ?_ ?_ ?_
   ·rintro i o hi hd D V v W ⟨N,h⟩;exact ⟨N,EI.drop (Q9f (x:=12) (y:=14) (by kernel_rfl) hi hd) h⟩
   ·intro V;exact ⟨0,(Xo1 HF).start (Xo0 H) (Xe2 HF) V⟩
   ·skip;refine ⟨fun A W D hI E0 hk A0 F1=>?_,?_⟩
    ·obtain ⟨N,h⟩:=hI;have e3:=Q07 E0 3 (by kernel_rfl) rfl;exact Q0u (u:=.pointer (some ⟨w.heap.size,0,none⟩)) rfl (by simp[go_sem,e3]) ⟨N,h.s0⟩
    refine ⟨fun A W D hI E0 hk A0 F1=>?_,?_⟩
    ·obtain ⟨N,h⟩:=hI;have e16:=Q0h (j:=0) (t:=16) rfl (h.v0 (A0 0 (by decide)));have d12:D 12=false:=Q0y F1 (j:=12) rfl (k:=1) (by decide) hk;have k0:=h.c0 d12;exact Q0u (u:=.slice none 0 0) rfl (by simp[go_sem,e16,k0]) ⟨N,h.s1⟩
    refine ⟨fun A W D hI E0 hk A0 F1=>?_,?_⟩
    ·obtain ⟨N,h⟩:=hI;have e0:=Q07 E0 0 (by kernel_rfl) rfl;exact Q0u (u:=.pointer (some ⟨R,0,none⟩)) rfl (by simp[go_sem,e0]) ⟨N,h.s2⟩
    refine ⟨fun A W D hI E0 hk A0 F1=>?_,?_⟩
    ·obtain ⟨N,h⟩:=hI;have e18:=Q0h (j:=2) (t:=18) rfl (h.v2 (A0 2 (by decide)));have d4:D 4=false:=Q0y F1 (j:=4) rfl (k:=3) (by decide) hk;have d5:D 5=false:=Q0y F1 (j:=5) rfl (k:=3) (by decide) hk;have d10:D 10=false:=Q0y F1 (j:=10) rfl (k:=5) (by decide) d5;have d12:D 12=false:=Q0y F1 (j:=12) rfl (k:=3) (by decide) hk;have d14:D 14=false:=Q0y F1 (j:=14) rfl (k:=3) (by decide) hk;refine Qng (f:=183) (args:= #[.pointer (some ⟨R,0,none⟩)]) rfl (by simp[go_sem,e18]) ?_;refine ((Xo0 HF) W (h.rd hk) h.turn).mono ?_;rintro e w3 ⟨t,u,rfl,Qt⟩;exact ⟨_,rfl,_,h.s3 d4 d5 d10 d12 d14 ⟨t,u,rfl,Qt⟩⟩
    refine ⟨fun A W D hI E0 hk A0 F1=>?_,?_⟩
    ·obtain ⟨N,h⟩:=hI;obtain ⟨_,t,u,hV3,_⟩:=h.nd (A0 3 (by decide));have e19:=Q0h (j:=3) (t:=19) rfl hV3;have s4:=h.s4;rw[hV3] at s4;exact Q0u (u:=.slice (some ⟨W.heap.size,0,none⟩) 1 1) (w':=W.alloc (.cells #[.iface t u] 119)) rfl (by simp[go_sem,e19]) ⟨N,s4⟩
    refine ⟨fun A W D hI E0 hk A0 F1=>?_,?_⟩
    ·obtain ⟨N,h⟩:=hI;obtain ⟨_,t,u,hV3,_⟩:=h.nd (A0 3 (by decide));obtain ⟨b4,hV4,_,Y2⟩:=h.v4 (A0 4 (by decide));rw[hV3] at Y2;have d10:D 10=false:=Q0y F1 (j:=10) rfl (k:=5) (by decide) hk;have d12:D 12=false:=Q0y F1 (j:=12) rfl (k:=5) (by decide) hk;have d14:D 14=false:=Q0y F1 (j:=14) rfl (k:=5) (by decide) hk;refine Qap rfl (.tmp 17) (.tmp 20) 175 rfl (w.heap.size+1) 119 i0 .nilIface 16 Tryz.underlying175 S2 E2 O1 Y1 rfl (.slice none 0 0) 0 [] (Q5r (j:=1) rfl (h.v1 (A0 1 (by decide)))) (h.ra hk) b4 (.iface t u) (Q5r (j:=4) rfl hV4) Y2 rfl (by unfold maxLen;omega) (by omega) (by have:=h.st.2.1;have:=h.big;omega) ?_;intro g cap w' K0 Z5 J2;rw[<-hV3] at K0;exact ⟨N,h.s5 (A0 3 (by decide)) hk d10 d12 d14 K0 Z5 J2 rfl⟩
    refine ⟨fun A W D hI E0 hk A0 F1=>?_,?_⟩
    ·obtain ⟨N,h⟩:=hI;have e3:=Q07 E0 3 (by kernel_rfl) rfl;exact Q0u (u:=.pointer (some ⟨w.heap.size,1,none⟩)) rfl (by simp[go_sem,e3]) ⟨N,h.s6⟩
    refine ⟨fun A W D hI E0 hk A0 F1=>?_,?_⟩
    ·obtain ⟨N,h⟩:=hI;have e22:=Q0h (j:=6) (t:=22) rfl (h.v6 (A0 6 (by decide)));have d14:D 14=false:=Q0y F1 (j:=14) rfl (k:=7) (by decide) hk;have k1:=h.c1 d14;exact Q0u (u:=.slice none 0 0) rfl (by simp[go_sem,e22,k1]) ⟨N,h.s7⟩
    refine ⟨fun A W D hI E0 hk A0 F1=>?_,?_⟩
    ·obtain ⟨N,h⟩:=hI;have e4:=Q07 E0 4 (by kernel_rfl) rfl;exact Q0u (u:=.bool false) rfl (by simp[go_sem,e4]) ⟨N,h.s8⟩
    refine ⟨fun A W D hI E0 hk A0 F1=>?_,?_⟩
    ·obtain ⟨N,h⟩:=hI;have e24:=Q0h (j:=8) (t:=24) rfl (h.v8 (A0 8 (by decide)));exact Q0u (u:=.slice (some ⟨W.heap.size,0,none⟩) 1 1) (w':=W.alloc (.cells #[.bool false] 4)) rfl (by simp[go_sem,e24]) ⟨N,h.s9⟩
    refine ⟨fun A W D hI E0 hk A0 F1=>?_,?_⟩
    ·obtain ⟨N,h⟩:=hI;obtain ⟨b9,hV9,_,N3⟩:=h.v9 (A0 9 (by decide));have d5:=A0 5 (by decide);have d3:=F1 5 _ rfl d5 3 (by decide);have d12:D 12=false:=Q0y F1 (j:=12) rfl (k:=10) (by decide) hk;have d14:D 14=false:=Q0y F1 (j:=14) rfl (k:=10) (by decide) hk;refine Qap rfl (.tmp 23) (.tmp 25) 176 rfl (w.heap.size+1) 4 i1 (.bool false) 1 Tryz.underlying176 hi1 ZF Xz Xm rfl (.slice none 0 0) 0 [] (Q5r (j:=7) rfl (h.v7 (A0 7 (by decide)))) (h.rb hk) b9 (.bool false) (Q5r (j:=9) rfl hV9) N3 rfl (by unfold maxLen;omega) (by omega) (by have:=h.st.2.1;have:=h.big;omega) ?_;intro g cap w' K0 Z5 J2;exact ⟨N,h.s10 d3 d5 hk d12 d14 K0 Z5 J2 rfl⟩
    refine ⟨fun A W D hI E0 hk A0 F1=>?_,?_⟩
    ·obtain ⟨N,h⟩:=hI;have e3:=Q07 E0 3 (by kernel_rfl) rfl;exact Q0u (u:=.pointer (some ⟨w.heap.size,0,none⟩)) rfl (by simp[go_sem,e3]) ⟨N,h.s11⟩
    refine ⟨fun A W D hI E0 hk A0 F1=>?_,?_⟩
    ·obtain ⟨N,h⟩:=hI;have e27:=Q0h (j:=11) (t:=27) rfl (h.v11 (A0 11 (by decide)));have d10:=A0 10 (by decide);have d5:=A0 5 (by decide);have d3:=A0 3 (by decide);obtain ⟨g,cap,hV5,_⟩:=h.ra' d5;have e21:=Q0h (j:=5) (t:=21) rfl hV5;have k0:=h.c0 hk;have g0:=h.f0;have s12:=h.s12 d3 d5 d10 hk undef;rw[hV5] at s12;exact Q87 rfl (by simp[go_sem,e27,e21,k0,g0]) ⟨N,s12⟩
    refine ⟨fun A W D hI E0 hk A0 F1=>?_,?_⟩
    ·obtain ⟨N,h⟩:=hI;have e3:=Q07 E0 3 (by kernel_rfl) rfl;exact Q0u (u:=.pointer (some ⟨w.heap.size,1,none⟩)) rfl (by simp[go_sem,e3]) ⟨N,h.s13⟩
    refine ⟨fun A W D hI E0 hk A0 F1=>?_,?_⟩
    ·obtain ⟨N,h⟩:=hI;have e28:=Q0h (j:=13) (t:=28) rfl (h.v13 (A0 13 (by decide)));have d10:=A0 10 (by decide);have d5:=A0 5 (by decide);have d3:=A0 3 (by decide);obtain ⟨g,cap,hV10,_⟩:=h.rb' d10;have e26:=Q0h (j:=10) (t:=26) rfl hV10;have k0:=h.c1 hk;have g0:=h.f1;have s14:=h.s14 d3 d5 d10 hk undef;rw[hV10] at s14;exact Q87 rfl (by simp[go_sem,e28,e26,k0,g0]) ⟨N,s14⟩
    exact trivial
   ·rintro D V W hD ⟨N,h⟩;have I2:=h.fin rfl hD;have HX:=Ua I2;clear I2 h hD;simp only[Q0t,Act.put,Um,Ux,Ut]
    go_wp2_with fail
    go_meet;exact HX.out
  case rest=>
   obtain ⟨g,cap,g2,cap2,v,hk,K6,Kb,XL,hr,_⟩:=hcut;have o4:=Qel hr (Xe3 H).room (Xe3 H).size (Xe3 H).nl (by decide);have HK:=Xh3 o4 Kb XL;clear o4 Kb XL hr;have n43:((((10:UInt8).toNat:Nat):Int)==43)=false:=(by decide);have n45:((((10:UInt8).toNat:Nat):Int)==45)=false:=by decide
   go_wp2_with (go_at_call_of 131 (Value.pointer (some ⟨R,0,none⟩));refine (Xo0 HK).mono ?_;rintro r w2 ⟨rfl,P1,X2⟩;have k2:=(X2.cell (p:=⟨w.heap.size,0,none⟩) (Uz hk) (fun (e:w.heap.size=R)=>by have:=(Xo0 H);omega)).trans hk;have k3:=(X2.cell (p:=⟨w.heap.size,1,none⟩) (Uz K6) (fun (e:w.heap.size=R)=>by have:=(Xo0 H);omega)).trans K6;have H3:=Xh2 P1 X2;clear P1 X2)
   first|rw[Xan]|skip
   go_ret;exact Qqa.okd ((Xo1 HK).trans0 (Xe1 H3)) (Qv4 ((Xe2 HK).step (Xo0 H) (Xe1 H3)) (by simp)) (Xo0 H3) (Xe3 H).room
structure IsX (s:ByteArray):Prop where
 eq:s.data.toList=[120,49,39,32,61,32,120,49,10]
theorem IsX.size {s:ByteArray} (h:IsX s):s.size=9:=by
 rw[Lib.size_eq,h.eq];rfl
theorem IsX.one {s:ByteArray} (h:IsX s):Qx8 s 6:=⟨by rw[h.size];decide,by rw[h.size];decide,by rw[h.eq];rfl,by rw[h.eq];rfl,by rw[h.eq];rfl⟩
def exX:Ex:=.sum [(false,.prod [.var 0])]
structure Qyf (w:World) (g c:Nat):Prop where
 lt:g<w.heap.size
 cap:1<=c
 most:c<=maxLen
 at_:w.cell? ⟨g,0,none⟩=some (.int .i64 0)
 x:∃u,w.cell? ⟨g,1,none⟩=some u/\Q3h (fun _=>False) w exX u
theorem Qyf.step {w w':World} {g c:Nat} (h:Qyf w g c) (hb:Bw w w'):Qyf w' g c:=⟨Uc h.lt hb.size,h.cap,h.most,(hb.cell (p:=⟨g,0,none⟩) h.lt).trans h.at_,by obtain ⟨u,h1,h2⟩:=h.x;exact ⟨u,(hb.cell (p:=⟨g,1,none⟩) h.lt).trans h1,h2.step hb⟩⟩
def nOfX (v:Value):Nat:=match v with| .slice _ n _=>n|_=>0
def LinR (w:World) (s:ByteArray) (sv:Value) (wr:World):Prop:=
 Bw w wr/\((sv=.slice none 0 0/\Q17 wr w.heap.size s (0:Int) 1 0 false)∨∃g c,sv=.slice (some ⟨g,0,none⟩) 1 c/\Q17 wr w.heap.size s (9:Int) 1 0 false/\Qyf wr g c)
theorem Qwk (s:ByteArray) (w:World) (hX:IsX s):
 Calls Tryz.prog 84 #[.string s] w fun e w'=>∃g c,e=.returned (.tuple #[.slice (some ⟨g,0,none⟩) 1 c,.int .i64 9,.bool true])/\Bw w w'/\Qyf w' g c:=by
 obtain ⟨i0,S2,E2,O1,Y1⟩:=Q0z Qqo;have F2:(s.size:Int)=9:=by have:=hX.size;omega
 have X6:Calls Tryz.prog 128 #[.string s,.string ⟨#[10]⟩] w fun e w'=>e=.returned (.int .i64 1)/\w=w':=(Tryz.J0z s 10 w).mono fun _ _ h=>⟨h.1.trans (by rw[hX.eq];rfl),h.2.symm⟩;have R4:Bw w (w.alloc (.cells #[.string s,.int .i64 0,.int .i64 1,.int .i64 0,.bool false] 166)):=Ba;have R7:Q17 (w.alloc (.cells #[.string s,.int .i64 0,.int .i64 1,.int .i64 0,.bool false] 166)) w.heap.size s (0:Int) 1 0 false:=by
  have hc:=fun o=>UL (w.alloc (.cells #[.string s,.int .i64 0,.int .i64 1,.int .i64 0,.bool false] 166)) w.heap.size o _ _ _ (Up _ _);have hf:=fun o=>Tx (w.alloc (.cells #[.string s,.int .i64 0,.int .i64 1,.int .i64 0,.bool false] 166)) w.heap.size o _ _ (Up _ _);exact ⟨(hc 0).trans rfl,(hc 1).trans rfl,(hc 2).trans rfl,(hc 3).trans rfl,(hc 4).trans rfl,hf 0,hf 1,hf 2,hf 3,hf 4,Q0o _ _,fun o ho=>by rw[hc o];exact Array.getElem?_eq_none (by simpa using ho)⟩
 have H:=Xh4 hX X6 R4 R7;clear hX X6 R4 R7
 go_enter Tryz.func84,Tryz.ntmps84
 go_wp2_with (go_at_call_of 128 (Value.string s);refine (Xo1 H).mono ?_;rintro r w1 ⟨rfl,rfl⟩)
 go_loopw [6] (fun sv wr=>LinR w s sv wr) (fun sv _=>2-nOfX sv)
 case atStart=>exact ⟨(Xo2 H),.inl ⟨rfl,(Xe3 H)⟩⟩
 case round=>
  obtain ⟨hb,⟨rfl,hr⟩|⟨g,c,rfl,hr,hl⟩⟩:=hrel
  ·have k0:=hr.c0;have k1:=hr.c1;have k4:=hr.c4;have hs48:s.size<=281474976710656:=(by omega);have hh:Q5z 0=[120,49,39,32,61,32]:=(by rw[Q5z,Q1z (by omega)];rfl);have Qa:∀W,Calls Tryz.prog 70 #[.int .i64 0] W fun e w'=>e=.returned (.string ⟨#[120,49,39,32,61,32]⟩)/\W=w':=fun W=>by
    have:=Qlp 0 (by decide) W;rw[hh] at this;exact this
   have hfx:=Qhh (p:=0) hr (by omega) hs48 ⟨#[120,49,39,32,61,32]⟩ (by decide) (by decide) (by decide);clear hh;rw[(Xo0 H).eq] at hfx;have HC:=Xh4 Qa hfx hr hb;have HI:=Xh4 S2 E2 O1 Y1;clear Qa hfx hr hb hs48
   go_upto_region 8 with (first
    |(go_at_call_of 70 (Value.int IntKind.i64 (0:Int));refine ((Xo0 HC) _).mono ?_;rintro r w1 ⟨rfl,rfl⟩)
    |(go_at_call_of 129 (Value.pointer (some ⟨w.heap.size,0,none⟩));refine (Xo1 HC).mono ?_;rintro r w1 ⟨rfl,I3,j3⟩;have P3:Q17 w1 w.heap.size s ((6:Nat):Int) 1 0 false:=j3.1;have H1:=Xh2 I3 P3;clear I3 P3 j3))
   have C0:Bw w w1:=Below.turn (Xe3 HC) (Xo0 H1) (Xe3 HC).size (fun k (hk:k=w.heap.size)=>by omega);have I0:=Ua C0;clear C0
   go_upto_region 9 with (go_at_call_of 130 (Value.pointer (some ⟨w.heap.size,0,none⟩));refine (Qye (Xe1 H1) (Xo0 H).one).mono ?_;rintro r w2 ⟨t,u,rfl,X2,Z3,P1,_⟩;have H2:=Xh3 X2 Z3 P1;clear X2 Z3 P1)
   go_upto_region 10 with (go_at_call_of 131 (Value.pointer (some ⟨w.heap.size,0,none⟩));refine (Qel (Xe2 H2) (Xo0 H).one.room (Xo0 H).one.size (Xo0 H).one.nl (by decide)).mono ?_;rintro r w3 ⟨rfl,Zg,y6⟩;have H3:=Xh2 Zg y6;clear Zg y6)
   have U3:=Qhh (Xo0 H3) (Xo0 H).one.room (by omega) ⟨#[10]⟩ (by decide) (by decide) (by decide);rw[(Xo0 H).eq] at U3;have HF:=Ua U3;clear U3
   go_upto_region 11 with (go_at_call_of 129 (Value.pointer (some ⟨w.heap.size,0,none⟩));refine HF.out.mono ?_;rintro r w4 ⟨rfl,XM,hf4⟩;have hr4:Q17 w4 w.heap.size s ((9:Nat):Int) 1 0 false:=hf4.1;have H4:=Xh2 ((Xe1 H3).trans0 XM) hr4;clear XM hr4 hf4)
   have Y2:Bw w w4:=Below.turn I0.out ((Xo0 H2).trans0 (Xo0 H4)) I0.out.size (fun k (hk:k=w.heap.size)=>by omega);have hx4:=(Xo1 H2).turn (Xo0 H4) (fun k (hk:k=w.heap.size)=>by subst hk;exact (Xe1 H1).lt);obtain ⟨S2,E2,O1,Y1⟩:=HI.out;have hsz4:w.heap.size+1<=w4.heap.size:=(Xe1 H4).lt;have HL:=Xh2 Y2 hx4;clear Y2 hx4
   go_wp2_with (at_builtin;refine Q0q rfl (.tmp 63) (.tmp 67) 115 rfl _ _ 121 i0 _ 2 24 Tryz.underlying115 S2 E2 O1 Y1 rfl (by decide) (w.heap.size+1) (Ud _ _) (by rw[Ur];omega) none 0 0 [] rfl (Row.nil_ _ _ _ _) ⟨w4.heap.size,0,none⟩ 1 1 [.int .i64 0,.iface t u] rfl rfl (Tz (cs:= #[.int .i64 0,.iface t u]) (Up w4 _)) (by simp[Value.oneCell']) 1 rfl (by omega) (by omega) ?_;intro a5 c5 w5 ho5 YD P0 VN;have HO:=Xh4 ho5 P0 YD VN;clear ho5 YD P0 VN)
   have hb45:Bw w4 w5:=((Ud w4.heap.size w4).alloc (Ue _) _).grown (Xo2 HO) (by simp) (by intro k hk;simp at hk);have K0:=(Xo0 HO);rcases K0.form with ⟨_,h0,_⟩|⟨g,cur,rfl,_,Q2,_,J1,I1,_⟩
   ·cases h0
   obtain ⟨g0,e0,_,_,M7⟩:=K0.at_ (show [Value.int .i64 0,.iface t u][0]?=some (.int .i64 0) from rfl);obtain ⟨g1,e1,_,_,D8⟩:=K0.at_ (show [Value.int .i64 0,.iface t u][1]?=some (.iface t u) from rfl);cases e0;cases e1;exact ⟨⟨Below.next0 (Xo0 HL) hb45,.inr ⟨g,c5,rfl,(Xe1 H4).step hb45,⟨Q2,J1,I1,M7,_,D8,((Xe1 HL).more fun _ h=>h.elim).step hb45⟩⟩⟩,by simp only[nOfX];omega⟩
  ·have k0:=hr.c0;have k1:=hr.c1;have k4:=hr.c4;have HR:=Xh2 hb hl;clear hb hl hr
   go_wp2_with fail
   go_quiet (fail)
   go_wp2_with fail
   exact ⟨rfl,.tuple #[.slice (some ⟨g,0,none⟩) 1 c,.int .i64 9,.bool true],by simp[results,go_sem],g,c,rfl,Below.drewN' (Xo0 HR) _,(Xe1 HR).step (Qhj _ _)⟩
end Go.Proofs.YtidojbkhlenahaaGreatDoor
namespace Go.Proofs.YtidojbkhlenahaaGreatDoor
open Go.RowKit WordsM
def pX:List Q0m:=[(1,[1])]
theorem Qyg:Qj7 1 (.var 0)=.ok pX:=by
 rw[Qj7];exact Qp3 (n:=1) ⟨List.pairwise_singleton _ _,by simp,fun q hq=>by
  rw[Uy] at hq;subst hq;exact ⟨Qxh,Qsr,Qe4 (n:=1) (i:=0) (by decide)⟩⟩
theorem Qub [LT ZK] (v:Value) (w:World) (hx:Q3h (fun _=>False) w (.var 0) v) (hT:Q3r w):Calls Tryz.prog 85 #[.agg #[.int .i64 1],v] w (Q39 w 1 (.ok pX)):=by
 have:=Qxv 1 0 (by decide) (by decide) (by decide) v w hx hT;rw[Qyg] at this;exact this
theorem Q9u {w W:World} (xs ys:LV) (S T:TypeId) (hW:(w.alloc (.cells xs.toArray S)).alloc (.cells ys.toArray T)=W):Q2x W w.heap.size xs/\Q2x W (w.heap.size+1) ys/\Bw w W/\W.heap.size=w.heap.size+2:=by
 have h1:(w.alloc (.cells xs.toArray S)).heap.size=w.heap.size+1:=Ur _ _;have h2:=Q2x.new w xs S;have h3:=Q2x.new (w.alloc (.cells xs.toArray S)) ys T;have C0:Bw w (w.alloc (.cells xs.toArray S)):=Ba;generalize w.alloc (.cells xs.toArray S)=V at*;have D0:Bw V (V.alloc (.cells ys.toArray T)):=Ba;rw[hW] at h3 D0;rw[h1] at h3;refine ⟨h2.step D0 (by omega),h3,Below.next0 C0 D0,?_⟩;rw[<-hW,Ur,h1]
def OnR1 [LT ZK] (W:World) (s6 s14:Value) (wr:World):Prop:=Bw W wr/\((s6=.slice none 0 0/\s14=.int .i64 0)∨∃a n c ms,s6=.slice a n c/\s14=.int .i64 1/\Q0k wr a n c ms/\ms.map Q01.term=pX/\Q38 1 ms)
theorem Qrl [LT ZK] (a c:Nat) (w:World) (ha:a<w.heap.size) (Y3:1<=c) (u:Value) (hu:w.cell? ⟨a,0,none⟩=some u) (hx:Q3h (fun _=>False) w (.var 0) u) (hT:Q3r w):
 Calls Tryz.prog 135 #[.agg #[.int .i64 1],.agg #[.slice (some ⟨a,0,none⟩) 1 c]] w (Q39 w 1 (.ok pX)):=by
 obtain ⟨W0,M1⟩:∃W0,(w.alloc (.cells #[.int .i64 1] 124)).alloc (.cells #[.slice (some ⟨a,0,none⟩) 1 c] 181)=W0:=⟨_,rfl⟩;obtain ⟨hX,hY,D0,F2⟩:=Q9u [.int .i64 1] [.slice (some ⟨a,0,none⟩) 1 c] _ _ M1;have HC:=Ua (fun W (hW:Bw W0 W)=>And.intro (hX.step hW (by omega)) (hY.step hW (by omega)));obtain ⟨t0,u0,rfl⟩:=hx.face;have VQ:=fun W (hW:Bw w W)=>Qub _ W (hx.step' hW) (hT.step hW);have H:=Xh5 ha hu VQ D0 trivial;have k0:=hX 0 _ rfl;have k1:=hY 0 _ rfl;clear ha hu hx hT hX hY D0 VQ
 go_enter Tryz.func135,Tryz.ntmps135
 go_wp2_with fail
 clear M1
 go_loopw [6,14] (fun s6 s14 wr=>OnR1 W0 s6 s14 wr) (fun _ iv _=>1-(intOf iv).toNat)
 case atStart=>exact ⟨Ud _ _,.inl ⟨rfl,rfl⟩⟩
 case round=>
  obtain ⟨Z0,⟨rfl,rfl⟩|⟨a1,n1,c1,ms,rfl,rfl,hm,ht,hr⟩⟩:=hrel
  ·have Jy:=Below.next0 (Xo3 H) Z0;have q0:=(Jy.cell (p:=⟨a,0,none⟩) (Xo0 H)).trans (Xo1 H);have hq:=HC.out wr Z0;have k0:=hq.1 0 _ rfl;have k1:=hq.2 0 _ rfl;have HR:=Ua Z0;have HK:=Ua ((Xo2 H) wr Jy);clear Z0 Jy hq
   go_wp2_with (go_at_call_of 85 (Value.agg #[.int .i64 1]);refine HK.out.mono ?_;rintro r w3 ⟨M0,a3,l3,c3,ms3,rfl,XV,y6,Zg⟩;(have hq:=HC.out w3 (Below.next0 HR.out M0));(have k0:=hq.1 0 _ rfl);(have k1:=hq.2 0 _ rfl);have H3:=Xh4 (Below.next0 HR.out M0) XV y6 Zg;clear M0 XV y6 Zg hq)
   exact ⟨⟨(Xo0 H3),.inr ⟨a3,l3,c3,ms3,rfl,rfl,(Xe1 H3)⟩⟩,by simp[intOf]⟩
  ·have HS:=Xh4 (Below.next0 (Xo3 H) Z0) hm ht hr;clear Z0 hm ht hr
   go_wp2_with fail
   exact ⟨rfl,.tuple #[.slice a1 n1 c1,.int .i64 0],by simp[results,go_sem],(Xo0 HS),a1,n1,c1,ms,rfl,(Xo1 HS),(Xo2 HS),(Xe3 HS)⟩
theorem Qrm [LT ZK] (v:Value) (w:World) (hx:Q3h (fun _=>False) w (.prod [.var 0]) v) (hT:Q3r w):
 Calls Tryz.prog 85 #[.agg #[.int .i64 1],v] w (Q39 w 1 (.ok pX)):=by
 rw[Q3h] at hx;obtain ⟨a,c,rfl,_,ha,hc,I1,C1,hx⟩:=hx;rw[Qdb] at hx;obtain ⟨⟨u,hu,hxu⟩,_⟩:=hx;simp only[Ul,UP,UH] at hc⊢;obtain ⟨W0,M1⟩:∃W0,(w.alloc (.cells #[.int .i64 1] 124)).alloc (.cells #[.slice (some ⟨a,0,none⟩) 1 c] 181)=W0:=⟨_,rfl⟩;obtain ⟨hX,hY,D0,_⟩:=Q9u [.int .i64 1] [.slice (some ⟨a,0,none⟩) 1 c] _ _ M1;have t8:=fun V (hV:Bw w V)=>Qrl a c V (Uc ha hV.size) hc u ((hV.cell (p:=⟨a,0,none⟩) ha).trans hu) (hxu.step' hV) (hT.step hV);have k0:=hX 0 _ rfl;have k1:=hY 0 _ rfl;have u7:=t8 W0 D0;subst M1;have H:=Xh2 u7 D0;clear u7 D0 hT hX hY hxu hu t8 C1 ha hc;have t1:=Qnk;have t2:=Qac;have t3:=Q8o;have t4:=Qdf
 go_enter Tryz.func85,Tryz.ntmps85
 go_wp2_with (go_at_call_of 135 (Value.agg #[.int .i64 1]);refine (Xo0 H).mono ?_;rintro r w5 ⟨P0,a5,l5,c5,ms5,rfl,h5⟩;have H5:=Xh2 (Below.next0 (Xe1 H) P0) h5;clear P0 h5)
 exact ⟨rfl,.tuple #[.slice a5 l5 c5,.int .i64 0],by simp[results,go_sem],(Xo0 H5),a5,l5,c5,ms5,rfl,(Xe1 H5)⟩
theorem Qz3 [LT ZK] (a b c d:Nat) (w:World) (ha:a<w.heap.size) (Y3:1<=c) (u:Value) (hu:w.cell? ⟨a,0,none⟩=some u) (hx:Q3h (fun _=>False) w (.prod [.var 0]) u) (hb:b<w.heap.size) (hv:w.cell? ⟨b,0,none⟩=some (.bool false)) (hT:Q3r w):
 Calls Tryz.prog 134 #[.agg #[.int .i64 1],.agg #[.slice (some ⟨a,0,none⟩) 1 c,.slice (some ⟨b,0,none⟩) 1 d]] w (Q39 w 1 (.ok pX)):=by
 obtain ⟨W0,M1⟩:∃W0,(w.alloc (.cells #[.int .i64 1] 124)).alloc (.cells #[.slice (some ⟨a,0,none⟩) 1 c,.slice (some ⟨b,0,none⟩) 1 d] 178)=W0:=⟨_,rfl⟩;obtain ⟨hX,hY,D0,F2⟩:=Q9u [.int .i64 1] [.slice (some ⟨a,0,none⟩) 1 c,.slice (some ⟨b,0,none⟩) 1 d] _ _ M1;have HC:=Ua (fun W (hW:Bw W0 W)=>And.intro (hX.step hW (by omega)) (hY.step hW (by omega)));obtain ⟨t0,u0,rfl⟩:=hx.face;have VQ:=fun W (hW:Bw w W)=>Qrm _ W (hx.step' hW) (hT.step hW);have H:=Xh6 ha hu VQ D0 hb hv;have k0:=hX 0 _ rfl;have k1:=hY 0 _ rfl;have k2:=hY 1 _ rfl;clear ha hu hx hT hX hY D0 VQ hb hv
 go_enter Tryz.func134,Tryz.ntmps134
 go_wp2_with fail
 clear M1
 go_loopw [6,14] (fun s6 s14 wr=>OnR1 W0 s6 s14 wr) (fun _ iv _=>1-(intOf iv).toNat)
 case atStart=>exact ⟨Ud _ _,.inl ⟨rfl,rfl⟩⟩
 case round=>
  obtain ⟨Z0,⟨rfl,rfl⟩|⟨a1,n1,c1,ms,rfl,rfl,hm,ht,hr⟩⟩:=hrel
  ·have Jy:=Below.next0 (Xo3 H) Z0;have q0:=(Jy.cell (p:=⟨a,0,none⟩) (Xo0 H)).trans (Xo1 H);have hq:=HC.out wr Z0;have k0:=hq.1 0 _ rfl;have k1:=hq.2 0 _ rfl;have k2:=hq.2 1 _ rfl;have q1:=(Jy.cell (p:=⟨b,0,none⟩) (Xo4 H)).trans (Xe5 H);have HR:=Ua Z0;have HK:=Ua ((Xo2 H) wr Jy);clear Z0 Jy hq
   go_wp2_with (go_at_call_of 85 (Value.agg #[.int .i64 1]);refine HK.out.mono ?_;rintro r w3 ⟨M0,a3,l3,c3,ms3,rfl,XV,y6,Zg⟩;(have hq:=HC.out w3 (Below.next0 HR.out M0));(have k0:=hq.1 0 _ rfl);(have k1:=hq.2 0 _ rfl);(have k2:=hq.2 1 _ rfl);(have q1:=(M0.cell (p:=⟨b,0,none⟩) (Uz q1)).trans q1);have H3:=Xh4 (Below.next0 HR.out M0) XV y6 Zg;clear M0 XV y6 Zg hq)
   exact ⟨⟨(Xo0 H3),.inr ⟨a3,l3,c3,ms3,rfl,rfl,(Xe1 H3)⟩⟩,by simp[intOf]⟩
  ·have HS:=Xh4 (Below.next0 (Xo3 H) Z0) hm ht hr;clear Z0 hm ht hr
   go_wp2_with fail
   exact ⟨rfl,.tuple #[.slice a1 n1 c1,.int .i64 0],by simp[results,go_sem],(Xo0 HS),a1,n1,c1,ms,rfl,(Xo1 HS),(Xo2 HS),(Xe3 HS)⟩
theorem Quc [LT ZK] (v:Value) (w:World) (hx:Q3h (fun _=>False) w (exX) v) (hT:Q3r w):
 Calls Tryz.prog 85 #[.agg #[.int .i64 1],v] w (Q39 w 1 (.ok pX)):=by
 unfold exX at hx;rw[Q3h] at hx;obtain ⟨a,b,c,d,rfl,_,_,ha,hb,hc,_,_,_,C1,hx⟩:=hx;rw[Qe5] at hx;obtain ⟨⟨u,hu,hxu⟩,hv,_⟩:=hx;simp only[Ul,UP,UH] at hc⊢;obtain ⟨W0,M1⟩:∃W0,(w.alloc (.cells #[.int .i64 1] 124)).alloc (.cells #[.slice (some ⟨a,0,none⟩) 1 c,.slice (some ⟨b,0,none⟩) 1 d] 178)=W0:=⟨_,rfl⟩;obtain ⟨hX,hY,D0,_⟩:=Q9u [.int .i64 1] [.slice (some ⟨a,0,none⟩) 1 c,.slice (some ⟨b,0,none⟩) 1 d] _ _ M1;have t8:=fun V (hV:Bw w V)=>Qz3 a b c d V (Uc ha hV.size) hc u ((hV.cell (p:=⟨a,0,none⟩) ha).trans hu) (hxu.step' hV) (Uc hb hV.size) ((hV.cell (p:=⟨b,0,none⟩) hb).trans hv) (hT.step hV);have k0:=hX 0 _ rfl;have k1:=hY 0 _ rfl;have k2:=hY 1 _ rfl;have u7:=t8 W0 D0;subst M1;have H:=Xh2 u7 D0;clear u7 D0 hT hX hY hxu hu t8 C1 ha hb hv hc;have t1:=Qxu;have t2:=Qfk;have t3:=Qcj
 go_enter Tryz.func85,Tryz.ntmps85
 go_wp2_with (go_at_call_of 134 (Value.agg #[.int .i64 1]);refine (Xo0 H).mono ?_;rintro r w5 ⟨P0,a5,l5,c5,ms5,rfl,h5⟩;have H5:=Xh2 (Below.next0 (Xe1 H) P0) h5;clear P0 h5)
 exact ⟨rfl,.tuple #[.slice a5 l5 c5,.int .i64 0],by simp[results,go_sem],(Xo0 H5),a5,l5,c5,ms5,rfl,(Xe1 H5)⟩
def Qz4 [LT ZK] (W:World) (s8 s24:Value) (wr:World):Prop:=Bw W wr/\((s8=.slice none 0 0/\s24=.int .i64 0)∨
 ∃g c p n d ms,s8=.slice (some ⟨g,0,none⟩) 1 c/\s24=.int .i64 1/\W.heap.size<=g/\g<wr.heap.size/\1<=c/\c<=maxLen/\wr.cell? ⟨g,0,none⟩=some (.slice p n d)/\Q0k wr p n d ms/\ms.map Q01.term=pX/\Q38 1 ms)
theorem Qwl [LT ZK] (s:ByteArray) (w:World) (hX:IsX s) (hT:Q3r w):
 Calls Tryz.prog 49 #[.string s] w fun e w'=>∃g c ms,e=.returned (.tuple #[.slice (some ⟨g,0,none⟩) 1 c,.int .i64 0,.int .i64 0])/\Q1a w' (some ⟨g,0,none⟩) 1 c [ms]/\ms.map Q01.term=pX/\Q1u [ms]/\w.heap.size<=g/\Bw w w':=by
 obtain ⟨i0,S2,E2,O1,Y1⟩:=Q0z Qea;have H:=Xh2 (Qwk s w hX) hT;have HI:=Xh4 S2 E2 O1 Y1;clear S2 E2 O1 Y1 hX hT
 go_enter Tryz.func49,Tryz.ntmps49
 go_wp2_with (go_at_call_of 84 (Value.string s);refine (Xo0 H).mono ?_;rintro r w1 ⟨g1,c1,rfl,C0,C6⟩;have H1:=Xh2 C0 C6;clear C0 C6)
 rename World=>wl
 go_loopw [8,24] (fun s8 s24 wr=>Qz4 wl s8 s24 wr) (fun _ iv _=>1-(intOf iv).toNat)
 case atStart=>exact ⟨Ud _ _,.inl ⟨rfl,rfl⟩⟩
 case round=>
  obtain ⟨Z0,⟨rfl,rfl⟩|⟨g,c,p,n,d,ms,rfl,rfl,hg,Q2,J1,I1,F1,hm,ht,hr⟩⟩:=hrel
  ·have hl:=(Xe1 H1).step Z0;obtain ⟨u,q1,hu⟩:=hl.x;have q0:=hl.at_;obtain ⟨t0,u0,rfl⟩:=hu.face;have C3:Bw wr (wr.alloc (.cells #[.int .i64 0,.iface t0 u0] 121)):=Ba;have hh:=Up wr (.cells #[.int .i64 0,.iface t0 u0] 121);have m0:(wr.alloc (.cells #[.int .i64 0,.iface t0 u0] 121)).cell? ⟨wr.heap.size,0,none⟩=some (.int .i64 0):=(by rw[UL _ _ _ _ _ _ hh];rfl);have m1:(wr.alloc (.cells #[.int .i64 0,.iface t0 u0] 121)).cell? ⟨wr.heap.size,1,none⟩=some (.iface t0 u0):=(by rw[UL _ _ _ _ _ _ hh];rfl);have A2:=Below.next0 Z0 C3;have t8:=Quc _ _ (hu.step' C3) ((Xe1 H).step (Below.next0 (Xo0 H1) A2));have HR:=Xh2 t8 A2;clear Z0 hl hu C3 hh A2 t8
   go_upto_region 11 with (go_at_call_of 85 (Value.agg #[.int .i64 1]);refine (Xo0 HR).mono ?_;rintro r w3 ⟨M0,a3,l3,c3,ms3,rfl,XV,y6,Zg⟩;have H3:=Xh4 (Below.next0 (Xe1 HR) M0) XV y6 Zg;clear M0 XV y6 Zg)
   obtain ⟨S2,E2,O1,Y1⟩:=HI.out;have hsz3:=(Xo0 H3).size
   go_wp2_with (at_builtin;refine Q0q rfl (.tmp 42) (.tmp 44) 22 rfl _ _ 42 i0 _ 1 24 Tryz.underlying22 S2 E2 O1 Y1 rfl (by decide) wl.heap.size (Ud _ _) (by rw[Ur];omega) none 0 0 [] rfl (Row.nil_ _ _ _ _) ⟨w3.heap.size,0,none⟩ 1 1 [.slice a3 l3 c3] rfl rfl (Tz (cs:= #[.slice a3 l3 c3]) (Up w3 _)) (by simp[Value.oneCell']) 1 rfl (by omega) (by omega) ?_;intro a5 c5 w5 ho5 YD P0 VN;have HO:=Xh4 ho5 P0 YD VN;clear ho5 YD P0 VN)
   have JI:Bw w3 w5:=((Ud w3.heap.size w3).alloc (Ue _) _).grown (Xo2 HO) (by simp) (by intro k hk;simp at hk);have K0:=(Xo0 HO);rcases K0.form with ⟨_,h0,_⟩|⟨g,cur,rfl,O5,Q2,_,J1,I1,_⟩
   ·cases h0
   obtain ⟨g0,e0,_,_,M7⟩:=K0.at_ (show [Value.slice a3 l3 c3][0]?=some (.slice a3 l3 c3) from rfl);cases e0;exact ⟨⟨Below.next0 (Xo0 H3) JI,.inr ⟨g,c5,a3,l3,c3,ms3,rfl,rfl,O5,Q2,J1,I1,M7,(Xo1 H3).step JI,(Xe2 H3)⟩⟩,by simp[intOf]⟩
  ·have hf:Q1a wr (some ⟨g,0,none⟩) 1 c [ms]:=⟨rfl,J1,Uj I1 Qqp,.inr ⟨g,0,rfl,Q2,fun j x hx=>by
    cases j with
    |zero=>injection hx with hx;subst hx;exact ⟨p,n,d,F1,hm⟩
    |succ j=>cases hx⟩⟩
   have HS:=Xh5 Z0 hf ht hr hg;clear Z0 hg Q2 J1 I1 F1 hm ht hr hf
   go_wp2_with fail
   exact ⟨rfl,.tuple #[.slice (some ⟨g,0,none⟩) 1 c,.int .i64 0,.int .i64 0],by simp[results,go_sem],g,c,ms,rfl,(Xo1 HS),(Xo2 HS),⟨Ue _,show 1<=4 by decide,fun x hx=>by rw[Uy] at hx;subst hx;exact (Xo3 HS)⟩,Uj (Xo0 H1).size (Xe4 HS),Below.next0 (Xo0 H1) (Xo0 HS)⟩
end Go.Proofs.YtidojbkhlenahaaGreatDoor
