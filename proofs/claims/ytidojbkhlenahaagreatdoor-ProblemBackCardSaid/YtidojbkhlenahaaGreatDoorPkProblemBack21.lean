/- Part 21. No condition. -/
import Derived.Test.YtidojbkhlenahaaGreatDoorCards
import Derived.Test.YtidojbkhlenahaaGreatDoorTie
import Derived.ProofKit
import Derived.OpenShut
import Derived.Deep.DeepHandedRow
import Derived.Lib.LaidTab
import Derived.Stop.LaidErr
import Derived.Shelf.Vars
import Derived.Lay
import Derived.Deep.Matrix
import Derived.Test.YtidojbkhlenahaaGreatDoorPkProblemBack20
set_option maxRecDepth 100000
set_option maxHeartbeats 16000000
namespace Go.Proofs.YtidojbkhlenahaaGreatDoor
open Go.RowKit WordsM DecM
theorem Qoo {w:World} {a:OA} {n c:Nat} {F:List (List Q01)} (h:Q1g w a n c F) {ms:List Q01} (hm:ms∈F):∃p l d,Q08 w p l d ms:=by
 obtain ⟨h1,h2,h3,h0|⟨b,o,_,_,hF⟩⟩:=h
 ·rw[h0] at hm;cases hm
 obtain ⟨i,hi⟩:=UV.1 hm;obtain ⟨p,l,d,_,hM⟩:=hF i ms hi;exact ⟨p,l,d,hM⟩
theorem J17 {w:World} {p:OA} {l d:Nat} {ms:List Q01} (h:Q08 w p l d ms) {m:Q01} (hm:m∈ms):Low (2^64) m.ws:=by
 obtain ⟨_,_,_,h0|⟨b2,o2,_,_,hM⟩⟩:=h
 ·rw[h0] at hm;cases hm
 obtain ⟨j,hj⟩:=UV.1 hm;obtain ⟨_,_,_,_,_,_,_,_,_,_,hw,_⟩:=hM j m hj;exact hw.low
theorem Quu {w:World} {a:OA} {n c:Nat} {F:List (List Q01)} (h:Q1g w a n c F) (hR:Q2j F):Qs5 (Q13 F):=by
 obtain ⟨h1,h4,hr⟩:=hR;have hl:(Q13 F).length=F.length:=by unfold Q13;exact UK ..
 refine ⟨by omega,by omega,fun P hP=>?_⟩;unfold Q13 at hP;obtain ⟨ms,N6,rfl⟩:=To.1 hP;obtain ⟨p,l,d,hM⟩:=Qoo h N6;rw[hl];exact (hr ms N6).plain hM
theorem Qx7 {k j:Nat} {m m':Q01} (h:OkM k m) (h':OkM j m') (l:Low (2^64) m.ws) (l':Low (2^64) m'.ws) (e:m.term=m'.term):m=m':=by
 have e1:Q1p m.neg m.exp m.ws=Q1p m'.neg m'.exp m'.ws:=congrArg Prod.fst e;have e2:m.es=m'.es:=congrArg Prod.snd e;obtain ⟨h1,h2,h3⟩:=Ql7 h.1.2 l h'.1.2 l' e1;cases m;cases m';simp only at h1 h2 h3 e2;rw[h1,h2,h3,e2]
theorem Qki {k j:Nat}:∀{ms ms':List Q01},(∀m∈ms,OkM k m/\Low (2^64) m.ws)->(∀m∈ms',OkM j m/\Low (2^64) m.ws)->ms.map Q01.term=ms'.map Q01.term->ms=ms'
 |[],[],_,_,_=>rfl
 |[],_::_,_,_,h=>by simp at h
 |_::_,[],_,_,h=>by simp at h
 |m::r,m'::r',h1,h2,h=>by
  simp only[Xah,List.cons.injEq] at h;rw[Qx7 (h1 m (by simp)).1 (h2 m' (by simp)).1 (h1 m (by simp)).2 (h2 m' (by simp)).2 h.1,Qki (fun x hx=>h1 x (by simp[hx])) (fun x hx=>h2 x (by simp[hx])) h.2]
theorem Qkj {k j:Nat}:∀{F G:List (List Q01)},(∀ms∈F,∀m∈ms,OkM k m/\Low (2^64) m.ws)->(∀ms∈G,∀m∈ms,OkM j m/\Low (2^64) m.ws)->Q13 F=Q13 G->F=G
 |[],[],_,_,_=>rfl
 |[],_::_,_,_,h=>by simp[Q13] at h
 |_::_,[],_,_,h=>by simp[Q13] at h
 |m::r,m'::r',h1,h2,h=>by
  simp only[Q13,Xah,List.cons.injEq] at h;rw[Qki (h1 m (by simp)) (h2 m' (by simp)) h.1,Qkj (fun x hx=>h1 x (by simp[hx])) (fun x hx=>h2 x (by simp[hx])) h.2]
theorem Qop {w:World} {a:OA} {n c:Nat} {F:List (List Q01)} (h:Q1g w a n c F) (hR:Q2j F):∀ms∈F,∀m∈ms,OkM F.length m/\Low (2^64) m.ws:=fun ms N6 m hm=>by
 obtain ⟨p,l,d,hM⟩:=Qoo h N6;exact ⟨(hR.2.2 ms N6).2.2.2.1 m hm,J17 hM hm⟩
theorem Qkk {w:World} {a:OA} {n c:Nat} {F:List (List Q01)} (h:Q1g w a n c F) (hR:Q2j F):∀ms∈F,∀m∈ms,m.es≠[]:=fun ms N6 m hm e=>by
 have h1:=(Qop h hR ms N6 m hm).1.1.1.1;have h2:=hR.1;rw[e] at h1;simp at h1;omega
theorem Quv {P:Program} {K:Value->World->Prop} {w:World} {f:FuncId} {args:Array Value} {res:Result Next} (hr:res=.ok (.enter f args) w) (h:Calls P f args w fun e w''=>∃v,e=.returned v/\K v w''):Q0n P K res:=by rw[hr];exact h
theorem Q6t {x:Q47} {a:OA} {l c:Nat} {w:World} (h:Q0m w a l c x) (hi:x.ok) (hP:Qe1 w) {t:LU} (ht:dyT x.val=t):
 Calls Tryz.prog 38 #[.agg #[.bool x.neg,.int .i64 x.exp,.slice a l c]] w fun r w'=>r=.returned (.string ⟨t.toArray⟩)/\Bw w w':=by subst ht;exact Qmt x a l c w h hi hP
theorem Qb4 {n:Int} {w:World} (h0:0<=n) (h1:n<=5000) (hP:Qe1 w) {t:LU} (ht:dec n.toNat=t):
 Calls Tryz.prog 37 #[.int .i64 n] w fun r w'=>r=.returned (.string ⟨t.toArray⟩)/\Bw w w':=by subst ht;exact Qmu n w h0 h1 hP
def Q52.prob (x:Q52):Qam:=⟨Q13 x.field,x.box.map fun b=>(b.lo.val,b.hi.val),x.til.val,x.most.val,x.least.val,x.prec.toNat,x.order.toNat,x.budget.toNat⟩
structure Qzm (L0 L1 L2 L3 L4 L5 L6 sp so sb st sm se:LU):Prop where
 eq0:L0++Q2x Qd3 sp=L1
 eq1:L1++Q2x Q7m so=L2
 eq2:L2++Q2x Q5d sb=L3
 eq3:L3++Q2x Q7n st=L4
 eq4:L4++Q2x Qeq sm=L5
 eq5:L5++Q2x Q8h se=L6
 len0:L0.length+Qd3.length+sp.length<=100000000
 len1:L1.length+Q7m.length+so.length<=100000000
 len2:L2.length+Q5d.length+sb.length<=100000000
 len3:L3.length+Q7n.length+st.length<=100000000
 len4:L4.length+Qeq.length+sm.length<=100000000
 len5:L5.length+Q8h.length+se.length<=100000000
 all:L6.length<=10000
theorem J18 {sp so sb st sm se:LU} (h1:sp.length<=4) (h2:so.length<=4) (h3:sb.length<=4) (h4:st.length<=1401) (h5:sm.length<=1401) (h6:se.length<=1401):∃L1 L2 L3 L4 L5 L6,Qzm [] L1 L2 L3 L4 L5 L6 sp so sb st sm se:=by
 have e1:Qd3.length=4:=rfl;have e2:Q7m.length=5:=rfl;have e3:Q5d.length=6:=rfl;have e4:Q7n.length=5:=rfl;have e5:Qeq.length=4:=rfl;have e6:Q8h.length=5:=rfl;refine ⟨_,_,_,_,_,_,rfl,rfl,rfl,rfl,rfl,rfl,?_,?_,?_,?_,?_,?_,?_⟩ <;> simp only[Uh,TW,Q8c] <;> omega
theorem Qzm.text {L1 L2 L3 L4 L5 L6 sp so sb st sm se r:LU} (h:Qzm [] L1 L2 L3 L4 L5 L6 sp so sb st sm se):L6++r=Q2x Qd3 sp++(Q2x Q7m so++(Q2x Q5d sb++(Q2x Q7n st++(Q2x Qeq sm++(Q2x Q8h se++r))))):=by
 rw[<-h.eq5,<-h.eq4,<-h.eq3,<-h.eq2,<-h.eq1,<-h.eq0];simp only[Ty,Tb]
theorem Qkl (b:Dyadic × Dyadic):∀l,Qbp (l++[b])=Qbp l++Q2x Qku (dyT b.1++32::dyT b.2)
 |[]=>by simp[Qbp]
 |c::r=>by rw[Tt,Qbp,Qbp,Qkl b r,Tb]
theorem Qaa:∀(l:List (Dyadic × Dyadic)),(∀b∈l,(dyT b.1).length<=1401/\(dyT b.2).length<=1401)->(Qbp l).length<=l.length*2810
 |[],_=>by simp[Qbp]
 |b::r,h=>by
  have h1:=Qaa r fun x hx=>h x (TH _ hx);have h2:=h b (TO ..);have e:Qku.length=3:=rfl;rw[Qbp,Uh,Q8c,Uh,Ur,Ur];omega
def J19 (w1:World) (L:LU) (bl:Nat) (bx:List (Dyadic × Dyadic)) (s:Value) (wr:World):Prop:=∃i:Nat,s=.int .i64 (i:Int)/\i<=bl/\Q66 w1.heap.size w1.heap.size (L++Qbp (bx.take i)) wr/\Bw w1 wr
theorem Qbh (p:Qt5) (x:Q52) (w:World) (h:Q3x w p x) (hR:Q3c x) (hT:Q1s w) (hP:Qe1 w):
 Calls Tryz.prog 13 #[.agg (Q57 p x).toArray] w fun r w'=>r=.returned (sv (Qan x.prob))/\Bw w w':=by
 obtain ⟨⟨fa,fl,fc⟩,⟨ba,bl,bc⟩,⟨ta,tl,tc⟩,⟨ma,ml,mc⟩,⟨ea,el,ec⟩⟩:=p;obtain ⟨F,B,⟨tn,te,ts⟩,⟨mn,me,ms⟩,⟨en,ee,es⟩,prec,order,budget⟩:=x;have U4:B.length=bl:=h.b.1;have J3:=Un h.b.2.1 h.b.2.2.1;simp only at J3;have nt:=Q2l h.t hR.til.1;have nm:=Q2l h.m hR.most.1;have ne:=Q2l h.e hR.least.1;have rp:=hR.prec;have ro:=hR.order;have rb:=hR.budget;simp only at rp ro rb;obtain ⟨sp,Ya⟩:∃t,dec prec.toNat=t:=⟨_,rfl⟩;obtain ⟨so,hso⟩:∃t,dec order.toNat=t:=⟨_,rfl⟩;obtain ⟨sb,hsb⟩:∃t,dec budget.toNat=t:=⟨_,rfl⟩;obtain ⟨st,P0⟩:∃t,dyT (Q47.val ⟨tn,te,ts⟩)=t:=⟨_,rfl⟩;obtain ⟨sm,u7⟩:∃t,dyT (Q47.val ⟨mn,me,ms⟩)=t:=⟨_,rfl⟩;obtain ⟨se,P9⟩:∃t,dyT (Q47.val ⟨en,ee,es⟩)=t:=⟨_,rfl⟩;obtain ⟨L1,L2,L3,L4,L5,L6,hL⟩:=J18 (sp:=sp) (so:=so) (sb:=sb) (st:=st) (sm:=sm) (se:=se) (by rw[<-Ya];exact Q49 (by omega)) (by rw[<-hso];exact Q49 (by omega)) (by rw[<-hsb];exact Q49 (by omega)) (by rw[<-P0];exact nt.2) (by rw[<-u7];exact nm.2) (by rw[<-P9];exact ne.2);obtain ⟨Y,hY⟩:∃t,Qan (Q52.prob ⟨F,B,⟨tn,te,ts⟩,⟨mn,me,ms⟩,⟨en,ee,es⟩,prec,order,budget⟩)=t:=⟨_,rfl⟩;have hYL:L6++(Qbp (B.map fun b=>(b.lo.val,b.hi.val))++Q18 0 (Q13 F))=Y:=by rw[hL.text,<-hY,<-Ya,<-hso,<-hsb,<-P0,<-u7,<-P9];rfl
 rw[hY];have HL:=Ub hL;have HY:=Ub hYL;clear nt nm ne hY hYL hL;have hC:=Q3w.new w (Q57 ⟨⟨fa,fl,fc⟩,⟨ba,bl,bc⟩,⟨ta,tl,tc⟩,⟨ma,ml,mc⟩,⟨ea,el,ec⟩⟩ ⟨F,B,⟨tn,te,ts⟩,⟨mn,me,ms⟩,⟨en,ee,es⟩,prec,order,budget⟩) 28;have X1:Bw w (w.alloc (.cells (Q57 ⟨⟨fa,fl,fc⟩,⟨ba,bl,bc⟩,⟨ta,tl,tc⟩,⟨ma,ml,mc⟩,⟨ea,el,ec⟩⟩ ⟨F,B,⟨tn,te,ts⟩,⟨mn,me,ms⟩,⟨en,ee,es⟩,prec,order,budget⟩).toArray 28)):=Ba;have E0:=Q0h w (.cells (Q57 ⟨⟨fa,fl,fc⟩,⟨ba,bl,bc⟩,⟨ta,tl,tc⟩,⟨ma,ml,mc⟩,⟨ea,el,ec⟩⟩ ⟨F,B,⟨tn,te,ts⟩,⟨mn,me,ms⟩,⟨en,ee,es⟩,prec,order,budget⟩).toArray 28);have u4:=fun V (hV:Bw w V)=>Q71 _ _ V (h.step hV);simp only[Q57] at hC X1 E0 u4⊢;obtain ⟨W0,R1⟩:∃W0,w.alloc (.cells #[.slice fa fl fc,.slice ba bl bc,.bool tn,.int .i64 te,.slice ta tl tc,.bool mn,.int .i64 me,.slice ma ml mc,.bool en,.int .i64 ee,.slice ea el ec,.int .i64 prec,.int .i64 order,.int .i64 budget] 28)=W0:=⟨_,rfl⟩;rw[R1] at hC X1 E0;have HC:=Ub (fun V (hV:Bw W0 V)=>have hb:=Below.next0 X1 hV;have hh:=h.step hb;have WP:=hP.step hb;And.intro (hC.step hV E0) (And.intro (Qb4 (n:=prec) (by omega) (by omega) WP Ya) (And.intro (Qb4 (n:=order) (by omega) (by omega) WP hso) (And.intro (Qb4 (n:=budget) (by omega) (by omega) WP hsb) (And.intro (Q6t (x:=⟨tn,te,ts⟩) hh.t hR.til.1 WP P0) (And.intro (Q6t (x:=⟨mn,me,ms⟩) hh.m hR.most.1 WP u7) (And.intro (Q6t (x:=⟨en,ee,es⟩) hh.e hR.least.1 WP P9) (And.intro hh (And.intro WP (hT.step hb))))))))));have I2:=yn1 (u4 W0 X1) (Q4e.2 hR);have HR:=Xh3 I2 hR X1;obtain ⟨k0,k1,k2,k3,k4,k5,k6,k7,k8,k9,k10,k11,k12,k13⟩:=Q0c hC;clear hC X1 E0 h u4 I2 hR hT hP Ya hso hsb P0 u7 P9
 go_enter Tryz.func13,Tryz.ntmps13
 go_upto_region 1 with fail
 clear R1
 go_upto_region 5 with (go_at_call 9;refine (Xo0 HR).mono ?_;rintro r w1 ⟨rfl,hb⟩;have H1:=Ub hb;clear hb)
 have O4:Bw w1 (w1.alloc (.cells #[.pointer none,.slice none 0 0] 57)):=Ba;have Ku:=Q66.new w1.heap.size w1 (Ue _);have H2:=Xh2 O4 Ku;have hq:=(HC.out _ (Below.next0 H1.out O4)).1;obtain ⟨k0,k1,k2,k3,k4,k5,k6,k7,k8,k9,k10,k11,k12,k13⟩:=Q0c hq;clear O4 Ku hq;generalize w1.alloc (.cells #[.pointer none,.slice none 0 0] 57)=w2 at*;obtain ⟨bx,K2⟩:∃l,(B.map fun b=>(b.lo.val,b.hi.val))=l:=⟨_,rfl⟩;have U7:bx.length=bl:=by rw[<-K2,UK,U4]
 rw[K2] at HY;have HX:=Xh2 K2 U7;clear K2 U7
 go_wp2_with (first
  |(go_at_call_of 34 (Value.slice (some ⟨w13.heap.size,0,none⟩) 2 2);refine (J01 w1.heap.size L5 Q8h se w13 (Xe1 H13) (Xo0 H13).size HL.out.len5).mono ?_;rintro r w14 ⟨rfl,A7,hb⟩;rw[HL.out.eq5] at A7;have H14:=Xh2 ((Xo0 H13).trans hb) A7;have hq:=(HC.out w14 (Below.next0 H1.out (Xo0 H14))).1;obtain ⟨k0,k1,k2,k3,k4,k5,k6,k7,k8,k9,k10,k11,k12,k13⟩:=Q0c hq;clear hq hb;clear A7)
  |(go_at_call_of 38 (Value.agg #[.bool en,.int .i64 ee,.slice ea el ec]);refine ((HC.out w12 (Below.next0 H1.out (Xo0 H12))).2.2.2.2.2.2.1).mono ?_;rintro r w13 ⟨rfl,hb⟩;have H13:=Xh2 (Below.next0 (Xo0 H12) hb) ((Xe1 H12).call hb);have hq:=(HC.out w13 (Below.next0 H1.out (Xo0 H13))).1;obtain ⟨k0,k1,k2,k3,k4,k5,k6,k7,k8,k9,k10,k11,k12,k13⟩:=Q0c hq;clear hq hb)
  |(go_at_call_of 34 (Value.slice (some ⟨w11.heap.size,0,none⟩) 2 2);refine (J01 w1.heap.size L4 Qeq sm w11 (Xe1 H11) (Xo0 H11).size HL.out.len4).mono ?_;rintro r w12 ⟨rfl,A7,hb⟩;rw[HL.out.eq4] at A7;have H12:=Xh2 ((Xo0 H11).trans hb) A7;have hq:=(HC.out w12 (Below.next0 H1.out (Xo0 H12))).1;obtain ⟨k0,k1,k2,k3,k4,k5,k6,k7,k8,k9,k10,k11,k12,k13⟩:=Q0c hq;clear hq hb;clear A7)
  |(go_at_call_of 38 (Value.agg #[.bool mn,.int .i64 me,.slice ma ml mc]);refine ((HC.out w10 (Below.next0 H1.out (Xo0 H10))).2.2.2.2.2.1).mono ?_;rintro r w11 ⟨rfl,hb⟩;have H11:=Xh2 (Below.next0 (Xo0 H10) hb) ((Xe1 H10).call hb);have hq:=(HC.out w11 (Below.next0 H1.out (Xo0 H11))).1;obtain ⟨k0,k1,k2,k3,k4,k5,k6,k7,k8,k9,k10,k11,k12,k13⟩:=Q0c hq;clear hq hb)
  |(go_at_call_of 34 (Value.slice (some ⟨w9.heap.size,0,none⟩) 2 2);refine (J01 w1.heap.size L3 Q7n st w9 (Xe1 H9) (Xo0 H9).size HL.out.len3).mono ?_;rintro r w10 ⟨rfl,A7,hb⟩;rw[HL.out.eq3] at A7;have H10:=Xh2 ((Xo0 H9).trans hb) A7;have hq:=(HC.out w10 (Below.next0 H1.out (Xo0 H10))).1;obtain ⟨k0,k1,k2,k3,k4,k5,k6,k7,k8,k9,k10,k11,k12,k13⟩:=Q0c hq;clear hq hb;clear A7)
  |(go_at_call_of 38 (Value.agg #[.bool tn,.int .i64 te,.slice ta tl tc]);refine ((HC.out w8 (Below.next0 H1.out (Xo0 H8))).2.2.2.2.1).mono ?_;rintro r w9 ⟨rfl,hb⟩;have H9:=Xh2 (Below.next0 (Xo0 H8) hb) ((Xe1 H8).call hb);have hq:=(HC.out w9 (Below.next0 H1.out (Xo0 H9))).1;obtain ⟨k0,k1,k2,k3,k4,k5,k6,k7,k8,k9,k10,k11,k12,k13⟩:=Q0c hq;clear hq hb)
  |(go_at_call_of 34 (Value.slice (some ⟨w7.heap.size,0,none⟩) 2 2);refine (J01 w1.heap.size L2 Q5d sb w7 (Xe1 H7) (Xo0 H7).size HL.out.len2).mono ?_;rintro r w8 ⟨rfl,A7,hb⟩;rw[HL.out.eq2] at A7;have H8:=Xh2 ((Xo0 H7).trans hb) A7;have hq:=(HC.out w8 (Below.next0 H1.out (Xo0 H8))).1;obtain ⟨k0,k1,k2,k3,k4,k5,k6,k7,k8,k9,k10,k11,k12,k13⟩:=Q0c hq;clear hq hb;clear A7)
  |(go_at_call_of 37 (Value.int .i64 budget);refine ((HC.out w6 (Below.next0 H1.out (Xo0 H6))).2.2.2.1).mono ?_;rintro r w7 ⟨rfl,hb⟩;have H7:=Xh2 (Below.next0 (Xo0 H6) hb) ((Xe1 H6).call hb);have hq:=(HC.out w7 (Below.next0 H1.out (Xo0 H7))).1;obtain ⟨k0,k1,k2,k3,k4,k5,k6,k7,k8,k9,k10,k11,k12,k13⟩:=Q0c hq;clear hq hb)
  |(go_at_call_of 34 (Value.slice (some ⟨w5.heap.size,0,none⟩) 2 2);refine (J01 w1.heap.size L1 Q7m so w5 (Xe1 H5) (Xo0 H5).size HL.out.len1).mono ?_;rintro r w6 ⟨rfl,A7,hb⟩;rw[HL.out.eq1] at A7;have H6:=Xh2 ((Xo0 H5).trans hb) A7;have hq:=(HC.out w6 (Below.next0 H1.out (Xo0 H6))).1;obtain ⟨k0,k1,k2,k3,k4,k5,k6,k7,k8,k9,k10,k11,k12,k13⟩:=Q0c hq;clear hq hb;clear A7)
  |(go_at_call_of 37 (Value.int .i64 order);refine ((HC.out w4 (Below.next0 H1.out (Xo0 H4))).2.2.1).mono ?_;rintro r w5 ⟨rfl,hb⟩;have H5:=Xh2 (Below.next0 (Xo0 H4) hb) ((Xe1 H4).call hb);have hq:=(HC.out w5 (Below.next0 H1.out (Xo0 H5))).1;obtain ⟨k0,k1,k2,k3,k4,k5,k6,k7,k8,k9,k10,k11,k12,k13⟩:=Q0c hq;clear hq hb)
  |(go_at_call_of 34 (Value.slice (some ⟨w3.heap.size,0,none⟩) 2 2);refine (J01 w1.heap.size [] Qd3 sp w3 (Xe1 H3) (Xo0 H3).size HL.out.len0).mono ?_;rintro r w4 ⟨rfl,A7,hb⟩;rw[HL.out.eq0] at A7;have H4:=Xh2 ((Xo0 H3).trans hb) A7;have hq:=(HC.out w4 (Below.next0 H1.out (Xo0 H4))).1;obtain ⟨k0,k1,k2,k3,k4,k5,k6,k7,k8,k9,k10,k11,k12,k13⟩:=Q0c hq;clear hq hb;clear A7)
  |(go_at_call_of 37 (Value.int .i64 prec);refine ((HC.out w2 (Below.next0 H1.out (Xo0 H2))).2.1).mono ?_;rintro r w3 ⟨rfl,hb⟩;have H3:=Xh2 (Below.next0 (Xo0 H2) hb) ((Xe1 H2).call hb);have hq:=(HC.out w3 (Below.next0 H1.out (Xo0 H3))).1;obtain ⟨k0,k1,k2,k3,k4,k5,k6,k7,k8,k9,k10,k11,k12,k13⟩:=Q0c hq;clear hq hb))
 go_loopw [50] (fun s50 wr=>J19 w1 L6 bl bx s50 wr) (fun iv _=>bl-(intOf iv).toNat)
 case atStart=>exact ⟨0,rfl,Ut _,by rw[List.take_zero];simpa[Qbp] using (Xe1 H14),(Xo0 H14)⟩
 case round=>
  obtain ⟨i,rfl,hi,Y8,C1⟩:=hrel;have hq:=HC.out wr (Below.next0 H1.out C1)
  by_cases E0:i<bl
  ·have J0:(i:Int)<(bl:Int):=(by omega);obtain ⟨z,hz⟩:∃z,B[i]?=some z:=⟨_,Ua (by omega)⟩;obtain ⟨b0,o0,rfl,X1,Y1⟩:∃b o,ba=some ⟨b,o,none⟩/\b<wr.heap.size/\∀j x,B[j]?=some x->Qw3 wr b (o+j*6) x:=by
    rcases hq.2.2.2.2.2.2.2.1.b.2.2.2 with h0|h0
    ·simp only at h0;rw[h0] at hz;simp at hz
    ·exact h0
   obtain ⟨pa,pl,pc,qa,ql,qc,⟨y0,y1,y2,y3,y4,y5⟩,K5,C6⟩:=Y1 i z hz;have P2:=(Xo1 HR).box.2.2 z (Uf hz);obtain ⟨u1,KE⟩:∃t,dyT z.lo.val=t:=⟨_,rfl⟩;obtain ⟨u2,Xg⟩:∃t,dyT z.hi.val=t:=⟨_,rfl⟩;have A8:u1.length<=1401:=(by rw[<-KE];exact (Q2l K5 P2.1).2);have i7:u2.length<=1401:=(by rw[<-Xg];exact (Q2l C6 P2.2.1).2);obtain ⟨V0,hV0⟩:∃V,wr.alloc (.cells #[.bool z.lo.neg,.int .i64 z.lo.exp,.slice pa pl pc,.bool z.hi.neg,.int .i64 z.hi.exp,.slice qa ql qc] 44)=V:=⟨_,rfl⟩;have hC6:=Q3w.new wr [.bool z.lo.neg,.int .i64 z.lo.exp,.slice pa pl pc,.bool z.hi.neg,.int .i64 z.hi.exp,.slice qa ql qc] 44
   change Q3w (wr.alloc (.cells #[.bool z.lo.neg,.int .i64 z.lo.exp,.slice pa pl pc,.bool z.hi.neg,.int .i64 z.hi.exp,.slice qa ql qc] 44)) _ _ at hC6
   have J1:Bw wr (wr.alloc (.cells #[.bool z.lo.neg,.int .i64 z.lo.exp,.slice pa pl pc,.bool z.hi.neg,.int .i64 z.hi.exp,.slice qa ql qc] 44)):=Ba;have Yo:=Q0h wr (.cells #[.bool z.lo.neg,.int .i64 z.lo.exp,.slice pa pl pc,.bool z.hi.neg,.int .i64 z.hi.exp,.slice qa ql qc] 44);rw[hV0] at hC6 J1 Yo;have Q3:bx[i]?=some (z.lo.val,z.hi.val):=(by rw[<-(Xo0 HX),UP,hz];rfl);have Q9:L6++Qbp (bx.take (i+1))=L6++Qbp (bx.take i)++Q2x Qku (u1++32::u2):=(by rw[Qe6 Q3,Qkl,KE,Xg,Tb]);obtain ⟨T,WD⟩:∃t,L6++Qbp (bx.take i)=t:=⟨_,rfl⟩;have V9:T.length+Qku.length+u1.length+u2.length<=100000000:=by
    have h1:=Qaa (bx.take i) (fun b hb=>by
     rw[<-(Xo0 HX)] at hb;obtain ⟨y,hy,rfl⟩:=To.1 (TB hb);obtain ⟨j,hj⟩:=UV.1 hy;obtain ⟨_,_,_,_,_,_,_,m1,m2⟩:=Y1 j y hj;have Kf:=(Xo1 HR).box.2.2 y hy;exact ⟨(Q2l m1 Kf.1).2,(Q2l m2 Kf.2.1).2⟩)
    have h2:(bx.take i).length<=4:=by
     have:=(Xo1 HR).box.2.1;simp only at this;rw[Tl];omega
    have h3:=Td 2810 h2;have h4:=HL.out.all;have h5:Qku.length=3:=rfl;rw[<-WD,Uh];omega
   rw[WD] at Y8 Q9;have HV:=Ub (fun V (hV:Bw V0 V)=>have hb:=Below.next0 J1 hV;And.intro (hC6.step hV Yo) (And.intro (Q6t (K5.step hb) P2.1 (hq.2.2.2.2.2.2.2.2.1.step hb) KE) (And.intro (Q6t (C6.step hb) P2.2.1 (hq.2.2.2.2.2.2.2.2.1.step hb) Xg) (And.intro (Y8.call hb) (Below.next0 C1 hb)))));have HT:=Xh2 Q9 V9;clear hq Y1 K5 C6 P2 KE Xg A8 i7 hC6 J1 Yo Q3 Q9 WD V9 Y8 C1 hz
   go_upto_region 14 with fail
   clear hV0;refine Q23 (by kernel_rfl) 8 rfl (fun W=>Bw V0 W) (fun _ _ h h'=>Below.next0 h h') (Q56 [.func (.func 34) #[] #[.pointer (some ⟨w1.heap.size,0,none⟩)],.pointer (some ⟨wr.heap.size,0,none⟩),.agg #[.bool z.lo.neg,.int .i64 z.lo.exp,.slice pa pl pc],.string ⟨u1.toArray⟩,.pointer (some ⟨wr.heap.size,3,none⟩),.agg #[.bool z.hi.neg,.int .i64 z.hi.exp,.slice qa ql qc],.string ⟨u2.toArray⟩,undef] (Q2s [(7,fun v W=>∃g,v=.slice (some ⟨g,0,none⟩) 3 3/\W.heap[g]?=some (.cells #[.string ⟨#[98,111,120]⟩,.string ⟨u1.toArray⟩,.string ⟨u2.toArray⟩] 9 (0,0)))])) (Q0j (Q12 (Qyo (fun _ _ _ ⟨g,h1,h2⟩ hb=>⟨g,h1,(hb.block g (Uq.1 h2).1).trans h2⟩)))) (fun W'=>Q66 w1.heap.size w1.heap.size (L6++Qbp (bx.take (i+1))) W'/\Bw w1 W') (by kernel_rfl) (by kernel_rfl) (by kernel_rfl) (by kernel_rfl) (Q04 V0) ?_ ?_ ?_
   ·skip
    repeat' (first|exact Qet|refine Qes ?_ ?_)
    all_goals first
     |(refine Q3i rfl fun A W hW F0 hd hd=>?_
       simp[Qbq,Region.binds,Q2s] at hd;have e4:=Q0d F0 4 (by kernel_rfl) rfl;have e6:=Q0d F0 6 (by kernel_rfl) rfl;have hq:=HV.out W hW;obtain ⟨c0,c1,c2,c3,c4,c5⟩:=Qk6 hq.1
       first
       |(refine Q1m rfl rfl ?_;simp[go_sem,hd,e4,e6,c0,c1,c2,c3,c4,c5];done)
       |(refine Q8x rfl rfl ?_ hq.2.1;simp[go_sem,hd];done)
       |(refine Q8x rfl rfl ?_ hq.2.2.1;simp[go_sem,hd];done))
     |skip
    ·intro A W hW F0 A0;have e57:=Q0s A0 3 (by decide) rfl rfl rfl;have e60:=Q0s A0 6 (by decide) rfl rfl rfl;refine Q02 rfl ?_;exact Q33 (Q6o 39 3 #[(0,.const (.string ⟨#[98,111,120]⟩)),(1,.tmp 57),(2,.tmp 60)] (by rfl) (parts':= #[(0,.string ⟨#[98,111,120]⟩),(1,.string ⟨u1.toArray⟩),(2,.string ⟨u2.toArray⟩)]) (by simp[go_sem,e57,e60]) (Qqy W _ _ _)) (Ba) ((Q00 rfl).2 ⟨W.heap.size,rfl,Um _ _⟩)
   ·intro A W hW F0 A0;obtain ⟨g,hv,hg⟩:=(Q00 rfl).1 (A0 7 (by decide));have e61:=Q1w hv;have e54:=Q0s A0 0 (by decide) rfl rfl rfl;have hq:=HV.out W hW;refine Quv (f:=34) (args:= #[.slice (some ⟨g,0,none⟩) 3 3,.pointer (some ⟨w1.heap.size,0,none⟩)]) (by simp[go_sem,e54,e61]) ((put3 w1.heap.size g T Qku u1 u2 W hq.2.2.2.1 hq.2.2.2.2.size hg (Xe1 HT)).mono ?_);rintro r w' ⟨rfl,A7,hb⟩;exact ⟨_,rfl,by rw[(Xo0 HT)];exact A7,hq.2.2.2.2.trans hb⟩
   intro vs W2 S2;simp only[Q0y,Act.put,Uu,UI,UF];have HF:=Ub S2;clear S2
   go_wp2_with fail
   exact ⟨⟨i+1,by simp,by omega,(Xo0 HF),(Xe1 HF)⟩,by simp only[intOf];omega⟩
  ·obtain rfl:i=bl:=(by omega);have J0:¬((i:Int)<(i:Int)):=(by omega);obtain ⟨Z,hZ⟩:∃t,L6++Qbp bx=t:=⟨_,rfl⟩;obtain ⟨K,hK⟩:∃t,Q18 0 (Q13 F)=t:=⟨_,rfl⟩;have hF4:F.length<=4:=(Xo1 HR).field.2.1;have hKl:K.length<=800000:=by
    have h1:=Q7u (Qhd hq.2.2.2.2.2.2.2.1.f (Xo1 HR).field) 0 (by simp only;omega);have h2:=Td 168200 hF4;rw[<-hK];simp only at h1;omega
   have hZl:Z.length<=100000/\Z≠[]:=by
    have h1:=Qaa bx (fun b hb=>by
     rw[<-(Xo0 HX)] at hb;obtain ⟨y,hy,rfl⟩:=To.1 hb;obtain ⟨j,hj⟩:=UV.1 hy;have Kf:=(Xo1 HR).box.2.2 y hy;rcases hq.2.2.2.2.2.2.2.1.b.2.2.2 with h0|⟨_,_,_,_,Y1⟩
     ·simp only at h0;rw[h0] at hj;simp at hj
     ·obtain ⟨_,_,_,_,_,_,_,m1,m2⟩:=Y1 j y hj;exact ⟨(Q2l m1 Kf.1).2,(Q2l m2 Kf.2.1).2⟩)
    have h2:bx.length<=4:=by
     have:=(Xo1 HR).box.2.1;simp only at this;rw[(Xe1 HX)];omega
    have h3:=Td 2810 h2;have h4:=HL.out.all;have h5:=HL.out.eq5;have h6:=congrArg List.length h5;rw[Uh,Q8c] at h6;have h7:=congrArg List.length hZ;rw[Uh] at h7;exact ⟨by omega,fun e=>by rw[e,TW] at h7;omega⟩
   have VP:¬9223372036854775807<Z.length+K.length:=(by omega);have V5:bx.take i=bx:=Uw (by rw[(Xe1 HX)];exact Ue _);rw[V5,hZ] at Y8;have hYs:sv Y=.string (⟨Z.toArray⟩++⟨K.toArray⟩):=by
    rw[<-HY.out,<-Tb,hZ,hK];unfold sv;refine congrArg Value.string ?_
    apply ByteArray.ext
    simp[Xae]
   have s1:∀U,Bw wr U->Calls Tryz.prog 39 #[.pointer (some ⟨w1.heap.size,0,none⟩)] U fun r w'=>r=.returned (.string ⟨Z.toArray⟩)/\Bw w1 w':=fun U hU=>by
    refine (Tryz.J21 w1.heap.size w1.heap.size Z U (Y8.call hU) hZl.2).mono ?_;rintro r w' ⟨h1,h2⟩;exact ⟨h1,(C1.trans (hU.mono C1.size)).trans h2⟩
   have s3:∀U,Bw w1 U->Calls Tryz.prog 40 #[.slice fa fl fc] U fun r w'=>r=.returned (.string ⟨K.toArray⟩)/\Bw U w':=fun U hU=>by
    have hqU:=HC.out U (Below.next0 H1.out hU);refine (Qhe fa fl fc F U hqU.2.2.2.2.2.2.2.1.f hqU.2.2.2.2.2.2.2.2.2 hqU.2.2.2.2.2.2.2.2.1).mono ?_;rintro r w' ⟨h1,_,h2⟩;refine ⟨?_,h2⟩;rw[h1 (Xo1 HR).field,hK]
   have O0:=C1;obtain ⟨k0,k1,k2,k3,k4,k5,k6,k7,k8,k9,k10,k11,k12,k13⟩:=Q0c hq.1;have HZ:=Xh3 s1 s3 O0;have HYs:=Ub hYs;clear hq hZ hK hKl hZl V5 Y8 hYs s1 s3 O0 C1
   go_upto_region 16 with fail
   go_region_with (first
    |(go_at_call 39
      refine ((Xo0 HZ) _ (by first|exact HPq.out|exact Below.next0 HPq.out (Q04 _))).mono ?_;rintro r wF ⟨rfl,hb⟩;have HF:=Ub hb;clear hb)
    |(go_at_call 39
      refine ((Xo0 HZ) _ (by first|exact Ug _ _|exact Q04 _)).mono ?_;rintro r wS ⟨rfl,hb⟩;have HS:=Ub hb;have hq:=(HC.out wS (Below.next0 H1.out hb)).1;obtain ⟨k0,k1,k2,k3,k4,k5,k6,k7,k8,k9,k10,k11,k12,k13⟩:=Q0c hq;clear hb hq)
    |(go_at_call 40
      refine ((Xo1 HZ) _ (by first|exact HS.out|exact HS.out.trans ((Q04 _).mono HS.out.size))).mono ?_;rintro r wF ⟨rfl,hb⟩;have B4:Bw w1 wF:=by first|exact Below.next0 HS.out hb|exact Below.next0 (HS.out.trans ((Q04 _).mono HS.out.size)) hb
      have HF:=Ub B4;clear hb B4)
    |(go_at_call 40
      refine ((Xo1 HZ) _ (by first|exact (Xe2 HZ)|exact (Xe2 HZ).trans ((Q04 _).mono (Xe2 HZ).size))).mono ?_;rintro r wP ⟨rfl,hb⟩;have B4:Bw wr wP:=by first|exact hb|exact Below.next0 (Q04 _) hb
      have HPq:=Ub B4;clear hb B4))
   all_goals
    go_wp2_with fail
    go_ret;exact ⟨by rw[HYs.out];rfl,Below.next0 (Below.next0 (Xe2 HR) H1.out) HF.out⟩
structure Qf1 (w w':World) (b:Nat) (vs:LV):Prop where
 size:w.heap.size<=w'.heap.size
 block:∀k,k<w.heap.size->k≠b->w'.heap[k]?=w.heap[k]?
 was:Blk w b vs
theorem Qf1.cell {w w':World} {b:Nat} {vs:LV} (h:Qf1 w w' b vs) {p:Addr} {v:Value} (hp:w.cell? p=some v) (hn:p.block≠b):w'.cell? p=some v:=(UM (h.block _ (UA hp) hn)).trans hp
theorem Qf1.in_ {w w':World} {b i:Nat} {vs:LV} (h:Qf1 w w' b vs) {v:Value} (hp:w.cell? ⟨b,i,none⟩=some v):vs[i]?=some v:=by
 by_cases hi:i<vs.length
 ·have h1:=h.was.c i _ (Ua hi);rw[hp] at h1;rw[Ua hi];exact h1.symm
 ·have:=h.was.e i (by omega);rw[hp] at this;cases this
structure Odd (vs:LV):Prop where
 nou:∀u∈vs,NoU u
 first:∀e:Int,vs[0]?≠some (.int .i64 e)
 two:∀i a l c a' l' c',vs[i+2]?=some (.slice a l c)->vs[i+3]?=some (.slice a' l' c')->False
theorem WordsIn.only {w w':World} {b:Nat} {vs:LV} (h:Qf1 w w' b vs) (ho:Odd vs) {a:OA} {l c:Nat} {L:LN} (hw:WordsIn w a l c L):WordsIn w' a l c L:=by
 refine ⟨hw.len,hw.cap,hw.most,hw.low,?_⟩;rcases hw.rd with h0|⟨g,o,rfl,hg,hc⟩
 ·exact .inl h0
 ·refine .inr ⟨g,o,rfl,Uc hg h.size,fun j y hy=>h.cell (hc j y hy) ?_⟩;intro e;have e:g=b:=e;subst e;exact ho.nou _ (Uf (h.in_ (hc j y hy))) y rfl
theorem Q0m.only {w w':World} {b:Nat} {vs:LV} (h:Qf1 w w' b vs) (ho:Odd vs) {a:OA} {l c:Nat} {x:Q47} (hw:Q0m w a l c x):Q0m w' a l c x:=⟨hw.lie.only h ho,hw.lo,hw.hi⟩
theorem Q0g.only {w w':World} {b:Nat} {vs:LV} (h:Qf1 w w' b vs) (ho:Odd vs) {a:OA} {l c:Nat} {E:List Int} (hi:Q0g w a l c E):Q0g w' a l c E:=by
 refine ⟨hi.len,hi.cap,hi.most,hi.rng,?_⟩;rcases hi.rd with h0|⟨g,o,rfl,hg,hc⟩
 ·exact .inl h0
 ·refine .inr ⟨g,o,rfl,Uc hg h.size,fun j y hy=>h.cell (hc j y hy) ?_⟩;intro e;have e:g=b:=e;subst e;obtain rfl:o=0:=hi.rng.2 _ _ rfl;cases E with
  |nil=>simp at hy
  |cons z r=>
   have h1:=h.in_ (hc 0 z rfl);exact ho.first z h1
theorem Q08.only {w w':World} {b:Nat} {vs:LV} (h:Qf1 w w' b vs) (ho:Odd vs) {a:OA} {n c:Nat} {ms:List Q01} (hm:Q08 w a n c ms):Q08 w' a n c ms:=by
 obtain ⟨h1,h2,h3,h4⟩:=hm;refine ⟨h1,h2,h3,?_⟩;rcases h4 with h4|⟨g,o,h5,h6,h7⟩
 ·exact .inl h4
 ·refine .inr ⟨g,o,h5,Uc h6 h.size,fun j m hj=>?_⟩;obtain ⟨aw,lw,cw,ae,le,ce,k0,k1,k2,k3,k4,k5,k6⟩:=h7 j m hj;have Vi:g≠b:=by
   intro e;subst e;refine ho.two (o+j*4) aw lw cw ae le ce (h.in_ k2) (h.in_ k3)
  exact ⟨aw,lw,cw,ae,le,ce,h.cell k0 Vi,h.cell k1 Vi,h.cell k2 Vi,h.cell k3 Vi,k4.only h ho,k5.only h ho,k6⟩
theorem Q1g.only {w w':World} {b:Nat} {vs:LV} (h:Qf1 w w' b vs) (ho:Odd vs) {a:OA} {n c:Nat} {F:List (List Q01)} (hF:Q1g w a n c F) (ha:∀x,a=some x->x.block≠b):Q1g w' a n c F:=by
 obtain ⟨h1,h2,h3,h4⟩:=hF;refine ⟨h1,h2,h3,?_⟩;rcases h4 with h4|⟨g,o,h5,h6,h7⟩
 ·exact .inl h4
 ·refine .inr ⟨g,o,h5,Uc h6 h.size,fun j ms hj=>?_⟩;obtain ⟨p,l,d,k0,k1⟩:=h7 j ms hj;exact ⟨p,l,d,h.cell k0 (by have:=ha _ h5;exact this),k1.only h ho⟩
theorem Q26.only {w w':World} {b B:Nat} {vs:LV} (h:Qf1 w w' b vs) (ho:Odd vs) (hb:b<B) {p:Pl} {L:List IvV} (hL:Q26 w B p L):Q26 w' B p L:=by
 obtain ⟨xs,hr⟩:=hL.row;have Q0:∀x,p.a=some x->x.block≠b:=fun x hx=>by have:=(hL.lt hx).1;omega
 refine ⟨⟨xs,hr.keep fun x hx=>h.block _ (hL.lt hx).2 (Q0 x hx)⟩,hL.len,fun j x hx=>?_⟩;obtain ⟨g,ha,a,l,c,a2,m,d,⟨h0,h1,h2,h3,h4,h5⟩,h6,h7⟩:=hL.ent j x hx;have hg:=Q0 _ ha;exact ⟨g,ha,a,l,c,a2,m,d,⟨h.cell h0 hg,h.cell h1 hg,h.cell h2 hg,h.cell h3 hg,h.cell h4 hg,h.cell h5 hg⟩,h6.only h ho,h7.only h ho⟩
theorem Qf1.set {w:World} {b:Nat} {vs:LV} (hb:Blk w b vs) (i:Nat) (v:Value):Qf1 w (w.setCell ⟨b,i,none⟩ v) b vs:=⟨by rw[UT];exact Ue _,fun k _ hk=>UZ _ _ _ _ hk,hb⟩
theorem Qf1.more {w w':World} {b:Nat} {vs:LV} (h:Qf1 w w' b vs) (i:Nat) (v:Value):Qf1 w (w'.setCell ⟨b,i,none⟩ v) b vs:=⟨by rw[UT];exact h.size,fun k h1 hk=>(UZ _ _ _ _ hk).trans (h.block k h1 hk),h.was⟩
theorem Qg8 (p:RpP) (x:RpV):Odd (rpL p x):=by
 refine ⟨Q76 _ _,fun e h=>by simp[rpL] at h,fun i a l c a' l' c' h1 h2=>?_⟩
 match i with
 |0|1|2|3|4|5|6|7|8|9|10|11|12=>simp[rpL] at h1 h2
 |n+13=>simp[rpL] at h1
def zpL:LV:=[.slice none 0 0,.slice none 0 0,.bool false,.int .i64 0,.slice none 0 0,.bool false,.int .i64 0,.slice none 0 0,.bool false,.int .i64 0,.slice none 0 0,.int .i64 0,.int .i64 0,.int .i64 0]
theorem Q7v:Odd zpL:=by
 refine ⟨fun u hu=>?_,fun e h=>by simp[zpL] at h,fun i a l c a' l' c' h1 h2=>?_⟩
 ·simp only[zpL,Uy,TN,Xbo] at hu;rcases hu with rfl|rfl|rfl|rfl|rfl|rfl|rfl|rfl|rfl|rfl|rfl|rfl|rfl|rfl <;> first|exact Q2m _|exact Q2t _|exact Q3z _ _ _
 ·match i with
  |0|1|2|3|4|5|6|7|8|9|10|11=>simp[zpL] at h1 h2
  |n+12=>simp[zpL] at h1
theorem Qx8 {x:RpV} {st:PrS} (h:StM x st) (hf:Qx5 st) (ho:st.over=none) (Fv:List (List Q01)):(⟨Fv,x.box,x.til,x.most,x.least,x.prec,x.order,x.budget⟩:Q52).prob=st.prob (Q13 Fv):=by
 obtain ⟨f1,f2,f3,f4⟩:=hf ho;have hd:∀{y:Q47} {d:Option Dyadic},Qom y d->d≠none->y.val=d.getD 0:=fun {y d} hy hn=>by
  cases d with
  |none=>exact absurd rfl hn
  |some z=>exact (hy z rfl).2
 have VI:x.box.map (fun b=>(b.lo.val,b.hi.val))=st.box.map fun b=>(b.1.getD 0,b.2.getD 0):=by
  apply Xa9
  intro j;rw[UP,UP]
  by_cases hj:j<x.box.length
  ·have Vu:j<st.box.length:=(by rw[<-h.len];exact hj);rw[Ua hj,Ua Vu];obtain ⟨h1,h2⟩:=h.box j _ _ (Ua hj) (Ua Vu);obtain ⟨n1,n2⟩:=f4 _ (List.getElem_mem Vu);simp only[Uz,hd h1 n1,hd h2 n2]
  ·rw[UU (by omega),UU (by rw[<-h.len];omega)];rfl
 unfold Q52.prob PrS.prob;simp only[VI,hd h.til f1,hd h.most f2,hd h.least f3,h.prec,h.order,h.budget,Xba]
structure OkV (x:Q52):Prop where
 til:x.til.ok
 most:x.most.ok
 least:x.least.ok
 box:∀b∈x.box,b.lo.ok/\b.hi.ok
 prec:0<=x.prec
 order:0<=x.order
 budget:0<=x.budget
theorem J1a {x:RpV} {st:PrS} (h:StM x st) (hf:Qx5 st) (ho:st.over=none) (Fv:List (List Q01)):OkV ⟨Fv,x.box,x.til,x.most,x.least,x.prec,x.order,x.budget⟩:=by
 obtain ⟨f1,f2,f3,f4⟩:=hf ho;have hd:∀{y:Q47} {d:Option Dyadic},Qom y d->d≠none->y.ok:=fun {y d} hy hn=>by
  cases d with
  |none=>exact absurd rfl hn
  |some z=>exact (hy z rfl).1
 refine ⟨hd h.til f1,hd h.most f2,hd h.least f3,fun b hb=>?_,by show 0<=x.prec;rw[h.prec];omega,by show 0<=x.order;rw[h.order];omega,by show 0<=x.budget;rw[h.budget];omega⟩;obtain ⟨j,hj⟩:=UV.1 hb;have hj1:j<x.box.length:=(Ul.1 hj).1;have Vu:j<st.box.length:=by rw[<-h.len];exact hj1
 obtain ⟨h1,h2⟩:=h.box j _ _ hj (Ua Vu);obtain ⟨n1,n2⟩:=f4 _ (List.getElem_mem Vu);exact ⟨hd h1 n1,hd h2 n2⟩
def Qzn (w:World) (X:Except (Nat × Int) Qam) (r:Ending) (w':World):Prop:=Bw w w'/\match X with
 | .error (q,e)=>r=.returned (.tuple #[.agg zpL.toArray,.int .i64 (q:Int),.int .i64 e])
 | .ok T=>∃p x,Q3x w' p x/\x.prob=T/\Q2j x.field/\OkV x/\(Q3c x->r=.returned (.tuple #[.agg (Q57 p x).toArray,.int .i64 0,.int .i64 0]))/\(¬Q3c x->r=.returned (.tuple #[.agg zpL.toArray,.int .i64 0,.int .i64 1]))
theorem Quw {w:World} {b:Nat} {vs:LV} (h:Blk w b vs) (hl:14<=vs.length):w.frozen? ⟨b,0,none⟩=false/\w.frozen? ⟨b,1,none⟩=false/\w.frozen? ⟨b,2,none⟩=false/\w.frozen? ⟨b,3,none⟩=false/\w.frozen? ⟨b,4,none⟩=false/\w.frozen? ⟨b,5,none⟩=false/\w.frozen? ⟨b,6,none⟩=false/\w.frozen? ⟨b,7,none⟩=false/\w.frozen? ⟨b,8,none⟩=false/\w.frozen? ⟨b,9,none⟩=false/\w.frozen? ⟨b,10,none⟩=false/\w.frozen? ⟨b,11,none⟩=false/\w.frozen? ⟨b,12,none⟩=false/\w.frozen? ⟨b,13,none⟩=false:=
 ⟨h.f _ (by omega),h.f _ (by omega),h.f _ (by omega),h.f _ (by omega),h.f _ (by omega),h.f _ (by omega),h.f _ (by omega),h.f _ (by omega),h.f _ (by omega),h.f _ (by omega),h.f _ (by omega),h.f _ (by omega),h.f _ (by omega),h.f _ (by omega)⟩
theorem Blk.drew {w:World} {b:Nat} {vs:LV} (h:Blk w b vs):Blk w.drew b vs:=h.same rfl
def Qkm (w:World) (b:Nat) (v0 v1 v2 v3 v4 v5 v6 v7 v8 v9 v10 v11 v12 v13:Value):World:=(((((((((((((w.setCell ⟨b,0,none⟩ v0).setCell ⟨b,1,none⟩ v1).setCell ⟨b,2,none⟩ v2).setCell ⟨b,3,none⟩ v3).setCell ⟨b,4,none⟩ v4).setCell ⟨b,5,none⟩ v5).setCell ⟨b,6,none⟩ v6).setCell ⟨b,7,none⟩ v7).setCell ⟨b,8,none⟩ v8).setCell ⟨b,9,none⟩ v9).setCell ⟨b,10,none⟩ v10).setCell ⟨b,11,none⟩ v11).setCell ⟨b,12,none⟩ v12).setCell ⟨b,13,none⟩ v13
section
variable {w:World} {b:Nat} (v0 v1 v2 v3 v4 v5 v6 v7 v8 v9 v10 v11 v12 v13:Value)
theorem Qkn (h:Blk w b zpL):Blk (Qkm w b v0 v1 v2 v3 v4 v5 v6 v7 v8 v9 v10 v11 v12 v13) b [v0,v1,v2,v3,v4,v5,v6,v7,v8,v9,v10,v11,v12,v13]:=((((((((((((((h.set (i:=0) (by decide) v0).set (i:=1) (by simp[zpL]) v1).set (i:=2) (by simp[zpL]) v2).set (i:=3) (by simp[zpL]) v3).set (i:=4) (by simp[zpL]) v4).set (i:=5) (by simp[zpL]) v5).set (i:=6) (by simp[zpL]) v6).set (i:=7) (by simp[zpL]) v7).set (i:=8) (by simp[zpL]) v8).set (i:=9) (by simp[zpL]) v9).set (i:=10) (by simp[zpL]) v10).set (i:=11) (by simp[zpL]) v11).set (i:=12) (by simp[zpL]) v12).set (i:=13) (by simp[zpL]) v13)
theorem Qr7 (h:Blk w b zpL):Qf1 w (Qkm w b v0 v1 v2 v3 v4 v5 v6 v7 v8 v9 v10 v11 v12 v13) b zpL:=((((((((((((((Qf1.set h 0 v0).more 1 v1).more 2 v2).more 3 v3).more 4 v4).more 5 v5).more 6 v6).more 7 v7).more 8 v8).more 9 v9).more 10 v10).more 11 v11).more 12 v12).more 13 v13)
theorem Qee {w0:World} {B:Nat} (hb:Below B w0 w) (hB:B<=b):Below B w0 (Qkm w b v0 v1 v2 v3 v4 v5 v6 v7 v8 v9 v10 v11 v12 v13):=((((((((((((((hb.setCell (p:=⟨b,0,none⟩) hB v0).setCell (p:=⟨b,1,none⟩) hB v1).setCell (p:=⟨b,2,none⟩) hB v2).setCell (p:=⟨b,3,none⟩) hB v3).setCell (p:=⟨b,4,none⟩) hB v4).setCell (p:=⟨b,5,none⟩) hB v5).setCell (p:=⟨b,6,none⟩) hB v6).setCell (p:=⟨b,7,none⟩) hB v7).setCell (p:=⟨b,8,none⟩) hB v8).setCell (p:=⟨b,9,none⟩) hB v9).setCell (p:=⟨b,10,none⟩) hB v10).setCell (p:=⟨b,11,none⟩) hB v11).setCell (p:=⟨b,12,none⟩) hB v12).setCell (p:=⟨b,13,none⟩) hB v13)
theorem Qef {w0:World} {B:Nat} (h:Blk w b zpL) (hb:Below B w0 w) (hB:B<=b):∃V,Qkm w b v0 v1 v2 v3 v4 v5 v6 v7 v8 v9 v10 v11 v12 v13=V/\Qf1 w V b zpL/\Blk V b [v0,v1,v2,v3,v4,v5,v6,v7,v8,v9,v10,v11,v12,v13]/\Below B w0 V:=⟨_,rfl,Qr7 v0 v1 v2 v3 v4 v5 v6 v7 v8 v9 v10 v11 v12 v13 h,Qkn v0 v1 v2 v3 v4 v5 v6 v7 v8 v9 v10 v11 v12 v13 h,Qee v0 v1 v2 v3 v4 v5 v6 v7 v8 v9 v10 v11 v12 v13 hb hB⟩
end
theorem Qeg (s:ByteArray) (w:World) (hs:s.size<=1000000) (hT:Q1s w):∃W0,(w.alloc (.cells zpL.toArray 28)).alloc (.cells (zpL++[Value.int .i64 (-1)]).toArray 75)=W0/\Calls Tryz.prog 48 #[.pointer (some ⟨w.heap.size+1,0,none⟩),.string s] W0 (TopR W0 (w.heap.size+1) s.data.toList)/\Bw w W0/\Blk W0 w.heap.size zpL/\Q1s w/\W0.heap.size=w.heap.size+2:=by
 obtain ⟨W0,R1⟩:∃W0,(w.alloc (.cells zpL.toArray 28)).alloc (.cells (zpL++[Value.int .i64 (-1)]).toArray 75)=W0:=⟨_,rfl⟩;have A3:(w.alloc (.cells zpL.toArray 28)).heap.size=w.heap.size+1:=Ui _ _;have X5:W0.heap.size=w.heap.size+2:=by rw[<-R1,Ui,A3]
 have X1:Bw w W0:=by rw[<-R1];exact (Ba).alloc (by rw[A3];omega) _
 have hZ:Blk W0 w.heap.size zpL:=by
  rw[<-R1];exact (Blk.new w zpL 28).step (Ba) (by rw[A3];omega)
 have hRd:Blk W0 (w.heap.size+1) (rpL ⟨⟨none,0,0⟩,⟨none,0,0⟩,⟨none,0,0⟩,⟨none,0,0⟩⟩ ⟨[],⟨false,0,[]⟩,⟨false,0,[]⟩,⟨false,0,[]⟩,0,0,0,-1⟩):=by
  have h:=Blk.new (w.alloc (.cells zpL.toArray 28)) (zpL++[Value.int .i64 (-1)]) 75;rw[A3,R1] at h;exact h
 have P1:Q0m W0 none 0 0 ⟨false,0,[]⟩:=⟨⟨rfl,Ue _,by decide,fun x hx=>by simp at hx,.inl rfl⟩,by decide,by decide⟩;have htop:=Qut (w.heap.size+1) s W0 hs (fun W hW=>hT.step (X1.trans (hW.below (by omega) (by omega)))) 0 ⟨hRd,Q26.nil_ _ _,P1,P1,P1⟩;exact ⟨W0,R1,htop,X1,hZ,hT,X5⟩
theorem Qhi (s:ByteArray) (w:World) (hs:s.size<=1000000) (hT:Q1s w) (q:Nat) (er:Int) (hY:Qfh s.data.toList (s.data.toList.length+1) 0 0 PrS.empty=.error (q,er)):
 Calls Tryz.prog 16 #[.string s] w (Qzn w (.error (q,er))):=by
 have HY:=Ub hY;clear hY;obtain ⟨W0,R1,VV⟩:=Qeg s w hs hT;have HT:=Ub VV;clear VV hT
 go_enter Tryz.func16,Tryz.ntmps16
 go_upto_region 2 with fail
 change Code.wp _ _ _ _ ((w.alloc (.cells zpL.toArray 28)).alloc (.cells (zpL++[Value.int .i64 (-1)]).toArray 75))
 rw[R1];clear R1
 go_upto_region 3 with (go_at_call 48;refine (Xo0 HT).mono ?_;rintro e W1 ⟨B,p,x,I2,X2,KO,hm⟩;rw[HY.out] at hm;obtain ⟨rfl,rfl⟩:=hm
                        have G1:Blk W1 w.heap.size zpL:=(Xo2 HT).same (X2.block _ (by have:=(Xe4 HT);omega) (by omega));have C0:Bw w W1:=(Xo1 HT).trans (X2.below (by omega) (by have:=(Xe4 HT);omega));obtain ⟨k0,k1,k2,k3,k4,k5,k6,k7,k8,k9,k10,k11,k12,k13⟩:=Q0c G1.c;obtain ⟨f0,f1,f2,f3,f4,f5,f6,f7,f8,f9,f10,f11,f12,f13⟩:=Quw G1 (by decide);have HB:=Ub C0;clear I2 X2 KO C0;have HZ:=Ub G1;clear G1)
 go_wp2_with fail
 have K1:=Qkn (.slice none 0 0) (.slice none 0 0) (.bool false) (.int .i64 0) (.slice none 0 0) (.bool false) (.int .i64 0) (.slice none 0 0) (.bool false) (.int .i64 0) (.slice none 0 0) (.int .i64 0) (.int .i64 0) (.int .i64 0) HZ.out;have D0:=Qee (.slice none 0 0) (.slice none 0 0) (.bool false) (.int .i64 0) (.slice none 0 0) (.bool false) (.int .i64 0) (.slice none 0 0) (.bool false) (.int .i64 0) (.slice none 0 0) (.int .i64 0) (.int .i64 0) (.int .i64 0) HB.out (Ue _);unfold Qkm at K1 D0;obtain ⟨c0,c1,c2,c3,c4,c5,c6,c7,c8,c9,c10,c11,c12,c13⟩:=Q0c K1.c;refine ⟨rfl,.tuple #[.agg zpL.toArray,.int .i64 (q:Int),.int .i64 5],by simp[results,go_sem,zpL,c0,c1,c2,c3,c4,c5,c6,c7,c8,c9,c10,c11,c12,c13],D0,?_⟩;rfl
def pK:Qam:=⟨[[(1,[1])]],[(1,1)],1,dy 1 (-2),dy 1 (-20),64,4,100⟩
def sK:LU:=[112,114,101,99,32,54,52,10,111,114,100,101,114,32,52,10,98,117,100,103,101,116,32,49,48,48,10,117,110,116,105,108,32,49,10,109,111,115,116,32,49,112,45,50,10,108,101,97,115,116,32,49,112,45,50,48,10,98,111,120,32,49,32,49,10,120,49,39,32,61,32,120,49,10]
def sB:LU:=[112,114,101,99,32,54,52,10,111,114,100,101,114,32,48,10]
theorem Qux:(1:Dyadic)=dy 1 0:=by decide+kernel
theorem Qhj (e:Int) (h1: -65536<=e) (h2:e<=65536):Q44 (dy 1 e):=.inr ⟨1,e,rfl,rfl,by decide,h1,h2⟩
theorem Qcd:Q44 1:=by rw[Qux];exact Qhj 0 (by decide) (by decide)
theorem Qeh (e:Int):Qgq (dy 1 e):=⟨Ql6 (by decide),by rw[Q9r];decide⟩
theorem Qoq:Qgr pK where
 field:=by
  refine ⟨Ue _,by decide,fun P hP=>?_⟩;have WP:P=[(1,[1])]:=by simpa[pK] using hP
  subst WP;refine ⟨List.pairwise_singleton _ _,by decide,fun p hp=>?_⟩;rw[Ux] at hp;subst hp;exact ⟨by show (1:Dyadic)≠0;rw[Qux];exact Ql6 (by decide),Qcd,rfl,by decide,by decide⟩
 box:=fun b hb=>by
  have B4:b=(1,1):=by simpa[pK] using hb
  subst B4;exact ⟨Qcd,Qcd,by unfold Qer;decide+kernel⟩
 same:=rfl
 til:=⟨Qcd,by show Qgq 1;rw[Qux];exact Qeh 0⟩
 most:=⟨Qhj _ (by decide) (by decide),Qeh _⟩
 least:=⟨Qhj _ (by decide) (by decide),Qeh _⟩
 ord:=by unfold Qer;decide+kernel
 prec:=⟨by decide,by decide⟩
 order:=⟨by decide,by decide⟩
 budget:=⟨by decide,by decide⟩
theorem Quy:Qan pK=sK:=by decide+kernel
theorem Qr8:Qpb sK=.ok pK:=by rw[<-Quy];exact Qii Qoq
structure Qx9 (x:Q52):Prop extends OkV x where
 field:∃k,∀ms∈x.field,∀m∈ms,OkM k m/\Low (2^64) m.ws
 lt:Low (2^64) x.til.ws
 lm:Low (2^64) x.most.ws
 le:Low (2^64) x.least.ws
 lb:∀b∈x.box,Low (2^64) b.lo.ws/\Low (2^64) b.hi.ws
theorem Qzo {w:World} {a:OA} {n c:Nat} {B:List IvV} (h:Qdh w a n c B) {x:IvV} (hx:x∈B):Low (2^64) x.lo.ws/\Low (2^64) x.hi.ws:=by
 obtain ⟨_,_,_,h0|⟨g,o,_,_,Y1⟩⟩:=h
 ·rw[h0] at hx;cases hx
 ·obtain ⟨j,hj⟩:=UV.1 hx;obtain ⟨_,_,_,_,_,_,_,h1,h2⟩:=Y1 j x hj;exact ⟨h1.lie.low,h2.lie.low⟩
theorem Qhk {w:World} {p:Qt5} {x:Q52} (h:Q3x w p x) (hF:Q2j x.field) (hO:OkV x):Qx9 x:=
 ⟨hO,⟨_,Qop h.f hF⟩,h.t.lie.low,h.m.lie.low,h.e.lie.low,fun _ hb=>Qzo h.b hb⟩
theorem Qg9 {x y:Q47} (h1:x.ok) (l1:Low (2^64) x.ws) (h2:y.ok) (l2:Low (2^64) y.ws) (h:x.val=y.val):x=y:=by
 obtain ⟨e1,e2,e3⟩:=Ql7 h1 l1 h2 l2 h;cases x;cases y;simp only at e1 e2 e3;rw[e1,e2,e3]
theorem Qy1:∀{B C:List IvV},(∀b∈B,(b.lo.ok/\b.hi.ok)/\Low (2^64) b.lo.ws/\Low (2^64) b.hi.ws)->(∀b∈C,(b.lo.ok/\b.hi.ok)/\Low (2^64) b.lo.ws/\Low (2^64) b.hi.ws)->B.map (fun b=>(b.lo.val,b.hi.val))=C.map (fun b=>(b.lo.val,b.hi.val))->B=C
 |[],[],_,_,_=>rfl
 |[],_::_,_,_,h=>by simp at h
 |_::_,[],_,_,h=>by simp at h
 |b::B,c::C,h1,h2,h=>by
  simp only[Xah,List.cons.injEq,Xas] at h;have hb:=h1 b (by simp);have hc:=h2 c (by simp);have e1:=Qg9 hb.1.1 hb.2.1 hc.1.1 hc.2.1 h.1.1;have e2:=Qg9 hb.1.2 hb.2.2 hc.1.2 hc.2.2 h.1.2;have e3:b=c:=by cases b;cases c;simp only at e1 e2;rw[e1,e2]
  rw[e3,Qy1 (fun x hx=>h1 x (by simp[hx])) (fun x hx=>h2 x (by simp[hx])) h.2]
theorem Qor {x y:Q52} (hx:Qx9 x) (hy:Qx9 y) (h:x.prob=y.prob):x=y:=by
 unfold Q52.prob at h;simp only[Qam.mk.injEq] at h;obtain ⟨e1,e2,e3,e4,e5,e6,e7,e8⟩:=h;obtain ⟨k,hk⟩:=hx.field;obtain ⟨j,hj⟩:=hy.field;have f1:=Qkj hk hj e1;have f2:=Qy1 (fun b hb=>⟨hx.box b hb,hx.lb b hb⟩) (fun b hb=>⟨hy.box b hb,hy.lb b hb⟩) e2;have f3:=Qg9 hx.til hx.lt hy.til hy.lt e3;have f4:=Qg9 hx.most hx.lm hy.most hy.lm e4;have f5:=Qg9 hx.least hx.le hy.least hy.le e5;have f6:x.prec=y.prec:=by have:=hx.prec;have:=hy.prec;omega
 have f7:x.order=y.order:=by have:=hx.order;have:=hy.order;omega
 have f8:x.budget=y.budget:=by have:=hx.budget;have:=hy.budget;omega
 cases x;cases y;simp only at f1 f2 f3 f4 f5 f6 f7 f8;rw[f1,f2,f3,f4,f5,f6,f7,f8]
theorem Quz {x:Q52} (h:Q3c x):OkV x:=⟨h.til.1,h.most.1,h.least.1,fun b hb=>⟨(h.box.2.2 b hb).1,(h.box.2.2 b hb).2.1⟩,by have:=h.prec;omega,by have:=h.order;omega,by have:=h.budget;omega⟩
theorem Qei {w:World} {p:Qt5} {x:Q52} (h:Q3x w p x) (hF:Q2j x.field) (hO:OkV x):Q3c x↔Qgr x.prob:=by
 have hp:=Qhk h hF hO;have hfl:x.prob.field.length=x.field.length:=UK ..;have U4:x.prob.box.length=x.box.length:=UK ..
 constructor
 ·intro hR;refine ⟨Quu h.f hF,fun b hb=>?_,by rw[hfl,U4];exact hR.same,⟨Q35 hO.til hp.lt,hR.til.2⟩,⟨Q35 hO.most hp.lm,hR.most.2⟩,⟨Q35 hO.least hp.le,hR.least.2⟩,hR.ord,?_,?_,?_⟩
  ·obtain ⟨z,hz,rfl⟩:=To.1 hb;exact ⟨Q35 (hO.box z hz).1 (hp.lb z hz).1,Q35 (hO.box z hz).2 (hp.lb z hz).2,(hR.box.2.2 z hz).2.2⟩
  ·have:=hR.prec;show 8<=x.prec.toNat/\x.prec.toNat<=256;omega
  ·have:=hR.order;show 2<=x.order.toNat/\x.order.toNat<=10;omega
  ·have:=hR.budget;show 1<=x.budget.toNat/\x.budget.toNat<=4096;omega
 ·intro hR;have u7:x.box.length=x.field.length:=by rw[<-hfl,<-U4];exact hR.same
  refine ⟨hF,⟨by rw[u7];exact hF.1,by rw[u7];exact hF.2.1,fun z hz=>⟨(hO.box z hz).1,(hO.box z hz).2,(hR.box _ (To.2 ⟨z,hz,rfl⟩)).2.2⟩⟩,u7,⟨hO.til,hR.til.2⟩,⟨hO.most,hR.most.2⟩,⟨hO.least,hR.least.2⟩,hR.ord,?_,?_,?_⟩
  ·have:8<=x.prec.toNat/\x.prec.toNat<=256:=hR.prec;omega
  ·have:2<=x.order.toNat/\x.order.toNat<=10:=hR.order;omega
  ·have:1<=x.budget.toNat/\x.budget.toNat<=4096:=hR.budget;omega
def xK:Q52:=⟨[[⟨false,0,[1],[1]⟩]],[⟨⟨false,0,[1]⟩,⟨false,0,[1]⟩⟩],⟨false,0,[1]⟩,⟨false,-2,[1]⟩,⟨false,-20,[1]⟩,64,4,100⟩
theorem Qv0:xK.prob=pK:=by
 have h1:Q1p false 0 [1]=1:=by decide+kernel
 have h2:Q1p false (-2) [1]=dy 1 (-2):=by decide+kernel
 have h3:Q1p false (-20) [1]=dy 1 (-20):=by decide+kernel
 show (⟨[[(Q1p false 0 [1],[1])]],[(Q1p false 0 [1],Q1p false 0 [1])],Q1p false 0 [1],Q1p false (-2) [1],Q1p false (-20) [1],64,4,100⟩:Qam)=pK
 rw[h1,h2,h3];rfl
theorem Qzp:Qx9 xK:=by
 have hl:Low (2^64) [1]:=fun x hx=>by rw[Ux] at hx;subst hx;decide
 refine ⟨⟨by show Q0a false 0 [1];decide,by show Q0a false (-2) [1];decide,by show Q0a false (-20) [1];decide,fun b hb=>?_,by decide,by decide,by decide⟩,⟨1,fun ms N6 m hm=>?_⟩,hl,hl,hl,fun b hb=>?_⟩
 ·have B4:b=⟨⟨false,0,[1]⟩,⟨false,0,[1]⟩⟩:=by simpa[xK] using hb
  subst B4;exact ⟨by unfold Q47.ok;decide,by unfold Q47.ok;decide⟩
 ·have e1:ms=[⟨false,0,[1],[1]⟩]:=by simpa[xK] using N6
  subst e1;rw[Ux] at hm;subst hm;exact ⟨by decide,hl⟩
 ·have B4:b=⟨⟨false,0,[1]⟩,⟨false,0,[1]⟩⟩:=by simpa[xK] using hb
  subst B4;exact ⟨hl,hl⟩
theorem Qzq {s:LU} {T:Qam} (hX:Qpb s=.ok T):∃q st F,Qfh s (s.length+1) 0 0 PrS.empty=.ok (q,st)/\Q9o (s.drop q)=.ok F/\st.over=none/\st.prob F=T:=by
 unfold Qpb at hX;cases hY:Qfh s (s.length+1) 0 0 PrS.empty with
 |error e=>rw[hY] at hX;cases hX
 |ok z=>
  obtain ⟨q,st⟩:=z;rw[hY] at hX;simp only at hX
  split at hX
  ·cases hX
  ·cases hX
  ·cases hX
  ·rename_i hP hov;injection hX with hX;exact ⟨q,st,_,rfl,hP,hov,hX⟩
theorem Qab (s:ByteArray) (w:World) (hs:s.size<=1000000) (hT:Q1s w) (T:Qam) (hX:Qpb s.data.toList=.ok T) (hTr:Qgr T):
 Calls Tryz.prog 16 #[.string s] w fun e w'=>∃p x,e=.returned (.tuple #[.agg (Q57 p x).toArray,.int .i64 0,.int .i64 0])/\Q3x w' p x/\x.prob=T/\Q3c x/\Bw w w':=by
 obtain ⟨q,st,F,hY,hPe,hov,hpT⟩:=Qzq hX;have HY:=Ub hY;have HPe:=Ub hPe;have HOV:=Xh3 hov hpT hTr;clear hX hY hPe hov hpT hTr;obtain ⟨W0,R1,VV⟩:=Qeg s w hs hT;have HT:=Ub VV;clear VV hT
 go_enter Tryz.func16,Tryz.ntmps16
 go_upto_region 2 with fail
 change Code.wp _ _ _ _ ((w.alloc (.cells zpL.toArray 28)).alloc (.cells (zpL++[Value.int .i64 (-1)]).toArray 75))
 rw[R1];clear R1;have QP:s.data.toList.length=s.size:=(Lib.size_eq s).symm
 go_upto_region 5 with (go_at_call 48;refine (Xo0 HT).mono ?_;rintro e W1 ⟨B,p,x,I2,X2,KO,hm⟩;rw[HY.out] at hm;obtain ⟨rfl,P0,Jj,hq⟩:=hm
                        have G1:Blk W1 w.heap.size zpL:=(Xo2 HT).same (X2.block _ (by have:=(Xe4 HT);omega) (by omega));have C0:Bw w W1:=(Xo1 HT).trans (X2.below (by omega) (by have:=(Xe4 HT);omega));have H1:=Xh6 C0 I2 P0 Jj KO G1;have JH:(q:Int)<=(s.size:Int):=(by omega);clear I2 X2 KO C0 P0 Jj G1 hq)
 have hD:(s.extract q s.size).data.toList=s.data.toList.drop q:=Lib.extract_to_end s q;have ZC:=Qex (s.extract q s.size) W1 (by rw[ByteArray.size_extract];omega) ((Xo3 HT).step (Xo0 H1));rw[hD] at ZC;have hlq:(s.data.toList.drop q).length<=1000000:=by rw[Tg];omega
 have HP:=Xh2 ZC hlq;clear hD ZC QP hlq
 go_upto_region 6 with (go_at_call 49;refine (Xo0 HP).mono ?_;rintro e W2 ⟨⟨D0,hm⟩,i5⟩;rw[HPe.out] at hm;obtain ⟨a,n,c,Fv,rfl,hF,hFt,hFr⟩:=hm
                        have K1:=(Xe5 H1).step D0 ((Xe5 H1).lt (v:=.slice none 0 0));obtain ⟨k0,k1,k2,k3,k4,k5,k6,k7,k8,k9,k10,k11,k12,k13⟩:=Q0c K1.c;obtain ⟨f0,f1,f2,f3,f4,f5,f6,f7,f8,f9,f10,f11,f12,f13⟩:=Quw K1 (by decide);have X0:=(Xo1 H1).step D0;have ko:=X0.blk.c 14 _ rfl;have Vp:∀y,a=some y->W1.heap.size<=y.block:=fun y hy=>by { rcases hF.2.2.2 with h0|⟨b0,o0,rfl,_⟩;(have:=hFr.1;rw[h0] at this;simp at this);(injection hy with hy;subst hy;exact i5 b0 o0 n c _ _ rfl) }
                        have H2:=Xh7 K1 (Below.next0 (Xo0 H1) D0) X0 hF hFt hFr Vp;clear K1 D0 X0 hF hFt hFr i5 Vp)
 have hxo:x.over= -1:=by have:=(Xo2 H1).over;rw[(Xo0 HOV)] at this;exact this
 have Je:=Qx8 (Xo2 H1) (Xo3 H1) (Xo0 HOV) Fv;rw[show Q13 Fv=F from (Xo4 H2),(Xo1 HOV)] at Je;have HPR:=Xh2 Je (J1a (Xo2 H1) (Xo3 H1) (Xo0 HOV) Fv);clear Je;rw[hxo] at ko;have X0:=(Xo2 H2);have q0:=X0.blk.c 0 _ rfl;have g0:=X0.blk.f 0 (by simp[rpL]);have hRne:w.heap.size≠w.heap.size+1:=by omega
 have hO3:=Qf1.set X0.blk 0 (.slice a n c);have P5:=X0.blk.set (i:=0) (by simp[rpL]) (.slice a n c);have Jy:Blk (W2.setCell ⟨w.heap.size+1,0,none⟩ (.slice a n c)) w.heap.size zpL:=(Xo0 H2).far (by omega) _;have G0:Bw w (W2.setCell ⟨w.heap.size+1,0,none⟩ (.slice a n c)):=(Xo1 H2).setCell (p:=⟨w.heap.size+1,0,none⟩) (by show w.heap.size<=w.heap.size+1;omega) _;have Ys:Q3x (W2.setCell ⟨w.heap.size+1,0,none⟩ (.slice a n c)) ⟨⟨a,n,c⟩,p.b,p.t,p.m,p.e⟩ ⟨Fv,x.box,x.til,x.most,x.least,x.prec,x.order,x.budget⟩:=
  ⟨(Xo3 H2).only hO3 (Qg8 p x) (fun y hy=>by have h1:=(Xe6 H2) y hy;have h2:=(Xo1 H1).blk.lt;omega),(X0.box.only hO3 (Qg8 p x) (Xo4 H1)).boxIn,X0.t.only hO3 (Qg8 p x),X0.m.only hO3 (Qg8 p x),X0.e.only hO3 (Qg8 p x)⟩
 have hbx3:=X0.box.only hO3 (Qg8 p x) (Xo4 H1);clear X0 hO3
 go_upto_region 13 with fail
 have HRP:=Ub ((Qei Ys (Xo5 H2) (Xe1 HPR)).2 (by rw[(Xo0 HPR)];exact (Xe2 HOV)));obtain ⟨W3,g7⟩:∃W3,W2.setCell ⟨w.heap.size+1,0,none⟩ (.slice a n c)=W3:=⟨_,rfl⟩;rw[g7] at Jy G0 Ys P5 hbx3⊢;have hRt:=Q71 ⟨⟨a,n,c⟩,p.b,p.t,p.m,p.e⟩ ⟨Fv,x.box,x.til,x.most,x.least,x.prec,x.order,x.budget⟩ W3 Ys;simp only[Q57] at hRt;have D8:Q3w W3 (w.heap.size+1) [.slice a n c,.slice p.b.a p.b.l p.b.c,.bool x.til.neg,.int .i64 x.til.exp,.slice p.t.a p.t.l p.t.c,.bool x.most.neg,.int .i64 x.most.exp,.slice p.m.a p.m.l p.m.c,.bool x.least.neg,.int .i64 x.least.exp,.slice p.e.a p.e.l p.e.c,.int .i64 x.prec,.int .i64 x.order,.int .i64 x.budget,.int .i64 x.over]:=P5.c;have r0:=D8 0 _ rfl;have r1:=D8 1 _ rfl;have r2:=D8 2 _ rfl;have r3:=D8 3 _ rfl;have r4:=D8 4 _ rfl;have r5:=D8 5 _ rfl;have r6:=D8 6 _ rfl;have r7:=D8 7 _ rfl;have r8:=D8 8 _ rfl;have r9:=D8 9 _ rfl;have r10:=D8 10 _ rfl;have r11:=D8 11 _ rfl;have r12:=D8 12 _ rfl;have r13:=D8 13 _ rfl;have B8:w.heap.size+1<W3.heap.size:=P5.lt;have H3:=Xh7 Jy G0 Ys hRt D8 B8 hbx3;clear Jy G0 Ys P5 D8 hRt g7 B8 hbx3 k0 k1 k2 k3 k4 k5 k6 k7 k8 k9 k10 k11 k12 k13 ko q0 g0 f0 f1 f2 f3 f4 f5 f6 f7 f8 f9 f10 f11 f12 f13
 go_upto_region 15 with (go_at_call 9;refine (Xo3 H3).mono ?_;rintro e W4 ⟨⟨b,rfl,hb⟩,F2⟩;obtain rfl:b=true:=hb.2 HRP.out
                         have Yx:=(Xo0 H3).step F2 ((Xo0 H3).lt (v:=.slice none 0 0));obtain ⟨k0,k1,k2,k3,k4,k5,k6,k7,k8,k9,k10,k11,k12,k13⟩:=Q0c Yx.c;obtain ⟨f0,f1,f2,f3,f4,f5,f6,f7,f8,f9,f10,f11,f12,f13⟩:=Quw Yx (by decide);have Zo:=(Xo4 H3).step F2 (Xo5 H3);have r0:=Zo 0 _ rfl;have r1:=Zo 1 _ rfl;have r2:=Zo 2 _ rfl;have r3:=Zo 3 _ rfl;have r4:=Zo 4 _ rfl;have r5:=Zo 5 _ rfl;have r6:=Zo 6 _ rfl;have r7:=Zo 7 _ rfl;have r8:=Zo 8 _ rfl;have r9:=Zo 9 _ rfl;have r10:=Zo 10 _ rfl;have r11:=Zo 11 _ rfl;have r12:=Zo 12 _ rfl;have r13:=Zo 13 _ rfl;have H4:=Xh4 Yx (Below.next0 (Xo1 H3) F2) ((Xo2 H3).step F2) ((Xe6 H3).step F2);clear Yx Zo hb F2)
 go_wp2_with fail
 obtain ⟨V,Yt,hO,hz9,V3⟩:=Qef (.slice a n c) (.slice p.b.a p.b.l p.b.c) (.bool x.til.neg) (.int .i64 x.til.exp) (.slice p.t.a p.t.l p.t.c) (.bool x.most.neg) (.int .i64 x.most.exp) (.slice p.m.a p.m.l p.m.c) (.bool x.least.neg) (.int .i64 x.least.exp) (.slice p.e.a p.e.l p.e.c) (.int .i64 x.prec) (.int .i64 x.order) (.int .i64 x.budget) (Xo0 H4) (Xo1 H4) (Ue _);have VW:∀y,a=some y->y.block≠w.heap.size:=fun y hy=>by have h1:=(Xe6 H2) y hy;have h2:=(Xo1 H1).blk.lt;omega
 have hp:=(Xo2 H4);have Kd:=And.intro (hp.f.only hO Q7v VW) (And.intro ((Xe3 H4).only hO Q7v (by have:=(Xo4 H1);omega)).boxIn (And.intro (hp.t.only hO Q7v) (And.intro (hp.m.only hO Q7v) (hp.e.only hO Q7v))));unfold Qkm at Yt;subst Yt;obtain ⟨c0,c1,c2,c3,c4,c5,c6,c7,c8,c9,c10,c11,c12,c13⟩:=Q0c hz9.c;exact ⟨rfl,.tuple #[.agg (Q57 ⟨⟨a,n,c⟩,p.b,p.t,p.m,p.e⟩ ⟨Fv,x.box,x.til,x.most,x.least,x.prec,x.order,x.budget⟩).toArray,.int .i64 0,.int .i64 0],by simp[results,go_sem,Q57,c0,c1,c2,c3,c4,c5,c6,c7,c8,c9,c10,c11,c12,c13],_,_,rfl,⟨Kd.1,Kd.2.1,Kd.2.2.1,Kd.2.2.2.1,Kd.2.2.2.2⟩,(Xo0 HPR),HRP.out,V3⟩
structure Qxa (w:World):Prop where
 tab:Lib.TabIs Tryz.prog w "internal/strconv.uint64pow10" .u64 Lib.pow10Tab
 tz:Q1s w
 big:1<w.heap.size
theorem J1b:Tryz.prog.globalNamed "internal/strconv.uint64pow10" =some 1:=by kernel_rfl
theorem Qxa.below {w w':World} (h:Qxa w) (hb:Bw w w'):Qxa w':=⟨var?_below hb J1b h.big h.tab,h.tz.step hb,Uc h.big hb.size⟩
theorem Qxa.pow {w:World} (h:Qxa w):Qe1 w:=fun _ hb=>(h.below hb).tab
theorem J1c:sv (Qan xK.prob)=.string ⟨(([112,114,101,99,32,54,52,10,111,114,100,101,114,32,52,10,98,117,100,103,101,116,32,49,48,48,10,117,110,116,105,108,32,49,10,109,111]:LU).append [115,116,32,49,112,45,50,10,108,101,97,115,116,32,49,112,45,50,48,10,98,111,120,32,49,32,49,10,120,49,39,32,61,32,120,49,10]).toArray⟩:=by rw[Qv0,Quy];rfl
theorem J1d (p:Qt5):(Q57 p xK)=[.slice p.f.a p.f.l p.f.c,.slice p.b.a p.b.l p.b.c,.bool false,.int .i64 0,.slice p.t.a p.t.l p.t.c,.bool false,.int .i64 (-2),.slice p.m.a p.m.l p.m.c,.bool false,.int .i64 (-20),.slice p.e.a p.e.l p.e.c,.int .i64 64,.int .i64 4,.int .i64 100]:=rfl
theorem Qzr:Qfh sB (sB.length+1) 0 0 PrS.empty=.error (8,5):=by rfl
theorem Qv1 (w:World) (hL:Qxa w):
 Calls Tryz.prog 7 #[] w fun e w'=>e=.returned (.bool true)/\Bw w w':=by
 have QM:=Qab ⟨#[112,114,101,99,32,54,52,10,111,114,100,101,114,32,52,10,98,117,100,103,101,116,32,49,48,48,10,117,110,116,105,108,32,49,10,109,111,115,116,32,49,112,45,50,10,108,101,97,115,116,32,49,112,45,50,48,10,98,111,120,32,49,32,49,10,120,49,39,32,61,32,120,49,10]⟩ w (by decide) hL.tz pK Qr8 Qoq;have JF:=fun W (hb:Bw w W)=>Qhi ⟨#[112,114,101,99,32,54,52,10,111,114,100,101,114,32,48,10]⟩ W (by decide) (hL.below hb).tz 8 5 Qzr;have H:=Xh3 QM JF hL;clear QM JF hL
 go_enter Tryz.func7,Tryz.ntmps7
 go_upto_region 3 with (go_at_call 16;refine (Xo0 H).mono ?_;rintro r w1 ⟨⟨⟨fa,fl,fc⟩,⟨ba,bl,bc⟩,⟨ta,tl,tc⟩,⟨ma,ml,mc⟩,⟨ea,el,ec⟩⟩,x,rfl,o8,Je,hR,C0⟩
                        obtain rfl:x=xK:=Qor (Qhk o8 hR.field (Quz hR)) Qzp (Je.trans Qv0.symm);obtain rfl:1=fl:=o8.f.1;obtain rfl:1=bl:=o8.b.1;have H1:=Xh3 C0 o8 hR;rw[J1d];simp only;clear C0 o8 Je hR)
 obtain ⟨W1,O2⟩:∃W1,w1.alloc (.cells #[.slice fa 1 fc,.slice ba 1 bc,.bool false,.int .i64 0,.slice ta tl tc,.bool false,.int .i64 (-2),.slice ma ml mc,.bool false,.int .i64 (-20),.slice ea el ec,.int .i64 64,.int .i64 4,.int .i64 100] 28)=W1:=⟨_,rfl⟩;have hC:=Q3w.new w1 [.slice fa 1 fc,.slice ba 1 bc,.bool false,.int .i64 0,.slice ta tl tc,.bool false,.int .i64 (-2),.slice ma ml mc,.bool false,.int .i64 (-20),.slice ea el ec,.int .i64 64,.int .i64 4,.int .i64 100] 28
 change Q3w (w1.alloc (.cells #[.slice fa 1 fc,.slice ba 1 bc,.bool false,.int .i64 0,.slice ta tl tc,.bool false,.int .i64 (-2),.slice ma ml mc,.bool false,.int .i64 (-20),.slice ea el ec,.int .i64 64,.int .i64 4,.int .i64 100] 28)) _ _ at hC
 rw[O2] at hC⊢;have E0:w1.heap.size<W1.heap.size:=by rw[<-O2];exact Q0h _ _
 have hb:Bw w1 W1:=by rw[<-O2];exact Ba
 have O0:=Below.next0 (Xo0 H1) hb;have o8:∀W,Bw W1 W->Q3x W ⟨⟨fa,1,fc⟩,⟨ba,1,bc⟩,⟨ta,tl,tc⟩,⟨ma,ml,mc⟩,⟨ea,el,ec⟩⟩ xK:=fun W hW=>((Xo1 H1).step hb).step hW;have H2:=Xh4 O0 (fun W (hW:Bw W1 W)=>hC.step hW E0) o8 E0;clear O2 hC E0 hb O0 o8
 go_upto_region 4 with (go_at_call 16;refine ((Xo1 H) W1 (Xo0 H2)).mono ?_;rintro r w2 ⟨D0,rfl⟩
                        simp only[zpL];have H3:=Ub D0;clear D0)
 have Q3:Bw w2 (w2.alloc (.cells #[.slice none 0 0,.slice none 0 0,.bool false,.int .i64 0,.slice none 0 0,.bool false,.int .i64 0,.slice none 0 0,.bool false,.int .i64 0,.slice none 0 0,.int .i64 0,.int .i64 0,.int .i64 0] 28)):=Ba;obtain ⟨W2,I4⟩:∃W2,w2.alloc (.cells #[.slice none 0 0,.slice none 0 0,.bool false,.int .i64 0,.slice none 0 0,.bool false,.int .i64 0,.slice none 0 0,.bool false,.int .i64 0,.slice none 0 0,.int .i64 0,.int .i64 0,.int .i64 0] 28)=W2:=⟨_,rfl⟩;rw[I4] at Q3⊢;clear I4;have Zr:=Below.next0 H3.out Q3;obtain ⟨k0,k1,k2,k3,k4,k5,k6,k7,k8,k9,k10,k11,k12,k13⟩:=Q0c ((Xo1 H2) W2 Zr);have HR:=Xh2 Zr (fun W (hW:Bw W1 W)=>And.intro (Q71 ⟨⟨fa,1,fc⟩,⟨ba,1,bc⟩,⟨ta,tl,tc⟩,⟨ma,ml,mc⟩,⟨ea,el,ec⟩⟩ xK W ((Xo2 H2) W hW)) (And.intro (Qbh ⟨⟨fa,1,fc⟩,⟨ba,1,bc⟩,⟨ta,tl,tc⟩,⟨ma,ml,mc⟩,⟨ea,el,ec⟩⟩ xK W ((Xo2 H2) W hW) (Xe2 H1) ((Xe2 H).below (Below.next0 (Xo0 H2) hW)).tz ((Xe2 H).below (Below.next0 (Xo0 H2) hW)).pow) (Qbf xK ⟨⟨fa,1,fc⟩,⟨ba,1,bc⟩,⟨ta,tl,tc⟩,⟨ma,ml,mc⟩,⟨ea,el,ec⟩⟩ ⟨⟨fa,1,fc⟩,⟨ba,1,bc⟩,⟨ta,tl,tc⟩,⟨ma,ml,mc⟩,⟨ea,el,ec⟩⟩ W ((Xo2 H2) W hW) ((Xo2 H2) W hW) (Qkk ((Xo2 H2) W hW).f (Xe2 H1).field))));clear Q3 Zr
 go_wp2_with (first
  |(go_at_call 11;refine ((Xe1 HR) w4 H5.out).2.2.mono ?_;rintro r w5 ⟨rfl,Z0⟩;have H6:=Ub (Below.next0 H5.out Z0);clear Z0)
  |(go_at_call 13;refine ((Xe1 HR) w3 H4.out).2.1.mono ?_;rintro r w4 ⟨rfl,F2⟩;rw[J1c]
    have H5:=Ub (Below.next0 H4.out F2);obtain ⟨k0,k1,k2,k3,k4,k5,k6,k7,k8,k9,k10,k11,k12,k13⟩:=Q0c ((Xo1 H2) w4 H5.out);clear F2)
  |(go_at_call 9;refine ((Xe1 HR) W2 (Xo0 HR)).1.mono ?_;rintro r w3 ⟨⟨b,rfl,hbR⟩,G0⟩
    obtain rfl:b=true:=hbR.2 (Xe2 H1);have H4:=Ub (Below.next0 (Xo0 HR) G0);obtain ⟨k0,k1,k2,k3,k4,k5,k6,k7,k8,k9,k10,k11,k12,k13⟩:=Q0c ((Xo1 H2) w3 H4.out);clear G0 hbR))
 go_ret;exact ⟨rfl,Below.next0 (Xo0 H2) H6.out⟩
end Go.Proofs.YtidojbkhlenahaaGreatDoor
namespace Go.Proofs.YtidojbkhlenahaaGreatDoor
open Go.RowKit
theorem Qga {w:World} {p:Addr} {v:Value} (h:w.cell? p=some v):p.block<w.heap.size:=by
 refine TI fun G5=>?_;unfold World.cell? at h;rw[Array.getElem?_eq_none G5] at h;simp at h
theorem Qxb {W:World} (h:laidMet Tryz.prog Rows.problemBackRow.laid W):Lib.TabIs Tryz.prog W "internal/strconv.uint64pow10" .u64 Lib.pow10Tab:=by
 have h1:=h.tail.tail;exact Lib.tabIs_of_head (rest:=_) (t:=249) (e:=83) (n:=20) J1b (by kernel_rfl) (by kernel_rfl) (by kernel_rfl) (by kernel_rfl) (by kernel_rfl) h1
theorem Qxc {W:World} (h:laidMet Tryz.prog Rows.problemBackRow.laid W):Q1s W:=by
 have h1:=h.tail;have ht:Lib.TabIs Tryz.prog W "math/bits.deBruijn64tab" .u8 [0,1,56,2,57,49,28,3,61,58,42,50,38,29,17,4,62,47,59,36,45,43,51,22,53,39,33,30,24,18,12,5,63,55,48,27,60,41,37,16,46,35,44,21,52,32,23,11,54,26,40,15,34,20,31,10,25,14,19,9,13,8,7,6]:=
  Lib.tabIs_of_head (rest:=_) (g:=5) (t:=302) (e:=5) (n:=64) (by kernel_rfl) (by kernel_rfl) (by kernel_rfl) (by kernel_rfl) (by kernel_rfl) (by kernel_rfl) h1
 have hc:=fun i hi=>ht.cell (g:=5) (by kernel_rfl) i hi;refine ⟨Qga (hc 0 (by decide)),fun j hj=>?_⟩;have Yf:j<64:=hj;rw[hc j Yf];have key:∀i:Fin 64,([0,1,56,2,57,49,28,3,61,58,42,50,38,29,17,4,62,47,59,36,45,43,51,22,53,39,33,30,24,18,12,5,63,55,48,27,60,41,37,16,46,35,44,21,52,32,23,11,54,26,40,15,34,20,31,10,25,14,19,9,13,8,7,6]:List Int).getD i.val 0=((Go.Lib.deBruijn64tab.getD i.val 0:Nat):Int):=by decide
 rw[key ⟨j,Yf⟩]
theorem Qzs {W:World} (h:laidMetH Tryz.prog Rows.problemBackRow.laid W) (_hs:W.ShapedOpen Tryz.prog):Qxa W:=by
 rw[MakeChecks.laidMetH_plain _ _ _ (by kernel_rfl)] at h;have ht:=Qxb h;exact ⟨ht,Qxc h,Qga (ht.cell (g:=1) (by kernel_rfl) 0 (by decide))⟩
section
variable {H:Type} {enc:TypeId × Value->H}
theorem Qac {C:Checked} {os:Os} {f:FuncId} {fn:Func} {s:OpenSpec} {conds:List PathCond} {apart:Bool} {laid:List (String × DataW Unit)} (modest:Bool) (w0:World) (args:Array Value) (hos:w0.os=os)
 (Jc:(w0.forCall (fun _ _=>0) ⟨#[],args,[]⟩).Shaped C.prog) (P2:Input.okWideB C.prog (w0.forCall (fun _ _=>0) ⟨#[],args,[]⟩) f ⟨#[],args,[]⟩=true)
 (I0:s.preRow enc C.prog fn conds apart laid (w0.forCall (fun _ _=>0) ⟨#[],args,[]⟩).memory args):
 ∃(w:World) (tape:Tape) (i:Input),w.os=os/\(w.forCall tape i).Shaped C.prog/\i.vars=[]/\Input.okWide C.prog (w.forCall tape i) .any w.heap.size f i/\
  s.preRow enc C.prog fn conds apart laid (w.forCall tape i).memory i.args/\({ modest:=modest }:Assume).holds C.prog (lone (Frame.enter C.prog f i.args .normal) [] (w.forCall tape i)):=
 ⟨w0,fun _ _=>0,⟨#[],args,[]⟩,hos,Jc,(Input.okWide_of_okWideB (base:=0) P2).1,(Input.okWide_of_okWideB P2).2,I0,by
   simp only[Assume.holds];exact ⟨by simp,by simp,fun _=>Modest.zero,by simp,by simp⟩⟩
end
theorem own:ownKnob Tryz.prog.godebug=none:=by kernel_rfl
open Go.ChangeAt Go.ChangeShapes Go.WideShapes
theorem Qv2 {H:Type} {enc:TypeId × Value->H} {W:World} {sp:Nat->Bool} {hd:Bool} {a:OA} {len cap:Nat} {d:DataW H} {p:List MemPlace}
 (h:DataW.Trod enc Tryz.prog W 0 sp hd 24 (.slice a len cap) d p):
 ∃ls:LN,ls.length=len/\len<=9223372036854775807/\RdU W W.heap.size a ls/\∀x∈ls,x<18446744073709551616:=by
 obtain ⟨fuel,hf⟩:=h;rcases open_ints Tryz.underlying24 Tryz.underlying83 (by kernel_rfl) hf with ⟨G8,_⟩|⟨x,l,c,zs,G8,_,hl,hm,hz,_,R0,V8⟩
 ·simp[Value.cells] at G8;obtain ⟨rfl,rfl,rfl⟩:=G8;exact ⟨[],rfl,by omega,.inl rfl,by simp⟩
 ·simp[Value.cells] at G8;obtain ⟨rfl,rfl,rfl⟩:=G8;unfold maxLen at hm;have m8:len<=zs.length:=by rw[hz];split <;> omega
  have o8:∀(i:Nat) z,zs[i]?=some z->0<=z/\z<=18446744073709551615:=by
   intro i z hi;have:=V8 z (Uf hi);simpa[Lit.wf,IntKind.min,IntKind.max,IntKind.signed,IntKind.bits] using this
  refine ⟨(zs.take len).map fun n=>n.toNat,by simp;omega,by omega,?_,?_⟩
  ·by_cases h0:len=0
   ·exact .inl (by simp[h0])
   ·obtain ⟨b,o,spot⟩:=x;have h1:=R0 0 (by omega);have hspot:spot=none:=(by simpa[Addr.add] using World.cell?_spot h1);subst hspot;have hb:b<W.heap.size:=by
     have:=UA h1;rwa[show (Addr.add ⟨b,o,none⟩ 0).block=b by simp[Addr.add]] at this
    refine .inr ⟨b,o,rfl,hb,fun j y hy=>?_⟩;rw[UP] at hy;cases K1:(zs.take len)[j]? with
    |none=>rw[K1] at hy;cases hy
    |some z=>
     rw[K1] at hy;simp only[Uz,Uj] at hy;subst hy;rw[Tw] at K1
     split at K1
     ·next hj=>
      obtain ⟨u4,I2⟩:=o8 j z K1;have hjl:j<zs.length:=(Ul.1 K1).1;have h2:=R0 j hjl;rw[show (⟨b,o,none⟩:Addr).add j=⟨b,o+j,none⟩ by unfold Addr.add;split <;> simp_all] at h2;have e:zs.getD j 0=z:=(by rw[US,K1];rfl);rw[h2,e];unfold uv
      congr 2;omega
     ·cases K1
  ·intro x hx;obtain ⟨z,Jy,rfl⟩:=To.1 hx;obtain ⟨i,hi⟩:=UV.1 (TB Jy);have:=o8 i z hi;omega
end Go.Proofs.YtidojbkhlenahaaGreatDoor
namespace Go.Proofs.YtidojbkhlenahaaGreatDoor
open Go.RowKit WordsM DecM
def Qy2 (neg:Bool) (v:Nat) (exp:Int) (e:Ending) (w':World):Prop:=∃neg' e' a' n' c' L er,e=.returned (.agg #[.bool neg',.int .i64 e',.slice a' n' c'])/\Q7e neg v exp neg' e' L er/\WordsIn w' a' n' c' L
theorem Q61 (neg:Bool) (a:OA) (n c:Nat) (ls:LN) (exp:Int) (w:World) (h:WordsIn w a n c ls) (hn:n<=100000) (he: -1000000000<=exp) (Q6:exp<=1000000000):
 Calls Tryz.prog 76 #[.bool neg,.slice a n c,.int .i64 exp] w fun e w'=>Qy2 neg (val (2^64) ls) exp e w'/\Bw w w':=by
 have Z2:∀o,Bw w (w.alloc o):=fun o=>Ba;have I3:=Q0h w (.cells #[.bool false,.int .i64 0,.slice none 0 0] 26);have O9:=Q03.new w (.bool false) (.int .i64 0) (.slice none 0 0) 26;have hm:=Qd6 neg a n c ls exp (w.alloc (.cells #[.bool false,.int .i64 0,.slice none 0 0] 26)) (h.step (Z2 _)) hn he Q6;have HM:=Xh2 hm O9;clear hm O9 h
 go_enter Tryz.func76,Tryz.ntmps76
 go_wp2_with (refine (Xo0 HM).mono ?_;rintro e w1 ⟨neg2,e2,a2,n2,c2,L,er,rfl,B7,hW,C0⟩;
              have J1:Bw w1 (w1.alloc (.cells #[.bool neg2,.int .i64 e2,.slice a2 n2 c2] 26)):=Ba;have E4:=Below.next0 C0 J1;have A1:=(Xe1 HM).step E4 I3;obtain ⟨N4,O1,E1,m4,Y3,A4⟩:=A1.cf;have C3:=A1.d1 (.bool neg2);have V2:=A1.d2 (.bool neg2) (.int .i64 e2);have JG:=Q03.new w1 (.bool neg2) (.int .i64 e2) (.slice a2 n2 c2) 26;obtain ⟨y8,R6,J5⟩:=JG.cc;have K0:=Xh4 A1 (Below.next0 (Z2 _) E4) (hW.step J1) B7;clear A1 JG J1 E4 C0 hW B7)
 have JN:=(Xo0 K0).store (.bool neg2) (.int .i64 e2) (.slice a2 n2 c2);obtain ⟨k0,k1,k2⟩:=JN.cc;have F3:=Q03.below (Xo1 K0) (Ue _) (.bool neg2) (.int .i64 e2) (.slice a2 n2 c2);have P7:=(Xo2 K0);have QS:WordsIn _ a2 n2 c2 L:=⟨P7.len,P7.cap,P7.most,P7.low,(P7.rd.store3 (Xo0 K0) (fun _=>by simp[nv]) (fun _=>by simp[nv]) (fun _=>by simp[nv]) (.bool neg2) (.int .i64 e2) (.slice a2 n2 c2)).more (Q1i _ _ _ _ _)⟩;clear JN N4 O1 E1 m4 Y3 A4 C3 V2 P7 y8 R6 J5;generalize World.setCell _ _ _=W5 at k0 k1 k2 F3 QS⊢;refine ⟨rfl,.agg #[.bool neg2,.int .i64 e2,.slice a2 n2 c2],by simp[results,go_sem,k0,k1,k2],⟨neg2,e2,a2,n2,c2,L,er,rfl,(Xe3 K0),QS⟩,F3⟩
theorem Qzt (b i n:Nat) (w:World) (h:Q42 w b i) (hi:i<=1000000) (h0:0<n) (hn:n<=1000000):
 Calls Tryz.prog 119 #[.pointer (some ⟨b,0,none⟩),.int .i64 (n:Int)] w fun e w'=>(∃y:Bool,e=.returned (.bool y))/\Q42 w' b (i+1)/\Q0e (·=b) w w':=by
 have hc:=Qdu b i n w h hi h0 hn;have HC:=Ub hc;clear hc h
 go_enter Tryz.func119,Tryz.ntmps119
 go_wp2_with (refine HC.out.mono ?_;rintro e w1 ⟨⟨x,hx,rfl⟩,hd,ht⟩;(have HD:=Xh2 hd ht);clear hd ht)
 go_ret;exact ⟨⟨_,rfl⟩,HD.out⟩
end Go.Proofs.YtidojbkhlenahaaGreatDoor
namespace Go.Proofs.YtidojbkhlenahaaGreatDoor
open Go Go.RowKit
section
variable {P:Program}
def Qzu (P:Program) (ops:Array Oper) (C:World->Prop) (V:Nat->Value->World->Prop) (a0:Act) (Fin:World->Prop) (k0:Nat) (c:Value):List Oper->Prop
 |[o,o2]=>(∀a w,C w->Q7q ops a0 a->(∀i∈Q1v o,V i (Q09 ops a i) w)->Q0n P (fun _ w'=>Fin w') ((execOp a.eval o).run P w))/\k0∈Q1v o/\∀a w,Q7q ops a0 a->Q09 ops a k0=c->(execOp a.eval o2).run P w=.ok (.value c) w
 |_=>False
theorem Q7w {Q:Exit->Act->World->Prop} {id:Nat} {l:List Oper} {a0:Act} {w:World} (hm:P.follows .mixedOrders=true) (n:Nat) (hn:l.length=n+2) (C:World->Prop) (hC:∀w w',C w->Bw w w'->C w') (V:Nat->Value->World->Prop) (hV:∀i v w w',V i v w->Bw w w'->V i v w') (Fin:World->Prop) (k0:Nat) (c:Value) (JZ:∀v w,V k0 v w->v=c) (Vr:k0<n)
 (hB:Q7r l a0.tmps.size=true) (hA:Qnu l n=true) (Jm:((l[n+1]?).map fun o=>(Q1v o).contains n)=some true) (hG:(l.all fun o=>o.guard.isNone)=true) (hD:(l.zipIdx.all fun p=>p.1.dst.isSome || decide (p.2=n))=true) (h0:C w.drew)
 (step:Q3k P Qeo l.toArray C V a0 (l.take n) 0) (last:Qzu P l.toArray C V a0 Fin k0 c (l.drop n)) (fin:∀vs w,Fin w->vs (n+1)=c->Q .normal (Q0y vs l 0 a0) w):(Code.region id l.toArray true).wp P Q a0 w:=by
 have Q5:∀(k:Nat) (o:Oper),l[k]?=some o->∀y,Region.wanted o y=true:=fun k o ho y=>by
  have h1:=Tu.1 hG o (Uf ho);unfold Region.wanted;cases hg:o.guard with
  |none=>rfl
  |some g=>rw[hg] at h1;cases h1
 obtain ⟨o1,o2,M6⟩:∃o1 o2,l.drop n=[o1,o2]:=by
  have h1:(l.drop n).length=2:=by rw[Tg];omega
  cases hl:l.drop n with
  |nil=>rw[hl] at h1;cases h1
  |cons x r=>
   cases r with
   |nil=>rw[hl] at h1;cases h1
   |cons y s=>
    cases s with
    |nil=>exact ⟨x,y,rfl⟩
    |cons z s=>rw[hl] at h1;simp at h1
 have Yb:l[n]?=some o1:=by have:=congrArg (fun x=>x[0]?) M6;simpa using this
 have ZI:l[n+1]?=some o2:=by have:=congrArg (fun x=>x[1]?) M6;simpa using this
 have hdep2:n∈Q1v o2:=by rw[ZI] at Jm;simpa using Jm
 rw[M6] at last;obtain ⟨last1,last0,last2⟩:=last;have E5:∀(D:Nat->Bool) (vs:Nat->Value) (i:Nat) (o:Oper) (v:Value) (w:World),l[i]?=some o->o.dst=none->(if D n=true then (Fin w/\Q27 vs i v k0=c/\(D (n+1)=true->Q27 vs i v (n+1)=c)) else (C w/\D (n+1)=false/\∀j,D j=true->V j (Q27 vs i v j) w))->(if D n=true then (Fin w/\vs k0=c/\(D (n+1)=true->vs (n+1)=c)) else (C w/\D (n+1)=false/\∀j,D j=true->V j (vs j) w)):=by
  intro D vs i o v w hi hd h;have o8:i=n:=by
   have hm:(o,i)∈l.zipIdx:=(by rw[TR];exact hi);have h1:=Tu.1 hD _ hm;simpa[hd] using h1
  subst o8
  split at h
  ·rename_i V7;rw[Us V7];unfold Q27 at h;rw[Up (by omega),Up (by omega)] at h;exact h
  ·rename_i V7;rw[Up V7];refine ⟨h.1,h.2.1,fun j hj=>?_⟩;have:=h.2.2 j hj;unfold Q27 at this;rwa[Up (fun e=>by subst e;exact V7 hj)] at this
 have Y0:∀(k:Nat) (o:Oper),l[k]?=some o->Q6h P l.toArray (fun D vs w=>if D n=true then (Fin w/\vs k0=c/\(D (n+1)=true->vs (n+1)=c)) else (C w/\D (n+1)=false/\∀j,D j=true->V j (vs j) w)) a0 k o:=by
  intro k o ho a w D hI F0 hk q5 C2;have hkn2:k<=n+1:=by have:=(Ul.1 ho).1;omega
  refine ⟨Q5 k o ho _,?_⟩
  by_cases o5:k=n+1
  ·subst o5;rw[ZI] at ho;injection ho with ho;subst ho;have V7:D n=true:=q5 n hdep2;simp only[V7,Xaz] at hI;rw[last2 a w F0 hI.2.1]
   show if Q1z D (n+1) n=true then _ else _
   have e1:Q1z D (n+1) n=true:=(by unfold Q1z;rw[Up (by omega)];exact V7);rw[Us e1];refine ⟨hI.1,?_,fun _=>?_⟩
   ·unfold Q27;rw[Up (by omega)];exact hI.2.1
   ·unfold Q27;rw[Us rfl]
  have Zc:k<=n:=by omega
  have V7:D n=false:=Qda hA (D:=D) (fun j oj hj=>C2 j oj (by simpa using hj)) _ k rfl Zc hk;simp only[V7] at hI;obtain ⟨ZO,Ww,KH⟩:=hI;have ZP:∀i∈Q1v o,V i (Q09 l.toArray a i) w:=fun i hi=>KH i (q5 i hi)
  by_cases JM:k=n
  ·subst JM;rw[Yb] at ho;injection ho with ho;subst ho;have h1:=last1 a w ZO F0 ZP;have hk0v:Q09 l.toArray a k0=c:=JZ _ _ (ZP k0 last0);have hK:∀u w',Fin w'->(if Q1z D k k=true then (Fin w'/\Q27 (Q09 l.toArray a) k u k0=c/\(Q1z D k (k+1)=true->Q27 (Q09 l.toArray a) k u (k+1)=c)) else (C w'/\Q1z D k (k+1)=false/\∀j,Q1z D k j=true->V j (Q27 (Q09 l.toArray a) k u j) w')):=fun u w' h=>by
    rw[Q3g,Us rfl];refine ⟨h,?_,fun h2=>?_⟩
    ·unfold Q27;rw[Up (by omega)];exact hk0v
    ·unfold Q1z at h2;rw[Up (by omega),Ww] at h2;cases h2
   revert h1
   generalize (execOp a.eval o1).run P w=res;intro h1;cases res with
   |ok x w'=>
    cases x with
    |value u=>exact hK u w' h1
    |enter f args=>
     refine Xbd h1 ?_;rintro e w'' ⟨v,rfl,hf⟩;exact ⟨v,rfl,hK v w'' hf⟩
    |skip=>exact hK undef w' h1
    |_=>exact h1.elim
   |halt x w'=>exact h1.elim
  ·have J9:(l.take n)[k]?=some o:=(by rw[Tw,Us (by omega)];exact ho);have h1:=Q3k.at_ _ _ _ _ step J9;rw[UH] at h1;have h1:=h1 a w ZO F0 ZP;rw[Us (Q5 k o ho _)] at h1;have hK:∀u w',Bw w w'->V k u w'->(if Q1z D k n=true then (Fin w'/\Q27 (Q09 l.toArray a) k u k0=c/\(Q1z D k (n+1)=true->Q27 (Q09 l.toArray a) k u (n+1)=c)) else (C w'/\Q1z D k (n+1)=false/\∀j,Q1z D k j=true->V j (Q27 (Q09 l.toArray a) k u j) w')):=fun u w' hb hu=>by
    have e:Q1z D k n=false:=(by unfold Q1z;rw[Up (fun e=>JM e.symm)];exact V7);have e2:Q1z D k (n+1)=false:=(by unfold Q1z;rw[Up (fun e=>o5 e.symm)];exact Ww);rw[e,Up (by decide)];refine ⟨hC _ _ ZO hb,e2,fun j hj=>?_⟩;unfold Q27;unfold Q1z at hj
    by_cases y9:j=k
    ·subst y9;rw[Us rfl];exact hu
    ·rw[Up y9];rw[Up y9] at hj;exact hV _ _ _ _ (KH j hj) hb
   revert h1
   generalize (execOp a.eval o).run P w=res;intro h1;cases res with
   |ok x w'=>
    cases x with
    |value u=>exact hK u w' h1.1 h1.2
    |enter f args=>
     refine Xbd h1 ?_;rintro e w'' ⟨v,rfl,hb,hv⟩;exact ⟨v,rfl,hK v w'' hb hv⟩
    |skip=>exact hK undef w' h1.1 h1.2
    |_=>exact h1.elim
   |halt x w'=>exact h1.elim
 have QK:∀(r:List Oper) (k:Nat),(∀(i:Nat) o,r[i]?=some o->l[k+i]?=some o)->Q89 P l.toArray (fun D vs w=>if D n=true then (Fin w/\vs k0=c/\(D (n+1)=true->vs (n+1)=c)) else (C w/\D (n+1)=false/\∀j,D j=true->V j (vs j) w)) a0 r k:=by
  intro r
  induction r with
  |nil=>intro k _;trivial
  |cons o r ih=>
   intro k h;refine ⟨Y0 k o (by simpa using h 0 o rfl),ih (k+1) fun i o' Qf=>?_⟩;have:=h (i+1) o' (by simpa using Qf);rwa[show k+(i+1)=k+1+i by omega] at this
 refine Q31 hm (fun D vs w=>if D n=true then (Fin w/\vs k0=c/\(D (n+1)=true->vs (n+1)=c)) else (C w/\D (n+1)=false/\∀j,D j=true->V j (vs j) w)) (fun i o hi hd D vs v w h=>E5 D vs i o v w hi hd h) hB (fun vs=>?_) (QK l 0 fun i o h=>by rw[UH];exact h) (fun D vs w Y0 h=>?_)
 ·exact ⟨h0,rfl,fun j hj=>by cases hj⟩
 ·have V7:=Y0 n (by omega);simp only[V7,Xaz] at h;exact fin vs w h.1 (h.2.2 (Y0 (n+1) (by omega)))
end
end Go.Proofs.YtidojbkhlenahaaGreatDoor
namespace Go.Proofs.YtidojbkhlenahaaGreatDoor
open Go.RowKit WordsM DecM
def Q6u (w:World) (u:Value) (d:Dyadic):Prop:=∃(x:Q47) (a:OA) (l c:Nat),u=.agg #[.bool x.neg,.int .i64 x.exp,.slice a l c]/\Q0m w a l c x/\x.ok/\x.val=d
theorem Q6u.step {w w':World} {u:Value} {d:Dyadic} (h:Q6u w u d) (hb:Bw w w'):Q6u w' u d:=by
 obtain ⟨x,a,l,c,rfl,h1,h2,h3⟩:=h;exact ⟨x,a,l,c,rfl,h1.step hb,h2,h3⟩
theorem Qbi (d:Dyadic):Q24 (fun u w=>Q6u w u d):=fun _ _ _ h hb=>h.step hb
theorem Q0m.turnD {w w':World} {b i:Nat} {a:OA} {l c:Nat} {x:Q47} (h:Q0m w a l c x) (hd:Q42 w b i) (ht:Q0e (·=b) w w'):Q0m w' a l c x:=by
 refine ⟨⟨h.lie.len,h.lie.cap,h.lie.most,h.lie.low,?_⟩,h.lo,h.hi⟩;rcases h.lie.rd with h0|⟨g,o,rfl,hg,hc⟩
 ·exact .inl h0
 ·refine .inr ⟨g,o,rfl,Uc hg ht.size,fun j y hy=>?_⟩;have h1:=hc j y hy;refine (ht.cell (p:=⟨g,o+j,none⟩) hg fun e=>?_).trans h1;have e:g=b:=e;subst e;exact hd.nou (o+j) y h1
theorem Qce {neg:Bool} {v:Nat} {exp:Int} {e:Ending} {w':World} (h:Qy2 neg v exp e w') (hf:Q44 (dy (sgn neg v) exp)):∃u,e=.returned u/\Q6u w' u (dy (sgn neg v) exp):=by
 obtain ⟨n',e',a',l',c',L,er,rfl,hm,hw⟩:=h;rcases Q81 hm with ⟨_,_,h1,h2⟩|⟨h0,_⟩
 ·have:=Qa8 h1;exact ⟨_,rfl,⟨n',e',L⟩,a',l',c',rfl,⟨hw,by show _<=e';omega,by show e'<=_;omega⟩,h1,h2⟩
 ·exact absurd hf h0
theorem Qko (u1 u2:Value) (D1 D2:Dyadic) (w:World) (h1:Q7b w u1 D1) (h2:Q7b w u2 D2) (f1:Q44 D1) (f2:Q44 D2):
 Calls Tryz.prog 168 #[.int .i64 0,u1,u2] w (Qnv w (D1+D2)):=by
 obtain ⟨nx,ax,lx,cx,ex,vx,rfl,d1,c1,e1⟩:=h1;obtain ⟨ny,ay,ly,cy,ey,vy,rfl,d2,c2,e2⟩:=h2;have hQ:=fun W=>(Qdj w (.bool nx) (.slice ax lx cx) (.int .i64 ex) (.bool ny) (.slice ay ly cy) (.int .i64 ey) 87 87 87).step (W':=W);obtain ⟨W0,R1⟩:∃W0,((w.alloc (.cells #[.bool nx,.slice ax lx cx,.int .i64 ex] 87)).alloc (.cells #[.bool ny,.slice ay ly cy,.int .i64 ey] 87)).alloc (.cells #[.bool false,.slice none 0 0,.int .i64 0] 87)=W0:=⟨_,rfl⟩;rw[R1] at hQ;have hP:=hQ W0 (Ug _ _);have R7:=Qdl nx ax lx cx ex vx ny ay ly cy ey vy W0 (d1.step hP.bel) (d2.step hP.bel) c1 c2 69632 (by rw[e1];exact Q9x f1 (Ue _)) (by rw[e2];exact Q9x f2 (Ue _)) (by decide);rw[e1,e2] at R7;obtain ⟨k0,k1,k2,_,_,_⟩:=hP.bx;obtain ⟨l0,l1,l2,_,_,_⟩:=hP.by_;have HQ:=Xh2 hQ R7;clear hQ R7 d1 d2 c1 c2 e1 e2 f1 f2
 go_enter Tryz.func168,Tryz.ntmps168
 go_upto_region 1 with fail
 clear R1
 go_wp2_with (go_at_call 151;refine (Xe1 HQ).mono ?_;rintro r W1 ⟨u,rfl,⟨n8,a8,l8,c8,q8,v8,rfl,ZS,T7,JA⟩,C0⟩
              have M3:Q03 W1 (w.heap.size+1+1) (.bool false) (.slice none 0 0) (.int .i64 0):=((Xo0 HQ) W1 C0).br;obtain ⟨k0,k1,k2,f0,f1,f2⟩:=M3.cf;have d1:=M3.d1 (.bool n8);have d2:=M3.d2 (.bool n8) (.slice a8 l8 c8);have HF:=Xh5 (M3.store (.bool n8) (.slice a8 l8 c8) (.int .i64 q8)) (ZS.box M3 (.bool n8) (.slice a8 l8 c8) (.int .i64 q8)) T7 JA (Q03.below ((Xo0 HQ) W1 C0).bel (by omega:w.heap.size<=w.heap.size+1+1) (.bool n8) (.slice a8 l8 c8) (.int .i64 q8));clear M3 ZS T7 JA C0)
 have g0:=(Xo0 HF).c0;have g1:=(Xo0 HF).c1;have g2:=(Xo0 HF).c2;exact ⟨rfl,.agg #[.bool n8,.slice a8 l8 c8,.int .i64 q8],by simp[results,go_sem,g0,g1,g2],_,rfl,⟨n8,a8,l8,c8,q8,v8,rfl,(Xo1 HF),(Xo2 HF),(Xo3 HF)⟩,(Xe4 HF)⟩
def Q9c (d:Dyadic) (u:Value) (w:World):Prop:=∃v,u=.tuple #[v,.int .i64 0]/\Q6u w v d
theorem Q8p (d:Dyadic):Q24 (Q9c d):=fun _ _ _ ⟨v,h1,h2⟩ hb=>⟨v,h1,h2.step hb⟩
theorem Qv3 {n:Bool} {v:Nat} {e:Int} {n':Bool} {e':Int} {L:LN} {er:Int} {a:OA} {l c:Nat} {w:World} (hc:Q4y n v e) (hm:Qn9 n v e n' e' L er) (hw:WordsIn w a l c L) (hf:Q44 (dy (sgn n v) e)):Q9c (dy (sgn n v) e) (.tuple #[.agg #[.bool n',.int .i64 e',.slice a l c],.int .i64 er]) w:=by
 rcases Qf7 hc hm with ⟨_,rfl,h1,h2⟩|⟨h0,_⟩
 ·have:=Qa8 h1;exact ⟨_,rfl,⟨n',e',L⟩,a,l,c,rfl,⟨hw,by show _<=e';omega,by show e'<=_;omega⟩,h1,h2⟩
 ·exact absurd hf h0
def J1v (w:World) (r:Nat) (d:Dyadic) (W:World):Prop:=∃(x:Q47) (a:OA) (l c:Nat),Q03 W r (.bool x.neg) (.int .i64 x.exp) (.slice a l c)/\Q0m W a l c x/\x.ok/\x.val=d/\Bw w W
theorem Qgb {w W:World} {r:Nat} {d:Dyadic} {b0:Bool} {a0:OA} {n0 c0:Nat} {e0:Int} (hr:w.heap.size<=r) (hb:Bw w W) (hN:Q03 W r (.bool b0) (.int .i64 e0) (.slice a0 n0 c0)) {x:Q47} {a:OA} {l c:Nat} (h1:Q0m W a l c x) (h2:x.ok) (h3:x.val=d):
 J1v w r d (((W.setCell ⟨r,0,none⟩ (.bool x.neg)).setCell ⟨r,1,none⟩ (.int .i64 x.exp)).setCell ⟨r,2,none⟩ (.slice a l c)):=
 ⟨x,a,l,c,hN.store _ _ _,⟨h1.lie.set3 hN _ _ _,h1.lo,h1.hi⟩,h2,h3,Q03.below hb hr _ _ _⟩
end Go.Proofs.YtidojbkhlenahaaGreatDoor
