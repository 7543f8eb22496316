/- Part 20. No condition. -/
import Derived.Test.YtidojbkhlenahaaGreatDoorPkProblemDrawn19
set_option maxRecDepth 100000
set_option maxHeartbeats 16000000
namespace Go.Proofs.YtidojbkhlenahaaGreatDoor
open Go.RowKit WordsM DecM
theorem Qrt (x:Dyadic):∃m e,x=dy m e:=by
 rcases Qj9 x with h0|⟨neg,v,e,_,h⟩
 ·exact ⟨0,0,by rw[h0,Q4m]⟩
 ·exact ⟨_,_,h⟩
theorem Qwp (x y:Dyadic):∃m k e,x=dy m e/\y=dy k e:=by
 obtain ⟨m,e,rfl⟩:=Qrt x;obtain ⟨k,f,rfl⟩:=Qrt y;rcases Int.le_total e f with h|h
 ·obtain ⟨j,rfl⟩:=Int.le.dest h;exact ⟨m,k*2^j,e,rfl,by rw[Q88]⟩
 ·obtain ⟨j,rfl⟩:=Int.le.dest h;exact ⟨m*2^j,k,f,by rw[Q88],rfl⟩
theorem Qdm (x:Dyadic):Q2s (0-x)=true↔Q6o x:=by
 obtain ⟨m,e,rfl⟩:=Qrt x;have h0:(0:Dyadic)-dy m e=dy 0 e-dy m e:=by rw[Q4m]
 unfold Q6o;rw[h0,Q4h,Q4g];simp only[TU,Tv];refine ⟨fun h=>⟨fun hz=>?_,by omega⟩,fun ⟨h1,h2⟩=>?_⟩
 ·have:=Qc7 (hz.trans (Q4m e).symm);omega
 ·by_cases hm:m=0
  ·rw[hm,Q4m] at h1;exact absurd rfl h1
  ·omega
theorem Quh {x y:Dyadic} (h:Q6o x) (hu:Q9x x y):Q6o y:=by
 obtain ⟨m,k,e,rfl,rfl⟩:=Qwp x y;unfold Q6o Q9x at*;rw[Q4h] at hu;rw[Q4g] at h⊢;simp only[Tv] at*;refine ⟨fun hz=>?_,?_⟩
 ·have:=Qc7 (hz.trans (Q4m e).symm);have h1:m≠0:=fun h0=>h.1 (by rw[h0,Q4m]);omega
 ·have:=h.2;omega
theorem Qen {s:Int} {x:Dyadic} {b:Bool} (hs:Q3x s x 0) (hb:yesB (Q6o x)=b):decide (0<s)=b:=by
 have h1:=hs.2.trans (Qdm x);rw[<-hb,Xa4,TC,Q0c];exact h1
theorem Qru {s:Int} {x y:Dyadic} {b:Bool} (hs:Q3x s y x) (hb:yesB (Q9x x y)=b):decide (0<=s)=b:=by
 have h1:=hs.1;rw[<-hb,Xa4,TC,Q0c];unfold Q9x
 constructor
 ·intro h;cases hv:Q2s (y-x)
  ·rfl
  ·have:=h1.2 hv;omega
 ·intro h;refine Int.not_lt.1 fun h0=>?_;rw[h1.1 h0] at h;cases h
theorem Qrv:(⟨false,0,[]⟩:Q2u).ok:=show Q0a false 0 [] by decide
theorem Qkl (x:Q33) {b1 b2 b3 b4 b5 b6 b7 b8 b9 b10 b11 b12 b13 b14:Bool} (h1:yesB (Q1u x.field)=b1) (h2:yesB (Qce x.box)=b2) (h3:yesB (x.box.length=x.field.length)=b3) (h4:decide (Q0a x.til.neg x.til.exp x.til.ws)=b4) (h5:decide (Q0a x.most.neg x.most.exp x.most.ws)=b5) (h6:decide (Q0a x.least.neg x.least.exp x.least.ws)=b6) (h7:yesB (Q6o x.til.val)=b7) (h8:yesB (Q6o x.least.val)=b8) (h9:yesB (Q9x x.least.val x.most.val)=b9) (QC:decide (8<=x.prec/\x.prec<=256)=b10) (M8:decide (2<=x.order)=b11) (JR:decide (x.order<=10)=b12) (Zx:decide (1<=x.budget)=b13) (Yy:decide (x.budget<=4096)=b14):
 yesB (Q1h x)=(b1 && (b2 && (b3 && (b4 && (b5 && (b6 && (b7 && (b8 && (b9 && (b10 && (b11 && (b12 && (b13 && (b14)))))))))))))):=by
 subst h1 h2 h3 h4 h5 h6 h7 h8 h9 QC M8 JR Zx Yy;rw[Xa4];simp only[Xad,Q0c,TC];exact ⟨fun h=>⟨h.field,h.box,h.same,h.til.1,h.most.1,h.least.1,h.til.2,h.least.2,h.ord,h.prec,h.order.1,h.order.2,h.budget.1,h.budget.2⟩,fun ⟨h1,h2,h3,h4,h5,h6,h7,h8,h9,QC,M8,JR,Zx,Yy⟩=>⟨h1,h2,h3,⟨h4,h7⟩,⟨h5,Quh h8 h9⟩,⟨h6,h8⟩,h9,QC,⟨M8,JR⟩,⟨Zx,Yy⟩⟩⟩
theorem Qrw (b1 b2 b3 b4 b5 b6:Bool):(b1=true/\b2=true/\b3=true/\b4=true/\b5=true/\b6=true)∨(b1=false)∨(b1=true/\b2=false)∨(b1=true/\b2=true/\b3=false)∨(b1=true/\b2=true/\b3=true/\b4=false)∨(b1=true/\b2=true/\b3=true/\b4=true/\b5=false)∨(b1=true/\b2=true/\b3=true/\b4=true/\b5=true/\b6=false):=by
 cases b1
 ·exact .inr (.inl rfl)
 cases b2
 ·simp
 cases b3
 ·simp
 cases b4
 ·simp
 cases b5
 ·simp
 cases b6
 ·simp
 ·simp
theorem Qrx (b7 b8 b9 b10 b11 b12 b13 b14:Bool):(b7=false)∨(b7=true/\b8=false)∨(b7=true/\b8=true/\b9=false)∨(b7=true/\b8=true/\b9=true/\b10=false)∨(b7=true/\b8=true/\b9=true/\b10=true/\b11=false)∨(b7=true/\b8=true/\b9=true/\b10=true/\b11=true/\b12=false)∨(b7=true/\b8=true/\b9=true/\b10=true/\b11=true/\b12=true/\b13=false)∨(b7=true/\b8=true/\b9=true/\b10=true/\b11=true/\b12=true/\b13=true/\b14=false)∨(b7=true/\b8=true/\b9=true/\b10=true/\b11=true/\b12=true/\b13=true/\b14=true):=by
 cases b7 <;> simp;cases b8 <;> simp;cases b9 <;> simp;cases b10 <;> simp;cases b11 <;> simp;cases b12 <;> simp;cases b13 <;> simp
theorem Qry (n:Int) (w:World):Calls Tryz.prog 27 #[.int .i64 n] w fun r w'=>r=.returned (.bool (decide (8<=n/\n<=256)))/\Bw w w':=by
 by_cases h:8<=n/\n<=256
 ·rw[UW h];obtain ⟨h1,h2⟩:=h
  go_enter Tryz.func27,Tryz.ntmps27
  go_wp2_with fail
  go_ret;exact ⟨rfl,Ud _ _⟩
 ·rw[UU h]
  by_cases h1:8<=n
  ·have h2:¬n<=256:=fun h2=>h ⟨h1,h2⟩;clear h
   go_enter Tryz.func27,Tryz.ntmps27
   go_wp2_with fail
   go_ret;exact ⟨rfl,Ud _ _⟩
  ·clear h
   go_enter Tryz.func27,Tryz.ntmps27
   go_wp2_with fail
   go_ret;exact ⟨rfl,Ud _ _⟩
theorem Q4p [LT ZK] (p:Qfg) (x:Q33) (w:World) (h:Q2j w p x):
 Calls Tryz.prog 10 #[.agg (Q2e p x).toArray] w fun r w'=>r=.returned (.bool (yesB (Q1h x)))/\Bw w w':=by
 obtain ⟨⟨fa,fl,fc⟩,⟨ba,bl,bc⟩,⟨ta,tl,tc⟩,⟨ma,ml,mc⟩,⟨ea,el,ec⟩⟩:=p;obtain ⟨F,B,⟨tn,te,ts⟩,⟨mn,me,ms⟩,⟨en,ee,es⟩,prec,order,budget⟩:=x;have hfl:F.length=fl:=h.f.1;have K4:B.length=bl:=h.b.1;obtain ⟨b1,h1⟩:∃b,yesB (Q1u F)=b:=⟨_,rfl⟩;obtain ⟨b2,h2⟩:∃b,yesB (Qce B)=b:=⟨_,rfl⟩;obtain ⟨b3,h3⟩:∃b,yesB (B.length=F.length)=b:=⟨_,rfl⟩;obtain ⟨b4,h4⟩:∃b,decide (Q0a tn te ts)=b:=⟨_,rfl⟩;obtain ⟨b5,h5⟩:∃b,decide (Q0a mn me ms)=b:=⟨_,rfl⟩;obtain ⟨b6,h6⟩:∃b,decide (Q0a en ee es)=b:=⟨_,rfl⟩;obtain ⟨b7,h7⟩:∃b,yesB (Q6o (Q2u.val ⟨tn,te,ts⟩))=b:=⟨_,rfl⟩;obtain ⟨b8,h8⟩:∃b,yesB (Q6o (Q2u.val ⟨en,ee,es⟩))=b:=⟨_,rfl⟩;obtain ⟨b9,h9⟩:∃b,yesB (Q9x (Q2u.val ⟨en,ee,es⟩) (Q2u.val ⟨mn,me,ms⟩))=b:=⟨_,rfl⟩;obtain ⟨b10,QC⟩:∃b,decide (8<=prec/\prec<=256)=b:=⟨_,rfl⟩;obtain ⟨b11,M8⟩:∃b,decide (2<=order)=b:=⟨_,rfl⟩;obtain ⟨b12,JR⟩:∃b,decide (order<=10)=b:=⟨_,rfl⟩;obtain ⟨b13,Zx⟩:∃b,decide (1<=budget)=b:=⟨_,rfl⟩;obtain ⟨b14,Yy⟩:∃b,decide (budget<=4096)=b:=⟨_,rfl⟩;have HR:=Ua (Qkl ⟨F,B,⟨tn,te,ts⟩,⟨mn,me,ms⟩,⟨en,ee,es⟩,prec,order,budget⟩ h1 h2 h3 h4 h5 h6 h7 h8 h9 QC M8 JR Zx Yy);generalize yesB (Q1h ⟨F,B,⟨tn,te,ts⟩,⟨mn,me,ms⟩,⟨en,ee,es⟩,prec,order,budget⟩)=rr at HR⊢;have hC:=Q2x.new w (Q2e ⟨⟨fa,fl,fc⟩,⟨ba,bl,bc⟩,⟨ta,tl,tc⟩,⟨ma,ml,mc⟩,⟨ea,el,ec⟩⟩ ⟨F,B,⟨tn,te,ts⟩,⟨mn,me,ms⟩,⟨en,ee,es⟩,prec,order,budget⟩) 28;have Q0:Bw w (w.alloc (.cells (Q2e ⟨⟨fa,fl,fc⟩,⟨ba,bl,bc⟩,⟨ta,tl,tc⟩,⟨ma,ml,mc⟩,⟨ea,el,ec⟩⟩ ⟨F,B,⟨tn,te,ts⟩,⟨mn,me,ms⟩,⟨en,ee,es⟩,prec,order,budget⟩).toArray 28)):=Ba;have F0:=Q0o w (.cells (Q2e ⟨⟨fa,fl,fc⟩,⟨ba,bl,bc⟩,⟨ta,tl,tc⟩,⟨ma,ml,mc⟩,⟨ea,el,ec⟩⟩ ⟨F,B,⟨tn,te,ts⟩,⟨mn,me,ms⟩,⟨en,ee,es⟩,prec,order,budget⟩).toArray 28);simp only[Q2e] at hC Q0 F0⊢;obtain ⟨W0,M1⟩:∃W0,w.alloc (.cells #[.slice fa fl fc,.slice ba bl bc,.bool tn,.int .i64 te,.slice ta tl tc,.bool mn,.int .i64 me,.slice ma ml mc,.bool en,.int .i64 ee,.slice ea el ec,.int .i64 prec,.int .i64 order,.int .i64 budget] 28)=W0:=⟨_,rfl⟩;rw[M1] at hC Q0 F0;have hz:∀V,Q0f V none 0 0 ⟨false,0,[]⟩:=fun V=>⟨WordsIn.nil_ V,by decide,by decide⟩;have hr:∀V (y:Q2u) a l c,Q0f V a l c y->Calls Tryz.prog 25 #[.agg #[.bool y.neg,.int .i64 y.exp,.slice a l c]] V fun e w'=>e=.returned (.bool (decide (Q0a y.neg y.exp y.ws)))/\Bw V w':=fun V y a l c hy=>Q1m y.neg y.exp a l c y.ws V hy.lie hy.lo hy.hi (Uj hy.lie.cap hy.lie.most);have HC:=Ua (fun V (hV:Bw W0 V)=>have hh:=h.step (Below.next0 Q0 hV);And.intro (hC.step hV F0) (And.intro (yn1 (Q6b fa fl fc F V hh.f) h1) (And.intro (yn1 (Qd5 ba bl bc B V hh.b) h2) (And.intro (hr V ⟨tn,te,ts⟩ ta tl tc hh.t) (And.intro (hr V ⟨mn,me,ms⟩ ma ml mc hh.m) (And.intro (hr V ⟨en,ee,es⟩ ea el ec hh.e) (And.intro (fun i1=>Q4u ⟨tn,te,ts⟩ ⟨false,0,[]⟩ ta tl tc none 0 0 V hh.t (hz V) i1 Qrv) (And.intro (fun i1=>Q4u ⟨en,ee,es⟩ ⟨false,0,[]⟩ ea el ec none 0 0 V hh.e (hz V) i1 Qrv) (fun i1 i2=>Q4u ⟨mn,me,ms⟩ ⟨en,ee,es⟩ ma ml mc ea el ec V hh.m hh.e i1 i2)))))))));have HH:=Xh8 h4 h5 h6 h7 h8 h9 QC Q0;obtain ⟨k0,k1,k2,k3,k4,k5,k6,k7,k8,k9,k10,k11,k12,k13⟩:=Q05 hC;have key:=Qrw b1 b2 b3 b4 b5 b6;have Vn:=fun h:b3=true=>Q0c.1 (h3.trans h);have h3n:b3=false->¬(bl:Int)=(fl:Int):=fun h e=>by rw[Q0c.2 (by omega)] at h3;rw[h] at h3;cases h3
 have h3y:b3=true->(bl:Int)=(fl:Int):=fun h=>by have:=Vn h;omega
 clear hC Q0 F0 h h1 h2 h4 h5 h6 h7 h8 h9 QC h3 Vn hr hz;rcases key with ⟨rfl,rfl,rfl,rfl,rfl,rfl⟩|rfl|⟨rfl,rfl⟩|⟨rfl,rfl,rfl⟩|⟨rfl,rfl,rfl,rfl⟩|⟨rfl,rfl,rfl,rfl,rfl⟩|⟨rfl,rfl,rfl,rfl,rfl,rfl⟩
 ·have q3:=h3y rfl;clear h3n h3y
  go_enter Tryz.func10,Tryz.ntmps10
  go_upto_region 1 with fail
  clear M1
  go_upto_region 4 with (first
   |(go_at_call 23;refine ((HC.out W0 (Ud _ _)).2.1).mono ?_;rintro e w1 ⟨rfl,hb⟩;have H1:=Ua hb;have hq:=(HC.out w1 H1.out).1;obtain ⟨k0,k1,k2,k3,k4,k5,k6,k7,k8,k9,k10,k11,k12,k13⟩:=Q05 hq;clear hq hb)
   |(go_at_call 24;refine ((HC.out w1 H1.out).2.2.1).mono ?_;rintro e w2 ⟨rfl,hb⟩;have H2:=Ua (Below.next0 H1.out hb);have hq:=(HC.out w2 H2.out).1;obtain ⟨k0,k1,k2,k3,k4,k5,k6,k7,k8,k9,k10,k11,k12,k13⟩:=Q05 hq;clear hq hb)
   |(go_at_call_of 25 (Value.agg #[.bool tn,.int .i64 te,.slice ta tl tc]);refine ((HC.out w2 H2.out).2.2.2.1).mono ?_;rintro e w3 ⟨rfl,hb⟩;rw[(Xo0 HH)];have H3:=Ua (Below.next0 H2.out hb);have hq:=(HC.out w3 H3.out).1;obtain ⟨k0,k1,k2,k3,k4,k5,k6,k7,k8,k9,k10,k11,k12,k13⟩:=Q05 hq;clear hq hb)
   |(go_at_call_of 25 (Value.agg #[.bool mn,.int .i64 me,.slice ma ml mc]);refine ((HC.out w3 H3.out).2.2.2.2.1).mono ?_;rintro e w4 ⟨rfl,hb⟩;rw[(Xo1 HH)];have H4:=Ua (Below.next0 H3.out hb);have hq:=(HC.out w4 H4.out).1;obtain ⟨k0,k1,k2,k3,k4,k5,k6,k7,k8,k9,k10,k11,k12,k13⟩:=Q05 hq;clear hq hb)
   |(go_at_call_of 25 (Value.agg #[.bool en,.int .i64 ee,.slice ea el ec]);refine ((HC.out w4 H4.out).2.2.2.2.2.1).mono ?_;rintro e w5 ⟨rfl,hb⟩;rw[(Xo2 HH)];have H5:=Ua (Below.next0 H4.out hb);have hq:=(HC.out w5 H5.out).1;obtain ⟨k0,k1,k2,k3,k4,k5,k6,k7,k8,k9,k10,k11,k12,k13⟩:=Q05 hq;clear hq hb))
  have hN:=Q03.new w5 (.bool false) (.int .i64 0) (.slice none 0 0) 26;have Q1:Bw w5 (w5.alloc (.cells #[.bool false,.int .i64 0,.slice none 0 0] 26)):=Ba;have hlz:=Q0o w5 (.cells #[.bool false,.int .i64 0,.slice none 0 0] 26);obtain ⟨w6,hw6⟩:∃w6,w5.alloc (.cells #[.bool false,.int .i64 0,.slice none 0 0] 26)=w6:=⟨_,rfl⟩;rw[hw6] at hN Q1 hlz⊢;clear hw6;have H6:=Xh2 (Below.next0 H5.out Q1) (Ud w6.heap.size w6);have HZ:=Ua (fun W (hW:Bw w6 W)=>hN.step hW hlz);obtain ⟨k0,k1,k2,k3,k4,k5,k6,k7,k8,k9,k10,k11,k12,k13⟩:=Q05 (HC.out w6 (Xo0 H6)).1;obtain ⟨z0,z1,z2⟩:=hN.cc;clear hN Q1 hlz;have I4:Q0a tn te ts:=TF (Xo0 HH);have I5:Q0a mn me ms:=TF (Xo1 HH);have I6:Q0a en ee es:=TF (Xo2 HH);have HI:=Xh3 I4 I5 I6;clear I4 I5 I6;have key:=Qrx b7 b8 b9 b10 b11 b12 b13 b14;rcases key with rfl|⟨rfl,rfl⟩|⟨rfl,rfl,rfl⟩|⟨rfl,rfl,rfl,rfl⟩|⟨rfl,rfl,rfl,rfl,rfl⟩|⟨rfl,rfl,rfl,rfl,rfl,rfl⟩|⟨rfl,rfl,rfl,rfl,rfl,rfl,rfl⟩|⟨rfl,rfl,rfl,rfl,rfl,rfl,rfl,rfl⟩|⟨rfl,rfl,rfl,rfl,rfl,rfl,rfl,rfl⟩
  all_goals
   first|have o11:=TF M8|have o11:=Xaq M8|skip
   first|have o12:=TF JR|have o12:=Xaq JR|skip
   first|have o13:=TF Zx|have o13:=Xaq Zx|skip
   first|have o14:=TF Yy|have o14:=Xaq Yy|skip
   clear M8 JR Zx
   go_wp2_with (first
    |(go_at_call_of 26 (Value.agg #[.bool tn,.int .i64 te,.slice ta tl tc]);refine ((HC.out w6 (Xo0 H6)).2.2.2.2.2.2.1 (Xo0 HI)).mono ?_;rintro e w7 ⟨⟨s7,rfl,hs⟩,hb⟩;have hs7:=Qen hs (Xo3 HH);simp only[TU,Tv] at hs7;clear hs;have H7:=Xh2 (Below.next0 (Xo0 H6) hb) (Below.next0 (Xe1 H6) hb);have hq:=(HC.out w7 (Xo0 H7)).1;obtain ⟨k0,k1,k2,k3,k4,k5,k6,k7,k8,k9,k10,k11,k12,k13⟩:=Q05 hq;have hz:=HZ.out w7 (Xe1 H7);obtain ⟨z0,z1,z2⟩:=hz.cc;clear hq hb hz)
    |(go_at_call_of 26 (Value.agg #[.bool mn,.int .i64 me,.slice ma ml mc]);refine ((HC.out w8 (Xo0 H8)).2.2.2.2.2.2.2.2 (Xo1 HI) (Xe2 HI)).mono ?_;rintro e w9 ⟨⟨s9,rfl,hs⟩,hb⟩;have hs9:=Qru hs (Xo5 HH);simp only[TU,Tv] at hs9;clear hs;have H9:=Xh2 (Below.next0 (Xo0 H8) hb) (Below.next0 (Xe1 H8) hb);have hq:=(HC.out w9 (Xo0 H9)).1;obtain ⟨k0,k1,k2,k3,k4,k5,k6,k7,k8,k9,k10,k11,k12,k13⟩:=Q05 hq;have hz:=HZ.out w9 (Xe1 H9);obtain ⟨z0,z1,z2⟩:=hz.cc;clear hq hb hz)
    |(go_at_call_of 26 (Value.agg #[.bool en,.int .i64 ee,.slice ea el ec]);refine ((HC.out w7 (Xo0 H7)).2.2.2.2.2.2.2.1 (Xe2 HI)).mono ?_;rintro e w8 ⟨⟨s8,rfl,hs⟩,hb⟩;have VA:=Qen hs (Xo4 HH);simp only[TU,Tv] at VA;clear hs;have H8:=Xh2 (Below.next0 (Xo0 H7) hb) (Below.next0 (Xe1 H7) hb);have hq:=(HC.out w8 (Xo0 H8)).1;obtain ⟨k0,k1,k2,k3,k4,k5,k6,k7,k8,k9,k10,k11,k12,k13⟩:=Q05 hq;have hz:=HZ.out w8 (Xe1 H8);obtain ⟨z0,z1,z2⟩:=hz.cc;clear hq hb hz)
    |(go_at_call 27;refine (Qry prec w9).mono ?_;rintro e w10 ⟨rfl,hb⟩;rw[(Xo6 HH)];have Jl:=Xh2 (Below.next0 (Xo0 H9) hb) (Below.next0 (Xe1 H9) hb);have hq:=(HC.out w10 (Xo0 Jl)).1;obtain ⟨k0,k1,k2,k3,k4,k5,k6,k7,k8,k9,k10,k11,k12,k13⟩:=Q05 hq;have hz:=HZ.out w10 (Xe1 Jl);obtain ⟨z0,z1,z2⟩:=hz.cc;clear hq hb hz))
   go_ret
   first
   |exact ⟨by rw[HR.out];rfl,Below.next0 (Xe7 HH) (Xo0 Jl)⟩
   |exact ⟨by rw[HR.out];rfl,Below.next0 (Xe7 HH) (Xo0 H9)⟩
   |exact ⟨by rw[HR.out];rfl,Below.next0 (Xe7 HH) (Xo0 H8)⟩
   |exact ⟨by rw[HR.out];rfl,Below.next0 (Xe7 HH) (Xo0 H7)⟩
 all_goals
  go_enter Tryz.func10,Tryz.ntmps10
  first|have q3:=h3n rfl|have q3:=h3y rfl|skip
  clear h3n h3y
  go_upto_region 1 with fail
  clear M1
  go_wp2_with (first
   |(go_at_call 23;refine ((HC.out W0 (Ud _ _)).2.1).mono ?_;rintro e w1 ⟨rfl,hb⟩;have H1:=Ua hb;have hq:=(HC.out w1 H1.out).1;obtain ⟨k0,k1,k2,k3,k4,k5,k6,k7,k8,k9,k10,k11,k12,k13⟩:=Q05 hq;clear hq hb)
   |(go_at_call 24;refine ((HC.out w1 H1.out).2.2.1).mono ?_;rintro e w2 ⟨rfl,hb⟩;have H2:=Ua (Below.next0 H1.out hb);have hq:=(HC.out w2 H2.out).1;obtain ⟨k0,k1,k2,k3,k4,k5,k6,k7,k8,k9,k10,k11,k12,k13⟩:=Q05 hq;clear hq hb)
   |(go_at_call_of 25 (Value.agg #[.bool tn,.int .i64 te,.slice ta tl tc]);refine ((HC.out w2 H2.out).2.2.2.1).mono ?_;rintro e w3 ⟨rfl,hb⟩;rw[(Xo0 HH)];have H3:=Ua (Below.next0 H2.out hb);have hq:=(HC.out w3 H3.out).1;obtain ⟨k0,k1,k2,k3,k4,k5,k6,k7,k8,k9,k10,k11,k12,k13⟩:=Q05 hq;clear hq hb)
   |(go_at_call_of 25 (Value.agg #[.bool mn,.int .i64 me,.slice ma ml mc]);refine ((HC.out w3 H3.out).2.2.2.2.1).mono ?_;rintro e w4 ⟨rfl,hb⟩;rw[(Xo1 HH)];have H4:=Ua (Below.next0 H3.out hb);have hq:=(HC.out w4 H4.out).1;obtain ⟨k0,k1,k2,k3,k4,k5,k6,k7,k8,k9,k10,k11,k12,k13⟩:=Q05 hq;clear hq hb)
   |(go_at_call_of 25 (Value.agg #[.bool en,.int .i64 ee,.slice ea el ec]);refine ((HC.out w4 H4.out).2.2.2.2.2.1).mono ?_;rintro e w5 ⟨rfl,hb⟩;rw[(Xo2 HH)];have H5:=Ua (Below.next0 H4.out hb);have hq:=(HC.out w5 H5.out).1;obtain ⟨k0,k1,k2,k3,k4,k5,k6,k7,k8,k9,k10,k11,k12,k13⟩:=Q05 hq;clear hq hb))
  go_ret
  first
  |exact ⟨by rw[HR.out];rfl,Below.next0 (Xe7 HH) H5.out⟩
  |exact ⟨by rw[HR.out];rfl,Below.next0 (Xe7 HH) H4.out⟩
  |exact ⟨by rw[HR.out];rfl,Below.next0 (Xe7 HH) H3.out⟩
  |exact ⟨by rw[HR.out];rfl,Below.next0 (Xe7 HH) H2.out⟩
  |exact ⟨by rw[HR.out];rfl,Below.next0 (Xe7 HH) H1.out⟩
end Go.Proofs.YtidojbkhlenahaaGreatDoor
namespace Go.Proofs.YtidojbkhlenahaaGreatDoor
open Go.RowKit WordsM
theorem Qo9 (n:Bool) (e:Int) (a:OA) (l c:Nat) (L:LN) (w:World) (h:WordsIn w a l c L) (hi:Q0a n e L):
 Calls Tryz.prog 115 #[.agg #[.bool n,.int .i64 e,.slice a l c]] w fun r w'=>r=.returned (.agg #[.bool false,.int .i64 e,.slice a l c])/\Bw w w':=by
 obtain ⟨B5,hX,hR,hB⟩:=Q89 w (.bool n) (.int .i64 e) (.slice a l c) (.bool false) (.int .i64 0) (.slice none 0 0) 26 26;have O2:l=0↔L=[]:=by rw[<-h.len];exact UC
 have P2:=h.len;generalize hW:(w.alloc (.cells #[.bool n,.int .i64 e,.slice a l c] 26)).alloc (.cells #[.bool false,.int .i64 0,.slice none 0 0] 26)=W at B5 hX hR hB;have S6: -65536<=e/\e<=65536:=by rcases Q1f hi h.low with ⟨_,_,h0⟩|⟨_,_,_,_,h1,h2⟩ <;> omega
 have j9:=Q1m n e a l c L W (h.step hB) (by omega) (by omega) (by have:=h.cap;have:=h.most;omega);rw[UW hi] at j9;obtain ⟨x0,x1,x2⟩:=hX.cc;have HR:=Xh6 j9 hX hR hB B5 O2;clear j9 hX hR hB B5 O2 S6 h P2
 go_enter Tryz.func115,Tryz.ntmps115
 go_upto_region 3 with (go_at_call 25;refine (Xo0 HR).mono ?_;rintro r w1 ⟨rfl,C0⟩;have H1:=Ua C0;clear C0)
 have JC:=(Xo1 HR).step H1.out (by have:=(Xo4 HR);omega);have m7:=(Xo2 HR).step H1.out (by have:=(Xo4 HR);omega);obtain ⟨x0,x1,x2⟩:=JC.cc;have f0:=m7.f0;have f1:=m7.f1;have f2:=m7.f2;obtain ⟨c0,c1,c2⟩:=m7.cc;have HQ:=Xh2 JC m7;clear JC m7;have d1:=(Xe1 HQ).d1 (.bool false);have d2:=(Xe1 HQ).d2 (.bool false) (.int .i64 e)
 go_wp2_with fail
 have hS:=(Xe1 HQ).store (.bool false) (.int .i64 e) (.slice a l c);obtain ⟨k0,k1,k2⟩:=hS.cc;have X3:=Q03.below (Below.next0 (Xo3 HR) H1.out) (show w.heap.size<=w.heap.size+1 by omega) (.bool false) (.int .i64 e) (.slice a l c);exact ⟨rfl,.agg #[.bool false,.int .i64 e,.slice a l c],by simp[results,go_sem,k0,k1,k2],rfl,X3⟩
open DecM
section
variable {w w':World} {R:Nat} {s:ByteArray} {p n d bad:Int} {a:OA} {m c:Nat}
end
section
variable {w w':World} {R B:Nat} {s:ByteArray} {p n d bad:Int} {a:OA} {m c:Nat} {xs:LV}
end
theorem Qyk {Φ P:World->Prop} (W:World) (hW:Φ W) (h:∀U,Φ U->P U):P W:=h W hW
theorem Qui (wr:World) (v:Int) (d:UInt8) (hv:v=(d.toNat:Int)):(convert 55 9 (.slice (some ⟨wr.heap.size,0,none⟩) 1 1)).run Tryz.prog (wr.alloc (.cells #[.int .u8 v] 5))=.ok (.string ⟨#[d]⟩) (wr.alloc (.cells #[.int .u8 v] 5)):=by
 refine Qai _ (wr.heap.size+1) _ 1 1 [d] ?_ rfl;refine .inr ⟨wr.heap.size,0,rfl,by omega,fun j x hx=>?_⟩;cases j with
 |zero=>
  have hx:some d=some x:=hx;injection hx with hx;subst hx;rw[UL _ _ _ _ _ _ (Up _ _),hv];rfl
 |succ j=>cases hx
theorem Q7r (n:Nat) (hn:n<10) (w:World):
 Calls Tryz.prog 74 #[.int .i64 (n:Int)] w fun r w'=>r=.returned (sv (dec n))/\Bw w w':=by
 have hm:(n:Int)%10=(n:Int):=by omega
 have S4:IntKind.i64.wrap (48+(n:Int))=48+(n:Int):=by rw[UY];omega
 have Z4:IntKind.u8.wrap (48+(n:Int))=48+(n:Int):=by rw[IntKind.wrap_u8];omega
 obtain ⟨q,hq⟩:∃q,UInt8.ofNat (48+n)=q:=⟨_,rfl⟩;have hd:(48:Int)+(n:Int)=(q.toNat:Int):=by rw[<-hq,Q4x n hn];omega
 have JD:=Qui w _ _ hd;have hb:Bw w (w.alloc (.cells #[.int .u8 (48+(n:Int))] 5)):=Ba;have H:=Xh3 hb hn hq;clear hb hd hn hq
 go_enter Tryz.func74,Tryz.ntmps74
 go_wp2_with fail
 go_ret;exact ⟨by rw[Q1z (Xo1 H),(Xe2 H)];rfl,(Xo0 H)⟩
theorem Qah:∀(l:List (LU)) (t:LU),l≠[]->Q2o (l++[t])=Q2o l++42::t
 |[],_,h=>absurd rfl h
 |[x],t,_=>by simp[Q2o]
 |x::y::r,t,_=>by
  have:=Qah (y::r) t (by simp);simp only[Xab,Q2o] at this⊢;rw[this];simp
theorem Qrz:∀(l:List (LU)),(∀t∈l,t≠[])->(Q2o l=[]↔l=[])
 |[],_=>by simp[Q2o]
 |[x],h=>by simp[Q2o,h x (by simp)]
 |x::y::r,h=>by simp[Q2o,h x (by simp)]
theorem Qm3:∀(E:List Int) (i:Nat),∀t∈Q1b i E,t≠[]
 |[],_,t,h=>by simp[Q1b] at h
 |k::r,i,t,h=>by
  rw[Q1b] at h;rcases Tl.1 h with h|h
  ·unfold Qal at h
   split at h
   ·simp at h;subst h;simp
   ·split at h
    ·simp at h;subst h;simp
    ·simp at h
  ·exact Qm3 r (i+1) t h
theorem Qeo:∀(E:List Int) (i:Nat),(∀x∈E,0<=x)->(Q1b i E=[]↔E.sum=0)
 |[],_,_=>by simp[Q1b]
 |k::r,i,h=>by
  have h0:=h k (by simp);have ih:=Qeo r (i+1) (fun x hx=>h x (by simp[hx]));have hs:0<=r.sum:=Qvv fun x hx=>h x (by simp[hx]);rw[Q1b,List.append_eq_nil_iff,ih,Xa8];unfold Qal
  split
  ·simp;omega
  ·split
   ·simp;omega
   ·simp;omega
theorem Qwq {e:Int} {L:LN} (h:Q0a false e L):Q25 false e L≠[]:=by
 unfold Q25;rw[Uu h,Q2a];intro e0;have h1:=congrArg List.length e0;simp only[Ui,UP] at h1;have h2:=Q3k (val (2^64) L);omega
theorem Q76 {a b:ByteArray} (h:a.data.toList=b.data.toList):Value.string a=Value.string b:=congrArg Value.string (ByteArray.ext (Array.toList_inj.1 h))
def Qz5 (pre:List (LU)) (E:List Int) (w:World) (s3 s7:Value) (wr:World):Prop:=∃i:Nat,s3=sv (Q2o (pre++Q1b 0 (E.take i)))/\s7=.int .i64 (i:Int)/\i<=E.length/\Bw w wr
theorem Qd6 [LT ZK] (k:Nat) (m:Q01) (a:OA) (l c:Nat) (b:OA) (n d:Nat) (w:World) (hw:WordsIn w a l c m.ws) (he:Q0p w b n d m.es) (X1:OkM k m) (ZU:k<=4):
 Calls Tryz.prog 75 #[.agg #[.bool m.neg,.int .i64 m.exp,.slice a l c,.slice b n d]] w fun r w'=>r=.returned (sv (Q1t m.term))/\Bw w w':=by
 have hX:=Q50.new w (.bool m.neg) (.int .i64 m.exp) (.slice a l c) (.slice b n d) 98;have A2:Bw w (w.alloc (.cells #[.bool m.neg,.int .i64 m.exp,.slice a l c,.slice b n d] 98)):=Ba;have O6:=Q0o w (.cells #[.bool m.neg,.int .i64 m.exp,.slice a l c,.slice b n d] 98);have O0:=he.len;have XL:m.es.length<=4:=by have:=X1.1.1.1;omega
 have X4:=Q3p X1.1.1;have Q4:=he.cap;have Yn:=he.most;obtain ⟨e0,e1,e2⟩:=hX.cc;have e3:=hX.c3;have H:=Xh7 hw he X1 hX A2 O6 X4;clear hw he X1 hX A2 O6 X4
 go_enter Tryz.func75,Tryz.ntmps75
 go_wp2_with fail
 generalize R1:w.alloc (.cells #[.bool m.neg,.int .i64 m.exp,.slice a l c,.slice b n d] 98)=W1 at e0 e1 e2 e3 H⊢;clear R1
 go_loopw [4,5] (fun s4 s5 wr=>∃(i:Nat) (S:Int),s4=.int .i64 S/\s5=.int .i64 (i:Int)/\i<=n/\(m.es.take i).sum=S/\0<=S/\S<=8*i/\W1=wr) (fun _ iv _=>n-(intOf iv).toNat)
 case atStart=>exact ⟨0,0,rfl,rfl,Uv _,by simp,by decide,by decide,rfl⟩
 case round=>
  obtain ⟨i,S,rfl,rfl,hi,hS,Jh,hS8,rfl⟩:=hrel
  by_cases F0:i<m.es.length
  ·have G0:(i:Int)<(n:Int):=(by omega);obtain ⟨x,hx⟩:∃x,m.es[i]?=some x:=⟨_,Ub F0⟩;obtain ⟨b0,o0,j5,Q0,Y4⟩:=((Xo1 H).step (Xo4 H)).rd.at_ hx;subst j5;obtain ⟨Y5,hx8⟩:=(Xe6 H) x (Ug hx);have Qi:=Qfe hx;have HS:=Xh2 hS Qi;clear hS Qi hx
   go_wp2_with fail
   exact ⟨⟨i+1,S+x,rfl,congrArg (Value.int .i64) (by omega),by omega,by rw[(Xe1 HS),(Xo0 HS)],by omega,by omega,trivial⟩,by simp only[intOf];omega⟩
  ·have G0:¬((i:Int)<(n:Int)):=(by omega);have p8:i=m.es.length:=(by omega);rw[p8,Tw] at hS;have hwW:=(Xo0 H).step (Xo4 H);have S6: -65536<=m.exp/\m.exp<=65536:=by rcases Q1f (Xo2 H).1.2 hwW.low with ⟨_,_,h0⟩|⟨_,_,_,_,h1,h2⟩ <;> omega
   have Ko:=Qo9 m.neg m.exp a l c m.ws W1 hwW (Xo2 H).1.2;obtain ⟨g1,g2,g3,g4⟩:=Qcm (Xo2 H) hwW.low;have hpz:=Qeo m.es 0 (Xo2 H).1.1.2.1;have HS:=Xh7 hS Ko g1 g2 g3 hpz hwW;have Yl:=g4;clear hS Ko g1 g2 g3 g4 hpz hwW p8 hS8 Jh
   go_upto_region 7 with (go_at_call 115;refine (Xo1 HS).mono ?_;rintro r w4 ⟨rfl,Y2⟩;have H4:=Ua Y2;clear Y2)
   have hN:=Q03.new w4 (.bool false) (.int .i64 m.exp) (.slice a l c) 26;have R4:Bw w4 (w4.alloc (.cells #[.bool false,.int .i64 m.exp,.slice a l c] 26)):=Ba;have O6:=Q0o w4 (.cells #[.bool false,.int .i64 m.exp,.slice a l c] 26);refine Qyk (Φ:=fun U=>Q03 U w4.heap.size (.bool false) (.int .i64 m.exp) (.slice a l c)/\Bw w4 U/\w4.heap.size<U.heap.size) (P:=fun U=>Code.wp _ _ _ _ U) _ ⟨hN,R4,O6⟩ ?_;clear hN R4 O6;intro V hV;have n0:=hV.1.c0;have n1:=hV.1.c1;have n2:=hV.1.c2;have hbV:=Below.next0 H4.out hV.2.1;have HC:=Xh3 hV ((Xe6 HS).step hbV) hbV;have m3:=(hbV.cell (p:=⟨w.heap.size,3,none⟩) (Xo5 H)).trans e3;clear hV hbV e0 e1 e2 e3;obtain ⟨pre,R2⟩:∃pre,(if Q1b 0 m.es=[]∨Qmk m.term.1≠1 then [Q25 false m.exp m.ws] else [])=pre:=⟨_,rfl⟩;have YN:Q3o m.term=pre++Q1b 0 m.es:=by
    unfold Q3o;rw[<-R2,(Xo3 HS),show m.term.2=m.es from rfl]
    split <;> rfl
   have hpne:∀t∈pre,t≠[]:=by
    rw[<-R2];intro t ht
    split at ht
    ·rw[Uy] at ht;subst ht;exact Qwq (Xo4 HS)
    ·cases ht
   have Qg:∀i,(Q2o (pre++Q1b 0 (m.es.take i))).length<=8406:=fun i=>by
    have F9:=Q6u (m.es.take i) 0 (by rw[UR];omega) (fun x hx=>((Xe6 H) x (Td hx)).2);have C6:pre.length<=1:=(by rw[<-R2];split <;> simp);have Z6:(pre++Q1b 0 (m.es.take i)).length<=6:=(by rw[Ui];have h2:=F9.2;rw[UR] at h2;omega);have h3:=Q9o (N:=1400) (pre++Q1b 0 (m.es.take i)) (fun t ht=>by
     rcases Tl.1 ht with h|h
     ·rw[<-R2] at h
      split at h
      ·rw[Uy] at h;rw[h];exact Yl
      ·cases h
     ·have:=F9.1 t h;omega)
    have:=UT 1401 Z6;omega
   have HSH:=Ua Qg;clear Qg Yl;have O8:=fun U (hU:Bw V U)=>Qc4 false m.exp a l c m.ws U ((Xo1 HC).step hU) (by omega) (by omega);have HP:=Xh3 YN hpne O8;clear YN hpne O8
   by_cases KQ:S=0
   case' pos=>
    have hp0:Q1b 0 m.es=[]:=(Xo5 HS).2 (by rw[(Xo0 HS)];exact KQ);rw[Uu (.inl hp0)] at R2;have HQ:=Ua R2;clear R2 hp0
    go_upto_region 9 with (go_at_call 42;refine ((Xe2 HP) _ (Ud _ _)).mono ?_;rintro r w9 ⟨rfl,N3⟩;have H9:=Ua N3;clear N3)
   case' neg=>
    have Wn:(S==0)=false:=beq_eq_false_iff_ne.2 KQ;have hp0:¬Q1b 0 m.es=[]:=fun e=>KQ (by rw[<-(Xo0 HS)];exact (Xo5 HS).1 e);have S4:WordsIn (V.alloc (.cells #[.int .u64 1] 83)) (some ⟨V.heap.size,0,none⟩) 1 1 [1]:=Q7k V 1 (by decide) 83;have halV:Bw V (V.alloc (.cells #[.int .u64 1] 83)):=Ba;have Yq:Low (2^64) [1]:=fun x hx=>by rw[Uy] at hx;subst hx;decide
    have X4:=Qc3 false m.exp a l c m.ws false 0 (some ⟨V.heap.size,0,none⟩) 1 1 [1] (V.alloc (.cells #[.int .u64 1] 83)) ((Xo1 HC).step halV) S4 (by have:=(Xo1 HC).cap;have:=(Xo1 HC).most;omega);rw[Qlr (Xo4 HS) (Xo1 HC).low (by decide) Yq (by decide+kernel),<-(Xo2 HS)] at X4;have HW:=Xh2 X4 halV;clear X4 halV S4 Yq
    by_cases h1:Qmk m.term.1=1
    case' pos=>
     rw[Uq (by rintro (h|h);exact hp0 h;exact h h1)] at R2;have X4:=(Xo0 HW);rw[UW h1] at X4;have HQ:=Xh2 R2 X4;clear R2 X4 hp0 h1
     go_upto_region 9 with (go_at_call 33;refine (Xe1 HQ).mono ?_;rintro r w9 ⟨rfl,N3⟩;have H9:=Ua (Below.next0 (Xe1 HW) N3);clear N3)
    case' neg=>
     rw[Uu (.inr h1)] at R2;have X4:=(Xo0 HW);rw[UU h1] at X4;have HQ:=Xh2 R2 X4;clear R2 X4 hp0 h1
     go_upto_region 9 with (first
      |(go_at_call 42;refine ((Xe2 HP) _ H8.out).mono ?_;rintro r w9 ⟨rfl,N3⟩;have H9:=Ua (Below.next0 H8.out N3);clear N3)
      |(go_at_call 33;refine (Xe1 HQ).mono ?_;rintro r w8 ⟨rfl,G5⟩;have n0:=((Below.next0 (Xe1 HW) G5).cell (p:=⟨w4.heap.size,0,none⟩) (Xo0 HC).2.2).trans n0;have n1:=((Below.next0 (Xe1 HW) G5).cell (p:=⟨w4.heap.size,1,none⟩) (Xo0 HC).2.2).trans n1;have n2:=((Below.next0 (Xe1 HW) G5).cell (p:=⟨w4.heap.size,2,none⟩) (Xo0 HC).2.2).trans n2;have H8:=Ua (Below.next0 (Xe1 HW) G5);clear G5))
   all_goals clear n0 n1 n2 KQ
   all_goals go_wp2_with fail
   all_goals go_loopw [3,7] (fun s3 s7 wr=>Qz5 pre m.es V s3 s7 wr) (fun _ iv _=>n-(intOf iv).toNat)
   all_goals (try (case atStart=>first|exact ⟨0,by rw[<-HQ.out];rfl,rfl,Uv _,H9.out⟩|exact ⟨0,by rw[<-(Xo0 HQ)];rfl,rfl,Uv _,H9.out⟩))
   all_goals (
    obtain ⟨i,QP,rfl,hi,Z0⟩:=hrel;obtain ⟨S0,Jh⟩:∃S0,Q2o (pre++Q1b 0 (m.es.take i))=S0:=⟨_,rfl⟩;rw[Jh] at QP;subst QP;have m3:=(Z0.cell (p:=⟨w.heap.size,3,none⟩) (Uc (Xo5 H) (Xe2 HC).size)).trans m3
    by_cases F0:i<m.es.length
    case pos=>
     have G0:(i:Int)<(n:Int):=(by omega);obtain ⟨x,hx⟩:∃x,m.es[i]?=some x:=⟨_,Ub F0⟩;obtain ⟨b0,o0,j5,Q0,Y4⟩:=((((Xo1 H).step (Xo4 H)).step (Xe2 HC)).step Z0).rd.at_ hx;subst j5;obtain ⟨Y5,hx8⟩:=(Xe6 H) x (Ug hx);have Qi:=Qed hx;have A7:wrap64 ((i:Int)+1)=(i:Int)+1:=(by unfold wrap64;omega);have VE:i+1<10:=TP (Uj F0 XL) (by decide);have i6:=Q7r (i+1) VE wr;obtain ⟨q,hq⟩:∃q,dec (i+1)=[q]:=⟨_,Q1z VE⟩;rw[show ((i+1:Nat):Int)=(i:Int)+1 by omega,hq] at i6
     by_cases hz:x=0
     ·subst hz;have HR:=Xh3 Qi Z0 Jh;clear Qi Z0 Jh i6 hx
      go_wp2_with fail
      exact ⟨⟨i+1,by rw[(Xo0 HR),show Qal i 0=[] from rfl,Xao,(Xe2 HR)],congrArg (Value.int .i64) (by omega),F0,(Xo1 HR)⟩,by simp only[intOf];omega⟩
     ·have hz':(x==0)=false:=beq_eq_false_iff_ne.2 hz;have hlne:∀t∈pre++Q1b 0 (m.es.take i),t≠[]:=fun t ht=>by
       rcases Tl.1 ht with h|h
       ·exact (Xo1 HP) t h
       ·exact Qm3 _ 0 t h
      obtain ⟨K,hK⟩:∃K:Nat,x=(K:Int):=⟨x.toNat,by omega⟩;subst hK;have hK10:K<10:=(by omega);have XB:=fun U=>Q7r K hK10 U;obtain ⟨q2,P6⟩:∃q2,dec K=[q2]:=⟨_,Q1z hK10⟩;rw[P6] at XB;have hSl:S0.length<=8406:=(by rw[<-Jh];exact HSH.out i);have HR:=Xh8 Qi Z0 Jh i6 XB hlne hq P6;clear Qi Z0 Jh i6 XB hlne hx hq P6
      by_cases h0:S0=[]
      ·subst h0;have O2:pre++Q1b 0 (m.es.take i)=[]:=(Qrz _ (Xo5 HR)).1 (Xo2 HR);have HL:=Ua O2;clear O2
       by_cases h1:(1:Int)<(K:Int)
       ·have Q8:Qal i (K:Int)=[120::([q]++94::[q2])]:=(by rw[Qal,Uq (by omega),Uu h1,TS,(Xo6 HR),(Xe7 HR)]);have hj:Q2o (pre++Q1b 0 (m.es.take (i+1)))=120::([q]++94::[q2]):=(by rw[(Xo0 HR),<-UV,HL.out,Q8];rfl);have HJ:=Ua hj;clear Q8 hj
        go_wp2_with (first
        |(go_at_call 74;refine ((Xo4 HR) w10).mono ?_;rintro r w11 ⟨rfl,y9⟩;have Vl:=Ua (Below.next0 Jl.out y9);clear y9)
        |(go_at_call 74;refine (Xo3 HR).mono ?_;rintro r w10 ⟨rfl,V6⟩;have m3:=(V6.cell (p:=⟨w.heap.size,3,none⟩) (Uz m3)).trans m3;have Y4:=(V6.cell (p:=⟨b0,o0+i,none⟩) (Uz Y4)).trans Y4;have Jl:=Ua V6;clear V6))
        exact ⟨⟨i+1,by rw[HJ.out];exact Q76 (by simp[UM]),congrArg (Value.int .i64) (by omega),F0,Below.next0 (Xo1 HR) Vl.out⟩,by simp only[intOf];omega⟩
       ·have HK:=Ua (show K=1 by omega);have Q8:Qal i (K:Int)=[120::[q]]:=(by rw[Qal,Uu (by have:=HK.out;omega),(Xo6 HR)]);have hj:Q2o (pre++Q1b 0 (m.es.take (i+1)))=120::[q]:=(by rw[(Xo0 HR),<-UV,HL.out,Q8];rfl);have HJ:=Ua hj;clear Q8 hj
        go_wp2_with (first
        |(go_at_call 74;refine ((Xo4 HR) w10).mono ?_;rintro r w11 ⟨rfl,y9⟩;have Vl:=Ua (Below.next0 Jl.out y9);clear y9)
        |(go_at_call 74;refine (Xo3 HR).mono ?_;rintro r w10 ⟨rfl,V6⟩;have m3:=(V6.cell (p:=⟨w.heap.size,3,none⟩) (Uz m3)).trans m3;have Y4:=(V6.cell (p:=⟨b0,o0+i,none⟩) (Uz Y4)).trans Y4;have Jl:=Ua V6;clear V6))
        exact ⟨⟨i+1,by rw[HJ.out];exact Q76 (by simp[UM]),congrArg (Value.int .i64) (by omega),F0,Below.next0 (Xo1 HR) Jl.out⟩,by simp only[intOf];omega⟩
      ·have p8:S0.isEmpty=false:=List.isEmpty_eq_false_iff.2 h0;have O2:pre++Q1b 0 (m.es.take i)≠[]:=fun e=>h0 (by rw[<-(Xo2 HR),e];rfl);have HL:=Ua O2;clear O2 h0
       by_cases h1:(1:Int)<(K:Int)
       ·have Q8:Qal i (K:Int)=[120::([q]++94::[q2])]:=(by rw[Qal,Uq (by omega),Uu h1,TS,(Xo6 HR),(Xe7 HR)]);have hj:Q2o (pre++Q1b 0 (m.es.take (i+1)))=S0++42::120::([q]++94::[q2]):=(by rw[(Xo0 HR),<-UV,Q8,Qah _ _ HL.out,(Xo2 HR)]);have HJ:=Ua hj;clear Q8 hj
        go_wp2_with (first
        |(go_at_call 74;refine ((Xo4 HR) w10).mono ?_;rintro r w11 ⟨rfl,y9⟩;have Vl:=Ua (Below.next0 Jl.out y9);clear y9)
        |(go_at_call 74;refine (Xo3 HR).mono ?_;rintro r w10 ⟨rfl,V6⟩;have m3:=(V6.cell (p:=⟨w.heap.size,3,none⟩) (Uz m3)).trans m3;have Y4:=(V6.cell (p:=⟨b0,o0+i,none⟩) (Uz Y4)).trans Y4;have Jl:=Ua V6;clear V6))
        exact ⟨⟨i+1,by rw[HJ.out];exact Q76 (by simp[UM]),congrArg (Value.int .i64) (by omega),F0,Below.next0 (Xo1 HR) Vl.out⟩,by simp only[intOf];omega⟩
       ·have HK:=Ua (show K=1 by omega);have Q8:Qal i (K:Int)=[120::[q]]:=(by rw[Qal,Uu (by have:=HK.out;omega),(Xo6 HR)]);have hj:Q2o (pre++Q1b 0 (m.es.take (i+1)))=S0++42::120::[q]:=(by rw[(Xo0 HR),<-UV,Q8,Qah _ _ HL.out,(Xo2 HR)]);have HJ:=Ua hj;clear Q8 hj
        go_wp2_with (first
        |(go_at_call 74;refine ((Xo4 HR) w10).mono ?_;rintro r w11 ⟨rfl,y9⟩;have Vl:=Ua (Below.next0 Jl.out y9);clear y9)
        |(go_at_call 74;refine (Xo3 HR).mono ?_;rintro r w10 ⟨rfl,V6⟩;have m3:=(V6.cell (p:=⟨w.heap.size,3,none⟩) (Uz m3)).trans m3;have Y4:=(V6.cell (p:=⟨b0,o0+i,none⟩) (Uz Y4)).trans Y4;have Jl:=Ua V6;clear V6))
        exact ⟨⟨i+1,by rw[HJ.out];exact Q76 (by simp[UM]),congrArg (Value.int .i64) (by omega),F0,Below.next0 (Xo1 HR) Jl.out⟩,by simp only[intOf];omega⟩
    have G0:¬((i:Int)<(n:Int)):=(by omega);have p8:i=m.es.length:=(by omega);rw[p8,Tw] at Jh;have HS0:=Xh2 Jh Z0;clear Jh Z0 p8
    go_wp2_with fail
    go_ret;refine ⟨?_,Below.next0 (Xo4 H) (Below.next0 (Xe2 HC) (Xe1 HS0))⟩;rw[Q1t,(Xo0 HP),(Xo0 HS0)];rfl)
def Quj (w1:World) (F:List (List Q01)) (s3 s4:Value) (wr:World):Prop:=∃i:Nat,s3=sv (Q1d 0 ((Q0x F).take i))/\s4=.int .i64 (i:Int)/\i<=F.length/\Bw w1 wr
def Qm4 (w1:World) (L:LU) (ms:List Q01) (s3 s5:Value) (wr:World):Prop:=∃k:Nat,s3=sv (L++Q0w true ((ms.map Q01.term).take k))/\s5=.int .i64 (k:Int)/\k<=ms.length/\Bw w1 wr
theorem Qs0 {F:List (List Q01)} (h:Qqs F) (h4:F.length<=4) (i:Nat):(Q1d 0 ((Q0x F).take i)).length<=672800:=by
 have h1:=Q5i (F:=F.take i) (fun x hx=>h x (Td hx)) 0 (by rw[UR];omega);have h2:(F.take i).length<=4:=by rw[UR];omega
 have h3:=UT 168200 h2;unfold Q0x at h1⊢;rw[<-List.map_take];omega
theorem Qkm [LT ZK] (a:OA) (n c:Nat) (F:List (List Q01)) (w:World) (h:Q1a w a n c F):
 Calls Tryz.prog 43 #[.slice a n c] w fun r w'=>(Q1u F->r=.returned (sv (Q1d 0 (Q0x F))))/\(¬Q1u F->r=.returned (sv []))/\Bw w w':=by
 have j6:=Q6b a n c F w h
 by_cases hR:Q1u F
 case neg=>
  have H:=Xh2 j6 hR;clear j6 h hR
  go_enter Tryz.func43,Tryz.ntmps43
  go_wp2_with (go_at_call 23;refine (Xo0 H).mono ?_;rintro r w1 ⟨⟨bb,rfl,S8⟩,C0⟩;obtain rfl:bb=false:=by { cases bb with|false=>rfl|true=>exact absurd (S8.1 rfl) (Xe1 H) };have H1:=Ua C0;clear S8 C0)
  go_ret;exact ⟨fun h=>absurd h (Xe1 H),fun _=>rfl,H1.out⟩
 case pos=>
 have Qg:=Qbc h hR;have P2:=h.1;have X9:n<=4:=by have:=hR.2.1;omega
 have H:=Xh4 j6 hR h Qg;clear j6 h Qg
 go_enter Tryz.func43,Tryz.ntmps43
 go_wp2_with (go_at_call 23;refine (Xo0 H).mono ?_;rintro r w1 ⟨⟨bb,rfl,S8⟩,C0⟩;obtain rfl:bb=true:=S8.2 (Xo1 H);have H1:=Ua C0;clear S8 C0)
 clear hR
 go_loopw [3,4] (fun s3 s4 wr=>Quj w1 F s3 s4 wr) (fun _ iv _=>n-(intOf iv).toNat)
 case atStart=>exact ⟨0,rfl,rfl,Uv _,Ud _ _⟩
 case round=>
  obtain ⟨i,QP,rfl,hi,Z0⟩:=hrel;have R2:=Qs0 (Xe3 H) (by omega) i;obtain ⟨L0,Jd⟩:∃L0,Q1d 0 ((Q0x F).take i)=L0:=⟨_,rfl⟩;rw[Jd] at QP R2;subst QP
  by_cases F0:i<F.length
  ·have G0:(i:Int)<(n:Int):=(by omega);obtain ⟨ms,V5⟩:∃ms,F[i]?=some ms:=⟨_,Ub F0⟩;have hF:=((Xo2 H).step H1.out).step Z0;have Qd:=Ug V5;have Vk:=(Xo1 H).2.2 ms Qd;have Xo:=(Xe3 H) ms Qd;have x4:=Q65 (Qeg V5);obtain ⟨_,_,_,h0|⟨g,o,rfl,hg,hFi⟩⟩:=hF
   ·rw[h0] at F0;exact absurd F0 (Tf _)
   obtain ⟨p,l,d,J0,hM⟩:=hFi i ms V5;have Qn:=hM.1;have A8:l<=9223372036854775807:=Uj hM.2.1 hM.2.2.1;have VE:i+1<10:=(by omega);obtain ⟨q,hq⟩:∃q,dec (i+1)=[q]:=⟨_,Q1z VE⟩;have i6:=Q7r (i+1) VE wr;rw[show ((i+1:Nat):Int)=(i:Int)+1 by omega,hq] at i6;have Qa:Q5z i=[120,q,39,32,61,32]:=(by rw[Q5z,hq];rfl);have hwr1:wrap64 ((i:Int)+1)=(i:Int)+1:=(by unfold wrap64;omega);have VV:=Q6w Xo;have O6:Q5q i (ms.map Q01.term)=Q5z i++(Q5p (ms.map Q01.term)++[10]):=rfl;rw[Qa] at O6;have hfs:Q1d 0 ((Q0x F).take (i+1))=L0++Q5q i (ms.map Q01.term):=by
    rw[x4,Q6v,Jd,show 0+((Q0x F).take i).length=i by rw[UR];unfold Q0x;rw[UE];omega]
   rw[O6] at hfs;have HR:=Xh8 hfs Vk Xo hM i6 Z0 hg VV;clear hfs Vk Xo hM i6 Z0 hg VV x4 Qd hFi Jd O6 Qa hq V5
   by_cases hms0:ms=[]
   ·subst hms0;obtain rfl:l=0:=Qn.symm
    go_wp2_with (go_at_call 74;refine (Xo4 HR).mono ?_;rintro r w2 ⟨rfl,D0⟩;have J0:=(D0.cell (p:=⟨g,o+i,none⟩) (Xo6 HR)).trans J0;have H2:=Ua D0;clear D0)
    have Q2:g<w2.heap.size:=Uc (Xo6 HR) H2.out.size;have HC:=Xh2 J0 Q2;clear J0 Q2
    rename World=>w2
    go_loopw [3,5] (fun s3 s5 wx=>Qm4 w2 (L0++[120,q,39,32,61,32,48]) [] s3 s5 wx) (fun _ _ _=>0)
    case atStart=>exact ⟨0,Q76 (by simp[UM,Q0w]),rfl,Uv _,Ud _ _⟩
    case round=>
     rename World=>wk
     obtain ⟨k,QP,rfl,hk,S5⟩:=hrel;obtain rfl:k=0:=(by simpa using hk);obtain ⟨S1,KL⟩:∃S1,(L0++[120,q,39,32,61,32,48])=S1:=⟨_,rfl⟩;have hSl:S1.length<=840998:=by
      rw[<-KL,Ui];simp only[Ul,UP];omega
     rw[show (L0++[120,q,39,32,61,32,48])++Q0w true ((([]:List Q01).map Q01.term).take 0)=S1 by rw[<-KL];simp[Q0w]] at QP;subst QP;have J0:=(S5.cell (p:=⟨g,o+i,none⟩) (Xe1 HC)).trans (Xo0 HC);have HK:=Xh2 KL S5;clear KL S5
     go_wp2_with fail
     refine ⟨⟨i+1,?_,congrArg (Value.int .i64) (by omega),F0,Below.next0 (Xo5 HR) (Below.next0 H2.out (Xe1 HK))⟩,by simp only[intOf];omega⟩;rw[(Xo0 HR)];refine Q76 ?_;have h1:=(Xo0 HK);simp only[UM,Array.toList_append,<-h1];simp[Q5p]
   ·have O2:((l:Int)==0)=false:=by
     rw[Uk];intro e;exact hms0 (TN (by omega))
    have HN0:=Ua hms0;clear hms0
    go_wp2_with (go_at_call 74;refine (Xo4 HR).mono ?_;rintro r w2 ⟨rfl,D0⟩;have J0:=(D0.cell (p:=⟨g,o+i,none⟩) (Xo6 HR)).trans J0;have H2:=Ua D0;clear D0)
    have Q2:g<w2.heap.size:=Uc (Xo6 HR) H2.out.size;have HC:=Xh2 J0 Q2;obtain ⟨b2,o2,rfl,hb2l,J2⟩:∃b o,p=some ⟨b,o,none⟩/\b<wr.heap.size/\∀j m,ms[j]?=some m->Q74 wr b (o+j*4) m:=by
     rcases (Xo3 HR).2.2.2 with h0|h0
     ·exact absurd h0 HN0.out
     ·exact h0
    have HM:=Xh2 hb2l J2;clear J0 hb2l J2 Q2
    rename World=>w2
    go_loopw [3,5] (fun s3 s5 wx=>Qm4 w2 (L0++[120,q,39,32,61,32]) ms s3 s5 wx) (fun _ iv _=>l-(intOf iv).toNat)
    case atStart=>exact ⟨0,Q76 (by simp[UM,Q0w]),rfl,Uv _,Ud _ _⟩
    case round=>
     rename World=>wk
     obtain ⟨k,QP,rfl,hk,S5⟩:=hrel;obtain ⟨S1,KL⟩:∃S1,(L0++[120,q,39,32,61,32])++Q0w true ((ms.map Q01.term).take k)=S1:=⟨_,rfl⟩;have hSl:S1.length<=840998:=by
      rw[<-KL,Ui,Ui];have:=(Xe7 HR) k;simp only[Ul,UP];omega
     rw[KL] at QP;subst QP;have J0:=(S5.cell (p:=⟨g,o+i,none⟩) (Xe1 HC)).trans (Xo0 HC)
     by_cases M9:k<ms.length
     ·have hkl':(k:Int)<(l:Int):=(by omega);obtain ⟨m,hm⟩:∃m,ms[k]?=some m:=⟨_,Ub M9⟩;have Yd:=Ug hm;have C3:=Below.next0 H2.out S5;obtain ⟨aw,lw,cw,ae,le,ce,m0,m1,m2,m3,hw,he,K5,Z3⟩:=((Xe1 HM) k m hm).step C3 (Xo0 HM);have X1:=(Xo1 HR).2.2.2.1 m Yd;have Vm:=Qd6 F.length m aw lw cw ae le ce wk hw he X1 (by omega);have Yp:=Qhu X1 hw.low;have X8:=(Xo2 HR).2 m Yd;obtain ⟨TT,VS⟩:∃TT,Q1t m.term=TT:=⟨_,rfl⟩;have C7:(L0++[120,q,39,32,61,32])++Q0w true ((ms.map Q01.term).take (k+1))=S1++(Q30 (true && ((ms.map Q01.term).take k).isEmpty) m.term++TT):=by
       rw[Q65 (l:=ms.map Q01.term) (i:=k) (x:=m.term) (by rw[UI,hm];rfl),Q8q,<-UV,KL,VS]
      rw[VS] at Vm X8;obtain ⟨ng,hng⟩:∃ng,m.neg=ng:=⟨_,rfl⟩;rw[hng] at Vm m0 Yp;have HK:=Xh5 Vm C7 VS S5 Yp;clear Vm C7 VS S5 Yp hng hw he K5 Z3 X1 C3 Yd hm
      by_cases Xa:0<k
      ·have Xx:(0:Int)<(k:Int):=(by omega);have S3:((k:Int)==0)=false:=(by rw[Uk];omega);have KH:((ms.map Q01.term).take k).isEmpty=false:=by
        rw[List.isEmpty_eq_false_iff];intro h;have:=congrArg List.length h;rw[UR,UE] at this;have e0:([]:List Q0m).length=0:=rfl;omega
       cases ng with
       |true=>
        have o4:Q30 (true && ((ms.map Q01.term).take k).isEmpty) m.term=[32,45,32]:=(by rw[KH,Q30,(Xe4 HK)];rfl);have HG:=Ua o4;clear o4 KH
        go_wp2_with (go_at_call 75;refine (Xo0 HK).mono ?_;rintro r w5 ⟨rfl,P0⟩;have H5:=Ua P0;clear P0)
        exact ⟨⟨k+1,by rw[(Xo1 HK),HG.out];exact Q76 (by simp[UM]),congrArg (Value.int .i64) (by omega),M9,Below.next0 (Xo3 HK) H5.out⟩,by simp only[intOf];omega⟩
       |false=>
        have o4:Q30 (true && ((ms.map Q01.term).take k).isEmpty) m.term=[32,43,32]:=(by rw[KH,Q30,(Xe4 HK)];rfl);have HG:=Ua o4;clear o4 KH
        go_wp2_with (go_at_call 75;refine (Xo0 HK).mono ?_;rintro r w5 ⟨rfl,P0⟩;have H5:=Ua P0;clear P0)
        exact ⟨⟨k+1,by rw[(Xo1 HK),HG.out];exact Q76 (by simp[UM]),congrArg (Value.int .i64) (by omega),M9,Below.next0 (Xo3 HK) H5.out⟩,by simp only[intOf];omega⟩
      ·have hkz:k=0:=(by omega);have KH:((ms.map Q01.term).take k).isEmpty=true:=(by rw[hkz];rfl);have Xx:¬(0:Int)<(k:Int):=(by omega);have S3:((k:Int)==0)=true:=(by rw[beq_iff_eq];omega);clear hkz;cases ng with
       |true=>
        have o4:Q30 (true && ((ms.map Q01.term).take k).isEmpty) m.term=[45]:=(by rw[KH,Q30,(Xe4 HK)];rfl);have HG:=Ua o4;clear o4 KH
        go_wp2_with (go_at_call 75;refine (Xo0 HK).mono ?_;rintro r w5 ⟨rfl,P0⟩;have H5:=Ua P0;clear P0)
        exact ⟨⟨k+1,by rw[(Xo1 HK),HG.out];exact Q76 (by simp[UM]),congrArg (Value.int .i64) (by omega),M9,Below.next0 (Xo3 HK) H5.out⟩,by simp only[intOf];omega⟩
       |false=>
        have o4:Q30 (true && ((ms.map Q01.term).take k).isEmpty) m.term=[]:=(by rw[KH,Q30,(Xe4 HK)];rfl);have HG:=Ua o4;clear o4 KH
        go_wp2_with (go_at_call 75;refine (Xo0 HK).mono ?_;rintro r w5 ⟨rfl,P0⟩;have H5:=Ua P0;clear P0)
        exact ⟨⟨k+1,by rw[(Xo1 HK),HG.out];exact Q76 (by simp[UM]),congrArg (Value.int .i64) (by omega),M9,Below.next0 (Xo3 HK) H5.out⟩,by simp only[intOf];omega⟩
     ·have hkl':¬((k:Int)<(l:Int)):=(by omega);have i4:(ms.map Q01.term).take k=ms.map Q01.term:=Uw (by rw[UE];omega);rw[i4] at KL;have HK:=Xh2 KL S5;clear KL S5 i4
      go_wp2_with fail
      refine ⟨⟨i+1,?_,congrArg (Value.int .i64) (by omega),F0,Below.next0 (Xo5 HR) (Below.next0 H2.out (Xe1 HK))⟩,by simp only[intOf];omega⟩;rw[(Xo0 HR)];refine Q76 ?_;have hpy:Q5p (ms.map Q01.term)=Q0w true (ms.map Q01.term):=(by rw[Q5p,Uq (by intro h;exact HN0.out (List.map_eq_nil_iff.1 h))]);rw[hpy];have h1:=(Xo0 HK);simp only[UM,Array.toList_append,<-h1];simp
  ·have G0:¬((i:Int)<(n:Int)):=(by omega);have p8:i=F.length:=(by omega);have A1:(Q0x F).take i=Q0x F:=Uw (by unfold Q0x;rw[UE];omega);rw[A1] at Jd;have HS:=Xh2 Jd Z0;clear Jd Z0 A1 p8
   go_wp2_with fail
   go_ret;exact ⟨fun _=>by rw[(Xo0 HS)];rfl,fun h=>absurd (Xo1 H) h,Below.next0 H1.out (Xe1 HS)⟩
theorem Q4l (X Y:LU) (h:X.length+Y.length<=100000000):∃Z,X++Y=Z/\Z.length=X.length+Y.length/\Op.stringOp .add ⟨X.toArray⟩ ⟨Y.toArray⟩=pure (.string ⟨Z.toArray⟩):=by
 refine ⟨_,rfl,by simp,?_⟩;have hs:¬((((⟨X.toArray⟩:ByteArray).size+(⟨Y.toArray⟩:ByteArray).size:Nat):Int)>IntKind.i64.max):=by
  show¬(((X.toArray.size+Y.toArray.size:Nat):Int)>9223372036854775807)
  simp only[List.size_toArray];omega
 unfold Op.stringOp;simp only[Uq hs];refine congrArg pure (congrArg Value.string (ByteArray.ext ?_));simp[UM]
theorem Q5w {n:Int} {w:World} (h0:0<=n) (h1:n<=5000) {t:LU} (ht:dec n.toNat=t):
 Calls Tryz.prog 41 #[.int .i64 n] w fun r w'=>r=.returned (.string ⟨t.toArray⟩)/\Bw w w':=by
 subst ht;obtain ⟨m,rfl⟩:∃m:Nat,n=(m:Int):=⟨n.toNat,by omega⟩;have hm:m<=5000:=by omega
 rw[TS]
 go_enter Tryz.func41,Tryz.ntmps41
 go_wp2_with (first
  |(refine (Q3l _ 1 1 [m] _ (Q7k _ m (by omega) 83) (by decide)).mono ?_;rintro e w4 ⟨a4,n4,c4,rfl,X9,hD,Y2⟩;rw[show val (2^64) [m]=m by simp[val]] at hD;have O4:=Xh3 hD Y2 X9;clear Y2 hD X9)
  |(go_at_call_of 72 a4;refine (Q4y a4 n4 c4 m _ (Xo0 O4) (by have:=(Xe2 O4);omega)).mono ?_;rintro e w5 ⟨rfl,P0⟩;have A4:=Ua (Below.next0 (Below.next0 (Ba) (Xo1 O4)) P0);clear P0))
 go_ret;exact ⟨rfl,A4.out⟩
theorem Q6c {x:Q2u} {a:OA} {l c:Nat} {w:World} (h:Q0f w a l c x) (hi:x.ok) {t:LU} (ht:dyT x.val=t):
 Calls Tryz.prog 42 #[.agg #[.bool x.neg,.int .i64 x.exp,.slice a l c]] w fun r w'=>r=.returned (.string ⟨t.toArray⟩)/\Bw w w':=by
 subst ht;have:=Qc4 x.neg x.exp a l c x.ws w h.lie h.lo h.hi;rw[(Q22 h hi).1] at this;exact this
theorem Qs1 {P:Program} {K:Value->World->Prop} {w:World} {u:Value} {res:Result Next} (hr:res=.ok (.value u) w) (h:K u w):Q0r P K res:=by rw[hr];exact h
def Qwr (w1:World) (L:LU) (bl:Nat) (bx:List (Dyadic × Dyadic)) (s u:Value) (wr:World):Prop:=∃i:Nat,u=.int .i64 (i:Int)/\i<=bl/\s=.string ⟨(L++Q98 (bx.take i)).toArray⟩/\Bw w1 wr
theorem Qd7 [LT ZK] (p:Qfg) (x:Q33) (w:World) (h:Q2j w p x) (hR:Q1h x):
 Calls Tryz.prog 14 #[.agg (Q2e p x).toArray] w fun r w'=>r=.returned (sv (Qmn x.prob))/\Bw w w':=by
 obtain ⟨⟨fa,fl,fc⟩,⟨ba,bl,bc⟩,⟨ta,tl,tc⟩,⟨ma,ml,mc⟩,⟨ea,el,ec⟩⟩:=p;obtain ⟨F,B,⟨tn,te,ts⟩,⟨mn,me,ms⟩,⟨en,ee,es⟩,prec,order,budget⟩:=x;have K4:B.length=bl:=h.b.1;have E3:=Uj h.b.2.1 h.b.2.2.1;simp only at E3;have nt:=Q22 h.t hR.til.1;have nm:=Q22 h.m hR.most.1;have ne:=Q22 h.e hR.least.1;have rp:=hR.prec;have ro:=hR.order;have rb:=hR.budget;simp only at rp ro rb;obtain ⟨sp,Xp⟩:∃t,dec prec.toNat=t:=⟨_,rfl⟩;obtain ⟨so,KI⟩:∃t,dec order.toNat=t:=⟨_,rfl⟩;obtain ⟨sb,Xd⟩:∃t,dec budget.toNat=t:=⟨_,rfl⟩;obtain ⟨st,R0⟩:∃t,dyT (Q2u.val ⟨tn,te,ts⟩)=t:=⟨_,rfl⟩;obtain ⟨sm,X4⟩:∃t,dyT (Q2u.val ⟨mn,me,ms⟩)=t:=⟨_,rfl⟩;obtain ⟨se,i9⟩:∃t,dyT (Q2u.val ⟨en,ee,es⟩)=t:=⟨_,rfl⟩;have g1:sp.length<=4:=by rw[<-Xp];exact Q49 (by omega)
 have g2:so.length<=4:=by rw[<-KI];exact Q49 (by omega)
 have g3:sb.length<=4:=by rw[<-Xd];exact Q49 (by omega)
 have g4:st.length<=1401:=by rw[<-R0];exact nt.2
 have g5:sm.length<=1401:=by rw[<-X4];exact nm.2
 have g6:se.length<=1401:=by rw[<-i9];exact ne.2
 obtain ⟨T0,q0,l0,a0⟩:=Q4l [112,114,101,99,32] sp (by simp only[Ul,UP];omega);obtain ⟨T1,q1,l1,a1⟩:=Q4l T0 [10,111,114,100,101,114,32] (by simp only[Ul,UP] at*;omega);obtain ⟨T2,q2,l2,a2⟩:=Q4l T1 so (by simp only[Ul,UP] at*;omega);obtain ⟨T3,q3,l3,a3⟩:=Q4l T2 [10,98,117,100,103,101,116,32] (by simp only[Ul,UP] at*;omega);obtain ⟨T4,q4,l4,a4⟩:=Q4l T3 sb (by simp only[Ul,UP] at*;omega);obtain ⟨T5,q5,l5,a5⟩:=Q4l T4 [10,117,110,116,105,108,32] (by simp only[Ul,UP] at*;omega);obtain ⟨T6,q6,l6,a6⟩:=Q4l T5 st (by simp only[Ul,UP] at*;omega);obtain ⟨T7,q7,l7,a7⟩:=Q4l T6 [10,109,111,115,116,32] (by simp only[Ul,UP] at*;omega);obtain ⟨T8,q8,l8,a8⟩:=Q4l T7 sm (by simp only[Ul,UP] at*;omega);obtain ⟨T9,q9,l9,a9⟩:=Q4l T8 [10,108,101,97,115,116,32] (by simp only[Ul,UP] at*;omega);obtain ⟨TA,qA,lA,aA⟩:=Q4l T9 se (by simp only[Ul,UP] at*;omega);obtain ⟨TB,qB,lB,aB⟩:=Q4l TA [10] (by simp only[Ul,UP] at*;omega);have hTB:TB.length<=5000:=by simp only[Ul,UP] at*;omega
 obtain ⟨Y,hY⟩:∃t,Qmn (Q33.prob ⟨F,B,⟨tn,te,ts⟩,⟨mn,me,ms⟩,⟨en,ee,es⟩,prec,order,budget⟩)=t:=⟨_,rfl⟩;have hYL:TB++(Q98 (B.map fun b=>(b.lo.val,b.hi.val))++Q1d 0 (Q0x F))=Y:=by
  have e:Y=Q2t Qbz sp++(Q2t Q7d so++(Q2t Q54 sb++(Q2t Q7e st++(Q2t Qc0 sm++(Q2t Q7f se++(Q98 (B.map fun b=>(b.lo.val,b.hi.val))++Q1d 0 (Q0x F))))))):=by rw[<-hY,<-Xp,<-KI,<-Xd,<-R0,<-X4,<-i9];rfl
  rw[e,<-qB,<-qA,<-q9,<-q8,<-q7,<-q6,<-q5,<-q4,<-q3,<-q2,<-q1,<-q0];simp[Q2t,Qbz,Q7d,Q54,Q7e,Qc0,Q7f]
 rw[hY];have HY:=Ua hYL;have HT:=Xh12 a0 a1 a2 a3 a4 a5 a6 a7 a8 a9 aA aB;clear nt nm ne hY hYL q0 q1 q2 q3 q4 q5 q6 q7 q8 q9 qA qB l0 l1 l2 l3 l4 l5 l6 l7 l8 l9 lA lB a0 a1 a2 a3 a4 a5 a6 a7 a8 a9 aA aB g1 g2 g3 g4 g5 g6;have hC:=Q2x.new w (Q2e ⟨⟨fa,fl,fc⟩,⟨ba,bl,bc⟩,⟨ta,tl,tc⟩,⟨ma,ml,mc⟩,⟨ea,el,ec⟩⟩ ⟨F,B,⟨tn,te,ts⟩,⟨mn,me,ms⟩,⟨en,ee,es⟩,prec,order,budget⟩) 28;have Q0:Bw w (w.alloc (.cells (Q2e ⟨⟨fa,fl,fc⟩,⟨ba,bl,bc⟩,⟨ta,tl,tc⟩,⟨ma,ml,mc⟩,⟨ea,el,ec⟩⟩ ⟨F,B,⟨tn,te,ts⟩,⟨mn,me,ms⟩,⟨en,ee,es⟩,prec,order,budget⟩).toArray 28)):=Ba;have F0:=Q0o w (.cells (Q2e ⟨⟨fa,fl,fc⟩,⟨ba,bl,bc⟩,⟨ta,tl,tc⟩,⟨ma,ml,mc⟩,⟨ea,el,ec⟩⟩ ⟨F,B,⟨tn,te,ts⟩,⟨mn,me,ms⟩,⟨en,ee,es⟩,prec,order,budget⟩).toArray 28);have D6:=fun V (hV:Bw w V)=>Q4p _ _ V (h.step hV);rw[Q0c.2 hR] at D6;simp only[Q2e] at hC Q0 F0 D6⊢;obtain ⟨W0,M1⟩:∃W0,w.alloc (.cells #[.slice fa fl fc,.slice ba bl bc,.bool tn,.int .i64 te,.slice ta tl tc,.bool mn,.int .i64 me,.slice ma ml mc,.bool en,.int .i64 ee,.slice ea el ec,.int .i64 prec,.int .i64 order,.int .i64 budget] 28)=W0:=⟨_,rfl⟩;rw[M1] at hC Q0 F0;have HC:=Ua (fun V (hV:Bw W0 V)=>have hb:=Below.next0 Q0 hV;have hh:=h.step hb;And.intro (hC.step hV F0) (And.intro (Q5w (w:=V) (n:=prec) (by omega) (by omega) Xp) (And.intro (Q5w (w:=V) (n:=order) (by omega) (by omega) KI) (And.intro (Q5w (w:=V) (n:=budget) (by omega) (by omega) Xd) (And.intro (Q6c (x:=⟨tn,te,ts⟩) hh.t hR.til.1 R0) (And.intro (Q6c (x:=⟨mn,me,ms⟩) hh.m hR.most.1 X4) (And.intro (Q6c (x:=⟨en,ee,es⟩) hh.e hR.least.1 i9) hh)))))));have HR:=Xh3 (D6 W0 Q0) hR Q0;obtain ⟨k0,k1,k2,k3,k4,k5,k6,k7,k8,k9,k10,k11,k12,k13⟩:=Q05 hC;clear hC Q0 F0 h D6 hR Xp KI Xd R0 X4 i9
 go_enter Tryz.func14,Tryz.ntmps14
 go_upto_region 1 with fail
 clear M1
 go_upto_region 3 with (go_at_call 10;refine (Xo0 HR).mono ?_;rintro r w1 ⟨rfl,hb⟩;have H1:=Ua hb;clear hb)
 clear k0 k1 k2 k3 k4 k5 k6 k7 k8 k9 k10 k11 k12 k13;refine Q06 (E:=Q7l) (fun _=>Ud _ _) (by kernel_rfl) (fun W=>Bw w1 W) (fun _ _ h h'=>Below.next0 h h') (Q3q [.pointer (some ⟨w.heap.size,11,none⟩),.int .i64 prec,.string ⟨sp.toArray⟩,.string ⟨T0.toArray⟩,.string ⟨T1.toArray⟩,.pointer (some ⟨w.heap.size,12,none⟩),.int .i64 order,.string ⟨so.toArray⟩,.string ⟨T2.toArray⟩,.string ⟨T3.toArray⟩,.pointer (some ⟨w.heap.size,13,none⟩),.int .i64 budget,.string ⟨sb.toArray⟩,.string ⟨T4.toArray⟩,.string ⟨T5.toArray⟩,.pointer (some ⟨w.heap.size,2,none⟩),.agg #[.bool tn,.int .i64 te,.slice ta tl tc],.string ⟨st.toArray⟩,.string ⟨T6.toArray⟩,.string ⟨T7.toArray⟩,.pointer (some ⟨w.heap.size,5,none⟩),.agg #[.bool mn,.int .i64 me,.slice ma ml mc],.string ⟨sm.toArray⟩,.string ⟨T8.toArray⟩,.string ⟨T9.toArray⟩,.pointer (some ⟨w.heap.size,8,none⟩),.agg #[.bool en,.int .i64 ee,.slice ea el ec],.string ⟨se.toArray⟩,.string ⟨TA.toArray⟩,.string ⟨TB.toArray⟩,.string ⟨TB.toArray⟩] (Q13 [])) (Q08 (Q0e ((fun p hp=>by cases hp)))) (Q15 (by kernel_rfl)) (by kernel_rfl) (Q04 w1) ?_ ?_
 ·skip
  repeat' (first|exact Q83|refine Q82 ?_ ?_)
  all_goals
   refine Q1p rfl fun A W hW E0 hd hd=>?_;simp[Q72,Region.binds,Q13] at hd;have e1:=Q07 E0 1 (by kernel_rfl) rfl;obtain ⟨hc,B5,V8,QP,hs4,hs5,hs6,_⟩:=HC.out W (Below.next0 H1.out hW);obtain ⟨k0,k1,k2,k3,k4,k5,k6,k7,k8,k9,k10,k11,k12,k13⟩:=Q05 hc;obtain ⟨a0,a1,a2,a3,a4,a5,a6,a7,a8,a9,aA,aB⟩:=HT.out
   first
   |(refine Q12 rfl rfl ?_;simp[go_sem,hd,e1,k2,k3,k4,k5,k6,k7,k8,k9,k10,k11,k12,k13,a0,a1,a2,a3,a4,a5,a6,a7,a8,a9,aA,aB];done)
   |(refine Q2b rfl rfl ?_ B5;simp[go_sem,hd];done)
   |(refine Q2b rfl rfl ?_ V8;simp[go_sem,hd];done)
   |(refine Q2b rfl rfl ?_ QP;simp[go_sem,hd];done)
   |(refine Q2b rfl rfl ?_ hs4;simp[go_sem,hd];done)
   |(refine Q2b rfl rfl ?_ hs5;simp[go_sem,hd];done)
   |(refine Q2b rfl rfl ?_ hs6;simp[go_sem,hd];done)
 intro vs w2 Z4 A3;have H2:=Ua (Below.next0 H1.out Z4);have e30:vs 30=.string ⟨TB.toArray⟩:=(Q0j rfl).1 (A3 30 (by decide));simp only[Q0t,Act.put,Um,Ux,Ut,e30];clear Z4 A3 e30;obtain ⟨bx,A2⟩:∃l,(B.map fun b=>(b.lo.val,b.hi.val))=l:=⟨_,rfl⟩;have O6:bx.length=bl:=by rw[<-A2,UE,K4]
 rw[A2] at HY;have Vr:∀i,(Q98 (bx.take i)).length<=11240:=fun i=>by
  have h1:=Q9t (bx.take i) (fun b hb=>by
   rw[<-A2] at hb;obtain ⟨y,hy,rfl⟩:=TE.1 (Td hb);obtain ⟨j,hj⟩:=US.1 hy;have Jn:=(Xo1 HR).box.2.2 y hy;obtain ⟨_,_,_,_,_,_,_,_,_,_,_,m1,m2⟩:=Qe3 (HC.out W0 (Ud _ _)).2.2.2.2.2.2.2.b hj;exact ⟨(Q22 m1 Jn.1).2,(Q22 m2 Jn.2.1).2⟩)
  have h2:(bx.take i).length<=4:=by
   have:=(Xo1 HR).box.2.1;simp only at this;rw[UR];omega
  have h3:=UT 2810 h2;omega
 have HX:=Xh3 A2 O6 Vr;clear A2 O6 Vr
 go_wp2_with fail
 go_loopw [3,4] (fun s3 s4 wr=>Qwr w2 TB bl bx s3 s4 wr) (fun _ iv _=>bl-(intOf iv).toNat)
 case atStart=>exact ⟨0,rfl,Uv _,by rw[List.take_zero];simp[Q98],Ud _ _⟩
 case round=>
  obtain ⟨i,rfl,hi,rfl,Z0⟩:=hrel;have hq:=HC.out wr (Below.next0 H2.out Z0);obtain ⟨k0,k1,k2,k3,k4,k5,k6,k7,k8,k9,k10,k11,k12,k13⟩:=Q05 hq.1
  by_cases F0:i<bl
  ·have G0:(i:Int)<(bl:Int):=(by omega);obtain ⟨z,hz⟩:∃z,B[i]?=some z:=⟨_,Ub (by omega)⟩;obtain ⟨b0,o0,rfl,Q0,pa,pl,pc,qa,ql,qc,⟨y0,y1,y2,y3,y4,y5⟩,E6,C5⟩:=Qe3 hq.2.2.2.2.2.2.2.b hz;have X1:=(Xo1 HR).box.2.2 z (Ug hz);obtain ⟨u1,Zr⟩:∃t,dyT z.lo.val=t:=⟨_,rfl⟩;obtain ⟨u2,Ze⟩:∃t,dyT z.hi.val=t:=⟨_,rfl⟩;have C6:u1.length<=1401:=(by rw[<-Zr];exact (Q22 E6 X1.1).2);have Z6:u2.length<=1401:=(by rw[<-Ze];exact (Q22 C5 X1.2.1).2);have X3:bx[i]?=some (z.lo.val,z.hi.val):=(by rw[<-(Xo0 HX),UI,hz];rfl);have hS:(TB++Q98 (bx.take i)).length<=17000:=(by rw[Ui];have:=(Xe2 HX) i;omega);have O8:TB++Q98 (bx.take (i+1))=TB++Q98 (bx.take i)++Q2t Ql9 (u1++32::u2):=(by rw[Q65 X3,Qcy,Zr,Ze,UV]);obtain ⟨S,hSS⟩:∃t,TB++Q98 (bx.take i)=t:=⟨_,rfl⟩;rw[hSS] at hS O8⊢;obtain ⟨V0,r0,m0,c0⟩:=Q4l [98,111,120,32] u1 (by simp only[Ul,UP];omega);obtain ⟨V1,r1,m1,c1⟩:=Q4l V0 [32] (by simp only[Ul,UP] at*;omega);obtain ⟨V2,r2,m2,c2⟩:=Q4l V1 u2 (by simp only[Ul,UP] at*;omega);obtain ⟨V3,r3,m3,c3⟩:=Q4l V2 [10] (by simp only[Ul,UP] at*;omega);obtain ⟨V4,r4,m4,c4⟩:=Q4l S V3 (by simp only[Ul,UP] at*;omega);have hV:TB++Q98 (bx.take (i+1))=V4:=(by rw[O8,<-r4,<-r3,<-r2,<-r1,<-r0];simp[Q2t,Ql9]);have HV:=Ua (fun (W:World) (hW:Bw wr W)=>And.intro ((hW.cell (p:=⟨b0,o0+i*6,none⟩) Q0).trans y0) (And.intro ((hW.cell (p:=⟨b0,o0+i*6+1,none⟩) Q0).trans y1) (And.intro ((hW.cell (p:=⟨b0,o0+i*6+2,none⟩) Q0).trans y2) (And.intro ((hW.cell (p:=⟨b0,o0+i*6+3,none⟩) Q0).trans y3) (And.intro ((hW.cell (p:=⟨b0,o0+i*6+4,none⟩) Q0).trans y4) (And.intro ((hW.cell (p:=⟨b0,o0+i*6+5,none⟩) Q0).trans y5) (And.intro (Q6c (E6.step hW) X1.1 Zr) (And.intro (Q6c (C5.step hW) X1.2.1 Ze) ((HC.out W (Below.next0 (Below.next0 H2.out Z0) hW)).1)))))))));have HW:=Xh7 c0 c1 c2 c3 c4 hV Z0;clear hq E6 C5 X1 Zr Ze C6 Z6 X3 O8 hSS Z0 hz c0 c1 c2 c3 c4 hV r0 r1 r2 r3 r4 m0 m1 m2 m3 m4 hS y0 y1 y2 y3 y4 y5
   go_upto_region 7 with fail
   clear k0 k1 k2 k3 k4 k5 k6 k7 k8 k9 k10 k11 k12 k13;refine Q5u (by kernel_rfl) 19 rfl (fun W=>Bw wr W) (fun _ _ h h'=>Below.next0 h h') (Q3q [.string ⟨S.toArray⟩,.pointer (some ⟨w.heap.size,1,none⟩),.slice (some ⟨b0,o0,none⟩) bl bc,.int .i64 (i:Int),.pointer (some ⟨b0,o0+i*6,none⟩),.pointer (some ⟨b0,o0+i*6,none⟩),.agg #[.bool z.lo.neg,.int .i64 z.lo.exp,.slice pa pl pc],.string ⟨u1.toArray⟩,.string ⟨V0.toArray⟩,.string ⟨V1.toArray⟩,.pointer (some ⟨w.heap.size,1,none⟩),.slice (some ⟨b0,o0,none⟩) bl bc,.int .i64 (i:Int),.pointer (some ⟨b0,o0+i*6,none⟩),.pointer (some ⟨b0,o0+i*6+3,none⟩),.agg #[.bool z.hi.neg,.int .i64 z.hi.exp,.slice qa ql qc],.string ⟨u2.toArray⟩,.string ⟨V2.toArray⟩,.string ⟨V3.toArray⟩] (Q13 [])) (Q08 (Q0e ((fun p hp=>by cases hp)))) (fun v W=>v=.string ⟨V4.toArray⟩/\Bw wr W) (by kernel_rfl) (by kernel_rfl) (by kernel_rfl) (by kernel_rfl) (Q04 wr) ?_ ?_ ?_
   ·skip
    repeat' (first|exact Q83|refine Q82 ?_ ?_)
    all_goals
     refine Q1p rfl fun A W hW E0 hd hd=>?_;simp[Q72,Region.binds,Q13] at hd;have e1:=Q07 E0 1 (by kernel_rfl) rfl;have e3:=Q07 E0 3 (by kernel_rfl) rfl;have e4:=Q07 E0 4 (by kernel_rfl) rfl;obtain ⟨y0,y1,y2,y3,y4,y5,B5,V8,hc⟩:=HV.out W hW;have k1:=(Q05 hc).2.1;obtain ⟨c0,c1,c2,c3,c4,_⟩:=HW.out
     first
     |(refine Q12 rfl rfl ?_;simp[go_sem,hd,e1,e3,e4,G0,y0,y1,y2,y3,y4,y5,k1,c0,c1,c2,c3];done)
     |(refine Q2b rfl rfl ?_ B5;simp[go_sem,hd];done)
     |(refine Q2b rfl rfl ?_ V8;simp[go_sem,hd];done)
   ·refine And.intro ?_ (And.intro (by decide) ?_)
    ·intro A W hW E0 A0;have h0:=Q1o ((Q0j rfl).1 (A0 0 (by decide)));have h18:=Q1o ((Q0j rfl).1 (A0 18 (by decide)));refine Qs1 (u:=.string ⟨V4.toArray⟩) (by simp[go_sem,h0,h18,(Xo4 HW)]) ⟨rfl,hW⟩
    ·intro a w E0;rfl
   intro vs W1 I2 VY;obtain ⟨hv,R1⟩:=I2;have h20:=VY.trans hv;have HF:=Ua (Below.next0 (Xe6 HW) R1);clear R1 hv VY;simp only[Q0t,Act.put,Um,Ux,Ut,h20];clear h20
   go_wp2_with fail
   exact ⟨⟨i+1,congrArg (Value.int .i64) (by omega),F0,by rw[(Xo5 HW)],HF.out⟩,by simp only[intOf];omega⟩
  ·obtain rfl:i=bl:=(by omega);have G0:¬((i:Int)<(i:Int)):=(by omega);obtain ⟨Z,hZ⟩:∃t,TB++Q98 bx=t:=⟨_,rfl⟩;obtain ⟨K,hK⟩:∃t,Q1d 0 (Q0x F)=t:=⟨_,rfl⟩;have hF4:F.length<=4:=(Xo1 HR).field.2.1;have hKl:K.length<=800000:=by
    have h1:=Q5i (Qbc hq.2.2.2.2.2.2.2.f (Xo1 HR).field) 0 (by simp only;omega);have h2:=UT 168200 hF4;rw[<-hK];simp only at h1;omega
   have i4:bx.take i=bx:=Uw (by rw[(Xo1 HX)];exact Ue _);have Yz:Z.length<=17000:=by
    have:=(Xe2 HX) i;rw[i4] at this;rw[<-hZ,Ui];omega
   have hcat:¬9223372036854775807<Z.length+K.length:=(by omega);rw[i4,hZ];have hYs:sv Y=.string (⟨Z.toArray⟩++⟨K.toArray⟩):=by
    rw[<-HY.out,<-UV,hZ,hK];unfold sv;refine congrArg Value.string ?_
    apply ByteArray.ext
    simp[UM]
   have s3:Calls Tryz.prog 43 #[.slice fa fl fc] wr fun r w'=>r=.returned (.string ⟨K.toArray⟩)/\Bw wr w':=by
    refine (Qkm fa fl fc F wr hq.2.2.2.2.2.2.2.f).mono ?_;rintro r w' ⟨h1,_,h2⟩;refine ⟨?_,h2⟩;rw[h1 (Xo1 HR).field,hK]
   have HZ:=Xh3 s3 Z0 hYs;clear hq hZ hK hKl Yz i4 hYs s3 Z0
   go_wp2_with (go_at_call 43;refine (Xo0 HZ).mono ?_;rintro r wF ⟨rfl,hb⟩;have HF:=Ua hb;clear hb)
   go_ret;exact ⟨by rw[(Xe2 HZ)];rfl,Below.next0 (Below.next0 (Xe2 HR) H2.out) (Below.next0 (Xo1 HZ) HF.out)⟩
theorem Qdn [LT ZK] (p:Qfg) (x:Q33) (w:World) (h:Q2j w p x) (hR:¬Q1h x):
 Calls Tryz.prog 14 #[.agg (Q2e p x).toArray] w fun r w'=>r=.returned (sv [])/\Bw w w':=by
 have hr:=fun V (hV:Bw w V)=>Q4p p x V (h.step hV);have C4:yesB (Q1h x)=false:=by cases hv:yesB (Q1h x) with|false=>rfl|true=>exact absurd (Q0c.1 hv) hR
 rw[C4] at hr;have hC:=Q2x.new w (Q2e p x) 28;have Q0:Bw w (w.alloc (.cells (Q2e p x).toArray 28)):=Ba;have P3:=hr _ Q0;simp only[Q2e] at hC Q0 P3⊢;obtain ⟨k0,k1,k2,k3,k4,k5,k6,k7,k8,k9,k10,k11,k12,k13⟩:=Q05 hC;have HR:=Xh2 P3 Q0;clear hC Q0 P3 hr h C4 hR
 go_enter Tryz.func14,Tryz.ntmps14
 go_wp2_with (go_at_call 10;refine (Xo0 HR).mono ?_;rintro r w1 ⟨rfl,hb⟩;have H1:=Ua hb;clear hb)
 go_ret;exact ⟨rfl,Below.next0 (Xe1 HR) H1.out⟩
theorem Qkn [LT ZK] (p:Qfg) (x:Q33) (w:World) (h:Q2j w p x) (hR:¬Q1h x):
 Calls Tryz.prog 13 #[.agg (Q2e p x).toArray] w fun r w'=>r=.returned (sv [])/\Bw w w':=by
 have hr:=fun V (hV:Bw w V)=>Q34 p x V (h.step hV);have hC:=Q2x.new w (Q2e p x) 28;have Q0:Bw w (w.alloc (.cells (Q2e p x).toArray 28)):=Ba;have P3:=yn1 (hr _ Q0) (show yesB (Q1h x)=false by cases hv:yesB (Q1h x) with|false=>rfl|true=>exact absurd (Q0c.1 hv) hR);simp only[Q2e] at hC Q0 P3⊢;obtain ⟨k0,k1,k2,k3,k4,k5,k6,k7,k8,k9,k10,k11,k12,k13⟩:=Q05 hC;have HR:=Xh2 P3 Q0;clear hC Q0 P3 hr h hR
 go_enter Tryz.func13,Tryz.ntmps13
 go_wp2_with (go_at_call 9;refine (Xo0 HR).mono ?_;rintro r w1 ⟨rfl,hb⟩;have H1:=Ua hb;clear hb)
 go_ret;exact ⟨rfl,Below.next0 (Xe1 HR) H1.out⟩
theorem Qoa [LT ZK] (p:Qfg) (x:Q33) (w:World) (h:Q2j w p x) (hT:Q3r w) (hP:Qax w):∃s,∀V,Bw w V->
 (Calls Tryz.prog 13 #[.agg (Q2e p x).toArray] V fun r w'=>r=.returned (.string s)/\Bw V w')/\
 (Calls Tryz.prog 14 #[.agg (Q2e p x).toArray] V fun r w'=>r=.returned (.string s)/\Bw V w'):=by
 by_cases hR:Q1h x
 ·exact ⟨_,fun V hV=>⟨Qar p x V (h.step hV) hR (hT.step hV) (hP.step hV),Qd7 p x V (h.step hV) hR⟩⟩
 ·exact ⟨_,fun V hV=>⟨Qkn p x V (h.step hV) hR,Qdn p x V (h.step hV) hR⟩⟩
def Qv7 (neg:Bool) (v:Nat) (exp:Int) (e:Ending) (w':World):Prop:=∃neg' e' a' n' c' L er,e=.returned (.agg #[.bool neg',.int .i64 e',.slice a' n' c'])/\Q79 neg v exp neg' e' L er/\WordsIn w' a' n' c' L
theorem Q5l (neg:Bool) (a:OA) (n c:Nat) (ls:LN) (exp:Int) (w:World) (h:WordsIn w a n c ls) (hn:n<=100000) (he: -1000000000<=exp) (Q5:exp<=1000000000):
 Calls Tryz.prog 76 #[.bool neg,.slice a n c,.int .i64 exp] w fun e w'=>Qv7 neg (val (2^64) ls) exp e w'/\Bw w w':=by
 have M2:∀o,Bw w (w.alloc o):=fun o=>Ba;have O2:=Q0o w (.cells #[.bool false,.int .i64 0,.slice none 0 0] 26);have Qt:=Q03.new w (.bool false) (.int .i64 0) (.slice none 0 0) 26;have hm:=Qc2 neg a n c ls exp (w.alloc (.cells #[.bool false,.int .i64 0,.slice none 0 0] 26)) (h.step (M2 _)) hn he Q5;have HM:=Xh2 hm Qt;clear hm Qt h
 go_enter Tryz.func76,Tryz.ntmps76
 go_wp2_with (refine (Xo0 HM).mono ?_;rintro e w1 ⟨neg2,e2,a2,n2,c2,L,er,rfl,Z7,hW,C0⟩;
              have Q1:Bw w1 (w1.alloc (.cells #[.bool neg2,.int .i64 e2,.slice a2 n2 c2] 26)):=Ba;have C3:=Below.next0 C0 Q1;have G1:=(Xe1 HM).step C3 O2;obtain ⟨E4,J1,I1,U4,j3,U3⟩:=G1.cf;have D3:=G1.d1 (.bool neg2);have Z2:=G1.d2 (.bool neg2) (.int .i64 e2);have JM:=Q03.new w1 (.bool neg2) (.int .i64 e2) (.slice a2 n2 c2) 26;obtain ⟨J8,O5,Q2⟩:=JM.cc;have I0:=Xh4 G1 (Below.next0 (M2 _) C3) (hW.step Q1) Z7;clear G1 JM Q1 C3 C0 hW Z7)
 have JV:=(Xo0 I0).store (.bool neg2) (.int .i64 e2) (.slice a2 n2 c2);obtain ⟨k0,k1,k2⟩:=JV.cc;have N4:=Q03.below (Xo1 I0) (Ue _) (.bool neg2) (.int .i64 e2) (.slice a2 n2 c2);have P7:=(Xo2 I0);have QY:WordsIn _ a2 n2 c2 L:=⟨P7.len,P7.cap,P7.most,P7.low,(P7.rd.store3 (Xo0 I0) (fun _=>by simp[nv]) (fun _=>by simp[nv]) (fun _=>by simp[nv]) (.bool neg2) (.int .i64 e2) (.slice a2 n2 c2)).more (Q1s _ _ _ _ _)⟩;clear JV E4 J1 I1 U4 j3 U3 D3 Z2 P7 J8 O5 Q2;generalize World.setCell _ _ _=W5 at k0 k1 k2 N4 QY⊢;refine ⟨rfl,.agg #[.bool neg2,.int .i64 e2,.slice a2 n2 c2],by simp[results,go_sem,k0,k1,k2],⟨neg2,e2,a2,n2,c2,L,er,rfl,(Xe3 I0),QY⟩,N4⟩
theorem Qws (b i n:Nat) (w:World) (h:Q42 w b i) (hi:i<=1000000) (h0:0<n) (hn:n<=1000000):
 Calls Tryz.prog 119 #[.pointer (some ⟨b,0,none⟩),.int .i64 (n:Int)] w fun e w'=>(∃y:Bool,e=.returned (.bool y))/\Q42 w' b (i+1)/\Q0l (·=b) w w':=by
 have hc:=Qcx b i n w h hi h0 hn;have HC:=Ua hc;clear hc h
 go_enter Tryz.func119,Tryz.ntmps119
 go_wp2_with (refine HC.out.mono ?_;rintro e w1 ⟨⟨x,hx,rfl⟩,hd,ht⟩;(have HD:=Xh2 hd ht);clear hd ht)
 go_ret;exact ⟨⟨_,rfl⟩,HD.out⟩
end Go.Proofs.YtidojbkhlenahaaGreatDoor
namespace Go.Proofs.YtidojbkhlenahaaGreatDoor
open Go Go.RowKit
section
variable {P:Program}
def Qwt (P:Program) (ops:Array Oper) (C:World->Prop) (V:Nat->Value->World->Prop) (a0:Act) (Fin:World->Prop) (k0:Nat) (c:Value):List Oper->Prop
 |[o,o2]=>(∀a w,C w->Q7h ops a0 a->(∀i∈Q20 o,V i (Q09 ops a i) w)->Q0r P (fun _ w'=>Fin w') ((execOp a.eval o).run P w))/\k0∈Q20 o/\∀a w,Q7h ops a0 a->Q09 ops a k0=c->(execOp a.eval o2).run P w=.ok (.value c) w
 |_=>False
theorem Q7s {Q:Exit->Act->World->Prop} {id:Nat} {l:List Oper} {a0:Act} {w:World} (hm:P.follows .mixedOrders=true) (n:Nat) (hn:l.length=n+2) (C:World->Prop) (hC:∀w w',C w->Bw w w'->C w') (V:Nat->Value->World->Prop) (hV:∀i v w w',V i v w->Bw w w'->V i v w') (Fin:World->Prop) (k0:Nat) (c:Value) (Xa:∀v w,V k0 v w->v=c) (WB:k0<n)
 (hB:Q7i l a0.tmps.size=true) (hA:Qle l n=true) (Jr:((l[n+1]?).map fun o=>(Q20 o).contains n)=some true) (hG:(l.all fun o=>o.guard.isNone)=true) (hD:(l.zipIdx.all fun p=>p.1.dst.isSome || decide (p.2=n))=true) (h0:C w.drew)
 (step:Q3g P Q7l l.toArray C V a0 (l.take n) 0) (last:Qwt P l.toArray C V a0 Fin k0 c (l.drop n)) (fin:∀vs w,Fin w->vs (n+1)=c->Q .normal (Q0t vs l 0 a0) w):(Code.region id l.toArray true).wp P Q a0 w:=by
 have U5:∀(k:Nat) (o:Oper),l[k]?=some o->∀y,Region.wanted o y=true:=fun k o ho y=>by
  have h1:=Ts.1 hG o (Ug ho);unfold Region.wanted;cases hg:o.guard with
  |none=>rfl
  |some g=>rw[hg] at h1;cases h1
 obtain ⟨o1,o2,F6⟩:∃o1 o2,l.drop n=[o1,o2]:=by
  have h1:(l.drop n).length=2:=by rw[Th];omega
  cases hl:l.drop n with
  |nil=>rw[hl] at h1;cases h1
  |cons x r=>
   cases r with
   |nil=>rw[hl] at h1;cases h1
   |cons y s=>
    cases s with
    |nil=>exact ⟨x,y,rfl⟩
    |cons z s=>rw[hl] at h1;simp at h1
 have ho1:l[n]?=some o1:=by have:=congrArg (fun x=>x[0]?) F6;simpa using this
 have ZE:l[n+1]?=some o2:=by have:=congrArg (fun x=>x[1]?) F6;simpa using this
 have hdep2:n∈Q20 o2:=by rw[ZE] at Jr;simpa using Jr
 rw[F6] at last;obtain ⟨last1,last0,last2⟩:=last;have C4:∀(D:Nat->Bool) (vs:Nat->Value) (i:Nat) (o:Oper) (v:Value) (w:World),l[i]?=some o->o.dst=none->(if D n=true then (Fin w/\Q24 vs i v k0=c/\(D (n+1)=true->Q24 vs i v (n+1)=c)) else (C w/\D (n+1)=false/\∀j,D j=true->V j (Q24 vs i v j) w))->(if D n=true then (Fin w/\vs k0=c/\(D (n+1)=true->vs (n+1)=c)) else (C w/\D (n+1)=false/\∀j,D j=true->V j (vs j) w)):=by
  intro D vs i o v w hi hd h;have S9:i=n:=by
   have hm:(o,i)∈l.zipIdx:=(by rw[TO];exact hi);have h1:=Ts.1 hD _ hm;simpa[hd] using h1
  subst S9
  split at h
  ·rename_i i7;rw[Uu i7];unfold Q24 at h;rw[Uq (by omega),Uq (by omega)] at h;exact h
  ·rename_i i7;rw[Uq i7];refine ⟨h.1,h.2.1,fun j hj=>?_⟩;have:=h.2.2 j hj;unfold Q24 at this;rwa[Uq (fun e=>by subst e;exact i7 hj)] at this
 have A1:∀(k:Nat) (o:Oper),l[k]?=some o->Q62 P l.toArray (fun D vs w=>if D n=true then (Fin w/\vs k0=c/\(D (n+1)=true->vs (n+1)=c)) else (C w/\D (n+1)=false/\∀j,D j=true->V j (vs j) w)) a0 k o:=by
  intro k o ho a w D hI E0 hk p5 F1;have hkn2:k<=n+1:=by have:=(Uh.1 ho).1;omega
  refine ⟨U5 k o ho _,?_⟩
  by_cases K6:k=n+1
  ·subst K6;rw[ZE] at ho;injection ho with ho;subst ho;have i7:D n=true:=p5 n hdep2;simp only[i7,if_true] at hI;rw[last2 a w E0 hI.2.1]
   show if Q1x D (n+1) n=true then _ else _
   have e1:Q1x D (n+1) n=true:=(by unfold Q1x;rw[Uq (by omega)];exact i7);rw[Uu e1];refine ⟨hI.1,?_,fun _=>?_⟩
   ·unfold Q24;rw[Uq (by omega)];exact hI.2.1
   ·unfold Q24;rw[Uu rfl]
  have Zw:k<=n:=by omega
  have i7:D n=false:=Qc8 hA (D:=D) (fun j oj hj=>F1 j oj (by simpa using hj)) _ k rfl Zw hk;simp only[i7] at hI;obtain ⟨Zf,Wz,KD⟩:=hI;have Zd:∀i∈Q20 o,V i (Q09 l.toArray a i) w:=fun i hi=>KD i (p5 i hi)
  by_cases M9:k=n
  ·subst M9;rw[ho1] at ho;injection ho with ho;subst ho;have h1:=last1 a w Zf E0 Zd;have hk0v:Q09 l.toArray a k0=c:=Xa _ _ (Zd k0 last0);have hK:∀u w',Fin w'->(if Q1x D k k=true then (Fin w'/\Q24 (Q09 l.toArray a) k u k0=c/\(Q1x D k (k+1)=true->Q24 (Q09 l.toArray a) k u (k+1)=c)) else (C w'/\Q1x D k (k+1)=false/\∀j,Q1x D k j=true->V j (Q24 (Q09 l.toArray a) k u j) w')):=fun u w' h=>by
    rw[Q27,Uu rfl];refine ⟨h,?_,fun h2=>?_⟩
    ·unfold Q24;rw[Uq (by omega)];exact hk0v
    ·unfold Q1x at h2;rw[Uq (by omega),Wz] at h2;cases h2
   revert h1
   generalize (execOp a.eval o1).run P w=res;intro h1;cases res with
   |ok x w'=>
    cases x with
    |value u=>exact hK u w' h1
    |enter f args=>
     refine Xa6 h1 ?_;rintro e w'' ⟨v,rfl,hf⟩;exact ⟨v,rfl,hK v w'' hf⟩
    |skip=>exact hK undef w' h1
    |_=>exact h1.elim
   |halt x w'=>exact h1.elim
  ·have y8:(l.take n)[k]?=some o:=(by rw[Ty,Uu (by omega)];exact ho);have h1:=Q3g.at_ _ _ _ _ step y8;rw[UH] at h1;have h1:=h1 a w Zf E0 Zd;rw[Uu (U5 k o ho _)] at h1;have hK:∀u w',Bw w w'->V k u w'->(if Q1x D k n=true then (Fin w'/\Q24 (Q09 l.toArray a) k u k0=c/\(Q1x D k (n+1)=true->Q24 (Q09 l.toArray a) k u (n+1)=c)) else (C w'/\Q1x D k (n+1)=false/\∀j,Q1x D k j=true->V j (Q24 (Q09 l.toArray a) k u j) w')):=fun u w' hb hu=>by
    have e:Q1x D k n=false:=(by unfold Q1x;rw[Uq (fun e=>M9 e.symm)];exact i7);have e2:Q1x D k (n+1)=false:=(by unfold Q1x;rw[Uq (fun e=>K6 e.symm)];exact Wz);rw[e,Uq (by decide)];refine ⟨hC _ _ Zf hb,e2,fun j hj=>?_⟩;unfold Q24;unfold Q1x at hj
    by_cases QG:j=k
    ·subst QG;rw[Uu rfl];exact hu
    ·rw[Uq QG];rw[Uq QG] at hj;exact hV _ _ _ _ (KD j hj) hb
   revert h1
   generalize (execOp a.eval o).run P w=res;intro h1;cases res with
   |ok x w'=>
    cases x with
    |value u=>exact hK u w' h1.1 h1.2
    |enter f args=>
     refine Xa6 h1 ?_;rintro e w'' ⟨v,rfl,hb,hv⟩;exact ⟨v,rfl,hK v w'' hb hv⟩
    |skip=>exact hK undef w' h1.1 h1.2
    |_=>exact h1.elim
   |halt x w'=>exact h1.elim
 have QN:∀(r:List Oper) (k:Nat),(∀(i:Nat) o,r[i]?=some o->l[k+i]?=some o)->Q84 P l.toArray (fun D vs w=>if D n=true then (Fin w/\vs k0=c/\(D (n+1)=true->vs (n+1)=c)) else (C w/\D (n+1)=false/\∀j,D j=true->V j (vs j) w)) a0 r k:=by
  intro r
  induction r with
  |nil=>intro k _;trivial
  |cons o r ih=>
   intro k h;refine ⟨A1 k o (by simpa using h 0 o rfl),ih (k+1) fun i o' Qe=>?_⟩;have:=h (i+1) o' (by simpa using Qe);rwa[show k+(i+1)=k+1+i by omega] at this
 refine Q2i hm (fun D vs w=>if D n=true then (Fin w/\vs k0=c/\(D (n+1)=true->vs (n+1)=c)) else (C w/\D (n+1)=false/\∀j,D j=true->V j (vs j) w)) (fun i o hi hd D vs v w h=>C4 D vs i o v w hi hd h) hB (fun vs=>?_) (QN l 0 fun i o h=>by rw[UH];exact h) (fun D vs w A1 h=>?_)
 ·exact ⟨h0,rfl,fun j hj=>by cases hj⟩
 ·have i7:=A1 n (by omega);simp only[i7,if_true] at h;exact fin vs w h.1 (h.2.2 (A1 (n+1) (by omega)))
end
end Go.Proofs.YtidojbkhlenahaaGreatDoor
namespace Go.Proofs.YtidojbkhlenahaaGreatDoor
open Go.RowKit WordsM DecM
def Q6d (w:World) (u:Value) (d:Dyadic):Prop:=∃(x:Q2u) (a:OA) (l c:Nat),u=.agg #[.bool x.neg,.int .i64 x.exp,.slice a l c]/\Q0f w a l c x/\x.ok/\x.val=d
theorem Q6d.step {w w':World} {u:Value} {d:Dyadic} (h:Q6d w u d) (hb:Bw w w'):Q6d w' u d:=by
 obtain ⟨x,a,l,c,rfl,h1,h2,h3⟩:=h;exact ⟨x,a,l,c,rfl,h1.step hb,h2,h3⟩
theorem Qas (d:Dyadic):Q2d (fun u w=>Q6d w u d):=fun _ _ _ h hb=>h.step hb
theorem Q0f.turnD {w w':World} {b i:Nat} {a:OA} {l c:Nat} {x:Q2u} (h:Q0f w a l c x) (hd:Q42 w b i) (ht:Q0l (·=b) w w'):Q0f w' a l c x:=by
 refine ⟨⟨h.lie.len,h.lie.cap,h.lie.most,h.lie.low,?_⟩,h.lo,h.hi⟩;rcases h.lie.rd with h0|⟨g,o,rfl,hg,hc⟩
 ·exact .inl h0
 ·refine .inr ⟨g,o,rfl,Uc hg ht.size,fun j y hy=>?_⟩;have h1:=hc j y hy;refine (ht.cell (p:=⟨g,o+j,none⟩) hg fun e=>?_).trans h1;have e:g=b:=e;subst e;exact hd.nou (o+j) y h1
theorem Qbi {neg:Bool} {v:Nat} {exp:Int} {e:Ending} {w':World} (h:Qv7 neg v exp e w') (hf:Q6i (dy (sgn neg v) exp)):∃u,e=.returned u/\Q6d w' u (dy (sgn neg v) exp):=by
 obtain ⟨n',e',a',l',c',L,er,rfl,hm,hw⟩:=h;rcases Qb3 hm with ⟨_,_,h1,h2⟩|⟨h0,_⟩
 ·have:=Q9r h1;exact ⟨_,rfl,⟨n',e',L⟩,a',l',c',rfl,⟨hw,by show _<=e';omega,by show e'<=_;omega⟩,h1,h2⟩
 ·exact absurd hf h0
theorem Qim (u1 u2:Value) (D1 D2:Dyadic) (w:World) (h1:Q5c w u1 D1) (h2:Q5c w u2 D2) (f1:Q6i D1) (f2:Q6i D2):
 Calls Tryz.prog 168 #[.int .i64 0,u1,u2] w (Qe0 w (D1+D2)):=by
 obtain ⟨nx,ax,lx,cx,ex,vx,rfl,d1,c1,e1⟩:=h1;obtain ⟨ny,ay,ly,cy,ey,vy,rfl,d2,c2,e2⟩:=h2;have hQ:=fun W=>(Q9p w (.bool nx) (.slice ax lx cx) (.int .i64 ex) (.bool ny) (.slice ay ly cy) (.int .i64 ey) 87 87 87).step (W':=W);obtain ⟨W0,M1⟩:∃W0,((w.alloc (.cells #[.bool nx,.slice ax lx cx,.int .i64 ex] 87)).alloc (.cells #[.bool ny,.slice ay ly cy,.int .i64 ey] 87)).alloc (.cells #[.bool false,.slice none 0 0,.int .i64 0] 87)=W0:=⟨_,rfl⟩;rw[M1] at hQ;have hP:=hQ W0 (Ud _ _);have x7:=Q8s nx ax lx cx ex vx ny ay ly cy ey vy W0 (d1.step hP.bel) (d2.step hP.bel) c1 c2 69632 (by rw[e1];exact Q6q f1 (Ue _)) (by rw[e2];exact Q6q f2 (Ue _)) (by decide);rw[e1,e2] at x7;obtain ⟨k0,k1,k2,_,_,_⟩:=hP.bx;obtain ⟨l0,l1,l2,_,_,_⟩:=hP.by_;have HQ:=Xh2 hQ x7;clear hQ x7 d1 d2 c1 c2 e1 e2 f1 f2
 go_enter Tryz.func168,Tryz.ntmps168
 go_upto_region 1 with fail
 clear M1
 go_wp2_with (go_at_call 151;refine (Xe1 HQ).mono ?_;rintro r W1 ⟨u,rfl,⟨n8,a8,l8,c8,q8,v8,rfl,Qv,u6,Y9⟩,C0⟩
              have G3:Q03 W1 (w.heap.size+1+1) (.bool false) (.slice none 0 0) (.int .i64 0):=((Xo0 HQ) W1 C0).br;obtain ⟨k0,k1,k2,f0,f1,f2⟩:=G3.cf;have d1:=G3.d1 (.bool n8);have d2:=G3.d2 (.bool n8) (.slice a8 l8 c8);have HF:=Xh5 (G3.store (.bool n8) (.slice a8 l8 c8) (.int .i64 q8)) (Qv.box G3 (.bool n8) (.slice a8 l8 c8) (.int .i64 q8)) u6 Y9 (Q03.below ((Xo0 HQ) W1 C0).bel (by omega:w.heap.size<=w.heap.size+1+1) (.bool n8) (.slice a8 l8 c8) (.int .i64 q8));clear G3 Qv u6 Y9 C0)
 have g0:=(Xo0 HF).c0;have g1:=(Xo0 HF).c1;have g2:=(Xo0 HF).c2;exact ⟨rfl,.agg #[.bool n8,.slice a8 l8 c8,.int .i64 q8],by simp[results,go_sem,g0,g1,g2],_,rfl,⟨n8,a8,l8,c8,q8,v8,rfl,(Xo1 HF),(Xo2 HF),(Xo3 HF)⟩,(Xe4 HF)⟩
def Q8u (d:Dyadic) (u:Value) (w:World):Prop:=∃v,u=.tuple #[v,.int .i64 0]/\Q6d w v d
theorem Q8d (d:Dyadic):Q2d (Q8u d):=fun _ _ _ ⟨v,h1,h2⟩ hb=>⟨v,h1,h2.step hb⟩
theorem Qs2 {n:Bool} {v:Nat} {e:Int} {n':Bool} {e':Int} {L:LN} {er:Int} {a:OA} {l c:Nat} {w:World} (hc:Q3j n v e) (hm:Qkz n v e n' e' L er) (hw:WordsIn w a l c L) (hf:Q6i (dy (sgn n v) e)):Q8u (dy (sgn n v) e) (.tuple #[.agg #[.bool n',.int .i64 e',.slice a l c],.int .i64 er]) w:=by
 rcases Qds hc hm with ⟨_,rfl,h1,h2⟩|⟨h0,_⟩
 ·have:=Q9r h1;exact ⟨_,rfl,⟨n',e',L⟩,a,l,c,rfl,⟨hw,by show _<=e';omega,by show e'<=_;omega⟩,h1,h2⟩
 ·exact absurd hf h0
def Qz6 (w:World) (r:Nat) (d:Dyadic) (W:World):Prop:=∃(x:Q2u) (a:OA) (l c:Nat),Q03 W r (.bool x.neg) (.int .i64 x.exp) (.slice a l c)/\Q0f W a l c x/\x.ok/\x.val=d/\Bw w W
theorem Qep {w W:World} {r:Nat} {d:Dyadic} {b0:Bool} {a0:OA} {n0 c0:Nat} {e0:Int} (hr:w.heap.size<=r) (hb:Bw w W) (hN:Q03 W r (.bool b0) (.int .i64 e0) (.slice a0 n0 c0)) {x:Q2u} {a:OA} {l c:Nat} (h1:Q0f W a l c x) (h2:x.ok) (h3:x.val=d):
 Qz6 w r d (((W.setCell ⟨r,0,none⟩ (.bool x.neg)).setCell ⟨r,1,none⟩ (.int .i64 x.exp)).setCell ⟨r,2,none⟩ (.slice a l c)):=
 ⟨x,a,l,c,hN.store _ _ _,⟨h1.lie.set3 hN _ _ _,h1.lo,h1.hi⟩,h2,h3,Q03.below hb hr _ _ _⟩
end Go.Proofs.YtidojbkhlenahaaGreatDoor
