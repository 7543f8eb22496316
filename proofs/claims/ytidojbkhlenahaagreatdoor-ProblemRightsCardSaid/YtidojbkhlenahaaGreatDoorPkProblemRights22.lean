/- Part 22. No condition. -/
import Derived.ShutString
import Derived.ChangeOld
import Derived.Test.YtidojbkhlenahaaGreatDoorPkProblemRights21
set_option maxRecDepth 100000
set_option maxHeartbeats 16000000
namespace Go.Proofs.YtidojbkhlenahaaGreatDoor
open Go.RowKit WordsM DecM
theorem Q4k (X Y:LU) (h:X.length+Y.length<=100000000):∃Z,X++Y=Z/\Z.length=X.length+Y.length/\Op.stringOp .add ⟨X.toArray⟩ ⟨Y.toArray⟩=pure (.string ⟨Z.toArray⟩):=by
 refine ⟨_,rfl,by simp,?_⟩;have hs:¬((((⟨X.toArray⟩:ByteArray).size+(⟨Y.toArray⟩:ByteArray).size:Nat):Int)>IntKind.i64.max):=by
  show¬(((X.toArray.size+Y.toArray.size:Nat):Int)>9223372036854775807)
  simp only[Xbi];omega
 unfold Op.stringOp;simp only[Us hs];refine congrArg pure (congrArg Value.string (ByteArray.ext ?_));simp[UJ]
theorem Q61 {n:Int} {w:World} (h0:0<=n) (h1:n<=5000) {t:LU} (ht:dec n.toNat=t):
 Calls Tryz.prog 41 #[.int .i64 n] w fun r w'=>r=.returned (.string ⟨t.toArray⟩)/\Bw w w':=by
 subst ht;obtain ⟨m,rfl⟩:∃m:Nat,n=(m:Int):=⟨n.toNat,by omega⟩;have hm:m<=5000:=by omega
 rw[Xar]
 go_enter Tryz.func41,Tryz.ntmps41
 go_wp2_with (first
  |(refine (Q5b _ 1 1 [m] _ (Q7p _ m (by omega) 83) (by decide)).mono ?_;rintro e w4 ⟨a4,n4,c4,rfl,Qx,hD,N1⟩;rw[show val (2^64) [m]=m by simp[val]] at hD;have X4:=Xh3 hD N1 Qx;clear N1 hD Qx)
  |(go_at_call_of 72 a4;refine (Q50 a4 n4 c4 m _ (Xo0 X4) (by have:=(Xe2 X4);omega)).mono ?_;rintro e w5 ⟨rfl,C1⟩;have M3:=Ua (Below.next0 (Below.next0 (Ba) (Xo1 X4)) C1);clear C1))
 go_ret;exact ⟨rfl,M3.out⟩
theorem Q6o {x:Q39} {a:OA} {l c:Nat} {w:World} (h:Q0i w a l c x) (hi:x.ok) {t:LU} (ht:dyT x.val=t):
 Calls Tryz.prog 42 #[.agg #[.bool x.neg,.int .i64 x.exp,.slice a l c]] w fun r w'=>r=.returned (.string ⟨t.toArray⟩)/\Bw w w':=by
 subst ht;have:=Qcy x.neg x.exp a l c x.ws w h.lie h.lo h.hi;rw[(Q1z h hi).1] at this;exact this
theorem Qu1 {P:Program} {K:Value->World->Prop} {w:World} {u:Value} {res:Result Next} (hr:res=.ok (.value u) w) (h:K u w):Q2p P K res:=by rw[hr];exact h
def Qyh (w1:World) (L:LU) (bl:Nat) (bx:List (Dyadic × Dyadic)) (s u:Value) (wr:World):Prop:=∃i:Nat,u=.int .i64 (i:Int)/\i<=bl/\s=.string ⟨(L++Q7l (bx.take i)).toArray⟩/\Bw w1 wr
theorem Qe8 [LT ZK] (p:Qgo) (x:Q33) (w:World) (h:Q2g w p x) (hR:Q24 x):
 Calls Tryz.prog 14 #[.agg (Q46 p x).toArray] w fun r w'=>r=.returned (sv (Qcu x.prob))/\Bw w w':=by
 obtain ⟨⟨fa,fl,fc⟩,⟨ba,bl,bc⟩,⟨ta,tl,tc⟩,⟨ma,ml,mc⟩,⟨ea,el,ec⟩⟩:=p;obtain ⟨F,B,⟨tn,te,ts⟩,⟨mn,me,ms⟩,⟨en,ee,es⟩,prec,order,budget⟩:=x;have V5:B.length=bl:=h.b.1;have R2:=Ul h.b.2.1 h.b.2.2.1;simp only at R2;have nt:=Q1z h.t hR.til.1;have nm:=Q1z h.m hR.most.1;have ne:=Q1z h.e hR.least.1;have rp:=hR.prec;have ro:=hR.order;have rb:=hR.budget;simp only at rp ro rb;obtain ⟨sp,Zk⟩:∃t,dec prec.toNat=t:=⟨_,rfl⟩;obtain ⟨so,XQ⟩:∃t,dec order.toNat=t:=⟨_,rfl⟩;obtain ⟨sb,XB⟩:∃t,dec budget.toNat=t:=⟨_,rfl⟩;obtain ⟨st,Y0⟩:∃t,dyT (Q39.val ⟨tn,te,ts⟩)=t:=⟨_,rfl⟩;obtain ⟨sm,C4⟩:∃t,dyT (Q39.val ⟨mn,me,ms⟩)=t:=⟨_,rfl⟩;obtain ⟨se,R7⟩:∃t,dyT (Q39.val ⟨en,ee,es⟩)=t:=⟨_,rfl⟩;have g1:sp.length<=4:=by rw[<-Zk];exact Q49 (by omega)
 have g2:so.length<=4:=by rw[<-XQ];exact Q49 (by omega)
 have g3:sb.length<=4:=by rw[<-XB];exact Q49 (by omega)
 have g4:st.length<=1401:=by rw[<-Y0];exact nt.2
 have g5:sm.length<=1401:=by rw[<-C4];exact nm.2
 have g6:se.length<=1401:=by rw[<-R7];exact ne.2
 obtain ⟨T0,q0,l0,a0⟩:=Q4k [112,114,101,99,32] sp (by simp only[Um,UP];omega);obtain ⟨T1,q1,l1,a1⟩:=Q4k T0 [10,111,114,100,101,114,32] (by simp only[Um,UP] at*;omega);obtain ⟨T2,q2,l2,a2⟩:=Q4k T1 so (by simp only[Um,UP] at*;omega);obtain ⟨T3,q3,l3,a3⟩:=Q4k T2 [10,98,117,100,103,101,116,32] (by simp only[Um,UP] at*;omega);obtain ⟨T4,q4,l4,a4⟩:=Q4k T3 sb (by simp only[Um,UP] at*;omega);obtain ⟨T5,q5,l5,a5⟩:=Q4k T4 [10,117,110,116,105,108,32] (by simp only[Um,UP] at*;omega);obtain ⟨T6,q6,l6,a6⟩:=Q4k T5 st (by simp only[Um,UP] at*;omega);obtain ⟨T7,q7,l7,a7⟩:=Q4k T6 [10,109,111,115,116,32] (by simp only[Um,UP] at*;omega);obtain ⟨T8,q8,l8,a8⟩:=Q4k T7 sm (by simp only[Um,UP] at*;omega);obtain ⟨T9,q9,l9,a9⟩:=Q4k T8 [10,108,101,97,115,116,32] (by simp only[Um,UP] at*;omega);obtain ⟨TA,qA,lA,aA⟩:=Q4k T9 se (by simp only[Um,UP] at*;omega);obtain ⟨TB,qB,lB,aB⟩:=Q4k TA [10] (by simp only[Um,UP] at*;omega);have hTB:TB.length<=5000:=by simp only[Um,UP] at*;omega
 obtain ⟨Y,hY⟩:∃t,Qcu (Q33.prob ⟨F,B,⟨tn,te,ts⟩,⟨mn,me,ms⟩,⟨en,ee,es⟩,prec,order,budget⟩)=t:=⟨_,rfl⟩;have hYL:TB++(Q7l (B.map fun b=>(b.lo.val,b.hi.val))++Q0u 0 (Q0n F))=Y:=by
  have e:Y=Q22 Qbd sp++(Q22 Q74 so++(Q22 Q4n sb++(Q22 Q75 st++(Q22 Qct sm++(Q22 Q7k se++(Q7l (B.map fun b=>(b.lo.val,b.hi.val))++Q0u 0 (Q0n F))))))):=by rw[<-hY,<-Zk,<-XQ,<-XB,<-Y0,<-C4,<-R7];rfl
  rw[e,<-qB,<-qA,<-q9,<-q8,<-q7,<-q6,<-q5,<-q4,<-q3,<-q2,<-q1,<-q0];simp[Q22,Qbd,Q74,Q4n,Q75,Qct,Q7k]
 rw[hY];have HY:=Ua hYL;have HT:=Xh12 a0 a1 a2 a3 a4 a5 a6 a7 a8 a9 aA aB;clear nt nm ne hY hYL q0 q1 q2 q3 q4 q5 q6 q7 q8 q9 qA qB l0 l1 l2 l3 l4 l5 l6 l7 l8 l9 lA lB a0 a1 a2 a3 a4 a5 a6 a7 a8 a9 aA aB g1 g2 g3 g4 g5 g6;have hC:=Q3h.new w (Q46 ⟨⟨fa,fl,fc⟩,⟨ba,bl,bc⟩,⟨ta,tl,tc⟩,⟨ma,ml,mc⟩,⟨ea,el,ec⟩⟩ ⟨F,B,⟨tn,te,ts⟩,⟨mn,me,ms⟩,⟨en,ee,es⟩,prec,order,budget⟩) 28;have Z0:Bw w (w.alloc (.cells (Q46 ⟨⟨fa,fl,fc⟩,⟨ba,bl,bc⟩,⟨ta,tl,tc⟩,⟨ma,ml,mc⟩,⟨ea,el,ec⟩⟩ ⟨F,B,⟨tn,te,ts⟩,⟨mn,me,ms⟩,⟨en,ee,es⟩,prec,order,budget⟩).toArray 28)):=Ba;have E0:=Q0p w (.cells (Q46 ⟨⟨fa,fl,fc⟩,⟨ba,bl,bc⟩,⟨ta,tl,tc⟩,⟨ma,ml,mc⟩,⟨ea,el,ec⟩⟩ ⟨F,B,⟨tn,te,ts⟩,⟨mn,me,ms⟩,⟨en,ee,es⟩,prec,order,budget⟩).toArray 28);have Q4:=fun V (hV:Bw w V)=>Q4q _ _ V (h.step hV);rw[Q0b.2 hR] at Q4;simp only[Q46] at hC Z0 E0 Q4⊢;obtain ⟨W0,E1⟩:∃W0,w.alloc (.cells #[.slice fa fl fc,.slice ba bl bc,.bool tn,.int .i64 te,.slice ta tl tc,.bool mn,.int .i64 me,.slice ma ml mc,.bool en,.int .i64 ee,.slice ea el ec,.int .i64 prec,.int .i64 order,.int .i64 budget] 28)=W0:=⟨_,rfl⟩;rw[E1] at hC Z0 E0;have HC:=Ua (fun V (hV:Bw W0 V)=>have hb:=Below.next0 Z0 hV;have hh:=h.step hb;And.intro (hC.step hV E0) (And.intro (Q61 (w:=V) (n:=prec) (by omega) (by omega) Zk) (And.intro (Q61 (w:=V) (n:=order) (by omega) (by omega) XQ) (And.intro (Q61 (w:=V) (n:=budget) (by omega) (by omega) XB) (And.intro (Q6o (x:=⟨tn,te,ts⟩) hh.t hR.til.1 Y0) (And.intro (Q6o (x:=⟨mn,me,ms⟩) hh.m hR.most.1 C4) (And.intro (Q6o (x:=⟨en,ee,es⟩) hh.e hR.least.1 R7) hh)))))));have HR:=Xh3 (Q4 W0 Z0) hR Z0;obtain ⟨k0,k1,k2,k3,k4,k5,k6,k7,k8,k9,k10,k11,k12,k13⟩:=Q04 hC;clear hC Z0 E0 h Q4 hR Zk XQ XB Y0 C4 R7
 go_enter Tryz.func14,Tryz.ntmps14
 go_upto_region 1 with fail
 clear E1
 go_upto_region 3 with (go_at_call 10;refine (Xo0 HR).mono ?_;rintro r w1 ⟨rfl,hb⟩;have H1:=Ua hb;clear hb)
 clear k0 k1 k2 k3 k4 k5 k6 k7 k8 k9 k10 k11 k12 k13;refine Q06 (E:=Q8a) (fun _=>Uc _ _) (by kernel_rfl) (fun W=>Bw w1 W) (fun _ _ h h'=>Below.next0 h h') (Q40 [.pointer (some ⟨w.heap.size,11,none⟩),.int .i64 prec,.string ⟨sp.toArray⟩,.string ⟨T0.toArray⟩,.string ⟨T1.toArray⟩,.pointer (some ⟨w.heap.size,12,none⟩),.int .i64 order,.string ⟨so.toArray⟩,.string ⟨T2.toArray⟩,.string ⟨T3.toArray⟩,.pointer (some ⟨w.heap.size,13,none⟩),.int .i64 budget,.string ⟨sb.toArray⟩,.string ⟨T4.toArray⟩,.string ⟨T5.toArray⟩,.pointer (some ⟨w.heap.size,2,none⟩),.agg #[.bool tn,.int .i64 te,.slice ta tl tc],.string ⟨st.toArray⟩,.string ⟨T6.toArray⟩,.string ⟨T7.toArray⟩,.pointer (some ⟨w.heap.size,5,none⟩),.agg #[.bool mn,.int .i64 me,.slice ma ml mc],.string ⟨sm.toArray⟩,.string ⟨T8.toArray⟩,.string ⟨T9.toArray⟩,.pointer (some ⟨w.heap.size,8,none⟩),.agg #[.bool en,.int .i64 ee,.slice ea el ec],.string ⟨se.toArray⟩,.string ⟨TA.toArray⟩,.string ⟨TB.toArray⟩,.string ⟨TB.toArray⟩] (Q1h [])) (Q0c (Q0h ((fun p hp=>by cases hp)))) (Q0w (by kernel_rfl)) (by kernel_rfl) (Q01 w1) ?_ ?_
 ·skip
  repeat' (first|exact Q8n|refine Q8m ?_ ?_)
  all_goals
   refine Q1u rfl fun A W hW G0 hd hd=>?_;simp[Q7q,Region.binds,Q1h] at hd;have e1:=Q0d G0 1 (by kernel_rfl) rfl;obtain ⟨hc,D2,Q5,K4,hs4,hs5,hs6,_⟩:=HC.out W (Below.next0 H1.out hW);obtain ⟨k0,k1,k2,k3,k4,k5,k6,k7,k8,k9,k10,k11,k12,k13⟩:=Q04 hc;obtain ⟨a0,a1,a2,a3,a4,a5,a6,a7,a8,a9,aA,aB⟩:=HT.out
   first
   |(refine Q2x rfl rfl ?_;simp[go_sem,hd,e1,k2,k3,k4,k5,k6,k7,k8,k9,k10,k11,k12,k13,a0,a1,a2,a3,a4,a5,a6,a7,a8,a9,aA,aB];done)
   |(refine Q29 rfl rfl ?_ D2;simp[go_sem,hd];done)
   |(refine Q29 rfl rfl ?_ Q5;simp[go_sem,hd];done)
   |(refine Q29 rfl rfl ?_ K4;simp[go_sem,hd];done)
   |(refine Q29 rfl rfl ?_ hs4;simp[go_sem,hd];done)
   |(refine Q29 rfl rfl ?_ hs5;simp[go_sem,hd];done)
   |(refine Q29 rfl rfl ?_ hs6;simp[go_sem,hd];done)
 intro vs w2 R4 K2;have H2:=Ua (Below.next0 H1.out R4);have e30:vs 30=.string ⟨TB.toArray⟩:=(Q0f rfl).1 (K2 30 (by decide));simp only[Q0r,Act.put,Ur,Ux,Uv,e30];clear R4 K2 e30;obtain ⟨bx,K1⟩:∃l,(B.map fun b=>(b.lo.val,b.hi.val))=l:=⟨_,rfl⟩;have K5:bx.length=bl:=by rw[<-K1,UF,V5]
 rw[K1] at HY;have hbs:∀i,(Q7l (bx.take i)).length<=11240:=fun i=>by
  have h1:=Q9w (bx.take i) (fun b hb=>by
   rw[<-K1] at hb;obtain ⟨y,hy,rfl⟩:=Tx.1 (Ts hb);obtain ⟨j,hj⟩:=UQ.1 hy;have JH:=(Xo1 HR).box.2.2 y hy;obtain ⟨_,_,_,_,_,_,_,_,_,_,_,m1,m2⟩:=Qd9 (HC.out W0 (Uc _ _)).2.2.2.2.2.2.2.b hj;exact ⟨(Q1z m1 JH.1).2,(Q1z m2 JH.2.1).2⟩)
  have h2:(bx.take i).length<=4:=by
   have:=(Xo1 HR).box.2.1;simp only at this;rw[UW];omega
  have h3:=UY 2810 h2;omega
 have HX:=Xh3 K1 K5 hbs;clear K1 K5 hbs
 go_wp2_with fail
 go_loopw [3,4] (fun s3 s4 wr=>Qyh w2 TB bl bx s3 s4 wr) (fun _ iv _=>bl-(intOf iv).toNat)
 case atStart=>exact ⟨0,rfl,Ut _,by rw[List.take_zero];simp[Q7l],Uc _ _⟩
 case round=>
  obtain ⟨i,rfl,hi,rfl,M0⟩:=hrel;have hq:=HC.out wr (Below.next0 H2.out M0);obtain ⟨k0,k1,k2,k3,k4,k5,k6,k7,k8,k9,k10,k11,k12,k13⟩:=Q04 hq.1
  by_cases E0:i<bl
  ·have F0:(i:Int)<(bl:Int):=(by omega);obtain ⟨z,hz⟩:∃z,B[i]?=some z:=⟨_,Ub (by omega)⟩;obtain ⟨b0,o0,rfl,Z0,pa,pl,pc,qa,ql,qc,⟨y0,y1,y2,y3,y4,y5⟩,A5,o4⟩:=Qd9 hq.2.2.2.2.2.2.2.b hz;have O1:=(Xo1 HR).box.2.2 z (Ug hz);obtain ⟨u1,JZ⟩:∃t,dyT z.lo.val=t:=⟨_,rfl⟩;obtain ⟨u2,Qu⟩:∃t,dyT z.hi.val=t:=⟨_,rfl⟩;have i5:u1.length<=1401:=(by rw[<-JZ];exact (Q1z A5 O1.1).2);have o7:u2.length<=1401:=(by rw[<-Qu];exact (Q1z o4 O1.2.1).2);have G3:bx[i]?=some (z.lo.val,z.hi.val):=(by rw[<-(Xo0 HX),UK,hz];rfl);have hS:(TB++Q7l (bx.take i)).length<=17000:=(by rw[Uh];have:=(Xe2 HX) i;omega);have K6:TB++Q7l (bx.take (i+1))=TB++Q7l (bx.take i)++Q22 Qh9 (u1++32::u2):=(by rw[Q6i G3,Qe0,JZ,Qu,UN]);obtain ⟨S,hSS⟩:∃t,TB++Q7l (bx.take i)=t:=⟨_,rfl⟩;rw[hSS] at hS K6⊢;obtain ⟨V0,r0,m0,c0⟩:=Q4k [98,111,120,32] u1 (by simp only[Um,UP];omega);obtain ⟨V1,r1,m1,c1⟩:=Q4k V0 [32] (by simp only[Um,UP] at*;omega);obtain ⟨V2,r2,m2,c2⟩:=Q4k V1 u2 (by simp only[Um,UP] at*;omega);obtain ⟨V3,r3,m3,c3⟩:=Q4k V2 [10] (by simp only[Um,UP] at*;omega);obtain ⟨V4,r4,m4,c4⟩:=Q4k S V3 (by simp only[Um,UP] at*;omega);have hV:TB++Q7l (bx.take (i+1))=V4:=(by rw[K6,<-r4,<-r3,<-r2,<-r1,<-r0];simp[Q22,Qh9]);have HV:=Ua (fun (W:World) (hW:Bw wr W)=>And.intro ((hW.cell (p:=⟨b0,o0+i*6,none⟩) Z0).trans y0) (And.intro ((hW.cell (p:=⟨b0,o0+i*6+1,none⟩) Z0).trans y1) (And.intro ((hW.cell (p:=⟨b0,o0+i*6+2,none⟩) Z0).trans y2) (And.intro ((hW.cell (p:=⟨b0,o0+i*6+3,none⟩) Z0).trans y3) (And.intro ((hW.cell (p:=⟨b0,o0+i*6+4,none⟩) Z0).trans y4) (And.intro ((hW.cell (p:=⟨b0,o0+i*6+5,none⟩) Z0).trans y5) (And.intro (Q6o (A5.step hW) O1.1 JZ) (And.intro (Q6o (o4.step hW) O1.2.1 Qu) ((HC.out W (Below.next0 (Below.next0 H2.out M0) hW)).1)))))))));have HW:=Xh7 c0 c1 c2 c3 c4 hV M0;clear hq A5 o4 O1 JZ Qu i5 o7 G3 K6 hSS M0 hz c0 c1 c2 c3 c4 hV r0 r1 r2 r3 r4 m0 m1 m2 m3 m4 hS y0 y1 y2 y3 y4 y5
   go_upto_region 7 with fail
   clear k0 k1 k2 k3 k4 k5 k6 k7 k8 k9 k10 k11 k12 k13;refine Qef (by kernel_rfl) 19 rfl (fun W=>Bw wr W) (fun _ _ h h'=>Below.next0 h h') (Q40 [.string ⟨S.toArray⟩,.pointer (some ⟨w.heap.size,1,none⟩),.slice (some ⟨b0,o0,none⟩) bl bc,.int .i64 (i:Int),.pointer (some ⟨b0,o0+i*6,none⟩),.pointer (some ⟨b0,o0+i*6,none⟩),.agg #[.bool z.lo.neg,.int .i64 z.lo.exp,.slice pa pl pc],.string ⟨u1.toArray⟩,.string ⟨V0.toArray⟩,.string ⟨V1.toArray⟩,.pointer (some ⟨w.heap.size,1,none⟩),.slice (some ⟨b0,o0,none⟩) bl bc,.int .i64 (i:Int),.pointer (some ⟨b0,o0+i*6,none⟩),.pointer (some ⟨b0,o0+i*6+3,none⟩),.agg #[.bool z.hi.neg,.int .i64 z.hi.exp,.slice qa ql qc],.string ⟨u2.toArray⟩,.string ⟨V2.toArray⟩,.string ⟨V3.toArray⟩] (Q1h [])) (Q0c (Q0h ((fun p hp=>by cases hp)))) (fun v W=>v=.string ⟨V4.toArray⟩/\Bw wr W) (by kernel_rfl) (by kernel_rfl) (by kernel_rfl) (by kernel_rfl) (Q01 wr) ?_ ?_ ?_
   ·skip
    repeat' (first|exact Q8n|refine Q8m ?_ ?_)
    all_goals
     refine Q1u rfl fun A W hW G0 hd hd=>?_;simp[Q7q,Region.binds,Q1h] at hd;have e1:=Q0d G0 1 (by kernel_rfl) rfl;have e3:=Q0d G0 3 (by kernel_rfl) rfl;have e4:=Q0d G0 4 (by kernel_rfl) rfl;obtain ⟨y0,y1,y2,y3,y4,y5,D2,Q5,hc⟩:=HV.out W hW;have k1:=(Q04 hc).2.1;obtain ⟨c0,c1,c2,c3,c4,_⟩:=HW.out
     first
     |(refine Q2x rfl rfl ?_;simp[go_sem,hd,e1,e3,e4,F0,y0,y1,y2,y3,y4,y5,k1,c0,c1,c2,c3];done)
     |(refine Q29 rfl rfl ?_ D2;simp[go_sem,hd];done)
     |(refine Q29 rfl rfl ?_ Q5;simp[go_sem,hd];done)
   ·refine And.intro ?_ (And.intro (by decide) ?_)
    ·intro A W hW G0 C0;have h0:=Q44 ((Q0f rfl).1 (C0 0 (by decide)));have h18:=Q44 ((Q0f rfl).1 (C0 18 (by decide)));refine Qu1 (u:=.string ⟨V4.toArray⟩) (by simp[go_sem,h0,h18,(Xo4 HW)]) ⟨rfl,hW⟩
    ·intro a w G0;rfl
   intro vs W1 X2 Xw;obtain ⟨hv,I1⟩:=X2;have h20:=Xw.trans hv;have HF:=Ua (Below.next0 (Xe6 HW) I1);clear I1 hv Xw;simp only[Q0r,Act.put,Ur,Ux,Uv,h20];clear h20
   go_wp2_with fail
   exact ⟨⟨i+1,congrArg (Value.int .i64) (by omega),E0,by rw[(Xo5 HW)],HF.out⟩,by simp only[intOf];omega⟩
  ·obtain rfl:i=bl:=(by omega);have F0:¬((i:Int)<(i:Int)):=(by omega);obtain ⟨Z,hZ⟩:∃t,TB++Q7l bx=t:=⟨_,rfl⟩;obtain ⟨K,hK⟩:∃t,Q0u 0 (Q0n F)=t:=⟨_,rfl⟩;have hF4:F.length<=4:=(Xo1 HR).field.2.1;have hKl:K.length<=800000:=by
    have h1:=Q5w (Qc2 hq.2.2.2.2.2.2.2.f (Xo1 HR).field) 0 (by simp only;omega);have h2:=UY 168200 hF4;rw[<-hK];simp only at h1;omega
   have o5:bx.take i=bx:=Uz (by rw[(Xo1 HX)];exact Uf _);have Wr:Z.length<=17000:=by
    have:=(Xe2 HX) i;rw[o5] at this;rw[<-hZ,Uh];omega
   have Zx:¬9223372036854775807<Z.length+K.length:=(by omega);rw[o5,hZ];have hYs:sv Y=.string (⟨Z.toArray⟩++⟨K.toArray⟩):=by
    rw[<-HY.out,<-UN,hZ,hK];unfold sv;refine congrArg Value.string ?_
    apply ByteArray.ext
    simp[UJ]
   have s3:Calls Tryz.prog 43 #[.slice fa fl fc] wr fun r w'=>r=.returned (.string ⟨K.toArray⟩)/\Bw wr w':=by
    refine (Qm1 fa fl fc F wr hq.2.2.2.2.2.2.2.f).mono ?_;rintro r w' ⟨h1,_,h2⟩;refine ⟨?_,h2⟩;rw[h1 (Xo1 HR).field,hK]
   have HZ:=Xh3 s3 M0 hYs;clear hq hZ hK hKl Wr o5 hYs s3 M0
   go_wp2_with (go_at_call 43;refine (Xo0 HZ).mono ?_;rintro r wF ⟨rfl,hb⟩;have HF:=Ua hb;clear hb)
   go_ret;exact ⟨by rw[(Xe2 HZ)];rfl,Below.next0 (Below.next0 (Xe2 HR) H2.out) (Below.next0 (Xo1 HZ) HF.out)⟩
theorem Qel [LT ZK] (p:Qgo) (x:Q33) (w:World) (h:Q2g w p x) (hR:¬Q24 x):
 Calls Tryz.prog 14 #[.agg (Q46 p x).toArray] w fun r w'=>r=.returned (sv [])/\Bw w w':=by
 have hr:=fun V (hV:Bw w V)=>Q4q p x V (h.step hV);have i4:yesB (Q24 x)=false:=by cases hv:yesB (Q24 x) with|false=>rfl|true=>exact absurd (Q0b.1 hv) hR
 rw[i4] at hr;have hC:=Q3h.new w (Q46 p x) 28;have Z0:Bw w (w.alloc (.cells (Q46 p x).toArray 28)):=Ba;have M1:=hr _ Z0;simp only[Q46] at hC Z0 M1⊢;obtain ⟨k0,k1,k2,k3,k4,k5,k6,k7,k8,k9,k10,k11,k12,k13⟩:=Q04 hC;have HR:=Xh2 M1 Z0;clear hC Z0 M1 hr h i4 hR
 go_enter Tryz.func14,Tryz.ntmps14
 go_wp2_with (go_at_call 10;refine (Xo0 HR).mono ?_;rintro r w1 ⟨rfl,hb⟩;have H1:=Ua hb;clear hb)
 go_ret;exact ⟨rfl,Below.next0 (Xe1 HR) H1.out⟩
theorem Qyi (w:World) (hl:Qu5 w):Calls Tryz.prog 7 #[] w fun e w'=>e=.returned (.bool true)/\Bw w w':= @Qto ⟨fun _ _=>True⟩ ⟨⟨trivial⟩⟩ w hl
structure Qu2 (x:Q33):Prop where
 f:x.field.length<=6
 b:x.box.length<=6
 t:x.til.ws.length<=70
 m:x.most.ws.length<=70
 e:x.least.ws.length<=70
 fs:∀(j:Nat) (ms:List Q00),x.field[j]?=some ms->ms.length<=30
 bs:∀(j:Nat) (z:IvV),x.box[j]?=some z->z.lo.ws.length<=70/\z.hi.ws.length<=70
theorem Qu3 (p q r s t:Prop):p∨(¬p/\q)∨(¬p/\¬q/\r)∨(¬p/\¬q/\¬r/\s)∨(¬p/\¬q/\¬r/\¬s/\t)∨(¬p/\¬q/\¬r/\¬s/\¬t):=by
 by_cases p <;> by_cases q <;> by_cases r <;> by_cases s <;> by_cases t <;> simp_all
theorem Qnm {α:Type} {P:α->Prop} {l:List α} {i:Nat} {x:α} (h:∀(j:Nat) y,j<i->l[j]?=some y->P y) (hx:l[i]?=some x) (hp:P x):∀(j:Nat) y,j<i+1->l[j]?=some y->P y:=fun j y hj hy=>by
 by_cases e:j=i
 ·rw[e,hx] at hy;injection hy with hy;rw[<-hy];exact hp
 ·exact h j y (by omega) hy
theorem Qk2 [LT ZK] (p:Qgo) (x:Q33) (w:World) (h:Q2g w p x):
 Calls Tryz.prog 8 #[.agg (Q46 p x).toArray] w fun r w'=>Q09 (Qu2 x) r/\Bw w w':=by
 obtain ⟨⟨fa,fl,fc⟩,⟨ba,bl,bc⟩,⟨ta,tl,tc⟩,⟨ma,ml,mc⟩,⟨ea,el,ec⟩⟩:=p;obtain ⟨F,B,⟨tn,te,ts⟩,⟨mn,me,ms⟩,⟨en,ee,es⟩,prec,order,budget⟩:=x;have hfl:F.length=fl:=h.f.1;have V5:B.length=bl:=h.b.1;have S5:ts.length=tl:=h.t.lie.len;have Jg:ms.length=ml:=h.m.lie.len;have Ks:es.length=el:=h.e.lie.len;have hf3:=Ul h.f.2.1 h.f.2.2.1;have I0:=Ul h.b.2.1 h.b.2.2.1;simp only at hf3 I0;have hC:=Q3h.new w (Q46 ⟨⟨fa,fl,fc⟩,⟨ba,bl,bc⟩,⟨ta,tl,tc⟩,⟨ma,ml,mc⟩,⟨ea,el,ec⟩⟩ ⟨F,B,⟨tn,te,ts⟩,⟨mn,me,ms⟩,⟨en,ee,es⟩,prec,order,budget⟩) 28;have Z0:Bw w (w.alloc (.cells (Q46 ⟨⟨fa,fl,fc⟩,⟨ba,bl,bc⟩,⟨ta,tl,tc⟩,⟨ma,ml,mc⟩,⟨ea,el,ec⟩⟩ ⟨F,B,⟨tn,te,ts⟩,⟨mn,me,ms⟩,⟨en,ee,es⟩,prec,order,budget⟩).toArray 28)):=Ba;simp only[Q46] at hC Z0⊢;obtain ⟨W0,E1⟩:∃W0,w.alloc (.cells #[.slice fa fl fc,.slice ba bl bc,.bool tn,.int .i64 te,.slice ta tl tc,.bool mn,.int .i64 me,.slice ma ml mc,.bool en,.int .i64 ee,.slice ea el ec,.int .i64 prec,.int .i64 order,.int .i64 budget] 28)=W0:=⟨_,rfl⟩;rw[E1] at hC Z0;obtain ⟨k0,k1,k2,k3,k4,k5,k6,k7,k8,k9,k10,k11,k12,k13⟩:=Q04 hC;have HP:=Xh7 (h.step Z0) Z0 hfl V5 S5 Jg Ks;have key:=Qu3 ((6:Int)<(fl:Int)) ((6:Int)<(bl:Int)) ((70:Int)<(tl:Int)) ((70:Int)<(ml:Int)) ((70:Int)<(el:Int));clear hC Z0 h S5 Jg Ks;rcases key with h1|⟨h1,h2⟩|⟨h1,h2,h3⟩|⟨h1,h2,h3,h4⟩|⟨h1,h2,h3,h4,h5⟩|⟨h1,h2,h3,h4,h5⟩
 rotate_right
 ·go_enter Tryz.func8,Tryz.ntmps8
  go_upto_region 1 with fail
  clear E1
  go_wp2_with fail
  go_loopw [3] (fun s3 wr=>∃i:Nat,s3=.int .i64 (i:Int)/\i<=fl/\(∀(j:Nat) (ms:List Q00),j<i->F[j]?=some ms->ms.length<=30)/\W0=wr) (fun iv _=>fl-(intOf iv).toNat)
  case atStart=>exact ⟨0,rfl,Ut _,fun j _ h=>absurd h (Tk _),rfl⟩
  case round=>
   obtain ⟨i,rfl,hi,R0,rfl⟩:=hrel
   by_cases E0:i<fl
   ·have F0:(i:Int)<(fl:Int):=(by omega);obtain ⟨zs,hz⟩:∃z,F[i]?=some z:=⟨_,Ub (by omega)⟩;obtain ⟨b0,o0,rfl,_,p,l,d,y0,hm⟩:=Q9n (Xo0 HP).f hz;have Qs:=Ul hm.2.1 hm.2.2.1;have Q2:=hm.1;have HA:=Xh3 R0 hz Q2;clear hm hz R0 Q2
    by_cases h30:(30:Int)<(l:Int)
    ·go_wp2_with fail
     go_ret;exact ⟨Q09.no (fun hL=>by have:=hL.fs i zs (Xo1 HA);have:=(Xe2 HA);omega) rfl,(Xo1 HP)⟩
    ·go_wp2_with fail
     exact ⟨⟨i+1,congrArg (Value.int .i64) (by omega),E0,Qnm (Xo0 HA) (Xo1 HA) (by have:=(Xe2 HA);omega),by trivial⟩,by simp only[intOf];omega⟩
   ·have F0:¬(i:Int)<(fl:Int):=(by omega);have HA:=Ua (fun (j:Nat) (ms:List Q00) (hj:F[j]?=some ms)=>R0 j ms (by have:=(Ui.1 hj).1;omega) hj);clear R0
    go_wp2_with fail
    go_loopw [4] (fun s4 wr=>∃i:Nat,s4=.int .i64 (i:Int)/\i<=bl/\(∀(j:Nat) (z:IvV),j<i->B[j]?=some z->z.lo.ws.length<=70/\z.hi.ws.length<=70)/\W0=wr) (fun iv _=>bl-(intOf iv).toNat)
    case atStart=>exact ⟨0,rfl,Ut _,fun j _ h=>absurd h (Tk _),rfl⟩
    case round=>
     obtain ⟨j,rfl,hj,R0,rfl⟩:=hrel
     by_cases hlu:j<bl
     ·have hlu':(j:Int)<(bl:Int):=(by omega);obtain ⟨z,hz⟩:∃z,B[j]?=some z:=⟨_,Ub (by omega)⟩;obtain ⟨b0,o0,rfl,_,pa,pl,pc,qa,ql,qc,⟨y0,y1,y2,y3,y4,y5⟩,A5,o4⟩:=Qd9 (Xo0 HP).b hz;have ZW:=Ul A5.lie.cap A5.lie.most;have Je:=Ul o4.lie.cap o4.lie.most;have HD:=Xh4 R0 hz A5.lie.len o4.lie.len;clear A5 o4 hz R0
      by_cases h30:(70:Int)<(pl:Int)
      ·go_wp2_with fail
       go_ret;exact ⟨Q09.no (fun hL=>by have:=(hL.bs j z (Xo1 HD)).1;have:=(Xo2 HD);omega) rfl,(Xo1 HP)⟩
      ·by_cases h31:(70:Int)<(ql:Int)
       ·go_wp2_with fail
        go_ret;exact ⟨Q09.no (fun hL=>by have:=(hL.bs j z (Xo1 HD)).2;have:=(Xe3 HD);omega) rfl,(Xo1 HP)⟩
       ·go_wp2_with fail
        exact ⟨⟨j+1,congrArg (Value.int .i64) (by omega),hlu,Qnm (Xo0 HD) (Xo1 HD) (by have:=(Xe2 HD);omega),by trivial⟩,by simp only[intOf];omega⟩
     ·have hlu':¬(j:Int)<(bl:Int):=(by omega);have HD:=Ua (fun (k:Nat) (z:IvV) (hk:B[k]?=some z)=>R0 k z (by have:=(Ui.1 hk).1;omega) hk);clear R0
      go_wp2_with fail
      go_ret;obtain ⟨_,hb,q1,q2,q3,q4,q5⟩:=HP.out;exact ⟨Q09.yes ⟨by simp only;omega,by simp only;omega,by simp only;omega,by simp only;omega,by simp only;omega,HA.out,HD.out⟩ rfl,hb⟩
 all_goals
  go_enter Tryz.func8,Tryz.ntmps8
  go_upto_region 1 with fail
  clear E1
  go_wp2_with fail
  go_ret;obtain ⟨_,hb,q1,q2,q3,q4,q5⟩:=HP.out
 ·exact ⟨Q09.no (fun hL=>by have:=hL.f;simp only at this;omega) rfl,hb⟩
 ·exact ⟨Q09.no (fun hL=>by have:=hL.b;simp only at this;omega) rfl,hb⟩
 ·exact ⟨Q09.no (fun hL=>by have:=hL.t;simp only at this;omega) rfl,hb⟩
 ·exact ⟨Q09.no (fun hL=>by have:=hL.m;simp only at this;omega) rfl,hb⟩
 ·exact ⟨Q09.no (fun hL=>by have:=hL.e;simp only at this;omega) rfl,hb⟩
theorem Qm2 [LT ZK] (p:Qgo) (x:Q33) (w:World) (h:Q2g w p x) (hR:¬Q24 x):
 Calls Tryz.prog 13 #[.agg (Q46 p x).toArray] w fun r w'=>r=.returned (sv [])/\Bw w w':=by
 have hr:=fun V (hV:Bw w V)=>Q3y p x V (h.step hV);have hC:=Q3h.new w (Q46 p x) 28;have Z0:Bw w (w.alloc (.cells (Q46 p x).toArray 28)):=Ba;have M1:=yn1 (hr _ Z0) (show yesB (Q24 x)=false by cases hv:yesB (Q24 x) with|false=>rfl|true=>exact absurd (Q0b.1 hv) hR);simp only[Q46] at hC Z0 M1⊢;obtain ⟨k0,k1,k2,k3,k4,k5,k6,k7,k8,k9,k10,k11,k12,k13⟩:=Q04 hC;have HR:=Xh2 M1 Z0;clear hC Z0 M1 hr h hR
 go_enter Tryz.func13,Tryz.ntmps13
 go_wp2_with (go_at_call 9;refine (Xo0 HR).mono ?_;rintro r w1 ⟨rfl,hb⟩;have H1:=Ua hb;clear hb)
 go_ret;exact ⟨rfl,Below.next0 (Xe1 HR) H1.out⟩
theorem Qpy [LT ZK] (p:Qgo) (x:Q33) (w:World) (h:Q2g w p x) (hT:Q1s w) (hP:Qbh w):∃s,∀V,Bw w V->
 (Calls Tryz.prog 13 #[.agg (Q46 p x).toArray] V fun r w'=>r=.returned (.string s)/\Bw V w')/\
 (Calls Tryz.prog 14 #[.agg (Q46 p x).toArray] V fun r w'=>r=.returned (.string s)/\Bw V w'):=by
 by_cases hR:Q24 x
 ·exact ⟨_,fun V hV=>⟨Qb7 p x V (h.step hV) hR (hT.step hV) (hP.step hV),Qe8 p x V (h.step hV) hR⟩⟩
 ·exact ⟨_,fun V hV=>⟨Qm2 p x V (h.step hV) hR,Qel p x V (h.step hV) hR⟩⟩
theorem Qat [LT ZK] (p q:Qgo) (x y:Q33) (w:World) (h1:Q2g w p x) (h2:Q2g w q y) (hl:Qu5 w):
 Calls Tryz.prog 3 #[.agg (Q46 p x).toArray,.agg (Q46 q y).toArray] w fun e w'=>e=.returned (.bool true)/\Bw w w':=by
 obtain ⟨s,hs⟩:=Qpy p x w h1 hl.tz hl.pow;obtain ⟨rb,hrb⟩:∃b,yesB (Q24 x)=b:=⟨_,rfl⟩;obtain ⟨sb,XB⟩:∃b,yesB (x=y)=b:=⟨_,rfl⟩;obtain ⟨b1,A0⟩:∃b,yesB (Qu2 x)=b:=⟨_,rfl⟩;obtain ⟨b2,D0⟩:∃b,yesB (Qu2 y)=b:=⟨_,rfl⟩;have hH:=fun V (hV:Bw w V)=>have g1:=h1.step hV;have g2:=h2.step hV;And.intro (yn1 (Qk2 p x V g1) A0) (And.intro (yn1 (Qk2 q y V g2) D0) (And.intro (yn1 (Q3y p x V g1) hrb) (And.intro (hrb ▸ Q4q p x V g1) (And.intro (yn1 (Q7t x y p q V g1 g2) XB) (And.intro (yn1 (Qe5 x y p q V g1 g2) XB) (And.intro (yn1 (Q7t x x p p V g1 g1) (Q0b.2 rfl)) (hs V hV)))))));have hk:=fun V (hV:Bw w V)=>Qyi V (hl.below hV);obtain ⟨⟨pfa,pfl,pfc⟩,⟨pba,pbl,pbc⟩,⟨pta,ptl,ptc⟩,⟨pma,pml,pmc⟩,⟨pea,pel,pec⟩⟩:=p;obtain ⟨⟨qfa,qfl,qfc⟩,⟨qba,qbl,qbc⟩,⟨qta,qtl,qtc⟩,⟨qma,qml,qmc⟩,⟨qea,qel,qec⟩⟩:=q;obtain ⟨F,B,⟨tn,te,ts⟩,⟨mn,me,ms⟩,⟨en,ee,es⟩,prec,order,budget⟩:=x;obtain ⟨G,D,⟨un,ue,us⟩,⟨nn,ne,ns⟩,⟨fn,fe,fs⟩,prec2,order2,budget2⟩:=y;simp only[Q46] at hH⊢;obtain ⟨W0,E1⟩:∃W0,(w.alloc (.cells #[.slice pfa pfl pfc,.slice pba pbl pbc,.bool tn,.int .i64 te,.slice pta ptl ptc,.bool mn,.int .i64 me,.slice pma pml pmc,.bool en,.int .i64 ee,.slice pea pel pec,.int .i64 prec,.int .i64 order,.int .i64 budget] 28)).alloc (.cells #[.slice qfa qfl qfc,.slice qba qbl qbc,.bool un,.int .i64 ue,.slice qta qtl qtc,.bool nn,.int .i64 ne,.slice qma qml qmc,.bool fn,.int .i64 fe,.slice qea qel qec,.int .i64 prec2,.int .i64 order2,.int .i64 budget2] 28)=W0:=⟨_,rfl⟩;obtain ⟨hX,hY,Z0,Y1⟩:=Q7s [.slice pfa pfl pfc,.slice pba pbl pbc,.bool tn,.int .i64 te,.slice pta ptl ptc,.bool mn,.int .i64 me,.slice pma pml pmc,.bool en,.int .i64 ee,.slice pea pel pec,.int .i64 prec,.int .i64 order,.int .i64 budget] [.slice qfa qfl qfc,.slice qba qbl qbc,.bool un,.int .i64 ue,.slice qta qtl qtc,.bool nn,.int .i64 ne,.slice qma qml qmc,.bool fn,.int .i64 fe,.slice qea qel qec,.int .i64 prec2,.int .i64 order2,.int .i64 budget2] 28 E1;have HC:=Ua (fun V (hV:Bw W0 V)=>have hb:=Below.next0 Z0 hV;And.intro (hX.step hV (by omega)) (And.intro (hY.step hV (by omega)) (hH V hb)));have HK:=Xh2 (hk W0 Z0) Z0;obtain ⟨k0,k1,k2,k3,k4,k5,k6,k7,k8,k9,k10,k11,k12,k13⟩:=Q04 hX;obtain ⟨l0,l1,l2,l3,l4,l5,l6,l7,l8,l9,l10,l11,l12,l13⟩:=Q04 hY;clear hX hY Z0 Y1 h1 h2 hH hk hs hrb XB A0 D0 hl
 by_cases Y2:b1=true/\b2=true
 rotate_left
 ·have hc:b1=false∨(b1=true/\b2=false):=by cases b1 <;> cases b2 <;> simp_all
  clear Y2;rcases hc with rfl|⟨rfl,rfl⟩
  all_goals
   go_enter Tryz.func3,Tryz.ntmps3
   go_upto_region 1 with fail
   clear E1
   go_wp2_with (first
    |(go_at_call_of 8 (Value.agg #[.slice qfa qfl qfc,.slice qba qbl qbc,.bool un,.int .i64 ue,.slice qta qtl qtc,.bool nn,.int .i64 ne,.slice qma qml qmc,.bool fn,.int .i64 fe,.slice qea qel qec,.int .i64 prec2,.int .i64 order2,.int .i64 budget2]);refine (HC.out w2 H2.out).2.2.2.1.mono ?_;rintro r w3 ⟨rfl,hb⟩;have H3:=Ua (Below.next0 H2.out hb);have hq:=HC.out w3 H3.out;obtain ⟨k0,k1,k2,k3,k4,k5,k6,k7,k8,k9,k10,k11,k12,k13⟩:=Q04 hq.1;obtain ⟨l0,l1,l2,l3,l4,l5,l6,l7,l8,l9,l10,l11,l12,l13⟩:=Q04 hq.2.1;clear hq hb)
    |(go_at_call_of 8 (Value.agg #[.slice pfa pfl pfc,.slice pba pbl pbc,.bool tn,.int .i64 te,.slice pta ptl ptc,.bool mn,.int .i64 me,.slice pma pml pmc,.bool en,.int .i64 ee,.slice pea pel pec,.int .i64 prec,.int .i64 order,.int .i64 budget]);refine (HC.out w1 H1.out).2.2.1.mono ?_;rintro r w2 ⟨rfl,hb⟩;have H2:=Ua (Below.next0 H1.out hb);have hq:=HC.out w2 H2.out;obtain ⟨k0,k1,k2,k3,k4,k5,k6,k7,k8,k9,k10,k11,k12,k13⟩:=Q04 hq.1;obtain ⟨l0,l1,l2,l3,l4,l5,l6,l7,l8,l9,l10,l11,l12,l13⟩:=Q04 hq.2.1;clear hq hb)
    |(go_at_call 7;refine (Xo0 HK).mono ?_;rintro r w1 ⟨rfl,hb⟩;have H1:=Ua hb;have hq:=HC.out w1 H1.out;obtain ⟨k0,k1,k2,k3,k4,k5,k6,k7,k8,k9,k10,k11,k12,k13⟩:=Q04 hq.1;obtain ⟨l0,l1,l2,l3,l4,l5,l6,l7,l8,l9,l10,l11,l12,l13⟩:=Q04 hq.2.1;clear hq hb))
   go_ret
   first
   |exact ⟨rfl,Below.next0 (Xe1 HK) H3.out⟩
   |exact ⟨rfl,Below.next0 (Xe1 HK) H2.out⟩
 obtain ⟨rfl,rfl⟩:=Y2
 go_enter Tryz.func3,Tryz.ntmps3
 go_upto_region 1 with fail
 clear E1
 go_upto_region 5 with (first
  |(go_at_call_of 8 (Value.agg #[.slice qfa qfl qfc,.slice qba qbl qbc,.bool un,.int .i64 ue,.slice qta qtl qtc,.bool nn,.int .i64 ne,.slice qma qml qmc,.bool fn,.int .i64 fe,.slice qea qel qec,.int .i64 prec2,.int .i64 order2,.int .i64 budget2]);refine (HC.out w2 H2.out).2.2.2.1.mono ?_;rintro r w3 ⟨rfl,hb⟩;have H3:=Ua (Below.next0 H2.out hb);have hq:=HC.out w3 H3.out;obtain ⟨k0,k1,k2,k3,k4,k5,k6,k7,k8,k9,k10,k11,k12,k13⟩:=Q04 hq.1;obtain ⟨l0,l1,l2,l3,l4,l5,l6,l7,l8,l9,l10,l11,l12,l13⟩:=Q04 hq.2.1;clear hq hb)
  |(go_at_call_of 8 (Value.agg #[.slice pfa pfl pfc,.slice pba pbl pbc,.bool tn,.int .i64 te,.slice pta ptl ptc,.bool mn,.int .i64 me,.slice pma pml pmc,.bool en,.int .i64 ee,.slice pea pel pec,.int .i64 prec,.int .i64 order,.int .i64 budget]);refine (HC.out w1 H1.out).2.2.1.mono ?_;rintro r w2 ⟨rfl,hb⟩;have H2:=Ua (Below.next0 H1.out hb);have hq:=HC.out w2 H2.out;obtain ⟨k0,k1,k2,k3,k4,k5,k6,k7,k8,k9,k10,k11,k12,k13⟩:=Q04 hq.1;obtain ⟨l0,l1,l2,l3,l4,l5,l6,l7,l8,l9,l10,l11,l12,l13⟩:=Q04 hq.2.1;clear hq hb)
  |(go_at_call 7;refine (Xo0 HK).mono ?_;rintro r w1 ⟨rfl,hb⟩;have H1:=Ua hb;have hq:=HC.out w1 H1.out;obtain ⟨k0,k1,k2,k3,k4,k5,k6,k7,k8,k9,k10,k11,k12,k13⟩:=Q04 hq.1;obtain ⟨l0,l1,l2,l3,l4,l5,l6,l7,l8,l9,l10,l11,l12,l13⟩:=Q04 hq.2.1;clear hq hb))
 clear k0 k1 k2 k3 k4 k5 k6 k7 k8 k9 k10 k11 k12 k13 l0 l1 l2 l3 l4 l5 l6 l7 l8 l9 l10 l11 l12 l13;refine Q06 (E:=Q8a) (fun _=>Uc _ _) (by kernel_rfl) (fun W=>Bw w3 W) (fun _ _ h h'=>Below.next0 h h') (Q40 [.agg #[.slice pfa pfl pfc,.slice pba pbl pbc,.bool tn,.int .i64 te,.slice pta ptl ptc,.bool mn,.int .i64 me,.slice pma pml pmc,.bool en,.int .i64 ee,.slice pea pel pec,.int .i64 prec,.int .i64 order,.int .i64 budget],.bool rb,.agg #[.slice pfa pfl pfc,.slice pba pbl pbc,.bool tn,.int .i64 te,.slice pta ptl ptc,.bool mn,.int .i64 me,.slice pma pml pmc,.bool en,.int .i64 ee,.slice pea pel pec,.int .i64 prec,.int .i64 order,.int .i64 budget],.bool rb,.bool true,.bool true,.agg #[.slice pfa pfl pfc,.slice pba pbl pbc,.bool tn,.int .i64 te,.slice pta ptl ptc,.bool mn,.int .i64 me,.slice pma pml pmc,.bool en,.int .i64 ee,.slice pea pel pec,.int .i64 prec,.int .i64 order,.int .i64 budget],.agg #[.slice qfa qfl qfc,.slice qba qbl qbc,.bool un,.int .i64 ue,.slice qta qtl qtc,.bool nn,.int .i64 ne,.slice qma qml qmc,.bool fn,.int .i64 fe,.slice qea qel qec,.int .i64 prec2,.int .i64 order2,.int .i64 budget2],.bool sb,.agg #[.slice pfa pfl pfc,.slice pba pbl pbc,.bool tn,.int .i64 te,.slice pta ptl ptc,.bool mn,.int .i64 me,.slice pma pml pmc,.bool en,.int .i64 ee,.slice pea pel pec,.int .i64 prec,.int .i64 order,.int .i64 budget],.agg #[.slice qfa qfl qfc,.slice qba qbl qbc,.bool un,.int .i64 ue,.slice qta qtl qtc,.bool nn,.int .i64 ne,.slice qma qml qmc,.bool fn,.int .i64 fe,.slice qea qel qec,.int .i64 prec2,.int .i64 order2,.int .i64 budget2],.bool sb,.bool true,.bool true,.bool true,.agg #[.slice pfa pfl pfc,.slice pba pbl pbc,.bool tn,.int .i64 te,.slice pta ptl ptc,.bool mn,.int .i64 me,.slice pma pml pmc,.bool en,.int .i64 ee,.slice pea pel pec,.int .i64 prec,.int .i64 order,.int .i64 budget],.agg #[.slice pfa pfl pfc,.slice pba pbl pbc,.bool tn,.int .i64 te,.slice pta ptl ptc,.bool mn,.int .i64 me,.slice pma pml pmc,.bool en,.int .i64 ee,.slice pea pel pec,.int .i64 prec,.int .i64 order,.int .i64 budget],.bool true,.bool true,.bool true,.agg #[.slice pfa pfl pfc,.slice pba pbl pbc,.bool tn,.int .i64 te,.slice pta ptl ptc,.bool mn,.int .i64 me,.slice pma pml pmc,.bool en,.int .i64 ee,.slice pea pel pec,.int .i64 prec,.int .i64 order,.int .i64 budget],.string s,.agg #[.slice pfa pfl pfc,.slice pba pbl pbc,.bool tn,.int .i64 te,.slice pta ptl ptc,.bool mn,.int .i64 me,.slice pma pml pmc,.bool en,.int .i64 ee,.slice pea pel pec,.int .i64 prec,.int .i64 order,.int .i64 budget],.string s,.bool true,.bool true,.bool true] (Q1h [])) (Q0c (Q0h ((fun p hp=>by cases hp)))) (Q0w (by kernel_rfl)) (by kernel_rfl) (Q01 w3) ?_ ?_
 ·skip
  repeat' (first|exact Q8n|refine Q8m ?_ ?_)
  all_goals
   refine Q1u rfl fun A W hW G0 hd hd=>?_;simp[Q7q,Region.binds,Q1h] at hd;have e2:=Q0d G0 2 (by kernel_rfl) rfl;have e3:=Q0d G0 3 (by kernel_rfl) rfl;obtain ⟨i6,J5,_,_,c1,c2,c3,c4,c5,c6,c7⟩:=HC.out W (Below.next0 H3.out hW);obtain ⟨k0,k1,k2,k3,k4,k5,k6,k7,k8,k9,k10,k11,k12,k13⟩:=Q04 i6;obtain ⟨l0,l1,l2,l3,l4,l5,l6,l7,l8,l9,l10,l11,l12,l13⟩:=Q04 J5
   first
   |(refine Q2x rfl rfl ?_;simp[go_sem,hd,e2,e3,k0,k1,k2,k3,k4,k5,k6,k7,k8,k9,k10,k11,k12,k13,l0,l1,l2,l3,l4,l5,l6,l7,l8,l9,l10,l11,l12,l13];done)
   |(refine Q29 rfl rfl ?_ c1;simp[go_sem,hd];done)
   |(refine Q29 rfl rfl ?_ c2;simp[go_sem,hd];done)
   |(refine Q29 rfl rfl ?_ c3;simp[go_sem,hd];done)
   |(refine Q29 rfl rfl ?_ c4;simp[go_sem,hd];done)
   |(refine Q29 rfl rfl ?_ c5;simp[go_sem,hd];done)
   |(refine Q29 rfl rfl ?_ c6;simp[go_sem,hd];done)
   |(refine Q29 rfl rfl ?_ c7;simp[go_sem,hd];done)
 intro vs W1 I1 K2;have HB:=Ua (Below.next0 (Below.next0 (Xe1 HK) H3.out) I1);have e26:vs 26=.bool true:=(Q0f rfl).1 (K2 26 (by decide));simp only[Q0r,Act.put,Ur,Ux,Uv,e26];clear I1 K2 e26
 go_wp2_with fail
 go_ret;exact ⟨rfl,HB.out⟩
end Go.Proofs.YtidojbkhlenahaaGreatDoor
