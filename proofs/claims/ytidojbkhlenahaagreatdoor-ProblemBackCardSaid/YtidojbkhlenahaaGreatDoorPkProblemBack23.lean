/- Part 23. No condition. -/
import Derived.ShutString
import Derived.ChangeOld
import Derived.Test.YtidojbkhlenahaaGreatDoorPkProblemBack22
set_option maxRecDepth 100000
set_option maxHeartbeats 16000000
namespace Go.Proofs.YtidojbkhlenahaaGreatDoor
open Go.RowKit WordsM DecM
theorem Qv8 {w:World} {p:Qt5} {x:Q52} (h:Q3x w p x) (hR:Q3c x):(Qan x.prob).length<=1000000:=by
 have nt:=(Q2l h.t hR.til.1).2;have nm:=(Q2l h.m hR.most.1).2;have ne:=(Q2l h.e hR.least.1).2;have rp:=hR.prec;have ro:=hR.order;have rb:=hR.budget;have s1:=Q49 (n:=x.prec) (by omega);have s2:=Q49 (n:=x.order) (by omega);have s3:=Q49 (n:=x.budget) (by omega);have h1:=Q7u (Qhd h.f hR.field) 0 (by have:=hR.field.2.1;omega);have h2:=Td 168200 hR.field.2.1;have hb:(Qbp (x.box.map fun b=>(b.lo.val,b.hi.val))).length<=4*2810:=by
  refine Un (Qaa _ fun b hb=>?_) (Td 2810 (by rw[UK];exact hR.box.2.1));obtain ⟨z,hz,rfl⟩:=To.1 hb;obtain ⟨_,_,_,h0|⟨g,o,_,_,Y1⟩⟩:=h.b
  ·rw[h0] at hz;cases hz
  ·obtain ⟨j,hj⟩:=UV.1 hz;obtain ⟨_,_,_,_,_,_,_,h1,h2⟩:=Y1 j z hj;exact ⟨(Q2l h1 (hR.box.2.2 z hz).1).2,(Q2l h2 (hR.box.2.2 z hz).2.1).2⟩
 have e1:Qd3.length=4:=rfl;have e2:Q7m.length=5:=rfl;have e3:Q5d.length=6:=rfl;have e4:Q7n.length=5:=rfl;have e5:Qeq.length=4:=rfl;have e6:Q8h.length=5:=rfl;unfold Qan Q52.prob;simp only[Uh,Q8c];omega
theorem Qks {p:Qt5} {x:Q52} {w:World} (h:Q3x w p x) (hR:Q3c x) (hT:Q1s w):
 Calls Tryz.prog 16 #[sv (Qan x.prob)] w fun e w'=>∃q,e=.returned (.tuple #[.agg (Q57 q x).toArray,.int .i64 0,.int .i64 0])/\Q3x w' q x/\Bw w w':=by
 refine (Qab ⟨(Qan x.prob).toArray⟩ w (Qv8 h hR) hT x.prob (Qii ((Qei h hR.field (Quz hR)).1 hR)) ((Qei h hR.field (Quz hR)).1 hR)).mono ?_;rintro e w6 ⟨q,y,rfl,hq,hy,hRy,F3⟩;obtain rfl:y=x:=Qor (Qhk hq hRy.field (Quz hRy)) (Qhk h hR.field (Quz hR)) hy;exact ⟨q,rfl,hq,F3⟩
theorem Qel (a:OA) (n c:Nat) (ls:LN) (w:World) (G3:ls.length=n) (hn:n<=9223372036854775807) (i9:RdU w w.heap.size a ls) (hx:∀x∈ls,x<18446744073709551616) (hl:Qxa w):
 Calls Tryz.prog 5 #[.slice a n c] w fun e w'=>e=.returned (.bool true)/\Bw w w':=by
 have hk:=Qv1 w hl;have HL:=Ub (fun W (hb:Bw w W)=>hl.below hb);have HRD:=Xh2 i9 hx;have HK:=Ub hk;clear hk hl i9 hx
 go_enter Tryz.func5,Tryz.ntmps5
 go_upto_region 4 with (first
  |(go_at_call 15
    refine (Qr9 a n c ls w1 G3 hn ((RdI.below (K:=.u64) (Xo0 HRD) H1.out).more H1.out.size) (Xe1 HRD)).mono ?_;rintro e w2 ⟨p,x,rfl,hP2,L7,D0⟩;have JD:=Below.next0 H1.out D0;have hC:=Q3w.new w2 (Q57 p x) 28;have J1:Bw w2 (w2.alloc (.cells (Q57 p x).toArray 28)):=Ba;have E0:=Q0h w2 (.cells (Q57 p x).toArray 28);have H2:=Xh6 hP2 L7 JD hC J1 E0;clear hP2 L7 D0 JD hC J1 E0;simp only[Q57])
  |(go_at_call 7;refine HK.out.mono ?_;rintro e w1 ⟨rfl,C0⟩;have H1:=Ub C0;clear C0))
 have h2:=H2.out;clear H2;obtain ⟨W2,I4⟩:∃W2,w2.alloc (.cells (Q57 p x).toArray 28)=W2:=⟨_,rfl⟩
 change _/\_/\_/\Q3w (w2.alloc (.cells (Q57 p x).toArray 28)) _ _/\_ at h2
 rw[I4] at h2;obtain ⟨hP2,L7,JD,hC,J1,E0⟩:=h2;simp only[Q57] at I4;rw[I4];clear I4;have hP:=hP2.step J1;have O0:=Below.next0 JD J1;have Jc:=Qbh p x W2 hP L7 (HL.out _ O0).tz (HL.out _ O0).pow;have H3:=Xh5 hP L7 O0 hC E0;obtain ⟨k0,k1,k2,k3,k4,k5,k6,k7,k8,k9,k10,k11,k12,k13⟩:=Q0c hC;have HS:=Ub Jc;clear hP O0 hP2 L7 JD hC J1 E0 Jc
 go_upto_region 5 with (first
  |(go_at_call 16
    refine (Xe1 H4).mono ?_;rintro e w4 ⟨q,rfl,hQ,F2⟩;have hb4':=Below.next0 (Xo0 H4) F2;have H5:=Xh2 hQ hb4';clear hQ F2 hb4';simp only[Q57])
  |(go_at_call 13
    refine HS.out.mono ?_;rintro e w3 ⟨rfl,G0⟩;have hpb:=Qks ((Xo0 H3).step G0) (Xo1 H3) (HL.out _ (Below.next0 (Xo2 H3) G0)).tz;have H4:=Xh2 G0 hpb;clear G0 hpb))
 have Q3:Bw w4 (w4.alloc (.cells (Q57 q x).toArray 28)):=Ba;have Wp:=Q3w.new w4 (Q57 q x) 28
 change Q3w (w4.alloc (.cells (Q57 q x).toArray 28)) _ _ at Wp
 obtain ⟨W4,I8⟩:∃W4,w4.alloc (.cells (Q57 q x).toArray 28)=W4:=⟨_,rfl⟩;rw[I8] at Q3 Wp;simp only[Q57] at I8;rw[I8];clear I8;have hQ4:=(Xo0 H5).step Q3;have WO:=Below.next0 (Xe1 H5) Q3;have hP4:=(Xo0 H3).step WO;have VU:=Below.next0 (Xo2 H3) WO;have hC1:=(Xo3 H3).step WO (Xe4 H3);have u7:=Qbf x p q W4 hP4 hQ4 (Qkk hP4.f (Xo1 H3).field);have HX:=Xh2 u7 VU;obtain ⟨k0,k1,k2,k3,k4,k5,k6,k7,k8,k9,k10,k11,k12,k13⟩:=Q0c hC1;obtain ⟨j0,j1,j2,j3,j4,j5,j6,j7,j8,j9,j10,j11,j12,j13⟩:=Q0c Wp;clear u7 VU hC1 Wp hP4 hQ4 WO Q3
 go_wp2_with (go_at_call 11;refine (Xo0 HX).mono ?_;rintro e w7 ⟨rfl,q6⟩;have H7:=Ub (Below.next0 (Xe1 HX) q6);clear q6)
 go_ret;exact ⟨rfl,H7.out⟩
end Go.Proofs.YtidojbkhlenahaaGreatDoor
namespace Go.Proofs.YtidojbkhlenahaaGreatDoor.problemBack
open Go.ChangeShapes Go.WideShapes Go.ChangeAt Go.RowKit
open Go.ChangeMaps (open_string shut_string)
set_option linter.unusedVariables false
theorem closed:joinedFacts Tryz.prog 5 Tryz.f5 (OpenSpec.ofChange Rows.problemBackSpec).bare Rows.problemBackRow=true:=by kernel_rfl
end Go.Proofs.YtidojbkhlenahaaGreatDoor.problemBack
