/- Part 9 of the proof of LawParseBuilt: NatU, NatC, DyM, ExactA, FlatE. Condition: as each theorem says; none at the end. -/
import Derived.Test.YtdilmfakkppgpaaGreatDoorPkParseBuilt08
set_option maxRecDepth 100000
set_option maxHeartbeats 16000000
namespace Go.Proofs.YtdilmfakkppgpaaGreatDoor
open Go.RowKit WordsM
theorem Qq1 {s t x y:Nat} (Z0:s+t=64) (hx:x<2^64) (hy:y<2^s):y |||x*2^s%2^64=y+x*2^s%2^64/\y+x*2^s%2^64<2^64/\x*2^s / 2^64<2^s/\x / 2^t=x*2^s / 2^64:=by
 have e:(2:Nat)^64=2^t*2^s:=by rw[<-Tz,<-Z0,Xbf]
 have e2:x*2^s%2^64=2^s*(x%2^t):=by rw[e,Nat.mul_mod_mul_right,UG]
 have hm:x%2^t<2^t:=TG _ (Tr (by decide));have o6:2^s*(x%2^t+1)<=2^s*2^t:=Xax _ hm;rw[Tt,Xbx,UG (2^s) (2^t),<-e] at o6;refine ⟨?_,?_,?_,?_⟩
 ·rw[e2,Nat.or_comm,<-Nat.two_pow_add_eq_or_of_lt hy,Xbf]
 ·rw[e2];omega
 ·rw[UG];exact Xac (by rw[UG (2^64)];exact Nat.mul_lt_mul_of_pos_left hx (Tr (by decide)))
 ·rw[e,Nat.mul_div_mul_right _ _ (Tr (by decide))]
theorem Qq2 (a:OA) (n c:Nat) (ls:LN) (z:Nat) (w:World) (h:WordsIn w a n c ls) (hn:n<=1000000) (hz:z<=100000000):
 Calls Tryz.prog 100 #[.slice a n c,.int .i64 (z:Int)] w (Qbr w (val (2^64) ls*2^z)):=by
 have Z2:=h.len;have H1:=Ua h;clear h;have Z5:=trim_len ls
 by_cases h0:(trimL ls).length=0
 ·have X9:trimL ls=[]:=UH.1 h0;have C9:val (2^64) ls=0:=by rw[<-Q1d,X9];rfl
  rw[C9,TU];have h0I:((trimL ls).length:Int)=0:=by omega
  have h0b:(((trimL ls).length:Int)==0)=true:=by rw[beq_iff_eq];exact h0I
  go_enter Tryz.func100,Tryz.ntmps100
  go_wp2_with (refine (Q1l a n c ls _ H1.out).mono ?_;rintro e w1 ⟨rfl,C0⟩;have K0:=Ua C0;clear C0)
  go_ret;exact ⟨none,0,0,rfl,WordsIn.nil_ _,K0.out⟩
 have h0I:¬((trimL ls).length:Int)=0:=by omega
 have h0b:(((trimL ls).length:Int)==0)=false:=by rw[Ui];exact h0I
 obtain ⟨k,hk⟩:∃k,z / 64=k:=⟨_,rfl⟩;obtain ⟨s,hs⟩:∃s,z%64=s:=⟨_,rfl⟩;have YN:s<64:=by omega
 have WX:z=64*k+s:=by omega
 have Wu:(z:Int).tdiv 64=(k:Int):=by rw[Int.tdiv_eq_ediv_of_nonneg (by omega)];omega
 have hsI:(z:Int).tmod 64=(s:Int):=by rw[Int.tmod_eq_emod_of_nonneg (by omega)];omega
 have hkI2:(z:Int) / 64=(k:Int):=by omega
 have hsI2:(z:Int)%64=(s:Int):=by omega
 have O5:(64:Int)-(s:Int)=((64-s:Nat):Int):=by omega
 have hzv:val (2^64) ls*2^z=val (2^64) (trimL ls)*((2^64)^k*2^s):=by rw[Q1d,WX,Tz,Xar]
 rw[hzv];obtain ⟨A,hA⟩:∃A,trimL ls=A:=⟨_,rfl⟩;have hT:=fun W (hb:Bw w W)=>(H1.out.step hb).trim;rw[hA] at Z5 h0I h0b hT⊢;have U3:=Xam (P:=Tryz.prog) 23 74 (.int .u64 0) 8 Tryz.underlying23 Q5o rfl .i64 .i64 (A.length+k+1) (by omega) (by omega);rw[show ((A.length+k+1:Nat):Int)=(A.length:Int)+(k:Int)+1 by omega,Q1k] at U3;have HT:=Ua hT;have hcut:=fun W hb=>Q1l a n c ls W (H1.out.step hb);rw[hA] at hcut;have HC:=Ua hcut;clear hT hk hs hzv WX h0 hA hcut
 go_enter Tryz.func100,Tryz.ntmps100
 go_wp2_with (refine (HC.out _ (Uf _ _)).mono ?_;rintro e w1 ⟨rfl,C0⟩;have K0:=Ua C0;clear C0)
 have S1:=HT.out w1 K0.out;have f8:=S1.low;have X8:=S1.rd;have F2:Bw w1 (w1.alloc (.cells (Array.replicate (A.length+k+1) (nv .u64 0)) 74)):=Ba;have X9:=Arr.zeros w1 74 .u64 (A.length+k+1);have H0:=Xh2 F2 X9;have H:=Xh2 f8 X8;clear F2 X9 U3 S1 f8 X8
 go_loopw [27] (fun iv wr=>∃(i:Nat) (L:LN),iv=.int .i64 (i:Int)/\i<=A.length/\Arr 74 .u64 wr w1.heap.size L/\L.length=A.length+k+1/\Low (2^64) L/\val (2^64) L=val (2^64) (A.take i)*((2^64)^k*2^s)/\(∀t,k+i<t->t<A.length+k+1->L[t]?=some 0)/\(∃y,L[k+i]?=some y/\y<2^s)/\Bw w1 wr) (fun iv _=>A.length-(intOf iv).toNat)
 case atStart=>
  refine ⟨0,List.replicate (A.length+k+1) 0,rfl,Uu _,(Xe1 H0),by simp,fun x hx=>?_,by rw[Q7d];simp[val],fun t _ ht=>?_,⟨0,?_,Tr (by decide)⟩,(Xo0 H0)⟩
  ·rw[TP hx];decide
  ·rw[TL];simp[ht]
  ·rw[TL,Us (by omega)]
 case round=>
  obtain ⟨i,L,rfl,hi,hL,K5,O0,J0,u4,⟨y,hy,hys⟩,N0⟩:=hrel
  by_cases B0:i<A.length
  ·have E0:(i:Int)<(A.length:Int):=(by omega);obtain ⟨x,hx⟩:∃x,A[i]?=some x:=⟨_,Ub B0⟩;obtain ⟨ba,oa,N6,V5,E6⟩:=((Xe1 H).below N0).at_ hx;have J3:x<18446744073709551616:=(Xo0 H) x (Ud hx);have JM:y<18446744073709551616:=O0 y (Ud hy);subst N6;obtain ⟨A7,ZR,JB,ZC⟩:=Qq1 (s:=s) (t:=64-s) (x:=x) (y:=y) (by omega) J3 hys;have h0i:=u4 (k+i+1) (by omega) (by omega);have X0:=fun lo hi (hp:x*2^s=lo+2^64*hi)=>Qgs (lo:=lo) (hi:=hi) J0 hx hy h0i hp;have VW:((x:Int)*2^s)%18446744073709551616=((x*2^s%2^64:Nat):Int):=(by rw[Int.natCast_emod,Int.natCast_mul,Int.natCast_pow];rfl);have VZ:(x:Int) / 2^(64-s)=((x / 2^(64-s):Nat):Int):=(by norm_cast);obtain ⟨p,hp⟩:∃p,x*2^s=p:=⟨_,rfl⟩;rw[ZC] at VZ;rw[hp] at A7 ZR JB X0 VW VZ;obtain ⟨lo,q5⟩:∃lo,p%2^64=lo:=⟨_,rfl⟩;obtain ⟨Qe,XF⟩:∃hi,p / 2^64=hi:=⟨_,rfl⟩;have hpd:=Nat.mod_add_div p (2^64);rw[q5,XF] at hpd;have Z0:=X0 lo Qe hpd.symm;rw[q5] at A7 ZR VW;rw[XF] at JB VZ;have Qw:lo<18446744073709551616:=(by rw[<-q5];exact TG _ (by decide));have hhil:Qe<18446744073709551616:=Nat.lt_trans JB (Nat.pow_lt_pow_right (by decide) YN);have ho64:=u64_or_nat y lo JM Qw;rw[A7] at ho64;obtain ⟨q,hq⟩:∃q,y+lo=q:=⟨_,rfl⟩;rw[hq] at ho64 ZR Z0;rw[Xbf k i] at Z0 hy h0i;have hzc:wr.drew.cell? ⟨w1.heap.size,i+k,none⟩=some (.int .u64 (y:Int)):=hL.cell hy;have Wv:wr.drew.frozen? ⟨w1.heap.size,i+k,none⟩=false:=hL.frozen _;have Xt:Arr 74 .u64 (wr.setCell ⟨w1.heap.size,i+k,none⟩ (.int .u64 (q:Int))).drew w1.heap.size (L.set (i+k) q):=Arr.set (w:=wr) hL (i+k) q;have R8:(L.set (i+k) q)[i+k+1]?=some 0:=(by rw[Tj (by omega)];exact h0i);have hzc1:=Xt.cell R8;have hzf1:(wr.setCell ⟨w1.heap.size,i+k,none⟩ (.int .u64 (q:Int))).drew.frozen? ⟨w1.heap.size,i+k+1,none⟩=false:=Xt.frozen _;have Ks:=Xt.set (i+k+1) Qe;have hcx':wr.drew.cell? ⟨ba,oa+i,none⟩=some (.int .u64 (x:Int)):=E6;have hki:(i:Int)+(k:Int)<(A.length:Int)+(k:Int)+1:=(by omega);have hki1:(i:Int)+(k:Int)+1<(A.length:Int)+(k:Int)+1:=(by omega);have hkia:(k:Int)+(i:Int)<(A.length:Int)+(k:Int)+1:=(by omega);have hkia1:(k:Int)+(i:Int)+1<(A.length:Int)+(k:Int)+1:=(by omega);have HH:=Xh6 Z0 Ks O0 N0 u4 JB;clear Z0 hL Xt Ks O0 J0 N0 u4 q5 XF hp hx hy h0i X0 A7 R8 JB hq hpd ZC;have G3:bits .or .u64 (y:Int) (IntKind.u64.wrap ((x:Int)*2^s))=(q:Int):=by rw[IntKind.wrap_u64,VW,ho64]
   go_wp2_with fail
   go_region
   go_wp2_with fail
   refine ⟨⟨i+1,(L.set (i+k) q).set (i+k+1) Qe,by simp,by omega,(Xo1 HH),by simp[K5],Q3z (Q3z (Xo2 HH) ZR) hhil,(Xo0 HH),fun t Y1 U1=>?_,⟨Qe,?_,(Xe5 HH)⟩,((Xo3 HH).setCell (p:=⟨w1.heap.size,i+k,none⟩) (Ug _) _).drew.setCell (p:=⟨w1.heap.size,i+k+1,none⟩) (Ug _) _⟩,by simp only[intOf];omega⟩
   ·rw[Tj (by omega),Tj (by omega)];exact (Xo4 HH) t (by omega) U1
   ·rw[show k+(i+1)=i+k+1 by omega,TN (by rw[Xbk];omega)]
  ·obtain rfl:i=A.length:=(by omega);have E0:¬((A.length:Int)<(A.length:Int)):=(by omega);rw[Ta] at J0;have hWL:WordsIn wr (some ⟨w1.heap.size,0,none⟩) (A.length+k+1) (A.length+k+1) L:=⟨K5,Ug _,by omega,O0,hL.rd⟩;have hT:=hWL.trim;rw[Q1q (by decide) O0,J0] at hT;have hC:=Q1l (some ⟨w1.heap.size,0,none⟩) (A.length+k+1) (A.length+k+1) L wr hWL;rw[Q1q (by decide) O0,J0] at hC;have HE:=Xh3 hC hT N0;clear hT N0 J0 hL O0 u4 hC hWL
   go_wp2_with (refine (Xo0 HE).mono ?_;rintro e w2 ⟨rfl,D0⟩;have B1:=Ua D0;clear D0)
   go_ret;exact ⟨_,_,_,rfl,(Xo1 HE).step B1.out,Below.next0 (Below.next0 K0.out (Xe2 HE)) B1.out⟩
theorem Qn8 {B:Nat} {A K:LN} {i x S:Nat} (hx:A[i]?=some x) (h:S=val B (A.take i)*val B K+x*B^i*val B K):S=val B (A.take (i+1))*val B K:=by
 rw[Q1e A i x hx,h,Ti,UG x]
theorem Qn9 {B V:Nat} {K:LN} {i j x y:Nat} (hy:K[j]?=some y):V+x*B^i*val B (K.take j)+x*y*B^(i+j)=V+x*B^i*val B (K.take (j+1)):=by
 rw[Q1e K j y hy,Tt,Tz,Nat.add_assoc]
 congr 2
 rw[UN x (B^i),<-UN (B^i) (B^j) y,UG (B^i*B^j) y];simp only[UN]
theorem Qdt (a:OA) (n c:Nat) (ls:LN) (b:OA) (m d:Nat) (ks:LN) (w:World) (h1:WordsIn w a n c ls) (h2:WordsIn w b m d ks) (hn:n<=100000) (hm:m<=100000):
 Calls Tryz.prog 98 #[.slice a n c,.slice b m d] w (Qbr w (val (2^64) ls*val (2^64) ks)):=by
 have V7:=h1.len;have JD:=h2.len;have H1:=Ua h1;have H2:=Ua h2;have Y1:=trim_len ls;have U1:=trim_len ks;have C7:val (2^64) (trimL ls)=val (2^64) ls:=Q1d ls;have QW:val (2^64) (trimL ks)=val (2^64) ks:=Q1d ks;have N1:=fun W (hb:Bw w W)=>Q1l a n c ls W (h1.step hb);have E1:=fun W (hb:Bw w W)=>Q1l b m d ks W (h2.step hb);obtain ⟨A,hA⟩:∃A,trimL ls=A:=⟨_,rfl⟩;obtain ⟨K,hK⟩:∃K,trimL ks=K:=⟨_,rfl⟩;have K4:=fun W (hb:Bw w W)=>(h1.step hb).trim;have Q8:=fun W (hb:Bw w W)=>(h2.step hb).trim;rw[hA] at Y1 C7 N1 K4;rw[hK] at U1 QW E1 Q8;rw[<-C7,<-QW];have HC:=Xh2 N1 E1;have HW:=Xh2 K4 Q8;clear hA hK C7 QW N1 E1 K4 Q8 h1 h2 H1 H2
 by_cases h0:A.length=0∨K.length=0
 ·have hz:val (2^64) A*val (2^64) K=0:=by
   rcases h0 with h0|h0
   ·rw[UH.1 h0];simp[val]
   ·rw[UH.1 h0];simp[val]
  have HZ:=Ua hz;rw[hz];clear hz
  by_cases X9:A.length=0
  ·have hA0':((A.length:Int)==0)=true:=by simp[X9]
   go_enter Tryz.func98,Tryz.ntmps98
   go_wp2_with (first
    |(go_at_call_of 143 a;refine ((Xo0 HC) _ (Uf _ _)).mono ?_;rintro e w1 ⟨rfl,C0⟩;have K0:=Ua C0;clear C0)
    |(go_at_call_of 143 b;refine ((Xe1 HC) _ K0.out).mono ?_;rintro e w2 ⟨rfl,D0⟩;have B1:=Ua (Below.next0 K0.out D0);clear D0))
   go_ret;exact ⟨none,0,0,rfl,⟨rfl,Ug _,Uu _,fun x hx=>by simp[Q11] at hx,.inl rfl⟩,B1.out⟩
  ·have hK0:K.length=0:=(by omega);have hA0':((A.length:Int)==0)=false:=(by rw[Ui];omega);have hK0':((K.length:Int)==0)=true:=by simp[hK0]
   go_enter Tryz.func98,Tryz.ntmps98
   go_wp2_with (first
    |(go_at_call_of 143 a;refine ((Xo0 HC) _ (Uf _ _)).mono ?_;rintro e w1 ⟨rfl,C0⟩;have K0:=Ua C0;clear C0)
    |(go_at_call_of 143 b;refine ((Xe1 HC) _ K0.out).mono ?_;rintro e w2 ⟨rfl,D0⟩;have B1:=Ua (Below.next0 K0.out D0);clear D0))
   go_ret;exact ⟨none,0,0,rfl,⟨rfl,Ug _,Uu _,fun x hx=>by simp[Q11] at hx,.inl rfl⟩,B1.out⟩
 have hA0':((A.length:Int)==0)=false:=by rw[Ui];omega
 have hK0':((K.length:Int)==0)=false:=by rw[Ui];omega
 have U3:=Xam (P:=Tryz.prog) 23 74 (.int .u64 0) 8 Tryz.underlying23 Q5o rfl .i64 .i64 (A.length+K.length) (by omega) (by omega);rw[show ((A.length+K.length:Nat):Int)=(A.length:Int)+(K.length:Int) by omega,Q1k] at U3
 go_enter Tryz.func98,Tryz.ntmps98
 go_wp2_with (first
  |(go_at_call_of 143 a;refine ((Xo0 HC) _ (Uf _ _)).mono ?_;rintro e w1 ⟨rfl,C0⟩;have K0:=Ua C0;clear C0)
  |(go_at_call_of 143 b;refine ((Xe1 HC) _ K0.out).mono ?_;rintro e wc ⟨rfl,D0⟩;have B1:=Ua (Below.next0 K0.out D0);clear D0))
 have F2:Bw wc (wc.alloc (.cells (Array.replicate (A.length+K.length) (nv .u64 0)) 74)):=Ba;have X9:=Arr.zeros wc 74 .u64 (A.length+K.length);have YF:=Xh2 ((Xo0 HW) wc B1.out) ((Xe1 HW) wc B1.out);have H0:=Xh2 F2 X9;clear F2 X9 U3 h0 HW HC
 go_loopw [34] (fun iv wr=>∃(i:Nat) (L:LN),iv=.int .i64 (i:Int)/\i<=A.length/\Arr 74 .u64 wr wc.heap.size L/\L.length=A.length+K.length/\Low (2^64) L/\val (2^64) L=val (2^64) (A.take i)*val (2^64) K/\(∀t,i+K.length<=t->t<A.length+K.length->L[t]?=some 0)/\Bw wc wr) (fun iv _=>A.length-(intOf iv).toNat)
 case atStart=>
  refine ⟨0,List.replicate (A.length+K.length) 0,rfl,Uu _,(Xe1 H0),by simp,fun x hx=>?_,by rw[Q7d];simp[val],fun t _ ht=>?_,(Xo0 H0)⟩
  ·rw[TP hx];decide
  ·rw[TL];simp[ht]
 case round=>
  obtain ⟨i,L,rfl,hi,hL,K5,O0,J0,u4,N0⟩:=hrel
  by_cases B0:i<A.length
  ·have E0:(i:Int)<(A.length:Int):=(by omega);obtain ⟨x,hx⟩:∃x,A[i]?=some x:=⟨_,Ub B0⟩;obtain ⟨ba,oa,N6,V5,E6⟩:=((Xo0 YF).rd.below N0).at_ hx;have J3:x<18446744073709551616:=(Xo0 YF).low x (Ud hx);subst N6;have HH:=Xh6 hL O0 J0 N0 hx u4;clear hL O0 J0 N0 u4 hx
   go_wp2_with fail
   go_loopw [8,41] (fun cv jv wr=>∃(j cr:Nat) (L:LN),cv=.int .u64 (cr:Int)/\jv=.int .i64 (j:Int)/\j<=K.length/\cr<18446744073709551616/\Arr 74 .u64 wr wc.heap.size L/\L.length=A.length+K.length/\Low (2^64) L/\val (2^64) L+cr*(2^64)^(i+j)=val (2^64) (A.take i)*val (2^64) K+x*(2^64)^i*val (2^64) (K.take j)/\(∀t,i+K.length<=t->t<A.length+K.length->L[t]?=some 0)/\Bw wc wr) (fun _ jv _=>K.length-(intOf jv).toNat)
   case atStart=>exact ⟨0,0,L,rfl,rfl,Uu _,by decide,(Xo0 HH),K5,(Xo1 HH),by rw[(Xo2 HH)];simp[val],(Xe5 HH),(Xo3 HH)⟩
   case round=>
    have HX:=Ua (Xo4 HH);clear K5 HH;obtain ⟨j,cr,L,rfl,rfl,hj,Z8,hL,K5,O0,J0,u4,N0⟩:=hrel
    by_cases Wo:j<K.length
    ·have hlj':(j:Int)<(K.length:Int):=(by omega);obtain ⟨y,hy⟩:∃y,K[j]?=some y:=⟨_,Ub Wo⟩;obtain ⟨z,hz⟩:∃z,L[i+j]?=some z:=⟨_,Ub (by omega)⟩;obtain ⟨bb,ob,L6,E3,y9⟩:=((Xe1 YF).rd.below N0).at_ hy;have JM:y<18446744073709551616:=(Xe1 YF).low y (Ud hy);have K9:z<18446744073709551616:=O0 z (Ud hz);subst L6;have k6:=Qld (B:=18446744073709551616) (by decide) J3 JM K9 Z8;have Z0:=Qbb (B:=2^64) (b:=x*y) (c:=cr) hz J0;rw[Qn9 hy] at Z0;rw[show (z+x*y+cr)%2^64=((x*y%18446744073709551616+z)%18446744073709551616+cr)%18446744073709551616 from k6.1.symm,show (z+x*y+cr) / 2^64=x*y / 18446744073709551616+(x*y%18446744073709551616+z) / 18446744073709551616+((x*y%18446744073709551616+z)%18446744073709551616+cr) / 18446744073709551616 from k6.2.1.symm] at Z0;have ZD:=k6.2.2;rw[<-k6.2.1] at ZD;have q7:=fun W=>Tryz.J0v x y J3 JM W;have Qw:x*y%18446744073709551616<18446744073709551616:=TG _ (by decide);generalize x*y%18446744073709551616=lo at*;generalize x*y / 18446744073709551616=hi at*;have hadd1:∀W,(callFunc 148 #[.int .u64 (lo:Int),.int .u64 (z:Int),.int .u64 0]).run Tryz.prog W=.ok (.value (.tuple #[.int .u64 (((lo+z)%18446744073709551616:Nat):Int),.int .u64 (((lo+z) / 18446744073709551616:Nat):Int)])) W:=fun W=>Q90 lo z 0 Qw K9 (by decide) W;have V7:(lo+z)%18446744073709551616<18446744073709551616:=TG _ (by decide);generalize (lo+z)%18446744073709551616=lo1 at*;generalize (lo+z) / 18446744073709551616=m1 at*;have hadd2:∀W,(callFunc 148 #[.int .u64 (lo1:Int),.int .u64 (cr:Int),.int .u64 0]).run Tryz.prog W=.ok (.value (.tuple #[.int .u64 (((lo1+cr)%18446744073709551616:Nat):Int),.int .u64 (((lo1+cr) / 18446744073709551616:Nat):Int)])) W:=fun W=>Q90 lo1 cr 0 V7 Z8 (by decide) W;have JD:(lo1+cr)%18446744073709551616<18446744073709551616:=TG _ (by decide);generalize (lo1+cr)%18446744073709551616=lo2 at*;generalize (lo1+cr) / 18446744073709551616=m2 at*;have hzc:wr.cell? ⟨wc.heap.size,i+j,none⟩=some (.int .u64 (z:Int)):=hL.cell hz;have Wv:wr.frozen? ⟨wc.heap.size,i+j,none⟩=false:=hL.frozen _;have Wf:(i:Int)+(j:Int)<(A.length:Int)+(K.length:Int):=(by omega);have HM:=Ua q7;have HH:=Xh5 Z0 hL O0 N0 u4;clear q7 Z0 hL O0 J0 N0 u4 k6 hy hz
     go_wp2_with (refine (HM.out _).mono ?_;rintro e w5 ⟨rfl,rfl⟩)
     refine ⟨⟨j+1,hi+m1+m2,L.set (i+j) lo2,by simp,by simp,by omega,ZD,(Xo1 HH).set (i+j) lo2,by simp[K5],Q3z (Xo2 HH) JD,(Xo0 HH),fun t Y1 U1=>?_,(Xo3 HH).setCell (p:=⟨wc.heap.size,i+j,none⟩) (Ug _) _⟩,by simp only[intOf];omega⟩;rw[Tj (by omega)];exact (Xe4 HH) t Y1 U1
    ·obtain rfl:j=K.length:=(by omega);have hlj':¬((K.length:Int)<(K.length:Int)):=(by omega);have P1:=u4 (i+K.length) (Ug _) (by omega);have hzc:wr.cell? ⟨wc.heap.size,i+K.length,none⟩=some (.int .u64 0):=hL.cell P1;have Wv:wr.frozen? ⟨wc.heap.size,i+K.length,none⟩=false:=hL.frozen _;have Wf:(i:Int)+(K.length:Int)<(A.length:Int)+(K.length:Int):=(by omega);have C3:=Q9w (B:=2^64) L (i+K.length) cr 0 P1;rw[TU,Tu,J0,Ta] at C3;have hvo:=Qn8 HX.out C3;have HH:=Xh5 hvo hL O0 N0 u4;clear C3 hvo J0 hL O0 N0 u4 P1
     go_wp2_with fail
     refine ⟨⟨i+1,L.set (i+K.length) cr,by simp,by omega,(Xo1 HH).set _ cr,by simp[K5],Q3z (Xo2 HH) Z8,(Xo0 HH),fun t Y1 U1=>?_,(Xo3 HH).setCell (p:=⟨wc.heap.size,i+K.length,none⟩) (Ug _) _⟩,by simp only[intOf];omega⟩;rw[Tj (by omega)];exact (Xe4 HH) t (by omega) U1
  ·obtain rfl:i=A.length:=(by omega);have E0:¬((A.length:Int)<(A.length:Int)):=(by omega);rw[Ta] at J0;have hW:WordsIn wr (some ⟨wc.heap.size,0,none⟩) (A.length+K.length) (A.length+K.length) L:=⟨K5,Ug _,by omega,O0,hL.rd⟩;have i8:Bw w wr:=Below.next0 B1.out N0;have x4:trimL L=dig (2^64) (val (2^64) A*val (2^64) K):=(by rw[Q1q (by decide) O0,J0]);have HE:=Xh3 hW i8 x4;clear hW i8 x4 J0 hL O0 u4 N0
   go_wp2_with (refine (Q1l _ _ _ _ _ (Xo0 HE)).mono ?_;rintro e w5 ⟨rfl,M0⟩;have M4:=Ua M0;clear M0)
   go_ret;have V2:=((Xo0 HE).step M4.out).trim;rw[(Xe2 HE)] at V2⊢;exact ⟨_,_,_,rfl,V2,Below.next0 (Xo1 HE) M4.out⟩
def dy (n e:Int):Dyadic:=Dyadic.ofIntWithPrec n (-e)
theorem Q7h (n e:Int):(dy n e).toRat=(n:Rat)*2^e:=by
 unfold dy;rw[Dyadic.toRat_ofIntWithPrec_eq_mul_two_pow,Int.neg_neg]
theorem Qll (a b e:Int):dy a e+dy b e=dy (a+b) e:=by
 rw[<-Dyadic.toRat_inj,Dyadic.toRat_add,Q7h,Q7h,Q7h,Rat.intCast_add,Rat.add_mul]
theorem Qq3 (a e:Int): -dy a e=dy (-a) e:=by
 unfold dy;rw[Dyadic.neg_ofIntWithPrec]
theorem Qjx (e:Int):dy 0 e=0:=rfl
theorem Qq4 (a b e f:Int):dy a e*dy b f=dy (a*b) (e+f):=by
 rw[<-Dyadic.toRat_inj,Dyadic.toRat_mul,Q7h,Q7h,Q7h,Rat.intCast_mul,Rat.zpow_add (by decide)];generalize (2:Rat)^e=x;generalize (2:Rat)^f=y
 grind
theorem Qgt (a e:Int) (k:Nat):dy a (e+k)=dy (a*2^k) e:=by
 rw[<-Dyadic.toRat_inj,Q7h,Q7h,Rat.zpow_add (by decide),Rat.intCast_mul,Rat.intCast_pow,Rat.zpow_natCast];generalize (2:Rat)^e=x;rw[show ((2:Int):Rat)=2 from rfl];generalize (2:Rat)^k=y
 grind
theorem Qc2 {a e:Int} (h:a%2=1):dy a e=.ofOdd a (-e) h:=Dyadic.ofOdd_eq_ofIntWithPrec.symm
theorem Qq5 {a b e f:Int} (ha:a%2=1) (hb:b%2=1) (h:dy a e=dy b f):a=b/\e=f:=by
 rw[Qc2 ha,Qc2 hb] at h;injection h with h1 h2;exact ⟨h1,by omega⟩
theorem Qq6 {a e:Int} (ha:a%2=1):dy a e≠0:=by
 rw[Qc2 ha];exact Dyadic.of_ne_zero
def sgn (neg:Bool) (v:Nat):Int:=if neg=true then -(v:Int) else (v:Int)
theorem Q4t (neg:Bool):sgn neg 0=0:=by cases neg <;> rfl
theorem Q4m {neg:Bool} {v:Nat} (h:v%2=1):sgn neg v%2=1:=by
 unfold sgn;split <;> omega
theorem Qc3 (neg:Bool) (v:Nat):(sgn neg v).natAbs=v:=by
 unfold sgn;split <;> omega
theorem Qw0 {n m:Bool} {v u:Nat} (hv:v≠0) (h:sgn n v=sgn m u):n=m/\v=u:=by
 unfold sgn at h;cases n <;> cases m <;> simp at h <;> first|(refine ⟨rfl,?_⟩;omega)|(exfalso;omega)
theorem Qw1 (n:Bool) (v:Nat):sgn (!n) v= -sgn n v:=by
 cases n <;> simp[sgn]
theorem Qq7 (n m:Bool) (v u:Nat):sgn n v*sgn m u=sgn (n != m) (v*u):=by
 cases n <;> cases m <;> simp[sgn,Int.neg_mul,Int.mul_neg]
theorem Q8b (n:Bool) (v k:Nat):sgn n v*2^k=sgn n (v*2^k):=by
 cases n <;> simp[sgn,Int.neg_mul]
def Q75 (d:Dyadic):Prop:=d=0∨∃m e:Int,d=dy m e/\m%2=1/\m.natAbs<(2^64)^64/\-65536<=e/\e<=65536
def Q28 (neg:Bool) (e:Int) (L:LN):Dyadic:=dy (sgn neg (val (2^64) L)) e
theorem Qt8:Q28 false 0 []=0:=rfl
theorem Q21 {neg:Bool} {e:Int} {L:LN} (h:Q0i neg e L) (hl:Low (2^64) L):
 (L=[]/\neg=false/\e=0)∨(L≠[]/\val (2^64) L%2=1/\L=dig (2^64) (val (2^64) L)/\val (2^64) L<(2^64)^64/\-65536<=e/\e<=65536):=by
 unfold Q0i at h
 by_cases hL:L=[]
 ·rw[Us hL] at h;exact .inl ⟨hL,h⟩
 ·rw[Uq hL] at h;obtain ⟨h1,h2,h3,h4,h5⟩:=h;have ht:trimL L=L:=by
   have:=Q3a L;rw[h1,Ta] at this;exact this.symm
  refine .inr ⟨hL,?_,?_,?_,h4,h5⟩
  ·cases L with
   |nil=>exact absurd rfl hL
   |cons x r=>
    have h3':x%2=1:=h3;simp only[val];omega
  ·rw[<-Q1q (by decide) hl,ht]
  ·exact Ue (Q3k (by decide) L hl) (UR (by decide) h2)
theorem Q7s {neg:Bool} {e:Int} {L:LN} (h:Q0i neg e L) (hl:Low (2^64) L):Q75 (Q28 neg e L):=by
 rcases Q21 h hl with ⟨rfl,rfl,rfl⟩|⟨_,h1,_,h2,h3,h4⟩
 ·exact .inl rfl
 ·exact .inr ⟨_,_,rfl,Q4m h1,by rw[Qc3];exact h2,h3,h4⟩
theorem Q66 {neg:Bool} {e:Int} {L:LN} (h:Q0i neg e L) (hl:Low (2^64) L):Q28 neg e L=0↔L=[]:=by
 rcases Q21 h hl with ⟨rfl,rfl,rfl⟩|⟨h0,h1,_⟩
 ·exact ⟨fun _=>rfl,fun _=>rfl⟩
 ·exact ⟨fun h=>absurd h (Qq6 (Q4m h1)),fun h=>absurd h h0⟩
theorem Qq8 {n m:Bool} {e f:Int} {L K:LN} (h1:Q0i n e L) (l1:Low (2^64) L) (h2:Q0i m f K) (l2:Low (2^64) K) (h:Q28 n e L=Q28 m f K):n=m/\e=f/\L=K:=by
 rcases Q21 h1 l1 with ⟨rfl,rfl,rfl⟩|⟨h0,ho,hd,_⟩
 ·have hz:Q28 m f K=0:=h.symm;have hK:=(Q66 h2 l2).1 hz;subst hK;unfold Q0i at h2;rw[Us rfl] at h2;exact ⟨h2.1.symm,h2.2.symm,rfl⟩
 ·rcases Q21 h2 l2 with ⟨rfl,rfl,rfl⟩|⟨k0,ko,kd,_⟩
  ·exact absurd h (Qq6 (Q4m ho))
  ·obtain ⟨hs,he⟩:=Qq5 (Q4m ho) (Q4m ko) h;obtain ⟨hn,hv⟩:=Qw0 (by omega) hs;exact ⟨hn,he,by rw[hd,kd,hv]⟩
theorem Qt9 {v z:Nat} (h:Qjg v z) (neg:Bool) (e:Int):dy (sgn neg (v / 2^z)) (e+z)=dy (sgn neg v) e:=by
 rw[Qgt,Q8b,Nat.div_mul_cancel (Nat.dvd_of_mod_eq_zero h.1)]
theorem Qf6 {v:Nat} (h:v<(2^64)^64):(dig (2^64) v).length<=64:=Q2h (by decide) h
theorem Qjy {v:Nat} (h:(dig (2^64) v).length<=64):v<(2^64)^64:=by
 have h1:=Q3k (B:=2^64) (by decide) (dig (2^64) v) (Q2c (by decide) v);rw[Q0x (by decide)] at h1;exact Ue h1 (UR (by decide) h)
theorem Qgu {neg:Bool} {e:Int} {q:Nat} (ho:q%2=1):Q0i neg e (dig (2^64) q)↔(q<(2^64)^64/\-65536<=e/\e<=65536):=by
 have QM:q≠0:=by omega
 have C1:dig (2^64) q≠[]:=fun h=>QM ((Q56 (by decide)).1 h);have ht:trimL (dig (2^64) q)=dig (2^64) q:=by rw[Q1q (by decide) (Q2c (by decide) q),Q0x (by decide)]
 have hh:(dig (2^64) q).headD 0%2=1:=by
  rw[Q3e (by decide) QM]
  show q%2^64%2=1
  omega
 unfold Q0i;rw[Uq C1,ht]
 constructor
 ·rintro ⟨_,h2,_,h4,h5⟩;exact ⟨Qjy h2,h4,h5⟩
 ·rintro ⟨h1,h2,h3⟩;exact ⟨rfl,Qf6 h1,hh,h2,h3⟩
theorem Q7t {neg:Bool} {e:Int} {q:Nat} (ho:q%2=1):Q75 (dy (sgn neg q) e)↔(q<(2^64)^64/\-65536<=e/\e<=65536):=by
 constructor
 ·rintro (h|⟨m,f,h,hm,h1,h2,h3⟩)
  ·exact absurd h (Qq6 (Q4m ho))
  ·obtain ⟨rfl,rfl⟩:=Qq5 (Q4m ho) hm h;rw[Qc3] at h1;exact ⟨h1,h2,h3⟩
 ·rintro ⟨h1,h2,h3⟩;exact .inr ⟨_,_,rfl,Q4m ho,by rw[Qc3];exact h1,h2,h3⟩
def Qlm (d:Dyadic) (n':Bool) (e':Int) (L:LN) (er:Int):Prop:=
 (Q75 d/\er=0/\Q0i n' e' L/\Q28 n' e' L=d)∨(¬Q75 d/\er=2/\n'=false/\e'=0/\L=[])
theorem Q7u {neg:Bool} {v:Nat} {exp:Int} {n':Bool} {e':Int} {L:LN} {er:Int} (h:Q5z neg v exp n' e' L er):Qlm (dy (sgn neg v) exp) n' e' L er:=by
 rcases h with ⟨rfl,rfl,rfl,rfl,rfl⟩|⟨z,hz,h⟩
 ·exact .inl ⟨by rw[Q4t];exact .inl rfl,rfl,by decide,by rw[Q4t];rfl⟩
 ·have hf:=Q7t (neg:=neg) (e:=exp+z) hz.2;have hi:=Qgu (neg:=neg) (e:=exp+z) hz.2;rw[Qt9 hz] at hf;rcases h with ⟨h,rfl,rfl,rfl,rfl⟩|⟨h1,h2,h3,rfl,rfl,rfl,rfl⟩
  ·refine .inr ⟨fun M3=>?_,rfl,rfl,rfl,rfl⟩;have h4:=hf.1 M3;rcases h with h|h|h
   ·omega
   ·omega
   ·exact h (hi.2 h4)
  ·refine .inl ⟨hf.2 (hi.1 h3),rfl,h3,?_⟩;unfold Q28;rw[Q0x (by decide),Qt9 hz]
def Q5b (neg:Bool) (v:Nat) (e:Int):Prop:=(v=0->neg=false/\e=0)/\(v≠0->v%2=1)
theorem Qc4 {neg:Bool} {v:Nat} {e:Int} {n':Bool} {v':Nat} {e':Int} (h:Qpl neg v e n' v' e'):Q5b n' v' e'/\dy (sgn n' v') e'=dy (sgn neg v) e:=by
 rcases h with ⟨rfl,rfl,rfl,rfl⟩|⟨z,hz,rfl,rfl,rfl⟩
 ·exact ⟨⟨fun _=>⟨rfl,rfl⟩,fun h=>absurd rfl h⟩,by rw[Q4t,Q4t];rfl⟩
 ·have:=hz.2;exact ⟨⟨fun h=>by omega,fun _=>hz.2⟩,Qt9 hz _ _⟩
theorem Qdu {neg:Bool} {v:Nat} {e:Int} {n':Bool} {e':Int} {L:LN} {er:Int} (hc:Q5b neg v e) (h:Qpm neg v e n' e' L er):Qlm (dy (sgn neg v) e) n' e' L er:=by
 rcases h with ⟨rfl,rfl,rfl,rfl,rfl⟩|⟨h0,hf,rfl,rfl,rfl,rfl⟩|⟨h0,hf,rfl,rfl,rfl,rfl⟩
 ·exact .inl ⟨by rw[Q4t];exact .inl rfl,rfl,by decide,by rw[Q4t];rfl⟩
 ·refine .inr ⟨fun M3=>hf ?_,rfl,rfl,rfl,rfl⟩;obtain ⟨h1,h2,h3⟩:=(Q7t (hc.2 h0)).1 M3;exact ⟨Qf6 h1,h2,h3⟩
 ·have h3:=(Qgu (neg:=n') (e:=e') (hc.2 h0)).2 ⟨Qjy hf.1,hf.2.1,hf.2.2⟩;exact .inl ⟨(Q7t (hc.2 h0)).2 ⟨Qjy hf.1,hf.2.1,hf.2.2⟩,rfl,h3,by unfold Q28;rw[Q0x (by decide)]⟩
section
variable {w:World} {b g:Nat} {v0 v1 v2:Value}
theorem Q02.set0 (h:Q02 w b v0 v1 v2) (u:Value):Q02 (w.setCell ⟨b,0,none⟩ u) b u v1 v2:=
 ⟨UE _ _ _ (by rw[h.c0];rfl),(Uc _ _ _ _ (by simp)).trans h.c1,(Uc _ _ _ _ (by simp)).trans h.c2,(Uh _ _ _ _).trans h.f0,(Uh _ _ _ _).trans h.f1,(Uh _ _ _ _).trans h.f2⟩
theorem Q02.set2 (h:Q02 w b v0 v1 v2) (u:Value):Q02 (w.setCell ⟨b,2,none⟩ u) b v0 v1 u:=
 ⟨(Uc _ _ _ _ (by simp)).trans h.c0,(Uc _ _ _ _ (by simp)).trans h.c1,UE _ _ _ (by rw[h.c2];rfl),(Uh _ _ _ _).trans h.f0,(Uh _ _ _ _).trans h.f1,(Uh _ _ _ _).trans h.f2⟩
theorem Q02.far (h:Q02 w b v0 v1 v2) {p:Addr} (hp:p.block≠b) (u:Value):Q02 (w.setCell p u) b v0 v1 v2:=
 ⟨(Uc _ _ _ _ (fun e=>hp (by rw[e]))).trans h.c0,(Uc _ _ _ _ (fun e=>hp (by rw[e]))).trans h.c1,(Uc _ _ _ _ (fun e=>hp (by rw[e]))).trans h.c2,(Uh _ _ _ _).trans h.f0,(Uh _ _ _ _).trans h.f1,(Uh _ _ _ _).trans h.f2⟩
theorem Q02.far3 (h:Q02 w b v0 v1 v2) (hg:g≠b) (u0 u1 u2:Value):Q02 (((w.setCell ⟨g,0,none⟩ u0).setCell ⟨g,1,none⟩ u1).setCell ⟨g,2,none⟩ u2) b v0 v1 v2:=
 ((h.far (p:=⟨g,0,none⟩) hg u0).far (p:=⟨g,1,none⟩) hg u1).far (p:=⟨g,2,none⟩) hg u2
theorem Qxb (w:World) (g:Nat) (u0 u1 u2:Value):(((w.setCell ⟨g,0,none⟩ u0).setCell ⟨g,1,none⟩ u1).setCell ⟨g,2,none⟩ u2).heap.size=w.heap.size:=by simp[UV]
end
theorem Q95 (neg:Bool) (e:Int) (a:OA) (n c:Nat) (ls:LN) (w:World) (h:WordsIn w a n c ls) (hn:n<=1000000):
 Calls Tryz.prog 99 #[.agg #[.bool neg,.int .i64 e,.slice a n c]] w fun r w'=>r=.returned (.int .i64 (if val (2^64) ls=0 then 0 else if neg=true then -1 else 1))/\Bw w w':=by
 have C4:Bw w (w.alloc (.cells #[.bool neg,.int .i64 e,.slice a n c] 41)):=Ba;have hN:=Q02.new w (.bool neg) (.int .i64 e) (.slice a n c) 41;have A3:=Q0r w (.cells #[.bool neg,.int .i64 e,.slice a n c] 41);have hbits:=Qlg a n c ls _ (h.step C4) (by omega);have ZZ:=hN.c0;have N9:=hN.c2;have HB:=Xh4 hbits hN A3 C4;clear C4 hN A3 hbits h
 by_cases h0:val (2^64) ls=0
 ·rw[Us h0];have H0:=Ua h0;clear h0
  go_enter Tryz.func99,Tryz.ntmps99
  go_wp2_with (refine (Xo0 HB).mono ?_;rintro r w1 ⟨⟨k,rfl,hk⟩,C0⟩;obtain rfl:k=0:=hk.2 H0.out;have K0:=Ua C0;clear C0 hk)
  go_ret;exact ⟨rfl,Below.next0 (Xe3 HB) K0.out⟩
 ·rw[Uq h0];have H0:=Ua h0;clear h0;cases neg
  all_goals
   go_enter Tryz.func99,Tryz.ntmps99
   go_wp2_with (refine (Xo0 HB).mono ?_;rintro r w1 ⟨⟨k,rfl,hk⟩,C0⟩;have hkb:((k:Int)==0)=false:=(by rw[Ui];intro e;exact H0.out (hk.1 (by omega)));have hki:¬(k:Int)=0:=(by intro e;exact H0.out (hk.1 (by omega)));have y5:=((Xo1 HB).step C0 (Xo2 HB)).c0;have K0:=Ua C0;clear C0 hk)
   go_ret;exact ⟨rfl,Below.next0 (Xe3 HB) K0.out⟩
theorem Qgv (neg:Bool) (e:Int) (a:OA) (n c:Nat) (w:World):
 Calls Tryz.prog 112 #[.agg #[.bool neg,.int .i64 e,.slice a n c]] w fun r w'=>r=.returned (.agg #[.bool false,.int .i64 e,.slice a n c])/\Bw w w':=by
 obtain ⟨Z1,hX,hR,hB⟩:=Q92 w (.bool neg) (.int .i64 e) (.slice a n c) (.bool false) (.int .i64 0) (.slice none 0 0) 41 41;generalize hW:(w.alloc (.cells #[.bool neg,.int .i64 e,.slice a n c] 41)).alloc (.cells #[.bool false,.int .i64 0,.slice none 0 0] 41)=W at hX hR hB Z1;have y5:=hX.c0;have U9:=hX.f0;have J2:=hX.set0 (.bool false);have U4:=J2.c0;have J4:=J2.c1;have hx3:=J2.c2;have U5:=hR.far (p:=⟨w.heap.size,0,none⟩) (by show w.heap.size≠w.heap.size+1;omega) (.bool false);have hB1:=hB.setCell (p:=⟨w.heap.size,0,none⟩) (Ug _) (.bool false);have c0:=U5.c0;have c1:=U5.c1;have c2:=U5.c2;have f0:=U5.f0;have f1:=U5.f1;have f2:=U5.f2;have d1:=U5.d1 (.bool false);have d2:=U5.d2 (.bool false) (.int .i64 e);have HR:=Xh2 (U5.store (.bool false) (.int .i64 e) (.slice a n c)) (Q02.below hB1 (show w.heap.size<=w.heap.size+1 by omega) (.bool false) (.int .i64 e) (.slice a n c));clear hX hR hB J2 U5 hB1 Z1
 go_enter Tryz.func112,Tryz.ntmps112
 go_wp2_with fail
 have k0:=(Xo0 HR).c0;have k1:=(Xo0 HR).c1;have k2:=(Xo0 HR).c2;refine ⟨rfl,.agg #[.bool false,.int .i64 e,.slice a n c],by simp[results,go_sem,k0,k1,k2],rfl,(Xe1 HR)⟩
structure Qxc (w wx:World) (D:Dyadic) (T lo hi:Int) (n1:Bool) (e1:Int) (a1:OA) (l1 c1:Nat) (L1:LN) (n2:Bool) (e2:Int) (a2:OA) (l2 c2:Nat) (L2:LN):Prop where
 b1:Q02 wx w.heap.size (.bool n1) (.int .i64 e1) (.slice a1 l1 c1)
 b2:Q02 wx (w.heap.size+1) (.bool n2) (.int .i64 e2) (.slice a2 l2 c2)
 br:Q02 wx (w.heap.size+2) (.bool false) (.int .i64 0) (.slice none 0 0)
 lt:w.heap.size+2<wx.heap.size
 w1:WordsIn w a1 l1 c1 L1
 w2:WordsIn w a2 l2 c2 L2
 le:e1<=e2
 v1:val (2^64) L1≠0
 v2:val (2^64) L2≠0
 s1:l1<=20000
 s2:l2<=20000
 lo1:lo<=e1
 hi2:e2<=hi
 rng:e2-e1<=2000000
 t1:64*(l1:Int)+e1<=T
 t2:64*(l2:Int)+e2<=T
 sum:Q28 n1 e1 L1+Q28 n2 e2 L2=D
 bel:Bw w wx
theorem Qln {v K:Nat} (h:v<2^K):64*(dig (2^64) v).length<=K+63:=by
 have h1:v<(2^64)^((K+63) / 64):=Ue h (by rw[<-Xar];exact UR (by decide) (by omega));have h2:=Q2h (B:=2^64) (by decide) h1;omega
theorem Qa2 {L:LN} (h:Low (2^64) L):val (2^64) L<2^(64*L.length):=by
 have:=Q3k (B:=2^64) (by decide) L h;rwa[<-Xar] at this
theorem Qta (n:Bool) (A B:Nat):sgn n A+sgn n B=sgn n (A+B):=by
 cases n <;> simp[sgn] <;> omega
theorem Qgw (n:Bool) (A B:Nat):sgn n A+sgn (!n) B=if B<=A then sgn n (A-B) else sgn (!n) (B-A):=by
 cases n <;> simp[sgn] <;> split <;> omega
theorem Qw2 (n:Bool) (e1 e2:Int) (L:LN) (z:Nat) (h:e2-e1=(z:Int)):Q28 n e2 L=dy (sgn n (val (2^64) L*2^z)) e1:=by
 unfold Q28;rw[show e2=e1+(z:Int) by omega,Qgt,Q8b]
theorem Qbg (n:Bool) (e:Int) (v:Nat):Q28 n e (dig (2^64) v)=dy (sgn n v) e:=by
 unfold Q28;rw[Q0x (by decide)]
theorem Qgx (n:Bool) (e:Int) {L:LN} (h:val (2^64) L=0):Q28 n e L=0:=by
 unfold Q28;rw[h,Q4t];rfl
theorem Qw3 {A B l1 l2 z V:Nat} {e1 e2 T:Int} (hA:A<2^(64*l1)) (hB:B<2^(64*l2)) (hV:V<=A+B*2^z) (hz:e2-e1=(z:Int)) (t1:64*(l1:Int)+e1<=T) (t2:64*(l2:Int)+e2<=T):64*((dig (2^64) V).length:Int)+e1<=T+64:=by
 obtain ⟨K,Xu,hK2,hK3⟩:∃K:Nat,64*l1<=K/\64*l2+z<=K/\(K:Int)+e1<=T:=⟨max (64*l1) (64*l2+z),by omega,by omega,by omega⟩;have h1:A<2^K:=Ue hA (UR (by decide) Xu);have h2:B*2^z<2^K:=Ue (by rw[Tz];exact Xaj hB (Tr (by decide))) (UR (by decide) hK2);have h3:V<2^(K+1):=by rw[Th];omega
 have h4:=Qln h3;omega
end Go.Proofs.YtdilmfakkppgpaaGreatDoor
