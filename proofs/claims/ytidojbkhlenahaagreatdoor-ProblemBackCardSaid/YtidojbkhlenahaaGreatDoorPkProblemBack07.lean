/- Part 7. No condition. -/
import Derived.Test.YtidojbkhlenahaaGreatDoorPkProblemBack06
set_option maxRecDepth 100000
set_option maxHeartbeats 16000000
namespace Go.Proofs.YtidojbkhlenahaaGreatDoor
open Go.RowKit WordsM
theorem Qsv {s t x y:Nat} (P0:s+t=64) (hx:x<2^64) (hy:y<2^s):y |||x*2^s%2^64=y+x*2^s%2^64/\y+x*2^s%2^64<2^64/\x*2^s / 2^64<2^s/\x / 2^t=x*2^s / 2^64:=by
 have e:(2:Nat)^64=2^t*2^s:=by rw[<-Tp,<-P0,Xbf]
 have e2:x*2^s%2^64=2^s*(x%2^t):=by rw[e,Nat.mul_mod_mul_right,UC]
 have hm:x%2^t<2^t:=TK _ (Tr (by decide));have G5:2^s*(x%2^t+1)<=2^s*2^t:=Xad _ hm;rw[Tv,Nat.mul_one,UC (2^s) (2^t),<-e] at G5;refine ⟨?_,?_,?_,?_⟩
 ·rw[e2,Nat.or_comm,<-Nat.two_pow_add_eq_or_of_lt hy,Xbf]
 ·rw[e2];omega
 ·rw[UC];exact TY (by rw[UC (2^64)];exact Nat.mul_lt_mul_of_pos_left hx (Tr (by decide)))
 ·rw[e,Nat.mul_div_mul_right _ _ (Tr (by decide))]
theorem Qd8 (a:OA) (n c:Nat) (ls:LN) (z:Nat) (w:World) (h:WordsIn w a n c ls) (hn:n<=1000000) (hz:z<=100000000):
 Calls Tryz.prog 150 #[.slice a n c,.int .i64 (z:Int)] w (Q9h w (val (2^64) ls*2^z)):=by
 have G3:=h.len;have H1:=Ub h;clear h;have P6:=trim_len ls
 by_cases h0:(trimL ls).length=0
 ·have C9:trimL ls=[]:=UJ.1 h0;have x7:val (2^64) ls=0:=by rw[<-Q1b,C9];rfl
  rw[x7,Xaa];have h0I:((trimL ls).length:Int)=0:=by omega
  have h0b:(((trimL ls).length:Int)==0)=true:=by rw[beq_iff_eq];exact h0I
  go_enter Tryz.func150,Tryz.ntmps150
  go_wp2_with (refine (Q19 a n c ls _ H1.out).mono ?_;rintro e w1 ⟨rfl,C0⟩;have K0:=Ub C0;clear C0)
  go_ret;exact ⟨none,0,0,rfl,WordsIn.nil_ _,K0.out⟩
 have h0I:¬((trimL ls).length:Int)=0:=by omega
 have h0b:(((trimL ls).length:Int)==0)=false:=by rw[Uk];exact h0I
 obtain ⟨k,hk⟩:∃k,z / 64=k:=⟨_,rfl⟩;obtain ⟨s,hs⟩:∃s,z%64=s:=⟨_,rfl⟩;have WL:s<64:=by omega
 have KQ:z=64*k+s:=by omega
 have XI:(z:Int).tdiv 64=(k:Int):=by rw[Int.tdiv_eq_ediv_of_nonneg (by omega)];omega
 have hsI:(z:Int).tmod 64=(s:Int):=by rw[Int.tmod_eq_emod_of_nonneg (by omega)];omega
 have hkI2:(z:Int) / 64=(k:Int):=by omega
 have Ym:(z:Int)%64=(s:Int):=by omega
 have o7:(64:Int)-(s:Int)=((64-s:Nat):Int):=by omega
 have hzv:val (2^64) ls*2^z=val (2^64) (trimL ls)*((2^64)^k*2^s):=by rw[Q1b,KQ,Tp,TZ]
 rw[hzv];obtain ⟨A,hA⟩:∃A,trimL ls=A:=⟨_,rfl⟩;have hT:=fun W (hb:Bw w W)=>(H1.out.step hb).trim;rw[hA] at P6 h0I h0b hT⊢;have C4:=Xa8 (P:=Tryz.prog) 24 83 (.int .u64 0) 8 Tryz.underlying24 Q4x rfl .i64 .i64 (A.length+k+1) (by omega) (by omega);rw[show ((A.length+k+1:Nat):Int)=(A.length:Int)+(k:Int)+1 by omega,Q22] at C4;have HT:=Ub hT;have hcut:=fun W hb=>Q19 a n c ls W (H1.out.step hb);rw[hA] at hcut;have HC:=Ub hcut;clear hT hk hs hzv KQ h0 hA hcut
 go_enter Tryz.func150,Tryz.ntmps150
 go_wp2_with (refine (HC.out _ (Ug _ _)).mono ?_;rintro e w1 ⟨rfl,C0⟩;have K0:=Ub C0;clear C0)
 have O2:=HT.out w1 K0.out;have F7:=O2.low;have i9:=O2.rd;have Z2:Bw w1 (w1.alloc (.cells (Array.replicate (A.length+k+1) (nv .u64 0)) 83)):=Ba;have C9:=Arr.zeros w1 83 .u64 (A.length+k+1);have H0:=Xh2 Z2 C9;have H:=Xh2 F7 i9;clear Z2 C9 C4 O2 F7 i9
 go_loopw [27] (fun iv wr=>∃(i:Nat) (L:LN),iv=.int .i64 (i:Int)/\i<=A.length/\Arr 83 .u64 wr w1.heap.size L/\L.length=A.length+k+1/\Low (2^64) L/\val (2^64) L=val (2^64) (A.take i)*((2^64)^k*2^s)/\(∀t,k+i<t->t<A.length+k+1->L[t]?=some 0)/\(∃y,L[k+i]?=some y/\y<2^s)/\Bw w1 wr) (fun iv _=>A.length-(intOf iv).toNat)
 case atStart=>
  refine ⟨0,List.replicate (A.length+k+1) 0,rfl,Ut _,(Xe1 H0),by simp,fun x hx=>?_,by rw[Q7c];simp[val],fun t _ ht=>?_,⟨0,?_,Tr (by decide)⟩,(Xo0 H0)⟩
  ·rw[TM hx];decide
  ·rw[TD];simp[ht]
  ·rw[TD,Us (by omega)]
 case round=>
  obtain ⟨i,L,rfl,hi,hL,o4,S0,M0,Q4,⟨y,hy,WC⟩,O0⟩:=hrel
  by_cases E0:i<A.length
  ·have J0:(i:Int)<(A.length:Int):=(by omega);obtain ⟨x,hx⟩:∃x,A[i]?=some x:=⟨_,Ua E0⟩;obtain ⟨ba,oa,U5,J1,u5⟩:=((Xe1 H).below O0).at_ hx;have D4:x<18446744073709551616:=(Xo0 H) x (Uf hx);have Qo:y<18446744073709551616:=S0 y (Uf hy);subst U5;obtain ⟨Q7,ZB,Qn,VY⟩:=Qsv (s:=s) (t:=64-s) (x:=x) (y:=y) (by omega) D4 WC;have YJ:=Q4 (k+i+1) (by omega) (by omega);have R2:=fun lo hi (hp:x*2^s=lo+2^64*hi)=>Qio (lo:=lo) (hi:=hi) M0 hx hy YJ hp;have KY:((x:Int)*2^s)%18446744073709551616=((x*2^s%2^64:Nat):Int):=(by rw[Int.natCast_emod,Int.natCast_mul,Int.natCast_pow];rfl);have Kj:(x:Int) / 2^(64-s)=((x / 2^(64-s):Nat):Int):=(by norm_cast);obtain ⟨p,hp⟩:∃p,x*2^s=p:=⟨_,rfl⟩;rw[VY] at Kj;rw[hp] at Q7 ZB Qn R2 KY Kj;obtain ⟨lo,i4⟩:∃lo,p%2^64=lo:=⟨_,rfl⟩;obtain ⟨QJ,Qd⟩:∃hi,p / 2^64=hi:=⟨_,rfl⟩;have hpd:=Nat.mod_add_div p (2^64);rw[i4,Qd] at hpd;have P0:=R2 lo QJ hpd.symm;rw[i4] at Q7 ZB KY;rw[Qd] at Qn Kj;have Qk:lo<18446744073709551616:=(by rw[<-i4];exact TK _ (by decide));have hhil:QJ<18446744073709551616:=Nat.lt_trans Qn (Nat.pow_lt_pow_right (by decide) WL);have ho64:=u64_or_nat y lo Qo Qk;rw[Q7] at ho64;obtain ⟨q,hq⟩:∃q,y+lo=q:=⟨_,rfl⟩;rw[hq] at ho64 ZB P0;rw[Xbf k i] at P0 hy YJ;have YV:wr.drew.cell? ⟨w1.heap.size,i+k,none⟩=some (.int .u64 (y:Int)):=hL.cell hy;have YN:wr.drew.frozen? ⟨w1.heap.size,i+k,none⟩=false:=hL.frozen _;have ZM:Arr 83 .u64 (wr.setCell ⟨w1.heap.size,i+k,none⟩ (.int .u64 (q:Int))).drew w1.heap.size (L.set (i+k) q):=Arr.set (w:=wr) hL (i+k) q;have x8:(L.set (i+k) q)[i+k+1]?=some 0:=(by rw[Te (by omega)];exact YJ);have hzc1:=ZM.cell x8;have hzf1:(wr.setCell ⟨w1.heap.size,i+k,none⟩ (.int .u64 (q:Int))).drew.frozen? ⟨w1.heap.size,i+k+1,none⟩=false:=ZM.frozen _;have Vc:=ZM.set (i+k+1) QJ;have hcx':wr.drew.cell? ⟨ba,oa+i,none⟩=some (.int .u64 (x:Int)):=u5;have hki:(i:Int)+(k:Int)<(A.length:Int)+(k:Int)+1:=(by omega);have hki1:(i:Int)+(k:Int)+1<(A.length:Int)+(k:Int)+1:=(by omega);have hkia:(k:Int)+(i:Int)<(A.length:Int)+(k:Int)+1:=(by omega);have hkia1:(k:Int)+(i:Int)+1<(A.length:Int)+(k:Int)+1:=(by omega);have HH:=Xh6 P0 Vc S0 O0 Q4 Qn;clear P0 hL ZM Vc S0 M0 O0 Q4 i4 Qd hp hx hy YJ R2 Q7 x8 Qn hq hpd VY;have S2:bits .or .u64 (y:Int) (IntKind.u64.wrap ((x:Int)*2^s))=(q:Int):=by rw[IntKind.wrap_u64,KY,ho64]
   go_wp2_with fail
   go_region
   go_wp2_with fail
   refine ⟨⟨i+1,(L.set (i+k) q).set (i+k+1) QJ,by simp,by omega,(Xo1 HH),by simp[o4],Q43 (Q43 (Xo2 HH) ZB) hhil,(Xo0 HH),fun t Q2 M1=>?_,⟨QJ,?_,(Xe5 HH)⟩,((Xo3 HH).setCell (p:=⟨w1.heap.size,i+k,none⟩) (Ue _) _).drew.setCell (p:=⟨w1.heap.size,i+k+1,none⟩) (Ue _) _⟩,by simp only[intOf];omega⟩
   ·rw[Te (by omega),Te (by omega)];exact (Xo4 HH) t (by omega) M1
   ·rw[show k+(i+1)=i+k+1 by omega,TG (by rw[Tk];omega)]
  ·obtain rfl:i=A.length:=(by omega);have J0:¬((A.length:Int)<(A.length:Int)):=(by omega);rw[Tn] at M0;have hWL:WordsIn wr (some ⟨w1.heap.size,0,none⟩) (A.length+k+1) (A.length+k+1) L:=⟨o4,Ue _,by omega,S0,hL.rd⟩;have hT:=hWL.trim;rw[Q1l (by decide) S0,M0] at hT;have hC:=Q19 (some ⟨w1.heap.size,0,none⟩) (A.length+k+1) (A.length+k+1) L wr hWL;rw[Q1l (by decide) S0,M0] at hC;have HE:=Xh3 hC hT O0;clear hT O0 M0 hL S0 Q4 hC hWL
   go_wp2_with (refine (Xo0 HE).mono ?_;rintro e w2 ⟨rfl,D0⟩;have F1:=Ub D0;clear D0)
   go_ret;exact ⟨_,_,_,rfl,(Xo1 HE).step F1.out,Below.next0 (Below.next0 K0.out (Xe2 HE)) F1.out⟩
theorem Qph {B:Nat} {A K:LN} {i x S:Nat} (hx:A[i]?=some x) (h:S=val B (A.take i)*val B K+x*B^i*val B K):S=val B (A.take (i+1))*val B K:=by
 rw[Q1c A i x hx,h,Tm,UC x]
theorem Qpi {B V:Nat} {K:LN} {i j x y:Nat} (hy:K[j]?=some y):V+x*B^i*val B (K.take j)+x*y*B^(i+j)=V+x*B^i*val B (K.take (j+1)):=by
 rw[Q1c K j y hy,Tv,Tp,Nat.add_assoc]
 congr 2
 rw[UL x (B^i),<-UL (B^i) (B^j) y,UC (B^i*B^j) y];simp only[UL]
theorem Qfl (a:OA) (n c:Nat) (ls:LN) (b:OA) (m d:Nat) (ks:LN) (w:World) (h1:WordsIn w a n c ls) (h2:WordsIn w b m d ks) (hn:n<=100000) (hm:m<=100000):
 Calls Tryz.prog 296 #[.slice a n c,.slice b m d] w (Q9h w (val (2^64) ls*val (2^64) ks)):=by
 have A8:=h1.len;have i7:=h2.len;have H1:=Ub h1;have H2:=Ub h2;have Q2:=trim_len ls;have M1:=trim_len ks;have J8:val (2^64) (trimL ls)=val (2^64) ls:=Q1b ls;have i8:val (2^64) (trimL ks)=val (2^64) ks:=Q1b ks;have O1:=fun W (hb:Bw w W)=>Q19 a n c ls W (h1.step hb);have E1:=fun W (hb:Bw w W)=>Q19 b m d ks W (h2.step hb);obtain ⟨A,hA⟩:∃A,trimL ls=A:=⟨_,rfl⟩;obtain ⟨K,hK⟩:∃K,trimL ks=K:=⟨_,rfl⟩;have G4:=fun W (hb:Bw w W)=>(h1.step hb).trim;have D6:=fun W (hb:Bw w W)=>(h2.step hb).trim;rw[hA] at Q2 J8 O1 G4;rw[hK] at M1 i8 E1 D6;rw[<-J8,<-i8];have HC:=Xh2 O1 E1;have HW:=Xh2 G4 D6;clear hA hK J8 i8 O1 E1 G4 D6 h1 h2 H1 H2
 by_cases h0:A.length=0∨K.length=0
 ·have hz:val (2^64) A*val (2^64) K=0:=by
   rcases h0 with h0|h0
   ·rw[UJ.1 h0];simp[val]
   ·rw[UJ.1 h0];simp[val]
  have HZ:=Ub hz;rw[hz];clear hz
  by_cases C9:A.length=0
  ·have hA0':((A.length:Int)==0)=true:=by simp[C9]
   go_enter Tryz.func296,Tryz.ntmps296
   go_wp2_with (first
    |(go_at_call_of 144 a;refine ((Xo0 HC) _ (Ug _ _)).mono ?_;rintro e w1 ⟨rfl,C0⟩;have K0:=Ub C0;clear C0)
    |(go_at_call_of 144 b;refine ((Xe1 HC) _ K0.out).mono ?_;rintro e w2 ⟨rfl,D0⟩;have F1:=Ub (Below.next0 K0.out D0);clear D0))
   go_ret;exact ⟨none,0,0,rfl,⟨rfl,Ue _,Ut _,fun x hx=>by simp[Q0z] at hx,.inl rfl⟩,F1.out⟩
  ·have hK0:K.length=0:=(by omega);have hA0':((A.length:Int)==0)=false:=(by rw[Uk];omega);have hK0':((K.length:Int)==0)=true:=by simp[hK0]
   go_enter Tryz.func296,Tryz.ntmps296
   go_wp2_with (first
    |(go_at_call_of 144 a;refine ((Xo0 HC) _ (Ug _ _)).mono ?_;rintro e w1 ⟨rfl,C0⟩;have K0:=Ub C0;clear C0)
    |(go_at_call_of 144 b;refine ((Xe1 HC) _ K0.out).mono ?_;rintro e w2 ⟨rfl,D0⟩;have F1:=Ub (Below.next0 K0.out D0);clear D0))
   go_ret;exact ⟨none,0,0,rfl,⟨rfl,Ue _,Ut _,fun x hx=>by simp[Q0z] at hx,.inl rfl⟩,F1.out⟩
 have hA0':((A.length:Int)==0)=false:=by rw[Uk];omega
 have hK0':((K.length:Int)==0)=false:=by rw[Uk];omega
 have C4:=Xa8 (P:=Tryz.prog) 24 83 (.int .u64 0) 8 Tryz.underlying24 Q4x rfl .i64 .i64 (A.length+K.length) (by omega) (by omega);rw[show ((A.length+K.length:Nat):Int)=(A.length:Int)+(K.length:Int) by omega,Q22] at C4
 go_enter Tryz.func296,Tryz.ntmps296
 go_wp2_with (first
  |(go_at_call_of 144 a;refine ((Xo0 HC) _ (Ug _ _)).mono ?_;rintro e w1 ⟨rfl,C0⟩;have K0:=Ub C0;clear C0)
  |(go_at_call_of 144 b;refine ((Xe1 HC) _ K0.out).mono ?_;rintro e wc ⟨rfl,D0⟩;have F1:=Ub (Below.next0 K0.out D0);clear D0))
 have Z2:Bw wc (wc.alloc (.cells (Array.replicate (A.length+K.length) (nv .u64 0)) 83)):=Ba;have C9:=Arr.zeros wc 83 .u64 (A.length+K.length);have Wg:=Xh2 ((Xo0 HW) wc F1.out) ((Xe1 HW) wc F1.out);have H0:=Xh2 Z2 C9;clear Z2 C9 C4 h0 HW HC
 go_loopw [34] (fun iv wr=>∃(i:Nat) (L:LN),iv=.int .i64 (i:Int)/\i<=A.length/\Arr 83 .u64 wr wc.heap.size L/\L.length=A.length+K.length/\Low (2^64) L/\val (2^64) L=val (2^64) (A.take i)*val (2^64) K/\(∀t,i+K.length<=t->t<A.length+K.length->L[t]?=some 0)/\Bw wc wr) (fun iv _=>A.length-(intOf iv).toNat)
 case atStart=>
  refine ⟨0,List.replicate (A.length+K.length) 0,rfl,Ut _,(Xe1 H0),by simp,fun x hx=>?_,by rw[Q7c];simp[val],fun t _ ht=>?_,(Xo0 H0)⟩
  ·rw[TM hx];decide
  ·rw[TD];simp[ht]
 case round=>
  obtain ⟨i,L,rfl,hi,hL,o4,S0,M0,Q4,O0⟩:=hrel
  by_cases E0:i<A.length
  ·have J0:(i:Int)<(A.length:Int):=(by omega);obtain ⟨x,hx⟩:∃x,A[i]?=some x:=⟨_,Ua E0⟩;obtain ⟨ba,oa,U5,J1,u5⟩:=((Xo0 Wg).rd.below O0).at_ hx;have D4:x<18446744073709551616:=(Xo0 Wg).low x (Uf hx);subst U5;have HH:=Xh6 hL S0 M0 O0 hx Q4;clear hL S0 M0 O0 Q4 hx
   go_wp2_with fail
   go_loopw [8,41] (fun cv jv wr=>∃(j cr:Nat) (L:LN),cv=.int .u64 (cr:Int)/\jv=.int .i64 (j:Int)/\j<=K.length/\cr<18446744073709551616/\Arr 83 .u64 wr wc.heap.size L/\L.length=A.length+K.length/\Low (2^64) L/\val (2^64) L+cr*(2^64)^(i+j)=val (2^64) (A.take i)*val (2^64) K+x*(2^64)^i*val (2^64) (K.take j)/\(∀t,i+K.length<=t->t<A.length+K.length->L[t]?=some 0)/\Bw wc wr) (fun _ jv _=>K.length-(intOf jv).toNat)
   case atStart=>exact ⟨0,0,L,rfl,rfl,Ut _,by decide,(Xo0 HH),o4,(Xo1 HH),by rw[(Xo2 HH)];simp[val],(Xe5 HH),(Xo3 HH)⟩
   case round=>
    have HX:=Ub (Xo4 HH);clear o4 HH;obtain ⟨j,cr,L,rfl,rfl,hj,Qe,hL,o4,S0,M0,Q4,O0⟩:=hrel
    by_cases hlj:j<K.length
    ·have hlj':(j:Int)<(K.length:Int):=(by omega);obtain ⟨y,hy⟩:∃y,K[j]?=some y:=⟨_,Ua hlj⟩;obtain ⟨z,hz⟩:∃z,L[i+j]?=some z:=⟨_,Ua (by omega)⟩;obtain ⟨bb,ob,t6,E4,K9⟩:=((Xe1 Wg).rd.below O0).at_ hy;have Qo:y<18446744073709551616:=(Xe1 Wg).low y (Uf hy);have m8:z<18446744073709551616:=S0 z (Uf hz);subst t6;have N6:=Qn3 (B:=18446744073709551616) (by decide) D4 Qo m8 Qe;have P0:=Qbu (B:=2^64) (b:=x*y) (c:=cr) hz M0;rw[Qpi hy] at P0;rw[show (z+x*y+cr)%2^64=((x*y%18446744073709551616+z)%18446744073709551616+cr)%18446744073709551616 from N6.1.symm,show (z+x*y+cr) / 2^64=x*y / 18446744073709551616+(x*y%18446744073709551616+z) / 18446744073709551616+((x*y%18446744073709551616+z)%18446744073709551616+cr) / 18446744073709551616 from N6.2.1.symm] at P0;have XL:=N6.2.2;rw[<-N6.2.1] at XL;have U9:=fun W=>Tryz.J3v x y D4 Qo W;have Qk:x*y%18446744073709551616<18446744073709551616:=TK _ (by decide);generalize x*y%18446744073709551616=lo at*;generalize x*y / 18446744073709551616=hi at*;have hadd1:∀W,(callFunc 256 #[.int .u64 (lo:Int),.int .u64 (z:Int),.int .u64 0]).run Tryz.prog W=.ok (.value (.tuple #[.int .u64 (((lo+z)%18446744073709551616:Nat):Int),.int .u64 (((lo+z) / 18446744073709551616:Nat):Int)])) W:=fun W=>Q9g lo z 0 Qk m8 (by decide) W;have A8:(lo+z)%18446744073709551616<18446744073709551616:=TK _ (by decide);generalize (lo+z)%18446744073709551616=lo1 at*;generalize (lo+z) / 18446744073709551616=m1 at*;have hadd2:∀W,(callFunc 256 #[.int .u64 (lo1:Int),.int .u64 (cr:Int),.int .u64 0]).run Tryz.prog W=.ok (.value (.tuple #[.int .u64 (((lo1+cr)%18446744073709551616:Nat):Int),.int .u64 (((lo1+cr) / 18446744073709551616:Nat):Int)])) W:=fun W=>Q9g lo1 cr 0 A8 Qe (by decide) W;have i7:(lo1+cr)%18446744073709551616<18446744073709551616:=TK _ (by decide);generalize (lo1+cr)%18446744073709551616=lo2 at*;generalize (lo1+cr) / 18446744073709551616=m2 at*;have YV:wr.cell? ⟨wc.heap.size,i+j,none⟩=some (.int .u64 (z:Int)):=hL.cell hz;have YN:wr.frozen? ⟨wc.heap.size,i+j,none⟩=false:=hL.frozen _;have Vo:(i:Int)+(j:Int)<(A.length:Int)+(K.length:Int):=(by omega);have HM:=Ub U9;have HH:=Xh5 P0 hL S0 O0 Q4;clear U9 P0 hL S0 M0 O0 Q4 N6 hy hz
     go_wp2_with (refine (HM.out _).mono ?_;rintro e w5 ⟨rfl,rfl⟩)
     refine ⟨⟨j+1,hi+m1+m2,L.set (i+j) lo2,by simp,by simp,by omega,XL,(Xo1 HH).set (i+j) lo2,by simp[o4],Q43 (Xo2 HH) i7,(Xo0 HH),fun t Q2 M1=>?_,(Xo3 HH).setCell (p:=⟨wc.heap.size,i+j,none⟩) (Ue _) _⟩,by simp only[intOf];omega⟩;rw[Te (by omega)];exact (Xe4 HH) t Q2 M1
    ·obtain rfl:j=K.length:=(by omega);have hlj':¬((K.length:Int)<(K.length:Int)):=(by omega);have P1:=Q4 (i+K.length) (Ue _) (by omega);have YV:wr.cell? ⟨wc.heap.size,i+K.length,none⟩=some (.int .u64 0):=hL.cell P1;have YN:wr.frozen? ⟨wc.heap.size,i+K.length,none⟩=false:=hL.frozen _;have Vo:(i:Int)+(K.length:Int)<(A.length:Int)+(K.length:Int):=(by omega);have D5:=Qaf (B:=2^64) L (i+K.length) cr 0 P1;rw[Xaa,Tz,M0,Tn] at D5;have hvo:=Qph HX.out D5;have HH:=Xh5 hvo hL S0 O0 Q4;clear D5 hvo M0 hL S0 O0 Q4 P1
     go_wp2_with fail
     refine ⟨⟨i+1,L.set (i+K.length) cr,by simp,by omega,(Xo1 HH).set _ cr,by simp[o4],Q43 (Xo2 HH) Qe,(Xo0 HH),fun t Q2 M1=>?_,(Xo3 HH).setCell (p:=⟨wc.heap.size,i+K.length,none⟩) (Ue _) _⟩,by simp only[intOf];omega⟩;rw[Te (by omega)];exact (Xe4 HH) t (by omega) M1
  ·obtain rfl:i=A.length:=(by omega);have J0:¬((A.length:Int)<(A.length:Int)):=(by omega);rw[Tn] at M0;have hW:WordsIn wr (some ⟨wc.heap.size,0,none⟩) (A.length+K.length) (A.length+K.length) L:=⟨o4,Ue _,by omega,S0,hL.rd⟩;have X7:Bw w wr:=Below.next0 F1.out O0;have Z4:trimL L=dig (2^64) (val (2^64) A*val (2^64) K):=(by rw[Q1l (by decide) S0,M0]);have HE:=Xh3 hW X7 Z4;clear hW X7 Z4 M0 hL S0 Q4 O0
   go_wp2_with (refine (Q19 _ _ _ _ _ (Xo0 HE)).mono ?_;rintro e w5 ⟨rfl,Z0⟩;have S4:=Ub Z0;clear Z0)
   go_ret;have N3:=((Xo0 HE).step S4.out).trim;rw[(Xe2 HE)] at N3⊢;exact ⟨_,_,_,rfl,N3,Below.next0 (Xo1 HE) S4.out⟩
section
variable {w:World} {b g:Nat} {v0 v1 v2:Value}
theorem Q03.set0 (h:Q03 w b v0 v1 v2) (u:Value):Q03 (w.setCell ⟨b,0,none⟩ u) b u v1 v2:=
 ⟨UE _ _ _ (by rw[h.c0];rfl),(Ud _ _ _ _ (by simp)).trans h.c1,(Ud _ _ _ _ (by simp)).trans h.c2,(Uo _ _ _ _).trans h.f0,(Uo _ _ _ _).trans h.f1,(Uo _ _ _ _).trans h.f2⟩
theorem Q03.set2 (h:Q03 w b v0 v1 v2) (u:Value):Q03 (w.setCell ⟨b,2,none⟩ u) b v0 v1 u:=
 ⟨(Ud _ _ _ _ (by simp)).trans h.c0,(Ud _ _ _ _ (by simp)).trans h.c1,UE _ _ _ (by rw[h.c2];rfl),(Uo _ _ _ _).trans h.f0,(Uo _ _ _ _).trans h.f1,(Uo _ _ _ _).trans h.f2⟩
theorem Q03.far (h:Q03 w b v0 v1 v2) {p:Addr} (hp:p.block≠b) (u:Value):Q03 (w.setCell p u) b v0 v1 v2:=
 ⟨(Ud _ _ _ _ (fun e=>hp (by rw[e]))).trans h.c0,(Ud _ _ _ _ (fun e=>hp (by rw[e]))).trans h.c1,(Ud _ _ _ _ (fun e=>hp (by rw[e]))).trans h.c2,(Uo _ _ _ _).trans h.f0,(Uo _ _ _ _).trans h.f1,(Uo _ _ _ _).trans h.f2⟩
theorem Q03.far3 (h:Q03 w b v0 v1 v2) (hg:g≠b) (u0 u1 u2:Value):Q03 (((w.setCell ⟨g,0,none⟩ u0).setCell ⟨g,1,none⟩ u1).setCell ⟨g,2,none⟩ u2) b v0 v1 v2:=
 ((h.far (p:=⟨g,0,none⟩) hg u0).far (p:=⟨g,1,none⟩) hg u1).far (p:=⟨g,2,none⟩) hg u2
theorem J07 (w:World) (g:Nat) (u0 u1 u2:Value):(((w.setCell ⟨g,0,none⟩ u0).setCell ⟨g,1,none⟩ u1).setCell ⟨g,2,none⟩ u2).heap.size=w.heap.size:=by simp[UT]
end
theorem Q3v (neg:Bool) (e:Int) (a:OA) (n c:Nat) (ls:LN) (w:World) (h:WordsIn w a n c ls) (hn:n<=1000000):
 Calls Tryz.prog 95 #[.agg #[.bool neg,.int .i64 e,.slice a n c]] w fun r w'=>r=.returned (.int .i64 (if val (2^64) ls=0 then 0 else if neg=true then -1 else 1))/\Bw w w':=by
 have X1:Bw w (w.alloc (.cells #[.bool neg,.int .i64 e,.slice a n c] 26)):=Ba;have hN:=Q03.new w (.bool neg) (.int .i64 e) (.slice a n c) 26;have I3:=Q0h w (.cells #[.bool neg,.int .i64 e,.slice a n c] 26);have YD:=Qn7 a n c ls _ (h.step X1) (by omega);have JZ:=hN.c0;have o5:=hN.c2;have HB:=Xh4 YD hN I3 X1;clear X1 hN I3 YD h
 by_cases h0:val (2^64) ls=0
 ·rw[Us h0];have H0:=Ub h0;clear h0
  go_enter Tryz.func95,Tryz.ntmps95
  go_wp2_with (refine (Xo0 HB).mono ?_;rintro r w1 ⟨⟨k,rfl,hk⟩,C0⟩;obtain rfl:k=0:=hk.2 H0.out;have K0:=Ub C0;clear C0 hk)
  go_ret;exact ⟨rfl,Below.next0 (Xe3 HB) K0.out⟩
 ·rw[Up h0];have H0:=Ub h0;clear h0;cases neg
  all_goals
   go_enter Tryz.func95,Tryz.ntmps95
   go_wp2_with (refine (Xo0 HB).mono ?_;rintro r w1 ⟨⟨k,rfl,hk⟩,C0⟩;have hkb:((k:Int)==0)=false:=(by rw[Uk];intro e;exact H0.out (hk.1 (by omega)));have hki:¬(k:Int)=0:=(by intro e;exact H0.out (hk.1 (by omega)));have m5:=((Xo1 HB).step C0 (Xo2 HB)).c0;have K0:=Ub C0;clear C0 hk)
   go_ret;exact ⟨rfl,Below.next0 (Xe3 HB) K0.out⟩
theorem Qip (neg:Bool) (e:Int) (a:OA) (n c:Nat) (w:World):
 Calls Tryz.prog 164 #[.agg #[.bool neg,.int .i64 e,.slice a n c]] w fun r w'=>r=.returned (.agg #[.bool false,.int .i64 e,.slice a n c])/\Bw w w':=by
 obtain ⟨A2,hX,hR,hB⟩:=Q8g w (.bool neg) (.int .i64 e) (.slice a n c) (.bool false) (.int .i64 0) (.slice none 0 0) 26 26;generalize hW:(w.alloc (.cells #[.bool neg,.int .i64 e,.slice a n c] 26)).alloc (.cells #[.bool false,.int .i64 0,.slice none 0 0] 26)=W at hX hR hB A2;have m5:=hX.c0;have y8:=hX.f0;have X6:=hX.set0 (.bool false);obtain ⟨R4,Z3,KC⟩:=X6.cc;have x6:=hR.far (p:=⟨w.heap.size,0,none⟩) (by show w.heap.size≠w.heap.size+1;omega) (.bool false);have Xl:=hB.setCell (p:=⟨w.heap.size,0,none⟩) (Ue _) (.bool false);obtain ⟨c0,c1,c2,f0,f1,f2⟩:=x6.cf;have d1:=x6.d1 (.bool false);have d2:=x6.d2 (.bool false) (.int .i64 e);have HR:=Xh2 (x6.store (.bool false) (.int .i64 e) (.slice a n c)) (Q03.below Xl (show w.heap.size<=w.heap.size+1 by omega) (.bool false) (.int .i64 e) (.slice a n c));clear hX hR hB X6 x6 Xl A2
 go_enter Tryz.func164,Tryz.ntmps164
 go_wp2_with fail
 have k0:=(Xo0 HR).c0;have k1:=(Xo0 HR).c1;have k2:=(Xo0 HR).c2;refine ⟨rfl,.agg #[.bool false,.int .i64 e,.slice a n c],by simp[results,go_sem,k0,k1,k2],rfl,(Xe1 HR)⟩
structure J08 (w wx:World) (D:Dyadic) (T lo hi:Int) (n1:Bool) (e1:Int) (a1:OA) (l1 c1:Nat) (L1:LN) (n2:Bool) (e2:Int) (a2:OA) (l2 c2:Nat) (L2:LN):Prop where
 b1:Q03 wx w.heap.size (.bool n1) (.int .i64 e1) (.slice a1 l1 c1)
 b2:Q03 wx (w.heap.size+1) (.bool n2) (.int .i64 e2) (.slice a2 l2 c2)
 br:Q03 wx (w.heap.size+2) (.bool false) (.int .i64 0) (.slice none 0 0)
 lt:w.heap.size+2<wx.heap.size
 w1:WordsIn w a1 l1 c1 L1
 w2:WordsIn w a2 l2 c2 L2
 le:e1<=e2
 v1:val (2^64) L1≠0
 v2:val (2^64) L2≠0
 s1:l1<=20000
 s2:l2<=20000
 lo1:lo<=e1
 hi2:e2<=hi
 rng:e2-e1<=2000000
 t1:64*(l1:Int)+e1<=T
 t2:64*(l2:Int)+e2<=T
 sum:Q1p n1 e1 L1+Q1p n2 e2 L2=D
 bel:Bw w wx
theorem Qgz {v K:Nat} (h:v<2^K):64*(dig (2^64) v).length<=K+63:=by
 have h1:v<(2^64)^((K+63) / 64):=Uc h (by rw[<-TZ];exact UO (by decide) (by omega));have h2:=Q2q (B:=2^64) (by decide) h1;omega
theorem Q88 {L:LN} (h:Low (2^64) L):val (2^64) L<2^(64*L.length):=by
 have:=Q2z (B:=2^64) (by decide) L h;rwa[<-TZ] at this
theorem Qvv (n:Bool) (A B:Nat):sgn n A+sgn n B=sgn n (A+B):=by
 cases n <;> simp[sgn] <;> omega
theorem Qiq (n:Bool) (A B:Nat):sgn n A+sgn (!n) B=if B<=A then sgn n (A-B) else sgn (!n) (B-A):=by
 cases n <;> simp[sgn] <;> split <;> omega
theorem Qyk (n:Bool) (e1 e2:Int) (L:LN) (z:Nat) (h:e2-e1=(z:Int)):Q1p n e2 L=dy (sgn n (val (2^64) L*2^z)) e1:=by
 unfold Q1p;rw[show e2=e1+(z:Int) by omega,Q9i,Q3n]
theorem Qc1 (n:Bool) (e:Int) (v:Nat):Q1p n e (dig (2^64) v)=dy (sgn n v) e:=by
 unfold Q1p;rw[Q0v (by decide)]
theorem Qir (n:Bool) (e:Int) {L:LN} (h:val (2^64) L=0):Q1p n e L=0:=by
 unfold Q1p;rw[h,Q2u];rfl
theorem Qyl {A B l1 l2 z V:Nat} {e1 e2 T:Int} (hA:A<2^(64*l1)) (hB:B<2^(64*l2)) (hV:V<=A+B*2^z) (hz:e2-e1=(z:Int)) (t1:64*(l1:Int)+e1<=T) (t2:64*(l2:Int)+e2<=T):64*((dig (2^64) V).length:Int)+e1<=T+64:=by
 obtain ⟨K,ZY,hK2,hK3⟩:∃K:Nat,64*l1<=K/\64*l2+z<=K/\(K:Int)+e1<=T:=⟨max (64*l1) (64*l2+z),by omega,by omega,by omega⟩;have h1:A<2^K:=Uc hA (UO (by decide) ZY);have h2:B*2^z<2^K:=Uc (by rw[Tp];exact TL hB (Tr (by decide))) (UO (by decide) hK2);have h3:V<2^(K+1):=by rw[Tf];omega
 have h4:=Qgz h3;omega
end Go.Proofs.YtidojbkhlenahaaGreatDoor
namespace Go.Proofs.YtidojbkhlenahaaGreatDoor
open Go.RowKit
section
variable {P:Program} {r:Nat} {Done:World->Prop} {V:Value->World->Prop} {w:World}
end
theorem Q03.turn {w w':World} {b g:Nat} {v0 v1 v2:Value} (h:Q03 w g v0 v1 v2) (ht:Q0e (·=b) w w') (hg:g<w.heap.size) (Q0:g≠b):Q03 w' g v0 v1 v2:=
 ⟨(ht.cell (p:=⟨g,0,none⟩) hg Q0).trans h.c0,(ht.cell (p:=⟨g,1,none⟩) hg Q0).trans h.c1,(ht.cell (p:=⟨g,2,none⟩) hg Q0).trans h.c2,(ht.frozen (p:=⟨g,0,none⟩) hg Q0).trans h.f0,(ht.frozen (p:=⟨g,1,none⟩) hg Q0).trans h.f1,(ht.frozen (p:=⟨g,2,none⟩) hg Q0).trans h.f2⟩
theorem Qis {l:List Oper} {cs:LV} {L:Nat->Option (Value->World->Prop)} (n:Nat) {φ:World->Prop} (hL:L n=some fun _ w=>φ w) (hl:(l.zipIdx.all fun p=>p.1.dst.isSome || decide (p.2=n))=true):
 ∀(i:Nat) o,l[i]?=some o->o.dst=none->∀v w,Q56 cs L i v w->Q56 cs L i undef w:=by
 intro i o hi hd v w hv;have hm:(o,i)∈l.zipIdx:=by
  rw[TR];simpa using hi
 have h1:=Tu.1 hl _ hm;simp only[hd,Option.isSome_none,Bool.false_or,Xaf] at h1;subst h1;exact (Q00 hL).2 ((Q00 hL).1 hv)
theorem Qlr {P:Program} {ops:Array Oper} {E:World->World->Prop} {o:Oper} {a:Act} {w:World} {V:Value->World->Prop} {j:Nat} {b:Bool} {t:Tmp} (hg:o.guard=some (j,b)) (ht:(ops[j]?).bind (·.dst)=some t) (he:a.eval (.tmp t)=undef) (h:V undef w):
 if Region.wanted o (yielded ops a.tmps) then Q1f P E V w ((execOp a.eval o).run P w) else V undef w:=by
 have hy:yielded ops a.tmps j=none:=by
  unfold yielded;rw[ht,TE];have WW:a.tmps.getD t undef=undef:=he;rw[UB] at WW;cases hx:a.tmps[t]? with
  |none=>rfl
  |some v=>rw[hx] at WW;have h2:v=undef:=WW;rw[h2];rfl
 have hw:Region.wanted o (yielded ops a.tmps)=false:=by
  unfold Region.wanted;rw[hg]
  show (yielded ops a.tmps j==some b)=false
  rw[hy];cases b <;> rfl
 rw[hw];exact h
def Qeo (w w':World):Prop:=Bw w w'
section
variable {P:Program} {V:Value->World->Prop} {w:World}
theorem Q70 {u:Value} {res:Result Next} (hr:res=.ok (.value u) w) (h:V u w):Q1f P Qeo V w res:=by
 rw[hr];exact ⟨Ug _ _,h⟩
theorem Q0u {f:FuncId} {args:Array Value} {res:Result Next} (hr:res=.ok (.enter f args) w)
 (h:Calls P f args w fun e w''=>∃v,e=.returned v/\Bw w w''/\V v w''):Q1f P Qeo V w res:=by
 rw[hr];exact h
end
theorem Q3l {l:List Oper} {V:Nat->Value->World->Prop} (hl:(l.all fun o=>o.dst.isSome)=true):∀(i:Nat) o,l[i]?=some o->o.dst=none->∀v w,V i v w->V i undef w:=by
 intro i o hi hd v w _;have h1:=Tu.1 hl o (Uf hi);rw[hd] at h1;cases h1
theorem Q0j {E:World->World->Prop} {cs:LV} {L:Nat->Option (Value->World->Prop)} (h:∀i φ,L i=some φ->∀v w w',φ v w->E w w'->φ v w') (i:Nat) (v:Value) (w w':World) (hv:Q56 cs L i v w) (hb:E w w'):Q56 cs L i v w':=by
 unfold Q56 at*;cases hl:L i with
 |none=>rw[hl] at hv;exact hv
 |some φ=>rw[hl] at hv;exact h i φ hl v w w' hv hb
theorem Q04 (w:World):Bw w w.drew:=⟨rfl,rfl,rfl,Ue _,fun _ _=>rfl⟩
section
def J1h (ops:Array Oper) (cs:LV) (L:Nat->Option (Value->World->Prop)) (o:Oper):Option Bool:=
 match o.guard with
 |none=>some true
 |some (j,b)=>
  if ((Q1v o).contains j && (L j).isNone && ((ops[j]?).bind (·.dst)).isSome)=true then
   match cs.getD j undef with
   | .bool c=>some (c==b)
   | .tuple a=>if a.isEmpty=true then some false else none
   |_=>none
  else none
variable {P:Program} {E:World->World->Prop} {ops:Array Oper} {C:World->Prop} {cs:LV} {L:Nat->Option (Value->World->Prop)} {a0:Act} {o:Oper} {k:Nat}
theorem Qns {a:Act} {w:World} {j:Nat} (hc:((Q1v o).contains j && (L j).isNone && ((ops[j]?).bind (·.dst)).isSome)=true) (hd:∀i∈Q1v o,Q56 cs L i (Q09 ops a i) w):
 ∃t,(ops[j]?).bind (·.dst)=some t/\a.eval (.tmp t)=cs.getD j undef:=by
 simp only[Xan] at hc;obtain ⟨⟨h1,h2⟩,h3⟩:=hc;obtain ⟨t,ht⟩:=Option.isSome_iff_exists.1 h3;have h:=(Q0f (Option.isNone_iff_eq_none.1 h2)).1 (hd j (List.contains_iff_mem.1 h1));unfold Q09 at h;rw[ht] at h;exact ⟨t,ht,h⟩
def Qbq (ops:Array Oper) (a:Act) (cs:LV) (L:Nat->Option (Value->World->Prop)):List Edge->Prop
 |[]=>True
 |e::r=>(Region.binds .any e=true->L e.on=none->∀t,(ops[e.on]?).bind (·.dst)=some t->a.tmps[t]?.getD undef=cs.getD e.on undef)/\Qbq ops a cs L r
theorem J09 {ops:Array Oper} {a:Act} {w:World} {cs:LV} {L:Nat->Option (Value->World->Prop)} {o:Oper} (hd:∀i∈Q1v o,Q56 cs L i (Q09 ops a i) w):Qbq ops a cs L o.after.toList:=by
 have key:∀l:List Edge,(∀e∈l,e∈o.after.toList)->Qbq ops a cs L l:=by
  intro l
  induction l with
  |nil=>intro _;trivial
  |cons e r ih=>
   intro h;refine ⟨fun hb hL t ht=>?_,ih fun x hx=>h x (TH _ hx)⟩;have h1:=(Q0f hL).1 (hd e.on (To.2 ⟨e,List.mem_filter.2 ⟨h e (by simp),hb⟩,rfl⟩));unfold Q09 at h1;rw[ht] at h1;have h':a.tmps.getD t undef=cs.getD e.on undef:=h1;rwa[UB] at h'
 exact key _ fun _ h=>h
theorem Q3i (hg:J1h ops cs L o=some true) (h:∀A W,C W->Q7q ops a0 A->Q7q ops a0 A->Qbq ops A cs L o.after.toList->Q1f P E (Q56 cs L k) W ((execOp A.eval o).run P W)):Q4m P E ops C (Q56 cs L) a0 k o:=by
 intro a w hc F0 hd;have hf:=h a w hc F0 F0 (J09 hd);unfold J1h at hg;cases QA:o.guard with
 |none=>exact Q02 QA hf
 |some p=>
  obtain ⟨j,b⟩:=p;rw[QA] at hg;simp only at hg
  split at hg
  ·rename_i X3;obtain ⟨t,ht,he⟩:=Qns X3 hd
   split at hg
   ·rename_i c JS;injection hg with hg;rw[JS,beq_iff_eq.1 hg] at he;exact Qvu QA ht he hf
   ·split at hg
    ·cases hg
    ·cases hg
   ·cases hg
  ·cases hg
theorem Qym (hg:J1h ops cs L o=some false) (hL:L k=none) (hv:cs[k]?=some undef):Q4m P E ops C (Q56 cs L) a0 k o:=by
 intro a w _ _ hd;have hu:Q56 cs L k undef w:=(Q0f hL).2 (by rw[US,hv];rfl);unfold J1h at hg;cases QA:o.guard with
 |none=>rw[QA] at hg;cases hg
 |some p=>
  obtain ⟨j,b⟩:=p;rw[QA] at hg;simp only at hg
  split at hg
  ·rename_i X3;obtain ⟨t,ht,he⟩:=Qns X3 hd
   split at hg
   ·rename_i c JS;injection hg with hg;rw[JS] at he;refine Qss QA ht (he.trans ?_) hu;cases c <;> cases b <;> first|rfl|cases hg
   ·rename_i x JS
    split at hg
    ·rename_i hx;refine Qlr QA ht (he.trans (JS.trans ?_)) hu;rw[Array.isEmpty_iff.1 hx];rfl
    ·cases hg
   ·cases hg
  ·cases hg
theorem Qes {V:Nat->Value->World->Prop} {r:List Oper} (h:Q4m P E ops C V a0 k o) (t:Q3k P E ops C V a0 r (k+1)):Q3k P E ops C V a0 (o::r) k:=⟨h,t⟩
theorem Qet {V:Nat->Value->World->Prop}:Q3k P E ops C V a0 [] k:=trivial
theorem Q0s {ops:Array Oper} {a:Act} {w:World} {cs:LV} {L:Nat->Option (Value->World->Prop)} {o:Oper} (hd:∀i∈Q1v o,Q56 cs L i (Q09 ops a i) w) (i:Nat) {t:Tmp} {v:Value} (hi:i∈Q1v o) (hL:L i=none) (hv:cs[i]?=some v) (ht:(ops[i]?).bind (·.dst)=some t):a.tmps[t]?.getD undef=v:=by
 have h:=(Q0f hL).1 (hd i hi);rw[US,hv] at h;unfold Q09 at h;rw[ht] at h;have h':a.tmps.getD t undef=v:=h;rwa[UB] at h'
theorem Q0d {a:Act} (h:Q7q ops a0 a) (t:Tmp) {v:Value} (ht:(ops.toList.all fun o=> !(o.dst==some t))=true) (hv:a0.tmps.toList[t]?=some v):a.tmps[t]?.getD undef=v:=
 Q1w (h.keep ht (by rw[UB,<-Ts,hv];rfl))
theorem Q1m {i:Nat} {w:World} {u:Value} {res:Result Next} (hL:L i=none) (hv:cs[i]?=some u) (hr:res=.ok (.value u) w):Q1f P Qeo (Q56 cs L i) w res:=
 Q70 hr ((Q0f hL).2 (by rw[US,hv];rfl))
theorem Q8x {i:Nat} {w:World} {u:Value} {f:FuncId} {args:Array Value} {res:Result Next} (hL:L i=none) (hv:cs[i]?=some u) (hr:res=.ok (.enter f args) w) (h:Calls P f args w fun e w'=>e=.returned u/\Bw w w'):Q1f P Qeo (Q56 cs L i) w res:=
 Q0u hr (h.mono fun _ _ h'=>⟨u,h'.1,h'.2,(Q0f hL).2 (by rw[US,hv];rfl)⟩)
end
open WordsM
def Qsw (r:Nat) (w:World):Prop:=(∃b e a n c,Q03 w r (.bool b) (.int .i64 e) (.slice a n c))/\r<w.heap.size
theorem Qsw.below {r:Nat} {w w':World} (h:Qsw r w) (hb:Bw w w'):Qsw r w':=by
 obtain ⟨⟨b,e,a,n,c,hN⟩,hr⟩:=h;exact ⟨⟨b,e,a,n,c,hN.step hb hr⟩,Uc hr hb.size⟩
theorem Q03.drew {w:World} {b:Nat} {v0 v1 v2:Value} (h:Q03 w b v0 v1 v2):Q03 w.drew b v0 v1 v2:=⟨h.c0,h.c1,h.c2,h.f0,h.f1,h.f2⟩
theorem Qsw.drew {r:Nat} {w:World} (h:Qsw r w):Qsw r w.drew:=by
 obtain ⟨⟨b,e,a,n,c,hN⟩,hr⟩:=h;exact ⟨⟨b,e,a,n,c,hN.drew⟩,hr⟩
theorem WordsIn.drew {w:World} {a:OA} {n c:Nat} {L:LN} (h:WordsIn w a n c L):WordsIn w.drew a n c L:=⟨h.len,h.cap,h.most,h.low,h.rd⟩
def Qnt (r:Nat) (Done:World->Prop) (w w':World):Prop:=Q0e (·=r) w w'/\(Done w->Done w')/\(∀a n c L,WordsIn w a n c L->WordsIn w' a n c L)/\(Qsw r w->Qsw r w')
theorem Qnt.refl (r:Nat) (Done:World->Prop) (w:World):Qnt r Done w w:=⟨Q0e.refl _ w,id,fun _ _ _ _ h=>h,id⟩
def Qd9 (r:Nat) (u0 u1:Value) (L:LN) (w:World):Prop:=∃a n c,Q03 w r u0 u1 (.slice a n c)/\r<w.heap.size/\WordsIn w a n c L
theorem Qd9.below {r:Nat} {u0 u1:Value} {L:LN} {w w':World} (h:Qd9 r u0 u1 L w) (hb:Bw w w'):Qd9 r u0 u1 L w':=by
 obtain ⟨a,n,c,h1,h2,h3⟩:=h;exact ⟨a,n,c,h1.step hb h2,Uc h2 hb.size,h3.step hb⟩
def SlV (L:LN) (v:Value) (w:World):Prop:=∃a n c,v=.slice a n c/\WordsIn w a n c L
def AgV (u0 u1:Value) (L:LN) (v:Value) (w:World):Prop:=∃a n c,v=.agg #[u0,u1,.slice a n c]/\WordsIn w a n c L
section
variable {P:Program} {r:Nat} {u0 u1:Value} {L:LN} {V:Value->World->Prop} {w:World}
theorem Q14 {Done:World->Prop} {u:Value} {res:Result Next} (hr:res=.ok (.value u) w) (h:V u w):Q1f P (Qnt r Done) V w res:=by
 rw[hr];exact ⟨Qnt.refl _ _ _,h⟩
theorem Qit {f:FuncId} {args:Array Value} {res:Result Next} (hr:res=.ok (.enter f args) w)
 (h:Calls P f args w fun e w''=>∃v,e=.returned v/\Bw w w''/\V v w''):Q1f P (Qnt r (Qd9 r u0 u1 L)) V w res:=by
 rw[hr];refine h.mono ?_;rintro e w'' ⟨v,rfl,hb,hv⟩;exact ⟨v,rfl,⟨Q0e.of_below hb _,fun h=>h.below hb,fun _ _ _ _ h=>h.step hb,fun h=>h.below hb⟩,hv⟩
theorem Qfm {b:Bool} {e:Int} {a:OA} {n c:Nat} {res:Result Next} (hB:Qsw r w) (hw:WordsIn w a n c L) (h0:u0=.bool b) (h1:u1=.int .i64 e)
 (hr:res=.ok .skip (((w.setCell ⟨r,0,none⟩ u0).setCell ⟨r,1,none⟩ u1).setCell ⟨r,2,none⟩ (.slice a n c)))
 (hV:∀w',Qd9 r u0 u1 L w'->V undef w'):Q1f P (Qnt r (Qd9 r u0 u1 L)) V w res:=by
 rw[hr];obtain ⟨⟨b',e',a',n',c',hN⟩,E0⟩:=hB;have ht:Q0e (·=r) w (((w.setCell ⟨r,0,none⟩ u0).setCell ⟨r,1,none⟩ u1).setCell ⟨r,2,none⟩ (.slice a n c)):=((Q0e.setCell (·=r) w (p:=⟨r,0,none⟩) rfl _).trans0 (Q0e.setCell (·=r) _ (p:=⟨r,1,none⟩) rfl _)).trans0 (Q0e.setCell (·=r) _ (p:=⟨r,2,none⟩) rfl _);have hNs:=hN.store u0 u1 (.slice a n c);have KG:∀a2 n2 c2 L2,WordsIn w a2 n2 c2 L2->WordsIn (((w.setCell ⟨r,0,none⟩ u0).setCell ⟨r,1,none⟩ u1).setCell ⟨r,2,none⟩ (.slice a n c)) a2 n2 c2 L2:=fun a2 n2 c2 L2 h=>
  ⟨h.len,h.cap,h.most,h.low,(h.rd.store3 hN (fun _=>by simp[nv]) (fun _=>by simp[nv]) (fun _=>by simp[nv]) u0 u1 (.slice a n c)).more (Q1i _ _ _ _ _)⟩
 have hd:Qd9 r u0 u1 L (((w.setCell ⟨r,0,none⟩ u0).setCell ⟨r,1,none⟩ u1).setCell ⟨r,2,none⟩ (.slice a n c)):=⟨a,n,c,hNs,Uc E0 ht.size,KG _ _ _ _ hw⟩;exact ⟨⟨ht,fun _=>hd,KG,fun _=>⟨⟨b,e,a,n,c,by rw[<-h0,<-h1];exact hNs⟩,Uc E0 ht.size⟩⟩,hV _ hd⟩
end
def J1i (i j k r:Nat) (u0 u1:Value) (L:LN) (x:Nat):Option (Value->World->Prop):=
 if x=i then some (SlV L) else if x=j then some (AgV u0 u1 L) else if x=k then some (fun _ w=>Qd9 r u0 u1 L w) else none
theorem Qiu {i j k r:Nat} {u0 u1:Value} {L:LN}:∀x φ,J1i i j k r u0 u1 L x=some φ->∀v w w',φ v w->Qnt r (Qd9 r u0 u1 L) w w'->φ v w':=by
 intro x φ h v w w' hv he;unfold J1i at h
 split at h
 ·injection h with h;subst h;obtain ⟨a,n,c,rfl,hw⟩:=hv;exact ⟨a,n,c,rfl,he.2.2.1 _ _ _ _ hw⟩
 ·split at h
  ·injection h with h;subst h;obtain ⟨a,n,c,rfl,hw⟩:=hv;exact ⟨a,n,c,rfl,he.2.2.1 _ _ _ _ hw⟩
  ·split at h
   ·injection h with h;subst h;exact he.2.1 hv
   ·cases h
def Qrb (r:Nat) (w0 w:World):Prop:=Q0e (·=r) w0 w/\Qsw r w/\∀a n c L,WordsIn w0 a n c L->WordsIn w a n c L
theorem Qrb.start {r:Nat} {w:World} {v0:Bool} {v1:Int} {a:OA} {n c:Nat} (h:Q03 w r (.bool v0) (.int .i64 v1) (.slice a n c)) (hr:r<w.heap.size):Qrb r w w.drew:=⟨(Q0e.refl _ w).drew,Qsw.drew ⟨⟨_,_,_,_,_,h⟩,hr⟩,fun _ _ _ _ h=>h.drew⟩
theorem Qrb.next {r:Nat} {Done:World->Prop} {w0 w w':World} (h:Qrb r w0 w) (h':Qnt r Done w w'):Qrb r w0 w':=⟨h.1.trans h'.1 (fun _ _ e=>e),h'.2.2.2 h.2.1,fun a n c L hw=>h'.2.2.1 _ _ _ _ (h.2.2 a n c L hw)⟩
theorem Qfn {r:Nat} {Done:World->Prop} {cs:LV} {L:Nat->Option (Value->World->Prop)} (h:∀i φ,L i=some φ->∀v w w',φ v w->Qnt r Done w w'->φ v w') (i:Nat) (v:Value) (w w':World) (hv:Q56 cs L i v w) (hb:Qnt r Done w w'):Q56 cs L i v w':=by
 unfold Q56 at*;cases hl:L i with
 |none=>rw[hl] at hv;exact hv
 |some φ=>rw[hl] at hv;exact h i φ hl v w w' hv hb
theorem Qiv (nx:Bool) (ex:Int) (ax:OA) (lx cx:Nat) (ls:LN) (ny:Bool) (ey:Int) (ay:OA) (ly cy:Nat) (ks:LN) (w:World) (h1:WordsIn w ax lx cx ls) (h2:WordsIn w ay ly cy ks) (hn:lx<=20000) (hm:ly<=20000) (XB: -1000000<=ex) (Q6:ex<=1000000) (Y3: -1000000<=ey) (A4:ey<=1000000):
 Calls Tryz.prog 305 #[.agg #[.bool nx,.int .i64 ex,.slice ax lx cx],.agg #[.bool ny,.int .i64 ey,.slice ay ly cy]] w fun r w'=>∃a n c,r=.returned (.agg #[.bool (nx != ny),.int .i64 (ex+ey),.slice a n c])/\WordsIn w' a n c (dig (2^64) (val (2^64) ls*val (2^64) ks))/\Bw w w':=by
 obtain ⟨p5,hX,hY,hR,hB⟩:=Qf3 w (.bool nx) (.int .i64 ex) (.slice ax lx cx) (.bool ny) (.int .i64 ey) (.slice ay ly cy) (.bool false) (.int .i64 0) (.slice none 0 0) 26 26 26;obtain ⟨W0,R1⟩:∃W0,(((w.alloc (.cells #[.bool nx,.int .i64 ex,.slice ax lx cx] 26)).alloc (.cells #[.bool ny,.int .i64 ey,.slice ay ly cy] 26)).alloc (.cells #[.bool false,.int .i64 0,.slice none 0 0] 26))=W0:=⟨_,rfl⟩;rw[R1] at p5 hX hY hR hB;have hQ:∀W,Q0e (·=w.heap.size+2) W0 W->Q03 W w.heap.size (.bool nx) (.int .i64 ex) (.slice ax lx cx)/\Q03 W (w.heap.size+1) (.bool ny) (.int .i64 ey) (.slice ay ly cy)/\WordsIn W ax lx cx ls/\WordsIn W ay ly cy ks/\Bw w W/\w.heap.size+2<W.heap.size:=fun W ht=>by
  have hb:=Below.turn hB ht hB.size (fun k e=>by omega);exact ⟨hX.turn ht (by omega) (by omega),hY.turn ht (by omega) (by omega),h1.step hb,h2.step hb,hb,Uc (by omega) ht.size⟩
 have HQ:=Ub hQ;have HR:=Xh2 hR p5;clear p5 hX hY hR hB hQ h1 h2;have Z6:IntKind.i64.wrap (ex+ey)=ex+ey:=by rw[UN];omega
 have H00:Qrb (w.heap.size+2) W0 W0.drew:=Qrb.start (Xo0 HR) (by have:=(Xe1 HR);omega)
 go_enter Tryz.func305,Tryz.ntmps305
 go_wp2_with fail
 refine Q0l (E:=Qnt (w.heap.size+2) (Qd9 (w.heap.size+2) (.bool (nx != ny)) (.int .i64 (ex+ey)) (dig (2^64) (val (2^64) ls*val (2^64) ks)))) (Qnt.refl _ _) (by kernel_rfl) (fun W=>Qrb (w.heap.size+2) W0 W) (fun _ _ h h'=>h.next h') (Q56 [.pointer (some ⟨w.heap.size,0,none⟩),.bool nx,.pointer (some ⟨(w.heap.size+1),0,none⟩),.bool ny,.bool (nx != ny),.pointer (some ⟨w.heap.size,1,none⟩),.int .i64 ex,.pointer (some ⟨(w.heap.size+1),1,none⟩),.int .i64 ey,.int .i64 (ex+ey),.pointer (some ⟨w.heap.size,2,none⟩),.slice ax lx cx,.pointer (some ⟨(w.heap.size+1),2,none⟩),.slice ay ly cy,undef,undef,undef] (J1i 14 15 16 (w.heap.size+2) (.bool (nx != ny)) (.int .i64 (ex+ey)) (dig (2^64) (val (2^64) ls*val (2^64) ks)))) (Qfn Qiu) (Qis 16 rfl (by kernel_rfl)) (by kernel_rfl) H00 ?_ ?_
 ·skip;refine ⟨fun A W hW F0 A0=>?_,?_⟩
  ·have e2:=Q0d F0 2 (by kernel_rfl) rfl;refine Q02 rfl ?_;refine Q14 (u:=.pointer (some ⟨w.heap.size,0,none⟩)) ?_ ((Q0f rfl).2 rfl);simp[go_sem,e2]
  refine ⟨fun A W hW F0 A0=>?_,?_⟩
  ·have e5:=Q0s A0 0 (by decide) rfl rfl rfl;refine Q02 rfl ?_;obtain ⟨k0,_,_,_,_,_⟩:=(HQ.out W hW.1).1;refine Q14 (u:=.bool nx) ?_ ((Q0f rfl).2 rfl);simp[go_sem,e5,k0]
  refine ⟨fun A W hW F0 A0=>?_,?_⟩
  ·have e3:=Q0d F0 3 (by kernel_rfl) rfl;refine Q02 rfl ?_;refine Q14 (u:=.pointer (some ⟨(w.heap.size+1),0,none⟩)) ?_ ((Q0f rfl).2 rfl);simp[go_sem,e3]
  refine ⟨fun A W hW F0 A0=>?_,?_⟩
  ·have e7:=Q0s A0 2 (by decide) rfl rfl rfl;refine Q02 rfl ?_;obtain ⟨k0,_,_,_,_,_⟩:=(HQ.out W hW.1).2.1;refine Q14 (u:=.bool ny) ?_ ((Q0f rfl).2 rfl);simp[go_sem,e7,k0]
  refine ⟨fun A W hW F0 A0=>?_,?_⟩
  ·have e6:=Q0s A0 1 (by decide) rfl rfl rfl;have e8:=Q0s A0 3 (by decide) rfl rfl rfl;refine Q02 rfl ?_;refine Q14 (u:=.bool (nx != ny)) ?_ ((Q0f rfl).2 rfl);cases nx <;> cases ny <;> simp[go_sem,e6,e8]
  refine ⟨fun A W hW F0 A0=>?_,?_⟩
  ·have e2:=Q0d F0 2 (by kernel_rfl) rfl;refine Q02 rfl ?_;refine Q14 (u:=.pointer (some ⟨w.heap.size,1,none⟩)) ?_ ((Q0f rfl).2 rfl);simp[go_sem,e2]
  refine ⟨fun A W hW F0 A0=>?_,?_⟩
  ·have e10:=Q0s A0 5 (by decide) rfl rfl rfl;refine Q02 rfl ?_;obtain ⟨_,k1,_,_,_,_⟩:=(HQ.out W hW.1).1;refine Q14 (u:=.int .i64 ex) ?_ ((Q0f rfl).2 rfl);simp[go_sem,e10,k1]
  refine ⟨fun A W hW F0 A0=>?_,?_⟩
  ·have e3:=Q0d F0 3 (by kernel_rfl) rfl;refine Q02 rfl ?_;refine Q14 (u:=.pointer (some ⟨(w.heap.size+1),1,none⟩)) ?_ ((Q0f rfl).2 rfl);simp[go_sem,e3]
  refine ⟨fun A W hW F0 A0=>?_,?_⟩
  ·have e12:=Q0s A0 7 (by decide) rfl rfl rfl;refine Q02 rfl ?_;obtain ⟨_,k1,_,_,_,_⟩:=(HQ.out W hW.1).2.1;refine Q14 (u:=.int .i64 ey) ?_ ((Q0f rfl).2 rfl);simp[go_sem,e12,k1]
  refine ⟨fun A W hW F0 A0=>?_,?_⟩
  ·have e11:=Q0s A0 6 (by decide) rfl rfl rfl;have e13:=Q0s A0 8 (by decide) rfl rfl rfl;refine Q02 rfl ?_;refine Q14 (u:=.int .i64 (ex+ey)) ?_ ((Q0f rfl).2 rfl);simp[go_sem,e11,e13,Z6]
  refine ⟨fun A W hW F0 A0=>?_,?_⟩
  ·have e2:=Q0d F0 2 (by kernel_rfl) rfl;refine Q02 rfl ?_;refine Q14 (u:=.pointer (some ⟨w.heap.size,2,none⟩)) ?_ ((Q0f rfl).2 rfl);simp[go_sem,e2]
  refine ⟨fun A W hW F0 A0=>?_,?_⟩
  ·have e15:=Q0s A0 10 (by decide) rfl rfl rfl;refine Q02 rfl ?_;obtain ⟨_,_,k2,_,_,_⟩:=(HQ.out W hW.1).1;refine Q14 (u:=.slice ax lx cx) ?_ ((Q0f rfl).2 rfl);simp[go_sem,e15,k2]
  refine ⟨fun A W hW F0 A0=>?_,?_⟩
  ·have e3:=Q0d F0 3 (by kernel_rfl) rfl;refine Q02 rfl ?_;refine Q14 (u:=.pointer (some ⟨(w.heap.size+1),2,none⟩)) ?_ ((Q0f rfl).2 rfl);simp[go_sem,e3]
  refine ⟨fun A W hW F0 A0=>?_,?_⟩
  ·have e17:=Q0s A0 12 (by decide) rfl rfl rfl;refine Q02 rfl ?_;obtain ⟨_,_,k2,_,_,_⟩:=(HQ.out W hW.1).2.1;refine Q14 (u:=.slice ay ly cy) ?_ ((Q0f rfl).2 rfl);simp[go_sem,e17,k2]
  refine ⟨fun A W hW F0 A0=>?_,?_⟩
  ·have e16:=Q0s A0 11 (by decide) rfl rfl rfl;have e18:=Q0s A0 13 (by decide) rfl rfl rfl;refine Q02 rfl ?_;refine Qit (f:=296) (args:= #[.slice ax lx cx,.slice ay ly cy]) (by simp[go_sem,e16,e18]) ((Qfl ax lx cx ls ay ly cy ks W (HQ.out W hW.1).2.2.1 (HQ.out W hW.1).2.2.2.1 (by omega) (by omega)).mono ?_);rintro e w2 ⟨a,n,c,rfl,hw,hb⟩;exact ⟨_,rfl,hb,(Q00 rfl).2 ⟨a,n,c,rfl,hw⟩⟩
  refine ⟨fun A W hW F0 A0=>?_,?_⟩
  ·have e9:=Q0s A0 4 (by decide) rfl rfl rfl;have e14:=Q0s A0 9 (by decide) rfl rfl rfl;refine Q02 rfl ?_;obtain ⟨a,n,c,hv,hw⟩:=(Q00 rfl).1 (A0 14 (by decide));have e19:=Q1w hv;refine Q14 (u:=.agg #[.bool (nx != ny),.int .i64 (ex+ey),.slice a n c]) ?_ ((Q00 rfl).2 ⟨a,n,c,rfl,hw⟩);simp[go_sem,e9,e14,e19]
  refine ⟨fun A W hW F0 A0=>?_,?_⟩
  ·have e4:=Q0d F0 4 (by kernel_rfl) rfl;refine Q02 rfl ?_;obtain ⟨a,n,c,hv,hw⟩:=(Q00 rfl).1 (A0 15 (by decide));have e20:=Q1w hv;obtain ⟨⟨b9,e9,a9,n9,c9,hN⟩,E0⟩:=hW.2.1;have k0:=hN.c0;have f0:=hN.f0;have f1:=hN.f1;have f2:=hN.f2;have d1:=hN.d1 (.bool (nx != ny));have d2:=hN.d2 (.bool (nx != ny)) (.int .i64 (ex+ey));refine Qfm hW.2.1 hw (b:=nx != ny) (e:=ex+ey) rfl rfl ?_ (fun w' h=>(Q00 rfl).2 h);simp[go_sem,e4,e20,k0,f0,f1,f2,d1,d2]
  exact trivial
 intro vs W1 O2 D5;obtain ⟨a,n,c,J2,XZ,G4⟩:=(Q00 rfl).1 (D5 16 (by decide));simp only[Q0y,Act.put,Uu,UI,UF];obtain ⟨k0,k1,k2⟩:=J2.cc;have O0:=(HQ.out W1 O2.1).2.2.2.2.1;have HE:=Xh2 G4 O0;clear D5 O2 G4 O0 J2
 go_wp2_with fail
 exact ⟨rfl,.agg #[.bool (nx != ny),.int .i64 (ex+ey),.slice a n c],by simp[results,go_sem,k0,k1,k2],a,n,c,rfl,(Xo0 HE),(Xe1 HE)⟩
def J0a (w:World) (D:Dyadic) (T lo hi:Int) (r:Ending) (w':World):Prop:=∃n e a l c L,r=.returned (.agg #[.bool n,.int .i64 e,.slice a l c])/\WordsIn w' a l c L/\Q1p n e L=D/\lo<=e/\e<=hi/\64*(l:Int)+e<=T/\Bw w w'
theorem Qiw (nx:Bool) (ex:Int) (ax:OA) (lx cx:Nat) (ls:LN) (ny:Bool) (ey:Int) (ay:OA) (ly cy:Nat) (ks:LN) (w:World) (h1:WordsIn w ax lx cx ls) (h2:WordsIn w ay ly cy ks) (hn:lx<=20000) (hm:ly<=20000) (XB: -1000000<=ex) (Q6:ex<=1000000) (Y3: -1000000<=ey) (A4:ey<=1000000) (T lo hi:Int) (Q2:64*(lx:Int)+ex<=T) (M1:64*(ly:Int)+ey<=T) (O8:lo<=ex) (Zu:lo<=ey) (X8:ex<=hi) (Zq:ey<=hi):
 Calls Tryz.prog 188 #[.agg #[.bool nx,.int .i64 ex,.slice ax lx cx],.agg #[.bool ny,.int .i64 ey,.slice ay ly cy]] w (J0a w (Q1p nx ex ls+Q1p ny ey ks) (T+64) lo hi):=by
 obtain ⟨p5,hX,hY,hR,hB⟩:=Qf3 w (.bool nx) (.int .i64 ex) (.slice ax lx cx) (.bool ny) (.int .i64 ey) (.slice ay ly cy) (.bool false) (.int .i64 0) (.slice none 0 0) 26 26 26;generalize R1:(((w.alloc (.cells #[.bool nx,.int .i64 ex,.slice ax lx cx] 26)).alloc (.cells #[.bool ny,.int .i64 ey,.slice ay ly cy] 26)).alloc (.cells #[.bool false,.int .i64 0,.slice none 0 0] 26))=W0 at p5 hX hY hR hB;have hQ:∀W,Bw W0 W->Q03 W w.heap.size (.bool nx) (.int .i64 ex) (.slice ax lx cx)/\Q03 W (w.heap.size+1) (.bool ny) (.int .i64 ey) (.slice ay ly cy)/\Q03 W (w.heap.size+2) (.bool false) (.int .i64 0) (.slice none 0 0)/\w.heap.size+2<W.heap.size/\Bw w W:=fun W hb=>
  ⟨hX.step hb (by omega),hY.step hb (by omega),hR.step hb (by omega),Uc (by omega) hb.size,Below.next0 hB hb⟩
 have HQ:=Ub hQ;have R9:=fun W (hb:Bw w W)=>Q3v nx ex ax lx cx ls W (h1.step hb) (by omega);have Qg:=fun W (hb:Bw w W)=>Q3v ny ey ay ly cy ks W (h2.step hb) (by omega);have HW:=Xh2 h1 h2;clear p5 hX hY hR hQ h1 h2;obtain ⟨m5,R4,Z3,_,_,_⟩:=(HQ.out W0 (Ug _ _)).1
 by_cases J8:val (2^64) ls=0
 ·simp only[J8,Xaz] at R9;have HS:=Ub R9;have HV:=Ub J8;clear R9 Qg J8
  go_enter Tryz.func188,Tryz.ntmps188
  go_wp2_with (refine (HS.out W0 hB).mono ?_;rintro r w1 ⟨rfl,C0⟩;obtain ⟨_,g1,g2,g3,g4⟩:=HQ.out w1 C0;obtain ⟨yc0,yc1,yc2⟩:=g1.cc;obtain ⟨rc0,rc1,rc2,rf0,rf1,rf2⟩:=g2.cf;have rd1:=g2.d1 (.bool ny);have rd2:=g2.d2 (.bool ny) (.int .i64 ey);have HA:=Xh3 g2 g3 g4;clear g1 g2 g3 g4)
  have hS:=(Xo0 HA).store (.bool ny) (.int .i64 ey) (.slice ay ly cy);obtain ⟨k0,k1,k2⟩:=hS.cc;have Q3:=Q03.below (Xe2 HA) (show w.heap.size<=w.heap.size+2 by omega) (.bool ny) (.int .i64 ey) (.slice ay ly cy);exact ⟨rfl,.agg #[.bool ny,.int .i64 ey,.slice ay ly cy],by simp[results,go_sem,k0,k1,k2],ny,ey,ay,ly,cy,ks,rfl,(Xe1 HW).step Q3,by rw[Qir _ _ HV.out,Dyadic.zero_add],Zu,Zq,by omega,Q3⟩
 ·have hsx':=R9;simp only[J8,Xac] at R9;have ZV:∀W (hb:Bw w W),Calls Tryz.prog 95 #[.agg #[.bool nx,.int .i64 ex,.slice ax lx cx]] W fun r w'=>(∃s:Int,r=.returned (.int .i64 s)/\s≠0)/\Bw W w':=fun W hb=>(R9 W hb).mono (by rintro r w' ⟨rfl,B4⟩;exact ⟨⟨_,rfl,by split <;> decide⟩,B4⟩)
  by_cases i8:val (2^64) ks=0
  ·simp only[i8,Xaz] at Qg;have HS:=Xh2 ZV Qg;have HV:=Ub i8;clear R9 hsx' Qg ZV J8 i8
   go_enter Tryz.func188,Tryz.ntmps188
   go_wp2_with (first
    |(go_at_call_of 95 ax;refine ((Xo0 HS) W0 hB).mono ?_;rintro r w1 ⟨⟨s,rfl,hs⟩,C0⟩;have Xr:(s==0)=false:=(by rw[Uk];exact hs);obtain ⟨g0,g1,g2,g3,g4⟩:=HQ.out w1 C0;obtain ⟨yc0,yc1,yc2⟩:=g1.cc;have HA:=Xh2 C0 g4;clear g0 g1 g2 g3 g4 C0)
    |(go_at_call_of 95 ay;refine ((Xe1 HS) w1 (Xe1 HA)).mono ?_;rintro r w2 ⟨rfl,D0⟩;obtain ⟨g0,g1,g2,g3,g4⟩:=HQ.out w2 (Below.next0 (Xo0 HA) D0);obtain ⟨xc0,xc1,xc2⟩:=g0.cc;obtain ⟨rc0,rc1,rc2,rf0,rf1,rf2⟩:=g2.cf;have rd1:=g2.d1 (.bool nx);have rd2:=g2.d2 (.bool nx) (.int .i64 ex);have HC:=Xh3 g2 g3 g4;clear g0 g1 g2 g3 g4 D0))
   have hS:=(Xo0 HC).store (.bool nx) (.int .i64 ex) (.slice ax lx cx);obtain ⟨k0,k1,k2⟩:=hS.cc;have Q3:=Q03.below (Xe2 HC) (show w.heap.size<=w.heap.size+2 by omega) (.bool nx) (.int .i64 ex) (.slice ax lx cx);exact ⟨rfl,.agg #[.bool nx,.int .i64 ex,.slice ax lx cx],by simp[results,go_sem,k0,k1,k2],nx,ex,ax,lx,cx,ls,rfl,(Xo0 HW).step Q3,by rw[Qir _ _ HV.out,Xbu],O8,X8,by omega,Q3⟩
  ·simp only[i8,Xac] at Qg;have u7:∀W (hb:Bw w W),Calls Tryz.prog 95 #[.agg #[.bool ny,.int .i64 ey,.slice ay ly cy]] W fun r w'=>(∃s:Int,r=.returned (.int .i64 s)/\s≠0)/\Bw W w':=fun W hb=>(Qg W hb).mono (by rintro r w' ⟨rfl,B4⟩;exact ⟨⟨_,rfl,by split <;> decide⟩,B4⟩);have HS:=Xh2 ZV u7;have HV:=Xh2 J8 i8;clear R9 hsx' Qg ZV u7 J8 i8;obtain ⟨D,hD⟩:∃D,Q1p nx ex ls+Q1p ny ey ks=D:=⟨_,rfl⟩;rw[hD];have HD:=Ub hD;clear hD
   go_enter Tryz.func188,Tryz.ntmps188
   go_upto_block 0 with fail
   go_cut [] (fun wx=>∃n1 e1 a1 l1 c1 L1 n2 e2 a2 l2 c2 L2,J08 w wx D T lo hi n1 e1 a1 l1 c1 L1 n2 e2 a2 l2 c2 L2)
   case first=>
    by_cases E0:ey<ex
    ·go_wp2_with (first
      |(go_at_call_of 95 ax;refine ((Xo0 HS) W0 hB).mono ?_;rintro r w1 ⟨⟨s,rfl,hs⟩,C0⟩;have Xr:(s==0)=false:=(by rw[Uk];exact hs);obtain ⟨g0,g1,g2,g3,g4⟩:=HQ.out w1 C0;obtain ⟨yc0,yc1,yc2⟩:=g1.cc;have HA:=Xh2 C0 g4;clear g0 g1 g2 g3 g4 C0)
      |(go_at_call_of 95 ay;refine ((Xe1 HS) w1 (Xe1 HA)).mono ?_;rintro r w2 ⟨⟨s2,rfl,X5⟩,D0⟩;have hs20:(s2==0)=false:=(by rw[Uk];exact X5);obtain ⟨g0,g1,g2,g3,g4⟩:=HQ.out w2 (Below.next0 (Xo0 HA) D0);obtain ⟨xc0,xc1,xc2,xf0,xf1,xf2⟩:=g0.cf;have xd1:=g0.d1 (.bool ny);have xd2:=g0.d2 (.bool ny) (.int .i64 ey);obtain ⟨zc0,zc1,zc2⟩:=g1.cc;have gs0:=g0.store (.bool ny) (.int .i64 ey) (.slice ay ly cy);have gs1:=g1.far3 (show w.heap.size≠w.heap.size+1 by omega) (.bool ny) (.int .i64 ey) (.slice ay ly cy);obtain ⟨sc0,sc1,sc2,sf0,sf1,sf2⟩:=gs1.cf;have sd1:=gs1.d1 (.bool nx);have sd2:=gs1.d2 (.bool nx) (.int .i64 ex);have gz:=And.intro (gs0.far3 (show w.heap.size+1≠w.heap.size by omega) (.bool nx) (.int .i64 ex) (.slice ax lx cx)) (And.intro (gs1.store (.bool nx) (.int .i64 ex) (.slice ax lx cx)) (And.intro ((g2.far3 (show w.heap.size≠w.heap.size+2 by omega) (.bool ny) (.int .i64 ey) (.slice ay ly cy)).far3 (show w.heap.size+1≠w.heap.size+2 by omega) (.bool nx) (.int .i64 ex) (.slice ax lx cx)) (Q03.below (Q03.below g4 (Ue _) (.bool ny) (.int .i64 ey) (.slice ay ly cy)) (show w.heap.size<=w.heap.size+1 by omega) (.bool nx) (.int .i64 ex) (.slice ax lx cx))));have HZ:=Ub gz;clear gs0 gs1 gz;skip;have HC:=Xh5 g0 g1 g2 g3 g4;clear g0 g1 g2 g3 g4 D0))
     go_meet;exact ⟨_,_,_,_,_,_,_,_,_,_,_,_,(Xo0 HZ),(Xo1 HZ),(Xo2 HZ),by rw[J07,J07];exact (Xo3 HC),(Xe1 HW),(Xo0 HW),by omega,(Xe1 HV),(Xo0 HV),hm,hn,Zu,X8,by omega,M1,Q2,(by rw[Dyadic.add_comm];exact HD.out),(Xe3 HZ)⟩
    ·go_wp2_with (first
      |(go_at_call_of 95 ax;refine ((Xo0 HS) W0 hB).mono ?_;rintro r w1 ⟨⟨s,rfl,hs⟩,C0⟩;have Xr:(s==0)=false:=(by rw[Uk];exact hs);obtain ⟨g0,g1,g2,g3,g4⟩:=HQ.out w1 C0;obtain ⟨yc0,yc1,yc2⟩:=g1.cc;have HA:=Xh2 C0 g4;clear g0 g1 g2 g3 g4 C0)
      |(go_at_call_of 95 ay;refine ((Xe1 HS) w1 (Xe1 HA)).mono ?_;rintro r w2 ⟨⟨s2,rfl,X5⟩,D0⟩;have hs20:(s2==0)=false:=(by rw[Uk];exact X5);obtain ⟨g0,g1,g2,g3,g4⟩:=HQ.out w2 (Below.next0 (Xo0 HA) D0);obtain ⟨xc0,xc1,xc2⟩:=g0.cc;obtain ⟨zc0,zc1,zc2⟩:=g1.cc;have HC:=Xh5 g0 g1 g2 g3 g4;clear g0 g1 g2 g3 g4 D0))
     go_meet;exact ⟨_,_,_,_,_,_,_,_,_,_,_,_,(Xo0 HC),(Xo1 HC),(Xo2 HC),(Xo3 HC),(Xo0 HW),(Xe1 HW),by omega,(Xo0 HV),(Xe1 HV),hn,hm,O8,Zq,by omega,Q2,M1,HD.out,(Xe4 HC)⟩
   case rest=>
    obtain ⟨n1,e1,a1,l1,c1,L1,n2,e2,a2,l2,c2,L2,hP⟩:=hcut;have G5:=hP.le;have A3:=hP.s1;have X5:=hP.s2;have i4:=hP.lo1;have Qd:=hP.hi2;have hrng:=hP.rng;obtain ⟨z,hz⟩:∃z:Nat,e2-e1=(z:Int):=⟨(e2-e1).toNat,by omega⟩;have hw1l:=hP.w1.len;have hw2l:=hP.w2.len;have O3:=fun V (hV:V<=val (2^64) L1+val (2^64) L2*2^z)=>Qyl (T:=T) (e1:=e1) (e2:=e2) (by have:=Q88 hP.w1.low;rwa[hw1l] at this) (by have:=Q88 hP.w2.low;rwa[hw2l] at this) hV hz hP.t1 hP.t2;have Xs:=Qd8 a2 l2 c2 L2 z wc (hP.w2.step hP.bel) (by omega) (by omega);have xc0:=hP.b1.c0;have xc1:=hP.b1.c1;have xc2:=hP.b1.c2;have yc0:=hP.b2.c0;have yc1:=hP.b2.c1;have yc2:=hP.b2.c2;have HU:=Ub Xs;clear Xs HD HV HS;have N5:=hP.sum;rw[Qyk n2 e1 e2 L2 z hz] at N5;unfold Q1p at N5;rw[Qf6] at N5;obtain ⟨v2,i8⟩:∃v2,val (2^64) L2*2^z=v2:=⟨_,rfl⟩;have hv20:v2≠0:=(by rw[<-i8];exact Nat.mul_ne_zero hP.v2 (Nat.pos_iff_ne_zero.1 (Tr (by decide))));have ZJ:64*(dig (2^64) v2).length<=64*l2+z+63:=Qgz (by
     rw[<-i8,Tp];exact TL (by have:=Q88 hP.w2.low;rwa[hw2l] at this) (Tr (by decide)))
    rw[i8] at N5 O3 HU;have HF:=Xh4 N5 O3 hv20 hP.v1;have Qc:=hP.bel;have HP:=Ub hP;clear N5 O3 i8 hv20 hP
    by_cases KL:n1=n2
    ·subst KL;have Q0:(n1==n1)=true:=by simp
     go_wp2_with (go_at_call_of 150 a2;refine HU.out.mono ?_;rintro r w3 ⟨a3,l3,c3,rfl,g7,G0⟩;have g0:=HP.out.b1.step G0 (by have:=HP.out.lt;omega);obtain ⟨uc0,uc1,uc2⟩:=g0.cc;have g1:=HP.out.b2.step G0 (by have:=HP.out.lt;omega);obtain ⟨vc0,vc1,vc2⟩:=g1.cc;clear g1;have HE:=Xh2 g7 G0;clear g0 g7 G0)
     have X3:w.heap.size+2<w3.heap.size:=Uc HP.out.lt (Xe1 HE).size;have C1:=HP.out.br.step (Xe1 HE) HP.out.lt;have C0:=HP.out.b1.step (Xe1 HE) (by have:=HP.out.lt;omega);have S5:∀W,WordsIn W a1 l1 c1 L1->WordsIn W a3 l3 c3 (dig (2^64) v2)->Calls Tryz.prog 240 #[.slice a1 l1 c1,.slice a3 l3 c3] W (Q9h W (val (2^64) L1+v2)):=fun W q1 q2=>by
      have h:=Qf2 a1 l1 c1 L1 a3 l3 c3 _ W q1 q2 (by omega) (by
       have h6:=(Xo0 HE).len;omega)
      rwa[Q0v (by decide)] at h
     have XH:=Ub (show∀W,Qrb (w.heap.size+2) w3 W->Q03 W w.heap.size (.bool n1) (.int .i64 e1) (.slice a1 l1 c1)/\WordsIn W a1 l1 c1 L1/\WordsIn W a3 l3 c3 (dig (2^64) v2)/\Bw w W from fun W hW=>by
      have hb:=Below.turn (Below.next0 HP.out.bel (Xe1 HE)) hW.1 (Below.next0 HP.out.bel (Xe1 HE)).size (fun k e=>by omega);exact ⟨C0.turn hW.1 (by omega) (by omega),HP.out.w1.step hb,hW.2.2 _ _ _ _ (Xo0 HE),hb⟩)
     have HAD:=Ub S5;have H00:Qrb (w.heap.size+2) w3 w3.drew:=Qrb.start C1 X3;clear X3 C1 C0 S5 uc0 uc1 uc2 vc0 vc1 vc2;refine Q0l (E:=Qnt (w.heap.size+2) (Qd9 (w.heap.size+2) (.bool n1) (.int .i64 e1) (dig (2^64) (val (2^64) L1+v2)))) (Qnt.refl _ _) (by kernel_rfl) (fun W=>Qrb (w.heap.size+2) w3 W) (fun _ _ h h'=>h.next h') (Q56 [.pointer (some ⟨w.heap.size,0,none⟩),.bool n1,.pointer (some ⟨w.heap.size,1,none⟩),.int .i64 e1,.pointer (some ⟨w.heap.size,2,none⟩),.slice a1 l1 c1,.slice a3 l3 c3,undef,undef,undef] (J1i 7 8 9 (w.heap.size+2) (.bool n1) (.int .i64 e1) (dig (2^64) (val (2^64) L1+v2)))) (Qfn Qiu) (Qis 9 rfl (by kernel_rfl)) (by kernel_rfl) H00 ?_ ?_
     ·skip;refine ⟨fun A W hW F0 A0=>?_,?_⟩
      ·have e2:=Q0d F0 2 (by kernel_rfl) rfl;refine Q02 rfl ?_;refine Q14 (u:=.pointer (some ⟨w.heap.size,0,none⟩)) ?_ ((Q0f rfl).2 rfl);simp[go_sem,e2]
      refine ⟨fun A W hW F0 A0=>?_,?_⟩
      ·have e41:=Q0s A0 0 (by decide) rfl rfl rfl;refine Q02 rfl ?_;obtain ⟨k0,_,_,_,_,_⟩:=(XH.out W hW).1;refine Q14 (u:=.bool n1) ?_ ((Q0f rfl).2 rfl);simp[go_sem,e41,k0]
      refine ⟨fun A W hW F0 A0=>?_,?_⟩
      ·have e2:=Q0d F0 2 (by kernel_rfl) rfl;refine Q02 rfl ?_;refine Q14 (u:=.pointer (some ⟨w.heap.size,1,none⟩)) ?_ ((Q0f rfl).2 rfl);simp[go_sem,e2]
      refine ⟨fun A W hW F0 A0=>?_,?_⟩
      ·have e43:=Q0s A0 2 (by decide) rfl rfl rfl;refine Q02 rfl ?_;obtain ⟨_,k1,_,_,_,_⟩:=(XH.out W hW).1;refine Q14 (u:=.int .i64 e1) ?_ ((Q0f rfl).2 rfl);simp[go_sem,e43,k1]
      refine ⟨fun A W hW F0 A0=>?_,?_⟩
      ·have e2:=Q0d F0 2 (by kernel_rfl) rfl;refine Q02 rfl ?_;refine Q14 (u:=.pointer (some ⟨w.heap.size,2,none⟩)) ?_ ((Q0f rfl).2 rfl);simp[go_sem,e2]
      refine ⟨fun A W hW F0 A0=>?_,?_⟩
      ·have e45:=Q0s A0 4 (by decide) rfl rfl rfl;refine Q02 rfl ?_;obtain ⟨_,_,k2,_,_,_⟩:=(XH.out W hW).1;refine Q14 (u:=.slice a1 l1 c1) ?_ ((Q0f rfl).2 rfl);simp[go_sem,e45,k2]
      refine ⟨fun A W hW F0 A0=>?_,?_⟩
      ·have e5:=Q0d F0 5 (by kernel_rfl) rfl;refine Q02 rfl ?_;refine Q14 (u:=.slice a3 l3 c3) ?_ ((Q0f rfl).2 rfl);simp[go_sem,e5]
      refine ⟨fun A W hW F0 A0=>?_,?_⟩
      ·have e46:=Q0s A0 5 (by decide) rfl rfl rfl;have e47:=Q0s A0 6 (by decide) rfl rfl rfl;refine Q02 rfl ?_;refine Qit (f:=240) (args:= #[.slice a1 l1 c1,.slice a3 l3 c3]) (by simp[go_sem,e46,e47]) ((HAD.out W (XH.out W hW).2.1 (XH.out W hW).2.2.1).mono ?_);rintro e w2 ⟨a,n,c,rfl,hw,hb⟩;exact ⟨_,rfl,hb,(Q00 rfl).2 ⟨a,n,c,rfl,hw⟩⟩
      refine ⟨fun A W hW F0 A0=>?_,?_⟩
      ·have e42:=Q0s A0 1 (by decide) rfl rfl rfl;have e44:=Q0s A0 3 (by decide) rfl rfl rfl;refine Q02 rfl ?_;obtain ⟨a,n,c,hv,hw⟩:=(Q00 rfl).1 (A0 7 (by decide));have e48:=Q1w hv;refine Q14 (u:=.agg #[.bool n1,.int .i64 e1,.slice a n c]) ?_ ((Q00 rfl).2 ⟨a,n,c,rfl,hw⟩);simp[go_sem,e42,e44,e48]
      refine ⟨fun A W hW F0 A0=>?_,?_⟩
      ·have e4:=Q0d F0 4 (by kernel_rfl) rfl;refine Q02 rfl ?_;obtain ⟨a,n,c,hv,hw⟩:=(Q00 rfl).1 (A0 8 (by decide));have e49:=Q1w hv;obtain ⟨⟨b9,e9,a9,n9,c9,hN⟩,E0⟩:=hW.2.1;have k0:=hN.c0;have f0:=hN.f0;have f1:=hN.f1;have f2:=hN.f2;have d1:=hN.d1 (.bool n1);have d2:=hN.d2 (.bool n1) (.int .i64 e1);refine Qfm hW.2.1 hw (b:=n1) (e:=e1) rfl rfl ?_ (fun w' h=>(Q00 rfl).2 h);simp[go_sem,e4,e49,k0,f0,f1,f2,d1,d2]
      exact trivial
     intro vs W1 O2 D5;obtain ⟨a,n,c,J2,XZ,G4⟩:=(Q00 rfl).1 (D5 9 (by decide));simp only[Q0y,Act.put,Uu,UI,UF];obtain ⟨k0,k1,k2⟩:=J2.cc;have HG:=Xh2 G4 (XH.out W1 O2).2.2.2;clear D5 O2 G4 J2
     go_wp2_with fail
     refine ⟨rfl,.agg #[.bool n1,.int .i64 e1,.slice a n c],by simp[results,go_sem,k0,k1,k2],n1,e1,a,n,c,_,rfl,(Xo0 HG),?_,i4,by omega,?_,(Xe1 HG)⟩
     ·rw[Qc1,<-Qvv];exact (Xo0 HF)
     ·have h5:=(Xo1 HF) (val (2^64) L1+v2) (Ue _);rw[(Xo0 HG).len] at h5;exact h5
    ·have C6:n2= !n1:=(by cases n1 <;> cases n2 <;> simp_all);subst C6;have Q0:(n1== !n1)=false:=by cases n1 <;> rfl
     by_cases C5:v2<=val (2^64) L1
     ·go_wp2_with (first
       |(go_at_call_of 150 a2;refine HU.out.mono ?_;rintro r w3 ⟨a3,l3,c3,rfl,g7,G0⟩;have g0:=HP.out.b1.step G0 (by have:=HP.out.lt;omega);obtain ⟨uc0,uc1,uc2⟩:=g0.cc;have g1:=HP.out.b2.step G0 (by have:=HP.out.lt;omega);obtain ⟨vc0,vc1,vc2⟩:=g1.cc;have HE:=Xh2 g7 G0;clear g0 g1 g7 G0)
       |(go_at_call_of 241 a1;refine (Qar a1 l1 c1 L1 a3 l3 c3 _ w3 (HP.out.w1.step (Below.next0 HP.out.bel (Xe1 HE))) (Xo0 HE) (by omega) (Xe3 HF)).mono ?_;rintro r w4 ⟨a4,l4,c4,ok,rfl,P2,I8,F2⟩;rw[Q0v (by decide),UQ C5] at P2;subst P2;have I8:=I8 rfl;rw[Q0v (by decide)] at I8;
         have B8:=HP.out.lt;have Qp:=Below.next0 (Xe1 HE) F2;have g0:=HP.out.b1.step Qp (by omega);obtain ⟨uc0,uc1,uc2⟩:=g0.cc;have g1:=HP.out.b2.step Qp (by omega);obtain ⟨vc0,vc1,vc2⟩:=g1.cc;have g2:=HP.out.br.step Qp B8;obtain ⟨rc0,rc1,rc2,rf0,rf1,rf2⟩:=g2.cf;have rd1:=g2.d1 (.bool n1);have rd2:=g2.d2 (.bool n1) (.int .i64 e1);have HG:=Xh4 I8 g2 (Uc B8 Qp.size) (Below.next0 HP.out.bel Qp);clear g0 g1 g2 I8 F2 Qp))
      have hS:=(Xo1 HG).store (.bool n1) (.int .i64 e1) (.slice a4 l4 c4);obtain ⟨k0,k1,k2⟩:=hS.cc;have Q3:=Q03.below (Xe3 HG) (show w.heap.size<=w.heap.size+2 by omega) (.bool n1) (.int .i64 e1) (.slice a4 l4 c4);have V8:WordsIn (((w4.setCell ⟨w.heap.size+2,0,none⟩ (.bool n1)).setCell ⟨w.heap.size+2,1,none⟩ (.int .i64 e1)).setCell ⟨w.heap.size+2,2,none⟩ (.slice a4 l4 c4)) a4 l4 c4 (dig (2^64) (val (2^64) L1-v2)):=⟨(Xo0 HG).len,(Xo0 HG).cap,(Xo0 HG).most,(Xo0 HG).low,((Xo0 HG).rd.store3 (Xo1 HG) (fun _=>by simp[nv]) (fun _=>by simp[nv]) (fun _=>by simp[nv]) _ _ _).more (Q1i _ _ _ _ _)⟩;refine ⟨rfl,.agg #[.bool n1,.int .i64 e1,.slice a4 l4 c4],by simp[results,go_sem,k0,k1,k2],_,e1,a4,l4,c4,_,rfl,V8,?_,i4,by omega,?_,Q3⟩
      ·rw[Qc1,<-(Xo0 HF),Qiq,Us C5]
      ·have h5:=(Xo1 HF) (val (2^64) L1-v2) (by omega);rw[(Xo0 HG).len] at h5;exact h5
     ·go_upto_if 57 with (first
       |(go_at_call_of 150 a2;refine HU.out.mono ?_;rintro r w3 ⟨a3,l3,c3,rfl,g7,G0⟩;have g0:=HP.out.b1.step G0 (by have:=HP.out.lt;omega);obtain ⟨uc0,uc1,uc2⟩:=g0.cc;have g1:=HP.out.b2.step G0 (by have:=HP.out.lt;omega);obtain ⟨vc0,vc1,vc2⟩:=g1.cc;have HE:=Xh2 g7 G0;clear g0 g1 g7 G0)
       |(go_at_call_of 241 a1;refine (Qar a1 l1 c1 L1 a3 l3 c3 _ w3 (HP.out.w1.step (Below.next0 HP.out.bel (Xe1 HE))) (Xo0 HE) (by omega) (Xe3 HF)).mono ?_;rintro r w4 ⟨a4,l4,c4,ok,rfl,P2,I8,F2⟩;rw[Q0v (by decide),Ta C5] at P2;subst P2;clear I8;
         have Qp:=Below.next0 (Xe1 HE) F2;have g0:=HP.out.b1.step Qp (by have:=HP.out.lt;omega);obtain ⟨uc0,uc1,uc2⟩:=g0.cc;have HG1:=Xh2 ((Xo0 HE).step F2) Qp;clear g0 F2 Qp))
      go_wp2_with (go_at_call_of 241 a1;refine (Qar a3 l3 c3 _ a1 l1 c1 L1 w4 (Xo0 HG1) (HP.out.w1.step (Below.next0 HP.out.bel (Xe1 HG1))) (by have h6:=(Xo0 HG1).len;omega) (by rw[Q0v (by decide)];exact (Xo2 HF))).mono ?_;rintro r w5 ⟨a5,l5,c5,ok,rfl,P2,N7,Z0⟩;rw[Q0v (by decide),UQ (by omega)] at P2;subst P2;have N7:=N7 rfl;rw[Q0v (by decide)] at N7;have B8:=HP.out.lt;have Xd:=Below.next0 (Xe1 HG1) Z0;have g0:=HP.out.b1.step Xd (by omega);obtain ⟨uc0,uc1,uc2⟩:=g0.cc;have g1:=HP.out.b2.step Xd (by omega);obtain ⟨vc0,vc1,vc2⟩:=g1.cc;have g2:=HP.out.br.step Xd B8;obtain ⟨rc0,rc1,rc2,rf0,rf1,rf2⟩:=g2.cf;have rd1:=g2.d1 (.bool (!n1));have rd2:=g2.d2 (.bool (!n1)) (.int .i64 e1);have HG:=Xh4 N7 g2 (Uc B8 Xd.size) (Below.next0 HP.out.bel Xd);clear g0 g1 g2 N7 Z0 Xd)
      have hS:=(Xo1 HG).store (.bool (!n1)) (.int .i64 e1) (.slice a5 l5 c5);obtain ⟨k0,k1,k2⟩:=hS.cc;have Q3:=Q03.below (Xe3 HG) (show w.heap.size<=w.heap.size+2 by omega) (.bool (!n1)) (.int .i64 e1) (.slice a5 l5 c5);have V8:WordsIn (((w5.setCell ⟨w.heap.size+2,0,none⟩ (.bool (!n1))).setCell ⟨w.heap.size+2,1,none⟩ (.int .i64 e1)).setCell ⟨w.heap.size+2,2,none⟩ (.slice a5 l5 c5)) a5 l5 c5 (dig (2^64) (v2-val (2^64) L1)):=⟨(Xo0 HG).len,(Xo0 HG).cap,(Xo0 HG).most,(Xo0 HG).low,((Xo0 HG).rd.store3 (Xo1 HG) (fun _=>by simp[nv]) (fun _=>by simp[nv]) (fun _=>by simp[nv]) _ _ _).more (Q1i _ _ _ _ _)⟩;refine ⟨rfl,.agg #[.bool (!n1),.int .i64 e1,.slice a5 l5 c5],by simp[results,go_sem,k0,k1,k2],_,e1,a5,l5,c5,_,rfl,V8,?_,i4,by omega,?_,Q3⟩
      ·rw[Qc1,<-(Xo0 HF),Qiq,Up C5]
      ·have h5:=(Xo1 HF) (v2-val (2^64) L1) (by omega);rw[(Xo0 HG).len] at h5;exact h5
def Qsx (w:World) (D:Dyadic) (r:Ending) (w':World):Prop:=∃n' e' a' l' c' L er,r=.returned (.tuple #[.agg #[.bool n',.int .i64 e',.slice a' l' c'],.int .i64 er])/\Qnb D n' e' L er/\Q2n w w' a' l' c' L/\Bw w w'
theorem Qvw (n:Bool) (e:Int) (a:OA) (l c:Nat) (L:LN) (w:World) (h:WordsIn w a l c L) (hT:Q1s w) (hl:l<=100000) (he: -1000000000<=e) (Q6:e<=1000000000):
 Calls Tryz.prog 312 #[.agg #[.bool n,.int .i64 e,.slice a l c]] w (Qsx w (Q1p n e L)):=by
 obtain ⟨P9,hX,hR,hB⟩:=Q8g w (.bool n) (.int .i64 e) (.slice a l c) (.bool false) (.int .i64 0) (.slice none 0 0) 26 26;generalize hW:(w.alloc (.cells #[.bool n,.int .i64 e,.slice a l c] 26)).alloc (.cells #[.bool false,.int .i64 0,.slice none 0 0] 26)=W at hX hR hB P9;have A2:w.heap.size+1<W.heap.size:=by omega
 clear P9;obtain ⟨m5,R4,Z3⟩:=hX.cc;have C4:=Q5a n a l c L e W (h.step hB) (hT.step hB) hl he Q6;have HR:=Xh4 hR hB C4 A2;clear hX hR hB C4 h hT A2
 go_enter Tryz.func312,Tryz.ntmps312
 go_wp2_with (refine (Xo2 HR).mono ?_;rintro r w1 ⟨n',e',a',l',c',L',er,rfl,B7,O2,C0⟩;have x6:=(Xo0 HR).step C0 (Xe3 HR);obtain ⟨rc0,rc1,rc2,rf0,rf1,rf2⟩:=x6.cf;have rd1:=x6.d1 (.bool n');have rd2:=x6.d2 (.bool n') (.int .i64 e');have HM:=Xh4 B7 O2 x6 (Below.next0 (Xo1 HR) C0);clear B7 O2 x6 C0)
 have hS:=(Xo2 HM).store (.bool n') (.int .i64 e') (.slice a' l' c');obtain ⟨k0,k1,k2⟩:=hS.cc;have Q3:=Q03.below (Xe3 HM) (show w.heap.size<=w.heap.size+1 by omega) (.bool n') (.int .i64 e') (.slice a' l' c');have G4:=(Xo1 HM);have V8:WordsIn _ a' l' c' L':=⟨G4.len,G4.cap,G4.most,G4.low,(G4.rd.store3 (Xo2 HM) (fun _=>by simp[nv]) (fun _=>by simp[nv]) (fun _=>by simp[nv]) (.bool n') (.int .i64 e') (.slice a' l' c')).more (Q1i _ _ _ _ _)⟩;exact ⟨rfl,.tuple #[.agg #[.bool n',.int .i64 e',.slice a' l' c'],.int .i64 er],by simp[results,go_sem,k0,k1,k2],n',e',a',l',c',L',er,rfl,Q81 (Xo0 HM),(G4.lower (Xo1 HR).size).on V8,Q3⟩
theorem Qpj {v:Nat} (h:v<18446744073709551616):Q44 (dy (sgn false v) 0):=by
 by_cases h0:v=0
 ·subst h0;exact .inl rfl
 ·obtain ⟨z,hz⟩:=Qhm h0;have hz64:z<64:=by
   refine TI fun G5=>?_;have h3:2^64<=2^z:=UO (by decide) G5;have h5:=hz.1;rw[Xal (Uc h h3)] at h5;exact h0 h5
  have hb:v / 2^z<(2^64)^64:=TS (Xbt _ _) (Uc h (show 2^64<=(2^64)^64 from Nat.le_self_pow (by decide) _));rw[<-Qrt hz,Q5t hz.2];exact ⟨hb,by omega,by omega⟩
theorem Qat (v:Nat) (w:World) (hv:v<9223372036854775808) (hT:Q1s w):
 Calls Tryz.prog 113 #[.int .i64 (v:Int)] w fun r w'=>∃n' e' a' l' c' L,r=.returned (.agg #[.bool n',.int .i64 e',.slice a' l' c'])/\Q0a n' e' L/\Q1p n' e' L=dy (v:Int) 0/\Q2n w w' a' l' c' L/\Bw w w':=by
 have x5:¬(v:Int)<0:=by omega
 have i8:(v:Int)<18446744073709551616:=by omega
 have X1:∀o,Bw w (w.alloc o):=fun o=>Ba;have A3:(w.alloc (.cells #[.bool false,.int .i64 0,.slice none 0 0] 26)).heap.size=w.heap.size+1:=Ui _ _;have JT:=Qst (w.alloc (.cells #[.bool false,.int .i64 0,.slice none 0 0] 26)) v (by omega) 83;have D0:Below (w.alloc (.cells #[.bool false,.int .i64 0,.slice none 0 0] 26)).heap.size (w.alloc (.cells #[.bool false,.int .i64 0,.slice none 0 0] 26)) ((w.alloc (.cells #[.bool false,.int .i64 0,.slice none 0 0] 26)).alloc (.cells #[.int .u64 (v:Int)] 83)):=Ba;have hR:=(Q03.new w (.bool false) (.int .i64 0) (.slice none 0 0) 26).step D0 (Q0h _ _);have A2:=Uc (Q0h w (.cells #[.bool false,.int .i64 0,.slice none 0 0] 26)) D0.size;have hB:=Below.next0 (X1 _) D0;rw[A3] at JT;generalize hW:(w.alloc (.cells #[.bool false,.int .i64 0,.slice none 0 0] 26)).alloc (.cells #[.int .u64 (v:Int)] 83)=W at JT hR hB A2;have C4:=Q5a false (some ⟨w.heap.size+1,0,none⟩) 1 1 [v] 0 W JT (hT.step hB) (by decide) (by decide) (by decide);have HR:=Xh4 hR hB C4 A2;clear X1 A3 JT D0 hR A2 hB C4 hT
 go_enter Tryz.func113,Tryz.ntmps113
 go_wp2_with (refine (Xo2 HR).mono ?_;rintro r w1 ⟨n',e',a',l',c',L',er,rfl,B7,O2,C0⟩;have O4:Bw w1 (w1.alloc (.cells #[.bool n',.int .i64 e',.slice a' l' c'] 26)):=Ba;have hX:=Q03.new w1 (.bool n') (.int .i64 e') (.slice a' l' c') 26;obtain ⟨xc0,xc1,xc2⟩:=hX.cc;have x6:=((Xo0 HR).step C0 (Xe3 HR)).step O4 (Uc (Xe3 HR) C0.size);obtain ⟨rc0,rc1,rc2,rf0,rf1,rf2⟩:=x6.cf;have rd1:=x6.d1 (.bool n');have rd2:=x6.d2 (.bool n') (.int .i64 e');have HM:=Xh4 B7 (O2.on (O2.step O4)) x6 (Below.next0 (Below.next0 (Xo1 HR) C0) O4);clear B7 O2 x6 C0 O4 hX)
 have hS:=(Xo2 HM).store (.bool n') (.int .i64 e') (.slice a' l' c');obtain ⟨k0,k1,k2⟩:=hS.cc;have Q3:=Q03.below (Xe3 HM) (Ue w.heap.size) (.bool n') (.int .i64 e') (.slice a' l' c');have G4:=(Xo1 HM);have V8:WordsIn _ a' l' c' L':=⟨G4.len,G4.cap,G4.most,G4.low,(G4.rd.store3 (Xo2 HM) (fun _=>by simp[nv]) (fun _=>by simp[nv]) (fun _=>by simp[nv]) (.bool n') (.int .i64 e') (.slice a' l' c')).more (Q1i _ _ _ _ _)⟩;have t7:=Q81 (Xo0 HM);rw[Qyi] at t7;obtain ⟨_,_,o8,YT⟩|⟨E5,_⟩:=t7
 ·exact ⟨rfl,.agg #[.bool n',.int .i64 e',.slice a' l' c'],by simp[results,go_sem,k0,k1,k2],n',e',a',l',c',L',rfl,o8,YT,(G4.lower (Xo1 HR).size).on V8,Q3⟩
 ·exact absurd (Qpj (by omega)) E5
end Go.Proofs.YtidojbkhlenahaaGreatDoor
