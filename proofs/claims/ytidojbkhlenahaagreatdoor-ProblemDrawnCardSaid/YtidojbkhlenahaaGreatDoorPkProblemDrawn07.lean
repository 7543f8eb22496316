/- Part 7. No condition. -/
import Derived.Test.YtidojbkhlenahaaGreatDoorPkProblemDrawn06
set_option maxRecDepth 100000
set_option maxHeartbeats 16000000
namespace Go.Proofs.YtidojbkhlenahaaGreatDoor
open Go.RowKit WordsM
theorem Qh3 {B:Nat} {L A:LN} {k i s x y lo hi:Nat} (hL:val B L=val B (A.take i)*(B^k*2^s)) (hx:A[i]?=some x) (hy:L[k+i]?=some y) (h0:L[k+i+1]?=some 0)
 (hp:x*2^s=lo+B*hi):val B ((L.set (k+i) (y+lo)).set (k+i+1) hi)=val B (A.take (i+1))*(B^k*2^s):=by
 have h1:=Q9z (B:=B) L (k+i) (y+lo) y hy;have h2:=Q9z (B:=B) (L.set (k+i) (y+lo)) (k+i+1) hi 0 (by rw[Te (by omega)];exact h0);rw[Q1i A i x hx,Tj,<-hL];have e1:B^i*x*(B^k*2^s)=lo*B^(k+i)+hi*B^(k+i+1):=by
  have e2:B^i*x*(B^k*2^s)=(x*2^s)*B^(k+i):=by
   rw[To,UB (B^i) x,UJ x,<-UJ (B^i),UB (B^i),UJ (B^k),UB (B^i),<-UJ (B^k),UB (B^k) (2^s),UJ (2^s),<-UJ x]
  rw[e2,hp,Tj,Tb,UB B hi,UJ hi,UB B]
 rw[Tj] at h1;omega
theorem Qvn {s t x y:Nat} (R0:s+t=32) (hx:x<2^32) (hy:y<2^s):y |||x*2^s%2^32=y+x*2^s%2^32/\y+x*2^s%2^32<2^32/\x*2^s / 2^32<2^s:=by
 have e:(2:Nat)^32=2^t*2^s:=by rw[<-To,<-R0,Xbf]
 have e2:x*2^s%2^32=2^s*(x%2^t):=by rw[e,Nat.mul_mod_mul_right,UB]
 have hm:x%2^t<2^t:=TH _ (Tn (by decide));have x5:2^s*(x%2^t+1)<=2^s*2^t:=Xaf _ hm;rw[Tt,Nat.mul_one,UB (2^s) (2^t),<-e] at x5;refine ⟨?_,?_,?_⟩
 ·rw[e2,Nat.or_comm,<-Nat.two_pow_add_eq_or_of_lt hy,Xbf]
 ·rw[e2];omega
 ·rw[UB];exact TV (by rw[UB (2^32)];exact Nat.mul_lt_mul_of_pos_left hx (Tn (by decide)))
theorem Qc5 (a:OA) (n c:Nat) (v z:Nat) (w:World) (h:Q0v w a n c v) (hn:n<=1000000) (hz:z<=100000000):
 Calls Tryz.prog 206 #[.slice a n c,.int .i64 (z:Int)] w fun e w'=>∃a' n',e=.returned (.slice a' n' n')/\n'<=n+z / 32+1/\Q0v w' a' n' n' (v*2^z)/\Bw w w':=by
 have hv:val (2^32) (dig (2^32) v)=v:=Q10 (by decide) v;have hl:=Q29 (B:=2^32) (by decide) v;have o6:=h.len;have hr:=h.rd;obtain ⟨A,hA⟩:∃A,dig (2^32) v=A:=⟨_,rfl⟩;rw[hA] at hv hl o6 hr;subst o6
 by_cases h0:A.length=0
 ·have C9:A=[]:=UC.1 h0;have M7:v=0:=by rw[<-hv,C9];rfl
  rw[M7,TQ,h0]
  go_enter Tryz.func206,Tryz.ntmps206
  go_wp2_with fail
  go_ret;exact ⟨none,0,rfl,Uv _,Q0v.nil_ w,Ud _ _⟩
 have h0':¬((A.length:Int)=0):=by omega
 have h0b:((A.length:Int)==0)=false:=by rw[Uk];exact h0'
 obtain ⟨k,hk⟩:∃k,z / 32=k:=⟨_,rfl⟩;obtain ⟨s,hs⟩:∃s,z%32=s:=⟨_,rfl⟩;have WJ:s<32:=by omega
 have Ks:z=32*k+s:=by omega
 have XY:(z:Int).tdiv 32=(k:Int):=by rw[Int.tdiv_eq_ediv_of_nonneg (by omega)];omega
 have hsI:(z:Int).tmod 32=(s:Int):=by rw[Int.tmod_eq_emod_of_nonneg (by omega)];omega
 have hkI2:(z:Int) / 32=(k:Int):=by omega
 have Yx:(z:Int)%32=(s:Int):=by omega
 have hzv:v*2^z=v*((2^32)^k*2^s):=by rw[Ks,To,TW]
 rw[hzv,hk];have j4:=Xa2 (P:=Tryz.prog) 85 150 (.int .u32 0) 4 Tryz.underlying85 Q6g rfl .i64 .i64 (k+A.length+1) (by omega) (by omega);rw[show ((k+A.length+1:Nat):Int)=(k:Int)+(A.length:Int)+1 by omega,Q2n] at j4;have H:=Xh3 hv hl hr;clear hv hl hr hA h hk hs hzv Ks h0
 go_enter Tryz.func206,Tryz.ntmps206
 go_wp2_with fail
 have M2:Bw w (w.alloc (.cells (Array.replicate (k+A.length+1) (nv .u32 0)) 150)):=Ba;have C9:=Arr.zeros w 150 .u32 (k+A.length+1);have H0:=Xh2 M2 C9;clear M2 C9 j4
 go_loopw [6] (fun iv wr=>∃(i:Nat) (L:LN),iv=.int .i64 (i:Int)/\i<=A.length/\Arr 150 .u32 wr w.heap.size L/\L.length=k+A.length+1/\Low (2^32) L/\val (2^32) L=val (2^32) (A.take i)*((2^32)^k*2^s)/\(∀t,k+i<t->t<k+A.length+1->L[t]?=some 0)/\(∃y,L[k+i]?=some y/\y<2^s)/\Bw w wr) (fun iv _=>A.length-(intOf iv).toNat)
 case atStart=>
  refine ⟨0,List.replicate (k+A.length+1) 0,rfl,Uv _,(Xe1 H0),by simp,fun x hx=>?_,by rw[Q77];simp[val],fun t _ ht=>?_,⟨0,?_,Tn (by decide)⟩,(Xo0 H0)⟩
  ·rw[Xae hx];decide
  ·rw[TM];simp[ht]
  ·rw[TM,Uu (by omega)]
 case round=>
  obtain ⟨i,L,rfl,hi,hL,F5,X0,N0,M4,⟨y,hy,WU⟩,Y0⟩:=hrel
  by_cases F0:i<A.length
  ·have G0:(i:Int)<(A.length:Int):=(by omega);obtain ⟨x,hx⟩:∃x,A[i]?=some x:=⟨_,Ub F0⟩;obtain ⟨ba,oa,j5,Q1,Y4⟩:=((Xe2 H).below Y0).at_ hx;have B4:x<4294967296:=(Xo1 H) x (Ug hx);have Qk:y<4294967296:=X0 y (Ug hy);subst j5;obtain ⟨U8,XJ,Qh⟩:=Qvn (s:=s) (t:=32-s) (x:=x) (y:=y) (by omega) B4 WU;have YP:=M4 (k+i+1) (by omega) (by omega);have WL:x*2^s<18446744073709551616:=by
    have h1:x*2^s<=x*2^32:=Xaf _ (UN (by decide) (by omega));have h2:x*2^32<2^32*2^32:=TJ B4 (by decide);exact TP h1 h2
   have Z1:=fun lo hi (hp:x*2^s=lo+2^32*hi)=>Qh3 (lo:=lo) (hi:=hi) N0 hx hy YP hp;obtain ⟨p,hp⟩:∃p,x*2^s=p:=⟨_,rfl⟩;have hpI:(x:Int)*2^s=(p:Int):=(by rw[<-hp];norm_cast);rw[hp] at U8 XJ Qh WL Z1;have B6:=Qon p WL;obtain ⟨lo,E5⟩:∃lo,p%4294967296=lo:=⟨_,rfl⟩;obtain ⟨QE,Qc⟩:∃hi,p / 4294967296=hi:=⟨_,rfl⟩;rw[E5] at B6;have Qj:lo<4294967296:=(by omega);have hhil:QE<4294967296:=(by omega);have hhiI:(p:Int) / 4294967296=(QE:Int):=(by omega);rw[show p%2^32=lo from E5] at U8 XJ;rw[show p / 2^32=QE from Qc] at Qh;have R0:=Z1 lo QE (by omega);have ho32:=u32_or_nat y lo Qk Qj;rw[U8] at ho32;obtain ⟨q,hq⟩:∃q,y+lo=q:=⟨_,rfl⟩;rw[hq] at ho32 XJ R0;have YV:wr.cell? ⟨w.heap.size,k+i,none⟩=some (.int .u32 (y:Int)):=hL.cell hy;have YA:wr.frozen? ⟨w.heap.size,k+i,none⟩=false:=hL.frozen _;have ZS:=hL.set (k+i) q;have Xz:(L.set (k+i) q)[k+i+1]?=some 0:=(by rw[Te (by omega)];exact YP);have hzc1:=ZS.cell Xz;have hzf1:(wr.setCell ⟨w.heap.size,k+i,none⟩ (.int .u32 (q:Int))).frozen? ⟨w.heap.size,k+i+1,none⟩=false:=ZS.frozen _;have Vq:=ZS.set (k+i+1) QE;have hki:(k:Int)+(i:Int)<(k:Int)+(A.length:Int)+1:=(by omega);have hki1:(k:Int)+(i:Int)+1<(k:Int)+(A.length:Int)+1:=(by omega);have HH:=Xh6 R0 Vq X0 Y0 M4 Qh;clear R0 hL ZS Vq X0 N0 Y0 M4 E5 Qc hp hx hy YP Z1 U8 Xz Qh hq
   go_wp2_with fail
   refine ⟨⟨i+1,(L.set (k+i) q).set (k+i+1) QE,by simp,by omega,(Xo1 HH),by simp[F5],Q43 (Q43 (Xo2 HH) XJ) hhil,(Xo0 HH),fun t I3 X2=>?_,⟨QE,?_,(Xe5 HH)⟩,((Xo3 HH).setCell (p:=⟨w.heap.size,k+i,none⟩) (Ue _) _).setCell (p:=⟨w.heap.size,k+i+1,none⟩) (Ue _) _⟩,by simp only[intOf];omega⟩
   ·rw[Te (by omega),Te (by omega)];exact (Xo4 HH) t (by omega) X2
   ·rw[show k+(i+1)=k+i+1 by omega,TI (by rw[Ti];omega)]
  ·obtain rfl:i=A.length:=(by omega);have G0:¬((A.length:Int)<(A.length:Int)):=(by omega);rw[Tw,(Xo0 H)] at N0;have hT:=Q53 (some ⟨w.heap.size,0,none⟩) (k+A.length+1) (k+A.length+1) L wr F5 (Ue _) (by omega) hL.rd X0;rw[N0] at hT;have HE:=Xh2 hT Y0;clear hT Y0 N0 hL X0 M4
   go_wp2_with (refine (Xo0 HE).mono ?_;rintro e w1 ⟨n',rfl,ZT,hD,rfl⟩;have Zb:=Xh2 hD ZT;clear hD ZT)
   go_ret;exact ⟨_,n',rfl,by have:=(Xe1 Zb);omega,(Xo0 Zb),(Xe1 HE)⟩
theorem Qpw {s t x y:Nat} (R0:s+t=64) (hx:x<2^64) (hy:y<2^s):y |||x*2^s%2^64=y+x*2^s%2^64/\y+x*2^s%2^64<2^64/\x*2^s / 2^64<2^s/\x / 2^t=x*2^s / 2^64:=by
 have e:(2:Nat)^64=2^t*2^s:=by rw[<-To,<-R0,Xbf]
 have e2:x*2^s%2^64=2^s*(x%2^t):=by rw[e,Nat.mul_mod_mul_right,UB]
 have hm:x%2^t<2^t:=TH _ (Tn (by decide));have x5:2^s*(x%2^t+1)<=2^s*2^t:=Xaf _ hm;rw[Tt,Nat.mul_one,UB (2^s) (2^t),<-e] at x5;refine ⟨?_,?_,?_,?_⟩
 ·rw[e2,Nat.or_comm,<-Nat.two_pow_add_eq_or_of_lt hy,Xbf]
 ·rw[e2];omega
 ·rw[UB];exact TV (by rw[UB (2^64)];exact Nat.mul_lt_mul_of_pos_left hx (Tn (by decide)))
 ·rw[e,Nat.mul_div_mul_right _ _ (Tn (by decide))]
theorem Qc6 (a:OA) (n c:Nat) (ls:LN) (z:Nat) (w:World) (h:WordsIn w a n c ls) (hn:n<=1000000) (hz:z<=100000000):
 Calls Tryz.prog 150 #[.slice a n c,.int .i64 (z:Int)] w (Q8z w (val (2^64) ls*2^z)):=by
 have P2:=h.len;have H1:=Ua h;clear h;have J6:=trim_len ls
 by_cases h0:(trimL ls).length=0
 ·have C9:trimL ls=[]:=UC.1 h0;have M7:val (2^64) ls=0:=by rw[<-Q1c,C9];rfl
  rw[M7,TQ];have h0I:((trimL ls).length:Int)=0:=by omega
  have h0b:(((trimL ls).length:Int)==0)=true:=by rw[beq_iff_eq];exact h0I
  go_enter Tryz.func150,Tryz.ntmps150
  go_wp2_with (refine (Q1e a n c ls _ H1.out).mono ?_;rintro e w1 ⟨rfl,C0⟩;have I0:=Ua C0;clear C0)
  go_ret;exact ⟨none,0,0,rfl,WordsIn.nil_ _,I0.out⟩
 have h0I:¬((trimL ls).length:Int)=0:=by omega
 have h0b:(((trimL ls).length:Int)==0)=false:=by rw[Uk];exact h0I
 obtain ⟨k,hk⟩:∃k,z / 64=k:=⟨_,rfl⟩;obtain ⟨s,hs⟩:∃s,z%64=s:=⟨_,rfl⟩;have Wa:s<64:=by omega
 have Ks:z=64*k+s:=by omega
 have XY:(z:Int).tdiv 64=(k:Int):=by rw[Int.tdiv_eq_ediv_of_nonneg (by omega)];omega
 have hsI:(z:Int).tmod 64=(s:Int):=by rw[Int.tmod_eq_emod_of_nonneg (by omega)];omega
 have hkI2:(z:Int) / 64=(k:Int):=by omega
 have Yx:(z:Int)%64=(s:Int):=by omega
 have hsub:(64:Int)-(s:Int)=((64-s:Nat):Int):=by omega
 have hzv:val (2^64) ls*2^z=val (2^64) (trimL ls)*((2^64)^k*2^s):=by rw[Q1c,Ks,To,TW]
 rw[hzv];obtain ⟨A,hA⟩:∃A,trimL ls=A:=⟨_,rfl⟩;have hT:=fun W (hb:Bw w W)=>(H1.out.step hb).trim;rw[hA] at J6 h0I h0b hT⊢;have j4:=Xa2 (P:=Tryz.prog) 24 83 (.int .u64 0) 8 Tryz.underlying24 Q4s rfl .i64 .i64 (A.length+k+1) (by omega) (by omega);rw[show ((A.length+k+1:Nat):Int)=(A.length:Int)+(k:Int)+1 by omega,Q2n] at j4;have HT:=Ua hT;have hcut:=fun W hb=>Q1e a n c ls W (H1.out.step hb);rw[hA] at hcut;have HC:=Ua hcut;clear hT hk hs hzv Ks h0 hA hcut
 go_enter Tryz.func150,Tryz.ntmps150
 go_wp2_with (refine (HC.out _ (Ud _ _)).mono ?_;rintro e w1 ⟨rfl,C0⟩;have I0:=Ua C0;clear C0)
 have R1:=HT.out w1 I0.out;have F7:=R1.low;have R7:=R1.rd;have M2:Bw w1 (w1.alloc (.cells (Array.replicate (A.length+k+1) (nv .u64 0)) 83)):=Ba;have C9:=Arr.zeros w1 83 .u64 (A.length+k+1);have H0:=Xh2 M2 C9;have H:=Xh2 F7 R7;clear M2 C9 j4 R1 F7 R7
 go_loopw [27] (fun iv wr=>∃(i:Nat) (L:LN),iv=.int .i64 (i:Int)/\i<=A.length/\Arr 83 .u64 wr w1.heap.size L/\L.length=A.length+k+1/\Low (2^64) L/\val (2^64) L=val (2^64) (A.take i)*((2^64)^k*2^s)/\(∀t,k+i<t->t<A.length+k+1->L[t]?=some 0)/\(∃y,L[k+i]?=some y/\y<2^s)/\Bw w1 wr) (fun iv _=>A.length-(intOf iv).toNat)
 case atStart=>
  refine ⟨0,List.replicate (A.length+k+1) 0,rfl,Uv _,(Xe1 H0),by simp,fun x hx=>?_,by rw[Q77];simp[val],fun t _ ht=>?_,⟨0,?_,Tn (by decide)⟩,(Xo0 H0)⟩
  ·rw[Xae hx];decide
  ·rw[TM];simp[ht]
  ·rw[TM,Uu (by omega)]
 case round=>
  obtain ⟨i,L,rfl,hi,hL,F5,X0,N0,M4,⟨y,hy,WU⟩,Y0⟩:=hrel
  by_cases F0:i<A.length
  ·have G0:(i:Int)<(A.length:Int):=(by omega);obtain ⟨x,hx⟩:∃x,A[i]?=some x:=⟨_,Ub F0⟩;obtain ⟨ba,oa,j5,Q1,Y4⟩:=((Xe1 H).below Y0).at_ hx;have B4:x<18446744073709551616:=(Xo0 H) x (Ug hx);have Qk:y<18446744073709551616:=X0 y (Ug hy);subst j5;obtain ⟨U8,Jz,Qh,hxt⟩:=Qpw (s:=s) (t:=64-s) (x:=x) (y:=y) (by omega) B4 WU;have YP:=M4 (k+i+1) (by omega) (by omega);have Z1:=fun lo hi (hp:x*2^s=lo+2^64*hi)=>Qh3 (lo:=lo) (hi:=hi) N0 hx hy YP hp;have Ke:((x:Int)*2^s)%18446744073709551616=((x*2^s%2^64:Nat):Int):=(by rw[Int.natCast_emod,Int.natCast_mul,Int.natCast_pow];rfl);have VH:(x:Int) / 2^(64-s)=((x / 2^(64-s):Nat):Int):=(by norm_cast);obtain ⟨p,hp⟩:∃p,x*2^s=p:=⟨_,rfl⟩;rw[hxt] at VH;rw[hp] at U8 Jz Qh Z1 Ke VH;obtain ⟨lo,E5⟩:∃lo,p%2^64=lo:=⟨_,rfl⟩;obtain ⟨QE,Qc⟩:∃hi,p / 2^64=hi:=⟨_,rfl⟩;have hpd:=Nat.mod_add_div p (2^64);rw[E5,Qc] at hpd;have R0:=Z1 lo QE hpd.symm;rw[E5] at U8 Jz Ke;rw[Qc] at Qh VH;have Qj:lo<18446744073709551616:=(by rw[<-E5];exact TH _ (by decide));have hhil:QE<18446744073709551616:=Nat.lt_trans Qh (Nat.pow_lt_pow_right (by decide) Wa);have ho64:=u64_or_nat y lo Qk Qj;rw[U8] at ho64;obtain ⟨q,hq⟩:∃q,y+lo=q:=⟨_,rfl⟩;rw[hq] at ho64 Jz R0;rw[Xbf k i] at R0 hy YP;have YV:wr.drew.cell? ⟨w1.heap.size,i+k,none⟩=some (.int .u64 (y:Int)):=hL.cell hy;have YA:wr.drew.frozen? ⟨w1.heap.size,i+k,none⟩=false:=hL.frozen _;have ZS:Arr 83 .u64 (wr.setCell ⟨w1.heap.size,i+k,none⟩ (.int .u64 (q:Int))).drew w1.heap.size (L.set (i+k) q):=Arr.set (w:=wr) hL (i+k) q;have Xz:(L.set (i+k) q)[i+k+1]?=some 0:=(by rw[Te (by omega)];exact YP);have hzc1:=ZS.cell Xz;have hzf1:(wr.setCell ⟨w1.heap.size,i+k,none⟩ (.int .u64 (q:Int))).drew.frozen? ⟨w1.heap.size,i+k+1,none⟩=false:=ZS.frozen _;have Vq:=ZS.set (i+k+1) QE;have hcx':wr.drew.cell? ⟨ba,oa+i,none⟩=some (.int .u64 (x:Int)):=Y4;have hki:(i:Int)+(k:Int)<(A.length:Int)+(k:Int)+1:=(by omega);have hki1:(i:Int)+(k:Int)+1<(A.length:Int)+(k:Int)+1:=(by omega);have hkia:(k:Int)+(i:Int)<(A.length:Int)+(k:Int)+1:=(by omega);have hkia1:(k:Int)+(i:Int)+1<(A.length:Int)+(k:Int)+1:=(by omega);have HH:=Xh6 R0 Vq X0 Y0 M4 Qh;clear R0 hL ZS Vq X0 N0 Y0 M4 E5 Qc hp hx hy YP Z1 U8 Xz Qh hq hpd hxt;have I2:bits .or .u64 (y:Int) (IntKind.u64.wrap ((x:Int)*2^s))=(q:Int):=by rw[IntKind.wrap_u64,Ke,ho64]
   go_wp2_with fail
   go_region
   go_wp2_with fail
   refine ⟨⟨i+1,(L.set (i+k) q).set (i+k+1) QE,by simp,by omega,(Xo1 HH),by simp[F5],Q43 (Q43 (Xo2 HH) Jz) hhil,(Xo0 HH),fun t I3 X2=>?_,⟨QE,?_,(Xe5 HH)⟩,((Xo3 HH).setCell (p:=⟨w1.heap.size,i+k,none⟩) (Ue _) _).drew.setCell (p:=⟨w1.heap.size,i+k+1,none⟩) (Ue _) _⟩,by simp only[intOf];omega⟩
   ·rw[Te (by omega),Te (by omega)];exact (Xo4 HH) t (by omega) X2
   ·rw[show k+(i+1)=i+k+1 by omega,TI (by rw[Ti];omega)]
  ·obtain rfl:i=A.length:=(by omega);have G0:¬((A.length:Int)<(A.length:Int)):=(by omega);rw[Tw] at N0;have hWL:WordsIn wr (some ⟨w1.heap.size,0,none⟩) (A.length+k+1) (A.length+k+1) L:=⟨F5,Ue _,by omega,X0,hL.rd⟩;have hT:=hWL.trim;rw[Q1r (by decide) X0,N0] at hT;have hC:=Q1e (some ⟨w1.heap.size,0,none⟩) (A.length+k+1) (A.length+k+1) L wr hWL;rw[Q1r (by decide) X0,N0] at hC;have HE:=Xh3 hC hT Y0;clear hT Y0 N0 hL X0 M4 hC hWL
   go_wp2_with (refine (Xo0 HE).mono ?_;rintro e w2 ⟨rfl,D0⟩;have E1:=Ua D0;clear D0)
   go_ret;exact ⟨_,_,_,rfl,(Xo1 HE).step E1.out,Below.next0 (Below.next0 I0.out (Xe2 HE)) E1.out⟩
theorem Qmt {B:Nat} {A K:LN} {i x S:Nat} (hx:A[i]?=some x) (h:S=val B (A.take i)*val B K+x*B^i*val B K):S=val B (A.take (i+1))*val B K:=by
 rw[Q1i A i x hx,h,Tj,UB x]
theorem Qmu {B V:Nat} {K:LN} {i j x y:Nat} (hy:K[j]?=some y):V+x*B^i*val B (K.take j)+x*y*B^(i+j)=V+x*B^i*val B (K.take (j+1)):=by
 rw[Q1i K j y hy,Tt,To,Nat.add_assoc]
 congr 2
 rw[UJ x (B^i),<-UJ (B^i) (B^j) y,UB (B^i*B^j) y];simp only[UJ]
theorem Qmv (a:OA) (n c:Nat) (ls:LN) (b:OA) (m d:Nat) (ks:LN) (w:World) (h1:WordsIn w a n c ls) (h2:WordsIn w b m d ks) (hn:n<=100000) (hm:m<=100000):
 Calls Tryz.prog 296 #[.slice a n c,.slice b m d] w (Q8z w (val (2^64) ls*val (2^64) ks)):=by
 have C6:=h1.len;have Z6:=h2.len;have H1:=Ua h1;have H2:=Ua h2;have I3:=trim_len ls;have X2:=trim_len ks;have D8:val (2^64) (trimL ls)=val (2^64) ls:=Q1c ls;have G9:val (2^64) (trimL ks)=val (2^64) ks:=Q1c ks;have J1:=fun W (hb:Bw w W)=>Q1e a n c ls W (h1.step hb);have I1:=fun W (hb:Bw w W)=>Q1e b m d ks W (h2.step hb);obtain ⟨A,hA⟩:∃A,trimL ls=A:=⟨_,rfl⟩;obtain ⟨K,hK⟩:∃K,trimL ks=K:=⟨_,rfl⟩;have S4:=fun W (hb:Bw w W)=>(h1.step hb).trim;have Z4:=fun W (hb:Bw w W)=>(h2.step hb).trim;rw[hA] at I3 D8 J1 S4;rw[hK] at X2 G9 I1 Z4;rw[<-D8,<-G9];have HC:=Xh2 J1 I1;have HW:=Xh2 S4 Z4;clear hA hK D8 G9 J1 I1 S4 Z4 h1 h2 H1 H2
 by_cases h0:A.length=0∨K.length=0
 ·have hz:val (2^64) A*val (2^64) K=0:=by
   rcases h0 with h0|h0
   ·rw[UC.1 h0];simp[val]
   ·rw[UC.1 h0];simp[val]
  have HZ:=Ua hz;rw[hz];clear hz
  by_cases C9:A.length=0
  ·have hA0':((A.length:Int)==0)=true:=by simp[C9]
   go_enter Tryz.func296,Tryz.ntmps296
   go_wp2_with (first
    |(go_at_call_of 144 a;refine ((Xo0 HC) _ (Ud _ _)).mono ?_;rintro e w1 ⟨rfl,C0⟩;have I0:=Ua C0;clear C0)
    |(go_at_call_of 144 b;refine ((Xe1 HC) _ I0.out).mono ?_;rintro e w2 ⟨rfl,D0⟩;have E1:=Ua (Below.next0 I0.out D0);clear D0))
   go_ret;exact ⟨none,0,0,rfl,⟨rfl,Ue _,Uv _,fun x hx=>by simp[Q14] at hx,.inl rfl⟩,E1.out⟩
  ·have hK0:K.length=0:=(by omega);have hA0':((A.length:Int)==0)=false:=(by rw[Uk];omega);have hK0':((K.length:Int)==0)=true:=by simp[hK0]
   go_enter Tryz.func296,Tryz.ntmps296
   go_wp2_with (first
    |(go_at_call_of 144 a;refine ((Xo0 HC) _ (Ud _ _)).mono ?_;rintro e w1 ⟨rfl,C0⟩;have I0:=Ua C0;clear C0)
    |(go_at_call_of 144 b;refine ((Xe1 HC) _ I0.out).mono ?_;rintro e w2 ⟨rfl,D0⟩;have E1:=Ua (Below.next0 I0.out D0);clear D0))
   go_ret;exact ⟨none,0,0,rfl,⟨rfl,Ue _,Uv _,fun x hx=>by simp[Q14] at hx,.inl rfl⟩,E1.out⟩
 have hA0':((A.length:Int)==0)=false:=by rw[Uk];omega
 have hK0':((K.length:Int)==0)=false:=by rw[Uk];omega
 have j4:=Xa2 (P:=Tryz.prog) 24 83 (.int .u64 0) 8 Tryz.underlying24 Q4s rfl .i64 .i64 (A.length+K.length) (by omega) (by omega);rw[show ((A.length+K.length:Nat):Int)=(A.length:Int)+(K.length:Int) by omega,Q2n] at j4
 go_enter Tryz.func296,Tryz.ntmps296
 go_wp2_with (first
  |(go_at_call_of 144 a;refine ((Xo0 HC) _ (Ud _ _)).mono ?_;rintro e w1 ⟨rfl,C0⟩;have I0:=Ua C0;clear C0)
  |(go_at_call_of 144 b;refine ((Xe1 HC) _ I0.out).mono ?_;rintro e wc ⟨rfl,D0⟩;have E1:=Ua (Below.next0 I0.out D0);clear D0))
 have M2:Bw wc (wc.alloc (.cells (Array.replicate (A.length+K.length) (nv .u64 0)) 83)):=Ba;have C9:=Arr.zeros wc 83 .u64 (A.length+K.length);have WM:=Xh2 ((Xo0 HW) wc E1.out) ((Xe1 HW) wc E1.out);have H0:=Xh2 M2 C9;clear M2 C9 j4 h0 HW HC
 go_loopw [34] (fun iv wr=>∃(i:Nat) (L:LN),iv=.int .i64 (i:Int)/\i<=A.length/\Arr 83 .u64 wr wc.heap.size L/\L.length=A.length+K.length/\Low (2^64) L/\val (2^64) L=val (2^64) (A.take i)*val (2^64) K/\(∀t,i+K.length<=t->t<A.length+K.length->L[t]?=some 0)/\Bw wc wr) (fun iv _=>A.length-(intOf iv).toNat)
 case atStart=>
  refine ⟨0,List.replicate (A.length+K.length) 0,rfl,Uv _,(Xe1 H0),by simp,fun x hx=>?_,by rw[Q77];simp[val],fun t _ ht=>?_,(Xo0 H0)⟩
  ·rw[Xae hx];decide
  ·rw[TM];simp[ht]
 case round=>
  obtain ⟨i,L,rfl,hi,hL,F5,X0,N0,M4,Y0⟩:=hrel
  by_cases F0:i<A.length
  ·have G0:(i:Int)<(A.length:Int):=(by omega);obtain ⟨x,hx⟩:∃x,A[i]?=some x:=⟨_,Ub F0⟩;obtain ⟨ba,oa,j5,Q1,Y4⟩:=((Xo0 WM).rd.below Y0).at_ hx;have B4:x<18446744073709551616:=(Xo0 WM).low x (Ug hx);subst j5;have HH:=Xh6 hL X0 N0 Y0 hx M4;clear hL X0 N0 Y0 M4 hx
   go_wp2_with fail
   go_loopw [8,41] (fun cv jv wr=>∃(j cr:Nat) (L:LN),cv=.int .u64 (cr:Int)/\jv=.int .i64 (j:Int)/\j<=K.length/\cr<18446744073709551616/\Arr 83 .u64 wr wc.heap.size L/\L.length=A.length+K.length/\Low (2^64) L/\val (2^64) L+cr*(2^64)^(i+j)=val (2^64) (A.take i)*val (2^64) K+x*(2^64)^i*val (2^64) (K.take j)/\(∀t,i+K.length<=t->t<A.length+K.length->L[t]?=some 0)/\Bw wc wr) (fun _ jv _=>K.length-(intOf jv).toNat)
   case atStart=>exact ⟨0,0,L,rfl,rfl,Uv _,by decide,(Xo0 HH),F5,(Xo1 HH),by rw[(Xo2 HH)];simp[val],(Xe5 HH),(Xo3 HH)⟩
   case round=>
    have HX:=Ua (Xo4 HH);clear F5 HH;obtain ⟨j,cr,L,rfl,rfl,hj,Ql,hL,F5,X0,N0,M4,Y0⟩:=hrel
    by_cases hlj:j<K.length
    ·have hlj':(j:Int)<(K.length:Int):=(by omega);obtain ⟨y,hy⟩:∃y,K[j]?=some y:=⟨_,Ub hlj⟩;obtain ⟨z,hz⟩:∃z,L[i+j]?=some z:=⟨_,Ub (by omega)⟩;obtain ⟨bb,ob,X7,C3,QV⟩:=((Xe1 WM).rd.below Y0).at_ hy;have Qk:y<18446744073709551616:=(Xe1 WM).low y (Ug hy);have j8:z<18446744073709551616:=X0 z (Ug hz);subst X7;have V5:=Qkt (B:=18446744073709551616) (by decide) B4 Qk j8 Ql;have R0:=Qb0 (B:=2^64) (b:=x*y) (c:=cr) hz N0;rw[Qmu hy] at R0;rw[show (z+x*y+cr)%2^64=((x*y%18446744073709551616+z)%18446744073709551616+cr)%18446744073709551616 from V5.1.symm,show (z+x*y+cr) / 2^64=x*y / 18446744073709551616+(x*y%18446744073709551616+z) / 18446744073709551616+((x*y%18446744073709551616+z)%18446744073709551616+cr) / 18446744073709551616 from V5.2.1.symm] at R0;have KJ:=V5.2.2;rw[<-V5.2.1] at KJ;have hmul:=fun W=>Tryz.J12 x y B4 Qk W;have Qj:x*y%18446744073709551616<18446744073709551616:=TH _ (by decide);generalize x*y%18446744073709551616=lo at*;generalize x*y / 18446744073709551616=hi at*;have hadd1:∀W,(callFunc 256 #[.int .u64 (lo:Int),.int .u64 (z:Int),.int .u64 0]).run Tryz.prog W=.ok (.value (.tuple #[.int .u64 (((lo+z)%18446744073709551616:Nat):Int),.int .u64 (((lo+z) / 18446744073709551616:Nat):Int)])) W:=fun W=>Q8y lo z 0 Qj j8 (by decide) W;have C6:(lo+z)%18446744073709551616<18446744073709551616:=TH _ (by decide);generalize (lo+z)%18446744073709551616=lo1 at*;generalize (lo+z) / 18446744073709551616=m1 at*;have hadd2:∀W,(callFunc 256 #[.int .u64 (lo1:Int),.int .u64 (cr:Int),.int .u64 0]).run Tryz.prog W=.ok (.value (.tuple #[.int .u64 (((lo1+cr)%18446744073709551616:Nat):Int),.int .u64 (((lo1+cr) / 18446744073709551616:Nat):Int)])) W:=fun W=>Q8y lo1 cr 0 C6 Ql (by decide) W;have Z6:(lo1+cr)%18446744073709551616<18446744073709551616:=TH _ (by decide);generalize (lo1+cr)%18446744073709551616=lo2 at*;generalize (lo1+cr) / 18446744073709551616=m2 at*;have YV:wr.cell? ⟨wc.heap.size,i+j,none⟩=some (.int .u64 (z:Int)):=hL.cell hz;have YA:wr.frozen? ⟨wc.heap.size,i+j,none⟩=false:=hL.frozen _;have Vv:(i:Int)+(j:Int)<(A.length:Int)+(K.length:Int):=(by omega);have HM:=Ua hmul;have HH:=Xh5 R0 hL X0 Y0 M4;clear hmul R0 hL X0 N0 Y0 M4 V5 hy hz
     go_wp2_with (refine (HM.out _).mono ?_;rintro e w5 ⟨rfl,rfl⟩)
     refine ⟨⟨j+1,hi+m1+m2,L.set (i+j) lo2,by simp,by simp,by omega,KJ,(Xo1 HH).set (i+j) lo2,by simp[F5],Q43 (Xo2 HH) Z6,(Xo0 HH),fun t I3 X2=>?_,(Xo3 HH).setCell (p:=⟨wc.heap.size,i+j,none⟩) (Ue _) _⟩,by simp only[intOf];omega⟩;rw[Te (by omega)];exact (Xe4 HH) t I3 X2
    ·obtain rfl:j=K.length:=(by omega);have hlj':¬((K.length:Int)<(K.length:Int)):=(by omega);have E2:=M4 (i+K.length) (Ue _) (by omega);have YV:wr.cell? ⟨wc.heap.size,i+K.length,none⟩=some (.int .u64 0):=hL.cell E2;have YA:wr.frozen? ⟨wc.heap.size,i+K.length,none⟩=false:=hL.frozen _;have Vv:(i:Int)+(K.length:Int)<(A.length:Int)+(K.length:Int):=(by omega);have A3:=Q9z (B:=2^64) L (i+K.length) cr 0 E2;rw[TQ,TD,N0,Tw] at A3;have hvo:=Qmt HX.out A3;have HH:=Xh5 hvo hL X0 Y0 M4;clear A3 hvo N0 hL X0 Y0 M4 E2
     go_wp2_with fail
     refine ⟨⟨i+1,L.set (i+K.length) cr,by simp,by omega,(Xo1 HH).set _ cr,by simp[F5],Q43 (Xo2 HH) Ql,(Xo0 HH),fun t I3 X2=>?_,(Xo3 HH).setCell (p:=⟨wc.heap.size,i+K.length,none⟩) (Ue _) _⟩,by simp only[intOf];omega⟩;rw[Te (by omega)];exact (Xe4 HH) t (by omega) X2
  ·obtain rfl:i=A.length:=(by omega);have G0:¬((A.length:Int)<(A.length:Int)):=(by omega);rw[Tw] at N0;have hW:WordsIn wr (some ⟨wc.heap.size,0,none⟩) (A.length+K.length) (A.length+K.length) L:=⟨F5,Ue _,by omega,X0,hL.rd⟩;have S7:Bw w wr:=Below.next0 E1.out Y0;have K7:trimL L=dig (2^64) (val (2^64) A*val (2^64) K):=(by rw[Q1r (by decide) X0,N0]);have HE:=Xh3 hW S7 K7;clear hW S7 K7 N0 hL X0 M4 Y0
   go_wp2_with (refine (Q1e _ _ _ _ _ (Xo0 HE)).mono ?_;rintro e w5 ⟨rfl,P0⟩;have A4:=Ua P0;clear P0)
   go_ret;have M3:=((Xo0 HE).step A4.out).trim;rw[(Xe2 HE)] at M3⊢;exact ⟨_,_,_,rfl,M3,Below.next0 (Xo1 HE) A4.out⟩
section
variable {w:World} {b g:Nat} {v0 v1 v2:Value}
theorem Q03.set0 (h:Q03 w b v0 v1 v2) (u:Value):Q03 (w.setCell ⟨b,0,none⟩ u) b u v1 v2:=
 ⟨UF _ _ _ (by rw[h.c0];rfl),(Uf _ _ _ _ (by simp)).trans h.c1,(Uf _ _ _ _ (by simp)).trans h.c2,(Us _ _ _ _).trans h.f0,(Us _ _ _ _).trans h.f1,(Us _ _ _ _).trans h.f2⟩
theorem Q03.set2 (h:Q03 w b v0 v1 v2) (u:Value):Q03 (w.setCell ⟨b,2,none⟩ u) b v0 v1 u:=
 ⟨(Uf _ _ _ _ (by simp)).trans h.c0,(Uf _ _ _ _ (by simp)).trans h.c1,UF _ _ _ (by rw[h.c2];rfl),(Us _ _ _ _).trans h.f0,(Us _ _ _ _).trans h.f1,(Us _ _ _ _).trans h.f2⟩
theorem Q03.far (h:Q03 w b v0 v1 v2) {p:Addr} (hp:p.block≠b) (u:Value):Q03 (w.setCell p u) b v0 v1 v2:=
 ⟨(Uf _ _ _ _ (fun e=>hp (by rw[e]))).trans h.c0,(Uf _ _ _ _ (fun e=>hp (by rw[e]))).trans h.c1,(Uf _ _ _ _ (fun e=>hp (by rw[e]))).trans h.c2,(Us _ _ _ _).trans h.f0,(Us _ _ _ _).trans h.f1,(Us _ _ _ _).trans h.f2⟩
theorem Q03.far3 (h:Q03 w b v0 v1 v2) (hg:g≠b) (u0 u1 u2:Value):Q03 (((w.setCell ⟨g,0,none⟩ u0).setCell ⟨g,1,none⟩ u1).setCell ⟨g,2,none⟩ u2) b v0 v1 v2:=
 ((h.far (p:=⟨g,0,none⟩) hg u0).far (p:=⟨g,1,none⟩) hg u1).far (p:=⟨g,2,none⟩) hg u2
theorem Qxj (w:World) (g:Nat) (u0 u1 u2:Value):(((w.setCell ⟨g,0,none⟩ u0).setCell ⟨g,1,none⟩ u1).setCell ⟨g,2,none⟩ u2).heap.size=w.heap.size:=by simp[Tk]
end
theorem Q3y (neg:Bool) (e:Int) (a:OA) (n c:Nat) (ls:LN) (w:World) (h:WordsIn w a n c ls) (hn:n<=1000000):
 Calls Tryz.prog 95 #[.agg #[.bool neg,.int .i64 e,.slice a n c]] w fun r w'=>r=.returned (.int .i64 (if val (2^64) ls=0 then 0 else if neg=true then -1 else 1))/\Bw w w':=by
 have Q0:Bw w (w.alloc (.cells #[.bool neg,.int .i64 e,.slice a n c] 26)):=Ba;have hN:=Q03.new w (.bool neg) (.int .i64 e) (.slice a n c) 26;have O2:=Q0o w (.cells #[.bool neg,.int .i64 e,.slice a n c] 26);have YL:=Qkx a n c ls _ (h.step Q0) (by omega);have Xa:=hN.c0;have K6:=hN.c2;have HB:=Xh4 YL hN O2 Q0;clear Q0 hN O2 YL h
 by_cases h0:val (2^64) ls=0
 ·rw[Uu h0];have H0:=Ua h0;clear h0
  go_enter Tryz.func95,Tryz.ntmps95
  go_wp2_with (refine (Xo0 HB).mono ?_;rintro r w1 ⟨⟨k,rfl,hk⟩,C0⟩;obtain rfl:k=0:=hk.2 H0.out;have I0:=Ua C0;clear C0 hk)
  go_ret;exact ⟨rfl,Below.next0 (Xe3 HB) I0.out⟩
 ·rw[Uq h0];have H0:=Ua h0;clear h0;cases neg
  all_goals
   go_enter Tryz.func95,Tryz.ntmps95
   go_wp2_with (refine (Xo0 HB).mono ?_;rintro r w1 ⟨⟨k,rfl,hk⟩,C0⟩;have hkb:((k:Int)==0)=false:=(by rw[Uk];intro e;exact H0.out (hk.1 (by omega)));have hki:¬(k:Int)=0:=(by intro e;exact H0.out (hk.1 (by omega)));have Y5:=((Xo1 HB).step C0 (Xo2 HB)).c0;have I0:=Ua C0;clear C0 hk)
   go_ret;exact ⟨rfl,Below.next0 (Xe3 HB) I0.out⟩
theorem Qh4 (neg:Bool) (e:Int) (a:OA) (n c:Nat) (w:World):
 Calls Tryz.prog 164 #[.agg #[.bool neg,.int .i64 e,.slice a n c]] w fun r w'=>r=.returned (.agg #[.bool false,.int .i64 e,.slice a n c])/\Bw w w':=by
 obtain ⟨F2,hX,hR,hB⟩:=Q89 w (.bool neg) (.int .i64 e) (.slice a n c) (.bool false) (.int .i64 0) (.slice none 0 0) 26 26;generalize hW:(w.alloc (.cells #[.bool neg,.int .i64 e,.slice a n c] 26)).alloc (.cells #[.bool false,.int .i64 0,.slice none 0 0] 26)=W at hX hR hB F2;have Y5:=hX.c0;have J8:=hX.f0;have JC:=hX.set0 (.bool false);obtain ⟨K5,Z3,Vf⟩:=JC.cc;have m7:=hR.far (p:=⟨w.heap.size,0,none⟩) (by show w.heap.size≠w.heap.size+1;omega) (.bool false);have Xf:=hB.setCell (p:=⟨w.heap.size,0,none⟩) (Ue _) (.bool false);obtain ⟨c0,c1,c2,f0,f1,f2⟩:=m7.cf;have d1:=m7.d1 (.bool false);have d2:=m7.d2 (.bool false) (.int .i64 e);have HR:=Xh2 (m7.store (.bool false) (.int .i64 e) (.slice a n c)) (Q03.below Xf (show w.heap.size<=w.heap.size+1 by omega) (.bool false) (.int .i64 e) (.slice a n c));clear hX hR hB JC m7 Xf F2
 go_enter Tryz.func164,Tryz.ntmps164
 go_wp2_with fail
 have k0:=(Xo0 HR).c0;have k1:=(Xo0 HR).c1;have k2:=(Xo0 HR).c2;refine ⟨rfl,.agg #[.bool false,.int .i64 e,.slice a n c],by simp[results,go_sem,k0,k1,k2],rfl,(Xe1 HR)⟩
structure Qxk (w wx:World) (D:Dyadic) (T lo hi:Int) (n1:Bool) (e1:Int) (a1:OA) (l1 c1:Nat) (L1:LN) (n2:Bool) (e2:Int) (a2:OA) (l2 c2:Nat) (L2:LN):Prop where
 b1:Q03 wx w.heap.size (.bool n1) (.int .i64 e1) (.slice a1 l1 c1)
 b2:Q03 wx (w.heap.size+1) (.bool n2) (.int .i64 e2) (.slice a2 l2 c2)
 br:Q03 wx (w.heap.size+2) (.bool false) (.int .i64 0) (.slice none 0 0)
 lt:w.heap.size+2<wx.heap.size
 w1:WordsIn w a1 l1 c1 L1
 w2:WordsIn w a2 l2 c2 L2
 le:e1<=e2
 v1:val (2^64) L1≠0
 v2:val (2^64) L2≠0
 s1:l1<=20000
 s2:l2<=20000
 lo1:lo<=e1
 hi2:e2<=hi
 rng:e2-e1<=2000000
 t1:64*(l1:Int)+e1<=T
 t2:64*(l2:Int)+e2<=T
 sum:Q2m n1 e1 L1+Q2m n2 e2 L2=D
 bel:Bw w wx
theorem Qfa {v K:Nat} (h:v<2^K):64*(dig (2^64) v).length<=K+63:=by
 have h1:v<(2^64)^((K+63) / 64):=Uc h (by rw[<-TW];exact UN (by decide) (by omega));have h2:=Q32 (B:=2^64) (by decide) h1;omega
theorem Q81 {L:LN} (h:Low (2^64) L):val (2^64) L<2^(64*L.length):=by
 have:=Q3d (B:=2^64) (by decide) L h;rwa[<-TW] at this
theorem Qsz (n:Bool) (A B:Nat):sgn n A+sgn n B=sgn n (A+B):=by
 cases n <;> simp[sgn] <;> omega
theorem Qh5 (n:Bool) (A B:Nat):sgn n A+sgn (!n) B=if B<=A then sgn n (A-B) else sgn (!n) (B-A):=by
 cases n <;> simp[sgn] <;> split <;> omega
theorem Qvo (n:Bool) (e1 e2:Int) (L:LN) (z:Nat) (h:e2-e1=(z:Int)):Q2m n e2 L=dy (sgn n (val (2^64) L*2^z)) e1:=by
 unfold Q2m;rw[show e2=e1+(z:Int) by omega,Q88,Q3i]
theorem Qfb (n:Bool) (e:Int) (v:Nat):Q2m n e (dig (2^64) v)=dy (sgn n v) e:=by
 unfold Q2m;rw[Q10 (by decide)]
theorem Qh6 (n:Bool) (e:Int) {L:LN} (h:val (2^64) L=0):Q2m n e L=0:=by
 unfold Q2m;rw[h,Q2z];rfl
theorem Qvp {A B l1 l2 z V:Nat} {e1 e2 T:Int} (hA:A<2^(64*l1)) (hB:B<2^(64*l2)) (hV:V<=A+B*2^z) (hz:e2-e1=(z:Int)) (t1:64*(l1:Int)+e1<=T) (t2:64*(l2:Int)+e2<=T):64*((dig (2^64) V).length:Int)+e1<=T+64:=by
 obtain ⟨K,ZX,hK2,hK3⟩:∃K:Nat,64*l1<=K/\64*l2+z<=K/\(K:Int)+e1<=T:=⟨max (64*l1) (64*l2+z),by omega,by omega,by omega⟩;have h1:A<2^K:=Uc hA (UN (by decide) ZX);have h2:B*2^z<2^K:=Uc (by rw[To];exact TJ hB (Tn (by decide))) (UN (by decide) hK2);have h3:V<2^(K+1):=by rw[Tb];omega
 have h4:=Qfa h3;omega
end Go.Proofs.YtidojbkhlenahaaGreatDoor
namespace Go.Proofs.YtidojbkhlenahaaGreatDoor
open Go.RowKit
section
variable {P:Program} {r:Nat} {Done:World->Prop} {V:Value->World->Prop} {w:World}
end
theorem Q03.turn {w w':World} {b g:Nat} {v0 v1 v2:Value} (h:Q03 w g v0 v1 v2) (ht:Q0l (·=b) w w') (hg:g<w.heap.size) (C1:g≠b):Q03 w' g v0 v1 v2:=
 ⟨(ht.cell (p:=⟨g,0,none⟩) hg C1).trans h.c0,(ht.cell (p:=⟨g,1,none⟩) hg C1).trans h.c1,(ht.cell (p:=⟨g,2,none⟩) hg C1).trans h.c2,(ht.frozen (p:=⟨g,0,none⟩) hg C1).trans h.f0,(ht.frozen (p:=⟨g,1,none⟩) hg C1).trans h.f1,(ht.frozen (p:=⟨g,2,none⟩) hg C1).trans h.f2⟩
theorem Qpx {l:List Oper} {cs:LV} {L:Nat->Option (Value->World->Prop)} (n:Nat) {φ:World->Prop} (hL:L n=some fun _ w=>φ w) (hl:(l.zipIdx.all fun p=>p.1.dst.isSome || decide (p.2=n))=true):
 ∀(i:Nat) o,l[i]?=some o->o.dst=none->∀v w,Q3q cs L i v w->Q3q cs L i undef w:=by
 intro i o hi hd v w hv;have hm:(o,i)∈l.zipIdx:=by
  rw[TO];simpa using hi
 have h1:=Ts.1 hl _ hm;simp only[hd,Option.isSome_none,Bool.false_or,TU] at h1;subst h1;exact (Q00 hL).2 ((Q00 hL).1 hv)
theorem Qjk {P:Program} {ops:Array Oper} {E:World->World->Prop} {o:Oper} {a:Act} {w:World} {V:Value->World->Prop} {j:Nat} {b:Bool} {t:Tmp} (hg:o.guard=some (j,b)) (ht:(ops[j]?).bind (·.dst)=some t) (he:a.eval (.tmp t)=undef) (h:V undef w):
 if Region.wanted o (yielded ops a.tmps) then Q1n P E V w ((execOp a.eval o).run P w) else V undef w:=by
 have hy:yielded ops a.tmps j=none:=by
  unfold yielded;rw[ht,Xat];have Vy:a.tmps.getD t undef=undef:=he;rw[UA] at Vy;cases hx:a.tmps[t]? with
  |none=>rfl
  |some v=>rw[hx] at Vy;have h2:v=undef:=Vy;rw[h2];rfl
 have hw:Region.wanted o (yielded ops a.tmps)=false:=by
  unfold Region.wanted;rw[hg]
  show (yielded ops a.tmps j==some b)=false
  rw[hy];cases b <;> rfl
 rw[hw];exact h
def Q7l (w w':World):Prop:=Bw w w'
section
variable {P:Program} {V:Value->World->Prop} {w:World}
theorem Q6p {u:Value} {res:Result Next} (hr:res=.ok (.value u) w) (h:V u w):Q1n P Q7l V w res:=by
 rw[hr];exact ⟨Ud _ _,h⟩
theorem Q0s {f:FuncId} {args:Array Value} {res:Result Next} (hr:res=.ok (.enter f args) w)
 (h:Calls P f args w fun e w''=>∃v,e=.returned v/\Bw w w''/\V v w''):Q1n P Q7l V w res:=by
 rw[hr];exact h
end
theorem Q15 {l:List Oper} {V:Nat->Value->World->Prop} (hl:(l.all fun o=>o.dst.isSome)=true):∀(i:Nat) o,l[i]?=some o->o.dst=none->∀v w,V i v w->V i undef w:=by
 intro i o hi hd v w _;have h1:=Ts.1 hl o (Ug hi);rw[hd] at h1;cases h1
theorem Q08 {E:World->World->Prop} {cs:LV} {L:Nat->Option (Value->World->Prop)} (h:∀i φ,L i=some φ->∀v w w',φ v w->E w w'->φ v w') (i:Nat) (v:Value) (w w':World) (hv:Q3q cs L i v w) (hb:E w w'):Q3q cs L i v w':=by
 unfold Q3q at*;cases hl:L i with
 |none=>rw[hl] at hv;exact hv
 |some φ=>rw[hl] at hv;exact h i φ hl v w w' hv hb
theorem Q04 (w:World):Bw w w.drew:=⟨rfl,rfl,rfl,Ue _,fun _ _=>rfl⟩
section
def Qyp (ops:Array Oper) (cs:LV) (L:Nat->Option (Value->World->Prop)) (o:Oper):Option Bool:=
 match o.guard with
 |none=>some true
 |some (j,b)=>
  if ((Q20 o).contains j && (L j).isNone && ((ops[j]?).bind (·.dst)).isSome)=true then
   match cs.getD j undef with
   | .bool c=>some (c==b)
   | .tuple a=>if a.isEmpty=true then some false else none
   |_=>none
  else none
variable {P:Program} {E:World->World->Prop} {ops:Array Oper} {C:World->Prop} {cs:LV} {L:Nat->Option (Value->World->Prop)} {a0:Act} {o:Oper} {k:Nat}
theorem Qld {a:Act} {w:World} {j:Nat} (hc:((Q20 o).contains j && (L j).isNone && ((ops[j]?).bind (·.dst)).isSome)=true) (hd:∀i∈Q20 o,Q3q cs L i (Q09 ops a i) w):
 ∃t,(ops[j]?).bind (·.dst)=some t/\a.eval (.tmp t)=cs.getD j undef:=by
 simp only[Xad] at hc;obtain ⟨⟨h1,h2⟩,h3⟩:=hc;obtain ⟨t,ht⟩:=Option.isSome_iff_exists.1 h3;have h:=(Q0j (Option.isNone_iff_eq_none.1 h2)).1 (hd j (List.contains_iff_mem.1 h1));unfold Q09 at h;rw[ht] at h;exact ⟨t,ht,h⟩
def Q72 (ops:Array Oper) (a:Act) (cs:LV) (L:Nat->Option (Value->World->Prop)):List Edge->Prop
 |[]=>True
 |e::r=>(Region.binds .any e=true->L e.on=none->∀t,(ops[e.on]?).bind (·.dst)=some t->a.tmps[t]?.getD undef=cs.getD e.on undef)/\Q72 ops a cs L r
theorem Qxl {ops:Array Oper} {a:Act} {w:World} {cs:LV} {L:Nat->Option (Value->World->Prop)} {o:Oper} (hd:∀i∈Q20 o,Q3q cs L i (Q09 ops a i) w):Q72 ops a cs L o.after.toList:=by
 have key:∀l:List Edge,(∀e∈l,e∈o.after.toList)->Q72 ops a cs L l:=by
  intro l
  induction l with
  |nil=>intro _;trivial
  |cons e r ih=>
   intro h;refine ⟨fun hb hL t ht=>?_,ih fun x hx=>h x (Xai _ hx)⟩;have h1:=(Q0j hL).1 (hd e.on (TE.2 ⟨e,List.mem_filter.2 ⟨h e (by simp),hb⟩,rfl⟩));unfold Q09 at h1;rw[ht] at h1;have h':a.tmps.getD t undef=cs.getD e.on undef:=h1;rwa[UA] at h'
 exact key _ fun _ h=>h
theorem Q1p (hg:Qyp ops cs L o=some true) (h:∀A W,C W->Q7h ops a0 A->Q7h ops a0 A->Q72 ops A cs L o.after.toList->Q1n P E (Q3q cs L k) W ((execOp A.eval o).run P W)):Q4i P E ops C (Q3q cs L) a0 k o:=by
 intro a w hc E0 hd;have hf:=h a w hc E0 E0 (Qxl hd);unfold Qyp at hg;cases ZA:o.guard with
 |none=>exact Q02 ZA hf
 |some p=>
  obtain ⟨j,b⟩:=p;rw[ZA] at hg;simp only at hg
  split at hg
  ·rename_i Y3;obtain ⟨t,ht,he⟩:=Qld Y3 hd
   split at hg
   ·rename_i c JD;injection hg with hg;rw[JD,beq_iff_eq.1 hg] at he;exact Qsx ZA ht he hf
   ·split at hg
    ·cases hg
    ·cases hg
   ·cases hg
  ·cases hg
theorem Qfc (hg:Qyp ops cs L o=some false) (hL:L k=none) (hv:cs[k]?=some undef):Q4i P E ops C (Q3q cs L) a0 k o:=by
 intro a w _ _ hd;have hu:Q3q cs L k undef w:=(Q0j hL).2 (by rw[Tc,hv];rfl);unfold Qyp at hg;cases ZA:o.guard with
 |none=>rw[ZA] at hg;cases hg
 |some p=>
  obtain ⟨j,b⟩:=p;rw[ZA] at hg;simp only at hg
  split at hg
  ·rename_i Y3;obtain ⟨t,ht,he⟩:=Qld Y3 hd
   split at hg
   ·rename_i c JD;injection hg with hg;rw[JD] at he;refine Qpv ZA ht (he.trans ?_) hu;cases c <;> cases b <;> first|rfl|cases hg
   ·rename_i x JD
    split at hg
    ·rename_i hx;refine Qjk ZA ht (he.trans (JD.trans ?_)) hu;rw[Array.isEmpty_iff.1 hx];rfl
    ·cases hg
   ·cases hg
  ·cases hg
theorem Q82 {V:Nat->Value->World->Prop} {r:List Oper} (h:Q4i P E ops C V a0 k o) (t:Q3g P E ops C V a0 r (k+1)):Q3g P E ops C V a0 (o::r) k:=⟨h,t⟩
theorem Q83 {V:Nat->Value->World->Prop}:Q3g P E ops C V a0 [] k:=trivial
theorem Q11 {ops:Array Oper} {a:Act} {w:World} {cs:LV} {L:Nat->Option (Value->World->Prop)} {o:Oper} (hd:∀i∈Q20 o,Q3q cs L i (Q09 ops a i) w) (i:Nat) {t:Tmp} {v:Value} (hi:i∈Q20 o) (hL:L i=none) (hv:cs[i]?=some v) (ht:(ops[i]?).bind (·.dst)=some t):a.tmps[t]?.getD undef=v:=by
 have h:=(Q0j hL).1 (hd i hi);rw[Tc,hv] at h;unfold Q09 at h;rw[ht] at h;have h':a.tmps.getD t undef=v:=h;rwa[UA] at h'
theorem Q07 {a:Act} (h:Q7h ops a0 a) (t:Tmp) {v:Value} (ht:(ops.toList.all fun o=> !(o.dst==some t))=true) (hv:a0.tmps.toList[t]?=some v):a.tmps[t]?.getD undef=v:=
 Q1o (h.keep ht (by rw[UA,<-Tr,hv];rfl))
theorem Q12 {i:Nat} {w:World} {u:Value} {res:Result Next} (hL:L i=none) (hv:cs[i]?=some u) (hr:res=.ok (.value u) w):Q1n P Q7l (Q3q cs L i) w res:=
 Q6p hr ((Q0j hL).2 (by rw[Tc,hv];rfl))
theorem Q2b {i:Nat} {w:World} {u:Value} {f:FuncId} {args:Array Value} {res:Result Next} (hL:L i=none) (hv:cs[i]?=some u) (hr:res=.ok (.enter f args) w) (h:Calls P f args w fun e w'=>e=.returned u/\Bw w w'):Q1n P Q7l (Q3q cs L i) w res:=
 Q0s hr (h.mono fun _ _ h'=>⟨u,h'.1,h'.2,(Q0j hL).2 (by rw[Tc,hv];rfl)⟩)
end
open WordsM
def Qpy (r:Nat) (w:World):Prop:=(∃b e a n c,Q03 w r (.bool b) (.int .i64 e) (.slice a n c))/\r<w.heap.size
theorem Qpy.below {r:Nat} {w w':World} (h:Qpy r w) (hb:Bw w w'):Qpy r w':=by
 obtain ⟨⟨b,e,a,n,c,hN⟩,hr⟩:=h;exact ⟨⟨b,e,a,n,c,hN.step hb hr⟩,Uc hr hb.size⟩
theorem Q03.drew {w:World} {b:Nat} {v0 v1 v2:Value} (h:Q03 w b v0 v1 v2):Q03 w.drew b v0 v1 v2:=⟨h.c0,h.c1,h.c2,h.f0,h.f1,h.f2⟩
theorem Qpy.drew {r:Nat} {w:World} (h:Qpy r w):Qpy r w.drew:=by
 obtain ⟨⟨b,e,a,n,c,hN⟩,hr⟩:=h;exact ⟨⟨b,e,a,n,c,hN.drew⟩,hr⟩
theorem WordsIn.drew {w:World} {a:OA} {n c:Nat} {L:LN} (h:WordsIn w a n c L):WordsIn w.drew a n c L:=⟨h.len,h.cap,h.most,h.low,h.rd⟩
def Qoc (r:Nat) (Done:World->Prop) (w w':World):Prop:=Q0l (·=r) w w'/\(Done w->Done w')/\(∀a n c L,WordsIn w a n c L->WordsIn w' a n c L)/\(Qpy r w->Qpy r w')
theorem Qoc.refl (r:Nat) (Done:World->Prop) (w:World):Qoc r Done w w:=⟨Q0l.refl _ w,id,fun _ _ _ _ h=>h,id⟩
def Qde (r:Nat) (u0 u1:Value) (L:LN) (w:World):Prop:=∃a n c,Q03 w r u0 u1 (.slice a n c)/\r<w.heap.size/\WordsIn w a n c L
theorem Qde.below {r:Nat} {u0 u1:Value} {L:LN} {w w':World} (h:Qde r u0 u1 L w) (hb:Bw w w'):Qde r u0 u1 L w':=by
 obtain ⟨a,n,c,h1,h2,h3⟩:=h;exact ⟨a,n,c,h1.step hb h2,Uc h2 hb.size,h3.step hb⟩
def SlV (L:LN) (v:Value) (w:World):Prop:=∃a n c,v=.slice a n c/\WordsIn w a n c L
def AgV (u0 u1:Value) (L:LN) (v:Value) (w:World):Prop:=∃a n c,v=.agg #[u0,u1,.slice a n c]/\WordsIn w a n c L
section
variable {P:Program} {r:Nat} {u0 u1:Value} {L:LN} {V:Value->World->Prop} {w:World}
theorem Q5f {Done:World->Prop} {u:Value} {res:Result Next} (hr:res=.ok (.value u) w) (h:V u w):Q1n P (Qoc r Done) V w res:=by
 rw[hr];exact ⟨Qoc.refl _ _ _,h⟩
theorem Qpz {f:FuncId} {args:Array Value} {res:Result Next} (hr:res=.ok (.enter f args) w)
 (h:Calls P f args w fun e w''=>∃v,e=.returned v/\Bw w w''/\V v w''):Q1n P (Qoc r (Qde r u0 u1 L)) V w res:=by
 rw[hr];refine h.mono ?_;rintro e w'' ⟨v,rfl,hb,hv⟩;exact ⟨v,rfl,⟨Q0l.of_below hb _,fun h=>h.below hb,fun _ _ _ _ h=>h.step hb,fun h=>h.below hb⟩,hv⟩
theorem Qmw {b:Bool} {e:Int} {a:OA} {n c:Nat} {res:Result Next} (hB:Qpy r w) (hw:WordsIn w a n c L) (h0:u0=.bool b) (h1:u1=.int .i64 e)
 (hr:res=.ok .skip (((w.setCell ⟨r,0,none⟩ u0).setCell ⟨r,1,none⟩ u1).setCell ⟨r,2,none⟩ (.slice a n c)))
 (hV:∀w',Qde r u0 u1 L w'->V undef w'):Q1n P (Qoc r (Qde r u0 u1 L)) V w res:=by
 rw[hr];obtain ⟨⟨b',e',a',n',c',hN⟩,F0⟩:=hB;have ht:Q0l (·=r) w (((w.setCell ⟨r,0,none⟩ u0).setCell ⟨r,1,none⟩ u1).setCell ⟨r,2,none⟩ (.slice a n c)):=((Q0l.setCell (·=r) w (p:=⟨r,0,none⟩) rfl _).trans0 (Q0l.setCell (·=r) _ (p:=⟨r,1,none⟩) rfl _)).trans0 (Q0l.setCell (·=r) _ (p:=⟨r,2,none⟩) rfl _);have hNs:=hN.store u0 u1 (.slice a n c);have KG:∀a2 n2 c2 L2,WordsIn w a2 n2 c2 L2->WordsIn (((w.setCell ⟨r,0,none⟩ u0).setCell ⟨r,1,none⟩ u1).setCell ⟨r,2,none⟩ (.slice a n c)) a2 n2 c2 L2:=fun a2 n2 c2 L2 h=>
  ⟨h.len,h.cap,h.most,h.low,(h.rd.store3 hN (fun _=>by simp[nv]) (fun _=>by simp[nv]) (fun _=>by simp[nv]) u0 u1 (.slice a n c)).more (Q1s _ _ _ _ _)⟩
 have hd:Qde r u0 u1 L (((w.setCell ⟨r,0,none⟩ u0).setCell ⟨r,1,none⟩ u1).setCell ⟨r,2,none⟩ (.slice a n c)):=⟨a,n,c,hNs,Uc F0 ht.size,KG _ _ _ _ hw⟩;exact ⟨⟨ht,fun _=>hd,KG,fun _=>⟨⟨b,e,a,n,c,by rw[<-h0,<-h1];exact hNs⟩,Uc F0 ht.size⟩⟩,hV _ hd⟩
end
def Qys (i j k r:Nat) (u0 u1:Value) (L:LN) (x:Nat):Option (Value->World->Prop):=
 if x=i then some (SlV L) else if x=j then some (AgV u0 u1 L) else if x=k then some (fun _ w=>Qde r u0 u1 L w) else none
theorem Qq0 {i j k r:Nat} {u0 u1:Value} {L:LN}:∀x φ,Qys i j k r u0 u1 L x=some φ->∀v w w',φ v w->Qoc r (Qde r u0 u1 L) w w'->φ v w':=by
 intro x φ h v w w' hv he;unfold Qys at h
 split at h
 ·injection h with h;subst h;obtain ⟨a,n,c,rfl,hw⟩:=hv;exact ⟨a,n,c,rfl,he.2.2.1 _ _ _ _ hw⟩
 ·split at h
  ·injection h with h;subst h;obtain ⟨a,n,c,rfl,hw⟩:=hv;exact ⟨a,n,c,rfl,he.2.2.1 _ _ _ _ hw⟩
  ·split at h
   ·injection h with h;subst h;exact he.2.1 hv
   ·cases h
def Qt0 (r:Nat) (w0 w:World):Prop:=Q0l (·=r) w0 w/\Qpy r w/\∀a n c L,WordsIn w0 a n c L->WordsIn w a n c L
theorem Qt0.start {r:Nat} {w:World} {v0:Bool} {v1:Int} {a:OA} {n c:Nat} (h:Q03 w r (.bool v0) (.int .i64 v1) (.slice a n c)) (hr:r<w.heap.size):Qt0 r w w.drew:=⟨(Q0l.refl _ w).drew,Qpy.drew ⟨⟨_,_,_,_,_,h⟩,hr⟩,fun _ _ _ _ h=>h.drew⟩
theorem Qt0.next {r:Nat} {Done:World->Prop} {w0 w w':World} (h:Qt0 r w0 w) (h':Qoc r Done w w'):Qt0 r w0 w':=⟨h.1.trans h'.1 (fun _ _ e=>e),h'.2.2.2 h.2.1,fun a n c L hw=>h'.2.2.1 _ _ _ _ (h.2.2 a n c L hw)⟩
theorem Qmx {r:Nat} {Done:World->Prop} {cs:LV} {L:Nat->Option (Value->World->Prop)} (h:∀i φ,L i=some φ->∀v w w',φ v w->Qoc r Done w w'->φ v w') (i:Nat) (v:Value) (w w':World) (hv:Q3q cs L i v w) (hb:Qoc r Done w w'):Q3q cs L i v w':=by
 unfold Q3q at*;cases hl:L i with
 |none=>rw[hl] at hv;exact hv
 |some φ=>rw[hl] at hv;exact h i φ hl v w w' hv hb
def Qxm (w:World) (D:Dyadic) (T lo hi:Int) (r:Ending) (w':World):Prop:=∃n e a l c L,r=.returned (.agg #[.bool n,.int .i64 e,.slice a l c])/\WordsIn w' a l c L/\Q2m n e L=D/\lo<=e/\e<=hi/\64*(l:Int)+e<=T/\Bw w w'
theorem Qh7 (nx:Bool) (ex:Int) (ax:OA) (lx cx:Nat) (ls:LN) (ny:Bool) (ey:Int) (ay:OA) (ly cy:Nat) (ks:LN) (w:World) (h1:WordsIn w ax lx cx ls) (h2:WordsIn w ay ly cy ks) (hn:lx<=20000) (hm:ly<=20000) (Wl: -1000000<=ex) (Q5:ex<=1000000) (j3: -1000000<=ey) (U3:ey<=1000000) (T lo hi:Int) (I3:64*(lx:Int)+ex<=T) (X2:64*(ly:Int)+ey<=T) (x6:lo<=ex) (QM:lo<=ey) (I7:ex<=hi) (QA:ey<=hi):
 Calls Tryz.prog 188 #[.agg #[.bool nx,.int .i64 ex,.slice ax lx cx],.agg #[.bool ny,.int .i64 ey,.slice ay ly cy]] w (Qxm w (Q2m nx ex ls+Q2m ny ey ks) (T+64) lo hi):=by
 obtain ⟨QP,hX,hY,hR,hB⟩:=Qom w (.bool nx) (.int .i64 ex) (.slice ax lx cx) (.bool ny) (.int .i64 ey) (.slice ay ly cy) (.bool false) (.int .i64 0) (.slice none 0 0) 26 26 26;generalize M1:(((w.alloc (.cells #[.bool nx,.int .i64 ex,.slice ax lx cx] 26)).alloc (.cells #[.bool ny,.int .i64 ey,.slice ay ly cy] 26)).alloc (.cells #[.bool false,.int .i64 0,.slice none 0 0] 26))=W0 at QP hX hY hR hB;have hQ:∀W,Bw W0 W->Q03 W w.heap.size (.bool nx) (.int .i64 ex) (.slice ax lx cx)/\Q03 W (w.heap.size+1) (.bool ny) (.int .i64 ey) (.slice ay ly cy)/\Q03 W (w.heap.size+2) (.bool false) (.int .i64 0) (.slice none 0 0)/\w.heap.size+2<W.heap.size/\Bw w W:=fun W hb=>
  ⟨hX.step hb (by omega),hY.step hb (by omega),hR.step hb (by omega),Uc (by omega) hb.size,Below.next0 hB hb⟩
 have HQ:=Ua hQ;have P9:=fun W (hb:Bw w W)=>Q3y nx ex ax lx cx ls W (h1.step hb) (by omega);have Qf:=fun W (hb:Bw w W)=>Q3y ny ey ay ly cy ks W (h2.step hb) (by omega);have HW:=Xh2 h1 h2;clear QP hX hY hR hQ h1 h2;obtain ⟨Y5,K5,Z3,_,_,_⟩:=(HQ.out W0 (Ud _ _)).1
 by_cases D8:val (2^64) ls=0
 ·simp only[D8,if_true] at P9;have HS:=Ua P9;have HV:=Ua D8;clear P9 Qf D8
  go_enter Tryz.func188,Tryz.ntmps188
  go_wp2_with (refine (HS.out W0 hB).mono ?_;rintro r w1 ⟨rfl,C0⟩;obtain ⟨_,g1,g2,g3,g4⟩:=HQ.out w1 C0;obtain ⟨yc0,yc1,yc2⟩:=g1.cc;obtain ⟨rc0,rc1,rc2,rf0,rf1,rf2⟩:=g2.cf;have rd1:=g2.d1 (.bool ny);have rd2:=g2.d2 (.bool ny) (.int .i64 ey);have HA:=Xh3 g2 g3 g4;clear g1 g2 g3 g4)
  have hS:=(Xo0 HA).store (.bool ny) (.int .i64 ey) (.slice ay ly cy);obtain ⟨k0,k1,k2⟩:=hS.cc;have X3:=Q03.below (Xe2 HA) (show w.heap.size<=w.heap.size+2 by omega) (.bool ny) (.int .i64 ey) (.slice ay ly cy);exact ⟨rfl,.agg #[.bool ny,.int .i64 ey,.slice ay ly cy],by simp[results,go_sem,k0,k1,k2],ny,ey,ay,ly,cy,ks,rfl,(Xe1 HW).step X3,by rw[Qh6 _ _ HV.out,Dyadic.zero_add],QM,QA,by omega,X3⟩
 ·have hsx':=P9;simp only[D8,Xbs] at P9;have Qi:∀W (hb:Bw w W),Calls Tryz.prog 95 #[.agg #[.bool nx,.int .i64 ex,.slice ax lx cx]] W fun r w'=>(∃s:Int,r=.returned (.int .i64 s)/\s≠0)/\Bw W w':=fun W hb=>(P9 W hb).mono (by rintro r w' ⟨rfl,F3⟩;exact ⟨⟨_,rfl,by split <;> decide⟩,F3⟩)
  by_cases G9:val (2^64) ks=0
  ·simp only[G9,if_true] at Qf;have HS:=Xh2 Qi Qf;have HV:=Ua G9;clear P9 hsx' Qf Qi D8 G9
   go_enter Tryz.func188,Tryz.ntmps188
   go_wp2_with (first
    |(go_at_call_of 95 ax;refine ((Xo0 HS) W0 hB).mono ?_;rintro r w1 ⟨⟨s,rfl,hs⟩,C0⟩;have KN:(s==0)=false:=(by rw[Uk];exact hs);obtain ⟨g0,g1,g2,g3,g4⟩:=HQ.out w1 C0;obtain ⟨yc0,yc1,yc2⟩:=g1.cc;have HA:=Xh2 C0 g4;clear g0 g1 g2 g3 g4 C0)
    |(go_at_call_of 95 ay;refine ((Xe1 HS) w1 (Xe1 HA)).mono ?_;rintro r w2 ⟨rfl,D0⟩;obtain ⟨g0,g1,g2,g3,g4⟩:=HQ.out w2 (Below.next0 (Xo0 HA) D0);obtain ⟨xc0,xc1,xc2⟩:=g0.cc;obtain ⟨rc0,rc1,rc2,rf0,rf1,rf2⟩:=g2.cf;have rd1:=g2.d1 (.bool nx);have rd2:=g2.d2 (.bool nx) (.int .i64 ex);have HC:=Xh3 g2 g3 g4;clear g0 g1 g2 g3 g4 D0))
   have hS:=(Xo0 HC).store (.bool nx) (.int .i64 ex) (.slice ax lx cx);obtain ⟨k0,k1,k2⟩:=hS.cc;have X3:=Q03.below (Xe2 HC) (show w.heap.size<=w.heap.size+2 by omega) (.bool nx) (.int .i64 ex) (.slice ax lx cx);exact ⟨rfl,.agg #[.bool nx,.int .i64 ex,.slice ax lx cx],by simp[results,go_sem,k0,k1,k2],nx,ex,ax,lx,cx,ls,rfl,(Xo0 HW).step X3,by rw[Qh6 _ _ HV.out,Xbr],x6,I7,by omega,X3⟩
  ·simp only[G9,Xbs] at Qf;have X4:∀W (hb:Bw w W),Calls Tryz.prog 95 #[.agg #[.bool ny,.int .i64 ey,.slice ay ly cy]] W fun r w'=>(∃s:Int,r=.returned (.int .i64 s)/\s≠0)/\Bw W w':=fun W hb=>(Qf W hb).mono (by rintro r w' ⟨rfl,F3⟩;exact ⟨⟨_,rfl,by split <;> decide⟩,F3⟩);have HS:=Xh2 Qi X4;have HV:=Xh2 D8 G9;clear P9 hsx' Qf Qi X4 D8 G9;obtain ⟨D,hD⟩:∃D,Q2m nx ex ls+Q2m ny ey ks=D:=⟨_,rfl⟩;rw[hD];have HD:=Ua hD;clear hD
   go_enter Tryz.func188,Tryz.ntmps188
   go_upto_block 0 with fail
   go_cut [] (fun wx=>∃n1 e1 a1 l1 c1 L1 n2 e2 a2 l2 c2 L2,Qxk w wx D T lo hi n1 e1 a1 l1 c1 L1 n2 e2 a2 l2 c2 L2)
   case first=>
    by_cases F0:ey<ex
    ·go_wp2_with (first
      |(go_at_call_of 95 ax;refine ((Xo0 HS) W0 hB).mono ?_;rintro r w1 ⟨⟨s,rfl,hs⟩,C0⟩;have KN:(s==0)=false:=(by rw[Uk];exact hs);obtain ⟨g0,g1,g2,g3,g4⟩:=HQ.out w1 C0;obtain ⟨yc0,yc1,yc2⟩:=g1.cc;have HA:=Xh2 C0 g4;clear g0 g1 g2 g3 g4 C0)
      |(go_at_call_of 95 ay;refine ((Xe1 HS) w1 (Xe1 HA)).mono ?_;rintro r w2 ⟨⟨s2,rfl,V8⟩,D0⟩;have hs20:(s2==0)=false:=(by rw[Uk];exact V8);obtain ⟨g0,g1,g2,g3,g4⟩:=HQ.out w2 (Below.next0 (Xo0 HA) D0);obtain ⟨xc0,xc1,xc2,xf0,xf1,xf2⟩:=g0.cf;have xd1:=g0.d1 (.bool ny);have xd2:=g0.d2 (.bool ny) (.int .i64 ey);obtain ⟨zc0,zc1,zc2⟩:=g1.cc;have gs0:=g0.store (.bool ny) (.int .i64 ey) (.slice ay ly cy);have gs1:=g1.far3 (show w.heap.size≠w.heap.size+1 by omega) (.bool ny) (.int .i64 ey) (.slice ay ly cy);obtain ⟨sc0,sc1,sc2,sf0,sf1,sf2⟩:=gs1.cf;have sd1:=gs1.d1 (.bool nx);have sd2:=gs1.d2 (.bool nx) (.int .i64 ex);have gz:=And.intro (gs0.far3 (show w.heap.size+1≠w.heap.size by omega) (.bool nx) (.int .i64 ex) (.slice ax lx cx)) (And.intro (gs1.store (.bool nx) (.int .i64 ex) (.slice ax lx cx)) (And.intro ((g2.far3 (show w.heap.size≠w.heap.size+2 by omega) (.bool ny) (.int .i64 ey) (.slice ay ly cy)).far3 (show w.heap.size+1≠w.heap.size+2 by omega) (.bool nx) (.int .i64 ex) (.slice ax lx cx)) (Q03.below (Q03.below g4 (Ue _) (.bool ny) (.int .i64 ey) (.slice ay ly cy)) (show w.heap.size<=w.heap.size+1 by omega) (.bool nx) (.int .i64 ex) (.slice ax lx cx))));have HZ:=Ua gz;clear gs0 gs1 gz;skip;have HC:=Xh5 g0 g1 g2 g3 g4;clear g0 g1 g2 g3 g4 D0))
     go_meet;exact ⟨_,_,_,_,_,_,_,_,_,_,_,_,(Xo0 HZ),(Xo1 HZ),(Xo2 HZ),by rw[Qxj,Qxj];exact (Xo3 HC),(Xe1 HW),(Xo0 HW),by omega,(Xe1 HV),(Xo0 HV),hm,hn,QM,I7,by omega,X2,I3,(by rw[Dyadic.add_comm];exact HD.out),(Xe3 HZ)⟩
    ·go_wp2_with (first
      |(go_at_call_of 95 ax;refine ((Xo0 HS) W0 hB).mono ?_;rintro r w1 ⟨⟨s,rfl,hs⟩,C0⟩;have KN:(s==0)=false:=(by rw[Uk];exact hs);obtain ⟨g0,g1,g2,g3,g4⟩:=HQ.out w1 C0;obtain ⟨yc0,yc1,yc2⟩:=g1.cc;have HA:=Xh2 C0 g4;clear g0 g1 g2 g3 g4 C0)
      |(go_at_call_of 95 ay;refine ((Xe1 HS) w1 (Xe1 HA)).mono ?_;rintro r w2 ⟨⟨s2,rfl,V8⟩,D0⟩;have hs20:(s2==0)=false:=(by rw[Uk];exact V8);obtain ⟨g0,g1,g2,g3,g4⟩:=HQ.out w2 (Below.next0 (Xo0 HA) D0);obtain ⟨xc0,xc1,xc2⟩:=g0.cc;obtain ⟨zc0,zc1,zc2⟩:=g1.cc;have HC:=Xh5 g0 g1 g2 g3 g4;clear g0 g1 g2 g3 g4 D0))
     go_meet;exact ⟨_,_,_,_,_,_,_,_,_,_,_,_,(Xo0 HC),(Xo1 HC),(Xo2 HC),(Xo3 HC),(Xo0 HW),(Xe1 HW),by omega,(Xo0 HV),(Xe1 HV),hn,hm,x6,QA,by omega,I3,X2,HD.out,(Xe4 HC)⟩
   case rest=>
    obtain ⟨n1,e1,a1,l1,c1,L1,n2,e2,a2,l2,c2,L2,hP⟩:=hcut;have x5:=hP.le;have B5:=hP.s1;have V8:=hP.s2;have E5:=hP.lo1;have Qc:=hP.hi2;have hrng:=hP.rng;obtain ⟨z,hz⟩:∃z:Nat,e2-e1=(z:Int):=⟨(e2-e1).toNat,by omega⟩;have hw1l:=hP.w1.len;have hw2l:=hP.w2.len;have K3:=fun V (hV:V<=val (2^64) L1+val (2^64) L2*2^z)=>Qvp (T:=T) (e1:=e1) (e2:=e2) (by have:=Q81 hP.w1.low;rwa[hw1l] at this) (by have:=Q81 hP.w2.low;rwa[hw2l] at this) hV hz hP.t1 hP.t2;have Xl:=Qc6 a2 l2 c2 L2 z wc (hP.w2.step hP.bel) (by omega) (by omega);have xc0:=hP.b1.c0;have xc1:=hP.b1.c1;have xc2:=hP.b1.c2;have yc0:=hP.b2.c0;have yc1:=hP.b2.c1;have yc2:=hP.b2.c2;have HU:=Ua Xl;clear Xl HD HV HS;have M5:=hP.sum;rw[Qvo n2 e1 e2 L2 z hz] at M5;unfold Q2m at M5;rw[Qdr] at M5;obtain ⟨v2,G9⟩:∃v2,val (2^64) L2*2^z=v2:=⟨_,rfl⟩;have VY:v2≠0:=(by rw[<-G9];exact Nat.mul_ne_zero hP.v2 (Nat.pos_iff_ne_zero.1 (Tn (by decide))));have Jo:64*(dig (2^64) v2).length<=64*l2+z+63:=Qfa (by
     rw[<-G9,To];exact TJ (by have:=Q81 hP.w2.low;rwa[hw2l] at this) (Tn (by decide)))
    rw[G9] at M5 K3 HU;have HF:=Xh4 M5 K3 VY hP.v1;have X5:=hP.bel;have HP:=Ua hP;clear M5 K3 G9 VY hP
    by_cases KK:n1=n2
    ·subst KK;have C1:(n1==n1)=true:=by simp
     go_wp2_with (go_at_call_of 150 a2;refine HU.out.mono ?_;rintro r w3 ⟨a3,l3,c3,rfl,E9,M0⟩;have g0:=HP.out.b1.step M0 (by have:=HP.out.lt;omega);obtain ⟨uc0,uc1,uc2⟩:=g0.cc;have g1:=HP.out.b2.step M0 (by have:=HP.out.lt;omega);obtain ⟨vc0,vc1,vc2⟩:=g1.cc;clear g1;have HE:=Xh2 E9 M0;clear g0 E9 M0)
     have Y3:w.heap.size+2<w3.heap.size:=Uc HP.out.lt (Xe1 HE).size;have Z0:=HP.out.br.step (Xe1 HE) HP.out.lt;have C0:=HP.out.b1.step (Xe1 HE) (by have:=HP.out.lt;omega);have N6:∀W,WordsIn W a1 l1 c1 L1->WordsIn W a3 l3 c3 (dig (2^64) v2)->Calls Tryz.prog 240 #[.slice a1 l1 c1,.slice a3 l3 c3] W (Q8z W (val (2^64) L1+v2)):=fun W q1 q2=>by
      have h:=Qdo a1 l1 c1 L1 a3 l3 c3 _ W q1 q2 (by omega) (by
       have h6:=(Xo0 HE).len;omega)
      rwa[Q10 (by decide)] at h
     have XR:=Ua (show∀W,Qt0 (w.heap.size+2) w3 W->Q03 W w.heap.size (.bool n1) (.int .i64 e1) (.slice a1 l1 c1)/\WordsIn W a1 l1 c1 L1/\WordsIn W a3 l3 c3 (dig (2^64) v2)/\Bw w W from fun W hW=>by
      have hb:=Below.turn (Below.next0 HP.out.bel (Xe1 HE)) hW.1 (Below.next0 HP.out.bel (Xe1 HE)).size (fun k e=>by omega);exact ⟨C0.turn hW.1 (by omega) (by omega),HP.out.w1.step hb,hW.2.2 _ _ _ _ (Xo0 HE),hb⟩)
     have HAD:=Ua N6;have H00:Qt0 (w.heap.size+2) w3 w3.drew:=Qt0.start Z0 Y3;clear Y3 Z0 C0 N6 uc0 uc1 uc2 vc0 vc1 vc2;refine Q06 (E:=Qoc (w.heap.size+2) (Qde (w.heap.size+2) (.bool n1) (.int .i64 e1) (dig (2^64) (val (2^64) L1+v2)))) (Qoc.refl _ _) (by kernel_rfl) (fun W=>Qt0 (w.heap.size+2) w3 W) (fun _ _ h h'=>h.next h') (Q3q [.pointer (some ⟨w.heap.size,0,none⟩),.bool n1,.pointer (some ⟨w.heap.size,1,none⟩),.int .i64 e1,.pointer (some ⟨w.heap.size,2,none⟩),.slice a1 l1 c1,.slice a3 l3 c3,undef,undef,undef] (Qys 7 8 9 (w.heap.size+2) (.bool n1) (.int .i64 e1) (dig (2^64) (val (2^64) L1+v2)))) (Qmx Qq0) (Qpx 9 rfl (by kernel_rfl)) (by kernel_rfl) H00 ?_ ?_
     ·skip;refine ⟨fun A W hW E0 A0=>?_,?_⟩
      ·have e2:=Q07 E0 2 (by kernel_rfl) rfl;refine Q02 rfl ?_;refine Q5f (u:=.pointer (some ⟨w.heap.size,0,none⟩)) ?_ ((Q0j rfl).2 rfl);simp[go_sem,e2]
      refine ⟨fun A W hW E0 A0=>?_,?_⟩
      ·have e41:=Q11 A0 0 (by decide) rfl rfl rfl;refine Q02 rfl ?_;obtain ⟨k0,_,_,_,_,_⟩:=(XR.out W hW).1;refine Q5f (u:=.bool n1) ?_ ((Q0j rfl).2 rfl);simp[go_sem,e41,k0]
      refine ⟨fun A W hW E0 A0=>?_,?_⟩
      ·have e2:=Q07 E0 2 (by kernel_rfl) rfl;refine Q02 rfl ?_;refine Q5f (u:=.pointer (some ⟨w.heap.size,1,none⟩)) ?_ ((Q0j rfl).2 rfl);simp[go_sem,e2]
      refine ⟨fun A W hW E0 A0=>?_,?_⟩
      ·have e43:=Q11 A0 2 (by decide) rfl rfl rfl;refine Q02 rfl ?_;obtain ⟨_,k1,_,_,_,_⟩:=(XR.out W hW).1;refine Q5f (u:=.int .i64 e1) ?_ ((Q0j rfl).2 rfl);simp[go_sem,e43,k1]
      refine ⟨fun A W hW E0 A0=>?_,?_⟩
      ·have e2:=Q07 E0 2 (by kernel_rfl) rfl;refine Q02 rfl ?_;refine Q5f (u:=.pointer (some ⟨w.heap.size,2,none⟩)) ?_ ((Q0j rfl).2 rfl);simp[go_sem,e2]
      refine ⟨fun A W hW E0 A0=>?_,?_⟩
      ·have e45:=Q11 A0 4 (by decide) rfl rfl rfl;refine Q02 rfl ?_;obtain ⟨_,_,k2,_,_,_⟩:=(XR.out W hW).1;refine Q5f (u:=.slice a1 l1 c1) ?_ ((Q0j rfl).2 rfl);simp[go_sem,e45,k2]
      refine ⟨fun A W hW E0 A0=>?_,?_⟩
      ·have e5:=Q07 E0 5 (by kernel_rfl) rfl;refine Q02 rfl ?_;refine Q5f (u:=.slice a3 l3 c3) ?_ ((Q0j rfl).2 rfl);simp[go_sem,e5]
      refine ⟨fun A W hW E0 A0=>?_,?_⟩
      ·have e46:=Q11 A0 5 (by decide) rfl rfl rfl;have e47:=Q11 A0 6 (by decide) rfl rfl rfl;refine Q02 rfl ?_;refine Qpz (f:=240) (args:= #[.slice a1 l1 c1,.slice a3 l3 c3]) (by simp[go_sem,e46,e47]) ((HAD.out W (XR.out W hW).2.1 (XR.out W hW).2.2.1).mono ?_);rintro e w2 ⟨a,n,c,rfl,hw,hb⟩;exact ⟨_,rfl,hb,(Q00 rfl).2 ⟨a,n,c,rfl,hw⟩⟩
      refine ⟨fun A W hW E0 A0=>?_,?_⟩
      ·have e42:=Q11 A0 1 (by decide) rfl rfl rfl;have e44:=Q11 A0 3 (by decide) rfl rfl rfl;refine Q02 rfl ?_;obtain ⟨a,n,c,hv,hw⟩:=(Q00 rfl).1 (A0 7 (by decide));have e48:=Q1o hv;refine Q5f (u:=.agg #[.bool n1,.int .i64 e1,.slice a n c]) ?_ ((Q00 rfl).2 ⟨a,n,c,rfl,hw⟩);simp[go_sem,e42,e44,e48]
      refine ⟨fun A W hW E0 A0=>?_,?_⟩
      ·have e4:=Q07 E0 4 (by kernel_rfl) rfl;refine Q02 rfl ?_;obtain ⟨a,n,c,hv,hw⟩:=(Q00 rfl).1 (A0 8 (by decide));have e49:=Q1o hv;obtain ⟨⟨b9,e9,a9,n9,c9,hN⟩,F0⟩:=hW.2.1;have k0:=hN.c0;have f0:=hN.f0;have f1:=hN.f1;have f2:=hN.f2;have d1:=hN.d1 (.bool n1);have d2:=hN.d2 (.bool n1) (.int .i64 e1);refine Qmw hW.2.1 hw (b:=n1) (e:=e1) rfl rfl ?_ (fun w' h=>(Q00 rfl).2 h);simp[go_sem,e4,e49,k0,f0,f1,f2,d1,d2]
      exact trivial
     intro vs W1 R1 A3;obtain ⟨a,n,c,K2,Kn,S4⟩:=(Q00 rfl).1 (A3 9 (by decide));simp only[Q0t,Act.put,Um,Ux,Ut];obtain ⟨k0,k1,k2⟩:=K2.cc;have HG:=Xh2 S4 (XR.out W1 R1).2.2.2;clear A3 R1 S4 K2
     go_wp2_with fail
     refine ⟨rfl,.agg #[.bool n1,.int .i64 e1,.slice a n c],by simp[results,go_sem,k0,k1,k2],n1,e1,a,n,c,_,rfl,(Xo0 HG),?_,E5,by omega,?_,(Xe1 HG)⟩
     ·rw[Qfb,<-Qsz];exact (Xo0 HF)
     ·have h5:=(Xo1 HF) (val (2^64) L1+v2) (Ue _);rw[(Xo0 HG).len] at h5;exact h5
    ·have C5:n2= !n1:=(by cases n1 <;> cases n2 <;> simp_all);subst C5;have C1:(n1== !n1)=false:=by cases n1 <;> rfl
     by_cases A5:v2<=val (2^64) L1
     ·go_wp2_with (first
       |(go_at_call_of 150 a2;refine HU.out.mono ?_;rintro r w3 ⟨a3,l3,c3,rfl,E9,M0⟩;have g0:=HP.out.b1.step M0 (by have:=HP.out.lt;omega);obtain ⟨uc0,uc1,uc2⟩:=g0.cc;have g1:=HP.out.b2.step M0 (by have:=HP.out.lt;omega);obtain ⟨vc0,vc1,vc2⟩:=g1.cc;have HE:=Xh2 E9 M0;clear g0 g1 E9 M0)
       |(go_at_call_of 241 a1;refine (Qa6 a1 l1 c1 L1 a3 l3 c3 _ w3 (HP.out.w1.step (Below.next0 HP.out.bel (Xe1 HE))) (Xo0 HE) (by omega) (Xe3 HF)).mono ?_;rintro r w4 ⟨a4,l4,c4,ok,rfl,X1,QW,Y2⟩;rw[Q10 (by decide),UW A5] at X1;subst X1;have QW:=QW rfl;rw[Q10 (by decide)] at QW;
         have Q7:=HP.out.lt;have Qb:=Below.next0 (Xe1 HE) Y2;have g0:=HP.out.b1.step Qb (by omega);obtain ⟨uc0,uc1,uc2⟩:=g0.cc;have g1:=HP.out.b2.step Qb (by omega);obtain ⟨vc0,vc1,vc2⟩:=g1.cc;have g2:=HP.out.br.step Qb Q7;obtain ⟨rc0,rc1,rc2,rf0,rf1,rf2⟩:=g2.cf;have rd1:=g2.d1 (.bool n1);have rd2:=g2.d2 (.bool n1) (.int .i64 e1);have HG:=Xh4 QW g2 (Uc Q7 Qb.size) (Below.next0 HP.out.bel Qb);clear g0 g1 g2 QW Y2 Qb))
      have hS:=(Xo1 HG).store (.bool n1) (.int .i64 e1) (.slice a4 l4 c4);obtain ⟨k0,k1,k2⟩:=hS.cc;have X3:=Q03.below (Xe3 HG) (show w.heap.size<=w.heap.size+2 by omega) (.bool n1) (.int .i64 e1) (.slice a4 l4 c4);have ZI:WordsIn (((w4.setCell ⟨w.heap.size+2,0,none⟩ (.bool n1)).setCell ⟨w.heap.size+2,1,none⟩ (.int .i64 e1)).setCell ⟨w.heap.size+2,2,none⟩ (.slice a4 l4 c4)) a4 l4 c4 (dig (2^64) (val (2^64) L1-v2)):=⟨(Xo0 HG).len,(Xo0 HG).cap,(Xo0 HG).most,(Xo0 HG).low,((Xo0 HG).rd.store3 (Xo1 HG) (fun _=>by simp[nv]) (fun _=>by simp[nv]) (fun _=>by simp[nv]) _ _ _).more (Q1s _ _ _ _ _)⟩;refine ⟨rfl,.agg #[.bool n1,.int .i64 e1,.slice a4 l4 c4],by simp[results,go_sem,k0,k1,k2],_,e1,a4,l4,c4,_,rfl,ZI,?_,E5,by omega,?_,X3⟩
      ·rw[Qfb,<-(Xo0 HF),Qh5,Uu A5]
      ·have h5:=(Xo1 HF) (val (2^64) L1-v2) (by omega);rw[(Xo0 HG).len] at h5;exact h5
     ·go_upto_if 57 with (first
       |(go_at_call_of 150 a2;refine HU.out.mono ?_;rintro r w3 ⟨a3,l3,c3,rfl,E9,M0⟩;have g0:=HP.out.b1.step M0 (by have:=HP.out.lt;omega);obtain ⟨uc0,uc1,uc2⟩:=g0.cc;have g1:=HP.out.b2.step M0 (by have:=HP.out.lt;omega);obtain ⟨vc0,vc1,vc2⟩:=g1.cc;have HE:=Xh2 E9 M0;clear g0 g1 E9 M0)
       |(go_at_call_of 241 a1;refine (Qa6 a1 l1 c1 L1 a3 l3 c3 _ w3 (HP.out.w1.step (Below.next0 HP.out.bel (Xe1 HE))) (Xo0 HE) (by omega) (Xe3 HF)).mono ?_;rintro r w4 ⟨a4,l4,c4,ok,rfl,X1,QW,Y2⟩;rw[Q10 (by decide),UU A5] at X1;subst X1;clear QW;
         have Qb:=Below.next0 (Xe1 HE) Y2;have g0:=HP.out.b1.step Qb (by have:=HP.out.lt;omega);obtain ⟨uc0,uc1,uc2⟩:=g0.cc;have HG1:=Xh2 ((Xo0 HE).step Y2) Qb;clear g0 Y2 Qb))
      go_wp2_with (go_at_call_of 241 a1;refine (Qa6 a3 l3 c3 _ a1 l1 c1 L1 w4 (Xo0 HG1) (HP.out.w1.step (Below.next0 HP.out.bel (Xe1 HG1))) (by have h6:=(Xo0 HG1).len;omega) (by rw[Q10 (by decide)];exact (Xo2 HF))).mono ?_;rintro r w5 ⟨a5,l5,c5,ok,rfl,X1,O7,P0⟩;rw[Q10 (by decide),UW (by omega)] at X1;subst X1;have O7:=O7 rfl;rw[Q10 (by decide)] at O7;have Q7:=HP.out.lt;have JI:=Below.next0 (Xe1 HG1) P0;have g0:=HP.out.b1.step JI (by omega);obtain ⟨uc0,uc1,uc2⟩:=g0.cc;have g1:=HP.out.b2.step JI (by omega);obtain ⟨vc0,vc1,vc2⟩:=g1.cc;have g2:=HP.out.br.step JI Q7;obtain ⟨rc0,rc1,rc2,rf0,rf1,rf2⟩:=g2.cf;have rd1:=g2.d1 (.bool (!n1));have rd2:=g2.d2 (.bool (!n1)) (.int .i64 e1);have HG:=Xh4 O7 g2 (Uc Q7 JI.size) (Below.next0 HP.out.bel JI);clear g0 g1 g2 O7 P0 JI)
      have hS:=(Xo1 HG).store (.bool (!n1)) (.int .i64 e1) (.slice a5 l5 c5);obtain ⟨k0,k1,k2⟩:=hS.cc;have X3:=Q03.below (Xe3 HG) (show w.heap.size<=w.heap.size+2 by omega) (.bool (!n1)) (.int .i64 e1) (.slice a5 l5 c5);have ZI:WordsIn (((w5.setCell ⟨w.heap.size+2,0,none⟩ (.bool (!n1))).setCell ⟨w.heap.size+2,1,none⟩ (.int .i64 e1)).setCell ⟨w.heap.size+2,2,none⟩ (.slice a5 l5 c5)) a5 l5 c5 (dig (2^64) (v2-val (2^64) L1)):=⟨(Xo0 HG).len,(Xo0 HG).cap,(Xo0 HG).most,(Xo0 HG).low,((Xo0 HG).rd.store3 (Xo1 HG) (fun _=>by simp[nv]) (fun _=>by simp[nv]) (fun _=>by simp[nv]) _ _ _).more (Q1s _ _ _ _ _)⟩;refine ⟨rfl,.agg #[.bool (!n1),.int .i64 e1,.slice a5 l5 c5],by simp[results,go_sem,k0,k1,k2],_,e1,a5,l5,c5,_,rfl,ZI,?_,E5,by omega,?_,X3⟩
      ·rw[Qfb,<-(Xo0 HF),Qh5,Uq A5]
      ·have h5:=(Xo1 HF) (v2-val (2^64) L1) (by omega);rw[(Xo0 HG).len] at h5;exact h5
theorem Qmy {v:Nat} (h:v<18446744073709551616):Q6i (dy (sgn false v) 0):=by
 by_cases h0:v=0
 ·subst h0;exact .inl rfl
 ·obtain ⟨z,hz⟩:=Qg0 h0;have hz64:z<64:=by
   refine TR fun x5=>?_;have h3:2^64<=2^z:=UN (by decide) x5;have h5:=hz.1;rw[Xac (Uc h h3)] at h5;exact h0 h5
  have hb:v / 2^z<(2^64)^64:=TP (Xbq _ _) (Uc h (show 2^64<=(2^64)^64 from Nat.le_self_pow (by decide) _));rw[<-Qox hz,Q6j hz.2];exact ⟨hb,by omega,by omega⟩
theorem Qdy (v:Nat) (w:World) (hv:v<9223372036854775808) (hT:Q3r w):
 Calls Tryz.prog 113 #[.int .i64 (v:Int)] w fun r w'=>∃n' e' a' l' c' L,r=.returned (.agg #[.bool n',.int .i64 e',.slice a' l' c'])/\Q0a n' e' L/\Q2m n' e' L=dy (v:Int) 0/\Q44 w w' a' l' c' L/\Bw w w':=by
 have Q6:¬(v:Int)<0:=by omega
 have G9:(v:Int)<18446744073709551616:=by omega
 have Q0:∀o,Bw w (w.alloc o):=fun o=>Ba;have B5:(w.alloc (.cells #[.bool false,.int .i64 0,.slice none 0 0] 26)).heap.size=w.heap.size+1:=Ur _ _;have JP:=Q7k (w.alloc (.cells #[.bool false,.int .i64 0,.slice none 0 0] 26)) v (by omega) 83;have D0:Below (w.alloc (.cells #[.bool false,.int .i64 0,.slice none 0 0] 26)).heap.size (w.alloc (.cells #[.bool false,.int .i64 0,.slice none 0 0] 26)) ((w.alloc (.cells #[.bool false,.int .i64 0,.slice none 0 0] 26)).alloc (.cells #[.int .u64 (v:Int)] 83)):=Ba;have hR:=(Q03.new w (.bool false) (.int .i64 0) (.slice none 0 0) 26).step D0 (Q0o _ _);have F2:=Uc (Q0o w (.cells #[.bool false,.int .i64 0,.slice none 0 0] 26)) D0.size;have hB:=Below.next0 (Q0 _) D0;rw[B5] at JP;generalize hW:(w.alloc (.cells #[.bool false,.int .i64 0,.slice none 0 0] 26)).alloc (.cells #[.int .u64 (v:Int)] 83)=W at JP hR hB F2;have j4:=Q6f false (some ⟨w.heap.size+1,0,none⟩) 1 1 [v] 0 W JP (hT.step hB) (by decide) (by decide) (by decide);have HR:=Xh4 hR hB j4 F2;clear Q0 B5 JP D0 hR F2 hB j4 hT
 go_enter Tryz.func113,Tryz.ntmps113
 go_wp2_with (refine (Xo2 HR).mono ?_;rintro r w1 ⟨n',e',a',l',c',L',er,rfl,Z7,R1,C0⟩;have R4:Bw w1 (w1.alloc (.cells #[.bool n',.int .i64 e',.slice a' l' c'] 26)):=Ba;have hX:=Q03.new w1 (.bool n') (.int .i64 e') (.slice a' l' c') 26;obtain ⟨xc0,xc1,xc2⟩:=hX.cc;have m7:=((Xo0 HR).step C0 (Xe3 HR)).step R4 (Uc (Xe3 HR) C0.size);obtain ⟨rc0,rc1,rc2,rf0,rf1,rf2⟩:=m7.cf;have rd1:=m7.d1 (.bool n');have rd2:=m7.d2 (.bool n') (.int .i64 e');have HM:=Xh4 Z7 (R1.on (R1.step R4)) m7 (Below.next0 (Below.next0 (Xo1 HR) C0) R4);clear Z7 R1 m7 C0 R4 hX)
 have hS:=(Xo2 HM).store (.bool n') (.int .i64 e') (.slice a' l' c');obtain ⟨k0,k1,k2⟩:=hS.cc;have X3:=Q03.below (Xe3 HM) (Ue w.heap.size) (.bool n') (.int .i64 e') (.slice a' l' c');have S4:=(Xo1 HM);have ZI:WordsIn _ a' l' c' L':=⟨S4.len,S4.cap,S4.most,S4.low,(S4.rd.store3 (Xo2 HM) (fun _=>by simp[nv]) (fun _=>by simp[nv]) (fun _=>by simp[nv]) (.bool n') (.int .i64 e') (.slice a' l' c')).more (Q1s _ _ _ _ _)⟩;have XN:=Qb3 (Xo0 HM);rw[Qjj] at XN;obtain ⟨_,_,S9,hnd⟩|⟨C4,_⟩:=XN
 ·exact ⟨rfl,.agg #[.bool n',.int .i64 e',.slice a' l' c'],by simp[results,go_sem,k0,k1,k2],n',e',a',l',c',L',rfl,S9,hnd,(S4.lower (Xo1 HR).size).on ZI,X3⟩
 ·exact absurd (Qmy (by omega)) C4
theorem RdI.store1 {K:IntKind} {w:World} {B:Nat} {a:OA} {ls:LN} (h:RdI K w B a ls) {p:Addr} {v:Value} (hp:w.cell? p=some v) (hv:∀x:Nat,v≠nv K x) (u:Value):RdI K (w.setCell p u) B a ls:=by
 rcases h with rfl|⟨g,o,rfl,hg,hc⟩
 ·exact .inl rfl
 ·refine .inr ⟨g,o,rfl,hg,fun j x hx=>?_⟩;have h1:=hc j x hx;rw[Uf _ _ _ _ (fun e=>?_)]
  ·exact h1
  ·rw[e] at hp;rw[hp] at h1;injection h1 with h1;exact hv x h1
theorem WordsIn.set1 {w:World} {a:OA} {n c:Nat} {L:LN} (h:WordsIn w a n c L) {p:Addr} {v:Value} (hp:w.cell? p=some v) (hv:∀x:Nat,v≠nv .u64 x) (u:Value):WordsIn (w.setCell p u) a n c L:=
 ⟨h.len,h.cap,h.most,h.low,(h.rd.store1 hp hv u).more (by rw[Tk];omega)⟩
theorem WordsIn.set3 {w:World} {a:OA} {n c b:Nat} {L:LN} {b0:Bool} {e0:Int} {a0:OA} {n0 c0:Nat} (h:WordsIn w a n c L) (hN:Q03 w b (.bool b0) (.int .i64 e0) (.slice a0 n0 c0)) (u0 u1 u2:Value):
 WordsIn (((w.setCell ⟨b,0,none⟩ u0).setCell ⟨b,1,none⟩ u1).setCell ⟨b,2,none⟩ u2) a n c L:=
 ⟨h.len,h.cap,h.most,h.low,(h.rd.store3 hN (fun _=>by simp[nv]) (fun _=>by simp[nv]) (fun _=>by simp[nv]) u0 u1 u2).more (Q1s _ _ _ _ _)⟩
theorem Qq1 (n:Bool) (e:Int) (a:OA) (l c:Nat) (L:LN) (w:World) (h:WordsIn w a l c L) (hi:Q0a n e L) (h0:L≠[]):
 Calls Tryz.prog 96 #[.agg #[.bool n,.int .i64 e,.slice a l c]] w fun r w'=>∃a' l' c',r=.returned (.agg #[.bool n,.int .i64 e,.slice a' l' c'])/\Q44 w w' a' l' c' L/\Bw w w':=by
 obtain ⟨i9,hX,hR,hB⟩:=Q89 w (.bool n) (.int .i64 e) (.slice a l c) (.bool false) (.int .i64 0) (.slice none 0 0) 26 26;generalize hW:(w.alloc (.cells #[.bool n,.int .i64 e,.slice a l c] 26)).alloc (.cells #[.bool false,.int .i64 0,.slice none 0 0] 26)=W at hX hR hB i9;have F2:w.heap.size+1<W.heap.size:=by omega
 clear i9;obtain ⟨M7,ZV,hlen64,Wl,Q5⟩:val (2^64) L≠0/\L=dig (2^64) (val (2^64) L)/\l<=64/\-65536<=e/\e<=65536:=by
  rcases Q1f hi h.low with ⟨h1,_⟩|⟨_,h2,h3,h4,h5,h6⟩
  ·exact absurd h1 h0
  ·refine ⟨by omega,h3,?_,h5,h6⟩;rw[<-h.len,h3];exact Qbr h4
 have j9:=Q1j n e a l c L W (h.step hB) (by omega) (by omega) (by omega);rw[UW hi] at j9;have Qo:∀W2,Bw w W2->Calls Tryz.prog 146 #[.slice a l c] W2 fun r w'=>∃a' l' c',r=.returned (.slice a' l' c')/\Q44 W2 w' a' l' c' L/\Bw W2 w':=fun W2 hb=>(Qc1 a l c L W2 (h.step hb) (by omega) M7).mono (by rintro r w' ⟨a',l',c',rfl,hw,F3⟩;rw[<-ZV] at hw;exact ⟨a',l',c',rfl,hw,F3⟩);have HR:=Xh6 hX hR hB j9 Qo F2;obtain ⟨xc0,xc1,xc2⟩:=hX.cc;clear hX hR hB j9 Qo F2 h hi h0 M7 ZV
 go_enter Tryz.func96,Tryz.ntmps96
 go_wp2_with (first
  |(go_at_call_of 53 (Value.bool n);refine (Xo3 HR).mono ?_;rintro r w1 ⟨rfl,C0⟩;have JC:=(Xo0 HR).step C0 (by have:=(Xe5 HR);omega);obtain ⟨uc0,uc1,uc2⟩:=JC.cc;have HA:=Xh2 C0 (Below.next0 (Xo2 HR) C0);clear JC C0)
  |(go_at_call_of 146 a;refine ((Xo4 HR) w1 (Xe1 HA)).mono ?_;rintro r w2 ⟨a',l',c',rfl,i5,D0⟩;have F0:=(Xe5 HR);have o8:=Below.next0 (Xo0 HA) D0;have Qp:=(Xo0 HR).step o8 (by omega);have Ja:=(Xo1 HR).step o8 F0;
    have yc2:=Qp.c2;have yf2:=Qp.f2;have KM:=Qp.set2 (.slice a' l' c');have G8:=Ja.far (p:=⟨w.heap.size,2,none⟩) (by show w.heap.size≠w.heap.size+1;omega) (.slice a' l' c');obtain ⟨zc0,zc1,zc2⟩:=KM.cc;obtain ⟨rc0,rc1,rc2,rf0,rf1,rf2⟩:=G8.cf;have rd1:=G8.d1 (.bool n);have rd2:=G8.d2 (.bool n) (.int .i64 e);have E9:=WordsIn.set1 i5.toWordsIn Qp.c2 (fun _=>by simp[nv]) (.slice a' l' c');have HM:=Xh3 ((i5.lower (Xe1 HA).size).on E9) G8 ((Below.next0 (Xo2 HR) o8).setCell (p:=⟨w.heap.size,2,none⟩) (Ue _) (.slice a' l' c'));clear Qp Ja KM G8 E9 D0 o8))
 have hS:=(Xo1 HM).store (.bool n) (.int .i64 e) (.slice a' l' c');obtain ⟨k0,k1,k2⟩:=hS.cc;have X3:=Q03.below (Xe2 HM) (show w.heap.size<=w.heap.size+1 by omega) (.bool n) (.int .i64 e) (.slice a' l' c');have ZI:=(Xo0 HM).set3 (Xo1 HM) (.bool n) (.int .i64 e) (.slice a' l' c');exact ⟨rfl,.agg #[.bool n,.int .i64 e,.slice a' l' c'],by simp[results,go_sem,k0,k1,k2],a',l',c',rfl,(Xo0 HM).on ZI,X3⟩
theorem Qmz (n:Bool) (e:Int) (a:OA) (l c:Nat) (L:LN) (w:World) (h:WordsIn w a l c L) (hi:Q0a n e L) (h0:L≠[]):
 Calls Tryz.prog 112 #[.agg #[.bool n,.int .i64 e,.slice a l c]] w fun r w'=>∃a' l' c',r=.returned (.agg #[.bool false,.int .i64 e,.slice a' l' c'])/\Q44 w w' a' l' c' L/\Bw w w':=by
 obtain ⟨i9,hX,hR,hB⟩:=Q89 w (.bool n) (.int .i64 e) (.slice a l c) (.bool false) (.int .i64 0) (.slice none 0 0) 26 26;generalize hW:(w.alloc (.cells #[.bool n,.int .i64 e,.slice a l c] 26)).alloc (.cells #[.bool false,.int .i64 0,.slice none 0 0] 26)=W at hX hR hB i9;have F2:w.heap.size+1<W.heap.size:=by omega
 clear i9;have R3:=Qq1 n e a l c L W (h.step hB) hi h0;have HR:=Xh4 hR hB R3 F2;obtain ⟨xc0,xc1,xc2⟩:=hX.cc;clear hX hR hB R3 F2 h hi h0
 go_enter Tryz.func112,Tryz.ntmps112
 go_wp2_with (first
  |(go_at_call_of 96 (Value.bool n);refine (Xo2 HR).mono ?_;rintro r w1 ⟨a',l',c',rfl,R1,C0⟩;have HA:=Xh2 (R1.lower (Xo1 HR).size) C0;clear R1 C0)
  |(go_at_call_of 164 (Value.bool n);refine (Qh4 n e a' l' c' w1).mono ?_;rintro r w2 ⟨rfl,D0⟩;have F0:=(Xe3 HR);have o8:=Below.next0 (Xe1 HA) D0;have Ja:=(Xo0 HR).step o8 F0;obtain ⟨rc0,rc1,rc2,rf0,rf1,rf2⟩:=Ja.cf;have rd1:=Ja.d1 (.bool false);have rd2:=Ja.d2 (.bool false) (.int .i64 e);have HM:=Xh3 ((Xo0 HA).on ((Xo0 HA).step D0)) Ja (Below.next0 (Xo1 HR) o8);clear Ja D0 o8))
 have hS:=(Xo1 HM).store (.bool false) (.int .i64 e) (.slice a' l' c');obtain ⟨k0,k1,k2⟩:=hS.cc;have X3:=Q03.below (Xe2 HM) (show w.heap.size<=w.heap.size+1 by omega) (.bool false) (.int .i64 e) (.slice a' l' c');have ZI:=(Xo0 HM).set3 (Xo1 HM) (.bool false) (.int .i64 e) (.slice a' l' c');exact ⟨rfl,.agg #[.bool false,.int .i64 e,.slice a' l' c'],by simp[results,go_sem,k0,k1,k2],a',l',c',rfl,(Xo0 HM).on ZI,X3⟩
theorem Q7m {n:Bool} {e:Int} {L:LN} (h:Q0a n e L) (hl:Low (2^64) L):L.length<=64/\-65536<=e/\e<=65536:=by
 rcases Q1f h hl with ⟨rfl,_,rfl⟩|⟨_,_,h2,h3,h4,h5⟩
 ·simp
 ·exact ⟨by rw[h2];exact Qbr h3,h4,h5⟩
end Go.Proofs.YtidojbkhlenahaaGreatDoor
