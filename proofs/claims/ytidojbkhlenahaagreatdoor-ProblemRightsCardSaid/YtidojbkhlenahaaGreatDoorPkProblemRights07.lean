/- Part 7. No condition. -/
import Derived.Test.YtidojbkhlenahaaGreatDoorPkProblemRights06
set_option maxRecDepth 100000
set_option maxHeartbeats 16000000
namespace Go.Proofs.YtidojbkhlenahaaGreatDoor
open Go.RowKit WordsM
theorem Qib {B:Nat} {L A:LN} {k i s x y lo hi:Nat} (hL:val B L=val B (A.take i)*(B^k*2^s)) (hx:A[i]?=some x) (hy:L[k+i]?=some y) (h0:L[k+i+1]?=some 0)
 (hp:x*2^s=lo+B*hi):val B ((L.set (k+i) (y+lo)).set (k+i+1) hi)=val B (A.take (i+1))*(B^k*2^s):=by
 have h1:=Qa1 (B:=B) L (k+i) (y+lo) y hy;have h2:=Qa1 (B:=B) (L.set (k+i) (y+lo)) (k+i+1) hi 0 (by rw[Th (by omega)];exact h0);rw[Q1e A i x hx,Tl,<-hL];have e1:B^i*x*(B^k*2^s)=lo*B^(k+i)+hi*B^(k+i+1):=by
  have e2:B^i*x*(B^k*2^s)=(x*2^s)*B^(k+i):=by
   rw[Tw,UA (B^i) x,UM x,<-UM (B^i),UA (B^i),UM (B^k),UA (B^i),<-UM (B^k),UA (B^k) (2^s),UM (2^s),<-UM x]
  rw[e2,hp,Tl,Tg,UA B hi,UM hi,UA B]
 rw[Tl] at h1;omega
theorem Qx8 {s t x y:Nat} (Y0:s+t=32) (hx:x<2^32) (hy:y<2^s):y |||x*2^s%2^32=y+x*2^s%2^32/\y+x*2^s%2^32<2^32/\x*2^s / 2^32<2^s:=by
 have e:(2:Nat)^32=2^t*2^s:=by rw[<-Tw,<-Y0,Xbd]
 have e2:x*2^s%2^32=2^s*(x%2^t):=by rw[e,Nat.mul_mod_mul_right,UA]
 have hm:x%2^t<2^t:=TP _ (Tv (by decide));have B5:2^s*(x%2^t+1)<=2^s*2^t:=Xal _ hm;rw[TE,Xbm,UA (2^s) (2^t),<-e] at B5;refine ⟨?_,?_,?_⟩
 ·rw[e2,Nat.or_comm,<-Nat.two_pow_add_eq_or_of_lt hy,Xbd]
 ·rw[e2];omega
 ·rw[UA];exact TZ (by rw[UA (2^32)];exact Nat.mul_lt_mul_of_pos_left hx (Tv (by decide)))
theorem Qcz (a:OA) (n c:Nat) (v z:Nat) (w:World) (h:Q0x w a n c v) (hn:n<=1000000) (hz:z<=100000000):
 Calls Tryz.prog 206 #[.slice a n c,.int .i64 (z:Int)] w fun e w'=>∃a' n',e=.returned (.slice a' n' n')/\n'<=n+z / 32+1/\Q0x w' a' n' n' (v*2^z)/\Bw w w':=by
 have hv:val (2^32) (dig (2^32) v)=v:=Q0s (by decide) v;have hl:=Q2i (B:=2^32) (by decide) v;have E7:=h.len;have hr:=h.rd;obtain ⟨A,hA⟩:∃A,dig (2^32) v=A:=⟨_,rfl⟩;rw[hA] at hv hl E7 hr;subst E7
 by_cases h0:A.length=0
 ·have j8:A=[]:=UH.1 h0;have x8:v=0:=by rw[<-hv,j8];rfl
  rw[x8,Xaq,h0]
  go_enter Tryz.func206,Tryz.ntmps206
  go_wp2_with fail
  go_ret;exact ⟨none,0,rfl,Ut _,Q0x.nil_ w,Uc _ _⟩
 have Yw:¬((A.length:Int)=0):=by omega
 have h0b:((A.length:Int)==0)=false:=by rw[Uj];exact Yw
 obtain ⟨k,hk⟩:∃k,z / 32=k:=⟨_,rfl⟩;obtain ⟨s,hs⟩:∃s,z%32=s:=⟨_,rfl⟩;have VR:s<32:=by omega
 have KS:z=32*k+s:=by omega
 have Kz:(z:Int).tdiv 32=(k:Int):=by rw[Int.tdiv_eq_ediv_of_nonneg (by omega)];omega
 have hsI:(z:Int).tmod 32=(s:Int):=by rw[Int.tmod_eq_emod_of_nonneg (by omega)];omega
 have hkI2:(z:Int) / 32=(k:Int):=by omega
 have YC:(z:Int)%32=(s:Int):=by omega
 have hzv:v*2^z=v*((2^32)^k*2^s):=by rw[KS,Tw,Xab]
 rw[hzv,hk];have m5:=Xa7 (P:=Tryz.prog) 85 150 (.int .u32 0) 4 Tryz.underlying85 Q6r rfl .i64 .i64 (k+A.length+1) (by omega) (by omega);rw[show ((k+A.length+1:Nat):Int)=(k:Int)+(A.length:Int)+1 by omega,Q2j] at m5;have H:=Xh3 hv hl hr;clear hv hl hr hA h hk hs hzv KS h0
 go_enter Tryz.func206,Tryz.ntmps206
 go_wp2_with fail
 have Z2:Bw w (w.alloc (.cells (Array.replicate (k+A.length+1) (nv .u32 0)) 150)):=Ba;have j8:=Arr.zeros w 150 .u32 (k+A.length+1);have H0:=Xh2 Z2 j8;clear Z2 j8 m5
 go_loopw [6] (fun iv wr=>∃(i:Nat) (L:LN),iv=.int .i64 (i:Int)/\i<=A.length/\Arr 150 .u32 wr w.heap.size L/\L.length=k+A.length+1/\Low (2^32) L/\val (2^32) L=val (2^32) (A.take i)*((2^32)^k*2^s)/\(∀t,k+i<t->t<k+A.length+1->L[t]?=some 0)/\(∃y,L[k+i]?=some y/\y<2^s)/\Bw w wr) (fun iv _=>A.length-(intOf iv).toNat)
 case atStart=>
  refine ⟨0,List.replicate (k+A.length+1) 0,rfl,Ut _,(Xe1 H0),by simp,fun x hx=>?_,by rw[Q7b];simp[val],fun t _ ht=>?_,⟨0,?_,Tv (by decide)⟩,(Xo0 H0)⟩
  ·rw[TV hx];decide
  ·rw[TK];simp[ht]
  ·rw[TK,Uu (by omega)]
 case round=>
  obtain ⟨i,L,rfl,hi,hL,M4,Q0,J0,X3,⟨y,hy,hys⟩,N0⟩:=hrel
  by_cases E0:i<A.length
  ·have F0:(i:Int)<(A.length:Int):=(by omega);obtain ⟨x,hx⟩:∃x,A[i]?=some x:=⟨_,Ub E0⟩;obtain ⟨ba,oa,E5,P3,Y3⟩:=((Xe2 H).below N0).at_ hx;have N4:x<4294967296:=(Xo1 H) x (Ug hx);have B9:y<4294967296:=Q0 y (Ug hy);subst E5;obtain ⟨Y6,ZS,QO⟩:=Qx8 (s:=s) (t:=32-s) (x:=x) (y:=y) (by omega) N4 hys;have WI:=X3 (k+i+1) (by omega) (by omega);have ZL:x*2^s<18446744073709551616:=by
    have h1:x*2^s<=x*2^32:=Xal _ (UL (by decide) (by omega));have h2:x*2^32<2^32*2^32:=TW N4 (by decide);exact TQ h1 h2
   have J1:=fun lo hi (hp:x*2^s=lo+2^32*hi)=>Qib (lo:=lo) (hi:=hi) J0 hx hy WI hp;obtain ⟨p,hp⟩:∃p,x*2^s=p:=⟨_,rfl⟩;have hpI:(x:Int)*2^s=(p:Int):=(by rw[<-hp];norm_cast);rw[hp] at Y6 ZS QO ZL J1;have p5:=Qqb p ZL;obtain ⟨lo,Z4⟩:∃lo,p%4294967296=lo:=⟨_,rfl⟩;obtain ⟨g9,QV⟩:∃hi,p / 4294967296=hi:=⟨_,rfl⟩;rw[Z4] at p5;have QH:lo<4294967296:=(by omega);have YJ:g9<4294967296:=(by omega);have hhiI:(p:Int) / 4294967296=(g9:Int):=(by omega);rw[show p%2^32=lo from Z4] at Y6 ZS;rw[show p / 2^32=g9 from QV] at QO;have Y0:=J1 lo g9 (by omega);have ho32:=u32_or_nat y lo B9 QH;rw[Y6] at ho32;obtain ⟨q,hq⟩:∃q,y+lo=q:=⟨_,rfl⟩;rw[hq] at ho32 ZS Y0;have Wk:wr.cell? ⟨w.heap.size,k+i,none⟩=some (.int .u32 (y:Int)):=hL.cell hy;have Wj:wr.frozen? ⟨w.heap.size,k+i,none⟩=false:=hL.frozen _;have Jo:=hL.set (k+i) q;have X8:(L.set (k+i) q)[k+i+1]?=some 0:=(by rw[Th (by omega)];exact WI);have hzc1:=Jo.cell X8;have hzf1:(wr.setCell ⟨w.heap.size,k+i,none⟩ (.int .u32 (q:Int))).frozen? ⟨w.heap.size,k+i+1,none⟩=false:=Jo.frozen _;have Kx:=Jo.set (k+i+1) g9;have hki:(k:Int)+(i:Int)<(k:Int)+(A.length:Int)+1:=(by omega);have hki1:(k:Int)+(i:Int)+1<(k:Int)+(A.length:Int)+1:=(by omega);have HH:=Xh6 Y0 Kx Q0 N0 X3 QO;clear Y0 hL Jo Kx Q0 J0 N0 X3 Z4 QV hp hx hy WI J1 Y6 X8 QO hq
   go_wp2_with fail
   refine ⟨⟨i+1,(L.set (k+i) q).set (k+i+1) g9,by simp,by omega,(Xo1 HH),by simp[M4],Q42 (Q42 (Xo2 HH) ZS) YJ,(Xo0 HH),fun t I3 F2=>?_,⟨g9,?_,(Xe5 HH)⟩,((Xo3 HH).setCell (p:=⟨w.heap.size,k+i,none⟩) (Uf _) _).setCell (p:=⟨w.heap.size,k+i+1,none⟩) (Uf _) _⟩,by simp only[intOf];omega⟩
   ·rw[Th (by omega),Th (by omega)];exact (Xo4 HH) t (by omega) F2
   ·rw[show k+(i+1)=k+i+1 by omega,TN (by rw[Tm];omega)]
  ·obtain rfl:i=A.length:=(by omega);have F0:¬((A.length:Int)<(A.length:Int)):=(by omega);rw[Ti,(Xo0 H)] at J0;have hT:=Q54 (some ⟨w.heap.size,0,none⟩) (k+A.length+1) (k+A.length+1) L wr M4 (Uf _) (by omega) hL.rd Q0;rw[J0] at hT;have HE:=Xh2 hT N0;clear hT N0 J0 hL Q0 X3
   go_wp2_with (refine (Xo0 HE).mono ?_;rintro e w1 ⟨n',rfl,ZF,hD,rfl⟩;have Kl:=Xh2 hD ZF;clear hD ZF)
   go_ret;exact ⟨_,n',rfl,by have:=(Xe1 Kl);omega,(Xo0 Kl),(Xe1 HE)⟩
theorem Qrn {s t x y:Nat} (Y0:s+t=64) (hx:x<2^64) (hy:y<2^s):y |||x*2^s%2^64=y+x*2^s%2^64/\y+x*2^s%2^64<2^64/\x*2^s / 2^64<2^s/\x / 2^t=x*2^s / 2^64:=by
 have e:(2:Nat)^64=2^t*2^s:=by rw[<-Tw,<-Y0,Xbd]
 have e2:x*2^s%2^64=2^s*(x%2^t):=by rw[e,Nat.mul_mod_mul_right,UA]
 have hm:x%2^t<2^t:=TP _ (Tv (by decide));have B5:2^s*(x%2^t+1)<=2^s*2^t:=Xal _ hm;rw[TE,Xbm,UA (2^s) (2^t),<-e] at B5;refine ⟨?_,?_,?_,?_⟩
 ·rw[e2,Nat.or_comm,<-Nat.two_pow_add_eq_or_of_lt hy,Xbd]
 ·rw[e2];omega
 ·rw[UA];exact TZ (by rw[UA (2^64)];exact Nat.mul_lt_mul_of_pos_left hx (Tv (by decide)))
 ·rw[e,Nat.mul_div_mul_right _ _ (Tv (by decide))]
theorem Qd0 (a:OA) (n c:Nat) (ls:LN) (z:Nat) (w:World) (h:WordsIn w a n c ls) (hn:n<=1000000) (hz:z<=100000000):
 Calls Tryz.prog 150 #[.slice a n c,.int .i64 (z:Int)] w (Q90 w (val (2^64) ls*2^z)):=by
 have Q2:=h.len;have H1:=Ua h;clear h;have S5:=trim_len ls
 by_cases h0:(trimL ls).length=0
 ·have j8:trimL ls=[]:=UH.1 h0;have x8:val (2^64) ls=0:=by rw[<-Q17,j8];rfl
  rw[x8,Xaq];have h0I:((trimL ls).length:Int)=0:=by omega
  have h0b:(((trimL ls).length:Int)==0)=true:=by rw[beq_iff_eq];exact h0I
  go_enter Tryz.func150,Tryz.ntmps150
  go_wp2_with (refine (Q19 a n c ls _ H1.out).mono ?_;rintro e w1 ⟨rfl,A0⟩;have O0:=Ua A0;clear A0)
  go_ret;exact ⟨none,0,0,rfl,WordsIn.nil_ _,O0.out⟩
 have h0I:¬((trimL ls).length:Int)=0:=by omega
 have h0b:(((trimL ls).length:Int)==0)=false:=by rw[Uj];exact h0I
 obtain ⟨k,hk⟩:∃k,z / 64=k:=⟨_,rfl⟩;obtain ⟨s,hs⟩:∃s,z%64=s:=⟨_,rfl⟩;have VT:s<64:=by omega
 have KS:z=64*k+s:=by omega
 have Kz:(z:Int).tdiv 64=(k:Int):=by rw[Int.tdiv_eq_ediv_of_nonneg (by omega)];omega
 have hsI:(z:Int).tmod 64=(s:Int):=by rw[Int.tmod_eq_emod_of_nonneg (by omega)];omega
 have hkI2:(z:Int) / 64=(k:Int):=by omega
 have YC:(z:Int)%64=(s:Int):=by omega
 have N7:(64:Int)-(s:Int)=((64-s:Nat):Int):=by omega
 have hzv:val (2^64) ls*2^z=val (2^64) (trimL ls)*((2^64)^k*2^s):=by rw[Q17,KS,Tw,Xab]
 rw[hzv];obtain ⟨A,hA⟩:∃A,trimL ls=A:=⟨_,rfl⟩;have hT:=fun W (hb:Bw w W)=>(H1.out.step hb).trim;rw[hA] at S5 h0I h0b hT⊢;have m5:=Xa7 (P:=Tryz.prog) 24 83 (.int .u64 0) 8 Tryz.underlying24 Q5r rfl .i64 .i64 (A.length+k+1) (by omega) (by omega);rw[show ((A.length+k+1:Nat):Int)=(A.length:Int)+(k:Int)+1 by omega,Q2j] at m5;have HT:=Ua hT;have hcut:=fun W hb=>Q19 a n c ls W (H1.out.step hb);rw[hA] at hcut;have HC:=Ua hcut;clear hT hk hs hzv KS h0 hA hcut
 go_enter Tryz.func150,Tryz.ntmps150
 go_wp2_with (refine (HC.out _ (Uc _ _)).mono ?_;rintro e w1 ⟨rfl,A0⟩;have O0:=Ua A0;clear A0)
 have I1:=HT.out w1 O0.out;have g7:=I1.low;have j9:=I1.rd;have Z2:Bw w1 (w1.alloc (.cells (Array.replicate (A.length+k+1) (nv .u64 0)) 83)):=Ba;have j8:=Arr.zeros w1 83 .u64 (A.length+k+1);have H0:=Xh2 Z2 j8;have H:=Xh2 g7 j9;clear Z2 j8 m5 I1 g7 j9
 go_loopw [27] (fun iv wr=>∃(i:Nat) (L:LN),iv=.int .i64 (i:Int)/\i<=A.length/\Arr 83 .u64 wr w1.heap.size L/\L.length=A.length+k+1/\Low (2^64) L/\val (2^64) L=val (2^64) (A.take i)*((2^64)^k*2^s)/\(∀t,k+i<t->t<A.length+k+1->L[t]?=some 0)/\(∃y,L[k+i]?=some y/\y<2^s)/\Bw w1 wr) (fun iv _=>A.length-(intOf iv).toNat)
 case atStart=>
  refine ⟨0,List.replicate (A.length+k+1) 0,rfl,Ut _,(Xe1 H0),by simp,fun x hx=>?_,by rw[Q7b];simp[val],fun t _ ht=>?_,⟨0,?_,Tv (by decide)⟩,(Xo0 H0)⟩
  ·rw[TV hx];decide
  ·rw[TK];simp[ht]
  ·rw[TK,Uu (by omega)]
 case round=>
  obtain ⟨i,L,rfl,hi,hL,M4,Q0,J0,X3,⟨y,hy,hys⟩,N0⟩:=hrel
  by_cases E0:i<A.length
  ·have F0:(i:Int)<(A.length:Int):=(by omega);obtain ⟨x,hx⟩:∃x,A[i]?=some x:=⟨_,Ub E0⟩;obtain ⟨ba,oa,E5,P3,Y3⟩:=((Xe1 H).below N0).at_ hx;have N4:x<18446744073709551616:=(Xo0 H) x (Ug hx);have B9:y<18446744073709551616:=Q0 y (Ug hy);subst E5;obtain ⟨Y6,JB,QO,VB⟩:=Qrn (s:=s) (t:=64-s) (x:=x) (y:=y) (by omega) N4 hys;have WI:=X3 (k+i+1) (by omega) (by omega);have J1:=fun lo hi (hp:x*2^s=lo+2^64*hi)=>Qib (lo:=lo) (hi:=hi) J0 hx hy WI hp;have KJ:((x:Int)*2^s)%18446744073709551616=((x*2^s%2^64:Nat):Int):=(by rw[Int.natCast_emod,Int.natCast_mul,Int.natCast_pow];rfl);have Xk:(x:Int) / 2^(64-s)=((x / 2^(64-s):Nat):Int):=(by norm_cast);obtain ⟨p,hp⟩:∃p,x*2^s=p:=⟨_,rfl⟩;rw[VB] at Xk;rw[hp] at Y6 JB QO J1 KJ Xk;obtain ⟨lo,Z4⟩:∃lo,p%2^64=lo:=⟨_,rfl⟩;obtain ⟨g9,QV⟩:∃hi,p / 2^64=hi:=⟨_,rfl⟩;have hpd:=Nat.mod_add_div p (2^64);rw[Z4,QV] at hpd;have Y0:=J1 lo g9 hpd.symm;rw[Z4] at Y6 JB KJ;rw[QV] at QO Xk;have QH:lo<18446744073709551616:=(by rw[<-Z4];exact TP _ (by decide));have YJ:g9<18446744073709551616:=Nat.lt_trans QO (Nat.pow_lt_pow_right (by decide) VT);have YG:=u64_or_nat y lo B9 QH;rw[Y6] at YG;obtain ⟨q,hq⟩:∃q,y+lo=q:=⟨_,rfl⟩;rw[hq] at YG JB Y0;rw[Xbd k i] at Y0 hy WI;have Wk:wr.drew.cell? ⟨w1.heap.size,i+k,none⟩=some (.int .u64 (y:Int)):=hL.cell hy;have Wj:wr.drew.frozen? ⟨w1.heap.size,i+k,none⟩=false:=hL.frozen _;have Jo:Arr 83 .u64 (wr.setCell ⟨w1.heap.size,i+k,none⟩ (.int .u64 (q:Int))).drew w1.heap.size (L.set (i+k) q):=Arr.set (w:=wr) hL (i+k) q;have X8:(L.set (i+k) q)[i+k+1]?=some 0:=(by rw[Th (by omega)];exact WI);have hzc1:=Jo.cell X8;have hzf1:(wr.setCell ⟨w1.heap.size,i+k,none⟩ (.int .u64 (q:Int))).drew.frozen? ⟨w1.heap.size,i+k+1,none⟩=false:=Jo.frozen _;have Kx:=Jo.set (i+k+1) g9;have hcx':wr.drew.cell? ⟨ba,oa+i,none⟩=some (.int .u64 (x:Int)):=Y3;have hki:(i:Int)+(k:Int)<(A.length:Int)+(k:Int)+1:=(by omega);have hki1:(i:Int)+(k:Int)+1<(A.length:Int)+(k:Int)+1:=(by omega);have hkia:(k:Int)+(i:Int)<(A.length:Int)+(k:Int)+1:=(by omega);have hkia1:(k:Int)+(i:Int)+1<(A.length:Int)+(k:Int)+1:=(by omega);have HH:=Xh6 Y0 Kx Q0 N0 X3 QO;clear Y0 hL Jo Kx Q0 J0 N0 X3 Z4 QV hp hx hy WI J1 Y6 X8 QO hq hpd VB;have X2:bits .or .u64 (y:Int) (IntKind.u64.wrap ((x:Int)*2^s))=(q:Int):=by rw[IntKind.wrap_u64,KJ,YG]
   go_wp2_with fail
   go_region
   go_wp2_with fail
   refine ⟨⟨i+1,(L.set (i+k) q).set (i+k+1) g9,by simp,by omega,(Xo1 HH),by simp[M4],Q42 (Q42 (Xo2 HH) JB) YJ,(Xo0 HH),fun t I3 F2=>?_,⟨g9,?_,(Xe5 HH)⟩,((Xo3 HH).setCell (p:=⟨w1.heap.size,i+k,none⟩) (Uf _) _).drew.setCell (p:=⟨w1.heap.size,i+k+1,none⟩) (Uf _) _⟩,by simp only[intOf];omega⟩
   ·rw[Th (by omega),Th (by omega)];exact (Xo4 HH) t (by omega) F2
   ·rw[show k+(i+1)=i+k+1 by omega,TN (by rw[Tm];omega)]
  ·obtain rfl:i=A.length:=(by omega);have F0:¬((A.length:Int)<(A.length:Int)):=(by omega);rw[Ti] at J0;have hWL:WordsIn wr (some ⟨w1.heap.size,0,none⟩) (A.length+k+1) (A.length+k+1) L:=⟨M4,Uf _,by omega,Q0,hL.rd⟩;have hT:=hWL.trim;rw[Q1m (by decide) Q0,J0] at hT;have hC:=Q19 (some ⟨w1.heap.size,0,none⟩) (A.length+k+1) (A.length+k+1) L wr hWL;rw[Q1m (by decide) Q0,J0] at hC;have HE:=Xh3 hC hT N0;clear hT N0 J0 hL Q0 X3 hC hWL
   go_wp2_with (refine (Xo0 HE).mono ?_;rintro e w2 ⟨rfl,D0⟩;have D1:=Ua D0;clear D0)
   go_ret;exact ⟨_,_,_,rfl,(Xo1 HE).step D1.out,Below.next0 (Below.next0 O0.out (Xe2 HE)) D1.out⟩
theorem Qob {B:Nat} {A K:LN} {i x S:Nat} (hx:A[i]?=some x) (h:S=val B (A.take i)*val B K+x*B^i*val B K):S=val B (A.take (i+1))*val B K:=by
 rw[Q1e A i x hx,h,Tl,UA x]
theorem Qoc {B V:Nat} {K:LN} {i j x y:Nat} (hy:K[j]?=some y):V+x*B^i*val B (K.take j)+x*y*B^(i+j)=V+x*B^i*val B (K.take (j+1)):=by
 rw[Q1e K j y hy,TE,Tw,Nat.add_assoc]
 congr 2
 rw[UM x (B^i),<-UM (B^i) (B^j) y,UA (B^i*B^j) y];simp only[UM]
theorem Qf2 (a:OA) (n c:Nat) (ls:LN) (b:OA) (m d:Nat) (ks:LN) (w:World) (h1:WordsIn w a n c ls) (h2:WordsIn w b m d ks) (hn:n<=100000) (hm:m<=100000):
 Calls Tryz.prog 296 #[.slice a n c,.slice b m d] w (Q90 w (val (2^64) ls*val (2^64) ks)):=by
 have i5:=h1.len;have o7:=h2.len;have H1:=Ua h1;have H2:=Ua h2;have I3:=trim_len ls;have F2:=trim_len ks;have QX:val (2^64) (trimL ls)=val (2^64) ls:=Q17 ls;have QE:val (2^64) (trimL ks)=val (2^64) ks:=Q17 ks;have C2:=fun W (hb:Bw w W)=>Q19 a n c ls W (h1.step hb);have A2:=fun W (hb:Bw w W)=>Q19 b m d ks W (h2.step hb);obtain ⟨A,hA⟩:∃A,trimL ls=A:=⟨_,rfl⟩;obtain ⟨K,hK⟩:∃K,trimL ks=K:=⟨_,rfl⟩;have E3:=fun W (hb:Bw w W)=>(h1.step hb).trim;have R4:=fun W (hb:Bw w W)=>(h2.step hb).trim;rw[hA] at I3 QX C2 E3;rw[hK] at F2 QE A2 R4;rw[<-QX,<-QE];have HC:=Xh2 C2 A2;have HW:=Xh2 E3 R4;clear hA hK QX QE C2 A2 E3 R4 h1 h2 H1 H2
 by_cases h0:A.length=0∨K.length=0
 ·have hz:val (2^64) A*val (2^64) K=0:=by
   rcases h0 with h0|h0
   ·rw[UH.1 h0];simp[val]
   ·rw[UH.1 h0];simp[val]
  have HZ:=Ua hz;rw[hz];clear hz
  by_cases j8:A.length=0
  ·have hA0':((A.length:Int)==0)=true:=by simp[j8]
   go_enter Tryz.func296,Tryz.ntmps296
   go_wp2_with (first
    |(go_at_call_of 144 a;refine ((Xo0 HC) _ (Uc _ _)).mono ?_;rintro e w1 ⟨rfl,A0⟩;have O0:=Ua A0;clear A0)
    |(go_at_call_of 144 b;refine ((Xe1 HC) _ O0.out).mono ?_;rintro e w2 ⟨rfl,D0⟩;have D1:=Ua (Below.next0 O0.out D0);clear D0))
   go_ret;exact ⟨none,0,0,rfl,⟨rfl,Uf _,Ut _,fun x hx=>by simp[Q1d] at hx,.inl rfl⟩,D1.out⟩
  ·have hK0:K.length=0:=(by omega);have hA0':((A.length:Int)==0)=false:=(by rw[Uj];omega);have hK0':((K.length:Int)==0)=true:=by simp[hK0]
   go_enter Tryz.func296,Tryz.ntmps296
   go_wp2_with (first
    |(go_at_call_of 144 a;refine ((Xo0 HC) _ (Uc _ _)).mono ?_;rintro e w1 ⟨rfl,A0⟩;have O0:=Ua A0;clear A0)
    |(go_at_call_of 144 b;refine ((Xe1 HC) _ O0.out).mono ?_;rintro e w2 ⟨rfl,D0⟩;have D1:=Ua (Below.next0 O0.out D0);clear D0))
   go_ret;exact ⟨none,0,0,rfl,⟨rfl,Uf _,Ut _,fun x hx=>by simp[Q1d] at hx,.inl rfl⟩,D1.out⟩
 have hA0':((A.length:Int)==0)=false:=by rw[Uj];omega
 have hK0':((K.length:Int)==0)=false:=by rw[Uj];omega
 have m5:=Xa7 (P:=Tryz.prog) 24 83 (.int .u64 0) 8 Tryz.underlying24 Q5r rfl .i64 .i64 (A.length+K.length) (by omega) (by omega);rw[show ((A.length+K.length:Nat):Int)=(A.length:Int)+(K.length:Int) by omega,Q2j] at m5
 go_enter Tryz.func296,Tryz.ntmps296
 go_wp2_with (first
  |(go_at_call_of 144 a;refine ((Xo0 HC) _ (Uc _ _)).mono ?_;rintro e w1 ⟨rfl,A0⟩;have O0:=Ua A0;clear A0)
  |(go_at_call_of 144 b;refine ((Xe1 HC) _ O0.out).mono ?_;rintro e wc ⟨rfl,D0⟩;have D1:=Ua (Below.next0 O0.out D0);clear D0))
 have Z2:Bw wc (wc.alloc (.cells (Array.replicate (A.length+K.length) (nv .u64 0)) 83)):=Ba;have j8:=Arr.zeros wc 83 .u64 (A.length+K.length);have VF:=Xh2 ((Xo0 HW) wc D1.out) ((Xe1 HW) wc D1.out);have H0:=Xh2 Z2 j8;clear Z2 j8 m5 h0 HW HC
 go_loopw [34] (fun iv wr=>∃(i:Nat) (L:LN),iv=.int .i64 (i:Int)/\i<=A.length/\Arr 83 .u64 wr wc.heap.size L/\L.length=A.length+K.length/\Low (2^64) L/\val (2^64) L=val (2^64) (A.take i)*val (2^64) K/\(∀t,i+K.length<=t->t<A.length+K.length->L[t]?=some 0)/\Bw wc wr) (fun iv _=>A.length-(intOf iv).toNat)
 case atStart=>
  refine ⟨0,List.replicate (A.length+K.length) 0,rfl,Ut _,(Xe1 H0),by simp,fun x hx=>?_,by rw[Q7b];simp[val],fun t _ ht=>?_,(Xo0 H0)⟩
  ·rw[TV hx];decide
  ·rw[TK];simp[ht]
 case round=>
  obtain ⟨i,L,rfl,hi,hL,M4,Q0,J0,X3,N0⟩:=hrel
  by_cases E0:i<A.length
  ·have F0:(i:Int)<(A.length:Int):=(by omega);obtain ⟨x,hx⟩:∃x,A[i]?=some x:=⟨_,Ub E0⟩;obtain ⟨ba,oa,E5,P3,Y3⟩:=((Xo0 VF).rd.below N0).at_ hx;have N4:x<18446744073709551616:=(Xo0 VF).low x (Ug hx);subst E5;have HH:=Xh6 hL Q0 J0 N0 hx X3;clear hL Q0 J0 N0 X3 hx
   go_wp2_with fail
   go_loopw [8,41] (fun cv jv wr=>∃(j cr:Nat) (L:LN),cv=.int .u64 (cr:Int)/\jv=.int .i64 (j:Int)/\j<=K.length/\cr<18446744073709551616/\Arr 83 .u64 wr wc.heap.size L/\L.length=A.length+K.length/\Low (2^64) L/\val (2^64) L+cr*(2^64)^(i+j)=val (2^64) (A.take i)*val (2^64) K+x*(2^64)^i*val (2^64) (K.take j)/\(∀t,i+K.length<=t->t<A.length+K.length->L[t]?=some 0)/\Bw wc wr) (fun _ jv _=>K.length-(intOf jv).toNat)
   case atStart=>exact ⟨0,0,L,rfl,rfl,Ut _,by decide,(Xo0 HH),M4,(Xo1 HH),by rw[(Xo2 HH)];simp[val],(Xe5 HH),(Xo3 HH)⟩
   case round=>
    have HX:=Ua (Xo4 HH);clear M4 HH;obtain ⟨j,cr,L,rfl,rfl,hj,QI,hL,M4,Q0,J0,X3,N0⟩:=hrel
    by_cases hlj:j<K.length
    ·have hlj':(j:Int)<(K.length:Int):=(by omega);obtain ⟨y,hy⟩:∃y,K[j]?=some y:=⟨_,Ub hlj⟩;obtain ⟨z,hz⟩:∃z,L[i+j]?=some z:=⟨_,Ub (by omega)⟩;obtain ⟨bb,ob,I8,Y2,K9⟩:=((Xe1 VF).rd.below N0).at_ hy;have B9:y<18446744073709551616:=(Xe1 VF).low y (Ug hy);have E9:z<18446744073709551616:=Q0 z (Ug hz);subst I8;have D6:=Qm3 (B:=18446744073709551616) (by decide) N4 B9 E9 QI;have Y0:=Qbj (B:=2^64) (b:=x*y) (c:=cr) hz J0;rw[Qoc hy] at Y0;rw[show (z+x*y+cr)%2^64=((x*y%18446744073709551616+z)%18446744073709551616+cr)%18446744073709551616 from D6.1.symm,show (z+x*y+cr) / 2^64=x*y / 18446744073709551616+(x*y%18446744073709551616+z) / 18446744073709551616+((x*y%18446744073709551616+z)%18446744073709551616+cr) / 18446744073709551616 from D6.2.1.symm] at Y0;have Jg:=D6.2.2;rw[<-D6.2.1] at Jg;have y8:=fun W=>Tryz.J27 x y N4 B9 W;have QH:x*y%18446744073709551616<18446744073709551616:=TP _ (by decide);generalize x*y%18446744073709551616=lo at*;generalize x*y / 18446744073709551616=hi at*;have hadd1:∀W,(callFunc 256 #[.int .u64 (lo:Int),.int .u64 (z:Int),.int .u64 0]).run Tryz.prog W=.ok (.value (.tuple #[.int .u64 (((lo+z)%18446744073709551616:Nat):Int),.int .u64 (((lo+z) / 18446744073709551616:Nat):Int)])) W:=fun W=>Q8z lo z 0 QH E9 (by decide) W;have i5:(lo+z)%18446744073709551616<18446744073709551616:=TP _ (by decide);generalize (lo+z)%18446744073709551616=lo1 at*;generalize (lo+z) / 18446744073709551616=m1 at*;have hadd2:∀W,(callFunc 256 #[.int .u64 (lo1:Int),.int .u64 (cr:Int),.int .u64 0]).run Tryz.prog W=.ok (.value (.tuple #[.int .u64 (((lo1+cr)%18446744073709551616:Nat):Int),.int .u64 (((lo1+cr) / 18446744073709551616:Nat):Int)])) W:=fun W=>Q8z lo1 cr 0 i5 QI (by decide) W;have o7:(lo1+cr)%18446744073709551616<18446744073709551616:=TP _ (by decide);generalize (lo1+cr)%18446744073709551616=lo2 at*;generalize (lo1+cr) / 18446744073709551616=m2 at*;have Wk:wr.cell? ⟨wc.heap.size,i+j,none⟩=some (.int .u64 (z:Int)):=hL.cell hz;have Wj:wr.frozen? ⟨wc.heap.size,i+j,none⟩=false:=hL.frozen _;have XG:(i:Int)+(j:Int)<(A.length:Int)+(K.length:Int):=(by omega);have HM:=Ua y8;have HH:=Xh5 Y0 hL Q0 N0 X3;clear y8 Y0 hL Q0 J0 N0 X3 D6 hy hz
     go_wp2_with (refine (HM.out _).mono ?_;rintro e w5 ⟨rfl,rfl⟩)
     refine ⟨⟨j+1,hi+m1+m2,L.set (i+j) lo2,by simp,by simp,by omega,Jg,(Xo1 HH).set (i+j) lo2,by simp[M4],Q42 (Xo2 HH) o7,(Xo0 HH),fun t I3 F2=>?_,(Xo3 HH).setCell (p:=⟨wc.heap.size,i+j,none⟩) (Uf _) _⟩,by simp only[intOf];omega⟩;rw[Th (by omega)];exact (Xe4 HH) t I3 F2
    ·obtain rfl:j=K.length:=(by omega);have hlj':¬((K.length:Int)<(K.length:Int)):=(by omega);have E2:=X3 (i+K.length) (Uf _) (by omega);have Wk:wr.cell? ⟨wc.heap.size,i+K.length,none⟩=some (.int .u64 0):=hL.cell E2;have Wj:wr.frozen? ⟨wc.heap.size,i+K.length,none⟩=false:=hL.frozen _;have XG:(i:Int)+(K.length:Int)<(A.length:Int)+(K.length:Int):=(by omega);have K2:=Qa1 (B:=2^64) L (i+K.length) cr 0 E2;rw[Xaq,TD,J0,Ti] at K2;have hvo:=Qob HX.out K2;have HH:=Xh5 hvo hL Q0 N0 X3;clear K2 hvo J0 hL Q0 N0 X3 E2
     go_wp2_with fail
     refine ⟨⟨i+1,L.set (i+K.length) cr,by simp,by omega,(Xo1 HH).set _ cr,by simp[M4],Q42 (Xo2 HH) QI,(Xo0 HH),fun t I3 F2=>?_,(Xo3 HH).setCell (p:=⟨wc.heap.size,i+K.length,none⟩) (Uf _) _⟩,by simp only[intOf];omega⟩;rw[Th (by omega)];exact (Xe4 HH) t (by omega) F2
  ·obtain rfl:i=A.length:=(by omega);have F0:¬((A.length:Int)<(A.length:Int)):=(by omega);rw[Ti] at J0;have hW:WordsIn wr (some ⟨wc.heap.size,0,none⟩) (A.length+K.length) (A.length+K.length) L:=⟨M4,Uf _,by omega,Q0,hL.rd⟩;have J7:Bw w wr:=Below.next0 D1.out N0;have E4:trimL L=dig (2^64) (val (2^64) A*val (2^64) K):=(by rw[Q1m (by decide) Q0,J0]);have HE:=Xh3 hW J7 E4;clear hW J7 E4 J0 hL Q0 X3 N0
   go_wp2_with (refine (Q19 _ _ _ _ _ (Xo0 HE)).mono ?_;rintro e w5 ⟨rfl,C1⟩;have M3:=Ua C1;clear C1)
   go_ret;have D4:=((Xo0 HE).step M3.out).trim;rw[(Xe2 HE)] at D4⊢;exact ⟨_,_,_,rfl,D4,Below.next0 (Xo1 HE) M3.out⟩
section
variable {w:World} {b g:Nat} {v0 v1 v2:Value}
theorem Q03.set0 (h:Q03 w b v0 v1 v2) (u:Value):Q03 (w.setCell ⟨b,0,none⟩ u) b u v1 v2:=
 ⟨UD _ _ _ (by rw[h.c0];rfl),(Ud _ _ _ _ (by simp)).trans h.c1,(Ud _ _ _ _ (by simp)).trans h.c2,(Un _ _ _ _).trans h.f0,(Un _ _ _ _).trans h.f1,(Un _ _ _ _).trans h.f2⟩
theorem Q03.set2 (h:Q03 w b v0 v1 v2) (u:Value):Q03 (w.setCell ⟨b,2,none⟩ u) b v0 v1 u:=
 ⟨(Ud _ _ _ _ (by simp)).trans h.c0,(Ud _ _ _ _ (by simp)).trans h.c1,UD _ _ _ (by rw[h.c2];rfl),(Un _ _ _ _).trans h.f0,(Un _ _ _ _).trans h.f1,(Un _ _ _ _).trans h.f2⟩
theorem Q03.far (h:Q03 w b v0 v1 v2) {p:Addr} (hp:p.block≠b) (u:Value):Q03 (w.setCell p u) b v0 v1 v2:=
 ⟨(Ud _ _ _ _ (fun e=>hp (by rw[e]))).trans h.c0,(Ud _ _ _ _ (fun e=>hp (by rw[e]))).trans h.c1,(Ud _ _ _ _ (fun e=>hp (by rw[e]))).trans h.c2,(Un _ _ _ _).trans h.f0,(Un _ _ _ _).trans h.f1,(Un _ _ _ _).trans h.f2⟩
theorem Q03.far3 (h:Q03 w b v0 v1 v2) (hg:g≠b) (u0 u1 u2:Value):Q03 (((w.setCell ⟨g,0,none⟩ u0).setCell ⟨g,1,none⟩ u1).setCell ⟨g,2,none⟩ u2) b v0 v1 v2:=
 ((h.far (p:=⟨g,0,none⟩) hg u0).far (p:=⟨g,1,none⟩) hg u1).far (p:=⟨g,2,none⟩) hg u2
theorem Qyq (w:World) (g:Nat) (u0 u1 u2:Value):(((w.setCell ⟨g,0,none⟩ u0).setCell ⟨g,1,none⟩ u1).setCell ⟨g,2,none⟩ u2).heap.size=w.heap.size:=by simp[Tj]
end
theorem Q3w (neg:Bool) (e:Int) (a:OA) (n c:Nat) (ls:LN) (w:World) (h:WordsIn w a n c ls) (hn:n<=1000000):
 Calls Tryz.prog 95 #[.agg #[.bool neg,.int .i64 e,.slice a n c]] w fun r w'=>r=.returned (.int .i64 (if val (2^64) ls=0 then 0 else if neg=true then -1 else 1))/\Bw w w':=by
 have Z0:Bw w (w.alloc (.cells #[.bool neg,.int .i64 e,.slice a n c] 26)):=Ba;have hN:=Q03.new w (.bool neg) (.int .i64 e) (.slice a n c) 26;have J3:=Q0p w (.cells #[.bool neg,.int .i64 e,.slice a n c] 26);have WP:=Qm6 a n c ls _ (h.step Z0) (by omega);have Jv:=hN.c0;have Z6:=hN.c2;have HB:=Xh4 WP hN J3 Z0;clear Z0 hN J3 WP h
 by_cases h0:val (2^64) ls=0
 ·rw[Uu h0];have H0:=Ua h0;clear h0
  go_enter Tryz.func95,Tryz.ntmps95
  go_wp2_with (refine (Xo0 HB).mono ?_;rintro r w1 ⟨⟨k,rfl,hk⟩,A0⟩;obtain rfl:k=0:=hk.2 H0.out;have O0:=Ua A0;clear A0 hk)
  go_ret;exact ⟨rfl,Below.next0 (Xe3 HB) O0.out⟩
 ·rw[Us h0];have H0:=Ua h0;clear h0;cases neg
  all_goals
   go_enter Tryz.func95,Tryz.ntmps95
   go_wp2_with (refine (Xo0 HB).mono ?_;rintro r w1 ⟨⟨k,rfl,hk⟩,A0⟩;have Ye:((k:Int)==0)=false:=(by rw[Uj];intro e;exact H0.out (hk.1 (by omega)));have hki:¬(k:Int)=0:=(by intro e;exact H0.out (hk.1 (by omega)));have O4:=((Xo1 HB).step A0 (Xo2 HB)).c0;have O0:=Ua A0;clear A0 hk)
   go_ret;exact ⟨rfl,Below.next0 (Xe3 HB) O0.out⟩
theorem Qic (neg:Bool) (e:Int) (a:OA) (n c:Nat) (w:World):
 Calls Tryz.prog 164 #[.agg #[.bool neg,.int .i64 e,.slice a n c]] w fun r w'=>r=.returned (.agg #[.bool false,.int .i64 e,.slice a n c])/\Bw w w':=by
 obtain ⟨Y1,hX,hR,hB⟩:=Q7d w (.bool neg) (.int .i64 e) (.slice a n c) (.bool false) (.int .i64 0) (.slice none 0 0) 26 26;generalize hW:(w.alloc (.cells #[.bool neg,.int .i64 e,.slice a n c] 26)).alloc (.cells #[.bool false,.int .i64 0,.slice none 0 0] 26)=W at hX hR hB Y1;have O4:=hX.c0;have JD:=hX.f0;have N5:=hX.set0 (.bool false);obtain ⟨S4,Q3,VH⟩:=N5.cc;have M5:=hR.far (p:=⟨w.heap.size,0,none⟩) (by show w.heap.size≠w.heap.size+1;omega) (.bool false);have Xn:=hB.setCell (p:=⟨w.heap.size,0,none⟩) (Uf _) (.bool false);obtain ⟨c0,c1,c2,f0,f1,f2⟩:=M5.cf;have d1:=M5.d1 (.bool false);have d2:=M5.d2 (.bool false) (.int .i64 e);have HR:=Xh2 (M5.store (.bool false) (.int .i64 e) (.slice a n c)) (Q03.below Xn (show w.heap.size<=w.heap.size+1 by omega) (.bool false) (.int .i64 e) (.slice a n c));clear hX hR hB N5 M5 Xn Y1
 go_enter Tryz.func164,Tryz.ntmps164
 go_wp2_with fail
 have k0:=(Xo0 HR).c0;have k1:=(Xo0 HR).c1;have k2:=(Xo0 HR).c2;refine ⟨rfl,.agg #[.bool false,.int .i64 e,.slice a n c],by simp[results,go_sem,k0,k1,k2],rfl,(Xe1 HR)⟩
structure Qyr (w wx:World) (D:Dyadic) (T lo hi:Int) (n1:Bool) (e1:Int) (a1:OA) (l1 c1:Nat) (L1:LN) (n2:Bool) (e2:Int) (a2:OA) (l2 c2:Nat) (L2:LN):Prop where
 b1:Q03 wx w.heap.size (.bool n1) (.int .i64 e1) (.slice a1 l1 c1)
 b2:Q03 wx (w.heap.size+1) (.bool n2) (.int .i64 e2) (.slice a2 l2 c2)
 br:Q03 wx (w.heap.size+2) (.bool false) (.int .i64 0) (.slice none 0 0)
 lt:w.heap.size+2<wx.heap.size
 w1:WordsIn w a1 l1 c1 L1
 w2:WordsIn w a2 l2 c2 L2
 le:e1<=e2
 v1:val (2^64) L1≠0
 v2:val (2^64) L2≠0
 s1:l1<=20000
 s2:l2<=20000
 lo1:lo<=e1
 hi2:e2<=hi
 rng:e2-e1<=2000000
 t1:64*(l1:Int)+e1<=T
 t2:64*(l2:Int)+e2<=T
 sum:Q1r n1 e1 L1+Q1r n2 e2 L2=D
 bel:Bw w wx
theorem Qgj {v K:Nat} (h:v<2^K):64*(dig (2^64) v).length<=K+63:=by
 have h1:v<(2^64)^((K+63) / 64):=Ue h (by rw[<-Xab];exact UL (by decide) (by omega));have h2:=Q2q (B:=2^64) (by decide) h1;omega
theorem Q82 {L:LN} (h:Low (2^64) L):val (2^64) L<2^(64*L.length):=by
 have:=Q2y (B:=2^64) (by decide) L h;rwa[<-Xab] at this
theorem Qus (n:Bool) (A B:Nat):sgn n A+sgn n B=sgn n (A+B):=by
 cases n <;> simp[sgn] <;> omega
theorem Qid (n:Bool) (A B:Nat):sgn n A+sgn (!n) B=if B<=A then sgn n (A-B) else sgn (!n) (B-A):=by
 cases n <;> simp[sgn] <;> split <;> omega
theorem Qx9 (n:Bool) (e1 e2:Int) (L:LN) (z:Nat) (h:e2-e1=(z:Int)):Q1r n e2 L=dy (sgn n (val (2^64) L*2^z)) e1:=by
 unfold Q1r;rw[show e2=e1+(z:Int) by omega,Qcc,Q3k]
theorem Qbq (n:Bool) (e:Int) (v:Nat):Q1r n e (dig (2^64) v)=dy (sgn n v) e:=by
 unfold Q1r;rw[Q0s (by decide)]
theorem Qie (n:Bool) (e:Int) {L:LN} (h:val (2^64) L=0):Q1r n e L=0:=by
 unfold Q1r;rw[h,Q4b];rfl
theorem Qxa {A B l1 l2 z V:Nat} {e1 e2 T:Int} (hA:A<2^(64*l1)) (hB:B<2^(64*l2)) (hV:V<=A+B*2^z) (hz:e2-e1=(z:Int)) (t1:64*(l1:Int)+e1<=T) (t2:64*(l2:Int)+e2<=T):64*((dig (2^64) V).length:Int)+e1<=T+64:=by
 obtain ⟨K,Jh,hK2,hK3⟩:∃K:Nat,64*l1<=K/\64*l2+z<=K/\(K:Int)+e1<=T:=⟨max (64*l1) (64*l2+z),by omega,by omega,by omega⟩;have h1:A<2^K:=Ue hA (UL (by decide) Jh);have h2:B*2^z<2^K:=Ue (by rw[Tw];exact TW hB (Tv (by decide))) (UL (by decide) hK2);have h3:V<2^(K+1):=by rw[Tg];omega
 have h4:=Qgj h3;omega
end Go.Proofs.YtidojbkhlenahaaGreatDoor
namespace Go.Proofs.YtidojbkhlenahaaGreatDoor
open Go.RowKit
section
variable {P:Program} {r:Nat} {Done:World->Prop} {V:Value->World->Prop} {w:World}
end
theorem Q03.turn {w w':World} {b g:Nat} {v0 v1 v2:Value} (h:Q03 w g v0 v1 v2) (ht:Q0v (·=b) w w') (hg:g<w.heap.size) (P0:g≠b):Q03 w' g v0 v1 v2:=
 ⟨(ht.cell (p:=⟨g,0,none⟩) hg P0).trans h.c0,(ht.cell (p:=⟨g,1,none⟩) hg P0).trans h.c1,(ht.cell (p:=⟨g,2,none⟩) hg P0).trans h.c2,(ht.frozen (p:=⟨g,0,none⟩) hg P0).trans h.f0,(ht.frozen (p:=⟨g,1,none⟩) hg P0).trans h.f1,(ht.frozen (p:=⟨g,2,none⟩) hg P0).trans h.f2⟩
theorem Qif {l:List Oper} {cs:LV} {L:Nat->Option (Value->World->Prop)} (n:Nat) {φ:World->Prop} (hL:L n=some fun _ w=>φ w) (hl:(l.zipIdx.all fun p=>p.1.dst.isSome || decide (p.2=n))=true):
 ∀(i:Nat) o,l[i]?=some o->o.dst=none->∀v w,Q40 cs L i v w->Q40 cs L i undef w:=by
 intro i o hi hd v w hv;have hm:(o,i)∈l.zipIdx:=by
  rw[Xah];simpa using hi
 have h1:=TH.1 hl _ hm;simp only[hd,Option.isSome_none,Bool.false_or,TJ] at h1;subst h1;exact (Q02 hL).2 ((Q02 hL).1 hv)
theorem Qkv {P:Program} {ops:Array Oper} {E:World->World->Prop} {o:Oper} {a:Act} {w:World} {V:Value->World->Prop} {j:Nat} {b:Bool} {t:Tmp} (hg:o.guard=some (j,b)) (ht:(ops[j]?).bind (·.dst)=some t) (he:a.eval (.tmp t)=undef) (h:V undef w):
 if Region.wanted o (yielded ops a.tmps) then Q1g P E V w ((execOp a.eval o).run P w) else V undef w:=by
 have hy:yielded ops a.tmps j=none:=by
  unfold yielded;rw[ht,TF];have VG:a.tmps.getD t undef=undef:=he;rw[Uy] at VG;cases hx:a.tmps[t]? with
  |none=>rfl
  |some v=>rw[hx] at VG;have h2:v=undef:=VG;rw[h2];rfl
 have hw:Region.wanted o (yielded ops a.tmps)=false:=by
  unfold Region.wanted;rw[hg]
  show (yielded ops a.tmps j==some b)=false
  rw[hy];cases b <;> rfl
 rw[hw];exact h
def Q8a (w w':World):Prop:=Bw w w'
section
variable {P:Program} {V:Value->World->Prop} {w:World}
theorem Q6v {u:Value} {res:Result Next} (hr:res=.ok (.value u) w) (h:V u w):Q1g P Q8a V w res:=by
 rw[hr];exact ⟨Uc _ _,h⟩
theorem Q0z {f:FuncId} {args:Array Value} {res:Result Next} (hr:res=.ok (.enter f args) w)
 (h:Calls P f args w fun e w''=>∃v,e=.returned v/\Bw w w''/\V v w''):Q1g P Q8a V w res:=by
 rw[hr];exact h
end
theorem Q0w {l:List Oper} {V:Nat->Value->World->Prop} (hl:(l.all fun o=>o.dst.isSome)=true):∀(i:Nat) o,l[i]?=some o->o.dst=none->∀v w,V i v w->V i undef w:=by
 intro i o hi hd v w _;have h1:=TH.1 hl o (Ug hi);rw[hd] at h1;cases h1
theorem Q0c {E:World->World->Prop} {cs:LV} {L:Nat->Option (Value->World->Prop)} (h:∀i φ,L i=some φ->∀v w w',φ v w->E w w'->φ v w') (i:Nat) (v:Value) (w w':World) (hv:Q40 cs L i v w) (hb:E w w'):Q40 cs L i v w':=by
 unfold Q40 at*;cases hl:L i with
 |none=>rw[hl] at hv;exact hv
 |some φ=>rw[hl] at hv;exact h i φ hl v w w' hv hb
theorem Q01 (w:World):Bw w w.drew:=⟨rfl,rfl,rfl,Uf _,fun _ _=>rfl⟩
section
def Qzx (ops:Array Oper) (cs:LV) (L:Nat->Option (Value->World->Prop)) (o:Oper):Option Bool:=
 match o.guard with
 |none=>some true
 |some (j,b)=>
  if ((Q2u o).contains j && (L j).isNone && ((ops[j]?).bind (·.dst)).isSome)=true then
   match cs.getD j undef with
   | .bool c=>some (c==b)
   | .tuple a=>if a.isEmpty=true then some false else none
   |_=>none
  else none
variable {P:Program} {E:World->World->Prop} {ops:Array Oper} {C:World->Prop} {cs:LV} {L:Nat->Option (Value->World->Prop)} {a0:Act} {o:Oper} {k:Nat}
theorem Qmp {a:Act} {w:World} {j:Nat} (hc:((Q2u o).contains j && (L j).isNone && ((ops[j]?).bind (·.dst)).isSome)=true) (hd:∀i∈Q2u o,Q40 cs L i (Q0g ops a i) w):
 ∃t,(ops[j]?).bind (·.dst)=some t/\a.eval (.tmp t)=cs.getD j undef:=by
 simp only[Xav] at hc;obtain ⟨⟨h1,h2⟩,h3⟩:=hc;obtain ⟨t,ht⟩:=Option.isSome_iff_exists.1 h3;have h:=(Q0f (Option.isNone_iff_eq_none.1 h2)).1 (hd j (List.contains_iff_mem.1 h1));unfold Q0g at h;rw[ht] at h;exact ⟨t,ht,h⟩
def Q7q (ops:Array Oper) (a:Act) (cs:LV) (L:Nat->Option (Value->World->Prop)):List Edge->Prop
 |[]=>True
 |e::r=>(Region.binds .any e=true->L e.on=none->∀t,(ops[e.on]?).bind (·.dst)=some t->a.tmps[t]?.getD undef=cs.getD e.on undef)/\Q7q ops a cs L r
theorem Qys {ops:Array Oper} {a:Act} {w:World} {cs:LV} {L:Nat->Option (Value->World->Prop)} {o:Oper} (hd:∀i∈Q2u o,Q40 cs L i (Q0g ops a i) w):Q7q ops a cs L o.after.toList:=by
 have key:∀l:List Edge,(∀e∈l,e∈o.after.toList)->Q7q ops a cs L l:=by
  intro l
  induction l with
  |nil=>intro _;trivial
  |cons e r ih=>
   intro h;refine ⟨fun hb hL t ht=>?_,ih fun x hx=>h x (Xaa _ hx)⟩;have h1:=(Q0f hL).1 (hd e.on (Tx.2 ⟨e,List.mem_filter.2 ⟨h e (by simp),hb⟩,rfl⟩));unfold Q0g at h1;rw[ht] at h1;have h':a.tmps.getD t undef=cs.getD e.on undef:=h1;rwa[Uy] at h'
 exact key _ fun _ h=>h
theorem Q1u (hg:Qzx ops cs L o=some true) (h:∀A W,C W->Q9f ops a0 A->Q9f ops a0 A->Q7q ops A cs L o.after.toList->Q1g P E (Q40 cs L k) W ((execOp A.eval o).run P W)):Q6d P E ops C (Q40 cs L) a0 k o:=by
 intro a w hc G0 hd;have hf:=h a w hc G0 G0 (Qys hd);unfold Qzx at hg;cases X9:o.guard with
 |none=>exact Q07 X9 hf
 |some p=>
  obtain ⟨j,b⟩:=p;rw[X9] at hg;simp only at hg
  split at hg
  ·rename_i x4;obtain ⟨t,ht,he⟩:=Qmp x4 hd
   split at hg
   ·rename_i c QZ;injection hg with hg;rw[QZ,beq_iff_eq.1 hg] at he;exact Qur X9 ht he hf
   ·split at hg
    ·cases hg
    ·cases hg
   ·cases hg
  ·cases hg
theorem Qgk (hg:Qzx ops cs L o=some false) (hL:L k=none) (hv:cs[k]?=some undef):Q6d P E ops C (Q40 cs L) a0 k o:=by
 intro a w _ _ hd;have hu:Q40 cs L k undef w:=(Q0f hL).2 (by rw[Te,hv];rfl);unfold Qzx at hg;cases X9:o.guard with
 |none=>rw[X9] at hg;cases hg
 |some p=>
  obtain ⟨j,b⟩:=p;rw[X9] at hg;simp only at hg
  split at hg
  ·rename_i x4;obtain ⟨t,ht,he⟩:=Qmp x4 hd
   split at hg
   ·rename_i c QZ;injection hg with hg;rw[QZ] at he;refine Qrm X9 ht (he.trans ?_) hu;cases c <;> cases b <;> first|rfl|cases hg
   ·rename_i x QZ
    split at hg
    ·rename_i hx;refine Qkv X9 ht (he.trans (QZ.trans ?_)) hu;rw[Array.isEmpty_iff.1 hx];rfl
    ·cases hg
   ·cases hg
  ·cases hg
theorem Q8m {V:Nat->Value->World->Prop} {r:List Oper} (h:Q6d P E ops C V a0 k o) (t:Q4e P E ops C V a0 r (k+1)):Q4e P E ops C V a0 (o::r) k:=⟨h,t⟩
theorem Q8n {V:Nat->Value->World->Prop}:Q4e P E ops C V a0 [] k:=trivial
theorem Q12 {ops:Array Oper} {a:Act} {w:World} {cs:LV} {L:Nat->Option (Value->World->Prop)} {o:Oper} (hd:∀i∈Q2u o,Q40 cs L i (Q0g ops a i) w) (i:Nat) {t:Tmp} {v:Value} (hi:i∈Q2u o) (hL:L i=none) (hv:cs[i]?=some v) (ht:(ops[i]?).bind (·.dst)=some t):a.tmps[t]?.getD undef=v:=by
 have h:=(Q0f hL).1 (hd i hi);rw[Te,hv] at h;unfold Q0g at h;rw[ht] at h;have h':a.tmps.getD t undef=v:=h;rwa[Uy] at h'
theorem Q0d {a:Act} (h:Q9f ops a0 a) (t:Tmp) {v:Value} (ht:(ops.toList.all fun o=> !(o.dst==some t))=true) (hv:a0.tmps.toList[t]?=some v):a.tmps[t]?.getD undef=v:=
 Q44 (h.keep ht (by rw[Uy,<-Tn,hv];rfl))
theorem Q2x {i:Nat} {w:World} {u:Value} {res:Result Next} (hL:L i=none) (hv:cs[i]?=some u) (hr:res=.ok (.value u) w):Q1g P Q8a (Q40 cs L i) w res:=
 Q6v hr ((Q0f hL).2 (by rw[Te,hv];rfl))
theorem Q29 {i:Nat} {w:World} {u:Value} {f:FuncId} {args:Array Value} {res:Result Next} (hL:L i=none) (hv:cs[i]?=some u) (hr:res=.ok (.enter f args) w) (h:Calls P f args w fun e w'=>e=.returned u/\Bw w w'):Q1g P Q8a (Q40 cs L i) w res:=
 Q0z hr (h.mono fun _ _ h'=>⟨u,h'.1,h'.2,(Q0f hL).2 (by rw[Te,hv];rfl)⟩)
end
open WordsM
def Qro (r:Nat) (w:World):Prop:=(∃b e a n c,Q03 w r (.bool b) (.int .i64 e) (.slice a n c))/\r<w.heap.size
theorem Qro.below {r:Nat} {w w':World} (h:Qro r w) (hb:Bw w w'):Qro r w':=by
 obtain ⟨⟨b,e,a,n,c,hN⟩,hr⟩:=h;exact ⟨⟨b,e,a,n,c,hN.step hb hr⟩,Ue hr hb.size⟩
theorem Q03.drew {w:World} {b:Nat} {v0 v1 v2:Value} (h:Q03 w b v0 v1 v2):Q03 w.drew b v0 v1 v2:=⟨h.c0,h.c1,h.c2,h.f0,h.f1,h.f2⟩
theorem Qro.drew {r:Nat} {w:World} (h:Qro r w):Qro r w.drew:=by
 obtain ⟨⟨b,e,a,n,c,hN⟩,hr⟩:=h;exact ⟨⟨b,e,a,n,c,hN.drew⟩,hr⟩
theorem WordsIn.drew {w:World} {a:OA} {n c:Nat} {L:LN} (h:WordsIn w a n c L):WordsIn w.drew a n c L:=⟨h.len,h.cap,h.most,h.low,h.rd⟩
def Qmq (r:Nat) (Done:World->Prop) (w w':World):Prop:=Q0v (·=r) w w'/\(Done w->Done w')/\(∀a n c L,WordsIn w a n c L->WordsIn w' a n c L)/\(Qro r w->Qro r w')
theorem Qmq.refl (r:Nat) (Done:World->Prop) (w:World):Qmq r Done w w:=⟨Q0v.refl _ w,id,fun _ _ _ _ h=>h,id⟩
def Qd1 (r:Nat) (u0 u1:Value) (L:LN) (w:World):Prop:=∃a n c,Q03 w r u0 u1 (.slice a n c)/\r<w.heap.size/\WordsIn w a n c L
theorem Qd1.below {r:Nat} {u0 u1:Value} {L:LN} {w w':World} (h:Qd1 r u0 u1 L w) (hb:Bw w w'):Qd1 r u0 u1 L w':=by
 obtain ⟨a,n,c,h1,h2,h3⟩:=h;exact ⟨a,n,c,h1.step hb h2,Ue h2 hb.size,h3.step hb⟩
def SlV (L:LN) (v:Value) (w:World):Prop:=∃a n c,v=.slice a n c/\WordsIn w a n c L
def AgV (u0 u1:Value) (L:LN) (v:Value) (w:World):Prop:=∃a n c,v=.agg #[u0,u1,.slice a n c]/\WordsIn w a n c L
section
variable {P:Program} {r:Nat} {u0 u1:Value} {L:LN} {V:Value->World->Prop} {w:World}
theorem Q13 {Done:World->Prop} {u:Value} {res:Result Next} (hr:res=.ok (.value u) w) (h:V u w):Q1g P (Qmq r Done) V w res:=by
 rw[hr];exact ⟨Qmq.refl _ _ _,h⟩
theorem Qig {f:FuncId} {args:Array Value} {res:Result Next} (hr:res=.ok (.enter f args) w)
 (h:Calls P f args w fun e w''=>∃v,e=.returned v/\Bw w w''/\V v w''):Q1g P (Qmq r (Qd1 r u0 u1 L)) V w res:=by
 rw[hr];refine h.mono ?_;rintro e w'' ⟨v,rfl,hb,hv⟩;exact ⟨v,rfl,⟨Q0v.of_below hb _,fun h=>h.below hb,fun _ _ _ _ h=>h.step hb,fun h=>h.below hb⟩,hv⟩
theorem Qf3 {b:Bool} {e:Int} {a:OA} {n c:Nat} {res:Result Next} (hB:Qro r w) (hw:WordsIn w a n c L) (h0:u0=.bool b) (h1:u1=.int .i64 e)
 (hr:res=.ok .skip (((w.setCell ⟨r,0,none⟩ u0).setCell ⟨r,1,none⟩ u1).setCell ⟨r,2,none⟩ (.slice a n c)))
 (hV:∀w',Qd1 r u0 u1 L w'->V undef w'):Q1g P (Qmq r (Qd1 r u0 u1 L)) V w res:=by
 rw[hr];obtain ⟨⟨b',e',a',n',c',hN⟩,E0⟩:=hB;have ht:Q0v (·=r) w (((w.setCell ⟨r,0,none⟩ u0).setCell ⟨r,1,none⟩ u1).setCell ⟨r,2,none⟩ (.slice a n c)):=((Q0v.setCell (·=r) w (p:=⟨r,0,none⟩) rfl _).trans0 (Q0v.setCell (·=r) _ (p:=⟨r,1,none⟩) rfl _)).trans0 (Q0v.setCell (·=r) _ (p:=⟨r,2,none⟩) rfl _);have Wu:=hN.store u0 u1 (.slice a n c);have Zb:∀a2 n2 c2 L2,WordsIn w a2 n2 c2 L2->WordsIn (((w.setCell ⟨r,0,none⟩ u0).setCell ⟨r,1,none⟩ u1).setCell ⟨r,2,none⟩ (.slice a n c)) a2 n2 c2 L2:=fun a2 n2 c2 L2 h=>
  ⟨h.len,h.cap,h.most,h.low,(h.rd.store3 hN (fun _=>by simp[nv]) (fun _=>by simp[nv]) (fun _=>by simp[nv]) u0 u1 (.slice a n c)).more (Q3i _ _ _ _ _)⟩
 have hd:Qd1 r u0 u1 L (((w.setCell ⟨r,0,none⟩ u0).setCell ⟨r,1,none⟩ u1).setCell ⟨r,2,none⟩ (.slice a n c)):=⟨a,n,c,Wu,Ue E0 ht.size,Zb _ _ _ _ hw⟩;exact ⟨⟨ht,fun _=>hd,Zb,fun _=>⟨⟨b,e,a,n,c,by rw[<-h0,<-h1];exact Wu⟩,Ue E0 ht.size⟩⟩,hV _ hd⟩
end
def Qzy (i j k r:Nat) (u0 u1:Value) (L:LN) (x:Nat):Option (Value->World->Prop):=
 if x=i then some (SlV L) else if x=j then some (AgV u0 u1 L) else if x=k then some (fun _ w=>Qd1 r u0 u1 L w) else none
theorem Qih {i j k r:Nat} {u0 u1:Value} {L:LN}:∀x φ,Qzy i j k r u0 u1 L x=some φ->∀v w w',φ v w->Qmq r (Qd1 r u0 u1 L) w w'->φ v w':=by
 intro x φ h v w w' hv he;unfold Qzy at h
 split at h
 ·injection h with h;subst h;obtain ⟨a,n,c,rfl,hw⟩:=hv;exact ⟨a,n,c,rfl,he.2.2.1 _ _ _ _ hw⟩
 ·split at h
  ·injection h with h;subst h;obtain ⟨a,n,c,rfl,hw⟩:=hv;exact ⟨a,n,c,rfl,he.2.2.1 _ _ _ _ hw⟩
  ·split at h
   ·injection h with h;subst h;exact he.2.1 hv
   ·cases h
def Qq0 (r:Nat) (w0 w:World):Prop:=Q0v (·=r) w0 w/\Qro r w/\∀a n c L,WordsIn w0 a n c L->WordsIn w a n c L
theorem Qq0.start {r:Nat} {w:World} {v0:Bool} {v1:Int} {a:OA} {n c:Nat} (h:Q03 w r (.bool v0) (.int .i64 v1) (.slice a n c)) (hr:r<w.heap.size):Qq0 r w w.drew:=⟨(Q0v.refl _ w).drew,Qro.drew ⟨⟨_,_,_,_,_,h⟩,hr⟩,fun _ _ _ _ h=>h.drew⟩
theorem Qq0.next {r:Nat} {Done:World->Prop} {w0 w w':World} (h:Qq0 r w0 w) (h':Qmq r Done w w'):Qq0 r w0 w':=⟨h.1.trans h'.1 (fun _ _ e=>e),h'.2.2.2 h.2.1,fun a n c L hw=>h'.2.2.1 _ _ _ _ (h.2.2 a n c L hw)⟩
theorem Qf4 {r:Nat} {Done:World->Prop} {cs:LV} {L:Nat->Option (Value->World->Prop)} (h:∀i φ,L i=some φ->∀v w w',φ v w->Qmq r Done w w'->φ v w') (i:Nat) (v:Value) (w w':World) (hv:Q40 cs L i v w) (hb:Qmq r Done w w'):Q40 cs L i v w':=by
 unfold Q40 at*;cases hl:L i with
 |none=>rw[hl] at hv;exact hv
 |some φ=>rw[hl] at hv;exact h i φ hl v w w' hv hb
theorem Qii (nx:Bool) (ex:Int) (ax:OA) (lx cx:Nat) (ls:LN) (ny:Bool) (ey:Int) (ay:OA) (ly cy:Nat) (ks:LN) (w:World) (h1:WordsIn w ax lx cx ls) (h2:WordsIn w ay ly cy ks) (hn:lx<=20000) (hm:ly<=20000) (XM: -1000000<=ex) (D5:ex<=1000000) (j5: -1000000<=ey) (Y5:ey<=1000000):
 Calls Tryz.prog 305 #[.agg #[.bool nx,.int .i64 ex,.slice ax lx cx],.agg #[.bool ny,.int .i64 ey,.slice ay ly cy]] w fun r w'=>∃a n c,r=.returned (.agg #[.bool (nx != ny),.int .i64 (ex+ey),.slice a n c])/\WordsIn w' a n c (dig (2^64) (val (2^64) ls*val (2^64) ks))/\Bw w w':=by
 obtain ⟨K4,hX,hY,hR,hB⟩:=Qhf w (.bool nx) (.int .i64 ex) (.slice ax lx cx) (.bool ny) (.int .i64 ey) (.slice ay ly cy) (.bool false) (.int .i64 0) (.slice none 0 0) 26 26 26;obtain ⟨W0,E1⟩:∃W0,(((w.alloc (.cells #[.bool nx,.int .i64 ex,.slice ax lx cx] 26)).alloc (.cells #[.bool ny,.int .i64 ey,.slice ay ly cy] 26)).alloc (.cells #[.bool false,.int .i64 0,.slice none 0 0] 26))=W0:=⟨_,rfl⟩;rw[E1] at K4 hX hY hR hB;have hQ:∀W,Q0v (·=w.heap.size+2) W0 W->Q03 W w.heap.size (.bool nx) (.int .i64 ex) (.slice ax lx cx)/\Q03 W (w.heap.size+1) (.bool ny) (.int .i64 ey) (.slice ay ly cy)/\WordsIn W ax lx cx ls/\WordsIn W ay ly cy ks/\Bw w W/\w.heap.size+2<W.heap.size:=fun W ht=>by
  have hb:=Below.turn hB ht hB.size (fun k e=>by omega);exact ⟨hX.turn ht (by omega) (by omega),hY.turn ht (by omega) (by omega),h1.step hb,h2.step hb,hb,Ue (by omega) ht.size⟩
 have HQ:=Ua hQ;have HR:=Xh2 hR K4;clear K4 hX hY hR hB hQ h1 h2;have Qt:IntKind.i64.wrap (ex+ey)=ex+ey:=by rw[UO];omega
 have H00:Qq0 (w.heap.size+2) W0 W0.drew:=Qq0.start (Xo0 HR) (by have:=(Xe1 HR);omega)
 go_enter Tryz.func305,Tryz.ntmps305
 go_wp2_with fail
 refine Q06 (E:=Qmq (w.heap.size+2) (Qd1 (w.heap.size+2) (.bool (nx != ny)) (.int .i64 (ex+ey)) (dig (2^64) (val (2^64) ls*val (2^64) ks)))) (Qmq.refl _ _) (by kernel_rfl) (fun W=>Qq0 (w.heap.size+2) W0 W) (fun _ _ h h'=>h.next h') (Q40 [.pointer (some ⟨w.heap.size,0,none⟩),.bool nx,.pointer (some ⟨(w.heap.size+1),0,none⟩),.bool ny,.bool (nx != ny),.pointer (some ⟨w.heap.size,1,none⟩),.int .i64 ex,.pointer (some ⟨(w.heap.size+1),1,none⟩),.int .i64 ey,.int .i64 (ex+ey),.pointer (some ⟨w.heap.size,2,none⟩),.slice ax lx cx,.pointer (some ⟨(w.heap.size+1),2,none⟩),.slice ay ly cy,undef,undef,undef] (Qzy 14 15 16 (w.heap.size+2) (.bool (nx != ny)) (.int .i64 (ex+ey)) (dig (2^64) (val (2^64) ls*val (2^64) ks)))) (Qf4 Qih) (Qif 16 rfl (by kernel_rfl)) (by kernel_rfl) H00 ?_ ?_
 ·skip;refine ⟨fun A W hW G0 C0=>?_,?_⟩
  ·have e2:=Q0d G0 2 (by kernel_rfl) rfl;refine Q07 rfl ?_;refine Q13 (u:=.pointer (some ⟨w.heap.size,0,none⟩)) ?_ ((Q0f rfl).2 rfl);simp[go_sem,e2]
  refine ⟨fun A W hW G0 C0=>?_,?_⟩
  ·have e5:=Q12 C0 0 (by decide) rfl rfl rfl;refine Q07 rfl ?_;obtain ⟨k0,_,_,_,_,_⟩:=(HQ.out W hW.1).1;refine Q13 (u:=.bool nx) ?_ ((Q0f rfl).2 rfl);simp[go_sem,e5,k0]
  refine ⟨fun A W hW G0 C0=>?_,?_⟩
  ·have e3:=Q0d G0 3 (by kernel_rfl) rfl;refine Q07 rfl ?_;refine Q13 (u:=.pointer (some ⟨(w.heap.size+1),0,none⟩)) ?_ ((Q0f rfl).2 rfl);simp[go_sem,e3]
  refine ⟨fun A W hW G0 C0=>?_,?_⟩
  ·have e7:=Q12 C0 2 (by decide) rfl rfl rfl;refine Q07 rfl ?_;obtain ⟨k0,_,_,_,_,_⟩:=(HQ.out W hW.1).2.1;refine Q13 (u:=.bool ny) ?_ ((Q0f rfl).2 rfl);simp[go_sem,e7,k0]
  refine ⟨fun A W hW G0 C0=>?_,?_⟩
  ·have e6:=Q12 C0 1 (by decide) rfl rfl rfl;have e8:=Q12 C0 3 (by decide) rfl rfl rfl;refine Q07 rfl ?_;refine Q13 (u:=.bool (nx != ny)) ?_ ((Q0f rfl).2 rfl);cases nx <;> cases ny <;> simp[go_sem,e6,e8]
  refine ⟨fun A W hW G0 C0=>?_,?_⟩
  ·have e2:=Q0d G0 2 (by kernel_rfl) rfl;refine Q07 rfl ?_;refine Q13 (u:=.pointer (some ⟨w.heap.size,1,none⟩)) ?_ ((Q0f rfl).2 rfl);simp[go_sem,e2]
  refine ⟨fun A W hW G0 C0=>?_,?_⟩
  ·have e10:=Q12 C0 5 (by decide) rfl rfl rfl;refine Q07 rfl ?_;obtain ⟨_,k1,_,_,_,_⟩:=(HQ.out W hW.1).1;refine Q13 (u:=.int .i64 ex) ?_ ((Q0f rfl).2 rfl);simp[go_sem,e10,k1]
  refine ⟨fun A W hW G0 C0=>?_,?_⟩
  ·have e3:=Q0d G0 3 (by kernel_rfl) rfl;refine Q07 rfl ?_;refine Q13 (u:=.pointer (some ⟨(w.heap.size+1),1,none⟩)) ?_ ((Q0f rfl).2 rfl);simp[go_sem,e3]
  refine ⟨fun A W hW G0 C0=>?_,?_⟩
  ·have e12:=Q12 C0 7 (by decide) rfl rfl rfl;refine Q07 rfl ?_;obtain ⟨_,k1,_,_,_,_⟩:=(HQ.out W hW.1).2.1;refine Q13 (u:=.int .i64 ey) ?_ ((Q0f rfl).2 rfl);simp[go_sem,e12,k1]
  refine ⟨fun A W hW G0 C0=>?_,?_⟩
  ·have e11:=Q12 C0 6 (by decide) rfl rfl rfl;have e13:=Q12 C0 8 (by decide) rfl rfl rfl;refine Q07 rfl ?_;refine Q13 (u:=.int .i64 (ex+ey)) ?_ ((Q0f rfl).2 rfl);simp[go_sem,e11,e13,Qt]
  refine ⟨fun A W hW G0 C0=>?_,?_⟩
  ·have e2:=Q0d G0 2 (by kernel_rfl) rfl;refine Q07 rfl ?_;refine Q13 (u:=.pointer (some ⟨w.heap.size,2,none⟩)) ?_ ((Q0f rfl).2 rfl);simp[go_sem,e2]
  refine ⟨fun A W hW G0 C0=>?_,?_⟩
  ·have e15:=Q12 C0 10 (by decide) rfl rfl rfl;refine Q07 rfl ?_;obtain ⟨_,_,k2,_,_,_⟩:=(HQ.out W hW.1).1;refine Q13 (u:=.slice ax lx cx) ?_ ((Q0f rfl).2 rfl);simp[go_sem,e15,k2]
  refine ⟨fun A W hW G0 C0=>?_,?_⟩
  ·have e3:=Q0d G0 3 (by kernel_rfl) rfl;refine Q07 rfl ?_;refine Q13 (u:=.pointer (some ⟨(w.heap.size+1),2,none⟩)) ?_ ((Q0f rfl).2 rfl);simp[go_sem,e3]
  refine ⟨fun A W hW G0 C0=>?_,?_⟩
  ·have e17:=Q12 C0 12 (by decide) rfl rfl rfl;refine Q07 rfl ?_;obtain ⟨_,_,k2,_,_,_⟩:=(HQ.out W hW.1).2.1;refine Q13 (u:=.slice ay ly cy) ?_ ((Q0f rfl).2 rfl);simp[go_sem,e17,k2]
  refine ⟨fun A W hW G0 C0=>?_,?_⟩
  ·have e16:=Q12 C0 11 (by decide) rfl rfl rfl;have e18:=Q12 C0 13 (by decide) rfl rfl rfl;refine Q07 rfl ?_;refine Qig (f:=296) (args:= #[.slice ax lx cx,.slice ay ly cy]) (by simp[go_sem,e16,e18]) ((Qf2 ax lx cx ls ay ly cy ks W (HQ.out W hW.1).2.2.1 (HQ.out W hW.1).2.2.2.1 (by omega) (by omega)).mono ?_);rintro e w2 ⟨a,n,c,rfl,hw,hb⟩;exact ⟨_,rfl,hb,(Q02 rfl).2 ⟨a,n,c,rfl,hw⟩⟩
  refine ⟨fun A W hW G0 C0=>?_,?_⟩
  ·have e9:=Q12 C0 4 (by decide) rfl rfl rfl;have e14:=Q12 C0 9 (by decide) rfl rfl rfl;refine Q07 rfl ?_;obtain ⟨a,n,c,hv,hw⟩:=(Q02 rfl).1 (C0 14 (by decide));have e19:=Q44 hv;refine Q13 (u:=.agg #[.bool (nx != ny),.int .i64 (ex+ey),.slice a n c]) ?_ ((Q02 rfl).2 ⟨a,n,c,rfl,hw⟩);simp[go_sem,e9,e14,e19]
  refine ⟨fun A W hW G0 C0=>?_,?_⟩
  ·have e4:=Q0d G0 4 (by kernel_rfl) rfl;refine Q07 rfl ?_;obtain ⟨a,n,c,hv,hw⟩:=(Q02 rfl).1 (C0 15 (by decide));have e20:=Q44 hv;obtain ⟨⟨b9,e9,a9,n9,c9,hN⟩,E0⟩:=hW.2.1;have k0:=hN.c0;have f0:=hN.f0;have f1:=hN.f1;have f2:=hN.f2;have d1:=hN.d1 (.bool (nx != ny));have d2:=hN.d2 (.bool (nx != ny)) (.int .i64 (ex+ey));refine Qf3 hW.2.1 hw (b:=nx != ny) (e:=ex+ey) rfl rfl ?_ (fun w' h=>(Q02 rfl).2 h);simp[go_sem,e4,e20,k0,f0,f1,f2,d1,d2]
  exact trivial
 intro vs W1 I1 K2;obtain ⟨a,n,c,X6,hlt1,E3⟩:=(Q02 rfl).1 (K2 16 (by decide));simp only[Q0r,Act.put,Ur,Ux,Uv];obtain ⟨k0,k1,k2⟩:=X6.cc;have N0:=(HQ.out W1 I1.1).2.2.2.2.1;have HE:=Xh2 E3 N0;clear K2 I1 E3 N0 X6
 go_wp2_with fail
 exact ⟨rfl,.agg #[.bool (nx != ny),.int .i64 (ex+ey),.slice a n c],by simp[results,go_sem,k0,k1,k2],a,n,c,rfl,(Xo0 HE),(Xe1 HE)⟩
def Qyt (w:World) (D:Dyadic) (T lo hi:Int) (r:Ending) (w':World):Prop:=∃n e a l c L,r=.returned (.agg #[.bool n,.int .i64 e,.slice a l c])/\WordsIn w' a l c L/\Q1r n e L=D/\lo<=e/\e<=hi/\64*(l:Int)+e<=T/\Bw w w'
theorem Qij (nx:Bool) (ex:Int) (ax:OA) (lx cx:Nat) (ls:LN) (ny:Bool) (ey:Int) (ay:OA) (ly cy:Nat) (ks:LN) (w:World) (h1:WordsIn w ax lx cx ls) (h2:WordsIn w ay ly cy ks) (hn:lx<=20000) (hm:ly<=20000) (XM: -1000000<=ex) (D5:ex<=1000000) (j5: -1000000<=ey) (Y5:ey<=1000000) (T lo hi:Int) (I3:64*(lx:Int)+ex<=T) (F2:64*(ly:Int)+ey<=T) (U6:lo<=ex) (L9:lo<=ey) (B7:ex<=hi) (S9:ey<=hi):
 Calls Tryz.prog 188 #[.agg #[.bool nx,.int .i64 ex,.slice ax lx cx],.agg #[.bool ny,.int .i64 ey,.slice ay ly cy]] w (Qyt w (Q1r nx ex ls+Q1r ny ey ks) (T+64) lo hi):=by
 obtain ⟨K4,hX,hY,hR,hB⟩:=Qhf w (.bool nx) (.int .i64 ex) (.slice ax lx cx) (.bool ny) (.int .i64 ey) (.slice ay ly cy) (.bool false) (.int .i64 0) (.slice none 0 0) 26 26 26;generalize E1:(((w.alloc (.cells #[.bool nx,.int .i64 ex,.slice ax lx cx] 26)).alloc (.cells #[.bool ny,.int .i64 ey,.slice ay ly cy] 26)).alloc (.cells #[.bool false,.int .i64 0,.slice none 0 0] 26))=W0 at K4 hX hY hR hB;have hQ:∀W,Bw W0 W->Q03 W w.heap.size (.bool nx) (.int .i64 ex) (.slice ax lx cx)/\Q03 W (w.heap.size+1) (.bool ny) (.int .i64 ey) (.slice ay ly cy)/\Q03 W (w.heap.size+2) (.bool false) (.int .i64 0) (.slice none 0 0)/\w.heap.size+2<W.heap.size/\Bw w W:=fun W hb=>
  ⟨hX.step hb (by omega),hY.step hb (by omega),hR.step hb (by omega),Ue (by omega) hb.size,Below.next0 hB hb⟩
 have HQ:=Ua hQ;have t8:=fun W (hb:Bw w W)=>Q3w nx ex ax lx cx ls W (h1.step hb) (by omega);have QB:=fun W (hb:Bw w W)=>Q3w ny ey ay ly cy ks W (h2.step hb) (by omega);have HW:=Xh2 h1 h2;clear K4 hX hY hR hQ h1 h2;obtain ⟨O4,S4,Q3,_,_,_⟩:=(HQ.out W0 (Uc _ _)).1
 by_cases QX:val (2^64) ls=0
 ·simp only[QX,Xa8] at t8;have HS:=Ua t8;have HV:=Ua QX;clear t8 QB QX
  go_enter Tryz.func188,Tryz.ntmps188
  go_wp2_with (refine (HS.out W0 hB).mono ?_;rintro r w1 ⟨rfl,A0⟩;obtain ⟨_,g1,g2,g3,g4⟩:=HQ.out w1 A0;obtain ⟨yc0,yc1,yc2⟩:=g1.cc;obtain ⟨rc0,rc1,rc2,rf0,rf1,rf2⟩:=g2.cf;have rd1:=g2.d1 (.bool ny);have rd2:=g2.d2 (.bool ny) (.int .i64 ey);have HA:=Xh3 g2 g3 g4;clear g1 g2 g3 g4)
  have hS:=(Xo0 HA).store (.bool ny) (.int .i64 ey) (.slice ay ly cy);obtain ⟨k0,k1,k2⟩:=hS.cc;have G3:=Q03.below (Xe2 HA) (show w.heap.size<=w.heap.size+2 by omega) (.bool ny) (.int .i64 ey) (.slice ay ly cy);exact ⟨rfl,.agg #[.bool ny,.int .i64 ey,.slice ay ly cy],by simp[results,go_sem,k0,k1,k2],ny,ey,ay,ly,cy,ks,rfl,(Xe1 HW).step G3,by rw[Qie _ _ HV.out,Dyadic.zero_add],L9,S9,by omega,G3⟩
 ·have hsx':=t8;simp only[QX,Xag] at t8;have F9:∀W (hb:Bw w W),Calls Tryz.prog 95 #[.agg #[.bool nx,.int .i64 ex,.slice ax lx cx]] W fun r w'=>(∃s:Int,r=.returned (.int .i64 s)/\s≠0)/\Bw W w':=fun W hb=>(t8 W hb).mono (by rintro r w' ⟨rfl,K3⟩;exact ⟨⟨_,rfl,by split <;> decide⟩,K3⟩)
  by_cases QE:val (2^64) ks=0
  ·simp only[QE,Xa8] at QB;have HS:=Xh2 F9 QB;have HV:=Ua QE;clear t8 hsx' QB F9 QX QE
   go_enter Tryz.func188,Tryz.ntmps188
   go_wp2_with (first
    |(go_at_call_of 95 ax;refine ((Xo0 HS) W0 hB).mono ?_;rintro r w1 ⟨⟨s,rfl,hs⟩,A0⟩;have Zs:(s==0)=false:=(by rw[Uj];exact hs);obtain ⟨g0,g1,g2,g3,g4⟩:=HQ.out w1 A0;obtain ⟨yc0,yc1,yc2⟩:=g1.cc;have HA:=Xh2 A0 g4;clear g0 g1 g2 g3 g4 A0)
    |(go_at_call_of 95 ay;refine ((Xe1 HS) w1 (Xe1 HA)).mono ?_;rintro r w2 ⟨rfl,D0⟩;obtain ⟨g0,g1,g2,g3,g4⟩:=HQ.out w2 (Below.next0 (Xo0 HA) D0);obtain ⟨xc0,xc1,xc2⟩:=g0.cc;obtain ⟨rc0,rc1,rc2,rf0,rf1,rf2⟩:=g2.cf;have rd1:=g2.d1 (.bool nx);have rd2:=g2.d2 (.bool nx) (.int .i64 ex);have HC:=Xh3 g2 g3 g4;clear g0 g1 g2 g3 g4 D0))
   have hS:=(Xo0 HC).store (.bool nx) (.int .i64 ex) (.slice ax lx cx);obtain ⟨k0,k1,k2⟩:=hS.cc;have G3:=Q03.below (Xe2 HC) (show w.heap.size<=w.heap.size+2 by omega) (.bool nx) (.int .i64 ex) (.slice ax lx cx);exact ⟨rfl,.agg #[.bool nx,.int .i64 ex,.slice ax lx cx],by simp[results,go_sem,k0,k1,k2],nx,ex,ax,lx,cx,ls,rfl,(Xo0 HW).step G3,by rw[Qie _ _ HV.out,Xbo],U6,B7,by omega,G3⟩
  ·simp only[QE,Xag] at QB;have C4:∀W (hb:Bw w W),Calls Tryz.prog 95 #[.agg #[.bool ny,.int .i64 ey,.slice ay ly cy]] W fun r w'=>(∃s:Int,r=.returned (.int .i64 s)/\s≠0)/\Bw W w':=fun W hb=>(QB W hb).mono (by rintro r w' ⟨rfl,K3⟩;exact ⟨⟨_,rfl,by split <;> decide⟩,K3⟩);have HS:=Xh2 F9 C4;have HV:=Xh2 QX QE;clear t8 hsx' QB F9 C4 QX QE;obtain ⟨D,hD⟩:∃D,Q1r nx ex ls+Q1r ny ey ks=D:=⟨_,rfl⟩;rw[hD];have HD:=Ua hD;clear hD
   go_enter Tryz.func188,Tryz.ntmps188
   go_upto_block 0 with fail
   go_cut [] (fun wx=>∃n1 e1 a1 l1 c1 L1 n2 e2 a2 l2 c2 L2,Qyr w wx D T lo hi n1 e1 a1 l1 c1 L1 n2 e2 a2 l2 c2 L2)
   case first=>
    by_cases E0:ey<ex
    ·go_wp2_with (first
      |(go_at_call_of 95 ax;refine ((Xo0 HS) W0 hB).mono ?_;rintro r w1 ⟨⟨s,rfl,hs⟩,A0⟩;have Zs:(s==0)=false:=(by rw[Uj];exact hs);obtain ⟨g0,g1,g2,g3,g4⟩:=HQ.out w1 A0;obtain ⟨yc0,yc1,yc2⟩:=g1.cc;have HA:=Xh2 A0 g4;clear g0 g1 g2 g3 g4 A0)
      |(go_at_call_of 95 ay;refine ((Xe1 HS) w1 (Xe1 HA)).mono ?_;rintro r w2 ⟨⟨s2,rfl,Q5⟩,D0⟩;have hs20:(s2==0)=false:=(by rw[Uj];exact Q5);obtain ⟨g0,g1,g2,g3,g4⟩:=HQ.out w2 (Below.next0 (Xo0 HA) D0);obtain ⟨xc0,xc1,xc2,xf0,xf1,xf2⟩:=g0.cf;have xd1:=g0.d1 (.bool ny);have xd2:=g0.d2 (.bool ny) (.int .i64 ey);obtain ⟨zc0,zc1,zc2⟩:=g1.cc;have gs0:=g0.store (.bool ny) (.int .i64 ey) (.slice ay ly cy);have gs1:=g1.far3 (show w.heap.size≠w.heap.size+1 by omega) (.bool ny) (.int .i64 ey) (.slice ay ly cy);obtain ⟨sc0,sc1,sc2,sf0,sf1,sf2⟩:=gs1.cf;have sd1:=gs1.d1 (.bool nx);have sd2:=gs1.d2 (.bool nx) (.int .i64 ex);have gz:=And.intro (gs0.far3 (show w.heap.size+1≠w.heap.size by omega) (.bool nx) (.int .i64 ex) (.slice ax lx cx)) (And.intro (gs1.store (.bool nx) (.int .i64 ex) (.slice ax lx cx)) (And.intro ((g2.far3 (show w.heap.size≠w.heap.size+2 by omega) (.bool ny) (.int .i64 ey) (.slice ay ly cy)).far3 (show w.heap.size+1≠w.heap.size+2 by omega) (.bool nx) (.int .i64 ex) (.slice ax lx cx)) (Q03.below (Q03.below g4 (Uf _) (.bool ny) (.int .i64 ey) (.slice ay ly cy)) (show w.heap.size<=w.heap.size+1 by omega) (.bool nx) (.int .i64 ex) (.slice ax lx cx))));have HZ:=Ua gz;clear gs0 gs1 gz;skip;have HC:=Xh5 g0 g1 g2 g3 g4;clear g0 g1 g2 g3 g4 D0))
     go_meet;exact ⟨_,_,_,_,_,_,_,_,_,_,_,_,(Xo0 HZ),(Xo1 HZ),(Xo2 HZ),by rw[Qyq,Qyq];exact (Xo3 HC),(Xe1 HW),(Xo0 HW),by omega,(Xe1 HV),(Xo0 HV),hm,hn,L9,B7,by omega,F2,I3,(by rw[Dyadic.add_comm];exact HD.out),(Xe3 HZ)⟩
    ·go_wp2_with (first
      |(go_at_call_of 95 ax;refine ((Xo0 HS) W0 hB).mono ?_;rintro r w1 ⟨⟨s,rfl,hs⟩,A0⟩;have Zs:(s==0)=false:=(by rw[Uj];exact hs);obtain ⟨g0,g1,g2,g3,g4⟩:=HQ.out w1 A0;obtain ⟨yc0,yc1,yc2⟩:=g1.cc;have HA:=Xh2 A0 g4;clear g0 g1 g2 g3 g4 A0)
      |(go_at_call_of 95 ay;refine ((Xe1 HS) w1 (Xe1 HA)).mono ?_;rintro r w2 ⟨⟨s2,rfl,Q5⟩,D0⟩;have hs20:(s2==0)=false:=(by rw[Uj];exact Q5);obtain ⟨g0,g1,g2,g3,g4⟩:=HQ.out w2 (Below.next0 (Xo0 HA) D0);obtain ⟨xc0,xc1,xc2⟩:=g0.cc;obtain ⟨zc0,zc1,zc2⟩:=g1.cc;have HC:=Xh5 g0 g1 g2 g3 g4;clear g0 g1 g2 g3 g4 D0))
     go_meet;exact ⟨_,_,_,_,_,_,_,_,_,_,_,_,(Xo0 HC),(Xo1 HC),(Xo2 HC),(Xo3 HC),(Xo0 HW),(Xe1 HW),by omega,(Xo0 HV),(Xe1 HV),hn,hm,U6,S9,by omega,I3,F2,HD.out,(Xe4 HC)⟩
   case rest=>
    obtain ⟨n1,e1,a1,l1,c1,L1,n2,e2,a2,l2,c2,L2,hP⟩:=hcut;have B5:=hP.le;have D2:=hP.s1;have Q5:=hP.s2;have Z4:=hP.lo1;have QV:=hP.hi2;have hrng:=hP.rng;obtain ⟨z,hz⟩:∃z:Nat,e2-e1=(z:Int):=⟨(e2-e1).toNat,by omega⟩;have hw1l:=hP.w1.len;have hw2l:=hP.w2.len;have Q8:=fun V (hV:V<=val (2^64) L1+val (2^64) L2*2^z)=>Qxa (T:=T) (e1:=e1) (e2:=e2) (by have:=Q82 hP.w1.low;rwa[hw1l] at this) (by have:=Q82 hP.w2.low;rwa[hw2l] at this) hV hz hP.t1 hP.t2;have Kr:=Qd0 a2 l2 c2 L2 z wc (hP.w2.step hP.bel) (by omega) (by omega);have xc0:=hP.b1.c0;have xc1:=hP.b1.c1;have xc2:=hP.b1.c2;have yc0:=hP.b2.c0;have yc1:=hP.b2.c1;have yc2:=hP.b2.c2;have HU:=Ua Kr;clear Kr HD HV HS;have t6:=hP.sum;rw[Qx9 n2 e1 e2 L2 z hz] at t6;unfold Q1r at t6;rw[Qm8] at t6;obtain ⟨v2,QE⟩:∃v2,val (2^64) L2*2^z=v2:=⟨_,rfl⟩;have Xw:v2≠0:=(by rw[<-QE];exact Nat.mul_ne_zero hP.v2 (Nat.pos_iff_ne_zero.1 (Tv (by decide))));have Qd:64*(dig (2^64) v2).length<=64*l2+z+63:=Qgj (by
     rw[<-QE,Tw];exact TW (by have:=Q82 hP.w2.low;rwa[hw2l] at this) (Tv (by decide)))
    rw[QE] at t6 Q8 HU;have HF:=Xh4 t6 Q8 Xw hP.v1;have F5:=hP.bel;have HP:=Ua hP;clear t6 Q8 QE Xw hP
    by_cases XU:n1=n2
    ·subst XU;have P0:(n1==n1)=true:=by simp
     go_wp2_with (go_at_call_of 150 a2;refine HU.out.mono ?_;rintro r w3 ⟨a3,l3,c3,rfl,j6,I0⟩;have g0:=HP.out.b1.step I0 (by have:=HP.out.lt;omega);obtain ⟨uc0,uc1,uc2⟩:=g0.cc;have g1:=HP.out.b2.step I0 (by have:=HP.out.lt;omega);obtain ⟨vc0,vc1,vc2⟩:=g1.cc;clear g1;have HE:=Xh2 j6 I0;clear g0 j6 I0)
     have x4:w.heap.size+2<w3.heap.size:=Ue HP.out.lt (Xe1 HE).size;have M0:=HP.out.br.step (Xe1 HE) HP.out.lt;have A0:=HP.out.b1.step (Xe1 HE) (by have:=HP.out.lt;omega);have V6:∀W,WordsIn W a1 l1 c1 L1->WordsIn W a3 l3 c3 (dig (2^64) v2)->Calls Tryz.prog 240 #[.slice a1 l1 c1,.slice a3 l3 c3] W (Q90 W (val (2^64) L1+v2)):=fun W q1 q2=>by
      have h:=Qem a1 l1 c1 L1 a3 l3 c3 _ W q1 q2 (by omega) (by
       have h6:=(Xo0 HE).len;omega)
      rwa[Q0s (by decide)] at h
     have Ze:=Ua (show∀W,Qq0 (w.heap.size+2) w3 W->Q03 W w.heap.size (.bool n1) (.int .i64 e1) (.slice a1 l1 c1)/\WordsIn W a1 l1 c1 L1/\WordsIn W a3 l3 c3 (dig (2^64) v2)/\Bw w W from fun W hW=>by
      have hb:=Below.turn (Below.next0 HP.out.bel (Xe1 HE)) hW.1 (Below.next0 HP.out.bel (Xe1 HE)).size (fun k e=>by omega);exact ⟨A0.turn hW.1 (by omega) (by omega),HP.out.w1.step hb,hW.2.2 _ _ _ _ (Xo0 HE),hb⟩)
     have HAD:=Ua V6;have H00:Qq0 (w.heap.size+2) w3 w3.drew:=Qq0.start M0 x4;clear x4 M0 A0 V6 uc0 uc1 uc2 vc0 vc1 vc2;refine Q06 (E:=Qmq (w.heap.size+2) (Qd1 (w.heap.size+2) (.bool n1) (.int .i64 e1) (dig (2^64) (val (2^64) L1+v2)))) (Qmq.refl _ _) (by kernel_rfl) (fun W=>Qq0 (w.heap.size+2) w3 W) (fun _ _ h h'=>h.next h') (Q40 [.pointer (some ⟨w.heap.size,0,none⟩),.bool n1,.pointer (some ⟨w.heap.size,1,none⟩),.int .i64 e1,.pointer (some ⟨w.heap.size,2,none⟩),.slice a1 l1 c1,.slice a3 l3 c3,undef,undef,undef] (Qzy 7 8 9 (w.heap.size+2) (.bool n1) (.int .i64 e1) (dig (2^64) (val (2^64) L1+v2)))) (Qf4 Qih) (Qif 9 rfl (by kernel_rfl)) (by kernel_rfl) H00 ?_ ?_
     ·skip;refine ⟨fun A W hW G0 C0=>?_,?_⟩
      ·have e2:=Q0d G0 2 (by kernel_rfl) rfl;refine Q07 rfl ?_;refine Q13 (u:=.pointer (some ⟨w.heap.size,0,none⟩)) ?_ ((Q0f rfl).2 rfl);simp[go_sem,e2]
      refine ⟨fun A W hW G0 C0=>?_,?_⟩
      ·have e41:=Q12 C0 0 (by decide) rfl rfl rfl;refine Q07 rfl ?_;obtain ⟨k0,_,_,_,_,_⟩:=(Ze.out W hW).1;refine Q13 (u:=.bool n1) ?_ ((Q0f rfl).2 rfl);simp[go_sem,e41,k0]
      refine ⟨fun A W hW G0 C0=>?_,?_⟩
      ·have e2:=Q0d G0 2 (by kernel_rfl) rfl;refine Q07 rfl ?_;refine Q13 (u:=.pointer (some ⟨w.heap.size,1,none⟩)) ?_ ((Q0f rfl).2 rfl);simp[go_sem,e2]
      refine ⟨fun A W hW G0 C0=>?_,?_⟩
      ·have e43:=Q12 C0 2 (by decide) rfl rfl rfl;refine Q07 rfl ?_;obtain ⟨_,k1,_,_,_,_⟩:=(Ze.out W hW).1;refine Q13 (u:=.int .i64 e1) ?_ ((Q0f rfl).2 rfl);simp[go_sem,e43,k1]
      refine ⟨fun A W hW G0 C0=>?_,?_⟩
      ·have e2:=Q0d G0 2 (by kernel_rfl) rfl;refine Q07 rfl ?_;refine Q13 (u:=.pointer (some ⟨w.heap.size,2,none⟩)) ?_ ((Q0f rfl).2 rfl);simp[go_sem,e2]
      refine ⟨fun A W hW G0 C0=>?_,?_⟩
      ·have e45:=Q12 C0 4 (by decide) rfl rfl rfl;refine Q07 rfl ?_;obtain ⟨_,_,k2,_,_,_⟩:=(Ze.out W hW).1;refine Q13 (u:=.slice a1 l1 c1) ?_ ((Q0f rfl).2 rfl);simp[go_sem,e45,k2]
      refine ⟨fun A W hW G0 C0=>?_,?_⟩
      ·have e5:=Q0d G0 5 (by kernel_rfl) rfl;refine Q07 rfl ?_;refine Q13 (u:=.slice a3 l3 c3) ?_ ((Q0f rfl).2 rfl);simp[go_sem,e5]
      refine ⟨fun A W hW G0 C0=>?_,?_⟩
      ·have e46:=Q12 C0 5 (by decide) rfl rfl rfl;have e47:=Q12 C0 6 (by decide) rfl rfl rfl;refine Q07 rfl ?_;refine Qig (f:=240) (args:= #[.slice a1 l1 c1,.slice a3 l3 c3]) (by simp[go_sem,e46,e47]) ((HAD.out W (Ze.out W hW).2.1 (Ze.out W hW).2.2.1).mono ?_);rintro e w2 ⟨a,n,c,rfl,hw,hb⟩;exact ⟨_,rfl,hb,(Q02 rfl).2 ⟨a,n,c,rfl,hw⟩⟩
      refine ⟨fun A W hW G0 C0=>?_,?_⟩
      ·have e42:=Q12 C0 1 (by decide) rfl rfl rfl;have e44:=Q12 C0 3 (by decide) rfl rfl rfl;refine Q07 rfl ?_;obtain ⟨a,n,c,hv,hw⟩:=(Q02 rfl).1 (C0 7 (by decide));have e48:=Q44 hv;refine Q13 (u:=.agg #[.bool n1,.int .i64 e1,.slice a n c]) ?_ ((Q02 rfl).2 ⟨a,n,c,rfl,hw⟩);simp[go_sem,e42,e44,e48]
      refine ⟨fun A W hW G0 C0=>?_,?_⟩
      ·have e4:=Q0d G0 4 (by kernel_rfl) rfl;refine Q07 rfl ?_;obtain ⟨a,n,c,hv,hw⟩:=(Q02 rfl).1 (C0 8 (by decide));have e49:=Q44 hv;obtain ⟨⟨b9,e9,a9,n9,c9,hN⟩,E0⟩:=hW.2.1;have k0:=hN.c0;have f0:=hN.f0;have f1:=hN.f1;have f2:=hN.f2;have d1:=hN.d1 (.bool n1);have d2:=hN.d2 (.bool n1) (.int .i64 e1);refine Qf3 hW.2.1 hw (b:=n1) (e:=e1) rfl rfl ?_ (fun w' h=>(Q02 rfl).2 h);simp[go_sem,e4,e49,k0,f0,f1,f2,d1,d2]
      exact trivial
     intro vs W1 I1 K2;obtain ⟨a,n,c,X6,hlt1,E3⟩:=(Q02 rfl).1 (K2 9 (by decide));simp only[Q0r,Act.put,Ur,Ux,Uv];obtain ⟨k0,k1,k2⟩:=X6.cc;have HG:=Xh2 E3 (Ze.out W1 I1).2.2.2;clear K2 I1 E3 X6
     go_wp2_with fail
     refine ⟨rfl,.agg #[.bool n1,.int .i64 e1,.slice a n c],by simp[results,go_sem,k0,k1,k2],n1,e1,a,n,c,_,rfl,(Xo0 HG),?_,Z4,by omega,?_,(Xe1 HG)⟩
     ·rw[Qbq,<-Qus];exact (Xo0 HF)
     ·have h5:=(Xo1 HF) (val (2^64) L1+v2) (Uf _);rw[(Xo0 HG).len] at h5;exact h5
    ·have o4:n2= !n1:=(by cases n1 <;> cases n2 <;> simp_all);subst o4;have P0:(n1== !n1)=false:=by cases n1 <;> rfl
     by_cases U4:v2<=val (2^64) L1
     ·go_wp2_with (first
       |(go_at_call_of 150 a2;refine HU.out.mono ?_;rintro r w3 ⟨a3,l3,c3,rfl,j6,I0⟩;have g0:=HP.out.b1.step I0 (by have:=HP.out.lt;omega);obtain ⟨uc0,uc1,uc2⟩:=g0.cc;have g1:=HP.out.b2.step I0 (by have:=HP.out.lt;omega);obtain ⟨vc0,vc1,vc2⟩:=g1.cc;have HE:=Xh2 j6 I0;clear g0 g1 j6 I0)
       |(go_at_call_of 241 a1;refine (Qac a1 l1 c1 L1 a3 l3 c3 _ w3 (HP.out.w1.step (Below.next0 HP.out.bel (Xe1 HE))) (Xo0 HE) (by omega) (Xe3 HF)).mono ?_;rintro r w4 ⟨a4,l4,c4,ok,rfl,O1,y9,N1⟩;rw[Q0s (by decide),UT U4] at O1;subst O1;have y9:=y9 rfl;rw[Q0s (by decide)] at y9;
         have p8:=HP.out.lt;have QF:=Below.next0 (Xe1 HE) N1;have g0:=HP.out.b1.step QF (by omega);obtain ⟨uc0,uc1,uc2⟩:=g0.cc;have g1:=HP.out.b2.step QF (by omega);obtain ⟨vc0,vc1,vc2⟩:=g1.cc;have g2:=HP.out.br.step QF p8;obtain ⟨rc0,rc1,rc2,rf0,rf1,rf2⟩:=g2.cf;have rd1:=g2.d1 (.bool n1);have rd2:=g2.d2 (.bool n1) (.int .i64 e1);have HG:=Xh4 y9 g2 (Ue p8 QF.size) (Below.next0 HP.out.bel QF);clear g0 g1 g2 y9 N1 QF))
      have hS:=(Xo1 HG).store (.bool n1) (.int .i64 e1) (.slice a4 l4 c4);obtain ⟨k0,k1,k2⟩:=hS.cc;have G3:=Q03.below (Xe3 HG) (show w.heap.size<=w.heap.size+2 by omega) (.bool n1) (.int .i64 e1) (.slice a4 l4 c4);have z7:WordsIn (((w4.setCell ⟨w.heap.size+2,0,none⟩ (.bool n1)).setCell ⟨w.heap.size+2,1,none⟩ (.int .i64 e1)).setCell ⟨w.heap.size+2,2,none⟩ (.slice a4 l4 c4)) a4 l4 c4 (dig (2^64) (val (2^64) L1-v2)):=⟨(Xo0 HG).len,(Xo0 HG).cap,(Xo0 HG).most,(Xo0 HG).low,((Xo0 HG).rd.store3 (Xo1 HG) (fun _=>by simp[nv]) (fun _=>by simp[nv]) (fun _=>by simp[nv]) _ _ _).more (Q3i _ _ _ _ _)⟩;refine ⟨rfl,.agg #[.bool n1,.int .i64 e1,.slice a4 l4 c4],by simp[results,go_sem,k0,k1,k2],_,e1,a4,l4,c4,_,rfl,z7,?_,Z4,by omega,?_,G3⟩
      ·rw[Qbq,<-(Xo0 HF),Qid,Uu U4]
      ·have h5:=(Xo1 HF) (val (2^64) L1-v2) (by omega);rw[(Xo0 HG).len] at h5;exact h5
     ·go_upto_if 57 with (first
       |(go_at_call_of 150 a2;refine HU.out.mono ?_;rintro r w3 ⟨a3,l3,c3,rfl,j6,I0⟩;have g0:=HP.out.b1.step I0 (by have:=HP.out.lt;omega);obtain ⟨uc0,uc1,uc2⟩:=g0.cc;have g1:=HP.out.b2.step I0 (by have:=HP.out.lt;omega);obtain ⟨vc0,vc1,vc2⟩:=g1.cc;have HE:=Xh2 j6 I0;clear g0 g1 j6 I0)
       |(go_at_call_of 241 a1;refine (Qac a1 l1 c1 L1 a3 l3 c3 _ w3 (HP.out.w1.step (Below.next0 HP.out.bel (Xe1 HE))) (Xo0 HE) (by omega) (Xe3 HF)).mono ?_;rintro r w4 ⟨a4,l4,c4,ok,rfl,O1,y9,N1⟩;rw[Q0s (by decide),UX U4] at O1;subst O1;clear y9;
         have QF:=Below.next0 (Xe1 HE) N1;have g0:=HP.out.b1.step QF (by have:=HP.out.lt;omega);obtain ⟨uc0,uc1,uc2⟩:=g0.cc;have HG1:=Xh2 ((Xo0 HE).step N1) QF;clear g0 N1 QF))
      go_wp2_with (go_at_call_of 241 a1;refine (Qac a3 l3 c3 _ a1 l1 c1 L1 w4 (Xo0 HG1) (HP.out.w1.step (Below.next0 HP.out.bel (Xe1 HG1))) (by have h6:=(Xo0 HG1).len;omega) (by rw[Q0s (by decide)];exact (Xo2 HF))).mono ?_;rintro r w5 ⟨a5,l5,c5,ok,rfl,O1,u9,C1⟩;rw[Q0s (by decide),UT (by omega)] at O1;subst O1;have u9:=u9 rfl;rw[Q0s (by decide)] at u9;have p8:=HP.out.lt;have XC:=Below.next0 (Xe1 HG1) C1;have g0:=HP.out.b1.step XC (by omega);obtain ⟨uc0,uc1,uc2⟩:=g0.cc;have g1:=HP.out.b2.step XC (by omega);obtain ⟨vc0,vc1,vc2⟩:=g1.cc;have g2:=HP.out.br.step XC p8;obtain ⟨rc0,rc1,rc2,rf0,rf1,rf2⟩:=g2.cf;have rd1:=g2.d1 (.bool (!n1));have rd2:=g2.d2 (.bool (!n1)) (.int .i64 e1);have HG:=Xh4 u9 g2 (Ue p8 XC.size) (Below.next0 HP.out.bel XC);clear g0 g1 g2 u9 C1 XC)
      have hS:=(Xo1 HG).store (.bool (!n1)) (.int .i64 e1) (.slice a5 l5 c5);obtain ⟨k0,k1,k2⟩:=hS.cc;have G3:=Q03.below (Xe3 HG) (show w.heap.size<=w.heap.size+2 by omega) (.bool (!n1)) (.int .i64 e1) (.slice a5 l5 c5);have z7:WordsIn (((w5.setCell ⟨w.heap.size+2,0,none⟩ (.bool (!n1))).setCell ⟨w.heap.size+2,1,none⟩ (.int .i64 e1)).setCell ⟨w.heap.size+2,2,none⟩ (.slice a5 l5 c5)) a5 l5 c5 (dig (2^64) (v2-val (2^64) L1)):=⟨(Xo0 HG).len,(Xo0 HG).cap,(Xo0 HG).most,(Xo0 HG).low,((Xo0 HG).rd.store3 (Xo1 HG) (fun _=>by simp[nv]) (fun _=>by simp[nv]) (fun _=>by simp[nv]) _ _ _).more (Q3i _ _ _ _ _)⟩;refine ⟨rfl,.agg #[.bool (!n1),.int .i64 e1,.slice a5 l5 c5],by simp[results,go_sem,k0,k1,k2],_,e1,a5,l5,c5,_,rfl,z7,?_,Z4,by omega,?_,G3⟩
      ·rw[Qbq,<-(Xo0 HF),Qid,Us U4]
      ·have h5:=(Xo1 HF) (v2-val (2^64) L1) (by omega);rw[(Xo0 HG).len] at h5;exact h5
def Qrp (w:World) (D:Dyadic) (r:Ending) (w':World):Prop:=∃n' e' a' l' c' L er,r=.returned (.tuple #[.agg #[.bool n',.int .i64 e',.slice a' l' c'],.int .i64 er])/\Qql D n' e' L er/\Q2n w w' a' l' c' L/\Bw w w'
theorem Qut (n:Bool) (e:Int) (a:OA) (l c:Nat) (L:LN) (w:World) (h:WordsIn w a l c L) (hT:Q1s w) (hl:l<=100000) (he: -1000000000<=e) (D5:e<=1000000000):
 Calls Tryz.prog 312 #[.agg #[.bool n,.int .i64 e,.slice a l c]] w (Qrp w (Q1r n e L)):=by
 obtain ⟨R7,hX,hR,hB⟩:=Q7d w (.bool n) (.int .i64 e) (.slice a l c) (.bool false) (.int .i64 0) (.slice none 0 0) 26 26;generalize hW:(w.alloc (.cells #[.bool n,.int .i64 e,.slice a l c] 26)).alloc (.cells #[.bool false,.int .i64 0,.slice none 0 0] 26)=W at hX hR hB R7;have Y1:w.heap.size+1<W.heap.size:=by omega
 clear R7;obtain ⟨O4,S4,Q3⟩:=hX.cc;have m5:=Q53 n a l c L e W (h.step hB) (hT.step hB) hl he D5;have HR:=Xh4 hR hB m5 Y1;clear hX hR hB m5 h hT Y1
 go_enter Tryz.func312,Tryz.ntmps312
 go_wp2_with (refine (Xo2 HR).mono ?_;rintro r w1 ⟨n',e',a',l',c',L',er,rfl,m7,I1,A0⟩;have M5:=(Xo0 HR).step A0 (Xe3 HR);obtain ⟨rc0,rc1,rc2,rf0,rf1,rf2⟩:=M5.cf;have rd1:=M5.d1 (.bool n');have rd2:=M5.d2 (.bool n') (.int .i64 e');have HM:=Xh4 m7 I1 M5 (Below.next0 (Xo1 HR) A0);clear m7 I1 M5 A0)
 have hS:=(Xo2 HM).store (.bool n') (.int .i64 e') (.slice a' l' c');obtain ⟨k0,k1,k2⟩:=hS.cc;have G3:=Q03.below (Xe3 HM) (show w.heap.size<=w.heap.size+1 by omega) (.bool n') (.int .i64 e') (.slice a' l' c');have E3:=(Xo1 HM);have z7:WordsIn _ a' l' c' L':=⟨E3.len,E3.cap,E3.most,E3.low,(E3.rd.store3 (Xo2 HM) (fun _=>by simp[nv]) (fun _=>by simp[nv]) (fun _=>by simp[nv]) (.bool n') (.int .i64 e') (.slice a' l' c')).more (Q3i _ _ _ _ _)⟩;exact ⟨rfl,.tuple #[.agg #[.bool n',.int .i64 e',.slice a' l' c'],.int .i64 er],by simp[results,go_sem,k0,k1,k2],n',e',a',l',c',L',er,rfl,Q94 (Xo0 HM),(E3.lower (Xo1 HR).size).on z7,G3⟩
theorem Qod {v:Nat} (h:v<18446744073709551616):Q64 (dy (sgn false v) 0):=by
 by_cases h0:v=0
 ·subst h0;exact .inl rfl
 ·obtain ⟨z,hz⟩:=Qq6 h0;have hz64:z<64:=by
   refine Xak fun B5=>?_;have h3:2^64<=2^z:=UL (by decide) B5;have h5:=hz.1;rw[Xaj (Ue h h3)] at h5;exact h0 h5
  have hb:v / 2^z<(2^64)^64:=TQ (Xbn _ _) (Ue h (show 2^64<=(2^64)^64 from Nat.le_self_pow (by decide) _));rw[<-Quf hz,Q93 hz.2];exact ⟨hb,by omega,by omega⟩
theorem Qae (v:Nat) (w:World) (hv:v<9223372036854775808) (hT:Q1s w):
 Calls Tryz.prog 113 #[.int .i64 (v:Int)] w fun r w'=>∃n' e' a' l' c' L,r=.returned (.agg #[.bool n',.int .i64 e',.slice a' l' c'])/\Q0a n' e' L/\Q1r n' e' L=dy (v:Int) 0/\Q2n w w' a' l' c' L/\Bw w w':=by
 have X5:¬(v:Int)<0:=by omega
 have QE:(v:Int)<18446744073709551616:=by omega
 have Z0:∀o,Bw w (w.alloc o):=fun o=>Ba;have D2:(w.alloc (.cells #[.bool false,.int .i64 0,.slice none 0 0] 26)).heap.size=w.heap.size+1:=Uk _ _;have Yy:=Q7p (w.alloc (.cells #[.bool false,.int .i64 0,.slice none 0 0] 26)) v (by omega) 83;have D0:Below (w.alloc (.cells #[.bool false,.int .i64 0,.slice none 0 0] 26)).heap.size (w.alloc (.cells #[.bool false,.int .i64 0,.slice none 0 0] 26)) ((w.alloc (.cells #[.bool false,.int .i64 0,.slice none 0 0] 26)).alloc (.cells #[.int .u64 (v:Int)] 83)):=Ba;have hR:=(Q03.new w (.bool false) (.int .i64 0) (.slice none 0 0) 26).step D0 (Q0p _ _);have Y1:=Ue (Q0p w (.cells #[.bool false,.int .i64 0,.slice none 0 0] 26)) D0.size;have hB:=Below.next0 (Z0 _) D0;rw[D2] at Yy;generalize hW:(w.alloc (.cells #[.bool false,.int .i64 0,.slice none 0 0] 26)).alloc (.cells #[.int .u64 (v:Int)] 83)=W at Yy hR hB Y1;have m5:=Q53 false (some ⟨w.heap.size+1,0,none⟩) 1 1 [v] 0 W Yy (hT.step hB) (by decide) (by decide) (by decide);have HR:=Xh4 hR hB m5 Y1;clear Z0 D2 Yy D0 hR Y1 hB m5 hT
 go_enter Tryz.func113,Tryz.ntmps113
 go_wp2_with (refine (Xo2 HR).mono ?_;rintro r w1 ⟨n',e',a',l',c',L',er,rfl,m7,I1,A0⟩;have N6:Bw w1 (w1.alloc (.cells #[.bool n',.int .i64 e',.slice a' l' c'] 26)):=Ba;have hX:=Q03.new w1 (.bool n') (.int .i64 e') (.slice a' l' c') 26;obtain ⟨xc0,xc1,xc2⟩:=hX.cc;have M5:=((Xo0 HR).step A0 (Xe3 HR)).step N6 (Ue (Xe3 HR) A0.size);obtain ⟨rc0,rc1,rc2,rf0,rf1,rf2⟩:=M5.cf;have rd1:=M5.d1 (.bool n');have rd2:=M5.d2 (.bool n') (.int .i64 e');have HM:=Xh4 m7 (I1.on (I1.step N6)) M5 (Below.next0 (Below.next0 (Xo1 HR) A0) N6);clear m7 I1 M5 A0 N6 hX)
 have hS:=(Xo2 HM).store (.bool n') (.int .i64 e') (.slice a' l' c');obtain ⟨k0,k1,k2⟩:=hS.cc;have G3:=Q03.below (Xe3 HM) (Uf w.heap.size) (.bool n') (.int .i64 e') (.slice a' l' c');have E3:=(Xo1 HM);have z7:WordsIn _ a' l' c' L':=⟨E3.len,E3.cap,E3.most,E3.low,(E3.rd.store3 (Xo2 HM) (fun _=>by simp[nv]) (fun _=>by simp[nv]) (fun _=>by simp[nv]) (.bool n') (.int .i64 e') (.slice a' l' c')).more (Q3i _ _ _ _ _)⟩;have O7:=Q94 (Xo0 HM);rw[Qku] at O7;obtain ⟨_,_,QA,hnd⟩|⟨i4,_⟩:=O7
 ·exact ⟨rfl,.agg #[.bool n',.int .i64 e',.slice a' l' c'],by simp[results,go_sem,k0,k1,k2],n',e',a',l',c',L',rfl,QA,hnd,(E3.lower (Xo1 HR).size).on z7,G3⟩
 ·exact absurd (Qod (by omega)) i4
end Go.Proofs.YtidojbkhlenahaaGreatDoor
