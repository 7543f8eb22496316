/- Part 8 of the proof of LawParseMeans: RefLeft, NatU, NatC, DyM, ExactA. Condition: as each theorem says; none at the end. -/
import Derived.Test.YtdilmfakkppgpaaGreatDoorPkParseMeans07
set_option maxRecDepth 100000
set_option maxHeartbeats 16000000
namespace Go.Proofs.YtdilmfakkppgpaaGreatDoor
open Go.RowKit WordsM
theorem Qew {B:Nat} {L A:List Nat} {k i s x y lo hi:Nat} (hL:val B L=val B (A.take i)*(B^k*2^s)) (hx:A[i]?=some x) (hy:L[k+i]?=some y) (h0:L[k+i+1]?=some 0)
 (hp:x*2^s=lo+B*hi):val B ((L.set (k+i) (y+lo)).set (k+i+1) hi)=val B (A.take (i+1))*(B^k*2^s):=by
 have h1:=Q8j (B:=B) L (k+i) (y+lo) y hy
 have h2:=Q8j (B:=B) (L.set (k+i) (y+lo)) (k+i+1) hi 0 (by rw[List.getElem?_set_ne (by omega)];exact h0)
 rw[Q13 A i x hx,Nat.add_mul,<-hL]
 have e1:B^i*x*(B^k*2^s)=lo*B^(k+i)+hi*B^(k+i+1):=by
  have e2:B^i*x*(B^k*2^s)=(x*2^s)*B^(k+i):=by
   rw[Nat.pow_add,Nat.mul_comm (B^i) x,Nat.mul_assoc x,<-Nat.mul_assoc (B^i),Nat.mul_comm (B^i),Nat.mul_assoc (B^k),Nat.mul_comm (B^i),<-Nat.mul_assoc (B^k),Nat.mul_comm (B^k) (2^s),Nat.mul_assoc (2^s),<-Nat.mul_assoc x]
  rw[e2,hp,Nat.add_mul,Nat.pow_succ,Nat.mul_comm B hi,Nat.mul_assoc hi,Nat.mul_comm B]
 rw[Nat.add_mul] at h1
 omega
theorem Qtw {s t x y:Nat} (hst:s+t=32) (hx:x<2^32) (hy:y<2^s):y |||x*2^s%2^32=y+x*2^s%2^32/\y+x*2^s%2^32<2^32/\x*2^s / 2^32<2^s:=by
 have e:(2:Nat)^32=2^t*2^s:=by rw[<-Nat.pow_add,<-hst,Nat.add_comm]
 have e2:x*2^s%2^32=2^s*(x%2^t):=by rw[e,Nat.mul_mod_mul_right,Nat.mul_comm]
 have hm:x%2^t<2^t:=Nat.mod_lt _ (Nat.pow_pos (by decide))
 have hle:2^s*(x%2^t+1)<=2^s*2^t:=Nat.mul_le_mul_left _ hm
 rw[Nat.mul_add,Nat.mul_one,Nat.mul_comm (2^s) (2^t),<-e] at hle
 refine ⟨?_,?_,?_⟩
 ·rw[e2,Nat.or_comm,<-Nat.two_pow_add_eq_or_of_lt hy,Nat.add_comm]
 ·rw[e2];omega
 ·rw[Nat.mul_comm]
  exact Nat.div_lt_of_lt_mul (by rw[Nat.mul_comm (2^32)];exact Nat.mul_lt_mul_of_pos_left hx (Nat.pow_pos (by decide)))
theorem Qap (a:Option Addr) (n c:Nat) (v z:Nat) (w:World) (h:Q0l w a n c v) (hn:n<=1000000) (hz:z<=100000000):
 Calls Tryz.prog 57 #[.slice a n c,.int .i64 (z:Int)] w fun e w'=>∃a' n',e=.returned (.slice a' n' n')/\n'<=n+z / 32+1/\Q0l w' a' n' n' (v*2^z)/\Below w.heap.size w w':=by
 have hv:val (2^32) (dig (2^32) v)=v:=Q0r (by decide) v
 have hl:=Q22 (B:=2^32) (by decide) v
 have hA1:=h.len
 have hr:=h.rd
 obtain ⟨A,hA⟩:∃A,dig (2^32) v=A:=⟨_,rfl⟩
 rw[hA] at hv hl hA1 hr
 subst hA1
 by_cases h0:A.length=0
 ·have hA0:A=[]:=List.length_eq_zero_iff.1 h0
  have hv0:v=0:=by rw[<-hv,hA0];rfl
  rw[hv0,Nat.zero_mul,h0]
  go_enter Tryz.func57,Tryz.ntmps57
  go_wp2_with fail
  go_ret
  exact ⟨none,0,rfl,Nat.zero_le _,Q0l.nil_ w,Below.refl _ _⟩
 have h0':¬((A.length:Int)=0):=by omega
 have h0b:((A.length:Int)==0)=false:=by rw[beq_eq_false_iff_ne];exact h0'
 obtain ⟨k,hk⟩:∃k,z / 32=k:=⟨_,rfl⟩
 obtain ⟨s,hs⟩:∃s,z%32=s:=⟨_,rfl⟩
 have hs32:s<32:=by omega
 have hzz:z=32*k+s:=by omega
 have hkI:(z:Int).tdiv 32=(k:Int):=by rw[Int.tdiv_eq_ediv_of_nonneg (by omega)];omega
 have hsI:(z:Int).tmod 32=(s:Int):=by rw[Int.tmod_eq_emod_of_nonneg (by omega)];omega
 have hkI2:(z:Int) / 32=(k:Int):=by omega
 have hsI2:(z:Int)%32=(s:Int):=by omega
 have hzv:v*2^z=v*((2^32)^k*2^s):=by rw[hzz,Nat.pow_add,Nat.pow_mul]
 rw[hzv,hk]
 have hmk:=run_make_row' (P:=Tryz.prog) 54 152 (.int .u32 0) 4 Tryz.underlying54 Q6h rfl .i64 .i64 (k+A.length+1) (by omega) (by omega)
 rw[show ((k+A.length+1:Nat):Int)=(k:Int)+(A.length:Int)+1 by omega,Q1y] at hmk
 have H:=Xh3 hv hl hr
 clear hv hl hr hA h hk hs hzv hzz h0
 go_enter Tryz.func57,Tryz.ntmps57
 go_wp2_with fail
 have hB0:Below w.heap.size w (w.alloc (.cells (Array.replicate (k+A.length+1) (nv .u32 0)) 152)):=(Below.refl _ _).alloc (Nat.le_refl _) _
 have hA0:=Arr.zeros w 152 .u32 (k+A.length+1)
 have H0:=Xh2 hB0 hA0
 clear hB0 hA0 hmk
 go_loopw [6] (fun iv wr=>∃(i:Nat) (L:List Nat),iv=.int .i64 (i:Int)/\i<=A.length/\Arr 152 .u32 wr w.heap.size L/\L.length=k+A.length+1/\Low (2^32) L/\val (2^32) L=val (2^32) (A.take i)*((2^32)^k*2^s)/\(∀t,k+i<t->t<k+A.length+1->L[t]?=some 0)/\(∃y,L[k+i]?=some y/\y<2^s)/\Below w.heap.size w wr) (fun iv _=>A.length-(intOf iv).toNat)
 case atStart=>
  refine ⟨0,List.replicate (k+A.length+1) 0,rfl,Nat.zero_le _,(Xe1 H0),by simp,fun x hx=>?_,by rw[Q65];simp[val],fun t _ ht=>?_,⟨0,?_,Nat.pow_pos (by decide)⟩,(Xo0 H0)⟩
  ·rw[List.eq_of_mem_replicate hx];decide
  ·rw[List.getElem?_replicate];simp[ht]
  ·rw[List.getElem?_replicate,if_pos (by omega)]
 case round=>
  obtain ⟨i,L,rfl,hi,hL,hLl,hLow,hval,hzer,⟨y,hy,hys⟩,hbw⟩:=hrel
  by_cases hlt:i<A.length
  ·have hlt':(i:Int)<(A.length:Int):=by omega
   obtain ⟨x,hx⟩:∃x,A[i]?=some x:=⟨_,List.getElem?_eq_getElem hlt⟩
   obtain ⟨ba,oa,hae,hba,hcx⟩:=((Xe2 H).below hbw).at_ hx
   have hxl:x<4294967296:=(Xo1 H) x (List.mem_of_getElem? hx)
   have hyl:y<4294967296:=hLow y (List.mem_of_getElem? hy)
   subst hae
   obtain ⟨hor,hlo32,hhis⟩:=Qtw (s:=s) (t:=32-s) (x:=x) (y:=y) (by omega) hxl hys
   have h0i:=hzer (k+i+1) (by omega) (by omega)
   have hps:x*2^s<18446744073709551616:=by
    have h1:x*2^s<=x*2^32:=Nat.mul_le_mul_left _ (Nat.pow_le_pow_right (by decide) (by omega))
    have h2:x*2^32<2^32*2^32:=Nat.mul_lt_mul_of_pos_right hxl (by decide)
    exact Nat.lt_of_le_of_lt h1 h2
   have hstep:=fun lo hi (hp:x*2^s=lo+2^32*hi)=>Qew (lo:=lo) (hi:=hi) hval hx hy h0i hp
   obtain ⟨p,hp⟩:∃p,x*2^s=p:=⟨_,rfl⟩
   have hpI:(x:Int)*2^s=(p:Int):=by rw[<-hp];norm_cast
   rw[hp] at hor hlo32 hhis hps hstep
   have hand:=Qny p hps
   obtain ⟨lo,hlo⟩:∃lo,p%4294967296=lo:=⟨_,rfl⟩
   obtain ⟨hi',hhi⟩:∃hi,p / 4294967296=hi:=⟨_,rfl⟩
   rw[hlo] at hand
   have hlol:lo<4294967296:=by omega
   have hhil:hi'<4294967296:=by omega
   have hhiI:(p:Int) / 4294967296=(hi':Int):=by omega
   rw[show p%2^32=lo from hlo] at hor hlo32
   rw[show p / 2^32=hi' from hhi] at hhis
   have hst:=hstep lo hi' (by omega)
   have ho32:=u32_or_nat y lo hyl hlol
   rw[hor] at ho32
   obtain ⟨q,hq⟩:∃q,y+lo=q:=⟨_,rfl⟩
   rw[hq] at ho32 hlo32 hst
   have hzc:wr.cell? ⟨w.heap.size,k+i,none⟩=some (.int .u32 (y:Int)):=hL.cell hy
   have hzf:wr.frozen? ⟨w.heap.size,k+i,none⟩=false:=hL.frozen _
   have hL1:=hL.set (k+i) q
   have hy1:(L.set (k+i) q)[k+i+1]?=some 0:=by rw[List.getElem?_set_ne (by omega)];exact h0i
   have hzc1:=hL1.cell hy1
   have hzf1:(wr.setCell ⟨w.heap.size,k+i,none⟩ (.int .u32 (q:Int))).frozen? ⟨w.heap.size,k+i+1,none⟩=false:=hL1.frozen _
   have hL2:=hL1.set (k+i+1) hi'
   have hki:(k:Int)+(i:Int)<(k:Int)+(A.length:Int)+1:=by omega
   have hki1:(k:Int)+(i:Int)+1<(k:Int)+(A.length:Int)+1:=by omega
   have HH:=Xh6 hst hL2 hLow hbw hzer hhis
   clear hst hL hL1 hL2 hLow hval hbw hzer hlo hhi hp hx hy h0i hstep hor hy1 hhis hq
   go_wp2_with fail
   refine ⟨⟨i+1,(L.set (k+i) q).set (k+i+1) hi',by simp,by omega,(Xo1 HH),by simp[hLl],Q3q (Q3q (Xo2 HH) hlo32) hhil,(Xo0 HH),fun t ht1 ht2=>?_,⟨hi',?_,(Xe5 HH)⟩,((Xo3 HH).setCell (p:=⟨w.heap.size,k+i,none⟩) (Nat.le_refl _) _).setCell (p:=⟨w.heap.size,k+i+1,none⟩) (Nat.le_refl _) _⟩,by simp only[intOf];omega⟩
   ·rw[List.getElem?_set_ne (by omega),List.getElem?_set_ne (by omega)]
    exact (Xo4 HH) t (by omega) ht2
   ·rw[show k+(i+1)=k+i+1 by omega,List.getElem?_set_self (by rw[List.length_set];omega)]
  ·obtain rfl:i=A.length:=by omega
   have hlt':¬((A.length:Int)<(A.length:Int)):=by omega
   rw[List.take_length,(Xo0 H)] at hval
   have hT:=Q4n (some ⟨w.heap.size,0,none⟩) (k+A.length+1) (k+A.length+1) L wr hLl (Nat.le_refl _) (by omega) hL.rd hLow
   rw[hval] at hT
   have HE:=Xh2 hT hbw
   clear hT hbw hval hL hLow hzer
   go_wp2_with (refine (Xo0 HE).mono ?_;rintro e w1 ⟨n',rfl,hn',hD,rfl⟩;have HD2:=Xh2 hD hn';clear hD hn')
   go_ret
   exact ⟨_,n',rfl,by have:=(Xe1 HD2);omega,(Xo0 HD2),(Xe1 HE)⟩
theorem Qoh {s t x y:Nat} (hst:s+t=64) (hx:x<2^64) (hy:y<2^s):y |||x*2^s%2^64=y+x*2^s%2^64/\y+x*2^s%2^64<2^64/\x*2^s / 2^64<2^s/\x / 2^t=x*2^s / 2^64:=by
 have e:(2:Nat)^64=2^t*2^s:=by rw[<-Nat.pow_add,<-hst,Nat.add_comm]
 have e2:x*2^s%2^64=2^s*(x%2^t):=by rw[e,Nat.mul_mod_mul_right,Nat.mul_comm]
 have hm:x%2^t<2^t:=Nat.mod_lt _ (Nat.pow_pos (by decide))
 have hle:2^s*(x%2^t+1)<=2^s*2^t:=Nat.mul_le_mul_left _ hm
 rw[Nat.mul_add,Nat.mul_one,Nat.mul_comm (2^s) (2^t),<-e] at hle
 refine ⟨?_,?_,?_,?_⟩
 ·rw[e2,Nat.or_comm,<-Nat.two_pow_add_eq_or_of_lt hy,Nat.add_comm]
 ·rw[e2];omega
 ·rw[Nat.mul_comm]
  exact Nat.div_lt_of_lt_mul (by rw[Nat.mul_comm (2^64)];exact Nat.mul_lt_mul_of_pos_left hx (Nat.pow_pos (by decide)))
 ·rw[e,Nat.mul_div_mul_right _ _ (Nat.pow_pos (by decide))]
theorem Qoi (a:Option Addr) (n c:Nat) (ls:List Nat) (z:Nat) (w:World) (h:WordsIn w a n c ls) (hn:n<=1000000) (hz:z<=100000000):
 Calls Tryz.prog 100 #[.slice a n c,.int .i64 (z:Int)] w (Qaj w (val (2^64) ls*2^z)):=by
 have hln:=h.len
 have H1:=Lib.hid h
 clear h
 have htl:=trim_len ls
 by_cases h0:(trimL ls).length=0
 ·have hA0:trimL ls=[]:=List.length_eq_zero_iff.1 h0
  have hv0:val (2^64) ls=0:=by rw[<-Q1b,hA0];rfl
  rw[hv0,Nat.zero_mul]
  have h0I:((trimL ls).length:Int)=0:=by omega
  have h0b:(((trimL ls).length:Int)==0)=true:=by rw[beq_iff_eq];exact h0I
  go_enter Tryz.func100,Tryz.ntmps100
  go_wp2_with (refine (Q1e a n c ls _ H1.out).mono ?_;rintro e w1 ⟨rfl,hb1⟩;have HB1:=Lib.hid hb1;clear hb1)
  go_ret
  exact ⟨none,0,0,rfl,WordsIn.nil_ _,HB1.out⟩
 have h0I:¬((trimL ls).length:Int)=0:=by omega
 have h0b:(((trimL ls).length:Int)==0)=false:=by rw[beq_eq_false_iff_ne];exact h0I
 obtain ⟨k,hk⟩:∃k,z / 64=k:=⟨_,rfl⟩
 obtain ⟨s,hs⟩:∃s,z%64=s:=⟨_,rfl⟩
 have hs64:s<64:=by omega
 have hzz:z=64*k+s:=by omega
 have hkI:(z:Int).tdiv 64=(k:Int):=by rw[Int.tdiv_eq_ediv_of_nonneg (by omega)];omega
 have hsI:(z:Int).tmod 64=(s:Int):=by rw[Int.tmod_eq_emod_of_nonneg (by omega)];omega
 have hkI2:(z:Int) / 64=(k:Int):=by omega
 have hsI2:(z:Int)%64=(s:Int):=by omega
 have hsub:(64:Int)-(s:Int)=((64-s:Nat):Int):=by omega
 have hzv:val (2^64) ls*2^z=val (2^64) (trimL ls)*((2^64)^k*2^s):=by rw[Q1b,hzz,Nat.pow_add,Nat.pow_mul]
 rw[hzv]
 obtain ⟨A,hA⟩:∃A,trimL ls=A:=⟨_,rfl⟩
 have hT:=fun W (hb:Below w.heap.size w W)=>(H1.out.step hb).trim
 rw[hA] at htl h0I h0b hT⊢
 have hmk:=run_make_row' (P:=Tryz.prog) 23 74 (.int .u64 0) 8 Tryz.underlying23 Q4w rfl .i64 .i64 (A.length+k+1) (by omega) (by omega)
 rw[show ((A.length+k+1:Nat):Int)=(A.length:Int)+(k:Int)+1 by omega,Q1y] at hmk
 have HT:=Lib.hid hT
 have hcut:=fun W hb=>Q1e a n c ls W (H1.out.step hb)
 rw[hA] at hcut
 have HC:=Lib.hid hcut
 clear hT hk hs hzv hzz h0 hA hcut
 go_enter Tryz.func100,Tryz.ntmps100
 go_wp2_with (refine (HC.out _ (Below.refl _ _)).mono ?_;rintro e w1 ⟨rfl,hb1⟩;have HB1:=Lib.hid hb1;clear hb1)
 have hW1:=HT.out w1 HB1.out
 have hlow:=hW1.low
 have hrd:=hW1.rd
 have hB0:Below w1.heap.size w1 (w1.alloc (.cells (Array.replicate (A.length+k+1) (nv .u64 0)) 74)):=(Below.refl _ _).alloc (Nat.le_refl _) _
 have hA0:=Arr.zeros w1 74 .u64 (A.length+k+1)
 have H0:=Xh2 hB0 hA0
 have H:=Xh2 hlow hrd
 clear hB0 hA0 hmk hW1 hlow hrd
 go_loopw [27] (fun iv wr=>∃(i:Nat) (L:List Nat),iv=.int .i64 (i:Int)/\i<=A.length/\Arr 74 .u64 wr w1.heap.size L/\L.length=A.length+k+1/\Low (2^64) L/\val (2^64) L=val (2^64) (A.take i)*((2^64)^k*2^s)/\(∀t,k+i<t->t<A.length+k+1->L[t]?=some 0)/\(∃y,L[k+i]?=some y/\y<2^s)/\Below w1.heap.size w1 wr) (fun iv _=>A.length-(intOf iv).toNat)
 case atStart=>
  refine ⟨0,List.replicate (A.length+k+1) 0,rfl,Nat.zero_le _,(Xe1 H0),by simp,fun x hx=>?_,by rw[Q65];simp[val],fun t _ ht=>?_,⟨0,?_,Nat.pow_pos (by decide)⟩,(Xo0 H0)⟩
  ·rw[List.eq_of_mem_replicate hx];decide
  ·rw[List.getElem?_replicate];simp[ht]
  ·rw[List.getElem?_replicate,if_pos (by omega)]
 case round=>
  obtain ⟨i,L,rfl,hi,hL,hLl,hLow,hval,hzer,⟨y,hy,hys⟩,hbw⟩:=hrel
  by_cases hlt:i<A.length
  ·have hlt':(i:Int)<(A.length:Int):=by omega
   obtain ⟨x,hx⟩:∃x,A[i]?=some x:=⟨_,List.getElem?_eq_getElem hlt⟩
   obtain ⟨ba,oa,hae,hba,hcx⟩:=((Xe1 H).below hbw).at_ hx
   have hxl:x<18446744073709551616:=(Xo0 H) x (List.mem_of_getElem? hx)
   have hyl:y<18446744073709551616:=hLow y (List.mem_of_getElem? hy)
   subst hae
   obtain ⟨hor,hlo64,hhis,hxt⟩:=Qoh (s:=s) (t:=64-s) (x:=x) (y:=y) (by omega) hxl hys
   have h0i:=hzer (k+i+1) (by omega) (by omega)
   have hstep:=fun lo hi (hp:x*2^s=lo+2^64*hi)=>Qew (lo:=lo) (hi:=hi) hval hx hy h0i hp
   have hmulI:((x:Int)*2^s)%18446744073709551616=((x*2^s%2^64:Nat):Int):=by rw[Int.natCast_emod,Int.natCast_mul,Int.natCast_pow];rfl
   have hdivI:(x:Int) / 2^(64-s)=((x / 2^(64-s):Nat):Int):=by norm_cast
   obtain ⟨p,hp⟩:∃p,x*2^s=p:=⟨_,rfl⟩
   rw[hxt] at hdivI
   rw[hp] at hor hlo64 hhis hstep hmulI hdivI
   obtain ⟨lo,hlo⟩:∃lo,p%2^64=lo:=⟨_,rfl⟩
   obtain ⟨hi',hhi⟩:∃hi,p / 2^64=hi:=⟨_,rfl⟩
   have hpd:=Nat.mod_add_div p (2^64)
   rw[hlo,hhi] at hpd
   have hst:=hstep lo hi' hpd.symm
   rw[hlo] at hor hlo64 hmulI
   rw[hhi] at hhis hdivI
   have hlol:lo<18446744073709551616:=by rw[<-hlo];exact Nat.mod_lt _ (by decide)
   have hhil:hi'<18446744073709551616:=Nat.lt_trans hhis (Nat.pow_lt_pow_right (by decide) hs64)
   have ho64:=u64_or_nat y lo hyl hlol
   rw[hor] at ho64
   obtain ⟨q,hq⟩:∃q,y+lo=q:=⟨_,rfl⟩
   rw[hq] at ho64 hlo64 hst
   rw[Nat.add_comm k i] at hst hy h0i
   have hzc:wr.drew.cell? ⟨w1.heap.size,i+k,none⟩=some (.int .u64 (y:Int)):=hL.cell hy
   have hzf:wr.drew.frozen? ⟨w1.heap.size,i+k,none⟩=false:=hL.frozen _
   have hL1:Arr 74 .u64 (wr.setCell ⟨w1.heap.size,i+k,none⟩ (.int .u64 (q:Int))).drew w1.heap.size (L.set (i+k) q):=Arr.set (w:=wr) hL (i+k) q
   have hy1:(L.set (i+k) q)[i+k+1]?=some 0:=by rw[List.getElem?_set_ne (by omega)];exact h0i
   have hzc1:=hL1.cell hy1
   have hzf1:(wr.setCell ⟨w1.heap.size,i+k,none⟩ (.int .u64 (q:Int))).drew.frozen? ⟨w1.heap.size,i+k+1,none⟩=false:=hL1.frozen _
   have hL2:=hL1.set (i+k+1) hi'
   have hcx':wr.drew.cell? ⟨ba,oa+i,none⟩=some (.int .u64 (x:Int)):=hcx
   have hki:(i:Int)+(k:Int)<(A.length:Int)+(k:Int)+1:=by omega
   have hki1:(i:Int)+(k:Int)+1<(A.length:Int)+(k:Int)+1:=by omega
   have hkia:(k:Int)+(i:Int)<(A.length:Int)+(k:Int)+1:=by omega
   have hkia1:(k:Int)+(i:Int)+1<(A.length:Int)+(k:Int)+1:=by omega
   have HH:=Xh6 hst hL2 hLow hbw hzer hhis
   clear hst hL hL1 hL2 hLow hval hbw hzer hlo hhi hp hx hy h0i hstep hor hy1 hhis hq hpd hxt
   have hfin:bits .or .u64 (y:Int) (IntKind.u64.wrap ((x:Int)*2^s))=(q:Int):=by rw[IntKind.wrap_u64,hmulI,ho64]
   go_wp2_with fail
   go_region
   go_wp2_with fail
   refine ⟨⟨i+1,(L.set (i+k) q).set (i+k+1) hi',by simp,by omega,(Xo1 HH),by simp[hLl],Q3q (Q3q (Xo2 HH) hlo64) hhil,(Xo0 HH),fun t ht1 ht2=>?_,⟨hi',?_,(Xe5 HH)⟩,((Xo3 HH).setCell (p:=⟨w1.heap.size,i+k,none⟩) (Nat.le_refl _) _).drew.setCell (p:=⟨w1.heap.size,i+k+1,none⟩) (Nat.le_refl _) _⟩,by simp only[intOf];omega⟩
   ·rw[List.getElem?_set_ne (by omega),List.getElem?_set_ne (by omega)]
    exact (Xo4 HH) t (by omega) ht2
   ·rw[show k+(i+1)=i+k+1 by omega,List.getElem?_set_self (by rw[List.length_set];omega)]
  ·obtain rfl:i=A.length:=by omega
   have hlt':¬((A.length:Int)<(A.length:Int)):=by omega
   rw[List.take_length] at hval
   have hWL:WordsIn wr (some ⟨w1.heap.size,0,none⟩) (A.length+k+1) (A.length+k+1) L:=⟨hLl,Nat.le_refl _,by omega,hLow,hL.rd⟩
   have hT:=hWL.trim
   rw[Q1j (by decide) hLow,hval] at hT
   have hC:=Q1e (some ⟨w1.heap.size,0,none⟩) (A.length+k+1) (A.length+k+1) L wr hWL
   rw[Q1j (by decide) hLow,hval] at hC
   have HE:=Xh3 hC hT hbw
   clear hT hbw hval hL hLow hzer hC hWL
   go_wp2_with (refine (Xo0 HE).mono ?_;rintro e w2 ⟨rfl,hb2⟩;have HB2:=Lib.hid hb2;clear hb2)
   go_ret
   exact ⟨_,_,_,rfl,(Xo1 HE).step HB2.out,Below.next0 (Below.next0 HB1.out (Xe2 HE)) HB2.out⟩
theorem Qlj {B:Nat} {A K:List Nat} {i x S:Nat} (hx:A[i]?=some x) (h:S=val B (A.take i)*val B K+x*B^i*val B K):S=val B (A.take (i+1))*val B K:=by
 rw[Q13 A i x hx,h,Nat.add_mul,Nat.mul_comm x]
theorem Qlk {B V:Nat} {K:List Nat} {i j x y:Nat} (hy:K[j]?=some y):V+x*B^i*val B (K.take j)+x*y*B^(i+j)=V+x*B^i*val B (K.take (j+1)):=by
 rw[Q13 K j y hy,Nat.mul_add,Nat.pow_add,Nat.add_assoc]
 congr 2
 rw[Nat.mul_assoc x (B^i),<-Nat.mul_assoc (B^i) (B^j) y,Nat.mul_comm (B^i*B^j) y]
 simp only[Nat.mul_assoc]
theorem Qcg (a:Option Addr) (n c:Nat) (ls:List Nat) (b:Option Addr) (m d:Nat) (ks:List Nat) (w:World) (h1:WordsIn w a n c ls) (h2:WordsIn w b m d ks) (hn:n<=100000) (hm:m<=100000):
 Calls Tryz.prog 98 #[.slice a n c,.slice b m d] w (Qaj w (val (2^64) ls*val (2^64) ks)):=by
 have hl1:=h1.len
 have hl2:=h2.len
 have H1:=Lib.hid h1
 have H2:=Lib.hid h2
 have ht1:=trim_len ls
 have ht2:=trim_len ks
 have hv1:val (2^64) (trimL ls)=val (2^64) ls:=Q1b ls
 have hv2:val (2^64) (trimL ks)=val (2^64) ks:=Q1b ks
 have hc1:=fun W (hb:Below w.heap.size w W)=>Q1e a n c ls W (h1.step hb)
 have hc2:=fun W (hb:Below w.heap.size w W)=>Q1e b m d ks W (h2.step hb)
 obtain ⟨A,hA⟩:∃A,trimL ls=A:=⟨_,rfl⟩
 obtain ⟨K,hK⟩:∃K,trimL ks=K:=⟨_,rfl⟩
 have hw1:=fun W (hb:Below w.heap.size w W)=>(h1.step hb).trim
 have hw2:=fun W (hb:Below w.heap.size w W)=>(h2.step hb).trim
 rw[hA] at ht1 hv1 hc1 hw1
 rw[hK] at ht2 hv2 hc2 hw2
 rw[<-hv1,<-hv2]
 have HC:=Xh2 hc1 hc2
 have HW:=Xh2 hw1 hw2
 clear hA hK hv1 hv2 hc1 hc2 hw1 hw2 h1 h2 H1 H2
 by_cases h0:A.length=0∨K.length=0
 ·have hz:val (2^64) A*val (2^64) K=0:=by
   rcases h0 with h0|h0
   ·rw[List.length_eq_zero_iff.1 h0];simp[val]
   ·rw[List.length_eq_zero_iff.1 h0];simp[val]
  have HZ:=Lib.hid hz
  rw[hz]
  clear hz
  by_cases hA0:A.length=0
  ·have hA0':((A.length:Int)==0)=true:=by simp[hA0]
   go_enter Tryz.func98,Tryz.ntmps98
   go_wp2_with (first
    |(go_at_call_of 143 a;refine ((Xo0 HC) _ (Below.refl _ _)).mono ?_;rintro e w1 ⟨rfl,hb1⟩;have HB1:=Lib.hid hb1;clear hb1)
    |(go_at_call_of 143 b;refine ((Xe1 HC) _ HB1.out).mono ?_;rintro e w2 ⟨rfl,hb2⟩;have HB2:=Lib.hid (Below.next0 HB1.out hb2);clear hb2))
   go_ret
   exact ⟨none,0,0,rfl,⟨rfl,Nat.le_refl _,Nat.zero_le _,fun x hx=>by simp[Q0x] at hx,.inl rfl⟩,HB2.out⟩
  ·have hK0:K.length=0:=by omega
   have hA0':((A.length:Int)==0)=false:=by rw[beq_eq_false_iff_ne];omega
   have hK0':((K.length:Int)==0)=true:=by simp[hK0]
   go_enter Tryz.func98,Tryz.ntmps98
   go_wp2_with (first
    |(go_at_call_of 143 a;refine ((Xo0 HC) _ (Below.refl _ _)).mono ?_;rintro e w1 ⟨rfl,hb1⟩;have HB1:=Lib.hid hb1;clear hb1)
    |(go_at_call_of 143 b;refine ((Xe1 HC) _ HB1.out).mono ?_;rintro e w2 ⟨rfl,hb2⟩;have HB2:=Lib.hid (Below.next0 HB1.out hb2);clear hb2))
   go_ret
   exact ⟨none,0,0,rfl,⟨rfl,Nat.le_refl _,Nat.zero_le _,fun x hx=>by simp[Q0x] at hx,.inl rfl⟩,HB2.out⟩
 have hA0':((A.length:Int)==0)=false:=by rw[beq_eq_false_iff_ne];omega
 have hK0':((K.length:Int)==0)=false:=by rw[beq_eq_false_iff_ne];omega
 have hmk:=run_make_row' (P:=Tryz.prog) 23 74 (.int .u64 0) 8 Tryz.underlying23 Q4w rfl .i64 .i64 (A.length+K.length) (by omega) (by omega)
 rw[show ((A.length+K.length:Nat):Int)=(A.length:Int)+(K.length:Int) by omega,Q1y] at hmk
 go_enter Tryz.func98,Tryz.ntmps98
 go_wp2_with (first
  |(go_at_call_of 143 a;refine ((Xo0 HC) _ (Below.refl _ _)).mono ?_;rintro e w1 ⟨rfl,hb1⟩;have HB1:=Lib.hid hb1;clear hb1)
  |(go_at_call_of 143 b;refine ((Xe1 HC) _ HB1.out).mono ?_;rintro e wc ⟨rfl,hb2⟩;have HB2:=Lib.hid (Below.next0 HB1.out hb2);clear hb2))
 have hB0:Below wc.heap.size wc (wc.alloc (.cells (Array.replicate (A.length+K.length) (nv .u64 0)) 74)):=(Below.refl _ _).alloc (Nat.le_refl _) _
 have hA0:=Arr.zeros wc 74 .u64 (A.length+K.length)
 have HWA:=Xh2 ((Xo0 HW) wc HB2.out) ((Xe1 HW) wc HB2.out)
 have H0:=Xh2 hB0 hA0
 clear hB0 hA0 hmk h0 HW HC
 go_loopw [34] (fun iv wr=>∃(i:Nat) (L:List Nat),iv=.int .i64 (i:Int)/\i<=A.length/\Arr 74 .u64 wr wc.heap.size L/\L.length=A.length+K.length/\Low (2^64) L/\val (2^64) L=val (2^64) (A.take i)*val (2^64) K/\(∀t,i+K.length<=t->t<A.length+K.length->L[t]?=some 0)/\Below wc.heap.size wc wr) (fun iv _=>A.length-(intOf iv).toNat)
 case atStart=>
  refine ⟨0,List.replicate (A.length+K.length) 0,rfl,Nat.zero_le _,(Xe1 H0),by simp,fun x hx=>?_,by rw[Q65];simp[val],fun t _ ht=>?_,(Xo0 H0)⟩
  ·rw[List.eq_of_mem_replicate hx];decide
  ·rw[List.getElem?_replicate];simp[ht]
 case round=>
  obtain ⟨i,L,rfl,hi,hL,hLl,hLow,hval,hzer,hbw⟩:=hrel
  by_cases hlt:i<A.length
  ·have hlt':(i:Int)<(A.length:Int):=by omega
   obtain ⟨x,hx⟩:∃x,A[i]?=some x:=⟨_,List.getElem?_eq_getElem hlt⟩
   obtain ⟨ba,oa,hae,hba,hcx⟩:=((Xo0 HWA).rd.below hbw).at_ hx
   have hxl:x<18446744073709551616:=(Xo0 HWA).low x (List.mem_of_getElem? hx)
   subst hae
   have HH:=Xh6 hL hLow hval hbw hx hzer
   clear hL hLow hval hbw hzer hx
   go_wp2_with fail
   go_loopw [8,41] (fun cv jv wr=>∃(j cr:Nat) (L:List Nat),cv=.int .u64 (cr:Int)/\jv=.int .i64 (j:Int)/\j<=K.length/\cr<18446744073709551616/\Arr 74 .u64 wr wc.heap.size L/\L.length=A.length+K.length/\Low (2^64) L/\val (2^64) L+cr*(2^64)^(i+j)=val (2^64) (A.take i)*val (2^64) K+x*(2^64)^i*val (2^64) (K.take j)/\(∀t,i+K.length<=t->t<A.length+K.length->L[t]?=some 0)/\Below wc.heap.size wc wr) (fun _ jv _=>K.length-(intOf jv).toNat)
   case atStart=>exact ⟨0,0,L,rfl,rfl,Nat.zero_le _,by decide,(Xo0 HH),hLl,(Xo1 HH),by rw[(Xo2 HH)];simp[val],(Xe5 HH),(Xo3 HH)⟩
   case round=>
    have HX:=Lib.hid (Xo4 HH)
    clear hLl HH
    obtain ⟨j,cr,L,rfl,rfl,hj,hcr,hL,hLl,hLow,hval,hzer,hbw⟩:=hrel
    by_cases hlj:j<K.length
    ·have hlj':(j:Int)<(K.length:Int):=by omega
     obtain ⟨y,hy⟩:∃y,K[j]?=some y:=⟨_,List.getElem?_eq_getElem hlj⟩
     obtain ⟨z,hz⟩:∃z,L[i+j]?=some z:=⟨_,List.getElem?_eq_getElem (by omega)⟩
     obtain ⟨bb,ob,hbe,hbb,hcy⟩:=((Xe1 HWA).rd.below hbw).at_ hy
     have hyl:y<18446744073709551616:=(Xe1 HWA).low y (List.mem_of_getElem? hy)
     have hzl:z<18446744073709551616:=hLow z (List.mem_of_getElem? hz)
     subst hbe
     have hms:=Qjn (B:=18446744073709551616) (by decide) hxl hyl hzl hcr
     have hst:=Q9z (B:=2^64) (b:=x*y) (c:=cr) hz hval
     rw[Qlk hy] at hst
     rw[show (z+x*y+cr)%2^64=((x*y%18446744073709551616+z)%18446744073709551616+cr)%18446744073709551616 from hms.1.symm,show (z+x*y+cr) / 2^64=x*y / 18446744073709551616+(x*y%18446744073709551616+z) / 18446744073709551616+((x*y%18446744073709551616+z)%18446744073709551616+cr) / 18446744073709551616 from hms.2.1.symm] at hst
     have hml:=hms.2.2
     rw[<-hms.2.1] at hml
     have hmul:=fun W=>Tryz.Qye x y hxl hyl W
     have hlol:x*y%18446744073709551616<18446744073709551616:=Nat.mod_lt _ (by decide)
     generalize x*y%18446744073709551616=lo at*
     generalize x*y / 18446744073709551616=hi at*
     have hadd1:∀W,(callFunc 148 #[.int .u64 (lo:Int),.int .u64 (z:Int),.int .u64 0]).run Tryz.prog W=.ok (.value (.tuple #[.int .u64 (((lo+z)%18446744073709551616:Nat):Int),.int .u64 (((lo+z) / 18446744073709551616:Nat):Int)])) W:=fun W=>Q7m lo z 0 hlol hzl (by decide) W
     have hl1:(lo+z)%18446744073709551616<18446744073709551616:=Nat.mod_lt _ (by decide)
     generalize (lo+z)%18446744073709551616=lo1 at*
     generalize (lo+z) / 18446744073709551616=m1 at*
     have hadd2:∀W,(callFunc 148 #[.int .u64 (lo1:Int),.int .u64 (cr:Int),.int .u64 0]).run Tryz.prog W=.ok (.value (.tuple #[.int .u64 (((lo1+cr)%18446744073709551616:Nat):Int),.int .u64 (((lo1+cr) / 18446744073709551616:Nat):Int)])) W:=fun W=>Q7m lo1 cr 0 hl1 hcr (by decide) W
     have hl2:(lo1+cr)%18446744073709551616<18446744073709551616:=Nat.mod_lt _ (by decide)
     generalize (lo1+cr)%18446744073709551616=lo2 at*
     generalize (lo1+cr) / 18446744073709551616=m2 at*
     have hzc:wr.cell? ⟨wc.heap.size,i+j,none⟩=some (.int .u64 (z:Int)):=hL.cell hz
     have hzf:wr.frozen? ⟨wc.heap.size,i+j,none⟩=false:=hL.frozen _
     have hij:(i:Int)+(j:Int)<(A.length:Int)+(K.length:Int):=by omega
     have HM:=Lib.hid hmul
     have HH:=Xh5 hst hL hLow hbw hzer
     clear hmul hst hL hLow hval hbw hzer hms hy hz
     go_wp2_with (refine (HM.out _).mono ?_;rintro e w5 ⟨rfl,rfl⟩)
     refine ⟨⟨j+1,hi+m1+m2,L.set (i+j) lo2,by simp,by simp,by omega,hml,(Xo1 HH).set (i+j) lo2,by simp[hLl],Q3q (Xo2 HH) hl2,(Xo0 HH),fun t ht1 ht2=>?_,(Xo3 HH).setCell (p:=⟨wc.heap.size,i+j,none⟩) (Nat.le_refl _) _⟩,by simp only[intOf];omega⟩
     rw[List.getElem?_set_ne (by omega)]
     exact (Xe4 HH) t ht1 ht2
    ·obtain rfl:j=K.length:=by omega
     have hlj':¬((K.length:Int)<(K.length:Int)):=by omega
     have hz0:=hzer (i+K.length) (Nat.le_refl _) (by omega)
     have hzc:wr.cell? ⟨wc.heap.size,i+K.length,none⟩=some (.int .u64 0):=hL.cell hz0
     have hzf:wr.frozen? ⟨wc.heap.size,i+K.length,none⟩=false:=hL.frozen _
     have hij:(i:Int)+(K.length:Int)<(A.length:Int)+(K.length:Int):=by omega
     have hvs:=Q8j (B:=2^64) L (i+K.length) cr 0 hz0
     rw[Nat.zero_mul,Nat.add_zero,hval,List.take_length] at hvs
     have hvo:=Qlj HX.out hvs
     have HH:=Xh5 hvo hL hLow hbw hzer
     clear hvs hvo hval hL hLow hbw hzer hz0
     go_wp2_with fail
     refine ⟨⟨i+1,L.set (i+K.length) cr,by simp,by omega,(Xo1 HH).set _ cr,by simp[hLl],Q3q (Xo2 HH) hcr,(Xo0 HH),fun t ht1 ht2=>?_,(Xo3 HH).setCell (p:=⟨wc.heap.size,i+K.length,none⟩) (Nat.le_refl _) _⟩,by simp only[intOf];omega⟩
     rw[List.getElem?_set_ne (by omega)]
     exact (Xe4 HH) t (by omega) ht2
  ·obtain rfl:i=A.length:=by omega
   have hlt':¬((A.length:Int)<(A.length:Int)):=by omega
   rw[List.take_length] at hval
   have hW:WordsIn wr (some ⟨wc.heap.size,0,none⟩) (A.length+K.length) (A.length+K.length) L:=⟨hLl,Nat.le_refl _,by omega,hLow,hL.rd⟩
   have hbq:Below w.heap.size w wr:=Below.next0 HB2.out hbw
   have hdig:trimL L=dig (2^64) (val (2^64) A*val (2^64) K):=by rw[Q1j (by decide) hLow,hval]
   have HE:=Xh3 hW hbq hdig
   clear hW hbq hdig hval hL hLow hzer hbw
   go_wp2_with (refine (Q1e _ _ _ _ _ (Xo0 HE)).mono ?_;rintro e w5 ⟨rfl,hb5⟩;have HB5:=Lib.hid hb5;clear hb5)
   go_ret
   have hout:=((Xo0 HE).step HB5.out).trim
   rw[(Xe2 HE)] at hout⊢
   exact ⟨_,_,_,rfl,hout,Below.next0 (Xo1 HE) HB5.out⟩
def dy (n e:Int):Dyadic:=Dyadic.ofIntWithPrec n (-e)
theorem Q69 (n e:Int):(dy n e).toRat=(n:Rat)*2^e:=by
 unfold dy
 rw[Dyadic.toRat_ofIntWithPrec_eq_mul_two_pow,Int.neg_neg]
theorem Qju (a b e:Int):dy a e+dy b e=dy (a+b) e:=by
 rw[<-Dyadic.toRat_inj,Dyadic.toRat_add,Q69,Q69,Q69,Rat.intCast_add,Rat.add_mul]
theorem Qex (a e:Int): -dy a e=dy (-a) e:=by
 unfold dy;rw[Dyadic.neg_ofIntWithPrec]
theorem Qi4 (e:Int):dy 0 e=0:=rfl
theorem Qjv (a b e f:Int):dy a e*dy b f=dy (a*b) (e+f):=by
 rw[<-Dyadic.toRat_inj,Dyadic.toRat_mul,Q69,Q69,Q69,Rat.intCast_mul,Rat.zpow_add (by decide)]
 generalize (2:Rat)^e=x
 generalize (2:Rat)^f=y
 grind
theorem Qc5 (a e:Int) (k:Nat):dy a (e+k)=dy (a*2^k) e:=by
 rw[<-Dyadic.toRat_inj,Q69,Q69,Rat.zpow_add (by decide),Rat.intCast_mul,Rat.intCast_pow,Rat.zpow_natCast]
 generalize (2:Rat)^e=x
 rw[show ((2:Int):Rat)=2 from rfl]
 generalize (2:Rat)^k=y
 grind
theorem Qaq {a e:Int} (h:a%2=1):dy a e=.ofOdd a (-e) h:=Dyadic.ofOdd_eq_ofIntWithPrec.symm
theorem Qoj {a b e f:Int} (ha:a%2=1) (hb:b%2=1) (h:dy a e=dy b f):a=b/\e=f:=by
 rw[Qaq ha,Qaq hb] at h
 injection h with h1 h2
 exact ⟨h1,by omega⟩
theorem Qok {a e:Int} (ha:a%2=1):dy a e≠0:=by
 rw[Qaq ha];exact Dyadic.of_ne_zero
def sgn (neg:Bool) (v:Nat):Int:=if neg=true then -(v:Int) else (v:Int)
theorem Q4d (neg:Bool):sgn neg 0=0:=by cases neg <;> rfl
theorem Q3t {neg:Bool} {v:Nat} (h:v%2=1):sgn neg v%2=1:=by
 unfold sgn;split <;> omega
theorem Q72 (neg:Bool) (v:Nat):(sgn neg v).natAbs=v:=by
 unfold sgn;split <;> omega
theorem Qtx {n m:Bool} {v u:Nat} (hv:v≠0) (h:sgn n v=sgn m u):n=m/\v=u:=by
 unfold sgn at h
 cases n <;> cases m <;> simp at h <;> first|(refine ⟨rfl,?_⟩;omega)|(exfalso;omega)
theorem Qol (n:Bool) (v:Nat):sgn (!n) v= -sgn n v:=by
 cases n <;> simp[sgn]
theorem Qi5 (n m:Bool) (v u:Nat):sgn n v*sgn m u=sgn (n != m) (v*u):=by
 cases n <;> cases m <;> simp[sgn,Int.neg_mul,Int.mul_neg]
theorem Q73 (n:Bool) (v k:Nat):sgn n v*2^k=sgn n (v*2^k):=by
 cases n <;> simp[sgn,Int.neg_mul]
def Q63 (d:Dyadic):Prop:=d=0∨∃m e:Int,d=dy m e/\m%2=1/\m.natAbs<(2^64)^64/\-65536<=e/\e<=65536
def Q1q (neg:Bool) (e:Int) (L:List Nat):Dyadic:=dy (sgn neg (val (2^64) L)) e
theorem Qrh:Q1q false 0 []=0:=rfl
theorem Q2c {neg:Bool} {e:Int} {L:List Nat} (h:Q0h neg e L) (hl:Low (2^64) L):
 (L=[]/\neg=false/\e=0)∨(L≠[]/\val (2^64) L%2=1/\L=dig (2^64) (val (2^64) L)/\val (2^64) L<(2^64)^64/\-65536<=e/\e<=65536):=by
 unfold Q0h at h
 by_cases hL:L=[]
 ·rw[if_pos hL] at h;exact .inl ⟨hL,h⟩
 ·rw[if_neg hL] at h
  obtain ⟨h1,h2,h3,h4,h5⟩:=h
  have ht:trimL L=L:=by
   have:=Q3y L
   rw[h1,List.take_length] at this
   exact this.symm
  refine .inr ⟨hL,?_,?_,?_,h4,h5⟩
  ·cases L with
   |nil=>exact absurd rfl hL
   |cons x r=>
    have h3':x%2=1:=h3
    simp only[val]
    omega
  ·rw[<-Q1j (by decide) hl,ht]
  ·exact Nat.lt_of_lt_of_le (Q2o (by decide) L hl) (Nat.pow_le_pow_right (by decide) h2)
theorem Qch {neg:Bool} {e:Int} {L:List Nat} (h:Q0h neg e L) (hl:Low (2^64) L):Q63 (Q1q neg e L):=by
 rcases Q2c h hl with ⟨rfl,rfl,rfl⟩|⟨_,h1,_,h2,h3,h4⟩
 ·exact .inl rfl
 ·exact .inr ⟨_,_,rfl,Q3t h1,by rw[Q72];exact h2,h3,h4⟩
theorem Q5e {neg:Bool} {e:Int} {L:List Nat} (h:Q0h neg e L) (hl:Low (2^64) L):Q1q neg e L=0↔L=[]:=by
 rcases Q2c h hl with ⟨rfl,rfl,rfl⟩|⟨h0,h1,_⟩
 ·exact ⟨fun _=>rfl,fun _=>rfl⟩
 ·exact ⟨fun h=>absurd h (Qok (Q3t h1)),fun h=>absurd h h0⟩
theorem Qty {n m:Bool} {e f:Int} {L K:List Nat} (h1:Q0h n e L) (l1:Low (2^64) L) (h2:Q0h m f K) (l2:Low (2^64) K) (h:Q1q n e L=Q1q m f K):n=m/\e=f/\L=K:=by
 rcases Q2c h1 l1 with ⟨rfl,rfl,rfl⟩|⟨h0,ho,hd,_⟩
 ·have hz:Q1q m f K=0:=h.symm
  have hK:=(Q5e h2 l2).1 hz
  subst hK
  unfold Q0h at h2
  rw[if_pos rfl] at h2
  exact ⟨h2.1.symm,h2.2.symm,rfl⟩
 ·rcases Q2c h2 l2 with ⟨rfl,rfl,rfl⟩|⟨k0,ko,kd,_⟩
  ·exact absurd h (Qok (Q3t ho))
  ·obtain ⟨hs,he⟩:=Qoj (Q3t ho) (Q3t ko) h
   obtain ⟨hn,hv⟩:=Qtx (by omega) hs
   exact ⟨hn,he,by rw[hd,kd,hv]⟩
theorem Qri {v z:Nat} (h:Qhq v z) (neg:Bool) (e:Int):dy (sgn neg (v / 2^z)) (e+z)=dy (sgn neg v) e:=by
 rw[Qc5,Q73,Nat.div_mul_cancel (Nat.dvd_of_mod_eq_zero h.1)]
theorem Qdq {v:Nat} (h:v<(2^64)^64):(dig (2^64) v).length<=64:=Q23 (by decide) h
theorem Qi6 {v:Nat} (h:(dig (2^64) v).length<=64):v<(2^64)^64:=by
 have h1:=Q2o (B:=2^64) (by decide) (dig (2^64) v) (Q22 (by decide) v)
 rw[Q0r (by decide)] at h1
 exact Nat.lt_of_lt_of_le h1 (Nat.pow_le_pow_right (by decide) h)
theorem Qey {neg:Bool} {e:Int} {q:Nat} (ho:q%2=1):Q0h neg e (dig (2^64) q)↔(q<(2^64)^64/\-65536<=e/\e<=65536):=by
 have hq0:q≠0:=by omega
 have hne:dig (2^64) q≠[]:=fun h=>hq0 ((Q4m (by decide)).1 h)
 have ht:trimL (dig (2^64) q)=dig (2^64) q:=by rw[Q1j (by decide) (Q22 (by decide) q),Q0r (by decide)]
 have hh:(dig (2^64) q).headD 0%2=1:=by
  rw[Q3w (by decide) hq0]
  show q%2^64%2=1
  omega
 unfold Q0h
 rw[if_neg hne,ht]
 constructor
 ·rintro ⟨_,h2,_,h4,h5⟩;exact ⟨Qi6 h2,h4,h5⟩
 ·rintro ⟨h1,h2,h3⟩;exact ⟨rfl,Qdq h1,hh,h2,h3⟩
theorem Q6m {neg:Bool} {e:Int} {q:Nat} (ho:q%2=1):Q63 (dy (sgn neg q) e)↔(q<(2^64)^64/\-65536<=e/\e<=65536):=by
 constructor
 ·rintro (h|⟨m,f,h,hm,h1,h2,h3⟩)
  ·exact absurd h (Qok (Q3t ho))
  ·obtain ⟨rfl,rfl⟩:=Qoj (Q3t ho) hm h
   rw[Q72] at h1
   exact ⟨h1,h2,h3⟩
 ·rintro ⟨h1,h2,h3⟩
  exact .inr ⟨_,_,rfl,Q3t ho,by rw[Q72];exact h1,h2,h3⟩
def Qci (d:Dyadic) (n':Bool) (e':Int) (L:List Nat) (er:Int):Prop:=
 (Q63 d/\er=0/\Q0h n' e' L/\Q1q n' e' L=d)∨(¬Q63 d/\er=2/\n'=false/\e'=0/\L=[])
theorem Q7o {neg:Bool} {v:Nat} {exp:Int} {n':Bool} {e':Int} {L:List Nat} {er:Int} (h:Q56 neg v exp n' e' L er):Qci (dy (sgn neg v) exp) n' e' L er:=by
 rcases h with ⟨rfl,rfl,rfl,rfl,rfl⟩|⟨z,hz,h⟩
 ·exact .inl ⟨by rw[Q4d];exact .inl rfl,rfl,by decide,by rw[Q4d];rfl⟩
 ·have hf:=Q6m (neg:=neg) (e:=exp+z) hz.2
  have hi:=Qey (neg:=neg) (e:=exp+z) hz.2
  rw[Qri hz] at hf
  rcases h with ⟨h,rfl,rfl,rfl,rfl⟩|⟨h1,h2,h3,rfl,rfl,rfl,rfl⟩
  ·refine .inr ⟨fun hfit=>?_,rfl,rfl,rfl,rfl⟩
   have h4:=hf.1 hfit
   rcases h with h|h|h
   ·omega
   ·omega
   ·exact h (hi.2 h4)
  ·refine .inl ⟨hf.2 (hi.1 h3),rfl,h3,?_⟩
   unfold Q1q
   rw[Q0r (by decide),Qri hz]
def Q37 (neg:Bool) (v:Nat) (e:Int):Prop:=(v=0->neg=false/\e=0)/\(v≠0->v%2=1)
theorem Qar {neg:Bool} {v:Nat} {e:Int} {n':Bool} {v':Nat} {e':Int} (h:Qo3 neg v e n' v' e'):Q37 n' v' e'/\dy (sgn n' v') e'=dy (sgn neg v) e:=by
 rcases h with ⟨rfl,rfl,rfl,rfl⟩|⟨z,hz,rfl,rfl,rfl⟩
 ·exact ⟨⟨fun _=>⟨rfl,rfl⟩,fun h=>absurd rfl h⟩,by rw[Q4d,Q4d];rfl⟩
 ·have:=hz.2
  exact ⟨⟨fun h=>by omega,fun _=>hz.2⟩,Qri hz _ _⟩
theorem Qll {neg:Bool} {v:Nat} {e:Int} {n':Bool} {e':Int} {L:List Nat} {er:Int} (hc:Q37 neg v e) (h:Qo4 neg v e n' e' L er):Qci (dy (sgn neg v) e) n' e' L er:=by
 rcases h with ⟨rfl,rfl,rfl,rfl,rfl⟩|⟨h0,hf,rfl,rfl,rfl,rfl⟩|⟨h0,hf,rfl,rfl,rfl,rfl⟩
 ·exact .inl ⟨by rw[Q4d];exact .inl rfl,rfl,by decide,by rw[Q4d];rfl⟩
 ·refine .inr ⟨fun hfit=>hf ?_,rfl,rfl,rfl,rfl⟩
  obtain ⟨h1,h2,h3⟩:=(Q6m (hc.2 h0)).1 hfit
  exact ⟨Qdq h1,h2,h3⟩
 ·have h3:=(Qey (neg:=n') (e:=e') (hc.2 h0)).2 ⟨Qi6 hf.1,hf.2.1,hf.2.2⟩
  exact .inl ⟨(Q6m (hc.2 h0)).2 ⟨Qi6 hf.1,hf.2.1,hf.2.2⟩,rfl,h3,by unfold Q1q;rw[Q0r (by decide)]⟩
section
variable {w:World} {b g:Nat} {v0 v1 v2:Value}
theorem Q04.set0 (h:Q04 w b v0 v1 v2) (u:Value):Q04 (w.setCell ⟨b,0,none⟩ u) b u v1 v2:=
 ⟨World.cell?_setCell_same' _ _ _ (by rw[h.c0];rfl),(World.cell?_setCell_other _ _ _ _ (by simp)).trans h.c1,(World.cell?_setCell_other _ _ _ _ (by simp)).trans h.c2,(World.frozen?_setCell _ _ _ _).trans h.f0,(World.frozen?_setCell _ _ _ _).trans h.f1,(World.frozen?_setCell _ _ _ _).trans h.f2⟩
theorem Q04.set2 (h:Q04 w b v0 v1 v2) (u:Value):Q04 (w.setCell ⟨b,2,none⟩ u) b v0 v1 u:=
 ⟨(World.cell?_setCell_other _ _ _ _ (by simp)).trans h.c0,(World.cell?_setCell_other _ _ _ _ (by simp)).trans h.c1,World.cell?_setCell_same' _ _ _ (by rw[h.c2];rfl),(World.frozen?_setCell _ _ _ _).trans h.f0,(World.frozen?_setCell _ _ _ _).trans h.f1,(World.frozen?_setCell _ _ _ _).trans h.f2⟩
theorem Q04.far (h:Q04 w b v0 v1 v2) {p:Addr} (hp:p.block≠b) (u:Value):Q04 (w.setCell p u) b v0 v1 v2:=
 ⟨(World.cell?_setCell_other _ _ _ _ (fun e=>hp (by rw[e]))).trans h.c0,(World.cell?_setCell_other _ _ _ _ (fun e=>hp (by rw[e]))).trans h.c1,(World.cell?_setCell_other _ _ _ _ (fun e=>hp (by rw[e]))).trans h.c2,(World.frozen?_setCell _ _ _ _).trans h.f0,(World.frozen?_setCell _ _ _ _).trans h.f1,(World.frozen?_setCell _ _ _ _).trans h.f2⟩
theorem Q04.far3 (h:Q04 w b v0 v1 v2) (hg:g≠b) (u0 u1 u2:Value):Q04 (((w.setCell ⟨g,0,none⟩ u0).setCell ⟨g,1,none⟩ u1).setCell ⟨g,2,none⟩ u2) b v0 v1 v2:=
 ((h.far (p:=⟨g,0,none⟩) hg u0).far (p:=⟨g,1,none⟩) hg u1).far (p:=⟨g,2,none⟩) hg u2
theorem Qv9 (w:World) (g:Nat) (u0 u1 u2:Value):(((w.setCell ⟨g,0,none⟩ u0).setCell ⟨g,1,none⟩ u1).setCell ⟨g,2,none⟩ u2).heap.size=w.heap.size:=by simp[World.size_setCell]
end
theorem Q7p (neg:Bool) (e:Int) (a:Option Addr) (n c:Nat) (ls:List Nat) (w:World) (h:WordsIn w a n c ls) (hn:n<=1000000):
 Calls Tryz.prog 99 #[.agg #[.bool neg,.int .i64 e,.slice a n c]] w fun r w'=>r=.returned (.int .i64 (if val (2^64) ls=0 then 0 else if neg=true then -1 else 1))/\Below w.heap.size w w':=by
 have hb0:Below w.heap.size w (w.alloc (.cells #[.bool neg,.int .i64 e,.slice a n c] 41)):=(Below.refl _ _).alloc (Nat.le_refl _) _
 have hN:=Q04.new w (.bool neg) (.int .i64 e) (.slice a n c) 41
 have hl0:=Q0f w (.cells #[.bool neg,.int .i64 e,.slice a n c] 41)
 have hbits:=Qjq a n c ls _ (h.step hb0) (by omega)
 have hk0:=hN.c0
 have hk2:=hN.c2
 have HB:=Xh4 hbits hN hl0 hb0
 clear hb0 hN hl0 hbits h
 by_cases h0:val (2^64) ls=0
 ·rw[if_pos h0]
  have H0:=Lib.hid h0
  clear h0
  go_enter Tryz.func99,Tryz.ntmps99
  go_wp2_with (refine (Xo0 HB).mono ?_;rintro r w1 ⟨⟨k,rfl,hk⟩,hb1⟩;obtain rfl:k=0:=hk.2 H0.out;have HB1:=Lib.hid hb1;clear hb1 hk)
  go_ret
  exact ⟨rfl,Below.next0 (Xe3 HB) HB1.out⟩
 ·rw[if_neg h0]
  have H0:=Lib.hid h0
  clear h0
  cases neg
  all_goals
   go_enter Tryz.func99,Tryz.ntmps99
   go_wp2_with (refine (Xo0 HB).mono ?_;rintro r w1 ⟨⟨k,rfl,hk⟩,hb1⟩;have hkb:((k:Int)==0)=false:=(by rw[beq_eq_false_iff_ne];intro e;exact H0.out (hk.1 (by omega)));have hki:¬(k:Int)=0:=(by intro e;exact H0.out (hk.1 (by omega)));have hx0:=((Xo1 HB).step hb1 (Xo2 HB)).c0;have HB1:=Lib.hid hb1;clear hb1 hk)
   go_ret
   exact ⟨rfl,Below.next0 (Xe3 HB) HB1.out⟩
theorem Qez (neg:Bool) (e:Int) (a:Option Addr) (n c:Nat) (w:World):
 Calls Tryz.prog 112 #[.agg #[.bool neg,.int .i64 e,.slice a n c]] w fun r w'=>r=.returned (.agg #[.bool false,.int .i64 e,.slice a n c])/\Below w.heap.size w w':=by
 have hs1:(w.alloc (.cells #[.bool neg,.int .i64 e,.slice a n c] 41)).heap.size=w.heap.size+1:=World.size_alloc _ _
 have hb1:Below w.heap.size w (w.alloc (.cells #[.bool neg,.int .i64 e,.slice a n c] 41)):=(Below.refl _ _).alloc (Nat.le_refl _) _
 have hb2:Below (w.alloc (.cells #[.bool neg,.int .i64 e,.slice a n c] 41)).heap.size (w.alloc (.cells #[.bool neg,.int .i64 e,.slice a n c] 41)) ((w.alloc (.cells #[.bool neg,.int .i64 e,.slice a n c] 41)).alloc (.cells #[.bool false,.int .i64 0,.slice none 0 0] 41)):=(Below.refl _ _).alloc (Nat.le_refl _) _
 have hX:=(Q04.new w (.bool neg) (.int .i64 e) (.slice a n c) 41).step hb2 (Q0f _ _)
 have hR:=Q04.new (w.alloc (.cells #[.bool neg,.int .i64 e,.slice a n c] 41)) (.bool false) (.int .i64 0) (.slice none 0 0) 41
 rw[hs1] at hR
 have hB:=Below.next0 hb1 hb2
 generalize hW:(w.alloc (.cells #[.bool neg,.int .i64 e,.slice a n c] 41)).alloc (.cells #[.bool false,.int .i64 0,.slice none 0 0] 41)=W at hX hR hB
 have hx0:=hX.c0
 have hg0:=hX.f0
 have hX1:=hX.set0 (.bool false)
 have hx1:=hX1.c0
 have hx2:=hX1.c1
 have hx3:=hX1.c2
 have hR1:=hR.far (p:=⟨w.heap.size,0,none⟩) (by show w.heap.size≠w.heap.size+1;omega) (.bool false)
 have hB1:=hB.setCell (p:=⟨w.heap.size,0,none⟩) (Nat.le_refl _) (.bool false)
 have c0:=hR1.c0
 have c1:=hR1.c1
 have c2:=hR1.c2
 have f0:=hR1.f0
 have f1:=hR1.f1
 have f2:=hR1.f2
 have d1:=hR1.d1 (.bool false)
 have d2:=hR1.d2 (.bool false) (.int .i64 e)
 have HR:=Xh2 (hR1.store (.bool false) (.int .i64 e) (.slice a n c)) (Q04.below hB1 (show w.heap.size<=w.heap.size+1 by omega) (.bool false) (.int .i64 e) (.slice a n c))
 clear hs1 hb1 hb2 hX hR hB hX1 hR1 hB1
 go_enter Tryz.func112,Tryz.ntmps112
 go_wp2_with fail
 have k0:=(Xo0 HR).c0
 have k1:=(Xo0 HR).c1
 have k2:=(Xo0 HR).c2
 refine ⟨rfl,.agg #[.bool false,.int .i64 e,.slice a n c],by simp[results,go_sem,k0,k1,k2],rfl,(Xe1 HR)⟩
structure Qva (w wx:World) (D:Dyadic) (T lo hi:Int) (n1:Bool) (e1:Int) (a1:Option Addr) (l1 c1:Nat) (L1:List Nat) (n2:Bool) (e2:Int) (a2:Option Addr) (l2 c2:Nat) (L2:List Nat):Prop where
 b1:Q04 wx w.heap.size (.bool n1) (.int .i64 e1) (.slice a1 l1 c1)
 b2:Q04 wx (w.heap.size+1) (.bool n2) (.int .i64 e2) (.slice a2 l2 c2)
 br:Q04 wx (w.heap.size+2) (.bool false) (.int .i64 0) (.slice none 0 0)
 lt:w.heap.size+2<wx.heap.size
 w1:WordsIn w a1 l1 c1 L1
 w2:WordsIn w a2 l2 c2 L2
 le:e1<=e2
 v1:val (2^64) L1≠0
 v2:val (2^64) L2≠0
 s1:l1<=20000
 s2:l2<=20000
 lo1:lo<=e1
 hi2:e2<=hi
 rng:e2-e1<=2000000
 t1:64*(l1:Int)+e1<=T
 t2:64*(l2:Int)+e2<=T
 sum:Q1q n1 e1 L1+Q1q n2 e2 L2=D
 bel:Below w.heap.size w wx
theorem Qjw {v K:Nat} (h:v<2^K):64*(dig (2^64) v).length<=K+63:=by
 have h1:v<(2^64)^((K+63) / 64):=Nat.lt_of_lt_of_le h (by rw[<-Nat.pow_mul];exact Nat.pow_le_pow_right (by decide) (by omega))
 have h2:=Q23 (B:=2^64) (by decide) h1
 omega
theorem Q8o {L:List Nat} (h:Low (2^64) L):val (2^64) L<2^(64*L.length):=by
 have:=Q2o (B:=2^64) (by decide) L h
 rwa[<-Nat.pow_mul] at this
theorem Qrj (n:Bool) (A B:Nat):sgn n A+sgn n B=sgn n (A+B):=by
 cases n <;> simp[sgn] <;> omega
theorem Qf0 (n:Bool) (A B:Nat):sgn n A+sgn (!n) B=if B<=A then sgn n (A-B) else sgn (!n) (B-A):=by
 cases n <;> simp[sgn] <;> split <;> omega
theorem Qtz (n:Bool) (e1 e2:Int) (L:List Nat) (z:Nat) (h:e2-e1=(z:Int)):Q1q n e2 L=dy (sgn n (val (2^64) L*2^z)) e1:=by
 unfold Q1q
 rw[show e2=e1+(z:Int) by omega,Qc5,Q73]
theorem Q7q (n:Bool) (e:Int) (v:Nat):Q1q n e (dig (2^64) v)=dy (sgn n v) e:=by
 unfold Q1q;rw[Q0r (by decide)]
theorem Qf1 (n:Bool) (e:Int) {L:List Nat} (h:val (2^64) L=0):Q1q n e L=0:=by
 unfold Q1q;rw[h,Q4d];rfl
theorem Qu0 {A B l1 l2 z V:Nat} {e1 e2 T:Int} (hA:A<2^(64*l1)) (hB:B<2^(64*l2)) (hV:V<=A+B*2^z) (hz:e2-e1=(z:Int)) (t1:64*(l1:Int)+e1<=T) (t2:64*(l2:Int)+e2<=T):64*((dig (2^64) V).length:Int)+e1<=T+64:=by
 obtain ⟨K,hK1,hK2,hK3⟩:∃K:Nat,64*l1<=K/\64*l2+z<=K/\(K:Int)+e1<=T:=⟨max (64*l1) (64*l2+z),by omega,by omega,by omega⟩
 have h1:A<2^K:=Nat.lt_of_lt_of_le hA (Nat.pow_le_pow_right (by decide) hK1)
 have h2:B*2^z<2^K:=Nat.lt_of_lt_of_le (by rw[Nat.pow_add];exact Nat.mul_lt_mul_of_pos_right hB (Nat.pow_pos (by decide))) (Nat.pow_le_pow_right (by decide) hK2)
 have h3:V<2^(K+1):=by rw[Nat.pow_succ];omega
 have h4:=Qjw h3
 omega
end Go.Proofs.YtdilmfakkppgpaaGreatDoor
