/- Part 3 of the proof of LawParseBuilt: NatB, Div64M, Div64, NatD, NatE. Condition: as each theorem says; none at the end. -/
import Derived.Deep.CutBlock
import Derived.Deep.DeepCutAuto
import Derived.Deep.RegionLaw
import Derived.Shelf.Spec.BitsCarry
import Derived.WalkMore
import Derived.Laws.Bits64b
import Derived.Test.YtdilmfakkppgpaaGreatDoorPkParseBuilt02
set_option maxRecDepth 100000
set_option maxHeartbeats 16000000
namespace Go.Proofs.YtdilmfakkppgpaaGreatDoor
open Go.RowKit WordsM
theorem Q90 (x y c:Nat) (hx:x<18446744073709551616) (hy:y<18446744073709551616) (hc:c<=1) (w:World):
 (callFunc 148 #[.int .u64 x,.int .u64 y,.int .u64 c]).run Tryz.prog w=
   .ok (.value (.tuple #[.int .u64 (((x+y+c)%18446744073709551616:Nat):Int),.int .u64 (((x+y+c) / 18446744073709551616:Nat):Int)])) w:=by
 rw[run_callFunc_extern Tryz.func148 (by kernel_rfl) (by kernel_rfl) (by kernel_rfl) (e:=add64Entry) (by kernel_rfl),run_add64 x y c (by omega) (by omega) (by omega) (by omega)];simp only[Result.andThen]
 congr 5 <;> omega
theorem Q5o:(Tryz.prog.info? 74).map (fun i=>(i.zero,i.size,i.bytes))=some (some (.int .u64 0),1,8):=by kernel_rfl
theorem Qp7:(Tryz.prog.info? 74).map (·.size)=some 1:=by kernel_rfl
def Qlh (w:World) (v:Nat) (e:Ending) (w':World):Prop:=∃a n c,e=.returned (.slice a n c)/\Q2m w w' a n c (dig (2^64) v)/\Bw w w'
def Qbr (w:World) (v:Nat) (e:Ending) (w':World):Prop:=∃a n c,e=.returned (.slice a n c)/\WordsIn w' a n c (dig (2^64) v)/\Bw w w'
theorem Qlh.out {w:World} {v:Nat} {e:Ending} {w':World} (h:Qlh w v e w'):Qbr w v e w':=by
 obtain ⟨a,n,c,h1,h2,h3⟩:=h;exact ⟨a,n,c,h1,h2.toWordsIn,h3⟩
theorem Qdl (a:OA) (n c:Nat) (ls:LN) (b:OA) (m d:Nat) (ks:LN) (w:World) (h1:WordsIn w a n c ls) (h2:WordsIn w b m d ks) (hn:n<=100000) (hm:m<=100000):
 Calls Tryz.prog 101 #[.slice a n c,.slice b m d] w (Qbr w (val (2^64) ls+val (2^64) ks)):=by
 have V7:=h1.len;have JD:=h2.len;have H1:=Ua h1;have H2:=Ua h2;clear h1 h2
 go_enter Tryz.func101,Tryz.ntmps101
 go_wp2_with fail
 go_step3
 go_upto_if 17 with (first
  |(go_at_call_of 143 a;refine (Q1l a n c ls _ H1.out).mono ?_;rintro e w1 ⟨rfl,C0⟩;have K0:=Ua C0;clear C0)
  |(go_at_call_of 143 b;refine (Q1l b m d ks _ (H2.out.step K0.out)).mono ?_;rintro e w2 ⟨rfl,D0⟩;have B1:=Ua D0;clear D0))
 have HA:=Ua ((H1.out.step K0.out).step B1.out).trim;have HK:=Ua ((H2.out.step K0.out).step B1.out).trim;have HB:=Ua (Below.next0 K0.out B1.out);have Y1:=trim_len ls;have U1:=trim_len ks
 go_cut [0,1] (fun x y wx=>∃a' n' c' A b' m' d' K,x=.slice a' n' c'/\y=.slice b' m' d'/\WordsIn wx a' n' c' A/\WordsIn wx b' m' d' K/\m'<=n'/\n'<=100000/\val (2^64) A+val (2^64) K=val (2^64) ls+val (2^64) ks/\Bw w wx)
 case first=>
  by_cases B0:(trimL ls).length<(trimL ks).length
  ·have E0:((trimL ls).length:Int)<((trimL ks).length:Int):=by omega
   go_wp2_with fail
   go_meet;exact ⟨_,_,_,_,_,_,_,_,rfl,rfl,HK.out,HA.out,by omega,by omega,by rw[Q1d,Q1d,Xbf],HB.out⟩
  ·have E0:¬(((trimL ls).length:Int)<((trimL ks).length:Int)):=by omega
   go_wp2_with fail
   go_meet;exact ⟨_,_,_,_,_,_,_,_,rfl,rfl,HA.out,HK.out,by omega,by omega,by rw[Q1d,Q1d],HB.out⟩
 case rest=>
  obtain ⟨p,N,pc,A,q,M,qc,K,rfl,rfl,hA,hK,hMN,hN,hv,hb⟩:=hcut;have hAl:=hA.len;have hKl:=hK.len;have HA2:=Ua hA;have HK2:=Ua hK;have HBC:=Ua hb;have HV:=Ua hv;clear hA hK hb hv HA HK HB K0 B1 H1 H2 Y1 U1;have U3:=Xam (P:=Tryz.prog) 23 74 (.int .u64 0) 8 Tryz.underlying23 Q5o rfl .i64 .i64 (N+1) (by omega) (by omega);rw[show ((N+1:Nat):Int)=(N:Int)+1 by omega] at U3;rw[Q1k] at U3;have hB1:Bw wc (wc.alloc (.cells (Array.replicate (N+1) (nv .u64 0)) 74)):=Ba;have QN:=Arr.zeros wc 74 .u64 (N+1);have K0:=Xh3 hB1 QN ((HA2.out.rd).below hB1);clear hB1 QN
  go_wp2_with (refine Qb3 rfl (.tmp 24) (.tmp 25) 23 23 rfl 74 Tryz.underlying23 Qp7 74 .u64 wc.heap.size (N+1) (N+1) _ (Xo1 K0) p N pc _ A rfl rfl (Xe2 K0) hAl (by omega) (by simp) ?_;intro w3 hA3 T5)
  have hd:(List.replicate (N+1) 0).drop N=[0]:=by simp
  rw[hd] at hA3;have hB3:Bw wc w3:=Below.turn (Xo0 K0) T5 (Xo0 K0).size (fun k e=>by have:k=wc.heap.size:=e;omega);have HS:=Xh2 hA3 hB3;clear hA3 hB3 T5 hd U3
  go_loopw [6,29] (fun cv iv wr=>∃(i cr:Nat) (L:LN),cv=.int .u64 (cr:Int)/\iv=.int .i64 (i:Int)/\i<=M/\cr<=1/\Arr 74 .u64 wr wc.heap.size L/\L.length=N+1/\Low (2^64) L/\val (2^64) L+cr*(2^64)^i=val (2^64) A+val (2^64) (K.take i)/\Bw wc wr) (fun _ iv _=>M-(intOf iv).toNat)
  case atStart=>
   refine ⟨0,0,A++[0],rfl,rfl,Uu _,Uu _,(Xo0 HS),by simp[hAl],fun x hx=>?_,?_,(Xe1 HS)⟩
   ·rcases UY.1 hx with hx|hx
    ·exact HA2.out.low x hx
    ·rw[Uy.1 hx];decide
   ·rw[Qba];simp[val]
  case round=>
   obtain ⟨i,cr,L,rfl,rfl,hi,Z8,hL,K5,O0,J0,N0⟩:=hrel
   by_cases B0:i<M
   ·have E0:(i:Int)<(M:Int):=(by omega);obtain ⟨x,hx⟩:∃x,L[i]?=some x:=⟨_,Ub (by omega)⟩;obtain ⟨y,hy⟩:∃y,K[i]?=some y:=⟨_,Ub (by omega)⟩;obtain ⟨b2,o2,rfl,D0,y9⟩:=(HK2.out.rd.below N0).at_ hy;have J3:x<18446744073709551616:=O0 x (Ud hx);have JM:y<18446744073709551616:=HK2.out.low y (Ud hy);have I6:=fun W=>Q90 x y cr J3 JM Z8 W;obtain ⟨z,hz⟩:∃z,(x+y+cr)%18446744073709551616=z:=⟨_,rfl⟩;obtain ⟨c2,E1⟩:∃z,(x+y+cr) / 18446744073709551616=z:=⟨_,rfl⟩;have hc2l:c2<=1:=(by omega);have K9:z<18446744073709551616:=(by omega);have X0:=Qbb (B:=2^64) (b:=y) (c:=cr) hx J0;rw[show (x+y+cr)%2^64=z from hz,show (x+y+cr) / 2^64=c2 from E1] at X0;rw[hz,E1] at I6;have Kc:=Ua X0;clear hz E1 X0;have cx:wr.drew.cell? ⟨wc.heap.size,i,none⟩=some (.int .u64 (x:Int)):=hL.cell hx;have cy:wr.drew.cell? ⟨b2,o2+i,none⟩=some (.int .u64 (y:Int)):=y9;have fx:wr.drew.frozen? ⟨wc.heap.size,i,none⟩=false:=hL.frozen i;have hiN:(i:Int)<(N:Int)+1:=(by omega);have HH:=Xh6 hL O0 J0 N0 hx hy;clear hL O0 J0 N0 hx hy y9
    go_wp2_with fail
    go_region_law (fail)
    all_goals go_wp2_with fail
    all_goals
     obtain ⟨hL,O0,J0,N0,hx,hy⟩:=HH.out;refine ⟨⟨i+1,c2,L.set i z,rfl,by simp,by omega,hc2l,hL.set i z,by simp[K5],Q3z O0 K9,?_,(N0.setCell (p:=⟨wc.heap.size,i,none⟩) (Ug _) _).drew⟩,by simp only[intOf];omega⟩;rw[Q1e K i y hy,Kc.out,UG y];omega
   ·obtain rfl:i=M:=(by omega);have E0:¬((i:Int)<(i:Int)):=(by omega);rw[UA (by omega)] at J0;have HH:=Xh4 hL O0 J0 N0;clear hL O0 J0 N0 HS
    go_wp2_with fail
    go_step3
    go_wp2_with fail
    go_loopw [6,8] (fun cv iv wr=>∃(j cr:Nat) (L:LN),cv=.int .u64 (cr:Int)/\iv=.int .i64 (j:Int)/\j<=N+1/\cr<=1/\Arr 74 .u64 wr wc.heap.size L/\L.length=N+1/\Low (2^64) L/\val (2^64) L+cr*(2^64)^j=val (2^64) A+val (2^64) K/\Bw wc wr) (fun _ iv _=>N+1-(intOf iv).toNat)
    case atStart=>exact ⟨i,cr,L,rfl,rfl,by omega,Z8,(Xo0 HH),K5,(Xo1 HH),(Xo2 HH),(Xe3 HH)⟩
    case round=>
     clear K5 Z8 HH;obtain ⟨j,cr,L,rfl,rfl,hj,Z8,hL,K5,O0,J0,N0⟩:=hrel
     by_cases B0:j<N+1
     ·have E0:(j:Int)<(N:Int)+1:=by omega
      by_cases Y3:cr=0
      ·subst Y3;rw[TU,Tu] at J0;have Wa:=Xh4 hL O0 J0 N0;clear hL O0 J0 N0;have Jt:val (2^64) L=val (2^64) ls+val (2^64) ks:=(by have:=(Xo2 Wa);have:=HV.out;omega);have hW:WordsIn wr (some ⟨wc.heap.size,0,none⟩) (N+1) (N+1) L:=⟨K5,Ug _,by omega,(Xo1 Wa),(Xo0 Wa).rd⟩;have i8:Bw w wr:=Below.next0 HBC.out (Xe3 Wa);have x4:trimL L=dig (2^64) (val (2^64) ls+val (2^64) ks):=(by rw[Q1q (by decide) (Xo1 Wa),Jt]);have HE:=Xh3 hW i8 x4;clear Jt hW i8 x4
       go_wp2_with (refine (Q1l _ _ _ _ _ (Xo0 HE)).mono ?_;rintro e w5 ⟨rfl,M0⟩;have M4:=Ua M0;clear M0)
       rw[Xae];go_ret;have V2:=((Xo0 HE).step M4.out).trim;rw[(Xe2 HE)] at V2⊢;exact ⟨_,_,_,rfl,V2,Below.next0 (Xo1 HE) M4.out⟩
      ·obtain rfl:cr=1:=(by omega);obtain ⟨x,hx⟩:∃x,L[j]?=some x:=⟨_,Ub (by omega)⟩;have J3:x<18446744073709551616:=O0 x (Ud hx);have I6:∀W,(callFunc 148 #[.int .u64 (x:Int),.int .u64 0,.int .u64 1]).run Tryz.prog W=.ok (.value (.tuple #[.int .u64 (((x+0+1)%18446744073709551616:Nat):Int),.int .u64 (((x+0+1) / 18446744073709551616:Nat):Int)])) W:=fun W=>Q90 x 0 1 J3 (by decide) (by decide) W;obtain ⟨z,hz⟩:∃z,(x+0+1)%18446744073709551616=z:=⟨_,rfl⟩;obtain ⟨c2,E1⟩:∃z,(x+0+1) / 18446744073709551616=z:=⟨_,rfl⟩;have hc2l:c2<=1:=(by omega);have K9:z<18446744073709551616:=(by omega);have X0:=Qbb (B:=2^64) (b:=0) (c:=1) hx J0;rw[show (x+0+1)%2^64=z from hz,show (x+0+1) / 2^64=c2 from E1,TU,Tu] at X0;rw[hz,E1] at I6;have cx:wr.cell? ⟨wc.heap.size,j,none⟩=some (.int .u64 (x:Int)):=hL.cell hx;have fx:wr.frozen? ⟨wc.heap.size,j,none⟩=false:=hL.frozen j;have Kc:=Xh4 X0 hL O0 N0;clear hz E1 X0 hL O0 J0 N0 hx
       go_wp2_with fail
       exact ⟨⟨j+1,c2,L.set j z,rfl,by simp,by omega,hc2l,(Xo1 Kc).set j z,by simp[K5],Q3z (Xo2 Kc) K9,(Xo0 Kc),(Xe3 Kc).setCell (p:=⟨wc.heap.size,j,none⟩) (Ug _) _⟩,by simp only[intOf];omega⟩
     ·obtain rfl:j=N+1:=(by omega);have E0:¬(((N+1:Nat):Int)<(N:Int)+1):=(by omega);have Y3:cr=0:=by
       have h1:=Q3k (B:=2^64) (by decide) A HA2.out.low;have h2:=Q3k (B:=2^64) (by decide) K HK2.out.low;have h3:(2^64)^K.length<=(2^64)^A.length:=UR (by decide) (by omega);rw[hAl] at h1 h3;rw[show (2^64)^(N+1)=(2^64)^N*2^64 from rfl] at J0;rcases Nat.lt_or_ge cr 1 with h|h
       ·omega
       ·have h4:1*((2^64)^N*2^64)<=cr*((2^64)^N*2^64):=Tp _ h;generalize (2^64)^N=P at*;generalize (2^64)^K.length=R at*;omega
      subst Y3;rw[TU,Tu] at J0;have Wa:=Xh4 hL O0 J0 N0;clear hL O0 J0 N0;have Jt:val (2^64) L=val (2^64) ls+val (2^64) ks:=(by have:=(Xo2 Wa);have:=HV.out;omega);have hW:WordsIn wr (some ⟨wc.heap.size,0,none⟩) (N+1) (N+1) L:=⟨K5,Ug _,by omega,(Xo1 Wa),(Xo0 Wa).rd⟩;have i8:Bw w wr:=Below.next0 HBC.out (Xe3 Wa);have x4:trimL L=dig (2^64) (val (2^64) ls+val (2^64) ks):=(by rw[Q1q (by decide) (Xo1 Wa),Jt]);have HE:=Xh3 hW i8 x4;clear Jt hW i8 x4
      go_wp2_with (refine (Q1l _ _ _ _ _ (Xo0 HE)).mono ?_;rintro e w5 ⟨rfl,M0⟩;have M4:=Ua M0;clear M0)
      rw[Xae];go_ret;have V2:=((Xo0 HE).step M4.out).trim;rw[(Xe2 HE)] at V2⊢;exact ⟨_,_,_,rfl,V2,Below.next0 (Xo1 HE) M4.out⟩
end Go.Proofs.YtdilmfakkppgpaaGreatDoor
namespace Go.Proofs.YtdilmfakkppgpaaGreatDoor
namespace Div64M
theorem Qp8 {D y1 y0 u r q:Nat} (h:q*y1+r=u):q*(y1*D+y0)+D*r=u*D+q*y0:=by
 subst h;rw[Tt,Ti,<-UN,UG D r];omega
theorem quot_low {D y u d:Nat} (hu:u<y) (hd:d<D):(u*D+d) / y<D:=by
 refine Xac ?_;have h:(u+1)*D<=y*D:=Tp D hu;rw[Ti,Nat.one_mul] at h;omega
theorem out_cond {D y1 y0 u d q r:Nat} (hy:0<y1*D+y0) (A5:q*y1+r=u) (Xz:(u*D+d) / (y1*D+y0)<=q) (hc:q*y0<=D*r+d):q=(u*D+d) / (y1*D+y0):=by
 refine Nat.le_antisymm ?_ Xz;rw[Nat.le_div_iff_mul_le hy];have:=Qp8 (D:=D) (y0:=y0) A5;omega
theorem too_great {D y1 y0 u d q r:Nat} (hu:u<y1*D+y0) (hd:d<D) (A5:q*y1+r=u) (hc:D<=q∨D*r+d<q*y0):(u*D+d) / (y1*D+y0)+1<=q:=by
 rcases hc with hc|hc
 ·exact Ue (quot_low hu hd) hc
 ·refine Xac ?_;have:=Qp8 (D:=D) (y0:=y0) A5;rw[UG (y1*D+y0) q,UG u D] at*;omega
theorem out_step {D y1 y0 u d q r:Nat} (hy:0<y1*D+y0) (h0:y0<D) (A5:q*y1+r=u) (Xz:(u*D+d) / (y1*D+y0)<=q) (hq:q<=D) (hr:D<=r):q=(u*D+d) / (y1*D+y0):=by
 refine out_cond hy A5 Xz ?_;have h1:q*y0<=D*y0:=Tp y0 hq;have h2:D*y0<=D*r:=Xax D (by omega);omega
theorem guess_le {D y1 y0 u:Nat} (hu:u<y1*D+y0) (h0:y0<D) (h1:D<=2*y1):u / y1<=D+1:=by
 have hp:0<y1:=by omega
 refine Nat.le_of_lt_succ (Xac ?_);have:y1*(D+1+1)=y1*D+y1+y1:=by rw[Tt,Tt,Xbx]
 show u<y1*(D+1+1)
 omega
theorem guess_ge {D y1 y0 u d:Nat} (h1:0<y1) (hd:d<D):(u*D+d) / (y1*D+y0)<=u / y1:=by
 rw[Nat.le_div_iff_mul_le h1];have hy:0<y1*D+y0:=by
  have:=Nat.mul_pos h1 (show 0<D by omega);omega
 obtain ⟨t,ht⟩:∃t,(u*D+d) / (y1*D+y0)=t:=⟨_,rfl⟩;have h2:t*(y1*D+y0)<=u*D+d:=by rw[<-ht];exact Nat.div_mul_le_self _ _
 rw[ht];have h3:t*(y1*D+y0)=t*y1*D+t*y0:=by rw[Tt,UN]
 have h4:t*y1*D<(u+1)*D:=by rw[Ti,Nat.one_mul];omega
 exact Nat.le_of_lt_succ (Nat.lt_of_mul_lt_mul_right h4)
theorem halves {D y hi l1 l0:Nat} (hy:0<y):
 (hi*(D*D)+(l1*D+l0)) / y=(hi*D+l1) / y*D+((hi*D+l1)%y*D+l0) / y/\(hi*(D*D)+(l1*D+l0))%y=((hi*D+l1)%y*D+l0)%y:=by
 have e:hi*(D*D)+(l1*D+l0)=y*((hi*D+l1) / y*D)+((hi*D+l1)%y*D+l0):=by
  have h:=TJ (hi*D+l1) y;have h2:(hi*D+l1)*D=(y*((hi*D+l1) / y)+(hi*D+l1)%y)*D:=by rw[h]
  rw[Ti,Ti,UN,UN] at h2;omega
 rw[e];exact ⟨by rw[Nat.mul_add_div hy],Nat.mul_add_mod _ _ _⟩
end Div64M
end Go.Proofs.YtdilmfakkppgpaaGreatDoor
namespace Go.Proofs.YtdilmfakkppgpaaGreatDoor
open Go.RowKit WordsM
theorem Q91:∀(f x:Nat),0<f->2^(f-1)<=x->Lib.bitLenAux f x=f
 |0,x,h,_=>absurd h (by omega)
 |f+1,x,_,hx=>by
  rw[Lib.bitLenAux];have hp:0<2^f:=Tr (by decide);rw[Nat.add_sub_cancel] at hx;rw[Uq (by omega)];cases f with
  |zero=>simp[Lib.bitLenAux]
  |succ f=>
   rw[Q91 (f+1) (x / 2) (by omega) (by rw[Nat.add_sub_cancel,Nat.le_div_iff_mul_le (by decide),<-Th];exact hx)];omega
theorem Qp9 (hi lo y:Nat) (w:World) (hh:hi<y) (q5:lo<18446744073709551616) (hy:9223372036854775808<=y) (O9:y<18446744073709551616):
 Calls Tryz.prog 210 #[.int .u64 (hi:Int),.int .u64 (lo:Int),.int .u64 (y:Int)] w fun e w'=>
  e=.returned (.tuple #[.int .u64 (((hi*18446744073709551616+lo) / y:Nat):Int),.int .u64 (((hi*18446744073709551616+lo)%y:Nat):Int)])/\Bw w w':=by
 have F3:Lib.bitLen y=64:=Q91 64 y (by decide) hy;have hlz:=fun W=>Tryz.Qzl (y:Int) W (by omega) (by omega);rw[Xa6,F3] at hlz;have hlz2:=fun W=>(hlz W).mono (R':=fun e w'=>e=.returned (.int .i64 (64-((64:Nat):Int)))/\W=w') (by rintro e w' ⟨h1,h2⟩;exact ⟨h1,h2.symm⟩);have HLZ:=Ua hlz2;clear hlz hlz2 F3
 by_cases h0:hi=0
 ·subst h0;rw[TU,UB];obtain ⟨q,hq⟩:∃q,lo / y=q:=⟨_,rfl⟩;obtain ⟨r,hr⟩:∃r,lo%y=r:=⟨_,rfl⟩;have Yc:q<18446744073709551616:=by rw[<-hq];exact TO (Xbj _ _) q5
  have hqI:(lo:Int) / (y:Int)=(q:Int):=by rw[<-hq];norm_cast
  have hrI:(lo:Int)%(y:Int)=(r:Int):=by rw[<-hr];norm_cast
  rw[hq,hr]
  go_enter Tryz.func210,Tryz.ntmps210
  go_wp2_with fail
  go_quiet (fail)
  go_wp2_with fail
  refine ⟨rfl,.tuple #[.int .u64 (q:Int),.int .u64 (r:Int)],by simp[results,go_sem,hrI],rfl,⟨rfl,rfl,rfl,Ug _,fun _ _=>rfl⟩⟩
 ·have Wr:((hi:Int)==0)=false:=by rw[Ui];omega
  obtain ⟨y1,hy1d⟩:∃z,y / 4294967296=z:=⟨_,rfl⟩;obtain ⟨y0,hy0d⟩:∃z,y%4294967296=z:=⟨_,rfl⟩;obtain ⟨l1,hl1d⟩:∃z,lo / 4294967296=z:=⟨_,rfl⟩;obtain ⟨l0,hl0d⟩:∃z,lo%4294967296=z:=⟨_,rfl⟩;have Ww:y=y1*4294967296+y0:=by omega
  have hl_l1:l1<4294967296:=by omega
  have hl_l0:l0<4294967296:=by omega
  obtain ⟨t1,Y1⟩:∃z,(hi*4294967296+l1) / y=z:=⟨_,rfl⟩;obtain ⟨u2,hu2⟩:∃z,(hi*4294967296+l1)%y=z:=⟨_,rfl⟩;obtain ⟨t0,Kg⟩:∃z,(u2*4294967296+l0) / y=z:=⟨_,rfl⟩;obtain ⟨rr,Ja⟩:∃z,(u2*4294967296+l0)%y=z:=⟨_,rfl⟩;have YR:=Div64M.halves (D:=4294967296) (y:=y) (hi:=hi) (l1:=l1) (l0:=l0) (by omega);rw[show 4294967296*4294967296=18446744073709551616 from rfl,show l1*4294967296+l0=lo by omega,Y1,hu2,Kg,Ja] at YR;rw[YR.1,YR.2];have ht1l:t1<4294967296:=by rw[<-Y1];exact Div64M.quot_low hh hl_l1
  have hu2l:u2<y:=by rw[<-hu2];exact TG _ (by omega)
  have ht0l:t0<4294967296:=by rw[<-Kg];exact Div64M.quot_low hu2l hl_l0
  have K2:=TJ (hi*4294967296+l1) y;have V8:=TJ (u2*4294967296+l0) y;rw[Y1,hu2,UG y] at K2;rw[Kg,Ja,UG y] at V8;have hrrl:rr<y:=by rw[<-Ja];exact TG _ (by omega)
  obtain ⟨T1,hT1⟩:∃z,t1*y=z:=⟨_,rfl⟩;obtain ⟨T0,o8⟩:∃z,t0*y=z:=⟨_,rfl⟩;have hT1I:(t1:Int)*(y:Int)=(T1:Int):=by rw[<-hT1];norm_cast
  have hT0I:(t0:Int)*(y:Int)=(T0:Int):=by rw[<-o8];norm_cast
  rw[hT1] at K2;rw[o8] at V8;have ZR:(lo:Int) / 18446744073709551616=0:=by omega
  have hy1I:(y:Int) / 4294967296=(y1:Int):=by omega
  have hl1I:(lo:Int) / 4294967296=(l1:Int):=by omega
  have A7:bits .or .u64 (hi:Int) 0=(hi:Int):=by have:=bits_or_u64_nat hi 0 (by omega) (by decide);simpa using this
  have W6:∀z:Nat,z<18446744073709551616->bits .and .u64 (z:Int) 4294967295=((z%4294967296:Nat):Int):=fun z hz=>by
   have h1:=bits_and_u64_nat z 4294967295 hz (by decide);rw[show (4294967295:Nat)=2^32-1 from rfl,Nat.and_two_pow_sub_one_eq_mod] at h1;exact h1
  have hy0I:bits .and .u64 (y:Int) 4294967295=(y0:Int):=by rw[W6 y O9,hy0d]
  have hl0I:bits .and .u64 (lo:Int) 4294967295=(l0:Int):=by rw[W6 lo q5,hl0d]
  clear W6;have Zo:=Ua Ww;have hU2:IntKind.u64.wrap (IntKind.u64.wrap (IntKind.u64.wrap ((hi:Int)*4294967296)+(l1:Int))-IntKind.u64.wrap (T1:Int))=(u2:Int):=by
   simp only[IntKind.wrap,IntKind.signed,IntKind.bits,Bool.false_and,Tl,Xaq];omega
  have hU0:IntKind.u64.wrap (IntKind.u64.wrap (IntKind.u64.wrap ((u2:Int)*4294967296)+(l0:Int))-IntKind.u64.wrap (T0:Int))=(rr:Int):=by
   simp only[IntKind.wrap,IntKind.signed,IntKind.bits,Bool.false_and,Tl,Xaq];omega
  have HU:=Ua hh;have hyb:2147483648<=y1/\y1<4294967296/\y0<4294967296:=by omega
  have HYP:=Ua (show 0<y1*4294967296+y0 by omega);clear Ww hy1d hy0d hl1d hl0d YR K2 V8;obtain ⟨qg,JA⟩:∃q,hi / y1=q:=⟨_,rfl⟩;have hqI:(hi:Int).tdiv (y1:Int)=(qg:Int):=by rw[<-JA,<-Int.ofNat_tdiv]
  obtain ⟨Pg,hPg⟩:∃P,qg*y1=P:=⟨_,rfl⟩;have hPgI:(qg:Int)*(y1:Int)=(Pg:Int):=by rw[<-hPg];norm_cast
  obtain ⟨rg,YS⟩:∃r,hi%y1=r:=⟨_,rfl⟩;have Yd:=TJ hi y1;rw[JA,YS,UG,hPg] at Yd;have hrg:rg<4294967296:=by have:=TG hi (show 0<y1 by omega);omega
  have hrI:(hi:Int)-(Pg:Int)=(rg:Int):=by omega
  have A5:qg*y1+rg=hi:=by rw[hPg];exact Yd
  have hqg:qg<=4294967296+1:=by rw[<-JA];exact Div64M.guess_le (D:=4294967296) (y0:=y0) (by rw[<-Zo.out];exact HU.out) (by omega) (by omega)
  have Xz:t1<=qg:=by rw[<-JA,<-Y1,Zo.out];exact Div64M.guess_ge (by omega) hl_l1
  go_enter Tryz.func210,Tryz.ntmps210
  go_upto_block 0 with (refine (HLZ.out _).mono ?_;rintro e w1 ⟨rfl,rfl⟩)
  go_cut [15] (fun qv wx=>qv=.int .u64 (t1:Int)/\w=wx)
  case first=>
   go_wp2_with fail
   go_loopw [15,16] (fun qv rv wr=>∃(q r:Nat),qv=.int .u64 (q:Int)/\rv=.int .u64 (r:Int)/\q*y1+r=hi/\t1<=q/\q<=4294967296+1/\r<4294967296/\wr=w) (fun qv _ _=>(intOf qv).toNat)
   case atStart=>exact ⟨qg,rg,rfl,rfl,A5,Xz,hqg,hrg,rfl⟩
   case round=>
    clear A5 Xz hqg hrg;obtain ⟨q,r,rfl,rfl,A5,Xz,hqg,hrg,rfl⟩:=hrel;obtain ⟨P,hP⟩:∃P,q*y0=P:=⟨_,rfl⟩;have hPI:(q:Int)*(y0:Int)=(P:Int):=(by rw[<-hP];norm_cast);have ZJ:q<4294967296->P<18446744073709551616:=fun h=>by
     have:q*y0<=4294967296*y0:=Tp y0 (by omega);omega
    have hrge:(0:Int)<=(r:Int):=Int.natCast_nonneg _;have hrlt:(r:Int)<4294967296:=(by omega);have HCC:4294967296<=q∨¬4294967296<=q:=by omega
    by_cases hc:4294967296<=q∨4294967296*r+l1<P
    ·have htg:=Div64M.too_great (D:=4294967296) (d:=l1) (y0:=y0) (q:=q) (r:=r) (u:=hi) (y1:=y1) (by rw[<-Zo.out];exact HU.out) hl_l1 A5 (by rw[hP];exact hc);rw[<-Zo.out,Y1] at htg;obtain ⟨p,hp⟩:∃p,q=p+1:=⟨q-1,by omega⟩;have ZX:p*y1+(r+y1)=hi:=(by rw[<-A5,hp,Ti];omega);have YW:(q:Int)-1=(p:Int):=(by omega);have E9:(1:Int)<=(q:Int):=(by omega);have hgp:t1<=p:=(by omega);have Kv:p<=4294967296:=(by omega);have u5:p<q:=(by omega);have XD:=Ua ZX;have M8:(4294967296<=q)∨(¬4294967296<=q/\4294967296*r+l1<P):=(by omega);have HCS:=Ua M8;clear hc hp htg A5 ZX M8 HCC
     by_cases G1:4294967296<=r+y1
     ·have Ke:=Div64M.out_step (D:=4294967296) (y1:=y1) (y0:=y0) (u:=hi) (d:=l1) (q:=p) (r:=r+y1) HYP.out (by omega) XD.out (by rw[<-Zo.out,Y1];omega) (by omega) G1;rw[<-Zo.out,Y1] at Ke;have hr2I:(4294967296:Int)<=(r:Int)+(y1:Int):=(by omega);have HOT:=Ua Ke;clear G1 Ke;rcases HCS.out with hc|⟨Xc,hc⟩
      ·have JZ:(4294967296:Int)<=(q:Int):=(by omega);clear hc ZJ
       go_wp2_with fail
       go_meet;exact ⟨by rw[HOT.out],rfl⟩
      ·have Vo:=ZJ (by omega);have hcI:4294967296*(r:Int)+(l1:Int)<(P:Int):=(by omega);have hc3I:¬(4294967296:Int)<=(q:Int):=(by omega);clear hc Xc ZJ
       go_wp2_with fail
       go_meet;exact ⟨by rw[HOT.out],rfl⟩
     ·have hr2I:¬(4294967296:Int)<=(r:Int)+(y1:Int):=(by omega);have HR2:=Ua G1;clear G1;rcases HCS.out with hc|⟨Xc,hc⟩
      ·have JZ:(4294967296:Int)<=(q:Int):=(by omega);clear hc ZJ
       go_wp2_with fail
       exact ⟨⟨p,r+y1,rfl,by simp,XD.out,hgp,by omega,by have:=HR2.out;omega,trivial⟩,by simp only[intOf];omega⟩
      ·have Vo:=ZJ (by omega);have hcI:4294967296*(r:Int)+(l1:Int)<(P:Int):=(by omega);have hc3I:¬(4294967296:Int)<=(q:Int):=(by omega);clear hc Xc ZJ
       go_wp2_with fail
       exact ⟨⟨p,r+y1,rfl,by simp,XD.out,hgp,by omega,by have:=HR2.out;omega,trivial⟩,by simp only[intOf];omega⟩
    ·have Ke:=Div64M.out_cond (D:=4294967296) (y1:=y1) (y0:=y0) (u:=hi) (d:=l1) (q:=q) (r:=r) HYP.out A5 (by rw[<-Zo.out,Y1];exact Xz) (by rw[hP];omega);rw[<-Zo.out,Y1] at Ke;subst Ke;have Vo:=ZJ (by omega);have N1:¬((4294967296:Int)<=(q:Int)):=(by omega);have E1:¬(4294967296*(r:Int)+(l1:Int)<(P:Int)):=(by omega);clear hc
     go_wp2_with fail
     go_meet;exact ⟨rfl,rfl⟩
  case rest=>
   obtain ⟨rfl,rfl⟩:=hcut;clear A5 Xz hqg hrg hqI hPgI hrI hPg YS JA Yd HU;have HU:=Ua hu2l;obtain ⟨qg,JA⟩:∃q,u2 / y1=q:=⟨_,rfl⟩;have hqI:(u2:Int).tdiv (y1:Int)=(qg:Int):=(by rw[<-JA,<-Int.ofNat_tdiv]);obtain ⟨Pg,hPg⟩:∃P,qg*y1=P:=⟨_,rfl⟩;have hPgI:(qg:Int)*(y1:Int)=(Pg:Int):=(by rw[<-hPg];norm_cast);obtain ⟨rg,YS⟩:∃r,u2%y1=r:=⟨_,rfl⟩;have Yd:=TJ u2 y1;rw[JA,YS,UG,hPg] at Yd;have hrg:rg<4294967296:=(by have:=TG u2 (show 0<y1 by omega);omega);have hrI:(u2:Int)-(Pg:Int)=(rg:Int):=(by omega);have A5:qg*y1+rg=u2:=(by rw[hPg];exact Yd);have hqg:qg<=4294967296+1:=(by rw[<-JA];exact Div64M.guess_le (D:=4294967296) (y0:=y0) (by rw[<-Zo.out];exact HU.out) (by omega) (by omega));have Xz:t0<=qg:=by rw[<-JA,<-Kg,Zo.out];exact Div64M.guess_ge (by omega) hl_l0
   go_upto_block 2 with fail
   go_cut [18] (fun qv wx=>qv=.int .u64 (t0:Int)/\w=wx)
   case first=>
    go_wp2_with fail
    go_loopw [18,16] (fun qv rv wr=>∃(q r:Nat),qv=.int .u64 (q:Int)/\rv=.int .u64 (r:Int)/\q*y1+r=u2/\t0<=q/\q<=4294967296+1/\r<4294967296/\wr=w) (fun qv _ _=>(intOf qv).toNat)
    case atStart=>exact ⟨qg,rg,rfl,rfl,A5,Xz,hqg,hrg,rfl⟩
    case round=>
     clear A5 Xz hqg hrg;obtain ⟨q,r,rfl,rfl,A5,Xz,hqg,hrg,rfl⟩:=hrel;obtain ⟨P,hP⟩:∃P,q*y0=P:=⟨_,rfl⟩;have hPI:(q:Int)*(y0:Int)=(P:Int):=(by rw[<-hP];norm_cast);have ZJ:q<4294967296->P<18446744073709551616:=fun h=>by
      have:q*y0<=4294967296*y0:=Tp y0 (by omega);omega
     have hrge:(0:Int)<=(r:Int):=Int.natCast_nonneg _;have hrlt:(r:Int)<4294967296:=(by omega);have HCC:4294967296<=q∨¬4294967296<=q:=by omega
     by_cases hc:4294967296<=q∨4294967296*r+l0<P
     ·have htg:=Div64M.too_great (D:=4294967296) (d:=l0) (y0:=y0) (q:=q) (r:=r) (u:=u2) (y1:=y1) (by rw[<-Zo.out];exact HU.out) hl_l0 A5 (by rw[hP];exact hc);rw[<-Zo.out,Kg] at htg;obtain ⟨p,hp⟩:∃p,q=p+1:=⟨q-1,by omega⟩;have ZX:p*y1+(r+y1)=u2:=(by rw[<-A5,hp,Ti];omega);have YW:(q:Int)-1=(p:Int):=(by omega);have E9:(1:Int)<=(q:Int):=(by omega);have hgp:t0<=p:=(by omega);have Kv:p<=4294967296:=(by omega);have u5:p<q:=(by omega);have XD:=Ua ZX;have M8:(4294967296<=q)∨(¬4294967296<=q/\4294967296*r+l0<P):=(by omega);have HCS:=Ua M8;clear hc hp htg A5 ZX M8 HCC
      by_cases G1:4294967296<=r+y1
      ·have Ke:=Div64M.out_step (D:=4294967296) (y1:=y1) (y0:=y0) (u:=u2) (d:=l0) (q:=p) (r:=r+y1) HYP.out (by omega) XD.out (by rw[<-Zo.out,Kg];omega) (by omega) G1;rw[<-Zo.out,Kg] at Ke;have hr2I:(4294967296:Int)<=(r:Int)+(y1:Int):=(by omega);have HOT:=Ua Ke;clear G1 Ke;rcases HCS.out with hc|⟨Xc,hc⟩
       ·have JZ:(4294967296:Int)<=(q:Int):=(by omega);clear hc ZJ
        go_wp2_with fail
        go_meet;exact ⟨by rw[HOT.out],rfl⟩
       ·have Vo:=ZJ (by omega);have hcI:4294967296*(r:Int)+(l0:Int)<(P:Int):=(by omega);have hc3I:¬(4294967296:Int)<=(q:Int):=(by omega);clear hc Xc ZJ
        go_wp2_with fail
        go_meet;exact ⟨by rw[HOT.out],rfl⟩
      ·have hr2I:¬(4294967296:Int)<=(r:Int)+(y1:Int):=(by omega);have HR2:=Ua G1;clear G1;rcases HCS.out with hc|⟨Xc,hc⟩
       ·have JZ:(4294967296:Int)<=(q:Int):=(by omega);clear hc ZJ
        go_wp2_with fail
        exact ⟨⟨p,r+y1,rfl,by simp,XD.out,hgp,by omega,by have:=HR2.out;omega,trivial⟩,by simp only[intOf];omega⟩
       ·have Vo:=ZJ (by omega);have hcI:4294967296*(r:Int)+(l0:Int)<(P:Int):=(by omega);have hc3I:¬(4294967296:Int)<=(q:Int):=(by omega);clear hc Xc ZJ
        go_wp2_with fail
        exact ⟨⟨p,r+y1,rfl,by simp,XD.out,hgp,by omega,by have:=HR2.out;omega,trivial⟩,by simp only[intOf];omega⟩
     ·have Ke:=Div64M.out_cond (D:=4294967296) (y1:=y1) (y0:=y0) (u:=u2) (d:=l0) (q:=q) (r:=r) HYP.out A5 (by rw[<-Zo.out,Kg];exact Xz) (by rw[hP];omega);rw[<-Zo.out,Kg] at Ke;subst Ke;have Vo:=ZJ (by omega);have N1:¬((4294967296:Int)<=(q:Int)):=(by omega);have E1:¬(4294967296*(r:Int)+(l0:Int)<(P:Int)):=(by omega);clear hc
      go_wp2_with fail
      go_meet;exact ⟨rfl,rfl⟩
   case rest=>
    obtain ⟨rfl,rfl⟩:=hcut
    go_wp2_with fail
    refine ⟨rfl,.tuple #[.int .u64 ((t1*4294967296+t0:Nat):Int),.int .u64 (rr:Int)],by simp[results,go_sem],rfl,Uf _ _⟩
theorem Qpa {B d:Nat} {A L:LN} {k x rest:Nat} (hx:A[k]?=some x) (hk:k<L.length) (h:val B (L.drop (k+1))*d+rest=val B (A.drop (k+1))):
 val B ((L.set k ((rest*B+x) / d)).drop k)*d+(rest*B+x)%d=val B (A.drop k):=by
 have hka:k<A.length:=(Um.1 hx).1;have hxe:A[k]=x:=(Um.1 hx).2;have e1:A.drop k=x::A.drop (k+1):=by rw[UC hka,hxe]
 have N9:k<(L.set k ((rest*B+x) / d)).length:=by rw[Xbk];exact hk
 have e2:(L.set k ((rest*B+x) / d)).drop k=(rest*B+x) / d::L.drop (k+1):=by
  rw[UC N9,List.getElem_set_self,List.drop_set_of_lt (by omega)]
 rw[e1,e2];simp only[val];rw[<-h];have h1:=TJ (rest*B+x) d;generalize (rest*B+x) / d=q at*;generalize (rest*B+x)%d=r at*;generalize val B (L.drop (k+1))=V at*;rw[Ti,Tt,UN,UG q d,UG B rest];omega
theorem Qmy (a:OA) (n c:Nat) (A:LN) (d:Nat) (w:World) (h:WordsIn w a n c A) (hn:n<=100000) (hd:9223372036854775808<=d) (M2:d<18446744073709551616):
 Calls Tryz.prog 179 #[.slice a n c,.int .u64 (d:Int)] w fun e w'=>∃a' n' c',e=.returned (.tuple #[.slice a' n' c',.int .u64 ((val (2^64) A%d:Nat):Int)])/\WordsIn w' a' n' c' (dig (2^64) (val (2^64) A / d))/\Bw w w'/\∀x,a'=some x->w.heap.size<=x.block:=by
 have R0:=h.len;have H:=Ua h;have U3:=Xam (P:=Tryz.prog) 23 74 (.int .u64 0) 8 Tryz.underlying23 Q5o rfl .i64 .i64 n (by omega) (by omega);rw[Q1k] at U3;have F2:Bw w (w.alloc (.cells (Array.replicate n (nv .u64 0)) 74)):=Ba;have X9:=Arr.zeros w 74 .u64 n;have H0:=Xh2 F2 X9;clear F2 X9 h
 go_enter Tryz.func179,Tryz.ntmps179
 go_wp2_with fail
 clear U3
 go_loopw [7,8] (fun rv iv wr=>∃(k rest:Nat) (L:LN),rv=.int .u64 (rest:Int)/\iv=.int .i64 ((k:Int)-1)/\k<=n/\rest<d/\Arr 74 .u64 wr w.heap.size L/\L.length=n/\Low (2^64) L/\val (2^64) (L.drop k)*d+rest=val (2^64) (A.drop k)/\Bw w wr) (fun _ iv _=>(intOf iv+1).toNat)
 case atStart=>
  refine ⟨n,0,List.replicate n 0,rfl,rfl,Ug _,by omega,(Xe1 H0),by simp,fun x hx=>?_,?_,(Xo0 H0)⟩
  ·rw[TP hx];decide
  ·rw[TH (by simp),TH (by omega)];simp[val]
 case round=>
  obtain ⟨k,rest,L,rfl,rfl,hk,r9,hL,K5,O0,J0,N0⟩:=hrel;cases k with
  |zero=>
   rw[Xaw,Xaw] at J0;have hq:val (2^64) A / d=val (2^64) L:=by
    rw[<-J0,UG,Nat.mul_add_div (by omega),Xap r9,Tu]
   have hr:val (2^64) A%d=rest:=by
    rw[<-J0,UG,Nat.mul_add_mod,TX r9]
   have hW:WordsIn wr (some ⟨w.heap.size,0,none⟩) n n L:=⟨K5,Ug _,by omega,O0,hL.rd⟩;have x4:trimL L=dig (2^64) (val (2^64) A / d):=(by rw[Q1q (by decide) O0,hq]);have HE:=Xh3 hW N0 x4;have HR:=Ua hr;clear hW N0 x4 J0 hL O0 hq hr H0
   go_wp2_with (refine (Q1l _ _ _ _ _ (Xo0 HE)).mono ?_;rintro e w5 ⟨rfl,M0⟩;have M4:=Ua M0;clear M0)
   have V2:=((Xo0 HE).step M4.out).trim;rw[(Xe2 HE)] at V2;refine ⟨rfl,.tuple #[.slice (some ⟨w.heap.size,0,none⟩) (trimL L).length n,.int .u64 (rest:Int)],by simp[results,go_sem],some ⟨w.heap.size,0,none⟩,(trimL L).length,n,by rw[HR.out],?_,Below.next0 (Xo1 HE) M4.out,fun x e=>by injection e with e;subst e;exact Ug _⟩;rw[(Xe2 HE)];exact V2
  |succ m=>
   obtain ⟨x,hx⟩:∃x,A[m]?=some x:=⟨_,Ub (by omega)⟩;obtain ⟨b,o,N6,F3,E6⟩:=(H.out.rd.below N0).at_ hx;have J3:x<18446744073709551616:=H.out.low x (Ud hx);subst N6;have Z0:=Qpa (B:=2^64) hx (by omega) J0;rw[show (2:Nat)^64=18446744073709551616 from rfl] at Z0;have XT:=fun W=>Qp9 rest x d W r9 J3 hd M2;have G1:(rest*18446744073709551616+x)%d<d:=TG _ (by omega);have N4:(rest*18446744073709551616+x) / d<18446744073709551616:=by
    refine Xac ?_;have h1:(rest+1)*18446744073709551616<=d*18446744073709551616:=Tp _ r9;omega
   generalize (rest*18446744073709551616+x) / d=q at*;generalize (rest*18446744073709551616+x)%d=r at*;have hmI:((m:Int)+1-1)=(m:Int):=(by omega);have HDV:=Ua XT;have Wv:wr.frozen? ⟨w.heap.size,m,none⟩=false:=hL.frozen m;obtain ⟨z,hz⟩:∃z,L[m]?=some z:=⟨_,Ub (by omega)⟩;have hzc:wr.cell? ⟨w.heap.size,m,none⟩=some (.int .u64 (z:Int)):=hL.cell hz;have XM:w.heap.size<wr.heap.size:=hL.lt;have HH:=Xh4 Z0 hL O0 N0;clear XT Z0 hL O0 J0 N0 hx hz
   go_wp2_with (refine (HDV.out _).mono ?_;rintro e w5 ⟨rfl,M0⟩;have hzf5:=(M0.frozen (p:=⟨w.heap.size,m,none⟩) XM).trans Wv;have hzc5:=(M0.cell (p:=⟨w.heap.size,m,none⟩) XM).trans hzc;have M4:=Ua M0;clear M0)
   refine ⟨⟨m,r,L.set m q,rfl,rfl,by omega,G1,((Xo1 HH).call M4.out).set m q,by simp[K5],Q3z (Xo2 HH) N4,(Xo0 HH),(Below.next0 (Xe3 HH) M4.out).setCell (p:=⟨w.heap.size,m,none⟩) (Ug _) _⟩,by simp only[intOf];omega⟩
theorem Qbs (a:OA) (n c:Nat) (ls:LN) (w:World) (h:WordsIn w a n c ls) (hn:n<=100000) (h0:val (2^64) ls≠0):
 Calls Tryz.prog 150 #[.slice a n c] w (Qlh w (val (2^64) ls)):=by
 have hc:=Q1l a n c ls w h;have hT:=fun W (hb:Bw w W)=>(h.step hb).trim;have htd:trimL ls=dig (2^64) (val (2^64) ls):=Q1q (by decide) h.low;have C1:trimL ls≠[]:=fun e=>h0 (by rw[<-Q1d ls,e];rfl);have Z5:=trim_len ls;have Z2:=h.len;obtain ⟨b,o,rfl⟩:∃b o,a=some ⟨b,o,none⟩:=by
  rcases (hT w (Uf _ _)).rd with e|⟨b,o,e,_⟩
  ·exact absurd e C1
  ·exact ⟨b,o,e⟩
 rw[htd] at hc hT Z5;obtain ⟨D,hD⟩:∃D,dig (2^64) (val (2^64) ls)=D:=⟨_,rfl⟩;have hDl:Low (2^64) D:=hD ▸ Q2c (by decide) _;have hD0:D≠[]:=by rw[<-hD,<-htd];exact C1
 rw[hD] at hc hT Z5;obtain ⟨i0,O1,P1,K1,J1⟩:∃i0:TypeInfo,Tryz.prog.info? 74=some i0/\i0.zero=some (.int .u64 0)/\i0.size=1/\i0.bytes=8:=by
  have:=Q5o;cases hi:Tryz.prog.info? 74 with
  |none=>rw[hi] at this;cases this
  |some i0=>
   rw[hi] at this;simp only[UM,Un,Xbw] at this;exact ⟨i0,rfl,this.1,this.2.1,this.2.2⟩
 have O3:=fun W (hW:WordsIn W (some ⟨b,o,none⟩) D.length c D)=>Tryz.J16 i0 (.int .u64 0) 1 8 O1 P1 K1 J1 rfl (by decide) Qew b o D.length c (D.map (nv .u64)) W (by simp) (by unfold maxLen;omega) (by omega) (fun j u hu=>by
  rw[UT] at hu;cases hx:D[j]? with
  |none=>rw[hx] at hu;cases hu
  |some x=>
   rw[hx] at hu;simp only[UM,Un] at hu;subst hu;obtain ⟨b',o',e,_,JZ⟩:=hW.rd.at_ hx;injection e with e;injection e with e1 e2;subst e1 e2;exact JZ) (Qp6 _ _)
 have HC:=Xh3 hc hT O3;have HD:=Ua hD;clear hc hT O3 htd C1 h O1 P1 K1 J1 h0
 go_enter Tryz.func150,Tryz.ntmps150
 go_wp2_with (first
  |(go_at_call_of 143 (some ⟨b,o,none⟩:OA);refine (Xo0 HC).mono ?_;rintro e w1 ⟨rfl,C0⟩;have K0:=Ua C0;clear C0)
  |(refine ((Xe2 HC) _ ((Xo1 HC) _ K0.out)).mono ?_;rintro e w2 ⟨v',rfl,G5,Xd,D0⟩;have B1:=Xh3 G5 Xd D0;clear G5 Xd D0))
 go_ret;obtain ⟨_,⟨e,_⟩|⟨g,cap,cur,rfl,U9,hg,hnc,E4,M8,B6⟩⟩:=(Xo0 B1)
 ·exact absurd e (Xo1 B1)
 ·refine ⟨_,_,_,rfl,?_,Below.next0 K0.out (Xe2 B1)⟩;rw[HD.out];refine ⟨?_,.inr fun x hx=>by injection hx with hx;subst hx;exact Ur K0.out.size U9⟩;refine ⟨rfl,hnc,by simpa[maxLen] using E4,hDl,.inr ⟨g,0,rfl,(Uv.1 hg).1,fun j x hx=>?_⟩⟩;rw[Ux _ _ _ _ _ _ hg,UB];have hj:j<D.length:=(Um.1 hx).1;have h1:(cur.toList.take (D.length*1))[j]?=some (nv .u64 x):=by rw[B6,UT,hx];rfl
  rw[To,Us (by omega),UW] at h1;exact h1
theorem Qjk (a:OA) (n c:Nat) (ls:LN) (w:World) (h:WordsIn w a n c ls) (hn:n<=100000) (h0:val (2^64) ls≠0):
 Calls Tryz.prog 150 #[.slice a n c] w (Qbr w (val (2^64) ls)):=(Qbs a n c ls w h hn h0).mono fun _ _ h=>h.out
end Go.Proofs.YtdilmfakkppgpaaGreatDoor
