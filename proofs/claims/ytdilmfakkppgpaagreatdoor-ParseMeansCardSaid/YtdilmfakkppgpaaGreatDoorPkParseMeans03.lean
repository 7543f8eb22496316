/- Part 3 of the proof of LawParseMeans: NatB, Div64M, Div64, NatD, NatE. Condition: as each theorem says; none at the end. -/
import Derived.Deep.CutBlock
import Derived.Deep.DeepCutAuto
import Derived.Deep.RegionLaw
import Derived.Shelf.Spec.BitsCarry
import Derived.WalkMore
import Derived.Laws.Bits64b
import Derived.Test.YtdilmfakkppgpaaGreatDoorPkParseMeans02
set_option maxRecDepth 100000
set_option maxHeartbeats 16000000
namespace Go.Proofs.YtdilmfakkppgpaaGreatDoor
open Go.RowKit WordsM
theorem Q7m (x y c:Nat) (hx:x<18446744073709551616) (hy:y<18446744073709551616) (hc:c<=1) (w:World):
 (callFunc 148 #[.int .u64 x,.int .u64 y,.int .u64 c]).run Tryz.prog w=
   .ok (.value (.tuple #[.int .u64 (((x+y+c)%18446744073709551616:Nat):Int),.int .u64 (((x+y+c) / 18446744073709551616:Nat):Int)])) w:=by
 rw[run_callFunc_extern Tryz.func148 (by kernel_rfl) (by kernel_rfl) (by kernel_rfl) (e:=add64Entry) (by kernel_rfl),run_add64 x y c (by omega) (by omega) (by omega) (by omega)]
 simp only[Result.andThen]
 congr 5 <;> omega
theorem Q4w:(Tryz.prog.info? 74).map (fun i=>(i.zero,i.size,i.bytes))=some (some (.int .u64 0),1,8):=by kernel_rfl
theorem Qns:(Tryz.prog.info? 74).map (·.size)=some 1:=by kernel_rfl
def Qjr (w:World) (v:Nat) (e:Ending) (w':World):Prop:=∃a n c,e=.returned (.slice a n c)/\Q2g w w' a n c (dig (2^64) v)/\Below w.heap.size w w'
def Qaj (w:World) (v:Nat) (e:Ending) (w':World):Prop:=∃a n c,e=.returned (.slice a n c)/\WordsIn w' a n c (dig (2^64) v)/\Below w.heap.size w w'
theorem Qjr.out {w:World} {v:Nat} {e:Ending} {w':World} (h:Qjr w v e w'):Qaj w v e w':=by
 obtain ⟨a,n,c,h1,h2,h3⟩:=h
 exact ⟨a,n,c,h1,h2.toWordsIn,h3⟩
theorem Qcb (a:Option Addr) (n c:Nat) (ls:List Nat) (b:Option Addr) (m d:Nat) (ks:List Nat) (w:World) (h1:WordsIn w a n c ls) (h2:WordsIn w b m d ks) (hn:n<=100000) (hm:m<=100000):
 Calls Tryz.prog 101 #[.slice a n c,.slice b m d] w (Qaj w (val (2^64) ls+val (2^64) ks)):=by
 have hl1:=h1.len
 have hl2:=h2.len
 have H1:=Lib.hid h1
 have H2:=Lib.hid h2
 clear h1 h2
 go_enter Tryz.func101,Tryz.ntmps101
 go_wp2_with fail
 go_step3
 go_upto_if 17 with (first
  |(go_at_call_of 143 a;refine (Q1e a n c ls _ H1.out).mono ?_;rintro e w1 ⟨rfl,hb1⟩;have HB1:=Lib.hid hb1;clear hb1)
  |(go_at_call_of 143 b;refine (Q1e b m d ks _ (H2.out.step HB1.out)).mono ?_;rintro e w2 ⟨rfl,hb2⟩;have HB2:=Lib.hid hb2;clear hb2))
 have HA:=Lib.hid ((H1.out.step HB1.out).step HB2.out).trim
 have HK:=Lib.hid ((H2.out.step HB1.out).step HB2.out).trim
 have HB:=Lib.hid (Below.next0 HB1.out HB2.out)
 have ht1:=trim_len ls
 have ht2:=trim_len ks
 go_cut [0,1] (fun x y wx=>∃a' n' c' A b' m' d' K,x=.slice a' n' c'/\y=.slice b' m' d'/\WordsIn wx a' n' c' A/\WordsIn wx b' m' d' K/\m'<=n'/\n'<=100000/\val (2^64) A+val (2^64) K=val (2^64) ls+val (2^64) ks/\Below w.heap.size w wx)
 case first=>
  by_cases hlt:(trimL ls).length<(trimL ks).length
  ·have hlt':((trimL ls).length:Int)<((trimL ks).length:Int):=by omega
   go_wp2_with fail
   go_meet
   exact ⟨_,_,_,_,_,_,_,_,rfl,rfl,HK.out,HA.out,by omega,by omega,by rw[Q1b,Q1b,Nat.add_comm],HB.out⟩
  ·have hlt':¬(((trimL ls).length:Int)<((trimL ks).length:Int)):=by omega
   go_wp2_with fail
   go_meet
   exact ⟨_,_,_,_,_,_,_,_,rfl,rfl,HA.out,HK.out,by omega,by omega,by rw[Q1b,Q1b],HB.out⟩
 case rest=>
  obtain ⟨p,N,pc,A,q,M,qc,K,rfl,rfl,hA,hK,hMN,hN,hv,hb⟩:=hcut
  have hAl:=hA.len
  have hKl:=hK.len
  have HA2:=Lib.hid hA
  have HK2:=Lib.hid hK
  have HBC:=Lib.hid hb
  have HV:=Lib.hid hv
  clear hA hK hb hv HA HK HB HB1 HB2 H1 H2 ht1 ht2
  have hmk:=run_make_row' (P:=Tryz.prog) 23 74 (.int .u64 0) 8 Tryz.underlying23 Q4w rfl .i64 .i64 (N+1) (by omega) (by omega)
  rw[show ((N+1:Nat):Int)=(N:Int)+1 by omega] at hmk
  rw[Q1y] at hmk
  have hB1:Below wc.heap.size wc (wc.alloc (.cells (Array.replicate (N+1) (nv .u64 0)) 74)):=(Below.refl _ _).alloc (Nat.le_refl _) _
  have hA1:=Arr.zeros wc 74 .u64 (N+1)
  have HB1:=Xh3 hB1 hA1 ((HA2.out.rd).below hB1)
  clear hB1 hA1
  go_wp2_with (refine Q9o rfl (.tmp 24) (.tmp 25) 23 23 rfl 74 Tryz.underlying23 Qns 74 .u64 wc.heap.size (N+1) (N+1) _ (Xo1 HB1) p N pc _ A rfl rfl (Xe2 HB1) hAl (by omega) (by simp) ?_;intro w3 hA3 ht3)
  have hd:(List.replicate (N+1) 0).drop N=[0]:=by simp
  rw[hd] at hA3
  have hB3:Below wc.heap.size wc w3:=Below.turn (Xo0 HB1) ht3 (Xo0 HB1).size (fun k e=>by have:k=wc.heap.size:=e;omega)
  have HS:=Xh2 hA3 hB3
  clear hA3 hB3 ht3 hd hmk
  go_loopw [6,29] (fun cv iv wr=>∃(i cr:Nat) (L:List Nat),cv=.int .u64 (cr:Int)/\iv=.int .i64 (i:Int)/\i<=M/\cr<=1/\Arr 74 .u64 wr wc.heap.size L/\L.length=N+1/\Low (2^64) L/\val (2^64) L+cr*(2^64)^i=val (2^64) A+val (2^64) (K.take i)/\Below wc.heap.size wc wr) (fun _ iv _=>M-(intOf iv).toNat)
  case atStart=>
   refine ⟨0,0,A++[0],rfl,rfl,Nat.zero_le _,Nat.zero_le _,(Xo0 HS),by simp[hAl],fun x hx=>?_,?_,(Xe1 HS)⟩
   ·rcases List.mem_append.1 hx with hx|hx
    ·exact HA2.out.low x hx
    ·rw[List.mem_singleton.1 hx];decide
   ·rw[Q9y];simp[val]
  case round=>
   obtain ⟨i,cr,L,rfl,rfl,hi,hcr,hL,hLl,hLow,hval,hbw⟩:=hrel
   by_cases hlt:i<M
   ·have hlt':(i:Int)<(M:Int):=by omega
    obtain ⟨x,hx⟩:∃x,L[i]?=some x:=⟨_,List.getElem?_eq_getElem (by omega)⟩
    obtain ⟨y,hy⟩:∃y,K[i]?=some y:=⟨_,List.getElem?_eq_getElem (by omega)⟩
    obtain ⟨b2,o2,rfl,hb2,hcy⟩:=(HK2.out.rd.below hbw).at_ hy
    have hxl:x<18446744073709551616:=hLow x (List.mem_of_getElem? hx)
    have hyl:y<18446744073709551616:=HK2.out.low y (List.mem_of_getElem? hy)
    have hadd:=fun W=>Q7m x y cr hxl hyl hcr W
    obtain ⟨z,hz⟩:∃z,(x+y+cr)%18446744073709551616=z:=⟨_,rfl⟩
    obtain ⟨c2,hc2⟩:∃z,(x+y+cr) / 18446744073709551616=z:=⟨_,rfl⟩
    have hc2l:c2<=1:=by omega
    have hzl:z<18446744073709551616:=by omega
    have hstep:=Q9z (B:=2^64) (b:=y) (c:=cr) hx hval
    rw[show (x+y+cr)%2^64=z from hz,show (x+y+cr) / 2^64=c2 from hc2] at hstep
    rw[hz,hc2] at hadd
    have HST:=Lib.hid hstep
    clear hz hc2 hstep
    have cx:wr.drew.cell? ⟨wc.heap.size,i,none⟩=some (.int .u64 (x:Int)):=hL.cell hx
    have cy:wr.drew.cell? ⟨b2,o2+i,none⟩=some (.int .u64 (y:Int)):=hcy
    have fx:wr.drew.frozen? ⟨wc.heap.size,i,none⟩=false:=hL.frozen i
    have hiN:(i:Int)<(N:Int)+1:=by omega
    have HH:=Xh6 hL hLow hval hbw hx hy
    clear hL hLow hval hbw hx hy hcy
    go_wp2_with fail
    go_region_law (fail)
    all_goals go_wp2_with fail
    all_goals
     obtain ⟨hL,hLow,hval,hbw,hx,hy⟩:=HH.out
     refine ⟨⟨i+1,c2,L.set i z,rfl,by simp,by omega,hc2l,hL.set i z,by simp[hLl],Q3q hLow hzl,?_,(hbw.setCell (p:=⟨wc.heap.size,i,none⟩) (Nat.le_refl _) _).drew⟩,by simp only[intOf];omega⟩
     rw[Q13 K i y hy,HST.out,Nat.mul_comm y]
     omega
   ·obtain rfl:i=M:=by omega
    have hlt':¬((i:Int)<(i:Int)):=by omega
    rw[List.take_of_length_le (by omega)] at hval
    have HH:=Xh4 hL hLow hval hbw
    clear hL hLow hval hbw HS
    go_wp2_with fail
    go_step3
    go_wp2_with fail
    go_loopw [6,8] (fun cv iv wr=>∃(j cr:Nat) (L:List Nat),cv=.int .u64 (cr:Int)/\iv=.int .i64 (j:Int)/\j<=N+1/\cr<=1/\Arr 74 .u64 wr wc.heap.size L/\L.length=N+1/\Low (2^64) L/\val (2^64) L+cr*(2^64)^j=val (2^64) A+val (2^64) K/\Below wc.heap.size wc wr) (fun _ iv _=>N+1-(intOf iv).toNat)
    case atStart=>exact ⟨i,cr,L,rfl,rfl,by omega,hcr,(Xo0 HH),hLl,(Xo1 HH),(Xo2 HH),(Xe3 HH)⟩
    case round=>
     clear hLl hcr HH
     obtain ⟨j,cr,L,rfl,rfl,hj,hcr,hL,hLl,hLow,hval,hbw⟩:=hrel
     by_cases hlt:j<N+1
     ·have hlt':(j:Int)<(N:Int)+1:=by omega
      by_cases hc0:cr=0
      ·subst hc0
       rw[Nat.zero_mul,Nat.add_zero] at hval
       have HH2:=Xh4 hL hLow hval hbw
       clear hL hLow hval hbw
       have hvl:val (2^64) L=val (2^64) ls+val (2^64) ks:=by have:=(Xo2 HH2);have:=HV.out;omega
       have hW:WordsIn wr (some ⟨wc.heap.size,0,none⟩) (N+1) (N+1) L:=⟨hLl,Nat.le_refl _,by omega,(Xo1 HH2),(Xo0 HH2).rd⟩
       have hbq:Below w.heap.size w wr:=Below.next0 HBC.out (Xe3 HH2)
       have hdig:trimL L=dig (2^64) (val (2^64) ls+val (2^64) ks):=by rw[Q1j (by decide) (Xo1 HH2),hvl]
       have HE:=Xh3 hW hbq hdig
       clear hvl hW hbq hdig
       go_wp2_with (refine (Q1e _ _ _ _ _ (Xo0 HE)).mono ?_;rintro e w5 ⟨rfl,hb5⟩;have HB5:=Lib.hid hb5;clear hb5)
       rw[Exit.noGoto_ret]
       go_ret
       have hout:=((Xo0 HE).step HB5.out).trim
       rw[(Xe2 HE)] at hout⊢
       exact ⟨_,_,_,rfl,hout,Below.next0 (Xo1 HE) HB5.out⟩
      ·obtain rfl:cr=1:=by omega
       obtain ⟨x,hx⟩:∃x,L[j]?=some x:=⟨_,List.getElem?_eq_getElem (by omega)⟩
       have hxl:x<18446744073709551616:=hLow x (List.mem_of_getElem? hx)
       have hadd:∀W,(callFunc 148 #[.int .u64 (x:Int),.int .u64 0,.int .u64 1]).run Tryz.prog W=.ok (.value (.tuple #[.int .u64 (((x+0+1)%18446744073709551616:Nat):Int),.int .u64 (((x+0+1) / 18446744073709551616:Nat):Int)])) W:=fun W=>Q7m x 0 1 hxl (by decide) (by decide) W
       obtain ⟨z,hz⟩:∃z,(x+0+1)%18446744073709551616=z:=⟨_,rfl⟩
       obtain ⟨c2,hc2⟩:∃z,(x+0+1) / 18446744073709551616=z:=⟨_,rfl⟩
       have hc2l:c2<=1:=by omega
       have hzl:z<18446744073709551616:=by omega
       have hstep:=Q9z (B:=2^64) (b:=0) (c:=1) hx hval
       rw[show (x+0+1)%2^64=z from hz,show (x+0+1) / 2^64=c2 from hc2,Nat.zero_mul,Nat.add_zero] at hstep
       rw[hz,hc2] at hadd
       have cx:wr.cell? ⟨wc.heap.size,j,none⟩=some (.int .u64 (x:Int)):=hL.cell hx
       have fx:wr.frozen? ⟨wc.heap.size,j,none⟩=false:=hL.frozen j
       have HST:=Xh4 hstep hL hLow hbw
       clear hz hc2 hstep hL hLow hval hbw hx
       go_wp2_with fail
       exact ⟨⟨j+1,c2,L.set j z,rfl,by simp,by omega,hc2l,(Xo1 HST).set j z,by simp[hLl],Q3q (Xo2 HST) hzl,(Xo0 HST),(Xe3 HST).setCell (p:=⟨wc.heap.size,j,none⟩) (Nat.le_refl _) _⟩,by simp only[intOf];omega⟩
     ·obtain rfl:j=N+1:=by omega
      have hlt':¬(((N+1:Nat):Int)<(N:Int)+1):=by omega
      have hc0:cr=0:=by
       have h1:=Q2o (B:=2^64) (by decide) A HA2.out.low
       have h2:=Q2o (B:=2^64) (by decide) K HK2.out.low
       have h3:(2^64)^K.length<=(2^64)^A.length:=Nat.pow_le_pow_right (by decide) (by omega)
       rw[hAl] at h1 h3
       rw[show (2^64)^(N+1)=(2^64)^N*2^64 from rfl] at hval
       rcases Nat.lt_or_ge cr 1 with h|h
       ·omega
       ·have h4:1*((2^64)^N*2^64)<=cr*((2^64)^N*2^64):=Nat.mul_le_mul_right _ h
        generalize (2^64)^N=P at*
        generalize (2^64)^K.length=R at*
        omega
      subst hc0
      rw[Nat.zero_mul,Nat.add_zero] at hval
      have HH2:=Xh4 hL hLow hval hbw
      clear hL hLow hval hbw
      have hvl:val (2^64) L=val (2^64) ls+val (2^64) ks:=by have:=(Xo2 HH2);have:=HV.out;omega
      have hW:WordsIn wr (some ⟨wc.heap.size,0,none⟩) (N+1) (N+1) L:=⟨hLl,Nat.le_refl _,by omega,(Xo1 HH2),(Xo0 HH2).rd⟩
      have hbq:Below w.heap.size w wr:=Below.next0 HBC.out (Xe3 HH2)
      have hdig:trimL L=dig (2^64) (val (2^64) ls+val (2^64) ks):=by rw[Q1j (by decide) (Xo1 HH2),hvl]
      have HE:=Xh3 hW hbq hdig
      clear hvl hW hbq hdig
      go_wp2_with (refine (Q1e _ _ _ _ _ (Xo0 HE)).mono ?_;rintro e w5 ⟨rfl,hb5⟩;have HB5:=Lib.hid hb5;clear hb5)
      rw[Exit.noGoto_ret]
      go_ret
      have hout:=((Xo0 HE).step HB5.out).trim
      rw[(Xe2 HE)] at hout⊢
      exact ⟨_,_,_,rfl,hout,Below.next0 (Xo1 HE) HB5.out⟩
end Go.Proofs.YtdilmfakkppgpaaGreatDoor
namespace Go.Proofs.YtdilmfakkppgpaaGreatDoor
namespace Div64M
theorem Qnt {D y1 y0 u r q:Nat} (h:q*y1+r=u):q*(y1*D+y0)+D*r=u*D+q*y0:=by
 subst h
 rw[Nat.mul_add,Nat.add_mul,<-Nat.mul_assoc,Nat.mul_comm D r]
 omega
theorem quot_low {D y u d:Nat} (hu:u<y) (hd:d<D):(u*D+d) / y<D:=by
 refine Nat.div_lt_of_lt_mul ?_
 have h:(u+1)*D<=y*D:=Nat.mul_le_mul_right D hu
 rw[Nat.add_mul,Nat.one_mul] at h
 omega
theorem out_cond {D y1 y0 u d q r:Nat} (hy:0<y1*D+y0) (hinv:q*y1+r=u) (hge:(u*D+d) / (y1*D+y0)<=q) (hc:q*y0<=D*r+d):q=(u*D+d) / (y1*D+y0):=by
 refine Nat.le_antisymm ?_ hge
 rw[Nat.le_div_iff_mul_le hy]
 have:=Qnt (D:=D) (y0:=y0) hinv
 omega
theorem too_great {D y1 y0 u d q r:Nat} (hu:u<y1*D+y0) (hd:d<D) (hinv:q*y1+r=u) (hc:D<=q∨D*r+d<q*y0):(u*D+d) / (y1*D+y0)+1<=q:=by
 rcases hc with hc|hc
 ·exact Nat.lt_of_lt_of_le (quot_low hu hd) hc
 ·refine Nat.div_lt_of_lt_mul ?_
  have:=Qnt (D:=D) (y0:=y0) hinv
  rw[Nat.mul_comm (y1*D+y0) q,Nat.mul_comm u D] at*
  omega
theorem out_step {D y1 y0 u d q r:Nat} (hy:0<y1*D+y0) (h0:y0<D) (hinv:q*y1+r=u) (hge:(u*D+d) / (y1*D+y0)<=q) (hq:q<=D) (hr:D<=r):q=(u*D+d) / (y1*D+y0):=by
 refine out_cond hy hinv hge ?_
 have h1:q*y0<=D*y0:=Nat.mul_le_mul_right y0 hq
 have h2:D*y0<=D*r:=Nat.mul_le_mul_left D (by omega)
 omega
theorem guess_le {D y1 y0 u:Nat} (hu:u<y1*D+y0) (h0:y0<D) (h1:D<=2*y1):u / y1<=D+1:=by
 have hp:0<y1:=by omega
 refine Nat.le_of_lt_succ (Nat.div_lt_of_lt_mul ?_)
 have:y1*(D+1+1)=y1*D+y1+y1:=by rw[Nat.mul_add,Nat.mul_add,Nat.mul_one]
 show u<y1*(D+1+1)
 omega
theorem guess_ge {D y1 y0 u d:Nat} (h1:0<y1) (hd:d<D):(u*D+d) / (y1*D+y0)<=u / y1:=by
 rw[Nat.le_div_iff_mul_le h1]
 have hy:0<y1*D+y0:=by
  have:=Nat.mul_pos h1 (show 0<D by omega)
  omega
 obtain ⟨t,ht⟩:∃t,(u*D+d) / (y1*D+y0)=t:=⟨_,rfl⟩
 have h2:t*(y1*D+y0)<=u*D+d:=by rw[<-ht];exact Nat.div_mul_le_self _ _
 rw[ht]
 have h3:t*(y1*D+y0)=t*y1*D+t*y0:=by rw[Nat.mul_add,Nat.mul_assoc]
 have h4:t*y1*D<(u+1)*D:=by rw[Nat.add_mul,Nat.one_mul];omega
 exact Nat.le_of_lt_succ (Nat.lt_of_mul_lt_mul_right h4)
theorem halves {D y hi l1 l0:Nat} (hy:0<y):
 (hi*(D*D)+(l1*D+l0)) / y=(hi*D+l1) / y*D+((hi*D+l1)%y*D+l0) / y/\(hi*(D*D)+(l1*D+l0))%y=((hi*D+l1)%y*D+l0)%y:=by
 have e:hi*(D*D)+(l1*D+l0)=y*((hi*D+l1) / y*D)+((hi*D+l1)%y*D+l0):=by
  have h:=Nat.div_add_mod (hi*D+l1) y
  have h2:(hi*D+l1)*D=(y*((hi*D+l1) / y)+(hi*D+l1)%y)*D:=by rw[h]
  rw[Nat.add_mul,Nat.add_mul,Nat.mul_assoc,Nat.mul_assoc] at h2
  omega
 rw[e]
 exact ⟨by rw[Nat.mul_add_div hy],Nat.mul_add_mod _ _ _⟩
end Div64M
end Go.Proofs.YtdilmfakkppgpaaGreatDoor
namespace Go.Proofs.YtdilmfakkppgpaaGreatDoor
open Go.RowKit WordsM
theorem Q7n:∀(f x:Nat),0<f->2^(f-1)<=x->Lib.bitLenAux f x=f
 |0,x,h,_=>absurd h (by omega)
 |f+1,x,_,hx=>by
  rw[Lib.bitLenAux]
  have hp:0<2^f:=Nat.pow_pos (by decide)
  rw[Nat.add_sub_cancel] at hx
  rw[if_neg (by omega)]
  cases f with
  |zero=>simp[Lib.bitLenAux]
  |succ f=>
   rw[Q7n (f+1) (x / 2) (by omega) (by rw[Nat.add_sub_cancel,Nat.le_div_iff_mul_le (by decide),<-Nat.pow_succ];exact hx)]
   omega
theorem Qnu (hi lo y:Nat) (w:World) (hh:hi<y) (hlo:lo<18446744073709551616) (hy:9223372036854775808<=y) (hy2:y<18446744073709551616):
 Calls Tryz.prog 210 #[.int .u64 (hi:Int),.int .u64 (lo:Int),.int .u64 (y:Int)] w fun e w'=>
  e=.returned (.tuple #[.int .u64 (((hi*18446744073709551616+lo) / y:Nat):Int),.int .u64 (((hi*18446744073709551616+lo)%y:Nat):Int)])/\Below w.heap.size w w':=by
 have hbl:Lib.bitLen y=64:=Q7n 64 y (by decide) hy
 have hlz:=fun W=>Tryz.Qx4 (y:Int) W (by omega) (by omega)
 rw[Int.toNat_natCast,hbl] at hlz
 have hlz2:=fun W=>(hlz W).mono (R':=fun e w'=>e=.returned (.int .i64 (64-((64:Nat):Int)))/\W=w') (by rintro e w' ⟨h1,h2⟩;exact ⟨h1,h2.symm⟩)
 have HLZ:=Lib.hid hlz2
 clear hlz hlz2 hbl
 by_cases h0:hi=0
 ·subst h0
  rw[Nat.zero_mul,Nat.zero_add]
  obtain ⟨q,hq⟩:∃q,lo / y=q:=⟨_,rfl⟩
  obtain ⟨r,hr⟩:∃r,lo%y=r:=⟨_,rfl⟩
  have hql:q<18446744073709551616:=by rw[<-hq];exact Nat.lt_of_le_of_lt (Nat.div_le_self _ _) hlo
  have hqI:(lo:Int) / (y:Int)=(q:Int):=by rw[<-hq];norm_cast
  have hrI:(lo:Int)%(y:Int)=(r:Int):=by rw[<-hr];norm_cast
  rw[hq,hr]
  go_enter Tryz.func210,Tryz.ntmps210
  go_wp2_with fail
  go_quiet (fail)
  go_wp2_with fail
  refine ⟨rfl,.tuple #[.int .u64 (q:Int),.int .u64 (r:Int)],by simp[results,go_sem,hrI],rfl,⟨rfl,rfl,rfl,Nat.le_refl _,fun _ _=>rfl⟩⟩
 ·have h0':((hi:Int)==0)=false:=by rw[beq_eq_false_iff_ne];omega
  obtain ⟨y1,hy1d⟩:∃z,y / 4294967296=z:=⟨_,rfl⟩
  obtain ⟨y0,hy0d⟩:∃z,y%4294967296=z:=⟨_,rfl⟩
  obtain ⟨l1,hl1d⟩:∃z,lo / 4294967296=z:=⟨_,rfl⟩
  obtain ⟨l0,hl0d⟩:∃z,lo%4294967296=z:=⟨_,rfl⟩
  have hyy:y=y1*4294967296+y0:=by omega
  have hl_l1:l1<4294967296:=by omega
  have hl_l0:l0<4294967296:=by omega
  obtain ⟨t1,ht1⟩:∃z,(hi*4294967296+l1) / y=z:=⟨_,rfl⟩
  obtain ⟨u2,hu2⟩:∃z,(hi*4294967296+l1)%y=z:=⟨_,rfl⟩
  obtain ⟨t0,ht0⟩:∃z,(u2*4294967296+l0) / y=z:=⟨_,rfl⟩
  obtain ⟨rr,hrr⟩:∃z,(u2*4294967296+l0)%y=z:=⟨_,rfl⟩
  have hhal:=Div64M.halves (D:=4294967296) (y:=y) (hi:=hi) (l1:=l1) (l0:=l0) (by omega)
  rw[show 4294967296*4294967296=18446744073709551616 from rfl,show l1*4294967296+l0=lo by omega,ht1,hu2,ht0,hrr] at hhal
  rw[hhal.1,hhal.2]
  have ht1l:t1<4294967296:=by rw[<-ht1];exact Div64M.quot_low hh hl_l1
  have hu2l:u2<y:=by rw[<-hu2];exact Nat.mod_lt _ (by omega)
  have ht0l:t0<4294967296:=by rw[<-ht0];exact Div64M.quot_low hu2l hl_l0
  have hd1:=Nat.div_add_mod (hi*4294967296+l1) y
  have hd0:=Nat.div_add_mod (u2*4294967296+l0) y
  rw[ht1,hu2,Nat.mul_comm y] at hd1
  rw[ht0,hrr,Nat.mul_comm y] at hd0
  have hrrl:rr<y:=by rw[<-hrr];exact Nat.mod_lt _ (by omega)
  obtain ⟨T1,hT1⟩:∃z,t1*y=z:=⟨_,rfl⟩
  obtain ⟨T0,hT0⟩:∃z,t0*y=z:=⟨_,rfl⟩
  have hT1I:(t1:Int)*(y:Int)=(T1:Int):=by rw[<-hT1];norm_cast
  have hT0I:(t0:Int)*(y:Int)=(T0:Int):=by rw[<-hT0];norm_cast
  rw[hT1] at hd1
  rw[hT0] at hd0
  have hlo64:(lo:Int) / 18446744073709551616=0:=by omega
  have hy1I:(y:Int) / 4294967296=(y1:Int):=by omega
  have hl1I:(lo:Int) / 4294967296=(l1:Int):=by omega
  have hor:bits .or .u64 (hi:Int) 0=(hi:Int):=by have:=bits_or_u64_nat hi 0 (by omega) (by decide);simpa using this
  have hand:∀z:Nat,z<18446744073709551616->bits .and .u64 (z:Int) 4294967295=((z%4294967296:Nat):Int):=fun z hz=>by
   have h1:=bits_and_u64_nat z 4294967295 hz (by decide)
   rw[show (4294967295:Nat)=2^32-1 from rfl,Nat.and_two_pow_sub_one_eq_mod] at h1
   exact h1
  have hy0I:bits .and .u64 (y:Int) 4294967295=(y0:Int):=by rw[hand y hy2,hy0d]
  have hl0I:bits .and .u64 (lo:Int) 4294967295=(l0:Int):=by rw[hand lo hlo,hl0d]
  clear hand
  have HYY:=Lib.hid hyy
  have hU2:IntKind.u64.wrap (IntKind.u64.wrap (IntKind.u64.wrap ((hi:Int)*4294967296)+(l1:Int))-IntKind.u64.wrap (T1:Int))=(u2:Int):=by
   simp only[IntKind.wrap,IntKind.signed,IntKind.bits,Bool.false_and,Bool.false_eq_true,if_false]
   omega
  have hU0:IntKind.u64.wrap (IntKind.u64.wrap (IntKind.u64.wrap ((u2:Int)*4294967296)+(l0:Int))-IntKind.u64.wrap (T0:Int))=(rr:Int):=by
   simp only[IntKind.wrap,IntKind.signed,IntKind.bits,Bool.false_and,Bool.false_eq_true,if_false]
   omega
  have HU:=Lib.hid hh
  have hyb:2147483648<=y1/\y1<4294967296/\y0<4294967296:=by omega
  have HYP:=Lib.hid (show 0<y1*4294967296+y0 by omega)
  clear hyy hy1d hy0d hl1d hl0d hhal hd1 hd0
  obtain ⟨qg,hqgd⟩:∃q,hi / y1=q:=⟨_,rfl⟩
  have hqI:(hi:Int).tdiv (y1:Int)=(qg:Int):=by rw[<-hqgd,<-Int.ofNat_tdiv]
  obtain ⟨Pg,hPg⟩:∃P,qg*y1=P:=⟨_,rfl⟩
  have hPgI:(qg:Int)*(y1:Int)=(Pg:Int):=by rw[<-hPg];norm_cast
  obtain ⟨rg,hrgd⟩:∃r,hi%y1=r:=⟨_,rfl⟩
  have hdm:=Nat.div_add_mod hi y1
  rw[hqgd,hrgd,Nat.mul_comm,hPg] at hdm
  have hrg:rg<4294967296:=by have:=Nat.mod_lt hi (show 0<y1 by omega);omega
  have hrI:(hi:Int)-(Pg:Int)=(rg:Int):=by omega
  have hinv:qg*y1+rg=hi:=by rw[hPg];exact hdm
  have hqg:qg<=4294967296+1:=by rw[<-hqgd];exact Div64M.guess_le (D:=4294967296) (y0:=y0) (by rw[<-HYY.out];exact HU.out) (by omega) (by omega)
  have hge:t1<=qg:=by rw[<-hqgd,<-ht1,HYY.out];exact Div64M.guess_ge (by omega) hl_l1
  go_enter Tryz.func210,Tryz.ntmps210
  go_upto_block 0 with (refine (HLZ.out _).mono ?_;rintro e w1 ⟨rfl,rfl⟩)
  go_cut [15] (fun qv wx=>qv=.int .u64 (t1:Int)/\w=wx)
  case first=>
   go_wp2_with fail
   go_loopw [15,16] (fun qv rv wr=>∃(q r:Nat),qv=.int .u64 (q:Int)/\rv=.int .u64 (r:Int)/\q*y1+r=hi/\t1<=q/\q<=4294967296+1/\r<4294967296/\wr=w) (fun qv _ _=>(intOf qv).toNat)
   case atStart=>exact ⟨qg,rg,rfl,rfl,hinv,hge,hqg,hrg,rfl⟩
   case round=>
    clear hinv hge hqg hrg
    obtain ⟨q,r,rfl,rfl,hinv,hge,hqg,hrg,rfl⟩:=hrel
    obtain ⟨P,hP⟩:∃P,q*y0=P:=⟨_,rfl⟩
    have hPI:(q:Int)*(y0:Int)=(P:Int):=by rw[<-hP];norm_cast
    have hPl:q<4294967296->P<18446744073709551616:=fun h=>by
     have:q*y0<=4294967296*y0:=Nat.mul_le_mul_right y0 (by omega)
     omega
    have hrge:(0:Int)<=(r:Int):=Int.natCast_nonneg _
    have hrlt:(r:Int)<4294967296:=by omega
    have HCC:4294967296<=q∨¬4294967296<=q:=by omega
    by_cases hc:4294967296<=q∨4294967296*r+l1<P
    ·have htg:=Div64M.too_great (D:=4294967296) (d:=l1) (y0:=y0) (q:=q) (r:=r) (u:=hi) (y1:=y1) (by rw[<-HYY.out];exact HU.out) hl_l1 hinv (by rw[hP];exact hc)
     rw[<-HYY.out,ht1] at htg
     obtain ⟨p,hp⟩:∃p,q=p+1:=⟨q-1,by omega⟩
     have hinv2:p*y1+(r+y1)=hi:=by rw[<-hinv,hp,Nat.add_mul];omega
     have hpI:(q:Int)-1=(p:Int):=by omega
     have hq1:(1:Int)<=(q:Int):=by omega
     have hgp:t1<=p:=by omega
     have hpm:p<=4294967296:=by omega
     have hpq:p<q:=by omega
     have HINV:=Lib.hid hinv2
     have hcs:(4294967296<=q)∨(¬4294967296<=q/\4294967296*r+l1<P):=by omega
     have HCS:=Lib.hid hcs
     clear hc hp htg hinv hinv2 hcs HCC
     by_cases hr2:4294967296<=r+y1
     ·have hot:=Div64M.out_step (D:=4294967296) (y1:=y1) (y0:=y0) (u:=hi) (d:=l1) (q:=p) (r:=r+y1) HYP.out (by omega) HINV.out (by rw[<-HYY.out,ht1];omega) (by omega) hr2
      rw[<-HYY.out,ht1] at hot
      have hr2I:(4294967296:Int)<=(r:Int)+(y1:Int):=by omega
      have HOT:=Lib.hid hot
      clear hr2 hot
      rcases HCS.out with hc|⟨hc3,hc⟩
      ·have hc':(4294967296:Int)<=(q:Int):=by omega
       clear hc hPl
       go_wp2_with fail
       go_meet
       exact ⟨by rw[HOT.out],rfl⟩
      ·have hPl':=hPl (by omega)
       have hcI:4294967296*(r:Int)+(l1:Int)<(P:Int):=by omega
       have hc3I:¬(4294967296:Int)<=(q:Int):=by omega
       clear hc hc3 hPl
       go_wp2_with fail
       go_meet
       exact ⟨by rw[HOT.out],rfl⟩
     ·have hr2I:¬(4294967296:Int)<=(r:Int)+(y1:Int):=by omega
      have HR2:=Lib.hid hr2
      clear hr2
      rcases HCS.out with hc|⟨hc3,hc⟩
      ·have hc':(4294967296:Int)<=(q:Int):=by omega
       clear hc hPl
       go_wp2_with fail
       exact ⟨⟨p,r+y1,rfl,by simp,HINV.out,hgp,by omega,by have:=HR2.out;omega,trivial⟩,by simp only[intOf];omega⟩
      ·have hPl':=hPl (by omega)
       have hcI:4294967296*(r:Int)+(l1:Int)<(P:Int):=by omega
       have hc3I:¬(4294967296:Int)<=(q:Int):=by omega
       clear hc hc3 hPl
       go_wp2_with fail
       exact ⟨⟨p,r+y1,rfl,by simp,HINV.out,hgp,by omega,by have:=HR2.out;omega,trivial⟩,by simp only[intOf];omega⟩
    ·have hot:=Div64M.out_cond (D:=4294967296) (y1:=y1) (y0:=y0) (u:=hi) (d:=l1) (q:=q) (r:=r) HYP.out hinv (by rw[<-HYY.out,ht1];exact hge) (by rw[hP];omega)
     rw[<-HYY.out,ht1] at hot
     subst hot
     have hPl':=hPl (by omega)
     have hc1:¬((4294967296:Int)<=(q:Int)):=by omega
     have hc2:¬(4294967296*(r:Int)+(l1:Int)<(P:Int)):=by omega
     clear hc
     go_wp2_with fail
     go_meet
     exact ⟨rfl,rfl⟩
  case rest=>
   obtain ⟨rfl,rfl⟩:=hcut
   clear hinv hge hqg hrg hqI hPgI hrI hPg hrgd hqgd hdm HU
   have HU:=Lib.hid hu2l
   obtain ⟨qg,hqgd⟩:∃q,u2 / y1=q:=⟨_,rfl⟩
   have hqI:(u2:Int).tdiv (y1:Int)=(qg:Int):=by rw[<-hqgd,<-Int.ofNat_tdiv]
   obtain ⟨Pg,hPg⟩:∃P,qg*y1=P:=⟨_,rfl⟩
   have hPgI:(qg:Int)*(y1:Int)=(Pg:Int):=by rw[<-hPg];norm_cast
   obtain ⟨rg,hrgd⟩:∃r,u2%y1=r:=⟨_,rfl⟩
   have hdm:=Nat.div_add_mod u2 y1
   rw[hqgd,hrgd,Nat.mul_comm,hPg] at hdm
   have hrg:rg<4294967296:=by have:=Nat.mod_lt u2 (show 0<y1 by omega);omega
   have hrI:(u2:Int)-(Pg:Int)=(rg:Int):=by omega
   have hinv:qg*y1+rg=u2:=by rw[hPg];exact hdm
   have hqg:qg<=4294967296+1:=by rw[<-hqgd];exact Div64M.guess_le (D:=4294967296) (y0:=y0) (by rw[<-HYY.out];exact HU.out) (by omega) (by omega)
   have hge:t0<=qg:=by rw[<-hqgd,<-ht0,HYY.out];exact Div64M.guess_ge (by omega) hl_l0
   go_upto_block 2 with fail
   go_cut [18] (fun qv wx=>qv=.int .u64 (t0:Int)/\w=wx)
   case first=>
    go_wp2_with fail
    go_loopw [18,16] (fun qv rv wr=>∃(q r:Nat),qv=.int .u64 (q:Int)/\rv=.int .u64 (r:Int)/\q*y1+r=u2/\t0<=q/\q<=4294967296+1/\r<4294967296/\wr=w) (fun qv _ _=>(intOf qv).toNat)
    case atStart=>exact ⟨qg,rg,rfl,rfl,hinv,hge,hqg,hrg,rfl⟩
    case round=>
     clear hinv hge hqg hrg
     obtain ⟨q,r,rfl,rfl,hinv,hge,hqg,hrg,rfl⟩:=hrel
     obtain ⟨P,hP⟩:∃P,q*y0=P:=⟨_,rfl⟩
     have hPI:(q:Int)*(y0:Int)=(P:Int):=by rw[<-hP];norm_cast
     have hPl:q<4294967296->P<18446744073709551616:=fun h=>by
      have:q*y0<=4294967296*y0:=Nat.mul_le_mul_right y0 (by omega)
      omega
     have hrge:(0:Int)<=(r:Int):=Int.natCast_nonneg _
     have hrlt:(r:Int)<4294967296:=by omega
     have HCC:4294967296<=q∨¬4294967296<=q:=by omega
     by_cases hc:4294967296<=q∨4294967296*r+l0<P
     ·have htg:=Div64M.too_great (D:=4294967296) (d:=l0) (y0:=y0) (q:=q) (r:=r) (u:=u2) (y1:=y1) (by rw[<-HYY.out];exact HU.out) hl_l0 hinv (by rw[hP];exact hc)
      rw[<-HYY.out,ht0] at htg
      obtain ⟨p,hp⟩:∃p,q=p+1:=⟨q-1,by omega⟩
      have hinv2:p*y1+(r+y1)=u2:=by rw[<-hinv,hp,Nat.add_mul];omega
      have hpI:(q:Int)-1=(p:Int):=by omega
      have hq1:(1:Int)<=(q:Int):=by omega
      have hgp:t0<=p:=by omega
      have hpm:p<=4294967296:=by omega
      have hpq:p<q:=by omega
      have HINV:=Lib.hid hinv2
      have hcs:(4294967296<=q)∨(¬4294967296<=q/\4294967296*r+l0<P):=by omega
      have HCS:=Lib.hid hcs
      clear hc hp htg hinv hinv2 hcs HCC
      by_cases hr2:4294967296<=r+y1
      ·have hot:=Div64M.out_step (D:=4294967296) (y1:=y1) (y0:=y0) (u:=u2) (d:=l0) (q:=p) (r:=r+y1) HYP.out (by omega) HINV.out (by rw[<-HYY.out,ht0];omega) (by omega) hr2
       rw[<-HYY.out,ht0] at hot
       have hr2I:(4294967296:Int)<=(r:Int)+(y1:Int):=by omega
       have HOT:=Lib.hid hot
       clear hr2 hot
       rcases HCS.out with hc|⟨hc3,hc⟩
       ·have hc':(4294967296:Int)<=(q:Int):=by omega
        clear hc hPl
        go_wp2_with fail
        go_meet
        exact ⟨by rw[HOT.out],rfl⟩
       ·have hPl':=hPl (by omega)
        have hcI:4294967296*(r:Int)+(l0:Int)<(P:Int):=by omega
        have hc3I:¬(4294967296:Int)<=(q:Int):=by omega
        clear hc hc3 hPl
        go_wp2_with fail
        go_meet
        exact ⟨by rw[HOT.out],rfl⟩
      ·have hr2I:¬(4294967296:Int)<=(r:Int)+(y1:Int):=by omega
       have HR2:=Lib.hid hr2
       clear hr2
       rcases HCS.out with hc|⟨hc3,hc⟩
       ·have hc':(4294967296:Int)<=(q:Int):=by omega
        clear hc hPl
        go_wp2_with fail
        exact ⟨⟨p,r+y1,rfl,by simp,HINV.out,hgp,by omega,by have:=HR2.out;omega,trivial⟩,by simp only[intOf];omega⟩
       ·have hPl':=hPl (by omega)
        have hcI:4294967296*(r:Int)+(l0:Int)<(P:Int):=by omega
        have hc3I:¬(4294967296:Int)<=(q:Int):=by omega
        clear hc hc3 hPl
        go_wp2_with fail
        exact ⟨⟨p,r+y1,rfl,by simp,HINV.out,hgp,by omega,by have:=HR2.out;omega,trivial⟩,by simp only[intOf];omega⟩
     ·have hot:=Div64M.out_cond (D:=4294967296) (y1:=y1) (y0:=y0) (u:=u2) (d:=l0) (q:=q) (r:=r) HYP.out hinv (by rw[<-HYY.out,ht0];exact hge) (by rw[hP];omega)
      rw[<-HYY.out,ht0] at hot
      subst hot
      have hPl':=hPl (by omega)
      have hc1:¬((4294967296:Int)<=(q:Int)):=by omega
      have hc2:¬(4294967296*(r:Int)+(l0:Int)<(P:Int)):=by omega
      clear hc
      go_wp2_with fail
      go_meet
      exact ⟨rfl,rfl⟩
   case rest=>
    obtain ⟨rfl,rfl⟩:=hcut
    go_wp2_with fail
    refine ⟨rfl,.tuple #[.int .u64 ((t1*4294967296+t0:Nat):Int),.int .u64 (rr:Int)],by simp[results,go_sem],rfl,Below.refl _ _⟩
theorem Qnv {B d:Nat} {A L:List Nat} {k x rest:Nat} (hx:A[k]?=some x) (hk:k<L.length) (h:val B (L.drop (k+1))*d+rest=val B (A.drop (k+1))):
 val B ((L.set k ((rest*B+x) / d)).drop k)*d+(rest*B+x)%d=val B (A.drop k):=by
 have hka:k<A.length:=(List.getElem?_eq_some_iff.1 hx).1
 have hxe:A[k]=x:=(List.getElem?_eq_some_iff.1 hx).2
 have e1:A.drop k=x::A.drop (k+1):=by rw[List.drop_eq_getElem_cons hka,hxe]
 have hk2:k<(L.set k ((rest*B+x) / d)).length:=by rw[List.length_set];exact hk
 have e2:(L.set k ((rest*B+x) / d)).drop k=(rest*B+x) / d::L.drop (k+1):=by
  rw[List.drop_eq_getElem_cons hk2,List.getElem_set_self,List.drop_set_of_lt (by omega)]
 rw[e1,e2]
 simp only[val]
 rw[<-h]
 have h1:=Nat.div_add_mod (rest*B+x) d
 generalize (rest*B+x) / d=q at*
 generalize (rest*B+x)%d=r at*
 generalize val B (L.drop (k+1))=V at*
 rw[Nat.add_mul,Nat.mul_add,Nat.mul_assoc,Nat.mul_comm q d,Nat.mul_comm B rest]
 omega
theorem Qla (a:Option Addr) (n c:Nat) (A:List Nat) (d:Nat) (w:World) (h:WordsIn w a n c A) (hn:n<=100000) (hd:9223372036854775808<=d) (hd2:d<18446744073709551616):
 Calls Tryz.prog 179 #[.slice a n c,.int .u64 (d:Int)] w fun e w'=>∃a' n' c',e=.returned (.tuple #[.slice a' n' c',.int .u64 ((val (2^64) A%d:Nat):Int)])/\WordsIn w' a' n' c' (dig (2^64) (val (2^64) A / d))/\Below w.heap.size w w'/\∀x,a'=some x->w.heap.size<=x.block:=by
 have hlen:=h.len
 have H:=Lib.hid h
 have hmk:=run_make_row' (P:=Tryz.prog) 23 74 (.int .u64 0) 8 Tryz.underlying23 Q4w rfl .i64 .i64 n (by omega) (by omega)
 rw[Q1y] at hmk
 have hB0:Below w.heap.size w (w.alloc (.cells (Array.replicate n (nv .u64 0)) 74)):=(Below.refl _ _).alloc (Nat.le_refl _) _
 have hA0:=Arr.zeros w 74 .u64 n
 have H0:=Xh2 hB0 hA0
 clear hB0 hA0 h
 go_enter Tryz.func179,Tryz.ntmps179
 go_wp2_with fail
 clear hmk
 go_loopw [7,8] (fun rv iv wr=>∃(k rest:Nat) (L:List Nat),rv=.int .u64 (rest:Int)/\iv=.int .i64 ((k:Int)-1)/\k<=n/\rest<d/\Arr 74 .u64 wr w.heap.size L/\L.length=n/\Low (2^64) L/\val (2^64) (L.drop k)*d+rest=val (2^64) (A.drop k)/\Below w.heap.size w wr) (fun _ iv _=>(intOf iv+1).toNat)
 case atStart=>
  refine ⟨n,0,List.replicate n 0,rfl,rfl,Nat.le_refl _,by omega,(Xe1 H0),by simp,fun x hx=>?_,?_,(Xo0 H0)⟩
  ·rw[List.eq_of_mem_replicate hx];decide
  ·rw[List.drop_eq_nil_of_le (by simp),List.drop_eq_nil_of_le (by omega)];simp[val]
 case round=>
  obtain ⟨k,rest,L,rfl,rfl,hk,hrest,hL,hLl,hLow,hval,hbw⟩:=hrel
  cases k with
  |zero=>
   rw[List.drop_zero,List.drop_zero] at hval
   have hq:val (2^64) A / d=val (2^64) L:=by
    rw[<-hval,Nat.mul_comm,Nat.mul_add_div (by omega),Nat.div_eq_of_lt hrest,Nat.add_zero]
   have hr:val (2^64) A%d=rest:=by
    rw[<-hval,Nat.mul_comm,Nat.mul_add_mod,Nat.mod_eq_of_lt hrest]
   have hW:WordsIn wr (some ⟨w.heap.size,0,none⟩) n n L:=⟨hLl,Nat.le_refl _,by omega,hLow,hL.rd⟩
   have hdig:trimL L=dig (2^64) (val (2^64) A / d):=by rw[Q1j (by decide) hLow,hq]
   have HE:=Xh3 hW hbw hdig
   have HR:=Lib.hid hr
   clear hW hbw hdig hval hL hLow hq hr H0
   go_wp2_with (refine (Q1e _ _ _ _ _ (Xo0 HE)).mono ?_;rintro e w5 ⟨rfl,hb5⟩;have HB5:=Lib.hid hb5;clear hb5)
   have hout:=((Xo0 HE).step HB5.out).trim
   rw[(Xe2 HE)] at hout
   refine ⟨rfl,.tuple #[.slice (some ⟨w.heap.size,0,none⟩) (trimL L).length n,.int .u64 (rest:Int)],by simp[results,go_sem],some ⟨w.heap.size,0,none⟩,(trimL L).length,n,by rw[HR.out],?_,Below.next0 (Xo1 HE) HB5.out,fun x e=>by injection e with e;subst e;exact Nat.le_refl _⟩
   rw[(Xe2 HE)]
   exact hout
  |succ m=>
   obtain ⟨x,hx⟩:∃x,A[m]?=some x:=⟨_,List.getElem?_eq_getElem (by omega)⟩
   obtain ⟨b,o,hae,hbl,hcx⟩:=(H.out.rd.below hbw).at_ hx
   have hxl:x<18446744073709551616:=H.out.low x (List.mem_of_getElem? hx)
   subst hae
   have hst:=Qnv (B:=2^64) hx (by omega) hval
   rw[show (2:Nat)^64=18446744073709551616 from rfl] at hst
   have hdv:=fun W=>Qnu rest x d W hrest hxl hd hd2
   have hr2:(rest*18446744073709551616+x)%d<d:=Nat.mod_lt _ (by omega)
   have hq2:(rest*18446744073709551616+x) / d<18446744073709551616:=by
    refine Nat.div_lt_of_lt_mul ?_
    have h1:(rest+1)*18446744073709551616<=d*18446744073709551616:=Nat.mul_le_mul_right _ hrest
    omega
   generalize (rest*18446744073709551616+x) / d=q at*
   generalize (rest*18446744073709551616+x)%d=r at*
   have hmI:((m:Int)+1-1)=(m:Int):=by omega
   have HDV:=Lib.hid hdv
   have hzf:wr.frozen? ⟨w.heap.size,m,none⟩=false:=hL.frozen m
   obtain ⟨z,hz⟩:∃z,L[m]?=some z:=⟨_,List.getElem?_eq_getElem (by omega)⟩
   have hzc:wr.cell? ⟨w.heap.size,m,none⟩=some (.int .u64 (z:Int)):=hL.cell hz
   have hgl:w.heap.size<wr.heap.size:=hL.lt
   have HH:=Xh4 hst hL hLow hbw
   clear hdv hst hL hLow hval hbw hx hz
   go_wp2_with (refine (HDV.out _).mono ?_;rintro e w5 ⟨rfl,hb5⟩;have hzf5:=(hb5.frozen (p:=⟨w.heap.size,m,none⟩) hgl).trans hzf;have hzc5:=(hb5.cell (p:=⟨w.heap.size,m,none⟩) hgl).trans hzc;have HB5:=Lib.hid hb5;clear hb5)
   refine ⟨⟨m,r,L.set m q,rfl,rfl,by omega,hr2,((Xo1 HH).call HB5.out).set m q,by simp[hLl],Q3q (Xo2 HH) hq2,(Xo0 HH),(Below.next0 (Xe3 HH) HB5.out).setCell (p:=⟨w.heap.size,m,none⟩) (Nat.le_refl _) _⟩,by simp only[intOf];omega⟩
theorem Qak (a:Option Addr) (n c:Nat) (ls:List Nat) (w:World) (h:WordsIn w a n c ls) (hn:n<=100000) (h0:val (2^64) ls≠0):
 Calls Tryz.prog 150 #[.slice a n c] w (Qjr w (val (2^64) ls)):=by
 have hc:=Q1e a n c ls w h
 have hT:=fun W (hb:Below w.heap.size w W)=>(h.step hb).trim
 have htd:trimL ls=dig (2^64) (val (2^64) ls):=Q1j (by decide) h.low
 have hne:trimL ls≠[]:=fun e=>h0 (by rw[<-Q1b ls,e];rfl)
 have htl:=trim_len ls
 have hln:=h.len
 obtain ⟨b,o,rfl⟩:∃b o,a=some ⟨b,o,none⟩:=by
  rcases (hT w (Below.refl _ _)).rd with e|⟨b,o,e,_⟩
  ·exact absurd e hne
  ·exact ⟨b,o,e⟩
 rw[htd] at hc hT htl
 obtain ⟨D,hD⟩:∃D,dig (2^64) (val (2^64) ls)=D:=⟨_,rfl⟩
 have hDl:Low (2^64) D:=hD ▸ Q22 (by decide) _
 have hD0:D≠[]:=by rw[<-hD,<-htd];exact hne
 rw[hD] at hc hT htl
 obtain ⟨i0,hi0,hz0,hz1,hz2⟩:∃i0:TypeInfo,Tryz.prog.info? 74=some i0/\i0.zero=some (.int .u64 0)/\i0.size=1/\i0.bytes=8:=by
  have:=Q4w
  cases hi:Tryz.prog.info? 74 with
  |none=>rw[hi] at this;cases this
  |some i0=>
   rw[hi] at this
   simp only[Option.map_some,Option.some.injEq,Prod.mk.injEq] at this
   exact ⟨i0,rfl,this.1,this.2.1,this.2.2⟩
 have hcl:=fun W (hW:WordsIn W (some ⟨b,o,none⟩) D.length c D)=>Tryz.Qyp i0 (.int .u64 0) 1 8 hi0 hz0 hz1 hz2 rfl (by decide) Qdj b o D.length c (D.map (nv .u64)) W (by simp) (by unfold maxLen;omega) (by omega) (fun j u hu=>by
  rw[List.getElem?_map] at hu
  cases hx:D[j]? with
  |none=>rw[hx] at hu;cases hu
  |some x=>
   rw[hx] at hu
   simp only[Option.map_some,Option.some.injEq] at hu
   subst hu
   obtain ⟨b',o',e,_,hc'⟩:=hW.rd.at_ hx
   injection e with e;injection e with e1 e2;subst e1 e2
   exact hc') (Qnr _ _)
 have HC:=Xh3 hc hT hcl
 have HD:=Lib.hid hD
 clear hc hT hcl htd hne h hi0 hz0 hz1 hz2 h0
 go_enter Tryz.func150,Tryz.ntmps150
 go_wp2_with (first
  |(go_at_call_of 143 (some ⟨b,o,none⟩:Option Addr);refine (Xo0 HC).mono ?_;rintro e w1 ⟨rfl,hb1⟩;have HB1:=Lib.hid hb1;clear hb1)
  |(refine ((Xe2 HC) _ ((Xo1 HC) _ HB1.out)).mono ?_;rintro e w2 ⟨v',rfl,hown,hnn,hb2⟩;have HB2:=Xh3 hown hnn hb2;clear hown hnn hb2))
 go_ret
 obtain ⟨_,⟨e,_⟩|⟨g,cap,cur,rfl,hg0,hg,hnc,hcm,hcs,htk⟩⟩:=(Xo0 HB2)
 ·exact absurd e (Xo1 HB2)
 ·refine ⟨_,_,_,rfl,?_,Below.next0 HB1.out (Xe2 HB2)⟩
  rw[HD.out]
  refine ⟨?_,.inr fun x hx=>by injection hx with hx;subst hx;exact Nat.le_trans HB1.out.size hg0⟩
  refine ⟨rfl,hnc,by simpa[maxLen] using hcm,hDl,.inr ⟨g,0,rfl,(Array.getElem?_eq_some_iff.1 hg).1,fun j x hx=>?_⟩⟩
  rw[cell_of_row _ _ _ _ _ _ hg,Nat.zero_add]
  have hj:j<D.length:=(List.getElem?_eq_some_iff.1 hx).1
  have h1:(cur.toList.take (D.length*1))[j]?=some (nv .u64 x):=by rw[htk,List.getElem?_map,hx];rfl
  rw[List.getElem?_take,if_pos (by omega),Array.getElem?_toList] at h1
  exact h1
theorem Qhu (a:Option Addr) (n c:Nat) (ls:List Nat) (w:World) (h:WordsIn w a n c ls) (hn:n<=100000) (h0:val (2^64) ls≠0):
 Calls Tryz.prog 150 #[.slice a n c] w (Qaj w (val (2^64) ls)):=(Qak a n c ls w h hn h0).mono fun _ _ h=>h.out
end Go.Proofs.YtdilmfakkppgpaaGreatDoor
