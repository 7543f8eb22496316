/- Part 9. No condition. -/
import Derived.Test.YtidojbkhlenahaaGreatDoorPkProblemBack08
set_option maxRecDepth 100000
set_option maxHeartbeats 16000000
namespace Go.Proofs.YtidojbkhlenahaaGreatDoor
open Go.RowKit WordsM
structure Q01 where
 neg:Bool
 exp:Int
 ws:LN
 es:List Int
def Q4n (w:World) (b o:Nat) (m:Q01):Prop:=∃aw lw cw ae le ce,w.cell? ⟨b,o,none⟩=some (.bool m.neg)/\w.cell? ⟨b,o+1,none⟩=some (.int .i64 m.exp)/\w.cell? ⟨b,o+2,none⟩=some (.slice aw lw cw)/\w.cell? ⟨b,o+3,none⟩=some (.slice ae le ce)/\
 WordsIn w aw lw cw m.ws/\Q0g w ae le ce m.es/\-9223372036854775808<=m.exp/\m.exp<=9223372036854775807
theorem Q4n.step {w w':World} {b o:Nat} {m:Q01} (h:Q4n w b o m) (hb:Bw w w') (E0:b<w.heap.size):Q4n w' b o m:=by
 obtain ⟨aw,lw,cw,ae,le,ce,h0,h1,h2,h3,h4,h5,h6⟩:=h;exact ⟨aw,lw,cw,ae,le,ce,(hb.cell (p:=⟨b,o,none⟩) E0).trans h0,(hb.cell (p:=⟨b,o+1,none⟩) E0).trans h1,(hb.cell (p:=⟨b,o+2,none⟩) E0).trans h2,(hb.cell (p:=⟨b,o+3,none⟩) E0).trans h3,h4.step hb,h5.step hb,h6⟩
def Q08 (w:World) (a:OA) (n c:Nat) (ms:List Q01):Prop:=
 ms.length=n/\n<=c/\c<=9223372036854775807/\(ms=[]∨∃b o,a=some ⟨b,o,none⟩/\b<w.heap.size/\∀j m,ms[j]?=some m->Q4n w b (o+j*4) m)
theorem Q08.step {w w':World} {a:OA} {n c:Nat} {ms:List Q01} (h:Q08 w a n c ms) (hb:Bw w w'):Q08 w' a n c ms:=by
 obtain ⟨h1,h2,h3,h4⟩:=h;refine ⟨h1,h2,h3,?_⟩;rcases h4 with h4|⟨b,o,h5,h6,h7⟩
 ·exact .inl h4
 ·exact .inr ⟨b,o,h5,Uc h6 hb.size,fun j m hm=>(h7 j m hm).step hb h6⟩
def Q01.term (m:Q01):Q0b:=(Q1p m.neg m.exp m.ws,m.es)
def OkM (k:Nat) (m:Q01):Prop:=(Q0x k m.es/\Q0a m.neg m.exp m.ws)/\m.ws≠[]
instance (k:Nat) (m:Q01):Decidable (OkM k m):=by unfold OkM;infer_instance
def Q1o (k:Nat) (ms:List Q01):Prop:=1<=k/\k<=4/\ms.length<=24/\(∀m∈ms,OkM k m)/\ms.Pairwise fun p q=>0<Q3j p.es q.es
def Q2y (Φ:Prop) (r:Ending):Prop:=∃b,r=.returned (.bool b)/\(b=true↔Φ)
theorem Q2y.yes {Φ:Prop} {r:Ending} (h:Φ) (hr:r=.returned (.bool true)):Q2y Φ r:=⟨true,hr,by simp[h]⟩
theorem Q2y.no {Φ:Prop} {r:Ending} (h:¬Φ) (hr:r=.returned (.bool false)):Q2y Φ r:=⟨false,hr,by simp[h]⟩
theorem Qbb:∀(ms:List Q01),(∀j p q,ms[j]?=some p->ms[j+1]?=some q->0<Q3j p.es q.es)->ms.Pairwise fun p q=>0<Q3j p.es q.es
 |[],_=>List.Pairwise.nil
 |[_],_=>List.pairwise_singleton _ _
 |p::q::r,h=>by
  have ih:=Qbb (q::r) (fun j x y hx hy=>h (j+1) x y hx hy);refine TJ.2 ⟨fun x hx=>?_,ih⟩;have h0:=h 0 p q rfl rfl;rcases Uy.1 hx with rfl|hx
  ·exact h0
  ·exact Q68 _ _ _ h0 ((TJ.1 ih).1 x hx)
theorem Q36 (a:OA) (n c:Nat) (ms:List Q01) (k:Nat) (w:World) (h:Q08 w a n c ms) (hk:k<=9223372036854775807):
 Calls Tryz.prog 51 #[.slice a n c,.int .i64 (k:Int)] w fun r w'=>Q2y (Q1o k ms) r/\Bw w w':=by
 have G3:=h.1;subst G3;have J3:=Un h.2.1 h.2.2.1;have HM:=Ub h;clear h
 go_enter Tryz.func51,Tryz.ntmps51
 go_wp2_with fail
 go_loopw [9] (fun iv wr=>∃i:Nat,iv=.int .i64 (i:Int)/\i<=ms.length/\(∀j m,j<i->ms[j]?=some m->OkM k m)/\(∀j p q,j+1<i->ms[j]?=some p->ms[j+1]?=some q->0<Q3j p.es q.es)/\Bw w wr) (fun iv _=>ms.length-(intOf iv).toNat)
 case atStart=>exact ⟨0,rfl,Ut _,fun j m h=>absurd h (TV _),fun j p q h=>absurd h (TV _),Ug _ _⟩
 case round=>
  obtain ⟨i,rfl,hi,P2,Vq,hb⟩:=hrel
  by_cases E0:i<ms.length
  ·have J0:(i:Int)<(ms.length:Int):=(by omega);obtain ⟨m,hm⟩:∃m,ms[i]?=some m:=⟨_,Ua E0⟩;obtain ⟨b0,o0,rfl,X1,Y1⟩:∃b o,a=some ⟨b,o,none⟩/\b<wr.heap.size/\∀j m,ms[j]?=some m->Q4n wr b (o+j*4) m:=by
    rcases (HM.out.step hb).2.2.2 with h0|h0
    ·rw[h0] at E0;simp at E0
    ·exact h0
   obtain ⟨aw,lw,cw,ae,le,ce,k0,k1,k2,k3,hw,he,R4,Z3⟩:=Y1 i m hm;have HA:=Xh7 P2 Vq hb hm Y1 hw he;clear P2 Vq hb hm Y1 hw he;have A2:=Ui wr (.cells #[.bool m.neg,.int .i64 m.exp,.slice aw lw cw,.slice ae le ce] 98);have Z2:Bw wr (wr.alloc (.cells #[.bool m.neg,.int .i64 m.exp,.slice aw lw cw,.slice ae le ce] 98)):=Ba;have hX:=Q34.new wr (.bool m.neg) (.int .i64 m.exp) (.slice aw lw cw) (.slice ae le ce) 98;generalize R1:wr.alloc (.cells #[.bool m.neg,.int .i64 m.exp,.slice aw lw cw,.slice ae le ce] 98)=W0 at A2 Z2 hX;have HX:=Ub (fun W (hW:Bw W0 W)=>hX.step hW (by omega));have HB0:=Ub (Below.next0 (Xo2 HA) Z2);have Ye:=fun W (hW:Bw W0 W)=>Qnw m.neg m.exp aw lw cw m.ws ae le ce m.es k W (((Xo5 HA).step Z2).step hW) (((Xe6 HA).step Z2).step hW) hk R4 Z3;have K0:=Ub Z2;clear hX Z2 A2;have Kr:=(Xo5 HA).len
   go_wp2_with fail
   by_cases B7:Q0x k m.es/\Q0a m.neg m.exp m.ws
   ·simp only[UQ B7] at Ye;have HMO:=Ub Ye
    by_cases hemp:m.ws=[]
    ·have hlw:((lw:Int)==0)=true:=(by rw[<-Kr,hemp];rfl);have E5:¬Q1o k ms:=fun h=>(h.2.2.2.1 m (Uf (Xo3 HA))).2 hemp;have HNO:=Ub E5;clear Ye B7 E5 Kr;refine Q0l (E:=Qeo) (fun w=>Ug _ w) (by kernel_rfl) (fun W=>Bw W0 W) (fun _ _ h h'=>Below.next0 h h') (Q56 [.agg #[.bool m.neg,.int .i64 m.exp,.slice aw lw cw,.slice ae le ce],.int .i64 (k:Int),.bool true,.bool false,.bool false,.pointer (some ⟨wr.heap.size,0,none⟩),.pointer (some ⟨wr.heap.size,2,none⟩),.slice aw lw cw,.int .i64 (lw:Int),.bool true,.bool true,.bool true,undef,undef,undef,undef,undef,undef,undef,undef,undef,undef,undef,undef,.bool true] (fun _=>none)) (Q0j (fun i φ h=>by cases h)) (Q3l (by kernel_rfl)) (by kernel_rfl) (Q04 W0) ?_ ?_
     ·skip
      repeat' (first|exact Qet|refine Qes ?_ ?_)
      all_goals first
       |exact Qym rfl rfl rfl
       |(refine Q3i rfl fun A W hW F0 hd hd=>?_
         simp[Qbq,Region.binds] at hd;have e6:=Q0d F0 6 (by kernel_rfl) rfl;have e1:=Q0d F0 1 (by kernel_rfl) rfl;obtain ⟨u0_0,u0_1,u0_2,u0_3,_,_,_,_⟩:=(HX.out W hW)
         first
         |(refine Q1m rfl rfl ?_;simp[go_sem,hd,e6,e1,u0_0,u0_1,u0_2,u0_3,hlw];done)
         |(refine Q8x rfl rfl ?_ ((HMO.out W hW));simp[go_sem,hd];done))
     intro vs W1 O2 D5;have v24:vs 24=.bool true:=(Q0f rfl).1 (D5 24 (by decide));simp only[Q0y,Act.put,Uu,UI,UF];rw[v24];have WB:=Ub (Below.next0 HB0.out O2);clear O2 D5 v24
     go_wp2_with fail
     go_ret;exact ⟨Q2y.no HNO.out rfl,WB.out⟩
    ·have hlw:((lw:Int)==0)=false:=by
      rw[<-Kr,Uk];intro e;exact hemp (UJ.1 (by omega))
     have hokm:OkM k m:=⟨B7,hemp⟩;have hok':∀j x,j<i+1->ms[j]?=some x->OkM k x:=fun j x hj hx=>by
      by_cases hji:j=i
      ·subst hji;have:=(Xo3 HA);rw[hx] at this;injection this with this;rw[this];exact hokm
      ·exact (Xo0 HA) j x (by omega) hx
     have HOK:=Ub hok';clear Ye B7 Kr hokm hok' hemp
     by_cases E2:i=0
     ·have hip:i=0:=E2;have S7:(∀j x,j<i+1->ms[j]?=some x->OkM k x)/\(∀j p q,j+1<i+1->ms[j]?=some p->ms[j+1]?=some q->0<Q3j p.es q.es):=⟨HOK.out,fun j p q hj=>by omega⟩;have QU:=Ub S7;clear S7;refine Q0l (E:=Qeo) (fun w=>Ug _ w) (by kernel_rfl) (fun W=>Bw W0 W) (fun _ _ h h'=>Below.next0 h h') (Q56 [.agg #[.bool m.neg,.int .i64 m.exp,.slice aw lw cw,.slice ae le ce],.int .i64 (k:Int),.bool true,.bool false,.bool false,.pointer (some ⟨wr.heap.size,0,none⟩),.pointer (some ⟨wr.heap.size,2,none⟩),.slice aw lw cw,.int .i64 (lw:Int),.bool false,.bool false,.bool false,.int .i64 (i:Int),.bool false,.bool false,undef,undef,undef,undef,undef,undef,undef,undef,.bool false,.bool false] (fun _=>none)) (Q0j (fun i φ h=>by cases h)) (Q3l (by kernel_rfl)) (by kernel_rfl) (Q04 W0) ?_ ?_
      ·skip
       repeat' (first|exact Qet|refine Qes ?_ ?_)
       all_goals first
        |exact Qym rfl rfl rfl
        |(refine Q3i rfl fun A W hW F0 hd hd=>?_
          simp[Qbq,Region.binds] at hd;have e6:=Q0d F0 6 (by kernel_rfl) rfl;have e1:=Q0d F0 1 (by kernel_rfl) rfl;have e5:=Q0d F0 5 (by kernel_rfl) rfl;obtain ⟨u0_0,u0_1,u0_2,u0_3,_,_,_,_⟩:=(HX.out W hW)
          first
          |(refine Q1m rfl rfl ?_;simp[go_sem,hd,e6,e1,e5,u0_0,u0_1,u0_2,u0_3,hlw,hip];done)
          |(refine Q8x rfl rfl ?_ ((HMO.out W hW));simp[go_sem,hd];done))
      intro vs W1 O2 D5;have v24:vs 24=.bool false:=(Q0f rfl).1 (D5 24 (by decide));simp only[Q0y,Act.put,Uu,UI,UF];rw[v24];have WB:=Ub (Below.next0 HB0.out O2);clear O2 D5 v24
      go_wp2_with fail
      refine ⟨⟨i+1,by simp only[Xbc,true_and];omega,by omega,(Xo0 QU),(Xe1 QU),WB.out⟩,by simp only[intOf];omega⟩
     ·have hip:0<i:=(by omega);obtain ⟨q,hq⟩:∃q,q+1=i:=⟨i-1,by omega⟩;have hiq:(i:Int)-1=(q:Int):=(by omega);have Xa:IntKind.i64.wrap (q:Int)=(q:Int):=(by rw[UN];omega);have hqn:(q:Int)<(ms.length:Int):=(by omega);obtain ⟨p,hp⟩:∃p,ms[q]?=some p:=⟨_,Ua (by omega)⟩;obtain ⟨pw,pl,pc,pe,pm,pd,z0,z1,z2,z3,D6,Q6,_,_⟩:=(Xo4 HA) q p hp;have HPC:=Ub (fun W (hW:Bw W0 W)=>And.intro (((Below.next0 K0.out hW).cell (p:=⟨b0,o0+q*4,none⟩) X1).trans z0) (And.intro (((Below.next0 K0.out hW).cell (p:=⟨b0,o0+q*4+1,none⟩) X1).trans z1) (And.intro (((Below.next0 K0.out hW).cell (p:=⟨b0,o0+q*4+2,none⟩) X1).trans z2) (((Below.next0 K0.out hW).cell (p:=⟨b0,o0+q*4+3,none⟩) X1).trans z3))));have HAH:=Ub (fun W (hW:Bw W0 W)=>Qt2 (.bool p.neg) (.int .i64 p.exp) (.slice pw pl pc) pe pm pd p.es (.bool m.neg) (.int .i64 m.exp) (.slice aw lw cw) ae le ce m.es W (Q6.step (Below.next0 K0.out hW)) ((Xe6 HA).step (Below.next0 K0.out hW)));have HPQ:=Xh2 hp hq;clear z0 z1 z2 z3 D6 Q6 hp hq
      by_cases C5:0<=Q3j m.es p.es
      ·have JS:decide (0<=Q3j m.es p.es)=true:=UQ C5;have E5:¬Q1o k ms:=fun h=>by
        have h5:=h.2.2.2.2;rw[List.pairwise_iff_getElem] at h5;have o6:=(Ul.1 (Xo0 HPQ));have KB:=(Ul.1 (Xo3 HA));have h6:=h5 q i o6.1 KB.1 (by have:=(Xe1 HPQ);omega);rw[o6.2,KB.2] at h6;have h7:=Q3t m.es p.es;omega
       have HNO:=Ub E5;clear E5 C5;refine Q0l (E:=Qeo) (fun w=>Ug _ w) (by kernel_rfl) (fun W=>Bw W0 W) (fun _ _ h h'=>Below.next0 h h') (Q56 [.agg #[.bool m.neg,.int .i64 m.exp,.slice aw lw cw,.slice ae le ce],.int .i64 (k:Int),.bool true,.bool false,.bool false,.pointer (some ⟨wr.heap.size,0,none⟩),.pointer (some ⟨wr.heap.size,2,none⟩),.slice aw lw cw,.int .i64 (lw:Int),.bool false,.bool false,.bool false,.int .i64 (i:Int),.bool true,.bool true,.slice (some ⟨b0,o0,none⟩) ms.length c,.int .i64 (i:Int),.int .i64 (q:Int),.pointer (some ⟨b0,o0+q*4,none⟩),.agg #[.bool p.neg,.int .i64 p.exp,.slice pw pl pc,.slice pe pm pd],.agg #[.bool m.neg,.int .i64 m.exp,.slice aw lw cw,.slice ae le ce],.int .i64 (Q3j m.es p.es),.bool true,.bool true,.bool true] (fun _=>none)) (Q0j (fun i φ h=>by cases h)) (Q3l (by kernel_rfl)) (by kernel_rfl) (Q04 W0) ?_ ?_
       ·skip
        repeat' (first|exact Qet|refine Qes ?_ ?_)
        all_goals
         refine Q3i rfl fun A W hW F0 hd hd=>?_;simp[Qbq,Region.binds] at hd;have e6:=Q0d F0 6 (by kernel_rfl) rfl;have e1:=Q0d F0 1 (by kernel_rfl) rfl;have e5:=Q0d F0 5 (by kernel_rfl) rfl;have e0:=Q0d F0 0 (by kernel_rfl) rfl;obtain ⟨u0_0,u0_1,u0_2,u0_3,_,_,_,_⟩:=(HX.out W hW);obtain ⟨u1_0,u1_1,u1_2,u1_3⟩:=HPC.out W hW
         first
         |(refine Q1m rfl rfl ?_;simp[go_sem,hd,e6,e1,e5,e0,u0_0,u0_1,u0_2,u0_3,hlw,hip,hiq,Xa,hqn,u1_0,u1_1,u1_2,u1_3,JS];done)
         |(refine Q8x rfl rfl ?_ ((HMO.out W hW));simp[go_sem,hd];done)
         |(refine Q8x rfl rfl ?_ ((HAH.out W hW));simp[go_sem,hd];done)
       intro vs W1 O2 D5;have v24:vs 24=.bool true:=(Q0f rfl).1 (D5 24 (by decide));simp only[Q0y,Act.put,Uu,UI,UF];rw[v24];have WB:=Ub (Below.next0 HB0.out O2);clear O2 D5 v24
       go_wp2_with fail
       go_ret;exact ⟨Q2y.no HNO.out rfl,WB.out⟩
      ·have JS:decide (0<=Q3j m.es p.es)=false:=Ta C5;have S7:(∀j x,j<i+1->ms[j]?=some x->OkM k x)/\(∀j p q,j+1<i+1->ms[j]?=some p->ms[j+1]?=some q->0<Q3j p.es q.es):=⟨HOK.out,fun j p' q' hj T8 hq'=>by
        by_cases hji:j=q
        ·subst hji;rw[(Xe1 HPQ)] at hq';have h1:=(Xo0 HPQ);rw[T8] at h1;have h2:=(Xo3 HA);rw[hq'] at h2;injection h1 with h1;injection h2 with h2;subst h1;subst h2;have h7:=Q3t q'.es p'.es;omega
        ·exact (Xo1 HA) j p' q' (by have:=(Xe1 HPQ);omega) T8 hq'⟩
       have QU:=Ub S7;clear S7 C5;refine Q0l (E:=Qeo) (fun w=>Ug _ w) (by kernel_rfl) (fun W=>Bw W0 W) (fun _ _ h h'=>Below.next0 h h') (Q56 [.agg #[.bool m.neg,.int .i64 m.exp,.slice aw lw cw,.slice ae le ce],.int .i64 (k:Int),.bool true,.bool false,.bool false,.pointer (some ⟨wr.heap.size,0,none⟩),.pointer (some ⟨wr.heap.size,2,none⟩),.slice aw lw cw,.int .i64 (lw:Int),.bool false,.bool false,.bool false,.int .i64 (i:Int),.bool true,.bool true,.slice (some ⟨b0,o0,none⟩) ms.length c,.int .i64 (i:Int),.int .i64 (q:Int),.pointer (some ⟨b0,o0+q*4,none⟩),.agg #[.bool p.neg,.int .i64 p.exp,.slice pw pl pc,.slice pe pm pd],.agg #[.bool m.neg,.int .i64 m.exp,.slice aw lw cw,.slice ae le ce],.int .i64 (Q3j m.es p.es),.bool false,.bool false,.bool false] (fun _=>none)) (Q0j (fun i φ h=>by cases h)) (Q3l (by kernel_rfl)) (by kernel_rfl) (Q04 W0) ?_ ?_
       ·skip
        repeat' (first|exact Qet|refine Qes ?_ ?_)
        all_goals
         refine Q3i rfl fun A W hW F0 hd hd=>?_;simp[Qbq,Region.binds] at hd;have e6:=Q0d F0 6 (by kernel_rfl) rfl;have e1:=Q0d F0 1 (by kernel_rfl) rfl;have e5:=Q0d F0 5 (by kernel_rfl) rfl;have e0:=Q0d F0 0 (by kernel_rfl) rfl;obtain ⟨u0_0,u0_1,u0_2,u0_3,_,_,_,_⟩:=(HX.out W hW);obtain ⟨u1_0,u1_1,u1_2,u1_3⟩:=HPC.out W hW
         first
         |(refine Q1m rfl rfl ?_;simp[go_sem,hd,e6,e1,e5,e0,u0_0,u0_1,u0_2,u0_3,hlw,hip,hiq,Xa,hqn,u1_0,u1_1,u1_2,u1_3,JS];done)
         |(refine Q8x rfl rfl ?_ ((HMO.out W hW));simp[go_sem,hd];done)
         |(refine Q8x rfl rfl ?_ ((HAH.out W hW));simp[go_sem,hd];done)
       intro vs W1 O2 D5;have v24:vs 24=.bool false:=(Q0f rfl).1 (D5 24 (by decide));simp only[Q0y,Act.put,Uu,UI,UF];rw[v24];have WB:=Ub (Below.next0 HB0.out O2);clear O2 D5 v24
       go_wp2_with fail
       refine ⟨⟨i+1,by simp only[Xbc,true_and];omega,by omega,(Xo0 QU),(Xe1 QU),WB.out⟩,by simp only[intOf];omega⟩
   ·simp only[Ta B7] at Ye;have HMO:=Ub Ye;have E5:¬Q1o k ms:=fun h=>B7 (h.2.2.2.1 m (Uf (Xo3 HA))).1;have HNO:=Ub E5;clear Ye B7 E5 Kr;refine Q0l (E:=Qeo) (fun w=>Ug _ w) (by kernel_rfl) (fun W=>Bw W0 W) (fun _ _ h h'=>Below.next0 h h') (Q56 [.agg #[.bool m.neg,.int .i64 m.exp,.slice aw lw cw,.slice ae le ce],.int .i64 (k:Int),.bool false,.bool true,.bool true,undef,undef,undef,undef,undef,.bool true,.bool true,undef,undef,undef,undef,undef,undef,undef,undef,undef,undef,undef,undef,.bool true] (fun _=>none)) (Q0j (fun i φ h=>by cases h)) (Q3l (by kernel_rfl)) (by kernel_rfl) (Q04 W0) ?_ ?_
    ·skip
     repeat' (first|exact Qet|refine Qes ?_ ?_)
     all_goals first
      |exact Qym rfl rfl rfl
      |(refine Q3i rfl fun A W hW F0 hd hd=>?_
        simp[Qbq,Region.binds] at hd;have e6:=Q0d F0 6 (by kernel_rfl) rfl;have e1:=Q0d F0 1 (by kernel_rfl) rfl;obtain ⟨u0_0,u0_1,u0_2,u0_3,_,_,_,_⟩:=(HX.out W hW)
        first
        |(refine Q1m rfl rfl ?_;simp[go_sem,hd,e6,e1,u0_0,u0_1,u0_2,u0_3];done)
        |(refine Q8x rfl rfl ?_ ((HMO.out W hW));simp[go_sem,hd];done))
    intro vs W1 O2 D5;have v24:vs 24=.bool true:=(Q0f rfl).1 (D5 24 (by decide));simp only[Q0y,Act.put,Uu,UI,UF];rw[v24];have WB:=Ub (Below.next0 HB0.out O2);clear O2 D5 v24
    go_wp2_with fail
    go_ret;exact ⟨Q2y.no HNO.out rfl,WB.out⟩
  ·obtain rfl:i=ms.length:=(by omega);have J0:¬((ms.length:Int)<(ms.length:Int)):=(by omega);have Y0:(∀m∈ms,OkM k m)/\ms.Pairwise fun p q=>0<Q3j p.es q.es:=⟨fun m hm=>by
    obtain ⟨j,hj⟩:=UV.1 hm;exact P2 j m (Ul.1 hj).1 hj,Qbb ms fun j p q hp hq=>Vq j p q (Ul.1 hq).1 hp hq⟩
   have HF:=Xh2 Y0 hb;clear Y0 hb P2 Vq
   by_cases k1:1<=k
   ·have k1':(1:Int)<=(k:Int):=by omega
    by_cases k4:k<=4
    ·have k4':(k:Int)<=4:=by omega
     by_cases l24:ms.length<=24
     ·have l24':(ms.length:Int)<=24:=by omega
      go_wp2_with fail
      go_ret;exact ⟨Q2y.yes ⟨k1,k4,l24,(Xo0 HF).1,(Xo0 HF).2⟩ rfl,(Xe1 HF)⟩
     ·have l24':¬(ms.length:Int)<=24:=by omega
      go_wp2_with fail
      go_ret;exact ⟨Q2y.no (fun h=>l24 h.2.2.1) rfl,(Xe1 HF)⟩
    ·have k4':¬(k:Int)<=4:=by omega
     go_wp2_with fail
     go_ret;exact ⟨Q2y.no (fun h=>k4 h.2.1) rfl,(Xe1 HF)⟩
   ·have k1':¬(1:Int)<=(k:Int):=by omega
    go_wp2_with fail
    go_ret;exact ⟨Q2y.no (fun h=>k1 h.1) rfl,(Xe1 HF)⟩
structure Q47 where
 neg:Bool
 exp:Int
 ws:LN
def Q47.ok (x:Q47):Prop:=Q0a x.neg x.exp x.ws
def Q47.val (x:Q47):Dyadic:=Q1p x.neg x.exp x.ws
structure Q0m (w:World) (a:OA) (l c:Nat) (x:Q47):Prop where
 lie:WordsIn w a l c x.ws
 lo: -9223372036854775808<=x.exp
 hi:x.exp<=9223372036854775807
theorem Q0m.step {w w':World} {a:OA} {l c:Nat} {x:Q47} (h:Q0m w a l c x) (hb:Bw w w'):Q0m w' a l c x:=⟨h.lie.step hb,h.lo,h.hi⟩
theorem Qpq (a:OA) (c:Nat) (w:World):
 Calls Tryz.prog 203 #[.slice a 0 c] w fun e w'=>∃a' c',e=.returned (.slice a' 0 c')/\WordsIn w' a' 0 c' []/\Bw w w':=by
 cases a with
 |none=>exact (Tryz.J4a 0 c w).mono fun e w' ⟨h1,h2⟩=>⟨none,0,h1,⟨rfl,Ue _,by decide,fun x hx=>by simp at hx,.inl rfl⟩,by rw[h2];exact Ug _ _⟩
 |some a=>
  obtain ⟨i0,hi,P1,G1,K1⟩:=Xbq Q4x;have JK:=fun W=>Lib.run_eql_slice_nil (P:=Tryz.prog) W 24 83 (some a) 0 c 0 0 Tryz.underlying24
  go_enter Tryz.func203,Tryz.ntmps203
  go_wp2_with (at_builtin;refine wpList_append_own _ rfl _ _ 24 rfl w.heap.size 83 i0 (.int .u64 0) 1 8 Tryz.underlying24 hi P1 G1 K1 rfl (by decide) _ _ _ rfl (World.ownsRow_made w #[] 0 (Ue _) (Ut _) rfl) a 0 c [] rfl rfl (by intro j u hj;simp at hj) (by intro u hu;cases hu) (by unfold maxLen;omega) (by omega) (by simp) ?_)
  intro v' w1 J4 K3 hnil';have HO:=Xh2 J4 (((Ug w.heap.size w).alloc (Ue _) _).grown K3 (by simp) (by intro k hk;simp[Value.ownBlock] at hk;omega));clear J4 K3 hnil'
  go_wp2_with fail
  go_ret;obtain ⟨_,⟨rfl,_⟩|⟨g,cap,cur,rfl,y8,hg,hnc,J3,G8,V5⟩⟩:=(Xo0 HO)
  ·exact ⟨_,_,rfl,⟨rfl,Ue _,by decide,fun x hx=>by simp at hx,.inl rfl⟩,(Xe1 HO)⟩
  ·exact ⟨_,_,rfl,⟨rfl,Ut _,by simpa[maxLen] using J3,fun x hx=>by simp at hx,.inl rfl⟩,(Xe1 HO)⟩
theorem Qt3 (a:OA) (c:Nat) (w:World) (h:WordsIn w a 0 c []):
 Calls Tryz.prog 146 #[.slice a 0 c] w fun e w'=>∃a' c',e=.returned (.slice a' 0 c')/\WordsIn w' a' 0 c' []/\Bw w w':=by
 have hc:=Q19 a 0 c [] w h;have h0:(trimL ([]:LN)).length=0:=rfl;rw[h0] at hc;have HC:=Ub hc;clear hc h h0
 go_enter Tryz.func146,Tryz.ntmps146
 go_wp2_with (first
  |(go_at_call 144;refine HC.out.mono ?_;rintro e w1 ⟨rfl,C0⟩;have K0:=Ub C0;clear C0)
  |(refine (Qpq a c w1).mono ?_;rintro e w2 ⟨a',c',rfl,hw,D0⟩;have H2:=Xh2 hw D0;clear hw D0))
 go_ret;exact ⟨a',c',rfl,(Xo0 H2),Below.next0 K0.out (Xe1 H2)⟩
theorem Qw1 (a:OA) (c:Nat) (w:World) (h:WordsIn w a 0 c []):
 Calls Tryz.prog 96 #[.agg #[.bool false,.int .i64 0,.slice a 0 c]] w fun r w'=>∃a' c',r=.returned (.agg #[.bool false,.int .i64 0,.slice a' 0 c'])/\WordsIn w' a' 0 c' []/\Bw w w':=by
 obtain ⟨P9,hX,hR,hB⟩:=Q8g w (.bool false) (.int .i64 0) (.slice a 0 c) (.bool false) (.int .i64 0) (.slice none 0 0) 26 26;generalize hW:(w.alloc (.cells #[.bool false,.int .i64 0,.slice a 0 c] 26)).alloc (.cells #[.bool false,.int .i64 0,.slice none 0 0] 26)=W at hX hR hB P9;have A2:w.heap.size+1<W.heap.size:=by omega
 clear P9;have Qx:=Q11 false 0 a 0 c [] W (h.step hB) (by omega) (by omega) (by omega);rw[UQ (show Q0a false 0 [] by unfold Q0a;simp)] at Qx;have Qm:∀W2,Bw w W2->Calls Tryz.prog 146 #[.slice a 0 c] W2 fun r w'=>∃a' c',r=.returned (.slice a' 0 c')/\WordsIn w' a' 0 c' []/\Bw W2 w':=fun W2 hb=>Qt3 a c W2 (h.step hb);have HR:=Xh6 hX hR hB Qx Qm A2;obtain ⟨xc0,xc1,xc2⟩:=hX.cc;clear hX hR hB Qx Qm A2 h
 go_enter Tryz.func96,Tryz.ntmps96
 go_wp2_with (first
  |(go_at_call_of 53 (Value.bool false);refine (Xo3 HR).mono ?_;rintro r w1 ⟨rfl,C0⟩;have X6:=(Xo0 HR).step C0 (by have:=(Xe5 HR);omega);obtain ⟨uc0,uc1,uc2⟩:=X6.cc;have HA:=Xh2 C0 (Below.next0 (Xo2 HR) C0);clear X6 C0)
  |(go_at_call_of 146 a;refine ((Xo4 HR) w1 (Xe1 HA)).mono ?_;rintro r w2 ⟨a',c',rfl,I4,D0⟩;have E0:=(Xe5 HR);have U6:=Below.next0 (Xo0 HA) D0;have V4:=(Xo0 HR).step U6 (by omega);have L7:=(Xo1 HR).step U6 E0;
    have yc2:=V4.c2;have yf2:=V4.f2;have QW:=V4.set2 (.slice a' 0 c');have P5:=L7.far (p:=⟨w.heap.size,2,none⟩) (by show w.heap.size≠w.heap.size+1;omega) (.slice a' 0 c');obtain ⟨zc0,zc1,zc2⟩:=QW.cc;obtain ⟨rc0,rc1,rc2,rf0,rf1,rf2⟩:=P5.cf;have rd1:=P5.d1 (.bool false);have rd2:=P5.d2 (.bool false) (.int .i64 0);have g7:=WordsIn.set1 I4 V4.c2 (fun _=>by simp[nv]) (.slice a' 0 c');have HM:=Xh3 g7 P5 ((Below.next0 (Xo2 HR) U6).setCell (p:=⟨w.heap.size,2,none⟩) (Ue _) (.slice a' 0 c'));clear V4 L7 QW P5 g7 D0 U6 I4))
 have hS:=(Xo1 HM).store (.bool false) (.int .i64 0) (.slice a' 0 c');obtain ⟨k0,k1,k2⟩:=hS.cc;have Q3:=Q03.below (Xe2 HM) (show w.heap.size<=w.heap.size+1 by omega) (.bool false) (.int .i64 0) (.slice a' 0 c');have V8:=(Xo0 HM).set3 (Xo1 HM) (.bool false) (.int .i64 0) (.slice a' 0 c');exact ⟨rfl,.agg #[.bool false,.int .i64 0,.slice a' 0 c'],by simp[results,go_sem,k0,k1,k2],a',c',rfl,V8,Q3⟩
theorem Qyr (n:Bool) (e:Int) (a:OA) (l c:Nat) (L:LN) (w:World) (h:WordsIn w a l c L) (hi:Q0a n e L):
 Calls Tryz.prog 96 #[.agg #[.bool n,.int .i64 e,.slice a l c]] w fun r w'=>∃a' l' c',r=.returned (.agg #[.bool n,.int .i64 e,.slice a' l' c'])/\WordsIn w' a' l' c' L/\Bw w w':=by
 by_cases h0:L=[]
 ·subst h0;obtain rfl:l=0:=h.len.symm;obtain ⟨rfl,rfl⟩:n=false/\e=0:=by unfold Q0a at hi;simpa using hi
  exact (Qw1 a c w h).mono fun r w' ⟨a',c',h1,h2,h3⟩=>⟨a',0,c',h1,h2,h3⟩
 ·exact (Qls n e a l c L w h hi h0).mono fun r w' ⟨a',l',c',h1,h2,h3⟩=>⟨a',l',c',h1,h2.toWordsIn,h3⟩
theorem Qlz (n:Bool) (e:Int) (a:OA) (l c:Nat) (L:LN) (w:World) (h:WordsIn w a l c L) (hi:Q0a n e L):
 Calls Tryz.prog 54 #[.agg #[.bool n,.int .i64 e,.slice a l c]] w fun r w'=>r=.returned (.int .i64 (Qap n (val (2^64) L)))/\Bw w w':=by
 have X1:Bw w (w.alloc (.cells #[.bool n,.int .i64 e,.slice a l c] 26)):=Ba;have hN:=Q03.new w (.bool n) (.int .i64 e) (.slice a l c) 26;have YB:=Qyr n e a l c L _ (h.step X1) hi;have Y8:=Qdd h hi;obtain ⟨sg,D3⟩:∃s,Qap n (val (2^64) L)=s:=⟨_,rfl⟩;obtain ⟨k0,k1,k2⟩:=hN.cc;have hl:=h.len;have HO:=Xh5 YB X1 Y8 D3 hl;rw[D3];clear YB X1 hN h hi Y8 D3 hl
 go_enter Tryz.func54,Tryz.ntmps54
 go_wp2_with (first
  |(go_at_call_of 96 (Value.agg #[.bool n,.int .i64 e,.slice a l c]);refine (Xo0 HO).mono ?_;rintro r w1 ⟨a',l',c',rfl,hw,C0⟩
    have hl':l'=l:=(by rw[<-hw.len];exact (Xe4 HO));have hg:=Q3v n e a' l' c' L w1 hw (by have:=(Xo2 HO).1;omega);have J5:Calls Tryz.prog 95 #[.agg #[.bool n,.int .i64 e,.slice a' l' c']] w1 fun r w'=>r=.returned (.int .i64 sg)/\Bw w1 w':=(by rw[<-(Xo3 HO)];exact hg);have H1:=Xh2 J5 (Below.next0 (Xo1 HO) C0);clear hw C0 hg J5 hl')
  |(refine (Xo0 H1).mono ?_;rintro r w2 ⟨rfl,D0⟩;have H2:=Ub (Below.next0 (Xe1 H1) D0);clear D0))
 go_ret;exact ⟨rfl,H2.out⟩
def Q8j (x:Q47):Prop:=x.ok/\Qgq x.val
theorem Qt4 {n:Bool} {e:Int} {L:LN} {w:World} {a:OA} {l c:Nat} (h:WordsIn w a l c L) (hi:Q0a n e L):0<Qap n (val (2^64) L)↔Qgq (Q1p n e L):=by
 have hz:=Q45 hi h.low;unfold Qgq;unfold Q1p at*;rw[Q9r];unfold Qap
 by_cases h0:val (2^64) L=0
 ·rw[Us h0];have:dy (sgn n (val (2^64) L)) e=0:=by rw[h0,Q2u];rfl
  exact ⟨fun h=>absurd h (by decide),fun h=>absurd this h.1⟩
 ·rw[Up h0];have Q0:dy (sgn n (val (2^64) L)) e≠0:=fun e=>by rw[hz.1 e] at h0;exact h0 rfl
  generalize hv:val (2^64) L=v at*;cases n
  ·have:¬((sgn false v:Int)<0):=(by simp[sgn]);simp[this,Q0]
  ·have:(sgn true v:Int)<0:=(by simp[sgn];omega);simp[this]
theorem Qdg (x:Q47) (a:OA) (l c:Nat) (w:World) (h:Q0m w a l c x):
 Calls Tryz.prog 20 #[.agg #[.bool x.neg,.int .i64 x.exp,.slice a l c]] w fun r w'=>Q2y (Q8j x) r/\Bw w w':=by
 obtain ⟨n,e,L⟩:=x;obtain ⟨hw,i4,Qd⟩:=h;simp only at hw i4 Qd⊢;have X1:Bw w (w.alloc (.cells #[.bool n,.int .i64 e,.slice a l c] 26)):=Ba;have hN:=Q03.new w (.bool n) (.int .i64 e) (.slice a l c) 26;have E0:=Q0h w (.cells #[.bool n,.int .i64 e,.slice a l c] 26);have J3:=Un hw.cap hw.most;have Qx:=Q11 n e a l c L _ (hw.step X1) i4 Qd J3;obtain ⟨k0,k1,k2⟩:=hN.cc
 by_cases hi:Q0a n e L
 case neg=>
  rw[Ta hi] at Qx;have HR:=Xh3 Qx X1 hi;clear Qx X1 hN hw hi E0
  go_enter Tryz.func20,Tryz.ntmps20
  go_wp2_with (go_at_call 53;refine (Xo0 HR).mono ?_;rintro r w1 ⟨rfl,C0⟩;have H1:=Ub C0;clear C0)
  go_ret;exact ⟨Q2y.no (fun h=>(Xe2 HR) h.1) rfl,Below.next0 (Xo1 HR) H1.out⟩
 case pos=>
 rw[UQ hi] at Qx;have D3:=fun W (hb:Bw w W)=>Qlz n e a l c L W (hw.step hb) hi;have Kv:=Qt4 hw hi;obtain ⟨s,hs⟩:∃s,Qap n (val (2^64) L)=s:=⟨_,rfl⟩;rw[hs] at Kv;simp only[hs] at D3;have HR:=Xh7 Qx X1 D3 hi Kv hN E0;clear Qx X1 hN hw D3 Kv hs E0
 by_cases h0:0<s
 all_goals
  go_enter Tryz.func20,Tryz.ntmps20
  go_wp2_with (first
   |(go_at_call 53;refine (Xo0 HR).mono ?_;rintro r w1 ⟨rfl,C0⟩;have J2:=(Xo5 HR).step C0 (Xe6 HR);obtain ⟨k0,k1,k2⟩:=J2.cc;have H1:=Ub (Below.next0 (Xo1 HR) C0);clear C0 J2)
   |(refine ((Xo2 HR) w1 H1.out).mono ?_;rintro r w2 ⟨rfl,D0⟩;have H2:=Ub (Below.next0 H1.out D0);clear D0))
  go_ret
 ·exact ⟨Q2y.yes ⟨(Xo3 HR),(Xo4 HR).1 h0⟩ rfl,H2.out⟩
 ·exact ⟨Q2y.no (fun h=>absurd ((Xo4 HR).2 h.2) (by omega)) (by rw[Ta (show¬0<s by omega)];rfl),H2.out⟩
theorem Qpr (x y:Q47) (a b:OA) (l c m d:Nat) (w:World) (h1:Q0m w a l c x) (h2:Q0m w b m d y) (i1:x.ok) (i2:y.ok):
 Calls Tryz.prog 21 #[.agg #[.bool x.neg,.int .i64 x.exp,.slice a l c],.agg #[.bool y.neg,.int .i64 y.exp,.slice b m d]] w fun r w'=>(∃s,r=.returned (.int .i64 s)/\Q77 s x.val y.val)/\Bw w w':=by
 obtain ⟨nx,ex,ls⟩:=x;obtain ⟨ny,ey,ks⟩:=y;obtain ⟨G4,O8,X8⟩:=h1;obtain ⟨D6,Zu,Zq⟩:=h2;simp only[Q47.ok,Q47.val] at*;obtain ⟨W0,R1⟩:∃W0,(w.alloc (.cells #[.bool nx,.int .i64 ex,.slice a l c] 26)).alloc (.cells #[.bool ny,.int .i64 ey,.slice b m d] 26)=W0:=⟨_,rfl⟩;have hQ:Qt1 w W0 nx ex a l c ls ny ey b m d ks:=by rw[<-R1];exact Qt1.new G4 D6 _ _
 have O1:=Un G4.cap G4.most;have E1:=Un D6.cap D6.most;have HC:=Ub (fun W (hW:Bw W0 W)=>And.intro (hQ.step hW) (And.intro (Q11 nx ex a l c ls W (hQ.step hW).wx O8 X8 O1) (And.intro (Q11 ny ey b m d ks W (hQ.step hW).wy Zu Zq E1) (Qba nx ex a l c ls ny ey b m d ks W (hQ.step hW).wx (hQ.step hW).wy i1 i2))));have HI:=Xh2 (UQ i1) (UQ i2);have x0:=hQ.x.c0;have x1:=hQ.x.c1;have x2:=hQ.x.c2;have y0:=hQ.y.c0;have y1:=hQ.y.c1;have y2:=hQ.y.c2;clear hQ G4 D6 i1 i2
 go_enter Tryz.func21,Tryz.ntmps21
 go_upto_region 1 with fail
 clear R1
 go_wp2_with (first
  |(go_at_call 55;refine (HC.out w2 H2.out).2.2.2.mono ?_;rintro e w3 ⟨⟨s,rfl,hs⟩,G0⟩;have H3:=Xh2 hs G0;clear hs G0)
  |(go_at_call_of 53 (Value.agg #[.bool ny,.int .i64 ey,.slice b m d]);refine (HC.out w1 H1.out).2.2.1.mono ?_;rintro e w2 ⟨rfl,D0⟩;rw[(Xe1 HI)];have H2:=Ub (Below.next0 H1.out D0);have hq:=(HC.out w2 H2.out).1;have x0:=hq.x.c0;have x1:=hq.x.c1;have x2:=hq.x.c2;have y0:=hq.y.c0;have y1:=hq.y.c1;have y2:=hq.y.c2;clear hq D0)
  |(go_at_call_of 53 (Value.agg #[.bool nx,.int .i64 ex,.slice a l c]);refine (HC.out W0 (Ug _ _)).2.1.mono ?_;rintro e w1 ⟨rfl,C0⟩;rw[(Xo0 HI)];have H1:=Ub C0;have hq:=(HC.out w1 C0).1;have x0:=hq.x.c0;have x1:=hq.x.c1;have x2:=hq.x.c2;have y0:=hq.y.c0;have y1:=hq.y.c1;have y2:=hq.y.c2;clear hq C0))
 go_ret;exact ⟨⟨s,rfl,(Xo0 H3)⟩,Below.next0 (Below.next0 (HC.out W0 (Ug _ _)).1.bel H2.out) (Xe1 H3)⟩
theorem Q8z (n lo hi:Int) (w:World):Calls Tryz.prog 22 #[.int .i64 n,.int .i64 lo,.int .i64 hi] w fun r w'=>r=.returned (.bool (decide (lo<=n/\n<=hi)))/\Bw w w':=by
 by_cases h1:lo<=n <;> by_cases h2:n<=hi
 all_goals
  go_enter Tryz.func22,Tryz.ntmps22
  go_wp2_with fail
  go_ret;exact ⟨by simp[h1,h2] <;> omega,Ug _ _⟩
theorem Qw2 (u0 u1 u2:Value) (b:OA) (m d:Nat) (E:List Int) (w:World) (hE:Q0g w b m d E) (hr:Q0x m E):
 Calls Tryz.prog 285 #[.agg #[u0,u1,u2,.slice b m d]] w fun r w'=>r=.returned (.int .i64 E.sum)/\Bw w w':=by
 have C0:Bw w (w.alloc (.cells #[u0,u1,u2,.slice b m d] 98)):=Ba;have hX:=Q34.new w u0 u1 u2 (.slice b m d) 98;generalize hW:w.alloc (.cells #[u0,u1,u2,.slice b m d] 98)=W at C0 hX;have KC:=hX.c3;have G3:=hE.len;subst G3;have J3:=Un hE.cap hE.most;have HC:=Xh3 (hE.rd.below C0) C0 hr;clear C0 hX hE hr
 go_enter Tryz.func285,Tryz.ntmps285
 go_wp2_with fail
 go_loopw [3,9] (fun sv iv wr=>∃(i:Nat) (s:Int),sv=.int .i64 s/\iv=.int .i64 (i:Int)/\i<=E.length/\(E.take i).sum=s/\0<=s/\s<=8/\W=wr) (fun _ iv _=>E.length-(intOf iv).toNat)
 case atStart=>exact ⟨0,0,rfl,rfl,Ut _,by simp,by decide,by decide,rfl⟩
 case round=>
  obtain ⟨i,s,rfl,rfl,hi,hs,Xr,Vk,rfl⟩:=hrel
  by_cases E0:i<E.length
  ·have J0:(i:Int)<(E.length:Int):=(by omega);obtain ⟨x,hx⟩:∃x,E[i]?=some x:=⟨_,Ua E0⟩;obtain ⟨ba,oa,U5,J1,u5⟩:=(Xo0 HC).at_ hx;subst U5;have WX:=Q2g (Xe2 HC) x (Uf hx);have ZV:=Qh1 hx;have ht:=(Qc0 (Xo3 HC) (i+1)).2;have h8:=(Xe4 HC);have HS:=Xh4 hs ZV ht h8;clear hs ZV hx ht h8
   go_wp2_with fail
   refine ⟨⟨i+1,s+x,rfl,by simp,by omega,by rw[(Xo1 HS),(Xo0 HS)],by omega,?_,trivial⟩,by simp only[intOf];omega⟩;have h1:=(Xo0 HS);have h2:=(Xo1 HS);have h3:=(Xo2 HS);have h4:=(Xe3 HS);omega
  ·obtain rfl:i=E.length:=(by omega);have J0:¬((E.length:Int)<(E.length:Int)):=(by omega);rw[Tn] at hs;subst hs
   go_wp2_with fail
   go_ret;exact ⟨rfl,(Xo1 HC)⟩
def Q1g (w:World) (a:OA) (n c:Nat) (F:List (List Q01)):Prop:=
 F.length=n/\n<=c/\c<=9223372036854775807/\(F=[]∨∃b o,a=some ⟨b,o,none⟩/\b<w.heap.size/\∀j ms,F[j]?=some ms->∃p l d,w.cell? ⟨b,o+j,none⟩=some (.slice p l d)/\Q08 w p l d ms)
theorem Q1g.step {w w':World} {a:OA} {n c:Nat} {F:List (List Q01)} (h:Q1g w a n c F) (hb:Bw w w'):Q1g w' a n c F:=by
 obtain ⟨h1,h2,h3,h4⟩:=h;refine ⟨h1,h2,h3,?_⟩;rcases h4 with h4|⟨b,o,h5,h6,h7⟩
 ·exact .inl h4
 ·refine .inr ⟨b,o,h5,Uc h6 hb.size,fun j ms hm=>?_⟩;obtain ⟨p,l,d,h8,h9⟩:=h7 j ms hm;exact ⟨p,l,d,(hb.cell (p:=⟨b,o+j,none⟩) h6).trans h8,h9.step hb⟩
def Q2j (F:List (List Q01)):Prop:=1<=F.length/\F.length<=4/\∀ms∈F,Q1o F.length ms
theorem Q8k (a:OA) (n c:Nat) (F:List (List Q01)) (w:World) (h:Q1g w a n c F):
 Calls Tryz.prog 18 #[.slice a n c] w fun r w'=>Q2y (Q2j F) r/\Bw w w':=by
 have G3:=h.1;subst G3;have J3:=Un h.2.1 h.2.2.1;have HM:=Ub h;clear h
 go_enter Tryz.func18,Tryz.ntmps18
 go_wp2_with fail
 go_loopw [7] (fun iv wr=>∃i:Nat,iv=.int .i64 (i:Int)/\i<=F.length/\(∀j ms,j<i->F[j]?=some ms->Q1o F.length ms)/\Bw w wr) (fun iv _=>F.length-(intOf iv).toNat)
 case atStart=>exact ⟨0,rfl,Ut _,fun j m h=>absurd h (TV _),Ug _ _⟩
 case round=>
  obtain ⟨i,rfl,hi,P2,hb⟩:=hrel
  by_cases E0:i<F.length
  ·have J0:(i:Int)<(F.length:Int):=(by omega);obtain ⟨ms,hm⟩:∃ms,F[i]?=some ms:=⟨_,Ua E0⟩;obtain ⟨b0,o0,rfl,X1,Y1⟩:∃b o,a=some ⟨b,o,none⟩/\b<wr.heap.size/\∀j ms,F[j]?=some ms->∃p l d,wr.cell? ⟨b,o+j,none⟩=some (.slice p l d)/\Q08 wr p l d ms:=by
    rcases (HM.out.step hb).2.2.2 with h0|h0
    ·rw[h0] at E0;simp at E0
    ·exact h0
   obtain ⟨p,l,d,u5,N6⟩:=Y1 i ms hm;have Je:=Q36 p l d ms F.length wr N6 J3;have HA:=Xh4 P2 hb hm Je;clear P2 hb hm Je Y1 N6
   by_cases hr:Q1o F.length ms
   ·have Je:Calls Tryz.prog 51 #[.slice p l d,.int .i64 (F.length:Int)] wr fun r w'=>r=.returned (.bool true)/\Bw wr w':=(Xe3 HA).mono (by
     rintro r w' ⟨⟨b,rfl,E4⟩,B4⟩;rw[E4.2 hr];exact ⟨rfl,B4⟩)
    have HR:=Xh2 Je hr;clear Je hr
    go_wp2_with (refine (Xo0 HR).mono ?_;rintro r w1 ⟨rfl,C0⟩;have K0:=Ub C0;clear C0)
    refine ⟨⟨i+1,by simp,by omega,fun j x hj hx=>?_,Below.next0 (Xo1 HA) K0.out⟩,by simp only[intOf];omega⟩
    by_cases hji:j=i
    ·subst hji;have:=(Xo2 HA);rw[hx] at this;injection this with this;rw[this];exact (Xe1 HR)
    ·exact (Xo0 HA) j x (by omega) hx
   ·have Je:Calls Tryz.prog 51 #[.slice p l d,.int .i64 (F.length:Int)] wr fun r w'=>r=.returned (.bool false)/\Bw wr w':=(Xe3 HA).mono (by
     rintro r w' ⟨⟨b,rfl,E4⟩,B4⟩;cases b
     ·exact ⟨rfl,B4⟩
     ·exact absurd (E4.1 rfl) hr)
    have E5:¬Q2j F:=fun h=>hr (h.2.2 ms (Uf (Xo2 HA)));have HR:=Xh2 Je E5;clear Je hr E5
    go_wp2_with (refine (Xo0 HR).mono ?_;rintro r w1 ⟨rfl,C0⟩;have K0:=Ub C0;clear C0)
    go_ret;exact ⟨Q2y.no (Xe1 HR) rfl,Below.next0 (Xo1 HA) K0.out⟩
  ·obtain rfl:i=F.length:=(by omega);have J0:¬((F.length:Int)<(F.length:Int)):=(by omega);have Y0:∀ms∈F,Q1o F.length ms:=fun m hm=>by
    obtain ⟨j,hj⟩:=UV.1 hm;exact P2 j m (Ul.1 hj).1 hj
   have HF:=Xh2 Y0 hb;clear Y0 hb P2
   by_cases k1:1<=F.length
   ·have k1':(1:Int)<=(F.length:Int):=by omega
    by_cases k4:F.length<=4
    ·have k4':(F.length:Int)<=4:=by omega
     go_wp2_with fail
     go_ret;exact ⟨Q2y.yes ⟨k1,k4,(Xo0 HF)⟩ rfl,(Xe1 HF)⟩
    ·have k4':¬(F.length:Int)<=4:=by omega
     go_wp2_with fail
     go_ret;exact ⟨Q2y.no (fun h=>k4 h.2.1) rfl,(Xe1 HF)⟩
   ·have k1':¬(1:Int)<=(F.length:Int):=by omega
    go_wp2_with fail
    go_ret;exact ⟨Q2y.no (fun h=>k1 h.1) rfl,(Xe1 HF)⟩
theorem yn {f:FuncId} {args:Array Value} {w:World} {Φ:Prop} {R:World->Prop} (h:Calls Tryz.prog f args w fun r w'=>Q2y Φ r/\R w'):∃b,(b=true↔Φ)/\Calls Tryz.prog f args w fun r w'=>r=.returned (.bool b)/\R w':=by
 classical
 refine ⟨decide Φ,by simp,h.mono ?_⟩;rintro r w' ⟨⟨b,rfl,hb⟩,hR⟩;refine ⟨?_,hR⟩;cases b
 ·rw[Ta fun h=>by simpa using hb.2 h]
 ·rw[UQ (hb.1 rfl)]
theorem Q2y.of {Φ:Prop} {b:Bool} {r:Ending} (h:b=true↔Φ) (hr:r=.returned (.bool b)):Q2y Φ r:=⟨b,hr,h⟩
def Q3w (w:World) (b:Nat) (vs:LV):Prop:=∀i v,vs[i]?=some v->w.cell? ⟨b,i,none⟩=some v
theorem Q3w.new (w:World) (vs:LV) (T:TypeId):Q3w (w.alloc (.cells vs.toArray T)) w.heap.size vs:=fun i v h=>by
 rw[Uv _ _ _ _ _ _ (Um _ _)];simpa using h
theorem Q3w.step {w w':World} {b B:Nat} {vs:LV} (h:Q3w w b vs) (hb:Below B w w') (hB:b<B):Q3w w' b vs:=fun i v hi=>(hb.cell (p:=⟨b,i,none⟩) hB).trans (h i v hi)
structure IvV where
 lo:Q47
 hi:Q47
def IvV.ok (x:IvV):Prop:=x.lo.ok/\x.hi.ok/\Qer x.lo.val x.hi.val
theorem Qm0 (x:IvV) (a b:OA) (l c m d:Nat) (w:World) (h1:Q0m w a l c x.lo) (h2:Q0m w b m d x.hi):
 Calls Tryz.prog 52 #[.agg #[.bool x.lo.neg,.int .i64 x.lo.exp,.slice a l c,.bool x.hi.neg,.int .i64 x.hi.exp,.slice b m d]] w fun r w'=>Q2y x.ok r/\Bw w w':=by
 obtain ⟨⟨nx,ex,ls⟩,⟨ny,ey,ks⟩⟩:=x;obtain ⟨G4,O8,X8⟩:=h1;obtain ⟨D6,Zu,Zq⟩:=h2;simp only at G4 O8 X8 D6 Zu Zq⊢;have O1:=Un G4.cap G4.most;have E1:=Un D6.cap D6.most;have hC:=Q3w.new w [.bool nx,.int .i64 ex,.slice a l c,.bool ny,.int .i64 ey,.slice b m d] 44;have X1:Bw w (w.alloc (.cells #[.bool nx,.int .i64 ex,.slice a l c,.bool ny,.int .i64 ey,.slice b m d] 44)):=Ba;have E0:=Q0h w (.cells #[.bool nx,.int .i64 ex,.slice a l c,.bool ny,.int .i64 ey,.slice b m d] 44);obtain ⟨W0,R1⟩:∃W0,w.alloc (.cells #[.bool nx,.int .i64 ex,.slice a l c,.bool ny,.int .i64 ey,.slice b m d] 44)=W0:=⟨_,rfl⟩;rw[R1] at X1 E0
 change Q3w (w.alloc (.cells #[.bool nx,.int .i64 ex,.slice a l c,.bool ny,.int .i64 ey,.slice b m d] 44)) _ _ at hC
 rw[R1] at hC;have HC:=Ub (fun W (hW:Bw W0 W)=>have hb:=Below.next0 X1 hW;And.intro (hC.step hW E0) (And.intro (Q11 nx ex a l c ls W (G4.step hb) O8 X8 O1) (And.intro (Q11 ny ey b m d ks W (D6.step hb) Zu Zq E1) (fun i1 i2=>Qba nx ex a l c ls ny ey b m d ks W (G4.step hb) (D6.step hb) i1 i2))));have HB:=Ub X1;have k0:=hC 0 _ rfl;have k1:=hC 1 _ rfl;have k2:=hC 2 _ rfl;have k3:=hC 3 _ rfl;have k4:=hC 4 _ rfl;have k5:=hC 5 _ rfl;clear hC X1 E0 G4 D6;obtain ⟨p1,QM⟩:∃p,decide (Q0a nx ex ls)=p:=⟨_,rfl⟩;obtain ⟨p2,JF⟩:∃p,decide (Q0a ny ey ks)=p:=⟨_,rfl⟩;have HP:=Xh2 QM JF;clear QM JF;cases p1
 case false=>
  go_enter Tryz.func52,Tryz.ntmps52
  go_upto_region 1 with fail
  clear R1
  go_wp2_with (go_at_call 53;refine (HC.out W0 (Ug _ _)).2.1.mono ?_;rintro e w1 ⟨rfl,C0⟩;rw[(Xo0 HP)];have H1:=Ub C0;clear C0)
  go_ret;exact ⟨Q2y.no (fun h=>of_decide_eq_false (Xo0 HP) h.1) rfl,Below.next0 HB.out H1.out⟩
 cases p2
 case false=>
  go_enter Tryz.func52,Tryz.ntmps52
  go_upto_region 1 with fail
  clear R1
  go_wp2_with (first
   |(go_at_call_of 53 (Value.agg #[.bool ny,.int .i64 ey,.slice b m d]);refine (HC.out w1 H1.out).2.2.1.mono ?_;rintro e w2 ⟨rfl,D0⟩;rw[(Xe1 HP)];have H2:=Ub (Below.next0 H1.out D0);clear D0)
   |(go_at_call_of 53 (Value.agg #[.bool nx,.int .i64 ex,.slice a l c]);refine (HC.out W0 (Ug _ _)).2.1.mono ?_;rintro e w1 ⟨rfl,C0⟩;rw[(Xo0 HP)];have H1:=Ub C0;have hq:=(HC.out w1 C0).1;have k0:=hq 0 _ rfl;have k1:=hq 1 _ rfl;have k2:=hq 2 _ rfl;have k3:=hq 3 _ rfl;have k4:=hq 4 _ rfl;have k5:=hq 5 _ rfl;clear hq C0))
  go_ret;exact ⟨Q2y.no (fun h=>of_decide_eq_false (Xe1 HP) h.2.1) rfl,Below.next0 HB.out H2.out⟩
 have HI:=Xh2 (Xa0 (Xo0 HP)) (Xa0 (Xe1 HP))
 go_enter Tryz.func52,Tryz.ntmps52
 go_upto_region 1 with fail
 clear R1
 go_wp2_with (first
  |(go_at_call 55;refine ((HC.out w2 H2.out).2.2.2 (Xo0 HI) (Xe1 HI)).mono ?_;rintro e w3 ⟨⟨s,rfl,hs⟩,G0⟩;have H3:=Xh2 hs (Below.next0 H2.out G0);clear hs G0)
  |(go_at_call_of 53 (Value.agg #[.bool ny,.int .i64 ey,.slice b m d]);refine (HC.out w1 H1.out).2.2.1.mono ?_;rintro e w2 ⟨rfl,D0⟩;rw[(Xe1 HP)];have H2:=Ub (Below.next0 H1.out D0);have hq:=(HC.out w2 H2.out).1;have k0:=hq 0 _ rfl;have k1:=hq 1 _ rfl;have k2:=hq 2 _ rfl;have k3:=hq 3 _ rfl;have k4:=hq 4 _ rfl;have k5:=hq 5 _ rfl;clear hq D0)
  |(go_at_call_of 53 (Value.agg #[.bool nx,.int .i64 ex,.slice a l c]);refine (HC.out W0 (Ug _ _)).2.1.mono ?_;rintro e w1 ⟨rfl,C0⟩;rw[(Xo0 HP)];have H1:=Ub C0;have hq:=(HC.out w1 C0).1;have k0:=hq 0 _ rfl;have k1:=hq 1 _ rfl;have k2:=hq 2 _ rfl;have k3:=hq 3 _ rfl;have k4:=hq 4 _ rfl;have k5:=hq 5 _ rfl;clear hq C0))
 go_ret;refine ⟨Q2y.of (b:=decide (s<=0)) ?_ rfl,Below.next0 HB.out (Xe1 H3)⟩;have hs:=(Xo0 H3).2;unfold IvV.ok Qer;rw[Xag];refine ⟨fun h=>⟨(Xo0 HI),(Xe1 HI),?_⟩,fun h=>?_⟩
 ·cases hv:Q2a (Q1p ny ey ks-Q1p nx ex ls)
  ·exact hv
  ·have:=hs.2 hv;omega
 ·refine Int.not_lt.1 fun h0=>?_;have h3:=h.2.2;unfold Q47.val at h3;rw[hs.1 h0] at h3;cases h3
def Qw3 (w:World) (g o:Nat) (x:IvV):Prop:=∃a l c b m d,(w.cell? ⟨g,o,none⟩=some (.bool x.lo.neg)/\w.cell? ⟨g,o+1,none⟩=some (.int .i64 x.lo.exp)/\w.cell? ⟨g,o+2,none⟩=some (.slice a l c)/\w.cell? ⟨g,o+3,none⟩=some (.bool x.hi.neg)/\w.cell? ⟨g,o+4,none⟩=some (.int .i64 x.hi.exp)/\w.cell? ⟨g,o+5,none⟩=some (.slice b m d))/\Q0m w a l c x.lo/\Q0m w b m d x.hi
theorem Qw3.step {w w':World} {g o:Nat} {x:IvV} (h:Qw3 w g o x) (hb:Bw w w') (E0:g<w.heap.size):Qw3 w' g o x:=by
 obtain ⟨a,l,c,b,m,d,⟨h0,h1,h2,h3,h4,h5⟩,h6,h7⟩:=h;have hc:∀i v,w.cell? ⟨g,i,none⟩=some v->w'.cell? ⟨g,i,none⟩=some v:=fun i v h=>(hb.cell (p:=⟨g,i,none⟩) E0).trans h;exact ⟨a,l,c,b,m,d,⟨hc _ _ h0,hc _ _ h1,hc _ _ h2,hc _ _ h3,hc _ _ h4,hc _ _ h5⟩,h6.step hb,h7.step hb⟩
def Qdh (w:World) (a:OA) (n c:Nat) (B:List IvV):Prop:=
 B.length=n/\n<=c/\c<=9223372036854775807/\(B=[]∨∃b o,a=some ⟨b,o,none⟩/\b<w.heap.size/\∀j x,B[j]?=some x->Qw3 w b (o+j*6) x)
theorem Qdh.step {w w':World} {a:OA} {n c:Nat} {B:List IvV} (h:Qdh w a n c B) (hb:Bw w w'):Qdh w' a n c B:=by
 obtain ⟨h1,h2,h3,h4⟩:=h;refine ⟨h1,h2,h3,?_⟩;rcases h4 with h4|⟨b,o,h5,h6,h7⟩
 ·exact .inl h4
 ·exact .inr ⟨b,o,h5,Uc h6 hb.size,fun j m hm=>(h7 j m hm).step hb h6⟩
def Qny (B:List IvV):Prop:=1<=B.length/\B.length<=4/\∀x∈B,x.ok
theorem Qix (a:OA) (n c:Nat) (B:List IvV) (w:World) (h:Qdh w a n c B):
 Calls Tryz.prog 19 #[.slice a n c] w fun r w'=>Q2y (Qny B) r/\Bw w w':=by
 have G3:=h.1;subst G3;have J3:=Un h.2.1 h.2.2.1;have HM:=Ub h;clear h
 go_enter Tryz.func19,Tryz.ntmps19
 go_wp2_with fail
 go_loopw [7] (fun iv wr=>∃i:Nat,iv=.int .i64 (i:Int)/\i<=B.length/\(∀j x,j<i->B[j]?=some x->x.ok)/\Bw w wr) (fun iv _=>B.length-(intOf iv).toNat)
 case atStart=>exact ⟨0,rfl,Ut _,fun j m h=>absurd h (TV _),Ug _ _⟩
 case round=>
  obtain ⟨i,rfl,hi,P2,hb⟩:=hrel
  by_cases E0:i<B.length
  ·have J0:(i:Int)<(B.length:Int):=(by omega);obtain ⟨x,hm⟩:∃x,B[i]?=some x:=⟨_,Ua E0⟩;obtain ⟨b0,o0,rfl,X1,Y1⟩:∃b o,a=some ⟨b,o,none⟩/\b<wr.heap.size/\∀j x,B[j]?=some x->Qw3 wr b (o+j*6) x:=by
    rcases (HM.out.step hb).2.2.2 with h0|h0
    ·rw[h0] at E0;simp at E0
    ·exact h0
   obtain ⟨p,l,d,q,m,e,⟨y0,y1,y2,y3,y4,y5⟩,K5,C6⟩:=Y1 i x hm;have hC:=Q3w.new wr [.bool x.lo.neg,.int .i64 x.lo.exp,.slice p l d,.bool x.hi.neg,.int .i64 x.hi.exp,.slice q m e] 44
   change Q3w (wr.alloc (.cells #[.bool x.lo.neg,.int .i64 x.lo.exp,.slice p l d,.bool x.hi.neg,.int .i64 x.hi.exp,.slice q m e] 44)) _ _ at hC
   have J1:Bw wr (wr.alloc (.cells #[.bool x.lo.neg,.int .i64 x.lo.exp,.slice p l d,.bool x.hi.neg,.int .i64 x.hi.exp,.slice q m e] 44)):=Ba;obtain ⟨r,hr,C2⟩:=yn (Qm0 x p q l d m e _ (K5.step J1) (C6.step J1));have k0:=hC 0 _ rfl;have k1:=hC 1 _ rfl;have k2:=hC 2 _ rfl;have k3:=hC 3 _ rfl;have k4:=hC 4 _ rfl;have k5:=hC 5 _ rfl;have HA:=Xh5 P2 (Below.next0 hb J1) hm hr C2;clear P2 hb hm Y1 K5 C6 hC J1 hr C2;cases r
   ·go_wp2_with (refine (Xe4 HA).mono ?_;rintro r w1 ⟨rfl,C0⟩;have K0:=Ub C0;clear C0)
    go_ret;exact ⟨Q2y.no (fun h=>by have:=(Xo3 HA).2 (h.2.2 x (Uf (Xo2 HA)));cases this) rfl,Below.next0 (Xo1 HA) K0.out⟩
   ·go_wp2_with (refine (Xe4 HA).mono ?_;rintro r w1 ⟨rfl,C0⟩;have K0:=Ub C0;clear C0)
    refine ⟨⟨i+1,by simp,by omega,fun j z hj hx=>?_,Below.next0 (Xo1 HA) K0.out⟩,by simp only[intOf];omega⟩
    by_cases hji:j=i
    ·subst hji;have:=(Xo2 HA);rw[hx] at this;injection this with this;rw[this];exact (Xo3 HA).1 (by trivial)
    ·exact (Xo0 HA) j z (by omega) hx
  ·obtain rfl:i=B.length:=(by omega);have J0:¬((B.length:Int)<(B.length:Int)):=(by omega);have Y0:∀x∈B,x.ok:=fun m hm=>by
    obtain ⟨j,hj⟩:=UV.1 hm;exact P2 j m (Ul.1 hj).1 hj
   have HF:=Xh2 Y0 hb;clear Y0 hb P2
   by_cases k1:1<=B.length
   ·have k1':(1:Int)<=(B.length:Int):=by omega
    by_cases k4:B.length<=4
    ·have k4':(B.length:Int)<=4:=by omega
     go_wp2_with fail
     go_ret;exact ⟨Q2y.yes ⟨k1,k4,(Xo0 HF)⟩ rfl,(Xe1 HF)⟩
    ·have k4':¬(B.length:Int)<=4:=by omega
     go_wp2_with fail
     go_ret;exact ⟨Q2y.no (fun h=>k4 h.2.1) rfl,(Xe1 HF)⟩
   ·have k1':¬(1:Int)<=(B.length:Int):=by omega
    go_wp2_with fail
    go_ret;exact ⟨Q2y.no (fun h=>k1 h.1) rfl,(Xe1 HF)⟩
noncomputable def yesB (Φ:Prop):Bool:= @decide Φ (Classical.propDecidable Φ)
theorem Q4e {Φ:Prop}:yesB Φ=true↔Φ:= @decide_eq_true_iff Φ (Classical.propDecidable Φ)
theorem yn1 {f:FuncId} {args:Array Value} {w:World} {Φ:Prop} {R:World->Prop} (h:Calls Tryz.prog f args w fun r w'=>Q2y Φ r/\R w') {b:Bool} (hb:yesB Φ=b):Calls Tryz.prog f args w fun r w'=>r=.returned (.bool b)/\R w':=by
 refine h.mono ?_;rintro r w' ⟨⟨d,rfl,hd⟩,hR⟩;refine ⟨?_,hR⟩;rw[<-hb,show yesB Φ=d from Bool.eq_iff_iff.2 (Q4e.trans hd.symm)]
structure Pl where
 a:OA
 l:Nat
 c:Nat
structure Qt5 where
 f:Pl
 b:Pl
 t:Pl
 m:Pl
 e:Pl
structure Q52 where
 field:List (List Q01)
 box:List IvV
 til:Q47
 most:Q47
 least:Q47
 prec:Int
 order:Int
 budget:Int
def Q57 (p:Qt5) (x:Q52):LV:=[.slice p.f.a p.f.l p.f.c,.slice p.b.a p.b.l p.b.c,.bool x.til.neg,.int .i64 x.til.exp,.slice p.t.a p.t.l p.t.c,.bool x.most.neg,.int .i64 x.most.exp,.slice p.m.a p.m.l p.m.c,.bool x.least.neg,.int .i64 x.least.exp,.slice p.e.a p.e.l p.e.c,.int .i64 x.prec,.int .i64 x.order,.int .i64 x.budget]
structure Q3x (w:World) (p:Qt5) (x:Q52):Prop where
 f:Q1g w p.f.a p.f.l p.f.c x.field
 b:Qdh w p.b.a p.b.l p.b.c x.box
 t:Q0m w p.t.a p.t.l p.t.c x.til
 m:Q0m w p.m.a p.m.l p.m.c x.most
 e:Q0m w p.e.a p.e.l p.e.c x.least
theorem Q3x.step {w w':World} {p:Qt5} {x:Q52} (h:Q3x w p x) (hb:Bw w w'):Q3x w' p x:=⟨h.f.step hb,h.b.step hb,h.t.step hb,h.m.step hb,h.e.step hb⟩
structure Q3c (x:Q52):Prop where
 field:Q2j x.field
 box:Qny x.box
 same:x.box.length=x.field.length
 til:Q8j x.til
 most:Q8j x.most
 least:Q8j x.least
 ord:Qer x.least.val x.most.val
 prec:8<=x.prec/\x.prec<=256
 order:2<=x.order/\x.order<=10
 budget:1<=x.budget/\x.budget<=4096
theorem Q0c {w:World} {b:Nat} {v0 v1 v2 v3 v4 v5 v6 v7 v8 v9 v10 v11 v12 v13:Value} (h:Q3w w b [v0,v1,v2,v3,v4,v5,v6,v7,v8,v9,v10,v11,v12,v13]):
 w.cell? ⟨b,0,none⟩=some v0/\w.cell? ⟨b,1,none⟩=some v1/\w.cell? ⟨b,2,none⟩=some v2/\w.cell? ⟨b,3,none⟩=some v3/\w.cell? ⟨b,4,none⟩=some v4/\w.cell? ⟨b,5,none⟩=some v5/\w.cell? ⟨b,6,none⟩=some v6/\w.cell? ⟨b,7,none⟩=some v7/\w.cell? ⟨b,8,none⟩=some v8/\w.cell? ⟨b,9,none⟩=some v9/\w.cell? ⟨b,10,none⟩=some v10/\w.cell? ⟨b,11,none⟩=some v11/\w.cell? ⟨b,12,none⟩=some v12/\w.cell? ⟨b,13,none⟩=some v13:=
 ⟨h 0 _ rfl,h 1 _ rfl,h 2 _ rfl,h 3 _ rfl,h 4 _ rfl,h 5 _ rfl,h 6 _ rfl,h 7 _ rfl,h 8 _ rfl,h 9 _ rfl,h 10 _ rfl,h 11 _ rfl,h 12 _ rfl,h 13 _ rfl⟩
theorem Qm1 (x:Q52) {b1 b2 b3 b4 b5 b6 b7 b8 b9 b10:Bool} (h1:yesB (Q2j x.field)=b1) (h2:yesB (Qny x.box)=b2) (h3:yesB (x.box.length=x.field.length)=b3) (h4:yesB (Q8j x.til)=b4) (h5:yesB (Q8j x.most)=b5) (h6:yesB (Q8j x.least)=b6) (h7:yesB (Qer x.least.val x.most.val)=b7) (h8:decide (8<=x.prec/\x.prec<=256)=b8) (h9:decide (2<=x.order/\x.order<=10)=b9) (QL:decide (1<=x.budget/\x.budget<=4096)=b10):
 yesB (Q3c x)=(b1 && (b2 && (b3 && (b4 && (b5 && (b6 && (b7 && (b8 && (b9 && b10))))))))):=by
 subst h1 h2 h3 h4 h5 h6 h7 h8 h9 QL;rw[Bool.eq_iff_iff];simp only[Xan,Q4e,Xag];exact ⟨fun h=>⟨h.1,h.2,h.3,h.4,h.5,h.6,h.7,h.8,h.9,h.10⟩,fun ⟨h1,h2,h3,h4,h5,h6,h7,h8,h9,QL⟩=>⟨h1,h2,h3,h4,h5,h6,h7,h8,h9,QL⟩⟩
theorem J0b {s:Int} {x y:Dyadic} {b:Bool} (hs:Q77 s x y) (hb:yesB (Qer x y)=b):decide (0<s)= !b:=by
 have h1:=hs.2;rw[<-hb]
 by_cases h0:0<s
 ·rw[UQ h0];have:¬Qer x y:=fun h=>by unfold Qer at h;rw[h1.1 h0] at h;cases h
  cases hv:yesB (Qer x y)
  ·rfl
  ·exact absurd (Q4e.1 hv) this
 ·rw[Ta h0];have:Qer x y:=by
   unfold Qer;cases hv:Q2a (y-x)
   ·rfl
   ·exact absurd (h1.2 hv) h0
  rw[Q4e.2 this];rfl
theorem Q71 (p:Qt5) (x:Q52) (w:World) (h:Q3x w p x):
 Calls Tryz.prog 9 #[.agg (Q57 p x).toArray] w fun r w'=>Q2y (Q3c x) r/\Bw w w':=by
 suffices hs:Calls Tryz.prog 9 #[.agg (Q57 p x).toArray] w fun r w'=>r=.returned (.bool (yesB (Q3c x)))/\Bw w w' from hs.mono fun r w' ⟨h1,h2⟩=>⟨Q2y.of Q4e h1,h2⟩
 obtain ⟨⟨fa,fl,fc⟩,⟨ba,bl,bc⟩,⟨ta,tl,tc⟩,⟨ma,ml,mc⟩,⟨ea,el,ec⟩⟩:=p;obtain ⟨F,B,⟨tn,te,ts⟩,⟨mn,me,ms⟩,⟨en,ee,es⟩,prec,order,budget⟩:=x;have hfl:F.length=fl:=h.f.1;have U4:B.length=bl:=h.b.1;obtain ⟨b1,h1⟩:∃b,yesB (Q2j F)=b:=⟨_,rfl⟩;obtain ⟨b2,h2⟩:∃b,yesB (Qny B)=b:=⟨_,rfl⟩;obtain ⟨b3,h3⟩:∃b,yesB (B.length=F.length)=b:=⟨_,rfl⟩;obtain ⟨b4,h4⟩:∃b,yesB (Q8j ⟨tn,te,ts⟩)=b:=⟨_,rfl⟩;obtain ⟨b5,h5⟩:∃b,yesB (Q8j ⟨mn,me,ms⟩)=b:=⟨_,rfl⟩;obtain ⟨b6,h6⟩:∃b,yesB (Q8j ⟨en,ee,es⟩)=b:=⟨_,rfl⟩;obtain ⟨b7,h7⟩:∃b,yesB (Qer (Q47.val ⟨en,ee,es⟩) (Q47.val ⟨mn,me,ms⟩))=b:=⟨_,rfl⟩;obtain ⟨b8,h8⟩:∃b,decide (8<=prec/\prec<=256)=b:=⟨_,rfl⟩;obtain ⟨b9,h9⟩:∃b,decide (2<=order/\order<=10)=b:=⟨_,rfl⟩;obtain ⟨b10,QL⟩:∃b,decide (1<=budget/\budget<=4096)=b:=⟨_,rfl⟩;have HR:=Ub (Qm1 ⟨F,B,⟨tn,te,ts⟩,⟨mn,me,ms⟩,⟨en,ee,es⟩,prec,order,budget⟩ h1 h2 h3 h4 h5 h6 h7 h8 h9 QL);generalize yesB (Q3c ⟨F,B,⟨tn,te,ts⟩,⟨mn,me,ms⟩,⟨en,ee,es⟩,prec,order,budget⟩)=rr at HR⊢;have hC:=Q3w.new w (Q57 ⟨⟨fa,fl,fc⟩,⟨ba,bl,bc⟩,⟨ta,tl,tc⟩,⟨ma,ml,mc⟩,⟨ea,el,ec⟩⟩ ⟨F,B,⟨tn,te,ts⟩,⟨mn,me,ms⟩,⟨en,ee,es⟩,prec,order,budget⟩) 28;have X1:Bw w (w.alloc (.cells (Q57 ⟨⟨fa,fl,fc⟩,⟨ba,bl,bc⟩,⟨ta,tl,tc⟩,⟨ma,ml,mc⟩,⟨ea,el,ec⟩⟩ ⟨F,B,⟨tn,te,ts⟩,⟨mn,me,ms⟩,⟨en,ee,es⟩,prec,order,budget⟩).toArray 28)):=Ba;have E0:=Q0h w (.cells (Q57 ⟨⟨fa,fl,fc⟩,⟨ba,bl,bc⟩,⟨ta,tl,tc⟩,⟨ma,ml,mc⟩,⟨ea,el,ec⟩⟩ ⟨F,B,⟨tn,te,ts⟩,⟨mn,me,ms⟩,⟨en,ee,es⟩,prec,order,budget⟩).toArray 28);simp only[Q57] at hC X1 E0⊢;obtain ⟨W0,R1⟩:∃W0,w.alloc (.cells #[.slice fa fl fc,.slice ba bl bc,.bool tn,.int .i64 te,.slice ta tl tc,.bool mn,.int .i64 me,.slice ma ml mc,.bool en,.int .i64 ee,.slice ea el ec,.int .i64 prec,.int .i64 order,.int .i64 budget] 28)=W0:=⟨_,rfl⟩;rw[R1] at hC X1 E0;have HC:=Ub (fun V (hV:Bw W0 V)=>have hh:=h.step (Below.next0 X1 hV);And.intro (hC.step hV E0) (And.intro (yn1 (Q8k fa fl fc F V hh.f) h1) (And.intro (yn1 (Qix ba bl bc B V hh.b) h2) (And.intro (yn1 (Qdg ⟨tn,te,ts⟩ ta tl tc V hh.t) h4) (And.intro (yn1 (Qdg ⟨mn,me,ms⟩ ma ml mc V hh.m) h5) (And.intro (yn1 (Qdg ⟨en,ee,es⟩ ea el ec V hh.e) h6) (fun i1 i2=>Qpr ⟨en,ee,es⟩ ⟨mn,me,ms⟩ ea ma el ec ml mc V hh.e hh.m i1 i2)))))));have HH:=Xh7 h5 h6 h7 h8 h9 QL X1;obtain ⟨k0,k1,k2,k3,k4,k5,k6,k7,k8,k9,k10,k11,k12,k13⟩:=Q0c hC;clear hC X1 E0 h h1 h2 h4 h5 h6 h7 h8 h9 QL;have key:(b1=false)∨(b1=true/\b2=false)∨(b1=true/\b2=true/\b3=false/\¬(bl:Int)=(fl:Int))∨(b1=true/\b2=true/\b3=true/\bl=fl/\b4=false)∨(b1=true/\b2=true/\b3=true/\bl=fl/\b4=true/\b5=false)∨(b1=true/\b2=true/\b3=true/\bl=fl/\b4=true/\b5=true/\b6=false)∨(b1=true/\b2=true/\b3=true/\bl=fl/\b4=true/\b5=true/\b6=true/\b7=false)∨(b1=true/\b2=true/\b3=true/\bl=fl/\b4=true/\b5=true/\b6=true/\b7=true/\b8=false)∨(b1=true/\b2=true/\b3=true/\bl=fl/\b4=true/\b5=true/\b6=true/\b7=true/\b8=true/\b9=false)∨(b1=true/\b2=true/\b3=true/\bl=fl/\b4=true/\b5=true/\b6=true/\b7=true/\b8=true/\b9=true):=by
  have Vh:=fun h:b3=true=>Q4e.1 (h3.trans h);have h3'':b3=false->¬(bl:Int)=(fl:Int):=fun h e=>by rw[Q4e.2 (by omega)] at h3;rw[h] at h3;cases h3
  have h4':b3=true->bl=fl:=fun h=>by have:=Vh h;omega
  clear h3 Vh;cases b1 <;> cases b2 <;> cases b3 <;> cases b4 <;> cases b5 <;> cases b6 <;> cases b7 <;> cases b8 <;> cases b9 <;> simp_all
 clear h3;rcases key with rfl|⟨rfl,rfl⟩|⟨rfl,rfl,rfl,Q0⟩|⟨rfl,rfl,rfl,rfl,rfl⟩|⟨rfl,rfl,rfl,rfl,rfl,rfl⟩|⟨rfl,rfl,rfl,rfl,rfl,rfl,rfl⟩|⟨rfl,rfl,rfl,rfl,rfl,rfl,rfl,rfl⟩|⟨rfl,rfl,rfl,rfl,rfl,rfl,rfl,rfl,rfl⟩|⟨rfl,rfl,rfl,rfl,rfl,rfl,rfl,rfl,rfl,rfl⟩|⟨rfl,rfl,rfl,rfl,rfl,rfl,rfl,rfl,rfl,rfl⟩
 all_goals
  go_enter Tryz.func9,Tryz.ntmps9
  go_upto_region 1 with fail
  clear R1
  go_wp2_with (first
   |(go_at_call 18;refine ((HC.out W0 (Ug _ _)).2.1).mono ?_;rintro e w1 ⟨rfl,hb⟩;have H1:=Ub hb;have hq:=(HC.out w1 H1.out).1;obtain ⟨k0,k1,k2,k3,k4,k5,k6,k7,k8,k9,k10,k11,k12,k13⟩:=Q0c hq;clear hq hb)
   |(go_at_call 19;refine ((HC.out w1 H1.out).2.2.1).mono ?_;rintro e w2 ⟨rfl,hb⟩;have H2:=Ub (Below.next0 H1.out hb);have hq:=(HC.out w2 H2.out).1;obtain ⟨k0,k1,k2,k3,k4,k5,k6,k7,k8,k9,k10,k11,k12,k13⟩:=Q0c hq;clear hq hb)
   |(go_at_call_of 20 (Value.agg #[.bool tn,.int .i64 te,.slice ta tl tc]);refine ((HC.out w2 H2.out).2.2.2.1).mono ?_;rintro e w3 ⟨rfl,hb⟩;have H3:=Ub (Below.next0 H2.out hb);have hq:=(HC.out w3 H3.out).1;obtain ⟨k0,k1,k2,k3,k4,k5,k6,k7,k8,k9,k10,k11,k12,k13⟩:=Q0c hq;clear hq hb)
   |(go_at_call_of 20 (Value.agg #[.bool mn,.int .i64 me,.slice ma ml mc]);refine ((HC.out w3 H3.out).2.2.2.2.1).mono ?_;rintro e w4 ⟨rfl,hb⟩;have H4:=Ub (Below.next0 H3.out hb);have hq:=(HC.out w4 H4.out).1;obtain ⟨k0,k1,k2,k3,k4,k5,k6,k7,k8,k9,k10,k11,k12,k13⟩:=Q0c hq;clear hq hb)
   |(go_at_call_of 20 (Value.agg #[.bool en,.int .i64 ee,.slice ea el ec]);refine ((HC.out w4 H4.out).2.2.2.2.2.1).mono ?_;rintro e w5 ⟨rfl,hb⟩;have H5:=Ub (Below.next0 H4.out hb);have hq:=(HC.out w5 H5.out).1;obtain ⟨k0,k1,k2,k3,k4,k5,k6,k7,k8,k9,k10,k11,k12,k13⟩:=Q0c hq;clear hq hb)
   |(go_at_call 21;refine ((HC.out w5 H5.out).2.2.2.2.2.2 (Q4e.1 (Xo1 HH)).1 (Q4e.1 (Xo0 HH)).1).mono ?_;rintro e w6 ⟨⟨s,rfl,hs⟩,hb⟩;have Xr:=J0b hs (Xo2 HH);simp only[Bool.not_true,Bool.not_false,Xaf,TX] at Xr;clear hs;have H6:=Ub (Below.next0 H5.out hb);have hq:=(HC.out w6 H6.out).1;obtain ⟨k0,k1,k2,k3,k4,k5,k6,k7,k8,k9,k10,k11,k12,k13⟩:=Q0c hq;clear hq hb)
   |(go_at_call_of 22 (Value.int .i64 prec);refine (Q8z prec 8 256 w6).mono ?_;rintro e w7 ⟨rfl,hb⟩;rw[(Xo3 HH)];have H7:=Ub (Below.next0 H6.out hb);have hq:=(HC.out w7 H7.out).1;obtain ⟨k0,k1,k2,k3,k4,k5,k6,k7,k8,k9,k10,k11,k12,k13⟩:=Q0c hq;clear hq hb)
   |(go_at_call_of 22 (Value.int .i64 order);refine (Q8z order 2 10 w7).mono ?_;rintro e w8 ⟨rfl,hb⟩;rw[(Xo4 HH)];have H8:=Ub (Below.next0 H7.out hb);have hq:=(HC.out w8 H8.out).1;obtain ⟨k0,k1,k2,k3,k4,k5,k6,k7,k8,k9,k10,k11,k12,k13⟩:=Q0c hq;clear hq hb)
   |(go_at_call_of 22 (Value.int .i64 budget);refine (Q8z budget 1 4096 w8).mono ?_;rintro e w9 ⟨rfl,hb⟩;rw[(Xo5 HH)];have H9:=Ub (Below.next0 H8.out hb);have hq:=(HC.out w9 H9.out).1;obtain ⟨k0,k1,k2,k3,k4,k5,k6,k7,k8,k9,k10,k11,k12,k13⟩:=Q0c hq;clear hq hb))
  go_ret
  first
  |exact ⟨by rw[HR.out];rfl,Below.next0 (Xe6 HH) H9.out⟩
  |exact ⟨by rw[HR.out];rfl,Below.next0 (Xe6 HH) H8.out⟩
  |exact ⟨by rw[HR.out];rfl,Below.next0 (Xe6 HH) H7.out⟩
  |exact ⟨by rw[HR.out];rfl,Below.next0 (Xe6 HH) H6.out⟩
  |exact ⟨by rw[HR.out];rfl,Below.next0 (Xe6 HH) H5.out⟩
  |exact ⟨by rw[HR.out];rfl,Below.next0 (Xe6 HH) H4.out⟩
  |exact ⟨by rw[HR.out];rfl,Below.next0 (Xe6 HH) H3.out⟩
  |exact ⟨by rw[HR.out];rfl,Below.next0 (Xe6 HH) H2.out⟩
  |exact ⟨by rw[HR.out];rfl,Below.next0 (Xe6 HH) H1.out⟩
def uv (n:Nat):Value:=.int .u64 (n:Int)
def RdU (w:World) (B:Nat) (a:OA) (ls:LN):Prop:=
 ls=[]∨∃b o,a=some ⟨b,o,none⟩/\b<B/\∀(j:Nat) x,ls[j]?=some x->w.cell? ⟨b,o+j,none⟩=some (uv x)
theorem RdU.keep {w w':World} {B:Nat} {a:OA} {ls:LN} (h:RdU w B a ls) (hk:∀p:Addr,p.block<B->w'.cell? p=w.cell? p):RdU w' B a ls:=by
 rcases h with rfl|⟨b,o,rfl,hb,hc⟩
 ·exact .inl rfl
 ·exact .inr ⟨b,o,rfl,hb,fun j x hx=>(hk _ hb).trans (hc j x hx)⟩
def Q42 (w:World) (b i:Nat):Prop:=∃a n c ls,w.heap[b]?=some (.cells #[.slice a n c,.int .i64 (i:Int)] 103 (0,0))/\ls.length=n/\n<=9223372036854775807/\RdU w b a ls/\∀x∈ls,x<18446744073709551616
section
variable {w w':World} {b i:Nat} {fp:Nat->Prop}
theorem Q42.lt (h:Q42 w b i):b<w.heap.size:=by
 obtain ⟨a,n,c,ls,hh,_⟩:=h;exact (Uq.1 hh).1
theorem Q42.turn (h:Q42 w b i) (ht:Q0e fp w w') (hn:∀k,k<=b->¬fp k):Q42 w' b i:=by
 have hb:=h.lt;obtain ⟨a,n,c,ls,hh,h1,h2,h3,h4⟩:=h;exact ⟨a,n,c,ls,(ht.block b hb (hn b (Ue _))).trans hh,h1,h2,h3.keep fun p hp=>ht.cell (by omega) (hn _ (by omega)),h4⟩
theorem Q42.call (h:Q42 w b i) (hb:Bw w w'):Q42 w' b i:=h.turn (Q0e.of_below hb fun _=>False) fun _ _ h=>h
end
theorem Q4o (b i:Nat) (w:World) (h:Q42 w b i) (hi:i<=1000000):
 Calls Tryz.prog 117 #[.pointer (some ⟨b,0,none⟩)] w fun e w'=>(∃x:Nat,x<18446744073709551616/\e=.returned (.int .u64 (x:Int)))/\Q42 w' b (i+1)/\Q0e (·=b) w w':=by
 obtain ⟨a,n,c,ls,hh,G3,hn,i9,hx⟩:=h;have k0:w.cell? ⟨b,0,none⟩=some (.slice a n c):=by rw[Uv _ _ _ _ _ _ hh];rfl
 have k1:w.cell? ⟨b,1,none⟩=some (.int .i64 (i:Int)):=by rw[Uv _ _ _ _ _ _ hh];rfl
 have f1:w.frozen? ⟨b,1,none⟩=false:=TC _ _ _ _ _ hh;have S2:∀V:World,V.heap=w.heap->V.os=w.os->V.tape=w.tape->V.output=w.output->Q42 (V.setCell ⟨b,1,none⟩ (.int .i64 ((i:Int)+1))) b (i+1)/\Q0e (·=b) w (V.setCell ⟨b,1,none⟩ (.int .i64 ((i:Int)+1))):=by
  intro V h1 h2 h3 h4;have hV:V.heap[b]?=some (.cells #[.slice a n c,.int .i64 (i:Int)] 103 (0,0)):=by rw[h1];exact hh
  refine ⟨⟨a,n,c,ls,?_,G3,hn,i9.keep fun p hp=>?_,hx⟩,?_⟩
  ·rw[heap_setCell_same _ _ _ _ _ _ hV];rfl
  ·rw[Ud _ _ _ _ (fun e=>by subst e;exact Nat.lt_irrefl _ hp)];exact UM (by rw[h1])
  ·have ht:=Q0e.setCell (fun k=>k=b) V (p:=⟨b,1,none⟩) rfl (.int .i64 ((i:Int)+1));exact ⟨ht.os.trans h2,ht.tape.trans h3,ht.output.trans h4,by rw[<-h1];exact ht.size,fun k hk hn=>by rw[<-h1];exact ht.block k (by rw[h1];exact hk) hn⟩
 have HF:=Ub S2;have HR:=Xh2 i9 hx;clear S2 hh i9 hx
 by_cases E0:i<n
 ·have J0:(i:Int)<(n:Int):=by omega
  obtain ⟨x,Vn⟩:∃x,ls[i]?=some x:=⟨_,Ua (by omega)⟩;obtain ⟨y,o,rfl,hy,hc⟩:∃y o,a=some ⟨y,o,none⟩/\y<b/\w.cell? ⟨y,o+i,none⟩=some (.int .u64 (x:Int)):=by
   rcases (Xo0 HR) with rfl|⟨y,o,e,hy,hc⟩
   ·simp at Vn
   ·exact ⟨y,o,e,hy,hc i x Vn⟩
  have hx64:=(Xe1 HR) x (Uf Vn);clear Vn
  go_enter Tryz.func117,Tryz.ntmps117
  go_wp2_with fail
  go_quiet (fail)
  go_wp2_with fail
  go_quiet (fail)
  go_wp2_with fail
  go_ret;exact ⟨⟨x,hx64,rfl⟩,HF.out _ rfl rfl rfl rfl⟩
 ·have J0:¬((i:Int)<(n:Int)):=by omega
  go_enter Tryz.func117,Tryz.ntmps117
  go_wp2_with fail
  go_quiet (fail)
  go_wp2_with fail
  go_ret;exact ⟨⟨0,by omega,rfl⟩,HF.out _ rfl rfl rfl rfl⟩
theorem Qps (a:OA) (n c:Nat) (ls:LN) (w:World) (hl:ls.length=n) (hn:n<=9223372036854775807) (h:RdU w w.heap.size a ls) (hx:∀x∈ls,x<18446744073709551616):
 Calls Tryz.prog 44 #[.slice a n c] w fun e w'=>e=.returned (.pointer (some ⟨w.heap.size,0,none⟩))/\Q42 w' w.heap.size 0/\Bw w w':=by
 have H:=Ub h;clear h
 go_enter Tryz.func44,Tryz.ntmps44
 go_wp2_with fail
 go_ret;exact ⟨rfl,⟨a,n,c,ls,Um _ _,hl,hn,H.out.keep fun p hp=>UX _ _ p hp,hx⟩,Ba⟩
theorem Qpt {neg:Bool} {v:Nat} {exp:Int} {neg':Bool} {e':Int} {L:LN} {er:Int} (h:Q7e neg v exp neg' e' L er):Q0a neg' e' L:=by
 rcases h with ⟨_,rfl,rfl,rfl,_⟩|⟨z,_,⟨_,rfl,rfl,rfl,_⟩|⟨_,_,h,rfl,rfl,rfl,_⟩⟩
 ·simp[Q0a]
 ·simp[Q0a]
 ·exact h
def Qt6 (e:Ending) (w':World):Prop:=∃neg' e' a' n' c' L,e=.returned (.agg #[.bool neg',.int .i64 e',.slice a' n' c'])/\Q0a neg' e' L/\WordsIn w' a' n' c' L
theorem Qm2 (neg:Bool) (a:OA) (n c:Nat) (ls:LN) (exp:Int) (w:World) (h:WordsIn w a n c ls) (hn:n<=100000) (he: -1000000000<=exp) (Q6:exp<=1000000000):
 Calls Tryz.prog 76 #[.bool neg,.slice a n c,.int .i64 exp] w fun e w'=>Qt6 e w'/\Bw w w':=by
 have Z2:∀o,Bw w (w.alloc o):=fun o=>Ba;have I3:=Q0h w (.cells #[.bool false,.int .i64 0,.slice none 0 0] 26);have O9:=Q03.new w (.bool false) (.int .i64 0) (.slice none 0 0) 26;have hm:=Qd6 neg a n c ls exp (w.alloc (.cells #[.bool false,.int .i64 0,.slice none 0 0] 26)) (h.step (Z2 _)) hn he Q6;have HM:=Xh2 hm O9;clear hm O9 h
 go_enter Tryz.func76,Tryz.ntmps76
 go_wp2_with (refine (Xo0 HM).mono ?_;rintro e w1 ⟨neg2,e2,a2,n2,c2,L,er,rfl,B7,hW,C0⟩;
              have J1:Bw w1 (w1.alloc (.cells #[.bool neg2,.int .i64 e2,.slice a2 n2 c2] 26)):=Ba;have E4:=Below.next0 C0 J1;have A1:=(Xe1 HM).step E4 I3;obtain ⟨N4,O1,E1,m4,Y3,A4⟩:=A1.cf;have C3:=A1.d1 (.bool neg2);have V2:=A1.d2 (.bool neg2) (.int .i64 e2);have JG:=Q03.new w1 (.bool neg2) (.int .i64 e2) (.slice a2 n2 c2) 26;obtain ⟨y8,R6,J5⟩:=JG.cc;have K0:=Xh4 A1 (Below.next0 (Z2 _) E4) (hW.step J1) B7;clear A1 JG J1 E4 C0 hW B7)
 have JN:=(Xo0 K0).store (.bool neg2) (.int .i64 e2) (.slice a2 n2 c2);obtain ⟨k0,k1,k2⟩:=JN.cc;have F3:=Q03.below (Xo1 K0) (Ue _) (.bool neg2) (.int .i64 e2) (.slice a2 n2 c2);have P7:=(Xo2 K0);have QS:WordsIn _ a2 n2 c2 L:=⟨P7.len,P7.cap,P7.most,P7.low,(P7.rd.store3 (Xo0 K0) (fun _=>by simp[nv]) (fun _=>by simp[nv]) (fun _=>by simp[nv]) (.bool neg2) (.int .i64 e2) (.slice a2 n2 c2)).more (Q1i _ _ _ _ _)⟩;clear JN N4 O1 E1 m4 Y3 A4 C3 V2 P7 y8 R6 J5;generalize World.setCell _ _ _=W5 at k0 k1 k2 F3 QS⊢;refine ⟨rfl,.agg #[.bool neg2,.int .i64 e2,.slice a2 n2 c2],by simp[results,go_sem,k0,k1,k2],⟨neg2,e2,a2,n2,c2,L,rfl,Qpt (Xe3 K0),QS⟩,F3⟩
theorem Q0e.newSet {fp:Nat->Prop} {w w':World} (h:Q0e fp w w') {p:Addr} (hp:w.heap.size<=p.block) (v:Value):Q0e fp w (w'.setCell p v):=
 ⟨h.os,h.tape,h.output,by rw[UT];exact h.size,fun k hk hn=>(UZ _ _ _ _ (by omega)).trans (h.block k hk hn)⟩
theorem Qys (a b:Nat) (ha:a<18446744073709551616) (hb:b<18446744073709551616):∃p:Nat,bits .and .u64 (a:Int) (b:Int)=(p:Int)/\p<18446744073709551616:=⟨_,u64_and_nat a b ha hb,Nat.and_lt_two_pow (n:=64) _ hb⟩
theorem Qdi (w:World) (m:Nat) (hm:m<18446744073709551616) (T:TypeId):WordsIn (w.alloc (.cells #[.int .u64 (m:Int)] T)) (some ⟨w.heap.size,0,none⟩) 1 1 [m]:=
 ⟨rfl,Ue _,by omega,fun x hx=>by rw[Ux] at hx;subst hx;exact hm,.inr ⟨w.heap.size,0,rfl,Q0h _ _,fun j x hx=>by
   cases j with
   |zero=>simp only[UD,Uj] at hx;subst hx;rw[Uv _ _ _ _ _ _ (Um _ _)];rfl
   |succ j=>simp at hx⟩⟩
end Go.Proofs.YtidojbkhlenahaaGreatDoor
