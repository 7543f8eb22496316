/- Part 9. No condition. -/
import Derived.Test.YtidojbkhlenahaaGreatDoorPkProblemRights08
set_option maxRecDepth 100000
set_option maxHeartbeats 16000000
namespace Go.Proofs.YtidojbkhlenahaaGreatDoor
open Go.RowKit WordsM
structure Q00 where
 neg:Bool
 exp:Int
 ws:LN
 es:List Int
def Q41 [LT ZK] (w:World) (b o:Nat) (m:Q00):Prop:=∃aw lw cw ae le ce,w.cell? ⟨b,o,none⟩=some (.bool m.neg)/\w.cell? ⟨b,o+1,none⟩=some (.int .i64 m.exp)/\w.cell? ⟨b,o+2,none⟩=some (.slice aw lw cw)/\w.cell? ⟨b,o+3,none⟩=some (.slice ae le ce)/\
 WordsIn w aw lw cw m.ws/\Q0q w ae le ce m.es/\-9223372036854775808<=m.exp/\m.exp<=9223372036854775807
theorem Q41.step [LT ZK] {w w':World} {b o:Nat} {m:Q00} (h:Q41 w b o m) (hb:Bw w w') (E0:b<w.heap.size):Q41 w' b o m:=by
 obtain ⟨aw,lw,cw,ae,le,ce,h0,h1,h2,h3,h4,h5,h6⟩:=h;exact ⟨aw,lw,cw,ae,le,ce,(hb.cell (p:=⟨b,o,none⟩) E0).trans h0,(hb.cell (p:=⟨b,o+1,none⟩) E0).trans h1,(hb.cell (p:=⟨b,o+2,none⟩) E0).trans h2,(hb.cell (p:=⟨b,o+3,none⟩) E0).trans h3,h4.step hb,h5.step hb,h6⟩
def Q0e [LT ZK] (w:World) (a:OA) (n c:Nat) (ms:List Q00):Prop:=
 ms.length=n/\n<=c/\c<=9223372036854775807/\(ms=[]∨∃b o,a=some ⟨b,o,none⟩/\b<w.heap.size/\∀j m,ms[j]?=some m->Q41 w b (o+j*4) m)
theorem Q0e.step [LT ZK] {w w':World} {a:OA} {n c:Nat} {ms:List Q00} (h:Q0e w a n c ms) (hb:Bw w w'):Q0e w' a n c ms:=by
 obtain ⟨h1,h2,h3,h4⟩:=h;refine ⟨h1,h2,h3,?_⟩;rcases h4 with h4|⟨b,o,h5,h6,h7⟩
 ·exact .inl h4
 ·exact .inr ⟨b,o,h5,Ue h6 hb.size,fun j m hm=>(h7 j m hm).step hb h6⟩
def Q00.term (m:Q00):Q0l:=(Q1r m.neg m.exp m.ws,m.es)
def OkM (k:Nat) (m:Q00):Prop:=(Q10 k m.es/\Q0a m.neg m.exp m.ws)/\m.ws≠[]
instance (k:Nat) (m:Q00):Decidable (OkM k m):=by unfold OkM;infer_instance
def Q1p (k:Nat) (ms:List Q00):Prop:=1<=k/\k<=4/\ms.length<=24/\(∀m∈ms,OkM k m)/\ms.Pairwise fun p q=>0<Q3e p.es q.es
def Q09 (Φ:Prop) (r:Ending):Prop:=∃b,r=.returned (.bool b)/\(b=true↔Φ)
theorem Q09.yes {Φ:Prop} {r:Ending} (h:Φ) (hr:r=.returned (.bool true)):Q09 Φ r:=⟨true,hr,by simp[h]⟩
theorem Q09.no {Φ:Prop} {r:Ending} (h:¬Φ) (hr:r=.returned (.bool false)):Q09 Φ r:=⟨false,hr,by simp[h]⟩
theorem Q7r:∀(ms:List Q00),(∀j p q,ms[j]?=some p->ms[j+1]?=some q->0<Q3e p.es q.es)->ms.Pairwise fun p q=>0<Q3e p.es q.es
 |[],_=>List.Pairwise.nil
 |[_],_=>List.pairwise_singleton _ _
 |p::q::r,h=>by
  have ih:=Q7r (q::r) (fun j x y hx hy=>h (j+1) x y hx hy);refine TM.2 ⟨fun x hx=>?_,ih⟩;have h0:=h 0 p q rfl rfl;rcases UG.1 hx with rfl|hx
  ·exact h0
  ·exact Q66 _ _ _ h0 ((TM.1 ih).1 x hx)
theorem Q35 [LT ZK] (a:OA) (n c:Nat) (ms:List Q00) (k:Nat) (w:World) (h:Q0e w a n c ms) (hk:k<=9223372036854775807):
 Calls Tryz.prog 51 #[.slice a n c,.int .i64 (k:Int)] w fun r w'=>Q09 (Q1p k ms) r/\Bw w w':=by
 have Q2:=h.1;subst Q2;have R2:=Ul h.2.1 h.2.2.1;have HM:=Ua h;clear h
 go_enter Tryz.func51,Tryz.ntmps51
 go_wp2_with fail
 go_loopw [9] (fun iv wr=>∃i:Nat,iv=.int .i64 (i:Int)/\i<=ms.length/\(∀j m,j<i->ms[j]?=some m->OkM k m)/\(∀j p q,j+1<i->ms[j]?=some p->ms[j+1]?=some q->0<Q3e p.es q.es)/\Bw w wr) (fun iv _=>ms.length-(intOf iv).toNat)
 case atStart=>exact ⟨0,rfl,Ut _,fun j m h=>absurd h (Tk _),fun j p q h=>absurd h (Tk _),Uc _ _⟩
 case round=>
  obtain ⟨i,rfl,hi,O1,d9,hb⟩:=hrel
  by_cases E0:i<ms.length
  ·have F0:(i:Int)<(ms.length:Int):=(by omega);obtain ⟨m,hm⟩:∃m,ms[i]?=some m:=⟨_,Ub E0⟩;obtain ⟨b0,o0,rfl,Z0,R1⟩:∃b o,a=some ⟨b,o,none⟩/\b<wr.heap.size/\∀j m,ms[j]?=some m->Q41 wr b (o+j*4) m:=by
    rcases (HM.out.step hb).2.2.2 with h0|h0
    ·rw[h0] at E0;simp at E0
    ·exact h0
   obtain ⟨aw,lw,cw,ae,le,ce,k0,k1,k2,k3,hw,he,S4,Q3⟩:=R1 i m hm;have HA:=Xh7 O1 d9 hb hm R1 hw he;clear O1 d9 hb hm R1 hw he;have Y1:=Uk wr (.cells #[.bool m.neg,.int .i64 m.exp,.slice aw lw cw,.slice ae le ce] 98);have Z2:Bw wr (wr.alloc (.cells #[.bool m.neg,.int .i64 m.exp,.slice aw lw cw,.slice ae le ce] 98)):=Ba;have hX:=Q32.new wr (.bool m.neg) (.int .i64 m.exp) (.slice aw lw cw) (.slice ae le ce) 98;generalize E1:wr.alloc (.cells #[.bool m.neg,.int .i64 m.exp,.slice aw lw cw,.slice ae le ce] 98)=W0 at Y1 Z2 hX;have HX:=Ua (fun W (hW:Bw W0 W)=>hX.step hW (by omega));have Yu:=Ua (Below.next0 (Xo2 HA) Z2);have Yv:=fun W (hW:Bw W0 W)=>Qmt m.neg m.exp aw lw cw m.ws ae le ce m.es k W (((Xo5 HA).step Z2).step hW) (((Xe6 HA).step Z2).step hW) hk S4 Q3;have O0:=Ua Z2;clear hX Z2 Y1;have Kj:=(Xo5 HA).len
   go_wp2_with fail
   by_cases m7:Q10 k m.es/\Q0a m.neg m.exp m.ws
   ·simp only[UT m7] at Yv;have HMO:=Ua Yv
    by_cases hemp:m.ws=[]
    ·have Xd:((lw:Int)==0)=true:=(by rw[<-Kj,hemp];rfl);have i4:¬Q1p k ms:=fun h=>(h.2.2.2.1 m (Ug (Xo3 HA))).2 hemp;have HNO:=Ua i4;clear Yv m7 i4 Kj;refine Q06 (E:=Q8a) (fun w=>Uc _ w) (by kernel_rfl) (fun W=>Bw W0 W) (fun _ _ h h'=>Below.next0 h h') (Q40 [.agg #[.bool m.neg,.int .i64 m.exp,.slice aw lw cw,.slice ae le ce],.int .i64 (k:Int),.bool true,.bool false,.bool false,.pointer (some ⟨wr.heap.size,0,none⟩),.pointer (some ⟨wr.heap.size,2,none⟩),.slice aw lw cw,.int .i64 (lw:Int),.bool true,.bool true,.bool true,undef,undef,undef,undef,undef,undef,undef,undef,undef,undef,undef,undef,.bool true] (fun _=>none)) (Q0c (fun i φ h=>by cases h)) (Q0w (by kernel_rfl)) (by kernel_rfl) (Q01 W0) ?_ ?_
     ·skip
      repeat' (first|exact Q8n|refine Q8m ?_ ?_)
      all_goals first
       |exact Qgk rfl rfl rfl
       |(refine Q1u rfl fun A W hW G0 hd hd=>?_
         simp[Q7q,Region.binds] at hd;have e6:=Q0d G0 6 (by kernel_rfl) rfl;have e1:=Q0d G0 1 (by kernel_rfl) rfl;obtain ⟨u0_0,u0_1,u0_2,u0_3,_,_,_,_⟩:=(HX.out W hW)
         first
         |(refine Q2x rfl rfl ?_;simp[go_sem,hd,e6,e1,u0_0,u0_1,u0_2,u0_3,Xd];done)
         |(refine Q29 rfl rfl ?_ ((HMO.out W hW));simp[go_sem,hd];done))
     intro vs W1 I1 K2;have v24:vs 24=.bool true:=(Q0f rfl).1 (K2 24 (by decide));simp only[Q0r,Act.put,Ur,Ux,Uv];rw[v24];have Ve:=Ua (Below.next0 Yu.out I1);clear I1 K2 v24
     go_wp2_with fail
     go_ret;exact ⟨Q09.no HNO.out rfl,Ve.out⟩
    ·have Xd:((lw:Int)==0)=false:=by
      rw[<-Kj,Uj];intro e;exact hemp (UH.1 (by omega))
     have hokm:OkM k m:=⟨m7,hemp⟩;have hok':∀j x,j<i+1->ms[j]?=some x->OkM k x:=fun j x hj hx=>by
      by_cases hji:j=i
      ·subst hji;have:=(Xo3 HA);rw[hx] at this;injection this with this;rw[this];exact hokm
      ·exact (Xo0 HA) j x (by omega) hx
     have YX:=Ua hok';clear Yv m7 Kj hokm hok' hemp
     by_cases O2:i=0
     ·have hip:i=0:=O2;have Z9:(∀j x,j<i+1->ms[j]?=some x->OkM k x)/\(∀j p q,j+1<i+1->ms[j]?=some p->ms[j+1]?=some q->0<Q3e p.es q.es):=⟨YX.out,fun j p q hj=>by omega⟩;have x9:=Ua Z9;clear Z9;refine Q06 (E:=Q8a) (fun w=>Uc _ w) (by kernel_rfl) (fun W=>Bw W0 W) (fun _ _ h h'=>Below.next0 h h') (Q40 [.agg #[.bool m.neg,.int .i64 m.exp,.slice aw lw cw,.slice ae le ce],.int .i64 (k:Int),.bool true,.bool false,.bool false,.pointer (some ⟨wr.heap.size,0,none⟩),.pointer (some ⟨wr.heap.size,2,none⟩),.slice aw lw cw,.int .i64 (lw:Int),.bool false,.bool false,.bool false,.int .i64 (i:Int),.bool false,.bool false,undef,undef,undef,undef,undef,undef,undef,undef,.bool false,.bool false] (fun _=>none)) (Q0c (fun i φ h=>by cases h)) (Q0w (by kernel_rfl)) (by kernel_rfl) (Q01 W0) ?_ ?_
      ·skip
       repeat' (first|exact Q8n|refine Q8m ?_ ?_)
       all_goals first
        |exact Qgk rfl rfl rfl
        |(refine Q1u rfl fun A W hW G0 hd hd=>?_
          simp[Q7q,Region.binds] at hd;have e6:=Q0d G0 6 (by kernel_rfl) rfl;have e1:=Q0d G0 1 (by kernel_rfl) rfl;have e5:=Q0d G0 5 (by kernel_rfl) rfl;obtain ⟨u0_0,u0_1,u0_2,u0_3,_,_,_,_⟩:=(HX.out W hW)
          first
          |(refine Q2x rfl rfl ?_;simp[go_sem,hd,e6,e1,e5,u0_0,u0_1,u0_2,u0_3,Xd,hip];done)
          |(refine Q29 rfl rfl ?_ ((HMO.out W hW));simp[go_sem,hd];done))
      intro vs W1 I1 K2;have v24:vs 24=.bool false:=(Q0f rfl).1 (K2 24 (by decide));simp only[Q0r,Act.put,Ur,Ux,Uv];rw[v24];have Ve:=Ua (Below.next0 Yu.out I1);clear I1 K2 v24
      go_wp2_with fail
      refine ⟨⟨i+1,by simp only[Value.int.injEq,true_and];omega,by omega,(Xo0 x9),(Xe1 x9),Ve.out⟩,by simp only[intOf];omega⟩
     ·have hip:0<i:=(by omega);obtain ⟨q,hq⟩:∃q,q+1=i:=⟨i-1,by omega⟩;have hiq:(i:Int)-1=(q:Int):=(by omega);have XJ:IntKind.i64.wrap (q:Int)=(q:Int):=(by rw[UO];omega);have hqn:(q:Int)<(ms.length:Int):=(by omega);obtain ⟨p,hp⟩:∃p,ms[q]?=some p:=⟨_,Ub (by omega)⟩;obtain ⟨pw,pl,pc,pe,pm,pd,z0,z1,z2,z3,R4,D5,_,_⟩:=(Xo4 HA) q p hp;have HPC:=Ua (fun W (hW:Bw W0 W)=>And.intro (((Below.next0 O0.out hW).cell (p:=⟨b0,o0+q*4,none⟩) Z0).trans z0) (And.intro (((Below.next0 O0.out hW).cell (p:=⟨b0,o0+q*4+1,none⟩) Z0).trans z1) (And.intro (((Below.next0 O0.out hW).cell (p:=⟨b0,o0+q*4+2,none⟩) Z0).trans z2) (((Below.next0 O0.out hW).cell (p:=⟨b0,o0+q*4+3,none⟩) Z0).trans z3))));have HAH:=Ua (fun W (hW:Bw W0 W)=>Qrv (.bool p.neg) (.int .i64 p.exp) (.slice pw pl pc) pe pm pd p.es (.bool m.neg) (.int .i64 m.exp) (.slice aw lw cw) ae le ce m.es W (D5.step (Below.next0 O0.out hW)) ((Xe6 HA).step (Below.next0 O0.out hW)));have HPQ:=Xh2 hp hq;clear z0 z1 z2 z3 R4 D5 hp hq
      by_cases U4:0<=Q3e m.es p.es
      ·have QZ:decide (0<=Q3e m.es p.es)=true:=UT U4;have i4:¬Q1p k ms:=fun h=>by
        have h5:=h.2.2.2.2;rw[List.pairwise_iff_getElem] at h5;have i6:=(Ui.1 (Xo0 HPQ));have ZW:=(Ui.1 (Xo3 HA));have h6:=h5 q i i6.1 ZW.1 (by have:=(Xe1 HPQ);omega);rw[i6.2,ZW.2] at h6;have h7:=Q3t m.es p.es;omega
       have HNO:=Ua i4;clear i4 U4;refine Q06 (E:=Q8a) (fun w=>Uc _ w) (by kernel_rfl) (fun W=>Bw W0 W) (fun _ _ h h'=>Below.next0 h h') (Q40 [.agg #[.bool m.neg,.int .i64 m.exp,.slice aw lw cw,.slice ae le ce],.int .i64 (k:Int),.bool true,.bool false,.bool false,.pointer (some ⟨wr.heap.size,0,none⟩),.pointer (some ⟨wr.heap.size,2,none⟩),.slice aw lw cw,.int .i64 (lw:Int),.bool false,.bool false,.bool false,.int .i64 (i:Int),.bool true,.bool true,.slice (some ⟨b0,o0,none⟩) ms.length c,.int .i64 (i:Int),.int .i64 (q:Int),.pointer (some ⟨b0,o0+q*4,none⟩),.agg #[.bool p.neg,.int .i64 p.exp,.slice pw pl pc,.slice pe pm pd],.agg #[.bool m.neg,.int .i64 m.exp,.slice aw lw cw,.slice ae le ce],.int .i64 (Q3e m.es p.es),.bool true,.bool true,.bool true] (fun _=>none)) (Q0c (fun i φ h=>by cases h)) (Q0w (by kernel_rfl)) (by kernel_rfl) (Q01 W0) ?_ ?_
       ·skip
        repeat' (first|exact Q8n|refine Q8m ?_ ?_)
        all_goals
         refine Q1u rfl fun A W hW G0 hd hd=>?_;simp[Q7q,Region.binds] at hd;have e6:=Q0d G0 6 (by kernel_rfl) rfl;have e1:=Q0d G0 1 (by kernel_rfl) rfl;have e5:=Q0d G0 5 (by kernel_rfl) rfl;have e0:=Q0d G0 0 (by kernel_rfl) rfl;obtain ⟨u0_0,u0_1,u0_2,u0_3,_,_,_,_⟩:=(HX.out W hW);obtain ⟨u1_0,u1_1,u1_2,u1_3⟩:=HPC.out W hW
         first
         |(refine Q2x rfl rfl ?_;simp[go_sem,hd,e6,e1,e5,e0,u0_0,u0_1,u0_2,u0_3,Xd,hip,hiq,XJ,hqn,u1_0,u1_1,u1_2,u1_3,QZ];done)
         |(refine Q29 rfl rfl ?_ ((HMO.out W hW));simp[go_sem,hd];done)
         |(refine Q29 rfl rfl ?_ ((HAH.out W hW));simp[go_sem,hd];done)
       intro vs W1 I1 K2;have v24:vs 24=.bool true:=(Q0f rfl).1 (K2 24 (by decide));simp only[Q0r,Act.put,Ur,Ux,Uv];rw[v24];have Ve:=Ua (Below.next0 Yu.out I1);clear I1 K2 v24
       go_wp2_with fail
       go_ret;exact ⟨Q09.no HNO.out rfl,Ve.out⟩
      ·have QZ:decide (0<=Q3e m.es p.es)=false:=UX U4;have Z9:(∀j x,j<i+1->ms[j]?=some x->OkM k x)/\(∀j p q,j+1<i+1->ms[j]?=some p->ms[j+1]?=some q->0<Q3e p.es q.es):=⟨YX.out,fun j p' q' hj Zy hq'=>by
        by_cases hji:j=q
        ·subst hji;rw[(Xe1 HPQ)] at hq';have h1:=(Xo0 HPQ);rw[Zy] at h1;have h2:=(Xo3 HA);rw[hq'] at h2;injection h1 with h1;injection h2 with h2;subst h1;subst h2;have h7:=Q3t q'.es p'.es;omega
        ·exact (Xo1 HA) j p' q' (by have:=(Xe1 HPQ);omega) Zy hq'⟩
       have x9:=Ua Z9;clear Z9 U4;refine Q06 (E:=Q8a) (fun w=>Uc _ w) (by kernel_rfl) (fun W=>Bw W0 W) (fun _ _ h h'=>Below.next0 h h') (Q40 [.agg #[.bool m.neg,.int .i64 m.exp,.slice aw lw cw,.slice ae le ce],.int .i64 (k:Int),.bool true,.bool false,.bool false,.pointer (some ⟨wr.heap.size,0,none⟩),.pointer (some ⟨wr.heap.size,2,none⟩),.slice aw lw cw,.int .i64 (lw:Int),.bool false,.bool false,.bool false,.int .i64 (i:Int),.bool true,.bool true,.slice (some ⟨b0,o0,none⟩) ms.length c,.int .i64 (i:Int),.int .i64 (q:Int),.pointer (some ⟨b0,o0+q*4,none⟩),.agg #[.bool p.neg,.int .i64 p.exp,.slice pw pl pc,.slice pe pm pd],.agg #[.bool m.neg,.int .i64 m.exp,.slice aw lw cw,.slice ae le ce],.int .i64 (Q3e m.es p.es),.bool false,.bool false,.bool false] (fun _=>none)) (Q0c (fun i φ h=>by cases h)) (Q0w (by kernel_rfl)) (by kernel_rfl) (Q01 W0) ?_ ?_
       ·skip
        repeat' (first|exact Q8n|refine Q8m ?_ ?_)
        all_goals
         refine Q1u rfl fun A W hW G0 hd hd=>?_;simp[Q7q,Region.binds] at hd;have e6:=Q0d G0 6 (by kernel_rfl) rfl;have e1:=Q0d G0 1 (by kernel_rfl) rfl;have e5:=Q0d G0 5 (by kernel_rfl) rfl;have e0:=Q0d G0 0 (by kernel_rfl) rfl;obtain ⟨u0_0,u0_1,u0_2,u0_3,_,_,_,_⟩:=(HX.out W hW);obtain ⟨u1_0,u1_1,u1_2,u1_3⟩:=HPC.out W hW
         first
         |(refine Q2x rfl rfl ?_;simp[go_sem,hd,e6,e1,e5,e0,u0_0,u0_1,u0_2,u0_3,Xd,hip,hiq,XJ,hqn,u1_0,u1_1,u1_2,u1_3,QZ];done)
         |(refine Q29 rfl rfl ?_ ((HMO.out W hW));simp[go_sem,hd];done)
         |(refine Q29 rfl rfl ?_ ((HAH.out W hW));simp[go_sem,hd];done)
       intro vs W1 I1 K2;have v24:vs 24=.bool false:=(Q0f rfl).1 (K2 24 (by decide));simp only[Q0r,Act.put,Ur,Ux,Uv];rw[v24];have Ve:=Ua (Below.next0 Yu.out I1);clear I1 K2 v24
       go_wp2_with fail
       refine ⟨⟨i+1,by simp only[Value.int.injEq,true_and];omega,by omega,(Xo0 x9),(Xe1 x9),Ve.out⟩,by simp only[intOf];omega⟩
   ·simp only[UX m7] at Yv;have HMO:=Ua Yv;have i4:¬Q1p k ms:=fun h=>m7 (h.2.2.2.1 m (Ug (Xo3 HA))).1;have HNO:=Ua i4;clear Yv m7 i4 Kj;refine Q06 (E:=Q8a) (fun w=>Uc _ w) (by kernel_rfl) (fun W=>Bw W0 W) (fun _ _ h h'=>Below.next0 h h') (Q40 [.agg #[.bool m.neg,.int .i64 m.exp,.slice aw lw cw,.slice ae le ce],.int .i64 (k:Int),.bool false,.bool true,.bool true,undef,undef,undef,undef,undef,.bool true,.bool true,undef,undef,undef,undef,undef,undef,undef,undef,undef,undef,undef,undef,.bool true] (fun _=>none)) (Q0c (fun i φ h=>by cases h)) (Q0w (by kernel_rfl)) (by kernel_rfl) (Q01 W0) ?_ ?_
    ·skip
     repeat' (first|exact Q8n|refine Q8m ?_ ?_)
     all_goals first
      |exact Qgk rfl rfl rfl
      |(refine Q1u rfl fun A W hW G0 hd hd=>?_
        simp[Q7q,Region.binds] at hd;have e6:=Q0d G0 6 (by kernel_rfl) rfl;have e1:=Q0d G0 1 (by kernel_rfl) rfl;obtain ⟨u0_0,u0_1,u0_2,u0_3,_,_,_,_⟩:=(HX.out W hW)
        first
        |(refine Q2x rfl rfl ?_;simp[go_sem,hd,e6,e1,u0_0,u0_1,u0_2,u0_3];done)
        |(refine Q29 rfl rfl ?_ ((HMO.out W hW));simp[go_sem,hd];done))
    intro vs W1 I1 K2;have v24:vs 24=.bool true:=(Q0f rfl).1 (K2 24 (by decide));simp only[Q0r,Act.put,Ur,Ux,Uv];rw[v24];have Ve:=Ua (Below.next0 Yu.out I1);clear I1 K2 v24
    go_wp2_with fail
    go_ret;exact ⟨Q09.no HNO.out rfl,Ve.out⟩
  ·obtain rfl:i=ms.length:=(by omega);have F0:¬((ms.length:Int)<(ms.length:Int)):=(by omega);have R0:(∀m∈ms,OkM k m)/\ms.Pairwise fun p q=>0<Q3e p.es q.es:=⟨fun m hm=>by
    obtain ⟨j,hj⟩:=UQ.1 hm;exact O1 j m (Ui.1 hj).1 hj,Q7r ms fun j p q hp hq=>d9 j p q (Ui.1 hq).1 hp hq⟩
   have HF:=Xh2 R0 hb;clear R0 hb O1 d9
   by_cases k1:1<=k
   ·have k1':(1:Int)<=(k:Int):=by omega
    by_cases k4:k<=4
    ·have k4':(k:Int)<=4:=by omega
     by_cases l24:ms.length<=24
     ·have l24':(ms.length:Int)<=24:=by omega
      go_wp2_with fail
      go_ret;exact ⟨Q09.yes ⟨k1,k4,l24,(Xo0 HF).1,(Xo0 HF).2⟩ rfl,(Xe1 HF)⟩
     ·have l24':¬(ms.length:Int)<=24:=by omega
      go_wp2_with fail
      go_ret;exact ⟨Q09.no (fun h=>l24 h.2.2.1) rfl,(Xe1 HF)⟩
    ·have k4':¬(k:Int)<=4:=by omega
     go_wp2_with fail
     go_ret;exact ⟨Q09.no (fun h=>k4 h.2.1) rfl,(Xe1 HF)⟩
   ·have k1':¬(1:Int)<=(k:Int):=by omega
    go_wp2_with fail
    go_ret;exact ⟨Q09.no (fun h=>k1 h.1) rfl,(Xe1 HF)⟩
structure Q39 where
 neg:Bool
 exp:Int
 ws:LN
def Q39.ok (x:Q39):Prop:=Q0a x.neg x.exp x.ws
def Q39.val (x:Q39):Dyadic:=Q1r x.neg x.exp x.ws
structure Q0i (w:World) (a:OA) (l c:Nat) (x:Q39):Prop where
 lie:WordsIn w a l c x.ws
 lo: -9223372036854775808<=x.exp
 hi:x.exp<=9223372036854775807
theorem Q0i.step {w w':World} {a:OA} {l c:Nat} {x:Q39} (h:Q0i w a l c x) (hb:Bw w w'):Q0i w' a l c x:=⟨h.lie.step hb,h.lo,h.hi⟩
theorem Qoj (a:OA) (c:Nat) (w:World):
 Calls Tryz.prog 203 #[.slice a 0 c] w fun e w'=>∃a' c',e=.returned (.slice a' 0 c')/\WordsIn w' a' 0 c' []/\Bw w w':=by
 cases a with
 |none=>exact (Tryz.J2j 0 c w).mono fun e w' ⟨h1,h2⟩=>⟨none,0,h1,⟨rfl,Uf _,by decide,fun x hx=>by simp at hx,.inl rfl⟩,by rw[h2];exact Uc _ _⟩
 |some a=>
  obtain ⟨i0,hi,E2,I2,X1⟩:=Xbq Q5r;have Qj:=fun W=>Lib.run_eql_slice_nil (P:=Tryz.prog) W 24 83 (some a) 0 c 0 0 Tryz.underlying24
  go_enter Tryz.func203,Tryz.ntmps203
  go_wp2_with (at_builtin;refine wpList_append_own _ rfl _ _ 24 rfl w.heap.size 83 i0 (.int .u64 0) 1 8 Tryz.underlying24 hi E2 I2 X1 rfl (by decide) _ _ _ rfl (World.ownsRow_made w #[] 0 (Uf _) (Ut _) rfl) a 0 c [] rfl rfl (by intro j u hj;simp at hj) (by intro u hu;cases hu) (by unfold maxLen;omega) (by omega) (by simp) ?_)
  intro v' w1 R3 D3 hnil';have HO:=Xh2 R3 (((Uc w.heap.size w).alloc (Uf _) _).grown D3 (by simp) (by intro k hk;simp[Value.ownBlock] at hk;omega));clear R3 D3 hnil'
  go_wp2_with fail
  go_ret;obtain ⟨_,⟨rfl,_⟩|⟨g,cap,cur,rfl,JD,hg,YA,R2,W6,o5⟩⟩:=(Xo0 HO)
  ·exact ⟨_,_,rfl,⟨rfl,Uf _,by decide,fun x hx=>by simp at hx,.inl rfl⟩,(Xe1 HO)⟩
  ·exact ⟨_,_,rfl,⟨rfl,Ut _,by simpa[maxLen] using R2,fun x hx=>by simp at hx,.inl rfl⟩,(Xe1 HO)⟩
theorem Q91 (a:OA) (c:Nat) (w:World) (h:WordsIn w a 0 c []):
 Calls Tryz.prog 146 #[.slice a 0 c] w fun e w'=>∃a' c',e=.returned (.slice a' 0 c')/\WordsIn w' a' 0 c' []/\Bw w w':=by
 have hc:=Q19 a 0 c [] w h;have h0:(trimL ([]:LN)).length=0:=rfl;rw[h0] at hc;have HC:=Ua hc;clear hc h h0
 go_enter Tryz.func146,Tryz.ntmps146
 go_wp2_with (first
  |(go_at_call 144;refine HC.out.mono ?_;rintro e w1 ⟨rfl,A0⟩;have O0:=Ua A0;clear A0)
  |(refine (Qoj a c w1).mono ?_;rintro e w2 ⟨a',c',rfl,hw,D0⟩;have H2:=Xh2 hw D0;clear hw D0))
 go_ret;exact ⟨a',c',rfl,(Xo0 H2),Below.next0 O0.out (Xe1 H2)⟩
theorem Qux (a:OA) (c:Nat) (w:World) (h:WordsIn w a 0 c []):
 Calls Tryz.prog 96 #[.agg #[.bool false,.int .i64 0,.slice a 0 c]] w fun r w'=>∃a' c',r=.returned (.agg #[.bool false,.int .i64 0,.slice a' 0 c'])/\WordsIn w' a' 0 c' []/\Bw w w':=by
 obtain ⟨R7,hX,hR,hB⟩:=Q7d w (.bool false) (.int .i64 0) (.slice a 0 c) (.bool false) (.int .i64 0) (.slice none 0 0) 26 26;generalize hW:(w.alloc (.cells #[.bool false,.int .i64 0,.slice a 0 c] 26)).alloc (.cells #[.bool false,.int .i64 0,.slice none 0 0] 26)=W at hX hR hB R7;have Y1:w.heap.size+1<W.heap.size:=by omega
 clear R7;have J9:=Q0y false 0 a 0 c [] W (h.step hB) (by omega) (by omega) (by omega);rw[UT (show Q0a false 0 [] by unfold Q0a;simp)] at J9;have QK:∀W2,Bw w W2->Calls Tryz.prog 146 #[.slice a 0 c] W2 fun r w'=>∃a' c',r=.returned (.slice a' 0 c')/\WordsIn w' a' 0 c' []/\Bw W2 w':=fun W2 hb=>Q91 a c W2 (h.step hb);have HR:=Xh6 hX hR hB J9 QK Y1;obtain ⟨xc0,xc1,xc2⟩:=hX.cc;clear hX hR hB J9 QK Y1 h
 go_enter Tryz.func96,Tryz.ntmps96
 go_wp2_with (first
  |(go_at_call_of 53 (Value.bool false);refine (Xo3 HR).mono ?_;rintro r w1 ⟨rfl,A0⟩;have N5:=(Xo0 HR).step A0 (by have:=(Xe5 HR);omega);obtain ⟨uc0,uc1,uc2⟩:=N5.cc;have HA:=Xh2 A0 (Below.next0 (Xo2 HR) A0);clear N5 A0)
  |(go_at_call_of 146 a;refine ((Xo4 HR) w1 (Xe1 HA)).mono ?_;rintro r w2 ⟨a',c',rfl,u4,D0⟩;have E0:=(Xe5 HR);have G6:=Below.next0 (Xo0 HA) D0;have A4:=(Xo0 HR).step G6 (by omega);have P8:=(Xo1 HR).step G6 E0;
    have yc2:=A4.c2;have yf2:=A4.f2;have z9:=A4.set2 (.slice a' 0 c');have C5:=P8.far (p:=⟨w.heap.size,2,none⟩) (by show w.heap.size≠w.heap.size+1;omega) (.slice a' 0 c');obtain ⟨zc0,zc1,zc2⟩:=z9.cc;obtain ⟨rc0,rc1,rc2,rf0,rf1,rf2⟩:=C5.cf;have rd1:=C5.d1 (.bool false);have rd2:=C5.d2 (.bool false) (.int .i64 0);have j6:=WordsIn.set1 u4 A4.c2 (fun _=>by simp[nv]) (.slice a' 0 c');have HM:=Xh3 j6 C5 ((Below.next0 (Xo2 HR) G6).setCell (p:=⟨w.heap.size,2,none⟩) (Uf _) (.slice a' 0 c'));clear A4 P8 z9 C5 j6 D0 G6 u4))
 have hS:=(Xo1 HM).store (.bool false) (.int .i64 0) (.slice a' 0 c');obtain ⟨k0,k1,k2⟩:=hS.cc;have G3:=Q03.below (Xe2 HM) (show w.heap.size<=w.heap.size+1 by omega) (.bool false) (.int .i64 0) (.slice a' 0 c');have z7:=(Xo0 HM).set3 (Xo1 HM) (.bool false) (.int .i64 0) (.slice a' 0 c');exact ⟨rfl,.agg #[.bool false,.int .i64 0,.slice a' 0 c'],by simp[results,go_sem,k0,k1,k2],a',c',rfl,z7,G3⟩
theorem Qxf (n:Bool) (e:Int) (a:OA) (l c:Nat) (L:LN) (w:World) (h:WordsIn w a l c L) (hi:Q0a n e L):
 Calls Tryz.prog 96 #[.agg #[.bool n,.int .i64 e,.slice a l c]] w fun r w'=>∃a' l' c',r=.returned (.agg #[.bool n,.int .i64 e,.slice a' l' c'])/\WordsIn w' a' l' c' L/\Bw w w':=by
 by_cases h0:L=[]
 ·subst h0;obtain rfl:l=0:=h.len.symm;obtain ⟨rfl,rfl⟩:n=false/\e=0:=by unfold Q0a at hi;simpa using hi
  exact (Qux a c w h).mono fun r w' ⟨a',c',h1,h2,h3⟩=>⟨a',0,c',h1,h2,h3⟩
 ·exact (Qkw n e a l c L w h hi h0).mono fun r w' ⟨a',l',c',h1,h2,h3⟩=>⟨a',l',c',h1,h2.toWordsIn,h3⟩
theorem Ql4 (n:Bool) (e:Int) (a:OA) (l c:Nat) (L:LN) (w:World) (h:WordsIn w a l c L) (hi:Q0a n e L):
 Calls Tryz.prog 54 #[.agg #[.bool n,.int .i64 e,.slice a l c]] w fun r w'=>r=.returned (.int .i64 (Qaa n (val (2^64) L)))/\Bw w w':=by
 have Z0:Bw w (w.alloc (.cells #[.bool n,.int .i64 e,.slice a l c] 26)):=Ba;have hN:=Q03.new w (.bool n) (.int .i64 e) (.slice a l c) 26;have WA:=Qxf n e a l c L _ (h.step Z0) hi;have I9:=Qd3 h hi;obtain ⟨sg,P2⟩:∃s,Qaa n (val (2^64) L)=s:=⟨_,rfl⟩;obtain ⟨k0,k1,k2⟩:=hN.cc;have hl:=h.len;have HO:=Xh5 WA Z0 I9 P2 hl;rw[P2];clear WA Z0 hN h hi I9 P2 hl
 go_enter Tryz.func54,Tryz.ntmps54
 go_wp2_with (first
  |(go_at_call_of 96 (Value.agg #[.bool n,.int .i64 e,.slice a l c]);refine (Xo0 HO).mono ?_;rintro r w1 ⟨a',l',c',rfl,hw,A0⟩
    have hl':l'=l:=(by rw[<-hw.len];exact (Xe4 HO));have hg:=Q3w n e a' l' c' L w1 hw (by have:=(Xo2 HO).1;omega);have M6:Calls Tryz.prog 95 #[.agg #[.bool n,.int .i64 e,.slice a' l' c']] w1 fun r w'=>r=.returned (.int .i64 sg)/\Bw w1 w':=(by rw[<-(Xo3 HO)];exact hg);have H1:=Xh2 M6 (Below.next0 (Xo1 HO) A0);clear hw A0 hg M6 hl')
  |(refine (Xo0 H1).mono ?_;rintro r w2 ⟨rfl,D0⟩;have H2:=Ua (Below.next0 (Xe1 H1) D0);clear D0))
 go_ret;exact ⟨rfl,H2.out⟩
def Q8b (x:Q39):Prop:=x.ok/\Q7a x.val
theorem Qrw {n:Bool} {e:Int} {L:LN} {w:World} {a:OA} {l c:Nat} (h:WordsIn w a l c L) (hi:Q0a n e L):0<Qaa n (val (2^64) L)↔Q7a (Q1r n e L):=by
 have hz:=Q65 hi h.low;unfold Q7a;unfold Q1r at*;rw[Q5a];unfold Qaa
 by_cases h0:val (2^64) L=0
 ·rw[Uu h0];have:dy (sgn n (val (2^64) L)) e=0:=by rw[h0,Q4b];rfl
  exact ⟨fun h=>absurd h (by decide),fun h=>absurd this h.1⟩
 ·rw[Us h0];have P0:dy (sgn n (val (2^64) L)) e≠0:=fun e=>by rw[hz.1 e] at h0;exact h0 rfl
  generalize hv:val (2^64) L=v at*;cases n
  ·have:¬((sgn false v:Int)<0):=(by simp[sgn]);simp[this,P0]
  ·have:(sgn true v:Int)<0:=(by simp[sgn];omega);simp[this]
theorem Qd6 (x:Q39) (a:OA) (l c:Nat) (w:World) (h:Q0i w a l c x):
 Calls Tryz.prog 20 #[.agg #[.bool x.neg,.int .i64 x.exp,.slice a l c]] w fun r w'=>Q09 (Q8b x) r/\Bw w w':=by
 obtain ⟨n,e,L⟩:=x;obtain ⟨hw,Z4,QV⟩:=h;simp only at hw Z4 QV⊢;have Z0:Bw w (w.alloc (.cells #[.bool n,.int .i64 e,.slice a l c] 26)):=Ba;have hN:=Q03.new w (.bool n) (.int .i64 e) (.slice a l c) 26;have E0:=Q0p w (.cells #[.bool n,.int .i64 e,.slice a l c] 26);have R2:=Ul hw.cap hw.most;have J9:=Q0y n e a l c L _ (hw.step Z0) Z4 QV R2;obtain ⟨k0,k1,k2⟩:=hN.cc
 by_cases hi:Q0a n e L
 case neg=>
  rw[UX hi] at J9;have HR:=Xh3 J9 Z0 hi;clear J9 Z0 hN hw hi E0
  go_enter Tryz.func20,Tryz.ntmps20
  go_wp2_with (go_at_call 53;refine (Xo0 HR).mono ?_;rintro r w1 ⟨rfl,A0⟩;have H1:=Ua A0;clear A0)
  go_ret;exact ⟨Q09.no (fun h=>(Xe2 HR) h.1) rfl,Below.next0 (Xo1 HR) H1.out⟩
 case pos=>
 rw[UT hi] at J9;have P2:=fun W (hb:Bw w W)=>Ql4 n e a l c L W (hw.step hb) hi;have WS:=Qrw hw hi;obtain ⟨s,hs⟩:∃s,Qaa n (val (2^64) L)=s:=⟨_,rfl⟩;rw[hs] at WS;simp only[hs] at P2;have HR:=Xh7 J9 Z0 P2 hi WS hN E0;clear J9 Z0 hN hw P2 WS hs E0
 by_cases h0:0<s
 all_goals
  go_enter Tryz.func20,Tryz.ntmps20
  go_wp2_with (first
   |(go_at_call 53;refine (Xo0 HR).mono ?_;rintro r w1 ⟨rfl,A0⟩;have X6:=(Xo5 HR).step A0 (Xe6 HR);obtain ⟨k0,k1,k2⟩:=X6.cc;have H1:=Ua (Below.next0 (Xo1 HR) A0);clear A0 X6)
   |(refine ((Xo2 HR) w1 H1.out).mono ?_;rintro r w2 ⟨rfl,D0⟩;have H2:=Ua (Below.next0 H1.out D0);clear D0))
  go_ret
 ·exact ⟨Q09.yes ⟨(Xo3 HR),(Xo4 HR).1 h0⟩ rfl,H2.out⟩
 ·exact ⟨Q09.no (fun h=>absurd ((Xo4 HR).2 h.2) (by omega)) (by rw[UX (show¬0<s by omega)];rfl),H2.out⟩
theorem Qok (x y:Q39) (a b:OA) (l c m d:Nat) (w:World) (h1:Q0i w a l c x) (h2:Q0i w b m d y) (i1:x.ok) (i2:y.ok):
 Calls Tryz.prog 21 #[.agg #[.bool x.neg,.int .i64 x.exp,.slice a l c],.agg #[.bool y.neg,.int .i64 y.exp,.slice b m d]] w fun r w'=>(∃s,r=.returned (.int .i64 s)/\Q3v s x.val y.val)/\Bw w w':=by
 obtain ⟨nx,ex,ls⟩:=x;obtain ⟨ny,ey,ks⟩:=y;obtain ⟨E3,U6,B7⟩:=h1;obtain ⟨R4,L9,S9⟩:=h2;simp only[Q39.ok,Q39.val] at*;obtain ⟨W0,E1⟩:∃W0,(w.alloc (.cells #[.bool nx,.int .i64 ex,.slice a l c] 26)).alloc (.cells #[.bool ny,.int .i64 ey,.slice b m d] 26)=W0:=⟨_,rfl⟩;have hQ:Qru w W0 nx ex a l c ls ny ey b m d ks:=by rw[<-E1];exact Qru.new E3 R4 _ _
 have C2:=Ul E3.cap E3.most;have A2:=Ul R4.cap R4.most;have HC:=Ua (fun W (hW:Bw W0 W)=>And.intro (hQ.step hW) (And.intro (Q0y nx ex a l c ls W (hQ.step hW).wx U6 B7 C2) (And.intro (Q0y ny ey b m d ks W (hQ.step hW).wy L9 S9 A2) (Qb2 nx ex a l c ls ny ey b m d ks W (hQ.step hW).wx (hQ.step hW).wy i1 i2))));have HI:=Xh2 (UT i1) (UT i2);have x0:=hQ.x.c0;have x1:=hQ.x.c1;have x2:=hQ.x.c2;have y0:=hQ.y.c0;have y1:=hQ.y.c1;have y2:=hQ.y.c2;clear hQ E3 R4 i1 i2
 go_enter Tryz.func21,Tryz.ntmps21
 go_upto_region 1 with fail
 clear E1
 go_wp2_with (first
  |(go_at_call 55;refine (HC.out w2 H2.out).2.2.2.mono ?_;rintro e w3 ⟨⟨s,rfl,hs⟩,I0⟩;have H3:=Xh2 hs I0;clear hs I0)
  |(go_at_call_of 53 (Value.agg #[.bool ny,.int .i64 ey,.slice b m d]);refine (HC.out w1 H1.out).2.2.1.mono ?_;rintro e w2 ⟨rfl,D0⟩;rw[(Xe1 HI)];have H2:=Ua (Below.next0 H1.out D0);have hq:=(HC.out w2 H2.out).1;have x0:=hq.x.c0;have x1:=hq.x.c1;have x2:=hq.x.c2;have y0:=hq.y.c0;have y1:=hq.y.c1;have y2:=hq.y.c2;clear hq D0)
  |(go_at_call_of 53 (Value.agg #[.bool nx,.int .i64 ex,.slice a l c]);refine (HC.out W0 (Uc _ _)).2.1.mono ?_;rintro e w1 ⟨rfl,A0⟩;rw[(Xo0 HI)];have H1:=Ua A0;have hq:=(HC.out w1 A0).1;have x0:=hq.x.c0;have x1:=hq.x.c1;have x2:=hq.x.c2;have y0:=hq.y.c0;have y1:=hq.y.c1;have y2:=hq.y.c2;clear hq A0))
 go_ret;exact ⟨⟨s,rfl,(Xo0 H3)⟩,Below.next0 (Below.next0 (HC.out W0 (Uc _ _)).1.bel H2.out) (Xe1 H3)⟩
theorem Q8o (n lo hi:Int) (w:World):Calls Tryz.prog 22 #[.int .i64 n,.int .i64 lo,.int .i64 hi] w fun r w'=>r=.returned (.bool (decide (lo<=n/\n<=hi)))/\Bw w w':=by
 by_cases h1:lo<=n <;> by_cases h2:n<=hi
 all_goals
  go_enter Tryz.func22,Tryz.ntmps22
  go_wp2_with fail
  go_ret;exact ⟨by simp[h1,h2] <;> omega,Uc _ _⟩
theorem Quy [LT ZK] (u0 u1 u2:Value) (b:OA) (m d:Nat) (E:List Int) (w:World) (hE:Q0q w b m d E) (hr:Q10 m E):
 Calls Tryz.prog 285 #[.agg #[u0,u1,u2,.slice b m d]] w fun r w'=>r=.returned (.int .i64 E.sum)/\Bw w w':=by
 have A0:Bw w (w.alloc (.cells #[u0,u1,u2,.slice b m d] 98)):=Ba;have hX:=Q32.new w u0 u1 u2 (.slice b m d) 98;generalize hW:w.alloc (.cells #[u0,u1,u2,.slice b m d] 98)=W at A0 hX;have VH:=hX.c3;have Q2:=hE.len;subst Q2;have R2:=Ul hE.cap hE.most;have HC:=Xh3 (hE.rd.below A0) A0 hr;clear A0 hX hE hr
 go_enter Tryz.func285,Tryz.ntmps285
 go_wp2_with fail
 go_loopw [3,9] (fun sv iv wr=>∃(i:Nat) (s:Int),sv=.int .i64 s/\iv=.int .i64 (i:Int)/\i<=E.length/\(E.take i).sum=s/\0<=s/\s<=8/\W=wr) (fun _ iv _=>E.length-(intOf iv).toNat)
 case atStart=>exact ⟨0,0,rfl,rfl,Ut _,by simp,by decide,by decide,rfl⟩
 case round=>
  obtain ⟨i,s,rfl,rfl,hi,hs,Zs,Xe,rfl⟩:=hrel
  by_cases E0:i<E.length
  ·have F0:(i:Int)<(E.length:Int):=(by omega);obtain ⟨x,hx⟩:∃x,E[i]?=some x:=⟨_,Ub E0⟩;obtain ⟨ba,oa,E5,P3,Y3⟩:=(Xo0 HC).at_ hx;subst E5;have hxs:=Q27 (Xe2 HC) x (Ug hx);have F9:=Qbs hx;have ht:=(Qbp (Xo3 HC) (i+1)).2;have h8:=(Xe4 HC);have HS:=Xh4 hs F9 ht h8;clear hs F9 hx ht h8
   go_wp2_with fail
   refine ⟨⟨i+1,s+x,rfl,by simp,by omega,by rw[(Xo1 HS),(Xo0 HS)],by omega,?_,trivial⟩,by simp only[intOf];omega⟩;have h1:=(Xo0 HS);have h2:=(Xo1 HS);have h3:=(Xo2 HS);have h4:=(Xe3 HS);omega
  ·obtain rfl:i=E.length:=(by omega);have F0:¬((E.length:Int)<(E.length:Int)):=(by omega);rw[Ti] at hs;subst hs
   go_wp2_with fail
   go_ret;exact ⟨rfl,(Xo1 HC)⟩
def Q1v [LT ZK] (w:World) (a:OA) (n c:Nat) (F:List (List Q00)):Prop:=
 F.length=n/\n<=c/\c<=9223372036854775807/\(F=[]∨∃b o,a=some ⟨b,o,none⟩/\b<w.heap.size/\∀j ms,F[j]?=some ms->∃p l d,w.cell? ⟨b,o+j,none⟩=some (.slice p l d)/\Q0e w p l d ms)
theorem Q1v.step [LT ZK] {w w':World} {a:OA} {n c:Nat} {F:List (List Q00)} (h:Q1v w a n c F) (hb:Bw w w'):Q1v w' a n c F:=by
 obtain ⟨h1,h2,h3,h4⟩:=h;refine ⟨h1,h2,h3,?_⟩;rcases h4 with h4|⟨b,o,h5,h6,h7⟩
 ·exact .inl h4
 ·refine .inr ⟨b,o,h5,Ue h6 hb.size,fun j ms hm=>?_⟩;obtain ⟨p,l,d,h8,h9⟩:=h7 j ms hm;exact ⟨p,l,d,(hb.cell (p:=⟨b,o+j,none⟩) h6).trans h8,h9.step hb⟩
def Q1w (F:List (List Q00)):Prop:=1<=F.length/\F.length<=4/\∀ms∈F,Q1p F.length ms
theorem Q8c [LT ZK] (a:OA) (n c:Nat) (F:List (List Q00)) (w:World) (h:Q1v w a n c F):
 Calls Tryz.prog 18 #[.slice a n c] w fun r w'=>Q09 (Q1w F) r/\Bw w w':=by
 have Q2:=h.1;subst Q2;have R2:=Ul h.2.1 h.2.2.1;have HM:=Ua h;clear h
 go_enter Tryz.func18,Tryz.ntmps18
 go_wp2_with fail
 go_loopw [7] (fun iv wr=>∃i:Nat,iv=.int .i64 (i:Int)/\i<=F.length/\(∀j ms,j<i->F[j]?=some ms->Q1p F.length ms)/\Bw w wr) (fun iv _=>F.length-(intOf iv).toNat)
 case atStart=>exact ⟨0,rfl,Ut _,fun j m h=>absurd h (Tk _),Uc _ _⟩
 case round=>
  obtain ⟨i,rfl,hi,O1,hb⟩:=hrel
  by_cases E0:i<F.length
  ·have F0:(i:Int)<(F.length:Int):=(by omega);obtain ⟨ms,hm⟩:∃ms,F[i]?=some ms:=⟨_,Ub E0⟩;obtain ⟨b0,o0,rfl,Z0,R1⟩:∃b o,a=some ⟨b,o,none⟩/\b<wr.heap.size/\∀j ms,F[j]?=some ms->∃p l d,wr.cell? ⟨b,o+j,none⟩=some (.slice p l d)/\Q0e wr p l d ms:=by
    rcases (HM.out.step hb).2.2.2 with h0|h0
    ·rw[h0] at E0;simp at E0
    ·exact h0
   obtain ⟨p,l,d,Y3,D6⟩:=R1 i ms hm;have F8:=Q35 p l d ms F.length wr D6 R2;have HA:=Xh4 O1 hb hm F8;clear O1 hb hm F8 R1 D6
   by_cases hr:Q1p F.length ms
   ·have F8:Calls Tryz.prog 51 #[.slice p l d,.int .i64 (F.length:Int)] wr fun r w'=>r=.returned (.bool true)/\Bw wr w':=(Xe3 HA).mono (by
     rintro r w' ⟨⟨b,rfl,Y2⟩,K3⟩;rw[Y2.2 hr];exact ⟨rfl,K3⟩)
    have HR:=Xh2 F8 hr;clear F8 hr
    go_wp2_with (refine (Xo0 HR).mono ?_;rintro r w1 ⟨rfl,A0⟩;have O0:=Ua A0;clear A0)
    refine ⟨⟨i+1,by simp,by omega,fun j x hj hx=>?_,Below.next0 (Xo1 HA) O0.out⟩,by simp only[intOf];omega⟩
    by_cases hji:j=i
    ·subst hji;have:=(Xo2 HA);rw[hx] at this;injection this with this;rw[this];exact (Xe1 HR)
    ·exact (Xo0 HA) j x (by omega) hx
   ·have F8:Calls Tryz.prog 51 #[.slice p l d,.int .i64 (F.length:Int)] wr fun r w'=>r=.returned (.bool false)/\Bw wr w':=(Xe3 HA).mono (by
     rintro r w' ⟨⟨b,rfl,Y2⟩,K3⟩;cases b
     ·exact ⟨rfl,K3⟩
     ·exact absurd (Y2.1 rfl) hr)
    have i4:¬Q1w F:=fun h=>hr (h.2.2 ms (Ug (Xo2 HA)));have HR:=Xh2 F8 i4;clear F8 hr i4
    go_wp2_with (refine (Xo0 HR).mono ?_;rintro r w1 ⟨rfl,A0⟩;have O0:=Ua A0;clear A0)
    go_ret;exact ⟨Q09.no (Xe1 HR) rfl,Below.next0 (Xo1 HA) O0.out⟩
  ·obtain rfl:i=F.length:=(by omega);have F0:¬((F.length:Int)<(F.length:Int)):=(by omega);have R0:∀ms∈F,Q1p F.length ms:=fun m hm=>by
    obtain ⟨j,hj⟩:=UQ.1 hm;exact O1 j m (Ui.1 hj).1 hj
   have HF:=Xh2 R0 hb;clear R0 hb O1
   by_cases k1:1<=F.length
   ·have k1':(1:Int)<=(F.length:Int):=by omega
    by_cases k4:F.length<=4
    ·have k4':(F.length:Int)<=4:=by omega
     go_wp2_with fail
     go_ret;exact ⟨Q09.yes ⟨k1,k4,(Xo0 HF)⟩ rfl,(Xe1 HF)⟩
    ·have k4':¬(F.length:Int)<=4:=by omega
     go_wp2_with fail
     go_ret;exact ⟨Q09.no (fun h=>k4 h.2.1) rfl,(Xe1 HF)⟩
   ·have k1':¬(1:Int)<=(F.length:Int):=by omega
    go_wp2_with fail
    go_ret;exact ⟨Q09.no (fun h=>k1 h.1) rfl,(Xe1 HF)⟩
theorem yn {f:FuncId} {args:Array Value} {w:World} {Φ:Prop} {R:World->Prop} (h:Calls Tryz.prog f args w fun r w'=>Q09 Φ r/\R w'):∃b,(b=true↔Φ)/\Calls Tryz.prog f args w fun r w'=>r=.returned (.bool b)/\R w':=by
 classical
 refine ⟨decide Φ,by simp,h.mono ?_⟩;rintro r w' ⟨⟨b,rfl,hb⟩,hR⟩;refine ⟨?_,hR⟩;cases b
 ·rw[UX fun h=>by simpa using hb.2 h]
 ·rw[UT (hb.1 rfl)]
theorem Q09.of {Φ:Prop} {b:Bool} {r:Ending} (h:b=true↔Φ) (hr:r=.returned (.bool b)):Q09 Φ r:=⟨b,hr,h⟩
def Q3h (w:World) (b:Nat) (vs:LV):Prop:=∀i v,vs[i]?=some v->w.cell? ⟨b,i,none⟩=some v
theorem Q3h.new (w:World) (vs:LV) (T:TypeId):Q3h (w.alloc (.cells vs.toArray T)) w.heap.size vs:=fun i v h=>by
 rw[Uw _ _ _ _ _ _ (Uo _ _)];simpa using h
theorem Q3h.step {w w':World} {b B:Nat} {vs:LV} (h:Q3h w b vs) (hb:Below B w w') (hB:b<B):Q3h w' b vs:=fun i v hi=>(hb.cell (p:=⟨b,i,none⟩) hB).trans (h i v hi)
structure IvV where
 lo:Q39
 hi:Q39
def IvV.ok (x:IvV):Prop:=x.lo.ok/\x.hi.ok/\Qec x.lo.val x.hi.val
theorem Ql5 (x:IvV) (a b:OA) (l c m d:Nat) (w:World) (h1:Q0i w a l c x.lo) (h2:Q0i w b m d x.hi):
 Calls Tryz.prog 52 #[.agg #[.bool x.lo.neg,.int .i64 x.lo.exp,.slice a l c,.bool x.hi.neg,.int .i64 x.hi.exp,.slice b m d]] w fun r w'=>Q09 x.ok r/\Bw w w':=by
 obtain ⟨⟨nx,ex,ls⟩,⟨ny,ey,ks⟩⟩:=x;obtain ⟨E3,U6,B7⟩:=h1;obtain ⟨R4,L9,S9⟩:=h2;simp only at E3 U6 B7 R4 L9 S9⊢;have C2:=Ul E3.cap E3.most;have A2:=Ul R4.cap R4.most;have hC:=Q3h.new w [.bool nx,.int .i64 ex,.slice a l c,.bool ny,.int .i64 ey,.slice b m d] 44;have Z0:Bw w (w.alloc (.cells #[.bool nx,.int .i64 ex,.slice a l c,.bool ny,.int .i64 ey,.slice b m d] 44)):=Ba;have E0:=Q0p w (.cells #[.bool nx,.int .i64 ex,.slice a l c,.bool ny,.int .i64 ey,.slice b m d] 44);obtain ⟨W0,E1⟩:∃W0,w.alloc (.cells #[.bool nx,.int .i64 ex,.slice a l c,.bool ny,.int .i64 ey,.slice b m d] 44)=W0:=⟨_,rfl⟩;rw[E1] at Z0 E0
 change Q3h (w.alloc (.cells #[.bool nx,.int .i64 ex,.slice a l c,.bool ny,.int .i64 ey,.slice b m d] 44)) _ _ at hC
 rw[E1] at hC;have HC:=Ua (fun W (hW:Bw W0 W)=>have hb:=Below.next0 Z0 hW;And.intro (hC.step hW E0) (And.intro (Q0y nx ex a l c ls W (E3.step hb) U6 B7 C2) (And.intro (Q0y ny ey b m d ks W (R4.step hb) L9 S9 A2) (fun i1 i2=>Qb2 nx ex a l c ls ny ey b m d ks W (E3.step hb) (R4.step hb) i1 i2))));have HB:=Ua Z0;have k0:=hC 0 _ rfl;have k1:=hC 1 _ rfl;have k2:=hC 2 _ rfl;have k3:=hC 3 _ rfl;have k4:=hC 4 _ rfl;have k5:=hC 5 _ rfl;clear hC Z0 E0 E3 R4;obtain ⟨p1,K8⟩:∃p,decide (Q0a nx ex ls)=p:=⟨_,rfl⟩;obtain ⟨p2,Qr⟩:∃p,decide (Q0a ny ey ks)=p:=⟨_,rfl⟩;have HP:=Xh2 K8 Qr;clear K8 Qr;cases p1
 case false=>
  go_enter Tryz.func52,Tryz.ntmps52
  go_upto_region 1 with fail
  clear E1
  go_wp2_with (go_at_call 53;refine (HC.out W0 (Uc _ _)).2.1.mono ?_;rintro e w1 ⟨rfl,A0⟩;rw[(Xo0 HP)];have H1:=Ua A0;clear A0)
  go_ret;exact ⟨Q09.no (fun h=>Xam (Xo0 HP) h.1) rfl,Below.next0 HB.out H1.out⟩
 cases p2
 case false=>
  go_enter Tryz.func52,Tryz.ntmps52
  go_upto_region 1 with fail
  clear E1
  go_wp2_with (first
   |(go_at_call_of 53 (Value.agg #[.bool ny,.int .i64 ey,.slice b m d]);refine (HC.out w1 H1.out).2.2.1.mono ?_;rintro e w2 ⟨rfl,D0⟩;rw[(Xe1 HP)];have H2:=Ua (Below.next0 H1.out D0);clear D0)
   |(go_at_call_of 53 (Value.agg #[.bool nx,.int .i64 ex,.slice a l c]);refine (HC.out W0 (Uc _ _)).2.1.mono ?_;rintro e w1 ⟨rfl,A0⟩;rw[(Xo0 HP)];have H1:=Ua A0;have hq:=(HC.out w1 A0).1;have k0:=hq 0 _ rfl;have k1:=hq 1 _ rfl;have k2:=hq 2 _ rfl;have k3:=hq 3 _ rfl;have k4:=hq 4 _ rfl;have k5:=hq 5 _ rfl;clear hq A0))
  go_ret;exact ⟨Q09.no (fun h=>Xam (Xe1 HP) h.2.1) rfl,Below.next0 HB.out H2.out⟩
 have HI:=Xh2 (Tt (Xo0 HP)) (Tt (Xe1 HP))
 go_enter Tryz.func52,Tryz.ntmps52
 go_upto_region 1 with fail
 clear E1
 go_wp2_with (first
  |(go_at_call 55;refine ((HC.out w2 H2.out).2.2.2 (Xo0 HI) (Xe1 HI)).mono ?_;rintro e w3 ⟨⟨s,rfl,hs⟩,I0⟩;have H3:=Xh2 hs (Below.next0 H2.out I0);clear hs I0)
  |(go_at_call_of 53 (Value.agg #[.bool ny,.int .i64 ey,.slice b m d]);refine (HC.out w1 H1.out).2.2.1.mono ?_;rintro e w2 ⟨rfl,D0⟩;rw[(Xe1 HP)];have H2:=Ua (Below.next0 H1.out D0);have hq:=(HC.out w2 H2.out).1;have k0:=hq 0 _ rfl;have k1:=hq 1 _ rfl;have k2:=hq 2 _ rfl;have k3:=hq 3 _ rfl;have k4:=hq 4 _ rfl;have k5:=hq 5 _ rfl;clear hq D0)
  |(go_at_call_of 53 (Value.agg #[.bool nx,.int .i64 ex,.slice a l c]);refine (HC.out W0 (Uc _ _)).2.1.mono ?_;rintro e w1 ⟨rfl,A0⟩;rw[(Xo0 HP)];have H1:=Ua A0;have hq:=(HC.out w1 A0).1;have k0:=hq 0 _ rfl;have k1:=hq 1 _ rfl;have k2:=hq 2 _ rfl;have k3:=hq 3 _ rfl;have k4:=hq 4 _ rfl;have k5:=hq 5 _ rfl;clear hq A0))
 go_ret;refine ⟨Q09.of (b:=decide (s<=0)) ?_ rfl,Below.next0 HB.out (Xe1 H3)⟩;have hs:=(Xo0 H3).2;unfold IvV.ok Qec;rw[TG];refine ⟨fun h=>⟨(Xo0 HI),(Xe1 HI),?_⟩,fun h=>?_⟩
 ·cases hv:Q20 (Q1r ny ey ks-Q1r nx ex ls)
  ·exact hv
  ·have:=hs.2 hv;omega
 ·refine Int.not_lt.1 fun h0=>?_;have h3:=h.2.2;unfold Q39.val at h3;rw[hs.1 h0] at h3;cases h3
def Quz (w:World) (g o:Nat) (x:IvV):Prop:=∃a l c b m d,(w.cell? ⟨g,o,none⟩=some (.bool x.lo.neg)/\w.cell? ⟨g,o+1,none⟩=some (.int .i64 x.lo.exp)/\w.cell? ⟨g,o+2,none⟩=some (.slice a l c)/\w.cell? ⟨g,o+3,none⟩=some (.bool x.hi.neg)/\w.cell? ⟨g,o+4,none⟩=some (.int .i64 x.hi.exp)/\w.cell? ⟨g,o+5,none⟩=some (.slice b m d))/\Q0i w a l c x.lo/\Q0i w b m d x.hi
theorem Quz.step {w w':World} {g o:Nat} {x:IvV} (h:Quz w g o x) (hb:Bw w w') (E0:g<w.heap.size):Quz w' g o x:=by
 obtain ⟨a,l,c,b,m,d,⟨h0,h1,h2,h3,h4,h5⟩,h6,h7⟩:=h;have hc:∀i v,w.cell? ⟨g,i,none⟩=some v->w'.cell? ⟨g,i,none⟩=some v:=fun i v h=>(hb.cell (p:=⟨g,i,none⟩) E0).trans h;exact ⟨a,l,c,b,m,d,⟨hc _ _ h0,hc _ _ h1,hc _ _ h2,hc _ _ h3,hc _ _ h4,hc _ _ h5⟩,h6.step hb,h7.step hb⟩
def Q86 (w:World) (a:OA) (n c:Nat) (B:List IvV):Prop:=
 B.length=n/\n<=c/\c<=9223372036854775807/\(B=[]∨∃b o,a=some ⟨b,o,none⟩/\b<w.heap.size/\∀j x,B[j]?=some x->Quz w b (o+j*6) x)
theorem Q86.step {w w':World} {a:OA} {n c:Nat} {B:List IvV} (h:Q86 w a n c B) (hb:Bw w w'):Q86 w' a n c B:=by
 obtain ⟨h1,h2,h3,h4⟩:=h;refine ⟨h1,h2,h3,?_⟩;rcases h4 with h4|⟨b,o,h5,h6,h7⟩
 ·exact .inl h4
 ·exact .inr ⟨b,o,h5,Ue h6 hb.size,fun j m hm=>(h7 j m hm).step hb h6⟩
def Qd7 (B:List IvV):Prop:=1<=B.length/\B.length<=4/\∀x∈B,x.ok
theorem Qim (a:OA) (n c:Nat) (B:List IvV) (w:World) (h:Q86 w a n c B):
 Calls Tryz.prog 19 #[.slice a n c] w fun r w'=>Q09 (Qd7 B) r/\Bw w w':=by
 have Q2:=h.1;subst Q2;have R2:=Ul h.2.1 h.2.2.1;have HM:=Ua h;clear h
 go_enter Tryz.func19,Tryz.ntmps19
 go_wp2_with fail
 go_loopw [7] (fun iv wr=>∃i:Nat,iv=.int .i64 (i:Int)/\i<=B.length/\(∀j x,j<i->B[j]?=some x->x.ok)/\Bw w wr) (fun iv _=>B.length-(intOf iv).toNat)
 case atStart=>exact ⟨0,rfl,Ut _,fun j m h=>absurd h (Tk _),Uc _ _⟩
 case round=>
  obtain ⟨i,rfl,hi,O1,hb⟩:=hrel
  by_cases E0:i<B.length
  ·have F0:(i:Int)<(B.length:Int):=(by omega);obtain ⟨x,hm⟩:∃x,B[i]?=some x:=⟨_,Ub E0⟩;obtain ⟨b0,o0,rfl,Z0,R1⟩:∃b o,a=some ⟨b,o,none⟩/\b<wr.heap.size/\∀j x,B[j]?=some x->Quz wr b (o+j*6) x:=by
    rcases (HM.out.step hb).2.2.2 with h0|h0
    ·rw[h0] at E0;simp at E0
    ·exact h0
   obtain ⟨p,l,d,q,m,e,⟨y0,y1,y2,y3,y4,y5⟩,A5,o4⟩:=R1 i x hm;have hC:=Q3h.new wr [.bool x.lo.neg,.int .i64 x.lo.exp,.slice p l d,.bool x.hi.neg,.int .i64 x.hi.exp,.slice q m e] 44
   change Q3h (wr.alloc (.cells #[.bool x.lo.neg,.int .i64 x.lo.exp,.slice p l d,.bool x.hi.neg,.int .i64 x.hi.exp,.slice q m e] 44)) _ _ at hC
   have P3:Bw wr (wr.alloc (.cells #[.bool x.lo.neg,.int .i64 x.lo.exp,.slice p l d,.bool x.hi.neg,.int .i64 x.hi.exp,.slice q m e] 44)):=Ba;obtain ⟨r,hr,G2⟩:=yn (Ql5 x p q l d m e _ (A5.step P3) (o4.step P3));have k0:=hC 0 _ rfl;have k1:=hC 1 _ rfl;have k2:=hC 2 _ rfl;have k3:=hC 3 _ rfl;have k4:=hC 4 _ rfl;have k5:=hC 5 _ rfl;have HA:=Xh5 O1 (Below.next0 hb P3) hm hr G2;clear O1 hb hm R1 A5 o4 hC P3 hr G2;cases r
   ·go_wp2_with (refine (Xe4 HA).mono ?_;rintro r w1 ⟨rfl,A0⟩;have O0:=Ua A0;clear A0)
    go_ret;exact ⟨Q09.no (fun h=>by have:=(Xo3 HA).2 (h.2.2 x (Ug (Xo2 HA)));cases this) rfl,Below.next0 (Xo1 HA) O0.out⟩
   ·go_wp2_with (refine (Xe4 HA).mono ?_;rintro r w1 ⟨rfl,A0⟩;have O0:=Ua A0;clear A0)
    refine ⟨⟨i+1,by simp,by omega,fun j z hj hx=>?_,Below.next0 (Xo1 HA) O0.out⟩,by simp only[intOf];omega⟩
    by_cases hji:j=i
    ·subst hji;have:=(Xo2 HA);rw[hx] at this;injection this with this;rw[this];exact (Xo3 HA).1 (by trivial)
    ·exact (Xo0 HA) j z (by omega) hx
  ·obtain rfl:i=B.length:=(by omega);have F0:¬((B.length:Int)<(B.length:Int)):=(by omega);have R0:∀x∈B,x.ok:=fun m hm=>by
    obtain ⟨j,hj⟩:=UQ.1 hm;exact O1 j m (Ui.1 hj).1 hj
   have HF:=Xh2 R0 hb;clear R0 hb O1
   by_cases k1:1<=B.length
   ·have k1':(1:Int)<=(B.length:Int):=by omega
    by_cases k4:B.length<=4
    ·have k4':(B.length:Int)<=4:=by omega
     go_wp2_with fail
     go_ret;exact ⟨Q09.yes ⟨k1,k4,(Xo0 HF)⟩ rfl,(Xe1 HF)⟩
    ·have k4':¬(B.length:Int)<=4:=by omega
     go_wp2_with fail
     go_ret;exact ⟨Q09.no (fun h=>k4 h.2.1) rfl,(Xe1 HF)⟩
   ·have k1':¬(1:Int)<=(B.length:Int):=by omega
    go_wp2_with fail
    go_ret;exact ⟨Q09.no (fun h=>k1 h.1) rfl,(Xe1 HF)⟩
noncomputable def yesB (Φ:Prop):Bool:= @decide Φ (Classical.propDecidable Φ)
theorem Q0b {Φ:Prop}:yesB Φ=true↔Φ:= @decide_eq_true_iff Φ (Classical.propDecidable Φ)
theorem yn1 {f:FuncId} {args:Array Value} {w:World} {Φ:Prop} {R:World->Prop} (h:Calls Tryz.prog f args w fun r w'=>Q09 Φ r/\R w') {b:Bool} (hb:yesB Φ=b):Calls Tryz.prog f args w fun r w'=>r=.returned (.bool b)/\R w':=by
 refine h.mono ?_;rintro r w' ⟨⟨d,rfl,hd⟩,hR⟩;refine ⟨?_,hR⟩;rw[<-hb,show yesB Φ=d from Xbb.2 (Q0b.trans hd.symm)]
structure Pl where
 a:OA
 l:Nat
 c:Nat
structure Qgo where
 f:Pl
 b:Pl
 t:Pl
 m:Pl
 e:Pl
structure Q33 where
 field:List (List Q00)
 box:List IvV
 til:Q39
 most:Q39
 least:Q39
 prec:Int
 order:Int
 budget:Int
def Q46 (p:Qgo) (x:Q33):LV:=[.slice p.f.a p.f.l p.f.c,.slice p.b.a p.b.l p.b.c,.bool x.til.neg,.int .i64 x.til.exp,.slice p.t.a p.t.l p.t.c,.bool x.most.neg,.int .i64 x.most.exp,.slice p.m.a p.m.l p.m.c,.bool x.least.neg,.int .i64 x.least.exp,.slice p.e.a p.e.l p.e.c,.int .i64 x.prec,.int .i64 x.order,.int .i64 x.budget]
structure Q2g [LT ZK] (w:World) (p:Qgo) (x:Q33):Prop where
 f:Q1v w p.f.a p.f.l p.f.c x.field
 b:Q86 w p.b.a p.b.l p.b.c x.box
 t:Q0i w p.t.a p.t.l p.t.c x.til
 m:Q0i w p.m.a p.m.l p.m.c x.most
 e:Q0i w p.e.a p.e.l p.e.c x.least
theorem Q2g.step [LT ZK] {w w':World} {p:Qgo} {x:Q33} (h:Q2g w p x) (hb:Bw w w'):Q2g w' p x:=⟨h.f.step hb,h.b.step hb,h.t.step hb,h.m.step hb,h.e.step hb⟩
structure Q24 (x:Q33):Prop where
 field:Q1w x.field
 box:Qd7 x.box
 same:x.box.length=x.field.length
 til:Q8b x.til
 most:Q8b x.most
 least:Q8b x.least
 ord:Qec x.least.val x.most.val
 prec:8<=x.prec/\x.prec<=256
 order:2<=x.order/\x.order<=10
 budget:1<=x.budget/\x.budget<=4096
theorem Q04 {w:World} {b:Nat} {v0 v1 v2 v3 v4 v5 v6 v7 v8 v9 v10 v11 v12 v13:Value} (h:Q3h w b [v0,v1,v2,v3,v4,v5,v6,v7,v8,v9,v10,v11,v12,v13]):
 w.cell? ⟨b,0,none⟩=some v0/\w.cell? ⟨b,1,none⟩=some v1/\w.cell? ⟨b,2,none⟩=some v2/\w.cell? ⟨b,3,none⟩=some v3/\w.cell? ⟨b,4,none⟩=some v4/\w.cell? ⟨b,5,none⟩=some v5/\w.cell? ⟨b,6,none⟩=some v6/\w.cell? ⟨b,7,none⟩=some v7/\w.cell? ⟨b,8,none⟩=some v8/\w.cell? ⟨b,9,none⟩=some v9/\w.cell? ⟨b,10,none⟩=some v10/\w.cell? ⟨b,11,none⟩=some v11/\w.cell? ⟨b,12,none⟩=some v12/\w.cell? ⟨b,13,none⟩=some v13:=
 ⟨h 0 _ rfl,h 1 _ rfl,h 2 _ rfl,h 3 _ rfl,h 4 _ rfl,h 5 _ rfl,h 6 _ rfl,h 7 _ rfl,h 8 _ rfl,h 9 _ rfl,h 10 _ rfl,h 11 _ rfl,h 12 _ rfl,h 13 _ rfl⟩
theorem Ql6 (x:Q33) {b1 b2 b3 b4 b5 b6 b7 b8 b9 b10:Bool} (h1:yesB (Q1w x.field)=b1) (h2:yesB (Qd7 x.box)=b2) (h3:yesB (x.box.length=x.field.length)=b3) (h4:yesB (Q8b x.til)=b4) (h5:yesB (Q8b x.most)=b5) (h6:yesB (Q8b x.least)=b6) (h7:yesB (Qec x.least.val x.most.val)=b7) (h8:decide (8<=x.prec/\x.prec<=256)=b8) (h9:decide (2<=x.order/\x.order<=10)=b9) (L8:decide (1<=x.budget/\x.budget<=4096)=b10):
 yesB (Q24 x)=(b1 && (b2 && (b3 && (b4 && (b5 && (b6 && (b7 && (b8 && (b9 && b10))))))))):=by
 subst h1 h2 h3 h4 h5 h6 h7 h8 h9 L8;rw[Xbb];simp only[Xav,Q0b,TG];exact ⟨fun h=>⟨h.1,h.2,h.3,h.4,h.5,h.6,h.7,h.8,h.9,h.10⟩,fun ⟨h1,h2,h3,h4,h5,h6,h7,h8,h9,L8⟩=>⟨h1,h2,h3,h4,h5,h6,h7,h8,h9,L8⟩⟩
theorem Qyw {s:Int} {x y:Dyadic} {b:Bool} (hs:Q3v s x y) (hb:yesB (Qec x y)=b):decide (0<s)= !b:=by
 have h1:=hs.2;rw[<-hb]
 by_cases h0:0<s
 ·rw[UT h0];have:¬Qec x y:=fun h=>by unfold Qec at h;rw[h1.1 h0] at h;cases h
  cases hv:yesB (Qec x y)
  ·rfl
  ·exact absurd (Q0b.1 hv) this
 ·rw[UX h0];have:Qec x y:=by
   unfold Qec;cases hv:Q20 (y-x)
   ·rfl
   ·exact absurd (h1.2 hv) h0
  rw[Q0b.2 this];rfl
theorem Q3y [LT ZK] (p:Qgo) (x:Q33) (w:World) (h:Q2g w p x):
 Calls Tryz.prog 9 #[.agg (Q46 p x).toArray] w fun r w'=>Q09 (Q24 x) r/\Bw w w':=by
 suffices hs:Calls Tryz.prog 9 #[.agg (Q46 p x).toArray] w fun r w'=>r=.returned (.bool (yesB (Q24 x)))/\Bw w w' from hs.mono fun r w' ⟨h1,h2⟩=>⟨Q09.of Q0b h1,h2⟩
 obtain ⟨⟨fa,fl,fc⟩,⟨ba,bl,bc⟩,⟨ta,tl,tc⟩,⟨ma,ml,mc⟩,⟨ea,el,ec⟩⟩:=p;obtain ⟨F,B,⟨tn,te,ts⟩,⟨mn,me,ms⟩,⟨en,ee,es⟩,prec,order,budget⟩:=x;have hfl:F.length=fl:=h.f.1;have V5:B.length=bl:=h.b.1;obtain ⟨b1,h1⟩:∃b,yesB (Q1w F)=b:=⟨_,rfl⟩;obtain ⟨b2,h2⟩:∃b,yesB (Qd7 B)=b:=⟨_,rfl⟩;obtain ⟨b3,h3⟩:∃b,yesB (B.length=F.length)=b:=⟨_,rfl⟩;obtain ⟨b4,h4⟩:∃b,yesB (Q8b ⟨tn,te,ts⟩)=b:=⟨_,rfl⟩;obtain ⟨b5,h5⟩:∃b,yesB (Q8b ⟨mn,me,ms⟩)=b:=⟨_,rfl⟩;obtain ⟨b6,h6⟩:∃b,yesB (Q8b ⟨en,ee,es⟩)=b:=⟨_,rfl⟩;obtain ⟨b7,h7⟩:∃b,yesB (Qec (Q39.val ⟨en,ee,es⟩) (Q39.val ⟨mn,me,ms⟩))=b:=⟨_,rfl⟩;obtain ⟨b8,h8⟩:∃b,decide (8<=prec/\prec<=256)=b:=⟨_,rfl⟩;obtain ⟨b9,h9⟩:∃b,decide (2<=order/\order<=10)=b:=⟨_,rfl⟩;obtain ⟨b10,L8⟩:∃b,decide (1<=budget/\budget<=4096)=b:=⟨_,rfl⟩;have HR:=Ua (Ql6 ⟨F,B,⟨tn,te,ts⟩,⟨mn,me,ms⟩,⟨en,ee,es⟩,prec,order,budget⟩ h1 h2 h3 h4 h5 h6 h7 h8 h9 L8);generalize yesB (Q24 ⟨F,B,⟨tn,te,ts⟩,⟨mn,me,ms⟩,⟨en,ee,es⟩,prec,order,budget⟩)=rr at HR⊢;have hC:=Q3h.new w (Q46 ⟨⟨fa,fl,fc⟩,⟨ba,bl,bc⟩,⟨ta,tl,tc⟩,⟨ma,ml,mc⟩,⟨ea,el,ec⟩⟩ ⟨F,B,⟨tn,te,ts⟩,⟨mn,me,ms⟩,⟨en,ee,es⟩,prec,order,budget⟩) 28;have Z0:Bw w (w.alloc (.cells (Q46 ⟨⟨fa,fl,fc⟩,⟨ba,bl,bc⟩,⟨ta,tl,tc⟩,⟨ma,ml,mc⟩,⟨ea,el,ec⟩⟩ ⟨F,B,⟨tn,te,ts⟩,⟨mn,me,ms⟩,⟨en,ee,es⟩,prec,order,budget⟩).toArray 28)):=Ba;have E0:=Q0p w (.cells (Q46 ⟨⟨fa,fl,fc⟩,⟨ba,bl,bc⟩,⟨ta,tl,tc⟩,⟨ma,ml,mc⟩,⟨ea,el,ec⟩⟩ ⟨F,B,⟨tn,te,ts⟩,⟨mn,me,ms⟩,⟨en,ee,es⟩,prec,order,budget⟩).toArray 28);simp only[Q46] at hC Z0 E0⊢;obtain ⟨W0,E1⟩:∃W0,w.alloc (.cells #[.slice fa fl fc,.slice ba bl bc,.bool tn,.int .i64 te,.slice ta tl tc,.bool mn,.int .i64 me,.slice ma ml mc,.bool en,.int .i64 ee,.slice ea el ec,.int .i64 prec,.int .i64 order,.int .i64 budget] 28)=W0:=⟨_,rfl⟩;rw[E1] at hC Z0 E0;have HC:=Ua (fun V (hV:Bw W0 V)=>have hh:=h.step (Below.next0 Z0 hV);And.intro (hC.step hV E0) (And.intro (yn1 (Q8c fa fl fc F V hh.f) h1) (And.intro (yn1 (Qim ba bl bc B V hh.b) h2) (And.intro (yn1 (Qd6 ⟨tn,te,ts⟩ ta tl tc V hh.t) h4) (And.intro (yn1 (Qd6 ⟨mn,me,ms⟩ ma ml mc V hh.m) h5) (And.intro (yn1 (Qd6 ⟨en,ee,es⟩ ea el ec V hh.e) h6) (fun i1 i2=>Qok ⟨en,ee,es⟩ ⟨mn,me,ms⟩ ea ma el ec ml mc V hh.e hh.m i1 i2)))))));have HH:=Xh7 h5 h6 h7 h8 h9 L8 Z0;obtain ⟨k0,k1,k2,k3,k4,k5,k6,k7,k8,k9,k10,k11,k12,k13⟩:=Q04 hC;clear hC Z0 E0 h h1 h2 h4 h5 h6 h7 h8 h9 L8;have key:(b1=false)∨(b1=true/\b2=false)∨(b1=true/\b2=true/\b3=false/\¬(bl:Int)=(fl:Int))∨(b1=true/\b2=true/\b3=true/\bl=fl/\b4=false)∨(b1=true/\b2=true/\b3=true/\bl=fl/\b4=true/\b5=false)∨(b1=true/\b2=true/\b3=true/\bl=fl/\b4=true/\b5=true/\b6=false)∨(b1=true/\b2=true/\b3=true/\bl=fl/\b4=true/\b5=true/\b6=true/\b7=false)∨(b1=true/\b2=true/\b3=true/\bl=fl/\b4=true/\b5=true/\b6=true/\b7=true/\b8=false)∨(b1=true/\b2=true/\b3=true/\bl=fl/\b4=true/\b5=true/\b6=true/\b7=true/\b8=true/\b9=false)∨(b1=true/\b2=true/\b3=true/\bl=fl/\b4=true/\b5=true/\b6=true/\b7=true/\b8=true/\b9=true):=by
  have Vi:=fun h:b3=true=>Q0b.1 (h3.trans h);have h3'':b3=false->¬(bl:Int)=(fl:Int):=fun h e=>by rw[Q0b.2 (by omega)] at h3;rw[h] at h3;cases h3
  have h4':b3=true->bl=fl:=fun h=>by have:=Vi h;omega
  clear h3 Vi;cases b1 <;> cases b2 <;> cases b3 <;> cases b4 <;> cases b5 <;> cases b6 <;> cases b7 <;> cases b8 <;> cases b9 <;> simp_all
 clear h3;rcases key with rfl|⟨rfl,rfl⟩|⟨rfl,rfl,rfl,P0⟩|⟨rfl,rfl,rfl,rfl,rfl⟩|⟨rfl,rfl,rfl,rfl,rfl,rfl⟩|⟨rfl,rfl,rfl,rfl,rfl,rfl,rfl⟩|⟨rfl,rfl,rfl,rfl,rfl,rfl,rfl,rfl⟩|⟨rfl,rfl,rfl,rfl,rfl,rfl,rfl,rfl,rfl⟩|⟨rfl,rfl,rfl,rfl,rfl,rfl,rfl,rfl,rfl,rfl⟩|⟨rfl,rfl,rfl,rfl,rfl,rfl,rfl,rfl,rfl,rfl⟩
 all_goals
  go_enter Tryz.func9,Tryz.ntmps9
  go_upto_region 1 with fail
  clear E1
  go_wp2_with (first
   |(go_at_call 18;refine ((HC.out W0 (Uc _ _)).2.1).mono ?_;rintro e w1 ⟨rfl,hb⟩;have H1:=Ua hb;have hq:=(HC.out w1 H1.out).1;obtain ⟨k0,k1,k2,k3,k4,k5,k6,k7,k8,k9,k10,k11,k12,k13⟩:=Q04 hq;clear hq hb)
   |(go_at_call 19;refine ((HC.out w1 H1.out).2.2.1).mono ?_;rintro e w2 ⟨rfl,hb⟩;have H2:=Ua (Below.next0 H1.out hb);have hq:=(HC.out w2 H2.out).1;obtain ⟨k0,k1,k2,k3,k4,k5,k6,k7,k8,k9,k10,k11,k12,k13⟩:=Q04 hq;clear hq hb)
   |(go_at_call_of 20 (Value.agg #[.bool tn,.int .i64 te,.slice ta tl tc]);refine ((HC.out w2 H2.out).2.2.2.1).mono ?_;rintro e w3 ⟨rfl,hb⟩;have H3:=Ua (Below.next0 H2.out hb);have hq:=(HC.out w3 H3.out).1;obtain ⟨k0,k1,k2,k3,k4,k5,k6,k7,k8,k9,k10,k11,k12,k13⟩:=Q04 hq;clear hq hb)
   |(go_at_call_of 20 (Value.agg #[.bool mn,.int .i64 me,.slice ma ml mc]);refine ((HC.out w3 H3.out).2.2.2.2.1).mono ?_;rintro e w4 ⟨rfl,hb⟩;have H4:=Ua (Below.next0 H3.out hb);have hq:=(HC.out w4 H4.out).1;obtain ⟨k0,k1,k2,k3,k4,k5,k6,k7,k8,k9,k10,k11,k12,k13⟩:=Q04 hq;clear hq hb)
   |(go_at_call_of 20 (Value.agg #[.bool en,.int .i64 ee,.slice ea el ec]);refine ((HC.out w4 H4.out).2.2.2.2.2.1).mono ?_;rintro e w5 ⟨rfl,hb⟩;have H5:=Ua (Below.next0 H4.out hb);have hq:=(HC.out w5 H5.out).1;obtain ⟨k0,k1,k2,k3,k4,k5,k6,k7,k8,k9,k10,k11,k12,k13⟩:=Q04 hq;clear hq hb)
   |(go_at_call 21;refine ((HC.out w5 H5.out).2.2.2.2.2.2 (Q0b.1 (Xo1 HH)).1 (Q0b.1 (Xo0 HH)).1).mono ?_;rintro e w6 ⟨⟨s,rfl,hs⟩,hb⟩;have Zs:=Qyw hs (Xo2 HH);simp only[Bool.not_true,Bool.not_false,TJ,Tq] at Zs;clear hs;have H6:=Ua (Below.next0 H5.out hb);have hq:=(HC.out w6 H6.out).1;obtain ⟨k0,k1,k2,k3,k4,k5,k6,k7,k8,k9,k10,k11,k12,k13⟩:=Q04 hq;clear hq hb)
   |(go_at_call_of 22 (Value.int .i64 prec);refine (Q8o prec 8 256 w6).mono ?_;rintro e w7 ⟨rfl,hb⟩;rw[(Xo3 HH)];have H7:=Ua (Below.next0 H6.out hb);have hq:=(HC.out w7 H7.out).1;obtain ⟨k0,k1,k2,k3,k4,k5,k6,k7,k8,k9,k10,k11,k12,k13⟩:=Q04 hq;clear hq hb)
   |(go_at_call_of 22 (Value.int .i64 order);refine (Q8o order 2 10 w7).mono ?_;rintro e w8 ⟨rfl,hb⟩;rw[(Xo4 HH)];have H8:=Ua (Below.next0 H7.out hb);have hq:=(HC.out w8 H8.out).1;obtain ⟨k0,k1,k2,k3,k4,k5,k6,k7,k8,k9,k10,k11,k12,k13⟩:=Q04 hq;clear hq hb)
   |(go_at_call_of 22 (Value.int .i64 budget);refine (Q8o budget 1 4096 w8).mono ?_;rintro e w9 ⟨rfl,hb⟩;rw[(Xo5 HH)];have H9:=Ua (Below.next0 H8.out hb);have hq:=(HC.out w9 H9.out).1;obtain ⟨k0,k1,k2,k3,k4,k5,k6,k7,k8,k9,k10,k11,k12,k13⟩:=Q04 hq;clear hq hb))
  go_ret
  first
  |exact ⟨by rw[HR.out];rfl,Below.next0 (Xe6 HH) H9.out⟩
  |exact ⟨by rw[HR.out];rfl,Below.next0 (Xe6 HH) H8.out⟩
  |exact ⟨by rw[HR.out];rfl,Below.next0 (Xe6 HH) H7.out⟩
  |exact ⟨by rw[HR.out];rfl,Below.next0 (Xe6 HH) H6.out⟩
  |exact ⟨by rw[HR.out];rfl,Below.next0 (Xe6 HH) H5.out⟩
  |exact ⟨by rw[HR.out];rfl,Below.next0 (Xe6 HH) H4.out⟩
  |exact ⟨by rw[HR.out];rfl,Below.next0 (Xe6 HH) H3.out⟩
  |exact ⟨by rw[HR.out];rfl,Below.next0 (Xe6 HH) H2.out⟩
  |exact ⟨by rw[HR.out];rfl,Below.next0 (Xe6 HH) H1.out⟩
theorem Q5e {Φ:Prop} (h:yesB Φ=false):¬Φ:=fun h'=>by rw[Q0b.2 h'] at h;cases h
theorem Q5f {α:Type} {A B:List α} {n:Nat} (hA:A.length=n) (hB:B.length=n) (h:∀j,j<n->A[j]?=B[j]?):A=B:=by
 refine Xax fun j=>?_
 by_cases hj:j<n
 ·exact h j hj
 ·rw[UU (by omega),UU (by omega)]
theorem Q5g {α:Type} {A B:List α} {i:Nat} {x:α} (h:∀j,j<i->A[j]?=B[j]?) (ha:A[i]?=some x) (hb:B[i]?=some x):∀j,j<i+1->A[j]?=B[j]?:=fun j hj=>by
 by_cases e:j=i
 ·rw[e,ha,hb]
 ·exact h j (by omega)
theorem Q6w {α:Type} {A B:List α} {i:Nat} {x y:α} (ha:A[i]?=some x) (hb:B[i]?=some y) (P0:x≠y):A≠B:=fun e=>by
 rw[e,hb] at ha;injection ha with ha;exact P0 ha.symm
theorem Qd8 {α:Type} {A B:List α} {n m:Nat} (hA:A.length=n) (hB:B.length=m) (h:¬(n:Int)=(m:Int)):A≠B:=fun e=>h (by rw[<-hA,<-hB,e])
theorem Qol [LT ZK] (a b:OA) (n c m d:Nat) (E F:List Int) (w:World) (h1:Q0q w a n c E) (h2:Q0q w b m d F):
 Calls Tryz.prog 105 #[.slice a n c,.slice b m d] w fun r w'=>Q09 (E=F) r/\Bw w w':=by
 have i5:=h1.len;have o7:=h2.len;have R2:=Ul h1.cap h1.most;have Zm:=Ul h2.cap h2.most;have H:=Xh2 h1.rd h2.rd;clear h1 h2
 by_cases ZT:n=m
 case neg=>
  have A8:¬(n:Int)=(m:Int):=by omega
  go_enter Tryz.func105,Tryz.ntmps105
  go_wp2_with fail
  go_ret;exact ⟨Q09.no (Qd8 i5 o7 A8) rfl,Uc _ _⟩
 case pos=>
 subst ZT
 go_enter Tryz.func105,Tryz.ntmps105
 go_wp2_with fail
 go_loopw [13] (fun s wr=>∃i:Nat,s=.int .i64 (i:Int)/\i<=n/\(∀j,j<i->E[j]?=F[j]?)/\Bw w wr) (fun iv _=>n-(intOf iv).toNat)
 case atStart=>exact ⟨0,rfl,Ut _,fun j hj=>absurd hj (Tk _),Uc _ _⟩
 case round=>
  obtain ⟨i,rfl,hi,hq,M0⟩:=hrel
  by_cases E0:i<n
  ·have F0:(i:Int)<(n:Int):=(by omega);obtain ⟨x,hx⟩:∃x,E[i]?=some x:=⟨_,Ub (by omega)⟩;obtain ⟨y,hy⟩:∃x,F[i]?=some x:=⟨_,Ub (by omega)⟩;obtain ⟨b1,o1,rfl,A0,k1⟩:=(Xo0 H).at_ hx;obtain ⟨b2,o2,rfl,D0,k2⟩:=(Xe1 H).at_ hy;have k1:=(M0.cell (p:=⟨b1,o1+i,none⟩) A0).trans k1;have k2:=(M0.cell (p:=⟨b2,o2+i,none⟩) D0).trans k2;have HQ:=Xh4 M0 hq hx hy;clear hq hx hy M0
   by_cases JY:x=y
   ·subst JY
    go_upto_region 6 with fail
    go_quiet (fail)
    go_wp2_with fail
    exact ⟨⟨i+1,congrArg (Value.int .i64) (by omega),by omega,Q5g (Xo1 HQ) (Xo2 HQ) (Xe3 HQ),Q16 (Xo0 HQ) _⟩,by simp only[intOf];omega⟩
   ·go_upto_region 6 with fail
    go_quiet (fail)
    go_wp2_with fail
    go_ret;exact ⟨Q09.no (Q6w (Xo2 HQ) (Xe3 HQ) JY) rfl,Q16 (Xo0 HQ) _⟩
  ·have F0:¬(i:Int)<(n:Int):=(by omega);have HQ:=Xh2 M0 (Q5f i5 o7 fun j hj=>hq j (by omega));clear hq M0
   go_wp2_with fail
   go_ret;exact ⟨Q09.yes (Xe1 HQ) rfl,(Xo0 HQ)⟩
theorem Qmv {x y:Q39}:decide (x.neg=y.neg/\x.exp=y.exp/\x.ws=y.ws)=true↔x=y:=by
 rw[TG];exact ⟨fun ⟨p,q,r⟩=>by cases x;cases y;simp at p q r;subst p q r;rfl,fun e=>by subst e;exact ⟨rfl,rfl,rfl⟩⟩
theorem Q47 (x y:Q39) (a b:OA) (l c m d:Nat) (w:World) (h1:Q0i w a l c x) (h2:Q0i w b m d y):
 Calls Tryz.prog 30 #[.agg #[.bool x.neg,.int .i64 x.exp,.slice a l c],.agg #[.bool y.neg,.int .i64 y.exp,.slice b m d]] w fun r w'=>Q09 (x=y) r/\Bw w w':=
 (Qc9 x.neg x.exp a l c x.ws y.neg y.exp b m d y.ws w h1.lie h2.lie (Ul h1.lie.cap h1.lie.most)).mono fun r w' ⟨h,hb⟩=>⟨Q09.of Qmv h,hb⟩
def Q00.num (m:Q00):Q39:=⟨m.neg,m.exp,m.ws⟩
theorem Q9m {m k:Q00}:m=k↔m.num=k.num/\m.es=k.es:=by
 refine ⟨fun e=>by subst e;exact ⟨rfl,rfl⟩,fun ⟨h1,h2⟩=>?_⟩;cases m;cases k;simp only[Q00.num,Q39.mk.injEq] at h1;obtain ⟨rfl,rfl,rfl⟩:=h1;simp only at h2;subst h2;rfl
theorem Qin [LT ZK] (m k:Q00) (aw:OA) (lw cw:Nat) (ae:OA) (le ce:Nat) (bw:OA) (mw dw:Nat) (be:OA) (me de:Nat) (w:World) (h1:Q0i w aw lw cw m.num) (h2:Q0i w bw mw dw k.num) (e1:Q0q w ae le ce m.es) (e2:Q0q w be me de k.es):
 Calls Tryz.prog 104 #[.agg #[.bool m.neg,.int .i64 m.exp,.slice aw lw cw,.slice ae le ce],.agg #[.bool k.neg,.int .i64 k.exp,.slice bw mw dw,.slice be me de]] w fun r w'=>Q09 (m=k) r/\Bw w w':=by
 obtain ⟨W,hW⟩:∃W,(w.alloc (.cells #[.bool m.neg,.int .i64 m.exp,.slice aw lw cw,.slice ae le ce] 98)).alloc (.cells #[.bool k.neg,.int .i64 k.exp,.slice bw mw dw,.slice be me de] 98)=W:=⟨_,rfl⟩;have D2:=Uk w (.cells #[.bool m.neg,.int .i64 m.exp,.slice aw lw cw,.slice ae le ce] 98);have hb:Bw w W:=by rw[<-hW];exact (Ba).alloc (by rw[D2];omega) _
 have hx:=(Q32.new w (.bool m.neg) (.int .i64 m.exp) (.slice aw lw cw) (.slice ae le ce) 98).step ((Uc _ _).alloc (Uf _) (.cells #[.bool k.neg,.int .i64 k.exp,.slice bw mw dw,.slice be me de] 98)) (Q0p _ _);have hy:=Q32.new (w.alloc (.cells #[.bool m.neg,.int .i64 m.exp,.slice aw lw cw,.slice ae le ce] 98)) (.bool k.neg) (.int .i64 k.exp) (.slice bw mw dw) (.slice be me de) 98;rw[hW] at hx hy;rw[D2] at hy;have K5:w.heap.size+1<W.heap.size:=UI hy.c0;obtain ⟨x0,x1,x2⟩:=hx.cc;obtain ⟨y0,y1,y2⟩:=hy.cc;obtain ⟨b1,A0,hns⟩:=yn (Q47 m.num k.num aw bw lw cw mw dw W (h1.step hb) (h2.step hb));simp only[Q00.num] at hns;obtain ⟨b2,D0⟩:∃b,yesB (m.es=k.es)=b:=⟨_,rfl⟩;have G4:∀V,Bw w V->Calls Tryz.prog 105 #[.slice ae le ce,.slice be me de] V fun e w'=>e=.returned (.bool b2)/\Bw V w':=fun V hV=>yn1 (Qol ae be le ce me de m.es k.es V (e1.step hV) (e2.step hV)) D0;have hans:b1=false->¬m=k:=fun h0 e=>by
  have:=A0.2 (Q9m.1 e).1;rw[h0] at this;cases this
 have Wd:b1=true->(b2=true↔m=k):=fun h0=>by
  rw[<-D0,Q0b];exact ⟨fun h=>Q9m.2 ⟨A0.1 h0,h⟩,fun e=>(Q9m.1 e).2⟩
 have H:=Xh7 hx hy hans Wd G4 hb K5;clear hx hy e1 e2 hb K5 h1 h2 G4 A0 D0 hans Wd;cases b1
 all_goals
  go_enter Tryz.func104,Tryz.ntmps104
  go_wp2_with (first
   |(go_at_call 105
     refine G4.mono ?_;rintro r w4 ⟨rfl,N1⟩;have H4:=Ua N1;clear N1)
   |(go_at_call 30
     refine hns.mono ?_;rintro r w3 ⟨rfl,I0⟩;have hl:=(Xe6 H);have x3:=((Xo0 H).step I0 (by omega)).c3;have y3:=((Xo1 H).step I0 (by omega)).c3;have G4:=(Xo4 H) w3 (Below.next0 (Xo5 H) I0);have H3:=Ua I0;clear I0 hns hl))
  go_ret
 ·exact ⟨Q09.no ((Xo2 H) (by trivial)) rfl,Below.next0 (Xo5 H) H3.out⟩
 ·exact ⟨Q09.of ((Xo3 H) (by trivial)) rfl,Below.next0 (Xo5 H) (Below.next0 H3.out H4.out)⟩
theorem Qbt [LT ZK] {w:World} {b o:Nat} {m:Q00} (h:Q41 w b o m):∃aw lw cw ae le ce,(w.cell? ⟨b,o,none⟩=some (.bool m.neg)/\w.cell? ⟨b,o+1,none⟩=some (.int .i64 m.exp)/\w.cell? ⟨b,o+2,none⟩=some (.slice aw lw cw)/\w.cell? ⟨b,o+3,none⟩=some (.slice ae le ce))/\Q0i w aw lw cw m.num/\Q0q w ae le ce m.es:=by
 obtain ⟨aw,lw,cw,ae,le,ce,k0,k1,k2,k3,hw,he,hx,hy⟩:=h;exact ⟨aw,lw,cw,ae,le,ce,⟨k0,k1,k2,k3⟩,⟨hw,hx,hy⟩,he⟩
theorem Qbu [LT ZK] {w:World} {a:OA} {n c i:Nat} {ms:List Q00} {x:Q00} (h:Q0e w a n c ms) (hx:ms[i]?=some x):∃b o,a=some ⟨b,o,none⟩/\b<w.heap.size/\Q41 w b (o+i*4) x:=by
 rcases h.2.2.2 with h0|⟨b,o,h1,h2,h3⟩
 ·rw[h0] at hx;simp at hx
 ·exact ⟨b,o,h1,h2,h3 i x hx⟩
theorem Q9n [LT ZK] {w:World} {a:OA} {n c i:Nat} {F:List (List Q00)} {ms:List Q00} (h:Q1v w a n c F) (hx:F[i]?=some ms):∃b o,a=some ⟨b,o,none⟩/\b<w.heap.size/\∃p l d,w.cell? ⟨b,o+i,none⟩=some (.slice p l d)/\Q0e w p l d ms:=by
 rcases h.2.2.2 with h0|⟨b,o,h1,h2,h3⟩
 ·rw[h0] at hx;simp at hx
 ·exact ⟨b,o,h1,h2,h3 i ms hx⟩
theorem Qgp [LT ZK] (a b:OA) (n c m d:Nat) (ms ks:List Q00) (w:World) (h1:Q0e w a n c ms) (h2:Q0e w b m d ks):
 Calls Tryz.prog 103 #[.slice a n c,.slice b m d,.func (.func 104) #[] #[]] w fun r w'=>Q09 (ms=ks) r/\Bw w w':=by
 have Q2:=h1.1;have x6:=h2.1;have R2:=Ul h1.2.1 h1.2.2.1;have Zm:=Ul h2.2.1 h2.2.2.1;have H:=Xh2 h1 h2;clear h1 h2
 by_cases ZT:n=m
 case neg=>
  have A8:¬(n:Int)=(m:Int):=by omega
  go_enter Tryz.func103,Tryz.ntmps103
  go_wp2_with fail
  go_ret;exact ⟨Q09.no (Qd8 Q2 x6 A8) rfl,Uc _ _⟩
 case pos=>
 subst ZT
 go_enter Tryz.func103,Tryz.ntmps103
 go_wp2_with fail
 go_loopw [17] (fun s17 wr=>∃i:Nat,s17=.int .i64 (i:Int)/\i<=n/\(∀j,j<i->ms[j]?=ks[j]?)/\Bw w wr) (fun iv _=>n-(intOf iv).toNat)
 case atStart=>exact ⟨0,rfl,Ut _,fun j hj=>absurd hj (Tk _),Uc _ _⟩
 case round=>
  obtain ⟨i,rfl,hi,hq,M0⟩:=hrel
  by_cases E0:i<n
  ·have F0:(i:Int)<(n:Int):=(by omega);obtain ⟨x,hx⟩:∃x,ms[i]?=some x:=⟨_,Ub (by omega)⟩;obtain ⟨y,hy⟩:∃x,ks[i]?=some x:=⟨_,Ub (by omega)⟩;obtain ⟨b1,o1,rfl,A0,Ju⟩:=Qbu ((Xo0 H).step M0) hx;obtain ⟨b2,o2,rfl,D0,ZJ⟩:=Qbu ((Xe1 H).step M0) hy;obtain ⟨aw,lw,cw,ae,le,ce,⟨k0,k1,k2,k3⟩,hw,he⟩:=Qbt Ju;obtain ⟨bw,mw,dw,be,me,de,⟨l0,l1,l2,l3⟩,R4,D5⟩:=Qbt ZJ;obtain ⟨W1,I1⟩:∃W1,wr.alloc (.cells #[.bool x.neg,.int .i64 x.exp,.slice aw lw cw,.slice ae le ce] 98)=W1:=⟨_,rfl⟩;have D2:W1.heap.size=wr.heap.size+1:=(by rw[<-I1];exact Uk _ _);have Qh:Bw wr W1:=(by rw[<-I1];exact Ba);have S4:=Q32.new wr (.bool x.neg) (.int .i64 x.exp) (.slice aw lw cw) (.slice ae le ce) 98;rw[I1] at S4;have l0:=(Qh.cell (p:=⟨b2,o2+i*4,none⟩) D0).trans l0;have l1:=(Qh.cell (p:=⟨b2,o2+i*4+1,none⟩) D0).trans l1;have l2:=(Qh.cell (p:=⟨b2,o2+i*4+2,none⟩) D0).trans l2;have l3:=(Qh.cell (p:=⟨b2,o2+i*4+3,none⟩) D0).trans l3;obtain ⟨W2,u4⟩:∃W2,W1.alloc (.cells #[.bool y.neg,.int .i64 y.exp,.slice bw mw dw,.slice be me de] 98)=W2:=⟨_,rfl⟩;have YI:Bw W1 W2:=(by rw[<-u4];exact Ba);have Q3:=Q32.new W1 (.bool y.neg) (.int .i64 y.exp) (.slice bw mw dw) (.slice be me de) 98;rw[u4] at Q3;have S4:=S4.step YI (by omega);rw[D2] at Q3;have XH:=Below.next0 Qh YI;obtain ⟨p0,p1,p2⟩:=S4.cc;have p3:=S4.c3;obtain ⟨r0,r1,r2⟩:=Q3.cc;have r3:=Q3.c3;obtain ⟨bb,Y2,C4⟩:=yn (Qin x y aw lw cw ae le ce bw mw dw be me de W2 (hw.step XH) (R4.step XH) (he.step XH) (D5.step XH));have HS:=Xh5 (Below.next0 M0 XH) hq hx hy Y2;clear M0 Qh YI XH Ju ZJ hw he R4 D5 S4 Q3 hx hy Y2 hq;cases bb
   ·go_wp2_with (go_at_call 104;refine C4.mono ?_;rintro r w3 ⟨rfl,I0⟩;have H3:=Ua I0;clear I0)
    go_ret;exact ⟨Q09.no (Q6w (Xo2 HS) (Xo3 HS) fun e=>by have:=(Xe4 HS).2 e;cases this) rfl,Below.next0 (Xo0 HS) H3.out⟩
   ·go_wp2_with (go_at_call 104;refine C4.mono ?_;rintro r w3 ⟨rfl,I0⟩;have H3:=Ua I0;clear I0)
    have e:=(Xe4 HS).1 (by trivial);exact ⟨⟨i+1,congrArg (Value.int .i64) (by omega),by omega,Q5g (Xo1 HS) (Xo2 HS) (by rw[e];exact (Xo3 HS)),Below.next0 (Xo0 HS) H3.out⟩,by simp only[intOf];omega⟩
  ·have F0:¬(i:Int)<(n:Int):=(by omega);have HS:=Xh2 M0 (Q5f Q2 x6 fun j hj=>hq j (by omega));clear M0 hq
   go_wp2_with fail
   go_ret;exact ⟨Q09.yes (Xe1 HS) rfl,(Xo0 HS)⟩
theorem Qio [LT ZK] (a b:OA) (n c m d:Nat) (ms ks:List Q00) (w:World) (h1:Q0e w a n c ms) (h2:Q0e w b m d ks):
 Calls Tryz.prog 60 #[.slice a n c,.slice b m d] w fun r w'=>Q09 (ms=ks) r/\Bw w w':=by
 obtain ⟨bb,Y2,hc⟩:=yn (Qgp a b n c m d ms ks w h1 h2);have HB:=Ua Y2;clear h1 h2 Y2
 go_enter Tryz.func60,Tryz.ntmps60
 go_wp2_with (refine hc.mono ?_;rintro r w3 ⟨rfl,I0⟩)
 go_ret;exact ⟨Q09.of HB.out rfl,I0⟩
theorem Qgq [LT ZK] (a b:OA) (n c m d:Nat) (F G:List (List Q00)) (w:World) (h1:Q1v w a n c F) (h2:Q1v w b m d G):
 Calls Tryz.prog 28 #[.slice a n c,.slice b m d] w fun r w'=>Q09 (F=G) r/\Bw w w':=by
 have Q2:=h1.1;have x6:=h2.1;have R2:=Ul h1.2.1 h1.2.2.1;have Zm:=Ul h2.2.1 h2.2.2.1;have H:=Xh2 h1 h2;clear h1 h2
 by_cases ZT:n=m
 case neg=>
  have A8:¬(n:Int)=(m:Int):=by omega
  go_enter Tryz.func28,Tryz.ntmps28
  go_wp2_with fail
  go_ret;exact ⟨Q09.no (Qd8 Q2 x6 A8) rfl,Uc _ _⟩
 case pos=>
 subst ZT
 go_enter Tryz.func28,Tryz.ntmps28
 go_wp2_with fail
 go_loopw [13] (fun s13 wr=>∃i:Nat,s13=.int .i64 (i:Int)/\i<=n/\(∀j,j<i->F[j]?=G[j]?)/\Bw w wr) (fun iv _=>n-(intOf iv).toNat)
 case atStart=>exact ⟨0,rfl,Ut _,fun j hj=>absurd hj (Tk _),Uc _ _⟩
 case round=>
  obtain ⟨i,rfl,hi,hq,M0⟩:=hrel
  by_cases E0:i<n
  ·have F0:(i:Int)<(n:Int):=(by omega);obtain ⟨ms,hx⟩:∃ms,F[i]?=some ms:=⟨_,Ub (by omega)⟩;obtain ⟨ks,hy⟩:∃ms,G[i]?=some ms:=⟨_,Ub (by omega)⟩;obtain ⟨b1,o1,rfl,A0,p,l,dd,k0,ZW⟩:=Q9n ((Xo0 H).step M0) hx;obtain ⟨b2,o2,rfl,D0,p2,l2,d2,k1,Je⟩:=Q9n ((Xe1 H).step M0) hy;obtain ⟨bb,Y2⟩:∃b,yesB (ms=ks)=b:=⟨_,rfl⟩;have HC:=Ua (fun (W:World) (hB:Bw wr W)=>And.intro ((hB.cell (p:=⟨b1,o1+i,none⟩) A0).trans k0) (And.intro ((hB.cell (p:=⟨b2,o2+i,none⟩) D0).trans k1) (yn1 (Qio p p2 l dd l2 d2 ms ks W (ZW.step hB) (Je.step hB)) Y2)));have HS:=Xh5 M0 hq hx hy Y2;clear M0 k0 k1 ZW Je hx hy hq Y2
   go_upto_region 6 with fail
   refine Q06 (E:=Q8a) (fun _=>Uc _ _) (by kernel_rfl) (fun W=>Bw wr W) (fun _ _ h h'=>Below.next0 h h') (Q40 [.slice (some ⟨b1,o1,none⟩) n c,.int .i64 (i:Int),.pointer (some ⟨b1,o1+i,none⟩),.slice p l dd,.slice (some ⟨b2,o2,none⟩) n d,.int .i64 (i:Int),.pointer (some ⟨b2,o2+i,none⟩),.slice p2 l2 d2,.bool bb,.bool (!bb)] (Q1h [])) (Q0c (Q0h ((fun p hp=>by cases hp)))) (Q0w (by kernel_rfl)) (by kernel_rfl) (Q01 wr) ?_ ?_
   ·skip
    repeat' (first|exact Q8n|refine Q8m ?_ ?_)
    all_goals
     refine Q1u rfl fun A W hW G0 hd hd=>?_;simp[Q7q,Region.binds,Q1h] at hd;have e0:=Q0d G0 0 (by kernel_rfl) rfl;have e5:=Q0d G0 5 (by kernel_rfl) rfl;have e1:=Q0d G0 1 (by kernel_rfl) rfl
     first
     |(refine Q2x rfl rfl ?_;simp[go_sem,hd,e0,e5,e1,F0,(HC.out W hW).1,(HC.out W hW).2.1];done)
     |(refine Q29 rfl rfl ?_ ((HC.out W hW).2.2);simp[go_sem,hd];done)
   intro vs W1 I1 K2;have HB:=Ua I1;have e9:vs 9=.bool (!bb):=(Q0f rfl).1 (K2 9 (by decide));simp only[Q0r,Act.put,Ur,Ux,Uv,e9];clear I1 K2 e9;cases bb
   ·go_wp2_with fail
    go_ret;exact ⟨Q09.no (Q6w (Xo2 HS) (Xo3 HS) fun e=>by have:=(Xe4 HS);rw[Q0b.2 e] at this;cases this) rfl,Below.next0 (Xo0 HS) HB.out⟩
   ·go_wp2_with fail
    have e:=Q0b.1 (Xe4 HS);exact ⟨⟨i+1,congrArg (Value.int .i64) (by omega),by omega,Q5g (Xo1 HS) (Xo2 HS) (by rw[e];exact (Xo3 HS)),Below.next0 (Xo0 HS) HB.out⟩,by simp only[intOf];omega⟩
  ·have F0:¬(i:Int)<(n:Int):=(by omega);have HS:=Xh2 M0 (Q5f Q2 x6 fun j hj=>hq j (by omega));clear M0 hq
   go_wp2_with fail
   go_ret;exact ⟨Q09.yes (Xe1 HS) rfl,(Xo0 HS)⟩
end Go.Proofs.YtidojbkhlenahaaGreatDoor
