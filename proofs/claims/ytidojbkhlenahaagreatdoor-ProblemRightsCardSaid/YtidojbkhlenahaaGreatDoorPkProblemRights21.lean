/- Part 21. No condition. -/
import Derived.Test.YtidojbkhlenahaaGreatDoorPkProblemRights20
set_option maxRecDepth 100000
set_option maxHeartbeats 16000000
namespace Go.Proofs.YtidojbkhlenahaaGreatDoor
open Go.RowKit WordsM
def Qk1 (k:Nat) (ms:List Q00) (w:World) (iv:Value) (wr:World):Prop:=∃i:Nat,iv=.int .i64 (i:Int)/\i<=ms.length/\(∀j m,j<i->ms[j]?=some m->OkM k m)/\(∀j p q,j+1<i->ms[j]?=some p->ms[j+1]?=some q->0<Q3e p.es q.es)/\Bw w wr
theorem Qk1.next {k i:Nat} {ms:List Q00} {w wr:World} {x:Q00} (hx:ms[i]?=some x) (E0:i<ms.length) (O1:∀j m,j<i->ms[j]?=some m->OkM k m) (d9:∀j p q,j+1<i->ms[j]?=some p->ms[j+1]?=some q->0<Q3e p.es q.es) (h1:OkM k x) (h2:∀j p,i=j+1->ms[j]?=some p->0<Q3e p.es x.es) (hb:Bw w wr):
 Qk1 k ms w (.int .i64 ((i:Int)+1)) wr:=by
 refine ⟨i+1,congrArg (Value.int .i64) (by omega),E0,fun j m hj hm=>?_,fun j p q hj hp hq=>?_,hb⟩
 ·by_cases hji:j=i
  ·subst hji;rw[hx] at hm;injection hm with hm;subst hm;exact h1
  ·exact O1 j m (by omega) hm
 ·by_cases hji:j+1=i
  ·subst hji;rw[hx] at hq;injection hq with hq;subst hq;exact h2 j p rfl hp
  ·exact d9 j p q (by omega) hp hq
structure Qts (W:World) (k b0 o0 i:Nat) (x:Q00) (aw:OA) (lw cw:Nat) (ae:OA) (le ce:Nat):Prop where
 c0:W.cell? ⟨b0,o0+i*4,none⟩=some (.bool x.neg)
 c1:W.cell? ⟨b0,o0+i*4+1,none⟩=some (.int .i64 x.exp)
 c2:W.cell? ⟨b0,o0+i*4+2,none⟩=some (.slice aw lw cw)
 c3:W.cell? ⟨b0,o0+i*4+3,none⟩=some (.slice ae le ce)
 mono:Calls Tryz.prog 99 #[.agg #[.bool x.neg,.int .i64 x.exp,.slice aw lw cw,.slice ae le ce],.int .i64 (k:Int)] W fun r w'=>r=.returned (.bool (decide (Q10 k x.es/\Q0a x.neg x.exp x.ws)))/\Bw W w'
theorem Qts.cc {W:World} {k b0 o0 i:Nat} {x:Q00} {aw:OA} {lw cw:Nat} {ae:OA} {le ce:Nat} (h:Qts W k b0 o0 i x aw lw cw ae le ce):W.cell? ⟨b0,o0+i*4,none⟩=some (.bool x.neg)/\W.cell? ⟨b0,o0+i*4+1,none⟩=some (.int .i64 x.exp)/\W.cell? ⟨b0,o0+i*4+2,none⟩=some (.slice aw lw cw):=⟨h.c0,h.c1,h.c2⟩
theorem Qye [LT ZK] {w W:World} {k b0 o0 i:Nat} {x:Q00} {aw:OA} {lw cw:Nat} {ae:OA} {le ce:Nat} (hk:k<=4) (Z0:b0<w.heap.size) (q0:w.cell? ⟨b0,o0+i*4,none⟩=some (.bool x.neg)) (q1:w.cell? ⟨b0,o0+i*4+1,none⟩=some (.int .i64 x.exp)) (q2:w.cell? ⟨b0,o0+i*4+2,none⟩=some (.slice aw lw cw)) (q3:w.cell? ⟨b0,o0+i*4+3,none⟩=some (.slice ae le ce)) (hw:WordsIn w aw lw cw x.ws) (he:Q0q w ae le ce x.es) (h1: -9223372036854775808<=x.exp) (h2:x.exp<=9223372036854775807) (hb:Bw w W):
 Qts W k b0 o0 i x aw lw cw ae le ce:=
 ⟨(hb.cell (p:=⟨b0,o0+i*4,none⟩) Z0).trans q0,(hb.cell (p:=⟨b0,o0+i*4+1,none⟩) Z0).trans q1,(hb.cell (p:=⟨b0,o0+i*4+2,none⟩) Z0).trans q2,(hb.cell (p:=⟨b0,o0+i*4+3,none⟩) Z0).trans q3,Qlu x.neg x.exp aw lw cw x.ws ae le ce x.es k W (hw.step hb) (he.step hb) hk h1 h2⟩
structure Qw6 (W:World) (k b0 o0 i j:Nat) (x:Q00) (aw:OA) (lw cw:Nat) (ae:OA) (le ce:Nat) (ae2:OA) (ce2:Nat) (cv:Int):Prop extends Qts W k b0 o0 i x aw lw cw ae le ce where
 d3:W.cell? ⟨b0,o0+j*4+3,none⟩=some (.slice ae2 le ce2)
 ord:Calls Tryz.prog 100 #[.slice ae2 le ce2,.slice ae le ce] W fun r w'=>r=.returned (.int .i64 cv)/\Bw W w'
theorem Qh8 [LT ZK] (a:OA) (n c:Nat) (ms:List Q00) (k:Nat) (w:World) (h:Q0e w a n c ms) (hk:k<=9223372036854775807):
 Calls Tryz.prog 56 #[.slice a n c,.int .i64 (k:Int)] w fun r w'=>Q09 (Q1p k ms) r/\Bw w w':=by
 have Q2:=h.1;subst Q2;have R2:=Ul h.2.1 h.2.2.1;have HM:=Ua h;clear h
 go_enter Tryz.func56,Tryz.ntmps56
 by_cases h1:1<=k
 case neg=>
  have h1':(k:Int)<1:=by omega
  go_wp2_with fail
  go_ret;exact ⟨Q09.no (fun h=>h1 h.1) rfl,Uc _ _⟩
 by_cases h4:k<=4
 case neg=>
  have h1':¬(k:Int)<1:=by omega
  have h4':4<(k:Int):=by omega
  go_wp2_with fail
  go_ret;exact ⟨Q09.no (fun h=>h4 h.2.1) rfl,Uc _ _⟩
 have h1':¬(k:Int)<1:=by omega
 have h4':¬4<(k:Int):=by omega
 by_cases WC:ms.length<=24
 case neg=>
  have h24':24<(ms.length:Int):=by omega
  go_wp2_with fail
  go_ret;exact ⟨Q09.no (fun h=>WC h.2.2.1) rfl,Uc _ _⟩
 have h24':¬24<(ms.length:Int):=by omega
 go_wp2_with fail
 go_loopw [5] (fun iv wr=>Qk1 k ms w iv wr) (fun iv _=>ms.length-(intOf iv).toNat)
 case atStart=>exact ⟨0,rfl,Ut _,(fun j m h=>absurd h (Tk _)),(fun j p q h=>absurd h (Tk _)),Uc _ _⟩
 case round=>
  obtain ⟨i,rfl,hi,O1,d9,M0⟩:=hrel
  by_cases E0:i<ms.length
  ·have F0:(i:Int)<(ms.length:Int):=(by omega);obtain ⟨x,hx⟩:∃x,ms[i]?=some x:=⟨_,Ub E0⟩;obtain ⟨b0,o0,rfl,Z0,R1⟩:∃b o,a=some ⟨b,o,none⟩/\b<w.heap.size/\∀j m,ms[j]?=some m->Q41 w b (o+j*4) m:=by
    rcases (Xe3 HM) with h0|h0
    ·rw[h0] at E0;simp at E0
    ·exact h0
   have hb0r:b0<wr.heap.size:=Ue Z0 M0.size;obtain ⟨aw,lw,cw,ae,le,ce,q0,q1,q2,q3,hw,he,S4,Q3⟩:=(R1 i x hx).step M0 Z0;have VW:=fun W (hW:Bw wr W)=>Qye h4 hb0r q0 q1 q2 q3 hw he S4 Q3 hW;have hwl:=hw.len;have Ks:=he.len;have HA:=Xh6 O1 d9 M0 hx he Ks;clear O1 d9 M0 hw S4 Q3 hx he
   go_upto_region 6 with fail
   by_cases hr:Q10 k x.es/\Q0a x.neg x.exp x.ws
   case neg=>
    have HC:=Ua (fun W hW=>by have h:=VW W hW;have hm:=h.mono;rw[UX hr] at hm;exact (And.intro h hm));have HR:=Ua hr;clear VW hr R1 hwl Ks;refine Q06 (E:=Q8a) (fun _=>Uc _ _) (by kernel_rfl) (fun W=>Bw wr W) (fun _ _ h h'=>Below.next0 h h') (Q40 [.slice (some ⟨b0,o0,none⟩) ms.length c,.int .i64 (i:Int),.pointer (some ⟨b0,o0+i*4,none⟩),.agg #[.bool x.neg,.int .i64 x.exp,.slice aw lw cw,.slice ae le ce],.int .i64 (k:Int),.bool false,.bool true,.bool true,undef,undef,undef,undef,undef,undef,undef,undef,.bool true,.bool true,undef,undef,undef,undef,undef,undef,undef,undef,undef,undef,undef,undef,undef,undef,undef,undef,undef,.bool true] (Q1h [])) (Q0c (Q0h ((fun p hp=>by cases hp)))) (Q0w (by kernel_rfl)) (by kernel_rfl) (Q01 wr) ?_ ?_
    ·skip
     repeat' (first|exact Q8n|refine Q8m ?_ ?_)
     all_goals first
      |exact Qgk rfl rfl rfl
      |(refine Q1u rfl fun A W hW G0 hd hd=>?_
        simp[Q7q,Region.binds,Q1h] at hd;have e0:=Q0d G0 0 (by kernel_rfl) rfl;have e5:=Q0d G0 5 (by kernel_rfl) rfl;have e1:=Q0d G0 1 (by kernel_rfl) rfl
        first
        |(refine Q2x rfl rfl ?_;simp[go_sem,hd,e0,e5,e1,F0,(HC.out W hW).1.c0,(HC.out W hW).1.c1,(HC.out W hW).1.c2,(HC.out W hW).1.c3];done)
        |(refine Q29 rfl rfl ?_ ((HC.out W hW).2);simp[go_sem,hd];done))
    intro vs W1 I1 K2;have HB:=Ua I1;have e35:vs 35=.bool true:=(Q0f rfl).1 (K2 35 (by decide));simp only[Q0r,Act.put,Ur,Ux,Uv,e35];clear I1 K2 e35
    go_wp2_with fail
    go_ret;exact ⟨Q09.no (fun h=>HR.out (h.2.2.2.1 x (Ug (Xo3 HA))).1) rfl,Below.next0 (Xo2 HA) HB.out⟩
   have Jf:∀W,Bw wr W->Calls Tryz.prog 99 #[.agg #[.bool x.neg,.int .i64 x.exp,.slice aw lw cw,.slice ae le ce],.int .i64 (k:Int)] W fun r w'=>r=.returned (.bool true)/\Bw W w':=fun W hW=>by have hm:=(VW W hW).mono;rwa[UT hr] at hm
   by_cases hz:x.ws=[]
   ·have Xd:((lw:Int)==0)=true:=(by rw[beq_iff_eq,<-hwl,hz];rfl);have HC:=Ua (fun W hW=>And.intro (VW W hW) (Jf W hW));have HR:=Ua hz;clear VW Jf hr R1 hz hwl Ks;refine Q06 (E:=Q8a) (fun _=>Uc _ _) (by kernel_rfl) (fun W=>Bw wr W) (fun _ _ h h'=>Below.next0 h h') (Q40 [.slice (some ⟨b0,o0,none⟩) ms.length c,.int .i64 (i:Int),.pointer (some ⟨b0,o0+i*4,none⟩),.agg #[.bool x.neg,.int .i64 x.exp,.slice aw lw cw,.slice ae le ce],.int .i64 (k:Int),.bool true,.bool false,.bool false,.slice (some ⟨b0,o0,none⟩) ms.length c,.int .i64 (i:Int),.pointer (some ⟨b0,o0+i*4,none⟩),.pointer (some ⟨b0,o0+i*4,none⟩),.pointer (some ⟨b0,o0+i*4+2,none⟩),.slice aw lw cw,.int .i64 (lw:Int),.bool true,.bool true,.bool true,undef,undef,undef,undef,undef,undef,undef,undef,undef,undef,undef,undef,undef,undef,undef,undef,undef,.bool true] (Q1h [])) (Q0c (Q0h ((fun p hp=>by cases hp)))) (Q0w (by kernel_rfl)) (by kernel_rfl) (Q01 wr) ?_ ?_
    ·skip
     repeat' (first|exact Q8n|refine Q8m ?_ ?_)
     all_goals first
      |exact Qgk rfl rfl rfl
      |(refine Q1u rfl fun A W hW G0 hd hd=>?_
        simp[Q7q,Region.binds,Q1h] at hd;have e0:=Q0d G0 0 (by kernel_rfl) rfl;have e5:=Q0d G0 5 (by kernel_rfl) rfl;have e1:=Q0d G0 1 (by kernel_rfl) rfl
        first
        |(refine Q2x rfl rfl ?_;simp[go_sem,hd,e0,e5,e1,F0,(HC.out W hW).1.c0,(HC.out W hW).1.c1,(HC.out W hW).1.c2,(HC.out W hW).1.c3,Xd];done)
        |(refine Q29 rfl rfl ?_ ((HC.out W hW).2);simp[go_sem,hd];done))
    intro vs W1 I1 K2;have HB:=Ua I1;have e35:vs 35=.bool true:=(Q0f rfl).1 (K2 35 (by decide));simp only[Q0r,Act.put,Ur,Ux,Uv,e35];clear I1 K2 e35
    go_wp2_with fail
    go_ret;exact ⟨Q09.no (fun h=>(h.2.2.2.1 x (Ug (Xo3 HA))).2 HR.out) rfl,Below.next0 (Xo2 HA) HB.out⟩
   have Xd:((lw:Int)==0)=false:=by
    rw[Uj];intro e;exact hz (Ty (by rw[hwl];omega))
   have HO:=Ua (show OkM k x from ⟨hr,hz⟩);clear hz hwl
   by_cases O2:0<i
   case neg=>
    have HZ:=Ua (show i=0 by omega);have HC:=Ua (fun W hW=>And.intro (VW W hW) (Jf W hW));clear VW Jf hr R1 Ks;refine Q06 (E:=Q8a) (fun _=>Uc _ _) (by kernel_rfl) (fun W=>Bw wr W) (fun _ _ h h'=>Below.next0 h h') (Q40 [.slice (some ⟨b0,o0,none⟩) ms.length c,.int .i64 (i:Int),.pointer (some ⟨b0,o0+i*4,none⟩),.agg #[.bool x.neg,.int .i64 x.exp,.slice aw lw cw,.slice ae le ce],.int .i64 (k:Int),.bool true,.bool false,.bool false,.slice (some ⟨b0,o0,none⟩) ms.length c,.int .i64 (i:Int),.pointer (some ⟨b0,o0+i*4,none⟩),.pointer (some ⟨b0,o0+i*4,none⟩),.pointer (some ⟨b0,o0+i*4+2,none⟩),.slice aw lw cw,.int .i64 (lw:Int),.bool false,.bool false,.bool false,.int .i64 (i:Int),.bool false,.bool false,undef,undef,undef,undef,undef,undef,undef,undef,undef,undef,undef,undef,undef,.bool false,.bool false] (Q1h [])) (Q0c (Q0h ((fun p hp=>by cases hp)))) (Q0w (by kernel_rfl)) (by kernel_rfl) (Q01 wr) ?_ ?_
    ·skip
     repeat' (first|exact Q8n|refine Q8m ?_ ?_)
     all_goals first
      |exact Qgk rfl rfl rfl
      |(refine Q1u rfl fun A W hW G0 hd hd=>?_
        simp[Q7q,Region.binds,Q1h] at hd;have e0:=Q0d G0 0 (by kernel_rfl) rfl;have e5:=Q0d G0 5 (by kernel_rfl) rfl;have e1:=Q0d G0 1 (by kernel_rfl) rfl
        first
        |(refine Q2x rfl rfl ?_;simp[go_sem,hd,e0,e5,e1,F0,(HC.out W hW).1.c0,(HC.out W hW).1.c1,(HC.out W hW).1.c2,(HC.out W hW).1.c3,Xd,(show¬0<i by have:=HZ.out;omega)];done)
        |(refine Q29 rfl rfl ?_ ((HC.out W hW).2);simp[go_sem,hd];done))
    intro vs W1 I1 K2;have HB:=Ua I1;have e35:vs 35=.bool false:=(Q0f rfl).1 (K2 35 (by decide));simp only[Q0r,Act.put,Ur,Ux,Uv,e35];clear I1 K2 e35
    go_wp2_with fail
    exact ⟨Qk1.next (Xo3 HA) E0 (Xo0 HA) (Xo1 HA) HO.out (fun j p h _=>absurd h (by omega)) (Below.next0 (Xo2 HA) HB.out),by simp only[intOf];omega⟩
   obtain ⟨j,XG⟩:∃j,i=j+1:=⟨i-1,by omega⟩;have hjl0:j<ms.length:=(by omega);have hjl:(j:Int)<(ms.length:Int):=(by omega);have hwj:IntKind.i64.wrap ((i:Int)-1)=(j:Int):=(by rw[UO];omega);obtain ⟨y,hy⟩:∃y,ms[j]?=some y:=⟨_,Ub hjl0⟩;obtain ⟨aw2,lw2,cw2,ae2,le2,ce2,_,_,_,p3,_,D5,_,_⟩:=(R1 j y hy).step (Xo2 HA) Z0;obtain rfl:le2=le:=by
    have h1:=((Xo0 HA) j y (by omega) hy).1.1.1;have h2:=hr.1.1;have h3:=D5.len;omega
   obtain ⟨cv,hcv0⟩:∃cv,Q3e y.es x.es=cv:=⟨_,rfl⟩;have hord:∀W,Bw wr W->Qw6 W k b0 o0 i j x aw lw cw ae le2 ce ae2 ce2 cv:=fun W hW=>⟨VW W hW,(hW.cell (p:=⟨b0,o0+j*4+3,none⟩) hb0r).trans p3,by
    have h:=Q8g ae2 le2 ce2 y.es ae ce x.es W (D5.step hW) ((Xo4 HA).step hW);rw[hcv0] at h;refine h.mono ?_;rintro r w' ⟨h1,nk,rfl⟩;exact ⟨h1,Q16 (Uc _ _) nk⟩⟩
   have HC:=Ua (fun W hW=>And.intro (hord W hW) (Jf W hW));have HY:=Xh3 XG hy hcv0;clear VW Jf hr R1 Ks hord XG hy hcv0 p3 D5
   by_cases hc:0<cv
   ·have HV1:=Ua (show cv=1 by have:=Qeo y.es x.es;rw[(Xe2 HY)] at this;omega);have HV:=Ua hc;clear hc;refine Q06 (E:=Q8a) (fun _=>Uc _ _) (by kernel_rfl) (fun W=>Bw wr W) (fun _ _ h h'=>Below.next0 h h') (Q40 [.slice (some ⟨b0,o0,none⟩) ms.length c,.int .i64 (i:Int),.pointer (some ⟨b0,o0+i*4,none⟩),.agg #[.bool x.neg,.int .i64 x.exp,.slice aw lw cw,.slice ae le2 ce],.int .i64 (k:Int),.bool true,.bool false,.bool false,.slice (some ⟨b0,o0,none⟩) ms.length c,.int .i64 (i:Int),.pointer (some ⟨b0,o0+i*4,none⟩),.pointer (some ⟨b0,o0+i*4,none⟩),.pointer (some ⟨b0,o0+i*4+2,none⟩),.slice aw lw cw,.int .i64 (lw:Int),.bool false,.bool false,.bool false,.int .i64 (i:Int),.bool true,.bool true,.slice (some ⟨b0,o0,none⟩) ms.length c,.int .i64 (i:Int),.int .i64 (j:Int),.pointer (some ⟨b0,o0+j*4,none⟩),.pointer (some ⟨b0,o0+j*4+3,none⟩),.slice ae2 le2 ce2,.slice (some ⟨b0,o0,none⟩) ms.length c,.int .i64 (i:Int),.pointer (some ⟨b0,o0+i*4,none⟩),.pointer (some ⟨b0,o0+i*4+3,none⟩),.slice ae le2 ce,.int .i64 cv,.bool false,.bool false,.bool false] (Q1h [])) (Q0c (Q0h ((fun p hp=>by cases hp)))) (Q0w (by kernel_rfl)) (by kernel_rfl) (Q01 wr) ?_ ?_
    ·skip
     repeat' (first|exact Q8n|refine Q8m ?_ ?_)
     all_goals
      refine Q1u rfl fun A W hW G0 hd hd=>?_;simp[Q7q,Region.binds,Q1h] at hd;have e0:=Q0d G0 0 (by kernel_rfl) rfl;have e5:=Q0d G0 5 (by kernel_rfl) rfl;have e1:=Q0d G0 1 (by kernel_rfl) rfl
      first
      |(refine Q2x rfl rfl ?_;simp[go_sem,hd,e0,e5,e1,F0,(HC.out W hW).1.c0,(HC.out W hW).1.c1,(HC.out W hW).1.c2,(HC.out W hW).1.c3,Xd,O2,hwj,hjl,(HC.out W hW).1.d3,HV1.out];done)
      |(refine Q29 rfl rfl ?_ ((HC.out W hW).2);simp[go_sem,hd];done)
      |(refine Q29 rfl rfl ?_ (((HC.out W hW).1.ord));simp[go_sem,hd];done)
    intro vs W1 I1 K2;have HB:=Ua I1;have e35:vs 35=.bool false:=(Q0f rfl).1 (K2 35 (by decide));simp only[Q0r,Act.put,Ur,Ux,Uv,e35];clear I1 K2 e35
    go_wp2_with fail
    refine ⟨Qk1.next (Xo3 HA) E0 (Xo0 HA) (Xo1 HA) HO.out (fun j' p h hp=>?_) (Below.next0 (Xo2 HA) HB.out),by simp only[intOf];omega⟩;have h1:=(Xo0 HY);obtain rfl:j'=j:=(by omega);rw[(Xo1 HY)] at hp;injection hp with hp;rw[<-hp,(Xe2 HY)];exact HV.out
   ·have HV1:=Ua (show¬cv=1 by omega);have HV:=Ua hc;clear hc;refine Q06 (E:=Q8a) (fun _=>Uc _ _) (by kernel_rfl) (fun W=>Bw wr W) (fun _ _ h h'=>Below.next0 h h') (Q40 [.slice (some ⟨b0,o0,none⟩) ms.length c,.int .i64 (i:Int),.pointer (some ⟨b0,o0+i*4,none⟩),.agg #[.bool x.neg,.int .i64 x.exp,.slice aw lw cw,.slice ae le2 ce],.int .i64 (k:Int),.bool true,.bool false,.bool false,.slice (some ⟨b0,o0,none⟩) ms.length c,.int .i64 (i:Int),.pointer (some ⟨b0,o0+i*4,none⟩),.pointer (some ⟨b0,o0+i*4,none⟩),.pointer (some ⟨b0,o0+i*4+2,none⟩),.slice aw lw cw,.int .i64 (lw:Int),.bool false,.bool false,.bool false,.int .i64 (i:Int),.bool true,.bool true,.slice (some ⟨b0,o0,none⟩) ms.length c,.int .i64 (i:Int),.int .i64 (j:Int),.pointer (some ⟨b0,o0+j*4,none⟩),.pointer (some ⟨b0,o0+j*4+3,none⟩),.slice ae2 le2 ce2,.slice (some ⟨b0,o0,none⟩) ms.length c,.int .i64 (i:Int),.pointer (some ⟨b0,o0+i*4,none⟩),.pointer (some ⟨b0,o0+i*4+3,none⟩),.slice ae le2 ce,.int .i64 cv,.bool true,.bool true,.bool true] (Q1h [])) (Q0c (Q0h ((fun p hp=>by cases hp)))) (Q0w (by kernel_rfl)) (by kernel_rfl) (Q01 wr) ?_ ?_
    ·skip
     repeat' (first|exact Q8n|refine Q8m ?_ ?_)
     all_goals
      refine Q1u rfl fun A W hW G0 hd hd=>?_;simp[Q7q,Region.binds,Q1h] at hd;have e0:=Q0d G0 0 (by kernel_rfl) rfl;have e5:=Q0d G0 5 (by kernel_rfl) rfl;have e1:=Q0d G0 1 (by kernel_rfl) rfl
      first
      |(refine Q2x rfl rfl ?_;simp[go_sem,hd,e0,e5,e1,F0,(HC.out W hW).1.c0,(HC.out W hW).1.c1,(HC.out W hW).1.c2,(HC.out W hW).1.c3,Xd,O2,hwj,hjl,(HC.out W hW).1.d3,HV1.out];done)
      |(refine Q29 rfl rfl ?_ ((HC.out W hW).2);simp[go_sem,hd];done)
      |(refine Q29 rfl rfl ?_ (((HC.out W hW).1.ord));simp[go_sem,hd];done)
    intro vs W1 I1 K2;have HB:=Ua I1;have e35:vs 35=.bool true:=(Q0f rfl).1 (K2 35 (by decide));simp only[Q0r,Act.put,Ur,Ux,Uv,e35];clear I1 K2 e35
    go_wp2_with fail
    go_ret;refine ⟨Q09.no (fun h=>?_) rfl,Below.next0 (Xo2 HA) HB.out⟩;have z8:=h.2.2.2.2;rw[List.pairwise_iff_getElem] at z8;have h1:=(Xo0 HY);have h1:=z8 j i (by omega) E0 (by omega);have e1:=(Ui.1 (Xo1 HY)).2;have e2:=(Ui.1 (Xo3 HA)).2;rw[e1,e2,(Xe2 HY)] at h1;have h2:=HV.out;omega
  ·obtain rfl:i=ms.length:=(by omega);have F0:¬((ms.length:Int)<(ms.length:Int)):=(by omega);have R0:Q1p k ms:=⟨h1,h4,WC,fun m hm=>by
    obtain ⟨j,hj⟩:=UQ.1 hm;exact O1 j m (Ui.1 hj).1 hj,Q7r ms fun j p q hp hq=>d9 j p q (Ui.1 hq).1 hp hq⟩
   have HF:=Xh2 R0 M0;clear R0 M0 O1 d9
   go_wp2_with fail
   go_ret;exact ⟨Q09.yes (Xo0 HF) rfl,(Xe1 HF)⟩
theorem Q6n [LT ZK] (a:OA) (n c:Nat) (F:List (List Q00)) (w:World) (h:Q1v w a n c F):
 Calls Tryz.prog 23 #[.slice a n c] w fun r w'=>Q09 (Q1w F) r/\Bw w w':=by
 have Q2:=h.1;subst Q2;have R2:=Ul h.2.1 h.2.2.1;have HM:=Ua h;clear h
 go_enter Tryz.func23,Tryz.ntmps23
 go_wp2_with fail
 go_loopw [3] (fun iv wr=>∃i:Nat,iv=.int .i64 (i:Int)/\i<=F.length/\i<=4/\(∀j ms,j<i->F[j]?=some ms->Q1p F.length ms)/\Bw w wr) (fun iv _=>4-(intOf iv).toNat)
 case atStart=>exact ⟨0,rfl,Ut _,by decide,fun j m h=>absurd h (Tk _),Uc _ _⟩
 case round=>
  obtain ⟨i,rfl,hi,hi4,O1,hb⟩:=hrel
  by_cases E0:i<F.length/\i<4
  ·obtain ⟨i5,Jq⟩:=E0;have F0:(i:Int)<(F.length:Int):=(by omega);have hlt4:(i:Int)<4:=(by omega);obtain ⟨ms,hm⟩:∃ms,F[i]?=some ms:=⟨_,Ub i5⟩;obtain ⟨b0,o0,rfl,Z0,R1⟩:∃b o,a=some ⟨b,o,none⟩/\b<wr.heap.size/\∀j ms,F[j]?=some ms->∃p l d,wr.cell? ⟨b,o+j,none⟩=some (.slice p l d)/\Q0e wr p l d ms:=by
    rcases (HM.out.step hb).2.2.2 with h0|h0
    ·rw[h0] at i5;simp at i5
    ·exact h0
   obtain ⟨p,l,d,Y3,D6⟩:=R1 i ms hm;have F8:=Qh8 p l d ms F.length wr D6 R2;have HA:=Xh4 O1 hb hm F8;clear O1 hb hm F8 R1 D6
   by_cases hr:Q1p F.length ms
   ·have F8:Calls Tryz.prog 56 #[.slice p l d,.int .i64 (F.length:Int)] wr fun r w'=>r=.returned (.bool true)/\Bw wr w':=(Xe3 HA).mono (by
     rintro r w' ⟨⟨b,rfl,Y2⟩,K3⟩;rw[Y2.2 hr];exact ⟨rfl,K3⟩)
    have HR:=Xh2 F8 hr;clear F8 hr
    go_wp2_with (go_at_call 56;refine (Xo0 HR).mono ?_;rintro r w1 ⟨rfl,A0⟩;have O0:=Ua A0;clear A0)
    refine ⟨⟨i+1,congrArg (Value.int .i64) (by omega),by omega,by omega,fun j x hj hx=>?_,Below.next0 (Xo1 HA) O0.out⟩,by simp only[intOf];omega⟩
    by_cases hji:j=i
    ·subst hji;have:=(Xo2 HA);rw[hx] at this;injection this with this;rw[this];exact (Xe1 HR)
    ·exact (Xo0 HA) j x (by omega) hx
   ·have F8:Calls Tryz.prog 56 #[.slice p l d,.int .i64 (F.length:Int)] wr fun r w'=>r=.returned (.bool false)/\Bw wr w':=(Xe3 HA).mono (by
     rintro r w' ⟨⟨b,rfl,Y2⟩,K3⟩;cases b
     ·exact ⟨rfl,K3⟩
     ·exact absurd (Y2.1 rfl) hr)
    have i4:¬Q1w F:=fun h=>hr (h.2.2 ms (Ug (Xo2 HA)));have HR:=Xh2 F8 i4;clear F8 hr i4
    go_wp2_with (go_at_call 56;refine (Xo0 HR).mono ?_;rintro r w1 ⟨rfl,A0⟩;have O0:=Ua A0;clear A0)
    go_ret;exact ⟨Q09.no (Xe1 HR) rfl,Below.next0 (Xo1 HA) O0.out⟩
  ·have HF:=Xh3 hb O1 E0;clear hb O1 E0
   by_cases i5:i<F.length
   ·have h4:¬(i:Int)<4:=(by have:=(Xe2 HF);omega);have Ys:(i:Int)<(F.length:Int):=(by omega);have k4:¬(F.length:Int)<=4:=(by omega);have k1:(0:Int)<(F.length:Int):=by omega
    go_wp2_with fail
    go_ret;exact ⟨Q09.no (fun h=>by have:=h.2.1;have:=(Xe2 HF);omega) rfl,(Xo0 HF)⟩
   ·have U5:i=F.length:=(by omega);have Ys:¬(i:Int)<(F.length:Int):=(by omega);have k4:(F.length:Int)<=4:=(by omega);have HE:=Ua U5;clear U5
    by_cases h0:F.length=0
    ·have k0:¬(0:Int)<(F.length:Int):=(by omega);have HZ:=Ua h0;clear h0
     go_wp2_with fail
     go_ret;exact ⟨Q09.no (fun h=>by have:=h.1;have:=HZ.out;omega) rfl,(Xo0 HF)⟩
    ·have k0:(0:Int)<(F.length:Int):=(by omega);have HZ:=Ua h0;clear h0
     go_wp2_with fail
     go_ret;refine ⟨Q09.yes ⟨by have:=HZ.out;omega,by omega,fun ms hm=>?_⟩ rfl,(Xo0 HF)⟩;obtain ⟨j,hj⟩:=UQ.1 hm;exact (Xo1 HF) j ms (by have:=(Ui.1 hj).1;have:=HE.out;omega) hj
open DecM
theorem Qtt (x:Dyadic):∃m e,x=dy m e:=by
 rcases Qg7 x with h0|⟨neg,v,e,_,h⟩
 ·exact ⟨0,0,by rw[h0,Q6s]⟩
 ·exact ⟨_,_,h⟩
theorem Qyf (x y:Dyadic):∃m k e,x=dy m e/\y=dy k e:=by
 obtain ⟨m,e,rfl⟩:=Qtt x;obtain ⟨k,f,rfl⟩:=Qtt y;rcases Int.le_total e f with h|h
 ·obtain ⟨j,rfl⟩:=Int.le.dest h;exact ⟨m,k*2^j,e,rfl,by rw[Qcc]⟩
 ·obtain ⟨j,rfl⟩:=Int.le.dest h;exact ⟨m*2^j,k,f,by rw[Qcc],rfl⟩
theorem Qek (x:Dyadic):Q20 (0-x)=true↔Q7a x:=by
 obtain ⟨m,e,rfl⟩:=Qtt x;have h0:(0:Dyadic)-dy m e=dy 0 e-dy m e:=by rw[Q6s]
 unfold Q7a;rw[h0,Q6b,Q5a];simp only[TJ,Tq];refine ⟨fun h=>⟨fun hz=>?_,by omega⟩,fun ⟨h1,h2⟩=>?_⟩
 ·have:=Qgl (hz.trans (Q6s e).symm);omega
 ·by_cases hm:m=0
  ·rw[hm,Q6s] at h1;exact absurd rfl h1
  ·omega
theorem Qw7 {x y:Dyadic} (h:Q7a x) (hu:Qec x y):Q7a y:=by
 obtain ⟨m,k,e,rfl,rfl⟩:=Qyf x y;unfold Q7a Qec at*;rw[Q6b] at hu;rw[Q5a] at h⊢;simp only[Tq] at*;refine ⟨fun hz=>?_,?_⟩
 ·have:=Qgl (hz.trans (Q6s e).symm);have h1:m≠0:=fun h0=>h.1 (by rw[h0,Q6s]);omega
 ·have:=h.2;omega
theorem Qfs {s:Int} {x:Dyadic} {b:Bool} (hs:Q3v s x 0) (hb:yesB (Q7a x)=b):decide (0<s)=b:=by
 have h1:=hs.2.trans (Qek x);rw[<-hb,Xbb,TG,Q0b];exact h1
theorem Qtu {s:Int} {x y:Dyadic} {b:Bool} (hs:Q3v s y x) (hb:yesB (Qec x y)=b):decide (0<=s)=b:=by
 have h1:=hs.1;rw[<-hb,Xbb,TG,Q0b];unfold Qec
 constructor
 ·intro h;cases hv:Q20 (y-x)
  ·rfl
  ·have:=h1.2 hv;omega
 ·intro h;refine Int.not_lt.1 fun h0=>?_;rw[h1.1 h0] at h;cases h
theorem Qtv:(⟨false,0,[]⟩:Q39).ok:=show Q0a false 0 [] by decide
theorem Qm0 (x:Q33) {b1 b2 b3 b4 b5 b6 b7 b8 b9 b10 b11 b12 b13 b14:Bool} (h1:yesB (Q1w x.field)=b1) (h2:yesB (Qd7 x.box)=b2) (h3:yesB (x.box.length=x.field.length)=b3) (h4:decide (Q0a x.til.neg x.til.exp x.til.ws)=b4) (h5:decide (Q0a x.most.neg x.most.exp x.most.ws)=b5) (h6:decide (Q0a x.least.neg x.least.exp x.least.ws)=b6) (h7:yesB (Q7a x.til.val)=b7) (h8:yesB (Q7a x.least.val)=b8) (h9:yesB (Qec x.least.val x.most.val)=b9) (L8:decide (8<=x.prec/\x.prec<=256)=b10) (VN:decide (2<=x.order)=b11) (QN:decide (x.order<=10)=b12) (XR:decide (1<=x.budget)=b13) (Ya:decide (x.budget<=4096)=b14):
 yesB (Q24 x)=(b1 && (b2 && (b3 && (b4 && (b5 && (b6 && (b7 && (b8 && (b9 && (b10 && (b11 && (b12 && (b13 && (b14)))))))))))))):=by
 subst h1 h2 h3 h4 h5 h6 h7 h8 h9 L8 VN QN XR Ya;rw[Xbb];simp only[Xav,Q0b,TG];exact ⟨fun h=>⟨h.field,h.box,h.same,h.til.1,h.most.1,h.least.1,h.til.2,h.least.2,h.ord,h.prec,h.order.1,h.order.2,h.budget.1,h.budget.2⟩,fun ⟨h1,h2,h3,h4,h5,h6,h7,h8,h9,L8,VN,QN,XR,Ya⟩=>⟨h1,h2,h3,⟨h4,h7⟩,⟨h5,Qw7 h8 h9⟩,⟨h6,h8⟩,h9,L8,⟨VN,QN⟩,⟨XR,Ya⟩⟩⟩
theorem Qtw (b1 b2 b3 b4 b5 b6:Bool):(b1=true/\b2=true/\b3=true/\b4=true/\b5=true/\b6=true)∨(b1=false)∨(b1=true/\b2=false)∨(b1=true/\b2=true/\b3=false)∨(b1=true/\b2=true/\b3=true/\b4=false)∨(b1=true/\b2=true/\b3=true/\b4=true/\b5=false)∨(b1=true/\b2=true/\b3=true/\b4=true/\b5=true/\b6=false):=by
 cases b1
 ·exact .inr (.inl rfl)
 cases b2
 ·simp
 cases b3
 ·simp
 cases b4
 ·simp
 cases b5
 ·simp
 cases b6
 ·simp
 ·simp
theorem Qtx (b7 b8 b9 b10 b11 b12 b13 b14:Bool):(b7=false)∨(b7=true/\b8=false)∨(b7=true/\b8=true/\b9=false)∨(b7=true/\b8=true/\b9=true/\b10=false)∨(b7=true/\b8=true/\b9=true/\b10=true/\b11=false)∨(b7=true/\b8=true/\b9=true/\b10=true/\b11=true/\b12=false)∨(b7=true/\b8=true/\b9=true/\b10=true/\b11=true/\b12=true/\b13=false)∨(b7=true/\b8=true/\b9=true/\b10=true/\b11=true/\b12=true/\b13=true/\b14=false)∨(b7=true/\b8=true/\b9=true/\b10=true/\b11=true/\b12=true/\b13=true/\b14=true):=by
 cases b7 <;> simp;cases b8 <;> simp;cases b9 <;> simp;cases b10 <;> simp;cases b11 <;> simp;cases b12 <;> simp;cases b13 <;> simp
theorem Qty (n:Int) (w:World):Calls Tryz.prog 27 #[.int .i64 n] w fun r w'=>r=.returned (.bool (decide (8<=n/\n<=256)))/\Bw w w':=by
 by_cases h:8<=n/\n<=256
 ·rw[UT h];obtain ⟨h1,h2⟩:=h
  go_enter Tryz.func27,Tryz.ntmps27
  go_wp2_with fail
  go_ret;exact ⟨rfl,Uc _ _⟩
 ·rw[UX h]
  by_cases h1:8<=n
  ·have h2:¬n<=256:=fun h2=>h ⟨h1,h2⟩;clear h
   go_enter Tryz.func27,Tryz.ntmps27
   go_wp2_with fail
   go_ret;exact ⟨rfl,Uc _ _⟩
  ·clear h
   go_enter Tryz.func27,Tryz.ntmps27
   go_wp2_with fail
   go_ret;exact ⟨rfl,Uc _ _⟩
theorem Q4q [LT ZK] (p:Qgo) (x:Q33) (w:World) (h:Q2g w p x):
 Calls Tryz.prog 10 #[.agg (Q46 p x).toArray] w fun r w'=>r=.returned (.bool (yesB (Q24 x)))/\Bw w w':=by
 obtain ⟨⟨fa,fl,fc⟩,⟨ba,bl,bc⟩,⟨ta,tl,tc⟩,⟨ma,ml,mc⟩,⟨ea,el,ec⟩⟩:=p;obtain ⟨F,B,⟨tn,te,ts⟩,⟨mn,me,ms⟩,⟨en,ee,es⟩,prec,order,budget⟩:=x;have hfl:F.length=fl:=h.f.1;have V5:B.length=bl:=h.b.1;obtain ⟨b1,h1⟩:∃b,yesB (Q1w F)=b:=⟨_,rfl⟩;obtain ⟨b2,h2⟩:∃b,yesB (Qd7 B)=b:=⟨_,rfl⟩;obtain ⟨b3,h3⟩:∃b,yesB (B.length=F.length)=b:=⟨_,rfl⟩;obtain ⟨b4,h4⟩:∃b,decide (Q0a tn te ts)=b:=⟨_,rfl⟩;obtain ⟨b5,h5⟩:∃b,decide (Q0a mn me ms)=b:=⟨_,rfl⟩;obtain ⟨b6,h6⟩:∃b,decide (Q0a en ee es)=b:=⟨_,rfl⟩;obtain ⟨b7,h7⟩:∃b,yesB (Q7a (Q39.val ⟨tn,te,ts⟩))=b:=⟨_,rfl⟩;obtain ⟨b8,h8⟩:∃b,yesB (Q7a (Q39.val ⟨en,ee,es⟩))=b:=⟨_,rfl⟩;obtain ⟨b9,h9⟩:∃b,yesB (Qec (Q39.val ⟨en,ee,es⟩) (Q39.val ⟨mn,me,ms⟩))=b:=⟨_,rfl⟩;obtain ⟨b10,L8⟩:∃b,decide (8<=prec/\prec<=256)=b:=⟨_,rfl⟩;obtain ⟨b11,VN⟩:∃b,decide (2<=order)=b:=⟨_,rfl⟩;obtain ⟨b12,QN⟩:∃b,decide (order<=10)=b:=⟨_,rfl⟩;obtain ⟨b13,XR⟩:∃b,decide (1<=budget)=b:=⟨_,rfl⟩;obtain ⟨b14,Ya⟩:∃b,decide (budget<=4096)=b:=⟨_,rfl⟩;have HR:=Ua (Qm0 ⟨F,B,⟨tn,te,ts⟩,⟨mn,me,ms⟩,⟨en,ee,es⟩,prec,order,budget⟩ h1 h2 h3 h4 h5 h6 h7 h8 h9 L8 VN QN XR Ya);generalize yesB (Q24 ⟨F,B,⟨tn,te,ts⟩,⟨mn,me,ms⟩,⟨en,ee,es⟩,prec,order,budget⟩)=rr at HR⊢;have hC:=Q3h.new w (Q46 ⟨⟨fa,fl,fc⟩,⟨ba,bl,bc⟩,⟨ta,tl,tc⟩,⟨ma,ml,mc⟩,⟨ea,el,ec⟩⟩ ⟨F,B,⟨tn,te,ts⟩,⟨mn,me,ms⟩,⟨en,ee,es⟩,prec,order,budget⟩) 28;have Z0:Bw w (w.alloc (.cells (Q46 ⟨⟨fa,fl,fc⟩,⟨ba,bl,bc⟩,⟨ta,tl,tc⟩,⟨ma,ml,mc⟩,⟨ea,el,ec⟩⟩ ⟨F,B,⟨tn,te,ts⟩,⟨mn,me,ms⟩,⟨en,ee,es⟩,prec,order,budget⟩).toArray 28)):=Ba;have E0:=Q0p w (.cells (Q46 ⟨⟨fa,fl,fc⟩,⟨ba,bl,bc⟩,⟨ta,tl,tc⟩,⟨ma,ml,mc⟩,⟨ea,el,ec⟩⟩ ⟨F,B,⟨tn,te,ts⟩,⟨mn,me,ms⟩,⟨en,ee,es⟩,prec,order,budget⟩).toArray 28);simp only[Q46] at hC Z0 E0⊢;obtain ⟨W0,E1⟩:∃W0,w.alloc (.cells #[.slice fa fl fc,.slice ba bl bc,.bool tn,.int .i64 te,.slice ta tl tc,.bool mn,.int .i64 me,.slice ma ml mc,.bool en,.int .i64 ee,.slice ea el ec,.int .i64 prec,.int .i64 order,.int .i64 budget] 28)=W0:=⟨_,rfl⟩;rw[E1] at hC Z0 E0;have hz:∀V,Q0i V none 0 0 ⟨false,0,[]⟩:=fun V=>⟨WordsIn.nil_ V,by decide,by decide⟩;have hr:∀V (y:Q39) a l c,Q0i V a l c y->Calls Tryz.prog 25 #[.agg #[.bool y.neg,.int .i64 y.exp,.slice a l c]] V fun e w'=>e=.returned (.bool (decide (Q0a y.neg y.exp y.ws)))/\Bw V w':=fun V y a l c hy=>Q2f y.neg y.exp a l c y.ws V hy.lie hy.lo hy.hi (Ul hy.lie.cap hy.lie.most);have HC:=Ua (fun V (hV:Bw W0 V)=>have hh:=h.step (Below.next0 Z0 hV);And.intro (hC.step hV E0) (And.intro (yn1 (Q6n fa fl fc F V hh.f) h1) (And.intro (yn1 (Qe6 ba bl bc B V hh.b) h2) (And.intro (hr V ⟨tn,te,ts⟩ ta tl tc hh.t) (And.intro (hr V ⟨mn,me,ms⟩ ma ml mc hh.m) (And.intro (hr V ⟨en,ee,es⟩ ea el ec hh.e) (And.intro (fun i1=>Q4x ⟨tn,te,ts⟩ ⟨false,0,[]⟩ ta tl tc none 0 0 V hh.t (hz V) i1 Qtv) (And.intro (fun i1=>Q4x ⟨en,ee,es⟩ ⟨false,0,[]⟩ ea el ec none 0 0 V hh.e (hz V) i1 Qtv) (fun i1 i2=>Q4x ⟨mn,me,ms⟩ ⟨en,ee,es⟩ ma ml mc ea el ec V hh.m hh.e i1 i2)))))))));have HH:=Xh8 h4 h5 h6 h7 h8 h9 L8 Z0;obtain ⟨k0,k1,k2,k3,k4,k5,k6,k7,k8,k9,k10,k11,k12,k13⟩:=Q04 hC;have key:=Qtw b1 b2 b3 b4 b5 b6;have Vi:=fun h:b3=true=>Q0b.1 (h3.trans h);have h3n:b3=false->¬(bl:Int)=(fl:Int):=fun h e=>by rw[Q0b.2 (by omega)] at h3;rw[h] at h3;cases h3
 have h3y:b3=true->(bl:Int)=(fl:Int):=fun h=>by have:=Vi h;omega
 clear hC Z0 E0 h h1 h2 h4 h5 h6 h7 h8 h9 L8 h3 Vi hr hz;rcases key with ⟨rfl,rfl,rfl,rfl,rfl,rfl⟩|rfl|⟨rfl,rfl⟩|⟨rfl,rfl,rfl⟩|⟨rfl,rfl,rfl,rfl⟩|⟨rfl,rfl,rfl,rfl,rfl⟩|⟨rfl,rfl,rfl,rfl,rfl,rfl⟩
 ·have q3:=h3y rfl;clear h3n h3y
  go_enter Tryz.func10,Tryz.ntmps10
  go_upto_region 1 with fail
  clear E1
  go_upto_region 4 with (first
   |(go_at_call 23;refine ((HC.out W0 (Uc _ _)).2.1).mono ?_;rintro e w1 ⟨rfl,hb⟩;have H1:=Ua hb;have hq:=(HC.out w1 H1.out).1;obtain ⟨k0,k1,k2,k3,k4,k5,k6,k7,k8,k9,k10,k11,k12,k13⟩:=Q04 hq;clear hq hb)
   |(go_at_call 24;refine ((HC.out w1 H1.out).2.2.1).mono ?_;rintro e w2 ⟨rfl,hb⟩;have H2:=Ua (Below.next0 H1.out hb);have hq:=(HC.out w2 H2.out).1;obtain ⟨k0,k1,k2,k3,k4,k5,k6,k7,k8,k9,k10,k11,k12,k13⟩:=Q04 hq;clear hq hb)
   |(go_at_call_of 25 (Value.agg #[.bool tn,.int .i64 te,.slice ta tl tc]);refine ((HC.out w2 H2.out).2.2.2.1).mono ?_;rintro e w3 ⟨rfl,hb⟩;rw[(Xo0 HH)];have H3:=Ua (Below.next0 H2.out hb);have hq:=(HC.out w3 H3.out).1;obtain ⟨k0,k1,k2,k3,k4,k5,k6,k7,k8,k9,k10,k11,k12,k13⟩:=Q04 hq;clear hq hb)
   |(go_at_call_of 25 (Value.agg #[.bool mn,.int .i64 me,.slice ma ml mc]);refine ((HC.out w3 H3.out).2.2.2.2.1).mono ?_;rintro e w4 ⟨rfl,hb⟩;rw[(Xo1 HH)];have H4:=Ua (Below.next0 H3.out hb);have hq:=(HC.out w4 H4.out).1;obtain ⟨k0,k1,k2,k3,k4,k5,k6,k7,k8,k9,k10,k11,k12,k13⟩:=Q04 hq;clear hq hb)
   |(go_at_call_of 25 (Value.agg #[.bool en,.int .i64 ee,.slice ea el ec]);refine ((HC.out w4 H4.out).2.2.2.2.2.1).mono ?_;rintro e w5 ⟨rfl,hb⟩;rw[(Xo2 HH)];have H5:=Ua (Below.next0 H4.out hb);have hq:=(HC.out w5 H5.out).1;obtain ⟨k0,k1,k2,k3,k4,k5,k6,k7,k8,k9,k10,k11,k12,k13⟩:=Q04 hq;clear hq hb))
  have hN:=Q03.new w5 (.bool false) (.int .i64 0) (.slice none 0 0) 26;have P3:Bw w5 (w5.alloc (.cells #[.bool false,.int .i64 0,.slice none 0 0] 26)):=Ba;have hlz:=Q0p w5 (.cells #[.bool false,.int .i64 0,.slice none 0 0] 26);obtain ⟨w6,Wx⟩:∃w6,w5.alloc (.cells #[.bool false,.int .i64 0,.slice none 0 0] 26)=w6:=⟨_,rfl⟩;rw[Wx] at hN P3 hlz⊢;clear Wx;have H6:=Xh2 (Below.next0 H5.out P3) (Uc w6.heap.size w6);have HZ:=Ua (fun W (hW:Bw w6 W)=>hN.step hW hlz);obtain ⟨k0,k1,k2,k3,k4,k5,k6,k7,k8,k9,k10,k11,k12,k13⟩:=Q04 (HC.out w6 (Xo0 H6)).1;obtain ⟨z0,z1,z2⟩:=hN.cc;clear hN P3 hlz;have I4:Q0a tn te ts:=Tt (Xo0 HH);have I5:Q0a mn me ms:=Tt (Xo1 HH);have I6:Q0a en ee es:=Tt (Xo2 HH);have HI:=Xh3 I4 I5 I6;clear I4 I5 I6;have key:=Qtx b7 b8 b9 b10 b11 b12 b13 b14;rcases key with rfl|⟨rfl,rfl⟩|⟨rfl,rfl,rfl⟩|⟨rfl,rfl,rfl,rfl⟩|⟨rfl,rfl,rfl,rfl,rfl⟩|⟨rfl,rfl,rfl,rfl,rfl,rfl⟩|⟨rfl,rfl,rfl,rfl,rfl,rfl,rfl⟩|⟨rfl,rfl,rfl,rfl,rfl,rfl,rfl,rfl⟩|⟨rfl,rfl,rfl,rfl,rfl,rfl,rfl,rfl⟩
  all_goals
   first|have o11:=Tt VN|have o11:=Xam VN|skip
   first|have o12:=Tt QN|have o12:=Xam QN|skip
   first|have o13:=Tt XR|have o13:=Xam XR|skip
   first|have o14:=Tt Ya|have o14:=Xam Ya|skip
   clear VN QN XR
   go_wp2_with (first
    |(go_at_call_of 26 (Value.agg #[.bool tn,.int .i64 te,.slice ta tl tc]);refine ((HC.out w6 (Xo0 H6)).2.2.2.2.2.2.1 (Xo0 HI)).mono ?_;rintro e w7 ⟨⟨s7,rfl,hs⟩,hb⟩;have hs7:=Qfs hs (Xo3 HH);simp only[TJ,Tq] at hs7;clear hs;have H7:=Xh2 (Below.next0 (Xo0 H6) hb) (Below.next0 (Xe1 H6) hb);have hq:=(HC.out w7 (Xo0 H7)).1;obtain ⟨k0,k1,k2,k3,k4,k5,k6,k7,k8,k9,k10,k11,k12,k13⟩:=Q04 hq;have hz:=HZ.out w7 (Xe1 H7);obtain ⟨z0,z1,z2⟩:=hz.cc;clear hq hb hz)
    |(go_at_call_of 26 (Value.agg #[.bool mn,.int .i64 me,.slice ma ml mc]);refine ((HC.out w8 (Xo0 H8)).2.2.2.2.2.2.2.2 (Xo1 HI) (Xe2 HI)).mono ?_;rintro e w9 ⟨⟨s9,rfl,hs⟩,hb⟩;have hs9:=Qtu hs (Xo5 HH);simp only[TJ,Tq] at hs9;clear hs;have H9:=Xh2 (Below.next0 (Xo0 H8) hb) (Below.next0 (Xe1 H8) hb);have hq:=(HC.out w9 (Xo0 H9)).1;obtain ⟨k0,k1,k2,k3,k4,k5,k6,k7,k8,k9,k10,k11,k12,k13⟩:=Q04 hq;have hz:=HZ.out w9 (Xe1 H9);obtain ⟨z0,z1,z2⟩:=hz.cc;clear hq hb hz)
    |(go_at_call_of 26 (Value.agg #[.bool en,.int .i64 ee,.slice ea el ec]);refine ((HC.out w7 (Xo0 H7)).2.2.2.2.2.2.2.1 (Xe2 HI)).mono ?_;rintro e w8 ⟨⟨s8,rfl,hs⟩,hb⟩;have Xe:=Qfs hs (Xo4 HH);simp only[TJ,Tq] at Xe;clear hs;have H8:=Xh2 (Below.next0 (Xo0 H7) hb) (Below.next0 (Xe1 H7) hb);have hq:=(HC.out w8 (Xo0 H8)).1;obtain ⟨k0,k1,k2,k3,k4,k5,k6,k7,k8,k9,k10,k11,k12,k13⟩:=Q04 hq;have hz:=HZ.out w8 (Xe1 H8);obtain ⟨z0,z1,z2⟩:=hz.cc;clear hq hb hz)
    |(go_at_call 27;refine (Qty prec w9).mono ?_;rintro e w10 ⟨rfl,hb⟩;rw[(Xo6 HH)];have Qz:=Xh2 (Below.next0 (Xo0 H9) hb) (Below.next0 (Xe1 H9) hb);have hq:=(HC.out w10 (Xo0 Qz)).1;obtain ⟨k0,k1,k2,k3,k4,k5,k6,k7,k8,k9,k10,k11,k12,k13⟩:=Q04 hq;have hz:=HZ.out w10 (Xe1 Qz);obtain ⟨z0,z1,z2⟩:=hz.cc;clear hq hb hz))
   go_ret
   first
   |exact ⟨by rw[HR.out];rfl,Below.next0 (Xe7 HH) (Xo0 Qz)⟩
   |exact ⟨by rw[HR.out];rfl,Below.next0 (Xe7 HH) (Xo0 H9)⟩
   |exact ⟨by rw[HR.out];rfl,Below.next0 (Xe7 HH) (Xo0 H8)⟩
   |exact ⟨by rw[HR.out];rfl,Below.next0 (Xe7 HH) (Xo0 H7)⟩
 all_goals
  go_enter Tryz.func10,Tryz.ntmps10
  first|have q3:=h3n rfl|have q3:=h3y rfl|skip
  clear h3n h3y
  go_upto_region 1 with fail
  clear E1
  go_wp2_with (first
   |(go_at_call 23;refine ((HC.out W0 (Uc _ _)).2.1).mono ?_;rintro e w1 ⟨rfl,hb⟩;have H1:=Ua hb;have hq:=(HC.out w1 H1.out).1;obtain ⟨k0,k1,k2,k3,k4,k5,k6,k7,k8,k9,k10,k11,k12,k13⟩:=Q04 hq;clear hq hb)
   |(go_at_call 24;refine ((HC.out w1 H1.out).2.2.1).mono ?_;rintro e w2 ⟨rfl,hb⟩;have H2:=Ua (Below.next0 H1.out hb);have hq:=(HC.out w2 H2.out).1;obtain ⟨k0,k1,k2,k3,k4,k5,k6,k7,k8,k9,k10,k11,k12,k13⟩:=Q04 hq;clear hq hb)
   |(go_at_call_of 25 (Value.agg #[.bool tn,.int .i64 te,.slice ta tl tc]);refine ((HC.out w2 H2.out).2.2.2.1).mono ?_;rintro e w3 ⟨rfl,hb⟩;rw[(Xo0 HH)];have H3:=Ua (Below.next0 H2.out hb);have hq:=(HC.out w3 H3.out).1;obtain ⟨k0,k1,k2,k3,k4,k5,k6,k7,k8,k9,k10,k11,k12,k13⟩:=Q04 hq;clear hq hb)
   |(go_at_call_of 25 (Value.agg #[.bool mn,.int .i64 me,.slice ma ml mc]);refine ((HC.out w3 H3.out).2.2.2.2.1).mono ?_;rintro e w4 ⟨rfl,hb⟩;rw[(Xo1 HH)];have H4:=Ua (Below.next0 H3.out hb);have hq:=(HC.out w4 H4.out).1;obtain ⟨k0,k1,k2,k3,k4,k5,k6,k7,k8,k9,k10,k11,k12,k13⟩:=Q04 hq;clear hq hb)
   |(go_at_call_of 25 (Value.agg #[.bool en,.int .i64 ee,.slice ea el ec]);refine ((HC.out w4 H4.out).2.2.2.2.2.1).mono ?_;rintro e w5 ⟨rfl,hb⟩;rw[(Xo2 HH)];have H5:=Ua (Below.next0 H4.out hb);have hq:=(HC.out w5 H5.out).1;obtain ⟨k0,k1,k2,k3,k4,k5,k6,k7,k8,k9,k10,k11,k12,k13⟩:=Q04 hq;clear hq hb))
  go_ret
  first
  |exact ⟨by rw[HR.out];rfl,Below.next0 (Xe7 HH) H5.out⟩
  |exact ⟨by rw[HR.out];rfl,Below.next0 (Xe7 HH) H4.out⟩
  |exact ⟨by rw[HR.out];rfl,Below.next0 (Xe7 HH) H3.out⟩
  |exact ⟨by rw[HR.out];rfl,Below.next0 (Xe7 HH) H2.out⟩
  |exact ⟨by rw[HR.out];rfl,Below.next0 (Xe7 HH) H1.out⟩
end Go.Proofs.YtidojbkhlenahaaGreatDoor
namespace Go.Proofs.YtidojbkhlenahaaGreatDoor
open Go.RowKit WordsM
theorem Qpx (n:Bool) (e:Int) (a:OA) (l c:Nat) (L:LN) (w:World) (h:WordsIn w a l c L) (hi:Q0a n e L):
 Calls Tryz.prog 115 #[.agg #[.bool n,.int .i64 e,.slice a l c]] w fun r w'=>r=.returned (.agg #[.bool false,.int .i64 e,.slice a l c])/\Bw w w':=by
 obtain ⟨D2,hX,hR,hB⟩:=Q7d w (.bool n) (.int .i64 e) (.slice a l c) (.bool false) (.int .i64 0) (.slice none 0 0) 26 26;have J3:l=0↔L=[]:=by rw[<-h.len];exact UH
 have Q2:=h.len;generalize hW:(w.alloc (.cells #[.bool n,.int .i64 e,.slice a l c] 26)).alloc (.cells #[.bool false,.int .i64 0,.slice none 0 0] 26)=W at D2 hX hR hB;have d6: -65536<=e/\e<=65536:=by rcases Q1a hi h.low with ⟨_,_,h0⟩|⟨_,_,_,_,h1,h2⟩ <;> omega
 have J9:=Q2f n e a l c L W (h.step hB) (by omega) (by omega) (by have:=h.cap;have:=h.most;omega);rw[UT hi] at J9;obtain ⟨x0,x1,x2⟩:=hX.cc;have HR:=Xh6 J9 hX hR hB D2 J3;clear J9 hX hR hB D2 J3 d6 h Q2
 go_enter Tryz.func115,Tryz.ntmps115
 go_upto_region 3 with (go_at_call 25;refine (Xo0 HR).mono ?_;rintro r w1 ⟨rfl,A0⟩;have H1:=Ua A0;clear A0)
 have N5:=(Xo1 HR).step H1.out (by have:=(Xo4 HR);omega);have M5:=(Xo2 HR).step H1.out (by have:=(Xo4 HR);omega);obtain ⟨x0,x1,x2⟩:=N5.cc;have f0:=M5.f0;have f1:=M5.f1;have f2:=M5.f2;obtain ⟨c0,c1,c2⟩:=M5.cc;have HQ:=Xh2 N5 M5;clear N5 M5;have d1:=(Xe1 HQ).d1 (.bool false);have d2:=(Xe1 HQ).d2 (.bool false) (.int .i64 e)
 go_wp2_with fail
 have hS:=(Xe1 HQ).store (.bool false) (.int .i64 e) (.slice a l c);obtain ⟨k0,k1,k2⟩:=hS.cc;have G3:=Q03.below (Below.next0 (Xo3 HR) H1.out) (show w.heap.size<=w.heap.size+1 by omega) (.bool false) (.int .i64 e) (.slice a l c);exact ⟨rfl,.agg #[.bool false,.int .i64 e,.slice a l c],by simp[results,go_sem,k0,k1,k2],rfl,G3⟩
open DecM
section
variable {w w':World} {R:Nat} {s:ByteArray} {p n d bad:Int} {a:OA} {m c:Nat}
end
section
variable {w w':World} {R B:Nat} {s:ByteArray} {p n d bad:Int} {a:OA} {m c:Nat} {xs:LV}
end
theorem Qzv {Φ P:World->Prop} (W:World) (hW:Φ W) (h:∀U,Φ U->P U):P W:=h W hW
theorem Qw8 (wr:World) (v:Int) (d:UInt8) (hv:v=(d.toNat:Int)):(convert 55 9 (.slice (some ⟨wr.heap.size,0,none⟩) 1 1)).run Tryz.prog (wr.alloc (.cells #[.int .u8 v] 5))=.ok (.string ⟨#[d]⟩) (wr.alloc (.cells #[.int .u8 v] 5)):=by
 refine Qau _ (wr.heap.size+1) _ 1 1 [d] ?_ rfl;refine .inr ⟨wr.heap.size,0,rfl,by omega,fun j x hx=>?_⟩;cases j with
 |zero=>
  have hx:some d=some x:=hx;injection hx with hx;subst hx;rw[Uw _ _ _ _ _ _ (Uo _ _),hv];rfl
 |succ j=>cases hx
theorem Q7w (n:Nat) (hn:n<10) (w:World):
 Calls Tryz.prog 74 #[.int .i64 (n:Int)] w fun r w'=>r=.returned (sv (dec n))/\Bw w w':=by
 have hm:(n:Int)%10=(n:Int):=by omega
 have E3:IntKind.i64.wrap (48+(n:Int))=48+(n:Int):=by rw[UO];omega
 have R4:IntKind.u8.wrap (48+(n:Int))=48+(n:Int):=by rw[IntKind.wrap_u8];omega
 obtain ⟨q,hq⟩:∃q,UInt8.ofNat (48+n)=q:=⟨_,rfl⟩;have hd:(48:Int)+(n:Int)=(q.toNat:Int):=by rw[<-hq,Q4z n hn];omega
 have QZ:=Qw8 w _ _ hd;have hb:Bw w (w.alloc (.cells #[.int .u8 (48+(n:Int))] 5)):=Ba;have H:=Xh3 hb hn hq;clear hb hd hn hq
 go_enter Tryz.func74,Tryz.ntmps74
 go_wp2_with fail
 go_ret;exact ⟨by rw[Q1t (Xo1 H),(Xe2 H)];rfl,(Xo0 H)⟩
theorem Qas:∀(l:List (LU)) (t:LU),l≠[]->Q2k (l++[t])=Q2k l++42::t
 |[],_,h=>absurd rfl h
 |[x],t,_=>by simp[Q2k]
 |x::y::r,t,_=>by
  have:=Qas (y::r) t (by simp);simp only[To,Q2k] at this⊢;rw[this];simp
theorem Qtz:∀(l:List (LU)),(∀t∈l,t≠[])->(Q2k l=[]↔l=[])
 |[],_=>by simp[Q2k]
 |[x],h=>by simp[Q2k,h x (by simp)]
 |x::y::r,h=>by simp[Q2k,h x (by simp)]
theorem Qnk:∀(E:List Int) (i:Nat),∀t∈Q11 i E,t≠[]
 |[],_,t,h=>by simp[Q11] at h
 |k::r,i,t,h=>by
  rw[Q11] at h;rcases Tp.1 h with h|h
  ·unfold Q9z at h
   split at h
   ·simp at h;subst h;simp
   ·split at h
    ·simp at h;subst h;simp
    ·simp at h
  ·exact Qnk r (i+1) t h
theorem Qft:∀(E:List Int) (i:Nat),(∀x∈E,0<=x)->(Q11 i E=[]↔E.sum=0)
 |[],_,_=>by simp[Q11]
 |k::r,i,h=>by
  have h0:=h k (by simp);have ih:=Qft r (i+1) (fun x hx=>h x (by simp[hx]));have hs:0<=r.sum:=Qry fun x hx=>h x (by simp[hx]);rw[Q11,List.append_eq_nil_iff,ih,Xbp];unfold Q9z
  split
  ·simp;omega
  ·split
   ·simp;omega
   ·simp;omega
theorem Qyg {e:Int} {L:LN} (h:Q0a false e L):Q23 false e L≠[]:=by
 unfold Q23;rw[Uu h,Q21];intro e0;have h1:=congrArg List.length e0;simp only[Uh,UP] at h1;have h2:=Q2z (val (2^64) L);omega
theorem Q79 {a b:ByteArray} (h:a.data.toList=b.data.toList):Value.string a=Value.string b:=congrArg Value.string (ByteArray.ext (Array.toList_inj.1 h))
def J09 (pre:List (LU)) (E:List Int) (w:World) (s3 s7:Value) (wr:World):Prop:=∃i:Nat,s3=sv (Q2k (pre++Q11 0 (E.take i)))/\s7=.int .i64 (i:Int)/\i<=E.length/\Bw w wr
theorem Qe7 [LT ZK] (k:Nat) (m:Q00) (a:OA) (l c:Nat) (b:OA) (n d:Nat) (w:World) (hw:WordsIn w a l c m.ws) (he:Q0q w b n d m.es) (O1:OkM k m) (R5:k<=4):
 Calls Tryz.prog 75 #[.agg #[.bool m.neg,.int .i64 m.exp,.slice a l c,.slice b n d]] w fun r w'=>r=.returned (sv (Q1n m.term))/\Bw w w':=by
 have hX:=Q32.new w (.bool m.neg) (.int .i64 m.exp) (.slice a l c) (.slice b n d) 98;have K1:Bw w (w.alloc (.cells #[.bool m.neg,.int .i64 m.exp,.slice a l c,.slice b n d] 98)):=Ba;have K5:=Q0p w (.cells #[.bool m.neg,.int .i64 m.exp,.slice a l c,.slice b n d] 98);have K0:=he.len;have KX:m.es.length<=4:=by have:=O1.1.1.1;omega
 have C4:=Q27 O1.1.1;have J4:=he.cap;have Vy:=he.most;obtain ⟨e0,e1,e2⟩:=hX.cc;have e3:=hX.c3;have H:=Xh7 hw he O1 hX K1 K5 C4;clear hw he O1 hX K1 K5 C4
 go_enter Tryz.func75,Tryz.ntmps75
 go_wp2_with fail
 generalize I1:w.alloc (.cells #[.bool m.neg,.int .i64 m.exp,.slice a l c,.slice b n d] 98)=W1 at e0 e1 e2 e3 H⊢;clear I1
 go_loopw [4,5] (fun s4 s5 wr=>∃(i:Nat) (S:Int),s4=.int .i64 S/\s5=.int .i64 (i:Int)/\i<=n/\(m.es.take i).sum=S/\0<=S/\S<=8*i/\W1=wr) (fun _ iv _=>n-(intOf iv).toNat)
 case atStart=>exact ⟨0,0,rfl,rfl,Ut _,by simp,by decide,by decide,rfl⟩
 case round=>
  obtain ⟨i,S,rfl,rfl,hi,hS,Kb,hS8,rfl⟩:=hrel
  by_cases E0:i<m.es.length
  ·have F0:(i:Int)<(n:Int):=(by omega);obtain ⟨x,hx⟩:∃x,m.es[i]?=some x:=⟨_,Ub E0⟩;obtain ⟨b0,o0,E5,Z0,Y3⟩:=((Xo1 H).step (Xo4 H)).rd.at_ hx;subst E5;obtain ⟨O4,hx8⟩:=(Xe6 H) x (Ug hx);have F9:=Qbs hx;have HS:=Xh2 hS F9;clear hS F9 hx
   go_wp2_with fail
   exact ⟨⟨i+1,S+x,rfl,congrArg (Value.int .i64) (by omega),by omega,by rw[(Xe1 HS),(Xo0 HS)],by omega,by omega,trivial⟩,by simp only[intOf];omega⟩
  ·have F0:¬((i:Int)<(n:Int)):=(by omega);have U5:i=m.es.length:=(by omega);rw[U5,Ti] at hS;have hwW:=(Xo0 H).step (Xo4 H);have d6: -65536<=m.exp/\m.exp<=65536:=by rcases Q1a (Xo2 H).1.2 hwW.low with ⟨_,_,h0⟩|⟨_,_,_,_,h1,h2⟩ <;> omega
   have Xl:=Qpx m.neg m.exp a l c m.ws W1 hwW (Xo2 H).1.2;obtain ⟨g1,g2,g3,g4⟩:=Qdr (Xo2 H) hwW.low;have hpz:=Qft m.es 0 (Xo2 H).1.1.2.1;have HS:=Xh7 hS Xl g1 g2 g3 hpz hwW;have WB:=g4;clear hS Xl g1 g2 g3 g4 hpz hwW U5 hS8 Kb
   go_upto_region 7 with (go_at_call 115;refine (Xo1 HS).mono ?_;rintro r w4 ⟨rfl,N1⟩;have H4:=Ua N1;clear N1)
   have hN:=Q03.new w4 (.bool false) (.int .i64 m.exp) (.slice a l c) 26;have N6:Bw w4 (w4.alloc (.cells #[.bool false,.int .i64 m.exp,.slice a l c] 26)):=Ba;have K5:=Q0p w4 (.cells #[.bool false,.int .i64 m.exp,.slice a l c] 26);refine Qzv (Φ:=fun U=>Q03 U w4.heap.size (.bool false) (.int .i64 m.exp) (.slice a l c)/\Bw w4 U/\w4.heap.size<U.heap.size) (P:=fun U=>Code.wp _ _ _ _ U) _ ⟨hN,N6,K5⟩ ?_;clear hN N6 K5;intro V hV;have n0:=hV.1.c0;have n1:=hV.1.c1;have n2:=hV.1.c2;have hbV:=Below.next0 H4.out hV.2.1;have HC:=Xh3 hV ((Xe6 HS).step hbV) hbV;have m3:=(hbV.cell (p:=⟨w.heap.size,3,none⟩) (Xo5 H)).trans e3;clear hV hbV e0 e1 e2 e3;obtain ⟨pre,M2⟩:∃pre,(if Q11 0 m.es=[]∨Qay m.term.1≠1 then [Q23 false m.exp m.ws] else [])=pre:=⟨_,rfl⟩;have WD:Q3o m.term=pre++Q11 0 m.es:=by
    unfold Q3o;rw[<-M2,(Xo3 HS),show m.term.2=m.es from rfl]
    split <;> rfl
   have hpne:∀t∈pre,t≠[]:=by
    rw[<-M2];intro t ht
    split at ht
    ·rw[UC] at ht;subst ht;exact Qyg (Xo4 HS)
    ·cases ht
   have QL:∀i,(Q2k (pre++Q11 0 (m.es.take i))).length<=8406:=fun i=>by
    have K8:=Q6y (m.es.take i) 0 (by rw[UW];omega) (fun x hx=>((Xe6 H) x (Ts hx)).2);have i5:pre.length<=1:=(by rw[<-M2];split <;> simp);have o7:(pre++Q11 0 (m.es.take i)).length<=6:=(by rw[Uh];have h2:=K8.2;rw[UW] at h2;omega);have h3:=Q9v (N:=1400) (pre++Q11 0 (m.es.take i)) (fun t ht=>by
     rcases Tp.1 ht with h|h
     ·rw[<-M2] at h
      split at h
      ·rw[UC] at h;rw[h];exact WB
      ·cases h
     ·have:=K8.1 t h;omega)
    have:=UY 1401 o7;omega
   have HSH:=Ua QL;clear QL WB;have K6:=fun U (hU:Bw V U)=>Qcy false m.exp a l c m.ws U ((Xo1 HC).step hU) (by omega) (by omega);have HP:=Xh3 WD hpne K6;clear WD hpne K6
   by_cases C8:S=0
   case' pos=>
    have hp0:Q11 0 m.es=[]:=(Xo5 HS).2 (by rw[(Xo0 HS)];exact C8);rw[Uu (.inl hp0)] at M2;have HQ:=Ua M2;clear M2 hp0
    go_upto_region 9 with (go_at_call 42;refine ((Xe2 HP) _ (Uc _ _)).mono ?_;rintro r w9 ⟨rfl,j4⟩;have H9:=Ua j4;clear j4)
   case' neg=>
    have VD:(S==0)=false:=beq_eq_false_iff_ne.2 C8;have hp0:¬Q11 0 m.es=[]:=fun e=>C8 (by rw[<-(Xo0 HS)];exact (Xo5 HS).1 e);have E3:WordsIn (V.alloc (.cells #[.int .u64 1] 83)) (some ⟨V.heap.size,0,none⟩) 1 1 [1]:=Q7p V 1 (by decide) 83;have Wz:Bw V (V.alloc (.cells #[.int .u64 1] 83)):=Ba;have We:Low (2^64) [1]:=fun x hx=>by rw[UC] at hx;subst hx;decide
    have C4:=Qcx false m.exp a l c m.ws false 0 (some ⟨V.heap.size,0,none⟩) 1 1 [1] (V.alloc (.cells #[.int .u64 1] 83)) ((Xo1 HC).step Wz) E3 (by have:=(Xo1 HC).cap;have:=(Xo1 HC).most;omega);rw[Qnc (Xo4 HS) (Xo1 HC).low (by decide) We (by decide+kernel),<-(Xo2 HS)] at C4;have HW:=Xh2 C4 Wz;clear C4 Wz E3 We
    by_cases h1:Qay m.term.1=1
    case' pos=>
     rw[Us (by rintro (h|h);exact hp0 h;exact h h1)] at M2;have C4:=(Xo0 HW);rw[UT h1] at C4;have HQ:=Xh2 M2 C4;clear M2 C4 hp0 h1
     go_upto_region 9 with (go_at_call 33;refine (Xe1 HQ).mono ?_;rintro r w9 ⟨rfl,j4⟩;have H9:=Ua (Below.next0 (Xe1 HW) j4);clear j4)
    case' neg=>
     rw[Uu (.inr h1)] at M2;have C4:=(Xo0 HW);rw[UX h1] at C4;have HQ:=Xh2 M2 C4;clear M2 C4 hp0 h1
     go_upto_region 9 with (first
      |(go_at_call 42;refine ((Xe2 HP) _ H8.out).mono ?_;rintro r w9 ⟨rfl,j4⟩;have H9:=Ua (Below.next0 H8.out j4);clear j4)
      |(go_at_call 33;refine (Xe1 HQ).mono ?_;rintro r w8 ⟨rfl,G7⟩;have n0:=((Below.next0 (Xe1 HW) G7).cell (p:=⟨w4.heap.size,0,none⟩) (Xo0 HC).2.2).trans n0;have n1:=((Below.next0 (Xe1 HW) G7).cell (p:=⟨w4.heap.size,1,none⟩) (Xo0 HC).2.2).trans n1;have n2:=((Below.next0 (Xe1 HW) G7).cell (p:=⟨w4.heap.size,2,none⟩) (Xo0 HC).2.2).trans n2;have H8:=Ua (Below.next0 (Xe1 HW) G7);clear G7))
   all_goals clear n0 n1 n2 C8
   all_goals go_wp2_with fail
   all_goals go_loopw [3,7] (fun s3 s7 wr=>J09 pre m.es V s3 s7 wr) (fun _ iv _=>n-(intOf iv).toNat)
   all_goals (try (case atStart=>first|exact ⟨0,by rw[<-HQ.out];rfl,rfl,Ut _,H9.out⟩|exact ⟨0,by rw[<-(Xo0 HQ)];rfl,rfl,Ut _,H9.out⟩))
   all_goals (
    obtain ⟨i,K4,rfl,hi,M0⟩:=hrel;obtain ⟨S0,Kb⟩:∃S0,Q2k (pre++Q11 0 (m.es.take i))=S0:=⟨_,rfl⟩;rw[Kb] at K4;subst K4;have m3:=(M0.cell (p:=⟨w.heap.size,3,none⟩) (Ue (Xo5 H) (Xe2 HC).size)).trans m3
    by_cases E0:i<m.es.length
    case pos=>
     have F0:(i:Int)<(n:Int):=(by omega);obtain ⟨x,hx⟩:∃x,m.es[i]?=some x:=⟨_,Ub E0⟩;obtain ⟨b0,o0,E5,Z0,Y3⟩:=((((Xo1 H).step (Xo4 H)).step (Xe2 HC)).step M0).rd.at_ hx;subst E5;obtain ⟨O4,hx8⟩:=(Xe6 H) x (Ug hx);have F9:=Qfl hx;have Qt:wrap64 ((i:Int)+1)=(i:Int)+1:=(by unfold wrap64;omega);have Xp:i+1<10:=TQ (Ul E0 KX) (by decide);have O8:=Q7w (i+1) Xp wr;obtain ⟨q,hq⟩:∃q,dec (i+1)=[q]:=⟨_,Q1t Xp⟩;rw[show ((i+1:Nat):Int)=(i:Int)+1 by omega,hq] at O8
     by_cases hz:x=0
     ·subst hz;have HR:=Xh3 F9 M0 Kb;clear F9 M0 Kb O8 hx
      go_wp2_with fail
      exact ⟨⟨i+1,by rw[(Xo0 HR),show Q9z i 0=[] from rfl,Xaf,(Xe2 HR)],congrArg (Value.int .i64) (by omega),E0,(Xo1 HR)⟩,by simp only[intOf];omega⟩
     ·have hz':(x==0)=false:=beq_eq_false_iff_ne.2 hz;have hlne:∀t∈pre++Q11 0 (m.es.take i),t≠[]:=fun t ht=>by
       rcases Tp.1 ht with h|h
       ·exact (Xo1 HP) t h
       ·exact Qnk _ 0 t h
      obtain ⟨K,hK⟩:∃K:Nat,x=(K:Int):=⟨x.toNat,by omega⟩;subst hK;have hK10:K<10:=(by omega);have ZN:=fun U=>Q7w K hK10 U;obtain ⟨q2,J5⟩:∃q2,dec K=[q2]:=⟨_,Q1t hK10⟩;rw[J5] at ZN;have hSl:S0.length<=8406:=(by rw[<-Kb];exact HSH.out i);have HR:=Xh8 F9 M0 Kb O8 ZN hlne hq J5;clear F9 M0 Kb O8 ZN hlne hx hq J5
      by_cases h0:S0=[]
      ·subst h0;have J3:pre++Q11 0 (m.es.take i)=[]:=(Qtz _ (Xo5 HR)).1 (Xo2 HR);have HL:=Ua J3;clear J3
       by_cases h1:(1:Int)<(K:Int)
       ·have z8:Q9z i (K:Int)=[120::([q]++94::[q2])]:=(by rw[Q9z,Us (by omega),Uu h1,Xar,(Xo6 HR),(Xe7 HR)]);have hj:Q2k (pre++Q11 0 (m.es.take (i+1)))=120::([q]++94::[q2]):=(by rw[(Xo0 HR),<-UN,HL.out,z8];rfl);have HJ:=Ua hj;clear z8 hj
        go_wp2_with (first
        |(go_at_call 74;refine ((Xo4 HR) w10).mono ?_;rintro r w11 ⟨rfl,O9⟩;have Kv:=Ua (Below.next0 Qz.out O9);clear O9)
        |(go_at_call 74;refine (Xo3 HR).mono ?_;rintro r w10 ⟨rfl,P5⟩;have m3:=(P5.cell (p:=⟨w.heap.size,3,none⟩) (UI m3)).trans m3;have Y3:=(P5.cell (p:=⟨b0,o0+i,none⟩) (UI Y3)).trans Y3;have Qz:=Ua P5;clear P5))
        exact ⟨⟨i+1,by rw[HJ.out];exact Q79 (by simp[UJ]),congrArg (Value.int .i64) (by omega),E0,Below.next0 (Xo1 HR) Kv.out⟩,by simp only[intOf];omega⟩
       ·have HK:=Ua (show K=1 by omega);have z8:Q9z i (K:Int)=[120::[q]]:=(by rw[Q9z,Uu (by have:=HK.out;omega),(Xo6 HR)]);have hj:Q2k (pre++Q11 0 (m.es.take (i+1)))=120::[q]:=(by rw[(Xo0 HR),<-UN,HL.out,z8];rfl);have HJ:=Ua hj;clear z8 hj
        go_wp2_with (first
        |(go_at_call 74;refine ((Xo4 HR) w10).mono ?_;rintro r w11 ⟨rfl,O9⟩;have Kv:=Ua (Below.next0 Qz.out O9);clear O9)
        |(go_at_call 74;refine (Xo3 HR).mono ?_;rintro r w10 ⟨rfl,P5⟩;have m3:=(P5.cell (p:=⟨w.heap.size,3,none⟩) (UI m3)).trans m3;have Y3:=(P5.cell (p:=⟨b0,o0+i,none⟩) (UI Y3)).trans Y3;have Qz:=Ua P5;clear P5))
        exact ⟨⟨i+1,by rw[HJ.out];exact Q79 (by simp[UJ]),congrArg (Value.int .i64) (by omega),E0,Below.next0 (Xo1 HR) Qz.out⟩,by simp only[intOf];omega⟩
      ·have U5:S0.isEmpty=false:=List.isEmpty_eq_false_iff.2 h0;have J3:pre++Q11 0 (m.es.take i)≠[]:=fun e=>h0 (by rw[<-(Xo2 HR),e];rfl);have HL:=Ua J3;clear J3 h0
       by_cases h1:(1:Int)<(K:Int)
       ·have z8:Q9z i (K:Int)=[120::([q]++94::[q2])]:=(by rw[Q9z,Us (by omega),Uu h1,Xar,(Xo6 HR),(Xe7 HR)]);have hj:Q2k (pre++Q11 0 (m.es.take (i+1)))=S0++42::120::([q]++94::[q2]):=(by rw[(Xo0 HR),<-UN,z8,Qas _ _ HL.out,(Xo2 HR)]);have HJ:=Ua hj;clear z8 hj
        go_wp2_with (first
        |(go_at_call 74;refine ((Xo4 HR) w10).mono ?_;rintro r w11 ⟨rfl,O9⟩;have Kv:=Ua (Below.next0 Qz.out O9);clear O9)
        |(go_at_call 74;refine (Xo3 HR).mono ?_;rintro r w10 ⟨rfl,P5⟩;have m3:=(P5.cell (p:=⟨w.heap.size,3,none⟩) (UI m3)).trans m3;have Y3:=(P5.cell (p:=⟨b0,o0+i,none⟩) (UI Y3)).trans Y3;have Qz:=Ua P5;clear P5))
        exact ⟨⟨i+1,by rw[HJ.out];exact Q79 (by simp[UJ]),congrArg (Value.int .i64) (by omega),E0,Below.next0 (Xo1 HR) Kv.out⟩,by simp only[intOf];omega⟩
       ·have HK:=Ua (show K=1 by omega);have z8:Q9z i (K:Int)=[120::[q]]:=(by rw[Q9z,Uu (by have:=HK.out;omega),(Xo6 HR)]);have hj:Q2k (pre++Q11 0 (m.es.take (i+1)))=S0++42::120::[q]:=(by rw[(Xo0 HR),<-UN,z8,Qas _ _ HL.out,(Xo2 HR)]);have HJ:=Ua hj;clear z8 hj
        go_wp2_with (first
        |(go_at_call 74;refine ((Xo4 HR) w10).mono ?_;rintro r w11 ⟨rfl,O9⟩;have Kv:=Ua (Below.next0 Qz.out O9);clear O9)
        |(go_at_call 74;refine (Xo3 HR).mono ?_;rintro r w10 ⟨rfl,P5⟩;have m3:=(P5.cell (p:=⟨w.heap.size,3,none⟩) (UI m3)).trans m3;have Y3:=(P5.cell (p:=⟨b0,o0+i,none⟩) (UI Y3)).trans Y3;have Qz:=Ua P5;clear P5))
        exact ⟨⟨i+1,by rw[HJ.out];exact Q79 (by simp[UJ]),congrArg (Value.int .i64) (by omega),E0,Below.next0 (Xo1 HR) Qz.out⟩,by simp only[intOf];omega⟩
    have F0:¬((i:Int)<(n:Int)):=(by omega);have U5:i=m.es.length:=(by omega);rw[U5,Ti] at Kb;have HS0:=Xh2 Kb M0;clear Kb M0 U5
    go_wp2_with fail
    go_ret;refine ⟨?_,Below.next0 (Xo4 H) (Below.next0 (Xe2 HC) (Xe1 HS0))⟩;rw[Q1n,(Xo0 HP),(Xo0 HS0)];rfl)
def Qw9 (w1:World) (F:List (List Q00)) (s3 s4:Value) (wr:World):Prop:=∃i:Nat,s3=sv (Q0u 0 ((Q0n F).take i))/\s4=.int .i64 (i:Int)/\i<=F.length/\Bw w1 wr
def Qnl (w1:World) (L:LU) (ms:List Q00) (s3 s5:Value) (wr:World):Prop:=∃k:Nat,s3=sv (L++Q0m true ((ms.map Q00.term).take k))/\s5=.int .i64 (k:Int)/\k<=ms.length/\Bw w1 wr
theorem Qu0 {F:List (List Q00)} (h:Qsz F) (h4:F.length<=4) (i:Nat):(Q0u 0 ((Q0n F).take i)).length<=672800:=by
 have h1:=Q5w (F:=F.take i) (fun x hx=>h x (Ts hx)) 0 (by rw[UW];omega);have h2:(F.take i).length<=4:=by rw[UW];omega
 have h3:=UY 168200 h2;unfold Q0n at h1⊢;rw[<-List.map_take];omega
theorem Qm1 [LT ZK] (a:OA) (n c:Nat) (F:List (List Q00)) (w:World) (h:Q1v w a n c F):
 Calls Tryz.prog 43 #[.slice a n c] w fun r w'=>(Q1w F->r=.returned (sv (Q0u 0 (Q0n F))))/\(¬Q1w F->r=.returned (sv []))/\Bw w w':=by
 have B6:=Q6n a n c F w h
 by_cases hR:Q1w F
 case neg=>
  have H:=Xh2 B6 hR;clear B6 h hR
  go_enter Tryz.func43,Tryz.ntmps43
  go_wp2_with (go_at_call 23;refine (Xo0 H).mono ?_;rintro r w1 ⟨⟨bb,rfl,M8⟩,A0⟩;obtain rfl:bb=false:=by { cases bb with|false=>rfl|true=>exact absurd (M8.1 rfl) (Xe1 H) };have H1:=Ua A0;clear M8 A0)
  go_ret;exact ⟨fun h=>absurd h (Xe1 H),fun _=>rfl,H1.out⟩
 case pos=>
 have QL:=Qc2 h hR;have Q2:=h.1;have Qx:n<=4:=by have:=hR.2.1;omega
 have H:=Xh4 B6 hR h QL;clear B6 h QL
 go_enter Tryz.func43,Tryz.ntmps43
 go_wp2_with (go_at_call 23;refine (Xo0 H).mono ?_;rintro r w1 ⟨⟨bb,rfl,M8⟩,A0⟩;obtain rfl:bb=true:=M8.2 (Xo1 H);have H1:=Ua A0;clear M8 A0)
 clear hR
 go_loopw [3,4] (fun s3 s4 wr=>Qw9 w1 F s3 s4 wr) (fun _ iv _=>n-(intOf iv).toNat)
 case atStart=>exact ⟨0,rfl,rfl,Ut _,Uc _ _⟩
 case round=>
  obtain ⟨i,K4,rfl,hi,M0⟩:=hrel;have M2:=Qu0 (Xe3 H) (by omega) i;obtain ⟨L0,Qw⟩:∃L0,Q0u 0 ((Q0n F).take i)=L0:=⟨_,rfl⟩;rw[Qw] at K4 M2;subst K4
  by_cases E0:i<F.length
  ·have F0:(i:Int)<(n:Int):=(by omega);obtain ⟨ms,D6⟩:∃ms,F[i]?=some ms:=⟨_,Ub E0⟩;have hF:=((Xo2 H).step H1.out).step M0;have QP:=Ug D6;have Km:=(Xo1 H).2.2 ms QP;have Zr:=(Xe3 H) ms QP;have z4:=Q6i (Qfo D6);obtain ⟨_,_,_,h0|⟨g,o,rfl,hg,hFi⟩⟩:=hF
   ·rw[h0] at E0;exact absurd E0 (Tk _)
   obtain ⟨p,l,d,G1,hM⟩:=hFi i ms D6;have XY:=hM.1;have x6:l<=9223372036854775807:=Ul hM.2.1 hM.2.2.1;have Xp:i+1<10:=(by omega);obtain ⟨q,hq⟩:∃q,dec (i+1)=[q]:=⟨_,Q1t Xp⟩;have O8:=Q7w (i+1) Xp wr;rw[show ((i+1:Nat):Int)=(i:Int)+1 by omega,hq] at O8;have QJ:Q3f i=[120,q,39,32,61,32]:=(by rw[Q3f,hq];rfl);have Vj:wrap64 ((i:Int)+1)=(i:Int)+1:=(by unfold wrap64;omega);have KN:=Q70 Zr;have K5:Q5o i (ms.map Q00.term)=Q3f i++(Q4u (ms.map Q00.term)++[10]):=rfl;rw[QJ] at K5;have hfs:Q0u 0 ((Q0n F).take (i+1))=L0++Q5o i (ms.map Q00.term):=by
    rw[z4,Q6z,Qw,show 0+((Q0n F).take i).length=i by rw[UW];unfold Q0n;rw[UF];omega]
   rw[K5] at hfs;have HR:=Xh8 hfs Km Zr hM O8 M0 hg KN;clear hfs Km Zr hM O8 M0 hg KN z4 QP hFi Qw K5 QJ hq D6
   by_cases hms0:ms=[]
   ·subst hms0;obtain rfl:l=0:=XY.symm
    go_wp2_with (go_at_call 74;refine (Xo4 HR).mono ?_;rintro r w2 ⟨rfl,D0⟩;have G1:=(D0.cell (p:=⟨g,o+i,none⟩) (Xo6 HR)).trans G1;have H2:=Ua D0;clear D0)
    have M6:g<w2.heap.size:=Ue (Xo6 HR) H2.out.size;have HC:=Xh2 G1 M6;clear G1 M6
    rename World=>w2
    go_loopw [3,5] (fun s3 s5 wx=>Qnl w2 (L0++[120,q,39,32,61,32,48]) [] s3 s5 wx) (fun _ _ _=>0)
    case atStart=>exact ⟨0,Q79 (by simp[UJ,Q0m]),rfl,Ut _,Uc _ _⟩
    case round=>
     rename World=>wk
     obtain ⟨k,K4,rfl,hk,A6⟩:=hrel;obtain rfl:k=0:=(by simpa using hk);obtain ⟨S1,Xg⟩:∃S1,(L0++[120,q,39,32,61,32,48])=S1:=⟨_,rfl⟩;have hSl:S1.length<=840998:=by
      rw[<-Xg,Uh];simp only[Um,UP];omega
     rw[show (L0++[120,q,39,32,61,32,48])++Q0m true ((([]:List Q00).map Q00.term).take 0)=S1 by rw[<-Xg];simp[Q0m]] at K4;subst K4;have G1:=(A6.cell (p:=⟨g,o+i,none⟩) (Xe1 HC)).trans (Xo0 HC);have HK:=Xh2 Xg A6;clear Xg A6
     go_wp2_with fail
     refine ⟨⟨i+1,?_,congrArg (Value.int .i64) (by omega),E0,Below.next0 (Xo5 HR) (Below.next0 H2.out (Xe1 HK))⟩,by simp only[intOf];omega⟩;rw[(Xo0 HR)];refine Q79 ?_;have h1:=(Xo0 HK);simp only[UJ,Array.toList_append,<-h1];simp[Q4u]
   ·have J3:((l:Int)==0)=false:=by
     rw[Uj];intro e;exact hms0 (Ty (by omega))
    have HN0:=Ua hms0;clear hms0
    go_wp2_with (go_at_call 74;refine (Xo4 HR).mono ?_;rintro r w2 ⟨rfl,D0⟩;have G1:=(D0.cell (p:=⟨g,o+i,none⟩) (Xo6 HR)).trans G1;have H2:=Ua D0;clear D0)
    have M6:g<w2.heap.size:=Ue (Xo6 HR) H2.out.size;have HC:=Xh2 G1 M6;obtain ⟨b2,o2,rfl,hb2l,R1⟩:∃b o,p=some ⟨b,o,none⟩/\b<wr.heap.size/\∀j m,ms[j]?=some m->Q41 wr b (o+j*4) m:=by
     rcases (Xo3 HR).2.2.2 with h0|h0
     ·exact absurd h0 HN0.out
     ·exact h0
    have HM:=Xh2 hb2l R1;clear G1 hb2l R1 M6
    rename World=>w2
    go_loopw [3,5] (fun s3 s5 wx=>Qnl w2 (L0++[120,q,39,32,61,32]) ms s3 s5 wx) (fun _ iv _=>l-(intOf iv).toNat)
    case atStart=>exact ⟨0,Q79 (by simp[UJ,Q0m]),rfl,Ut _,Uc _ _⟩
    case round=>
     rename World=>wk
     obtain ⟨k,K4,rfl,hk,A6⟩:=hrel;obtain ⟨S1,Xg⟩:∃S1,(L0++[120,q,39,32,61,32])++Q0m true ((ms.map Q00.term).take k)=S1:=⟨_,rfl⟩;have hSl:S1.length<=840998:=by
      rw[<-Xg,Uh,Uh];have:=(Xe7 HR) k;simp only[Um,UP];omega
     rw[Xg] at K4;subst K4;have G1:=(A6.cell (p:=⟨g,o+i,none⟩) (Xe1 HC)).trans (Xo0 HC)
     by_cases Qv:k<ms.length
     ·have hkl':(k:Int)<(l:Int):=(by omega);obtain ⟨m,hm⟩:∃m,ms[k]?=some m:=⟨_,Ub Qv⟩;have Kn:=Ug hm;have Y2:=Below.next0 H2.out A6;obtain ⟨aw,lw,cw,ae,le,ce,m0,m1,m2,m3,hw,he,S4,Q3⟩:=((Xe1 HM) k m hm).step Y2 (Xo0 HM);have O1:=(Xo1 HR).2.2.2.1 m Kn;have Xm:=Qe7 F.length m aw lw cw ae le ce wk hw he O1 (by omega);have WE:=Qjm O1 hw.low;have R8:=(Xo2 HR).2 m Kn;obtain ⟨TT,ZP⟩:∃TT,Q1n m.term=TT:=⟨_,rfl⟩;have Z9:(L0++[120,q,39,32,61,32])++Q0m true ((ms.map Q00.term).take (k+1))=S1++(Q31 (true && ((ms.map Q00.term).take k).isEmpty) m.term++TT):=by
       rw[Q6i (l:=ms.map Q00.term) (i:=k) (x:=m.term) (by rw[UK,hm];rfl),Q8v,<-UN,Xg,ZP]
      rw[ZP] at Xm R8;obtain ⟨ng,hng⟩:∃ng,m.neg=ng:=⟨_,rfl⟩;rw[hng] at Xm m0 WE;have HK:=Xh5 Xm Z9 ZP A6 WE;clear Xm Z9 ZP A6 WE hng hw he S4 Q3 O1 Y2 Kn hm
      by_cases Jv:0<k
      ·have Zj:(0:Int)<(k:Int):=(by omega);have J2:((k:Int)==0)=false:=(by rw[Uj];omega);have XS:((ms.map Q00.term).take k).isEmpty=false:=by
        rw[List.isEmpty_eq_false_iff];intro h;have:=congrArg List.length h;rw[UW,UF] at this;have e0:([]:List Q0l).length=0:=rfl;omega
       cases ng with
       |true=>
        have P2:Q31 (true && ((ms.map Q00.term).take k).isEmpty) m.term=[32,45,32]:=(by rw[XS,Q31,(Xe4 HK)];rfl);have HG:=Ua P2;clear P2 XS
        go_wp2_with (go_at_call 75;refine (Xo0 HK).mono ?_;rintro r w5 ⟨rfl,C1⟩;have H5:=Ua C1;clear C1)
        exact ⟨⟨k+1,by rw[(Xo1 HK),HG.out];exact Q79 (by simp[UJ]),congrArg (Value.int .i64) (by omega),Qv,Below.next0 (Xo3 HK) H5.out⟩,by simp only[intOf];omega⟩
       |false=>
        have P2:Q31 (true && ((ms.map Q00.term).take k).isEmpty) m.term=[32,43,32]:=(by rw[XS,Q31,(Xe4 HK)];rfl);have HG:=Ua P2;clear P2 XS
        go_wp2_with (go_at_call 75;refine (Xo0 HK).mono ?_;rintro r w5 ⟨rfl,C1⟩;have H5:=Ua C1;clear C1)
        exact ⟨⟨k+1,by rw[(Xo1 HK),HG.out];exact Q79 (by simp[UJ]),congrArg (Value.int .i64) (by omega),Qv,Below.next0 (Xo3 HK) H5.out⟩,by simp only[intOf];omega⟩
      ·have hkz:k=0:=(by omega);have XS:((ms.map Q00.term).take k).isEmpty=true:=(by rw[hkz];rfl);have Zj:¬(0:Int)<(k:Int):=(by omega);have J2:((k:Int)==0)=true:=(by rw[beq_iff_eq];omega);clear hkz;cases ng with
       |true=>
        have P2:Q31 (true && ((ms.map Q00.term).take k).isEmpty) m.term=[45]:=(by rw[XS,Q31,(Xe4 HK)];rfl);have HG:=Ua P2;clear P2 XS
        go_wp2_with (go_at_call 75;refine (Xo0 HK).mono ?_;rintro r w5 ⟨rfl,C1⟩;have H5:=Ua C1;clear C1)
        exact ⟨⟨k+1,by rw[(Xo1 HK),HG.out];exact Q79 (by simp[UJ]),congrArg (Value.int .i64) (by omega),Qv,Below.next0 (Xo3 HK) H5.out⟩,by simp only[intOf];omega⟩
       |false=>
        have P2:Q31 (true && ((ms.map Q00.term).take k).isEmpty) m.term=[]:=(by rw[XS,Q31,(Xe4 HK)];rfl);have HG:=Ua P2;clear P2 XS
        go_wp2_with (go_at_call 75;refine (Xo0 HK).mono ?_;rintro r w5 ⟨rfl,C1⟩;have H5:=Ua C1;clear C1)
        exact ⟨⟨k+1,by rw[(Xo1 HK),HG.out];exact Q79 (by simp[UJ]),congrArg (Value.int .i64) (by omega),Qv,Below.next0 (Xo3 HK) H5.out⟩,by simp only[intOf];omega⟩
     ·have hkl':¬((k:Int)<(l:Int)):=(by omega);have o5:(ms.map Q00.term).take k=ms.map Q00.term:=Uz (by rw[UF];omega);rw[o5] at Xg;have HK:=Xh2 Xg A6;clear Xg A6 o5
      go_wp2_with fail
      refine ⟨⟨i+1,?_,congrArg (Value.int .i64) (by omega),E0,Below.next0 (Xo5 HR) (Below.next0 H2.out (Xe1 HK))⟩,by simp only[intOf];omega⟩;rw[(Xo0 HR)];refine Q79 ?_;have hpy:Q4u (ms.map Q00.term)=Q0m true (ms.map Q00.term):=(by rw[Q4u,Us (by intro h;exact HN0.out (List.map_eq_nil_iff.1 h))]);rw[hpy];have h1:=(Xo0 HK);simp only[UJ,Array.toList_append,<-h1];simp
  ·have F0:¬((i:Int)<(n:Int)):=(by omega);have U5:i=F.length:=(by omega);have R0:(Q0n F).take i=Q0n F:=Uz (by unfold Q0n;rw[UF];omega);rw[R0] at Qw;have HS:=Xh2 Qw M0;clear Qw M0 R0 U5
   go_wp2_with fail
   go_ret;exact ⟨fun _=>by rw[(Xo0 HS)];rfl,fun h=>absurd (Xo1 H) h,Below.next0 H1.out (Xe1 HS)⟩
end Go.Proofs.YtidojbkhlenahaaGreatDoor
