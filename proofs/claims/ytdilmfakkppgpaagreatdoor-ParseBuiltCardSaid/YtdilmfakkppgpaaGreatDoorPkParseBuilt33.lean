/- Part 33 of the proof of LawParseBuilt: RefPR, RefDeg, RefTurn, FlatK. Condition: as each theorem says; none at the end. -/
import Derived.Test.YtdilmfakkppgpaaGreatDoorPkParseBuilt32
set_option maxRecDepth 100000
set_option maxHeartbeats 16000000
namespace Go.Proofs.YtdilmfakkppgpaaGreatDoor
open Go.RowKit WordsM
def Qix (k:Nat) (ms:List Q01) (w:World) (iv:Value) (wr:World):Prop:=∃i:Nat,iv=.int .i64 (i:Int)/\i<=ms.length/\(∀j m,j<i->ms[j]?=some m->OkM k m)/\(∀j p q,j+1<i->ms[j]?=some p->ms[j+1]?=some q->0<Q2u p.es q.es)/\Bw w wr
theorem Qix.next {k i:Nat} {ms:List Q01} {w wr:World} {x:Q01} (hx:ms[i]?=some x) (B0:i<ms.length) (D3:∀j m,j<i->ms[j]?=some m->OkM k m) (QY:∀j p q,j+1<i->ms[j]?=some p->ms[j+1]?=some q->0<Q2u p.es q.es) (h1:OkM k x) (h2:∀j p,i=j+1->ms[j]?=some p->0<Q2u p.es x.es) (hb:Bw w wr):
 Qix k ms w (.int .i64 ((i:Int)+1)) wr:=by
 refine ⟨i+1,congrArg (Value.int .i64) (by omega),B0,fun j m hj hm=>?_,fun j p q hj hp hq=>?_,hb⟩
 ·by_cases R6:j=i
  ·subst R6;rw[hx] at hm;injection hm with hm;subst hm;exact h1
  ·exact D3 j m (by omega) hm
 ·by_cases R6:j+1=i
  ·subst R6;rw[hx] at hq;injection hq with hq;subst hq;exact h2 j p rfl hp
  ·exact QY j p q (by omega) hp hq
structure Qsg (W:World) (k b0 o0 i:Nat) (x:Q01) (aw:OA) (lw cw:Nat) (ae:OA) (le ce:Nat):Prop where
 c0:W.cell? ⟨b0,o0+i*4,none⟩=some (.bool x.neg)
 c1:W.cell? ⟨b0,o0+i*4+1,none⟩=some (.int .i64 x.exp)
 c2:W.cell? ⟨b0,o0+i*4+2,none⟩=some (.slice aw lw cw)
 c3:W.cell? ⟨b0,o0+i*4+3,none⟩=some (.slice ae le ce)
 mono:Calls Tryz.prog 92 #[.agg #[.bool x.neg,.int .i64 x.exp,.slice aw lw cw,.slice ae le ce],.int .i64 (k:Int)] W fun r w'=>r=.returned (.bool (decide (Q14 k x.es/\Q0i x.neg x.exp x.ws)))/\Bw W w'
theorem Qx0 {w W:World} {k b0 o0 i:Nat} {x:Q01} {aw:OA} {lw cw:Nat} {ae:OA} {le ce:Nat} (hk:k<=4) (C4:b0<w.heap.size) (q0:w.cell? ⟨b0,o0+i*4,none⟩=some (.bool x.neg)) (q1:w.cell? ⟨b0,o0+i*4+1,none⟩=some (.int .i64 x.exp)) (q2:w.cell? ⟨b0,o0+i*4+2,none⟩=some (.slice aw lw cw)) (q3:w.cell? ⟨b0,o0+i*4+3,none⟩=some (.slice ae le ce)) (hw:WordsIn w aw lw cw x.ws) (he:Q0j w ae le ce x.es) (h1: -9223372036854775808<=x.exp) (h2:x.exp<=9223372036854775807) (hb:Bw w W):
 Qsg W k b0 o0 i x aw lw cw ae le ce:=
 ⟨(hb.cell (p:=⟨b0,o0+i*4,none⟩) C4).trans q0,(hb.cell (p:=⟨b0,o0+i*4+1,none⟩) C4).trans q1,(hb.cell (p:=⟨b0,o0+i*4+2,none⟩) C4).trans q2,(hb.cell (p:=⟨b0,o0+i*4+3,none⟩) C4).trans q3,Qd1 x.neg x.exp aw lw cw x.ws ae le ce x.es k W (hw.step hb) (he.step hb) hk h1 h2⟩
structure Quw (W:World) (k b0 o0 i j:Nat) (x:Q01) (aw:OA) (lw cw:Nat) (ae:OA) (le ce:Nat) (ae2:OA) (ce2:Nat) (cv:Int):Prop extends Qsg W k b0 o0 i x aw lw cw ae le ce where
 d3:W.cell? ⟨b0,o0+j*4+3,none⟩=some (.slice ae2 le ce2)
 ord:Calls Tryz.prog 117 #[.slice ae2 le ce2,.slice ae le ce] W fun r w'=>r=.returned (.int .i64 cv)/\Bw W w'
theorem Q3w (a:OA) (n c:Nat) (ms:List Q01) (k:Nat) (w:World) (h:Q08 w a n c ms) (hk:k<=9223372036854775807):
 Calls Tryz.prog 71 #[.slice a n c,.int .i64 (k:Int)] w fun r w'=>Q4p (Q0z k ms) r/\Bw w w':=by
 have Z2:=h.1;subst Z2;have E4:=Ur h.2.1 h.2.2.1;have HM:=Ua h;clear h
 go_enter Tryz.func71,Tryz.ntmps71
 by_cases h1:1<=k
 case neg=>
  have We:(k:Int)<1:=by omega
  go_wp2_with fail
  go_ret;exact ⟨Q4p.no (fun h=>h1 h.1) rfl,Uf _ _⟩
 by_cases h4:k<=4
 case neg=>
  have We:¬(k:Int)<1:=by omega
  have h4':4<(k:Int):=by omega
  go_wp2_with fail
  go_ret;exact ⟨Q4p.no (fun h=>h4 h.2.1) rfl,Uf _ _⟩
 have We:¬(k:Int)<1:=by omega
 have h4':¬4<(k:Int):=by omega
 by_cases WM:ms.length<=24
 case neg=>
  have VU:24<(ms.length:Int):=by omega
  go_wp2_with fail
  go_ret;exact ⟨Q4p.no (fun h=>WM h.2.2.1) rfl,Uf _ _⟩
 have VU:¬24<(ms.length:Int):=by omega
 go_wp2_with fail
 go_loopw [5] (fun iv wr=>Qix k ms w iv wr) (fun iv _=>ms.length-(intOf iv).toNat)
 case atStart=>exact ⟨0,rfl,Uu _,(fun j m h=>absurd h (Xaf _)),(fun j p q h=>absurd h (Xaf _)),Uf _ _⟩
 case round=>
  obtain ⟨i,rfl,hi,D3,QY,Q0⟩:=hrel
  by_cases B0:i<ms.length
  ·have E0:(i:Int)<(ms.length:Int):=(by omega);obtain ⟨x,hx⟩:∃x,ms[i]?=some x:=⟨_,Ub B0⟩;obtain ⟨b0,o0,rfl,C4,R1⟩:∃b o,a=some ⟨b,o,none⟩/\b<w.heap.size/\∀j m,ms[j]?=some m->Q31 w b (o+j*4) m:=by
    rcases (Xe3 HM) with h0|h0
    ·rw[h0] at B0;simp at B0
    ·exact h0
   have hb0r:b0<wr.heap.size:=Ue C4 Q0.size;obtain ⟨aw,lw,cw,ae,le,ce,q0,q1,q2,q3,hw,he,U4,J4⟩:=(R1 i x hx).step Q0 C4;have Ys:=fun W (hW:Bw wr W)=>Qx0 h4 hb0r q0 q1 q2 q3 hw he U4 J4 hW;have hwl:=hw.len;have hel:=he.len;have HA:=Xh6 D3 QY Q0 hx he hel;clear D3 QY Q0 hw U4 J4 hx he
   go_upto_region 6 with fail
   by_cases hr:Q14 k x.es/\Q0i x.neg x.exp x.ws
   case neg=>
    have HC:=Ua (fun W hW=>by have h:=Ys W hW;have hm:=h.mono;rw[UL hr] at hm;exact (And.intro h hm));have HR:=Ua hr;clear Ys hr R1 hwl hel;refine Q0c (E:=Qap) (fun _=>Uf _ _) (by kernel_rfl) (fun W=>Bw wr W) (fun _ _ h h'=>Below.next0 h h') (Q3x [.slice (some ⟨b0,o0,none⟩) ms.length c,.int .i64 (i:Int),.pointer (some ⟨b0,o0+i*4,none⟩),.agg #[.bool x.neg,.int .i64 x.exp,.slice aw lw cw,.slice ae le ce],.int .i64 (k:Int),.bool false,.bool true,.bool true,undef,undef,undef,undef,undef,undef,undef,undef,.bool true,.bool true,undef,undef,undef,undef,undef,undef,undef,undef,undef,undef,undef,undef,undef,undef,undef,undef,undef,.bool true] (Q1n [])) (Q0h (Q0m ((fun p hp=>by cases hp)))) (Q22 (by kernel_rfl)) (by kernel_rfl) (Q05 wr) ?_ ?_
    ·skip
     repeat' (first|exact Q98|refine Q97 ?_ ?_)
     all_goals first
      |exact Qna rfl rfl rfl
      |(refine Q29 rfl fun A W hW F0 hd hd=>?_
        simp[Q82,Region.binds,Q1n] at hd;have e0:=Q0d F0 0 (by kernel_rfl) rfl;have e5:=Q0d F0 5 (by kernel_rfl) rfl;have e1:=Q0d F0 1 (by kernel_rfl) rfl
        first
        |(refine Q3n rfl rfl ?_;simp[go_sem,hd,e0,e5,e1,E0,(HC.out W hW).1.c0,(HC.out W hW).1.c1,(HC.out W hW).1.c2,(HC.out W hW).1.c3];done)
        |(refine Q7a rfl rfl ?_ ((HC.out W hW).2);simp[go_sem,hd];done))
    intro vs W1 S1 C3;have HB:=Ua S1;have e35:vs 35=.bool true:=(Q09 rfl).1 (C3 35 (by decide));simp only[Q0s,Act.put,Uw,UK,UJ,e35];clear S1 C3 e35
    go_wp2_with fail
    go_ret;exact ⟨Q4p.no (fun h=>HR.out (h.2.2.2.1 x (Ud (Xo3 HA))).1) rfl,Below.next0 (Xo2 HA) HB.out⟩
   have Zx:∀W,Bw wr W->Calls Tryz.prog 92 #[.agg #[.bool x.neg,.int .i64 x.exp,.slice aw lw cw,.slice ae le ce],.int .i64 (k:Int)] W fun r w'=>r=.returned (.bool true)/\Bw W w':=fun W hW=>by have hm:=(Ys W hW).mono;rwa[UU hr] at hm
   by_cases hz:x.ws=[]
   ·have ZF:((lw:Int)==0)=true:=(by rw[beq_iff_eq,<-hwl,hz];rfl);have HC:=Ua (fun W hW=>And.intro (Ys W hW) (Zx W hW));have HR:=Ua hz;clear Ys Zx hr R1 hz hwl hel;refine Q0c (E:=Qap) (fun _=>Uf _ _) (by kernel_rfl) (fun W=>Bw wr W) (fun _ _ h h'=>Below.next0 h h') (Q3x [.slice (some ⟨b0,o0,none⟩) ms.length c,.int .i64 (i:Int),.pointer (some ⟨b0,o0+i*4,none⟩),.agg #[.bool x.neg,.int .i64 x.exp,.slice aw lw cw,.slice ae le ce],.int .i64 (k:Int),.bool true,.bool false,.bool false,.slice (some ⟨b0,o0,none⟩) ms.length c,.int .i64 (i:Int),.pointer (some ⟨b0,o0+i*4,none⟩),.pointer (some ⟨b0,o0+i*4,none⟩),.pointer (some ⟨b0,o0+i*4+2,none⟩),.slice aw lw cw,.int .i64 (lw:Int),.bool true,.bool true,.bool true,undef,undef,undef,undef,undef,undef,undef,undef,undef,undef,undef,undef,undef,undef,undef,undef,undef,.bool true] (Q1n [])) (Q0h (Q0m ((fun p hp=>by cases hp)))) (Q22 (by kernel_rfl)) (by kernel_rfl) (Q05 wr) ?_ ?_
    ·skip
     repeat' (first|exact Q98|refine Q97 ?_ ?_)
     all_goals first
      |exact Qna rfl rfl rfl
      |(refine Q29 rfl fun A W hW F0 hd hd=>?_
        simp[Q82,Region.binds,Q1n] at hd;have e0:=Q0d F0 0 (by kernel_rfl) rfl;have e5:=Q0d F0 5 (by kernel_rfl) rfl;have e1:=Q0d F0 1 (by kernel_rfl) rfl
        first
        |(refine Q3n rfl rfl ?_;simp[go_sem,hd,e0,e5,e1,E0,(HC.out W hW).1.c0,(HC.out W hW).1.c1,(HC.out W hW).1.c2,(HC.out W hW).1.c3,ZF];done)
        |(refine Q7a rfl rfl ?_ ((HC.out W hW).2);simp[go_sem,hd];done))
    intro vs W1 S1 C3;have HB:=Ua S1;have e35:vs 35=.bool true:=(Q09 rfl).1 (C3 35 (by decide));simp only[Q0s,Act.put,Uw,UK,UJ,e35];clear S1 C3 e35
    go_wp2_with fail
    go_ret;exact ⟨Q4p.no (fun h=>(h.2.2.2.1 x (Ud (Xo3 HA))).2 HR.out) rfl,Below.next0 (Xo2 HA) HB.out⟩
   have ZF:((lw:Int)==0)=false:=by
    rw[Ui];intro e;exact hz (Tg (by rw[hwl];omega))
   have HO:=Ua (show OkM k x from ⟨hr,hz⟩);clear hz hwl
   by_cases O1:0<i
   case neg=>
    have HZ:=Ua (show i=0 by omega);have HC:=Ua (fun W hW=>And.intro (Ys W hW) (Zx W hW));clear Ys Zx hr R1 hel;refine Q0c (E:=Qap) (fun _=>Uf _ _) (by kernel_rfl) (fun W=>Bw wr W) (fun _ _ h h'=>Below.next0 h h') (Q3x [.slice (some ⟨b0,o0,none⟩) ms.length c,.int .i64 (i:Int),.pointer (some ⟨b0,o0+i*4,none⟩),.agg #[.bool x.neg,.int .i64 x.exp,.slice aw lw cw,.slice ae le ce],.int .i64 (k:Int),.bool true,.bool false,.bool false,.slice (some ⟨b0,o0,none⟩) ms.length c,.int .i64 (i:Int),.pointer (some ⟨b0,o0+i*4,none⟩),.pointer (some ⟨b0,o0+i*4,none⟩),.pointer (some ⟨b0,o0+i*4+2,none⟩),.slice aw lw cw,.int .i64 (lw:Int),.bool false,.bool false,.bool false,.int .i64 (i:Int),.bool false,.bool false,undef,undef,undef,undef,undef,undef,undef,undef,undef,undef,undef,undef,undef,.bool false,.bool false] (Q1n [])) (Q0h (Q0m ((fun p hp=>by cases hp)))) (Q22 (by kernel_rfl)) (by kernel_rfl) (Q05 wr) ?_ ?_
    ·skip
     repeat' (first|exact Q98|refine Q97 ?_ ?_)
     all_goals first
      |exact Qna rfl rfl rfl
      |(refine Q29 rfl fun A W hW F0 hd hd=>?_
        simp[Q82,Region.binds,Q1n] at hd;have e0:=Q0d F0 0 (by kernel_rfl) rfl;have e5:=Q0d F0 5 (by kernel_rfl) rfl;have e1:=Q0d F0 1 (by kernel_rfl) rfl
        first
        |(refine Q3n rfl rfl ?_;simp[go_sem,hd,e0,e5,e1,E0,(HC.out W hW).1.c0,(HC.out W hW).1.c1,(HC.out W hW).1.c2,(HC.out W hW).1.c3,ZF,(show¬0<i by have:=HZ.out;omega)];done)
        |(refine Q7a rfl rfl ?_ ((HC.out W hW).2);simp[go_sem,hd];done))
    intro vs W1 S1 C3;have HB:=Ua S1;have e35:vs 35=.bool false:=(Q09 rfl).1 (C3 35 (by decide));simp only[Q0s,Act.put,Uw,UK,UJ,e35];clear S1 C3 e35
    go_wp2_with fail
    exact ⟨Qix.next (Xo3 HA) B0 (Xo0 HA) (Xo1 HA) HO.out (fun j p h _=>absurd h (by omega)) (Below.next0 (Xo2 HA) HB.out),by simp only[intOf];omega⟩
   obtain ⟨j,Wf⟩:∃j,i=j+1:=⟨i-1,by omega⟩;have hjl0:j<ms.length:=(by omega);have Kb:(j:Int)<(ms.length:Int):=(by omega);have hwj:IntKind.i64.wrap ((i:Int)-1)=(j:Int):=(by rw[Ut];omega);obtain ⟨y,hy⟩:∃y,ms[j]?=some y:=⟨_,Ub hjl0⟩;obtain ⟨aw2,lw2,cw2,ae2,le2,ce2,_,_,_,p3,_,V6,_,_⟩:=(R1 j y hy).step (Xo2 HA) C4;obtain rfl:le2=le:=by
    have h1:=((Xo0 HA) j y (by omega) hy).1.1.1;have h2:=hr.1.1;have h3:=V6.len;omega
   obtain ⟨cv,hcv0⟩:∃cv,Q2u y.es x.es=cv:=⟨_,rfl⟩;have Qg:∀W,Bw wr W->Quw W k b0 o0 i j x aw lw cw ae le2 ce ae2 ce2 cv:=fun W hW=>⟨Ys W hW,(hW.cell (p:=⟨b0,o0+j*4+3,none⟩) hb0r).trans p3,by
    have h:=Q64 ae2 le2 ce2 y.es ae ce x.es W (V6.step hW) ((Xo4 HA).step hW);rw[hcv0] at h;refine h.mono ?_;rintro r w' ⟨h1,nk,rfl⟩;exact ⟨h1,Q1w (Uf _ _) nk⟩⟩
   have HC:=Ua (fun W hW=>And.intro (Qg W hW) (Zx W hW));have HY:=Xh3 Wf hy hcv0;clear Ys Zx hr R1 hel Qg Wf hy hcv0 p3 V6
   by_cases hc:0<cv
   ·have HV1:=Ua (show cv=1 by have:=Qdx y.es x.es;rw[(Xe2 HY)] at this;omega);have HV:=Ua hc;clear hc;refine Q0c (E:=Qap) (fun _=>Uf _ _) (by kernel_rfl) (fun W=>Bw wr W) (fun _ _ h h'=>Below.next0 h h') (Q3x [.slice (some ⟨b0,o0,none⟩) ms.length c,.int .i64 (i:Int),.pointer (some ⟨b0,o0+i*4,none⟩),.agg #[.bool x.neg,.int .i64 x.exp,.slice aw lw cw,.slice ae le2 ce],.int .i64 (k:Int),.bool true,.bool false,.bool false,.slice (some ⟨b0,o0,none⟩) ms.length c,.int .i64 (i:Int),.pointer (some ⟨b0,o0+i*4,none⟩),.pointer (some ⟨b0,o0+i*4,none⟩),.pointer (some ⟨b0,o0+i*4+2,none⟩),.slice aw lw cw,.int .i64 (lw:Int),.bool false,.bool false,.bool false,.int .i64 (i:Int),.bool true,.bool true,.slice (some ⟨b0,o0,none⟩) ms.length c,.int .i64 (i:Int),.int .i64 (j:Int),.pointer (some ⟨b0,o0+j*4,none⟩),.pointer (some ⟨b0,o0+j*4+3,none⟩),.slice ae2 le2 ce2,.slice (some ⟨b0,o0,none⟩) ms.length c,.int .i64 (i:Int),.pointer (some ⟨b0,o0+i*4,none⟩),.pointer (some ⟨b0,o0+i*4+3,none⟩),.slice ae le2 ce,.int .i64 cv,.bool false,.bool false,.bool false] (Q1n [])) (Q0h (Q0m ((fun p hp=>by cases hp)))) (Q22 (by kernel_rfl)) (by kernel_rfl) (Q05 wr) ?_ ?_
    ·skip
     repeat' (first|exact Q98|refine Q97 ?_ ?_)
     all_goals
      refine Q29 rfl fun A W hW F0 hd hd=>?_;simp[Q82,Region.binds,Q1n] at hd;have e0:=Q0d F0 0 (by kernel_rfl) rfl;have e5:=Q0d F0 5 (by kernel_rfl) rfl;have e1:=Q0d F0 1 (by kernel_rfl) rfl
      first
      |(refine Q3n rfl rfl ?_;simp[go_sem,hd,e0,e5,e1,E0,(HC.out W hW).1.c0,(HC.out W hW).1.c1,(HC.out W hW).1.c2,(HC.out W hW).1.c3,ZF,O1,hwj,Kb,(HC.out W hW).1.d3,HV1.out];done)
      |(refine Q7a rfl rfl ?_ ((HC.out W hW).2);simp[go_sem,hd];done)
      |(refine Q7a rfl rfl ?_ (((HC.out W hW).1.ord));simp[go_sem,hd];done)
    intro vs W1 S1 C3;have HB:=Ua S1;have e35:vs 35=.bool false:=(Q09 rfl).1 (C3 35 (by decide));simp only[Q0s,Act.put,Uw,UK,UJ,e35];clear S1 C3 e35
    go_wp2_with fail
    refine ⟨Qix.next (Xo3 HA) B0 (Xo0 HA) (Xo1 HA) HO.out (fun j' p h hp=>?_) (Below.next0 (Xo2 HA) HB.out),by simp only[intOf];omega⟩;have h1:=(Xo0 HY);obtain rfl:j'=j:=(by omega);rw[(Xo1 HY)] at hp;injection hp with hp;rw[<-hp,(Xe2 HY)];exact HV.out
   ·have HV1:=Ua (show¬cv=1 by omega);have HV:=Ua hc;clear hc;refine Q0c (E:=Qap) (fun _=>Uf _ _) (by kernel_rfl) (fun W=>Bw wr W) (fun _ _ h h'=>Below.next0 h h') (Q3x [.slice (some ⟨b0,o0,none⟩) ms.length c,.int .i64 (i:Int),.pointer (some ⟨b0,o0+i*4,none⟩),.agg #[.bool x.neg,.int .i64 x.exp,.slice aw lw cw,.slice ae le2 ce],.int .i64 (k:Int),.bool true,.bool false,.bool false,.slice (some ⟨b0,o0,none⟩) ms.length c,.int .i64 (i:Int),.pointer (some ⟨b0,o0+i*4,none⟩),.pointer (some ⟨b0,o0+i*4,none⟩),.pointer (some ⟨b0,o0+i*4+2,none⟩),.slice aw lw cw,.int .i64 (lw:Int),.bool false,.bool false,.bool false,.int .i64 (i:Int),.bool true,.bool true,.slice (some ⟨b0,o0,none⟩) ms.length c,.int .i64 (i:Int),.int .i64 (j:Int),.pointer (some ⟨b0,o0+j*4,none⟩),.pointer (some ⟨b0,o0+j*4+3,none⟩),.slice ae2 le2 ce2,.slice (some ⟨b0,o0,none⟩) ms.length c,.int .i64 (i:Int),.pointer (some ⟨b0,o0+i*4,none⟩),.pointer (some ⟨b0,o0+i*4+3,none⟩),.slice ae le2 ce,.int .i64 cv,.bool true,.bool true,.bool true] (Q1n [])) (Q0h (Q0m ((fun p hp=>by cases hp)))) (Q22 (by kernel_rfl)) (by kernel_rfl) (Q05 wr) ?_ ?_
    ·skip
     repeat' (first|exact Q98|refine Q97 ?_ ?_)
     all_goals
      refine Q29 rfl fun A W hW F0 hd hd=>?_;simp[Q82,Region.binds,Q1n] at hd;have e0:=Q0d F0 0 (by kernel_rfl) rfl;have e5:=Q0d F0 5 (by kernel_rfl) rfl;have e1:=Q0d F0 1 (by kernel_rfl) rfl
      first
      |(refine Q3n rfl rfl ?_;simp[go_sem,hd,e0,e5,e1,E0,(HC.out W hW).1.c0,(HC.out W hW).1.c1,(HC.out W hW).1.c2,(HC.out W hW).1.c3,ZF,O1,hwj,Kb,(HC.out W hW).1.d3,HV1.out];done)
      |(refine Q7a rfl rfl ?_ ((HC.out W hW).2);simp[go_sem,hd];done)
      |(refine Q7a rfl rfl ?_ (((HC.out W hW).1.ord));simp[go_sem,hd];done)
    intro vs W1 S1 C3;have HB:=Ua S1;have e35:vs 35=.bool true:=(Q09 rfl).1 (C3 35 (by decide));simp only[Q0s,Act.put,Uw,UK,UJ,e35];clear S1 C3 e35
    go_wp2_with fail
    go_ret;refine ⟨Q4p.no (fun h=>?_) rfl,Below.next0 (Xo2 HA) HB.out⟩;have KS:=h.2.2.2.2;rw[List.pairwise_iff_getElem] at KS;have h1:=(Xo0 HY);have h1:=KS j i (by omega) B0 (by omega);have e1:=(Um.1 (Xo1 HY)).2;have e2:=(Um.1 (Xo3 HA)).2;rw[e1,e2,(Xe2 HY)] at h1;have h2:=HV.out;omega
  ·obtain rfl:i=ms.length:=(by omega);have E0:¬((ms.length:Int)<(ms.length:Int)):=(by omega);have P0:Q0z k ms:=⟨h1,h4,WM,fun m hm=>by
    obtain ⟨j,hj⟩:=Ts.1 hm;exact D3 j m (Um.1 hj).1 hj,Q7k ms fun j p q hp hq=>QY j p q (Um.1 hq).1 hp hq⟩
   have HF:=Xh2 P0 Q0;clear P0 Q0 D3 QY
   go_wp2_with fail
   go_ret;exact ⟨Q4p.yes (Xo0 HF) rfl,(Xe1 HF)⟩
theorem Q9q (a:OA) (n c:Nat) (ms:List Q01) (k:Nat) (w:World) (h:Q08 w a n c ms) (hr:Q0z k ms):
 Calls Tryz.prog 162 #[.slice a n c] w fun r w'=>r=.returned (.int .i64 (Qdd ms))/\Bw w w':=by
 have Z2:=h.1;subst Z2;have E4:=Ur h.2.1 h.2.2.1
 by_cases h0:ms=[]
 ·subst h0
  go_enter Tryz.func162,Tryz.ntmps162
  go_wp2_with fail
  go_ret;exact ⟨rfl,Uf _ _⟩
 have N5:0<ms.length:=by
  cases ms with
  |nil=>exact absurd rfl h0
  |cons x r=>simp
 have hposb:((ms.length:Int)==0)=false:=by rw[Ui];omega
 have hposI:(0:Int)<(ms.length:Int):=by omega
 obtain ⟨m0,O7⟩:∃m,ms[0]?=some m:=⟨_,Ub N5⟩;obtain ⟨b0,o0,rfl,C4,R1⟩:∃b o,a=some ⟨b,o,none⟩/\b<w.heap.size/\∀j m,ms[j]?=some m->Q31 w b (o+j*4) m:=by
  rcases h.2.2.2 with h1|h1
  ·exact absurd h1 h0
  ·exact h1
 obtain ⟨aw,lw,cw,ae,le,ce,z0,z1,z2,z3,Ku,he0,_,_⟩:=R1 0 m0 O7;have hk:le=k:=by rw[<-he0.len];exact (hr.2.2.2.1 m0 (Ud O7)).1.1.1
 subst hk;have Xy:Calls Tryz.prog 71 #[.slice (some ⟨b0,o0,none⟩) ms.length c,.int .i64 (le:Int)] w fun r w'=>r=.returned (.bool true)/\Bw w w':=(Q3w (some ⟨b0,o0,none⟩) ms.length c ms le w h (by have:=hr.2.1;omega)).mono (by
  rintro r w' ⟨⟨b,rfl,E3⟩,J5⟩;rw[E3.2 hr];exact ⟨rfl,J5⟩)
 rw[TU,Tu] at z3;have HM:=Xh3 h hr Xy;clear h hr Xy R1 Ku he0 z0 z1 z2 h0 O7
 go_enter Tryz.func162,Tryz.ntmps162
 go_wp2_with (refine (Xe2 HM).mono ?_;rintro r w1 ⟨rfl,C0⟩;have K0:=Ua C0;clear C0)
 go_loopw [3,4] (fun sv iv wr=>∃i:Nat,sv=.int .i64 (Qdd (ms.take i))/\iv=.int .i64 (i:Int)/\i<=ms.length/\Bw w wr) (fun _ iv _=>ms.length-(intOf iv).toNat)
 case atStart=>exact ⟨0,rfl,rfl,Uu _,K0.out⟩
 case round=>
  obtain ⟨i,rfl,rfl,hi,hb⟩:=hrel
  by_cases B0:i<ms.length
  ·have E0:(i:Int)<(ms.length:Int):=(by omega);obtain ⟨m,hm⟩:∃m,ms[i]?=some m:=⟨_,Ub B0⟩;have R1:∀j m,ms[j]?=some m->Q31 wr b0 (o0+j*4) m:=by
    rcases ((Xo0 HM).step hb).2.2.2 with h1|⟨b,o,h2,h3,h4⟩
    ·rw[h1] at B0;simp at B0
    ·injection h2 with h2;injection h2 with h5 h6;subst h5;subst h6;exact h4
   obtain ⟨bw,lw2,cw2,be,le2,ce2,k0,k1,k2,k3,hw,he,_,_⟩:=R1 i m hm;have Xf:=((Xo1 HM).2.2.2.1 m (Ud hm)).1.1;have hln2:=he.len;have hcm2:=Ur he.cap he.most;have hdt:=Qhh hm;obtain ⟨D,hD⟩:∃D,Qdd (ms.take i)=D:=⟨_,rfl⟩;obtain ⟨S,hS⟩:∃S,m.es.sum=S:=⟨_,rfl⟩;rw[hD,hS] at hdt;rw[hD];have HA:=Xh5 he hdt hb Xf hS;clear hdt hb R1 hw he Xf hm hD hS
   go_wp2_with fail
   rename World=>wl
   go_loopw [5,6] (fun sv iv wx=>∃(j:Nat) (s:Int),sv=.int .i64 s/\iv=.int .i64 (j:Int)/\j<=m.es.length/\(m.es.take j).sum=s/\0<=s/\s<=8/\wl=wx) (fun _ iv _=>m.es.length-(intOf iv).toNat)
   case atStart=>exact ⟨0,0,rfl,rfl,Uu _,rfl,by decide,by decide,rfl⟩
   case round=>
    obtain ⟨j,s,rfl,rfl,hj,hs,Zs,Ve,rfl⟩:=hrel
    by_cases Kb:j<m.es.length
    ·have hjl':(j:Int)<(le2:Int):=(by omega);obtain ⟨x,hx⟩:∃x,m.es[j]?=some x:=⟨_,Ub Kb⟩;obtain ⟨ba,oa,rfl,V5,E6⟩:=(Xo0 HA).rd.at_ hx;have S9:=Qbi hx;have N5:=Qfc (Xo3 HA).2.1 (j+1);have h8:=(Xo3 HA).2.2;obtain ⟨s',hs'⟩:∃s',s+x=s':=⟨_,rfl⟩;rw[S9,hs,hs'] at N5;have Q2:IntKind.i64.wrap (s+x)=s':=(by rw[Ut];omega);have Q8:wrap64 (s+x)=s':=(by unfold wrap64;omega);have HS:=Xh5 hs S9 N5 h8 hs';clear hs S9 N5 h8 hx hs'
     go_wp2_with fail
     have h1:=(Xo0 HS);have h2:=(Xo1 HS);have h3:=(Xo2 HS);have h4:=(Xo3 HS);have h5:=(Xe4 HS);refine ⟨⟨j+1,s',?_,congrArg (Value.int .i64) (by omega),Kb,by omega,by omega,by omega,trivial⟩,by simp only[intOf];omega⟩
     first
      |rfl
      |exact congrArg (Value.int .i64) (by omega)
    ·have hjl':¬(j:Int)<(le2:Int):=(by omega);have hje:j=m.es.length:=(by omega);rw[hje,Ta,(Xe4 HA)] at hs;subst hs;clear hje
     go_wp2_with fail
     refine ⟨⟨i+1,?_,by simp,by omega,(Xo2 HA)⟩,by simp only[intOf];omega⟩;rw[(Xo1 HA)]
  ·obtain rfl:i=ms.length:=(by omega);have E0:¬((ms.length:Int)<(ms.length:Int)):=(by omega);rw[Ta];have HB:=Ua hb;clear hb
   go_wp2_with fail
   go_ret;exact ⟨rfl,HB.out⟩
def LitE (v0 v1 v2 v3:Value) (v:Value) (W:World):Prop:=∃bl,v=.slice (some ⟨bl,0,none⟩) 1 1/\bl<W.heap.size/\W.heap[bl]?=some (.cells #[v0,v1,v2,v3] 44 (0,0))
theorem Ql3 (v0 v1 v2 v3:Value):Q0t (LitE v0 v1 v2 v3):=fun _ _ _ ⟨bl,h1,h2,h3⟩ hb=>⟨bl,h1,Ue h2 hb.size,(hb.block bl h2).trans h3⟩
theorem Qux (ty:TypeId) (w0 w:World) (hb:Bw w0 w) (a:OA) (n c:Nat) (xs:LV) (hr:Row w w0.heap.size 44 4 a n c xs) (bl:Nat) {x:Q01} {v2 v3:Value} (F3:w.heap[bl]?=some (.cells #[.bool x.neg,.int .i64 x.exp,v2,v3] 44 (0,0))) (hn:n<=1000) (h2:v2.oneCell'=true:=by rfl) (h3:v3.oneCell'=true:=by rfl):
 ∃a' c' w',(Builtin.append_ #[25,25] ty #[.slice a n c,.slice (some ⟨bl,0,none⟩) 1 1]).run Tryz.prog w=.ok (.slice a' (n+1) c') w'/\Row w' w0.heap.size 44 4 a' (n+1) c' (xs++[.bool x.neg,.int .i64 x.exp,v2,v3])/\Bw w0 w':=by
 obtain ⟨i0,O1,P1,K1,J1⟩:=Q0l Q4g;obtain ⟨a',c',w',I1,I0,m7,N0,_⟩:=Q1u w0 w ty 25 44 i0 _ 4 64 Tryz.underlying25 O1 P1 K1 J1 rfl (by decide) w0.heap.size hb hb.size a n c xs hr ⟨bl,0,none⟩ 1 1 [.bool x.neg,.int .i64 x.exp,v2,v3] rfl (fun j u hj=>by
  rw[Xao,UB,Ux _ _ _ _ _ _ F3];simpa using hj) (fun u hu=>by
  simp only[UF,List.not_mem_nil,or_false] at hu;rcases hu with rfl|rfl|rfl|rfl
  ·rfl
  ·rfl
  ·exact h2
  ·exact h3) (n+1) rfl (by omega) (by omega)
 exact ⟨a',c',w',I1,I0,N0⟩
def Qx1 (w:World) (ms:List Q01) (s3 s4:Value) (wr:World):Prop:=∃(i:Nat) (a:OA) (c:Nat) (xs:LV),s3=.slice a i c/\s4=.int .i64 (i:Int)/\i<=ms.length/\Row wr w.heap.size 44 4 a i c xs/\Q9h w ((ms.take i).map Qcl) xs/\Bw w wr
theorem Qb0 (a:OA) (n c:Nat) (ms:List Q01) (k:Nat) (w:World) (h:Q08 w a n c ms) (hr:Q0z k ms):
 Calls Tryz.prog 125 #[.slice a n c] w fun r w'=>∃a' c',r=.returned (.slice a' n c')/\Q08 w' a' n c' (ms.map Qcl)/\Bw w w':=by
 have Z2:=h.1;have hn:n<=24:=by have:=hr.2.2.1;omega
 have E4:=Ur h.2.1 h.2.2.1;have H:=Xh2 h hr;clear h hr
 go_enter Tryz.func125,Tryz.ntmps125
 go_wp2_with fail
 go_loopw [3,4] (fun s3 s4 wr=>Qx1 w ms s3 s4 wr) (fun _ iv _=>n-(intOf iv).toNat)
 case atStart=>exact ⟨0,none,0,[],rfl,rfl,Uu _,Row.nil_ _ _ _ _,rfl,Uf _ _⟩
 case round=>
  obtain ⟨i,a1,c1,xs,rfl,rfl,hi,I0,P7,Q0⟩:=hrel;rw[Z2] at hi
  by_cases B0:i<n
  ·have E0:(i:Int)<(n:Int):=(by omega);obtain ⟨x,hx⟩:∃x,ms[i]?=some x:=⟨_,Ub (by omega)⟩;obtain ⟨b,o,rfl,C4,R1⟩:∃b o,a=some ⟨b,o,none⟩/\b<w.heap.size/\∀j m,ms[j]?=some m->Q31 w b (o+j*4) m:=by
    rcases (Xo0 H).2.2.2 with h0|h0
    ·rw[h0] at hx;simp at hx
    ·exact h0
   obtain ⟨aw,lw,cw,ae,le,ce,k0,k1,k2,k3,hw,he,U4,J4⟩:=R1 i x hx;have k9:OkM k x:=(Xo4 H) x (Ud hx);have M7:Q77 wr b (o+i*4) x aw lw cw ae le ce:=(⟨k0,k1,k2,k3,hw⟩:Q77 w b (o+i*4) x aw lw cw ae le ce).step Q0;have B6:(ms.take (i+1)).map Qcl=(ms.take i).map Qcl++[Qcl x]:=(by rw[Q5k hx,UP];rfl);have k0:=M7.c0;have k1:=M7.c1;have k2:=M7.c2;have k3:=M7.c3;have Yt:=Ua M7;have HT:=Xh7 (⟨hw,he,U4,J4⟩:WordsIn w aw lw cw x.ws/\Q0j w ae le ce x.es/\-9223372036854775808<=x.exp/\x.exp<=9223372036854775807) k9.1.2 k9.2 B6 I0 P7 Q0;clear M7 hw he U4 J4 k9 B6 I0 P7 Q0 R1 hx
   go_upto_region 5 with fail
   refine Q1p (Φ:=fun U=>Bw wr U) (P:=fun U=>Code.wp _ _ _ _ U) _ (Uf _ _) ?_;intro U hU;have HC:=Ua (fun W (h:Bw U W)=>(Yt.out.step hU).step h);have HT:=Xh7 (Xo0 HT) (Xo1 HT) (Xo2 HT) (Xo3 HT) ((Xo4 HT).call hU) (Xo5 HT) (Below.next0 (Xe6 HT) hU);clear hU;refine Q48 (by kernel_rfl) 14 rfl (fun W=>Bw U W) (fun _ _ h h'=>Below.next0 h h') (Q3x [.slice a1 i c1,.slice (some ⟨b,o,none⟩) n c,.int .i64 (i:Int),.pointer (some ⟨b,o+i*4,none⟩),.pointer (some ⟨b,o+i*4,none⟩),.agg #[.bool x.neg,.int .i64 x.exp,.slice aw lw cw],.agg #[.bool (!x.neg),.int .i64 x.exp,.slice aw lw cw],.slice (some ⟨b,o,none⟩) n c,.int .i64 (i:Int),.pointer (some ⟨b,o+i*4,none⟩),.pointer (some ⟨b,o+i*4+3,none⟩),.slice ae le ce,.agg #[.bool (!x.neg),.int .i64 x.exp,.slice aw lw cw,.slice ae le ce],undef] (Q1n [(13,LitE (.bool (!x.neg)) (.int .i64 x.exp) (.slice aw lw cw) (.slice ae le ce))])) (Q0h (Q0m (Qum (Ql3 _ _ _ _)))) (fun v W'=>∃a8 c8 xs8,v=.slice a8 (i+1) c8/\Row W' w.heap.size 44 4 a8 (i+1) c8 xs8/\Q9h w (((ms.take i).map Qcl)++[Qcl x]) xs8/\Bw w W') (by kernel_rfl) (by kernel_rfl) (by kernel_rfl) (by kernel_rfl) (Q05 U) ?_ ?_ ?_
   ·skip
    repeat' (first|exact Q98|refine Q97 ?_ ?_)
    all_goals first
     |(refine Q29 rfl fun A W hW F0 hd hd=>?_
       simp[Q82,Region.binds,Q1n] at hd;have e3:=Q0d F0 3 (by kernel_rfl) rfl;have e0:=Q0d F0 0 (by kernel_rfl) rfl;have e4:=Q0d F0 4 (by kernel_rfl) rfl
       first
       |(refine Q3n rfl rfl ?_;simp[go_sem,hd,e3,e0,e4,E0,(HC.out W hW).c0,(HC.out W hW).c1,(HC.out W hW).c2,(HC.out W hW).c3];done)
       |(refine Q7a rfl rfl ?_ ((Qit x.neg x.exp aw lw cw x.ws W (HC.out W hW).wi (Xo1 HT) (Xo2 HT)));simp[go_sem,hd];done))
     |skip
    ·intro A W hW F0 A0;have e23:=Q0o A0 12 (by decide) rfl rfl rfl;refine Q04 rfl ?_;have em:A.eval (.tmp 23)=.agg #[.bool (!x.neg),.int .i64 x.exp,.slice aw lw cw,.slice ae le ce]:=(Q09 rfl).1 (A0 12 (by decide));refine Q10 (Q55 25 1 #[(0,.tmp 23)] (by rfl) (parts':= #[(0,.agg #[.bool (!x.neg),.int .i64 x.exp,.slice aw lw cw,.slice ae le ce])]) (by simp[em]) (Q8t W _ _ _ _)) (Ba) ((Q00 rfl).2 ⟨W.heap.size,rfl,Q0r _ _,Ul _ _⟩)
   ·refine And.intro ?_ (And.intro (by decide) ?_)
    ·intro A W hW F0 A0;have h11:A.eval (.tmp 11)=.slice a1 i c1:=(Q09 rfl).1 (A0 0 (by decide));have hv:=(Q00 rfl).1 (A0 13 (by decide));obtain ⟨bl,C7,QW,hv3⟩:=hv;obtain ⟨a8,c8,W8,I2,D5,B4⟩:=Qux (x:=Qcl x) (v2:=.slice aw lw cw) (v3:=.slice ae le ce) 25 w W (Below.next0 (Xe6 HT) hW) a1 i c1 _ ((Xo4 HT).call hW) bl hv3 (by omega);rw[Q5j (.tmp 11) (.tmp 24) 25 25 (by rfl) h11 C7 I2];have JF:Q9h w [Qcl x] [.bool (Qcl x).neg,.int .i64 (Qcl x).exp,.slice aw lw cw,.slice ae le ce]:=⟨aw,lw,cw,ae,le,ce,[],rfl,(Xo0 HT),rfl⟩;exact ⟨a8,c8,_,rfl,D5,Q9h.append JF (Xo5 HT),B4⟩
    ·intro a w F0;rfl
   intro vs W1 G3 WZ;obtain ⟨a8,c8,xs8,k7,D5,Ko,B4⟩:=G3;have h15:=WZ.trans k7;rw[<-(Xo3 HT)] at Ko;have HF:=Xh3 D5 Ko B4;clear D5 Ko B4 k7;simp only[Q0s,Act.put,Uw,UK,UJ,h15];clear h15 WZ
   go_wp2_with fail
   exact ⟨⟨i+1,a8,c8,xs8,rfl,congrArg (Value.int .i64) (by omega),by omega,HF.out⟩,by simp only[intOf];omega⟩
  ·have E0:¬(i:Int)<(n:Int):=(by omega);have A6:i=n:=(by omega);rw[show i=ms.length by omega,Ta] at P7;have V2:=Qhx.done Q0 I0 P7 (by rw[UQ];omega);have HF:=Xh2 V2 Q0;clear V2 I0 P7 Q0;subst A6
   go_wp2_with fail
   go_ret;exact ⟨a1,c1,rfl,HF.out⟩
theorem Qiy (W:World):(Instr.buildSlice 25 0 #[]).run Tryz.prog W=.ok (.slice (some ⟨W.heap.size,0,none⟩) 0 0) (W.alloc (.cells #[] 44)):=by
 simp[Instr.buildSlice,run_underlying Q8s,Instr.fill,newRow];exact congrArg (fun c=>W.alloc (Obj.cells c 44)) (by simp)
theorem Qiz (W:World) (B:Nat) (hB:B<=W.heap.size) (T:TypeId) (k:Nat):Row (W.alloc (.cells #[] T)) B T k (some ⟨W.heap.size,0,none⟩) 0 0 []:=Row.lit W hB T k #[] 0 (Uu _) (by simp)
theorem Qd4 (a:OA) (n c:Nat) (ms:List Q01) (b:OA) (m d:Nat) (ms2:List Q01) (k:Nat) (w:World) (h1:Q08 w a n c ms) (h2:Q08 w b m d ms2) (r1:Q0z k ms) (r2:Q0z k ms2):
 Calls Tryz.prog 124 #[.slice a n c,.slice b m d,.int .i64 (k:Int)] w (Q2j w (Qfz (ms.map Q01.term) (ms2.map Q01.term))):=by
 have Z3:=r1.1;have Y4:=r1.2.1;have hn:n<=24:=by have:=r1.2.2.1;rw[h1.1] at this;exact this
 have hm:m<=24:=by have:=r2.2.2.1;rw[h2.1] at this;exact this
 have p1:=fun W (hb:Bw w W)=>Q3w a n c ms k W (h1.step hb) (by omega);have p2:=fun W (hb:Bw w W)=>Q3w b m d ms2 k W (h2.step hb) (by omega);have hX:Qfz (ms.map Q01.term) (ms2.map Q01.term)=Q24 ((ms++ms2).map Q01.term):=by rw[UP];rfl
 rw[hX];clear hX;have j9:∀m∈ms++ms2,Q14 k m.es/\Q0i m.neg m.exp m.ws:=fun m hm=>by
  rcases UY.1 hm with h|h
  ·exact (r1.2.2.2.1 m h).1
  ·exact (r2.2.2.2.1 m h).1
 have U3:=fun (a':OA) (c':Nat) (W:World) (h:Q08 W a' (n+m) c' (ms++ms2))=>Qay a' (n+m) c' (ms++ms2) k W h j9 Z3 Y4 (by omega);have H:=Xh7 h1 h2 r1 r2 p1 p2 U3;clear h1 h2 r1 r2 p1 p2 U3 j9
 go_enter Tryz.func124,Tryz.ntmps124
 go_upto_region 3 with (first|(go_at_call_of 71 (Value.slice a n c);refine ((Xo4 H) _ (Uf _ _)).mono ?_;rintro r w1 ⟨⟨x,rfl,hx⟩,C0⟩;(have ZC:x=true:=hx.2 (Xo2 H));clear hx;subst ZC;have H1:=Ua C0;clear C0)|(go_at_call_of 71 (Value.slice b m d);refine ((Xo5 H) _ H1.out).mono ?_;rintro r w2 ⟨⟨x,rfl,hx⟩,D0⟩;(have ZC:x=true:=hx.2 (Xo3 H));clear hx;subst ZC;have H2:=Ua D0;clear D0))
 have D0:=Below.next0 H1.out H2.out;have G0:=D0.alloc D0.size (.cells #[] 44);have Ql:=Qiy w2;obtain ⟨a8,c8,w8,ys8,I2,D5,Ko,B4⟩:=Q5v 25 w _ G0 _ 0 0 [] (Qiz w2 w.heap.size D0.size _ _) a n c ms (Xo0 H) (by omega);rw[UB] at I2 D5;obtain ⟨a9,c9,w9,ys9,M6,b8,he9,Z4⟩:=Q5v 25 w _ B4 a8 n c8 _ D5 b m d ms2 (Xo1 H) (by omega);have ZD:=Qhx.done Z4 b8 (Q9h.append he9 Ko) (by rw[Uj,(Xo0 H).1,(Xo1 H).1]);have H9:=Xh2 ZD Z4;clear ZD Z4 b8 he9 D5 Ko B4 G0 D0
 go_wp2_with (first
  |(at_builtin;refine Q07 rfl (.tmp 18) (.tmp 19) 25 25 rfl _ _ rfl rfl _ _ I2 ?_)
  |(at_builtin;refine Q07 rfl (.tmp 20) (.tmp 21) 25 25 rfl _ _ rfl rfl _ _ M6 ?_)
  |(go_at_call 48;refine ((Xe6 H) a9 c9 _ (Xo0 H9)).mono ?_;rintro r w5 VB;obtain ⟨x9,er9,rfl⟩:=VB.pair;have H5:=Ua (VB.from_ (Xe1 H9));clear VB))
 exact ⟨rfl,.tuple #[x9,.int .i64 er9],by simp[results,go_sem],H5.out⟩
end Go.Proofs.YtdilmfakkppgpaaGreatDoor
namespace Go.Proofs.YtdilmfakkppgpaaGreatDoor
open Go Go.RowKit
section
variable {P:Program}
def Qsh (P:Program) (ops:Array Oper) (C:World->Prop) (V:Nat->Value->World->Prop) (a0:Act) (k0:Nat) (Fin:Value->World->Prop):List Oper->Prop
 |[o]=>∀a w,C w->Q79 ops a0 a->(∀i∈Q27 o,V i (Q0b ops a i) w)->Q2o P (fun _ w'=>Fin (Q0b ops a k0) w') ((execOp a.eval o).run P w)
 |_=>False
theorem Qd5 {Q:Exit->Act->World->Prop} {id:Nat} {l:List Oper} {a0:Act} {w:World} (hm:P.follows .mixedOrders=true) (n:Nat) (hn:l.length=n+1) (C:World->Prop) (hC:∀w w',C w->Bw w w'->C w') (V:Nat->Value->World->Prop) (hV:∀i v w w',V i v w->Bw w w'->V i v w') (k0:Nat) (ZZ:k0<n) (Fin:Value->World->Prop)
 (hB:Q4b l a0.tmps.size=true) (hA:Qmm l n=true) (hG:(l.all fun o=>o.guard.isNone)=true) (hD:(l.zipIdx.all fun p=>p.1.dst.isSome || decide (p.2=n))=true) (h0:C w.drew)
 (step:Q1r P Qap l.toArray C V a0 (l.take n) 0) (last:Qsh P l.toArray C V a0 k0 Fin (l.drop n)) (fin:∀vs w,Fin (vs k0) w->Q .normal (Q0s vs l 0 a0) w):(Code.region id l.toArray true).wp P Q a0 w:=by
 have Z7:∀(k:Nat) (o:Oper),l[k]?=some o->∀y,Region.wanted o y=true:=fun k o ho y=>by
  have h1:=Tb.1 hG o (Ud ho);unfold Region.wanted;cases hg:o.guard with
  |none=>rfl
  |some g=>rw[hg] at h1;cases h1
 have D7:∀(D:Nat->Bool) (vs:Nat->Value) (i:Nat) (o:Oper) (v:Value) (w:World),l[i]?=some o->o.dst=none->(if D n=true then Fin (Q3b vs i v k0) w else (C w/\∀j,D j=true->V j (Q3b vs i v j) w))->(if D n=true then Fin (vs k0) w else (C w/\∀j,D j=true->V j (vs j) w)):=by
  intro D vs i o v w hi hd h;have JR:i=n:=by
   have hm:(o,i)∈l.zipIdx:=(by rw[Tw];exact hi);have h1:=Tb.1 hD _ hm;simpa[hd] using h1
  subst JR
  split at h
  ·rename_i S8;rw[Us S8];unfold Q3b at h;rwa[Uq (by omega)] at h
  ·rename_i S8;rw[Uq S8];refine ⟨h.1,fun j hj=>?_⟩;have:=h.2 j hj;unfold Q3b at this;rwa[Uq (fun e=>by subst e;exact S8 hj)] at this
 have P0:∀(k:Nat) (o:Oper),l[k]?=some o->Q7m P l.toArray (fun D vs w=>if D n=true then Fin (vs k0) w else (C w/\∀j,D j=true->V j (vs j) w)) a0 k o:=by
  intro k o ho a w D hI F0 hk A8 O3;have Wg:k<=n:=by have:=(Um.1 ho).1;omega
  have S8:D n=false:=Qcy hA (D:=D) (fun j oj hj=>O3 j oj (by simpa using hj)) _ k rfl Wg hk;have hDn':¬D n=true:=by rw[S8];decide
  simp only[S8] at hI;obtain ⟨VH,hVw⟩:=hI;have XT:∀i∈Q27 o,V i (Q0b l.toArray a i) w:=fun i hi=>hVw i (A8 i hi);refine ⟨Z7 k o ho _,?_⟩
  by_cases QT:k=n
  ·subst QT;have U7:l.drop k=[o]:=by
    rw[UC (by omega),UZ (by omega)];rw[(Um.1 ho).2]
   rw[U7] at last;have h1:=last a w VH F0 XT;have hK:∀u w',Fin (Q0b l.toArray a k0) w'->(if Q3q D k k=true then Fin (Q3b (Q0b l.toArray a) k u k0) w' else (C w'/\∀j,Q3q D k j=true->V j (Q3b (Q0b l.toArray a) k u j) w')):=fun u w' h=>by
    rw[Q93,Us rfl];unfold Q3b;rwa[Uq (by omega)]
   revert h1
   generalize (execOp a.eval o).run P w=res;intro h1;cases res with
   |ok x w'=>
    cases x with
    |value u=>exact hK u w' h1
    |enter f args=>
     refine Xba h1 ?_;rintro e w'' ⟨v,rfl,hf⟩;exact ⟨v,rfl,hK v w'' hf⟩
    |skip=>exact hK undef w' h1
    |_=>exact h1.elim
   |halt x w'=>exact h1.elim
  ·have Y9:(l.take n)[k]?=some o:=(by rw[To,Us (by omega)];exact ho);have h1:=Q1r.at_ _ _ _ _ step Y9;rw[UB] at h1;have h1:=h1 a w VH F0 XT;rw[Us (Z7 k o ho _)] at h1;have hK:∀u w',Bw w w'->V k u w'->(if Q3q D k n=true then Fin (Q3b (Q0b l.toArray a) k u k0) w' else (C w'/\∀j,Q3q D k j=true->V j (Q3b (Q0b l.toArray a) k u j) w')):=fun u w' hb hu=>by
    have e:Q3q D k n=false:=(by unfold Q3q;rw[Uq (fun e=>QT e.symm)];exact S8);rw[e,Uq (by decide)];refine ⟨hC _ _ VH hb,fun j hj=>?_⟩;unfold Q3b;unfold Q3q at hj
    by_cases JI:j=k
    ·subst JI;rw[Us rfl];exact hu
    ·rw[Uq JI];rw[Uq JI] at hj;exact hV _ _ _ _ (hVw j hj) hb
   revert h1
   generalize (execOp a.eval o).run P w=res;intro h1;cases res with
   |ok x w'=>
    cases x with
    |value u=>exact hK u w' h1.1 h1.2
    |enter f args=>
     refine Xba h1 ?_;rintro e w'' ⟨v,rfl,hb,hv⟩;exact ⟨v,rfl,hK v w'' hb hv⟩
    |skip=>exact hK undef w' h1.1 h1.2
    |_=>exact h1.elim
   |halt x w'=>exact h1.elim
 have ZU:∀(r:List Oper) (k:Nat),(∀(i:Nat) o,r[i]?=some o->l[k+i]?=some o)->Q9e P l.toArray (fun D vs w=>if D n=true then Fin (vs k0) w else (C w/\∀j,D j=true->V j (vs j) w)) a0 r k:=by
  intro r
  induction r with
  |nil=>intro k _;trivial
  |cons o r ih=>
   intro k h;refine ⟨P0 k o (by simpa using h 0 o rfl),ih (k+1) fun i o' G9=>?_⟩;have:=h (i+1) o' (by simpa using G9);rwa[show k+(i+1)=k+1+i by omega] at this
 refine Q5f hm (fun D vs w=>if D n=true then Fin (vs k0) w else (C w/\∀j,D j=true->V j (vs j) w)) (fun i o hi hd D vs v w h=>D7 D vs i o v w hi hd h) hB (fun vs=>?_) (ZU l 0 fun i o h=>by rw[UB];exact h) (fun D vs w P0 h=>?_)
 ·exact ⟨h0,fun j hj=>by cases hj⟩
 ·have S8:=P0 n (by omega);simp only[S8,Xa5] at h;exact fin vs w h
end
end Go.Proofs.YtdilmfakkppgpaaGreatDoor
