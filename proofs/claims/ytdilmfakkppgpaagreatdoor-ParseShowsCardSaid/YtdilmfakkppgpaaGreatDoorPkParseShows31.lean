/- Part 31 of the proof of LawParseShows: RefPR. Condition: as each theorem says; none at the end. -/
import Derived.Test.YtdilmfakkppgpaaGreatDoorPkParseShows30
set_option maxRecDepth 100000
set_option maxHeartbeats 16000000
namespace Go.Proofs.YtdilmfakkppgpaaGreatDoor
open Go.RowKit WordsM
def Qey (k:Nat) (ms:List Q04) (w:World) (iv:Value) (wr:World):Prop:=∃i:Nat,iv=.int .i64 (i:Int)/\i<=ms.length/\(∀j m,j<i->ms[j]?=some m->OkM k m)/\(∀j p q,j+1<i->ms[j]?=some p->ms[j+1]?=some q->0<Q25 p.es q.es)/\Below w.heap.size w wr
theorem Qey.next {k i:Nat} {ms:List Q04} {w wr:World} {x:Q04} (hx:ms[i]?=some x) (hlt:i<ms.length) (hok:∀j m,j<i->ms[j]?=some m->OkM k m) (hadj:∀j p q,j+1<i->ms[j]?=some p->ms[j+1]?=some q->0<Q25 p.es q.es) (h1:OkM k x) (h2:∀j p,i=j+1->ms[j]?=some p->0<Q25 p.es x.es) (hb:Below w.heap.size w wr):
 Qey k ms w (.int .i64 ((i:Int)+1)) wr:=by
 refine ⟨i+1,congrArg (Value.int .i64) (by omega),hlt,fun j m hj hm=>?_,fun j p q hj hp hq=>?_,hb⟩
 ·by_cases hji:j=i
  ·subst hji
   rw[hx] at hm
   injection hm with hm
   subst hm
   exact h1
  ·exact hok j m (by omega) hm
 ·by_cases hji:j+1=i
  ·subst hji
   rw[hx] at hq
   injection hq with hq
   subst hq
   exact h2 j p rfl hp
  ·exact hadj j p q (by omega) hp hq
structure Qnz (W:World) (k b0 o0 i:Nat) (x:Q04) (aw:Option Addr) (lw cw:Nat) (ae:Option Addr) (le ce:Nat):Prop where
 c0:W.cell? ⟨b0,o0+i*4,none⟩=some (.bool x.neg)
 c1:W.cell? ⟨b0,o0+i*4+1,none⟩=some (.int .i64 x.exp)
 c2:W.cell? ⟨b0,o0+i*4+2,none⟩=some (.slice aw lw cw)
 c3:W.cell? ⟨b0,o0+i*4+3,none⟩=some (.slice ae le ce)
 mono:Calls Tryz.prog 92 #[.agg #[.bool x.neg,.int .i64 x.exp,.slice aw lw cw,.slice ae le ce],.int .i64 (k:Int)] W fun r w'=>r=.returned (.bool (decide (Q0v k x.es/\Q0g x.neg x.exp x.ws)))/\Below W.heap.size W w'
theorem Qrz {w W:World} {k b0 o0 i:Nat} {x:Q04} {aw:Option Addr} {lw cw:Nat} {ae:Option Addr} {le ce:Nat} (hk:k<=4) (hb0:b0<w.heap.size) (q0:w.cell? ⟨b0,o0+i*4,none⟩=some (.bool x.neg)) (q1:w.cell? ⟨b0,o0+i*4+1,none⟩=some (.int .i64 x.exp)) (q2:w.cell? ⟨b0,o0+i*4+2,none⟩=some (.slice aw lw cw)) (q3:w.cell? ⟨b0,o0+i*4+3,none⟩=some (.slice ae le ce)) (hw:WordsIn w aw lw cw x.ws) (he:Q0i w ae le ce x.es) (h1: -9223372036854775808<=x.exp) (h2:x.exp<=9223372036854775807) (hb:Below w.heap.size w W):
 Qnz W k b0 o0 i x aw lw cw ae le ce:=
 ⟨(hb.cell (p:=⟨b0,o0+i*4,none⟩) hb0).trans q0,(hb.cell (p:=⟨b0,o0+i*4+1,none⟩) hb0).trans q1,(hb.cell (p:=⟨b0,o0+i*4+2,none⟩) hb0).trans q2,(hb.cell (p:=⟨b0,o0+i*4+3,none⟩) hb0).trans q3,Qar x.neg x.exp aw lw cw x.ws ae le ce x.es k W (hw.step hb) (he.step hb) hk h1 h2⟩
structure Qq4 (W:World) (k b0 o0 i j:Nat) (x:Q04) (aw:Option Addr) (lw cw:Nat) (ae:Option Addr) (le ce:Nat) (ae2:Option Addr) (ce2:Nat) (cv:Int):Prop extends Qnz W k b0 o0 i x aw lw cw ae le ce where
 d3:W.cell? ⟨b0,o0+j*4+3,none⟩=some (.slice ae2 le ce2)
 ord:Calls Tryz.prog 117 #[.slice ae2 le ce2,.slice ae le ce] W fun r w'=>r=.returned (.int .i64 cv)/\Below W.heap.size W w'
theorem Qcl (a:Option Addr) (n c:Nat) (ms:List Q04) (k:Nat) (w:World) (h:Q0e w a n c ms) (hk:k<=9223372036854775807):
 Calls Tryz.prog 71 #[.slice a n c,.int .i64 (k:Int)] w fun r w'=>Q2x (Q10 k ms) r/\Below w.heap.size w w':=by
 have hln:=h.1
 subst hln
 have hcm:=Nat.le_trans h.2.1 h.2.2.1
 have HM:=Lib.hid h
 clear h
 go_enter Tryz.func71,Tryz.ntmps71
 by_cases h1:1<=k
 case neg=>
  have h1':(k:Int)<1:=by omega
  go_wp2_with fail
  go_ret
  exact ⟨Q2x.no (fun h=>h1 h.1) rfl,Below.refl _ _⟩
 by_cases h4:k<=4
 case neg=>
  have h1':¬(k:Int)<1:=by omega
  have h4':4<(k:Int):=by omega
  go_wp2_with fail
  go_ret
  exact ⟨Q2x.no (fun h=>h4 h.2.1) rfl,Below.refl _ _⟩
 have h1':¬(k:Int)<1:=by omega
 have h4':¬4<(k:Int):=by omega
 by_cases h24:ms.length<=24
 case neg=>
  have h24':24<(ms.length:Int):=by omega
  go_wp2_with fail
  go_ret
  exact ⟨Q2x.no (fun h=>h24 h.2.2.1) rfl,Below.refl _ _⟩
 have h24':¬24<(ms.length:Int):=by omega
 go_wp2_with fail
 go_loopw [5] (fun iv wr=>Qey k ms w iv wr) (fun iv _=>ms.length-(intOf iv).toNat)
 case atStart=>exact ⟨0,rfl,Nat.zero_le _,(fun j m h=>absurd h (Nat.not_lt_zero _)),(fun j p q h=>absurd h (Nat.not_lt_zero _)),Below.refl _ _⟩
 case round=>
  obtain ⟨i,rfl,hi,hok,hadj,hbr⟩:=hrel
  by_cases hlt:i<ms.length
  ·have hlt':(i:Int)<(ms.length:Int):=by omega
   obtain ⟨x,hx⟩:∃x,ms[i]?=some x:=⟨_,List.getElem?_eq_getElem hlt⟩
   obtain ⟨b0,o0,rfl,hb0,hat⟩:∃b o,a=some ⟨b,o,none⟩/\b<w.heap.size/\∀j m,ms[j]?=some m->Q3g w b (o+j*4) m:=by
    rcases (Xe3 HM) with h0|h0
    ·rw[h0] at hlt;simp at hlt
    ·exact h0
   have hb0r:b0<wr.heap.size:=Nat.lt_of_lt_of_le hb0 hbr.size
   obtain ⟨aw,lw,cw,ae,le,ce,q0,q1,q2,q3,hw,he,hx1,hx2⟩:=(hat i x hx).step hbr hb0
   have hra:=fun W (hW:Below wr.heap.size wr W)=>Qrz h4 hb0r q0 q1 q2 q3 hw he hx1 hx2 hW
   have hwl:=hw.len
   have hel:=he.len
   have HA:=Xh6 hok hadj hbr hx he hel
   clear hok hadj hbr hw hx1 hx2 hx he
   go_upto_region 6 with fail
   by_cases hr:Q0v k x.es/\Q0g x.neg x.exp x.ws
   case neg=>
    have HC:=Lib.hid (fun W hW=>by have h:=hra W hW;have hm:=h.mono;rw[decide_eq_false hr] at hm;exact (And.intro h hm))
    have HR:=Lib.hid hr
    clear hra hr hat hwl hel
    refine Q0o (E:=Qfg) (fun _=>Below.refl _ _) (by kernel_rfl) (fun W=>Below wr.heap.size wr W) (fun _ _ h h'=>Below.next0 h h') (Q68 [.slice (some ⟨b0,o0,none⟩) ms.length c,.int .i64 (i:Int),.pointer (some ⟨b0,o0+i*4,none⟩),.agg #[.bool x.neg,.int .i64 x.exp,.slice aw lw cw,.slice ae le ce],.int .i64 (k:Int),.bool false,.bool true,.bool true,undef,undef,undef,undef,undef,undef,undef,undef,.bool true,.bool true,undef,undef,undef,undef,undef,undef,undef,undef,undef,undef,undef,undef,undef,undef,undef,undef,undef,.bool true] (Q5y [])) (Q0t (Q13 ((fun p hp=>by cases hp)))) (Q30 (by kernel_rfl)) (by kernel_rfl) (Q0a wr) ?_ ?_
    ·skip
     refine ⟨fun A W hW hag hdep=>?_,?_⟩
     ·have e0:A.tmps[0]?.getD undef=.slice (some ⟨b0,o0,none⟩) ms.length c:=Q03 (hag.keep (t:=0) (by kernel_rfl) rfl)
      refine Q02 rfl ?_
      refine Q01 (u:=.slice (some ⟨b0,o0,none⟩) ms.length c) ?_ ((Q00 rfl).2 rfl)
      simp[go_sem,e0]
     refine ⟨fun A W hW hag hdep=>?_,?_⟩
     ·have e5:A.tmps[5]?.getD undef=.int .i64 (i:Int):=Q03 (hag.keep (t:=5) (by kernel_rfl) rfl)
      refine Q02 rfl ?_
      refine Q01 (u:=.int .i64 (i:Int)) ?_ ((Q00 rfl).2 rfl)
      simp[go_sem,e5]
     refine ⟨fun A W hW hag hdep=>?_,?_⟩
     ·have e23:A.tmps[23]?.getD undef=.slice (some ⟨b0,o0,none⟩) ms.length c:=Q03 ((Q00 rfl).1 (hdep 0 (by decide)))
      have e24:A.tmps[24]?.getD undef=.int .i64 (i:Int):=Q03 ((Q00 rfl).1 (hdep 1 (by decide)))
      refine Q02 rfl ?_
      refine Q01 (u:=.pointer (some ⟨b0,o0+i*4,none⟩)) ?_ ((Q00 rfl).2 rfl)
      simp[go_sem,e23,e24,hlt']
     refine ⟨fun A W hW hag hdep=>?_,?_⟩
     ·have e25:A.tmps[25]?.getD undef=.pointer (some ⟨b0,o0+i*4,none⟩):=Q03 ((Q00 rfl).1 (hdep 2 (by decide)))
      refine Q02 rfl ?_
      refine Q01 (u:=.agg #[.bool x.neg,.int .i64 x.exp,.slice aw lw cw,.slice ae le ce]) ?_ ((Q00 rfl).2 rfl)
      simp[go_sem,e25,(HC.out W hW).1.c0,(HC.out W hW).1.c1,(HC.out W hW).1.c2,(HC.out W hW).1.c3]
     refine ⟨fun A W hW hag hdep=>?_,?_⟩
     ·have e1:A.tmps[1]?.getD undef=.int .i64 (k:Int):=Q03 (hag.keep (t:=1) (by kernel_rfl) rfl)
      refine Q02 rfl ?_
      refine Q01 (u:=.int .i64 (k:Int)) ?_ ((Q00 rfl).2 rfl)
      simp[go_sem,e1]
     refine ⟨fun A W hW hag hdep=>?_,?_⟩
     ·have e26:A.tmps[26]?.getD undef=.agg #[.bool x.neg,.int .i64 x.exp,.slice aw lw cw,.slice ae le ce]:=Q03 ((Q00 rfl).1 (hdep 3 (by decide)))
      have e27:A.tmps[27]?.getD undef=.int .i64 (k:Int):=Q03 ((Q00 rfl).1 (hdep 4 (by decide)))
      refine Q02 rfl ?_
      refine Q0q (f:=92) (args:= #[.agg #[.bool x.neg,.int .i64 x.exp,.slice aw lw cw,.slice ae le ce],.int .i64 (k:Int)]) (by simp[go_sem,e26,e27]) ((HC.out W hW).2.mono ?_)
      rintro e w2' ⟨rfl,hb'⟩
      exact ⟨_,rfl,hb',(Q00 rfl).2 rfl⟩
     refine ⟨fun A W hW hag hdep=>?_,?_⟩
     ·have e28:A.tmps[28]?.getD undef=.bool false:=Q03 ((Q00 rfl).1 (hdep 5 (by decide)))
      refine Q02 rfl ?_
      refine Q01 (u:=.bool true) ?_ ((Q00 rfl).2 rfl)
      simp[go_sem,e28]
     refine ⟨fun A W hW hag hdep=>?_,?_⟩
     ·have e29:A.tmps[29]?.getD undef=.bool true:=Q03 ((Q00 rfl).1 (hdep 6 (by decide)))
      refine Q02 rfl ?_
      refine Q01 (u:=.bool true) ?_ ((Q00 rfl).2 rfl)
      simp[go_sem,e29]
     refine ⟨fun A W hW hag hdep=>?_,?_⟩
     ·have eg:A.eval (.tmp 30)=.bool (!false):=(Q00 rfl).1 (hdep 7 (by decide))
      exact Q0b (t:=30) rfl rfl eg ((Q00 rfl).2 rfl)
     refine ⟨fun A W hW hag hdep=>?_,?_⟩
     ·have eg:A.eval (.tmp 30)=.bool (!false):=(Q00 rfl).1 (hdep 7 (by decide))
      exact Q0b (t:=30) rfl rfl eg ((Q00 rfl).2 rfl)
     refine ⟨fun A W hW hag hdep=>?_,?_⟩
     ·have eg:A.eval (.tmp 30)=.bool (!false):=(Q00 rfl).1 (hdep 7 (by decide))
      exact Q0b (t:=30) rfl rfl eg ((Q00 rfl).2 rfl)
     refine ⟨fun A W hW hag hdep=>?_,?_⟩
     ·have eg:A.eval (.tmp 30)=.bool (!false):=(Q00 rfl).1 (hdep 7 (by decide))
      exact Q0b (t:=30) rfl rfl eg ((Q00 rfl).2 rfl)
     refine ⟨fun A W hW hag hdep=>?_,?_⟩
     ·have eg:A.eval (.tmp 30)=.bool (!false):=(Q00 rfl).1 (hdep 7 (by decide))
      exact Q0b (t:=30) rfl rfl eg ((Q00 rfl).2 rfl)
     refine ⟨fun A W hW hag hdep=>?_,?_⟩
     ·have eg:A.eval (.tmp 30)=.bool (!false):=(Q00 rfl).1 (hdep 7 (by decide))
      exact Q0b (t:=30) rfl rfl eg ((Q00 rfl).2 rfl)
     refine ⟨fun A W hW hag hdep=>?_,?_⟩
     ·have eg:A.eval (.tmp 30)=.bool (!false):=(Q00 rfl).1 (hdep 7 (by decide))
      exact Q0b (t:=30) rfl rfl eg ((Q00 rfl).2 rfl)
     refine ⟨fun A W hW hag hdep=>?_,?_⟩
     ·have eg:A.eval (.tmp 30)=.bool (!false):=(Q00 rfl).1 (hdep 7 (by decide))
      exact Q0b (t:=30) rfl rfl eg ((Q00 rfl).2 rfl)
     refine ⟨fun A W hW hag hdep=>?_,?_⟩
     ·have e30:A.tmps[30]?.getD undef=.bool true:=Q03 ((Q00 rfl).1 (hdep 7 (by decide)))
      have e38:A.tmps[38]?.getD undef=undef:=Q03 ((Q00 rfl).1 (hdep 15 (by decide)))
      refine Q02 rfl ?_
      refine Q01 (u:=.bool true) ?_ ((Q00 rfl).2 rfl)
      simp[go_sem,e30,e38]
     refine ⟨fun A W hW hag hdep=>?_,?_⟩
     ·have e39:A.tmps[39]?.getD undef=.bool true:=Q03 ((Q00 rfl).1 (hdep 16 (by decide)))
      refine Q02 rfl ?_
      refine Q01 (u:=.bool true) ?_ ((Q00 rfl).2 rfl)
      simp[go_sem,e39]
     refine ⟨fun A W hW hag hdep=>?_,?_⟩
     ·have eg:A.eval (.tmp 40)=.bool (!false):=(Q00 rfl).1 (hdep 17 (by decide))
      exact Q0b (t:=40) rfl rfl eg ((Q00 rfl).2 rfl)
     refine ⟨fun A W hW hag hdep=>?_,?_⟩
     ·have eg:A.eval (.tmp 40)=.bool (!false):=(Q00 rfl).1 (hdep 17 (by decide))
      exact Q0b (t:=40) rfl rfl eg ((Q00 rfl).2 rfl)
     refine ⟨fun A W hW hag hdep=>?_,?_⟩
     ·have eg:A.eval (.tmp 40)=.bool (!false):=(Q00 rfl).1 (hdep 17 (by decide))
      exact Q0b (t:=40) rfl rfl eg ((Q00 rfl).2 rfl)
     refine ⟨fun A W hW hag hdep=>?_,?_⟩
     ·have eg:A.eval (.tmp 43)=undef:=(Q00 rfl).1 (hdep 20 (by decide))
      exact Q09 (t:=43) rfl rfl eg ((Q00 rfl).2 rfl)
     refine ⟨fun A W hW hag hdep=>?_,?_⟩
     ·have eg:A.eval (.tmp 43)=undef:=(Q00 rfl).1 (hdep 20 (by decide))
      exact Q09 (t:=43) rfl rfl eg ((Q00 rfl).2 rfl)
     refine ⟨fun A W hW hag hdep=>?_,?_⟩
     ·have eg:A.eval (.tmp 43)=undef:=(Q00 rfl).1 (hdep 20 (by decide))
      exact Q09 (t:=43) rfl rfl eg ((Q00 rfl).2 rfl)
     refine ⟨fun A W hW hag hdep=>?_,?_⟩
     ·have eg:A.eval (.tmp 43)=undef:=(Q00 rfl).1 (hdep 20 (by decide))
      exact Q09 (t:=43) rfl rfl eg ((Q00 rfl).2 rfl)
     refine ⟨fun A W hW hag hdep=>?_,?_⟩
     ·have eg:A.eval (.tmp 43)=undef:=(Q00 rfl).1 (hdep 20 (by decide))
      exact Q09 (t:=43) rfl rfl eg ((Q00 rfl).2 rfl)
     refine ⟨fun A W hW hag hdep=>?_,?_⟩
     ·have eg:A.eval (.tmp 43)=undef:=(Q00 rfl).1 (hdep 20 (by decide))
      exact Q09 (t:=43) rfl rfl eg ((Q00 rfl).2 rfl)
     refine ⟨fun A W hW hag hdep=>?_,?_⟩
     ·have eg:A.eval (.tmp 43)=undef:=(Q00 rfl).1 (hdep 20 (by decide))
      exact Q09 (t:=43) rfl rfl eg ((Q00 rfl).2 rfl)
     refine ⟨fun A W hW hag hdep=>?_,?_⟩
     ·have eg:A.eval (.tmp 43)=undef:=(Q00 rfl).1 (hdep 20 (by decide))
      exact Q09 (t:=43) rfl rfl eg ((Q00 rfl).2 rfl)
     refine ⟨fun A W hW hag hdep=>?_,?_⟩
     ·have eg:A.eval (.tmp 43)=undef:=(Q00 rfl).1 (hdep 20 (by decide))
      exact Q09 (t:=43) rfl rfl eg ((Q00 rfl).2 rfl)
     refine ⟨fun A W hW hag hdep=>?_,?_⟩
     ·have eg:A.eval (.tmp 43)=undef:=(Q00 rfl).1 (hdep 20 (by decide))
      exact Q09 (t:=43) rfl rfl eg ((Q00 rfl).2 rfl)
     refine ⟨fun A W hW hag hdep=>?_,?_⟩
     ·have eg:A.eval (.tmp 43)=undef:=(Q00 rfl).1 (hdep 20 (by decide))
      exact Q09 (t:=43) rfl rfl eg ((Q00 rfl).2 rfl)
     refine ⟨fun A W hW hag hdep=>?_,?_⟩
     ·have eg:A.eval (.tmp 43)=undef:=(Q00 rfl).1 (hdep 20 (by decide))
      exact Q09 (t:=43) rfl rfl eg ((Q00 rfl).2 rfl)
     refine ⟨fun A W hW hag hdep=>?_,?_⟩
     ·have eg:A.eval (.tmp 43)=undef:=(Q00 rfl).1 (hdep 20 (by decide))
      exact Q09 (t:=43) rfl rfl eg ((Q00 rfl).2 rfl)
     refine ⟨fun A W hW hag hdep=>?_,?_⟩
     ·have eg:A.eval (.tmp 40)=.bool (!false):=(Q00 rfl).1 (hdep 17 (by decide))
      exact Q0b (t:=40) rfl rfl eg ((Q00 rfl).2 rfl)
     refine ⟨fun A W hW hag hdep=>?_,?_⟩
     ·have e40:A.tmps[40]?.getD undef=.bool true:=Q03 ((Q00 rfl).1 (hdep 17 (by decide)))
      have e57:A.tmps[57]?.getD undef=undef:=Q03 ((Q00 rfl).1 (hdep 34 (by decide)))
      refine Q02 rfl ?_
      refine Q01 (u:=.bool true) ?_ ((Q00 rfl).2 rfl)
      simp[go_sem,e40,e57]
     exact trivial
    intro vs W1 hW1 hvs
    have HB:=Lib.hid hW1
    have e35:vs 35=.bool true:=(Q00 rfl).1 (hvs 35 (by decide))
    simp only[Q18,Act.put,List.setIfInBounds_toArray,List.set_cons_zero,List.set_cons_succ,e35]
    clear hW1 hvs e35
    go_wp2_with fail
    go_ret
    exact ⟨Q2x.no (fun h=>HR.out (h.2.2.2.1 x (List.mem_of_getElem? (Xo3 HA))).1) rfl,Below.next0 (Xo2 HA) HB.out⟩
   have hmt:∀W,Below wr.heap.size wr W->Calls Tryz.prog 92 #[.agg #[.bool x.neg,.int .i64 x.exp,.slice aw lw cw,.slice ae le ce],.int .i64 (k:Int)] W fun r w'=>r=.returned (.bool true)/\Below W.heap.size W w':=fun W hW=>by have hm:=(hra W hW).mono;rwa[decide_eq_true hr] at hm
   by_cases hz:x.ws=[]
   ·have hlw:((lw:Int)==0)=true:=by rw[beq_iff_eq,<-hwl,hz];rfl
    have HC:=Lib.hid (fun W hW=>And.intro (hra W hW) (hmt W hW))
    have HR:=Lib.hid hz
    clear hra hmt hr hat hz hwl hel
    refine Q0o (E:=Qfg) (fun _=>Below.refl _ _) (by kernel_rfl) (fun W=>Below wr.heap.size wr W) (fun _ _ h h'=>Below.next0 h h') (Q68 [.slice (some ⟨b0,o0,none⟩) ms.length c,.int .i64 (i:Int),.pointer (some ⟨b0,o0+i*4,none⟩),.agg #[.bool x.neg,.int .i64 x.exp,.slice aw lw cw,.slice ae le ce],.int .i64 (k:Int),.bool true,.bool false,.bool false,.slice (some ⟨b0,o0,none⟩) ms.length c,.int .i64 (i:Int),.pointer (some ⟨b0,o0+i*4,none⟩),.pointer (some ⟨b0,o0+i*4,none⟩),.pointer (some ⟨b0,o0+i*4+2,none⟩),.slice aw lw cw,.int .i64 (lw:Int),.bool true,.bool true,.bool true,undef,undef,undef,undef,undef,undef,undef,undef,undef,undef,undef,undef,undef,undef,undef,undef,undef,.bool true] (Q5y [])) (Q0t (Q13 ((fun p hp=>by cases hp)))) (Q30 (by kernel_rfl)) (by kernel_rfl) (Q0a wr) ?_ ?_
    ·skip
     refine ⟨fun A W hW hag hdep=>?_,?_⟩
     ·have e0:A.tmps[0]?.getD undef=.slice (some ⟨b0,o0,none⟩) ms.length c:=Q03 (hag.keep (t:=0) (by kernel_rfl) rfl)
      refine Q02 rfl ?_
      refine Q01 (u:=.slice (some ⟨b0,o0,none⟩) ms.length c) ?_ ((Q00 rfl).2 rfl)
      simp[go_sem,e0]
     refine ⟨fun A W hW hag hdep=>?_,?_⟩
     ·have e5:A.tmps[5]?.getD undef=.int .i64 (i:Int):=Q03 (hag.keep (t:=5) (by kernel_rfl) rfl)
      refine Q02 rfl ?_
      refine Q01 (u:=.int .i64 (i:Int)) ?_ ((Q00 rfl).2 rfl)
      simp[go_sem,e5]
     refine ⟨fun A W hW hag hdep=>?_,?_⟩
     ·have e23:A.tmps[23]?.getD undef=.slice (some ⟨b0,o0,none⟩) ms.length c:=Q03 ((Q00 rfl).1 (hdep 0 (by decide)))
      have e24:A.tmps[24]?.getD undef=.int .i64 (i:Int):=Q03 ((Q00 rfl).1 (hdep 1 (by decide)))
      refine Q02 rfl ?_
      refine Q01 (u:=.pointer (some ⟨b0,o0+i*4,none⟩)) ?_ ((Q00 rfl).2 rfl)
      simp[go_sem,e23,e24,hlt']
     refine ⟨fun A W hW hag hdep=>?_,?_⟩
     ·have e25:A.tmps[25]?.getD undef=.pointer (some ⟨b0,o0+i*4,none⟩):=Q03 ((Q00 rfl).1 (hdep 2 (by decide)))
      refine Q02 rfl ?_
      refine Q01 (u:=.agg #[.bool x.neg,.int .i64 x.exp,.slice aw lw cw,.slice ae le ce]) ?_ ((Q00 rfl).2 rfl)
      simp[go_sem,e25,(HC.out W hW).1.c0,(HC.out W hW).1.c1,(HC.out W hW).1.c2,(HC.out W hW).1.c3]
     refine ⟨fun A W hW hag hdep=>?_,?_⟩
     ·have e1:A.tmps[1]?.getD undef=.int .i64 (k:Int):=Q03 (hag.keep (t:=1) (by kernel_rfl) rfl)
      refine Q02 rfl ?_
      refine Q01 (u:=.int .i64 (k:Int)) ?_ ((Q00 rfl).2 rfl)
      simp[go_sem,e1]
     refine ⟨fun A W hW hag hdep=>?_,?_⟩
     ·have e26:A.tmps[26]?.getD undef=.agg #[.bool x.neg,.int .i64 x.exp,.slice aw lw cw,.slice ae le ce]:=Q03 ((Q00 rfl).1 (hdep 3 (by decide)))
      have e27:A.tmps[27]?.getD undef=.int .i64 (k:Int):=Q03 ((Q00 rfl).1 (hdep 4 (by decide)))
      refine Q02 rfl ?_
      refine Q0q (f:=92) (args:= #[.agg #[.bool x.neg,.int .i64 x.exp,.slice aw lw cw,.slice ae le ce],.int .i64 (k:Int)]) (by simp[go_sem,e26,e27]) ((HC.out W hW).2.mono ?_)
      rintro e w2' ⟨rfl,hb'⟩
      exact ⟨_,rfl,hb',(Q00 rfl).2 rfl⟩
     refine ⟨fun A W hW hag hdep=>?_,?_⟩
     ·have e28:A.tmps[28]?.getD undef=.bool true:=Q03 ((Q00 rfl).1 (hdep 5 (by decide)))
      refine Q02 rfl ?_
      refine Q01 (u:=.bool false) ?_ ((Q00 rfl).2 rfl)
      simp[go_sem,e28]
     refine ⟨fun A W hW hag hdep=>?_,?_⟩
     ·have e29:A.tmps[29]?.getD undef=.bool false:=Q03 ((Q00 rfl).1 (hdep 6 (by decide)))
      refine Q02 rfl ?_
      refine Q01 (u:=.bool false) ?_ ((Q00 rfl).2 rfl)
      simp[go_sem,e29]
     refine ⟨fun A W hW hag hdep=>?_,?_⟩
     ·have e0:A.tmps[0]?.getD undef=.slice (some ⟨b0,o0,none⟩) ms.length c:=Q03 (hag.keep (t:=0) (by kernel_rfl) rfl)
      have eg:A.eval (.tmp 30)=.bool false:=(Q00 rfl).1 (hdep 7 (by decide))
      refine Q05 (t:=30) rfl rfl eg ?_
      refine Q01 (u:=.slice (some ⟨b0,o0,none⟩) ms.length c) ?_ ((Q00 rfl).2 rfl)
      simp[go_sem,e0]
     refine ⟨fun A W hW hag hdep=>?_,?_⟩
     ·have e5:A.tmps[5]?.getD undef=.int .i64 (i:Int):=Q03 (hag.keep (t:=5) (by kernel_rfl) rfl)
      have eg:A.eval (.tmp 30)=.bool false:=(Q00 rfl).1 (hdep 7 (by decide))
      refine Q05 (t:=30) rfl rfl eg ?_
      refine Q01 (u:=.int .i64 (i:Int)) ?_ ((Q00 rfl).2 rfl)
      simp[go_sem,e5]
     refine ⟨fun A W hW hag hdep=>?_,?_⟩
     ·have e31:A.tmps[31]?.getD undef=.slice (some ⟨b0,o0,none⟩) ms.length c:=Q03 ((Q00 rfl).1 (hdep 8 (by decide)))
      have e32:A.tmps[32]?.getD undef=.int .i64 (i:Int):=Q03 ((Q00 rfl).1 (hdep 9 (by decide)))
      have eg:A.eval (.tmp 30)=.bool false:=(Q00 rfl).1 (hdep 7 (by decide))
      refine Q05 (t:=30) rfl rfl eg ?_
      refine Q01 (u:=.pointer (some ⟨b0,o0+i*4,none⟩)) ?_ ((Q00 rfl).2 rfl)
      simp[go_sem,e31,e32,hlt']
     refine ⟨fun A W hW hag hdep=>?_,?_⟩
     ·have e33:A.tmps[33]?.getD undef=.pointer (some ⟨b0,o0+i*4,none⟩):=Q03 ((Q00 rfl).1 (hdep 10 (by decide)))
      have eg:A.eval (.tmp 30)=.bool false:=(Q00 rfl).1 (hdep 7 (by decide))
      refine Q05 (t:=30) rfl rfl eg ?_
      refine Q01 (u:=.pointer (some ⟨b0,o0+i*4,none⟩)) ?_ ((Q00 rfl).2 rfl)
      simp[go_sem,e33]
     refine ⟨fun A W hW hag hdep=>?_,?_⟩
     ·have e34:A.tmps[34]?.getD undef=.pointer (some ⟨b0,o0+i*4,none⟩):=Q03 ((Q00 rfl).1 (hdep 11 (by decide)))
      have eg:A.eval (.tmp 30)=.bool false:=(Q00 rfl).1 (hdep 7 (by decide))
      refine Q05 (t:=30) rfl rfl eg ?_
      refine Q01 (u:=.pointer (some ⟨b0,o0+i*4+2,none⟩)) ?_ ((Q00 rfl).2 rfl)
      simp[go_sem,e34]
     refine ⟨fun A W hW hag hdep=>?_,?_⟩
     ·have e35:A.tmps[35]?.getD undef=.pointer (some ⟨b0,o0+i*4+2,none⟩):=Q03 ((Q00 rfl).1 (hdep 12 (by decide)))
      have eg:A.eval (.tmp 30)=.bool false:=(Q00 rfl).1 (hdep 7 (by decide))
      refine Q05 (t:=30) rfl rfl eg ?_
      refine Q01 (u:=.slice aw lw cw) ?_ ((Q00 rfl).2 rfl)
      simp[go_sem,e35,(HC.out W hW).1.c2]
     refine ⟨fun A W hW hag hdep=>?_,?_⟩
     ·have e36:A.tmps[36]?.getD undef=.slice aw lw cw:=Q03 ((Q00 rfl).1 (hdep 13 (by decide)))
      have eg:A.eval (.tmp 30)=.bool false:=(Q00 rfl).1 (hdep 7 (by decide))
      refine Q05 (t:=30) rfl rfl eg ?_
      refine Q01 (u:=.int .i64 (lw:Int)) ?_ ((Q00 rfl).2 rfl)
      simp[go_sem,e36]
     refine ⟨fun A W hW hag hdep=>?_,?_⟩
     ·have e37:A.tmps[37]?.getD undef=.int .i64 (lw:Int):=Q03 ((Q00 rfl).1 (hdep 14 (by decide)))
      have eg:A.eval (.tmp 30)=.bool false:=(Q00 rfl).1 (hdep 7 (by decide))
      refine Q05 (t:=30) rfl rfl eg ?_
      refine Q01 (u:=.bool true) ?_ ((Q00 rfl).2 rfl)
      simp[go_sem,e37,hlw]
     refine ⟨fun A W hW hag hdep=>?_,?_⟩
     ·have e30:A.tmps[30]?.getD undef=.bool false:=Q03 ((Q00 rfl).1 (hdep 7 (by decide)))
      have e38:A.tmps[38]?.getD undef=.bool true:=Q03 ((Q00 rfl).1 (hdep 15 (by decide)))
      refine Q02 rfl ?_
      refine Q01 (u:=.bool true) ?_ ((Q00 rfl).2 rfl)
      simp[go_sem,e30,e38]
     refine ⟨fun A W hW hag hdep=>?_,?_⟩
     ·have e39:A.tmps[39]?.getD undef=.bool true:=Q03 ((Q00 rfl).1 (hdep 16 (by decide)))
      refine Q02 rfl ?_
      refine Q01 (u:=.bool true) ?_ ((Q00 rfl).2 rfl)
      simp[go_sem,e39]
     refine ⟨fun A W hW hag hdep=>?_,?_⟩
     ·have eg:A.eval (.tmp 40)=.bool (!false):=(Q00 rfl).1 (hdep 17 (by decide))
      exact Q0b (t:=40) rfl rfl eg ((Q00 rfl).2 rfl)
     refine ⟨fun A W hW hag hdep=>?_,?_⟩
     ·have eg:A.eval (.tmp 40)=.bool (!false):=(Q00 rfl).1 (hdep 17 (by decide))
      exact Q0b (t:=40) rfl rfl eg ((Q00 rfl).2 rfl)
     refine ⟨fun A W hW hag hdep=>?_,?_⟩
     ·have eg:A.eval (.tmp 40)=.bool (!false):=(Q00 rfl).1 (hdep 17 (by decide))
      exact Q0b (t:=40) rfl rfl eg ((Q00 rfl).2 rfl)
     refine ⟨fun A W hW hag hdep=>?_,?_⟩
     ·have eg:A.eval (.tmp 43)=undef:=(Q00 rfl).1 (hdep 20 (by decide))
      exact Q09 (t:=43) rfl rfl eg ((Q00 rfl).2 rfl)
     refine ⟨fun A W hW hag hdep=>?_,?_⟩
     ·have eg:A.eval (.tmp 43)=undef:=(Q00 rfl).1 (hdep 20 (by decide))
      exact Q09 (t:=43) rfl rfl eg ((Q00 rfl).2 rfl)
     refine ⟨fun A W hW hag hdep=>?_,?_⟩
     ·have eg:A.eval (.tmp 43)=undef:=(Q00 rfl).1 (hdep 20 (by decide))
      exact Q09 (t:=43) rfl rfl eg ((Q00 rfl).2 rfl)
     refine ⟨fun A W hW hag hdep=>?_,?_⟩
     ·have eg:A.eval (.tmp 43)=undef:=(Q00 rfl).1 (hdep 20 (by decide))
      exact Q09 (t:=43) rfl rfl eg ((Q00 rfl).2 rfl)
     refine ⟨fun A W hW hag hdep=>?_,?_⟩
     ·have eg:A.eval (.tmp 43)=undef:=(Q00 rfl).1 (hdep 20 (by decide))
      exact Q09 (t:=43) rfl rfl eg ((Q00 rfl).2 rfl)
     refine ⟨fun A W hW hag hdep=>?_,?_⟩
     ·have eg:A.eval (.tmp 43)=undef:=(Q00 rfl).1 (hdep 20 (by decide))
      exact Q09 (t:=43) rfl rfl eg ((Q00 rfl).2 rfl)
     refine ⟨fun A W hW hag hdep=>?_,?_⟩
     ·have eg:A.eval (.tmp 43)=undef:=(Q00 rfl).1 (hdep 20 (by decide))
      exact Q09 (t:=43) rfl rfl eg ((Q00 rfl).2 rfl)
     refine ⟨fun A W hW hag hdep=>?_,?_⟩
     ·have eg:A.eval (.tmp 43)=undef:=(Q00 rfl).1 (hdep 20 (by decide))
      exact Q09 (t:=43) rfl rfl eg ((Q00 rfl).2 rfl)
     refine ⟨fun A W hW hag hdep=>?_,?_⟩
     ·have eg:A.eval (.tmp 43)=undef:=(Q00 rfl).1 (hdep 20 (by decide))
      exact Q09 (t:=43) rfl rfl eg ((Q00 rfl).2 rfl)
     refine ⟨fun A W hW hag hdep=>?_,?_⟩
     ·have eg:A.eval (.tmp 43)=undef:=(Q00 rfl).1 (hdep 20 (by decide))
      exact Q09 (t:=43) rfl rfl eg ((Q00 rfl).2 rfl)
     refine ⟨fun A W hW hag hdep=>?_,?_⟩
     ·have eg:A.eval (.tmp 43)=undef:=(Q00 rfl).1 (hdep 20 (by decide))
      exact Q09 (t:=43) rfl rfl eg ((Q00 rfl).2 rfl)
     refine ⟨fun A W hW hag hdep=>?_,?_⟩
     ·have eg:A.eval (.tmp 43)=undef:=(Q00 rfl).1 (hdep 20 (by decide))
      exact Q09 (t:=43) rfl rfl eg ((Q00 rfl).2 rfl)
     refine ⟨fun A W hW hag hdep=>?_,?_⟩
     ·have eg:A.eval (.tmp 43)=undef:=(Q00 rfl).1 (hdep 20 (by decide))
      exact Q09 (t:=43) rfl rfl eg ((Q00 rfl).2 rfl)
     refine ⟨fun A W hW hag hdep=>?_,?_⟩
     ·have eg:A.eval (.tmp 40)=.bool (!false):=(Q00 rfl).1 (hdep 17 (by decide))
      exact Q0b (t:=40) rfl rfl eg ((Q00 rfl).2 rfl)
     refine ⟨fun A W hW hag hdep=>?_,?_⟩
     ·have e40:A.tmps[40]?.getD undef=.bool true:=Q03 ((Q00 rfl).1 (hdep 17 (by decide)))
      have e57:A.tmps[57]?.getD undef=undef:=Q03 ((Q00 rfl).1 (hdep 34 (by decide)))
      refine Q02 rfl ?_
      refine Q01 (u:=.bool true) ?_ ((Q00 rfl).2 rfl)
      simp[go_sem,e40,e57]
     exact trivial
    intro vs W1 hW1 hvs
    have HB:=Lib.hid hW1
    have e35:vs 35=.bool true:=(Q00 rfl).1 (hvs 35 (by decide))
    simp only[Q18,Act.put,List.setIfInBounds_toArray,List.set_cons_zero,List.set_cons_succ,e35]
    clear hW1 hvs e35
    go_wp2_with fail
    go_ret
    exact ⟨Q2x.no (fun h=>(h.2.2.2.1 x (List.mem_of_getElem? (Xo3 HA))).2 HR.out) rfl,Below.next0 (Xo2 HA) HB.out⟩
   have hlw:((lw:Int)==0)=false:=by
    rw[beq_eq_false_iff_ne]
    intro e
    exact hz (List.eq_nil_of_length_eq_zero (by rw[hwl];omega))
   have HO:=Lib.hid (show OkM k x from ⟨hr,hz⟩)
   clear hz hwl
   by_cases hi0:0<i
   case neg=>
    have HZ:=Lib.hid (show i=0 by omega)
    have HC:=Lib.hid (fun W hW=>And.intro (hra W hW) (hmt W hW))
    clear hra hmt hr hat hel
    refine Q0o (E:=Qfg) (fun _=>Below.refl _ _) (by kernel_rfl) (fun W=>Below wr.heap.size wr W) (fun _ _ h h'=>Below.next0 h h') (Q68 [.slice (some ⟨b0,o0,none⟩) ms.length c,.int .i64 (i:Int),.pointer (some ⟨b0,o0+i*4,none⟩),.agg #[.bool x.neg,.int .i64 x.exp,.slice aw lw cw,.slice ae le ce],.int .i64 (k:Int),.bool true,.bool false,.bool false,.slice (some ⟨b0,o0,none⟩) ms.length c,.int .i64 (i:Int),.pointer (some ⟨b0,o0+i*4,none⟩),.pointer (some ⟨b0,o0+i*4,none⟩),.pointer (some ⟨b0,o0+i*4+2,none⟩),.slice aw lw cw,.int .i64 (lw:Int),.bool false,.bool false,.bool false,.int .i64 (i:Int),.bool false,.bool false,undef,undef,undef,undef,undef,undef,undef,undef,undef,undef,undef,undef,undef,.bool false,.bool false] (Q5y [])) (Q0t (Q13 ((fun p hp=>by cases hp)))) (Q30 (by kernel_rfl)) (by kernel_rfl) (Q0a wr) ?_ ?_
    ·skip
     refine ⟨fun A W hW hag hdep=>?_,?_⟩
     ·have e0:A.tmps[0]?.getD undef=.slice (some ⟨b0,o0,none⟩) ms.length c:=Q03 (hag.keep (t:=0) (by kernel_rfl) rfl)
      refine Q02 rfl ?_
      refine Q01 (u:=.slice (some ⟨b0,o0,none⟩) ms.length c) ?_ ((Q00 rfl).2 rfl)
      simp[go_sem,e0]
     refine ⟨fun A W hW hag hdep=>?_,?_⟩
     ·have e5:A.tmps[5]?.getD undef=.int .i64 (i:Int):=Q03 (hag.keep (t:=5) (by kernel_rfl) rfl)
      refine Q02 rfl ?_
      refine Q01 (u:=.int .i64 (i:Int)) ?_ ((Q00 rfl).2 rfl)
      simp[go_sem,e5]
     refine ⟨fun A W hW hag hdep=>?_,?_⟩
     ·have e23:A.tmps[23]?.getD undef=.slice (some ⟨b0,o0,none⟩) ms.length c:=Q03 ((Q00 rfl).1 (hdep 0 (by decide)))
      have e24:A.tmps[24]?.getD undef=.int .i64 (i:Int):=Q03 ((Q00 rfl).1 (hdep 1 (by decide)))
      refine Q02 rfl ?_
      refine Q01 (u:=.pointer (some ⟨b0,o0+i*4,none⟩)) ?_ ((Q00 rfl).2 rfl)
      simp[go_sem,e23,e24,hlt']
     refine ⟨fun A W hW hag hdep=>?_,?_⟩
     ·have e25:A.tmps[25]?.getD undef=.pointer (some ⟨b0,o0+i*4,none⟩):=Q03 ((Q00 rfl).1 (hdep 2 (by decide)))
      refine Q02 rfl ?_
      refine Q01 (u:=.agg #[.bool x.neg,.int .i64 x.exp,.slice aw lw cw,.slice ae le ce]) ?_ ((Q00 rfl).2 rfl)
      simp[go_sem,e25,(HC.out W hW).1.c0,(HC.out W hW).1.c1,(HC.out W hW).1.c2,(HC.out W hW).1.c3]
     refine ⟨fun A W hW hag hdep=>?_,?_⟩
     ·have e1:A.tmps[1]?.getD undef=.int .i64 (k:Int):=Q03 (hag.keep (t:=1) (by kernel_rfl) rfl)
      refine Q02 rfl ?_
      refine Q01 (u:=.int .i64 (k:Int)) ?_ ((Q00 rfl).2 rfl)
      simp[go_sem,e1]
     refine ⟨fun A W hW hag hdep=>?_,?_⟩
     ·have e26:A.tmps[26]?.getD undef=.agg #[.bool x.neg,.int .i64 x.exp,.slice aw lw cw,.slice ae le ce]:=Q03 ((Q00 rfl).1 (hdep 3 (by decide)))
      have e27:A.tmps[27]?.getD undef=.int .i64 (k:Int):=Q03 ((Q00 rfl).1 (hdep 4 (by decide)))
      refine Q02 rfl ?_
      refine Q0q (f:=92) (args:= #[.agg #[.bool x.neg,.int .i64 x.exp,.slice aw lw cw,.slice ae le ce],.int .i64 (k:Int)]) (by simp[go_sem,e26,e27]) ((HC.out W hW).2.mono ?_)
      rintro e w2' ⟨rfl,hb'⟩
      exact ⟨_,rfl,hb',(Q00 rfl).2 rfl⟩
     refine ⟨fun A W hW hag hdep=>?_,?_⟩
     ·have e28:A.tmps[28]?.getD undef=.bool true:=Q03 ((Q00 rfl).1 (hdep 5 (by decide)))
      refine Q02 rfl ?_
      refine Q01 (u:=.bool false) ?_ ((Q00 rfl).2 rfl)
      simp[go_sem,e28]
     refine ⟨fun A W hW hag hdep=>?_,?_⟩
     ·have e29:A.tmps[29]?.getD undef=.bool false:=Q03 ((Q00 rfl).1 (hdep 6 (by decide)))
      refine Q02 rfl ?_
      refine Q01 (u:=.bool false) ?_ ((Q00 rfl).2 rfl)
      simp[go_sem,e29]
     refine ⟨fun A W hW hag hdep=>?_,?_⟩
     ·have e0:A.tmps[0]?.getD undef=.slice (some ⟨b0,o0,none⟩) ms.length c:=Q03 (hag.keep (t:=0) (by kernel_rfl) rfl)
      have eg:A.eval (.tmp 30)=.bool false:=(Q00 rfl).1 (hdep 7 (by decide))
      refine Q05 (t:=30) rfl rfl eg ?_
      refine Q01 (u:=.slice (some ⟨b0,o0,none⟩) ms.length c) ?_ ((Q00 rfl).2 rfl)
      simp[go_sem,e0]
     refine ⟨fun A W hW hag hdep=>?_,?_⟩
     ·have e5:A.tmps[5]?.getD undef=.int .i64 (i:Int):=Q03 (hag.keep (t:=5) (by kernel_rfl) rfl)
      have eg:A.eval (.tmp 30)=.bool false:=(Q00 rfl).1 (hdep 7 (by decide))
      refine Q05 (t:=30) rfl rfl eg ?_
      refine Q01 (u:=.int .i64 (i:Int)) ?_ ((Q00 rfl).2 rfl)
      simp[go_sem,e5]
     refine ⟨fun A W hW hag hdep=>?_,?_⟩
     ·have e31:A.tmps[31]?.getD undef=.slice (some ⟨b0,o0,none⟩) ms.length c:=Q03 ((Q00 rfl).1 (hdep 8 (by decide)))
      have e32:A.tmps[32]?.getD undef=.int .i64 (i:Int):=Q03 ((Q00 rfl).1 (hdep 9 (by decide)))
      have eg:A.eval (.tmp 30)=.bool false:=(Q00 rfl).1 (hdep 7 (by decide))
      refine Q05 (t:=30) rfl rfl eg ?_
      refine Q01 (u:=.pointer (some ⟨b0,o0+i*4,none⟩)) ?_ ((Q00 rfl).2 rfl)
      simp[go_sem,e31,e32,hlt']
     refine ⟨fun A W hW hag hdep=>?_,?_⟩
     ·have e33:A.tmps[33]?.getD undef=.pointer (some ⟨b0,o0+i*4,none⟩):=Q03 ((Q00 rfl).1 (hdep 10 (by decide)))
      have eg:A.eval (.tmp 30)=.bool false:=(Q00 rfl).1 (hdep 7 (by decide))
      refine Q05 (t:=30) rfl rfl eg ?_
      refine Q01 (u:=.pointer (some ⟨b0,o0+i*4,none⟩)) ?_ ((Q00 rfl).2 rfl)
      simp[go_sem,e33]
     refine ⟨fun A W hW hag hdep=>?_,?_⟩
     ·have e34:A.tmps[34]?.getD undef=.pointer (some ⟨b0,o0+i*4,none⟩):=Q03 ((Q00 rfl).1 (hdep 11 (by decide)))
      have eg:A.eval (.tmp 30)=.bool false:=(Q00 rfl).1 (hdep 7 (by decide))
      refine Q05 (t:=30) rfl rfl eg ?_
      refine Q01 (u:=.pointer (some ⟨b0,o0+i*4+2,none⟩)) ?_ ((Q00 rfl).2 rfl)
      simp[go_sem,e34]
     refine ⟨fun A W hW hag hdep=>?_,?_⟩
     ·have e35:A.tmps[35]?.getD undef=.pointer (some ⟨b0,o0+i*4+2,none⟩):=Q03 ((Q00 rfl).1 (hdep 12 (by decide)))
      have eg:A.eval (.tmp 30)=.bool false:=(Q00 rfl).1 (hdep 7 (by decide))
      refine Q05 (t:=30) rfl rfl eg ?_
      refine Q01 (u:=.slice aw lw cw) ?_ ((Q00 rfl).2 rfl)
      simp[go_sem,e35,(HC.out W hW).1.c2]
     refine ⟨fun A W hW hag hdep=>?_,?_⟩
     ·have e36:A.tmps[36]?.getD undef=.slice aw lw cw:=Q03 ((Q00 rfl).1 (hdep 13 (by decide)))
      have eg:A.eval (.tmp 30)=.bool false:=(Q00 rfl).1 (hdep 7 (by decide))
      refine Q05 (t:=30) rfl rfl eg ?_
      refine Q01 (u:=.int .i64 (lw:Int)) ?_ ((Q00 rfl).2 rfl)
      simp[go_sem,e36]
     refine ⟨fun A W hW hag hdep=>?_,?_⟩
     ·have e37:A.tmps[37]?.getD undef=.int .i64 (lw:Int):=Q03 ((Q00 rfl).1 (hdep 14 (by decide)))
      have eg:A.eval (.tmp 30)=.bool false:=(Q00 rfl).1 (hdep 7 (by decide))
      refine Q05 (t:=30) rfl rfl eg ?_
      refine Q01 (u:=.bool false) ?_ ((Q00 rfl).2 rfl)
      simp[go_sem,e37,hlw]
     refine ⟨fun A W hW hag hdep=>?_,?_⟩
     ·have e30:A.tmps[30]?.getD undef=.bool false:=Q03 ((Q00 rfl).1 (hdep 7 (by decide)))
      have e38:A.tmps[38]?.getD undef=.bool false:=Q03 ((Q00 rfl).1 (hdep 15 (by decide)))
      refine Q02 rfl ?_
      refine Q01 (u:=.bool false) ?_ ((Q00 rfl).2 rfl)
      simp[go_sem,e30,e38]
     refine ⟨fun A W hW hag hdep=>?_,?_⟩
     ·have e39:A.tmps[39]?.getD undef=.bool false:=Q03 ((Q00 rfl).1 (hdep 16 (by decide)))
      refine Q02 rfl ?_
      refine Q01 (u:=.bool false) ?_ ((Q00 rfl).2 rfl)
      simp[go_sem,e39]
     refine ⟨fun A W hW hag hdep=>?_,?_⟩
     ·have e5:A.tmps[5]?.getD undef=.int .i64 (i:Int):=Q03 (hag.keep (t:=5) (by kernel_rfl) rfl)
      have eg:A.eval (.tmp 40)=.bool false:=(Q00 rfl).1 (hdep 17 (by decide))
      refine Q05 (t:=40) rfl rfl eg ?_
      refine Q01 (u:=.int .i64 (i:Int)) ?_ ((Q00 rfl).2 rfl)
      simp[go_sem,e5]
     refine ⟨fun A W hW hag hdep=>?_,?_⟩
     ·have e41:A.tmps[41]?.getD undef=.int .i64 (i:Int):=Q03 ((Q00 rfl).1 (hdep 18 (by decide)))
      have eg:A.eval (.tmp 40)=.bool false:=(Q00 rfl).1 (hdep 17 (by decide))
      refine Q05 (t:=40) rfl rfl eg ?_
      refine Q01 (u:=.bool false) ?_ ((Q00 rfl).2 rfl)
      simp[go_sem,e41,HZ.out]
     refine ⟨fun A W hW hag hdep=>?_,?_⟩
     ·have e42:A.tmps[42]?.getD undef=.bool false:=Q03 ((Q00 rfl).1 (hdep 19 (by decide)))
      have eg:A.eval (.tmp 40)=.bool false:=(Q00 rfl).1 (hdep 17 (by decide))
      refine Q05 (t:=40) rfl rfl eg ?_
      refine Q01 (u:=.bool false) ?_ ((Q00 rfl).2 rfl)
      simp[go_sem,e42]
     refine ⟨fun A W hW hag hdep=>?_,?_⟩
     ·have eg:A.eval (.tmp 43)=.bool (!true):=(Q00 rfl).1 (hdep 20 (by decide))
      exact Q0b (t:=43) rfl rfl eg ((Q00 rfl).2 rfl)
     refine ⟨fun A W hW hag hdep=>?_,?_⟩
     ·have eg:A.eval (.tmp 43)=.bool (!true):=(Q00 rfl).1 (hdep 20 (by decide))
      exact Q0b (t:=43) rfl rfl eg ((Q00 rfl).2 rfl)
     refine ⟨fun A W hW hag hdep=>?_,?_⟩
     ·have eg:A.eval (.tmp 43)=.bool (!true):=(Q00 rfl).1 (hdep 20 (by decide))
      exact Q0b (t:=43) rfl rfl eg ((Q00 rfl).2 rfl)
     refine ⟨fun A W hW hag hdep=>?_,?_⟩
     ·have eg:A.eval (.tmp 43)=.bool (!true):=(Q00 rfl).1 (hdep 20 (by decide))
      exact Q0b (t:=43) rfl rfl eg ((Q00 rfl).2 rfl)
     refine ⟨fun A W hW hag hdep=>?_,?_⟩
     ·have eg:A.eval (.tmp 43)=.bool (!true):=(Q00 rfl).1 (hdep 20 (by decide))
      exact Q0b (t:=43) rfl rfl eg ((Q00 rfl).2 rfl)
     refine ⟨fun A W hW hag hdep=>?_,?_⟩
     ·have eg:A.eval (.tmp 43)=.bool (!true):=(Q00 rfl).1 (hdep 20 (by decide))
      exact Q0b (t:=43) rfl rfl eg ((Q00 rfl).2 rfl)
     refine ⟨fun A W hW hag hdep=>?_,?_⟩
     ·have eg:A.eval (.tmp 43)=.bool (!true):=(Q00 rfl).1 (hdep 20 (by decide))
      exact Q0b (t:=43) rfl rfl eg ((Q00 rfl).2 rfl)
     refine ⟨fun A W hW hag hdep=>?_,?_⟩
     ·have eg:A.eval (.tmp 43)=.bool (!true):=(Q00 rfl).1 (hdep 20 (by decide))
      exact Q0b (t:=43) rfl rfl eg ((Q00 rfl).2 rfl)
     refine ⟨fun A W hW hag hdep=>?_,?_⟩
     ·have eg:A.eval (.tmp 43)=.bool (!true):=(Q00 rfl).1 (hdep 20 (by decide))
      exact Q0b (t:=43) rfl rfl eg ((Q00 rfl).2 rfl)
     refine ⟨fun A W hW hag hdep=>?_,?_⟩
     ·have eg:A.eval (.tmp 43)=.bool (!true):=(Q00 rfl).1 (hdep 20 (by decide))
      exact Q0b (t:=43) rfl rfl eg ((Q00 rfl).2 rfl)
     refine ⟨fun A W hW hag hdep=>?_,?_⟩
     ·have eg:A.eval (.tmp 43)=.bool (!true):=(Q00 rfl).1 (hdep 20 (by decide))
      exact Q0b (t:=43) rfl rfl eg ((Q00 rfl).2 rfl)
     refine ⟨fun A W hW hag hdep=>?_,?_⟩
     ·have eg:A.eval (.tmp 43)=.bool (!true):=(Q00 rfl).1 (hdep 20 (by decide))
      exact Q0b (t:=43) rfl rfl eg ((Q00 rfl).2 rfl)
     refine ⟨fun A W hW hag hdep=>?_,?_⟩
     ·have eg:A.eval (.tmp 43)=.bool (!true):=(Q00 rfl).1 (hdep 20 (by decide))
      exact Q0b (t:=43) rfl rfl eg ((Q00 rfl).2 rfl)
     refine ⟨fun A W hW hag hdep=>?_,?_⟩
     ·have e43:A.tmps[43]?.getD undef=.bool false:=Q03 ((Q00 rfl).1 (hdep 20 (by decide)))
      have e56:A.tmps[56]?.getD undef=undef:=Q03 ((Q00 rfl).1 (hdep 33 (by decide)))
      have eg:A.eval (.tmp 40)=.bool false:=(Q00 rfl).1 (hdep 17 (by decide))
      refine Q05 (t:=40) rfl rfl eg ?_
      refine Q01 (u:=.bool false) ?_ ((Q00 rfl).2 rfl)
      simp[go_sem,e43,e56]
     refine ⟨fun A W hW hag hdep=>?_,?_⟩
     ·have e40:A.tmps[40]?.getD undef=.bool false:=Q03 ((Q00 rfl).1 (hdep 17 (by decide)))
      have e57:A.tmps[57]?.getD undef=.bool false:=Q03 ((Q00 rfl).1 (hdep 34 (by decide)))
      refine Q02 rfl ?_
      refine Q01 (u:=.bool false) ?_ ((Q00 rfl).2 rfl)
      simp[go_sem,e40,e57]
     exact trivial
    intro vs W1 hW1 hvs
    have HB:=Lib.hid hW1
    have e35:vs 35=.bool false:=(Q00 rfl).1 (hvs 35 (by decide))
    simp only[Q18,Act.put,List.setIfInBounds_toArray,List.set_cons_zero,List.set_cons_succ,e35]
    clear hW1 hvs e35
    go_wp2_with fail
    exact ⟨Qey.next (Xo3 HA) hlt (Xo0 HA) (Xo1 HA) HO.out (fun j p h _=>absurd h (by omega)) (Below.next0 (Xo2 HA) HB.out),by simp only[intOf];omega⟩
   obtain ⟨j,hij⟩:∃j,i=j+1:=⟨i-1,by omega⟩
   have hjl0:j<ms.length:=by omega
   have hjl:(j:Int)<(ms.length:Int):=by omega
   have hwj:IntKind.i64.wrap ((i:Int)-1)=(j:Int):=by rw[IntKind.wrap_i64];omega
   obtain ⟨y,hy⟩:∃y,ms[j]?=some y:=⟨_,List.getElem?_eq_getElem hjl0⟩
   obtain ⟨aw2,lw2,cw2,ae2,le2,ce2,_,_,_,p3,_,he2,_,_⟩:=(hat j y hy).step (Xo2 HA) hb0
   obtain rfl:le2=le:=by
    have h1:=((Xo0 HA) j y (by omega) hy).1.1.1
    have h2:=hr.1.1
    have h3:=he2.len
    omega
   obtain ⟨cv,hcv0⟩:∃cv,Q25 y.es x.es=cv:=⟨_,rfl⟩
   have hord:∀W,Below wr.heap.size wr W->Qq4 W k b0 o0 i j x aw lw cw ae le2 ce ae2 ce2 cv:=fun W hW=>⟨hra W hW,(hW.cell (p:=⟨b0,o0+j*4+3,none⟩) hb0r).trans p3,by
    have h:=Q6h ae2 le2 ce2 y.es ae ce x.es W (he2.step hW) ((Xo4 HA).step hW)
    rw[hcv0] at h
    refine h.mono ?_
    rintro r w' ⟨h1,nk,rfl⟩
    exact ⟨h1,Q1i (Below.refl _ _) nk⟩⟩
   have HC:=Lib.hid (fun W hW=>And.intro (hord W hW) (hmt W hW))
   have HY:=Xh3 hij hy hcv0
   clear hra hmt hr hat hel hord hij hy hcv0 p3 he2
   by_cases hc:0<cv
   ·have HV1:=Lib.hid (show cv=1 by have:=Qb8 y.es x.es;rw[(Xe2 HY)] at this;omega)
    have HV:=Lib.hid hc
    clear hc
    refine Q0o (E:=Qfg) (fun _=>Below.refl _ _) (by kernel_rfl) (fun W=>Below wr.heap.size wr W) (fun _ _ h h'=>Below.next0 h h') (Q68 [.slice (some ⟨b0,o0,none⟩) ms.length c,.int .i64 (i:Int),.pointer (some ⟨b0,o0+i*4,none⟩),.agg #[.bool x.neg,.int .i64 x.exp,.slice aw lw cw,.slice ae le2 ce],.int .i64 (k:Int),.bool true,.bool false,.bool false,.slice (some ⟨b0,o0,none⟩) ms.length c,.int .i64 (i:Int),.pointer (some ⟨b0,o0+i*4,none⟩),.pointer (some ⟨b0,o0+i*4,none⟩),.pointer (some ⟨b0,o0+i*4+2,none⟩),.slice aw lw cw,.int .i64 (lw:Int),.bool false,.bool false,.bool false,.int .i64 (i:Int),.bool true,.bool true,.slice (some ⟨b0,o0,none⟩) ms.length c,.int .i64 (i:Int),.int .i64 (j:Int),.pointer (some ⟨b0,o0+j*4,none⟩),.pointer (some ⟨b0,o0+j*4+3,none⟩),.slice ae2 le2 ce2,.slice (some ⟨b0,o0,none⟩) ms.length c,.int .i64 (i:Int),.pointer (some ⟨b0,o0+i*4,none⟩),.pointer (some ⟨b0,o0+i*4+3,none⟩),.slice ae le2 ce,.int .i64 cv,.bool false,.bool false,.bool false] (Q5y [])) (Q0t (Q13 ((fun p hp=>by cases hp)))) (Q30 (by kernel_rfl)) (by kernel_rfl) (Q0a wr) ?_ ?_
    ·skip
     refine ⟨fun A W hW hag hdep=>?_,?_⟩
     ·have e0:A.tmps[0]?.getD undef=.slice (some ⟨b0,o0,none⟩) ms.length c:=Q03 (hag.keep (t:=0) (by kernel_rfl) rfl)
      refine Q02 rfl ?_
      refine Q01 (u:=.slice (some ⟨b0,o0,none⟩) ms.length c) ?_ ((Q00 rfl).2 rfl)
      simp[go_sem,e0]
     refine ⟨fun A W hW hag hdep=>?_,?_⟩
     ·have e5:A.tmps[5]?.getD undef=.int .i64 (i:Int):=Q03 (hag.keep (t:=5) (by kernel_rfl) rfl)
      refine Q02 rfl ?_
      refine Q01 (u:=.int .i64 (i:Int)) ?_ ((Q00 rfl).2 rfl)
      simp[go_sem,e5]
     refine ⟨fun A W hW hag hdep=>?_,?_⟩
     ·have e23:A.tmps[23]?.getD undef=.slice (some ⟨b0,o0,none⟩) ms.length c:=Q03 ((Q00 rfl).1 (hdep 0 (by decide)))
      have e24:A.tmps[24]?.getD undef=.int .i64 (i:Int):=Q03 ((Q00 rfl).1 (hdep 1 (by decide)))
      refine Q02 rfl ?_
      refine Q01 (u:=.pointer (some ⟨b0,o0+i*4,none⟩)) ?_ ((Q00 rfl).2 rfl)
      simp[go_sem,e23,e24,hlt']
     refine ⟨fun A W hW hag hdep=>?_,?_⟩
     ·have e25:A.tmps[25]?.getD undef=.pointer (some ⟨b0,o0+i*4,none⟩):=Q03 ((Q00 rfl).1 (hdep 2 (by decide)))
      refine Q02 rfl ?_
      refine Q01 (u:=.agg #[.bool x.neg,.int .i64 x.exp,.slice aw lw cw,.slice ae le2 ce]) ?_ ((Q00 rfl).2 rfl)
      simp[go_sem,e25,(HC.out W hW).1.c0,(HC.out W hW).1.c1,(HC.out W hW).1.c2,(HC.out W hW).1.c3]
     refine ⟨fun A W hW hag hdep=>?_,?_⟩
     ·have e1:A.tmps[1]?.getD undef=.int .i64 (k:Int):=Q03 (hag.keep (t:=1) (by kernel_rfl) rfl)
      refine Q02 rfl ?_
      refine Q01 (u:=.int .i64 (k:Int)) ?_ ((Q00 rfl).2 rfl)
      simp[go_sem,e1]
     refine ⟨fun A W hW hag hdep=>?_,?_⟩
     ·have e26:A.tmps[26]?.getD undef=.agg #[.bool x.neg,.int .i64 x.exp,.slice aw lw cw,.slice ae le2 ce]:=Q03 ((Q00 rfl).1 (hdep 3 (by decide)))
      have e27:A.tmps[27]?.getD undef=.int .i64 (k:Int):=Q03 ((Q00 rfl).1 (hdep 4 (by decide)))
      refine Q02 rfl ?_
      refine Q0q (f:=92) (args:= #[.agg #[.bool x.neg,.int .i64 x.exp,.slice aw lw cw,.slice ae le2 ce],.int .i64 (k:Int)]) (by simp[go_sem,e26,e27]) ((HC.out W hW).2.mono ?_)
      rintro e w2' ⟨rfl,hb'⟩
      exact ⟨_,rfl,hb',(Q00 rfl).2 rfl⟩
     refine ⟨fun A W hW hag hdep=>?_,?_⟩
     ·have e28:A.tmps[28]?.getD undef=.bool true:=Q03 ((Q00 rfl).1 (hdep 5 (by decide)))
      refine Q02 rfl ?_
      refine Q01 (u:=.bool false) ?_ ((Q00 rfl).2 rfl)
      simp[go_sem,e28]
     refine ⟨fun A W hW hag hdep=>?_,?_⟩
     ·have e29:A.tmps[29]?.getD undef=.bool false:=Q03 ((Q00 rfl).1 (hdep 6 (by decide)))
      refine Q02 rfl ?_
      refine Q01 (u:=.bool false) ?_ ((Q00 rfl).2 rfl)
      simp[go_sem,e29]
     refine ⟨fun A W hW hag hdep=>?_,?_⟩
     ·have e0:A.tmps[0]?.getD undef=.slice (some ⟨b0,o0,none⟩) ms.length c:=Q03 (hag.keep (t:=0) (by kernel_rfl) rfl)
      have eg:A.eval (.tmp 30)=.bool false:=(Q00 rfl).1 (hdep 7 (by decide))
      refine Q05 (t:=30) rfl rfl eg ?_
      refine Q01 (u:=.slice (some ⟨b0,o0,none⟩) ms.length c) ?_ ((Q00 rfl).2 rfl)
      simp[go_sem,e0]
     refine ⟨fun A W hW hag hdep=>?_,?_⟩
     ·have e5:A.tmps[5]?.getD undef=.int .i64 (i:Int):=Q03 (hag.keep (t:=5) (by kernel_rfl) rfl)
      have eg:A.eval (.tmp 30)=.bool false:=(Q00 rfl).1 (hdep 7 (by decide))
      refine Q05 (t:=30) rfl rfl eg ?_
      refine Q01 (u:=.int .i64 (i:Int)) ?_ ((Q00 rfl).2 rfl)
      simp[go_sem,e5]
     refine ⟨fun A W hW hag hdep=>?_,?_⟩
     ·have e31:A.tmps[31]?.getD undef=.slice (some ⟨b0,o0,none⟩) ms.length c:=Q03 ((Q00 rfl).1 (hdep 8 (by decide)))
      have e32:A.tmps[32]?.getD undef=.int .i64 (i:Int):=Q03 ((Q00 rfl).1 (hdep 9 (by decide)))
      have eg:A.eval (.tmp 30)=.bool false:=(Q00 rfl).1 (hdep 7 (by decide))
      refine Q05 (t:=30) rfl rfl eg ?_
      refine Q01 (u:=.pointer (some ⟨b0,o0+i*4,none⟩)) ?_ ((Q00 rfl).2 rfl)
      simp[go_sem,e31,e32,hlt']
     refine ⟨fun A W hW hag hdep=>?_,?_⟩
     ·have e33:A.tmps[33]?.getD undef=.pointer (some ⟨b0,o0+i*4,none⟩):=Q03 ((Q00 rfl).1 (hdep 10 (by decide)))
      have eg:A.eval (.tmp 30)=.bool false:=(Q00 rfl).1 (hdep 7 (by decide))
      refine Q05 (t:=30) rfl rfl eg ?_
      refine Q01 (u:=.pointer (some ⟨b0,o0+i*4,none⟩)) ?_ ((Q00 rfl).2 rfl)
      simp[go_sem,e33]
     refine ⟨fun A W hW hag hdep=>?_,?_⟩
     ·have e34:A.tmps[34]?.getD undef=.pointer (some ⟨b0,o0+i*4,none⟩):=Q03 ((Q00 rfl).1 (hdep 11 (by decide)))
      have eg:A.eval (.tmp 30)=.bool false:=(Q00 rfl).1 (hdep 7 (by decide))
      refine Q05 (t:=30) rfl rfl eg ?_
      refine Q01 (u:=.pointer (some ⟨b0,o0+i*4+2,none⟩)) ?_ ((Q00 rfl).2 rfl)
      simp[go_sem,e34]
     refine ⟨fun A W hW hag hdep=>?_,?_⟩
     ·have e35:A.tmps[35]?.getD undef=.pointer (some ⟨b0,o0+i*4+2,none⟩):=Q03 ((Q00 rfl).1 (hdep 12 (by decide)))
      have eg:A.eval (.tmp 30)=.bool false:=(Q00 rfl).1 (hdep 7 (by decide))
      refine Q05 (t:=30) rfl rfl eg ?_
      refine Q01 (u:=.slice aw lw cw) ?_ ((Q00 rfl).2 rfl)
      simp[go_sem,e35,(HC.out W hW).1.c2]
     refine ⟨fun A W hW hag hdep=>?_,?_⟩
     ·have e36:A.tmps[36]?.getD undef=.slice aw lw cw:=Q03 ((Q00 rfl).1 (hdep 13 (by decide)))
      have eg:A.eval (.tmp 30)=.bool false:=(Q00 rfl).1 (hdep 7 (by decide))
      refine Q05 (t:=30) rfl rfl eg ?_
      refine Q01 (u:=.int .i64 (lw:Int)) ?_ ((Q00 rfl).2 rfl)
      simp[go_sem,e36]
     refine ⟨fun A W hW hag hdep=>?_,?_⟩
     ·have e37:A.tmps[37]?.getD undef=.int .i64 (lw:Int):=Q03 ((Q00 rfl).1 (hdep 14 (by decide)))
      have eg:A.eval (.tmp 30)=.bool false:=(Q00 rfl).1 (hdep 7 (by decide))
      refine Q05 (t:=30) rfl rfl eg ?_
      refine Q01 (u:=.bool false) ?_ ((Q00 rfl).2 rfl)
      simp[go_sem,e37,hlw]
     refine ⟨fun A W hW hag hdep=>?_,?_⟩
     ·have e30:A.tmps[30]?.getD undef=.bool false:=Q03 ((Q00 rfl).1 (hdep 7 (by decide)))
      have e38:A.tmps[38]?.getD undef=.bool false:=Q03 ((Q00 rfl).1 (hdep 15 (by decide)))
      refine Q02 rfl ?_
      refine Q01 (u:=.bool false) ?_ ((Q00 rfl).2 rfl)
      simp[go_sem,e30,e38]
     refine ⟨fun A W hW hag hdep=>?_,?_⟩
     ·have e39:A.tmps[39]?.getD undef=.bool false:=Q03 ((Q00 rfl).1 (hdep 16 (by decide)))
      refine Q02 rfl ?_
      refine Q01 (u:=.bool false) ?_ ((Q00 rfl).2 rfl)
      simp[go_sem,e39]
     refine ⟨fun A W hW hag hdep=>?_,?_⟩
     ·have e5:A.tmps[5]?.getD undef=.int .i64 (i:Int):=Q03 (hag.keep (t:=5) (by kernel_rfl) rfl)
      have eg:A.eval (.tmp 40)=.bool false:=(Q00 rfl).1 (hdep 17 (by decide))
      refine Q05 (t:=40) rfl rfl eg ?_
      refine Q01 (u:=.int .i64 (i:Int)) ?_ ((Q00 rfl).2 rfl)
      simp[go_sem,e5]
     refine ⟨fun A W hW hag hdep=>?_,?_⟩
     ·have e41:A.tmps[41]?.getD undef=.int .i64 (i:Int):=Q03 ((Q00 rfl).1 (hdep 18 (by decide)))
      have eg:A.eval (.tmp 40)=.bool false:=(Q00 rfl).1 (hdep 17 (by decide))
      refine Q05 (t:=40) rfl rfl eg ?_
      refine Q01 (u:=.bool true) ?_ ((Q00 rfl).2 rfl)
      simp[go_sem,e41,hi0]
     refine ⟨fun A W hW hag hdep=>?_,?_⟩
     ·have e42:A.tmps[42]?.getD undef=.bool true:=Q03 ((Q00 rfl).1 (hdep 19 (by decide)))
      have eg:A.eval (.tmp 40)=.bool false:=(Q00 rfl).1 (hdep 17 (by decide))
      refine Q05 (t:=40) rfl rfl eg ?_
      refine Q01 (u:=.bool true) ?_ ((Q00 rfl).2 rfl)
      simp[go_sem,e42]
     refine ⟨fun A W hW hag hdep=>?_,?_⟩
     ·have e0:A.tmps[0]?.getD undef=.slice (some ⟨b0,o0,none⟩) ms.length c:=Q03 (hag.keep (t:=0) (by kernel_rfl) rfl)
      have eg:A.eval (.tmp 43)=.bool true:=(Q00 rfl).1 (hdep 20 (by decide))
      refine Q05 (t:=43) rfl rfl eg ?_
      refine Q01 (u:=.slice (some ⟨b0,o0,none⟩) ms.length c) ?_ ((Q00 rfl).2 rfl)
      simp[go_sem,e0]
     refine ⟨fun A W hW hag hdep=>?_,?_⟩
     ·have e5:A.tmps[5]?.getD undef=.int .i64 (i:Int):=Q03 (hag.keep (t:=5) (by kernel_rfl) rfl)
      have eg:A.eval (.tmp 43)=.bool true:=(Q00 rfl).1 (hdep 20 (by decide))
      refine Q05 (t:=43) rfl rfl eg ?_
      refine Q01 (u:=.int .i64 (i:Int)) ?_ ((Q00 rfl).2 rfl)
      simp[go_sem,e5]
     refine ⟨fun A W hW hag hdep=>?_,?_⟩
     ·have e45:A.tmps[45]?.getD undef=.int .i64 (i:Int):=Q03 ((Q00 rfl).1 (hdep 22 (by decide)))
      have eg:A.eval (.tmp 43)=.bool true:=(Q00 rfl).1 (hdep 20 (by decide))
      refine Q05 (t:=43) rfl rfl eg ?_
      refine Q01 (u:=.int .i64 (j:Int)) ?_ ((Q00 rfl).2 rfl)
      simp[go_sem,e45,hwj]
     refine ⟨fun A W hW hag hdep=>?_,?_⟩
     ·have e44:A.tmps[44]?.getD undef=.slice (some ⟨b0,o0,none⟩) ms.length c:=Q03 ((Q00 rfl).1 (hdep 21 (by decide)))
      have e46:A.tmps[46]?.getD undef=.int .i64 (j:Int):=Q03 ((Q00 rfl).1 (hdep 23 (by decide)))
      have eg:A.eval (.tmp 43)=.bool true:=(Q00 rfl).1 (hdep 20 (by decide))
      refine Q05 (t:=43) rfl rfl eg ?_
      refine Q01 (u:=.pointer (some ⟨b0,o0+j*4,none⟩)) ?_ ((Q00 rfl).2 rfl)
      simp[go_sem,e44,e46,hjl]
     refine ⟨fun A W hW hag hdep=>?_,?_⟩
     ·have e47:A.tmps[47]?.getD undef=.pointer (some ⟨b0,o0+j*4,none⟩):=Q03 ((Q00 rfl).1 (hdep 24 (by decide)))
      have eg:A.eval (.tmp 43)=.bool true:=(Q00 rfl).1 (hdep 20 (by decide))
      refine Q05 (t:=43) rfl rfl eg ?_
      refine Q01 (u:=.pointer (some ⟨b0,o0+j*4+3,none⟩)) ?_ ((Q00 rfl).2 rfl)
      simp[go_sem,e47]
     refine ⟨fun A W hW hag hdep=>?_,?_⟩
     ·have e48:A.tmps[48]?.getD undef=.pointer (some ⟨b0,o0+j*4+3,none⟩):=Q03 ((Q00 rfl).1 (hdep 25 (by decide)))
      have eg:A.eval (.tmp 43)=.bool true:=(Q00 rfl).1 (hdep 20 (by decide))
      refine Q05 (t:=43) rfl rfl eg ?_
      refine Q01 (u:=.slice ae2 le2 ce2) ?_ ((Q00 rfl).2 rfl)
      simp[go_sem,e48,(HC.out W hW).1.d3]
     refine ⟨fun A W hW hag hdep=>?_,?_⟩
     ·have e0:A.tmps[0]?.getD undef=.slice (some ⟨b0,o0,none⟩) ms.length c:=Q03 (hag.keep (t:=0) (by kernel_rfl) rfl)
      have eg:A.eval (.tmp 43)=.bool true:=(Q00 rfl).1 (hdep 20 (by decide))
      refine Q05 (t:=43) rfl rfl eg ?_
      refine Q01 (u:=.slice (some ⟨b0,o0,none⟩) ms.length c) ?_ ((Q00 rfl).2 rfl)
      simp[go_sem,e0]
     refine ⟨fun A W hW hag hdep=>?_,?_⟩
     ·have e5:A.tmps[5]?.getD undef=.int .i64 (i:Int):=Q03 (hag.keep (t:=5) (by kernel_rfl) rfl)
      have eg:A.eval (.tmp 43)=.bool true:=(Q00 rfl).1 (hdep 20 (by decide))
      refine Q05 (t:=43) rfl rfl eg ?_
      refine Q01 (u:=.int .i64 (i:Int)) ?_ ((Q00 rfl).2 rfl)
      simp[go_sem,e5]
     refine ⟨fun A W hW hag hdep=>?_,?_⟩
     ·have e50:A.tmps[50]?.getD undef=.slice (some ⟨b0,o0,none⟩) ms.length c:=Q03 ((Q00 rfl).1 (hdep 27 (by decide)))
      have e51:A.tmps[51]?.getD undef=.int .i64 (i:Int):=Q03 ((Q00 rfl).1 (hdep 28 (by decide)))
      have eg:A.eval (.tmp 43)=.bool true:=(Q00 rfl).1 (hdep 20 (by decide))
      refine Q05 (t:=43) rfl rfl eg ?_
      refine Q01 (u:=.pointer (some ⟨b0,o0+i*4,none⟩)) ?_ ((Q00 rfl).2 rfl)
      simp[go_sem,e50,e51,hlt']
     refine ⟨fun A W hW hag hdep=>?_,?_⟩
     ·have e52:A.tmps[52]?.getD undef=.pointer (some ⟨b0,o0+i*4,none⟩):=Q03 ((Q00 rfl).1 (hdep 29 (by decide)))
      have eg:A.eval (.tmp 43)=.bool true:=(Q00 rfl).1 (hdep 20 (by decide))
      refine Q05 (t:=43) rfl rfl eg ?_
      refine Q01 (u:=.pointer (some ⟨b0,o0+i*4+3,none⟩)) ?_ ((Q00 rfl).2 rfl)
      simp[go_sem,e52]
     refine ⟨fun A W hW hag hdep=>?_,?_⟩
     ·have e53:A.tmps[53]?.getD undef=.pointer (some ⟨b0,o0+i*4+3,none⟩):=Q03 ((Q00 rfl).1 (hdep 30 (by decide)))
      have eg:A.eval (.tmp 43)=.bool true:=(Q00 rfl).1 (hdep 20 (by decide))
      refine Q05 (t:=43) rfl rfl eg ?_
      refine Q01 (u:=.slice ae le2 ce) ?_ ((Q00 rfl).2 rfl)
      simp[go_sem,e53,(HC.out W hW).1.c3]
     refine ⟨fun A W hW hag hdep=>?_,?_⟩
     ·have e49:A.tmps[49]?.getD undef=.slice ae2 le2 ce2:=Q03 ((Q00 rfl).1 (hdep 26 (by decide)))
      have e54:A.tmps[54]?.getD undef=.slice ae le2 ce:=Q03 ((Q00 rfl).1 (hdep 31 (by decide)))
      have eg:A.eval (.tmp 43)=.bool true:=(Q00 rfl).1 (hdep 20 (by decide))
      refine Q05 (t:=43) rfl rfl eg ?_
      refine Q0q (f:=117) (args:= #[.slice ae2 le2 ce2,.slice ae le2 ce]) (by simp[go_sem,e49,e54]) (((HC.out W hW).1.ord).mono ?_)
      rintro e w2' ⟨rfl,hb'⟩
      exact ⟨_,rfl,hb',(Q00 rfl).2 rfl⟩
     refine ⟨fun A W hW hag hdep=>?_,?_⟩
     ·have e55:A.tmps[55]?.getD undef=.int .i64 cv:=Q03 ((Q00 rfl).1 (hdep 32 (by decide)))
      have eg:A.eval (.tmp 43)=.bool true:=(Q00 rfl).1 (hdep 20 (by decide))
      refine Q05 (t:=43) rfl rfl eg ?_
      refine Q01 (u:=.bool false) ?_ ((Q00 rfl).2 rfl)
      simp[go_sem,e55,HV1.out]
     refine ⟨fun A W hW hag hdep=>?_,?_⟩
     ·have e43:A.tmps[43]?.getD undef=.bool true:=Q03 ((Q00 rfl).1 (hdep 20 (by decide)))
      have e56:A.tmps[56]?.getD undef=.bool false:=Q03 ((Q00 rfl).1 (hdep 33 (by decide)))
      have eg:A.eval (.tmp 40)=.bool false:=(Q00 rfl).1 (hdep 17 (by decide))
      refine Q05 (t:=40) rfl rfl eg ?_
      refine Q01 (u:=.bool false) ?_ ((Q00 rfl).2 rfl)
      simp[go_sem,e43,e56]
     refine ⟨fun A W hW hag hdep=>?_,?_⟩
     ·have e40:A.tmps[40]?.getD undef=.bool false:=Q03 ((Q00 rfl).1 (hdep 17 (by decide)))
      have e57:A.tmps[57]?.getD undef=.bool false:=Q03 ((Q00 rfl).1 (hdep 34 (by decide)))
      refine Q02 rfl ?_
      refine Q01 (u:=.bool false) ?_ ((Q00 rfl).2 rfl)
      simp[go_sem,e40,e57]
     exact trivial
    intro vs W1 hW1 hvs
    have HB:=Lib.hid hW1
    have e35:vs 35=.bool false:=(Q00 rfl).1 (hvs 35 (by decide))
    simp only[Q18,Act.put,List.setIfInBounds_toArray,List.set_cons_zero,List.set_cons_succ,e35]
    clear hW1 hvs e35
    go_wp2_with fail
    refine ⟨Qey.next (Xo3 HA) hlt (Xo0 HA) (Xo1 HA) HO.out (fun j' p h hp=>?_) (Below.next0 (Xo2 HA) HB.out),by simp only[intOf];omega⟩
    have h1:=(Xo0 HY)
    obtain rfl:j'=j:=by omega
    rw[(Xo1 HY)] at hp
    injection hp with hp
    rw[<-hp,(Xe2 HY)];exact HV.out
   ·have HV1:=Lib.hid (show¬cv=1 by omega)
    have HV:=Lib.hid hc
    clear hc
    refine Q0o (E:=Qfg) (fun _=>Below.refl _ _) (by kernel_rfl) (fun W=>Below wr.heap.size wr W) (fun _ _ h h'=>Below.next0 h h') (Q68 [.slice (some ⟨b0,o0,none⟩) ms.length c,.int .i64 (i:Int),.pointer (some ⟨b0,o0+i*4,none⟩),.agg #[.bool x.neg,.int .i64 x.exp,.slice aw lw cw,.slice ae le2 ce],.int .i64 (k:Int),.bool true,.bool false,.bool false,.slice (some ⟨b0,o0,none⟩) ms.length c,.int .i64 (i:Int),.pointer (some ⟨b0,o0+i*4,none⟩),.pointer (some ⟨b0,o0+i*4,none⟩),.pointer (some ⟨b0,o0+i*4+2,none⟩),.slice aw lw cw,.int .i64 (lw:Int),.bool false,.bool false,.bool false,.int .i64 (i:Int),.bool true,.bool true,.slice (some ⟨b0,o0,none⟩) ms.length c,.int .i64 (i:Int),.int .i64 (j:Int),.pointer (some ⟨b0,o0+j*4,none⟩),.pointer (some ⟨b0,o0+j*4+3,none⟩),.slice ae2 le2 ce2,.slice (some ⟨b0,o0,none⟩) ms.length c,.int .i64 (i:Int),.pointer (some ⟨b0,o0+i*4,none⟩),.pointer (some ⟨b0,o0+i*4+3,none⟩),.slice ae le2 ce,.int .i64 cv,.bool true,.bool true,.bool true] (Q5y [])) (Q0t (Q13 ((fun p hp=>by cases hp)))) (Q30 (by kernel_rfl)) (by kernel_rfl) (Q0a wr) ?_ ?_
    ·skip
     refine ⟨fun A W hW hag hdep=>?_,?_⟩
     ·have e0:A.tmps[0]?.getD undef=.slice (some ⟨b0,o0,none⟩) ms.length c:=Q03 (hag.keep (t:=0) (by kernel_rfl) rfl)
      refine Q02 rfl ?_
      refine Q01 (u:=.slice (some ⟨b0,o0,none⟩) ms.length c) ?_ ((Q00 rfl).2 rfl)
      simp[go_sem,e0]
     refine ⟨fun A W hW hag hdep=>?_,?_⟩
     ·have e5:A.tmps[5]?.getD undef=.int .i64 (i:Int):=Q03 (hag.keep (t:=5) (by kernel_rfl) rfl)
      refine Q02 rfl ?_
      refine Q01 (u:=.int .i64 (i:Int)) ?_ ((Q00 rfl).2 rfl)
      simp[go_sem,e5]
     refine ⟨fun A W hW hag hdep=>?_,?_⟩
     ·have e23:A.tmps[23]?.getD undef=.slice (some ⟨b0,o0,none⟩) ms.length c:=Q03 ((Q00 rfl).1 (hdep 0 (by decide)))
      have e24:A.tmps[24]?.getD undef=.int .i64 (i:Int):=Q03 ((Q00 rfl).1 (hdep 1 (by decide)))
      refine Q02 rfl ?_
      refine Q01 (u:=.pointer (some ⟨b0,o0+i*4,none⟩)) ?_ ((Q00 rfl).2 rfl)
      simp[go_sem,e23,e24,hlt']
     refine ⟨fun A W hW hag hdep=>?_,?_⟩
     ·have e25:A.tmps[25]?.getD undef=.pointer (some ⟨b0,o0+i*4,none⟩):=Q03 ((Q00 rfl).1 (hdep 2 (by decide)))
      refine Q02 rfl ?_
      refine Q01 (u:=.agg #[.bool x.neg,.int .i64 x.exp,.slice aw lw cw,.slice ae le2 ce]) ?_ ((Q00 rfl).2 rfl)
      simp[go_sem,e25,(HC.out W hW).1.c0,(HC.out W hW).1.c1,(HC.out W hW).1.c2,(HC.out W hW).1.c3]
     refine ⟨fun A W hW hag hdep=>?_,?_⟩
     ·have e1:A.tmps[1]?.getD undef=.int .i64 (k:Int):=Q03 (hag.keep (t:=1) (by kernel_rfl) rfl)
      refine Q02 rfl ?_
      refine Q01 (u:=.int .i64 (k:Int)) ?_ ((Q00 rfl).2 rfl)
      simp[go_sem,e1]
     refine ⟨fun A W hW hag hdep=>?_,?_⟩
     ·have e26:A.tmps[26]?.getD undef=.agg #[.bool x.neg,.int .i64 x.exp,.slice aw lw cw,.slice ae le2 ce]:=Q03 ((Q00 rfl).1 (hdep 3 (by decide)))
      have e27:A.tmps[27]?.getD undef=.int .i64 (k:Int):=Q03 ((Q00 rfl).1 (hdep 4 (by decide)))
      refine Q02 rfl ?_
      refine Q0q (f:=92) (args:= #[.agg #[.bool x.neg,.int .i64 x.exp,.slice aw lw cw,.slice ae le2 ce],.int .i64 (k:Int)]) (by simp[go_sem,e26,e27]) ((HC.out W hW).2.mono ?_)
      rintro e w2' ⟨rfl,hb'⟩
      exact ⟨_,rfl,hb',(Q00 rfl).2 rfl⟩
     refine ⟨fun A W hW hag hdep=>?_,?_⟩
     ·have e28:A.tmps[28]?.getD undef=.bool true:=Q03 ((Q00 rfl).1 (hdep 5 (by decide)))
      refine Q02 rfl ?_
      refine Q01 (u:=.bool false) ?_ ((Q00 rfl).2 rfl)
      simp[go_sem,e28]
     refine ⟨fun A W hW hag hdep=>?_,?_⟩
     ·have e29:A.tmps[29]?.getD undef=.bool false:=Q03 ((Q00 rfl).1 (hdep 6 (by decide)))
      refine Q02 rfl ?_
      refine Q01 (u:=.bool false) ?_ ((Q00 rfl).2 rfl)
      simp[go_sem,e29]
     refine ⟨fun A W hW hag hdep=>?_,?_⟩
     ·have e0:A.tmps[0]?.getD undef=.slice (some ⟨b0,o0,none⟩) ms.length c:=Q03 (hag.keep (t:=0) (by kernel_rfl) rfl)
      have eg:A.eval (.tmp 30)=.bool false:=(Q00 rfl).1 (hdep 7 (by decide))
      refine Q05 (t:=30) rfl rfl eg ?_
      refine Q01 (u:=.slice (some ⟨b0,o0,none⟩) ms.length c) ?_ ((Q00 rfl).2 rfl)
      simp[go_sem,e0]
     refine ⟨fun A W hW hag hdep=>?_,?_⟩
     ·have e5:A.tmps[5]?.getD undef=.int .i64 (i:Int):=Q03 (hag.keep (t:=5) (by kernel_rfl) rfl)
      have eg:A.eval (.tmp 30)=.bool false:=(Q00 rfl).1 (hdep 7 (by decide))
      refine Q05 (t:=30) rfl rfl eg ?_
      refine Q01 (u:=.int .i64 (i:Int)) ?_ ((Q00 rfl).2 rfl)
      simp[go_sem,e5]
     refine ⟨fun A W hW hag hdep=>?_,?_⟩
     ·have e31:A.tmps[31]?.getD undef=.slice (some ⟨b0,o0,none⟩) ms.length c:=Q03 ((Q00 rfl).1 (hdep 8 (by decide)))
      have e32:A.tmps[32]?.getD undef=.int .i64 (i:Int):=Q03 ((Q00 rfl).1 (hdep 9 (by decide)))
      have eg:A.eval (.tmp 30)=.bool false:=(Q00 rfl).1 (hdep 7 (by decide))
      refine Q05 (t:=30) rfl rfl eg ?_
      refine Q01 (u:=.pointer (some ⟨b0,o0+i*4,none⟩)) ?_ ((Q00 rfl).2 rfl)
      simp[go_sem,e31,e32,hlt']
     refine ⟨fun A W hW hag hdep=>?_,?_⟩
     ·have e33:A.tmps[33]?.getD undef=.pointer (some ⟨b0,o0+i*4,none⟩):=Q03 ((Q00 rfl).1 (hdep 10 (by decide)))
      have eg:A.eval (.tmp 30)=.bool false:=(Q00 rfl).1 (hdep 7 (by decide))
      refine Q05 (t:=30) rfl rfl eg ?_
      refine Q01 (u:=.pointer (some ⟨b0,o0+i*4,none⟩)) ?_ ((Q00 rfl).2 rfl)
      simp[go_sem,e33]
     refine ⟨fun A W hW hag hdep=>?_,?_⟩
     ·have e34:A.tmps[34]?.getD undef=.pointer (some ⟨b0,o0+i*4,none⟩):=Q03 ((Q00 rfl).1 (hdep 11 (by decide)))
      have eg:A.eval (.tmp 30)=.bool false:=(Q00 rfl).1 (hdep 7 (by decide))
      refine Q05 (t:=30) rfl rfl eg ?_
      refine Q01 (u:=.pointer (some ⟨b0,o0+i*4+2,none⟩)) ?_ ((Q00 rfl).2 rfl)
      simp[go_sem,e34]
     refine ⟨fun A W hW hag hdep=>?_,?_⟩
     ·have e35:A.tmps[35]?.getD undef=.pointer (some ⟨b0,o0+i*4+2,none⟩):=Q03 ((Q00 rfl).1 (hdep 12 (by decide)))
      have eg:A.eval (.tmp 30)=.bool false:=(Q00 rfl).1 (hdep 7 (by decide))
      refine Q05 (t:=30) rfl rfl eg ?_
      refine Q01 (u:=.slice aw lw cw) ?_ ((Q00 rfl).2 rfl)
      simp[go_sem,e35,(HC.out W hW).1.c2]
     refine ⟨fun A W hW hag hdep=>?_,?_⟩
     ·have e36:A.tmps[36]?.getD undef=.slice aw lw cw:=Q03 ((Q00 rfl).1 (hdep 13 (by decide)))
      have eg:A.eval (.tmp 30)=.bool false:=(Q00 rfl).1 (hdep 7 (by decide))
      refine Q05 (t:=30) rfl rfl eg ?_
      refine Q01 (u:=.int .i64 (lw:Int)) ?_ ((Q00 rfl).2 rfl)
      simp[go_sem,e36]
     refine ⟨fun A W hW hag hdep=>?_,?_⟩
     ·have e37:A.tmps[37]?.getD undef=.int .i64 (lw:Int):=Q03 ((Q00 rfl).1 (hdep 14 (by decide)))
      have eg:A.eval (.tmp 30)=.bool false:=(Q00 rfl).1 (hdep 7 (by decide))
      refine Q05 (t:=30) rfl rfl eg ?_
      refine Q01 (u:=.bool false) ?_ ((Q00 rfl).2 rfl)
      simp[go_sem,e37,hlw]
     refine ⟨fun A W hW hag hdep=>?_,?_⟩
     ·have e30:A.tmps[30]?.getD undef=.bool false:=Q03 ((Q00 rfl).1 (hdep 7 (by decide)))
      have e38:A.tmps[38]?.getD undef=.bool false:=Q03 ((Q00 rfl).1 (hdep 15 (by decide)))
      refine Q02 rfl ?_
      refine Q01 (u:=.bool false) ?_ ((Q00 rfl).2 rfl)
      simp[go_sem,e30,e38]
     refine ⟨fun A W hW hag hdep=>?_,?_⟩
     ·have e39:A.tmps[39]?.getD undef=.bool false:=Q03 ((Q00 rfl).1 (hdep 16 (by decide)))
      refine Q02 rfl ?_
      refine Q01 (u:=.bool false) ?_ ((Q00 rfl).2 rfl)
      simp[go_sem,e39]
     refine ⟨fun A W hW hag hdep=>?_,?_⟩
     ·have e5:A.tmps[5]?.getD undef=.int .i64 (i:Int):=Q03 (hag.keep (t:=5) (by kernel_rfl) rfl)
      have eg:A.eval (.tmp 40)=.bool false:=(Q00 rfl).1 (hdep 17 (by decide))
      refine Q05 (t:=40) rfl rfl eg ?_
      refine Q01 (u:=.int .i64 (i:Int)) ?_ ((Q00 rfl).2 rfl)
      simp[go_sem,e5]
     refine ⟨fun A W hW hag hdep=>?_,?_⟩
     ·have e41:A.tmps[41]?.getD undef=.int .i64 (i:Int):=Q03 ((Q00 rfl).1 (hdep 18 (by decide)))
      have eg:A.eval (.tmp 40)=.bool false:=(Q00 rfl).1 (hdep 17 (by decide))
      refine Q05 (t:=40) rfl rfl eg ?_
      refine Q01 (u:=.bool true) ?_ ((Q00 rfl).2 rfl)
      simp[go_sem,e41,hi0]
     refine ⟨fun A W hW hag hdep=>?_,?_⟩
     ·have e42:A.tmps[42]?.getD undef=.bool true:=Q03 ((Q00 rfl).1 (hdep 19 (by decide)))
      have eg:A.eval (.tmp 40)=.bool false:=(Q00 rfl).1 (hdep 17 (by decide))
      refine Q05 (t:=40) rfl rfl eg ?_
      refine Q01 (u:=.bool true) ?_ ((Q00 rfl).2 rfl)
      simp[go_sem,e42]
     refine ⟨fun A W hW hag hdep=>?_,?_⟩
     ·have e0:A.tmps[0]?.getD undef=.slice (some ⟨b0,o0,none⟩) ms.length c:=Q03 (hag.keep (t:=0) (by kernel_rfl) rfl)
      have eg:A.eval (.tmp 43)=.bool true:=(Q00 rfl).1 (hdep 20 (by decide))
      refine Q05 (t:=43) rfl rfl eg ?_
      refine Q01 (u:=.slice (some ⟨b0,o0,none⟩) ms.length c) ?_ ((Q00 rfl).2 rfl)
      simp[go_sem,e0]
     refine ⟨fun A W hW hag hdep=>?_,?_⟩
     ·have e5:A.tmps[5]?.getD undef=.int .i64 (i:Int):=Q03 (hag.keep (t:=5) (by kernel_rfl) rfl)
      have eg:A.eval (.tmp 43)=.bool true:=(Q00 rfl).1 (hdep 20 (by decide))
      refine Q05 (t:=43) rfl rfl eg ?_
      refine Q01 (u:=.int .i64 (i:Int)) ?_ ((Q00 rfl).2 rfl)
      simp[go_sem,e5]
     refine ⟨fun A W hW hag hdep=>?_,?_⟩
     ·have e45:A.tmps[45]?.getD undef=.int .i64 (i:Int):=Q03 ((Q00 rfl).1 (hdep 22 (by decide)))
      have eg:A.eval (.tmp 43)=.bool true:=(Q00 rfl).1 (hdep 20 (by decide))
      refine Q05 (t:=43) rfl rfl eg ?_
      refine Q01 (u:=.int .i64 (j:Int)) ?_ ((Q00 rfl).2 rfl)
      simp[go_sem,e45,hwj]
     refine ⟨fun A W hW hag hdep=>?_,?_⟩
     ·have e44:A.tmps[44]?.getD undef=.slice (some ⟨b0,o0,none⟩) ms.length c:=Q03 ((Q00 rfl).1 (hdep 21 (by decide)))
      have e46:A.tmps[46]?.getD undef=.int .i64 (j:Int):=Q03 ((Q00 rfl).1 (hdep 23 (by decide)))
      have eg:A.eval (.tmp 43)=.bool true:=(Q00 rfl).1 (hdep 20 (by decide))
      refine Q05 (t:=43) rfl rfl eg ?_
      refine Q01 (u:=.pointer (some ⟨b0,o0+j*4,none⟩)) ?_ ((Q00 rfl).2 rfl)
      simp[go_sem,e44,e46,hjl]
     refine ⟨fun A W hW hag hdep=>?_,?_⟩
     ·have e47:A.tmps[47]?.getD undef=.pointer (some ⟨b0,o0+j*4,none⟩):=Q03 ((Q00 rfl).1 (hdep 24 (by decide)))
      have eg:A.eval (.tmp 43)=.bool true:=(Q00 rfl).1 (hdep 20 (by decide))
      refine Q05 (t:=43) rfl rfl eg ?_
      refine Q01 (u:=.pointer (some ⟨b0,o0+j*4+3,none⟩)) ?_ ((Q00 rfl).2 rfl)
      simp[go_sem,e47]
     refine ⟨fun A W hW hag hdep=>?_,?_⟩
     ·have e48:A.tmps[48]?.getD undef=.pointer (some ⟨b0,o0+j*4+3,none⟩):=Q03 ((Q00 rfl).1 (hdep 25 (by decide)))
      have eg:A.eval (.tmp 43)=.bool true:=(Q00 rfl).1 (hdep 20 (by decide))
      refine Q05 (t:=43) rfl rfl eg ?_
      refine Q01 (u:=.slice ae2 le2 ce2) ?_ ((Q00 rfl).2 rfl)
      simp[go_sem,e48,(HC.out W hW).1.d3]
     refine ⟨fun A W hW hag hdep=>?_,?_⟩
     ·have e0:A.tmps[0]?.getD undef=.slice (some ⟨b0,o0,none⟩) ms.length c:=Q03 (hag.keep (t:=0) (by kernel_rfl) rfl)
      have eg:A.eval (.tmp 43)=.bool true:=(Q00 rfl).1 (hdep 20 (by decide))
      refine Q05 (t:=43) rfl rfl eg ?_
      refine Q01 (u:=.slice (some ⟨b0,o0,none⟩) ms.length c) ?_ ((Q00 rfl).2 rfl)
      simp[go_sem,e0]
     refine ⟨fun A W hW hag hdep=>?_,?_⟩
     ·have e5:A.tmps[5]?.getD undef=.int .i64 (i:Int):=Q03 (hag.keep (t:=5) (by kernel_rfl) rfl)
      have eg:A.eval (.tmp 43)=.bool true:=(Q00 rfl).1 (hdep 20 (by decide))
      refine Q05 (t:=43) rfl rfl eg ?_
      refine Q01 (u:=.int .i64 (i:Int)) ?_ ((Q00 rfl).2 rfl)
      simp[go_sem,e5]
     refine ⟨fun A W hW hag hdep=>?_,?_⟩
     ·have e50:A.tmps[50]?.getD undef=.slice (some ⟨b0,o0,none⟩) ms.length c:=Q03 ((Q00 rfl).1 (hdep 27 (by decide)))
      have e51:A.tmps[51]?.getD undef=.int .i64 (i:Int):=Q03 ((Q00 rfl).1 (hdep 28 (by decide)))
      have eg:A.eval (.tmp 43)=.bool true:=(Q00 rfl).1 (hdep 20 (by decide))
      refine Q05 (t:=43) rfl rfl eg ?_
      refine Q01 (u:=.pointer (some ⟨b0,o0+i*4,none⟩)) ?_ ((Q00 rfl).2 rfl)
      simp[go_sem,e50,e51,hlt']
     refine ⟨fun A W hW hag hdep=>?_,?_⟩
     ·have e52:A.tmps[52]?.getD undef=.pointer (some ⟨b0,o0+i*4,none⟩):=Q03 ((Q00 rfl).1 (hdep 29 (by decide)))
      have eg:A.eval (.tmp 43)=.bool true:=(Q00 rfl).1 (hdep 20 (by decide))
      refine Q05 (t:=43) rfl rfl eg ?_
      refine Q01 (u:=.pointer (some ⟨b0,o0+i*4+3,none⟩)) ?_ ((Q00 rfl).2 rfl)
      simp[go_sem,e52]
     refine ⟨fun A W hW hag hdep=>?_,?_⟩
     ·have e53:A.tmps[53]?.getD undef=.pointer (some ⟨b0,o0+i*4+3,none⟩):=Q03 ((Q00 rfl).1 (hdep 30 (by decide)))
      have eg:A.eval (.tmp 43)=.bool true:=(Q00 rfl).1 (hdep 20 (by decide))
      refine Q05 (t:=43) rfl rfl eg ?_
      refine Q01 (u:=.slice ae le2 ce) ?_ ((Q00 rfl).2 rfl)
      simp[go_sem,e53,(HC.out W hW).1.c3]
     refine ⟨fun A W hW hag hdep=>?_,?_⟩
     ·have e49:A.tmps[49]?.getD undef=.slice ae2 le2 ce2:=Q03 ((Q00 rfl).1 (hdep 26 (by decide)))
      have e54:A.tmps[54]?.getD undef=.slice ae le2 ce:=Q03 ((Q00 rfl).1 (hdep 31 (by decide)))
      have eg:A.eval (.tmp 43)=.bool true:=(Q00 rfl).1 (hdep 20 (by decide))
      refine Q05 (t:=43) rfl rfl eg ?_
      refine Q0q (f:=117) (args:= #[.slice ae2 le2 ce2,.slice ae le2 ce]) (by simp[go_sem,e49,e54]) (((HC.out W hW).1.ord).mono ?_)
      rintro e w2' ⟨rfl,hb'⟩
      exact ⟨_,rfl,hb',(Q00 rfl).2 rfl⟩
     refine ⟨fun A W hW hag hdep=>?_,?_⟩
     ·have e55:A.tmps[55]?.getD undef=.int .i64 cv:=Q03 ((Q00 rfl).1 (hdep 32 (by decide)))
      have eg:A.eval (.tmp 43)=.bool true:=(Q00 rfl).1 (hdep 20 (by decide))
      refine Q05 (t:=43) rfl rfl eg ?_
      refine Q01 (u:=.bool true) ?_ ((Q00 rfl).2 rfl)
      simp[go_sem,e55,HV1.out]
     refine ⟨fun A W hW hag hdep=>?_,?_⟩
     ·have e43:A.tmps[43]?.getD undef=.bool true:=Q03 ((Q00 rfl).1 (hdep 20 (by decide)))
      have e56:A.tmps[56]?.getD undef=.bool true:=Q03 ((Q00 rfl).1 (hdep 33 (by decide)))
      have eg:A.eval (.tmp 40)=.bool false:=(Q00 rfl).1 (hdep 17 (by decide))
      refine Q05 (t:=40) rfl rfl eg ?_
      refine Q01 (u:=.bool true) ?_ ((Q00 rfl).2 rfl)
      simp[go_sem,e43,e56]
     refine ⟨fun A W hW hag hdep=>?_,?_⟩
     ·have e40:A.tmps[40]?.getD undef=.bool false:=Q03 ((Q00 rfl).1 (hdep 17 (by decide)))
      have e57:A.tmps[57]?.getD undef=.bool true:=Q03 ((Q00 rfl).1 (hdep 34 (by decide)))
      refine Q02 rfl ?_
      refine Q01 (u:=.bool true) ?_ ((Q00 rfl).2 rfl)
      simp[go_sem,e40,e57]
     exact trivial
    intro vs W1 hW1 hvs
    have HB:=Lib.hid hW1
    have e35:vs 35=.bool true:=(Q00 rfl).1 (hvs 35 (by decide))
    simp only[Q18,Act.put,List.setIfInBounds_toArray,List.set_cons_zero,List.set_cons_succ,e35]
    clear hW1 hvs e35
    go_wp2_with fail
    go_ret
    refine ⟨Q2x.no (fun h=>?_) rfl,Below.next0 (Xo2 HA) HB.out⟩
    have hpw:=h.2.2.2.2
    rw[List.pairwise_iff_getElem] at hpw
    have h1:=(Xo0 HY)
    have h1:=hpw j i (by omega) hlt (by omega)
    have e1:=(List.getElem?_eq_some_iff.1 (Xo1 HY)).2
    have e2:=(List.getElem?_eq_some_iff.1 (Xo3 HA)).2
    rw[e1,e2,(Xe2 HY)] at h1
    have h2:=HV.out
    omega
  ·obtain rfl:i=ms.length:=by omega
   have hlt':¬((ms.length:Int)<(ms.length:Int)):=by omega
   have hall:Q10 k ms:=⟨h1,h4,h24,fun m hm=>by
    obtain ⟨j,hj⟩:=List.mem_iff_getElem?.1 hm
    exact hok j m (List.getElem?_eq_some_iff.1 hj).1 hj,Q5v ms fun j p q hp hq=>hadj j p q (List.getElem?_eq_some_iff.1 hq).1 hp hq⟩
   have HF:=Xh2 hall hbr
   clear hall hbr hok hadj
   go_wp2_with fail
   go_ret
   exact ⟨Q2x.yes (Xo0 HF) rfl,(Xe1 HF)⟩
theorem Q8b (a:Option Addr) (n c:Nat) (F:List (List Q04)) (w:World) (h:Q2r w a n c F):
 Calls Tryz.prog 35 #[.slice a n c] w fun r w'=>Q2x (Q1y F) r/\Below w.heap.size w w':=by
 have hln:=h.1
 subst hln
 have hcm:=Nat.le_trans h.2.1 h.2.2.1
 have HM:=Lib.hid h
 clear h
 go_enter Tryz.func35,Tryz.ntmps35
 go_wp2_with fail
 go_loopw [3] (fun iv wr=>∃i:Nat,iv=.int .i64 (i:Int)/\i<=F.length/\i<=4/\(∀j ms,j<i->F[j]?=some ms->Q10 F.length ms)/\Below w.heap.size w wr) (fun iv _=>4-(intOf iv).toNat)
 case atStart=>exact ⟨0,rfl,Nat.zero_le _,by decide,fun j m h=>absurd h (Nat.not_lt_zero _),Below.refl _ _⟩
 case round=>
  obtain ⟨i,rfl,hi,hi4,hok,hb⟩:=hrel
  by_cases hlt:i<F.length/\i<4
  ·obtain ⟨hl1,hl4⟩:=hlt
   have hlt':(i:Int)<(F.length:Int):=by omega
   have hlt4:(i:Int)<4:=by omega
   obtain ⟨ms,hm⟩:∃ms,F[i]?=some ms:=⟨_,List.getElem?_eq_getElem hl1⟩
   obtain ⟨b0,o0,rfl,hb0,hat⟩:∃b o,a=some ⟨b,o,none⟩/\b<wr.heap.size/\∀j ms,F[j]?=some ms->∃p l d,wr.cell? ⟨b,o+j,none⟩=some (.slice p l d)/\Q0e wr p l d ms:=by
    rcases (HM.out.step hb).2.2.2 with h0|h0
    ·rw[h0] at hl1;simp at hl1
    ·exact h0
   obtain ⟨p,l,d,hcx,hms⟩:=hat i ms hm
   have hpr:=Qcl p l d ms F.length wr hms hcm
   have HA:=Xh4 hok hb hm hpr
   clear hok hb hm hpr hat hms
   by_cases hr:Q10 F.length ms
   ·have hpr:Calls Tryz.prog 71 #[.slice p l d,.int .i64 (F.length:Int)] wr fun r w'=>r=.returned (.bool true)/\Below wr.heap.size wr w':=(Xe3 HA).mono (by
     rintro r w' ⟨⟨b,rfl,hbb⟩,hb'⟩
     rw[hbb.2 hr];exact ⟨rfl,hb'⟩)
    have HR:=Xh2 hpr hr
    clear hpr hr
    go_wp2_with (go_at_call 71;refine (Xo0 HR).mono ?_;rintro r w1 ⟨rfl,hb1⟩;have HB1:=Lib.hid hb1;clear hb1)
    refine ⟨⟨i+1,congrArg (Value.int .i64) (by omega),by omega,by omega,fun j x hj hx=>?_,Below.next0 (Xo1 HA) HB1.out⟩,by simp only[intOf];omega⟩
    by_cases hji:j=i
    ·subst hji
     have:=(Xo2 HA)
     rw[hx] at this
     injection this with this
     rw[this];exact (Xe1 HR)
    ·exact (Xo0 HA) j x (by omega) hx
   ·have hpr:Calls Tryz.prog 71 #[.slice p l d,.int .i64 (F.length:Int)] wr fun r w'=>r=.returned (.bool false)/\Below wr.heap.size wr w':=(Xe3 HA).mono (by
     rintro r w' ⟨⟨b,rfl,hbb⟩,hb'⟩
     cases b
     ·exact ⟨rfl,hb'⟩
     ·exact absurd (hbb.1 rfl) hr)
    have hno:¬Q1y F:=fun h=>hr (h.2.2 ms (List.mem_of_getElem? (Xo2 HA)))
    have HR:=Xh2 hpr hno
    clear hpr hr hno
    go_wp2_with (go_at_call 71;refine (Xo0 HR).mono ?_;rintro r w1 ⟨rfl,hb1⟩;have HB1:=Lib.hid hb1;clear hb1)
    go_ret
    exact ⟨Q2x.no (Xe1 HR) rfl,Below.next0 (Xo1 HA) HB1.out⟩
  ·have HF:=Xh3 hb hok hlt
   clear hb hok hlt
   by_cases hl1:i<F.length
   ·have h4:¬(i:Int)<4:=by have:=(Xe2 HF);omega
    have hl1':(i:Int)<(F.length:Int):=by omega
    have k4:¬(F.length:Int)<=4:=by omega
    have k1:(0:Int)<(F.length:Int):=by omega
    go_wp2_with fail
    go_ret
    exact ⟨Q2x.no (fun h=>by have:=h.2.1;have:=(Xe2 HF);omega) rfl,(Xo0 HF)⟩
   ·have hie:i=F.length:=by omega
    have hl1':¬(i:Int)<(F.length:Int):=by omega
    have k4:(F.length:Int)<=4:=by omega
    have HE:=Lib.hid hie
    clear hie
    by_cases h0:F.length=0
    ·have k0:¬(0:Int)<(F.length:Int):=by omega
     have HZ:=Lib.hid h0
     clear h0
     go_wp2_with fail
     go_ret
     exact ⟨Q2x.no (fun h=>by have:=h.1;have:=HZ.out;omega) rfl,(Xo0 HF)⟩
    ·have k0:(0:Int)<(F.length:Int):=by omega
     have HZ:=Lib.hid h0
     clear h0
     go_wp2_with fail
     go_ret
     refine ⟨Q2x.yes ⟨by have:=HZ.out;omega,by omega,fun ms hm=>?_⟩ rfl,(Xo0 HF)⟩
     obtain ⟨j,hj⟩:=List.mem_iff_getElem?.1 hm
     exact (Xo1 HF) j ms (by have:=(List.getElem?_eq_some_iff.1 hj).1;have:=HE.out;omega) hj
end Go.Proofs.YtdilmfakkppgpaaGreatDoor
