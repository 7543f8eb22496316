/- Part 34 of the proof of LawParseBack: SameA, SameB, SameC, ParseBackW. Condition: as each theorem says; none at the end. -/
import Derived.Test.YtdilmfakkppgpaaGreatDoorPkParseBack06
import Derived.Test.YtdilmfakkppgpaaGreatDoorPkParseBack27
import Derived.Test.YtdilmfakkppgpaaGreatDoorPkParseBack33
import Derived.Test.YtdilmfakkppgpaaGreatDoorPkParseBack01
set_option maxRecDepth 100000
set_option maxHeartbeats 16000000
namespace Go.Proofs.YtdilmfakkppgpaaGreatDoor
open Go.RowKit WordsM
theorem Qfi (m:Q04) (aw:Option Addr) (lw cw:Nat) (ae:Option Addr) (le ce:Nat) (bw:Option Addr) (mw dw:Nat) (be:Option Addr) (me de:Nat) (w:World) (h1:WordsIn w aw lw cw m.ws) (h2:WordsIn w bw mw dw m.ws) (e1:Q0h w ae le ce m.es) (e2:Q0h w be me de m.es) (h0:m.es≠[]):
 Calls Tryz.prog 108 #[.agg #[.bool m.neg,.int .i64 m.exp,.slice aw lw cw,.slice ae le ce],.agg #[.bool m.neg,.int .i64 m.exp,.slice bw mw dw,.slice be me de]] w fun e w'=>e=.returned (.bool true)∧Below w.heap.size w w':=by
 obtain ⟨W,hW⟩:∃W,(w.alloc (.cells #[.bool m.neg,.int .i64 m.exp,.slice aw lw cw,.slice ae le ce] 44)).alloc (.cells #[.bool m.neg,.int .i64 m.exp,.slice bw mw dw,.slice be me de] 44)=W:=⟨_,rfl⟩
 have hs1:=World.size_alloc w (.cells #[.bool m.neg,.int .i64 m.exp,.slice aw lw cw,.slice ae le ce] 44)
 have hb:Below w.heap.size w W:=by rw[←hW];exact ((Below.refl _ _).alloc (Nat.le_refl _) _).alloc (by rw[hs1];omega) _
 have hx:=(Q2d.new w (.bool m.neg) (.int .i64 m.exp) (.slice aw lw cw) (.slice ae le ce) 44).step ((Below.refl _ _).alloc (Nat.le_refl _) (.cells #[.bool m.neg,.int .i64 m.exp,.slice bw mw dw,.slice be me de] 44)) (Q0f _ _)
 have hy:=Q2d.new (w.alloc (.cells #[.bool m.neg,.int .i64 m.exp,.slice aw lw cw,.slice ae le ce] 44)) (.bool m.neg) (.int .i64 m.exp) (.slice bw mw dw) (.slice be me de) 44
 rw[hW] at hx hy
 rw[hs1] at hy
 have hlx:w.heap.size+1<W.heap.size:=block_lt_of_cell hy.c0
 have x0:=hx.c0
 have x1:=hx.c1
 have x2:=hx.c2
 have y0:=hy.c0
 have y1:=hy.c1
 have y2:=hy.c2
 have hns:=Q9f m.neg m.exp aw lw cw m.ws m.neg m.exp bw mw dw m.ws W (h1.step hb) (h2.step hb) (Nat.le_trans h1.cap h1.most)
 rw[decide_eq_true ⟨rfl,rfl,rfl⟩] at hns
 obtain ⟨b1,o1,rfl,hb1,hc1⟩:∃b o,ae=some ⟨b,o,none⟩∧b<w.heap.size∧∀(j:Nat) x,m.es[j]?=some x→w.cell? ⟨b,o+j,none⟩=some (.int .i64 x):=by
  rcases e1.rd with h|h
  ·exact absurd h h0
  ·exact h
 obtain ⟨b2,o2,rfl,hb2,hc2⟩:∃b o,be=some ⟨b,o,none⟩∧b<w.heap.size∧∀(j:Nat) x,m.es[j]?=some x→w.cell? ⟨b,o+j,none⟩=some (.int .i64 x):=by
  rcases e2.rd with h|h
  ·exact absurd h h0
  ·exact h
 have heq:∀V,Below w.heap.size w V→Calls Tryz.prog 109 #[.slice (some ⟨b1,o1,none⟩) le ce,.slice (some ⟨b2,o2,none⟩) me de] V fun e w'=>e=.returned (.bool true)∧∃q,w'=V.drewN q:=fun V hV=>by
  have:=Tryz.Qvf b1 o1 le ce b2 o2 me de m.es m.es V (Nat.le_of_eq e1.len.symm) (Nat.le_of_eq e2.len.symm) (Nat.le_trans e1.cap e1.most) (Nat.le_trans e2.cap e2.most) (fun j hj=>(hV.cell (p:=⟨b1,o1+j,none⟩) hb1).trans (by rw[List.getD_eq_getElem?_getD,List.getElem?_eq_getElem hj];exact hc1 j _ (List.getElem?_eq_getElem hj))) (fun j hj=>(hV.cell (p:=⟨b2,o2+j,none⟩) hb2).trans (by rw[List.getD_eq_getElem?_getD,List.getElem?_eq_getElem hj];exact hc2 j _ (List.getElem?_eq_getElem hj)))
  rw[show (m.es.take le==m.es.take me)=true by rw[←e1.len,←e2.len];simp] at this
  exact this
 have H:=Xh7 hx hy (e1.step hb) (e2.step hb) heq hb hlx
 clear hx hy e1 e2 h0 hb hlx h1 h2 heq hc1 hc2 hb1 hb2
 go_enter Tryz.func108,Tryz.ntmps108
 go_wp2_with (first
  |(go_at_call 109
    refine heq.mono ?_
    rintro r w4 ⟨rfl,q,rfl⟩)
  |(go_at_call 19
    refine hns.mono ?_
    rintro r w3 ⟨rfl,hb3⟩
    have hl:=(Xe6 H)
    have x3:=((Xo0 H).step hb3 (by omega)).c3
    have y3:=((Xo1 H).step hb3 (by omega)).c3
    have heq:=(Xo4 H) w3 (Below.next0 (Xo5 H) hb3)
    have H3:=Lib.hid hb3
    clear hb3 hns hl))
 go_ret
 first
  |exact ⟨rfl,Q12 (Below.next0 (Xo5 H) H3.out) _⟩
  |exact ⟨rfl,.bool true,by simp[results,go_sem],rfl,Q12 (Below.next0 (Xo5 H) H3.out) _⟩
theorem Qco (a b:Option Addr) (n c d:Nat) (ms:List Q04) (w:World) (h1:Q0b w a n c ms) (h2:Q0b w b n d ms) (h0:∀m∈ms,m.es≠[]):
 Calls Tryz.prog 107 #[.slice a n c,.slice b n d,.func (.func 108) #[] #[]] w fun e w'=>e=.returned (.bool true)∧Below w.heap.size w w':=by
 have hln:=h1.1
 have hcm:=Nat.le_trans h1.2.1 h1.2.2.1
 have H:=Xh3 h1 h2 h0
 clear h1 h2 h0
 go_enter Tryz.func107,Tryz.ntmps107
 go_wp2_with fail
 go_loopw [17] (fun s17 wr=>∃i:Nat,s17=.int .i64 (i:Int)∧i≤n∧Below w.heap.size w wr) (fun iv _=>n-(intOf iv).toNat)
 case atStart=>exact ⟨0,rfl,Nat.zero_le _,Below.refl _ _⟩
 case round=>
  obtain ⟨i,rfl,hi,hbr⟩:=hrel
  by_cases hlt:i<n
  ·have hlt':(i:Int)<(n:Int):=by omega
   obtain ⟨x,hx⟩:∃x,ms[i]?=some x:=⟨_,List.getElem?_eq_getElem (by omega)⟩
   obtain ⟨b1,o1,rfl,hb1,hat1⟩:∃b o,a=some ⟨b,o,none⟩∧b<w.heap.size∧∀j m,ms[j]?=some m→Q3h w b (o+j*4) m:=by
    rcases (Xo0 H).2.2.2 with h0|h0
    ·rw[h0] at hx;simp at hx
    ·exact h0
   obtain ⟨b2,o2,rfl,hb2,hat2⟩:∃b' o,b=some ⟨b',o,none⟩∧b'<w.heap.size∧∀j m,ms[j]?=some m→Q3h w b' (o+j*4) m:=by
    rcases (Xo1 H).2.2.2 with h0|h0
    ·rw[h0] at hx;simp at hx
    ·exact h0
   obtain ⟨aw,lw,cw,ae,le,ce,k0,k1,k2,k3,hw,he,_,_⟩:=hat1 i x hx
   obtain ⟨bw,mw,dw,be,me,de,l0,l1,l2,l3,hw2,he2,_,_⟩:=hat2 i x hx
   have k0:=(hbr.cell (p:=⟨b1,o1+i*4,none⟩) hb1).trans k0
   have k1:=(hbr.cell (p:=⟨b1,o1+i*4+1,none⟩) hb1).trans k1
   have k2:=(hbr.cell (p:=⟨b1,o1+i*4+2,none⟩) hb1).trans k2
   have k3:=(hbr.cell (p:=⟨b1,o1+i*4+3,none⟩) hb1).trans k3
   obtain ⟨W1,hW1⟩:∃W1,wr.alloc (.cells #[.bool x.neg,.int .i64 x.exp,.slice aw lw cw,.slice ae le ce] 44)=W1:=⟨_,rfl⟩
   have hs1:W1.heap.size=wr.heap.size+1:=by rw[←hW1];exact World.size_alloc _ _
   have hbw1:Below wr.heap.size wr W1:=by rw[←hW1];exact (Below.refl _ _).alloc (Nat.le_refl _) _
   have hx1:=Q2d.new wr (.bool x.neg) (.int .i64 x.exp) (.slice aw lw cw) (.slice ae le ce) 44
   rw[hW1] at hx1
   have hb1w:=Below.next0 hbr hbw1
   have l0:=(hb1w.cell (p:=⟨b2,o2+i*4,none⟩) hb2).trans l0
   have l1:=(hb1w.cell (p:=⟨b2,o2+i*4+1,none⟩) hb2).trans l1
   have l2:=(hb1w.cell (p:=⟨b2,o2+i*4+2,none⟩) hb2).trans l2
   have l3:=(hb1w.cell (p:=⟨b2,o2+i*4+3,none⟩) hb2).trans l3
   obtain ⟨W2,hW2⟩:∃W2,W1.alloc (.cells #[.bool x.neg,.int .i64 x.exp,.slice bw mw dw,.slice be me de] 44)=W2:=⟨_,rfl⟩
   have hbw2:Below W1.heap.size W1 W2:=by rw[←hW2];exact (Below.refl _ _).alloc (Nat.le_refl _) _
   have hx2:=Q2d.new W1 (.bool x.neg) (.int .i64 x.exp) (.slice bw mw dw) (.slice be me de) 44
   rw[hW2] at hx2
   have hx1:=hx1.step hbw2 (by omega)
   rw[hs1] at hx2
   have hb2w:=Below.next0 hb1w hbw2
   have p0:=hx1.c0
   have p1:=hx1.c1
   have p2:=hx1.c2
   have p3:=hx1.c3
   have r0:=hx2.c0
   have r1:=hx2.c1
   have r2:=hx2.c2
   have r3:=hx2.c3
   have hsm:=Qfi x aw lw cw ae le ce bw mw dw be me de W2 (hw.step hb2w) (hw2.step hb2w) (he.step hb2w) (he2.step hb2w) ((Xe2 H) x (List.mem_of_getElem? hx))
   have HS:=Lib.hid hb2w
   clear hbr hbw1 hb1w hbw2 hb2w hat1 hat2 hw he hw2 he2 hx1 hx2 hx
   go_wp2_with (go_at_call 108;refine hsm.mono ?_;rintro r w3 ⟨rfl,hb3⟩;have H3:=Lib.hid hb3;clear hb3)
   exact ⟨⟨i+1,congrArg (Value.int .i64) (by omega),by omega,Below.next0 HS.out H3.out⟩,by simp only[intOf];omega⟩
  ·have hlt':¬(i:Int)<(n:Int):=by omega
   have HS:=Lib.hid hbr
   clear hbr
   go_wp2_with fail
   go_ret
   exact ⟨rfl,HS.out⟩
theorem Qfj (a b:Option Addr) (n c d:Nat) (ms:List Q04) (w:World) (h1:Q0b w a n c ms) (h2:Q0b w b n d ms) (h0:∀m∈ms,m.es≠[]):
 Calls Tryz.prog 65 #[.slice a n c,.slice b n d] w fun e w'=>e=.returned (.bool true)∧Below w.heap.size w w':=by
 have hc:=Qco a b n c d ms w h1 h2 h0
 clear h1 h2 h0
 go_enter Tryz.func65,Tryz.ntmps65
 go_wp2_with (refine hc.mono ?_;rintro r w3 ⟨rfl,hb3⟩)
 go_ret
 exact ⟨rfl,hb3⟩
theorem Qcp (a b:Option Addr) (n c d:Nat) (F:List (List Q04)) (w:World) (h1:Q28 w a n c F) (h2:Q28 w b n d F) (h0:∀ms∈F,∀m∈ms,m.es≠[]):
 Calls Tryz.prog 29 #[.slice a n c,.slice b n d] w fun e w'=>e=.returned (.bool true)∧Below w.heap.size w w':=by
 have hln:=h1.1
 have hcm:=Nat.le_trans h1.2.1 h1.2.2.1
 have H:=Xh3 h1 h2 h0
 clear h1 h2 h0
 go_enter Tryz.func29,Tryz.ntmps29
 go_wp2_with fail
 go_loopw [13] (fun s13 wr=>∃i:Nat,s13=.int .i64 (i:Int)∧i≤n∧Below w.heap.size w wr) (fun iv _=>n-(intOf iv).toNat)
 case atStart=>exact ⟨0,rfl,Nat.zero_le _,Below.refl _ _⟩
 case round=>
  obtain ⟨i,rfl,hi,hbr⟩:=hrel
  by_cases hlt:i<n
  ·have hlt':(i:Int)<(n:Int):=by omega
   obtain ⟨ms,hx⟩:∃ms,F[i]?=some ms:=⟨_,List.getElem?_eq_getElem (by omega)⟩
   obtain ⟨b1,o1,rfl,hb1,hat1⟩:∃b o,a=some ⟨b,o,none⟩∧b<w.heap.size∧∀j ms,F[j]?=some ms→∃p l d,w.cell? ⟨b,o+j,none⟩=some (.slice p l d)∧Q0b w p l d ms:=by
    rcases (Xo0 H).2.2.2 with h0|h0
    ·rw[h0] at hx;simp at hx
    ·exact h0
   obtain ⟨b2,o2,rfl,hb2,hat2⟩:∃b' o,b=some ⟨b',o,none⟩∧b'<w.heap.size∧∀j ms,F[j]?=some ms→∃p l d,w.cell? ⟨b',o+j,none⟩=some (.slice p l d)∧Q0b w p l d ms:=by
    rcases (Xo1 H).2.2.2 with h0|h0
    ·rw[h0] at hx;simp at hx
    ·exact h0
   obtain ⟨p,l,dd,k0,hm1⟩:=hat1 i ms hx
   obtain ⟨p2,l2,d2,k1,hm2⟩:=hat2 i ms hx
   obtain rfl:l2=l:=by rw[←hm1.1,←hm2.1]
   have hC:∀W,Below wr.heap.size wr W→W.cell? ⟨b1,o1+i,none⟩=some (.slice p l2 dd)∧W.cell? ⟨b2,o2+i,none⟩=some (.slice p2 l2 d2)∧Calls Tryz.prog 65 #[.slice p l2 dd,.slice p2 l2 d2] W fun e w'=>e=.returned (.bool true)∧Below W.heap.size W w':=fun W hW=>by
    have hB:=Below.next0 hbr hW
    exact ⟨(hB.cell (p:=⟨b1,o1+i,none⟩) hb1).trans k0,(hB.cell (p:=⟨b2,o2+i,none⟩) hb2).trans k1,Qfj p p2 l2 dd d2 ms W (hm1.step hB) (hm2.step hB) ((Xe2 H) ms (List.mem_of_getElem? hx))⟩
   have HC:=Lib.hid hC
   have HS:=Lib.hid hbr
   clear hC hbr hat1 hat2 k0 k1 hm1 hm2 hx
   go_upto_region 6 with fail
   refine Q0w (E:=Qkr) (fun _=>Below.refl _ _) (by kernel_rfl) (fun W=>Below wr.heap.size wr W) (fun _ _ h h'=>Below.next0 h h') (Q6v [.slice (some ⟨b1,o1,none⟩) n c,.int .i64 (i:Int),.pointer (some ⟨b1,o1+i,none⟩),.slice p l2 dd,.slice (some ⟨b2,o2,none⟩) n d,.int .i64 (i:Int),.pointer (some ⟨b2,o2+i,none⟩),.slice p2 l2 d2,.bool true,.bool false] (Q81 [])) (Q0z (Q1t ((fun p hp=>by cases hp)))) (Q5b (by kernel_rfl)) (by kernel_rfl) (Q0a wr) ?_ ?_
   ·skip
    refine ⟨fun A W hW hag hdep=>?_,?_⟩
    ·have e0:A.tmps[0]?.getD undef=.slice (some ⟨b1,o1,none⟩) n c:=Q03 (hag.keep (t:=0) (by kernel_rfl) rfl)
     refine Q01 rfl ?_
     refine Q02 (u:=.slice (some ⟨b1,o1,none⟩) n c) ?_ ((Q00 rfl).2 rfl)
     simp[go_sem,e0]
    refine ⟨fun A W hW hag hdep=>?_,?_⟩
    ·have e5:A.tmps[5]?.getD undef=.int .i64 (i:Int):=Q03 (hag.keep (t:=5) (by kernel_rfl) rfl)
     refine Q01 rfl ?_
     refine Q02 (u:=.int .i64 (i:Int)) ?_ ((Q00 rfl).2 rfl)
     simp[go_sem,e5]
    refine ⟨fun A W hW hag hdep=>?_,?_⟩
    ·have e16:A.tmps[16]?.getD undef=.slice (some ⟨b1,o1,none⟩) n c:=Q03 ((Q00 rfl).1 (hdep 0 (by decide)))
     have e17:A.tmps[17]?.getD undef=.int .i64 (i:Int):=Q03 ((Q00 rfl).1 (hdep 1 (by decide)))
     refine Q01 rfl ?_
     refine Q02 (u:=.pointer (some ⟨b1,o1+i,none⟩)) ?_ ((Q00 rfl).2 rfl)
     simp[go_sem,e16,e17,hlt']
    refine ⟨fun A W hW hag hdep=>?_,?_⟩
    ·have e18:A.tmps[18]?.getD undef=.pointer (some ⟨b1,o1+i,none⟩):=Q03 ((Q00 rfl).1 (hdep 2 (by decide)))
     refine Q01 rfl ?_
     refine Q02 (u:=.slice p l2 dd) ?_ ((Q00 rfl).2 rfl)
     simp[go_sem,e18,(HC.out W hW).1]
    refine ⟨fun A W hW hag hdep=>?_,?_⟩
    ·have e1:A.tmps[1]?.getD undef=.slice (some ⟨b2,o2,none⟩) n d:=Q03 (hag.keep (t:=1) (by kernel_rfl) rfl)
     refine Q01 rfl ?_
     refine Q02 (u:=.slice (some ⟨b2,o2,none⟩) n d) ?_ ((Q00 rfl).2 rfl)
     simp[go_sem,e1]
    refine ⟨fun A W hW hag hdep=>?_,?_⟩
    ·have e5:A.tmps[5]?.getD undef=.int .i64 (i:Int):=Q03 (hag.keep (t:=5) (by kernel_rfl) rfl)
     refine Q01 rfl ?_
     refine Q02 (u:=.int .i64 (i:Int)) ?_ ((Q00 rfl).2 rfl)
     simp[go_sem,e5]
    refine ⟨fun A W hW hag hdep=>?_,?_⟩
    ·have e20:A.tmps[20]?.getD undef=.slice (some ⟨b2,o2,none⟩) n d:=Q03 ((Q00 rfl).1 (hdep 4 (by decide)))
     have e21:A.tmps[21]?.getD undef=.int .i64 (i:Int):=Q03 ((Q00 rfl).1 (hdep 5 (by decide)))
     refine Q01 rfl ?_
     refine Q02 (u:=.pointer (some ⟨b2,o2+i,none⟩)) ?_ ((Q00 rfl).2 rfl)
     simp[go_sem,e20,e21,hlt']
    refine ⟨fun A W hW hag hdep=>?_,?_⟩
    ·have e22:A.tmps[22]?.getD undef=.pointer (some ⟨b2,o2+i,none⟩):=Q03 ((Q00 rfl).1 (hdep 6 (by decide)))
     refine Q01 rfl ?_
     refine Q02 (u:=.slice p2 l2 d2) ?_ ((Q00 rfl).2 rfl)
     simp[go_sem,e22,(HC.out W hW).2.1]
    refine ⟨fun A W hW hag hdep=>?_,?_⟩
    ·have e19:A.tmps[19]?.getD undef=.slice p l2 dd:=Q03 ((Q00 rfl).1 (hdep 3 (by decide)))
     have e23:A.tmps[23]?.getD undef=.slice p2 l2 d2:=Q03 ((Q00 rfl).1 (hdep 7 (by decide)))
     refine Q01 rfl ?_
     refine Q0u (f:=65) (args:= #[.slice p l2 dd,.slice p2 l2 d2]) (by simp[go_sem,e19,e23]) ((HC.out W hW).2.2.mono ?_)
     rintro e w2' ⟨rfl,hb'⟩
     exact ⟨_,rfl,hb',(Q00 rfl).2 rfl⟩
    refine ⟨fun A W hW hag hdep=>?_,?_⟩
    ·have e24:A.tmps[24]?.getD undef=.bool true:=Q03 ((Q00 rfl).1 (hdep 8 (by decide)))
     refine Q01 rfl ?_
     refine Q02 (u:=.bool false) ?_ ((Q00 rfl).2 rfl)
     simp[go_sem,e24]
    exact trivial
   intro vs W1 hW1 hvs
   have HB:=Lib.hid hW1
   have e9:vs 9=.bool false:=(Q00 rfl).1 (hvs 9 (by decide))
   simp only[Q1k,Act.put,List.setIfInBounds_toArray,List.set_cons_zero,List.set_cons_succ,e9]
   clear hW1 hvs e9
   go_wp2_with fail
   exact ⟨⟨i+1,congrArg (Value.int .i64) (by omega),by omega,Below.next0 HS.out HB.out⟩,by simp only[intOf];omega⟩
  ·have hlt':¬(i:Int)<(n:Int):=by omega
   have HS:=Lib.hid hbr
   clear hbr
   go_wp2_with fail
   go_ret
   exact ⟨rfl,HS.out⟩
end Go.Proofs.YtdilmfakkppgpaaGreatDoor
namespace Go.Proofs.YtdilmfakkppgpaaGreatDoor
open Go.RowKit WordsM DecM
theorem Qiq {w:World} {a:Option Addr} {n c:Nat} {F:List (List Q04)} (h:Q28 w a n c F) {ms:List Q04} (hm:ms∈F):∃p l d,Q0b w p l d ms:=by
 obtain ⟨h1,h2,h3,h0|⟨b,o,_,_,hF⟩⟩:=h
 ·rw[h0] at hm;cases hm
 obtain ⟨i,hi⟩:=List.mem_iff_getElem?.1 hm
 obtain ⟨p,l,d,_,hM⟩:=hF i ms hi
 exact ⟨p,l,d,hM⟩
theorem Qtd {w:World} {p:Option Addr} {l d:Nat} {ms:List Q04} (h:Q0b w p l d ms) {m:Q04} (hm:m∈ms):Low (2^64) m.ws:=by
 obtain ⟨_,_,_,h0|⟨b2,o2,_,_,hM⟩⟩:=h
 ·rw[h0] at hm;cases hm
 obtain ⟨j,hj⟩:=List.mem_iff_getElem?.1 hm
 obtain ⟨_,_,_,_,_,_,_,_,_,_,hw,_⟩:=hM j m hj
 exact hw.low
theorem Qo7 {w:World} {a:Option Addr} {n c:Nat} {F:List (List Q04)} (h:Q28 w a n c F) (hR:Q2w F):Qqd (Q0v F):=by
 obtain ⟨h1,h4,hr⟩:=hR
 have hl:(Q0v F).length=F.length:=by unfold Q0v;exact List.length_map ..
 refine ⟨by omega,by omega,fun P hP=>?_⟩
 unfold Q0v at hP
 obtain ⟨ms,hms,rfl⟩:=List.mem_map.1 hP
 obtain ⟨p,l,d,hM⟩:=Qiq h hms
 rw[hl]
 exact (hr ms hms).plain hM
theorem Qq7 {k j:Nat} {m m':Q04} (h:OkM k m) (h':OkM j m') (l:Low (2^64) m.ws) (l':Low (2^64) m'.ws) (e:m.term=m'.term):m=m':=by
 have e1:Q1z m.neg m.exp m.ws=Q1z m'.neg m'.exp m'.ws:=congrArg Prod.fst e
 have e2:m.es=m'.es:=congrArg Prod.snd e
 obtain ⟨h1,h2,h3⟩:=Qlw h.1.2 l h'.1.2 l' e1
 cases m;cases m'
 simp only at h1 h2 h3 e2
 rw[h1,h2,h3,e2]
theorem Qfk {k j:Nat}:∀{ms ms':List Q04},(∀m∈ms,OkM k m∧Low (2^64) m.ws)→(∀m∈ms',OkM j m∧Low (2^64) m.ws)→ms.map Q04.term=ms'.map Q04.term→ms=ms'
 |[],[],_,_,_=>rfl
 |[],_::_,_,_,h=>by simp at h
 |_::_,[],_,_,h=>by simp at h
 |m::r,m'::r',h1,h2,h=>by
  simp only[List.map_cons,List.cons.injEq] at h
  rw[Qq7 (h1 m (by simp)).1 (h2 m' (by simp)).1 (h1 m (by simp)).2 (h2 m' (by simp)).2 h.1,Qfk (fun x hx=>h1 x (by simp[hx])) (fun x hx=>h2 x (by simp[hx])) h.2]
theorem Qfl {k j:Nat}:∀{F G:List (List Q04)},(∀ms∈F,∀m∈ms,OkM k m∧Low (2^64) m.ws)→(∀ms∈G,∀m∈ms,OkM j m∧Low (2^64) m.ws)→Q0v F=Q0v G→F=G
 |[],[],_,_,_=>rfl
 |[],_::_,_,_,h=>by simp[Q0v] at h
 |_::_,[],_,_,h=>by simp[Q0v] at h
 |m::r,m'::r',h1,h2,h=>by
  simp only[Q0v,List.map_cons,List.cons.injEq] at h
  rw[Qfk (h1 m (by simp)) (h2 m' (by simp)) h.1,Qfl (fun x hx=>h1 x (by simp[hx])) (fun x hx=>h2 x (by simp[hx])) h.2]
theorem Qcq {w:World} {a:Option Addr} {n c:Nat} {F:List (List Q04)} (h:Q28 w a n c F) (hR:Q2w F):∀ms∈F,∀m∈ms,OkM F.length m∧Low (2^64) m.ws:=fun ms hms m hm=>by
 obtain ⟨p,l,d,hM⟩:=Qiq h hms
 exact ⟨(hR.2.2 ms hms).2.2.2.1 m hm,Qtd hM hm⟩
theorem Qkq {w:World} {a:Option Addr} {n c:Nat} {F:List (List Q04)} (h:Q28 w a n c F) (hR:Q2w F):(Q14 0 (Q0v F)).length≤1000000:=by
 have h1:=Q8f (Qik h hR) 0 (by have:=hR.2.1;omega)
 have h2:=Nat.mul_le_mul_right 168200 hR.2.1
 omega
theorem Qo8 {w:World} {a:Option Addr} {n c:Nat} {F:List (List Q04)} (h:Q28 w a n c F) (hR:Q2w F):∀ms∈F,∀m∈ms,m.es≠[]:=fun ms hms m hm e=>by
 have h1:=(Qcq h hR ms hms m hm).1.1.1.1
 have h2:=hR.1
 rw[e] at h1
 simp at h1;omega
theorem Qcr {a:Option Addr} {n c:Nat} {F:List (List Q04)} {w:World} (h:Q28 w a n c F) (hR:Q2w F) (hT:Q25 w):
 Calls Tryz.prog 17 #[sv (Q14 0 (Q0v F))] w fun e w'=>∃a' c',e=.returned (.tuple #[.slice a' n c',.int .i64 0,.int .i64 0])∧Q28 w' a' n c' F∧Below w.heap.size w w':=by
 have hpa:=Q4q ⟨(Q14 0 (Q0v F)).toArray⟩ w (Qkq h hR) hT
 rw[show (⟨(Q14 0 (Q0v F)).toArray⟩:ByteArray).data.toList=Q14 0 (Q0v F) from rfl,Qjh (Qo7 h hR)] at hpa
 refine hpa.mono ?_
 rintro e w6 ⟨hb6,a6,n6,c6,F6,rfl,hF6,ht6,hr6⟩
 obtain rfl:F6=F:=Qfl (Qcq hF6 hr6) (Qcq h hR) ht6
 obtain rfl:n6=n:=hF6.1.symm.trans h.1
 exact ⟨a6,c6,rfl,hF6,hb6⟩
theorem Qcs (a:Option Addr) (n c:Nat) (ls:List Nat) (w:World) (hln:ls.length=n) (hn:n≤9223372036854775807) (hrd:RdU w w.heap.size a ls) (hx:∀x∈ls,x<18446744073709551616) (hl:Qpt w):
 Calls Tryz.prog 7 #[.slice a n c] w fun e w'=>e=.returned (.bool true)∧Below w.heap.size w w':=by
 have hk:=Qnp w hl
 have HL:=Lib.hid (fun W (hb:Below w.heap.size w W)=>hl.below hb)
 have HRD:=Xh2 hrd hx
 have HK:=Lib.hid hk
 clear hk hl hrd hx
 go_enter Tryz.func7,Tryz.ntmps7
 go_wp2_with (first
  |(go_at_call 29;refine (Xo0 H6).mono ?_;rintro e w7 ⟨rfl,hb7⟩;have H7:=Lib.hid (Below.next0 (Xe1 H6) hb7);clear hb7)
  |(go_at_call 17
    refine (Xe1 H5).mono ?_
    rintro e w6 ⟨a6,c6,rfl,hF6,hb6⟩
    have hF46:=(Xo0 H4).step (Below.next0 (Xo0 H5).1 hb6)
    have hbw6:=Below.next0 (Xo0 H5).2 hb6
    have hsm:=Qcp a4 a6 nd c4 c6 F4 w6 hF46 hF6 (Qo8 hF46 (Xo1 H4))
    have H6:=Xh2 hsm hbw6
    clear hb6 hF6 hF46 hbw6 hsm)
  |(go_at_call 12
    refine (Q7c a4 nd c4 F4 w4 (Xo0 H4) (HL.out _ (Xe2 H4)).tz (HL.out _ (Xe2 H4)).pow).mono ?_
    rintro e w5 ⟨h5,_,hb5⟩
    obtain rfl:=h5 (Xo1 H4)
    have hbw5:=Below.next0 (Xe2 H4) hb5
    have hpa:=Qcr ((Xo0 H4).step hb5) (Xo1 H4) (HL.out _ hbw5).tz
    have H5:=Xh2 (And.intro hb5 hbw5) hpa
    clear hbw5 hpa hb5 h5)
  |(go_at_call 10
    refine (Qcn w1.heap.size 1 nd 6 8 w3 (Xo0 H3) (by decide) (Xo2 H3) (Xe3 H3) (by decide) (by decide)).mono ?_
    rintro e w4 ⟨⟨a4,c4,F4,rfl,hF4,hr4,hl4⟩,ht4⟩
    have hbw4:Below w.heap.size w w4:=Below.turn (Xo1 H3) ht4 (Xo1 H3).size (fun k e=>by have:=H1.out.size;omega)
    have H4:=Xh3 hF4 hr4 hbw4
    clear hF4 hr4 hl4 ht4 hbw4)
  |(go_at_call 11
    refine (Qs3 w1.heap.size 0 w2 (Xo0 H2) (by decide)).mono ?_
    rintro e w3 ⟨⟨nd,hn1,hn4,rfl⟩,hd3,ht3⟩
    have hbw3:Below w.heap.size w w3:=Below.turn (Xe1 H2) ht3 (Xe1 H2).size (fun k e=>by have:=H1.out.size;omega)
    have H3:=Xh4 hd3 hbw3 hn1 hn4
    clear hd3 ht3 hbw3 hn1 hn4)
  |(go_at_call 9
    refine (Qkd a n c ls w1 hln hn ((RdI.below (K:=.u64) (Xo0 HRD) H1.out).more H1.out.size) (Xe1 HRD)).mono ?_
    rintro e w2 ⟨rfl,hd2,hb2⟩
    have H2:=Xh2 hd2 (Below.next0 H1.out hb2)
    clear hd2 hb2)
  |(go_at_call 8;refine HK.out.mono ?_;rintro e w1 ⟨rfl,hb1⟩;have H1:=Lib.hid hb1;clear hb1))
 go_ret
 exact ⟨rfl,H7.out⟩
end Go.Proofs.YtdilmfakkppgpaaGreatDoor
