/- Part 14 of the proof of LawParseMeans: PolyB. Condition: as each theorem says; none at the end. -/
import Derived.Test.YtdilmfakkppgpaaGreatDoorPkParseMeans13
set_option maxRecDepth 100000
set_option maxHeartbeats 16000000
namespace Go.Proofs.YtdilmfakkppgpaaGreatDoor
open Go.RowKit WordsM
structure Q05 where
 neg:Bool
 exp:Int
 ws:List Nat
 es:List Int
def Q4a (w:World) (b o:Nat) (m:Q05):Prop:=∃aw lw cw ae le ce,w.cell? ⟨b,o,none⟩=some (.bool m.neg)/\w.cell? ⟨b,o+1,none⟩=some (.int .i64 m.exp)/\w.cell? ⟨b,o+2,none⟩=some (.slice aw lw cw)/\w.cell? ⟨b,o+3,none⟩=some (.slice ae le ce)/\
 WordsIn w aw lw cw m.ws/\Q0k w ae le ce m.es/\-9223372036854775808<=m.exp/\m.exp<=9223372036854775807
theorem Q4a.step {w w':World} {b o:Nat} {m:Q05} (h:Q4a w b o m) (hb:Below w.heap.size w w') (hlt:b<w.heap.size):Q4a w' b o m:=by
 obtain ⟨aw,lw,cw,ae,le,ce,h0,h1,h2,h3,h4,h5,h6⟩:=h
 exact ⟨aw,lw,cw,ae,le,ce,(hb.cell (p:=⟨b,o,none⟩) hlt).trans h0,(hb.cell (p:=⟨b,o+1,none⟩) hlt).trans h1,(hb.cell (p:=⟨b,o+2,none⟩) hlt).trans h2,(hb.cell (p:=⟨b,o+3,none⟩) hlt).trans h3,h4.step hb,h5.step hb,h6⟩
def Q0c (w:World) (a:Option Addr) (n c:Nat) (ms:List Q05):Prop:=
 ms.length=n/\n<=c/\c<=9223372036854775807/\(ms=[]∨∃b o,a=some ⟨b,o,none⟩/\b<w.heap.size/\∀j m,ms[j]?=some m->Q4a w b (o+j*4) m)
theorem Q0c.step {w w':World} {a:Option Addr} {n c:Nat} {ms:List Q05} (h:Q0c w a n c ms) (hb:Below w.heap.size w w'):Q0c w' a n c ms:=by
 obtain ⟨h1,h2,h3,h4⟩:=h
 refine ⟨h1,h2,h3,?_⟩
 rcases h4 with h4|⟨b,o,h5,h6,h7⟩
 ·exact .inl h4
 ·exact .inr ⟨b,o,h5,Nat.lt_of_lt_of_le h6 hb.size,fun j m hm=>(h7 j m hm).step hb h6⟩
def Q05.term (m:Q05):Q0b:=(Q1q m.neg m.exp m.ws,m.es)
def OkM (k:Nat) (m:Q05):Prop:=(Q0m k m.es/\Q0h m.neg m.exp m.ws)/\m.ws≠[]
def Q0s (k:Nat) (ms:List Q05):Prop:=1<=k/\k<=4/\ms.length<=24/\(∀m∈ms,OkM k m)/\ms.Pairwise fun p q=>0<Q2v p.es q.es
def Q6e (Φ:Prop) (r:Ending):Prop:=∃b,r=.returned (.bool b)/\(b=true↔Φ)
theorem Q6e.yes {Φ:Prop} {r:Ending} (h:Φ) (hr:r=.returned (.bool true)):Q6e Φ r:=⟨true,hr,by simp[h]⟩
theorem Q6e.no {Φ:Prop} {r:Ending} (h:¬Φ) (hr:r=.returned (.bool false)):Q6e Φ r:=⟨false,hr,by simp[h]⟩
theorem Q9g:∀(ms:List Q05),(∀j p q,ms[j]?=some p->ms[j+1]?=some q->0<Q2v p.es q.es)->ms.Pairwise fun p q=>0<Q2v p.es q.es
 |[],_=>List.Pairwise.nil
 |[_],_=>List.pairwise_singleton _ _
 |p::q::r,h=>by
  have ih:=Q9g (q::r) (fun j x y hx hy=>h (j+1) x y hx hy)
  refine List.pairwise_cons.2 ⟨fun x hx=>?_,ih⟩
  have h0:=h 0 p q rfl rfl
  rcases List.mem_cons.1 hx with rfl|hx
  ·exact h0
  ·exact Q5f _ _ _ h0 ((List.pairwise_cons.1 ih).1 x hx)
theorem Q2d (a:Option Addr) (n c:Nat) (ms:List Q05) (k:Nat) (w:World) (h:Q0c w a n c ms) (hk:k<=9223372036854775807):
 Calls Tryz.prog 45 #[.slice a n c,.int .i64 (k:Int)] w fun r w'=>Q6e (Q0s k ms) r/\Below w.heap.size w w':=by
 have hln:=h.1
 subst hln
 have hcm:=Nat.le_trans h.2.1 h.2.2.1
 have HM:=Lib.hid h
 clear h
 go_enter Tryz.func45,Tryz.ntmps45
 go_wp2_with fail
 go_loopw [9] (fun iv wr=>∃i:Nat,iv=.int .i64 (i:Int)/\i<=ms.length/\(∀j m,j<i->ms[j]?=some m->OkM k m)/\(∀j p q,j+1<i->ms[j]?=some p->ms[j+1]?=some q->0<Q2v p.es q.es)/\Below w.heap.size w wr) (fun iv _=>ms.length-(intOf iv).toNat)
 case atStart=>exact ⟨0,rfl,Nat.zero_le _,fun j m h=>absurd h (Nat.not_lt_zero _),fun j p q h=>absurd h (Nat.not_lt_zero _),Below.refl _ _⟩
 case round=>
  obtain ⟨i,rfl,hi,hok,hadj,hb⟩:=hrel
  by_cases hlt:i<ms.length
  ·have hlt':(i:Int)<(ms.length:Int):=by omega
   obtain ⟨m,hm⟩:∃m,ms[i]?=some m:=⟨_,List.getElem?_eq_getElem hlt⟩
   obtain ⟨b0,o0,rfl,hb0,hat⟩:∃b o,a=some ⟨b,o,none⟩/\b<wr.heap.size/\∀j m,ms[j]?=some m->Q4a wr b (o+j*4) m:=by
    rcases (HM.out.step hb).2.2.2 with h0|h0
    ·rw[h0] at hlt;simp at hlt
    ·exact h0
   obtain ⟨aw,lw,cw,ae,le,ce,k0,k1,k2,k3,hw,he,hx1,hx2⟩:=hat i m hm
   have HA:=Xh7 hok hadj hb hm hat hw he
   clear hok hadj hb hm hat hw he
   have hsz:=World.size_alloc wr (.cells #[.bool m.neg,.int .i64 m.exp,.slice aw lw cw,.slice ae le ce] 44)
   have hB0:Below wr.heap.size wr (wr.alloc (.cells #[.bool m.neg,.int .i64 m.exp,.slice aw lw cw,.slice ae le ce] 44)):=(Below.refl _ _).alloc (Nat.le_refl _) _
   have hX:=Q2s.new wr (.bool m.neg) (.int .i64 m.exp) (.slice aw lw cw) (.slice ae le ce) 44
   generalize hW0:wr.alloc (.cells #[.bool m.neg,.int .i64 m.exp,.slice aw lw cw,.slice ae le ce] 44)=W0 at hsz hB0 hX
   have HX:=Lib.hid (fun W (hW:Below W0.heap.size W0 W)=>hX.step hW (by omega))
   have HB0:=Lib.hid (Below.next0 (Xo2 HA) hB0)
   have hMO:=fun W (hW:Below W0.heap.size W0 W)=>Qk8 m.neg m.exp aw lw cw m.ws ae le ce m.es k W (((Xo5 HA).step hB0).step hW) (((Xe6 HA).step hB0).step hW) hk hx1 hx2
   have HB1:=Lib.hid hB0
   clear hX hB0 hsz
   have hlwl:=(Xo5 HA).len
   go_wp2_with fail
   by_cases hmo:Q0m k m.es/\Q0h m.neg m.exp m.ws
   ·simp only[decide_eq_true hmo] at hMO
    have HMO:=Lib.hid hMO
    by_cases hemp:m.ws=[]
    ·have hlw:((lw:Int)==0)=true:=by rw[<-hlwl,hemp];rfl
     have hno:¬Q0s k ms:=fun h=>(h.2.2.2.1 m (List.mem_of_getElem? (Xo3 HA))).2 hemp
     have HNO:=Lib.hid hno
     clear hMO hmo hno hlwl
     refine Q0y (E:=Qi7) (fun w=>Below.refl _ w) (by kernel_rfl) (fun W=>Below W0.heap.size W0 W) (fun _ _ h h'=>Below.next0 h h') (Q6k [.agg #[.bool m.neg,.int .i64 m.exp,.slice aw lw cw,.slice ae le ce],.int .i64 (k:Int),.bool true,.bool false,.bool false,.pointer (some ⟨wr.heap.size,0,none⟩),.pointer (some ⟨wr.heap.size,2,none⟩),.slice aw lw cw,.int .i64 (lw:Int),.bool true,.bool true,.bool true,undef,undef,undef,undef,undef,undef,undef,undef,undef,undef,undef,undef,.bool true] (fun _=>none)) (Q0q (fun i φ h=>by cases h)) (Q5x (by kernel_rfl)) (by kernel_rfl) (Q08 W0) ?_ ?_
     ·skip
      refine ⟨fun A W hW hag hdep=>?_,?_⟩
      ·have e6:A.tmps[6]?.getD undef=.pointer (some ⟨wr.heap.size,0,none⟩):=Q03 (hag.keep (t:=6) (by kernel_rfl) rfl)
       refine Q01 rfl ?_
       obtain ⟨q0,q1,q2,q3,_,_,_,_⟩:=(HX.out W hW)
       refine Q02 (u:=.agg #[.bool m.neg,.int .i64 m.exp,.slice aw lw cw,.slice ae le ce]) ?_ ((Q00 rfl).2 rfl)
       simp[go_sem,e6,q0,q1,q2,q3]
      refine ⟨fun A W hW hag hdep=>?_,?_⟩
      ·have e1:A.tmps[1]?.getD undef=.int .i64 (k:Int):=Q03 (hag.keep (t:=1) (by kernel_rfl) rfl)
       refine Q01 rfl ?_
       refine Q02 (u:=.int .i64 (k:Int)) ?_ ((Q00 rfl).2 rfl)
       simp[go_sem,e1]
      refine ⟨fun A W hW hag hdep=>?_,?_⟩
      ·have e14:A.tmps[14]?.getD undef=.agg #[.bool m.neg,.int .i64 m.exp,.slice aw lw cw,.slice ae le ce]:=Q03 ((Q00 rfl).1 (hdep 0 (by decide)))
       have e15:A.tmps[15]?.getD undef=.int .i64 (k:Int):=Q03 ((Q00 rfl).1 (hdep 1 (by decide)))
       refine Q01 rfl ?_
       refine Q0j (f:=87) (args:= #[.agg #[.bool m.neg,.int .i64 m.exp,.slice aw lw cw,.slice ae le ce],.int .i64 (k:Int)]) (by simp[go_sem,e14,e15]) ((HMO.out W hW).mono ?_)
       rintro e W2 ⟨rfl,hb2⟩
       exact ⟨_,rfl,hb2,(Q00 rfl).2 rfl⟩
      refine ⟨fun A W hW hag hdep=>?_,?_⟩
      ·have e16:A.tmps[16]?.getD undef=.bool true:=Q03 ((Q00 rfl).1 (hdep 2 (by decide)))
       refine Q01 rfl ?_
       refine Q02 (u:=.bool false) ?_ ((Q00 rfl).2 rfl)
       simp[go_sem,e16]
      refine ⟨fun A W hW hag hdep=>?_,?_⟩
      ·have e17:A.tmps[17]?.getD undef=.bool false:=Q03 ((Q00 rfl).1 (hdep 3 (by decide)))
       refine Q01 rfl ?_
       refine Q02 (u:=.bool false) ?_ ((Q00 rfl).2 rfl)
       simp[go_sem,e17]
      refine ⟨fun A W hW hag hdep=>?_,?_⟩
      ·have e6:A.tmps[6]?.getD undef=.pointer (some ⟨wr.heap.size,0,none⟩):=Q03 (hag.keep (t:=6) (by kernel_rfl) rfl)
       have eg:A.eval (.tmp 18)=.bool false:=(Q00 rfl).1 (hdep 4 (by decide))
       refine Q0d (t:=18) rfl rfl eg ?_
       refine Q02 (u:=.pointer (some ⟨wr.heap.size,0,none⟩)) ?_ ((Q00 rfl).2 rfl)
       simp[go_sem,e6]
      refine ⟨fun A W hW hag hdep=>?_,?_⟩
      ·have e19:A.tmps[19]?.getD undef=.pointer (some ⟨wr.heap.size,0,none⟩):=Q03 ((Q00 rfl).1 (hdep 5 (by decide)))
       have eg:A.eval (.tmp 18)=.bool false:=(Q00 rfl).1 (hdep 4 (by decide))
       refine Q0d (t:=18) rfl rfl eg ?_
       refine Q02 (u:=.pointer (some ⟨wr.heap.size,2,none⟩)) ?_ ((Q00 rfl).2 rfl)
       simp[go_sem,e19]
      refine ⟨fun A W hW hag hdep=>?_,?_⟩
      ·have e20:A.tmps[20]?.getD undef=.pointer (some ⟨wr.heap.size,2,none⟩):=Q03 ((Q00 rfl).1 (hdep 6 (by decide)))
       have eg:A.eval (.tmp 18)=.bool false:=(Q00 rfl).1 (hdep 4 (by decide))
       refine Q0d (t:=18) rfl rfl eg ?_
       obtain ⟨_,_,q2,_,_,_,_,_⟩:=(HX.out W hW)
       refine Q02 (u:=.slice aw lw cw) ?_ ((Q00 rfl).2 rfl)
       simp[go_sem,e20,q2]
      refine ⟨fun A W hW hag hdep=>?_,?_⟩
      ·have e21:A.tmps[21]?.getD undef=.slice aw lw cw:=Q03 ((Q00 rfl).1 (hdep 7 (by decide)))
       have eg:A.eval (.tmp 18)=.bool false:=(Q00 rfl).1 (hdep 4 (by decide))
       refine Q0d (t:=18) rfl rfl eg ?_
       refine Q02 (u:=.int .i64 (lw:Int)) ?_ ((Q00 rfl).2 rfl)
       simp[go_sem,e21]
      refine ⟨fun A W hW hag hdep=>?_,?_⟩
      ·have e22:A.tmps[22]?.getD undef=.int .i64 (lw:Int):=Q03 ((Q00 rfl).1 (hdep 8 (by decide)))
       have eg:A.eval (.tmp 18)=.bool false:=(Q00 rfl).1 (hdep 4 (by decide))
       refine Q0d (t:=18) rfl rfl eg ?_
       refine Q02 (u:=.bool true) ?_ ((Q00 rfl).2 rfl)
       simp[go_sem,e22,hlw]
      refine ⟨fun A W hW hag hdep=>?_,?_⟩
      ·have e18:A.tmps[18]?.getD undef=.bool false:=Q03 ((Q00 rfl).1 (hdep 4 (by decide)))
       have e23:A.tmps[23]?.getD undef=.bool true:=Q03 ((Q00 rfl).1 (hdep 9 (by decide)))
       refine Q01 rfl ?_
       refine Q02 (u:=.bool true) ?_ ((Q00 rfl).2 rfl)
       simp[go_sem,e18,e23]
      refine ⟨fun A W hW hag hdep=>?_,?_⟩
      ·have e24:A.tmps[24]?.getD undef=.bool true:=Q03 ((Q00 rfl).1 (hdep 10 (by decide)))
       refine Q01 rfl ?_
       refine Q02 (u:=.bool true) ?_ ((Q00 rfl).2 rfl)
       simp[go_sem,e24]
      refine ⟨fun A W hW hag hdep=>?_,?_⟩
      ·have eg:A.eval (.tmp 25)=.bool (!false):=(Q00 rfl).1 (hdep 11 (by decide))
       exact Q0v (t:=25) rfl rfl eg ((Q00 rfl).2 rfl)
      refine ⟨fun A W hW hag hdep=>?_,?_⟩
      ·have eg:A.eval (.tmp 25)=.bool (!false):=(Q00 rfl).1 (hdep 11 (by decide))
       exact Q0v (t:=25) rfl rfl eg ((Q00 rfl).2 rfl)
      refine ⟨fun A W hW hag hdep=>?_,?_⟩
      ·have eg:A.eval (.tmp 25)=.bool (!false):=(Q00 rfl).1 (hdep 11 (by decide))
       exact Q0v (t:=25) rfl rfl eg ((Q00 rfl).2 rfl)
      refine ⟨fun A W hW hag hdep=>?_,?_⟩
      ·have eg:A.eval (.tmp 28)=undef:=(Q00 rfl).1 (hdep 14 (by decide))
       exact Q0u (t:=28) rfl rfl eg ((Q00 rfl).2 rfl)
      refine ⟨fun A W hW hag hdep=>?_,?_⟩
      ·have eg:A.eval (.tmp 28)=undef:=(Q00 rfl).1 (hdep 14 (by decide))
       exact Q0u (t:=28) rfl rfl eg ((Q00 rfl).2 rfl)
      refine ⟨fun A W hW hag hdep=>?_,?_⟩
      ·have eg:A.eval (.tmp 28)=undef:=(Q00 rfl).1 (hdep 14 (by decide))
       exact Q0u (t:=28) rfl rfl eg ((Q00 rfl).2 rfl)
      refine ⟨fun A W hW hag hdep=>?_,?_⟩
      ·have eg:A.eval (.tmp 28)=undef:=(Q00 rfl).1 (hdep 14 (by decide))
       exact Q0u (t:=28) rfl rfl eg ((Q00 rfl).2 rfl)
      refine ⟨fun A W hW hag hdep=>?_,?_⟩
      ·have eg:A.eval (.tmp 28)=undef:=(Q00 rfl).1 (hdep 14 (by decide))
       exact Q0u (t:=28) rfl rfl eg ((Q00 rfl).2 rfl)
      refine ⟨fun A W hW hag hdep=>?_,?_⟩
      ·have eg:A.eval (.tmp 28)=undef:=(Q00 rfl).1 (hdep 14 (by decide))
       exact Q0u (t:=28) rfl rfl eg ((Q00 rfl).2 rfl)
      refine ⟨fun A W hW hag hdep=>?_,?_⟩
      ·have eg:A.eval (.tmp 28)=undef:=(Q00 rfl).1 (hdep 14 (by decide))
       exact Q0u (t:=28) rfl rfl eg ((Q00 rfl).2 rfl)
      refine ⟨fun A W hW hag hdep=>?_,?_⟩
      ·have eg:A.eval (.tmp 28)=undef:=(Q00 rfl).1 (hdep 14 (by decide))
       exact Q0u (t:=28) rfl rfl eg ((Q00 rfl).2 rfl)
      refine ⟨fun A W hW hag hdep=>?_,?_⟩
      ·have eg:A.eval (.tmp 25)=.bool (!false):=(Q00 rfl).1 (hdep 11 (by decide))
       exact Q0v (t:=25) rfl rfl eg ((Q00 rfl).2 rfl)
      refine ⟨fun A W hW hag hdep=>?_,?_⟩
      ·have e25:A.tmps[25]?.getD undef=.bool true:=Q03 ((Q00 rfl).1 (hdep 11 (by decide)))
       have e37:A.tmps[37]?.getD undef=undef:=Q03 ((Q00 rfl).1 (hdep 23 (by decide)))
       refine Q01 rfl ?_
       refine Q02 (u:=.bool true) ?_ ((Q00 rfl).2 rfl)
       simp[go_sem,e25,e37]
      exact trivial
     intro vs W1 hW1 hvs
     have v24:vs 24=.bool true:=(Q00 rfl).1 (hvs 24 (by decide))
     simp only[Q10,Act.put,List.setIfInBounds_toArray,List.set_cons_zero,List.set_cons_succ]
     rw[v24]
     have HW1:=Lib.hid (Below.next0 HB0.out hW1)
     clear hW1 hvs v24
     go_wp2_with fail
     go_ret
     exact ⟨Q6e.no HNO.out rfl,HW1.out⟩
    ·have hlw:((lw:Int)==0)=false:=by
      rw[<-hlwl,beq_eq_false_iff_ne]
      intro e
      exact hemp (List.length_eq_zero_iff.1 (by omega))
     have hokm:OkM k m:=⟨hmo,hemp⟩
     have hok':∀j x,j<i+1->ms[j]?=some x->OkM k x:=fun j x hj hx=>by
      by_cases hji:j=i
      ·subst hji
       have:=(Xo3 HA)
       rw[hx] at this
       injection this with this
       rw[this];exact hokm
      ·exact (Xo0 HA) j x (by omega) hx
     have HOK:=Lib.hid hok'
     clear hMO hmo hlwl hokm hok' hemp
     by_cases hi0:i=0
     ·have hip:i=0:=hi0
      have hnx:(∀j x,j<i+1->ms[j]?=some x->OkM k x)/\(∀j p q,j+1<i+1->ms[j]?=some p->ms[j+1]?=some q->0<Q2v p.es q.es):=⟨HOK.out,fun j p q hj=>by omega⟩
      have HNX:=Lib.hid hnx
      clear hnx
      refine Q0y (E:=Qi7) (fun w=>Below.refl _ w) (by kernel_rfl) (fun W=>Below W0.heap.size W0 W) (fun _ _ h h'=>Below.next0 h h') (Q6k [.agg #[.bool m.neg,.int .i64 m.exp,.slice aw lw cw,.slice ae le ce],.int .i64 (k:Int),.bool true,.bool false,.bool false,.pointer (some ⟨wr.heap.size,0,none⟩),.pointer (some ⟨wr.heap.size,2,none⟩),.slice aw lw cw,.int .i64 (lw:Int),.bool false,.bool false,.bool false,.int .i64 (i:Int),.bool false,.bool false,undef,undef,undef,undef,undef,undef,undef,undef,.bool false,.bool false] (fun _=>none)) (Q0q (fun i φ h=>by cases h)) (Q5x (by kernel_rfl)) (by kernel_rfl) (Q08 W0) ?_ ?_
      ·skip
       refine ⟨fun A W hW hag hdep=>?_,?_⟩
       ·have e6:A.tmps[6]?.getD undef=.pointer (some ⟨wr.heap.size,0,none⟩):=Q03 (hag.keep (t:=6) (by kernel_rfl) rfl)
        refine Q01 rfl ?_
        obtain ⟨q0,q1,q2,q3,_,_,_,_⟩:=(HX.out W hW)
        refine Q02 (u:=.agg #[.bool m.neg,.int .i64 m.exp,.slice aw lw cw,.slice ae le ce]) ?_ ((Q00 rfl).2 rfl)
        simp[go_sem,e6,q0,q1,q2,q3]
       refine ⟨fun A W hW hag hdep=>?_,?_⟩
       ·have e1:A.tmps[1]?.getD undef=.int .i64 (k:Int):=Q03 (hag.keep (t:=1) (by kernel_rfl) rfl)
        refine Q01 rfl ?_
        refine Q02 (u:=.int .i64 (k:Int)) ?_ ((Q00 rfl).2 rfl)
        simp[go_sem,e1]
       refine ⟨fun A W hW hag hdep=>?_,?_⟩
       ·have e14:A.tmps[14]?.getD undef=.agg #[.bool m.neg,.int .i64 m.exp,.slice aw lw cw,.slice ae le ce]:=Q03 ((Q00 rfl).1 (hdep 0 (by decide)))
        have e15:A.tmps[15]?.getD undef=.int .i64 (k:Int):=Q03 ((Q00 rfl).1 (hdep 1 (by decide)))
        refine Q01 rfl ?_
        refine Q0j (f:=87) (args:= #[.agg #[.bool m.neg,.int .i64 m.exp,.slice aw lw cw,.slice ae le ce],.int .i64 (k:Int)]) (by simp[go_sem,e14,e15]) ((HMO.out W hW).mono ?_)
        rintro e W2 ⟨rfl,hb2⟩
        exact ⟨_,rfl,hb2,(Q00 rfl).2 rfl⟩
       refine ⟨fun A W hW hag hdep=>?_,?_⟩
       ·have e16:A.tmps[16]?.getD undef=.bool true:=Q03 ((Q00 rfl).1 (hdep 2 (by decide)))
        refine Q01 rfl ?_
        refine Q02 (u:=.bool false) ?_ ((Q00 rfl).2 rfl)
        simp[go_sem,e16]
       refine ⟨fun A W hW hag hdep=>?_,?_⟩
       ·have e17:A.tmps[17]?.getD undef=.bool false:=Q03 ((Q00 rfl).1 (hdep 3 (by decide)))
        refine Q01 rfl ?_
        refine Q02 (u:=.bool false) ?_ ((Q00 rfl).2 rfl)
        simp[go_sem,e17]
       refine ⟨fun A W hW hag hdep=>?_,?_⟩
       ·have e6:A.tmps[6]?.getD undef=.pointer (some ⟨wr.heap.size,0,none⟩):=Q03 (hag.keep (t:=6) (by kernel_rfl) rfl)
        have eg:A.eval (.tmp 18)=.bool false:=(Q00 rfl).1 (hdep 4 (by decide))
        refine Q0d (t:=18) rfl rfl eg ?_
        refine Q02 (u:=.pointer (some ⟨wr.heap.size,0,none⟩)) ?_ ((Q00 rfl).2 rfl)
        simp[go_sem,e6]
       refine ⟨fun A W hW hag hdep=>?_,?_⟩
       ·have e19:A.tmps[19]?.getD undef=.pointer (some ⟨wr.heap.size,0,none⟩):=Q03 ((Q00 rfl).1 (hdep 5 (by decide)))
        have eg:A.eval (.tmp 18)=.bool false:=(Q00 rfl).1 (hdep 4 (by decide))
        refine Q0d (t:=18) rfl rfl eg ?_
        refine Q02 (u:=.pointer (some ⟨wr.heap.size,2,none⟩)) ?_ ((Q00 rfl).2 rfl)
        simp[go_sem,e19]
       refine ⟨fun A W hW hag hdep=>?_,?_⟩
       ·have e20:A.tmps[20]?.getD undef=.pointer (some ⟨wr.heap.size,2,none⟩):=Q03 ((Q00 rfl).1 (hdep 6 (by decide)))
        have eg:A.eval (.tmp 18)=.bool false:=(Q00 rfl).1 (hdep 4 (by decide))
        refine Q0d (t:=18) rfl rfl eg ?_
        obtain ⟨_,_,q2,_,_,_,_,_⟩:=(HX.out W hW)
        refine Q02 (u:=.slice aw lw cw) ?_ ((Q00 rfl).2 rfl)
        simp[go_sem,e20,q2]
       refine ⟨fun A W hW hag hdep=>?_,?_⟩
       ·have e21:A.tmps[21]?.getD undef=.slice aw lw cw:=Q03 ((Q00 rfl).1 (hdep 7 (by decide)))
        have eg:A.eval (.tmp 18)=.bool false:=(Q00 rfl).1 (hdep 4 (by decide))
        refine Q0d (t:=18) rfl rfl eg ?_
        refine Q02 (u:=.int .i64 (lw:Int)) ?_ ((Q00 rfl).2 rfl)
        simp[go_sem,e21]
       refine ⟨fun A W hW hag hdep=>?_,?_⟩
       ·have e22:A.tmps[22]?.getD undef=.int .i64 (lw:Int):=Q03 ((Q00 rfl).1 (hdep 8 (by decide)))
        have eg:A.eval (.tmp 18)=.bool false:=(Q00 rfl).1 (hdep 4 (by decide))
        refine Q0d (t:=18) rfl rfl eg ?_
        refine Q02 (u:=.bool false) ?_ ((Q00 rfl).2 rfl)
        simp[go_sem,e22,hlw]
       refine ⟨fun A W hW hag hdep=>?_,?_⟩
       ·have e18:A.tmps[18]?.getD undef=.bool false:=Q03 ((Q00 rfl).1 (hdep 4 (by decide)))
        have e23:A.tmps[23]?.getD undef=.bool false:=Q03 ((Q00 rfl).1 (hdep 9 (by decide)))
        refine Q01 rfl ?_
        refine Q02 (u:=.bool false) ?_ ((Q00 rfl).2 rfl)
        simp[go_sem,e18,e23]
       refine ⟨fun A W hW hag hdep=>?_,?_⟩
       ·have e24:A.tmps[24]?.getD undef=.bool false:=Q03 ((Q00 rfl).1 (hdep 10 (by decide)))
        refine Q01 rfl ?_
        refine Q02 (u:=.bool false) ?_ ((Q00 rfl).2 rfl)
        simp[go_sem,e24]
       refine ⟨fun A W hW hag hdep=>?_,?_⟩
       ·have e5:A.tmps[5]?.getD undef=.int .i64 (i:Int):=Q03 (hag.keep (t:=5) (by kernel_rfl) rfl)
        have eg:A.eval (.tmp 25)=.bool false:=(Q00 rfl).1 (hdep 11 (by decide))
        refine Q0d (t:=25) rfl rfl eg ?_
        refine Q02 (u:=.int .i64 (i:Int)) ?_ ((Q00 rfl).2 rfl)
        simp[go_sem,e5]
       refine ⟨fun A W hW hag hdep=>?_,?_⟩
       ·have e26:A.tmps[26]?.getD undef=.int .i64 (i:Int):=Q03 ((Q00 rfl).1 (hdep 12 (by decide)))
        have eg:A.eval (.tmp 25)=.bool false:=(Q00 rfl).1 (hdep 11 (by decide))
        refine Q0d (t:=25) rfl rfl eg ?_
        refine Q02 (u:=.bool false) ?_ ((Q00 rfl).2 rfl)
        simp[go_sem,e26,hip]
       refine ⟨fun A W hW hag hdep=>?_,?_⟩
       ·have e27:A.tmps[27]?.getD undef=.bool false:=Q03 ((Q00 rfl).1 (hdep 13 (by decide)))
        have eg:A.eval (.tmp 25)=.bool false:=(Q00 rfl).1 (hdep 11 (by decide))
        refine Q0d (t:=25) rfl rfl eg ?_
        refine Q02 (u:=.bool false) ?_ ((Q00 rfl).2 rfl)
        simp[go_sem,e27]
       refine ⟨fun A W hW hag hdep=>?_,?_⟩
       ·have eg:A.eval (.tmp 28)=.bool (!true):=(Q00 rfl).1 (hdep 14 (by decide))
        exact Q0v (t:=28) rfl rfl eg ((Q00 rfl).2 rfl)
       refine ⟨fun A W hW hag hdep=>?_,?_⟩
       ·have eg:A.eval (.tmp 28)=.bool (!true):=(Q00 rfl).1 (hdep 14 (by decide))
        exact Q0v (t:=28) rfl rfl eg ((Q00 rfl).2 rfl)
       refine ⟨fun A W hW hag hdep=>?_,?_⟩
       ·have eg:A.eval (.tmp 28)=.bool (!true):=(Q00 rfl).1 (hdep 14 (by decide))
        exact Q0v (t:=28) rfl rfl eg ((Q00 rfl).2 rfl)
       refine ⟨fun A W hW hag hdep=>?_,?_⟩
       ·have eg:A.eval (.tmp 28)=.bool (!true):=(Q00 rfl).1 (hdep 14 (by decide))
        exact Q0v (t:=28) rfl rfl eg ((Q00 rfl).2 rfl)
       refine ⟨fun A W hW hag hdep=>?_,?_⟩
       ·have eg:A.eval (.tmp 28)=.bool (!true):=(Q00 rfl).1 (hdep 14 (by decide))
        exact Q0v (t:=28) rfl rfl eg ((Q00 rfl).2 rfl)
       refine ⟨fun A W hW hag hdep=>?_,?_⟩
       ·have eg:A.eval (.tmp 28)=.bool (!true):=(Q00 rfl).1 (hdep 14 (by decide))
        exact Q0v (t:=28) rfl rfl eg ((Q00 rfl).2 rfl)
       refine ⟨fun A W hW hag hdep=>?_,?_⟩
       ·have eg:A.eval (.tmp 28)=.bool (!true):=(Q00 rfl).1 (hdep 14 (by decide))
        exact Q0v (t:=28) rfl rfl eg ((Q00 rfl).2 rfl)
       refine ⟨fun A W hW hag hdep=>?_,?_⟩
       ·have eg:A.eval (.tmp 28)=.bool (!true):=(Q00 rfl).1 (hdep 14 (by decide))
        exact Q0v (t:=28) rfl rfl eg ((Q00 rfl).2 rfl)
       refine ⟨fun A W hW hag hdep=>?_,?_⟩
       ·have e28:A.tmps[28]?.getD undef=.bool false:=Q03 ((Q00 rfl).1 (hdep 14 (by decide)))
        have e36:A.tmps[36]?.getD undef=undef:=Q03 ((Q00 rfl).1 (hdep 22 (by decide)))
        have eg:A.eval (.tmp 25)=.bool false:=(Q00 rfl).1 (hdep 11 (by decide))
        refine Q0d (t:=25) rfl rfl eg ?_
        refine Q02 (u:=.bool false) ?_ ((Q00 rfl).2 rfl)
        simp[go_sem,e28,e36]
       refine ⟨fun A W hW hag hdep=>?_,?_⟩
       ·have e25:A.tmps[25]?.getD undef=.bool false:=Q03 ((Q00 rfl).1 (hdep 11 (by decide)))
        have e37:A.tmps[37]?.getD undef=.bool false:=Q03 ((Q00 rfl).1 (hdep 23 (by decide)))
        refine Q01 rfl ?_
        refine Q02 (u:=.bool false) ?_ ((Q00 rfl).2 rfl)
        simp[go_sem,e25,e37]
       exact trivial
      intro vs W1 hW1 hvs
      have v24:vs 24=.bool false:=(Q00 rfl).1 (hvs 24 (by decide))
      simp only[Q10,Act.put,List.setIfInBounds_toArray,List.set_cons_zero,List.set_cons_succ]
      rw[v24]
      have HW1:=Lib.hid (Below.next0 HB0.out hW1)
      clear hW1 hvs v24
      go_wp2_with fail
      refine ⟨⟨i+1,by simp only[Value.int.injEq,true_and];omega,by omega,(Xo0 HNX),(Xe1 HNX),HW1.out⟩,by simp only[intOf];omega⟩
     ·have hip:0<i:=by omega
      obtain ⟨q,hq⟩:∃q,q+1=i:=⟨i-1,by omega⟩
      have hiq:(i:Int)-1=(q:Int):=by omega
      have hwq:IntKind.i64.wrap (q:Int)=(q:Int):=by rw[IntKind.wrap_i64];omega
      have hqn:(q:Int)<(ms.length:Int):=by omega
      obtain ⟨p,hp⟩:∃p,ms[q]?=some p:=⟨_,List.getElem?_eq_getElem (by omega)⟩
      obtain ⟨pw,pl,pc,pe,pm,pd,z0,z1,z2,z3,hw2,he2,_,_⟩:=(Xo4 HA) q p hp
      have HPC:=Lib.hid (fun W (hW:Below W0.heap.size W0 W)=>And.intro (((Below.next0 HB1.out hW).cell (p:=⟨b0,o0+q*4,none⟩) hb0).trans z0) (And.intro (((Below.next0 HB1.out hW).cell (p:=⟨b0,o0+q*4+1,none⟩) hb0).trans z1) (And.intro (((Below.next0 HB1.out hW).cell (p:=⟨b0,o0+q*4+2,none⟩) hb0).trans z2) (((Below.next0 HB1.out hW).cell (p:=⟨b0,o0+q*4+3,none⟩) hb0).trans z3))))
      have HAH:=Lib.hid (fun W (hW:Below W0.heap.size W0 W)=>Qp6 (.bool p.neg) (.int .i64 p.exp) (.slice pw pl pc) pe pm pd p.es (.bool m.neg) (.int .i64 m.exp) (.slice aw lw cw) ae le ce m.es W (he2.step (Below.next0 HB1.out hW)) ((Xe6 HA).step (Below.next0 HB1.out hW)))
      have HPQ:=Xh2 hp hq
      clear z0 z1 z2 z3 hw2 he2 hp hq
      by_cases hcmp:0<=Q2v m.es p.es
      ·have hcv:decide (0<=Q2v m.es p.es)=true:=decide_eq_true hcmp
       have hno:¬Q0s k ms:=fun h=>by
        have h5:=h.2.2.2.2
        rw[List.pairwise_iff_getElem] at h5
        have hq1:=(List.getElem?_eq_some_iff.1 (Xo0 HPQ))
        have hm1:=(List.getElem?_eq_some_iff.1 (Xo3 HA))
        have h6:=h5 q i hq1.1 hm1.1 (by have:=(Xe1 HPQ);omega)
        rw[hq1.2,hm1.2] at h6
        have h7:=Q3e m.es p.es
        omega
       have HNO:=Lib.hid hno
       clear hno hcmp
       refine Q0y (E:=Qi7) (fun w=>Below.refl _ w) (by kernel_rfl) (fun W=>Below W0.heap.size W0 W) (fun _ _ h h'=>Below.next0 h h') (Q6k [.agg #[.bool m.neg,.int .i64 m.exp,.slice aw lw cw,.slice ae le ce],.int .i64 (k:Int),.bool true,.bool false,.bool false,.pointer (some ⟨wr.heap.size,0,none⟩),.pointer (some ⟨wr.heap.size,2,none⟩),.slice aw lw cw,.int .i64 (lw:Int),.bool false,.bool false,.bool false,.int .i64 (i:Int),.bool true,.bool true,.slice (some ⟨b0,o0,none⟩) ms.length c,.int .i64 (i:Int),.int .i64 (q:Int),.pointer (some ⟨b0,o0+q*4,none⟩),.agg #[.bool p.neg,.int .i64 p.exp,.slice pw pl pc,.slice pe pm pd],.agg #[.bool m.neg,.int .i64 m.exp,.slice aw lw cw,.slice ae le ce],.int .i64 (Q2v m.es p.es),.bool true,.bool true,.bool true] (fun _=>none)) (Q0q (fun i φ h=>by cases h)) (Q5x (by kernel_rfl)) (by kernel_rfl) (Q08 W0) ?_ ?_
       ·skip
        refine ⟨fun A W hW hag hdep=>?_,?_⟩
        ·have e6:A.tmps[6]?.getD undef=.pointer (some ⟨wr.heap.size,0,none⟩):=Q03 (hag.keep (t:=6) (by kernel_rfl) rfl)
         refine Q01 rfl ?_
         obtain ⟨q0,q1,q2,q3,_,_,_,_⟩:=(HX.out W hW)
         refine Q02 (u:=.agg #[.bool m.neg,.int .i64 m.exp,.slice aw lw cw,.slice ae le ce]) ?_ ((Q00 rfl).2 rfl)
         simp[go_sem,e6,q0,q1,q2,q3]
        refine ⟨fun A W hW hag hdep=>?_,?_⟩
        ·have e1:A.tmps[1]?.getD undef=.int .i64 (k:Int):=Q03 (hag.keep (t:=1) (by kernel_rfl) rfl)
         refine Q01 rfl ?_
         refine Q02 (u:=.int .i64 (k:Int)) ?_ ((Q00 rfl).2 rfl)
         simp[go_sem,e1]
        refine ⟨fun A W hW hag hdep=>?_,?_⟩
        ·have e14:A.tmps[14]?.getD undef=.agg #[.bool m.neg,.int .i64 m.exp,.slice aw lw cw,.slice ae le ce]:=Q03 ((Q00 rfl).1 (hdep 0 (by decide)))
         have e15:A.tmps[15]?.getD undef=.int .i64 (k:Int):=Q03 ((Q00 rfl).1 (hdep 1 (by decide)))
         refine Q01 rfl ?_
         refine Q0j (f:=87) (args:= #[.agg #[.bool m.neg,.int .i64 m.exp,.slice aw lw cw,.slice ae le ce],.int .i64 (k:Int)]) (by simp[go_sem,e14,e15]) ((HMO.out W hW).mono ?_)
         rintro e W2 ⟨rfl,hb2⟩
         exact ⟨_,rfl,hb2,(Q00 rfl).2 rfl⟩
        refine ⟨fun A W hW hag hdep=>?_,?_⟩
        ·have e16:A.tmps[16]?.getD undef=.bool true:=Q03 ((Q00 rfl).1 (hdep 2 (by decide)))
         refine Q01 rfl ?_
         refine Q02 (u:=.bool false) ?_ ((Q00 rfl).2 rfl)
         simp[go_sem,e16]
        refine ⟨fun A W hW hag hdep=>?_,?_⟩
        ·have e17:A.tmps[17]?.getD undef=.bool false:=Q03 ((Q00 rfl).1 (hdep 3 (by decide)))
         refine Q01 rfl ?_
         refine Q02 (u:=.bool false) ?_ ((Q00 rfl).2 rfl)
         simp[go_sem,e17]
        refine ⟨fun A W hW hag hdep=>?_,?_⟩
        ·have e6:A.tmps[6]?.getD undef=.pointer (some ⟨wr.heap.size,0,none⟩):=Q03 (hag.keep (t:=6) (by kernel_rfl) rfl)
         have eg:A.eval (.tmp 18)=.bool false:=(Q00 rfl).1 (hdep 4 (by decide))
         refine Q0d (t:=18) rfl rfl eg ?_
         refine Q02 (u:=.pointer (some ⟨wr.heap.size,0,none⟩)) ?_ ((Q00 rfl).2 rfl)
         simp[go_sem,e6]
        refine ⟨fun A W hW hag hdep=>?_,?_⟩
        ·have e19:A.tmps[19]?.getD undef=.pointer (some ⟨wr.heap.size,0,none⟩):=Q03 ((Q00 rfl).1 (hdep 5 (by decide)))
         have eg:A.eval (.tmp 18)=.bool false:=(Q00 rfl).1 (hdep 4 (by decide))
         refine Q0d (t:=18) rfl rfl eg ?_
         refine Q02 (u:=.pointer (some ⟨wr.heap.size,2,none⟩)) ?_ ((Q00 rfl).2 rfl)
         simp[go_sem,e19]
        refine ⟨fun A W hW hag hdep=>?_,?_⟩
        ·have e20:A.tmps[20]?.getD undef=.pointer (some ⟨wr.heap.size,2,none⟩):=Q03 ((Q00 rfl).1 (hdep 6 (by decide)))
         have eg:A.eval (.tmp 18)=.bool false:=(Q00 rfl).1 (hdep 4 (by decide))
         refine Q0d (t:=18) rfl rfl eg ?_
         obtain ⟨_,_,q2,_,_,_,_,_⟩:=(HX.out W hW)
         refine Q02 (u:=.slice aw lw cw) ?_ ((Q00 rfl).2 rfl)
         simp[go_sem,e20,q2]
        refine ⟨fun A W hW hag hdep=>?_,?_⟩
        ·have e21:A.tmps[21]?.getD undef=.slice aw lw cw:=Q03 ((Q00 rfl).1 (hdep 7 (by decide)))
         have eg:A.eval (.tmp 18)=.bool false:=(Q00 rfl).1 (hdep 4 (by decide))
         refine Q0d (t:=18) rfl rfl eg ?_
         refine Q02 (u:=.int .i64 (lw:Int)) ?_ ((Q00 rfl).2 rfl)
         simp[go_sem,e21]
        refine ⟨fun A W hW hag hdep=>?_,?_⟩
        ·have e22:A.tmps[22]?.getD undef=.int .i64 (lw:Int):=Q03 ((Q00 rfl).1 (hdep 8 (by decide)))
         have eg:A.eval (.tmp 18)=.bool false:=(Q00 rfl).1 (hdep 4 (by decide))
         refine Q0d (t:=18) rfl rfl eg ?_
         refine Q02 (u:=.bool false) ?_ ((Q00 rfl).2 rfl)
         simp[go_sem,e22,hlw]
        refine ⟨fun A W hW hag hdep=>?_,?_⟩
        ·have e18:A.tmps[18]?.getD undef=.bool false:=Q03 ((Q00 rfl).1 (hdep 4 (by decide)))
         have e23:A.tmps[23]?.getD undef=.bool false:=Q03 ((Q00 rfl).1 (hdep 9 (by decide)))
         refine Q01 rfl ?_
         refine Q02 (u:=.bool false) ?_ ((Q00 rfl).2 rfl)
         simp[go_sem,e18,e23]
        refine ⟨fun A W hW hag hdep=>?_,?_⟩
        ·have e24:A.tmps[24]?.getD undef=.bool false:=Q03 ((Q00 rfl).1 (hdep 10 (by decide)))
         refine Q01 rfl ?_
         refine Q02 (u:=.bool false) ?_ ((Q00 rfl).2 rfl)
         simp[go_sem,e24]
        refine ⟨fun A W hW hag hdep=>?_,?_⟩
        ·have e5:A.tmps[5]?.getD undef=.int .i64 (i:Int):=Q03 (hag.keep (t:=5) (by kernel_rfl) rfl)
         have eg:A.eval (.tmp 25)=.bool false:=(Q00 rfl).1 (hdep 11 (by decide))
         refine Q0d (t:=25) rfl rfl eg ?_
         refine Q02 (u:=.int .i64 (i:Int)) ?_ ((Q00 rfl).2 rfl)
         simp[go_sem,e5]
        refine ⟨fun A W hW hag hdep=>?_,?_⟩
        ·have e26:A.tmps[26]?.getD undef=.int .i64 (i:Int):=Q03 ((Q00 rfl).1 (hdep 12 (by decide)))
         have eg:A.eval (.tmp 25)=.bool false:=(Q00 rfl).1 (hdep 11 (by decide))
         refine Q0d (t:=25) rfl rfl eg ?_
         refine Q02 (u:=.bool true) ?_ ((Q00 rfl).2 rfl)
         simp[go_sem,e26,hip]
        refine ⟨fun A W hW hag hdep=>?_,?_⟩
        ·have e27:A.tmps[27]?.getD undef=.bool true:=Q03 ((Q00 rfl).1 (hdep 13 (by decide)))
         have eg:A.eval (.tmp 25)=.bool false:=(Q00 rfl).1 (hdep 11 (by decide))
         refine Q0d (t:=25) rfl rfl eg ?_
         refine Q02 (u:=.bool true) ?_ ((Q00 rfl).2 rfl)
         simp[go_sem,e27]
        refine ⟨fun A W hW hag hdep=>?_,?_⟩
        ·have e0:A.tmps[0]?.getD undef=.slice (some ⟨b0,o0,none⟩) ms.length c:=Q03 (hag.keep (t:=0) (by kernel_rfl) rfl)
         have eg:A.eval (.tmp 28)=.bool true:=(Q00 rfl).1 (hdep 14 (by decide))
         refine Q0d (t:=28) rfl rfl eg ?_
         refine Q02 (u:=.slice (some ⟨b0,o0,none⟩) ms.length c) ?_ ((Q00 rfl).2 rfl)
         simp[go_sem,e0]
        refine ⟨fun A W hW hag hdep=>?_,?_⟩
        ·have e5:A.tmps[5]?.getD undef=.int .i64 (i:Int):=Q03 (hag.keep (t:=5) (by kernel_rfl) rfl)
         have eg:A.eval (.tmp 28)=.bool true:=(Q00 rfl).1 (hdep 14 (by decide))
         refine Q0d (t:=28) rfl rfl eg ?_
         refine Q02 (u:=.int .i64 (i:Int)) ?_ ((Q00 rfl).2 rfl)
         simp[go_sem,e5]
        refine ⟨fun A W hW hag hdep=>?_,?_⟩
        ·have e30:A.tmps[30]?.getD undef=.int .i64 (i:Int):=Q03 ((Q00 rfl).1 (hdep 16 (by decide)))
         have eg:A.eval (.tmp 28)=.bool true:=(Q00 rfl).1 (hdep 14 (by decide))
         refine Q0d (t:=28) rfl rfl eg ?_
         refine Q02 (u:=.int .i64 (q:Int)) ?_ ((Q00 rfl).2 rfl)
         simp[go_sem,e30,hiq,hwq]
        refine ⟨fun A W hW hag hdep=>?_,?_⟩
        ·have e29:A.tmps[29]?.getD undef=.slice (some ⟨b0,o0,none⟩) ms.length c:=Q03 ((Q00 rfl).1 (hdep 15 (by decide)))
         have e31:A.tmps[31]?.getD undef=.int .i64 (q:Int):=Q03 ((Q00 rfl).1 (hdep 17 (by decide)))
         have eg:A.eval (.tmp 28)=.bool true:=(Q00 rfl).1 (hdep 14 (by decide))
         refine Q0d (t:=28) rfl rfl eg ?_
         refine Q02 (u:=.pointer (some ⟨b0,o0+q*4,none⟩)) ?_ ((Q00 rfl).2 rfl)
         simp[go_sem,e29,e31,hqn]
        refine ⟨fun A W hW hag hdep=>?_,?_⟩
        ·have e32:A.tmps[32]?.getD undef=.pointer (some ⟨b0,o0+q*4,none⟩):=Q03 ((Q00 rfl).1 (hdep 18 (by decide)))
         have eg:A.eval (.tmp 28)=.bool true:=(Q00 rfl).1 (hdep 14 (by decide))
         refine Q0d (t:=28) rfl rfl eg ?_
         obtain ⟨j0,j1,j2,j3⟩:=HPC.out W hW
         refine Q02 (u:=.agg #[.bool p.neg,.int .i64 p.exp,.slice pw pl pc,.slice pe pm pd]) ?_ ((Q00 rfl).2 rfl)
         simp[go_sem,e32,j0,j1,j2,j3]
        refine ⟨fun A W hW hag hdep=>?_,?_⟩
        ·have e6:A.tmps[6]?.getD undef=.pointer (some ⟨wr.heap.size,0,none⟩):=Q03 (hag.keep (t:=6) (by kernel_rfl) rfl)
         have eg:A.eval (.tmp 28)=.bool true:=(Q00 rfl).1 (hdep 14 (by decide))
         refine Q0d (t:=28) rfl rfl eg ?_
         obtain ⟨q0,q1,q2,q3,_,_,_,_⟩:=(HX.out W hW)
         refine Q02 (u:=.agg #[.bool m.neg,.int .i64 m.exp,.slice aw lw cw,.slice ae le ce]) ?_ ((Q00 rfl).2 rfl)
         simp[go_sem,e6,q0,q1,q2,q3]
        refine ⟨fun A W hW hag hdep=>?_,?_⟩
        ·have e33:A.tmps[33]?.getD undef=.agg #[.bool p.neg,.int .i64 p.exp,.slice pw pl pc,.slice pe pm pd]:=Q03 ((Q00 rfl).1 (hdep 19 (by decide)))
         have e34:A.tmps[34]?.getD undef=.agg #[.bool m.neg,.int .i64 m.exp,.slice aw lw cw,.slice ae le ce]:=Q03 ((Q00 rfl).1 (hdep 20 (by decide)))
         have eg:A.eval (.tmp 28)=.bool true:=(Q00 rfl).1 (hdep 14 (by decide))
         refine Q0d (t:=28) rfl rfl eg ?_
         refine Q0j (f:=88) (args:= #[.agg #[.bool p.neg,.int .i64 p.exp,.slice pw pl pc,.slice pe pm pd],.agg #[.bool m.neg,.int .i64 m.exp,.slice aw lw cw,.slice ae le ce]]) (by simp[go_sem,e33,e34]) ((HAH.out W hW).mono ?_)
         rintro e W2 ⟨rfl,hb2⟩
         exact ⟨_,rfl,hb2,(Q00 rfl).2 rfl⟩
        refine ⟨fun A W hW hag hdep=>?_,?_⟩
        ·have e35:A.tmps[35]?.getD undef=.int .i64 (Q2v m.es p.es):=Q03 ((Q00 rfl).1 (hdep 21 (by decide)))
         have eg:A.eval (.tmp 28)=.bool true:=(Q00 rfl).1 (hdep 14 (by decide))
         refine Q0d (t:=28) rfl rfl eg ?_
         refine Q02 (u:=.bool true) ?_ ((Q00 rfl).2 rfl)
         simp[go_sem,e35,hcv]
        refine ⟨fun A W hW hag hdep=>?_,?_⟩
        ·have e28:A.tmps[28]?.getD undef=.bool true:=Q03 ((Q00 rfl).1 (hdep 14 (by decide)))
         have e36:A.tmps[36]?.getD undef=.bool true:=Q03 ((Q00 rfl).1 (hdep 22 (by decide)))
         have eg:A.eval (.tmp 25)=.bool false:=(Q00 rfl).1 (hdep 11 (by decide))
         refine Q0d (t:=25) rfl rfl eg ?_
         refine Q02 (u:=.bool true) ?_ ((Q00 rfl).2 rfl)
         simp[go_sem,e28,e36]
        refine ⟨fun A W hW hag hdep=>?_,?_⟩
        ·have e25:A.tmps[25]?.getD undef=.bool false:=Q03 ((Q00 rfl).1 (hdep 11 (by decide)))
         have e37:A.tmps[37]?.getD undef=.bool true:=Q03 ((Q00 rfl).1 (hdep 23 (by decide)))
         refine Q01 rfl ?_
         refine Q02 (u:=.bool true) ?_ ((Q00 rfl).2 rfl)
         simp[go_sem,e25,e37]
        exact trivial
       intro vs W1 hW1 hvs
       have v24:vs 24=.bool true:=(Q00 rfl).1 (hvs 24 (by decide))
       simp only[Q10,Act.put,List.setIfInBounds_toArray,List.set_cons_zero,List.set_cons_succ]
       rw[v24]
       have HW1:=Lib.hid (Below.next0 HB0.out hW1)
       clear hW1 hvs v24
       go_wp2_with fail
       go_ret
       exact ⟨Q6e.no HNO.out rfl,HW1.out⟩
      ·have hcv:decide (0<=Q2v m.es p.es)=false:=decide_eq_false hcmp
       have hnx:(∀j x,j<i+1->ms[j]?=some x->OkM k x)/\(∀j p q,j+1<i+1->ms[j]?=some p->ms[j+1]?=some q->0<Q2v p.es q.es):=⟨HOK.out,fun j p' q' hj hp' hq'=>by
        by_cases hji:j=q
        ·subst hji
         rw[(Xe1 HPQ)] at hq'
         have h1:=(Xo0 HPQ)
         rw[hp'] at h1
         have h2:=(Xo3 HA)
         rw[hq'] at h2
         injection h1 with h1
         injection h2 with h2
         subst h1;subst h2
         have h7:=Q3e q'.es p'.es
         omega
        ·exact (Xo1 HA) j p' q' (by have:=(Xe1 HPQ);omega) hp' hq'⟩
       have HNX:=Lib.hid hnx
       clear hnx hcmp
       refine Q0y (E:=Qi7) (fun w=>Below.refl _ w) (by kernel_rfl) (fun W=>Below W0.heap.size W0 W) (fun _ _ h h'=>Below.next0 h h') (Q6k [.agg #[.bool m.neg,.int .i64 m.exp,.slice aw lw cw,.slice ae le ce],.int .i64 (k:Int),.bool true,.bool false,.bool false,.pointer (some ⟨wr.heap.size,0,none⟩),.pointer (some ⟨wr.heap.size,2,none⟩),.slice aw lw cw,.int .i64 (lw:Int),.bool false,.bool false,.bool false,.int .i64 (i:Int),.bool true,.bool true,.slice (some ⟨b0,o0,none⟩) ms.length c,.int .i64 (i:Int),.int .i64 (q:Int),.pointer (some ⟨b0,o0+q*4,none⟩),.agg #[.bool p.neg,.int .i64 p.exp,.slice pw pl pc,.slice pe pm pd],.agg #[.bool m.neg,.int .i64 m.exp,.slice aw lw cw,.slice ae le ce],.int .i64 (Q2v m.es p.es),.bool false,.bool false,.bool false] (fun _=>none)) (Q0q (fun i φ h=>by cases h)) (Q5x (by kernel_rfl)) (by kernel_rfl) (Q08 W0) ?_ ?_
       ·skip
        refine ⟨fun A W hW hag hdep=>?_,?_⟩
        ·have e6:A.tmps[6]?.getD undef=.pointer (some ⟨wr.heap.size,0,none⟩):=Q03 (hag.keep (t:=6) (by kernel_rfl) rfl)
         refine Q01 rfl ?_
         obtain ⟨q0,q1,q2,q3,_,_,_,_⟩:=(HX.out W hW)
         refine Q02 (u:=.agg #[.bool m.neg,.int .i64 m.exp,.slice aw lw cw,.slice ae le ce]) ?_ ((Q00 rfl).2 rfl)
         simp[go_sem,e6,q0,q1,q2,q3]
        refine ⟨fun A W hW hag hdep=>?_,?_⟩
        ·have e1:A.tmps[1]?.getD undef=.int .i64 (k:Int):=Q03 (hag.keep (t:=1) (by kernel_rfl) rfl)
         refine Q01 rfl ?_
         refine Q02 (u:=.int .i64 (k:Int)) ?_ ((Q00 rfl).2 rfl)
         simp[go_sem,e1]
        refine ⟨fun A W hW hag hdep=>?_,?_⟩
        ·have e14:A.tmps[14]?.getD undef=.agg #[.bool m.neg,.int .i64 m.exp,.slice aw lw cw,.slice ae le ce]:=Q03 ((Q00 rfl).1 (hdep 0 (by decide)))
         have e15:A.tmps[15]?.getD undef=.int .i64 (k:Int):=Q03 ((Q00 rfl).1 (hdep 1 (by decide)))
         refine Q01 rfl ?_
         refine Q0j (f:=87) (args:= #[.agg #[.bool m.neg,.int .i64 m.exp,.slice aw lw cw,.slice ae le ce],.int .i64 (k:Int)]) (by simp[go_sem,e14,e15]) ((HMO.out W hW).mono ?_)
         rintro e W2 ⟨rfl,hb2⟩
         exact ⟨_,rfl,hb2,(Q00 rfl).2 rfl⟩
        refine ⟨fun A W hW hag hdep=>?_,?_⟩
        ·have e16:A.tmps[16]?.getD undef=.bool true:=Q03 ((Q00 rfl).1 (hdep 2 (by decide)))
         refine Q01 rfl ?_
         refine Q02 (u:=.bool false) ?_ ((Q00 rfl).2 rfl)
         simp[go_sem,e16]
        refine ⟨fun A W hW hag hdep=>?_,?_⟩
        ·have e17:A.tmps[17]?.getD undef=.bool false:=Q03 ((Q00 rfl).1 (hdep 3 (by decide)))
         refine Q01 rfl ?_
         refine Q02 (u:=.bool false) ?_ ((Q00 rfl).2 rfl)
         simp[go_sem,e17]
        refine ⟨fun A W hW hag hdep=>?_,?_⟩
        ·have e6:A.tmps[6]?.getD undef=.pointer (some ⟨wr.heap.size,0,none⟩):=Q03 (hag.keep (t:=6) (by kernel_rfl) rfl)
         have eg:A.eval (.tmp 18)=.bool false:=(Q00 rfl).1 (hdep 4 (by decide))
         refine Q0d (t:=18) rfl rfl eg ?_
         refine Q02 (u:=.pointer (some ⟨wr.heap.size,0,none⟩)) ?_ ((Q00 rfl).2 rfl)
         simp[go_sem,e6]
        refine ⟨fun A W hW hag hdep=>?_,?_⟩
        ·have e19:A.tmps[19]?.getD undef=.pointer (some ⟨wr.heap.size,0,none⟩):=Q03 ((Q00 rfl).1 (hdep 5 (by decide)))
         have eg:A.eval (.tmp 18)=.bool false:=(Q00 rfl).1 (hdep 4 (by decide))
         refine Q0d (t:=18) rfl rfl eg ?_
         refine Q02 (u:=.pointer (some ⟨wr.heap.size,2,none⟩)) ?_ ((Q00 rfl).2 rfl)
         simp[go_sem,e19]
        refine ⟨fun A W hW hag hdep=>?_,?_⟩
        ·have e20:A.tmps[20]?.getD undef=.pointer (some ⟨wr.heap.size,2,none⟩):=Q03 ((Q00 rfl).1 (hdep 6 (by decide)))
         have eg:A.eval (.tmp 18)=.bool false:=(Q00 rfl).1 (hdep 4 (by decide))
         refine Q0d (t:=18) rfl rfl eg ?_
         obtain ⟨_,_,q2,_,_,_,_,_⟩:=(HX.out W hW)
         refine Q02 (u:=.slice aw lw cw) ?_ ((Q00 rfl).2 rfl)
         simp[go_sem,e20,q2]
        refine ⟨fun A W hW hag hdep=>?_,?_⟩
        ·have e21:A.tmps[21]?.getD undef=.slice aw lw cw:=Q03 ((Q00 rfl).1 (hdep 7 (by decide)))
         have eg:A.eval (.tmp 18)=.bool false:=(Q00 rfl).1 (hdep 4 (by decide))
         refine Q0d (t:=18) rfl rfl eg ?_
         refine Q02 (u:=.int .i64 (lw:Int)) ?_ ((Q00 rfl).2 rfl)
         simp[go_sem,e21]
        refine ⟨fun A W hW hag hdep=>?_,?_⟩
        ·have e22:A.tmps[22]?.getD undef=.int .i64 (lw:Int):=Q03 ((Q00 rfl).1 (hdep 8 (by decide)))
         have eg:A.eval (.tmp 18)=.bool false:=(Q00 rfl).1 (hdep 4 (by decide))
         refine Q0d (t:=18) rfl rfl eg ?_
         refine Q02 (u:=.bool false) ?_ ((Q00 rfl).2 rfl)
         simp[go_sem,e22,hlw]
        refine ⟨fun A W hW hag hdep=>?_,?_⟩
        ·have e18:A.tmps[18]?.getD undef=.bool false:=Q03 ((Q00 rfl).1 (hdep 4 (by decide)))
         have e23:A.tmps[23]?.getD undef=.bool false:=Q03 ((Q00 rfl).1 (hdep 9 (by decide)))
         refine Q01 rfl ?_
         refine Q02 (u:=.bool false) ?_ ((Q00 rfl).2 rfl)
         simp[go_sem,e18,e23]
        refine ⟨fun A W hW hag hdep=>?_,?_⟩
        ·have e24:A.tmps[24]?.getD undef=.bool false:=Q03 ((Q00 rfl).1 (hdep 10 (by decide)))
         refine Q01 rfl ?_
         refine Q02 (u:=.bool false) ?_ ((Q00 rfl).2 rfl)
         simp[go_sem,e24]
        refine ⟨fun A W hW hag hdep=>?_,?_⟩
        ·have e5:A.tmps[5]?.getD undef=.int .i64 (i:Int):=Q03 (hag.keep (t:=5) (by kernel_rfl) rfl)
         have eg:A.eval (.tmp 25)=.bool false:=(Q00 rfl).1 (hdep 11 (by decide))
         refine Q0d (t:=25) rfl rfl eg ?_
         refine Q02 (u:=.int .i64 (i:Int)) ?_ ((Q00 rfl).2 rfl)
         simp[go_sem,e5]
        refine ⟨fun A W hW hag hdep=>?_,?_⟩
        ·have e26:A.tmps[26]?.getD undef=.int .i64 (i:Int):=Q03 ((Q00 rfl).1 (hdep 12 (by decide)))
         have eg:A.eval (.tmp 25)=.bool false:=(Q00 rfl).1 (hdep 11 (by decide))
         refine Q0d (t:=25) rfl rfl eg ?_
         refine Q02 (u:=.bool true) ?_ ((Q00 rfl).2 rfl)
         simp[go_sem,e26,hip]
        refine ⟨fun A W hW hag hdep=>?_,?_⟩
        ·have e27:A.tmps[27]?.getD undef=.bool true:=Q03 ((Q00 rfl).1 (hdep 13 (by decide)))
         have eg:A.eval (.tmp 25)=.bool false:=(Q00 rfl).1 (hdep 11 (by decide))
         refine Q0d (t:=25) rfl rfl eg ?_
         refine Q02 (u:=.bool true) ?_ ((Q00 rfl).2 rfl)
         simp[go_sem,e27]
        refine ⟨fun A W hW hag hdep=>?_,?_⟩
        ·have e0:A.tmps[0]?.getD undef=.slice (some ⟨b0,o0,none⟩) ms.length c:=Q03 (hag.keep (t:=0) (by kernel_rfl) rfl)
         have eg:A.eval (.tmp 28)=.bool true:=(Q00 rfl).1 (hdep 14 (by decide))
         refine Q0d (t:=28) rfl rfl eg ?_
         refine Q02 (u:=.slice (some ⟨b0,o0,none⟩) ms.length c) ?_ ((Q00 rfl).2 rfl)
         simp[go_sem,e0]
        refine ⟨fun A W hW hag hdep=>?_,?_⟩
        ·have e5:A.tmps[5]?.getD undef=.int .i64 (i:Int):=Q03 (hag.keep (t:=5) (by kernel_rfl) rfl)
         have eg:A.eval (.tmp 28)=.bool true:=(Q00 rfl).1 (hdep 14 (by decide))
         refine Q0d (t:=28) rfl rfl eg ?_
         refine Q02 (u:=.int .i64 (i:Int)) ?_ ((Q00 rfl).2 rfl)
         simp[go_sem,e5]
        refine ⟨fun A W hW hag hdep=>?_,?_⟩
        ·have e30:A.tmps[30]?.getD undef=.int .i64 (i:Int):=Q03 ((Q00 rfl).1 (hdep 16 (by decide)))
         have eg:A.eval (.tmp 28)=.bool true:=(Q00 rfl).1 (hdep 14 (by decide))
         refine Q0d (t:=28) rfl rfl eg ?_
         refine Q02 (u:=.int .i64 (q:Int)) ?_ ((Q00 rfl).2 rfl)
         simp[go_sem,e30,hiq,hwq]
        refine ⟨fun A W hW hag hdep=>?_,?_⟩
        ·have e29:A.tmps[29]?.getD undef=.slice (some ⟨b0,o0,none⟩) ms.length c:=Q03 ((Q00 rfl).1 (hdep 15 (by decide)))
         have e31:A.tmps[31]?.getD undef=.int .i64 (q:Int):=Q03 ((Q00 rfl).1 (hdep 17 (by decide)))
         have eg:A.eval (.tmp 28)=.bool true:=(Q00 rfl).1 (hdep 14 (by decide))
         refine Q0d (t:=28) rfl rfl eg ?_
         refine Q02 (u:=.pointer (some ⟨b0,o0+q*4,none⟩)) ?_ ((Q00 rfl).2 rfl)
         simp[go_sem,e29,e31,hqn]
        refine ⟨fun A W hW hag hdep=>?_,?_⟩
        ·have e32:A.tmps[32]?.getD undef=.pointer (some ⟨b0,o0+q*4,none⟩):=Q03 ((Q00 rfl).1 (hdep 18 (by decide)))
         have eg:A.eval (.tmp 28)=.bool true:=(Q00 rfl).1 (hdep 14 (by decide))
         refine Q0d (t:=28) rfl rfl eg ?_
         obtain ⟨j0,j1,j2,j3⟩:=HPC.out W hW
         refine Q02 (u:=.agg #[.bool p.neg,.int .i64 p.exp,.slice pw pl pc,.slice pe pm pd]) ?_ ((Q00 rfl).2 rfl)
         simp[go_sem,e32,j0,j1,j2,j3]
        refine ⟨fun A W hW hag hdep=>?_,?_⟩
        ·have e6:A.tmps[6]?.getD undef=.pointer (some ⟨wr.heap.size,0,none⟩):=Q03 (hag.keep (t:=6) (by kernel_rfl) rfl)
         have eg:A.eval (.tmp 28)=.bool true:=(Q00 rfl).1 (hdep 14 (by decide))
         refine Q0d (t:=28) rfl rfl eg ?_
         obtain ⟨q0,q1,q2,q3,_,_,_,_⟩:=(HX.out W hW)
         refine Q02 (u:=.agg #[.bool m.neg,.int .i64 m.exp,.slice aw lw cw,.slice ae le ce]) ?_ ((Q00 rfl).2 rfl)
         simp[go_sem,e6,q0,q1,q2,q3]
        refine ⟨fun A W hW hag hdep=>?_,?_⟩
        ·have e33:A.tmps[33]?.getD undef=.agg #[.bool p.neg,.int .i64 p.exp,.slice pw pl pc,.slice pe pm pd]:=Q03 ((Q00 rfl).1 (hdep 19 (by decide)))
         have e34:A.tmps[34]?.getD undef=.agg #[.bool m.neg,.int .i64 m.exp,.slice aw lw cw,.slice ae le ce]:=Q03 ((Q00 rfl).1 (hdep 20 (by decide)))
         have eg:A.eval (.tmp 28)=.bool true:=(Q00 rfl).1 (hdep 14 (by decide))
         refine Q0d (t:=28) rfl rfl eg ?_
         refine Q0j (f:=88) (args:= #[.agg #[.bool p.neg,.int .i64 p.exp,.slice pw pl pc,.slice pe pm pd],.agg #[.bool m.neg,.int .i64 m.exp,.slice aw lw cw,.slice ae le ce]]) (by simp[go_sem,e33,e34]) ((HAH.out W hW).mono ?_)
         rintro e W2 ⟨rfl,hb2⟩
         exact ⟨_,rfl,hb2,(Q00 rfl).2 rfl⟩
        refine ⟨fun A W hW hag hdep=>?_,?_⟩
        ·have e35:A.tmps[35]?.getD undef=.int .i64 (Q2v m.es p.es):=Q03 ((Q00 rfl).1 (hdep 21 (by decide)))
         have eg:A.eval (.tmp 28)=.bool true:=(Q00 rfl).1 (hdep 14 (by decide))
         refine Q0d (t:=28) rfl rfl eg ?_
         refine Q02 (u:=.bool false) ?_ ((Q00 rfl).2 rfl)
         simp[go_sem,e35,hcv]
        refine ⟨fun A W hW hag hdep=>?_,?_⟩
        ·have e28:A.tmps[28]?.getD undef=.bool true:=Q03 ((Q00 rfl).1 (hdep 14 (by decide)))
         have e36:A.tmps[36]?.getD undef=.bool false:=Q03 ((Q00 rfl).1 (hdep 22 (by decide)))
         have eg:A.eval (.tmp 25)=.bool false:=(Q00 rfl).1 (hdep 11 (by decide))
         refine Q0d (t:=25) rfl rfl eg ?_
         refine Q02 (u:=.bool false) ?_ ((Q00 rfl).2 rfl)
         simp[go_sem,e28,e36]
        refine ⟨fun A W hW hag hdep=>?_,?_⟩
        ·have e25:A.tmps[25]?.getD undef=.bool false:=Q03 ((Q00 rfl).1 (hdep 11 (by decide)))
         have e37:A.tmps[37]?.getD undef=.bool false:=Q03 ((Q00 rfl).1 (hdep 23 (by decide)))
         refine Q01 rfl ?_
         refine Q02 (u:=.bool false) ?_ ((Q00 rfl).2 rfl)
         simp[go_sem,e25,e37]
        exact trivial
       intro vs W1 hW1 hvs
       have v24:vs 24=.bool false:=(Q00 rfl).1 (hvs 24 (by decide))
       simp only[Q10,Act.put,List.setIfInBounds_toArray,List.set_cons_zero,List.set_cons_succ]
       rw[v24]
       have HW1:=Lib.hid (Below.next0 HB0.out hW1)
       clear hW1 hvs v24
       go_wp2_with fail
       refine ⟨⟨i+1,by simp only[Value.int.injEq,true_and];omega,by omega,(Xo0 HNX),(Xe1 HNX),HW1.out⟩,by simp only[intOf];omega⟩
   ·simp only[decide_eq_false hmo] at hMO
    have HMO:=Lib.hid hMO
    have hno:¬Q0s k ms:=fun h=>hmo (h.2.2.2.1 m (List.mem_of_getElem? (Xo3 HA))).1
    have HNO:=Lib.hid hno
    clear hMO hmo hno hlwl
    refine Q0y (E:=Qi7) (fun w=>Below.refl _ w) (by kernel_rfl) (fun W=>Below W0.heap.size W0 W) (fun _ _ h h'=>Below.next0 h h') (Q6k [.agg #[.bool m.neg,.int .i64 m.exp,.slice aw lw cw,.slice ae le ce],.int .i64 (k:Int),.bool false,.bool true,.bool true,undef,undef,undef,undef,undef,.bool true,.bool true,undef,undef,undef,undef,undef,undef,undef,undef,undef,undef,undef,undef,.bool true] (fun _=>none)) (Q0q (fun i φ h=>by cases h)) (Q5x (by kernel_rfl)) (by kernel_rfl) (Q08 W0) ?_ ?_
    ·skip
     refine ⟨fun A W hW hag hdep=>?_,?_⟩
     ·have e6:A.tmps[6]?.getD undef=.pointer (some ⟨wr.heap.size,0,none⟩):=Q03 (hag.keep (t:=6) (by kernel_rfl) rfl)
      refine Q01 rfl ?_
      obtain ⟨q0,q1,q2,q3,_,_,_,_⟩:=(HX.out W hW)
      refine Q02 (u:=.agg #[.bool m.neg,.int .i64 m.exp,.slice aw lw cw,.slice ae le ce]) ?_ ((Q00 rfl).2 rfl)
      simp[go_sem,e6,q0,q1,q2,q3]
     refine ⟨fun A W hW hag hdep=>?_,?_⟩
     ·have e1:A.tmps[1]?.getD undef=.int .i64 (k:Int):=Q03 (hag.keep (t:=1) (by kernel_rfl) rfl)
      refine Q01 rfl ?_
      refine Q02 (u:=.int .i64 (k:Int)) ?_ ((Q00 rfl).2 rfl)
      simp[go_sem,e1]
     refine ⟨fun A W hW hag hdep=>?_,?_⟩
     ·have e14:A.tmps[14]?.getD undef=.agg #[.bool m.neg,.int .i64 m.exp,.slice aw lw cw,.slice ae le ce]:=Q03 ((Q00 rfl).1 (hdep 0 (by decide)))
      have e15:A.tmps[15]?.getD undef=.int .i64 (k:Int):=Q03 ((Q00 rfl).1 (hdep 1 (by decide)))
      refine Q01 rfl ?_
      refine Q0j (f:=87) (args:= #[.agg #[.bool m.neg,.int .i64 m.exp,.slice aw lw cw,.slice ae le ce],.int .i64 (k:Int)]) (by simp[go_sem,e14,e15]) ((HMO.out W hW).mono ?_)
      rintro e W2 ⟨rfl,hb2⟩
      exact ⟨_,rfl,hb2,(Q00 rfl).2 rfl⟩
     refine ⟨fun A W hW hag hdep=>?_,?_⟩
     ·have e16:A.tmps[16]?.getD undef=.bool false:=Q03 ((Q00 rfl).1 (hdep 2 (by decide)))
      refine Q01 rfl ?_
      refine Q02 (u:=.bool true) ?_ ((Q00 rfl).2 rfl)
      simp[go_sem,e16]
     refine ⟨fun A W hW hag hdep=>?_,?_⟩
     ·have e17:A.tmps[17]?.getD undef=.bool true:=Q03 ((Q00 rfl).1 (hdep 3 (by decide)))
      refine Q01 rfl ?_
      refine Q02 (u:=.bool true) ?_ ((Q00 rfl).2 rfl)
      simp[go_sem,e17]
     refine ⟨fun A W hW hag hdep=>?_,?_⟩
     ·have eg:A.eval (.tmp 18)=.bool (!false):=(Q00 rfl).1 (hdep 4 (by decide))
      exact Q0v (t:=18) rfl rfl eg ((Q00 rfl).2 rfl)
     refine ⟨fun A W hW hag hdep=>?_,?_⟩
     ·have eg:A.eval (.tmp 18)=.bool (!false):=(Q00 rfl).1 (hdep 4 (by decide))
      exact Q0v (t:=18) rfl rfl eg ((Q00 rfl).2 rfl)
     refine ⟨fun A W hW hag hdep=>?_,?_⟩
     ·have eg:A.eval (.tmp 18)=.bool (!false):=(Q00 rfl).1 (hdep 4 (by decide))
      exact Q0v (t:=18) rfl rfl eg ((Q00 rfl).2 rfl)
     refine ⟨fun A W hW hag hdep=>?_,?_⟩
     ·have eg:A.eval (.tmp 18)=.bool (!false):=(Q00 rfl).1 (hdep 4 (by decide))
      exact Q0v (t:=18) rfl rfl eg ((Q00 rfl).2 rfl)
     refine ⟨fun A W hW hag hdep=>?_,?_⟩
     ·have eg:A.eval (.tmp 18)=.bool (!false):=(Q00 rfl).1 (hdep 4 (by decide))
      exact Q0v (t:=18) rfl rfl eg ((Q00 rfl).2 rfl)
     refine ⟨fun A W hW hag hdep=>?_,?_⟩
     ·have e18:A.tmps[18]?.getD undef=.bool true:=Q03 ((Q00 rfl).1 (hdep 4 (by decide)))
      have e23:A.tmps[23]?.getD undef=undef:=Q03 ((Q00 rfl).1 (hdep 9 (by decide)))
      refine Q01 rfl ?_
      refine Q02 (u:=.bool true) ?_ ((Q00 rfl).2 rfl)
      simp[go_sem,e18,e23]
     refine ⟨fun A W hW hag hdep=>?_,?_⟩
     ·have e24:A.tmps[24]?.getD undef=.bool true:=Q03 ((Q00 rfl).1 (hdep 10 (by decide)))
      refine Q01 rfl ?_
      refine Q02 (u:=.bool true) ?_ ((Q00 rfl).2 rfl)
      simp[go_sem,e24]
     refine ⟨fun A W hW hag hdep=>?_,?_⟩
     ·have eg:A.eval (.tmp 25)=.bool (!false):=(Q00 rfl).1 (hdep 11 (by decide))
      exact Q0v (t:=25) rfl rfl eg ((Q00 rfl).2 rfl)
     refine ⟨fun A W hW hag hdep=>?_,?_⟩
     ·have eg:A.eval (.tmp 25)=.bool (!false):=(Q00 rfl).1 (hdep 11 (by decide))
      exact Q0v (t:=25) rfl rfl eg ((Q00 rfl).2 rfl)
     refine ⟨fun A W hW hag hdep=>?_,?_⟩
     ·have eg:A.eval (.tmp 25)=.bool (!false):=(Q00 rfl).1 (hdep 11 (by decide))
      exact Q0v (t:=25) rfl rfl eg ((Q00 rfl).2 rfl)
     refine ⟨fun A W hW hag hdep=>?_,?_⟩
     ·have eg:A.eval (.tmp 28)=undef:=(Q00 rfl).1 (hdep 14 (by decide))
      exact Q0u (t:=28) rfl rfl eg ((Q00 rfl).2 rfl)
     refine ⟨fun A W hW hag hdep=>?_,?_⟩
     ·have eg:A.eval (.tmp 28)=undef:=(Q00 rfl).1 (hdep 14 (by decide))
      exact Q0u (t:=28) rfl rfl eg ((Q00 rfl).2 rfl)
     refine ⟨fun A W hW hag hdep=>?_,?_⟩
     ·have eg:A.eval (.tmp 28)=undef:=(Q00 rfl).1 (hdep 14 (by decide))
      exact Q0u (t:=28) rfl rfl eg ((Q00 rfl).2 rfl)
     refine ⟨fun A W hW hag hdep=>?_,?_⟩
     ·have eg:A.eval (.tmp 28)=undef:=(Q00 rfl).1 (hdep 14 (by decide))
      exact Q0u (t:=28) rfl rfl eg ((Q00 rfl).2 rfl)
     refine ⟨fun A W hW hag hdep=>?_,?_⟩
     ·have eg:A.eval (.tmp 28)=undef:=(Q00 rfl).1 (hdep 14 (by decide))
      exact Q0u (t:=28) rfl rfl eg ((Q00 rfl).2 rfl)
     refine ⟨fun A W hW hag hdep=>?_,?_⟩
     ·have eg:A.eval (.tmp 28)=undef:=(Q00 rfl).1 (hdep 14 (by decide))
      exact Q0u (t:=28) rfl rfl eg ((Q00 rfl).2 rfl)
     refine ⟨fun A W hW hag hdep=>?_,?_⟩
     ·have eg:A.eval (.tmp 28)=undef:=(Q00 rfl).1 (hdep 14 (by decide))
      exact Q0u (t:=28) rfl rfl eg ((Q00 rfl).2 rfl)
     refine ⟨fun A W hW hag hdep=>?_,?_⟩
     ·have eg:A.eval (.tmp 28)=undef:=(Q00 rfl).1 (hdep 14 (by decide))
      exact Q0u (t:=28) rfl rfl eg ((Q00 rfl).2 rfl)
     refine ⟨fun A W hW hag hdep=>?_,?_⟩
     ·have eg:A.eval (.tmp 25)=.bool (!false):=(Q00 rfl).1 (hdep 11 (by decide))
      exact Q0v (t:=25) rfl rfl eg ((Q00 rfl).2 rfl)
     refine ⟨fun A W hW hag hdep=>?_,?_⟩
     ·have e25:A.tmps[25]?.getD undef=.bool true:=Q03 ((Q00 rfl).1 (hdep 11 (by decide)))
      have e37:A.tmps[37]?.getD undef=undef:=Q03 ((Q00 rfl).1 (hdep 23 (by decide)))
      refine Q01 rfl ?_
      refine Q02 (u:=.bool true) ?_ ((Q00 rfl).2 rfl)
      simp[go_sem,e25,e37]
     exact trivial
    intro vs W1 hW1 hvs
    have v24:vs 24=.bool true:=(Q00 rfl).1 (hvs 24 (by decide))
    simp only[Q10,Act.put,List.setIfInBounds_toArray,List.set_cons_zero,List.set_cons_succ]
    rw[v24]
    have HW1:=Lib.hid (Below.next0 HB0.out hW1)
    clear hW1 hvs v24
    go_wp2_with fail
    go_ret
    exact ⟨Q6e.no HNO.out rfl,HW1.out⟩
  ·obtain rfl:i=ms.length:=by omega
   have hlt':¬((ms.length:Int)<(ms.length:Int)):=by omega
   have hall:(∀m∈ms,OkM k m)/\ms.Pairwise fun p q=>0<Q2v p.es q.es:=⟨fun m hm=>by
    obtain ⟨j,hj⟩:=List.mem_iff_getElem?.1 hm
    exact hok j m (List.getElem?_eq_some_iff.1 hj).1 hj,Q9g ms fun j p q hp hq=>hadj j p q (List.getElem?_eq_some_iff.1 hq).1 hp hq⟩
   have HF:=Xh2 hall hb
   clear hall hb hok hadj
   by_cases k1:1<=k
   ·have k1':(1:Int)<=(k:Int):=by omega
    by_cases k4:k<=4
    ·have k4':(k:Int)<=4:=by omega
     by_cases l24:ms.length<=24
     ·have l24':(ms.length:Int)<=24:=by omega
      go_wp2_with fail
      go_ret
      exact ⟨Q6e.yes ⟨k1,k4,l24,(Xo0 HF).1,(Xo0 HF).2⟩ rfl,(Xe1 HF)⟩
     ·have l24':¬(ms.length:Int)<=24:=by omega
      go_wp2_with fail
      go_ret
      exact ⟨Q6e.no (fun h=>l24 h.2.2.1) rfl,(Xe1 HF)⟩
    ·have k4':¬(k:Int)<=4:=by omega
     go_wp2_with fail
     go_ret
     exact ⟨Q6e.no (fun h=>k4 h.2.1) rfl,(Xe1 HF)⟩
   ·have k1':¬(1:Int)<=(k:Int):=by omega
    go_wp2_with fail
    go_ret
    exact ⟨Q6e.no (fun h=>k1 h.1) rfl,(Xe1 HF)⟩
end Go.Proofs.YtdilmfakkppgpaaGreatDoor
