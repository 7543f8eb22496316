/- Part 26 of the proof of LawParseShows: ShowW, Law12A, ParFrame, Deck, OpenU4, OpenN4. Condition: as each theorem says; none at the end. -/
import Derived.Test.YtdilmfakkppgpaaGreatDoorCards
import Derived.Test.YtdilmfakkppgpaaGreatDoorTie
import Derived.ProofKit
import Derived.OpenShut
import Derived.Deep.DeepHandedRow
import Derived.Lib.LaidTab
import Derived.Stop.LaidErr
import Derived.Shelf.Vars
import Derived.Lay
import Derived.Deep.Matrix
import Derived.Lib.SmallJoins
import Derived.Test.YtdilmfakkppgpaaGreatDoorPkParseShows25
set_option maxRecDepth 100000
set_option maxHeartbeats 16000000
namespace Go.Proofs.YtdilmfakkppgpaaGreatDoor
open Go.RowKit WordsM DecM
theorem Q5g (P:List Q0f):∀(F:List (List Q0f)) (i:Nat),Q19 i (F++[P])=Q19 i F++Q4o (i+F.length) P
 |[],i=>by simp[Q19]
 |Q::F,i=>by
  rw[List.cons_append,Q19,Q5g P F (i+1),Q19,List.append_assoc,List.length_cons,show i+1+F.length=i+(F.length+1) by omega]
theorem Q6v (p:Q0f):∀(l:List Q0f) (b:Bool),Q0l b (l++[p])=Q0l b l++(Q2d (b && l.isEmpty) p++Q1f p)
 |[],b=>by simp[Q0l]
 |q::l,b=>by
  rw[List.cons_append,Q0l,Q6v p l false,Q0l]
  simp
theorem Q7j {α:Type} {l:List α} {i:Nat} {x:α} (h:l[i]?=some x):l.take (i+1)=l.take i++[x]:=by rw[List.take_add_one,h];rfl
def Q0y (F:List (List Q04)):List (List Q0f):=F.map (List.map Q04.term)
theorem Qbs {F:List (List Q04)} {i:Nat} {ms:List Q04} (h:F[i]?=some ms):(Q0y F)[i]?=some (ms.map Q04.term):=by unfold Q0y;rw[List.getElem?_map,h];rfl
theorem Qet {k:Nat} {m:Q04} (h:OkM k m) (hl:Low (2^64) m.ws):Q4c m.term.1=m.neg:=by
 obtain ⟨⟨h1,h2⟩,h3⟩:=h
 rcases Q1k h2 hl with ⟨h4,_⟩|⟨_,ho,_,hv,g1,g2⟩
 ·exact absurd h4 h3
 ·exact Q80 ho
theorem Qgt {k:Nat} {m:Q04} (h:OkM k m) (hk:k<=4) (hl:Low (2^64) m.ws):(Q1f m.term).length<=7005:=by
 obtain ⟨_,g2,_,g4⟩:=Qam h hl
 have hlen:m.es.length<=4:=by have:=h.1.1.1;omega
 obtain ⟨h1,h2⟩:=Q5f m.es 0 (by omega) (fun x hx=>(Q2e h.1.1 x hx).2)
 have hall:∀t∈Q2v m.term,t.length<=1400:=fun t ht=>by
  unfold Q2v at ht
  split at ht
  ·rcases List.mem_cons.1 ht with rfl|ht
   ·rw[g2];exact g4
   ·have:=h1 t ht;omega
  ·have:=h1 t ht;omega
 have hcnt:(Q2v m.term).length<=5:=by
  have h2':(Q0z 0 m.term.2).length<=4:=Nat.le_trans h2 hlen
  unfold Q2v
  split
  ·rw[List.length_cons];omega
  ·omega
 have:=Q7i _ hall
 have:(Q2v m.term).length*1401<=5*1401:=Nat.mul_le_mul_right _ hcnt
 show (Q1x (Q2v m.term)).length<=_
 omega
theorem Qgu (b:Bool) (p:Q0f):(Q2d b p).length<=3:=by
 unfold Q2d
 split <;> split <;> decide
theorem Qeu {T:List Q0f} (h:∀p∈T,(Q1f p).length<=7005):∀b,(Q0l b T).length<=T.length*7008:=by
 induction T with
 |nil=>intro b;simp[Q0l]
 |cons p r ih=>
  intro b
  have h1:=h p (by simp)
  have h2:=Qgu b p
  have h3:=ih (fun q hq=>h q (by simp[hq])) false
  rw[Q0l,List.length_append,List.length_append,List.length_cons,Nat.add_mul]
  omega
def Qnm (F:List (List Q04)):Prop:=∀ms∈F,ms.length<=24/\∀m∈ms,(Q1f m.term).length<=7005
theorem Q5h {ms:List Q04} (h:ms.length<=24/\∀m∈ms,(Q1f m.term).length<=7005) (k:Nat):(Q0l true ((ms.map Q04.term).take k)).length<=168192:=by
 have h1:=Qeu (T:=(ms.map Q04.term).take k) (fun p hp=>by
  obtain ⟨m,hm,rfl⟩:=List.mem_map.1 (List.mem_of_mem_take hp)
  exact h.2 m hm) true
 have h2:((ms.map Q04.term).take k).length<=24:=by rw[List.length_take,List.length_map];omega
 have:=Nat.mul_le_mul_right 7008 h2
 omega
theorem Qgv {ms:List Q04} (h:ms.length<=24/\∀m∈ms,(Q1f m.term).length<=7005) {i:Nat} (hi:i<9):(Q4o i (ms.map Q04.term)).length<=168200:=by
 have h1:=Q5h h ms.length
 have h0:(ms.map Q04.term).length=ms.length:=List.length_map ..
 rw[<-h0,List.take_length] at h1
 have h2:=Q66 i hi
 unfold Q4o Q4n
 rw[List.length_append,List.length_append,h2]
 split
 ·simp
 ·simp only[List.length_cons,List.length_nil];omega
theorem Q8r {F:List (List Q04)} (h:Qnm F):∀i,i+F.length<=9->(Q19 i (Q0y F)).length<=F.length*168200:=by
 induction F with
 |nil=>intro i _;simp[Q19,Q0y]
 |cons ms r ih=>
  intro i hi
  rw[List.length_cons] at hi
  have h1:=Qgv (h ms (by simp)) (i:=i) (by omega)
  have h2:=ih (fun x hx=>h x (by simp[hx])) (i+1) (by omega)
  show (Q4o i (ms.map Q04.term)++Q19 (i+1) (Q0y r)).length<=_
  rw[List.length_append,List.length_cons,Nat.add_mul]
  omega
theorem Qij {w:World} {a:Option Addr} {n c:Nat} {F:List (List Q04)} (h:Q2r w a n c F) (hR:Q1y F):Qnm F:=by
 intro ms hms
 obtain ⟨_,h4,hr⟩:=hR
 obtain ⟨r1,r2,r3,r4,r5⟩:=hr ms hms
 refine ⟨r3,fun m hm=>Qgt (r4 m hm) h4 ?_⟩
 obtain ⟨h1,h2,h3,h0|⟨b,o,_,_,hF⟩⟩:=h
 ·rw[h0] at hms;cases hms
 obtain ⟨i,hi⟩:=List.mem_iff_getElem?.1 hms
 obtain ⟨p,l,d,_,hM⟩:=hF i ms hi
 obtain ⟨_,_,_,h0|⟨b2,o2,_,_,hM⟩⟩:=hM
 ·rw[h0] at hm;cases hm
 obtain ⟨j,hj⟩:=List.mem_iff_getElem?.1 hm
 obtain ⟨_,_,_,_,_,_,_,_,_,_,hw,_⟩:=hM j m hj
 exact hw.low
def Qrs (w1:World) (F:List (List Q04)) (s13:Value) (wr:World):Prop:=∃i:Nat,s13=.int .i64 (i:Int)/\i<=F.length/\Q91 w1.heap.size w1.heap.size (Q19 0 ((Q0y F).take i)) wr/\Below w1.heap.size w1 wr
def Qik (w1:World) (L0:List UInt8) (ms:List Q04) (s27:Value) (wr:World):Prop:=∃k:Nat,s27=.int .i64 (k:Int)/\k<=ms.length/\Q91 w1.heap.size w1.heap.size (L0++Q0l true ((ms.map Q04.term).take k)) wr/\Below w1.heap.size w1 wr
theorem Q2t.build {B b:Nat} {l:List UInt8} {w:World} (h:Q2t B b (.pointer (some ⟨b,0,none⟩)) l w):Q91 B b l w:=.inr h
theorem Q7k (a:Option Addr) (n c:Nat) (F:List (List Q04)) (w:World) (h:Q2r w a n c F) (hT:Q27 w) (hP:Qgs w):
 Calls Tryz.prog 12 #[.slice a n c] w fun r w'=>(Q1y F->r=.returned (sv (Q19 0 (Q0y F))))/\(¬Q1y F->r=.returned (sv []))/\Below w.heap.size w w':=by
 have hfr:=Qau a n c F w h
 by_cases hR:Q1y F
 case neg=>
  have H:=Xh2 hfr hR
  clear hfr h hT hP hR
  go_enter Tryz.func12,Tryz.ntmps12
  go_wp2_with (go_at_call_of 30 (Value.slice a n c);refine (Xo0 H).mono ?_;rintro r w1 ⟨⟨bb,rfl,hiff⟩,hb1⟩;obtain rfl:bb=false:=by { cases bb with|false=>rfl|true=>exact absurd (hiff.1 rfl) (Xe1 H) };have H1:=Lib.hid hb1;clear hiff hb1)
  go_ret
  exact ⟨fun h=>absurd h (Xe1 H),fun _=>rfl,H1.out⟩
 case pos=>
 have hsh:=Qij h hR
 have hln:=h.1
 have hn4:n<=4:=by have:=hR.2.1;omega
 have H:=Xh6 hfr hR h hT hP hsh
 clear hfr h hT hP hsh
 go_enter Tryz.func12,Tryz.ntmps12
 go_wp2_with (go_at_call_of 30 (Value.slice a n c);refine (Xo0 H).mono ?_;rintro r w1 ⟨⟨bb,rfl,hiff⟩,hb1⟩;obtain rfl:bb=true:=hiff.2 (Xo1 H);have H1:=Lib.hid hb1;clear hiff hb1)
 have hal:Below w1.heap.size w1 (w1.alloc (.cells #[.pointer none,.slice none 0 0] 66)):=(Below.refl _ _).alloc (Nat.le_refl _) _
 have hbn:=Q91.new w1.heap.size w1 (Nat.le_refl _)
 have HB:=Xh2 hal hbn
 clear hal hbn hR
 generalize w1.alloc (.cells #[.pointer none,.slice none 0 0] 66)=W2 at HB⊢
 rename World=>W2
 go_loopw [13] (fun s13 wr=>Qrs w1 F s13 wr) (fun iv _=>n-(intOf iv).toNat)
 case atStart=>exact ⟨0,rfl,Nat.zero_le _,(Xe1 HB),(Xo0 HB)⟩
 case round=>
  obtain ⟨i,rfl,hi,hbd,hbr⟩:=hrel
  by_cases hlt:i<F.length
  ·have hlt':(i:Int)<(n:Int):=by omega
   obtain ⟨ms,hms⟩:∃ms,F[i]?=some ms:=⟨_,List.getElem?_eq_getElem hlt⟩
   have hF:=(Xo2 H).step H1.out
   have hmem:=List.mem_of_getElem? hms
   have hrv:=(Xo1 H).2.2 ms hmem
   have hshm:=(Xe5 H) ms hmem
   have hpre:(Q19 0 ((Q0y F).take i)).length<=672800:=by
    have h1:=Q8r (F:=F.take i) (fun x hx=>(Xe5 H) x (List.mem_of_mem_take hx)) 0 (by rw[List.length_take];omega)
    have h2:(F.take i).length<=4:=by rw[List.length_take];omega
    have h3:=Nat.mul_le_mul_right 168200 h2
    unfold Q0y at h1⊢
    rw[<-List.map_take]
    omega
   have hnext:=Q7j (Qbs hms)
   obtain ⟨_,_,_,h0|⟨g,o,rfl,hg,hFi⟩⟩:=hF
   ·rw[h0] at hlt;exact absurd hlt (Nat.not_lt_zero _)
   obtain ⟨p,l,d,hcell,hM⟩:=hFi i ms hms
   have hll:=hM.1
   have hcell:=(hbr.cell (p:=⟨g,o+i,none⟩) hg).trans hcell
   have hhd:=Qib i (by omega) wr
   have hwr1:=Q1u w1.heap.size w1.heap.size (Q19 0 ((Q0y F).take i)) (Q32 i) wr hbd (by rw[Q66 i (by omega)];omega) hbr.size
   have HR:=Xh9 hms hrv hshm hpre hnext hM hhd hwr1 hbr
   clear hms hrv hshm hpre hnext hM hhd hwr1 hbr hbd hmem hFi
   obtain ⟨L0,hL0⟩:∃L0,Q19 0 ((Q0y F).take i)++Q32 i=L0:=⟨_,rfl⟩
   have HL:=Lib.hid hL0
   rw[hL0] at HR
   clear hL0
   obtain ⟨HM,hHM⟩:∃t,Q32 i=t:=⟨_,rfl⟩
   rw[hHM] at HR
   have HHM:=Lib.hid hHM
   clear hHM
   have hfin:Q4o i (ms.map Q04.term)=Q32 i++(Q4n (ms.map Q04.term)++[10]):=rfl
   by_cases hms0:ms=[]
   ·subst hms0
    obtain rfl:l=0:=hll.symm
    go_wp2_with (first
     |(go_at_call_of 31 (Value.pointer (some ⟨w1.heap.size,0,none⟩));refine (Xe1 H3).mono ?_;rintro r w4 ⟨rfl,hb4,hbl4,_⟩
       have hb4w:=Below.trans (Xo0 H3) hbl4
       have hwr3:=Q1u w1.heap.size w1.heap.size (L0++[48]) [10] w4 hb4.build (by rw[<-HL.out,List.length_append,List.length_append,Q66 i (by omega)];have:=(Xo3 HR);simp;omega) hb4w.size
       have H4:=Xh2 hb4w hwr3
       clear hb4 hbl4 hb4w hwr3)
     |(go_at_call_of 31 (Value.pointer (some ⟨w1.heap.size,0,none⟩));refine (Xo7 HR).mono ?_;rintro r w3 ⟨rfl,hb3,hbl3,_⟩
       have hb3w:=Below.trans (Xe8 HR) hbl3
       have hwr2:=Q1u w1.heap.size w1.heap.size L0 [48] w3 hb3.build (by rw[<-HL.out,List.length_append,Q66 i (by omega)];have:=(Xo3 HR);simp;omega) hb3w.size
       have H3:=Xh2 hb3w hwr2
       clear hb3 hbl3 hb3w hwr2)
     |(go_at_call_of 32 (Value.int IntKind.i64 (i:Int));refine (Xo6 HR).mono ?_;rintro r w2 ⟨rfl,rfl⟩))
    go_loopw [27] (fun s27 wr=>s27=.int .i64 0/\wr=w4) (fun _ _=>0)
    case atStart=>exact ⟨rfl,rfl⟩
    case round=>
     obtain ⟨rfl,rfl⟩:=hrel
     go_wp2_with (go_at_call_of 31 (Value.pointer (some ⟨w1.heap.size,0,none⟩));refine (Xe1 H4).mono ?_;rintro r w5 ⟨rfl,hb5,hbl5,_⟩;have H5:=Xh2 hb5 hbl5;clear hb5 hbl5)
     refine ⟨⟨i+1,congrArg (Value.int .i64) (by omega),hlt,?_,Below.trans (Xo0 H4) (Xe1 H5)⟩,by simp only[intOf];omega⟩
     rw[(Xo4 HR),Q5g]
     have e:(Q19 0 ((Q0y F).take i)++Q4o (0+((Q0y F).take i).length) (List.map Q04.term []))=L0++[48]++[10]:=by
      rw[show 0+((Q0y F).take i).length=i by rw[List.length_take];unfold Q0y;rw[List.length_map];omega,hfin,<-HL.out]
      simp[Q4n]
     rw[e]
     exact (Xo0 H5).build
   ·have hl0:((l:Int)==0)=false:=by
     rw[beq_eq_false_iff_ne]
     intro e
     exact hms0 (List.eq_nil_of_length_eq_zero (by omega))
    have HN0:=Lib.hid hms0
    clear hms0
    go_wp2_with (first
     |(go_at_call_of 31 (Value.pointer (some ⟨w1.heap.size,0,none⟩));refine (Xo7 HR).mono ?_;rintro r w3 ⟨rfl,hb3,hbl3,_⟩
       have hb3w:=Below.trans (Xe8 HR) hbl3
       have H3:=Xh2 hb3w hb3
       clear hb3 hbl3 hb3w)
     |(go_at_call_of 32 (Value.int IntKind.i64 (i:Int));refine (Xo6 HR).mono ?_;rintro r w2 ⟨rfl,rfl⟩))
    go_loopw [27] (fun s27 wr=>Qik w1 L0 ms s27 wr) (fun iv _=>l-(intOf iv).toNat)
    case atStart=>exact ⟨0,rfl,Nat.zero_le _,by simpa[Q0l] using (Xe1 H3).build,(Xo0 H3)⟩
    case round=>
     obtain ⟨k,rfl,hk,hbk,hbw⟩:=hrel
     by_cases hkl:k<ms.length
     ·have hkl':(k:Int)<(l:Int):=by omega
      obtain ⟨m,hm⟩:∃m,ms[k]?=some m:=⟨_,List.getElem?_eq_getElem hkl⟩
      obtain ⟨_,_,_,h0|⟨b2,o2,rfl,hb2,hMi⟩⟩:=(Xo5 HR)
      ·exact absurd h0 HN0.out
      obtain ⟨aw,lw,cw,ae,le,ce,q0,q1,q2,q3,hwm,hem,hx1,hx2⟩:=hMi k m hm
      have q0:=(hbw.cell (p:=⟨b2,o2+k*4,none⟩) hb2).trans q0
      have q1:=(hbw.cell (p:=⟨b2,o2+k*4+1,none⟩) hb2).trans q1
      have q2:=(hbw.cell (p:=⟨b2,o2+k*4+2,none⟩) hb2).trans q2
      have q3:=(hbw.cell (p:=⟨b2,o2+k*4+3,none⟩) hb2).trans q3
      have hkx:OkM F.length m:=(Xo1 HR).2.2.2.1 m (List.mem_of_getElem? hm)
      have hnb:=Qet hkx hwm.low
      have hnx:=Q6v m.term ((ms.map Q04.term).take k) true
      have htk:(ms.map Q04.term).take (k+1)=(ms.map Q04.term).take k++[m.term]:=Q7j (by rw[List.getElem?_map,hm];rfl)
      have hpl:=Q5h (Xo2 HR) k
      have htl:=(Xo2 HR).2 m (List.mem_of_getElem? hm)
      have hL0l:L0.length<=672806:=by rw[<-HL.out,List.length_append,Q66 i (by omega)];have:=(Xo3 HR);omega
      have hX:=Q2i.new wr (.bool m.neg) (.int .i64 m.exp) (.slice aw lw cw) (.slice ae le ce) 44
      have hhx:=heap_alloc_new wr (.cells #[.bool m.neg,.int .i64 m.exp,.slice aw lw cw,.slice ae le ce] 44)
      have hbx:Below wr.heap.size wr (wr.alloc (.cells #[.bool m.neg,.int .i64 m.exp,.slice aw lw cw,.slice ae le ce] 44)):=(Below.refl _ _).alloc (Nat.le_refl _) _
      have hbX:=Below.next0 hbw hbx
      have hbkX:=hbk.call hbx
      have hbn:w1.heap.size≠wr.heap.size:=by
       have h1:=hbk
       unfold Q91 at h1
       intro e
       rcases h1 with ⟨_,_,h2,_⟩|⟨_,_,h2,_⟩
       ·have:=(Array.getElem?_eq_some_iff.1 h2).1;omega
       ·have:=(Array.getElem?_eq_some_iff.1 h2).1;omega
      obtain ⟨L1,hL1⟩:∃L1,L0++Q0l true ((ms.map Q04.term).take k)=L1:=⟨_,rfl⟩
      have hL1l:L1.length<=840998:=by rw[<-hL1,List.length_append];omega
      rw[hL1] at hbkX
      have hterm:=fun W=>Qes F.length m aw lw cw ae le ce W
      obtain ⟨TT,hTT⟩:∃t,Q1f m.term=t:=⟨_,rfl⟩
      rw[hTT] at hnx htl hterm
      obtain ⟨ng,hng⟩:∃ng,m.neg=ng:=⟨_,rfl⟩
      rw[hng] at q0 hX hhx hbx hbX hbkX hterm hnb
      have HS:=Xh17 hnx htk hwm hem hkx hX hhx hbx hbX hbkX hbn hterm htl hL1 hL1l hng hnb
      clear hTT hnx htk hwm hem hkx hX hhx hbx hbX hbkX hbn hterm htl hL1 hL1l hpl hL0l hng hnb hbk hbw hMi hx1 hx2
      have hend:∀(st:List UInt8) (w9:World),Q2d (true && ((ms.map Q04.term).take k).isEmpty) m.term=st->Q2t w1.heap.size w1.heap.size (.pointer (some ⟨w1.heap.size,0,none⟩)) (L1++st++TT) w9->Below w1.heap.size w1 w9->Qik w1 L0 ms (.int .i64 ((k:Int)+1)) w9:=fun st w9 hs h1 h2=>by
       refine ⟨k+1,congrArg (Value.int .i64) (by omega),hkl,?_,h2⟩
       rw[(Xo1 HS),(Xo0 HS),hs,<-List.append_assoc,(Xo13 HS),<-List.append_assoc]
       exact h1.build
      have HE:=Lib.hid hend
      clear hend
      cases ng with
      |true=>
       by_cases hk0:0<k
       ·have hk0':(0:Int)<(k:Int):=by omega
        have hsg:Q2d (true && ((ms.map Q04.term).take k).isEmpty) m.term=[32,45,32]:=by
         have e:((ms.map Q04.term).take k).isEmpty=false:=by
          rw[List.isEmpty_eq_false_iff]
          intro h
          have:=congrArg List.length h
          rw[List.length_take,List.length_map] at this
          have e0:([]:List Q0f).length=0:=rfl
          omega
         rw[e,Q2d,(Xe16 HS)];rfl
        have e0:=(Xo5 HS).c0
        have e1:=(Xo5 HS).c1
        have e2:=(Xo5 HS).c2
        have e3:=(Xo5 HS).c3
        have hws:=Q1u w1.heap.size w1.heap.size L1 [32,45,32] (wr.alloc (.cells #[.bool true,.int .i64 m.exp,.slice aw lw cw,.slice ae le ce] 44)) (Xo9 HS) (by have:=(Xo14 HS);simp;omega) (Xo8 HS).size
        have HA:=Xh2 hsg hws
        clear hsg hws
        go_wp2_with (first
         |(go_at_call_of 31 (Value.pointer (some ⟨w1.heap.size,0,none⟩));refine (Xe1 H6).mono ?_;rintro r w7 ⟨rfl,hb7,hbl7,_⟩
           have H7:=Xh2 hb7 (Below.trans (Xo0 H6) hbl7)
           clear hb7 hbl7)
         |(go_at_call_of 33 (Value.agg #[.bool true,.int .i64 m.exp,.slice aw lw cw,.slice ae le ce]);refine (Xe2 H5).mono ?_;rintro r w6 ⟨rfl,hb6⟩
           have hb6w:=Below.next0 (Xo1 H5) hb6
           have hwt:=Q1u w1.heap.size w1.heap.size (L1++[32,45,32]) TT w6 (Q2t.call (Xo0 H5) hb6).build (by have:=(Xo14 HS);have:=(Xo12 HS);rw[List.length_append];simp;omega) hb6w.size
           have H6:=Xh2 hb6w hwt
           clear hb6 hb6w hwt)
         |(go_at_call_of 31 (Value.pointer (some ⟨w1.heap.size,0,none⟩));refine (Xe1 HA).mono ?_;rintro r w5 ⟨rfl,hb5,hbl5,hkp5⟩
           have hX5:=(Xo5 HS).onKept (hkp5 wr.heap.size _ _ _ (Xo6 HS) (by decide) (fun e=>(Xo10 HS) e.symm))
           have e0:=hX5.c0
           have e1:=hX5.c1
           have e2:=hX5.c2
           have e3:=hX5.c3
           have hb5w:=Below.trans (Xo8 HS) hbl5
           have hb50:=Below.next0 H1.out hb5w
           have htm:=(Xo11 HS) w5 ((Xo2 HS).step hb5w) ((Xo3 HS).step hb5w) (Xo4 HS) (by omega) ((Xo3 H).step hb50) ((Xo4 H).step hb50)
           have H5:=Xh3 hb5 hb5w htm
           clear hb5 hbl5 hkp5 hX5 hb5w hb50 htm))
        exact ⟨HE.out _ _ (Xo0 HA) (Xo0 H7) (Xe1 H7),by simp only[intOf];omega⟩
       ·have hk0':¬((0:Int)<(k:Int)):=by omega
        have hsg:Q2d (true && ((ms.map Q04.term).take k).isEmpty) m.term=[45]:=by
         have e:((ms.map Q04.term).take k).isEmpty=true:=by
          rw[show k=0 by omega];rfl
         rw[e,Q2d,(Xe16 HS)];rfl
        have e0:=(Xo5 HS).c0
        have e1:=(Xo5 HS).c1
        have e2:=(Xo5 HS).c2
        have e3:=(Xo5 HS).c3
        have hws:=Q1u w1.heap.size w1.heap.size L1 [45] (wr.alloc (.cells #[.bool true,.int .i64 m.exp,.slice aw lw cw,.slice ae le ce] 44)) (Xo9 HS) (by have:=(Xo14 HS);simp;omega) (Xo8 HS).size
        have HA:=Xh2 hsg hws
        clear hsg hws
        go_wp2_with (first
         |(go_at_call_of 31 (Value.pointer (some ⟨w1.heap.size,0,none⟩));refine (Xe1 H6).mono ?_;rintro r w7 ⟨rfl,hb7,hbl7,_⟩
           have H7:=Xh2 hb7 (Below.trans (Xo0 H6) hbl7)
           clear hb7 hbl7)
         |(go_at_call_of 33 (Value.agg #[.bool true,.int .i64 m.exp,.slice aw lw cw,.slice ae le ce]);refine (Xe2 H5).mono ?_;rintro r w6 ⟨rfl,hb6⟩
           have hb6w:=Below.next0 (Xo1 H5) hb6
           have hwt:=Q1u w1.heap.size w1.heap.size (L1++[45]) TT w6 (Q2t.call (Xo0 H5) hb6).build (by have:=(Xo14 HS);have:=(Xo12 HS);rw[List.length_append];simp;omega) hb6w.size
           have H6:=Xh2 hb6w hwt
           clear hb6 hb6w hwt)
         |(go_at_call_of 31 (Value.pointer (some ⟨w1.heap.size,0,none⟩));refine (Xe1 HA).mono ?_;rintro r w5 ⟨rfl,hb5,hbl5,hkp5⟩
           have hX5:=(Xo5 HS).onKept (hkp5 wr.heap.size _ _ _ (Xo6 HS) (by decide) (fun e=>(Xo10 HS) e.symm))
           have e0:=hX5.c0
           have e1:=hX5.c1
           have e2:=hX5.c2
           have e3:=hX5.c3
           have hb5w:=Below.trans (Xo8 HS) hbl5
           have hb50:=Below.next0 H1.out hb5w
           have htm:=(Xo11 HS) w5 ((Xo2 HS).step hb5w) ((Xo3 HS).step hb5w) (Xo4 HS) (by omega) ((Xo3 H).step hb50) ((Xo4 H).step hb50)
           have H5:=Xh3 hb5 hb5w htm
           clear hb5 hbl5 hkp5 hX5 hb5w hb50 htm))
        exact ⟨HE.out _ _ (Xo0 HA) (Xo0 H7) (Xe1 H7),by simp only[intOf];omega⟩
      |false=>
       by_cases hk0:0<k
       ·have hk0':(0:Int)<(k:Int):=by omega
        have hsg:Q2d (true && ((ms.map Q04.term).take k).isEmpty) m.term=[32,43,32]:=by
         have e:((ms.map Q04.term).take k).isEmpty=false:=by
          rw[List.isEmpty_eq_false_iff]
          intro h
          have:=congrArg List.length h
          rw[List.length_take,List.length_map] at this
          have e0:([]:List Q0f).length=0:=rfl
          omega
         rw[e,Q2d,(Xe16 HS)];rfl
        have e0:=(Xo5 HS).c0
        have e1:=(Xo5 HS).c1
        have e2:=(Xo5 HS).c2
        have e3:=(Xo5 HS).c3
        have hws:=Q1u w1.heap.size w1.heap.size L1 [32,43,32] (wr.alloc (.cells #[.bool false,.int .i64 m.exp,.slice aw lw cw,.slice ae le ce] 44)) (Xo9 HS) (by have:=(Xo14 HS);simp;omega) (Xo8 HS).size
        have HA:=Xh2 hsg hws
        clear hsg hws
        go_wp2_with (first
         |(go_at_call_of 31 (Value.pointer (some ⟨w1.heap.size,0,none⟩));refine (Xe1 H6).mono ?_;rintro r w7 ⟨rfl,hb7,hbl7,_⟩
           have H7:=Xh2 hb7 (Below.trans (Xo0 H6) hbl7)
           clear hb7 hbl7)
         |(go_at_call_of 33 (Value.agg #[.bool false,.int .i64 m.exp,.slice aw lw cw,.slice ae le ce]);refine (Xe2 H5).mono ?_;rintro r w6 ⟨rfl,hb6⟩
           have hb6w:=Below.next0 (Xo1 H5) hb6
           have hwt:=Q1u w1.heap.size w1.heap.size (L1++[32,43,32]) TT w6 (Q2t.call (Xo0 H5) hb6).build (by have:=(Xo14 HS);have:=(Xo12 HS);rw[List.length_append];simp;omega) hb6w.size
           have H6:=Xh2 hb6w hwt
           clear hb6 hb6w hwt)
         |(go_at_call_of 31 (Value.pointer (some ⟨w1.heap.size,0,none⟩));refine (Xe1 HA).mono ?_;rintro r w5 ⟨rfl,hb5,hbl5,hkp5⟩
           have hX5:=(Xo5 HS).onKept (hkp5 wr.heap.size _ _ _ (Xo6 HS) (by decide) (fun e=>(Xo10 HS) e.symm))
           have e0:=hX5.c0
           have e1:=hX5.c1
           have e2:=hX5.c2
           have e3:=hX5.c3
           have hb5w:=Below.trans (Xo8 HS) hbl5
           have hb50:=Below.next0 H1.out hb5w
           have htm:=(Xo11 HS) w5 ((Xo2 HS).step hb5w) ((Xo3 HS).step hb5w) (Xo4 HS) (by omega) ((Xo3 H).step hb50) ((Xo4 H).step hb50)
           have H5:=Xh3 hb5 hb5w htm
           clear hb5 hbl5 hkp5 hX5 hb5w hb50 htm))
        exact ⟨HE.out _ _ (Xo0 HA) (Xo0 H7) (Xe1 H7),by simp only[intOf];omega⟩
       ·have hk0':¬((0:Int)<(k:Int)):=by omega
        have hsg:Q2d (true && ((ms.map Q04.term).take k).isEmpty) m.term=[]:=by
         have e:((ms.map Q04.term).take k).isEmpty=true:=by
          rw[show k=0 by omega];rfl
         rw[e,Q2d,(Xe16 HS)];rfl
        have e0:=(Xo5 HS).c0
        have e1:=(Xo5 HS).c1
        have e2:=(Xo5 HS).c2
        have e3:=(Xo5 HS).c3
        have hbX0:=Below.next0 H1.out (Xo8 HS)
        have htm:=(Xo11 HS) _ ((Xo2 HS).step (Xo8 HS)) ((Xo3 HS).step (Xo8 HS)) (Xo4 HS) (by omega) ((Xo3 H).step hbX0) ((Xo4 H).step hbX0)
        have HA:=Xh2 hsg htm
        clear hsg htm hbX0
        go_wp2_with (first
         |(go_at_call_of 31 (Value.pointer (some ⟨w1.heap.size,0,none⟩));refine (Xe1 H6).mono ?_;rintro r w7 ⟨rfl,hb7,hbl7,_⟩
           have H7:=Xh2 hb7 (Below.trans (Xo0 H6) hbl7)
           clear hb7 hbl7)
         |(go_at_call_of 33 (Value.agg #[.bool false,.int .i64 m.exp,.slice aw lw cw,.slice ae le ce]);refine (Xe1 HA).mono ?_;rintro r w6 ⟨rfl,hb6⟩
           have hb6w:=Below.next0 (Xo8 HS) hb6
           have hwt:=Q1u w1.heap.size w1.heap.size L1 TT w6 ((Xo9 HS).call hb6) (by have:=(Xo14 HS);have:=(Xo12 HS);omega) hb6w.size
           have H6:=Xh2 hb6w hwt
           clear hb6 hb6w hwt))
        exact ⟨HE.out [] _ (Xo0 HA) (by rw[List.append_nil];exact (Xo0 H7)) (Xe1 H7),by simp only[intOf];omega⟩
     ·have hkl':¬((k:Int)<(l:Int)):=by omega
      have hke:k=ms.length:=by omega
      have htk:(ms.map Q04.term).take k=ms.map Q04.term:=List.take_of_length_le (by rw[List.length_map];omega)
      rw[htk] at hbk
      have hpl:=Q5h (Xo2 HR) ms.length
      have h0:(ms.map Q04.term).length=ms.length:=List.length_map ..
      rw[<-h0,List.take_length] at hpl
      have hL0l:L0.length<=672806:=by rw[<-HL.out,List.length_append,Q66 i (by omega)];have:=(Xo3 HR);omega
      have hw10:=Q1u w1.heap.size w1.heap.size (L0++Q0l true (ms.map Q04.term)) [10] wr hbk (by rw[List.length_append];simp;omega) hbw.size
      have HW:=Xh2 hw10 hbw
      clear hbk htk hke hpl hL0l hw10 hbw
      go_wp2_with (go_at_call_of 31 (Value.pointer (some ⟨w1.heap.size,0,none⟩));refine (Xo0 HW).mono ?_;rintro r w5 ⟨rfl,hb5,hbl5,_⟩;have H5:=Xh2 hb5 hbl5;clear hb5 hbl5)
      refine ⟨⟨i+1,congrArg (Value.int .i64) (by omega),hlt,?_,Below.trans (Xe1 HW) (Xe1 H5)⟩,by simp only[intOf];omega⟩
      rw[(Xo4 HR),Q5g]
      have e:(Q19 0 ((Q0y F).take i)++Q4o (0+((Q0y F).take i).length) (ms.map Q04.term))=L0++Q0l true (ms.map Q04.term)++[10]:=by
       rw[show 0+((Q0y F).take i).length=i by rw[List.length_take];unfold Q0y;rw[List.length_map];omega,hfin,<-HL.out,Q4n,if_neg (by intro h;exact HN0.out (List.map_eq_nil_iff.1 h))]
       simp only[List.append_assoc]
      rw[e]
      exact (Xo0 H5).build
  ·have hlt':¬((i:Int)<(n:Int)):=by omega
   have hie:i=F.length:=by omega
   have hall:(Q0y F).take i=Q0y F:=List.take_of_length_le (by unfold Q0y;rw[List.length_map];omega)
   rw[hall] at hbd
   have hne:Q19 0 (Q0y F)≠[]:=by
    intro e
    have h1:=congrArg (List.count 10) e
    rw[Qdz] at h1
    have h2:(Q0y F).length=F.length:=by unfold Q0y;exact List.length_map ..
    have h3:=(Xo1 H).1
    have h4:List.count (10:UInt8) []=0:=rfl
    omega
   have hstr:=Tryz.Qts w1.heap.size w1.heap.size (Q19 0 (Q0y F)) wr hbd hne
   have HS:=Xh2 hstr hbr
   clear hbd hall hie hne hstr hbr
   go_wp2_with (go_at_call_of 34 (Value.pointer (some ⟨w1.heap.size,0,none⟩));refine (Xo0 HS).mono ?_;rintro r w9 ⟨rfl,hb9⟩;have H9:=Lib.hid (Below.trans (Xe1 HS) hb9);clear hb9)
   go_ret
   exact ⟨fun _=>rfl,fun h=>absurd (Xo1 H) h,Below.next0 H1.out H9.out⟩
structure Qpv (w:World):Prop where
 tab:Lib.TabIs Tryz.prog w "internal/strconv.uint64pow10" .u64 Lib.pow10Tab
 tz:Q27 w
 big:2<w.heap.size
theorem Qt0:Tryz.prog.globalNamed "internal/strconv.uint64pow10" =some 2:=by kernel_rfl
theorem Qpv.below {w w':World} (h:Qpv w) (hb:Below w.heap.size w w'):Qpv w':=⟨var?_below hb Qt0 h.big h.tab,h.tz.step hb,Nat.lt_of_lt_of_le h.big hb.size⟩
theorem Qpv.pow {w:World} (h:Qpv w):Qgs w:=fun _ hb=>(h.below hb).tab
def kt1:List UInt8:=[120,49,39,32,61,32,120,50,10,120,50,39,32,61,32,45,120,49,32,43,32,51,112,45,49,42,40,120,49,32,43,32,49,41,94,50,10]
def kt2:List UInt8:=[120,49,39,32,61,32,43,10]
def kt3:List UInt8:=[120,49,39,32,61,32,120,50,10,120,50,39,32,61,32,51,112,45,49,42,120,49,94,50,32,43,32,49,112,49,42,120,49,32,43,32,51,112,45,49,10]
def kF:List (List Q0f):=[[(dy 1 0,[0,1])],[(dy 3 (-1),[2,0]),(dy 1 1,[1,0]),(dy 3 (-1),[0,0])]]
theorem Qrt:Q19 0 kF=kt3:=by decide+kernel
theorem Qt1:Q5j kt1=.ok kF:=by
 have h:(match Q5j kt1 with| .ok F=>decide (F=kF)|_=>false)=true:=by decide+kernel
 revert h
 cases Q5j kt1 with
 |error e=>intro h;cases h
 |ok F=>intro h;rw[of_decide_eq_true h]
theorem Qt2:Q5j kt2=.error (6,5):=by
 have h:(match Q5j kt2 with| .error e=>decide (e=(6,5))|_=>false)=true:=by decide+kernel
 revert h
 cases Q5j kt2 with
 |ok F=>intro h;cases h
 |error e=>intro h;rw[of_decide_eq_true h]
theorem Qnn (w:World) (hL:Qpv w):
 Calls Tryz.prog 8 #[] w fun e w'=>e=.returned (.bool true)/\Below w.heap.size w w':=by
 have hp1:=Q6f ⟨#[120,49,39,32,61,32,120,50,10,120,50,39,32,61,32,45,120,49,32,43,32,51,112,45,49,42,40,120,49,32,43,32,49,41,94,50,10]⟩ w (by decide) hL.tz
 rw[show Q5j (⟨#[120,49,39,32,61,32,120,50,10,120,50,39,32,61,32,45,120,49,32,43,32,51,112,45,49,42,40,120,49,32,43,32,49,41,94,50,10]⟩:ByteArray).data.toList=.ok kF from Qt1] at hp1
 have hp2:=fun W (hb:Below w.heap.size w W)=>Q6f ⟨#[120,49,39,32,61,32,43,10]⟩ W (by decide) (hL.below hb).tz
 rw[show Q5j (⟨#[120,49,39,32,61,32,43,10]⟩:ByteArray).data.toList=.error (6,5) from Qt2] at hp2
 have hsv:sv (Q19 0 kF)=.string ⟨#[120,49,39,32,61,32,120,50,10,120,50,39,32,61,32,51,112,45,49,42,120,49,94,50,32,43,32,49,112,49,42,120,49,32,43,32,51,112,45,49,10]⟩:=by rw[Qrt];rfl
 have hkl:kF.length=2:=rfl
 have H:=Xh5 hp1 hp2 hsv hL hkl
 clear hp1 hp2 hsv hL hkl
 go_enter Tryz.func8,Tryz.ntmps8
 go_wp2_with (first
  |(go_at_call_of 12 (Value.slice a1 2 c1);refine (Xe1 H2).mono ?_;rintro r w3 ⟨rfl,hb3⟩;have H3:=Lib.hid (Below.next0 (Xo0 H2) hb3);clear hb3)
  |(go_at_call 17;refine ((Xo1 H) w1 (Xo0 H1)).mono ?_;rintro r w2 ⟨hb2,rfl⟩
    have hb2w:=Below.next0 (Xo0 H1) hb2
    have hsh:Calls Tryz.prog 12 #[.slice a1 2 c1] w2 fun e w'=>e=.returned (.string ⟨#[120,49,39,32,61,32,120,50,10,120,50,39,32,61,32,51,112,45,49,42,120,49,94,50,32,43,32,49,112,49,42,120,49,32,43,32,51,112,45,49,10]⟩)/\Below w2.heap.size w2 w':=(Q7k a1 2 c1 Fv w2 ((Xo1 H1).step hb2) ((Xo3 H).below hb2w).tz ((Xo3 H).below hb2w).pow).mono (by rintro e w' ⟨h1,_,h2⟩;exact ⟨by rw[h1 (Xe3 H1),show Q0y Fv=kF from (Xo2 H1),(Xo2 H)],h2⟩)
    have H2:=Xh2 hb2w hsh
    clear hb2 hb2w hsh)
  |(go_at_call 17;refine (Xo0 H).mono ?_;rintro r w1 ⟨hb1,a1,n1,c1,Fv,rfl,hF1,ht1,hr1⟩
    obtain rfl:n1=2:=by { have h0:=congrArg List.length ht1;rw[List.length_map,hF1.1,(Xe4 H)] at h0;exact h0 }
    have H1:=Xh4 hb1 hF1 ht1 hr1
    clear hb1 hF1 ht1 hr1))
 go_ret
 exact ⟨rfl,H3.out⟩
end Go.Proofs.YtdilmfakkppgpaaGreatDoor
namespace Go.Proofs.YtdilmfakkppgpaaGreatDoor
open Go.RowKit
theorem Qbt {w:World} {p:Addr} {v:Value} (h:w.cell? p=some v):p.block<w.heap.size:=by
 refine Nat.lt_of_not_le fun hle=>?_
 unfold World.cell? at h
 rw[Array.getElem?_eq_none hle] at h
 simp at h
theorem Qpw {W:World} (h:laidMet Tryz.prog Rows.parseDeepRow.laid W):Lib.TabIs Tryz.prog W "internal/strconv.uint64pow10" .u64 Lib.pow10Tab:=by
 have h1:=h.tail.tail
 exact Lib.tabIs_of_head (rest:=_) (t:=233) (e:=74) (n:=20) Qt0 (by kernel_rfl) (by kernel_rfl) (by kernel_rfl) (by kernel_rfl) (by kernel_rfl) h1
theorem Qpx {W:World} (h:laidMet Tryz.prog Rows.parseDeepRow.laid W):Q27 W:=by
 have h1:=h.tail
 have ht:Lib.TabIs Tryz.prog W "math/bits.deBruijn64tab" .u8 [0,1,56,2,57,49,28,3,61,58,42,50,38,29,17,4,62,47,59,36,45,43,51,22,53,39,33,30,24,18,12,5,63,55,48,27,60,41,37,16,46,35,44,21,52,32,23,11,54,26,40,15,34,20,31,10,25,14,19,9,13,8,7,6]:=
  Lib.tabIs_of_head (rest:=_) (g:=1) (t:=206) (e:=5) (n:=64) (by kernel_rfl) (by kernel_rfl) (by kernel_rfl) (by kernel_rfl) (by kernel_rfl) (by kernel_rfl) h1
 have hc:=fun i hi=>ht.cell (g:=1) (by kernel_rfl) i hi
 refine ⟨Qbt (hc 0 (by decide)),fun j hj=>?_⟩
 have hj':j<64:=hj
 rw[hc j hj']
 have key:∀i:Fin 64,([0,1,56,2,57,49,28,3,61,58,42,50,38,29,17,4,62,47,59,36,45,43,51,22,53,39,33,30,24,18,12,5,63,55,48,27,60,41,37,16,46,35,44,21,52,32,23,11,54,26,40,15,34,20,31,10,25,14,19,9,13,8,7,6]:List Int).getD i.val 0=((Go.Lib.deBruijn64tab.getD i.val 0:Nat):Int):=by decide
 rw[key ⟨j,hj'⟩]
theorem Qru {W:World} (h:laidMetH Tryz.prog Rows.parseDeepRow.laid W) (_hs:W.ShapedOpen Tryz.prog):Qpv W:=by
 rw[MakeChecks.laidMetH_plain _ _ _ (by kernel_rfl)] at h
 have ht:=Qpw h
 exact ⟨ht,Qpx h,Qbt (ht.cell (g:=2) (by kernel_rfl) 0 (by decide))⟩
section
variable {H:Type} {enc:TypeId × Value->H}
theorem Q7l {C:Checked} {os:Os} {f:FuncId} {fn:Func} {s:OpenSpec} {conds:List PathCond} {apart:Bool} {laid:List (String × DataW Unit)} (modest:Bool) (w0:World) (args:Array Value) (hos:w0.os=os)
 (hsh:(w0.forCall (fun _ _=>0) ⟨#[],args,[]⟩).Shaped C.prog) (hok:Input.okWideB C.prog (w0.forCall (fun _ _=>0) ⟨#[],args,[]⟩) f ⟨#[],args,[]⟩=true)
 (hrow:s.preRow enc C.prog fn conds apart laid (w0.forCall (fun _ _=>0) ⟨#[],args,[]⟩).memory args):
 ∃(w:World) (tape:Tape) (i:Input),w.os=os/\(w.forCall tape i).Shaped C.prog/\i.vars=[]/\Input.okWide C.prog (w.forCall tape i) .any w.heap.size f i/\
  s.preRow enc C.prog fn conds apart laid (w.forCall tape i).memory i.args/\({ modest:=modest }:Assume).holds C.prog (lone (Frame.enter C.prog f i.args .normal) [] (w.forCall tape i)):=
 ⟨w0,fun _ _=>0,⟨#[],args,[]⟩,hos,hsh,(Input.okWide_of_okWideB (base:=0) hok).1,(Input.okWide_of_okWideB hok).2,hrow,by
   simp only[Assume.holds]
   exact ⟨by simp,by simp,fun _=>Modest.zero,by simp,by simp⟩⟩
end
theorem own:ownKnob Tryz.prog.godebug=none:=by kernel_rfl
end Go.Proofs.YtdilmfakkppgpaaGreatDoor
namespace Go.Proofs.YtdilmfakkppgpaaGreatDoor
open Go.RowKit WordsM
def uv (n:Nat):Value:=.int .u64 (n:Int)
def RdU (w:World) (B:Nat) (a:Option Addr) (ls:List Nat):Prop:=
 ls=[]∨∃b o,a=some ⟨b,o,none⟩/\b<B/\∀(j:Nat) x,ls[j]?=some x->w.cell? ⟨b,o+j,none⟩=some (uv x)
theorem RdU.keep {w w':World} {B:Nat} {a:Option Addr} {ls:List Nat} (h:RdU w B a ls) (hk:∀p:Addr,p.block<B->w'.cell? p=w.cell? p):RdU w' B a ls:=by
 rcases h with rfl|⟨b,o,rfl,hb,hc⟩
 ·exact .inl rfl
 ·exact .inr ⟨b,o,rfl,hb,fun j x hx=>(hk _ hb).trans (hc j x hx)⟩
def Q6g (w:World) (b i:Nat):Prop:=∃a n c ls,w.heap[b]?=some (.cells #[.slice a n c,.int .i64 (i:Int)] 62 (0,0))/\ls.length=n/\n<=9223372036854775807/\RdU w b a ls/\∀x∈ls,x<18446744073709551616
section
variable {w w':World} {b i:Nat} {fp:Nat->Prop}
theorem Q6g.lt (h:Q6g w b i):b<w.heap.size:=by
 obtain ⟨a,n,c,ls,hh,_⟩:=h
 exact (Array.getElem?_eq_some_iff.1 hh).1
theorem Q6g.turn (h:Q6g w b i) (ht:Q0m fp w w') (hn:∀k,k<=b->¬fp k):Q6g w' b i:=by
 have hb:=h.lt
 obtain ⟨a,n,c,ls,hh,h1,h2,h3,h4⟩:=h
 exact ⟨a,n,c,ls,(ht.block b hb (hn b (Nat.le_refl _))).trans hh,h1,h2,h3.keep fun p hp=>ht.cell (by omega) (hn _ (by omega)),h4⟩
theorem Q6g.call (h:Q6g w b i) (hb:Below w.heap.size w w'):Q6g w' b i:=h.turn (Q0m.of_below hb fun _=>False) fun _ _ h=>h
end
theorem Q8s (b i:Nat) (w:World) (h:Q6g w b i) (hi:i<=1000000):
 Calls Tryz.prog 38 #[.pointer (some ⟨b,0,none⟩)] w fun e w'=>(∃x:Nat,x<18446744073709551616/\e=.returned (.int .u64 (x:Int)))/\Q6g w' b (i+1)/\Q0m (·=b) w w':=by
 obtain ⟨a,n,c,ls,hh,hln,hn,hrd,hx⟩:=h
 have k0:w.cell? ⟨b,0,none⟩=some (.slice a n c):=by rw[cell_of_row _ _ _ _ _ _ hh];rfl
 have k1:w.cell? ⟨b,1,none⟩=some (.int .i64 (i:Int)):=by rw[cell_of_row _ _ _ _ _ _ hh];rfl
 have f1:w.frozen? ⟨b,1,none⟩=false:=frozen_of_row _ _ _ _ _ hh
 have hfin:∀V:World,V.heap=w.heap->V.os=w.os->V.tape=w.tape->V.output=w.output->Q6g (V.setCell ⟨b,1,none⟩ (.int .i64 ((i:Int)+1))) b (i+1)/\Q0m (·=b) w (V.setCell ⟨b,1,none⟩ (.int .i64 ((i:Int)+1))):=by
  intro V h1 h2 h3 h4
  have hV:V.heap[b]?=some (.cells #[.slice a n c,.int .i64 (i:Int)] 62 (0,0)):=by rw[h1];exact hh
  refine ⟨⟨a,n,c,ls,?_,hln,hn,hrd.keep fun p hp=>?_,hx⟩,?_⟩
  ·rw[heap_setCell_same _ _ _ _ _ _ hV];rfl
  ·rw[World.cell?_setCell_other _ _ _ _ (fun e=>by subst e;exact Nat.lt_irrefl _ hp)]
   exact World.cell?_of_block (by rw[h1])
  ·have ht:=Q0m.setCell (fun k=>k=b) V (p:=⟨b,1,none⟩) rfl (.int .i64 ((i:Int)+1))
   exact ⟨ht.os.trans h2,ht.tape.trans h3,ht.output.trans h4,by rw[<-h1];exact ht.size,fun k hk hn=>by rw[<-h1];exact ht.block k (by rw[h1];exact hk) hn⟩
 have HF:=Lib.hid hfin
 have HR:=Xh2 hrd hx
 clear hfin hh hrd hx
 by_cases hlt:i<n
 ·have hlt':(i:Int)<(n:Int):=by omega
  obtain ⟨x,hxx⟩:∃x,ls[i]?=some x:=⟨_,List.getElem?_eq_getElem (by omega)⟩
  obtain ⟨y,o,rfl,hy,hc⟩:∃y o,a=some ⟨y,o,none⟩/\y<b/\w.cell? ⟨y,o+i,none⟩=some (.int .u64 (x:Int)):=by
   rcases (Xo0 HR) with rfl|⟨y,o,e,hy,hc⟩
   ·simp at hxx
   ·exact ⟨y,o,e,hy,hc i x hxx⟩
  have hx64:=(Xe1 HR) x (List.mem_of_getElem? hxx)
  clear hxx
  go_enter Tryz.func38,Tryz.ntmps38
  go_wp2_with fail
  go_quiet (fail)
  go_wp2_with fail
  go_quiet (fail)
  go_wp2_with fail
  go_ret
  exact ⟨⟨x,hx64,rfl⟩,HF.out _ rfl rfl rfl rfl⟩
 ·have hlt':¬((i:Int)<(n:Int)):=by omega
  go_enter Tryz.func38,Tryz.ntmps38
  go_wp2_with fail
  go_quiet (fail)
  go_wp2_with fail
  go_ret
  exact ⟨⟨0,by omega,rfl⟩,HF.out _ rfl rfl rfl rfl⟩
theorem Qka (a:Option Addr) (n c:Nat) (ls:List Nat) (w:World) (hl:ls.length=n) (hn:n<=9223372036854775807) (h:RdU w w.heap.size a ls) (hx:∀x∈ls,x<18446744073709551616):
 Calls Tryz.prog 9 #[.slice a n c] w fun e w'=>e=.returned (.pointer (some ⟨w.heap.size,0,none⟩))/\Q6g w' w.heap.size 0/\Below w.heap.size w w':=by
 have H:=Lib.hid h
 clear h
 go_enter Tryz.func9,Tryz.ntmps9
 go_wp2_with fail
 go_ret
 exact ⟨rfl,⟨a,n,c,ls,heap_alloc_new _ _,hl,hn,H.out.keep fun p hp=>World.cell?_alloc_lt _ _ p hp,hx⟩,(Below.refl _ _).alloc (Nat.le_refl _) _⟩
theorem Qkb {neg:Bool} {v:Nat} {exp:Int} {neg':Bool} {e':Int} {L:List Nat} {er:Int} (h:Q6k neg v exp neg' e' L er):Q0g neg' e' L:=by
 rcases h with ⟨_,rfl,rfl,rfl,_⟩|⟨z,_,⟨_,rfl,rfl,rfl,_⟩|⟨_,_,h,rfl,rfl,rfl,_⟩⟩
 ·simp[Q0g]
 ·simp[Q0g]
 ·exact h
def Qno (e:Ending) (w':World):Prop:=∃neg' e' a' n' c' L,e=.returned (.agg #[.bool neg',.int .i64 e',.slice a' n' c'])/\Q0g neg' e' L/\WordsIn w' a' n' c' L
theorem Qgw (neg:Bool) (a:Option Addr) (n c:Nat) (ls:List Nat) (exp:Int) (w:World) (h:WordsIn w a n c ls) (hn:n<=100000) (he: -1000000000<=exp) (he2:exp<=1000000000):
 Calls Tryz.prog 50 #[.bool neg,.slice a n c,.int .i64 exp] w fun e w'=>Qno e w'/\Below w.heap.size w w':=by
 have hB0:∀o,Below w.heap.size w (w.alloc o):=fun o=>(Below.refl _ _).alloc (Nat.le_refl _) _
 have hl0:=Q0h w (.cells #[.bool false,.int .i64 0,.slice none 0 0] 41)
 have hN0:=Q06.new w (.bool false) (.int .i64 0) (.slice none 0 0) 41
 have hm:=Qfw neg a n c ls exp (w.alloc (.cells #[.bool false,.int .i64 0,.slice none 0 0] 41)) (h.step (hB0 _)) hn he he2
 have HM:=Xh2 hm hN0
 clear hm hN0 h
 go_enter Tryz.func50,Tryz.ntmps50
 go_wp2_with (refine (Xo0 HM).mono ?_;rintro e w1 ⟨neg2,e2,a2,n2,c2,L,er,rfl,hmo,hW,hb1⟩;
              have hba:Below w1.heap.size w1 (w1.alloc (.cells #[.bool neg2,.int .i64 e2,.slice a2 n2 c2] 41)):=(Below.refl _ _).alloc (Nat.le_refl _) _;
              have hbb:=Below.next0 hb1 hba;
              have hNN:=(Xe1 HM).step hbb hl0;have hc0:=hNN.c0;have hc1:=hNN.c1;have hc2:=hNN.c2;have hf0:=hNN.f0;have hf1:=hNN.f1;have hf2:=hNN.f2;have hd1:=hNN.d1 (.bool neg2);have hd2:=hNN.d2 (.bool neg2) (.int .i64 e2);
              have hGN:=Q06.new w1 (.bool neg2) (.int .i64 e2) (.slice a2 n2 c2) 41;have hg0:=hGN.c0;have hg1:=hGN.c1;have hg2:=hGN.c2;
              have HB1:=Xh4 hNN (Below.next0 (hB0 _) hbb) (hW.step hba) hmo;clear hNN hGN hba hbb hb1 hW hmo)
 have hS5:=(Xo0 HB1).store (.bool neg2) (.int .i64 e2) (.slice a2 n2 c2)
 have k0:=hS5.c0
 have k1:=hS5.c1
 have k2:=hS5.c2
 have hb6:=Q06.below (Xo1 HB1) (Nat.le_refl _) (.bool neg2) (.int .i64 e2) (.slice a2 n2 c2)
 have hWw:=(Xo2 HB1)
 have hW6:WordsIn _ a2 n2 c2 L:=⟨hWw.len,hWw.cap,hWw.most,hWw.low,(hWw.rd.store3 (Xo0 HB1) (fun _=>by simp[nv]) (fun _=>by simp[nv]) (fun _=>by simp[nv]) (.bool neg2) (.int .i64 e2) (.slice a2 n2 c2)).more (Q1e _ _ _ _ _)⟩
 clear hS5 hc0 hc1 hc2 hf0 hf1 hf2 hd1 hd2 hWw hg0 hg1 hg2
 generalize World.setCell _ _ _=W5 at k0 k1 k2 hb6 hW6⊢
 refine ⟨rfl,.agg #[.bool neg2,.int .i64 e2,.slice a2 n2 c2],by simp[results,go_sem,k0,k1,k2],⟨neg2,e2,a2,n2,c2,L,rfl,Qkb (Xe3 HB1),hW6⟩,hb6⟩
theorem Q0m.newSet {fp:Nat->Prop} {w w':World} (h:Q0m fp w w') {p:Addr} (hp:w.heap.size<=p.block) (v:Value):Q0m fp w (w'.setCell p v):=
 ⟨h.os,h.tape,h.output,by rw[World.size_setCell];exact h.size,fun k hk hn=>(Below.heap_setCell _ _ _ _ (by omega)).trans (h.block k hk hn)⟩
theorem Qrv (a b:Nat) (ha:a<18446744073709551616) (hb:b<18446744073709551616):∃p:Nat,bits .and .u64 (a:Int) (b:Int)=(p:Int)/\p<18446744073709551616:=⟨_,u64_and_nat a b ha hb,Nat.and_lt_two_pow (n:=64) _ hb⟩
theorem Qrw (w:World) (m:Nat) (hm:m<18446744073709551616) (T:TypeId):WordsIn (w.alloc (.cells #[.int .u64 (m:Int)] T)) (some ⟨w.heap.size,0,none⟩) 1 1 [m]:=
 ⟨rfl,Nat.le_refl _,by omega,fun x hx=>by rw[List.mem_singleton] at hx;subst hx;exact hm,.inr ⟨w.heap.size,0,rfl,Q0h _ _,fun j x hx=>by
   cases j with
   |zero=>simp only[List.getElem?_cons_zero,Option.some.injEq] at hx;subst hx;rw[cell_of_row _ _ _ _ _ _ (heap_alloc_new _ _)];rfl
   |succ j=>simp at hx⟩⟩
end Go.Proofs.YtdilmfakkppgpaaGreatDoor
namespace Go.Proofs.YtdilmfakkppgpaaGreatDoor
open Go.ChangeShapes Go.WideShapes Go.ChangeAt Go.RowKit
theorem Qan {H:Type} {enc:TypeId × Value->H} {W:World} {sp:Nat->Bool} {hd:Bool} {a:Option Addr} {len cap:Nat} {d:DataW H} {p:List MemPlace}
 (h:DataW.Trod enc Tryz.prog W 0 sp hd 23 (.slice a len cap) d p):
 ∃ls:List Nat,ls.length=len/\len<=9223372036854775807/\RdU W W.heap.size a ls/\∀x∈ls,x<18446744073709551616:=by
 obtain ⟨fuel,hf⟩:=h
 rcases open_ints Tryz.underlying23 Tryz.underlying74 (by kernel_rfl) hf with ⟨hcs,_⟩|⟨x,l,c,zs,hcs,_,hl,hm,hz,_,hcell,hwz⟩
 ·simp[Value.cells] at hcs
  obtain ⟨rfl,rfl,rfl⟩:=hcs
  exact ⟨[],rfl,by omega,.inl rfl,by simp⟩
 ·simp[Value.cells] at hcs
  obtain ⟨rfl,rfl,rfl⟩:=hcs
  unfold maxLen at hm
  have hzl:len<=zs.length:=by rw[hz];split <;> omega
  have hin:∀(i:Nat) z,zs[i]?=some z->0<=z/\z<=18446744073709551615:=by
   intro i z hi
   have:=hwz z (List.mem_of_getElem? hi)
   simpa[Lit.wf,IntKind.min,IntKind.max,IntKind.signed,IntKind.bits] using this
  refine ⟨(zs.take len).map fun n=>n.toNat,by simp;omega,by omega,?_,?_⟩
  ·by_cases h0:len=0
   ·exact .inl (by simp[h0])
   ·obtain ⟨b,o,spot⟩:=x
    have h1:=hcell 0 (by omega)
    have hspot:spot=none:=by simpa[Addr.add] using World.cell?_spot h1
    subst hspot
    have hb:b<W.heap.size:=by
     have:=block_lt_of_cell h1
     rwa[show (Addr.add ⟨b,o,none⟩ 0).block=b by simp[Addr.add]] at this
    refine .inr ⟨b,o,rfl,hb,fun j y hy=>?_⟩
    rw[List.getElem?_map] at hy
    cases hz2:(zs.take len)[j]? with
    |none=>rw[hz2] at hy;cases hy
    |some z=>
     rw[hz2] at hy
     simp only[Option.map_some,Option.some.injEq] at hy
     subst hy
     rw[List.getElem?_take] at hz2
     split at hz2
     ·next hj=>
      obtain ⟨hr0,hr1⟩:=hin j z hz2
      have hjl:j<zs.length:=(List.getElem?_eq_some_iff.1 hz2).1
      have h2:=hcell j hjl
      rw[show (⟨b,o,none⟩:Addr).add j=⟨b,o+j,none⟩ by unfold Addr.add;split <;> simp_all] at h2
      have e:zs.getD j 0=z:=by rw[List.getD_eq_getElem?_getD,hz2];rfl
      rw[h2,e]
      unfold uv
      congr 2;omega
     ·cases hz2
  ·intro x hx
   obtain ⟨z,hz3,rfl⟩:=List.mem_map.1 hx
   obtain ⟨i,hi⟩:=List.mem_iff_getElem?.1 (List.mem_of_mem_take hz3)
   have:=hin i z hi
   omega
end Go.Proofs.YtdilmfakkppgpaaGreatDoor
namespace Go.Proofs.YtdilmfakkppgpaaGreatDoor
open Go.ChangeShapes Go.WideShapes Go.ChangeAt Go.RowKit Go.Joins WordsM
theorem Qkc {H:Type} {enc:TypeId × Value->H} {W:World} {sp:Nat->Bool} {hd:Bool} {fuel:Nat} {v:Value} {y:DataW H × List MemPlace}
 (h:DataW.trod enc Tryz.prog W 0 sp hd fuel 23 [v]=some y):
 ∃(a:Option Addr) (n c:Nat) (ks:List Nat),v=.slice a n c/\WordsIn W a n c ks:=by
 rcases open_ints Tryz.underlying23 Tryz.underlying74 (by kernel_rfl) h with ⟨hcs,_⟩|⟨x,l,c,zs,hcs,_,hl,hm,hz,_,_,_⟩
 ·injection hcs with hv _
  subst hv
  obtain ⟨ls,h1,_,h3,h4⟩:=Qan ⟨_,h⟩
  have h5:ls=[]:=List.eq_nil_of_length_eq_zero h1
  subst h5
  exact ⟨none,0,0,[],rfl,⟨rfl,Nat.le_refl _,by decide,fun _ hx=>(by cases hx),Or.inl rfl⟩⟩
 ·injection hcs with hv _
  subst hv
  obtain ⟨ls,h1,_,h3,h4⟩:=Qan ⟨_,h⟩
  unfold maxLen at hm
  exact ⟨some x,l,c,ls,rfl,⟨h1,hl,by omega,h4,h3⟩⟩
end Go.Proofs.YtdilmfakkppgpaaGreatDoor
