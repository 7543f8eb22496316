/- Part 27 of the proof of LawParseMeans: ShowW, Law12A, ParFrame, Deck, OpenU4, RefCS. Condition: as each theorem says; none at the end. -/
import Derived.Test.YtdilmfakkppgpaaGreatDoorCards
import Derived.Test.YtdilmfakkppgpaaGreatDoorTie
import Derived.ProofKit
import Derived.OpenShut
import Derived.Deep.DeepHandedRow
import Derived.Lib.LaidTab
import Derived.Stop.LaidErr
import Derived.Shelf.Vars
import Derived.Lay
import Derived.Deep.Matrix
import Derived.Test.YtdilmfakkppgpaaGreatDoorPkParseMeans26
set_option maxRecDepth 100000
set_option maxHeartbeats 16000000
namespace Go.Proofs.YtdilmfakkppgpaaGreatDoor
open Go.RowKit WordsM DecM
theorem Q7b (P:List Q0b):∀(F:List (List Q0b)) (i:Nat),Q1n i (F++[P])=Q1n i F++Q5i (i+F.length) P
 |[],i=>by simp[Q1n]
 |Q::F,i=>by
  rw[List.cons_append,Q1n,Q7b P F (i+1),Q1n,List.append_assoc,List.length_cons,show i+1+F.length=i+(F.length+1) by omega]
theorem Qbo (p:Q0b):∀(l:List Q0b) (b:Bool),Q0g b (l++[p])=Q0g b l++(Q2n (b && l.isEmpty) p++Q11 p)
 |[],b=>by simp[Q0g]
 |q::l,b=>by
  rw[List.cons_append,Q0g,Qbo p l false,Q0g]
  simp
theorem Qgj {α:Type} {l:List α} {i:Nat} {x:α} (h:l[i]?=some x):l.take (i+1)=l.take i++[x]:=by rw[List.take_add_one,h];rfl
def Q20 (F:List (List Q05)):List (List Q0b):=F.map (List.map Q05.term)
theorem Qmu {F:List (List Q05)} {i:Nat} {ms:List Q05} (h:F[i]?=some ms):(Q20 F)[i]?=some (ms.map Q05.term):=by unfold Q20;rw[List.getElem?_map,h];rfl
theorem Qqc {k:Nat} {m:Q05} (h:OkM k m) (hl:Low (2^64) m.ws):Q2y m.term.1=m.neg:=by
 obtain ⟨⟨h1,h2⟩,h3⟩:=h
 rcases Q2c h2 hl with ⟨h4,_⟩|⟨_,ho,_,hv,g1,g2⟩
 ·exact absurd h4 h3
 ·exact Q8u ho
theorem Qiy {k:Nat} {m:Q05} (h:OkM k m) (hk:k<=4) (hl:Low (2^64) m.ws):(Q11 m.term).length<=7005:=by
 obtain ⟨_,g2,_,g4⟩:=Qgh h hl
 have hlen:m.es.length<=4:=by have:=h.1.1.1;omega
 obtain ⟨h1,h2⟩:=Q7a m.es 0 (by omega) (fun x hx=>(Q2a h.1.1 x hx).2)
 have hall:∀t∈Q3p m.term,t.length<=1400:=fun t ht=>by
  unfold Q3p at ht
  split at ht
  ·rcases List.mem_cons.1 ht with rfl|ht
   ·rw[g2];exact g4
   ·have:=h1 t ht;omega
  ·have:=h1 t ht;omega
 have hcnt:(Q3p m.term).length<=5:=by
  have h2':(Q2j 0 m.term.2).length<=4:=Nat.le_trans h2 hlen
  unfold Q3p
  split
  ·rw[List.length_cons];omega
  ·omega
 have:=Qbl _ hall
 have:(Q3p m.term).length*1401<=5*1401:=Nat.mul_le_mul_right _ hcnt
 show (Q48 (Q3p m.term)).length<=_
 omega
theorem Qiz (b:Bool) (p:Q0b):(Q2n b p).length<=3:=by
 unfold Q2n
 split <;> split <;> decide
theorem Qgk {T:List Q0b} (h:∀p∈T,(Q11 p).length<=7005):∀b,(Q0g b T).length<=T.length*7008:=by
 induction T with
 |nil=>intro b;simp[Q0g]
 |cons p r ih=>
  intro b
  have h1:=h p (by simp)
  have h2:=Qiz b p
  have h3:=ih (fun q hq=>h q (by simp[hq])) false
  rw[Q0g,List.length_append,List.length_append,List.length_cons,Nat.add_mul]
  omega
def Qth (F:List (List Q05)):Prop:=∀ms∈F,ms.length<=24/\∀m∈ms,(Q11 m.term).length<=7005
theorem Q7c {ms:List Q05} (h:ms.length<=24/\∀m∈ms,(Q11 m.term).length<=7005) (k:Nat):(Q0g true ((ms.map Q05.term).take k)).length<=168192:=by
 have h1:=Qgk (T:=(ms.map Q05.term).take k) (fun p hp=>by
  obtain ⟨m,hm,rfl⟩:=List.mem_map.1 (List.mem_of_mem_take hp)
  exact h.2 m hm) true
 have h2:((ms.map Q05.term).take k).length<=24:=by rw[List.length_take,List.length_map];omega
 have:=Nat.mul_le_mul_right 7008 h2
 omega
theorem Qj0 {ms:List Q05} (h:ms.length<=24/\∀m∈ms,(Q11 m.term).length<=7005) {i:Nat} (hi:i<9):(Q5i i (ms.map Q05.term)).length<=168200:=by
 have h1:=Q7c h ms.length
 have h0:(ms.map Q05.term).length=ms.length:=List.length_map ..
 rw[<-h0,List.take_length] at h1
 have h2:=Q4f i hi
 unfold Q5i Q15
 rw[List.length_append,List.length_append,h2]
 split
 ·simp
 ·simp only[List.length_cons,List.length_nil];omega
theorem Q9l {F:List (List Q05)} (h:Qth F):∀i,i+F.length<=9->(Q1n i (Q20 F)).length<=F.length*168200:=by
 induction F with
 |nil=>intro i _;simp[Q1n,Q20]
 |cons ms r ih=>
  intro i hi
  rw[List.length_cons] at hi
  have h1:=Qj0 (h ms (by simp)) (i:=i) (by omega)
  have h2:=ih (fun x hx=>h x (by simp[hx])) (i+1) (by omega)
  show (Q5i i (ms.map Q05.term)++Q1n (i+1) (Q20 r)).length<=_
  rw[List.length_append,List.length_cons,Nat.add_mul]
  omega
theorem Qks {w:World} {a:Option Addr} {n c:Nat} {F:List (List Q05)} (h:Q49 w a n c F) (hR:Q5b F):Qth F:=by
 intro ms hms
 obtain ⟨_,h4,hr⟩:=hR
 obtain ⟨r1,r2,r3,r4,r5⟩:=hr ms hms
 refine ⟨r3,fun m hm=>Qiy (r4 m hm) h4 ?_⟩
 obtain ⟨h1,h2,h3,h0|⟨b,o,_,_,hF⟩⟩:=h
 ·rw[h0] at hms;cases hms
 obtain ⟨i,hi⟩:=List.mem_iff_getElem?.1 hms
 obtain ⟨p,l,d,_,hM⟩:=hF i ms hi
 obtain ⟨_,_,_,h0|⟨b2,o2,_,_,hM⟩⟩:=hM
 ·rw[h0] at hm;cases hm
 obtain ⟨j,hj⟩:=List.mem_iff_getElem?.1 hm
 obtain ⟨_,_,_,_,_,_,_,_,_,_,hw,_⟩:=hM j m hj
 exact hw.low
def Qup (w1:World) (F:List (List Q05)) (s13:Value) (wr:World):Prop:=∃i:Nat,s13=.int .i64 (i:Int)/\i<=F.length/\Q9v w1.heap.size w1.heap.size (Q1n 0 ((Q20 F).take i)) wr/\Below w1.heap.size w1 wr
def Qkt (w1:World) (L0:List UInt8) (ms:List Q05) (s27:Value) (wr:World):Prop:=∃k:Nat,s27=.int .i64 (k:Int)/\k<=ms.length/\Q9v w1.heap.size w1.heap.size (L0++Q0g true ((ms.map Q05.term).take k)) wr/\Below w1.heap.size w1 wr
theorem Q33.build {B b:Nat} {l:List UInt8} {w:World} (h:Q33 B b (.pointer (some ⟨b,0,none⟩)) l w):Q9v B b l w:=.inr h
theorem Q88 (a:Option Addr) (n c:Nat) (F:List (List Q05)) (w:World) (h:Q49 w a n c F) (hT:Q24 w) (hP:Qmp w):
 Calls Tryz.prog 12 #[.slice a n c] w fun r w'=>(Q5b F->r=.returned (sv (Q1n 0 (Q20 F))))/\(¬Q5b F->r=.returned (sv []))/\Below w.heap.size w w':=by
 have hfr:=Qc6 a n c F w h
 by_cases hR:Q5b F
 case neg=>
  have H:=Xh2 hfr hR
  clear hfr h hT hP hR
  go_enter Tryz.func12,Tryz.ntmps12
  go_wp2_with (go_at_call_of 30 (Value.slice a n c);refine (Xo0 H).mono ?_;rintro r w1 ⟨⟨bb,rfl,hiff⟩,hb1⟩;obtain rfl:bb=false:=by { cases bb with|false=>rfl|true=>exact absurd (hiff.1 rfl) (Xe1 H) };have H1:=Lib.hid hb1;clear hiff hb1)
  go_ret
  exact ⟨fun h=>absurd h (Xe1 H),fun _=>rfl,H1.out⟩
 case pos=>
 have hsh:=Qks h hR
 have hln:=h.1
 have hn4:n<=4:=by have:=hR.2.1;omega
 have H:=Xh6 hfr hR h hT hP hsh
 clear hfr h hT hP hsh
 go_enter Tryz.func12,Tryz.ntmps12
 go_wp2_with (go_at_call_of 30 (Value.slice a n c);refine (Xo0 H).mono ?_;rintro r w1 ⟨⟨bb,rfl,hiff⟩,hb1⟩;obtain rfl:bb=true:=hiff.2 (Xo1 H);have H1:=Lib.hid hb1;clear hiff hb1)
 have hal:Below w1.heap.size w1 (w1.alloc (.cells #[.pointer none,.slice none 0 0] 66)):=(Below.refl _ _).alloc (Nat.le_refl _) _
 have hbn:=Q9v.new w1.heap.size w1 (Nat.le_refl _)
 have HB:=Xh2 hal hbn
 clear hal hbn hR
 generalize w1.alloc (.cells #[.pointer none,.slice none 0 0] 66)=W2 at HB⊢
 rename World=>W2
 go_loopw [13] (fun s13 wr=>Qup w1 F s13 wr) (fun iv _=>n-(intOf iv).toNat)
 case atStart=>exact ⟨0,rfl,Nat.zero_le _,(Xe1 HB),(Xo0 HB)⟩
 case round=>
  obtain ⟨i,rfl,hi,hbd,hbr⟩:=hrel
  by_cases hlt:i<F.length
  ·have hlt':(i:Int)<(n:Int):=by omega
   obtain ⟨ms,hms⟩:∃ms,F[i]?=some ms:=⟨_,List.getElem?_eq_getElem hlt⟩
   have hF:=(Xo2 H).step H1.out
   have hmem:=List.mem_of_getElem? hms
   have hrv:=(Xo1 H).2.2 ms hmem
   have hshm:=(Xe5 H) ms hmem
   have hpre:(Q1n 0 ((Q20 F).take i)).length<=672800:=by
    have h1:=Q9l (F:=F.take i) (fun x hx=>(Xe5 H) x (List.mem_of_mem_take hx)) 0 (by rw[List.length_take];omega)
    have h2:(F.take i).length<=4:=by rw[List.length_take];omega
    have h3:=Nat.mul_le_mul_right 168200 h2
    unfold Q20 at h1⊢
    rw[<-List.map_take]
    omega
   have hnext:=Qgj (Qmu hms)
   obtain ⟨_,_,_,h0|⟨g,o,rfl,hg,hFi⟩⟩:=hF
   ·rw[h0] at hlt;exact absurd hlt (Nat.not_lt_zero _)
   obtain ⟨p,l,d,hcell,hM⟩:=hFi i ms hms
   have hll:=hM.1
   have hcell:=(hbr.cell (p:=⟨g,o+i,none⟩) hg).trans hcell
   have hhd:=Qkl i (by omega) wr
   have hwr1:=Q27 w1.heap.size w1.heap.size (Q1n 0 ((Q20 F).take i)) (Q2l i) wr hbd (by rw[Q4f i (by omega)];omega) hbr.size
   have HR:=Xh9 hms hrv hshm hpre hnext hM hhd hwr1 hbr
   clear hms hrv hshm hpre hnext hM hhd hwr1 hbr hbd hmem hFi
   obtain ⟨L0,hL0⟩:∃L0,Q1n 0 ((Q20 F).take i)++Q2l i=L0:=⟨_,rfl⟩
   have HL:=Lib.hid hL0
   rw[hL0] at HR
   clear hL0
   obtain ⟨HM,hHM⟩:∃t,Q2l i=t:=⟨_,rfl⟩
   rw[hHM] at HR
   have HHM:=Lib.hid hHM
   clear hHM
   have hfin:Q5i i (ms.map Q05.term)=Q2l i++(Q15 (ms.map Q05.term)++[10]):=rfl
   by_cases hms0:ms=[]
   ·subst hms0
    obtain rfl:l=0:=hll.symm
    go_wp2_with (first
     |(go_at_call_of 31 (Value.pointer (some ⟨w1.heap.size,0,none⟩));refine (Xe1 H3).mono ?_;rintro r w4 ⟨rfl,hb4,hbl4,_⟩
       have hb4w:=Below.trans (Xo0 H3) hbl4
       have hwr3:=Q27 w1.heap.size w1.heap.size (L0++[48]) [10] w4 hb4.build (by rw[<-HL.out,List.length_append,List.length_append,Q4f i (by omega)];have:=(Xo3 HR);simp;omega) hb4w.size
       have H4:=Xh2 hb4w hwr3
       clear hb4 hbl4 hb4w hwr3)
     |(go_at_call_of 31 (Value.pointer (some ⟨w1.heap.size,0,none⟩));refine (Xo7 HR).mono ?_;rintro r w3 ⟨rfl,hb3,hbl3,_⟩
       have hb3w:=Below.trans (Xe8 HR) hbl3
       have hwr2:=Q27 w1.heap.size w1.heap.size L0 [48] w3 hb3.build (by rw[<-HL.out,List.length_append,Q4f i (by omega)];have:=(Xo3 HR);simp;omega) hb3w.size
       have H3:=Xh2 hb3w hwr2
       clear hb3 hbl3 hb3w hwr2)
     |(go_at_call_of 32 (Value.int IntKind.i64 (i:Int));refine (Xo6 HR).mono ?_;rintro r w2 ⟨rfl,rfl⟩))
    go_loopw [27] (fun s27 wr=>s27=.int .i64 0/\wr=w4) (fun _ _=>0)
    case atStart=>exact ⟨rfl,rfl⟩
    case round=>
     obtain ⟨rfl,rfl⟩:=hrel
     go_wp2_with (go_at_call_of 31 (Value.pointer (some ⟨w1.heap.size,0,none⟩));refine (Xe1 H4).mono ?_;rintro r w5 ⟨rfl,hb5,hbl5,_⟩;have H5:=Xh2 hb5 hbl5;clear hb5 hbl5)
     refine ⟨⟨i+1,congrArg (Value.int .i64) (by omega),hlt,?_,Below.trans (Xo0 H4) (Xe1 H5)⟩,by simp only[intOf];omega⟩
     rw[(Xo4 HR),Q7b]
     have e:(Q1n 0 ((Q20 F).take i)++Q5i (0+((Q20 F).take i).length) (List.map Q05.term []))=L0++[48]++[10]:=by
      rw[show 0+((Q20 F).take i).length=i by rw[List.length_take];unfold Q20;rw[List.length_map];omega,hfin,<-HL.out]
      simp[Q15]
     rw[e]
     exact (Xo0 H5).build
   ·have hl0:((l:Int)==0)=false:=by
     rw[beq_eq_false_iff_ne]
     intro e
     exact hms0 (List.eq_nil_of_length_eq_zero (by omega))
    have HN0:=Lib.hid hms0
    clear hms0
    go_wp2_with (first
     |(go_at_call_of 31 (Value.pointer (some ⟨w1.heap.size,0,none⟩));refine (Xo7 HR).mono ?_;rintro r w3 ⟨rfl,hb3,hbl3,_⟩
       have hb3w:=Below.trans (Xe8 HR) hbl3
       have H3:=Xh2 hb3w hb3
       clear hb3 hbl3 hb3w)
     |(go_at_call_of 32 (Value.int IntKind.i64 (i:Int));refine (Xo6 HR).mono ?_;rintro r w2 ⟨rfl,rfl⟩))
    go_loopw [27] (fun s27 wr=>Qkt w1 L0 ms s27 wr) (fun iv _=>l-(intOf iv).toNat)
    case atStart=>exact ⟨0,rfl,Nat.zero_le _,by simpa[Q0g] using (Xe1 H3).build,(Xo0 H3)⟩
    case round=>
     obtain ⟨k,rfl,hk,hbk,hbw⟩:=hrel
     by_cases hkl:k<ms.length
     ·have hkl':(k:Int)<(l:Int):=by omega
      obtain ⟨m,hm⟩:∃m,ms[k]?=some m:=⟨_,List.getElem?_eq_getElem hkl⟩
      obtain ⟨_,_,_,h0|⟨b2,o2,rfl,hb2,hMi⟩⟩:=(Xo5 HR)
      ·exact absurd h0 HN0.out
      obtain ⟨aw,lw,cw,ae,le,ce,q0,q1,q2,q3,hwm,hem,hx1,hx2⟩:=hMi k m hm
      have q0:=(hbw.cell (p:=⟨b2,o2+k*4,none⟩) hb2).trans q0
      have q1:=(hbw.cell (p:=⟨b2,o2+k*4+1,none⟩) hb2).trans q1
      have q2:=(hbw.cell (p:=⟨b2,o2+k*4+2,none⟩) hb2).trans q2
      have q3:=(hbw.cell (p:=⟨b2,o2+k*4+3,none⟩) hb2).trans q3
      have hkx:OkM F.length m:=(Xo1 HR).2.2.2.1 m (List.mem_of_getElem? hm)
      have hnb:=Qqc hkx hwm.low
      have hnx:=Qbo m.term ((ms.map Q05.term).take k) true
      have htk:(ms.map Q05.term).take (k+1)=(ms.map Q05.term).take k++[m.term]:=Qgj (by rw[List.getElem?_map,hm];rfl)
      have hpl:=Q7c (Xo2 HR) k
      have htl:=(Xo2 HR).2 m (List.mem_of_getElem? hm)
      have hL0l:L0.length<=672806:=by rw[<-HL.out,List.length_append,Q4f i (by omega)];have:=(Xo3 HR);omega
      have hX:=Q2s.new wr (.bool m.neg) (.int .i64 m.exp) (.slice aw lw cw) (.slice ae le ce) 44
      have hhx:=heap_alloc_new wr (.cells #[.bool m.neg,.int .i64 m.exp,.slice aw lw cw,.slice ae le ce] 44)
      have hbx:Below wr.heap.size wr (wr.alloc (.cells #[.bool m.neg,.int .i64 m.exp,.slice aw lw cw,.slice ae le ce] 44)):=(Below.refl _ _).alloc (Nat.le_refl _) _
      have hbX:=Below.next0 hbw hbx
      have hbkX:=hbk.call hbx
      have hbn:w1.heap.size≠wr.heap.size:=by
       have h1:=hbk
       unfold Q9v at h1
       intro e
       rcases h1 with ⟨_,_,h2,_⟩|⟨_,_,h2,_⟩
       ·have:=(Array.getElem?_eq_some_iff.1 h2).1;omega
       ·have:=(Array.getElem?_eq_some_iff.1 h2).1;omega
      obtain ⟨L1,hL1⟩:∃L1,L0++Q0g true ((ms.map Q05.term).take k)=L1:=⟨_,rfl⟩
      have hL1l:L1.length<=840998:=by rw[<-hL1,List.length_append];omega
      rw[hL1] at hbkX
      have hterm:=fun W=>Qgi F.length m aw lw cw ae le ce W
      obtain ⟨TT,hTT⟩:∃t,Q11 m.term=t:=⟨_,rfl⟩
      rw[hTT] at hnx htl hterm
      obtain ⟨ng,hng⟩:∃ng,m.neg=ng:=⟨_,rfl⟩
      rw[hng] at q0 hX hhx hbx hbX hbkX hterm hnb
      have HS:=Xh17 hnx htk hwm hem hkx hX hhx hbx hbX hbkX hbn hterm htl hL1 hL1l hng hnb
      clear hTT hnx htk hwm hem hkx hX hhx hbx hbX hbkX hbn hterm htl hL1 hL1l hpl hL0l hng hnb hbk hbw hMi hx1 hx2
      have hend:∀(st:List UInt8) (w9:World),Q2n (true && ((ms.map Q05.term).take k).isEmpty) m.term=st->Q33 w1.heap.size w1.heap.size (.pointer (some ⟨w1.heap.size,0,none⟩)) (L1++st++TT) w9->Below w1.heap.size w1 w9->Qkt w1 L0 ms (.int .i64 ((k:Int)+1)) w9:=fun st w9 hs h1 h2=>by
       refine ⟨k+1,congrArg (Value.int .i64) (by omega),hkl,?_,h2⟩
       rw[(Xo1 HS),(Xo0 HS),hs,<-List.append_assoc,(Xo13 HS),<-List.append_assoc]
       exact h1.build
      have HE:=Lib.hid hend
      clear hend
      cases ng with
      |true=>
       by_cases hk0:0<k
       ·have hk0':(0:Int)<(k:Int):=by omega
        have hsg:Q2n (true && ((ms.map Q05.term).take k).isEmpty) m.term=[32,45,32]:=by
         have e:((ms.map Q05.term).take k).isEmpty=false:=by
          rw[List.isEmpty_eq_false_iff]
          intro h
          have:=congrArg List.length h
          rw[List.length_take,List.length_map] at this
          have e0:([]:List Q0b).length=0:=rfl
          omega
         rw[e,Q2n,(Xe16 HS)];rfl
        have e0:=(Xo5 HS).c0
        have e1:=(Xo5 HS).c1
        have e2:=(Xo5 HS).c2
        have e3:=(Xo5 HS).c3
        have hws:=Q27 w1.heap.size w1.heap.size L1 [32,45,32] (wr.alloc (.cells #[.bool true,.int .i64 m.exp,.slice aw lw cw,.slice ae le ce] 44)) (Xo9 HS) (by have:=(Xo14 HS);simp;omega) (Xo8 HS).size
        have HA:=Xh2 hsg hws
        clear hsg hws
        go_wp2_with (first
         |(go_at_call_of 31 (Value.pointer (some ⟨w1.heap.size,0,none⟩));refine (Xe1 H6).mono ?_;rintro r w7 ⟨rfl,hb7,hbl7,_⟩
           have H7:=Xh2 hb7 (Below.trans (Xo0 H6) hbl7)
           clear hb7 hbl7)
         |(go_at_call_of 33 (Value.agg #[.bool true,.int .i64 m.exp,.slice aw lw cw,.slice ae le ce]);refine (Xe2 H5).mono ?_;rintro r w6 ⟨rfl,hb6⟩
           have hb6w:=Below.next0 (Xo1 H5) hb6
           have hwt:=Q27 w1.heap.size w1.heap.size (L1++[32,45,32]) TT w6 (Q33.call (Xo0 H5) hb6).build (by have:=(Xo14 HS);have:=(Xo12 HS);rw[List.length_append];simp;omega) hb6w.size
           have H6:=Xh2 hb6w hwt
           clear hb6 hb6w hwt)
         |(go_at_call_of 31 (Value.pointer (some ⟨w1.heap.size,0,none⟩));refine (Xe1 HA).mono ?_;rintro r w5 ⟨rfl,hb5,hbl5,hkp5⟩
           have hX5:=(Xo5 HS).onKept (hkp5 wr.heap.size _ _ _ (Xo6 HS) (by decide) (fun e=>(Xo10 HS) e.symm))
           have e0:=hX5.c0
           have e1:=hX5.c1
           have e2:=hX5.c2
           have e3:=hX5.c3
           have hb5w:=Below.trans (Xo8 HS) hbl5
           have hb50:=Below.next0 H1.out hb5w
           have htm:=(Xo11 HS) w5 ((Xo2 HS).step hb5w) ((Xo3 HS).step hb5w) (Xo4 HS) (by omega) ((Xo3 H).step hb50) ((Xo4 H).step hb50)
           have H5:=Xh3 hb5 hb5w htm
           clear hb5 hbl5 hkp5 hX5 hb5w hb50 htm))
        exact ⟨HE.out _ _ (Xo0 HA) (Xo0 H7) (Xe1 H7),by simp only[intOf];omega⟩
       ·have hk0':¬((0:Int)<(k:Int)):=by omega
        have hsg:Q2n (true && ((ms.map Q05.term).take k).isEmpty) m.term=[45]:=by
         have e:((ms.map Q05.term).take k).isEmpty=true:=by
          rw[show k=0 by omega];rfl
         rw[e,Q2n,(Xe16 HS)];rfl
        have e0:=(Xo5 HS).c0
        have e1:=(Xo5 HS).c1
        have e2:=(Xo5 HS).c2
        have e3:=(Xo5 HS).c3
        have hws:=Q27 w1.heap.size w1.heap.size L1 [45] (wr.alloc (.cells #[.bool true,.int .i64 m.exp,.slice aw lw cw,.slice ae le ce] 44)) (Xo9 HS) (by have:=(Xo14 HS);simp;omega) (Xo8 HS).size
        have HA:=Xh2 hsg hws
        clear hsg hws
        go_wp2_with (first
         |(go_at_call_of 31 (Value.pointer (some ⟨w1.heap.size,0,none⟩));refine (Xe1 H6).mono ?_;rintro r w7 ⟨rfl,hb7,hbl7,_⟩
           have H7:=Xh2 hb7 (Below.trans (Xo0 H6) hbl7)
           clear hb7 hbl7)
         |(go_at_call_of 33 (Value.agg #[.bool true,.int .i64 m.exp,.slice aw lw cw,.slice ae le ce]);refine (Xe2 H5).mono ?_;rintro r w6 ⟨rfl,hb6⟩
           have hb6w:=Below.next0 (Xo1 H5) hb6
           have hwt:=Q27 w1.heap.size w1.heap.size (L1++[45]) TT w6 (Q33.call (Xo0 H5) hb6).build (by have:=(Xo14 HS);have:=(Xo12 HS);rw[List.length_append];simp;omega) hb6w.size
           have H6:=Xh2 hb6w hwt
           clear hb6 hb6w hwt)
         |(go_at_call_of 31 (Value.pointer (some ⟨w1.heap.size,0,none⟩));refine (Xe1 HA).mono ?_;rintro r w5 ⟨rfl,hb5,hbl5,hkp5⟩
           have hX5:=(Xo5 HS).onKept (hkp5 wr.heap.size _ _ _ (Xo6 HS) (by decide) (fun e=>(Xo10 HS) e.symm))
           have e0:=hX5.c0
           have e1:=hX5.c1
           have e2:=hX5.c2
           have e3:=hX5.c3
           have hb5w:=Below.trans (Xo8 HS) hbl5
           have hb50:=Below.next0 H1.out hb5w
           have htm:=(Xo11 HS) w5 ((Xo2 HS).step hb5w) ((Xo3 HS).step hb5w) (Xo4 HS) (by omega) ((Xo3 H).step hb50) ((Xo4 H).step hb50)
           have H5:=Xh3 hb5 hb5w htm
           clear hb5 hbl5 hkp5 hX5 hb5w hb50 htm))
        exact ⟨HE.out _ _ (Xo0 HA) (Xo0 H7) (Xe1 H7),by simp only[intOf];omega⟩
      |false=>
       by_cases hk0:0<k
       ·have hk0':(0:Int)<(k:Int):=by omega
        have hsg:Q2n (true && ((ms.map Q05.term).take k).isEmpty) m.term=[32,43,32]:=by
         have e:((ms.map Q05.term).take k).isEmpty=false:=by
          rw[List.isEmpty_eq_false_iff]
          intro h
          have:=congrArg List.length h
          rw[List.length_take,List.length_map] at this
          have e0:([]:List Q0b).length=0:=rfl
          omega
         rw[e,Q2n,(Xe16 HS)];rfl
        have e0:=(Xo5 HS).c0
        have e1:=(Xo5 HS).c1
        have e2:=(Xo5 HS).c2
        have e3:=(Xo5 HS).c3
        have hws:=Q27 w1.heap.size w1.heap.size L1 [32,43,32] (wr.alloc (.cells #[.bool false,.int .i64 m.exp,.slice aw lw cw,.slice ae le ce] 44)) (Xo9 HS) (by have:=(Xo14 HS);simp;omega) (Xo8 HS).size
        have HA:=Xh2 hsg hws
        clear hsg hws
        go_wp2_with (first
         |(go_at_call_of 31 (Value.pointer (some ⟨w1.heap.size,0,none⟩));refine (Xe1 H6).mono ?_;rintro r w7 ⟨rfl,hb7,hbl7,_⟩
           have H7:=Xh2 hb7 (Below.trans (Xo0 H6) hbl7)
           clear hb7 hbl7)
         |(go_at_call_of 33 (Value.agg #[.bool false,.int .i64 m.exp,.slice aw lw cw,.slice ae le ce]);refine (Xe2 H5).mono ?_;rintro r w6 ⟨rfl,hb6⟩
           have hb6w:=Below.next0 (Xo1 H5) hb6
           have hwt:=Q27 w1.heap.size w1.heap.size (L1++[32,43,32]) TT w6 (Q33.call (Xo0 H5) hb6).build (by have:=(Xo14 HS);have:=(Xo12 HS);rw[List.length_append];simp;omega) hb6w.size
           have H6:=Xh2 hb6w hwt
           clear hb6 hb6w hwt)
         |(go_at_call_of 31 (Value.pointer (some ⟨w1.heap.size,0,none⟩));refine (Xe1 HA).mono ?_;rintro r w5 ⟨rfl,hb5,hbl5,hkp5⟩
           have hX5:=(Xo5 HS).onKept (hkp5 wr.heap.size _ _ _ (Xo6 HS) (by decide) (fun e=>(Xo10 HS) e.symm))
           have e0:=hX5.c0
           have e1:=hX5.c1
           have e2:=hX5.c2
           have e3:=hX5.c3
           have hb5w:=Below.trans (Xo8 HS) hbl5
           have hb50:=Below.next0 H1.out hb5w
           have htm:=(Xo11 HS) w5 ((Xo2 HS).step hb5w) ((Xo3 HS).step hb5w) (Xo4 HS) (by omega) ((Xo3 H).step hb50) ((Xo4 H).step hb50)
           have H5:=Xh3 hb5 hb5w htm
           clear hb5 hbl5 hkp5 hX5 hb5w hb50 htm))
        exact ⟨HE.out _ _ (Xo0 HA) (Xo0 H7) (Xe1 H7),by simp only[intOf];omega⟩
       ·have hk0':¬((0:Int)<(k:Int)):=by omega
        have hsg:Q2n (true && ((ms.map Q05.term).take k).isEmpty) m.term=[]:=by
         have e:((ms.map Q05.term).take k).isEmpty=true:=by
          rw[show k=0 by omega];rfl
         rw[e,Q2n,(Xe16 HS)];rfl
        have e0:=(Xo5 HS).c0
        have e1:=(Xo5 HS).c1
        have e2:=(Xo5 HS).c2
        have e3:=(Xo5 HS).c3
        have hbX0:=Below.next0 H1.out (Xo8 HS)
        have htm:=(Xo11 HS) _ ((Xo2 HS).step (Xo8 HS)) ((Xo3 HS).step (Xo8 HS)) (Xo4 HS) (by omega) ((Xo3 H).step hbX0) ((Xo4 H).step hbX0)
        have HA:=Xh2 hsg htm
        clear hsg htm hbX0
        go_wp2_with (first
         |(go_at_call_of 31 (Value.pointer (some ⟨w1.heap.size,0,none⟩));refine (Xe1 H6).mono ?_;rintro r w7 ⟨rfl,hb7,hbl7,_⟩
           have H7:=Xh2 hb7 (Below.trans (Xo0 H6) hbl7)
           clear hb7 hbl7)
         |(go_at_call_of 33 (Value.agg #[.bool false,.int .i64 m.exp,.slice aw lw cw,.slice ae le ce]);refine (Xe1 HA).mono ?_;rintro r w6 ⟨rfl,hb6⟩
           have hb6w:=Below.next0 (Xo8 HS) hb6
           have hwt:=Q27 w1.heap.size w1.heap.size L1 TT w6 ((Xo9 HS).call hb6) (by have:=(Xo14 HS);have:=(Xo12 HS);omega) hb6w.size
           have H6:=Xh2 hb6w hwt
           clear hb6 hb6w hwt))
        exact ⟨HE.out [] _ (Xo0 HA) (by rw[List.append_nil];exact (Xo0 H7)) (Xe1 H7),by simp only[intOf];omega⟩
     ·have hkl':¬((k:Int)<(l:Int)):=by omega
      have hke:k=ms.length:=by omega
      have htk:(ms.map Q05.term).take k=ms.map Q05.term:=List.take_of_length_le (by rw[List.length_map];omega)
      rw[htk] at hbk
      have hpl:=Q7c (Xo2 HR) ms.length
      have h0:(ms.map Q05.term).length=ms.length:=List.length_map ..
      rw[<-h0,List.take_length] at hpl
      have hL0l:L0.length<=672806:=by rw[<-HL.out,List.length_append,Q4f i (by omega)];have:=(Xo3 HR);omega
      have hw10:=Q27 w1.heap.size w1.heap.size (L0++Q0g true (ms.map Q05.term)) [10] wr hbk (by rw[List.length_append];simp;omega) hbw.size
      have HW:=Xh2 hw10 hbw
      clear hbk htk hke hpl hL0l hw10 hbw
      go_wp2_with (go_at_call_of 31 (Value.pointer (some ⟨w1.heap.size,0,none⟩));refine (Xo0 HW).mono ?_;rintro r w5 ⟨rfl,hb5,hbl5,_⟩;have H5:=Xh2 hb5 hbl5;clear hb5 hbl5)
      refine ⟨⟨i+1,congrArg (Value.int .i64) (by omega),hlt,?_,Below.trans (Xe1 HW) (Xe1 H5)⟩,by simp only[intOf];omega⟩
      rw[(Xo4 HR),Q7b]
      have e:(Q1n 0 ((Q20 F).take i)++Q5i (0+((Q20 F).take i).length) (ms.map Q05.term))=L0++Q0g true (ms.map Q05.term)++[10]:=by
       rw[show 0+((Q20 F).take i).length=i by rw[List.length_take];unfold Q20;rw[List.length_map];omega,hfin,<-HL.out,Q15,if_neg (by intro h;exact HN0.out (List.map_eq_nil_iff.1 h))]
       simp only[List.append_assoc]
      rw[e]
      exact (Xo0 H5).build
  ·have hlt':¬((i:Int)<(n:Int)):=by omega
   have hie:i=F.length:=by omega
   have hall:(Q20 F).take i=Q20 F:=List.take_of_length_le (by unfold Q20;rw[List.length_map];omega)
   rw[hall] at hbd
   have hne:Q1n 0 (Q20 F)≠[]:=by
    intro e
    have h1:=congrArg (List.count 10) e
    rw[Qfo] at h1
    have h2:(Q20 F).length=F.length:=by unfold Q20;exact List.length_map ..
    have h3:=(Xo1 H).1
    have h4:List.count (10:UInt8) []=0:=rfl
    omega
   have hstr:=Tryz.Qwv w1.heap.size w1.heap.size (Q1n 0 (Q20 F)) wr hbd hne
   have HS:=Xh2 hstr hbr
   clear hbd hall hie hne hstr hbr
   go_wp2_with (go_at_call_of 34 (Value.pointer (some ⟨w1.heap.size,0,none⟩));refine (Xo0 HS).mono ?_;rintro r w9 ⟨rfl,hb9⟩;have H9:=Lib.hid (Below.trans (Xe1 HS) hb9);clear hb9)
   go_ret
   exact ⟨fun _=>rfl,fun h=>absurd (Xo1 H) h,Below.next0 H1.out H9.out⟩
structure Qr8 (w:World):Prop where
 tab:Lib.TabIs Tryz.prog w "internal/strconv.uint64pow10" .u64 Lib.pow10Tab
 tz:Q24 w
 big:2<w.heap.size
theorem Qw0:Tryz.prog.globalNamed "internal/strconv.uint64pow10" =some 2:=by kernel_rfl
theorem Qr8.below {w w':World} (h:Qr8 w) (hb:Below w.heap.size w w'):Qr8 w':=⟨var?_below hb Qw0 h.big h.tab,h.tz.step hb,Nat.lt_of_lt_of_le h.big hb.size⟩
theorem Qr8.pow {w:World} (h:Qr8 w):Qmp w:=fun _ hb=>(h.below hb).tab
def kt1:List UInt8:=[120,49,39,32,61,32,120,50,10,120,50,39,32,61,32,45,120,49,32,43,32,51,112,45,49,42,40,120,49,32,43,32,49,41,94,50,10]
def kt2:List UInt8:=[120,49,39,32,61,32,43,10]
def kt3:List UInt8:=[120,49,39,32,61,32,120,50,10,120,50,39,32,61,32,51,112,45,49,42,120,49,94,50,32,43,32,49,112,49,42,120,49,32,43,32,51,112,45,49,10]
def kF:List (List Q0b):=[[(dy 1 0,[0,1])],[(dy 3 (-1),[2,0]),(dy 1 1,[1,0]),(dy 3 (-1),[0,0])]]
theorem Quq:Q1n 0 kF=kt3:=by decide+kernel
theorem Qw1:Q4o kt1=.ok kF:=by
 have h:(match Q4o kt1 with| .ok F=>decide (F=kF)|_=>false)=true:=by decide+kernel
 revert h
 cases Q4o kt1 with
 |error e=>intro h;cases h
 |ok F=>intro h;rw[of_decide_eq_true h]
theorem Qw2:Q4o kt2=.error (6,5):=by
 have h:(match Q4o kt2 with| .error e=>decide (e=(6,5))|_=>false)=true:=by decide+kernel
 revert h
 cases Q4o kt2 with
 |ok F=>intro h;cases h
 |error e=>intro h;rw[of_decide_eq_true h]
theorem Qqd (w:World) (hL:Qr8 w):
 Calls Tryz.prog 8 #[] w fun e w'=>e=.returned (.bool true)/\Below w.heap.size w w':=by
 have hp1:=Q6y ⟨#[120,49,39,32,61,32,120,50,10,120,50,39,32,61,32,45,120,49,32,43,32,51,112,45,49,42,40,120,49,32,43,32,49,41,94,50,10]⟩ w (by decide) hL.tz
 rw[show Q4o (⟨#[120,49,39,32,61,32,120,50,10,120,50,39,32,61,32,45,120,49,32,43,32,51,112,45,49,42,40,120,49,32,43,32,49,41,94,50,10]⟩:ByteArray).data.toList=.ok kF from Qw1] at hp1
 have hp2:=fun W (hb:Below w.heap.size w W)=>Q6y ⟨#[120,49,39,32,61,32,43,10]⟩ W (by decide) (hL.below hb).tz
 rw[show Q4o (⟨#[120,49,39,32,61,32,43,10]⟩:ByteArray).data.toList=.error (6,5) from Qw2] at hp2
 have hsv:sv (Q1n 0 kF)=.string ⟨#[120,49,39,32,61,32,120,50,10,120,50,39,32,61,32,51,112,45,49,42,120,49,94,50,32,43,32,49,112,49,42,120,49,32,43,32,51,112,45,49,10]⟩:=by rw[Quq];rfl
 have hkl:kF.length=2:=rfl
 have H:=Xh5 hp1 hp2 hsv hL hkl
 clear hp1 hp2 hsv hL hkl
 go_enter Tryz.func8,Tryz.ntmps8
 go_wp2_with (first
  |(go_at_call_of 12 (Value.slice a1 2 c1);refine (Xe1 H2).mono ?_;rintro r w3 ⟨rfl,hb3⟩;have H3:=Lib.hid (Below.next0 (Xo0 H2) hb3);clear hb3)
  |(go_at_call 17;refine ((Xo1 H) w1 (Xo0 H1)).mono ?_;rintro r w2 ⟨hb2,rfl⟩
    have hb2w:=Below.next0 (Xo0 H1) hb2
    have hsh:Calls Tryz.prog 12 #[.slice a1 2 c1] w2 fun e w'=>e=.returned (.string ⟨#[120,49,39,32,61,32,120,50,10,120,50,39,32,61,32,51,112,45,49,42,120,49,94,50,32,43,32,49,112,49,42,120,49,32,43,32,51,112,45,49,10]⟩)/\Below w2.heap.size w2 w':=(Q88 a1 2 c1 Fv w2 ((Xo1 H1).step hb2) ((Xo3 H).below hb2w).tz ((Xo3 H).below hb2w).pow).mono (by rintro e w' ⟨h1,_,h2⟩;exact ⟨by rw[h1 (Xe3 H1),show Q20 Fv=kF from (Xo2 H1),(Xo2 H)],h2⟩)
    have H2:=Xh2 hb2w hsh
    clear hb2 hb2w hsh)
  |(go_at_call 17;refine (Xo0 H).mono ?_;rintro r w1 ⟨hb1,a1,n1,c1,Fv,rfl,hF1,ht1,hr1⟩
    obtain rfl:n1=2:=by { have h0:=congrArg List.length ht1;rw[List.length_map,hF1.1,(Xe4 H)] at h0;exact h0 }
    have H1:=Xh4 hb1 hF1 ht1 hr1
    clear hb1 hF1 ht1 hr1))
 go_ret
 exact ⟨rfl,H3.out⟩
end Go.Proofs.YtdilmfakkppgpaaGreatDoor
namespace Go.Proofs.YtdilmfakkppgpaaGreatDoor
open Go.RowKit
theorem Qd7 {w:World} {p:Addr} {v:Value} (h:w.cell? p=some v):p.block<w.heap.size:=by
 refine Nat.lt_of_not_le fun hle=>?_
 unfold World.cell? at h
 rw[Array.getElem?_eq_none hle] at h
 simp at h
theorem Qsn {W:World} (h:laidMet Tryz.prog Rows.parseDeepRow.laid W):Lib.TabIs Tryz.prog W "internal/strconv.uint64pow10" .u64 Lib.pow10Tab:=by
 have h1:=h.tail.tail
 exact Lib.tabIs_of_head (rest:=_) (t:=233) (e:=74) (n:=20) Qw0 (by kernel_rfl) (by kernel_rfl) (by kernel_rfl) (by kernel_rfl) (by kernel_rfl) h1
theorem Qso {W:World} (h:laidMet Tryz.prog Rows.parseDeepRow.laid W):Q24 W:=by
 have h1:=h.tail
 have ht:Lib.TabIs Tryz.prog W "math/bits.deBruijn64tab" .u8 [0,1,56,2,57,49,28,3,61,58,42,50,38,29,17,4,62,47,59,36,45,43,51,22,53,39,33,30,24,18,12,5,63,55,48,27,60,41,37,16,46,35,44,21,52,32,23,11,54,26,40,15,34,20,31,10,25,14,19,9,13,8,7,6]:=
  Lib.tabIs_of_head (rest:=_) (g:=1) (t:=206) (e:=5) (n:=64) (by kernel_rfl) (by kernel_rfl) (by kernel_rfl) (by kernel_rfl) (by kernel_rfl) (by kernel_rfl) h1
 have hc:=fun i hi=>ht.cell (g:=1) (by kernel_rfl) i hi
 refine ⟨Qd7 (hc 0 (by decide)),fun j hj=>?_⟩
 have hj':j<64:=hj
 rw[hc j hj']
 have key:∀i:Fin 64,([0,1,56,2,57,49,28,3,61,58,42,50,38,29,17,4,62,47,59,36,45,43,51,22,53,39,33,30,24,18,12,5,63,55,48,27,60,41,37,16,46,35,44,21,52,32,23,11,54,26,40,15,34,20,31,10,25,14,19,9,13,8,7,6]:List Int).getD i.val 0=((Go.Lib.deBruijn64tab.getD i.val 0:Nat):Int):=by decide
 rw[key ⟨j,hj'⟩]
theorem Qur {W:World} (h:laidMetH Tryz.prog Rows.parseDeepRow.laid W) (_hs:W.ShapedOpen Tryz.prog):Qr8 W:=by
 rw[MakeChecks.laidMetH_plain _ _ _ (by kernel_rfl)] at h
 have ht:=Qsn h
 exact ⟨ht,Qso h,Qd7 (ht.cell (g:=2) (by kernel_rfl) 0 (by decide))⟩
section
variable {H:Type} {enc:TypeId × Value->H}
theorem Q89 {C:Checked} {os:Os} {f:FuncId} {fn:Func} {s:OpenSpec} {conds:List PathCond} {apart:Bool} {laid:List (String × DataW Unit)} (modest:Bool) (w0:World) (args:Array Value) (hos:w0.os=os)
 (hsh:(w0.forCall (fun _ _=>0) ⟨#[],args,[]⟩).Shaped C.prog) (hok:Input.okWideB C.prog (w0.forCall (fun _ _=>0) ⟨#[],args,[]⟩) f ⟨#[],args,[]⟩=true)
 (hrow:s.preRow enc C.prog fn conds apart laid (w0.forCall (fun _ _=>0) ⟨#[],args,[]⟩).memory args):
 ∃(w:World) (tape:Tape) (i:Input),w.os=os/\(w.forCall tape i).Shaped C.prog/\i.vars=[]/\Input.okWide C.prog (w.forCall tape i) .any w.heap.size f i/\
  s.preRow enc C.prog fn conds apart laid (w.forCall tape i).memory i.args/\({ modest:=modest }:Assume).holds C.prog (lone (Frame.enter C.prog f i.args .normal) [] (w.forCall tape i)):=
 ⟨w0,fun _ _=>0,⟨#[],args,[]⟩,hos,hsh,(Input.okWide_of_okWideB (base:=0) hok).1,(Input.okWide_of_okWideB hok).2,hrow,by
   simp only[Assume.holds]
   exact ⟨by simp,by simp,fun _=>Modest.zero,by simp,by simp⟩⟩
end
theorem own:ownKnob Tryz.prog.godebug=none:=by kernel_rfl
end Go.Proofs.YtdilmfakkppgpaaGreatDoor
namespace Go.Proofs.YtdilmfakkppgpaaGreatDoor
open Go.RowKit WordsM
def uv (n:Nat):Value:=.int .u64 (n:Int)
def RdU (w:World) (B:Nat) (a:Option Addr) (ls:List Nat):Prop:=
 ls=[]∨∃b o,a=some ⟨b,o,none⟩/\b<B/\∀(j:Nat) x,ls[j]?=some x->w.cell? ⟨b,o+j,none⟩=some (uv x)
theorem RdU.keep {w w':World} {B:Nat} {a:Option Addr} {ls:List Nat} (h:RdU w B a ls) (hk:∀p:Addr,p.block<B->w'.cell? p=w.cell? p):RdU w' B a ls:=by
 rcases h with rfl|⟨b,o,rfl,hb,hc⟩
 ·exact .inl rfl
 ·exact .inr ⟨b,o,rfl,hb,fun j x hx=>(hk _ hb).trans (hc j x hx)⟩
def Q6g (w:World) (b i:Nat):Prop:=∃a n c ls,w.heap[b]?=some (.cells #[.slice a n c,.int .i64 (i:Int)] 62 (0,0))/\ls.length=n/\n<=9223372036854775807/\RdU w b a ls/\∀x∈ls,x<18446744073709551616
section
variable {w w':World} {b i:Nat} {fp:Nat->Prop}
theorem Q6g.lt (h:Q6g w b i):b<w.heap.size:=by
 obtain ⟨a,n,c,ls,hh,_⟩:=h
 exact (Array.getElem?_eq_some_iff.1 hh).1
theorem Q6g.turn (h:Q6g w b i) (ht:Q0n fp w w') (hn:∀k,k<=b->¬fp k):Q6g w' b i:=by
 have hb:=h.lt
 obtain ⟨a,n,c,ls,hh,h1,h2,h3,h4⟩:=h
 exact ⟨a,n,c,ls,(ht.block b hb (hn b (Nat.le_refl _))).trans hh,h1,h2,h3.keep fun p hp=>ht.cell (by omega) (hn _ (by omega)),h4⟩
theorem Q6g.call (h:Q6g w b i) (hb:Below w.heap.size w w'):Q6g w' b i:=h.turn (Q0n.of_below hb fun _=>False) fun _ _ h=>h
end
theorem Q9m (b i:Nat) (w:World) (h:Q6g w b i) (hi:i<=1000000):
 Calls Tryz.prog 38 #[.pointer (some ⟨b,0,none⟩)] w fun e w'=>(∃x:Nat,x<18446744073709551616/\e=.returned (.int .u64 (x:Int)))/\Q6g w' b (i+1)/\Q0n (·=b) w w':=by
 obtain ⟨a,n,c,ls,hh,hln,hn,hrd,hx⟩:=h
 have k0:w.cell? ⟨b,0,none⟩=some (.slice a n c):=by rw[cell_of_row _ _ _ _ _ _ hh];rfl
 have k1:w.cell? ⟨b,1,none⟩=some (.int .i64 (i:Int)):=by rw[cell_of_row _ _ _ _ _ _ hh];rfl
 have f1:w.frozen? ⟨b,1,none⟩=false:=frozen_of_row _ _ _ _ _ hh
 have hfin:∀V:World,V.heap=w.heap->V.os=w.os->V.tape=w.tape->V.output=w.output->Q6g (V.setCell ⟨b,1,none⟩ (.int .i64 ((i:Int)+1))) b (i+1)/\Q0n (·=b) w (V.setCell ⟨b,1,none⟩ (.int .i64 ((i:Int)+1))):=by
  intro V h1 h2 h3 h4
  have hV:V.heap[b]?=some (.cells #[.slice a n c,.int .i64 (i:Int)] 62 (0,0)):=by rw[h1];exact hh
  refine ⟨⟨a,n,c,ls,?_,hln,hn,hrd.keep fun p hp=>?_,hx⟩,?_⟩
  ·rw[heap_setCell_same _ _ _ _ _ _ hV];rfl
  ·rw[World.cell?_setCell_other _ _ _ _ (fun e=>by subst e;exact Nat.lt_irrefl _ hp)]
   exact World.cell?_of_block (by rw[h1])
  ·have ht:=Q0n.setCell (fun k=>k=b) V (p:=⟨b,1,none⟩) rfl (.int .i64 ((i:Int)+1))
   exact ⟨ht.os.trans h2,ht.tape.trans h3,ht.output.trans h4,by rw[<-h1];exact ht.size,fun k hk hn=>by rw[<-h1];exact ht.block k (by rw[h1];exact hk) hn⟩
 have HF:=Lib.hid hfin
 have HR:=Xh2 hrd hx
 clear hfin hh hrd hx
 by_cases hlt:i<n
 ·have hlt':(i:Int)<(n:Int):=by omega
  obtain ⟨x,hxx⟩:∃x,ls[i]?=some x:=⟨_,List.getElem?_eq_getElem (by omega)⟩
  obtain ⟨y,o,rfl,hy,hc⟩:∃y o,a=some ⟨y,o,none⟩/\y<b/\w.cell? ⟨y,o+i,none⟩=some (.int .u64 (x:Int)):=by
   rcases (Xo0 HR) with rfl|⟨y,o,e,hy,hc⟩
   ·simp at hxx
   ·exact ⟨y,o,e,hy,hc i x hxx⟩
  have hx64:=(Xe1 HR) x (List.mem_of_getElem? hxx)
  clear hxx
  go_enter Tryz.func38,Tryz.ntmps38
  go_wp2_with fail
  go_quiet (fail)
  go_wp2_with fail
  go_quiet (fail)
  go_wp2_with fail
  go_ret
  exact ⟨⟨x,hx64,rfl⟩,HF.out _ rfl rfl rfl rfl⟩
 ·have hlt':¬((i:Int)<(n:Int)):=by omega
  go_enter Tryz.func38,Tryz.ntmps38
  go_wp2_with fail
  go_quiet (fail)
  go_wp2_with fail
  go_ret
  exact ⟨⟨0,by omega,rfl⟩,HF.out _ rfl rfl rfl rfl⟩
theorem Qmv (a:Option Addr) (n c:Nat) (ls:List Nat) (w:World) (hl:ls.length=n) (hn:n<=9223372036854775807) (h:RdU w w.heap.size a ls) (hx:∀x∈ls,x<18446744073709551616):
 Calls Tryz.prog 9 #[.slice a n c] w fun e w'=>e=.returned (.pointer (some ⟨w.heap.size,0,none⟩))/\Q6g w' w.heap.size 0/\Below w.heap.size w w':=by
 have H:=Lib.hid h
 clear h
 go_enter Tryz.func9,Tryz.ntmps9
 go_wp2_with fail
 go_ret
 exact ⟨rfl,⟨a,n,c,ls,heap_alloc_new _ _,hl,hn,H.out.keep fun p hp=>World.cell?_alloc_lt _ _ p hp,hx⟩,(Below.refl _ _).alloc (Nat.le_refl _) _⟩
theorem Qd8 {neg:Bool} {v:Nat} {exp:Int} {neg':Bool} {e':Int} {L:List Nat} {er:Int} (h:Q56 neg v exp neg' e' L er):Q0h neg' e' L:=by
 rcases h with ⟨_,rfl,rfl,rfl,_⟩|⟨z,_,⟨_,rfl,rfl,rfl,_⟩|⟨_,_,h,rfl,rfl,rfl,_⟩⟩
 ·simp[Q0h]
 ·simp[Q0h]
 ·exact h
theorem Q0n.newSet {fp:Nat->Prop} {w w':World} (h:Q0n fp w w') {p:Addr} (hp:w.heap.size<=p.block) (v:Value):Q0n fp w (w'.setCell p v):=
 ⟨h.os,h.tape,h.output,by rw[World.size_setCell];exact h.size,fun k hk hn=>(Below.heap_setCell _ _ _ _ (by omega)).trans (h.block k hk hn)⟩
theorem Qus (w:World) (m:Nat) (hm:m<18446744073709551616) (T:TypeId):WordsIn (w.alloc (.cells #[.int .u64 (m:Int)] T)) (some ⟨w.heap.size,0,none⟩) 1 1 [m]:=
 ⟨rfl,Nat.le_refl _,by omega,fun x hx=>by rw[List.mem_singleton] at hx;subst hx;exact hm,.inr ⟨w.heap.size,0,rfl,Q0f _ _,fun j x hx=>by
   cases j with
   |zero=>simp only[List.getElem?_cons_zero,Option.some.injEq] at hx;subst hx;rw[cell_of_row _ _ _ _ _ _ (heap_alloc_new _ _)];rfl
   |succ j=>simp at hx⟩⟩
end Go.Proofs.YtdilmfakkppgpaaGreatDoor
namespace Go.Proofs.YtdilmfakkppgpaaGreatDoor
open Go.ChangeShapes Go.WideShapes Go.ChangeAt Go.RowKit
theorem Qqe {H:Type} {enc:TypeId × Value->H} {W:World} {sp:Nat->Bool} {hd:Bool} {a:Option Addr} {len cap:Nat} {d:DataW H} {p:List MemPlace}
 (h:DataW.Trod enc Tryz.prog W 0 sp hd 23 (.slice a len cap) d p):
 ∃ls:List Nat,ls.length=len/\len<=9223372036854775807/\RdU W W.heap.size a ls/\∀x∈ls,x<18446744073709551616:=by
 obtain ⟨fuel,hf⟩:=h
 rcases open_ints Tryz.underlying23 Tryz.underlying74 (by kernel_rfl) hf with ⟨hcs,_⟩|⟨x,l,c,zs,hcs,_,hl,hm,hz,_,hcell,hwz⟩
 ·simp[Value.cells] at hcs
  obtain ⟨rfl,rfl,rfl⟩:=hcs
  exact ⟨[],rfl,by omega,.inl rfl,by simp⟩
 ·simp[Value.cells] at hcs
  obtain ⟨rfl,rfl,rfl⟩:=hcs
  unfold maxLen at hm
  have hzl:len<=zs.length:=by rw[hz];split <;> omega
  have hin:∀(i:Nat) z,zs[i]?=some z->0<=z/\z<=18446744073709551615:=by
   intro i z hi
   have:=hwz z (List.mem_of_getElem? hi)
   simpa[Lit.wf,IntKind.min,IntKind.max,IntKind.signed,IntKind.bits] using this
  refine ⟨(zs.take len).map fun n=>n.toNat,by simp;omega,by omega,?_,?_⟩
  ·by_cases h0:len=0
   ·exact .inl (by simp[h0])
   ·obtain ⟨b,o,spot⟩:=x
    have h1:=hcell 0 (by omega)
    have hspot:spot=none:=by simpa[Addr.add] using World.cell?_spot h1
    subst hspot
    have hb:b<W.heap.size:=by
     have:=block_lt_of_cell h1
     rwa[show (Addr.add ⟨b,o,none⟩ 0).block=b by simp[Addr.add]] at this
    refine .inr ⟨b,o,rfl,hb,fun j y hy=>?_⟩
    rw[List.getElem?_map] at hy
    cases hz2:(zs.take len)[j]? with
    |none=>rw[hz2] at hy;cases hy
    |some z=>
     rw[hz2] at hy
     simp only[Option.map_some,Option.some.injEq] at hy
     subst hy
     rw[List.getElem?_take] at hz2
     split at hz2
     ·next hj=>
      obtain ⟨hr0,hr1⟩:=hin j z hz2
      have hjl:j<zs.length:=(List.getElem?_eq_some_iff.1 hz2).1
      have h2:=hcell j hjl
      rw[show (⟨b,o,none⟩:Addr).add j=⟨b,o+j,none⟩ by unfold Addr.add;split <;> simp_all] at h2
      have e:zs.getD j 0=z:=by rw[List.getD_eq_getElem?_getD,hz2];rfl
      rw[h2,e]
      unfold uv
      congr 2;omega
     ·cases hz2
  ·intro x hx
   obtain ⟨z,hz3,rfl⟩:=List.mem_map.1 hx
   obtain ⟨i,hi⟩:=List.mem_iff_getElem?.1 (List.mem_of_mem_take hz3)
   have:=hin i z hi
   omega
end Go.Proofs.YtdilmfakkppgpaaGreatDoor
namespace Go.Proofs.YtdilmfakkppgpaaGreatDoor
open Go.RowKit WordsM
def Qmw (v u:Nat):Int:=if v<u then -1 else if u<v then 1 else 0
theorem Qmx (a:Option Addr) (n c v:Nat) (b:Option Addr) (m d u:Nat) (w:World) (h1:Q0l w a n c v) (h2:Q0l w b m d u) (hn:n<=1000000):
 Calls Tryz.prog 60 #[.slice a n c,.slice b m d] w fun e w'=>e=.returned (.int .i64 (Qmw v u))/\Below w.heap.size w w':=by
 have hvA:val (2^32) (dig (2^32) v)=v:=Q0r (by decide) v
 have hvK:val (2^32) (dig (2^32) u)=u:=Q0r (by decide) u
 have hlA:=Q22 (B:=2^32) (by decide) v
 have hlK:=Q22 (B:=2^32) (by decide) u
 have hA1:=h1.len
 have hK1:=h2.len
 have hr1:=h1.rd
 have hr2:=h2.rd
 have hlenL:n<m->v<u:=fun h=>Nat.lt_of_not_le fun hle=>by
  have h3:=Q1m (B:=2^32) (by decide) hle
  omega
 have hlenR:m<n->u<v:=fun h=>Nat.lt_of_not_le fun hle=>by
  have h3:=Q1m (B:=2^32) (by decide) hle
  omega
 obtain ⟨A,hA⟩:∃A,dig (2^32) v=A:=⟨_,rfl⟩
 obtain ⟨K,hK⟩:∃K,dig (2^32) u=K:=⟨_,rfl⟩
 rw[hA] at hvA hlA hA1 hr1
 rw[hK] at hvK hlK hK1 hr2
 obtain ⟨r,hr⟩:∃r,Qmw v u=r:=⟨_,rfl⟩
 have H:=Xh6 hvA hvK hlA hlK hr1 hr2
 rw[hr]
 have HL:=Xh3 hlenL hlenR hr
 clear hvA hvK hlA hlK hr1 hr2 hA hK h1 h2 hlenL hlenR hr
 by_cases hne:n=m
 ·subst hne
  have hneI:((n:Int) != (n:Int))=false:=by simp
  go_enter Tryz.func60,Tryz.ntmps60
  go_wp2_with fail
  go_loopw [5] (fun iv wr=>∃j:Nat,iv=.int .i64 ((j:Int)-1)/\j<=n/\A.drop j=K.drop j/\Below w.heap.size w wr) (fun iv _=>(intOf iv+1).toNat)
  case atStart=>exact ⟨n,rfl,Nat.le_refl _,by rw[List.drop_of_length_le (by omega),List.drop_of_length_le (by omega)],Below.refl _ _⟩
  case round=>
   obtain ⟨j,rfl,hj,hdr,hb⟩:=hrel
   cases j with
   |zero=>
    have heq:A=K:=by simpa using hdr
    have hr0:r=0:=by
     rw[<-(Xe2 HL),<-(Xo0 H),<-(Xo1 H),heq]
     unfold Qmw
     rw[if_neg (Nat.lt_irrefl _),if_neg (Nat.lt_irrefl _)]
    have HE:=Xh2 hr0 hb
    clear hdr heq hb hr0
    go_wp2_with fail
    go_ret
    exact ⟨by rw[(Xo0 HE)];rfl,(Xe1 HE)⟩
   |succ j=>
    obtain ⟨x,hx⟩:∃x,A[j]?=some x:=⟨_,List.getElem?_eq_getElem (by omega)⟩
    obtain ⟨y,hy⟩:∃y,K[j]?=some y:=⟨_,List.getElem?_eq_getElem (by omega)⟩
    obtain ⟨g1,o1,hae,hg1,hcx⟩:=((Xo4 H).below hb).at_ hx
    obtain ⟨g2,o2,hbe,hg2,hcy⟩:=((Xe5 H).below hb).at_ hy
    subst hae hbe
    have hjI:((j+1:Nat):Int)-1=(j:Int):=by omega
    have hjA:(j:Int)<(n:Int):=by omega
    have hj0:((j:Int)≥0):=by omega
    have HH:=Xh4 hdr hb hx hy
    clear hdr hb hx hy
    rw[hjI]
    by_cases hlt:x<y
    ·have hxx:(x:Int)<(y:Int):=by omega
     have hv:=Qdk (B:=2^32) (by decide) (Xo2 H) (Xo2 HH) (Xe3 HH) (Xo0 HH) hlt
     have hr0:r= -1:=by
      rw[<-(Xe2 HL)];unfold Qmw
      rw[if_pos (by rw[<-(Xo0 H),<-(Xo1 H)];exact hv)]
     have HV:=Lib.hid hr0
     clear hv hr0
     go_wp2_with fail
     go_quiet (fail)
     go_wp2_with fail
     go_ret
     exact ⟨by rw[HV.out];rfl,Q1w (Xo1 HH) _⟩
    ·have hxx:¬(x:Int)<(y:Int):=by omega
     by_cases hgt:y<x
     ·have hyx:(y:Int)<(x:Int):=by omega
      have hv:=Qdk (B:=2^32) (by decide) (Xo3 H) (Xe3 HH) (Xo2 HH) (Xo0 HH).symm hgt
      have hr0:r=1:=by
       rw[<-(Xe2 HL)];unfold Qmw
       have hv':u<v:=by rw[<-(Xo0 H),<-(Xo1 H)];exact hv
       rw[if_neg (by omega),if_pos hv']
      have HV:=Lib.hid hr0
      clear hv hr0
      go_wp2_with fail
      go_quiet (fail)
      go_wp2_with fail
      go_quiet (fail)
      go_wp2_with fail
      go_ret
      exact ⟨by rw[HV.out];rfl,Q1w (Q1w (Xo1 HH) _) _⟩
     ·have hyx:¬(y:Int)<(x:Int):=by omega
      have hxe:x=y:=by omega
      go_wp2_with fail
      go_quiet (fail)
      go_wp2_with fail
      go_quiet (fail)
      go_wp2_with fail
      refine ⟨⟨j,rfl,by omega,?_,Q1w (Xo1 HH) _⟩,by simp only[intOf];omega⟩
      have h1:=(Xo0 HH)
      have e1:=(List.getElem?_eq_some_iff.1 (Xo2 HH))
      have e2:=(List.getElem?_eq_some_iff.1 (Xe3 HH))
      rw[List.drop_eq_getElem_cons e1.1,List.drop_eq_getElem_cons e2.1,e1.2,e2.2,h1,hxe]
 ·have hneI:((n:Int) != (m:Int))=true:=by rw[bne_iff_ne];omega
  by_cases hlt:n<m
  ·have hltI:(n:Int)<(m:Int):=by omega
   have hr0:r= -1:=by rw[<-(Xe2 HL)];unfold Qmw;rw[if_pos ((Xo0 HL) hlt)]
   have HV:=Lib.hid hr0
   clear hr0
   go_enter Tryz.func60,Tryz.ntmps60
   go_wp2_with fail
   go_ret
   exact ⟨by rw[HV.out];rfl,Below.refl _ _⟩
  ·have hltI:¬(n:Int)<(m:Int):=by omega
   have hr0:r=1:=by
    have:=(Xo1 HL) (by omega)
    rw[<-(Xe2 HL)];unfold Qmw;rw[if_neg (by omega),if_pos this]
   have HV:=Lib.hid hr0
   clear hr0
   go_enter Tryz.func60,Tryz.ntmps60
   go_wp2_with fail
   go_ret
   exact ⟨by rw[HV.out];rfl,Below.refl _ _⟩
theorem Qj1 {B:Nat} {A K L:List Nat} {i cr x y z cr':Nat} (hL:L.length=i) (hx:A[i]?=some x) (hs:z+y+cr=x+cr'*B) (hy:K[i]?.getD 0=y) (h:val B L+val B (K.take i)=val B (A.take i)+cr*B^i):val B (L++[z])+val B (K.take (i+1))=val B (A.take (i+1))+cr'*B^(i+1):=by
 rw[Q9y,hL,Q4y A i,Q4y K i,hx,hy,Option.getD_some,Nat.pow_succ]
 have h1:B^i*z+B^i*y+cr*B^i=B^i*x+cr'*(B^i*B):=by
  have:=congrArg (B^i*·) hs
  simp only[Nat.mul_add] at this
  rw[Nat.mul_comm cr,Nat.mul_left_comm cr']
  rw[<-this]
 omega
end Go.Proofs.YtdilmfakkppgpaaGreatDoor
