/- Part 19. No condition. -/
import Derived.RangeFuncNested
import Derived.Scope
import Derived.RangeFuncWrites
import Derived.RangeFuncBound
import Derived.RangeFuncLeaves
import Derived.RangeFuncBox
import Derived.Shelf.Abstract
import Derived.Shelf.RegionOpen
import Derived.TacticsInMore
import Derived.LoopNIn
import Derived.LoopIn
import Derived.Laws.EntriesVeiled
import Derived.Lib.IndexBytes
import Derived.Shelf.Strings.SlTrimAscii
import Derived.Lib.Atoi
import Derived.Test.YtidojbkhlenahaaGreatDoorPkProblemBack18
set_option maxRecDepth 100000
set_option maxHeartbeats 16000000
namespace Go.Proofs.YtidojbkhlenahaaGreatDoor
open Go.RowKit WordsM DecM
theorem Q9a (P:List Q0b):∀(F:List (List Q0b)) (i:Nat),Q18 i (F++[P])=Q18 i F++Q6f (i+F.length) P
 |[],i=>by simp[Q18]
 |Q::F,i=>by
  rw[Tt,Q18,Q9a P F (i+1),Q18,Tb,Ur,show i+1+F.length=i+(F.length+1) by omega]
theorem Qe5 (p:Q0b):∀(l:List Q0b) (b:Bool),Q0t b (l++[p])=Q0t b l++(Q4j (b && l.isEmpty) p++Q1y p)
 |[],b=>by simp[Q0t]
 |q::l,b=>by
  rw[Tt,Q0t,Qe5 p l false,Q0t];simp
theorem Qe6 {α:Type} {l:List α} {i:Nat} {x:α} (h:l[i]?=some x):l.take (i+1)=l.take i++[x]:=by rw[Tc,h];rfl
def Q13 (F:List (List Q01)):List (List Q0b):=F.map (List.map Q01.term)
theorem Qqx {F:List (List Q01)} {i:Nat} {ms:List Q01} (h:F[i]?=some ms):(Q13 F)[i]?=some (ms.map Q01.term):=by unfold Q13;rw[UP,h];rfl
theorem Quk {k:Nat} {m:Q01} (h:OkM k m) (hl:Low (2^64) m.ws):Q2a m.term.1=m.neg:=by
 obtain ⟨⟨h1,h2⟩,h3⟩:=h;rcases Q1t h2 hl with ⟨h4,_⟩|⟨_,ho,_,hv,g1,g2⟩
 ·exact absurd h4 h3
 ·exact Q83 ho
theorem Qmq {k:Nat} {m:Q01} (h:OkM k m) (hk:k<=4) (hl:Low (2^64) m.ws):(Q1y m.term).length<=7005:=by
 obtain ⟨_,g2,_,g4⟩:=Qkc h hl;have N0:m.es.length<=4:=by have:=h.1.1.1;omega
 obtain ⟨h1,h2⟩:=Q99 m.es 0 (by omega) (fun x hx=>(Q2g h.1.1 x hx).2);have Y0:∀t∈Q41 m.term,t.length<=1400:=fun t ht=>by
  unfold Q41 at ht
  split at ht
  ·rcases Uy.1 ht with rfl|ht
   ·rw[g2];exact g4
   ·have:=h1 t ht;omega
  ·have:=h1 t ht;omega
 have I6:(Q41 m.term).length<=5:=by
  have JX:(Q2p 0 m.term.2).length<=4:=Un h2 N0;unfold Q41
  split
  ·rw[Ur];omega
  ·omega
 have:=Qe2 _ Y0;have:(Q41 m.term).length*1401<=5*1401:=Td _ I6
 show (Q50 (Q41 m.term)).length<=_
 omega
theorem Qmr (b:Bool) (p:Q0b):(Q4j b p).length<=3:=by
 unfold Q4j
 split <;> split <;> decide
theorem Qke {T:List Q0b} (h:∀p∈T,(Q1y p).length<=7005):∀b,(Q0t b T).length<=T.length*7008:=by
 induction T with
 |nil=>intro b;simp[Q0t]
 |cons p r ih=>
  intro b;have h1:=h p (by simp);have h2:=Qmr b p;have h3:=ih (fun q hq=>h q (by simp[hq])) false;rw[Q0t,Uh,Uh,Ur,Tm];omega
def Qxy (F:List (List Q01)):Prop:=∀ms∈F,ms.length<=24/\∀m∈ms,(Q1y m.term).length<=7005
theorem Q9b {ms:List Q01} (h:ms.length<=24/\∀m∈ms,(Q1y m.term).length<=7005) (k:Nat):(Q0t true ((ms.map Q01.term).take k)).length<=168192:=by
 have h1:=Qke (T:=(ms.map Q01.term).take k) (fun p hp=>by
  obtain ⟨m,hm,rfl⟩:=To.1 (TB hp);exact h.2 m hm) true
 have h2:((ms.map Q01.term).take k).length<=24:=by rw[Tl,UK];omega
 have:=Td 7008 h2;omega
theorem Qms {ms:List Q01} (h:ms.length<=24/\∀m∈ms,(Q1y m.term).length<=7005) {i:Nat} (hi:i<9):(Q6f i (ms.map Q01.term)).length<=168200:=by
 have h1:=Q9b h ms.length;have h0:(ms.map Q01.term).length=ms.length:=UK ..;rw[<-h0,Tn] at h1;have h2:=Q85 i hi;unfold Q6f Q6e;rw[Uh,Uh,h2]
 split
 ·simp
 ·simp only[Ur,TW];omega
theorem Q7u {F:List (List Q01)} (h:Qxy F):∀i,i+F.length<=9->(Q18 i (Q13 F)).length<=F.length*168200:=by
 induction F with
 |nil=>intro i _;simp[Q18,Q13]
 |cons ms r ih=>
  intro i hi;rw[Ur] at hi;have h1:=Qms (h ms (by simp)) (i:=i) (by omega);have h2:=ih (fun x hx=>h x (by simp[hx])) (i+1) (by omega)
  show (Q6f i (ms.map Q01.term)++Q18 (i+1) (Q13 r)).length<=_
  rw[Uh,Ur,Tm];omega
theorem Qhd {w:World} {a:OA} {n c:Nat} {F:List (List Q01)} (h:Q1g w a n c F) (hR:Q2j F):Qxy F:=by
 intro ms N6;obtain ⟨_,h4,hr⟩:=hR;obtain ⟨r1,r2,r3,r4,r5⟩:=hr ms N6;refine ⟨r3,fun m hm=>Qmq (r4 m hm) h4 ?_⟩;obtain ⟨h1,h2,h3,h0|⟨b,o,_,_,hF⟩⟩:=h
 ·rw[h0] at N6;cases N6
 obtain ⟨i,hi⟩:=UV.1 N6;obtain ⟨p,l,d,_,hM⟩:=hF i ms hi;obtain ⟨_,_,_,h0|⟨b2,o2,_,_,hM⟩⟩:=hM
 ·rw[h0] at hm;cases hm
 obtain ⟨j,hj⟩:=UV.1 hm;obtain ⟨_,_,_,_,_,_,_,_,_,_,hw,_⟩:=hM j m hj;exact hw.low
def Qzj (w1:World) (F:List (List Q01)) (s13:Value) (wr:World):Prop:=∃i:Nat,s13=.int .i64 (i:Int)/\i<=F.length/\Q66 w1.heap.size w1.heap.size (Q18 0 ((Q13 F).take i)) wr/\Bw w1 wr
def Qoj (w1:World) (L0:LU) (ms:List Q01) (s27:Value) (wr:World):Prop:=∃k:Nat,s27=.int .i64 (k:Int)/\k<=ms.length/\Q66 w1.heap.size w1.heap.size (L0++Q0t true ((ms.map Q01.term).take k)) wr/\Bw w1 wr
theorem Q3q.build {B b:Nat} {l:LU} {w:World} (h:Q3q B b (.pointer (some ⟨b,0,none⟩)) l w):Q66 B b l w:=.inr h
theorem Qhe (a:OA) (n c:Nat) (F:List (List Q01)) (w:World) (h:Q1g w a n c F) (hT:Q1s w) (hP:Qe1 w):
 Calls Tryz.prog 40 #[.slice a n c] w fun r w'=>(Q2j F->r=.returned (sv (Q18 0 (Q13 F))))/\(¬Q2j F->r=.returned (sv []))/\Bw w w':=by
 have E7:=Q8k a n c F w h
 by_cases hR:Q2j F
 case neg=>
  have H:=Xh2 E7 hR;clear E7 h hT hP hR
  go_enter Tryz.func40,Tryz.ntmps40
  go_wp2_with (go_at_call_of 18 (Value.slice a n c);refine (Xo0 H).mono ?_;rintro r w1 ⟨⟨bb,rfl,Zj⟩,C0⟩;obtain rfl:bb=false:=by { cases bb with|false=>rfl|true=>exact absurd (Zj.1 rfl) (Xe1 H) };have H1:=Ub C0;clear Zj C0)
  go_ret;exact ⟨fun h=>absurd h (Xe1 H),fun _=>rfl,H1.out⟩
 case pos=>
 have Jc:=Qhd h hR;have G3:=h.1;have Qj:n<=4:=by have:=hR.2.1;omega
 have H:=Xh6 E7 hR h hT hP Jc;clear E7 h hT hP Jc
 go_enter Tryz.func40,Tryz.ntmps40
 go_wp2_with (go_at_call_of 18 (Value.slice a n c);refine (Xo0 H).mono ?_;rintro r w1 ⟨⟨bb,rfl,Zj⟩,C0⟩;obtain rfl:bb=true:=Zj.2 (Xo1 H);have H1:=Ub C0;clear Zj C0)
 have O4:Bw w1 (w1.alloc (.cells #[.pointer none,.slice none 0 0] 57)):=Ba;have Ku:=Q66.new w1.heap.size w1 (Ue _);have HB:=Xh2 O4 Ku;clear O4 Ku hR;generalize w1.alloc (.cells #[.pointer none,.slice none 0 0] 57)=W2 at HB⊢
 rename World=>W2
 go_loopw [13] (fun s13 wr=>Qzj w1 F s13 wr) (fun iv _=>n-(intOf iv).toNat)
 case atStart=>exact ⟨0,rfl,Ut _,(Xe1 HB),(Xo0 HB)⟩
 case round=>
  obtain ⟨i,rfl,hi,Y8,C1⟩:=hrel
  by_cases E0:i<F.length
  ·have J0:(i:Int)<(n:Int):=(by omega);obtain ⟨ms,N6⟩:∃ms,F[i]?=some ms:=⟨_,Ua E0⟩;have hF:=(Xo2 H).step H1.out;have XY:=Uf N6;have hrv:=(Xo1 H).2.2 ms XY;have hshm:=(Xe5 H) ms XY;have M4:(Q18 0 ((Q13 F).take i)).length<=672800:=by
    have h1:=Q7u (F:=F.take i) (fun x hx=>(Xe5 H) x (TB hx)) 0 (by rw[Tl];omega);have h2:(F.take i).length<=4:=(by rw[Tl];omega);have h3:=Td 168200 h2;unfold Q13 at h1⊢;rw[<-List.map_take];omega
   have J6:=Qe6 (Qqx N6);obtain ⟨_,_,_,h0|⟨g,o,rfl,hg,hFi⟩⟩:=hF
   ·rw[h0] at E0;exact absurd E0 (TV _)
   obtain ⟨p,l,d,R0,hM⟩:=hFi i ms N6;have XJ:=hM.1;have R0:=(C1.cell (p:=⟨g,o+i,none⟩) hg).trans R0;have Jb:=Qod i (by omega) wr;have hwr1:=Q2d w1.heap.size w1.heap.size (Q18 0 ((Q13 F).take i)) (Q3u i) wr Y8 (by rw[Q85 i (by omega)];omega) C1.size;have HR:=Xh9 N6 hrv hshm M4 J6 hM Jb hwr1 C1;clear N6 hrv hshm M4 J6 hM Jb hwr1 C1 Y8 XY hFi;obtain ⟨L0,VT⟩:∃L0,Q18 0 ((Q13 F).take i)++Q3u i=L0:=⟨_,rfl⟩;have HL:=Ub VT;rw[VT] at HR;clear VT;obtain ⟨HM,hHM⟩:∃t,Q3u i=t:=⟨_,rfl⟩;rw[hHM] at HR;have HHM:=Ub hHM;clear hHM;have S2:Q6f i (ms.map Q01.term)=Q3u i++(Q6e (ms.map Q01.term)++[10]):=rfl
   by_cases hms0:ms=[]
   ·subst hms0;obtain rfl:l=0:=XJ.symm
    go_wp2_with (first
     |(go_at_call_of 35 (Value.pointer (some ⟨w1.heap.size,0,none⟩));refine (Xe1 H3).mono ?_;rintro r w4 ⟨rfl,F2,hbl4,_⟩
       have Zv:=Xa6 (Xo0 H3) hbl4;have hwr3:=Q2d w1.heap.size w1.heap.size (L0++[48]) [10] w4 F2.build (by rw[<-HL.out,Uh,Uh,Q85 i (by omega)];have:=(Xo3 HR);simp;omega) Zv.size;have H4:=Xh2 Zv hwr3;clear F2 hbl4 Zv hwr3)
     |(go_at_call_of 35 (Value.pointer (some ⟨w1.heap.size,0,none⟩));refine (Xo7 HR).mono ?_;rintro r w3 ⟨rfl,G0,Ky,_⟩
       have Qh:=Xa6 (Xe8 HR) Ky;have Wj:=Q2d w1.heap.size w1.heap.size L0 [48] w3 G0.build (by rw[<-HL.out,Uh,Q85 i (by omega)];have:=(Xo3 HR);simp;omega) Qh.size;have H3:=Xh2 Qh Wj;clear G0 Ky Qh Wj)
     |(go_at_call_of 70 (Value.int IntKind.i64 (i:Int));refine (Xo6 HR).mono ?_;rintro r w2 ⟨rfl,rfl⟩))
    go_loopw [27] (fun s27 wr=>s27=.int .i64 0/\wr=w4) (fun _ _=>0)
    case atStart=>exact ⟨rfl,rfl⟩
    case round=>
     obtain ⟨rfl,rfl⟩:=hrel
     go_wp2_with (go_at_call_of 35 (Value.pointer (some ⟨w1.heap.size,0,none⟩));refine (Xe1 H4).mono ?_;rintro r w5 ⟨rfl,Z0,K8,_⟩;have H5:=Xh2 Z0 K8;clear Z0 K8)
     refine ⟨⟨i+1,congrArg (Value.int .i64) (by omega),E0,?_,Xa6 (Xo0 H4) (Xe1 H5)⟩,by simp only[intOf];omega⟩;rw[(Xo4 HR),Q9a];have e:(Q18 0 ((Q13 F).take i)++Q6f (0+((Q13 F).take i).length) (List.map Q01.term []))=L0++[48]++[10]:=by
      rw[show 0+((Q13 F).take i).length=i by rw[Tl];unfold Q13;rw[UK];omega,S2,<-HL.out];simp[Q6e]
     rw[e];exact (Xo0 H5).build
   ·have I3:((l:Int)==0)=false:=by
     rw[Uk];intro e;exact hms0 (TP (by omega))
    have HN0:=Ub hms0;clear hms0
    go_wp2_with (first
     |(go_at_call_of 35 (Value.pointer (some ⟨w1.heap.size,0,none⟩));refine (Xo7 HR).mono ?_;rintro r w3 ⟨rfl,G0,Ky,_⟩
       have Qh:=Xa6 (Xe8 HR) Ky;have H3:=Xh2 Qh G0;clear G0 Ky Qh)
     |(go_at_call_of 70 (Value.int IntKind.i64 (i:Int));refine (Xo6 HR).mono ?_;rintro r w2 ⟨rfl,rfl⟩))
    go_loopw [27] (fun s27 wr=>Qoj w1 L0 ms s27 wr) (fun iv _=>l-(intOf iv).toNat)
    case atStart=>exact ⟨0,rfl,Ut _,by simpa[Q0t] using (Xe1 H3).build,(Xo0 H3)⟩
    case round=>
     obtain ⟨k,rfl,hk,E8,O0⟩:=hrel
     by_cases JM:k<ms.length
     ·have hkl':(k:Int)<(l:Int):=(by omega);obtain ⟨m,hm⟩:∃m,ms[k]?=some m:=⟨_,Ua JM⟩;obtain ⟨_,_,_,h0|⟨b2,o2,rfl,D0,hMi⟩⟩:=(Xo5 HR)
      ·exact absurd h0 HN0.out
      obtain ⟨aw,lw,cw,ae,le,ce,q0,q1,q2,q3,hwm,hem,R4,Z3⟩:=hMi k m hm;have q0:=(O0.cell (p:=⟨b2,o2+k*4,none⟩) D0).trans q0;have q1:=(O0.cell (p:=⟨b2,o2+k*4+1,none⟩) D0).trans q1;have q2:=(O0.cell (p:=⟨b2,o2+k*4+2,none⟩) D0).trans q2;have q3:=(O0.cell (p:=⟨b2,o2+k*4+3,none⟩) D0).trans q3;have KJ:OkM F.length m:=(Xo1 HR).2.2.2.1 m (Uf hm);have hnb:=Quk KJ hwm.low;have S7:=Qe5 m.term ((ms.map Q01.term).take k) true;have V5:(ms.map Q01.term).take (k+1)=(ms.map Q01.term).take k++[m.term]:=Qe6 (by rw[UP,hm];rfl);have R7:=Q9b (Xo2 HR) k;have P6:=(Xo2 HR).2 m (Uf hm);have hL0l:L0.length<=672806:=(by rw[<-HL.out,Uh,Q85 i (by omega)];have:=(Xo3 HR);omega);have hX:=Q34.new wr (.bool m.neg) (.int .i64 m.exp) (.slice aw lw cw) (.slice ae le ce) 98;have hhx:=Um wr (.cells #[.bool m.neg,.int .i64 m.exp,.slice aw lw cw,.slice ae le ce] 98);have K2:Bw wr (wr.alloc (.cells #[.bool m.neg,.int .i64 m.exp,.slice aw lw cw,.slice ae le ce] 98)):=Ba;have hbX:=Below.next0 O0 K2;have Wa:=E8.call K2;have Ku:w1.heap.size≠wr.heap.size:=by
       have h1:=E8;unfold Q66 at h1;intro e;rcases h1 with ⟨_,_,h2,_⟩|⟨_,_,h2,_⟩
       ·have:=(Uq.1 h2).1;omega
       ·have:=(Uq.1 h2).1;omega
      obtain ⟨L1,ZM⟩:∃L1,L0++Q0t true ((ms.map Q01.term).take k)=L1:=⟨_,rfl⟩;have hL1l:L1.length<=840998:=(by rw[<-ZM,Uh];omega);rw[ZM] at Wa;have M2:=fun W=>Qkd F.length m aw lw cw ae le ce W;obtain ⟨TT,WD⟩:∃t,Q1y m.term=t:=⟨_,rfl⟩;rw[WD] at S7 P6 M2;obtain ⟨ng,hng⟩:∃ng,m.neg=ng:=⟨_,rfl⟩;rw[hng] at q0 hX hhx K2 hbX Wa M2 hnb;have HS:=Xh17 S7 V5 hwm hem KJ hX hhx K2 hbX Wa Ku M2 P6 ZM hL1l hng hnb;clear WD S7 V5 hwm hem KJ hX hhx K2 hbX Wa Ku M2 P6 ZM hL1l R7 hL0l hng hnb E8 O0 hMi R4 Z3;have U3:∀(st:LU) (w9:World),Q4j (true && ((ms.map Q01.term).take k).isEmpty) m.term=st->Q3q w1.heap.size w1.heap.size (.pointer (some ⟨w1.heap.size,0,none⟩)) (L1++st++TT) w9->Bw w1 w9->Qoj w1 L0 ms (.int .i64 ((k:Int)+1)) w9:=fun st w9 hs h1 h2=>by
       refine ⟨k+1,congrArg (Value.int .i64) (by omega),JM,?_,h2⟩;rw[(Xo1 HS),(Xo0 HS),hs,<-Tb,(Xo13 HS),<-Tb];exact h1.build
      have HE:=Ub U3;clear U3;cases ng with
      |true=>
       by_cases JZ:0<k
       ·have hk0':(0:Int)<(k:Int):=(by omega);have D3:Q4j (true && ((ms.map Q01.term).take k).isEmpty) m.term=[32,45,32]:=by
         have e:((ms.map Q01.term).take k).isEmpty=false:=by
          rw[List.isEmpty_eq_false_iff];intro h;have:=congrArg List.length h;rw[Tl,UK] at this;have e0:([]:List Q0b).length=0:=rfl;omega
         rw[e,Q4j,(Xe16 HS)];rfl
        have e0:=(Xo5 HS).c0;have e1:=(Xo5 HS).c1;have e2:=(Xo5 HS).c2;have e3:=(Xo5 HS).c3;have KG:=Q2d w1.heap.size w1.heap.size L1 [32,45,32] (wr.alloc (.cells #[.bool true,.int .i64 m.exp,.slice aw lw cw,.slice ae le ce] 98)) (Xo9 HS) (by have:=(Xo14 HS);simp;omega) (Xo8 HS).size;have HA:=Xh2 D3 KG;clear D3 KG
        go_wp2_with (first
         |(go_at_call_of 35 (Value.pointer (some ⟨w1.heap.size,0,none⟩));refine (Xe1 H6).mono ?_;rintro r w7 ⟨rfl,q6,QO,_⟩
           have H7:=Xh2 q6 (Xa6 (Xo0 H6) QO);clear q6 QO)
         |(go_at_call_of 71 (Value.agg #[.bool true,.int .i64 m.exp,.slice aw lw cw,.slice ae le ce]);refine (Xe2 H5).mono ?_;rintro r w6 ⟨rfl,F3⟩
           have C8:=Below.next0 (Xo1 H5) F3;have Qr:=Q2d w1.heap.size w1.heap.size (L1++[32,45,32]) TT w6 (Q3q.call (Xo0 H5) F3).build (by have:=(Xo14 HS);have:=(Xo12 HS);rw[Uh];simp;omega) C8.size;have H6:=Xh2 C8 Qr;clear F3 C8 Qr)
         |(go_at_call_of 35 (Value.pointer (some ⟨w1.heap.size,0,none⟩));refine (Xe1 HA).mono ?_;rintro r w5 ⟨rfl,Z0,K8,ZK⟩
           have S8:=(Xo5 HS).onKept (ZK wr.heap.size _ _ _ (Xo6 HS) (by decide) (fun e=>(Xo10 HS) e.symm));obtain ⟨e0,e1,e2⟩:=S8.cc;have e3:=S8.c3;have J7:=Xa6 (Xo8 HS) K8;have t9:=Below.next0 H1.out J7;have KR:=(Xo11 HS) w5 ((Xo2 HS).step J7) ((Xo3 HS).step J7) (Xo4 HS) (by omega) ((Xo3 H).step t9) ((Xo4 H).step t9);have H5:=Xh3 Z0 J7 KR;clear Z0 K8 ZK S8 J7 t9 KR))
        exact ⟨HE.out _ _ (Xo0 HA) (Xo0 H7) (Xe1 H7),by simp only[intOf];omega⟩
       ·have hk0':¬((0:Int)<(k:Int)):=(by omega);have D3:Q4j (true && ((ms.map Q01.term).take k).isEmpty) m.term=[45]:=by
         have e:((ms.map Q01.term).take k).isEmpty=true:=by
          rw[show k=0 by omega];rfl
         rw[e,Q4j,(Xe16 HS)];rfl
        have e0:=(Xo5 HS).c0;have e1:=(Xo5 HS).c1;have e2:=(Xo5 HS).c2;have e3:=(Xo5 HS).c3;have KG:=Q2d w1.heap.size w1.heap.size L1 [45] (wr.alloc (.cells #[.bool true,.int .i64 m.exp,.slice aw lw cw,.slice ae le ce] 98)) (Xo9 HS) (by have:=(Xo14 HS);simp;omega) (Xo8 HS).size;have HA:=Xh2 D3 KG;clear D3 KG
        go_wp2_with (first
         |(go_at_call_of 35 (Value.pointer (some ⟨w1.heap.size,0,none⟩));refine (Xe1 H6).mono ?_;rintro r w7 ⟨rfl,q6,QO,_⟩
           have H7:=Xh2 q6 (Xa6 (Xo0 H6) QO);clear q6 QO)
         |(go_at_call_of 71 (Value.agg #[.bool true,.int .i64 m.exp,.slice aw lw cw,.slice ae le ce]);refine (Xe2 H5).mono ?_;rintro r w6 ⟨rfl,F3⟩
           have C8:=Below.next0 (Xo1 H5) F3;have Qr:=Q2d w1.heap.size w1.heap.size (L1++[45]) TT w6 (Q3q.call (Xo0 H5) F3).build (by have:=(Xo14 HS);have:=(Xo12 HS);rw[Uh];simp;omega) C8.size;have H6:=Xh2 C8 Qr;clear F3 C8 Qr)
         |(go_at_call_of 35 (Value.pointer (some ⟨w1.heap.size,0,none⟩));refine (Xe1 HA).mono ?_;rintro r w5 ⟨rfl,Z0,K8,ZK⟩
           have S8:=(Xo5 HS).onKept (ZK wr.heap.size _ _ _ (Xo6 HS) (by decide) (fun e=>(Xo10 HS) e.symm));obtain ⟨e0,e1,e2⟩:=S8.cc;have e3:=S8.c3;have J7:=Xa6 (Xo8 HS) K8;have t9:=Below.next0 H1.out J7;have KR:=(Xo11 HS) w5 ((Xo2 HS).step J7) ((Xo3 HS).step J7) (Xo4 HS) (by omega) ((Xo3 H).step t9) ((Xo4 H).step t9);have H5:=Xh3 Z0 J7 KR;clear Z0 K8 ZK S8 J7 t9 KR))
        exact ⟨HE.out _ _ (Xo0 HA) (Xo0 H7) (Xe1 H7),by simp only[intOf];omega⟩
      |false=>
       by_cases JZ:0<k
       ·have hk0':(0:Int)<(k:Int):=(by omega);have D3:Q4j (true && ((ms.map Q01.term).take k).isEmpty) m.term=[32,43,32]:=by
         have e:((ms.map Q01.term).take k).isEmpty=false:=by
          rw[List.isEmpty_eq_false_iff];intro h;have:=congrArg List.length h;rw[Tl,UK] at this;have e0:([]:List Q0b).length=0:=rfl;omega
         rw[e,Q4j,(Xe16 HS)];rfl
        have e0:=(Xo5 HS).c0;have e1:=(Xo5 HS).c1;have e2:=(Xo5 HS).c2;have e3:=(Xo5 HS).c3;have KG:=Q2d w1.heap.size w1.heap.size L1 [32,43,32] (wr.alloc (.cells #[.bool false,.int .i64 m.exp,.slice aw lw cw,.slice ae le ce] 98)) (Xo9 HS) (by have:=(Xo14 HS);simp;omega) (Xo8 HS).size;have HA:=Xh2 D3 KG;clear D3 KG
        go_wp2_with (first
         |(go_at_call_of 35 (Value.pointer (some ⟨w1.heap.size,0,none⟩));refine (Xe1 H6).mono ?_;rintro r w7 ⟨rfl,q6,QO,_⟩
           have H7:=Xh2 q6 (Xa6 (Xo0 H6) QO);clear q6 QO)
         |(go_at_call_of 71 (Value.agg #[.bool false,.int .i64 m.exp,.slice aw lw cw,.slice ae le ce]);refine (Xe2 H5).mono ?_;rintro r w6 ⟨rfl,F3⟩
           have C8:=Below.next0 (Xo1 H5) F3;have Qr:=Q2d w1.heap.size w1.heap.size (L1++[32,43,32]) TT w6 (Q3q.call (Xo0 H5) F3).build (by have:=(Xo14 HS);have:=(Xo12 HS);rw[Uh];simp;omega) C8.size;have H6:=Xh2 C8 Qr;clear F3 C8 Qr)
         |(go_at_call_of 35 (Value.pointer (some ⟨w1.heap.size,0,none⟩));refine (Xe1 HA).mono ?_;rintro r w5 ⟨rfl,Z0,K8,ZK⟩
           have S8:=(Xo5 HS).onKept (ZK wr.heap.size _ _ _ (Xo6 HS) (by decide) (fun e=>(Xo10 HS) e.symm));obtain ⟨e0,e1,e2⟩:=S8.cc;have e3:=S8.c3;have J7:=Xa6 (Xo8 HS) K8;have t9:=Below.next0 H1.out J7;have KR:=(Xo11 HS) w5 ((Xo2 HS).step J7) ((Xo3 HS).step J7) (Xo4 HS) (by omega) ((Xo3 H).step t9) ((Xo4 H).step t9);have H5:=Xh3 Z0 J7 KR;clear Z0 K8 ZK S8 J7 t9 KR))
        exact ⟨HE.out _ _ (Xo0 HA) (Xo0 H7) (Xe1 H7),by simp only[intOf];omega⟩
       ·have hk0':¬((0:Int)<(k:Int)):=(by omega);have D3:Q4j (true && ((ms.map Q01.term).take k).isEmpty) m.term=[]:=by
         have e:((ms.map Q01.term).take k).isEmpty=true:=by
          rw[show k=0 by omega];rfl
         rw[e,Q4j,(Xe16 HS)];rfl
        have e0:=(Xo5 HS).c0;have e1:=(Xo5 HS).c1;have e2:=(Xo5 HS).c2;have e3:=(Xo5 HS).c3;have hbX0:=Below.next0 H1.out (Xo8 HS);have KR:=(Xo11 HS) _ ((Xo2 HS).step (Xo8 HS)) ((Xo3 HS).step (Xo8 HS)) (Xo4 HS) (by omega) ((Xo3 H).step hbX0) ((Xo4 H).step hbX0);have HA:=Xh2 D3 KR;clear D3 KR hbX0
        go_wp2_with (first
         |(go_at_call_of 35 (Value.pointer (some ⟨w1.heap.size,0,none⟩));refine (Xe1 H6).mono ?_;rintro r w7 ⟨rfl,q6,QO,_⟩
           have H7:=Xh2 q6 (Xa6 (Xo0 H6) QO);clear q6 QO)
         |(go_at_call_of 71 (Value.agg #[.bool false,.int .i64 m.exp,.slice aw lw cw,.slice ae le ce]);refine (Xe1 HA).mono ?_;rintro r w6 ⟨rfl,F3⟩
           have C8:=Below.next0 (Xo8 HS) F3;have Qr:=Q2d w1.heap.size w1.heap.size L1 TT w6 ((Xo9 HS).call F3) (by have:=(Xo14 HS);have:=(Xo12 HS);omega) C8.size;have H6:=Xh2 C8 Qr;clear F3 C8 Qr))
        exact ⟨HE.out [] _ (Xo0 HA) (by rw[Xai];exact (Xo0 H7)) (Xe1 H7),by simp only[intOf];omega⟩
     ·have hkl':¬((k:Int)<(l:Int)):=(by omega);have hke:k=ms.length:=(by omega);have V5:(ms.map Q01.term).take k=ms.map Q01.term:=Uw (by rw[UK];omega);rw[V5] at E8;have R7:=Q9b (Xo2 HR) ms.length;have h0:(ms.map Q01.term).length=ms.length:=UK ..;rw[<-h0,Tn] at R7;have hL0l:L0.length<=672806:=(by rw[<-HL.out,Uh,Q85 i (by omega)];have:=(Xo3 HR);omega);have hw10:=Q2d w1.heap.size w1.heap.size (L0++Q0t true (ms.map Q01.term)) [10] wr E8 (by rw[Uh];simp;omega) O0.size;have HW:=Xh2 hw10 O0;clear E8 V5 hke R7 hL0l hw10 O0
      go_wp2_with (go_at_call_of 35 (Value.pointer (some ⟨w1.heap.size,0,none⟩));refine (Xo0 HW).mono ?_;rintro r w5 ⟨rfl,Z0,K8,_⟩;have H5:=Xh2 Z0 K8;clear Z0 K8)
      refine ⟨⟨i+1,congrArg (Value.int .i64) (by omega),E0,?_,Xa6 (Xe1 HW) (Xe1 H5)⟩,by simp only[intOf];omega⟩;rw[(Xo4 HR),Q9a];have e:(Q18 0 ((Q13 F).take i)++Q6f (0+((Q13 F).take i).length) (ms.map Q01.term))=L0++Q0t true (ms.map Q01.term)++[10]:=by
       rw[show 0+((Q13 F).take i).length=i by rw[Tl];unfold Q13;rw[UK];omega,S2,<-HL.out,Q6e,Up (by intro h;exact HN0.out (List.map_eq_nil_iff.1 h))];simp only[Tb]
      rw[e];exact (Xo0 H5).build
  ·have J0:¬((i:Int)<(n:Int)):=(by omega);have I7:i=F.length:=(by omega);have Y0:(Q13 F).take i=Q13 F:=Uw (by unfold Q13;rw[UK];omega);rw[Y0] at Y8;have Q0:Q18 0 (Q13 F)≠[]:=by
    intro e;have h1:=congrArg (List.count 10) e;rw[Qd2] at h1;have h2:(Q13 F).length=F.length:=(by unfold Q13;exact UK ..);have h3:=(Xo1 H).1;have h4:List.count (10:UInt8) []=0:=rfl;omega
   have Jp:=Tryz.J21 w1.heap.size w1.heap.size (Q18 0 (Q13 F)) wr Y8 Q0;have HS:=Xh2 Jp C1;clear Y8 Y0 I7 Q0 Jp C1
   go_wp2_with (go_at_call_of 39 (Value.pointer (some ⟨w1.heap.size,0,none⟩));refine (Xo0 HS).mono ?_;rintro r w9 ⟨rfl,V3⟩;have H9:=Ub (Xa6 (Xe1 HS) V3);clear V3)
   go_ret;exact ⟨fun _=>rfl,fun h=>absurd (Xo1 H) h,Below.next0 H1.out H9.out⟩
theorem Qul (B b g n:Nat) (l:LU) (xs:List (LU)) (w:World) (hb:Q66 B b l w) (hB:B<=w.heap.size) (hg:g<w.heap.size) (hc:∀(j:Nat) x,xs[j]?=some x->w.cell? ⟨g,j,none⟩=some (sv x)) (hn:xs.length=n) (h3:n<=3) (hl:l.length+(Lib.join xs [32]).length<=140737488355000):
 Calls Tryz.prog 34 #[.slice (some ⟨g,0,none⟩) n n,.pointer (some ⟨b,0,none⟩)] w fun r w'=>r=.returned (.tuple #[])/\Q66 B b (l++(Lib.join xs [32]++[10])) w'/\Below B w w':=by
 have hid:(xs.map ((fun x:ByteArray=>x.data.toList) ∘ fun x:LU=>(⟨x.toArray⟩:ByteArray)))=xs:=List.map_id xs;have hj:=Tryz.J27 g 0 n (xs.map fun x=>⟨x.toArray⟩) ⟨#[32]⟩ w (fun j x hx=>by
  rw[UP] at hx;cases hy:xs[j]? with
  |none=>rw[hy] at hx;cases hx
  |some y=>rw[hy] at hx;injection hx with hx;subst hx;rw[UH];exact hc j y hy) hg (by rw[UK];omega) (by rw[UK];omega) (by rw[List.map_map,hid];show (Lib.join xs [32]).length<=_;omega)
 rw[UK,hn,List.map_map] at hj;rw[hid] at hj;obtain ⟨J,hJ⟩:∃J,Lib.join xs [32]=J:=⟨_,rfl⟩;have Vu:Calls Tryz.prog 36 #[.slice (some ⟨g,0,none⟩) n n,.string ⟨#[32]⟩] w fun e w'=>e=.returned (.string ⟨J.toArray⟩)/\Bw w w':=by rw[<-hJ];exact hj
 rw[hJ] at hl⊢;have hw:=fun W (hW:Bw w W)=>Qka B b l (J++[10]) W (hb.call hW) (by simp;omega) (Un hB hW.size);have hJ1:¬9223372036854775807<J.length+1:=by omega
 have hsv:sv (J++[10])=.string (⟨J.toArray⟩++⟨#[10]⟩):=by
  unfold sv;refine congrArg Value.string ?_
  apply ByteArray.ext
  simp[Xae]
 rw[hsv] at hw;have HW:=Xh3 Vu hw hB;clear hj Vu hw hb hc hid hJ hl
 go_enter Tryz.func34,Tryz.ntmps34
 go_wp2_with (first
  |(go_at_call 36;refine (Xo0 HW).mono ?_;rintro e w1 ⟨rfl,C0⟩;have H1:=Ub C0;clear C0)
  |(refine ((Xo1 HW) w1 H1.out).mono ?_;rintro e w2 ⟨rfl,U4,D0⟩;have H2:=Xh2 U4 D0;clear U4 D0))
 go_end0
 exact ⟨rfl,(Xo0 H2).build,(H1.out.mono (Xe2 HW)).trans (Xe1 H2)⟩
theorem Q2l {x:Q47} {w:World} {a:OA} {l c:Nat} (h:Q0m w a l c x) (hi:x.ok):Q3b x.neg x.exp x.ws=dyT x.val/\(dyT x.val).length<=1401:=by
 obtain ⟨n,e,L⟩:=x;have hl:=h.lie.low;have h5:Q0a n e L:=hi;unfold Q47.val;simp only at hl⊢;rw[show Q3b n e L=Q2e n (val (2^64) L) e from Us h5];rcases Q1t h5 hl with ⟨rfl,rfl,rfl⟩|⟨_,ho,_,hv,g1,g2⟩
 ·rw[show Q1p false 0 []=0 from rfl,show val (2^64) ([]:LN)=0 from rfl,Qlf];exact ⟨by simp[Q2e,Qbl,Q2i],by decide⟩
 ·have ht:dyT (Q1p n e L)=Q2e n (val (2^64) L) e:=Qcu ho;rw[ht];refine ⟨rfl,?_⟩;have h1:=Qg7 hv g1 g2;cases n
  ·omega
  ·have h2:(Q2e true (val (2^64) L) e).length=(Q2e false (val (2^64) L) e).length+1:=(by simp[Q2e]);omega
theorem Qmt (x:Q47) (a:OA) (l c:Nat) (w:World) (h:Q0m w a l c x) (hi:x.ok) (hP:Qe1 w):
 Calls Tryz.prog 38 #[.agg #[.bool x.neg,.int .i64 x.exp,.slice a l c]] w fun r w'=>r=.returned (.string ⟨(dyT x.val).toArray⟩)/\Bw w w':=by
 have h1:=Qhc x.neg x.exp a l c x.ws w h.lie h.lo h.hi hP;rwa[(Q2l h hi).1] at h1
theorem Qmu (n:Int) (w:World) (h0:0<=n) (h1:n<=5000) (hP:Qe1 w):
 Calls Tryz.prog 37 #[.int .i64 n] w fun r w'=>r=.returned (.string ⟨(dec n.toNat).toArray⟩)/\Bw w w':=by
 refine (Tryz.J37 n (by omega) (by omega) w (hP w (Ug _ _))).mono ?_;rintro e w' ⟨rfl,k,os,rfl⟩;have h2:Lib.itoa n=dec n.toNat:=by unfold Lib.itoa;rw[Up (by omega)]
 rw[h2];exact ⟨rfl,Lib.below_grow _ _ (Ue _) k os⟩
theorem Q49 {n:Int} (h1:n<=5000):(dec n.toNat).length<=4:=dec_len 4 n.toNat (by omega) (by decide)
theorem Q8c (a b:LU):(Q2x a b).length=a.length+b.length+2:=by simp[Q2x];omega
theorem J01 (B:Nat) (l t1 t2:LU) (w:World) (hb:Q66 B B l w) (hB:B<=w.heap.size) (hl:l.length+t1.length+t2.length<=100000000):
 Calls Tryz.prog 34 #[.slice (some ⟨w.heap.size,0,none⟩) 2 2,.pointer (some ⟨B,0,none⟩)] (w.alloc (.cells #[.string ⟨t1.toArray⟩,.string ⟨t2.toArray⟩] 9)) fun r w'=>r=.returned (.tuple #[])/\Q66 B B (l++Q2x t1 t2) w'/\Below B w w':=by
 have J1:Bw w (w.alloc (.cells #[.string ⟨t1.toArray⟩,.string ⟨t2.toArray⟩] 9)):=Ba;have hC:=Q3w.new w [sv t1,sv t2] 9;have hj:Lib.join [t1,t2] [32]=t1++32::t2:=by rw[Lib.join_cons];simp[Lib.joinTail]
 have h:=Qul B B w.heap.size 2 l [t1,t2] _ (hb.call J1) (Un hB J1.size) (Q0h w _) (fun j x hx=>hC j (sv x) (by
  have:([t1,t2].map sv)[j]?=some (sv x):=by rw[UP,hx];rfl
  exact this)) rfl (by decide) (by rw[hj];simp;omega)
 refine h.mono ?_;rintro r w' ⟨h1,h2,h3⟩;refine ⟨h1,?_,(J1.mono hB).trans h3⟩;rw[hj] at h2;have:t1++32::t2++[10]=Q2x t1 t2:=by simp[Q2x]
 rwa[this] at h2
theorem Qqy (W:World) (v0 v1 v2:ByteArray):(Instr.buildSlice 39 3 #[(0,.string v0),(1,.string v1),(2,.string v2)]).run Tryz.prog W=.ok (.slice (some ⟨W.heap.size,0,none⟩) 3 3) (W.alloc (.cells #[.string v0,.string v1,.string v2] 9)):=by
 obtain ⟨i0,E2,P1,G1,K1⟩:=Q0p Q98;exact run_buildSlice W 39 9 3 _ #[.string v0,.string v1,.string v2] i0 _ Tryz.underlying39 E2 P1 (by rw[G1];decide) (by rw[G1];decide) (by rw[G1];first|kernel_rfl|simp[Instr.fill,Value.cells])
theorem put3 (B g:Nat) (l t1 t2 t3:LU) (w:World) (hb:Q66 B B l w) (hB:B<=w.heap.size) (hg:w.heap[g]?=some (.cells #[.string ⟨t1.toArray⟩,.string ⟨t2.toArray⟩,.string ⟨t3.toArray⟩] 9 (0,0))) (hl:l.length+t1.length+t2.length+t3.length<=100000000):
 Calls Tryz.prog 34 #[.slice (some ⟨g,0,none⟩) 3 3,.pointer (some ⟨B,0,none⟩)] w fun r w'=>r=.returned (.tuple #[])/\Q66 B B (l++Q2x t1 (t2++32::t3)) w'/\Below B w w':=by
 have hj:Lib.join [t1,t2,t3] [32]=t1++32::(t2++32::t3):=by rw[Lib.join_cons];simp[Lib.joinTail]
 have h:=Qul B B g 3 l [t1,t2,t3] w hb hB (Uq.1 hg).1 (fun j x hx=>by
  rw[Uv _ _ _ _ _ _ hg];have h1:([t1,t2,t3].map sv)[j]?=some (sv x):=by rw[UP,hx];rfl
  have h2:(#[Value.string ⟨t1.toArray⟩,.string ⟨t2.toArray⟩,.string ⟨t3.toArray⟩]:Array Value)=([t1,t2,t3].map sv).toArray:=rfl;rw[h2,List.getElem?_toArray];exact h1) rfl (by decide) (by rw[hj];simp;omega)
 rw[hj] at h;have:t1++32::(t2++32::t3)++[10]=Q2x t1 (t2++32::t3):=by simp[Q2x]
 rwa[this] at h
end Go.Proofs.YtidojbkhlenahaaGreatDoor
namespace Go.Proofs.YtidojbkhlenahaaGreatDoor
open Go.RowKit
def J14 {α:Type} (F:Fence) (n:Nat) (P:Program) (g:Nat) (lb:Array Value) (encs:α->Array Value) (Ok:List α->α->World->Prop) (Kp:World->World->Prop) (S Sp:List α->Prop) (w:World):Prop:=
 ∀(l:Nat) (J Jx:List α->World->Prop) (W:World),Bw w W->AbidesFrom W.heap.size J->AbidesFrom W.heap.size Jx->
  (∀pre x W1,J pre W1->Ok pre x W1->YieldAt F (n-1) P l (encs x) W1 fun e W'=>
    (e=.returned (.bool true)/\J (pre++[x]) W'/\Kp W1 W')∨(e=.returned (.bool false)/\Jx (pre++[x]) W'))->
  J [] W->
  CallsIn F n P g (#[.func (.yield l) #[] #[]]++lb) W fun e W'=>(∃v,e=.returned v)/\((∃xs,S xs/\J xs W')∨(∃pre,Sp pre/\Jx pre W'))
variable {F:Fence} {n:Nat} {P:Program}
theorem Qhf {α:Type} {g:Operand} {ps:Array Tmp} {assign body:Code} {Q:Exit->Act->World->Prop} {a:Act} {w:World}
 (hro:F.round=none) (h1:1<=n) {gf:Nat} {lb:Array Value} (hg:a.eval g=.func (.func gf) #[] lb) (hFg:F.fn gf) (eg:∀args w,(callFunc gf args).run P w=.ok (.enter gf args) w)
 {encs:α->Array Value} {Ok:List α->α->World->Prop} {Kp:World->World->Prop} {S Sp:List α->Prop} {w0:World} (hseq:J14 F (n-1) P gf lb encs Ok Kp S Sp w0)
 (hKt:∀{A B C:World},Kp A B->Kp B C->Kp A C) (Wt:∀(W:World) (l:Nat) (o o':Obj),w.heap.size<=l->W.heap[l]?=some o->o.isCells=false->Kp W (W.putObj l o')) (hOk:∀pre x (W:World) (l:Nat) (o o':Obj),Ok pre x W->w.heap.size<=l->W.heap[l]?=some o->o.isCells=false->Ok pre x (W.putObj l o'))
 (X1:Bw w0 w) (Zt:∀x,(encs x).size=ps.size)
 (I:List α->World->Prop) (Ix:Code->List α->World->Prop) (hI:OwnFrom w.heap.size I) (hIx:∀c,OwnFrom w.heap.size (Ix c)) (h0:I [] w) (a₁:α->Act)
 (WG:∀(l:Nat) (x:α) (W:World) (K:Act->World->Prop),K (a₁ x) W->
   assign.wpIn (F.inRound l) (n-1-1) P (Exit.then K (fun _ _ _=>False)) { tmps:=(ps.zip (encs x)).foldl (fun t (p,v)=>t.setIfInBounds p v) a.tmps,defers:=[] } W)
 (hbody:∀(l:Nat) (pre:List α) (x:α) (W:World),I pre W->Ok pre x W->body.wpIn (F.inRound l) (n-1-1) P (ownPostG w.heap.size Kp I Ix (pre++[x]) W) (a₁ x) W)
 (hdone:∀(D:Nat) (xs:List α) (W:World),w.heap.size<=D->S xs->I xs W->W.heap[D]?=some (.deferred (some []))->Q .normal { a with defers:={ target:=.collected D,args:= #[] }::a.defers } W)
 (hstop:∀(D:Nat) (c:Code) (pre:List α) (W:World),w.heap.size<=D->Sp pre->Ix c pre W->W.heap[D]?=some (.deferred (some []))->c.wpIn F n P Q { a with defers:={ target:=.collected D,args:= #[] }::a.defers } W):
 (Code.rangeFunc g ps assign body).wpIn F n P Q a w:=by
 refine wpIn_rangeFunc fun fn hfn=>?_;rw[hro];obtain ⟨rec,Z8⟩:∃rec:LoopState->Option Code->Loop,rec=fun st pe=>{ state:=st,pending:=pe,fn,tmps:=a.tmps,params:=ps,assign,body,defers:=w.heap.size }:=⟨_,rfl⟩;obtain ⟨W1,O2⟩:∃W1,(w.alloc (.deferred (some []))).alloc (.loop (rec .ready none))=W1:=⟨_,rfl⟩;have A3:W1.heap.size=w.heap.size+2:=by rw[<-O2];simp
 have ZM:W1.heap[w.heap.size+1]?=some (.loop (rec .ready none)):=by
  have h:=World.alloc_heap_new (w.alloc (.deferred (some []))) (.loop (rec .ready none));rw[Ui] at h;rw[<-O2];exact h
 have ZY:W1.heap[w.heap.size]?=some (.deferred (some [])):=by
  rw[<-O2];exact (Below.heap_alloc _ _ _ (by simp)).trans (World.alloc_heap_new w _)
 have U8:I [] W1:=by rw[<-O2];exact hI.alloc _ (hI.alloc _ h0)
 have C0:Bw w0 W1:=by
  rw[<-O2];exact X1.trans ((((Ug _ w).alloc (Ue _) _).alloc (by simp) _).mono X1.size)
 refine ⟨w.heap.size+1,[{ target:=.collected w.heap.size,args:= #[] }],W1,{ target:=.fn (.func gf) lb,args:= #[.func (.yield (w.heap.size+1)) #[] #[]] },W1,gf,
  #[.func (.yield (w.heap.size+1)) #[] #[]]++lb,W1,?_,?_,?_,?_,fun _=>h1,?_⟩
 ·rw[<-O2,Z8];exact run_enterLoop_outer _ _ _ _ _
 ·simp only[resolve,hg];simp[go_sem]
 ·intro f' hf';simp[Target.leads] at hf';subst hf';exact hFg
 ·simp[invoke,go_sem,eg]
 have i6:∀{A:World} {row:Option Nat},(∀r,row=some r->W1.heap.size<=r/\∃o:Obj,A.heap[r]?=some o/\o.isWalk=true)->(∀r,row=some r->w.heap.size<=r/\∃o:Obj,A.heap[r]?=some o/\o.isCells=false):=
  fun hr r e=>by obtain ⟨hB,o,ho,hw⟩:=hr r e;exact ⟨by omega,o,ho,Obj.not_cells_of_walk hw⟩
 refine (hseq (w.heap.size+1)
  (fun pre W=>I pre W/\W.heap[w.heap.size+1]?=some (.loop (rec .ready none))/\W.heap[w.heap.size]?=some (.deferred (some [])))
  (fun pre W=>∃c,Ix c pre W/\W.heap[w.heap.size+1]?=some (.loop (rec .done (some c)))/\W.heap[w.heap.size]?=some (.deferred (some [])))
  W1 C0
  (fun s A B row hs JJ hr=>⟨hI s A B row hs.1 JJ (i6 hr),(grownBy_keeps JJ (fun r e=>(hr r e).2) hs.2.1 rfl).trans hs.2.1,(grownBy_keeps JJ (fun r e=>(hr r e).2) hs.2.2 rfl).trans hs.2.2⟩)
  (fun s A B row hs JJ hr=>by
    obtain ⟨c,hc,hl,hk⟩:=hs;exact ⟨c,hIx c s A B row hc JJ (i6 hr),(grownBy_keeps JJ (fun r e=>(hr r e).2) hl rfl).trans hl,(grownBy_keeps JJ (fun r e=>(hr r e).2) hk rfl).trans hk⟩)
  ?round ⟨U8,ZM,ZY⟩).mono ?behind
 case round=>
  rintro pre x W ⟨hi,hl,hk⟩ P2;have E0:w.heap.size+1<W.heap.size:=(Uq.1 hl).1;have hy:=run_yield (P:=P) (args:=encs x) hl (by rw[Z8];exact Zt x);rw[Z8] at hy;refine ⟨fn,_,assign,body,hy,roundIn_of_wpIn hfn (WG _ x W _ ⟨_,run_beginRound hl (by rw[Z8]),?_⟩)⟩;have i7:(W.putObj (w.heap.size+1) (.loop { rec .ready none with state:=.busy })).heap[w.heap.size+1]?=some (.loop { rec .ready none with state:=.busy }):=World.putObj_heap_same E0;have o5:(W.putObj (w.heap.size+1) (.loop { rec .ready none with state:=.busy })).heap[w.heap.size]?=some (.deferred (some [])):=(World.putObj_heap_other (by omega)).trans hk;have D6:Kp W (W.putObj (w.heap.size+1) (.loop { rec .ready none with state:=.busy })):=Wt _ _ _ _ (by omega) hl rfl;refine wpIn_mono (hbody _ pre x _ (hI.putObj _ hi (by omega) hl rfl) (hOk _ _ _ _ _ _ P2 (by omega) hl rfl)) ?_;have fin:∀(jump:Option Code) (W3:World),KeepsFrom w.heap.size (W.putObj (w.heap.size+1) (.loop { rec .ready none with state:=.busy })) W3->
   (Instr.endRound (w.heap.size+1) jump).run P W3=.ok (.bool jump.isNone) (W3.putObj (w.heap.size+1) (.loop (rec (if jump.isNone then .ready else .done) jump)))/\
   W3.heap[w.heap.size+1]?=some (.loop { rec .ready none with state:=.busy })/\
   (W3.putObj (w.heap.size+1) (.loop (rec (if jump.isNone then .ready else .done) jump))).heap[w.heap.size+1]?=some (.loop (rec (if jump.isNone then .ready else .done) jump))/\
   (W3.putObj (w.heap.size+1) (.loop (rec (if jump.isNone then .ready else .done) jump))).heap[w.heap.size]?=some (.deferred (some [])):=fun jump W3 Qu=>by
   have ZJ:=Qu.same _ _ (by omega) i7 rfl;have U3:=run_endRound (P:=P) jump ZJ;rw[Z8] at U3⊢;rw[Z8] at ZJ;exact ⟨U3,ZJ,World.putObj_heap_same (Uq.1 ZJ).1,(World.putObj_heap_other (by omega)).trans (Qu.same _ _ (Ue _) o5 rfl)⟩
  rintro e a3 W3 hp;cases e with
  |normal=>
   obtain ⟨Qu,hkp3,hi3⟩:=hp;obtain ⟨hr,ZJ,XO,Y5⟩:=fin none W3 Qu;exact ⟨_,_,hr,.inl ⟨rfl,⟨hI.putObj _ hi3 (by omega) ZJ rfl,XO,Y5⟩,hKt (hKt D6 hkp3) (Wt _ _ _ _ (by omega) ZJ rfl)⟩⟩
  |ret=>
   obtain ⟨Qu,hi3⟩:=hp;obtain ⟨hr,ZJ,XO,Y5⟩:=fin (some .ret) W3 Qu;exact ⟨_,_,hr,.inr ⟨rfl,.ret,(hIx _).putObj _ hi3 (by omega) ZJ rfl,XO,Y5⟩⟩
  |exit id=>
   obtain ⟨Qu,hi3⟩:=hp;obtain ⟨hr,ZJ,XO,Y5⟩:=fin (some (.exit id)) W3 Qu;exact ⟨_,_,hr,.inr ⟨rfl,.exit id,(hIx _).putObj _ hi3 (by omega) ZJ rfl,XO,Y5⟩⟩
  |goto t=>
   obtain ⟨Qu,hi3⟩:=hp;obtain ⟨hr,ZJ,XO,Y5⟩:=fin (some (.goto t)) W3 Qu;exact ⟨_,_,hr,.inr ⟨rfl,.goto t,(hIx _).putObj _ hi3 (by omega) ZJ rfl,XO,Y5⟩⟩
  |panic ch=>exact hp.elim
  |outgrown=>exact hp.elim
 case behind=>
  rintro e W2 ⟨⟨v,rfl⟩,(⟨xs,hS,hi,hl,hk⟩|⟨pre,hSp,c,hi,hl,hk⟩)⟩
  ·have U3:=run_endLoop (P:=P) hl (by rw[Z8];simp);rw[Z8] at U3;exact ⟨none,_,U3,hdone _ xs _ (Ue _) hS (hI.putObj _ hi (by omega) hl rfl) ((World.putObj_heap_other (by omega)).trans hk)⟩
  ·have U3:=run_endLoop (P:=P) hl (by rw[Z8];simp);rw[Z8] at U3;exact ⟨some c,_,U3,hstop _ c pre _ (Ue _) hSp ((hIx c).putObj _ hi (by omega) hl rfl) ((World.putObj_heap_other (by omega)).trans hk)⟩
section
variable {b:Frame} {a:Act} {k:List Item} {cs:List Frame} {w:World} {Q:Exit->Act->World->Prop}
end
def Q75 (B1 B2:Nat) (W W':World):Prop:=W.heap.size<=W'.heap.size/\∀k,B1<=k->k<B2->W'.heap[k]?=W.heap[k]?
theorem Q75.refl (B1 B2:Nat) (W:World):Q75 B1 B2 W W:=⟨Ue _,fun _ _ _=>rfl⟩
theorem Q75.trans {B1 B2:Nat} {A B C:World} (h:Q75 B1 B2 A B) (k:Q75 B1 B2 B C):Q75 B1 B2 A C:=⟨Un h.1 k.1,fun i h1 h2=>(k.2 i h1 h2).trans (h.2 i h1 h2)⟩
theorem Q75.turn {B1 B2:Nat} (W:World) (l:Nat) (o':Obj) (hl:B2<=l):Q75 B1 B2 W (W.putObj l o'):=⟨by simp,fun k _ h2=>World.putObj_heap_other (by omega)⟩
theorem Q75.setCell {B1 B2:Nat} {W0 W:World} (h:Q75 B1 B2 W0 W) {p:Addr} (hp:p.block<B1∨B2<=p.block) (u:Value):Q75 B1 B2 W0 (W.setCell p u):=
 ⟨by simpa[World.setCell] using h.1,fun k h1 h2=>(UZ W p u k (by omega)).trans (h.2 k h1 h2)⟩
def Box (U:World) (b:Nat) (v:Value):Prop:=U.cell? ⟨b,0,none⟩=some v/\U.frozen? ⟨b,0,none⟩=false
section
variable {U V:World} {b:Nat} {v:Value}
theorem Box.turned (h:Box U b v) {row:Option Nat} (hg:U.grownBy V row) (hr:∀r,row=some r->∃o:Obj,U.heap[r]?=some o/\o.isCells=false):Box V b v:=⟨cell_kept h.1 hg hr,(frozen_kept h.1 hg hr).trans h.2⟩
theorem Box.call (h:Box U b v) (hb:Bw U V):Box V b v:=by
 have E0:=UA h.1;exact ⟨(hb.cell (p:=⟨b,0,none⟩) E0).trans h.1,(hb.frozen (p:=⟨b,0,none⟩) E0).trans h.2⟩
theorem Box.new (U:World) (v:Value) (t:TypeId):Box (U.alloc (.cells #[v] t)) U.heap.size v:=⟨by rw[Uv _ _ _ _ _ _ (Um _ _)];rfl,TC _ _ _ _ _ (Um _ _)⟩
theorem Box.alloc (h:Box U b v) (o:Obj):Box (U.alloc o) b v:=h.call (Ba)
theorem Box.set (h:Box U b v) (x:Value):Box (U.setCell ⟨b,0,none⟩ x) b x:=⟨UE _ _ _ (by rw[h.1];rfl),by rw[Uo];exact h.2⟩
theorem Box.other (h:Box U b v) {p:Addr} (hp:p.block≠b) (x:Value):Box (U.setCell p x) b v:=⟨(Ud _ _ _ _ (by intro e;rw[e] at hp;exact hp rfl)).trans h.1,by rw[Uo];exact h.2⟩
end
open DecM Go.Shelf WordsM
attribute [local go_sem] Oper.semAt_some
theorem Qe7 (b:UInt8):∀l:LU,(Lib.indexByte l b= -1/\Qen b l=none)∨(∃N:Nat,Lib.indexByte l b=(N:Int)/\Qen b l=some (l.take N,l.drop (N+1))/\N<l.length)
 |[]=>.inl ⟨rfl,rfl⟩
 |c::r=>by
  simp only[Qen,Lib.indexByte]
  by_cases h:c=b
  ·right
   subst h;exact ⟨0,by simp,by simp,by simp⟩
  ·have h1:(c==b)=false:=(by rw[Uk];exact h);rw[h1,Up h];rcases Qe7 b r with ⟨h2,h3⟩|⟨N,h2,h3,h4⟩
   ·left
    rw[h2,h3];exact ⟨rfl,rfl⟩
   ·right
    have h5:(Lib.indexByte r b== -1)=false:=(by rw[Uk];omega);rw[h5,h3];exact ⟨N+1,by simp only[Th,Xac];omega,by simp,by simp;omega⟩
def J15 (w:World) (s:ByteArray) (e:Ending) (w':World):Prop:=
 e=.returned (.func (.func 123) #[] #[.pointer (some ⟨w.heap.size,0,none⟩)])/\w'.cell? ⟨w.heap.size,0,none⟩=some (.string s)/\Bw w w'/\w.heap.size<w'.heap.size
theorem Qqz (s:ByteArray) (w:World):Calls Tryz.prog 82 #[.string s] w (J15 w s):=by
 have X1:Bw w (w.alloc (.cells #[.string s] 9)):=Ba;have N4:(w.alloc (.cells #[.string s] 9)).cell? ⟨w.heap.size,0,none⟩=some (.string s):=by rw[Uv _ _ _ _ _ _ (Um _ _)];rfl
 go_enter Tryz.func82,Tryz.ntmps82
 go_wp2_with fail
 go_ret;exact ⟨rfl,N4,X1,by simp⟩
structure LnP where
 at_:Nat
 t:ByteArray
def LnP.encs (r:LnP):Array Value:= #[.int .i64 (r.at_:Int),.string r.t]
def Qrd (pre:List LnP):Nat:=match pre.getLast? with|none=>0|some x=>x.at_+x.t.size+1
theorem Qkf (pre:List LnP) (x:LnP):Qrd (pre++[x])=x.at_+x.t.size+1:=by unfold Qrd;simp
def Qzk (s:ByteArray) (pre:List LnP) (r:LnP):Prop:=r.at_=Qrd pre/\r.at_+r.t.size<s.size/\Q8e s.data.toList r.at_=some r.t.data.toList
theorem Qum (n:Nat) (K5:1<=n) (l Bx B2:Nat) (s:ByteArray) (hm:s.size<=1000000) (J Jx:List LnP->World->Prop) (W:World)
 (_hJ:AbidesFrom W.heap.size J)
 (hY:∀pre x W1,J pre W1->Qzk s pre x->YieldAt Fence.wide (n-1) Tryz.prog l (LnP.encs x) W1 fun e W'=>
   (e=.returned (.bool true)/\J (pre++[x]) W'/\Q75 Bx B2 W1 W')∨(e=.returned (.bool false)/\Jx (pre++[x]) W'))
 (K2:W.cell? ⟨Bx,0,none⟩=some (.string s)) (hB:Bx<B2) (_hB2:B2<=W.heap.size) (h0:J [] W):
 CallsIn Fence.wide n Tryz.prog 123 #[.func (.yield l) #[] #[],.pointer (some ⟨Bx,0,none⟩)] W fun e W'=>(∃v,e=.returned v)/\
  ((∃ys,(Q8e s.data.toList (Qrd ys)=none/\Qrd ys<=s.size)/\J ys W')∨(∃pre,True/\Jx pre W')):=by
 refine callsIn_of_wp Tryz.func123 rfl trivial ?_ rfl;simp only[Tryz.ntmps123,List.size_toArray,Ur,TW,Nat.reduceAdd,Nat.reduceSub,Array.replicate_succ,Array.replicate_zero,List.push_toArray,List.append_toArray,Ty,Tt]
 gi_wp2
 gi_loopw [3] (fun v wr=>∃(p:Nat) (pre:List LnP),v=.int .i64 p/\p<=s.size/\Qrd pre=p/\J pre wr/\Q75 Bx B2 W wr) (fun v _=>s.size-(intOf v).toNat)
 case atStart=>exact ⟨0,[],rfl,Ut _,rfl,h0,Q75.refl _ _ _⟩
 case round=>
  obtain ⟨p,pre,rfl,hp,U3,hJs,P0⟩:=hrel;have hc:=(UM (w:=W) (w':=wr) (a:=⟨Bx,0,none⟩) (P0.2 Bx (Ue _) hB)).trans K2;have HE:=Ub U3;clear K2 h0 U3;have VG:(p:Int)<=(s.size:Int):=by omega
  have hD:(s.extract p s.size).data.toList=s.data.toList.drop p:=Lib.extract_to_end s p;have N0:(s.data.toList.drop p).length=s.size-p:=by rw[Tg];rfl
  obtain ⟨I,hI⟩:∃I,Lib.indexByte (s.extract p s.size).data.toList (10:Int).toNat.toUInt8=I:=⟨_,rfl⟩;have ZN:Lib.indexByte (s.data.toList.drop p) 10=I:=by rw[<-hI,hD];rfl
  have hci:=Qe7 10 (s.data.toList.drop p);rw[ZN] at hci;rcases hci with ⟨hi,Wn⟩|⟨N,hi,hcut,Js⟩
  ·subst hi;have E5:Q8e s.data.toList p=none:=(by unfold Q8e;rw[Wn];rfl);have HN:=Xh3 E5 hJs P0;clear hD N0 ZN hY hJs P0 Wn E5
   gi_wp2_with fail
   refine ⟨trivial,?_⟩;refine (callsIn_wide.2 (Tryz.J2f (s.extract p s.size) 10 wr)).mono ?_;rintro e w2 ⟨rfl,rfl⟩;rw[hI]
   gi_wp2_with fail
   refine ⟨(by intro f h;cases h),?_⟩
   gi_wp2_with fail
   exact ⟨rfl,_,by simp[results,go_sem];rfl,⟨_,rfl⟩,.inl ⟨pre,⟨by rw[HE.out];exact (Xo0 HN),by rw[HE.out];exact hp⟩,(Xo1 HN)⟩⟩
  ·subst hi;have hNs:p+N<s.size:=(by omega);have A2:(s.extract p (p+N)).size=N:=(by rw[ByteArray.size_extract];omega);have P2:Qzk s pre ⟨p,s.extract p (p+N)⟩:=⟨HE.out.symm,by rw[A2];exact hNs,by
    show Q8e s.data.toList p=some (s.extract p (p+N)).data.toList
    unfold Q8e;rw[hcut,Lib.extract_data]
    show some (List.take N _)=some _
    congr 2;omega⟩
   obtain ⟨fn,tmps,assign,body,hy,hR⟩:=hY pre ⟨p,s.extract p (p+N)⟩ wr hJs P2;simp only[LnP.encs] at hy;have HP:=Xh2 hNs A2;have Zw:=Ub P0;obtain ⟨M,hM⟩:∃M,p+N=M:=⟨_,rfl⟩;have hpM:(p:Int)+(N:Int)=(M:Int):=(by omega);have hpM1:(p:Int)<=(M:Int):=(by omega);have hpM2:(M:Int)<=(s.size:Int):=(by omega);have O9:¬((N:Int)<0):=(by omega);rw[hM] at hy HP hR;have hM2:(p:Int)+((N:Int)+1)=((M+1:Nat):Int):=(by omega);have HM2:=Ub hM;clear hD N0 ZN hY hJs P0 hcut A2 P2 Js hNs hM
   gi_wp2_with fail
   refine ⟨trivial,?_⟩;refine (callsIn_wide.2 (Tryz.J2f (s.extract p s.size) 10 wr)).mono ?_;rintro e w2 ⟨rfl,rfl⟩;rw[hI]
   gi_wp2_with fail
   refine hR.mono ?_;rintro e W3 (⟨rfl,hJ3,Qu⟩|⟨rfl,hJx3⟩)
   ·gi_wp2
    go_roundw
    case rel=>exact ⟨M+1,pre++[⟨p,s.extract p M⟩],by go_num,(Xo0 HP),by rw[Qkf];show p+(s.extract p M).size+1=_;rw[(Xe1 HP),HM2.out],hJ3,Zw.out.trans Qu⟩
    case measure=>
     have q1:=(Xo0 HP);have q2:=HM2.out;simp[intOf];omega
   ·gi_wp2
    exact ⟨rfl,_,by simp[results,go_sem];rfl,⟨_,rfl⟩,.inr ⟨_,trivial,hJx3⟩⟩
theorem Qkg (n:Nat) (K5:1<=n) (Bx:Nat) (s:ByteArray) (hm:s.size<=1000000) (w:World)
 (K2:w.cell? ⟨Bx,0,none⟩=some (.string s)) (hB:Bx<w.heap.size):
 J14 Fence.wide n Tryz.prog 123 #[.pointer (some ⟨Bx,0,none⟩)] LnP.encs (fun pre x _=>Qzk s pre x) (Q75 Bx w.heap.size) (fun ys=>Q8e s.data.toList (Qrd ys)=none/\Qrd ys<=s.size) (fun _=>True) w:=
 fun l J Jx W hW hJ _ hY h0=>Qum n K5 l Bx w.heap.size s hm J Jx W hJ hY ((hW.cell (p:=⟨Bx,0,none⟩) hB).trans K2) hB hW.size h0
end Go.Proofs.YtidojbkhlenahaaGreatDoor
namespace Go.Proofs.YtidojbkhlenahaaGreatDoor
open Go.RowKit WordsM DecM
theorem Qhg (w l:LU):Q5o w l=if Lib.hasPrefix l (w++[32])=true then some (Lib.trimPrefix l (w++[32])) else none:=by
 unfold Q5o Lib.trimPrefix Lib.hasPrefix
 by_cases h:(w++[32]).isPrefixOf l=true
 ·rw[Us h,Us h,Us h];simp
 ·rw[Up h,Up h]
def Qun:LU:=[48,49,50,51,52,53,54,55,56,57]
theorem Qhh:∀c:UInt8,Qun.contains c=true↔48<=c.toNat/\c.toNat<=57:=by
 intro c;have h:Qun.contains c=true↔c∈Qun:=by simp
 rw[h];unfold Qun;simp only[Uy,TN,Xbo,<-Xa5];simp only[UInt8.reduceToNat];omega
theorem Qe8:∀l:LU,digN l=l.length↔∀c∈l,48<=c.toNat/\c.toNat<=57
 |[]=>by simp[digN]
 |c::r=>by
  have ih:=Qe8 r;have G5:=Qcr r;simp only[digN,Ur,Uy,forall_eq_or_imp]
  by_cases h:48<=c.toNat/\c.toNat<=57
  ·rw[Us h]
   constructor
   ·intro e;exact ⟨h,ih.1 (by omega)⟩
   ·intro e;rw[ih.2 e.2]
  ·rw[Up h]
   constructor
   ·intro e;omega
   ·intro e;exact absurd e.1 h
theorem Qcc {p:UInt8->Bool}:∀l:LU,l.dropWhile p=[]↔∀c∈l,p c=true
 |[]=>by simp
 |c::r=>by
  rw[List.dropWhile_cons]
  by_cases h:p c=true
  ·rw[Us h,Qcc r];simp[h]
  ·rw[Up h];simp[h]
theorem Qmv (t:LU):Lib.trimS t Qun=[]↔digN t=t.length:=by
 unfold Lib.trimS Lib.trimRightS Lib.trimLeftS;rw[Qcc,Qe8]
 constructor
 ·intro h;have h1:t.reverse.dropWhile (fun x=>Qun.contains x)=[]:=by
   cases hd:t.reverse.dropWhile (fun x=>Qun.contains x) with
   |nil=>rfl
   |cons x r=>
    have h2:=List.head?_dropWhile_not (fun x=>Qun.contains x) t.reverse;rw[hd] at h2;have h3:=h x (by rw[hd];simp);simp only[List.head?_cons] at h2;rw[h3] at h2;cases h2
  exact fun c hc=>(Qhh c).1 ((Qcc t.reverse).1 h1 c (List.mem_reverse.2 hc))
 ·intro h c hc;have h2:t.reverse.dropWhile (fun x=>Qun.contains x)=[]:=(Qcc _).2 fun x hx=>(Qhh x).2 (h x (List.mem_reverse.1 hx));rw[h2] at hc;simp at hc
theorem Qok:∀(l:LU) (a:Nat),(∀c∈l,48<=c.toNat/\c.toNat<=57)->Lib.decFrom a l=some (l.foldl (fun a b=>10*a+(b.toNat-48)) a)
 |[],a,_=>rfl
 |c::r,a,h=>by
  have h1:=h c (TO ..);rw[Lib.decFrom,Lib.digitVal,Us h1,Xbv]
  show Lib.decFrom (a*10+(c.toNat-48)) r=_
  rw[Qok r _ fun x hx=>h x (TH _ hx),UC]
theorem Qr0 {t:LU} {n:Nat} (h:Q2v t=some n):Lib.atoi t=some (n:Int):=by
 unfold Q2v at h
 split at h
 ·rename_i hc;injection h with h;obtain ⟨h1,h2,h3,h4⟩:=hc;have hd:=(Qe8 t).1 h4;cases t with
  |nil=>simp at h1
  |cons c r=>
   have hc:=hd c (TO ..);have e1:(c==45)=false:=(by rw[Uk];intro e;subst e;exact absurd hc.1 (by decide));have e2:(c==43)=false:=(by rw[Uk];intro e;subst e;exact absurd hc.1 (by decide));rw[Lib.atoi,e1,e2];simp only[Th,Xac];rw[Lib.decNat,show (c::r).isEmpty=false from rfl];simp only[Th,Xac];rw[Qok _ _ hd,<-h];rfl
 ·cases h
def Q6r (w:World) (g o:Nat) (X:Option Nat) (r:Ending) (w':World):Prop:=match X with
 |none=>r=.returned (.bool false)/\Bw w w'
 |some n=>r=.returned (.bool true)/\∃w1,Bw w w1/\w'=w1.setCell ⟨g,o,none⟩ (.int .i64 (n:Int))
theorem Q6r.no {w:World} {g o:Nat} {X:Option Nat} {w':World} (h:X=none) (hb:Bw w w'):Q6r w g o X (.returned (.bool false)) w':=by subst h;exact ⟨rfl,hb⟩
theorem Q6r.yes {w w1:World} {g o n:Nat} {X:Option Nat} (h:X=some n) (hb:Bw w w1):Q6r w g o X (.returned (.bool true)) (w1.setCell ⟨g,o,none⟩ (.int .i64 (n:Int))):=by subst h;exact ⟨rfl,w1,hb,rfl⟩
theorem Qr1:∀(j:Nat) (b:UInt8),(⟨#[48,49,50,51,52,53,54,55,56,57]⟩:ByteArray).data.toList[j]?=some b->b.toNat<128:=by
 intro j b h;have h1:b∈Qun:=Uf h;have h2:=(Qhh b).1 (by simpa using h1);omega
theorem Qr2 (s:ByteArray) (wd:LU) (g o:Nat) (v0:Value) (w:World) (hs:s.size<=1000000) (hw:wd.length<=100) (hc:w.cell? ⟨g,o,none⟩=some v0) (hf:w.frozen? ⟨g,o,none⟩=false):
 Calls Tryz.prog 125 #[.string s,.string ⟨wd.toArray⟩,.pointer (some ⟨g,o,none⟩)] w (Q6r w g o ((Q5o wd s.data.toList).bind Q2v)):=by
 have hg:=UA hc;obtain ⟨p,hp⟩:∃p:ByteArray,(⟨wd.toArray⟩:ByteArray)++⟨#[32]⟩=p:=⟨_,rfl⟩;have R7:p.data.toList=wd++[32]:=by rw[<-hp,Xae];simp
 have VP:¬9223372036854775807<wd.length+1:=by omega
 have ZZ:=Tryz.J2j s p w;rw[R7] at ZZ;have hr:=Qhg wd s.data.toList;obtain ⟨t,ht⟩:∃t,Lib.trimPrefix s.data.toList (wd++[32])=t:=⟨_,rfl⟩;obtain ⟨b,hb⟩:∃b,Lib.hasPrefix s.data.toList (wd++[32])=b:=⟨_,rfl⟩;have P6:t.length<=1000000:=by
  rw[<-ht];unfold Lib.trimPrefix;have:s.data.toList.length=s.size:=(Lib.size_eq s).symm
  split
  ·rw[Tg];omega
  ·omega
 rw[ht,hb] at ZZ;rw[ht,hb] at hr;rw[hr];have HC:=Xh3 ZZ hc hf;clear hr ZZ R7 ht hb hc hf;cases b
 case false=>
  go_enter Tryz.func125,Tryz.ntmps125
  go_wp2_with (go_at_call 173;first|rw[hp]|skip;refine (Xo0 HC).mono ?_;rintro e w1 ⟨rfl,rfl⟩)
  go_ret;exact Q6r.no rfl (Ug _ _)
 cases t with
 |nil=>
  go_enter Tryz.func125,Tryz.ntmps125
  go_wp2_with (go_at_call 173;first|rw[hp]|skip;refine (Xo0 HC).mono ?_;rintro e w1 ⟨rfl,rfl⟩)
  go_ret;exact Q6r.no (by decide) (Ug _ _)
 |cons c r=>
 have A8:¬((r.length:Int)+1<1):=by omega
 by_cases h4:r.length+1<=4
 case neg=>
  have XO:(4:Int)<(r.length:Int)+1:=by omega
  have HX:=Ub (show Q2v (c::r)=none by unfold Q2v;rw[Up];intro h;have:=h.2.1;rw[Ur] at this;omega)
  go_enter Tryz.func125,Tryz.ntmps125
  go_wp2_with (go_at_call 173;first|rw[hp]|skip;refine (Xo0 HC).mono ?_;rintro e w1 ⟨rfl,rfl⟩)
  go_ret;exact Q6r.no (by show Q2v (c::r)=none;exact HX.out) (Ug _ _)
 have XO:¬((4:Int)<(r.length:Int)+1):=by omega
 by_cases h0:c=48
 case pos=>
  subst h0;have HX:=Ub (show Q2v ((48:UInt8)::r)=none by unfold Q2v;rw[Up];intro h;exact h.2.2.1 rfl)
  go_enter Tryz.func125,Tryz.ntmps125
  go_wp2_with (go_at_call 173;first|rw[hp]|skip;refine (Xo0 HC).mono ?_;rintro e w1 ⟨rfl,rfl⟩)
  go_ret;exact Q6r.no (by show Q2v ((48:UInt8)::r)=none;exact HX.out) (Ug _ _)
 have hc48:((c.toNat:Int)==48)=false:=by
  rw[Uk];intro e;exact h0 (Xa5.1 (by show c.toNat=48;omega))
 have hc49:¬((((⟨(c::r).toArray⟩:ByteArray)[0]'(by show 0<(c::r).length;rw[Ur];omega)).toNat:Int)=48):=by
  show¬((c.toNat:Int)=48)
  intro e;exact h0 (Xa5.1 (by show c.toNat=48;omega))
 have Qm:=fun W=>Any.strings_Trim_laid Tryz.J29 (by kernel_rfl) ⟨(c::r).toArray⟩ ⟨#[48,49,50,51,52,53,54,55,56,57]⟩ W (by show (c::r).length<=_;rw[Ur];omega) (by decide) Qr1;obtain ⟨Z,hZ⟩:∃Z,Lib.trimS (c::r) Qun=Z:=⟨_,rfl⟩;have htr2:∀W,Calls Tryz.prog 174 #[.string ⟨(c::r).toArray⟩,.string ⟨#[48,49,50,51,52,53,54,55,56,57]⟩] W fun e w'=>e=.returned (.string ⟨Z.toArray⟩)/\Bw W w':=fun W=>by rw[<-hZ];exact Qm W
 have hz:=Qmv (c::r);rw[hZ] at hz;have HT:=Ub htr2;clear Qm htr2 hZ;cases Z with
 |cons y ys=>
  have HX:=Ub (show Q2v (c::r)=none by unfold Q2v;rw[Up];intro h;exact absurd (hz.2 h.2.2.2) (by simp));clear hz
  go_enter Tryz.func125,Tryz.ntmps125
  go_wp2_with (first
   |(go_at_call 173;first|rw[hp]|skip;refine (Xo0 HC).mono ?_;rintro e w1 ⟨rfl,rfl⟩)
   |(go_at_call 174;refine (HT.out _).mono ?_;rintro e w2 ⟨rfl,D0⟩;have H2:=Ub D0;clear D0))
  go_ret;exact Q6r.no (by show Q2v (c::r)=none;exact HX.out) H2.out
 |nil=>
  have J3:Q2v (c::r)=some (dv (c::r)):=by unfold Q2v;rw[Us ⟨by rw[Ur];omega,by rw[Ur];omega,h0,hz.1 rfl⟩]
  have Y1:=fun W=>Tryz.J2q ⟨(c::r).toArray⟩ (dv (c::r)) (by show (c::r).length<=_;rw[Ur];omega) (Qr0 J3) W;obtain ⟨n,hn⟩:∃n,dv (c::r)=n:=⟨_,rfl⟩;rw[hn] at J3;simp only[hn] at Y1;have HX:=Xh2 J3 Y1;have HG:=Ub hg;clear hz J3 Y1 hn hg
  go_enter Tryz.func125,Tryz.ntmps125
  go_wp2_with (first
   |(go_at_call 173;first|rw[hp]|skip;refine (Xo0 HC).mono ?_;rintro e w1 ⟨rfl,rfl⟩)
   |(go_at_call 174;refine (HT.out _).mono ?_;rintro e w2 ⟨rfl,D0⟩;have H2:=Ub D0;clear D0)
   |(go_at_call 175;refine ((Xe1 HX) _).mono ?_;rintro e w3 ⟨rfl,tt,XA⟩
     have G0:Bw w2 w3:=(by rw[XA];exact Lib.bytesWorld_below _ _ _);have WM:=Below.next0 H2.out G0;have x0:=(WM.cell (p:=⟨g,o,none⟩) HG.out).trans (Xo1 HC);have f0:=(WM.frozen (p:=⟨g,o,none⟩) HG.out).trans (Xe2 HC);have H3:=Ub WM;clear G0 WM XA))
  ·exfalso;rename_i hx;rcases hx with hx|hx
   ·omega
   ·exact hc49 (beq_iff_eq.1 hx)
  go_ret;exact Q6r.yes (by show Q2v (c::r)=some n;exact (Xo0 HX)) H3.out
def Q37 (w:World) (g o:Nat) (n:Bool) (e:Int) (v:Value):World:=((w.setCell ⟨g,o,none⟩ (.bool n)).setCell ⟨g,o+1,none⟩ (.int .i64 e)).setCell ⟨g,o+2,none⟩ v
def J1s (w:World) (R:Nat) (p:Nat) (g o:Nat) (ov:Int) (S:LU) (r:Ending) (w':World):Prop:=
 ∃n e a l c L er w1,r=.returned (.bool (er != 5))/\Q15 S n e L er/\Bw w w1/\WordsIn w1 a l c L/\
  w'=Q37 (if er=2/\ov<0 then w1.setCell ⟨R,14,none⟩ (.int .i64 (p:Int)) else w1) g o n e (.slice a l c)
structure Q38 (w:World) (g o:Nat):Prop where
 c0:∃v,w.cell? ⟨g,o,none⟩=some v
 c1:∃v,w.cell? ⟨g,o+1,none⟩=some v
 c2:∃v,w.cell? ⟨g,o+2,none⟩=some v
 f0:w.frozen? ⟨g,o,none⟩=false
 f1:w.frozen? ⟨g,o+1,none⟩=false
 f2:w.frozen? ⟨g,o+2,none⟩=false
theorem Q38.lt {w:World} {g o:Nat} (h:Q38 w g o):g<w.heap.size:=by obtain ⟨v,hv⟩:=h.c0;exact UA hv
theorem Q38.step {w w':World} {g o B:Nat} (h:Q38 w g o) (hb:Below B w w') (hB:g<B):Q38 w' g o:=by
 obtain ⟨v0,h0⟩:=h.c0;obtain ⟨v1,h1⟩:=h.c1;obtain ⟨v2,h2⟩:=h.c2;exact ⟨⟨v0,(hb.cell (p:=⟨g,o,none⟩) hB).trans h0⟩,⟨v1,(hb.cell (p:=⟨g,o+1,none⟩) hB).trans h1⟩,⟨v2,(hb.cell (p:=⟨g,o+2,none⟩) hB).trans h2⟩,(hb.frozen (p:=⟨g,o,none⟩) hB).trans h.f0,(hb.frozen (p:=⟨g,o+1,none⟩) hB).trans h.f1,(hb.frozen (p:=⟨g,o+2,none⟩) hB).trans h.f2⟩
theorem Q38.set {w:World} {g o R i:Nat} (h:Q38 w g o) (Q0:R≠g∨o+2<i) (v:Value):Q38 (w.setCell ⟨R,i,none⟩ v) g o:=by
 obtain ⟨v0,h0⟩:=h.c0;obtain ⟨v1,h1⟩:=h.c1;obtain ⟨v2,h2⟩:=h.c2;have hd:∀k,k<=o+2->(⟨g,k,none⟩:Addr)≠⟨R,i,none⟩:=fun k hk e=>by injection e with e1 e2;omega
 refine ⟨⟨v0,(Ud _ _ _ _ ?_).trans h0⟩,⟨v1,(Ud _ _ _ _ ?_).trans h1⟩,⟨v2,(Ud _ _ _ _ ?_).trans h2⟩,by rw[Uo];exact h.f0,by rw[Uo];exact h.f1,by rw[Uo];exact h.f2⟩
 all_goals first|exact hd _ (by omega)|exact (hd _ (by omega)).symm
theorem Q38.stores {w:World} {g o:Nat} (h:Q38 w g o) (n:Bool) (e:Int):(∃v,w.cell? ⟨g,o,none⟩=some v)/\(∃v,(w.setCell ⟨g,o,none⟩ (.bool n)).cell? ⟨g,o+1,none⟩=some v)/\(∃v,((w.setCell ⟨g,o,none⟩ (.bool n)).setCell ⟨g,o+1,none⟩ (.int .i64 e)).cell? ⟨g,o+2,none⟩=some v):=by
 obtain ⟨v1,h1⟩:=h.c1;obtain ⟨v2,h2⟩:=h.c2;exact ⟨h.c0,⟨v1,(Ud _ _ _ _ (by simp)).trans h1⟩,⟨v2,(Ud _ _ _ _ (by simp)).trans ((Ud _ _ _ _ (by simp)).trans h2)⟩⟩
theorem Q60 (R p g o:Nat) (ov:Int) (s:ByteArray) (w:World) (hs:s.size<=1000000) (hT:Q1s w) (hR:w.cell? ⟨R,14,none⟩=some (.int .i64 ov)) (hf:w.frozen? ⟨R,14,none⟩=false) (hN:Q38 w g o) (Q0:R≠g∨o+2<14):
 Calls Tryz.prog 176 #[.pointer (some ⟨R,0,none⟩),.int .i64 (p:Int),.string s,.pointer (some ⟨g,o,none⟩)] w (J1s w R p g o ov s.data.toList):=by
 have hlR:=UA hR;have hp:=Qj8 s w (by omega) hT;have HP:=Xh6 hp hR hf hN hlR hN.lt;clear hp hR hf hN hlR hT
 go_enter Tryz.func176,Tryz.ntmps176
 go_upto_region 2 with (go_at_call 235;refine (Xo0 HP).mono ?_;rintro r w1 ⟨n,e,a,l,c,L,er,rfl,S6,i6,hb⟩;have H1:=Xh3 S6 i6 hb;clear S6 i6 hb)
 have J1:Bw w1 (w1.alloc (.cells #[.bool n,.int .i64 e,.slice a l c] 26)):=Ba;have K2:=Q03.new w1 (.bool n) (.int .i64 e) (.slice a l c) 26;have E0:=Q0h w1 (.cells #[.bool n,.int .i64 e,.slice a l c] 26);have C0:=Below.next0 (Xe2 H1) J1;have x6:=(C0.cell (p:=⟨R,14,none⟩) (Xo4 HP)).trans (Xo1 HP);have Y3:=(C0.frozen (p:=⟨R,14,none⟩) (Xo4 HP)).trans (Xo2 HP);have J2:=(Xo3 HP).step C0 (Xe5 HP);have KT:=(Xo1 H1).step J1;obtain ⟨z0,z1,z2⟩:=K2.cc;have hRb:R≠w1.heap.size:=by have:=(Xo4 HP);have:=(Xe2 H1).size;omega
 generalize w1.alloc (.cells #[.bool n,.int .i64 e,.slice a l c] 26)=W1 at*
 by_cases h2:er=2/\ov<0
 ·obtain ⟨rfl,hov⟩:=h2;have hM:=J2.set Q0 (.int .i64 (p:Int));obtain ⟨⟨s0,q0⟩,⟨s1,q1⟩,⟨s2,q2⟩⟩:=hM.stores n e;have g0:=hM.f0;have g1:=hM.f1;have g2:=hM.f2;have d:∀i,(W1.setCell ⟨R,14,none⟩ (.int .i64 (p:Int))).cell? ⟨w1.heap.size,i,none⟩=W1.cell? ⟨w1.heap.size,i,none⟩:=fun i=>Ud _ _ _ _ (by intro e;injection e with e1 e2;exact hRb e1);have y0:=(d 0).trans z0;have y1:=(d 1).trans z1;have y2:=(d 2).trans z2;have HX:=Xh2 KT C0;clear hM d KT C0 J1 J2 K2
  go_wp2_with fail
  go_ret;exact ⟨n,e,a,l,c,L,2,W1,rfl,(Xo0 H1),(Xe1 HX),(Xo0 HX),by rw[Us ⟨rfl,hov⟩];rfl⟩
 ·obtain ⟨⟨s0,q0⟩,⟨s1,q1⟩,⟨s2,q2⟩⟩:=J2.stores n e;have g0:=J2.f0;have g1:=J2.f1;have g2:=J2.f2;have HX:=Xh3 KT C0 h2
  by_cases he:er=2
  ·have hov:¬ov<0:=fun h=>h2 ⟨he,h⟩;subst he;clear KT C0 J1 J2 K2 h2
   go_wp2_with fail
   go_ret;exact ⟨n,e,a,l,c,L,2,W1,rfl,(Xo0 H1),(Xo1 HX),(Xo0 HX),by rw[Up (fun h=>by have:=h.2;omega)];rfl⟩
  ·have XB:(er==2)=false:=(by rw[Uk];exact he);clear KT C0 J1 J2 K2 h2
   go_wp2_with fail
   go_ret;exact ⟨n,e,a,l,c,L,er,W1,by simp[go_sem],(Xo0 H1),(Xo1 HX),(Xo0 HX),by rw[Up (Xe2 HX)];rfl⟩
def Quo (w:World) (R p g o:Nat) (ov:Int) (X:Option (LU)) (r:Ending) (w':World):Prop:=match X with
 |none=>r=.returned (.bool false)/\w'=w
 |some t=>J1s w R p g o ov t r w'
theorem Qmw (R p g o:Nat) (ov:Int) (s:ByteArray) (wd:LU) (w:World) (hs:s.size<=1000000) (hw:wd.length<=100) (hT:Q1s w) (hR:w.cell? ⟨R,14,none⟩=some (.int .i64 ov)) (hf:w.frozen? ⟨R,14,none⟩=false) (hN:Q38 w g o) (Q0:R≠g∨o+2<14):
 Calls Tryz.prog 126 #[.pointer (some ⟨R,0,none⟩),.int .i64 (p:Int),.string s,.string ⟨wd.toArray⟩,.pointer (some ⟨g,o,none⟩)] w (Quo w R p g o ov (Q5o wd s.data.toList)):=by
 obtain ⟨q,hp⟩:∃q:ByteArray,(⟨wd.toArray⟩:ByteArray)++⟨#[32]⟩=q:=⟨_,rfl⟩;have R7:q.data.toList=wd++[32]:=by rw[<-hp,Xae];simp
 have VP:¬9223372036854775807<wd.length+1:=by omega
 have ZZ:=Tryz.J2j s q w;rw[R7] at ZZ;have hr:=Qhg wd s.data.toList;obtain ⟨t,ht⟩:∃t,Lib.trimPrefix s.data.toList (wd++[32])=t:=⟨_,rfl⟩;obtain ⟨b,hb⟩:∃b,Lib.hasPrefix s.data.toList (wd++[32])=b:=⟨_,rfl⟩;have P6:t.length<=1000000:=by
  rw[<-ht];unfold Lib.trimPrefix;have:s.data.toList.length=s.size:=(Lib.size_eq s).symm
  split
  ·rw[Tg];omega
  ·omega
 rw[ht,hb] at ZZ;rw[ht,hb] at hr;rw[hr];have hnu:=Q60 R p g o ov ⟨t.toArray⟩ w P6 hT hR hf hN Q0;have HC:=Xh2 ZZ hnu;clear hr ZZ R7 ht hb hnu hT hR hf hN Q0 P6;cases b
 ·go_enter Tryz.func126,Tryz.ntmps126
  go_wp2_with (go_at_call 173;first|rw[hp]|skip;refine (Xo0 HC).mono ?_;rintro e w1 ⟨rfl,rfl⟩)
  go_ret;exact ⟨rfl,rfl⟩
 ·go_enter Tryz.func126,Tryz.ntmps126
  go_wp2_with (first
   |(go_at_call 173;first|rw[hp]|skip;refine (Xo0 HC).mono ?_;rintro e w1 ⟨rfl,rfl⟩)
   |(go_at_call 176;refine (Xe1 HC).mono ?_;rintro e w2 ⟨n,x,a,l,c,L,er,w3,rfl,G6⟩;have H2:=Ub G6;clear G6))
  go_ret;exact ⟨n,x,a,l,c,L,er,w3,rfl,H2.out⟩
def Qzl (s:ByteArray) (e:Ending):Prop:=match Qen 32 s.data.toList with
 |none=>e=.returned (.tuple #[.string s,.string ⟨#[]⟩,.bool false])
 |some p=>e=.returned (.tuple #[.string ⟨p.1.toArray⟩,.string ⟨p.2.toArray⟩,.bool true])
theorem Qol (s:ByteArray) (a b:Nat) (l:LU) (h:(s.data.toList.drop a).take (b-a)=l):s.extract a b=⟨l.toArray⟩:=by
 apply ByteArray.ext
 apply Array.ext'
 rw[Lib.extract_data,h]
theorem Qup (s:ByteArray) (w:World) (hs:s.size<=1000000):Calls Tryz.prog 236 #[.string s,.string ⟨#[32]⟩] w fun e w'=>Qzl s e/\Bw w w':=by
 have hix:=Tryz.J3m s 32 w;have hci:=Qe7 32 s.data.toList;have QP:s.data.toList.length=s.size:=(Lib.size_eq s).symm;obtain ⟨I,hI⟩:∃I,Lib.indexByte s.data.toList 32=I:=⟨_,rfl⟩;rw[hI] at hix hci;have HI:=Ub hix;clear hix hI;rcases hci with ⟨rfl,hn⟩|⟨N,rfl,hn,hN⟩
 ·have HN:=Ub hn;clear hn
  go_enter Tryz.func236,Tryz.ntmps236
  go_wp2_with (go_at_call 237;refine HI.out.mono ?_;rintro e w1 ⟨rfl,rfl⟩)
  refine ⟨rfl,.tuple #[.string s,.string ⟨#[]⟩,.bool false],by simp[results,go_sem],?_,Ug _ _⟩;unfold Qzl;rw[HN.out]
 ·have h1:(N:Int)<=(s.size:Int):=by omega
  have h2:(N:Int)+1<=(s.size:Int):=by omega
  have e1:=Qol s 0 N (s.data.toList.take N) (by simp);have e2:=Qol s (N+1) s.size (s.data.toList.drop (N+1)) (by rw[Uw];rw[Tg];omega);have HN:=Xh3 hn e1 e2;clear hn QP e1 e2
  go_enter Tryz.func236,Tryz.ntmps236
  go_upto_region 3 with (go_at_call 237;refine HI.out.mono ?_;rintro e w1 ⟨rfl,rfl⟩)
  go_quiet (fail)
  go_wp2_with fail
  refine ⟨rfl,.tuple #[.string (s.extract 0 N),.string (s.extract (N+1) s.size),.bool true],by simp[results,go_sem],?_,Q59 (Ug _ _) _⟩;unfold Qzl;rw[(Xo0 HN),(Xo1 HN),(Xe2 HN)]
theorem Qx3 (s:ByteArray) (w:World) (hs:s.size<=1000000):Calls Tryz.prog 177 #[.string s,.string ⟨#[32]⟩] w fun e w'=>Qzl s e/\Bw w w':=by
 have h:=Qup s w hs;unfold Qzl at h⊢;cases hc:Qen 32 s.data.toList with
 |none=>
  rw[hc] at h;have H:=Ub h;clear h hc
  go_enter Tryz.func177,Tryz.ntmps177
  go_wp2_with (go_at_call 236;refine H.out.mono ?_;rintro e w1 ⟨rfl,hb⟩)
  exact ⟨rfl,.tuple #[.string s,.string ⟨#[]⟩,.bool false],by simp[results,go_sem],rfl,hb⟩
 |some p=>
  rw[hc] at h;have H:=Ub h;clear h hc
  go_enter Tryz.func177,Tryz.ntmps177
  go_wp2_with (go_at_call 236;refine H.out.mono ?_;rintro e w1 ⟨rfl,hb⟩)
  exact ⟨rfl,.tuple #[.string ⟨p.1.toArray⟩,.string ⟨p.2.toArray⟩,.bool true],by simp[results,go_sem],rfl,hb⟩
end Go.Proofs.YtidojbkhlenahaaGreatDoor
