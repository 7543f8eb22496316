/- Part 27 of the proof of LawParseBuilt: ShowW, Law12A, ParFrame, Deck, OpenU4, RefCS. Condition: as each theorem says; none at the end. -/
import Derived.Test.YtdilmfakkppgpaaGreatDoorCards
import Derived.Test.YtdilmfakkppgpaaGreatDoorTie
import Derived.ProofKit
import Derived.OpenShut
import Derived.Deep.DeepHandedRow
import Derived.Lib.LaidTab
import Derived.Stop.LaidErr
import Derived.Shelf.Vars
import Derived.Lay
import Derived.Deep.Matrix
import Derived.Test.YtdilmfakkppgpaaGreatDoorPkParseBuilt26
set_option maxRecDepth 100000
set_option maxHeartbeats 16000000
namespace Go.Proofs.YtdilmfakkppgpaaGreatDoor
open Go.RowKit WordsM DecM
theorem Q8o (P:List Q0a):∀(F:List (List Q0a)) (i:Nat),Q2f i (F++[P])=Q2f i F++Q70 (i+F.length) P
 |[],i=>by simp[Q2f]
 |Q::F,i=>by
  rw[TD,Q2f,Q8o P F (i+1),Q2f,UO,Uz,show i+1+F.length=i+(F.length+1) by omega]
theorem Qcx (p:Q0a):∀(l:List Q0a) (b:Bool),Q0w b (l++[p])=Q0w b l++(Q4e (b && l.isEmpty) p++Q25 p)
 |[],b=>by simp[Q0w]
 |q::l,b=>by
  rw[TD,Q0w,Qcx p l false,Q0w];simp
theorem Qic {α:Type} {l:List α} {i:Nat} {x:α} (h:l[i]?=some x):l.take (i+1)=l.take i++[x]:=by rw[Tc,h];rfl
def Q1y (F:List (List Q01)):List (List Q0a):=F.map (List.map Q01.term)
theorem Qo8 {F:List (List Q01)} {i:Nat} {ms:List Q01} (h:F[i]?=some ms):(Q1y F)[i]?=some (ms.map Q01.term):=by unfold Q1y;rw[UT,h];rfl
theorem Qrw {k:Nat} {m:Q01} (h:OkM k m) (hl:Low (2^64) m.ws):Q5s m.term.1=m.neg:=by
 obtain ⟨⟨h1,h2⟩,h3⟩:=h;rcases Q21 h2 hl with ⟨h4,_⟩|⟨_,ho,_,hv,g1,g2⟩
 ·exact absurd h4 h3
 ·exact Qa6 ho
theorem Qkm {k:Nat} {m:Q01} (h:OkM k m) (hk:k<=4) (hl:Low (2^64) m.ws):(Q25 m.term).length<=7005:=by
 obtain ⟨_,g2,_,g4⟩:=Qia h hl;have R0:m.es.length<=4:=by have:=h.1.1.1;omega
 obtain ⟨h1,h2⟩:=Q8n m.es 0 (by omega) (fun x hx=>(Q1x h.1.1 x hx).2);have P0:∀t∈Q3y m.term,t.length<=1400:=fun t ht=>by
  unfold Q3y at ht
  split at ht
  ·rcases UF.1 ht with rfl|ht
   ·rw[g2];exact g4
   ·have:=h1 t ht;omega
  ·have:=h1 t ht;omega
 have Qm:(Q3y m.term).length<=5:=by
  have Jb:(Q2w 0 m.term.2).length<=4:=Ur h2 R0;unfold Q3y
  split
  ·rw[Uz];omega
  ·omega
 have:=Qcu _ P0;have:(Q3y m.term).length*1401<=5*1401:=Tp _ Qm
 show (Q4u (Q3y m.term)).length<=_
 omega
theorem Qkn (b:Bool) (p:Q0a):(Q4e b p).length<=3:=by
 unfold Q4e
 split <;> split <;> decide
theorem Qid {T:List Q0a} (h:∀p∈T,(Q25 p).length<=7005):∀b,(Q0w b T).length<=T.length*7008:=by
 induction T with
 |nil=>intro b;simp[Q0w]
 |cons p r ih=>
  intro b;have h1:=h p (by simp);have h2:=Qkn b p;have h3:=ih (fun q hq=>h q (by simp[hq])) false;rw[Q0w,Uj,Uj,Uz,Ti];omega
def Qvm (F:List (List Q01)):Prop:=∀ms∈F,ms.length<=24/\∀m∈ms,(Q25 m.term).length<=7005
theorem Q8p {ms:List Q01} (h:ms.length<=24/\∀m∈ms,(Q25 m.term).length<=7005) (k:Nat):(Q0w true ((ms.map Q01.term).take k)).length<=168192:=by
 have h1:=Qid (T:=(ms.map Q01.term).take k) (fun p hp=>by
  obtain ⟨m,hm,rfl⟩:=Tm.1 (Ty hp);exact h.2 m hm) true
 have h2:((ms.map Q01.term).take k).length<=24:=by rw[Tn,UQ];omega
 have:=Tp 7008 h2;omega
theorem Qko {ms:List Q01} (h:ms.length<=24/\∀m∈ms,(Q25 m.term).length<=7005) {i:Nat} (hi:i<9):(Q70 i (ms.map Q01.term)).length<=168200:=by
 have h1:=Q8p h ms.length;have h0:(ms.map Q01.term).length=ms.length:=UQ ..;rw[<-h0,Ta] at h1;have h2:=Q7x i hi;unfold Q70 polyT;rw[Uj,Uj,h2]
 split
 ·simp
 ·simp only[Uz,Xan];omega
theorem Qie {F:List (List Q01)} (h:Qvm F):∀i,i+F.length<=9->(Q2f i (Q1y F)).length<=F.length*168200:=by
 induction F with
 |nil=>intro i _;simp[Q2f,Q1y]
 |cons ms r ih=>
  intro i hi;rw[Uz] at hi;have h1:=Qko (h ms (by simp)) (i:=i) (by omega);have h2:=ih (fun x hx=>h x (by simp[hx])) (i+1) (by omega)
  show (Q70 i (ms.map Q01.term)++Q2f (i+1) (Q1y r)).length<=_
  rw[Uj,Uz,Ti];omega
theorem Qug {w:World} {a:OA} {n c:Nat} {F:List (List Q01)} (h:Q2t w a n c F) (hR:Q5d F):Qvm F:=by
 intro ms k6;obtain ⟨_,h4,hr⟩:=hR;obtain ⟨r1,r2,r3,r4,r5⟩:=hr ms k6;refine ⟨r3,fun m hm=>Qkm (r4 m hm) h4 ?_⟩;obtain ⟨h1,h2,h3,h0|⟨b,o,_,_,hF⟩⟩:=h
 ·rw[h0] at k6;cases k6
 obtain ⟨i,hi⟩:=Ts.1 k6;obtain ⟨p,l,d,_,hM⟩:=hF i ms hi;obtain ⟨_,_,_,h0|⟨b2,o2,_,_,hM⟩⟩:=hM
 ·rw[h0] at hm;cases hm
 obtain ⟨j,hj⟩:=Ts.1 hm;obtain ⟨_,_,_,_,_,_,_,_,_,_,hw,_⟩:=hM j m hj;exact hw.low
def Qwu (w1:World) (F:List (List Q01)) (s13:Value) (wr:World):Prop:=∃i:Nat,s13=.int .i64 (i:Int)/\i<=F.length/\Qb7 w1.heap.size w1.heap.size (Q2f 0 ((Q1y F).take i)) wr/\Bw w1 wr
def Qml (w1:World) (L0:LU) (ms:List Q01) (s27:Value) (wr:World):Prop:=∃k:Nat,s27=.int .i64 (k:Int)/\k<=ms.length/\Qb7 w1.heap.size w1.heap.size (L0++Q0w true ((ms.map Q01.term).take k)) wr/\Bw w1 wr
theorem Q3i.build {B b:Nat} {l:LU} {w:World} (h:Q3i B b (.pointer (some ⟨b,0,none⟩)) l w):Qb7 B b l w:=.inr h
theorem Qfl (a:OA) (n c:Nat) (F:List (List Q01)) (w:World) (h:Q2t w a n c F) (hT:Q2n w) (hP:Qo3 w):
 Calls Tryz.prog 12 #[.slice a n c] w fun r w'=>(Q5d F->r=.returned (sv (Q2f 0 (Q1y F))))/\(¬Q5d F->r=.returned (sv []))/\Bw w w':=by
 have L7:=Qdf a n c F w h
 by_cases hR:Q5d F
 case neg=>
  have H:=Xh2 L7 hR;clear L7 h hT hP hR
  go_enter Tryz.func12,Tryz.ntmps12
  go_wp2_with (go_at_call_of 30 (Value.slice a n c);refine (Xo0 H).mono ?_;rintro r w1 ⟨⟨bb,rfl,XU⟩,C0⟩;obtain rfl:bb=false:=by { cases bb with|false=>rfl|true=>exact absurd (XU.1 rfl) (Xe1 H) };have H1:=Ua C0;clear XU C0)
  go_ret;exact ⟨fun h=>absurd h (Xe1 H),fun _=>rfl,H1.out⟩
 case pos=>
 have ZK:=Qug h hR;have Z2:=h.1;have JY:n<=4:=by have:=hR.2.1;omega
 have H:=Xh6 L7 hR h hT hP ZK;clear L7 h hT hP ZK
 go_enter Tryz.func12,Tryz.ntmps12
 go_wp2_with (go_at_call_of 30 (Value.slice a n c);refine (Xo0 H).mono ?_;rintro r w1 ⟨⟨bb,rfl,XU⟩,C0⟩;obtain rfl:bb=true:=XU.2 (Xo1 H);have H1:=Ua C0;clear XU C0)
 have T4:Bw w1 (w1.alloc (.cells #[.pointer none,.slice none 0 0] 66)):=Ba;have hbn:=Qb7.new w1.heap.size w1 (Ug _);have HB:=Xh2 T4 hbn;clear T4 hbn hR;generalize w1.alloc (.cells #[.pointer none,.slice none 0 0] 66)=W2 at HB⊢
 rename World=>W2
 go_loopw [13] (fun s13 wr=>Qwu w1 F s13 wr) (fun iv _=>n-(intOf iv).toNat)
 case atStart=>exact ⟨0,rfl,Uu _,(Xe1 HB),(Xo0 HB)⟩
 case round=>
  obtain ⟨i,rfl,hi,Ql,Q0⟩:=hrel
  by_cases B0:i<F.length
  ·have E0:(i:Int)<(n:Int):=(by omega);obtain ⟨ms,k6⟩:∃ms,F[i]?=some ms:=⟨_,Ub B0⟩;have hF:=(Xo2 H).step H1.out;have JC:=Ud k6;have y7:=(Xo1 H).2.2 ms JC;have hshm:=(Xe5 H) ms JC;have P3:(Q2f 0 ((Q1y F).take i)).length<=672800:=by
    have h1:=Qie (F:=F.take i) (fun x hx=>(Xe5 H) x (Ty hx)) 0 (by rw[Tn];omega);have h2:(F.take i).length<=4:=(by rw[Tn];omega);have h3:=Tp 168200 h2;unfold Q1y at h1⊢;rw[<-List.map_take];omega
   have T9:=Qic (Qo8 k6);obtain ⟨_,_,_,h0|⟨g,o,rfl,hg,hFi⟩⟩:=hF
   ·rw[h0] at B0;exact absurd B0 (Xaf _)
   obtain ⟨p,l,d,V0,hM⟩:=hFi i ms k6;have Km:=hM.1;have V0:=(Q0.cell (p:=⟨g,o+i,none⟩) hg).trans V0;have T8:=Qmd i (by omega) wr;have hwr1:=Q2i w1.heap.size w1.heap.size (Q2f 0 ((Q1y F).take i)) (Q3t i) wr Ql (by rw[Q7x i (by omega)];omega) Q0.size;have HR:=Xh9 k6 y7 hshm P3 T9 hM T8 hwr1 Q0;clear k6 y7 hshm P3 T9 hM T8 hwr1 Q0 Ql JC hFi;obtain ⟨L0,VI⟩:∃L0,Q2f 0 ((Q1y F).take i)++Q3t i=L0:=⟨_,rfl⟩;have HL:=Ua VI;rw[VI] at HR;clear VI;obtain ⟨HM,hHM⟩:∃t,Q3t i=t:=⟨_,rfl⟩;rw[hHM] at HR;have HHM:=Ua hHM;clear hHM;have G3:Q70 i (ms.map Q01.term)=Q3t i++(polyT (ms.map Q01.term)++[10]):=rfl
   by_cases hms0:ms=[]
   ·subst hms0;obtain rfl:l=0:=Km.symm
    go_wp2_with (first
     |(go_at_call_of 31 (Value.pointer (some ⟨w1.heap.size,0,none⟩));refine (Xe1 H3).mono ?_;rintro r w4 ⟨rfl,F1,hbl4,_⟩
       have XH:=Xa0 (Xo0 H3) hbl4;have hwr3:=Q2i w1.heap.size w1.heap.size (L0++[48]) [10] w4 F1.build (by rw[<-HL.out,Uj,Uj,Q7x i (by omega)];have:=(Xo3 HR);simp;omega) XH.size;have H4:=Xh2 XH hwr3;clear F1 hbl4 XH hwr3)
     |(go_at_call_of 31 (Value.pointer (some ⟨w1.heap.size,0,none⟩));refine (Xo7 HR).mono ?_;rintro r w3 ⟨rfl,G0,Kd,_⟩
       have JL:=Xa0 (Xe8 HR) Kd;have YA:=Q2i w1.heap.size w1.heap.size L0 [48] w3 G0.build (by rw[<-HL.out,Uj,Q7x i (by omega)];have:=(Xo3 HR);simp;omega) JL.size;have H3:=Xh2 JL YA;clear G0 Kd JL YA)
     |(go_at_call_of 32 (Value.int IntKind.i64 (i:Int));refine (Xo6 HR).mono ?_;rintro r w2 ⟨rfl,rfl⟩))
    go_loopw [27] (fun s27 wr=>s27=.int .i64 0/\wr=w4) (fun _ _=>0)
    case atStart=>exact ⟨rfl,rfl⟩
    case round=>
     obtain ⟨rfl,rfl⟩:=hrel
     go_wp2_with (go_at_call_of 31 (Value.pointer (some ⟨w1.heap.size,0,none⟩));refine (Xe1 H4).mono ?_;rintro r w5 ⟨rfl,M0,k8,_⟩;have H5:=Xh2 M0 k8;clear M0 k8)
     refine ⟨⟨i+1,congrArg (Value.int .i64) (by omega),B0,?_,Xa0 (Xo0 H4) (Xe1 H5)⟩,by simp only[intOf];omega⟩;rw[(Xo4 HR),Q8o];have e:(Q2f 0 ((Q1y F).take i)++Q70 (0+((Q1y F).take i).length) (List.map Q01.term []))=L0++[48]++[10]:=by
      rw[show 0+((Q1y F).take i).length=i by rw[Tn];unfold Q1y;rw[UQ];omega,G3,<-HL.out];simp[polyT]
     rw[e];exact (Xo0 H5).build
   ·have A3:((l:Int)==0)=false:=by
     rw[Ui];intro e;exact hms0 (Tg (by omega))
    have HN0:=Ua hms0;clear hms0
    go_wp2_with (first
     |(go_at_call_of 31 (Value.pointer (some ⟨w1.heap.size,0,none⟩));refine (Xo7 HR).mono ?_;rintro r w3 ⟨rfl,G0,Kd,_⟩
       have JL:=Xa0 (Xe8 HR) Kd;have H3:=Xh2 JL G0;clear G0 Kd JL)
     |(go_at_call_of 32 (Value.int IntKind.i64 (i:Int));refine (Xo6 HR).mono ?_;rintro r w2 ⟨rfl,rfl⟩))
    go_loopw [27] (fun s27 wr=>Qml w1 L0 ms s27 wr) (fun iv _=>l-(intOf iv).toNat)
    case atStart=>exact ⟨0,rfl,Uu _,by simpa[Q0w] using (Xe1 H3).build,(Xo0 H3)⟩
    case round=>
     obtain ⟨k,rfl,hk,I7,N0⟩:=hrel
     by_cases QT:k<ms.length
     ·have hkl':(k:Int)<(l:Int):=(by omega);obtain ⟨m,hm⟩:∃m,ms[k]?=some m:=⟨_,Ub QT⟩;obtain ⟨_,_,_,h0|⟨b2,o2,rfl,D0,hMi⟩⟩:=(Xo5 HR)
      ·exact absurd h0 HN0.out
      obtain ⟨aw,lw,cw,ae,le,ce,q0,q1,q2,q3,hwm,Jc,U4,J4⟩:=hMi k m hm;have q0:=(N0.cell (p:=⟨b2,o2+k*4,none⟩) D0).trans q0;have q1:=(N0.cell (p:=⟨b2,o2+k*4+1,none⟩) D0).trans q1;have q2:=(N0.cell (p:=⟨b2,o2+k*4+2,none⟩) D0).trans q2;have q3:=(N0.cell (p:=⟨b2,o2+k*4+3,none⟩) D0).trans q3;have k9:OkM F.length m:=(Xo1 HR).2.2.2.1 m (Ud hm);have hnb:=Qrw k9 hwm.low;have T6:=Qcx m.term ((ms.map Q01.term).take k) true;have B6:(ms.map Q01.term).take (k+1)=(ms.map Q01.term).take k++[m.term]:=Qic (by rw[UT,hm];rfl);have Qb:=Q8p (Xo2 HR) k;have Z5:=(Xo2 HR).2 m (Ud hm);have hL0l:L0.length<=672806:=(by rw[<-HL.out,Uj,Q7x i (by omega)];have:=(Xo3 HR);omega);have hX:=Q38.new wr (.bool m.neg) (.int .i64 m.exp) (.slice aw lw cw) (.slice ae le ce) 44;have hhx:=Ul wr (.cells #[.bool m.neg,.int .i64 m.exp,.slice aw lw cw,.slice ae le ce] 44);have C2:Bw wr (wr.alloc (.cells #[.bool m.neg,.int .i64 m.exp,.slice aw lw cw,.slice ae le ce] 44)):=Ba;have hbX:=Below.next0 N0 C2;have Yr:=I7.call C2;have hbn:w1.heap.size≠wr.heap.size:=by
       have h1:=I7;unfold Qb7 at h1;intro e;rcases h1 with ⟨_,_,h2,_⟩|⟨_,_,h2,_⟩
       ·have:=(Uv.1 h2).1;omega
       ·have:=(Uv.1 h2).1;omega
      obtain ⟨L1,Xt⟩:∃L1,L0++Q0w true ((ms.map Q01.term).take k)=L1:=⟨_,rfl⟩;have hL1l:L1.length<=840998:=(by rw[<-Xt,Uj];omega);rw[Xt] at Yr;have Q1:=fun W=>Qib F.length m aw lw cw ae le ce W;obtain ⟨TT,hTT⟩:∃t,Q25 m.term=t:=⟨_,rfl⟩;rw[hTT] at T6 Z5 Q1;obtain ⟨ng,hng⟩:∃ng,m.neg=ng:=⟨_,rfl⟩;rw[hng] at q0 hX hhx C2 hbX Yr Q1 hnb;have HS:=Xh17 T6 B6 hwm Jc k9 hX hhx C2 hbX Yr hbn Q1 Z5 Xt hL1l hng hnb;clear hTT T6 B6 hwm Jc k9 hX hhx C2 hbX Yr hbn Q1 Z5 Xt hL1l Qb hL0l hng hnb I7 N0 hMi U4 J4;have b7:∀(st:LU) (w9:World),Q4e (true && ((ms.map Q01.term).take k).isEmpty) m.term=st->Q3i w1.heap.size w1.heap.size (.pointer (some ⟨w1.heap.size,0,none⟩)) (L1++st++TT) w9->Bw w1 w9->Qml w1 L0 ms (.int .i64 ((k:Int)+1)) w9:=fun st w9 hs h1 h2=>by
       refine ⟨k+1,congrArg (Value.int .i64) (by omega),QT,?_,h2⟩;rw[(Xo1 HS),(Xo0 HS),hs,<-UO,(Xo13 HS),<-UO];exact h1.build
      have HE:=Ua b7;clear b7;cases ng with
      |true=>
       by_cases ZZ:0<k
       ·have YI:(0:Int)<(k:Int):=(by omega);have R2:Q4e (true && ((ms.map Q01.term).take k).isEmpty) m.term=[32,45,32]:=by
         have e:((ms.map Q01.term).take k).isEmpty=false:=by
          rw[List.isEmpty_eq_false_iff];intro h;have:=congrArg List.length h;rw[Tn,UQ] at this;have e0:([]:List Q0a).length=0:=rfl;omega
         rw[e,Q4e,(Xe16 HS)];rfl
        have e0:=(Xo5 HS).c0;have e1:=(Xo5 HS).c1;have e2:=(Xo5 HS).c2;have e3:=(Xo5 HS).c3;have Vc:=Q2i w1.heap.size w1.heap.size L1 [32,45,32] (wr.alloc (.cells #[.bool true,.int .i64 m.exp,.slice aw lw cw,.slice ae le ce] 44)) (Xo9 HS) (by have:=(Xo14 HS);simp;omega) (Xo8 HS).size;have HA:=Xh2 R2 Vc;clear R2 Vc
        go_wp2_with (first
         |(go_at_call_of 31 (Value.pointer (some ⟨w1.heap.size,0,none⟩));refine (Xe1 H6).mono ?_;rintro r w7 ⟨rfl,F7,QV,_⟩
           have H7:=Xh2 F7 (Xa0 (Xo0 H6) QV);clear F7 QV)
         |(go_at_call_of 33 (Value.agg #[.bool true,.int .i64 m.exp,.slice aw lw cw,.slice ae le ce]);refine (Xe2 H5).mono ?_;rintro r w6 ⟨rfl,U2⟩
           have F8:=Below.next0 (Xo1 H5) U2;have JU:=Q2i w1.heap.size w1.heap.size (L1++[32,45,32]) TT w6 (Q3i.call (Xo0 H5) U2).build (by have:=(Xo14 HS);have:=(Xo12 HS);rw[Uj];simp;omega) F8.size;have H6:=Xh2 F8 JU;clear U2 F8 JU)
         |(go_at_call_of 31 (Value.pointer (some ⟨w1.heap.size,0,none⟩));refine (Xe1 HA).mono ?_;rintro r w5 ⟨rfl,M0,k8,ZL⟩
           have G8:=(Xo5 HS).onKept (ZL wr.heap.size _ _ _ (Xo6 HS) (by decide) (fun e=>(Xo10 HS) e.symm));have e0:=G8.c0;have e1:=G8.c1;have e2:=G8.c2;have e3:=G8.c3;have T7:=Xa0 (Xo8 HS) k8;have QU:=Below.next0 H1.out T7;have ZT:=(Xo11 HS) w5 ((Xo2 HS).step T7) ((Xo3 HS).step T7) (Xo4 HS) (by omega) ((Xo3 H).step QU) ((Xo4 H).step QU);have H5:=Xh3 M0 T7 ZT;clear M0 k8 ZL G8 T7 QU ZT))
        exact ⟨HE.out _ _ (Xo0 HA) (Xo0 H7) (Xe1 H7),by simp only[intOf];omega⟩
       ·have YI:¬((0:Int)<(k:Int)):=(by omega);have R2:Q4e (true && ((ms.map Q01.term).take k).isEmpty) m.term=[45]:=by
         have e:((ms.map Q01.term).take k).isEmpty=true:=by
          rw[show k=0 by omega];rfl
         rw[e,Q4e,(Xe16 HS)];rfl
        have e0:=(Xo5 HS).c0;have e1:=(Xo5 HS).c1;have e2:=(Xo5 HS).c2;have e3:=(Xo5 HS).c3;have Vc:=Q2i w1.heap.size w1.heap.size L1 [45] (wr.alloc (.cells #[.bool true,.int .i64 m.exp,.slice aw lw cw,.slice ae le ce] 44)) (Xo9 HS) (by have:=(Xo14 HS);simp;omega) (Xo8 HS).size;have HA:=Xh2 R2 Vc;clear R2 Vc
        go_wp2_with (first
         |(go_at_call_of 31 (Value.pointer (some ⟨w1.heap.size,0,none⟩));refine (Xe1 H6).mono ?_;rintro r w7 ⟨rfl,F7,QV,_⟩
           have H7:=Xh2 F7 (Xa0 (Xo0 H6) QV);clear F7 QV)
         |(go_at_call_of 33 (Value.agg #[.bool true,.int .i64 m.exp,.slice aw lw cw,.slice ae le ce]);refine (Xe2 H5).mono ?_;rintro r w6 ⟨rfl,U2⟩
           have F8:=Below.next0 (Xo1 H5) U2;have JU:=Q2i w1.heap.size w1.heap.size (L1++[45]) TT w6 (Q3i.call (Xo0 H5) U2).build (by have:=(Xo14 HS);have:=(Xo12 HS);rw[Uj];simp;omega) F8.size;have H6:=Xh2 F8 JU;clear U2 F8 JU)
         |(go_at_call_of 31 (Value.pointer (some ⟨w1.heap.size,0,none⟩));refine (Xe1 HA).mono ?_;rintro r w5 ⟨rfl,M0,k8,ZL⟩
           have G8:=(Xo5 HS).onKept (ZL wr.heap.size _ _ _ (Xo6 HS) (by decide) (fun e=>(Xo10 HS) e.symm));have e0:=G8.c0;have e1:=G8.c1;have e2:=G8.c2;have e3:=G8.c3;have T7:=Xa0 (Xo8 HS) k8;have QU:=Below.next0 H1.out T7;have ZT:=(Xo11 HS) w5 ((Xo2 HS).step T7) ((Xo3 HS).step T7) (Xo4 HS) (by omega) ((Xo3 H).step QU) ((Xo4 H).step QU);have H5:=Xh3 M0 T7 ZT;clear M0 k8 ZL G8 T7 QU ZT))
        exact ⟨HE.out _ _ (Xo0 HA) (Xo0 H7) (Xe1 H7),by simp only[intOf];omega⟩
      |false=>
       by_cases ZZ:0<k
       ·have YI:(0:Int)<(k:Int):=(by omega);have R2:Q4e (true && ((ms.map Q01.term).take k).isEmpty) m.term=[32,43,32]:=by
         have e:((ms.map Q01.term).take k).isEmpty=false:=by
          rw[List.isEmpty_eq_false_iff];intro h;have:=congrArg List.length h;rw[Tn,UQ] at this;have e0:([]:List Q0a).length=0:=rfl;omega
         rw[e,Q4e,(Xe16 HS)];rfl
        have e0:=(Xo5 HS).c0;have e1:=(Xo5 HS).c1;have e2:=(Xo5 HS).c2;have e3:=(Xo5 HS).c3;have Vc:=Q2i w1.heap.size w1.heap.size L1 [32,43,32] (wr.alloc (.cells #[.bool false,.int .i64 m.exp,.slice aw lw cw,.slice ae le ce] 44)) (Xo9 HS) (by have:=(Xo14 HS);simp;omega) (Xo8 HS).size;have HA:=Xh2 R2 Vc;clear R2 Vc
        go_wp2_with (first
         |(go_at_call_of 31 (Value.pointer (some ⟨w1.heap.size,0,none⟩));refine (Xe1 H6).mono ?_;rintro r w7 ⟨rfl,F7,QV,_⟩
           have H7:=Xh2 F7 (Xa0 (Xo0 H6) QV);clear F7 QV)
         |(go_at_call_of 33 (Value.agg #[.bool false,.int .i64 m.exp,.slice aw lw cw,.slice ae le ce]);refine (Xe2 H5).mono ?_;rintro r w6 ⟨rfl,U2⟩
           have F8:=Below.next0 (Xo1 H5) U2;have JU:=Q2i w1.heap.size w1.heap.size (L1++[32,43,32]) TT w6 (Q3i.call (Xo0 H5) U2).build (by have:=(Xo14 HS);have:=(Xo12 HS);rw[Uj];simp;omega) F8.size;have H6:=Xh2 F8 JU;clear U2 F8 JU)
         |(go_at_call_of 31 (Value.pointer (some ⟨w1.heap.size,0,none⟩));refine (Xe1 HA).mono ?_;rintro r w5 ⟨rfl,M0,k8,ZL⟩
           have G8:=(Xo5 HS).onKept (ZL wr.heap.size _ _ _ (Xo6 HS) (by decide) (fun e=>(Xo10 HS) e.symm));have e0:=G8.c0;have e1:=G8.c1;have e2:=G8.c2;have e3:=G8.c3;have T7:=Xa0 (Xo8 HS) k8;have QU:=Below.next0 H1.out T7;have ZT:=(Xo11 HS) w5 ((Xo2 HS).step T7) ((Xo3 HS).step T7) (Xo4 HS) (by omega) ((Xo3 H).step QU) ((Xo4 H).step QU);have H5:=Xh3 M0 T7 ZT;clear M0 k8 ZL G8 T7 QU ZT))
        exact ⟨HE.out _ _ (Xo0 HA) (Xo0 H7) (Xe1 H7),by simp only[intOf];omega⟩
       ·have YI:¬((0:Int)<(k:Int)):=(by omega);have R2:Q4e (true && ((ms.map Q01.term).take k).isEmpty) m.term=[]:=by
         have e:((ms.map Q01.term).take k).isEmpty=true:=by
          rw[show k=0 by omega];rfl
         rw[e,Q4e,(Xe16 HS)];rfl
        have e0:=(Xo5 HS).c0;have e1:=(Xo5 HS).c1;have e2:=(Xo5 HS).c2;have e3:=(Xo5 HS).c3;have hbX0:=Below.next0 H1.out (Xo8 HS);have ZT:=(Xo11 HS) _ ((Xo2 HS).step (Xo8 HS)) ((Xo3 HS).step (Xo8 HS)) (Xo4 HS) (by omega) ((Xo3 H).step hbX0) ((Xo4 H).step hbX0);have HA:=Xh2 R2 ZT;clear R2 ZT hbX0
        go_wp2_with (first
         |(go_at_call_of 31 (Value.pointer (some ⟨w1.heap.size,0,none⟩));refine (Xe1 H6).mono ?_;rintro r w7 ⟨rfl,F7,QV,_⟩
           have H7:=Xh2 F7 (Xa0 (Xo0 H6) QV);clear F7 QV)
         |(go_at_call_of 33 (Value.agg #[.bool false,.int .i64 m.exp,.slice aw lw cw,.slice ae le ce]);refine (Xe1 HA).mono ?_;rintro r w6 ⟨rfl,U2⟩
           have F8:=Below.next0 (Xo8 HS) U2;have JU:=Q2i w1.heap.size w1.heap.size L1 TT w6 ((Xo9 HS).call U2) (by have:=(Xo14 HS);have:=(Xo12 HS);omega) F8.size;have H6:=Xh2 F8 JU;clear U2 F8 JU))
        exact ⟨HE.out [] _ (Xo0 HA) (by rw[TV];exact (Xo0 H7)) (Xe1 H7),by simp only[intOf];omega⟩
     ·have hkl':¬((k:Int)<(l:Int)):=(by omega);have hke:k=ms.length:=(by omega);have B6:(ms.map Q01.term).take k=ms.map Q01.term:=UA (by rw[UQ];omega);rw[B6] at I7;have Qb:=Q8p (Xo2 HR) ms.length;have h0:(ms.map Q01.term).length=ms.length:=UQ ..;rw[<-h0,Ta] at Qb;have hL0l:L0.length<=672806:=(by rw[<-HL.out,Uj,Q7x i (by omega)];have:=(Xo3 HR);omega);have hw10:=Q2i w1.heap.size w1.heap.size (L0++Q0w true (ms.map Q01.term)) [10] wr I7 (by rw[Uj];simp;omega) N0.size;have HW:=Xh2 hw10 N0;clear I7 B6 hke Qb hL0l hw10 N0
      go_wp2_with (go_at_call_of 31 (Value.pointer (some ⟨w1.heap.size,0,none⟩));refine (Xo0 HW).mono ?_;rintro r w5 ⟨rfl,M0,k8,_⟩;have H5:=Xh2 M0 k8;clear M0 k8)
      refine ⟨⟨i+1,congrArg (Value.int .i64) (by omega),B0,?_,Xa0 (Xe1 HW) (Xe1 H5)⟩,by simp only[intOf];omega⟩;rw[(Xo4 HR),Q8o];have e:(Q2f 0 ((Q1y F).take i)++Q70 (0+((Q1y F).take i).length) (ms.map Q01.term))=L0++Q0w true (ms.map Q01.term)++[10]:=by
       rw[show 0+((Q1y F).take i).length=i by rw[Tn];unfold Q1y;rw[UQ];omega,G3,<-HL.out,polyT,Uq (by intro h;exact HN0.out (List.map_eq_nil_iff.1 h))];simp only[UO]
      rw[e];exact (Xo0 H5).build
  ·have E0:¬((i:Int)<(n:Int)):=(by omega);have A6:i=F.length:=(by omega);have P0:(Q1y F).take i=Q1y F:=UA (by unfold Q1y;rw[UQ];omega);rw[P0] at Ql;have C1:Q2f 0 (Q1y F)≠[]:=by
    intro e;have h1:=congrArg (List.count 10) e;rw[Qhg] at h1;have h2:(Q1y F).length=F.length:=(by unfold Q1y;exact UQ ..);have h3:=(Xo1 H).1;have h4:List.count (10:UInt8) []=0:=rfl;omega
   have ZP:=Tryz.Qzc w1.heap.size w1.heap.size (Q2f 0 (Q1y F)) wr Ql C1;have HS:=Xh2 ZP Q0;clear Ql P0 A6 C1 ZP Q0
   go_wp2_with (go_at_call_of 34 (Value.pointer (some ⟨w1.heap.size,0,none⟩));refine (Xo0 HS).mono ?_;rintro r w9 ⟨rfl,Z4⟩;have H9:=Ua (Xa0 (Xe1 HS) Z4);clear Z4)
   go_ret;exact ⟨fun _=>rfl,fun h=>absurd (Xo1 H) h,Below.next0 H1.out H9.out⟩
structure Quh (w:World):Prop where
 tab:Lib.TabIs Tryz.prog w "internal/strconv.uint64pow10" .u64 Lib.pow10Tab
 tz:Q2n w
 big:2<w.heap.size
theorem Qy3:Tryz.prog.globalNamed "internal/strconv.uint64pow10" =some 2:=by kernel_rfl
theorem Quh.below {w w':World} (h:Quh w) (hb:Bw w w'):Quh w':=⟨var?_below hb Qy3 h.big h.tab,h.tz.step hb,Ue h.big hb.size⟩
theorem Quh.pow {w:World} (h:Quh w):Qo3 w:=fun _ hb=>(h.below hb).tab
def kt1:LU:=[120,49,39,32,61,32,120,50,10,120,50,39,32,61,32,45,120,49,32,43,32,51,112,45,49,42,40,120,49,32,43,32,49,41,94,50,10]
def kt2:LU:=[120,49,39,32,61,32,43,10]
def kt3:LU:=[120,49,39,32,61,32,120,50,10,120,50,39,32,61,32,51,112,45,49,42,120,49,94,50,32,43,32,49,112,49,42,120,49,32,43,32,51,112,45,49,10]
def kF:List (List Q0a):=[[(dy 1 0,[0,1])],[(dy 3 (-1),[2,0]),(dy 1 1,[1,0]),(dy 3 (-1),[0,0])]]
theorem Qwv:Q2f 0 kF=kt3:=by decide+kernel
theorem Qy4:Q4d kt1=.ok kF:=by
 have h:(match Q4d kt1 with| .ok F=>decide (F=kF)|_=>false)=true:=by decide+kernel
 revert h
 cases Q4d kt1 with
 |error e=>intro h;cases h
 |ok F=>intro h;rw[Xab h]
theorem Qy5:Q4d kt2=.error (6,5):=by
 have h:(match Q4d kt2 with| .error e=>decide (e=(6,5))|_=>false)=true:=by decide+kernel
 revert h
 cases Q4d kt2 with
 |ok F=>intro h;cases h
 |error e=>intro h;rw[Xab h]
theorem Qrx (w:World) (hL:Quh w):
 Calls Tryz.prog 8 #[] w fun e w'=>e=.returned (.bool true)/\Bw w w':=by
 have QG:=Q63 ⟨#[120,49,39,32,61,32,120,50,10,120,50,39,32,61,32,45,120,49,32,43,32,51,112,45,49,42,40,120,49,32,43,32,49,41,94,50,10]⟩ w (by decide) hL.tz;rw[show Q4d (⟨#[120,49,39,32,61,32,120,50,10,120,50,39,32,61,32,45,120,49,32,43,32,51,112,45,49,42,40,120,49,32,43,32,49,41,94,50,10]⟩:ByteArray).data.toList=.ok kF from Qy4] at QG;have Jl:=fun W (hb:Bw w W)=>Q63 ⟨#[120,49,39,32,61,32,43,10]⟩ W (by decide) (hL.below hb).tz;rw[show Q4d (⟨#[120,49,39,32,61,32,43,10]⟩:ByteArray).data.toList=.error (6,5) from Qy5] at Jl;have hsv:sv (Q2f 0 kF)=.string ⟨#[120,49,39,32,61,32,120,50,10,120,50,39,32,61,32,51,112,45,49,42,120,49,94,50,32,43,32,49,112,49,42,120,49,32,43,32,51,112,45,49,10]⟩:=by rw[Qwv];rfl
 have QT:kF.length=2:=rfl;have H:=Xh5 QG Jl hsv hL QT;clear QG Jl hsv hL QT
 go_enter Tryz.func8,Tryz.ntmps8
 go_wp2_with (first
  |(go_at_call_of 12 (Value.slice a1 2 c1);refine (Xe1 H2).mono ?_;rintro r w3 ⟨rfl,G0⟩;have H3:=Ua (Below.next0 (Xo0 H2) G0);clear G0)
  |(go_at_call 17;refine ((Xo1 H) w1 (Xo0 H1)).mono ?_;rintro r w2 ⟨D0,rfl⟩
    have YD:=Below.next0 (Xo0 H1) D0;have ZK:Calls Tryz.prog 12 #[.slice a1 2 c1] w2 fun e w'=>e=.returned (.string ⟨#[120,49,39,32,61,32,120,50,10,120,50,39,32,61,32,51,112,45,49,42,120,49,94,50,32,43,32,49,112,49,42,120,49,32,43,32,51,112,45,49,10]⟩)/\Bw w2 w':=(Qfl a1 2 c1 Fv w2 ((Xo1 H1).step D0) ((Xo3 H).below YD).tz ((Xo3 H).below YD).pow).mono (by rintro e w' ⟨h1,_,h2⟩;exact ⟨by rw[h1 (Xe3 H1),show Q1y Fv=kF from (Xo2 H1),(Xo2 H)],h2⟩);have H2:=Xh2 YD ZK;clear D0 YD ZK)
  |(go_at_call 17;refine (Xo0 H).mono ?_;rintro r w1 ⟨C0,a1,n1,c1,Fv,rfl,YY,Y1,A1⟩
    obtain rfl:n1=2:=(by { have h0:=congrArg List.length Y1;rw[UQ,YY.1,(Xe4 H)] at h0;exact h0 });have H1:=Xh4 C0 YY Y1 A1;clear C0 YY Y1 A1))
 go_ret;exact ⟨rfl,H3.out⟩
end Go.Proofs.YtdilmfakkppgpaaGreatDoor
namespace Go.Proofs.YtdilmfakkppgpaaGreatDoor
open Go.RowKit
theorem Qei {w:World} {p:Addr} {v:Value} (h:w.cell? p=some v):p.block<w.heap.size:=by
 refine Xag fun o6=>?_;unfold World.cell? at h;rw[Xbg o6] at h;simp at h
theorem Qui {W:World} (h:laidMet Tryz.prog Rows.parseDeepRow.laid W):Lib.TabIs Tryz.prog W "internal/strconv.uint64pow10" .u64 Lib.pow10Tab:=by
 have h1:=h.tail.tail;exact Lib.tabIs_of_head (rest:=_) (t:=233) (e:=74) (n:=20) Qy3 (by kernel_rfl) (by kernel_rfl) (by kernel_rfl) (by kernel_rfl) (by kernel_rfl) h1
theorem Quj {W:World} (h:laidMet Tryz.prog Rows.parseDeepRow.laid W):Q2n W:=by
 have h1:=h.tail;have ht:Lib.TabIs Tryz.prog W "math/bits.deBruijn64tab" .u8 [0,1,56,2,57,49,28,3,61,58,42,50,38,29,17,4,62,47,59,36,45,43,51,22,53,39,33,30,24,18,12,5,63,55,48,27,60,41,37,16,46,35,44,21,52,32,23,11,54,26,40,15,34,20,31,10,25,14,19,9,13,8,7,6]:=
  Lib.tabIs_of_head (rest:=_) (g:=1) (t:=206) (e:=5) (n:=64) (by kernel_rfl) (by kernel_rfl) (by kernel_rfl) (by kernel_rfl) (by kernel_rfl) (by kernel_rfl) h1
 have hc:=fun i hi=>ht.cell (g:=1) (by kernel_rfl) i hi;refine ⟨Qei (hc 0 (by decide)),fun j hj=>?_⟩;have WT:j<64:=hj;rw[hc j WT];have key:∀i:Fin 64,([0,1,56,2,57,49,28,3,61,58,42,50,38,29,17,4,62,47,59,36,45,43,51,22,53,39,33,30,24,18,12,5,63,55,48,27,60,41,37,16,46,35,44,21,52,32,23,11,54,26,40,15,34,20,31,10,25,14,19,9,13,8,7,6]:List Int).getD i.val 0=((Go.Lib.deBruijn64tab.getD i.val 0:Nat):Int):=by decide
 rw[key ⟨j,WT⟩]
theorem Qww {W:World} (h:laidMetH Tryz.prog Rows.parseDeepRow.laid W) (_hs:W.ShapedOpen Tryz.prog):Quh W:=by
 rw[MakeChecks.laidMetH_plain _ _ _ (by kernel_rfl)] at h;have ht:=Qui h;exact ⟨ht,Quj h,Qei (ht.cell (g:=2) (by kernel_rfl) 0 (by decide))⟩
section
variable {H:Type} {enc:TypeId × Value->H}
theorem Q9n {C:Checked} {os:Os} {f:FuncId} {fn:Func} {s:OpenSpec} {conds:List PathCond} {apart:Bool} {laid:List (String × DataW Unit)} (modest:Bool) (w0:World) (args:Array Value) (hos:w0.os=os)
 (ZK:(w0.forCall (fun _ _=>0) ⟨#[],args,[]⟩).Shaped C.prog) (D3:Input.okWideB C.prog (w0.forCall (fun _ _=>0) ⟨#[],args,[]⟩) f ⟨#[],args,[]⟩=true)
 (I0:s.preRow enc C.prog fn conds apart laid (w0.forCall (fun _ _=>0) ⟨#[],args,[]⟩).memory args):
 ∃(w:World) (tape:Tape) (i:Input),w.os=os/\(w.forCall tape i).Shaped C.prog/\i.vars=[]/\Input.okWide C.prog (w.forCall tape i) .any w.heap.size f i/\
  s.preRow enc C.prog fn conds apart laid (w.forCall tape i).memory i.args/\({ modest:=modest }:Assume).holds C.prog (lone (Frame.enter C.prog f i.args .normal) [] (w.forCall tape i)):=
 ⟨w0,fun _ _=>0,⟨#[],args,[]⟩,hos,ZK,(Input.okWide_of_okWideB (base:=0) D3).1,(Input.okWide_of_okWideB D3).2,I0,by
   simp only[Assume.holds];exact ⟨by simp,by simp,fun _=>Modest.zero,by simp,by simp⟩⟩
end
theorem own:ownKnob Tryz.prog.godebug=none:=by kernel_rfl
end Go.Proofs.YtdilmfakkppgpaaGreatDoor
namespace Go.Proofs.YtdilmfakkppgpaaGreatDoor
open Go.RowKit WordsM
def uv (n:Nat):Value:=.int .u64 (n:Int)
def RdU (w:World) (B:Nat) (a:OA) (ls:LN):Prop:=
 ls=[]∨∃b o,a=some ⟨b,o,none⟩/\b<B/\∀(j:Nat) x,ls[j]?=some x->w.cell? ⟨b,o+j,none⟩=some (uv x)
theorem RdU.keep {w w':World} {B:Nat} {a:OA} {ls:LN} (h:RdU w B a ls) (hk:∀p:Addr,p.block<B->w'.cell? p=w.cell? p):RdU w' B a ls:=by
 rcases h with rfl|⟨b,o,rfl,hb,hc⟩
 ·exact .inl rfl
 ·exact .inr ⟨b,o,rfl,hb,fun j x hx=>(hk _ hb).trans (hc j x hx)⟩
def Q8w (w:World) (b i:Nat):Prop:=∃a n c ls,w.heap[b]?=some (.cells #[.slice a n c,.int .i64 (i:Int)] 62 (0,0))/\ls.length=n/\n<=9223372036854775807/\RdU w b a ls/\∀x∈ls,x<18446744073709551616
section
variable {w w':World} {b i:Nat} {fp:Nat->Prop}
theorem Q8w.lt (h:Q8w w b i):b<w.heap.size:=by
 obtain ⟨a,n,c,ls,hh,_⟩:=h;exact (Uv.1 hh).1
theorem Q8w.turn (h:Q8w w b i) (ht:Q0f fp w w') (hn:∀k,k<=b->¬fp k):Q8w w' b i:=by
 have hb:=h.lt;obtain ⟨a,n,c,ls,hh,h1,h2,h3,h4⟩:=h;exact ⟨a,n,c,ls,(ht.block b hb (hn b (Ug _))).trans hh,h1,h2,h3.keep fun p hp=>ht.cell (by omega) (hn _ (by omega)),h4⟩
theorem Q8w.call (h:Q8w w b i) (hb:Bw w w'):Q8w w' b i:=h.turn (Q0f.of_below hb fun _=>False) fun _ _ h=>h
end
theorem Qax (b i:Nat) (w:World) (h:Q8w w b i) (hi:i<=1000000):
 Calls Tryz.prog 38 #[.pointer (some ⟨b,0,none⟩)] w fun e w'=>(∃x:Nat,x<18446744073709551616/\e=.returned (.int .u64 (x:Int)))/\Q8w w' b (i+1)/\Q0f (·=b) w w':=by
 obtain ⟨a,n,c,ls,hh,Z2,hn,X8,hx⟩:=h;have k0:w.cell? ⟨b,0,none⟩=some (.slice a n c):=by rw[Ux _ _ _ _ _ _ hh];rfl
 have k1:w.cell? ⟨b,1,none⟩=some (.int .i64 (i:Int)):=by rw[Ux _ _ _ _ _ _ hh];rfl
 have f1:w.frozen? ⟨b,1,none⟩=false:=TC _ _ _ _ _ hh;have G3:∀V:World,V.heap=w.heap->V.os=w.os->V.tape=w.tape->V.output=w.output->Q8w (V.setCell ⟨b,1,none⟩ (.int .i64 ((i:Int)+1))) b (i+1)/\Q0f (·=b) w (V.setCell ⟨b,1,none⟩ (.int .i64 ((i:Int)+1))):=by
  intro V h1 h2 h3 h4;have hV:V.heap[b]?=some (.cells #[.slice a n c,.int .i64 (i:Int)] 62 (0,0)):=by rw[h1];exact hh
  refine ⟨⟨a,n,c,ls,?_,Z2,hn,X8.keep fun p hp=>?_,hx⟩,?_⟩
  ·rw[heap_setCell_same _ _ _ _ _ _ hV];rfl
  ·rw[Uc _ _ _ _ (fun e=>by subst e;exact Nat.lt_irrefl _ hp)];exact Td (by rw[h1])
  ·have ht:=Q0f.setCell (fun k=>k=b) V (p:=⟨b,1,none⟩) rfl (.int .i64 ((i:Int)+1));exact ⟨ht.os.trans h2,ht.tape.trans h3,ht.output.trans h4,by rw[<-h1];exact ht.size,fun k hk hn=>by rw[<-h1];exact ht.block k (by rw[h1];exact hk) hn⟩
 have HF:=Ua G3;have HR:=Xh2 X8 hx;clear G3 hh X8 hx
 by_cases B0:i<n
 ·have E0:(i:Int)<(n:Int):=by omega
  obtain ⟨x,Wl⟩:∃x,ls[i]?=some x:=⟨_,Ub (by omega)⟩;obtain ⟨y,o,rfl,hy,hc⟩:∃y o,a=some ⟨y,o,none⟩/\y<b/\w.cell? ⟨y,o+i,none⟩=some (.int .u64 (x:Int)):=by
   rcases (Xo0 HR) with rfl|⟨y,o,e,hy,hc⟩
   ·simp at Wl
   ·exact ⟨y,o,e,hy,hc i x Wl⟩
  have hx64:=(Xe1 HR) x (Ud Wl);clear Wl
  go_enter Tryz.func38,Tryz.ntmps38
  go_wp2_with fail
  go_quiet (fail)
  go_wp2_with fail
  go_quiet (fail)
  go_wp2_with fail
  go_ret;exact ⟨⟨x,hx64,rfl⟩,HF.out _ rfl rfl rfl rfl⟩
 ·have E0:¬((i:Int)<(n:Int)):=by omega
  go_enter Tryz.func38,Tryz.ntmps38
  go_wp2_with fail
  go_quiet (fail)
  go_wp2_with fail
  go_ret;exact ⟨⟨0,by omega,rfl⟩,HF.out _ rfl rfl rfl rfl⟩
theorem Qo9 (a:OA) (n c:Nat) (ls:LN) (w:World) (hl:ls.length=n) (hn:n<=9223372036854775807) (h:RdU w w.heap.size a ls) (hx:∀x∈ls,x<18446744073709551616):
 Calls Tryz.prog 9 #[.slice a n c] w fun e w'=>e=.returned (.pointer (some ⟨w.heap.size,0,none⟩))/\Q8w w' w.heap.size 0/\Bw w w':=by
 have H:=Ua h;clear h
 go_enter Tryz.func9,Tryz.ntmps9
 go_wp2_with fail
 go_ret;exact ⟨rfl,⟨a,n,c,ls,Ul _ _,hl,hn,H.out.keep fun p hp=>UX _ _ p hp,hx⟩,Ba⟩
theorem Qoa {neg:Bool} {v:Nat} {exp:Int} {neg':Bool} {e':Int} {L:LN} {er:Int} (h:Q5z neg v exp neg' e' L er):Q0i neg' e' L:=by
 rcases h with ⟨_,rfl,rfl,rfl,_⟩|⟨z,_,⟨_,rfl,rfl,rfl,_⟩|⟨_,_,h,rfl,rfl,rfl,_⟩⟩
 ·simp[Q0i]
 ·simp[Q0i]
 ·exact h
theorem Q0f.newSet {fp:Nat->Prop} {w w':World} (h:Q0f fp w w') {p:Addr} (hp:w.heap.size<=p.block) (v:Value):Q0f fp w (w'.setCell p v):=
 ⟨h.os,h.tape,h.output,by rw[UV];exact h.size,fun k hk hn=>(TE _ _ _ _ (by omega)).trans (h.block k hk hn)⟩
theorem Qry (w:World) (m:Nat) (hm:m<18446744073709551616) (T:TypeId):WordsIn (w.alloc (.cells #[.int .u64 (m:Int)] T)) (some ⟨w.heap.size,0,none⟩) 1 1 [m]:=
 ⟨rfl,Ug _,by omega,fun x hx=>by rw[Uy] at hx;subst hx;exact hm,.inr ⟨w.heap.size,0,rfl,Q0r _ _,fun j x hx=>by
   cases j with
   |zero=>simp only[UI,Un] at hx;subst hx;rw[Ux _ _ _ _ _ _ (Ul _ _)];rfl
   |succ j=>simp at hx⟩⟩
end Go.Proofs.YtdilmfakkppgpaaGreatDoor
namespace Go.Proofs.YtdilmfakkppgpaaGreatDoor
open Go.ChangeShapes Go.WideShapes Go.ChangeAt Go.RowKit
theorem Qrz {H:Type} {enc:TypeId × Value->H} {W:World} {sp:Nat->Bool} {hd:Bool} {a:OA} {len cap:Nat} {d:DataW H} {p:List MemPlace}
 (h:DataW.Trod enc Tryz.prog W 0 sp hd 23 (.slice a len cap) d p):
 ∃ls:LN,ls.length=len/\len<=9223372036854775807/\RdU W W.heap.size a ls/\∀x∈ls,x<18446744073709551616:=by
 obtain ⟨fuel,hf⟩:=h;rcases open_ints Tryz.underlying23 Tryz.underlying74 (by kernel_rfl) hf with ⟨M8,_⟩|⟨x,l,c,zs,M8,_,hl,hm,hz,_,V0,E8⟩
 ·simp[Value.cells] at M8;obtain ⟨rfl,rfl,rfl⟩:=M8;exact ⟨[],rfl,by omega,.inl rfl,by simp⟩
 ·simp[Value.cells] at M8;obtain ⟨rfl,rfl,rfl⟩:=M8;unfold maxLen at hm;have K9:len<=zs.length:=by rw[hz];split <;> omega
  have JR:∀(i:Nat) z,zs[i]?=some z->0<=z/\z<=18446744073709551615:=by
   intro i z hi;have:=E8 z (Ud hi);simpa[Lit.wf,IntKind.min,IntKind.max,IntKind.signed,IntKind.bits] using this
  refine ⟨(zs.take len).map fun n=>n.toNat,by simp;omega,by omega,?_,?_⟩
  ·by_cases h0:len=0
   ·exact .inl (by simp[h0])
   ·obtain ⟨b,o,spot⟩:=x;have h1:=V0 0 (by omega);have hspot:spot=none:=(by simpa[Addr.add] using World.cell?_spot h1);subst hspot;have hb:b<W.heap.size:=by
     have:=US h1;rwa[show (Addr.add ⟨b,o,none⟩ 0).block=b by simp[Addr.add]] at this
    refine .inr ⟨b,o,rfl,hb,fun j y hy=>?_⟩;rw[UT] at hy;cases J1:(zs.take len)[j]? with
    |none=>rw[J1] at hy;cases hy
    |some z=>
     rw[J1] at hy;simp only[UM,Un] at hy;subst hy;rw[To] at J1
     split at J1
     ·next hj=>
      obtain ⟨y4,A1⟩:=JR j z J1;have Kb:j<zs.length:=(Um.1 J1).1;have h2:=V0 j Kb;rw[show (⟨b,o,none⟩:Addr).add j=⟨b,o+j,none⟩ by unfold Addr.add;split <;> simp_all] at h2;have e:zs.getD j 0=z:=(by rw[Tf,J1];rfl);rw[h2,e];unfold uv
      congr 2;omega
     ·cases J1
  ·intro x hx;obtain ⟨z,hz3,rfl⟩:=Tm.1 hx;obtain ⟨i,hi⟩:=Ts.1 (Ty hz3);have:=JR i z hi;omega
end Go.Proofs.YtdilmfakkppgpaaGreatDoor
namespace Go.Proofs.YtdilmfakkppgpaaGreatDoor
open Go.RowKit WordsM
def Qob (v u:Nat):Int:=if v<u then -1 else if u<v then 1 else 0
theorem Qoc (a:OA) (n c v:Nat) (b:OA) (m d u:Nat) (w:World) (h1:Q0n w a n c v) (h2:Q0n w b m d u) (hn:n<=1000000):
 Calls Tryz.prog 60 #[.slice a n c,.slice b m d] w fun e w'=>e=.returned (.int .i64 (Qob v u))/\Bw w w':=by
 have Jp:val (2^32) (dig (2^32) v)=v:=Q0x (by decide) v;have Jr:val (2^32) (dig (2^32) u)=u:=Q0x (by decide) u;have Zu:=Q2c (B:=2^32) (by decide) v;have Zd:=Q2c (B:=2^32) (by decide) u;have QN:=h1.len;have Xu:=h2.len;have A1:=h1.rd;have G1:=h2.rd;have ZS:n<m->v<u:=fun h=>Xag fun o6=>by
  have h3:=Q1v (B:=2^32) (by decide) o6;omega
 have Zh:m<n->u<v:=fun h=>Xag fun o6=>by
  have h3:=Q1v (B:=2^32) (by decide) o6;omega
 obtain ⟨A,hA⟩:∃A,dig (2^32) v=A:=⟨_,rfl⟩;obtain ⟨K,hK⟩:∃K,dig (2^32) u=K:=⟨_,rfl⟩;rw[hA] at Jp Zu QN A1;rw[hK] at Jr Zd Xu G1;obtain ⟨r,hr⟩:∃r,Qob v u=r:=⟨_,rfl⟩;have H:=Xh6 Jp Jr Zu Zd A1 G1;rw[hr];have HL:=Xh3 ZS Zh hr;clear Jp Jr Zu Zd A1 G1 hA hK h1 h2 ZS Zh hr
 by_cases C1:n=m
 ·subst C1;have hneI:((n:Int) != (n:Int))=false:=by simp
  go_enter Tryz.func60,Tryz.ntmps60
  go_wp2_with fail
  go_loopw [5] (fun iv wr=>∃j:Nat,iv=.int .i64 ((j:Int)-1)/\j<=n/\A.drop j=K.drop j/\Bw w wr) (fun iv _=>(intOf iv+1).toNat)
  case atStart=>exact ⟨n,rfl,Ug _,by rw[UZ (by omega),UZ (by omega)],Uf _ _⟩
  case round=>
   obtain ⟨j,rfl,hj,M9,hb⟩:=hrel;cases j with
   |zero=>
    have O4:A=K:=(by simpa using M9);have y4:r=0:=by
     rw[<-(Xe2 HL),<-(Xo0 H),<-(Xo1 H),O4];unfold Qob;rw[Uq (Nat.lt_irrefl _),Uq (Nat.lt_irrefl _)]
    have HE:=Xh2 y4 hb;clear M9 O4 hb y4
    go_wp2_with fail
    go_ret;exact ⟨by rw[(Xo0 HE)];rfl,(Xe1 HE)⟩
   |succ j=>
    obtain ⟨x,hx⟩:∃x,A[j]?=some x:=⟨_,Ub (by omega)⟩;obtain ⟨y,hy⟩:∃y,K[j]?=some y:=⟨_,Ub (by omega)⟩;obtain ⟨g1,o1,N6,B7,E6⟩:=((Xo4 H).below hb).at_ hx;obtain ⟨g2,o2,L6,Y6,y9⟩:=((Xe5 H).below hb).at_ hy;subst N6 L6;have hjI:((j+1:Nat):Int)-1=(j:Int):=(by omega);have hjA:(j:Int)<(n:Int):=(by omega);have hj0:((j:Int)≥0):=(by omega);have HH:=Xh4 M9 hb hx hy;clear M9 hb hx hy;rw[hjI]
    by_cases B0:x<y
    ·have Wl:(x:Int)<(y:Int):=(by omega);have hv:=Qex (B:=2^32) (by decide) (Xo2 H) (Xo2 HH) (Xe3 HH) (Xo0 HH) B0;have y4:r= -1:=by
      rw[<-(Xe2 HL)];unfold Qob;rw[Us (by rw[<-(Xo0 H),<-(Xo1 H)];exact hv)]
     have HV:=Ua y4;clear hv y4
     go_wp2_with fail
     go_quiet (fail)
     go_wp2_with fail
     go_ret;exact ⟨by rw[HV.out];rfl,Q1w (Xo1 HH) _⟩
    ·have Wl:¬(x:Int)<(y:Int):=by omega
     by_cases hgt:y<x
     ·have hyx:(y:Int)<(x:Int):=(by omega);have hv:=Qex (B:=2^32) (by decide) (Xo3 H) (Xe3 HH) (Xo2 HH) (Xo0 HH).symm hgt;have y4:r=1:=by
       rw[<-(Xe2 HL)];unfold Qob;have ZG:u<v:=(by rw[<-(Xo0 H),<-(Xo1 H)];exact hv);rw[Uq (by omega),Us ZG]
      have HV:=Ua y4;clear hv y4
      go_wp2_with fail
      go_quiet (fail)
      go_wp2_with fail
      go_quiet (fail)
      go_wp2_with fail
      go_ret;exact ⟨by rw[HV.out];rfl,Q1w (Q1w (Xo1 HH) _) _⟩
     ·have hyx:¬(y:Int)<(x:Int):=(by omega);have hxe:x=y:=by omega
      go_wp2_with fail
      go_quiet (fail)
      go_wp2_with fail
      go_quiet (fail)
      go_wp2_with fail
      refine ⟨⟨j,rfl,by omega,?_,Q1w (Xo1 HH) _⟩,by simp only[intOf];omega⟩;have h1:=(Xo0 HH);have e1:=(Um.1 (Xo2 HH));have e2:=(Um.1 (Xe3 HH));rw[UC e1.1,UC e2.1,e1.2,e2.2,h1,hxe]
 ·have hneI:((n:Int) != (m:Int))=true:=by rw[bne_iff_ne];omega
  by_cases B0:n<m
  ·have hltI:(n:Int)<(m:Int):=(by omega);have y4:r= -1:=(by rw[<-(Xe2 HL)];unfold Qob;rw[Us ((Xo0 HL) B0)]);have HV:=Ua y4;clear y4
   go_enter Tryz.func60,Tryz.ntmps60
   go_wp2_with fail
   go_ret;exact ⟨by rw[HV.out];rfl,Uf _ _⟩
  ·have hltI:¬(n:Int)<(m:Int):=(by omega);have y4:r=1:=by
    have:=(Xo1 HL) (by omega);rw[<-(Xe2 HL)];unfold Qob;rw[Uq (by omega),Us this]
   have HV:=Ua y4;clear y4
   go_enter Tryz.func60,Tryz.ntmps60
   go_wp2_with fail
   go_ret;exact ⟨by rw[HV.out];rfl,Uf _ _⟩
theorem Qkp {B:Nat} {A K L:LN} {i cr x y z cr':Nat} (hL:L.length=i) (hx:A[i]?=some x) (hs:z+y+cr=x+cr'*B) (hy:K[i]?.getD 0=y) (h:val B L+val B (K.take i)=val B (A.take i)+cr*B^i):val B (L++[z])+val B (K.take (i+1))=val B (A.take (i+1))+cr'*B^(i+1):=by
 rw[Qba,hL,Q5p A i,Q5p K i,hx,hy,TY,Th];have h1:B^i*z+B^i*y+cr*B^i=B^i*x+cr'*(B^i*B):=by
  have:=congrArg (B^i*·) hs;simp only[Tt] at this;rw[UG cr,Nat.mul_left_comm cr'];rw[<-this]
 omega
end Go.Proofs.YtdilmfakkppgpaaGreatDoor
