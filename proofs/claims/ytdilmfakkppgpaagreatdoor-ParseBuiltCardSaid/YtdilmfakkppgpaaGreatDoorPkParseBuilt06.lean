/- Part 6 of the proof of LawParseBuilt: RefH, NatS, NumB, NatF, Tz, NatG. Condition: as each theorem says; none at the end. -/
import Derived.Shelf.Spec.TrailingZeros
import Derived.Ground.Names7Prog
import Derived.Test.YtdilmfakkppgpaaGreatDoorPkParseBuilt05
set_option maxRecDepth 100000
set_option maxHeartbeats 16000000
namespace Go.Proofs.YtdilmfakkppgpaaGreatDoor
open Go.RowKit WordsM
def Qpl (neg:Bool) (v:Nat) (e:Int) (neg':Bool) (v':Nat) (e':Int):Prop:=(v=0/\neg'=false/\v'=0/\e'=0)∨∃z:Nat,Qjg v z/\neg'=neg/\v'=v / 2^z/\e'=e+z
theorem Qan {B u v:Nat} (hB:2<=B) (h:u<=v):(dig B u).length<=(dig B v).length:=by
 refine Q2h hB (TO h ?_);have h1:=Q3k (B:=B) (by omega) (dig B v) (Q2c hB v);rwa[Q0x hB] at h1
theorem Q0n.nil_ (w:World):Q0n w none 0 0 0:=⟨rfl,Ug _,by omega,.inl rfl⟩
theorem Q41 (neg:Bool) (a:OA) (n c:Nat) (v:Nat) (e:Int) (w:World) (h:Q0n w a n c v) (hn:n<=1000000) (he: -1000000000<=e) (V6:e<=1000000000):
 Calls Tryz.prog 58 #[.bool neg,.slice a n c,.int .i64 e] w fun r w'=>∃neg' a' n' c' v' e',r=.returned (.agg #[.bool neg',.slice a' n' c',.int .i64 e'])/\Qpl neg v e neg' v' e'/\Q0n w' a' n' c' v'/\n'<=n/\-1000000000<=e'/\e'<=1000000000+32*n/\Bw w w':=by
 have F2:∀o,Bw w (w.alloc o):=fun o=>Ba;have hN:=Q02.new w (.bool false) (.slice none 0 0) (.int .i64 0) 56;have A3:=Q0r w (.cells #[.bool false,.slice none 0 0,.int .i64 0] 56)
 by_cases h0:v=0
 ·have d8:n=0:=by have:=h.len;rw[h0,Q11] at this;exact this.symm
  subst d8;have HS:=Xh2 hN (F2 (.cells #[.bool false,.slice none 0 0,.int .i64 0] 56));have Y3:=hN.c0;have N1:=hN.c1;have E1:=hN.c2;have Q4:=hN.f0;have O2:=hN.f1;have X2:=hN.f2;have K2:=hN.d1 (.bool false);have M2:=hN.d2 (.bool false) (.slice none 0 0);clear hN F2 h
  go_enter Tryz.func58,Tryz.ntmps58
  go_wp2_with fail
  have k0:=(Xo0 HS).c0;have k1:=(Xo0 HS).c1;have k2:=(Xo0 HS).c2;have G0:=(Xe1 HS);clear HS K2 M2 Y3 N1 E1 Q4 O2 X2;generalize w.alloc _=W3 at k0 k1 k2 G0⊢;refine ⟨rfl,.agg #[.bool false,.slice none 0 0,.int .i64 0],by simp[results,go_sem,k0,k1,k2],false,none,0,0,0,0,rfl,.inl ⟨h0,rfl,rfl,rfl⟩,Q0n.nil_ _,Ug _,by omega,by omega,G0⟩
 ·have d8:n≠0:=fun e=>h0 ((Q56 (B:=2^32) (by decide)).1 (UH.1 (by rw[h.len,e])));have YC:((n:Int)==0)=false:=by rw[Ui];omega
  have hz:=fun W (hb:Bw w W)=>Q7f a n c v W (h.step hb) hn h0;have hd:=fun W (hb:Bw w W) z hz=>Qjo a n c v z W (h.step hb) hn hz;have HZ:=Xh2 hz hd;have HN:=Xh3 hN h0 h.len;clear hz hd hN h h0
  go_enter Tryz.func58,Tryz.ntmps58
  go_wp2_with (first
   |(go_at_call_of 104 a;refine ((Xo0 HZ) _ (F2 _)).mono ?_;rintro r w1 ⟨⟨z,rfl,K1,J1⟩,C0⟩;have K0:=Xh3 K1 C0 J1;clear C0 K1)
   |(refine ((Xe1 HZ) _ (Below.next0 (F2 _) (Xo1 K0)) z (by omega)).mono ?_;rintro r w2 ⟨a2,n2,c2,lb,rfl,Jo,D0⟩;have U0:=((Xo0 HN).step (Xo1 K0) A3).step D0 (Ue A3 (Xo1 K0).size);
     have Y3:=U0.c0;have N1:=U0.c1;have E1:=U0.c2;have Q4:=U0.f0;have O2:=U0.f1;have X2:=U0.f2;have K2:=U0.d1 (.bool neg);have M2:=U0.d2 (.bool neg) (.slice a2 n2 c2);have B1:=Xh3 U0 Jo D0;clear U0 D0 Jo))
  have hS:=(Xo0 B1).store (.bool neg) (.slice a2 n2 c2) (.int .i64 (e+(z:Int)));have k0:=hS.c0;have k1:=hS.c1;have k2:=hS.c2;have G0:=Q02.below (Below.next0 (Below.next0 (F2 _) (Xo1 K0)) (Xe2 B1)) (Ug _) (.bool neg) (.slice a2 n2 c2) (.int .i64 (e+(z:Int)));have hD:=(Xo1 B1);have hD3:Q0n _ a2 n2 c2 (v / 2^z):=⟨hD.len,hD.cap,hD.most,(hD.rd.store3 (Xo0 B1) (fun _=>by simp[nv]) (fun _=>by simp[nv]) (fun _=>by simp[nv]) (.bool neg) (.slice a2 n2 c2) (.int .i64 (e+(z:Int)))).more (Q18 _ _ _ _ _)⟩;clear Y3 N1 E1 Q4 O2 X2 K2 M2 hS hD;have R5:n2<=n:=by
   rw[<-hD3.len,<-(Xe2 HN)];exact Qan (by decide) (Xbj _ _)
  generalize World.setCell _ _ _=W3 at k0 k1 k2 G0 hD3⊢;refine ⟨rfl,.agg #[.bool neg,.slice a2 n2 c2,.int .i64 (e+(z:Int))],by simp[results,go_sem,k0,k1,k2],neg,a2,n2,c2,v / 2^z,e+(z:Int),rfl,.inr ⟨z,(Xo0 K0),rfl,rfl,rfl⟩,hD3,R5,by omega,by omega,G0⟩
def Fit (v:Nat) (e:Int):Prop:=(dig (2^64) v).length<=64/\-65536<=e/\e<=65536
def Qpm (neg:Bool) (v:Nat) (e:Int) (neg':Bool) (e':Int) (L:LN) (er:Int):Prop:=
 (v=0/\neg'=false/\e'=0/\L=[]/\er=0)∨(v≠0/\¬Fit v e/\neg'=false/\e'=0/\L=[]/\er=2)∨(v≠0/\Fit v e/\neg'=neg/\e'=e/\L=dig (2^64) v/\er=0)
theorem WordsIn.nil_ (w:World):WordsIn w none 0 0 []:=⟨rfl,Ug _,by omega,fun x hx=>by simp at hx,.inl rfl⟩
theorem Q52 (neg:Bool) (a:OA) (n c:Nat) (v:Nat) (e:Int) (w:World) (h:Q0n w a n c v) (hn:n<=1000000):
 Calls Tryz.prog 146 #[.agg #[.bool neg,.slice a n c,.int .i64 e]] w fun r w'=>∃neg' e' a' n' c' L er,r=.returned (.tuple #[.agg #[.bool neg',.int .i64 e',.slice a' n' c'],.int .i64 er])/\Qpm neg v e neg' e' L er/\WordsIn w' a' n' c' L/\Bw w w':=by
 obtain ⟨W0,I3⟩:∃W0,(w.alloc (.cells #[.bool neg,.slice a n c,.int .i64 e] 56)).alloc (.cells #[.bool false,.int .i64 0,.slice none 0 0] 41)=W0:=⟨_,rfl⟩;have Z1:(w.alloc (.cells #[.bool neg,.slice a n c,.int .i64 e] 56)).heap.size=w.heap.size+1:=Uo _ _;have C4:Bw w W0:=by rw[<-I3];exact Below.next0 (Ba) (Ba)
 have hV:Q02 W0 w.heap.size (.bool neg) (.slice a n c) (.int .i64 e):=by
  rw[<-I3];exact (Q02.new w _ _ _ 56).step (Ba) (Q0r _ _)
 have hN:Q02 W0 (w.heap.size+1) (.bool false) (.int .i64 0) (.slice none 0 0):=by
  rw[<-I3,<-Z1];exact Q02.new _ _ _ _ _
 have A3:w.heap.size+1<W0.heap.size:=by
  have h1:=Q0r (w.alloc (.cells #[.bool neg,.slice a n c,.int .i64 e] 56)) (.cells #[.bool false,.int .i64 0,.slice none 0 0] 41);rw[I3,Z1] at h1;exact h1
 by_cases h0:v=0
 ·have d8:n=0:=by have:=h.len;rw[h0,Q11] at this;exact this.symm
  subst d8;have HS:=Xh2 (hN.store (.bool false) (.int .i64 0) (.slice none 0 0)) (Q02.below C4 (Xav _) (b:=w.heap.size+1) (.bool false) (.int .i64 0) (.slice none 0 0));have C7:=hV.c1;have Y3:=hN.c0;have N1:=hN.c1;have E1:=hN.c2;have Q4:=hN.f0;have O2:=hN.f1;have X2:=hN.f2;have K2:=hN.d1 (.bool false);have M2:=hN.d2 (.bool false) (.int .i64 0);have HW:=Ua I3;clear hN hV C4 h I3
  go_enter Tryz.func146,Tryz.ntmps146
  go_upto_region 1 with fail
  rw[HW.out]
  go_wp2_with fail
  have k0:=(Xo0 HS).c0;have k1:=(Xo0 HS).c1;have k2:=(Xo0 HS).c2;have G0:=(Xe1 HS);clear HS Y3 N1 E1 Q4 O2 X2 K2 M2;generalize World.setCell _ _ _=W3 at k0 k1 k2 G0⊢;refine ⟨rfl,.tuple #[.agg #[.bool false,.int .i64 0,.slice none 0 0],.int .i64 0],by simp[results,go_sem,k0,k1,k2],false,0,none,0,0,[],0,rfl,.inl ⟨h0,rfl,rfl,rfl,rfl⟩,WordsIn.nil_ _,G0⟩
 ·have d8:n≠0:=fun e=>h0 ((Q56 (B:=2^32) (by decide)).1 (UH.1 (by rw[h.len,e])));have YC:((n:Int)==0)=false:=by rw[Ui];omega
  have hw:=Qge a n c v W0 ⟨h.len,h.cap,h.most,(h.rd.below C4).more C4.size⟩ hn;have HW:=Xh2 I3 hw;have HN:=Xh5 hV hN A3 h0 C4;have C7:=hV.c1;clear hw I3 hV hN h h0 C4
  by_cases R0:(dig (2^64) v).length<=64
  ·have Zm:((dig (2^64) v).length:Int)<=64:=by omega
   by_cases q5:e< -65536
   ·have M3:¬Fit v e:=fun h=>by have:=h.2.1;omega
    have HF:=Ua M3;clear M3;obtain ⟨N,XG⟩:∃N,(dig (2^64) v).length=N:=⟨_,rfl⟩;rw[XG] at R0 Zm
    go_enter Tryz.func146,Tryz.ntmps146
    go_upto_region 1 with fail
    rw[(Xo0 HW)]
    go_wp2_with (refine (Xe1 HW).mono ?_;rintro r w1 ⟨a2,n2,c2,rfl,S1,C0⟩;have R5:N=n2:=by { rw[<-XG];exact S1.len };subst R5;
                 have D6:=(Xo0 HN).step C0 (Nat.lt_of_succ_lt (Xo2 HN));have I5:=(Xo1 HN).step C0 (Xo2 HN);have Y3:=I5.c0;have N1:=I5.c1;have E1:=I5.c2;have Q4:=I5.f0;have O2:=I5.f1;have X2:=I5.f2;have K2:=I5.d1 (.bool false);have M2:=I5.d2 (.bool false) (.int .i64 0);have U9:=D6.c0;have B7:=D6.c1;have Y6:=D6.c2;have K0:=Xh3 I5 (Below.next0 (Xe4 HN) C0) S1;clear I5 D6 C0 S1)
    have hS:=(Xo0 K0).store (.bool false) (.int .i64 0) (.slice none 0 0);have k0:=hS.c0;have k1:=hS.c1;have k2:=hS.c2;have M0:=Q02.below (Xo1 K0) (Xav _) (b:=w.heap.size+1) (.bool false) (.int .i64 0) (.slice none 0 0);have U6:WordsIn _ a2 N c2 (dig (2^64) v):=⟨(Xe2 K0).len,(Xe2 K0).cap,(Xe2 K0).most,(Xe2 K0).low,((Xe2 K0).rd.store3 (Xo0 K0) (fun _=>by simp[nv]) (fun _=>by simp[nv]) (fun _=>by simp[nv]) (.bool false) (.int .i64 0) (.slice none 0 0)).more (Q18 _ _ _ _ _)⟩;clear hS Y3 N1 E1 Q4 O2 X2 K2 M2 U9 B7 Y6;generalize World.setCell _ _ _=W5 at k0 k1 k2 M0 U6⊢;refine ⟨rfl,.tuple #[.agg #[.bool false,.int .i64 0,.slice none 0 0],.int .i64 2],by simp[results,go_sem,k0,k1,k2],false,0,none,0,0,[],2,rfl,.inr (.inl ⟨(Xo3 HN),HF.out,rfl,rfl,rfl,rfl⟩),WordsIn.nil_ _,M0⟩
   ·by_cases XF:65536<e
    ·have M3:¬Fit v e:=fun h=>by have:=h.2.2;omega
     have HF:=Ua M3;clear M3;obtain ⟨N,XG⟩:∃N,(dig (2^64) v).length=N:=⟨_,rfl⟩;rw[XG] at R0 Zm
     go_enter Tryz.func146,Tryz.ntmps146
     go_upto_region 1 with fail
     rw[(Xo0 HW)]
     go_wp2_with (refine (Xe1 HW).mono ?_;rintro r w1 ⟨a2,n2,c2,rfl,S1,C0⟩;have R5:N=n2:=by { rw[<-XG];exact S1.len };subst R5;
                  have D6:=(Xo0 HN).step C0 (Nat.lt_of_succ_lt (Xo2 HN));have I5:=(Xo1 HN).step C0 (Xo2 HN);have Y3:=I5.c0;have N1:=I5.c1;have E1:=I5.c2;have Q4:=I5.f0;have O2:=I5.f1;have X2:=I5.f2;have K2:=I5.d1 (.bool false);have M2:=I5.d2 (.bool false) (.int .i64 0);have U9:=D6.c0;have B7:=D6.c1;have Y6:=D6.c2;have K0:=Xh3 I5 (Below.next0 (Xe4 HN) C0) S1;clear I5 D6 C0 S1)
     have hS:=(Xo0 K0).store (.bool false) (.int .i64 0) (.slice none 0 0);have k0:=hS.c0;have k1:=hS.c1;have k2:=hS.c2;have M0:=Q02.below (Xo1 K0) (Xav _) (b:=w.heap.size+1) (.bool false) (.int .i64 0) (.slice none 0 0);have U6:WordsIn _ a2 N c2 (dig (2^64) v):=⟨(Xe2 K0).len,(Xe2 K0).cap,(Xe2 K0).most,(Xe2 K0).low,((Xe2 K0).rd.store3 (Xo0 K0) (fun _=>by simp[nv]) (fun _=>by simp[nv]) (fun _=>by simp[nv]) (.bool false) (.int .i64 0) (.slice none 0 0)).more (Q18 _ _ _ _ _)⟩;clear hS Y3 N1 E1 Q4 O2 X2 K2 M2 U9 B7 Y6;generalize World.setCell _ _ _=W5 at k0 k1 k2 M0 U6⊢;refine ⟨rfl,.tuple #[.agg #[.bool false,.int .i64 0,.slice none 0 0],.int .i64 2],by simp[results,go_sem,k0,k1,k2],false,0,none,0,0,[],2,rfl,.inr (.inl ⟨(Xo3 HN),HF.out,rfl,rfl,rfl,rfl⟩),WordsIn.nil_ _,M0⟩
    ·have M3:Fit v e:=⟨R0,by omega,by omega⟩;have HF:=Ua M3;clear M3;obtain ⟨N,XG⟩:∃N,(dig (2^64) v).length=N:=⟨_,rfl⟩;rw[XG] at R0 Zm
     go_enter Tryz.func146,Tryz.ntmps146
     go_upto_region 1 with fail
     rw[(Xo0 HW)]
     go_wp2_with (refine (Xe1 HW).mono ?_;rintro r w1 ⟨a2,n2,c2,rfl,S1,C0⟩;have R5:N=n2:=by { rw[<-XG];exact S1.len };subst R5;
                  have D6:=(Xo0 HN).step C0 (Nat.lt_of_succ_lt (Xo2 HN));have I5:=(Xo1 HN).step C0 (Xo2 HN);have Y3:=I5.c0;have N1:=I5.c1;have E1:=I5.c2;have Q4:=I5.f0;have O2:=I5.f1;have X2:=I5.f2;have K2:=I5.d1 (.bool neg);have M2:=I5.d2 (.bool neg) (.int .i64 e);have U9:=D6.c0;have B7:=D6.c1;have Y6:=D6.c2;have K0:=Xh3 I5 (Below.next0 (Xe4 HN) C0) S1;clear I5 D6 C0 S1)
     have hS:=(Xo0 K0).store (.bool neg) (.int .i64 e) (.slice a2 N c2);have k0:=hS.c0;have k1:=hS.c1;have k2:=hS.c2;have M0:=Q02.below (Xo1 K0) (Xav _) (b:=w.heap.size+1) (.bool neg) (.int .i64 e) (.slice a2 N c2);have U6:WordsIn _ a2 N c2 (dig (2^64) v):=⟨(Xe2 K0).len,(Xe2 K0).cap,(Xe2 K0).most,(Xe2 K0).low,((Xe2 K0).rd.store3 (Xo0 K0) (fun _=>by simp[nv]) (fun _=>by simp[nv]) (fun _=>by simp[nv]) (.bool neg) (.int .i64 e) (.slice a2 N c2)).more (Q18 _ _ _ _ _)⟩;clear hS Y3 N1 E1 Q4 O2 X2 K2 M2 U9 B7 Y6;generalize World.setCell _ _ _=W5 at k0 k1 k2 M0 U6⊢;refine ⟨rfl,.tuple #[.agg #[.bool neg,.int .i64 e,.slice a2 N c2],.int .i64 0],by simp[results,go_sem,k0,k1,k2],neg,e,a2,N,c2,_,0,rfl,.inr (.inr ⟨(Xo3 HN),HF.out,rfl,rfl,rfl,rfl⟩),U6,M0⟩
  ·have Zm:¬((dig (2^64) v).length:Int)<=64:=(by omega);have M3:¬Fit v e:=fun h=>R0 h.1;have HF:=Ua M3;clear M3;obtain ⟨N,XG⟩:∃N,(dig (2^64) v).length=N:=⟨_,rfl⟩;rw[XG] at R0 Zm
   go_enter Tryz.func146,Tryz.ntmps146
   go_upto_region 1 with fail
   rw[(Xo0 HW)]
   go_wp2_with (refine (Xe1 HW).mono ?_;rintro r w1 ⟨a2,n2,c2,rfl,S1,C0⟩;have R5:N=n2:=by { rw[<-XG];exact S1.len };subst R5;
                have D6:=(Xo0 HN).step C0 (Nat.lt_of_succ_lt (Xo2 HN));have I5:=(Xo1 HN).step C0 (Xo2 HN);have Y3:=I5.c0;have N1:=I5.c1;have E1:=I5.c2;have Q4:=I5.f0;have O2:=I5.f1;have X2:=I5.f2;have K2:=I5.d1 (.bool false);have M2:=I5.d2 (.bool false) (.int .i64 0);have U9:=D6.c0;have B7:=D6.c1;have Y6:=D6.c2;have K0:=Xh3 I5 (Below.next0 (Xe4 HN) C0) S1;clear I5 D6 C0 S1)
   have hS:=(Xo0 K0).store (.bool false) (.int .i64 0) (.slice none 0 0);have k0:=hS.c0;have k1:=hS.c1;have k2:=hS.c2;have M0:=Q02.below (Xo1 K0) (Xav _) (b:=w.heap.size+1) (.bool false) (.int .i64 0) (.slice none 0 0);have U6:WordsIn _ a2 N c2 (dig (2^64) v):=⟨(Xe2 K0).len,(Xe2 K0).cap,(Xe2 K0).most,(Xe2 K0).low,((Xe2 K0).rd.store3 (Xo0 K0) (fun _=>by simp[nv]) (fun _=>by simp[nv]) (fun _=>by simp[nv]) (.bool false) (.int .i64 0) (.slice none 0 0)).more (Q18 _ _ _ _ _)⟩;clear hS Y3 N1 E1 Q4 O2 X2 K2 M2 U9 B7 Y6;generalize World.setCell _ _ _=W5 at k0 k1 k2 M0 U6⊢;refine ⟨rfl,.tuple #[.agg #[.bool false,.int .i64 0,.slice none 0 0],.int .i64 2],by simp[results,go_sem,k0,k1,k2],false,0,none,0,0,[],2,rfl,.inr (.inl ⟨(Xo3 HN),HF.out,rfl,rfl,rfl,rfl⟩),WordsIn.nil_ _,M0⟩
section
variable {w w':World} {B:Nat} {e:TypeId} {k:Nat} {g n c:Nat} {xs:LV}
theorem Row.cell0 (h:Row w B e k (some ⟨g,0,none⟩) n c xs) {j:Nat} {x:Value} (hx:xs[j]?=some x):w.cell? ⟨g,j,none⟩=some x:=by
 obtain ⟨g',e1,_,_,hc⟩:=h.at_ hx;injection e1 with e1;injection e1 with e1;subst e1;exact hc
theorem Row.frozen0 (h:Row w B e k (some ⟨g,0,none⟩) n c xs) (i:Nat):w.frozen? ⟨g,i,none⟩=false:=by
 rcases h.form with ⟨h0,_⟩|⟨g',cur,e1,_,_,hh,_⟩
 ·cases h0
 ·injection e1 with e1;injection e1 with e1;subst e1;exact TC _ _ _ _ _ hh
theorem Row.set0 (h:Row w B e k (some ⟨g,0,none⟩) n c xs) (i:Nat) (u:Value):Row (w.setCell ⟨g,i,none⟩ u) B e k (some ⟨g,0,none⟩) n c (xs.set i u):=by
 rcases h.form with ⟨h0,_⟩|⟨g',cur,e1,hB,hg,hh,hn,hc,hs,ht⟩
 ·cases h0
 ·injection e1 with e1;injection e1 with e1;subst e1;refine ⟨by rw[Xbk];exact h.1,.inr ⟨g,c,cur.setIfInBounds i u,rfl,hB,heap_setCell_same _ _ _ _ _ _ hh,hn,hc,by simpa using hs,?_⟩⟩;rw[Xal,List.take_set,ht]
theorem Row.fresh (h:Row w B e k (some ⟨g,0,none⟩) n c xs):B<=g/\g<w.heap.size:=by
 rcases h.form with ⟨h0,_⟩|⟨g',cur,e1,hB,hg,_⟩
 ·cases h0
 ·injection e1 with e1;injection e1 with e1;subst e1;exact ⟨hB,hg⟩
end
theorem Row.words {w:World} {B:Nat} {a:OA} {n c:Nat} {L:LN} (h:Row w B 74 1 a n c (L.map (nv .u64))) (hl:Low (2^64) L):WordsIn w a n c L:=
 ⟨by have:=h.len;simpa using this,h.cap.1,by have:=h.cap.2;simpa[maxLen] using this,hl,Row.rdI h⟩
theorem Row.setW {w:World} {B g n c:Nat} {L:LN} (h:Row w B 74 1 (some ⟨g,0,none⟩) n c (L.map (nv .u64))) (i x:Nat):Row (w.setCell ⟨g,i,none⟩ (.int .u64 (x:Int))) B 74 1 (some ⟨g,0,none⟩) n c ((L.set i x).map (nv .u64)):=by
 rw[List.map_set];exact h.set0 i _
theorem Qjp (a:OA) (n c:Nat) (ls:LN) (w:World) (h:WordsIn w a n c ls) (hn:n<=1000000) (h0:val (2^64) ls≠0):
 Calls Tryz.prog 150 #[.slice a n c] w fun e w'=>∃g c',e=.returned (.slice (some ⟨g,0,none⟩) (trimL ls).length c')/\Row w' w.heap.size 74 1 (some ⟨g,0,none⟩) (trimL ls).length c' ((trimL ls).map (nv .u64))/\Bw w w':=by
 have hc:=Q1l a n c ls w h;have hT:=fun W (hb:Bw w W)=>(h.step hb).trim;have C1:trimL ls≠[]:=fun e=>h0 (by rw[<-Q1d ls,e];rfl);have Z5:=trim_len ls;have Z2:=h.len;obtain ⟨b,o,rfl⟩:∃b o,a=some ⟨b,o,none⟩:=by
  rcases (hT w (Uf _ _)).rd with e|⟨b,o,e,_⟩
  ·exact absurd e C1
  ·exact ⟨b,o,e⟩
 obtain ⟨D,hD⟩:∃D,trimL ls=D:=⟨_,rfl⟩;rw[hD] at hc hT Z5 C1⊢;obtain ⟨i0,O1,P1,K1,J1⟩:∃i0:TypeInfo,Tryz.prog.info? 74=some i0/\i0.zero=some (.int .u64 0)/\i0.size=1/\i0.bytes=8:=by
  have:=Q5o;cases hi:Tryz.prog.info? 74 with
  |none=>rw[hi] at this;cases this
  |some i0=>
   rw[hi] at this;simp only[UM,Un,Xbw] at this;exact ⟨i0,rfl,this.1,this.2.1,this.2.2⟩
 have O3:=fun W (hW:WordsIn W (some ⟨b,o,none⟩) D.length c D)=>Tryz.J16 i0 (.int .u64 0) 1 8 O1 P1 K1 J1 rfl (by decide) Qew b o D.length c (D.map (nv .u64)) W (by simp) (by unfold maxLen;omega) (by omega) (fun j u hu=>by
  rw[UT] at hu;cases hx:D[j]? with
  |none=>rw[hx] at hu;cases hu
  |some x=>
   rw[hx] at hu;simp only[UM,Un] at hu;subst hu;obtain ⟨b',o',e,_,JZ⟩:=hW.rd.at_ hx;injection e with e;injection e with e1 e2;subst e1 e2;exact JZ) (Qp6 _ _)
 have HC:=Xh3 hc hT O3;have HN:=Ua C1;clear hc hT O3 h O1 P1 K1 J1 h0 hD C1
 go_enter Tryz.func150,Tryz.ntmps150
 go_wp2_with (first
  |(go_at_call_of 143 (some ⟨b,o,none⟩:OA);refine (Xo0 HC).mono ?_;rintro e w1 ⟨rfl,C0⟩;have K0:=Ua C0;clear C0)
  |(refine ((Xe2 HC) _ ((Xo1 HC) _ K0.out)).mono ?_;rintro e w2 ⟨v',rfl,G5,Xd,D0⟩;have B1:=Xh3 G5 Xd D0;clear G5 Xd D0))
 go_ret;obtain ⟨hl,⟨e,_⟩|⟨g,cap,cur,rfl,U9,hg,hnc,E4,M8,B6⟩⟩:=(Xo0 B1)
 ·exact absurd e (Xo1 B1)
 ·have hr:Row w2 w1.heap.size 74 1 (some ⟨g,0,none⟩) D.length cap (D.map (nv .u64)):=⟨hl,.inr ⟨g,cap,cur,rfl,U9,hg,hnc,E4,M8,B6⟩⟩;exact ⟨_,_,rfl,hr.lower K0.out.size,Below.next0 K0.out (Xe2 B1)⟩
theorem Qgg (x y b:Nat) (hb:b<=1) (w:World):
 (callFunc 151 #[.int .u64 x,.int .u64 y,.int .u64 b]).run Tryz.prog w=
   .ok (.value (.tuple #[.int .u64 (((x+18446744073709551616-y-b)%18446744073709551616:Nat):Int),.int .u64 ((if x<y+b then 1 else 0:Nat):Int)])) w:=by
 rw[run_callFunc_extern Tryz.func151 (by kernel_rfl) (by kernel_rfl) (by kernel_rfl) (e:=sub64Entry) (by kernel_rfl),run_sub64 x y b hb];rfl
theorem Qli {B:Nat} {L:LN} {i x y b b' d V T:Nat} (hx:L[i]?=some x) (h:val B L+T=V+b*B^i) (hd:x+b'*B=y+b+d):val B (L.set i d)+(T+B^i*y)=V+b'*B^(i+1):=by
 have h1:=Q9w (B:=B) L i d x hx;have h2:(x+b'*B)*B^i=(y+b+d)*B^i:=by rw[hd]
 rw[Ti,Ti,Ti] at h2;rw[Th,UG (B^i) y,UG (B^i) B,<-UN];omega
theorem Qgh (x y b:Nat) (hx:x<18446744073709551616) (hy:y<18446744073709551616) (hb:b<=1):∃d b',(x+18446744073709551616-y-b)%18446744073709551616=d/\(if x<y+b then 1 else 0)=b'/\b'<=1/\d<18446744073709551616/\x+b'*2^64=y+b+d:=by
 refine ⟨_,_,rfl,rfl,by split <;> omega,TG _ (by decide),?_⟩
 show x+(if x<y+b then 1 else 0)*18446744073709551616=_
 split <;> omega
theorem Qa0 (a:OA) (n c:Nat) (ls:LN) (b:OA) (m d:Nat) (ks:LN) (w:World) (h1:WordsIn w a n c ls) (h2:WordsIn w b m d ks) (hn:n<=100000) (h0:val (2^64) ls≠0):
 Calls Tryz.prog 102 #[.slice a n c,.slice b m d] w fun e w'=>∃a' n' c' ok,e=.returned (.tuple #[.slice a' n' c',.bool ok])/\ok=decide (val (2^64) ks<=val (2^64) ls)/\(ok=true->WordsIn w' a' n' c' (dig (2^64) (val (2^64) ls-val (2^64) ks)))/\Bw w w':=by
 have V7:=h1.len;have JD:=h2.len;have E4:=Q9x a n c ls b m d ks w h1 h2 hn;have H1:=Ua h1;have H2:=Ua h2;clear h1 h2
 by_cases B0:val (2^64) ls<val (2^64) ks
 ·have VE:Calls Tryz.prog 149 #[.slice a n c,.slice b m d] w fun e w'=>(∃r:Int,e=.returned (.int .i64 r)/\r<0)/\Bw w w':=by
   refine E4.mono ?_;rintro e w' ⟨⟨r,rfl,h3,_⟩,hb⟩;exact ⟨⟨r,rfl,h3.2 B0⟩,hb⟩
  have HC:=Xh2 VE B0;clear E4 VE B0
  go_enter Tryz.func102,Tryz.ntmps102
  go_wp2_with fail
  go_step3
  go_wp2_with (refine (Xo0 HC).mono ?_;rintro e w1 ⟨⟨r,rfl,hr⟩,C0⟩;have K0:=Ua C0;clear C0)
  rw[Xae];refine ⟨rfl,.tuple #[.slice none 0 0,.bool false],by simp[results,go_sem],none,0,0,false,rfl,by rw[eq_comm,Xak];exact Nat.not_le.2 (Xe1 HC),fun h=>(by cases h),K0.out⟩
 ·have VE:Calls Tryz.prog 149 #[.slice a n c,.slice b m d] w fun e w'=>(∃r:Int,e=.returned (.int .i64 r)/\¬r<0)/\Bw w w':=by
   refine E4.mono ?_;rintro e w' ⟨⟨r,rfl,h3,_⟩,hb⟩;exact ⟨⟨r,rfl,fun h=>B0 (h3.1 h)⟩,hb⟩
  have o6:val (2^64) ks<=val (2^64) ls:=Nat.not_lt.1 B0;have Q7:=fun W (hb:Bw w W)=>Qjp a n c ls W (H1.out.step hb) (by omega) h0;have Z5:=trim_len ls;have B6:=trim_len ks;have HC:=Xh3 VE o6 Q7;clear E4 VE B0 o6 Q7
  go_enter Tryz.func102,Tryz.ntmps102
  go_wp2_with fail
  go_step3
  go_wp2_with (first
   |(go_at_call_of 149 a;refine (Xo0 HC).mono ?_;rintro e w1 ⟨⟨r,rfl,hr⟩,C0⟩;have K0:=Ua C0;clear C0)
   |(go_at_call_of 150 a;refine ((Xe2 HC) w1 K0.out).mono ?_;rintro e w2 ⟨g,c2,rfl,G1,D0⟩;have B1:=Xh2 (G1.lower K0.out.size) (Below.next0 K0.out D0);clear G1 D0)
   |(go_at_call_of 143 b;refine (Q1l b m d ks _ (H2.out.step (Xe1 B1))).mono ?_;rintro e w3 ⟨rfl,G0⟩;have D2:=Xh2 ((Xo0 B1).call G0) (Below.next0 (Xe1 B1) G0);clear G0))
  have Vt:=Qeu H1.out.low;have hK:=(H2.out.step (Xe1 D2)).trim;have Jp:=Q1d (B:=2^64) ls;have Jr:=Q1d (B:=2^64) ks;have L7:=(Xo0 D2).fresh;obtain ⟨A,hA⟩:∃A,trimL ls=A:=⟨_,rfl⟩;obtain ⟨K,hKe⟩:∃K,trimL ks=K:=⟨_,rfl⟩;rw[hA] at Vt Jp Z5 D2;rw[hKe] at hK Jr B6;have hkr:=H2.out.rd.step (Xe1 D2);have HA:=Xh4 Vt Jp Jr hK.low;have HS:=Xh3 (Xo0 D2) (Xe1 D2) L7;have hKrd:RdI .u64 w w.heap.size b K:=by
   rw[<-hKe,<-Q3a ks];exact H2.out.rd.front _
  have HK:=Ua hKrd;have hKA:K.length<=A.length:=by
   rw[<-hA,<-hKe,Q1q (by decide) H1.out.low,Q1q (by decide) H2.out.low];exact Qan (by decide) (Xo1 HC)
  have Wz:=Ua (Xo1 HC);rw[hA,hKe];clear Vt hK Jp Jr L7 hkr hKrd K0 B1 D2 HC hA hKe
  go_loopw [7,20] (fun cv iv wr=>∃(i br:Nat) (L:LN),cv=.int .u64 (br:Int)/\iv=.int .i64 (i:Int)/\i<=K.length/\br<=1/\Row wr w.heap.size 74 1 (some ⟨g,0,none⟩) A.length c2 (L.map (nv .u64))/\L.length=A.length/\Low (2^64) L/\val (2^64) L+val (2^64) (K.take i)=val (2^64) A+br*(2^64)^i/\Bw w wr) (fun _ iv _=>K.length-(intOf iv).toNat)
  case atStart=>exact ⟨0,0,A,rfl,rfl,Uu _,Uu _,(Xo0 HS),rfl,(Xo0 HA),by simp[val],(Xo1 HS)⟩
  case round=>
   obtain ⟨i,br,L,rfl,rfl,hi,Q0,hL,K5,O0,J0,N0⟩:=hrel
   by_cases B0:i<K.length
   ·have E0:(i:Int)<(K.length:Int):=(by omega);obtain ⟨x,hx⟩:∃x,L[i]?=some x:=⟨_,Ub (by omega)⟩;obtain ⟨y,hy⟩:∃y,K[i]?=some y:=⟨_,Ub (by omega)⟩;obtain ⟨b2,o2,rfl,D0,y9⟩:=(HK.out.below N0).at_ hy;have J3:x<18446744073709551616:=O0 x (Ud hx);have JM:y<18446744073709551616:=(Xe3 HA) y (Ud hy);obtain ⟨z,c3,hz,Xc,hc3l,K9,hsd⟩:=Qgh x y br J3 JM Q0;have O5:=fun W=>Qgg x y br Q0 W;rw[hz,Xc] at O5;have X0:=Qli hx J0 hsd;have Kc:=Ua X0;clear hz Xc X0 hsd;have V0:=Row.cell0 hL (j:=i) (x:=.int .u64 (x:Int)) (by rw[UT,hx];rfl);have cx:wr.drew.cell? ⟨g,i,none⟩=some (.int .u64 (x:Int)):=V0;have cy:wr.drew.cell? ⟨b2,o2+i,none⟩=some (.int .u64 (y:Int)):=y9;have fx:wr.drew.frozen? ⟨g,i,none⟩=false:=hL.frozen0 i;have hiA:(i:Int)<(A.length:Int):=(by omega);have HH:=Xh4 hL O0 N0 hy;clear hL O0 J0 N0 hx hy y9 V0
    go_wp2_with fail
    go_region_law (fail)
    all_goals go_wp2_with fail
    all_goals
     obtain ⟨hL,O0,N0,hy⟩:=HH.out;refine ⟨⟨i+1,c3,L.set i z,rfl,by simp,by omega,hc3l,hL.setW i z,by simp[K5],Q3z O0 K9,?_,(N0.setCell (p:=⟨g,i,none⟩) (Xo2 HS) _).drew⟩,by simp only[intOf];omega⟩;rw[Q1e K i y hy,Kc.out]
   ·obtain rfl:i=K.length:=(by omega);have E0:¬((K.length:Int)<(K.length:Int)):=(by omega);rw[Ta] at J0;have HH:=Xh4 hL O0 J0 N0;clear hL O0 J0 N0
    go_wp2_with fail
    go_step3
    go_wp2_with fail
    go_loopw [7,9] (fun cv iv wr=>∃(j br:Nat) (L:LN),cv=.int .u64 (br:Int)/\iv=.int .i64 (j:Int)/\j<=A.length/\br<=1/\Row wr w.heap.size 74 1 (some ⟨g,0,none⟩) A.length c2 (L.map (nv .u64))/\L.length=A.length/\Low (2^64) L/\val (2^64) L+val (2^64) K=val (2^64) A+br*(2^64)^j/\Bw w wr) (fun _ iv _=>A.length-(intOf iv).toNat)
    case atStart=>exact ⟨K.length,br,L,rfl,rfl,hKA,Q0,(Xo0 HH),K5,(Xo1 HH),(Xo2 HH),(Xe3 HH)⟩
    case round=>
     clear K5 Q0 HH;obtain ⟨j,br,L,rfl,rfl,hj,Q0,hL,K5,O0,J0,N0⟩:=hrel
     by_cases b7:j<A.length/\br=1
     ·obtain ⟨B0,rfl⟩:=b7;have E0:(j:Int)<(A.length:Int):=(by omega);obtain ⟨x,hx⟩:∃x,L[j]?=some x:=⟨_,Ub (by omega)⟩;have J3:x<18446744073709551616:=O0 x (Ud hx);obtain ⟨z,c3,hz,Xc,hc3l,K9,hsd⟩:=Qgh x 0 1 J3 (by decide) (by decide);have O5:∀W,(callFunc 151 #[.int .u64 (x:Int),.int .u64 0,.int .u64 1]).run Tryz.prog W=.ok (.value (.tuple #[.int .u64 (z:Int),.int .u64 (c3:Int)])) W:=fun W=>by
       have:=Qgg x 0 1 (by decide) W;rw[hz,Xc] at this;exact this
      have X0:=Qli hx J0 hsd;rw[Nat.mul_zero,Tu] at X0;have cx:wr.cell? ⟨g,j,none⟩=some (.int .u64 (x:Int)):=Row.cell0 hL (j:=j) (x:=.int .u64 (x:Int)) (by rw[UT,hx];rfl);have fx:wr.frozen? ⟨g,j,none⟩=false:=hL.frozen0 j;have Kc:=Xh4 X0 hL O0 N0;clear hz Xc X0 hL O0 J0 N0 hx hsd
      go_wp2_with fail
      exact ⟨⟨j+1,c3,L.set j z,rfl,by simp,by omega,hc3l,(Xo1 Kc).setW j z,by simp[K5],Q3z (Xo2 Kc) K9,(Xo0 Kc),(Xe3 Kc).setCell (p:=⟨g,j,none⟩) (Xo2 HS) _⟩,by simp only[intOf];omega⟩
     ·have C4:br=0:=by
       rcases Nat.lt_or_ge br 1 with h|h
       ·omega
       ·exfalso;obtain rfl:br=1:=(by omega);obtain rfl:j=A.length:=by
         refine Nat.le_antisymm hj (Nat.not_lt.1 fun h'=>b7 ⟨h',rfl⟩)
        have h1:=Q3k (B:=2^64) (by decide) L O0;rw[K5] at h1;have h2:=Wz.out;rw[<-(Xo1 HA),<-(Xo2 HA)] at h2;omega
      subst C4;rw[TU,Tu] at J0;have Jt:val (2^64) L=val (2^64) ls-val (2^64) ks:=(by rw[<-(Xo1 HA),<-(Xo2 HA)];omega);have hW:=hL.words O0;have x4:trimL L=dig (2^64) (val (2^64) ls-val (2^64) ks):=(by rw[Q1q (by decide) O0,Jt]);have D3:(true:Bool)=decide (val (2^64) ks<=val (2^64) ls):=(UU Wz.out).symm;have HE:=Xh4 hW N0 x4 D3;clear Jt hW N0 x4 D3 J0 hL O0 b7
      by_cases B0:j<A.length
      ·have E0:(j:Int)<(A.length:Int):=by omega
       go_wp2_with (refine (Q1l _ _ _ _ _ (Xo0 HE)).mono ?_;rintro e w5 ⟨rfl,M0⟩;have M4:=Ua M0;clear M0)
       rw[Xae];have V2:=((Xo0 HE).step M4.out).trim;rw[(Xo2 HE)] at V2⊢;exact ⟨rfl,.tuple #[.slice (some ⟨g,0,none⟩) (dig (2^64) (val (2^64) ls-val (2^64) ks)).length c2,.bool true],by simp[results,go_sem],_,_,_,true,rfl,(Xe3 HE),fun _=>V2,Below.next0 (Xo1 HE) M4.out⟩
      ·obtain rfl:j=A.length:=(by omega);have E0:¬((A.length:Int)<(A.length:Int)):=by omega
       go_wp2_with (refine (Q1l _ _ _ _ _ (Xo0 HE)).mono ?_;rintro e w5 ⟨rfl,M0⟩;have M4:=Ua M0;clear M0)
       rw[Xae];have V2:=((Xo0 HE).step M4.out).trim;rw[(Xo2 HE)] at V2⊢;exact ⟨rfl,.tuple #[.slice (some ⟨g,0,none⟩) (dig (2^64) (val (2^64) ls-val (2^64) ks)).length c2,.bool true],by simp[results,go_sem],_,_,_,true,rfl,(Xe3 HE),fun _=>V2,Below.next0 (Xo1 HE) M4.out⟩
theorem Q6s {B:Nat} {a w:World} (h:Below B a w) (k:Nat):Below B a (w.drewN k):=⟨h.os,h.tape,h.output,h.size,h.block⟩
theorem Qbv (w:World) (neg:Bool) (exp:Int) (a:OA) (n c:Nat) (T:TypeId):
 w.heap.size<(w.alloc (.cells #[.bool neg,.int .i64 exp,.slice a n c] T)).heap.size/\(w.alloc (.cells #[.bool neg,.int .i64 exp,.slice a n c] T)).cell? ⟨w.heap.size,0,none⟩=some (.bool neg)/\(w.alloc (.cells #[.bool neg,.int .i64 exp,.slice a n c] T)).cell? ⟨w.heap.size,1,none⟩=some (.int .i64 exp)/\(w.alloc (.cells #[.bool neg,.int .i64 exp,.slice a n c] T)).cell? ⟨w.heap.size,2,none⟩=some (.slice a n c):=
 ⟨(Uv.1 (Ul w _)).1,by rw[Ux _ _ _ _ _ _ (Ul _ _)];rfl,by rw[Ux _ _ _ _ _ _ (Ul _ _)];rfl,by rw[Ux _ _ _ _ _ _ (Ul _ _)];rfl⟩
theorem Qjq (neg:Bool) (exp:Int) (a:OA) (n c:Nat) (ls:LN) (neg':Bool) (exp':Int) (b:OA) (m d:Nat) (ks:LN) (w:World) (h1:WordsIn w a n c ls) (h2:WordsIn w b m d ks) (hn:n<=9223372036854775807):
 Calls Tryz.prog 19 #[.agg #[.bool neg,.int .i64 exp,.slice a n c],.agg #[.bool neg',.int .i64 exp',.slice b m d]] w fun e w'=>e=.returned (.bool (decide (neg=neg'/\exp=exp'/\ls=ks)))/\Bw w w':=by
 have V7:=h1.len;have JD:=h2.len
 by_cases Jy:neg=neg'/\exp=exp'/\n=m
 ·obtain ⟨rfl,rfl,rfl⟩:=Jy;have o4:decide (neg=neg/\exp=exp/\ls=ks)=decide (ls=ks):=by simp
  rw[o4];clear o4;have H1:=Ua h1;have H2:=Ua h2;clear h1 h2
  go_enter Tryz.func19,Tryz.ntmps19
  go_wp2_with fail
  obtain ⟨W2,J7⟩:∃W2,(w.alloc (.cells #[.bool neg,.int .i64 exp,.slice a n c] 41)).alloc (.cells #[.bool neg,.int .i64 exp,.slice b n d] 41)=W2:=⟨_,rfl⟩;have C0:Bw w W2:=by rw[<-J7];exact Below.next0 (Ba) (Ba)
  have Z1:(w.alloc (.cells #[.bool neg,.int .i64 exp,.slice a n c] 41)).heap.size=w.heap.size+1:=Array.size_push ..;have U4:=Qbv w neg exp a n c 41;have J4:=Qbv (w.alloc (.cells #[.bool neg,.int .i64 exp,.slice a n c] 41)) neg exp b n d 41;have R8:W2.cell? ⟨w.heap.size,2,none⟩=some (.slice a n c):=by
   rw[<-J7];exact ((Below.alloc (Uf _ _) (Ug _) _).cell (p:=⟨w.heap.size,2,none⟩) U4.1).trans U4.2.2.2
  have O9:W2.cell? ⟨w.heap.size+1,2,none⟩=some (.slice b n d):=by
   rw[<-J7,<-Z1];exact J4.2.2.2
  have X6:w.heap.size+1<W2.heap.size:=by rw[<-J7,<-Z1];exact J4.1
  rw[J7];clear U4 J4 J7 Z1;have HX:=Xh4 R8 O9 C0 X6;clear R8 O9 C0 X6
  go_loopw [30] (fun v wr=>∃i:Nat,v=.int .i64 (i:Int)/\i<=n/\(∀j,j<i->ls[j]?=ks[j]?)/\Bw W2 wr) (fun v _=>n-(intOf v).toNat)
  case atStart=>exact ⟨0,rfl,Uu _,fun j h=>absurd h (Xaf _),Uf _ _⟩
  case round=>
   obtain ⟨i,rfl,hi,P3,hb⟩:=hrel;have N0:Bw w wr:=Below.next0 (Xo2 HX) hb;have N1:wr.cell? ⟨w.heap.size,2,none⟩=some (.slice a n c):=(hb.cell (p:=⟨w.heap.size,2,none⟩) (by have:=(Xe3 HX);show w.heap.size<_;omega)).trans (Xo0 HX);have E1:wr.cell? ⟨w.heap.size+1,2,none⟩=some (.slice b n d):=(hb.cell (p:=⟨w.heap.size+1,2,none⟩) (Xe3 HX)).trans (Xo1 HX)
   by_cases B0:i<n
   ·have E0:(i:Int)<(n:Int):=(by omega);obtain ⟨x,hx⟩:∃x,ls[i]?=some x:=⟨_,Ub (by omega)⟩;obtain ⟨y,hy⟩:∃y,ks[i]?=some y:=⟨_,Ub (by omega)⟩;obtain ⟨g1,o1,rfl,B7,E6⟩:=(H1.out.rd.below N0).at_ hx;obtain ⟨g2,o2,rfl,Y6,y9⟩:=(H2.out.rd.below N0).at_ hy;have HP:=Xh5 P3 hb N0 hx hy;clear P3 hb N0 hx hy
    by_cases Vj:x=y
    ·subst Vj
     go_wp2_with fail
     go_quiet (fail)
     go_wp2_with fail
     refine ⟨⟨i+1,by simp,by omega,fun j hj=>?_,Q6s (Xo1 HP) nq⟩,by simp only[intOf];omega⟩
     by_cases R6:j=i
     ·subst R6;rw[(Xo3 HP),(Xe4 HP)]
     ·exact (Xo0 HP) j (by omega)
    ·have hxy':((x:Int)==(y:Int))=false:=(by rw[Ui];omega);have hxy2:((x:Int) != (y:Int))=true:=by simp[bne,hxy']
     go_wp2_with fail
     go_quiet (fail)
     go_wp2_with fail
     go_ret;have C1:¬ls=ks:=fun e=>Vj (by have h1:=(Xo3 HP);have h2:=(Xe4 HP);rw[e,h2] at h1;injection h1 with h1;exact h1.symm);exact ⟨by rw[UL C1];rfl,Q6s (Xo2 HP) nq⟩
   ·obtain rfl:i=n:=(by omega);have E0:¬((i:Int)<(i:Int)):=(by omega);have O4:ls=ks:=Qev (fun j hj=>P3 j (by omega)) (by omega);have HE:=Xh2 O4 N0;clear O4 N0 hb P3
    go_wp2_with fail
    go_ret;exact ⟨by rw[UU (Xo0 HE)];rfl,(Xe1 HE)⟩
 ·have o4:decide (neg=neg'/\exp=exp'/\ls=ks)=false:=by
   rw[Xak];rintro ⟨e1,e2,e3⟩;exact Jy ⟨e1,e2,by rw[<-V7,<-JD,e3]⟩
  rw[o4];have hB:Bw w ((w.alloc (.cells #[.bool neg,.int .i64 exp,.slice a n c] 41)).alloc (.cells #[.bool neg',.int .i64 exp',.slice b m d] 41)):=Below.next0 (Ba) (Ba);have HB:=Ua hB;clear hB o4 h1 h2
  by_cases e1:neg=neg'
  ·subst e1
   by_cases e2:exp=exp'
   ·subst e2;have e3:¬((n:Int)=(m:Int)):=(by intro e;exact Jy ⟨rfl,rfl,by omega⟩);have e3':((n:Int)==(m:Int))=false:=by rw[Ui];exact e3
    go_enter Tryz.func19,Tryz.ntmps19
    go_wp2_with fail
    go_ret;exact ⟨rfl,HB.out⟩
   ·have e2':(exp==exp')=false:=by rw[Ui];exact e2
    go_enter Tryz.func19,Tryz.ntmps19
    go_wp2_with fail
    go_ret;exact ⟨rfl,HB.out⟩
  ·have e1':(neg==neg')=false:=by rw[Ui];exact e1
   go_enter Tryz.func19,Tryz.ntmps19
   go_wp2_with fail
   go_ret;exact ⟨rfl,HB.out⟩
theorem Arr.drew {T:TypeId} {K:IntKind} {w:World} {g:Nat} {ls:LN} (h:Arr T K w g ls):Arr T K w.drew g ls:=h
theorem Qjr (a:OA) (n c:Nat) (ls:LN) (z:Nat) (w:World) (h:WordsIn w a n c ls) (hn:n<=100000) (hz:z<=100000000):
 Calls Tryz.prog 91 #[.slice a n c,.int .i64 (z:Int)] w (Qlh w (val (2^64) ls / 2^z)):=by
 have hc:=Q1l a n c ls w h;have hT:=fun W (hb:Bw w W)=>(h.step hb).trim;have hv:val (2^64) (trimL ls)=val (2^64) ls:=Q1d ls;have Z2:=h.len;have Z5:=trim_len ls;obtain ⟨A,hA⟩:∃A,trimL ls=A:=⟨_,rfl⟩;rw[hA] at hc hT hv Z5;rw[<-hv];obtain ⟨k,hk⟩:∃k,z / 64=k:=⟨_,rfl⟩;obtain ⟨s,hs⟩:∃s,z%64=s:=⟨_,rfl⟩;have YN:s<64:=by omega
 have WX:z=64*k+s:=by omega
 have Wu:(z:Int).tdiv 64=(k:Int):=by rw[Int.tdiv_eq_ediv_of_nonneg (by omega)];omega
 have hsI:(z:Int).tmod 64=(s:Int):=by rw[Int.tmod_eq_emod_of_nonneg (by omega)];omega
 have hkI2:(z:Int) / 64=(k:Int):=by omega
 have hsI2:(z:Int)%64=(s:Int):=by omega
 have HA:=Ua (hT w (Uf _ _)).low;have HC:=Xh2 hc hT;have HZ:=Ua WX;clear hc hT hA hv h hk hs WX
 by_cases Wg:A.length<=k
 ·have Vv:(A.length:Int)<=(k:Int):=by omega
  have V8:=Qt2 (s:=s) HA.out Wg;rw[<-HZ.out] at V8;rw[V8];clear V8
  go_enter Tryz.func91,Tryz.ntmps91
  go_wp2_with (refine (Xo0 HC).mono ?_;rintro e w1 ⟨rfl,C0⟩;have K0:=Ua C0;clear C0)
  go_ret;exact ⟨none,0,0,rfl,⟨⟨rfl,Ug _,Uu _,fun x hx=>by simp[Q11] at hx,.inl rfl⟩,.inr fun _ h=>nomatch h⟩,K0.out⟩
 ·obtain ⟨m,hm⟩:∃m,A.length=k+m:=⟨A.length-k,by omega⟩;have Vv:¬((A.length:Int)<=(k:Int)):=by omega
  have hmI:(A.length:Int)-(k:Int)=(m:Int):=by omega
  have U3:=Xam (P:=Tryz.prog) 23 74 (.int .u64 0) 8 Tryz.underlying23 Q5o rfl .i64 .i64 m (by omega) (by omega);rw[Q1k] at U3;have HM:=Ua hm;clear hm
  go_enter Tryz.func91,Tryz.ntmps91
  go_wp2_with (refine (Xo0 HC).mono ?_;rintro e w1 ⟨rfl,C0⟩;have K0:=Ua C0;clear C0)
  have F2:Bw w1 (w1.alloc (.cells (Array.replicate m (nv .u64 0)) 74)):=Ba;have X9:=Arr.zeros w1 74 .u64 m;have HW:=Ua ((Xe1 HC) w1 K0.out);have H0:=Xh2 F2 X9;clear F2 X9 U3 HC
  go_loopw [26] (fun iv wr=>∃(i:Nat) (L:LN),iv=.int .i64 (i:Int)/\i<=m/\Arr 74 .u64 wr w1.heap.size L/\L.length=m/\(∀j,j<i->L[j]?=(shr s (64-s) (A.drop k))[j]?)/\Bw w1 wr) (fun iv _=>m-(intOf iv).toNat)
  case atStart=>exact ⟨0,List.replicate m 0,rfl,Uu _,(Xe1 H0),by simp,fun j hj=>absurd hj (Xaf _),(Xo0 H0)⟩
  case round=>
   obtain ⟨i,L,rfl,hi,hL,K5,P3,N0⟩:=hrel
   by_cases B0:i<m
   ·have E0:(i:Int)<(m:Int):=(by omega);obtain ⟨x,hx⟩:∃x,A[i+k]?=some x:=⟨_,Ub (by have:=HM.out;omega)⟩;have J3:x<18446744073709551616:=HA.out x (Ud hx);obtain ⟨ba,oa,N6,V5,E6⟩:=(HW.out.rd.below N0).at_ hx;subst N6;have hr:=Qjh s (64-s) (A.drop k) i x (by rw[Xad,Xbf];exact hx);rw[Xad,show s+(64-s)=64 by omega] at hr;obtain ⟨p,hp⟩:∃p,x / 2^s=p:=⟨_,rfl⟩;have YW:(x:Int) / 2^s=(p:Int):=(by rw[<-hp];norm_cast);have Qb:p<18446744073709551616:=(by rw[<-hp];exact TO (Xbj _ _) J3);obtain ⟨q,hq⟩:∃q,L[i]?=some q:=⟨_,Ub (by omega)⟩;have hzc:wr.cell? ⟨w1.heap.size,i,none⟩=some (.int .u64 (q:Int)):=hL.cell hq;have Wv:wr.frozen? ⟨w1.heap.size,i,none⟩=false:=hL.frozen _;obtain ⟨t,ht⟩:∃t,64-s=t:=⟨_,rfl⟩;have htI:(64:Int)-(s:Int)=(t:Int):=(by omega);have HH:=Xh5 hr hp hL P3 N0;clear hr hp hL P3 N0 hx hq
    by_cases hik:i+k+1<A.length
    ·have hik':(i:Int)+(k:Int)+1<(A.length:Int):=(by omega);obtain ⟨y,hy⟩:∃y,A[i+k+1]?=some y:=⟨_,Ub hik⟩;have y9:=(HW.out.rd.below (Xe4 HH)).at_ hy;obtain ⟨bb,ob,L6,E3,y9⟩:=y9;injection L6 with L6;injection L6 with C0 D0;subst C0 D0;have JM:y<18446744073709551616:=HA.out y (Ud hy);have HY:=Ua hy;clear hy
     go_wp2_with fail
     have Ks:=(Xo2 HH).set i p;have D0:=(Xe4 HH).setCell (p:=⟨w1.heap.size,i,none⟩) (Ug _) (.int .u64 (p:Int));have hcy2:(wr.setCell ⟨w1.heap.size,i,none⟩ (.int .u64 (p:Int))).cell? ⟨ba,oa+(i+k+1),none⟩=some (.int .u64 (y:Int)):=(Td (TE _ _ _ _ (show ba≠w1.heap.size by omega))).trans y9;have hcp2:(wr.setCell ⟨w1.heap.size,i,none⟩ (.int .u64 (p:Int))).cell? ⟨w1.heap.size,i,none⟩=some (.int .u64 (p:Int)):=Ks.cell (by rw[TN (by omega)]);have X2:(wr.setCell ⟨w1.heap.size,i,none⟩ (.int .u64 (p:Int))).frozen? ⟨w1.heap.size,i,none⟩=false:=Ks.frozen _;generalize wr.setCell ⟨w1.heap.size,i,none⟩ (.int .u64 (p:Int))=W2 at*;obtain ⟨g,hg⟩:∃g,y*2^t%2^64=g:=⟨_,rfl⟩;have hgI:(y:Int)*2^t%18446744073709551616=(g:Int):=(by rw[<-hg,show (2:Nat)^64=18446744073709551616 from rfl,Int.natCast_emod,Int.natCast_mul,Int.natCast_pow];rfl);have XM:g<18446744073709551616:=(by rw[<-hg];exact TG _ (by decide));obtain ⟨r,hr⟩:∃r,p+g=r:=⟨_,rfl⟩;have A7:bits .or .u64 (p:Int) (g:Int)=(r:Int):=by
      rw[u64_or_nat p g Qb XM,<-hr,<-(Xo1 HH),<-hg,<-ht];have:=Qx9 (s:=s) (t:=64-s) (x:=x) (y:=y) (by rw[show s+(64-s)=64 by omega];exact J3);rw[show s+(64-s)=64 by omega] at this;rw[this]
     have HS:=Xh4 hg hr Ks D0;clear hg hr Ks D0
     go_region
     go_wp2_with fail
     have G1:=(Xo0 HH);rw[(Xo1 HH),show k+(i+1)=i+k+1 by omega,HY.out,ht,TY,(Xo0 HS),(Xo1 HS)] at G1;have G3:bits .or .u64 (p:Int) (IntKind.u64.wrap ((y:Int)*2^t))=(r:Int):=(by rw[IntKind.wrap_u64,hgI,A7]);rw[G3];refine ⟨⟨i+1,(L.set i p).set i r,by simp,by omega,((Xo2 HS).set i r).drew,by simp[K5],?_,((Xe3 HS).setCell (p:=⟨w1.heap.size,i,none⟩) (Ug _) _).drew⟩,by simp only[intOf];omega⟩;rw[List.set_set];rw[<-ht] at G1;exact Qg3 (Xo3 HH) G1 (by omega)
    ·have hik':¬((i:Int)+(k:Int)+1<(A.length:Int)):=by omega
     go_wp2_with fail
     have G1:=(Xo0 HH);rw[(Xo1 HH),show k+(i+1)=i+k+1 by omega,Tk (show A.length<=i+k+1 by omega)] at G1;simp only[Option.getD_none,TU,Nat.zero_mod,Tu] at G1;exact ⟨⟨i+1,L.set i p,by simp,by omega,(Xo2 HH).set i p,by simp[K5],Qg3 (Xo3 HH) G1 (by omega),(Xe4 HH).setCell (p:=⟨w1.heap.size,i,none⟩) (Ug _) _⟩,by simp only[intOf];omega⟩
   ·obtain rfl:i=m:=(by omega);have O4:L=shr s (64-s) (A.drop k):=Qev (fun j hj=>P3 j (by rw[Qje,Te] at hj;have:=HM.out;omega)) (by rw[Qje,Te];have:=HM.out;omega);have hW:WordsIn wr (some ⟨w1.heap.size,0,none⟩) i i L:=⟨K5,Ug _,by omega,O4 ▸ Qt1 HA.out k s YN,hL.rd⟩;have E0:¬((i:Int)<(i:Int)):=(by omega);have i8:Bw w wr:=Below.next0 K0.out N0;have x4:trimL L=dig (2^64) (val (2^64) A / 2^z):=(by rw[Q1q (by decide) hW.low,O4,Qt0 A HA.out k s (by omega) YN,HZ.out]);have HE:=Xh3 hW i8 x4;clear hW i8 x4 O4 hL P3 N0
    go_wp2_with (refine (Q1l _ _ _ _ _ (Xo0 HE)).mono ?_;rintro e w5 ⟨rfl,M0⟩;have M4:=Ua M0;clear M0)
    go_ret;have V2:=((Xo0 HE).step M4.out).trim;rw[(Xe2 HE)] at V2⊢;exact ⟨_,_,_,rfl,⟨V2,.inr fun x hx=>by injection hx with hx;subst hx;exact K0.out.size⟩,Below.next0 (Xo1 HE) M4.out⟩
end Go.Proofs.YtdilmfakkppgpaaGreatDoor
namespace Go.Proofs
open Go.Shelf
def Tryz.J17:Go.Shelf.Ren:=⟨fun|29=>145|n=>n,fun|22=>74|3=>3|4=>4|25=>94|54=>206|0=>0|5=>5|n=>n,fun|1=>1|n=>n⟩
theorem Tryz.J18:Go.Proofs.Lays7.n29 Tryz.prog Tryz.J17:={
 mixed:=by kernel_rfl
 f29:=Tryz.func145.trans (congrArg some (by kernel_rfl))
 t0:=Tryz.underlying0
 a0:=Tryz.isAgg0
 z0:=Tryz.sizeOf0
 v0:=Tryz.zeroValue0
 i0:=by kernel_rfl
 t3:=Tryz.underlying3
 a3:=Tryz.isAgg3
 z3:=Tryz.sizeOf3
 v3:=Tryz.zeroValue3
 i3:=by kernel_rfl
 t4:=Tryz.underlying4
 a4:=Tryz.isAgg4
 z4:=Tryz.sizeOf4
 v4:=Tryz.zeroValue4
 i4:=by kernel_rfl
 t5:=Tryz.underlying5
 a5:=Tryz.isAgg5
 z5:=Tryz.sizeOf5
 v5:=Tryz.zeroValue5
 i5:=by kernel_rfl
 t22:=Tryz.underlying74
 a22:=Tryz.isAgg74
 z22:=Tryz.sizeOf74
 v22:=Tryz.zeroValue74
 i22:=by kernel_rfl
 t25:=Tryz.underlying94
 a25:=Tryz.isAgg94
 z25:=Tryz.sizeOf94
 v25:=Tryz.zeroValue94
 i25:=by kernel_rfl
 t54:=Tryz.underlying206
 a54:=Tryz.isAgg206
 z54:=Tryz.sizeOf206
 g1:=by kernel_rfl }
open Go.RowKit in
theorem Tryz.J19 (x:Nat) (hx:x<18446744073709551616) (w:World) (hT:x≠0->TabAt 1 Lib.deBruijn64tab w):
 Calls Tryz.prog 145 #[.int .u64 x] w fun e w'=>e=.returned (.int .i64 (Lib.ctz 64 x))/\w'=w:=Any7.bits_TrailingZeros64 Tryz.J18 x hx w hT
end Go.Proofs
namespace Go.Proofs.YtdilmfakkppgpaaGreatDoor
open Go.RowKit WordsM
theorem Qvt {ls:LN} {i x k m:Nat} (h0:val (2^64) (ls.take i)=0) (hx:ls[i]?=some x) (he:x=2^k*(2*m+1)) (hk:k<64):Qjg (val (2^64) ls) (64*i+k):=by
 have hi:i<ls.length:=(Um.1 hx).1;have hxe:ls[i]=x:=(Um.1 hx).2;have h1:=Q3p (B:=2^64) ls i;rw[h0,UB,UC hi,hxe] at h1;simp only[val] at h1;obtain ⟨V,hV⟩:∃V,val (2^64) (ls.drop (i+1))=V:=⟨_,rfl⟩;rw[hV] at h1;obtain ⟨t,ht⟩:∃t,64=k+(t+1):=⟨63-k,by omega⟩;have e1:x+2^64*V=2^k*(2*(m+2^t*V)+1):=by
  rw[he,show (2:Nat)^64=2^k*(2^t*2) by rw[<-Th,<-Tz,<-ht],UN,<-Tt]
  congr 1
  rw[UG (2^t) 2,UN,Tt];omega
 rw[e1,<-Xar,<-UN,<-Tz] at h1;rw[h1];have hp:0<2^(64*i+k):=Tr (by decide);exact ⟨Nat.mul_mod_right _ _,by rw[Nat.mul_div_cancel_left _ hp];omega⟩
def Q2n (w:World):Prop:=1<w.heap.size/\TabAt 1 Lib.deBruijn64tab w
theorem Q2n.step {w w':World} (h:Q2n w) (hb:Bw w w'):Q2n w':=⟨Ue h.1 hb.size,fun j hj=>(hb.cell (p:=⟨_,j,none⟩) h.1).trans (h.2 j hj)⟩
theorem Qgi (a:OA) (n c:Nat) (ls:LN) (w:World) (h:WordsIn w a n c ls) (hT:Q2n w) (hn:n<=1000000) (h0:val (2^64) ls≠0):
 Calls Tryz.prog 90 #[.slice a n c] w fun e w'=>(∃z:Nat,e=.returned (.int .i64 (z:Int))/\Qjg (val (2^64) ls) z/\z<64*n)/\Bw w w':=by
 have Z2:=h.len;have H:=Xh3 h hT h0;clear h hT h0
 go_enter Tryz.func90,Tryz.ntmps90
 go_wp2_with fail
 go_loopw [7] (fun v wr=>∃i:Nat,v=.int .i64 (i:Int)/\i<=n/\val (2^64) (ls.take i)=0/\Bw w wr) (fun v _=>n-(intOf v).toNat)
 case atStart=>exact ⟨0,rfl,Uu _,by simp[val],Uf _ _⟩
 case round=>
  obtain ⟨i,rfl,hi,hv,hb⟩:=hrel
  by_cases B0:i<n
  ·have E0:(i:Int)<(n:Int):=(by omega);obtain ⟨x,hx⟩:∃x,ls[i]?=some x:=⟨_,Ub (by omega)⟩;have J3:x<18446744073709551616:=(Xo0 H).low x (Ud hx);obtain ⟨g1,o1,N6,B7,E6⟩:=((Xo0 H).rd.below hb).at_ hx;subst N6;have HH:=Xh3 hv hb hx;clear hv hb hx
   by_cases y5:x=0
   ·subst y5
    go_wp2_with fail
    refine ⟨⟨i+1,by simp,by omega,?_,(Xo1 HH)⟩,by simp only[intOf];omega⟩;rw[Q1e ls i 0 (Xe2 HH),(Xo0 HH),Nat.mul_zero]
   ·have hx0':((x:Int)==0)=false:=(by rw[Ui];omega);have hctz:=fun W (hb:Bw w W)=>(Tryz.J19 x J3 W (fun _=>((Xo1 H).step hb).2)).mono (R':=fun e w'=>e=.returned (.int .i64 (Lib.ctz 64 x))/\W=w') (by rintro e w' ⟨h1,h2⟩;exact ⟨h1,h2.symm⟩);obtain ⟨m,hm,hk⟩:=Lib.ctzFrom_spec 64 x (by omega) J3;have hce:Lib.ctz 64 x=Lib.ctzFrom 64 x:=(by unfold Lib.ctz;rw[Uq y5]);rw[<-hce] at hm hk;obtain ⟨k,hkk⟩:∃k,Lib.ctz 64 x=k:=⟨_,rfl⟩;rw[hkk] at hm hk;rw[hkk] at hctz;have HZ:=Xh2 hm hctz;clear hctz hm hce hkk
    go_wp2_with (refine ((Xe1 HZ) _ (Xo1 HH)).mono ?_;rintro e w5 ⟨rfl,rfl⟩)
    go_ret;exact ⟨⟨64*i+k,rfl,Qvt (Xo0 HH) (Xe2 HH) (Xo0 HZ) hk,by omega⟩,(Xo1 HH)⟩
  ·exact absurd (by rw[UA (by omega)] at hv;exact hv) (Xe2 H)
end Go.Proofs.YtdilmfakkppgpaaGreatDoor
