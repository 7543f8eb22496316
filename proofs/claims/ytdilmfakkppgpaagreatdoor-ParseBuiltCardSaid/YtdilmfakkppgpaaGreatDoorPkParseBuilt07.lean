/- Part 7 of the proof of LawParseBuilt: NumC, RefI, RefJ, DecM, DigA, RefL. Condition: as each theorem says; none at the end. -/
import Derived.Test.YtdilmfakkppgpaaGreatDoorPkParseBuilt06
set_option maxRecDepth 100000
set_option maxHeartbeats 16000000
namespace Go.Proofs.YtdilmfakkppgpaaGreatDoor
open Go.RowKit WordsM
def Q5z (neg:Bool) (v:Nat) (exp:Int) (neg':Bool) (exp':Int) (L:LN) (er:Int):Prop:=
 (v=0/\neg'=false/\exp'=0/\L=[]/\er=0)∨∃z:Nat,Qjg v z/\
   (((65536<exp∨exp< -65536-(z:Int)∨¬Q0i neg (exp+z) (dig (2^64) (v / 2^z)))/\neg'=false/\exp'=0/\L=[]/\er=2)∨
    (exp<=65536/\-65536-(z:Int)<=exp/\Q0i neg (exp+z) (dig (2^64) (v / 2^z))/\neg'=neg/\exp'=exp+z/\L=dig (2^64) (v / 2^z)/\er=0))
theorem Q57 (neg:Bool) (a:OA) (n c:Nat) (ls:LN) (exp:Int) (w:World) (h:WordsIn w a n c ls) (hT:Q2n w) (hn:n<=100000) (he: -1000000000<=exp) (V6:exp<=1000000000):
 Calls Tryz.prog 47 #[.bool neg,.slice a n c,.int .i64 exp] w fun e w'=>∃neg' exp' a' n' c' L er,e=.returned (.tuple #[.agg #[.bool neg',.int .i64 exp',.slice a' n' c'],.int .i64 er])/\Q5z neg (val (2^64) ls) exp neg' exp' L er/\Q2m w w' a' n' c' L/\Bw w w':=by
 have YP:=fun W (hb:Bw w W)=>Qlg a n c ls W (h.step hb) (by omega);have F2:∀o,Bw w (w.alloc o):=fun o=>Ba
 by_cases h0:val (2^64) ls=0
 ·have HB:=Xh2 YP h0;clear YP h0 h hT he V6
  go_enter Tryz.func47,Tryz.ntmps47
  go_upto_if 12 with (go_at_call_of 89 a;refine ((Xo0 HB) _ (F2 _)).mono ?_;rintro e w1 ⟨⟨k,rfl,hk⟩,C0⟩;obtain rfl:k=0:=hk.2 (Xe1 HB);have K0:=Ua C0;clear C0)
  have hx:=Qbv w false 0 none 0 0 41;have hf:∀i,w1.frozen? ⟨w.heap.size,i,none⟩=false:=fun i=>(K0.out.frozen (p:=⟨w.heap.size,i,none⟩) hx.1).trans (TC _ _ _ _ _ (Ul _ _));have Y3:w1.cell? ⟨w.heap.size,0,none⟩=some (.bool false):=(K0.out.cell (p:=⟨w.heap.size,0,none⟩) hx.1).trans hx.2.1;have N1:w1.cell? ⟨w.heap.size,1,none⟩=some (.int .i64 0):=(K0.out.cell (p:=⟨w.heap.size,1,none⟩) hx.1).trans hx.2.2.1;have E1:w1.cell? ⟨w.heap.size,2,none⟩=some (.slice none 0 0):=(K0.out.cell (p:=⟨w.heap.size,2,none⟩) hx.1).trans hx.2.2.2;have Q4:=hf 0;have O2:=hf 1;have X2:=hf 2;have K2:(w1.setCell ⟨w.heap.size,0,none⟩ (.bool false)).cell? ⟨w.heap.size,1,none⟩=some (.int .i64 0):=(Uc _ _ _ _ (by simp)).trans N1;have M2:((w1.setCell ⟨w.heap.size,0,none⟩ (.bool false)).setCell ⟨w.heap.size,1,none⟩ (.int .i64 0)).cell? ⟨w.heap.size,2,none⟩=some (.slice none 0 0):=(Uc _ _ _ _ (by simp)).trans ((Uc _ _ _ _ (by simp)).trans E1);clear hf hx
  go_wp2_with fail
  have G0:Bw w (((w1.setCell ⟨w.heap.size,0,none⟩ (.bool false)).setCell ⟨w.heap.size,1,none⟩ (.int .i64 0)).setCell ⟨w.heap.size,2,none⟩ (.slice none 0 0)):=(((Below.next0 (F2 _) K0.out).setCell (p:=⟨w.heap.size,0,none⟩) (Ug _) _).setCell (p:=⟨w.heap.size,1,none⟩) (Ug _) _).setCell (p:=⟨w.heap.size,2,none⟩) (Ug _) _;have k0:(((w1.setCell ⟨w.heap.size,0,none⟩ (.bool false)).setCell ⟨w.heap.size,1,none⟩ (.int .i64 0)).setCell ⟨w.heap.size,2,none⟩ (.slice none 0 0)).cell? ⟨w.heap.size,0,none⟩=some (.bool false):=(Uc _ _ _ _ (by simp)).trans ((Uc _ _ _ _ (by simp)).trans (UE _ _ _ (by rw[Y3];rfl)));have k1:(((w1.setCell ⟨w.heap.size,0,none⟩ (.bool false)).setCell ⟨w.heap.size,1,none⟩ (.int .i64 0)).setCell ⟨w.heap.size,2,none⟩ (.slice none 0 0)).cell? ⟨w.heap.size,1,none⟩=some (.int .i64 0):=(Uc _ _ _ _ (by simp)).trans (UE _ _ _ (by rw[K2];rfl));have k2:(((w1.setCell ⟨w.heap.size,0,none⟩ (.bool false)).setCell ⟨w.heap.size,1,none⟩ (.int .i64 0)).setCell ⟨w.heap.size,2,none⟩ (.slice none 0 0)).cell? ⟨w.heap.size,2,none⟩=some (.slice none 0 0):=UE _ _ _ (by rw[M2];rfl);generalize (((w1.setCell ⟨w.heap.size,0,none⟩ (.bool false)).setCell ⟨w.heap.size,1,none⟩ (.int .i64 0)).setCell ⟨w.heap.size,2,none⟩ (.slice none 0 0))=W3 at*;refine ⟨rfl,.tuple #[.agg #[.bool false,.int .i64 0,.slice none 0 0],.int .i64 0],by simp[results,go_sem,k0,k1,k2],false,0,none,0,0,[],0,rfl,.inl ⟨(Xe1 HB),rfl,rfl,rfl,rfl⟩,Q2m.nil_ _ _,G0⟩
 ·have hzr:=fun W (hb:Bw w W)=>Qgi a n c ls W (h.step hb) (hT.step hb) (by omega) h0;have hdn:=fun W (hb:Bw w W) z hz=>Qjr a n c ls z W (h.step hb) hn hz;have HB:=Xh4 YP hzr hdn h0;clear YP hzr hdn h0 h hT
  by_cases U4:65536<exp
  ·go_enter Tryz.func47,Tryz.ntmps47
   go_upto_if 12 with (go_at_call_of 89 a;refine ((Xo0 HB) _ (F2 _)).mono ?_;rintro e w1 ⟨⟨k,rfl,hk⟩,C0⟩;have ZZ:((k:Int)==0)=false:=by { rw[Ui];intro e;exact (Xe3 HB) (hk.1 (by omega)) };have K0:=Ua C0;clear C0 hk)
   go_upto_if 23 with (go_at_call_of 90 a;refine ((Xo1 HB) _ (Below.next0 (F2 _) K0.out)).mono ?_;rintro e w2 ⟨⟨z,rfl,hz,K9⟩,D0⟩;have B1:=Xh3 hz K9 D0;clear D0 hz K9)
   have A3:=(Qbv w false 0 none 0 0 41).1;have hN:=((Q02.new w (.bool false) (.int .i64 0) (.slice none 0 0) 41).step K0.out A3).step (Xe2 B1) (Ue A3 K0.out.size);have N0:Bw w w2:=Below.next0 (Below.next0 (F2 _) K0.out) (Xe2 B1);have hS:=hN.store (.bool false) (.int .i64 0) (.slice none 0 0);have hL:=Q02.below N0 (Ug _) (.bool false) (.int .i64 0) (.slice none 0 0);have HS:=Xh2 hS hL;have Y3:=hN.c0;have N1:=hN.c1;have E1:=hN.c2;have Q4:=hN.f0;have O2:=hN.f1;have X2:=hN.f2;have K2:=hN.d1 (.bool false);have M2:=hN.d2 (.bool false) (.int .i64 0);clear hN N0 hS hL A3
   go_wp2_with fail
   have k0:=(Xo0 HS).c0;have k1:=(Xo0 HS).c1;have k2:=(Xo0 HS).c2;have G0:=(Xe1 HS);clear HS K2 M2;generalize (((w2.setCell ⟨w.heap.size,0,none⟩ (.bool false)).setCell ⟨w.heap.size,1,none⟩ (.int .i64 0)).setCell ⟨w.heap.size,2,none⟩ (.slice none 0 0))=W3 at*;refine ⟨rfl,.tuple #[.agg #[.bool false,.int .i64 0,.slice none 0 0],.int .i64 2],by simp[results,go_sem,k0,k1,k2],false,0,none,0,0,[],2,rfl,.inr ⟨z,(Xo0 B1),.inl ⟨.inl U4,rfl,rfl,rfl,rfl⟩⟩,Q2m.nil_ _ _,G0⟩
  ·go_enter Tryz.func47,Tryz.ntmps47
   go_upto_if 12 with (go_at_call_of 89 a;refine ((Xo0 HB) _ (F2 _)).mono ?_;rintro e w1 ⟨⟨k,rfl,hk⟩,C0⟩;have ZZ:((k:Int)==0)=false:=by { rw[Ui];intro e;exact (Xe3 HB) (hk.1 (by omega)) };have K0:=Ua C0;clear C0 hk)
   go_upto_if 23 with (go_at_call_of 90 a;refine ((Xo1 HB) _ (Below.next0 (F2 _) K0.out)).mono ?_;rintro e w2 ⟨⟨z,rfl,hz,K9⟩,D0⟩;have B1:=Xh3 hz K9 D0;clear D0 hz K9)
   obtain ⟨y,hy⟩:∃y:Int,-65536-(z:Int)=y:=⟨_,rfl⟩;have hzw:wrap64 (-65536-(z:Int))=y:=(by have:=(Xo1 B1);rw[<-hy];unfold wrap64;omega);have HY:=Ua hy;clear hy
   by_cases J4:exp<y
   ·have hx1':exp<=65536:=(by omega);have A3:=(Qbv w false 0 none 0 0 41).1;have hN:=((Q02.new w (.bool false) (.int .i64 0) (.slice none 0 0) 41).step K0.out A3).step (Xe2 B1) (Ue A3 K0.out.size);have N0:Bw w w2:=Below.next0 (Below.next0 (F2 _) K0.out) (Xe2 B1);have hS:=hN.store (.bool false) (.int .i64 0) (.slice none 0 0);have hL:=Q02.below N0 (Ug _) (.bool false) (.int .i64 0) (.slice none 0 0);have HS:=Xh2 hS hL;have Y3:=hN.c0;have N1:=hN.c1;have E1:=hN.c2;have Q4:=hN.f0;have O2:=hN.f1;have X2:=hN.f2;have K2:=hN.d1 (.bool false);have M2:=hN.d2 (.bool false) (.int .i64 0);clear hN N0 hS hL A3
    go_wp2_with fail
    have k0:=(Xo0 HS).c0;have k1:=(Xo0 HS).c1;have k2:=(Xo0 HS).c2;have G0:=(Xe1 HS);clear HS K2 M2 hzw hx1';generalize (((w2.setCell ⟨w.heap.size,0,none⟩ (.bool false)).setCell ⟨w.heap.size,1,none⟩ (.int .i64 0)).setCell ⟨w.heap.size,2,none⟩ (.slice none 0 0))=W3 at k0 k1 k2 G0⊢;refine ⟨rfl,.tuple #[.agg #[.bool false,.int .i64 0,.slice none 0 0],.int .i64 2],by simp[results,go_sem,k0,k1,k2],false,0,none,0,0,[],2,rfl,.inr ⟨z,(Xo0 B1),.inl ⟨.inr (.inl (by rw[HY.out];exact J4)),rfl,rfl,rfl,rfl⟩⟩,Q2m.nil_ _ _,G0⟩
   ·have YE:y<=exp:=(by omega);have K9:(z:Nat)<=100000000:=(by have:=(Xo1 B1);omega);have N0:Bw w w2:=Below.next0 (Below.next0 (F2 _) K0.out) (Xe2 B1);have HDN:=Xh2 ((Xo2 HB) w2 N0 z K9) N0;clear N0 K9;have A3:=Q0r w (.cells #[.bool false,.int .i64 0,.slice none 0 0] 41);have hN:=((Q02.new w (.bool false) (.int .i64 0) (.slice none 0 0) 41).step K0.out A3).step (Xe2 B1) (Ue A3 K0.out.size);have HN:=Xh2 hN (Ue (Ue A3 K0.out.size) (Xe2 B1).size);clear hN A3;have he3: -9223372036854775808<=exp+(z:Int):=(by omega);have he4:exp+(z:Int)<=9223372036854775807:=by have:=(Xo1 B1);omega
    by_cases X1:Q0i neg (exp+(z:Int)) (dig (2^64) (val (2^64) ls / 2^z))
    ·have o4:=UU X1;have HNU:=Ua X1;clear X1
     go_wp2_with (first
      |(go_at_call_of 91 a;refine (Xo0 HDN).mono ?_;rintro e w3 ⟨a',n',c',rfl,hW,G0⟩;have Wc:=Ua (hW.lower (Xe1 HDN).size).new;have D2:=Xh2 hW.toWordsIn G0;clear hW G0)
      |(refine (Q2x neg (exp+(z:Int)) a' n' c' _ _ ((Xo0 D2).step (Ba)) he3 he4 (by have:=(Xo0 D2).cap;have:=(Xo0 D2).most;omega)).mono ?_;rintro r w4 ⟨hr,F1⟩;rw[o4] at hr;subst hr;
        have Qj:=(Below.next0 (Below.next0 (Xe1 D2) ((Uf _ _).alloc (Ug _) (.cells #[.bool neg,.int .i64 (exp+(z:Int)),.slice a' n' c'] 41))) F1);have JO:=(Xo0 HN).step Qj (Xe1 HN);have Xq:=(Q02.new w3 (.bool neg) (.int .i64 (exp+(z:Int))) (.slice a' n' c') 41).step F1 (Q0r _ _);have Y3:=JO.c0;have N1:=JO.c1;have E1:=JO.c2;have Q4:=JO.f0;have O2:=JO.f1;have X2:=JO.f2;have K2:=JO.d1 (.bool neg);have M2:=JO.d2 (.bool neg) (.int .i64 (exp+(z:Int)));have U9:=Xq.c0;have B7:=Xq.c1;have Y6:=Xq.c2;have N3:=Xh3 JO (Below.next0 (Xe1 HDN) Qj) (((Xo0 D2).step ((Uf _ _).alloc (Ug _) (.cells #[.bool neg,.int .i64 (exp+(z:Int)),.slice a' n' c'] 41))).step F1);clear JO Xq Qj F1))
     have hS:=(Xo0 N3).store (.bool neg) (.int .i64 (exp+(z:Int))) (.slice a' n' c');have k0:=hS.c0;have k1:=hS.c1;have k2:=hS.c2;have M0:=Q02.below (Xo1 N3) (Ug _) (.bool neg) (.int .i64 (exp+(z:Int))) (.slice a' n' c');have U6:WordsIn _ a' n' c' (dig (2^64) (val (2^64) ls / 2^z)):=⟨(Xe2 N3).len,(Xe2 N3).cap,(Xe2 N3).most,(Xe2 N3).low,((Xe2 N3).rd.store3 (Xo0 N3) (fun _=>by simp[nv]) (fun _=>by simp[nv]) (fun _=>by simp[nv]) (.bool neg) (.int .i64 (exp+(z:Int))) (.slice a' n' c')).more (Q18 _ _ _ _ _)⟩;clear hS Y3 N1 E1 Q4 O2 X2 K2 M2 U9 B7 Y6 hzw;generalize World.setCell _ _ _=W5 at k0 k1 k2 M0 U6⊢;refine ⟨rfl,.tuple #[.agg #[.bool neg,.int .i64 (exp+(z:Int)),.slice a' n' c'],.int .i64 0],by simp[results,go_sem,k0,k1,k2],neg,exp+(z:Int),a',n',c',_,0,rfl,.inr ⟨z,(Xo0 B1),.inr ⟨U4,by rw[HY.out];exact YE,HNU.out,rfl,rfl,rfl,rfl⟩⟩,⟨U6,Wc.out⟩,M0⟩
    ·have o4:=UL X1;have HNU:=Ua X1;clear X1
     go_wp2_with (first
      |(go_at_call_of 91 a;refine (Xo0 HDN).mono ?_;rintro e w3 ⟨a',n',c',rfl,hW,G0⟩;have Wc:=Ua (hW.lower (Xe1 HDN).size).new;have D2:=Xh2 hW.toWordsIn G0;clear hW G0)
      |(refine (Q2x neg (exp+(z:Int)) a' n' c' _ _ ((Xo0 D2).step (Ba)) he3 he4 (by have:=(Xo0 D2).cap;have:=(Xo0 D2).most;omega)).mono ?_;rintro r w4 ⟨hr,F1⟩;rw[o4] at hr;subst hr;
        have Qj:=(Below.next0 (Below.next0 (Xe1 D2) ((Uf _ _).alloc (Ug _) (.cells #[.bool neg,.int .i64 (exp+(z:Int)),.slice a' n' c'] 41))) F1);have JO:=(Xo0 HN).step Qj (Xe1 HN);have Xq:=(Q02.new w3 (.bool neg) (.int .i64 (exp+(z:Int))) (.slice a' n' c') 41).step F1 (Q0r _ _);have Y3:=JO.c0;have N1:=JO.c1;have E1:=JO.c2;have Q4:=JO.f0;have O2:=JO.f1;have X2:=JO.f2;have K2:=JO.d1 (.bool false);have M2:=JO.d2 (.bool false) (.int .i64 0);have U9:=Xq.c0;have B7:=Xq.c1;have Y6:=Xq.c2;have N3:=Xh3 JO (Below.next0 (Xe1 HDN) Qj) (((Xo0 D2).step ((Uf _ _).alloc (Ug _) (.cells #[.bool neg,.int .i64 (exp+(z:Int)),.slice a' n' c'] 41))).step F1);clear JO Xq Qj F1))
     have hS:=(Xo0 N3).store (.bool false) (.int .i64 0) (.slice none 0 0);have k0:=hS.c0;have k1:=hS.c1;have k2:=hS.c2;have M0:=Q02.below (Xo1 N3) (Ug _) (.bool false) (.int .i64 0) (.slice none 0 0);have U6:WordsIn _ a' n' c' (dig (2^64) (val (2^64) ls / 2^z)):=⟨(Xe2 N3).len,(Xe2 N3).cap,(Xe2 N3).most,(Xe2 N3).low,((Xe2 N3).rd.store3 (Xo0 N3) (fun _=>by simp[nv]) (fun _=>by simp[nv]) (fun _=>by simp[nv]) (.bool false) (.int .i64 0) (.slice none 0 0)).more (Q18 _ _ _ _ _)⟩;clear hS Y3 N1 E1 Q4 O2 X2 K2 M2 U9 B7 Y6 hzw;generalize World.setCell _ _ _=W5 at k0 k1 k2 M0 U6⊢;refine ⟨rfl,.tuple #[.agg #[.bool false,.int .i64 0,.slice none 0 0],.int .i64 2],by simp[results,go_sem,k0,k1,k2],false,0,none,0,0,[],2,rfl,.inr ⟨z,(Xo0 B1),.inl ⟨.inr (.inr HNU.out),rfl,rfl,rfl,rfl⟩⟩,Q2m.nil_ _ _,M0⟩
theorem Qdq (ws:LN):NatM.val (NatM.halves ws)=val (2^64) ws:=by
 induction ws with
 |nil=>rfl
 |cons x r ih=>
  have e:NatM.halves (x::r)=(x%4294967296)::(x / 4294967296)::NatM.halves r:=rfl;rw[e];simp only[NatM.val,val,ih];rw[show (2:Nat)^64=4294967296*4294967296 by decide,UN]
  show x%4294967296+4294967296*(x / 4294967296+4294967296*val (4294967296*4294967296) r)=_
  rw[Tt];omega
theorem Q58 (a:OA) (n c:Nat) (ls:LN) (w:World) (h:WordsIn w a n c ls) (hm:n<=1000000):
 Calls Tryz.prog 56 #[.slice a n c] w fun e w'=>∃a' n' c',e=.returned (.slice a' n' c')/\n'<=2*n/\Q0n w' a' n' c' (val (2^64) ls)/\Bw w w':=by
 refine (Qjn a n c ls w h.len hm h.rd.rdN h.low).mono ?_;rintro e w' ⟨a',n',c',rfl,XB,hc,JZ,X8,hb⟩;have h1:NatM.trimL (NatM.halves ls)=dig (2^32) (val (2^64) ls):=by
  rw[Qbc,Q1q (B:=2^32) (by decide) (show Low (2^32) (NatM.halves ls) from NatM.halves_small h.low),<-Qpg,Qdq]
 have h2:=NatM.trim_len (NatM.halves ls);rw[NatM.halves_len,h.len] at h2;rw[h1] at XB X8 h2;exact ⟨a',n',c',rfl,by omega,⟨XB.symm,hc,JZ,X8.rdI⟩,hb⟩
theorem Qvu {v:Nat} (hv:v%2=1) (neg:Bool) (e:Int):Fit v e↔Q0i neg e (dig (2^64) v):=by
 have h0:v≠0:=by omega
 have C1:dig (2^64) v≠[]:=fun e=>h0 ((Q56 (by decide)).1 e);have ht:=Qjd _ (Qlc (B:=2^64) (by decide) v);have hh:(dig (2^64) v).headD 0%2=1:=by
  rw[Q3e (by decide) h0]
  show v%2^64%2=1
  rw[show (2:Nat)^64=18446744073709551616 from rfl];omega
 unfold Q0i Fit;rw[Uq C1,ht];exact ⟨fun h=>⟨rfl,h.1,hh,h.2.1,h.2.2⟩,fun h=>⟨h.2.1,h.2.2.2⟩⟩
theorem Qbe {neg:Bool} {v:Nat} {e:Int} {neg1:Bool} {v1:Nat} {e1:Int} {neg2:Bool} {e2:Int} {L:LN} {er:Int} (h1:Qpl neg v e neg1 v1 e1) (h2:Qpm neg1 v1 e1 neg2 e2 L er):Q5z neg v e neg2 e2 L er:=by
 rcases h1 with ⟨h0,rfl,rfl,rfl⟩|⟨z,hz,rfl,rfl,rfl⟩
 ·rcases h2 with ⟨_,h3,h4,h5,h6⟩|⟨h3,_⟩|⟨h3,_⟩
  ·exact .inl ⟨h0,h3,h4,h5,h6⟩
  ·exact absurd rfl h3
  ·exact absurd rfl h3
 ·have C7:=hz.2;have hf:=Qvu C7 neg1 (e+(z:Int));refine .inr ⟨z,hz,?_⟩;rcases h2 with ⟨h3,_⟩|⟨h3,h4,h5,h6,h7,h8⟩|⟨h3,h4,rfl,rfl,rfl,h8⟩
  ·rw[h3] at C7;simp at C7
  ·exact .inl ⟨.inr (.inr fun h=>h4 (hf.2 h)),h5,h6,h7,h8⟩
  ·exact .inr ⟨by have:=h4.2.2;omega,by have:=h4.2.1;omega,hf.1 h4,rfl,rfl,rfl,h8⟩
theorem Q89 {w:World} {a:OA} {n c v:Nat} (h:Q0n w a n c v) (h0:v≠0):n≠0:=fun e=>h0 ((Q56 (B:=2^32) (by decide)).1 (UH.1 (by rw[h.len,e])))
theorem Qjs (neg:Bool) (a:OA) (n c:Nat) (ls:LN) (exp:Int) (w:World) (h:WordsIn w a n c ls) (hn:n<=100000) (he: -1000000000<=exp) (V6:exp<=1000000000):
 Calls Tryz.prog 95 #[.bool neg,.slice a n c,.int .i64 exp] w fun e w'=>∃neg' exp' a' n' c' L er,e=.returned (.tuple #[.agg #[.bool neg',.int .i64 exp',.slice a' n' c'],.int .i64 er])/\Q5z neg (val (2^64) ls) exp neg' exp' L er/\WordsIn w' a' n' c' L/\Bw w w':=by
 have F2:∀o,Bw w (w.alloc o):=fun o=>Ba;have A3:=Q0r w (.cells #[.bool false,.int .i64 0,.slice none 0 0] 41);have JH:=Q02.new w (.bool false) (.int .i64 0) (.slice none 0 0) 41;have hp:=Q58 a n c ls (w.alloc (.cells #[.bool false,.int .i64 0,.slice none 0 0] 41)) (h.step (F2 _)) (by omega);generalize val (2^64) ls=v at*;have HP:=Xh2 hp JH;clear hp JH h
 by_cases h0:v=0
 ·go_enter Tryz.func95,Tryz.ntmps95
  go_wp2_with (refine (Xo0 HP).mono ?_;rintro e w1 ⟨m,k,c',rfl,hk,hD,C0⟩;obtain rfl:k=0:=by { have:=hD.len;rw[h0,Q11] at this;exact this.symm };
               have hN:=(Xe1 HP).step C0 A3;have Y3:=hN.c0;have N1:=hN.c1;have E1:=hN.c2;have Q4:=hN.f0;have O2:=hN.f1;have X2:=hN.f2;have K2:=hN.d1 (.bool false);have M2:=hN.d2 (.bool false) (.int .i64 0);have K0:=Xh2 hN (Below.next0 (F2 _) C0);clear hN C0)
  have hS:=(Xo0 K0).store (.bool false) (.int .i64 0) (.slice none 0 0);have k0:=hS.c0;have k1:=hS.c1;have k2:=hS.c2;have M0:=Q02.below (Xe1 K0) (Ug _) (.bool false) (.int .i64 0) (.slice none 0 0);clear hS Y3 N1 E1 Q4 O2 X2 K2 M2;generalize World.setCell _ _ _=W5 at k0 k1 k2 M0⊢;refine ⟨rfl,.tuple #[.agg #[.bool false,.int .i64 0,.slice none 0 0],.int .i64 0],by simp[results,go_sem,k0,k1,k2],false,0,none,0,0,[],0,rfl,.inl ⟨h0,rfl,rfl,rfl,rfl⟩,WordsIn.nil_ _,M0⟩
 ·obtain ⟨z0,P1⟩:=Qg2 h0;have Zq:=Xh2 P1 h0;clear P1 h0
  by_cases U4:65536<exp
  ·go_enter Tryz.func95,Tryz.ntmps95
   go_wp2_with (refine (Xo0 HP).mono ?_;rintro e w1 ⟨m,k,c',rfl,hk,hD,C0⟩;have ZZ:((k:Int)==0)=false:=by { rw[Ui];have:=Q89 hD (Xe1 Zq);omega };
                have hN:=(Xe1 HP).step C0 A3;have Y3:=hN.c0;have N1:=hN.c1;have E1:=hN.c2;have Q4:=hN.f0;have O2:=hN.f1;have X2:=hN.f2;have K2:=hN.d1 (.bool false);have M2:=hN.d2 (.bool false) (.int .i64 0);have K0:=Xh2 hN (Below.next0 (F2 _) C0);clear hN C0 hD)
   have hS:=(Xo0 K0).store (.bool false) (.int .i64 0) (.slice none 0 0);have k0:=hS.c0;have k1:=hS.c1;have k2:=hS.c2;have M0:=Q02.below (Xe1 K0) (Ug _) (.bool false) (.int .i64 0) (.slice none 0 0);clear hS Y3 N1 E1 Q4 O2 X2 K2 M2;generalize World.setCell _ _ _=W5 at k0 k1 k2 M0⊢;refine ⟨rfl,.tuple #[.agg #[.bool false,.int .i64 0,.slice none 0 0],.int .i64 2],by simp[results,go_sem,k0,k1,k2],false,0,none,0,0,[],2,rfl,.inr ⟨z0,(Xo0 Zq),.inl ⟨.inl U4,rfl,rfl,rfl,rfl⟩⟩,WordsIn.nil_ _,M0⟩
  ·obtain ⟨y,hy⟩:∃y:Int,-65536-(z0:Int)=y:=⟨_,rfl⟩;have HY:=Ua hy;clear hy
   by_cases J4:exp<y
   ·have hx1':exp<=65536:=by omega
    go_enter Tryz.func95,Tryz.ntmps95
    go_wp2_with (first
     |(refine (Xo0 HP).mono ?_;rintro e w1 ⟨m,k,c',rfl,hk,hD,C0⟩;have ZZ:((k:Int)==0)=false:=by { rw[Ui];have:=Q89 hD (Xe1 Zq);omega };
       have K0:=Xh2 hD C0;clear C0 hD)
     |(refine (Q7f m k c' v _ (Xo0 K0) (by omega) (Xe1 Zq)).mono ?_;rintro e w2 ⟨⟨z,rfl,hz,K9⟩,D0⟩;obtain rfl:z0=z:=(Xo0 Zq).eq hz;
       have hzw:wrap64 (-65536-(z0:Int))=y:=by { rw[<-HY.out];unfold wrap64;omega };
       have hN:=((Xe1 HP).step (Xe1 K0) A3).step D0 (Ue A3 (Xe1 K0).size);have Y3:=hN.c0;have N1:=hN.c1;have E1:=hN.c2;have Q4:=hN.f0;have O2:=hN.f1;have X2:=hN.f2;have K2:=hN.d1 (.bool false);have M2:=hN.d2 (.bool false) (.int .i64 0);have B1:=Xh2 hN (Below.next0 (Below.next0 (F2 _) (Xe1 K0)) D0);clear hN D0 hz K9))
    have hS:=(Xo0 B1).store (.bool false) (.int .i64 0) (.slice none 0 0);have k0:=hS.c0;have k1:=hS.c1;have k2:=hS.c2;have M0:=Q02.below (Xe1 B1) (Ug _) (.bool false) (.int .i64 0) (.slice none 0 0);clear hS Y3 N1 E1 Q4 O2 X2 K2 M2 hzw;generalize World.setCell _ _ _=W5 at k0 k1 k2 M0⊢;refine ⟨rfl,.tuple #[.agg #[.bool false,.int .i64 0,.slice none 0 0],.int .i64 2],by simp[results,go_sem,k0,k1,k2],false,0,none,0,0,[],2,rfl,.inr ⟨z0,(Xo0 Zq),.inl ⟨.inr (.inl (by rw[HY.out];exact J4)),rfl,rfl,rfl,rfl⟩⟩,WordsIn.nil_ _,M0⟩
   ·have hx1':exp<=65536:=(by omega);have YE:y<=exp:=by omega
    go_enter Tryz.func95,Tryz.ntmps95
    go_wp2_with (first
     |(go_at_call_of 56 a;refine (Xo0 HP).mono ?_;rintro e w1 ⟨m,k,c',rfl,hk,hD,C0⟩;have ZZ:((k:Int)==0)=false:=by { rw[Ui];have:=Q89 hD (Xe1 Zq);omega };
       have K0:=Xh2 hD C0;clear C0 hD)
     |(go_at_call_of 104 m;refine (Q7f m k c' v _ (Xo0 K0) (by omega) (Xe1 Zq)).mono ?_;rintro e w2 ⟨⟨z,rfl,hz,K9⟩,D0⟩;obtain rfl:z0=z:=(Xo0 Zq).eq hz;
       have hzw:wrap64 (-65536-(z0:Int))=y:=by { rw[<-HY.out];unfold wrap64;omega };
       have B1:=Xh2 ((Xo0 K0).step D0) D0;clear D0 hz K9)
     |(go_at_call_of 58 neg;refine (Q41 neg m k c' v exp _ (Xo0 B1) (by omega) he V6).mono ?_;rintro e w3 ⟨neg1,a1,n1,c1,v1,e1,rfl,ho,Xh,p6,JF,he3,G0⟩;have D2:=Xh3 ho Xh G0;clear ho Xh G0)
     |(refine (Q52 neg1 a1 n1 c1 v1 e1 _ (Xo1 D2) (by omega)).mono ?_;rintro e w4 ⟨neg2,e2,a2,n2,c2,L,er,rfl,ZY,q6,F1⟩;
       have Qj:=Below.next0 (Below.next0 (Below.next0 (Xe1 K0) (Xe1 B1)) (Xe2 D2)) F1;have hN:=(Xe1 HP).step Qj A3;have Y3:=hN.c0;have N1:=hN.c1;have E1:=hN.c2;have Q4:=hN.f0;have O2:=hN.f1;have X2:=hN.f2;have K2:=hN.d1 (.bool neg2);have M2:=hN.d2 (.bool neg2) (.int .i64 e2);have N3:=Xh4 hN (Below.next0 (F2 _) Qj) q6 ZY;clear hN F1 Qj q6 ZY))
    have hS:=(Xo0 N3).store (.bool neg2) (.int .i64 e2) (.slice a2 n2 c2);have k0:=hS.c0;have k1:=hS.c1;have k2:=hS.c2;have M0:=Q02.below (Xo1 N3) (Ug _) (.bool neg2) (.int .i64 e2) (.slice a2 n2 c2);have hW:=(Xo2 N3);have U6:WordsIn _ a2 n2 c2 L:=⟨hW.len,hW.cap,hW.most,hW.low,(hW.rd.store3 (Xo0 N3) (fun _=>by simp[nv]) (fun _=>by simp[nv]) (fun _=>by simp[nv]) (.bool neg2) (.int .i64 e2) (.slice a2 n2 c2)).more (Q18 _ _ _ _ _)⟩;clear hS Y3 N1 E1 Q4 O2 X2 K2 M2 hzw hW;generalize World.setCell _ _ _=W5 at k0 k1 k2 M0 U6⊢;refine ⟨rfl,.tuple #[.agg #[.bool neg2,.int .i64 e2,.slice a2 n2 c2],.int .i64 er],by simp[results,go_sem,k0,k1,k2],neg2,e2,a2,n2,c2,L,er,rfl,Qbe (Xo0 D2) (Xe3 N3),U6,M0⟩
theorem Qjt (neg:Bool) (exp:Int) (a:OA) (n c:Nat) (ls:LN) (neg':Bool) (exp':Int) (b:OA) (m d:Nat) (ks:LN) (w:World) (h1:WordsIn w a n c ls) (h2:WordsIn w b m d ks) (hn:n<=9223372036854775807):
 Calls Tryz.prog 73 #[.agg #[.bool neg,.int .i64 exp,.slice a n c],.agg #[.bool neg',.int .i64 exp',.slice b m d]] w fun e w'=>e=.returned (.bool (decide (neg=neg'/\exp=exp'/\ls=ks)))/\Bw w w':=by
 have V7:=h1.len;have JD:=h2.len
 by_cases Jy:neg=neg'/\exp=exp'/\n=m
 ·obtain ⟨rfl,rfl,rfl⟩:=Jy;have o4:decide (neg=neg/\exp=exp/\ls=ks)=decide (ls=ks):=by simp
  rw[o4];clear o4;have H1:=Ua h1;have H2:=Ua h2;clear h1 h2
  go_enter Tryz.func73,Tryz.ntmps73
  go_wp2_with fail
  obtain ⟨W2,J7⟩:∃W2,(w.alloc (.cells #[.bool neg,.int .i64 exp,.slice a n c] 41)).alloc (.cells #[.bool neg,.int .i64 exp,.slice b n d] 41)=W2:=⟨_,rfl⟩;have C0:Bw w W2:=by rw[<-J7];exact Below.next0 (Ba) (Ba)
  have Z1:(w.alloc (.cells #[.bool neg,.int .i64 exp,.slice a n c] 41)).heap.size=w.heap.size+1:=Array.size_push ..;have U4:=Qbv w neg exp a n c 41;have J4:=Qbv (w.alloc (.cells #[.bool neg,.int .i64 exp,.slice a n c] 41)) neg exp b n d 41;have R8:W2.cell? ⟨w.heap.size,2,none⟩=some (.slice a n c):=by
   rw[<-J7];exact ((Below.alloc (Uf _ _) (Ug _) _).cell (p:=⟨w.heap.size,2,none⟩) U4.1).trans U4.2.2.2
  have O9:W2.cell? ⟨w.heap.size+1,2,none⟩=some (.slice b n d):=by
   rw[<-J7,<-Z1];exact J4.2.2.2
  have X6:w.heap.size+1<W2.heap.size:=by rw[<-J7,<-Z1];exact J4.1
  rw[J7];clear U4 J4 J7 Z1;have HX:=Xh4 R8 O9 C0 X6;clear R8 O9 C0 X6
  go_loopw [5] (fun v wr=>∃i:Nat,v=.int .i64 (i:Int)/\i<=n/\(∀j,j<i->ls[j]?=ks[j]?)/\Bw W2 wr) (fun v _=>n-(intOf v).toNat)
  case atStart=>exact ⟨0,rfl,Uu _,fun j h=>absurd h (Xaf _),Uf _ _⟩
  case round=>
   obtain ⟨i,rfl,hi,P3,hb⟩:=hrel;have N0:Bw w wr:=Below.next0 (Xo2 HX) hb;have N1:wr.cell? ⟨w.heap.size,2,none⟩=some (.slice a n c):=(hb.cell (p:=⟨w.heap.size,2,none⟩) (by have:=(Xe3 HX);show w.heap.size<_;omega)).trans (Xo0 HX);have E1:wr.cell? ⟨w.heap.size+1,2,none⟩=some (.slice b n d):=(hb.cell (p:=⟨w.heap.size+1,2,none⟩) (Xe3 HX)).trans (Xo1 HX)
   by_cases B0:i<n
   ·have E0:(i:Int)<(n:Int):=(by omega);obtain ⟨x,hx⟩:∃x,ls[i]?=some x:=⟨_,Ub (by omega)⟩;obtain ⟨y,hy⟩:∃y,ks[i]?=some y:=⟨_,Ub (by omega)⟩;obtain ⟨g1,o1,rfl,B7,E6⟩:=(H1.out.rd.below N0).at_ hx;obtain ⟨g2,o2,rfl,Y6,y9⟩:=(H2.out.rd.below N0).at_ hy;have HP:=Xh5 P3 hb N0 hx hy;clear P3 hb N0 hx hy
    by_cases Vj:x=y
    ·subst Vj
     go_wp2_with fail
     go_quiet (fail)
     go_wp2_with fail
     refine ⟨⟨i+1,by simp,by omega,fun j hj=>?_,Q6s (Xo1 HP) nq⟩,by simp only[intOf];omega⟩
     by_cases R6:j=i
     ·subst R6;rw[(Xo3 HP),(Xe4 HP)]
     ·exact (Xo0 HP) j (by omega)
    ·have hxy':((x:Int)==(y:Int))=false:=(by rw[Ui];omega);have hxy2:((x:Int) != (y:Int))=true:=by simp[bne,hxy']
     go_wp2_with fail
     go_quiet (fail)
     go_wp2_with fail
     go_ret;have C1:¬ls=ks:=fun e=>Vj (by have h1:=(Xo3 HP);have h2:=(Xe4 HP);rw[e,h2] at h1;injection h1 with h1;exact h1.symm);exact ⟨by rw[UL C1];rfl,Q6s (Xo2 HP) nq⟩
   ·obtain rfl:i=n:=(by omega);have E0:¬((i:Int)<(i:Int)):=(by omega);have O4:ls=ks:=Qev (fun j hj=>P3 j (by omega)) (by omega);have HE:=Xh2 O4 N0;clear O4 N0 hb P3
    go_wp2_with fail
    go_ret;exact ⟨by rw[UU (Xo0 HE)];rfl,(Xe1 HE)⟩
 ·have o4:decide (neg=neg'/\exp=exp'/\ls=ks)=false:=by
   rw[Xak];rintro ⟨e1,e2,e3⟩;exact Jy ⟨e1,e2,by rw[<-V7,<-JD,e3]⟩
  rw[o4];have hB:Bw w ((w.alloc (.cells #[.bool neg,.int .i64 exp,.slice a n c] 41)).alloc (.cells #[.bool neg',.int .i64 exp',.slice b m d] 41)):=Below.next0 (Ba) (Ba);have HB:=Ua hB;clear hB o4 h1 h2
  by_cases e1:neg=neg'
  ·subst e1
   by_cases e2:exp=exp'
   ·subst e2;have e3:¬((n:Int)=(m:Int)):=(by intro e;exact Jy ⟨rfl,rfl,by omega⟩);have e3':((n:Int)==(m:Int))=false:=by rw[Ui];exact e3
    go_enter Tryz.func73,Tryz.ntmps73
    go_wp2_with fail
    go_ret;exact ⟨rfl,HB.out⟩
   ·have e2':(exp==exp')=false:=by rw[Ui];exact e2
    go_enter Tryz.func73,Tryz.ntmps73
    go_wp2_with fail
    go_ret;exact ⟨rfl,HB.out⟩
  ·have e1':(neg==neg')=false:=by rw[Ui];exact e1
   go_enter Tryz.func73,Tryz.ntmps73
   go_wp2_with fail
   go_ret;exact ⟨rfl,HB.out⟩
theorem Qpn {ls:LN} {k x:Nat} (hl:ls.length=k+1) (hx:ls[k]?=some x):(trimL ls).length=ls.length↔x≠0:=by
 have he:ls=ls.take k++[x]:=by
  have h1:=Tc (l:=ls) (i:=k);rw[hx,Option.toList_some,<-hl,Ta] at h1;exact h1
 constructor
 ·rintro h rfl;rw[he,Q3o,<-he] at h;have:=trim_len (ls.take k);rw[Tn] at this;omega
 ·intro h;rw[he,Q51 _ h]
theorem Q5q (neg:Bool) (exp:Int) (a:OA) (n c:Nat) (ls:LN) (w:World) (h:WordsIn w a n c ls) (he: -9223372036854775808<=exp) (V6:exp<=9223372036854775807) (hn:n<=9223372036854775807):
 Calls Tryz.prog 118 #[.agg #[.bool neg,.int .i64 exp,.slice a n c]] w fun e w'=>e=.returned (.bool (decide (Q0i neg exp ls)))/\Bw w w':=by
 have Z2:=h.len;have F2:∀o,Bw w (w.alloc o):=fun o=>Ba
 by_cases h0:n=0
 ·obtain rfl:ls=[]:=UH.1 (by omega);subst h0;cases neg
  ·go_enter Tryz.func118,Tryz.ntmps118
   go_wp2_with fail
   go_ret;refine ⟨?_,F2 _⟩
   show Ending.returned (.bool _)=_
   congr 2
   by_cases h:exp=0 <;> simp[Q0i,h]
  ·go_enter Tryz.func118,Tryz.ntmps118
   go_wp2_with fail
   go_ret;refine ⟨?_,F2 _⟩
   show Ending.returned (.bool _)=_
   congr 2
 ·obtain ⟨k,rfl⟩:∃k,n=k+1:=⟨n-1,by omega⟩;obtain ⟨x,hx⟩:∃x,ls[0]?=some x:=⟨_,Ub (by omega)⟩;obtain ⟨y,hy⟩:∃y,ls[k]?=some y:=⟨_,Ub (by omega)⟩;have C1:ls≠[]:=fun e=>by rw[e] at hx;simp at hx
  have J3:x<18446744073709551616:=h.low x (Ud hx);have JM:y<18446744073709551616:=h.low y (Ud hy);have T8:ls.headD 0=x:=by cases ls with
   |nil=>exact absurd rfl C1
   |cons y r=>simpa using hx
  have W6:bits .and .u64 (x:Int) 1=((x%2:Nat):Int):=by rw[show (1:Int)=((1:Nat):Int) from rfl,u64_and_nat x 1 J3 (by decide),nat_mask1]
  obtain ⟨m,hm⟩:∃m,x%2=m:=⟨_,rfl⟩;rw[hm] at W6;have hN:Q0i neg exp ls↔(y≠0/\k+1<=64/\m=1/\-65536<=exp/\exp<=65536):=by
   unfold Q0i;rw[Uq C1,T8,hm,Qpn Z2 hy,Z2]
  have X5:decide (Q0i neg exp ls)=(decide ((k:Int)+1<=64) && ((y:Int) != 0 && ((m:Int)==1 && (decide (-65536<=exp) && decide (exp<=65536))))):=by
   have e64:((k:Int)+1<=64)↔k+1<=64:=(by omega);have e1:((m:Int)==1)=decide (m=1):=by by_cases h:m=1 <;> simp[h] <;> omega
   have e2:((y:Int) != 0)=decide (y≠0):=by by_cases h:y=0 <;> simp[h]
   rw[e1,e2,Bool.eq_iff_iff];simp only[Xas,Xa3,e64];rw[hN];exact ⟨fun h=>⟨h.2.1,h.1,h.2.2⟩,fun h=>⟨h.2.1,h.1,h.2.2⟩⟩
  rw[X5];obtain ⟨b,o,N6,F3,E6⟩:=h.rd.at_ hx;obtain ⟨b2,o2,XL,hbl2,y9⟩:=h.rd.at_ hy;subst N6;injection XL with XL;injection XL with e1 e2;subst e1 e2;rw[Tu] at E6;have WP:∀O,(w.alloc O).cell? ⟨b,o,none⟩=some (.int .u64 (x:Int)):=fun O=>((F2 O).cell (p:=⟨b,o,none⟩) F3).trans E6;have VA:∀O,(w.alloc O).cell? ⟨b,o+k,none⟩=some (.int .u64 (y:Int)):=fun O=>((F2 O).cell (p:=⟨b,o+k,none⟩) F3).trans y9;clear X5 hN hm T8 C1 hx hy h0 E6 y9 h
  by_cases h64:(k:Int)+1<=64
  ·go_enter Tryz.func118,Tryz.ntmps118
   go_wp2_with fail
   all_goals
    go_ret;refine ⟨?_,F2 _⟩
    show Ending.returned (.bool _)=Ending.returned (.bool _)
    clear WP VA
    congr 2
   all_goals simp_all
   all_goals omega
  ·go_enter Tryz.func118,Tryz.ntmps118
   go_wp2_with fail
   all_goals
    go_ret;refine ⟨?_,F2 _⟩
    show Ending.returned (.bool _)=Ending.returned (.bool _)
    clear WP VA
    congr 2
   all_goals simp_all
   all_goals omega
end Go.Proofs.YtdilmfakkppgpaaGreatDoor
namespace Go.Proofs.YtdilmfakkppgpaaGreatDoor
namespace DecM
open WordsM
abbrev dec (n:Nat):LU:=Lib.decDigits n
def pd:Nat->Nat->LU
 |0,_=>[]
 |k+1,r=>pd k (r / 10)++[UInt8.ofNat (48+r%10)]
theorem Q2d {n:Nat} (h:n<10):dec n=[UInt8.ofNat (48+n)]:=by
 rw[dec,Lib.decDigits,dif_pos h]
theorem Q6t {n:Nat} (h:¬n<10):dec n=dec (n / 10)++[UInt8.ofNat (48+n%10)]:=by
 rw[dec,Lib.decDigits,dif_neg h]
theorem Qvb (q:Nat) (hq:0<q):∀k r,r<10^k->dec (q*10^k+r)=dec q++pd k r
 |0,r,h=>by
  obtain rfl:r=0:=by simpa using h
  simp[pd]
 |k+1,r,h=>by
  have hp:10<=q*10^(k+1):=by
   have h1:1<=10^k:=Tr (by decide);have h2:1*1<=q*10^k:=Nat.mul_le_mul hq h1;rw[Th,<-UN];omega
  have e1:(q*10^(k+1)+r) / 10=q*10^k+r / 10:=by
   rw[Th,<-UN];omega
  have e2:(q*10^(k+1)+r)%10=r%10:=by
   rw[Th,<-UN];omega
  have h3:r / 10<10^k:=by rw[Th] at h;omega
  rw[Q6t (by omega),e1,e2,Qvb q hq k (r / 10) h3,pd,UO]
theorem Qpo:∀k,pd k 0=List.replicate k 48
 |0=>rfl
 |k+1=>by
  rw[pd,Nat.zero_div,Qpo k,List.replicate_succ'];rfl
theorem Q42 (n:Nat):1<=(dec n).length:=by
 by_cases h:n<10
 ·rw[Q2d h];simp
 ·rw[Q6t h];simp
theorem dec_len (j:Nat):∀n,n<10^j->1<=j->(dec n).length<=j:=by
 induction j with
 |zero=>intro n _ h;omega
 |succ j ih=>
  intro n hn _
  by_cases h:n<10
  ·rw[Q2d h];simp
  ·rw[Q6t h];have hj:1<=j:=by
    rcases TQ j with rfl|h1
    ·simp at hn;omega
    ·exact h1
   have:=ih (n / 10) (by rw[Th] at hn;omega) hj;simp only[Uj,Xa1];omega
theorem Qvc:∀k r,1<=k->r<10^k->pd k r=List.replicate (k-(dec r).length) 48++dec r
 |0,_,h,_=>by omega
 |k+1,r,_,hr=>by
  by_cases h:r<10
  ·rw[Q2d h,pd,Xap h,TX h,Qpo];simp
  ·have hk:1<=k:=by
    rcases TQ k with rfl|h1
    ·simp at hr;omega
    ·exact h1
   rw[pd,Qvc k (r / 10) hk (by rw[Th] at hr;omega),Q6t h,UO];simp
def dv (l:LU):Nat:=l.foldl (fun a b=>10*a+(b.toNat-48)) 0
theorem Qvv (l:LU):∀a,l.foldl (fun a b=>10*a+(b.toNat-48)) a=a*10^l.length+dv l:=by
 induction l with
 |nil=>intro a;simp[dv]
 |cons c r ih=>
  intro a;have h1:=ih (10*a+(c.toNat-48));have h2:=ih (10*0+(c.toNat-48));simp only[List.foldl_cons,dv,Uz,Th] at h1 h2⊢;rw[h1,h2,Ti,Ti,UG 10 a,UN,UG 10 (10^r.length)];omega
theorem Qgj (l r:LU):dv (l++r)=dv l*10^r.length+dv r:=by
 rw[dv,List.foldl_append];exact Qvv r _
theorem Qju (l:LU) (c:UInt8):dv (l++[c])=10*dv l+(c.toNat-48):=by
 rw[Qgj];simp[dv];omega
theorem Q43 (d:Nat) (h:d<10):(UInt8.ofNat (48+d)).toNat=48+d:=by
 rw[Xbh];omega
theorem Qpp (n:Nat):dv (dec n)=n:=by
 induction n using Nat.strongRecOn with
 |ind n ih=>
  by_cases h:n<10
  ·rw[Q2d h];simp[dv];omega
  ·rw[Q6t h,Qju,ih (n / 10) (by omega),Q43 _ (TG _ (by decide))];omega
def Qdr (l:LU):Prop:=∀c∈l,48<=c.toNat/\c.toNat<=57
theorem Qf0 (l:LU) (h:Qdr l):dv l<10^l.length:=by
 rcases List.eq_nil_or_concat l with rfl|⟨r,c,rfl⟩
 ·simp[dv]
 ·rw[List.concat_eq_append] at h⊢;have h1:=Qf0 r fun x hx=>h x (by simp[hx]);have h2:=h c (by simp);rw[Qju,Uj,Xa1,Th];omega
termination_by l.length
decreasing_by simp_all
theorem Q60 (n:Nat):Qdr (dec n):=by
 induction n using Nat.strongRecOn with
 |ind n ih=>
  intro c hc
  by_cases h:n<10
  ·rw[Q2d h,Uy] at hc;subst hc;rw[Q43 n h];omega
  ·rw[Q6t h] at hc;rcases UY.1 hc with hc|hc
   ·exact ih (n / 10) (by omega) c hc
   ·rw[Uy] at hc;subst hc;rw[Q43 _ (TG _ (by decide))];omega
theorem Qlj (n:Nat) (hn:n≠0):(dec n).headD 0≠48:=by
 induction n using Nat.strongRecOn with
 |ind n ih=>
  by_cases h:n<10
  ·rw[Q2d h]
   show UInt8.ofNat (48+n)≠48
   intro e;have:=congrArg UInt8.toNat e;rw[Q43 n h] at this;have h2:(48:UInt8).toNat=48:=rfl;omega
  ·rw[Q6t h];have h1:=ih (n / 10) (by omega) (by omega);have h2:=Q42 (n / 10);cases hd:dec (n / 10) with
   |nil=>rw[hd] at h2;simp at h2
   |cons x r=>rw[hd] at h1;simpa using h1
def digN:LU->Nat
 |[]=>0
 |c::r=>if 48<=c.toNat/\c.toNat<=57 then digN r+1 else 0
theorem Q8a:∀l,digN l<=l.length
 |[]=>Ug _
 |c::r=>by
  have:=Q8a r;simp only[digN,Uz]
  split <;> omega
theorem Qgk:∀(l:LU) (k:Nat),k<=l.length->(∀j c,l[j]?=some c->j<k->48<=c.toNat/\c.toNat<=57)->(∀c,l[k]?=some c->¬(48<=c.toNat/\c.toNat<=57))->digN l=k
 |[],k,h,_,_=>by simp at h;simp[digN,h]
 |c::r,0,_,_,h3=>by
  have:=h3 c rfl;simp[digN,this]
 |c::r,k+1,h1,h2,h3=>by
  have hc:=h2 0 c rfl (by omega);have:=Qgk r k (by simpa using h1) (fun j x hx hj=>h2 (j+1) x (by simpa using hx) (by omega)) (fun x hx=>h3 x (by simpa using hx));simp[digN,hc,this]
theorem Q59:∀l:LU,Qdr (l.take (digN l))
 |[]=>fun c hc=>by simp at hc
 |c::r=>by
  simp only[digN]
  split
  ·rename_i h;intro x hx;rw[List.take_succ_cons] at hx;rcases UF.1 hx with rfl|hx
   ·exact h
   ·exact Q59 r x hx
  ·intro x hx;simp at hx
theorem Qf1 (l r:LU) (h:Qdr l):digN (l++r)=l.length+digN r:=by
 induction l with
 |nil=>simp
 |cons c l ih=>
  have h1:=h c (by simp);have h2:=ih fun x hx=>h x (by simp[hx]);simp[digN,h1,h2];omega
def Q15:LU->Bool × LU
 |[]=>(false,[])
 |c::r=>if c=45 then (true,r) else (false,c::r)
def Q9u:LU->Option Int
 |[]=>some 0
 |c::r=>if c≠112 then none else
  if (Q15 r).2.length<1∨6<(Q15 r).2.length∨digN (Q15 r).2<(Q15 r).2.length∨(Q15 r).2.headD 0=48 then none
  else some (if (Q15 r).1=true then -(dv (Q15 r).2:Int) else (dv (Q15 r).2:Int))
def form (s:LU):Option (Bool × Nat × Int):=
 if digN (Q15 s).2<1∨1300<digN (Q15 s).2∨((Q15 s).2.headD 0=48/\((Q15 s).1=true∨1<(Q15 s).2.length)) then none
 else match Q9u ((Q15 s).2.drop (digN (Q15 s).2)) with
  |none=>none
  |some e=>some ((Q15 s).1,dv ((Q15 s).2.take (digN (Q15 s).2)),e)
theorem Qgl (l:LU) (h:Qdr l) (r:LU) (hl:l≠[]):Q15 (l++r)=(false,l++r):=by
 cases l with
 |nil=>exact absurd rfl hl
 |cons c l=>
  have h1:=h c (by simp);have h2:c≠45:=by
   rintro rfl;have:(45:UInt8).toNat=45:=rfl;omega
  simp[Q15,h2]
def Qa1 (e:Int):LU:=if e=0 then [] else 112::(if e<0 then 45::dec e.natAbs else dec e.natAbs)
theorem Qpq (e:Int) (h: -65536<=e) (h2:e<=65536):Q9u (Qa1 e)=some e:=by
 unfold Qa1
 by_cases h0:e=0
 ·rw[Us h0,h0];rfl
 ·rw[Uq h0];have hna:e.natAbs≠0:=by omega
  have V7:=Q42 e.natAbs;have JD:=dec_len 6 e.natAbs (by have:(10:Nat)^6=1000000:=rfl;omega) (by decide);have hd:=Qf1 (dec e.natAbs) [] (Q60 _);rw[TV] at hd;simp only[digN,Tu] at hd;have hh:=Qlj e.natAbs hna
  by_cases P6:e<0
  ·rw[Us P6];have hm:Q15 (45::dec e.natAbs)=(true,dec e.natAbs):=rfl;rw[Q9u,Uq (by simp),hm];simp only;rw[Uq (by rintro (h|h|h|h) <;> first|omega|exact hh h),Us trivial,Qpp]
   congr 1;omega
  ·rw[Uq P6];have hm:Q15 (dec e.natAbs)=(false,dec e.natAbs):=by
    have:=Qgl (dec e.natAbs) (Q60 _) [] (fun e'=>by rw[e'] at V7;simp at V7);rwa[TV] at this
   rw[Q9u,Uq (by simp),hm];simp only;rw[Uq (by rintro (h|h|h|h) <;> first|omega|exact hh h),Uq (by simp),Qpp]
   congr 1;omega
theorem Qpr (e:Int):digN (Qa1 e)=0:=by
 unfold Qa1
 split
 ·rfl
 ·rw[digN,Uq];decide
def Q2s (neg:Bool) (v:Nat) (e:Int):LU:=(if neg=true then [45] else [])++(dec v++Qa1 e)
theorem Qps (neg:Bool) (v:Nat) (e:Int) (h: -65536<=e) (h2:e<=65536) (hv:v<10^1300) (h0:v=0->neg=false/\e=0):form (Q2s neg v e)=some (neg,v,e):=by
 have V7:=Q42 v;have JD:=dec_len 1300 v hv (by decide);have C1:dec v≠[]:=fun e'=>by rw[e'] at V7;simp at V7
 have hm:Q15 (Q2s neg v e)=(neg,dec v++Qa1 e):=by
  cases neg
  ·exact Qgl (dec v) (Q60 v) (Qa1 e) C1
  ·rfl
 have hd:=Qf1 (dec v) (Qa1 e) (Q60 v);rw[Qpr,Tu] at hd;unfold form;rw[hm];simp only;rw[hd,List.drop_left,List.take_left,Qpq e h h2,Qpp,Uq];rintro (h3|h3|⟨h3,h4⟩)
 ·omega
 ·omega
 ·have hh:(dec v++Qa1 e).headD 0=(dec v).headD 0:=by
   cases hc:dec v with
   |nil=>exact absurd hc C1
   |cons x r=>rfl
  rw[hh] at h3
  by_cases C9:v=0
  ·obtain ⟨h5,h6⟩:=h0 C9;subst C9;subst h6;rcases h4 with h4|h4
   ·rw[h5] at h4;cases h4
   ·rw[Q2d (by decide)] at h4;simp[Qa1] at h4
  ·exact Qlj v C9 h3
end DecM
end Go.Proofs.YtdilmfakkppgpaaGreatDoor
namespace Go.Proofs.YtdilmfakkppgpaaGreatDoor
open Go.RowKit WordsM
def Qjv (b:UInt8):Prop:=48<=b.toNat/\b.toNat<=57
def Qxa (s:ByteArray) (k:Nat):Prop:=k<=s.size/\(∀j (h:j<s.size),j<k->Qjv (s[j]'h))/\∀h:k<s.size,¬Qjv (s[k]'h)
theorem Qpt (s:ByteArray) (w:World) (hs:s.size<=281474976710656):
 Calls Tryz.prog 234 #[.string s] w fun e w'=>(∃k:Nat,e=.returned (.int .i64 (k:Int))/\Qxa s k)/\Bw w w':=by
 go_enter Tryz.func234,Tryz.ntmps234
 go_wp2_with fail
 go_step3
 go_wp2_with fail
 go_step3
 go_wp2_with fail
 go_loopw [3] (fun v wr=>∃k:Nat,v=.int .i64 (k:Int)/\k<=s.size/\(∀j (h:j<s.size),j<k->Qjv (s[j]'h))/\Bw w wr) (fun v _=>s.size-(intOf v).toNat)
 case atStart=>exact ⟨0,rfl,Uu _,fun j _ h=>absurd h (Xaf _),Uf _ _⟩
 case round=>
  obtain ⟨k,rfl,hk,P3,hb⟩:=hrel;have HP:=Xh2 P3 hb;clear P3 hb
  by_cases B0:k<s.size
  ·have E0:(k:Int)<(s.size:Int):=by omega
   by_cases h1:(s[k]'B0).toNat<48
   ·have We:((s[k]'B0).toNat:Int)<48:=by omega
    go_wp2_with fail
    first|rw[Xae]|skip
    go_ret;exact ⟨⟨k,rfl,hk,(Xo0 HP),fun _ h=>by have:=h.1;omega⟩,(Xe1 HP)⟩
   ·have We:¬((s[k]'B0).toNat:Int)<48:=by omega
    by_cases h2:57<(s[k]'B0).toNat
    ·have Jb:57<((s[k]'B0).toNat:Int):=by omega
     go_wp2_with fail
     first|rw[Xae]|skip
     go_ret;exact ⟨⟨k,rfl,hk,(Xo0 HP),fun _ h=>by have:=h.2;omega⟩,(Xe1 HP)⟩
    ·have Jb:¬57<((s[k]'B0).toNat:Int):=by omega
     go_wp2_with fail
     refine ⟨⟨k+1,by simp,by omega,fun j h hj=>?_,(Xe1 HP)⟩,by simp only[intOf];omega⟩
     by_cases JI:j=k
     ·subst JI;exact ⟨by omega,by omega⟩
     ·exact (Xo0 HP) j h (by omega)
  ·obtain rfl:k=s.size:=(by omega);have E0:¬((s.size:Int)<(s.size:Int)):=by omega
   go_wp2_with fail
   first|rw[Xae]|skip
   go_ret;exact ⟨⟨s.size,rfl,hk,(Xo0 HP),fun h=>absurd h B0⟩,(Xe1 HP)⟩
end Go.Proofs.YtdilmfakkppgpaaGreatDoor
namespace Go.Proofs.YtdilmfakkppgpaaGreatDoor
open Go.RowKit WordsM DecM
def cnt (l:LU) (at_ most:Nat):Int:=if digN l<1∨most<digN l∨(l.headD 0=48/\1<digN l) then -1 else ((at_+digN l:Nat):Int)
theorem Q6u (s:ByteArray) (j:Nat) (h:j<s.size):s.data.toList[j]?=some (s[j]'h):=by
 rw[UW];exact UD h
theorem Qbf {s:ByteArray} {at_ k:Nat} (h1:at_<=k) (h2:k<=s.size) (hd:∀j (h:j<s.size),at_<=j->j<k->Qjv (s[j]'h)) (hs:∀h:k<s.size,¬Qjv (s[k]'h)):digN (s.data.toList.drop at_)=k-at_:=by
 have hl:s.data.toList.length=s.size:=rfl
 apply Qgk
 ·rw[Te,hl];omega
 ·intro j c hc hj;rw[Xad] at hc;have hjs:at_+j<s.size:=by omega
  rw[Q6u s _ hjs] at hc;injection hc with hc;subst hc;exact hd _ hjs (by omega) (by omega)
 ·intro c hc;rw[Xad,show at_+(k-at_)=k by omega] at hc;have Ki:k<s.size:=by
   rw[<-hl];exact (Um.1 hc).1
  rw[Q6u s _ Ki] at hc;injection hc with hc;subst hc;exact hs Ki
theorem Qbw {s:ByteArray} {at_:Nat} (h:at_<s.size):(s.data.toList.drop at_).headD 0=s[at_]'h:=by
 have h1:=Q6u s at_ h;rw[<-List.head?_drop] at h1;rw[List.headD_eq_head?_getD,h1];rfl
theorem Qgm (s:ByteArray) (at_ most:Nat) (w:World) (hs:s.size<=281474976710656) (R1:at_<=s.size) (E7:most<=1000000):
 Calls Tryz.prog 160 #[.string s,.int .i64 (at_:Int),.int .i64 (most:Int)] w fun e w'=>e=.returned (.int .i64 (cnt (s.data.toList.drop at_) at_ most))/\w=w':=by
 go_enter Tryz.func160,Tryz.ntmps160
 go_wp2_with fail
 go_loopw [7] (fun v wr=>∃k:Nat,v=.int .i64 (k:Int)/\at_<=k/\k<=s.size/\(∀j (h:j<s.size),at_<=j->j<k->Qjv (s[j]'h))/\w=wr) (fun v _=>s.size-(intOf v).toNat)
 case atStart=>exact ⟨at_,rfl,Ug _,R1,fun j _ h h2=>by omega,rfl⟩
 case round=>
  obtain ⟨k,rfl,hk,Ki,P3,rfl⟩:=hrel;rcases (show (∃h:k<s.size,48<=(s[k]'h).toNat/\(s[k]'h).toNat<=57)∨(¬k<s.size)∨(∃h:k<s.size,(s[k]'h).toNat<48)∨∃h:k<s.size,57<(s[k]'h).toNat from by
   by_cases B0:k<s.size
   ·rcases Nat.lt_or_ge (s[k]'B0).toNat 48 with h|h
    ·exact .inr (.inr (.inl ⟨B0,h⟩))
    ·rcases Nat.lt_or_ge 57 (s[k]'B0).toNat with h2|h2
     ·exact .inr (.inr (.inr ⟨B0,h2⟩))
     ·exact .inl ⟨B0,h,h2⟩
   ·exact .inr (.inl B0)) with ⟨B0,h1,h2⟩|B0|⟨B0,h1⟩|⟨B0,h1⟩
  ·have E0:(k:Int)<(s.size:Int):=(by omega);have We:(48:Int)<=((s[k]'B0).toNat:Int):=(by omega);have Jb:((s[k]'B0).toNat:Int)<=57:=(by omega);have T6:∀j (h:j<s.size),at_<=j->j<k+1->Qjv (s[j]'h):=fun j h h3 h4=>by
    by_cases JI:j=k
    ·subst JI;exact ⟨by omega,by omega⟩
    ·exact P3 j h h3 (by omega)
   have HX:=Ua T6;clear T6 P3
   go_wp2_with fail
   exact ⟨⟨k+1,by simp,by omega,by omega,HX.out,trivial⟩,by simp only[intOf];omega⟩
  have E0:¬((k:Int)<(s.size:Int)):=by omega
  have HD:=Ua (Qbf hk Ki P3 (fun h=>absurd h B0))
  rotate_left
  have E0:(k:Int)<(s.size:Int):=by omega
  have We:¬(48:Int)<=((s[k]'B0).toNat:Int):=by omega
  have HD:=Ua (Qbf hk Ki P3 (fun _ h=>by have:=h.1;omega))
  rotate_left
  have E0:(k:Int)<(s.size:Int):=by omega
  have We:(48:Int)<=((s[k]'B0).toNat:Int):=by omega
  have Jb:¬((s[k]'B0).toNat:Int)<=57:=by omega
  have HD:=Ua (Qbf hk Ki P3 (fun _ h=>by have:=h.2;omega))
  all_goals
   clear P3
   by_cases V8:k=at_
   ·subst V8;have hc:cnt (s.data.toList.drop k) k most= -1:=(by { unfold cnt;rw[HD.out,Us (.inl (by omega))] });have HC:=Ua hc;clear hc HD
    go_wp2_with fail
    go_ret;exact ⟨by rw[HC.out];rfl,rfl⟩
   ·have hd0':((k:Int)==(at_:Int))=false:=(by { rw[Ui];omega });have has:at_<s.size:=(by omega);have HH:=Ua (Qbw has)
    by_cases hm:most<k-at_
    ·have K7:(most:Int)<(k:Int)-(at_:Int):=(by omega);have hc:cnt (s.data.toList.drop at_) at_ most= -1:=(by { unfold cnt;rw[HD.out,Us (.inr (.inl hm))] });have HC:=Ua hc;clear hc HD HH
     go_wp2_with fail
     go_ret;exact ⟨by rw[HC.out];rfl,rfl⟩
    ·have K7:¬(most:Int)<(k:Int)-(at_:Int):=by omega
     by_cases Q3:(s[at_]'has).toNat=48
     ·have QC:(((s[at_]'has).toNat:Int)==48)=true:=(by simp[Q3]);have h48b:s[at_]'has=48:=TM.1 Q3
      by_cases h1:1<k-at_
      ·have We:(1:Int)<(k:Int)-(at_:Int):=(by omega);have hc:cnt (s.data.toList.drop at_) at_ most= -1:=(by { unfold cnt;rw[HD.out,HH.out,Us (.inr (.inr ⟨h48b,h1⟩))] });have HC:=Ua hc;clear hc HD HH
       go_wp2_with fail
       go_ret;exact ⟨by rw[HC.out];rfl,rfl⟩
      ·have We:¬(1:Int)<(k:Int)-(at_:Int):=(by omega);have hc:cnt (s.data.toList.drop at_) at_ most=(k:Int):=(by { unfold cnt;rw[HD.out,HH.out,Uq (by rintro (h|h|h) <;> omega)];omega });have HC:=Ua hc;clear hc HD HH
       go_wp2_with fail
       go_ret;exact ⟨by rw[HC.out];rfl,rfl⟩
     ·have QC:(((s[at_]'has).toNat:Int)==48)=false:=(by { rw[Ui];omega });have h48b:s[at_]'has≠48:=fun e=>Q3 (by rw[e];rfl);have hc:cnt (s.data.toList.drop at_) at_ most=(k:Int):=(by { unfold cnt;rw[HD.out,HH.out,Uq (by rintro (h|h|⟨h,_⟩) <;> first|omega|exact h48b h)];omega });have HC:=Ua hc;clear hc HD HH
      go_wp2_with fail
      go_ret;exact ⟨by rw[HC.out];rfl,rfl⟩
end Go.Proofs.YtdilmfakkppgpaaGreatDoor
