/- Part 7 of the proof of LawParseMeans: NumC, RefI, RefJ, DecM, DigA, RefL, Flat, RefM1, RefK. Condition: as each theorem says; none at the end. -/
import Derived.Sort.QuietTacIn
import Derived.RangeFuncCalls
import Derived.BigRegion
import Derived.Test.YtdilmfakkppgpaaGreatDoorPkParseMeans06
set_option maxRecDepth 100000
set_option maxHeartbeats 16000000
namespace Go.Proofs.YtdilmfakkppgpaaGreatDoor
open Go.RowKit WordsM
def Q56 (neg:Bool) (v:Nat) (exp:Int) (neg':Bool) (exp':Int) (L:List Nat) (er:Int):Prop:=
 (v=0/\neg'=false/\exp'=0/\L=[]/\er=0)∨∃z:Nat,Qhq v z/\
   (((65536<exp∨exp< -65536-(z:Int)∨¬Q0h neg (exp+z) (dig (2^64) (v / 2^z)))/\neg'=false/\exp'=0/\L=[]/\er=2)∨
    (exp<=65536/\-65536-(z:Int)<=exp/\Q0h neg (exp+z) (dig (2^64) (v / 2^z))/\neg'=neg/\exp'=exp+z/\L=dig (2^64) (v / 2^z)/\er=0))
theorem Q3r (neg:Bool) (a:Option Addr) (n c:Nat) (ls:List Nat) (exp:Int) (w:World) (h:WordsIn w a n c ls) (hT:Q24 w) (hn:n<=100000) (he: -1000000000<=exp) (he2:exp<=1000000000):
 Calls Tryz.prog 47 #[.bool neg,.slice a n c,.int .i64 exp] w fun e w'=>∃neg' exp' a' n' c' L er,e=.returned (.tuple #[.agg #[.bool neg',.int .i64 exp',.slice a' n' c'],.int .i64 er])/\Q56 neg (val (2^64) ls) exp neg' exp' L er/\Q2g w w' a' n' c' L/\Below w.heap.size w w':=by
 have hbit:=fun W (hb:Below w.heap.size w W)=>Qjq a n c ls W (h.step hb) (by omega)
 have hB0:∀o,Below w.heap.size w (w.alloc o):=fun o=>(Below.refl _ _).alloc (Nat.le_refl _) _
 by_cases h0:val (2^64) ls=0
 ·have HB:=Xh2 hbit h0
  clear hbit h0 h hT he he2
  go_enter Tryz.func47,Tryz.ntmps47
  go_upto_if 12 with (go_at_call_of 89 a;refine ((Xo0 HB) _ (hB0 _)).mono ?_;rintro e w1 ⟨⟨k,rfl,hk⟩,hb1⟩;obtain rfl:k=0:=hk.2 (Xe1 HB);have HB1:=Lib.hid hb1;clear hb1)
  have hx:=Qan w false 0 none 0 0 41
  have hf:∀i,w1.frozen? ⟨w.heap.size,i,none⟩=false:=fun i=>(HB1.out.frozen (p:=⟨w.heap.size,i,none⟩) hx.1).trans (frozen_of_row _ _ _ _ _ (heap_alloc_new _ _))
  have hc0:w1.cell? ⟨w.heap.size,0,none⟩=some (.bool false):=(HB1.out.cell (p:=⟨w.heap.size,0,none⟩) hx.1).trans hx.2.1
  have hc1:w1.cell? ⟨w.heap.size,1,none⟩=some (.int .i64 0):=(HB1.out.cell (p:=⟨w.heap.size,1,none⟩) hx.1).trans hx.2.2.1
  have hc2:w1.cell? ⟨w.heap.size,2,none⟩=some (.slice none 0 0):=(HB1.out.cell (p:=⟨w.heap.size,2,none⟩) hx.1).trans hx.2.2.2
  have hf0:=hf 0
  have hf1:=hf 1
  have hf2:=hf 2
  have hd1:(w1.setCell ⟨w.heap.size,0,none⟩ (.bool false)).cell? ⟨w.heap.size,1,none⟩=some (.int .i64 0):=(World.cell?_setCell_other _ _ _ _ (by simp)).trans hc1
  have hd2:((w1.setCell ⟨w.heap.size,0,none⟩ (.bool false)).setCell ⟨w.heap.size,1,none⟩ (.int .i64 0)).cell? ⟨w.heap.size,2,none⟩=some (.slice none 0 0):=(World.cell?_setCell_other _ _ _ _ (by simp)).trans ((World.cell?_setCell_other _ _ _ _ (by simp)).trans hc2)
  clear hf hx
  go_wp2_with fail
  have hb3:Below w.heap.size w (((w1.setCell ⟨w.heap.size,0,none⟩ (.bool false)).setCell ⟨w.heap.size,1,none⟩ (.int .i64 0)).setCell ⟨w.heap.size,2,none⟩ (.slice none 0 0)):=(((Below.next0 (hB0 _) HB1.out).setCell (p:=⟨w.heap.size,0,none⟩) (Nat.le_refl _) _).setCell (p:=⟨w.heap.size,1,none⟩) (Nat.le_refl _) _).setCell (p:=⟨w.heap.size,2,none⟩) (Nat.le_refl _) _
  have k0:(((w1.setCell ⟨w.heap.size,0,none⟩ (.bool false)).setCell ⟨w.heap.size,1,none⟩ (.int .i64 0)).setCell ⟨w.heap.size,2,none⟩ (.slice none 0 0)).cell? ⟨w.heap.size,0,none⟩=some (.bool false):=(World.cell?_setCell_other _ _ _ _ (by simp)).trans ((World.cell?_setCell_other _ _ _ _ (by simp)).trans (World.cell?_setCell_same' _ _ _ (by rw[hc0];rfl)))
  have k1:(((w1.setCell ⟨w.heap.size,0,none⟩ (.bool false)).setCell ⟨w.heap.size,1,none⟩ (.int .i64 0)).setCell ⟨w.heap.size,2,none⟩ (.slice none 0 0)).cell? ⟨w.heap.size,1,none⟩=some (.int .i64 0):=(World.cell?_setCell_other _ _ _ _ (by simp)).trans (World.cell?_setCell_same' _ _ _ (by rw[hd1];rfl))
  have k2:(((w1.setCell ⟨w.heap.size,0,none⟩ (.bool false)).setCell ⟨w.heap.size,1,none⟩ (.int .i64 0)).setCell ⟨w.heap.size,2,none⟩ (.slice none 0 0)).cell? ⟨w.heap.size,2,none⟩=some (.slice none 0 0):=World.cell?_setCell_same' _ _ _ (by rw[hd2];rfl)
  generalize (((w1.setCell ⟨w.heap.size,0,none⟩ (.bool false)).setCell ⟨w.heap.size,1,none⟩ (.int .i64 0)).setCell ⟨w.heap.size,2,none⟩ (.slice none 0 0))=W3 at*
  refine ⟨rfl,.tuple #[.agg #[.bool false,.int .i64 0,.slice none 0 0],.int .i64 0],by simp[results,go_sem,k0,k1,k2],false,0,none,0,0,[],0,rfl,.inl ⟨(Xe1 HB),rfl,rfl,rfl,rfl⟩,Q2g.nil_ _ _,hb3⟩
 ·have hzr:=fun W (hb:Below w.heap.size w W)=>Qeq a n c ls W (h.step hb) (hT.step hb) (by omega) h0
  have hdn:=fun W (hb:Below w.heap.size w W) z hz=>Qi2 a n c ls z W (h.step hb) hn hz
  have HB:=Xh4 hbit hzr hdn h0
  clear hbit hzr hdn h0 h hT
  by_cases hx1:65536<exp
  ·go_enter Tryz.func47,Tryz.ntmps47
   go_upto_if 12 with (go_at_call_of 89 a;refine ((Xo0 HB) _ (hB0 _)).mono ?_;rintro e w1 ⟨⟨k,rfl,hk⟩,hb1⟩;have hk0:((k:Int)==0)=false:=by { rw[beq_eq_false_iff_ne];intro e;exact (Xe3 HB) (hk.1 (by omega)) };have HB1:=Lib.hid hb1;clear hb1 hk)
   go_upto_if 23 with (go_at_call_of 90 a;refine ((Xo1 HB) _ (Below.next0 (hB0 _) HB1.out)).mono ?_;rintro e w2 ⟨⟨z,rfl,hz,hzl⟩,hb2⟩;have HB2:=Xh3 hz hzl hb2;clear hb2 hz hzl)
   have hl0:=(Qan w false 0 none 0 0 41).1
   have hN:=((Q04.new w (.bool false) (.int .i64 0) (.slice none 0 0) 41).step HB1.out hl0).step (Xe2 HB2) (Nat.lt_of_lt_of_le hl0 HB1.out.size)
   have hbw:Below w.heap.size w w2:=Below.next0 (Below.next0 (hB0 _) HB1.out) (Xe2 HB2)
   have hS:=hN.store (.bool false) (.int .i64 0) (.slice none 0 0)
   have hL:=Q04.below hbw (Nat.le_refl _) (.bool false) (.int .i64 0) (.slice none 0 0)
   have HS:=Xh2 hS hL
   have hc0:=hN.c0
   have hc1:=hN.c1
   have hc2:=hN.c2
   have hf0:=hN.f0
   have hf1:=hN.f1
   have hf2:=hN.f2
   have hd1:=hN.d1 (.bool false)
   have hd2:=hN.d2 (.bool false) (.int .i64 0)
   clear hN hbw hS hL hl0
   go_wp2_with fail
   have k0:=(Xo0 HS).c0
   have k1:=(Xo0 HS).c1
   have k2:=(Xo0 HS).c2
   have hb3:=(Xe1 HS)
   clear HS hd1 hd2
   generalize (((w2.setCell ⟨w.heap.size,0,none⟩ (.bool false)).setCell ⟨w.heap.size,1,none⟩ (.int .i64 0)).setCell ⟨w.heap.size,2,none⟩ (.slice none 0 0))=W3 at*
   refine ⟨rfl,.tuple #[.agg #[.bool false,.int .i64 0,.slice none 0 0],.int .i64 2],by simp[results,go_sem,k0,k1,k2],false,0,none,0,0,[],2,rfl,.inr ⟨z,(Xo0 HB2),.inl ⟨.inl hx1,rfl,rfl,rfl,rfl⟩⟩,Q2g.nil_ _ _,hb3⟩
  ·go_enter Tryz.func47,Tryz.ntmps47
   go_upto_if 12 with (go_at_call_of 89 a;refine ((Xo0 HB) _ (hB0 _)).mono ?_;rintro e w1 ⟨⟨k,rfl,hk⟩,hb1⟩;have hk0:((k:Int)==0)=false:=by { rw[beq_eq_false_iff_ne];intro e;exact (Xe3 HB) (hk.1 (by omega)) };have HB1:=Lib.hid hb1;clear hb1 hk)
   go_upto_if 23 with (go_at_call_of 90 a;refine ((Xo1 HB) _ (Below.next0 (hB0 _) HB1.out)).mono ?_;rintro e w2 ⟨⟨z,rfl,hz,hzl⟩,hb2⟩;have HB2:=Xh3 hz hzl hb2;clear hb2 hz hzl)
   obtain ⟨y,hy⟩:∃y:Int,-65536-(z:Int)=y:=⟨_,rfl⟩
   have hzw:wrap64 (-65536-(z:Int))=y:=by have:=(Xo1 HB2);rw[<-hy];unfold wrap64;omega
   have HY:=Lib.hid hy
   clear hy
   by_cases hx2:exp<y
   ·have hx1':exp<=65536:=by omega
    have hl0:=(Qan w false 0 none 0 0 41).1
    have hN:=((Q04.new w (.bool false) (.int .i64 0) (.slice none 0 0) 41).step HB1.out hl0).step (Xe2 HB2) (Nat.lt_of_lt_of_le hl0 HB1.out.size)
    have hbw:Below w.heap.size w w2:=Below.next0 (Below.next0 (hB0 _) HB1.out) (Xe2 HB2)
    have hS:=hN.store (.bool false) (.int .i64 0) (.slice none 0 0)
    have hL:=Q04.below hbw (Nat.le_refl _) (.bool false) (.int .i64 0) (.slice none 0 0)
    have HS:=Xh2 hS hL
    have hc0:=hN.c0
    have hc1:=hN.c1
    have hc2:=hN.c2
    have hf0:=hN.f0
    have hf1:=hN.f1
    have hf2:=hN.f2
    have hd1:=hN.d1 (.bool false)
    have hd2:=hN.d2 (.bool false) (.int .i64 0)
    clear hN hbw hS hL hl0
    go_wp2_with fail
    have k0:=(Xo0 HS).c0
    have k1:=(Xo0 HS).c1
    have k2:=(Xo0 HS).c2
    have hb3:=(Xe1 HS)
    clear HS hd1 hd2 hzw hx1'
    generalize (((w2.setCell ⟨w.heap.size,0,none⟩ (.bool false)).setCell ⟨w.heap.size,1,none⟩ (.int .i64 0)).setCell ⟨w.heap.size,2,none⟩ (.slice none 0 0))=W3 at k0 k1 k2 hb3⊢
    refine ⟨rfl,.tuple #[.agg #[.bool false,.int .i64 0,.slice none 0 0],.int .i64 2],by simp[results,go_sem,k0,k1,k2],false,0,none,0,0,[],2,rfl,.inr ⟨z,(Xo0 HB2),.inl ⟨.inr (.inl (by rw[HY.out];exact hx2)),rfl,rfl,rfl,rfl⟩⟩,Q2g.nil_ _ _,hb3⟩
   ·have hx2':y<=exp:=by omega
    have hzl:(z:Nat)<=100000000:=by have:=(Xo1 HB2);omega
    have hbw:Below w.heap.size w w2:=Below.next0 (Below.next0 (hB0 _) HB1.out) (Xe2 HB2)
    have HDN:=Xh2 ((Xo2 HB) w2 hbw z hzl) hbw
    clear hbw hzl
    have hl0:=Q0f w (.cells #[.bool false,.int .i64 0,.slice none 0 0] 41)
    have hN:=((Q04.new w (.bool false) (.int .i64 0) (.slice none 0 0) 41).step HB1.out hl0).step (Xe2 HB2) (Nat.lt_of_lt_of_le hl0 HB1.out.size)
    have HN:=Xh2 hN (Nat.lt_of_lt_of_le (Nat.lt_of_lt_of_le hl0 HB1.out.size) (Xe2 HB2).size)
    clear hN hl0
    have he3: -9223372036854775808<=exp+(z:Int):=by omega
    have he4:exp+(z:Int)<=9223372036854775807:=by have:=(Xo1 HB2);omega
    by_cases hnum:Q0h neg (exp+(z:Int)) (dig (2^64) (val (2^64) ls / 2^z))
    ·have hdec:=decide_eq_true hnum
     have HNU:=Lib.hid hnum
     clear hnum
     go_wp2_with (first
      |(go_at_call_of 91 a;refine (Xo0 HDN).mono ?_;rintro e w3 ⟨a',n',c',rfl,hW,hb3⟩;have HFR:=Lib.hid (hW.lower (Xe1 HDN).size).new;have HB3:=Xh2 hW.toWordsIn hb3;clear hW hb3)
      |(refine (Q28 neg (exp+(z:Int)) a' n' c' _ _ ((Xo0 HB3).step ((Below.refl _ _).alloc (Nat.le_refl _) _)) he3 he4 (by have:=(Xo0 HB3).cap;have:=(Xo0 HB3).most;omega)).mono ?_;rintro r w4 ⟨hr,hb4⟩;rw[hdec] at hr;subst hr;
        have hB4:=(Below.next0 (Below.next0 (Xe1 HB3) ((Below.refl _ _).alloc (Nat.le_refl _) (.cells #[.bool neg,.int .i64 (exp+(z:Int)),.slice a' n' c'] 41))) hb4);
        have hRN:=(Xo0 HN).step hB4 (Xe1 HN);
        have hGN:=(Q04.new w3 (.bool neg) (.int .i64 (exp+(z:Int))) (.slice a' n' c') 41).step hb4 (Q0f _ _);
        have hc0:=hRN.c0;have hc1:=hRN.c1;have hc2:=hRN.c2;have hf0:=hRN.f0;have hf1:=hRN.f1;have hf2:=hRN.f2;have hd1:=hRN.d1 (.bool neg);have hd2:=hRN.d2 (.bool neg) (.int .i64 (exp+(z:Int)));
        have hg0:=hGN.c0;have hg1:=hGN.c1;have hg2:=hGN.c2;
        have HB4:=Xh3 hRN (Below.next0 (Xe1 HDN) hB4) (((Xo0 HB3).step ((Below.refl _ _).alloc (Nat.le_refl _) (.cells #[.bool neg,.int .i64 (exp+(z:Int)),.slice a' n' c'] 41))).step hb4);clear hRN hGN hB4 hb4))
     have hS:=(Xo0 HB4).store (.bool neg) (.int .i64 (exp+(z:Int))) (.slice a' n' c')
     have k0:=hS.c0
     have k1:=hS.c1
     have k2:=hS.c2
     have hb5:=Q04.below (Xo1 HB4) (Nat.le_refl _) (.bool neg) (.int .i64 (exp+(z:Int))) (.slice a' n' c')
     have hW5:WordsIn _ a' n' c' (dig (2^64) (val (2^64) ls / 2^z)):=⟨(Xe2 HB4).len,(Xe2 HB4).cap,(Xe2 HB4).most,(Xe2 HB4).low,((Xe2 HB4).rd.store3 (Xo0 HB4) (fun _=>by simp[nv]) (fun _=>by simp[nv]) (fun _=>by simp[nv]) (.bool neg) (.int .i64 (exp+(z:Int))) (.slice a' n' c')).more (Q14 _ _ _ _ _)⟩
     clear hS hc0 hc1 hc2 hf0 hf1 hf2 hd1 hd2 hg0 hg1 hg2 hzw
     generalize World.setCell _ _ _=W5 at k0 k1 k2 hb5 hW5⊢
     refine ⟨rfl,.tuple #[.agg #[.bool neg,.int .i64 (exp+(z:Int)),.slice a' n' c'],.int .i64 0],by simp[results,go_sem,k0,k1,k2],neg,exp+(z:Int),a',n',c',_,0,rfl,.inr ⟨z,(Xo0 HB2),.inr ⟨hx1,by rw[HY.out];exact hx2',HNU.out,rfl,rfl,rfl,rfl⟩⟩,⟨hW5,HFR.out⟩,hb5⟩
    ·have hdec:=decide_eq_false hnum
     have HNU:=Lib.hid hnum
     clear hnum
     go_wp2_with (first
      |(go_at_call_of 91 a;refine (Xo0 HDN).mono ?_;rintro e w3 ⟨a',n',c',rfl,hW,hb3⟩;have HFR:=Lib.hid (hW.lower (Xe1 HDN).size).new;have HB3:=Xh2 hW.toWordsIn hb3;clear hW hb3)
      |(refine (Q28 neg (exp+(z:Int)) a' n' c' _ _ ((Xo0 HB3).step ((Below.refl _ _).alloc (Nat.le_refl _) _)) he3 he4 (by have:=(Xo0 HB3).cap;have:=(Xo0 HB3).most;omega)).mono ?_;rintro r w4 ⟨hr,hb4⟩;rw[hdec] at hr;subst hr;
        have hB4:=(Below.next0 (Below.next0 (Xe1 HB3) ((Below.refl _ _).alloc (Nat.le_refl _) (.cells #[.bool neg,.int .i64 (exp+(z:Int)),.slice a' n' c'] 41))) hb4);
        have hRN:=(Xo0 HN).step hB4 (Xe1 HN);
        have hGN:=(Q04.new w3 (.bool neg) (.int .i64 (exp+(z:Int))) (.slice a' n' c') 41).step hb4 (Q0f _ _);
        have hc0:=hRN.c0;have hc1:=hRN.c1;have hc2:=hRN.c2;have hf0:=hRN.f0;have hf1:=hRN.f1;have hf2:=hRN.f2;have hd1:=hRN.d1 (.bool false);have hd2:=hRN.d2 (.bool false) (.int .i64 0);
        have hg0:=hGN.c0;have hg1:=hGN.c1;have hg2:=hGN.c2;
        have HB4:=Xh3 hRN (Below.next0 (Xe1 HDN) hB4) (((Xo0 HB3).step ((Below.refl _ _).alloc (Nat.le_refl _) (.cells #[.bool neg,.int .i64 (exp+(z:Int)),.slice a' n' c'] 41))).step hb4);clear hRN hGN hB4 hb4))
     have hS:=(Xo0 HB4).store (.bool false) (.int .i64 0) (.slice none 0 0)
     have k0:=hS.c0
     have k1:=hS.c1
     have k2:=hS.c2
     have hb5:=Q04.below (Xo1 HB4) (Nat.le_refl _) (.bool false) (.int .i64 0) (.slice none 0 0)
     have hW5:WordsIn _ a' n' c' (dig (2^64) (val (2^64) ls / 2^z)):=⟨(Xe2 HB4).len,(Xe2 HB4).cap,(Xe2 HB4).most,(Xe2 HB4).low,((Xe2 HB4).rd.store3 (Xo0 HB4) (fun _=>by simp[nv]) (fun _=>by simp[nv]) (fun _=>by simp[nv]) (.bool false) (.int .i64 0) (.slice none 0 0)).more (Q14 _ _ _ _ _)⟩
     clear hS hc0 hc1 hc2 hf0 hf1 hf2 hd1 hd2 hg0 hg1 hg2 hzw
     generalize World.setCell _ _ _=W5 at k0 k1 k2 hb5 hW5⊢
     refine ⟨rfl,.tuple #[.agg #[.bool false,.int .i64 0,.slice none 0 0],.int .i64 2],by simp[results,go_sem,k0,k1,k2],false,0,none,0,0,[],2,rfl,.inr ⟨z,(Xo0 HB2),.inl ⟨.inr (.inr HNU.out),rfl,rfl,rfl,rfl⟩⟩,Q2g.nil_ _ _,hb5⟩
theorem Qcf (ws:List Nat):NatM.val (NatM.halves ws)=val (2^64) ws:=by
 induction ws with
 |nil=>rfl
 |cons x r ih=>
  have e:NatM.halves (x::r)=(x%4294967296)::(x / 4294967296)::NatM.halves r:=rfl
  rw[e]
  simp only[NatM.val,val,ih]
  rw[show (2:Nat)^64=4294967296*4294967296 by decide,Nat.mul_assoc]
  show x%4294967296+4294967296*(x / 4294967296+4294967296*val (4294967296*4294967296) r)=_
  rw[Nat.mul_add]
  omega
theorem Qao (a:Option Addr) (n c:Nat) (ls:List Nat) (w:World) (h:WordsIn w a n c ls) (hm:n<=1000000):
 Calls Tryz.prog 56 #[.slice a n c] w fun e w'=>∃a' n' c',e=.returned (.slice a' n' c')/\n'<=2*n/\Q0l w' a' n' c' (val (2^64) ls)/\Below w.heap.size w w':=by
 refine (Qhy a n c ls w h.len hm h.rd.rdN h.low).mono ?_
 rintro e w' ⟨a',n',c',rfl,hn',hc,hc',hrd,hb⟩
 have h1:NatM.trimL (NatM.halves ls)=dig (2^32) (val (2^64) ls):=by
  rw[Qa0,Q1j (B:=2^32) (by decide) (show Low (2^32) (NatM.halves ls) from NatM.halves_small h.low),<-Qtp,Qcf]
 have h2:=NatM.trim_len (NatM.halves ls)
 rw[NatM.halves_len,h.len] at h2
 rw[h1] at hn' hrd h2
 exact ⟨a',n',c',rfl,by omega,⟨hn'.symm,hc,hc',hrd.rdI⟩,hb⟩
theorem Qts {v:Nat} (hv:v%2=1) (neg:Bool) (e:Int):Fit v e↔Q0h neg e (dig (2^64) v):=by
 have h0:v≠0:=by omega
 have hne:dig (2^64) v≠[]:=fun e=>h0 ((Q4m (by decide)).1 e)
 have ht:=Qhn _ (Qjm (B:=2^64) (by decide) v)
 have hh:(dig (2^64) v).headD 0%2=1:=by
  rw[Q3w (by decide) h0]
  show v%2^64%2=1
  rw[show (2:Nat)^64=18446744073709551616 from rfl]
  omega
 unfold Q0h Fit
 rw[if_neg hne,ht]
 exact ⟨fun h=>⟨rfl,h.1,hh,h.2.1,h.2.2⟩,fun h=>⟨h.2.1,h.2.2.2⟩⟩
theorem Qrf {neg:Bool} {v:Nat} {e:Int} {neg1:Bool} {v1:Nat} {e1:Int} {neg2:Bool} {e2:Int} {L:List Nat} {er:Int} (h1:Qo3 neg v e neg1 v1 e1) (h2:Qo4 neg1 v1 e1 neg2 e2 L er):Q56 neg v e neg2 e2 L er:=by
 rcases h1 with ⟨h0,rfl,rfl,rfl⟩|⟨z,hz,rfl,rfl,rfl⟩
 ·rcases h2 with ⟨_,h3,h4,h5,h6⟩|⟨h3,_⟩|⟨h3,_⟩
  ·exact .inl ⟨h0,h3,h4,h5,h6⟩
  ·exact absurd rfl h3
  ·exact absurd rfl h3
 ·have hv1:=hz.2
  have hf:=Qts hv1 neg1 (e+(z:Int))
  refine .inr ⟨z,hz,?_⟩
  rcases h2 with ⟨h3,_⟩|⟨h3,h4,h5,h6,h7,h8⟩|⟨h3,h4,rfl,rfl,rfl,h8⟩
  ·rw[h3] at hv1;simp at hv1
  ·exact .inl ⟨.inr (.inr fun h=>h4 (hf.2 h)),h5,h6,h7,h8⟩
  ·exact .inr ⟨by have:=h4.2.2;omega,by have:=h4.2.1;omega,hf.1 h4,rfl,rfl,rfl,h8⟩
theorem Q71 {w:World} {a:Option Addr} {n c v:Nat} (h:Q0l w a n c v) (h0:v≠0):n≠0:=fun e=>h0 ((Q4m (B:=2^32) (by decide)).1 (List.length_eq_zero_iff.1 (by rw[h.len,e])))
theorem Qi3 (neg:Bool) (a:Option Addr) (n c:Nat) (ls:List Nat) (exp:Int) (w:World) (h:WordsIn w a n c ls) (hn:n<=100000) (he: -1000000000<=exp) (he2:exp<=1000000000):
 Calls Tryz.prog 95 #[.bool neg,.slice a n c,.int .i64 exp] w fun e w'=>∃neg' exp' a' n' c' L er,e=.returned (.tuple #[.agg #[.bool neg',.int .i64 exp',.slice a' n' c'],.int .i64 er])/\Q56 neg (val (2^64) ls) exp neg' exp' L er/\WordsIn w' a' n' c' L/\Below w.heap.size w w':=by
 have hB0:∀o,Below w.heap.size w (w.alloc o):=fun o=>(Below.refl _ _).alloc (Nat.le_refl _) _
 have hl0:=Q0f w (.cells #[.bool false,.int .i64 0,.slice none 0 0] 41)
 have hN0:=Q04.new w (.bool false) (.int .i64 0) (.slice none 0 0) 41
 have hp:=Qao a n c ls (w.alloc (.cells #[.bool false,.int .i64 0,.slice none 0 0] 41)) (h.step (hB0 _)) (by omega)
 generalize val (2^64) ls=v at*
 have HP:=Xh2 hp hN0
 clear hp hN0 h
 by_cases h0:v=0
 ·go_enter Tryz.func95,Tryz.ntmps95
  go_wp2_with (refine (Xo0 HP).mono ?_;rintro e w1 ⟨m,k,c',rfl,hk,hD,hb1⟩;obtain rfl:k=0:=by { have:=hD.len;rw[h0,Q0x] at this;exact this.symm };
               have hN:=(Xe1 HP).step hb1 hl0;
               have hc0:=hN.c0;have hc1:=hN.c1;have hc2:=hN.c2;have hf0:=hN.f0;have hf1:=hN.f1;have hf2:=hN.f2;have hd1:=hN.d1 (.bool false);have hd2:=hN.d2 (.bool false) (.int .i64 0);
               have HB1:=Xh2 hN (Below.next0 (hB0 _) hb1);clear hN hb1)
  have hS:=(Xo0 HB1).store (.bool false) (.int .i64 0) (.slice none 0 0)
  have k0:=hS.c0
  have k1:=hS.c1
  have k2:=hS.c2
  have hb5:=Q04.below (Xe1 HB1) (Nat.le_refl _) (.bool false) (.int .i64 0) (.slice none 0 0)
  clear hS hc0 hc1 hc2 hf0 hf1 hf2 hd1 hd2
  generalize World.setCell _ _ _=W5 at k0 k1 k2 hb5⊢
  refine ⟨rfl,.tuple #[.agg #[.bool false,.int .i64 0,.slice none 0 0],.int .i64 0],by simp[results,go_sem,k0,k1,k2],false,0,none,0,0,[],0,rfl,.inl ⟨h0,rfl,rfl,rfl,rfl⟩,WordsIn.nil_ _,hb5⟩
 ·obtain ⟨z0,hz0⟩:=Qee h0
  have HZ0:=Xh2 hz0 h0
  clear hz0 h0
  by_cases hx1:65536<exp
  ·go_enter Tryz.func95,Tryz.ntmps95
   go_wp2_with (refine (Xo0 HP).mono ?_;rintro e w1 ⟨m,k,c',rfl,hk,hD,hb1⟩;have hk0:((k:Int)==0)=false:=by { rw[beq_eq_false_iff_ne];have:=Q71 hD (Xe1 HZ0);omega };
                have hN:=(Xe1 HP).step hb1 hl0;
                have hc0:=hN.c0;have hc1:=hN.c1;have hc2:=hN.c2;have hf0:=hN.f0;have hf1:=hN.f1;have hf2:=hN.f2;have hd1:=hN.d1 (.bool false);have hd2:=hN.d2 (.bool false) (.int .i64 0);
                have HB1:=Xh2 hN (Below.next0 (hB0 _) hb1);clear hN hb1 hD)
   have hS:=(Xo0 HB1).store (.bool false) (.int .i64 0) (.slice none 0 0)
   have k0:=hS.c0
   have k1:=hS.c1
   have k2:=hS.c2
   have hb5:=Q04.below (Xe1 HB1) (Nat.le_refl _) (.bool false) (.int .i64 0) (.slice none 0 0)
   clear hS hc0 hc1 hc2 hf0 hf1 hf2 hd1 hd2
   generalize World.setCell _ _ _=W5 at k0 k1 k2 hb5⊢
   refine ⟨rfl,.tuple #[.agg #[.bool false,.int .i64 0,.slice none 0 0],.int .i64 2],by simp[results,go_sem,k0,k1,k2],false,0,none,0,0,[],2,rfl,.inr ⟨z0,(Xo0 HZ0),.inl ⟨.inl hx1,rfl,rfl,rfl,rfl⟩⟩,WordsIn.nil_ _,hb5⟩
  ·obtain ⟨y,hy⟩:∃y:Int,-65536-(z0:Int)=y:=⟨_,rfl⟩
   have HY:=Lib.hid hy
   clear hy
   by_cases hx2:exp<y
   ·have hx1':exp<=65536:=by omega
    go_enter Tryz.func95,Tryz.ntmps95
    go_wp2_with (first
     |(refine (Xo0 HP).mono ?_;rintro e w1 ⟨m,k,c',rfl,hk,hD,hb1⟩;have hk0:((k:Int)==0)=false:=by { rw[beq_eq_false_iff_ne];have:=Q71 hD (Xe1 HZ0);omega };
       have HB1:=Xh2 hD hb1;clear hb1 hD)
     |(refine (Q67 m k c' v _ (Xo0 HB1) (by omega) (Xe1 HZ0)).mono ?_;rintro e w2 ⟨⟨z,rfl,hz,hzl⟩,hb2⟩;obtain rfl:z0=z:=(Xo0 HZ0).eq hz;
       have hzw:wrap64 (-65536-(z0:Int))=y:=by { rw[<-HY.out];unfold wrap64;omega };
       have hN:=((Xe1 HP).step (Xe1 HB1) hl0).step hb2 (Nat.lt_of_lt_of_le hl0 (Xe1 HB1).size);
       have hc0:=hN.c0;have hc1:=hN.c1;have hc2:=hN.c2;have hf0:=hN.f0;have hf1:=hN.f1;have hf2:=hN.f2;have hd1:=hN.d1 (.bool false);have hd2:=hN.d2 (.bool false) (.int .i64 0);
       have HB2:=Xh2 hN (Below.next0 (Below.next0 (hB0 _) (Xe1 HB1)) hb2);clear hN hb2 hz hzl))
    have hS:=(Xo0 HB2).store (.bool false) (.int .i64 0) (.slice none 0 0)
    have k0:=hS.c0
    have k1:=hS.c1
    have k2:=hS.c2
    have hb5:=Q04.below (Xe1 HB2) (Nat.le_refl _) (.bool false) (.int .i64 0) (.slice none 0 0)
    clear hS hc0 hc1 hc2 hf0 hf1 hf2 hd1 hd2 hzw
    generalize World.setCell _ _ _=W5 at k0 k1 k2 hb5⊢
    refine ⟨rfl,.tuple #[.agg #[.bool false,.int .i64 0,.slice none 0 0],.int .i64 2],by simp[results,go_sem,k0,k1,k2],false,0,none,0,0,[],2,rfl,.inr ⟨z0,(Xo0 HZ0),.inl ⟨.inr (.inl (by rw[HY.out];exact hx2)),rfl,rfl,rfl,rfl⟩⟩,WordsIn.nil_ _,hb5⟩
   ·have hx1':exp<=65536:=by omega
    have hx2':y<=exp:=by omega
    go_enter Tryz.func95,Tryz.ntmps95
    go_wp2_with (first
     |(go_at_call_of 56 a;refine (Xo0 HP).mono ?_;rintro e w1 ⟨m,k,c',rfl,hk,hD,hb1⟩;have hk0:((k:Int)==0)=false:=by { rw[beq_eq_false_iff_ne];have:=Q71 hD (Xe1 HZ0);omega };
       have HB1:=Xh2 hD hb1;clear hb1 hD)
     |(go_at_call_of 104 m;refine (Q67 m k c' v _ (Xo0 HB1) (by omega) (Xe1 HZ0)).mono ?_;rintro e w2 ⟨⟨z,rfl,hz,hzl⟩,hb2⟩;obtain rfl:z0=z:=(Xo0 HZ0).eq hz;
       have hzw:wrap64 (-65536-(z0:Int))=y:=by { rw[<-HY.out];unfold wrap64;omega };
       have HB2:=Xh2 ((Xo0 HB1).step hb2) hb2;clear hb2 hz hzl)
     |(go_at_call_of 58 neg;refine (Q6j neg m k c' v exp _ (Xo0 HB2) (by omega) he he2).mono ?_;rintro e w3 ⟨neg1,a1,n1,c1,v1,e1,rfl,ho,hD1,hn1,he1,he3,hb3⟩;have HB3:=Xh3 ho hD1 hb3;clear ho hD1 hb3)
     |(refine (Qce neg1 a1 n1 c1 v1 e1 _ (Xo1 HB3) (by omega)).mono ?_;rintro e w4 ⟨neg2,e2,a2,n2,c2,L,er,rfl,hvn,hW4,hb4⟩;
       have hB4:=Below.next0 (Below.next0 (Below.next0 (Xe1 HB1) (Xe1 HB2)) (Xe2 HB3)) hb4;
       have hN:=(Xe1 HP).step hB4 hl0;
       have hc0:=hN.c0;have hc1:=hN.c1;have hc2:=hN.c2;have hf0:=hN.f0;have hf1:=hN.f1;have hf2:=hN.f2;have hd1:=hN.d1 (.bool neg2);have hd2:=hN.d2 (.bool neg2) (.int .i64 e2);
       have HB4:=Xh4 hN (Below.next0 (hB0 _) hB4) hW4 hvn;clear hN hb4 hB4 hW4 hvn))
    have hS:=(Xo0 HB4).store (.bool neg2) (.int .i64 e2) (.slice a2 n2 c2)
    have k0:=hS.c0
    have k1:=hS.c1
    have k2:=hS.c2
    have hb5:=Q04.below (Xo1 HB4) (Nat.le_refl _) (.bool neg2) (.int .i64 e2) (.slice a2 n2 c2)
    have hW:=(Xo2 HB4)
    have hW5:WordsIn _ a2 n2 c2 L:=⟨hW.len,hW.cap,hW.most,hW.low,(hW.rd.store3 (Xo0 HB4) (fun _=>by simp[nv]) (fun _=>by simp[nv]) (fun _=>by simp[nv]) (.bool neg2) (.int .i64 e2) (.slice a2 n2 c2)).more (Q14 _ _ _ _ _)⟩
    clear hS hc0 hc1 hc2 hf0 hf1 hf2 hd1 hd2 hzw hW
    generalize World.setCell _ _ _=W5 at k0 k1 k2 hb5 hW5⊢
    refine ⟨rfl,.tuple #[.agg #[.bool neg2,.int .i64 e2,.slice a2 n2 c2],.int .i64 er],by simp[results,go_sem,k0,k1,k2],neg2,e2,a2,n2,c2,L,er,rfl,Qrf (Xo0 HB3) (Xe3 HB4),hW5,hb5⟩
theorem Qtt (neg:Bool) (exp:Int) (a:Option Addr) (n c:Nat) (ls:List Nat) (neg':Bool) (exp':Int) (b:Option Addr) (m d:Nat) (ks:List Nat) (w:World) (h1:WordsIn w a n c ls) (h2:WordsIn w b m d ks) (hn:n<=9223372036854775807):
 Calls Tryz.prog 73 #[.agg #[.bool neg,.int .i64 exp,.slice a n c],.agg #[.bool neg',.int .i64 exp',.slice b m d]] w fun e w'=>e=.returned (.bool (decide (neg=neg'/\exp=exp'/\ls=ks)))/\Below w.heap.size w w':=by
 have hl1:=h1.len
 have hl2:=h2.len
 by_cases hneq:neg=neg'/\exp=exp'/\n=m
 ·obtain ⟨rfl,rfl,rfl⟩:=hneq
  have hdec:decide (neg=neg/\exp=exp/\ls=ks)=decide (ls=ks):=by simp
  rw[hdec]
  clear hdec
  have H1:=Lib.hid h1
  have H2:=Lib.hid h2
  clear h1 h2
  go_enter Tryz.func73,Tryz.ntmps73
  go_wp2_with fail
  obtain ⟨W2,hW2⟩:∃W2,(w.alloc (.cells #[.bool neg,.int .i64 exp,.slice a n c] 41)).alloc (.cells #[.bool neg,.int .i64 exp,.slice b n d] 41)=W2:=⟨_,rfl⟩
  have hb1:Below w.heap.size w W2:=by rw[<-hW2];exact Below.next0 ((Below.refl _ _).alloc (Nat.le_refl _) _) ((Below.refl _ _).alloc (Nat.le_refl _) _)
  have hsz:(w.alloc (.cells #[.bool neg,.int .i64 exp,.slice a n c] 41)).heap.size=w.heap.size+1:=Array.size_push ..
  have hx1:=Qan w neg exp a n c 41
  have hx2:=Qan (w.alloc (.cells #[.bool neg,.int .i64 exp,.slice a n c] 41)) neg exp b n d 41
  have hy1:W2.cell? ⟨w.heap.size,2,none⟩=some (.slice a n c):=by
   rw[<-hW2]
   exact ((Below.alloc (Below.refl _ _) (Nat.le_refl _) _).cell (p:=⟨w.heap.size,2,none⟩) hx1.1).trans hx1.2.2.2
  have hy2:W2.cell? ⟨w.heap.size+1,2,none⟩=some (.slice b n d):=by
   rw[<-hW2,<-hsz]
   exact hx2.2.2.2
  have hs2:w.heap.size+1<W2.heap.size:=by rw[<-hW2,<-hsz];exact hx2.1
  rw[hW2]
  clear hx1 hx2 hW2 hsz
  have HX:=Xh4 hy1 hy2 hb1 hs2
  clear hy1 hy2 hb1 hs2
  go_loopw [5] (fun v wr=>∃i:Nat,v=.int .i64 (i:Int)/\i<=n/\(∀j,j<i->ls[j]?=ks[j]?)/\Below W2.heap.size W2 wr) (fun v _=>n-(intOf v).toNat)
  case atStart=>exact ⟨0,rfl,Nat.zero_le _,fun j h=>absurd h (Nat.not_lt_zero _),Below.refl _ _⟩
  case round=>
   obtain ⟨i,rfl,hi,hpre,hb⟩:=hrel
   have hbw:Below w.heap.size w wr:=Below.next0 (Xo2 HX) hb
   have hc1:wr.cell? ⟨w.heap.size,2,none⟩=some (.slice a n c):=(hb.cell (p:=⟨w.heap.size,2,none⟩) (by have:=(Xe3 HX);show w.heap.size<_;omega)).trans (Xo0 HX)
   have hc2:wr.cell? ⟨w.heap.size+1,2,none⟩=some (.slice b n d):=(hb.cell (p:=⟨w.heap.size+1,2,none⟩) (Xe3 HX)).trans (Xo1 HX)
   by_cases hlt:i<n
   ·have hlt':(i:Int)<(n:Int):=by omega
    obtain ⟨x,hx⟩:∃x,ls[i]?=some x:=⟨_,List.getElem?_eq_getElem (by omega)⟩
    obtain ⟨y,hy⟩:∃y,ks[i]?=some y:=⟨_,List.getElem?_eq_getElem (by omega)⟩
    obtain ⟨g1,o1,rfl,hg1,hcx⟩:=(H1.out.rd.below hbw).at_ hx
    obtain ⟨g2,o2,rfl,hg2,hcy⟩:=(H2.out.rd.below hbw).at_ hy
    have HP:=Xh5 hpre hb hbw hx hy
    clear hpre hb hbw hx hy
    by_cases hxy:x=y
    ·subst hxy
     go_wp2_with fail
     go_quiet (fail)
     go_wp2_with fail
     refine ⟨⟨i+1,by simp,by omega,fun j hj=>?_,Q5v (Xo1 HP) nq⟩,by simp only[intOf];omega⟩
     by_cases hji:j=i
     ·subst hji;rw[(Xo3 HP),(Xe4 HP)]
     ·exact (Xo0 HP) j (by omega)
    ·have hxy':((x:Int)==(y:Int))=false:=by rw[beq_eq_false_iff_ne];omega
     have hxy2:((x:Int) != (y:Int))=true:=by simp[bne,hxy']
     go_wp2_with fail
     go_quiet (fail)
     go_wp2_with fail
     go_ret
     have hne:¬ls=ks:=fun e=>hxy (by have h1:=(Xo3 HP);have h2:=(Xe4 HP);rw[e,h2] at h1;injection h1 with h1;exact h1.symm)
     exact ⟨by rw[decide_eq_false hne];rfl,Q5v (Xo2 HP) nq⟩
   ·obtain rfl:i=n:=by omega
    have hlt':¬((i:Int)<(i:Int)):=by omega
    have heq:ls=ks:=Qdi (fun j hj=>hpre j (by omega)) (by omega)
    have HE:=Xh2 heq hbw
    clear heq hbw hb hpre
    go_wp2_with fail
    go_ret
    exact ⟨by rw[decide_eq_true (Xo0 HE)];rfl,(Xe1 HE)⟩
 ·have hdec:decide (neg=neg'/\exp=exp'/\ls=ks)=false:=by
   rw[decide_eq_false_iff_not]
   rintro ⟨e1,e2,e3⟩
   exact hneq ⟨e1,e2,by rw[<-hl1,<-hl2,e3]⟩
  rw[hdec]
  have hB:Below w.heap.size w ((w.alloc (.cells #[.bool neg,.int .i64 exp,.slice a n c] 41)).alloc (.cells #[.bool neg',.int .i64 exp',.slice b m d] 41)):=Below.next0 ((Below.refl _ _).alloc (Nat.le_refl _) _) ((Below.refl _ _).alloc (Nat.le_refl _) _)
  have HB:=Lib.hid hB
  clear hB hdec h1 h2
  by_cases e1:neg=neg'
  ·subst e1
   by_cases e2:exp=exp'
   ·subst e2
    have e3:¬((n:Int)=(m:Int)):=by intro e;exact hneq ⟨rfl,rfl,by omega⟩
    have e3':((n:Int)==(m:Int))=false:=by rw[beq_eq_false_iff_ne];exact e3
    go_enter Tryz.func73,Tryz.ntmps73
    go_wp2_with fail
    go_ret
    exact ⟨rfl,HB.out⟩
   ·have e2':(exp==exp')=false:=by rw[beq_eq_false_iff_ne];exact e2
    go_enter Tryz.func73,Tryz.ntmps73
    go_wp2_with fail
    go_ret
    exact ⟨rfl,HB.out⟩
  ·have e1':(neg==neg')=false:=by rw[beq_eq_false_iff_ne];exact e1
   go_enter Tryz.func73,Tryz.ntmps73
   go_wp2_with fail
   go_ret
   exact ⟨rfl,HB.out⟩
theorem Qo5 {ls:List Nat} {k x:Nat} (hl:ls.length=k+1) (hx:ls[k]?=some x):(trimL ls).length=ls.length↔x≠0:=by
 have he:ls=ls.take k++[x]:=by
  have h1:=List.take_add_one (l:=ls) (i:=k)
  rw[hx,Option.toList_some,<-hl,List.take_length] at h1
  exact h1
 constructor
 ·rintro h rfl
  rw[he,Q3a,<-he] at h
  have:=trim_len (ls.take k)
  rw[List.length_take] at this
  omega
 ·intro h
  rw[he,Q4i _ h]
theorem Qer (neg:Bool) (exp:Int) (a:Option Addr) (n c:Nat) (ls:List Nat) (w:World) (h:WordsIn w a n c ls) (he: -9223372036854775808<=exp) (he2:exp<=9223372036854775807) (hn:n<=9223372036854775807):
 Calls Tryz.prog 118 #[.agg #[.bool neg,.int .i64 exp,.slice a n c]] w fun e w'=>e=.returned (.bool (decide (Q0h neg exp ls)))/\Below w.heap.size w w':=by
 have hln:=h.len
 have hB0:∀o,Below w.heap.size w (w.alloc o):=fun o=>(Below.refl _ _).alloc (Nat.le_refl _) _
 by_cases h0:n=0
 ·obtain rfl:ls=[]:=List.length_eq_zero_iff.1 (by omega)
  subst h0
  cases neg
  ·go_enter Tryz.func118,Tryz.ntmps118
   go_wp2_with fail
   go_ret
   refine ⟨?_,hB0 _⟩
   show Ending.returned (.bool _)=_
   congr 2
   by_cases h:exp=0 <;> simp[Q0h,h]
  ·go_enter Tryz.func118,Tryz.ntmps118
   go_wp2_with fail
   go_ret
   refine ⟨?_,hB0 _⟩
   show Ending.returned (.bool _)=_
   congr 2
 ·obtain ⟨k,rfl⟩:∃k,n=k+1:=⟨n-1,by omega⟩
  obtain ⟨x,hx⟩:∃x,ls[0]?=some x:=⟨_,List.getElem?_eq_getElem (by omega)⟩
  obtain ⟨y,hy⟩:∃y,ls[k]?=some y:=⟨_,List.getElem?_eq_getElem (by omega)⟩
  have hne:ls≠[]:=fun e=>by rw[e] at hx;simp at hx
  have hxl:x<18446744073709551616:=h.low x (List.mem_of_getElem? hx)
  have hyl:y<18446744073709551616:=h.low y (List.mem_of_getElem? hy)
  have hhd:ls.headD 0=x:=by cases ls with
   |nil=>exact absurd rfl hne
   |cons y r=>simpa using hx
  have hand:bits .and .u64 (x:Int) 1=((x%2:Nat):Int):=by rw[show (1:Int)=((1:Nat):Int) from rfl,u64_and_nat x 1 hxl (by decide),nat_mask1]
  obtain ⟨m,hm⟩:∃m,x%2=m:=⟨_,rfl⟩
  rw[hm] at hand
  have hN:Q0h neg exp ls↔(y≠0/\k+1<=64/\m=1/\-65536<=exp/\exp<=65536):=by
   unfold Q0h
   rw[if_neg hne,hhd,hm,Qo5 hln hy,hln]
  have hex:decide (Q0h neg exp ls)=(decide ((k:Int)+1<=64) && ((y:Int) != 0 && ((m:Int)==1 && (decide (-65536<=exp) && decide (exp<=65536))))):=by
   have e64:((k:Int)+1<=64)↔k+1<=64:=by omega
   have e1:((m:Int)==1)=decide (m=1):=by by_cases h:m=1 <;> simp[h] <;> omega
   have e2:((y:Int) != 0)=decide (y≠0):=by by_cases h:y=0 <;> simp[h]
   rw[e1,e2,Bool.eq_iff_iff]
   simp only[decide_eq_true_eq,Bool.and_eq_true,e64]
   rw[hN]
   exact ⟨fun h=>⟨h.2.1,h.1,h.2.2⟩,fun h=>⟨h.2.1,h.1,h.2.2⟩⟩
  rw[hex]
  obtain ⟨b,o,hae,hbl,hcx⟩:=h.rd.at_ hx
  obtain ⟨b2,o2,hae2,hbl2,hcy⟩:=h.rd.at_ hy
  subst hae
  injection hae2 with hae2;injection hae2 with e1 e2;subst e1 e2
  rw[Nat.add_zero] at hcx
  have hcx0:∀O,(w.alloc O).cell? ⟨b,o,none⟩=some (.int .u64 (x:Int)):=fun O=>((hB0 O).cell (p:=⟨b,o,none⟩) hbl).trans hcx
  have hcy0:∀O,(w.alloc O).cell? ⟨b,o+k,none⟩=some (.int .u64 (y:Int)):=fun O=>((hB0 O).cell (p:=⟨b,o+k,none⟩) hbl).trans hcy
  clear hex hN hm hhd hne hx hy h0 hcx hcy h
  by_cases h64:(k:Int)+1<=64
  ·go_enter Tryz.func118,Tryz.ntmps118
   go_wp2_with fail
   all_goals
    go_ret
    refine ⟨?_,hB0 _⟩
    show Ending.returned (.bool _)=Ending.returned (.bool _)
    clear hcx0 hcy0
    congr 2
   all_goals simp_all
   all_goals omega
  ·go_enter Tryz.func118,Tryz.ntmps118
   go_wp2_with fail
   all_goals
    go_ret
    refine ⟨?_,hB0 _⟩
    show Ending.returned (.bool _)=Ending.returned (.bool _)
    clear hcx0 hcy0
    congr 2
   all_goals simp_all
   all_goals omega
end Go.Proofs.YtdilmfakkppgpaaGreatDoor
namespace Go.Proofs.YtdilmfakkppgpaaGreatDoor
namespace DecM
open WordsM
abbrev dec (n:Nat):List UInt8:=Lib.decDigits n
def pd:Nat->Nat->List UInt8
 |0,_=>[]
 |k+1,r=>pd k (r / 10)++[UInt8.ofNat (48+r%10)]
theorem Q1z {n:Nat} (h:n<10):dec n=[UInt8.ofNat (48+n)]:=by
 rw[dec,Lib.decDigits,dif_pos h]
theorem Q5w {n:Nat} (h:¬n<10):dec n=dec (n / 10)++[UInt8.ofNat (48+n%10)]:=by
 rw[dec,Lib.decDigits,dif_neg h]
theorem Qt5 (q:Nat) (hq:0<q):∀k r,r<10^k->dec (q*10^k+r)=dec q++pd k r
 |0,r,h=>by
  obtain rfl:r=0:=by simpa using h
  simp[pd]
 |k+1,r,h=>by
  have hp:10<=q*10^(k+1):=by
   have h1:1<=10^k:=Nat.pow_pos (by decide)
   have h2:1*1<=q*10^k:=Nat.mul_le_mul hq h1
   rw[Nat.pow_succ,<-Nat.mul_assoc];omega
  have e1:(q*10^(k+1)+r) / 10=q*10^k+r / 10:=by
   rw[Nat.pow_succ,<-Nat.mul_assoc];omega
  have e2:(q*10^(k+1)+r)%10=r%10:=by
   rw[Nat.pow_succ,<-Nat.mul_assoc];omega
  have h3:r / 10<10^k:=by rw[Nat.pow_succ] at h;omega
  rw[Q5w (by omega),e1,e2,Qt5 q hq k (r / 10) h3,pd,List.append_assoc]
theorem Qo6:∀k,pd k 0=List.replicate k 48
 |0=>rfl
 |k+1=>by
  rw[pd,Nat.zero_div,Qo6 k,List.replicate_succ'];rfl
theorem Q3s (n:Nat):1<=(dec n).length:=by
 by_cases h:n<10
 ·rw[Q1z h];simp
 ·rw[Q5w h];simp
theorem dec_len (j:Nat):∀n,n<10^j->1<=j->(dec n).length<=j:=by
 induction j with
 |zero=>intro n _ h;omega
 |succ j ih=>
  intro n hn _
  by_cases h:n<10
  ·rw[Q1z h];simp
  ·rw[Q5w h]
   have hj:1<=j:=by
    rcases Nat.eq_zero_or_pos j with rfl|h1
    ·simp at hn;omega
    ·exact h1
   have:=ih (n / 10) (by rw[Nat.pow_succ] at hn;omega) hj
   simp only[List.length_append,List.length_singleton]
   omega
theorem Qt6:∀k r,1<=k->r<10^k->pd k r=List.replicate (k-(dec r).length) 48++dec r
 |0,_,h,_=>by omega
 |k+1,r,_,hr=>by
  by_cases h:r<10
  ·rw[Q1z h,pd,Nat.div_eq_of_lt h,Nat.mod_eq_of_lt h,Qo6];simp
  ·have hk:1<=k:=by
    rcases Nat.eq_zero_or_pos k with rfl|h1
    ·simp at hr;omega
    ·exact h1
   rw[pd,Qt6 k (r / 10) hk (by rw[Nat.pow_succ] at hr;omega),Q5w h,List.append_assoc]
   simp
def dv (l:List UInt8):Nat:=l.foldl (fun a b=>10*a+(b.toNat-48)) 0
theorem Qtu (l:List UInt8):∀a,l.foldl (fun a b=>10*a+(b.toNat-48)) a=a*10^l.length+dv l:=by
 induction l with
 |nil=>intro a;simp[dv]
 |cons c r ih=>
  intro a
  have h1:=ih (10*a+(c.toNat-48))
  have h2:=ih (10*0+(c.toNat-48))
  simp only[List.foldl_cons,dv,List.length_cons,Nat.pow_succ] at h1 h2⊢
  rw[h1,h2,Nat.add_mul,Nat.add_mul,Nat.mul_comm 10 a,Nat.mul_assoc,Nat.mul_comm 10 (10^r.length)]
  omega
theorem Qes (l r:List UInt8):dv (l++r)=dv l*10^r.length+dv r:=by
 rw[dv,List.foldl_append]
 exact Qtu r _
theorem Qo7 (l:List UInt8) (c:UInt8):dv (l++[c])=10*dv l+(c.toNat-48):=by
 rw[Qes];simp[dv];omega
theorem Q5d (d:Nat) (h:d<10):(UInt8.ofNat (48+d)).toNat=48+d:=by
 rw[UInt8.toNat_ofNat'];omega
theorem Qo8 (n:Nat):dv (dec n)=n:=by
 induction n using Nat.strongRecOn with
 |ind n ih=>
  by_cases h:n<10
  ·rw[Q1z h];simp[dv];omega
  ·rw[Q5w h,Qo7,ih (n / 10) (by omega),Q5d _ (Nat.mod_lt _ (by decide))];omega
def Qhk (l:List UInt8):Prop:=∀c∈l,48<=c.toNat/\c.toNat<=57
theorem Qet (l:List UInt8) (h:Qhk l):dv l<10^l.length:=by
 rcases List.eq_nil_or_concat l with rfl|⟨r,c,rfl⟩
 ·simp[dv]
 ·rw[List.concat_eq_append] at h⊢
  have h1:=Qet r fun x hx=>h x (by simp[hx])
  have h2:=h c (by simp)
  rw[Qo7,List.length_append,List.length_singleton,Nat.pow_succ];omega
termination_by l.length
decreasing_by simp_all
theorem Q57 (n:Nat):Qhk (dec n):=by
 induction n using Nat.strongRecOn with
 |ind n ih=>
  intro c hc
  by_cases h:n<10
  ·rw[Q1z h,List.mem_singleton] at hc;subst hc;rw[Q5d n h];omega
  ·rw[Q5w h] at hc
   rcases List.mem_append.1 hc with hc|hc
   ·exact ih (n / 10) (by omega) c hc
   ·rw[List.mem_singleton] at hc;subst hc;rw[Q5d _ (Nat.mod_lt _ (by decide))];omega
theorem Qjt (n:Nat) (hn:n≠0):(dec n).headD 0≠48:=by
 induction n using Nat.strongRecOn with
 |ind n ih=>
  by_cases h:n<10
  ·rw[Q1z h]
   show UInt8.ofNat (48+n)≠48
   intro e
   have:=congrArg UInt8.toNat e
   rw[Q5d n h] at this
   have h2:(48:UInt8).toNat=48:=rfl
   omega
  ·rw[Q5w h]
   have h1:=ih (n / 10) (by omega) (by omega)
   have h2:=Q3s (n / 10)
   cases hd:dec (n / 10) with
   |nil=>rw[hd] at h2;simp at h2
   |cons x r=>rw[hd] at h1;simpa using h1
def digN:List UInt8->Nat
 |[]=>0
 |c::r=>if 48<=c.toNat/\c.toNat<=57 then digN r+1 else 0
theorem Qdn:∀l,digN l<=l.length
 |[]=>Nat.le_refl _
 |c::r=>by
  have:=Qdn r
  simp only[digN,List.length_cons]
  split <;> omega
theorem Qeu:∀(l:List UInt8) (k:Nat),k<=l.length->(∀j c,l[j]?=some c->j<k->48<=c.toNat/\c.toNat<=57)->(∀c,l[k]?=some c->¬(48<=c.toNat/\c.toNat<=57))->digN l=k
 |[],k,h,_,_=>by simp at h;simp[digN,h]
 |c::r,0,_,_,h3=>by
  have:=h3 c rfl
  simp[digN,this]
 |c::r,k+1,h1,h2,h3=>by
  have hc:=h2 0 c rfl (by omega)
  have:=Qeu r k (by simpa using h1) (fun j x hx hj=>h2 (j+1) x (by simpa using hx) (by omega)) (fun x hx=>h3 x (by simpa using hx))
  simp[digN,hc,this]
theorem Q68:∀l:List UInt8,Qhk (l.take (digN l))
 |[]=>fun c hc=>by simp at hc
 |c::r=>by
  simp only[digN]
  split
  ·rename_i h
   intro x hx
   rw[List.take_succ_cons] at hx
   rcases List.mem_cons.1 hx with rfl|hx
   ·exact h
   ·exact Q68 r x hx
  ·intro x hx;simp at hx
theorem Qdo (l r:List UInt8) (h:Qhk l):digN (l++r)=l.length+digN r:=by
 induction l with
 |nil=>simp
 |cons c l ih=>
  have h1:=h c (by simp)
  have h2:=ih fun x hx=>h x (by simp[hx])
  simp[digN,h1,h2];omega
def Q2h:List UInt8->Bool × List UInt8
 |[]=>(false,[])
 |c::r=>if c=45 then (true,r) else (false,c::r)
def Qc4:List UInt8->Option Int
 |[]=>some 0
 |c::r=>if c≠112 then none else
  if (Q2h r).2.length<1∨6<(Q2h r).2.length∨digN (Q2h r).2<(Q2h r).2.length∨(Q2h r).2.headD 0=48 then none
  else some (if (Q2h r).1=true then -(dv (Q2h r).2:Int) else (dv (Q2h r).2:Int))
def form (s:List UInt8):Option (Bool × Nat × Int):=
 if digN (Q2h s).2<1∨1300<digN (Q2h s).2∨((Q2h s).2.headD 0=48/\((Q2h s).1=true∨1<(Q2h s).2.length)) then none
 else match Qc4 ((Q2h s).2.drop (digN (Q2h s).2)) with
  |none=>none
  |some e=>some ((Q2h s).1,dv ((Q2h s).2.take (digN (Q2h s).2)),e)
theorem Qev (l:List UInt8) (h:Qhk l) (r:List UInt8) (hl:l≠[]):Q2h (l++r)=(false,l++r):=by
 cases l with
 |nil=>exact absurd rfl hl
 |cons c l=>
  have h1:=h c (by simp)
  have h2:c≠45:=by
   rintro rfl
   have:(45:UInt8).toNat=45:=rfl
   omega
  simp[Q2h,h2]
def Q9p (e:Int):List UInt8:=if e=0 then [] else 112::(if e<0 then 45::dec e.natAbs else dec e.natAbs)
theorem Qo9 (e:Int) (h: -65536<=e) (h2:e<=65536):Qc4 (Q9p e)=some e:=by
 unfold Q9p
 by_cases h0:e=0
 ·rw[if_pos h0,h0];rfl
 ·rw[if_neg h0]
  have hna:e.natAbs≠0:=by omega
  have hl1:=Q3s e.natAbs
  have hl2:=dec_len 6 e.natAbs (by have:(10:Nat)^6=1000000:=rfl;omega) (by decide)
  have hd:=Qdo (dec e.natAbs) [] (Q57 _)
  rw[List.append_nil] at hd
  simp only[digN,Nat.add_zero] at hd
  have hh:=Qjt e.natAbs hna
  by_cases hneg:e<0
  ·rw[if_pos hneg]
   have hm:Q2h (45::dec e.natAbs)=(true,dec e.natAbs):=rfl
   rw[Qc4,if_neg (by simp),hm]
   simp only
   rw[if_neg (by rintro (h|h|h|h) <;> first|omega|exact hh h),if_pos trivial,Qo8]
   congr 1;omega
  ·rw[if_neg hneg]
   have hm:Q2h (dec e.natAbs)=(false,dec e.natAbs):=by
    have:=Qev (dec e.natAbs) (Q57 _) [] (fun e'=>by rw[e'] at hl1;simp at hl1)
    rwa[List.append_nil] at this
   rw[Qc4,if_neg (by simp),hm]
   simp only
   rw[if_neg (by rintro (h|h|h|h) <;> first|omega|exact hh h),if_neg (by simp),Qo8]
   congr 1;omega
theorem Qoa (e:Int):digN (Q9p e)=0:=by
 unfold Q9p
 split
 ·rfl
 ·rw[digN,if_neg];decide
def Q2i (neg:Bool) (v:Nat) (e:Int):List UInt8:=(if neg=true then [45] else [])++(dec v++Q9p e)
theorem Qob (neg:Bool) (v:Nat) (e:Int) (h: -65536<=e) (h2:e<=65536) (hv:v<10^1300) (h0:v=0->neg=false/\e=0):form (Q2i neg v e)=some (neg,v,e):=by
 have hl1:=Q3s v
 have hl2:=dec_len 1300 v hv (by decide)
 have hne:dec v≠[]:=fun e'=>by rw[e'] at hl1;simp at hl1
 have hm:Q2h (Q2i neg v e)=(neg,dec v++Q9p e):=by
  cases neg
  ·exact Qev (dec v) (Q57 v) (Q9p e) hne
  ·rfl
 have hd:=Qdo (dec v) (Q9p e) (Q57 v)
 rw[Qoa,Nat.add_zero] at hd
 unfold form
 rw[hm]
 simp only
 rw[hd,List.drop_left,List.take_left,Qo9 e h h2,Qo8,if_neg]
 rintro (h3|h3|⟨h3,h4⟩)
 ·omega
 ·omega
 ·have hh:(dec v++Q9p e).headD 0=(dec v).headD 0:=by
   cases hc:dec v with
   |nil=>exact absurd hc hne
   |cons x r=>rfl
  rw[hh] at h3
  by_cases hv0:v=0
  ·obtain ⟨h5,h6⟩:=h0 hv0
   subst hv0;subst h6
   rcases h4 with h4|h4
   ·rw[h5] at h4;cases h4
   ·rw[Q1z (by decide)] at h4;simp[Q9p] at h4
  ·exact Qjt v hv0 h3
end DecM
end Go.Proofs.YtdilmfakkppgpaaGreatDoor
namespace Go.Proofs.YtdilmfakkppgpaaGreatDoor
open Go.RowKit WordsM
def Qoc (b:UInt8):Prop:=48<=b.toNat/\b.toNat<=57
def Qv8 (s:ByteArray) (k:Nat):Prop:=k<=s.size/\(∀j (h:j<s.size),j<k->Qoc (s[j]'h))/\∀h:k<s.size,¬Qoc (s[k]'h)
theorem Qod (s:ByteArray) (w:World) (hs:s.size<=281474976710656):
 Calls Tryz.prog 234 #[.string s] w fun e w'=>(∃k:Nat,e=.returned (.int .i64 (k:Int))/\Qv8 s k)/\Below w.heap.size w w':=by
 go_enter Tryz.func234,Tryz.ntmps234
 go_wp2_with fail
 go_step3
 go_wp2_with fail
 go_step3
 go_wp2_with fail
 go_loopw [3] (fun v wr=>∃k:Nat,v=.int .i64 (k:Int)/\k<=s.size/\(∀j (h:j<s.size),j<k->Qoc (s[j]'h))/\Below w.heap.size w wr) (fun v _=>s.size-(intOf v).toNat)
 case atStart=>exact ⟨0,rfl,Nat.zero_le _,fun j _ h=>absurd h (Nat.not_lt_zero _),Below.refl _ _⟩
 case round=>
  obtain ⟨k,rfl,hk,hpre,hb⟩:=hrel
  have HP:=Xh2 hpre hb
  clear hpre hb
  by_cases hlt:k<s.size
  ·have hlt':(k:Int)<(s.size:Int):=by omega
   by_cases h1:(s[k]'hlt).toNat<48
   ·have h1':((s[k]'hlt).toNat:Int)<48:=by omega
    go_wp2_with fail
    first|rw[Exit.noGoto_ret]|skip
    go_ret
    exact ⟨⟨k,rfl,hk,(Xo0 HP),fun _ h=>by have:=h.1;omega⟩,(Xe1 HP)⟩
   ·have h1':¬((s[k]'hlt).toNat:Int)<48:=by omega
    by_cases h2:57<(s[k]'hlt).toNat
    ·have h2':57<((s[k]'hlt).toNat:Int):=by omega
     go_wp2_with fail
     first|rw[Exit.noGoto_ret]|skip
     go_ret
     exact ⟨⟨k,rfl,hk,(Xo0 HP),fun _ h=>by have:=h.2;omega⟩,(Xe1 HP)⟩
    ·have h2':¬57<((s[k]'hlt).toNat:Int):=by omega
     go_wp2_with fail
     refine ⟨⟨k+1,by simp,by omega,fun j h hj=>?_,(Xe1 HP)⟩,by simp only[intOf];omega⟩
     by_cases hjk:j=k
     ·subst hjk;exact ⟨by omega,by omega⟩
     ·exact (Xo0 HP) j h (by omega)
  ·obtain rfl:k=s.size:=by omega
   have hlt':¬((s.size:Int)<(s.size:Int)):=by omega
   go_wp2_with fail
   first|rw[Exit.noGoto_ret]|skip
   go_ret
   exact ⟨⟨s.size,rfl,hk,(Xo0 HP),fun h=>absurd h hlt⟩,(Xe1 HP)⟩
end Go.Proofs.YtdilmfakkppgpaaGreatDoor
namespace Go.Proofs.YtdilmfakkppgpaaGreatDoor
open Go.RowKit WordsM DecM
theorem Qdp (s:ByteArray) (j:Nat) (h:j<s.size):s.data.toList[j]?=some (s[j]'h):=by
 rw[Array.getElem?_toList]
 exact Array.getElem?_eq_getElem h
theorem Qrg {s:ByteArray} {at_ k:Nat} (h1:at_<=k) (h2:k<=s.size) (hd:∀j (h:j<s.size),at_<=j->j<k->Qoc (s[j]'h)) (hs:∀h:k<s.size,¬Qoc (s[k]'h)):digN (s.data.toList.drop at_)=k-at_:=by
 have hl:s.data.toList.length=s.size:=rfl
 apply Qeu
 ·rw[List.length_drop,hl];omega
 ·intro j c hc hj
  rw[List.getElem?_drop] at hc
  have hjs:at_+j<s.size:=by omega
  rw[Qdp s _ hjs] at hc
  injection hc with hc
  subst hc
  exact hd _ hjs (by omega) (by omega)
 ·intro c hc
  rw[List.getElem?_drop,show at_+(k-at_)=k by omega] at hc
  have hks:k<s.size:=by
   rw[<-hl];exact (List.getElem?_eq_some_iff.1 hc).1
  rw[Qdp s _ hks] at hc
  injection hc with hc
  subst hc
  exact hs hks
theorem Qoe {s:ByteArray} {at_:Nat} (h:at_<s.size):(s.data.toList.drop at_).headD 0=s[at_]'h:=by
 have h1:=Qdp s at_ h
 rw[<-List.head?_drop] at h1
 rw[List.headD_eq_head?_getD,h1];rfl
end Go.Proofs.YtdilmfakkppgpaaGreatDoor
namespace Go.Proofs.YtdilmfakkppgpaaGreatDoor
open Go Go.RowKit
section
variable {P:Program} {ops:Array Oper}
def Q0e (ops:Array Oper) (a:Act) (j:Nat):Value:=match (ops[j]?).bind (·.dst) with|some t=>a.tmps.getD t undef|none=>undef
def Q8n (ops:Array Oper) (a0 a:Act):Prop:=a.defers=a0.defers/\a.tmps.size=a0.tmps.size/\∀t,(∀o∈ops.toList,o.dst≠some t)->a.tmps[t]?=a0.tmps[t]?
def Q34 (o:Oper):List Nat:=(o.after.toList.filter (Region.binds .any)).map (·.on)
def Q10 (vs:Nat->Value):List Oper->Nat->Act->Act
 |[],_,a=>a
 |o::r,k,a=>Q10 vs r (k+1) (a.put o.dst (vs k))
theorem Q3x (a:Act) (t:Tmp) (v:Value):(a.put (some t) v).tmps=a.tmps.setIfInBounds t v:=rfl
theorem Q58:∀(l:List Bool) (i:Nat),l[i]?=some false->(l.set i true).count false+1=l.count false
 |b::r,0,h=>by
  simp only[List.getElem?_cons_zero,Option.some.injEq] at h
  subst h
  simp
 |b::r,i+1,h=>by
  have ih:=Q58 r i (by simpa using h)
  simp only[List.set_cons_succ,List.count_cons]
  omega
theorem Q9a:∀(l:List Bool),l.count false=0->∀(i:Nat),i<l.length->l[i]?=some true:=by
 intro l h i hi
 have hne:l[i]?=some l[i]:=List.getElem?_eq_getElem hi
 cases hb:l[i] with
 |true=>rw[hne,hb]
 |false=>
  have:false∈l:=by rw[<-hb];exact List.getElem_mem hi
  rw[List.count_eq_zero] at h
  exact absurd this h
variable {F:Fence} {n:Nat} {Q:Exit->Act->World->Prop}
theorem Q03 {a:Act} {t:Tmp} {v:Value} (h:a.eval (.tmp t)=v):a.tmps[t]?.getD undef=v:=by
 have h':a.tmps.getD t undef=v:=h
 rwa[Array.getD_eq_getD_getElem?] at h'
def Q6k (cs:List Value) (L:Nat->Option (Value->World->Prop)) (i:Nat) (v:Value) (w:World):Prop:=match L i with|some φ=>φ v w|none=>v=cs.getD i undef
theorem Q00 {cs:List Value} {L:Nat->Option (Value->World->Prop)} {i:Nat} {v:Value} {w:World} (h:L i=none):Q6k cs L i v w↔v=cs.getD i undef:=by unfold Q6k;rw[h]
theorem Q06 {cs:List Value} {L:Nat->Option (Value->World->Prop)} {i:Nat} {φ:Value->World->Prop} {v:Value} {w:World} (h:L i=some φ):Q6k cs L i v w↔φ v w:=by unfold Q6k;rw[h]
theorem Q8n.keep {a0 a:Act} (h:Q8n ops a0 a) {t:Tmp} {v:Value} (ht:(ops.toList.all fun o=> !(o.dst==some t))=true) (hv:a0.tmps.getD t undef=v):a.eval (.tmp t)=v:=by
 show a.tmps.getD t undef=v
 rw[Array.getD_eq_getD_getElem?,h.2.2 t ?_,<-Array.getD_eq_getD_getElem?,hv]
 intro o ho e
 have:=List.all_eq_true.1 ht o ho
 rw[e] at this
 simp at this
end
end Go.Proofs.YtdilmfakkppgpaaGreatDoor
namespace Go.Proofs.YtdilmfakkppgpaaGreatDoor
open Go.RowKit WordsM DecM
theorem Qtv (B m:Nat):val B [m]=m:=by simp[val]
theorem Q2x {P:Program} {ops:Array Oper} {o:Oper} {a:Act} {w:World} {K:Act->World->Prop} {Q:Exit->Act->World->Prop} {E:Prop} (hgd:o.guard=none) (f:FuncId) (args:Array Value)
 (hrun:(execOp a.eval o).run P w=.ok (.enter f args) w) (h:Calls P f args w fun e w'=>∃v,e=.returned v/\K (a.put o.dst v) w'):if Region.wanted o (yielded ops a.tmps)=true then Oper.wp P o a w K Q else E:=by
 rw[if_pos (by simp[Region.wanted,hgd])]
 unfold Oper.wp
 rw[hrun,Oper.upon_enter]
 exact h.mono (by rintro e w' ⟨v,rfl,hk⟩;exact hk)
theorem Q6l {B:Nat} {w W:World} (h:Below B w W):Below B w W.drew:=⟨h.os,h.tape,h.output,h.size,h.block⟩
theorem Qof (w:World) (m:Nat) (hm:m<18446744073709551616) (T:TypeId):WordsIn (w.alloc (.cells #[.int .u64 (m:Int)] T)) (some ⟨w.heap.size,0,none⟩) 1 1 [m]:=
 ⟨rfl,Nat.le_refl _,by omega,fun x hx=>by rw[List.mem_singleton] at hx;subst hx;exact hm,.inr ⟨w.heap.size,0,rfl,Q0f _ _,fun j x hx=>by
   cases j with
   |zero=>simp only[List.getElem?_cons_zero,Option.some.injEq] at hx;subst hx;rw[cell_of_row _ _ _ _ _ _ (heap_alloc_new _ _)];rfl
   |succ j=>simp at hx⟩⟩
def Q3c (neg:Bool) (exp:Int) (ls:List Nat):List UInt8:=if Q0h neg exp ls then Q2i neg (val (2^64) ls) exp else []
theorem Q0h.exp {neg:Bool} {exp:Int} {ls:List Nat} (h:Q0h neg exp ls): -65536<=exp/\exp<=65536/\ls.length<=64:=by
 unfold Q0h at h
 split at h
 ·rename_i h0
  rw[h0,h.2];simp
 ·exact ⟨h.2.2.2.1,h.2.2.2.2,h.2.1⟩
theorem Qog {w:World} {a:Option Addr} {n c:Nat} {ls:List Nat} (h:WordsIn w a n c ls) (hn:n<=64):(dec (val (2^64) ls)).length<=1281:=by
 have h1:=NatM.dec_val_len (NatM.halves_small h.low)
 rw[Qcf,NatM.halves_len,h.len] at h1
 exact Nat.le_trans h1 (by omega)
end Go.Proofs.YtdilmfakkppgpaaGreatDoor
