/- Part 6 of the proof of LawParseMeans: RefH, NatS, NumB, NatF, Tz, NatG. Condition: as each theorem says; none at the end. -/
import Derived.Shelf.Spec.TrailingZeros
import Derived.Ground.Names7Prog
import Derived.Test.YtdilmfakkppgpaaGreatDoorPkParseMeans05
set_option maxRecDepth 100000
set_option maxHeartbeats 16000000
namespace Go.Proofs.YtdilmfakkppgpaaGreatDoor
open Go.RowKit WordsM
def Qo3 (neg:Bool) (v:Nat) (e:Int) (neg':Bool) (v':Nat) (e':Int):Prop:=(v=0/\neg'=false/\v'=0/\e'=0)∨∃z:Nat,Qhq v z/\neg'=neg/\v'=v / 2^z/\e'=e+z
theorem Q99 {B u v:Nat} (hB:2<=B) (h:u<=v):(dig B u).length<=(dig B v).length:=by
 refine Q23 hB (Nat.lt_of_le_of_lt h ?_)
 have h1:=Q2o (B:=B) (by omega) (dig B v) (Q22 hB v)
 rwa[Q0r hB] at h1
theorem Q0l.nil_ (w:World):Q0l w none 0 0 0:=⟨rfl,Nat.le_refl _,by omega,.inl rfl⟩
theorem Q6j (neg:Bool) (a:Option Addr) (n c:Nat) (v:Nat) (e:Int) (w:World) (h:Q0l w a n c v) (hn:n<=1000000) (he: -1000000000<=e) (he2:e<=1000000000):
 Calls Tryz.prog 58 #[.bool neg,.slice a n c,.int .i64 e] w fun r w'=>∃neg' a' n' c' v' e',r=.returned (.agg #[.bool neg',.slice a' n' c',.int .i64 e'])/\Qo3 neg v e neg' v' e'/\Q0l w' a' n' c' v'/\n'<=n/\-1000000000<=e'/\e'<=1000000000+32*n/\Below w.heap.size w w':=by
 have hB0:∀o,Below w.heap.size w (w.alloc o):=fun o=>(Below.refl _ _).alloc (Nat.le_refl _) _
 have hN:=Q04.new w (.bool false) (.slice none 0 0) (.int .i64 0) 56
 have hl0:=Q0f w (.cells #[.bool false,.slice none 0 0,.int .i64 0] 56)
 by_cases h0:v=0
 ·have hn0:n=0:=by have:=h.len;rw[h0,Q0x] at this;exact this.symm
  subst hn0
  have HS:=Xh2 hN (hB0 (.cells #[.bool false,.slice none 0 0,.int .i64 0] 56))
  have hc0:=hN.c0
  have hc1:=hN.c1
  have hc2:=hN.c2
  have hf0:=hN.f0
  have hf1:=hN.f1
  have hf2:=hN.f2
  have hd1:=hN.d1 (.bool false)
  have hd2:=hN.d2 (.bool false) (.slice none 0 0)
  clear hN hB0 h
  go_enter Tryz.func58,Tryz.ntmps58
  go_wp2_with fail
  have k0:=(Xo0 HS).c0
  have k1:=(Xo0 HS).c1
  have k2:=(Xo0 HS).c2
  have hb3:=(Xe1 HS)
  clear HS hd1 hd2 hc0 hc1 hc2 hf0 hf1 hf2
  generalize w.alloc _=W3 at k0 k1 k2 hb3⊢
  refine ⟨rfl,.agg #[.bool false,.slice none 0 0,.int .i64 0],by simp[results,go_sem,k0,k1,k2],false,none,0,0,0,0,rfl,.inl ⟨h0,rfl,rfl,rfl⟩,Q0l.nil_ _,Nat.le_refl _,by omega,by omega,hb3⟩
 ·have hn0:n≠0:=fun e=>h0 ((Q4m (B:=2^32) (by decide)).1 (List.length_eq_zero_iff.1 (by rw[h.len,e])))
  have hn0':((n:Int)==0)=false:=by rw[beq_eq_false_iff_ne];omega
  have hz:=fun W (hb:Below w.heap.size w W)=>Q67 a n c v W (h.step hb) hn h0
  have hd:=fun W (hb:Below w.heap.size w W) z hz=>Qhz a n c v z W (h.step hb) hn hz
  have HZ:=Xh2 hz hd
  have HN:=Xh3 hN h0 h.len
  clear hz hd hN h h0
  go_enter Tryz.func58,Tryz.ntmps58
  go_wp2_with (first
   |(go_at_call_of 104 a;refine ((Xo0 HZ) _ (hB0 _)).mono ?_;rintro r w1 ⟨⟨z,rfl,hz1,hz2⟩,hb1⟩;have HB1:=Xh3 hz1 hb1 hz2;clear hb1 hz1)
   |(refine ((Xe1 HZ) _ (Below.next0 (hB0 _) (Xo1 HB1)) z (by omega)).mono ?_;rintro r w2 ⟨a2,n2,c2,lb,rfl,hD2,hb2⟩;have hNN:=((Xo0 HN).step (Xo1 HB1) hl0).step hb2 (Nat.lt_of_lt_of_le hl0 (Xo1 HB1).size);
     have hc0:=hNN.c0;have hc1:=hNN.c1;have hc2:=hNN.c2;have hf0:=hNN.f0;have hf1:=hNN.f1;have hf2:=hNN.f2;have hd1:=hNN.d1 (.bool neg);have hd2:=hNN.d2 (.bool neg) (.slice a2 n2 c2);
     have HB2:=Xh3 hNN hD2 hb2;clear hNN hb2 hD2))
  have hS:=(Xo0 HB2).store (.bool neg) (.slice a2 n2 c2) (.int .i64 (e+(z:Int)))
  have k0:=hS.c0
  have k1:=hS.c1
  have k2:=hS.c2
  have hb3:=Q04.below (Below.next0 (Below.next0 (hB0 _) (Xo1 HB1)) (Xe2 HB2)) (Nat.le_refl _) (.bool neg) (.slice a2 n2 c2) (.int .i64 (e+(z:Int)))
  have hD:=(Xo1 HB2)
  have hD3:Q0l _ a2 n2 c2 (v / 2^z):=⟨hD.len,hD.cap,hD.most,(hD.rd.store3 (Xo0 HB2) (fun _=>by simp[nv]) (fun _=>by simp[nv]) (fun _=>by simp[nv]) (.bool neg) (.slice a2 n2 c2) (.int .i64 (e+(z:Int)))).more (Q14 _ _ _ _ _)⟩
  clear hc0 hc1 hc2 hf0 hf1 hf2 hd1 hd2 hS hD
  have hn2:n2<=n:=by
   rw[<-hD3.len,<-(Xe2 HN)]
   exact Q99 (by decide) (Nat.div_le_self _ _)
  generalize World.setCell _ _ _=W3 at k0 k1 k2 hb3 hD3⊢
  refine ⟨rfl,.agg #[.bool neg,.slice a2 n2 c2,.int .i64 (e+(z:Int))],by simp[results,go_sem,k0,k1,k2],neg,a2,n2,c2,v / 2^z,e+(z:Int),rfl,.inr ⟨z,(Xo0 HB1),rfl,rfl,rfl⟩,hD3,hn2,by omega,by omega,hb3⟩
def Fit (v:Nat) (e:Int):Prop:=(dig (2^64) v).length<=64/\-65536<=e/\e<=65536
def Qo4 (neg:Bool) (v:Nat) (e:Int) (neg':Bool) (e':Int) (L:List Nat) (er:Int):Prop:=
 (v=0/\neg'=false/\e'=0/\L=[]/\er=0)∨(v≠0/\¬Fit v e/\neg'=false/\e'=0/\L=[]/\er=2)∨(v≠0/\Fit v e/\neg'=neg/\e'=e/\L=dig (2^64) v/\er=0)
theorem WordsIn.nil_ (w:World):WordsIn w none 0 0 []:=⟨rfl,Nat.le_refl _,by omega,fun x hx=>by simp at hx,.inl rfl⟩
theorem Qce (neg:Bool) (a:Option Addr) (n c:Nat) (v:Nat) (e:Int) (w:World) (h:Q0l w a n c v) (hn:n<=1000000):
 Calls Tryz.prog 146 #[.agg #[.bool neg,.slice a n c,.int .i64 e]] w fun r w'=>∃neg' e' a' n' c' L er,r=.returned (.tuple #[.agg #[.bool neg',.int .i64 e',.slice a' n' c'],.int .i64 er])/\Qo4 neg v e neg' e' L er/\WordsIn w' a' n' c' L/\Below w.heap.size w w':=by
 obtain ⟨W0,hW0⟩:∃W0,(w.alloc (.cells #[.bool neg,.slice a n c,.int .i64 e] 56)).alloc (.cells #[.bool false,.int .i64 0,.slice none 0 0] 41)=W0:=⟨_,rfl⟩
 have hsz:(w.alloc (.cells #[.bool neg,.slice a n c,.int .i64 e] 56)).heap.size=w.heap.size+1:=World.size_alloc _ _
 have hb0:Below w.heap.size w W0:=by rw[<-hW0];exact Below.next0 ((Below.refl _ _).alloc (Nat.le_refl _) _) ((Below.refl _ _).alloc (Nat.le_refl _) _)
 have hV:Q04 W0 w.heap.size (.bool neg) (.slice a n c) (.int .i64 e):=by
  rw[<-hW0]
  exact (Q04.new w _ _ _ 56).step ((Below.refl _ _).alloc (Nat.le_refl _) _) (Q0f _ _)
 have hN:Q04 W0 (w.heap.size+1) (.bool false) (.int .i64 0) (.slice none 0 0):=by
  rw[<-hW0,<-hsz]
  exact Q04.new _ _ _ _ _
 have hl0:w.heap.size+1<W0.heap.size:=by
  have h1:=Q0f (w.alloc (.cells #[.bool neg,.slice a n c,.int .i64 e] 56)) (.cells #[.bool false,.int .i64 0,.slice none 0 0] 41)
  rw[hW0,hsz] at h1
  exact h1
 by_cases h0:v=0
 ·have hn0:n=0:=by have:=h.len;rw[h0,Q0x] at this;exact this.symm
  subst hn0
  have HS:=Xh2 (hN.store (.bool false) (.int .i64 0) (.slice none 0 0)) (Q04.below hb0 (Nat.le_succ _) (b:=w.heap.size+1) (.bool false) (.int .i64 0) (.slice none 0 0))
  have hv1:=hV.c1
  have hc0:=hN.c0
  have hc1:=hN.c1
  have hc2:=hN.c2
  have hf0:=hN.f0
  have hf1:=hN.f1
  have hf2:=hN.f2
  have hd1:=hN.d1 (.bool false)
  have hd2:=hN.d2 (.bool false) (.int .i64 0)
  have HW:=Lib.hid hW0
  clear hN hV hb0 h hW0
  go_enter Tryz.func146,Tryz.ntmps146
  go_upto_region 1 with fail
  rw[HW.out]
  go_wp2_with fail
  have k0:=(Xo0 HS).c0
  have k1:=(Xo0 HS).c1
  have k2:=(Xo0 HS).c2
  have hb3:=(Xe1 HS)
  clear HS hc0 hc1 hc2 hf0 hf1 hf2 hd1 hd2
  generalize World.setCell _ _ _=W3 at k0 k1 k2 hb3⊢
  refine ⟨rfl,.tuple #[.agg #[.bool false,.int .i64 0,.slice none 0 0],.int .i64 0],by simp[results,go_sem,k0,k1,k2],false,0,none,0,0,[],0,rfl,.inl ⟨h0,rfl,rfl,rfl,rfl⟩,WordsIn.nil_ _,hb3⟩
 ·have hn0:n≠0:=fun e=>h0 ((Q4m (B:=2^32) (by decide)).1 (List.length_eq_zero_iff.1 (by rw[h.len,e])))
  have hn0':((n:Int)==0)=false:=by rw[beq_eq_false_iff_ne];omega
  have hw:=Qen a n c v W0 ⟨h.len,h.cap,h.most,(h.rd.below hb0).more hb0.size⟩ hn
  have HW:=Xh2 hW0 hw
  have HN:=Xh5 hV hN hl0 h0 hb0
  have hv1:=hV.c1
  clear hw hW0 hV hN h h0 hb0
  by_cases hlen:(dig (2^64) v).length<=64
  ·have hlenI:((dig (2^64) v).length:Int)<=64:=by omega
   by_cases hlo:e< -65536
   ·have hfit:¬Fit v e:=fun h=>by have:=h.2.1;omega
    have HF:=Lib.hid hfit
    clear hfit
    obtain ⟨N,hNl⟩:∃N,(dig (2^64) v).length=N:=⟨_,rfl⟩
    rw[hNl] at hlen hlenI
    go_enter Tryz.func146,Tryz.ntmps146
    go_upto_region 1 with fail
    rw[(Xo0 HW)]
    go_wp2_with (refine (Xe1 HW).mono ?_;rintro r w1 ⟨a2,n2,c2,rfl,hW1,hb1⟩;have hn2:N=n2:=by { rw[<-hNl];exact hW1.len };subst hn2;
                 have hV1:=(Xo0 HN).step hb1 (Nat.lt_of_succ_lt (Xo2 HN));
                 have hN1:=(Xo1 HN).step hb1 (Xo2 HN);
                 have hc0:=hN1.c0;have hc1:=hN1.c1;have hc2:=hN1.c2;have hf0:=hN1.f0;have hf1:=hN1.f1;have hf2:=hN1.f2;have hd1:=hN1.d1 (.bool false);have hd2:=hN1.d2 (.bool false) (.int .i64 0);
                 have hg0:=hV1.c0;have hg1:=hV1.c1;have hg2:=hV1.c2;
                 have HB1:=Xh3 hN1 (Below.next0 (Xe4 HN) hb1) hW1;clear hN1 hV1 hb1 hW1)
    have hS:=(Xo0 HB1).store (.bool false) (.int .i64 0) (.slice none 0 0)
    have k0:=hS.c0
    have k1:=hS.c1
    have k2:=hS.c2
    have hb5:=Q04.below (Xo1 HB1) (Nat.le_succ _) (b:=w.heap.size+1) (.bool false) (.int .i64 0) (.slice none 0 0)
    have hW5:WordsIn _ a2 N c2 (dig (2^64) v):=⟨(Xe2 HB1).len,(Xe2 HB1).cap,(Xe2 HB1).most,(Xe2 HB1).low,((Xe2 HB1).rd.store3 (Xo0 HB1) (fun _=>by simp[nv]) (fun _=>by simp[nv]) (fun _=>by simp[nv]) (.bool false) (.int .i64 0) (.slice none 0 0)).more (Q14 _ _ _ _ _)⟩
    clear hS hc0 hc1 hc2 hf0 hf1 hf2 hd1 hd2 hg0 hg1 hg2
    generalize World.setCell _ _ _=W5 at k0 k1 k2 hb5 hW5⊢
    refine ⟨rfl,.tuple #[.agg #[.bool false,.int .i64 0,.slice none 0 0],.int .i64 2],by simp[results,go_sem,k0,k1,k2],false,0,none,0,0,[],2,rfl,.inr (.inl ⟨(Xo3 HN),HF.out,rfl,rfl,rfl,rfl⟩),WordsIn.nil_ _,hb5⟩
   ·by_cases hhi:65536<e
    ·have hfit:¬Fit v e:=fun h=>by have:=h.2.2;omega
     have HF:=Lib.hid hfit
     clear hfit
     obtain ⟨N,hNl⟩:∃N,(dig (2^64) v).length=N:=⟨_,rfl⟩
     rw[hNl] at hlen hlenI
     go_enter Tryz.func146,Tryz.ntmps146
     go_upto_region 1 with fail
     rw[(Xo0 HW)]
     go_wp2_with (refine (Xe1 HW).mono ?_;rintro r w1 ⟨a2,n2,c2,rfl,hW1,hb1⟩;have hn2:N=n2:=by { rw[<-hNl];exact hW1.len };subst hn2;
                  have hV1:=(Xo0 HN).step hb1 (Nat.lt_of_succ_lt (Xo2 HN));
                  have hN1:=(Xo1 HN).step hb1 (Xo2 HN);
                  have hc0:=hN1.c0;have hc1:=hN1.c1;have hc2:=hN1.c2;have hf0:=hN1.f0;have hf1:=hN1.f1;have hf2:=hN1.f2;have hd1:=hN1.d1 (.bool false);have hd2:=hN1.d2 (.bool false) (.int .i64 0);
                  have hg0:=hV1.c0;have hg1:=hV1.c1;have hg2:=hV1.c2;
                  have HB1:=Xh3 hN1 (Below.next0 (Xe4 HN) hb1) hW1;clear hN1 hV1 hb1 hW1)
     have hS:=(Xo0 HB1).store (.bool false) (.int .i64 0) (.slice none 0 0)
     have k0:=hS.c0
     have k1:=hS.c1
     have k2:=hS.c2
     have hb5:=Q04.below (Xo1 HB1) (Nat.le_succ _) (b:=w.heap.size+1) (.bool false) (.int .i64 0) (.slice none 0 0)
     have hW5:WordsIn _ a2 N c2 (dig (2^64) v):=⟨(Xe2 HB1).len,(Xe2 HB1).cap,(Xe2 HB1).most,(Xe2 HB1).low,((Xe2 HB1).rd.store3 (Xo0 HB1) (fun _=>by simp[nv]) (fun _=>by simp[nv]) (fun _=>by simp[nv]) (.bool false) (.int .i64 0) (.slice none 0 0)).more (Q14 _ _ _ _ _)⟩
     clear hS hc0 hc1 hc2 hf0 hf1 hf2 hd1 hd2 hg0 hg1 hg2
     generalize World.setCell _ _ _=W5 at k0 k1 k2 hb5 hW5⊢
     refine ⟨rfl,.tuple #[.agg #[.bool false,.int .i64 0,.slice none 0 0],.int .i64 2],by simp[results,go_sem,k0,k1,k2],false,0,none,0,0,[],2,rfl,.inr (.inl ⟨(Xo3 HN),HF.out,rfl,rfl,rfl,rfl⟩),WordsIn.nil_ _,hb5⟩
    ·have hfit:Fit v e:=⟨hlen,by omega,by omega⟩
     have HF:=Lib.hid hfit
     clear hfit
     obtain ⟨N,hNl⟩:∃N,(dig (2^64) v).length=N:=⟨_,rfl⟩
     rw[hNl] at hlen hlenI
     go_enter Tryz.func146,Tryz.ntmps146
     go_upto_region 1 with fail
     rw[(Xo0 HW)]
     go_wp2_with (refine (Xe1 HW).mono ?_;rintro r w1 ⟨a2,n2,c2,rfl,hW1,hb1⟩;have hn2:N=n2:=by { rw[<-hNl];exact hW1.len };subst hn2;
                  have hV1:=(Xo0 HN).step hb1 (Nat.lt_of_succ_lt (Xo2 HN));
                  have hN1:=(Xo1 HN).step hb1 (Xo2 HN);
                  have hc0:=hN1.c0;have hc1:=hN1.c1;have hc2:=hN1.c2;have hf0:=hN1.f0;have hf1:=hN1.f1;have hf2:=hN1.f2;have hd1:=hN1.d1 (.bool neg);have hd2:=hN1.d2 (.bool neg) (.int .i64 e);
                  have hg0:=hV1.c0;have hg1:=hV1.c1;have hg2:=hV1.c2;
                  have HB1:=Xh3 hN1 (Below.next0 (Xe4 HN) hb1) hW1;clear hN1 hV1 hb1 hW1)
     have hS:=(Xo0 HB1).store (.bool neg) (.int .i64 e) (.slice a2 N c2)
     have k0:=hS.c0
     have k1:=hS.c1
     have k2:=hS.c2
     have hb5:=Q04.below (Xo1 HB1) (Nat.le_succ _) (b:=w.heap.size+1) (.bool neg) (.int .i64 e) (.slice a2 N c2)
     have hW5:WordsIn _ a2 N c2 (dig (2^64) v):=⟨(Xe2 HB1).len,(Xe2 HB1).cap,(Xe2 HB1).most,(Xe2 HB1).low,((Xe2 HB1).rd.store3 (Xo0 HB1) (fun _=>by simp[nv]) (fun _=>by simp[nv]) (fun _=>by simp[nv]) (.bool neg) (.int .i64 e) (.slice a2 N c2)).more (Q14 _ _ _ _ _)⟩
     clear hS hc0 hc1 hc2 hf0 hf1 hf2 hd1 hd2 hg0 hg1 hg2
     generalize World.setCell _ _ _=W5 at k0 k1 k2 hb5 hW5⊢
     refine ⟨rfl,.tuple #[.agg #[.bool neg,.int .i64 e,.slice a2 N c2],.int .i64 0],by simp[results,go_sem,k0,k1,k2],neg,e,a2,N,c2,_,0,rfl,.inr (.inr ⟨(Xo3 HN),HF.out,rfl,rfl,rfl,rfl⟩),hW5,hb5⟩
  ·have hlenI:¬((dig (2^64) v).length:Int)<=64:=by omega
   have hfit:¬Fit v e:=fun h=>hlen h.1
   have HF:=Lib.hid hfit
   clear hfit
   obtain ⟨N,hNl⟩:∃N,(dig (2^64) v).length=N:=⟨_,rfl⟩
   rw[hNl] at hlen hlenI
   go_enter Tryz.func146,Tryz.ntmps146
   go_upto_region 1 with fail
   rw[(Xo0 HW)]
   go_wp2_with (refine (Xe1 HW).mono ?_;rintro r w1 ⟨a2,n2,c2,rfl,hW1,hb1⟩;have hn2:N=n2:=by { rw[<-hNl];exact hW1.len };subst hn2;
                have hV1:=(Xo0 HN).step hb1 (Nat.lt_of_succ_lt (Xo2 HN));
                have hN1:=(Xo1 HN).step hb1 (Xo2 HN);
                have hc0:=hN1.c0;have hc1:=hN1.c1;have hc2:=hN1.c2;have hf0:=hN1.f0;have hf1:=hN1.f1;have hf2:=hN1.f2;have hd1:=hN1.d1 (.bool false);have hd2:=hN1.d2 (.bool false) (.int .i64 0);
                have hg0:=hV1.c0;have hg1:=hV1.c1;have hg2:=hV1.c2;
                have HB1:=Xh3 hN1 (Below.next0 (Xe4 HN) hb1) hW1;clear hN1 hV1 hb1 hW1)
   have hS:=(Xo0 HB1).store (.bool false) (.int .i64 0) (.slice none 0 0)
   have k0:=hS.c0
   have k1:=hS.c1
   have k2:=hS.c2
   have hb5:=Q04.below (Xo1 HB1) (Nat.le_succ _) (b:=w.heap.size+1) (.bool false) (.int .i64 0) (.slice none 0 0)
   have hW5:WordsIn _ a2 N c2 (dig (2^64) v):=⟨(Xe2 HB1).len,(Xe2 HB1).cap,(Xe2 HB1).most,(Xe2 HB1).low,((Xe2 HB1).rd.store3 (Xo0 HB1) (fun _=>by simp[nv]) (fun _=>by simp[nv]) (fun _=>by simp[nv]) (.bool false) (.int .i64 0) (.slice none 0 0)).more (Q14 _ _ _ _ _)⟩
   clear hS hc0 hc1 hc2 hf0 hf1 hf2 hd1 hd2 hg0 hg1 hg2
   generalize World.setCell _ _ _=W5 at k0 k1 k2 hb5 hW5⊢
   refine ⟨rfl,.tuple #[.agg #[.bool false,.int .i64 0,.slice none 0 0],.int .i64 2],by simp[results,go_sem,k0,k1,k2],false,0,none,0,0,[],2,rfl,.inr (.inl ⟨(Xo3 HN),HF.out,rfl,rfl,rfl,rfl⟩),WordsIn.nil_ _,hb5⟩
section
variable {w w':World} {B:Nat} {e:TypeId} {k:Nat} {g n c:Nat} {xs:List Value}
theorem Row.cell0 (h:Row w B e k (some ⟨g,0,none⟩) n c xs) {j:Nat} {x:Value} (hx:xs[j]?=some x):w.cell? ⟨g,j,none⟩=some x:=by
 obtain ⟨g',e1,_,_,hc⟩:=h.at_ hx
 injection e1 with e1;injection e1 with e1;subst e1
 exact hc
theorem Row.frozen0 (h:Row w B e k (some ⟨g,0,none⟩) n c xs) (i:Nat):w.frozen? ⟨g,i,none⟩=false:=by
 rcases h.form with ⟨h0,_⟩|⟨g',cur,e1,_,_,hh,_⟩
 ·cases h0
 ·injection e1 with e1;injection e1 with e1;subst e1
  exact frozen_of_row _ _ _ _ _ hh
theorem Row.set0 (h:Row w B e k (some ⟨g,0,none⟩) n c xs) (i:Nat) (u:Value):Row (w.setCell ⟨g,i,none⟩ u) B e k (some ⟨g,0,none⟩) n c (xs.set i u):=by
 rcases h.form with ⟨h0,_⟩|⟨g',cur,e1,hB,hg,hh,hn,hc,hs,ht⟩
 ·cases h0
 ·injection e1 with e1;injection e1 with e1;subst e1
  refine ⟨by rw[List.length_set];exact h.1,.inr ⟨g,c,cur.setIfInBounds i u,rfl,hB,heap_setCell_same _ _ _ _ _ _ hh,hn,hc,by simpa using hs,?_⟩⟩
  rw[Array.toList_setIfInBounds,List.take_set,ht]
theorem Row.fresh (h:Row w B e k (some ⟨g,0,none⟩) n c xs):B<=g/\g<w.heap.size:=by
 rcases h.form with ⟨h0,_⟩|⟨g',cur,e1,hB,hg,_⟩
 ·cases h0
 ·injection e1 with e1;injection e1 with e1;subst e1;exact ⟨hB,hg⟩
end
theorem Row.words {w:World} {B:Nat} {a:Option Addr} {n c:Nat} {L:List Nat} (h:Row w B 74 1 a n c (L.map (nv .u64))) (hl:Low (2^64) L):WordsIn w a n c L:=
 ⟨by have:=h.len;simpa using this,h.cap.1,by have:=h.cap.2;simpa[maxLen] using this,hl,Row.rdI h⟩
theorem Row.setW {w:World} {B g n c:Nat} {L:List Nat} (h:Row w B 74 1 (some ⟨g,0,none⟩) n c (L.map (nv .u64))) (i x:Nat):Row (w.setCell ⟨g,i,none⟩ (.int .u64 (x:Int))) B 74 1 (some ⟨g,0,none⟩) n c ((L.set i x).map (nv .u64)):=by
 rw[List.map_set];exact h.set0 i _
theorem Qi0 (a:Option Addr) (n c:Nat) (ls:List Nat) (w:World) (h:WordsIn w a n c ls) (hn:n<=1000000) (h0:val (2^64) ls≠0):
 Calls Tryz.prog 150 #[.slice a n c] w fun e w'=>∃g c',e=.returned (.slice (some ⟨g,0,none⟩) (trimL ls).length c')/\Row w' w.heap.size 74 1 (some ⟨g,0,none⟩) (trimL ls).length c' ((trimL ls).map (nv .u64))/\Below w.heap.size w w':=by
 have hc:=Q1e a n c ls w h
 have hT:=fun W (hb:Below w.heap.size w W)=>(h.step hb).trim
 have hne:trimL ls≠[]:=fun e=>h0 (by rw[<-Q1b ls,e];rfl)
 have htl:=trim_len ls
 have hln:=h.len
 obtain ⟨b,o,rfl⟩:∃b o,a=some ⟨b,o,none⟩:=by
  rcases (hT w (Below.refl _ _)).rd with e|⟨b,o,e,_⟩
  ·exact absurd e hne
  ·exact ⟨b,o,e⟩
 obtain ⟨D,hD⟩:∃D,trimL ls=D:=⟨_,rfl⟩
 rw[hD] at hc hT htl hne⊢
 obtain ⟨i0,hi0,hz0,hz1,hz2⟩:∃i0:TypeInfo,Tryz.prog.info? 74=some i0/\i0.zero=some (.int .u64 0)/\i0.size=1/\i0.bytes=8:=by
  have:=Q4w
  cases hi:Tryz.prog.info? 74 with
  |none=>rw[hi] at this;cases this
  |some i0=>
   rw[hi] at this
   simp only[Option.map_some,Option.some.injEq,Prod.mk.injEq] at this
   exact ⟨i0,rfl,this.1,this.2.1,this.2.2⟩
 have hcl:=fun W (hW:WordsIn W (some ⟨b,o,none⟩) D.length c D)=>Tryz.Qyp i0 (.int .u64 0) 1 8 hi0 hz0 hz1 hz2 rfl (by decide) Qdj b o D.length c (D.map (nv .u64)) W (by simp) (by unfold maxLen;omega) (by omega) (fun j u hu=>by
  rw[List.getElem?_map] at hu
  cases hx:D[j]? with
  |none=>rw[hx] at hu;cases hu
  |some x=>
   rw[hx] at hu
   simp only[Option.map_some,Option.some.injEq] at hu
   subst hu
   obtain ⟨b',o',e,_,hc'⟩:=hW.rd.at_ hx
   injection e with e;injection e with e1 e2;subst e1 e2
   exact hc') (Qnr _ _)
 have HC:=Xh3 hc hT hcl
 have HN:=Lib.hid hne
 clear hc hT hcl h hi0 hz0 hz1 hz2 h0 hD hne
 go_enter Tryz.func150,Tryz.ntmps150
 go_wp2_with (first
  |(go_at_call_of 143 (some ⟨b,o,none⟩:Option Addr);refine (Xo0 HC).mono ?_;rintro e w1 ⟨rfl,hb1⟩;have HB1:=Lib.hid hb1;clear hb1)
  |(refine ((Xe2 HC) _ ((Xo1 HC) _ HB1.out)).mono ?_;rintro e w2 ⟨v',rfl,hown,hnn,hb2⟩;have HB2:=Xh3 hown hnn hb2;clear hown hnn hb2))
 go_ret
 obtain ⟨hl,⟨e,_⟩|⟨g,cap,cur,rfl,hg0,hg,hnc,hcm,hcs,htk⟩⟩:=(Xo0 HB2)
 ·exact absurd e (Xo1 HB2)
 ·have hr:Row w2 w1.heap.size 74 1 (some ⟨g,0,none⟩) D.length cap (D.map (nv .u64)):=⟨hl,.inr ⟨g,cap,cur,rfl,hg0,hg,hnc,hcm,hcs,htk⟩⟩
  exact ⟨_,_,rfl,hr.lower HB1.out.size,Below.next0 HB1.out (Xe2 HB2)⟩
theorem Qeo (x y b:Nat) (hb:b<=1) (w:World):
 (callFunc 151 #[.int .u64 x,.int .u64 y,.int .u64 b]).run Tryz.prog w=
   .ok (.value (.tuple #[.int .u64 (((x+18446744073709551616-y-b)%18446744073709551616:Nat):Int),.int .u64 ((if x<y+b then 1 else 0:Nat):Int)])) w:=by
 rw[run_callFunc_extern Tryz.func151 (by kernel_rfl) (by kernel_rfl) (by kernel_rfl) (e:=sub64Entry) (by kernel_rfl),run_sub64 x y b hb]
 rfl
theorem Qjs {B:Nat} {L:List Nat} {i x y b b' d V T:Nat} (hx:L[i]?=some x) (h:val B L+T=V+b*B^i) (hd:x+b'*B=y+b+d):val B (L.set i d)+(T+B^i*y)=V+b'*B^(i+1):=by
 have h1:=Q8j (B:=B) L i d x hx
 have h2:(x+b'*B)*B^i=(y+b+d)*B^i:=by rw[hd]
 rw[Nat.add_mul,Nat.add_mul,Nat.add_mul] at h2
 rw[Nat.pow_succ,Nat.mul_comm (B^i) y,Nat.mul_comm (B^i) B,<-Nat.mul_assoc]
 omega
theorem Qep (x y b:Nat) (hx:x<18446744073709551616) (hy:y<18446744073709551616) (hb:b<=1):∃d b',(x+18446744073709551616-y-b)%18446744073709551616=d/\(if x<y+b then 1 else 0)=b'/\b'<=1/\d<18446744073709551616/\x+b'*2^64=y+b+d:=by
 refine ⟨_,_,rfl,rfl,by split <;> omega,Nat.mod_lt _ (by decide),?_⟩
 show x+(if x<y+b then 1 else 0)*18446744073709551616=_
 split <;> omega
theorem Q8m (a:Option Addr) (n c:Nat) (ls:List Nat) (b:Option Addr) (m d:Nat) (ks:List Nat) (w:World) (h1:WordsIn w a n c ls) (h2:WordsIn w b m d ks) (hn:n<=100000) (h0:val (2^64) ls≠0):
 Calls Tryz.prog 102 #[.slice a n c,.slice b m d] w fun e w'=>∃a' n' c' ok,e=.returned (.tuple #[.slice a' n' c',.bool ok])/\ok=decide (val (2^64) ks<=val (2^64) ls)/\(ok=true->WordsIn w' a' n' c' (dig (2^64) (val (2^64) ls-val (2^64) ks)))/\Below w.heap.size w w':=by
 have hl1:=h1.len
 have hl2:=h2.len
 have hcm:=Q8k a n c ls b m d ks w h1 h2 hn
 have H1:=Lib.hid h1
 have H2:=Lib.hid h2
 clear h1 h2
 by_cases hlt:val (2^64) ls<val (2^64) ks
 ·have hcm':Calls Tryz.prog 149 #[.slice a n c,.slice b m d] w fun e w'=>(∃r:Int,e=.returned (.int .i64 r)/\r<0)/\Below w.heap.size w w':=by
   refine hcm.mono ?_
   rintro e w' ⟨⟨r,rfl,h3,_⟩,hb⟩
   exact ⟨⟨r,rfl,h3.2 hlt⟩,hb⟩
  have HC:=Xh2 hcm' hlt
  clear hcm hcm' hlt
  go_enter Tryz.func102,Tryz.ntmps102
  go_wp2_with fail
  go_step3
  go_wp2_with (refine (Xo0 HC).mono ?_;rintro e w1 ⟨⟨r,rfl,hr⟩,hb1⟩;have HB1:=Lib.hid hb1;clear hb1)
  rw[Exit.noGoto_ret]
  refine ⟨rfl,.tuple #[.slice none 0 0,.bool false],by simp[results,go_sem],none,0,0,false,rfl,by rw[eq_comm,decide_eq_false_iff_not];exact Nat.not_le.2 (Xe1 HC),fun h=>(by cases h),HB1.out⟩
 ·have hcm':Calls Tryz.prog 149 #[.slice a n c,.slice b m d] w fun e w'=>(∃r:Int,e=.returned (.int .i64 r)/\¬r<0)/\Below w.heap.size w w':=by
   refine hcm.mono ?_
   rintro e w' ⟨⟨r,rfl,h3,_⟩,hb⟩
   exact ⟨⟨r,rfl,fun h=>hlt (h3.1 h)⟩,hb⟩
  have hle:val (2^64) ks<=val (2^64) ls:=Nat.not_lt.1 hlt
  have htr:=fun W (hb:Below w.heap.size w W)=>Qi0 a n c ls W (H1.out.step hb) (by omega) h0
  have htl:=trim_len ls
  have htk:=trim_len ks
  have HC:=Xh3 hcm' hle htr
  clear hcm hcm' hlt hle htr
  go_enter Tryz.func102,Tryz.ntmps102
  go_wp2_with fail
  go_step3
  go_wp2_with (first
   |(go_at_call_of 149 a;refine (Xo0 HC).mono ?_;rintro e w1 ⟨⟨r,rfl,hr⟩,hb1⟩;have HB1:=Lib.hid hb1;clear hb1)
   |(go_at_call_of 150 a;refine ((Xe2 HC) w1 HB1.out).mono ?_;rintro e w2 ⟨g,c2,rfl,hr2,hb2⟩;have HB2:=Xh2 (hr2.lower HB1.out.size) (Below.next0 HB1.out hb2);clear hr2 hb2)
   |(go_at_call_of 143 b;refine (Q1e b m d ks _ (H2.out.step (Xe1 HB2))).mono ?_;rintro e w3 ⟨rfl,hb3⟩;have HB3:=Xh2 ((Xo0 HB2).call hb3) (Below.next0 (Xe1 HB2) hb3);clear hb3))
  have hlowA:=Qdh H1.out.low
  have hK:=(H2.out.step (Xe1 HB3)).trim
  have hvA:=Q1b (B:=2^64) ls
  have hvK:=Q1b (B:=2^64) ks
  have hfr:=(Xo0 HB3).fresh
  obtain ⟨A,hA⟩:∃A,trimL ls=A:=⟨_,rfl⟩
  obtain ⟨K,hKe⟩:∃K,trimL ks=K:=⟨_,rfl⟩
  rw[hA] at hlowA hvA htl HB3
  rw[hKe] at hK hvK htk
  have hkr:=H2.out.rd.step (Xe1 HB3)
  have HA:=Xh4 hlowA hvA hvK hK.low
  have HS:=Xh3 (Xo0 HB3) (Xe1 HB3) hfr
  have hKrd:RdI .u64 w w.heap.size b K:=by
   rw[<-hKe,<-Q3y ks];exact H2.out.rd.front _
  have HK:=Lib.hid hKrd
  have hKA:K.length<=A.length:=by
   rw[<-hA,<-hKe,Q1j (by decide) H1.out.low,Q1j (by decide) H2.out.low]
   exact Q99 (by decide) (Xo1 HC)
  have HLE:=Lib.hid (Xo1 HC)
  rw[hA,hKe]
  clear hlowA hK hvA hvK hfr hkr hKrd HB1 HB2 HB3 HC hA hKe
  go_loopw [7,20] (fun cv iv wr=>∃(i br:Nat) (L:List Nat),cv=.int .u64 (br:Int)/\iv=.int .i64 (i:Int)/\i<=K.length/\br<=1/\Row wr w.heap.size 74 1 (some ⟨g,0,none⟩) A.length c2 (L.map (nv .u64))/\L.length=A.length/\Low (2^64) L/\val (2^64) L+val (2^64) (K.take i)=val (2^64) A+br*(2^64)^i/\Below w.heap.size w wr) (fun _ iv _=>K.length-(intOf iv).toNat)
  case atStart=>exact ⟨0,0,A,rfl,rfl,Nat.zero_le _,Nat.zero_le _,(Xo0 HS),rfl,(Xo0 HA),by simp[val],(Xo1 HS)⟩
  case round=>
   obtain ⟨i,br,L,rfl,rfl,hi,hbr,hL,hLl,hLow,hval,hbw⟩:=hrel
   by_cases hlt:i<K.length
   ·have hlt':(i:Int)<(K.length:Int):=by omega
    obtain ⟨x,hx⟩:∃x,L[i]?=some x:=⟨_,List.getElem?_eq_getElem (by omega)⟩
    obtain ⟨y,hy⟩:∃y,K[i]?=some y:=⟨_,List.getElem?_eq_getElem (by omega)⟩
    obtain ⟨b2,o2,rfl,hb2,hcy⟩:=(HK.out.below hbw).at_ hy
    have hxl:x<18446744073709551616:=hLow x (List.mem_of_getElem? hx)
    have hyl:y<18446744073709551616:=(Xe3 HA) y (List.mem_of_getElem? hy)
    obtain ⟨z,c3,hz,hc3,hc3l,hzl,hsd⟩:=Qep x y br hxl hyl hbr
    have hsub:=fun W=>Qeo x y br hbr W
    rw[hz,hc3] at hsub
    have hstep:=Qjs hx hval hsd
    have HST:=Lib.hid hstep
    clear hz hc3 hstep hsd
    have hcell:=Row.cell0 hL (j:=i) (x:=.int .u64 (x:Int)) (by rw[List.getElem?_map,hx];rfl)
    have cx:wr.drew.cell? ⟨g,i,none⟩=some (.int .u64 (x:Int)):=hcell
    have cy:wr.drew.cell? ⟨b2,o2+i,none⟩=some (.int .u64 (y:Int)):=hcy
    have fx:wr.drew.frozen? ⟨g,i,none⟩=false:=hL.frozen0 i
    have hiA:(i:Int)<(A.length:Int):=by omega
    have HH:=Xh4 hL hLow hbw hy
    clear hL hLow hval hbw hx hy hcy hcell
    go_wp2_with fail
    go_region_law (fail)
    all_goals go_wp2_with fail
    all_goals
     obtain ⟨hL,hLow,hbw,hy⟩:=HH.out
     refine ⟨⟨i+1,c3,L.set i z,rfl,by simp,by omega,hc3l,hL.setW i z,by simp[hLl],Q3q hLow hzl,?_,(hbw.setCell (p:=⟨g,i,none⟩) (Xo2 HS) _).drew⟩,by simp only[intOf];omega⟩
     rw[Q13 K i y hy,HST.out]
   ·obtain rfl:i=K.length:=by omega
    have hlt':¬((K.length:Int)<(K.length:Int)):=by omega
    rw[List.take_length] at hval
    have HH:=Xh4 hL hLow hval hbw
    clear hL hLow hval hbw
    go_wp2_with fail
    go_step3
    go_wp2_with fail
    go_loopw [7,9] (fun cv iv wr=>∃(j br:Nat) (L:List Nat),cv=.int .u64 (br:Int)/\iv=.int .i64 (j:Int)/\j<=A.length/\br<=1/\Row wr w.heap.size 74 1 (some ⟨g,0,none⟩) A.length c2 (L.map (nv .u64))/\L.length=A.length/\Low (2^64) L/\val (2^64) L+val (2^64) K=val (2^64) A+br*(2^64)^j/\Below w.heap.size w wr) (fun _ iv _=>A.length-(intOf iv).toNat)
    case atStart=>exact ⟨K.length,br,L,rfl,rfl,hKA,hbr,(Xo0 HH),hLl,(Xo1 HH),(Xo2 HH),(Xe3 HH)⟩
    case round=>
     clear hLl hbr HH
     obtain ⟨j,br,L,rfl,rfl,hj,hbr,hL,hLl,hLow,hval,hbw⟩:=hrel
     by_cases hend:j<A.length/\br=1
     ·obtain ⟨hlt,rfl⟩:=hend
      have hlt':(j:Int)<(A.length:Int):=by omega
      obtain ⟨x,hx⟩:∃x,L[j]?=some x:=⟨_,List.getElem?_eq_getElem (by omega)⟩
      have hxl:x<18446744073709551616:=hLow x (List.mem_of_getElem? hx)
      obtain ⟨z,c3,hz,hc3,hc3l,hzl,hsd⟩:=Qep x 0 1 hxl (by decide) (by decide)
      have hsub:∀W,(callFunc 151 #[.int .u64 (x:Int),.int .u64 0,.int .u64 1]).run Tryz.prog W=.ok (.value (.tuple #[.int .u64 (z:Int),.int .u64 (c3:Int)])) W:=fun W=>by
       have:=Qeo x 0 1 (by decide) W
       rw[hz,hc3] at this
       exact this
      have hstep:=Qjs hx hval hsd
      rw[Nat.mul_zero,Nat.add_zero] at hstep
      have cx:wr.cell? ⟨g,j,none⟩=some (.int .u64 (x:Int)):=Row.cell0 hL (j:=j) (x:=.int .u64 (x:Int)) (by rw[List.getElem?_map,hx];rfl)
      have fx:wr.frozen? ⟨g,j,none⟩=false:=hL.frozen0 j
      have HST:=Xh4 hstep hL hLow hbw
      clear hz hc3 hstep hL hLow hval hbw hx hsd
      go_wp2_with fail
      exact ⟨⟨j+1,c3,L.set j z,rfl,by simp,by omega,hc3l,(Xo1 HST).setW j z,by simp[hLl],Q3q (Xo2 HST) hzl,(Xo0 HST),(Xe3 HST).setCell (p:=⟨g,j,none⟩) (Xo2 HS) _⟩,by simp only[intOf];omega⟩
     ·have hb0:br=0:=by
       rcases Nat.lt_or_ge br 1 with h|h
       ·omega
       ·exfalso
        obtain rfl:br=1:=by omega
        obtain rfl:j=A.length:=by
         refine Nat.le_antisymm hj (Nat.not_lt.1 fun h'=>hend ⟨h',rfl⟩)
        have h1:=Q2o (B:=2^64) (by decide) L hLow
        rw[hLl] at h1
        have h2:=HLE.out
        rw[<-(Xo1 HA),<-(Xo2 HA)] at h2
        omega
      subst hb0
      rw[Nat.zero_mul,Nat.add_zero] at hval
      have hvl:val (2^64) L=val (2^64) ls-val (2^64) ks:=by rw[<-(Xo1 HA),<-(Xo2 HA)];omega
      have hW:=hL.words hLow
      have hdig:trimL L=dig (2^64) (val (2^64) ls-val (2^64) ks):=by rw[Q1j (by decide) hLow,hvl]
      have hok:(true:Bool)=decide (val (2^64) ks<=val (2^64) ls):=(decide_eq_true HLE.out).symm
      have HE:=Xh4 hW hbw hdig hok
      clear hvl hW hbw hdig hok hval hL hLow hend
      by_cases hlt:j<A.length
      ·have hlt':(j:Int)<(A.length:Int):=by omega
       go_wp2_with (refine (Q1e _ _ _ _ _ (Xo0 HE)).mono ?_;rintro e w5 ⟨rfl,hb5⟩;have HB5:=Lib.hid hb5;clear hb5)
       rw[Exit.noGoto_ret]
       have hout:=((Xo0 HE).step HB5.out).trim
       rw[(Xo2 HE)] at hout⊢
       exact ⟨rfl,.tuple #[.slice (some ⟨g,0,none⟩) (dig (2^64) (val (2^64) ls-val (2^64) ks)).length c2,.bool true],by simp[results,go_sem],_,_,_,true,rfl,(Xe3 HE),fun _=>hout,Below.next0 (Xo1 HE) HB5.out⟩
      ·obtain rfl:j=A.length:=by omega
       have hlt':¬((A.length:Int)<(A.length:Int)):=by omega
       go_wp2_with (refine (Q1e _ _ _ _ _ (Xo0 HE)).mono ?_;rintro e w5 ⟨rfl,hb5⟩;have HB5:=Lib.hid hb5;clear hb5)
       rw[Exit.noGoto_ret]
       have hout:=((Xo0 HE).step HB5.out).trim
       rw[(Xo2 HE)] at hout⊢
       exact ⟨rfl,.tuple #[.slice (some ⟨g,0,none⟩) (dig (2^64) (val (2^64) ls-val (2^64) ks)).length c2,.bool true],by simp[results,go_sem],_,_,_,true,rfl,(Xe3 HE),fun _=>hout,Below.next0 (Xo1 HE) HB5.out⟩
theorem Q5v {B:Nat} {a w:World} (h:Below B a w) (k:Nat):Below B a (w.drewN k):=⟨h.os,h.tape,h.output,h.size,h.block⟩
theorem Qan (w:World) (neg:Bool) (exp:Int) (a:Option Addr) (n c:Nat) (T:TypeId):
 w.heap.size<(w.alloc (.cells #[.bool neg,.int .i64 exp,.slice a n c] T)).heap.size/\(w.alloc (.cells #[.bool neg,.int .i64 exp,.slice a n c] T)).cell? ⟨w.heap.size,0,none⟩=some (.bool neg)/\(w.alloc (.cells #[.bool neg,.int .i64 exp,.slice a n c] T)).cell? ⟨w.heap.size,1,none⟩=some (.int .i64 exp)/\(w.alloc (.cells #[.bool neg,.int .i64 exp,.slice a n c] T)).cell? ⟨w.heap.size,2,none⟩=some (.slice a n c):=
 ⟨(Array.getElem?_eq_some_iff.1 (heap_alloc_new w _)).1,by rw[cell_of_row _ _ _ _ _ _ (heap_alloc_new _ _)];rfl,by rw[cell_of_row _ _ _ _ _ _ (heap_alloc_new _ _)];rfl,by rw[cell_of_row _ _ _ _ _ _ (heap_alloc_new _ _)];rfl⟩
theorem Qi1 (neg:Bool) (exp:Int) (a:Option Addr) (n c:Nat) (ls:List Nat) (neg':Bool) (exp':Int) (b:Option Addr) (m d:Nat) (ks:List Nat) (w:World) (h1:WordsIn w a n c ls) (h2:WordsIn w b m d ks) (hn:n<=9223372036854775807):
 Calls Tryz.prog 19 #[.agg #[.bool neg,.int .i64 exp,.slice a n c],.agg #[.bool neg',.int .i64 exp',.slice b m d]] w fun e w'=>e=.returned (.bool (decide (neg=neg'/\exp=exp'/\ls=ks)))/\Below w.heap.size w w':=by
 have hl1:=h1.len
 have hl2:=h2.len
 by_cases hneq:neg=neg'/\exp=exp'/\n=m
 ·obtain ⟨rfl,rfl,rfl⟩:=hneq
  have hdec:decide (neg=neg/\exp=exp/\ls=ks)=decide (ls=ks):=by simp
  rw[hdec]
  clear hdec
  have H1:=Lib.hid h1
  have H2:=Lib.hid h2
  clear h1 h2
  go_enter Tryz.func19,Tryz.ntmps19
  go_wp2_with fail
  obtain ⟨W2,hW2⟩:∃W2,(w.alloc (.cells #[.bool neg,.int .i64 exp,.slice a n c] 41)).alloc (.cells #[.bool neg,.int .i64 exp,.slice b n d] 41)=W2:=⟨_,rfl⟩
  have hb1:Below w.heap.size w W2:=by rw[<-hW2];exact Below.next0 ((Below.refl _ _).alloc (Nat.le_refl _) _) ((Below.refl _ _).alloc (Nat.le_refl _) _)
  have hsz:(w.alloc (.cells #[.bool neg,.int .i64 exp,.slice a n c] 41)).heap.size=w.heap.size+1:=Array.size_push ..
  have hx1:=Qan w neg exp a n c 41
  have hx2:=Qan (w.alloc (.cells #[.bool neg,.int .i64 exp,.slice a n c] 41)) neg exp b n d 41
  have hy1:W2.cell? ⟨w.heap.size,2,none⟩=some (.slice a n c):=by
   rw[<-hW2]
   exact ((Below.alloc (Below.refl _ _) (Nat.le_refl _) _).cell (p:=⟨w.heap.size,2,none⟩) hx1.1).trans hx1.2.2.2
  have hy2:W2.cell? ⟨w.heap.size+1,2,none⟩=some (.slice b n d):=by
   rw[<-hW2,<-hsz]
   exact hx2.2.2.2
  have hs2:w.heap.size+1<W2.heap.size:=by rw[<-hW2,<-hsz];exact hx2.1
  rw[hW2]
  clear hx1 hx2 hW2 hsz
  have HX:=Xh4 hy1 hy2 hb1 hs2
  clear hy1 hy2 hb1 hs2
  go_loopw [30] (fun v wr=>∃i:Nat,v=.int .i64 (i:Int)/\i<=n/\(∀j,j<i->ls[j]?=ks[j]?)/\Below W2.heap.size W2 wr) (fun v _=>n-(intOf v).toNat)
  case atStart=>exact ⟨0,rfl,Nat.zero_le _,fun j h=>absurd h (Nat.not_lt_zero _),Below.refl _ _⟩
  case round=>
   obtain ⟨i,rfl,hi,hpre,hb⟩:=hrel
   have hbw:Below w.heap.size w wr:=Below.next0 (Xo2 HX) hb
   have hc1:wr.cell? ⟨w.heap.size,2,none⟩=some (.slice a n c):=(hb.cell (p:=⟨w.heap.size,2,none⟩) (by have:=(Xe3 HX);show w.heap.size<_;omega)).trans (Xo0 HX)
   have hc2:wr.cell? ⟨w.heap.size+1,2,none⟩=some (.slice b n d):=(hb.cell (p:=⟨w.heap.size+1,2,none⟩) (Xe3 HX)).trans (Xo1 HX)
   by_cases hlt:i<n
   ·have hlt':(i:Int)<(n:Int):=by omega
    obtain ⟨x,hx⟩:∃x,ls[i]?=some x:=⟨_,List.getElem?_eq_getElem (by omega)⟩
    obtain ⟨y,hy⟩:∃y,ks[i]?=some y:=⟨_,List.getElem?_eq_getElem (by omega)⟩
    obtain ⟨g1,o1,rfl,hg1,hcx⟩:=(H1.out.rd.below hbw).at_ hx
    obtain ⟨g2,o2,rfl,hg2,hcy⟩:=(H2.out.rd.below hbw).at_ hy
    have HP:=Xh5 hpre hb hbw hx hy
    clear hpre hb hbw hx hy
    by_cases hxy:x=y
    ·subst hxy
     go_wp2_with fail
     go_quiet (fail)
     go_wp2_with fail
     refine ⟨⟨i+1,by simp,by omega,fun j hj=>?_,Q5v (Xo1 HP) nq⟩,by simp only[intOf];omega⟩
     by_cases hji:j=i
     ·subst hji;rw[(Xo3 HP),(Xe4 HP)]
     ·exact (Xo0 HP) j (by omega)
    ·have hxy':((x:Int)==(y:Int))=false:=by rw[beq_eq_false_iff_ne];omega
     have hxy2:((x:Int) != (y:Int))=true:=by simp[bne,hxy']
     go_wp2_with fail
     go_quiet (fail)
     go_wp2_with fail
     go_ret
     have hne:¬ls=ks:=fun e=>hxy (by have h1:=(Xo3 HP);have h2:=(Xe4 HP);rw[e,h2] at h1;injection h1 with h1;exact h1.symm)
     exact ⟨by rw[decide_eq_false hne];rfl,Q5v (Xo2 HP) nq⟩
   ·obtain rfl:i=n:=by omega
    have hlt':¬((i:Int)<(i:Int)):=by omega
    have heq:ls=ks:=Qdi (fun j hj=>hpre j (by omega)) (by omega)
    have HE:=Xh2 heq hbw
    clear heq hbw hb hpre
    go_wp2_with fail
    go_ret
    exact ⟨by rw[decide_eq_true (Xo0 HE)];rfl,(Xe1 HE)⟩
 ·have hdec:decide (neg=neg'/\exp=exp'/\ls=ks)=false:=by
   rw[decide_eq_false_iff_not]
   rintro ⟨e1,e2,e3⟩
   exact hneq ⟨e1,e2,by rw[<-hl1,<-hl2,e3]⟩
  rw[hdec]
  have hB:Below w.heap.size w ((w.alloc (.cells #[.bool neg,.int .i64 exp,.slice a n c] 41)).alloc (.cells #[.bool neg',.int .i64 exp',.slice b m d] 41)):=Below.next0 ((Below.refl _ _).alloc (Nat.le_refl _) _) ((Below.refl _ _).alloc (Nat.le_refl _) _)
  have HB:=Lib.hid hB
  clear hB hdec h1 h2
  by_cases e1:neg=neg'
  ·subst e1
   by_cases e2:exp=exp'
   ·subst e2
    have e3:¬((n:Int)=(m:Int)):=by intro e;exact hneq ⟨rfl,rfl,by omega⟩
    have e3':((n:Int)==(m:Int))=false:=by rw[beq_eq_false_iff_ne];exact e3
    go_enter Tryz.func19,Tryz.ntmps19
    go_wp2_with fail
    go_ret
    exact ⟨rfl,HB.out⟩
   ·have e2':(exp==exp')=false:=by rw[beq_eq_false_iff_ne];exact e2
    go_enter Tryz.func19,Tryz.ntmps19
    go_wp2_with fail
    go_ret
    exact ⟨rfl,HB.out⟩
  ·have e1':(neg==neg')=false:=by rw[beq_eq_false_iff_ne];exact e1
   go_enter Tryz.func19,Tryz.ntmps19
   go_wp2_with fail
   go_ret
   exact ⟨rfl,HB.out⟩
theorem Arr.drew {T:TypeId} {K:IntKind} {w:World} {g:Nat} {ls:List Nat} (h:Arr T K w g ls):Arr T K w.drew g ls:=h
theorem Qi2 (a:Option Addr) (n c:Nat) (ls:List Nat) (z:Nat) (w:World) (h:WordsIn w a n c ls) (hn:n<=100000) (hz:z<=100000000):
 Calls Tryz.prog 91 #[.slice a n c,.int .i64 (z:Int)] w (Qjr w (val (2^64) ls / 2^z)):=by
 have hc:=Q1e a n c ls w h
 have hT:=fun W (hb:Below w.heap.size w W)=>(h.step hb).trim
 have hv:val (2^64) (trimL ls)=val (2^64) ls:=Q1b ls
 have hln:=h.len
 have htl:=trim_len ls
 obtain ⟨A,hA⟩:∃A,trimL ls=A:=⟨_,rfl⟩
 rw[hA] at hc hT hv htl
 rw[<-hv]
 obtain ⟨k,hk⟩:∃k,z / 64=k:=⟨_,rfl⟩
 obtain ⟨s,hs⟩:∃s,z%64=s:=⟨_,rfl⟩
 have hs64:s<64:=by omega
 have hzz:z=64*k+s:=by omega
 have hkI:(z:Int).tdiv 64=(k:Int):=by rw[Int.tdiv_eq_ediv_of_nonneg (by omega)];omega
 have hsI:(z:Int).tmod 64=(s:Int):=by rw[Int.tmod_eq_emod_of_nonneg (by omega)];omega
 have hkI2:(z:Int) / 64=(k:Int):=by omega
 have hsI2:(z:Int)%64=(s:Int):=by omega
 have HA:=Lib.hid (hT w (Below.refl _ _)).low
 have HC:=Xh2 hc hT
 have HZ:=Lib.hid hzz
 clear hc hT hA hv h hk hs hzz
 by_cases hkn:A.length<=k
 ·have hkn':(A.length:Int)<=(k:Int):=by omega
  have hd0:=Qrb (s:=s) HA.out hkn
  rw[<-HZ.out] at hd0
  rw[hd0]
  clear hd0
  go_enter Tryz.func91,Tryz.ntmps91
  go_wp2_with (refine (Xo0 HC).mono ?_;rintro e w1 ⟨rfl,hb1⟩;have HB1:=Lib.hid hb1;clear hb1)
  go_ret
  exact ⟨none,0,0,rfl,⟨⟨rfl,Nat.le_refl _,Nat.zero_le _,fun x hx=>by simp[Q0x] at hx,.inl rfl⟩,.inr fun _ h=>nomatch h⟩,HB1.out⟩
 ·obtain ⟨m,hm⟩:∃m,A.length=k+m:=⟨A.length-k,by omega⟩
  have hkn':¬((A.length:Int)<=(k:Int)):=by omega
  have hmI:(A.length:Int)-(k:Int)=(m:Int):=by omega
  have hmk:=run_make_row' (P:=Tryz.prog) 23 74 (.int .u64 0) 8 Tryz.underlying23 Q4w rfl .i64 .i64 m (by omega) (by omega)
  rw[Q1y] at hmk
  have HM:=Lib.hid hm
  clear hm
  go_enter Tryz.func91,Tryz.ntmps91
  go_wp2_with (refine (Xo0 HC).mono ?_;rintro e w1 ⟨rfl,hb1⟩;have HB1:=Lib.hid hb1;clear hb1)
  have hB0:Below w1.heap.size w1 (w1.alloc (.cells (Array.replicate m (nv .u64 0)) 74)):=(Below.refl _ _).alloc (Nat.le_refl _) _
  have hA0:=Arr.zeros w1 74 .u64 m
  have HW:=Lib.hid ((Xe1 HC) w1 HB1.out)
  have H0:=Xh2 hB0 hA0
  clear hB0 hA0 hmk HC
  go_loopw [26] (fun iv wr=>∃(i:Nat) (L:List Nat),iv=.int .i64 (i:Int)/\i<=m/\Arr 74 .u64 wr w1.heap.size L/\L.length=m/\(∀j,j<i->L[j]?=(shr s (64-s) (A.drop k))[j]?)/\Below w1.heap.size w1 wr) (fun iv _=>m-(intOf iv).toNat)
  case atStart=>exact ⟨0,List.replicate m 0,rfl,Nat.zero_le _,(Xe1 H0),by simp,fun j hj=>absurd hj (Nat.not_lt_zero _),(Xo0 H0)⟩
  case round=>
   obtain ⟨i,L,rfl,hi,hL,hLl,hpre,hbw⟩:=hrel
   by_cases hlt:i<m
   ·have hlt':(i:Int)<(m:Int):=by omega
    obtain ⟨x,hx⟩:∃x,A[i+k]?=some x:=⟨_,List.getElem?_eq_getElem (by have:=HM.out;omega)⟩
    have hxl:x<18446744073709551616:=HA.out x (List.mem_of_getElem? hx)
    obtain ⟨ba,oa,hae,hba,hcx⟩:=(HW.out.rd.below hbw).at_ hx
    subst hae
    have hr:=Qhr s (64-s) (A.drop k) i x (by rw[List.getElem?_drop,Nat.add_comm];exact hx)
    rw[List.getElem?_drop,show s+(64-s)=64 by omega] at hr
    obtain ⟨p,hp⟩:∃p,x / 2^s=p:=⟨_,rfl⟩
    have hpI:(x:Int) / 2^s=(p:Int):=by rw[<-hp];norm_cast
    have hpl:p<18446744073709551616:=by rw[<-hp];exact Nat.lt_of_le_of_lt (Nat.div_le_self _ _) hxl
    obtain ⟨q,hq⟩:∃q,L[i]?=some q:=⟨_,List.getElem?_eq_getElem (by omega)⟩
    have hzc:wr.cell? ⟨w1.heap.size,i,none⟩=some (.int .u64 (q:Int)):=hL.cell hq
    have hzf:wr.frozen? ⟨w1.heap.size,i,none⟩=false:=hL.frozen _
    obtain ⟨t,ht⟩:∃t,64-s=t:=⟨_,rfl⟩
    have htI:(64:Int)-(s:Int)=(t:Int):=by omega
    have HH:=Xh5 hr hp hL hpre hbw
    clear hr hp hL hpre hbw hx hq
    by_cases hik:i+k+1<A.length
    ·have hik':(i:Int)+(k:Int)+1<(A.length:Int):=by omega
     obtain ⟨y,hy⟩:∃y,A[i+k+1]?=some y:=⟨_,List.getElem?_eq_getElem hik⟩
     have hcy:=(HW.out.rd.below (Xe4 HH)).at_ hy
     obtain ⟨bb,ob,hbe,hbb,hcy⟩:=hcy
     injection hbe with hbe;injection hbe with hb1 hb2;subst hb1 hb2
     have hyl:y<18446744073709551616:=HA.out y (List.mem_of_getElem? hy)
     have HY:=Lib.hid hy
     clear hy
     go_wp2_with fail
     have hL2:=(Xo2 HH).set i p
     have hb2:=(Xe4 HH).setCell (p:=⟨w1.heap.size,i,none⟩) (Nat.le_refl _) (.int .u64 (p:Int))
     have hcy2:(wr.setCell ⟨w1.heap.size,i,none⟩ (.int .u64 (p:Int))).cell? ⟨ba,oa+(i+k+1),none⟩=some (.int .u64 (y:Int)):=(World.cell?_of_block (Below.heap_setCell _ _ _ _ (show ba≠w1.heap.size by omega))).trans hcy
     have hcp2:(wr.setCell ⟨w1.heap.size,i,none⟩ (.int .u64 (p:Int))).cell? ⟨w1.heap.size,i,none⟩=some (.int .u64 (p:Int)):=hL2.cell (by rw[List.getElem?_set_self (by omega)])
     have hf2:(wr.setCell ⟨w1.heap.size,i,none⟩ (.int .u64 (p:Int))).frozen? ⟨w1.heap.size,i,none⟩=false:=hL2.frozen _
     generalize wr.setCell ⟨w1.heap.size,i,none⟩ (.int .u64 (p:Int))=W2 at*
     obtain ⟨g,hg⟩:∃g,y*2^t%2^64=g:=⟨_,rfl⟩
     have hgI:(y:Int)*2^t%18446744073709551616=(g:Int):=by rw[<-hg,show (2:Nat)^64=18446744073709551616 from rfl,Int.natCast_emod,Int.natCast_mul,Int.natCast_pow];rfl
     have hgl:g<18446744073709551616:=by rw[<-hg];exact Nat.mod_lt _ (by decide)
     obtain ⟨r,hr⟩:∃r,p+g=r:=⟨_,rfl⟩
     have hor:bits .or .u64 (p:Int) (g:Int)=(r:Int):=by
      rw[u64_or_nat p g hpl hgl,<-hr,<-(Xo1 HH),<-hg,<-ht]
      have:=Qv7 (s:=s) (t:=64-s) (x:=x) (y:=y) (by rw[show s+(64-s)=64 by omega];exact hxl)
      rw[show s+(64-s)=64 by omega] at this
      rw[this]
     have HS:=Xh4 hg hr hL2 hb2
     clear hg hr hL2 hb2
     go_region
     go_wp2_with fail
     have hr2:=(Xo0 HH)
     rw[(Xo1 HH),show k+(i+1)=i+k+1 by omega,HY.out,ht,Option.getD_some,(Xo0 HS),(Xo1 HS)] at hr2
     have hfin:bits .or .u64 (p:Int) (IntKind.u64.wrap ((y:Int)*2^t))=(r:Int):=by rw[IntKind.wrap_u64,hgI,hor]
     rw[hfin]
     refine ⟨⟨i+1,(L.set i p).set i r,by simp,by omega,((Xo2 HS).set i r).drew,by simp[hLl],?_,((Xe3 HS).setCell (p:=⟨w1.heap.size,i,none⟩) (Nat.le_refl _) _).drew⟩,by simp only[intOf];omega⟩
     rw[List.set_set]
     rw[<-ht] at hr2
     exact Qef (Xo3 HH) hr2 (by omega)
    ·have hik':¬((i:Int)+(k:Int)+1<(A.length:Int)):=by omega
     go_wp2_with fail
     have hr2:=(Xo0 HH)
     rw[(Xo1 HH),show k+(i+1)=i+k+1 by omega,List.getElem?_eq_none (show A.length<=i+k+1 by omega)] at hr2
     simp only[Option.getD_none,Nat.zero_mul,Nat.zero_mod,Nat.add_zero] at hr2
     exact ⟨⟨i+1,L.set i p,by simp,by omega,(Xo2 HH).set i p,by simp[hLl],Qef (Xo3 HH) hr2 (by omega),(Xe4 HH).setCell (p:=⟨w1.heap.size,i,none⟩) (Nat.le_refl _) _⟩,by simp only[intOf];omega⟩
   ·obtain rfl:i=m:=by omega
    have heq:L=shr s (64-s) (A.drop k):=Qdi (fun j hj=>hpre j (by rw[Qho,List.length_drop] at hj;have:=HM.out;omega)) (by rw[Qho,List.length_drop];have:=HM.out;omega)
    have hW:WordsIn wr (some ⟨w1.heap.size,0,none⟩) i i L:=⟨hLl,Nat.le_refl _,by omega,heq ▸ Qra HA.out k s hs64,hL.rd⟩
    have hlt':¬((i:Int)<(i:Int)):=by omega
    have hbq:Below w.heap.size w wr:=Below.next0 HB1.out hbw
    have hdig:trimL L=dig (2^64) (val (2^64) A / 2^z):=by rw[Q1j (by decide) hW.low,heq,Qr9 A HA.out k s (by omega) hs64,HZ.out]
    have HE:=Xh3 hW hbq hdig
    clear hW hbq hdig heq hL hpre hbw
    go_wp2_with (refine (Q1e _ _ _ _ _ (Xo0 HE)).mono ?_;rintro e w5 ⟨rfl,hb5⟩;have HB5:=Lib.hid hb5;clear hb5)
    go_ret
    have hout:=((Xo0 HE).step HB5.out).trim
    rw[(Xe2 HE)] at hout⊢
    exact ⟨_,_,_,rfl,⟨hout,.inr fun x hx=>by injection hx with hx;subst hx;exact HB1.out.size⟩,Below.next0 (Xo1 HE) HB5.out⟩
end Go.Proofs.YtdilmfakkppgpaaGreatDoor
namespace Go.Proofs
open Go.Shelf
def Tryz.Qyq:Go.Shelf.Ren:=⟨fun|29=>145|n=>n,fun|22=>74|3=>3|4=>4|25=>94|54=>206|0=>0|5=>5|n=>n,fun|1=>1|n=>n⟩
theorem Tryz.Qyr:Go.Proofs.Lays7.n29 Tryz.prog Tryz.Qyq:={
 mixed:=by kernel_rfl
 f29:=Tryz.func145.trans (congrArg some (by kernel_rfl))
 t0:=Tryz.underlying0
 a0:=Tryz.isAgg0
 z0:=Tryz.sizeOf0
 v0:=Tryz.zeroValue0
 i0:=by kernel_rfl
 t3:=Tryz.underlying3
 a3:=Tryz.isAgg3
 z3:=Tryz.sizeOf3
 v3:=Tryz.zeroValue3
 i3:=by kernel_rfl
 t4:=Tryz.underlying4
 a4:=Tryz.isAgg4
 z4:=Tryz.sizeOf4
 v4:=Tryz.zeroValue4
 i4:=by kernel_rfl
 t5:=Tryz.underlying5
 a5:=Tryz.isAgg5
 z5:=Tryz.sizeOf5
 v5:=Tryz.zeroValue5
 i5:=by kernel_rfl
 t22:=Tryz.underlying74
 a22:=Tryz.isAgg74
 z22:=Tryz.sizeOf74
 v22:=Tryz.zeroValue74
 i22:=by kernel_rfl
 t25:=Tryz.underlying94
 a25:=Tryz.isAgg94
 z25:=Tryz.sizeOf94
 v25:=Tryz.zeroValue94
 i25:=by kernel_rfl
 t54:=Tryz.underlying206
 a54:=Tryz.isAgg206
 z54:=Tryz.sizeOf206
 g1:=by kernel_rfl }
open Go.RowKit in
theorem Tryz.Qys (x:Nat) (hx:x<18446744073709551616) (w:World) (hT:x≠0->TabAt 1 Lib.deBruijn64tab w):
 Calls Tryz.prog 145 #[.int .u64 x] w fun e w'=>e=.returned (.int .i64 (Lib.ctz 64 x))/\w'=w:=Any7.bits_TrailingZeros64 Tryz.Qyr x hx w hT
end Go.Proofs
namespace Go.Proofs.YtdilmfakkppgpaaGreatDoor
open Go.RowKit WordsM
theorem Qtr {ls:List Nat} {i x k m:Nat} (h0:val (2^64) (ls.take i)=0) (hx:ls[i]?=some x) (he:x=2^k*(2*m+1)) (hk:k<64):Qhq (val (2^64) ls) (64*i+k):=by
 have hi:i<ls.length:=(List.getElem?_eq_some_iff.1 hx).1
 have hxe:ls[i]=x:=(List.getElem?_eq_some_iff.1 hx).2
 have h1:=Q3b (B:=2^64) ls i
 rw[h0,Nat.zero_add,List.drop_eq_getElem_cons hi,hxe] at h1
 simp only[val] at h1
 obtain ⟨V,hV⟩:∃V,val (2^64) (ls.drop (i+1))=V:=⟨_,rfl⟩
 rw[hV] at h1
 obtain ⟨t,ht⟩:∃t,64=k+(t+1):=⟨63-k,by omega⟩
 have e1:x+2^64*V=2^k*(2*(m+2^t*V)+1):=by
  rw[he,show (2:Nat)^64=2^k*(2^t*2) by rw[<-Nat.pow_succ,<-Nat.pow_add,<-ht],Nat.mul_assoc,<-Nat.mul_add]
  congr 1
  rw[Nat.mul_comm (2^t) 2,Nat.mul_assoc,Nat.mul_add]
  omega
 rw[e1,<-Nat.pow_mul,<-Nat.mul_assoc,<-Nat.pow_add] at h1
 rw[h1]
 have hp:0<2^(64*i+k):=Nat.pow_pos (by decide)
 exact ⟨Nat.mul_mod_right _ _,by rw[Nat.mul_div_cancel_left _ hp];omega⟩
def Q24 (w:World):Prop:=1<w.heap.size/\TabAt 1 Lib.deBruijn64tab w
theorem Q24.step {w w':World} (h:Q24 w) (hb:Below w.heap.size w w'):Q24 w':=⟨Nat.lt_of_lt_of_le h.1 hb.size,fun j hj=>(hb.cell (p:=⟨_,j,none⟩) h.1).trans (h.2 j hj)⟩
theorem Qeq (a:Option Addr) (n c:Nat) (ls:List Nat) (w:World) (h:WordsIn w a n c ls) (hT:Q24 w) (hn:n<=1000000) (h0:val (2^64) ls≠0):
 Calls Tryz.prog 90 #[.slice a n c] w fun e w'=>(∃z:Nat,e=.returned (.int .i64 (z:Int))/\Qhq (val (2^64) ls) z/\z<64*n)/\Below w.heap.size w w':=by
 have hln:=h.len
 have H:=Xh3 h hT h0
 clear h hT h0
 go_enter Tryz.func90,Tryz.ntmps90
 go_wp2_with fail
 go_loopw [7] (fun v wr=>∃i:Nat,v=.int .i64 (i:Int)/\i<=n/\val (2^64) (ls.take i)=0/\Below w.heap.size w wr) (fun v _=>n-(intOf v).toNat)
 case atStart=>exact ⟨0,rfl,Nat.zero_le _,by simp[val],Below.refl _ _⟩
 case round=>
  obtain ⟨i,rfl,hi,hv,hb⟩:=hrel
  by_cases hlt:i<n
  ·have hlt':(i:Int)<(n:Int):=by omega
   obtain ⟨x,hx⟩:∃x,ls[i]?=some x:=⟨_,List.getElem?_eq_getElem (by omega)⟩
   have hxl:x<18446744073709551616:=(Xo0 H).low x (List.mem_of_getElem? hx)
   obtain ⟨g1,o1,hae,hg1,hcx⟩:=((Xo0 H).rd.below hb).at_ hx
   subst hae
   have HH:=Xh3 hv hb hx
   clear hv hb hx
   by_cases hx0:x=0
   ·subst hx0
    go_wp2_with fail
    refine ⟨⟨i+1,by simp,by omega,?_,(Xo1 HH)⟩,by simp only[intOf];omega⟩
    rw[Q13 ls i 0 (Xe2 HH),(Xo0 HH),Nat.mul_zero]
   ·have hx0':((x:Int)==0)=false:=by rw[beq_eq_false_iff_ne];omega
    have hctz:=fun W (hb:Below w.heap.size w W)=>(Tryz.Qys x hxl W (fun _=>((Xo1 H).step hb).2)).mono (R':=fun e w'=>e=.returned (.int .i64 (Lib.ctz 64 x))/\W=w') (by rintro e w' ⟨h1,h2⟩;exact ⟨h1,h2.symm⟩)
    obtain ⟨m,hm,hk⟩:=Lib.ctzFrom_spec 64 x (by omega) hxl
    have hce:Lib.ctz 64 x=Lib.ctzFrom 64 x:=by unfold Lib.ctz;rw[if_neg hx0]
    rw[<-hce] at hm hk
    obtain ⟨k,hkk⟩:∃k,Lib.ctz 64 x=k:=⟨_,rfl⟩
    rw[hkk] at hm hk
    rw[hkk] at hctz
    have HZ:=Xh2 hm hctz
    clear hctz hm hce hkk
    go_wp2_with (refine ((Xe1 HZ) _ (Xo1 HH)).mono ?_;rintro e w5 ⟨rfl,rfl⟩)
    go_ret
    exact ⟨⟨64*i+k,rfl,Qtr (Xo0 HH) (Xe2 HH) (Xo0 HZ) hk,by omega⟩,(Xo1 HH)⟩
  ·exact absurd (by rw[List.take_of_length_le (by omega)] at hv;exact hv) (Xe2 H)
end Go.Proofs.YtdilmfakkppgpaaGreatDoor
