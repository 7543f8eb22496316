/- Part 14. No condition. -/
import Derived.Carry
import Derived.Lib.AppendZerosOnto
import Derived.Test.YtidojbkhlenahaaGreatDoorPkProblemBack13
set_option maxRecDepth 100000
set_option maxHeartbeats 16000000
namespace Go.Proofs.YtidojbkhlenahaaGreatDoor
open Go.RowKit WordsM
theorem Q4q:(Tryz.prog.info? 98).map (fun i=>(i.zero,i.size,i.bytes))=some (some (.agg #[.bool false,.int .i64 0,.slice none 0 0,.slice none 0 0]),4,64):=by kernel_rfl
theorem Q8b:∀u∈(Value.agg #[.bool false,.int .i64 0,.slice none 0 0,.slice none 0 0]).cells.toList,NoU u:=by
 intro u hu;simp[Value.cells] at hu;rcases hu with rfl|rfl|rfl <;> exact fun _=>by simp[nv]
def Q1h (w:World) (n:Nat) (X:Except Int (List Q0b)) (r:Ending) (w':World):Prop:=Bw w w'/\match X with
 | .error er=>∃a l c,r=.returned (.tuple #[.slice a l c,.int .i64 er])
 | .ok P=>∃a l c ms,r=.returned (.tuple #[.slice a l c,.int .i64 0])/\Q08 w' a l c ms/\ms.map Q01.term=P/\Q1o n ms
theorem Q1h.err {w w':World} {n:Nat} {X:Except Int (List Q0b)} {er:Int} {a:OA} {l c:Nat} (hX:X=.error er) (hb:Bw w w'):Q1h w n X (.returned (.tuple #[.slice a l c,.int .i64 er])) w':=⟨hb,by rw[hX];exact ⟨_,_,_,rfl⟩⟩
theorem Q2h {n:Bool} {e:Int} {L:LN} {w:World} {a:OA} {l c:Nat} (h:Q0a n e L) (hw:WordsIn w a l c L):l<=64/\-65536<=e/\e<=65536:=by
 have:=Q5g h hw.low;rw[hw.len] at this;exact this
theorem Q0g.onBlock {w w':World} {ae:OA} {le ce:Nat} {E:List Int} (h5:Q0g w ae le ce E) (hs:w.heap.size<=w'.heap.size) (mb:Nat) (Wl:∀o,w.cell? ⟨mb,o,none⟩=none) (hk:∀k,k<w.heap.size->k≠mb->w'.heap[k]?=w.heap[k]?):Q0g w' ae le ce E:=by
 refine ⟨h5.len,h5.cap,h5.most,h5.rng,?_⟩;rcases h5.rd with h8|⟨b,oo,e,hb,X3⟩
 ·exact .inl h8
 ·refine .inr ⟨b,oo,e,Uc hb hs,fun i x hx=>?_⟩;have h9:=X3 i x hx;have Q0:b≠mb:=fun e=>by subst e;rw[Wl] at h9;cases h9
  exact (UM (a:=⟨b,oo+i,none⟩) (hk b hb Q0)).trans h9
theorem Q34.onKept {w w':World} {b:Nat} {v0 v1 v2 v3:Value} (h:Q34 w b v0 v1 v2 v3) (hk:w'.heap[b]?=w.heap[b]?):Q34 w' b v0 v1 v2 v3:=by
 have X3:∀o,w'.cell? ⟨b,o,none⟩=w.cell? ⟨b,o,none⟩:=fun o=>UM (a:=⟨b,o,none⟩) hk;have Vs:∀o,w'.frozen? ⟨b,o,none⟩=w.frozen? ⟨b,o,none⟩:=fun o=>Xak (a:=⟨b,o,none⟩) hk;exact ⟨(X3 0).trans h.c0,(X3 1).trans h.c1,(X3 2).trans h.c2,(X3 3).trans h.c3,(Vs 0).trans h.f0,(Vs 1).trans h.f1,(Vs 2).trans h.f2,(Vs 3).trans h.f3⟩
theorem Qqa {B:Nat} {w:World} {g n c:Nat} {all:List Q01} (h:Q1r B w (some ⟨g,0,none⟩) n c all) (i:Nat):w.frozen? ⟨g,i,none⟩=false:=by
 obtain ⟨xs,hr⟩:=h.row;exact hr.1.frozen0 i
theorem Qqb {w0 w2 w3 w4:World} {mb n B N c p9 le ce:Nat} {g:P4->Option Nat} {a:OA} {all:List Q01} {v0 v1 v2 v3:Value} {ae:OA} {E:List Int} (hm:mb<p9) (h9:p9<w2.heap.size) (G0:Bw w2 w3) (hp:Q53 w3 mb n g) (hg:w3.grownBy w4 (some mb)) (Y0:Q1r B w3 a N c all) (hX:Q34 w3 p9 v0 v1 v2 v3) (hE:Q0g w3 ae le ce E):
 Q1r B w4 a N c all/\Q34 w4 p9 v0 v1 v2 v3/\Q0g w4 ae le ce E/\w3.heap.size<=w4.heap.size/\(w0.heap.size<=mb->Bw w0 w3->Bw w0 w4):=by
 have hk:∀k,k<w3.heap.size->k≠mb->w4.heap[k]?=w3.heap[k]?:=fun k h1 h2=>hg.block k h1 (fun e=>h2 (by injection e));have h3:p9<w3.heap.size:=Uc h9 G0.size;have U4:=hk p9 h3 (by omega);have X3:∀o,w4.cell? ⟨p9,o,none⟩=w3.cell? ⟨p9,o,none⟩:=fun o=>UM (a:=⟨p9,o,none⟩) U4;have Vs:∀o,w4.frozen? ⟨p9,o,none⟩=w3.frozen? ⟨p9,o,none⟩:=fun o=>Xak (a:=⟨p9,o,none⟩) U4;refine ⟨Y0.onBlock hg.size mb hp.cells (fun x hx=>hp.ne Y0 hx) hk,⟨(X3 0).trans hX.c0,(X3 1).trans hX.c1,(X3 2).trans hX.c2,(X3 3).trans hX.c3,(Vs 0).trans hX.f0,(Vs 1).trans hX.f1,(Vs 2).trans hX.f2,(Vs 3).trans hX.f3⟩,hE.onBlock hg.size mb hp.cells hk,hg.size,fun h0 hb=>?_⟩;exact hb.trans ⟨hg.os,hg.tape,hg.output,hg.size,fun k h1=>hk k (Uc h1 hb.size) (by omega)⟩
theorem Qwr {w wr w2 w3 w4 w5:World} (h1:Bw w wr) (h2:Bw wr w2) (h4:w3.heap.size<=w4.heap.size) (h3:w2.heap.size<=w3.heap.size) (h5:Bw w4 w5):w.heap.size<=w5.heap.size+1:=by
 have:=h1.size;have:=h2.size;have:=h5.size;omega
theorem Qtt {w:World} {ms:List Q01} {k mb i j g N c:Nat} {all:List Q01} {m mj:Q01} {wc w8:World} {b:Bool} {e:Int} {al:OA} {ll cl:Nat} {L:LN} (E0:i<ms.length) (hN:N<=i+1) (Y0:Q1r w.heap.size wc (some ⟨g,0,none⟩) N c all) (Ji:all[j]?=some mj)
 (N5:∀b e L,Q1p b e L=Q1p mj.neg mj.exp mj.ws+Q1p m.neg m.exp m.ws->(all.set j ⟨b,e,L,mj.es⟩).map Q01.term=Qb6 ((ms.take (i+1)).map Q01.term)) (Zx:∀m∈all,Qz6 k (69632+64*(i:Int)) m) (QI:Q53 wc mb N (Q3p all)) (hb:Bw w wc)
 (hw8:WordsIn w8 al ll cl L) (Z9:Q1p b e L=Q1p mj.neg mj.exp mj.ws+Q1p m.neg m.exp m.ws) (hl8: -65536<=e) (hh8:e<=65536) (ht8:64*(ll:Int)+e<=69632+64*(i:Int)+64) (A5:Bw wc w8):
 Qts w ms k mb (.slice (some ⟨g,0,none⟩) N c) (.int .i64 ((i:Int)+1)) (((w8.setCell ⟨g,j*4,none⟩ (.bool b)).setCell ⟨g,j*4+1,none⟩ (.int .i64 e)).setCell ⟨g,j*4+2,none⟩ (.slice al ll cl)):=by
 have hg:=(Y0.lt rfl).1;have QN:=Y0.step A5;have hp8:=QI.below A5;refine ⟨i+1,_,N,c,_,rfl,congrArg (Value.int .i64) (by omega),E0,hN,QN.put Ji hw8,N5 b e L Z9,fun m' Y7=>?_,?_,(((Below.next0 hb A5).setCell (p:=⟨g,j*4,none⟩) hg _).setCell (p:=⟨g,j*4+1,none⟩) hg _).setCell (p:=⟨g,j*4+2,none⟩) hg _⟩
 ·rcases Xap Y7 with h1|rfl
  ·obtain ⟨a1,a2,a3,a4⟩:=Zx m' h1;exact ⟨a1,a2,a3,by omega⟩
  ·have hl:=hw8.len;exact ⟨(Zx mj (Uf Ji)).1,hl8,hh8,by show 64*(L.length:Int)+e<=_;omega⟩
 ·rw[Qtr (m':=⟨b,e,L,mj.es⟩) Ji rfl];have Q0:mb≠g:=fun e=>hp8.ne QN rfl e.symm;exact hp8.keep ((UZ _ _ _ _ Q0).trans ((UZ _ _ _ _ Q0).trans (UZ _ _ _ _ Q0)))
theorem Qo8 (l:List Q0b):(Qb6 l).Perm (Q1u l):=by
 have h1:(Qb6 l).Nodup:=((Qry l).1.imp fun {p q} h e=>h (by rw[e]));have h2:(Q1u l).Nodup:=((Q6x l).1.once.imp fun {p q} h e=>h (by rw[e]));exact (List.perm_ext_iff_of_nodup h1 h2).2 fun p=>Qgh l p
theorem Qjf {l:List Q0b} {all:List Q01} (h:all.map Q01.term=Qb6 l) (hf:∀m∈all,Q44 m.term.1):¬(Q1u l).any (fun p=> !Q9k p.1)=true:=by
 intro ha;obtain ⟨p,hp,A4⟩:=Xav.1 ha;have h1:=(Qgh l p).2 hp;rw[<-h] at h1;obtain ⟨m,hm,rfl⟩:=To.1 h1;rw[(Q17 _).2 (hf m hm)] at A4;cases A4
theorem Qtu {l:List Q0b} {all outs:List Q01} (h:all.map Q01.term=Qb6 l) (ho:outs.map Q01.term=(all.map Q01.term).filter (fun p=>decide (p.1≠0))) (hf:∀m∈all,Q44 m.term.1) (Wz:24<outs.length):Q25 l=.error 6:=by
 have hl:outs.length=((Q1u l).filter fun p=>decide (p.1≠0)).length:=by
  rw[<-UK (f:=Q01.term),ho,h];exact ((Qo8 l).filter _).length_eq
 unfold Q25;rw[Up (Qjf h hf),Us (by rw[<-hl];exact Wz)]
def J0j (wl:World) (all:List Q01) (k:Nat) (s12 s72:Value) (wx:World):Prop:=
 ∃(q:Nat) (a:OA) (M c:Nat) (outs:List Q01),s12=.slice a M c/\s72=.int .i64 (q:Int)/\q<=all.length/\M<=q/\Q1r wl.heap.size wx a M c outs/\
  outs.map Q01.term=((all.take q).map Q01.term).filter (fun p=>decide (p.1≠0))/\(∀m∈outs,OkM k m)/\(∀m∈all.take q,Q44 m.term.1)/\Bw wl wx
theorem Q5x (a:OA) (n c:Nat) (ms:List Q01) (k:Nat) (w:World) (h:Q08 w a n c ms) (P2:∀m∈ms,Qmb k m) (X2:1<=k) (hk:k<=4) (hn:n<=600) (hT:Q1s w):
 Calls Tryz.prog 133 #[.slice a n c,.int .i64 (k:Int)] w (Q1h w k (Q25 (ms.map Q01.term))):=by
 obtain ⟨i0,E2,P1,G1,K1⟩:=Q0p Q4q;have G3:=h.1;subst G3;obtain ⟨X,hX⟩:∃X,Q25 (ms.map Q01.term)=X:=⟨_,rfl⟩;rw[hX];have C0:Bw w (w.alloc (.cells #[.int .i64 (k:Int)] 3)):=Ba;have hkb:Qz2 (w.alloc (.cells #[.int .i64 (k:Int)] 3)) w.heap.size k:=⟨by rw[Uv _ _ _ _ _ _ (Um _ _)];rfl,Q0h _ _⟩;have hkc:=hkb.cell;have hhas:=Qme a ms.length c ms w.heap.size k _ (h.step C0) P2 hk hkb;have hk1':¬(k:Int)<1:=by omega
 have hk4':¬(4:Int)<(k:Int):=by omega
 have H:=Xh9 h P2 X2 hk hn hT hX C0 hhas;have HI:=Xh4 E2 P1 G1 K1;have J3:=Un h.2.1 h.2.2.1;clear h P2 X2 hk hn hT hX C0 hhas hkb E2 P1 G1 K1;have hmm:= @run_makeMap Tryz.prog
 go_enter Tryz.func133,Tryz.ntmps133
 go_wp2_with (go_at_call_of 184 a;refine (Xe8 H).mono ?_;rintro r w1 ⟨rfl,VJ⟩;have K0:=Ub VJ;clear VJ)
 have hbm:Bw w (w1.alloc (.map #[] 0)):=by
  have h1:=Below.next0 (Xo7 H) K0.out;exact h1.alloc h1.size _
 have HB:=Ub hbm;clear hbm hmm
 go_loopw [7,31] (fun s7 s31 wr=>Qts w ms k w1.heap.size s7 s31 wr) (fun _ iv _=>ms.length-(intOf iv).toNat)
 case atStart=>
  exact ⟨0,none,0,0,[],rfl,rfl,Ut _,Ue _,Q1r.nil_ _ _,rfl,(fun m hm=>by cases hm),Q53.made _,HB.out⟩
 case round=>
  obtain ⟨i,a1,N,c1,all,rfl,rfl,hi,hNi,Y0,u6,Zx,QI,C1⟩:=hrel
  by_cases E0:i<ms.length
  ·have J0:(i:Int)<(ms.length:Int):=(by omega);obtain ⟨m,hm⟩:∃m,ms[i]?=some m:=⟨_,Ua E0⟩;obtain ⟨b0,o0,rfl,X1,Y1⟩:∃b o,a=some ⟨b,o,none⟩/\b<wr.heap.size/\∀j m,ms[j]?=some m->Q4n wr b (o+j*4) m:=by
    rcases ((Xo0 H).step C1).2.2.2 with h0|h0
    ·rw[h0] at E0;simp at E0
    ·exact h0
   obtain ⟨aw,lw,cw,ae,le,ce,k0,k1,k2,k3,hw,he,R4,Z3⟩:=Y1 i m hm;have hfm:Qmb k m:=(Xo1 H) m (Uf hm);have Wd:m.es.length=k:=hfm.1.1;have hes0:m.es≠[]:=fun e=>by rw[e] at Wd;have:=(Xo2 H);simp at Wd;omega
   have u7:∀x∈m.es,Q62 x:=fun x hx=>he.rng.1 x hx;have hq:=J1l u7;have hX:=Q34.new wr (.bool m.neg) (.int .i64 m.exp) (.slice aw lw cw) (.slice ae le ce) 98;have K2:Bw wr (wr.alloc (.cells #[.bool m.neg,.int .i64 m.exp,.slice aw lw cw,.slice ae le ce] 98)):=Ba;have U7:=Q0h wr (.cells #[.bool m.neg,.int .i64 m.exp,.slice aw lw cw,.slice ae le ce] 98);have hof:=fun W (hW:Bw wr W)=>Qpu m.neg m.exp aw lw cw ae le ce m.es W (he.step hW) (by have:=(Xo3 H);omega) hes0;obtain ⟨po,S6⟩:∃po,Q3p all (p4 m.es)=po:=⟨_,rfl⟩;have HPO:=Ub S6;clear S6;have HR:=Xh15 Y0 u6 Zx QI C1 hm hw he hfm hq hof hes0 hX K2 U7;obtain ⟨x0,x1,x2⟩:=hX.cc;have x3:=hX.c3;clear Y0 u6 Zx QI C1 hm hw he hfm Wd hes0 u7 hq hX K2 U7 hof Y1
   go_upto_if 43 with (go_at_call_of 186 aw;refine ((Xo10 HR) _ (Xo13 HR)).mono ?_;rintro r w2 ⟨rfl,D0⟩;(have JF:=((Xo3 HR).below (Xo13 HR)).below D0);(have hlk:=JF.look_ok (Xo9 HR));rw[HPO.out] at hlk;(have H2:=Xh2 D0 JF);clear D0 JF)
   have Zl:=Below.next0 (Xo13 HR) (Xo0 H2);have QE:=(Xo0 HR).step Zl;have V4:=(Xo12 HR).step (Xo0 H2) (Xe14 HR);have KS:=Xh3 Zl QE V4;have A1:N<=600:=(by have:=(Xo4 H);omega);have G5:=(Xo7 HR).len;have hle4:le<=4:=(by have:=(Xo8 HR).1.1;have:=(Xo3 H);omega);have Vy:=Ub G5;obtain ⟨y0,y1,y2⟩:=V4.cc;have y3:=V4.c3;have J9:Qb6 ((ms.take (i+1)).map Q01.term)=Q63 (Qb6 ((ms.take i).map Q01.term)) m.term:=by
    rw[Tc,(Xo5 HR),UR,Option.toList_some,List.map_singleton,Qhz]
   have HTK:=Ub J9;clear Zl QE V4 G5 x0 x1 x2 x3 J9
   go_cut [7,10] (fun s7 s10 wx=>Qz7 w ms k w1.heap.size i wr.heap.size (.bool m.neg) (.int .i64 m.exp) aw lw cw (.slice ae le ce) m s7 s10 wx)
   case first=>
    cases po with
    |some j=>
     go_wp2_with fail
     go_meet;obtain ⟨mj,Ji,hpj⟩:=Qwk HPO.out;have N0:∀m'∈all,m'.es.length=k:=fun m' Y7=>((Xo2 HR) m' Y7).1.1;have Wd:=(Xo8 HR).1.1;have hej:mj.es=m.es:=Qxs (N0 mj (Uf Ji)) Wd (Xo3 H) hpj;refine ⟨a1,N,c1,all,j,mj,rfl,rfl,by omega,(Xo1 KS),Ji,hej,fun b e L hv=>?_,(Xo2 HR),(Xe1 H2),Below.next0 (Xo4 HR) (Xo0 KS),(Xe2 KS),Uc (Xe14 HR) (Xo0 H2).size,(Xo6 HR).step (Xo0 KS)⟩;have R7:=Qay (Xo3 H) N0 Wd;rw[HPO.out] at R7;rw[Qwl,HTK.out,Qje (j:=j) (q:=mj.term) (by rw[<-(Xo1 HR)];exact R7.symm) (by rw[<-(Xo1 HR),UP,Ji];rfl),<-(Xo1 HR)]
     congr 1
     show (Q1p b e L,mj.es)=(Q1p mj.neg mj.exp mj.ws+Q1p m.neg m.exp m.ws,mj.es)
     rw[hv]
    |none=>
     obtain ⟨E2,P1,G1,K1⟩:=HI.out;have hof2:=(Xo10 HR) w2 (Xo0 KS);have HOF:=Ub hof2;clear hof2 hlk
     go_wp2_with (first
      |(go_at_call_of 186 aw;refine HOF.out.mono ?_;rintro r w3 ⟨rfl,G0⟩;(have WJ:=(Xe1 H2).below G0);(have YO:=(Xo1 KS).step G0);(have QW:=(Xe2 KS).step G0 (Uc (Xe14 HR) (Xo0 H2).size));obtain ⟨w4,P0,hp4,hg4⟩:=WJ.store (Xo9 HR) (by omega) N;(have hs4:=Qqb (w0:=w) (Xo3 HR).lt (Uc (Xe14 HR) (Xo0 H2).size) G0 WJ hg4 YO QW (((Xo7 HR).step (Xo0 KS)).step G0));(have hw4:=(((Xo6 HR).step (Xo0 KS)).step G0).onBlock hg4.size w1.heap.size WJ.cells (fun q h1 h2=>hg4.block q h1 (fun e=>h2 (by injection e))));(have HW4:=Ub hw4);clear hw4;(have z3:=hs4.2.1.c3);(have HW3:=Ub (Below.next0 (Below.next0 (Xo4 HR) (Xo0 KS)) G0));(have ZU:=Xh4 hp4 hs4 hg4 G0.size);clear WJ YO QW G0 hp4 hg4 hs4)
      |(go_at_call_of 187 le;refine (Qbc ae le ce m.es w4 (Xo1 ZU).2.2.1 (Xo11 HR) (by omega)).mono ?_;rintro r w5 ⟨g5,c5,rfl,YM,Z0⟩;(have VS:=(Xo1 ZU).1.step Z0);obtain ⟨xs5,XQ⟩:=VS.row;obtain ⟨g6,c6,w6,x4,Y2,Q1,B5⟩:=Q0w (P:=Tryz.prog) NoU (w5.alloc (.cells #[.bool false,.int .i64 0,.slice none 0 0,.slice (some ⟨g5,0,none⟩) le c5] 98)) 42 42 98 i0 _ 4 64 Tryz.underlying42 E2 P1 G1 K1 rfl Q8b w.heap.size (by rw[Ui];exact (Qwr (Xo4 HR) (Xo0 KS) (Xo1 ZU).2.2.2.1 (Xe3 ZU) Z0)) a1 N c1 xs5 (XQ.step (Ba)) w5.heap.size 1 1 [.bool false,.int .i64 0,.slice none 0 0,.slice (some ⟨g5,0,none⟩) le c5] rfl (Tx (cs:= #[.bool false,.int .i64 0,.slice none 0 0,.slice (some ⟨g5,0,none⟩) le c5]) (Um w5 _)) (by simp[Value.oneCell']) (by intro u hu;simp at hu;rcases hu with rfl|rfl|rfl|rfl <;> exact fun _=>by simp[nv]) (by decide) (by omega) (by decide) (by decide);(have H5:=Xh7 VS XQ YM Z0 Y2 Q1 B5);clear VS XQ YM Z0 Y2 Q1 B5)
      |(at_builtin;refine Q06 rfl (.tmp 50) (.tmp 55) 42 42 rfl _ _ rfl rfl _ _ x4 ?_))
     go_meet;have Wl:w.heap.size<=w1.heap.size:=(Below.next0 (Xo7 H) K0.out).size;have XA:Bw w w3:=⟨HW3.out.os,HW3.out.tape,HW3.out.output,HW3.out.size,HW3.out.block⟩;have hw4:Bw w w4:=(Xo1 ZU).2.2.2.2 Wl XA;have hw5:=Below.next0 hw4 (Xo3 H5);have KF:∀x,a1=some x->x.block<w4.heap.size:=fun x hx=>((Xo1 ZU).1.lt hx).2;have hg5:=(Xo2 H5).fresh;have hw6:Bw w w6:=by
      have h1:=hw5.alloc hw5.size (.cells #[.bool false,.int .i64 0,.slice none 0 0,.slice (some ⟨g5,0,none⟩) le c5] 98);exact h1.trans ⟨(Xo5 H5).os,(Xo5 H5).tape,(Xo5 H5).output,(Xo5 H5).size,fun q hq=>(Xo5 H5).block q (Uc hq h1.size) (fun e=>by
       cases a1 with
       |none=>simp at e
       |some y=>simp only[Uz,Uj] at e;have:=((Xo0 H5).lt rfl).1;omega)⟩
     have Jt:=(Xo0 H5).push (Xo1 H5) (o:=.cells #[.bool false,.int .i64 0,.slice none 0 0,.slice (some ⟨g5,0,none⟩) le c5] 98) (Xo5 H5) (Xe6 H5) (m:=⟨false,0,[],m.es⟩) (aw:=none) (lw:=0) (cw:=0) (be:=g5) (oe:=0) (le:=le) (ce:=c5) (Xo4 H5) rfl (Q2n.nil_ w5 w5).toWordsIn ((Xo2 H5).ints (fun x hx=>(Xo7 HR).rng.1 x hx)) hg5.2 (fun x hx e=>by have:=KF x hx;omega);have N0:∀m'∈all,m'.es.length=k:=fun m' Y7=>((Xo2 HR) m' Y7).1.1;have Wd:=(Xo8 HR).1.1;have hN:all.length=N:=(Xo0 HR).len;refine ⟨some ⟨g6,0,none⟩,N+1,c6,all++[⟨false,0,[],m.es⟩],N,⟨false,0,[],m.es⟩,rfl,rfl,by omega,Jt,?_,rfl,fun b e L hv=>?_,fun m' Y7=>?_,?_,hw6,?_,?_,?_⟩
     ·rw[UY (by omega),hN,Nat.sub_self];rfl
     ·have R7:=Qay (Xo3 H) N0 Wd;rw[HPO.out] at R7;rw[HTK.out,Qo6 (by rw[<-(Xo1 HR)];exact R7.symm),<-(Xo1 HR),List.set_append_right _ _ (by omega),hN,Nat.sub_self]
      show (all++[(⟨b,e,L,m.es⟩:Q01)]).map Q01.term=_
      rw[UR]
      congr 1
      show [(Q1p b e L,m.es)]=[(Q1p m.neg m.exp m.ws,m.es)]
      rw[hv,Qvi,Dyadic.zero_add]
     ·rcases Tq.1 Y7 with h1|h1
      ·exact (Xo2 HR) m' h1
      ·rw[Ux] at h1;subst h1;exact ⟨(Xo8 HR).1,by simp,by simp,by simp;omega⟩
     ·rw[Qq9 (m:=⟨false,0,[],m.es⟩) hN HPO.out];have h5:=(Xo0 ZU).below (Xo3 H5);refine h5.keep (((Xo5 H5).block _ (by rw[Ui];exact Nat.lt_succ_of_lt h5.lt) (fun e=>?_)).trans (((Ug w5.heap.size w5).alloc (Ue _) _).block _ h5.lt));cases a1 with
      |none=>simp at e
      |some y=>simp only[Uz,Uj] at e;exact h5.ne (Xo0 H5) rfl e.symm
     ·have h9:wr.heap.size<w4.heap.size:=(by have h1:=(Xe14 HR);have h2:=(Xo0 H2).size;have h3:=(Xe3 ZU);have h4:=(Xo1 ZU).2.2.2.1;omega);have S8:=(Xo1 ZU).2.1.step (Xo3 H5) h9;have h95:=Uc h9 (Xo3 H5).size;refine S8.onKept (((Xo5 H5).block _ (by rw[Ui];exact Nat.lt_succ_of_lt h95) (fun e=>?_)).trans (((Ug w5.heap.size w5).alloc (Ue _) _).block _ h95));cases a1 with
      |none=>simp at e
      |some y=>simp only[Uz,Uj] at e;have:=((Xo0 HR).lt rfl).2;omega
     ·have h1:=(Xe14 HR);have h2:=(Xo0 H2).size;have h3:=(Xe3 ZU);have h4:=(Xo1 ZU).2.2.2.1;have h5:=(Xo3 H5).size;have h6:=(Xo5 H5).size;rw[Ui] at h6;omega
     ·have h5:=HW4.out.step (Xo3 H5);exact h5.turn ((Xo1 H5).off h5) ((Q0e.of_below (Ba) _).trans0 (Q0e.of_grown (Xo5 H5) fun r hr _=>by
       cases a1 with
       |none=>simp at hr
       |some y=>simp only[Uz,Uj] at hr;exact ⟨y,rfl,hr⟩)) (fun _ h=>h)
   case rest=>
    obtain ⟨a2,N2,c2,all2,j,mj,rfl,rfl,JU,QE,Ji,hej,N5,VO,YC,D0,hX9,We,hw9⟩:=hcut;obtain ⟨g,rfl,awj,lwj,cwj,bej,oej,lej,cej,q0,q1,q2,q3,hwj,Vo,hbj1,hbj2⟩:=QE.ent j mj Ji;have hjN:j<N2:=(by rw[<-QE.len];exact (Ul.1 Ji).1);have hjN':(j:Int)<(N2:Int):=(by omega);have hj0:(0:Int)<=(j:Int):=(by omega);obtain ⟨I2,O8,X8,Q2⟩:=VO mj (Uf Ji);have Y8:=Q2h (Xo8 HR).2 (Xo6 HR);have hlj:=hwj.len;have hi6:i<600:=(by have:=(Xo4 H);omega);have S5:=Qiw mj.neg mj.exp awj lwj cwj mj.ws m.neg m.exp aw lw cw m.ws wc.drew hwj.drew hw9.drew (by omega) (by omega) (by omega) (by omega) (by omega) (by omega) (69632+64*(i:Int)) (-65536) 65536 (by omega) (by omega) (by omega) (by omega) (by omega) (by omega);obtain ⟨g0,g1,g2⟩:=hX9.cc;have HM:=Xh11 JU QE Ji hej N5 VO YC D0 hX9 We S5;clear JU QE Ji hej N5 VO YC D0 hX9 We hw9 S5 hwj Vo I2 O8 X8 Q2 Y8 hlj y0 y1 y2 y3 hlk;have q0d:wc.drew.cell? ⟨g,j*4,none⟩=some (.bool mj.neg):=q0;have q1d:wc.drew.cell? ⟨g,j*4+1,none⟩=some (.int .i64 mj.exp):=q1;have q2d:wc.drew.cell? ⟨g,j*4+2,none⟩=some (.slice awj lwj cwj):=q2;have g0d:wc.drew.cell? ⟨wr.heap.size,0,none⟩=some (.bool m.neg):=g0;have g1d:wc.drew.cell? ⟨wr.heap.size,1,none⟩=some (.int .i64 m.exp):=g1;have g2d:wc.drew.cell? ⟨wr.heap.size,2,none⟩=some (.slice aw lw cw):=g2;have hjt:((j:Int)).toNat=j:=by omega
    go_upto_region 13 with fail
    go_region_law (
     refine Q3h (by rfl) 188 #[.agg #[.bool mj.neg,.int .i64 mj.exp,.slice awj lwj cwj],.agg #[.bool m.neg,.int .i64 m.exp,.slice aw lw cw]] (by simp[go_sem]) ?_;refine (Xe10 HM).mono ?_;rintro r w8 ⟨b,e,al,ll,cl,L,rfl,hw8,Z9,hl8,hh8,ht8,Xq⟩;refine ⟨_,rfl,?_⟩;have A5:Bw wc w8:=⟨Xq.os,Xq.tape,Xq.output,Xq.size,Xq.block⟩;have ZA:g<wc.heap.size:=((Xo1 HM).lt rfl).2;have j0:=(A5.cell (p:=⟨g,j*4,none⟩) ZA).trans q0;have j1:=(A5.cell (p:=⟨g,j*4+1,none⟩) ZA).trans q1;have j2:=(A5.cell (p:=⟨g,j*4+2,none⟩) ZA).trans q2;have E7:=Qqa (Xo1 HM);have i0':=(A5.frozen (p:=⟨g,j*4,none⟩) ZA).trans (E7 _);have i1':=(A5.frozen (p:=⟨g,j*4+1,none⟩) ZA).trans (E7 _);have i2':=(A5.frozen (p:=⟨g,j*4+2,none⟩) ZA).trans (E7 _);have n1:(w8.setCell ⟨g,j*4,none⟩ (.bool b)).cell? ⟨g,j*4+1,none⟩=some (.int .i64 mj.exp):=(Ud _ _ _ _ (by simp)).trans j1;have n2:((w8.setCell ⟨g,j*4,none⟩ (.bool b)).setCell ⟨g,j*4+1,none⟩ (.int .i64 e)).cell? ⟨g,j*4+2,none⟩=some (.slice awj lwj cwj):=(Ud _ _ _ _ (by simp)).trans ((Ud _ _ _ _ (by simp)).trans j2);have H8:=Xh6 hw8 Z9 hl8 hh8 ht8 A5;clear hw8 Z9 hl8 hh8 ht8 A5 Xq ZA E7)
    all_goals go_wp2_with fail
    all_goals exact ⟨Qtt E0 (Xo0 HM) (Xo1 HM) (Xo2 HM) (Xo4 HM) (Xo5 HM) (Xo6 HM) (Xo7 HM) (Xo0 H8) (Xo1 H8) (Xo2 H8) (Xo3 H8) (Xo4 H8) (Xe5 H8),by simp only[intOf];omega⟩
  ·have J0:¬((i:Int)<(ms.length:Int)):=(by omega);have I7:i=ms.length:=(by omega);rw[I7,Tn] at u6;have A1:N<=600:=(by have:=(Xo4 H);omega);have O1:N<=9223372036854775807:=(by omega);have HL:=Xh5 Y0 u6 Zx C1 I7;clear Y0 u6 Zx QI C1 I7
   go_wp2_with fail
   rename World=>wl
   go_loopw [12,72] (fun s12 s72 wx=>J0j wl all k s12 s72 wx) (fun _ iv _=>N-(intOf iv).toNat)
   case atStart=>
    exact ⟨0,none,0,0,[],rfl,rfl,Ut _,Ut _,Q1r.nil_ _ _,rfl,(fun m hm=>by cases hm),(fun m hm=>by cases hm),Ug _ _⟩
   case round=>
    obtain ⟨q,a3,M,c3,outs,rfl,rfl,hq,hM,X4,Jv,Wk,O3,XV⟩:=hrel
    by_cases VZ:q<N
    ·have hql':(q:Int)<(N:Int):=(by omega);obtain ⟨m,hm⟩:∃m,all[q]?=some m:=⟨_,Ua (by rw[(Xo0 HL).len];exact VZ)⟩;have YF:=(Xo0 HL).step XV;obtain ⟨g,rfl,aw,lw,cw,be,oe,le,ce,q0,q1,q2,q3,hw,he,C0,D0⟩:=YF.ent q m hm;obtain ⟨I2,O8,X8,Q2⟩:=(Xo2 HL) m (Uf hm);have hlw:=hw.len;have hi6:i<=600:=(by have:=(Xo4 H);omega);have hX:=Q34.new wr (.bool m.neg) (.int .i64 m.exp) (.slice aw lw cw) (.slice (some ⟨be,oe,none⟩) le ce) 98;have K2:Bw wr (wr.alloc (.cells #[.bool m.neg,.int .i64 m.exp,.slice aw lw cw,.slice (some ⟨be,oe,none⟩) le ce] 98)):=Ba;have U7:=Q0h wr (.cells #[.bool m.neg,.int .i64 m.exp,.slice aw lw cw,.slice (some ⟨be,oe,none⟩) le ce] 98);have V9:=((Xo5 H).step ((Xo3 HL))).step XV;have C4:=Q5a m.neg aw lw cw m.ws m.exp _ (hw.step K2) (V9.step K2) (by omega) (by omega) (by omega);have HQ:=Xh13 X4 Jv Wk O3 XV hm hw he I2 hX K2 U7 C4;obtain ⟨x0,x1,x2⟩:=hX.cc;have x3:=hX.c3;have t6:=(Xo0 HL).ent q m hm;clear X4 Jv Wk O3 XV hm hw he I2 hX K2 U7 C4 YF V9 O8 X8 Q2
     go_upto_if 90 with (go_at_call_of 165 (Value.bool m.neg);refine (Xe12 HQ).mono ?_;rintro r w5 ⟨n',e',a',l',c',L,er,rfl,B7,i6,Z0⟩;have H5:=Xh3 (Q81 B7) i6 Z0;clear B7 i6 Z0)
     have hm:=(Xo5 HQ);have Xw:g<wl.heap.size:=((Xo0 HL).lt rfl).2;have Qc:be<wl.heap.size:=by
      obtain ⟨g2,e2,aw2,lw2,cw2,be2,oe2,le2,ce2,_,_,_,p3,_,_,_,p7⟩:=t6;injection e2 with e2;injection e2 with e2;subst e2;have h1:=((Xo4 HQ).cell (p:=⟨g,q*4+3,none⟩) Xw).trans p3;rw[q3] at h1;injection h1 with h1;injection h1 with h1;injection h1 with h1;injection h1 with h1;omega
     have V5:((all.take (q+1)).map Q01.term).filter (fun p=>decide (p.1≠0))=((all.take q).map Q01.term).filter (fun p=>decide (p.1≠0))++(if m.term.1=0 then [] else [m.term]):=by
      rw[Tc,hm,UR,List.filter_append]
      congr 1
      show [m.term].filter _=_
      rw[List.filter_cons]
      by_cases h0:m.term.1=0
      ·rw[Us h0,Up (by simpa using h0)];rfl
      ·rw[Up h0,Us (by simpa using h0)];rfl
     have XY:∀m'∈all.take (q+1),m'∈all.take q∨m'=m:=fun m' h'=>by
      rw[Tc,hm] at h';simpa using h'
     have hbw5:=Below.next0 (Xo10 HQ) (Xe2 H5);have hb5l:=Below.next0 (Xo4 HQ) hbw5;have S4:=Xh5 Qc V5 XY hbw5 hb5l;have S8:=(Xo9 HQ).step (Xe2 H5) (Xo11 HQ);have hN5:=Q03.new w5 (.bool n') (.int .i64 e') (.slice a' l' c') 26;have hal5:Bw w5 (w5.alloc (.cells #[.bool n',.int .i64 e',.slice a' l' c'] 26)):=Ba;have Xv:=S8.step hal5 (Uc (Xo11 HQ) (Xe2 H5).size);have u3:=Xv.c3;obtain ⟨t0,t1,t2⟩:=hN5.cc;have HA5:=Ub hal5;clear S8 hN5 Xv hal5 t6 Qc V5 XY hbw5 hb5l hm x0 x1 x2 x3;rcases (Xo0 H5) with ⟨B9,rfl,Z1,M0⟩|⟨hnf,rfl,_⟩
     ·have XJ:=(Xo1 H5).len;have YS:∀m'∈all.take (q+1),Q44 m'.term.1:=fun m' h'=>((Xo2 S4) m' h').elim (fun h1=>(Xo3 HQ) m' h1) (fun h1=>by subst h1;exact B9);have HV:=Xh4 B9 Z1 M0 YS;clear B9 Z1 M0 YS
      by_cases VT:L=[]
      ·have I3:¬((0:Int)<(l':Int)):=(by rw[<-XJ,VT];simp);have h0:m.term.1=0:=by
        show Q1p m.neg m.exp m.ws=0
        have e0:Q1p n' e' L=Q1p m.neg m.exp m.ws:=(Xo2 HV);rw[<-e0,VT];exact (Q45 (by rw[<-VT];exact (Xo1 HV)) (fun x hx=>by cases hx)).2 rfl
       have H0:=Ub h0;clear h0 VT XJ
       go_wp2_with fail
       refine ⟨⟨q+1,a3,M,c3,outs,rfl,congrArg (Value.int .i64) (by omega),by have:=(Xo0 HL).len;omega,by omega,(Xo0 HQ).step (Below.next0 (Xo3 S4) HA5.out),?_,(Xo2 HQ),(Xe3 HV),Below.next0 (Xe4 S4) HA5.out⟩,by simp only[intOf];omega⟩;rw[(Xo1 S4),Us H0.out,Xai];exact (Xo1 HQ)
      ·have I3:(0:Int)<(l':Int):=by
        rw[<-XJ];have:=Xa3.2 VT;omega
       obtain ⟨E2,P1,G1,K1⟩:=HI.out;have XC:=(Xo0 HQ).step (Below.next0 (Xo3 S4) HA5.out);obtain ⟨xs6,Zh⟩:=XC.row;have hMM:M<=600:=(by omega);have Xy:wl.heap.size<=((w5.alloc (.cells #[.bool n',.int .i64 e',.slice a' l' c'] 26)).alloc (.cells #[.bool n',.int .i64 e',.slice a' l' c',.slice (some ⟨be,oe,none⟩) le ce] 98)).heap.size:=by
        have:=(Xe4 S4).size;rw[Ui,Ui];omega
       obtain ⟨g6,c6,w6,x4,Y2,Q1,B5⟩:=Q0w (P:=Tryz.prog) NoU ((w5.alloc (.cells #[.bool n',.int .i64 e',.slice a' l' c'] 26)).alloc (.cells #[.bool n',.int .i64 e',.slice a' l' c',.slice (some ⟨be,oe,none⟩) le ce] 98)) 42 42 98 i0 _ 4 64 Tryz.underlying42 E2 P1 G1 K1 rfl Q8b wl.heap.size Xy a3 M c3 xs6 (Zh.step (Ba)) (w5.alloc (.cells #[.bool n',.int .i64 e',.slice a' l' c'] 26)).heap.size 1 1 [.bool n',.int .i64 e',.slice a' l' c',.slice (some ⟨be,oe,none⟩) le ce] rfl (Tx (cs:= #[.bool n',.int .i64 e',.slice a' l' c',.slice (some ⟨be,oe,none⟩) le ce]) (Um _ _)) (by simp[Value.oneCell']) (by intro u hu;simp at hu;rcases hu with rfl|rfl|rfl|rfl <;> exact fun _=>by simp[nv]) (by decide) (by omega) (by decide) (by decide);rw[Ui w5] at x4;have H6:=Xh6 XC Zh Y2 Q1 B5 VT;clear XC Zh Y2 Q1 B5 Xy VT XJ E2 P1 G1 K1
       go_wp2_with (at_builtin;refine Q06 rfl (.tmp 96) (.tmp 101) 42 42 rfl _ _ rfl rfl _ _ x4 ?_)
       have hw6:=(Xo1 H5).toWordsIn.step HA5.out;have he6:=(Xo7 HQ).step (Below.next0 (Xo3 S4) HA5.out);have Jt:=(Xo0 H6).push (Xo1 H6) (o:=.cells #[.bool n',.int .i64 e',.slice a' l' c',.slice (some ⟨be,oe,none⟩) le ce] 98) (Xo3 H6) (Xo4 H6) (m:=⟨n',e',L,m.es⟩) (Xo2 H6) rfl hw6 he6 (by rw[Ui];have:=(Xo0 S4);have:=(Xe4 S4).size;omega) (fun x hx e=>by have:=((Xo0 H6).lt hx).1;have:=(Xo0 S4);omega);have Yq:Bw wl w6:=by
        have h1:=(Below.next0 (Xe4 S4) HA5.out);have h2:=h1.alloc h1.size (.cells #[.bool n',.int .i64 e',.slice a' l' c',.slice (some ⟨be,oe,none⟩) le ce] 98);exact h2.trans ⟨(Xo3 H6).os,(Xo3 H6).tape,(Xo3 H6).output,(Xo3 H6).size,fun z hz=>(Xo3 H6).block z (Uc hz h2.size) (fun e=>by
         cases a3 with
         |none=>simp at e
         |some y=>simp only[Uz,Uj] at e;have:=((Xo0 H6).lt rfl).1;omega)⟩
       have hv:Q1p n' e' L=m.term.1:=(Xo2 HV);have Q0:m.term.1≠0:=fun e0=>(Xe5 H6) ((Q45 (Xo1 HV) hw6.low).1 (hv.trans e0));refine ⟨⟨q+1,_,M+1,c6,_,rfl,congrArg (Value.int .i64) (by omega),by have:=(Xo0 HL).len;omega,by omega,Jt,?_,fun m' Y7=>?_,(Xe3 HV),Yq⟩,by simp only[intOf];omega⟩
       ·rw[(Xo1 S4),Up Q0,UR,(Xo1 HQ)]
        congr 1
        show [(Q1p n' e' L,m.es)]=[m.term]
        rw[hv];rfl
       ·rcases Tq.1 Y7 with h1|h1
        ·exact (Xo2 HQ) m' h1
        ·rw[Ux] at h1;subst h1;exact ⟨⟨(Xo8 HQ),(Xo1 HV)⟩,(Xe5 H6)⟩
     ·have V4:X=.error 2:=by
       rw[<-(Xo6 H)];have o8:m.term∈Qb6 (ms.map Q01.term):=(by rw[<-(Xo1 HL)];exact To.2 ⟨m,Uf (Xo5 HQ),rfl⟩);unfold Q25;rw[Us];rw[Xav];refine ⟨m.term,(Qgh _ _).1 o8,?_⟩;have:Q9k m.term.1=false:=(Qgi _).2 hnf;rw[this];rfl
      have HX:=Ub V4;clear V4 hnf
      go_wp2_with fail
      exact ⟨rfl,.tuple #[.slice none 0 0,.int .i64 2],by simp[results,go_sem],Q1h.err HX.out (Below.next0 (Below.next0 (Xo3 HL) (Xe4 S4)) HA5.out)⟩
    ·have hql':¬((q:Int)<(N:Int)):=(by omega);have hqa:all.take q=all:=Uw (by have:=(Xo0 HL).len;omega);rw[hqa] at Jv O3;have HO:=Xh5 X4 Jv Wk O3 XV;have hM6:M<=600:=(by have:=(Xo0 HL).len;omega);clear X4 Jv Wk O3 XV hqa
     by_cases Wz:24<M
     ·have h24':(24:Int)<(M:Int):=(by omega);have Xv:X=.error 6:=by
       rw[<-(Xo6 H)];exact Qtu (Xo1 HL) (Xo1 HO) (Xo3 HO) (by rw[(Xo0 HO).len];exact Wz)
      have HX:=Ub Xv;clear Xv
      go_wp2_with fail
      exact ⟨rfl,.tuple #[.slice none 0 0,.int .i64 6],by simp[results,go_sem],Q1h.err HX.out (Below.next0 (Xo3 HL) (Xe4 HO))⟩
     ·have h24':¬(24:Int)<(M:Int):=(by omega);have YU:=Qwq (Xo0 HO) (by omega) ((Xo0 HO).exps (Xo2 HO));have HS:=Ub YU;clear YU
      go_wp2_with (go_at_call_of 189 (Value.slice a3 M c3);refine HS.out.mono ?_;rintro r w9 ⟨rfl,outs',Ke,KP,hs9,V3⟩;have H9:=Xh4 Ke KP hs9 V3;clear Ke KP hs9 V3)
      have Xi:outs'.Pairwise (fun p q=>¬Q3j p.es q.es<0):=(Xo2 H9).imp fun {p q} h=>by omega
      obtain ⟨I1,hrv⟩:=Qz8 (Xo2 H) (Xo3 H) (Qo8 _) (Qjf (Xo1 HL) (by have:=(Xo3 HO);exact this)) (Xo1 HL) (Xo1 HO) (by rw[(Xo0 HO).len];omega) (Xo1 H9) Xi (Xo2 HO);refine ⟨rfl,.tuple #[.slice a3 M c3,.int .i64 0],by simp[results,go_sem],?_,?_⟩
      ·exact Below.next0 (Xo3 HL) ((Xe4 HO).trans (Xe3 H9))
      ·rw[<-(Xo6 H),I1];exact ⟨a3,M,c3,outs',rfl,(Xo0 H9),rfl,hrv⟩
def Qc4 (w:World):List Q01->LV->Prop
 |[],xs=>xs=[]
 |m::r,xs=>∃aw lw cw ae le ce ys,xs=.bool m.neg:: .int .i64 m.exp:: .slice aw lw cw:: .slice ae le ce::ys/\(WordsIn w aw lw cw m.ws/\Q0g w ae le ce m.es/\-9223372036854775808<=m.exp/\m.exp<=9223372036854775807)/\Qc4 w r ys
theorem Qc4.len {w:World}:∀{ms:List Q01} {xs:LV},Qc4 w ms xs->xs.length=ms.length*4
 |[],_,h=>by cases h;rfl
 |m::r,_,⟨_,_,_,_,_,_,ys,rfl,_,h⟩=>by
  have:=Qc4.len h;simp only[Ur];omega
theorem Qc4.one {w:World}:∀{ms:List Q01} {xs:LV},Qc4 w ms xs->∀u∈xs,u.oneCell'=true
 |[],_,h,u,hu=>by cases h;cases hu
 |m::r,_,⟨_,_,_,_,_,_,ys,rfl,_,h⟩,u,hu=>by
  simp only[Uy] at hu;rcases hu with rfl|rfl|rfl|rfl|hu
  ·rfl
  ·rfl
  ·rfl
  ·rfl
  ·exact Qc4.one h u hu
theorem Qc4.append {w:World} {ms':List Q01} {ys:LV} (h':Qc4 w ms' ys):∀{ms:List Q01} {xs:LV},Qc4 w ms xs->Qc4 w (ms++ms') (xs++ys)
 |[],_,h=>by cases h;exact h'
 |m::r,_,⟨aw,lw,cw,ae,le,ce,zs,rfl,hg,h⟩=>⟨aw,lw,cw,ae,le,ce,zs++ys,rfl,hg,Qc4.append h' h⟩
theorem Qc4.of {w:World} {b:Nat}:∀{ms:List Q01} {o:Nat},(∀j m,ms[j]?=some m->Q4n w b (o+j*4) m)->∃xs,Qc4 w ms xs/\∀j u,xs[j]?=some u->w.cell? ⟨b,o+j,none⟩=some u
 |[],o,_=>⟨[],rfl,fun j u h=>by simp at h⟩
 |m::r,o,h=>by
  obtain ⟨ys,x8,QG⟩:=Qc4.of (ms:=r) (o:=o+4) (fun j m' hm=>by have:=h (j+1) m' hm;rwa[show o+(j+1)*4=o+4+j*4 by omega] at this);obtain ⟨aw,lw,cw,ae,le,ce,h0,h1,h2,h3,hg⟩:=h 0 m rfl;rw[Xaa,Tz] at h0 h1 h2 h3;refine ⟨_,⟨aw,lw,cw,ae,le,ce,ys,rfl,hg,x8⟩,fun j u hj=>?_⟩
  match j,hj with
  |0,hj=>simp at hj;rw[<-hj];exact h0
  |1,hj=>simp at hj;rw[<-hj];exact h1
  |2,hj=>simp at hj;rw[<-hj];exact h2
  |3,hj=>simp at hj;rw[<-hj];exact h3
  |j+4,hj=>
   have:=QG j u (by simpa using hj);rwa[show o+4+j=o+(j+4) by omega] at this
theorem Qc4.lie {w w':World} {g:Nat} (hb:Bw w w'):∀{ms:List Q01} {xs:LV} {o:Nat},Qc4 w ms xs->(∀j u,xs[j]?=some u->w'.cell? ⟨g,o+j,none⟩=some u)->∀j m,ms[j]?=some m->Q4n w' g (o+j*4) m
 |[],_,_,_,_,j,m,hm=>by simp at hm
 |m0::r,_,o,⟨aw,lw,cw,ae,le,ce,ys,rfl,⟨g1,g2,g3⟩,h⟩,hc,j,m,hm=>by
  match j,hm with
  |0,hm=>
   simp at hm;subst hm;refine ⟨aw,lw,cw,ae,le,ce,?_,?_,?_,?_,g1.step hb,g2.step hb,g3⟩
   ·exact hc 0 _ rfl
   ·have:=hc 1 _ rfl;simpa using this
   ·have:=hc 2 _ rfl;simpa using this
   ·have:=hc 3 _ rfl;simpa using this
  |j+1,hm=>
   have:=Qc4.lie hb (o:=o+4) h (fun i u hi=>by
    have:=hc (i+4) u (by simpa using hi);rwa[show o+(i+4)=o+4+i by omega] at this) j m (by simpa using hm)
   rwa[show o+4+j*4=o+(j+1)*4 by omega] at this
theorem Q94 {P:Program} (w:World) (t ty e:TypeId) (i:TypeInfo) (ht:P.underlying t=some (.slice e)) (hi:P.info? e=some i) (a b:OA) (n c d:Nat) (hn:n<=c):
 (Builtin.append_ #[t,t] ty #[.slice a n c,.slice b 0 d]).run P w=.ok (.slice a n c) w:=by
 have hf:(Builtin.firstCells i.size 0 (.slice b 0 d)).run P w=.ok #[] w:=by
  cases b with
  |none=>exact run_firstCells_none w i.size 0 0 d
  |some x=>exact run_firstCells_some (P:=P) w i.size 0 x 0 d [] (by simp) (fun j u h=>by simp at h)
 cases a with
 |none=>simp[Builtin.append_,run_underlying ht,sizeOf,typeInfo,hi,Builtin.lenOf,hf,hn]
 |some x=>simp[Builtin.append_,run_underlying ht,sizeOf,typeInfo,hi,Builtin.lenOf,hf,hn,storeCells]
theorem Qbe (ty:TypeId) (w0 w:World) (hb:Bw w0 w) (a:OA) (n c:Nat) (xs:LV) (hr:Row w w0.heap.size 98 4 a n c xs) (b:OA) (m d:Nat) (ms:List Q01) (h:Q08 w0 b m d ms) (hnm:n+m<=1000):
 ∃a' c' w' ys,(Builtin.append_ #[42,42] ty #[.slice a n c,.slice b m d]).run Tryz.prog w=.ok (.slice a' (n+m) c') w'/\Row w' w0.heap.size 98 4 a' (n+m) c' (xs++ys)/\Qc4 w0 ms ys/\Bw w0 w':=by
 obtain ⟨i0,E2,P1,G1,K1⟩:=Q0p Q4q;obtain ⟨h1,h2,h3,rfl|⟨bb,o,rfl,E0,h4⟩⟩:=h
 ·subst h1;refine ⟨a,c,w,[],Q94 w _ ty _ i0 Tryz.underlying42 E2 a b n c d hr.cap.1,by simpa using hr,rfl,hb⟩
 ·obtain ⟨ys,x8,QG⟩:=Qc4.of h4;have K9:∀j u,ys[j]?=some u->w.cell? ((⟨bb,o,none⟩:Addr).add j)=some u:=fun j u hj=>by
   rw[Xbp];exact (hb.cell (p:=⟨bb,o+j,none⟩) E0).trans (QG j u hj)
  obtain ⟨a',c',w',S1,I0,K6,O0,_⟩:=Q4b w0 w ty 42 98 i0 _ 4 64 Tryz.underlying42 E2 P1 G1 K1 rfl (by decide) w0.heap.size hb hb.size a n c xs hr ⟨bb,o,none⟩ m d ys (by rw[x8.len,h1]) K9 x8.one (n+m) rfl (by omega) (by omega);exact ⟨a',c',w',ys,S1,I0,x8,O0⟩
theorem Qws (N:Nat) (w:World) (hN:N<=1000):
 Calls Tryz.prog 284 #[.slice none 0 0,.int .i64 (N:Int)] w fun r w'=>∃a c,r=.returned (.slice a 0 c)/\Row w' w.heap.size 98 4 a 0 c []/\Bw w w':=by
 obtain ⟨i0,E2,P1,G1,K1⟩:=Q0p Q4q;have h0:¬((N:Int)<0):=by omega
 by_cases h1:N=0
 ·subst h1
  go_enter Tryz.func284,Tryz.ntmps284
  go_wp2_with fail
  go_ret;exact ⟨none,0,rfl,Row.nil_ _ _ _ _,Ug _ _⟩
 ·have h2:(0:Int)<(N:Int):=by omega
  have hC1:=grownCap_ge w (0+N) 0 98;have Wp:=grownCap_le_maxLen w (0+N) 0 98 (by unfold maxLen;omega);have S1:=fun ty=>Lib.run_append_grow_zeros (P:=Tryz.prog) w 42 3 ty 98 i0 _ .i64 .i64 Tryz.underlying42 Tryz.underlying3 E2 P1 none 0 0 [] (run_firstCells_none _ _ _ _ _) N (by omega) (by rw[G1];decide) (by omega) (by omega) (by rw[K1];omega) (by rw[K1];exact growslice_fits (by omega) (by omega));obtain ⟨C,hC⟩:∃C,grownCap w (0+N) 0 98=C:=⟨_,rfl⟩;rw[hC] at S1 hC1 Wp;obtain ⟨W,hW⟩:∃W,w.drew.alloc (.cells (([]:LV).toArray++Builtin.zeroCells (Value.agg #[.bool false,.int .i64 0,.slice none 0 0,.slice none 0 0]).cells N++Builtin.zeroCells (Value.agg #[.bool false,.int .i64 0,.slice none 0 0,.slice none 0 0]).cells (C-(0+N))) 98)=W:=⟨_,rfl⟩;rw[hW] at S1;rw[UH] at S1 hC1;have I0:Row W w.heap.size 98 4 (some ⟨w.heap.size,0,none⟩) 0 C []:=by
   refine ⟨by simp,.inr ⟨w.heap.size,C,_,rfl,Ue _,by rw[<-hW];exact Um w.drew _,Ut _,Wp,?_,by simp⟩⟩;simp[size_zeroCells,Value.cells];omega
  have O0:Bw w W:=by
   rw[<-hW];exact ⟨rfl,rfl,rfl,by rw[Ui];exact Xaq _,fun k hk=>heap_alloc_old w.drew _ hk⟩
  have H:=Xh2 I0 O0;clear hW I0 O0 hC Wp
  go_enter Tryz.func284,Tryz.ntmps284
  go_wp2_with (at_builtin;refine Q06 rfl (.tmp 20) (.tmp 21) 42 3 rfl _ _ rfl rfl _ _ (S1 _) ?_)
  go_ret;exact ⟨_,_,rfl,(Xo0 H),(Xe1 H)⟩
def J0k (n m:Nat) (s3 s11:Value):Prop:=(s11=.int .i64 0/\s3=.int .i64 0)∨(s11=.int .i64 1/\s3=.int .i64 (n:Int))∨(s11=.int .i64 2/\s3=.int .i64 ((n+m:Nat):Int))
def Qtv (w wr:World) (n m:Nat) (ms ms2:List Q01) (s6 s27:Value):Prop:=Bw w wr/\∃a k c mk xs,s6=.slice a k c/\Row wr w.heap.size 98 4 a k c xs/\Qc4 w mk xs/\
 ((s27=.int .i64 0/\k=0/\mk=[])∨(s27=.int .i64 1/\k=n/\mk=ms)∨(s27=.int .i64 2/\k=n+m/\mk=ms++ms2))
theorem Qtv.done {w wr:World} {k c:Nat} {a:OA} (hb:Bw w wr) {xs:LV} (hr:Row wr w.heap.size 98 4 a k c xs) {mk:List Q01} (he:Qc4 w mk xs) (hk:mk.length=k):Q08 wr a k c mk:=by
 have S3:=hr.cap;refine ⟨hk,S3.1,by have:=S3.2;simpa[maxLen] using this,?_⟩;rcases hr.form with ⟨_,h0,_⟩|⟨g,cur,rfl,_,E0,_⟩
 ·exact .inl (TP (by omega))
 ·refine .inr ⟨g,0,rfl,E0,he.lie hb fun j u hj=>?_⟩;obtain ⟨g',e,_,_,h2⟩:=hr.at_ hj;injection e with e;injection e with e;subst e;rw[UH];exact h2
theorem Qqc (sb:Nat) (a:OA) (n c:Nat) (ms:List Q01) (b:OA) (m d:Nat) (ms2:List Q01) (w:World) (h1:Q08 w a n c ms) (h2:Q08 w b m d ms2) (hl:sb<w.heap.size) (c0:w.cell? ⟨sb,0,none⟩=some (.slice a n c)) (c1:w.cell? ⟨sb,1,none⟩=some (.slice b m d)) (hn:n<=300) (hm:m<=300):
 Calls Tryz.prog 245 #[.slice (some ⟨sb,0,none⟩) 2 2] w fun r w'=>∃a' c',r=.returned (.slice a' (n+m) c')/\Q08 w' a' (n+m) c' (ms++ms2)/\Bw w w':=by
 have hg:=Qws (n+m) w (by omega);have H:=Xh6 h1 h2 hl c0 c1 hg;have A9:¬((n:Int)<0):=by omega
 have o9:¬(((n+m:Nat):Int)<0):=by omega
 have KB:(n:Int)+(m:Int)=((n+m:Nat):Int):=by omega
 have HM:=Xh2 o9 KB;clear h1 h2 hl hg o9 KB
 go_enter Tryz.func245,Tryz.ntmps245
 go_wp2_with fail
 go_loopw [3,11] (fun s3 s11 wr=>J0k n m s3 s11/\wr=w) (fun _ iv _=>2-(intOf iv).toNat)
 case atStart=>exact ⟨.inl ⟨rfl,rfl⟩,rfl⟩
 case round=>
  obtain ⟨hrel,rfl⟩:=hrel
  rename World=>w
  rcases hrel with ⟨rfl,rfl⟩|⟨rfl,rfl⟩|⟨rfl,rfl⟩
  ·go_wp2_with fail
   exact ⟨⟨.inr (.inl ⟨rfl,rfl⟩),.intro⟩,by simp only[intOf];decide⟩
  ·have o9:¬(((n+m:Nat):Int)<0):=(by omega);have hw:wrap64 ((n:Int)+(m:Int))=((n+m:Nat):Int):=by unfold wrap64;omega
   go_wp2_with fail
   exact ⟨⟨.inr (.inr ⟨rfl,rfl⟩),.intro⟩,by simp only[intOf];decide⟩
  ·go_wp2_with (refine (Xe5 H).mono ?_;rintro r w1 ⟨a6,c6,rfl,Zh,F3⟩;have H6:=Xh2 Zh F3;clear Zh F3)
   go_loopw [6,27] (fun s6 s27 wr=>Qtv w wr n m ms ms2 s6 s27) (fun _ iv _=>2-(intOf iv).toNat)
   case atStart=>exact ⟨(Xe1 H6),a6,0,c6,[],[],rfl,(Xo0 H6),rfl,.inl ⟨rfl,rfl,rfl⟩⟩
   case round=>
    obtain ⟨C1,a7,k,c7,mk,xs,rfl,hr7,he7,⟨rfl,rfl,rfl⟩|⟨rfl,rfl,rfl⟩|⟨rfl,rfl,rfl⟩⟩:=hrel
    ·obtain ⟨a8,c8,w8,ys,S1,hr8,he8,A5⟩:=Qbe 42 w wr C1 a7 0 c7 xs hr7 a n c ms (Xo0 H) (by omega);rw[UH] at S1 hr8;have H8:=Xh3 hr8 (Qc4.append he8 he7) A5;have k0:=(C1.cell (p:=⟨sb,0,none⟩) (Xo2 H)).trans c0;have k1:=(C1.cell (p:=⟨sb,1,none⟩) (Xo2 H)).trans c1;clear hr8 he8 A5 C1 hr7 he7
     go_wp2_with (at_builtin;refine Q06 rfl (.tmp 31) (.tmp 32) 42 42 rfl _ _ rfl rfl _ _ S1 ?_)
     exact ⟨⟨(Xe2 H8),a8,n,c8,_,_,rfl,(Xo0 H8),(Xo1 H8),.inr (.inl ⟨rfl,rfl,rfl⟩)⟩,by simp only[intOf];decide⟩
    ·obtain ⟨a8,c8,w8,ys,S1,hr8,he8,A5⟩:=Qbe 42 w wr C1 a7 k c7 xs hr7 b m d ms2 (Xo1 H) (by omega);have H8:=Xh3 hr8 (Qc4.append he8 he7) A5;have k0:=(C1.cell (p:=⟨sb,0,none⟩) (Xo2 H)).trans c0;have k1:=(C1.cell (p:=⟨sb,1,none⟩) (Xo2 H)).trans c1;clear hr8 he8 A5 C1 hr7 he7
     go_wp2_with (at_builtin;refine Q06 rfl (.tmp 31) (.tmp 32) 42 42 rfl _ _ rfl rfl _ _ S1 ?_)
     exact ⟨⟨(Xe2 H8),a8,k+m,c8,_,_,rfl,(Xo0 H8),(Xo1 H8),.inr (.inr ⟨rfl,rfl,rfl⟩)⟩,by simp only[intOf];decide⟩
    ·have H8:=Xh3 C1 hr7 he7;clear hr7 he7 C1
     go_wp2_with fail
     go_ret;exact ⟨_,_,rfl,Qtv.done (Xo0 H8) (Xo1 H8) (Xe2 H8) (by rw[Uh,(Xo0 H).1,(Xo1 H).1]),(Xo0 H8)⟩
theorem Q1h.lower {w0 w w':World} {n:Nat} {X:Except Int (List Q0b)} {r:Ending} (h:Q1h w n X r w') (hb:Bw w0 w):Q1h w0 n X r w':=⟨Below.next0 hb h.1,h.2⟩
theorem Q1h.form {w w':World} {n:Nat} {X:Except Int (List Q0b)} {r:Ending} (h:Q1h w n X r w'):∃a l c er,r=.returned (.tuple #[.slice a l c,.int .i64 er]):=by
 obtain ⟨_,h⟩:=h;cases X with
 |error e=>obtain ⟨a,l,c,rfl⟩:=h;exact ⟨a,l,c,e,rfl⟩
 |ok P=>obtain ⟨a,l,c,ms,rfl,_⟩:=h;exact ⟨a,l,c,0,rfl⟩
theorem Qmg (a:OA) (n c:Nat) (ms:List Q01) (b:OA) (m d:Nat) (ms2:List Q01) (k:Nat) (w:World) (h1:Q08 w a n c ms) (h2:Q08 w b m d ms2) (r1:Q1o k ms) (r2:Q1o k ms2) (hT:Q1s w):
 Calls Tryz.prog 191 #[.slice a n c,.slice b m d,.int .i64 (k:Int)] w (Q1h w k (Qvl (ms.map Q01.term) (ms2.map Q01.term))):=by
 have X2:=r1.1;have Y5:=r1.2.1;have hn:n<=24:=by have:=r1.2.2.1;rw[h1.1] at this;exact this
 have hm:m<=24:=by have:=r2.2.2.1;rw[h2.1] at this;exact this
 have p1:=fun W (hb:Bw w W)=>Q36 a n c ms k W (h1.step hb) (by omega);have p2:=fun W (hb:Bw w W)=>Q36 b m d ms2 k W (h2.step hb) (by omega);have hX:Qvl (ms.map Q01.term) (ms2.map Q01.term)=Q25 ((ms++ms2).map Q01.term):=by rw[UR];rfl
 rw[hX];clear hX;obtain ⟨X,hX⟩:∃X,Q25 ((ms++ms2).map Q01.term)=X:=⟨_,rfl⟩;rw[hX];have Jn:∀m∈ms++ms2,Qmb k m:=fun m hm=>by
  rcases Tq.1 hm with h|h
  ·exact (r1.2.2.2.1 m h).1
  ·exact (r2.2.2.2.1 m h).1
 have C4:=fun (a':OA) (c':Nat) (W:World) (hb:Bw w W) (h:Q08 W a' (n+m) c' (ms++ms2))=>by
  have:=Q5x a' (n+m) c' (ms++ms2) k W h Jn X2 Y5 (by omega) (hT.step hb);rw[hX] at this;exact this
 have H:=Xh7 h1 h2 r1 r2 p1 p2 C4;clear h1 h2 r1 r2 p1 p2 C4 hX Jn hT
 go_enter Tryz.func191,Tryz.ntmps191
 go_upto_region 3 with (first|(go_at_call_of 51 (Value.slice a n c);refine ((Xo4 H) _ (Ug _ _)).mono ?_;rintro r w1 ⟨⟨x,rfl,hx⟩,C0⟩;(have VY:x=true:=hx.2 (Xo2 H));clear hx;subst VY;have H1:=Ub C0;clear C0)|(go_at_call_of 51 (Value.slice b m d);refine ((Xo5 H) _ H1.out).mono ?_;rintro r w2 ⟨⟨x,rfl,hx⟩,D0⟩;(have VY:x=true:=hx.2 (Xo3 H));clear hx;subst VY;have H2:=Ub D0;clear D0))
 have D0:=Below.next0 H1.out H2.out;have G0:=D0.alloc D0.size (.cells #[.slice a n c,.slice b m d] 42);have i5:=Um w2 (.cells #[.slice a n c,.slice b m d] 42);have VP:=Qqc w2.heap.size a n c ms b m d ms2 (w2.alloc (.cells #[.slice a n c,.slice b m d] 42)) ((Xo0 H).step G0) ((Xo1 H).step G0) (Q0h _ _) (by rw[Uv _ _ _ _ _ _ i5];rfl) (by rw[Uv _ _ _ _ _ _ i5];rfl) (by omega) (by omega);have H3:=Xh2 G0 VP;clear D0 G0 i5 VP
 go_wp2_with (first|(go_at_call_of 245 (Value.slice (some ⟨w2.heap.size,0,none⟩) 2 2);refine (Xe1 H3).mono ?_;rintro r w4 ⟨a4,c4,rfl,hm4,F2⟩;have H4:=Xh2 hm4 (Below.next0 (Xo0 H3) F2);clear hm4 F2)|(go_at_call_of 133 (Value.slice a4 (n+m) c4);refine ((Xe6 H) a4 c4 _ (Xe1 H4) (Xo0 H4)).mono ?_;rintro r w5 I1;obtain ⟨a5,l5,c5,er,rfl⟩:=I1.form;have H5:=Ub (I1.lower (Xe1 H4));clear I1))
 exact ⟨rfl,.tuple #[.slice a5 l5 c5,.int .i64 er],by simp[results,go_sem],H5.out⟩
def NoD (v:Value):Prop:=∀x:Nat,v≠nv .u32 x
theorem Qc5 (b:Bool):NoD (.bool b):=fun _=>by simp[nv]
theorem Q6n (a:OA) (n c:Nat):NoD (.slice a n c):=fun _=>by simp[nv]
theorem Qh5 (e:Int):NoD (.int .i64 e):=fun _=>by simp[nv]
theorem Q40.offD {w:World} {B:Nat} {e:TypeId} {k:Nat} {a:OA} {n c:Nat} {xs:LV} (h:Q40 NoD w B e k a n c xs) {aw:OA} {l cw v:Nat} (hw:Q0r w aw l cw v):dig (2^32) v=[]∨∃b o,aw=some ⟨b,o,none⟩/\b<w.heap.size/\(∀(j:Nat) x,(dig (2^32) v)[j]?=some x->w.cell? ⟨b,o+j,none⟩=some (nv .u32 x))/\∀y,a=some y->y.block≠b:=by
 rcases hw.rd with h0|⟨b,o,rfl,hb,hc⟩
 ·exact .inl h0
 cases hL:dig (2^32) v with
 |nil=>exact .inl rfl
 |cons y r=>
  rw[hL] at hc;refine .inr ⟨b,o,rfl,hb,hc,fun z hz e=>?_⟩;have h1:=hc 0 y rfl;rcases h.1.form with ⟨h0,_⟩|⟨g,cur,h0,_,_,hh,_⟩
  ·rw[h0] at hz;cases hz
  ·rw[h0] at hz;injection hz with hz;subst hz;have e:g=b:=e;subst e;rw[Uv _ _ _ _ _ _ hh] at h1;exact h.2 g cur _ _ h0 hh _ (Array.mem_toList_iff.2 (Array.mem_of_getElem? h1)) y rfl
theorem Q40.grownD {w w':World} {B:Nat} {e:TypeId} {k:Nat} {a:OA} {n c:Nat} {xs:LV} (h:Q40 NoD w B e k a n c xs) (hg:w.grownBy w' (a.map (·.block))) {aw:OA} {l cw v:Nat} (hw:Q0r w aw l cw v):Q0r w' aw l cw v:=by
 refine ⟨hw.len,hw.cap,hw.most,?_⟩;rcases h.offD hw with h0|⟨b,o,rfl,hb,hc,Q0⟩
 ·exact .inl h0
 ·refine .inr ⟨b,o,rfl,Uc hb hg.size,fun j x hx=>(UM (a:=⟨b,o+j,none⟩) (hg.block b hb fun e=>?_)).trans (hc j x hx)⟩;cases a with
  |none=>simp at e
  |some z=>
   simp only[Uz,Uj] at e;exact Q0 z rfl e.symm
theorem Q0r.set1 {w:World} {a:OA} {n c v:Nat} (h:Q0r w a n c v) {p:Addr} {u:Value} (hp:w.cell? p=some u) (hu:NoD u) (x:Value):Q0r (w.setCell p x) a n c v:=by
 refine ⟨h.len,h.cap,h.most,?_⟩;have:=h.rd.store1 hp hu x;rwa[UT]
def Q65 (w0 w:World):List Q0b->LV->Prop
 |[],xs=>xs=[]
 |p::r,xs=>∃n a l c e v ae le ce ys,xs=.bool n:: .slice a l c:: .int .i64 e:: .slice ae le ce::ys/\(Q0r w a l c v/\Q4y n v e/\dy (sgn n v) e=p.1/\Q0g w0 ae le ce p.2)/\Q65 w0 w r ys
theorem Q65.len {w0 w:World}:∀{ts:List Q0b} {xs:LV},Q65 w0 w ts xs->xs.length=ts.length*4
 |[],_,h=>by cases h;rfl
 |p::r,_,⟨_,_,_,_,_,_,_,_,_,ys,rfl,_,h⟩=>by
  have:=Q65.len h;simp only[Ur];omega
theorem Q65.one {w0 w:World}:∀{ts:List Q0b} {xs:LV},Q65 w0 w ts xs->∀u∈xs,u.oneCell'=true/\NoD u
 |[],_,h,u,hu=>by cases h;cases hu
 |p::r,_,⟨_,_,_,_,_,_,_,_,_,ys,rfl,_,h⟩,u,hu=>by
  simp only[Uy] at hu;rcases hu with rfl|rfl|rfl|rfl|hu
  ·exact ⟨rfl,Qc5 _⟩
  ·exact ⟨rfl,Q6n _ _ _⟩
  ·exact ⟨rfl,Qh5 _⟩
  ·exact ⟨rfl,Q6n _ _ _⟩
  ·exact Q65.one h u hu
theorem Q65.app {w0 w:World} {ts':List Q0b} {ys:LV} (h':Q65 w0 w ts' ys):∀{ts:List Q0b} {xs:LV},Q65 w0 w ts xs->Q65 w0 w (ts++ts') (xs++ys)
 |[],_,h=>by cases h;exact h'
 |p::r,_,⟨n,a,l,c,e,v,ae,le,ce,zs,rfl,hg,h⟩=>⟨n,a,l,c,e,v,ae,le,ce,zs++ys,rfl,hg,Q65.app h' h⟩
theorem Q65.parts {w0 w:World}:∀{ts:List Q0b} {xs:LV} (k:Nat),Q65 w0 w ts xs->Q65 w0 w (ts.take k) (xs.take (k*4))/\Q65 w0 w (ts.drop k) (xs.drop (k*4))
 |ts,xs,0,h=>by simp only[Xaa,List.take_zero,Xbg];exact ⟨rfl,h⟩
 |[],_,k+1,h=>by cases h;simp only[List.take_nil,List.drop_nil];exact ⟨rfl,rfl⟩
 |p::r,_,k+1,⟨n,a,l,c,e,v,ae,le,ce,zs,rfl,hg,h⟩=>by
  obtain ⟨h1,h2⟩:=Q65.parts k h;rw[show (k+1)*4=k*4+4 by omega];exact ⟨⟨n,a,l,c,e,v,ae,le,ce,zs.take (k*4),rfl,hg,h1⟩,h2⟩
theorem Q65.keep {w0 w w':World} (hk:∀{a l c v},Q0r w a l c v->Q0r w' a l c v):∀{ts:List Q0b} {xs:LV},Q65 w0 w ts xs->Q65 w0 w' ts xs
 |[],_,h=>h
 |_::_,_,⟨n,a,l,c,e,v,ae,le,ce,zs,hx,hg,h⟩=>⟨n,a,l,c,e,v,ae,le,ce,zs,hx,⟨hk hg.1,hg.2⟩,Q65.keep hk h⟩
theorem Q65.old {w0 w1 w:World} (hk:∀{a l c E},Q0g w0 a l c E->Q0g w1 a l c E):∀{ts:List Q0b} {xs:LV},Q65 w0 w ts xs->Q65 w1 w ts xs
 |[],_,h=>h
 |_::_,_,⟨n,a,l,c,e,v,ae,le,ce,zs,hx,hg,h⟩=>⟨n,a,l,c,e,v,ae,le,ce,zs,hx,⟨hg.1,hg.2.1,hg.2.2.1,hk hg.2.2.2⟩,Q65.old hk h⟩
theorem Q65.get {w0 w:World}:∀{ts:List Q0b} {xs:LV} {i:Nat} {p:Q0b},Q65 w0 w ts xs->ts[i]?=some p->∃n a l c e v ae le ce,xs[i*4]?=some (.bool n)/\xs[i*4+1]?=some (.slice a l c)/\xs[i*4+2]?=some (.int .i64 e)/\xs[i*4+3]?=some (.slice ae le ce)/\Q0r w a l c v/\Q4y n v e/\dy (sgn n v) e=p.1/\Q0g w0 ae le ce p.2
 |[],_,i,p,_,hp=>by simp at hp
 |q::r,_,0,p,⟨n,a,l,c,e,v,ae,le,ce,zs,rfl,⟨h1,h2,h3,h4⟩,h⟩,hp=>by
  simp only[UD,Uj] at hp;subst hp;exact ⟨n,a,l,c,e,v,ae,le,ce,rfl,rfl,rfl,rfl,h1,h2,h3,h4⟩
 |q::r,_,i+1,p,⟨_,_,_,_,_,_,_,_,_,zs,rfl,_,h⟩,hp=>by
  obtain ⟨n,a,l,c,e,v,ae,le,ce,h0,h1,h2,h3,h4⟩:=Q65.get (i:=i) h (by simpa using hp);rw[show (i+1)*4=i*4+4 by omega];exact ⟨n,a,l,c,e,v,ae,le,ce,h0,h1,h2,h3,h4⟩
theorem Q65.put {w0 w:World} {n':Bool} {a':OA} {l' c' v':Nat} {e':Int} (hd:Q0r w a' l' c' v') (hc:Q4y n' v' e'):∀{ts:List Q0b} {xs:LV} {i:Nat} {p:Q0b},Q65 w0 w ts xs->ts[i]?=some p->Q65 w0 w (ts.set i (dy (sgn n' v') e',p.2)) (((xs.set (i*4) (.bool n')).set (i*4+1) (.slice a' l' c')).set (i*4+2) (.int .i64 e'))
 |[],_,i,p,_,hp=>by simp at hp
 |q::r,_,0,p,⟨n,a,l,c,e,v,ae,le,ce,zs,rfl,⟨h1,h2,h3,h4⟩,h⟩,hp=>by
  simp only[UD,Uj] at hp;subst hp;exact ⟨n',a',l',c',e',v',ae,le,ce,zs,rfl,⟨hd,hc,rfl,h4⟩,h⟩
 |q::r,_,i+1,p,⟨n,a,l,c,e,v,ae,le,ce,zs,rfl,hg,h⟩,hp=>by
  have ih:=Q65.put hd hc (i:=i) h (by simpa using hp);rw[show (i+1)*4=i*4+4 by omega];exact ⟨n,a,l,c,e,v,ae,le,ce,_,rfl,hg,ih⟩
def Qtw (w:World) (a:OA) (n c:Nat) (ts:List Q0b):Prop:=
 ts.length=n/\n<=c/\c<=9223372036854775807/\(ts=[]∨∃b o,a=some ⟨b,o,none⟩/\b<w.heap.size/\∃xs,Q65 w w ts xs/\∀j u,xs[j]?=some u->w.cell? ⟨b,o+j,none⟩=some u)
theorem Qo9 {S:Nat}:∀{l:List Q0b} {c:Q0b},(∀p∈l,bnd S p.1)->bnd S c.1->∀p∈Q8r l c,bnd (S+1) p.1
 |[],c,_,hc,p,h=>by rw[Q8r,Ux] at h;subst h;exact hc.more (Xaq _)
 |q::r,c,hl,hc,p,h=>by
  rw[Q8r] at h
  split at h
  ·rcases Uy.1 h with rfl|h
   ·exact (hl _ (by simp)).more (Xaq _)
   ·exact Qo9 (fun x hx=>hl x (by simp[hx])) hc p h
  ·split at h
   ·rcases Uy.1 h with rfl|h
    ·exact (hl q (by simp)).add hc
    ·exact (hl p (by simp[h])).more (Xaq _)
   ·rcases Uy.1 h with rfl|h
    ·exact hc.more (Xaq _)
    ·exact (hl p h).more (Xaq _)
theorem Qc6 {T:Nat} {ts:List Q0b} (h:∀p∈ts,bnd T p.1):∀i,∀p∈Q1u (ts.take i),bnd (T+i) p.1
 |0,p,hp=>by simp[Q1u] at hp
 |i+1,p,hp=>by
  cases hi:ts[i]? with
  |none=>
   have:ts.take (i+1)=ts.take i:=by
    rw[List.getElem?_eq_none_iff] at hi;rw[Uw hi,Uw (by omega)]
   rw[this] at hp;exact (Qc6 h i p hp).more (by omega)
  |some c=>
   rw[Tc,hi,show ts.take i++Option.toList (some c)=ts.take i++[c] from rfl,Q82] at hp;exact Qo9 (Qc6 h i) ((h c (Uf hi)).more (by omega)) p hp
theorem Qoa:∀(l:List Q0b) (c:Q0b),(Q8r l c).length<=l.length+1
 |[],c=>by simp[Q8r]
 |q::r,c=>by
  have:=Qoa r c;rw[Q8r]
  split
  ·simp only[Ur];omega
  ·split <;> simp
theorem Qc7 (ts:List Q0b):∀i,(Q1u (ts.take i)).length<=i
 |0=>by simp[Q1u]
 |i+1=>by
  cases hi:ts[i]? with
  |none=>
   have:ts.take (i+1)=ts.take i:=by
    rw[List.getElem?_eq_none_iff] at hi;rw[Uw hi,Uw (by omega)]
   rw[this];have:=Qc7 ts i;omega
  |some c=>
   rw[Tc,hi,show ts.take i++Option.toList (some c)=ts.take i++[c] from rfl,Q82];have h1:=Qc7 ts i;have h2:=Qoa (Q1u (ts.take i)) c;omega
theorem Qmh {c:Q0b}:∀(l:List Q0b) (k:Nat),k<=l.length->(∀j p,j<k->l[j]?=some p->0<Q3j p.2 c.2)->Q8r l c=l.take k++Q8r (l.drop k) c
 |l,0,_,_=>by simp
 |[],k+1,h,_=>by simp at h
 |q::r,k+1,h,hj=>by
  rw[Q8r,Us (hj 0 q (by omega) rfl),Qmh r k (by simpa using h) (fun j p y9 hp=>hj (j+1) p (by omega) (by simpa using hp))];rfl
theorem Qtx {c p:Q0b} {l:List Q0b} {k:Nat} (hk:∀j p,j<k->l[j]?=some p->0<Q3j p.2 c.2) (hp:l[k]?=some p) (he:Q3j p.2 c.2=0):Q8r l c=l.set k (p.1+c.1,p.2):=by
 have E0:=(Ul.1 hp).1;rw[Qmh l k (Xa1 E0) hk,Q7y l k p hp,Q8r,Up (by omega),Us ((Q7i _ _).1 he),List.set_eq_take_append_cons_drop,Us E0]
theorem Qjg {c:Q0b} {l:List Q0b} {k:Nat} (JM:k<=l.length) (hk:∀j p,j<k->l[j]?=some p->0<Q3j p.2 c.2) (hp:∀p,l[k]?=some p->Q3j p.2 c.2<0):Q8r l c=l.take k++(c::l.drop k):=by
 rw[Qmh l k JM hk];cases hd:l[k]? with
 |none=>
  rw[List.getElem?_eq_none_iff] at hd;rw[UW hd,Q8r]
 |some p=>
  have h1:=hp p hd;rw[Q7y l k p hd,Q8r,Up (by omega),Up (fun e=>by rw[(Q7i _ _).2 e] at h1;omega)]
theorem Q72:Tryz.prog.underlying 217=some (.slice (Tryz.prog.elem 217)):=by kernel_rfl
theorem Qjh (w:World):(sizeOf (Tryz.prog.elem 217)).run Tryz.prog w=.ok 4 w:=by kernel_rfl
theorem Qji:(Tryz.prog.info? 219).map (fun i=>(i.zero,i.size,i.bytes))=some (some (.agg #[.bool false,.slice none 0 0,.int .i64 0,.slice none 0 0]),4,64):=by kernel_rfl
theorem Qjj (w:World) (a:OA) (n c k:Nat) (h1:k<=n):
 (Instr.slice 217 (.slice a n c) (some (.int .i64 (k:Int))) none none).run Tryz.prog w=.ok (.slice (Qre a c k 4) (n-k) (c-k)) w:=by
 rw[run_slice_l w _ a n c Q72 .i64 (k:Int) (by omega) (by omega),Qjh]
 show Result.ok (Value.slice (Qre a c ((k:Int).toNat) 4) _ _) w=_
 rw[Xba]
theorem Qjk (w:World) (a:OA) (n c k:Nat) (h2:k<=c):
 (Instr.slice 217 (.slice a n c) none (some (.int .i64 (k:Int))) none).run Tryz.prog w=.ok (.slice a k c) w:=by
 rw[run_slice_h w _ a n c Q72 .i64 (k:Int) (by omega) (by omega),Qjh];have:=Qcf a c 4
 show Result.ok (Value.slice (Qre a c 0 4) _ _) w=_
 rw[this,Nat.sub_zero,Nat.sub_zero,Xba]
theorem Qqd (w:World) (r:Option Nat):w.grownBy w r:=⟨rfl,rfl,rfl,Ue _,fun _ _ _=>rfl⟩
theorem Qqe {w w':World} {B:Nat} {w0:World} (h:w.grownBy w' none) (hb:Below B w0 w) (hB:B<=w.heap.size):Below B w0 w':=
 hb.trans ⟨h.os,h.tape,h.output,h.size,fun z hz=>h.block z (Uc hz hB) (fun e=>by cases e)⟩
theorem Q5y (ty:TypeId) (w:World) (B:Nat) (hB:B<=w.heap.size) (a:OA) (n c:Nat) (xs:LV) (h:Q40 NoD w B 219 4 a n c xs) (b:OA) (m d:Nat) (ys:LV) (hl:ys.length=m*4) (hy:m=0∨∃x,b=some x/\∀j u,ys[j]?=some u->w.cell? (x.add j)=some u) (h1:∀u∈ys,u.oneCell'=true/\NoD u) (hn:n+m<=100000):
 ∃a' c' w',(Builtin.append_ #[217,217] ty #[.slice a n c,.slice b m d]).run Tryz.prog w=.ok (.slice a' (n+m) c') w'/\Q40 NoD w' B 219 4 a' (n+m) c' (xs++ys)/\w.grownBy w' (a.map (·.block))/\(a'=a∨∀y,a'=some y->y.block=w.heap.size):=by
 obtain ⟨i0,E2,P1,G1,K1⟩:=Q0p Qji;rcases Xa7 m with rfl|hm
 ·obtain rfl:ys=[]:=UJ.1 (by omega);exact ⟨a,c,w,Q94 w _ ty _ i0 Q72 E2 a b n c d h.1.cap.1,by simpa using h,Qqd _ _,.inl rfl⟩
 ·rcases hy with h0|⟨x,rfl,hx⟩
  ·omega
  obtain ⟨g,c',w',S1,I0,K6,Y1⟩:=Q6k (P:=Tryz.prog) NoD w 217 ty 219 i0 _ 4 64 Q72 E2 P1 G1 K1 rfl (by
   intro u hu;simp[Value.cells] at hu;rcases hu with rfl|rfl|rfl|rfl
   ·exact Qc5 _
   ·exact Q6n _ _ _
   ·exact Qh5 _
   ·exact Q6n _ _ _) B hB a n c xs h x m d ys hl hx (fun u hu=>(h1 u hu).1) (fun u hu=>(h1 u hu).2) hm (by omega) (by decide) (by decide)
  refine ⟨_,c',w',S1,I0,K6,?_⟩;rcases Y1 with h0|h0
  ·exact .inl h0.symm
  ·exact .inr fun y hy=>by injection hy with hy;subst hy;exact h0
theorem Q40.src {Pr:Value->Prop} {w:World} {B:Nat} {e:TypeId} {n c:Nat} {a:OA} {xs:LV} (h:Q40 Pr w B e 4 a n c xs) (k m:Nat) (Yg:k+m=n):m=0∨∃x,Qre a c k 4=some x/\∀j u,((xs.drop (k*4)).take (m*4))[j]?=some u->w.cell? (x.add j)=some u:=by
 rcases Xa7 m with h0|hm
 ·exact .inl h0
 refine .inr ?_;rcases h.1.form with ⟨_,h0,_⟩|⟨g,cur,rfl,_,_,_⟩
 ·omega
 have hc:=h.1.cap.1;refine ⟨⟨g,k*4,none⟩,?_,fun j u hj=>?_⟩
 ·unfold Qre;rw[Up (by omega)];simp[Xbp]
 ·rw[Tw] at hj
  split at hj
  ·rw[Xau] at hj;obtain ⟨g',e',_,_,R0⟩:=h.1.at_ hj;injection e' with e';injection e' with e';subst e';rw[Xbp];exact R0
  ·cases hj
theorem Qfy (w0 wr:World) (hb:Bw w0 wr) (ao:OA) (m co:Nat) (xs:LV) (out:List Q0b) (N0:out.length=m) (I0:Q40 NoD wr w0.heap.size 219 4 ao m co xs) (Zi:Q65 w0 wr out xs) (k:Nat) (hk:k<=m) (cc:Q0b) (lit:LV) (QZ:Q65 w0 wr [cc] lit) (hm:m<=10000):
 ∃a7 c7 w7,(Builtin.append_ #[217,217] 217 #[.slice none 0 0,.slice ao k co]).run Tryz.prog wr=.ok (.slice a7 k c7) w7/\Bw w0 w7/\
  ∃a8 c8 w8,(Builtin.append_ #[217,217] 217 #[.slice a7 k c7,.slice (some ⟨w7.heap.size,0,none⟩) 1 1]).run Tryz.prog (w7.alloc (.cells lit.toArray 219))=.ok (.slice a8 (k+1) c8) w8/\Bw w0 w8/\
   ∃a9 c9 w9,(Builtin.append_ #[217,217] 217 #[.slice a8 (k+1) c8,.slice (Qre ao co k 4) (m-k) (co-k)]).run Tryz.prog w8=.ok (.slice a9 (m+1) c9) w9/\Bw w0 w9/\
    Q40 NoD w9 w0.heap.size 219 4 a9 (m+1) c9 (xs.take (k*4)++lit++xs.drop (k*4))/\Q65 w0 w9 (out.take k++cc::out.drop k) (xs.take (k*4)++lit++xs.drop (k*4)):=by
 have D4:xs.length=m*4:=by rw[Zi.len,N0]
 have hone:=fun u hu=>Zi.one u hu;have hB:=hb.size;obtain ⟨QM,JF⟩:=Zi.parts k
 --the front
 have hs7:k=0∨∃x,ao=some x/\∀j u,(xs.take (k*4))[j]?=some u->wr.cell? (x.add j)=some u:=by
  rcases Xa7 k with h0|O6
  ·exact .inl h0
  ·rcases I0.1.form with ⟨_,h0,_⟩|⟨g,cur,rfl,_,_,_⟩
   ·omega
   ·refine .inr ⟨⟨g,0,none⟩,rfl,fun j u hj=>?_⟩;rw[Tw] at hj
    split at hj
    ·obtain ⟨g',e',_,_,R0⟩:=I0.1.at_ hj;injection e' with e';injection e' with e';subst e';rw[Xbp,UH];exact R0
    ·cases hj
 obtain ⟨a7,c7,w7,Qw,Ws,hgr7,hat7⟩:=Q5y 217 wr w0.heap.size hB none 0 0 [] (Q40.nil_ _ _ _ _ _) ao k co (xs.take (k*4)) (by rw[Tl,D4];omega) hs7 (fun u hu=>hone u (TB hu)) (by omega);rw[UH,Ty] at Ws;rw[UH] at Qw;have Qz:wr.grownBy w7 none:=hgr7;have q6:=Qqe Qz hb hB;have hbw7:Bw wr w7:=⟨Qz.os,Qz.tape,Qz.output,Qz.size,fun z hz=>Qz.block z hz (fun e=>by cases e)⟩;refine ⟨a7,c7,w7,Qw,q6,?_⟩
 --the term
 have O4:Bw w7 (w7.alloc (.cells lit.toArray 219)):=Ba;have XJ:lit.length=4:=by rw[QZ.len];rfl
 have hb7a:=Below.next0 q6 O4;obtain ⟨a8,c8,w8,R3,XF,p6,hat8⟩:=Q5y 217 (w7.alloc (.cells lit.toArray 219)) w0.heap.size hb7a.size a7 k c7 (xs.take (k*4)) (Ws.step O4) (some ⟨w7.heap.size,0,none⟩) 1 1 lit (by rw[XJ]) (.inr ⟨_,rfl,fun j u hj=>by
  rw[Xbp,UH,Uv _ _ _ _ _ _ (Um _ _)];simpa using hj⟩) (fun u hu=>QZ.one u hu) (by omega)
 have Yk:∀z,z<wr.heap.size->a7.map (·.block)≠some z:=fun z hz e=>by
  cases a7 with
  |none=>simp at e
  |some y=>
   simp only[Uz,Uj] at e;rcases hat7 with h0|h0
   ·cases h0
   ·have:=h0 y rfl;omega
 have A5:Bw w0 w8:=hb7a.trans ⟨p6.os,p6.tape,p6.output,p6.size,fun z hz=>p6.block z (Uc hz hb7a.size) (fun e=>Yk z (by omega) e.symm)⟩;have hb8r:Bw wr w8:=(Below.next0 hbw7 O4).trans ⟨p6.os,p6.tape,p6.output,p6.size,fun z hz=>p6.block z (Uc hz (Below.next0 hbw7 O4).size) (fun e=>Yk z hz e.symm)⟩;refine ⟨a8,c8,w8,R3,A5,?_⟩
 --the rest
 have YE:=(I0.step hb8r).src k (m-k) (by omega);have V5:(xs.drop (k*4)).take ((m-k)*4)=xs.drop (k*4):=Uw (by rw[Tg,D4,Nat.sub_mul];omega);rw[V5] at YE;obtain ⟨a9,c9,w9,F9,G9,Xp,hat9⟩:=Q5y 217 w8 w0.heap.size A5.size a8 (k+1) c8 (xs.take (k*4)++lit) XF (Qre ao co k 4) (m-k) (co-k) (xs.drop (k*4)) (by rw[Tg,D4,Nat.sub_mul]) YE (fun u hu=>hone u (Xbk hu)) (by omega);rw[show k+1+(m-k)=m+1 by omega] at F9 G9;have hne8:∀z,z<wr.heap.size->a8.map (·.block)≠some z:=fun z hz e=>by
  rcases hat8 with h0|h0
  ·rw[h0] at e;exact Yk z hz e
  ·cases a8 with
   |none=>simp at e
   |some y=>
    simp only[Uz,Uj] at e;have h1:=h0 y rfl;have h2:=(Below.next0 hbw7 O4).size;omega
 have V3:Bw w0 w9:=A5.trans ⟨Xp.os,Xp.tape,Xp.output,Xp.size,fun z hz=>Xp.block z (Uc hz A5.size) (fun e=>hne8 z (by omega) e.symm)⟩;refine ⟨a9,c9,w9,F9,V3,G9,?_⟩;have VA:∀{a l c v},Q0r wr a l c v->Q0r w9 a l c v:=fun h=>XF.grownD Xp (h.step hb8r);have h1:=(QM.keep VA);have h2:=(JF.keep VA);have h3:=(QZ.keep VA);have:=Q65.app h2 (Q65.app h3 h1);rwa[show out.take k++[cc]++out.drop k=out.take k++cc::out.drop k by simp] at this
end Go.Proofs.YtidojbkhlenahaaGreatDoor
