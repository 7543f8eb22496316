/- Part 21 of the proof of LawParseBuilt: MakeA, Cat. Condition: as each theorem says; none at the end. -/
import Derived.Carry
import Derived.Lib.AppendZerosOnto
import Derived.Test.YtdilmfakkppgpaaGreatDoorPkParseBuilt20
set_option maxRecDepth 100000
set_option maxHeartbeats 16000000
namespace Go.Proofs.YtdilmfakkppgpaaGreatDoor
open Go.RowKit WordsM
theorem Q4g:(Tryz.prog.info? 44).map (fun i=>(i.zero,i.size,i.bytes))=some (some (.agg #[.bool false,.int .i64 0,.slice none 0 0,.slice none 0 0]),4,64):=by kernel_rfl
theorem Q9g:∀u∈(Value.agg #[.bool false,.int .i64 0,.slice none 0 0,.slice none 0 0]).cells.toList,NoU u:=by
 intro u hu;simp[Value.cells] at hu;rcases hu with rfl|rfl|rfl <;> exact fun _=>by simp[nv]
def Q0u (w:World) (n:Nat) (X:Except Int (List Q0a)) (r:Ending) (w':World):Prop:=Bw w w'/\match X with
 | .error er=>∃a l c,r=.returned (.tuple #[.slice a l c,.int .i64 er])
 | .ok P=>∃a l c ms,r=.returned (.tuple #[.slice a l c,.int .i64 0])/\Q08 w' a l c ms/\ms.map Q01.term=P/\Q0z n ms
theorem Q0u.err {w w':World} {n:Nat} {X:Except Int (List Q0a)} {er:Int} {a:OA} {l c:Nat} (hX:X=.error er) (hb:Bw w w'):Q0u w n X (.returned (.tuple #[.slice a l c,.int .i64 er])) w':=⟨hb,by rw[hX];exact ⟨_,_,_,rfl⟩⟩
theorem Q2b {n:Bool} {e:Int} {L:LN} {w:World} {a:OA} {l c:Nat} (h:Q0i n e L) (hw:WordsIn w a l c L):l<=64/\-65536<=e/\e<=65536:=by
 have:=Q67 h hw.low;rw[hw.len] at this;exact this
theorem Q0j.onBlock {w w':World} {ae:OA} {le ce:Nat} {E:List Int} (h5:Q0j w ae le ce E) (hs:w.heap.size<=w'.heap.size) (mb:Nat) (Kk:∀o,w.cell? ⟨mb,o,none⟩=none) (hk:∀k,k<w.heap.size->k≠mb->w'.heap[k]?=w.heap[k]?):Q0j w' ae le ce E:=by
 refine ⟨h5.len,h5.cap,h5.most,h5.rng,?_⟩;rcases h5.rd with h8|⟨b,oo,e,hb,Y2⟩
 ·exact .inl h8
 ·refine .inr ⟨b,oo,e,Ue hb hs,fun i x hx=>?_⟩;have h9:=Y2 i x hx;have C1:b≠mb:=fun e=>by subst e;rw[Kk] at h9;cases h9
  exact (Td (a:=⟨b,oo+i,none⟩) (hk b hb C1)).trans h9
theorem Q38.onKept {w w':World} {b:Nat} {v0 v1 v2 v3:Value} (h:Q38 w b v0 v1 v2 v3) (hk:w'.heap[b]?=w.heap[b]?):Q38 w' b v0 v1 v2 v3:=by
 have Y2:∀o,w'.cell? ⟨b,o,none⟩=w.cell? ⟨b,o,none⟩:=fun o=>Td (a:=⟨b,o,none⟩) hk;have YX:∀o,w'.frozen? ⟨b,o,none⟩=w.frozen? ⟨b,o,none⟩:=fun o=>Xbe (a:=⟨b,o,none⟩) hk;exact ⟨(Y2 0).trans h.c0,(Y2 1).trans h.c1,(Y2 2).trans h.c2,(Y2 3).trans h.c3,(YX 0).trans h.f0,(YX 1).trans h.f1,(YX 2).trans h.f2,(YX 3).trans h.f3⟩
theorem Qnv {B:Nat} {w:World} {g n c:Nat} {all:List Q01} (h:Q19 B w (some ⟨g,0,none⟩) n c all) (i:Nat):w.frozen? ⟨g,i,none⟩=false:=by
 obtain ⟨xs,hr⟩:=h.row;exact hr.1.frozen0 i
theorem Qnw {w0 w2 w3 w4:World} {mb n B N c p9 le ce:Nat} {g:P4->Option Nat} {a:OA} {all:List Q01} {v0 v1 v2 v3:Value} {ae:OA} {E:List Int} (hm:mb<p9) (h9:p9<w2.heap.size) (G0:Bw w2 w3) (hp:Q4v w3 mb n g) (hg:w3.grownBy w4 (some mb)) (P0:Q19 B w3 a N c all) (hX:Q38 w3 p9 v0 v1 v2 v3) (hE:Q0j w3 ae le ce E):
 Q19 B w4 a N c all/\Q38 w4 p9 v0 v1 v2 v3/\Q0j w4 ae le ce E/\w3.heap.size<=w4.heap.size/\(w0.heap.size<=mb->Bw w0 w3->Bw w0 w4):=by
 have hk:∀k,k<w3.heap.size->k≠mb->w4.heap[k]?=w3.heap[k]?:=fun k h1 h2=>hg.block k h1 (fun e=>h2 (by injection e));have h3:p9<w3.heap.size:=Ue h9 G0.size;have F3:=hk p9 h3 (by omega);have Y2:∀o,w4.cell? ⟨p9,o,none⟩=w3.cell? ⟨p9,o,none⟩:=fun o=>Td (a:=⟨p9,o,none⟩) F3;have YX:∀o,w4.frozen? ⟨p9,o,none⟩=w3.frozen? ⟨p9,o,none⟩:=fun o=>Xbe (a:=⟨p9,o,none⟩) F3;refine ⟨P0.onBlock hg.size mb hp.cells (fun x hx=>hp.ne P0 hx) hk,⟨(Y2 0).trans hX.c0,(Y2 1).trans hX.c1,(Y2 2).trans hX.c2,(Y2 3).trans hX.c3,(YX 0).trans hX.f0,(YX 1).trans hX.f1,(YX 2).trans hX.f2,(YX 3).trans hX.f3⟩,hE.onBlock hg.size mb hp.cells hk,hg.size,fun h0 hb=>?_⟩;exact hb.trans ⟨hg.os,hg.tape,hg.output,hg.size,fun k h1=>hk k (Ue h1 hb.size) (by omega)⟩
theorem Qu9 {w wr w2 w3 w4 w5:World} (h1:Bw w wr) (h2:Bw wr w2) (h4:w3.heap.size<=w4.heap.size) (h3:w2.heap.size<=w3.heap.size) (h5:Bw w4 w5):w.heap.size<=w5.heap.size+1:=by
 have:=h1.size;have:=h2.size;have:=h5.size;omega
theorem Qrg {w:World} {ms:List Q01} {k mb i j g N c:Nat} {all:List Q01} {m mj:Q01} {wc w8:World} {b:Bool} {e:Int} {al:OA} {ll cl:Nat} {L:LN} (B0:i<ms.length) (hN:N<=i+1) (P0:Q19 w.heap.size wc (some ⟨g,0,none⟩) N c all) (Jn:all[j]?=some mj)
 (m6:∀b e L,Q28 b e L=Q28 mj.neg mj.exp mj.ws+Q28 m.neg m.exp m.ws->(all.set j ⟨b,e,L,mj.es⟩).map Q01.term=Qaq ((ms.take (i+1)).map Q01.term)) (XK:∀m∈all,Qwl k (69632+64*(i:Int)) m) (X7:Q4v wc mb N (Q3h all)) (hb:Bw w wc)
 (hw8:WordsIn w8 al ll cl L) (k7:Q28 b e L=Q28 mj.neg mj.exp mj.ws+Q28 m.neg m.exp m.ws) (hl8: -65536<=e) (hh8:e<=65536) (F6:64*(ll:Int)+e<=69632+64*(i:Int)+64) (B4:Bw wc w8):
 Qrf w ms k mb (.slice (some ⟨g,0,none⟩) N c) (.int .i64 ((i:Int)+1)) (((w8.setCell ⟨g,j*4,none⟩ (.bool b)).setCell ⟨g,j*4+1,none⟩ (.int .i64 e)).setCell ⟨g,j*4+2,none⟩ (.slice al ll cl)):=by
 have hg:=(P0.lt rfl).1;have Qc:=P0.step B4;have A4:=X7.below B4;refine ⟨i+1,_,N,c,_,rfl,congrArg (Value.int .i64) (by omega),B0,hN,Qc.put Jn hw8,m6 b e L k7,fun m' K7=>?_,?_,(((Below.next0 hb B4).setCell (p:=⟨g,j*4,none⟩) hg _).setCell (p:=⟨g,j*4+1,none⟩) hg _).setCell (p:=⟨g,j*4+2,none⟩) hg _⟩
 ·rcases List.mem_or_eq_of_mem_set K7 with h1|rfl
  ·obtain ⟨a1,a2,a3,a4⟩:=XK m' h1;exact ⟨a1,a2,a3,by omega⟩
  ·have hl:=hw8.len;exact ⟨(XK mj (Ud Jn)).1,hl8,hh8,by show 64*(L.length:Int)+e<=_;omega⟩
 ·rw[Qre (m':=⟨b,e,L,mj.es⟩) Jn rfl];have C1:mb≠g:=fun e=>A4.ne Qc rfl e.symm;exact A4.keep ((TE _ _ _ _ C1).trans ((TE _ _ _ _ C1).trans (TE _ _ _ _ C1)))
theorem Qmc (l:List Q0a):(Qaq l).Perm (Q23 l):=by
 have h1:(Qaq l).Nodup:=((Qqh l).1.imp fun {p q} h e=>h (by rw[e]));have h2:(Q23 l).Nodup:=((Q6z l).1.once.imp fun {p q} h e=>h (by rw[e]));exact (List.perm_ext_iff_of_nodup h1 h2).2 fun p=>Qf8 l p
theorem Qhw {l:List Q0a} {all:List Q01} (h:all.map Q01.term=Qaq l) (hf:∀m∈all,Q75 m.term.1):¬(Q23 l).any (fun p=> !Q69 p.1)=true:=by
 intro ha;obtain ⟨p,hp,X2⟩:=Xah.1 ha;have h1:=(Qf8 l p).2 hp;rw[<-h] at h1;obtain ⟨m,hm,rfl⟩:=Tm.1 h1;rw[(Q2a _).2 (hf m hm)] at X2;cases X2
theorem Qrh {l:List Q0a} {all outs:List Q01} (h:all.map Q01.term=Qaq l) (ho:outs.map Q01.term=(all.map Q01.term).filter (fun p=>decide (p.1≠0))) (hf:∀m∈all,Q75 m.term.1) (WM:24<outs.length):Q24 l=.error 6:=by
 have hl:outs.length=((Q23 l).filter fun p=>decide (p.1≠0)).length:=by
  rw[<-UQ (f:=Q01.term),ho,h];exact ((Qmc l).filter _).length_eq
 unfold Q24;rw[Uq (Qhw h hf),Us (by rw[<-hl];exact WM)]
def Qxn (wl:World) (all:List Q01) (k:Nat) (s12 s72:Value) (wx:World):Prop:=
 ∃(q:Nat) (a:OA) (M c:Nat) (outs:List Q01),s12=.slice a M c/\s72=.int .i64 (q:Int)/\q<=all.length/\M<=q/\Q19 wl.heap.size wx a M c outs/\
  outs.map Q01.term=((all.take q).map Q01.term).filter (fun p=>decide (p.1≠0))/\(∀m∈outs,OkM k m)/\(∀m∈all.take q,Q75 m.term.1)/\Bw wl wx
theorem Q5u (a:OA) (n c:Nat) (ms:List Q01) (k:Nat) (w:World) (h:Q08 w a n c ms) (D3:∀m∈ms,Qke k m) (Z3:1<=k) (hk:k<=4) (hn:n<=600) (hT:Q2n w):
 Calls Tryz.prog 83 #[.slice a n c,.int .i64 (k:Int)] w (Q0u w k (Q24 (ms.map Q01.term))):=by
 obtain ⟨i0,O1,P1,K1,J1⟩:=Q0l Q4g;have Z2:=h.1;subst Z2;obtain ⟨X,hX⟩:∃X,Q24 (ms.map Q01.term)=X:=⟨_,rfl⟩;rw[hX];have C0:Bw w (w.alloc (.cells #[.int .i64 (k:Int)] 3)):=Ba;have hkb:Qwf (w.alloc (.cells #[.int .i64 (k:Int)] 3)) w.heap.size k:=⟨by rw[Ux _ _ _ _ _ _ (Ul _ _)];rfl,Q0r _ _⟩;have hkc:=hkb.cell;have hhas:=Qkh a ms.length c ms w.heap.size k _ (h.step C0) D3 hk hkb;have hk1':¬(k:Int)<1:=by omega
 have hk4':¬(4:Int)<(k:Int):=by omega
 have H:=Xh9 h D3 Z3 hk hn hT hX C0 hhas;have HI:=Xh4 O1 P1 K1 J1;have E4:=Ur h.2.1 h.2.2.1;clear h D3 Z3 hk hn hT hX C0 hhas hkb O1 P1 K1 J1;have Zr:= @run_makeMap Tryz.prog
 go_enter Tryz.func83,Tryz.ntmps83
 go_wp2_with (go_at_call_of 134 a;refine (Xe8 H).mono ?_;rintro r w1 ⟨rfl,hbw1⟩;have K0:=Ua hbw1;clear hbw1)
 have hbm:Bw w (w1.alloc (.map #[] 0)):=by
  have h1:=Below.next0 (Xo7 H) K0.out;exact h1.alloc h1.size _
 have HB:=Ua hbm;clear hbm Zr
 go_loopw [7,31] (fun s7 s31 wr=>Qrf w ms k w1.heap.size s7 s31 wr) (fun _ iv _=>ms.length-(intOf iv).toNat)
 case atStart=>
  exact ⟨0,none,0,0,[],rfl,rfl,Uu _,Ug _,Q19.nil_ _ _,rfl,(fun m hm=>by cases hm),Q4v.made _,HB.out⟩
 case round=>
  obtain ⟨i,a1,N,c1,all,rfl,rfl,hi,hNi,P0,G7,XK,X7,Q0⟩:=hrel
  by_cases B0:i<ms.length
  ·have E0:(i:Int)<(ms.length:Int):=(by omega);obtain ⟨m,hm⟩:∃m,ms[i]?=some m:=⟨_,Ub B0⟩;obtain ⟨b0,o0,rfl,C4,R1⟩:∃b o,a=some ⟨b,o,none⟩/\b<wr.heap.size/\∀j m,ms[j]?=some m->Q31 wr b (o+j*4) m:=by
    rcases ((Xo0 H).step Q0).2.2.2 with h0|h0
    ·rw[h0] at B0;simp at B0
    ·exact h0
   obtain ⟨aw,lw,cw,ae,le,ce,k0,k1,k2,k3,hw,he,U4,J4⟩:=R1 i m hm;have hfm:Qke k m:=(Xo1 H) m (Ud hm);have Yb:m.es.length=k:=hfm.1.1;have hes0:m.es≠[]:=fun e=>by rw[e] at Yb;have:=(Xo2 H);simp at Yb;omega
   have P8:∀x∈m.es,small x:=fun x hx=>he.rng.1 x hx;have hq:=Qyr P8;have hX:=Q38.new wr (.bool m.neg) (.int .i64 m.exp) (.slice aw lw cw) (.slice ae le ce) 44;have C2:Bw wr (wr.alloc (.cells #[.bool m.neg,.int .i64 m.exp,.slice aw lw cw,.slice ae le ce] 44)):=Ba;have Z9:=Q0r wr (.cells #[.bool m.neg,.int .i64 m.exp,.slice aw lw cw,.slice ae le ce] 44);have hof:=fun W (hW:Bw wr W)=>Qnk m.neg m.exp aw lw cw ae le ce m.es W (he.step hW) (by have:=(Xo3 H);omega) hes0;obtain ⟨po,JK⟩:∃po,Q3h all (p4 m.es)=po:=⟨_,rfl⟩;have HPO:=Ua JK;clear JK;have HR:=Xh15 P0 G7 XK X7 Q0 hm hw he hfm hq hof hes0 hX C2 Z9;have x0:=hX.c0;have x1:=hX.c1;have x2:=hX.c2;have x3:=hX.c3;clear P0 G7 XK X7 Q0 hm hw he hfm Yb hes0 P8 hq hX C2 Z9 hof R1
   go_upto_if 43 with (go_at_call_of 136 aw;refine ((Xo10 HR) _ (Xo13 HR)).mono ?_;rintro r w2 ⟨rfl,D0⟩;(have Jl:=((Xo3 HR).below (Xo13 HR)).below D0);(have hlk:=Jl.look_ok (Xo9 HR));rw[HPO.out] at hlk;(have H2:=Xh2 D0 Jl);clear D0 Jl)
   have Xe:=Below.next0 (Xo13 HR) (Xo0 H2);have QQ:=(Xo0 HR).step Xe;have S2:=(Xo12 HR).step (Xo0 H2) (Xe14 HR);have VS:=Xh3 Xe QQ S2;have U0:N<=600:=(by have:=(Xo4 H);omega);have o6:=(Xo7 HR).len;have hle4:le<=4:=(by have:=(Xo8 HR).1.1;have:=(Xo3 H);omega);have Wz:=Ua o6;have y0:=S2.c0;have y1:=S2.c1;have y2:=S2.c2;have y3:=S2.c3;have Y9:Qaq ((ms.take (i+1)).map Q01.term)=Q62 (Qaq ((ms.take i).map Q01.term)) m.term:=by
    rw[Tc,(Xo5 HR),UP,Option.toList_some,List.map_singleton,Qh4]
   have HTK:=Ua Y9;clear Xe QQ S2 o6 x0 x1 x2 x3 Y9
   go_cut [7,10] (fun s7 s10 wx=>Qwm w ms k w1.heap.size i wr.heap.size (.bool m.neg) (.int .i64 m.exp) aw lw cw (.slice ae le ce) m s7 s10 wx)
   case first=>
    cases po with
    |some j=>
     go_wp2_with fail
     go_meet;obtain ⟨mj,Jn,hpj⟩:=Qu2 HPO.out;have R0:∀m'∈all,m'.es.length=k:=fun m' K7=>((Xo2 HR) m' K7).1.1;have Yb:=(Xo8 HR).1.1;have hej:mj.es=m.es:=Qvi (R0 mj (Ud Jn)) Yb (Xo3 H) hpj;refine ⟨a1,N,c1,all,j,mj,rfl,rfl,by omega,(Xo1 VS),Jn,hej,fun b e L hv=>?_,(Xo2 HR),(Xe1 H2),Below.next0 (Xo4 HR) (Xo0 VS),(Xe2 VS),Ue (Xe14 HR) (Xo0 H2).size,(Xo6 HR).step (Xo0 VS)⟩;have Qb:=Qab (Xo3 H) R0 Yb;rw[HPO.out] at Qb;rw[Qu3,HTK.out,Qhv (j:=j) (q:=mj.term) (by rw[<-(Xo1 HR)];exact Qb.symm) (by rw[<-(Xo1 HR),UT,Jn];rfl),<-(Xo1 HR)]
     congr 1
     show (Q28 b e L,mj.es)=(Q28 mj.neg mj.exp mj.ws+Q28 m.neg m.exp m.ws,mj.es)
     rw[hv]
    |none=>
     obtain ⟨O1,P1,K1,J1⟩:=HI.out;have hof2:=(Xo10 HR) w2 (Xo0 VS);have HOF:=Ua hof2;clear hof2 hlk
     go_wp2_with (first
      |(go_at_call_of 136 aw;refine HOF.out.mono ?_;rintro r w3 ⟨rfl,G0⟩;(have hp3:=(Xe1 H2).below G0);(have hall3:=(Xo1 VS).step G0);(have ZV:=(Xe2 VS).step G0 (Ue (Xe14 HR) (Xo0 H2).size));obtain ⟨w4,Z0,hp4,hg4⟩:=hp3.store (Xo9 HR) (by omega) N;(have hs4:=Qnw (w0:=w) (Xo3 HR).lt (Ue (Xe14 HR) (Xo0 H2).size) G0 hp3 hg4 hall3 ZV (((Xo7 HR).step (Xo0 VS)).step G0));(have hw4:=(((Xo6 HR).step (Xo0 VS)).step G0).onBlock hg4.size w1.heap.size hp3.cells (fun q h1 h2=>hg4.block q h1 (fun e=>h2 (by injection e))));(have HW4:=Ua hw4);clear hw4;(have z3:=hs4.2.1.c3);(have HW3:=Ua (Below.next0 (Below.next0 (Xo4 HR) (Xo0 VS)) G0));(have Kx:=Xh4 hp4 hs4 hg4 G0.size);clear hp3 hall3 ZV G0 hp4 hg4 hs4)
      |(go_at_call_of 137 le;refine (Qas ae le ce m.es w4 (Xo1 Kx).2.2.1 (Xo11 HR) (by omega)).mono ?_;rintro r w5 ⟨g5,c5,rfl,hrow5,M0⟩;(have VJ:=(Xo1 Kx).1.step M0);obtain ⟨xs5,j6⟩:=VJ.row;obtain ⟨g6,c6,w6,R3,M1,D1,F5⟩:=Q12 (P:=Tryz.prog) NoU (w5.alloc (.cells #[.bool false,.int .i64 0,.slice none 0 0,.slice (some ⟨g5,0,none⟩) le c5] 44)) 25 25 44 i0 _ 4 64 Tryz.underlying25 O1 P1 K1 J1 rfl Q9g w.heap.size (by rw[Uo];exact (Qu9 (Xo4 HR) (Xo0 VS) (Xo1 Kx).2.2.2.1 (Xe3 Kx) M0)) a1 N c1 xs5 (j6.step (Ba)) w5.heap.size 1 1 [.bool false,.int .i64 0,.slice none 0 0,.slice (some ⟨g5,0,none⟩) le c5] rfl (TA (cs:= #[.bool false,.int .i64 0,.slice none 0 0,.slice (some ⟨g5,0,none⟩) le c5]) (Ul w5 _)) (by simp[Value.oneCell']) (by intro u hu;simp at hu;rcases hu with rfl|rfl|rfl|rfl <;> exact fun _=>by simp[nv]) (by decide) (by omega) (by decide) (by decide);(have H5:=Xh7 VJ j6 hrow5 M0 M1 D1 F5);clear VJ j6 hrow5 M0 M1 D1 F5)
      |(at_builtin;refine Q07 rfl (.tmp 50) (.tmp 55) 25 25 rfl _ _ rfl rfl _ _ R3 ?_))
     go_meet;have Kk:w.heap.size<=w1.heap.size:=(Below.next0 (Xo7 H) K0.out).size;have Wx:Bw w w3:=⟨HW3.out.os,HW3.out.tape,HW3.out.output,HW3.out.size,HW3.out.block⟩;have hw4:Bw w w4:=(Xo1 Kx).2.2.2.2 Kk Wx;have hw5:=Below.next0 hw4 (Xo3 H5);have hla:∀x,a1=some x->x.block<w4.heap.size:=fun x hx=>((Xo1 Kx).1.lt hx).2;have hg5:=(Xo2 H5).fresh;have hw6:Bw w w6:=by
      have h1:=hw5.alloc hw5.size (.cells #[.bool false,.int .i64 0,.slice none 0 0,.slice (some ⟨g5,0,none⟩) le c5] 44);exact h1.trans ⟨(Xo5 H5).os,(Xo5 H5).tape,(Xo5 H5).output,(Xo5 H5).size,fun q hq=>(Xo5 H5).block q (Ue hq h1.size) (fun e=>by
       cases a1 with
       |none=>simp at e
       |some y=>simp only[UM,Un] at e;have:=((Xo0 H5).lt rfl).1;omega)⟩
     have Zg:=(Xo0 H5).push (Xo1 H5) (o:=.cells #[.bool false,.int .i64 0,.slice none 0 0,.slice (some ⟨g5,0,none⟩) le c5] 44) (Xo5 H5) (Xe6 H5) (m:=⟨false,0,[],m.es⟩) (aw:=none) (lw:=0) (cw:=0) (be:=g5) (oe:=0) (le:=le) (ce:=c5) (Xo4 H5) rfl (Q2m.nil_ w5 w5).toWordsIn ((Xo2 H5).ints (fun x hx=>(Xo7 HR).rng.1 x hx)) hg5.2 (fun x hx e=>by have:=hla x hx;omega);have R0:∀m'∈all,m'.es.length=k:=fun m' K7=>((Xo2 HR) m' K7).1.1;have Yb:=(Xo8 HR).1.1;have hN:all.length=N:=(Xo0 HR).len;refine ⟨some ⟨g6,0,none⟩,N+1,c6,all++[⟨false,0,[],m.es⟩],N,⟨false,0,[],m.es⟩,rfl,rfl,by omega,Zg,?_,rfl,fun b e L hv=>?_,fun m' K7=>?_,?_,hw6,?_,?_,?_⟩
     ·rw[Tq (by omega),hN,Xbp];rfl
     ·have Qb:=Qab (Xo3 H) R0 Yb;rw[HPO.out] at Qb;rw[HTK.out,Qma (by rw[<-(Xo1 HR)];exact Qb.symm),<-(Xo1 HR),List.set_append_right _ _ (by omega),hN,Xbp]
      show (all++[(⟨b,e,L,m.es⟩:Q01)]).map Q01.term=_
      rw[UP]
      congr 1
      show [(Q28 b e L,m.es)]=[(Q28 m.neg m.exp m.ws,m.es)]
      rw[hv,Qt8,Dyadic.zero_add]
     ·rcases UY.1 K7 with h1|h1
      ·exact (Xo2 HR) m' h1
      ·rw[Uy] at h1;subst h1;exact ⟨(Xo8 HR).1,by simp,by simp,by simp;omega⟩
     ·rw[Qnu (m:=⟨false,0,[],m.es⟩) hN HPO.out];have h5:=(Xo0 Kx).below (Xo3 H5);refine h5.keep (((Xo5 H5).block _ (by rw[Uo];exact Nat.lt_succ_of_lt h5.lt) (fun e=>?_)).trans (((Uf w5.heap.size w5).alloc (Ug _) _).block _ h5.lt));cases a1 with
      |none=>simp at e
      |some y=>simp only[UM,Un] at e;exact h5.ne (Xo0 H5) rfl e.symm
     ·have h9:wr.heap.size<w4.heap.size:=(by have h1:=(Xe14 HR);have h2:=(Xo0 H2).size;have h3:=(Xe3 Kx);have h4:=(Xo1 Kx).2.2.2.1;omega);have G8:=(Xo1 Kx).2.1.step (Xo3 H5) h9;have h95:=Ue h9 (Xo3 H5).size;refine G8.onKept (((Xo5 H5).block _ (by rw[Uo];exact Nat.lt_succ_of_lt h95) (fun e=>?_)).trans (((Uf w5.heap.size w5).alloc (Ug _) _).block _ h95));cases a1 with
      |none=>simp at e
      |some y=>simp only[UM,Un] at e;have:=((Xo0 HR).lt rfl).2;omega
     ·have h1:=(Xe14 HR);have h2:=(Xo0 H2).size;have h3:=(Xe3 Kx);have h4:=(Xo1 Kx).2.2.2.1;have h5:=(Xo3 H5).size;have h6:=(Xo5 H5).size;rw[Uo] at h6;omega
     ·have h5:=HW4.out.step (Xo3 H5);exact h5.turn ((Xo1 H5).off h5) ((Q0f.of_below (Ba) _).trans0 (Q0f.of_grown (Xo5 H5) fun r hr _=>by
       cases a1 with
       |none=>simp at hr
       |some y=>simp only[UM,Un] at hr;exact ⟨y,rfl,hr⟩)) (fun _ h=>h)
   case rest=>
    obtain ⟨a2,N2,c2,all2,j,mj,rfl,rfl,hN2,QQ,Jn,hej,m6,WN,hpow2,D0,hX9,Yk,hw9⟩:=hcut;obtain ⟨g,rfl,awj,lwj,cwj,bej,oej,lej,cej,q0,q1,q2,q3,hwj,Wf,hbj1,hbj2⟩:=QQ.ent j mj Jn;have hjN:j<N2:=(by rw[<-QQ.len];exact (Um.1 Jn).1);have hjN':(j:Int)<(N2:Int):=(by omega);have hj0:(0:Int)<=(j:Int):=(by omega);obtain ⟨A1,KO,Za,Y1⟩:=WN mj (Ud Jn);have Ql:=Q2b (Xo8 HR).2 (Xo6 HR);have Wo:=hwj.len;have hi6:i<600:=(by have:=(Xo4 H);omega);have I6:=Qh2 mj.neg mj.exp awj lwj cwj mj.ws m.neg m.exp aw lw cw m.ws wc.drew hwj.drew hw9.drew (by omega) (by omega) (by omega) (by omega) (by omega) (by omega) (69632+64*(i:Int)) (-65536) 65536 (by omega) (by omega) (by omega) (by omega) (by omega) (by omega);have g0:=hX9.c0;have g1:=hX9.c1;have g2:=hX9.c2;have HM:=Xh11 hN2 QQ Jn hej m6 WN hpow2 D0 hX9 Yk I6;clear hN2 QQ Jn hej m6 WN hpow2 D0 hX9 Yk hw9 I6 hwj Wf A1 KO Za Y1 Ql Wo y0 y1 y2 y3 hlk;have q0d:wc.drew.cell? ⟨g,j*4,none⟩=some (.bool mj.neg):=q0;have q1d:wc.drew.cell? ⟨g,j*4+1,none⟩=some (.int .i64 mj.exp):=q1;have q2d:wc.drew.cell? ⟨g,j*4+2,none⟩=some (.slice awj lwj cwj):=q2;have g0d:wc.drew.cell? ⟨wr.heap.size,0,none⟩=some (.bool m.neg):=g0;have g1d:wc.drew.cell? ⟨wr.heap.size,1,none⟩=some (.int .i64 m.exp):=g1;have g2d:wc.drew.cell? ⟨wr.heap.size,2,none⟩=some (.slice aw lw cw):=g2;have hjt:((j:Int)).toNat=j:=by omega
    go_upto_region 13 with fail
    go_region_law (
     refine Q2y (by rfl) 55 #[.agg #[.bool mj.neg,.int .i64 mj.exp,.slice awj lwj cwj],.agg #[.bool m.neg,.int .i64 m.exp,.slice aw lw cw]] (by simp[go_sem]) ?_;refine (Xe10 HM).mono ?_;rintro r w8 ⟨b,e,al,ll,cl,L,rfl,hw8,k7,hl8,hh8,F6,KP⟩;refine ⟨_,rfl,?_⟩;have B4:Bw wc w8:=⟨KP.os,KP.tape,KP.output,KP.size,KP.block⟩;have ZM:g<wc.heap.size:=((Xo1 HM).lt rfl).2;have j0:=(B4.cell (p:=⟨g,j*4,none⟩) ZM).trans q0;have j1:=(B4.cell (p:=⟨g,j*4+1,none⟩) ZM).trans q1;have j2:=(B4.cell (p:=⟨g,j*4+2,none⟩) ZM).trans q2;have L7:=Qnv (Xo1 HM);have i0':=(B4.frozen (p:=⟨g,j*4,none⟩) ZM).trans (L7 _);have i1':=(B4.frozen (p:=⟨g,j*4+1,none⟩) ZM).trans (L7 _);have i2':=(B4.frozen (p:=⟨g,j*4+2,none⟩) ZM).trans (L7 _);have n1:(w8.setCell ⟨g,j*4,none⟩ (.bool b)).cell? ⟨g,j*4+1,none⟩=some (.int .i64 mj.exp):=(Uc _ _ _ _ (by simp)).trans j1;have n2:((w8.setCell ⟨g,j*4,none⟩ (.bool b)).setCell ⟨g,j*4+1,none⟩ (.int .i64 e)).cell? ⟨g,j*4+2,none⟩=some (.slice awj lwj cwj):=(Uc _ _ _ _ (by simp)).trans ((Uc _ _ _ _ (by simp)).trans j2);have H8:=Xh6 hw8 k7 hl8 hh8 F6 B4;clear hw8 k7 hl8 hh8 F6 B4 KP ZM L7)
    all_goals go_wp2_with fail
    all_goals exact ⟨Qrg B0 (Xo0 HM) (Xo1 HM) (Xo2 HM) (Xo4 HM) (Xo5 HM) (Xo6 HM) (Xo7 HM) (Xo0 H8) (Xo1 H8) (Xo2 H8) (Xo3 H8) (Xo4 H8) (Xe5 H8),by simp only[intOf];omega⟩
  ·have E0:¬((i:Int)<(ms.length:Int)):=(by omega);have A6:i=ms.length:=(by omega);rw[A6,Ta] at G7;have U0:N<=600:=(by have:=(Xo4 H);omega);have N1:N<=9223372036854775807:=(by omega);have HL:=Xh5 P0 G7 XK Q0 A6;clear P0 G7 XK X7 Q0 A6
   go_wp2_with fail
   rename World=>wl
   go_loopw [12,72] (fun s12 s72 wx=>Qxn wl all k s12 s72 wx) (fun _ iv _=>N-(intOf iv).toNat)
   case atStart=>
    exact ⟨0,none,0,0,[],rfl,rfl,Uu _,Uu _,Q19.nil_ _ _,rfl,(fun m hm=>by cases hm),(fun m hm=>by cases hm),Uf _ _⟩
   case round=>
    obtain ⟨q,a3,M,c3,outs,rfl,rfl,hq,hM,E5,ZO,YK,M3,Vl⟩:=hrel
    by_cases Yc:q<N
    ·have hql':(q:Int)<(N:Int):=(by omega);obtain ⟨m,hm⟩:∃m,all[q]?=some m:=⟨_,Ub (by rw[(Xo0 HL).len];exact Yc)⟩;have hallx:=(Xo0 HL).step Vl;obtain ⟨g,rfl,aw,lw,cw,be,oe,le,ce,q0,q1,q2,q3,hw,he,C0,D0⟩:=hallx.ent q m hm;obtain ⟨A1,KO,Za,Y1⟩:=(Xo2 HL) m (Ud hm);have ZF:=hw.len;have hi6:i<=600:=(by have:=(Xo4 H);omega);have hX:=Q38.new wr (.bool m.neg) (.int .i64 m.exp) (.slice aw lw cw) (.slice (some ⟨be,oe,none⟩) le ce) 44;have C2:Bw wr (wr.alloc (.cells #[.bool m.neg,.int .i64 m.exp,.slice aw lw cw,.slice (some ⟨be,oe,none⟩) le ce] 44)):=Ba;have Z9:=Q0r wr (.cells #[.bool m.neg,.int .i64 m.exp,.slice aw lw cw,.slice (some ⟨be,oe,none⟩) le ce] 44);have Qv:=((Xo5 H).step ((Xo3 HL))).step Vl;have U3:=Q57 m.neg aw lw cw m.ws m.exp _ (hw.step C2) (Qv.step C2) (by omega) (by omega) (by omega);have HQ:=Xh13 E5 ZO YK M3 Vl hm hw he A1 hX C2 Z9 U3;have x0:=hX.c0;have x1:=hX.c1;have x2:=hX.c2;have x3:=hX.c3;have L6:=(Xo0 HL).ent q m hm;clear E5 ZO YK M3 Vl hm hw he A1 hX C2 Z9 U3 hallx Qv KO Za Y1
     go_upto_if 90 with (go_at_call_of 47 (Value.bool m.neg);refine (Xe12 HQ).mono ?_;rintro r w5 ⟨n',e',a',l',c',L,er,rfl,E7,J8,M0⟩;have H5:=Xh3 (Q7u E7) J8 M0;clear E7 J8 M0)
     have hm:=(Xo5 HQ);have XM:g<wl.heap.size:=((Xo0 HL).lt rfl).2;have K6:be<wl.heap.size:=by
      obtain ⟨g2,e2,aw2,lw2,cw2,be2,oe2,le2,ce2,_,_,_,p3,_,_,_,p7⟩:=L6;injection e2 with e2;injection e2 with e2;subst e2;have h1:=((Xo4 HQ).cell (p:=⟨g,q*4+3,none⟩) XM).trans p3;rw[q3] at h1;injection h1 with h1;injection h1 with h1;injection h1 with h1;injection h1 with h1;omega
     have B6:((all.take (q+1)).map Q01.term).filter (fun p=>decide (p.1≠0))=((all.take q).map Q01.term).filter (fun p=>decide (p.1≠0))++(if m.term.1=0 then [] else [m.term]):=by
      rw[Tc,hm,UP,List.filter_append]
      congr 1
      show [m.term].filter _=_
      rw[List.filter_cons]
      by_cases h0:m.term.1=0
      ·rw[Us h0,Uq (by simpa using h0)];rfl
      ·rw[Uq h0,Us (by simpa using h0)];rfl
     have JC:∀m'∈all.take (q+1),m'∈all.take q∨m'=m:=fun m' h'=>by
      rw[Tc,hm] at h';simpa using h'
     have hbw5:=Below.next0 (Xo10 HQ) (Xe2 H5);have hb5l:=Below.next0 (Xo4 HQ) hbw5;have M4:=Xh5 K6 B6 JC hbw5 hb5l;have G8:=(Xo9 HQ).step (Xe2 H5) (Xo11 HQ);have hN5:=Q02.new w5 (.bool n') (.int .i64 e') (.slice a' l' c') 41;have hal5:Bw w5 (w5.alloc (.cells #[.bool n',.int .i64 e',.slice a' l' c'] 41)):=Ba;have Jz:=G8.step hal5 (Ue (Xo11 HQ) (Xe2 H5).size);have u3:=Jz.c3;have t0:=hN5.c0;have t1:=hN5.c1;have t2:=hN5.c2;have HA5:=Ua hal5;clear G8 hN5 Jz hal5 L6 K6 B6 JC hbw5 hb5l hm x0 x1 x2 x3;rcases (Xo0 H5) with ⟨f9,rfl,X1,J0⟩|⟨Yh,rfl,_⟩
     ·have Km:=(Xo1 H5).len;have hfit2:∀m'∈all.take (q+1),Q75 m'.term.1:=fun m' h'=>((Xo2 M4) m' h').elim (fun h1=>(Xo3 HQ) m' h1) (fun h1=>by subst h1;exact f9);have HV:=Xh4 f9 X1 J0 hfit2;clear f9 X1 J0 hfit2
      by_cases VI:L=[]
      ·have A3:¬((0:Int)<(l':Int)):=(by rw[<-Km,VI];simp);have h0:m.term.1=0:=by
        show Q28 m.neg m.exp m.ws=0
        have e0:Q28 n' e' L=Q28 m.neg m.exp m.ws:=(Xo2 HV);rw[<-e0,VI];exact (Q66 (by rw[<-VI];exact (Xo1 HV)) (fun x hx=>by cases hx)).2 rfl
       have H0:=Ua h0;clear h0 VI Km
       go_wp2_with fail
       refine ⟨⟨q+1,a3,M,c3,outs,rfl,congrArg (Value.int .i64) (by omega),by have:=(Xo0 HL).len;omega,by omega,(Xo0 HQ).step (Below.next0 (Xo3 M4) HA5.out),?_,(Xo2 HQ),(Xe3 HV),Below.next0 (Xe4 M4) HA5.out⟩,by simp only[intOf];omega⟩;rw[(Xo1 M4),Us H0.out,TV];exact (Xo1 HQ)
      ·have A3:(0:Int)<(l':Int):=by
        rw[<-Km];have:=Xai.2 VI;omega
       obtain ⟨O1,P1,K1,J1⟩:=HI.out;have Zz:=(Xo0 HQ).step (Below.next0 (Xo3 M4) HA5.out);obtain ⟨xs6,o5⟩:=Zz.row;have hMM:M<=600:=(by omega);have hB6:wl.heap.size<=((w5.alloc (.cells #[.bool n',.int .i64 e',.slice a' l' c'] 41)).alloc (.cells #[.bool n',.int .i64 e',.slice a' l' c',.slice (some ⟨be,oe,none⟩) le ce] 44)).heap.size:=by
        have:=(Xe4 M4).size;rw[Uo,Uo];omega
       obtain ⟨g6,c6,w6,R3,M1,D1,F5⟩:=Q12 (P:=Tryz.prog) NoU ((w5.alloc (.cells #[.bool n',.int .i64 e',.slice a' l' c'] 41)).alloc (.cells #[.bool n',.int .i64 e',.slice a' l' c',.slice (some ⟨be,oe,none⟩) le ce] 44)) 25 25 44 i0 _ 4 64 Tryz.underlying25 O1 P1 K1 J1 rfl Q9g wl.heap.size hB6 a3 M c3 xs6 (o5.step (Ba)) (w5.alloc (.cells #[.bool n',.int .i64 e',.slice a' l' c'] 41)).heap.size 1 1 [.bool n',.int .i64 e',.slice a' l' c',.slice (some ⟨be,oe,none⟩) le ce] rfl (TA (cs:= #[.bool n',.int .i64 e',.slice a' l' c',.slice (some ⟨be,oe,none⟩) le ce]) (Ul _ _)) (by simp[Value.oneCell']) (by intro u hu;simp at hu;rcases hu with rfl|rfl|rfl|rfl <;> exact fun _=>by simp[nv]) (by decide) (by omega) (by decide) (by decide);rw[Uo w5] at R3;have H6:=Xh6 Zz o5 M1 D1 F5 VI;clear Zz o5 M1 D1 F5 hB6 VI Km O1 P1 K1 J1
       go_wp2_with (at_builtin;refine Q07 rfl (.tmp 96) (.tmp 101) 25 25 rfl _ _ rfl rfl _ _ R3 ?_)
       have hw6:=(Xo1 H5).toWordsIn.step HA5.out;have he6:=(Xo7 HQ).step (Below.next0 (Xo3 M4) HA5.out);have Zg:=(Xo0 H6).push (Xo1 H6) (o:=.cells #[.bool n',.int .i64 e',.slice a' l' c',.slice (some ⟨be,oe,none⟩) le ce] 44) (Xo3 H6) (Xo4 H6) (m:=⟨n',e',L,m.es⟩) (Xo2 H6) rfl hw6 he6 (by rw[Uo];have:=(Xo0 M4);have:=(Xe4 M4).size;omega) (fun x hx e=>by have:=((Xo0 H6).lt hx).1;have:=(Xo0 M4);omega);have hbw6:Bw wl w6:=by
        have h1:=(Below.next0 (Xe4 M4) HA5.out);have h2:=h1.alloc h1.size (.cells #[.bool n',.int .i64 e',.slice a' l' c',.slice (some ⟨be,oe,none⟩) le ce] 44);exact h2.trans ⟨(Xo3 H6).os,(Xo3 H6).tape,(Xo3 H6).output,(Xo3 H6).size,fun z hz=>(Xo3 H6).block z (Ue hz h2.size) (fun e=>by
         cases a3 with
         |none=>simp at e
         |some y=>simp only[UM,Un] at e;have:=((Xo0 H6).lt rfl).1;omega)⟩
       have hv:Q28 n' e' L=m.term.1:=(Xo2 HV);have C1:m.term.1≠0:=fun e0=>(Xe5 H6) ((Q66 (Xo1 HV) hw6.low).1 (hv.trans e0));refine ⟨⟨q+1,_,M+1,c6,_,rfl,congrArg (Value.int .i64) (by omega),by have:=(Xo0 HL).len;omega,by omega,Zg,?_,fun m' K7=>?_,(Xe3 HV),hbw6⟩,by simp only[intOf];omega⟩
       ·rw[(Xo1 M4),Uq C1,UP,(Xo1 HQ)]
        congr 1
        show [(Q28 n' e' L,m.es)]=[m.term]
        rw[hv];rfl
       ·rcases UY.1 K7 with h1|h1
        ·exact (Xo2 HQ) m' h1
        ·rw[Uy] at h1;subst h1;exact ⟨⟨(Xo8 HQ),(Xo1 HV)⟩,(Xe5 H6)⟩
     ·have S2:X=.error 2:=by
       rw[<-(Xo6 H)];have JR:m.term∈Qaq (ms.map Q01.term):=(by rw[<-(Xo1 HL)];exact Tm.2 ⟨m,Ud (Xo5 HQ),rfl⟩);unfold Q24;rw[Us];rw[Xah];refine ⟨m.term,(Qf8 _ _).1 JR,?_⟩;have:Q69 m.term.1=false:=(Q9b _).2 Yh;rw[this];rfl
      have HX:=Ua S2;clear S2 Yh
      go_wp2_with fail
      exact ⟨rfl,.tuple #[.slice none 0 0,.int .i64 2],by simp[results,go_sem],Q0u.err HX.out (Below.next0 (Below.next0 (Xo3 HL) (Xe4 M4)) HA5.out)⟩
    ·have hql':¬((q:Int)<(N:Int)):=(by omega);have hqa:all.take q=all:=UA (by have:=(Xo0 HL).len;omega);rw[hqa] at ZO M3;have HO:=Xh5 E5 ZO YK M3 Vl;have hM6:M<=600:=(by have:=(Xo0 HL).len;omega);clear E5 ZO YK M3 Vl hqa
     by_cases WM:24<M
     ·have VU:(24:Int)<(M:Int):=(by omega);have Jz:X=.error 6:=by
       rw[<-(Xo6 H)];exact Qrh (Xo1 HL) (Xo1 HO) (Xo3 HO) (by rw[(Xo0 HO).len];exact WM)
      have HX:=Ua Jz;clear Jz
      go_wp2_with fail
      exact ⟨rfl,.tuple #[.slice none 0 0,.int .i64 6],by simp[results,go_sem],Q0u.err HX.out (Below.next0 (Xo3 HL) (Xe4 HO))⟩
     ·have VU:¬(24:Int)<(M:Int):=(by omega);have hsort:=Qu8 (Xo0 HO) (by omega) ((Xo0 HO).exps (Xo2 HO));have HS:=Ua hsort;clear hsort
      go_wp2_with (go_at_call_of 138 (Value.slice a3 M c3);refine HS.out.mono ?_;rintro r w9 ⟨rfl,outs',hms9,VL,hs9,Z4⟩;have H9:=Xh4 hms9 VL hs9 Z4;clear hms9 VL hs9 Z4)
      have KS:outs'.Pairwise (fun p q=>¬Q2u p.es q.es<0):=(Xo2 H9).imp fun {p q} h=>by omega
      obtain ⟨Y0,y7⟩:=Qwn (Xo2 H) (Xo3 H) (Qmc _) (Qhw (Xo1 HL) (by have:=(Xo3 HO);exact this)) (Xo1 HL) (Xo1 HO) (by rw[(Xo0 HO).len];omega) (Xo1 H9) KS (Xo2 HO);refine ⟨rfl,.tuple #[.slice a3 M c3,.int .i64 0],by simp[results,go_sem],?_,?_⟩
      ·exact Below.next0 (Xo3 HL) ((Xe4 HO).trans (Xe3 H9))
      ·rw[<-(Xo6 H),Y0];exact ⟨a3,M,c3,outs',rfl,(Xo0 H9),rfl,y7⟩
def Q9h (w:World):List Q01->LV->Prop
 |[],xs=>xs=[]
 |m::r,xs=>∃aw lw cw ae le ce ys,xs=.bool m.neg:: .int .i64 m.exp:: .slice aw lw cw:: .slice ae le ce::ys/\(WordsIn w aw lw cw m.ws/\Q0j w ae le ce m.es/\-9223372036854775808<=m.exp/\m.exp<=9223372036854775807)/\Q9h w r ys
theorem Q9h.len {w:World}:∀{ms:List Q01} {xs:LV},Q9h w ms xs->xs.length=ms.length*4
 |[],_,h=>by cases h;rfl
 |m::r,_,⟨_,_,_,_,_,_,ys,rfl,_,h⟩=>by
  have:=Q9h.len h;simp only[Uz];omega
theorem Q9h.one {w:World}:∀{ms:List Q01} {xs:LV},Q9h w ms xs->∀u∈xs,u.oneCell'=true
 |[],_,h,u,hu=>by cases h;cases hu
 |m::r,_,⟨_,_,_,_,_,_,ys,rfl,_,h⟩,u,hu=>by
  simp only[UF] at hu;rcases hu with rfl|rfl|rfl|rfl|hu
  ·rfl
  ·rfl
  ·rfl
  ·rfl
  ·exact Q9h.one h u hu
theorem Q9h.append {w:World} {ms':List Q01} {ys:LV} (h':Q9h w ms' ys):∀{ms:List Q01} {xs:LV},Q9h w ms xs->Q9h w (ms++ms') (xs++ys)
 |[],_,h=>by cases h;exact h'
 |m::r,_,⟨aw,lw,cw,ae,le,ce,zs,rfl,hg,h⟩=>⟨aw,lw,cw,ae,le,ce,zs++ys,rfl,hg,Q9h.append h' h⟩
theorem Q9h.of {w:World} {b:Nat}:∀{ms:List Q01} {o:Nat},(∀j m,ms[j]?=some m->Q31 w b (o+j*4) m)->∃xs,Q9h w ms xs/\∀j u,xs[j]?=some u->w.cell? ⟨b,o+j,none⟩=some u
 |[],o,_=>⟨[],rfl,fun j u h=>by simp at h⟩
 |m::r,o,h=>by
  obtain ⟨ys,R8,O9⟩:=Q9h.of (ms:=r) (o:=o+4) (fun j m' hm=>by have:=h (j+1) m' hm;rwa[show o+(j+1)*4=o+4+j*4 by omega] at this);obtain ⟨aw,lw,cw,ae,le,ce,h0,h1,h2,h3,hg⟩:=h 0 m rfl;rw[TU,Tu] at h0 h1 h2 h3;refine ⟨_,⟨aw,lw,cw,ae,le,ce,ys,rfl,hg,R8⟩,fun j u hj=>?_⟩
  match j,hj with
  |0,hj=>simp at hj;rw[<-hj];exact h0
  |1,hj=>simp at hj;rw[<-hj];exact h1
  |2,hj=>simp at hj;rw[<-hj];exact h2
  |3,hj=>simp at hj;rw[<-hj];exact h3
  |j+4,hj=>
   have:=O9 j u (by simpa using hj);rwa[show o+4+j=o+(j+4) by omega] at this
theorem Q9h.lie {w w':World} {g:Nat} (hb:Bw w w'):∀{ms:List Q01} {xs:LV} {o:Nat},Q9h w ms xs->(∀j u,xs[j]?=some u->w'.cell? ⟨g,o+j,none⟩=some u)->∀j m,ms[j]?=some m->Q31 w' g (o+j*4) m
 |[],_,_,_,_,j,m,hm=>by simp at hm
 |m0::r,_,o,⟨aw,lw,cw,ae,le,ce,ys,rfl,⟨g1,g2,g3⟩,h⟩,hc,j,m,hm=>by
  match j,hm with
  |0,hm=>
   simp at hm;subst hm;refine ⟨aw,lw,cw,ae,le,ce,?_,?_,?_,?_,g1.step hb,g2.step hb,g3⟩
   ·exact hc 0 _ rfl
   ·have:=hc 1 _ rfl;simpa using this
   ·have:=hc 2 _ rfl;simpa using this
   ·have:=hc 3 _ rfl;simpa using this
  |j+1,hm=>
   have:=Q9h.lie hb (o:=o+4) h (fun i u hi=>by
    have:=hc (i+4) u (by simpa using hi);rwa[show o+(i+4)=o+4+i by omega] at this) j m (by simpa using hm)
   rwa[show o+4+j*4=o+(j+1)*4 by omega] at this
theorem Q72 {P:Program} (w:World) (t ty e:TypeId) (i:TypeInfo) (ht:P.underlying t=some (.slice e)) (hi:P.info? e=some i) (a b:OA) (n c d:Nat) (hn:n<=c):
 (Builtin.append_ #[t,t] ty #[.slice a n c,.slice b 0 d]).run P w=.ok (.slice a n c) w:=by
 have hf:(Builtin.firstCells i.size 0 (.slice b 0 d)).run P w=.ok #[] w:=by
  cases b with
  |none=>exact run_firstCells_none w i.size 0 0 d
  |some x=>exact run_firstCells_some (P:=P) w i.size 0 x 0 d [] (by simp) (fun j u h=>by simp at h)
 cases a with
 |none=>simp[Builtin.append_,run_underlying ht,sizeOf,typeInfo,hi,Builtin.lenOf,hf,hn]
 |some x=>simp[Builtin.append_,run_underlying ht,sizeOf,typeInfo,hi,Builtin.lenOf,hf,hn,storeCells]
theorem Q5v (ty:TypeId) (w0 w:World) (hb:Bw w0 w) (a:OA) (n c:Nat) (xs:LV) (hr:Row w w0.heap.size 44 4 a n c xs) (b:OA) (m d:Nat) (ms:List Q01) (h:Q08 w0 b m d ms) (hnm:n+m<=1000):
 ∃a' c' w' ys,(Builtin.append_ #[25,25] ty #[.slice a n c,.slice b m d]).run Tryz.prog w=.ok (.slice a' (n+m) c') w'/\Row w' w0.heap.size 44 4 a' (n+m) c' (xs++ys)/\Q9h w0 ms ys/\Bw w0 w':=by
 obtain ⟨i0,O1,P1,K1,J1⟩:=Q0l Q4g;obtain ⟨h1,h2,h3,rfl|⟨bb,o,rfl,B0,h4⟩⟩:=h
 ·subst h1;refine ⟨a,c,w,[],Q72 w _ ty _ i0 Tryz.underlying25 O1 a b n c d hr.cap.1,by simpa using hr,rfl,hb⟩
 ·obtain ⟨ys,R8,O9⟩:=Q9h.of h4;have y9:∀j u,ys[j]?=some u->w.cell? ((⟨bb,o,none⟩:Addr).add j)=some u:=fun j u hj=>by
   rw[Xao];exact (hb.cell (p:=⟨bb,o+j,none⟩) B0).trans (O9 j u hj)
  obtain ⟨a',c',w',I1,I0,m7,N0,_⟩:=Q1u w0 w ty 25 44 i0 _ 4 64 Tryz.underlying25 O1 P1 K1 J1 rfl (by decide) w0.heap.size hb hb.size a n c xs hr ⟨bb,o,none⟩ m d ys (by rw[R8.len,h1]) y9 R8.one (n+m) rfl (by omega) (by omega);exact ⟨a',c',w',ys,I1,I0,R8,N0⟩
theorem Qua (N:Nat) (w:World) (hN:N<=1000):
 Calls Tryz.prog 202 #[.slice none 0 0,.int .i64 (N:Int)] w fun r w'=>∃a c,r=.returned (.slice a 0 c)/\Row w' w.heap.size 44 4 a 0 c []/\Bw w w':=by
 obtain ⟨i0,O1,P1,K1,J1⟩:=Q0l Q4g;have h0:¬((N:Int)<0):=by omega
 by_cases h1:N=0
 ·subst h1
  go_enter Tryz.func202,Tryz.ntmps202
  go_wp2_with fail
  go_ret;exact ⟨none,0,rfl,Row.nil_ _ _ _ _,Uf _ _⟩
 ·have h2:(0:Int)<(N:Int):=by omega
  have hC1:=grownCap_ge w (0+N) 0 44;have hC2:=grownCap_le_maxLen w (0+N) 0 44 (by unfold maxLen;omega);have I1:=fun ty=>Lib.run_append_grow_zeros (P:=Tryz.prog) w 25 3 ty 44 i0 _ .i64 .i64 Tryz.underlying25 Tryz.underlying3 O1 P1 none 0 0 [] (run_firstCells_none _ _ _ _ _) N (by omega) (by rw[K1];decide) (by omega) (by omega) (by rw[J1];omega) (by rw[J1];exact growslice_fits (by omega) (by omega));obtain ⟨C,hC⟩:∃C,grownCap w (0+N) 0 44=C:=⟨_,rfl⟩;rw[hC] at I1 hC1 hC2;obtain ⟨W,hW⟩:∃W,w.drew.alloc (.cells (([]:LV).toArray++Builtin.zeroCells (Value.agg #[.bool false,.int .i64 0,.slice none 0 0,.slice none 0 0]).cells N++Builtin.zeroCells (Value.agg #[.bool false,.int .i64 0,.slice none 0 0,.slice none 0 0]).cells (C-(0+N))) 44)=W:=⟨_,rfl⟩;rw[hW] at I1;rw[UB] at I1 hC1;have I0:Row W w.heap.size 44 4 (some ⟨w.heap.size,0,none⟩) 0 C []:=by
   refine ⟨by simp,.inr ⟨w.heap.size,C,_,rfl,Ug _,by rw[<-hW];exact Ul w.drew _,Uu _,hC2,?_,by simp⟩⟩;simp[size_zeroCells,Value.cells];omega
  have N0:Bw w W:=by
   rw[<-hW];exact ⟨rfl,rfl,rfl,by rw[Uo];exact Xav _,fun k hk=>heap_alloc_old w.drew _ hk⟩
  have H:=Xh2 I0 N0;clear hW I0 N0 hC hC2
  go_enter Tryz.func202,Tryz.ntmps202
  go_wp2_with (at_builtin;refine Q07 rfl (.tmp 20) (.tmp 21) 25 3 rfl _ _ rfl rfl _ _ (I1 _) ?_)
  go_ret;exact ⟨_,_,rfl,(Xo0 H),(Xe1 H)⟩
def Qxo (n m:Nat) (s3 s11:Value):Prop:=(s11=.int .i64 0/\s3=.int .i64 0)∨(s11=.int .i64 1/\s3=.int .i64 (n:Int))∨(s11=.int .i64 2/\s3=.int .i64 ((n+m:Nat):Int))
def Qhx (w wr:World) (n m:Nat) (ms ms2:List Q01) (s6 s27:Value):Prop:=Bw w wr/\∃a k c mk xs,s6=.slice a k c/\Row wr w.heap.size 44 4 a k c xs/\Q9h w mk xs/\
 ((s27=.int .i64 0/\k=0/\mk=[])∨(s27=.int .i64 1/\k=n/\mk=ms)∨(s27=.int .i64 2/\k=n+m/\mk=ms++ms2))
theorem Qhx.done {w wr:World} {k c:Nat} {a:OA} (hb:Bw w wr) {xs:LV} (hr:Row wr w.heap.size 44 4 a k c xs) {mk:List Q01} (he:Q9h w mk xs) (hk:mk.length=k):Q08 wr a k c mk:=by
 have V3:=hr.cap;refine ⟨hk,V3.1,by have:=V3.2;simpa[maxLen] using this,?_⟩;rcases hr.form with ⟨_,h0,_⟩|⟨g,cur,rfl,_,B0,_⟩
 ·exact .inl (Tg (by omega))
 ·refine .inr ⟨g,0,rfl,B0,he.lie hb fun j u hj=>?_⟩;obtain ⟨g',e,_,_,h2⟩:=hr.at_ hj;injection e with e;injection e with e;subst e;rw[UB];exact h2
theorem Qnx (sb:Nat) (a:OA) (n c:Nat) (ms:List Q01) (b:OA) (m d:Nat) (ms2:List Q01) (w:World) (h1:Q08 w a n c ms) (h2:Q08 w b m d ms2) (hl:sb<w.heap.size) (c0:w.cell? ⟨sb,0,none⟩=some (.slice a n c)) (c1:w.cell? ⟨sb,1,none⟩=some (.slice b m d)) (hn:n<=300) (hm:m<=300):
 Calls Tryz.prog 169 #[.slice (some ⟨sb,0,none⟩) 2 2] w fun r w'=>∃a' c',r=.returned (.slice a' (n+m) c')/\Q08 w' a' (n+m) c' (ms++ms2)/\Bw w w':=by
 have hg:=Qua (n+m) w (by omega);have H:=Xh6 h1 h2 hl c0 c1 hg;have d8:¬((n:Int)<0):=by omega
 have O7:¬(((n+m:Nat):Int)<0):=by omega
 have C8:(n:Int)+(m:Int)=((n+m:Nat):Int):=by omega
 have HM:=Xh2 O7 C8;clear h1 h2 hl hg O7 C8
 go_enter Tryz.func169,Tryz.ntmps169
 go_wp2_with fail
 go_loopw [3,11] (fun s3 s11 wr=>Qxo n m s3 s11/\wr=w) (fun _ iv _=>2-(intOf iv).toNat)
 case atStart=>exact ⟨.inl ⟨rfl,rfl⟩,rfl⟩
 case round=>
  obtain ⟨hrel,rfl⟩:=hrel
  rename World=>w
  rcases hrel with ⟨rfl,rfl⟩|⟨rfl,rfl⟩|⟨rfl,rfl⟩
  ·go_wp2_with fail
   exact ⟨⟨.inr (.inl ⟨rfl,rfl⟩),.intro⟩,by simp only[intOf];decide⟩
  ·have O7:¬(((n+m:Nat):Int)<0):=(by omega);have hw:wrap64 ((n:Int)+(m:Int))=((n+m:Nat):Int):=by unfold wrap64;omega
   go_wp2_with fail
   exact ⟨⟨.inr (.inr ⟨rfl,rfl⟩),.intro⟩,by simp only[intOf];decide⟩
  ·go_wp2_with (refine (Xe5 H).mono ?_;rintro r w1 ⟨a6,c6,rfl,o5,U2⟩;have H6:=Xh2 o5 U2;clear o5 U2)
   go_loopw [6,27] (fun s6 s27 wr=>Qhx w wr n m ms ms2 s6 s27) (fun _ iv _=>2-(intOf iv).toNat)
   case atStart=>exact ⟨(Xe1 H6),a6,0,c6,[],[],rfl,(Xo0 H6),rfl,.inl ⟨rfl,rfl,rfl⟩⟩
   case round=>
    obtain ⟨Q0,a7,k,c7,mk,xs,rfl,ZE,he7,⟨rfl,rfl,rfl⟩|⟨rfl,rfl,rfl⟩|⟨rfl,rfl,rfl⟩⟩:=hrel
    ·obtain ⟨a8,c8,w8,ys,I1,D5,Ko,B4⟩:=Q5v 25 w wr Q0 a7 0 c7 xs ZE a n c ms (Xo0 H) (by omega);rw[UB] at I1 D5;have H8:=Xh3 D5 (Q9h.append Ko he7) B4;have k0:=(Q0.cell (p:=⟨sb,0,none⟩) (Xo2 H)).trans c0;have k1:=(Q0.cell (p:=⟨sb,1,none⟩) (Xo2 H)).trans c1;clear D5 Ko B4 Q0 ZE he7
     go_wp2_with (at_builtin;refine Q07 rfl (.tmp 31) (.tmp 32) 25 25 rfl _ _ rfl rfl _ _ I1 ?_)
     exact ⟨⟨(Xe2 H8),a8,n,c8,_,_,rfl,(Xo0 H8),(Xo1 H8),.inr (.inl ⟨rfl,rfl,rfl⟩)⟩,by simp only[intOf];decide⟩
    ·obtain ⟨a8,c8,w8,ys,I1,D5,Ko,B4⟩:=Q5v 25 w wr Q0 a7 k c7 xs ZE b m d ms2 (Xo1 H) (by omega);have H8:=Xh3 D5 (Q9h.append Ko he7) B4;have k0:=(Q0.cell (p:=⟨sb,0,none⟩) (Xo2 H)).trans c0;have k1:=(Q0.cell (p:=⟨sb,1,none⟩) (Xo2 H)).trans c1;clear D5 Ko B4 Q0 ZE he7
     go_wp2_with (at_builtin;refine Q07 rfl (.tmp 31) (.tmp 32) 25 25 rfl _ _ rfl rfl _ _ I1 ?_)
     exact ⟨⟨(Xe2 H8),a8,k+m,c8,_,_,rfl,(Xo0 H8),(Xo1 H8),.inr (.inr ⟨rfl,rfl,rfl⟩)⟩,by simp only[intOf];decide⟩
    ·have H8:=Xh3 Q0 ZE he7;clear ZE he7 Q0
     go_wp2_with fail
     go_ret;exact ⟨_,_,rfl,Qhx.done (Xo0 H8) (Xo1 H8) (Xe2 H8) (by rw[Uj,(Xo0 H).1,(Xo1 H).1]),(Xo0 H8)⟩
theorem Q0u.lower {w0 w w':World} {n:Nat} {X:Except Int (List Q0a)} {r:Ending} (h:Q0u w n X r w') (hb:Bw w0 w):Q0u w0 n X r w':=⟨Below.next0 hb h.1,h.2⟩
theorem Q0u.form {w w':World} {n:Nat} {X:Except Int (List Q0a)} {r:Ending} (h:Q0u w n X r w'):∃a l c er,r=.returned (.tuple #[.slice a l c,.int .i64 er]):=by
 obtain ⟨_,h⟩:=h;cases X with
 |error e=>obtain ⟨a,l,c,rfl⟩:=h;exact ⟨a,l,c,e,rfl⟩
 |ok P=>obtain ⟨a,l,c,ms,rfl,_⟩:=h;exact ⟨a,l,c,0,rfl⟩
theorem Qki (a:OA) (n c:Nat) (ms:List Q01) (b:OA) (m d:Nat) (ms2:List Q01) (k:Nat) (w:World) (h1:Q08 w a n c ms) (h2:Q08 w b m d ms2) (r1:Q0z k ms) (r2:Q0z k ms2) (hT:Q2n w):
 Calls Tryz.prog 140 #[.slice a n c,.slice b m d,.int .i64 (k:Int)] w (Q0u w k (Qfz (ms.map Q01.term) (ms2.map Q01.term))):=by
 have Z3:=r1.1;have Y4:=r1.2.1;have hn:n<=24:=by have:=r1.2.2.1;rw[h1.1] at this;exact this
 have hm:m<=24:=by have:=r2.2.2.1;rw[h2.1] at this;exact this
 have p1:=fun W (hb:Bw w W)=>Q34 a n c ms k W (h1.step hb) (by omega);have p2:=fun W (hb:Bw w W)=>Q34 b m d ms2 k W (h2.step hb) (by omega);have hX:Qfz (ms.map Q01.term) (ms2.map Q01.term)=Q24 ((ms++ms2).map Q01.term):=by rw[UP];rfl
 rw[hX];clear hX;obtain ⟨X,hX⟩:∃X,Q24 ((ms++ms2).map Q01.term)=X:=⟨_,rfl⟩;rw[hX];have j9:∀m∈ms++ms2,Qke k m:=fun m hm=>by
  rcases UY.1 hm with h|h
  ·exact (r1.2.2.2.1 m h).1
  ·exact (r2.2.2.2.1 m h).1
 have U3:=fun (a':OA) (c':Nat) (W:World) (hb:Bw w W) (h:Q08 W a' (n+m) c' (ms++ms2))=>by
  have:=Q5u a' (n+m) c' (ms++ms2) k W h j9 Z3 Y4 (by omega) (hT.step hb);rw[hX] at this;exact this
 have H:=Xh7 h1 h2 r1 r2 p1 p2 U3;clear h1 h2 r1 r2 p1 p2 U3 hX j9 hT
 go_enter Tryz.func140,Tryz.ntmps140
 go_upto_region 3 with (first|(go_at_call_of 45 (Value.slice a n c);refine ((Xo4 H) _ (Uf _ _)).mono ?_;rintro r w1 ⟨⟨x,rfl,hx⟩,C0⟩;(have ZC:x=true:=hx.2 (Xo2 H));clear hx;subst ZC;have H1:=Ua C0;clear C0)|(go_at_call_of 45 (Value.slice b m d);refine ((Xo5 H) _ H1.out).mono ?_;rintro r w2 ⟨⟨x,rfl,hx⟩,D0⟩;(have ZC:x=true:=hx.2 (Xo3 H));clear hx;subst ZC;have H2:=Ua D0;clear D0))
 have D0:=Below.next0 H1.out H2.out;have G0:=D0.alloc D0.size (.cells #[.slice a n c,.slice b m d] 25);have Y5:=Ul w2 (.cells #[.slice a n c,.slice b m d] 25);have Vp:=Qnx w2.heap.size a n c ms b m d ms2 (w2.alloc (.cells #[.slice a n c,.slice b m d] 25)) ((Xo0 H).step G0) ((Xo1 H).step G0) (Q0r _ _) (by rw[Ux _ _ _ _ _ _ Y5];rfl) (by rw[Ux _ _ _ _ _ _ Y5];rfl) (by omega) (by omega);have H3:=Xh2 G0 Vp;clear D0 G0 Y5 Vp
 go_wp2_with (first|(go_at_call_of 169 (Value.slice (some ⟨w2.heap.size,0,none⟩) 2 2);refine (Xe1 H3).mono ?_;rintro r w4 ⟨a4,c4,rfl,YV,F1⟩;have H4:=Xh2 YV (Below.next0 (Xo0 H3) F1);clear YV F1)|(go_at_call_of 83 (Value.slice a4 (n+m) c4);refine ((Xe6 H) a4 c4 _ (Xe1 H4) (Xo0 H4)).mono ?_;rintro r w5 Y0;obtain ⟨a5,l5,c5,er,rfl⟩:=Y0.form;have H5:=Ua (Y0.lower (Xe1 H4));clear Y0))
 exact ⟨rfl,.tuple #[.slice a5 l5 c5,.int .i64 er],by simp[results,go_sem],H5.out⟩
end Go.Proofs.YtdilmfakkppgpaaGreatDoor
