/- Part 12. No condition. -/
import Derived.Carry
import Derived.Lib.AppendZerosOnto
import Derived.Lib.Walk
import Derived.Lib.AppendIntMem
import Derived.BigCall
import Derived.BigGuard
import Derived.WalkSmall
import Derived.Lib.Builder
import Derived.Lib.AppendStr
import Derived.Lib.UnsafeStr
import Derived.Laws.Externs
import Derived.Test.YtidojbkhlenahaaGreatDoorPkProblemDrawn11
set_option maxRecDepth 100000
set_option maxHeartbeats 16000000
namespace Go.Proofs.YtidojbkhlenahaaGreatDoor
open Go.RowKit WordsM
theorem Q9k:(Tryz.prog.info? 98).map (fun i=>(i.zero,i.size,i.bytes))=some (some (.agg #[.bool false,.int .i64 0,.slice none 0 0,.slice none 0 0]),4,64):=by kernel_rfl
theorem Qb9:∀u∈(Value.agg #[.bool false,.int .i64 0,.slice none 0 0,.slice none 0 0]).cells.toList,NoU u:=by
 intro u hu;simp[Value.cells] at hu;rcases hu with rfl|rfl|rfl <;> exact fun _=>by simp[nv]
def Q39 [LT ZK] (w:World) (n:Nat) (X:Except Int (List Q0m)) (r:Ending) (w':World):Prop:=Bw w w'/\match X with
 | .error er=>∃a l c,r=.returned (.tuple #[.slice a l c,.int .i64 er])
 | .ok P=>∃a l c ms,r=.returned (.tuple #[.slice a l c,.int .i64 0])/\Q0k w' a l c ms/\ms.map Q01.term=P/\Q38 n ms
theorem Q39.err [LT ZK] {w w':World} {n:Nat} {X:Except Int (List Q0m)} {er:Int} {a:OA} {l c:Nat} (hX:X=.error er) (hb:Bw w w'):Q39 w n X (.returned (.tuple #[.slice a l c,.int .i64 er])) w':=⟨hb,by rw[hX];exact ⟨_,_,_,rfl⟩⟩
theorem Q31 {n:Bool} {e:Int} {L:LN} {w:World} {a:OA} {l c:Nat} (h:Q0a n e L) (hw:WordsIn w a l c L):l<=64/\-65536<=e/\e<=65536:=by
 have:=Q7m h hw.low;rw[hw.len] at this;exact this
theorem Q0p.onBlock [LT ZK] {w w':World} {ae:OA} {le ce:Nat} {E:List Int} (h5:Q0p w ae le ce E) (hs:w.heap.size<=w'.heap.size) (mb:Nat) (WE:∀o,w.cell? ⟨mb,o,none⟩=none) (hk:∀k,k<w.heap.size->k≠mb->w'.heap[k]?=w.heap[k]?):Q0p w' ae le ce E:=by
 refine ⟨h5.len,h5.cap,h5.most,h5.rng,?_⟩;rcases h5.rd with h8|⟨b,oo,e,hb,Y3⟩
 ·exact .inl h8
 ·refine .inr ⟨b,oo,e,Uc hb hs,fun i x hx=>?_⟩;have h9:=Y3 i x hx;have C1:b≠mb:=fun e=>by subst e;rw[WE] at h9;cases h9
  exact (UK (a:=⟨b,oo+i,none⟩) (hk b hb C1)).trans h9
theorem Q50.onKept {w w':World} {b:Nat} {v0 v1 v2 v3:Value} (h:Q50 w b v0 v1 v2 v3) (hk:w'.heap[b]?=w.heap[b]?):Q50 w' b v0 v1 v2 v3:=by
 have Y3:∀o,w'.cell? ⟨b,o,none⟩=w.cell? ⟨b,o,none⟩:=fun o=>UK (a:=⟨b,o,none⟩) hk;have WN:∀o,w'.frozen? ⟨b,o,none⟩=w.frozen? ⟨b,o,none⟩:=fun o=>Xak (a:=⟨b,o,none⟩) hk;exact ⟨(Y3 0).trans h.c0,(Y3 1).trans h.c1,(Y3 2).trans h.c2,(Y3 3).trans h.c3,(WN 0).trans h.f0,(WN 1).trans h.f1,(WN 2).trans h.f2,(WN 3).trans h.f3⟩
theorem Qni [LT ZK] {B:Nat} {w:World} {g n c:Nat} {all:List Q01} (h:Q2f B w (some ⟨g,0,none⟩) n c all) (i:Nat):w.frozen? ⟨g,i,none⟩=false:=by
 obtain ⟨xs,hr⟩:=h.row;exact hr.1.frozen0 i
theorem Qnj [LT ZK] {w0 w2 w3 w4:World} {mb n B N c p9 le ce:Nat} {g:P4->Option Nat} {a:OA} {all:List Q01} {v0 v1 v2 v3:Value} {ae:OA} {E:List Int} (hm:mb<p9) (h9:p9<w2.heap.size) (M0:Bw w2 w3) (hp:Q4t w3 mb n g) (hg:w3.grownBy w4 (some mb)) (A1:Q2f B w3 a N c all) (hX:Q50 w3 p9 v0 v1 v2 v3) (hE:Q0p w3 ae le ce E):
 Q2f B w4 a N c all/\Q50 w4 p9 v0 v1 v2 v3/\Q0p w4 ae le ce E/\w3.heap.size<=w4.heap.size/\(w0.heap.size<=mb->Bw w0 w3->Bw w0 w4):=by
 have hk:∀k,k<w3.heap.size->k≠mb->w4.heap[k]?=w3.heap[k]?:=fun k h1 h2=>hg.block k h1 (fun e=>h2 (by injection e));have h3:p9<w3.heap.size:=Uc h9 M0.size;have K4:=hk p9 h3 (by omega);have Y3:∀o,w4.cell? ⟨p9,o,none⟩=w3.cell? ⟨p9,o,none⟩:=fun o=>UK (a:=⟨p9,o,none⟩) K4;have WN:∀o,w4.frozen? ⟨p9,o,none⟩=w3.frozen? ⟨p9,o,none⟩:=fun o=>Xak (a:=⟨p9,o,none⟩) K4;refine ⟨A1.onBlock hg.size mb hp.cells (fun x hx=>hp.ne A1 hx) hk,⟨(Y3 0).trans hX.c0,(Y3 1).trans hX.c1,(Y3 2).trans hX.c2,(Y3 3).trans hX.c3,(WN 0).trans hX.f0,(WN 1).trans hX.f1,(WN 2).trans hX.f2,(WN 3).trans hX.f3⟩,hE.onBlock hg.size mb hp.cells hk,hg.size,fun h0 hb=>?_⟩;exact hb.trans ⟨hg.os,hg.tape,hg.output,hg.size,fun k h1=>hk k (Uc h1 hb.size) (by omega)⟩
theorem Qto {w wr w2 w3 w4 w5:World} (h1:Bw w wr) (h2:Bw wr w2) (h4:w3.heap.size<=w4.heap.size) (h3:w2.heap.size<=w3.heap.size) (h5:Bw w4 w5):w.heap.size<=w5.heap.size+1:=by
 have:=h1.size;have:=h2.size;have:=h5.size;omega
theorem Qqm [LT ZK] {w:World} {ms:List Q01} {k mb i j g N c:Nat} {all:List Q01} {m mj:Q01} {wc w8:World} {b:Bool} {e:Int} {al:OA} {ll cl:Nat} {L:LN} (F0:i<ms.length) (hN:N<=i+1) (A1:Q2f w.heap.size wc (some ⟨g,0,none⟩) N c all) (ZD:all[j]?=some mj)
 (M5:∀b e L,Q2m b e L=Q2m mj.neg mj.exp mj.ws+Q2m m.neg m.exp m.ws->(all.set j ⟨b,e,L,mj.es⟩).map Q01.term=Qak ((ms.take (i+1)).map Q01.term)) (XG:∀m∈all,Qw1 k (69632+64*(i:Int)) m) (VP:Q4t wc mb N (Q3m all)) (hb:Bw w wc)
 (hw8:WordsIn w8 al ll cl L) (A9:Q2m b e L=Q2m mj.neg mj.exp mj.ws+Q2m m.neg m.exp m.ws) (hl8: -65536<=e) (hh8:e<=65536) (ht8:64*(ll:Int)+e<=69632+64*(i:Int)+64) (G5:Bw wc w8):
 Qql w ms k mb (.slice (some ⟨g,0,none⟩) N c) (.int .i64 ((i:Int)+1)) (((w8.setCell ⟨g,j*4,none⟩ (.bool b)).setCell ⟨g,j*4+1,none⟩ (.int .i64 e)).setCell ⟨g,j*4+2,none⟩ (.slice al ll cl)):=by
 have hg:=(A1.lt rfl).1;have QB:=A1.step G5;have hp8:=VP.below G5;refine ⟨i+1,_,N,c,_,rfl,congrArg (Value.int .i64) (by omega),F0,hN,QB.put ZD hw8,M5 b e L A9,fun m' B8=>?_,?_,(((Below.next0 hb G5).setCell (p:=⟨g,j*4,none⟩) hg _).setCell (p:=⟨g,j*4+1,none⟩) hg _).setCell (p:=⟨g,j*4+2,none⟩) hg _⟩
 ·rcases Xam B8 with h1|rfl
  ·obtain ⟨a1,a2,a3,a4⟩:=XG m' h1;exact ⟨a1,a2,a3,by omega⟩
  ·have hl:=hw8.len;exact ⟨(XG mj (Ug ZD)).1,hl8,hh8,by show 64*(L.length:Int)+e<=_;omega⟩
 ·rw[Qqk (m':=⟨b,e,L,mj.es⟩) ZD rfl];have C1:mb≠g:=fun e=>hp8.ne QB rfl e.symm;exact hp8.keep ((UX _ _ _ _ C1).trans ((UX _ _ _ _ C1).trans (UX _ _ _ _ C1)))
theorem Qlo (l:List Q0m):(Qak l).Perm (Q23 l):=by
 have h1:(Qak l).Nodup:=((Qp2 l).1.imp fun {p q} h e=>h (by rw[e]));have h2:(Q23 l).Nodup:=((Q6l l).1.once.imp fun {p q} h e=>h (by rw[e]));exact (List.perm_ext_iff_of_nodup h1 h2).2 fun p=>Qev l p
theorem Qhn {l:List Q0m} {all:List Q01} (h:all.map Q01.term=Qak l) (hf:∀m∈all,Q6i m.term.1):¬(Q23 l).any (fun p=> !Qau p.1)=true:=by
 intro ha;obtain ⟨p,hp,U3⟩:=Xba.1 ha;have h1:=(Qev l p).2 hp;rw[<-h] at h1;obtain ⟨m,hm,rfl⟩:=TE.1 h1;rw[(Q3w _).2 (hf m hm)] at U3;cases U3
theorem Qqn {l:List Q0m} {all outs:List Q01} (h:all.map Q01.term=Qak l) (ho:outs.map Q01.term=(all.map Q01.term).filter (fun p=>decide (p.1≠0))) (hf:∀m∈all,Q6i m.term.1) (KX:24<outs.length):Q41 l=.error 6:=by
 have hl:outs.length=((Q23 l).filter fun p=>decide (p.1≠0)).length:=by
  rw[<-UE (f:=Q01.term),ho,h];exact ((Qlo l).filter _).length_eq
 unfold Q41;rw[Uq (Qhn h hf),Uu (by rw[<-hl];exact KX)]
def Qxt [LT ZK] (wl:World) (all:List Q01) (k:Nat) (s12 s72:Value) (wx:World):Prop:=
 ∃(q:Nat) (a:OA) (M c:Nat) (outs:List Q01),s12=.slice a M c/\s72=.int .i64 (q:Int)/\q<=all.length/\M<=q/\Q2f wl.heap.size wx a M c outs/\
  outs.map Q01.term=((all.take q).map Q01.term).filter (fun p=>decide (p.1≠0))/\(∀m∈outs,OkM k m)/\(∀m∈all.take q,Q6i m.term.1)/\Bw wl wx
theorem Qho [LT ZK] (a:OA) (n c:Nat) (ms:List Q01) (k:Nat) (w:World) (h:Q0k w a n c ms) (X1:∀m∈ms,Qqb k m) (S3:1<=k) (hk:k<=4) (hn:n<=600) (hT:Q3r w):
 Calls Tryz.prog 133 #[.slice a n c,.int .i64 (k:Int)] w (Q39 w k (Q41 (ms.map Q01.term))):=by
 obtain ⟨i0,S2,E2,O1,Y1⟩:=Q0z Q9k;have P2:=h.1;subst P2;obtain ⟨X,hX⟩:∃X,Q41 (ms.map Q01.term)=X:=⟨_,rfl⟩;rw[hX];have C0:Bw w (w.alloc (.cells #[.int .i64 (k:Int)] 3)):=Ba;have hkb:Qvz (w.alloc (.cells #[.int .i64 (k:Int)] 3)) w.heap.size k:=⟨by rw[UL _ _ _ _ _ _ (Up _ _)];rfl,Q0o _ _⟩;have hkc:=hkb.cell;have hhas:=Qjx a ms.length c ms w.heap.size k _ (h.step C0) X1 hk hkb;have hk1':¬(k:Int)<1:=by omega
 have hk4':¬(4:Int)<(k:Int):=by omega
 have H:=Xh9 h X1 S3 hk hn hT hX C0 hhas;have HI:=Xh4 S2 E2 O1 Y1;have E3:=Uj h.2.1 h.2.2.1;clear h X1 S3 hk hn hT hX C0 hhas hkb S2 E2 O1 Y1;have Yd:= @run_makeMap Tryz.prog
 go_enter Tryz.func133,Tryz.ntmps133
 go_wp2_with (go_at_call_of 184 a;refine (Xe8 H).mono ?_;rintro r w1 ⟨rfl,JY⟩;have I0:=Ua JY;clear JY)
 have hbm:Bw w (w1.alloc (.map #[] 0)):=by
  have h1:=Below.next0 (Xo7 H) I0.out;exact h1.alloc h1.size _
 have HB:=Ua hbm;clear hbm Yd
 go_loopw [7,31] (fun s7 s31 wr=>Qql w ms k w1.heap.size s7 s31 wr) (fun _ iv _=>ms.length-(intOf iv).toNat)
 case atStart=>
  exact ⟨0,none,0,0,[],rfl,rfl,Uv _,Ue _,Q2f.nil_ _ _,rfl,(fun m hm=>by cases hm),Q4t.made _,HB.out⟩
 case round=>
  obtain ⟨i,a1,N,c1,all,rfl,rfl,hi,hNi,A1,Jp,XG,VP,Z0⟩:=hrel
  by_cases F0:i<ms.length
  ·have G0:(i:Int)<(ms.length:Int):=(by omega);obtain ⟨m,hm⟩:∃m,ms[i]?=some m:=⟨_,Ub F0⟩;obtain ⟨b0,o0,rfl,Q0,J2⟩:∃b o,a=some ⟨b,o,none⟩/\b<wr.heap.size/\∀j m,ms[j]?=some m->Q74 wr b (o+j*4) m:=by
    rcases ((Xo0 H).step Z0).2.2.2 with h0|h0
    ·rw[h0] at F0;simp at F0
    ·exact h0
   obtain ⟨aw,lw,cw,ae,le,ce,k0,k1,k2,k3,hw,he,K5,Z3⟩:=J2 i m hm;have hfm:Qqb k m:=(Xo1 H) m (Ug hm);have XL:m.es.length=k:=hfm.1.1;have hes0:m.es≠[]:=fun e=>by rw[e] at XL;have:=(Xo2 H);simp at XL;omega
   have X4:∀x∈m.es,small x:=fun x hx=>he.rng.1 x hx;have hq:=Qyu X4;have hX:=Q50.new wr (.bool m.neg) (.int .i64 m.exp) (.slice aw lw cw) (.slice ae le ce) 98;have A2:Bw wr (wr.alloc (.cells #[.bool m.neg,.int .i64 m.exp,.slice aw lw cw,.slice ae le ce] 98)):=Ba;have O6:=Q0o wr (.cells #[.bool m.neg,.int .i64 m.exp,.slice aw lw cw,.slice ae le ce] 98);have VQ:=fun W (hW:Bw wr W)=>Qn7 m.neg m.exp aw lw cw ae le ce m.es W (he.step hW) (by have:=(Xo3 H);omega) hes0;obtain ⟨po,E8⟩:∃po,Q3m all (p4 m.es)=po:=⟨_,rfl⟩;have HPO:=Ua E8;clear E8;have HR:=Xh15 A1 Jp XG VP Z0 hm hw he hfm hq VQ hes0 hX A2 O6;obtain ⟨x0,x1,x2⟩:=hX.cc;have x3:=hX.c3;clear A1 Jp XG VP Z0 hm hw he hfm XL hes0 X4 hq hX A2 O6 VQ J2
   go_upto_if 43 with (go_at_call_of 186 aw;refine ((Xo10 HR) _ (Xo13 HR)).mono ?_;rintro r w2 ⟨rfl,D0⟩;(have JS:=((Xo3 HR).below (Xo13 HR)).below D0);(have hlk:=JS.look_ok (Xo9 HR));rw[HPO.out] at hlk;(have H2:=Xh2 D0 JS);clear D0 JS)
   have XC:=Below.next0 (Xo13 HR) (Xo0 H2);have QD:=(Xo0 HR).step XC;have Qp:=(Xo12 HR).step (Xo0 H2) (Xe14 HR);have Kd:=Xh3 XC QD Qp;have G1:N<=600:=(by have:=(Xo4 H);omega);have x5:=(Xo7 HR).len;have hle4:le<=4:=(by have:=(Xo8 HR).1.1;have:=(Xo3 H);omega);have WH:=Ua x5;obtain ⟨y0,y1,y2⟩:=Qp.cc;have y3:=Qp.c3;have y8:Qak ((ms.take (i+1)).map Q01.term)=Q5n (Qak ((ms.take i).map Q01.term)) m.term:=by
    rw[Tu,(Xo5 HR),Tq,Option.toList_some,List.map_singleton,Qgg]
   have HTK:=Ua y8;clear XC QD Qp x5 x0 x1 x2 x3 y8
   go_cut [7,10] (fun s7 s10 wx=>Qw2 w ms k w1.heap.size i wr.heap.size (.bool m.neg) (.int .i64 m.exp) aw lw cw (.slice ae le ce) m s7 s10 wx)
   case first=>
    cases po with
    |some j=>
     go_wp2_with fail
     go_meet;obtain ⟨mj,ZD,hpj⟩:=Qth HPO.out;have O0:∀m'∈all,m'.es.length=k:=fun m' B8=>((Xo2 HR) m' B8).1.1;have XL:=(Xo8 HR).1.1;have hej:mj.es=m.es:=Qv2 (O0 mj (Ug ZD)) XL (Xo3 H) hpj;refine ⟨a1,N,c1,all,j,mj,rfl,rfl,by omega,(Xo1 Kd),ZD,hej,fun b e L hv=>?_,(Xo2 HR),(Xe1 H2),Below.next0 (Xo4 HR) (Xo0 Kd),(Xe2 Kd),Uc (Xe14 HR) (Xo0 H2).size,(Xo6 HR).step (Xo0 Kd)⟩;have x7:=Qaa (Xo3 H) O0 XL;rw[HPO.out] at x7;rw[Qti,HTK.out,Qhm (j:=j) (q:=mj.term) (by rw[<-(Xo1 HR)];exact x7.symm) (by rw[<-(Xo1 HR),UI,ZD];rfl),<-(Xo1 HR)]
     congr 1
     show (Q2m b e L,mj.es)=(Q2m mj.neg mj.exp mj.ws+Q2m m.neg m.exp m.ws,mj.es)
     rw[hv]
    |none=>
     obtain ⟨S2,E2,O1,Y1⟩:=HI.out;have hof2:=(Xo10 HR) w2 (Xo0 Kd);have HOF:=Ua hof2;clear hof2 hlk
     go_wp2_with (first
      |(go_at_call_of 186 aw;refine HOF.out.mono ?_;rintro r w3 ⟨rfl,M0⟩;(have WA:=(Xe1 H2).below M0);(have YF:=(Xo1 Kd).step M0);(have KM:=(Xe2 Kd).step M0 (Uc (Xe14 HR) (Xo0 H2).size));obtain ⟨w4,R0,hp4,Yl⟩:=WA.store (Xo9 HR) (by omega) N;(have hs4:=Qnj (w0:=w) (Xo3 HR).lt (Uc (Xe14 HR) (Xo0 H2).size) M0 WA Yl YF KM (((Xo7 HR).step (Xo0 Kd)).step M0));(have hw4:=(((Xo6 HR).step (Xo0 Kd)).step M0).onBlock Yl.size w1.heap.size WA.cells (fun q h1 h2=>Yl.block q h1 (fun e=>h2 (by injection e))));(have HW4:=Ua hw4);clear hw4;(have z3:=hs4.2.1.c3);(have HW3:=Ua (Below.next0 (Below.next0 (Xo4 HR) (Xo0 Kd)) M0));(have Jv:=Xh4 hp4 hs4 Yl M0.size);clear WA YF KM M0 hp4 Yl hs4)
      |(go_at_call_of 187 le;refine (Qhd ae le ce m.es w4 (Xo1 Jv).2.2.1 (Xo11 HR) (by omega)).mono ?_;rintro r w5 ⟨g5,c5,rfl,Yk,P0⟩;(have Kl:=(Xo1 Jv).1.step P0);obtain ⟨xs5,hr5⟩:=Kl.row;obtain ⟨g6,c6,w6,U7,J5,G4,m9⟩:=Q16 (P:=Tryz.prog) NoU (w5.alloc (.cells #[.bool false,.int .i64 0,.slice none 0 0,.slice (some ⟨g5,0,none⟩) le c5] 98)) 42 42 98 i0 _ 4 64 Tryz.underlying42 S2 E2 O1 Y1 rfl Qb9 w.heap.size (by rw[Ur];exact (Qto (Xo4 HR) (Xo0 Kd) (Xo1 Jv).2.2.2.1 (Xe3 Jv) P0)) a1 N c1 xs5 (hr5.step (Ba)) w5.heap.size 1 1 [.bool false,.int .i64 0,.slice none 0 0,.slice (some ⟨g5,0,none⟩) le c5] rfl (Tz (cs:= #[.bool false,.int .i64 0,.slice none 0 0,.slice (some ⟨g5,0,none⟩) le c5]) (Up w5 _)) (by simp[Value.oneCell']) (by intro u hu;simp at hu;rcases hu with rfl|rfl|rfl|rfl <;> exact fun _=>by simp[nv]) (by decide) (by omega) (by decide) (by decide);(have H5:=Xh7 Kl hr5 Yk P0 J5 G4 m9);clear Kl hr5 Yk P0 J5 G4 m9)
      |(at_builtin;refine Q0d rfl (.tmp 50) (.tmp 55) 42 42 rfl _ _ rfl rfl _ _ U7 ?_))
     go_meet;have WE:w.heap.size<=w1.heap.size:=(Below.next0 (Xo7 H) I0.out).size;have Zp:Bw w w3:=⟨HW3.out.os,HW3.out.tape,HW3.out.output,HW3.out.size,HW3.out.block⟩;have hw4:Bw w w4:=(Xo1 Jv).2.2.2.2 WE Zp;have hw5:=Below.next0 hw4 (Xo3 H5);have Wp:∀x,a1=some x->x.block<w4.heap.size:=fun x hx=>((Xo1 Jv).1.lt hx).2;have YD:=(Xo2 H5).fresh;have hw6:Bw w w6:=by
      have h1:=hw5.alloc hw5.size (.cells #[.bool false,.int .i64 0,.slice none 0 0,.slice (some ⟨g5,0,none⟩) le c5] 98);exact h1.trans ⟨(Xo5 H5).os,(Xo5 H5).tape,(Xo5 H5).output,(Xo5 H5).size,fun q hq=>(Xo5 H5).block q (Uc hq h1.size) (fun e=>by
       cases a1 with
       |none=>simp at e
       |some y=>simp only[UG,Un] at e;have:=((Xo0 H5).lt rfl).1;omega)⟩
     have VU:=(Xo0 H5).push (Xo1 H5) (o:=.cells #[.bool false,.int .i64 0,.slice none 0 0,.slice (some ⟨g5,0,none⟩) le c5] 98) (Xo5 H5) (Xe6 H5) (m:=⟨false,0,[],m.es⟩) (aw:=none) (lw:=0) (cw:=0) (be:=g5) (oe:=0) (le:=le) (ce:=c5) (Xo4 H5) rfl (Q44.nil_ w5 w5).toWordsIn ((Xo2 H5).ints (fun x hx=>(Xo7 HR).rng.1 x hx)) YD.2 (fun x hx e=>by have:=Wp x hx;omega);have O0:∀m'∈all,m'.es.length=k:=fun m' B8=>((Xo2 HR) m' B8).1.1;have XL:=(Xo8 HR).1.1;have hN:all.length=N:=(Xo0 HR).len;refine ⟨some ⟨g6,0,none⟩,N+1,c6,all++[⟨false,0,[],m.es⟩],N,⟨false,0,[],m.es⟩,rfl,rfl,by omega,VU,?_,rfl,fun b e L hv=>?_,fun m' B8=>?_,?_,hw6,?_,?_,?_⟩
     ·rw[Tg (by omega),hN,Nat.sub_self];rfl
     ·have x7:=Qaa (Xo3 H) O0 XL;rw[HPO.out] at x7;rw[HTK.out,Qlm (by rw[<-(Xo1 HR)];exact x7.symm),<-(Xo1 HR),List.set_append_right _ _ (by omega),hN,Nat.sub_self]
      show (all++[(⟨b,e,L,m.es⟩:Q01)]).map Q01.term=_
      rw[Tq]
      congr 1
      show [(Q2m b e L,m.es)]=[(Q2m m.neg m.exp m.ws,m.es)]
      rw[hv,Qsh,Dyadic.zero_add]
     ·rcases Tl.1 B8 with h1|h1
      ·exact (Xo2 HR) m' h1
      ·rw[Uy] at h1;subst h1;exact ⟨(Xo8 HR).1,by simp,by simp,by simp;omega⟩
     ·rw[Qnh (m:=⟨false,0,[],m.es⟩) hN HPO.out];have h5:=(Xo0 Jv).below (Xo3 H5);refine h5.keep (((Xo5 H5).block _ (by rw[Ur];exact Nat.lt_succ_of_lt h5.lt) (fun e=>?_)).trans (((Ud w5.heap.size w5).alloc (Ue _) _).block _ h5.lt));cases a1 with
      |none=>simp at e
      |some y=>simp only[UG,Un] at e;exact h5.ne (Xo0 H5) rfl e.symm
     ·have h9:wr.heap.size<w4.heap.size:=(by have h1:=(Xe14 HR);have h2:=(Xo0 H2).size;have h3:=(Xe3 Jv);have h4:=(Xo1 Jv).2.2.2.1;omega);have QT:=(Xo1 Jv).2.1.step (Xo3 H5) h9;have h95:=Uc h9 (Xo3 H5).size;refine QT.onKept (((Xo5 H5).block _ (by rw[Ur];exact Nat.lt_succ_of_lt h95) (fun e=>?_)).trans (((Ud w5.heap.size w5).alloc (Ue _) _).block _ h95));cases a1 with
      |none=>simp at e
      |some y=>simp only[UG,Un] at e;have:=((Xo0 HR).lt rfl).2;omega
     ·have h1:=(Xe14 HR);have h2:=(Xo0 H2).size;have h3:=(Xe3 Jv);have h4:=(Xo1 Jv).2.2.2.1;have h5:=(Xo3 H5).size;have h6:=(Xo5 H5).size;rw[Ur] at h6;omega
     ·have h5:=HW4.out.step (Xo3 H5);exact h5.turn ((Xo1 H5).off h5) ((Q0l.of_below (Ba) _).trans0 (Q0l.of_grown (Xo5 H5) fun r hr _=>by
       cases a1 with
       |none=>simp at hr
       |some y=>simp only[UG,Un] at hr;exact ⟨y,rfl,hr⟩)) (fun _ h=>h)
   case rest=>
    obtain ⟨a2,N2,c2,all2,j,mj,rfl,rfl,XE,QD,ZD,hej,M5,Kx,YK,D0,hX9,WZ,hw9⟩:=hcut;obtain ⟨g,rfl,awj,lwj,cwj,bej,oej,lej,cej,q0,q1,q2,q3,hwj,Vv,hbj1,hbj2⟩:=QD.ent j mj ZD;have hjN:j<N2:=(by rw[<-QD.len];exact (Uh.1 ZD).1);have hjN':(j:Int)<(N2:Int):=(by omega);have hj0:(0:Int)<=(j:Int):=(by omega);obtain ⟨P3,x6,I7,I3⟩:=Kx mj (Ug ZD);have QS:=Q31 (Xo8 HR).2 (Xo6 HR);have hlj:=hwj.len;have hi6:i<600:=(by have:=(Xo4 H);omega);have N6:=Qh7 mj.neg mj.exp awj lwj cwj mj.ws m.neg m.exp aw lw cw m.ws wc.drew hwj.drew hw9.drew (by omega) (by omega) (by omega) (by omega) (by omega) (by omega) (69632+64*(i:Int)) (-65536) 65536 (by omega) (by omega) (by omega) (by omega) (by omega) (by omega);obtain ⟨g0,g1,g2⟩:=hX9.cc;have HM:=Xh11 XE QD ZD hej M5 Kx YK D0 hX9 WZ N6;clear XE QD ZD hej M5 Kx YK D0 hX9 WZ hw9 N6 hwj Vv P3 x6 I7 I3 QS hlj y0 y1 y2 y3 hlk;have q0d:wc.drew.cell? ⟨g,j*4,none⟩=some (.bool mj.neg):=q0;have q1d:wc.drew.cell? ⟨g,j*4+1,none⟩=some (.int .i64 mj.exp):=q1;have q2d:wc.drew.cell? ⟨g,j*4+2,none⟩=some (.slice awj lwj cwj):=q2;have g0d:wc.drew.cell? ⟨wr.heap.size,0,none⟩=some (.bool m.neg):=g0;have g1d:wc.drew.cell? ⟨wr.heap.size,1,none⟩=some (.int .i64 m.exp):=g1;have g2d:wc.drew.cell? ⟨wr.heap.size,2,none⟩=some (.slice aw lw cw):=g2;have hjt:((j:Int)).toNat=j:=by omega
    go_upto_region 13 with fail
    go_region_law (
     refine Q9e (by rfl) 188 #[.agg #[.bool mj.neg,.int .i64 mj.exp,.slice awj lwj cwj],.agg #[.bool m.neg,.int .i64 m.exp,.slice aw lw cw]] (by simp[go_sem]) ?_;refine (Xe10 HM).mono ?_;rintro r w8 ⟨b,e,al,ll,cl,L,rfl,hw8,A9,hl8,hh8,ht8,Xc⟩;refine ⟨_,rfl,?_⟩;have G5:Bw wc w8:=⟨Xc.os,Xc.tape,Xc.output,Xc.size,Xc.block⟩;have ZP:g<wc.heap.size:=((Xo1 HM).lt rfl).2;have j0:=(G5.cell (p:=⟨g,j*4,none⟩) ZP).trans q0;have j1:=(G5.cell (p:=⟨g,j*4+1,none⟩) ZP).trans q1;have j2:=(G5.cell (p:=⟨g,j*4+2,none⟩) ZP).trans q2;have j6:=Qni (Xo1 HM);have i0':=(G5.frozen (p:=⟨g,j*4,none⟩) ZP).trans (j6 _);have i1':=(G5.frozen (p:=⟨g,j*4+1,none⟩) ZP).trans (j6 _);have i2':=(G5.frozen (p:=⟨g,j*4+2,none⟩) ZP).trans (j6 _);have n1:(w8.setCell ⟨g,j*4,none⟩ (.bool b)).cell? ⟨g,j*4+1,none⟩=some (.int .i64 mj.exp):=(Uf _ _ _ _ (by simp)).trans j1;have n2:((w8.setCell ⟨g,j*4,none⟩ (.bool b)).setCell ⟨g,j*4+1,none⟩ (.int .i64 e)).cell? ⟨g,j*4+2,none⟩=some (.slice awj lwj cwj):=(Uf _ _ _ _ (by simp)).trans ((Uf _ _ _ _ (by simp)).trans j2);have H8:=Xh6 hw8 A9 hl8 hh8 ht8 G5;clear hw8 A9 hl8 hh8 ht8 G5 Xc ZP j6)
    all_goals go_wp2_with fail
    all_goals exact ⟨Qqm F0 (Xo0 HM) (Xo1 HM) (Xo2 HM) (Xo4 HM) (Xo5 HM) (Xo6 HM) (Xo7 HM) (Xo0 H8) (Xo1 H8) (Xo2 H8) (Xo3 H8) (Xo4 H8) (Xe5 H8),by simp only[intOf];omega⟩
  ·have G0:¬((i:Int)<(ms.length:Int)):=(by omega);have p8:i=ms.length:=(by omega);rw[p8,Tw] at Jp;have G1:N<=600:=(by have:=(Xo4 H);omega);have J1:N<=9223372036854775807:=(by omega);have HL:=Xh5 A1 Jp XG Z0 p8;clear A1 Jp XG VP Z0 p8
   go_wp2_with fail
   rename World=>wl
   go_loopw [12,72] (fun s12 s72 wx=>Qxt wl all k s12 s72 wx) (fun _ iv _=>N-(intOf iv).toNat)
   case atStart=>
    exact ⟨0,none,0,0,[],rfl,rfl,Uv _,Uv _,Q2f.nil_ _ _,rfl,(fun m hm=>by cases hm),(fun m hm=>by cases hm),Ud _ _⟩
   case round=>
    obtain ⟨q,a3,M,c3,outs,rfl,rfl,hq,hM,XT,ZR,Wh,K3,KA⟩:=hrel
    by_cases Ya:q<N
    ·have hql':(q:Int)<(N:Int):=(by omega);obtain ⟨m,hm⟩:∃m,all[q]?=some m:=⟨_,Ub (by rw[(Xo0 HL).len];exact Ya)⟩;have Ys:=(Xo0 HL).step KA;obtain ⟨g,rfl,aw,lw,cw,be,oe,le,ce,q0,q1,q2,q3,hw,he,C0,D0⟩:=Ys.ent q m hm;obtain ⟨P3,x6,I7,I3⟩:=(Xo2 HL) m (Ug hm);have Xs:=hw.len;have hi6:i<=600:=(by have:=(Xo4 H);omega);have hX:=Q50.new wr (.bool m.neg) (.int .i64 m.exp) (.slice aw lw cw) (.slice (some ⟨be,oe,none⟩) le ce) 98;have A2:Bw wr (wr.alloc (.cells #[.bool m.neg,.int .i64 m.exp,.slice aw lw cw,.slice (some ⟨be,oe,none⟩) le ce] 98)):=Ba;have O6:=Q0o wr (.cells #[.bool m.neg,.int .i64 m.exp,.slice aw lw cw,.slice (some ⟨be,oe,none⟩) le ce] 98);have X8:=((Xo5 H).step ((Xo3 HL))).step KA;have j4:=Q6f m.neg aw lw cw m.ws m.exp _ (hw.step A2) (X8.step A2) (by omega) (by omega) (by omega);have HQ:=Xh13 XT ZR Wh K3 KA hm hw he P3 hX A2 O6 j4;obtain ⟨x0,x1,x2⟩:=hX.cc;have x3:=hX.c3;have X7:=(Xo0 HL).ent q m hm;clear XT ZR Wh K3 KA hm hw he P3 hX A2 O6 j4 Ys X8 x6 I7 I3
     go_upto_if 90 with (go_at_call_of 165 (Value.bool m.neg);refine (Xe12 HQ).mono ?_;rintro r w5 ⟨n',e',a',l',c',L,er,rfl,Z7,Je,P0⟩;have H5:=Xh3 (Qb3 Z7) Je P0;clear Z7 Je P0)
     have hm:=(Xo5 HQ);have Xn:g<wl.heap.size:=((Xo0 HL).lt rfl).2;have X5:be<wl.heap.size:=by
      obtain ⟨g2,e2,aw2,lw2,cw2,be2,oe2,le2,ce2,_,_,_,p3,_,_,_,p7⟩:=X7;injection e2 with e2;injection e2 with e2;subst e2;have h1:=((Xo4 HQ).cell (p:=⟨g,q*4+3,none⟩) Xn).trans p3;rw[q3] at h1;injection h1 with h1;injection h1 with h1;injection h1 with h1;injection h1 with h1;omega
     have i4:((all.take (q+1)).map Q01.term).filter (fun p=>decide (p.1≠0))=((all.take q).map Q01.term).filter (fun p=>decide (p.1≠0))++(if m.term.1=0 then [] else [m.term]):=by
      rw[Tu,hm,Tq,List.filter_append]
      congr 1
      show [m.term].filter _=_
      rw[List.filter_cons]
      by_cases h0:m.term.1=0
      ·rw[Uu h0,Uq (by simpa using h0)];rfl
      ·rw[Uq h0,Uu (by simpa using h0)];rfl
     have Qd:∀m'∈all.take (q+1),m'∈all.take q∨m'=m:=fun m' h'=>by
      rw[Tu,hm] at h';simpa using h'
     have hbw5:=Below.next0 (Xo10 HQ) (Xe2 H5);have hb5l:=Below.next0 (Xo4 HQ) hbw5;have A4:=Xh5 X5 i4 Qd hbw5 hb5l;have QT:=(Xo9 HQ).step (Xe2 H5) (Xo11 HQ);have hN5:=Q03.new w5 (.bool n') (.int .i64 e') (.slice a' l' c') 26;have hal5:Bw w5 (w5.alloc (.cells #[.bool n',.int .i64 e',.slice a' l' c'] 26)):=Ba;have hX6:=QT.step hal5 (Uc (Xo11 HQ) (Xe2 H5).size);have u3:=hX6.c3;obtain ⟨t0,t1,t2⟩:=hN5.cc;have HA5:=Ua hal5;clear QT hN5 hX6 hal5 X7 X5 i4 Qd hbw5 hb5l hm x0 x1 x2 x3;rcases (Xo0 H5) with ⟨Kk,rfl,K1,N0⟩|⟨hnf,rfl,_⟩
     ·have Qn:=(Xo1 H5).len;have Yo:∀m'∈all.take (q+1),Q6i m'.term.1:=fun m' h'=>((Xo2 A4) m' h').elim (fun h1=>(Xo3 HQ) m' h1) (fun h1=>by subst h1;exact Kk);have HV:=Xh4 Kk K1 N0 Yo;clear Kk K1 N0 Yo
      by_cases Jd:L=[]
      ·have O2:¬((0:Int)<(l':Int)):=(by rw[<-Qn,Jd];simp);have h0:m.term.1=0:=by
        show Q2m m.neg m.exp m.ws=0
        have e0:Q2m n' e' L=Q2m m.neg m.exp m.ws:=(Xo2 HV);rw[<-e0,Jd];exact (Q45 (by rw[<-Jd];exact (Xo1 HV)) (fun x hx=>by cases hx)).2 rfl
       have H0:=Ua h0;clear h0 Jd Qn
       go_wp2_with fail
       refine ⟨⟨q+1,a3,M,c3,outs,rfl,congrArg (Value.int .i64) (by omega),by have:=(Xo0 HL).len;omega,by omega,(Xo0 HQ).step (Below.next0 (Xo3 A4) HA5.out),?_,(Xo2 HQ),(Xe3 HV),Below.next0 (Xe4 A4) HA5.out⟩,by simp only[intOf];omega⟩;rw[(Xo1 A4),Uu H0.out,Xao];exact (Xo1 HQ)
      ·have O2:(0:Int)<(l':Int):=by
        rw[<-Qn];have:=List.length_pos_iff.2 Jd;omega
       obtain ⟨S2,E2,O1,Y1⟩:=HI.out;have XH:=(Xo0 HQ).step (Below.next0 (Xo3 A4) HA5.out);obtain ⟨xs6,hr6⟩:=XH.row;have hMM:M<=600:=(by omega);have hB6:wl.heap.size<=((w5.alloc (.cells #[.bool n',.int .i64 e',.slice a' l' c'] 26)).alloc (.cells #[.bool n',.int .i64 e',.slice a' l' c',.slice (some ⟨be,oe,none⟩) le ce] 98)).heap.size:=by
        have:=(Xe4 A4).size;rw[Ur,Ur];omega
       obtain ⟨g6,c6,w6,U7,J5,G4,m9⟩:=Q16 (P:=Tryz.prog) NoU ((w5.alloc (.cells #[.bool n',.int .i64 e',.slice a' l' c'] 26)).alloc (.cells #[.bool n',.int .i64 e',.slice a' l' c',.slice (some ⟨be,oe,none⟩) le ce] 98)) 42 42 98 i0 _ 4 64 Tryz.underlying42 S2 E2 O1 Y1 rfl Qb9 wl.heap.size hB6 a3 M c3 xs6 (hr6.step (Ba)) (w5.alloc (.cells #[.bool n',.int .i64 e',.slice a' l' c'] 26)).heap.size 1 1 [.bool n',.int .i64 e',.slice a' l' c',.slice (some ⟨be,oe,none⟩) le ce] rfl (Tz (cs:= #[.bool n',.int .i64 e',.slice a' l' c',.slice (some ⟨be,oe,none⟩) le ce]) (Up _ _)) (by simp[Value.oneCell']) (by intro u hu;simp at hu;rcases hu with rfl|rfl|rfl|rfl <;> exact fun _=>by simp[nv]) (by decide) (by omega) (by decide) (by decide);rw[Ur w5] at U7;have H6:=Xh6 XH hr6 J5 G4 m9 Jd;clear XH hr6 J5 G4 m9 hB6 Jd Qn S2 E2 O1 Y1
       go_wp2_with (at_builtin;refine Q0d rfl (.tmp 96) (.tmp 101) 42 42 rfl _ _ rfl rfl _ _ U7 ?_)
       have hw6:=(Xo1 H5).toWordsIn.step HA5.out;have he6:=(Xo7 HQ).step (Below.next0 (Xo3 A4) HA5.out);have VU:=(Xo0 H6).push (Xo1 H6) (o:=.cells #[.bool n',.int .i64 e',.slice a' l' c',.slice (some ⟨be,oe,none⟩) le ce] 98) (Xo3 H6) (Xo4 H6) (m:=⟨n',e',L,m.es⟩) (Xo2 H6) rfl hw6 he6 (by rw[Ur];have:=(Xo0 A4);have:=(Xe4 A4).size;omega) (fun x hx e=>by have:=((Xo0 H6).lt hx).1;have:=(Xo0 A4);omega);have hbw6:Bw wl w6:=by
        have h1:=(Below.next0 (Xe4 A4) HA5.out);have h2:=h1.alloc h1.size (.cells #[.bool n',.int .i64 e',.slice a' l' c',.slice (some ⟨be,oe,none⟩) le ce] 98);exact h2.trans ⟨(Xo3 H6).os,(Xo3 H6).tape,(Xo3 H6).output,(Xo3 H6).size,fun z hz=>(Xo3 H6).block z (Uc hz h2.size) (fun e=>by
         cases a3 with
         |none=>simp at e
         |some y=>simp only[UG,Un] at e;have:=((Xo0 H6).lt rfl).1;omega)⟩
       have hv:Q2m n' e' L=m.term.1:=(Xo2 HV);have C1:m.term.1≠0:=fun e0=>(Xe5 H6) ((Q45 (Xo1 HV) hw6.low).1 (hv.trans e0));refine ⟨⟨q+1,_,M+1,c6,_,rfl,congrArg (Value.int .i64) (by omega),by have:=(Xo0 HL).len;omega,by omega,VU,?_,fun m' B8=>?_,(Xe3 HV),hbw6⟩,by simp only[intOf];omega⟩
       ·rw[(Xo1 A4),Uq C1,Tq,(Xo1 HQ)]
        congr 1
        show [(Q2m n' e' L,m.es)]=[m.term]
        rw[hv];rfl
       ·rcases Tl.1 B8 with h1|h1
        ·exact (Xo2 HQ) m' h1
        ·rw[Uy] at h1;subst h1;exact ⟨⟨(Xo8 HQ),(Xo1 HV)⟩,(Xe5 H6)⟩
     ·have Qp:X=.error 2:=by
       rw[<-(Xo6 H)];have S9:m.term∈Qak (ms.map Q01.term):=(by rw[<-(Xo1 HL)];exact TE.2 ⟨m,Ug (Xo5 HQ),rfl⟩);unfold Q41;rw[Uu];rw[Xba];refine ⟨m.term,(Qev _ _).1 S9,?_⟩;have:Qau m.term.1=false:=(Ql1 _).2 hnf;rw[this];rfl
      have HX:=Ua Qp;clear Qp hnf
      go_wp2_with fail
      exact ⟨rfl,.tuple #[.slice none 0 0,.int .i64 2],by simp[results,go_sem],Q39.err HX.out (Below.next0 (Below.next0 (Xo3 HL) (Xe4 A4)) HA5.out)⟩
    ·have hql':¬((q:Int)<(N:Int)):=(by omega);have hqa:all.take q=all:=Uw (by have:=(Xo0 HL).len;omega);rw[hqa] at ZR K3;have HO:=Xh5 XT ZR Wh K3 KA;have hM6:M<=600:=(by have:=(Xo0 HL).len;omega);clear XT ZR Wh K3 KA hqa
     by_cases KX:24<M
     ·have Km:(24:Int)<(M:Int):=(by omega);have hX6:X=.error 6:=by
       rw[<-(Xo6 H)];exact Qqn (Xo1 HL) (Xo1 HO) (Xo3 HO) (by rw[(Xo0 HO).len];exact KX)
      have HX:=Ua hX6;clear hX6
      go_wp2_with fail
      exact ⟨rfl,.tuple #[.slice none 0 0,.int .i64 6],by simp[results,go_sem],Q39.err HX.out (Below.next0 (Xo3 HL) (Xe4 HO))⟩
     ·have Km:¬(24:Int)<(M:Int):=(by omega);have Yc:=Qtn (Xo0 HO) (by omega) ((Xo0 HO).exps (Xo2 HO));have HS:=Ua Yc;clear Yc
      go_wp2_with (go_at_call_of 189 (Value.slice a3 M c3);refine HS.out.mono ?_;rintro r w9 ⟨rfl,outs',KY,VK,hs9,N3⟩;have H9:=Xh4 KY VK hs9 N3;clear KY VK hs9 N3)
      have Q8:outs'.Pairwise (fun p q=>¬Q2w p.es q.es<0):=(Xo2 H9).imp fun {p q} h=>by omega
      obtain ⟨VR,Vk⟩:=Qw3 (Xo2 H) (Xo3 H) (Qlo _) (Qhn (Xo1 HL) (by have:=(Xo3 HO);exact this)) (Xo1 HL) (Xo1 HO) (by rw[(Xo0 HO).len];omega) (Xo1 H9) Q8 (Xo2 HO);refine ⟨rfl,.tuple #[.slice a3 M c3,.int .i64 0],by simp[results,go_sem],?_,?_⟩
      ·exact Below.next0 (Xo3 HL) ((Xe4 HO).trans (Xe3 H9))
      ·rw[<-(Xo6 H),VR];exact ⟨a3,M,c3,outs',rfl,(Xo0 H9),rfl,Vk⟩
theorem Qci {P:Program} (w:World) (t ty e:TypeId) (i:TypeInfo) (ht:P.underlying t=some (.slice e)) (hi:P.info? e=some i) (a b:OA) (n c d:Nat) (hn:n<=c):
 (Builtin.append_ #[t,t] ty #[.slice a n c,.slice b 0 d]).run P w=.ok (.slice a n c) w:=by
 have hf:(Builtin.firstCells i.size 0 (.slice b 0 d)).run P w=.ok #[] w:=by
  cases b with
  |none=>exact run_firstCells_none w i.size 0 0 d
  |some x=>exact run_firstCells_some (P:=P) w i.size 0 x 0 d [] (by simp) (fun j u h=>by simp at h)
 cases a with
 |none=>simp[Builtin.append_,run_underlying ht,sizeOf,typeInfo,hi,Builtin.lenOf,hf,hn]
 |some x=>simp[Builtin.append_,run_underlying ht,sizeOf,typeInfo,hi,Builtin.lenOf,hf,hn,storeCells]
theorem Q39.lower [LT ZK] {w0 w w':World} {n:Nat} {X:Except Int (List Q0m)} {r:Ending} (h:Q39 w n X r w') (hb:Bw w0 w):Q39 w0 n X r w':=⟨Below.next0 hb h.1,h.2⟩
theorem Q39.form [LT ZK] {w w':World} {n:Nat} {X:Except Int (List Q0m)} {r:Ending} (h:Q39 w n X r w'):∃a l c er,r=.returned (.tuple #[.slice a l c,.int .i64 er]):=by
 obtain ⟨_,h⟩:=h;cases X with
 |error e=>obtain ⟨a,l,c,rfl⟩:=h;exact ⟨a,l,c,e,rfl⟩
 |ok P=>obtain ⟨a,l,c,ms,rfl,_⟩:=h;exact ⟨a,l,c,0,rfl⟩
theorem Q38.plain [LT ZK] {w:World} {a:OA} {n c k:Nat} {ms:List Q01} (h:Q38 k ms) (hm:Q0k w a n c ms):Q92 k (ms.map Q01.term):=by
 obtain ⟨_,_,h3,h4,h5⟩:=h;refine ⟨?_,by rw[UE];exact h3,fun p hp=>?_⟩
 ·unfold Qbu;rw[List.pairwise_map];exact h5
 ·obtain ⟨m,Yd,rfl⟩:=TE.1 hp;obtain ⟨j,hj,rfl⟩:=Xaw Yd;rcases hm.2.2.2 with h0|⟨b,o,_,_,J2⟩
  ·rw[h0] at hj;simp at hj
  ·obtain ⟨_,_,_,_,_,_,_,_,_,_,hw,_⟩:=J2 j _ (Ub hj);obtain ⟨⟨q1,q2⟩,q3⟩:=h4 _ Yd;exact ⟨fun e=>q3 ((Q45 q2 hw.low).1 e),Q2h q2 hw.low,q1⟩
theorem Q2f.monos [LT ZK] {B n c:Nat} {w:World} {a:OA} {all:List Q01} (h:Q2f B w a n c all) (X1:∀m∈all,Q0a m.neg m.exp m.ws):Q0k w a n c all:=by
 obtain ⟨xs,hr⟩:=h.row;have Q4:=hr.1.cap;refine ⟨h.len,Q4.1,by have:=Q4.2;simpa[maxLen] using this,?_⟩;rcases hr.1.form with ⟨_,h0,_⟩|⟨g,cur,rfl,_,F0,_⟩
 ·exact .inl (TN (by rw[h.len];exact h0))
 ·refine .inr ⟨g,0,rfl,F0,fun j m hm=>?_⟩;obtain ⟨g',e,aw,lw,cw,be,oe,le,ce,q0,q1,q2,q3,hw,hi,_,_⟩:=h.ent j m hm;injection e with e;injection e with e;subst e;have hb:=Q7m (X1 m (Ug hm)) hw.low;rw[UH];exact ⟨aw,lw,cw,_,le,ce,q0,q1,q2,q3,hw,hi,by omega,by omega⟩
open DecM
theorem Qv4 {R:Nat} {w w':World} {g n c g2 c2:Nat} {acc:List (Bool × Ex)} {vs:LV} (h:Qcg R w w' (some ⟨g,0,none⟩) n c (some ⟨g2,0,none⟩) c2 acc vs) (h0:acc≠[]):Q3h (·<w.heap.size) w' (.sum acc) (.iface 178 (.agg #[.slice (some ⟨g,0,none⟩) n c,.slice (some ⟨g2,0,none⟩) n c2])):=by
 have F7:∀k,k<w.heap.size->fpX w.heap.size (some ⟨g,0,none⟩) (some ⟨g2,0,none⟩) k∨w'.heap.size<=k:=fun k hk=>.inl (.inl (Xbi hk));have hg:=Q2k h.ra rfl;have Q2:=Q2k h.rb rfl;have hc:=h.ra.cap;have I1:=h.rb.cap;have O5:w.heap.size+1<=g:=hg.1;have Z8:w.heap.size+1<=g2:=Q2.1;rw[Q3h];refine ⟨g,g2,c,c2,by rw[h.len],fun hk=>by omega,fun hk=>by omega,hg.2,Q2.2,by rw[h.len];exact hc.1,hc.2,by rw[h.len];exact I1.1,I1.2,h0,(h.nodes.more F7).rows 0 (fun j v hv=>?_) fun j t ht=>?_⟩
 ·obtain ⟨g',e,_,_,J0⟩:=h.ra.at_ hv;injection e with e;injection e with e;subst e;rw[UH];exact J0
 ·have hv:(acc.map fun z=>Value.bool z.1)[j]?=some (.bool t):=by
   rw[UI] at ht⊢;cases hz:acc[j]? with
   |none=>rw[hz] at ht;cases ht
   |some z=>rw[hz] at ht;injection ht with ht;rw[<-ht];rfl
  obtain ⟨g',e,_,_,J0⟩:=h.rb.at_ hv;injection e with e;injection e with e;subst e;rw[UH];exact J0
theorem Qlp (i:Nat) (hi:i<9) (w:World):Calls Tryz.prog 70 #[.int .i64 (i:Int)] w fun e w'=>e=.returned (.string ⟨(Q5z i).toArray⟩)/\w=w':=by
 have A7:IntKind.i64.wrap ((i:Int)+1)=(i:Int)+1:=by rw[UY];omega
 have i6:=Tryz.J0k (i+1) (by omega) w;rw[show ((i+1:Nat):Int)=(i:Int)+1 by omega] at i6;obtain ⟨c,hc⟩:∃c,Lib.decDigits (i+1)=[c]:=⟨_,Q1z (by omega)⟩;rw[hc] at i6;have H:=Xh2 i6 hc;clear i6 hc
 go_enter Tryz.func70,Tryz.ntmps70
 go_wp2_with fail
 refine (Xo0 H).mono ?_;rintro r w1 ⟨rfl,rfl⟩
 go_wp2_with fail
 go_ret;refine ⟨?_,rfl⟩;rw[Q5z,show dec (i+1)=[c] from (Xe1 H)];rfl
theorem Below.drewN' {B:Nat} {w w':World} (h:Below B w w') (k:Nat):Below B w (w'.drewN k):=⟨h.os,h.tape,h.output,h.size,h.block⟩
theorem Qqo:(Tryz.prog.info? 121).map (fun i=>(i.zero,i.size,i.bytes))=some (some (.agg #[.int .i64 0,.nilIface]),2,24):=by kernel_rfl
end Go.Proofs.YtidojbkhlenahaaGreatDoor
namespace Go.Proofs.YtidojbkhlenahaaGreatDoor
open Go.RowKit WordsM
theorem Q3h.step' {fp:Nat->Prop} {w w':World} {x:Ex} {v:Value} (h:Q3h fp w x v) (hb:Bw w w'):Q3h fp w' x v:=h.turn (Q0l.of_below hb (fun _=>False)) (fun _ h=>h.elim)
theorem Q3h.face {fp:Nat->Prop} {w:World} {x:Ex} {v:Value} (h:Q3h fp w x v):∃t u,v=.iface t u:=by
 cases x with
 |num c=>
  cases c with
  |none=>rw[Q3h] at h;obtain ⟨_,_,_,_,_,rfl⟩:=h;exact ⟨_,_,rfl⟩
  |some c=>rw[Q3h] at h;obtain ⟨_,_,_,_,_,_,rfl,_⟩:=h;exact ⟨_,_,rfl⟩
 |var i=>rw[Q3h] at h;exact ⟨_,_,h⟩
 |sum l=>rw[Q3h] at h;obtain ⟨_,_,_,_,rfl,_⟩:=h;exact ⟨_,_,rfl⟩
 |prod l=>rw[Q3h] at h;obtain ⟨_,_,rfl,_⟩:=h;exact ⟨_,_,rfl⟩
 |pow b k=>rw[Q3h] at h;obtain ⟨_,rfl,_⟩:=h;exact ⟨_,_,rfl⟩
def Qyv [LT ZK] (k:Nat) (x:Ex):Prop:=∀(v:Value) (w:World),Q3h (fun _=>False) w x v->Q3r w->Calls Tryz.prog 85 #[.agg #[.int .i64 (k:Int)],v] w (Q39 w k (Qj7 k x))
theorem Qtp [LT ZK] {W:World} {a:OA} {l c:Nat} {be:OA} {le ce:Nat} {m:Q01} (hw:WordsIn W a l c m.ws) (he:Q0p W be le ce m.es) (h1: -9223372036854775808<=m.exp) (h2:m.exp<=9223372036854775807):
 Q0k (W.alloc (.cells #[.bool m.neg,.int .i64 m.exp,.slice a l c,.slice be le ce] 98)) (some ⟨W.heap.size,0,none⟩) 1 1 [m]:=by
 have hb:Bw W (W.alloc (.cells #[.bool m.neg,.int .i64 m.exp,.slice a l c,.slice be le ce] 98)):=Ba;have hX:=Q50.new W (.bool m.neg) (.int .i64 m.exp) (.slice a l c) (.slice be le ce) 98;refine ⟨rfl,Ue _,by decide,.inr ⟨W.heap.size,0,rfl,Q0o _ _,fun j m' hm=>?_⟩⟩;cases j with
 |zero=>
  simp only[UO,Un] at hm;subst hm;exact ⟨a,l,c,be,le,ce,hX.c0,hX.c1,hX.c2,hX.c3,hw.step hb,he.step hb,h1,h2⟩
 |succ j=>simp at hm
theorem Qk0 (v:Value) (w:World):(Instr.typeAssert (.iface 174 v) 119 174 true).run Tryz.prog w=.ok (.tuple #[v,.bool true]) w:=by kernel_rfl
theorem Q9l (v:Value) (w:World):(Instr.typeAssert (.iface 174 v) 119 171 true).run Tryz.prog w=.ok (.tuple #[.agg #[.bool false,.int .i64 0,.slice none 0 0,.int .i64 0],.bool false]) w:=by kernel_rfl
theorem Qxu (v:Value) (w:World):(Instr.typeAssert (.iface 178 v) 119 178 true).run Tryz.prog w=.ok (.tuple #[v,.bool true]) w:=by kernel_rfl
theorem Qfk (v:Value) (w:World):(Instr.typeAssert (.iface 178 v) 119 171 true).run Tryz.prog w=.ok (.tuple #[.agg #[.bool false,.int .i64 0,.slice none 0 0,.int .i64 0],.bool false]) w:=by kernel_rfl
theorem Qcj (v:Value) (w:World):(Instr.typeAssert (.iface 178 v) 119 174 true).run Tryz.prog w=.ok (.tuple #[.agg #[.int .i64 0],.bool false]) w:=by kernel_rfl
theorem Qnk (v:Value) (w:World):(Instr.typeAssert (.iface 181 v) 119 181 true).run Tryz.prog w=.ok (.tuple #[v,.bool true]) w:=by kernel_rfl
theorem Qac (v:Value) (w:World):(Instr.typeAssert (.iface 181 v) 119 171 true).run Tryz.prog w=.ok (.tuple #[.agg #[.bool false,.int .i64 0,.slice none 0 0,.int .i64 0],.bool false]) w:=by kernel_rfl
theorem Q8o (v:Value) (w:World):(Instr.typeAssert (.iface 181 v) 119 174 true).run Tryz.prog w=.ok (.tuple #[.agg #[.int .i64 0],.bool false]) w:=by kernel_rfl
theorem Qdf (v:Value) (w:World):(Instr.typeAssert (.iface 181 v) 119 178 true).run Tryz.prog w=.ok (.tuple #[.agg #[.slice none 0 0,.slice none 0 0],.bool false]) w:=by kernel_rfl
theorem Qtq [LT ZK] {W:World} {k i:Nat} (hi:i<k) (hk:k<=4):Q0p (W.alloc (.cells ((Array.replicate k (nv .i64 0)).setIfInBounds i (.int .i64 1)) 3)) (some ⟨W.heap.size,0,none⟩) k k (Qav k i):=by
 refine ⟨by simp[Qav],Ue _,by omega,.new fun x hx=>?_,.inr ⟨W.heap.size,0,rfl,Q0o _ _,fun j x hx=>?_⟩⟩
 ·unfold Qav at hx;rcases Xam hx with h|rfl
  ·rw[Xae h];decide
  ·decide
 ·unfold Qav at hx;rw[UH,UL _ _ _ _ _ _ (Up _ _),<-Tr,Xav,Array.toList_replicate]
  by_cases e:i=j
  ·subst e;rw[TI (by simpa using hi)] at hx⊢;injection hx with hx;subst hx;rfl
  ·rw[Te e,TM] at hx⊢
   split at hx
   ·rename_i h;injection hx with hx;subst hx;rw[Uu h];rfl
   ·cases hx
theorem Qxv [LT ZK] (k i:Nat) (hi:i<k) (S3:1<=k) (ZU:k<=4):Qyv k (.var i):=by
 intro v w hx hT;rw[Q3h] at hx;subst hx;rw[Qj7];obtain ⟨X,hX⟩:∃X,Q41 [((1:Dyadic),Qav k i)]=X:=⟨_,rfl⟩;rw[hX];have H:=Xh2 hT hX;clear hT hX;have j4:=Xa2 (P:=Tryz.prog) 96 3 (.int .i64 0) 8 Tryz.underlying96 Qb7 rfl .i64 .i64 k (by omega) (by omega);rw[Q2n] at j4;have QE:(i:Int)<(k:Int):=by omega
 have h1:=Qk0;have h2:=Q9l
 go_enter Tryz.func85,Tryz.ntmps85
 obtain ⟨W2,i5⟩:∃W2,(w.alloc (.cells #[.int .i64 (k:Int)] 124)).alloc (.cells #[.int .i64 (i:Int)] 174)=W2:=⟨_,rfl⟩;have B5:(w.alloc (.cells #[.int .i64 (k:Int)] 124)).heap.size=w.heap.size+1:=Ur _ _;have D0:Bw w W2:=by rw[<-i5];exact (Ba).alloc (by rw[B5];omega) _
 have V8:W2.heap.size=w.heap.size+2:=by rw[<-i5,Ur,B5]
 have k0:W2.cell? ⟨w.heap.size,0,none⟩=some (.int .i64 (k:Int)):=by
  rw[<-i5,Xau _ _ _ (by rw[B5];exact Nat.lt_succ_self _),UL _ _ _ _ _ _ (Up _ _)];rfl
 have k1:W2.cell? ⟨w.heap.size+1,0,none⟩=some (.int .i64 (i:Int)):=by
  have hh:=Up (w.alloc (.cells #[.int .i64 (k:Int)] 124)) (.cells #[.int .i64 (i:Int)] 174);rw[B5,i5] at hh;rw[UL _ _ _ _ _ _ hh];rfl
 have O2:w.heap.size<W2.heap.size:=by omega
 have C6:w.heap.size+1<W2.heap.size:=by omega
 have z0:=(Xau W2 (.cells (Array.replicate k (nv .i64 0)) 3) _ O2).trans k0;have z1:=(Xau W2 (.cells (Array.replicate k (nv .i64 0)) 3) _ C6).trans k1;have hzn:=Up W2 (.cells (Array.replicate k (nv .i64 0)) 3);have z2:(W2.alloc (.cells (Array.replicate k (nv .i64 0)) 3)).cell? ⟨W2.heap.size,i,none⟩=some (.int .i64 0):=by
  rw[UL _ _ _ _ _ _ hzn];simp[hi,nv]
 have z3:(W2.alloc (.cells (Array.replicate k (nv .i64 0)) 3)).frozen? ⟨W2.heap.size,i,none⟩=false:=Tx _ _ _ _ _ hzn;have M0:Bw w (W2.alloc (.cells ((Array.replicate k (nv .i64 0)).setIfInBounds i (.int .i64 1)) 3)):=D0.alloc D0.size _;have he:=Qtq (W:=W2) hi ZU;have r0:(W2.alloc (.cells ((Array.replicate k (nv .i64 0)).setIfInBounds i (.int .i64 1)) 3)).cell? ⟨w.heap.size,0,none⟩=some (.int .i64 (k:Int)):=(Xau _ _ _ O2).trans k0;have Jo:w.heap.size<(W2.alloc (.cells ((Array.replicate k (nv .i64 0)).setIfInBounds i (.int .i64 1)) 3)).heap.size:=by rw[Ur];omega
 have hint:Calls Tryz.prog 113 #[.int .i64 1] (W2.alloc (.cells ((Array.replicate k (nv .i64 0)).setIfInBounds i (.int .i64 1)) 3)).drew _:=Qdy 1 _ (by decide) ((Xo0 H).step (Qsy M0));have HZ:=Xh4 V8 D0 O2 C6;have H3:=Xh4 M0 he Jo hint;clear B5 V8 D0 hzn O2 C6 M0 he Jo hint
 go_upto_region 11 with fail
 clear z0 z1 z2 z3 k0 k1;generalize E9:World.alloc _ _=W3 at r0 H3⊢;clear E9 i5;have r0d:W3.drew.cell? ⟨w.heap.size,0,none⟩=some (.int .i64 (k:Int)):=r0
 go_region_law (first
  |(refine Q9e (by rfl) 113 #[.int .i64 1] (by simp[go_sem]) ?_;refine (Xe3 H3).mono ?_;rintro r w4 ⟨n',e',a',l',c',L,rfl,K1,N0,Je,Xr⟩;refine ⟨_,rfl,?_⟩
    have Y2:Bw W3 w4:=⟨Xr.os,Xr.tape,Xr.output,Xr.size,Xr.block⟩;have s0:=(Y2.cell (p:=⟨w.heap.size,0,none⟩) (Xo2 H3)).trans r0;have P0:=Below.next0 (Xo0 H3) Y2;have QS:=Q31 K1 Je.toWordsIn;have Xj:=Qtp (m:=⟨n',e',L,Qav k i⟩) Je.toWordsIn ((Xo1 H3).step Y2) (by show _<=e';omega) (by show e'<=_;omega);have N4:=P0.alloc P0.size (.cells #[.bool n',.int .i64 e',.slice a' l' c',.slice (some ⟨W2.heap.size,0,none⟩) k k] 98);have Ww:=Qho _ 1 1 _ k _ Xj (fun m hm=>by rw[Uy] at hm;subst hm;exact ⟨Qe4 hi,K1⟩) S3 ZU (by omega) ((Xo0 H).step N4);have hXX:Q41 (List.map Q01.term [(⟨n',e',L,Qav k i⟩:Q01)])=X:=by
     rw[<-(Xe1 H)]
     show Q41 [(Q2m n' e' L,Qav k i)]=_
     rw[N0];rfl
    rw[hXX] at Ww;have s1:=(Xau w4 (.cells #[.bool n',.int .i64 e',.slice a' l' c',.slice (some ⟨W2.heap.size,0,none⟩) k k] 98) _ (Uz s0)).trans s0;have H4:=Xh2 Ww N4;clear K1 N0 Je Y2 Xr P0 QS Xj N4 Ww hXX)
  |(refine Q9e (by rfl) 133 #[.slice (some ⟨w4.heap.size,0,none⟩) 1 1,.int .i64 (k:Int)] (by simp[go_sem]) ?_;refine (Xo0 H4).mono ?_;rintro r w5 VR;obtain ⟨a5,l5,c5,er,rfl⟩:=VR.form;refine ⟨_,rfl,?_⟩;have H5:=Ua (VR.lower (Xe1 H4));clear VR))
 all_goals go_wp2_with fail
 all_goals exact ⟨rfl,.tuple #[.slice a5 l5 c5,.int .i64 er],by simp[results,go_sem],H5.out⟩
theorem Qqp:maxLen<=9223372036854775807:=by unfold maxLen;omega
theorem Qea:(Tryz.prog.info? 42).map (fun i=>(i.zero,i.size,i.bytes))=some (some (.slice none 0 0),1,24):=by kernel_rfl
def Sl (v:Value):Prop:=∃a n c,v=.slice a n c
theorem Q0k.kept [LT ZK] {w w':World} {a:OA} {n c:Nat} {ms:List Q01} (h:Q0k w a n c ms) (row:Option Nat) (hg:w.grownBy w' row) (hs:∀g,row=some g->∀o v,w.cell? ⟨g,o,none⟩=some v->Sl v):Q0k w' a n c ms:=by
 have hk:∀(b o:Nat) (v:Value),b<w.heap.size->w.cell? ⟨b,o,none⟩=some v->¬Sl v->w'.heap[b]?=w.heap[b]?:=fun b o v hb hc hn=>hg.block b hb (fun e=>hn (hs b e.symm o v hc));obtain ⟨h1,h2,h3,h4⟩:=h;refine ⟨h1,h2,h3,?_⟩;rcases h4 with h4|⟨b,o,h5,h6,h7⟩
 ·exact .inl h4
 ·refine .inr ⟨b,o,h5,Uc h6 hg.size,fun j m hm=>?_⟩;obtain ⟨aw,lw,cw,ae,le,ce,q0,q1,q2,q3,hw,hi,hx⟩:=h7 j m hm;have hb:=hk b _ _ h6 q0 (fun ⟨_,_,_,e⟩=>by cases e);have hc:∀o,w'.cell? ⟨b,o,none⟩=w.cell? ⟨b,o,none⟩:=fun o=>UK (a:=⟨b,o,none⟩) hb;refine ⟨aw,lw,cw,ae,le,ce,(hc _).trans q0,(hc _).trans q1,(hc _).trans q2,(hc _).trans q3,⟨hw.len,hw.cap,hw.most,hw.low,?_⟩,⟨hi.len,hi.cap,hi.most,hi.rng,?_⟩,hx⟩
  ·rcases hw.rd with h0|⟨bb,oo,e,C3,Y3⟩
   ·exact .inl h0
   ·exact .inr ⟨bb,oo,e,Uc C3 hg.size,fun i x hx=>(UK (a:=⟨bb,oo+i,none⟩) (hk bb _ _ C3 (Y3 i x hx) (fun ⟨_,_,_,e⟩=>by cases e))).trans (Y3 i x hx)⟩
  ·rcases hi.rd with h0|⟨bb,oo,e,C3,Y3⟩
   ·exact .inl h0
   ·exact .inr ⟨bb,oo,e,Uc C3 hg.size,fun i x hx=>(UK (a:=⟨bb,oo+i,none⟩) (hk bb _ _ C3 (Y3 i x hx) (fun ⟨_,_,_,e⟩=>by cases e))).trans (Y3 i x hx)⟩
theorem Q4c.sl {w:World} {B:Nat} {e:TypeId} {k n c:Nat} {a:OA} {xs:LV} (h:Q4c Sl w B e k a n c xs):∀g,a.map (·.block)=some g->∀o v,w.cell? ⟨g,o,none⟩=some v->Sl v:=by
 intro g hg o v hv;rcases h.1.form with ⟨h0,_⟩|⟨g',cur,rfl,_,_,hh,_⟩
 ·rw[h0] at hg;cases hg
 ·simp only[UG,Un] at hg;subst hg;rw[UL _ _ _ _ _ _ hh] at hv;exact h.2 g' cur _ _ rfl hh v (Array.mem_toList_iff.2 (Array.mem_of_getElem? hv))
end Go.Proofs.YtidojbkhlenahaaGreatDoor
namespace Go.Proofs.YtidojbkhlenahaaGreatDoor
open Go.RowKit Go.Shelf Go.Sort Go.Lib
theorem below_grow {w:World} (k:Nat) (os:Array Obj):Bw w (grow (w.drewN k) os):=
 ⟨rfl,rfl,rfl,by
   show w.heap.size<=(w.heap++os).size
   simp,fun g hg=>heap_grow_old w k os g hg⟩
theorem Qw4 (u:Nat) (Zi:u<18446744073709551616) (w:World) (t6:Lib.TabIs Tryz.prog w "internal/strconv.uint64pow10" .u64 Lib.pow10Tab):
 Calls Tryz.prog 160 #[.int .u64 (u:Int),.int .i64 10] w fun e w'=>e=.returned (.string ⟨(Lib.decDigits u).toArray⟩)/\Bw w w':=by
 by_cases hi:u<100
 ·have hiI:(u:Int)<100:=by omega
  have X4:=fun W=>Tryz.J06 u hi W
  go_enter Tryz.func160,Tryz.ntmps160
  go_wp2_with (refine (X4 _).mono ?_;rintro e w' ⟨rfl,rfl⟩)
  go_ret;exact ⟨rfl,Ud _ _⟩
 ·have hiI:¬(u:Int)<100:=by omega
  have Zr:1<=u:=by omega
  have hnd20:Lib.nDigits u<=20:=by have:=Lib.numDigits_eq u Zr Zi;split at this <;> omega
  have R4:Tryz.prog.arrayLen 202=24:=by kernel_rfl
  have hel:Tryz.prog.elem 202=5:=by kernel_rfl
  have hsl1:∀W,(Instr.sliceAt 202 (.pointer (some ⟨w.heap.size,0,none⟩)) none (some (.int .i64 (Lib.nDigits u:Int))) none).run Tryz.prog W=.ok (.slice (some ⟨w.heap.size,0,none⟩) (Lib.nDigits u) 24) W:=fun W=>by
   rw[run_sliceAt_array_h W 202 ⟨w.heap.size,0,none⟩ (by kernel_rfl) .i64 (Lib.nDigits u:Int) (by omega) (by rw[R4];omega)]
   go_simp
   try omega
  have hH0:=Lib.holds_zero0 w 202 (Lib.nDigits u) (by omega);have hfmt:=Tryz.J0c w.heap.size 0 24 u (Array.replicate (Lib.nDigits u) 0) (w.alloc (.cells Lib.zeros24 202)) hH0 (by rw[Array.size_replicate];exact Lib.lt_pow_nDigits u) Zi (by rw[Array.size_replicate];omega);rw[Array.size_replicate] at hfmt;have K1:=Tryz.J09 u Zr Zi (w.alloc (.cells Lib.zeros24 202)) (Lib.tabIs_alloc t6 _);have HH0:=Ua hH0;clear hH0 R4 hel
  go_enter Tryz.func160,Tryz.ntmps160
  go_wp2_with (first
   |(refine K1.mono ?_;rintro e w' ⟨rfl,rfl⟩)
   |(refine hfmt.mono ?_;rintro e w' ⟨rfl,k,v',dk,rfl,hF⟩;
     have JD:(convert 55 9 (.slice (some ⟨w.heap.size,0,none⟩) (Lib.nDigits u) 24)).run Tryz.prog ((putRow (fun (b:UInt8)=>Value.int .u8 (b.toNat:Int)) (w.alloc (.cells Lib.zeros24 202)) w.heap.size 0 dk).drewN k)=.ok (.string ⟨(Lib.decDigits u).toArray⟩) ((putRow (fun (b:UInt8)=>Value.int .u8 (b.toNat:Int)) (w.alloc (.cells Lib.zeros24 202)) w.heap.size 0 dk).drewN k):=by {
      have h:=run_convert_bytes_back (P:=Tryz.prog) ((putRow (fun (b:UInt8)=>Value.int .u8 (b.toNat:Int)) (w.alloc (.cells Lib.zeros24 202)) w.heap.size 0 dk).drewN k) 55 9 5 ⟨w.heap.size,0,none⟩ 24 (Lib.decDigits u) (by kernel_rfl) (by kernel_rfl) (by kernel_rfl) (fun j hj=>by
       rw[Lib.row_is_numeral hF j hj,Lib.add_plain,World.cell?_drewN];exact cell?_putRow (fun (b:UInt8)=>Value.int .u8 (b.toNat:Int)) _ w.heap.size 0 _ dk HH0.out (by rw[hF.size,Array.size_replicate]) j (by rw[hF.size];rw[Lib.decDigits_length] at hj;exact hj))
      rw[Lib.decDigits_length] at h;exact h };
     obtain ⟨os,eo⟩:=Lib.fin_at w (.cells Lib.zeros24 202) dk k 0;have HEO:=Xh2 eo hF;clear eo hF hfmt K1;generalize ((putRow (fun (b:UInt8)=>Value.int .u8 (b.toNat:Int)) (w.alloc (.cells Lib.zeros24 202)) w.heap.size 0 dk).drewN k)=W4 at*))
  go_ret;refine ⟨rfl,?_⟩;rw[(Xo0 HEO)];exact below_grow k os
theorem Qba (u:Nat) (Zi:u<18446744073709551616) (w:World) (t6:Lib.TabIs Tryz.prog w "internal/strconv.uint64pow10" .u64 Lib.pow10Tab):
 Calls Tryz.prog 110 #[.int .u64 (u:Int),.int .i64 10] w fun e w'=>e=.returned (.string ⟨(Lib.decDigits u).toArray⟩)/\Bw w w':=by
 have h:=Qw4 u Zi w t6
 go_enter Tryz.func110,Tryz.ntmps110
 go_wp2_with (refine h.mono ?_;rintro e w1 ⟨rfl,hb⟩;have HB:=Ua hb;clear hb)
 go_ret;exact ⟨rfl,HB.out⟩
end Go.Proofs.YtidojbkhlenahaaGreatDoor
namespace Go.Proofs.YtidojbkhlenahaaGreatDoor
open Go.RowKit
theorem Qaq:(Tryz.prog.info? 57).map (·.size)=some 2:=by kernel_rfl
theorem Qhp:liesAt Tryz.prog Tryz.prog.depth 57 (2 / Tryz.prog.cellsOf 57) 0 57 1=true:=by kernel_rfl
abbrev Q3n (B b:Nat) (p:Value) (l:LU) (w:World):Prop:=Lib.BuilderAt 57 5 B b p (Lib.byteCells l) w
theorem Qhq (b:Nat) (w:World) (h0:w.cell? ⟨b,0,none⟩=some (.pointer (some ⟨b,0,none⟩))):
 Calls Tryz.prog 65 #[.pointer (some ⟨b,0,none⟩)] w fun e w'=>e=.returned (.tuple #[])/\w=w':=by
 obtain ⟨j,hj,_⟩:=Option.map_eq_some_iff.1 Qaq
 go_enter Tryz.func65,Tryz.ntmps65
 go_wp2_with fail
 rw[Lib.run_neq_ptr_same w _ Tryz.underlying54 hj]
 go_wp2_with fail
 go_end0
 exact ⟨rfl,rfl⟩
theorem Qeb (b:Nat) (w:World) (h0:w.cell? ⟨b,0,none⟩=some (.pointer none)) (Qg:w.shape? b=some (57,2)) (JL:w.frozen? ⟨b,0,none⟩=false):
 Calls Tryz.prog 65 #[.pointer (some ⟨b,0,none⟩)] w fun e w'=>e=.returned (.tuple #[])/\w'=w.setCell ⟨b,0,none⟩ (.pointer (some ⟨b,0,none⟩)):=by
 obtain ⟨j,hj,hjs⟩:=Option.map_eq_some_iff.1 Qaq
 go_enter Tryz.func65,Tryz.ntmps65
 go_wp2_with fail
 rw[Lib.run_to_unsafe w ⟨b,0,none⟩ Tryz.underlying54 Tryz.underlying142 hj (by rw[hjs];decide) Qg (Nat.zero_lt_succ 1)];simp only[Result.andThen];rw[Oper.upon_value]
 go_wp2_with fail
 rw[run_callFunc_extern Tryz.func106 (by kernel_rfl) (by kernel_rfl) (by kernel_rfl) (e:=Extern.AbiNoEscape.same) (by kernel_rfl)];rw[Lib.run_noEscape];simp only[Result.andThen];rw[Oper.upon_value]
 go_wp2_with fail
 rw[Lib.run_from_unsafe w ⟨b,0,none⟩ Tryz.underlying142 Tryz.underlying54 hj Qg Qhp];simp only[Result.andThen];rw[Oper.upon_value]
 go_wp2_with fail
 go_end0
 exact ⟨rfl,rfl⟩
theorem Qtr (B b:Nat) (l:LU) (w:World) (h:Lib.IsBuilder 57 5 B b (Lib.byteCells l) w):
 Calls Tryz.prog 65 #[.pointer (some ⟨b,0,none⟩)] w fun e w'=>e=.returned (.tuple #[])/\Q3n B b (.pointer (some ⟨b,0,none⟩)) l w'/\Below B w w'/\w'.heap.size=w.heap.size:=by
 rcases h with h|h
 ·refine (Qeb b w h.cell0 h.shape h.frozen0).mono ?_;rintro e w' ⟨rfl,rfl⟩;exact ⟨rfl,h.used _,(Ud B w).setCell (p:=⟨b,0,none⟩) h.1 _,by simp⟩
 ·refine (Qhq b w h.cell0).mono ?_;rintro e w' ⟨rfl,rfl⟩;exact ⟨rfl,h,Ud B _,rfl⟩
theorem Q9m (a b:LU):Lib.byteCells (a++b)=Lib.byteCells a++Lib.byteCells b:=by simp[Lib.byteCells]
theorem Qhr (B b:Nat) (l t:LU) (w:World) (h:Lib.IsBuilder 57 5 B b (Lib.byteCells l) w) (O0:l.length+t.length<=140737488355328) (hBw:B<=w.heap.size):
 Calls Tryz.prog 35 #[.pointer (some ⟨b,0,none⟩),sv t] w fun e w'=>e=.returned (.tuple #[.int .i64 (t.length:Int),.nilIface])/\Q3n B b (.pointer (some ⟨b,0,none⟩)) (l++t) w'/\Below B w w':=by
 obtain ⟨i0,hi,E2,O1,Y1⟩:=Xbn Qog;have HI:=Ua h;clear h
 go_enter Tryz.func35,Tryz.ntmps35
 go_wp2_with (refine (Qtr B b l _ HI.out).mono ?_)
 rintro e w1 ⟨rfl,h1,C0,F2⟩;obtain ⟨hB,v,S5,J4,C1⟩:=h1;have Kr:B<=w1.heap.size:=by omega
 have HSZ:=Ua F2;clear F2;have c0:w1.cell? ⟨b,0,none⟩=some (.pointer (some ⟨b,0,none⟩)):=by rw[Lib.cell_of_heap S5];rfl
 have c1:w1.cell? ⟨b,1,none⟩=some v:=by rw[Lib.cell_of_heap S5];rfl
 have F0:b<w1.heap.size:=(Uo.1 S5).1;have HBK:=Ua S5;have F1:(Lib.byteCells l).length+(⟨t.toArray⟩:ByteArray).size<=140737488355328:=by rw[Lib.byteCells_length];exact O0
 have E3:(Lib.byteCells l).length+(⟨t.toArray⟩:ByteArray).size<=maxLen:=by unfold maxLen;omega
 clear S5
 go_wp2_with (at_builtin;refine Lib.wpList_append_own_string _ rfl _ _ 55 9 rfl B 5 i0 Tryz.underlying55 Tryz.underlying9 hi E2 O1 Y1 _ _ _ rfl J4 ⟨t.toArray⟩ rfl E3 F1 Kr ?_)
 intro v' w2 L7 J3 _;have D0:w2.heap[b]?=some (.cells #[.pointer (some ⟨b,0,none⟩),v] 57 (0,0)):=by
  rw[J3.block b F0 (fun e=>C1 e.symm)];exact HBK.out
 have d0:w2.cell? ⟨b,0,none⟩=some (.pointer (some ⟨b,0,none⟩)):=by rw[Lib.cell_of_heap D0];rfl
 have d1:w2.cell? ⟨b,1,none⟩=some v:=by rw[Lib.cell_of_heap D0];rfl
 have f1:w2.frozen? ⟨b,1,none⟩=false:=Lib.frozen_of_heap D0 1;obtain ⟨ao,n',cap,rfl⟩:∃ao n' cap,v'=.slice ao n' cap:=by
  rcases L7.2 with ⟨hv,_⟩|⟨g,cap,cur,hv,_⟩
  ·exact ⟨_,_,_,hv⟩
  ·exact ⟨_,_,_,hv⟩
 have HE:=Xh4 D0 L7 J3 C0;clear D0 L7 J3 C0 F1 E3
 go_wp2_with fail
 go_ret2
 obtain ⟨D0,L7,J3,C0⟩:=HE.out;refine ⟨rfl,?_,?_⟩
 ·refine Lib.BuilderAt.put (T:=57) (e:=5) hB D0 (bs':=Lib.byteCells (l++t)) ?_ (by decide);rw[Q9m];have e1:Lib.strCells ⟨t.toArray⟩=Lib.byteCells t:=rfl;rw[<-e1,Ui,Lib.strCells_length];exact L7
 ·exact (C0.grown J3 (by omega) (fun k hk=>(J4.lt k hk).1)).setCell (p:=⟨b,1,none⟩) hB _
theorem Q3n.call {B b:Nat} {p:Value} {l:LU} {w w':World} (h:Q3n B b p l w) (hb:Bw w w'):Q3n B b p l w':=by
 obtain ⟨hB,v,S5,J4,C1⟩:=h;refine ⟨hB,v,(hb.block _ (Uo.1 S5).1).trans S5,⟨J4.1,?_⟩,C1⟩;rcases J4.2 with h2|⟨g,cap,cur,hv,hg,hh,hr⟩
 ·exact .inl h2
 ·exact .inr ⟨g,cap,cur,hv,hg,(hb.block g (Uo.1 hh).1).trans hh,hr⟩
def Q5s (B b:Nat) (l:LU) (w:World):Prop:=Lib.IsBuilder 57 5 B b (Lib.byteCells l) w
theorem Q5s.call {B b:Nat} {l:LU} {w w':World} (h:Q5s B b l w) (hb:Bw w w'):Q5s B b l w':=by
 rcases h with h|h
 ·exact .inl (Q3n.call h hb)
 ·exact .inr (Q3n.call h hb)
theorem Q5s.new (B:Nat) (w:World) (hB:B<=w.heap.size):Q5s B w.heap.size [] (w.alloc (.cells #[.pointer none,.slice none 0 0] 57)):=
 .inl ⟨hB,_,Up _ _,⟨rfl,.inl ⟨rfl,rfl⟩⟩,by simp[Value.ownBlock]⟩
end Go.Proofs.YtidojbkhlenahaaGreatDoor
