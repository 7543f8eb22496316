/- Part 14. No condition. -/
import Derived.Test.YtidojbkhlenahaaGreatDoorPkProblemRights13
set_option maxRecDepth 100000
set_option maxHeartbeats 16000000
namespace Go.Proofs.YtidojbkhlenahaaGreatDoor
open Go.RowKit WordsM
theorem Q1p.plain [LT ZK] {w:World} {a:OA} {n c k:Nat} {ms:List Q00} (h:Q1p k ms) (hm:Q0e w a n c ms):Q56 k (ms.map Q00.term):=by
 obtain ⟨_,_,h3,h4,h5⟩:=h;refine ⟨?_,by rw[UF];exact h3,fun p hp=>?_⟩
 ·unfold Qe9;rw[List.pairwise_map];exact h5
 ·obtain ⟨m,Kn,rfl⟩:=Tx.1 hp;obtain ⟨j,hj,rfl⟩:=List.getElem_of_mem Kn;rcases hm.2.2.2 with h0|⟨b,o,_,_,R1⟩
  ·rw[h0] at hj;simp at hj
  ·obtain ⟨_,_,_,_,_,_,_,_,_,_,hw,_⟩:=R1 j _ (Ub hj);obtain ⟨⟨q1,q2⟩,q3⟩:=h4 _ Kn;exact ⟨fun e=>q3 ((Q65 q2 hw.low).1 e),Q3n q2 hw.low,q1⟩
theorem Q2m.monos [LT ZK] {B n c:Nat} {w:World} {a:OA} {all:List Q00} (h:Q2m B w a n c all) (O1:∀m∈all,Q0a m.neg m.exp m.ws):Q0e w a n c all:=by
 obtain ⟨xs,hr⟩:=h.row;have J4:=hr.1.cap;refine ⟨h.len,J4.1,by have:=J4.2;simpa[maxLen] using this,?_⟩;rcases hr.1.form with ⟨_,h0,_⟩|⟨g,cur,rfl,_,E0,_⟩
 ·exact .inl (Ty (by rw[h.len];exact h0))
 ·refine .inr ⟨g,0,rfl,E0,fun j m hm=>?_⟩;obtain ⟨g',e,aw,lw,cw,be,oe,le,ce,q0,q1,q2,q3,hw,hi,_,_⟩:=h.ent j m hm;injection e with e;injection e with e;subst e;have hb:=Q6e (O1 m (Ug hm)) hw.low;rw[UV];exact ⟨aw,lw,cw,_,le,ce,q0,q1,q2,q3,hw,hi,by omega,by omega⟩
theorem Qxv (P:List Q0l) (h:∀p∈P,p.2.sum<=8):∀d:Int,d<=8->P.foldl (fun d p=>max d p.2.sum) d<=8:=by
 induction P with
 |nil=>exact fun d hd=>hd
 |cons q r ih=>
  intro d hd;rw[Xbg];have:=h q (by simp);exact ih (fun p hp=>h p (by simp[hp])) _ (by omega)
theorem Qfg {k:Nat} {ms:List Q00} (h:Q1p k ms):0<=Ql8 ms/\Ql8 ms<=8:=⟨Qx1 _,Qxv _ (fun p hp=>by
 obtain ⟨m,hm,rfl⟩:=Tx.1 hp;exact (h.2.2.2.1 m hm).1.1.2.2) 0 (by decide)⟩
def Qz4 [LT ZK] (w:World) (ms ms2:List Q00) (s8 s45:Value) (wx:World):Prop:=∃(i:Nat) (a:OA) (N c:Nat) (all:List Q00),s8=.slice a N c/\s45=.int .i64 (i:Int)/\i<=ms.length/\N<=24*i/\Q2m w.heap.size wx a N c all/\
 all.map Q00.term=Qg3 ((ms.take i).map Q00.term) (ms2.map Q00.term)/\(∀m∈all,Q0a m.neg m.exp m.ws/\Q64 m.term.1)/\Bw w wx
def J04 [LT ZK] (w:World) (ms2:List Q00) (i:Nat) (T:List Q0l) (x:Q00) (P:Nat) (v2 v3 s8 s51:Value) (wx:World):Prop:=∃(j:Nat) (a:OA) (N c:Nat) (all:List Q00),s8=.slice a N c/\s51=.int .i64 (j:Int)/\j<=ms2.length/\N<=24*i+j/\Q2m w.heap.size wx a N c all/\
 all.map Q00.term=T++((ms2.take j).map Q00.term).map (Qx2 x.term)/\(∀m∈all,Q0a m.neg m.exp m.ws/\Q64 m.term.1)/\Q32 wx P (.bool x.neg) (.int .i64 x.exp) v2 v3/\P<wx.heap.size/\(∀y,a=some y->y.block≠P)/\Bw w wx
theorem Qsj {ms:List Q00} {i:Nat} {x:Q00} (hx:ms[i]?=some x) (b:List Q0l):Qg3 ((ms.take (i+1)).map Q00.term) b=Qg3 ((ms.take i).map Q00.term) b++b.map (Qx2 x.term):=by
 rw[Tr,hx,UZ];simp[Qg3,List.flatMap_append]
theorem Qdi [LT ZK] (a:OA) (n c:Nat) (ms:List Q00) (b:OA) (m d:Nat) (ms2:List Q00) (k:Nat) (w:World) (h1:Q0e w a n c ms) (h2:Q0e w b m d ms2) (r1:Q1p k ms) (r2:Q1p k ms2) (hT:Q1s w):
 Calls Tryz.prog 192 #[.slice a n c,.slice b m d,.int .i64 (k:Int)] w (Q1i w k (Qhq (ms.map Q00.term) (ms2.map Q00.term))):=by
 have J2:=r1.1;have R5:=r1.2.1;have Q2:=h1.1;have x6:=h2.1;have hn:n<=24:=by have:=r1.2.2.1;rw[h1.1] at this;exact this
 have hm:m<=24:=by have:=r2.2.2.1;rw[h2.1] at this;exact this
 have p1:=fun W (hb:Bw w W)=>Q35 a n c ms k W (h1.step hb) (by omega);have p2:=fun W (hb:Bw w W)=>Q35 b m d ms2 k W (h2.step hb) (by omega);have d1:=fun W (hb:Bw w W)=>Qf8 a n c ms k W (h1.step hb) r1;have d2:=fun W (hb:Bw w W)=>Qf8 b m d ms2 k W (h2.step hb) r2;obtain ⟨i0,O2,E2,I2,X1⟩:=Q1c Q7u;have HI:=Xh4 O2 E2 I2 X1;clear O2 E2 I2 X1;obtain ⟨X,hX⟩:∃X,Qhq (ms.map Q00.term) (ms2.map Q00.term)=X:=⟨_,rfl⟩;rw[hX];have H:=Xh8 h1 h2 r1 r2 p1 p2 hX hT;have HD:=Xh2 d1 d2;have HDB:=Xh2 (Qfg r1) (Qfg r2);clear h1 h2 r1 r2 p1 p2 hX hT d1 d2
 go_enter Tryz.func192,Tryz.ntmps192
 go_upto_block 0 with fail
 go_cut [] (fun wx=>¬(ms≠[]/\ms2≠[]/\8<Ql8 ms+Ql8 ms2)/\Bw w wx)
 case first=>
  go_upto_region 3 with (first|(go_at_call_of 51 (Value.slice a n c);refine ((Xo4 H) _ (Uc _ _)).mono ?_;rintro r w1 ⟨⟨x,rfl,hx⟩,A0⟩;(have VB:x=true:=hx.2 (Xo2 H));clear hx;subst VB;have H1:=Ua A0;clear A0)|(go_at_call_of 51 (Value.slice b m d);refine ((Xo5 H) _ H1.out).mono ?_;rintro r w2 ⟨⟨x,rfl,hx⟩,D0⟩;(have VB:x=true:=hx.2 (Xo3 H));clear hx;subst VB;have H2:=Ua (Below.next0 H1.out D0);clear D0))
  by_cases C8:ms=[]
  ·have A5:¬((0:Int)<(n:Int)):=(by rw[<-Q2,C8];decide);have HM0:=Ua C8;clear C8
   go_wp2_with fail
   go_meet;exact ⟨fun h=>h.1 HM0.out,H2.out⟩
  ·have A5:(0:Int)<(n:Int):=(by have:=Xbc.2 C8;omega);have HM0:=Ua C8;clear C8
   by_cases Je:ms2=[]
   ·have o4:¬((0:Int)<(m:Int)):=(by rw[<-x6,Je];decide);have HM2:=Ua Je;clear Je
    go_wp2_with fail
    go_meet;exact ⟨fun h=>h.2.1 HM2.out,H2.out⟩
   ·have o4:(0:Int)<(m:Int):=(by have:=Xbc.2 Je;omega);have HM2:=Ua Je;clear Je;have e1:=(Xo0 HDB);have e2:=(Xe1 HDB)
    by_cases h8:8<Ql8 ms+Ql8 ms2
    ·have Zq:X=.error 6:=by
      rw[<-(Xo6 H)];unfold Qhq;rw[Uu ⟨by simpa using HM0.out,by simpa using HM2.out,h8⟩]
     have HX:=Ua Zq;clear Zq
     go_wp2_with (first|(go_at_call_of 246 (Value.slice a n c);refine ((Xo0 HD) _ H2.out).mono ?_;rintro r w3 ⟨rfl,I0⟩;have H3:=Ua (Below.next0 H2.out I0);clear I0)|(go_at_call_of 246 (Value.slice b m d);refine ((Xe1 HD) _ H3.out).mono ?_;rintro r w4 ⟨rfl,N1⟩;have H4:=Ua (Below.next0 H3.out N1);clear N1))
     exact ⟨rfl,.tuple #[.slice none 0 0,.int .i64 6],by simp[results,go_sem],Q1i.err HX.out H4.out⟩
    ·have H8:=Ua h8
     go_wp2_with (first|(go_at_call_of 246 (Value.slice a n c);refine ((Xo0 HD) _ H2.out).mono ?_;rintro r w3 ⟨rfl,I0⟩;have H3:=Ua (Below.next0 H2.out I0);clear I0)|(go_at_call_of 246 (Value.slice b m d);refine ((Xe1 HD) _ H3.out).mono ?_;rintro r w4 ⟨rfl,N1⟩;have H4:=Ua (Below.next0 H3.out N1);clear N1))
     go_meet;exact ⟨fun h=>by have h1:=H8.out;have h2:=h.2.2;omega,H4.out⟩
 case rest=>
  obtain ⟨hnd,KC⟩:=hcut;have HC:=Xh2 hnd KC;clear hnd KC
  go_wp2_with fail
  go_loopw [8,45] (fun s8 s45 wr=>Qz4 w ms ms2 s8 s45 wr) (fun _ iv _=>n-(intOf iv).toNat)
  case atStart=>exact ⟨0,none,0,0,[],rfl,rfl,Ut _,Ut _,Q2m.nil_ _ _,rfl,(fun m hm=>by cases hm),(Xe1 HC)⟩
  case round=>
   obtain ⟨i,a1,N,c1,all,rfl,rfl,hi,hN,R0,Z1,O1,M0⟩:=hrel
   by_cases E0:i<ms.length
   ·have F0:(i:Int)<(n:Int):=(by omega);obtain ⟨x,hx⟩:∃x,ms[i]?=some x:=⟨_,Ub E0⟩;obtain ⟨b0,o0,rfl,Z0,R1⟩:∃b o,a=some ⟨b,o,none⟩/\b<w.heap.size/\∀j m,ms[j]?=some m->Q41 w b (o+j*4) m:=by
     rcases (Xo0 H).2.2.2 with h0|h0
     ·rw[h0] at E0;simp at E0
     ·exact h0
    obtain ⟨aw,lw,cw,ae,le,ce,k0,k1,k2,k3,hw,he,S4,Q3⟩:=R1 i x hx;have Xa:OkM k x:=(Xo2 H).2.2.2.1 x (Ug hx);have k0:=(M0.cell (p:=⟨b0,o0+i*4,none⟩) Z0).trans k0;have k1:=(M0.cell (p:=⟨b0,o0+i*4+1,none⟩) Z0).trans k1;have k2:=(M0.cell (p:=⟨b0,o0+i*4+2,none⟩) Z0).trans k2;have k3:=(M0.cell (p:=⟨b0,o0+i*4+3,none⟩) Z0).trans k3;have hX:=Q32.new wr (.bool x.neg) (.int .i64 x.exp) (.slice aw lw cw) (.slice ae le ce) 98;have K1:Bw wr (wr.alloc (.cells #[.bool x.neg,.int .i64 x.exp,.slice aw lw cw,.slice ae le ce] 98)):=Ba;have K5:=Q0p wr (.cells #[.bool x.neg,.int .i64 x.exp,.slice aw lw cw,.slice ae le ce] 98);have P0:∀y,a1=some y->y.block≠wr.heap.size:=fun y hy=>by have:=(R0.lt hy).2;omega
    have HR:=Xh12 R0 Z1 O1 M0 hx hw he Xa hX K1 K5 P0;clear R0 Z1 O1 M0 hx hw he Xa hX K1 K5 P0 R1 S4 Q3
    go_wp2_with fail
    rename World=>wl
    go_loopw [8,51] (fun s8 s51 wx=>J04 w ms2 i (Qg3 ((ms.take i).map Q00.term) (ms2.map Q00.term)) x wl.heap.size (.slice aw lw cw) (.slice ae le ce) s8 s51 wx) (fun _ iv _=>m-(intOf iv).toNat)
    case atStart=>exact ⟨0,a1,N,c1,all,rfl,rfl,Ut _,by omega,(Xo0 HR).step (Xo9 HR),by rw[List.take_zero,List.map_nil,List.map_nil,Xaf];exact (Xo1 HR),(Xo2 HR),(Xo8 HR),(Xo10 HR),(Xe11 HR),Below.next0 (Xo3 HR) (Xo9 HR)⟩
    case round=>
     obtain ⟨j,a2,N2,c2,all2,rfl,rfl,hj,Xu,R0,Z1,O1,hX,hlX,P0,M0⟩:=hrel
     by_cases hjt:j<ms2.length
     ·have hjt':(j:Int)<(m:Int):=(by omega);obtain ⟨y,hy⟩:∃y,ms2[j]?=some y:=⟨_,Ub hjt⟩;obtain ⟨b1,o1,rfl,A0,R1⟩:∃b' o,b=some ⟨b',o,none⟩/\b'<w.heap.size/\∀j m,ms2[j]?=some m->Q41 w b' (o+j*4) m:=by
       rcases (Xo1 H).2.2.2 with h0|h0
       ·rw[h0] at hjt;simp at hjt
       ·exact h0
      obtain ⟨ay,ly,cy,ax,lx,cx,j0,j1,j2,j3,hwy,hey,X8,M9⟩:=R1 j y hy;have hky:OkM k y:=(Xo3 H).2.2.2.1 y (Ug hy);have j0:=(M0.cell (p:=⟨b1,o1+j*4,none⟩) A0).trans j0;have j1:=(M0.cell (p:=⟨b1,o1+j*4+1,none⟩) A0).trans j1;have j2:=(M0.cell (p:=⟨b1,o1+j*4+2,none⟩) A0).trans j2;have j3:=(M0.cell (p:=⟨b1,o1+j*4+3,none⟩) A0).trans j3;have hY:=Q32.new wr (.bool y.neg) (.int .i64 y.exp) (.slice ay ly cy) (.slice ax lx cx) 98;have Jz:Bw wr (wr.alloc (.cells #[.bool y.neg,.int .i64 y.exp,.slice ay ly cy,.slice ax lx cx] 98)):=Ba;have N0:=Below.next0 M0 Jz;have A4:=hX.step Jz hlX;have hp:=Qla x.neg x.exp aw lw cw x.ws ae le ce x.es y.neg y.exp ay ly cy y.ws ax lx cx y.es k _ ((Xo5 HR).step N0) ((Xo6 HR).step N0) (hwy.step N0) (hey.step N0) (Xo7 HR).1.2 hky.1.2 (Xo7 HR).1.1 hky.1.1 J2 R5 ((Xe7 H).step N0);obtain ⟨e0,e1,e2⟩:=A4.cc;have e3:=A4.c3;obtain ⟨f0,f1,f2⟩:=hY.cc;have f3:=hY.c3;have HS:=Xh11 R0 Z1 O1 hX hlX P0 M0 hy Jz N0 hp;clear R0 Z1 O1 hX hlX P0 M0 hy Jz N0 hp hwy hey hky hY A4 R1 X8 M9
      go_upto_region 13 with (go_at_call_of 247 (Value.agg #[.bool x.neg,.int .i64 x.exp,.slice aw lw cw,.slice ae le ce]);refine (Xe10 HS).mono ?_;rintro r w8 ⟨n',e',a',l',c',L,er,be,le',ce',rfl,O7,S6,U5,⟨g8,rfl,hg8⟩,G7⟩;have H8:=Xh5 O7 S6 U5 hg8 G7;clear O7 S6 U5 hg8 G7)
      rcases (Xo0 H8) with ⟨Z8,rfl,S2,J0⟩|⟨hnf,rfl,_⟩
      ·have hV:=Q32.new w8 (.bool n') (.int .i64 e') (.slice a' l' c') (.slice (some ⟨g8,0,none⟩) le' ce') 98;have j4:Bw w8 (w8.alloc (.cells #[.bool n',.int .i64 e',.slice a' l' c',.slice (some ⟨g8,0,none⟩) le' ce'] 98)):=Ba;have Xi:=Below.next0 (Xo8 HS) (Xe4 H8);have hb8a:=Below.next0 (Xo9 HS) (Xe4 H8);have Xy:=Below.next0 Xi j4;have Zg:=Below.next0 hb8a j4;have B4:=(Xo0 HS).step Xy;obtain ⟨xs,hr⟩:=B4.row;obtain ⟨O2,E2,I2,X1⟩:=HI.out;have Wm:w.heap.size<=((w8.alloc (.cells #[.bool n',.int .i64 e',.slice a' l' c',.slice (some ⟨g8,0,none⟩) le' ce'] 98)).alloc (.cells #[.bool n',.int .i64 e',.slice a' l' c',.slice (some ⟨g8,0,none⟩) le' ce'] 98)).heap.size:=by
        have:=Zg.size;rw[Uk];omega
       obtain ⟨g6,c6,w6,D7,O3,C3,z5⟩:=Q25 (P:=Tryz.prog) NoU ((w8.alloc (.cells #[.bool n',.int .i64 e',.slice a' l' c',.slice (some ⟨g8,0,none⟩) le' ce'] 98)).alloc (.cells #[.bool n',.int .i64 e',.slice a' l' c',.slice (some ⟨g8,0,none⟩) le' ce'] 98)) 42 42 98 i0 _ 4 64 Tryz.underlying42 O2 E2 I2 X1 rfl Qbw w.heap.size Wm a2 N2 c2 xs (hr.step (Ba)) (w8.alloc (.cells #[.bool n',.int .i64 e',.slice a' l' c',.slice (some ⟨g8,0,none⟩) le' ce'] 98)).heap.size 1 1 [.bool n',.int .i64 e',.slice a' l' c',.slice (some ⟨g8,0,none⟩) le' ce'] rfl (TR (cs:= #[.bool n',.int .i64 e',.slice a' l' c',.slice (some ⟨g8,0,none⟩) le' ce']) (Uo _ _)) (by simp[Value.oneCell']) (by intro u hu;simp at hu;rcases hu with rfl|rfl|rfl|rfl <;> exact fun _=>by simp[nv]) (by decide) (by omega) (by decide) (by decide);rw[Uk w8] at D7;obtain ⟨t0,t1,t2⟩:=hV.cc;have t3:=hV.c3;have HV:=Xh12 Z8 S2 J0 Xy Zg B4 hr O3 C3 z5 j4 Xi;clear Z8 S2 J0 Xy Zg B4 hr O3 C3 z5 j4 hb8a Xi Wm hV O2 E2 I2 X1 e0 e1 e2 e3 f0 f1 f2 f3
       go_wp2_with (at_builtin;refine Q0j rfl (.tmp 64) (.tmp 66) 42 42 rfl _ _ rfl rfl _ _ D7 ?_)
       obtain ⟨Z8,S2,J0,Xy,Zg,B4,hr,O3,C3,z5,j4,Xi⟩:=HV.out;have hE:List.zipWith (·+·) x.es y.es≠[]:=fun e=>by
        have h1:=congrArg List.length e;have h2:=((Xo7 HR).1.1).1;have h3:=((Xo3 H).2.2.2.1 y (Ug (Xo7 HS))).1.1.1;rw[List.length_zipWith,h2,h3] at h1;simp at h1;omega
       have hg8l:g8<w8.heap.size:=by
        rcases (Xo2 H8).rd with h0|⟨bb,oo,e,Y2,_⟩
        ·exact absurd h0 hE
        ·injection e with e;injection e with e;subst e;exact Y2
       have hP:wl.heap.size<w8.heap.size:=Ue (Xo4 HS) Xi.size;have JG:=B4.push hr (o:=(.cells #[.bool n',.int .i64 e',.slice a' l' c',.slice (some ⟨g8,0,none⟩) le' ce'] 98)) C3 z5 (m:=⟨n',e',L,List.zipWith (·+·) x.es y.es⟩) O3 rfl ((Xo1 H8).toWordsIn.step j4) ((Xo2 H8).step j4) (by rw[Uk];omega) (fun z hz e=>by
        have h1:=((Xo0 HS).lt hz).2;have h2:=(Xo3 H8);rw[Uk] at h2;omega)
       have P5:=Zg.alloc Zg.size (.cells #[.bool n',.int .i64 e',.slice a' l' c',.slice (some ⟨g8,0,none⟩) le' ce'] 98);have hbw6:Bw w w6:=P5.trans ⟨C3.os,C3.tape,C3.output,C3.size,fun z hz=>C3.block z (Ue hz P5.size) (fun e=>by
        cases a2 with
        |none=>simp at e
        |some q=>simp only[UE,Up] at e;have:=((Xo0 HS).lt rfl).1;omega)⟩
       have hP6:wl.heap.size<((w8.alloc (.cells #[.bool n',.int .i64 e',.slice a' l' c',.slice (some ⟨g8,0,none⟩) le' ce'] 98)).alloc (.cells #[.bool n',.int .i64 e',.slice a' l' c',.slice (some ⟨g8,0,none⟩) le' ce'] 98)).heap.size:=(by rw[Uk,Uk];omega);have Zq:Q32 w6 wl.heap.size (.bool x.neg) (.int .i64 x.exp) (.slice aw lw cw) (.slice ae le ce):=
        (((Xo3 HS).step Xy (Xo4 HS)).step ((Uc _ _).alloc (Uf _) (.cells #[.bool n',.int .i64 e',.slice a' l' c',.slice (some ⟨g8,0,none⟩) le' ce'] 98)) (by rw[Uk];omega)).onKept (C3.block _ hP6 (fun e=>by
          cases a2 with
          |none=>simp at e
          |some q=>simp only[UE,Up] at e;exact (Xo5 HS) q rfl e.symm))
       refine ⟨⟨j+1,_,N2+1,c6,_,rfl,congrArg (Value.int .i64) (by omega),hjt,by omega,JG,?_,fun m' o8=>?_,Zq,Ue hP6 C3.size,fun q hq=>?_,hbw6⟩,by simp only[intOf];omega⟩
       ·rw[UZ,(Xo1 HS),Tr,(Xo7 HS),UZ,UZ,<-UN]
        congr 1
        show [(Q1r n' e' L,List.zipWith (·+·) x.es y.es)]=[Qx2 x.term y.term]
        rw[J0];rfl
       ·rcases Tp.1 o8 with h1|h1
        ·exact (Xo2 HS) m' h1
        ·rw[UC] at h1;subst h1;refine ⟨S2,?_⟩
         show Q64 (Q1r n' e' L)
         rw[J0];exact Z8
       ·injection hq with hq;subst hq;rcases z5 with h1|h1
        ·exact (Xo5 HS) _ h1
        ·show g6≠_
         omega
      ·have A4:X=.error 2:=by
        rw[<-(Xo6 H)];unfold Qhq;rw[Us (by have h0:=(Xo0 HC);unfold Ql8 at h0;simpa using h0),Uu];rw[Xbl];refine ⟨Qx2 x.term y.term,?_,?_⟩
        ·refine List.mem_flatMap.2 ⟨x.term,Tx.2 ⟨x,Ug (Xo4 HR),rfl⟩,Tx.2 ⟨y.term,Tx.2 ⟨y,Ug (Xo7 HS),rfl⟩,rfl⟩⟩
        ·have:Qa4 (Qx2 x.term y.term).1=false:=(Qma _).2 hnf;rw[this];rfl
       have HX:=Xh2 A4 hnf;clear A4 hnf
       go_wp2_with fail
       exact ⟨rfl,.tuple #[.slice none 0 0,.int .i64 2],by simp[results,go_sem],Q1i.err (Xo0 HX) (Below.next0 (Below.next0 (Xo9 HS) (Xe4 H8)) (Ba))⟩
     ·have hjt':¬((j:Int)<(m:Int)):=(by omega);have hje:j=ms2.length:=(by omega);rw[hje,Ti] at Z1;have HJ:=Xh4 R0 Z1 O1 M0;clear R0 Z1 O1 M0 hje hX hlX P0
      go_wp2_with fail
      exact ⟨⟨i+1,a2,N2,c2,all2,rfl,congrArg (Value.int .i64) (by omega),E0,by omega,(Xo0 HJ),by rw[Qsj (Xo4 HR)];exact (Xo1 HJ),(Xo2 HJ),(Xe3 HJ)⟩,by simp only[intOf];omega⟩
   ·have F0:¬((i:Int)<(n:Int)):=(by omega);have U5:i=ms.length:=(by omega);rw[U5,Ti] at Z1;have F3:=Qo0 ((Xo2 H).plain (Xo0 H)) ((Xo3 H).plain (Xo1 H)) (by have h0:=(Xo0 HC);unfold Ql8 at h0;simpa using h0);have JC:∀m∈all,Qle k m:=fun m hm=>⟨F3 m.term (by rw[<-Z1];exact Tx.2 ⟨m,hm,rfl⟩),(O1 m hm).1⟩;have Z5:X=Q3q (all.map Q00.term):=by
     rw[<-(Xo6 H),Z1];unfold Qhq;rw[Us (by have h0:=(Xo0 HC);unfold Ql8 at h0;simpa using h0),Us];rw[Xbl];rintro ⟨p,hp,hf⟩;rw[<-Z1] at hp;obtain ⟨m,hm,rfl⟩:=Tx.1 hp;rw[(Q1j _).2 (O1 m hm).2] at hf;cases hf
    have m5:=Q5u a1 N c1 all k wr (R0.monos fun m hm=>(O1 m hm).1) JC J2 R5 (by omega) ((Xe7 H).step M0);rw[<-Z5] at m5;have HK:=Xh2 m5 M0;clear m5 M0 Z5 JC F3 Z1 O1 R0 U5
    go_wp2_with (refine (Xo0 HK).mono ?_;rintro r w5 F1;obtain ⟨a5,l5,c5,er,rfl⟩:=F1.form;have H5:=Ua (F1.lower (Xe1 HK));clear F1)
    exact ⟨rfl,.tuple #[.slice a5 l5 c5,.int .i64 er],by simp[results,go_sem],H5.out⟩
open DecM
theorem Qsk (sub:Nat->PR Ex) (opens:Bool) (L:LU) (most f p:Nat) (below:Bool) (acc:List (Bool × Ex)) (bad:Bool):Q4j bad p (Qbb sub opens L most (f+1) p below acc)=(match Q4j bad p (Q57 sub opens L most (L.length+1) p []) with
 | .error e=>.error e
 | .ok (x,q)=>if Q08 L (Q05 L q)=43 then Qbb sub opens L most f (Q05 L q+1) false (acc++[(below,x)])
   else if Q08 L (Q05 L q)=45 then Qbb sub opens L most f (Q05 L q+1) true (acc++[(below,x)])
   else .ok (.sum (acc++[(below,x)]),Q05 L q)):=by
 cases bad
 ·show Qbb sub opens L most (f+1) p below acc=_
  rw[Qbb];rfl
 ·rfl
theorem Qz5 {R:Nat} {w w':World} {g n c g2 c2:Nat} {acc:List (Bool × Ex)} {vs:LV} (h:Qbf R w w' (some ⟨g,0,none⟩) n c (some ⟨g2,0,none⟩) c2 acc vs) (h0:acc≠[]):Q2v (·<w.heap.size) w' (.sum acc) (.iface 178 (.agg #[.slice (some ⟨g,0,none⟩) n c,.slice (some ⟨g2,0,none⟩) n c2])):=by
 have g7:∀k,k<w.heap.size->fpX w.heap.size (some ⟨g,0,none⟩) (some ⟨g2,0,none⟩) k∨w'.heap.size<=k:=fun k hk=>.inl (.inl (Xa9 hk));have hg:=Q1l h.ra rfl;have M6:=Q1l h.rb rfl;have hc:=h.ra.cap;have A2:=h.rb.cap;have W8:w.heap.size+1<=g:=hg.1;have Qa:w.heap.size+1<=g2:=M6.1;rw[Q2v];refine ⟨g,g2,c,c2,by rw[h.len],fun hk=>by omega,fun hk=>by omega,hg.2,M6.2,by rw[h.len];exact hc.1,hc.2,by rw[h.len];exact A2.1,A2.2,h0,(h.nodes.more g7).rows 0 (fun j v hv=>?_) fun j t ht=>?_⟩
 ·obtain ⟨g',e,_,_,G1⟩:=h.ra.at_ hv;injection e with e;injection e with e;subst e;rw[UV];exact G1
 ·have hv:(acc.map fun z=>Value.bool z.1)[j]?=some (.bool t):=by
   rw[UK] at ht⊢;cases hz:acc[j]? with
   |none=>rw[hz] at ht;cases ht
   |some z=>rw[hz] at ht;injection ht with ht;rw[<-ht];rfl
  obtain ⟨g',e,_,_,G1⟩:=h.rb.at_ hv;injection e with e;injection e with e;subst e;rw[UV];exact G1
def Qxw (R:Nat) (s:ByteArray) (L:LU) (sub:Nat->PR Ex) (opens:Bool) (most:Nat) (d:Int) (w:World) (X:PR Ex) (bv:Value) (wx:World):Prop:=
 ∃(below:Bool) (p1:Nat) (bd:Bool),bv=.bool below/\Qbf R w wx none 0 0 none 0 [] []/\Q0o wx R s (p1:Int) (most:Int) d bd/\p1<=s.size/\X=Q4j bd p1 (Qbb sub opens L most (s.size+1) p1 below [])
theorem Q8d {w:World} {R:Nat} {s:ByteArray} {p most:Nat} {d:Int} {bad:Bool} (sub:Nat->PR Ex) (h:Q0o w R s (p:Int) (most:Int) d bad) (hp:p<=s.size) (hs:s.size<=1000000) (V8:0<=d) (hd:d<=16) (hT:∀W,Q0v (OnR R) w W->Q1s W) (Wn:decide (d<16)=true->∀p,p<=s.data.toList.length->Q6a s.data.toList p (sub p))
 (N7:d<16->∀(W:World) (q:Nat),Q0o W R s (q:Int) (most:Int) (d+1) false->q<=s.size->(∀W',Q0v (OnR R) W W'->Q1s W')->Calls Tryz.prog 130 #[.pointer (some ⟨R,0,none⟩)] W (Q6p R s (most:Int) (d+1) (sub q) W)):
 Calls Tryz.prog 130 #[.pointer (some ⟨R,0,none⟩)] w (Q6p R s (most:Int) d (Q4j bad p (Q7j sub (decide (d<16)) s.data.toList most p)) w):=by
 obtain ⟨i0,O2,E2,I2,X1⟩:=Q1c Qj3;obtain ⟨i1,hi1,QY,X8,M9⟩:=Q1c Qsb;obtain ⟨L,hL⟩:∃L,s.data.toList=L:=⟨_,rfl⟩;have U8:L.length=s.size:=by rw[<-hL];rfl
 rw[hL] at Wn;obtain ⟨X,hX⟩:∃X,Q4j bad p (Q7j sub (decide (d<16)) L most p)=X:=⟨_,rfl⟩;rw[hL,hX];have hR:=h.lt;have N6:Bw w (w.alloc (.cells #[.slice none 0 0,.slice none 0 0] 178)):=Ba;have Y0:Qbf R w (w.alloc (.cells #[.slice none 0 0,.slice none 0 0] 178)) none 0 0 none 0 [] []:=
  ⟨Q0v.of_below N6 _,by rw[Uw _ _ _ _ _ _ (Uo _ _)];rfl,by rw[Uw _ _ _ _ _ _ (Uo _ _)];rfl,TO _ _ _ _ _ (Uo _ _),TO _ _ _ _ _ (Uo _ _),Row.nil_ _ _ _ _,Row.nil_ _ _ _ _,trivial,rfl⟩
 have P2:=Q3j (h.step N6) hp (by omega);obtain ⟨q,hq⟩:∃q,skS L p bad=q:=⟨_,rfl⟩;obtain ⟨c,hc⟩:∃c,nxB L q bad=c:=⟨_,rfl⟩;have D8:q<=s.size:=by
  rw[<-hq];unfold skS
  split
  ·exact hp
  ·rw[<-U8];exact Q3a (by omega)
 rw[hL,hq,hc] at P2;have E3:IntKind.i64.wrap ((q:Int)+1)=(q:Int)+1:=by rw[UO];omega
 have H:=Xh7 hL U8 hs hX hR Y0 P2;have HS:=Xh5 V8 hd hT N7 Wn;have HP:=Xh4 hp D8 hq hc;clear h hp hs hT N7 Wn hL U8 V8 hd hX hR Y0 N6 P2 D8 hq hc
 go_enter Tryz.func130,Tryz.ntmps130
 go_wp2_with fail
 go_step3
 go_upto_if 8 with (go_at_call_of 131 (Value.pointer (some ⟨R,0,none⟩));refine (Xe6 H).mono ?_;rintro r w1 ⟨rfl,M1,I3⟩;have k1:=M1.c1;have g1:=M1.f1;have H1:=Xh2 M1 I3;clear M1 I3)
 go_cut [4] (fun bv wx=>Qxw R s L sub (decide (d<16)) most d w X bv wx)
 case first=>
  have hXe:=(Xo3 H);have Vl:=(Xo5 H).step (Xo4 H) (Xe1 H1)
  by_cases h45:c=45
  ·subst h45;obtain ⟨rfl,Vo,hqb⟩:=Qxm (s:=L) (p:=q) (bad:=bad) (by rw[(Xe3 HP)];decide);have hXn:X=Q4j false (q+1) (Qbb sub (decide (d<16)) L most (s.size+1) (q+1) true []):=by
    rw[<-hXe]
    show Q7j sub (decide (d<16)) L most p=Qbb sub (decide (d<16)) L most (s.size+1) (q+1) true []
    unfold Q7j;have Vp:Q05 L p=q:=(by have:=(Xo2 HP);simpa[skS] using this);rw[Vp,<-hqb,(Xe3 HP),Uu rfl,(Xo1 H)]
   have n45:((((45:UInt8).toNat:Nat):Int)==45)=true:=(by decide);have i6:q+1<=s.size:=(by have:=(Xo1 H);omega);have H2:=Xh3 hXn Vl i6;clear hXn hXe Vl Vo hqb i6
   go_wp2_with fail
   go_meet;exact ⟨true,q+1,false,rfl,(Xo1 H2).step (Xo4 H) (Q1y w1 R 1 (.int .i64 ((q:Int)+1))),(Xo0 H1).setAt ((q:Int)+1),(Xe2 H2),(Xo0 H2)⟩
  ·have n45:((c.toNat:Int)==45)=false:=Qdd (k:=45) (by decide) h45;have hXn:X=Q4j bad q (Qbb sub (decide (d<16)) L most (s.size+1) q false []):=by
    rw[<-hXe];cases bad with
    |true=>
     have Vp:p=q:=(by have:=(Xo2 HP);simpa[skS] using this);rw[Vp];rfl
    |false=>
     show Q7j sub (decide (d<16)) L most p=Qbb sub (decide (d<16)) L most (s.size+1) q false []
     unfold Q7j;have Vp:Q05 L p=q:=(by have:=(Xo2 HP);simpa[skS] using this);have x4:Q08 L q=c:=(by have:=(Xe3 HP);simpa[nxB] using this);rw[Vp,x4,Us h45,(Xo1 H)]
   have H2:=Xh3 hXn Vl (Xo1 HP);clear hXn hXe Vl h45
   go_wp2_with fail
   go_meet;exact ⟨false,q,bad,congrArg Value.bool n45,(Xo1 H2),(Xo0 H1),(Xe2 H2),(Xo0 H2)⟩
 case rest=>
  have HC:=Ua hcut;obtain ⟨below,p1,bd1,rfl,_⟩:=hcut
  go_wp2_with fail
  go_step3
  go_wp2_with fail
  go_loopw [4] (fun bv wr=>∃(f p':Nat) (below:Bool) (bd:Bool) (a:OA) (n c:Nat) (a2:OA) (c2:Nat) (acc:List (Bool × Ex)) (vs:LV),bv=.bool below/\Qbf R w wr a n c a2 c2 acc vs/\Q0o wr R s (p':Int) (most:Int) d bd/\p'<=s.size/\s.size+1<=f+p'/\n<=p'/\X=Q4j bd p' (Qbb sub (decide (d<16)) L most f p' below acc)) (fun _ wr=>s.size-atOf wr R)
  case atStart=>
   obtain ⟨below',p1',bd1',e,h1,h2,h3,h4⟩:=HC.out;exact ⟨s.size+1,p1',below',bd1',none,0,0,none,0,[],[],e,h1,h2,h3,by omega,Ut _,h4⟩
  case round=>
   clear HC;obtain ⟨f,p',below,bd,a,n,c,a2,c2,acc,vs,rfl,Y0,hr,Zy,hf,hn,Z5⟩:=hrel;obtain ⟨f,rfl⟩:∃f',f=f'+1:=⟨f-1,by omega⟩;rw[Qsk] at Z5;have Ku:=fun (W:World) (hW:Q0o W R s (p':Int) (most:Int) d bd) (hTW:Q0v (OnR R) w W)=>Qvd sub hW Zy (Xo2 H) (Xo0 HS) (Xo1 HS) (fun W' hW'=>(Xo2 HS) W' (hTW.trans0 hW')) (by rw[(Xo0 H)];exact (Xe4 HS)) (Xo3 HS);rw[(Xo0 H)] at Ku;obtain ⟨r0,Q4⟩:∃r0,Q4j bd p' (Q57 sub (decide (d<16)) L most (s.size+1) p' [])=r0:=⟨_,rfl⟩;rw[Q4] at Ku;rw[(Xo1 H),Q4] at Z5;have hgo:∀x q0,r0=.ok (x,q0)->p'<q0:=fun x q0 e=>by
    rw[e] at Q4;cases bd with
    |true=>cases Q4
    |false=>
     have hm:=Qa5 (most:=most) (Xe4 HS) (s.size+1) (p:=p') [] (by have:=(Xo1 H);omega);have M1:Q57 sub (decide (d<16)) L most (s.size+1) p' []=.ok (x,q0):=Q4;rw[M1] at hm;exact hm.1
   have HG:=Ua hgo;have Y1:s.size<=1000000:=(Xo2 H);have A5:n+1<=1000001:=(by omega);have HF:=Xh7 Ku Y0 hr Zy hf hn Z5;clear Ku Y0 hr Zy hf Z5 Q4 hn Y1 hgo
   go_upto_region 5 with fail
   go_cut [] (fun wx=>Qwo R s (most:Int) d w n below acc vs r0 wx)
   case first=>
    refine Q5c (by kernel_rfl) (fun D V W=>∃N,EI R s (most:Int) d w wr a n c a2 c2 below acc vs p' bd r0 N D V W) ?_ (by kernel_rfl) ?_ ?_ ?_
    ·rintro i o hi hd D V v W ⟨N,h⟩;exact ⟨N,EI.drop (Qms (x:=12) (y:=14) (by kernel_rfl) hi hd) h⟩
    ·intro V;exact ⟨0,(Xo1 HF).start (Xo4 H) (Xo2 HF) V⟩
    ·skip;refine ⟨fun A W D hI G0 hk C0 G2=>?_,?_⟩
     ·obtain ⟨N,h⟩:=hI;have e3:=Q0d G0 3 (by kernel_rfl) rfl;exact Q15 (u:=.pointer (some ⟨w.heap.size,0,none⟩)) rfl (by simp[go_sem,e3]) ⟨N,h.s0⟩
     refine ⟨fun A W D hI G0 hk C0 G2=>?_,?_⟩
     ·obtain ⟨N,h⟩:=hI;have e16:=Q18 (j:=0) (t:=16) rfl (h.v0 (C0 0 (by decide)));have d12:D 12=false:=Q2c G2 (j:=12) rfl (k:=1) (by decide) hk;have k0:=h.c0 d12;exact Q15 (u:=.slice a n c) rfl (by simp[go_sem,e16,k0]) ⟨N,h.s1⟩
     refine ⟨fun A W D hI G0 hk C0 G2=>?_,?_⟩
     ·obtain ⟨N,h⟩:=hI;have e0:=Q0d G0 0 (by kernel_rfl) rfl;exact Q15 (u:=.pointer (some ⟨R,0,none⟩)) rfl (by simp[go_sem,e0]) ⟨N,h.s2⟩
     refine ⟨fun A W D hI G0 hk C0 G2=>?_,?_⟩
     ·obtain ⟨N,h⟩:=hI;have e18:=Q18 (j:=2) (t:=18) rfl (h.v2 (C0 2 (by decide)));have d4:D 4=false:=Q2c G2 (j:=4) rfl (k:=3) (by decide) hk;have d5:D 5=false:=Q2c G2 (j:=5) rfl (k:=3) (by decide) hk;have d10:D 10=false:=Q2c G2 (j:=10) rfl (k:=5) (by decide) d5;have d12:D 12=false:=Q2c G2 (j:=12) rfl (k:=3) (by decide) hk;have d14:D 14=false:=Q2c G2 (j:=14) rfl (k:=3) (by decide) hk;refine Qp1 (f:=183) (args:= #[.pointer (some ⟨R,0,none⟩)]) rfl (by simp[go_sem,e18]) ?_;refine ((Xo0 HF) W (h.rd hk) h.turn).mono ?_;rintro e w3 ⟨t,u,rfl,Kq⟩;exact ⟨_,rfl,_,h.s3 d4 d5 d10 d12 d14 ⟨t,u,rfl,Kq⟩⟩
     refine ⟨fun A W D hI G0 hk C0 G2=>?_,?_⟩
     ·obtain ⟨N,h⟩:=hI;obtain ⟨_,t,u,hV3,_⟩:=h.nd (C0 3 (by decide));have e19:=Q18 (j:=3) (t:=19) rfl hV3;have s4:=h.s4;rw[hV3] at s4;exact Q15 (u:=.slice (some ⟨W.heap.size,0,none⟩) 1 1) (w':=W.alloc (.cells #[.iface t u] 119)) rfl (by simp[go_sem,e19]) ⟨N,s4⟩
     refine ⟨fun A W D hI G0 hk C0 G2=>?_,?_⟩
     ·obtain ⟨N,h⟩:=hI;obtain ⟨_,t,u,hV3,_⟩:=h.nd (C0 3 (by decide));obtain ⟨b4,hV4,_,N1⟩:=h.v4 (C0 4 (by decide));rw[hV3] at N1;have d10:D 10=false:=Q2c G2 (j:=10) rfl (k:=5) (by decide) hk;have d12:D 12=false:=Q2c G2 (j:=12) rfl (k:=5) (by decide) hk;have d14:D 14=false:=Q2c G2 (j:=14) rfl (k:=5) (by decide) hk;refine Qb4 rfl (.tmp 17) (.tmp 20) 175 rfl (w.heap.size+1) 119 i0 .nilIface 16 Tryz.underlying175 O2 E2 I2 X1 rfl (.slice a n c) n vs (Q8r (j:=1) rfl (h.v1 (C0 1 (by decide)))) (h.ra hk) b4 (.iface t u) (Q8r (j:=4) rfl hV4) N1 rfl (by unfold maxLen;omega) (by omega) (by have:=h.st.2.1;have:=h.big;omega) ?_;intro g cap w' A1 Z7 R1;rw[<-hV3] at A1;exact ⟨N,h.s5 (C0 3 (by decide)) hk d10 d12 d14 A1 Z7 R1 rfl⟩
     refine ⟨fun A W D hI G0 hk C0 G2=>?_,?_⟩
     ·obtain ⟨N,h⟩:=hI;have e3:=Q0d G0 3 (by kernel_rfl) rfl;exact Q15 (u:=.pointer (some ⟨w.heap.size,1,none⟩)) rfl (by simp[go_sem,e3]) ⟨N,h.s6⟩
     refine ⟨fun A W D hI G0 hk C0 G2=>?_,?_⟩
     ·obtain ⟨N,h⟩:=hI;have e22:=Q18 (j:=6) (t:=22) rfl (h.v6 (C0 6 (by decide)));have d14:D 14=false:=Q2c G2 (j:=14) rfl (k:=7) (by decide) hk;have k1:=h.c1 d14;exact Q15 (u:=.slice a2 n c2) rfl (by simp[go_sem,e22,k1]) ⟨N,h.s7⟩
     refine ⟨fun A W D hI G0 hk C0 G2=>?_,?_⟩
     ·obtain ⟨N,h⟩:=hI;have e4:=Q0d G0 4 (by kernel_rfl) rfl;exact Q15 (u:=.bool below) rfl (by simp[go_sem,e4]) ⟨N,h.s8⟩
     refine ⟨fun A W D hI G0 hk C0 G2=>?_,?_⟩
     ·obtain ⟨N,h⟩:=hI;have e24:=Q18 (j:=8) (t:=24) rfl (h.v8 (C0 8 (by decide)));exact Q15 (u:=.slice (some ⟨W.heap.size,0,none⟩) 1 1) (w':=W.alloc (.cells #[.bool below] 4)) rfl (by simp[go_sem,e24]) ⟨N,h.s9⟩
     refine ⟨fun A W D hI G0 hk C0 G2=>?_,?_⟩
     ·obtain ⟨N,h⟩:=hI;obtain ⟨b9,hV9,_,j4⟩:=h.v9 (C0 9 (by decide));have d5:=C0 5 (by decide);have d3:=G2 5 _ rfl d5 3 (by decide);have d12:D 12=false:=Q2c G2 (j:=12) rfl (k:=10) (by decide) hk;have d14:D 14=false:=Q2c G2 (j:=14) rfl (k:=10) (by decide) hk;refine Qb4 rfl (.tmp 23) (.tmp 25) 176 rfl (w.heap.size+1) 4 i1 (.bool false) 1 Tryz.underlying176 hi1 QY X8 M9 rfl (.slice a2 n c2) n (acc.map fun (z:Bool × Ex)=>Value.bool z.1) (Q8r (j:=7) rfl (h.v7 (C0 7 (by decide)))) (h.rb hk) b9 (.bool below) (Q8r (j:=9) rfl hV9) j4 rfl (by unfold maxLen;omega) (by omega) (by have:=h.st.2.1;have:=h.big;omega) ?_;intro g cap w' A1 Z7 R1;exact ⟨N,h.s10 d3 d5 hk d12 d14 A1 Z7 R1 rfl⟩
     refine ⟨fun A W D hI G0 hk C0 G2=>?_,?_⟩
     ·obtain ⟨N,h⟩:=hI;have e3:=Q0d G0 3 (by kernel_rfl) rfl;exact Q15 (u:=.pointer (some ⟨w.heap.size,0,none⟩)) rfl (by simp[go_sem,e3]) ⟨N,h.s11⟩
     refine ⟨fun A W D hI G0 hk C0 G2=>?_,?_⟩
     ·obtain ⟨N,h⟩:=hI;have e27:=Q18 (j:=11) (t:=27) rfl (h.v11 (C0 11 (by decide)));have d10:=C0 10 (by decide);have d5:=C0 5 (by decide);have d3:=C0 3 (by decide);obtain ⟨g,cap,hV5,_⟩:=h.ra' d5;have e21:=Q18 (j:=5) (t:=21) rfl hV5;have k0:=h.c0 hk;have g0:=h.f0;have s12:=h.s12 d3 d5 d10 hk undef;rw[hV5] at s12;exact Qaj rfl (by simp[go_sem,e27,e21,k0,g0]) ⟨N,s12⟩
     refine ⟨fun A W D hI G0 hk C0 G2=>?_,?_⟩
     ·obtain ⟨N,h⟩:=hI;have e3:=Q0d G0 3 (by kernel_rfl) rfl;exact Q15 (u:=.pointer (some ⟨w.heap.size,1,none⟩)) rfl (by simp[go_sem,e3]) ⟨N,h.s13⟩
     refine ⟨fun A W D hI G0 hk C0 G2=>?_,?_⟩
     ·obtain ⟨N,h⟩:=hI;have e28:=Q18 (j:=13) (t:=28) rfl (h.v13 (C0 13 (by decide)));have d10:=C0 10 (by decide);have d5:=C0 5 (by decide);have d3:=C0 3 (by decide);obtain ⟨g,cap,hV10,_⟩:=h.rb' d10;have e26:=Q18 (j:=10) (t:=26) rfl hV10;have k0:=h.c1 hk;have g0:=h.f1;have s14:=h.s14 d3 d5 d10 hk undef;rw[hV10] at s14;exact Qaj rfl (by simp[go_sem,e28,e26,k0,g0]) ⟨N,s14⟩
     exact trivial
    ·rintro D V W hD ⟨N,h⟩;have X2:=h.fin (Xo1 HF).len hD;have HX:=Ua X2;clear X2 h hD;simp only[Q0r,Act.put,Ur,Ux,Uv]
     go_wp2_with fail
     go_meet;exact HX.out
   case rest=>
    obtain ⟨g,cap,g2,cap2,v,hk,Z6,Wf,h2⟩:=hcut;have HK:=Xh2 Wf h2;have hX:=(Xe6 HF);clear Wf h2;cases r0 with
    |error e=>
     have h1:=(Xe1 HK);have P2:=Q3j h1.1 h1.2 (by have:=(Xo2 H);omega);simp only[skS,nxB,Xa8] at P2;have H2:=Xh3 P2 h1.2 hX;clear P2 h1 hX;have n43:((((0:UInt8).toNat:Nat):Int)==43)=false:=(by decide);have n45:((((0:UInt8).toNat:Nat):Int)==45)=false:=by decide
     go_wp2_with (go_at_call_of 131 (Value.pointer (some ⟨R,0,none⟩));refine (Xo0 H2).mono ?_;rintro r w2 ⟨rfl,X0,F2⟩;have k2:=(F2.cell (p:=⟨w.heap.size,0,none⟩) (UI hk) (fun (e:w.heap.size=R)=>by have:=(Xo4 H);omega)).trans hk;have k3:=(F2.cell (p:=⟨w.heap.size,1,none⟩) (UI Z6) (fun (e:w.heap.size=R)=>by have:=(Xo4 H);omega)).trans Z6;have H3:=Xh2 X0 F2;clear X0 F2)
     first|rw[Xae]|skip
     go_ret;rw[(Xe2 H2)];exact Q6p.err ((Xo0 HK).trans0 (Xe1 H3)) (Xo0 H3) (Xo1 H2)
    |ok z=>
     obtain ⟨x,q0⟩:=z;have h1:=(Xe1 HK);obtain ⟨q,hq⟩:∃q,Q05 L q0=q:=⟨_,rfl⟩;have D8:q<=s.size:=(by rw[<-hq,<-(Xo1 H)];exact Q3a (by have:=(Xo1 H);have:=h1.2.2;omega));obtain ⟨c,hc⟩:∃c,Q08 L q=c:=⟨_,rfl⟩;have Z5:X=if c=43 then Qbb sub (decide (d<16)) L most f (q+1) false (acc++[(below,x)]) else if c=45 then Qbb sub (decide (d<16)) L most f (q+1) true (acc++[(below,x)]) else .ok (.sum (acc++[(below,x)]),q):=by
      rw[hX];simp only[hq,hc]
     have P2:=Q3j h1.2.1 h1.2.2 (by have:=(Xo2 H);omega);rw[(Xo0 H)] at P2;simp only[skS,nxB,Tf,Xag,hq,hc] at P2;have C9:p'<q:=(by have:=HG.out x q0 rfl;have:=Q5z L q0;omega);have E3:IntKind.i64.wrap ((q:Int)+1)=(q:Int)+1:=by rw[UO];have:=(Xo2 H);omega
     by_cases h43:c=43
     ·subst h43;have i6:q+1<=s.size:=(by have:=Q0k hc (by decide);have:=(Xo1 H);omega);rw[Uu rfl] at Z5;have n43:((((43:UInt8).toNat:Nat):Int)==43)=true:=(by decide);have H2:=Xh5 P2 h1.1 Z5 i6 C9;clear P2 h1 Z5 hX i6 C9 hq hc D8
      go_wp2_with (go_at_call_of 131 (Value.pointer (some ⟨R,0,none⟩));refine (Xo0 H2).mono ?_;rintro r w2 ⟨rfl,X0,F2⟩;have k1:=X0.c1;have g1:=X0.f1;have H3:=Xh2 X0 F2;clear X0 F2)
      have QD:Q0o (w2.setCell ⟨R,1,none⟩ (.int .i64 ((q:Int)+1))) R s ((q+1:Nat):Int) (most:Int) d false:=(Xo0 H3).setAt ((q:Int)+1);refine ⟨⟨f,q+1,false,false,_,n+1,cap,_,cap2,acc++[(below,x)],vs++[v],rfl,((Xo1 H2).step (Xo4 H) (Xe1 H3)).step (Xo4 H) (Q1y w2 R 1 (.int .i64 ((q:Int)+1))),QD,(Xo3 H2),?_,?_,(Xo2 H2)⟩,?_⟩
      ·have:=(Xo4 HF);have:=(Xe4 H2);omega
      ·have:=(Xo5 HF);have:=(Xe4 H2);omega
      ·rw[QD.atOf,(Xo2 HF).atOf];have:=(Xo3 H2);have:=(Xe4 H2);omega
     ·by_cases h45:c=45
      ·subst h45;have i6:q+1<=s.size:=(by have:=Q0k hc (by decide);have:=(Xo1 H);omega);rw[Us (by decide),Uu rfl] at Z5;have n43:((((45:UInt8).toNat:Nat):Int)==43)=false:=(by decide);have n45:((((45:UInt8).toNat:Nat):Int)==45)=true:=(by decide);have H2:=Xh5 P2 h1.1 Z5 i6 C9;clear P2 h1 Z5 hX i6 C9 hq hc D8
       go_wp2_with (go_at_call_of 131 (Value.pointer (some ⟨R,0,none⟩));refine (Xo0 H2).mono ?_;rintro r w2 ⟨rfl,X0,F2⟩;have k1:=X0.c1;have g1:=X0.f1;have H3:=Xh2 X0 F2;clear X0 F2)
       have QD:Q0o (w2.setCell ⟨R,1,none⟩ (.int .i64 ((q:Int)+1))) R s ((q+1:Nat):Int) (most:Int) d false:=(Xo0 H3).setAt ((q:Int)+1);refine ⟨⟨f,q+1,true,false,_,n+1,cap,_,cap2,acc++[(below,x)],vs++[v],rfl,((Xo1 H2).step (Xo4 H) (Xe1 H3)).step (Xo4 H) (Q1y w2 R 1 (.int .i64 ((q:Int)+1))),QD,(Xo3 H2),?_,?_,(Xo2 H2)⟩,?_⟩
       ·have:=(Xo4 HF);have:=(Xe4 H2);omega
       ·have:=(Xo5 HF);have:=(Xe4 H2);omega
       ·rw[QD.atOf,(Xo2 HF).atOf];have:=(Xo3 H2);have:=(Xe4 H2);omega
      ·rw[Us h43,Us h45] at Z5;have n43:((c.toNat:Int)==43)=false:=Qdd (k:=43) (by decide) h43;have n45:((c.toNat:Int)==45)=false:=Qdd (k:=45) (by decide) h45;have H2:=Xh4 P2 h1.1 Z5 D8;clear P2 h1 Z5 hX D8 C9 hq hc h43 h45
       go_wp2_with (go_at_call_of 131 (Value.pointer (some ⟨R,0,none⟩));refine (Xo0 H2).mono ?_;rintro r w2 ⟨rfl,X0,F2⟩;have k2:=(F2.cell (p:=⟨w.heap.size,0,none⟩) (UI hk) (fun (e:w.heap.size=R)=>by have:=(Xo4 H);omega)).trans hk;have k3:=(F2.cell (p:=⟨w.heap.size,1,none⟩) (UI Z6) (fun (e:w.heap.size=R)=>by have:=(Xo4 H);omega)).trans Z6;have H3:=Xh2 X0 F2;clear X0 F2)
       first|rw[Xae]|skip
       go_ret;rw[(Xo2 H2)];have K4:=(Xo1 H2).step (Xo4 H) (Xe1 H3);refine Q6p.okd ((Xo0 HK).trans0 (Xe1 H3)) ?_ (Xo0 H3) (Xe3 H2);exact Qz5 K4 (by simp)
theorem Q8e {R:Nat} {s:ByteArray} {most:Nat} (hs:s.size<=1000000):∀(k:Nat) (w:World) (p:Nat) (bad:Bool) (d:Int),d=16-(k:Int)->k<=16->Q0o w R s (p:Int) (most:Int) d bad->p<=s.size->(∀W,Q0v (OnR R) w W->Q1s W)->
 Calls Tryz.prog 130 #[.pointer (some ⟨R,0,none⟩)] w (Q6p R s (most:Int) d (Q4j bad p (Q84 s.data.toList most k p)) w)
 |0,w,p,bad,d,hd,_,h,hp,hT=>by
  have he:=Q8d (fun q=>.error q) h hp hs (by omega) (by omega) hT (fun hdd=>by have:=Tt hdd;omega) (fun hdd=>by omega);have hf:decide (d<16)=false:=UX (by omega);rw[hf] at he;exact he
 |k+1,w,p,bad,d,hd,hk,h,hp,hT=>by
  have he:=Q8d (Q84 s.data.toList most k) h hp hs (by omega) (by omega) hT (fun _ p hp=>Qa6 s.data.toList most k p hp) (fun _ W q hW hq hTW=>Q8e hs k W q false (d+1) (by omega) (by omega) hW hq hTW);have hf:decide (d<16)=true:=UT (by omega);rw[hf] at he;exact he
theorem Qsl {i:Nat} (h:i<9):(Q3f i).length=6:=by rw[Q3f,Q1t (by omega)];rfl
theorem Qn6 (i:Nat) (hi:i<9) (w:World):Calls Tryz.prog 70 #[.int .i64 (i:Int)] w fun e w'=>e=.returned (.string ⟨(Q3f i).toArray⟩)/\w=w':=by
 have Qt:IntKind.i64.wrap ((i:Int)+1)=(i:Int)+1:=by rw[UO];omega
 have O8:=Tryz.J1m (i+1) (by omega) w;rw[show ((i+1:Nat):Int)=(i:Int)+1 by omega] at O8;obtain ⟨c,hc⟩:∃c,Lib.decDigits (i+1)=[c]:=⟨_,Q1t (by omega)⟩;rw[hc] at O8;have H:=Xh2 O8 hc;clear O8 hc
 go_enter Tryz.func70,Tryz.ntmps70
 go_wp2_with fail
 refine (Xo0 H).mono ?_;rintro r w1 ⟨rfl,rfl⟩
 go_wp2_with fail
 go_ret;refine ⟨?_,rfl⟩;rw[Q3f,show dec (i+1)=[c] from (Xe1 H)];rfl
def Qvn:List (Nat × Ex)->LV->LV
 |(p,_)::r,u::s=>.int .i64 (p:Int)::u::Qvn r s
 |_,_=>[]
theorem Qj8 (p:Nat) (x:Ex) (u:Value):∀(acc:List (Nat × Ex)) (us:LV),acc.length=us.length->Qvn (acc++[(p,x)]) (us++[u])=Qvn acc us++[.int .i64 (p:Int),u]
 |[],[],_=>rfl
 |(q,y)::r,v::s,h=>by
  rw[To,To,Qvn,Qvn,Qj8 p x u r s (by simpa using h)];rfl
 |[],_::_,h=>by simp at h
 |_::_,[],h=>by simp at h
def Q5j (w:World) (g:Nat) (o:Nat):List (Nat × Ex)->Prop
 |[]=>True
 |(p,x)::r=>w.cell? ⟨g,o,none⟩=some (.int .i64 (p:Int))/\(∃u,w.cell? ⟨g,o+1,none⟩=some u/\Q2v (fun _=>False) w x u)/\Q5j w g (o+2) r
theorem Q5j.step {w w':World} {g:Nat} (hg:g<w.heap.size) (hb:Bw w w'):∀{l:List (Nat × Ex)} {o:Nat},Q5j w g o l->Q5j w' g o l
 |[],_,_=>trivial
 |(_,_)::_,_,h=>⟨(hb.cell (p:=⟨g,_,none⟩) hg).trans h.1,by obtain ⟨u,h1,h2⟩:=h.2.1;exact ⟨u,(hb.cell (p:=⟨g,_,none⟩) hg).trans h1,h2.step hb⟩,Q5j.step hg hb h.2.2⟩
theorem Qn7 {fp:Nat->Prop} {w:World} {g:Nat}:∀{l:List (Nat × Ex)} {us:LV} (o:Nat),Q1b fp w (l.map (·.2)) us->(∀j v,(Qvn l us)[j]?=some v->w.cell? ⟨g,o+j,none⟩=some v)->Q5j w g o l
 |[],_,_,_,_=>trivial
 |(p,x)::r,u::s,o,h,hc=>by
  refine ⟨by simpa using hc 0 _ rfl,⟨u,hc 1 u rfl,h.1.more fun _ h=>h.elim⟩,Qn7 (o+2) h.2 fun j v hv=>?_⟩;have:=hc (j+2) v (by simpa[Qvn] using hv);rwa[show o+(j+2)=o+2+j by omega] at this
 |_::_,[],_,h,_=>h.elim
def Q5v (w:World) (X:Except Nat (List (Nat × Ex))) (e:Ending) (w':World):Prop:=
 ∃a n c p b,e=.returned (.tuple #[.slice a n c,.int .i64 p,.bool b])/\Bw w w'/\match X with
  | .error q=>b=false/\p=(q:Int)
  | .ok l=>b=true/\∃g,a=some ⟨g,0,none⟩/\g<w'.heap.size/\n=l.length/\n<=c/\c<=maxLen/\Q5j w' g 0 l
theorem Q5v.bad {w w':World} {X:Except Nat (List (Nat × Ex))} {p n c:Nat} {a:OA} (hX:X=.error p) (hb:Bw w w'):Q5v w X (.returned (.tuple #[.slice a n c,.int .i64 (p:Int),.bool false])) w':=
 ⟨a,n,c,(p:Int),false,rfl,hb,by rw[hX];exact ⟨rfl,rfl⟩⟩
theorem Below.drewN' {B:Nat} {w w':World} (h:Below B w w') (k:Nat):Below B w (w'.drewN k):=⟨h.os,h.tape,h.output,h.size,h.block⟩
structure Qj9 (w wr:World) (a:OA) (n c:Nat) (acc:List (Nat × Ex)) (us:LV):Prop where
 row:Row wr (w.heap.size+1) 121 2 a n c (Qvn acc us)
 nodes:Q1b (fpR w.heap.size a) wr (acc.map (·.2)) us
 len:acc.length=n
theorem Qfh {w:World} {B k:Nat} {T:TypeId} {a:OA} {n c:Nat} {vs:LV} (h:Row w B T k a n c vs) {x:Addr} (hx:a=some x):B<=x.block/\x.block<w.heap.size:=by
 rcases h.form with ⟨h0,_⟩|⟨g,cur,h0,h1,h2,_⟩
 ·rw[h0] at hx;cases hx
 ·rw[h0] at hx;injection hx with hx;subst hx;exact ⟨h1,h2⟩
theorem Q5v.good {w wr:World} {X:Except Nat (List (Nat × Ex))} {p:Int} {n c:Nat} {a:OA} {acc:List (Nat × Ex)} {us:LV} {k:Nat} (h:Qj9 w wr a n c acc us) (hX:X=.ok acc) (hn:n≠0) (hb:Bw w wr):Q5v w X (.returned (.tuple #[.slice a n c,.int .i64 p,.bool true])) (wr.drewN k):=by
 refine ⟨a,n,c,p,true,rfl,⟨hb.os,hb.tape,hb.output,hb.size,hb.block⟩,?_⟩;rw[hX];rcases h.row.form with ⟨_,h0,_⟩|⟨g,cur,rfl,h1,h2,h3,h4,h5,h6,h7⟩
 ·exact absurd h0 hn
 ·refine ⟨rfl,g,rfl,h2,h.len.symm,h4,h5,?_⟩;have hl:Q5j wr g 0 acc:=Qn7 0 h.nodes fun j v hv=>by
   obtain ⟨g',e,_,_,hc⟩:=h.row.at_ hv;injection e with e;injection e with e;subst e;rw[UV];exact hc
  exact hl.step h2 (Qj1 _ _)
theorem Qj9.step {w wr w':World} {a:OA} {n c:Nat} {acc:List (Nat × Ex)} {us:LV} (h:Qj9 w wr a n c acc us) (ht:Q0v (OnR w.heap.size) wr w'):Qj9 w w' a n c acc us:=
 ⟨h.row.turn ht (fun x hx (e:x.block=w.heap.size)=>by have:=Qfh h.row hx;omega),h.nodes.turn ht (fun k (hk:k=w.heap.size)=>.inl (Nat.le_of_eq hk)),h.len⟩
theorem Qj9.next {w w3 w4:World} {a:OA} {n c:Nat} {acc:List (Nat × Ex)} {us:LV} {B3:Nat} (h:Qj9 w w3 a n c acc us) (E0:w.heap.size<B3) (WS:∀x,a=some x->x.block<B3) {o:Obj} (Z7:(w3.alloc o).grownBy w4 (a.map (·.block))) {a':OA} {cap p:Nat} {x:Ex} {u:Value} (hx:Q2v (·<B3) w3 x u)
 (A1:Row w4 (w.heap.size+1) 121 2 a' (n+1) cap (Qvn acc us++[.int .i64 (p:Int),u])) (R1:a'.map (·.block)=a.map (·.block)∨a'.map (·.block)=some (w3.alloc o).heap.size):
 Qj9 w w4 a' (n+1) cap (acc++[(p,x)]) (us++[u]):=by
 have Kh:∀k,fpR w.heap.size a' k->fpR w.heap.size a k∨w3.heap.size<=k:=by
  rintro k (hk|⟨y,hy,hk⟩)
  ·exact .inl (.inl hk)
  ·subst hy;rcases R1 with h1|h1
   ·cases a with
    |none=>simp at h1
    |some z=>simp only[UE,Up] at h1;exact .inl (.inr ⟨z,rfl,by rw[<-h1];exact hk⟩)
   ·simp only[UE,Up] at h1;rw[Uk] at h1;exact .inr (by omega)
 have ZA:Q0v (fun k=>∃y,a=some y/\y.block=k) w3 w4:=(Q0v.of_below (Ba) _).trans0 (Q0v.of_grown Z7 fun r hr _=>by
  cases a with
  |none=>simp at hr
  |some y=>simp only[UE,Up] at hr;exact ⟨y,rfl,hr⟩)
 have hU:∀k,(fpR w.heap.size a k∨fpR w.heap.size a' k)->fpR w.heap.size a k∨w3.heap.size<=k:=fun k hk=>hk.elim .inl (Kh k);have hA:∀k,fpR w.heap.size a k->k<B3:=by
  rintro k (hk|⟨y,hy,rfl⟩)
  ·omega
  ·exact WS y hy
 refine ⟨?_,?_,by rw[Uh,h.len];rfl⟩
 ·rw[Qj8 _ _ _ _ _ (by have:=h.nodes.len;simpa using this)];exact A1
 ·rw[UZ];have A5:=((h.nodes.more hU).turn ZA (fun k hk=>.inl (.inr hk))).more (fp':=fpR w.heap.size a') (fun k hk=>.inl (.inr hk));have h1:=((hx.more (fp':=fun k=>fpR w.heap.size a k∨fpR w.heap.size a' k) fun k hk=>(hU k hk).imp (hA k) id).turn ZA (fun k hk=>.inl (.inr hk))).more (fp':=fpR w.heap.size a') (fun k hk=>.inl (.inr hk));exact A5.snoc h1
theorem Qiy.form {R:Nat} {s:ByteArray} {m d:Int} {X:Except Nat Nat} {w:World} (h:Qiy R s m d X w):∃(q:Nat) (b:Bool),Q0o w R s (q:Int) m d b/\q<=s.size/\X=if b=true then .error q else .ok q:=by
 unfold Qiy at h;cases X with
 |error q=>exact ⟨q,true,h.1,h.2,rfl⟩
 |ok q=>exact ⟨q,false,h.1,h.2,rfl⟩
theorem Q6p.form {R:Nat} {s:ByteArray} {m d:Int} {r:PR Ex} {w:World} {e:Ending} {w':World} (h:Q6p R s m d r w e w'):∃(t:TypeId) (u:Value) (q:Nat) (b:Bool),e=.returned (.iface t u)/\Q0v (OnR R) w w'/\Q0o w' R s (q:Int) m d b/\q<=s.size/\(b=true->r=.error q)/\(b=false->∃x,r=.ok (x,q)/\Q2v (·<w.heap.size) w' x (.iface t u)):=by
 obtain ⟨t,u,rfl,ht,h2⟩:=h;cases r with
 |error q=>exact ⟨t,u,q,true,rfl,ht,h2.1,h2.2,fun _=>rfl,fun e=>by cases e⟩
 |ok z=>exact ⟨t,u,z.2,false,rfl,ht,h2.2.1,h2.2.2,(fun e=>by cases e),fun _=>⟨z.1,rfl,h2.1⟩⟩
theorem Qp6 {L:LU} {m n p q1 q2 q4:Nat} {b1 b2 b4:Bool} (h1:Q2e L (Q3f n) p=if b1=true then .error q1 else .ok q1)
 (h2:b2=true->Q4j b1 q1 (Q84 L m 16 q1)=.error q2) (h3:b2=false->∃x,Q4j b1 q1 (Q84 L m 16 q1)=.ok (x,q2))
 (h4:(if b2=true then Except.error (skS L q2 b2) else Q2e L [10] (skS L q2 b2))=if b4=true then Except.error q4 else Except.ok q4):
 (b4=true->Qg5 L m n p=.error q4)/\(b4=false->b1=false/\b2=false/\∃x,Q84 L m 16 q1=.ok (x,q2)/\Qg5 L m n p=.ok (x,q4)):=by
 unfold Qg5;cases b1 with
 |true=>
  have D0:b2=true:=by
   cases b2 with
   |true=>rfl
   |false=>obtain ⟨x,hx⟩:=h3 rfl;cases hx
  subst D0;have e:=h2 rfl;have e:Except.error q1=(Except.error q2:PR Ex):=e;injection e with e;subst e;rw[h1];simp only[Xa8,skS] at h4⊢;cases b4 with
  |true=>simp only[Xa8] at h4;injection h4 with h4;subst h4;exact ⟨fun _=>rfl,fun e=>by cases e⟩
  |false=>simp at h4
 |false=>
  rw[h1];simp only[Tf,Xag];have e2:Q4j false q1 (Q84 L m 16 q1)=Q84 L m 16 q1:=rfl;rw[e2] at h2 h3;cases b2 with
  |true=>
   rw[h2 rfl];simp only[Xa8,skS] at h4⊢;cases b4 with
   |true=>simp only[Xa8] at h4;injection h4 with h4;subst h4;exact ⟨fun _=>rfl,fun e=>by cases e⟩
   |false=>simp at h4
  |false=>
   obtain ⟨x,hx⟩:=h3 rfl;rw[hx];simp only[Tf,Xag,skS,Qsa] at h4⊢
   by_cases L8:Q08 L (Q05 L q2)=10
   ·rw[Uu L8] at h4⊢;cases b4 with
    |true=>simp at h4
    |false=>simp only[Tf,Xag] at h4;injection h4 with h4;subst h4;exact ⟨(fun e=>by cases e),fun _=>⟨trivial,trivial,x,rfl,rfl⟩⟩
   ·rw[Us L8] at h4⊢;cases b4 with
    |true=>simp only[Xa8] at h4;injection h4 with h4;subst h4;exact ⟨fun _=>rfl,fun e=>by cases e⟩
    |false=>simp at h4
theorem Qsm:(Tryz.prog.info? 121).map (fun i=>(i.zero,i.size,i.bytes))=some (some (.agg #[.int .i64 0,.nilIface]),2,24):=by kernel_rfl
def nOf (v:Value):Nat:=match v with| .slice _ n _=>n|_=>0
def Qz6 (w:World) (s:ByteArray) (L:LU) (m:Nat) (X:Except Nat (List (Nat × Ex))) (sv:Value) (wr:World):Prop:=
 ∃(p:Nat) (bd:Bool) (a:OA) (n c:Nat),sv=.slice a n c/\n<=5/\Q0o wr w.heap.size s (p:Int) (m:Int) 0 bd/\p<=s.size/\Bw w wr/\
  (bd=true->X=.error p/\0<n)/\(bd=false->n<=4/\∃acc us,Qj9 w wr a n c acc us/\X=if n=0∨p<s.size then Q4s L m (4-n) p acc else .ok acc)
theorem Qsn (s:ByteArray) (w:World) (hs:s.size<=1000000) (hT:Q1s w):
 Calls Tryz.prog 84 #[.string s] w (Q5v w (Q4s s.data.toList (min (s.data.toList.count 10) 4) 4 0 [])):=by
 obtain ⟨i0,O2,E2,I2,X1⟩:=Q1c Qsm;obtain ⟨L,hL⟩:∃L,s.data.toList=L:=⟨_,rfl⟩;have U8:L.length=s.size:=by rw[<-hL];rfl
 have u5:Calls Tryz.prog 128 #[.string s,.string ⟨#[10]⟩] w fun e w'=>e=.returned (.int .i64 (Lib.countByte s.data.toList 10:Nat))/\w=w':=(Tryz.J21 s 10 w).mono fun _ _ h=>⟨h.1,h.2.symm⟩;obtain ⟨N,hN⟩:∃N:Nat,Lib.countByte s.data.toList 10=N:=⟨_,rfl⟩;rw[hN] at u5;have hNc:L.count 10=N:=by rw[<-hL];exact hN
 obtain ⟨M,hM⟩:∃M:Nat,min N 4=M:=⟨_,rfl⟩;have hmin:min (N:Int) 4=(M:Int):=by omega
 obtain ⟨X,hX⟩:∃X,Q4s L M 4 0 []=X:=⟨_,rfl⟩;rw[hL,hNc,hM,hX];have N6:Bw w (w.alloc (.cells #[.string s,.int .i64 0,.int .i64 (M:Int),.int .i64 0,.bool false] 166)):=Ba;have j9:Q0o (w.alloc (.cells #[.string s,.int .i64 0,.int .i64 (M:Int),.int .i64 0,.bool false] 166)) w.heap.size s ((0:Nat):Int) (M:Int) 0 false:=by
  have hc:=fun o=>Uw (w.alloc (.cells #[.string s,.int .i64 0,.int .i64 (M:Int),.int .i64 0,.bool false] 166)) w.heap.size o _ _ _ (Uo _ _);have hf:=fun o=>TO (w.alloc (.cells #[.string s,.int .i64 0,.int .i64 (M:Int),.int .i64 0,.bool false] 166)) w.heap.size o _ _ (Uo _ _);exact ⟨(hc 0).trans rfl,(hc 1).trans rfl,(hc 2).trans rfl,(hc 3).trans rfl,(hc 4).trans rfl,hf 0,hf 1,hf 2,hf 3,hf 4,Q0p _ _,fun o ho=>by rw[hc o];exact Array.getElem?_eq_none (by simpa using ho)⟩
 have H:=Xh8 hL U8 hs u5 hX hT N6 j9;clear hL U8 hs u5 hN hNc hX hT hM N6 j9
 go_enter Tryz.func84,Tryz.ntmps84
 go_wp2_with (go_at_call_of 128 (Value.string s);refine (Xo3 H).mono ?_;rintro r w1 ⟨rfl,rfl⟩)
 go_loopw [6] (fun sv wr=>Qz6 w s L M X sv wr) (fun sv _=>5-nOf sv)
 case atStart=>
  exact ⟨0,false,none,0,0,rfl,by omega,(Xe7 H),Ut _,(Xo6 H),(fun e=>by cases e),fun _=>⟨by omega,[],[],⟨Row.nil_ _ _ _ _,trivial,rfl⟩,by rw[Uu (.inl rfl)];exact (Xo4 H).symm⟩⟩
 case round=>
  obtain ⟨p,bd,a,n,c,rfl,hn5,hr,hp,hb,QG,JW⟩:=hrel;obtain ⟨b,XW⟩:∃b:Bool,(if bd=true then false else decide (n=0∨p<s.size))=b:=⟨_,rfl⟩;have k0:=hr.c0;have k1:=hr.c1;have k4:=hr.c4;have HR:=Xh7 hr hp hb QG JW XW hn5;clear hr hp hb QG JW XW
  go_upto_region 3 with fail
  go_cut [40] (fun v wx=>v=.bool b/\wr=wx)
  case first=>
   have XW:=(Xo5 HR);have h0n:=(Xo3 HR);cases bd with
   |true=>
    have G9:((n:Int)==0)=false:=(by rw[Uj];have:=(h0n rfl).2;omega);simp only[Xa8] at XW;subst XW;clear h0n
    by_cases E0:p<s.size
    ·have F0:(p:Int)<(s.size:Int):=by omega
     go_wp2_with fail
     go_meet;exact ⟨rfl,rfl⟩
    ·have F0:¬(p:Int)<(s.size:Int):=by omega
     go_wp2_with fail
     go_meet;exact ⟨rfl,rfl⟩
   |false=>
    clear h0n;simp only[Tf,Xag] at XW
    by_cases E0:p<s.size
    ·have F0:(p:Int)<(s.size:Int):=(by omega);rw[UT (Or.inr E0)] at XW;subst XW
     go_wp2_with fail
     go_meet;exact ⟨rfl,rfl⟩
    ·have F0:¬(p:Int)<(s.size:Int):=by omega
     by_cases G9:n=0
     ·rw[UT (Or.inl G9)] at XW;have hn0':((n:Int)==0)=true:=(by rw[G9];rfl);subst XW;clear G9
      go_wp2_with fail
      go_meet;exact ⟨rfl,rfl⟩
     ·rw[UX (fun h=>h.elim G9 E0)] at XW;have hn0':((n:Int)==0)=false:=(by rw[Uj];omega);subst XW;clear G9
      go_wp2_with fail
      go_meet;exact ⟨rfl,rfl⟩
  case rest=>
   obtain ⟨rfl,rfl⟩:=hcut;cases b with
   |false=>
    cases bd with
    |true=>
     have hx:=((Xo3 HR) rfl).1;have HX:=Ua hx;clear hx
     go_wp2_with fail
     go_quiet (fail)
     go_wp2_with fail
     exact ⟨rfl,.tuple #[.slice a n c,.int .i64 (p:Int),.bool false],by simp[results,go_sem],Q5v.bad HX.out (Below.drewN' (Xo2 HR) _)⟩
    |false=>
     obtain ⟨Qx,acc,us,Y0,hx⟩:=(Xo4 HR) rfl;have Yx:¬(n=0∨p<s.size):=Xam (by have:=(Xo5 HR);simpa using this);rw[Us Yx] at hx;have HX:=Xh3 Y0 hx Yx;clear Y0 hx Yx Qx
     go_wp2_with fail
     go_quiet (fail)
     go_wp2_with fail
     exact ⟨rfl,.tuple #[.slice a n c,.int .i64 (p:Int),.bool true],by simp[results,go_sem],Q5v.good (Xo0 HX) (Xo1 HX) (fun h=>(Xe2 HX) (.inl h)) (Xo2 HR)⟩
   |true=>
    have I9:bd=false:=by
     have:=(Xo5 HR);cases bd with
     |false=>rfl
     |true=>simp at this
    subst I9;obtain ⟨Qx,acc,us,Y0,hx⟩:=(Xo4 HR) rfl;have QQ:n=0∨p<s.size:=Tt (by have:=(Xo5 HR);simpa using this);rw[Uu QQ] at hx
    by_cases h4:n=4
    ·subst h4;have D9:X=.error p:=(by rw[hx];rfl);have HX:=Ua D9;clear hx D9 Y0 QQ Qx
     go_wp2_with fail
     go_quiet (fail)
     go_wp2_with fail
     exact ⟨rfl,.tuple #[.slice none 0 0,.int .i64 (p:Int),.bool false],by simp[results,go_sem],Q5v.bad HX.out (Below.drewN' (Xo2 HR) _)⟩
    ·have hn4':((n:Int)==4)=false:=(by rw[Uj];omega);have Vr:s.size<=281474976710656:=(by have:=(Xo2 H);omega);have QJ:=fun W=>Qn6 n (by omega) W;have Zp:=fun W (hW:Q0o W w.heap.size s (p:Int) (M:Int) 0 false)=>Q9q hW (Xo1 HR) Vr ⟨(Q3f n).toArray⟩ (by show (Q3f n).toArray.size<=_;rw[Xbi,Qsl (by omega)];decide) (by
      have:=Qs4 (i:=n) (by omega);intro c hc e;subst e;exact this (by simpa using hc)) (by rw[Q3f];exact Nat.succ_pos _)
     rw[(Xo0 H)] at Zp;simp only[Tf,Xag] at Zp;have ZP:∀W1 W,Bw w W1->Q0v (OnR w.heap.size) W1 W->Q1s W:=fun W1 W h1 h2=>(Xo5 H).step (Below.turn h1 h2 h1.size (fun k (hk:k=w.heap.size)=>by omega));have d6:=fun (W:World) (q:Nat) (bd':Bool) (hW:Q0o W w.heap.size s (q:Int) (M:Int) 0 bd') (hq:q<=s.size) (F7:Bw w W)=>Q8e (Xo2 H) 16 W q bd' 0 (by decide) (by decide) hW hq (fun W' h'=>ZP W W' F7 h');rw[(Xo0 H)] at d6;have Yt:=fun (W:World) (q:Nat) (bd':Bool) (hW:Q0o W w.heap.size s (q:Int) (M:Int) 0 bd') (hq:q<=s.size)=>Q3j hW hq Vr;rw[(Xo0 H)] at Yt;have Y5:=fun (W:World) (q:Nat) (bd':Bool) (hW:Q0o W w.heap.size s (q:Int) (M:Int) 0 bd') (hq:q<=s.size)=>Q9q hW hq Vr ⟨#[10]⟩ (by decide) (by decide) (by decide);rw[(Xo0 H)] at Y5;have HC:=Xh5 QJ Zp d6 Yt Y5;have HX:=Xh4 Y0 hx QQ Qx;have HI:=Xh4 O2 E2 I2 X1;clear QJ Zp d6 Yt Y5 Y0 hx QQ Qx Vr ZP
     go_upto_region 8 with (first
      |(go_at_call_of 70 (Value.int IntKind.i64 (n:Int));refine ((Xo0 HC) _).mono ?_;rintro r w1 ⟨rfl,rfl⟩)
      |(go_at_call_of 129 (Value.pointer (some ⟨w.heap.size,0,none⟩));refine ((Xo1 HC) _ (Xo0 HR)).mono ?_;rintro r w1 ⟨rfl,I3,j5⟩;obtain ⟨q1,b1,M1,i6,XM⟩:=j5.form;have H1:=Xh4 I3 M1 i6 XM;clear I3 M1 i6 XM j5))
     have A0:Bw w w1:=Below.turn (Xo2 HR) (Xo0 H1) (Xo2 HR).size (fun k (hk:k=w.heap.size)=>by omega);have O0:=Ua A0;clear A0
     go_upto_region 9 with (go_at_call_of 130 (Value.pointer (some ⟨w.heap.size,0,none⟩));refine ((Xo2 HC) w1 q1 b1 (Xo1 H1) (Xo2 H1) O0.out).mono ?_;rintro r w2 Xu;obtain ⟨t,u,q2,b2,rfl,F2,X0,J5,o4,hn2'⟩:=Xu.form;have H2:=Xh5 F2 X0 J5 o4 hn2';clear F2 X0 J5 o4 hn2' Xu)
     go_upto_region 10 with (go_at_call_of 131 (Value.pointer (some ⟨w.heap.size,0,none⟩));refine ((Xo3 HC) w2 q2 b2 (Xo1 H2) (Xo2 H2)).mono ?_;rintro r w3 ⟨rfl,M7,Y8⟩;have H3:=Xh2 M7 Y8;clear M7 Y8)
     have ZV:skS L q2 b2<=s.size:=by
      unfold skS
      split
      ·exact (Xo2 H2)
      ·rw[<-(Xo1 H)];exact Q3a (by have:=(Xo1 H);have:=(Xo2 H2);omega)
     have HQ3:=Ua ZV;clear ZV
     go_upto_region 11 with (go_at_call_of 129 (Value.pointer (some ⟨w.heap.size,0,none⟩));refine ((Xe4 HC) w3 _ b2 (Xo0 H3) HQ3.out).mono ?_;rintro r w4 ⟨rfl,ZR,hf4⟩;obtain ⟨q4,b4,QD,hq4,he4⟩:=hf4.form;have H4:=Xh4 ZR QD hq4 he4;clear ZR QD hq4 he4 hf4)
     obtain ⟨B5,Z4⟩:=Qp6 (Xe3 H1) (Xo3 H2) (fun e=>((Xe4 H2) e).imp fun _ h=>h.1) (Xe3 H4);have hst4:=((((Xo0 HX).step (Xo0 H1)).step (Xo0 H2)).step (Xe1 H3)).step (Xo0 H4);have Wp:=(Xe1 H3).trans0 (Xo0 H4);have N1:Bw w w4:=Below.turn O0.out ((Xo0 H2).trans0 Wp) O0.out.size (fun k (hk:k=w.heap.size)=>by omega);have A5:n+1<=5:=(by have:=(Xe3 HX);omega);obtain ⟨O2,E2,I2,X1⟩:=HI.out;have R9:=hst4.row;have hsz4:w.heap.size+1<=w4.heap.size:=(Xo1 H4).lt;have HL:=Xh5 B5 Z4 hst4 Wp N1;clear B5 Z4 hst4 Wp N1
     go_wp2_with (at_builtin;refine Q0t rfl (.tmp 63) (.tmp 67) 115 rfl _ _ 121 i0 _ 2 24 Tryz.underlying115 O2 E2 I2 X1 rfl (by decide) (w.heap.size+1) (Uc _ _) (by rw[Uk];omega) a n c _ rfl (R9.alloc _) ⟨w4.heap.size,0,none⟩ 1 1 [.int .i64 (p:Int),.iface t u] rfl rfl (TR (cs:= #[.int .i64 (p:Int),.iface t u]) (Uo w4 _)) (by simp[Value.oneCell']) (n+1) rfl (by omega) (by omega) ?_;intro a5 c5 w5 ho5 hg5 C1 hat5;have HO:=Xh4 ho5 C1 hg5 hat5;clear ho5 hg5 C1 hat5)
     have hB:Bw w w5:=((Xe4 HL).alloc (Xe4 HL).size _).trans ⟨(Xo1 HO).os,(Xo1 HO).tape,(Xo1 HO).output,(Xo1 HO).size,fun k hk=>(Xo1 HO).block k (by omega)⟩;have hst5:=(Xo2 HL);have WS:∀x,a=some x->w.heap.size+1<=x.block/\x.block<w1.heap.size:=fun x hx=>Qfh ((Xo0 HX).step (Xo0 H1)).row hx;have Ku:Q0v (fun k=>∃y,a=some y/\y.block=k) w4 w5:=(Q0v.of_below (Ba) _).trans0 (Q0v.of_grown (Xo2 HO) fun r hr _=>by
      cases a with
      |none=>simp at hr
      |some y=>simp only[UE,Up] at hr;exact ⟨y,rfl,hr⟩)
     have ZX:=(Xo1 H4).keep Ku (by rintro ⟨y,hy,e⟩;have:=WS y hy;omega);refine ⟨⟨q4,b4,a5,n+1,c5,rfl,by omega,ZX,(Xo2 H4),hB,fun e=>⟨?_,Nat.succ_pos _⟩,fun e=>⟨by have:=(Xe3 HX);omega,?_⟩⟩,by simp only[nOf];omega⟩
     ·rw[(Xo1 HX),show 4-n=(4-(n+1))+1 by omega,Q4s,show acc.length=n from (Xo0 HX).len,(Xo0 HL) e]
     ·obtain ⟨e1,e2,x,S4,Q3⟩:=(Xo1 HL) e;subst e1;subst e2;obtain ⟨x',D9,hxat⟩:=(Xe4 H2) rfl;have hxx:x'=x:=by
       have h':Q84 L M 16 q1=.ok (x',q2):=D9;rw[S4] at h';injection h' with h';injection h' with h' _;exact h'.symm
      subst hxx;have hx4:=hxat.turn (Xo3 HL) (fun k (hk:k=w.heap.size)=>by subst hk;exact (Xo1 H1).lt);refine ⟨_,_,hst5.next (Xo1 H1).lt (fun x hx=>(WS x hx).2) (Xo2 HO) hx4 (Xo0 HO) (Xe3 HO),?_⟩;rw[(Xo1 HX),show 4-n=(4-(n+1))+1 by omega,Q4s,show acc.length=n from (Xo0 HX).len,Q3];simp only[Nat.succ_ne_zero,false_or,(Xo1 H)]
end Go.Proofs.YtidojbkhlenahaaGreatDoor
namespace Go.Proofs.YtidojbkhlenahaaGreatDoor
open Go.RowKit WordsM
theorem Qdj {P:Program} {ops:Array Oper} {o:Oper} {a:Act} {w:World} {K:Act->World->Prop} {Q:Exit->Act->World->Prop} {E:Prop} (X9:o.guard=none) (s x:Operand) (t1 t2:TypeId) (ho:o.op=.call { callee:=.builtin .append,args:= #[s,x],argTypes:= #[t1,t2] })
 (va vx:Value) (hs:a.eval s=va) (hx:a.eval x=vx) (v:Value) (w':World) (Q1:(Builtin.append_ #[t1,t2] o.type #[va,vx]).run P w=.ok v w') (h:K (a.put o.dst v) w'):if Region.wanted o (yielded ops a.tmps)=true then Oper.wp P o a w K Q else E:=by
 rw[Uu (by simp[Region.wanted,X9])];unfold Oper.wp execOp;simp only[ho,resolve,invoke,builtin,Sem.run_bind,Sem.run_pure,Result.andThen_ok,List.map_toArray,Xai,List.map_nil,hs,hx,Q1];exact h
def Qwp (m:Q00):Q00:=⟨!m.neg,m.exp,m.ws,m.es⟩
theorem Qso (m:Q00):(Qwp m).term=(-m.term.1,m.term.2):=by
 show (Q1r (!m.neg) m.exp m.ws,m.es)=(-Q1r m.neg m.exp m.ws,m.es)
 unfold Q1r;rw[Qqi,Qcb]
theorem Qxx {k:Nat} {m:Q00} (h:OkM k m):OkM k (Qwp m):=by
 obtain ⟨⟨h1,h2⟩,h3⟩:=h;refine ⟨⟨h1,?_⟩,h3⟩
 show Q0a (!m.neg) m.exp m.ws
 unfold Q0a at h2⊢;rw[Us h3] at h2⊢;exact h2
theorem Qp7 (ms:List Q00):(ms.map Qwp).map Q00.term=Q96 (ms.map Q00.term):=by
 unfold Q96;rw[Xbs,Xbs];exact List.map_congr_left fun m _=>Qso m
theorem Qfi {k:Nat} {ms:List Q00} (h:Q1p k ms):Q1p k (ms.map Qwp):=by
 obtain ⟨h1,h2,h3,h4,h5⟩:=h;refine ⟨h1,h2,by rw[UF];exact h3,fun m hm=>?_,?_⟩
 ·obtain ⟨m0,C8,rfl⟩:=Tx.1 hm;exact Qxx (h4 m0 C8)
 ·rw[List.pairwise_map];exact h5
def Qsp [LT ZK] (w:World) (ms:List Q00) (s3 s8:Value) (wx:World):Prop:=∃(i:Nat) (a:OA) (c:Nat),s3=.slice a i c/\s8=.int .i64 (i:Int)/\i<=ms.length/\Q2m w.heap.size wx a i c ((ms.take i).map Qwp)/\Bw w wx
theorem Qsq [LT ZK] {w w3 w6:World} {ms:List Q00} {i:Nat} {x:Q00} {a1 a3:OA} {l3 c3 c1 c6 g6 be oe le ce:Nat} {xs:LV} (E0:i<ms.length) (hx:ms[i]?=some x) (S6:WordsIn w3 a3 l3 c3 x.ws) (he:Q0q w (some ⟨be,oe,none⟩) le ce x.es) (I8:be<w.heap.size) (hb:Bw w w3) (B4:Q2m w.heap.size w3 a1 i c1 ((ms.take i).map Qwp))
 (hr:Q88 NoU w3 w.heap.size 98 4 a1 i c1 xs) (O3:Q88 NoU w6 w.heap.size 98 4 (some ⟨g6,0,none⟩) (i+1) c6 (xs++[.bool (!x.neg),.int .i64 x.exp,.slice a3 l3 c3,.slice (some ⟨be,oe,none⟩) le ce]))
 (C3:(w3.alloc (.cells #[.bool (!x.neg),.int .i64 x.exp,.slice a3 l3 c3,.slice (some ⟨be,oe,none⟩) le ce] 98)).grownBy w6 (a1.map (·.block))) (z5:a1=some ⟨g6,0,none⟩∨g6=(w3.alloc (.cells #[.bool (!x.neg),.int .i64 x.exp,.slice a3 l3 c3,.slice (some ⟨be,oe,none⟩) le ce] 98)).heap.size):
 Qsp w ms (.slice (some ⟨g6,0,none⟩) (i+1) c6) (.int .i64 ((i:Int)+1)) w6:=by
 have N1:=hb.alloc hb.size (.cells #[.bool (!x.neg),.int .i64 x.exp,.slice a3 l3 c3,.slice (some ⟨be,oe,none⟩) le ce] 98);refine ⟨i+1,_,c6,rfl,congrArg (Value.int .i64) (by omega),E0,?_,?_⟩
 ·rw[Tr,hx,UZ];exact B4.push hr (o:=(.cells #[.bool (!x.neg),.int .i64 x.exp,.slice a3 l3 c3,.slice (some ⟨be,oe,none⟩) le ce] 98)) C3 z5 (m:=Qwp x) O3 rfl S6 (he.step hb) (Ue I8 hb.size) (fun z hz e=>by have:=(B4.lt hz).1;omega)
 ·exact N1.trans ⟨C3.os,C3.tape,C3.output,C3.size,fun z hz=>C3.block z (Ue hz N1.size) (fun e=>by
   cases a1 with
   |none=>simp at e
   |some q=>simp only[UE,Up] at e;have:=(B4.lt rfl).1;omega)⟩
theorem Qp8 [LT ZK] (a:OA) (n c:Nat) (ms:List Q00) (k:Nat) (w:World) (h:Q0e w a n c ms) (hr:Q1p k ms):
 Calls Tryz.prog 190 #[.slice a n c] w fun r w'=>∃a' c',r=.returned (.slice a' n c')/\Q0e w' a' n c' (ms.map Qwp)/\Bw w w':=by
 have Q2:=h.1;have hn:n<=24:=by have:=hr.2.2.1;omega
 have J2:=hr.1;obtain ⟨i0,O2,E2,I2,X1⟩:=Q1c Q7u;have HI:=Xh4 O2 E2 I2 X1;have H:=Xh2 h hr;clear h hr O2 E2 I2 X1
 go_enter Tryz.func190,Tryz.ntmps190
 go_wp2_with fail
 go_loopw [3,8] (fun s3 s8 wr=>Qsp w ms s3 s8 wr) (fun _ iv _=>n-(intOf iv).toNat)
 case atStart=>exact ⟨0,none,0,rfl,rfl,Ut _,Q2m.nil_ _ _,Uc _ _⟩
 case round=>
  obtain ⟨i,a1,c1,rfl,rfl,hi,R0,M0⟩:=hrel
  by_cases E0:i<ms.length
  ·have F0:(i:Int)<(n:Int):=(by omega);obtain ⟨x,hx⟩:∃x,ms[i]?=some x:=⟨_,Ub E0⟩;obtain ⟨b0,o0,rfl,Z0,R1⟩:∃b o,a=some ⟨b,o,none⟩/\b<w.heap.size/\∀j m,ms[j]?=some m->Q41 w b (o+j*4) m:=by
    rcases (Xo0 H).2.2.2 with h0|h0
    ·rw[h0] at E0;simp at E0
    ·exact h0
   obtain ⟨aw,lw,cw,ae,le,ce,k0,k1,k2,k3,hw,he,S4,Q3⟩:=R1 i x hx;have Xa:OkM k x:=(Xo4 H) x (Ug hx);obtain ⟨be,oe,rfl,I8⟩:∃be oe,ae=some ⟨be,oe,none⟩/\be<w.heap.size:=by
    rcases he.rd with h0|⟨bb,oo,e,Y2,_⟩
    ·exfalso;have:=Xa.1.1.1;rw[h0] at this;simp at this;omega
    ·exact ⟨bb,oo,e,Y2⟩
   have k0:=(M0.cell (p:=⟨b0,o0+i*4,none⟩) Z0).trans k0;have k1:=(M0.cell (p:=⟨b0,o0+i*4+1,none⟩) Z0).trans k1;have k2:=(M0.cell (p:=⟨b0,o0+i*4+2,none⟩) Z0).trans k2;have k3:=(M0.cell (p:=⟨b0,o0+i*4+3,none⟩) Z0).trans k3;have hX:=Q32.new wr (.bool x.neg) (.int .i64 x.exp) (.slice aw lw cw) (.slice (some ⟨be,oe,none⟩) le ce) 98;have K1:Bw wr (wr.alloc (.cells #[.bool x.neg,.int .i64 x.exp,.slice aw lw cw,.slice (some ⟨be,oe,none⟩) le ce] 98)):=Ba;have K5:=Q0p wr (.cells #[.bool x.neg,.int .i64 x.exp,.slice aw lw cw,.slice (some ⟨be,oe,none⟩) le ce] 98);have N0:=Below.next0 M0 K1;have I9:Bw w (wr.alloc (.cells #[.bool x.neg,.int .i64 x.exp,.slice aw lw cw,.slice (some ⟨be,oe,none⟩) le ce] 98)).drew:=Q81 N0;have X5:=Qof x.neg x.exp aw lw cw x.ws _ (hw.step I9) Xa.1.2 Xa.2;obtain ⟨e0,e1,e2⟩:=hX.cc;have e3:=hX.c3;have d3:(wr.alloc (.cells #[.bool x.neg,.int .i64 x.exp,.slice aw lw cw,.slice (some ⟨be,oe,none⟩) le ce] 98)).drew.cell? ⟨wr.heap.size,3,none⟩=some (.slice (some ⟨be,oe,none⟩) le ce):=e3;have HS:=Xh12 R0 M0 hx hw he Xa hX K1 K5 N0 X5 I8;clear R0 M0 hx hw he Xa hX K1 K5 N0 I9 X5 I8 R1 S4 Q3
   go_upto_region 5 with fail
   go_region_law (first
    |(refine Q3g (by rfl) 244 #[.agg #[.bool x.neg,.int .i64 x.exp,.slice aw lw cw]] (by simp[go_sem]) ?_
      refine (Xo10 HS).mono ?_;rintro r w3 ⟨a3,l3,c3,rfl,S6,XE⟩;refine ⟨_,rfl,?_⟩;have I0:Below (wr.alloc (.cells #[.bool x.neg,.int .i64 x.exp,.slice aw lw cw,.slice (some ⟨be,oe,none⟩) le ce] 98)).heap.size (wr.alloc (.cells #[.bool x.neg,.int .i64 x.exp,.slice aw lw cw,.slice (some ⟨be,oe,none⟩) le ce] 98)) w3:=⟨XE.os,XE.tape,XE.output,XE.size,XE.block⟩;have m3:=((Xo6 HS).step I0 (Xo8 HS)).c3;obtain ⟨O2,E2,I2,X1⟩:=HI.out;have QM:=Below.next0 (Xo7 HS) I0;have hb3a:=Below.next0 (Xo9 HS) I0;have B4:=(Xo0 HS).step QM;obtain ⟨xs,hr⟩:=B4.row;have Wm:w.heap.size<=(w3.alloc (.cells #[.bool (!x.neg),.int .i64 x.exp,.slice a3 l3 c3,.slice (some ⟨be,oe,none⟩) le ce] 98)).heap.size:=by
       have:=hb3a.size;rw[Uk];omega
      obtain ⟨g6,c6,w6,D7,O3,C3,z5⟩:=Q25 (P:=Tryz.prog) NoU (w3.alloc (.cells #[.bool (!x.neg),.int .i64 x.exp,.slice a3 l3 c3,.slice (some ⟨be,oe,none⟩) le ce] 98)) 42 42 98 i0 _ 4 64 Tryz.underlying42 O2 E2 I2 X1 rfl Qbw w.heap.size Wm a1 i c1 xs (hr.step (Ba)) w3.heap.size 1 1 [.bool (!x.neg),.int .i64 x.exp,.slice a3 l3 c3,.slice (some ⟨be,oe,none⟩) le ce] rfl (TR (cs:= #[.bool (!x.neg),.int .i64 x.exp,.slice a3 l3 c3,.slice (some ⟨be,oe,none⟩) le ce]) (Uo _ _)) (by simp[Value.oneCell']) (by intro u hu;simp at hu;rcases hu with rfl|rfl|rfl|rfl <;> exact fun _=>by simp[nv]) (by decide) (by omega) (by decide) (by decide);have H3:=Xh8 S6 QM hb3a B4 hr O3 C3 z5;clear S6 XE I0 QM hb3a B4 hr O3 C3 z5 Wm O2 E2 I2 X1)
    |(refine Qdj (by rfl) (.tmp 12) (.tmp 19) 42 42 (by rfl) _ _ (by rfl) (by rfl) _ _ D7 ?_))
   all_goals go_wp2_with fail
   all_goals exact ⟨Qsq E0 (Xo2 HS) (Xo0 H3).toWordsIn (Xo4 HS) (Xe11 HS) (Xo2 H3) (Xo3 H3) (Xo4 H3) (Xo5 H3) (Xo6 H3) (Xe7 H3),by simp only[intOf];omega⟩
  ·have F0:¬((i:Int)<(n:Int)):=(by omega);have U5:i=n:=(by omega);rw[show i=ms.length by omega,Ti,show ms.length=n from Q2] at R0;have HS:=Xh2 R0 M0;subst U5;clear R0 M0
   go_wp2_with fail
   go_ret;exact ⟨a1,c1,rfl,(Xo0 HS).monos fun m hm=>((Qfi (Xe1 H)).2.2.2.1 m hm).1.2,(Xe1 HS)⟩
theorem Q7v {l:List Q0l} {e:Int} (h:Q3q l=.error e):e≠0:=by
 unfold Q3q at h
 split at h
 ·injection h with h;omega
 ·split at h
  ·injection h with h;omega
  ·cases h
theorem Qby {a b:List Q0l} {e:Int} (h:Qhq a b=.error e):e≠0:=by
 unfold Qhq at h
 split at h
 ·injection h with h;omega
 ·split at h
  ·injection h with h;omega
  ·exact Q7v h
theorem Qn8 {p:List Q0l} {e:Int}:∀{k:Nat},Qkh p k=.error e->e≠0
 |0,h=>by rw[Qkh] at h;cases h
 |k+1,h=>by
  rw[Qkh] at h;cases hq:Qkh p k with
  |error x=>rw[hq] at h;injection h with h;subst h;exact Qn8 hq
  |ok q=>rw[hq] at h;exact Qby h
theorem Qp9 {n:Nat} {p:List Q0l} {k:Nat} {e:Int} (h:Qmc n p k=.error e):e≠0:=by
 cases k with
 |zero=>rw[Qmc] at h;cases h
 |succ k=>exact Qn8 h
mutual
theorem Q5k (n:Nat):∀(x:Ex) (e:Int),Q2b n x=.error e->e≠0
 | .num none,e,h=>by rw[Q2b] at h;injection h with h;omega
 | .num (some c),e,h=>by rw[Q2b] at h;exact Q7v h
 | .var i,e,h=>by rw[Q2b] at h;exact Q7v h
 | .sum l,e,h=>by rw[Q2b] at h;exact Qdk n l none e h
 | .prod l,e,h=>by rw[Q2b] at h;exact Qdl n l none e h
 | .pow b k,e,h=>by
   rw[Q2b] at h;cases hb:Q2b n b with
   |error x=>rw[hb] at h;injection h with h;subst h;exact Q5k n b x hb
   |ok p=>rw[hb] at h;exact Qp9 h
theorem Qdk (n:Nat):∀(l:List (Bool × Ex)) (acc:Option (List Q0l)) (e:Int),Q4t n acc l=.error e->e≠0
 |[],acc,e,h=>by rw[Q4t] at h;cases h
 |(b,t)::r,acc,e,h=>by
  rw[Q4t] at h;cases ht:Q2b n t with
  |error x=>rw[ht] at h;injection h with h;subst h;exact Q5k n t x ht
  |ok p=>
   rw[ht] at h;cases acc with
   |none=>exact Qdk n r _ e h
   |some q=>
    simp only at h;cases hq:Qui q (if b then Q96 p else p) with
    |error x=>rw[hq] at h;injection h with h;subst h;exact Q7v hq
    |ok q'=>rw[hq] at h;exact Qdk n r _ e h
theorem Qdl (n:Nat):∀(l:List Ex) (acc:Option (List Q0l)) (e:Int),Q4l n acc l=.error e->e≠0
 |[],acc,e,h=>by rw[Q4l] at h;cases h
 |t::r,acc,e,h=>by
  rw[Q4l] at h;cases ht:Q2b n t with
  |error x=>rw[ht] at h;injection h with h;subst h;exact Q5k n t x ht
  |ok p=>
   rw[ht] at h;cases acc with
   |none=>exact Qdl n r _ e h
   |some q=>
    simp only at h;cases hq:Qhq q p with
    |error x=>rw[hq] at h;injection h with h;subst h;exact Qby hq
    |ok q'=>rw[hq] at h;exact Qdl n r _ e h
end
theorem Q2v.step' {fp:Nat->Prop} {w w':World} {x:Ex} {v:Value} (h:Q2v fp w x v) (hb:Bw w w'):Q2v fp w' x v:=h.turn (Q0v.of_below hb (fun _=>False)) (fun _ h=>h.elim)
theorem Qbe.get {fp:Nat->Prop} {w:World} {a b:Nat}:∀{l:List (Bool × Ex)} {o i:Nat} {t:Bool} {x:Ex},Qbe fp w a b o l->l[i]?=some (t,x)->(∃u,w.cell? ⟨a,o+i,none⟩=some u/\Q2v fp w x u)/\w.cell? ⟨b,o+i,none⟩=some (.bool t)
 |[],_,_,_,_,_,hi=>by simp at hi
 |(t0,x0)::r,o,i,t,x,h,hi=>by
  rw[Qbe] at h;cases i with
  |zero=>
   simp only[US,Up,Xat] at hi;obtain ⟨rfl,rfl⟩:=hi;exact ⟨h.1,h.2.1⟩
  |succ i=>
   have:=Qbe.get (i:=i) h.2.2 (by simpa using hi);rwa[show o+1+i=o+(i+1) by omega] at this
theorem Qag.get {fp:Nat->Prop} {w:World} {a:Nat}:∀{l:List Ex} {o i:Nat} {x:Ex},Qag fp w a o l->l[i]?=some x->∃u,w.cell? ⟨a,o+i,none⟩=some u/\Q2v fp w x u
 |[],_,_,_,_,hi=>by simp at hi
 |x0::r,o,i,x,h,hi=>by
  rw[Qag] at h;cases i with
  |zero=>
   simp only[US,Up] at hi;subst hi;exact h.1
  |succ i=>
   have:=Qag.get (i:=i) h.2 (by simpa using hi);rwa[show o+1+i=o+(i+1) by omega] at this
theorem Q2v.face {fp:Nat->Prop} {w:World} {x:Ex} {v:Value} (h:Q2v fp w x v):∃t u,v=.iface t u:=by
 cases x with
 |num c=>
  cases c with
  |none=>rw[Q2v] at h;obtain ⟨_,_,_,_,_,rfl⟩:=h;exact ⟨_,_,rfl⟩
  |some c=>rw[Q2v] at h;obtain ⟨_,_,_,_,_,_,rfl,_⟩:=h;exact ⟨_,_,rfl⟩
 |var i=>rw[Q2v] at h;exact ⟨_,_,h⟩
 |sum l=>rw[Q2v] at h;obtain ⟨_,_,_,_,rfl,_⟩:=h;exact ⟨_,_,rfl⟩
 |prod l=>rw[Q2v] at h;obtain ⟨_,_,rfl,_⟩:=h;exact ⟨_,_,rfl⟩
 |pow b k=>rw[Q2v] at h;obtain ⟨_,rfl,_⟩:=h;exact ⟨_,_,rfl⟩
def Q8s [LT ZK] (k:Nat) (x:Ex):Prop:=∀(v:Value) (w:World),Q2v (fun _=>False) w x v->Q1s w->Calls Tryz.prog 85 #[.agg #[.int .i64 (k:Int)],v] w (Q1i w k (Q2b k x))
end Go.Proofs.YtidojbkhlenahaaGreatDoor
