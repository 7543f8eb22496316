/- Part 15. No condition. -/
import Derived.Great.BuildSlice
import Derived.Test.YtidojbkhlenahaaGreatDoorPkProblemBack14
set_option maxRecDepth 100000
set_option maxHeartbeats 16000000
namespace Go.Proofs.YtidojbkhlenahaaGreatDoor
open Go.RowKit WordsM
theorem Q1o.plain {w:World} {a:OA} {n c k:Nat} {ms:List Q01} (h:Q1o k ms) (hm:Q08 w a n c ms):Q4i k (ms.map Q01.term):=by
 obtain ⟨_,_,h3,h4,h5⟩:=h;refine ⟨?_,by rw[UK];exact h3,fun p hp=>?_⟩
 ·unfold Qcp;rw[Xbm];exact h5
 ·obtain ⟨m,hmm,rfl⟩:=To.1 hp;obtain ⟨j,hj,rfl⟩:=Xa2 hmm;rcases hm.2.2.2 with h0|⟨b,o,_,_,Y1⟩
  ·rw[h0] at hj;simp at hj
  ·obtain ⟨_,_,_,_,_,_,_,_,_,_,hw,_⟩:=Y1 j _ (Ua hj);obtain ⟨⟨q1,q2⟩,q3⟩:=h4 _ hmm;exact ⟨fun e=>q3 ((Q45 q2 hw.low).1 e),Q35 q2 hw.low,q1⟩
theorem Q1r.monos {B n c:Nat} {w:World} {a:OA} {all:List Q01} (h:Q1r B w a n c all) (P2:∀m∈all,Q0a m.neg m.exp m.ws):Q08 w a n c all:=by
 obtain ⟨xs,hr⟩:=h.row;have S3:=hr.1.cap;refine ⟨h.len,S3.1,by have:=S3.2;simpa[maxLen] using this,?_⟩;rcases hr.1.form with ⟨_,h0,_⟩|⟨g,cur,rfl,_,E0,_⟩
 ·exact .inl (TP (by rw[h.len];exact h0))
 ·refine .inr ⟨g,0,rfl,E0,fun j m hm=>?_⟩;obtain ⟨g',e,aw,lw,cw,be,oe,le,ce,q0,q1,q2,q3,hw,hi,_,_⟩:=h.ent j m hm;injection e with e;injection e with e;subst e;have hb:=Q5g (P2 m (Uf hm)) hw.low;rw[UH];exact ⟨aw,lw,cw,_,le,ce,q0,q1,q2,q3,hw,hi,by omega,by omega⟩
theorem Qz9 (P:List Q0b) (h:∀p∈P,p.2.sum<=8):∀d:Int,d<=8->P.foldl (fun d p=>max d p.2.sum) d<=8:=by
 induction P with
 |nil=>exact fun d hd=>hd
 |cons q r ih=>
  intro d hd;rw[Xbv];have:=h q (by simp);exact ih (fun p hp=>h p (by simp[hp])) _ (by omega)
theorem Qfz {k:Nat} {ms:List Q01} (h:Q1o k ms):0<=Qm5 ms/\Qm5 ms<=8:=⟨Qy9 _,Qz9 _ (fun p hp=>by
 obtain ⟨m,hm,rfl⟩:=To.1 hp;exact (h.2.2.2.1 m hm).1.1.2.2) 0 (by decide)⟩
def J0l (w:World) (ms ms2:List Q01) (s8 s45:Value) (wx:World):Prop:=∃(i:Nat) (a:OA) (N c:Nat) (all:List Q01),s8=.slice a N c/\s45=.int .i64 (i:Int)/\i<=ms.length/\N<=24*i/\Q1r w.heap.size wx a N c all/\
 all.map Q01.term=Qgj ((ms.take i).map Q01.term) (ms2.map Q01.term)/\(∀m∈all,Q0a m.neg m.exp m.ws/\Q44 m.term.1)/\Bw w wx
def J1o (w:World) (ms2:List Q01) (i:Nat) (T:List Q0b) (x:Q01) (P:Nat) (v2 v3 s8 s51:Value) (wx:World):Prop:=∃(j:Nat) (a:OA) (N c:Nat) (all:List Q01),s8=.slice a N c/\s51=.int .i64 (j:Int)/\j<=ms2.length/\N<=24*i+j/\Q1r w.heap.size wx a N c all/\
 all.map Q01.term=T++((ms2.take j).map Q01.term).map (Qya x.term)/\(∀m∈all,Q0a m.neg m.exp m.ws/\Q44 m.term.1)/\Q34 wx P (.bool x.neg) (.int .i64 x.exp) v2 v3/\P<wx.heap.size/\(∀y,a=some y->y.block≠P)/\Bw w wx
theorem Qty {ms:List Q01} {i:Nat} {x:Q01} (hx:ms[i]?=some x) (b:List Q0b):Qgj ((ms.take (i+1)).map Q01.term) b=Qgj ((ms.take i).map Q01.term) b++b.map (Qya x.term):=by
 rw[Tc,hx,UR];simp[Qgj,List.flatMap_append]
theorem Qdt (a:OA) (n c:Nat) (ms:List Q01) (b:OA) (m d:Nat) (ms2:List Q01) (k:Nat) (w:World) (h1:Q08 w a n c ms) (h2:Q08 w b m d ms2) (r1:Q1o k ms) (r2:Q1o k ms2) (hT:Q1s w):
 Calls Tryz.prog 192 #[.slice a n c,.slice b m d,.int .i64 (k:Int)] w (Q1h w k (Qi2 (ms.map Q01.term) (ms2.map Q01.term))):=by
 have X2:=r1.1;have Y5:=r1.2.1;have G3:=h1.1;have Ze:=h2.1;have hn:n<=24:=by have:=r1.2.2.1;rw[h1.1] at this;exact this
 have hm:m<=24:=by have:=r2.2.2.1;rw[h2.1] at this;exact this
 have p1:=fun W (hb:Bw w W)=>Q36 a n c ms k W (h1.step hb) (by omega);have p2:=fun W (hb:Bw w W)=>Q36 b m d ms2 k W (h2.step hb) (by omega);have d1:=fun W (hb:Bw w W)=>Qfq a n c ms k W (h1.step hb) r1;have d2:=fun W (hb:Bw w W)=>Qfq b m d ms2 k W (h2.step hb) r2;obtain ⟨i0,E2,P1,G1,K1⟩:=Q0p Q4q;have HI:=Xh4 E2 P1 G1 K1;clear E2 P1 G1 K1;obtain ⟨X,hX⟩:∃X,Qi2 (ms.map Q01.term) (ms2.map Q01.term)=X:=⟨_,rfl⟩;rw[hX];have H:=Xh8 h1 h2 r1 r2 p1 p2 hX hT;have HD:=Xh2 d1 d2;have HDB:=Xh2 (Qfz r1) (Qfz r2);clear h1 h2 r1 r2 p1 p2 hX hT d1 d2
 go_enter Tryz.func192,Tryz.ntmps192
 go_upto_block 0 with fail
 go_cut [] (fun wx=>¬(ms≠[]/\ms2≠[]/\8<Qm5 ms+Qm5 ms2)/\Bw w wx)
 case first=>
  go_upto_region 3 with (first|(go_at_call_of 51 (Value.slice a n c);refine ((Xo4 H) _ (Ug _ _)).mono ?_;rintro r w1 ⟨⟨x,rfl,hx⟩,C0⟩;(have VY:x=true:=hx.2 (Xo2 H));clear hx;subst VY;have H1:=Ub C0;clear C0)|(go_at_call_of 51 (Value.slice b m d);refine ((Xo5 H) _ H1.out).mono ?_;rintro r w2 ⟨⟨x,rfl,hx⟩,D0⟩;(have VY:x=true:=hx.2 (Xo3 H));clear hx;subst VY;have H2:=Ub (Below.next0 H1.out D0);clear D0))
  by_cases o9:ms=[]
  ·have K5:¬((0:Int)<(n:Int)):=(by rw[<-G3,o9];decide);have HM0:=Ub o9;clear o9
   go_wp2_with fail
   go_meet;exact ⟨fun h=>h.1 HM0.out,H2.out⟩
  ·have K5:(0:Int)<(n:Int):=(by have:=Xa3.2 o9;omega);have HM0:=Ub o9;clear o9
   by_cases XW:ms2=[]
   ·have C6:¬((0:Int)<(m:Int)):=(by rw[<-Ze,XW];decide);have HM2:=Ub XW;clear XW
    go_wp2_with fail
    go_meet;exact ⟨fun h=>h.2.1 HM2.out,H2.out⟩
   ·have C6:(0:Int)<(m:Int):=(by have:=Xa3.2 XW;omega);have HM2:=Ub XW;clear XW;have e1:=(Xo0 HDB);have e2:=(Xe1 HDB)
    by_cases h8:8<Qm5 ms+Qm5 ms2
    ·have Xv:X=.error 6:=by
      rw[<-(Xo6 H)];unfold Qi2;rw[Us ⟨by simpa using HM0.out,by simpa using HM2.out,h8⟩]
     have HX:=Ub Xv;clear Xv
     go_wp2_with (first|(go_at_call_of 246 (Value.slice a n c);refine ((Xo0 HD) _ H2.out).mono ?_;rintro r w3 ⟨rfl,G0⟩;have H3:=Ub (Below.next0 H2.out G0);clear G0)|(go_at_call_of 246 (Value.slice b m d);refine ((Xe1 HD) _ H3.out).mono ?_;rintro r w4 ⟨rfl,F2⟩;have H4:=Ub (Below.next0 H3.out F2);clear F2))
     exact ⟨rfl,.tuple #[.slice none 0 0,.int .i64 6],by simp[results,go_sem],Q1h.err HX.out H4.out⟩
    ·have H8:=Ub h8
     go_wp2_with (first|(go_at_call_of 246 (Value.slice a n c);refine ((Xo0 HD) _ H2.out).mono ?_;rintro r w3 ⟨rfl,G0⟩;have H3:=Ub (Below.next0 H2.out G0);clear G0)|(go_at_call_of 246 (Value.slice b m d);refine ((Xe1 HD) _ H3.out).mono ?_;rintro r w4 ⟨rfl,F2⟩;have H4:=Ub (Below.next0 H3.out F2);clear F2))
     go_meet;exact ⟨fun h=>by have h1:=H8.out;have h2:=h.2.2;omega,H4.out⟩
 case rest=>
  obtain ⟨YT,Km⟩:=hcut;have HC:=Xh2 YT Km;clear YT Km
  go_wp2_with fail
  go_loopw [8,45] (fun s8 s45 wr=>J0l w ms ms2 s8 s45 wr) (fun _ iv _=>n-(intOf iv).toNat)
  case atStart=>exact ⟨0,none,0,0,[],rfl,rfl,Ut _,Ut _,Q1r.nil_ _ _,rfl,(fun m hm=>by cases hm),(Xe1 HC)⟩
  case round=>
   obtain ⟨i,a1,N,c1,all,rfl,rfl,hi,hN,Y0,M2,P2,C1⟩:=hrel
   by_cases E0:i<ms.length
   ·have J0:(i:Int)<(n:Int):=(by omega);obtain ⟨x,hx⟩:∃x,ms[i]?=some x:=⟨_,Ua E0⟩;obtain ⟨b0,o0,rfl,X1,Y1⟩:∃b o,a=some ⟨b,o,none⟩/\b<w.heap.size/\∀j m,ms[j]?=some m->Q4n w b (o+j*4) m:=by
     rcases (Xo0 H).2.2.2 with h0|h0
     ·rw[h0] at E0;simp at E0
     ·exact h0
    obtain ⟨aw,lw,cw,ae,le,ce,k0,k1,k2,k3,hw,he,R4,Z3⟩:=Y1 i x hx;have KJ:OkM k x:=(Xo2 H).2.2.2.1 x (Uf hx);have k0:=(C1.cell (p:=⟨b0,o0+i*4,none⟩) X1).trans k0;have k1:=(C1.cell (p:=⟨b0,o0+i*4+1,none⟩) X1).trans k1;have k2:=(C1.cell (p:=⟨b0,o0+i*4+2,none⟩) X1).trans k2;have k3:=(C1.cell (p:=⟨b0,o0+i*4+3,none⟩) X1).trans k3;have hX:=Q34.new wr (.bool x.neg) (.int .i64 x.exp) (.slice aw lw cw) (.slice ae le ce) 98;have K2:Bw wr (wr.alloc (.cells #[.bool x.neg,.int .i64 x.exp,.slice aw lw cw,.slice ae le ce] 98)):=Ba;have U7:=Q0h wr (.cells #[.bool x.neg,.int .i64 x.exp,.slice aw lw cw,.slice ae le ce] 98);have Q0:∀y,a1=some y->y.block≠wr.heap.size:=fun y hy=>by have:=(Y0.lt hy).2;omega
    have HR:=Xh12 Y0 M2 P2 C1 hx hw he KJ hX K2 U7 Q0;clear Y0 M2 P2 C1 hx hw he KJ hX K2 U7 Q0 Y1 R4 Z3
    go_wp2_with fail
    rename World=>wl
    go_loopw [8,51] (fun s8 s51 wx=>J1o w ms2 i (Qgj ((ms.take i).map Q01.term) (ms2.map Q01.term)) x wl.heap.size (.slice aw lw cw) (.slice ae le ce) s8 s51 wx) (fun _ iv _=>m-(intOf iv).toNat)
    case atStart=>exact ⟨0,a1,N,c1,all,rfl,rfl,Ut _,by omega,(Xo0 HR).step (Xo9 HR),by rw[List.take_zero,List.map_nil,List.map_nil,Xai];exact (Xo1 HR),(Xo2 HR),(Xo8 HR),(Xo10 HR),(Xe11 HR),Below.next0 (Xo3 HR) (Xo9 HR)⟩
    case round=>
     obtain ⟨j,a2,N2,c2,all2,rfl,rfl,hj,JU,Y0,M2,P2,hX,hlX,Q0,C1⟩:=hrel
     by_cases hjt:j<ms2.length
     ·have hjt':(j:Int)<(m:Int):=(by omega);obtain ⟨y,hy⟩:∃y,ms2[j]?=some y:=⟨_,Ua hjt⟩;obtain ⟨b1,o1,rfl,C0,Y1⟩:∃b' o,b=some ⟨b',o,none⟩/\b'<w.heap.size/\∀j m,ms2[j]?=some m->Q4n w b' (o+j*4) m:=by
       rcases (Xo1 H).2.2.2 with h0|h0
       ·rw[h0] at hjt;simp at hjt
       ·exact h0
      obtain ⟨ay,ly,cy,ax,lx,cx,j0,j1,j2,j3,hwy,hey,x8,QG⟩:=Y1 j y hy;have hky:OkM k y:=(Xo3 H).2.2.2.1 y (Uf hy);have j0:=(C1.cell (p:=⟨b1,o1+j*4,none⟩) C0).trans j0;have j1:=(C1.cell (p:=⟨b1,o1+j*4+1,none⟩) C0).trans j1;have j2:=(C1.cell (p:=⟨b1,o1+j*4+2,none⟩) C0).trans j2;have j3:=(C1.cell (p:=⟨b1,o1+j*4+3,none⟩) C0).trans j3;have hY:=Q34.new wr (.bool y.neg) (.int .i64 y.exp) (.slice ay ly cy) (.slice ax lx cx) 98;have XD:Bw wr (wr.alloc (.cells #[.bool y.neg,.int .i64 y.exp,.slice ay ly cy,.slice ax lx cx] 98)):=Ba;have O0:=Below.next0 C1 XD;have V4:=hX.step XD hlX;have hp:=Qm7 x.neg x.exp aw lw cw x.ws ae le ce x.es y.neg y.exp ay ly cy y.ws ax lx cx y.es k _ ((Xo5 HR).step O0) ((Xo6 HR).step O0) (hwy.step O0) (hey.step O0) (Xo7 HR).1.2 hky.1.2 (Xo7 HR).1.1 hky.1.1 X2 Y5 ((Xe7 H).step O0);obtain ⟨e0,e1,e2⟩:=V4.cc;have e3:=V4.c3;obtain ⟨f0,f1,f2⟩:=hY.cc;have f3:=hY.c3;have HS:=Xh11 Y0 M2 P2 hX hlX Q0 C1 hy XD O0 hp;clear Y0 M2 P2 hX hlX Q0 C1 hy XD O0 hp hwy hey hky hY V4 Y1 x8 QG
      go_upto_region 13 with (go_at_call_of 247 (Value.agg #[.bool x.neg,.int .i64 x.exp,.slice aw lw cw,.slice ae le ce]);refine (Xe10 HS).mono ?_;rintro r w8 ⟨n',e',a',l',c',L,er,be,le',ce',rfl,t7,i6,I7,⟨g8,rfl,hg8⟩,A5⟩;have H8:=Xh5 t7 i6 I7 hg8 A5;clear t7 i6 I7 hg8 A5)
      rcases (Xo0 H8) with ⟨B9,rfl,Z1,M0⟩|⟨hnf,rfl,_⟩
      ·have hV:=Q34.new w8 (.bool n') (.int .i64 e') (.slice a' l' c') (.slice (some ⟨g8,0,none⟩) le' ce') 98;have V3:Bw w8 (w8.alloc (.cells #[.bool n',.int .i64 e',.slice a' l' c',.slice (some ⟨g8,0,none⟩) le' ce'] 98)):=Ba;have KV:=Below.next0 (Xo8 HS) (Xe4 H8);have hb8a:=Below.next0 (Xo9 HS) (Xe4 H8);have VR:=Below.next0 KV V3;have Xe:=Below.next0 hb8a V3;have X4:=(Xo0 HS).step VR;obtain ⟨xs,hr⟩:=X4.row;obtain ⟨E2,P1,G1,K1⟩:=HI.out;have Xy:w.heap.size<=((w8.alloc (.cells #[.bool n',.int .i64 e',.slice a' l' c',.slice (some ⟨g8,0,none⟩) le' ce'] 98)).alloc (.cells #[.bool n',.int .i64 e',.slice a' l' c',.slice (some ⟨g8,0,none⟩) le' ce'] 98)).heap.size:=by
        have:=Xe.size;rw[Ui];omega
       obtain ⟨g6,c6,w6,x4,Y2,Q1,B5⟩:=Q0w (P:=Tryz.prog) NoU ((w8.alloc (.cells #[.bool n',.int .i64 e',.slice a' l' c',.slice (some ⟨g8,0,none⟩) le' ce'] 98)).alloc (.cells #[.bool n',.int .i64 e',.slice a' l' c',.slice (some ⟨g8,0,none⟩) le' ce'] 98)) 42 42 98 i0 _ 4 64 Tryz.underlying42 E2 P1 G1 K1 rfl Q8b w.heap.size Xy a2 N2 c2 xs (hr.step (Ba)) (w8.alloc (.cells #[.bool n',.int .i64 e',.slice a' l' c',.slice (some ⟨g8,0,none⟩) le' ce'] 98)).heap.size 1 1 [.bool n',.int .i64 e',.slice a' l' c',.slice (some ⟨g8,0,none⟩) le' ce'] rfl (Tx (cs:= #[.bool n',.int .i64 e',.slice a' l' c',.slice (some ⟨g8,0,none⟩) le' ce']) (Um _ _)) (by simp[Value.oneCell']) (by intro u hu;simp at hu;rcases hu with rfl|rfl|rfl|rfl <;> exact fun _=>by simp[nv]) (by decide) (by omega) (by decide) (by decide);rw[Ui w8] at x4;obtain ⟨t0,t1,t2⟩:=hV.cc;have t3:=hV.c3;have HV:=Xh12 B9 Z1 M0 VR Xe X4 hr Y2 Q1 B5 V3 KV;clear B9 Z1 M0 VR Xe X4 hr Y2 Q1 B5 V3 hb8a KV Xy hV E2 P1 G1 K1 e0 e1 e2 e3 f0 f1 f2 f3
       go_wp2_with (at_builtin;refine Q06 rfl (.tmp 64) (.tmp 66) 42 42 rfl _ _ rfl rfl _ _ x4 ?_)
       obtain ⟨B9,Z1,M0,VR,Xe,X4,hr,Y2,Q1,B5,V3,KV⟩:=HV.out;have hE:List.zipWith (·+·) x.es y.es≠[]:=fun e=>by
        have h1:=congrArg List.length e;have h2:=((Xo7 HR).1.1).1;have h3:=((Xo3 H).2.2.2.1 y (Uf (Xo7 HS))).1.1.1;rw[List.length_zipWith,h2,h3] at h1;simp at h1;omega
       have hg8l:g8<w8.heap.size:=by
        rcases (Xo2 H8).rd with h0|⟨bb,oo,e,E4,_⟩
        ·exact absurd h0 hE
        ·injection e with e;injection e with e;subst e;exact E4
       have hP:wl.heap.size<w8.heap.size:=Uc (Xo4 HS) KV.size;have Jt:=X4.push hr (o:=(.cells #[.bool n',.int .i64 e',.slice a' l' c',.slice (some ⟨g8,0,none⟩) le' ce'] 98)) Q1 B5 (m:=⟨n',e',L,List.zipWith (·+·) x.es y.es⟩) Y2 rfl ((Xo1 H8).toWordsIn.step V3) ((Xo2 H8).step V3) (by rw[Ui];omega) (fun z hz e=>by
        have h1:=((Xo0 HS).lt hz).2;have h2:=(Xo3 H8);rw[Ui] at h2;omega)
       have hb10:=Xe.alloc Xe.size (.cells #[.bool n',.int .i64 e',.slice a' l' c',.slice (some ⟨g8,0,none⟩) le' ce'] 98);have Yq:Bw w w6:=hb10.trans ⟨Q1.os,Q1.tape,Q1.output,Q1.size,fun z hz=>Q1.block z (Uc hz hb10.size) (fun e=>by
        cases a2 with
        |none=>simp at e
        |some q=>simp only[Uz,Uj] at e;have:=((Xo0 HS).lt rfl).1;omega)⟩
       have hP6:wl.heap.size<((w8.alloc (.cells #[.bool n',.int .i64 e',.slice a' l' c',.slice (some ⟨g8,0,none⟩) le' ce'] 98)).alloc (.cells #[.bool n',.int .i64 e',.slice a' l' c',.slice (some ⟨g8,0,none⟩) le' ce'] 98)).heap.size:=(by rw[Ui,Ui];omega);have Xv:Q34 w6 wl.heap.size (.bool x.neg) (.int .i64 x.exp) (.slice aw lw cw) (.slice ae le ce):=
        (((Xo3 HS).step VR (Xo4 HS)).step ((Ug _ _).alloc (Ue _) (.cells #[.bool n',.int .i64 e',.slice a' l' c',.slice (some ⟨g8,0,none⟩) le' ce'] 98)) (by rw[Ui];omega)).onKept (Q1.block _ hP6 (fun e=>by
          cases a2 with
          |none=>simp at e
          |some q=>simp only[Uz,Uj] at e;exact (Xo5 HS) q rfl e.symm))
       refine ⟨⟨j+1,_,N2+1,c6,_,rfl,congrArg (Value.int .i64) (by omega),hjt,by omega,Jt,?_,fun m' Y7=>?_,Xv,Uc hP6 Q1.size,fun q hq=>?_,Yq⟩,by simp only[intOf];omega⟩
       ·rw[UR,(Xo1 HS),Tc,(Xo7 HS),UR,UR,<-Tb]
        congr 1
        show [(Q1p n' e' L,List.zipWith (·+·) x.es y.es)]=[Qya x.term y.term]
        rw[M0];rfl
       ·rcases Tq.1 Y7 with h1|h1
        ·exact (Xo2 HS) m' h1
        ·rw[Ux] at h1;subst h1;refine ⟨Z1,?_⟩
         show Q44 (Q1p n' e' L)
         rw[M0];exact B9
       ·injection hq with hq;subst hq;rcases B5 with h1|h1
        ·exact (Xo5 HS) _ h1
        ·show g6≠_
         omega
      ·have V4:X=.error 2:=by
        rw[<-(Xo6 H)];unfold Qi2;rw[Up (by have h0:=(Xo0 HC);unfold Qm5 at h0;simpa using h0),Us];rw[Xav];refine ⟨Qya x.term y.term,?_,?_⟩
        ·refine List.mem_flatMap.2 ⟨x.term,To.2 ⟨x,Uf (Xo4 HR),rfl⟩,To.2 ⟨y.term,To.2 ⟨y,Uf (Xo7 HS),rfl⟩,rfl⟩⟩
        ·have:Q9k (Qya x.term y.term).1=false:=(Qgi _).2 hnf;rw[this];rfl
       have HX:=Xh2 V4 hnf;clear V4 hnf
       go_wp2_with fail
       exact ⟨rfl,.tuple #[.slice none 0 0,.int .i64 2],by simp[results,go_sem],Q1h.err (Xo0 HX) (Below.next0 (Below.next0 (Xo9 HS) (Xe4 H8)) (Ba))⟩
     ·have hjt':¬((j:Int)<(m:Int)):=(by omega);have hje:j=ms2.length:=(by omega);rw[hje,Tn] at M2;have HJ:=Xh4 Y0 M2 P2 C1;clear Y0 M2 P2 C1 hje hX hlX Q0
      go_wp2_with fail
      exact ⟨⟨i+1,a2,N2,c2,all2,rfl,congrArg (Value.int .i64) (by omega),E0,by omega,(Xo0 HJ),by rw[Qty (Xo4 HR)];exact (Xo1 HJ),(Xo2 HJ),(Xe3 HJ)⟩,by simp only[intOf];omega⟩
   ·have J0:¬((i:Int)<(n:Int)):=(by omega);have I7:i=ms.length:=(by omega);rw[I7,Tn] at M2;have P3:=Qp6 ((Xo2 H).plain (Xo0 H)) ((Xo3 H).plain (Xo1 H)) (by have h0:=(Xo0 HC);unfold Qm5 at h0;simpa using h0);have Jn:∀m∈all,Qmb k m:=fun m hm=>⟨P3 m.term (by rw[<-M2];exact To.2 ⟨m,hm,rfl⟩),(P2 m hm).1⟩;have E6:X=Q25 (all.map Q01.term):=by
     rw[<-(Xo6 H),M2];unfold Qi2;rw[Up (by have h0:=(Xo0 HC);unfold Qm5 at h0;simpa using h0),Up];rw[Xav];rintro ⟨p,hp,hf⟩;rw[<-M2] at hp;obtain ⟨m,hm,rfl⟩:=To.1 hp;rw[(Q17 _).2 (P2 m hm).2] at hf;cases hf
    have C4:=Q5x a1 N c1 all k wr (Y0.monos fun m hm=>(P2 m hm).1) Jn X2 Y5 (by omega) ((Xe7 H).step C1);rw[<-E6] at C4;have HK:=Xh2 C4 C1;clear C4 C1 E6 Jn P3 M2 P2 Y0 I7
    go_wp2_with (refine (Xo0 HK).mono ?_;rintro r w5 I1;obtain ⟨a5,l5,c5,er,rfl⟩:=I1.form;have H5:=Ub (I1.lower (Xe1 HK));clear I1)
    exact ⟨rfl,.tuple #[.slice a5 l5 c5,.int .i64 er],by simp[results,go_sem],H5.out⟩
theorem Q1r.push1 {B:Nat} {w w2:World} {a:OA} {n c c2 g:Nat} {all:List Q01} (h:Q1r B w a n c all) {xs xs2:LV} (u4:Q40 NoU w B 98 4 a n c xs) (K6:w.grownBy w2 (a.map (·.block))) (Y1:a=some ⟨g,0,none⟩∨g=w.heap.size) {m:Q01} {aw:OA} {lw cw be oe le ce:Nat}
 (hr:Q40 NoU w2 B 98 4 (some ⟨g,0,none⟩) (n+1) c2 xs2) (WX:xs2=xs++[.bool m.neg,.int .i64 m.exp,.slice aw lw cw,.slice (some ⟨be,oe,none⟩) le ce])
 (hw:WordsIn w aw lw cw m.ws) (hi:Q0g w (some ⟨be,oe,none⟩) le ce m.es) (t6:be<w.heap.size) (J1:∀x,a=some x->x.block≠be):Q1r B w2 (some ⟨g,0,none⟩) (n+1) c2 (all++[m]):=by
 have A2:w.heap.size<=w2.heap.size:=K6.size;have JY:Q0e (fun b=>∃x,a=some x/\x.block=b) w w2:=(Q0e.of_below (Ug _ _) _).trans0 (Q0e.of_grown K6 fun r hr _=>by
  cases a with
  |none=>simp at hr
  |some y=>simp only[Uz,Uj] at hr;exact ⟨y,rfl,hr⟩)
 have Qr:∀(aw:OA) (lw cw:Nat) (L:LN),WordsIn w aw lw cw L->WordsIn w2 aw lw cw L:=fun aw lw cw L hw=>hw.turn (u4.off hw) JY (fun _ h=>h);have F5:∀k,k<w.heap.size->(∀x,a=some x->x.block≠k)->w2.heap[k]?=w.heap[k]?:=fun k hk hn=>JY.block k hk (fun ⟨x,hx,e⟩=>hn x hx e);have i5:∀k,k<w.heap.size->(∀x,a=some x->x.block≠k)->k≠g:=fun k hk hn e=>by
  subst e;rcases Y1 with h1|h1
  ·exact hn _ h1 rfl
  ·omega
 have G3:xs.length=n*4:=u4.1.len;have A6:∀i v,xs2[i]?=some v->w2.cell? ⟨g,i,none⟩=some v:=fun i v hv=>hr.1.cell0 hv;refine ⟨⟨xs2,hr⟩,fun j m' Y7=>⟨g,rfl,?_⟩,by rw[Uh,h.len];rfl⟩
 by_cases hj:j<n
 ·rw[Tj (by rw[h.len];exact hj)] at Y7;obtain ⟨g0,ha,hE⟩:=h.ent j m' Y7;refine hE.via A2 (fun i hi4=>?_) (fun _ _ _ h=>Qr _ _ _ _ h) fun be C0 D0=>?_
  ·have E0:j*4+i<xs.length:=(by omega);have e1:=A6 (j*4+i) xs[j*4+i] (by rw[WX,Tj E0,Ua E0]);subst ha;rw[e1,u4.1.cell0 (Ua E0)]
  ·have Vp:∀x,a=some x->x.block≠be:=fun x hx e=>by rw[ha] at hx;injection hx with hx;subst hx;exact C0 e.symm
   exact ⟨i5 be D0 Vp,F5 be D0 Vp⟩
 ·have T9:j=n:=by
   have:=(Ul.1 Y7).1;rw[Uh,h.len] at this;simp at this;omega
  subst T9;rw[UY (by rw[h.len];exact Ue _),h.len,Nat.sub_self] at Y7;simp only[UD,Uj] at Y7;subst Y7;have hc:∀i v,[Value.bool m.neg,.int .i64 m.exp,.slice aw lw cw,.slice (some ⟨be,oe,none⟩) le ce][i]?=some v->w2.cell? ⟨g,j*4+i,none⟩=some v:=fun i v hv=>A6 _ _ (by rw[WX,UY (by omega),G3,Xaw];exact hv);have D0:=F5 be t6 J1;refine ⟨aw,lw,cw,be,oe,le,ce,hc 0 _ rfl,hc 1 _ rfl,hc 2 _ rfl,hc 3 _ rfl,Qr _ _ _ _ hw,⟨hi.len,hi.cap,hi.most,hi.rng,?_⟩,i5 be t6 J1,Uc t6 A2⟩;rcases hi.rd with h8|⟨b,oo,e,hb,X3⟩
  ·exact .inl h8
  ·injection e with e;injection e with e1 e2;subst e1;subst e2;exact .inr ⟨be,oe,rfl,Uc hb A2,fun i x hx=>(UM (a:=⟨be,oe+i,none⟩) D0).trans (X3 i x hx)⟩
theorem Qg0:Tryz.prog.underlying 96=some (.slice 3):=by kernel_rfl
theorem Q95:Tryz.prog.underlying 42=some (.slice 98):=by kernel_rfl
theorem Qjl (ty:TypeId) (W:World) (b:Nat) (ae:OA) (le ce:Nat) (E:List Int) (h:Q0g W ae le ce E) (h0:E≠[]) (G5:le<=1000):
 ∃c' W',(Builtin.append_ #[96,96] ty #[.slice (some ⟨b,0,none⟩) 0 0,.slice ae le ce]).run Tryz.prog W=.ok (.slice (some ⟨W.heap.size,0,none⟩) le c') W'/\Q0g W' (some ⟨W.heap.size,0,none⟩) le c' E/\Bw W W'/\W.heap.size<W'.heap.size:=by
 obtain ⟨i0,E2,P1,G1,K1⟩:=Q0p Q9z;have G3:=h.len;have I3:0<le:=by rw[<-G3];exact Xa3.2 h0
 obtain ⟨p,o,rfl,hp,hc⟩:∃p o,ae=some ⟨p,o,none⟩/\p<W.heap.size/\∀(j:Nat) x,E[j]?=some x->W.cell? ⟨p,o+j,none⟩=some (.int .i64 x):=by
  rcases h.rd with h1|h1
  ·exact absurd h1 h0
  ·exact h1
 have S3:=growslice_fits (need:=0+le) (old:=0) (bytes:=i0.bytes) (by omega) (by rw[K1];omega);have S1:=run_append_grow (P:=Tryz.prog) W 96 ty 3 i0 _ Qg0 E2 P1 ⟨b,0,none⟩ 0 0 [] (by simp) (fun j v hv=>by simp at hv) ⟨p,o,none⟩ le ce (E.map zv) (by rw[UK,G1];omega) (fun j v hv=>by
  rw[UP] at hv;cases hx:E[j]? with
  |none=>rw[hx] at hv;cases hv
  |some x=>
   rw[hx] at hv;simp only[Uz,Uj] at hv;subst hv;have S5:(⟨p,o,none⟩:Addr).add j=⟨p,o+j,none⟩:=(by unfold Addr.add;split <;> simp_all);rw[S5];exact hc j x hx) (by omega) (by omega) S3
 rw[UH] at S1;have ZZ:le<=grownCap W le 0 3:=grownCap_ge W le 0 3;have J3:grownCap W le 0 3<=maxLen:=grownCap_le_maxLen W le 0 3 (by unfold maxLen;omega);refine ⟨_,_,S1,⟨G3,ZZ,by simpa[maxLen] using J3,.new h.rng.1,.inr ⟨W.heap.size,0,rfl,by rw[Ui];exact TF _,fun j x hx=>?_⟩⟩,⟨rfl,rfl,rfl,by rw[Ui];exact Xaq _,fun k hk=>(Below.alloc (Ug W.drew.heap.size W.drew) (Ue _) _).block k hk⟩,by rw[Ui];exact TF _⟩;have hn:=Um W.drew (.cells (([]:LV).toArray++(E.map zv).toArray++Builtin.zeroCells (Value.int .i64 0).cells (grownCap W le 0 3-le)) 3);have O1:=Uv _ _ (0+j) _ _ _ hn;refine O1.trans ?_;rw[UH,Array.getElem?_append_left (by have:=(Ul.1 hx).1;simp;exact this)];simp[hx,zv]
theorem Q33 {P:Program} {V:Value->World->Prop} {w w':World} {u:Value} {res:Result Next} (hr:res=.ok (.value u) w') (hb:Bw w w') (h:V u w'):Q1f P Qeo V w res:=by rw[hr];exact ⟨hb,h⟩
theorem Q73 {P:Program} {a:Operand->Value} {o:Oper} (s x:Operand) (t1 t2:TypeId) (ho:o.op=.call { callee:=.builtin .append,args:= #[s,x],argTypes:= #[t1,t2] }) {va vx:Value} (hs:a s=va) (hx:a x=vx) {v:Value} {w w':World} (S1:(Builtin.append_ #[t1,t2] o.type #[va,vx]).run P w=.ok v w'):(execOp a o).run P w=.ok (.value v) w':=by
 unfold execOp;simp only[ho,resolve,invoke,builtin,Sem.run_bind,Sem.run_pure,Result.andThen_ok,List.map_toArray,Xah,List.map_nil,hs,hx,S1]
theorem Q6o {P:Program} {a:Operand->Value} {o:Oper} (t:TypeId) (len:Nat) (parts:Array (Nat × Operand)) (ho:o.op=.buildSlice t len parts) {parts':Array (Nat × Value)} (hp:(parts.map fun (i,x)=>(i,a x))=parts') {v:Value} {w w':World} (S1:(Instr.buildSlice t len parts').run P w=.ok v w'):(execOp a o).run P w=.ok (.value v) w':=by
 subst hp;unfold execOp;simp only[ho,Sem.run_bind,S1,Result.andThen_ok,Sem.run_pure]
theorem Qmi (W:World):(Instr.buildSlice 96 0 #[]).run Tryz.prog W=.ok (.slice (some ⟨W.heap.size,0,none⟩) 0 0) (W.alloc (.cells #[] 3)):=by
 simp[Instr.buildSlice,run_underlying Qg0,Instr.fill,newRow];exact congrArg (fun c=>W.alloc (Obj.cells c 3)) (by simp)
theorem Qmj (W:World) (v0 v1 v2 v3:Value):(Instr.buildSlice 42 1 #[(0,.agg #[v0,v1,v2,v3])]).run Tryz.prog W=.ok (.slice (some ⟨W.heap.size,0,none⟩) 1 1) (W.alloc (.cells #[v0,v1,v2,v3] 98)):=by
 obtain ⟨i0,E2,P1,G1,K1⟩:=Q0p Q4q;exact run_buildSlice W 42 98 1 _ #[v0,v1,v2,v3] i0 _ Q95 E2 P1 (by rw[G1];decide) (by rw[G1];decide) (by rw[G1];first|kernel_rfl|simp[Instr.fill,Value.cells])
def Emp (v:Value) (_:World):Prop:=∃b,v=.slice (some ⟨b,0,none⟩) 0 0
def J0m (N le:Nat) (E:List Int) (v:Value) (W:World):Prop:=∃g c,v=.slice (some ⟨g,0,none⟩) le c/\N<=g/\g<W.heap.size/\Q0g W (some ⟨g,0,none⟩) le c E
def J0n (N le:Nat) (E:List Int) (v0 v1 v2:Value) (v:Value) (W:World):Prop:=∃g c,v=.agg #[v0,v1,v2,.slice (some ⟨g,0,none⟩) le c]/\N<=g/\g<W.heap.size/\Q0g W (some ⟨g,0,none⟩) le c E
def Qtz (N le:Nat) (E:List Int) (v0 v1 v2:Value) (v:Value) (W:World):Prop:=∃bl g c,v=.slice (some ⟨bl,0,none⟩) 1 1/\bl<W.heap.size/\W.heap[bl]?=some (.cells #[v0,v1,v2,.slice (some ⟨g,0,none⟩) le c] 98 (0,0))/\N<=g/\g<W.heap.size/\Q0g W (some ⟨g,0,none⟩) le c E
theorem Qqf:Q24 Emp:=fun _ _ _ h _=>h
theorem Qjm (N le:Nat) (E:List Int):Q24 (J0m N le E):=fun _ _ _ ⟨g,c,h1,h2,h3,h4⟩ hb=>⟨g,c,h1,h2,Uc h3 hb.size,h4.step hb⟩
theorem Qjn (N le:Nat) (E:List Int) (v0 v1 v2:Value):Q24 (J0n N le E v0 v1 v2):=fun _ _ _ ⟨g,c,h1,h2,h3,h4⟩ hb=>⟨g,c,h1,h2,Uc h3 hb.size,h4.step hb⟩
theorem Qh6 (N le:Nat) (E:List Int) (v0 v1 v2:Value):Q24 (Qtz N le E v0 v1 v2):=fun _ _ _ ⟨bl,g,c,h1,h5,h6,h2,h3,h4⟩ hb=>⟨bl,g,c,h1,Uc h5 hb.size,(hb.block bl h5).trans h6,h2,Uc h3 hb.size,h4.step hb⟩
structure Q6p (B:Nat) (w:World) (a:OA) (n c:Nat) (all:List Q01) (xs:LV):Prop where
 st:Q1r B w a n c all
 row:Q40 NoU w B 98 4 a n c xs
 new:∀j,j<n->∃be oe le ce,xs[j*4+3]?=some (.slice (some ⟨be,oe,none⟩) le ce)/\B<=be
theorem Q6p.step {B n c:Nat} {w w':World} {a:OA} {all:List Q01} {xs:LV} (h:Q6p B w a n c all xs) (hb:Bw w w'):Q6p B w' a n c all xs:=⟨h.st.step hb,h.row.step hb,h.new⟩
theorem Q6p.nil_ (B:Nat) (w:World):Q6p B w none 0 0 [] []:=⟨Q1r.nil_ _ _,Q40.nil_ _ _ _ _ _,fun _ h=>absurd h (TV _)⟩
def Qev (B:Nat) (w:World) (a:OA) (n:Nat):Prop:=∀j,j<n->∃g be oe le ce,a=some ⟨g,0,none⟩/\B<=g/\w.cell? ⟨g,j*4+3,none⟩=some (.slice (some ⟨be,oe,none⟩) le ce)/\B<=be
theorem Qev.more {B B':Nat} {w:World} {a:OA} {n:Nat} (h:Qev B w a n) (hB:B'<=B):Qev B' w a n:=fun j hj=>by
 obtain ⟨g,be,oe,le,ce,h1,h2,h3,h4⟩:=h j hj;exact ⟨g,be,oe,le,ce,h1,Un hB h2,h3,Un hB h4⟩
theorem Q6p.newp {B n c:Nat} {w:World} {a:OA} {all:List Q01} {xs:LV} (h:Q6p B w a n c all xs):Qev B w a n:=fun j hj=>by
 obtain ⟨be,oe,le,ce,hx,hb⟩:=h.new j hj;obtain ⟨g,ha,_⟩:=h.st.ent j _ (Ua (by rw[h.st.len];exact hj));have hg:=h.st.lt ha;have hr:=h.row;subst ha;exact ⟨g,be,oe,le,ce,rfl,hg.1,hr.1.cell0 hx,hb⟩
theorem Qmk {B:Nat} {U W:World} {a:OA} {n c:Nat} {all:List Q01} {xs:LV} (hU:Q6p B U a n c all xs) (hBU:B<=U.heap.size) (hb:Bw U W) {m:Q01} {aw:OA} {lw cw le:Nat} (hw:WordsIn U aw lw cw m.ws) {v:Value} (hv:Qtz U.heap.size le m.es (.bool m.neg) (.int .i64 m.exp) (.slice aw lw cw) v W) (hn:n<=1000) (ty:TypeId):
 ∃a' c' W' xs',(Builtin.append_ #[42,42] ty #[.slice a n c,v]).run Tryz.prog W=.ok (.slice a' (n+1) c') W'/\Q6p B W' a' (n+1) c' (all++[m]) xs'/\Below B U W':=by
 obtain ⟨bl,g,c1,rfl,U4,G8,R6,J5,hE⟩:=hv;obtain ⟨i0,E2,P1,G1,K1⟩:=Q0p Q4q;have hW:=hU.step hb;have hr:=hW.row;have D4:xs.length=n*4:=hr.1.len;obtain ⟨g6,c6,w6,x4,Y2,Q1,B5⟩:=Q0w (P:=Tryz.prog) NoU W 42 ty 98 i0 _ 4 64 Q95 E2 P1 G1 K1 rfl Q8b B (Un hBU hb.size) a n c xs hr bl 1 1 [.bool m.neg,.int .i64 m.exp,.slice aw lw cw,.slice (some ⟨g,0,none⟩) le c1] rfl (Tx (cs:= #[.bool m.neg,.int .i64 m.exp,.slice aw lw cw,.slice (some ⟨g,0,none⟩) le c1]) G8) (by simp[Value.oneCell']) (by intro u hu;simp at hu;rcases hu with rfl|rfl|rfl|rfl <;> exact fun _=>by simp[nv]) (by decide) (by omega) (by decide) (by decide);refine ⟨_,c6,w6,_,x4,⟨hW.st.push1 hr Q1 B5 Y2 rfl (hw.step hb) hE J5 (fun x hx e=>?_),Y2,fun j hj=>?_⟩,?_⟩
 ·have:=(hU.st.lt hx).2;omega
 ·by_cases T9:j<n
  ·obtain ⟨be,oe,l2,c2,hx,D0⟩:=hW.new j T9;exact ⟨be,oe,l2,c2,by rw[Tj (by omega)];exact hx,D0⟩
  ·obtain rfl:j=n:=(by omega);exact ⟨g,0,le,c1,by rw[UY (by omega),D4,Xaw];rfl,by omega⟩
 ·have VW:Below B U W:=⟨hb.os,hb.tape,hb.output,hb.size,fun z hz=>hb.block z (Uc hz hBU)⟩;exact VW.trans ⟨Q1.os,Q1.tape,Q1.output,Q1.size,fun z hz=>Q1.block z (Uc hz (Un hBU hb.size)) (fun e=>by
   cases a with
   |none=>simp at e
   |some q=>simp only[Uz,Uj] at e;have:=(hU.st.lt rfl).1;omega)⟩
def Q3d (w:World) (X:Except Int (List Q0b)) (r:Ending) (w':World):Prop:=Bw w w'/\match X with
 | .error e=>r=.returned (.tuple #[.slice none 0 0,.int .i64 e])
 | .ok P=>∃a n c ms,r=.returned (.tuple #[.slice a n c,.int .i64 0])/\Q08 w' a n c ms/\ms.map Q01.term=P/\(∀m∈ms,Q0a m.neg m.exp m.ws/\m.ws≠[])/\Qev w.heap.size w' a n
theorem Q3d.err {w w':World} {X:Except Int (List Q0b)} {e:Int} (hX:X=.error e) (hb:Bw w w'):Q3d w X (.returned (.tuple #[.slice none 0 0,.int .i64 e])) w':=by subst hX;exact ⟨hb,rfl⟩
theorem Q3d.ok {w w':World} {X:Except Int (List Q0b)} {P:List Q0b} {a:OA} {n c:Nat} {ms:List Q01} (hX:X=.ok P) (hb:Bw w w') (hm:Q08 w' a n c ms) (hP:ms.map Q01.term=P) (ho:∀m∈ms,Q0a m.neg m.exp m.ws/\m.ws≠[]) (hN:Qev w.heap.size w' a n):Q3d w X (.returned (.tuple #[.slice a n c,.int .i64 0])) w':=by subst hX;exact ⟨hb,_,_,_,_,rfl,hm,hP,ho,hN⟩
theorem Qqg {ts out:List Q0b} (ho:Q1u ts=out) {p:Q0b} (hp:p∈out) (hf:¬Q44 p.1):Q25 ts=.error 2:=by
 unfold Q25;rw[ho,Us];exact Xav.2 ⟨p,hp,by rw[(Qgi _).2 hf];rfl⟩
theorem Qqh {ts out:List Q0b} (ho:Q1u ts=out) (hf:∀p∈out,Q44 p.1):Q25 ts=if 24<(out.filter fun p=>decide (p.1≠0)).length then .error 6 else .ok (out.filter fun p=>decide (p.1≠0)):=by
 unfold Q25;rw[ho,Up];intro h;obtain ⟨p,hp,hb⟩:=Xav.1 h;rw[(Q17 p.1).2 (hf p hp)] at hb;cases hb
def J1p (w:World) (out:List Q0b) (s8 s9:Value) (wr:World):Prop:=∃(j N:Nat) (a:OA) (c:Nat) (ms:List Q01) (zs:LV),s8=.slice a N c/\s9=.int .i64 (j:Int)/\j<=out.length/\N<=j/\Q6p w.heap.size wr a N c ms zs/\ms.map Q01.term=(out.take j).filter (fun p=>decide (p.1≠0))/\
 (∀m∈ms,Q0a m.neg m.exp m.ws/\m.ws≠[])/\(∀p∈out.take j,Q44 p.1)/\Bw w wr
theorem Qa2 {α:Type} {l:List α} {j:Nat} {p:α} (h:l[j]?=some p):l.take (j+1)=l.take j++[p]:=by rw[Tc,h];rfl
theorem Qza {out:List Q0b} {j:Nat} {p:Q0b} (h:out[j]?=some p) (hz:p.1=0):(out.take (j+1)).filter (fun p=>decide (p.1≠0))=(out.take j).filter (fun p=>decide (p.1≠0)):=by
 rw[Qa2 h,List.filter_append];simp[hz]
theorem Qwt {out:List Q0b} {j:Nat} {p:Q0b} (h:out[j]?=some p) (hz:p.1≠0):(out.take (j+1)).filter (fun p=>decide (p.1≠0))=(out.take j).filter (fun p=>decide (p.1≠0))++[p]:=by
 rw[Qa2 h,List.filter_append];simp[hz]
theorem Qjo {out:List Q0b} {j:Nat} {p:Q0b} (h:out[j]?=some p) (hf:Q44 p.1) (ha:∀q∈out.take j,Q44 q.1):∀q∈out.take (j+1),Q44 q.1:=fun q hq=>by
 rw[Qa2 h] at hq;rcases Tq.1 hq with hq|hq
 ·exact ha q hq
 ·rw[Ux] at hq;subst hq;exact hf
structure Qob (W:World) (q g oj:Nat) (v0 v1 v2:Value) (ae:OA) (le ce:Nat) (E:List Int):Prop where
 bx:Q03 W q v0 v1 v2
 o3:W.cell? ⟨g,oj,none⟩=some (.slice ae le ce)
 ei:Q0g W ae le ce E
theorem Qob.step {W W':World} {q g oj:Nat} {v0 v1 v2:Value} {ae:OA} {le ce:Nat} {E:List Int} (h:Qob W q g oj v0 v1 v2 ae le ce E) (hb:Bw W W'):Qob W' q g oj v0 v1 v2 ae le ce E:=
 ⟨h.bx.step hb (UA h.bx.c0),(hb.cell (p:=⟨g,oj,none⟩) (UA h.o3)).trans h.o3,h.ei.step hb⟩
def Q4w (w wr:World) (ao:OA) (m co:Nat) (out:List Q0b) (xs:LV):Prop:=out.length=m/\Q40 NoD wr w.heap.size 219 4 ao m co xs/\Q65 w wr out xs/\Bw w wr
def Qzb (w:World) (ts:List Q0b) (s4 s5:Value) (wr:World):Prop:=∃(i m:Nat) (ao:OA) (co:Nat) (xs:LV),s4=.slice ao m co/\s5=.int .i64 (i:Int)/\i<=ts.length/\Q4w w wr ao m co (Q1u (ts.take i)) xs
theorem Q4w.step {w wr w':World} {ao:OA} {m co:Nat} {out:List Q0b} {xs:LV} (h:Q4w w wr ao m co out xs) (hb:Bw wr w'):Q4w w w' ao m co out xs:=
 ⟨h.1,h.2.1.step hb,h.2.2.1.keep (fun h=>h.step hb),Below.next0 h.2.2.2 hb⟩
theorem Qwu {w W:World} {g m co kk:Nat} {out:List Q0b} {xs:LV} {p:Q0b} {G2:List Q0b} {D:Dyadic} (hp:out[kk]?=some p) (hG:G2=out.set kk (D,p.2)) (h:Q4w w W (some ⟨g,0,none⟩) m co out xs) {n8:Bool} {a8:OA} {l8 c8 v8:Nat} {q8:Int} (hd:Q0r W a8 l8 c8 v8) (hc:Q4y n8 v8 q8) (hD:dy (sgn n8 v8) q8=D):
 ∃xs2,Q4w w (((W.setCell ⟨g,kk*4,none⟩ (.bool n8)).setCell ⟨g,kk*4+1,none⟩ (.slice a8 l8 c8)).setCell ⟨g,kk*4+2,none⟩ (.int .i64 q8)) (some ⟨g,0,none⟩) m co G2 xs2:=by
 obtain ⟨h1,h2,h3,h4⟩:=h;obtain ⟨n,a,l,c,e,v,ae,le,ce,g0,g1,g2,g3,_⟩:=h3.get hp;have R0:∀{j:Nat} {u:Value},xs[j]?=some u->W.cell? ⟨g,j,none⟩=some u:=fun {j u} hj=>by
  obtain ⟨g',e',_,_,C2⟩:=h2.1.at_ hj;injection e' with e';injection e' with e';subst e';exact C2
 have k0:=R0 g0;have k1:=R0 g1;have k2:=R0 g2;have hgB:w.heap.size<=g:=by
  rcases h2.1.form with ⟨h0,_⟩|⟨g',cur,e',hB,_⟩
  ·cases h0
  ·injection e' with e';injection e' with e';subst e';exact hB
 have hk:∀{a l c v},Q0r W a l c v->Q0r (((W.setCell ⟨g,kk*4,none⟩ (.bool n8)).setCell ⟨g,kk*4+1,none⟩ (.slice a8 l8 c8)).setCell ⟨g,kk*4+2,none⟩ (.int .i64 q8)) a l c v:=fun h=>by
  refine ((h.set1 k0 (Qc5 _) _).set1 (p:=⟨g,kk*4+1,none⟩) ((Ud _ _ _ _ (by simp)).trans k1) (Q6n _ _ _) _).set1 (p:=⟨g,kk*4+2,none⟩) ((Ud _ _ _ _ (by simp)).trans ((Ud _ _ _ _ (by simp)).trans k2)) (Qh5 _) _
 refine ⟨_,by rw[hG,Tk];exact h1,((h2.set (kk*4) (Qc5 n8)).set (kk*4+1) (Q6n a8 l8 c8)).set (kk*4+2) (Qh5 q8),?_,((h4.setCell (p:=⟨g,kk*4,none⟩) hgB _).setCell (p:=⟨g,kk*4+1,none⟩) hgB _).setCell (p:=⟨g,kk*4+2,none⟩) hgB _⟩;rw[hG,<-hD];exact Q65.put (hk hd) hc (h3.keep hk) hp
structure Qwv (w W:World) (g kk m co b oi:Nat) (out:List Q0b) (xs:LV) (n2:Bool) (a2:OA) (l2 c2 v2:Nat) (e2:Int) (n1:Bool) (a1:OA) (l1 c1 v1:Nat) (e1:Int):Prop where
 o0:W.cell? ⟨g,kk*4,none⟩=some (.bool n2)
 o1:W.cell? ⟨g,kk*4+1,none⟩=some (.slice a2 l2 c2)
 o2:W.cell? ⟨g,kk*4+2,none⟩=some (.int .i64 e2)
 z0:W.frozen? ⟨g,kk*4,none⟩=false
 z1:W.frozen? ⟨g,kk*4+1,none⟩=false
 z2:W.frozen? ⟨g,kk*4+2,none⟩=false
 i0:W.cell? ⟨b,oi,none⟩=some (.bool n1)
 i1:W.cell? ⟨b,oi+1,none⟩=some (.slice a1 l1 c1)
 i2:W.cell? ⟨b,oi+2,none⟩=some (.int .i64 e1)
 d2:Q0r W a2 l2 c2 v2
 d1:Q0r W a1 l1 c1 v1
 st:Q4w w W (some ⟨g,0,none⟩) m co out xs
theorem Qwv.step {w W W':World} {g kk m co b oi:Nat} {out:List Q0b} {xs:LV} {n2:Bool} {a2:OA} {l2 c2 v2:Nat} {e2:Int} {n1:Bool} {a1:OA} {l1 c1 v1:Nat} {e1:Int} (h:Qwv w W g kk m co b oi out xs n2 a2 l2 c2 v2 e2 n1 a1 l1 c1 v1 e1) (hb:Bw W W'):Qwv w W' g kk m co b oi out xs n2 a2 l2 c2 v2 e2 n1 a1 l1 c1 v1 e1:=by
 have hg:g<W.heap.size:=UA h.o0;have E4:b<W.heap.size:=UA h.i0;exact ⟨(hb.cell (p:=⟨g,kk*4,none⟩) hg).trans h.o0,(hb.cell (p:=⟨g,kk*4+1,none⟩) hg).trans h.o1,(hb.cell (p:=⟨g,kk*4+2,none⟩) hg).trans h.o2,(hb.frozen (p:=⟨g,kk*4,none⟩) hg).trans h.z0,(hb.frozen (p:=⟨g,kk*4+1,none⟩) hg).trans h.z1,(hb.frozen (p:=⟨g,kk*4+2,none⟩) hg).trans h.z2,
  (hb.cell (p:=⟨b,oi,none⟩) E4).trans h.i0,(hb.cell (p:=⟨b,oi+1,none⟩) E4).trans h.i1,(hb.cell (p:=⟨b,oi+2,none⟩) E4).trans h.i2,h.d2.step hb,h.d1.step hb,h.st.step hb⟩
theorem Q0g.heap {w W:World} {a:OA} {n c:Nat} {E:List Int} (h:Q0g w a n c E) (hh:W.heap=w.heap):Q0g W a n c E:=by
 refine ⟨h.len,h.cap,h.most,h.rng,?_⟩;rw[hh];exact h.rd.keep fun p _=>by unfold World.cell?;rw[hh]
def Q3e (w W:World):Prop:=∃q,W=w.drewN q
theorem Q3e.step {w W:World} (h:Q3e w W) (k:Nat):Q3e w (W.drewN k):=by
 obtain ⟨q,rfl⟩:=h;exact ⟨_,Xbl ..⟩
theorem Q3e.below {w W:World} (h:Q3e w W):Bw w W:=by
 obtain ⟨q,rfl⟩:=h;exact Q1d (Ug _ _) q
theorem Q3e.heap {w W:World} (h:Q3e w W):W.heap=w.heap:=by
 obtain ⟨q,rfl⟩:=h;rfl
theorem Q3e.trans {w W V:World} (h:Q3e w W) (h2:Q3e W V):Q3e w V:=by
 obtain ⟨q,rfl⟩:=h2;exact h.step q
theorem Q3e.cell {w W:World} (h:Q3e w W) (p:Addr):W.cell? p=w.cell? p:=by unfold World.cell?;rw[h.heap]
theorem Q5k {Φ P:World->Prop} (W:World) (hW:Φ W) (h:∀U,Φ U->P U):P W:=h W hW
theorem Q40.block {Pr:Value->Prop} {w:World} {B:Nat} {e:TypeId} {k m c:Nat} {a:OA} {xs:LV} (h:Q40 Pr w B e k a m c xs) (hm:0<m):∃g,a=some ⟨g,0,none⟩/\(∀i,w.frozen? ⟨g,i,none⟩=false)/\∀j u,xs[j]?=some u->w.cell? ⟨g,j,none⟩=some u:=by
 rcases h.1.form with ⟨_,h0,_⟩|⟨g,cur,rfl,_,_,hh,_⟩
 ·omega
 ·refine ⟨g,rfl,fun i=>TC _ _ _ _ _ hh,fun j u hj=>?_⟩;obtain ⟨g',e',_,_,C2⟩:=h.1.at_ hj;injection e' with e';injection e' with e';subst e';exact C2
theorem Qqi (a:OA) (n c:Nat) (ts:List Q0b) (k T:Nat) (w:World) (h:Qtw w a n c ts) (hE:∀p∈ts,p.2.length=k) (Y8:∀p∈ts,bnd T p.1) (hn:n<=1000) (hT:T+n<=500000) (hk:1<=k) (o5:k<=1000):
 Calls Tryz.prog 169 #[.slice a n c] w (Q3d w (Q25 ts)):=by
 have G3:=h.1;have J3:=Un h.2.1 h.2.2.1;obtain ⟨X,hX⟩:∃X,Q25 ts=X:=⟨_,rfl⟩;rw[hX];have H:=Xh4 h hE Y8 hX;clear h hE Y8 hX
 go_enter Tryz.func169,Tryz.ntmps169
 go_wp2_with fail
 go_loopw [4,5] (fun s4 s5 wr=>Qzb w ts s4 s5 wr) (fun _ iv _=>n-(intOf iv).toNat)
 case atStart=>exact ⟨0,0,none,0,[],rfl,rfl,Ut _,rfl,Q40.nil_ _ _ _ _ _,rfl,Ug _ _⟩
 case round=>
  obtain ⟨i,m,ao,co,xs,rfl,rfl,hi,P0⟩:=hrel
  by_cases E0:i<n
  ·have J0:(i:Int)<(n:Int):=(by omega);obtain ⟨cc,X3⟩:∃cc,ts[i]?=some cc:=⟨_,Ua (by omega)⟩;have XL:m<=i:=(by rw[<-P0.1];exact Qc7 ts i);have hob:=Qc6 (Xo2 H) i;have hoe:∀p∈Q1u (ts.take i),p.2.length=k:=fun p hp=>by
    obtain ⟨q,hq,he⟩:=(Q6x (ts.take i)).2.2.1 p hp;rw[<-he];exact (Xo1 H) q (TB hq)
   have S7:Q1u (ts.take (i+1))=Q8r (Q1u (ts.take i)) cc:=(by rw[Tc,X3];exact Q82 _ _);obtain ⟨out,N3⟩:∃out,Q1u (ts.take i)=out:=⟨_,rfl⟩;rw[N3] at P0 hob hoe S7;obtain ⟨_,_,_,h0|⟨b,o,rfl,E4,ys,WC,hyc⟩⟩:=(Xo0 H)
   ·rw[h0] at X3;simp at X3
   obtain ⟨n1,a1,l1,c1,e1,v1,ae1,le1,ce1,y0,y1,y2,y3,C3,O1,Ww,hE1⟩:=WC.get X3;obtain rfl:le1=k:=(by rw[<-hE1.len];exact (Xo1 H) cc (Uf X3));have O0:=P0.2.2.2;have Wh:∀j u,ys[i*4+j]?=some u->w.cell? ⟨b,o+i*4+j,none⟩=some u:=fun j u hj=>by rw[Nat.add_assoc];exact hyc _ _ hj
   have YZ:=Xh4 (hyc _ _ y0) (Wh _ _ y1) (Wh _ _ y2) (Wh _ _ y3);have q0:=(O0.cell (p:=⟨b,o+i*4,none⟩) E4).trans (hyc _ _ y0);have q1:=(O0.cell (p:=⟨b,o+(i*4+1),none⟩) E4).trans (hyc _ _ y1);have q2:=(O0.cell (p:=⟨b,o+(i*4+2),none⟩) E4).trans (hyc _ _ y2);have q3:=(O0.cell (p:=⟨b,o+(i*4+3),none⟩) E4).trans (hyc _ _ y3);rw[<-Nat.add_assoc] at q1 q2 q3;have hcb:bnd T cc.1:=(Xo2 H) cc (Uf X3);have hmc:=Un P0.2.1.1.cap.1 P0.2.1.1.cap.2;have hmco:=P0.2.1.1.cap.1;have HS:=Xh10 P0 hob hoe S7 C3 O1 Ww hE1 hcb O0;clear P0 hob hoe S7 C3 O1 Ww hE1 hcb O0 X3 WC hyc Wh y0 y1 y2 y3 N3
   go_wp2_with fail
   rename World=>wl
   go_loopw [6] (fun s6 wr=>∃kk:Nat,s6=.int .i64 (kk:Int)/\kk<=m/\(∀j p,j<kk->out[j]?=some p->0<Q3j p.2 cc.2)/\Q3e wl wr) (fun iv _=>m-(intOf iv).toNat)
   case atStart=>exact ⟨0,rfl,Ut _,fun j p hj=>absurd hj (TV _),0,rfl⟩
   case round=>
    obtain ⟨kk,rfl,Yg,Jq,Z6⟩:=hrel;have R0:∀p,wr.cell? p=wl.cell? p:=fun p=>by unfold World.cell?;rw[Z6.heap]
    by_cases JM:kk<m
    ·have hkm':(kk:Int)<(m:Int):=(by omega);obtain ⟨p,hp⟩:∃p,out[kk]?=some p:=⟨_,Ua (by rw[(Xo0 HS).1];exact JM)⟩;obtain ⟨g,rfl,ZW,JW⟩:=(Xo0 HS).2.1.block (by omega);obtain ⟨n2,a2,l2,c2,e2,v2,ae2,le2,ce2,g0,g1,g2,g3,V2,E1,Zf,Vl⟩:=(Xo0 HS).2.2.1.get hp;obtain rfl:le2=le1:=(by rw[<-Vl.len];exact (Xo2 HS) p (Uf hp));have x0:=(R0 ⟨g,kk*4,none⟩).trans (JW _ _ g0);have x1:=(R0 ⟨g,kk*4+1,none⟩).trans (JW _ _ g1);have x2:=(R0 ⟨g,kk*4+2,none⟩).trans (JW _ _ g2);have x3:=(R0 ⟨g,kk*4+3,none⟩).trans (JW _ _ g3);have z0:=(R0 ⟨b,o+i*4,none⟩).trans q0;have z1:=(R0 ⟨b,o+i*4+1,none⟩).trans q1;have z2:=(R0 ⟨b,o+i*4+2,none⟩).trans q2;have z3:=(R0 ⟨b,o+i*4+3,none⟩).trans q3;have Jw:∀W:World,Q3e wr W->Calls Tryz.prog 100 #[.slice ae2 le2 ce2,.slice ae1 le2 ce1] W fun e w'=>e=.returned (.int .i64 (Q3j p.2 cc.2))/\∃n,w'=W.drewN n:=fun W hW=>by
      have hh:W.heap=wl.heap:=hW.heap.trans Z6.heap;exact Qeu ae2 le2 ce2 p.2 ae1 ce1 cc.2 W ((Vl.step (Xe9 HS)).heap hh) (((Xo7 HS).step (Xe9 HS)).heap hh)
     obtain ⟨V,hV⟩:∃V,Q3j p.2 cc.2=V:=⟨_,rfl⟩;rw[hV] at Jw
     by_cases hgt:0<V
     ·have HX:=Xh4 Z6 Jq hp hV;clear Z6 Jq hp hV R0 JW V2 E1 Zf Vl g0 g1 g2 g3 ZW
      go_wp2_with fail
      go_quiet (first|(refine Calls.quiet_of (Jw _ ?_);first|exact ⟨_,rfl⟩|exact Q3e.step ⟨_,rfl⟩ _|exact ⟨0,rfl⟩))
      go_wp2_with fail
      refine ⟨⟨kk+1,congrArg (Value.int .i64) (by omega),by omega,fun j p' hj T8=>?_,(Xo0 HX).step _⟩,by simp only[intOf];omega⟩
      by_cases y9:j=kk
      ·subst y9;rw[(Xo2 HX)] at T8;injection T8 with T8;rw[<-T8,(Xe3 HX)];exact hgt
      ·exact (Xo1 HX) j p' (by omega) T8
     ·by_cases x7:V=0
      ·subst x7;obtain ⟨G2,hG2⟩:∃G2,Q1u (ts.take (i+1))=G2:=⟨_,rfl⟩;have hG3:G2=out.set kk (p.1+cc.1,p.2):=(by rw[<-hG2,(Xo3 HS)];exact Qtx Jq hp hV);have hb2':bnd 500000 (dy (sgn n2 v2) e2):=(by rw[Zf];exact ((Xo1 HS) p (Uf hp)).more (by omega));have hb1':bnd 500000 (dy (sgn n1 v1) e1):=(by rw[(Xo6 HS)];exact (Xo8 HS).more (by omega));have N5:dy (sgn n2 v2) e2+dy (sgn n1 v1) e1=p.1+cc.1:=(by rw[Zf,(Xo6 HS)]);have S5:Qwv w wl g kk m co b (o+i*4) out xs n2 a2 l2 c2 v2 e2 n1 a1 l1 c1 v1 e1:=⟨JW _ _ g0,JW _ _ g1,JW _ _ g2,ZW _,ZW _,ZW _,q0,q1,q2,V2,(Xo4 HS).step (Xe9 HS),(Xo0 HS)⟩;have HW:=Xh2 Z6 S5;have HG:=Xh7 E1 (Xo5 HS) hb2' hb1' hp hG3 N5;have HG2:=Ub hG2;clear Z6 Jq hp hV R0 JW V2 E1 Zf Vl g0 g1 g2 g3 ZW S5 hb2' hb1' N5 hG3 hG2
       go_wp2_with fail
       go_quiet (first|(refine Calls.quiet_of (Jw _ ?_);first|exact ⟨_,rfl⟩|exact Q3e.step ⟨_,rfl⟩ _|exact ⟨0,rfl⟩))
       go_upto_region 8 with fail
       refine Q5k (Φ:=Q3e wr) (P:=fun U=>Code.wp _ _ _ _ U) _ (by first|exact ⟨_,rfl⟩|exact Q3e.step ⟨_,rfl⟩ _|exact Q3e.step (Q3e.step ⟨_,rfl⟩ _) _) ?_;intro V1 O5;have u1:=(O5.cell ⟨g,kk*4+3,none⟩).trans x3;have u3:=(O5.cell ⟨b,o+i*4+3,none⟩).trans z3;have ho8:=fun W (h:Q3e V1 W)=>Jw W (O5.trans h);clear Jw x0 x1 x2 x3 z0 z1 z2 z3
       go_quiet (first|(refine Calls.quiet_of (ho8 _ ?_);first|exact ⟨_,rfl⟩|exact Q3e.step ⟨_,rfl⟩ _|exact ⟨0,rfl⟩))
       go_upto_region 9 with fail
       refine Q5k (Φ:=Q3e wl) (P:=fun U=>Code.wp _ _ _ _ U) _ (by first|exact (Xo0 HW)|exact (Xo0 HW).step _|exact ((Xo0 HW).step _).step _|exact (Xo0 HW).trans O5|exact (Xo0 HW).trans (O5.step _)|exact (Xo0 HW).trans ((O5.step _).step _)) ?_;intro U hU;have HC:=Ub (fun W (h:Bw U W)=>(Xe1 HW).step (Below.next0 hU.below h));clear hU;refine Q23 (by kernel_rfl) 15 rfl (fun W=>Bw U W) (fun _ _ h h'=>Below.next0 h h') (Q56 [.slice (some ⟨g,0,none⟩) m co,.int .i64 (kk:Int),.slice (some ⟨g,0,none⟩) m co,.int .i64 (kk:Int),.pointer (some ⟨g,kk*4,none⟩),.pointer (some ⟨g,kk*4,none⟩),.agg #[.bool n2,.slice a2 l2 c2,.int .i64 e2],.slice (some ⟨b,o,none⟩) n c,.int .i64 (i:Int),.pointer (some ⟨b,o+i*4,none⟩),.pointer (some ⟨b,o+i*4,none⟩),.agg #[.bool n1,.slice a1 l1 c1,.int .i64 e1],undef,.pointer (some ⟨g,kk*4,none⟩),.pointer (some ⟨g,kk*4,none⟩)] (Q2s [(12,fun u w=>Q7b w u (dy (sgn n2 v2) e2+dy (sgn n1 v1) e1))])) (Q0j (Q12 (Qyo (Q2c _)))) (fun W=>∃xs2,Q4w w W (some ⟨g,0,none⟩) m co G2 xs2) (by kernel_rfl) (by kernel_rfl) (by kernel_rfl) (by kernel_rfl) (Q04 U) ?_ ?_ ?_
       ·skip
        repeat' (first|exact Qet|refine Qes ?_ ?_)
        all_goals first
         |(refine Q3i rfl fun A W hW F0 hd hd=>?_
           simp[Qbq,Region.binds,Q2s] at hd;have e4:=Q0d F0 4 (by kernel_rfl) rfl;have e6:=Q0d F0 6 (by kernel_rfl) rfl;have e0:=Q0d F0 0 (by kernel_rfl) rfl;have e5:=Q0d F0 5 (by kernel_rfl) rfl;refine Q1m rfl rfl ?_;simp[go_sem,hd,e4,e6,e0,e5,hkm',(HC.out W hW).o0,(HC.out W hW).o1,(HC.out W hW).o2,J0,(HC.out W hW).i0,(HC.out W hW).i1,(HC.out W hW).i2]
           done)
         |skip
        ·intro A W hW F0 A0;have e62:=Q0s A0 6 (by decide) rfl rfl rfl;have e67:=Q0s A0 11 (by decide) rfl rfl rfl;refine Q02 rfl ?_;refine Q0u (f:=151) (args:= #[.agg #[.bool n2,.slice a2 l2 c2,.int .i64 e2],.agg #[.bool n1,.slice a1 l1 c1,.int .i64 e1]]) (by simp[go_sem,e62,e67]) ((Qdl n2 a2 l2 c2 e2 v2 n1 a1 l1 c1 e1 v1 W (HC.out W hW).d2 (HC.out W hW).d1 (Xo0 HG) (Xo1 HG) 500000 (Xo2 HG) (Xo3 HG) (Ue _)).mono ?_);rintro e w2' ⟨u',rfl,Jl,B4⟩;exact ⟨_,rfl,B4,(Q00 rfl).2 Jl⟩
       ·intro A W hW F0 A0;obtain ⟨n8,a8,l8,c8,q8,v8,Z9,ZS,T7,JA⟩:=(Q00 rfl).1 (A0 12 (by decide));have e68:=Q1w Z9;have e70:=Q0s A0 14 (by decide) rfl rfl rfl;have hgg:=HC.out W hW;have k0:=hgg.o0;have f0:=hgg.z0;have f1:=hgg.z1;have f2:=hgg.z2;have d1:(W.setCell ⟨g,kk*4,none⟩ (.bool n8)).cell? ⟨g,kk*4+1,none⟩=some (.slice a2 l2 c2):=(Ud _ _ _ _ (by simp)).trans hgg.o1;have d2:((W.setCell ⟨g,kk*4,none⟩ (.bool n8)).setCell ⟨g,kk*4+1,none⟩ (.slice a8 l8 c8)).cell? ⟨g,kk*4+2,none⟩=some (.int .i64 e2):=(Ud _ _ _ _ (by simp)).trans ((Ud _ _ _ _ (by simp)).trans hgg.o2);refine Q32 (w':=(((W.setCell ⟨g,kk*4,none⟩ (.bool n8)).setCell ⟨g,kk*4+1,none⟩ (.slice a8 l8 c8)).setCell ⟨g,kk*4+2,none⟩ (.int .i64 q8))) (by simp[go_sem,e70,e68,k0,f0,f1,f2,d1,d2]) ?_;exact Qwu (Xo4 HG) (Xo5 HG) (HC.out W hW).st ZS T7 (JA.trans (Xe6 HG))
       intro vs W2 S2;obtain ⟨xs2,hst2⟩:=S2;have HF:=Ub hst2;clear hst2;simp only[Q0y,Act.put,Uu,UI,UF]
       go_wp2_with fail
       exact ⟨⟨i+1,m,some ⟨g,0,none⟩,co,xs2,rfl,congrArg (Value.int .i64) (by omega),by omega,by rw[HG2.out];exact HF.out⟩,by simp only[intOf];omega⟩
      ·have hv0':(V==0)=false:=(by rw[Uk];exact x7);have HW:=Ub (And.intro Z6 (And.intro Jq (show∀p',out[kk]?=some p'->Q3j p'.2 cc.2<0 from fun p' T8=>by
        rw[hp] at T8;injection T8 with T8;rw[<-T8,hV];omega)))
       clear Z6 Jq hp hV R0 JW V2 E1 Zf Vl g0 g1 g2 g3 ZW
       go_wp2_with fail
       go_quiet (first|(refine Calls.quiet_of (Jw _ ?_);first|exact ⟨_,rfl⟩|exact Q3e.step ⟨_,rfl⟩ _|exact ⟨0,rfl⟩))
       go_upto_region 8 with fail
       refine Q5k (Φ:=Q3e wr) (P:=fun U=>Code.wp _ _ _ _ U) _ (by first|exact ⟨_,rfl⟩|exact Q3e.step ⟨_,rfl⟩ _|exact Q3e.step (Q3e.step ⟨_,rfl⟩ _) _) ?_;intro V1 O5;have u1:=(O5.cell ⟨g,kk*4+3,none⟩).trans x3;have u3:=(O5.cell ⟨b,o+i*4+3,none⟩).trans z3;have ho8:=fun W (h:Q3e V1 W)=>Jw W (O5.trans h);clear Jw x0 x1 x2 x3 z0 z1 z2 z3
       go_quiet (first|(refine Calls.quiet_of (ho8 _ ?_);first|exact ⟨_,rfl⟩|exact Q3e.step ⟨_,rfl⟩ _|exact ⟨0,rfl⟩))
       go_upto_region 11 with fail
       refine Q5k (Φ:=Q3e wl) (P:=fun U=>Code.wp _ _ _ _ U) _ (by first|exact (Xo0 HW)|exact (Xo0 HW).step _|exact ((Xo0 HW).step _).step _|exact (Xo0 HW).trans O5|exact (Xo0 HW).trans (O5.step _)|exact (Xo0 HW).trans ((O5.step _).step _)) ?_;intro U hU;have hUb:=hU.below;have QB:=(Xo0 HS).step hUb;have XR:=QB.2.2.2;obtain ⟨a7,c7,w7,Qw,q6,a8,c8,w8,R3,A5,a9,c9,w9,F9,V3,G9,u9⟩:=Qfy w U XR (some ⟨g,0,none⟩) m co xs out QB.1 QB.2.1 QB.2.2.1 kk Yg cc [.bool n1,.slice a1 l1 c1,.int .i64 e1,.slice ae1 le2 ce1] ⟨n1,a1,l1,c1,e1,v1,ae1,le2,ce1,[],rfl,⟨(Xo4 HS).step XR,(Xo5 HS),(Xo6 HS),(Xo7 HS)⟩,rfl⟩ (by omega);have p0:=(q6.cell (p:=⟨b,o+i*4,none⟩) E4).trans (Xo0 YZ);have p1:=(q6.cell (p:=⟨b,o+i*4+1,none⟩) E4).trans (Xo1 YZ);have p2:=(q6.cell (p:=⟨b,o+i*4+2,none⟩) E4).trans (Xo2 YZ);have p3:=(q6.cell (p:=⟨b,o+i*4+3,none⟩) E4).trans (Xe3 YZ);have A3:=fun W=>Qjk W (some ⟨g,0,none⟩) m co kk (by omega);have X5:=fun W=>Qjj W (some ⟨g,0,none⟩) m co kk Yg;have i5:Q1u (ts.take (i+1))=out.take kk++cc::out.drop kk:=by
        rw[(Xo3 HS)];exact Qjg (by rw[(Xo0 HS).1];exact Yg) (Xo1 HW) (Xe2 HW)
       have U3:∃xs',Q4w w w9 a9 (m+1) c9 (Q1u (ts.take (i+1))) xs':=by
        rw[i5];exact ⟨_,by rw[Uh,Ur,Tl,Tg,(Xo0 HS).1];omega,G9,u9,V3⟩
       obtain ⟨xs9,hx9⟩:=U3;have HR:=Ub hx9;clear hx9 G9 u9 V3 i5 hUb QB XR q6 A5
       go_wp2_with (first
        |(at_builtin;refine Q06 rfl (.tmp 71) (.tmp 74) 217 217 rfl _ _ rfl rfl _ _ Qw ?_)
        |(at_builtin;refine Q06 rfl (.tmp 76) (.tmp 81) 217 217 rfl _ _ rfl rfl _ _ R3 ?_)
        |(at_builtin;refine Q06 rfl (.tmp 83) (.tmp 86) 217 217 rfl _ _ rfl rfl _ _ F9 ?_))
       exact ⟨⟨i+1,m+1,a9,c9,xs9,rfl,congrArg (Value.int .i64) (by omega),by omega,HR.out⟩,by simp only[intOf];omega⟩
    ·have hkm':¬(kk:Int)<(m:Int):=(by omega);have HW:=Ub (And.intro Z6 (And.intro Jq (show∀p',out[kk]?=some p'->Q3j p'.2 cc.2<0 from fun p' T8=>by
      have:=(Ul.1 T8).1;have:=(Xo0 HS).1;omega)))
     clear Z6 Jq R0
     go_wp2_with fail
     go_quiet (fail)
     go_wp2_with fail
     go_quiet (fail)
     go_upto_region 11 with fail
     refine Q5k (Φ:=Q3e wl) (P:=fun U=>Code.wp _ _ _ _ U) _ (by first|exact (Xo0 HW)|exact (Xo0 HW).step _|exact ((Xo0 HW).step _).step _|exact (Xo0 HW).trans O5|exact (Xo0 HW).trans (O5.step _)|exact (Xo0 HW).trans ((O5.step _).step _)) ?_;intro U hU;have hUb:=hU.below;have QB:=(Xo0 HS).step hUb;have XR:=QB.2.2.2;obtain ⟨a7,c7,w7,Qw,q6,a8,c8,w8,R3,A5,a9,c9,w9,F9,V3,G9,u9⟩:=Qfy w U XR ao m co xs out QB.1 QB.2.1 QB.2.2.1 kk Yg cc [.bool n1,.slice a1 l1 c1,.int .i64 e1,.slice ae1 le1 ce1] ⟨n1,a1,l1,c1,e1,v1,ae1,le1,ce1,[],rfl,⟨(Xo4 HS).step XR,(Xo5 HS),(Xo6 HS),(Xo7 HS)⟩,rfl⟩ (by omega);have p0:=(q6.cell (p:=⟨b,o+i*4,none⟩) E4).trans (Xo0 YZ);have p1:=(q6.cell (p:=⟨b,o+i*4+1,none⟩) E4).trans (Xo1 YZ);have p2:=(q6.cell (p:=⟨b,o+i*4+2,none⟩) E4).trans (Xo2 YZ);have p3:=(q6.cell (p:=⟨b,o+i*4+3,none⟩) E4).trans (Xe3 YZ);have A3:=fun W=>Qjk W ao m co kk (by omega);have X5:=fun W=>Qjj W ao m co kk Yg;have i5:Q1u (ts.take (i+1))=out.take kk++cc::out.drop kk:=by
      rw[(Xo3 HS)];exact Qjg (by rw[(Xo0 HS).1];exact Yg) (Xo1 HW) (Xe2 HW)
     have U3:∃xs',Q4w w w9 a9 (m+1) c9 (Q1u (ts.take (i+1))) xs':=by
      rw[i5];exact ⟨_,by rw[Uh,Ur,Tl,Tg,(Xo0 HS).1];omega,G9,u9,V3⟩
     obtain ⟨xs9,hx9⟩:=U3;have HR:=Ub hx9;clear hx9 G9 u9 V3 i5 hUb QB XR q6 A5
     go_wp2_with (first
      |(at_builtin;refine Q06 rfl (.tmp 71) (.tmp 74) 217 217 rfl _ _ rfl rfl _ _ Qw ?_)
      |(at_builtin;refine Q06 rfl (.tmp 76) (.tmp 81) 217 217 rfl _ _ rfl rfl _ _ R3 ?_)
      |(at_builtin;refine Q06 rfl (.tmp 83) (.tmp 86) 217 217 rfl _ _ rfl rfl _ _ F9 ?_))
     exact ⟨⟨i+1,m+1,a9,c9,xs9,rfl,congrArg (Value.int .i64) (by omega),by omega,HR.out⟩,by simp only[intOf];omega⟩
  ·have J0:¬(i:Int)<(n:Int):=(by omega);have I7:ts.take i=ts:=Uw (by omega);obtain ⟨out,N3⟩:∃out,Q1u ts=out:=⟨_,rfl⟩;have XL:m<=n:=(by rw[<-P0.1];exact Un (Qc7 ts i) (by omega));have hob:∀p∈out,bnd (T+n) p.1:=fun p hp=>by
    refine (Qc6 (Xo2 H) i p (by rw[I7,N3];exact hp)).more (by omega)
   have hoe:∀p∈out,p.2.length=k:=fun p hp=>by
    obtain ⟨q,hq,he⟩:=(Q6x ts).2.2.1 p (by rw[N3];exact hp);rw[<-he];exact (Xo1 H) q hq
   rw[I7,N3] at P0;have hmco:=P0.2.1.1.cap.1;have hmc:=Un P0.2.1.1.cap.1 P0.2.1.1.cap.2;have HS:=Xh4 P0 hob hoe N3;clear P0 hob hoe N3 I7
   go_wp2_with fail
   rename World=>wl
   go_loopw [8,9] (fun s8 s9 wr=>J1p wl out s8 s9 wr) (fun _ iv _=>m-(intOf iv).toNat)
   case atStart=>exact ⟨0,0,none,0,[],[],rfl,rfl,Ut _,Ue _,Q6p.nil_ _ _,rfl,(fun m hm=>by cases hm),(fun p hp=>by simp at hp),Ug _ _⟩
   case round=>
    obtain ⟨j,N,a1,c1,ms,zs,rfl,rfl,hj,hNj,Y0,M9,P2,O3,C1⟩:=hrel
    by_cases hjm:j<m
    ·have hjm':(j:Int)<(m:Int):=(by omega);have hj1:j+1<=out.length:=(by rw[(Xo0 HS).1];exact hjm);obtain ⟨p,hp⟩:∃p,out[j]?=some p:=⟨_,Ua (by rw[(Xo0 HS).1];exact hjm)⟩;obtain ⟨g,rfl,ZW,JW⟩:=(Xo0 HS).2.1.block (by omega);obtain ⟨n2,a2,l2,c2,e2,v2,ae2,le2,ce2,g0,g1,g2,g3,V2,E1,Zf,Vl⟩:=(Xo0 HS).2.2.1.get hp;have Xw:g<wl.heap.size:=UA (JW _ _ g0);have x0:=(C1.cell (p:=⟨g,j*4,none⟩) Xw).trans (JW _ _ g0);have x1:=(C1.cell (p:=⟨g,j*4+1,none⟩) Xw).trans (JW _ _ g1);have x2:=(C1.cell (p:=⟨g,j*4+2,none⟩) Xw).trans (JW _ _ g2);have x3:=(C1.cell (p:=⟨g,j*4+3,none⟩) Xw).trans (JW _ _ g3);have hE2':Q0g wr ae2 le2 ce2 p.2:=(Vl.step (Xo0 HS).2.2.2).step C1;have I5:Q0r wr a2 l2 c2 v2:=V2.step C1;have hle2:le2=k:=(by rw[<-Vl.len];exact (Xo2 HS) p (Uf hp));have i7:l2<=1000000:=by
      have hb:=Q8y (k:=31250) E1 (by rw[Zf];exact (Xo1 HS) p (Uf hp)) (by omega);have:=V2.len;omega
     have hE0:p.2≠[]:=fun e=>by
      have:=(Xo2 HS) p (Uf hp);rw[e] at this;simp at this;omega
     have HE0:=Xh2 hE0 (show le2<=1000 by omega);have D3:=Qm4 n2 a2 l2 c2 e2 v2 wr I5 E1
     by_cases hz:p.1=0
     ·have hS0:Qv9 n2 v2=0:=(Qiy E1).2 (Zf.trans hz);rw[hS0] at D3;have HX:=Xh5 Y0 (by rw[Qza hp hz];exact M9:ms.map Q01.term=(out.take (j+1)).filter (fun p=>decide (p.1≠0))) P2 (Qjo hp (by rw[hz];exact Qcq) O3) C1;clear Y0 M9 P2 O3 C1 hp JW g0 g1 g2 g3 V2 E1 Zf Vl hE2' I5 hle2 hE0 hz hS0 ZW i7
      go_wp2_with (go_at_call 102;refine D3.mono ?_;rintro r w3 ⟨rfl,G0⟩;have HB:=Ub G0;clear G0)
      exact ⟨⟨j+1,N,a1,c1,ms,zs,rfl,congrArg (Value.int .i64) (by omega),hj1,by omega,(Xo0 HX).step HB.out,(Xo1 HX),(Xo2 HX),(Xo3 HX),Below.next0 (Xe4 HX) HB.out⟩,by simp only[intOf];omega⟩
     ·have hS0:Qv9 n2 v2≠0:=fun e=>hz (Zf.symm.trans ((Qiy E1).1 e));obtain ⟨Sg,hSg⟩:∃Sg,Qv9 n2 v2=Sg:=⟨_,rfl⟩;rw[hSg] at hS0 D3;have hS1:(Sg==0)=false:=(by rw[Uk];exact hS0);have WX:∀W,Bw wr W->W.cell? ⟨g,j*4,none⟩=some (.bool n2)/\W.cell? ⟨g,j*4+1,none⟩=some (.slice a2 l2 c2)/\W.cell? ⟨g,j*4+2,none⟩=some (.int .i64 e2):=fun W hW=>⟨(hW.cell (p:=⟨g,j*4,none⟩) (UA x0)).trans x0,(hW.cell (p:=⟨g,j*4+1,none⟩) (UA x1)).trans x1,(hW.cell (p:=⟨g,j*4+2,none⟩) (UA x2)).trans x2⟩;have Z1:=fun W (hW:Bw wr W)=>Q80 n2 a2 l2 c2 v2 e2 W (I5.step hW) i7;have HX:=Xh13 Y0 M9 P2 O3 C1 hp E1 Zf hE2' x3 hz WX Z1;clear Y0 M9 P2 O3 C1 hp JW g0 g1 g2 g3 V2 E1 Zf Vl hE2' I5 hle2 hE0 hz hSg hS0 ZW i7 x3 WX Z1
      go_upto_region 20 with (first
       |(go_at_call 102
         refine D3.mono ?_;rintro r w3 ⟨rfl,G0⟩;obtain ⟨y0,y1,y2⟩:=(Xo11 HX) w3 G0;have Z1:=(Xe12 HX) w3 G0;have HB:=Ub G0;clear G0 D3)
       |(go_at_call 118
         refine Z1.mono ?_;rintro r w4 ⟨neg9,e9,a9,n9,c9,L9,er,rfl,WA,hwi,F2⟩;have HN:=Xh3 WA hwi F2;clear WA hwi F2))
      refine Q5k (Φ:=fun U=>Bw w4 U/\Q03 U w4.heap.size (.bool neg9) (.int .i64 e9) (.slice a9 n9 c9)) (P:=fun U=>Code.wp _ _ _ _ U) _ ⟨Ba,Q03.new _ _ _ _ _⟩ ?_;intro U hU;have XR:Bw wr U:=Below.next0 (Below.next0 HB.out (Xe2 HN)) hU.1;have hft:=Qf7 (Xo6 HX) (Xo0 HN);rw[(Xo7 HX)] at hft;have hwU:=(Xo1 HN).step hU.1;have Q8:Qob U w4.heap.size g (j*4+3) (.bool neg9) (.int .i64 e9) (.slice a9 n9 c9) ae2 le2 ce2 p.2:=⟨hU.2,(XR.cell (p:=⟨g,j*4+3,none⟩) (UA (Xo9 HX))).trans (Xo9 HX),(Xo8 HX).step XR⟩;have HC:=Ub (fun W (h:Bw U W)=>Q8.step h);have HT:=Xh4 ((Xo0 HX).step XR) (Un (Xo4 HX).size XR.size) hwU (show N<=1000 by omega);have HY:=Ub XR;clear hU XR hwU Q8;rcases hft with ⟨hf,rfl,o8,YT⟩|⟨hf,rfl,rfl,rfl,rfl⟩
      ·have HF:=Xh3 hf o8 YT;clear hf o8 YT
       go_upto_region 22 with fail
       refine Q8l (by kernel_rfl) 11 rfl (fun W=>Bw U W) (fun _ _ h h'=>Below.next0 h h') (Q56 [.slice a1 N c1,.agg #[.bool neg9,.int .i64 e9,.slice a9 n9 c9],undef,.slice (some ⟨g,0,none⟩) m co,.int .i64 (j:Int),.pointer (some ⟨g,j*4,none⟩),.pointer (some ⟨g,j*4+3,none⟩),.slice ae2 le2 ce2,undef,undef,undef] (Q2s [(2,Emp),(8,J0m U.heap.size le2 p.2),(9,J0n U.heap.size le2 p.2 (.bool neg9) (.int .i64 e9) (.slice a9 n9 c9)),(10,Qtz U.heap.size le2 p.2 (.bool neg9) (.int .i64 e9) (.slice a9 n9 c9))])) (Q0j (Q12 (Qyp Qqf (Qjm _ _ _) (Qjn _ _ _ _ _ _) (Qh6 _ _ _ _ _ _)))) (fun v W'=>∃a8 c8 zs8,v=.slice a8 (N+1) c8/\Q6p wl.heap.size W' a8 (N+1) c8 (ms++[⟨neg9,e9,L9,p.2⟩]) zs8/\Below wl.heap.size U W') (by kernel_rfl) (by kernel_rfl) (by kernel_rfl) (by kernel_rfl) (Q04 U) ?_ ?_ ?_
       ·skip
        repeat' (first|exact Qet|refine Qes ?_ ?_)
        all_goals first
         |(refine Q3i rfl fun A W hW F0 hd hd=>?_
           simp[Qbq,Region.binds,Q2s] at hd;have e8:=Q0d F0 8 (by kernel_rfl) rfl;have e10:=Q0d F0 10 (by kernel_rfl) rfl;have e4:=Q0d F0 4 (by kernel_rfl) rfl;have e9:=Q0d F0 9 (by kernel_rfl) rfl;obtain ⟨u0_0,u0_1,u0_2,_,_,_⟩:=(HC.out W hW).bx;refine Q1m rfl rfl ?_;simp[go_sem,hd,e8,e10,e4,e9,u0_0,u0_1,u0_2,hjm',(HC.out W hW).o3]
           done)
         |skip
        ·intro A W hW F0 A0;refine Q02 rfl ?_;refine Q33 (Q6o 96 0 #[] (by rfl) (by simp) (Qmi W)) (Ba) ((Q00 rfl).2 ⟨_,rfl⟩)
        ·intro A W hW F0 A0;have e119:=Q0s A0 7 (by decide) rfl rfl rfl;refine Q02 rfl ?_;obtain ⟨b0,X1⟩:=(Q00 rfl).1 (A0 2 (by decide));have h119:A.eval (.tmp 119)=.slice ae2 le2 ce2:=(Q0f rfl).1 (A0 7 (by decide));obtain ⟨d9,W9,F9,WE,V3,We⟩:=Qjl 96 W b0 ae2 le2 ce2 p.2 (HC.out W hW).ei (Xo0 HE0) (Xe1 HE0);exact Q33 (Q73 (.tmp 114) (.tmp 119) 96 96 (by rfl) X1 h119 F9) V3 ((Q00 rfl).2 ⟨_,d9,rfl,hW.size,We,WE⟩)
        ·intro A W hW F0 A0;have e113:=Q0s A0 1 (by decide) rfl rfl rfl;refine Q02 rfl ?_;obtain ⟨g9,d9,hv9,hg9,hl9,WE⟩:=(Q00 rfl).1 (A0 8 (by decide));have e120:=Q1w hv9;refine Q33 (w':=W) (u:=.agg #[.bool neg9,.int .i64 e9,.slice a9 n9 c9,.slice (some ⟨g9,0,none⟩) le2 d9]) (by simp[go_sem,e113,e120]) (Ug _ _) ((Q00 rfl).2 ⟨g9,d9,rfl,hg9,hl9,WE⟩)
        ·intro A W hW F0 A0;refine Q02 rfl ?_;obtain ⟨g9,d9,hv9,hg9,hl9,WE⟩:=(Q00 rfl).1 (A0 9 (by decide));have e121:A.eval (.tmp 121)=.agg #[.bool neg9,.int .i64 e9,.slice a9 n9 c9,.slice (some ⟨g9,0,none⟩) le2 d9]:=hv9;refine Q33 (Q6o 42 1 #[(0,.tmp 121)] (by rfl) (parts':= #[(0,.agg #[.bool neg9,.int .i64 e9,.slice a9 n9 c9,.slice (some ⟨g9,0,none⟩) le2 d9])]) (by simp[e121]) (Qmj W _ _ _ _)) (Ba) ((Q00 rfl).2 ⟨W.heap.size,g9,d9,rfl,Q0h _ _,Um _ _,hg9,Nat.lt_trans hl9 (Q0h _ _),WE.step (Ba)⟩)
       ·refine And.intro ?_ (And.intro (by decide) ?_)
        ·intro A W hW F0 A0;have h112:A.eval (.tmp 112)=.slice a1 N c1:=(Q0f rfl).1 (A0 0 (by decide));have hv:=(Q00 rfl).1 (A0 10 (by decide));obtain ⟨a8,c8,W8,zs8,R3,QN,A5⟩:=Qmk (Xo0 HT) (Xo1 HT) hW (m:=⟨neg9,e9,L9,p.2⟩) (Xo2 HT) hv (Xe3 HT) 42;rw[Q73 (.tmp 112) (.tmp 122) 42 42 (by rfl) h112 rfl R3];exact ⟨a8,c8,zs8,rfl,QN,A5⟩
        ·intro a w F0;rfl
       intro vs W1 S2 hv12;obtain ⟨a8,c8,zs8,Z9,QN,A5⟩:=S2;have Zr:=hv12.trans Z9;have HE:=Xh2 QN A5;clear QN A5 Z9;simp only[Q0y,Act.put,Uu,UI,UF,Zr];clear Zr hv12
       go_wp2_with fail
       refine ⟨⟨j+1,N+1,a8,c8,ms++[⟨neg9,e9,L9,p.2⟩],zs8,rfl,congrArg (Value.int .i64) (by omega),hj1,by omega,(Xo0 HE),?_,?_,Qjo (Xo5 HX) (Xo0 HF) (Xo3 HX),(Below.next0 (Xo4 HX) HY.out).trans (Xe1 HE)⟩,by simp only[intOf];omega⟩
       ·rw[UR,(Xo1 HX),Qwt (Xo5 HX) (Xo10 HX)]
        show _++[(Q1p neg9 e9 L9,p.2)]=_
        rw[(Xe2 HF)]
       ·intro m0 o9;rcases Tq.1 o9 with h0|h0
        ·exact (Xo2 HX) m0 h0
        ·rw[Ux] at h0;subst h0;exact ⟨(Xo1 HF),fun e=>(Xo10 HX) ((Xe2 HF).symm.trans ((Q45 (Xo1 HF) (Xo1 HN).low).2 e))⟩
      ·have HF:=Ub hf;clear hf
       go_wp2_with fail
       exact ⟨rfl,.tuple #[.slice none 0 0,.int .i64 2],by simp[results,go_sem],Q3d.err ((Xe3 H).symm.trans (Qqg (Xe3 HS) (Uf (Xo5 HX)) HF.out)) (Below.next0 (Below.next0 (Xo0 HS).2.2.2 (Xo4 HX)) HY.out)⟩
    ·have hjm':¬(j:Int)<(m:Int):=(by omega);have V5:out.take j=out:=Uw (by rw[(Xo0 HS).1];omega);rw[V5] at M9 O3;have Js:(out.filter fun p=>decide (p.1≠0)).length=N:=(by rw[<-M9,UK,Y0.st.len]);have C4:=Qqh (Xe3 HS) O3;rw[Js,(Xe3 H)] at C4;have t6:=Below.next0 (Xo0 HS).2.2.2 C1;have N6:=Y0.st.monos fun m hm=>(P2 m hm).1;have hnp:=Y0.newp.more (Xo0 HS).2.2.2.size
     by_cases Wz:24<N
     ·have h24':(24:Int)<(N:Int):=(by omega);rw[Us Wz] at C4;have HX:=Xh2 C4 t6;clear Y0 M9 P2 O3 C1 V5 Js C4 t6 N6 hnp
      go_wp2_with fail
      exact ⟨rfl,.tuple #[.slice none 0 0,.int .i64 6],by simp[results,go_sem],Q3d.err (Xo0 HX) (Xe1 HX)⟩
     ·have h24':¬(24:Int)<(N:Int):=(by omega);rw[Up Wz] at C4;have HX:=Xh6 C4 t6 N6 M9 P2 hnp;clear Y0 M9 P2 O3 C1 V5 Js C4 t6 N6 hnp
      go_wp2_with fail
      exact ⟨rfl,.tuple #[.slice a1 N c1,.int .i64 0],by simp[results,go_sem],Q3d.ok (Xo0 HX) (Xo1 HX) (Xo2 HX) (Xo3 HX) (Xo4 HX) (Xe5 HX)⟩
theorem Qjp:Tryz.prog.underlying 217=some (.slice 219):=by kernel_rfl
theorem Qml (W:World) (v0 v1 v2 v3:Value):(Instr.buildSlice 217 1 #[(0,.agg #[v0,v1,v2,v3])]).run Tryz.prog W=.ok (.slice (some ⟨W.heap.size,0,none⟩) 1 1) (W.alloc (.cells #[v0,v1,v2,v3] 219)):=by
 obtain ⟨i0,E2,P1,G1,K1⟩:=Q0p Qji;exact run_buildSlice W 217 219 1 _ #[v0,v1,v2,v3] i0 _ Qjp E2 P1 (by rw[G1];decide) (by rw[G1];decide) (by rw[G1];first|kernel_rfl|simp[Instr.fill,Value.cells])
def J0o (w:World) (p:Q0b) (v:Value) (W:World):Prop:=∃v0 v1 v2 v3,v=.agg #[v0,v1,v2,v3]/\Q65 w W [p] [v0,v1,v2,v3]
def Qu0 (w:World) (p:Q0b) (v:Value) (W:World):Prop:=∃bl lit,v=.slice (some ⟨bl,0,none⟩) 1 1/\bl<W.heap.size/\W.heap[bl]?=some (.cells lit.toArray 219 (0,0))/\Q65 w W [p] lit
theorem Qjq (w:World) (p:Q0b):Q24 (J0o w p):=fun _ _ _ ⟨v0,v1,v2,v3,h1,h2⟩ hb=>⟨v0,v1,v2,v3,h1,h2.keep fun h=>h.step hb⟩
theorem Qh7 (w:World) (p:Q0b):Q24 (Qu0 w p):=fun _ _ _ ⟨bl,lit,h1,h2,h3,h4⟩ hb=>⟨bl,lit,h1,Uc h2 hb.size,(hb.block bl h2).trans h3,h4.keep fun h=>h.step hb⟩
theorem Qu1 {w U W:World} {a:OA} {i c:Nat} {out:List Q0b} {xs:LV} (P0:Q4w w U a i c out xs) (hb:Bw U W) {p:Q0b} {v:Value} (hv:Qu0 w p v W) (hi:i<=1000) (ty:TypeId):
 ∃a' c' W' xs',(Builtin.append_ #[217,217] ty #[.slice a i c,v]).run Tryz.prog W=.ok (.slice a' (i+1) c') W'/\Q4w w W' a' (i+1) c' (out++[p]) xs':=by
 obtain ⟨bl,lit,rfl,U4,G8,Zi⟩:=hv;obtain ⟨h1,h2,h3,h4⟩:=P0.step hb;have XJ:lit.length=4:=by rw[Zi.len];rfl
 obtain ⟨a8,c8,w8,R3,XF,p6,hat8⟩:=Q5y ty W w.heap.size h4.size a i c xs h2 (some ⟨bl,0,none⟩) 1 1 lit (by rw[XJ]) (.inr ⟨_,rfl,fun j u hj=>by
  rw[Xbp,UH,Uv _ _ _ _ _ _ G8];simpa using hj⟩) (fun u hu=>Zi.one u hu) (by omega)
 refine ⟨a8,c8,w8,_,R3,by rw[Uh,h1];rfl,XF,Q65.app (Zi.keep (fun h=>h2.grownD p6 h)) (h3.keep (fun h=>h2.grownD p6 h)),?_⟩;exact h4.trans ⟨p6.os,p6.tape,p6.output,p6.size,fun z hz=>p6.block z (Uc hz h4.size) (fun e=>by
  cases a with
  |none=>simp at e
  |some q=>simp only[Uz,Uj] at e;have:=(Q1r.lt.row2_blk h2.1 rfl).1;omega)⟩
theorem Q4w.terms {w W:World} {a:OA} {n c:Nat} {ts:List Q0b} {xs:LV} (h:Q4w w W a n c ts xs):Qtw W a n c ts:=by
 obtain ⟨h1,h2,h3,h4⟩:=h;have S3:=h2.1.cap;refine ⟨h1,S3.1,by have:=S3.2;simpa[maxLen] using this,?_⟩;rcases h2.1.form with ⟨_,h0,_⟩|⟨g,cur,rfl,_,E0,_⟩
 ·exact .inl (TP (by rw[h1];exact h0))
 ·refine .inr ⟨g,0,rfl,E0,xs,h3.old fun h=>h.step h4,fun j u hj=>?_⟩;rw[UH];exact h2.1.cell0 hj
theorem Q3d.pair {w w':World} {X:Except Int (List Q0b)} {r:Ending} (h:Q3d w X r w'):∃x er,r=.returned (.tuple #[x,.int .i64 er]):=by
 obtain ⟨_,h⟩:=h;cases X with
 |error e=>exact ⟨_,_,h⟩
 |ok P=>obtain ⟨a,n,c,ms,h,_⟩:=h;exact ⟨_,_,h⟩
theorem Q3d.from_ {w0 w w':World} {X:Except Int (List Q0b)} {r:Ending} (h:Q3d w X r w') (hb:Bw w0 w):Q3d w0 X r w':=by
 obtain ⟨h1,h2⟩:=h;refine ⟨Below.next0 hb h1,?_⟩;cases X with
 |error e=>exact h2
 |ok P=>
  obtain ⟨a,n,c,ms,h3,h4,h5,h6,h7⟩:=h2;exact ⟨a,n,c,ms,h3,h4,h5,h6,h7.more hb.size⟩
structure Qjr (W:World) (b oi:Nat) (x:Q01) (aw:OA) (lw cw:Nat) (ae:OA) (le ce:Nat):Prop where
 c0:W.cell? ⟨b,oi,none⟩=some (.bool x.neg)
 c1:W.cell? ⟨b,oi+1,none⟩=some (.int .i64 x.exp)
 c2:W.cell? ⟨b,oi+2,none⟩=some (.slice aw lw cw)
 c3:W.cell? ⟨b,oi+3,none⟩=some (.slice ae le ce)
 wi:WordsIn W aw lw cw x.ws
theorem Qjr.cc {W:World} {b oi:Nat} {x:Q01} {aw:OA} {lw cw:Nat} {ae:OA} {le ce:Nat} (h:Qjr W b oi x aw lw cw ae le ce):W.cell? ⟨b,oi,none⟩=some (.bool x.neg)/\W.cell? ⟨b,oi+1,none⟩=some (.int .i64 x.exp)/\W.cell? ⟨b,oi+2,none⟩=some (.slice aw lw cw):=⟨h.c0,h.c1,h.c2⟩
theorem Qjr.step {W W':World} {b oi:Nat} {x:Q01} {aw:OA} {lw cw:Nat} {ae:OA} {le ce:Nat} (h:Qjr W b oi x aw lw cw ae le ce) (hb:Bw W W'):Qjr W' b oi x aw lw cw ae le ce:=by
 have E0:b<W.heap.size:=UA h.c0;exact ⟨(hb.cell (p:=⟨b,oi,none⟩) E0).trans h.c0,(hb.cell (p:=⟨b,oi+1,none⟩) E0).trans h.c1,(hb.cell (p:=⟨b,oi+2,none⟩) E0).trans h.c2,(hb.cell (p:=⟨b,oi+3,none⟩) E0).trans h.c3,h.wi.step hb⟩
def J1q (w:World) (ts:List Q0b) (s6 s7:Value) (wr:World):Prop:=∃(i:Nat) (a:OA) (c:Nat) (xs:LV),s6=.slice a i c/\s7=.int .i64 (i:Int)/\i<=ts.length/\Q4w w wr a i c (ts.take i) xs
theorem Qjs (a:OA) (n c:Nat) (ms:List Q01) (k:Nat) (w:World) (h:Q08 w a n c ms) (hr:∀m∈ms,Q0x k m.es/\Q0a m.neg m.exp m.ws) (X2:1<=k) (Y5:k<=4) (hn:n<=1000):
 Calls Tryz.prog 121 #[.slice a n c,.int .i64 (k:Int)] w (Q3d w (Q25 (ms.map Q01.term))):=by
 have G3:=h.1;have J3:=Un h.2.1 h.2.2.1;have hk1':¬(k:Int)<1:=by omega
 have hk4':¬4<(k:Int):=by omega
 obtain ⟨X,hX⟩:∃X,Q25 (ms.map Q01.term)=X:=⟨_,rfl⟩;rw[hX];have H:=Xh3 h hr hX;clear h hr hX
 go_enter Tryz.func121,Tryz.ntmps121
 go_wp2_with fail
 go_loopw [6,7] (fun s6 s7 wr=>J1q w (ms.map Q01.term) s6 s7 wr) (fun _ iv _=>n-(intOf iv).toNat)
 case atStart=>exact ⟨0,none,0,[],rfl,rfl,Ut _,rfl,Q40.nil_ _ _ _ _ _,rfl,Ug _ _⟩
 case round=>
  obtain ⟨i,a1,c1,xs,rfl,rfl,hi,P0⟩:=hrel;rw[UK,G3] at hi
  by_cases E0:i<n
  ·have J0:(i:Int)<(n:Int):=(by omega);obtain ⟨x,hx⟩:∃x,ms[i]?=some x:=⟨_,Ua (by omega)⟩;obtain ⟨b,o,rfl,X1,Y1⟩:∃b o,a=some ⟨b,o,none⟩/\b<w.heap.size/\∀j m,ms[j]?=some m->Q4n w b (o+j*4) m:=by
    rcases (Xo0 H).2.2.2 with h0|h0
    ·rw[h0] at hx;simp at hx
    ·exact h0
   obtain ⟨aw,lw,cw,ae,le,ce,k0,k1,k2,k3,hw,he,R4,Z3⟩:=Y1 i x hx;have Ki:=(Xo1 H) x (Uf hx);have C1:=P0.2.2.2;have Q8:Qjr wr b (o+i*4) x aw lw cw ae le ce:=(⟨k0,k1,k2,k3,hw⟩:Qjr w b (o+i*4) x aw lw cw ae le ce).step C1;have Kh:=Qm8 x.neg x.exp aw lw cw x.ws ae le ce x.es k wr Q8.wi (he.step C1) Y5 R4 Z3;rw[UQ Ki] at Kh;obtain ⟨k0,k1,k2⟩:=Q8.cc;have k3:=Q8.c3;have V5:(ms.map Q01.term).take (i+1)=(ms.map Q01.term).take i++[x.term]:=Qa2 (by rw[UP,hx];rfl);have HS:=Xh5 P0 Q8 Ki he V5;clear P0 Q8 Ki he V5 C1 Y1 hw hx R4 Z3
   go_upto_region 9 with (go_at_call 99;refine Kh.mono ?_;rintro r w3 ⟨rfl,G0⟩;have HB:=Ub G0;clear G0 Kh)
   refine Q5k (Φ:=fun U=>Bw wr U) (P:=fun U=>Code.wp _ _ _ _ U) _ HB.out ?_;intro U hU;have HC:=Ub (fun W (h:Bw U W)=>((Xo1 HS).step hU).step h);have HT:=Xh4 ((Xo0 HS).step hU) (show i<=1000 by omega) (Xo2 HS).2 (Xo3 HS);clear hU;refine Q8l (by kernel_rfl) 14 rfl (fun W=>Bw U W) (fun _ _ h h'=>Below.next0 h h') (Q56 [.slice a1 i c1,.slice (some ⟨b,o,none⟩) n c,.int .i64 (i:Int),.pointer (some ⟨b,o+i*4,none⟩),.pointer (some ⟨b,o+i*4,none⟩),.agg #[.bool x.neg,.int .i64 x.exp,.slice aw lw cw],undef,.slice (some ⟨b,o,none⟩) n c,.int .i64 (i:Int),.pointer (some ⟨b,o+i*4,none⟩),.pointer (some ⟨b,o+i*4+3,none⟩),.slice ae le ce,undef,undef] (Q2s [(6,fun u w=>Q7b w u (Q1p x.neg x.exp x.ws)),(12,J0o w x.term),(13,Qu0 w x.term)])) (Q0j (Q12 (Qvz (Q2c _) (Qjq _ _) (Qh7 _ _)))) (fun v W'=>∃a8 c8 xs8,v=.slice a8 (i+1) c8/\Q4w w W' a8 (i+1) c8 ((ms.map Q01.term).take i++[x.term]) xs8) (by kernel_rfl) (by kernel_rfl) (by kernel_rfl) (by kernel_rfl) (Q04 U) ?_ ?_ ?_
   ·skip
    repeat' (first|exact Qet|refine Qes ?_ ?_)
    all_goals first
     |(refine Q3i rfl fun A W hW F0 hd hd=>?_
       simp[Qbq,Region.binds,Q2s] at hd;have e6:=Q0d F0 6 (by kernel_rfl) rfl;have e0:=Q0d F0 0 (by kernel_rfl) rfl;have e7:=Q0d F0 7 (by kernel_rfl) rfl;refine Q1m rfl rfl ?_;simp[go_sem,hd,e6,e0,e7,J0,(HC.out W hW).c0,(HC.out W hW).c1,(HC.out W hW).c2,(HC.out W hW).c3]
       done)
     |skip
    ·intro A W hW F0 A0;have e32:=Q0s A0 5 (by decide) rfl rfl rfl;refine Q02 rfl ?_;refine Q0u (f:=59) (args:= #[.agg #[.bool x.neg,.int .i64 x.exp,.slice aw lw cw]]) (by simp[go_sem,e32]) ((Qdk x.neg x.exp aw lw cw x.ws W (HC.out W hW).wi (Xo2 HT)).mono ?_);rintro e w2' ⟨u',rfl,Jl,B4⟩;exact ⟨_,rfl,B4,(Q00 rfl).2 Jl⟩
    ·intro A W hW F0 A0;have e38:=Q0s A0 11 (by decide) rfl rfl rfl;refine Q02 rfl ?_;obtain ⟨n8,a8,l8,c8,q8,v8,Z9,ZS,T7,JA⟩:=(Q00 rfl).1 (A0 6 (by decide));have e33:=Q1w Z9;refine Q33 (w':=W) (u:=.agg #[.bool n8,.slice a8 l8 c8,.int .i64 q8,.slice ae le ce]) (by simp[go_sem,e33,e38]) (Ug _ _) ((Q00 rfl).2 ⟨_,_,_,_,rfl,n8,a8,l8,c8,q8,v8,ae,le,ce,[],rfl,⟨ZS,T7,JA,(Xe3 HT)⟩,rfl⟩)
    ·intro A W hW F0 A0;refine Q02 rfl ?_;obtain ⟨v0,v1,v2,v3,hv9,u9⟩:=(Q00 rfl).1 (A0 12 (by decide));have e39:A.eval (.tmp 39)=.agg #[v0,v1,v2,v3]:=hv9;refine Q33 (Q6o 217 1 #[(0,.tmp 39)] (by rfl) (parts':= #[(0,.agg #[v0,v1,v2,v3])]) (by simp[e39]) (Qml W _ _ _ _)) (Ba) ((Q00 rfl).2 ⟨W.heap.size,[v0,v1,v2,v3],rfl,Q0h _ _,Um _ _,u9.keep (fun h=>h.step (Ba))⟩)
   ·refine And.intro ?_ (And.intro (by decide) ?_)
    ·intro A W hW F0 A0;have h27:A.eval (.tmp 27)=.slice a1 i c1:=(Q0f rfl).1 (A0 0 (by decide));have hv:=(Q00 rfl).1 (A0 13 (by decide));obtain ⟨a8,c8,W8,xs8,R3,Kb⟩:=Qu1 (Xo0 HT) hW hv (Xo1 HT) 217;rw[Q73 (.tmp 27) (.tmp 40) 217 217 (by rfl) h27 rfl R3];exact ⟨a8,c8,xs8,rfl,Kb⟩
    ·intro a w F0;rfl
   intro vs W1 S2 hv15;obtain ⟨a8,c8,xs8,Z9,Kb⟩:=S2;have h15:=hv15.trans Z9;rw[<-(Xe4 HS)] at Kb;have HF:=Ub Kb;clear Kb Z9;simp only[Q0y,Act.put,Uu,UI,UF,h15];clear h15 hv15
   go_wp2_with fail
   exact ⟨⟨i+1,a8,c8,xs8,rfl,congrArg (Value.int .i64) (by omega),by rw[UK,G3];omega,HF.out⟩,by simp only[intOf];omega⟩
  ·have J0:¬(i:Int)<(n:Int):=(by omega);have V5:(ms.map Q01.term).take i=ms.map Q01.term:=Uw (by rw[UK];omega);rw[V5] at P0;have hg:=Qqi a1 i c1 (ms.map Q01.term) k 69632 wr P0.terms (fun p hp=>by
    obtain ⟨m,hm,rfl⟩:=To.1 hp;exact ((Xo1 H) m hm).1.1) (fun p hp=>by
    obtain ⟨m,hm,rfl⟩:=To.1 hp;obtain ⟨j,hj,rfl⟩:=Xa2 hm;rcases (Xo0 H).2.2.2 with h0|⟨b,o,_,_,Y1⟩
    ·rw[h0] at hj;simp at hj
    ·obtain ⟨_,_,_,_,_,_,_,_,_,_,hw,_⟩:=Y1 j _ (Ua hj);exact Q9x (Q35 ((Xo1 H) _ hm).2 hw.low) (by omega)) (by omega) (by omega) X2 (by omega)
   rw[(Xe2 H)] at hg;have HS:=Ub P0.2.2.2;clear P0 V5
   go_wp2_with (go_at_call 169;refine hg.mono ?_;rintro r w3 WU;obtain ⟨x9,er9,rfl⟩:=WU.pair;have H3:=Ub WU;clear WU)
   exact ⟨rfl,.tuple #[x9,.int .i64 er9],by simp[results,go_sem],H3.out.from_ HS.out⟩
end Go.Proofs.YtidojbkhlenahaaGreatDoor
