/- Part 22 of the proof of LawParseBuilt: Mul, RdrG. Condition: as each theorem says; none at the end. -/
import Derived.Test.YtdilmfakkppgpaaGreatDoorPkParseBuilt21
set_option maxRecDepth 100000
set_option maxHeartbeats 16000000
namespace Go.Proofs.YtdilmfakkppgpaaGreatDoor
open Go.RowKit WordsM
theorem Q0z.plain {w:World} {a:OA} {n c k:Nat} {ms:List Q01} (h:Q0z k ms) (hm:Q08 w a n c ms):Q2z k (ms.map Q01.term):=by
 obtain ⟨_,_,h3,h4,h5⟩:=h;refine ⟨?_,by rw[UQ];exact h3,fun p hp=>?_⟩
 ·unfold Qbh;rw[Xa8];exact h5
 ·obtain ⟨m,Zr,rfl⟩:=Tm.1 hp;obtain ⟨j,hj,rfl⟩:=Xay Zr;rcases hm.2.2.2 with h0|⟨b,o,_,_,R1⟩
  ·rw[h0] at hj;simp at hj
  ·obtain ⟨_,_,_,_,_,_,_,_,_,_,hw,_⟩:=R1 j _ (Ub hj);obtain ⟨⟨q1,q2⟩,q3⟩:=h4 _ Zr;exact ⟨fun e=>q3 ((Q66 q2 hw.low).1 e),Q7s q2 hw.low,q1⟩
theorem Q19.monos {B n c:Nat} {w:World} {a:OA} {all:List Q01} (h:Q19 B w a n c all) (D3:∀m∈all,Q0i m.neg m.exp m.ws):Q08 w a n c all:=by
 obtain ⟨xs,hr⟩:=h.row;have V3:=hr.1.cap;refine ⟨h.len,V3.1,by have:=V3.2;simpa[maxLen] using this,?_⟩;rcases hr.1.form with ⟨_,h0,_⟩|⟨g,cur,rfl,_,B0,_⟩
 ·exact .inl (Tg (by rw[h.len];exact h0))
 ·refine .inr ⟨g,0,rfl,B0,fun j m hm=>?_⟩;obtain ⟨g',e,aw,lw,cw,be,oe,le,ce,q0,q1,q2,q3,hw,hi,_,_⟩:=h.ent j m hm;injection e with e;injection e with e;subst e;have hb:=Q67 (D3 m (Ud hm)) hw.low;rw[UB];exact ⟨aw,lw,cw,_,le,ce,q0,q1,q2,q3,hw,hi,by omega,by omega⟩
theorem Qwo (P:List Q0a) (h:∀p∈P,p.2.sum<=8):∀d:Int,d<=8->P.foldl (fun d p=>max d p.2.sum) d<=8:=by
 induction P with
 |nil=>exact fun d hd=>hd
 |cons q r ih=>
  intro d hd;rw[List.foldl_cons];have:=h q (by simp);exact ih (fun p hp=>h p (by simp[hp])) _ (by omega)
theorem Q7y {k:Nat} {ms:List Q01} (h:Q0z k ms):0<=Qdd ms/\Qdd ms<=8:=⟨Qw5 _,Qwo _ (fun p hp=>by
 obtain ⟨m,hm,rfl⟩:=Tm.1 hp;exact (h.2.2.2.1 m hm).1.1.2.2) 0 (by decide)⟩
def Qxp (w:World) (ms ms2:List Q01) (s8 s45:Value) (wx:World):Prop:=∃(i:Nat) (a:OA) (N c:Nat) (all:List Q01),s8=.slice a N c/\s45=.int .i64 (i:Int)/\i<=ms.length/\N<=24*i/\Q19 w.heap.size wx a N c all/\
 all.map Q01.term=Q83 ((ms.take i).map Q01.term) (ms2.map Q01.term)/\(∀m∈all,Q0i m.neg m.exp m.ws/\Q75 m.term.1)/\Bw w wx
def Qyu (w:World) (ms2:List Q01) (i:Nat) (T:List Q0a) (x:Q01) (P:Nat) (v2 v3 s8 s51:Value) (wx:World):Prop:=∃(j:Nat) (a:OA) (N c:Nat) (all:List Q01),s8=.slice a N c/\s51=.int .i64 (j:Int)/\j<=ms2.length/\N<=24*i+j/\Q19 w.heap.size wx a N c all/\
 all.map Q01.term=T++((ms2.take j).map Q01.term).map (Qjb x.term)/\(∀m∈all,Q0i m.neg m.exp m.ws/\Q75 m.term.1)/\Q38 wx P (.bool x.neg) (.int .i64 x.exp) v2 v3/\P<wx.heap.size/\(∀y,a=some y->y.block≠P)/\Bw w wx
theorem Qhy {ms:List Q01} {i:Nat} {x:Q01} (hx:ms[i]?=some x) (b:List Q0a):Q83 ((ms.take (i+1)).map Q01.term) b=Q83 ((ms.take i).map Q01.term) b++b.map (Qjb x.term):=by
 rw[Tc,hx,UP];simp[Q83,List.flatMap_append]
theorem Qcj (a:OA) (n c:Nat) (ms:List Q01) (b:OA) (m d:Nat) (ms2:List Q01) (k:Nat) (w:World) (h1:Q08 w a n c ms) (h2:Q08 w b m d ms2) (r1:Q0z k ms) (r2:Q0z k ms2) (hT:Q2n w):
 Calls Tryz.prog 141 #[.slice a n c,.slice b m d,.int .i64 (k:Int)] w (Q0u w k (Q8d (ms.map Q01.term) (ms2.map Q01.term))):=by
 have Z3:=r1.1;have Y4:=r1.2.1;have Z2:=h1.1;have hlm:=h2.1;have hn:n<=24:=by have:=r1.2.2.1;rw[h1.1] at this;exact this
 have hm:m<=24:=by have:=r2.2.2.1;rw[h2.1] at this;exact this
 have p1:=fun W (hb:Bw w W)=>Q34 a n c ms k W (h1.step hb) (by omega);have p2:=fun W (hb:Bw w W)=>Q34 b m d ms2 k W (h2.step hb) (by omega);have d1:=fun W (hb:Bw w W)=>Qe2 a n c ms k W (h1.step hb) r1;have d2:=fun W (hb:Bw w W)=>Qe2 b m d ms2 k W (h2.step hb) r2;obtain ⟨i0,O1,P1,K1,J1⟩:=Q0l Q4g;have HI:=Xh4 O1 P1 K1 J1;clear O1 P1 K1 J1;obtain ⟨X,hX⟩:∃X,Q8d (ms.map Q01.term) (ms2.map Q01.term)=X:=⟨_,rfl⟩;rw[hX];have H:=Xh8 h1 h2 r1 r2 p1 p2 hX hT;have HD:=Xh2 d1 d2;have HDB:=Xh2 (Q7y r1) (Q7y r2);clear h1 h2 r1 r2 p1 p2 hX hT d1 d2
 go_enter Tryz.func141,Tryz.ntmps141
 go_upto_block 0 with fail
 go_cut [] (fun wx=>¬(ms≠[]/\ms2≠[]/\8<Qdd ms+Qdd ms2)/\Bw w wx)
 case first=>
  go_upto_region 3 with (first|(go_at_call_of 45 (Value.slice a n c);refine ((Xo4 H) _ (Uf _ _)).mono ?_;rintro r w1 ⟨⟨x,rfl,hx⟩,C0⟩;(have ZC:x=true:=hx.2 (Xo2 H));clear hx;subst ZC;have H1:=Ua C0;clear C0)|(go_at_call_of 45 (Value.slice b m d);refine ((Xo5 H) _ H1.out).mono ?_;rintro r w2 ⟨⟨x,rfl,hx⟩,D0⟩;(have ZC:x=true:=hx.2 (Xo3 H));clear hx;subst ZC;have H2:=Ua (Below.next0 H1.out D0);clear D0))
  by_cases O7:ms=[]
  ·have p6:¬((0:Int)<(n:Int)):=(by rw[<-Z2,O7];decide);have HM0:=Ua O7;clear O7
   go_wp2_with fail
   go_meet;exact ⟨fun h=>h.1 HM0.out,H2.out⟩
  ·have p6:(0:Int)<(n:Int):=(by have:=Xai.2 O7;omega);have HM0:=Ua O7;clear O7
   by_cases F9:ms2=[]
   ·have R5:¬((0:Int)<(m:Int)):=(by rw[<-hlm,F9];decide);have HM2:=Ua F9;clear F9
    go_wp2_with fail
    go_meet;exact ⟨fun h=>h.2.1 HM2.out,H2.out⟩
   ·have R5:(0:Int)<(m:Int):=(by have:=Xai.2 F9;omega);have HM2:=Ua F9;clear F9;have e1:=(Xo0 HDB);have e2:=(Xe1 HDB)
    by_cases h8:8<Qdd ms+Qdd ms2
    ·have Jz:X=.error 6:=by
      rw[<-(Xo6 H)];unfold Q8d;rw[Us ⟨by simpa using HM0.out,by simpa using HM2.out,h8⟩]
     have HX:=Ua Jz;clear Jz
     go_wp2_with (first|(go_at_call_of 18 (Value.slice a n c);refine ((Xo0 HD) _ H2.out).mono ?_;rintro r w3 ⟨rfl,G0⟩;have H3:=Ua (Below.next0 H2.out G0);clear G0)|(go_at_call_of 18 (Value.slice b m d);refine ((Xe1 HD) _ H3.out).mono ?_;rintro r w4 ⟨rfl,F1⟩;have H4:=Ua (Below.next0 H3.out F1);clear F1))
     exact ⟨rfl,.tuple #[.slice none 0 0,.int .i64 6],by simp[results,go_sem],Q0u.err HX.out H4.out⟩
    ·have H8:=Ua h8
     go_wp2_with (first|(go_at_call_of 18 (Value.slice a n c);refine ((Xo0 HD) _ H2.out).mono ?_;rintro r w3 ⟨rfl,G0⟩;have H3:=Ua (Below.next0 H2.out G0);clear G0)|(go_at_call_of 18 (Value.slice b m d);refine ((Xe1 HD) _ H3.out).mono ?_;rintro r w4 ⟨rfl,F1⟩;have H4:=Ua (Below.next0 H3.out F1);clear F1))
     go_meet;exact ⟨fun h=>by have h1:=H8.out;have h2:=h.2.2;omega,H4.out⟩
 case rest=>
  obtain ⟨XR,QO⟩:=hcut;have HC:=Xh2 XR QO;clear XR QO
  go_wp2_with fail
  go_loopw [8,45] (fun s8 s45 wr=>Qxp w ms ms2 s8 s45 wr) (fun _ iv _=>n-(intOf iv).toNat)
  case atStart=>exact ⟨0,none,0,0,[],rfl,rfl,Uu _,Uu _,Q19.nil_ _ _,rfl,(fun m hm=>by cases hm),(Xe1 HC)⟩
  case round=>
   obtain ⟨i,a1,N,c1,all,rfl,rfl,hi,hN,P0,Q1,D3,Q0⟩:=hrel
   by_cases B0:i<ms.length
   ·have E0:(i:Int)<(n:Int):=(by omega);obtain ⟨x,hx⟩:∃x,ms[i]?=some x:=⟨_,Ub B0⟩;obtain ⟨b0,o0,rfl,C4,R1⟩:∃b o,a=some ⟨b,o,none⟩/\b<w.heap.size/\∀j m,ms[j]?=some m->Q31 w b (o+j*4) m:=by
     rcases (Xo0 H).2.2.2 with h0|h0
     ·rw[h0] at B0;simp at B0
     ·exact h0
    obtain ⟨aw,lw,cw,ae,le,ce,k0,k1,k2,k3,hw,he,U4,J4⟩:=R1 i x hx;have k9:OkM k x:=(Xo2 H).2.2.2.1 x (Ud hx);have k0:=(Q0.cell (p:=⟨b0,o0+i*4,none⟩) C4).trans k0;have k1:=(Q0.cell (p:=⟨b0,o0+i*4+1,none⟩) C4).trans k1;have k2:=(Q0.cell (p:=⟨b0,o0+i*4+2,none⟩) C4).trans k2;have k3:=(Q0.cell (p:=⟨b0,o0+i*4+3,none⟩) C4).trans k3;have hX:=Q38.new wr (.bool x.neg) (.int .i64 x.exp) (.slice aw lw cw) (.slice ae le ce) 44;have C2:Bw wr (wr.alloc (.cells #[.bool x.neg,.int .i64 x.exp,.slice aw lw cw,.slice ae le ce] 44)):=Ba;have Z9:=Q0r wr (.cells #[.bool x.neg,.int .i64 x.exp,.slice aw lw cw,.slice ae le ce] 44);have C1:∀y,a1=some y->y.block≠wr.heap.size:=fun y hy=>by have:=(P0.lt hy).2;omega
    have HR:=Xh12 P0 Q1 D3 Q0 hx hw he k9 hX C2 Z9 C1;clear P0 Q1 D3 Q0 hx hw he k9 hX C2 Z9 C1 R1 U4 J4
    go_wp2_with fail
    rename World=>wl
    go_loopw [8,51] (fun s8 s51 wx=>Qyu w ms2 i (Q83 ((ms.take i).map Q01.term) (ms2.map Q01.term)) x wl.heap.size (.slice aw lw cw) (.slice ae le ce) s8 s51 wx) (fun _ iv _=>m-(intOf iv).toNat)
    case atStart=>exact ⟨0,a1,N,c1,all,rfl,rfl,Uu _,by omega,(Xo0 HR).step (Xo9 HR),by rw[List.take_zero,Xbd,Xbd,TV];exact (Xo1 HR),(Xo2 HR),(Xo8 HR),(Xo10 HR),(Xe11 HR),Below.next0 (Xo3 HR) (Xo9 HR)⟩
    case round=>
     obtain ⟨j,a2,N2,c2,all2,rfl,rfl,hj,hN2,P0,Q1,D3,hX,hlX,C1,Q0⟩:=hrel
     by_cases hjt:j<ms2.length
     ·have hjt':(j:Int)<(m:Int):=(by omega);obtain ⟨y,hy⟩:∃y,ms2[j]?=some y:=⟨_,Ub hjt⟩;obtain ⟨b1,o1,rfl,C0,R1⟩:∃b' o,b=some ⟨b',o,none⟩/\b'<w.heap.size/\∀j m,ms2[j]?=some m->Q31 w b' (o+j*4) m:=by
       rcases (Xo1 H).2.2.2 with h0|h0
       ·rw[h0] at hjt;simp at hjt
       ·exact h0
      obtain ⟨ay,ly,cy,ax,lx,cx,j0,j1,j2,j3,hwy,hey,R8,O9⟩:=R1 j y hy;have Yp:OkM k y:=(Xo3 H).2.2.2.1 y (Ud hy);have j0:=(Q0.cell (p:=⟨b1,o1+j*4,none⟩) C0).trans j0;have j1:=(Q0.cell (p:=⟨b1,o1+j*4+1,none⟩) C0).trans j1;have j2:=(Q0.cell (p:=⟨b1,o1+j*4+2,none⟩) C0).trans j2;have j3:=(Q0.cell (p:=⟨b1,o1+j*4+3,none⟩) C0).trans j3;have hY:=Q38.new wr (.bool y.neg) (.int .i64 y.exp) (.slice ay ly cy) (.slice ax lx cx) 44;have XY:Bw wr (wr.alloc (.cells #[.bool y.neg,.int .i64 y.exp,.slice ay ly cy,.slice ax lx cx] 44)):=Ba;have N0:=Below.next0 Q0 XY;have S2:=hX.step XY hlX;have hp:=Qkb x.neg x.exp aw lw cw x.ws ae le ce x.es y.neg y.exp ay ly cy y.ws ax lx cx y.es k _ ((Xo5 HR).step N0) ((Xo6 HR).step N0) (hwy.step N0) (hey.step N0) (Xo7 HR).1.2 Yp.1.2 (Xo7 HR).1.1 Yp.1.1 Z3 Y4 ((Xe7 H).step N0);have e0:=S2.c0;have e1:=S2.c1;have e2:=S2.c2;have e3:=S2.c3;have f0:=hY.c0;have f1:=hY.c1;have f2:=hY.c2;have f3:=hY.c3;have HS:=Xh11 P0 Q1 D3 hX hlX C1 Q0 hy XY N0 hp;clear P0 Q1 D3 hX hlX C1 Q0 hy XY N0 hp hwy hey Yp hY S2 R1 R8 O9
      go_upto_region 13 with (go_at_call_of 170 (Value.agg #[.bool x.neg,.int .i64 x.exp,.slice aw lw cw,.slice ae le ce]);refine (Xe10 HS).mono ?_;rintro r w8 ⟨n',e',a',l',c',L,er,be,le',ce',rfl,d6,J8,A6,⟨g8,rfl,hg8⟩,B4⟩;have H8:=Xh5 d6 J8 A6 hg8 B4;clear d6 J8 A6 hg8 B4)
      rcases (Xo0 H8) with ⟨f9,rfl,X1,J0⟩|⟨Yh,rfl,_⟩
      ·have hV:=Q38.new w8 (.bool n') (.int .i64 e') (.slice a' l' c') (.slice (some ⟨g8,0,none⟩) le' ce') 44;have Z4:Bw w8 (w8.alloc (.cells #[.bool n',.int .i64 e',.slice a' l' c',.slice (some ⟨g8,0,none⟩) le' ce'] 44)):=Ba;have Vk:=Below.next0 (Xo8 HS) (Xe4 H8);have hb8a:=Below.next0 (Xo9 HS) (Xe4 H8);have WQ:=Below.next0 Vk Z4;have KV:=Below.next0 hb8a Z4;have E5:=(Xo0 HS).step WQ;obtain ⟨xs,hr⟩:=E5.row;obtain ⟨O1,P1,K1,J1⟩:=HI.out;have hB6:w.heap.size<=((w8.alloc (.cells #[.bool n',.int .i64 e',.slice a' l' c',.slice (some ⟨g8,0,none⟩) le' ce'] 44)).alloc (.cells #[.bool n',.int .i64 e',.slice a' l' c',.slice (some ⟨g8,0,none⟩) le' ce'] 44)).heap.size:=by
        have:=KV.size;rw[Uo];omega
       obtain ⟨g6,c6,w6,R3,M1,D1,F5⟩:=Q12 (P:=Tryz.prog) NoU ((w8.alloc (.cells #[.bool n',.int .i64 e',.slice a' l' c',.slice (some ⟨g8,0,none⟩) le' ce'] 44)).alloc (.cells #[.bool n',.int .i64 e',.slice a' l' c',.slice (some ⟨g8,0,none⟩) le' ce'] 44)) 25 25 44 i0 _ 4 64 Tryz.underlying25 O1 P1 K1 J1 rfl Q9g w.heap.size hB6 a2 N2 c2 xs (hr.step (Ba)) (w8.alloc (.cells #[.bool n',.int .i64 e',.slice a' l' c',.slice (some ⟨g8,0,none⟩) le' ce'] 44)).heap.size 1 1 [.bool n',.int .i64 e',.slice a' l' c',.slice (some ⟨g8,0,none⟩) le' ce'] rfl (TA (cs:= #[.bool n',.int .i64 e',.slice a' l' c',.slice (some ⟨g8,0,none⟩) le' ce']) (Ul _ _)) (by simp[Value.oneCell']) (by intro u hu;simp at hu;rcases hu with rfl|rfl|rfl|rfl <;> exact fun _=>by simp[nv]) (by decide) (by omega) (by decide) (by decide);rw[Uo w8] at R3;have t0:=hV.c0;have t1:=hV.c1;have t2:=hV.c2;have t3:=hV.c3;have HV:=Xh12 f9 X1 J0 WQ KV E5 hr M1 D1 F5 Z4 Vk;clear f9 X1 J0 WQ KV E5 hr M1 D1 F5 Z4 hb8a Vk hB6 hV O1 P1 K1 J1 e0 e1 e2 e3 f0 f1 f2 f3
       go_wp2_with (at_builtin;refine Q07 rfl (.tmp 64) (.tmp 66) 25 25 rfl _ _ rfl rfl _ _ R3 ?_)
       obtain ⟨f9,X1,J0,WQ,KV,E5,hr,M1,D1,F5,Z4,Vk⟩:=HV.out;have hE:List.zipWith (·+·) x.es y.es≠[]:=fun e=>by
        have h1:=congrArg List.length e;have h2:=((Xo7 HR).1.1).1;have h3:=((Xo3 H).2.2.2.1 y (Ud (Xo7 HS))).1.1.1;rw[Xbs,h2,h3] at h1;simp at h1;omega
       have hg8l:g8<w8.heap.size:=by
        rcases (Xo2 H8).rd with h0|⟨bb,oo,e,E3,_⟩
        ·exact absurd h0 hE
        ·injection e with e;injection e with e;subst e;exact E3
       have hP:wl.heap.size<w8.heap.size:=Ue (Xo4 HS) Vk.size;have Zg:=E5.push hr (o:=(.cells #[.bool n',.int .i64 e',.slice a' l' c',.slice (some ⟨g8,0,none⟩) le' ce'] 44)) D1 F5 (m:=⟨n',e',L,List.zipWith (·+·) x.es y.es⟩) M1 rfl ((Xo1 H8).toWordsIn.step Z4) ((Xo2 H8).step Z4) (by rw[Uo];omega) (fun z hz e=>by
        have h1:=((Xo0 HS).lt hz).2;have h2:=(Xo3 H8);rw[Uo] at h2;omega)
       have hb10:=KV.alloc KV.size (.cells #[.bool n',.int .i64 e',.slice a' l' c',.slice (some ⟨g8,0,none⟩) le' ce'] 44);have hbw6:Bw w w6:=hb10.trans ⟨D1.os,D1.tape,D1.output,D1.size,fun z hz=>D1.block z (Ue hz hb10.size) (fun e=>by
        cases a2 with
        |none=>simp at e
        |some q=>simp only[UM,Un] at e;have:=((Xo0 HS).lt rfl).1;omega)⟩
       have hP6:wl.heap.size<((w8.alloc (.cells #[.bool n',.int .i64 e',.slice a' l' c',.slice (some ⟨g8,0,none⟩) le' ce'] 44)).alloc (.cells #[.bool n',.int .i64 e',.slice a' l' c',.slice (some ⟨g8,0,none⟩) le' ce'] 44)).heap.size:=(by rw[Uo,Uo];omega);have Jz:Q38 w6 wl.heap.size (.bool x.neg) (.int .i64 x.exp) (.slice aw lw cw) (.slice ae le ce):=
        (((Xo3 HS).step WQ (Xo4 HS)).step ((Uf _ _).alloc (Ug _) (.cells #[.bool n',.int .i64 e',.slice a' l' c',.slice (some ⟨g8,0,none⟩) le' ce'] 44)) (by rw[Uo];omega)).onKept (D1.block _ hP6 (fun e=>by
          cases a2 with
          |none=>simp at e
          |some q=>simp only[UM,Un] at e;exact (Xo5 HS) q rfl e.symm))
       refine ⟨⟨j+1,_,N2+1,c6,_,rfl,congrArg (Value.int .i64) (by omega),hjt,by omega,Zg,?_,fun m' K7=>?_,Jz,Ue hP6 D1.size,fun q hq=>?_,hbw6⟩,by simp only[intOf];omega⟩
       ·rw[UP,(Xo1 HS),Tc,(Xo7 HS),UP,UP,<-UO]
        congr 1
        show [(Q28 n' e' L,List.zipWith (·+·) x.es y.es)]=[Qjb x.term y.term]
        rw[J0];rfl
       ·rcases UY.1 K7 with h1|h1
        ·exact (Xo2 HS) m' h1
        ·rw[Uy] at h1;subst h1;refine ⟨X1,?_⟩
         show Q75 (Q28 n' e' L)
         rw[J0];exact f9
       ·injection hq with hq;subst hq;rcases F5 with h1|h1
        ·exact (Xo5 HS) _ h1
        ·show g6≠_
         omega
      ·have S2:X=.error 2:=by
        rw[<-(Xo6 H)];unfold Q8d;rw[Uq (by have h0:=(Xo0 HC);unfold Qdd at h0;simpa using h0),Us];rw[Xah];refine ⟨Qjb x.term y.term,?_,?_⟩
        ·refine List.mem_flatMap.2 ⟨x.term,Tm.2 ⟨x,Ud (Xo4 HR),rfl⟩,Tm.2 ⟨y.term,Tm.2 ⟨y,Ud (Xo7 HS),rfl⟩,rfl⟩⟩
        ·have:Q69 (Qjb x.term y.term).1=false:=(Q9b _).2 Yh;rw[this];rfl
       have HX:=Xh2 S2 Yh;clear S2 Yh
       go_wp2_with fail
       exact ⟨rfl,.tuple #[.slice none 0 0,.int .i64 2],by simp[results,go_sem],Q0u.err (Xo0 HX) (Below.next0 (Below.next0 (Xo9 HS) (Xe4 H8)) (Ba))⟩
     ·have hjt':¬((j:Int)<(m:Int)):=(by omega);have hje:j=ms2.length:=(by omega);rw[hje,Ta] at Q1;have HJ:=Xh4 P0 Q1 D3 Q0;clear P0 Q1 D3 Q0 hje hX hlX C1
      go_wp2_with fail
      exact ⟨⟨i+1,a2,N2,c2,all2,rfl,congrArg (Value.int .i64) (by omega),B0,by omega,(Xo0 HJ),by rw[Qhy (Xo4 HR)];exact (Xo1 HJ),(Xo2 HJ),(Xe3 HJ)⟩,by simp only[intOf];omega⟩
   ·have E0:¬((i:Int)<(n:Int)):=(by omega);have A6:i=ms.length:=(by omega);rw[A6,Ta] at Q1;have A2:=Qdz ((Xo2 H).plain (Xo0 H)) ((Xo3 H).plain (Xo1 H)) (by have h0:=(Xo0 HC);unfold Qdd at h0;simpa using h0);have j9:∀m∈all,Qke k m:=fun m hm=>⟨A2 m.term (by rw[<-Q1];exact Tm.2 ⟨m,hm,rfl⟩),(D3 m hm).1⟩;have F4:X=Q24 (all.map Q01.term):=by
     rw[<-(Xo6 H),Q1];unfold Q8d;rw[Uq (by have h0:=(Xo0 HC);unfold Qdd at h0;simpa using h0),Uq];rw[Xah];rintro ⟨p,hp,hf⟩;rw[<-Q1] at hp;obtain ⟨m,hm,rfl⟩:=Tm.1 hp;rw[(Q2a _).2 (D3 m hm).2] at hf;cases hf
    have U3:=Q5u a1 N c1 all k wr (P0.monos fun m hm=>(D3 m hm).1) j9 Z3 Y4 (by omega) ((Xe7 H).step Q0);rw[<-F4] at U3;have HK:=Xh2 U3 Q0;clear U3 Q0 F4 j9 A2 Q1 D3 P0 A6
    go_wp2_with (refine (Xo0 HK).mono ?_;rintro r w5 Y0;obtain ⟨a5,l5,c5,er,rfl⟩:=Y0.form;have H5:=Ua (Y0.lower (Xe1 HK));clear Y0)
    exact ⟨rfl,.tuple #[.slice a5 l5 c5,.int .i64 er],by simp[results,go_sem],H5.out⟩
end Go.Proofs.YtdilmfakkppgpaaGreatDoor
namespace Go.Proofs.YtdilmfakkppgpaaGreatDoor
open Go.RowKit WordsM DecM
theorem Qri (sub:Nat->PR Ex) (opens:Bool) (L:LU) (most f p:Nat) (below:Bool) (acc:List (Bool × Ex)) (bad:Bool):Q4f bad p (Q8h sub opens L most (f+1) p below acc)=(match Q4f bad p (Q36 sub opens L most (L.length+1) p []) with
 | .error e=>.error e
 | .ok (x,q)=>if Q06 L (Q03 L q)=43 then Q8h sub opens L most f (Q03 L q+1) false (acc++[(below,x)])
   else if Q06 L (Q03 L q)=45 then Q8h sub opens L most f (Q03 L q+1) true (acc++[(below,x)])
   else .ok (.sum (acc++[(below,x)]),Q03 L q)):=by
 cases bad
 ·show Q8h sub opens L most (f+1) p below acc=_
  rw[Q8h];rfl
 ·rfl
theorem Qxq {R:Nat} {w w':World} {g n c g2 c2:Nat} {acc:List (Bool × Ex)} {vs:LV} (h:Qb5 R w w' (some ⟨g,0,none⟩) n c (some ⟨g2,0,none⟩) c2 acc vs) (h0:acc≠[]):Q2v (·<w.heap.size) w' (.sum acc) (.iface 130 (.agg #[.slice (some ⟨g,0,none⟩) n c,.slice (some ⟨g2,0,none⟩) n c2])):=by
 have f8:∀k,k<w.heap.size->fpX w.heap.size (some ⟨g,0,none⟩) (some ⟨g2,0,none⟩) k∨w'.heap.size<=k:=fun k hk=>.inl (.inl (TI hk));have hg:=Q1o h.ra rfl;have Y6:=Q1o h.rb rfl;have hc:=h.ra.cap;have E1:=h.rb.cap;have B7:w.heap.size+1<=g:=hg.1;have QL:w.heap.size+1<=g2:=Y6.1;rw[Q2v];refine ⟨g,g2,c,c2,by rw[h.len],fun hk=>by omega,fun hk=>by omega,hg.2,Y6.2,by rw[h.len];exact hc.1,hc.2,by rw[h.len];exact E1.1,E1.2,h0,(h.nodes.more f8).rows 0 (fun j v hv=>?_) fun j t ht=>?_⟩
 ·obtain ⟨g',e,_,_,V0⟩:=h.ra.at_ hv;injection e with e;injection e with e;subst e;rw[UB];exact V0
 ·have hv:(acc.map fun z=>Value.bool z.1)[j]?=some (.bool t):=by
   rw[UT] at ht⊢;cases hz:acc[j]? with
   |none=>rw[hz] at ht;cases ht
   |some z=>rw[hz] at ht;injection ht with ht;rw[<-ht];rfl
  obtain ⟨g',e,_,_,V0⟩:=h.rb.at_ hv;injection e with e;injection e with e;subst e;rw[UB];exact V0
def Qwp (R:Nat) (s:ByteArray) (L:LU) (sub:Nat->PR Ex) (opens:Bool) (most:Nat) (d:Int) (w:World) (X:PR Ex) (bv:Value) (wx:World):Prop:=
 ∃(below:Bool) (p1:Nat) (bd:Bool),bv=.bool below/\Qb5 R w wx none 0 0 none 0 [] []/\Q0q wx R s (p1:Int) (most:Int) d bd/\p1<=s.size/\X=Q4f bd p1 (Q8h sub opens L most (s.size+1) p1 below [])
theorem Q85 {w:World} {R:Nat} {s:ByteArray} {p most:Nat} {d:Int} {bad:Bool} (sub:Nat->PR Ex) (h:Q0q w R s (p:Int) (most:Int) d bad) (hp:p<=s.size) (hs:s.size<=1000000) (V8:0<=d) (hd:d<=16) (hT:∀W,Q0f (OnR R) w W->Q2n W) (u6:decide (d<16)=true->∀p,p<=s.data.toList.length->Q4o s.data.toList p (sub p))
 (O5:d<16->∀(W:World) (q:Nat),Q0q W R s (q:Int) (most:Int) (d+1) false->q<=s.size->(∀W',Q0f (OnR R) W W'->Q2n W')->Calls Tryz.prog 80 #[.pointer (some ⟨R,0,none⟩)] W (Q6p R s (most:Int) (d+1) (sub q) W)):
 Calls Tryz.prog 80 #[.pointer (some ⟨R,0,none⟩)] w (Q6p R s (most:Int) d (Q4f bad p (Q6c sub (decide (d<16)) s.data.toList most p)) w):=by
 obtain ⟨i0,O1,P1,K1,J1⟩:=Q0l Qhs;obtain ⟨i1,Wn,JV,R8,O9⟩:=Q0l Qrb;obtain ⟨L,hL⟩:∃L,s.data.toList=L:=⟨_,rfl⟩;have QK:L.length=s.size:=by rw[<-hL];rfl
 rw[hL] at u6;obtain ⟨X,hX⟩:∃X,Q4f bad p (Q6c sub (decide (d<16)) L most p)=X:=⟨_,rfl⟩;rw[hL,hX];have hR:=h.lt;have T4:Bw w (w.alloc (.cells #[.slice none 0 0,.slice none 0 0] 130)):=Ba;have Z0:Qb5 R w (w.alloc (.cells #[.slice none 0 0,.slice none 0 0] 130)) none 0 0 none 0 [] []:=
  ⟨Q0f.of_below T4 _,by rw[Ux _ _ _ _ _ _ (Ul _ _)];rfl,by rw[Ux _ _ _ _ _ _ (Ul _ _)];rfl,TC _ _ _ _ _ (Ul _ _),TC _ _ _ _ _ (Ul _ _),Row.nil_ _ _ _ _,Row.nil_ _ _ _ _,trivial,rfl⟩
 have R2:=Q3g (h.step T4) hp (by omega);obtain ⟨q,hq⟩:∃q,skS L p bad=q:=⟨_,rfl⟩;obtain ⟨c,hc⟩:∃c,nxB L q bad=c:=⟨_,rfl⟩;have V4:q<=s.size:=by
  rw[<-hq];unfold skS
  split
  ·exact hp
  ·rw[<-QK];exact Q1s (by omega)
 rw[hL,hq,hc] at R2;have K4:IntKind.i64.wrap ((q:Int)+1)=(q:Int)+1:=by rw[Ut];omega
 have H:=Xh7 hL QK hs hX hR Z0 R2;have HS:=Xh5 V8 hd hT O5 u6;have HP:=Xh4 hp V4 hq hc;clear h hp hs hT O5 u6 hL QK V8 hd hX hR Z0 T4 R2 V4 hq hc
 go_enter Tryz.func80,Tryz.ntmps80
 go_wp2_with fail
 go_step3
 go_upto_if 8 with (go_at_call_of 81 (Value.pointer (some ⟨R,0,none⟩));refine (Xe6 H).mono ?_;rintro r w1 ⟨rfl,A1,Y1⟩;have k1:=A1.c1;have g1:=A1.f1;have H1:=Xh2 A1 Y1;clear A1 Y1)
 go_cut [4] (fun bv wx=>Qwp R s L sub (decide (d<16)) most d w X bv wx)
 case first=>
  have Jj:=(Xo3 H);have YM:=(Xo5 H).step (Xo4 H) (Xe1 H1)
  by_cases Z6:c=45
  ·subst Z6;obtain ⟨rfl,Yc,hqb⟩:=Qwd (s:=L) (p:=q) (bad:=bad) (by rw[(Xe3 HP)];decide);have hXn:X=Q4f false (q+1) (Q8h sub (decide (d<16)) L most (s.size+1) (q+1) true []):=by
    rw[<-Jj]
    show Q6c sub (decide (d<16)) L most p=Q8h sub (decide (d<16)) L most (s.size+1) (q+1) true []
    unfold Q6c;have O8:Q03 L p=q:=(by have:=(Xo2 HP);simpa[skS] using this);rw[O8,<-hqb,(Xe3 HP),Us rfl,(Xo1 H)]
   have n45:((((45:UInt8).toNat:Nat):Int)==45)=true:=(by decide);have E9:q+1<=s.size:=(by have:=(Xo1 H);omega);have H2:=Xh3 hXn YM E9;clear hXn Jj YM Yc hqb E9
   go_wp2_with fail
   go_meet;exact ⟨true,q+1,false,rfl,(Xo1 H2).step (Xo4 H) (Q0g w1 R 1 (.int .i64 ((q:Int)+1))),(Xo0 H1).setAt ((q:Int)+1),(Xe2 H2),(Xo0 H2)⟩
  ·have n45:((c.toNat:Int)==45)=false:=Qcf (k:=45) (by decide) Z6;have hXn:X=Q4f bad q (Q8h sub (decide (d<16)) L most (s.size+1) q false []):=by
    rw[<-Jj];cases bad with
    |true=>
     have O8:p=q:=(by have:=(Xo2 HP);simpa[skS] using this);rw[O8];rfl
    |false=>
     show Q6c sub (decide (d<16)) L most p=Q8h sub (decide (d<16)) L most (s.size+1) q false []
     unfold Q6c;have O8:Q03 L p=q:=(by have:=(Xo2 HP);simpa[skS] using this);have Y2:Q06 L q=c:=(by have:=(Xe3 HP);simpa[nxB] using this);rw[O8,Y2,Uq Z6,(Xo1 H)]
   have H2:=Xh3 hXn YM (Xo1 HP);clear hXn Jj YM Z6
   go_wp2_with fail
   go_meet;exact ⟨false,q,bad,congrArg Value.bool n45,(Xo1 H2),(Xo0 H1),(Xe2 H2),(Xo0 H2)⟩
 case rest=>
  have HC:=Ua hcut;obtain ⟨below,p1,bd1,rfl,_⟩:=hcut
  go_wp2_with fail
  go_step3
  go_wp2_with fail
  go_loopw [4] (fun bv wr=>∃(f p':Nat) (below:Bool) (bd:Bool) (a:OA) (n c:Nat) (a2:OA) (c2:Nat) (acc:List (Bool × Ex)) (vs:LV),bv=.bool below/\Qb5 R w wr a n c a2 c2 acc vs/\Q0q wr R s (p':Int) (most:Int) d bd/\p'<=s.size/\s.size+1<=f+p'/\n<=p'/\X=Q4f bd p' (Q8h sub (decide (d<16)) L most f p' below acc)) (fun _ wr=>s.size-atOf wr R)
  case atStart=>
   obtain ⟨below',p1',bd1',e,h1,h2,h3,h4⟩:=HC.out;exact ⟨s.size+1,p1',below',bd1',none,0,0,none,0,[],[],e,h1,h2,h3,by omega,Uu _,h4⟩
  case round=>
   clear HC;obtain ⟨f,p',below,bd,a,n,c,a2,c2,acc,vs,rfl,Z0,hr,o9,hf,hn,F4⟩:=hrel;obtain ⟨f,rfl⟩:∃f',f=f'+1:=⟨f-1,by omega⟩;rw[Qri] at F4;have XC:=fun (W:World) (hW:Q0q W R s (p':Int) (most:Int) d bd) (hTW:Q0f (OnR R) w W)=>Qu1 sub hW o9 (Xo2 H) (Xo0 HS) (Xo1 HS) (fun W' hW'=>(Xo2 HS) W' (hTW.trans0 hW')) (by rw[(Xo0 H)];exact (Xe4 HS)) (Xo3 HS);rw[(Xo0 H)] at XC;obtain ⟨r0,y4⟩:∃r0,Q4f bd p' (Q36 sub (decide (d<16)) L most (s.size+1) p' [])=r0:=⟨_,rfl⟩;rw[y4] at XC;rw[(Xo1 H),y4] at F4;have hgo:∀x q0,r0=.ok (x,q0)->p'<q0:=fun x q0 e=>by
    rw[e] at y4;cases bd with
    |true=>cases y4
    |false=>
     have hm:=Q6e (most:=most) (Xe4 HS) (s.size+1) (p:=p') [] (by have:=(Xo1 H);omega);have A1:Q36 sub (decide (d<16)) L most (s.size+1) p' []=.ok (x,q0):=y4;rw[A1] at hm;exact hm.1
   have HG:=Ua hgo;have Z1:s.size<=1000000:=(Xo2 H);have p6:n+1<=1000001:=(by omega);have HF:=Xh7 XC Z0 hr o9 hf hn F4;clear XC Z0 hr o9 hf F4 y4 hn Z1 hgo
   go_upto_region 5 with fail
   go_cut [] (fun wx=>Qvk R s (most:Int) d w n below acc vs r0 wx)
   case first=>
    refine Q5f (by kernel_rfl) (fun D V W=>∃N,EI R s (most:Int) d w wr a n c a2 c2 below acc vs p' bd r0 N D V W) ?_ (by kernel_rfl) ?_ ?_ ?_
    ·rintro i o hi hd D V v W ⟨N,h⟩;exact ⟨N,EI.drop (Qtx (x:=12) (y:=14) (by kernel_rfl) hi hd) h⟩
    ·intro V;exact ⟨0,(Xo1 HF).start (Xo4 H) (Xo2 HF) V⟩
    ·skip;refine ⟨fun A W D hI F0 hk A0 O3=>?_,?_⟩
     ·obtain ⟨N,h⟩:=hI;have e3:=Q0d F0 3 (by kernel_rfl) rfl;exact Q3v (u:=.pointer (some ⟨w.heap.size,0,none⟩)) rfl (by simp[go_sem,e3]) ⟨N,h.s0⟩
     refine ⟨fun A W D hI F0 hk A0 O3=>?_,?_⟩
     ·obtain ⟨N,h⟩:=hI;have e16:=Q3u (j:=0) (t:=16) rfl (h.v0 (A0 0 (by decide)));have d12:D 12=false:=Q4q O3 (j:=12) rfl (k:=1) (by decide) hk;have k0:=h.c0 d12;exact Q3v (u:=.slice a n c) rfl (by simp[go_sem,e16,k0]) ⟨N,h.s1⟩
     refine ⟨fun A W D hI F0 hk A0 O3=>?_,?_⟩
     ·obtain ⟨N,h⟩:=hI;have e0:=Q0d F0 0 (by kernel_rfl) rfl;exact Q3v (u:=.pointer (some ⟨R,0,none⟩)) rfl (by simp[go_sem,e0]) ⟨N,h.s2⟩
     refine ⟨fun A W D hI F0 hk A0 O3=>?_,?_⟩
     ·obtain ⟨N,h⟩:=hI;have e18:=Q3u (j:=2) (t:=18) rfl (h.v2 (A0 2 (by decide)));have d4:D 4=false:=Q4q O3 (j:=4) rfl (k:=3) (by decide) hk;have d5:D 5=false:=Q4q O3 (j:=5) rfl (k:=3) (by decide) hk;have d10:D 10=false:=Q4q O3 (j:=10) rfl (k:=5) (by decide) d5;have d12:D 12=false:=Q4q O3 (j:=12) rfl (k:=3) (by decide) hk;have d14:D 14=false:=Q4q O3 (j:=14) rfl (k:=3) (by decide) hk;refine Qnt (f:=133) (args:= #[.pointer (some ⟨R,0,none⟩)]) rfl (by simp[go_sem,e18]) ?_;refine ((Xo0 HF) W (h.rd hk) h.turn).mono ?_;rintro e w3 ⟨t,u,rfl,JH⟩;exact ⟨_,rfl,_,h.s3 d4 d5 d10 d12 d14 ⟨t,u,rfl,JH⟩⟩
     refine ⟨fun A W D hI F0 hk A0 O3=>?_,?_⟩
     ·obtain ⟨N,h⟩:=hI;obtain ⟨_,t,u,hV3,_⟩:=h.nd (A0 3 (by decide));have e19:=Q3u (j:=3) (t:=19) rfl hV3;have s4:=h.s4;rw[hV3] at s4;exact Q3v (u:=.slice (some ⟨W.heap.size,0,none⟩) 1 1) (w':=W.alloc (.cells #[.iface t u] 82)) rfl (by simp[go_sem,e19]) ⟨N,s4⟩
     refine ⟨fun A W D hI F0 hk A0 O3=>?_,?_⟩
     ·obtain ⟨N,h⟩:=hI;obtain ⟨_,t,u,hV3,_⟩:=h.nd (A0 3 (by decide));obtain ⟨b4,hV4,_,F1⟩:=h.v4 (A0 4 (by decide));rw[hV3] at F1;have d10:D 10=false:=Q4q O3 (j:=10) rfl (k:=5) (by decide) hk;have d12:D 12=false:=Q4q O3 (j:=12) rfl (k:=5) (by decide) hk;have d14:D 14=false:=Q4q O3 (j:=14) rfl (k:=5) (by decide) hk;refine Qau rfl (.tmp 17) (.tmp 20) 127 rfl (w.heap.size+1) 82 i0 .nilIface 16 Tryz.underlying127 O1 P1 K1 J1 rfl (.slice a n c) n vs (Qfj (j:=1) rfl (h.v1 (A0 1 (by decide)))) (h.ra hk) b4 (.iface t u) (Qfj (j:=4) rfl hV4) F1 rfl (by unfold maxLen;omega) (by omega) (by have:=h.st.2.1;have:=h.big;omega) ?_;intro g cap w' I0 m7 R1;rw[<-hV3] at I0;exact ⟨N,h.s5 (A0 3 (by decide)) hk d10 d12 d14 I0 m7 R1 rfl⟩
     refine ⟨fun A W D hI F0 hk A0 O3=>?_,?_⟩
     ·obtain ⟨N,h⟩:=hI;have e3:=Q0d F0 3 (by kernel_rfl) rfl;exact Q3v (u:=.pointer (some ⟨w.heap.size,1,none⟩)) rfl (by simp[go_sem,e3]) ⟨N,h.s6⟩
     refine ⟨fun A W D hI F0 hk A0 O3=>?_,?_⟩
     ·obtain ⟨N,h⟩:=hI;have e22:=Q3u (j:=6) (t:=22) rfl (h.v6 (A0 6 (by decide)));have d14:D 14=false:=Q4q O3 (j:=14) rfl (k:=7) (by decide) hk;have k1:=h.c1 d14;exact Q3v (u:=.slice a2 n c2) rfl (by simp[go_sem,e22,k1]) ⟨N,h.s7⟩
     refine ⟨fun A W D hI F0 hk A0 O3=>?_,?_⟩
     ·obtain ⟨N,h⟩:=hI;have e4:=Q0d F0 4 (by kernel_rfl) rfl;exact Q3v (u:=.bool below) rfl (by simp[go_sem,e4]) ⟨N,h.s8⟩
     refine ⟨fun A W D hI F0 hk A0 O3=>?_,?_⟩
     ·obtain ⟨N,h⟩:=hI;have e24:=Q3u (j:=8) (t:=24) rfl (h.v8 (A0 8 (by decide)));exact Q3v (u:=.slice (some ⟨W.heap.size,0,none⟩) 1 1) (w':=W.alloc (.cells #[.bool below] 4)) rfl (by simp[go_sem,e24]) ⟨N,h.s9⟩
     refine ⟨fun A W D hI F0 hk A0 O3=>?_,?_⟩
     ·obtain ⟨N,h⟩:=hI;obtain ⟨b9,hV9,_,Z4⟩:=h.v9 (A0 9 (by decide));have d5:=A0 5 (by decide);have d3:=O3 5 _ rfl d5 3 (by decide);have d12:D 12=false:=Q4q O3 (j:=12) rfl (k:=10) (by decide) hk;have d14:D 14=false:=Q4q O3 (j:=14) rfl (k:=10) (by decide) hk;refine Qau rfl (.tmp 23) (.tmp 25) 128 rfl (w.heap.size+1) 4 i1 (.bool false) 1 Tryz.underlying128 Wn JV R8 O9 rfl (.slice a2 n c2) n (acc.map fun (z:Bool × Ex)=>Value.bool z.1) (Qfj (j:=7) rfl (h.v7 (A0 7 (by decide)))) (h.rb hk) b9 (.bool below) (Qfj (j:=9) rfl hV9) Z4 rfl (by unfold maxLen;omega) (by omega) (by have:=h.st.2.1;have:=h.big;omega) ?_;intro g cap w' I0 m7 R1;exact ⟨N,h.s10 d3 d5 hk d12 d14 I0 m7 R1 rfl⟩
     refine ⟨fun A W D hI F0 hk A0 O3=>?_,?_⟩
     ·obtain ⟨N,h⟩:=hI;have e3:=Q0d F0 3 (by kernel_rfl) rfl;exact Q3v (u:=.pointer (some ⟨w.heap.size,0,none⟩)) rfl (by simp[go_sem,e3]) ⟨N,h.s11⟩
     refine ⟨fun A W D hI F0 hk A0 O3=>?_,?_⟩
     ·obtain ⟨N,h⟩:=hI;have e27:=Q3u (j:=11) (t:=27) rfl (h.v11 (A0 11 (by decide)));have d10:=A0 10 (by decide);have d5:=A0 5 (by decide);have d3:=A0 3 (by decide);obtain ⟨g,cap,hV5,_⟩:=h.ra' d5;have e21:=Q3u (j:=5) (t:=21) rfl hV5;have k0:=h.c0 hk;have g0:=h.f0;have s12:=h.s12 d3 d5 d10 hk undef;rw[hV5] at s12;exact Qea rfl (by simp[go_sem,e27,e21,k0,g0]) ⟨N,s12⟩
     refine ⟨fun A W D hI F0 hk A0 O3=>?_,?_⟩
     ·obtain ⟨N,h⟩:=hI;have e3:=Q0d F0 3 (by kernel_rfl) rfl;exact Q3v (u:=.pointer (some ⟨w.heap.size,1,none⟩)) rfl (by simp[go_sem,e3]) ⟨N,h.s13⟩
     refine ⟨fun A W D hI F0 hk A0 O3=>?_,?_⟩
     ·obtain ⟨N,h⟩:=hI;have e28:=Q3u (j:=13) (t:=28) rfl (h.v13 (A0 13 (by decide)));have d10:=A0 10 (by decide);have d5:=A0 5 (by decide);have d3:=A0 3 (by decide);obtain ⟨g,cap,hV10,_⟩:=h.rb' d10;have e26:=Q3u (j:=10) (t:=26) rfl hV10;have k0:=h.c1 hk;have g0:=h.f1;have s14:=h.s14 d3 d5 d10 hk undef;rw[hV10] at s14;exact Qea rfl (by simp[go_sem,e28,e26,k0,g0]) ⟨N,s14⟩
     exact trivial
    ·rintro D V W hD ⟨N,h⟩;have G3:=h.fin (Xo1 HF).len hD;have HX:=Ua G3;clear G3 h hD;simp only[Q0s,Act.put,Uw,UK,UJ]
     go_wp2_with fail
     go_meet;exact HX.out
   case rest=>
    obtain ⟨g,cap,g2,cap2,v,hk,N9,VY,h2⟩:=hcut;have HK:=Xh2 VY h2;have hX:=(Xe6 HF);clear VY h2;cases r0 with
    |error e=>
     have h1:=(Xe1 HK);have R2:=Q3g h1.1 h1.2 (by have:=(Xo2 H);omega);simp only[skS,nxB,Xa5] at R2;have H2:=Xh3 R2 h1.2 hX;clear R2 h1 hX;have n43:((((0:UInt8).toNat:Nat):Int)==43)=false:=(by decide);have n45:((((0:UInt8).toNat:Nat):Int)==45)=false:=by decide
     go_wp2_with (go_at_call_of 81 (Value.pointer (some ⟨R,0,none⟩));refine (Xo0 H2).mono ?_;rintro r w2 ⟨rfl,G1,U1⟩;have k2:=(U1.cell (p:=⟨w.heap.size,0,none⟩) (US hk) (fun (e:w.heap.size=R)=>by have:=(Xo4 H);omega)).trans hk;have k3:=(U1.cell (p:=⟨w.heap.size,1,none⟩) (US N9) (fun (e:w.heap.size=R)=>by have:=(Xo4 H);omega)).trans N9;have H3:=Xh2 G1 U1;clear G1 U1)
     first|rw[Xae]|skip
     go_ret;rw[(Xe2 H2)];exact Q6p.err ((Xo0 HK).trans0 (Xe1 H3)) (Xo0 H3) (Xo1 H2)
    |ok z=>
     obtain ⟨x,q0⟩:=z;have h1:=(Xe1 HK);obtain ⟨q,hq⟩:∃q,Q03 L q0=q:=⟨_,rfl⟩;have V4:q<=s.size:=(by rw[<-hq,<-(Xo1 H)];exact Q1s (by have:=(Xo1 H);have:=h1.2.2;omega));obtain ⟨c,hc⟩:∃c,Q06 L q=c:=⟨_,rfl⟩;have F4:X=if c=43 then Q8h sub (decide (d<16)) L most f (q+1) false (acc++[(below,x)]) else if c=45 then Q8h sub (decide (d<16)) L most f (q+1) true (acc++[(below,x)]) else .ok (.sum (acc++[(below,x)]),q):=by
      rw[hX];simp only[hq,hc]
     have R2:=Q3g h1.2.1 h1.2.2 (by have:=(Xo2 H);omega);rw[(Xo0 H)] at R2;simp only[skS,nxB,Tl,Xaq,hq,hc] at R2;have QM:p'<q:=(by have:=HG.out x q0 rfl;have:=Q1m L q0;omega);have K4:IntKind.i64.wrap ((q:Int)+1)=(q:Int)+1:=by rw[Ut];have:=(Xo2 H);omega
     by_cases h43:c=43
     ·subst h43;have E9:q+1<=s.size:=(by have:=Q0e hc (by decide);have:=(Xo1 H);omega);rw[Us rfl] at F4;have n43:((((43:UInt8).toNat:Nat):Int)==43)=true:=(by decide);have H2:=Xh5 R2 h1.1 F4 E9 QM;clear R2 h1 F4 hX E9 QM hq hc V4
      go_wp2_with (go_at_call_of 81 (Value.pointer (some ⟨R,0,none⟩));refine (Xo0 H2).mono ?_;rintro r w2 ⟨rfl,G1,U1⟩;have k1:=G1.c1;have g1:=G1.f1;have H3:=Xh2 G1 U1;clear G1 U1)
      have JT:Q0q (w2.setCell ⟨R,1,none⟩ (.int .i64 ((q:Int)+1))) R s ((q+1:Nat):Int) (most:Int) d false:=(Xo0 H3).setAt ((q:Int)+1);refine ⟨⟨f,q+1,false,false,_,n+1,cap,_,cap2,acc++[(below,x)],vs++[v],rfl,((Xo1 H2).step (Xo4 H) (Xe1 H3)).step (Xo4 H) (Q0g w2 R 1 (.int .i64 ((q:Int)+1))),JT,(Xo3 H2),?_,?_,(Xo2 H2)⟩,?_⟩
      ·have:=(Xo4 HF);have:=(Xe4 H2);omega
      ·have:=(Xo5 HF);have:=(Xe4 H2);omega
      ·rw[JT.atOf,(Xo2 HF).atOf];have:=(Xo3 H2);have:=(Xe4 H2);omega
     ·by_cases Z6:c=45
      ·subst Z6;have E9:q+1<=s.size:=(by have:=Q0e hc (by decide);have:=(Xo1 H);omega);rw[Uq (by decide),Us rfl] at F4;have n43:((((45:UInt8).toNat:Nat):Int)==43)=false:=(by decide);have n45:((((45:UInt8).toNat:Nat):Int)==45)=true:=(by decide);have H2:=Xh5 R2 h1.1 F4 E9 QM;clear R2 h1 F4 hX E9 QM hq hc V4
       go_wp2_with (go_at_call_of 81 (Value.pointer (some ⟨R,0,none⟩));refine (Xo0 H2).mono ?_;rintro r w2 ⟨rfl,G1,U1⟩;have k1:=G1.c1;have g1:=G1.f1;have H3:=Xh2 G1 U1;clear G1 U1)
       have JT:Q0q (w2.setCell ⟨R,1,none⟩ (.int .i64 ((q:Int)+1))) R s ((q+1:Nat):Int) (most:Int) d false:=(Xo0 H3).setAt ((q:Int)+1);refine ⟨⟨f,q+1,true,false,_,n+1,cap,_,cap2,acc++[(below,x)],vs++[v],rfl,((Xo1 H2).step (Xo4 H) (Xe1 H3)).step (Xo4 H) (Q0g w2 R 1 (.int .i64 ((q:Int)+1))),JT,(Xo3 H2),?_,?_,(Xo2 H2)⟩,?_⟩
       ·have:=(Xo4 HF);have:=(Xe4 H2);omega
       ·have:=(Xo5 HF);have:=(Xe4 H2);omega
       ·rw[JT.atOf,(Xo2 HF).atOf];have:=(Xo3 H2);have:=(Xe4 H2);omega
      ·rw[Uq h43,Uq Z6] at F4;have n43:((c.toNat:Int)==43)=false:=Qcf (k:=43) (by decide) h43;have n45:((c.toNat:Int)==45)=false:=Qcf (k:=45) (by decide) Z6;have H2:=Xh4 R2 h1.1 F4 V4;clear R2 h1 F4 hX V4 QM hq hc h43 Z6
       go_wp2_with (go_at_call_of 81 (Value.pointer (some ⟨R,0,none⟩));refine (Xo0 H2).mono ?_;rintro r w2 ⟨rfl,G1,U1⟩;have k2:=(U1.cell (p:=⟨w.heap.size,0,none⟩) (US hk) (fun (e:w.heap.size=R)=>by have:=(Xo4 H);omega)).trans hk;have k3:=(U1.cell (p:=⟨w.heap.size,1,none⟩) (US N9) (fun (e:w.heap.size=R)=>by have:=(Xo4 H);omega)).trans N9;have H3:=Xh2 G1 U1;clear G1 U1)
       first|rw[Xae]|skip
       go_ret;rw[(Xo2 H2)];have y6:=(Xo1 H2).step (Xo4 H) (Xe1 H3);refine Q6p.okd ((Xo0 HK).trans0 (Xe1 H3)) ?_ (Xo0 H3) (Xe3 H2);exact Qxq y6 (by simp)
theorem Q86 {R:Nat} {s:ByteArray} {most:Nat} (hs:s.size<=1000000):∀(k:Nat) (w:World) (p:Nat) (bad:Bool) (d:Int),d=16-(k:Int)->k<=16->Q0q w R s (p:Int) (most:Int) d bad->p<=s.size->(∀W,Q0f (OnR R) w W->Q2n W)->
 Calls Tryz.prog 80 #[.pointer (some ⟨R,0,none⟩)] w (Q6p R s (most:Int) d (Q4f bad p (Q6d s.data.toList most k p)) w)
 |0,w,p,bad,d,hd,_,h,hp,hT=>by
  have he:=Q85 (fun q=>.error q) h hp hs (by omega) (by omega) hT (fun hdd=>by have:=Xab hdd;omega) (fun hdd=>by omega);have hf:decide (d<16)=false:=UL (by omega);rw[hf] at he;exact he
 |k+1,w,p,bad,d,hd,hk,h,hp,hT=>by
  have he:=Q85 (Q6d s.data.toList most k) h hp hs (by omega) (by omega) hT (fun _ p hp=>Q6f s.data.toList most k p hp) (fun _ W q hW hq hTW=>Q86 hs k W q false (d+1) (by omega) (by omega) hW hq hTW);have hf:decide (d<16)=true:=UU (by omega);rw[hf] at he;exact he
end Go.Proofs.YtdilmfakkppgpaaGreatDoor
