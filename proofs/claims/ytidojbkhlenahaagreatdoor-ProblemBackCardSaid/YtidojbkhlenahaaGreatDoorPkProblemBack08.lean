/- Part 8. No condition. -/
import Derived.Test.YtidojbkhlenahaaGreatDoorPkProblemBack07
set_option maxRecDepth 100000
set_option maxHeartbeats 16000000
namespace Go.Proofs.YtidojbkhlenahaaGreatDoor
open Go.RowKit WordsM
theorem RdI.store1 {K:IntKind} {w:World} {B:Nat} {a:OA} {ls:LN} (h:RdI K w B a ls) {p:Addr} {v:Value} (hp:w.cell? p=some v) (hv:∀x:Nat,v≠nv K x) (u:Value):RdI K (w.setCell p u) B a ls:=by
 rcases h with rfl|⟨g,o,rfl,hg,hc⟩
 ·exact .inl rfl
 ·refine .inr ⟨g,o,rfl,hg,fun j x hx=>?_⟩;have h1:=hc j x hx;rw[Ud _ _ _ _ (fun e=>?_)]
  ·exact h1
  ·rw[e] at hp;rw[hp] at h1;injection h1 with h1;exact hv x h1
theorem WordsIn.set1 {w:World} {a:OA} {n c:Nat} {L:LN} (h:WordsIn w a n c L) {p:Addr} {v:Value} (hp:w.cell? p=some v) (hv:∀x:Nat,v≠nv .u64 x) (u:Value):WordsIn (w.setCell p u) a n c L:=
 ⟨h.len,h.cap,h.most,h.low,(h.rd.store1 hp hv u).more (by rw[UT];omega)⟩
theorem WordsIn.set3 {w:World} {a:OA} {n c b:Nat} {L:LN} {b0:Bool} {e0:Int} {a0:OA} {n0 c0:Nat} (h:WordsIn w a n c L) (hN:Q03 w b (.bool b0) (.int .i64 e0) (.slice a0 n0 c0)) (u0 u1 u2:Value):
 WordsIn (((w.setCell ⟨b,0,none⟩ u0).setCell ⟨b,1,none⟩ u1).setCell ⟨b,2,none⟩ u2) a n c L:=
 ⟨h.len,h.cap,h.most,h.low,(h.rd.store3 hN (fun _=>by simp[nv]) (fun _=>by simp[nv]) (fun _=>by simp[nv]) u0 u1 u2).more (Q1i _ _ _ _ _)⟩
theorem Qls (n:Bool) (e:Int) (a:OA) (l c:Nat) (L:LN) (w:World) (h:WordsIn w a l c L) (hi:Q0a n e L) (h0:L≠[]):
 Calls Tryz.prog 96 #[.agg #[.bool n,.int .i64 e,.slice a l c]] w fun r w'=>∃a' l' c',r=.returned (.agg #[.bool n,.int .i64 e,.slice a' l' c'])/\Q2n w w' a' l' c' L/\Bw w w':=by
 obtain ⟨P9,hX,hR,hB⟩:=Q8g w (.bool n) (.int .i64 e) (.slice a l c) (.bool false) (.int .i64 0) (.slice none 0 0) 26 26;generalize hW:(w.alloc (.cells #[.bool n,.int .i64 e,.slice a l c] 26)).alloc (.cells #[.bool false,.int .i64 0,.slice none 0 0] 26)=W at hX hR hB P9;have A2:w.heap.size+1<W.heap.size:=by omega
 clear P9;obtain ⟨x7,WN,hlen64,XB,Q6⟩:val (2^64) L≠0/\L=dig (2^64) (val (2^64) L)/\l<=64/\-65536<=e/\e<=65536:=by
  rcases Q1t hi h.low with ⟨h1,_⟩|⟨_,h2,h3,h4,h5,h6⟩
  ·exact absurd h1 h0
  ·refine ⟨by omega,h3,?_,h5,h6⟩;rw[<-h.len,h3];exact Qcm h4
 have Qx:=Q11 n e a l c L W (h.step hB) (by omega) (by omega) (by omega);rw[UQ hi] at Qx;have Qm:∀W2,Bw w W2->Calls Tryz.prog 146 #[.slice a l c] W2 fun r w'=>∃a' l' c',r=.returned (.slice a' l' c')/\Q2n W2 w' a' l' c' L/\Bw W2 w':=fun W2 hb=>(Qd5 a l c L W2 (h.step hb) (by omega) x7).mono (by rintro r w' ⟨a',l',c',rfl,hw,B4⟩;rw[<-WN] at hw;exact ⟨a',l',c',rfl,hw,B4⟩);have HR:=Xh6 hX hR hB Qx Qm A2;obtain ⟨xc0,xc1,xc2⟩:=hX.cc;clear hX hR hB Qx Qm A2 h hi h0 x7 WN
 go_enter Tryz.func96,Tryz.ntmps96
 go_wp2_with (first
  |(go_at_call_of 53 (Value.bool n);refine (Xo3 HR).mono ?_;rintro r w1 ⟨rfl,C0⟩;have X6:=(Xo0 HR).step C0 (by have:=(Xe5 HR);omega);obtain ⟨uc0,uc1,uc2⟩:=X6.cc;have HA:=Xh2 C0 (Below.next0 (Xo2 HR) C0);clear X6 C0)
  |(go_at_call_of 146 a;refine ((Xo4 HR) w1 (Xe1 HA)).mono ?_;rintro r w2 ⟨a',l',c',rfl,I4,D0⟩;have E0:=(Xe5 HR);have U6:=Below.next0 (Xo0 HA) D0;have V4:=(Xo0 HR).step U6 (by omega);have L7:=(Xo1 HR).step U6 E0;
    have yc2:=V4.c2;have yf2:=V4.f2;have QW:=V4.set2 (.slice a' l' c');have P5:=L7.far (p:=⟨w.heap.size,2,none⟩) (by show w.heap.size≠w.heap.size+1;omega) (.slice a' l' c');obtain ⟨zc0,zc1,zc2⟩:=QW.cc;obtain ⟨rc0,rc1,rc2,rf0,rf1,rf2⟩:=P5.cf;have rd1:=P5.d1 (.bool n);have rd2:=P5.d2 (.bool n) (.int .i64 e);have g7:=WordsIn.set1 I4.toWordsIn V4.c2 (fun _=>by simp[nv]) (.slice a' l' c');have HM:=Xh3 ((I4.lower (Xe1 HA).size).on g7) P5 ((Below.next0 (Xo2 HR) U6).setCell (p:=⟨w.heap.size,2,none⟩) (Ue _) (.slice a' l' c'));clear V4 L7 QW P5 g7 D0 U6))
 have hS:=(Xo1 HM).store (.bool n) (.int .i64 e) (.slice a' l' c');obtain ⟨k0,k1,k2⟩:=hS.cc;have Q3:=Q03.below (Xe2 HM) (show w.heap.size<=w.heap.size+1 by omega) (.bool n) (.int .i64 e) (.slice a' l' c');have V8:=(Xo0 HM).set3 (Xo1 HM) (.bool n) (.int .i64 e) (.slice a' l' c');exact ⟨rfl,.agg #[.bool n,.int .i64 e,.slice a' l' c'],by simp[results,go_sem,k0,k1,k2],a',l',c',rfl,(Xo0 HM).on V8,Q3⟩
theorem Qpk (n:Bool) (e:Int) (a:OA) (l c:Nat) (L:LN) (w:World) (h:WordsIn w a l c L) (hi:Q0a n e L) (h0:L≠[]):
 Calls Tryz.prog 112 #[.agg #[.bool n,.int .i64 e,.slice a l c]] w fun r w'=>∃a' l' c',r=.returned (.agg #[.bool false,.int .i64 e,.slice a' l' c'])/\Q2n w w' a' l' c' L/\Bw w w':=by
 obtain ⟨P9,hX,hR,hB⟩:=Q8g w (.bool n) (.int .i64 e) (.slice a l c) (.bool false) (.int .i64 0) (.slice none 0 0) 26 26;generalize hW:(w.alloc (.cells #[.bool n,.int .i64 e,.slice a l c] 26)).alloc (.cells #[.bool false,.int .i64 0,.slice none 0 0] 26)=W at hX hR hB P9;have A2:w.heap.size+1<W.heap.size:=by omega
 clear P9;have YB:=Qls n e a l c L W (h.step hB) hi h0;have HR:=Xh4 hR hB YB A2;obtain ⟨xc0,xc1,xc2⟩:=hX.cc;clear hX hR hB YB A2 h hi h0
 go_enter Tryz.func112,Tryz.ntmps112
 go_wp2_with (first
  |(go_at_call_of 96 (Value.bool n);refine (Xo2 HR).mono ?_;rintro r w1 ⟨a',l',c',rfl,O2,C0⟩;have HA:=Xh2 (O2.lower (Xo1 HR).size) C0;clear O2 C0)
  |(go_at_call_of 164 (Value.bool n);refine (Qip n e a' l' c' w1).mono ?_;rintro r w2 ⟨rfl,D0⟩;have E0:=(Xe3 HR);have U6:=Below.next0 (Xe1 HA) D0;have L7:=(Xo0 HR).step U6 E0;obtain ⟨rc0,rc1,rc2,rf0,rf1,rf2⟩:=L7.cf;have rd1:=L7.d1 (.bool false);have rd2:=L7.d2 (.bool false) (.int .i64 e);have HM:=Xh3 ((Xo0 HA).on ((Xo0 HA).step D0)) L7 (Below.next0 (Xo1 HR) U6);clear L7 D0 U6))
 have hS:=(Xo1 HM).store (.bool false) (.int .i64 e) (.slice a' l' c');obtain ⟨k0,k1,k2⟩:=hS.cc;have Q3:=Q03.below (Xe2 HM) (show w.heap.size<=w.heap.size+1 by omega) (.bool false) (.int .i64 e) (.slice a' l' c');have V8:=(Xo0 HM).set3 (Xo1 HM) (.bool false) (.int .i64 e) (.slice a' l' c');exact ⟨rfl,.agg #[.bool false,.int .i64 e,.slice a' l' c'],by simp[results,go_sem,k0,k1,k2],a',l',c',rfl,(Xo0 HM).on V8,Q3⟩
theorem Qpl (n:Bool) (e:Int) (a:OA) (l c:Nat) (L:LN) (w:World) (h:WordsIn w a l c L) (hi:Q0a n e L) (h0:L≠[]):
 Calls Tryz.prog 244 #[.agg #[.bool n,.int .i64 e,.slice a l c]] w fun r w'=>∃a' l' c',r=.returned (.agg #[.bool (!n),.int .i64 e,.slice a' l' c'])/\Q2n w w' a' l' c' L/\Bw w w':=by
 obtain ⟨P9,hX,hR,hB⟩:=Q8g w (.bool n) (.int .i64 e) (.slice a l c) (.bool false) (.int .i64 0) (.slice none 0 0) 26 26;generalize hW:(w.alloc (.cells #[.bool n,.int .i64 e,.slice a l c] 26)).alloc (.cells #[.bool false,.int .i64 0,.slice none 0 0] 26)=W at hX hR hB P9;have A2:w.heap.size+1<W.heap.size:=by omega
 clear P9;have YB:=Qls n e a l c L W (h.step hB) hi h0;have o4:0<L.length:=by
  cases L with
  |nil=>exact absurd rfl h0
  |cons x r=>simp
 have HR:=Xh6 hX hR hB YB A2 o4;obtain ⟨xc0,xc1,xc2⟩:=hX.cc;clear hX hR hB YB A2 h hi h0 o4;cases n
 ·go_enter Tryz.func244,Tryz.ntmps244
  go_upto_region 2 with (go_at_call_of 96 a;refine (Xo3 HR).mono ?_;rintro r w1 ⟨a',l',c',rfl,O2,C0⟩;have X6:=(Xo0 HR).step C0 (by have:=(Xo4 HR);omega);obtain ⟨yc0,yc1,yc2,yf0,yf1,yf2⟩:=X6.cf;have yd1:=X6.d1 (.bool false);have yd2:=X6.d2 (.bool false) (.int .i64 e);have HA:=Xh3 X6 (O2.lower (Xo2 HR).size) C0;clear X6 O2 C0)
  have G3:0<l':=by have h3:=(Xo1 HA).len;have h4:=(Xe5 HR);omega
  have hl':decide (0<l')=true:=UQ G3;have V4:=(Xo0 HA).store (.bool false) (.int .i64 e) (.slice a' l' c');have L7:=((Xo1 HR).step (Xe2 HA) (Xo4 HR)).far3 (show w.heap.size≠w.heap.size+1 by omega) (.bool false) (.int .i64 e) (.slice a' l' c');have I4:=(Xo1 HA).set3 (Xo0 HA) (.bool false) (.int .i64 e) (.slice a' l' c');have D0:=Q03.below (Below.next0 (Xo2 HR) (Xe2 HA)) (Ue _) (.bool false) (.int .i64 e) (.slice a' l' c');clear yc0 yc1 yc2 yf0 yf1 yf2 yd1 yd2;generalize ((w1.setCell ⟨w.heap.size,0,none⟩ (.bool false)).setCell ⟨w.heap.size,1,none⟩ (.int .i64 e)).setCell ⟨w.heap.size,2,none⟩ (.slice a' l' c')=W2 at V4 L7 I4 D0⊢;obtain ⟨zc0,zc1,zc2,zf0,zf1,zf2⟩:=V4.cf;have QW:=V4.set0 (.bool true);have P5:=L7.far (p:=⟨w.heap.size,0,none⟩) (show w.heap.size≠w.heap.size+1 by omega) (.bool true);have g7:=I4.set1 (p:=⟨w.heap.size,0,none⟩) V4.c0 (fun _=>by simp[nv]) (.bool true);obtain ⟨vc0,vc1,vc2⟩:=QW.cc;obtain ⟨rc0,rc1,rc2,rf0,rf1,rf2⟩:=P5.cf;have rd1:=P5.d1 (.bool true);have rd2:=P5.d2 (.bool true) (.int .i64 e);have HM:=Xh3 ((Xo1 HA).on g7) P5 (D0.setCell (p:=⟨w.heap.size,0,none⟩) (Ue _) (.bool true));clear V4 L7 QW P5 I4 g7 D0
  go_wp2_with fail
  have hS:=(Xo1 HM).store (.bool true) (.int .i64 e) (.slice a' l' c');obtain ⟨k0,k1,k2⟩:=hS.cc;have Q3:=Q03.below (Xe2 HM) (show w.heap.size<=w.heap.size+1 by omega) (.bool true) (.int .i64 e) (.slice a' l' c');have V8:=(Xo0 HM).set3 (Xo1 HM) (.bool true) (.int .i64 e) (.slice a' l' c');exact ⟨rfl,.agg #[.bool true,.int .i64 e,.slice a' l' c'],by simp[results,go_sem,k0,k1,k2],a',l',c',rfl,(Xo0 HM).on V8,Q3⟩
 ·go_enter Tryz.func244,Tryz.ntmps244
  go_upto_region 2 with (go_at_call_of 96 a;refine (Xo3 HR).mono ?_;rintro r w1 ⟨a',l',c',rfl,O2,C0⟩;have X6:=(Xo0 HR).step C0 (by have:=(Xo4 HR);omega);obtain ⟨yc0,yc1,yc2,yf0,yf1,yf2⟩:=X6.cf;have yd1:=X6.d1 (.bool true);have yd2:=X6.d2 (.bool true) (.int .i64 e);have HA:=Xh3 X6 (O2.lower (Xo2 HR).size) C0;clear X6 O2 C0)
  have G3:0<l':=by have h3:=(Xo1 HA).len;have h4:=(Xe5 HR);omega
  have hl':decide (0<l')=true:=UQ G3;have V4:=(Xo0 HA).store (.bool true) (.int .i64 e) (.slice a' l' c');have L7:=((Xo1 HR).step (Xe2 HA) (Xo4 HR)).far3 (show w.heap.size≠w.heap.size+1 by omega) (.bool true) (.int .i64 e) (.slice a' l' c');have I4:=(Xo1 HA).set3 (Xo0 HA) (.bool true) (.int .i64 e) (.slice a' l' c');have D0:=Q03.below (Below.next0 (Xo2 HR) (Xe2 HA)) (Ue _) (.bool true) (.int .i64 e) (.slice a' l' c');clear yc0 yc1 yc2 yf0 yf1 yf2 yd1 yd2;generalize ((w1.setCell ⟨w.heap.size,0,none⟩ (.bool true)).setCell ⟨w.heap.size,1,none⟩ (.int .i64 e)).setCell ⟨w.heap.size,2,none⟩ (.slice a' l' c')=W2 at V4 L7 I4 D0⊢;obtain ⟨zc0,zc1,zc2,zf0,zf1,zf2⟩:=V4.cf;have QW:=V4.set0 (.bool false);have P5:=L7.far (p:=⟨w.heap.size,0,none⟩) (show w.heap.size≠w.heap.size+1 by omega) (.bool false);have g7:=I4.set1 (p:=⟨w.heap.size,0,none⟩) V4.c0 (fun _=>by simp[nv]) (.bool false);obtain ⟨vc0,vc1,vc2⟩:=QW.cc;obtain ⟨rc0,rc1,rc2,rf0,rf1,rf2⟩:=P5.cf;have rd1:=P5.d1 (.bool false);have rd2:=P5.d2 (.bool false) (.int .i64 e);have HM:=Xh3 ((Xo1 HA).on g7) P5 (D0.setCell (p:=⟨w.heap.size,0,none⟩) (Ue _) (.bool false));clear V4 L7 QW P5 I4 g7 D0
  go_wp2_with fail
  have hS:=(Xo1 HM).store (.bool false) (.int .i64 e) (.slice a' l' c');obtain ⟨k0,k1,k2⟩:=hS.cc;have Q3:=Q03.below (Xe2 HM) (show w.heap.size<=w.heap.size+1 by omega) (.bool false) (.int .i64 e) (.slice a' l' c');have V8:=(Xo0 HM).set3 (Xo1 HM) (.bool false) (.int .i64 e) (.slice a' l' c');exact ⟨rfl,.agg #[.bool false,.int .i64 e,.slice a' l' c'],by simp[results,go_sem,k0,k1,k2],a',l',c',rfl,(Xo0 HM).on V8,Q3⟩
theorem Qlt {A B:LN} (hA:Low (2^64) A) (hB:Low (2^64) B):(dig (2^64) (val (2^64) A*val (2^64) B)).length<=A.length+B.length:=by
 have h1:=Q2z (B:=2^64) (by decide) A hA;have h2:=Q2z (B:=2^64) (by decide) B hB;refine Q2q (by decide) ?_;rw[Tp];exact Nat.mul_lt_mul'' h1 h2
theorem Q5g {n:Bool} {e:Int} {L:LN} (h:Q0a n e L) (hl:Low (2^64) L):L.length<=64/\-65536<=e/\e<=65536:=by
 rcases Q1t h hl with ⟨rfl,_,rfl⟩|⟨_,_,h2,h3,h4,h5⟩
 ·simp
 ·exact ⟨by rw[h2];exact Qcm h3,h4,h5⟩
theorem Qsy (nx ny:Bool) (ex ey:Int) (ls ks:LN):Q1p (nx != ny) (ex+ey) (dig (2^64) (val (2^64) ls*val (2^64) ks))=Q1p nx ex ls*Q1p ny ey ks:=by
 rw[Qc1];unfold Q1p;rw[Qxj,Qrs]
theorem Qlu (nx:Bool) (ex:Int) (ax:OA) (lx cx:Nat) (ls:LN) (ny:Bool) (ey:Int) (ay:OA) (ly cy:Nat) (ks:LN) (w:World) (h1:WordsIn w ax lx cx ls) (h2:WordsIn w ay ly cy ks) (i1:Q0a nx ex ls) (i2:Q0a ny ey ks) (hT:Q1s w):
 Calls Tryz.prog 304 #[.agg #[.bool nx,.int .i64 ex,.slice ax lx cx],.agg #[.bool ny,.int .i64 ey,.slice ay ly cy],.func (.func 305) #[] #[]] w (Qsx w (Q1p nx ex ls*Q1p ny ey ks)):=by
 obtain ⟨p5,hX,hY,hR,hB⟩:=Qf3 w (.bool nx) (.int .i64 ex) (.slice ax lx cx) (.bool ny) (.int .i64 ey) (.slice ay ly cy) (.bool false) (.int .i64 0) (.slice none 0 0) 26 26 26;generalize R1:(((w.alloc (.cells #[.bool nx,.int .i64 ex,.slice ax lx cx] 26)).alloc (.cells #[.bool ny,.int .i64 ey,.slice ay ly cy] 26)).alloc (.cells #[.bool false,.int .i64 0,.slice none 0 0] 26))=W0 at p5 hX hY hR hB;have hQ:∀W,Bw W0 W->Q03 W w.heap.size (.bool nx) (.int .i64 ex) (.slice ax lx cx)/\Q03 W (w.heap.size+1) (.bool ny) (.int .i64 ey) (.slice ay ly cy)/\Q03 W (w.heap.size+2) (.bool false) (.int .i64 0) (.slice none 0 0)/\w.heap.size+2<W.heap.size/\Bw w W:=fun W hb=>
  ⟨hX.step hb (by omega),hY.step hb (by omega),hR.step hb (by omega),Uc (by omega) hb.size,Below.next0 hB hb⟩
 obtain ⟨m5,R4,Z3,_,_,_⟩:=hX;obtain ⟨Ql,x8,QG,_,_,_⟩:=hY;have HQ:=Ub hQ;have U7:=h1.len;have hly:=h2.len;obtain ⟨b1,b2,b3⟩:=Q5g i1 h1.low;obtain ⟨b4,b5,b6⟩:=Q5g i2 h2.low;have I2:=Q11 nx ex ax lx cx ls W0 (h1.step hB) (by omega) (by omega) (by omega);have X0:=fun W (hb:Bw w W)=>Q11 ny ey ay ly cy ks W (h2.step hb) (by omega) (by omega) (by omega);rw[UQ i1] at I2;simp only[UQ i2] at X0;have XL:=fun W (hb:Bw w W)=>Qiv nx ex ax lx cx ls ny ey ay ly cy ks W (h1.step hb) (h2.step hb) (by omega) (by omega) (by omega) (by omega) (by omega) (by omega);have hmd:=Qlt h1.low h2.low;have HC:=Xh5 I2 X0 XL hmd hT;clear p5 hR hQ I2 X0 XL hmd hT h1 h2 i1 i2
 go_enter Tryz.func304,Tryz.ntmps304
 go_wp2_with (first
  |(go_at_call_of 53 ax;refine (Xo0 HC).mono ?_;rintro r w1 ⟨rfl,C0⟩;obtain ⟨g0,g1,g2,g3,g4⟩:=HQ.out w1 C0;obtain ⟨uc0,uc1,uc2⟩:=g0.cc;obtain ⟨vc0,vc1,vc2⟩:=g1.cc;have HA:=Xh2 C0 g4;clear g0 g1 g2 g3 g4 C0)
  |(go_at_call_of 53 ay;refine ((Xo1 HC) w1 (Xe1 HA)).mono ?_;rintro r w2 ⟨rfl,D0⟩;have U6:=Below.next0 (Xo0 HA) D0;obtain ⟨g0,g1,g2,g3,g4⟩:=HQ.out w2 U6;obtain ⟨pc0,pc1,pc2⟩:=g0.cc;obtain ⟨qc0,qc1,qc2⟩:=g1.cc;have HE:=Xh2 U6 g4;clear g0 g1 g2 g3 g4 D0 U6)
  |(go_at_call_of 305 ax;refine ((Xo2 HC) w2 (Xe1 HE)).mono ?_;rintro r w3 ⟨a3,l3,c3,rfl,g7,G0⟩;have HF:=Xh3 g7 (Below.next0 (Xo0 HE) G0) (Below.next0 (Xe1 HE) G0);clear g7 G0)
  |(go_at_call_of 312 (Value.bool (nx != ny));refine (Qvw (nx != ny) (ex+ey) a3 l3 c3 _ w3 (Xo0 HF) ((Xe4 HC).step (Xe2 HF)) (by have:=(Xo0 HF).len;have:=(Xo3 HC);omega) (by omega) (by omega)).mono ?_;rintro r w4 ⟨n',e',a',l',c',L',er,rfl,t7,I8,F2⟩;rw[Qsy] at t7;have hb14:=Below.next0 (Xo1 HF) F2;obtain ⟨g0,g1,g2,g3,g4⟩:=HQ.out w4 hb14;obtain ⟨rc0,rc1,rc2,rf0,rf1,rf2⟩:=g2.cf;have rd1:=g2.d1 (.bool n');have rd2:=g2.d2 (.bool n') (.int .i64 e');have HM:=Xh4 t7 (I8.lower (Xe2 HF).size) g2 g4;clear g0 g1 g2 g3 g4 t7 I8 F2 hb14))
 have hS:=(Xo2 HM).store (.bool n') (.int .i64 e') (.slice a' l' c');obtain ⟨k0,k1,k2⟩:=hS.cc;have Q3:=Q03.below (Xe3 HM) (show w.heap.size<=w.heap.size+2 by omega) (.bool n') (.int .i64 e') (.slice a' l' c');have V8:=(Xo1 HM).set3 (Xo2 HM) (.bool n') (.int .i64 e') (.slice a' l' c');exact ⟨rfl,.tuple #[.agg #[.bool n',.int .i64 e',.slice a' l' c'],.int .i64 er],by simp[results,go_sem,k0,k1,k2],n',e',a',l',c',L',er,rfl,(Xo0 HM),(Xo1 HM).on V8,Q3⟩
theorem Qpm (nx:Bool) (ex:Int) (ax:OA) (lx cx:Nat) (ls:LN) (ny:Bool) (ey:Int) (ay:OA) (ly cy:Nat) (ks:LN) (w:World) (h1:WordsIn w ax lx cx ls) (h2:WordsIn w ay ly cy ks) (i1:Q0a nx ex ls) (i2:Q0a ny ey ks) (hT:Q1s w):
 Calls Tryz.prog 286 #[.agg #[.bool nx,.int .i64 ex,.slice ax lx cx],.agg #[.bool ny,.int .i64 ey,.slice ay ly cy]] w (Qsx w (Q1p nx ex ls*Q1p ny ey ks)):=by
 obtain ⟨p5,hX,hY,hR,hB⟩:=Qf3 w (.bool nx) (.int .i64 ex) (.slice ax lx cx) (.bool ny) (.int .i64 ey) (.slice ay ly cy) (.bool false) (.int .i64 0) (.slice none 0 0) 26 26 26;generalize R1:(((w.alloc (.cells #[.bool nx,.int .i64 ex,.slice ax lx cx] 26)).alloc (.cells #[.bool ny,.int .i64 ey,.slice ay ly cy] 26)).alloc (.cells #[.bool false,.int .i64 0,.slice none 0 0] 26))=W0 at p5 hX hY hR hB;have hQ:∀W,Bw W0 W->Q03 W w.heap.size (.bool nx) (.int .i64 ex) (.slice ax lx cx)/\Q03 W (w.heap.size+1) (.bool ny) (.int .i64 ey) (.slice ay ly cy)/\Q03 W (w.heap.size+2) (.bool false) (.int .i64 0) (.slice none 0 0)/\w.heap.size+2<W.heap.size/\Bw w W:=fun W hb=>
  ⟨hX.step hb (by omega),hY.step hb (by omega),hR.step hb (by omega),Uc (by omega) hb.size,Below.next0 hB hb⟩
 obtain ⟨m5,R4,Z3,_,_,_⟩:=hX;obtain ⟨Ql,x8,QG,_,_,_⟩:=hY;have HQ:=Ub hQ;have Yr:=Qlu nx ex ax lx cx ls ny ey ay ly cy ks W0 (h1.step hB) (h2.step hB) i1 i2 (hT.step hB);have HC:=Ub Yr;clear p5 hR hQ Yr hT h1 h2 i1 i2
 go_enter Tryz.func286,Tryz.ntmps286
 go_wp2_with (go_at_call_of 304 ax;refine HC.out.mono ?_;rintro r w1 ⟨n',e',a',l',c',L',er,rfl,t7,O2,C0⟩;obtain ⟨g0,g1,g2,g3,g4⟩:=HQ.out w1 C0;obtain ⟨rc0,rc1,rc2,rf0,rf1,rf2⟩:=g2.cf;have rd1:=g2.d1 (.bool n');have rd2:=g2.d2 (.bool n') (.int .i64 e');have HM:=Xh4 t7 (O2.lower (HQ.out W0 (Ug _ _)).2.2.2.2.size) g2 g4;clear g0 g1 g2 g3 g4 t7 O2 C0)
 have hS:=(Xo2 HM).store (.bool n') (.int .i64 e') (.slice a' l' c');obtain ⟨k0,k1,k2⟩:=hS.cc;have Q3:=Q03.below (Xe3 HM) (show w.heap.size<=w.heap.size+2 by omega) (.bool n') (.int .i64 e') (.slice a' l' c');have V8:=(Xo1 HM).set3 (Xo2 HM) (.bool n') (.int .i64 e') (.slice a' l' c');exact ⟨rfl,.tuple #[.agg #[.bool n',.int .i64 e',.slice a' l' c'],.int .i64 er],by simp[results,go_sem,k0,k1,k2],n',e',a',l',c',L',er,rfl,(Xo0 HM),(Xo1 HM).on V8,Q3⟩
def Qpn (v u:Nat):Int:=if v<u then -1 else if u<v then 1 else 0
theorem Qpo (a:OA) (n c v:Nat) (b:OA) (m d u:Nat) (w:World) (h1:Q0r w a n c v) (h2:Q0r w b m d u) (hn:n<=1000000):
 Calls Tryz.prog 207 #[.slice a n c,.slice b m d] w fun e w'=>e=.returned (.int .i64 (Qpn v u))/\Bw w w':=by
 have JL:val (2^32) (dig (2^32) v)=v:=Q0v (by decide) v;have JC:val (2^32) (dig (2^32) u)=u:=Q0v (by decide) u;have ZX:=Q28 (B:=2^32) (by decide) v;have ZD:=Q28 (B:=2^32) (by decide) u;have m6:=h1.len;have ZY:=h2.len;have I2:=h1.rd;have X0:=h2.rd;have ZG:n<m->v<u:=fun h=>TI fun G5=>by
  have h3:=Q1n (B:=2^32) (by decide) G5;omega
 have Jg:m<n->u<v:=fun h=>TI fun G5=>by
  have h3:=Q1n (B:=2^32) (by decide) G5;omega
 obtain ⟨A,hA⟩:∃A,dig (2^32) v=A:=⟨_,rfl⟩;obtain ⟨K,hK⟩:∃K,dig (2^32) u=K:=⟨_,rfl⟩;rw[hA] at JL ZX m6 I2;rw[hK] at JC ZD ZY X0;obtain ⟨r,hr⟩:∃r,Qpn v u=r:=⟨_,rfl⟩;have H:=Xh6 JL JC ZX ZD I2 X0;rw[hr];have HL:=Xh3 ZG Jg hr;clear JL JC ZX ZD I2 X0 hA hK h1 h2 ZG Jg hr
 by_cases Q0:n=m
 ·subst Q0;have Yw:((n:Int) != (n:Int))=false:=by simp
  go_enter Tryz.func207,Tryz.ntmps207
  go_wp2_with fail
  go_loopw [5] (fun iv wr=>∃j:Nat,iv=.int .i64 ((j:Int)-1)/\j<=n/\A.drop j=K.drop j/\Bw w wr) (fun iv _=>(intOf iv+1).toNat)
  case atStart=>exact ⟨n,rfl,Ue _,by rw[UW (by omega),UW (by omega)],Ug _ _⟩
  case round=>
   obtain ⟨j,rfl,hj,Jd,hb⟩:=hrel;cases j with
   |zero=>
    have Y4:A=K:=(by simpa using Jd);have u4:r=0:=by
     rw[<-(Xe2 HL),<-(Xo0 H),<-(Xo1 H),Y4];unfold Qpn;rw[Up (Nat.lt_irrefl _),Up (Nat.lt_irrefl _)]
    have HE:=Xh2 u4 hb;clear Jd Y4 hb u4
    go_wp2_with fail
    go_ret;exact ⟨by rw[(Xo0 HE)];rfl,(Xe1 HE)⟩
   |succ j=>
    obtain ⟨x,hx⟩:∃x,A[j]?=some x:=⟨_,Ua (by omega)⟩;obtain ⟨y,hy⟩:∃y,K[j]?=some y:=⟨_,Ua (by omega)⟩;obtain ⟨g1,o1,U5,R6,u5⟩:=((Xo4 H).below hb).at_ hx;obtain ⟨g2,o2,t6,J5,K9⟩:=((Xe5 H).below hb).at_ hy;subst U5 t6;have hjI:((j+1:Nat):Int)-1=(j:Int):=(by omega);have hjA:(j:Int)<(n:Int):=(by omega);have hj0:((j:Int)≥0):=(by omega);have HH:=Xh4 Jd hb hx hy;clear Jd hb hx hy;rw[hjI]
    by_cases E0:x<y
    ·have Vn:(x:Int)<(y:Int):=(by omega);have hv:=Qgu (B:=2^32) (by decide) (Xo2 H) (Xo2 HH) (Xe3 HH) (Xo0 HH) E0;have u4:r= -1:=by
      rw[<-(Xe2 HL)];unfold Qpn;rw[Us (by rw[<-(Xo0 H),<-(Xo1 H)];exact hv)]
     have HV:=Ub u4;clear hv u4
     go_wp2_with fail
     go_quiet (fail)
     go_wp2_with fail
     go_ret;exact ⟨by rw[HV.out];rfl,Q1d (Xo1 HH) _⟩
    ·have Vn:¬(x:Int)<(y:Int):=by omega
     by_cases hgt:y<x
     ·have hyx:(y:Int)<(x:Int):=(by omega);have hv:=Qgu (B:=2^32) (by decide) (Xo3 H) (Xe3 HH) (Xo2 HH) (Xo0 HH).symm hgt;have u4:r=1:=by
       rw[<-(Xe2 HL)];unfold Qpn;have Jl:u<v:=(by rw[<-(Xo0 H),<-(Xo1 H)];exact hv);rw[Up (by omega),Us Jl]
      have HV:=Ub u4;clear hv u4
      go_wp2_with fail
      go_quiet (fail)
      go_wp2_with fail
      go_quiet (fail)
      go_wp2_with fail
      go_ret;exact ⟨by rw[HV.out];rfl,Q1d (Q1d (Xo1 HH) _) _⟩
     ·have hyx:¬(y:Int)<(x:Int):=(by omega);have WK:x=y:=by omega
      go_wp2_with fail
      go_quiet (fail)
      go_wp2_with fail
      go_quiet (fail)
      go_wp2_with fail
      refine ⟨⟨j,rfl,by omega,?_,Q1d (Xo1 HH) _⟩,by simp only[intOf];omega⟩;have h1:=(Xo0 HH);have e1:=(Ul.1 (Xo2 HH));have e2:=(Ul.1 (Xe3 HH));rw[UG e1.1,UG e2.1,e1.2,e2.2,h1,WK]
 ·have Yw:((n:Int) != (m:Int))=true:=by rw[bne_iff_ne];omega
  by_cases E0:n<m
  ·have hltI:(n:Int)<(m:Int):=(by omega);have u4:r= -1:=(by rw[<-(Xe2 HL)];unfold Qpn;rw[Us ((Xo0 HL) E0)]);have HV:=Ub u4;clear u4
   go_enter Tryz.func207,Tryz.ntmps207
   go_wp2_with fail
   go_ret;exact ⟨by rw[HV.out];rfl,Ug _ _⟩
  ·have hltI:¬(n:Int)<(m:Int):=(by omega);have u4:r=1:=by
    have:=(Xo1 HL) (by omega);rw[<-(Xe2 HL)];unfold Qpn;rw[Up (by omega),Us this]
   have HV:=Ub u4;clear u4
   go_enter Tryz.func207,Tryz.ntmps207
   go_wp2_with fail
   go_ret;exact ⟨by rw[HV.out];rfl,Ug _ _⟩
theorem Qlv {B:Nat} {A K L:LN} {i cr x y z cr':Nat} (hL:L.length=i) (hx:A[i]?=some x) (hs:z+y+cr=x+cr'*B) (hy:K[i]?.getD 0=y) (h:val B L+val B (K.take i)=val B (A.take i)+cr*B^i):val B (L++[z])+val B (K.take (i+1))=val B (A.take (i+1))+cr'*B^(i+1):=by
 rw[Q9e,hL,Q5s A i,Q5s K i,hx,hy,Xao,Tf];have h1:B^i*z+B^i*y+cr*B^i=B^i*x+cr'*(B^i*B):=by
  have:=congrArg (B^i*·) hs;simp only[Tv] at this;rw[UC cr,Nat.mul_left_comm cr'];rw[<-this]
 omega
theorem Qlw {u v l cr X:Nat} (huv:u<=v) (h3:l<X) (h:l+u=v+cr*X):cr=0:=by
 refine Nat.eq_zero_of_not_pos fun O6=>?_;have h4:X<=cr*X:=Nat.le_mul_of_pos_left _ O6;omega
theorem Qfo (a:OA) (n c:Nat) (v:Nat) (b:OA) (m d:Nat) (u:Nat) (w:World) (h1:Q0r w a n c v) (h2:Q0r w b m d u) (hn:n<=100000) (huv:u<=v):
 Calls Tryz.prog 208 #[.slice a n c,.slice b m d] w fun e w'=>∃a' n',e=.returned (.slice a' n' n')/\Q0r w' a' n' n' (v-u)/\Bw w w':=by
 have JL:val (2^32) (dig (2^32) v)=v:=Q0v (by decide) v;have JC:val (2^32) (dig (2^32) u)=u:=Q0v (by decide) u;have ZX:=Q28 (B:=2^32) (by decide) v;have ZD:=Q28 (B:=2^32) (by decide) u;have m6:=h1.len;have ZY:=h2.len;have hmn:m<=n:=by
  have h3:=Q1n (B:=2^32) (by decide) huv;omega
 have I2:=h1.rd;have X0:=h2.rd;obtain ⟨A,hA⟩:∃A,dig (2^32) v=A:=⟨_,rfl⟩;obtain ⟨K,hK⟩:∃K,dig (2^32) u=K:=⟨_,rfl⟩;rw[hA] at JL ZX m6 I2;rw[hK] at JC ZD ZY X0;obtain ⟨i0,E2,P1,G1,K1⟩:=Xbq Q7x;have HI:=Xh4 E2 P1 G1 K1;have H:=Xh7 JL JC ZX ZD I2 X0 huv;have Kg:=fun (i:Nat) W (hb:Bw w W)=>Q7f b m d K i W ZY (X0.below hb) ZD;have HD:=Ub Kg;clear JL JC ZX ZD I2 X0 hA hK h1 h2 Kg E2 P1 G1 K1 huv
 go_enter Tryz.func208,Tryz.ntmps208
 go_wp2_with fail
 go_loopw [5,6,7] (fun ov cv iv wr=>∃(i cr:Nat) (L:LN) (ao:OA) (co:Nat),ov=.slice ao i co/\cv=.int .u64 (cr:Int)/\iv=.int .i64 (i:Int)/\cr<=1/\i<=n/\Row wr w.heap.size 150 1 ao i co (L.map (nv .u32))/\L.length=i/\Low (2^32) L/\val (2^32) L+val (2^32) (K.take i)=val (2^32) (A.take i)+cr*(2^32)^i/\Bw w wr) (fun _ _ iv _=>n-(intOf iv).toNat)
 case atStart=>exact ⟨0,0,[],none,0,rfl,rfl,rfl,by decide,Ut _,Row.nil_ _ _ _ _,rfl,fun x hx=>by simp at hx,by simp[val],Ug _ _⟩
 case round=>
  obtain ⟨i,cr,L,ao,co,rfl,rfl,rfl,Qe,hi,I0,o4,S0,M0,hb⟩:=hrel
  by_cases U3:i=n
  ·have e1:K.take i=K:=Uw (by rw[ZY,U3];exact hmn);have e2:A.take i=A:=Uw (by rw[m6,U3];exact Ue _);rw[e1,e2,(Xo0 H),(Xo1 H)] at M0;have hcr0:cr=0:=by
    have h3:=Q2z (B:=2^32) (by decide) L S0;rw[o4] at h3;exact Qlw (Xe6 H) h3 M0
   subst hcr0;rw[Xaa,Tz] at M0;have hT:=Q5b ao i co L wr o4 I0.cap.1 I0.cap.2 (Row.rdI I0) S0;rw[show val (2^32) L=v-u by omega] at hT;have HT:=Xh2 hT hb;have l1:¬(i:Int)<(n:Int):=(by omega);clear hT hb M0 S0 I0 U3 e1 e2
   go_wp2_with (refine (Xo0 HT).mono ?_;rintro e w1 ⟨n',rfl,Zb,hD,rfl⟩;have ZR:=Ub hD;clear hD)
   go_ret;exact ⟨ao,n',rfl,ZR.out,(Xe1 HT)⟩
  ·have E0:i<n:=(by omega);have l1:(i:Int)<(n:Int):=(by omega);obtain ⟨x,hx⟩:∃x,A[i]?=some x:=⟨_,Ua (by omega)⟩;obtain ⟨g1,o1,U5,R6,u5⟩:=((Xo4 H).below hb).at_ hx;subst U5;have D4:x<4294967296:=(Xo2 H) x (Uf hx);have Qo:K[i]?.getD 0<4294967296:=Qbw (by decide) (Xo3 H) i;have P0:=fun z cr' hs=>Qlv (B:=2^32) (z:=z) (cr':=cr') (cr:=cr) o4 hx hs rfl M0;have hd:∀W:World,W.heap=wr.heap->Calls Tryz.prog 193 #[.slice b m d,.int .i64 (i:Int)] W fun e w'=>e=.returned (.int .u64 ((K[i]?.getD 0:Nat):Int))/\∃n,w'=W.drewN n:=fun W hW=>by
    have h1:=Q7f b m d K i W (B:=w.heap.size) ZY (RdI.keep ((Xo5 H).below hb) (fun p _=>by unfold World.cell?;rw[hW])) (Xo3 H);refine h1.mono ?_;rintro e w' ⟨rfl,rfl⟩;exact ⟨rfl,0,rfl⟩
   generalize K[i]?.getD 0=y at*;obtain ⟨S,hS⟩:∃S,y+cr=S:=⟨_,rfl⟩;have hSI:(y:Int)+(cr:Int)=(S:Int):=(by omega);have hSl:S<=4294967296:=(by omega);have J1:∀o nq,Bw w ((wr.drewN nq).alloc o):=fun o nq=>(Q1d hb nq).alloc hb.size o;have Q3:∀o nq,w.heap.size<=((wr.drewN nq).alloc o).heap.size:=fun o nq=>(J1 o nq).size;have QY:∀o nq,Row ((wr.drewN nq).alloc o) w.heap.size 150 1 ao i co (L.map (nv .u32)):=fun o nq=>(I0.drewN nq).alloc o;obtain ⟨cr',Z,hcr',hZ,hZl⟩:∃cr' Z:Nat,cr'<=1/\Z+S=x+cr'*4294967296/\Z<4294967296:=by
    by_cases E0:x<S
    ·exact ⟨1,x+4294967296-S,Ue _,by omega,by omega⟩
    ·exact ⟨0,x-S,by omega,by omega,by omega⟩
   have S7:=P0 Z cr' (by rw[<-hZ,<-hS];omega);have HH:=Xh5 S7 QY J1 Q3 S0;clear P0 QY J1 Q3 hb I0 M0 S7 S0 hS hx;have hwn:IntKind.u32.wrap (Z:Int)=(Z:Int):=by
    simp only[IntKind.wrap,IntKind.signed,IntKind.bits];simp;omega
   by_cases E0:x<S
   ·have hltI:(x:Int)<(S:Int):=(by omega);obtain rfl:cr'=1:=(by omega);have hZI:(x:Int)+4294967296-(S:Int)=(Z:Int):=by omega
    go_wp2_with fail
    go_quiet (first|(refine Calls.quiet_of (hd _ ?_);rfl))
    go_wp2_with (at_builtin;refine Q0o rfl (.tmp 31) (.tmp 36) 85 rfl w _ 150 i0 _ 1 4 Tryz.underlying85 (Xo0 HI) (Xo1 HI) (Xo2 HI) (Xe3 HI) rfl (by decide) w.heap.size ((Xo2 HH) _ _) ((Xo3 HH) _ _) ao i co _ rfl ((Xo1 HH) _ _) ⟨(wr.drewN nq).heap.size,0,none⟩ 1 1 [.int .u32 (Z:Int)] rfl rfl (Q3f (wr.drewN nq) #[.int .u32 (Z:Int)] _ _) (Qag _ _) (i+1) rfl (by omega) (by omega) ?_;intro a3 c3 w3 Z7 X9 G0 T5;have HO:=Xh2 Z7 G0;clear Z7 X9 G0 T5)
    refine ⟨⟨i+1,1,L++[Z],a3,c3,rfl,rfl,by simp,Ue _,by omega,?_,by simp[o4],Qgg (Xe4 HH) hZl,(Xo0 HH),(Xe1 HO)⟩,by simp only[intOf];omega⟩;rw[UR];exact (Xo0 HO)
   ·have hltI:¬(x:Int)<(S:Int):=(by omega);obtain rfl:cr'=0:=(by omega);have hZI:(x:Int)-(S:Int)=(Z:Int):=by omega
    go_wp2_with fail
    go_quiet (first|(refine Calls.quiet_of (hd _ ?_);rfl))
    go_wp2_with (at_builtin;refine Q0o rfl (.tmp 31) (.tmp 36) 85 rfl w _ 150 i0 _ 1 4 Tryz.underlying85 (Xo0 HI) (Xo1 HI) (Xo2 HI) (Xe3 HI) rfl (by decide) w.heap.size ((Xo2 HH) _ _) ((Xo3 HH) _ _) ao i co _ rfl ((Xo1 HH) _ _) ⟨(wr.drewN nq).heap.size,0,none⟩ 1 1 [.int .u32 (Z:Int)] rfl rfl (Q3f (wr.drewN nq) #[.int .u32 (Z:Int)] _ _) (Qag _ _) (i+1) rfl (by omega) (by omega) ?_;intro a3 c3 w3 Z7 X9 G0 T5;have HO:=Xh2 Z7 G0;clear Z7 X9 G0 T5)
    refine ⟨⟨i+1,0,L++[Z],a3,c3,rfl,rfl,by simp,Ut _,by omega,?_,by simp[o4],Qgg (Xe4 HH) hZl,(Xo0 HH),(Xe1 HO)⟩,by simp only[intOf];omega⟩;rw[UR];exact (Xo0 HO)
def bnd (T:Nat) (d:Dyadic):Prop:=∃m:Int,d=dy m (-(T:Int))/\m.natAbs<2^(2*T)
theorem Qvx (T:Nat):bnd T 0:=⟨0,(Qah _).symm,by simpa using Tr (n:=2*T) (by decide:0<2)⟩
theorem Q5v (m:Int) (k:Nat):(m*2^k).natAbs=m.natAbs*2^k:=by
 rw[Int.natAbs_mul];have:((2:Int)^k)=((2^k:Nat):Int):=by simp
 rw[this,Int.natAbs_natCast]
theorem bnd.more {T S:Nat} {d:Dyadic} (h:bnd T d) (hS:T<=S):bnd S d:=by
 obtain ⟨m,rfl,hm⟩:=h;obtain ⟨k,rfl⟩:∃k,S=T+k:=⟨S-T,by omega⟩;refine ⟨m*2^k,?_,?_⟩
 ·have:=Q9i m (-((T+k:Nat):Int)) k;rw[<-this]
  congr 1
  omega
 ·rw[Q5v,show 2*(T+k)=2*T+k+k by omega,Tp,Tp];have h1:1<=2^k:=Tr (by decide)
  calc m.natAbs*2^k<2^(2*T)*2^k:=TL hm (by omega)
   _<=2^(2*T)*2^k*2^k:=Nat.le_mul_of_pos_right _ (by omega)
theorem bnd.add {T:Nat} {a b:Dyadic} (ha:bnd T a) (hb:bnd T b):bnd (T+1) (a+b):=by
 obtain ⟨m,rfl,hm⟩:=ha;obtain ⟨k,rfl,hk⟩:=hb;refine ⟨(m+k)*2^1,?_,?_⟩
 ·rw[Qf6,<-Q9i (m+k) (-((T+1:Nat):Int)) 1]
  congr 1
  omega
 ·rw[Q5v,show 2*(T+1)=2*T+2 by omega,Tp];have:=Int.natAbs_add_le m k;generalize 2^(2*T)=X at*;omega
theorem Q9x {d:Dyadic} {T:Nat} (h:Q44 d) (hT:69632<=T):bnd T d:=by
 rcases h with rfl|⟨m,e,rfl,_,hm,h1,h2⟩
 ·exact Qvx T
 obtain ⟨k,hk⟩:∃k:Nat,e= -(T:Int)+k:=⟨(e+T).toNat,by omega⟩;have hkT:k<=65536+T:=by omega
 refine ⟨m*2^k,by rw[hk,Q9i],?_⟩;rw[Q5v];have h3:(2^64)^64=2^(64*64):=(TZ 2 64 64).symm;rw[h3] at hm;obtain ⟨s,hs⟩:∃s,64*64=s:=⟨_,rfl⟩;rw[hs] at hm
 calc m.natAbs*2^k<2^s*2^k:=TL hm (Tr (by decide))
  _=2^(s+k):=(Tp 2 s k).symm
  _<=2^(2*T):=UO (by decide) (by omega)
theorem Qlx {a b e:Int} (h:dy a e=dy b e):a=b:=by
 have h1:=congrArg Dyadic.toRat h;rw[Q7h,Q7h] at h1;have h2:((2:Rat)^e)≠0:=by
  intro h0;have h4:dy 1 e≠0:=Ql6 (by decide);refine h4 ?_;rw[<-Dyadic.toRat_inj,Q7h,h0];simp
 generalize (2:Rat)^e=x at h1 h2;have h3:(a:Rat)=(b:Rat):=by grind
 exact Rat.intCast_inj.1 h3
theorem Qsz {neg:Bool} {v T:Nat} {e:Int} (hv:v%2=1) (h:bnd T (dy (sgn neg v) e)): -(T:Int)<=e/\e<=T/\v<2^(2*T):=by
 obtain ⟨m,hd,hm⟩:=h;have Kq:=Q4r (neg:=neg) hv;have he: -(T:Int)<=e:=by
  refine Int.not_lt.1 fun E0=>?_;obtain ⟨k,hk⟩:∃k:Nat,-(T:Int)=e+((k+1:Nat):Int):=⟨(-(T:Int)-e).toNat-1,by omega⟩;rw[hk,Q9i] at hd;have h1:=Qlx hd;rw[h1,Int.pow_succ,<-Int.mul_assoc] at Kq;omega
 obtain ⟨k,hk⟩:∃k:Nat,e= -(T:Int)+k:=⟨(e+T).toNat,by omega⟩;rw[hk,Q9i] at hd;have h1:=Qlx hd;have h2:=congrArg Int.natAbs h1;rw[Q5v,Qai] at h2;rw[<-h2] at hm;have X2:1<=2^k:=Tr (by decide);have J8:1<=v:=by omega
 refine ⟨he,?_,TS (Nat.le_mul_of_pos_right v (by omega)) hm⟩;have h3:2^k<2^(2*T):=TS (Nat.le_mul_of_pos_left _ (by omega)) hm;have h4:=(Nat.pow_lt_pow_iff_right (a:=2) (by decide)).1 h3;omega
theorem Q8y {neg:Bool} {v T k:Nat} {e:Int} (hc:Q4y neg v e) (h:bnd T (dy (sgn neg v) e)) (hk:2*T<=32*k):(dig (2^32) v).length<=k/\-(T:Int)<=e/\e<=T:=by
 by_cases h0:v=0
 ·obtain ⟨_,rfl⟩:=hc.1 h0;subst h0;rw[Q0z];exact ⟨Ut _,by omega,by omega⟩
 ·obtain ⟨h1,h2,h3⟩:=Qsz (hc.2 h0) h;refine ⟨Q2q (by decide) (Uc h3 ?_),h1,h2⟩;rw[<-TZ];exact UO (by decide) hk
end Go.Proofs.YtidojbkhlenahaaGreatDoor
namespace Go.Proofs.YtidojbkhlenahaaGreatDoor
open Go Go.RowKit
section
variable {P:Program} {ops:Array Oper}
theorem Q2b {D:Nat->Bool} {k j:Nat} {oj:Oper} (C2:∀j oj,ops[j]?=some oj->D j=true->∀i∈Q1v oj,D i=true) (hj:ops[j]?=some oj) (hk:k∈Q1v oj) (hD:D k=false):D j=false:=by
 cases hb:D j with
 |false=>rfl
 |true=>have:=C2 j oj hj hb k hk;rw[hD] at this;cases this
theorem Qc2 {l:List Oper} {x y:Nat} (hl:(l.zipIdx.all fun p=>p.1.dst.isSome || (p.2==x || p.2==y))=true) {i:Nat} {o:Oper} (hi:l[i]?=some o) (hd:o.dst=none):i=x∨i=y:=by
 have hm:(o,i)∈l.zipIdx:=by rw[TR];exact hi
 have h1:=Tu.1 hl _ hm;simpa[hd] using h1
def Q6h (P:Program) (ops:Array Oper) (I:Qlq) (a0:Act) (k:Nat) (o:Oper):Prop:=
 ∀a w D,I D (Q09 ops a) w->Q7q ops a0 a->D k=false->(∀i∈Q1v o,D i=true)->(∀j oj,ops[j]?=some oj->D j=true->∀i∈Q1v oj,D i=true)->
  Region.wanted o (yielded ops a.tmps)=true/\Q0n P (fun u w'=>I (Q1z D k) (Q27 (Q09 ops a) k u) w') ((execOp a.eval o).run P w)
def Q89 (P:Program) (ops:Array Oper) (I:Qlq) (a0:Act):List Oper->Nat->Prop:=Qlp (Q6h P ops I a0)
theorem Qyn {I:Qlq} {a0:Act} (k:Nat) (o:Oper) (h:Q6h P ops I a0 k o):Q9v P ops I a0 k o:=fun a w D h1 h2 h3 h4 h5=>by
 obtain ⟨hw,hs⟩:=h a w D h1 h2 h3 h4 h5;rw[Us hw];exact hs
variable {Q:Exit->Act->World->Prop}
theorem Q79 {id:Nat} {l:List Oper} {a0:Act} {w:World} (hm:P.follows .mixedOrders=true) (I:Qlq) (hN:∀(i:Nat) o,l[i]?=some o->o.dst=none->∀D vs v w,I D (Q27 vs i v) w->I D vs w) (hB:Q7r l a0.tmps.size=true) (h0:I (fun _=>false) (Q09 l.toArray a0) w.drew)
 (step:Q89 P l.toArray I a0 l 0) (fin:∀D vs w,(∀j,j<l.length->D j=true)->I D vs w->Q .normal (Q0y vs l 0 a0) w):(Code.region id l.toArray true).wp P Q a0 w:=
 Q7s hm I (fun i o hi hd D vs v w _=>hN i o hi hd D vs v w) hB h0 (Qlp.imp Qyn l 0 step) fin
theorem Q31 {id:Nat} {l:List Oper} {a0:Act} {w:World} (hm:P.follows .mixedOrders=true) (I:Qlq) (hN:∀(i:Nat) o,l[i]?=some o->o.dst=none->∀D vs v w,I D (Q27 vs i v) w->I D vs w) (hB:Q7r l a0.tmps.size=true) (h0:∀vs,I (fun _=>false) vs w.drew)
 (step:Q89 P l.toArray I a0 l 0) (fin:∀D vs w,(∀j,j<l.length->D j=true)->I D vs w->Q .normal (Q0y vs l 0 a0) w):(Code.region id l.toArray true).wp P Q a0 w:=
 Q79 hm I hN hB (h0 _) step fin
end
section
variable {P:Program}
def Qnu (l:List Oper) (n:Nat):Bool:=(List.range n).all fun k=>(List.range (n+1)).any fun j=>decide (k<j) && (match l[j]? with|some o=>(Q1v o).contains k|none=>false)
theorem Qda {l:List Oper} {n:Nat} (h:Qnu l n=true) {D:Nat->Bool} (C2:∀j oj,l[j]?=some oj->D j=true->∀i∈Q1v oj,D i=true):∀m k,n-k=m->k<=n->D k=false->D n=false:=by
 intro m
 induction m using Nat.strongRecOn with
 |ind m ih=>
  intro k hm hk hD
  by_cases Vr:k=n
  ·subst Vr;exact hD
  ·have h1:=Tu.1 h k (by rw[List.mem_range];omega);obtain ⟨j,hj,h2⟩:=Xav.1 h1;rw[List.mem_range] at hj;rw[Xan,Xaf] at h2;obtain ⟨h3,h4⟩:=h2;cases VX:l[j]? with
   |none=>rw[VX] at h4;cases h4
   |some oj=>
    rw[VX] at h4;have h5:k∈Q1v oj:=(by simpa using h4);have hDj:D j=false:=by
     cases hb:D j with
     |false=>rfl
     |true=>have:=C2 j oj VX hb k h5;rw[hD] at this;cases this
    exact ih (n-j) (by omega) j rfl (by omega) hDj
def Qvy (P:Program) (ops:Array Oper) (C:World->Prop) (V:Nat->Value->World->Prop) (a0:Act) (Fin:World->Prop):List Oper->Prop
 |[o]=>∀a w,C w->Q7q ops a0 a->(∀i∈Q1v o,V i (Q09 ops a i) w)->Q0n P (fun _ w'=>Fin w') ((execOp a.eval o).run P w)
 |_=>False
theorem Q23 {Q:Exit->Act->World->Prop} {id:Nat} {l:List Oper} {a0:Act} {w:World} (hm:P.follows .mixedOrders=true) (n:Nat) (hn:l.length=n+1) (C:World->Prop) (hC:∀w w',C w->Bw w w'->C w') (V:Nat->Value->World->Prop) (hV:∀i v w w',V i v w->Bw w w'->V i v w') (Fin:World->Prop)
 (hB:Q7r l a0.tmps.size=true) (hA:Qnu l n=true) (hG:(l.all fun o=>o.guard.isNone)=true) (hD:(l.zipIdx.all fun p=>p.1.dst.isSome || decide (p.2=n))=true) (h0:C w.drew)
 (step:Q3k P Qeo l.toArray C V a0 (l.take n) 0) (last:Qvy P l.toArray C V a0 Fin (l.drop n)) (fin:∀vs w,Fin w->Q .normal (Q0y vs l 0 a0) w):(Code.region id l.toArray true).wp P Q a0 w:=by
 have Q5:∀(k:Nat) (o:Oper),l[k]?=some o->∀y,Region.wanted o y=true:=fun k o ho y=>by
  have h1:=Tu.1 hG o (Uf ho);unfold Region.wanted;cases hg:o.guard with
  |none=>rfl
  |some g=>rw[hg] at h1;cases h1
 have E5:∀(D:Nat->Bool) (vs:Nat->Value) (i:Nat) (o:Oper) (v:Value) (w:World),l[i]?=some o->o.dst=none->(if D n=true then Fin w else (C w/\∀j,D j=true->V j (Q27 vs i v j) w))->(if D n=true then Fin w else (C w/\∀j,D j=true->V j (vs j) w)):=by
  intro D vs i o v w hi hd h;have o8:i=n:=by
   have hm:(o,i)∈l.zipIdx:=(by rw[TR];exact hi);have h1:=Tu.1 hD _ hm;simpa[hd] using h1
  subst o8
  split at h
  ·rename_i V7;rw[Us V7];exact h
  ·rename_i V7;rw[Up V7];refine ⟨h.1,fun j hj=>?_⟩;have:=h.2 j hj;unfold Q27 at this;rwa[Up (fun e=>by subst e;exact V7 hj)] at this
 have Y0:∀(k:Nat) (o:Oper),l[k]?=some o->Q6h P l.toArray (fun D vs w=>if D n=true then Fin w else (C w/\∀j,D j=true->V j (vs j) w)) a0 k o:=by
  intro k o ho a w D hI F0 hk q5 C2;have Vr:k<=n:=by have:=(Ul.1 ho).1;omega
  have V7:D n=false:=Qda hA (D:=D) (fun j oj hj=>C2 j oj (by simpa using hj)) _ k rfl Vr hk;have hDn':¬D n=true:=by rw[V7];decide
  simp only[V7] at hI;obtain ⟨ZO,KH⟩:=hI;have ZP:∀i∈Q1v o,V i (Q09 l.toArray a i) w:=fun i hi=>KH i (q5 i hi);refine ⟨Q5 k o ho _,?_⟩
  by_cases JM:k=n
  ·subst JM;have M6:l.drop k=[o]:=by
    rw[UG (by omega),UW (by omega)];rw[(Ul.1 ho).2]
   rw[M6] at last;have h1:=last a w ZO F0 ZP;have hK:∀u w',Fin w'->(if Q1z D k k=true then Fin w' else (C w'/\∀j,Q1z D k j=true->V j (Q27 (Q09 l.toArray a) k u j) w')):=fun u w' h=>by rw[Q3g,Us rfl];exact h
   revert h1
   generalize (execOp a.eval o).run P w=res;intro h1;cases res with
   |ok x w'=>
    cases x with
    |value u=>exact hK u w' h1
    |enter f args=>
     refine Xbd h1 ?_;rintro e w'' ⟨v,rfl,hf⟩;exact ⟨v,rfl,hK v w'' hf⟩
    |skip=>exact hK undef w' h1
    |_=>exact h1.elim
   |halt x w'=>exact h1.elim
  ·have J9:(l.take n)[k]?=some o:=(by rw[Tw,Us (by omega)];exact ho);have h1:=Q3k.at_ _ _ _ _ step J9;rw[UH] at h1;have h1:=h1 a w ZO F0 ZP;rw[Us (Q5 k o ho _)] at h1;have hK:∀u w',Bw w w'->V k u w'->(if Q1z D k n=true then Fin w' else (C w'/\∀j,Q1z D k j=true->V j (Q27 (Q09 l.toArray a) k u j) w')):=fun u w' hb hu=>by
    have e:Q1z D k n=false:=(by unfold Q1z;rw[Up (fun e=>JM e.symm)];exact V7);rw[e,Up (by decide)];refine ⟨hC _ _ ZO hb,fun j hj=>?_⟩;unfold Q27;unfold Q1z at hj
    by_cases y9:j=k
    ·subst y9;rw[Us rfl];exact hu
    ·rw[Up y9];rw[Up y9] at hj;exact hV _ _ _ _ (KH j hj) hb
   revert h1
   generalize (execOp a.eval o).run P w=res;intro h1;cases res with
   |ok x w'=>
    cases x with
    |value u=>exact hK u w' h1.1 h1.2
    |enter f args=>
     refine Xbd h1 ?_;rintro e w'' ⟨v,rfl,hb,hv⟩;exact ⟨v,rfl,hK v w'' hb hv⟩
    |skip=>exact hK undef w' h1.1 h1.2
    |_=>exact h1.elim
   |halt x w'=>exact h1.elim
 have QK:∀(r:List Oper) (k:Nat),(∀(i:Nat) o,r[i]?=some o->l[k+i]?=some o)->Q89 P l.toArray (fun D vs w=>if D n=true then Fin w else (C w/\∀j,D j=true->V j (vs j) w)) a0 r k:=by
  intro r
  induction r with
  |nil=>intro k _;trivial
  |cons o r ih=>
   intro k h;refine ⟨Y0 k o (by simpa using h 0 o rfl),ih (k+1) fun i o' Qf=>?_⟩;have:=h (i+1) o' (by simpa using Qf);rwa[show k+(i+1)=k+1+i by omega] at this
 refine Q31 hm (fun D vs w=>if D n=true then Fin w else (C w/\∀j,D j=true->V j (vs j) w)) (fun i o hi hd D vs v w h=>E5 D vs i o v w hi hd h) hB (fun vs=>?_) (QK l 0 fun i o h=>by rw[UH];exact h) (fun D vs w Y0 h=>?_)
 ·exact ⟨h0,fun j hj=>by cases hj⟩
 ·have V7:=Y0 n (by omega);simp only[V7,Xaz] at h;exact fin vs w h
end
end Go.Proofs.YtidojbkhlenahaaGreatDoor
namespace Go.Proofs.YtidojbkhlenahaaGreatDoor
open Go.RowKit WordsM
def Q7b (w:World) (u:Value) (D:Dyadic):Prop:=∃n a l c e v,u=.agg #[.bool n,.slice a l c,.int .i64 e]/\Q0r w a l c v/\Q4y n v e/\dy (sgn n v) e=D
theorem Q7b.step {w w':World} {u:Value} {D:Dyadic} (h:Q7b w u D) (hb:Bw w w'):Q7b w' u D:=by
 obtain ⟨n,a,l,c,e,v,rfl,h1,h2,h3⟩:=h;exact ⟨n,a,l,c,e,v,rfl,h1.step hb,h2,h3⟩
def Qnv (w:World) (D:Dyadic) (r:Ending) (w':World):Prop:=∃u,r=.returned u/\Q7b w' u D/\Bw w w'
theorem Q0r.box3 {w:World} {a:OA} {n c v r:Nat} {v0 v1 v2:Value} (h:Q0r w a n c v) (hN:Q03 w r v0 v1 v2) (h0:∀x:Nat,v0≠nv .u32 x) (h1:∀x:Nat,v1≠nv .u32 x) (h2:∀x:Nat,v2≠nv .u32 x) (u0 u1 u2:Value):
 Q0r (((w.setCell ⟨r,0,none⟩ u0).setCell ⟨r,1,none⟩ u1).setCell ⟨r,2,none⟩ u2) a n c v:=
 ⟨h.len,h.cap,h.most,(h.rd.store3 hN h0 h1 h2 u0 u1 u2).more (Q1i _ _ _ _ _)⟩
theorem Q0r.box {w:World} {a:OA} {n c v r:Nat} {b0:Bool} {a0:OA} {n0 c0:Nat} {e0:Int} (h:Q0r w a n c v) (hN:Q03 w r (.bool b0) (.slice a0 n0 c0) (.int .i64 e0)) (u0 u1 u2:Value):
 Q0r (((w.setCell ⟨r,0,none⟩ u0).setCell ⟨r,1,none⟩ u1).setCell ⟨r,2,none⟩ u2) a n c v:=
 h.box3 hN (fun _=>by simp[nv]) (fun _=>by simp[nv]) (fun _=>by simp[nv]) u0 u1 u2
theorem Q32 {P:Program} {Fin:World->Prop} {w':World} {res:Result Next} (hr:res=.ok .skip w') (h:Fin w'):Q0n P (fun _ w=>Fin w) res:=by rw[hr];exact h
def Q2s:List (Nat × (Value->World->Prop))->Nat->Option (Value->World->Prop)
 |[],_=>none
 |(i,φ)::r,x=>if x=i then some φ else Q2s r x
def Q24 (φ:Value->World->Prop):Prop:=∀v w w',φ v w->Bw w w'->φ v w'
theorem Q12:∀{l:List (Nat × (Value->World->Prop))},(∀p∈l,Q24 p.2)->∀i φ,Q2s l i=some φ->∀v w w',φ v w->Bw w w'->φ v w'
 |[],_,i,φ,h=>by cases h
 |(j,ψ)::r,hs,i,φ,h=>by
  unfold Q2s at h
  split at h
  ·injection h with h;subst h;exact hs (j,ψ) (by simp)
  ·exact Q12 (fun p hp=>hs p (by simp[hp])) i φ h
def SlD (k v:Nat) (u:Value) (w:World):Prop:=∃a n c,u=.slice a n c/\n<=k/\Q0r w a n c v
theorem SlD.stable (k v:Nat):Q24 (SlD k v):=fun u w w' h hb=>by
 obtain ⟨a,n,c,rfl,h1,h2⟩:=h;exact ⟨a,n,c,rfl,h1,h2.step hb⟩
theorem Q2c (D:Dyadic):Q24 (fun u w=>Q7b w u D):=fun _ _ _ h hb=>h.step hb
theorem Qyo {i:Nat} {φ:Value->World->Prop} (h:Q24 φ):∀p∈[(i,φ)],Q24 p.2:=fun p hp=>by rw[Ux] at hp;subst hp;exact h
theorem Qpp {i j:Nat} {φ ψ:Value->World->Prop} (h:Q24 φ) (h':Q24 ψ):∀p∈[(i,φ),(j,ψ)],Q24 p.2:=fun p hp=>by
 rcases Uy.1 hp with rfl|hp
 ·exact h
 ·exact Qyo h' p hp
theorem Qvz {i j k:Nat} {φ ψ χ:Value->World->Prop} (h:Q24 φ) (h':Q24 ψ) (h'':Q24 χ):∀p∈[(i,φ),(j,ψ),(k,χ)],Q24 p.2:=fun p hp=>by
 rcases Uy.1 hp with rfl|hp
 ·exact h
 ·exact Qpp h' h'' p hp
theorem Qyp {i j k l:Nat} {φ ψ χ ω:Value->World->Prop} (h:Q24 φ) (h':Q24 ψ) (h'':Q24 χ) (h3:Q24 ω):∀p∈[(i,φ),(j,ψ),(k,χ),(l,ω)],Q24 p.2:=fun p hp=>by
 rcases Uy.1 hp with rfl|hp
 ·exact h
 ·exact Qvz h' h'' h3 p hp
def J00 (w:World) (r:Nat) (D:Dyadic) (W:World):Prop:=∃n a l c e v,Q03 W r (.bool n) (.slice a l c) (.int .i64 e)/\Q0r W a l c v/\Q4y n v e/\dy (sgn n v) e=D/\Bw w W
theorem Q6i {w W:World} {r:Nat} {D:Dyadic} {b0:Bool} {a0:OA} {n0 c0:Nat} {e0:Int} (hr:w.heap.size<=r) (hb:Bw w W) (hN:Q03 W r (.bool b0) (.slice a0 n0 c0) (.int .i64 e0)) {n:Bool} {a:OA} {l c v:Nat} {e:Int} (hd:Q0r W a l c v) (hc:Q4y n v e) (hD:dy (sgn n v) e=D):
 J00 w r D (((W.setCell ⟨r,0,none⟩ (.bool n)).setCell ⟨r,1,none⟩ (.slice a l c)).setCell ⟨r,2,none⟩ (.int .i64 e)):=
 ⟨n,a,l,c,e,v,hN.store _ _ _,hd.box hN _ _ _,hc,hD,Q03.below hb hr _ _ _⟩
theorem Q0r.none_of {w:World} {a:OA} {n c v:Nat} (h:Q0r w a n c v) (h0:v=0):n=0:=by rw[<-h.len,h0,Q0z];rfl
theorem Q0r.zero_of {w:World} {a:OA} {n c v:Nat} (h:Q0r w a n c v) (h0:n=0):v=0:=(Q58 (B:=2^32) (by decide)).1 (UJ.1 (by rw[h.len,h0]))
theorem Qw0 {w:World} {a:OA} {n c v:Nat} (h:Q0r w a n c v):n<=9223372036854775807:=Un h.cap h.most
theorem Qdb {neg:Bool} {e:Int} {L:LN} (h:Q0a neg e L) (hl:Low (2^64) L):Q4y neg (val (2^64) L) e:=by
 rcases Q1t h hl with ⟨rfl,hn,he⟩|⟨_,ho,_⟩
 ·exact ⟨fun _=>⟨hn,he⟩,fun h=>absurd rfl h⟩
 ·exact ⟨fun e=>(by rw[e] at ho;cases ho),fun _=>ho⟩
theorem Qly {u v k:Nat} (h1:(dig (2^32) v).length<=k) (h2:(dig (2^32) u).length+1<=k+1):(dig (2^32) (v+u)).length<=k+1:=by
 have g1:=Q2z (B:=2^32) (by decide) (dig (2^32) v) (Q28 (by decide) v);have g2:=Q2z (B:=2^32) (by decide) (dig (2^32) u) (Q28 (by decide) u);rw[Q0v (by decide)] at g1 g2;have g3:=Uc g1 (UO (by decide:0<2^32) h1);have g4:=Uc g2 (UO (by decide:0<2^32) (by omega:(dig (2^32) u).length<=k));refine Q2q (by decide) ?_;rw[Tf];generalize (2^32)^k=K at*;omega
theorem Qdc (neg:Bool) {v:Nat} (e:Int) (h:v=0):dy (sgn neg v) e=0:=by subst h;rw[Q2u];exact Qah e
theorem Q9y {v k j:Nat} (h0:v≠0) (h:Q78 v k) (h':Q78 v j):k=j:=by
 have key:∀{a b:Nat},Q78 v a->Q78 v b->¬a<b:=fun {a b} h1 h2 E0=>by
  have h3:=(h2.2 h0).1;have h4:=h1.1;have h5:2^a<=2^(b-1):=UO (by decide) (by omega);omega
 have:=key h h';have:=key h' h;omega
theorem Qyq (x:Int) (w:World):Calls Tryz.prog 204 #[.int .i64 x] w fun e w'=>e=.returned (.bool false)/\w=w':=by
 go_enter Tryz.func204,Tryz.ntmps204
 go_wp2_with fail
 go_ret;exact ⟨by simp,rfl⟩
theorem Qt0 (x y:Int) (w:World):Calls Tryz.prog 148 #[.int .i64 x,.int .i64 y] w fun e w'=>e=.returned (.int .i64 (Lib.compareInt x y))/\w=w':=by
 have hn:=fun x=>Qyq x w
 by_cases h1:x<y
 ·go_enter Tryz.func148,Tryz.ntmps148
  go_wp2_with (refine (hn _).mono ?_;rintro e w1 ⟨rfl,rfl⟩)
  go_ret;exact ⟨by simp[Lib.compareInt,h1],rfl⟩
 ·by_cases h2:y<x
  ·go_enter Tryz.func148,Tryz.ntmps148
   go_wp2_with (refine (hn _).mono ?_;rintro e w1 ⟨rfl,rfl⟩)
   go_ret;exact ⟨by rw[Lib.compareInt,Up (by omega),Us (by omega)];rfl,rfl⟩
  ·go_enter Tryz.func148,Tryz.ntmps148
   go_wp2_with (refine (hn _).mono ?_;rintro e w1 ⟨rfl,rfl⟩)
   go_ret;exact ⟨by rw[Lib.compareInt,Up (by omega),Up (by omega)];rfl,rfl⟩
theorem Q5h (x y:Int):(Lib.compareInt x y<0↔x<y)/\(0<Lib.compareInt x y↔y<x):=by
 unfold Lib.compareInt
 split
 ·omega
 ·split <;> omega
theorem Qxp {Φ P:World->Prop} (W:World) (hW:Φ W) (h:∀U,Φ U->P U):P W:=h W hW
def WdE (v:Nat):Value->World->Prop:=fun u W=>∃a n c,u=.slice a n c/\WordsIn W a n c (dig (2^64) v)
theorem Qfp (v:Nat):Q24 (WdE v):=fun _ _ _ ⟨a,n,c,h1,h2⟩ hb=>⟨a,n,c,h1,h2.step hb⟩
def SgE (p q:Nat):Value->World->Prop:=fun u _=>∃r:Int,u=.int .i64 r/\(r<0↔p<q)/\(0<r↔q<p)/\-1<=r/\r<=1
theorem Q8a (p q:Nat):Q24 (SgE p q):=fun _ _ _ h _=>h
structure Qt1 (w W:World) (nx:Bool) (ex:Int) (ax:OA) (lx cx:Nat) (ls:LN) (ny:Bool) (ey:Int) (ay:OA) (ly cy:Nat) (ks:LN):Prop where
 x:Q03 W w.heap.size (.bool nx) (.int .i64 ex) (.slice ax lx cx)
 y:Q03 W (w.heap.size+1) (.bool ny) (.int .i64 ey) (.slice ay ly cy)
 wx:WordsIn W ax lx cx ls
 wy:WordsIn W ay ly cy ks
 lt:w.heap.size+1<W.heap.size
 bel:Bw w W
section
variable {w W W':World} {nx ny:Bool} {ex ey:Int} {ax ay:OA} {lx cx ly cy:Nat} {ls ks:LN}
theorem Qt1.step (h:Qt1 w W nx ex ax lx cx ls ny ey ay ly cy ks) (hb:Bw W W'):Qt1 w W' nx ex ax lx cx ls ny ey ay ly cy ks:=by
 have hl:=h.lt;exact ⟨h.x.step hb (by omega),h.y.step hb (by omega),h.wx.step hb,h.wy.step hb,Uc hl hb.size,Below.next0 h.bel hb⟩
theorem Qt1.new (h1:WordsIn w ax lx cx ls) (h2:WordsIn w ay ly cy ks) (T1 T2:TypeId):Qt1 w ((w.alloc (.cells #[.bool nx,.int .i64 ex,.slice ax lx cx] T1)).alloc (.cells #[.bool ny,.int .i64 ey,.slice ay ly cy] T2)) nx ex ax lx cx ls ny ey ay ly cy ks:=by
 obtain ⟨hs,hX,hY,hB⟩:=Q8g w (.bool nx) (.int .i64 ex) (.slice ax lx cx) (.bool ny) (.int .i64 ey) (.slice ay ly cy) T1 T2;exact ⟨hX,hY,h1.step hB,h2.step hB,by omega,hB⟩
end
theorem Qh0 (nx:Bool) (ex:Int) (ax:OA) (lx cx:Nat) (ls:LN) (ny:Bool) (ey:Int) (ay:OA) (ly cy:Nat) (ks:LN) (w:World) (h1:WordsIn w ax lx cx ls) (h2:WordsIn w ay ly cy ks) (hn:lx<=20000) (hm:ly<=20000) (XB: -1000000<=ex) (Q6:ex<=1000000) (Y3: -1000000<=ey) (A4:ey<=1000000) (v1:val (2^64) ls≠0) (v2:val (2^64) ks≠0):
 Calls Tryz.prog 98 #[.agg #[.bool nx,.int .i64 ex,.slice ax lx cx],.agg #[.bool ny,.int .i64 ey,.slice ay ly cy]] w fun r w'=>(∃s,r=.returned (.int .i64 s)/\Q77 s (dy (val (2^64) ls:Int) ex) (dy (val (2^64) ks:Int) ey)/\-1<=s/\s<=1)/\Bw w w':=by
 obtain ⟨W0,R1⟩:∃W0,(w.alloc (.cells #[.bool nx,.int .i64 ex,.slice ax lx cx] 26)).alloc (.cells #[.bool ny,.int .i64 ey,.slice ay ly cy] 26)=W0:=⟨_,rfl⟩;have hQ:Qt1 w W0 nx ex ax lx cx ls ny ey ay ly cy ks:=by rw[<-R1];exact Qt1.new h1 h2 _ _
 obtain ⟨p,hp,R7⟩:∃p,Q78 (val (2^64) ls) p/\p<=64*lx:=by
  have h3:=Uc (Q2z (B:=2^64) (by decide) ls h1.low) (Xbw (by rw[h1.len,<-TZ]));have h4:=Q4d (64*lx) _ h3;exact ⟨_,h4,Q4g _ _⟩
 obtain ⟨q,hq,VZ⟩:∃q,Q78 (val (2^64) ks) q/\q<=64*ly:=by
  have h3:=Uc (Q2z (B:=2^64) (by decide) ks h2.low) (Xbw (by rw[h2.len,<-TZ]));exact ⟨_,Q4d (64*ly) _ h3,Q4g _ _⟩
 have hbp:∀W,Bw W0 W->Calls Tryz.prog 145 #[.slice ax lx cx] W fun e w'=>e=.returned (.int .i64 (p:Int))/\Bw W w':=fun W hW=>(Qij ax lx cx ls W (hQ.step hW).wx (by omega)).mono (by
  rintro e w' ⟨⟨k,rfl,hk,_⟩,hb⟩;rw[Q9y v1 hk hp];exact ⟨rfl,hb⟩)
 have X7:∀W,Bw W0 W->Calls Tryz.prog 145 #[.slice ay ly cy] W fun e w'=>e=.returned (.int .i64 (q:Int))/\Bw W w':=fun W hW=>(Qij ay ly cy ks W (hQ.step hW).wy (by omega)).mono (by
  rintro e w' ⟨⟨k,rfl,hk,_⟩,hb⟩;rw[Q9y v2 hk hq];exact ⟨rfl,hb⟩)
 obtain ⟨P,hP⟩:∃P,(p:Int)+ex=P:=⟨_,rfl⟩;obtain ⟨Q,hQQ⟩:∃Q,(q:Int)+ey=Q:=⟨_,rfl⟩;have hwp:IntKind.i64.wrap ((p:Int)+ex)=P:=by rw[UN];omega
 have Xa:IntKind.i64.wrap ((q:Int)+ey)=Q:=by rw[UN];omega
 have HC:=Ub (fun W (hW:Bw W0 W)=>And.intro (hQ.step hW) (And.intro (hbp W hW) (X7 W hW)));have HV:=Xh6 hp hq v1 v2 hP hQQ;have HW:=Xh2 hwp Xa;clear hQ hbp X7 hp hq v1 v2 hP hQQ hwp Xa h1 h2
 go_enter Tryz.func98,Tryz.ntmps98
 go_upto_region 1 with fail
 clear R1;refine Q0l (E:=Qeo) (fun _=>Ug _ _) (by kernel_rfl) (fun W=>Bw W0 W) (fun _ _ h h'=>Below.next0 h h') (Q56 [.pointer (some ⟨w.heap.size,2,none⟩),.slice ax lx cx,.int .i64 (p:Int),.pointer (some ⟨w.heap.size,1,none⟩),.int .i64 ex,.int .i64 P,.pointer (some ⟨w.heap.size+1,2,none⟩),.slice ay ly cy,.int .i64 (q:Int),.pointer (some ⟨w.heap.size+1,1,none⟩),.int .i64 ey,.int .i64 Q,.int .i64 P,.int .i64 Q] (fun _=>none)) (Q0j (fun _ _ h=>by cases h)) (Q3l (by kernel_rfl)) (by kernel_rfl) (Q04 W0) ?_ ?_
 ·skip
  repeat' (first|exact Qet|refine Qes ?_ ?_)
  all_goals
   refine Q3i rfl fun A W hW F0 hd hd=>?_;simp[Qbq,Region.binds] at hd;have e2:=Q0d F0 2 (by kernel_rfl) rfl;have e3:=Q0d F0 3 (by kernel_rfl) rfl;have hc:=(HC.out W hW).1
   first
   |(refine Q1m rfl rfl ?_;simp[go_sem,hd,e2,e3,hc.x.c1,hc.x.c2,hc.y.c1,hc.y.c2,(Xo0 HW),(Xe1 HW)];done)
   |(refine Q8x rfl rfl ?_ (HC.out W hW).2.1;simp[go_sem,hd];done)
   |(refine Q8x rfl rfl ?_ (HC.out W hW).2.2;simp[go_sem,hd];done)
 intro vs W1 O2 D5;have e12:vs 12=.int .i64 P:=(Q0f rfl).1 (D5 12 (by decide));have e13:vs 13=.int .i64 Q:=(Q0f rfl).1 (D5 13 (by decide));simp only[Q0y,Act.put,Uu,UI,UF,e12,e13];have HB:=Ub O2;clear O2 D5 e12 e13
 by_cases Q0:P=Q
 case neg=>
  have hne':(P==Q)=false:=by rw[Uk];exact Q0
  have HN:=Ub Q0;clear Q0
  go_wp2_with (go_at_call 148;refine (Qt0 P Q _).mono ?_;rintro e w2 ⟨rfl,rfl⟩)
  go_ret;refine ⟨⟨_,rfl,?_,?_⟩,Below.next0 (HC.out W0 (Ug _ _)).1.bel HB.out⟩
  ·obtain ⟨hp,hq,v1,v2,hP,hQ⟩:=HV.out;have:=HN.out;exact Qpc hp hq v1 v2 (by omega) (by rw[hP,hQ];exact Q5h P Q)
  ·unfold Lib.compareInt;split
   ·decide
   ·split <;> decide
 case pos=>
 have hne':(P==Q)=true:=by rw[beq_iff_eq];exact Q0
 clear Q0;have O1:=(HC.out W1 HB.out).1;have x1:=O1.x.c1;have y1:=O1.y.c1;have HD:=Ub (fun W (hW:Bw W1 W)=>O1.step hW);clear O1
 by_cases hgt:ey<ex
 ·obtain ⟨z,hz⟩:∃z:Nat,ex=ey+z:=⟨(ex-ey).toNat,by omega⟩;have V8:IntKind.i64.wrap (ex-ey)=(z:Int):=by rw[UN];omega
  have Xs:∀W,Bw W1 W->Calls Tryz.prog 150 #[.slice ax lx cx,.int .i64 (z:Int)] W (Q9h W (val (2^64) ls*2^z)):=fun W hW=>Qd8 ax lx cx ls z W (HD.out W hW).wx (by omega) (by omega);obtain ⟨V,hV⟩:∃V,val (2^64) ls*2^z=V:=⟨_,rfl⟩;rw[hV] at Xs;have N0:64*(dig (2^64) V).length<=64*lx+z+63:=Qgz (by
   rw[<-hV,Tp];exact TL (by have:=Q88 (HD.out W1 (Ug _ _)).wx.low;rwa[(HD.out W1 (Ug _ _)).wx.len] at this) (Tr (by decide)))
  have HU:=Xh4 Xs hV hz N0;clear Xs hV hz N0
  go_upto_region 5 with fail
  refine Qxp (Φ:=fun U=>Bw W1 U) (P:=fun U=>Code.wp _ _ _ _ U) _ (Ug _ _) ?_;intro U hU;have HX:=Ub hU;clear hU x1 y1;refine Q0l (E:=Qeo) (fun _=>Ug _ _) (by kernel_rfl) (fun W=>Bw U W) (fun _ _ h h'=>Below.next0 h h') (Q56 [.pointer (some ⟨w.heap.size,2,none⟩),.slice ax lx cx,.pointer (some ⟨w.heap.size,1,none⟩),.int .i64 ex,.pointer (some ⟨w.heap.size+1,1,none⟩),.int .i64 ey,.int .i64 (z:Int),undef,.pointer (some ⟨w.heap.size+1,2,none⟩),.slice ay ly cy,undef,undef] (Q2s [(7,WdE V),(10,SgE V (val (2^64) ks)),(11,SgE V (val (2^64) ks))])) (Q0j (Q12 (Qvz (Qfp _) (Q8a _ _) (Q8a _ _)))) (Q3l (by kernel_rfl)) (by kernel_rfl) (Q04 U) ?_ ?_
  ·skip
   repeat' (first|exact Qet|refine Qes ?_ ?_)
   all_goals first
    |(refine Q3i rfl fun A W hW F0 hd hd=>?_
      simp[Qbq,Region.binds,Q2s] at hd;have e2:=Q0d F0 2 (by kernel_rfl) rfl;have e3:=Q0d F0 3 (by kernel_rfl) rfl;have hc:=HD.out W (Below.next0 HX.out hW);refine Q1m rfl rfl ?_;simp[go_sem,hd,e2,e3,hc.x.c1,hc.x.c2,hc.y.c1,hc.y.c2,V8]
      done)
    |skip
   ·intro A W hW F0 A0;have e31:=Q0s A0 1 (by decide) rfl rfl rfl;have e36:=Q0s A0 6 (by decide) rfl rfl rfl;refine Q02 rfl ?_;refine Q0u (f:=150) (args:= #[.slice ax lx cx,.int .i64 (z:Int)]) (by simp[go_sem,e31,e36]) (((Xo0 HU) W (Below.next0 HX.out hW)).mono ?_);rintro e w' ⟨a,n,c,rfl,hw,hb⟩;exact ⟨_,rfl,hb,(Q00 rfl).2 ⟨a,n,c,rfl,hw⟩⟩
   ·intro A W hW F0 A0;obtain ⟨a,n,c,ha,hw⟩:=(Q00 rfl).1 (A0 7 (by decide));have e37:=Q1w ha;have e39:=Q0s A0 9 (by decide) rfl rfl rfl;have hnl:n<=80000:=(by have h1:=hw.len;have h2:=(Xe3 HU);have h3:=(Xo2 HU);omega);refine Q02 rfl ?_;refine Q0u (f:=149) (args:= #[.slice a n c,.slice ay ly cy]) (by simp[go_sem,e37,e39]) ((Q8u a n c _ ay ly cy ks W hw (HD.out W (Below.next0 HX.out hW)).wy (by omega)).mono ?_);rintro e w' ⟨⟨r,rfl,h1,h2,h3⟩,hb⟩;rw[Q0v (by decide)] at h1 h2;exact ⟨_,rfl,hb,(Q00 rfl).2 ⟨r,rfl,h1,h2,h3⟩⟩
   ·intro A W hW F0 A0;obtain ⟨r,hr,h1⟩:=(Q00 rfl).1 (A0 10 (by decide));have e40:=Q1w hr;refine Q02 rfl ?_;refine Q70 (u:=.int .i64 r) (by simp[go_sem,e40]) ((Q00 rfl).2 ⟨r,rfl,h1⟩)
  intro vs W2 I4 D5;obtain ⟨r,hr,h3,h4⟩:=(Q00 rfl).1 (D5 11 (by decide));simp only[Q0y,Act.put,Uu,UI,UF,hr];have HR:=Xh3 I4 h3 h4;clear I4 D5 hr h3 h4
  go_wp2_with fail
  go_ret;refine ⟨⟨r,rfl,?_,(Xe3 HR)⟩,Below.next0 (Below.next0 (Below.next0 (HC.out W0 (Ug _ _)).1.bel HB.out) HX.out) (Xo0 HR)⟩;obtain ⟨h0,h3,h4,_⟩:=HR.out;rw[Q9s (Xo2 HU)];have hc:(val (2^64) ls:Int)*2^z=(V:Int):=by rw[<-(Xo1 HU)];simp
  rw[hc];omega
 ·obtain ⟨z,hz⟩:∃z:Nat,ey=ex+z:=⟨(ey-ex).toNat,by omega⟩;have V8:IntKind.i64.wrap (ey-ex)=(z:Int):=by rw[UN];omega
  have Xs:∀W,Bw W1 W->Calls Tryz.prog 150 #[.slice ay ly cy,.int .i64 (z:Int)] W (Q9h W (val (2^64) ks*2^z)):=fun W hW=>Qd8 ay ly cy ks z W (HD.out W hW).wy (by omega) (by omega);obtain ⟨V,hV⟩:∃V,val (2^64) ks*2^z=V:=⟨_,rfl⟩;rw[hV] at Xs;have HU:=Xh3 Xs hV hz;clear Xs hV hz
  go_upto_region 6 with fail
  refine Qxp (Φ:=fun U=>Bw W1 U) (P:=fun U=>Code.wp _ _ _ _ U) _ (Ug _ _) ?_;intro U hU;have HX:=Ub hU;clear hU x1 y1;refine Q0l (E:=Qeo) (fun _=>Ug _ _) (by kernel_rfl) (fun W=>Bw U W) (fun _ _ h h'=>Below.next0 h h') (Q56 [.pointer (some ⟨w.heap.size,2,none⟩),.slice ax lx cx,.pointer (some ⟨w.heap.size+1,2,none⟩),.slice ay ly cy,.pointer (some ⟨w.heap.size+1,1,none⟩),.int .i64 ey,.pointer (some ⟨w.heap.size,1,none⟩),.int .i64 ex,.int .i64 (z:Int),undef,undef,undef] (Q2s [(9,WdE V),(10,SgE (val (2^64) ls) V),(11,SgE (val (2^64) ls) V)])) (Q0j (Q12 (Qvz (Qfp _) (Q8a _ _) (Q8a _ _)))) (Q3l (by kernel_rfl)) (by kernel_rfl) (Q04 U) ?_ ?_
  ·skip
   repeat' (first|exact Qet|refine Qes ?_ ?_)
   all_goals first
    |(refine Q3i rfl fun A W hW F0 hd hd=>?_
      simp[Qbq,Region.binds,Q2s] at hd;have e2:=Q0d F0 2 (by kernel_rfl) rfl;have e3:=Q0d F0 3 (by kernel_rfl) rfl;have hc:=HD.out W (Below.next0 HX.out hW);refine Q1m rfl rfl ?_;simp[go_sem,hd,e2,e3,hc.x.c1,hc.x.c2,hc.y.c1,hc.y.c2,V8]
      done)
    |skip
   ·intro A W hW F0 A0;have e44:=Q0s A0 3 (by decide) rfl rfl rfl;have e49:=Q0s A0 8 (by decide) rfl rfl rfl;refine Q02 rfl ?_;refine Q0u (f:=150) (args:= #[.slice ay ly cy,.int .i64 (z:Int)]) (by simp[go_sem,e44,e49]) (((Xo0 HU) W (Below.next0 HX.out hW)).mono ?_);rintro e w' ⟨a,n,c,rfl,hw,hb⟩;exact ⟨_,rfl,hb,(Q00 rfl).2 ⟨a,n,c,rfl,hw⟩⟩
   ·intro A W hW F0 A0;obtain ⟨a,n,c,ha,hw⟩:=(Q00 rfl).1 (A0 9 (by decide));have e50:=Q1w ha;have e42:=Q0s A0 1 (by decide) rfl rfl rfl;refine Q02 rfl ?_;refine Q0u (f:=149) (args:= #[.slice ax lx cx,.slice a n c]) (by simp[go_sem,e42,e50]) ((Q8u ax lx cx ls a n c _ W (HD.out W (Below.next0 HX.out hW)).wx hw (by omega)).mono ?_);rintro e w' ⟨⟨r,rfl,h1,h2,h3⟩,hb⟩;rw[Q0v (by decide)] at h1 h2;exact ⟨_,rfl,hb,(Q00 rfl).2 ⟨r,rfl,h1,h2,h3⟩⟩
   ·intro A W hW F0 A0;obtain ⟨r,hr,h1⟩:=(Q00 rfl).1 (A0 10 (by decide));have e51:=Q1w hr;refine Q02 rfl ?_;refine Q70 (u:=.int .i64 r) (by simp[go_sem,e51]) ((Q00 rfl).2 ⟨r,rfl,h1⟩)
  intro vs W2 I4 D5;obtain ⟨r,hr,h3,h4⟩:=(Q00 rfl).1 (D5 11 (by decide));simp only[Q0y,Act.put,Uu,UI,UF,hr];have HR:=Xh3 I4 h3 h4;clear I4 D5 hr h3 h4
  go_wp2_with fail
  go_ret;refine ⟨⟨r,rfl,?_,(Xe3 HR)⟩,Below.next0 (Below.next0 (Below.next0 (HC.out W0 (Ug _ _)).1.bel HB.out) HX.out) (Xo0 HR)⟩;obtain ⟨h0,h3,h4,_⟩:=HR.out;rw[Q9t (Xe2 HU)];have hc:(val (2^64) ks:Int)*2^z=(V:Int):=by rw[<-(Xo1 HU)];simp
  rw[hc];generalize val (2^64) ls=u at*;omega
theorem Qdd {w:World} {n:Bool} {e:Int} {a:OA} {l c:Nat} {L:LN} (h:WordsIn w a l c L) (hi:Q0a n e L):l<=64/\-65536<=e/\e<=65536:=by
 have hl:=h.len;rcases Q1t hi h.low with ⟨h1,_,h3⟩|⟨_,_,h3,h4,h5,h6⟩
 ·subst h1;simp at hl;omega
 ·have:=Qcm h4;rw[<-h3] at this;omega
theorem Qba (nx:Bool) (ex:Int) (ax:OA) (lx cx:Nat) (ls:LN) (ny:Bool) (ey:Int) (ay:OA) (ly cy:Nat) (ks:LN) (w:World) (h1:WordsIn w ax lx cx ls) (h2:WordsIn w ay ly cy ks) (i1:Q0a nx ex ls) (i2:Q0a ny ey ks):
 Calls Tryz.prog 55 #[.agg #[.bool nx,.int .i64 ex,.slice ax lx cx],.agg #[.bool ny,.int .i64 ey,.slice ay ly cy]] w fun r w'=>(∃s,r=.returned (.int .i64 s)/\Q77 s (Q1p nx ex ls) (Q1p ny ey ks))/\Bw w w':=by
 obtain ⟨b1,b2,b3⟩:=Qdd h1 i1;obtain ⟨b4,b5,b6⟩:=Qdd h2 i2;unfold Q1p;obtain ⟨W0,R1⟩:∃W0,(w.alloc (.cells #[.bool nx,.int .i64 ex,.slice ax lx cx] 26)).alloc (.cells #[.bool ny,.int .i64 ey,.slice ay ly cy] 26)=W0:=⟨_,rfl⟩;have hQ:Qt1 w W0 nx ex ax lx cx ls ny ey ay ly cy ks:=by rw[<-R1];exact Qt1.new h1 h2 _ _
 obtain ⟨sx,R9⟩:∃sx,Qap nx (val (2^64) ls)=sx:=⟨_,rfl⟩;obtain ⟨sy,Qg⟩:∃sy,Qap ny (val (2^64) ks)=sy:=⟨_,rfl⟩;have hgx:∀W,Bw W0 W->Calls Tryz.prog 95 #[.agg #[.bool nx,.int .i64 ex,.slice ax lx cx]] W fun e w'=>e=.returned (.int .i64 sx)/\Bw W w':=fun W hW=>by
  have h:=Q3v nx ex ax lx cx ls W (hQ.step hW).wx (by omega);rw[<-R9];exact h
 have hgy:∀W,Bw W0 W->Calls Tryz.prog 95 #[.agg #[.bool ny,.int .i64 ey,.slice ay ly cy]] W fun e w'=>e=.returned (.int .i64 sy)/\Bw W w':=fun W hW=>by
  have h:=Q3v ny ey ay ly cy ks W (hQ.step hW).wy (by omega);rw[<-Qg];exact h
 have HC:=Ub (fun W (hW:Bw W0 W)=>And.intro (hQ.step hW) (And.intro (hgx W hW) (hgy W hW)));have HS:=Xh2 R9 Qg;clear hQ hgx hgy h1 h2 R9 Qg i1 i2
 go_enter Tryz.func55,Tryz.ntmps55
 go_upto_region 1 with fail
 clear R1;refine Q0l (E:=Qeo) (fun _=>Ug _ _) (by kernel_rfl) (fun W=>Bw W0 W) (fun _ _ h h'=>Below.next0 h h') (Q56 [.agg #[.bool nx,.int .i64 ex,.slice ax lx cx],.int .i64 sx,.agg #[.bool ny,.int .i64 ey,.slice ay ly cy],.int .i64 sy,.int .i64 sx,.int .i64 sy] (fun _=>none)) (Q0j (fun _ _ h=>by cases h)) (Q3l (by kernel_rfl)) (by kernel_rfl) (Q04 W0) ?_ ?_
 ·skip
  repeat' (first|exact Qet|refine Qes ?_ ?_)
  all_goals
   refine Q3i rfl fun A W hW F0 hd hd=>?_;simp[Qbq,Region.binds] at hd;have e2:=Q0d F0 2 (by kernel_rfl) rfl;have e3:=Q0d F0 3 (by kernel_rfl) rfl;have hc:=(HC.out W hW).1
   first
   |(refine Q1m rfl rfl ?_;simp[go_sem,hd,e2,e3,hc.x.c0,hc.x.c1,hc.x.c2,hc.y.c0,hc.y.c1,hc.y.c2];done)
   |(refine Q8x rfl rfl ?_ (HC.out W hW).2.1;simp[go_sem,hd];done)
   |(refine Q8x rfl rfl ?_ (HC.out W hW).2.2;simp[go_sem,hd];done)
 intro vs W1 O2 D5;have e4:vs 4=.int .i64 sx:=(Q0f rfl).1 (D5 4 (by decide));have e5:vs 5=.int .i64 sy:=(Q0f rfl).1 (D5 5 (by decide));simp only[Q0y,Act.put,Uu,UI,UF,e4,e5];have HB:=Ub O2;clear O2 D5 e4 e5;have J3:=fun W=>Tryz.J2n sx sy W
 by_cases Q0:sx=sy
 case neg=>
  have hne':(sx==sy)=false:=by rw[Uk];exact Q0
  have HN:=Ub Q0;clear Q0
  go_wp2_with (go_at_call 97;refine (J3 _).mono ?_;rintro e w2 ⟨rfl,D6⟩;obtain rfl:=D6.symm)
  go_ret;refine ⟨⟨_,rfl,?_⟩,Below.next0 (HC.out W0 (Ug _ _)).1.bel HB.out⟩;obtain ⟨R9,Qg⟩:=HS.out;refine Qfj (.inl (by rw[R9,Qg];exact HN.out)) ?_;rw[R9,Qg];exact Q5h sx sy
 case pos=>
 subst Q0
 by_cases h0:sx=0
 ·subst h0
  go_wp2_with (go_at_call 97;refine (J3 _).mono ?_;rintro e w2 ⟨rfl,D6⟩;obtain rfl:=D6.symm)
  go_ret;refine ⟨⟨_,rfl,?_⟩,Below.next0 (HC.out W0 (Ug _ _)).1.bel HB.out⟩;obtain ⟨R9,Qg⟩:=HS.out;refine Qfj (.inr R9) ?_;rw[R9,Qg];exact Q5h 0 0
 ·have h0':(sx==0)=false:=by rw[Uk];exact h0
  have S7:nx=ny/\val (2^64) ls≠0/\val (2^64) ks≠0/\sx=Qap nx 1/\(sx=1∨sx= -1):=by
   obtain ⟨R9,Qg⟩:=HS.out;unfold Qap at*
   by_cases z1:val (2^64) ls=0
   ·rw[Us z1] at R9;exact absurd R9.symm h0
   ·by_cases z2:val (2^64) ks=0
    ·rw[Us z2] at Qg;exact absurd Qg.symm h0
    ·rw[Up z1] at R9;rw[Up z2] at Qg;refine ⟨?_,z1,z2,?_⟩
     ·cases nx <;> cases ny <;> simp at R9 Qg <;> first|rfl|omega
     ·rw[Up (by decide),R9];refine ⟨rfl,?_⟩;rw[<-R9];split
      ·exact .inr rfl
      ·exact .inl rfl
  have O1:=(HC.out W1 HB.out).1;have x0:=O1.x.c0;have x1:=O1.x.c1;have x2:=O1.x.c2;have y0:=O1.y.c0;have y1:=O1.y.c1;have y2:=O1.y.c2;have A2:=Qh0 nx ex ax lx cx ls ny ey ay ly cy ks W1 O1.wx O1.wy (by omega) (by omega) (by omega) (by omega) (by omega) (by omega) S7.2.1 S7.2.2.1;have HZ:=Xh2 A2 S7;clear O1 A2 S7 h0
  go_wp2_with (go_at_call 98;refine (Xo0 HZ).mono ?_;rintro e w2 ⟨⟨s,rfl,hs,A3,X5⟩,D0⟩;have KG:wrap64 (sx*s)=sx*s:=(by unfold wrap64;rcases (Xe5 HZ) with h|h <;> rw[h] <;> omega);have hws2:IntKind.i64.wrap (sx*s)=sx*s:=(by rw[UN];rcases (Xe5 HZ) with h|h <;> rw[h] <;> omega);have H2:=Xh2 hs D0;clear hs D0)
  go_ret;refine ⟨⟨_,rfl,?_⟩,Below.next0 (Below.next0 (HC.out W0 (Ug _ _)).1.bel HB.out) (Xe1 H2)⟩;obtain ⟨_,rfl,_,_,p5,_⟩:=HZ.out;exact Qsg (Xo0 H2) (by rw[p5])
def RdZ (w:World) (B:Nat) (a:OA) (E:List Int):Prop:=
 E=[]∨∃b o,a=some ⟨b,o,none⟩/\b<B/\∀(j:Nat) x,E[j]?=some x->w.cell? ⟨b,o+j,none⟩=some (.int .i64 x)
section
variable {w w':World} {B B':Nat} {a:OA} {E:List Int}
theorem RdZ.keep (h:RdZ w B a E) (hk:∀p:Addr,p.block<B->w'.cell? p=w.cell? p):RdZ w' B a E:=by
 rcases h with rfl|⟨b,o,rfl,hb,hc⟩
 ·exact .inl rfl
 ·exact .inr ⟨b,o,rfl,hb,fun j x hx=>(hk _ hb).trans (hc j x hx)⟩
theorem RdZ.more (h:RdZ w B a E) (hB:B<=B'):RdZ w B' a E:=by
 rcases h with rfl|⟨b,o,rfl,hb,hc⟩
 ·exact .inl rfl
 ·exact .inr ⟨b,o,rfl,by omega,hc⟩
theorem RdZ.below (h:RdZ w B a E) (hb:Below B w w'):RdZ w' B a E:=h.keep fun _ hp=>hb.cell hp
theorem RdZ.at_ {k:Nat} {x:Int} (h:RdZ w B a E) (hx:E[k]?=some x):∃b o,a=some ⟨b,o,none⟩/\b<B/\w.cell? ⟨b,o+k,none⟩=some (.int .i64 x):=by
 rcases h with rfl|⟨b,o,rfl,hb,hc⟩
 ·simp at hx
 ·exact ⟨b,o,rfl,hb,hc k x hx⟩
end
def J1k (a:OA) (E:List Int):Prop:=(∀x∈E,-9223372036854775808<=x/\x<=9223372036854775807)/\∀b o,a=some ⟨b,o,none⟩->o=0
theorem J1k.new {b:Nat} {E:List Int} (h:∀x∈E,-9223372036854775808<=x/\x<=9223372036854775807):J1k (some ⟨b,0,none⟩) E:=⟨h,fun _ _ e=>by cases e;rfl⟩
structure Q0g (w:World) (a:OA) (n c:Nat) (E:List Int):Prop where
 len:E.length=n
 cap:n<=c
 most:c<=9223372036854775807
 rng:J1k a E
 rd:RdZ w w.heap.size a E
theorem Q0g.step {w w':World} {a:OA} {n c:Nat} {E:List Int} (h:Q0g w a n c E) (hb:Bw w w'):Q0g w' a n c E:=⟨h.len,h.cap,h.most,h.rng,(h.rd.below hb).more hb.size⟩
structure Q34 (w:World) (b:Nat) (v0 v1 v2 v3:Value):Prop where
 c0:w.cell? ⟨b,0,none⟩=some v0
 c1:w.cell? ⟨b,1,none⟩=some v1
 c2:w.cell? ⟨b,2,none⟩=some v2
 c3:w.cell? ⟨b,3,none⟩=some v3
 f0:w.frozen? ⟨b,0,none⟩=false
 f1:w.frozen? ⟨b,1,none⟩=false
 f2:w.frozen? ⟨b,2,none⟩=false
 f3:w.frozen? ⟨b,3,none⟩=false
theorem Q34.cc {w:World} {b:Nat} {v0 v1 v2 v3:Value} (h:Q34 w b v0 v1 v2 v3):w.cell? ⟨b,0,none⟩=some v0/\w.cell? ⟨b,1,none⟩=some v1/\w.cell? ⟨b,2,none⟩=some v2:=⟨h.c0,h.c1,h.c2⟩
theorem Q34.cf {w:World} {b:Nat} {v0 v1 v2 v3:Value} (h:Q34 w b v0 v1 v2 v3):w.cell? ⟨b,0,none⟩=some v0/\w.cell? ⟨b,1,none⟩=some v1/\w.cell? ⟨b,2,none⟩=some v2/\w.frozen? ⟨b,0,none⟩=false/\w.frozen? ⟨b,1,none⟩=false/\w.frozen? ⟨b,2,none⟩=false:=⟨h.c0,h.c1,h.c2,h.f0,h.f1,h.f2⟩
theorem Q34.new (w:World) (v0 v1 v2 v3:Value) (T:TypeId):Q34 (w.alloc (.cells #[v0,v1,v2,v3] T)) w.heap.size v0 v1 v2 v3:=
 ⟨by rw[Uv _ _ _ _ _ _ (Um _ _)];rfl,by rw[Uv _ _ _ _ _ _ (Um _ _)];rfl,by rw[Uv _ _ _ _ _ _ (Um _ _)];rfl,by rw[Uv _ _ _ _ _ _ (Um _ _)];rfl,
   TC _ _ _ _ _ (Um _ _),TC _ _ _ _ _ (Um _ _),TC _ _ _ _ _ (Um _ _),TC _ _ _ _ _ (Um _ _)⟩
theorem Q34.step {w w':World} {b B:Nat} {v0 v1 v2 v3:Value} (h:Q34 w b v0 v1 v2 v3) (hb:Below B w w') (hB:b<B):Q34 w' b v0 v1 v2 v3:=
 ⟨(hb.cell (p:=⟨b,0,none⟩) hB).trans h.c0,(hb.cell (p:=⟨b,1,none⟩) hB).trans h.c1,(hb.cell (p:=⟨b,2,none⟩) hB).trans h.c2,(hb.cell (p:=⟨b,3,none⟩) hB).trans h.c3,(hb.frozen (p:=⟨b,0,none⟩) hB).trans h.f0,(hb.frozen (p:=⟨b,1,none⟩) hB).trans h.f1,(hb.frozen (p:=⟨b,2,none⟩) hB).trans h.f2,(hb.frozen (p:=⟨b,3,none⟩) hB).trans h.f3⟩
theorem Qh1 {E:List Int} {i:Nat} {x:Int} (h:E[i]?=some x):(E.take (i+1)).sum=(E.take i).sum+x:=by
 rw[Tc,h,List.sum_append];simp
theorem Qde {E:List Int} {i:Nat} {x:Int} (h:x∈E.take i):∃j,j<i/\E[j]?=some x:=by
 obtain ⟨j,hj⟩:=UV.1 h;rw[Tw] at hj
 split at hj
 ·exact ⟨j,by assumption,hj⟩
 ·cases hj
theorem Qnw (n:Bool) (e:Int) (a:OA) (l c:Nat) (L:LN) (b:OA) (m d:Nat) (E:List Int) (k:Nat) (w:World) (h:WordsIn w a l c L) (hE:Q0g w b m d E) (hk:k<=9223372036854775807) (he: -9223372036854775808<=e) (Q6:e<=9223372036854775807):
 Calls Tryz.prog 92 #[.agg #[.bool n,.int .i64 e,.slice a l c,.slice b m d],.int .i64 (k:Int)] w fun r w'=>r=.returned (.bool (decide (Q0x k E/\Q0a n e L)))/\Bw w w':=by
 obtain ⟨rs,KN⟩:∃rs,decide (Q0x k E/\Q0a n e L)=rs:=⟨_,rfl⟩;rw[KN];have Va:=Ub KN;clear KN;have C0:Bw w (w.alloc (.cells #[.bool n,.int .i64 e,.slice a l c,.slice b m d] 98)):=Ba;have hX:=Q34.new w (.bool n) (.int .i64 e) (.slice a l c) (.slice b m d) 98;have E0:=Q0h w (.cells #[.bool n,.int .i64 e,.slice a l c,.slice b m d] 98);generalize hW:w.alloc (.cells #[.bool n,.int .i64 e,.slice a l c,.slice b m d] 98)=W at C0 hX E0;obtain ⟨m5,R4,Z3⟩:=hX.cc;have KC:=hX.c3;have G3:=hE.len;subst G3;have Qx:=Q11 n e a l c L W (h.step C0) he Q6 (by have:=h.cap;have:=h.most;omega);have i9:=hE.rd.below C0;have J3:=Un hE.cap hE.most;have HC:=Xh4 Qx i9 C0 hE.rng.1;clear C0 hX E0 Qx i9 h hE
 go_enter Tryz.func92,Tryz.ntmps92
 go_wp2_with fail
 go_loopw [5,11] (fun lv iv wr=>∃(i:Nat) (s:Int),lv=.int .i64 (8-s)/\iv=.int .i64 (i:Int)/\i<=E.length/\(E.take i).sum=s/\0<=s/\s<=8/\(∀x∈E.take i,0<=x)/\W=wr) (fun _ iv _=>E.length-(intOf iv).toNat)
 case atStart=>exact ⟨0,0,rfl,rfl,Ut _,by simp,by decide,by decide,by simp,rfl⟩
 case round=>
  obtain ⟨i,s,rfl,rfl,hi,hs,Xr,Vk,O6,rfl⟩:=hrel
  by_cases E0:i<E.length
  ·have J0:(i:Int)<(E.length:Int):=(by omega);obtain ⟨x,hx⟩:∃x,E[i]?=some x:=⟨_,Ua E0⟩;obtain ⟨ba,oa,U5,J1,u5⟩:=(Xo1 HC).at_ hx;subst U5;have hxr:=(Xe3 HC) x (Uf hx);have ZV:=Qh1 hx;have HS:=Xh4 hs ZV O6 hx;clear hs ZV O6 hx
   by_cases hx0':x<0
   ·go_wp2_with fail
    go_ret;have E5:¬(Q0x k E/\Q0a n e L):=fun h=>by
     have:=h.1.2.1 x (Uf (Xe3 HS));omega
    have hf:rs=false:=(by rw[<-Va.out];exact Ta E5);exact ⟨by rw[hf];rfl,(Xo2 HC)⟩
   ·by_cases hx8:8-s<x
    ·go_wp2_with fail
     go_ret;have E5:¬(Q0x k E/\Q0a n e L):=fun h=>by
      have h1:=(Qc0 h.1.2.1 (i+1)).2;have h2:=h.1.2.2;have h3:=(Xo0 HS);have h4:=(Xo1 HS);omega
     have hf:rs=false:=(by rw[<-Va.out];exact Ta E5);exact ⟨by rw[hf];rfl,(Xo2 HC)⟩
    ·go_wp2_with fail
     refine ⟨⟨i+1,s+x,by simp only[Xbc,true_and];omega,by simp,by omega,by rw[(Xo1 HS),(Xo0 HS)],by omega,by omega,fun y hy=>?_,trivial⟩,by simp only[intOf];omega⟩;obtain ⟨j,hj,hjy⟩:=Qde hy
     by_cases hji:j=i
     ·subst hji;have h5:=(Xe3 HS);rw[hjy] at h5;injection h5 with h5;omega
     ·exact (Xo2 HS) y (UV.2 ⟨j,by rw[Tw,Us (by omega)];exact hjy⟩)
  ·obtain rfl:i=E.length:=(by omega);have J0:¬((E.length:Int)<(E.length:Int)):=(by omega);rw[Tn] at hs O6
   by_cases o5:E.length=k
   ·subst o5;have KA:Q0x E.length E:=⟨rfl,O6,by omega⟩;have hee:((E.length:Int)==(E.length:Int))=true:=(by simp);have HS:=Ub KA;clear KA hs O6
    go_wp2_with (refine (Xo0 HC).mono ?_;rintro r w1 ⟨rfl,C0⟩;have HA:=Ub C0;clear C0)
    go_ret;refine ⟨?_,Below.next0 (Xo2 HC) HA.out⟩;have Zj:(Q0x E.length E/\Q0a n e L)↔Q0a n e L:=⟨fun h=>h.2,fun h=>⟨HS.out,h⟩⟩;have hf:rs=decide (Q0a n e L):=(by rw[<-Va.out];exact decide_eq_decide.2 Zj);rw[hf];rfl
   ·have hke:((E.length:Int)==(k:Int))=false:=(by rw[Uk];omega);have HS:=Ub o5;clear hs O6 o5
    go_wp2_with fail
    go_ret;have E5:¬(Q0x k E/\Q0a n e L):=fun h=>HS.out h.1.1;have hf:rs=false:=(by rw[<-Va.out];exact Ta E5);exact ⟨by rw[hf];rfl,(Xo2 HC)⟩
theorem Qnx {E F:List Int} {i:Nat} {x y:Int} (hx:E[i]?=some x) (hy:F[i]?=some y):Q3j (E.drop i) (F.drop i)=if x<y then -1 else if y<x then 1 else Q3j (E.drop (i+1)) (F.drop (i+1)):=by
 rw[Q7y E i x hx,Q7y F i y hy];rfl
theorem Qdf (a:OA) (n c:Nat) (E:List Int) (b:OA) (m d:Nat) (F:List Int) (w:World) (h1:Q0g w a n c E) (h2:Q0g w b m d F):
 Calls Tryz.prog 143 #[.slice a n c,.slice b m d] w fun r w'=>r=.returned (.int .i64 (Q3j E F))/\w'=w:=by
 have A8:=h1.len;have i7:=h2.len;subst A8;subst i7;have O1:=Un h1.cap h1.most;have E1:=Un h2.cap h2.most;have J3:=fun x y W=>Tryz.J2n x y W;have HC:=Xh5 h1.rd h2.rd h1.rng.1 h2.rng.1 J3;clear h1 h2 J3;obtain ⟨V,hV⟩:∃V,Q3j E F=V:=⟨_,rfl⟩;rw[hV];have HV:=Ub hV;clear hV
 go_enter Tryz.func143,Tryz.ntmps143
 go_wp2_with fail
 go_loopw [11] (fun iv wr=>∃i:Nat,iv=.int .i64 (i:Int)/\i<=E.length/\i<=F.length/\Q3j (E.drop i) (F.drop i)=V/\w=wr) (fun iv _=>E.length-(intOf iv).toNat)
 case atStart=>exact ⟨0,rfl,Ut _,Ut _,HV.out,rfl⟩
 case round=>
  obtain ⟨i,rfl,hi,hi2,C5,rfl⟩:=hrel
  by_cases E0:i<E.length
  ·have J0:(i:Int)<(E.length:Int):=(by omega);obtain ⟨x,hx⟩:∃x,E[i]?=some x:=⟨_,Ua E0⟩;obtain ⟨ba,oa,U5,J1,u5⟩:=(Xo0 HC).at_ hx;subst U5
   by_cases Zm:i<F.length
   ·have Kz:¬(F.length:Int)<=(i:Int):=(by omega);obtain ⟨y,hy⟩:∃y,F[i]?=some y:=⟨_,Ua Zm⟩;obtain ⟨bb,ob,t6,E4,K9⟩:=(Xo1 HC).at_ hy;subst t6;have Vj:=Qnx hx hy;rw[C5] at Vj;have hxr:=(Xo2 HC) x (Uf hx);have hyr:=(Xo3 HC) y (Uf hy);obtain ⟨v,hv⟩:∃v,Lib.compareInt x y=v:=⟨_,rfl⟩;have X3:=(Xe4 HC) x y w;rw[hv] at X3;have hvv:v=if x<y then -1 else if y<x then 1 else 0:=by rw[<-hv];rfl
    have HH:=Xh3 X3 hvv Vj;clear X3 hvv Vj hv hx hy C5
    by_cases x7:v=0
    ·subst x7;have Kc:¬x<y/\¬y<x:=by
      have h3:=(Xo1 HH)
      constructor
      ·intro h;rw[Us h] at h3;omega
      ·intro h;rw[Up (by omega),Us h] at h3;omega
     have HX:=Ub Kc;clear Kc
     go_wp2_with (refine (Xo0 HH).mono ?_;rintro r w1 ⟨rfl,rfl⟩)
     refine ⟨⟨i+1,by simp,by omega,by omega,?_,trivial⟩,by simp only[intOf];omega⟩;have h4:=(Xe2 HH);rw[Up (Int.not_lt.2 (Xo0 HX)),Up (Int.not_lt.2 (Xe1 HX))] at h4;exact h4.symm
    ·have hvb:(v==0)=false:=(by rw[Uk];exact x7);have hVv:V=v:=by
      have h3:=(Xo1 HH);have h4:=(Xe2 HH)
      by_cases q1:x<y
      ·rw[Us q1] at h3 h4;omega
      ·rw[Up q1] at h3 h4
       by_cases q2:y<x
       ·rw[Us q2] at h3 h4;omega
       ·rw[Up q2] at h3;exact absurd h3 x7
     have HVV:=Ub hVv;clear hVv
     go_wp2_with (refine (Xo0 HH).mono ?_;rintro r w1 ⟨rfl,rfl⟩)
     go_ret;exact ⟨by rw[HVV.out];rfl,rfl⟩
   ·have Kz:(F.length:Int)<=(i:Int):=(by omega);have O5:V=1:=by
     rw[<-C5,Q7y E i x hx,UW (l:=F) (show F.length<=i by omega)];rfl
    subst O5;clear C5 hx
    go_wp2_with fail
    go_ret;exact ⟨rfl,rfl⟩
  ·obtain rfl:i=E.length:=(by omega);have J0:¬((E.length:Int)<(E.length:Int)):=(by omega);rw[UW (Ue _)] at C5
   by_cases Zm:E.length<F.length
   ·have Kz:(E.length:Int)<(F.length:Int):=(by omega);obtain ⟨y,hy⟩:∃y,F[E.length]?=some y:=⟨_,Ua Zm⟩;have O5:V= -1:=(by rw[<-C5,Q7y F _ y hy];rfl);subst O5;clear C5 hy
    go_wp2_with fail
    go_ret;exact ⟨rfl,rfl⟩
   ·have Kz:¬(E.length:Int)<(F.length:Int):=(by omega);have O5:V=0:=(by rw[<-C5,UW (by omega)];rfl);subst O5;clear C5
    go_wp2_with fail
    go_ret;exact ⟨rfl,rfl⟩
theorem Qt2 (u0 u1 u2:Value) (a:OA) (n c:Nat) (E:List Int) (v0 v1 v2:Value) (b:OA) (m d:Nat) (F:List Int) (w:World) (h1:Q0g w a n c E) (h2:Q0g w b m d F):
 Calls Tryz.prog 93 #[.agg #[u0,u1,u2,.slice a n c],.agg #[v0,v1,v2,.slice b m d]] w fun r w'=>r=.returned (.int .i64 (Q3j F E))/\Bw w w':=by
 have C0:Bw w (w.alloc (.cells #[u0,u1,u2,.slice a n c] 98)):=Ba;have A3:(w.alloc (.cells #[u0,u1,u2,.slice a n c] 98)).heap.size=w.heap.size+1:=Ui _ _;have D0:Below (w.alloc (.cells #[u0,u1,u2,.slice a n c] 98)).heap.size (w.alloc (.cells #[u0,u1,u2,.slice a n c] 98)) ((w.alloc (.cells #[u0,u1,u2,.slice a n c] 98)).alloc (.cells #[v0,v1,v2,.slice b m d] 98)):=Ba;have hX:=(Q34.new w u0 u1 u2 (.slice a n c) 98).step D0 (Q0h _ _);have hY:=Q34.new (w.alloc (.cells #[u0,u1,u2,.slice a n c] 98)) v0 v1 v2 (.slice b m d) 98;rw[A3] at hY;have hB:=Below.next0 C0 D0;generalize hW:(w.alloc (.cells #[u0,u1,u2,.slice a n c] 98)).alloc (.cells #[v0,v1,v2,.slice b m d] 98)=W at hX hY hB;have KC:=hX.c3;have hy3:=hY.c3;have J3:=Qdf b m d F a n c E W (h2.step hB) (h1.step hB);have HC:=Xh2 J3 hB;clear C0 A3 D0 hX hY hB J3 h1 h2
 go_enter Tryz.func93,Tryz.ntmps93
 go_wp2_with (refine (Xo0 HC).mono ?_;rintro r w1 ⟨rfl,rfl⟩)
 go_ret;exact ⟨rfl,(Xe1 HC)⟩
end Go.Proofs.YtidojbkhlenahaaGreatDoor
