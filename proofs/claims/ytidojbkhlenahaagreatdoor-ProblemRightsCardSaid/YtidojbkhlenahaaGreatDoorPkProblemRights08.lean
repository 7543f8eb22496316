/- Part 8. No condition. -/
import Derived.Test.YtidojbkhlenahaaGreatDoorPkProblemRights07
set_option maxRecDepth 100000
set_option maxHeartbeats 16000000
namespace Go.Proofs.YtidojbkhlenahaaGreatDoor
open Go.RowKit WordsM
theorem RdI.store1 {K:IntKind} {w:World} {B:Nat} {a:OA} {ls:LN} (h:RdI K w B a ls) {p:Addr} {v:Value} (hp:w.cell? p=some v) (hv:∀x:Nat,v≠nv K x) (u:Value):RdI K (w.setCell p u) B a ls:=by
 rcases h with rfl|⟨g,o,rfl,hg,hc⟩
 ·exact .inl rfl
 ·refine .inr ⟨g,o,rfl,hg,fun j x hx=>?_⟩;have h1:=hc j x hx;rw[Ud _ _ _ _ (fun e=>?_)]
  ·exact h1
  ·rw[e] at hp;rw[hp] at h1;injection h1 with h1;exact hv x h1
theorem WordsIn.set1 {w:World} {a:OA} {n c:Nat} {L:LN} (h:WordsIn w a n c L) {p:Addr} {v:Value} (hp:w.cell? p=some v) (hv:∀x:Nat,v≠nv .u64 x) (u:Value):WordsIn (w.setCell p u) a n c L:=
 ⟨h.len,h.cap,h.most,h.low,(h.rd.store1 hp hv u).more (by rw[Tj];omega)⟩
theorem WordsIn.set3 {w:World} {a:OA} {n c b:Nat} {L:LN} {b0:Bool} {e0:Int} {a0:OA} {n0 c0:Nat} (h:WordsIn w a n c L) (hN:Q03 w b (.bool b0) (.int .i64 e0) (.slice a0 n0 c0)) (u0 u1 u2:Value):
 WordsIn (((w.setCell ⟨b,0,none⟩ u0).setCell ⟨b,1,none⟩ u1).setCell ⟨b,2,none⟩ u2) a n c L:=
 ⟨h.len,h.cap,h.most,h.low,(h.rd.store3 hN (fun _=>by simp[nv]) (fun _=>by simp[nv]) (fun _=>by simp[nv]) u0 u1 u2).more (Q3i _ _ _ _ _)⟩
theorem Qkw (n:Bool) (e:Int) (a:OA) (l c:Nat) (L:LN) (w:World) (h:WordsIn w a l c L) (hi:Q0a n e L) (h0:L≠[]):
 Calls Tryz.prog 96 #[.agg #[.bool n,.int .i64 e,.slice a l c]] w fun r w'=>∃a' l' c',r=.returned (.agg #[.bool n,.int .i64 e,.slice a' l' c'])/\Q2n w w' a' l' c' L/\Bw w w':=by
 obtain ⟨R7,hX,hR,hB⟩:=Q7d w (.bool n) (.int .i64 e) (.slice a l c) (.bool false) (.int .i64 0) (.slice none 0 0) 26 26;generalize hW:(w.alloc (.cells #[.bool n,.int .i64 e,.slice a l c] 26)).alloc (.cells #[.bool false,.int .i64 0,.slice none 0 0] 26)=W at hX hR hB R7;have Y1:w.heap.size+1<W.heap.size:=by omega
 clear R7;obtain ⟨x8,Zu,hlen64,XM,D5⟩:val (2^64) L≠0/\L=dig (2^64) (val (2^64) L)/\l<=64/\-65536<=e/\e<=65536:=by
  rcases Q1a hi h.low with ⟨h1,_⟩|⟨_,h2,h3,h4,h5,h6⟩
  ·exact absurd h1 h0
  ·refine ⟨by omega,h3,?_,h5,h6⟩;rw[<-h.len,h3];exact Qg1 h4
 have J9:=Q0y n e a l c L W (h.step hB) (by omega) (by omega) (by omega);rw[UT hi] at J9;have QK:∀W2,Bw w W2->Calls Tryz.prog 146 #[.slice a l c] W2 fun r w'=>∃a' l' c',r=.returned (.slice a' l' c')/\Q2n W2 w' a' l' c' L/\Bw W2 w':=fun W2 hb=>(Qcw a l c L W2 (h.step hb) (by omega) x8).mono (by rintro r w' ⟨a',l',c',rfl,hw,K3⟩;rw[<-Zu] at hw;exact ⟨a',l',c',rfl,hw,K3⟩);have HR:=Xh6 hX hR hB J9 QK Y1;obtain ⟨xc0,xc1,xc2⟩:=hX.cc;clear hX hR hB J9 QK Y1 h hi h0 x8 Zu
 go_enter Tryz.func96,Tryz.ntmps96
 go_wp2_with (first
  |(go_at_call_of 53 (Value.bool n);refine (Xo3 HR).mono ?_;rintro r w1 ⟨rfl,A0⟩;have N5:=(Xo0 HR).step A0 (by have:=(Xe5 HR);omega);obtain ⟨uc0,uc1,uc2⟩:=N5.cc;have HA:=Xh2 A0 (Below.next0 (Xo2 HR) A0);clear N5 A0)
  |(go_at_call_of 146 a;refine ((Xo4 HR) w1 (Xe1 HA)).mono ?_;rintro r w2 ⟨a',l',c',rfl,u4,D0⟩;have E0:=(Xe5 HR);have G6:=Below.next0 (Xo0 HA) D0;have A4:=(Xo0 HR).step G6 (by omega);have P8:=(Xo1 HR).step G6 E0;
    have yc2:=A4.c2;have yf2:=A4.f2;have z9:=A4.set2 (.slice a' l' c');have C5:=P8.far (p:=⟨w.heap.size,2,none⟩) (by show w.heap.size≠w.heap.size+1;omega) (.slice a' l' c');obtain ⟨zc0,zc1,zc2⟩:=z9.cc;obtain ⟨rc0,rc1,rc2,rf0,rf1,rf2⟩:=C5.cf;have rd1:=C5.d1 (.bool n);have rd2:=C5.d2 (.bool n) (.int .i64 e);have j6:=WordsIn.set1 u4.toWordsIn A4.c2 (fun _=>by simp[nv]) (.slice a' l' c');have HM:=Xh3 ((u4.lower (Xe1 HA).size).on j6) C5 ((Below.next0 (Xo2 HR) G6).setCell (p:=⟨w.heap.size,2,none⟩) (Uf _) (.slice a' l' c'));clear A4 P8 z9 C5 j6 D0 G6))
 have hS:=(Xo1 HM).store (.bool n) (.int .i64 e) (.slice a' l' c');obtain ⟨k0,k1,k2⟩:=hS.cc;have G3:=Q03.below (Xe2 HM) (show w.heap.size<=w.heap.size+1 by omega) (.bool n) (.int .i64 e) (.slice a' l' c');have z7:=(Xo0 HM).set3 (Xo1 HM) (.bool n) (.int .i64 e) (.slice a' l' c');exact ⟨rfl,.agg #[.bool n,.int .i64 e,.slice a' l' c'],by simp[results,go_sem,k0,k1,k2],a',l',c',rfl,(Xo0 HM).on z7,G3⟩
theorem Qoe (n:Bool) (e:Int) (a:OA) (l c:Nat) (L:LN) (w:World) (h:WordsIn w a l c L) (hi:Q0a n e L) (h0:L≠[]):
 Calls Tryz.prog 112 #[.agg #[.bool n,.int .i64 e,.slice a l c]] w fun r w'=>∃a' l' c',r=.returned (.agg #[.bool false,.int .i64 e,.slice a' l' c'])/\Q2n w w' a' l' c' L/\Bw w w':=by
 obtain ⟨R7,hX,hR,hB⟩:=Q7d w (.bool n) (.int .i64 e) (.slice a l c) (.bool false) (.int .i64 0) (.slice none 0 0) 26 26;generalize hW:(w.alloc (.cells #[.bool n,.int .i64 e,.slice a l c] 26)).alloc (.cells #[.bool false,.int .i64 0,.slice none 0 0] 26)=W at hX hR hB R7;have Y1:w.heap.size+1<W.heap.size:=by omega
 clear R7;have WA:=Qkw n e a l c L W (h.step hB) hi h0;have HR:=Xh4 hR hB WA Y1;obtain ⟨xc0,xc1,xc2⟩:=hX.cc;clear hX hR hB WA Y1 h hi h0
 go_enter Tryz.func112,Tryz.ntmps112
 go_wp2_with (first
  |(go_at_call_of 96 (Value.bool n);refine (Xo2 HR).mono ?_;rintro r w1 ⟨a',l',c',rfl,I1,A0⟩;have HA:=Xh2 (I1.lower (Xo1 HR).size) A0;clear I1 A0)
  |(go_at_call_of 164 (Value.bool n);refine (Qic n e a' l' c' w1).mono ?_;rintro r w2 ⟨rfl,D0⟩;have E0:=(Xe3 HR);have G6:=Below.next0 (Xe1 HA) D0;have P8:=(Xo0 HR).step G6 E0;obtain ⟨rc0,rc1,rc2,rf0,rf1,rf2⟩:=P8.cf;have rd1:=P8.d1 (.bool false);have rd2:=P8.d2 (.bool false) (.int .i64 e);have HM:=Xh3 ((Xo0 HA).on ((Xo0 HA).step D0)) P8 (Below.next0 (Xo1 HR) G6);clear P8 D0 G6))
 have hS:=(Xo1 HM).store (.bool false) (.int .i64 e) (.slice a' l' c');obtain ⟨k0,k1,k2⟩:=hS.cc;have G3:=Q03.below (Xe2 HM) (show w.heap.size<=w.heap.size+1 by omega) (.bool false) (.int .i64 e) (.slice a' l' c');have z7:=(Xo0 HM).set3 (Xo1 HM) (.bool false) (.int .i64 e) (.slice a' l' c');exact ⟨rfl,.agg #[.bool false,.int .i64 e,.slice a' l' c'],by simp[results,go_sem,k0,k1,k2],a',l',c',rfl,(Xo0 HM).on z7,G3⟩
theorem Qof (n:Bool) (e:Int) (a:OA) (l c:Nat) (L:LN) (w:World) (h:WordsIn w a l c L) (hi:Q0a n e L) (h0:L≠[]):
 Calls Tryz.prog 244 #[.agg #[.bool n,.int .i64 e,.slice a l c]] w fun r w'=>∃a' l' c',r=.returned (.agg #[.bool (!n),.int .i64 e,.slice a' l' c'])/\Q2n w w' a' l' c' L/\Bw w w':=by
 obtain ⟨R7,hX,hR,hB⟩:=Q7d w (.bool n) (.int .i64 e) (.slice a l c) (.bool false) (.int .i64 0) (.slice none 0 0) 26 26;generalize hW:(w.alloc (.cells #[.bool n,.int .i64 e,.slice a l c] 26)).alloc (.cells #[.bool false,.int .i64 0,.slice none 0 0] 26)=W at hX hR hB R7;have Y1:w.heap.size+1<W.heap.size:=by omega
 clear R7;have WA:=Qkw n e a l c L W (h.step hB) hi h0;have M4:0<L.length:=by
  cases L with
  |nil=>exact absurd rfl h0
  |cons x r=>simp
 have HR:=Xh6 hX hR hB WA Y1 M4;obtain ⟨xc0,xc1,xc2⟩:=hX.cc;clear hX hR hB WA Y1 h hi h0 M4;cases n
 ·go_enter Tryz.func244,Tryz.ntmps244
  go_upto_region 2 with (go_at_call_of 96 a;refine (Xo3 HR).mono ?_;rintro r w1 ⟨a',l',c',rfl,I1,A0⟩;have N5:=(Xo0 HR).step A0 (by have:=(Xo4 HR);omega);obtain ⟨yc0,yc1,yc2,yf0,yf1,yf2⟩:=N5.cf;have yd1:=N5.d1 (.bool false);have yd2:=N5.d2 (.bool false) (.int .i64 e);have HA:=Xh3 N5 (I1.lower (Xo2 HR).size) A0;clear N5 I1 A0)
  have Q2:0<l':=by have h3:=(Xo1 HA).len;have h4:=(Xe5 HR);omega
  have hl':decide (0<l')=true:=UT Q2;have A4:=(Xo0 HA).store (.bool false) (.int .i64 e) (.slice a' l' c');have P8:=((Xo1 HR).step (Xe2 HA) (Xo4 HR)).far3 (show w.heap.size≠w.heap.size+1 by omega) (.bool false) (.int .i64 e) (.slice a' l' c');have u4:=(Xo1 HA).set3 (Xo0 HA) (.bool false) (.int .i64 e) (.slice a' l' c');have D0:=Q03.below (Below.next0 (Xo2 HR) (Xe2 HA)) (Uf _) (.bool false) (.int .i64 e) (.slice a' l' c');clear yc0 yc1 yc2 yf0 yf1 yf2 yd1 yd2;generalize ((w1.setCell ⟨w.heap.size,0,none⟩ (.bool false)).setCell ⟨w.heap.size,1,none⟩ (.int .i64 e)).setCell ⟨w.heap.size,2,none⟩ (.slice a' l' c')=W2 at A4 P8 u4 D0⊢;obtain ⟨zc0,zc1,zc2,zf0,zf1,zf2⟩:=A4.cf;have z9:=A4.set0 (.bool true);have C5:=P8.far (p:=⟨w.heap.size,0,none⟩) (show w.heap.size≠w.heap.size+1 by omega) (.bool true);have j6:=u4.set1 (p:=⟨w.heap.size,0,none⟩) A4.c0 (fun _=>by simp[nv]) (.bool true);obtain ⟨vc0,vc1,vc2⟩:=z9.cc;obtain ⟨rc0,rc1,rc2,rf0,rf1,rf2⟩:=C5.cf;have rd1:=C5.d1 (.bool true);have rd2:=C5.d2 (.bool true) (.int .i64 e);have HM:=Xh3 ((Xo1 HA).on j6) C5 (D0.setCell (p:=⟨w.heap.size,0,none⟩) (Uf _) (.bool true));clear A4 P8 z9 C5 u4 j6 D0
  go_wp2_with fail
  have hS:=(Xo1 HM).store (.bool true) (.int .i64 e) (.slice a' l' c');obtain ⟨k0,k1,k2⟩:=hS.cc;have G3:=Q03.below (Xe2 HM) (show w.heap.size<=w.heap.size+1 by omega) (.bool true) (.int .i64 e) (.slice a' l' c');have z7:=(Xo0 HM).set3 (Xo1 HM) (.bool true) (.int .i64 e) (.slice a' l' c');exact ⟨rfl,.agg #[.bool true,.int .i64 e,.slice a' l' c'],by simp[results,go_sem,k0,k1,k2],a',l',c',rfl,(Xo0 HM).on z7,G3⟩
 ·go_enter Tryz.func244,Tryz.ntmps244
  go_upto_region 2 with (go_at_call_of 96 a;refine (Xo3 HR).mono ?_;rintro r w1 ⟨a',l',c',rfl,I1,A0⟩;have N5:=(Xo0 HR).step A0 (by have:=(Xo4 HR);omega);obtain ⟨yc0,yc1,yc2,yf0,yf1,yf2⟩:=N5.cf;have yd1:=N5.d1 (.bool true);have yd2:=N5.d2 (.bool true) (.int .i64 e);have HA:=Xh3 N5 (I1.lower (Xo2 HR).size) A0;clear N5 I1 A0)
  have Q2:0<l':=by have h3:=(Xo1 HA).len;have h4:=(Xe5 HR);omega
  have hl':decide (0<l')=true:=UT Q2;have A4:=(Xo0 HA).store (.bool true) (.int .i64 e) (.slice a' l' c');have P8:=((Xo1 HR).step (Xe2 HA) (Xo4 HR)).far3 (show w.heap.size≠w.heap.size+1 by omega) (.bool true) (.int .i64 e) (.slice a' l' c');have u4:=(Xo1 HA).set3 (Xo0 HA) (.bool true) (.int .i64 e) (.slice a' l' c');have D0:=Q03.below (Below.next0 (Xo2 HR) (Xe2 HA)) (Uf _) (.bool true) (.int .i64 e) (.slice a' l' c');clear yc0 yc1 yc2 yf0 yf1 yf2 yd1 yd2;generalize ((w1.setCell ⟨w.heap.size,0,none⟩ (.bool true)).setCell ⟨w.heap.size,1,none⟩ (.int .i64 e)).setCell ⟨w.heap.size,2,none⟩ (.slice a' l' c')=W2 at A4 P8 u4 D0⊢;obtain ⟨zc0,zc1,zc2,zf0,zf1,zf2⟩:=A4.cf;have z9:=A4.set0 (.bool false);have C5:=P8.far (p:=⟨w.heap.size,0,none⟩) (show w.heap.size≠w.heap.size+1 by omega) (.bool false);have j6:=u4.set1 (p:=⟨w.heap.size,0,none⟩) A4.c0 (fun _=>by simp[nv]) (.bool false);obtain ⟨vc0,vc1,vc2⟩:=z9.cc;obtain ⟨rc0,rc1,rc2,rf0,rf1,rf2⟩:=C5.cf;have rd1:=C5.d1 (.bool false);have rd2:=C5.d2 (.bool false) (.int .i64 e);have HM:=Xh3 ((Xo1 HA).on j6) C5 (D0.setCell (p:=⟨w.heap.size,0,none⟩) (Uf _) (.bool false));clear A4 P8 z9 C5 u4 j6 D0
  go_wp2_with fail
  have hS:=(Xo1 HM).store (.bool false) (.int .i64 e) (.slice a' l' c');obtain ⟨k0,k1,k2⟩:=hS.cc;have G3:=Q03.below (Xe2 HM) (show w.heap.size<=w.heap.size+1 by omega) (.bool false) (.int .i64 e) (.slice a' l' c');have z7:=(Xo0 HM).set3 (Xo1 HM) (.bool false) (.int .i64 e) (.slice a' l' c');exact ⟨rfl,.agg #[.bool false,.int .i64 e,.slice a' l' c'],by simp[results,go_sem,k0,k1,k2],a',l',c',rfl,(Xo0 HM).on z7,G3⟩
theorem Qkx {A B:LN} (hA:Low (2^64) A) (hB:Low (2^64) B):(dig (2^64) (val (2^64) A*val (2^64) B)).length<=A.length+B.length:=by
 have h1:=Q2y (B:=2^64) (by decide) A hA;have h2:=Q2y (B:=2^64) (by decide) B hB;refine Q2q (by decide) ?_;rw[Tw];exact Nat.mul_lt_mul'' h1 h2
theorem Q6e {n:Bool} {e:Int} {L:LN} (h:Q0a n e L) (hl:Low (2^64) L):L.length<=64/\-65536<=e/\e<=65536:=by
 rcases Q1a h hl with ⟨rfl,_,rfl⟩|⟨_,_,h2,h3,h4,h5⟩
 ·simp
 ·exact ⟨by rw[h2];exact Qg1 h3,h4,h5⟩
theorem Qrq (nx ny:Bool) (ex ey:Int) (ls ks:LN):Q1r (nx != ny) (ex+ey) (dig (2^64) (val (2^64) ls*val (2^64) ks))=Q1r nx ex ls*Q1r ny ey ks:=by
 rw[Qbq];unfold Q1r;rw[Qwd,Qqj]
theorem Qky (nx:Bool) (ex:Int) (ax:OA) (lx cx:Nat) (ls:LN) (ny:Bool) (ey:Int) (ay:OA) (ly cy:Nat) (ks:LN) (w:World) (h1:WordsIn w ax lx cx ls) (h2:WordsIn w ay ly cy ks) (i1:Q0a nx ex ls) (i2:Q0a ny ey ks) (hT:Q1s w):
 Calls Tryz.prog 304 #[.agg #[.bool nx,.int .i64 ex,.slice ax lx cx],.agg #[.bool ny,.int .i64 ey,.slice ay ly cy],.func (.func 305) #[] #[]] w (Qrp w (Q1r nx ex ls*Q1r ny ey ks)):=by
 obtain ⟨K4,hX,hY,hR,hB⟩:=Qhf w (.bool nx) (.int .i64 ex) (.slice ax lx cx) (.bool ny) (.int .i64 ey) (.slice ay ly cy) (.bool false) (.int .i64 0) (.slice none 0 0) 26 26 26;generalize E1:(((w.alloc (.cells #[.bool nx,.int .i64 ex,.slice ax lx cx] 26)).alloc (.cells #[.bool ny,.int .i64 ey,.slice ay ly cy] 26)).alloc (.cells #[.bool false,.int .i64 0,.slice none 0 0] 26))=W0 at K4 hX hY hR hB;have hQ:∀W,Bw W0 W->Q03 W w.heap.size (.bool nx) (.int .i64 ex) (.slice ax lx cx)/\Q03 W (w.heap.size+1) (.bool ny) (.int .i64 ey) (.slice ay ly cy)/\Q03 W (w.heap.size+2) (.bool false) (.int .i64 0) (.slice none 0 0)/\w.heap.size+2<W.heap.size/\Bw w W:=fun W hb=>
  ⟨hX.step hb (by omega),hY.step hb (by omega),hR.step hb (by omega),Ue (by omega) hb.size,Below.next0 hB hb⟩
 obtain ⟨O4,S4,Q3,_,_,_⟩:=hX;obtain ⟨QY,X8,M9,_,_,_⟩:=hY;have HQ:=Ua hQ;have K5:=h1.len;have hly:=h2.len;obtain ⟨b1,b2,b3⟩:=Q6e i1 h1.low;obtain ⟨b4,b5,b6⟩:=Q6e i2 h2.low;have M1:=Q0y nx ex ax lx cx ls W0 (h1.step hB) (by omega) (by omega) (by omega);have X0:=fun W (hb:Bw w W)=>Q0y ny ey ay ly cy ks W (h2.step hb) (by omega) (by omega) (by omega);rw[UT i1] at M1;simp only[UT i2] at X0;have Jg:=fun W (hb:Bw w W)=>Qii nx ex ax lx cx ls ny ey ay ly cy ks W (h1.step hb) (h2.step hb) (by omega) (by omega) (by omega) (by omega) (by omega) (by omega);have hmd:=Qkx h1.low h2.low;have HC:=Xh5 M1 X0 Jg hmd hT;clear K4 hR hQ M1 X0 Jg hmd hT h1 h2 i1 i2
 go_enter Tryz.func304,Tryz.ntmps304
 go_wp2_with (first
  |(go_at_call_of 53 ax;refine (Xo0 HC).mono ?_;rintro r w1 ⟨rfl,A0⟩;obtain ⟨g0,g1,g2,g3,g4⟩:=HQ.out w1 A0;obtain ⟨uc0,uc1,uc2⟩:=g0.cc;obtain ⟨vc0,vc1,vc2⟩:=g1.cc;have HA:=Xh2 A0 g4;clear g0 g1 g2 g3 g4 A0)
  |(go_at_call_of 53 ay;refine ((Xo1 HC) w1 (Xe1 HA)).mono ?_;rintro r w2 ⟨rfl,D0⟩;have G6:=Below.next0 (Xo0 HA) D0;obtain ⟨g0,g1,g2,g3,g4⟩:=HQ.out w2 G6;obtain ⟨pc0,pc1,pc2⟩:=g0.cc;obtain ⟨qc0,qc1,qc2⟩:=g1.cc;have HE:=Xh2 G6 g4;clear g0 g1 g2 g3 g4 D0 G6)
  |(go_at_call_of 305 ax;refine ((Xo2 HC) w2 (Xe1 HE)).mono ?_;rintro r w3 ⟨a3,l3,c3,rfl,j6,I0⟩;have HF:=Xh3 j6 (Below.next0 (Xo0 HE) I0) (Below.next0 (Xe1 HE) I0);clear j6 I0)
  |(go_at_call_of 312 (Value.bool (nx != ny));refine (Qut (nx != ny) (ex+ey) a3 l3 c3 _ w3 (Xo0 HF) ((Xe4 HC).step (Xe2 HF)) (by have:=(Xo0 HF).len;have:=(Xo3 HC);omega) (by omega) (by omega)).mono ?_;rintro r w4 ⟨n',e',a',l',c',L',er,rfl,O7,y9,N1⟩;rw[Qrq] at O7;have hb14:=Below.next0 (Xo1 HF) N1;obtain ⟨g0,g1,g2,g3,g4⟩:=HQ.out w4 hb14;obtain ⟨rc0,rc1,rc2,rf0,rf1,rf2⟩:=g2.cf;have rd1:=g2.d1 (.bool n');have rd2:=g2.d2 (.bool n') (.int .i64 e');have HM:=Xh4 O7 (y9.lower (Xe2 HF).size) g2 g4;clear g0 g1 g2 g3 g4 O7 y9 N1 hb14))
 have hS:=(Xo2 HM).store (.bool n') (.int .i64 e') (.slice a' l' c');obtain ⟨k0,k1,k2⟩:=hS.cc;have G3:=Q03.below (Xe3 HM) (show w.heap.size<=w.heap.size+2 by omega) (.bool n') (.int .i64 e') (.slice a' l' c');have z7:=(Xo1 HM).set3 (Xo2 HM) (.bool n') (.int .i64 e') (.slice a' l' c');exact ⟨rfl,.tuple #[.agg #[.bool n',.int .i64 e',.slice a' l' c'],.int .i64 er],by simp[results,go_sem,k0,k1,k2],n',e',a',l',c',L',er,rfl,(Xo0 HM),(Xo1 HM).on z7,G3⟩
theorem Qog (nx:Bool) (ex:Int) (ax:OA) (lx cx:Nat) (ls:LN) (ny:Bool) (ey:Int) (ay:OA) (ly cy:Nat) (ks:LN) (w:World) (h1:WordsIn w ax lx cx ls) (h2:WordsIn w ay ly cy ks) (i1:Q0a nx ex ls) (i2:Q0a ny ey ks) (hT:Q1s w):
 Calls Tryz.prog 286 #[.agg #[.bool nx,.int .i64 ex,.slice ax lx cx],.agg #[.bool ny,.int .i64 ey,.slice ay ly cy]] w (Qrp w (Q1r nx ex ls*Q1r ny ey ks)):=by
 obtain ⟨K4,hX,hY,hR,hB⟩:=Qhf w (.bool nx) (.int .i64 ex) (.slice ax lx cx) (.bool ny) (.int .i64 ey) (.slice ay ly cy) (.bool false) (.int .i64 0) (.slice none 0 0) 26 26 26;generalize E1:(((w.alloc (.cells #[.bool nx,.int .i64 ex,.slice ax lx cx] 26)).alloc (.cells #[.bool ny,.int .i64 ey,.slice ay ly cy] 26)).alloc (.cells #[.bool false,.int .i64 0,.slice none 0 0] 26))=W0 at K4 hX hY hR hB;have hQ:∀W,Bw W0 W->Q03 W w.heap.size (.bool nx) (.int .i64 ex) (.slice ax lx cx)/\Q03 W (w.heap.size+1) (.bool ny) (.int .i64 ey) (.slice ay ly cy)/\Q03 W (w.heap.size+2) (.bool false) (.int .i64 0) (.slice none 0 0)/\w.heap.size+2<W.heap.size/\Bw w W:=fun W hb=>
  ⟨hX.step hb (by omega),hY.step hb (by omega),hR.step hb (by omega),Ue (by omega) hb.size,Below.next0 hB hb⟩
 obtain ⟨O4,S4,Q3,_,_,_⟩:=hX;obtain ⟨QY,X8,M9,_,_,_⟩:=hY;have HQ:=Ua hQ;have YL:=Qky nx ex ax lx cx ls ny ey ay ly cy ks W0 (h1.step hB) (h2.step hB) i1 i2 (hT.step hB);have HC:=Ua YL;clear K4 hR hQ YL hT h1 h2 i1 i2
 go_enter Tryz.func286,Tryz.ntmps286
 go_wp2_with (go_at_call_of 304 ax;refine HC.out.mono ?_;rintro r w1 ⟨n',e',a',l',c',L',er,rfl,O7,I1,A0⟩;obtain ⟨g0,g1,g2,g3,g4⟩:=HQ.out w1 A0;obtain ⟨rc0,rc1,rc2,rf0,rf1,rf2⟩:=g2.cf;have rd1:=g2.d1 (.bool n');have rd2:=g2.d2 (.bool n') (.int .i64 e');have HM:=Xh4 O7 (I1.lower (HQ.out W0 (Uc _ _)).2.2.2.2.size) g2 g4;clear g0 g1 g2 g3 g4 O7 I1 A0)
 have hS:=(Xo2 HM).store (.bool n') (.int .i64 e') (.slice a' l' c');obtain ⟨k0,k1,k2⟩:=hS.cc;have G3:=Q03.below (Xe3 HM) (show w.heap.size<=w.heap.size+2 by omega) (.bool n') (.int .i64 e') (.slice a' l' c');have z7:=(Xo1 HM).set3 (Xo2 HM) (.bool n') (.int .i64 e') (.slice a' l' c');exact ⟨rfl,.tuple #[.agg #[.bool n',.int .i64 e',.slice a' l' c'],.int .i64 er],by simp[results,go_sem,k0,k1,k2],n',e',a',l',c',L',er,rfl,(Xo0 HM),(Xo1 HM).on z7,G3⟩
def Qoh (v u:Nat):Int:=if v<u then -1 else if u<v then 1 else 0
theorem Qoi (a:OA) (n c v:Nat) (b:OA) (m d u:Nat) (w:World) (h1:Q0x w a n c v) (h2:Q0x w b m d u) (hn:n<=1000000):
 Calls Tryz.prog 207 #[.slice a n c,.slice b m d] w fun e w'=>e=.returned (.int .i64 (Qoh v u))/\Bw w w':=by
 have Qf:val (2^32) (dig (2^32) v)=v:=Q0s (by decide) v;have Qm:val (2^32) (dig (2^32) u)=u:=Q0s (by decide) u;have Jb:=Q2i (B:=2^32) (by decide) v;have JO:=Q2i (B:=2^32) (by decide) u;have E7:=h1.len;have Jh:=h2.len;have M1:=h1.rd;have X0:=h2.rd;have JT:n<m->v<u:=fun h=>Xak fun B5=>by
  have h3:=Q1o (B:=2^32) (by decide) B5;omega
 have JV:m<n->u<v:=fun h=>Xak fun B5=>by
  have h3:=Q1o (B:=2^32) (by decide) B5;omega
 obtain ⟨A,hA⟩:∃A,dig (2^32) v=A:=⟨_,rfl⟩;obtain ⟨K,hK⟩:∃K,dig (2^32) u=K:=⟨_,rfl⟩;rw[hA] at Qf Jb E7 M1;rw[hK] at Qm JO Jh X0;obtain ⟨r,hr⟩:∃r,Qoh v u=r:=⟨_,rfl⟩;have H:=Xh6 Qf Qm Jb JO M1 X0;rw[hr];have HL:=Xh3 JT JV hr;clear Qf Qm Jb JO M1 X0 hA hK h1 h2 JT JV hr
 by_cases P0:n=m
 ·subst P0;have hneI:((n:Int) != (n:Int))=false:=by simp
  go_enter Tryz.func207,Tryz.ntmps207
  go_wp2_with fail
  go_loopw [5] (fun iv wr=>∃j:Nat,iv=.int .i64 ((j:Int)-1)/\j<=n/\A.drop j=K.drop j/\Bw w wr) (fun iv _=>(intOf iv+1).toNat)
  case atStart=>exact ⟨n,rfl,Uf _,by rw[Tc (by omega),Tc (by omega)],Uc _ _⟩
  case round=>
   obtain ⟨j,rfl,hj,Qy,hb⟩:=hrel;cases j with
   |zero=>
    have G4:A=K:=(by simpa using Qy);have Q4:r=0:=by
     rw[<-(Xe2 HL),<-(Xo0 H),<-(Xo1 H),G4];unfold Qoh;rw[Us (Nat.lt_irrefl _),Us (Nat.lt_irrefl _)]
    have HE:=Xh2 Q4 hb;clear Qy G4 hb Q4
    go_wp2_with fail
    go_ret;exact ⟨by rw[(Xo0 HE)];rfl,(Xe1 HE)⟩
   |succ j=>
    obtain ⟨x,hx⟩:∃x,A[j]?=some x:=⟨_,Ub (by omega)⟩;obtain ⟨y,hy⟩:∃y,K[j]?=some y:=⟨_,Ub (by omega)⟩;obtain ⟨g1,o1,E5,W8,Y3⟩:=((Xo4 H).below hb).at_ hx;obtain ⟨g2,o2,I8,M6,K9⟩:=((Xe5 H).below hb).at_ hy;subst E5 I8;have hjI:((j+1:Nat):Int)-1=(j:Int):=(by omega);have hjA:(j:Int)<(n:Int):=(by omega);have hj0:((j:Int)≥0):=(by omega);have HH:=Xh4 Qy hb hx hy;clear Qy hb hx hy;rw[hjI]
    by_cases E0:x<y
    ·have hxx:(x:Int)<(y:Int):=(by omega);have hv:=Qge (B:=2^32) (by decide) (Xo2 H) (Xo2 HH) (Xe3 HH) (Xo0 HH) E0;have Q4:r= -1:=by
      rw[<-(Xe2 HL)];unfold Qoh;rw[Uu (by rw[<-(Xo0 H),<-(Xo1 H)];exact hv)]
     have HV:=Ua Q4;clear hv Q4
     go_wp2_with fail
     go_quiet (fail)
     go_wp2_with fail
     go_ret;exact ⟨by rw[HV.out];rfl,Q16 (Xo1 HH) _⟩
    ·have hxx:¬(x:Int)<(y:Int):=by omega
     by_cases hgt:y<x
     ·have hyx:(y:Int)<(x:Int):=(by omega);have hv:=Qge (B:=2^32) (by decide) (Xo3 H) (Xe3 HH) (Xo2 HH) (Xo0 HH).symm hgt;have Q4:r=1:=by
       rw[<-(Xe2 HL)];unfold Qoh;have Jk:u<v:=(by rw[<-(Xo0 H),<-(Xo1 H)];exact hv);rw[Us (by omega),Uu Jk]
      have HV:=Ua Q4;clear hv Q4
      go_wp2_with fail
      go_quiet (fail)
      go_wp2_with fail
      go_quiet (fail)
      go_wp2_with fail
      go_ret;exact ⟨by rw[HV.out];rfl,Q16 (Q16 (Xo1 HH) _) _⟩
     ·have hyx:¬(y:Int)<(x:Int):=(by omega);have YM:x=y:=by omega
      go_wp2_with fail
      go_quiet (fail)
      go_wp2_with fail
      go_quiet (fail)
      go_wp2_with fail
      refine ⟨⟨j,rfl,by omega,?_,Q16 (Xo1 HH) _⟩,by simp only[intOf];omega⟩;have h1:=(Xo0 HH);have e1:=(Ui.1 (Xo2 HH));have e2:=(Ui.1 (Xe3 HH));rw[UB e1.1,UB e2.1,e1.2,e2.2,h1,YM]
 ·have hneI:((n:Int) != (m:Int))=true:=by rw[bne_iff_ne];omega
  by_cases E0:n<m
  ·have YE:(n:Int)<(m:Int):=(by omega);have Q4:r= -1:=(by rw[<-(Xe2 HL)];unfold Qoh;rw[Uu ((Xo0 HL) E0)]);have HV:=Ua Q4;clear Q4
   go_enter Tryz.func207,Tryz.ntmps207
   go_wp2_with fail
   go_ret;exact ⟨by rw[HV.out];rfl,Uc _ _⟩
  ·have YE:¬(n:Int)<(m:Int):=(by omega);have Q4:r=1:=by
    have:=(Xo1 HL) (by omega);rw[<-(Xe2 HL)];unfold Qoh;rw[Us (by omega),Uu this]
   have HV:=Ua Q4;clear Q4
   go_enter Tryz.func207,Tryz.ntmps207
   go_wp2_with fail
   go_ret;exact ⟨by rw[HV.out];rfl,Uc _ _⟩
theorem Qkz {B:Nat} {A K L:LN} {i cr x y z cr':Nat} (hL:L.length=i) (hx:A[i]?=some x) (hs:z+y+cr=x+cr'*B) (hy:K[i]?.getD 0=y) (h:val B L+val B (K.take i)=val B (A.take i)+cr*B^i):val B (L++[z])+val B (K.take (i+1))=val B (A.take (i+1))+cr'*B^(i+1):=by
 rw[Q8x,hL,Q5s A i,Q5s K i,hx,hy,Xaw,Tg];have h1:B^i*z+B^i*y+cr*B^i=B^i*x+cr'*(B^i*B):=by
  have:=congrArg (B^i*·) hs;simp only[TE] at this;rw[UA cr,Nat.mul_left_comm cr'];rw[<-this]
 omega
theorem Ql0 {u v l cr X:Nat} (huv:u<=v) (h3:l<X) (h:l+u=v+cr*X):cr=0:=by
 refine Nat.eq_zero_of_not_pos fun F6=>?_;have h4:X<=cr*X:=Nat.le_mul_of_pos_left _ F6;omega
theorem Qf5 (a:OA) (n c:Nat) (v:Nat) (b:OA) (m d:Nat) (u:Nat) (w:World) (h1:Q0x w a n c v) (h2:Q0x w b m d u) (hn:n<=100000) (huv:u<=v):
 Calls Tryz.prog 208 #[.slice a n c,.slice b m d] w fun e w'=>∃a' n',e=.returned (.slice a' n' n')/\Q0x w' a' n' n' (v-u)/\Bw w w':=by
 have Qf:val (2^32) (dig (2^32) v)=v:=Q0s (by decide) v;have Qm:val (2^32) (dig (2^32) u)=u:=Q0s (by decide) u;have Jb:=Q2i (B:=2^32) (by decide) v;have JO:=Q2i (B:=2^32) (by decide) u;have E7:=h1.len;have Jh:=h2.len;have hmn:m<=n:=by
  have h3:=Q1o (B:=2^32) (by decide) huv;omega
 have M1:=h1.rd;have X0:=h2.rd;obtain ⟨A,hA⟩:∃A,dig (2^32) v=A:=⟨_,rfl⟩;obtain ⟨K,hK⟩:∃K,dig (2^32) u=K:=⟨_,rfl⟩;rw[hA] at Qf Jb E7 M1;rw[hK] at Qm JO Jh X0;obtain ⟨i0,O2,E2,I2,X1⟩:=Xbq Q6r;have HI:=Xh4 O2 E2 I2 X1;have H:=Xh7 Qf Qm Jb JO M1 X0 huv;have KK:=fun (i:Nat) W (hb:Bw w W)=>Q7f b m d K i W Jh (X0.below hb) JO;have HD:=Ua KK;clear Qf Qm Jb JO M1 X0 hA hK h1 h2 KK O2 E2 I2 X1 huv
 go_enter Tryz.func208,Tryz.ntmps208
 go_wp2_with fail
 go_loopw [5,6,7] (fun ov cv iv wr=>∃(i cr:Nat) (L:LN) (ao:OA) (co:Nat),ov=.slice ao i co/\cv=.int .u64 (cr:Int)/\iv=.int .i64 (i:Int)/\cr<=1/\i<=n/\Row wr w.heap.size 150 1 ao i co (L.map (nv .u32))/\L.length=i/\Low (2^32) L/\val (2^32) L+val (2^32) (K.take i)=val (2^32) (A.take i)+cr*(2^32)^i/\Bw w wr) (fun _ _ iv _=>n-(intOf iv).toNat)
 case atStart=>exact ⟨0,0,[],none,0,rfl,rfl,rfl,by decide,Ut _,Row.nil_ _ _ _ _,rfl,fun x hx=>by simp at hx,by simp[val],Uc _ _⟩
 case round=>
  obtain ⟨i,cr,L,ao,co,rfl,rfl,rfl,QI,hi,A1,M4,Q0,J0,hb⟩:=hrel
  by_cases S3:i=n
  ·have e1:K.take i=K:=Uz (by rw[Jh,S3];exact hmn);have e2:A.take i=A:=Uz (by rw[E7,S3];exact Uf _);rw[e1,e2,(Xo0 H),(Xo1 H)] at J0;have hcr0:cr=0:=by
    have h3:=Q2y (B:=2^32) (by decide) L Q0;rw[M4] at h3;exact Ql0 (Xe6 H) h3 J0
   subst hcr0;rw[Xaq,TD] at J0;have hT:=Q54 ao i co L wr M4 A1.cap.1 A1.cap.2 (Row.rdI A1) Q0;rw[show val (2^32) L=v-u by omega] at hT;have HT:=Xh2 hT hb;have l1:¬(i:Int)<(n:Int):=(by omega);clear hT hb J0 Q0 A1 S3 e1 e2
   go_wp2_with (refine (Xo0 HT).mono ?_;rintro e w1 ⟨n',rfl,ZF,hD,rfl⟩;have Kl:=Ua hD;clear hD)
   go_ret;exact ⟨ao,n',rfl,Kl.out,(Xe1 HT)⟩
  ·have E0:i<n:=(by omega);have l1:(i:Int)<(n:Int):=(by omega);obtain ⟨x,hx⟩:∃x,A[i]?=some x:=⟨_,Ub (by omega)⟩;obtain ⟨g1,o1,E5,W8,Y3⟩:=((Xo4 H).below hb).at_ hx;subst E5;have N4:x<4294967296:=(Xo2 H) x (Ug hx);have B9:K[i]?.getD 0<4294967296:=Qbl (by decide) (Xo3 H) i;have Y0:=fun z cr' hs=>Qkz (B:=2^32) (z:=z) (cr':=cr') (cr:=cr) M4 hx hs rfl J0;have hd:∀W:World,W.heap=wr.heap->Calls Tryz.prog 193 #[.slice b m d,.int .i64 (i:Int)] W fun e w'=>e=.returned (.int .u64 ((K[i]?.getD 0:Nat):Int))/\∃n,w'=W.drewN n:=fun W hW=>by
    have h1:=Q7f b m d K i W (B:=w.heap.size) Jh (RdI.keep ((Xo5 H).below hb) (fun p _=>by unfold World.cell?;rw[hW])) (Xo3 H);refine h1.mono ?_;rintro e w' ⟨rfl,rfl⟩;exact ⟨rfl,0,rfl⟩
   generalize K[i]?.getD 0=y at*;obtain ⟨S,hS⟩:∃S,y+cr=S:=⟨_,rfl⟩;have hSI:(y:Int)+(cr:Int)=(S:Int):=(by omega);have hSl:S<=4294967296:=(by omega);have P3:∀o nq,Bw w ((wr.drewN nq).alloc o):=fun o nq=>(Q16 hb nq).alloc hb.size o;have G3:∀o nq,w.heap.size<=((wr.drewN nq).alloc o).heap.size:=fun o nq=>(P3 o nq).size;have Jn:∀o nq,Row ((wr.drewN nq).alloc o) w.heap.size 150 1 ao i co (L.map (nv .u32)):=fun o nq=>(A1.drewN nq).alloc o;obtain ⟨cr',Z,hcr',hZ,Wr⟩:∃cr' Z:Nat,cr'<=1/\Z+S=x+cr'*4294967296/\Z<4294967296:=by
    by_cases E0:x<S
    ·exact ⟨1,x+4294967296-S,Uf _,by omega,by omega⟩
    ·exact ⟨0,x-S,by omega,by omega,by omega⟩
   have Z9:=Y0 Z cr' (by rw[<-hZ,<-hS];omega);have HH:=Xh5 Z9 Jn P3 G3 Q0;clear Y0 Jn P3 G3 hb A1 J0 Z9 Q0 hS hx;have hwn:IntKind.u32.wrap (Z:Int)=(Z:Int):=by
    simp only[IntKind.wrap,IntKind.signed,IntKind.bits];simp;omega
   by_cases E0:x<S
   ·have YE:(x:Int)<(S:Int):=(by omega);obtain rfl:cr'=1:=(by omega);have hZI:(x:Int)+4294967296-(S:Int)=(Z:Int):=by omega
    go_wp2_with fail
    go_quiet (first|(refine Calls.quiet_of (hd _ ?_);rfl))
    go_wp2_with (at_builtin;refine Q0t rfl (.tmp 31) (.tmp 36) 85 rfl w _ 150 i0 _ 1 4 Tryz.underlying85 (Xo0 HI) (Xo1 HI) (Xo2 HI) (Xe3 HI) rfl (by decide) w.heap.size ((Xo2 HH) _ _) ((Xo3 HH) _ _) ao i co _ rfl ((Xo1 HH) _ _) ⟨(wr.drewN nq).heap.size,0,none⟩ 1 1 [.int .u32 (Z:Int)] rfl rfl (Q4f (wr.drewN nq) #[.int .u32 (Z:Int)] _ _) (Qfz _ _) (i+1) rfl (by omega) (by omega) ?_;intro a3 c3 w3 S8 Qa I0 J6;have HO:=Xh2 S8 I0;clear S8 Qa I0 J6)
    refine ⟨⟨i+1,1,L++[Z],a3,c3,rfl,rfl,by simp,Uf _,by omega,?_,by simp[M4],Qg0 (Xe4 HH) Wr,(Xo0 HH),(Xe1 HO)⟩,by simp only[intOf];omega⟩;rw[UZ];exact (Xo0 HO)
   ·have YE:¬(x:Int)<(S:Int):=(by omega);obtain rfl:cr'=0:=(by omega);have hZI:(x:Int)-(S:Int)=(Z:Int):=by omega
    go_wp2_with fail
    go_quiet (first|(refine Calls.quiet_of (hd _ ?_);rfl))
    go_wp2_with (at_builtin;refine Q0t rfl (.tmp 31) (.tmp 36) 85 rfl w _ 150 i0 _ 1 4 Tryz.underlying85 (Xo0 HI) (Xo1 HI) (Xo2 HI) (Xe3 HI) rfl (by decide) w.heap.size ((Xo2 HH) _ _) ((Xo3 HH) _ _) ao i co _ rfl ((Xo1 HH) _ _) ⟨(wr.drewN nq).heap.size,0,none⟩ 1 1 [.int .u32 (Z:Int)] rfl rfl (Q4f (wr.drewN nq) #[.int .u32 (Z:Int)] _ _) (Qfz _ _) (i+1) rfl (by omega) (by omega) ?_;intro a3 c3 w3 S8 Qa I0 J6;have HO:=Xh2 S8 I0;clear S8 Qa I0 J6)
    refine ⟨⟨i+1,0,L++[Z],a3,c3,rfl,rfl,by simp,Ut _,by omega,?_,by simp[M4],Qg0 (Xe4 HH) Wr,(Xo0 HH),(Xe1 HO)⟩,by simp only[intOf];omega⟩;rw[UZ];exact (Xo0 HO)
def bnd (T:Nat) (d:Dyadic):Prop:=∃m:Int,d=dy m (-(T:Int))/\m.natAbs<2^(2*T)
theorem Quu (T:Nat):bnd T 0:=⟨0,(Q6s _).symm,by simpa using Tv (n:=2*T) (by decide:0<2)⟩
theorem Qb1 (m:Int) (k:Nat):(m*2^k).natAbs=m.natAbs*2^k:=by
 rw[Int.natAbs_mul];have:((2:Int)^k)=((2^k:Nat):Int):=by simp
 rw[this,Int.natAbs_natCast]
theorem bnd.neg {T:Nat} {a:Dyadic} (ha:bnd T a):bnd T (-a):=by
 obtain ⟨m,rfl,hm⟩:=ha;exact ⟨-m,Qcb m _,by rw[Int.natAbs_neg];exact hm⟩
theorem Qmr {d:Dyadic} {T:Nat} (h:Q64 d) (hT:69632<=T):bnd T d:=by
 rcases h with rfl|⟨m,e,rfl,_,hm,h1,h2⟩
 ·exact Quu T
 obtain ⟨k,hk⟩:∃k:Nat,e= -(T:Int)+k:=⟨(e+T).toNat,by omega⟩;have hkT:k<=65536+T:=by omega
 refine ⟨m*2^k,by rw[hk,Qcc],?_⟩;rw[Qb1];have h3:(2^64)^64=2^(64*64):=(Xab 2 64 64).symm;rw[h3] at hm;obtain ⟨s,hs⟩:∃s,64*64=s:=⟨_,rfl⟩;rw[hs] at hm
 calc m.natAbs*2^k<2^s*2^k:=TW hm (Tv (by decide))
  _=2^(s+k):=(Tw 2 s k).symm
  _<=2^(2*T):=UL (by decide) (by omega)
theorem Qgl {a b e:Int} (h:dy a e=dy b e):a=b:=by
 have h1:=congrArg Dyadic.toRat h;rw[Q7g,Q7g] at h1;have h2:((2:Rat)^e)≠0:=by
  intro h0;have h4:dy 1 e≠0:=Qnw (by decide);refine h4 ?_;rw[<-Dyadic.toRat_inj,Q7g,h0];simp
 generalize (2:Rat)^e=x at h1 h2;have h3:(a:Rat)=(b:Rat):=by grind
 exact Rat.intCast_inj.1 h3
theorem Qrr {neg:Bool} {v T:Nat} {e:Int} (hv:v%2=1) (h:bnd T (dy (sgn neg v) e)): -(T:Int)<=e/\e<=T/\v<2^(2*T):=by
 obtain ⟨m,hd,hm⟩:=h;have KF:=Q55 (neg:=neg) hv;have he: -(T:Int)<=e:=by
  refine Int.not_lt.1 fun E0=>?_;obtain ⟨k,hk⟩:∃k:Nat,-(T:Int)=e+((k+1:Nat):Int):=⟨(-(T:Int)-e).toNat-1,by omega⟩;rw[hk,Qcc] at hd;have h1:=Qgl hd;rw[h1,Int.pow_succ,<-Int.mul_assoc] at KF;omega
 obtain ⟨k,hk⟩:∃k:Nat,e= -(T:Int)+k:=⟨(e+T).toNat,by omega⟩;rw[hk,Qcc] at hd;have h1:=Qgl hd;have h2:=congrArg Int.natAbs h1;rw[Qb1,Qce] at h2;rw[<-h2] at hm;have J2:1<=2^k:=Tv (by decide);have QX:1<=v:=by omega
 refine ⟨he,?_,TQ (Nat.le_mul_of_pos_right v (by omega)) hm⟩;have h3:2^k<2^(2*T):=TQ (Nat.le_mul_of_pos_left _ (by omega)) hm;have h4:=(Nat.pow_lt_pow_iff_right (a:=2) (by decide)).1 h3;omega
theorem Qgm {neg:Bool} {v T k:Nat} {e:Int} (hc:Q5n neg v e) (h:bnd T (dy (sgn neg v) e)) (hk:2*T<=32*k):(dig (2^32) v).length<=k/\-(T:Int)<=e/\e<=T:=by
 by_cases h0:v=0
 ·obtain ⟨_,rfl⟩:=hc.1 h0;subst h0;rw[Q1d];exact ⟨Ut _,by omega,by omega⟩
 ·obtain ⟨h1,h2,h3⟩:=Qrr (hc.2 h0) h;refine ⟨Q2q (by decide) (Ue h3 ?_),h1,h2⟩;rw[<-Xab];exact UL (by decide) hk
end Go.Proofs.YtidojbkhlenahaaGreatDoor
namespace Go.Proofs.YtidojbkhlenahaaGreatDoor
open Go Go.RowKit
section
variable {P:Program} {ops:Array Oper}
theorem Q2c {D:Nat->Bool} {k j:Nat} {oj:Oper} (G2:∀j oj,ops[j]?=some oj->D j=true->∀i∈Q2u oj,D i=true) (hj:ops[j]?=some oj) (hk:k∈Q2u oj) (hD:D k=false):D j=false:=by
 cases hb:D j with
 |false=>rfl
 |true=>have:=G2 j oj hj hb k hk;rw[hD] at this;cases this
theorem Qms {l:List Oper} {x y:Nat} (hl:(l.zipIdx.all fun p=>p.1.dst.isSome || (p.2==x || p.2==y))=true) {i:Nat} {o:Oper} (hi:l[i]?=some o) (hd:o.dst=none):i=x∨i=y:=by
 have hm:(o,i)∈l.zipIdx:=by rw[Xah];exact hi
 have h1:=TH.1 hl _ hm;simpa[hd] using h1
def Q9j (P:Program) (ops:Array Oper) (I:Qrj) (a0:Act) (k:Nat) (o:Oper):Prop:=
 ∀a w D,I D (Q0g ops a) w->Q9f ops a0 a->D k=false->(∀i∈Q2u o,D i=true)->(∀j oj,ops[j]?=some oj->D j=true->∀i∈Q2u oj,D i=true)->
  Region.wanted o (yielded ops a.tmps)=true/\Q2p P (fun u w'=>I (Q4d D k) (Q3z (Q0g ops a) k u) w') ((execOp a.eval o).run P w)
def Qbr (P:Program) (ops:Array Oper) (I:Qrj) (a0:Act):List Oper->Nat->Prop:=Qkt (Q9j P ops I a0)
theorem Qxb {I:Qrj} {a0:Act} (k:Nat) (o:Oper) (h:Q9j P ops I a0 k o):Q9h P ops I a0 k o:=fun a w D h1 h2 h3 h4 h5=>by
 obtain ⟨hw,hs⟩:=h a w D h1 h2 h3 h4 h5;rw[Uu hw];exact hs
variable {Q:Exit->Act->World->Prop}
theorem Q77 {id:Nat} {l:List Oper} {a0:Act} {w:World} (hm:P.follows .mixedOrders=true) (I:Qrj) (hN:∀(i:Nat) o,l[i]?=some o->o.dst=none->∀D vs v w,I D (Q3z vs i v) w->I D vs w) (hB:Q9g l a0.tmps.size=true) (h0:I (fun _=>false) (Q0g l.toArray a0) w.drew)
 (step:Qbr P l.toArray I a0 l 0) (fin:∀D vs w,(∀j,j<l.length->D j=true)->I D vs w->Q .normal (Q0r vs l 0 a0) w):(Code.region id l.toArray true).wp P Q a0 w:=
 Q7o hm I (fun i o hi hd D vs v w _=>hN i o hi hd D vs v w) hB h0 (Qkt.imp Qxb l 0 step) fin
theorem Q5c {id:Nat} {l:List Oper} {a0:Act} {w:World} (hm:P.follows .mixedOrders=true) (I:Qrj) (hN:∀(i:Nat) o,l[i]?=some o->o.dst=none->∀D vs v w,I D (Q3z vs i v) w->I D vs w) (hB:Q9g l a0.tmps.size=true) (h0:∀vs,I (fun _=>false) vs w.drew)
 (step:Qbr P l.toArray I a0 l 0) (fin:∀D vs w,(∀j,j<l.length->D j=true)->I D vs w->Q .normal (Q0r vs l 0 a0) w):(Code.region id l.toArray true).wp P Q a0 w:=
 Q77 hm I hN hB (h0 _) step fin
end
section
variable {P:Program}
def Qrs (l:List Oper) (n:Nat):Bool:=(List.range n).all fun k=>(List.range (n+1)).any fun j=>decide (k<j) && (match l[j]? with|some o=>(Q2u o).contains k|none=>false)
theorem Qik {l:List Oper} {n:Nat} (h:Qrs l n=true) {D:Nat->Bool} (G2:∀j oj,l[j]?=some oj->D j=true->∀i∈Q2u oj,D i=true):∀m k,n-k=m->k<=n->D k=false->D n=false:=by
 intro m
 induction m using Nat.strongRecOn with
 |ind m ih=>
  intro k hm hk hD
  by_cases Wg:k=n
  ·subst Wg;exact hD
  ·have h1:=TH.1 h k (by rw[List.mem_range];omega);obtain ⟨j,hj,h2⟩:=Xbl.1 h1;rw[List.mem_range] at hj;rw[Xav,TJ] at h2;obtain ⟨h3,h4⟩:=h2;cases KD:l[j]? with
   |none=>rw[KD] at h4;cases h4
   |some oj=>
    rw[KD] at h4;have h5:k∈Q2u oj:=(by simpa using h4);have hDj:D j=false:=by
     cases hb:D j with
     |false=>rfl
     |true=>have:=G2 j oj KD hb k h5;rw[hD] at this;cases this
    exact ih (n-j) (by omega) j rfl (by omega) hDj
def Quv (P:Program) (ops:Array Oper) (C:World->Prop) (V:Nat->Value->World->Prop) (a0:Act) (Fin:World->Prop):List Oper->Prop
 |[o]=>∀a w,C w->Q9f ops a0 a->(∀i∈Q2u o,V i (Q0g ops a i) w)->Q2p P (fun _ w'=>Fin w') ((execOp a.eval o).run P w)
 |_=>False
theorem Q2a {Q:Exit->Act->World->Prop} {id:Nat} {l:List Oper} {a0:Act} {w:World} (hm:P.follows .mixedOrders=true) (n:Nat) (hn:l.length=n+1) (C:World->Prop) (hC:∀w w',C w->Bw w w'->C w') (V:Nat->Value->World->Prop) (hV:∀i v w w',V i v w->Bw w w'->V i v w') (Fin:World->Prop)
 (hB:Q9g l a0.tmps.size=true) (hA:Qrs l n=true) (hG:(l.all fun o=>o.guard.isNone)=true) (hD:(l.zipIdx.all fun p=>p.1.dst.isSome || decide (p.2=n))=true) (h0:C w.drew)
 (step:Q4e P Q8a l.toArray C V a0 (l.take n) 0) (last:Quv P l.toArray C V a0 Fin (l.drop n)) (fin:∀vs w,Fin w->Q .normal (Q0r vs l 0 a0) w):(Code.region id l.toArray true).wp P Q a0 w:=by
 have m9:∀(k:Nat) (o:Oper),l[k]?=some o->∀y,Region.wanted o y=true:=fun k o ho y=>by
  have h1:=TH.1 hG o (Ug ho);unfold Region.wanted;cases hg:o.guard with
  |none=>rfl
  |some g=>rw[hg] at h1;cases h1
 have i4:∀(D:Nat->Bool) (vs:Nat->Value) (i:Nat) (o:Oper) (v:Value) (w:World),l[i]?=some o->o.dst=none->(if D n=true then Fin w else (C w/\∀j,D j=true->V j (Q3z vs i v j) w))->(if D n=true then Fin w else (C w/\∀j,D j=true->V j (vs j) w)):=by
  intro D vs i o v w hi hd h;have QA:i=n:=by
   have hm:(o,i)∈l.zipIdx:=(by rw[Xah];exact hi);have h1:=TH.1 hD _ hm;simpa[hd] using h1
  subst QA
  split at h
  ·rename_i Qi;rw[Uu Qi];exact h
  ·rename_i Qi;rw[Us Qi];refine ⟨h.1,fun j hj=>?_⟩;have:=h.2 j hj;unfold Q3z at this;rwa[Us (fun e=>by subst e;exact Qi hj)] at this
 have R0:∀(k:Nat) (o:Oper),l[k]?=some o->Q9j P l.toArray (fun D vs w=>if D n=true then Fin w else (C w/\∀j,D j=true->V j (vs j) w)) a0 k o:=by
  intro k o ho a w D hI G0 hk i8 G2;have Wg:k<=n:=by have:=(Ui.1 ho).1;omega
  have Qi:D n=false:=Qik hA (D:=D) (fun j oj hj=>G2 j oj (by simpa using hj)) _ k rfl Wg hk;have hDn':¬D n=true:=by rw[Qi];decide
  simp only[Qi] at hI;obtain ⟨YP,hVw⟩:=hI;have XZ:∀i∈Q2u o,V i (Q0g l.toArray a i) w:=fun i hi=>hVw i (i8 i hi);refine ⟨m9 k o ho _,?_⟩
  by_cases Qv:k=n
  ·subst Qv;have X7:l.drop k=[o]:=by
    rw[UB (by omega),Tc (by omega)];rw[(Ui.1 ho).2]
   rw[X7] at last;have h1:=last a w YP G0 XZ;have hK:∀u w',Fin w'->(if Q4d D k k=true then Fin w' else (C w'/\∀j,Q4d D k j=true->V j (Q3z (Q0g l.toArray a) k u j) w')):=fun u w' h=>by rw[Q6c,Uu rfl];exact h
   revert h1
   generalize (execOp a.eval o).run P w=res;intro h1;cases res with
   |ok x w'=>
    cases x with
    |value u=>exact hK u w' h1
    |enter f args=>
     refine Xbr h1 ?_;rintro e w'' ⟨v,rfl,hf⟩;exact ⟨v,rfl,hK v w'' hf⟩
    |skip=>exact hK undef w' h1
    |_=>exact h1.elim
   |halt x w'=>exact h1.elim
  ·have QU:(l.take n)[k]?=some o:=(by rw[TL,Uu (by omega)];exact ho);have h1:=Q4e.at_ _ _ _ _ step QU;rw[UV] at h1;have h1:=h1 a w YP G0 XZ;rw[Uu (m9 k o ho _)] at h1;have hK:∀u w',Bw w w'->V k u w'->(if Q4d D k n=true then Fin w' else (C w'/\∀j,Q4d D k j=true->V j (Q3z (Q0g l.toArray a) k u j) w')):=fun u w' hb hu=>by
    have e:Q4d D k n=false:=(by unfold Q4d;rw[Us (fun e=>Qv e.symm)];exact Qi);rw[e,Us (by decide)];refine ⟨hC _ _ YP hb,fun j hj=>?_⟩;unfold Q3z;unfold Q4d at hj
    by_cases XP:j=k
    ·subst XP;rw[Uu rfl];exact hu
    ·rw[Us XP];rw[Us XP] at hj;exact hV _ _ _ _ (hVw j hj) hb
   revert h1
   generalize (execOp a.eval o).run P w=res;intro h1;cases res with
   |ok x w'=>
    cases x with
    |value u=>exact hK u w' h1.1 h1.2
    |enter f args=>
     refine Xbr h1 ?_;rintro e w'' ⟨v,rfl,hb,hv⟩;exact ⟨v,rfl,hK v w'' hb hv⟩
    |skip=>exact hK undef w' h1.1 h1.2
    |_=>exact h1.elim
   |halt x w'=>exact h1.elim
 have KR:∀(r:List Oper) (k:Nat),(∀(i:Nat) o,r[i]?=some o->l[k+i]?=some o)->Qbr P l.toArray (fun D vs w=>if D n=true then Fin w else (C w/\∀j,D j=true->V j (vs j) w)) a0 r k:=by
  intro r
  induction r with
  |nil=>intro k _;trivial
  |cons o r ih=>
   intro k h;refine ⟨R0 k o (by simpa using h 0 o rfl),ih (k+1) fun i o' JL=>?_⟩;have:=h (i+1) o' (by simpa using JL);rwa[show k+(i+1)=k+1+i by omega] at this
 refine Q5c hm (fun D vs w=>if D n=true then Fin w else (C w/\∀j,D j=true->V j (vs j) w)) (fun i o hi hd D vs v w h=>i4 D vs i o v w hi hd h) hB (fun vs=>?_) (KR l 0 fun i o h=>by rw[UV];exact h) (fun D vs w R0 h=>?_)
 ·exact ⟨h0,fun j hj=>by cases hj⟩
 ·have Qi:=R0 n (by omega);simp only[Qi,Xa8] at h;exact fin vs w h
end
end Go.Proofs.YtidojbkhlenahaaGreatDoor
namespace Go.Proofs.YtidojbkhlenahaaGreatDoor
open Go.RowKit WordsM
def Q9k (w:World) (u:Value) (D:Dyadic):Prop:=∃n a l c e v,u=.agg #[.bool n,.slice a l c,.int .i64 e]/\Q0x w a l c v/\Q5n n v e/\dy (sgn n v) e=D
theorem Q9k.step {w w':World} {u:Value} {D:Dyadic} (h:Q9k w u D) (hb:Bw w w'):Q9k w' u D:=by
 obtain ⟨n,a,l,c,e,v,rfl,h1,h2,h3⟩:=h;exact ⟨n,a,l,c,e,v,rfl,h1.step hb,h2,h3⟩
def Qil (w:World) (D:Dyadic) (r:Ending) (w':World):Prop:=∃u,r=.returned u/\Q9k w' u D/\Bw w w'
theorem Q0x.box3 {w:World} {a:OA} {n c v r:Nat} {v0 v1 v2:Value} (h:Q0x w a n c v) (hN:Q03 w r v0 v1 v2) (h0:∀x:Nat,v0≠nv .u32 x) (h1:∀x:Nat,v1≠nv .u32 x) (h2:∀x:Nat,v2≠nv .u32 x) (u0 u1 u2:Value):
 Q0x (((w.setCell ⟨r,0,none⟩ u0).setCell ⟨r,1,none⟩ u1).setCell ⟨r,2,none⟩ u2) a n c v:=
 ⟨h.len,h.cap,h.most,(h.rd.store3 hN h0 h1 h2 u0 u1 u2).more (Q3i _ _ _ _ _)⟩
theorem Q0x.box {w:World} {a:OA} {n c v r:Nat} {b0:Bool} {a0:OA} {n0 c0:Nat} {e0:Int} (h:Q0x w a n c v) (hN:Q03 w r (.bool b0) (.slice a0 n0 c0) (.int .i64 e0)) (u0 u1 u2:Value):
 Q0x (((w.setCell ⟨r,0,none⟩ u0).setCell ⟨r,1,none⟩ u1).setCell ⟨r,2,none⟩ u2) a n c v:=
 h.box3 hN (fun _=>by simp[nv]) (fun _=>by simp[nv]) (fun _=>by simp[nv]) u0 u1 u2
theorem Q45 {P:Program} {Fin:World->Prop} {w':World} {res:Result Next} (hr:res=.ok .skip w') (h:Fin w'):Q2p P (fun _ w=>Fin w) res:=by rw[hr];exact h
def Q1h:List (Nat × (Value->World->Prop))->Nat->Option (Value->World->Prop)
 |[],_=>none
 |(i,φ)::r,x=>if x=i then some φ else Q1h r x
def Q3x (φ:Value->World->Prop):Prop:=∀v w w',φ v w->Bw w w'->φ v w'
theorem Q0h:∀{l:List (Nat × (Value->World->Prop))},(∀p∈l,Q3x p.2)->∀i φ,Q1h l i=some φ->∀v w w',φ v w->Bw w w'->φ v w'
 |[],_,i,φ,h=>by cases h
 |(j,ψ)::r,hs,i,φ,h=>by
  unfold Q1h at h
  split at h
  ·injection h with h;subst h;exact hs (j,ψ) (by simp)
  ·exact Q0h (fun p hp=>hs p (by simp[hp])) i φ h
def SlD (k v:Nat) (u:Value) (w:World):Prop:=∃a n c,u=.slice a n c/\n<=k/\Q0x w a n c v
theorem SlD.stable (k v:Nat):Q3x (SlD k v):=fun u w w' h hb=>by
 obtain ⟨a,n,c,rfl,h1,h2⟩:=h;exact ⟨a,n,c,rfl,h1,h2.step hb⟩
theorem Q34 (D:Dyadic):Q3x (fun u w=>Q9k w u D):=fun _ _ _ h hb=>h.step hb
theorem Qyu {i:Nat} {φ:Value->World->Prop} (h:Q3x φ):∀p∈[(i,φ)],Q3x p.2:=fun p hp=>by rw[UC] at hp;subst hp;exact h
theorem Ql1 {i j:Nat} {φ ψ:Value->World->Prop} (h:Q3x φ) (h':Q3x ψ):∀p∈[(i,φ),(j,ψ)],Q3x p.2:=fun p hp=>by
 rcases UG.1 hp with rfl|hp
 ·exact h
 ·exact Qyu h' p hp
theorem Qxc {i j k:Nat} {φ ψ χ:Value->World->Prop} (h:Q3x φ) (h':Q3x ψ) (h'':Q3x χ):∀p∈[(i,φ),(j,ψ),(k,χ)],Q3x p.2:=fun p hp=>by
 rcases UG.1 hp with rfl|hp
 ·exact h
 ·exact Ql1 h' h'' p hp
theorem Qyv {i j k l:Nat} {φ ψ χ ω:Value->World->Prop} (h:Q3x φ) (h':Q3x ψ) (h'':Q3x χ) (h3:Q3x ω):∀p∈[(i,φ),(j,ψ),(k,χ),(l,ω)],Q3x p.2:=fun p hp=>by
 rcases UG.1 hp with rfl|hp
 ·exact h
 ·exact Qxc h' h'' h3 p hp
def Qxd (w:World) (r:Nat) (D:Dyadic) (W:World):Prop:=∃n a l c e v,Q03 W r (.bool n) (.slice a l c) (.int .i64 e)/\Q0x W a l c v/\Q5n n v e/\dy (sgn n v) e=D/\Bw w W
theorem Q51 {w W:World} {r:Nat} {D:Dyadic} {b0:Bool} {a0:OA} {n0 c0:Nat} {e0:Int} (hr:w.heap.size<=r) (hb:Bw w W) (hN:Q03 W r (.bool b0) (.slice a0 n0 c0) (.int .i64 e0)) {n:Bool} {a:OA} {l c v:Nat} {e:Int} (hd:Q0x W a l c v) (hc:Q5n n v e) (hD:dy (sgn n v) e=D):
 Qxd w r D (((W.setCell ⟨r,0,none⟩ (.bool n)).setCell ⟨r,1,none⟩ (.slice a l c)).setCell ⟨r,2,none⟩ (.int .i64 e)):=
 ⟨n,a,l,c,e,v,hN.store _ _ _,hd.box hN _ _ _,hc,hD,Q03.below hb hr _ _ _⟩
theorem Q0x.none_of {w:World} {a:OA} {n c v:Nat} (h:Q0x w a n c v) (h0:v=0):n=0:=by rw[<-h.len,h0,Q1d];rfl
theorem Q0x.zero_of {w:World} {a:OA} {n c v:Nat} (h:Q0x w a n c v) (h0:n=0):v=0:=(Q7c (B:=2^32) (by decide)).1 (UH.1 (by rw[h.len,h0]))
theorem Quw {w:World} {a:OA} {n c v:Nat} (h:Q0x w a n c v):n<=9223372036854775807:=Ul h.cap h.most
theorem Ql2 {neg:Bool} {e:Int} {L:LN} (h:Q0a neg e L) (hl:Low (2^64) L):Q5n neg (val (2^64) L) e:=by
 rcases Q1a h hl with ⟨rfl,hn,he⟩|⟨_,ho,_⟩
 ·exact ⟨fun _=>⟨hn,he⟩,fun h=>absurd rfl h⟩
 ·exact ⟨fun e=>(by rw[e] at ho;cases ho),fun _=>ho⟩
theorem Ql3 {u v k:Nat} (h1:(dig (2^32) v).length<=k) (h2:(dig (2^32) u).length+1<=k+1):(dig (2^32) (v+u)).length<=k+1:=by
 have g1:=Q2y (B:=2^32) (by decide) (dig (2^32) v) (Q2i (by decide) v);have g2:=Q2y (B:=2^32) (by decide) (dig (2^32) u) (Q2i (by decide) u);rw[Q0s (by decide)] at g1 g2;have g3:=Ue g1 (UL (by decide:0<2^32) h1);have g4:=Ue g2 (UL (by decide:0<2^32) (by omega:(dig (2^32) u).length<=k));refine Q2q (by decide) ?_;rw[Tg];generalize (2^32)^k=K at*;omega
theorem Qd2 (neg:Bool) {v:Nat} (e:Int) (h:v=0):dy (sgn neg v) e=0:=by subst h;rw[Q4b];exact Q6s e
theorem Q9l {v k j:Nat} (h0:v≠0) (h:Q76 v k) (h':Q76 v j):k=j:=by
 have key:∀{a b:Nat},Q76 v a->Q76 v b->¬a<b:=fun {a b} h1 h2 E0=>by
  have h3:=(h2.2 h0).1;have h4:=h1.1;have h5:2^a<=2^(b-1):=UL (by decide) (by omega);omega
 have:=key h h';have:=key h' h;omega
theorem Qxe (x:Int) (w:World):Calls Tryz.prog 204 #[.int .i64 x] w fun e w'=>e=.returned (.bool false)/\w=w':=by
 go_enter Tryz.func204,Tryz.ntmps204
 go_wp2_with fail
 go_ret;exact ⟨by simp,rfl⟩
theorem Qrt (x y:Int) (w:World):Calls Tryz.prog 148 #[.int .i64 x,.int .i64 y] w fun e w'=>e=.returned (.int .i64 (Lib.compareInt x y))/\w=w':=by
 have hn:=fun x=>Qxe x w
 by_cases h1:x<y
 ·go_enter Tryz.func148,Tryz.ntmps148
  go_wp2_with (refine (hn _).mono ?_;rintro e w1 ⟨rfl,rfl⟩)
  go_ret;exact ⟨by simp[Lib.compareInt,h1],rfl⟩
 ·by_cases h2:y<x
  ·go_enter Tryz.func148,Tryz.ntmps148
   go_wp2_with (refine (hn _).mono ?_;rintro e w1 ⟨rfl,rfl⟩)
   go_ret;exact ⟨by rw[Lib.compareInt,Us (by omega),Uu (by omega)];rfl,rfl⟩
  ·go_enter Tryz.func148,Tryz.ntmps148
   go_wp2_with (refine (hn _).mono ?_;rintro e w1 ⟨rfl,rfl⟩)
   go_ret;exact ⟨by rw[Lib.compareInt,Us (by omega),Us (by omega)];rfl,rfl⟩
theorem Q5d (x y:Int):(Lib.compareInt x y<0↔x<y)/\(0<Lib.compareInt x y↔y<x):=by
 unfold Lib.compareInt
 split
 ·omega
 ·split <;> omega
theorem Qwj {Φ P:World->Prop} (W:World) (hW:Φ W) (h:∀U,Φ U->P U):P W:=h W hW
def WdE (v:Nat):Value->World->Prop:=fun u W=>∃a n c,u=.slice a n c/\WordsIn W a n c (dig (2^64) v)
theorem Qf6 (v:Nat):Q3x (WdE v):=fun _ _ _ ⟨a,n,c,h1,h2⟩ hb=>⟨a,n,c,h1,h2.step hb⟩
def SgE (p q:Nat):Value->World->Prop:=fun u _=>∃r:Int,u=.int .i64 r/\(r<0↔p<q)/\(0<r↔q<p)/\-1<=r/\r<=1
theorem Q83 (p q:Nat):Q3x (SgE p q):=fun _ _ _ h _=>h
structure Qru (w W:World) (nx:Bool) (ex:Int) (ax:OA) (lx cx:Nat) (ls:LN) (ny:Bool) (ey:Int) (ay:OA) (ly cy:Nat) (ks:LN):Prop where
 x:Q03 W w.heap.size (.bool nx) (.int .i64 ex) (.slice ax lx cx)
 y:Q03 W (w.heap.size+1) (.bool ny) (.int .i64 ey) (.slice ay ly cy)
 wx:WordsIn W ax lx cx ls
 wy:WordsIn W ay ly cy ks
 lt:w.heap.size+1<W.heap.size
 bel:Bw w W
section
variable {w W W':World} {nx ny:Bool} {ex ey:Int} {ax ay:OA} {lx cx ly cy:Nat} {ls ks:LN}
theorem Qru.step (h:Qru w W nx ex ax lx cx ls ny ey ay ly cy ks) (hb:Bw W W'):Qru w W' nx ex ax lx cx ls ny ey ay ly cy ks:=by
 have hl:=h.lt;exact ⟨h.x.step hb (by omega),h.y.step hb (by omega),h.wx.step hb,h.wy.step hb,Ue hl hb.size,Below.next0 h.bel hb⟩
theorem Qru.new (h1:WordsIn w ax lx cx ls) (h2:WordsIn w ay ly cy ks) (T1 T2:TypeId):Qru w ((w.alloc (.cells #[.bool nx,.int .i64 ex,.slice ax lx cx] T1)).alloc (.cells #[.bool ny,.int .i64 ey,.slice ay ly cy] T2)) nx ex ax lx cx ls ny ey ay ly cy ks:=by
 obtain ⟨hs,hX,hY,hB⟩:=Q7d w (.bool nx) (.int .i64 ex) (.slice ax lx cx) (.bool ny) (.int .i64 ey) (.slice ay ly cy) T1 T2;exact ⟨hX,hY,h1.step hB,h2.step hB,by omega,hB⟩
end
theorem Qgn (nx:Bool) (ex:Int) (ax:OA) (lx cx:Nat) (ls:LN) (ny:Bool) (ey:Int) (ay:OA) (ly cy:Nat) (ks:LN) (w:World) (h1:WordsIn w ax lx cx ls) (h2:WordsIn w ay ly cy ks) (hn:lx<=20000) (hm:ly<=20000) (XM: -1000000<=ex) (D5:ex<=1000000) (j5: -1000000<=ey) (Y5:ey<=1000000) (v1:val (2^64) ls≠0) (v2:val (2^64) ks≠0):
 Calls Tryz.prog 98 #[.agg #[.bool nx,.int .i64 ex,.slice ax lx cx],.agg #[.bool ny,.int .i64 ey,.slice ay ly cy]] w fun r w'=>(∃s,r=.returned (.int .i64 s)/\Q3v s (dy (val (2^64) ls:Int) ex) (dy (val (2^64) ks:Int) ey)/\-1<=s/\s<=1)/\Bw w w':=by
 obtain ⟨W0,E1⟩:∃W0,(w.alloc (.cells #[.bool nx,.int .i64 ex,.slice ax lx cx] 26)).alloc (.cells #[.bool ny,.int .i64 ey,.slice ay ly cy] 26)=W0:=⟨_,rfl⟩;have hQ:Qru w W0 nx ex ax lx cx ls ny ey ay ly cy ks:=by rw[<-E1];exact Qru.new h1 h2 _ _
 obtain ⟨p,hp,x7⟩:∃p,Q76 (val (2^64) ls) p/\p<=64*lx:=by
  have h3:=Ue (Q2y (B:=2^64) (by decide) ls h1.low) (Nat.le_of_eq (by rw[h1.len,<-Xab]));have h4:=Q4c (64*lx) _ h3;exact ⟨_,h4,Q4g _ _⟩
 obtain ⟨q,hq,Vo⟩:∃q,Q76 (val (2^64) ks) q/\q<=64*ly:=by
  have h3:=Ue (Q2y (B:=2^64) (by decide) ks h2.low) (Nat.le_of_eq (by rw[h2.len,<-Xab]));exact ⟨_,Q4c (64*ly) _ h3,Q4g _ _⟩
 have hbp:∀W,Bw W0 W->Calls Tryz.prog 145 #[.slice ax lx cx] W fun e w'=>e=.returned (.int .i64 (p:Int))/\Bw W w':=fun W hW=>(Qi5 ax lx cx ls W (hQ.step hW).wx (by omega)).mono (by
  rintro e w' ⟨⟨k,rfl,hk,_⟩,hb⟩;rw[Q9l v1 hk hp];exact ⟨rfl,hb⟩)
 have J7:∀W,Bw W0 W->Calls Tryz.prog 145 #[.slice ay ly cy] W fun e w'=>e=.returned (.int .i64 (q:Int))/\Bw W w':=fun W hW=>(Qi5 ay ly cy ks W (hQ.step hW).wy (by omega)).mono (by
  rintro e w' ⟨⟨k,rfl,hk,_⟩,hb⟩;rw[Q9l v2 hk hq];exact ⟨rfl,hb⟩)
 obtain ⟨P,hP⟩:∃P,(p:Int)+ex=P:=⟨_,rfl⟩;obtain ⟨Q,hQQ⟩:∃Q,(q:Int)+ey=Q:=⟨_,rfl⟩;have hwp:IntKind.i64.wrap ((p:Int)+ex)=P:=by rw[UO];omega
 have XJ:IntKind.i64.wrap ((q:Int)+ey)=Q:=by rw[UO];omega
 have HC:=Ua (fun W (hW:Bw W0 W)=>And.intro (hQ.step hW) (And.intro (hbp W hW) (J7 W hW)));have HV:=Xh6 hp hq v1 v2 hP hQQ;have HW:=Xh2 hwp XJ;clear hQ hbp J7 hp hq v1 v2 hP hQQ hwp XJ h1 h2
 go_enter Tryz.func98,Tryz.ntmps98
 go_upto_region 1 with fail
 clear E1;refine Q06 (E:=Q8a) (fun _=>Uc _ _) (by kernel_rfl) (fun W=>Bw W0 W) (fun _ _ h h'=>Below.next0 h h') (Q40 [.pointer (some ⟨w.heap.size,2,none⟩),.slice ax lx cx,.int .i64 (p:Int),.pointer (some ⟨w.heap.size,1,none⟩),.int .i64 ex,.int .i64 P,.pointer (some ⟨w.heap.size+1,2,none⟩),.slice ay ly cy,.int .i64 (q:Int),.pointer (some ⟨w.heap.size+1,1,none⟩),.int .i64 ey,.int .i64 Q,.int .i64 P,.int .i64 Q] (fun _=>none)) (Q0c (fun _ _ h=>by cases h)) (Q0w (by kernel_rfl)) (by kernel_rfl) (Q01 W0) ?_ ?_
 ·skip
  repeat' (first|exact Q8n|refine Q8m ?_ ?_)
  all_goals
   refine Q1u rfl fun A W hW G0 hd hd=>?_;simp[Q7q,Region.binds] at hd;have e2:=Q0d G0 2 (by kernel_rfl) rfl;have e3:=Q0d G0 3 (by kernel_rfl) rfl;have hc:=(HC.out W hW).1
   first
   |(refine Q2x rfl rfl ?_;simp[go_sem,hd,e2,e3,hc.x.c1,hc.x.c2,hc.y.c1,hc.y.c2,(Xo0 HW),(Xe1 HW)];done)
   |(refine Q29 rfl rfl ?_ (HC.out W hW).2.1;simp[go_sem,hd];done)
   |(refine Q29 rfl rfl ?_ (HC.out W hW).2.2;simp[go_sem,hd];done)
 intro vs W1 I1 K2;have e12:vs 12=.int .i64 P:=(Q0f rfl).1 (K2 12 (by decide));have e13:vs 13=.int .i64 Q:=(Q0f rfl).1 (K2 13 (by decide));simp only[Q0r,Act.put,Ur,Ux,Uv,e12,e13];have HB:=Ua I1;clear I1 K2 e12 e13
 by_cases P0:P=Q
 case neg=>
  have hne':(P==Q)=false:=by rw[Uj];exact P0
  have HN:=Ua P0;clear P0
  go_wp2_with (go_at_call 148;refine (Qrt P Q _).mono ?_;rintro e w2 ⟨rfl,rfl⟩)
  go_ret;refine ⟨⟨_,rfl,?_,?_⟩,Below.next0 (HC.out W0 (Uc _ _)).1.bel HB.out⟩
  ·obtain ⟨hp,hq,v1,v2,hP,hQ⟩:=HV.out;have:=HN.out;exact Qo6 hp hq v1 v2 (by omega) (by rw[hP,hQ];exact Q5d P Q)
  ·unfold Lib.compareInt;split
   ·decide
   ·split <;> decide
 case pos=>
 have hne':(P==Q)=true:=by rw[beq_iff_eq];exact P0
 clear P0;have C2:=(HC.out W1 HB.out).1;have x1:=C2.x.c1;have y1:=C2.y.c1;have HD:=Ua (fun W (hW:Bw W1 W)=>C2.step hW);clear C2
 by_cases hgt:ey<ex
 ·obtain ⟨z,hz⟩:∃z:Nat,ex=ey+z:=⟨(ex-ey).toNat,by omega⟩;have z7:IntKind.i64.wrap (ex-ey)=(z:Int):=by rw[UO];omega
  have Kr:∀W,Bw W1 W->Calls Tryz.prog 150 #[.slice ax lx cx,.int .i64 (z:Int)] W (Q90 W (val (2^64) ls*2^z)):=fun W hW=>Qd0 ax lx cx ls z W (HD.out W hW).wx (by omega) (by omega);obtain ⟨V,hV⟩:∃V,val (2^64) ls*2^z=V:=⟨_,rfl⟩;rw[hV] at Kr;have K0:64*(dig (2^64) V).length<=64*lx+z+63:=Qgj (by
   rw[<-hV,Tw];exact TW (by have:=Q82 (HD.out W1 (Uc _ _)).wx.low;rwa[(HD.out W1 (Uc _ _)).wx.len] at this) (Tv (by decide)))
  have HU:=Xh4 Kr hV hz K0;clear Kr hV hz K0
  go_upto_region 5 with fail
  refine Qwj (Φ:=fun U=>Bw W1 U) (P:=fun U=>Code.wp _ _ _ _ U) _ (Uc _ _) ?_;intro U hU;have HX:=Ua hU;clear hU x1 y1;refine Q06 (E:=Q8a) (fun _=>Uc _ _) (by kernel_rfl) (fun W=>Bw U W) (fun _ _ h h'=>Below.next0 h h') (Q40 [.pointer (some ⟨w.heap.size,2,none⟩),.slice ax lx cx,.pointer (some ⟨w.heap.size,1,none⟩),.int .i64 ex,.pointer (some ⟨w.heap.size+1,1,none⟩),.int .i64 ey,.int .i64 (z:Int),undef,.pointer (some ⟨w.heap.size+1,2,none⟩),.slice ay ly cy,undef,undef] (Q1h [(7,WdE V),(10,SgE V (val (2^64) ks)),(11,SgE V (val (2^64) ks))])) (Q0c (Q0h (Qxc (Qf6 _) (Q83 _ _) (Q83 _ _)))) (Q0w (by kernel_rfl)) (by kernel_rfl) (Q01 U) ?_ ?_
  ·skip
   repeat' (first|exact Q8n|refine Q8m ?_ ?_)
   all_goals first
    |(refine Q1u rfl fun A W hW G0 hd hd=>?_
      simp[Q7q,Region.binds,Q1h] at hd;have e2:=Q0d G0 2 (by kernel_rfl) rfl;have e3:=Q0d G0 3 (by kernel_rfl) rfl;have hc:=HD.out W (Below.next0 HX.out hW);refine Q2x rfl rfl ?_;simp[go_sem,hd,e2,e3,hc.x.c1,hc.x.c2,hc.y.c1,hc.y.c2,z7]
      done)
    |skip
   ·intro A W hW G0 C0;have e31:=Q12 C0 1 (by decide) rfl rfl rfl;have e36:=Q12 C0 6 (by decide) rfl rfl rfl;refine Q07 rfl ?_;refine Q0z (f:=150) (args:= #[.slice ax lx cx,.int .i64 (z:Int)]) (by simp[go_sem,e31,e36]) (((Xo0 HU) W (Below.next0 HX.out hW)).mono ?_);rintro e w' ⟨a,n,c,rfl,hw,hb⟩;exact ⟨_,rfl,hb,(Q02 rfl).2 ⟨a,n,c,rfl,hw⟩⟩
   ·intro A W hW G0 C0;obtain ⟨a,n,c,ha,hw⟩:=(Q02 rfl).1 (C0 7 (by decide));have e37:=Q44 ha;have e39:=Q12 C0 9 (by decide) rfl rfl rfl;have hnl:n<=80000:=(by have h1:=hw.len;have h2:=(Xe3 HU);have h3:=(Xo2 HU);omega);refine Q07 rfl ?_;refine Q0z (f:=149) (args:= #[.slice a n c,.slice ay ly cy]) (by simp[go_sem,e37,e39]) ((Q8l a n c _ ay ly cy ks W hw (HD.out W (Below.next0 HX.out hW)).wy (by omega)).mono ?_);rintro e w' ⟨⟨r,rfl,h1,h2,h3⟩,hb⟩;rw[Q0s (by decide)] at h1 h2;exact ⟨_,rfl,hb,(Q02 rfl).2 ⟨r,rfl,h1,h2,h3⟩⟩
   ·intro A W hW G0 C0;obtain ⟨r,hr,h1⟩:=(Q02 rfl).1 (C0 10 (by decide));have e40:=Q44 hr;refine Q07 rfl ?_;refine Q6v (u:=.int .i64 r) (by simp[go_sem,e40]) ((Q02 rfl).2 ⟨r,rfl,h1⟩)
  intro vs W2 u4 K2;obtain ⟨r,hr,h3,h4⟩:=(Q02 rfl).1 (K2 11 (by decide));simp only[Q0r,Act.put,Ur,Ux,Uv,hr];have HR:=Xh3 u4 h3 h4;clear u4 K2 hr h3 h4
  go_wp2_with fail
  go_ret;refine ⟨⟨r,rfl,?_,(Xe3 HR)⟩,Below.next0 (Below.next0 (Below.next0 (HC.out W0 (Uc _ _)).1.bel HB.out) HX.out) (Xo0 HR)⟩;obtain ⟨h0,h3,h4,_⟩:=HR.out;rw[Q9c (Xo2 HU)];have hc:(val (2^64) ls:Int)*2^z=(V:Int):=by rw[<-(Xo1 HU)];simp
  rw[hc];omega
 ·obtain ⟨z,hz⟩:∃z:Nat,ey=ex+z:=⟨(ey-ex).toNat,by omega⟩;have z7:IntKind.i64.wrap (ey-ex)=(z:Int):=by rw[UO];omega
  have Kr:∀W,Bw W1 W->Calls Tryz.prog 150 #[.slice ay ly cy,.int .i64 (z:Int)] W (Q90 W (val (2^64) ks*2^z)):=fun W hW=>Qd0 ay ly cy ks z W (HD.out W hW).wy (by omega) (by omega);obtain ⟨V,hV⟩:∃V,val (2^64) ks*2^z=V:=⟨_,rfl⟩;rw[hV] at Kr;have HU:=Xh3 Kr hV hz;clear Kr hV hz
  go_upto_region 6 with fail
  refine Qwj (Φ:=fun U=>Bw W1 U) (P:=fun U=>Code.wp _ _ _ _ U) _ (Uc _ _) ?_;intro U hU;have HX:=Ua hU;clear hU x1 y1;refine Q06 (E:=Q8a) (fun _=>Uc _ _) (by kernel_rfl) (fun W=>Bw U W) (fun _ _ h h'=>Below.next0 h h') (Q40 [.pointer (some ⟨w.heap.size,2,none⟩),.slice ax lx cx,.pointer (some ⟨w.heap.size+1,2,none⟩),.slice ay ly cy,.pointer (some ⟨w.heap.size+1,1,none⟩),.int .i64 ey,.pointer (some ⟨w.heap.size,1,none⟩),.int .i64 ex,.int .i64 (z:Int),undef,undef,undef] (Q1h [(9,WdE V),(10,SgE (val (2^64) ls) V),(11,SgE (val (2^64) ls) V)])) (Q0c (Q0h (Qxc (Qf6 _) (Q83 _ _) (Q83 _ _)))) (Q0w (by kernel_rfl)) (by kernel_rfl) (Q01 U) ?_ ?_
  ·skip
   repeat' (first|exact Q8n|refine Q8m ?_ ?_)
   all_goals first
    |(refine Q1u rfl fun A W hW G0 hd hd=>?_
      simp[Q7q,Region.binds,Q1h] at hd;have e2:=Q0d G0 2 (by kernel_rfl) rfl;have e3:=Q0d G0 3 (by kernel_rfl) rfl;have hc:=HD.out W (Below.next0 HX.out hW);refine Q2x rfl rfl ?_;simp[go_sem,hd,e2,e3,hc.x.c1,hc.x.c2,hc.y.c1,hc.y.c2,z7]
      done)
    |skip
   ·intro A W hW G0 C0;have e44:=Q12 C0 3 (by decide) rfl rfl rfl;have e49:=Q12 C0 8 (by decide) rfl rfl rfl;refine Q07 rfl ?_;refine Q0z (f:=150) (args:= #[.slice ay ly cy,.int .i64 (z:Int)]) (by simp[go_sem,e44,e49]) (((Xo0 HU) W (Below.next0 HX.out hW)).mono ?_);rintro e w' ⟨a,n,c,rfl,hw,hb⟩;exact ⟨_,rfl,hb,(Q02 rfl).2 ⟨a,n,c,rfl,hw⟩⟩
   ·intro A W hW G0 C0;obtain ⟨a,n,c,ha,hw⟩:=(Q02 rfl).1 (C0 9 (by decide));have e50:=Q44 ha;have e42:=Q12 C0 1 (by decide) rfl rfl rfl;refine Q07 rfl ?_;refine Q0z (f:=149) (args:= #[.slice ax lx cx,.slice a n c]) (by simp[go_sem,e42,e50]) ((Q8l ax lx cx ls a n c _ W (HD.out W (Below.next0 HX.out hW)).wx hw (by omega)).mono ?_);rintro e w' ⟨⟨r,rfl,h1,h2,h3⟩,hb⟩;rw[Q0s (by decide)] at h1 h2;exact ⟨_,rfl,hb,(Q02 rfl).2 ⟨r,rfl,h1,h2,h3⟩⟩
   ·intro A W hW G0 C0;obtain ⟨r,hr,h1⟩:=(Q02 rfl).1 (C0 10 (by decide));have e51:=Q44 hr;refine Q07 rfl ?_;refine Q6v (u:=.int .i64 r) (by simp[go_sem,e51]) ((Q02 rfl).2 ⟨r,rfl,h1⟩)
  intro vs W2 u4 K2;obtain ⟨r,hr,h3,h4⟩:=(Q02 rfl).1 (K2 11 (by decide));simp only[Q0r,Act.put,Ur,Ux,Uv,hr];have HR:=Xh3 u4 h3 h4;clear u4 K2 hr h3 h4
  go_wp2_with fail
  go_ret;refine ⟨⟨r,rfl,?_,(Xe3 HR)⟩,Below.next0 (Below.next0 (Below.next0 (HC.out W0 (Uc _ _)).1.bel HB.out) HX.out) (Xo0 HR)⟩;obtain ⟨h0,h3,h4,_⟩:=HR.out;rw[Q9d (Xe2 HU)];have hc:(val (2^64) ks:Int)*2^z=(V:Int):=by rw[<-(Xo1 HU)];simp
  rw[hc];generalize val (2^64) ls=u at*;omega
theorem Qd3 {w:World} {n:Bool} {e:Int} {a:OA} {l c:Nat} {L:LN} (h:WordsIn w a l c L) (hi:Q0a n e L):l<=64/\-65536<=e/\e<=65536:=by
 have hl:=h.len;rcases Q1a hi h.low with ⟨h1,_,h3⟩|⟨_,_,h3,h4,h5,h6⟩
 ·subst h1;simp at hl;omega
 ·have:=Qg1 h4;rw[<-h3] at this;omega
theorem Qb2 (nx:Bool) (ex:Int) (ax:OA) (lx cx:Nat) (ls:LN) (ny:Bool) (ey:Int) (ay:OA) (ly cy:Nat) (ks:LN) (w:World) (h1:WordsIn w ax lx cx ls) (h2:WordsIn w ay ly cy ks) (i1:Q0a nx ex ls) (i2:Q0a ny ey ks):
 Calls Tryz.prog 55 #[.agg #[.bool nx,.int .i64 ex,.slice ax lx cx],.agg #[.bool ny,.int .i64 ey,.slice ay ly cy]] w fun r w'=>(∃s,r=.returned (.int .i64 s)/\Q3v s (Q1r nx ex ls) (Q1r ny ey ks))/\Bw w w':=by
 obtain ⟨b1,b2,b3⟩:=Qd3 h1 i1;obtain ⟨b4,b5,b6⟩:=Qd3 h2 i2;unfold Q1r;obtain ⟨W0,E1⟩:∃W0,(w.alloc (.cells #[.bool nx,.int .i64 ex,.slice ax lx cx] 26)).alloc (.cells #[.bool ny,.int .i64 ey,.slice ay ly cy] 26)=W0:=⟨_,rfl⟩;have hQ:Qru w W0 nx ex ax lx cx ls ny ey ay ly cy ks:=by rw[<-E1];exact Qru.new h1 h2 _ _
 obtain ⟨sx,t8⟩:∃sx,Qaa nx (val (2^64) ls)=sx:=⟨_,rfl⟩;obtain ⟨sy,QB⟩:∃sy,Qaa ny (val (2^64) ks)=sy:=⟨_,rfl⟩;have hgx:∀W,Bw W0 W->Calls Tryz.prog 95 #[.agg #[.bool nx,.int .i64 ex,.slice ax lx cx]] W fun e w'=>e=.returned (.int .i64 sx)/\Bw W w':=fun W hW=>by
  have h:=Q3w nx ex ax lx cx ls W (hQ.step hW).wx (by omega);rw[<-t8];exact h
 have hgy:∀W,Bw W0 W->Calls Tryz.prog 95 #[.agg #[.bool ny,.int .i64 ey,.slice ay ly cy]] W fun e w'=>e=.returned (.int .i64 sy)/\Bw W w':=fun W hW=>by
  have h:=Q3w ny ey ay ly cy ks W (hQ.step hW).wy (by omega);rw[<-QB];exact h
 have HC:=Ua (fun W (hW:Bw W0 W)=>And.intro (hQ.step hW) (And.intro (hgx W hW) (hgy W hW)));have HS:=Xh2 t8 QB;clear hQ hgx hgy h1 h2 t8 QB i1 i2
 go_enter Tryz.func55,Tryz.ntmps55
 go_upto_region 1 with fail
 clear E1;refine Q06 (E:=Q8a) (fun _=>Uc _ _) (by kernel_rfl) (fun W=>Bw W0 W) (fun _ _ h h'=>Below.next0 h h') (Q40 [.agg #[.bool nx,.int .i64 ex,.slice ax lx cx],.int .i64 sx,.agg #[.bool ny,.int .i64 ey,.slice ay ly cy],.int .i64 sy,.int .i64 sx,.int .i64 sy] (fun _=>none)) (Q0c (fun _ _ h=>by cases h)) (Q0w (by kernel_rfl)) (by kernel_rfl) (Q01 W0) ?_ ?_
 ·skip
  repeat' (first|exact Q8n|refine Q8m ?_ ?_)
  all_goals
   refine Q1u rfl fun A W hW G0 hd hd=>?_;simp[Q7q,Region.binds] at hd;have e2:=Q0d G0 2 (by kernel_rfl) rfl;have e3:=Q0d G0 3 (by kernel_rfl) rfl;have hc:=(HC.out W hW).1
   first
   |(refine Q2x rfl rfl ?_;simp[go_sem,hd,e2,e3,hc.x.c0,hc.x.c1,hc.x.c2,hc.y.c0,hc.y.c1,hc.y.c2];done)
   |(refine Q29 rfl rfl ?_ (HC.out W hW).2.1;simp[go_sem,hd];done)
   |(refine Q29 rfl rfl ?_ (HC.out W hW).2.2;simp[go_sem,hd];done)
 intro vs W1 I1 K2;have e4:vs 4=.int .i64 sx:=(Q0f rfl).1 (K2 4 (by decide));have e5:vs 5=.int .i64 sy:=(Q0f rfl).1 (K2 5 (by decide));simp only[Q0r,Act.put,Ur,Ux,Uv,e4,e5];have HB:=Ua I1;clear I1 K2 e4 e5;have R2:=fun W=>Tryz.J0z sx sy W
 by_cases P0:sx=sy
 case neg=>
  have hne':(sx==sy)=false:=by rw[Uj];exact P0
  have HN:=Ua P0;clear P0
  go_wp2_with (go_at_call 97;refine (R2 _).mono ?_;rintro e w2 ⟨rfl,R4⟩;obtain rfl:=R4.symm)
  go_ret;refine ⟨⟨_,rfl,?_⟩,Below.next0 (HC.out W0 (Uc _ _)).1.bel HB.out⟩;obtain ⟨t8,QB⟩:=HS.out;refine Qf0 (.inl (by rw[t8,QB];exact HN.out)) ?_;rw[t8,QB];exact Q5d sx sy
 case pos=>
 subst P0
 by_cases h0:sx=0
 ·subst h0
  go_wp2_with (go_at_call 97;refine (R2 _).mono ?_;rintro e w2 ⟨rfl,R4⟩;obtain rfl:=R4.symm)
  go_ret;refine ⟨⟨_,rfl,?_⟩,Below.next0 (HC.out W0 (Uc _ _)).1.bel HB.out⟩;obtain ⟨t8,QB⟩:=HS.out;refine Qf0 (.inr t8) ?_;rw[t8,QB];exact Q5d 0 0
 ·have Yw:(sx==0)=false:=by rw[Uj];exact h0
  have Z9:nx=ny/\val (2^64) ls≠0/\val (2^64) ks≠0/\sx=Qaa nx 1/\(sx=1∨sx= -1):=by
   obtain ⟨t8,QB⟩:=HS.out;unfold Qaa at*
   by_cases z1:val (2^64) ls=0
   ·rw[Uu z1] at t8;exact absurd t8.symm h0
   ·by_cases z2:val (2^64) ks=0
    ·rw[Uu z2] at QB;exact absurd QB.symm h0
    ·rw[Us z1] at t8;rw[Us z2] at QB;refine ⟨?_,z1,z2,?_⟩
     ·cases nx <;> cases ny <;> simp at t8 QB <;> first|rfl|omega
     ·rw[Us (by decide),t8];refine ⟨rfl,?_⟩;rw[<-t8];split
      ·exact .inr rfl
      ·exact .inl rfl
  have C2:=(HC.out W1 HB.out).1;have x0:=C2.x.c0;have x1:=C2.x.c1;have x2:=C2.x.c2;have y0:=C2.y.c0;have y1:=C2.y.c1;have y2:=C2.y.c2;have Y1:=Qgn nx ex ax lx cx ls ny ey ay ly cy ks W1 C2.wx C2.wy (by omega) (by omega) (by omega) (by omega) (by omega) (by omega) Z9.2.1 Z9.2.2.1;have HZ:=Xh2 Y1 Z9;clear C2 Y1 Z9 h0
  go_wp2_with (go_at_call 98;refine (Xo0 HZ).mono ?_;rintro e w2 ⟨⟨s,rfl,hs,D2,Q5⟩,D0⟩;have Zb:wrap64 (sx*s)=sx*s:=(by unfold wrap64;rcases (Xe5 HZ) with h|h <;> rw[h] <;> omega);have hws2:IntKind.i64.wrap (sx*s)=sx*s:=(by rw[UO];rcases (Xe5 HZ) with h|h <;> rw[h] <;> omega);have H2:=Xh2 hs D0;clear hs D0)
  go_ret;refine ⟨⟨_,rfl,?_⟩,Below.next0 (Below.next0 (HC.out W0 (Uc _ _)).1.bel HB.out) (Xe1 H2)⟩;obtain ⟨_,rfl,_,_,K4,_⟩:=HZ.out;exact Qr9 (Xo0 H2) (by rw[K4])
def RdZ (w:World) (B:Nat) (a:OA) (E:List Int):Prop:=
 E=[]∨∃b o,a=some ⟨b,o,none⟩/\b<B/\∀(j:Nat) x,E[j]?=some x->w.cell? ⟨b,o+j,none⟩=some (.int .i64 x)
section
variable {w w':World} {B B':Nat} {a:OA} {E:List Int}
theorem RdZ.keep (h:RdZ w B a E) (hk:∀p:Addr,p.block<B->w'.cell? p=w.cell? p):RdZ w' B a E:=by
 rcases h with rfl|⟨b,o,rfl,hb,hc⟩
 ·exact .inl rfl
 ·exact .inr ⟨b,o,rfl,hb,fun j x hx=>(hk _ hb).trans (hc j x hx)⟩
theorem RdZ.more (h:RdZ w B a E) (hB:B<=B'):RdZ w B' a E:=by
 rcases h with rfl|⟨b,o,rfl,hb,hc⟩
 ·exact .inl rfl
 ·exact .inr ⟨b,o,rfl,by omega,hc⟩
theorem RdZ.below (h:RdZ w B a E) (hb:Below B w w'):RdZ w' B a E:=h.keep fun _ hp=>hb.cell hp
theorem RdZ.at_ {k:Nat} {x:Int} (h:RdZ w B a E) (hx:E[k]?=some x):∃b o,a=some ⟨b,o,none⟩/\b<B/\w.cell? ⟨b,o+k,none⟩=some (.int .i64 x):=by
 rcases h with rfl|⟨b,o,rfl,hb,hc⟩
 ·simp at hx
 ·exact ⟨b,o,rfl,hb,hc k x hx⟩
end
inductive ZK where
 |k
def Zz [LT ZK]:Prop:=ZK.k<ZK.k
theorem zz_t [LT ZK] [h:Nonempty (PLift Zz)]:Zz:=h.elim PLift.down
theorem zz_f [LT ZK] [h:Nonempty (PLift (¬Zz))]:¬Zz:=h.elim PLift.down
def J00 [LT ZK] (a:OA) (E:List Int):Prop:=(∀x∈E,-9223372036854775808<=x/\x<=9223372036854775807)/\∀b o,a=some ⟨b,o,none⟩->Zz->o=0
theorem J00.new [LT ZK] {b:Nat} {E:List Int} (h:∀x∈E,-9223372036854775808<=x/\x<=9223372036854775807):J00 (some ⟨b,0,none⟩) E:=⟨h,fun _ _ e _=>by cases e;rfl⟩
structure Q0q [LT ZK] (w:World) (a:OA) (n c:Nat) (E:List Int):Prop where
 len:E.length=n
 cap:n<=c
 most:c<=9223372036854775807
 rng:J00 a E
 rd:RdZ w w.heap.size a E
theorem Q0q.step [LT ZK] {w w':World} {a:OA} {n c:Nat} {E:List Int} (h:Q0q w a n c E) (hb:Bw w w'):Q0q w' a n c E:=⟨h.len,h.cap,h.most,h.rng,(h.rd.below hb).more hb.size⟩
structure Q32 (w:World) (b:Nat) (v0 v1 v2 v3:Value):Prop where
 c0:w.cell? ⟨b,0,none⟩=some v0
 c1:w.cell? ⟨b,1,none⟩=some v1
 c2:w.cell? ⟨b,2,none⟩=some v2
 c3:w.cell? ⟨b,3,none⟩=some v3
 f0:w.frozen? ⟨b,0,none⟩=false
 f1:w.frozen? ⟨b,1,none⟩=false
 f2:w.frozen? ⟨b,2,none⟩=false
 f3:w.frozen? ⟨b,3,none⟩=false
theorem Q32.cc {w:World} {b:Nat} {v0 v1 v2 v3:Value} (h:Q32 w b v0 v1 v2 v3):w.cell? ⟨b,0,none⟩=some v0/\w.cell? ⟨b,1,none⟩=some v1/\w.cell? ⟨b,2,none⟩=some v2:=⟨h.c0,h.c1,h.c2⟩
theorem Q32.cf {w:World} {b:Nat} {v0 v1 v2 v3:Value} (h:Q32 w b v0 v1 v2 v3):w.cell? ⟨b,0,none⟩=some v0/\w.cell? ⟨b,1,none⟩=some v1/\w.cell? ⟨b,2,none⟩=some v2/\w.frozen? ⟨b,0,none⟩=false/\w.frozen? ⟨b,1,none⟩=false/\w.frozen? ⟨b,2,none⟩=false:=⟨h.c0,h.c1,h.c2,h.f0,h.f1,h.f2⟩
theorem Q32.new (w:World) (v0 v1 v2 v3:Value) (T:TypeId):Q32 (w.alloc (.cells #[v0,v1,v2,v3] T)) w.heap.size v0 v1 v2 v3:=
 ⟨by rw[Uw _ _ _ _ _ _ (Uo _ _)];rfl,by rw[Uw _ _ _ _ _ _ (Uo _ _)];rfl,by rw[Uw _ _ _ _ _ _ (Uo _ _)];rfl,by rw[Uw _ _ _ _ _ _ (Uo _ _)];rfl,
   TO _ _ _ _ _ (Uo _ _),TO _ _ _ _ _ (Uo _ _),TO _ _ _ _ _ (Uo _ _),TO _ _ _ _ _ (Uo _ _)⟩
theorem Q32.step {w w':World} {b B:Nat} {v0 v1 v2 v3:Value} (h:Q32 w b v0 v1 v2 v3) (hb:Below B w w') (hB:b<B):Q32 w' b v0 v1 v2 v3:=
 ⟨(hb.cell (p:=⟨b,0,none⟩) hB).trans h.c0,(hb.cell (p:=⟨b,1,none⟩) hB).trans h.c1,(hb.cell (p:=⟨b,2,none⟩) hB).trans h.c2,(hb.cell (p:=⟨b,3,none⟩) hB).trans h.c3,(hb.frozen (p:=⟨b,0,none⟩) hB).trans h.f0,(hb.frozen (p:=⟨b,1,none⟩) hB).trans h.f1,(hb.frozen (p:=⟨b,2,none⟩) hB).trans h.f2,(hb.frozen (p:=⟨b,3,none⟩) hB).trans h.f3⟩
theorem Qbs {E:List Int} {i:Nat} {x:Int} (h:E[i]?=some x):(E.take (i+1)).sum=(E.take i).sum+x:=by
 rw[Tr,h,List.sum_append];simp
theorem Qd4 {E:List Int} {i:Nat} {x:Int} (h:x∈E.take i):∃j,j<i/\E[j]?=some x:=by
 obtain ⟨j,hj⟩:=UQ.1 h;rw[TL] at hj
 split at hj
 ·exact ⟨j,by assumption,hj⟩
 ·cases hj
theorem Qmt [LT ZK] (n:Bool) (e:Int) (a:OA) (l c:Nat) (L:LN) (b:OA) (m d:Nat) (E:List Int) (k:Nat) (w:World) (h:WordsIn w a l c L) (hE:Q0q w b m d E) (hk:k<=9223372036854775807) (he: -9223372036854775808<=e) (D5:e<=9223372036854775807):
 Calls Tryz.prog 92 #[.agg #[.bool n,.int .i64 e,.slice a l c,.slice b m d],.int .i64 (k:Int)] w fun r w'=>r=.returned (.bool (decide (Q10 k E/\Q0a n e L)))/\Bw w w':=by
 obtain ⟨rs,XV⟩:∃rs,decide (Q10 k E/\Q0a n e L)=rs:=⟨_,rfl⟩;rw[XV];have Ko:=Ua XV;clear XV;have A0:Bw w (w.alloc (.cells #[.bool n,.int .i64 e,.slice a l c,.slice b m d] 98)):=Ba;have hX:=Q32.new w (.bool n) (.int .i64 e) (.slice a l c) (.slice b m d) 98;have E0:=Q0p w (.cells #[.bool n,.int .i64 e,.slice a l c,.slice b m d] 98);generalize hW:w.alloc (.cells #[.bool n,.int .i64 e,.slice a l c,.slice b m d] 98)=W at A0 hX E0;obtain ⟨O4,S4,Q3⟩:=hX.cc;have VH:=hX.c3;have Q2:=hE.len;subst Q2;have J9:=Q0y n e a l c L W (h.step A0) he D5 (by have:=h.cap;have:=h.most;omega);have j9:=hE.rd.below A0;have R2:=Ul hE.cap hE.most;have HC:=Xh4 J9 j9 A0 hE.rng.1;clear A0 hX E0 J9 j9 h hE
 go_enter Tryz.func92,Tryz.ntmps92
 go_wp2_with fail
 go_loopw [5,11] (fun lv iv wr=>∃(i:Nat) (s:Int),lv=.int .i64 (8-s)/\iv=.int .i64 (i:Int)/\i<=E.length/\(E.take i).sum=s/\0<=s/\s<=8/\(∀x∈E.take i,0<=x)/\W=wr) (fun _ iv _=>E.length-(intOf iv).toNat)
 case atStart=>exact ⟨0,0,rfl,rfl,Ut _,by simp,by decide,by decide,by simp,rfl⟩
 case round=>
  obtain ⟨i,s,rfl,rfl,hi,hs,Zs,Xe,F6,rfl⟩:=hrel
  by_cases E0:i<E.length
  ·have F0:(i:Int)<(E.length:Int):=(by omega);obtain ⟨x,hx⟩:∃x,E[i]?=some x:=⟨_,Ub E0⟩;obtain ⟨ba,oa,E5,P3,Y3⟩:=(Xo1 HC).at_ hx;subst E5;have hxr:=(Xe3 HC) x (Ug hx);have F9:=Qbs hx;have HS:=Xh4 hs F9 F6 hx;clear hs F9 F6 hx
   by_cases hx0':x<0
   ·go_wp2_with fail
    go_ret;have i4:¬(Q10 k E/\Q0a n e L):=fun h=>by
     have:=h.1.2.1 x (Ug (Xe3 HS));omega
    have hf:rs=false:=(by rw[<-Ko.out];exact UX i4);exact ⟨by rw[hf];rfl,(Xo2 HC)⟩
   ·by_cases hx8:8-s<x
    ·go_wp2_with fail
     go_ret;have i4:¬(Q10 k E/\Q0a n e L):=fun h=>by
      have h1:=(Qbp h.1.2.1 (i+1)).2;have h2:=h.1.2.2;have h3:=(Xo0 HS);have h4:=(Xo1 HS);omega
     have hf:rs=false:=(by rw[<-Ko.out];exact UX i4);exact ⟨by rw[hf];rfl,(Xo2 HC)⟩
    ·go_wp2_with fail
     refine ⟨⟨i+1,s+x,by simp only[Value.int.injEq,true_and];omega,by simp,by omega,by rw[(Xo1 HS),(Xo0 HS)],by omega,by omega,fun y hy=>?_,trivial⟩,by simp only[intOf];omega⟩;obtain ⟨j,hj,hjy⟩:=Qd4 hy
     by_cases hji:j=i
     ·subst hji;have h5:=(Xe3 HS);rw[hjy] at h5;injection h5 with h5;omega
     ·exact (Xo2 HS) y (UQ.2 ⟨j,by rw[TL,Uu (by omega)];exact hjy⟩)
  ·obtain rfl:i=E.length:=(by omega);have F0:¬((E.length:Int)<(E.length:Int)):=(by omega);rw[Ti] at hs F6
   by_cases Z6:E.length=k
   ·subst Z6;have Vd:Q10 E.length E:=⟨rfl,F6,by omega⟩;have hee:((E.length:Int)==(E.length:Int))=true:=(by simp);have HS:=Ua Vd;clear Vd hs F6
    go_wp2_with (refine (Xo0 HC).mono ?_;rintro r w1 ⟨rfl,A0⟩;have HA:=Ua A0;clear A0)
    go_ret;refine ⟨?_,Below.next0 (Xo2 HC) HA.out⟩;have M8:(Q10 E.length E/\Q0a n e L)↔Q0a n e L:=⟨fun h=>h.2,fun h=>⟨HS.out,h⟩⟩;have hf:rs=decide (Q0a n e L):=(by rw[<-Ko.out];exact decide_eq_decide.2 M8);rw[hf];rfl
   ·have hke:((E.length:Int)==(k:Int))=false:=(by rw[Uj];omega);have HS:=Ua Z6;clear hs F6 Z6
    go_wp2_with fail
    go_ret;have i4:¬(Q10 k E/\Q0a n e L):=fun h=>HS.out h.1.1;have hf:rs=false:=(by rw[<-Ko.out];exact UX i4);exact ⟨by rw[hf];rfl,(Xo2 HC)⟩
theorem Qmu {E F:List Int} {i:Nat} {x y:Int} (hx:E[i]?=some x) (hy:F[i]?=some y):Q3e (E.drop i) (F.drop i)=if x<y then -1 else if y<x then 1 else Q3e (E.drop (i+1)) (F.drop (i+1)):=by
 rw[Q92 E i x hx,Q92 F i y hy];rfl
theorem Qd5 [LT ZK] (a:OA) (n c:Nat) (E:List Int) (b:OA) (m d:Nat) (F:List Int) (w:World) (h1:Q0q w a n c E) (h2:Q0q w b m d F):
 Calls Tryz.prog 143 #[.slice a n c,.slice b m d] w fun r w'=>r=.returned (.int .i64 (Q3e E F))/\w'=w:=by
 have i5:=h1.len;have o7:=h2.len;subst i5;subst o7;have C2:=Ul h1.cap h1.most;have A2:=Ul h2.cap h2.most;have R2:=fun x y W=>Tryz.J0z x y W;have HC:=Xh5 h1.rd h2.rd h1.rng.1 h2.rng.1 R2;clear h1 h2 R2;obtain ⟨V,hV⟩:∃V,Q3e E F=V:=⟨_,rfl⟩;rw[hV];have HV:=Ua hV;clear hV
 go_enter Tryz.func143,Tryz.ntmps143
 go_wp2_with fail
 go_loopw [11] (fun iv wr=>∃i:Nat,iv=.int .i64 (i:Int)/\i<=E.length/\i<=F.length/\Q3e (E.drop i) (F.drop i)=V/\w=wr) (fun iv _=>E.length-(intOf iv).toNat)
 case atStart=>exact ⟨0,rfl,Ut _,Ut _,HV.out,rfl⟩
 case round=>
  obtain ⟨i,rfl,hi,hi2,U4,rfl⟩:=hrel
  by_cases E0:i<E.length
  ·have F0:(i:Int)<(E.length:Int):=(by omega);obtain ⟨x,hx⟩:∃x,E[i]?=some x:=⟨_,Ub E0⟩;obtain ⟨ba,oa,E5,P3,Y3⟩:=(Xo0 HC).at_ hx;subst E5
   by_cases VX:i<F.length
   ·have KU:¬(F.length:Int)<=(i:Int):=(by omega);obtain ⟨y,hy⟩:∃y,F[i]?=some y:=⟨_,Ub VX⟩;obtain ⟨bb,ob,I8,Y2,K9⟩:=(Xo1 HC).at_ hy;subst I8;have Kw:=Qmu hx hy;rw[U4] at Kw;have hxr:=(Xo2 HC) x (Ug hx);have hyr:=(Xo3 HC) y (Ug hy);obtain ⟨v,hv⟩:∃v,Lib.compareInt x y=v:=⟨_,rfl⟩;have x4:=(Xe4 HC) x y w;rw[hv] at x4;have hvv:v=if x<y then -1 else if y<x then 1 else 0:=by rw[<-hv];rfl
    have HH:=Xh3 x4 hvv Kw;clear x4 hvv Kw hv hx hy U4
    by_cases x8:v=0
    ·subst x8;have JY:¬x<y/\¬y<x:=by
      have h3:=(Xo1 HH)
      constructor
      ·intro h;rw[Uu h] at h3;omega
      ·intro h;rw[Us (by omega),Uu h] at h3;omega
     have HX:=Ua JY;clear JY
     go_wp2_with (refine (Xo0 HH).mono ?_;rintro r w1 ⟨rfl,rfl⟩)
     refine ⟨⟨i+1,by simp,by omega,by omega,?_,trivial⟩,by simp only[intOf];omega⟩;have h4:=(Xe2 HH);rw[Us (Int.not_lt.2 (Xo0 HX)),Us (Int.not_lt.2 (Xe1 HX))] at h4;exact h4.symm
    ·have hvb:(v==0)=false:=(by rw[Uj];exact x8);have hVv:V=v:=by
      have h3:=(Xo1 HH);have h4:=(Xe2 HH)
      by_cases q1:x<y
      ·rw[Uu q1] at h3 h4;omega
      ·rw[Us q1] at h3 h4
       by_cases q2:y<x
       ·rw[Uu q2] at h3 h4;omega
       ·rw[Us q2] at h3;exact absurd h3 x8
     have HVV:=Ua hVv;clear hVv
     go_wp2_with (refine (Xo0 HH).mono ?_;rintro r w1 ⟨rfl,rfl⟩)
     go_ret;exact ⟨by rw[HVV.out];rfl,rfl⟩
   ·have KU:(F.length:Int)<=(i:Int):=(by omega);have KP:V=1:=by
     rw[<-U4,Q92 E i x hx,Tc (l:=F) (show F.length<=i by omega)];rfl
    subst KP;clear U4 hx
    go_wp2_with fail
    go_ret;exact ⟨rfl,rfl⟩
  ·obtain rfl:i=E.length:=(by omega);have F0:¬((E.length:Int)<(E.length:Int)):=(by omega);rw[Tc (Uf _)] at U4
   by_cases VX:E.length<F.length
   ·have KU:(E.length:Int)<(F.length:Int):=(by omega);obtain ⟨y,hy⟩:∃y,F[E.length]?=some y:=⟨_,Ub VX⟩;have KP:V= -1:=(by rw[<-U4,Q92 F _ y hy];rfl);subst KP;clear U4 hy
    go_wp2_with fail
    go_ret;exact ⟨rfl,rfl⟩
   ·have KU:¬(E.length:Int)<(F.length:Int):=(by omega);have KP:V=0:=(by rw[<-U4,Tc (by omega)];rfl);subst KP;clear U4
    go_wp2_with fail
    go_ret;exact ⟨rfl,rfl⟩
theorem Qrv [LT ZK] (u0 u1 u2:Value) (a:OA) (n c:Nat) (E:List Int) (v0 v1 v2:Value) (b:OA) (m d:Nat) (F:List Int) (w:World) (h1:Q0q w a n c E) (h2:Q0q w b m d F):
 Calls Tryz.prog 93 #[.agg #[u0,u1,u2,.slice a n c],.agg #[v0,v1,v2,.slice b m d]] w fun r w'=>r=.returned (.int .i64 (Q3e F E))/\Bw w w':=by
 have A0:Bw w (w.alloc (.cells #[u0,u1,u2,.slice a n c] 98)):=Ba;have D2:(w.alloc (.cells #[u0,u1,u2,.slice a n c] 98)).heap.size=w.heap.size+1:=Uk _ _;have D0:Below (w.alloc (.cells #[u0,u1,u2,.slice a n c] 98)).heap.size (w.alloc (.cells #[u0,u1,u2,.slice a n c] 98)) ((w.alloc (.cells #[u0,u1,u2,.slice a n c] 98)).alloc (.cells #[v0,v1,v2,.slice b m d] 98)):=Ba;have hX:=(Q32.new w u0 u1 u2 (.slice a n c) 98).step D0 (Q0p _ _);have hY:=Q32.new (w.alloc (.cells #[u0,u1,u2,.slice a n c] 98)) v0 v1 v2 (.slice b m d) 98;rw[D2] at hY;have hB:=Below.next0 A0 D0;generalize hW:(w.alloc (.cells #[u0,u1,u2,.slice a n c] 98)).alloc (.cells #[v0,v1,v2,.slice b m d] 98)=W at hX hY hB;have VH:=hX.c3;have hy3:=hY.c3;have R2:=Qd5 b m d F a n c E W (h2.step hB) (h1.step hB);have HC:=Xh2 R2 hB;clear A0 D2 D0 hX hY hB R2 h1 h2
 go_enter Tryz.func93,Tryz.ntmps93
 go_wp2_with (refine (Xo0 HC).mono ?_;rintro r w1 ⟨rfl,rfl⟩)
 go_ret;exact ⟨rfl,(Xe1 HC)⟩
end Go.Proofs.YtidojbkhlenahaaGreatDoor
