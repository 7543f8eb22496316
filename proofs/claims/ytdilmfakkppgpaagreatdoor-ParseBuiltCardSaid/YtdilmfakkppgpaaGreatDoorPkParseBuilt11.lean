/- Part 11 of the proof of LawParseBuilt: NumE, NumF, PolyM, PolyM2. Condition: as each theorem says; none at the end. -/
import Derived.Test.YtdilmfakkppgpaaGreatDoorPkParseBuilt10
set_option maxRecDepth 100000
set_option maxHeartbeats 16000000
namespace Go.Proofs.YtdilmfakkppgpaaGreatDoor
open Go.RowKit WordsM
theorem RdI.store1 {K:IntKind} {w:World} {B:Nat} {a:OA} {ls:LN} (h:RdI K w B a ls) {p:Addr} {v:Value} (hp:w.cell? p=some v) (hv:∀x:Nat,v≠nv K x) (u:Value):RdI K (w.setCell p u) B a ls:=by
 rcases h with rfl|⟨g,o,rfl,hg,hc⟩
 ·exact .inl rfl
 ·refine .inr ⟨g,o,rfl,hg,fun j x hx=>?_⟩;have h1:=hc j x hx;rw[Uc _ _ _ _ (fun e=>?_)]
  ·exact h1
  ·rw[e] at hp;rw[hp] at h1;injection h1 with h1;exact hv x h1
theorem WordsIn.set1 {w:World} {a:OA} {n c:Nat} {L:LN} (h:WordsIn w a n c L) {p:Addr} {v:Value} (hp:w.cell? p=some v) (hv:∀x:Nat,v≠nv .u64 x) (u:Value):WordsIn (w.setCell p u) a n c L:=
 ⟨h.len,h.cap,h.most,h.low,(h.rd.store1 hp hv u).more (by rw[UV];omega)⟩
theorem WordsIn.set3 {w:World} {a:OA} {n c b:Nat} {L:LN} {b0:Bool} {e0:Int} {a0:OA} {n0 c0:Nat} (h:WordsIn w a n c L) (hN:Q02 w b (.bool b0) (.int .i64 e0) (.slice a0 n0 c0)) (u0 u1 u2:Value):
 WordsIn (((w.setCell ⟨b,0,none⟩ u0).setCell ⟨b,1,none⟩ u1).setCell ⟨b,2,none⟩ u2) a n c L:=
 ⟨h.len,h.cap,h.most,h.low,(h.rd.store3 hN (fun _=>by simp[nv]) (fun _=>by simp[nv]) (fun _=>by simp[nv]) u0 u1 u2).more (Q18 _ _ _ _ _)⟩
theorem Qqb (n:Bool) (e:Int) (a:OA) (l c:Nat) (L:LN) (w:World) (h:WordsIn w a l c L) (hi:Q0i n e L) (h0:L≠[]):
 Calls Tryz.prog 113 #[.agg #[.bool n,.int .i64 e,.slice a l c]] w fun r w'=>∃a' l' c',r=.returned (.agg #[.bool n,.int .i64 e,.slice a' l' c'])/\Q2m w w' a' l' c' L/\Bw w w':=by
 obtain ⟨X3,hX,hR,hB⟩:=Q92 w (.bool n) (.int .i64 e) (.slice a l c) (.bool false) (.int .i64 0) (.slice none 0 0) 41 41;generalize hW:(w.alloc (.cells #[.bool n,.int .i64 e,.slice a l c] 41)).alloc (.cells #[.bool false,.int .i64 0,.slice none 0 0] 41)=W at hX hR hB X3;have Z1:w.heap.size+1<W.heap.size:=by omega
 clear X3;obtain ⟨C9,ZA,hlen64,JF,V6⟩:val (2^64) L≠0/\L=dig (2^64) (val (2^64) L)/\l<=64/\-65536<=e/\e<=65536:=by
  rcases Q21 hi h.low with ⟨h1,_⟩|⟨_,h2,h3,h4,h5,h6⟩
  ·exact absurd h1 h0
  ·refine ⟨by omega,h3,?_,h5,h6⟩;rw[<-h.len,h3];exact Qf6 h4
 have Zi:=Q2x n e a l c L W (h.step hB) (by omega) (by omega) (by omega);rw[UU hi] at Zi;have Q7:∀W2,Bw w W2->Calls Tryz.prog 150 #[.slice a l c] W2 fun r w'=>∃a' l' c',r=.returned (.slice a' l' c')/\Q2m W2 w' a' l' c' L/\Bw W2 w':=fun W2 hb=>(Qbs a l c L W2 (h.step hb) (by omega) C9).mono (by rintro r w' ⟨a',l',c',rfl,hw,J5⟩;rw[<-ZA] at hw;exact ⟨a',l',c',rfl,hw,J5⟩);have HR:=Xh6 hX hR hB Zi Q7 Z1;have xc0:=hX.c0;have xc1:=hX.c1;have xc2:=hX.c2;clear hX hR hB Zi Q7 Z1 h hi h0 C9 ZA
 go_enter Tryz.func113,Tryz.ntmps113
 go_wp2_with (first
  |(go_at_call_of 53 (Value.bool n);refine (Xo3 HR).mono ?_;rintro r w1 ⟨rfl,C0⟩;have J2:=(Xo0 HR).step C0 (by have:=(Xe5 HR);omega);have uc0:=J2.c0;have uc1:=J2.c1;have uc2:=J2.c2;have HA:=Xh2 C0 (Below.next0 (Xo2 HR) C0);clear J2 C0)
  |(go_at_call_of 150 a;refine ((Xo4 HR) w1 (Xe1 HA)).mono ?_;rintro r w2 ⟨a',l',c',rfl,J7,D0⟩;have B0:=(Xe5 HR);have y8:=Below.next0 (Xo0 HA) D0;have S2:=(Xo0 HR).step y8 (by omega);have QJ:=(Xo1 HR).step y8 B0;
    have yc2:=S2.c2;have yf2:=S2.f2;have ZV:=S2.set2 (.slice a' l' c');have u7:=QJ.far (p:=⟨w.heap.size,2,none⟩) (by show w.heap.size≠w.heap.size+1;omega) (.slice a' l' c');have zc0:=ZV.c0;have zc1:=ZV.c1;have zc2:=ZV.c2;have rc0:=u7.c0;have rc1:=u7.c1;have rc2:=u7.c2;have rf0:=u7.f0;have rf1:=u7.f1;have rf2:=u7.f2;have rd1:=u7.d1 (.bool n);have rd2:=u7.d2 (.bool n) (.int .i64 e);have z7:=WordsIn.set1 J7.toWordsIn S2.c2 (fun _=>by simp[nv]) (.slice a' l' c');have HM:=Xh3 ((J7.lower (Xe1 HA).size).on z7) u7 ((Below.next0 (Xo2 HR) y8).setCell (p:=⟨w.heap.size,2,none⟩) (Ug _) (.slice a' l' c'));clear S2 QJ ZV u7 z7 D0 y8))
 have hS:=(Xo1 HM).store (.bool n) (.int .i64 e) (.slice a' l' c');have k0:=hS.c0;have k1:=hS.c1;have k2:=hS.c2;have R4:=Q02.below (Xe2 HM) (show w.heap.size<=w.heap.size+1 by omega) (.bool n) (.int .i64 e) (.slice a' l' c');have E8:=(Xo0 HM).set3 (Xo1 HM) (.bool n) (.int .i64 e) (.slice a' l' c');exact ⟨rfl,.agg #[.bool n,.int .i64 e,.slice a' l' c'],by simp[results,go_sem,k0,k1,k2],a',l',c',rfl,(Xo0 HM).on E8,R4⟩
theorem Qnc (n:Bool) (e:Int) (a:OA) (l c:Nat) (L:LN) (w:World) (h:WordsIn w a l c L) (hi:Q0i n e L) (h0:L≠[]):
 Calls Tryz.prog 68 #[.agg #[.bool n,.int .i64 e,.slice a l c]] w fun r w'=>∃a' l' c',r=.returned (.agg #[.bool false,.int .i64 e,.slice a' l' c'])/\Q2m w w' a' l' c' L/\Bw w w':=by
 obtain ⟨X3,hX,hR,hB⟩:=Q92 w (.bool n) (.int .i64 e) (.slice a l c) (.bool false) (.int .i64 0) (.slice none 0 0) 41 41;generalize hW:(w.alloc (.cells #[.bool n,.int .i64 e,.slice a l c] 41)).alloc (.cells #[.bool false,.int .i64 0,.slice none 0 0] 41)=W at hX hR hB X3;have Z1:w.heap.size+1<W.heap.size:=by omega
 clear X3;have how:=Qqb n e a l c L W (h.step hB) hi h0;have HR:=Xh4 hR hB how Z1;have xc0:=hX.c0;have xc1:=hX.c1;have xc2:=hX.c2;clear hX hR hB how Z1 h hi h0
 go_enter Tryz.func68,Tryz.ntmps68
 go_wp2_with (first
  |(go_at_call_of 113 (Value.bool n);refine (Xo2 HR).mono ?_;rintro r w1 ⟨a',l',c',rfl,S1,C0⟩;have HA:=Xh2 (S1.lower (Xo1 HR).size) C0;clear S1 C0)
  |(go_at_call_of 112 (Value.bool n);refine (Qgv n e a' l' c' w1).mono ?_;rintro r w2 ⟨rfl,D0⟩;have B0:=(Xe3 HR);have y8:=Below.next0 (Xe1 HA) D0;have QJ:=(Xo0 HR).step y8 B0;have rc0:=QJ.c0;have rc1:=QJ.c1;have rc2:=QJ.c2;have rf0:=QJ.f0;have rf1:=QJ.f1;have rf2:=QJ.f2;have rd1:=QJ.d1 (.bool false);have rd2:=QJ.d2 (.bool false) (.int .i64 e);have HM:=Xh3 ((Xo0 HA).on ((Xo0 HA).step D0)) QJ (Below.next0 (Xo1 HR) y8);clear QJ D0 y8))
 have hS:=(Xo1 HM).store (.bool false) (.int .i64 e) (.slice a' l' c');have k0:=hS.c0;have k1:=hS.c1;have k2:=hS.c2;have R4:=Q02.below (Xe2 HM) (show w.heap.size<=w.heap.size+1 by omega) (.bool false) (.int .i64 e) (.slice a' l' c');have E8:=(Xo0 HM).set3 (Xo1 HM) (.bool false) (.int .i64 e) (.slice a' l' c');exact ⟨rfl,.agg #[.bool false,.int .i64 e,.slice a' l' c'],by simp[results,go_sem,k0,k1,k2],a',l',c',rfl,(Xo0 HM).on E8,R4⟩
theorem Qnd (n:Bool) (e:Int) (a:OA) (l c:Nat) (L:LN) (w:World) (h:WordsIn w a l c L) (hi:Q0i n e L) (h0:L≠[]):
 Calls Tryz.prog 168 #[.agg #[.bool n,.int .i64 e,.slice a l c]] w fun r w'=>∃a' l' c',r=.returned (.agg #[.bool (!n),.int .i64 e,.slice a' l' c'])/\Q2m w w' a' l' c' L/\Bw w w':=by
 obtain ⟨X3,hX,hR,hB⟩:=Q92 w (.bool n) (.int .i64 e) (.slice a l c) (.bool false) (.int .i64 0) (.slice none 0 0) 41 41;generalize hW:(w.alloc (.cells #[.bool n,.int .i64 e,.slice a l c] 41)).alloc (.cells #[.bool false,.int .i64 0,.slice none 0 0] 41)=W at hX hR hB X3;have Z1:w.heap.size+1<W.heap.size:=by omega
 clear X3;have how:=Qqb n e a l c L W (h.step hB) hi h0;have K5:0<L.length:=by
  cases L with
  |nil=>exact absurd rfl h0
  |cons x r=>simp
 have HR:=Xh6 hX hR hB how Z1 K5;have xc0:=hX.c0;have xc1:=hX.c1;have xc2:=hX.c2;clear hX hR hB how Z1 h hi h0 K5;cases n
 ·go_enter Tryz.func168,Tryz.ntmps168
  go_upto_region 2 with (go_at_call_of 113 a;refine (Xo3 HR).mono ?_;rintro r w1 ⟨a',l',c',rfl,S1,C0⟩;have J2:=(Xo0 HR).step C0 (by have:=(Xo4 HR);omega);have yc0:=J2.c0;have yc1:=J2.c1;have yc2:=J2.c2;have yf0:=J2.f0;have yf1:=J2.f1;have yf2:=J2.f2;have yd1:=J2.d1 (.bool false);have yd2:=J2.d2 (.bool false) (.int .i64 e);have HA:=Xh3 J2 (S1.lower (Xo2 HR).size) C0;clear J2 S1 C0)
  have Z2:0<l':=by have h3:=(Xo1 HA).len;have h4:=(Xe5 HR);omega
  have hl':decide (0<l')=true:=UU Z2;have S2:=(Xo0 HA).store (.bool false) (.int .i64 e) (.slice a' l' c');have QJ:=((Xo1 HR).step (Xe2 HA) (Xo4 HR)).far3 (show w.heap.size≠w.heap.size+1 by omega) (.bool false) (.int .i64 e) (.slice a' l' c');have J7:=(Xo1 HA).set3 (Xo0 HA) (.bool false) (.int .i64 e) (.slice a' l' c');have D0:=Q02.below (Below.next0 (Xo2 HR) (Xe2 HA)) (Ug _) (.bool false) (.int .i64 e) (.slice a' l' c');clear yc0 yc1 yc2 yf0 yf1 yf2 yd1 yd2;generalize ((w1.setCell ⟨w.heap.size,0,none⟩ (.bool false)).setCell ⟨w.heap.size,1,none⟩ (.int .i64 e)).setCell ⟨w.heap.size,2,none⟩ (.slice a' l' c')=W2 at S2 QJ J7 D0⊢;have zc0:=S2.c0;have zc1:=S2.c1;have zc2:=S2.c2;have zf0:=S2.f0;have zf1:=S2.f1;have zf2:=S2.f2;have ZV:=S2.set0 (.bool true);have u7:=QJ.far (p:=⟨w.heap.size,0,none⟩) (show w.heap.size≠w.heap.size+1 by omega) (.bool true);have z7:=J7.set1 (p:=⟨w.heap.size,0,none⟩) S2.c0 (fun _=>by simp[nv]) (.bool true);have vc0:=ZV.c0;have vc1:=ZV.c1;have vc2:=ZV.c2;have rc0:=u7.c0;have rc1:=u7.c1;have rc2:=u7.c2;have rf0:=u7.f0;have rf1:=u7.f1;have rf2:=u7.f2;have rd1:=u7.d1 (.bool true);have rd2:=u7.d2 (.bool true) (.int .i64 e);have HM:=Xh3 ((Xo1 HA).on z7) u7 (D0.setCell (p:=⟨w.heap.size,0,none⟩) (Ug _) (.bool true));clear S2 QJ ZV u7 J7 z7 D0
  go_wp2_with fail
  have hS:=(Xo1 HM).store (.bool true) (.int .i64 e) (.slice a' l' c');have k0:=hS.c0;have k1:=hS.c1;have k2:=hS.c2;have R4:=Q02.below (Xe2 HM) (show w.heap.size<=w.heap.size+1 by omega) (.bool true) (.int .i64 e) (.slice a' l' c');have E8:=(Xo0 HM).set3 (Xo1 HM) (.bool true) (.int .i64 e) (.slice a' l' c');exact ⟨rfl,.agg #[.bool true,.int .i64 e,.slice a' l' c'],by simp[results,go_sem,k0,k1,k2],a',l',c',rfl,(Xo0 HM).on E8,R4⟩
 ·go_enter Tryz.func168,Tryz.ntmps168
  go_upto_region 2 with (go_at_call_of 113 a;refine (Xo3 HR).mono ?_;rintro r w1 ⟨a',l',c',rfl,S1,C0⟩;have J2:=(Xo0 HR).step C0 (by have:=(Xo4 HR);omega);have yc0:=J2.c0;have yc1:=J2.c1;have yc2:=J2.c2;have yf0:=J2.f0;have yf1:=J2.f1;have yf2:=J2.f2;have yd1:=J2.d1 (.bool true);have yd2:=J2.d2 (.bool true) (.int .i64 e);have HA:=Xh3 J2 (S1.lower (Xo2 HR).size) C0;clear J2 S1 C0)
  have Z2:0<l':=by have h3:=(Xo1 HA).len;have h4:=(Xe5 HR);omega
  have hl':decide (0<l')=true:=UU Z2;have S2:=(Xo0 HA).store (.bool true) (.int .i64 e) (.slice a' l' c');have QJ:=((Xo1 HR).step (Xe2 HA) (Xo4 HR)).far3 (show w.heap.size≠w.heap.size+1 by omega) (.bool true) (.int .i64 e) (.slice a' l' c');have J7:=(Xo1 HA).set3 (Xo0 HA) (.bool true) (.int .i64 e) (.slice a' l' c');have D0:=Q02.below (Below.next0 (Xo2 HR) (Xe2 HA)) (Ug _) (.bool true) (.int .i64 e) (.slice a' l' c');clear yc0 yc1 yc2 yf0 yf1 yf2 yd1 yd2;generalize ((w1.setCell ⟨w.heap.size,0,none⟩ (.bool true)).setCell ⟨w.heap.size,1,none⟩ (.int .i64 e)).setCell ⟨w.heap.size,2,none⟩ (.slice a' l' c')=W2 at S2 QJ J7 D0⊢;have zc0:=S2.c0;have zc1:=S2.c1;have zc2:=S2.c2;have zf0:=S2.f0;have zf1:=S2.f1;have zf2:=S2.f2;have ZV:=S2.set0 (.bool false);have u7:=QJ.far (p:=⟨w.heap.size,0,none⟩) (show w.heap.size≠w.heap.size+1 by omega) (.bool false);have z7:=J7.set1 (p:=⟨w.heap.size,0,none⟩) S2.c0 (fun _=>by simp[nv]) (.bool false);have vc0:=ZV.c0;have vc1:=ZV.c1;have vc2:=ZV.c2;have rc0:=u7.c0;have rc1:=u7.c1;have rc2:=u7.c2;have rf0:=u7.f0;have rf1:=u7.f1;have rf2:=u7.f2;have rd1:=u7.d1 (.bool false);have rd2:=u7.d2 (.bool false) (.int .i64 e);have HM:=Xh3 ((Xo1 HA).on z7) u7 (D0.setCell (p:=⟨w.heap.size,0,none⟩) (Ug _) (.bool false));clear S2 QJ ZV u7 J7 z7 D0
  go_wp2_with fail
  have hS:=(Xo1 HM).store (.bool false) (.int .i64 e) (.slice a' l' c');have k0:=hS.c0;have k1:=hS.c1;have k2:=hS.c2;have R4:=Q02.below (Xe2 HM) (show w.heap.size<=w.heap.size+1 by omega) (.bool false) (.int .i64 e) (.slice a' l' c');have E8:=(Xo0 HM).set3 (Xo1 HM) (.bool false) (.int .i64 e) (.slice a' l' c');exact ⟨rfl,.agg #[.bool false,.int .i64 e,.slice a' l' c'],by simp[results,go_sem,k0,k1,k2],a',l',c',rfl,(Xo0 HM).on E8,R4⟩
theorem Qk0 {A B:LN} (hA:Low (2^64) A) (hB:Low (2^64) B):(dig (2^64) (val (2^64) A*val (2^64) B)).length<=A.length+B.length:=by
 have h1:=Q3k (B:=2^64) (by decide) A hA;have h2:=Q3k (B:=2^64) (by decide) B hB;refine Q2h (by decide) ?_;rw[Tz];exact Nat.mul_lt_mul'' h1 h2
theorem Q67 {n:Bool} {e:Int} {L:LN} (h:Q0i n e L) (hl:Low (2^64) L):L.length<=64/\-65536<=e/\e<=65536:=by
 rcases Q21 h hl with ⟨rfl,_,rfl⟩|⟨_,_,h2,h3,h4,h5⟩
 ·simp
 ·exact ⟨by rw[h2];exact Qf6 h3,h4,h5⟩
theorem Qqc (nx ny:Bool) (ex ey:Int) (ls ks:LN):Q28 (nx != ny) (ex+ey) (dig (2^64) (val (2^64) ls*val (2^64) ks))=Q28 nx ex ls*Q28 ny ey ks:=by
 rw[Qbg];unfold Q28;rw[Qq4,Qq7]
theorem Qk1 (nx:Bool) (ex:Int) (ax:OA) (lx cx:Nat) (ls:LN) (ny:Bool) (ey:Int) (ay:OA) (ly cy:Nat) (ks:LN) (w:World) (h1:WordsIn w ax lx cx ls) (h2:WordsIn w ay ly cy ks) (i1:Q0i nx ex ls) (i2:Q0i ny ey ks) (hT:Q2n w):
 Calls Tryz.prog 226 #[.agg #[.bool nx,.int .i64 ex,.slice ax lx cx],.agg #[.bool ny,.int .i64 ey,.slice ay ly cy],.func (.func 54) #[] #[]] w (Qqa w (Q28 nx ex ls*Q28 ny ey ks)):=by
 obtain ⟨y6,hX,hY,hR,hB⟩:=Qgf w (.bool nx) (.int .i64 ex) (.slice ax lx cx) (.bool ny) (.int .i64 ey) (.slice ay ly cy) (.bool false) (.int .i64 0) (.slice none 0 0) 41 41 41;generalize I3:(((w.alloc (.cells #[.bool nx,.int .i64 ex,.slice ax lx cx] 41)).alloc (.cells #[.bool ny,.int .i64 ey,.slice ay ly cy] 41)).alloc (.cells #[.bool false,.int .i64 0,.slice none 0 0] 41))=W0 at y6 hX hY hR hB;have hQ:∀W,Bw W0 W->Q02 W w.heap.size (.bool nx) (.int .i64 ex) (.slice ax lx cx)/\Q02 W (w.heap.size+1) (.bool ny) (.int .i64 ey) (.slice ay ly cy)/\Q02 W (w.heap.size+2) (.bool false) (.int .i64 0) (.slice none 0 0)/\w.heap.size+2<W.heap.size/\Bw w W:=fun W hb=>
  ⟨hX.step hb (by omega),hY.step hb (by omega),hR.step hb (by omega),Ue (by omega) hb.size,Below.next0 hB hb⟩
 obtain ⟨y5,U4,J4,_,_,_⟩:=hX;obtain ⟨JV,R8,O9,_,_,_⟩:=hY;have HQ:=Ua hQ;have Z9:=h1.len;have hly:=h2.len;obtain ⟨b1,b2,b3⟩:=Q67 i1 h1.low;obtain ⟨b4,b5,b6⟩:=Q67 i2 h2.low;have A1:=Q2x nx ex ax lx cx ls W0 (h1.step hB) (by omega) (by omega) (by omega);have G1:=fun W (hb:Bw w W)=>Q2x ny ey ay ly cy ks W (h2.step hb) (by omega) (by omega) (by omega);rw[UU i1] at A1;simp only[UU i2] at G1;have ZD:=fun W (hb:Bw w W)=>Qh1 nx ex ax lx cx ls ny ey ay ly cy ks W (h1.step hb) (h2.step hb) (by omega) (by omega) (by omega) (by omega) (by omega) (by omega);have hmd:=Qk0 h1.low h2.low;have HC:=Xh5 A1 G1 ZD hmd hT;clear y6 hR hQ A1 G1 ZD hmd hT h1 h2 i1 i2
 go_enter Tryz.func226,Tryz.ntmps226
 go_wp2_with (first
  |(go_at_call_of 53 ax;refine (Xo0 HC).mono ?_;rintro r w1 ⟨rfl,C0⟩;obtain ⟨g0,g1,g2,g3,g4⟩:=HQ.out w1 C0;have uc0:=g0.c0;have uc1:=g0.c1;have uc2:=g0.c2;have vc0:=g1.c0;have vc1:=g1.c1;have vc2:=g1.c2;have HA:=Xh2 C0 g4;clear g0 g1 g2 g3 g4 C0)
  |(go_at_call_of 53 ay;refine ((Xo1 HC) w1 (Xe1 HA)).mono ?_;rintro r w2 ⟨rfl,D0⟩;have y8:=Below.next0 (Xo0 HA) D0;obtain ⟨g0,g1,g2,g3,g4⟩:=HQ.out w2 y8;have pc0:=g0.c0;have pc1:=g0.c1;have pc2:=g0.c2;have qc0:=g1.c0;have qc1:=g1.c1;have qc2:=g1.c2;have HE:=Xh2 y8 g4;clear g0 g1 g2 g3 g4 D0 y8)
  |(go_at_call_of 54 ax;refine ((Xo2 HC) w2 (Xe1 HE)).mono ?_;rintro r w3 ⟨a3,l3,c3,rfl,z7,G0⟩;have HF:=Xh3 z7 (Below.next0 (Xo0 HE) G0) (Below.next0 (Xe1 HE) G0);clear z7 G0)
  |(go_at_call_of 232 (Value.bool (nx != ny));refine (Qtb (nx != ny) (ex+ey) a3 l3 c3 _ w3 (Xo0 HF) ((Xe4 HC).step (Xe2 HF)) (by have:=(Xo0 HF).len;have:=(Xo3 HC);omega) (by omega) (by omega)).mono ?_;rintro r w4 ⟨n',e',a',l',c',L',er,rfl,d6,q6,F1⟩;rw[Qqc] at d6;have hb14:=Below.next0 (Xo1 HF) F1;obtain ⟨g0,g1,g2,g3,g4⟩:=HQ.out w4 hb14;have rc0:=g2.c0;have rc1:=g2.c1;have rc2:=g2.c2;have rf0:=g2.f0;have rf1:=g2.f1;have rf2:=g2.f2;have rd1:=g2.d1 (.bool n');have rd2:=g2.d2 (.bool n') (.int .i64 e');have HM:=Xh4 d6 (q6.lower (Xe2 HF).size) g2 g4;clear g0 g1 g2 g3 g4 d6 q6 F1 hb14))
 have hS:=(Xo2 HM).store (.bool n') (.int .i64 e') (.slice a' l' c');have k0:=hS.c0;have k1:=hS.c1;have k2:=hS.c2;have R4:=Q02.below (Xe3 HM) (show w.heap.size<=w.heap.size+2 by omega) (.bool n') (.int .i64 e') (.slice a' l' c');have E8:=(Xo1 HM).set3 (Xo2 HM) (.bool n') (.int .i64 e') (.slice a' l' c');exact ⟨rfl,.tuple #[.agg #[.bool n',.int .i64 e',.slice a' l' c'],.int .i64 er],by simp[results,go_sem,k0,k1,k2],n',e',a',l',c',L',er,rfl,(Xo0 HM),(Xo1 HM).on E8,R4⟩
theorem Qne (nx:Bool) (ex:Int) (ax:OA) (lx cx:Nat) (ls:LN) (ny:Bool) (ey:Int) (ay:OA) (ly cy:Nat) (ks:LN) (w:World) (h1:WordsIn w ax lx cx ls) (h2:WordsIn w ay ly cy ks) (i1:Q0i nx ex ls) (i2:Q0i ny ey ks) (hT:Q2n w):
 Calls Tryz.prog 203 #[.agg #[.bool nx,.int .i64 ex,.slice ax lx cx],.agg #[.bool ny,.int .i64 ey,.slice ay ly cy]] w (Qqa w (Q28 nx ex ls*Q28 ny ey ks)):=by
 obtain ⟨y6,hX,hY,hR,hB⟩:=Qgf w (.bool nx) (.int .i64 ex) (.slice ax lx cx) (.bool ny) (.int .i64 ey) (.slice ay ly cy) (.bool false) (.int .i64 0) (.slice none 0 0) 41 41 41;generalize I3:(((w.alloc (.cells #[.bool nx,.int .i64 ex,.slice ax lx cx] 41)).alloc (.cells #[.bool ny,.int .i64 ey,.slice ay ly cy] 41)).alloc (.cells #[.bool false,.int .i64 0,.slice none 0 0] 41))=W0 at y6 hX hY hR hB;have hQ:∀W,Bw W0 W->Q02 W w.heap.size (.bool nx) (.int .i64 ex) (.slice ax lx cx)/\Q02 W (w.heap.size+1) (.bool ny) (.int .i64 ey) (.slice ay ly cy)/\Q02 W (w.heap.size+2) (.bool false) (.int .i64 0) (.slice none 0 0)/\w.heap.size+2<W.heap.size/\Bw w W:=fun W hb=>
  ⟨hX.step hb (by omega),hY.step hb (by omega),hR.step hb (by omega),Ue (by omega) hb.size,Below.next0 hB hb⟩
 obtain ⟨y5,U4,J4,_,_,_⟩:=hX;obtain ⟨JV,R8,O9,_,_,_⟩:=hY;have HQ:=Ua hQ;have KM:=Qk1 nx ex ax lx cx ls ny ey ay ly cy ks W0 (h1.step hB) (h2.step hB) i1 i2 (hT.step hB);have HC:=Ua KM;clear y6 hR hQ KM hT h1 h2 i1 i2
 go_enter Tryz.func203,Tryz.ntmps203
 go_wp2_with (go_at_call_of 226 ax;refine HC.out.mono ?_;rintro r w1 ⟨n',e',a',l',c',L',er,rfl,d6,S1,C0⟩;obtain ⟨g0,g1,g2,g3,g4⟩:=HQ.out w1 C0;have rc0:=g2.c0;have rc1:=g2.c1;have rc2:=g2.c2;have rf0:=g2.f0;have rf1:=g2.f1;have rf2:=g2.f2;have rd1:=g2.d1 (.bool n');have rd2:=g2.d2 (.bool n') (.int .i64 e');have HM:=Xh4 d6 (S1.lower (HQ.out W0 (Uf _ _)).2.2.2.2.size) g2 g4;clear g0 g1 g2 g3 g4 d6 S1 C0)
 have hS:=(Xo2 HM).store (.bool n') (.int .i64 e') (.slice a' l' c');have k0:=hS.c0;have k1:=hS.c1;have k2:=hS.c2;have R4:=Q02.below (Xe3 HM) (show w.heap.size<=w.heap.size+2 by omega) (.bool n') (.int .i64 e') (.slice a' l' c');have E8:=(Xo1 HM).set3 (Xo2 HM) (.bool n') (.int .i64 e') (.slice a' l' c');exact ⟨rfl,.tuple #[.agg #[.bool n',.int .i64 e',.slice a' l' c'],.int .i64 er],by simp[results,go_sem,k0,k1,k2],n',e',a',l',c',L',er,rfl,(Xo0 HM),(Xo1 HM).on E8,R4⟩
def Q2u:List Int->List Int->Int
 |[],[]=>0
 |[],_::_=> -1
 |_::_,[]=>1
 |a::xs,b::bs=>if a<b then -1 else if b<a then 1 else Q2u xs bs
theorem Q7i:∀(a b:List Int),Q2u a b=0↔a=b
 |[],[]=>by simp[Q2u]
 |[],_::_=>by simp[Q2u]
 |_::_,[]=>by simp[Q2u]
 |a::xs,b::bs=>by
  have ih:=Q7i xs bs;simp only[Q2u,List.cons.injEq]
  split
  ·constructor
   ·intro h;omega
   ·rintro ⟨rfl,_⟩;omega
  ·split
   ·constructor
    ·intro h;omega
    ·rintro ⟨rfl,_⟩;omega
   ·rw[ih]
    constructor
    ·intro h;exact ⟨by omega,h⟩
    ·exact fun h=>h.2
theorem Q99 (a:List Int):Q2u a a=0:=(Q7i a a).2 rfl
theorem Q3s:∀(a b:List Int),Q2u b a= -Q2u a b
 |[],[]=>rfl
 |[],_::_=>rfl
 |_::_,[]=>rfl
 |a::xs,b::bs=>by
  have ih:=Q3s xs bs;simp only[Q2u]
  by_cases h1:a<b
  ·rw[Uq (by omega),Us h1,Us h1];rfl
  ·by_cases h2:b<a
   ·rw[Us h2,Uq h1,Us h2]
   ·rw[Uq h2,Uq h1,Uq h1,Uq h2,ih]
theorem Qdx:∀(a b:List Int),-1<=Q2u a b/\Q2u a b<=1
 |[],[]=>by simp[Q2u]
 |[],_::_=>by simp[Q2u]
 |_::_,[]=>by simp[Q2u]
 |a::xs,b::bs=>by
  have ih:=Qdx xs bs;simp only[Q2u]
  split
  ·omega
  ·split
   ·omega
   ·exact ih
theorem Q68:∀(a b c:List Int),0<Q2u a b->0<Q2u b c->0<Q2u a c
 |[],[],_=>fun h=>by simp[Q2u] at h
 |[],_::_,_=>fun h=>by simp[Q2u] at h
 |_::_,[],[]=>fun _ h=>by simp[Q2u] at h
 |_::_,[],_::_=>fun _ h=>by simp[Q2u] at h
 |_::_,_::_,[]=>fun _ _=>by simp[Q2u]
 |a::xs,b::bs,c::cs=>by
  have ih:=Q68 xs bs cs;simp only[Q2u];intro h1 h2
  by_cases c1:a<b
  ·rw[Us c1] at h1;omega
  ·rw[Uq c1] at h1
   by_cases c2:b<c
   ·rw[Us c2] at h2;omega
   ·rw[Uq c2] at h2;rw[Uq (by omega)]
    by_cases c3:c<a
    ·rw[Us c3];omega
    ·rw[Uq c3];rw[Uq (by omega)] at h1;rw[Uq (by omega)] at h2;exact ih h1 h2
abbrev Q0a:=Dyadic × List Int
def Qbh (l:List Q0a):Prop:=l.Pairwise fun p q=>0<Q2u p.2 q.2
def Q1g (E:List Int):List Q0a->Dyadic
 |[]=>0
 |p::r=>(if p.2=E then p.1 else 0)+Q1g E r
theorem Q9a (E:List Int) (l r:List Q0a):Q1g E (l++r)=Q1g E l+Q1g E r:=by
 induction l with
 |nil=>simp[Q1g]
 |cons p l ih=>rw[TD,Q1g,Q1g,ih,Dyadic.add_assoc]
theorem Qk2 {E:List Int} {l:List Q0a} (h:∀p∈l,p.2≠E):Q1g E l=0:=by
 induction l with
 |nil=>rfl
 |cons p l ih=>
  rw[Q1g,Uq (h p (by simp)),ih fun q hq=>h q (by simp[hq])];rfl
theorem Qbh.tail_ne {p:Q0a} {l:List Q0a} (h:Qbh (p::l)):∀q∈l,q.2≠p.2:=fun q hq e=>by
 have:=(TF.1 h).1 q hq;rw[e,Q99] at this;omega
theorem Q53 {l:List Q0a} (hn:l.Pairwise fun p q=>p.2≠q.2) {p:Q0a} (h:p∈l):Q1g p.2 l=p.1:=by
 induction l with
 |nil=>cases h
 |cons q l ih=>
  obtain ⟨h1,h2⟩:=TF.1 hn;rcases UF.1 h with rfl|h
  ·rw[Q1g,Us rfl,Qk2 (fun r hr e=>h1 r hr e.symm),Xbv]
  ·rw[Q1g,Uq (h1 p h),ih h2 h,Dyadic.zero_add]
theorem Qbh.once {l:List Q0a} (h:Qbh l):l.Pairwise fun p q=>p.2≠q.2:=by
 unfold Qbh at h;refine h.imp ?_;intro p q h e;rw[e,Q99] at h;omega
theorem Qbh.same:∀{l r:List Q0a},Qbh l->Qbh r->(∀p,p∈l↔p∈r)->l=r
 |[],[],_,_,_=>rfl
 |[],q::r,_,_,h=>by have:=(h q).2 (by simp);cases this
 |p::l,[],_,_,h=>by have:=(h p).1 (by simp);cases this
 |p::l,q::r,hl,hr,h=>by
  obtain ⟨l1,l2⟩:=TF.1 hl;obtain ⟨r1,r2⟩:=TF.1 hr;have u5:p=q:=by
   have hp:=(h p).1 (by simp);have hq:=(h q).2 (by simp);rcases UF.1 hp with e|hp
   ·exact e
   ·rcases UF.1 hq with e|hq
    ·exact e.symm
    ·have a1:=l1 q hq;have a2:=r1 p hp;have a3:=Q3s p.2 q.2;omega
  subst u5
  congr 1
  refine Qbh.same l2 r2 fun x=>?_;have hx:=h x
  constructor
  ·intro J3;rcases UF.1 (hx.1 (by simp[J3])) with e|h'
   ·subst e;exact absurd rfl (hl.tail_ne x J3)
   ·exact h'
  ·intro Kp;rcases UF.1 (hx.2 (by simp[Kp])) with e|h'
   ·subst e;exact absurd rfl (hr.tail_ne x Kp)
   ·exact h'
def Q8c (l:List Q0a) (c:Q0a):List Q0a:=
 match l with
 |[]=>[c]
 |q::r=>if 0<Q2u q.2 c.2 then q::Q8c r c else if q.2=c.2 then (q.1+c.1,q.2)::r else c::q::r
def Q23 (l:List Q0a):List Q0a:=l.foldl Q8c []
theorem Qh3 (l:List Q0a) (c:Q0a) (p:Q0a) (h:p∈Q8c l c):p∈l∨p.2=c.2:=by
 induction l with
 |nil=>simp only[Q8c,Uy] at h;exact .inr (by rw[h])
 |cons q r ih=>
  simp only[Q8c] at h
  split at h
  ·rcases UF.1 h with rfl|h
   ·exact .inl (by simp)
   ·rcases ih h with h|h
    ·exact .inl (by simp[h])
    ·exact .inr h
  ·split at h
   ·rename_i h2;rcases UF.1 h with rfl|h
    ·exact .inr h2
    ·exact .inl (by simp[h])
   ·rcases UF.1 h with rfl|h
    ·exact .inr rfl
    ·exact .inl h
theorem Qqd {l:List Q0a} (h:Qbh l) (c:Q0a):Qbh (Q8c l c):=by
 induction l with
 |nil=>simp[Q8c,Qbh]
 |cons q r ih=>
  obtain ⟨h1,h2⟩:=TF.1 h;simp only[Q8c]
  split
  ·rename_i hc;refine TF.2 ⟨fun p hp=>?_,ih h2⟩;rcases Qh3 r c p hp with hp|hp
   ·exact h1 p hp
   ·rw[hp];exact hc
  ·split
   ·exact TF.2 ⟨h1,h2⟩
   ·rename_i N1 E1;have h0:0<Q2u c.2 q.2:=by
     have a1:=Q3s q.2 c.2;have a2:Q2u q.2 c.2≠0:=fun e=>E1 ((Q7i _ _).1 e);omega
    refine TF.2 ⟨fun p hp=>?_,h⟩;rcases UF.1 hp with rfl|hp
    ·exact h0
    ·exact Q68 _ _ _ h0 (h1 p hp)
theorem Qqe (E:List Int) (l:List Q0a) (c:Q0a):Q1g E (Q8c l c)=Q1g E l+Q1g E [c]:=by
 induction l with
 |nil=>simp[Q8c,Q1g]
 |cons q r ih=>
  simp only[Q8c]
  split
  ·simp only[Q1g,ih,Dyadic.add_assoc]
  ·split
   ·rename_i h2;simp only[Q1g,Xbv];rw[<-h2]
    by_cases hq:q.2=E
    ·rw[Us hq,Us hq,Us hq];grind
    ·rw[Uq hq,Uq hq,Uq hq];grind
   ·simp only[Q1g,Xbv];grind
theorem Qtc (l:List Q0a) (c:Q0a):(∃p∈Q8c l c,p.2=c.2)/\∀p∈l,∃q∈Q8c l c,q.2=p.2:=by
 induction l with
 |nil=>exact ⟨⟨c,by simp[Q8c],rfl⟩,fun p hp=>(by cases hp)⟩
 |cons q r ih=>
  obtain ⟨⟨x,hx,J4⟩,ih2⟩:=ih;simp only[Q8c]
  split
  ·refine ⟨⟨x,by simp[hx],J4⟩,fun p hp=>?_⟩;rcases UF.1 hp with rfl|hp
   ·exact ⟨p,by simp,rfl⟩
   ·obtain ⟨y,hy,O9⟩:=ih2 p hp;exact ⟨y,by simp[hy],O9⟩
  ·split
   ·rename_i h2;refine ⟨⟨_,Xa2,h2⟩,fun p hp=>?_⟩;rcases UF.1 hp with rfl|hp
    ·exact ⟨_,Xa2,rfl⟩
    ·exact ⟨p,by simp[hp],rfl⟩
   ·exact ⟨⟨c,by simp,rfl⟩,fun p hp=>⟨p,by simp only[UF] at hp⊢;exact .inr hp,rfl⟩⟩
theorem Q7v (l:List Q0a) (c:Q0a):Q23 (l++[c])=Q8c (Q23 l) c:=by simp[Q23]
theorem Q6z (l:List Q0a):Qbh (Q23 l)/\(∀E,Q1g E (Q23 l)=Q1g E l)/\(∀p∈Q23 l,∃q∈l,q.2=p.2)/\(∀p∈l,∃q∈Q23 l,q.2=p.2):=by
 have key:∀n,∀l:List Q0a,l.length=n->Qbh (Q23 l)/\(∀E,Q1g E (Q23 l)=Q1g E l)/\(∀p∈Q23 l,∃q∈l,q.2=p.2)/\(∀p∈l,∃q∈Q23 l,q.2=p.2):=by
  intro n
  induction n with
  |zero=>
   intro l hl;obtain rfl:=UH.1 hl;exact ⟨List.Pairwise.nil,fun _=>rfl,fun p hp=>(by cases hp),fun p hp=>(by cases hp)⟩
  |succ n ih=>
   intro l hl;have C1:l≠[]:=fun e=>by rw[e] at hl;simp at hl
   obtain ⟨k,c,rfl⟩:∃k c,l=k++[c]:=⟨l.dropLast,l.getLast C1,(List.dropLast_concat_getLast C1).symm⟩;obtain ⟨h1,h2,h3,h4⟩:=ih k (by simpa using hl);rw[Q7v];refine ⟨Qqd h1 c,fun E=>by rw[Qqe,h2,Q9a],fun p hp=>?_,fun p hp=>?_⟩
   ·rcases Qh3 _ c p hp with hp|hp
    ·obtain ⟨q,hq,N4⟩:=h3 p hp;exact ⟨q,by simp[hq],N4⟩
    ·exact ⟨c,by simp,hp.symm⟩
   ·obtain ⟨i1,i2⟩:=Qtc (Q23 k) c;rcases UY.1 hp with hp|hp
    ·obtain ⟨q,hq,N4⟩:=h4 p hp;obtain ⟨r,hr,G1⟩:=i2 q hq;exact ⟨r,hr,G1.trans N4⟩
    ·rw[Uy] at hp;subst hp;exact i1
 exact key _ l rfl
theorem Qlr (l:List Q0a) (p:Q0a):p∈Q23 l↔(∃q∈l,q.2=p.2)/\p.1=Q1g p.2 l:=by
 obtain ⟨h1,h2,h3,h4⟩:=Q6z l
 constructor
 ·intro hp;exact ⟨h3 p hp,by rw[<-h2,Q53 h1.once hp]⟩
 ·rintro ⟨⟨q,hq,N4⟩,hp⟩;obtain ⟨r,hr,G1⟩:=h4 q hq;have h5:=Q53 h1.once hr;rw[h2] at h5;have h6:r=p:=by
   obtain ⟨r1,r2⟩:=r;obtain ⟨p1,p2⟩:=p;simp only at G1 h5 hp N4;rw[N4] at G1;subst G1;rw[<-h5,<-hp]
  rw[<-h6];exact hr
theorem Qqf {l:List Q0a} (h:Qbh l):Q23 l=l:=by
 refine Qbh.same (Q6z l).1 h fun p=>?_;rw[Qlr]
 constructor
 ·rintro ⟨⟨q,hq,N4⟩,hp⟩;have h5:=Q53 h.once hq;rw[N4] at h5;have:q=p:=by
   obtain ⟨q1,q2⟩:=q;obtain ⟨p1,p2⟩:=p;simp only at N4 h5 hp;subst N4;rw[hp,h5]
  rw[<-this];exact hq
 ·intro hp;exact ⟨⟨p,hp,rfl⟩,(Q53 h.once hp).symm⟩
def Q62 (l:List Q0a) (c:Q0a):List Q0a:=
 match l with
 |[]=>[c]
 |q::r=>if q.2=c.2 then (q.1+c.1,q.2)::r else q::Q62 r c
def Qaq (l:List Q0a):List Q0a:=l.foldl Q62 []
theorem Qh4 (l:List Q0a) (c:Q0a):Qaq (l++[c])=Q62 (Qaq l) c:=by simp[Qaq]
theorem Qnf (E:List Int) (l:List Q0a) (c:Q0a):Q1g E (Q62 l c)=Q1g E l+Q1g E [c]:=by
 induction l with
 |nil=>simp[Q62,Q1g]
 |cons q r ih=>
  simp only[Q62]
  split
  ·rename_i h2;simp only[Q1g,Xbv];rw[<-h2]
   by_cases hq:q.2=E
   ·rw[Us hq,Us hq,Us hq];grind
   ·rw[Uq hq,Uq hq,Uq hq];grind
  ·simp only[Q1g,ih,Dyadic.add_assoc]
theorem Qdy (l:List Q0a) (c:Q0a) (p:Q0a) (h:p∈Q62 l c):(∃q∈l,q.2=p.2)∨p.2=c.2:=by
 induction l with
 |nil=>simp only[Q62,Uy] at h;exact .inr (by rw[h])
 |cons q r ih=>
  simp only[Q62] at h
  split at h
  ·rename_i h2;rcases UF.1 h with rfl|h
   ·exact .inr h2
   ·exact .inl ⟨p,by simp[h],rfl⟩
  ·rcases UF.1 h with rfl|h
   ·exact .inl ⟨p,by simp,rfl⟩
   ·rcases ih h with ⟨x,hx,J4⟩|h
    ·exact .inl ⟨x,by simp[hx],J4⟩
    ·exact .inr h
theorem Qqg (l:List Q0a) (c:Q0a):(∃p∈Q62 l c,p.2=c.2)/\∀p∈l,∃q∈Q62 l c,q.2=p.2:=by
 induction l with
 |nil=>exact ⟨⟨c,by simp[Q62],rfl⟩,fun p hp=>(by cases hp)⟩
 |cons q r ih=>
  obtain ⟨⟨x,hx,J4⟩,ih2⟩:=ih;simp only[Q62]
  split
  ·rename_i h2;refine ⟨⟨_,Xa2,h2⟩,fun p hp=>?_⟩;rcases UF.1 hp with rfl|hp
   ·exact ⟨_,Xa2,rfl⟩
   ·exact ⟨p,by simp[hp],rfl⟩
  ·refine ⟨⟨x,by simp[hx],J4⟩,fun p hp=>?_⟩;rcases UF.1 hp with rfl|hp
   ·exact ⟨p,by simp,rfl⟩
   ·obtain ⟨y,hy,O9⟩:=ih2 p hp;exact ⟨y,by simp[hy],O9⟩
theorem Qng {l:List Q0a} (h:l.Pairwise fun p q=>p.2≠q.2) (c:Q0a):(Q62 l c).Pairwise fun p q=>p.2≠q.2:=by
 induction l with
 |nil=>simp[Q62]
 |cons q r ih=>
  obtain ⟨h1,h2⟩:=TF.1 h;simp only[Q62]
  split
  ·exact TF.2 ⟨h1,h2⟩
  ·rename_i hc;refine TF.2 ⟨fun p hp=>?_,ih h2⟩;rcases Qdy r c p hp with ⟨x,hx,J4⟩|hp
   ·rw[<-J4];exact h1 x hx
   ·rw[hp];exact hc
theorem Qqh (l:List Q0a):((Qaq l).Pairwise fun p q=>p.2≠q.2)/\(∀E,Q1g E (Qaq l)=Q1g E l)/\(∀p∈Qaq l,∃q∈l,q.2=p.2)/\(∀p∈l,∃q∈Qaq l,q.2=p.2):=by
 have key:∀n,∀l:List Q0a,l.length=n->((Qaq l).Pairwise fun p q=>p.2≠q.2)/\(∀E,Q1g E (Qaq l)=Q1g E l)/\(∀p∈Qaq l,∃q∈l,q.2=p.2)/\(∀p∈l,∃q∈Qaq l,q.2=p.2):=by
  intro n
  induction n with
  |zero=>
   intro l hl;obtain rfl:=UH.1 hl;exact ⟨List.Pairwise.nil,fun _=>rfl,fun p hp=>(by cases hp),fun p hp=>(by cases hp)⟩
  |succ n ih=>
   intro l hl;have C1:l≠[]:=fun e=>by rw[e] at hl;simp at hl
   obtain ⟨k,c,rfl⟩:∃k c,l=k++[c]:=⟨l.dropLast,l.getLast C1,(List.dropLast_concat_getLast C1).symm⟩;obtain ⟨h1,h2,h3,h4⟩:=ih k (by simpa using hl);rw[Qh4];refine ⟨Qng h1 c,fun E=>by rw[Qnf,h2,Q9a],fun p hp=>?_,fun p hp=>?_⟩
   ·rcases Qdy _ c p hp with ⟨x,hx,J4⟩|hp
    ·obtain ⟨q,hq,N4⟩:=h3 x hx;exact ⟨q,by simp[hq],N4.trans J4⟩
    ·exact ⟨c,by simp,hp.symm⟩
   ·obtain ⟨i1,i2⟩:=Qqg (Qaq k) c;rcases UY.1 hp with hp|hp
    ·obtain ⟨q,hq,N4⟩:=h4 p hp;obtain ⟨r,hr,G1⟩:=i2 q hq;exact ⟨r,hr,G1.trans N4⟩
    ·rw[Uy] at hp;subst hp;exact i1
 exact key _ l rfl
theorem Qw4 (l:List Q0a) (p:Q0a):p∈Qaq l↔(∃q∈l,q.2=p.2)/\p.1=Q1g p.2 l:=by
 obtain ⟨h1,h2,h3,h4⟩:=Qqh l
 constructor
 ·intro hp;exact ⟨h3 p hp,by rw[<-h2,Q53 h1 hp]⟩
 ·rintro ⟨⟨q,hq,N4⟩,hp⟩;obtain ⟨r,hr,G1⟩:=h4 q hq;have h5:=Q53 h1 hr;rw[h2] at h5;have h6:r=p:=by
   obtain ⟨r1,r2⟩:=r;obtain ⟨p1,p2⟩:=p;simp only at G1 h5 hp N4;rw[N4] at G1;subst G1;rw[<-h5,<-hp]
  rw[<-h6];exact hr
theorem Qf8 (l:List Q0a) (p:Q0a):p∈Qaq l↔p∈Q23 l:=by rw[Qw4,Qlr]
def Q69:Dyadic->Bool
 | .zero=>true
 | .ofOdd n k _=>decide (n.natAbs<(2^64)^64) && (decide (-65536<=-k) && decide (-k<=65536))
theorem Q2a (d:Dyadic):Q69 d=true↔Q75 d:=by
 cases d with
 |zero=>exact ⟨fun _=>.inl rfl,fun _=>rfl⟩
 |ofOdd n k h=>
  have e:Dyadic.ofOdd n k h=dy n (-k):=by rw[Qc2 h,Int.neg_neg]
  constructor
  ·intro hb;simp only[Q69,Xa3,Xas] at hb;exact .inr ⟨n,-k,e,h,hb.1,hb.2.1,hb.2.2⟩
  ·rintro (h0|⟨m,f,h1,hm,h2,h3,h4⟩)
   ·exact absurd h0 Dyadic.of_ne_zero
   ·rw[e] at h1;obtain ⟨rfl,hk⟩:=Qq5 h hm h1;simp only[Q69,Xa3,Xas];exact ⟨h2,by omega,by omega⟩
theorem Q9b (d:Dyadic):Q69 d=false↔¬Q75 d:=by
 rw[<-Q2a];simp
theorem Qh5:Q75 0:=.inl rfl
theorem Qtd {d:Dyadic} (h:Q75 d):Q75 (-d):=by
 rcases h with rfl|⟨m,e,rfl,h1,h2,h3⟩
 ·exact .inl rfl
 ·exact .inr ⟨-m,e,Qq3 m e,by omega,by omega,h3⟩
def Q24 (l:List Q0a):Except Int (List Q0a):=
 if (Q23 l).any (fun p=> !Q69 p.1)=true then .error 2
 else if 24<((Q23 l).filter fun p=>decide (p.1≠0)).length then .error 6
 else .ok ((Q23 l).filter fun p=>decide (p.1≠0))
def Q14 (n:Nat) (E:List Int):Prop:=E.length=n/\(∀x∈E,0<=x)/\E.sum<=8
instance (n:Nat) (E:List Int):Decidable (Q14 n E):=by unfold Q14;infer_instance
def Qh6 (n:Nat) (p:Q0a):Prop:=Q75 p.1/\Q14 n p.2
def Q2z (n:Nat) (P:List Q0a):Prop:=Qbh P/\P.length<=24/\∀p∈P,p.1≠0/\Qh6 n p
theorem Qa4 {n:Nat} {l P:List Q0a} (hl:∀p∈l,Q14 n p.2) (h:Q24 l=.ok P):Q2z n P:=by
 unfold Q24 at h
 split at h
 ·cases h
 ·rename_i ha
  split at h
  ·cases h
  ·rename_i R0;injection h with h;subst h;obtain ⟨h1,_,h3,_⟩:=Q6z l;refine ⟨List.Pairwise.filter _ h1,by omega,fun p hp=>?_⟩;obtain ⟨hm,hz⟩:=List.mem_filter.1 hp;refine ⟨by simpa using hz,?_,?_⟩
   ·rw[<-Q2a];cases hf:Q69 p.1 with
    |true=>rfl
    |false=>
     exfalso;refine ha ?_;rw[Xah];exact ⟨p,hm,by rw[hf];rfl⟩
   ·obtain ⟨q,hq,N4⟩:=h3 p hm;rw[<-N4];exact hl q hq
theorem Qh7 {n:Nat} {P:List Q0a} (h:Q2z n P):P.filter (fun p=>decide (p.1≠0))=P:=by
 rw[List.filter_eq_self];intro p hp;simpa using (h.2.2 p hp).1
theorem Qqi {n:Nat} {P:List Q0a} (h:Q2z n P):Q24 P=.ok P:=by
 unfold Q24;rw[Qqf h.1,Qh7 h,Uq,Uq (by have:=h.2.1;omega)];intro ha;obtain ⟨p,hp,hf⟩:=Xah.1 ha;have:=(Q2a p.1).2 (h.2.2 p hp).2.1;rw[this] at hf;cases hf
def Qfz (a b:List Q0a):Except Int (List Q0a):=Q24 (a++b)
def Q5l (a:List Q0a):List Q0a:=a.map fun p=>(-p.1,p.2)
theorem Qnh {n:Nat} {P:List Q0a} (h:Q2z n P):Q2z n (Q5l P):=by
 refine ⟨?_,by simpa[Q5l] using h.2.1,fun p hp=>?_⟩
 ·unfold Q5l Qbh;rw[Xa8];exact h.1
 ·obtain ⟨q,hq,rfl⟩:=Tm.1 hp;obtain ⟨h1,h2,h3⟩:=h.2.2 q hq;refine ⟨fun e=>h1 ?_,Qtd h2,h3⟩;have:q.1= - -q.1:=by grind
  rw[this,show -q.1=0 from e];rfl
theorem Qh8 {n:Nat} {a b P:List Q0a} (ha:Q2z n a) (hb:Q2z n b) (h:Qfz a b=.ok P):Q2z n P:=
 Qa4 (fun p hp=>by
  rcases UY.1 hp with hp|hp
  ·exact (ha.2.2 p hp).2.2
  ·exact (hb.2.2 p hp).2.2) h
def Qja (P:List Q0a):Int:=P.foldl (fun d p=>max d p.2.sum) 0
theorem Qls (P:List Q0a) (d:Int):d<=P.foldl (fun d p=>max d p.2.sum) d/\∀p∈P,p.2.sum<=P.foldl (fun d p=>max d p.2.sum) d:=by
 induction P generalizing d with
 |nil=>exact ⟨Int.le_refl _,fun p hp=>by cases hp⟩
 |cons q P ih=>
  obtain ⟨h1,h2⟩:=ih (max d q.2.sum);rw[List.foldl_cons];refine ⟨by omega,fun p hp=>?_⟩;rcases UF.1 hp with rfl|hp
  ·omega
  ·exact h2 p hp
theorem Qqj {P:List Q0a} {p:Q0a} (h:p∈P):p.2.sum<=Qja P:=(Qls P 0).2 p h
theorem Qw5 (P:List Q0a):0<=Qja P:=(Qls P 0).1
def Qjb (a b:Q0a):Q0a:=(a.1*b.1,List.zipWith (·+·) a.2 b.2)
def Q83 (a b:List Q0a):List Q0a:=a.flatMap fun x=>b.map (Qjb x)
def Q8d (a b:List Q0a):Except Int (List Q0a):=
 if a≠[]/\b≠[]/\8<Qja a+Qja b then .error 6
 else if (Q83 a b).any (fun p=> !Q69 p.1)=true then .error 2
 else Q24 (Q83 a b)
theorem Qk3:∀(x y:List Int),x.length=y.length->(List.zipWith (·+·) x y).sum=x.sum+y.sum
 |[],[],_=>rfl
 |a::x,b::y,h=>by
  have:=Qk3 x y (by simpa using h);simp only[List.zipWith_cons_cons,List.sum_cons,this];omega
theorem Qk4:∀(x y:List Int),(∀a∈x,0<=a)->(∀a∈y,0<=a)->∀a∈List.zipWith (·+·) x y,0<=a
 |[],_,_,_,a,h=>by simp at h
 |_::_,[],_,_,a,h=>by simp at h
 |a::x,b::y,hx,hy,c,h=>by
  rw[List.zipWith_cons_cons] at h;rcases UF.1 h with rfl|h
  ·have:=hx a (by simp);have:=hy b (by simp);omega
  ·exact Qk4 x y (fun z hz=>hx z (by simp[hz])) (fun z hz=>hy z (by simp[hz])) c h
theorem Qdz {n:Nat} {a b:List Q0a} (ha:Q2z n a) (hb:Q2z n b) (hd:¬(a≠[]/\b≠[]/\8<Qja a+Qja b)):∀p∈Q83 a b,Q14 n p.2:=by
 intro p hp;obtain ⟨x,hx,hp⟩:=List.mem_flatMap.1 hp;obtain ⟨y,hy,rfl⟩:=Tm.1 hp;obtain ⟨_,_,U4,J4,hx3⟩:=ha.2.2 x hx;obtain ⟨_,_,R8,O9,hy3⟩:=hb.2.2 y hy;refine ⟨by simp[Qjb,U4,R8],Qk4 _ _ J4 O9,?_⟩
 show (List.zipWith (·+·) x.2 y.2).sum<=8
 rw[Qk3 _ _ (U4.trans R8.symm)];have h1:=Qqj hx;have h2:=Qqj hy;have h3:¬8<Qja a+Qja b:=fun h=>hd ⟨fun e=>(by rw[e] at hx;cases hx),fun e=>(by rw[e] at hy;cases hy),h⟩;omega
theorem Qh9 {n:Nat} {a b P:List Q0a} (ha:Q2z n a) (hb:Q2z n b) (h:Q8d a b=.ok P):Q2z n P:=by
 unfold Q8d at h
 split at h
 ·cases h
 ·rename_i hd
  split at h
  ·cases h
  ·exact Qa4 (Qdz ha hb hd) h
def Qe0 (p:List Q0a):Nat->Except Int (List Q0a)
 |0=>.ok p
 |k+1=>match Qe0 p k with
  | .error e=>.error e
  | .ok q=>Q8d q p
def Q6a (n:Nat) (p:List Q0a) (k:Nat):Except Int (List Q0a):=
 match k with
 |0=>.ok [(1,List.replicate n 0)]
 |k+1=>Qe0 p k
inductive Ex where
 |num (c:Option Dyadic)
 |var (i:Nat)
 |sum (l:List (Bool × Ex))
 |prod (l:List Ex)
 |pow (b:Ex) (k:Nat)
def Q84 (n i:Nat):List Int:=(List.replicate n 0).set i 1
mutual
def Q16 (n:Nat):Ex->Except Int (List Q0a)
 | .num none=>.error 2
 | .num (some c)=>Q24 [(c,List.replicate n 0)]
 | .var i=>Q24 [(1,Q84 n i)]
 | .sum l=>Q45 n none l
 | .prod l=>Q4c n none l
 | .pow b k=>match Q16 n b with
   | .error e=>.error e
   | .ok p=>Q6a n p k
def Q45 (n:Nat) (acc:Option (List Q0a)):List (Bool × Ex)->Except Int (List Q0a)
 |[]=>.ok (acc.getD [])
 |(b,t)::r=>match Q16 n t with
  | .error e=>.error e
  | .ok p=>match acc with
    |none=>Q45 n (some (if b then Q5l p else p)) r
    |some q=>match Qfz q (if b then Q5l p else p) with
     | .error e=>.error e
     | .ok q'=>Q45 n (some q') r
def Q4c (n:Nat) (acc:Option (List Q0a)):List Ex->Except Int (List Q0a)
 |[]=>.ok (acc.getD [])
 |t::r=>match Q16 n t with
  | .error e=>.error e
  | .ok p=>match acc with
    |none=>Q4c n (some p) r
    |some q=>match Q8d q p with
     | .error e=>.error e
     | .ok q'=>Q4c n (some q') r
end
end Go.Proofs.YtdilmfakkppgpaaGreatDoor
