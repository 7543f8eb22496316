/- Part 9. No condition. -/
import Derived.DeepKeys4
import Derived.Maps.Keyed
import Derived.Maps.OwnSet
import Derived.Maps.Views
import Derived.Test.YtidojbkhlenahaaGreatDoorPkProblemDrawn08
set_option maxRecDepth 100000
set_option maxHeartbeats 16000000
namespace Go.Proofs.YtidojbkhlenahaaGreatDoor
open Go.RowKit WordsM
structure Q2u where
 neg:Bool
 exp:Int
 ws:LN
def Q2u.ok (x:Q2u):Prop:=Q0a x.neg x.exp x.ws
def Q2u.val (x:Q2u):Dyadic:=Q2m x.neg x.exp x.ws
structure Q0f (w:World) (a:OA) (l c:Nat) (x:Q2u):Prop where
 lie:WordsIn w a l c x.ws
 lo: -9223372036854775808<=x.exp
 hi:x.exp<=9223372036854775807
theorem Q0f.step {w w':World} {a:OA} {l c:Nat} {x:Q2u} (h:Q0f w a l c x) (hb:Bw w w'):Q0f w' a l c x:=⟨h.lie.step hb,h.lo,h.hi⟩
theorem Qn2 (a:OA) (c:Nat) (w:World):
 Calls Tryz.prog 203 #[.slice a 0 c] w fun e w'=>∃a' c',e=.returned (.slice a' 0 c')/\WordsIn w' a' 0 c' []/\Bw w w':=by
 cases a with
 |none=>exact (Tryz.J1e 0 c w).mono fun e w' ⟨h1,h2⟩=>⟨none,0,h1,⟨rfl,Ue _,by decide,fun x hx=>by simp at hx,.inl rfl⟩,by rw[h2];exact Ud _ _⟩
 |some a=>
  obtain ⟨i0,hi,E2,O1,Y1⟩:=Xbn Q4s;have JN:=fun W=>Lib.run_eql_slice_nil (P:=Tryz.prog) W 24 83 (some a) 0 c 0 0 Tryz.underlying24
  go_enter Tryz.func203,Tryz.ntmps203
  go_wp2_with (at_builtin;refine wpList_append_own _ rfl _ _ 24 rfl w.heap.size 83 i0 (.int .u64 0) 1 8 Tryz.underlying24 hi E2 O1 Y1 rfl (by decide) _ _ _ rfl (World.ownsRow_made w #[] 0 (Ue _) (Uv _) rfl) a 0 c [] rfl rfl (by intro j u hj;simp at hj) (by intro u hu;cases hu) (by unfold maxLen;omega) (by omega) (by simp) ?_)
  intro v' w1 J4 J3 hnil';have HO:=Xh2 J4 (((Ud w.heap.size w).alloc (Ue _) _).grown J3 (by simp) (by intro k hk;simp[Value.ownBlock] at hk;omega));clear J4 J3 hnil'
  go_wp2_with fail
  go_ret;obtain ⟨_,⟨rfl,_⟩|⟨g,cap,cur,rfl,J8,hg,hnc,E3,B7,i4⟩⟩:=(Xo0 HO)
  ·exact ⟨_,_,rfl,⟨rfl,Ue _,by decide,fun x hx=>by simp at hx,.inl rfl⟩,(Xe1 HO)⟩
  ·exact ⟨_,_,rfl,⟨rfl,Uv _,by simpa[maxLen] using E3,fun x hx=>by simp at hx,.inl rfl⟩,(Xe1 HO)⟩
theorem Q90 (a:OA) (c:Nat) (w:World) (h:WordsIn w a 0 c []):
 Calls Tryz.prog 146 #[.slice a 0 c] w fun e w'=>∃a' c',e=.returned (.slice a' 0 c')/\WordsIn w' a' 0 c' []/\Bw w w':=by
 have hc:=Q1e a 0 c [] w h;have h0:(trimL ([]:LN)).length=0:=rfl;rw[h0] at hc;have HC:=Ua hc;clear hc h h0
 go_enter Tryz.func146,Tryz.ntmps146
 go_wp2_with (first
  |(go_at_call 144;refine HC.out.mono ?_;rintro e w1 ⟨rfl,C0⟩;have I0:=Ua C0;clear C0)
  |(refine (Qn2 a c w1).mono ?_;rintro e w2 ⟨a',c',rfl,hw,D0⟩;have H2:=Xh2 hw D0;clear hw D0))
 go_ret;exact ⟨a',c',rfl,(Xo0 H2),Below.next0 I0.out (Xe1 H2)⟩
theorem Qt6 (a:OA) (c:Nat) (w:World) (h:WordsIn w a 0 c []):
 Calls Tryz.prog 96 #[.agg #[.bool false,.int .i64 0,.slice a 0 c]] w fun r w'=>∃a' c',r=.returned (.agg #[.bool false,.int .i64 0,.slice a' 0 c'])/\WordsIn w' a' 0 c' []/\Bw w w':=by
 obtain ⟨i9,hX,hR,hB⟩:=Q89 w (.bool false) (.int .i64 0) (.slice a 0 c) (.bool false) (.int .i64 0) (.slice none 0 0) 26 26;generalize hW:(w.alloc (.cells #[.bool false,.int .i64 0,.slice a 0 c] 26)).alloc (.cells #[.bool false,.int .i64 0,.slice none 0 0] 26)=W at hX hR hB i9;have F2:w.heap.size+1<W.heap.size:=by omega
 clear i9;have j9:=Q1j false 0 a 0 c [] W (h.step hB) (by omega) (by omega) (by omega);rw[UW (show Q0a false 0 [] by unfold Q0a;simp)] at j9;have Qo:∀W2,Bw w W2->Calls Tryz.prog 146 #[.slice a 0 c] W2 fun r w'=>∃a' c',r=.returned (.slice a' 0 c')/\WordsIn w' a' 0 c' []/\Bw W2 w':=fun W2 hb=>Q90 a c W2 (h.step hb);have HR:=Xh6 hX hR hB j9 Qo F2;obtain ⟨xc0,xc1,xc2⟩:=hX.cc;clear hX hR hB j9 Qo F2 h
 go_enter Tryz.func96,Tryz.ntmps96
 go_wp2_with (first
  |(go_at_call_of 53 (Value.bool false);refine (Xo3 HR).mono ?_;rintro r w1 ⟨rfl,C0⟩;have JC:=(Xo0 HR).step C0 (by have:=(Xe5 HR);omega);obtain ⟨uc0,uc1,uc2⟩:=JC.cc;have HA:=Xh2 C0 (Below.next0 (Xo2 HR) C0);clear JC C0)
  |(go_at_call_of 146 a;refine ((Xo4 HR) w1 (Xe1 HA)).mono ?_;rintro r w2 ⟨a',c',rfl,i5,D0⟩;have F0:=(Xe5 HR);have o8:=Below.next0 (Xo0 HA) D0;have Qp:=(Xo0 HR).step o8 (by omega);have Ja:=(Xo1 HR).step o8 F0;
    have yc2:=Qp.c2;have yf2:=Qp.f2;have KM:=Qp.set2 (.slice a' 0 c');have G8:=Ja.far (p:=⟨w.heap.size,2,none⟩) (by show w.heap.size≠w.heap.size+1;omega) (.slice a' 0 c');obtain ⟨zc0,zc1,zc2⟩:=KM.cc;obtain ⟨rc0,rc1,rc2,rf0,rf1,rf2⟩:=G8.cf;have rd1:=G8.d1 (.bool false);have rd2:=G8.d2 (.bool false) (.int .i64 0);have E9:=WordsIn.set1 i5 Qp.c2 (fun _=>by simp[nv]) (.slice a' 0 c');have HM:=Xh3 E9 G8 ((Below.next0 (Xo2 HR) o8).setCell (p:=⟨w.heap.size,2,none⟩) (Ue _) (.slice a' 0 c'));clear Qp Ja KM G8 E9 D0 o8 i5))
 have hS:=(Xo1 HM).store (.bool false) (.int .i64 0) (.slice a' 0 c');obtain ⟨k0,k1,k2⟩:=hS.cc;have X3:=Q03.below (Xe2 HM) (show w.heap.size<=w.heap.size+1 by omega) (.bool false) (.int .i64 0) (.slice a' 0 c');have ZI:=(Xo0 HM).set3 (Xo1 HM) (.bool false) (.int .i64 0) (.slice a' 0 c');exact ⟨rfl,.agg #[.bool false,.int .i64 0,.slice a' 0 c'],by simp[results,go_sem,k0,k1,k2],a',c',rfl,ZI,X3⟩
theorem Qvu (n:Bool) (e:Int) (a:OA) (l c:Nat) (L:LN) (w:World) (h:WordsIn w a l c L) (hi:Q0a n e L):
 Calls Tryz.prog 96 #[.agg #[.bool n,.int .i64 e,.slice a l c]] w fun r w'=>∃a' l' c',r=.returned (.agg #[.bool n,.int .i64 e,.slice a' l' c'])/\WordsIn w' a' l' c' L/\Bw w w':=by
 by_cases h0:L=[]
 ·subst h0;obtain rfl:l=0:=h.len.symm;obtain ⟨rfl,rfl⟩:n=false/\e=0:=by unfold Q0a at hi;simpa using hi
  exact (Qt6 a c w h).mono fun r w' ⟨a',c',h1,h2,h3⟩=>⟨a',0,c',h1,h2,h3⟩
 ·exact (Qq1 n e a l c L w h hi h0).mono fun r w' ⟨a',l',c',h1,h2,h3⟩=>⟨a',l',c',h1,h2.toWordsIn,h3⟩
theorem Qjp (n:Bool) (e:Int) (a:OA) (l c:Nat) (L:LN) (w:World) (h:WordsIn w a l c L) (hi:Q0a n e L):
 Calls Tryz.prog 54 #[.agg #[.bool n,.int .i64 e,.slice a l c]] w fun r w'=>r=.returned (.int .i64 (Qa4 n (val (2^64) L)))/\Bw w w':=by
 have Q0:Bw w (w.alloc (.cells #[.bool n,.int .i64 e,.slice a l c] 26)):=Ba;have hN:=Q03.new w (.bool n) (.int .i64 e) (.slice a l c) 26;have R3:=Qvu n e a l c L _ (h.step Q0) hi;have QS:=Qca h hi;obtain ⟨sg,o4⟩:∃s,Qa4 n (val (2^64) L)=s:=⟨_,rfl⟩;obtain ⟨k0,k1,k2⟩:=hN.cc;have hl:=h.len;have HO:=Xh5 R3 Q0 QS o4 hl;rw[o4];clear R3 Q0 hN h hi QS o4 hl
 go_enter Tryz.func54,Tryz.ntmps54
 go_wp2_with (first
  |(go_at_call_of 96 (Value.agg #[.bool n,.int .i64 e,.slice a l c]);refine (Xo0 HO).mono ?_;rintro r w1 ⟨a',l',c',rfl,hw,C0⟩
    have hl':l'=l:=(by rw[<-hw.len];exact (Xe4 HO));have hg:=Q3y n e a' l' c' L w1 hw (by have:=(Xo2 HO).1;omega);have Q2:Calls Tryz.prog 95 #[.agg #[.bool n,.int .i64 e,.slice a' l' c']] w1 fun r w'=>r=.returned (.int .i64 sg)/\Bw w1 w':=(by rw[<-(Xo3 HO)];exact hg);have H1:=Xh2 Q2 (Below.next0 (Xo1 HO) C0);clear hw C0 hg Q2 hl')
  |(refine (Xo0 H1).mono ?_;rintro r w2 ⟨rfl,D0⟩;have H2:=Ua (Below.next0 (Xe1 H1) D0);clear D0))
 go_ret;exact ⟨rfl,H2.out⟩
def Q8b (x:Q2u):Prop:=x.ok/\Q6o x.val
theorem Qq6 {n:Bool} {e:Int} {L:LN} {w:World} {a:OA} {l c:Nat} (h:WordsIn w a l c L) (hi:Q0a n e L):0<Qa4 n (val (2^64) L)↔Q6o (Q2m n e L):=by
 have hz:=Q45 hi h.low;unfold Q6o;unfold Q2m at*;rw[Q4g];unfold Qa4
 by_cases h0:val (2^64) L=0
 ·rw[Uu h0];have:dy (sgn n (val (2^64) L)) e=0:=by rw[h0,Q2z];rfl
  exact ⟨fun h=>absurd h (by decide),fun h=>absurd this h.1⟩
 ·rw[Uq h0];have C1:dy (sgn n (val (2^64) L)) e≠0:=fun e=>by rw[hz.1 e] at h0;exact h0 rfl
  generalize hv:val (2^64) L=v at*;cases n
  ·have:¬((sgn false v:Int)<0):=(by simp[sgn]);simp[this,C1]
  ·have:(sgn true v:Int)<0:=(by simp[sgn];omega);simp[this]
theorem Qcd (x:Q2u) (a:OA) (l c:Nat) (w:World) (h:Q0f w a l c x):
 Calls Tryz.prog 20 #[.agg #[.bool x.neg,.int .i64 x.exp,.slice a l c]] w fun r w'=>Q0b (Q8b x) r/\Bw w w':=by
 obtain ⟨n,e,L⟩:=x;obtain ⟨hw,E5,Qc⟩:=h;simp only at hw E5 Qc⊢;have Q0:Bw w (w.alloc (.cells #[.bool n,.int .i64 e,.slice a l c] 26)):=Ba;have hN:=Q03.new w (.bool n) (.int .i64 e) (.slice a l c) 26;have F0:=Q0o w (.cells #[.bool n,.int .i64 e,.slice a l c] 26);have E3:=Uj hw.cap hw.most;have j9:=Q1j n e a l c L _ (hw.step Q0) E5 Qc E3;obtain ⟨k0,k1,k2⟩:=hN.cc
 by_cases hi:Q0a n e L
 case neg=>
  rw[UU hi] at j9;have HR:=Xh3 j9 Q0 hi;clear j9 Q0 hN hw hi F0
  go_enter Tryz.func20,Tryz.ntmps20
  go_wp2_with (go_at_call 53;refine (Xo0 HR).mono ?_;rintro r w1 ⟨rfl,C0⟩;have H1:=Ua C0;clear C0)
  go_ret;exact ⟨Q0b.no (fun h=>(Xe2 HR) h.1) rfl,Below.next0 (Xo1 HR) H1.out⟩
 case pos=>
 rw[UW hi] at j9;have o4:=fun W (hb:Bw w W)=>Qjp n e a l c L W (hw.step hb) hi;have hab:=Qq6 hw hi;obtain ⟨s,hs⟩:∃s,Qa4 n (val (2^64) L)=s:=⟨_,rfl⟩;rw[hs] at hab;simp only[hs] at o4;have HR:=Xh7 j9 Q0 o4 hi hab hN F0;clear j9 Q0 hN hw o4 hab hs F0
 by_cases h0:0<s
 all_goals
  go_enter Tryz.func20,Tryz.ntmps20
  go_wp2_with (first
   |(go_at_call 53;refine (Xo0 HR).mono ?_;rintro r w1 ⟨rfl,C0⟩;have K2:=(Xo5 HR).step C0 (Xe6 HR);obtain ⟨k0,k1,k2⟩:=K2.cc;have H1:=Ua (Below.next0 (Xo1 HR) C0);clear C0 K2)
   |(refine ((Xo2 HR) w1 H1.out).mono ?_;rintro r w2 ⟨rfl,D0⟩;have H2:=Ua (Below.next0 H1.out D0);clear D0))
  go_ret
 ·exact ⟨Q0b.yes ⟨(Xo3 HR),(Xo4 HR).1 h0⟩ rfl,H2.out⟩
 ·exact ⟨Q0b.no (fun h=>absurd ((Xo4 HR).2 h.2) (by omega)) (by rw[UU (show¬0<s by omega)];rfl),H2.out⟩
theorem Qn3 (x y:Q2u) (a b:OA) (l c m d:Nat) (w:World) (h1:Q0f w a l c x) (h2:Q0f w b m d y) (i1:x.ok) (i2:y.ok):
 Calls Tryz.prog 21 #[.agg #[.bool x.neg,.int .i64 x.exp,.slice a l c],.agg #[.bool y.neg,.int .i64 y.exp,.slice b m d]] w fun r w'=>(∃s,r=.returned (.int .i64 s)/\Q3x s x.val y.val)/\Bw w w':=by
 obtain ⟨nx,ex,ls⟩:=x;obtain ⟨ny,ey,ks⟩:=y;obtain ⟨S4,x6,I7⟩:=h1;obtain ⟨Z4,QM,QA⟩:=h2;simp only[Q2u.ok,Q2u.val] at*;obtain ⟨W0,M1⟩:∃W0,(w.alloc (.cells #[.bool nx,.int .i64 ex,.slice a l c] 26)).alloc (.cells #[.bool ny,.int .i64 ey,.slice b m d] 26)=W0:=⟨_,rfl⟩;have hQ:Qq4 w W0 nx ex a l c ls ny ey b m d ks:=by rw[<-M1];exact Qq4.new S4 Z4 _ _
 have J1:=Uj S4.cap S4.most;have I1:=Uj Z4.cap Z4.most;have HC:=Ua (fun W (hW:Bw W0 W)=>And.intro (hQ.step hW) (And.intro (Q1j nx ex a l c ls W (hQ.step hW).wx x6 I7 J1) (And.intro (Q1j ny ey b m d ks W (hQ.step hW).wy QM QA I1) (Qan nx ex a l c ls ny ey b m d ks W (hQ.step hW).wx (hQ.step hW).wy i1 i2))));have HI:=Xh2 (UW i1) (UW i2);have x0:=hQ.x.c0;have x1:=hQ.x.c1;have x2:=hQ.x.c2;have y0:=hQ.y.c0;have y1:=hQ.y.c1;have y2:=hQ.y.c2;clear hQ S4 Z4 i1 i2
 go_enter Tryz.func21,Tryz.ntmps21
 go_upto_region 1 with fail
 clear M1
 go_wp2_with (first
  |(go_at_call 55;refine (HC.out w2 H2.out).2.2.2.mono ?_;rintro e w3 ⟨⟨s,rfl,hs⟩,M0⟩;have H3:=Xh2 hs M0;clear hs M0)
  |(go_at_call_of 53 (Value.agg #[.bool ny,.int .i64 ey,.slice b m d]);refine (HC.out w1 H1.out).2.2.1.mono ?_;rintro e w2 ⟨rfl,D0⟩;rw[(Xe1 HI)];have H2:=Ua (Below.next0 H1.out D0);have hq:=(HC.out w2 H2.out).1;have x0:=hq.x.c0;have x1:=hq.x.c1;have x2:=hq.x.c2;have y0:=hq.y.c0;have y1:=hq.y.c1;have y2:=hq.y.c2;clear hq D0)
  |(go_at_call_of 53 (Value.agg #[.bool nx,.int .i64 ex,.slice a l c]);refine (HC.out W0 (Ud _ _)).2.1.mono ?_;rintro e w1 ⟨rfl,C0⟩;rw[(Xo0 HI)];have H1:=Ua C0;have hq:=(HC.out w1 C0).1;have x0:=hq.x.c0;have x1:=hq.x.c1;have x2:=hq.x.c2;have y0:=hq.y.c0;have y1:=hq.y.c1;have y2:=hq.y.c2;clear hq C0))
 go_ret;exact ⟨⟨s,rfl,(Xo0 H3)⟩,Below.next0 (Below.next0 (HC.out W0 (Ud _ _)).1.bel H2.out) (Xe1 H3)⟩
theorem Q8m (n lo hi:Int) (w:World):Calls Tryz.prog 22 #[.int .i64 n,.int .i64 lo,.int .i64 hi] w fun r w'=>r=.returned (.bool (decide (lo<=n/\n<=hi)))/\Bw w w':=by
 by_cases h1:lo<=n <;> by_cases h2:n<=hi
 all_goals
  go_enter Tryz.func22,Tryz.ntmps22
  go_wp2_with fail
  go_ret;exact ⟨by simp[h1,h2] <;> omega,Ud _ _⟩
def Q1a [LT ZK] (w:World) (a:OA) (n c:Nat) (F:List (List Q01)):Prop:=
 F.length=n/\n<=c/\c<=9223372036854775807/\(F=[]∨∃b o,a=some ⟨b,o,none⟩/\b<w.heap.size/\∀j ms,F[j]?=some ms->∃p l d,w.cell? ⟨b,o+j,none⟩=some (.slice p l d)/\Q0k w p l d ms)
theorem Q1a.step [LT ZK] {w w':World} {a:OA} {n c:Nat} {F:List (List Q01)} (h:Q1a w a n c F) (hb:Bw w w'):Q1a w' a n c F:=by
 obtain ⟨h1,h2,h3,h4⟩:=h;refine ⟨h1,h2,h3,?_⟩;rcases h4 with h4|⟨b,o,h5,h6,h7⟩
 ·exact .inl h4
 ·refine .inr ⟨b,o,h5,Uc h6 hb.size,fun j ms hm=>?_⟩;obtain ⟨p,l,d,h8,h9⟩:=h7 j ms hm;exact ⟨p,l,d,(hb.cell (p:=⟨b,o+j,none⟩) h6).trans h8,h9.step hb⟩
def Q1u (F:List (List Q01)):Prop:=1<=F.length/\F.length<=4/\∀ms∈F,Q38 F.length ms
theorem Q8c [LT ZK] (a:OA) (n c:Nat) (F:List (List Q01)) (w:World) (h:Q1a w a n c F):
 Calls Tryz.prog 18 #[.slice a n c] w fun r w'=>Q0b (Q1u F) r/\Bw w w':=by
 have P2:=h.1;subst P2;have E3:=Uj h.2.1 h.2.2.1;have HM:=Ua h;clear h
 go_enter Tryz.func18,Tryz.ntmps18
 go_wp2_with fail
 go_loopw [7] (fun iv wr=>∃i:Nat,iv=.int .i64 (i:Int)/\i<=F.length/\(∀j ms,j<i->F[j]?=some ms->Q38 F.length ms)/\Bw w wr) (fun iv _=>F.length-(intOf iv).toNat)
 case atStart=>exact ⟨0,rfl,Uv _,fun j m h=>absurd h (Tf _),Ud _ _⟩
 case round=>
  obtain ⟨i,rfl,hi,X1,hb⟩:=hrel
  by_cases F0:i<F.length
  ·have G0:(i:Int)<(F.length:Int):=(by omega);obtain ⟨ms,hm⟩:∃ms,F[i]?=some ms:=⟨_,Ub F0⟩;obtain ⟨b0,o0,rfl,Q0,J2⟩:∃b o,a=some ⟨b,o,none⟩/\b<wr.heap.size/\∀j ms,F[j]?=some ms->∃p l d,wr.cell? ⟨b,o+j,none⟩=some (.slice p l d)/\Q0k wr p l d ms:=by
    rcases (HM.out.step hb).2.2.2 with h0|h0
    ·rw[h0] at F0;simp at F0
    ·exact h0
   obtain ⟨p,l,d,Y4,V5⟩:=J2 i ms hm;have R9:=Qff p l d ms F.length wr V5 E3;have HA:=Xh4 X1 hb hm R9;clear X1 hb hm R9 J2 V5
   by_cases hr:Q38 F.length ms
   ·have R9:Calls Tryz.prog 51 #[.slice p l d,.int .i64 (F.length:Int)] wr fun r w'=>r=.returned (.bool true)/\Bw wr w':=(Xe3 HA).mono (by
     rintro r w' ⟨⟨b,rfl,C3⟩,F3⟩;rw[C3.2 hr];exact ⟨rfl,F3⟩)
    have HR:=Xh2 R9 hr;clear R9 hr
    go_wp2_with (refine (Xo0 HR).mono ?_;rintro r w1 ⟨rfl,C0⟩;have I0:=Ua C0;clear C0)
    refine ⟨⟨i+1,by simp,by omega,fun j x hj hx=>?_,Below.next0 (Xo1 HA) I0.out⟩,by simp only[intOf];omega⟩
    by_cases hji:j=i
    ·subst hji;have:=(Xo2 HA);rw[hx] at this;injection this with this;rw[this];exact (Xe1 HR)
    ·exact (Xo0 HA) j x (by omega) hx
   ·have R9:Calls Tryz.prog 51 #[.slice p l d,.int .i64 (F.length:Int)] wr fun r w'=>r=.returned (.bool false)/\Bw wr w':=(Xe3 HA).mono (by
     rintro r w' ⟨⟨b,rfl,C3⟩,F3⟩;cases b
     ·exact ⟨rfl,F3⟩
     ·exact absurd (C3.1 rfl) hr)
    have C4:¬Q1u F:=fun h=>hr (h.2.2 ms (Ug (Xo2 HA)));have HR:=Xh2 R9 C4;clear R9 hr C4
    go_wp2_with (refine (Xo0 HR).mono ?_;rintro r w1 ⟨rfl,C0⟩;have I0:=Ua C0;clear C0)
    go_ret;exact ⟨Q0b.no (Xe1 HR) rfl,Below.next0 (Xo1 HA) I0.out⟩
  ·obtain rfl:i=F.length:=(by omega);have G0:¬((F.length:Int)<(F.length:Int)):=(by omega);have A1:∀ms∈F,Q38 F.length ms:=fun m hm=>by
    obtain ⟨j,hj⟩:=US.1 hm;exact X1 j m (Uh.1 hj).1 hj
   have HF:=Xh2 A1 hb;clear A1 hb X1
   by_cases k1:1<=F.length
   ·have k1':(1:Int)<=(F.length:Int):=by omega
    by_cases k4:F.length<=4
    ·have k4':(F.length:Int)<=4:=by omega
     go_wp2_with fail
     go_ret;exact ⟨Q0b.yes ⟨k1,k4,(Xo0 HF)⟩ rfl,(Xe1 HF)⟩
    ·have k4':¬(F.length:Int)<=4:=by omega
     go_wp2_with fail
     go_ret;exact ⟨Q0b.no (fun h=>k4 h.2.1) rfl,(Xe1 HF)⟩
   ·have k1':¬(1:Int)<=(F.length:Int):=by omega
    go_wp2_with fail
    go_ret;exact ⟨Q0b.no (fun h=>k1 h.1) rfl,(Xe1 HF)⟩
theorem yn {f:FuncId} {args:Array Value} {w:World} {Φ:Prop} {R:World->Prop} (h:Calls Tryz.prog f args w fun r w'=>Q0b Φ r/\R w'):∃b,(b=true↔Φ)/\Calls Tryz.prog f args w fun r w'=>r=.returned (.bool b)/\R w':=by
 classical
 refine ⟨decide Φ,by simp,h.mono ?_⟩;rintro r w' ⟨⟨b,rfl,hb⟩,hR⟩;refine ⟨?_,hR⟩;cases b
 ·rw[UU fun h=>by simpa using hb.2 h]
 ·rw[UW (hb.1 rfl)]
theorem Q0b.of {Φ:Prop} {b:Bool} {r:Ending} (h:b=true↔Φ) (hr:r=.returned (.bool b)):Q0b Φ r:=⟨b,hr,h⟩
def Q2x (w:World) (b:Nat) (vs:LV):Prop:=∀i v,vs[i]?=some v->w.cell? ⟨b,i,none⟩=some v
theorem Q2x.new (w:World) (vs:LV) (T:TypeId):Q2x (w.alloc (.cells vs.toArray T)) w.heap.size vs:=fun i v h=>by
 rw[UL _ _ _ _ _ _ (Up _ _)];simpa using h
theorem Q2x.step {w w':World} {b B:Nat} {vs:LV} (h:Q2x w b vs) (hb:Below B w w') (hB:b<B):Q2x w' b vs:=fun i v hi=>(hb.cell (p:=⟨b,i,none⟩) hB).trans (h i v hi)
structure IvV where
 lo:Q2u
 hi:Q2u
def IvV.ok (x:IvV):Prop:=x.lo.ok/\x.hi.ok/\Q9x x.lo.val x.hi.val
theorem Qjq (x:IvV) (a b:OA) (l c m d:Nat) (w:World) (h1:Q0f w a l c x.lo) (h2:Q0f w b m d x.hi):
 Calls Tryz.prog 52 #[.agg #[.bool x.lo.neg,.int .i64 x.lo.exp,.slice a l c,.bool x.hi.neg,.int .i64 x.hi.exp,.slice b m d]] w fun r w'=>Q0b x.ok r/\Bw w w':=by
 obtain ⟨⟨nx,ex,ls⟩,⟨ny,ey,ks⟩⟩:=x;obtain ⟨S4,x6,I7⟩:=h1;obtain ⟨Z4,QM,QA⟩:=h2;simp only at S4 x6 I7 Z4 QM QA⊢;have J1:=Uj S4.cap S4.most;have I1:=Uj Z4.cap Z4.most;have hC:=Q2x.new w [.bool nx,.int .i64 ex,.slice a l c,.bool ny,.int .i64 ey,.slice b m d] 44;have Q0:Bw w (w.alloc (.cells #[.bool nx,.int .i64 ex,.slice a l c,.bool ny,.int .i64 ey,.slice b m d] 44)):=Ba;have F0:=Q0o w (.cells #[.bool nx,.int .i64 ex,.slice a l c,.bool ny,.int .i64 ey,.slice b m d] 44);obtain ⟨W0,M1⟩:∃W0,w.alloc (.cells #[.bool nx,.int .i64 ex,.slice a l c,.bool ny,.int .i64 ey,.slice b m d] 44)=W0:=⟨_,rfl⟩;rw[M1] at Q0 F0
 change Q2x (w.alloc (.cells #[.bool nx,.int .i64 ex,.slice a l c,.bool ny,.int .i64 ey,.slice b m d] 44)) _ _ at hC
 rw[M1] at hC;have HC:=Ua (fun W (hW:Bw W0 W)=>have hb:=Below.next0 Q0 hW;And.intro (hC.step hW F0) (And.intro (Q1j nx ex a l c ls W (S4.step hb) x6 I7 J1) (And.intro (Q1j ny ey b m d ks W (Z4.step hb) QM QA I1) (fun i1 i2=>Qan nx ex a l c ls ny ey b m d ks W (S4.step hb) (Z4.step hb) i1 i2))));have HB:=Ua Q0;have k0:=hC 0 _ rfl;have k1:=hC 1 _ rfl;have k2:=hC 2 _ rfl;have k3:=hC 3 _ rfl;have k4:=hC 4 _ rfl;have k5:=hC 5 _ rfl;clear hC Q0 F0 S4 Z4;obtain ⟨p1,F9⟩:∃p,decide (Q0a nx ex ls)=p:=⟨_,rfl⟩;obtain ⟨p2,JS⟩:∃p,decide (Q0a ny ey ks)=p:=⟨_,rfl⟩;have HP:=Xh2 F9 JS;clear F9 JS;cases p1
 case false=>
  go_enter Tryz.func52,Tryz.ntmps52
  go_upto_region 1 with fail
  clear M1
  go_wp2_with (go_at_call 53;refine (HC.out W0 (Ud _ _)).2.1.mono ?_;rintro e w1 ⟨rfl,C0⟩;rw[(Xo0 HP)];have H1:=Ua C0;clear C0)
  go_ret;exact ⟨Q0b.no (fun h=>Xaq (Xo0 HP) h.1) rfl,Below.next0 HB.out H1.out⟩
 cases p2
 case false=>
  go_enter Tryz.func52,Tryz.ntmps52
  go_upto_region 1 with fail
  clear M1
  go_wp2_with (first
   |(go_at_call_of 53 (Value.agg #[.bool ny,.int .i64 ey,.slice b m d]);refine (HC.out w1 H1.out).2.2.1.mono ?_;rintro e w2 ⟨rfl,D0⟩;rw[(Xe1 HP)];have H2:=Ua (Below.next0 H1.out D0);clear D0)
   |(go_at_call_of 53 (Value.agg #[.bool nx,.int .i64 ex,.slice a l c]);refine (HC.out W0 (Ud _ _)).2.1.mono ?_;rintro e w1 ⟨rfl,C0⟩;rw[(Xo0 HP)];have H1:=Ua C0;have hq:=(HC.out w1 C0).1;have k0:=hq 0 _ rfl;have k1:=hq 1 _ rfl;have k2:=hq 2 _ rfl;have k3:=hq 3 _ rfl;have k4:=hq 4 _ rfl;have k5:=hq 5 _ rfl;clear hq C0))
  go_ret;exact ⟨Q0b.no (fun h=>Xaq (Xe1 HP) h.2.1) rfl,Below.next0 HB.out H2.out⟩
 have HI:=Xh2 (TF (Xo0 HP)) (TF (Xe1 HP))
 go_enter Tryz.func52,Tryz.ntmps52
 go_upto_region 1 with fail
 clear M1
 go_wp2_with (first
  |(go_at_call 55;refine ((HC.out w2 H2.out).2.2.2 (Xo0 HI) (Xe1 HI)).mono ?_;rintro e w3 ⟨⟨s,rfl,hs⟩,M0⟩;have H3:=Xh2 hs (Below.next0 H2.out M0);clear hs M0)
  |(go_at_call_of 53 (Value.agg #[.bool ny,.int .i64 ey,.slice b m d]);refine (HC.out w1 H1.out).2.2.1.mono ?_;rintro e w2 ⟨rfl,D0⟩;rw[(Xe1 HP)];have H2:=Ua (Below.next0 H1.out D0);have hq:=(HC.out w2 H2.out).1;have k0:=hq 0 _ rfl;have k1:=hq 1 _ rfl;have k2:=hq 2 _ rfl;have k3:=hq 3 _ rfl;have k4:=hq 4 _ rfl;have k5:=hq 5 _ rfl;clear hq D0)
  |(go_at_call_of 53 (Value.agg #[.bool nx,.int .i64 ex,.slice a l c]);refine (HC.out W0 (Ud _ _)).2.1.mono ?_;rintro e w1 ⟨rfl,C0⟩;rw[(Xo0 HP)];have H1:=Ua C0;have hq:=(HC.out w1 C0).1;have k0:=hq 0 _ rfl;have k1:=hq 1 _ rfl;have k2:=hq 2 _ rfl;have k3:=hq 3 _ rfl;have k4:=hq 4 _ rfl;have k5:=hq 5 _ rfl;clear hq C0))
 go_ret;refine ⟨Q0b.of (b:=decide (s<=0)) ?_ rfl,Below.next0 HB.out (Xe1 H3)⟩;have hs:=(Xo0 H3).2;unfold IvV.ok Q9x;rw[TC];refine ⟨fun h=>⟨(Xo0 HI),(Xe1 HI),?_⟩,fun h=>?_⟩
 ·cases hv:Q2s (Q2m ny ey ks-Q2m nx ex ls)
  ·exact hv
  ·have:=hs.2 hv;omega
 ·refine Int.not_lt.1 fun h0=>?_;have h3:=h.2.2;unfold Q2u.val at h3;rw[hs.1 h0] at h3;cases h3
def Qt7 (w:World) (g o:Nat) (x:IvV):Prop:=∃a l c b m d,(w.cell? ⟨g,o,none⟩=some (.bool x.lo.neg)/\w.cell? ⟨g,o+1,none⟩=some (.int .i64 x.lo.exp)/\w.cell? ⟨g,o+2,none⟩=some (.slice a l c)/\w.cell? ⟨g,o+3,none⟩=some (.bool x.hi.neg)/\w.cell? ⟨g,o+4,none⟩=some (.int .i64 x.hi.exp)/\w.cell? ⟨g,o+5,none⟩=some (.slice b m d))/\Q0f w a l c x.lo/\Q0f w b m d x.hi
theorem Qt7.step {w w':World} {g o:Nat} {x:IvV} (h:Qt7 w g o x) (hb:Bw w w') (F0:g<w.heap.size):Qt7 w' g o x:=by
 obtain ⟨a,l,c,b,m,d,⟨h0,h1,h2,h3,h4,h5⟩,h6,h7⟩:=h;have hc:∀i v,w.cell? ⟨g,i,none⟩=some v->w'.cell? ⟨g,i,none⟩=some v:=fun i v h=>(hb.cell (p:=⟨g,i,none⟩) F0).trans h;exact ⟨a,l,c,b,m,d,⟨hc _ _ h0,hc _ _ h1,hc _ _ h2,hc _ _ h3,hc _ _ h4,hc _ _ h5⟩,h6.step hb,h7.step hb⟩
def Q6r (w:World) (a:OA) (n c:Nat) (B:List IvV):Prop:=
 B.length=n/\n<=c/\c<=9223372036854775807/\(B=[]∨∃b o,a=some ⟨b,o,none⟩/\b<w.heap.size/\∀j x,B[j]?=some x->Qt7 w b (o+j*6) x)
theorem Q6r.step {w w':World} {a:OA} {n c:Nat} {B:List IvV} (h:Q6r w a n c B) (hb:Bw w w'):Q6r w' a n c B:=by
 obtain ⟨h1,h2,h3,h4⟩:=h;refine ⟨h1,h2,h3,?_⟩;rcases h4 with h4|⟨b,o,h5,h6,h7⟩
 ·exact .inl h4
 ·exact .inr ⟨b,o,h5,Uc h6 hb.size,fun j m hm=>(h7 j m hm).step hb h6⟩
def Qce (B:List IvV):Prop:=1<=B.length/\B.length<=4/\∀x∈B,x.ok
theorem Qh8 (a:OA) (n c:Nat) (B:List IvV) (w:World) (h:Q6r w a n c B):
 Calls Tryz.prog 19 #[.slice a n c] w fun r w'=>Q0b (Qce B) r/\Bw w w':=by
 have P2:=h.1;subst P2;have E3:=Uj h.2.1 h.2.2.1;have HM:=Ua h;clear h
 go_enter Tryz.func19,Tryz.ntmps19
 go_wp2_with fail
 go_loopw [7] (fun iv wr=>∃i:Nat,iv=.int .i64 (i:Int)/\i<=B.length/\(∀j x,j<i->B[j]?=some x->x.ok)/\Bw w wr) (fun iv _=>B.length-(intOf iv).toNat)
 case atStart=>exact ⟨0,rfl,Uv _,fun j m h=>absurd h (Tf _),Ud _ _⟩
 case round=>
  obtain ⟨i,rfl,hi,X1,hb⟩:=hrel
  by_cases F0:i<B.length
  ·have G0:(i:Int)<(B.length:Int):=(by omega);obtain ⟨x,hm⟩:∃x,B[i]?=some x:=⟨_,Ub F0⟩;obtain ⟨b0,o0,rfl,Q0,J2⟩:∃b o,a=some ⟨b,o,none⟩/\b<wr.heap.size/\∀j x,B[j]?=some x->Qt7 wr b (o+j*6) x:=by
    rcases (HM.out.step hb).2.2.2 with h0|h0
    ·rw[h0] at F0;simp at F0
    ·exact h0
   obtain ⟨p,l,d,q,m,e,⟨y0,y1,y2,y3,y4,y5⟩,E6,C5⟩:=J2 i x hm;have hC:=Q2x.new wr [.bool x.lo.neg,.int .i64 x.lo.exp,.slice p l d,.bool x.hi.neg,.int .i64 x.hi.exp,.slice q m e] 44
   change Q2x (wr.alloc (.cells #[.bool x.lo.neg,.int .i64 x.lo.exp,.slice p l d,.bool x.hi.neg,.int .i64 x.hi.exp,.slice q m e] 44)) _ _ at hC
   have Q1:Bw wr (wr.alloc (.cells #[.bool x.lo.neg,.int .i64 x.lo.exp,.slice p l d,.bool x.hi.neg,.int .i64 x.hi.exp,.slice q m e] 44)):=Ba;obtain ⟨r,hr,F1⟩:=yn (Qjq x p q l d m e _ (E6.step Q1) (C5.step Q1));have k0:=hC 0 _ rfl;have k1:=hC 1 _ rfl;have k2:=hC 2 _ rfl;have k3:=hC 3 _ rfl;have k4:=hC 4 _ rfl;have k5:=hC 5 _ rfl;have HA:=Xh5 X1 (Below.next0 hb Q1) hm hr F1;clear X1 hb hm J2 E6 C5 hC Q1 hr F1;cases r
   ·go_wp2_with (refine (Xe4 HA).mono ?_;rintro r w1 ⟨rfl,C0⟩;have I0:=Ua C0;clear C0)
    go_ret;exact ⟨Q0b.no (fun h=>by have:=(Xo3 HA).2 (h.2.2 x (Ug (Xo2 HA)));cases this) rfl,Below.next0 (Xo1 HA) I0.out⟩
   ·go_wp2_with (refine (Xe4 HA).mono ?_;rintro r w1 ⟨rfl,C0⟩;have I0:=Ua C0;clear C0)
    refine ⟨⟨i+1,by simp,by omega,fun j z hj hx=>?_,Below.next0 (Xo1 HA) I0.out⟩,by simp only[intOf];omega⟩
    by_cases hji:j=i
    ·subst hji;have:=(Xo2 HA);rw[hx] at this;injection this with this;rw[this];exact (Xo3 HA).1 (by trivial)
    ·exact (Xo0 HA) j z (by omega) hx
  ·obtain rfl:i=B.length:=(by omega);have G0:¬((B.length:Int)<(B.length:Int)):=(by omega);have A1:∀x∈B,x.ok:=fun m hm=>by
    obtain ⟨j,hj⟩:=US.1 hm;exact X1 j m (Uh.1 hj).1 hj
   have HF:=Xh2 A1 hb;clear A1 hb X1
   by_cases k1:1<=B.length
   ·have k1':(1:Int)<=(B.length:Int):=by omega
    by_cases k4:B.length<=4
    ·have k4':(B.length:Int)<=4:=by omega
     go_wp2_with fail
     go_ret;exact ⟨Q0b.yes ⟨k1,k4,(Xo0 HF)⟩ rfl,(Xe1 HF)⟩
    ·have k4':¬(B.length:Int)<=4:=by omega
     go_wp2_with fail
     go_ret;exact ⟨Q0b.no (fun h=>k4 h.2.1) rfl,(Xe1 HF)⟩
   ·have k1':¬(1:Int)<=(B.length:Int):=by omega
    go_wp2_with fail
    go_ret;exact ⟨Q0b.no (fun h=>k1 h.1) rfl,(Xe1 HF)⟩
noncomputable def yesB (Φ:Prop):Bool:= @decide Φ (Classical.propDecidable Φ)
theorem Q0c {Φ:Prop}:yesB Φ=true↔Φ:= @decide_eq_true_iff Φ (Classical.propDecidable Φ)
theorem yn1 {f:FuncId} {args:Array Value} {w:World} {Φ:Prop} {R:World->Prop} (h:Calls Tryz.prog f args w fun r w'=>Q0b Φ r/\R w') {b:Bool} (hb:yesB Φ=b):Calls Tryz.prog f args w fun r w'=>r=.returned (.bool b)/\R w':=by
 refine h.mono ?_;rintro r w' ⟨⟨d,rfl,hd⟩,hR⟩;refine ⟨?_,hR⟩;rw[<-hb,show yesB Φ=d from Xa4.2 (Q0c.trans hd.symm)]
structure Pl where
 a:OA
 l:Nat
 c:Nat
structure Qfg where
 f:Pl
 b:Pl
 t:Pl
 m:Pl
 e:Pl
structure Q33 where
 field:List (List Q01)
 box:List IvV
 til:Q2u
 most:Q2u
 least:Q2u
 prec:Int
 order:Int
 budget:Int
def Q2e (p:Qfg) (x:Q33):LV:=[.slice p.f.a p.f.l p.f.c,.slice p.b.a p.b.l p.b.c,.bool x.til.neg,.int .i64 x.til.exp,.slice p.t.a p.t.l p.t.c,.bool x.most.neg,.int .i64 x.most.exp,.slice p.m.a p.m.l p.m.c,.bool x.least.neg,.int .i64 x.least.exp,.slice p.e.a p.e.l p.e.c,.int .i64 x.prec,.int .i64 x.order,.int .i64 x.budget]
structure Q2j [LT ZK] (w:World) (p:Qfg) (x:Q33):Prop where
 f:Q1a w p.f.a p.f.l p.f.c x.field
 b:Q6r w p.b.a p.b.l p.b.c x.box
 t:Q0f w p.t.a p.t.l p.t.c x.til
 m:Q0f w p.m.a p.m.l p.m.c x.most
 e:Q0f w p.e.a p.e.l p.e.c x.least
theorem Q2j.step [LT ZK] {w w':World} {p:Qfg} {x:Q33} (h:Q2j w p x) (hb:Bw w w'):Q2j w' p x:=⟨h.f.step hb,h.b.step hb,h.t.step hb,h.m.step hb,h.e.step hb⟩
structure Q1h (x:Q33):Prop where
 field:Q1u x.field
 box:Qce x.box
 same:x.box.length=x.field.length
 til:Q8b x.til
 most:Q8b x.most
 least:Q8b x.least
 ord:Q9x x.least.val x.most.val
 prec:8<=x.prec/\x.prec<=256
 order:2<=x.order/\x.order<=10
 budget:1<=x.budget/\x.budget<=4096
theorem Q05 {w:World} {b:Nat} {v0 v1 v2 v3 v4 v5 v6 v7 v8 v9 v10 v11 v12 v13:Value} (h:Q2x w b [v0,v1,v2,v3,v4,v5,v6,v7,v8,v9,v10,v11,v12,v13]):
 w.cell? ⟨b,0,none⟩=some v0/\w.cell? ⟨b,1,none⟩=some v1/\w.cell? ⟨b,2,none⟩=some v2/\w.cell? ⟨b,3,none⟩=some v3/\w.cell? ⟨b,4,none⟩=some v4/\w.cell? ⟨b,5,none⟩=some v5/\w.cell? ⟨b,6,none⟩=some v6/\w.cell? ⟨b,7,none⟩=some v7/\w.cell? ⟨b,8,none⟩=some v8/\w.cell? ⟨b,9,none⟩=some v9/\w.cell? ⟨b,10,none⟩=some v10/\w.cell? ⟨b,11,none⟩=some v11/\w.cell? ⟨b,12,none⟩=some v12/\w.cell? ⟨b,13,none⟩=some v13:=
 ⟨h 0 _ rfl,h 1 _ rfl,h 2 _ rfl,h 3 _ rfl,h 4 _ rfl,h 5 _ rfl,h 6 _ rfl,h 7 _ rfl,h 8 _ rfl,h 9 _ rfl,h 10 _ rfl,h 11 _ rfl,h 12 _ rfl,h 13 _ rfl⟩
theorem Qjr (x:Q33) {b1 b2 b3 b4 b5 b6 b7 b8 b9 b10:Bool} (h1:yesB (Q1u x.field)=b1) (h2:yesB (Qce x.box)=b2) (h3:yesB (x.box.length=x.field.length)=b3) (h4:yesB (Q8b x.til)=b4) (h5:yesB (Q8b x.most)=b5) (h6:yesB (Q8b x.least)=b6) (h7:yesB (Q9x x.least.val x.most.val)=b7) (h8:decide (8<=x.prec/\x.prec<=256)=b8) (h9:decide (2<=x.order/\x.order<=10)=b9) (QC:decide (1<=x.budget/\x.budget<=4096)=b10):
 yesB (Q1h x)=(b1 && (b2 && (b3 && (b4 && (b5 && (b6 && (b7 && (b8 && (b9 && b10))))))))):=by
 subst h1 h2 h3 h4 h5 h6 h7 h8 h9 QC;rw[Xa4];simp only[Xad,Q0c,TC];exact ⟨fun h=>⟨h.1,h.2,h.3,h.4,h.5,h.6,h.7,h.8,h.9,h.10⟩,fun ⟨h1,h2,h3,h4,h5,h6,h7,h8,h9,QC⟩=>⟨h1,h2,h3,h4,h5,h6,h7,h8,h9,QC⟩⟩
theorem Qxn {s:Int} {x y:Dyadic} {b:Bool} (hs:Q3x s x y) (hb:yesB (Q9x x y)=b):decide (0<s)= !b:=by
 have h1:=hs.2;rw[<-hb]
 by_cases h0:0<s
 ·rw[UW h0];have:¬Q9x x y:=fun h=>by unfold Q9x at h;rw[h1.1 h0] at h;cases h
  cases hv:yesB (Q9x x y)
  ·rfl
  ·exact absurd (Q0c.1 hv) this
 ·rw[UU h0];have:Q9x x y:=by
   unfold Q9x;cases hv:Q2s (y-x)
   ·rfl
   ·exact absurd (h1.2 hv) h0
  rw[Q0c.2 this];rfl
theorem Q34 [LT ZK] (p:Qfg) (x:Q33) (w:World) (h:Q2j w p x):
 Calls Tryz.prog 9 #[.agg (Q2e p x).toArray] w fun r w'=>Q0b (Q1h x) r/\Bw w w':=by
 suffices hs:Calls Tryz.prog 9 #[.agg (Q2e p x).toArray] w fun r w'=>r=.returned (.bool (yesB (Q1h x)))/\Bw w w' from hs.mono fun r w' ⟨h1,h2⟩=>⟨Q0b.of Q0c h1,h2⟩
 obtain ⟨⟨fa,fl,fc⟩,⟨ba,bl,bc⟩,⟨ta,tl,tc⟩,⟨ma,ml,mc⟩,⟨ea,el,ec⟩⟩:=p;obtain ⟨F,B,⟨tn,te,ts⟩,⟨mn,me,ms⟩,⟨en,ee,es⟩,prec,order,budget⟩:=x;have hfl:F.length=fl:=h.f.1;have K4:B.length=bl:=h.b.1;obtain ⟨b1,h1⟩:∃b,yesB (Q1u F)=b:=⟨_,rfl⟩;obtain ⟨b2,h2⟩:∃b,yesB (Qce B)=b:=⟨_,rfl⟩;obtain ⟨b3,h3⟩:∃b,yesB (B.length=F.length)=b:=⟨_,rfl⟩;obtain ⟨b4,h4⟩:∃b,yesB (Q8b ⟨tn,te,ts⟩)=b:=⟨_,rfl⟩;obtain ⟨b5,h5⟩:∃b,yesB (Q8b ⟨mn,me,ms⟩)=b:=⟨_,rfl⟩;obtain ⟨b6,h6⟩:∃b,yesB (Q8b ⟨en,ee,es⟩)=b:=⟨_,rfl⟩;obtain ⟨b7,h7⟩:∃b,yesB (Q9x (Q2u.val ⟨en,ee,es⟩) (Q2u.val ⟨mn,me,ms⟩))=b:=⟨_,rfl⟩;obtain ⟨b8,h8⟩:∃b,decide (8<=prec/\prec<=256)=b:=⟨_,rfl⟩;obtain ⟨b9,h9⟩:∃b,decide (2<=order/\order<=10)=b:=⟨_,rfl⟩;obtain ⟨b10,QC⟩:∃b,decide (1<=budget/\budget<=4096)=b:=⟨_,rfl⟩;have HR:=Ua (Qjr ⟨F,B,⟨tn,te,ts⟩,⟨mn,me,ms⟩,⟨en,ee,es⟩,prec,order,budget⟩ h1 h2 h3 h4 h5 h6 h7 h8 h9 QC);generalize yesB (Q1h ⟨F,B,⟨tn,te,ts⟩,⟨mn,me,ms⟩,⟨en,ee,es⟩,prec,order,budget⟩)=rr at HR⊢;have hC:=Q2x.new w (Q2e ⟨⟨fa,fl,fc⟩,⟨ba,bl,bc⟩,⟨ta,tl,tc⟩,⟨ma,ml,mc⟩,⟨ea,el,ec⟩⟩ ⟨F,B,⟨tn,te,ts⟩,⟨mn,me,ms⟩,⟨en,ee,es⟩,prec,order,budget⟩) 28;have Q0:Bw w (w.alloc (.cells (Q2e ⟨⟨fa,fl,fc⟩,⟨ba,bl,bc⟩,⟨ta,tl,tc⟩,⟨ma,ml,mc⟩,⟨ea,el,ec⟩⟩ ⟨F,B,⟨tn,te,ts⟩,⟨mn,me,ms⟩,⟨en,ee,es⟩,prec,order,budget⟩).toArray 28)):=Ba;have F0:=Q0o w (.cells (Q2e ⟨⟨fa,fl,fc⟩,⟨ba,bl,bc⟩,⟨ta,tl,tc⟩,⟨ma,ml,mc⟩,⟨ea,el,ec⟩⟩ ⟨F,B,⟨tn,te,ts⟩,⟨mn,me,ms⟩,⟨en,ee,es⟩,prec,order,budget⟩).toArray 28);simp only[Q2e] at hC Q0 F0⊢;obtain ⟨W0,M1⟩:∃W0,w.alloc (.cells #[.slice fa fl fc,.slice ba bl bc,.bool tn,.int .i64 te,.slice ta tl tc,.bool mn,.int .i64 me,.slice ma ml mc,.bool en,.int .i64 ee,.slice ea el ec,.int .i64 prec,.int .i64 order,.int .i64 budget] 28)=W0:=⟨_,rfl⟩;rw[M1] at hC Q0 F0;have HC:=Ua (fun V (hV:Bw W0 V)=>have hh:=h.step (Below.next0 Q0 hV);And.intro (hC.step hV F0) (And.intro (yn1 (Q8c fa fl fc F V hh.f) h1) (And.intro (yn1 (Qh8 ba bl bc B V hh.b) h2) (And.intro (yn1 (Qcd ⟨tn,te,ts⟩ ta tl tc V hh.t) h4) (And.intro (yn1 (Qcd ⟨mn,me,ms⟩ ma ml mc V hh.m) h5) (And.intro (yn1 (Qcd ⟨en,ee,es⟩ ea el ec V hh.e) h6) (fun i1 i2=>Qn3 ⟨en,ee,es⟩ ⟨mn,me,ms⟩ ea ma el ec ml mc V hh.e hh.m i1 i2)))))));have HH:=Xh7 h5 h6 h7 h8 h9 QC Q0;obtain ⟨k0,k1,k2,k3,k4,k5,k6,k7,k8,k9,k10,k11,k12,k13⟩:=Q05 hC;clear hC Q0 F0 h h1 h2 h4 h5 h6 h7 h8 h9 QC;have key:(b1=false)∨(b1=true/\b2=false)∨(b1=true/\b2=true/\b3=false/\¬(bl:Int)=(fl:Int))∨(b1=true/\b2=true/\b3=true/\bl=fl/\b4=false)∨(b1=true/\b2=true/\b3=true/\bl=fl/\b4=true/\b5=false)∨(b1=true/\b2=true/\b3=true/\bl=fl/\b4=true/\b5=true/\b6=false)∨(b1=true/\b2=true/\b3=true/\bl=fl/\b4=true/\b5=true/\b6=true/\b7=false)∨(b1=true/\b2=true/\b3=true/\bl=fl/\b4=true/\b5=true/\b6=true/\b7=true/\b8=false)∨(b1=true/\b2=true/\b3=true/\bl=fl/\b4=true/\b5=true/\b6=true/\b7=true/\b8=true/\b9=false)∨(b1=true/\b2=true/\b3=true/\bl=fl/\b4=true/\b5=true/\b6=true/\b7=true/\b8=true/\b9=true):=by
  have Vn:=fun h:b3=true=>Q0c.1 (h3.trans h);have h3'':b3=false->¬(bl:Int)=(fl:Int):=fun h e=>by rw[Q0c.2 (by omega)] at h3;rw[h] at h3;cases h3
  have h4':b3=true->bl=fl:=fun h=>by have:=Vn h;omega
  clear h3 Vn;cases b1 <;> cases b2 <;> cases b3 <;> cases b4 <;> cases b5 <;> cases b6 <;> cases b7 <;> cases b8 <;> cases b9 <;> simp_all
 clear h3;rcases key with rfl|⟨rfl,rfl⟩|⟨rfl,rfl,rfl,C1⟩|⟨rfl,rfl,rfl,rfl,rfl⟩|⟨rfl,rfl,rfl,rfl,rfl,rfl⟩|⟨rfl,rfl,rfl,rfl,rfl,rfl,rfl⟩|⟨rfl,rfl,rfl,rfl,rfl,rfl,rfl,rfl⟩|⟨rfl,rfl,rfl,rfl,rfl,rfl,rfl,rfl,rfl⟩|⟨rfl,rfl,rfl,rfl,rfl,rfl,rfl,rfl,rfl,rfl⟩|⟨rfl,rfl,rfl,rfl,rfl,rfl,rfl,rfl,rfl,rfl⟩
 all_goals
  go_enter Tryz.func9,Tryz.ntmps9
  go_upto_region 1 with fail
  clear M1
  go_wp2_with (first
   |(go_at_call 18;refine ((HC.out W0 (Ud _ _)).2.1).mono ?_;rintro e w1 ⟨rfl,hb⟩;have H1:=Ua hb;have hq:=(HC.out w1 H1.out).1;obtain ⟨k0,k1,k2,k3,k4,k5,k6,k7,k8,k9,k10,k11,k12,k13⟩:=Q05 hq;clear hq hb)
   |(go_at_call 19;refine ((HC.out w1 H1.out).2.2.1).mono ?_;rintro e w2 ⟨rfl,hb⟩;have H2:=Ua (Below.next0 H1.out hb);have hq:=(HC.out w2 H2.out).1;obtain ⟨k0,k1,k2,k3,k4,k5,k6,k7,k8,k9,k10,k11,k12,k13⟩:=Q05 hq;clear hq hb)
   |(go_at_call_of 20 (Value.agg #[.bool tn,.int .i64 te,.slice ta tl tc]);refine ((HC.out w2 H2.out).2.2.2.1).mono ?_;rintro e w3 ⟨rfl,hb⟩;have H3:=Ua (Below.next0 H2.out hb);have hq:=(HC.out w3 H3.out).1;obtain ⟨k0,k1,k2,k3,k4,k5,k6,k7,k8,k9,k10,k11,k12,k13⟩:=Q05 hq;clear hq hb)
   |(go_at_call_of 20 (Value.agg #[.bool mn,.int .i64 me,.slice ma ml mc]);refine ((HC.out w3 H3.out).2.2.2.2.1).mono ?_;rintro e w4 ⟨rfl,hb⟩;have H4:=Ua (Below.next0 H3.out hb);have hq:=(HC.out w4 H4.out).1;obtain ⟨k0,k1,k2,k3,k4,k5,k6,k7,k8,k9,k10,k11,k12,k13⟩:=Q05 hq;clear hq hb)
   |(go_at_call_of 20 (Value.agg #[.bool en,.int .i64 ee,.slice ea el ec]);refine ((HC.out w4 H4.out).2.2.2.2.2.1).mono ?_;rintro e w5 ⟨rfl,hb⟩;have H5:=Ua (Below.next0 H4.out hb);have hq:=(HC.out w5 H5.out).1;obtain ⟨k0,k1,k2,k3,k4,k5,k6,k7,k8,k9,k10,k11,k12,k13⟩:=Q05 hq;clear hq hb)
   |(go_at_call 21;refine ((HC.out w5 H5.out).2.2.2.2.2.2 (Q0c.1 (Xo1 HH)).1 (Q0c.1 (Xo0 HH)).1).mono ?_;rintro e w6 ⟨⟨s,rfl,hs⟩,hb⟩;have KN:=Qxn hs (Xo2 HH);simp only[Bool.not_true,Bool.not_false,TU,Tv] at KN;clear hs;have H6:=Ua (Below.next0 H5.out hb);have hq:=(HC.out w6 H6.out).1;obtain ⟨k0,k1,k2,k3,k4,k5,k6,k7,k8,k9,k10,k11,k12,k13⟩:=Q05 hq;clear hq hb)
   |(go_at_call_of 22 (Value.int .i64 prec);refine (Q8m prec 8 256 w6).mono ?_;rintro e w7 ⟨rfl,hb⟩;rw[(Xo3 HH)];have H7:=Ua (Below.next0 H6.out hb);have hq:=(HC.out w7 H7.out).1;obtain ⟨k0,k1,k2,k3,k4,k5,k6,k7,k8,k9,k10,k11,k12,k13⟩:=Q05 hq;clear hq hb)
   |(go_at_call_of 22 (Value.int .i64 order);refine (Q8m order 2 10 w7).mono ?_;rintro e w8 ⟨rfl,hb⟩;rw[(Xo4 HH)];have H8:=Ua (Below.next0 H7.out hb);have hq:=(HC.out w8 H8.out).1;obtain ⟨k0,k1,k2,k3,k4,k5,k6,k7,k8,k9,k10,k11,k12,k13⟩:=Q05 hq;clear hq hb)
   |(go_at_call_of 22 (Value.int .i64 budget);refine (Q8m budget 1 4096 w8).mono ?_;rintro e w9 ⟨rfl,hb⟩;rw[(Xo5 HH)];have H9:=Ua (Below.next0 H8.out hb);have hq:=(HC.out w9 H9.out).1;obtain ⟨k0,k1,k2,k3,k4,k5,k6,k7,k8,k9,k10,k11,k12,k13⟩:=Q05 hq;clear hq hb))
  go_ret
  first
  |exact ⟨by rw[HR.out];rfl,Below.next0 (Xe6 HH) H9.out⟩
  |exact ⟨by rw[HR.out];rfl,Below.next0 (Xe6 HH) H8.out⟩
  |exact ⟨by rw[HR.out];rfl,Below.next0 (Xe6 HH) H7.out⟩
  |exact ⟨by rw[HR.out];rfl,Below.next0 (Xe6 HH) H6.out⟩
  |exact ⟨by rw[HR.out];rfl,Below.next0 (Xe6 HH) H5.out⟩
  |exact ⟨by rw[HR.out];rfl,Below.next0 (Xe6 HH) H4.out⟩
  |exact ⟨by rw[HR.out];rfl,Below.next0 (Xe6 HH) H3.out⟩
  |exact ⟨by rw[HR.out];rfl,Below.next0 (Xe6 HH) H2.out⟩
  |exact ⟨by rw[HR.out];rfl,Below.next0 (Xe6 HH) H1.out⟩
theorem Q56 {Φ:Prop} (h:yesB Φ=false):¬Φ:=fun h'=>by rw[Q0c.2 h'] at h;cases h
theorem Q57 {α:Type} {A B:List α} {n:Nat} (hA:A.length=n) (hB:B.length=n) (h:∀j,j<n->A[j]?=B[j]?):A=B:=by
 refine Xbh fun j=>?_
 by_cases hj:j<n
 ·exact h j hj
 ·rw[Ta (by omega),Ta (by omega)]
theorem Q58 {α:Type} {A B:List α} {i:Nat} {x:α} (h:∀j,j<i->A[j]?=B[j]?) (ha:A[i]?=some x) (hb:B[i]?=some x):∀j,j<i+1->A[j]?=B[j]?:=fun j hj=>by
 by_cases e:j=i
 ·rw[e,ha,hb]
 ·exact h j (by omega)
theorem Q6s {α:Type} {A B:List α} {i:Nat} {x y:α} (ha:A[i]?=some x) (hb:B[i]?=some y) (C1:x≠y):A≠B:=fun e=>by
 rw[e,hb] at ha;injection ha with ha;exact C1 ha.symm
theorem Qcf {α:Type} {A B:List α} {n m:Nat} (hA:A.length=n) (hB:B.length=m) (h:¬(n:Int)=(m:Int)):A≠B:=fun e=>h (by rw[<-hA,<-hB,e])
theorem Qn4 [LT ZK] (a b:OA) (n c m d:Nat) (E F:List Int) (w:World) (h1:Q0p w a n c E) (h2:Q0p w b m d F):
 Calls Tryz.prog 105 #[.slice a n c,.slice b m d] w fun r w'=>Q0b (E=F) r/\Bw w w':=by
 have C6:=h1.len;have Z6:=h2.len;have E3:=Uj h1.cap h1.most;have Xh:=Uj h2.cap h2.most;have H:=Xh2 h1.rd h2.rd;clear h1 h2
 by_cases hnm:n=m
 case neg=>
  have Y8:¬(n:Int)=(m:Int):=by omega
  go_enter Tryz.func105,Tryz.ntmps105
  go_wp2_with fail
  go_ret;exact ⟨Q0b.no (Qcf C6 Z6 Y8) rfl,Ud _ _⟩
 case pos=>
 subst hnm
 go_enter Tryz.func105,Tryz.ntmps105
 go_wp2_with fail
 go_loopw [13] (fun s wr=>∃i:Nat,s=.int .i64 (i:Int)/\i<=n/\(∀j,j<i->E[j]?=F[j]?)/\Bw w wr) (fun iv _=>n-(intOf iv).toNat)
 case atStart=>exact ⟨0,rfl,Uv _,fun j hj=>absurd hj (Tf _),Ud _ _⟩
 case round=>
  obtain ⟨i,rfl,hi,hq,Z0⟩:=hrel
  by_cases F0:i<n
  ·have G0:(i:Int)<(n:Int):=(by omega);obtain ⟨x,hx⟩:∃x,E[i]?=some x:=⟨_,Ub (by omega)⟩;obtain ⟨y,hy⟩:∃x,F[i]?=some x:=⟨_,Ub (by omega)⟩;obtain ⟨b1,o1,rfl,C0,k1⟩:=(Xo0 H).at_ hx;obtain ⟨b2,o2,rfl,D0,k2⟩:=(Xe1 H).at_ hy;have k1:=(Z0.cell (p:=⟨b1,o1+i,none⟩) C0).trans k1;have k2:=(Z0.cell (p:=⟨b2,o2+i,none⟩) D0).trans k2;have HQ:=Xh4 Z0 hq hx hy;clear hq hx hy Z0
   by_cases Jt:x=y
   ·subst Jt
    go_upto_region 6 with fail
    go_quiet (fail)
    go_wp2_with fail
    exact ⟨⟨i+1,congrArg (Value.int .i64) (by omega),by omega,Q58 (Xo1 HQ) (Xo2 HQ) (Xe3 HQ),Q19 (Xo0 HQ) _⟩,by simp only[intOf];omega⟩
   ·go_upto_region 6 with fail
    go_quiet (fail)
    go_wp2_with fail
    go_ret;exact ⟨Q0b.no (Q6s (Xo2 HQ) (Xe3 HQ) Jt) rfl,Q19 (Xo0 HQ) _⟩
  ·have G0:¬(i:Int)<(n:Int):=(by omega);have HQ:=Xh2 Z0 (Q57 C6 Z6 fun j hj=>hq j (by omega));clear hq Z0
   go_wp2_with fail
   go_ret;exact ⟨Q0b.yes (Xe1 HQ) rfl,(Xo0 HQ)⟩
theorem Qlh {x y:Q2u}:decide (x.neg=y.neg/\x.exp=y.exp/\x.ws=y.ws)=true↔x=y:=by
 rw[TC];exact ⟨fun ⟨p,q,r⟩=>by cases x;cases y;simp at p q r;subst p q r;rfl,fun e=>by subst e;exact ⟨rfl,rfl,rfl⟩⟩
theorem Q46 (x y:Q2u) (a b:OA) (l c m d:Nat) (w:World) (h1:Q0f w a l c x) (h2:Q0f w b m d y):
 Calls Tryz.prog 30 #[.agg #[.bool x.neg,.int .i64 x.exp,.slice a l c],.agg #[.bool y.neg,.int .i64 y.exp,.slice b m d]] w fun r w'=>Q0b (x=y) r/\Bw w w':=
 (Qbn x.neg x.exp a l c x.ws y.neg y.exp b m d y.ws w h1.lie h2.lie (Uj h1.lie.cap h1.lie.most)).mono fun r w' ⟨h,hb⟩=>⟨Q0b.of Qlh h,hb⟩
def Q01.num (m:Q01):Q2u:=⟨m.neg,m.exp,m.ws⟩
theorem Q9h {m k:Q01}:m=k↔m.num=k.num/\m.es=k.es:=by
 refine ⟨fun e=>by subst e;exact ⟨rfl,rfl⟩,fun ⟨h1,h2⟩=>?_⟩;cases m;cases k;simp only[Q01.num,Q2u.mk.injEq] at h1;obtain ⟨rfl,rfl,rfl⟩:=h1;simp only at h2;subst h2;rfl
theorem Qh9 [LT ZK] (m k:Q01) (aw:OA) (lw cw:Nat) (ae:OA) (le ce:Nat) (bw:OA) (mw dw:Nat) (be:OA) (me de:Nat) (w:World) (h1:Q0f w aw lw cw m.num) (h2:Q0f w bw mw dw k.num) (e1:Q0p w ae le ce m.es) (e2:Q0p w be me de k.es):
 Calls Tryz.prog 104 #[.agg #[.bool m.neg,.int .i64 m.exp,.slice aw lw cw,.slice ae le ce],.agg #[.bool k.neg,.int .i64 k.exp,.slice bw mw dw,.slice be me de]] w fun r w'=>Q0b (m=k) r/\Bw w w':=by
 obtain ⟨W,hW⟩:∃W,(w.alloc (.cells #[.bool m.neg,.int .i64 m.exp,.slice aw lw cw,.slice ae le ce] 98)).alloc (.cells #[.bool k.neg,.int .i64 k.exp,.slice bw mw dw,.slice be me de] 98)=W:=⟨_,rfl⟩;have B5:=Ur w (.cells #[.bool m.neg,.int .i64 m.exp,.slice aw lw cw,.slice ae le ce] 98);have hb:Bw w W:=by rw[<-hW];exact (Ba).alloc (by rw[B5];omega) _
 have hx:=(Q50.new w (.bool m.neg) (.int .i64 m.exp) (.slice aw lw cw) (.slice ae le ce) 98).step ((Ud _ _).alloc (Ue _) (.cells #[.bool k.neg,.int .i64 k.exp,.slice bw mw dw,.slice be me de] 98)) (Q0o _ _);have hy:=Q50.new (w.alloc (.cells #[.bool m.neg,.int .i64 m.exp,.slice aw lw cw,.slice ae le ce] 98)) (.bool k.neg) (.int .i64 k.exp) (.slice bw mw dw) (.slice be me de) 98;rw[hW] at hx hy;rw[B5] at hy;have O6:w.heap.size+1<W.heap.size:=Uz hy.c0;obtain ⟨x0,x1,x2⟩:=hx.cc;obtain ⟨y0,y1,y2⟩:=hy.cc;obtain ⟨b1,C0,hns⟩:=yn (Q46 m.num k.num aw bw lw cw mw dw W (h1.step hb) (h2.step hb));simp only[Q01.num] at hns;obtain ⟨b2,D0⟩:∃b,yesB (m.es=k.es)=b:=⟨_,rfl⟩;have K8:∀V,Bw w V->Calls Tryz.prog 105 #[.slice ae le ce,.slice be me de] V fun e w'=>e=.returned (.bool b2)/\Bw V w':=fun V hV=>yn1 (Qn4 ae be le ce me de m.es k.es V (e1.step hV) (e2.step hV)) D0;have hans:b1=false->¬m=k:=fun h0 e=>by
  have:=C0.2 (Q9h.1 e).1;rw[h0] at this;cases this
 have YC:b1=true->(b2=true↔m=k):=fun h0=>by
  rw[<-D0,Q0c];exact ⟨fun h=>Q9h.2 ⟨C0.1 h0,h⟩,fun e=>(Q9h.1 e).2⟩
 have H:=Xh7 hx hy hans YC K8 hb O6;clear hx hy e1 e2 hb O6 h1 h2 K8 C0 D0 hans YC;cases b1
 all_goals
  go_enter Tryz.func104,Tryz.ntmps104
  go_wp2_with (first
   |(go_at_call 105
     refine K8.mono ?_;rintro r w4 ⟨rfl,Y2⟩;have H4:=Ua Y2;clear Y2)
   |(go_at_call 30
     refine hns.mono ?_;rintro r w3 ⟨rfl,M0⟩;have hl:=(Xe6 H);have x3:=((Xo0 H).step M0 (by omega)).c3;have y3:=((Xo1 H).step M0 (by omega)).c3;have K8:=(Xo4 H) w3 (Below.next0 (Xo5 H) M0);have H3:=Ua M0;clear M0 hns hl))
  go_ret
 ·exact ⟨Q0b.no ((Xo2 H) (by trivial)) rfl,Below.next0 (Xo5 H) H3.out⟩
 ·exact ⟨Q0b.of ((Xo3 H) (by trivial)) rfl,Below.next0 (Xo5 H) (Below.next0 H3.out H4.out)⟩
theorem Qb4 [LT ZK] {w:World} {b o:Nat} {m:Q01} (h:Q74 w b o m):∃aw lw cw ae le ce,(w.cell? ⟨b,o,none⟩=some (.bool m.neg)/\w.cell? ⟨b,o+1,none⟩=some (.int .i64 m.exp)/\w.cell? ⟨b,o+2,none⟩=some (.slice aw lw cw)/\w.cell? ⟨b,o+3,none⟩=some (.slice ae le ce))/\Q0f w aw lw cw m.num/\Q0p w ae le ce m.es:=by
 obtain ⟨aw,lw,cw,ae,le,ce,k0,k1,k2,k3,hw,he,hx,hy⟩:=h;exact ⟨aw,lw,cw,ae,le,ce,⟨k0,k1,k2,k3⟩,⟨hw,hx,hy⟩,he⟩
theorem Qb5 [LT ZK] {w:World} {a:OA} {n c i:Nat} {ms:List Q01} {x:Q01} (h:Q0k w a n c ms) (hx:ms[i]?=some x):∃b o,a=some ⟨b,o,none⟩/\b<w.heap.size/\Q74 w b (o+i*4) x:=by
 rcases h.2.2.2 with h0|⟨b,o,h1,h2,h3⟩
 ·rw[h0] at hx;simp at hx
 ·exact ⟨b,o,h1,h2,h3 i x hx⟩
theorem Qb6 [LT ZK] {w:World} {a:OA} {n c i:Nat} {F:List (List Q01)} {ms:List Q01} (h:Q1a w a n c F) (hx:F[i]?=some ms):∃b o,a=some ⟨b,o,none⟩/\b<w.heap.size/\∃p l d,w.cell? ⟨b,o+i,none⟩=some (.slice p l d)/\Q0k w p l d ms:=by
 rcases h.2.2.2 with h0|⟨b,o,h1,h2,h3⟩
 ·rw[h0] at hx;simp at hx
 ·exact ⟨b,o,h1,h2,h3 i ms hx⟩
theorem Qfh [LT ZK] (a b:OA) (n c m d:Nat) (ms ks:List Q01) (w:World) (h1:Q0k w a n c ms) (h2:Q0k w b m d ks):
 Calls Tryz.prog 103 #[.slice a n c,.slice b m d,.func (.func 104) #[] #[]] w fun r w'=>Q0b (ms=ks) r/\Bw w w':=by
 have P2:=h1.1;have A8:=h2.1;have E3:=Uj h1.2.1 h1.2.2.1;have Xh:=Uj h2.2.1 h2.2.2.1;have H:=Xh2 h1 h2;clear h1 h2
 by_cases hnm:n=m
 case neg=>
  have Y8:¬(n:Int)=(m:Int):=by omega
  go_enter Tryz.func103,Tryz.ntmps103
  go_wp2_with fail
  go_ret;exact ⟨Q0b.no (Qcf P2 A8 Y8) rfl,Ud _ _⟩
 case pos=>
 subst hnm
 go_enter Tryz.func103,Tryz.ntmps103
 go_wp2_with fail
 go_loopw [17] (fun s17 wr=>∃i:Nat,s17=.int .i64 (i:Int)/\i<=n/\(∀j,j<i->ms[j]?=ks[j]?)/\Bw w wr) (fun iv _=>n-(intOf iv).toNat)
 case atStart=>exact ⟨0,rfl,Uv _,fun j hj=>absurd hj (Tf _),Ud _ _⟩
 case round=>
  obtain ⟨i,rfl,hi,hq,Z0⟩:=hrel
  by_cases F0:i<n
  ·have G0:(i:Int)<(n:Int):=(by omega);obtain ⟨x,hx⟩:∃x,ms[i]?=some x:=⟨_,Ub (by omega)⟩;obtain ⟨y,hy⟩:∃x,ks[i]?=some x:=⟨_,Ub (by omega)⟩;obtain ⟨b1,o1,rfl,C0,Zq⟩:=Qb5 ((Xo0 H).step Z0) hx;obtain ⟨b2,o2,rfl,D0,Zu⟩:=Qb5 ((Xe1 H).step Z0) hy;obtain ⟨aw,lw,cw,ae,le,ce,⟨k0,k1,k2,k3⟩,hw,he⟩:=Qb4 Zq;obtain ⟨bw,mw,dw,be,me,de,⟨l0,l1,l2,l3⟩,Z4,Q5⟩:=Qb4 Zu;obtain ⟨W1,R1⟩:∃W1,wr.alloc (.cells #[.bool x.neg,.int .i64 x.exp,.slice aw lw cw,.slice ae le ce] 98)=W1:=⟨_,rfl⟩;have B5:W1.heap.size=wr.heap.size+1:=(by rw[<-R1];exact Ur _ _);have JY:Bw wr W1:=(by rw[<-R1];exact Ba);have K5:=Q50.new wr (.bool x.neg) (.int .i64 x.exp) (.slice aw lw cw) (.slice ae le ce) 98;rw[R1] at K5;have l0:=(JY.cell (p:=⟨b2,o2+i*4,none⟩) D0).trans l0;have l1:=(JY.cell (p:=⟨b2,o2+i*4+1,none⟩) D0).trans l1;have l2:=(JY.cell (p:=⟨b2,o2+i*4+2,none⟩) D0).trans l2;have l3:=(JY.cell (p:=⟨b2,o2+i*4+3,none⟩) D0).trans l3;obtain ⟨W2,i5⟩:∃W2,W1.alloc (.cells #[.bool y.neg,.int .i64 y.exp,.slice bw mw dw,.slice be me de] 98)=W2:=⟨_,rfl⟩;have hbw2:Bw W1 W2:=(by rw[<-i5];exact Ba);have Z3:=Q50.new W1 (.bool y.neg) (.int .i64 y.exp) (.slice bw mw dw) (.slice be me de) 98;rw[i5] at Z3;have K5:=K5.step hbw2 (by omega);rw[B5] at Z3;have KB:=Below.next0 JY hbw2;obtain ⟨p0,p1,p2⟩:=K5.cc;have p3:=K5.c3;obtain ⟨r0,r1,r2⟩:=Z3.cc;have r3:=Z3.c3;obtain ⟨bb,C3,X4⟩:=yn (Qh9 x y aw lw cw ae le ce bw mw dw be me de W2 (hw.step KB) (Z4.step KB) (he.step KB) (Q5.step KB));have HS:=Xh5 (Below.next0 Z0 KB) hq hx hy C3;clear Z0 JY hbw2 KB Zq Zu hw he Z4 Q5 K5 Z3 hx hy C3 hq;cases bb
   ·go_wp2_with (go_at_call 104;refine X4.mono ?_;rintro r w3 ⟨rfl,M0⟩;have H3:=Ua M0;clear M0)
    go_ret;exact ⟨Q0b.no (Q6s (Xo2 HS) (Xo3 HS) fun e=>by have:=(Xe4 HS).mpr e;cases this) rfl,Below.next0 (Xo0 HS) H3.out⟩
   ·go_wp2_with (go_at_call 104;refine X4.mono ?_;rintro r w3 ⟨rfl,M0⟩;have H3:=Ua M0;clear M0)
    have e:=(Xe4 HS).mp (by trivial);exact ⟨⟨i+1,congrArg (Value.int .i64) (by omega),by omega,Q58 (Xo1 HS) (Xo2 HS) (by rw[e];exact (Xo3 HS)),Below.next0 (Xo0 HS) H3.out⟩,by simp only[intOf];omega⟩
  ·have G0:¬(i:Int)<(n:Int):=(by omega);have HS:=Xh2 Z0 (Q57 P2 A8 fun j hj=>hq j (by omega));clear Z0 hq
   go_wp2_with fail
   go_ret;exact ⟨Q0b.yes (Xe1 HS) rfl,(Xo0 HS)⟩
theorem Qha [LT ZK] (a b:OA) (n c m d:Nat) (ms ks:List Q01) (w:World) (h1:Q0k w a n c ms) (h2:Q0k w b m d ks):
 Calls Tryz.prog 60 #[.slice a n c,.slice b m d] w fun r w'=>Q0b (ms=ks) r/\Bw w w':=by
 obtain ⟨bb,C3,hc⟩:=yn (Qfh a b n c m d ms ks w h1 h2);have HB:=Ua C3;clear h1 h2 C3
 go_enter Tryz.func60,Tryz.ntmps60
 go_wp2_with (refine hc.mono ?_;rintro r w3 ⟨rfl,M0⟩)
 go_ret;exact ⟨Q0b.of HB.out rfl,M0⟩
theorem Qfi [LT ZK] (a b:OA) (n c m d:Nat) (F G:List (List Q01)) (w:World) (h1:Q1a w a n c F) (h2:Q1a w b m d G):
 Calls Tryz.prog 28 #[.slice a n c,.slice b m d] w fun r w'=>Q0b (F=G) r/\Bw w w':=by
 have P2:=h1.1;have A8:=h2.1;have E3:=Uj h1.2.1 h1.2.2.1;have Xh:=Uj h2.2.1 h2.2.2.1;have H:=Xh2 h1 h2;clear h1 h2
 by_cases hnm:n=m
 case neg=>
  have Y8:¬(n:Int)=(m:Int):=by omega
  go_enter Tryz.func28,Tryz.ntmps28
  go_wp2_with fail
  go_ret;exact ⟨Q0b.no (Qcf P2 A8 Y8) rfl,Ud _ _⟩
 case pos=>
 subst hnm
 go_enter Tryz.func28,Tryz.ntmps28
 go_wp2_with fail
 go_loopw [13] (fun s13 wr=>∃i:Nat,s13=.int .i64 (i:Int)/\i<=n/\(∀j,j<i->F[j]?=G[j]?)/\Bw w wr) (fun iv _=>n-(intOf iv).toNat)
 case atStart=>exact ⟨0,rfl,Uv _,fun j hj=>absurd hj (Tf _),Ud _ _⟩
 case round=>
  obtain ⟨i,rfl,hi,hq,Z0⟩:=hrel
  by_cases F0:i<n
  ·have G0:(i:Int)<(n:Int):=(by omega);obtain ⟨ms,hx⟩:∃ms,F[i]?=some ms:=⟨_,Ub (by omega)⟩;obtain ⟨ks,hy⟩:∃ms,G[i]?=some ms:=⟨_,Ub (by omega)⟩;obtain ⟨b1,o1,rfl,C0,p,l,dd,k0,KC⟩:=Qb6 ((Xo0 H).step Z0) hx;obtain ⟨b2,o2,rfl,D0,p2,l2,d2,k1,YH⟩:=Qb6 ((Xe1 H).step Z0) hy;obtain ⟨bb,C3⟩:∃b,yesB (ms=ks)=b:=⟨_,rfl⟩;have HC:=Ua (fun (W:World) (hB:Bw wr W)=>And.intro ((hB.cell (p:=⟨b1,o1+i,none⟩) C0).trans k0) (And.intro ((hB.cell (p:=⟨b2,o2+i,none⟩) D0).trans k1) (yn1 (Qha p p2 l dd l2 d2 ms ks W (KC.step hB) (YH.step hB)) C3)));have HS:=Xh5 Z0 hq hx hy C3;clear Z0 k0 k1 KC YH hx hy hq C3
   go_upto_region 6 with fail
   refine Q06 (E:=Q7l) (fun _=>Ud _ _) (by kernel_rfl) (fun W=>Bw wr W) (fun _ _ h h'=>Below.next0 h h') (Q3q [.slice (some ⟨b1,o1,none⟩) n c,.int .i64 (i:Int),.pointer (some ⟨b1,o1+i,none⟩),.slice p l dd,.slice (some ⟨b2,o2,none⟩) n d,.int .i64 (i:Int),.pointer (some ⟨b2,o2+i,none⟩),.slice p2 l2 d2,.bool bb,.bool (!bb)] (Q13 [])) (Q08 (Q0e ((fun p hp=>by cases hp)))) (Q15 (by kernel_rfl)) (by kernel_rfl) (Q04 wr) ?_ ?_
   ·skip
    repeat' (first|exact Q83|refine Q82 ?_ ?_)
    all_goals
     refine Q1p rfl fun A W hW E0 hd hd=>?_;simp[Q72,Region.binds,Q13] at hd;have e0:=Q07 E0 0 (by kernel_rfl) rfl;have e5:=Q07 E0 5 (by kernel_rfl) rfl;have e1:=Q07 E0 1 (by kernel_rfl) rfl
     first
     |(refine Q12 rfl rfl ?_;simp[go_sem,hd,e0,e5,e1,G0,(HC.out W hW).1,(HC.out W hW).2.1];done)
     |(refine Q2b rfl rfl ?_ ((HC.out W hW).2.2);simp[go_sem,hd];done)
   intro vs W1 R1 A3;have HB:=Ua R1;have e9:vs 9=.bool (!bb):=(Q0j rfl).1 (A3 9 (by decide));simp only[Q0t,Act.put,Um,Ux,Ut,e9];clear R1 A3 e9;cases bb
   ·go_wp2_with fail
    go_ret;exact ⟨Q0b.no (Q6s (Xo2 HS) (Xo3 HS) fun e=>by have:=(Xe4 HS);rw[Q0c.2 e] at this;cases this) rfl,Below.next0 (Xo0 HS) HB.out⟩
   ·go_wp2_with fail
    have e:=Q0c.1 (Xe4 HS);exact ⟨⟨i+1,congrArg (Value.int .i64) (by omega),by omega,Q58 (Xo1 HS) (Xo2 HS) (by rw[e];exact (Xo3 HS)),Below.next0 (Xo0 HS) HB.out⟩,by simp only[intOf];omega⟩
  ·have G0:¬(i:Int)<(n:Int):=(by omega);have HS:=Xh2 Z0 (Q57 P2 A8 fun j hj=>hq j (by omega));clear Z0 hq
   go_wp2_with fail
   go_ret;exact ⟨Q0b.yes (Xe1 HS) rfl,(Xo0 HS)⟩
theorem Qe2 {x y:IvV}:x=y↔x.lo=y.lo/\x.hi=y.hi:=⟨fun e=>by subst e;exact ⟨rfl,rfl⟩,fun ⟨h1,h2⟩=>by cases x;cases y;simp at h1 h2;subst h1 h2;rfl⟩
theorem Q9i {w:World} {b:Nat} {v0 v1 v2 v3 v4 v5:Value} (h:Q2x w b [v0,v1,v2,v3,v4,v5]):
 w.cell? ⟨b,0,none⟩=some v0/\w.cell? ⟨b,1,none⟩=some v1/\w.cell? ⟨b,2,none⟩=some v2/\w.cell? ⟨b,3,none⟩=some v3/\w.cell? ⟨b,4,none⟩=some v4/\w.cell? ⟨b,5,none⟩=some v5:=
 ⟨h 0 _ rfl,h 1 _ rfl,h 2 _ rfl,h 3 _ rfl,h 4 _ rfl,h 5 _ rfl⟩
theorem Q7o {w W:World} (xs ys:LV) (T:TypeId) (hW:(w.alloc (.cells xs.toArray T)).alloc (.cells ys.toArray T)=W):Q2x W w.heap.size xs/\Q2x W (w.heap.size+1) ys/\Bw w W/\W.heap.size=w.heap.size+2:=by
 have h1:(w.alloc (.cells xs.toArray T)).heap.size=w.heap.size+1:=Ur _ _;have h2:=Q2x.new w xs T;have h3:=Q2x.new (w.alloc (.cells xs.toArray T)) ys T;have C0:Bw w (w.alloc (.cells xs.toArray T)):=Ba;generalize w.alloc (.cells xs.toArray T)=V at*;have D0:Bw V (V.alloc (.cells ys.toArray T)):=Ba;rw[hW] at h3 D0;rw[h1] at h3;refine ⟨h2.step D0 (by omega),h3,Below.next0 C0 D0,?_⟩;rw[<-hW,Ur,h1]
theorem Qe3 {w:World} {a:OA} {n c i:Nat} {B:List IvV} {x:IvV} (h:Q6r w a n c B) (hx:B[i]?=some x):∃b o,a=some ⟨b,o,none⟩/\b<w.heap.size/\Qt7 w b (o+i*6) x:=by
 rcases h.2.2.2 with h0|⟨b,o,h1,h2,h3⟩
 ·rw[h0] at hx;simp at hx
 ·exact ⟨b,o,h1,h2,h3 i x hx⟩
theorem Qn5 (x y:IvV) (p q r s:Pl) (w:World) (h1:Q0f w p.a p.l p.c x.lo) (h2:Q0f w q.a q.l q.c x.hi) (h3:Q0f w r.a r.l r.c y.lo) (h4:Q0f w s.a s.l s.c y.hi):
 Calls Tryz.prog 62 #[.agg #[.bool x.lo.neg,.int .i64 x.lo.exp,.slice p.a p.l p.c,.bool x.hi.neg,.int .i64 x.hi.exp,.slice q.a q.l q.c],.agg #[.bool y.lo.neg,.int .i64 y.lo.exp,.slice r.a r.l r.c,.bool y.hi.neg,.int .i64 y.hi.exp,.slice s.a s.l s.c]] w fun r w'=>Q0b (x=y) r/\Bw w w':=by
 obtain ⟨W0,M1⟩:∃W0,(w.alloc (.cells #[.bool x.lo.neg,.int .i64 x.lo.exp,.slice p.a p.l p.c,.bool x.hi.neg,.int .i64 x.hi.exp,.slice q.a q.l q.c] 44)).alloc (.cells #[.bool y.lo.neg,.int .i64 y.lo.exp,.slice r.a r.l r.c,.bool y.hi.neg,.int .i64 y.hi.exp,.slice s.a s.l s.c] 44)=W0:=⟨_,rfl⟩;obtain ⟨hX,hY,Q0,F2⟩:=Q7o [.bool x.lo.neg,.int .i64 x.lo.exp,.slice p.a p.l p.c,.bool x.hi.neg,.int .i64 x.hi.exp,.slice q.a q.l q.c] [.bool y.lo.neg,.int .i64 y.lo.exp,.slice r.a r.l r.c,.bool y.hi.neg,.int .i64 y.hi.exp,.slice s.a s.l s.c] 44 M1;obtain ⟨b1,e1⟩:∃b,yesB (x.lo=y.lo)=b:=⟨_,rfl⟩;obtain ⟨b2,e2⟩:∃b,yesB (x.hi=y.hi)=b:=⟨_,rfl⟩;have C4:b1=false->¬x=y:=fun h e=>by rw[Q0c.2 (Qe2.1 e).1] at e1;rw[<-e1] at h;cases h
 have KW:b1=true->(b2=true↔x=y):=fun h=>by
  rw[<-e2,Q0c];exact ⟨fun h2=>Qe2.2 ⟨Q0c.1 (e1.trans h),h2⟩,fun e=>(Qe2.1 e).2⟩
 have HC:=Ua (fun V (hV:Bw W0 V)=>have hb:=Below.next0 Q0 hV;And.intro (hX.step hV (by omega)) (And.intro (hY.step hV (by omega)) (And.intro (yn1 (Q46 x.lo y.lo p.a r.a p.l p.c r.l r.c V (h1.step hb) (h3.step hb)) e1) (yn1 (Q46 x.hi y.hi q.a s.a q.l q.c s.l s.c V (h2.step hb) (h4.step hb)) e2))));have HB:=Xh3 Q0 C4 KW;obtain ⟨k0,k1,k2,k3,k4,k5⟩:=Q9i hX;obtain ⟨l0,l1,l2,l3,l4,l5⟩:=Q9i hY;clear hX hY Q0 F2 h1 h2 h3 h4 C4 KW e1 e2;cases b1
 all_goals
  go_enter Tryz.func62,Tryz.ntmps62
  go_upto_region 1 with fail
  clear M1
  go_wp2_with (first
   |(go_at_call_of 30 (Value.agg #[.bool x.lo.neg,.int .i64 x.lo.exp,.slice p.a p.l p.c]);refine (HC.out W0 (Ud _ _)).2.2.1.mono ?_;rintro e w1 ⟨rfl,hb⟩;have H1:=Ua hb;have hq:=HC.out w1 hb;obtain ⟨k0,k1,k2,k3,k4,k5⟩:=Q9i hq.1;obtain ⟨l0,l1,l2,l3,l4,l5⟩:=Q9i hq.2.1;clear hq hb)
   |(refine (HC.out w1 H1.out).2.2.2.mono ?_;rintro e w2 ⟨rfl,hb⟩;have H2:=Ua (Below.next0 H1.out hb);clear hb))
  go_ret
 ·exact ⟨Q0b.no ((Xo1 HB) (by trivial)) rfl,Below.next0 (Xo0 HB) H1.out⟩
 ·exact ⟨Q0b.of ((Xe2 HB) (by trivial)) rfl,Below.next0 (Xo0 HB) H2.out⟩
theorem Qn6 (a b:OA) (n c m d:Nat) (B D:List IvV) (w:World) (h1:Q6r w a n c B) (h2:Q6r w b m d D):
 Calls Tryz.prog 61 #[.slice a n c,.slice b m d,.func (.func 62) #[] #[]] w fun r w'=>Q0b (B=D) r/\Bw w w':=by
 have P2:=h1.1;have A8:=h2.1;have E3:=Uj h1.2.1 h1.2.2.1;have Xh:=Uj h2.2.1 h2.2.2.1;have H:=Xh2 h1 h2;clear h1 h2
 by_cases hnm:n=m
 case neg=>
  have Y8:¬(n:Int)=(m:Int):=by omega
  go_enter Tryz.func61,Tryz.ntmps61
  go_wp2_with fail
  go_ret;exact ⟨Q0b.no (Qcf P2 A8 Y8) rfl,Ud _ _⟩
 case pos=>
 subst hnm
 go_enter Tryz.func61,Tryz.ntmps61
 go_wp2_with fail
 go_loopw [15] (fun s15 wr=>∃i:Nat,s15=.int .i64 (i:Int)/\i<=n/\(∀j,j<i->B[j]?=D[j]?)/\Bw w wr) (fun iv _=>n-(intOf iv).toNat)
 case atStart=>exact ⟨0,rfl,Uv _,fun j hj=>absurd hj (Tf _),Ud _ _⟩
 case round=>
  obtain ⟨i,rfl,hi,hq,Z0⟩:=hrel
  by_cases F0:i<n
  ·have G0:(i:Int)<(n:Int):=(by omega);obtain ⟨x,hx⟩:∃x,B[i]?=some x:=⟨_,Ub (by omega)⟩;obtain ⟨y,hy⟩:∃x,D[i]?=some x:=⟨_,Ub (by omega)⟩;obtain ⟨b1,o1,rfl,C0,pa,pl,pc,qa,ql,qc,hk,E6,C5⟩:=Qe3 ((Xo0 H).step Z0) hx;obtain ⟨b2,o2,rfl,D0,ra,rl,rc,sa,sl,sc,hl,hn3,X9⟩:=Qe3 ((Xe1 H).step Z0) hy;obtain ⟨bb,C3⟩:∃b,yesB (x=y)=b:=⟨_,rfl⟩;have HC:=Xh3 (fun (W:World) (hB:Bw wr W)=>And.intro (fun (j:Nat) v (h:wr.cell? ⟨b1,j,none⟩=some v)=>(hB.cell (p:=⟨b1,j,none⟩) C0).trans h) (And.intro (fun (j:Nat) v (h:wr.cell? ⟨b2,j,none⟩=some v)=>(hB.cell (p:=⟨b2,j,none⟩) D0).trans h) (yn1 (Qn5 x y ⟨pa,pl,pc⟩ ⟨qa,ql,qc⟩ ⟨ra,rl,rc⟩ ⟨sa,sl,sc⟩ W (E6.step hB) (C5.step hB) (hn3.step hB) (X9.step hB)) C3))) hk hl;have HS:=Xh5 Z0 hq hx hy C3;clear hk hl Z0 E6 C5 hn3 X9 hx hy hq C3
   go_upto_region 6 with fail
   refine Q06 (E:=Q7l) (fun _=>Ud _ _) (by kernel_rfl) (fun W=>Bw wr W) (fun _ _ h h'=>Below.next0 h h') (Q3q [.func (.func 62) #[] #[],.slice (some ⟨b1,o1,none⟩) n c,.int .i64 (i:Int),.pointer (some ⟨b1,o1+i*6,none⟩),.agg #[.bool x.lo.neg,.int .i64 x.lo.exp,.slice pa pl pc,.bool x.hi.neg,.int .i64 x.hi.exp,.slice qa ql qc],.slice (some ⟨b2,o2,none⟩) n d,.int .i64 (i:Int),.pointer (some ⟨b2,o2+i*6,none⟩),.agg #[.bool y.lo.neg,.int .i64 y.lo.exp,.slice ra rl rc,.bool y.hi.neg,.int .i64 y.hi.exp,.slice sa sl sc],.bool bb,.bool (!bb)] (Q13 [])) (Q08 (Q0e ((fun p hp=>by cases hp)))) (Q15 (by kernel_rfl)) (by kernel_rfl) (Q04 wr) ?_ ?_
   ·skip
    repeat' (first|exact Q83|refine Q82 ?_ ?_)
    all_goals
     refine Q1p rfl fun A W hW E0 hd hd=>?_;simp[Q72,Region.binds,Q13] at hd;have e0:=Q07 E0 0 (by kernel_rfl) rfl;have e1:=Q07 E0 1 (by kernel_rfl) rfl;have e2:=Q07 E0 2 (by kernel_rfl) rfl;have e7:=Q07 E0 7 (by kernel_rfl) rfl;obtain ⟨hk,hl,F1⟩:=(Xo0 HC) W hW;obtain ⟨⟨k0,k1,k2,k3,k4,k5⟩,l0,l1,l2,l3,l4,l5⟩:=(Xe1 HC)
     first
     |(refine Q12 rfl rfl ?_;simp[go_sem,hd,e0,e1,e2,e7,G0,hk _ _ k0,hk _ _ k1,hk _ _ k2,hk _ _ k3,hk _ _ k4,hk _ _ k5,hl _ _ l0,hl _ _ l1,hl _ _ l2,hl _ _ l3,hl _ _ l4,hl _ _ l5];done)
     |(refine Q2b rfl rfl ?_ F1;simp[go_sem,hd];done)
   intro vs W1 R1 A3;have HB:=Ua R1;have e10:vs 10=.bool (!bb):=(Q0j rfl).1 (A3 10 (by decide));simp only[Q0t,Act.put,Um,Ux,Ut,e10];clear R1 A3 e10;cases bb
   ·go_wp2_with fail
    go_ret;exact ⟨Q0b.no (Q6s (Xo2 HS) (Xo3 HS) fun e=>by have:=(Xe4 HS);rw[Q0c.2 e] at this;cases this) rfl,Below.next0 (Xo0 HS) HB.out⟩
   ·go_wp2_with fail
    have e:=Q0c.1 (Xe4 HS);exact ⟨⟨i+1,congrArg (Value.int .i64) (by omega),by omega,Q58 (Xo1 HS) (Xo2 HS) (by rw[e];exact (Xo3 HS)),Below.next0 (Xo0 HS) HB.out⟩,by simp only[intOf];omega⟩
  ·have G0:¬(i:Int)<(n:Int):=(by omega);have HS:=Xh2 Z0 (Q57 P2 A8 fun j hj=>hq j (by omega));clear Z0 hq
   go_wp2_with fail
   go_ret;exact ⟨Q0b.yes (Xe1 HS) rfl,(Xo0 HS)⟩
theorem Qjs (a b:OA) (n c m d:Nat) (B D:List IvV) (w:World) (h1:Q6r w a n c B) (h2:Q6r w b m d D):
 Calls Tryz.prog 29 #[.slice a n c,.slice b m d] w fun r w'=>Q0b (B=D) r/\Bw w w':=by
 obtain ⟨bb,C3,hc⟩:=yn (Qn6 a b n c m d B D w h1 h2);have HB:=Ua C3;clear h1 h2 C3
 go_enter Tryz.func29,Tryz.ntmps29
 go_wp2_with (go_at_call 61;refine hc.mono ?_;rintro r w1 ⟨rfl,hb⟩)
 go_ret;exact ⟨Q0b.of HB.out rfl,hb⟩
theorem Q21 {x y:Q33}:x=y↔x.field=y.field/\x.box=y.box/\x.til=y.til/\x.most=y.most/\x.least=y.least/\x.prec=y.prec/\x.order=y.order/\x.budget=y.budget:=by
 refine ⟨fun e=>by subst e;exact ⟨rfl,rfl,rfl,rfl,rfl,rfl,rfl,rfl⟩,fun ⟨h1,h2,h3,h4,h5,h6,h7,h8⟩=>?_⟩;cases x;cases y;simp only at h1 h2 h3 h4 h5 h6 h7 h8;subst h1 h2 h3 h4 h5 h6 h7 h8;rfl
theorem Qhb (b1 b2 b3 b4 b5:Bool) (p q r:Prop):b1=false∨(b1=true/\b2=false)∨(b1=true/\b2=true/\b3=false)∨(b1=true/\b2=true/\b3=true/\b4=false)∨(b1=true/\b2=true/\b3=true/\b4=true/\b5=false)∨(b1=true/\b2=true/\b3=true/\b4=true/\b5=true/\¬p)∨(b1=true/\b2=true/\b3=true/\b4=true/\b5=true/\p/\¬q)∨(b1=true/\b2=true/\b3=true/\b4=true/\b5=true/\p/\q/\¬r)∨(b1=true/\b2=true/\b3=true/\b4=true/\b5=true/\p/\q/\r):=by
 by_cases p <;> by_cases q <;> by_cases r <;> cases b1 <;> cases b2 <;> cases b3 <;> cases b4 <;> cases b5 <;> simp_all
theorem Qao [LT ZK] (x y:Q33) (p q:Qfg) (w:World) (h1:Q2j w p x) (h2:Q2j w q y):
 Calls Tryz.prog 11 #[.agg (Q2e p x).toArray,.agg (Q2e q y).toArray] w fun r w'=>Q0b (x=y) r/\Bw w w':=by
 obtain ⟨⟨pfa,pfl,pfc⟩,⟨pba,pbl,pbc⟩,⟨pta,ptl,ptc⟩,⟨pma,pml,pmc⟩,⟨pea,pel,pec⟩⟩:=p;obtain ⟨⟨qfa,qfl,qfc⟩,⟨qba,qbl,qbc⟩,⟨qta,qtl,qtc⟩,⟨qma,qml,qmc⟩,⟨qea,qel,qec⟩⟩:=q;obtain ⟨F,B,⟨tn,te,ts⟩,⟨mn,me,ms⟩,⟨en,ee,es⟩,prec,order,budget⟩:=x;obtain ⟨G,D,⟨un,ue,us⟩,⟨nn,ne,ns⟩,⟨fn,fe,fs⟩,prec2,order2,budget2⟩:=y;simp only[Q2e];obtain ⟨W0,M1⟩:∃W0,(w.alloc (.cells #[.slice pfa pfl pfc,.slice pba pbl pbc,.bool tn,.int .i64 te,.slice pta ptl ptc,.bool mn,.int .i64 me,.slice pma pml pmc,.bool en,.int .i64 ee,.slice pea pel pec,.int .i64 prec,.int .i64 order,.int .i64 budget] 28)).alloc (.cells #[.slice qfa qfl qfc,.slice qba qbl qbc,.bool un,.int .i64 ue,.slice qta qtl qtc,.bool nn,.int .i64 ne,.slice qma qml qmc,.bool fn,.int .i64 fe,.slice qea qel qec,.int .i64 prec2,.int .i64 order2,.int .i64 budget2] 28)=W0:=⟨_,rfl⟩;obtain ⟨hX,hY,Q0,F2⟩:=Q7o [.slice pfa pfl pfc,.slice pba pbl pbc,.bool tn,.int .i64 te,.slice pta ptl ptc,.bool mn,.int .i64 me,.slice pma pml pmc,.bool en,.int .i64 ee,.slice pea pel pec,.int .i64 prec,.int .i64 order,.int .i64 budget] [.slice qfa qfl qfc,.slice qba qbl qbc,.bool un,.int .i64 ue,.slice qta qtl qtc,.bool nn,.int .i64 ne,.slice qma qml qmc,.bool fn,.int .i64 fe,.slice qea qel qec,.int .i64 prec2,.int .i64 order2,.int .i64 budget2] 28 M1;obtain ⟨b1,e1⟩:∃b,yesB (F=G)=b:=⟨_,rfl⟩;obtain ⟨b2,e2⟩:∃b,yesB (B=D)=b:=⟨_,rfl⟩;obtain ⟨b3,e3⟩:∃b,yesB ((⟨tn,te,ts⟩:Q2u)=⟨un,ue,us⟩)=b:=⟨_,rfl⟩;obtain ⟨b4,e4⟩:∃b,yesB ((⟨mn,me,ms⟩:Q2u)=⟨nn,ne,ns⟩)=b:=⟨_,rfl⟩;obtain ⟨b5,e5⟩:∃b,yesB ((⟨en,ee,es⟩:Q2u)=⟨fn,fe,fs⟩)=b:=⟨_,rfl⟩;have HC:=Ua (fun V (hV:Bw W0 V)=>have hb:=Below.next0 Q0 hV;have g1:=h1.step hb;have g2:=h2.step hb;And.intro (hX.step hV (by omega)) (And.intro (hY.step hV (by omega)) (And.intro (yn1 (Qfi _ _ _ _ _ _ _ _ V g1.f g2.f) e1) (And.intro (yn1 (Qjs _ _ _ _ _ _ _ _ V g1.b g2.b) e2) (And.intro (yn1 (Q46 _ _ _ _ _ _ _ _ V g1.t g2.t) e3) (And.intro (yn1 (Q46 _ _ _ _ _ _ _ _ V g1.m g2.m) e4) (yn1 (Q46 _ _ _ _ _ _ _ _ V g1.e g2.e) e5)))))));have HB:=Ua Q0;have HE:=Xh5 e1 e2 e3 e4 e5;obtain ⟨k0,k1,k2,k3,k4,k5,k6,k7,k8,k9,k10,k11,k12,k13⟩:=Q05 hX;obtain ⟨l0,l1,l2,l3,l4,l5,l6,l7,l8,l9,l10,l11,l12,l13⟩:=Q05 hY;have key:=Qhb b1 b2 b3 b4 b5 (prec=prec2) (order=order2) (budget=budget2);clear hX hY Q0 F2 h1 h2 e1 e2 e3 e4 e5;rcases key with rfl|⟨rfl,rfl⟩|⟨rfl,rfl,rfl⟩|⟨rfl,rfl,rfl,rfl⟩|⟨rfl,rfl,rfl,rfl,rfl⟩|⟨rfl,rfl,rfl,rfl,rfl,hx⟩|⟨rfl,rfl,rfl,rfl,rfl,rfl,hx⟩|⟨rfl,rfl,rfl,rfl,rfl,rfl,rfl,hx⟩|⟨rfl,rfl,rfl,rfl,rfl,rfl,rfl,rfl⟩
 all_goals
  try (have Wo:(budget==budget2)=false:=by simpa using hx)
  go_enter Tryz.func11,Tryz.ntmps11
  go_upto_region 1 with fail
  clear M1
  go_wp2_with (first
   |(go_at_call 28;refine (HC.out W0 (Ud _ _)).2.2.1.mono ?_;rintro e w1 ⟨rfl,hb⟩;have H1:=Ua hb;have hq:=HC.out w1 H1.out;obtain ⟨k0,k1,k2,k3,k4,k5,k6,k7,k8,k9,k10,k11,k12,k13⟩:=Q05 hq.1;obtain ⟨l0,l1,l2,l3,l4,l5,l6,l7,l8,l9,l10,l11,l12,l13⟩:=Q05 hq.2.1;clear hq hb)
   |(go_at_call 29;refine (HC.out w1 H1.out).2.2.2.1.mono ?_;rintro e w2 ⟨rfl,hb⟩;have H2:=Ua (Below.next0 H1.out hb);have hq:=HC.out w2 H2.out;obtain ⟨k0,k1,k2,k3,k4,k5,k6,k7,k8,k9,k10,k11,k12,k13⟩:=Q05 hq.1;obtain ⟨l0,l1,l2,l3,l4,l5,l6,l7,l8,l9,l10,l11,l12,l13⟩:=Q05 hq.2.1;clear hq hb)
   |(go_at_call_of 30 (Value.agg #[.bool tn,.int .i64 te,.slice pta ptl ptc]);refine (HC.out w2 H2.out).2.2.2.2.1.mono ?_;rintro e w3 ⟨rfl,hb⟩;have H3:=Ua (Below.next0 H2.out hb);have hq:=HC.out w3 H3.out;obtain ⟨k0,k1,k2,k3,k4,k5,k6,k7,k8,k9,k10,k11,k12,k13⟩:=Q05 hq.1;obtain ⟨l0,l1,l2,l3,l4,l5,l6,l7,l8,l9,l10,l11,l12,l13⟩:=Q05 hq.2.1;clear hq hb)
   |(go_at_call_of 30 (Value.agg #[.bool mn,.int .i64 me,.slice pma pml pmc]);refine (HC.out w3 H3.out).2.2.2.2.2.1.mono ?_;rintro e w4 ⟨rfl,hb⟩;have H4:=Ua (Below.next0 H3.out hb);have hq:=HC.out w4 H4.out;obtain ⟨k0,k1,k2,k3,k4,k5,k6,k7,k8,k9,k10,k11,k12,k13⟩:=Q05 hq.1;obtain ⟨l0,l1,l2,l3,l4,l5,l6,l7,l8,l9,l10,l11,l12,l13⟩:=Q05 hq.2.1;clear hq hb)
   |(go_at_call_of 30 (Value.agg #[.bool en,.int .i64 ee,.slice pea pel pec]);refine (HC.out w4 H4.out).2.2.2.2.2.2.mono ?_;rintro e w5 ⟨rfl,hb⟩;have H5:=Ua (Below.next0 H4.out hb);have hq:=HC.out w5 H5.out;obtain ⟨k0,k1,k2,k3,k4,k5,k6,k7,k8,k9,k10,k11,k12,k13⟩:=Q05 hq.1;obtain ⟨l0,l1,l2,l3,l4,l5,l6,l7,l8,l9,l10,l11,l12,l13⟩:=Q05 hq.2.1;clear hq hb))
  go_ret
 ·exact ⟨Q0b.no (fun e=>Q56 (Xo0 HE) (Q21.1 e).1) rfl,Below.next0 HB.out H1.out⟩
 ·exact ⟨Q0b.no (fun e=>Q56 (Xo1 HE) (Q21.1 e).2.1) rfl,Below.next0 HB.out H2.out⟩
 ·exact ⟨Q0b.no (fun e=>Q56 (Xo2 HE) (Q21.1 e).2.2.1) rfl,Below.next0 HB.out H3.out⟩
 ·exact ⟨Q0b.no (fun e=>Q56 (Xo3 HE) (Q21.1 e).2.2.2.1) rfl,Below.next0 HB.out H4.out⟩
 ·exact ⟨Q0b.no (fun e=>Q56 (Xe4 HE) (Q21.1 e).2.2.2.2.1) rfl,Below.next0 HB.out H5.out⟩
 ·exact ⟨Q0b.no (fun e=>hx (Q21.1 e).2.2.2.2.2.1) rfl,Below.next0 HB.out H5.out⟩
 ·exact ⟨Q0b.no (fun e=>hx (Q21.1 e).2.2.2.2.2.2.1) rfl,Below.next0 HB.out H5.out⟩
 ·exact ⟨Q0b.no (fun e=>hx (Q21.1 e).2.2.2.2.2.2.2) rfl,Below.next0 HB.out H5.out⟩
 ·exact ⟨Q0b.yes (Q21.2 ⟨Q0c.1 (Xo0 HE),Q0c.1 (Xo1 HE),Q0c.1 (Xo2 HE),Q0c.1 (Xo3 HE),Q0c.1 (Xe4 HE),rfl,rfl,rfl⟩) rfl,Below.next0 HB.out H5.out⟩
theorem Qhc [LT ZK] (x:Q33) (p q:Qfg) (w:World) (h1:Q2j w p x) (h2:Q2j w q x):
 Calls Tryz.prog 11 #[.agg (Q2e p x).toArray,.agg (Q2e q x).toArray] w fun r w'=>r=.returned (.bool true)/\Bw w w':=
 yn1 (Qao x x p q w h1 h2) (Q0c.2 rfl)
def zv (x:Int):Value:=.int .i64 x
theorem Qv0 (E:List Int):∀u∈E.map zv,u.oneCell'=true:=by
 intro u hu;obtain ⟨x,_,rfl⟩:=TE.1 hu;rfl
theorem Qb7:(Tryz.prog.info? 3).map (fun i=>(i.zero,i.size,i.bytes))=some (some (.int .i64 0),1,8):=by kernel_rfl
theorem Qt8:∀w,(Go.sizeOf 3).run Tryz.prog w=.ok 1 w:=by intro w;kernel_rfl
theorem Row.ints [LT ZK] {w:World} {B:Nat} {a:OA} {n c:Nat} {E:List Int} (h:Row w B 3 1 a n c (E.map zv)) (hr:∀x∈E,-9223372036854775808<=x/\x<=9223372036854775807):Q0p w a n c E:=by
 have hl:=h.len;simp only[UE,Nat.mul_one] at hl;refine ⟨hl,h.cap.1,by have:=h.cap.2;simpa[maxLen] using this,⟨hr,?_⟩,?_⟩
 ·intro b o e _;rcases h.form with ⟨h1,_⟩|⟨g,cur,rfl,_⟩
  ·rw[h1] at e;cases e
  ·cases e;rfl
 rcases h.form with ⟨_,_,_,h0⟩|⟨g,cur,rfl,_,hg,_⟩
 ·exact .inl (by simpa using h0)
 ·refine .inr ⟨g,0,rfl,hg,fun j x hx=>?_⟩;rw[UH];exact h.cell0 (by rw[UI,hx];rfl)
theorem Qhd [LT ZK] (b:OA) (m d:Nat) (E:List Int) (w:World) (h:Q0p w b m d E) (h0:E≠[]) (hm:m<=1000000):
 Calls Tryz.prog 187 #[.slice b m d] w fun r w'=>∃g c',r=.returned (.slice (some ⟨g,0,none⟩) m c')/\Row w' w.heap.size 3 1 (some ⟨g,0,none⟩) m c' (E.map zv)/\Bw w w':=by
 obtain ⟨i0,S2,E2,O1,Y1⟩:=Xbn Qb7;have P2:=h.len;obtain ⟨p,o,rfl,hp,hc⟩:∃p o,b=some ⟨p,o,none⟩/\p<w.heap.size/\∀(j:Nat) x,E[j]?=some x->w.cell? ⟨p,o+j,none⟩=some (.int .i64 x):=by
  rcases h.rd with h1|h1
  ·exact absurd h1 h0
  ·exact h1
 refine (Tryz.J1a i0 (.int .i64 0) 1 8 S2 E2 O1 Y1 rfl (by decide) Qt8 p o m d (E.map zv) w (by simp[P2]) (by unfold maxLen;omega) (by omega) (fun j u hu=>?_) (Qv0 E)).mono ?_
 ·rw[UI] at hu;cases hx:E[j]? with
  |none=>rw[hx] at hu;cases hu
  |some x=>
   rw[hx] at hu;simp only[UG,Un] at hu;subst hu;exact hc j x hx
 ·rintro r w' ⟨v',rfl,⟨hl,J4⟩,KK,hb⟩;rcases J4 with ⟨e,_⟩|⟨g,cap,cur,rfl,J8,hg,hnc,E3,B7,i4⟩
  ·exact absurd e KK
  ·exact ⟨g,cap,rfl,⟨hl,.inr ⟨g,cap,cur,rfl,J8,hg,hnc,E3,B7,i4⟩⟩,hb⟩
theorem Qvv {E:List Int} (h:∀x∈E,0<=x):0<=E.sum:=by
 induction E with
 |nil=>simp
 |cons a t ih=>
  rw[Xa8];have h1:=h a (by simp);have h2:=ih fun x hx=>h x (by simp[hx]);omega
theorem Q50.set0 {w:World} {b:Nat} {v0 v1 v2 v3:Value} (h:Q50 w b v0 v1 v2 v3) (u:Value):Q50 (w.setCell ⟨b,0,none⟩ u) b u v1 v2 v3:=
 ⟨UF _ _ _ (by rw[h.c0];rfl),(Uf _ _ _ _ (by simp)).trans h.c1,(Uf _ _ _ _ (by simp)).trans h.c2,(Uf _ _ _ _ (by simp)).trans h.c3,(Us _ _ _ _).trans h.f0,(Us _ _ _ _).trans h.f1,(Us _ _ _ _).trans h.f2,(Us _ _ _ _).trans h.f3⟩
theorem Q50.set1 {w:World} {b:Nat} {v0 v1 v2 v3:Value} (h:Q50 w b v0 v1 v2 v3) (u:Value):Q50 (w.setCell ⟨b,1,none⟩ u) b v0 u v2 v3:=
 ⟨(Uf _ _ _ _ (by simp)).trans h.c0,UF _ _ _ (by rw[h.c1];rfl),(Uf _ _ _ _ (by simp)).trans h.c2,(Uf _ _ _ _ (by simp)).trans h.c3,(Us _ _ _ _).trans h.f0,(Us _ _ _ _).trans h.f1,(Us _ _ _ _).trans h.f2,(Us _ _ _ _).trans h.f3⟩
theorem Q50.set2 {w:World} {b:Nat} {v0 v1 v2 v3:Value} (h:Q50 w b v0 v1 v2 v3) (u:Value):Q50 (w.setCell ⟨b,2,none⟩ u) b v0 v1 u v3:=
 ⟨(Uf _ _ _ _ (by simp)).trans h.c0,(Uf _ _ _ _ (by simp)).trans h.c1,UF _ _ _ (by rw[h.c2];rfl),(Uf _ _ _ _ (by simp)).trans h.c3,(Us _ _ _ _).trans h.f0,(Us _ _ _ _).trans h.f1,(Us _ _ _ _).trans h.f2,(Us _ _ _ _).trans h.f3⟩
theorem Q50.set3 {w:World} {b:Nat} {v0 v1 v2 v3:Value} (h:Q50 w b v0 v1 v2 v3) (u:Value):Q50 (w.setCell ⟨b,3,none⟩ u) b v0 v1 v2 u:=
 ⟨(Uf _ _ _ _ (by simp)).trans h.c0,(Uf _ _ _ _ (by simp)).trans h.c1,(Uf _ _ _ _ (by simp)).trans h.c2,UF _ _ _ (by rw[h.c3];rfl),(Us _ _ _ _).trans h.f0,(Us _ _ _ _).trans h.f1,(Us _ _ _ _).trans h.f2,(Us _ _ _ _).trans h.f3⟩
theorem Q50.store {w:World} {b:Nat} {v0 v1 v2 v3:Value} (h:Q50 w b v0 v1 v2 v3) (u0 u1 u2 u3:Value):Q50 ((((w.setCell ⟨b,0,none⟩ u0).setCell ⟨b,1,none⟩ u1).setCell ⟨b,2,none⟩ u2).setCell ⟨b,3,none⟩ u3) b u0 u1 u2 u3:=(((h.set0 u0).set1 u1).set2 u2).set3 u3
open Go.ChangeShapes Go.Maps Go.WideShapes
theorem Qq7:laidOutB Tryz.prog=true:=by kernel_rfl
theorem Qv1:(230:TypeId)<Tryz.prog.types.size:=TF (by kernel_rfl)
theorem Qvw:(match Tryz.prog.underlying 230 with|some (.array _ _)|some (.struct _)=>true|_=>false)=true:=by kernel_rfl
theorem Qxo:Go.WideMaps.KeyLaw Tryz.prog 230:=deep_law_laid Qq7 (m:=3) (Nat.le_of_ble_eq_true rfl) Qv1 (by kernel_rfl) Qvw
theorem Qhe:Keyed Tryz.prog 230:=Keyed.of_law Qxo
theorem Qli:Tryz.prog.underlying 230=some (.array 4 3):=by kernel_rfl
theorem Qt9:Tryz.prog.underlying 3=some (.int .i64):=by kernel_rfl
theorem Qq8:Tryz.prog.underlying 228=some (.map 230 3):=by kernel_rfl
theorem Qvx:Tryz.prog.keyType 230=true:=by kernel_rfl
theorem Qlj:Tryz.prog.cellsOf 230=4:=by kernel_rfl
theorem Qta:Tryz.prog.cellsOf 3=1:=by kernel_rfl
theorem Qvy (w:World):(zeroValue 3).run Tryz.prog w=.ok (.int .i64 0) w:=by kernel_rfl
theorem Qtb:∀(k n:Nat),k<n->∃m,n=m+1:=fun k n h=>⟨n-1,by omega⟩
theorem Qxp:∃m,Tryz.prog.types.size=m+1:=Qtb _ _ Qv1
def Qs8 (a b c d:Int):Value:=.agg #[.int .i64 a,.int .i64 b,.int .i64 c,.int .i64 d]
def small (x:Int):Prop:= -9223372036854775808<=x/\x<=9223372036854775807
theorem Qtc {x:Int} (h:small x):(Lit.int .i64 x).wf=true:=by
 unfold small at h;have h1:IntKind.i64.min= -9223372036854775808:=rfl;have h2:IntKind.i64.max=9223372036854775807:=rfl;simp[Lit.wf,h1,h2];omega
theorem Q5h {m:Nat} {x:Int} (h:small x):Tryz.prog.keyLits (m+1) 3 [.int .i64 x]=some [.int .i64 x]:=by
 unfold Program.keyLits;rw[Qt9];simp[Qtc h]
theorem Qjt {a b c d:Int} (ha:small a) (hb:small b) (hc:small c) (hd:small d):∃l,keyOf Tryz.prog 230 (Qs8 a b c d)=some l:=by
 unfold keyOf;rw[Qli,Qvx];have hf:(Qs8 a b c d).formed Tryz.prog 230=true:=by
  simp[Value.formed,Qs8,Qlj]
 simp only[hf,Bool.and_self,if_true];obtain ⟨m,hm⟩:=Qxp;rw[hm];have hk:Tryz.prog.keyLits (m+1+1) 230 (Qs8 a b c d).cells.toList=some ([[Lit.int .i64 a],[.int .i64 b],[.int .i64 c],[.int .i64 d]].flatten):=by
  unfold Program.keyLits;rw[Qli];have F1:(Qs8 a b c d).cells.toList=[.int .i64 a,.int .i64 b,.int .i64 c,.int .i64 d]:=by simp[Qs8,Value.cells]
  rw[F1];simp[Qlj,Qta,List.range,List.range.loop,Q5h ha,Q5h hb,Q5h hc,Q5h hd]
 rw[hk];exact ⟨_,rfl⟩
theorem Qtd {a b c d a' b' c' d':Int} (h:Qs8 a b c d=Qs8 a' b' c' d'):a=a'/\b=b'/\c=c'/\d=d':=by
 unfold Qs8 at h;injection h with h;simpa using h
abbrev P4:=Int × Int × Int × Int
def P4.v (q:P4):Value:=Qs8 q.1 q.2.1 q.2.2.1 q.2.2.2
def P4.ok (q:P4):Prop:=small q.1/\small q.2.1/\small q.2.2.1/\small q.2.2.2
theorem P4.key {q:P4} (h:q.ok):∃l,keyOf Tryz.prog 230 q.v=some l:=Qjt h.1 h.2.1 h.2.2.1 h.2.2.2
theorem P4.inj {q r:P4} (h:q.v=r.v):q=r:=by
 obtain ⟨a,b,c,d⟩:=q;obtain ⟨a',b',c',d'⟩:=r;obtain ⟨h1,h2,h3,h4⟩:=Qtd h;simp only at h1 h2 h3 h4;subst h1;subst h2;subst h3;subst h4;rfl
def Qxq (v:Value):Option (DataW Value × List MemPlace):=some (.held v,[])
def Q4t (w:World) (b n:Nat) (g:P4->Option Nat):Prop:=
 ∃D,w.ownsMap Tryz.prog 230 Qxq b n D/\∀q l,q.ok->keyOf Tryz.prog 230 q.v=some l->Maps.has D l=(g q).isSome/\D.atKey l (.held (.int .i64 0))=.held (.int .i64 (((g q).getD 0:Nat):Int))
section
variable {w w':World} {b n:Nat} {g:P4->Option Nat}
theorem Q4t.made (w:World):Q4t (w.alloc (.map #[] 0)) w.heap.size 0 (fun _=>none):=
 ⟨_,World.ownsMap_made _ _ _ _,fun _ _ _ _=>⟨rfl,rfl⟩⟩
theorem Q4t.lt (h:Q4t w b n g):b<w.heap.size:=by obtain ⟨D,h1,_⟩:=h;exact h1.lt
theorem Q4t.keep (h:Q4t w b n g) (hk:w'.heap[b]?=w.heap[b]?):Q4t w' b n g:=by
 obtain ⟨D,⟨es',clock,hb,r⟩,h2⟩:=h;exact ⟨D,⟨es',clock,hk.trans hb,r⟩,h2⟩
theorem Q4t.look_ok (h:Q4t w b n g) {q:P4} (hq:q.ok):
 (Instr.lookup 228 (.map (some b)) q.v true).run Tryz.prog w=.ok (.tuple #[.int .i64 (((g q).getD 0:Nat):Int),.bool (g q).isSome]) w:=by
 obtain ⟨D,h1,h2⟩:=h;obtain ⟨l,hl⟩:=q.key hq;obtain ⟨v,ps,C2,hv⟩:=World.ownsMap.look_ok h1 Qhe Qq8 (Qvy w) (zd:=.held (.int .i64 0)) (zp:=[]) rfl hl;obtain ⟨e1,e2⟩:=h2 q l hq hl;rw[e1] at C2;rw[e2] at hv;unfold Qxq at hv;injection hv with hv;injection hv with hv _;injection hv with hv;rw[C2,hv]
theorem Q4t.store (h:Q4t w b n g) {q:P4} (hq:q.ok) (hn:n<1000000) (k:Nat):
 ∃w',(Instr.mapUpdate 228 (.map (some b)) q.v (.int .i64 (k:Int))).run Tryz.prog w=.ok () w'/\Q4t w' b (n+1) (fun r=>if r=q then some k else g r)/\w.grownBy w' (some b):=by
 obtain ⟨D,h1,h2⟩:=h;obtain ⟨l,hl⟩:=q.key hq;obtain ⟨w',C2,h3,h4⟩:=World.ownsMap.store h1 Qhe Qq8 (by unfold maxLen;omega) (val:=.int .i64 (k:Int)) (d:=.held (.int .i64 (k:Int))) (ps:=[]) hl rfl;refine ⟨w',C2,⟨_,h3,fun r m hr hm=>?_⟩,h4.grown⟩
 show Maps.has _ _=(if r=q then some k else g r).isSome/\_=DataW.held (Value.int .i64 (((if r=q then some k else g r).getD 0:Nat):Int))
 by_cases e:r=q
 ·subst e;rw[hl] at hm;injection hm with hm;subst hm;rw[Uu rfl];exact ⟨Maps.has_put_same h1.isMap (Qhe.key hl) _,Maps.atKey_put_same h1.isMap (Qhe.key hl) _ _⟩
 ·have C1:m≠l:=fun e2=>by
   subst e2;exact e (P4.inj (Qhe.inj hm hl))
  rw[Uq e,Maps.has_put_other C1,Maps.atKey_put_other C1];exact h2 r m hr hm
end
end Go.Proofs.YtidojbkhlenahaaGreatDoor
