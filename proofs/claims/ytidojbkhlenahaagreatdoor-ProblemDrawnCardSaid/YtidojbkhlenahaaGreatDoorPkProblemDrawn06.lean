/- Part 6. No condition. -/
import Derived.Sort.QuietTacIn
import Derived.RangeFuncCalls
import Derived.BigRegion
import Derived.Test.YtidojbkhlenahaaGreatDoorPkProblemDrawn05
set_option maxRecDepth 100000
set_option maxHeartbeats 16000000
namespace Go.Proofs.YtidojbkhlenahaaGreatDoor
open Go.RowKit WordsM
theorem Qc1 (a:OA) (n c:Nat) (ls:LN) (w:World) (h:WordsIn w a n c ls) (hn:n<=100000) (h0:val (2^64) ls≠0):
 Calls Tryz.prog 146 #[.slice a n c] w (Qky w (val (2^64) ls)):=by
 have hc:=Q1e a n c ls w h;have hT:=fun W (hb:Bw w W)=>(h.step hb).trim;have htd:trimL ls=dig (2^64) (val (2^64) ls):=Q1r (by decide) h.low;have C1:trimL ls≠[]:=fun e=>h0 (by rw[<-Q1c ls,e];rfl);have J6:=trim_len ls;have P2:=h.len;obtain ⟨b,o,rfl⟩:∃b o,a=some ⟨b,o,none⟩:=by
  rcases (hT w (Ud _ _)).rd with e|⟨b,o,e,_⟩
  ·exact absurd e C1
  ·exact ⟨b,o,e⟩
 rw[htd] at hc hT J6;obtain ⟨D,hD⟩:∃D,dig (2^64) (val (2^64) ls)=D:=⟨_,rfl⟩;have hDl:Low (2^64) D:=hD ▸ Q29 (by decide) _;have hD0:D≠[]:=by rw[<-hD,<-htd];exact C1
 rw[hD] at hc hT J6;obtain ⟨i0,S2,E2,O1,Y1⟩:∃i0:TypeInfo,Tryz.prog.info? 83=some i0/\i0.zero=some (.int .u64 0)/\i0.size=1/\i0.bytes=8:=by
  have:=Q4s;cases hi:Tryz.prog.info? 83 with
  |none=>rw[hi] at this;cases this
  |some i0=>
   rw[hi] at this;simp only[UG,Un,Xa9] at this;exact ⟨i0,rfl,this.1,this.2.1,this.2.2⟩
 have F1:=fun W (hW:WordsIn W (some ⟨b,o,none⟩) D.length c D)=>Tryz.J1d i0 (.int .u64 0) 1 8 S2 E2 O1 Y1 rfl (by decide) Qet b o D.length c (D.map (nv .u64)) W (by simp) (by unfold maxLen;omega) (by omega) (fun j u hu=>by
  rw[UI] at hu;cases hx:D[j]? with
  |none=>rw[hx] at hu;cases hu
  |some x=>
   rw[hx] at hu;simp only[UG,Un] at hu;subst hu;obtain ⟨b',o',e,_,m5⟩:=hW.rd.at_ hx;injection e with e;injection e with e1 e2;subst e1 e2;exact m5) (Qok _ _)
 have HC:=Xh3 hc hT F1;have HD:=Ua hD;clear hc hT F1 htd C1 h S2 E2 O1 Y1 h0
 go_enter Tryz.func146,Tryz.ntmps146
 go_wp2_with (first
  |(go_at_call_of 144 (some ⟨b,o,none⟩:OA);refine (Xo0 HC).mono ?_;rintro e w1 ⟨rfl,C0⟩;have I0:=Ua C0;clear C0)
  |(refine ((Xe2 HC) _ ((Xo1 HC) _ I0.out)).mono ?_;rintro e w2 ⟨v',rfl,J4,KK,D0⟩;have E1:=Xh3 J4 KK D0;clear J4 KK D0))
 go_ret;obtain ⟨_,⟨e,_⟩|⟨g,cap,cur,rfl,J8,hg,hnc,E3,B7,i4⟩⟩:=(Xo0 E1)
 ·exact absurd e (Xo1 E1)
 ·refine ⟨_,_,_,rfl,?_,Below.next0 I0.out (Xe2 E1)⟩;rw[HD.out];refine ⟨?_,.inr fun x hx=>by injection hx with hx;subst hx;exact Uj I0.out.size J8⟩;refine ⟨rfl,hnc,by simpa[maxLen] using E3,hDl,.inr ⟨g,0,rfl,(Uo.1 hg).1,fun j x hx=>?_⟩⟩;rw[UL _ _ _ _ _ _ hg,UH];have hj:j<D.length:=(Uh.1 hx).1;have h1:(cur.toList.take (D.length*1))[j]?=some (nv .u64 x):=by rw[i4,UI,hx];rfl
  rw[Ty,Uu (by omega),Tr] at h1;exact h1
theorem Qje (a:OA) (n c:Nat) (ls:LN) (w:World) (h:WordsIn w a n c ls) (hn:n<=100000) (h0:val (2^64) ls≠0):
 Calls Tryz.prog 146 #[.slice a n c] w (Q8z w (val (2^64) ls)):=(Qc1 a n c ls w h hn h0).mono fun _ _ h=>h.out
theorem Qvj (x:Nat) (w:World):Calls Tryz.prog 253 #[.int .u64 (x:Int)] w fun e w'=>e=.returned (.bool false)/\w=w':=by
 go_enter Tryz.func253,Tryz.ntmps253
 go_wp2_with fail
 go_ret;exact ⟨by simp,rfl⟩
theorem Qpn (x y:Nat) (w:World):Calls Tryz.prog 205 #[.int .u64 (x:Int),.int .u64 (y:Int)] w fun e w'=>e=.returned (.int .i64 (Lib.compareInt x y))/\w=w':=by
 have hn:=fun x=>Qvj x w
 by_cases h1:(x:Int)<(y:Int)
 ·go_enter Tryz.func205,Tryz.ntmps205
  go_wp2_with (refine (hn _).mono ?_;rintro e w1 ⟨rfl,rfl⟩)
  go_ret;exact ⟨by simp[Lib.compareInt,h1],rfl⟩
 ·by_cases h2:(y:Int)<(x:Int)
  ·go_enter Tryz.func205,Tryz.ntmps205
   go_wp2_with (refine (hn _).mono ?_;rintro e w1 ⟨rfl,rfl⟩)
   go_ret;exact ⟨by rw[Lib.compareInt,Uq (by omega),Uu (by omega)];rfl,rfl⟩
  ·go_enter Tryz.func205,Tryz.ntmps205
   go_wp2_with (refine (hn _).mono ?_;rintro e w1 ⟨rfl,rfl⟩)
   go_ret;exact ⟨by rw[Lib.compareInt,Uq (by omega),Uq (by omega)];rfl,rfl⟩
theorem Q1w {B u v:Nat} (hB:2<=B) (h:u<=v):(dig B u).length<=(dig B v).length:=by
 refine Q32 hB (TP h ?_);have h1:=Q3d (B:=B) (by omega) (dig B v) (Q29 hB v);rwa[Q10 hB] at h1
theorem Qf5 {B:Nat} (hB:0<B) {A K:LN} {j x y:Nat} (hA:Low B A) (hx:A[j]?=some x) (hy:K[j]?=some y) (hd:A.drop (j+1)=K.drop (j+1)) (F0:x<y):val B A<val B K:=by
 have hja:j<A.length:=(Uh.1 hx).1;have QG:j<K.length:=(Uh.1 hy).1;have h1:=Q3u (B:=B) A j;have h2:=Q3u (B:=B) K j;rw[UQ hja,(Uh.1 hx).2] at h1;rw[UQ QG,(Uh.1 hy).2,<-hd] at h2;simp only[val] at h1 h2;have h3:=Q3d hB (A.take j) fun z hz=>hA z (Td hz);rw[UR,Xax (by omega)] at h3;generalize val B (A.drop (j+1))=R at*;have h4:B^j*(x+B*R+1)<=B^j*(y+B*R):=Xaf _ (by omega);rw[Tt (B^j) (x+B*R) 1,Nat.mul_one] at h4;omega
theorem Q8j (a:OA) (n c:Nat) (ls:LN) (b:OA) (m d:Nat) (ks:LN) (w:World) (h1:WordsIn w a n c ls) (h2:WordsIn w b m d ks) (hn:n<=100000):
 Calls Tryz.prog 149 #[.slice a n c,.slice b m d] w fun e w'=>(∃r:Int,e=.returned (.int .i64 r)/\(r<0↔val (2^64) ls<val (2^64) ks)/\(0<r↔val (2^64) ks<val (2^64) ls)/\-1<=r/\r<=1)/\Bw w w':=by
 have C6:=h1.len;have Z6:=h2.len;have I3:=trim_len ls;have X2:=trim_len ks;have D8:val (2^64) (trimL ls)=val (2^64) ls:=Q1c ls;have G9:val (2^64) (trimL ks)=val (2^64) ks:=Q1c ks;have D3:=Q1r (B:=2^64) (by decide) h1.low;have Z2:=Q1r (B:=2^64) (by decide) h2.low;have J1:=fun W (hb:Bw w W)=>Q1e a n c ls W (h1.step hb);have I1:=fun W (hb:Bw w W)=>Q1e b m d ks W (h2.step hb);have S4:=fun W (hb:Bw w W)=>(h1.step hb).trim;have Z4:=fun W (hb:Bw w W)=>(h2.step hb).trim;rw[<-D8,<-G9];rw[<-D8] at D3;rw[<-G9] at Z2;obtain ⟨A,hA⟩:∃A,trimL ls=A:=⟨_,rfl⟩;obtain ⟨K,hK⟩:∃K,trimL ks=K:=⟨_,rfl⟩;rw[hA] at I3 J1 S4 D3⊢;rw[hK] at X2 I1 Z4 Z2⊢;have HC:=Xh2 J1 I1;have HW:=Xh2 S4 Z4;have ZO:A.length<K.length->val (2^64) A<val (2^64) K:=fun h=>TR fun x5=>by
  have h3:=Q1w (B:=2^64) (by decide) x5;rw[<-D3,<-Z2] at h3;omega
 have ZL:K.length<A.length->val (2^64) K<val (2^64) A:=fun h=>TR fun x5=>by
  have h3:=Q1w (B:=2^64) (by decide) x5;rw[<-D3,<-Z2] at h3;omega
 have HL:=Xh2 ZO ZL;clear hA hK D8 G9 J1 I1 S4 Z4 h1 h2 D3 Z2 ZO ZL
 by_cases C1:A.length=K.length
 ·have hneI:((A.length:Int) != (K.length:Int))=false:=by rw[C1];simp
  go_enter Tryz.func149,Tryz.ntmps149
  go_wp2_with (first
   |(go_at_call_of 144 a;refine ((Xo0 HC) _ (Ud _ _)).mono ?_;rintro e w1 ⟨rfl,C0⟩;have I0:=Ua C0;clear C0)
   |(go_at_call_of 144 b;refine ((Xe1 HC) _ I0.out).mono ?_;rintro e w2 ⟨rfl,D0⟩;have E1:=Ua (Below.next0 I0.out D0);clear D0))
  have WM:=Xh2 ((Xo0 HW) w2 E1.out) ((Xe1 HW) w2 E1.out);clear HW HC HL I0
  go_loopw [5] (fun iv wr=>∃j:Nat,iv=.int .i64 ((j:Int)-1)/\j<=A.length/\A.drop j=K.drop j/\Bw w2 wr) (fun iv _=>(intOf iv+1).toNat)
  case atStart=>exact ⟨A.length,by rw[C1],Ue _,by rw[List.drop_length,TX (by omega)],Ud _ _⟩
  case round=>
   obtain ⟨j,rfl,hj,KE,hb⟩:=hrel;cases j with
   |zero=>
    have K8:A=K:=(by simpa using KE);have S7:=Below.next0 E1.out hb;have HE:=Xh2 K8 S7;clear KE K8 hb S7
    go_wp2_with fail
    go_ret;exact ⟨⟨0,rfl,by rw[(Xo0 HE)];simp,by rw[(Xo0 HE)];simp,by decide,by decide⟩,(Xe1 HE)⟩
   |succ j=>
    obtain ⟨x,hx⟩:∃x,A[j]?=some x:=⟨_,Ub (by omega)⟩;obtain ⟨y,hy⟩:∃y,K[j]?=some y:=⟨_,Ub (by omega)⟩;obtain ⟨g1,o1,j5,O5,Y4⟩:=((Xo0 WM).rd.below hb).at_ hx;obtain ⟨g2,o2,X7,Q2,QV⟩:=((Xe1 WM).rd.below hb).at_ hy;subst j5 X7;have hjI:((j+1:Nat):Int)-1=(j:Int):=(by omega);have hjA:(j:Int)<(A.length:Int):=(by omega);have hjK:(j:Int)<(K.length:Int):=(by omega);have HH:=Xh4 KE hb hx hy;clear KE hb hx hy;rw[hjI]
    by_cases Jt:x=y
    ·subst Jt;have YY:((x:Int) != (x:Int))=false:=by simp
     go_wp2_with fail
     go_quiet (fail)
     go_wp2_with fail
     refine ⟨⟨j,rfl,by omega,?_,⟨(Xo1 HH).os,(Xo1 HH).tape,(Xo1 HH).output,(Xo1 HH).size,(Xo1 HH).block⟩⟩,by simp only[intOf];omega⟩;have h1:=(Xo0 HH);have e1:=(Uh.1 (Xo2 HH));have e2:=(Uh.1 (Xe3 HH));rw[UQ e1.1,UQ e2.1,e1.2,e2.2,h1]
    ·have YY:((x:Int) != (y:Int))=true:=(by rw[bne_iff_ne];omega);have hcu:∀W,Calls Tryz.prog 205 #[.int .u64 (x:Int),.int .u64 (y:Int)] W fun e w'=>e=.returned (.int .i64 (Lib.compareInt x y))/\∃n,w'=W.drewN n:=fun W=>(Qpn x y W).mono (by rintro e w' ⟨rfl,rfl⟩;exact ⟨rfl,0,rfl⟩)
     go_wp2_with fail
     go_quiet (fail)
     obtain ⟨W5,O7⟩:∃W5,wr.drewN nq=W5:=⟨_,rfl⟩;have hcx2:W5.cell? ⟨g1,o1+j,none⟩=some (.int .u64 (x:Int)):=(by rw[<-O7,World.cell?_drewN];exact Y4);have hcy2:W5.cell? ⟨g2,o2+j,none⟩=some (.int .u64 (y:Int)):=(by rw[<-O7,World.cell?_drewN];exact QV);have P0:Bw w2 W5:=(by rw[<-O7];exact ⟨(Xo1 HH).os,(Xo1 HH).tape,(Xo1 HH).output,(Xo1 HH).size,(Xo1 HH).block⟩);have A4:=Ua P0;rw[O7];clear O7 P0
     go_wp2_with fail
     go_quiet (first|(refine Calls.quiet_of (hcu _)))
     go_wp2_with fail
     go_ret;have S7:=Below.next0 E1.out A4.out;refine ⟨⟨_,rfl,?_⟩,⟨S7.os,S7.tape,S7.output,S7.size,S7.block⟩⟩;unfold Lib.compareInt
     by_cases F0:x<y
     ·have:=Qf5 (B:=2^64) (by decide) (Xo0 WM).low (Xo2 HH) (Xe3 HH) (Xo0 HH) F0;rw[Uu (by omega)];exact ⟨⟨fun _=>this,fun _=>by decide⟩,⟨fun h=>by simp at h,fun h=>by omega⟩,by decide,by decide⟩
     ·have:=Qf5 (B:=2^64) (by decide) (Xe1 WM).low (Xe3 HH) (Xo2 HH) (Xo0 HH).symm (by omega);rw[Uq (by omega),Uu (by omega)];exact ⟨⟨fun h=>by simp at h,fun h=>by omega⟩,⟨fun _=>this,fun _=>by decide⟩,by decide,by decide⟩
 ·have hneI:((A.length:Int) != (K.length:Int))=true:=by rw[bne_iff_ne];omega
  have E3:=fun W=>Tryz.Qzx (A.length:Int) (K.length:Int) W
  go_enter Tryz.func149,Tryz.ntmps149
  go_wp2_with (first
   |(go_at_call_of 144 a;refine ((Xo0 HC) _ (Ud _ _)).mono ?_;rintro e w1 ⟨rfl,C0⟩;have I0:=Ua C0;clear C0)
   |(go_at_call_of 144 b;refine ((Xe1 HC) _ I0.out).mono ?_;rintro e w2 ⟨rfl,D0⟩;have E1:=Ua (Below.next0 I0.out D0);clear D0)
   |(refine (E3 _).mono ?_;rintro e w3 ⟨rfl,Zp⟩;obtain rfl:=Zp.symm))
  go_ret;refine ⟨⟨_,rfl,?_⟩,E1.out⟩;unfold Lib.compareInt
  by_cases F0:A.length<K.length
  ·have:=(Xo0 HL) F0;rw[Uu (by omega)];exact ⟨⟨fun _=>this,fun _=>by decide⟩,⟨fun h=>by simp at h,fun h=>by omega⟩,by decide,by decide⟩
  ·have:=(Xe1 HL) (by omega);rw[Uq (by omega),Uu (by omega)];exact ⟨⟨fun h=>by simp at h,fun h=>by omega⟩,⟨fun _=>this,fun _=>by decide⟩,by decide,by decide⟩
theorem Qa5 (a:OA) (n c:Nat) (ls:LN) (b:OA) (m d:Nat) (ks:LN) (w:World) (h1:WordsIn w a n c ls) (h2:WordsIn w b m d ks) (hn:n<=100000):
 Calls Tryz.prog 149 #[.slice a n c,.slice b m d] w fun e w'=>(∃r:Int,e=.returned (.int .i64 r)/\(r<0↔val (2^64) ls<val (2^64) ks)/\(0<r↔val (2^64) ks<val (2^64) ls))/\Bw w w':=
 (Q8j a n c ls b m d ks w h1 h2 hn).mono fun _ _ ⟨⟨r,h1,h2,h3,_⟩,h4⟩=>⟨⟨r,h1,h2,h3⟩,h4⟩
theorem Qpo {d:Nat} (h:d<2^64) (h0:d≠0):dig (2^64) d=[d]:=by rw[Q4a (by decide) h0,Xac h,Xal h,Q14]
theorem Qf6 (w:World) (m:Nat) (hm:m<18446744073709551616) (T:TypeId):WordsIn (w.alloc (.cells #[.int .u64 (m:Int)] T)) (some ⟨w.heap.size,0,none⟩) 1 1 [m]:=
 ⟨rfl,Ue _,by omega,fun x hx=>by rw[Uy] at hx;subst hx;exact hm,.inr ⟨w.heap.size,0,rfl,by rw[Ur];omega,fun j x hx=>by
   cases j with
   |zero=>simp only[UO,Un] at hx;subst hx;rw[UL _ _ _ _ _ _ (Up _ _)];rfl
   |succ j=>simp at hx⟩⟩
theorem Qvk (B m:Nat):val B [m]=m:=by simp[val]
theorem Qjf (a:OA) (n c:Nat) (ls:LN) (b:OA) (cb:Nat) (d:Nat) (w:World) (h1:WordsIn w a n c ls) (h2:WordsIn w b 1 cb [d]) (hn:n<=100000) (hd:9223372036854775808<=d) (M7:val (2^64) ls≠0):
 Calls Tryz.prog 109 #[.slice a n c,.slice b 1 cb] w fun e w'=>∃aq nq cq ar nr cr,e=.returned (.tuple #[.slice aq nq cq,.slice ar nr cr,.bool true])/\WordsIn w' aq nq cq (dig (2^64) (val (2^64) ls / d))/\WordsIn w' ar nr cr (dig (2^64) (val (2^64) ls%d))/\Bw w w'/\∀x,aq=some x->w.heap.size<=x.block:=by
 have hdl:d<18446744073709551616:=h2.low d (by simp);have I3:=trim_len ls;have C6:=h1.len;have D8:val (2^64) (trimL ls)=val (2^64) ls:=Q1c ls;have htd:trimL [d]=[d]:=by have:=Q4v [] (x:=d) (by omega);simpa using this
 have J1:=fun W (hb:Bw w W)=>Q1e a n c ls W (h1.step hb);have I1:=fun W (hb:Bw w W)=>Q1e b 1 cb [d] W (h2.step hb);rw[htd] at I1;have S4:=fun W (hb:Bw w W)=>(h1.step hb).trim;have Z4:=fun W (hb:Bw w W)=>h2.step hb;rw[<-D8] at M7⊢;obtain ⟨A,hA⟩:∃A,trimL ls=A:=⟨_,rfl⟩;rw[hA] at I3 J1 S4 M7⊢;have HC:=Xh2 J1 I1;have HW:=Xh3 S4 Z4 M7;clear hA D8 J1 I1 S4 Z4 h1 h2 htd M7;have hlen1:([d]:LN).length=1:=rfl;rw[hlen1] at HC
 by_cases F0:val (2^64) A<d
 ·have HQ:=Xh3 (Xal F0) (Xac F0) F0;clear F0
  go_enter Tryz.func109,Tryz.ntmps109
  go_wp2_with (first
   |(go_at_call_of 144 a;refine ((Xo0 HC) _ (Ud _ _)).mono ?_;rintro e w1 ⟨rfl,C0⟩;have I0:=Ua C0;clear C0)
   |(go_at_call_of 144 b;refine ((Xe1 HC) _ I0.out).mono ?_;rintro e w2 ⟨rfl,D0⟩;have E1:=Ua (Below.next0 I0.out D0);clear D0)
   |(go_at_call_of 149 a;refine (Qa5 a A.length c A b 1 cb [d] _ ((Xo0 HW) _ E1.out) ((Xo1 HW) _ E1.out) (by omega)).mono ?_;rintro e w3 ⟨⟨r,rfl,P3,P1⟩,M0⟩;rw[Qvk] at P3;have D6:r<0:=P3.2 (Xe2 HQ);have B3:=Ua (Below.next0 E1.out M0);clear M0 P3 P1)
   |(refine (Qje a A.length c A _ ((Xo0 HW) _ B3.out) (by omega) (Xe2 HW)).mono ?_;rintro e w4 ⟨a4,n4,c4,rfl,QW,Y2⟩;have O4:=Xh2 QW (Below.next0 B3.out Y2);clear QW Y2))
  refine ⟨rfl,.tuple #[.slice none 0 0,.slice a4 n4 c4,.bool true],by simp[results,go_sem],none,0,0,a4,n4,c4,rfl,?_,?_,(Xe1 O4),fun x e=>by cases e⟩
  ·rw[(Xo0 HQ)];exact ⟨rfl,Ue _,by omega,fun x hx=>by simp[Q14] at hx,.inl rfl⟩
  ·rw[(Xo1 HQ)];exact (Xo0 O4)
 ·have x5:d<=val (2^64) A:=by omega
  have HQ:=Ua x5;have HV:=Ua F0;clear F0 x5;obtain ⟨rm,hrm⟩:∃rm,val (2^64) A%d=rm:=⟨_,rfl⟩;have KJ:rm<18446744073709551616:=by rw[<-hrm];exact Nat.lt_trans (TH _ (by omega)) hdl
  have HRM:=Ua hrm;clear hrm
  go_enter Tryz.func109,Tryz.ntmps109
  go_wp2_with (first
   |(go_at_call_of 144 a;refine ((Xo0 HC) _ (Ud _ _)).mono ?_;rintro e w1 ⟨rfl,C0⟩;have I0:=Ua C0;clear C0)
   |(go_at_call_of 144 b;refine ((Xe1 HC) _ I0.out).mono ?_;rintro e w2 ⟨rfl,D0⟩;have E1:=Ua (Below.next0 I0.out D0);clear D0)
   |(go_at_call_of 149 a;refine (Qa5 a A.length c A b 1 cb [d] _ ((Xo0 HW) _ E1.out) ((Xo1 HW) _ E1.out) (by omega)).mono ?_;rintro e w3 ⟨⟨r,rfl,P3,P1⟩,M0⟩;rw[Qvk] at P3;have D6:¬r<0:=fun h=>HV.out (P3.1 h);have B3:=Ua (Below.next0 E1.out M0);
     obtain ⟨gb,ob,X7,KP,hcb⟩:=((Xo1 HW) _ B3.out).rd.at_ (k:=0) (x:=d) rfl;rw[TD] at hcb;subst X7;clear M0 P3 P1)
   |(go_at_call_of 158 a;have Y0:=Qmq a A.length c A d w3 ((Xo0 HW) _ B3.out) (by omega) hd hdl;rw[HRM.out] at Y0;refine Y0.mono ?_;rintro e w4 ⟨a4,n4,c4,rfl,QW,Y2,j6⟩;have O4:=Xh3 QW (Below.next0 B3.out Y2) (fun x (e:a4=some x)=>Uj B3.out.size (j6 x e));clear QW Y2 Y0 j6)
   |(refine (Q1e _ 1 1 [rm] _ (Qf6 w4 rm KJ 83)).mono ?_;rintro e w5 ⟨rfl,P0⟩;have A4:=Ua P0;clear P0))
  have N4:=Below.next0 ((Ud _ _).alloc (Ue _) (.cells #[.int .u64 (rm:Int)] 83)) A4.out;have Qo:=((Qf6 w4 rm KJ 83).step A4.out).trim;have ZV:=Q1r (B:=2^64) (by decide) (Qf6 w4 rm KJ 83).low;rw[Qvk] at ZV;rw[ZV] at Qo;refine ⟨rfl,.tuple #[.slice a4 n4 c4,.slice (some ⟨w4.heap.size,0,none⟩) (trimL [rm]).length 1,.bool true],by simp[results,go_sem],a4,n4,c4,_,_,_,rfl,(Xo0 O4).step N4,?_,Below.next0 (Xo1 O4) N4,(Xe2 O4)⟩;rw[HRM.out,ZV];exact Qo
section
variable {w w':World} {B:Nat} {e:TypeId} {k:Nat} {g n c:Nat} {xs:LV}
theorem Row.cell0 (h:Row w B e k (some ⟨g,0,none⟩) n c xs) {j:Nat} {x:Value} (hx:xs[j]?=some x):w.cell? ⟨g,j,none⟩=some x:=by
 obtain ⟨g',e1,_,_,hc⟩:=h.at_ hx;injection e1 with e1;injection e1 with e1;subst e1;exact hc
theorem Row.frozen0 (h:Row w B e k (some ⟨g,0,none⟩) n c xs) (i:Nat):w.frozen? ⟨g,i,none⟩=false:=by
 rcases h.form with ⟨h0,_⟩|⟨g',cur,e1,_,_,hh,_⟩
 ·cases h0
 ·injection e1 with e1;injection e1 with e1;subst e1;exact Tx _ _ _ _ _ hh
theorem Row.set0 (h:Row w B e k (some ⟨g,0,none⟩) n c xs) (i:Nat) (u:Value):Row (w.setCell ⟨g,i,none⟩ u) B e k (some ⟨g,0,none⟩) n c (xs.set i u):=by
 rcases h.form with ⟨h0,_⟩|⟨g',cur,e1,hB,hg,hh,hn,hc,hs,ht⟩
 ·cases h0
 ·injection e1 with e1;injection e1 with e1;subst e1;refine ⟨by rw[Ti];exact h.1,.inr ⟨g,c,cur.setIfInBounds i u,rfl,hB,heap_setCell_same _ _ _ _ _ _ hh,hn,hc,by simpa using hs,?_⟩⟩;rw[Xav,List.take_set,ht]
theorem Row.fresh (h:Row w B e k (some ⟨g,0,none⟩) n c xs):B<=g/\g<w.heap.size:=by
 rcases h.form with ⟨h0,_⟩|⟨g',cur,e1,hB,hg,_⟩
 ·cases h0
 ·injection e1 with e1;injection e1 with e1;subst e1;exact ⟨hB,hg⟩
end
theorem Row.words {w:World} {B:Nat} {a:OA} {n c:Nat} {L:LN} (h:Row w B 83 1 a n c (L.map (nv .u64))) (hl:Low (2^64) L):WordsIn w a n c L:=
 ⟨by have:=h.len;simpa using this,h.cap.1,by have:=h.cap.2;simpa[maxLen] using this,hl,Row.rdI h⟩
theorem Row.setW {w:World} {B g n c:Nat} {L:LN} (h:Row w B 83 1 (some ⟨g,0,none⟩) n c (L.map (nv .u64))) (i x:Nat):Row (w.setCell ⟨g,i,none⟩ (.int .u64 (x:Int))) B 83 1 (some ⟨g,0,none⟩) n c ((L.set i x).map (nv .u64)):=by
 rw[List.map_set];exact h.set0 i _
theorem Qjg (a:OA) (n c:Nat) (ls:LN) (w:World) (h:WordsIn w a n c ls) (hn:n<=1000000) (h0:val (2^64) ls≠0):
 Calls Tryz.prog 146 #[.slice a n c] w fun e w'=>∃g c',e=.returned (.slice (some ⟨g,0,none⟩) (trimL ls).length c')/\Row w' w.heap.size 83 1 (some ⟨g,0,none⟩) (trimL ls).length c' ((trimL ls).map (nv .u64))/\Bw w w':=by
 have hc:=Q1e a n c ls w h;have hT:=fun W (hb:Bw w W)=>(h.step hb).trim;have C1:trimL ls≠[]:=fun e=>h0 (by rw[<-Q1c ls,e];rfl);have J6:=trim_len ls;have P2:=h.len;obtain ⟨b,o,rfl⟩:∃b o,a=some ⟨b,o,none⟩:=by
  rcases (hT w (Ud _ _)).rd with e|⟨b,o,e,_⟩
  ·exact absurd e C1
  ·exact ⟨b,o,e⟩
 obtain ⟨D,hD⟩:∃D,trimL ls=D:=⟨_,rfl⟩;rw[hD] at hc hT J6 C1⊢;obtain ⟨i0,S2,E2,O1,Y1⟩:∃i0:TypeInfo,Tryz.prog.info? 83=some i0/\i0.zero=some (.int .u64 0)/\i0.size=1/\i0.bytes=8:=by
  have:=Q4s;cases hi:Tryz.prog.info? 83 with
  |none=>rw[hi] at this;cases this
  |some i0=>
   rw[hi] at this;simp only[UG,Un,Xa9] at this;exact ⟨i0,rfl,this.1,this.2.1,this.2.2⟩
 have F1:=fun W (hW:WordsIn W (some ⟨b,o,none⟩) D.length c D)=>Tryz.J1d i0 (.int .u64 0) 1 8 S2 E2 O1 Y1 rfl (by decide) Qet b o D.length c (D.map (nv .u64)) W (by simp) (by unfold maxLen;omega) (by omega) (fun j u hu=>by
  rw[UI] at hu;cases hx:D[j]? with
  |none=>rw[hx] at hu;cases hu
  |some x=>
   rw[hx] at hu;simp only[UG,Un] at hu;subst hu;obtain ⟨b',o',e,_,m5⟩:=hW.rd.at_ hx;injection e with e;injection e with e1 e2;subst e1 e2;exact m5) (Qok _ _)
 have HC:=Xh3 hc hT F1;have HN:=Ua C1;clear hc hT F1 h S2 E2 O1 Y1 h0 hD C1
 go_enter Tryz.func146,Tryz.ntmps146
 go_wp2_with (first
  |(go_at_call_of 144 (some ⟨b,o,none⟩:OA);refine (Xo0 HC).mono ?_;rintro e w1 ⟨rfl,C0⟩;have I0:=Ua C0;clear C0)
  |(refine ((Xe2 HC) _ ((Xo1 HC) _ I0.out)).mono ?_;rintro e w2 ⟨v',rfl,J4,KK,D0⟩;have E1:=Xh3 J4 KK D0;clear J4 KK D0))
 go_ret;obtain ⟨hl,⟨e,_⟩|⟨g,cap,cur,rfl,J8,hg,hnc,E3,B7,i4⟩⟩:=(Xo0 E1)
 ·exact absurd e (Xo1 E1)
 ·have hr:Row w2 w1.heap.size 83 1 (some ⟨g,0,none⟩) D.length cap (D.map (nv .u64)):=⟨hl,.inr ⟨g,cap,cur,rfl,J8,hg,hnc,E3,B7,i4⟩⟩;exact ⟨_,_,rfl,hr.lower I0.out.size,Below.next0 I0.out (Xe2 E1)⟩
theorem Qgy (x y b:Nat) (hb:b<=1) (w:World):
 (callFunc 257 #[.int .u64 x,.int .u64 y,.int .u64 b]).run Tryz.prog w=
   .ok (.value (.tuple #[.int .u64 (((x+18446744073709551616-y-b)%18446744073709551616:Nat):Int),.int .u64 ((if x<y+b then 1 else 0:Nat):Int)])) w:=by
 rw[run_callFunc_extern Tryz.func257 (by kernel_rfl) (by kernel_rfl) (by kernel_rfl) (e:=sub64Entry) (by kernel_rfl),run_sub64 x y b hb];rfl
theorem Qlc {B:Nat} {L:LN} {i x y b b' d V T:Nat} (hx:L[i]?=some x) (h:val B L+T=V+b*B^i) (hd:x+b'*B=y+b+d):val B (L.set i d)+(T+B^i*y)=V+b'*B^(i+1):=by
 have h1:=Q9z (B:=B) L i d x hx;have h2:(x+b'*B)*B^i=(y+b+d)*B^i:=by rw[hd]
 rw[Tj,Tj,Tj] at h2;rw[Tb,UB (B^i) y,UB (B^i) B,<-UJ];omega
theorem Qgz (x y b:Nat) (hx:x<18446744073709551616) (hy:y<18446744073709551616) (hb:b<=1):∃d b',(x+18446744073709551616-y-b)%18446744073709551616=d/\(if x<y+b then 1 else 0)=b'/\b'<=1/\d<18446744073709551616/\x+b'*2^64=y+b+d:=by
 refine ⟨_,_,rfl,rfl,by split <;> omega,TH _ (by decide),?_⟩
 show x+(if x<y+b then 1 else 0)*18446744073709551616=_
 split <;> omega
theorem Qa6 (a:OA) (n c:Nat) (ls:LN) (b:OA) (m d:Nat) (ks:LN) (w:World) (h1:WordsIn w a n c ls) (h2:WordsIn w b m d ks) (hn:n<=100000) (h0:val (2^64) ls≠0):
 Calls Tryz.prog 241 #[.slice a n c,.slice b m d] w fun e w'=>∃a' n' c' ok,e=.returned (.tuple #[.slice a' n' c',.bool ok])/\ok=decide (val (2^64) ks<=val (2^64) ls)/\(ok=true->WordsIn w' a' n' c' (dig (2^64) (val (2^64) ls-val (2^64) ks)))/\Bw w w':=by
 have C6:=h1.len;have Z6:=h2.len;have E3:=Qa5 a n c ls b m d ks w h1 h2 hn;have H1:=Ua h1;have H2:=Ua h2;clear h1 h2
 by_cases F0:val (2^64) ls<val (2^64) ks
 ·have VT:Calls Tryz.prog 149 #[.slice a n c,.slice b m d] w fun e w'=>(∃r:Int,e=.returned (.int .i64 r)/\r<0)/\Bw w w':=by
   refine E3.mono ?_;rintro e w' ⟨⟨r,rfl,h3,_⟩,hb⟩;exact ⟨⟨r,rfl,h3.2 F0⟩,hb⟩
  have HC:=Xh2 VT F0;clear E3 VT F0
  go_enter Tryz.func241,Tryz.ntmps241
  go_wp2_with fail
  go_step3
  go_wp2_with (refine (Xo0 HC).mono ?_;rintro e w1 ⟨⟨r,rfl,hr⟩,C0⟩;have I0:=Ua C0;clear C0)
  rw[Xan];refine ⟨rfl,.tuple #[.slice none 0 0,.bool false],by simp[results,go_sem],none,0,0,false,rfl,by rw[eq_comm,Tv];exact Nat.not_le.2 (Xe1 HC),fun h=>(by cases h),I0.out⟩
 ·have VT:Calls Tryz.prog 149 #[.slice a n c,.slice b m d] w fun e w'=>(∃r:Int,e=.returned (.int .i64 r)/\¬r<0)/\Bw w w':=by
   refine E3.mono ?_;rintro e w' ⟨⟨r,rfl,h3,_⟩,hb⟩;exact ⟨⟨r,rfl,fun h=>F0 (h3.1 h)⟩,hb⟩
  have x5:val (2^64) ks<=val (2^64) ls:=Nat.not_lt.1 F0;have Qo:=fun W (hb:Bw w W)=>Qjg a n c ls W (H1.out.step hb) (by omega) h0;have J6:=trim_len ls;have i4:=trim_len ks;have HC:=Xh3 VT x5 Qo;clear E3 VT F0 x5 Qo
  go_enter Tryz.func241,Tryz.ntmps241
  go_wp2_with fail
  go_step3
  go_wp2_with (first
   |(go_at_call_of 149 a;refine (Xo0 HC).mono ?_;rintro e w1 ⟨⟨r,rfl,hr⟩,C0⟩;have I0:=Ua C0;clear C0)
   |(go_at_call_of 146 a;refine ((Xe2 HC) w1 I0.out).mono ?_;rintro e w2 ⟨g,c2,rfl,P1,D0⟩;have E1:=Xh2 (P1.lower I0.out.size) (Below.next0 I0.out D0);clear P1 D0)
   |(go_at_call_of 144 b;refine (Q1e b m d ks _ (H2.out.step (Xe1 E1))).mono ?_;rintro e w3 ⟨rfl,M0⟩;have B3:=Xh2 ((Xo0 E1).call M0) (Below.next0 (Xe1 E1) M0);clear M0))
  have Ki:=Qer H1.out.low;have hK:=(H2.out.step (Xe1 B3)).trim;have JW:=Q1c (B:=2^64) ls;have JU:=Q1c (B:=2^64) ks;have j6:=(Xo0 B3).fresh;obtain ⟨A,hA⟩:∃A,trimL ls=A:=⟨_,rfl⟩;obtain ⟨K,hKe⟩:∃K,trimL ks=K:=⟨_,rfl⟩;rw[hA] at Ki JW J6 B3;rw[hKe] at hK JU i4;have hkr:=H2.out.rd.step (Xe1 B3);have HA:=Xh4 Ki JW JU hK.low;have HS:=Xh3 (Xo0 B3) (Xe1 B3) j6;have hKrd:RdI .u64 w w.heap.size b K:=by
   rw[<-hKe,<-Q3e ks];exact H2.out.rd.front _
  have HK:=Ua hKrd;have hKA:K.length<=A.length:=by
   rw[<-hA,<-hKe,Q1r (by decide) H1.out.low,Q1r (by decide) H2.out.low];exact Qaj (by decide) (Xo1 HC)
  have WH:=Ua (Xo1 HC);rw[hA,hKe];clear Ki hK JW JU j6 hkr hKrd I0 E1 B3 HC hA hKe
  go_loopw [7,20] (fun cv iv wr=>∃(i br:Nat) (L:LN),cv=.int .u64 (br:Int)/\iv=.int .i64 (i:Int)/\i<=K.length/\br<=1/\Row wr w.heap.size 83 1 (some ⟨g,0,none⟩) A.length c2 (L.map (nv .u64))/\L.length=A.length/\Low (2^64) L/\val (2^64) L+val (2^64) (K.take i)=val (2^64) A+br*(2^64)^i/\Bw w wr) (fun _ iv _=>K.length-(intOf iv).toNat)
  case atStart=>exact ⟨0,0,A,rfl,rfl,Uv _,Uv _,(Xo0 HS),rfl,(Xo0 HA),by simp[val],(Xo1 HS)⟩
  case round=>
   obtain ⟨i,br,L,rfl,rfl,hi,Z0,hL,F5,X0,N0,Y0⟩:=hrel
   by_cases F0:i<K.length
   ·have G0:(i:Int)<(K.length:Int):=(by omega);obtain ⟨x,hx⟩:∃x,L[i]?=some x:=⟨_,Ub (by omega)⟩;obtain ⟨y,hy⟩:∃y,K[i]?=some y:=⟨_,Ub (by omega)⟩;obtain ⟨b2,o2,rfl,D0,QV⟩:=(HK.out.below Y0).at_ hy;have B4:x<18446744073709551616:=X0 x (Ug hx);have Qk:y<18446744073709551616:=(Xe3 HA) y (Ug hy);obtain ⟨z,c3,hz,Zj,hc3l,j8,hsd⟩:=Qgz x y br B4 Qk Z0;have hsub:=fun W=>Qgy x y br Z0 W;rw[hz,Zj] at hsub;have Z1:=Qlc hx N0 hsd;have Zo:=Ua Z1;clear hz Zj Z1 hsd;have J0:=Row.cell0 hL (j:=i) (x:=.int .u64 (x:Int)) (by rw[UI,hx];rfl);have cx:wr.drew.cell? ⟨g,i,none⟩=some (.int .u64 (x:Int)):=J0;have cy:wr.drew.cell? ⟨b2,o2+i,none⟩=some (.int .u64 (y:Int)):=QV;have fx:wr.drew.frozen? ⟨g,i,none⟩=false:=hL.frozen0 i;have hiA:(i:Int)<(A.length:Int):=(by omega);have HH:=Xh4 hL X0 Y0 hy;clear hL X0 N0 Y0 hx hy QV J0
    go_wp2_with fail
    go_region_law (fail)
    all_goals go_wp2_with fail
    all_goals
     obtain ⟨hL,X0,Y0,hy⟩:=HH.out;refine ⟨⟨i+1,c3,L.set i z,rfl,by simp,by omega,hc3l,hL.setW i z,by simp[F5],Q43 X0 j8,?_,(Y0.setCell (p:=⟨g,i,none⟩) (Xo2 HS) _).drew⟩,by simp only[intOf];omega⟩;rw[Q1i K i y hy,Zo.out]
   ·obtain rfl:i=K.length:=(by omega);have G0:¬((K.length:Int)<(K.length:Int)):=(by omega);rw[Tw] at N0;have HH:=Xh4 hL X0 N0 Y0;clear hL X0 N0 Y0
    go_wp2_with fail
    go_step3
    go_wp2_with fail
    go_loopw [7,9] (fun cv iv wr=>∃(j br:Nat) (L:LN),cv=.int .u64 (br:Int)/\iv=.int .i64 (j:Int)/\j<=A.length/\br<=1/\Row wr w.heap.size 83 1 (some ⟨g,0,none⟩) A.length c2 (L.map (nv .u64))/\L.length=A.length/\Low (2^64) L/\val (2^64) L+val (2^64) K=val (2^64) A+br*(2^64)^j/\Bw w wr) (fun _ iv _=>A.length-(intOf iv).toNat)
    case atStart=>exact ⟨K.length,br,L,rfl,rfl,hKA,Z0,(Xo0 HH),F5,(Xo1 HH),(Xo2 HH),(Xe3 HH)⟩
    case round=>
     clear F5 Z0 HH;obtain ⟨j,br,L,rfl,rfl,hj,Z0,hL,F5,X0,N0,Y0⟩:=hrel
     by_cases Q3:j<A.length/\br=1
     ·obtain ⟨F0,rfl⟩:=Q3;have G0:(j:Int)<(A.length:Int):=(by omega);obtain ⟨x,hx⟩:∃x,L[j]?=some x:=⟨_,Ub (by omega)⟩;have B4:x<18446744073709551616:=X0 x (Ug hx);obtain ⟨z,c3,hz,Zj,hc3l,j8,hsd⟩:=Qgz x 0 1 B4 (by decide) (by decide);have hsub:∀W,(callFunc 257 #[.int .u64 (x:Int),.int .u64 0,.int .u64 1]).run Tryz.prog W=.ok (.value (.tuple #[.int .u64 (z:Int),.int .u64 (c3:Int)])) W:=fun W=>by
       have:=Qgy x 0 1 (by decide) W;rw[hz,Zj] at this;exact this
      have Z1:=Qlc hx N0 hsd;rw[Nat.mul_zero,TD] at Z1;have cx:wr.cell? ⟨g,j,none⟩=some (.int .u64 (x:Int)):=Row.cell0 hL (j:=j) (x:=.int .u64 (x:Int)) (by rw[UI,hx];rfl);have fx:wr.frozen? ⟨g,j,none⟩=false:=hL.frozen0 j;have Zo:=Xh4 Z1 hL X0 Y0;clear hz Zj Z1 hL X0 N0 Y0 hx hsd
      go_wp2_with fail
      exact ⟨⟨j+1,c3,L.set j z,rfl,by simp,by omega,hc3l,(Xo1 Zo).setW j z,by simp[F5],Q43 (Xo2 Zo) j8,(Xo0 Zo),(Xe3 Zo).setCell (p:=⟨g,j,none⟩) (Xo2 HS) _⟩,by simp only[intOf];omega⟩
     ·have Q0:br=0:=by
       rcases Nat.lt_or_ge br 1 with h|h
       ·omega
       ·exfalso;obtain rfl:br=1:=(by omega);obtain rfl:j=A.length:=by
         refine Nat.le_antisymm hj (Nat.not_lt.1 fun h'=>Q3 ⟨h',rfl⟩)
        have h1:=Q3d (B:=2^64) (by decide) L X0;rw[F5] at h1;have h2:=WH.out;rw[<-(Xo1 HA),<-(Xo2 HA)] at h2;omega
      subst Q0;rw[TQ,TD] at N0;have Zk:val (2^64) L=val (2^64) ls-val (2^64) ks:=(by rw[<-(Xo1 HA),<-(Xo2 HA)];omega);have hW:=hL.words X0;have K7:trimL L=dig (2^64) (val (2^64) ls-val (2^64) ks):=(by rw[Q1r (by decide) X0,Zk]);have X1:(true:Bool)=decide (val (2^64) ks<=val (2^64) ls):=(UW WH.out).symm;have HE:=Xh4 hW Y0 K7 X1;clear Zk hW Y0 K7 X1 N0 hL X0 Q3
      by_cases F0:j<A.length
      ·have G0:(j:Int)<(A.length:Int):=by omega
       go_wp2_with (refine (Q1e _ _ _ _ _ (Xo0 HE)).mono ?_;rintro e w5 ⟨rfl,P0⟩;have A4:=Ua P0;clear P0)
       rw[Xan];have M3:=((Xo0 HE).step A4.out).trim;rw[(Xo2 HE)] at M3⊢;exact ⟨rfl,.tuple #[.slice (some ⟨g,0,none⟩) (dig (2^64) (val (2^64) ls-val (2^64) ks)).length c2,.bool true],by simp[results,go_sem],_,_,_,true,rfl,(Xe3 HE),fun _=>M3,Below.next0 (Xo1 HE) A4.out⟩
      ·obtain rfl:j=A.length:=(by omega);have G0:¬((A.length:Int)<(A.length:Int)):=by omega
       go_wp2_with (refine (Q1e _ _ _ _ _ (Xo0 HE)).mono ?_;rintro e w5 ⟨rfl,P0⟩;have A4:=Ua P0;clear P0)
       rw[Xan];have M3:=((Xo0 HE).step A4.out).trim;rw[(Xo2 HE)] at M3⊢;exact ⟨rfl,.tuple #[.slice (some ⟨g,0,none⟩) (dig (2^64) (val (2^64) ls-val (2^64) ks)).length c2,.bool true],by simp[results,go_sem],_,_,_,true,rfl,(Xe3 HE),fun _=>M3,Below.next0 (Xo1 HE) A4.out⟩
theorem Qdx (ws:LN):NatM.val (NatM.halves ws)=val (2^64) ws:=by
 induction ws with
 |nil=>rfl
 |cons x r ih=>
  have e:NatM.halves (x::r)=(x%4294967296)::(x / 4294967296)::NatM.halves r:=rfl;rw[e];simp only[NatM.val,val,ih];rw[show (2:Nat)^64=4294967296*4294967296 by decide,UJ]
  show x%4294967296+4294967296*(x / 4294967296+4294967296*val (4294967296*4294967296) r)=_
  rw[Tt];omega
theorem Q3l (a:OA) (n c:Nat) (ls:LN) (w:World) (h:WordsIn w a n c ls) (hm:n<=1000000):
 Calls Tryz.prog 73 #[.slice a n c] w fun e w'=>∃a' n' c',e=.returned (.slice a' n' c')/\n'<=2*n/\Q0v w' a' n' c' (val (2^64) ls)/\Bw w w':=by
 refine (Qj1 a n c ls w h.len hm h.rd.rdN h.low).mono ?_;rintro e w' ⟨a',n',c',rfl,ZT,hc,m5,R7,hb⟩;have h1:NatM.trimL (NatM.halves ls)=dig (2^32) (val (2^64) ls):=by
  rw[Qb1,Q1r (B:=2^32) (by decide) (show Low (2^32) (NatM.halves ls) from NatM.halves_small h.low),<-Qoq,Qdx]
 have h2:=NatM.trim_len (NatM.halves ls);rw[NatM.halves_len,h.len] at h2;rw[h1] at ZT R7 h2;exact ⟨a',n',c',rfl,by omega,⟨ZT.symm,hc,m5,R7.rdI⟩,hb⟩
theorem Qvl {v:Nat} (hv:v%2=1) (neg:Bool) (e:Int):Fit v e↔Q0a neg e (dig (2^64) v):=by
 have h0:v≠0:=by omega
 have C1:dig (2^64) v≠[]:=fun e=>h0 ((Q51 (by decide)).1 e);have ht:=Qiu _ (Qks (B:=2^64) (by decide) v);have hh:(dig (2^64) v).headD 0%2=1:=by
  rw[Q4a (by decide) h0]
  show v%2^64%2=1
  rw[show (2:Nat)^64=18446744073709551616 from rfl];omega
 unfold Q0a Fit;rw[Uq C1,ht];exact ⟨fun h=>⟨rfl,h.1,hh,h.2.1,h.2.2⟩,fun h=>⟨h.2.1,h.2.2.2⟩⟩
theorem Qsv {neg:Bool} {v:Nat} {e:Int} {neg1:Bool} {v1:Nat} {e1:Int} {neg2:Bool} {e2:Int} {L:LN} {er:Int} (h1:Qov neg v e neg1 v1 e1) (h2:Qkz neg1 v1 e1 neg2 e2 L er):Q79 neg v e neg2 e2 L er:=by
 rcases h1 with ⟨h0,rfl,rfl,rfl⟩|⟨z,hz,rfl,rfl,rfl⟩
 ·rcases h2 with ⟨_,h3,h4,h5,h6⟩|⟨h3,_⟩|⟨h3,_⟩
  ·exact .inl ⟨h0,h3,h4,h5,h6⟩
  ·exact absurd rfl h3
  ·exact absurd rfl h3
 ·have D8:=hz.2;have hf:=Qvl D8 neg1 (e+(z:Int));refine .inr ⟨z,hz,?_⟩;rcases h2 with ⟨h3,_⟩|⟨h3,h4,h5,h6,h7,h8⟩|⟨h3,h4,rfl,rfl,rfl,h8⟩
  ·rw[h3] at D8;simp at D8
  ·exact .inl ⟨.inr (.inr fun h=>h4 (hf.2 h)),h5,h6,h7,h8⟩
  ·exact .inr ⟨by have:=h4.2.2;omega,by have:=h4.2.1;omega,hf.1 h4,rfl,rfl,rfl,h8⟩
theorem Q8k {w:World} {a:OA} {n c v:Nat} (h:Q0v w a n c v) (h0:v≠0):n≠0:=fun e=>h0 ((Q51 (B:=2^32) (by decide)).1 (UC.1 (by rw[h.len,e])))
theorem Qc2 (neg:Bool) (a:OA) (n c:Nat) (ls:LN) (exp:Int) (w:World) (h:WordsIn w a n c ls) (hn:n<=100000) (he: -1000000000<=exp) (Q5:exp<=1000000000):
 Calls Tryz.prog 116 #[.bool neg,.slice a n c,.int .i64 exp] w fun e w'=>∃neg' exp' a' n' c' L er,e=.returned (.tuple #[.agg #[.bool neg',.int .i64 exp',.slice a' n' c'],.int .i64 er])/\Q79 neg (val (2^64) ls) exp neg' exp' L er/\WordsIn w' a' n' c' L/\Bw w w':=by
 have M2:∀o,Bw w (w.alloc o):=fun o=>Ba;have O2:=Q0o w (.cells #[.bool false,.int .i64 0,.slice none 0 0] 26);have Qt:=Q03.new w (.bool false) (.int .i64 0) (.slice none 0 0) 26;have hp:=Q3l a n c ls (w.alloc (.cells #[.bool false,.int .i64 0,.slice none 0 0] 26)) (h.step (M2 _)) (by omega);generalize val (2^64) ls=v at*;have HP:=Xh2 hp Qt;clear hp Qt h
 by_cases h0:v=0
 ·go_enter Tryz.func116,Tryz.ntmps116
  go_wp2_with (refine (Xo0 HP).mono ?_;rintro e w1 ⟨m,k,c',rfl,hk,hD,C0⟩;obtain rfl:k=0:=by { have:=hD.len;rw[h0,Q14] at this;exact this.symm };
               have hN:=(Xe1 HP).step C0 O2;obtain ⟨E4,J1,I1,U4,j3,U3⟩:=hN.cf;have D3:=hN.d1 (.bool false);have Z2:=hN.d2 (.bool false) (.int .i64 0);have I0:=Xh2 hN (Below.next0 (M2 _) C0);clear hN C0)
  have hS:=(Xo0 I0).store (.bool false) (.int .i64 0) (.slice none 0 0);obtain ⟨k0,k1,k2⟩:=hS.cc;have P0:=Q03.below (Xe1 I0) (Ue _) (.bool false) (.int .i64 0) (.slice none 0 0);clear hS E4 J1 I1 U4 j3 U3 D3 Z2;generalize World.setCell _ _ _=W5 at k0 k1 k2 P0⊢;refine ⟨rfl,.tuple #[.agg #[.bool false,.int .i64 0,.slice none 0 0],.int .i64 0],by simp[results,go_sem,k0,k1,k2],false,0,none,0,0,[],0,rfl,.inl ⟨h0,rfl,rfl,rfl,rfl⟩,WordsIn.nil_ _,P0⟩
 ·obtain ⟨z0,E2⟩:=Qg0 h0;have WK:=Xh2 E2 h0;clear E2 h0
  by_cases K5:65536<exp
  ·go_enter Tryz.func116,Tryz.ntmps116
   go_wp2_with (refine (Xo0 HP).mono ?_;rintro e w1 ⟨m,k,c',rfl,hk,hD,C0⟩;have Xa:((k:Int)==0)=false:=by { rw[Uk];have:=Q8k hD (Xe1 WK);omega };
                have hN:=(Xe1 HP).step C0 O2;obtain ⟨E4,J1,I1,U4,j3,U3⟩:=hN.cf;have D3:=hN.d1 (.bool false);have Z2:=hN.d2 (.bool false) (.int .i64 0);have I0:=Xh2 hN (Below.next0 (M2 _) C0);clear hN C0 hD)
   have hS:=(Xo0 I0).store (.bool false) (.int .i64 0) (.slice none 0 0);obtain ⟨k0,k1,k2⟩:=hS.cc;have P0:=Q03.below (Xe1 I0) (Ue _) (.bool false) (.int .i64 0) (.slice none 0 0);clear hS E4 J1 I1 U4 j3 U3 D3 Z2;generalize World.setCell _ _ _=W5 at k0 k1 k2 P0⊢;refine ⟨rfl,.tuple #[.agg #[.bool false,.int .i64 0,.slice none 0 0],.int .i64 2],by simp[results,go_sem,k0,k1,k2],false,0,none,0,0,[],2,rfl,.inr ⟨z0,(Xo0 WK),.inl ⟨.inl K5,rfl,rfl,rfl,rfl⟩⟩,WordsIn.nil_ _,P0⟩
  ·obtain ⟨y,hy⟩:∃y:Int,-65536-(z0:Int)=y:=⟨_,rfl⟩;have HY:=Ua hy;clear hy
   by_cases Z3:exp<y
   ·have hx1':exp<=65536:=by omega
    go_enter Tryz.func116,Tryz.ntmps116
    go_wp2_with (first
     |(refine (Xo0 HP).mono ?_;rintro e w1 ⟨m,k,c',rfl,hk,hD,C0⟩;have Xa:((k:Int)==0)=false:=by { rw[Uk];have:=Q8k hD (Xe1 WK);omega };
       have I0:=Xh2 hD C0;clear C0 hD)
     |(refine (Q7b m k c' v _ (Xo0 I0) (by omega) (Xe1 WK)).mono ?_;rintro e w2 ⟨⟨z,rfl,hz,j8⟩,D0⟩;obtain rfl:z0=z:=(Xo0 WK).eq hz;
       have hzw:wrap64 (-65536-(z0:Int))=y:=by { rw[<-HY.out];unfold wrap64;omega };
       have hN:=((Xe1 HP).step (Xe1 I0) O2).step D0 (Uc O2 (Xe1 I0).size);obtain ⟨E4,J1,I1,U4,j3,U3⟩:=hN.cf;have D3:=hN.d1 (.bool false);have Z2:=hN.d2 (.bool false) (.int .i64 0);have E1:=Xh2 hN (Below.next0 (Below.next0 (M2 _) (Xe1 I0)) D0);clear hN D0 hz j8))
    have hS:=(Xo0 E1).store (.bool false) (.int .i64 0) (.slice none 0 0);obtain ⟨k0,k1,k2⟩:=hS.cc;have P0:=Q03.below (Xe1 E1) (Ue _) (.bool false) (.int .i64 0) (.slice none 0 0);clear hS E4 J1 I1 U4 j3 U3 D3 Z2 hzw;generalize World.setCell _ _ _=W5 at k0 k1 k2 P0⊢;refine ⟨rfl,.tuple #[.agg #[.bool false,.int .i64 0,.slice none 0 0],.int .i64 2],by simp[results,go_sem,k0,k1,k2],false,0,none,0,0,[],2,rfl,.inr ⟨z0,(Xo0 WK),.inl ⟨.inr (.inl (by rw[HY.out];exact Z3)),rfl,rfl,rfl,rfl⟩⟩,WordsIn.nil_ _,P0⟩
   ·have hx1':exp<=65536:=(by omega);have hx2':y<=exp:=by omega
    go_enter Tryz.func116,Tryz.ntmps116
    go_wp2_with (first
     |(go_at_call_of 73 a;refine (Xo0 HP).mono ?_;rintro e w1 ⟨m,k,c',rfl,hk,hD,C0⟩;have Xa:((k:Int)==0)=false:=by { rw[Uk];have:=Q8k hD (Xe1 WK);omega };
       have I0:=Xh2 hD C0;clear C0 hD)
     |(go_at_call_of 166 m;refine (Q7b m k c' v _ (Xo0 I0) (by omega) (Xe1 WK)).mono ?_;rintro e w2 ⟨⟨z,rfl,hz,j8⟩,D0⟩;obtain rfl:z0=z:=(Xo0 WK).eq hz;
       have hzw:wrap64 (-65536-(z0:Int))=y:=by { rw[<-HY.out];unfold wrap64;omega };
       have E1:=Xh2 ((Xo0 I0).step D0) D0;clear D0 hz j8)
     |(go_at_call_of 140 neg;refine (Q7t neg m k c' v exp _ (Xo0 E1) (by omega) he Q5).mono ?_;rintro e w3 ⟨neg1,a1,n1,c1,v1,e1,rfl,ho,Wz,E6,Wl,he3,M0⟩;have B3:=Xh3 ho Wz M0;clear ho Wz M0)
     |(refine (Q7u neg1 a1 n1 c1 v1 e1 _ (Xo1 B3) (by omega)).mono ?_;rintro e w4 ⟨neg2,e2,a2,n2,c2,L,er,rfl,Wb,QW,Y2⟩;
       have VG:=Below.next0 (Below.next0 (Below.next0 (Xe1 I0) (Xe1 E1)) (Xe2 B3)) Y2;have hN:=(Xe1 HP).step VG O2;obtain ⟨E4,J1,I1,U4,j3,U3⟩:=hN.cf;have D3:=hN.d1 (.bool neg2);have Z2:=hN.d2 (.bool neg2) (.int .i64 e2);have O4:=Xh4 hN (Below.next0 (M2 _) VG) QW Wb;clear hN Y2 VG QW Wb))
    have hS:=(Xo0 O4).store (.bool neg2) (.int .i64 e2) (.slice a2 n2 c2);obtain ⟨k0,k1,k2⟩:=hS.cc;have P0:=Q03.below (Xo1 O4) (Ue _) (.bool neg2) (.int .i64 e2) (.slice a2 n2 c2);have hW:=(Xo2 O4);have O7:WordsIn _ a2 n2 c2 L:=⟨hW.len,hW.cap,hW.most,hW.low,(hW.rd.store3 (Xo0 O4) (fun _=>by simp[nv]) (fun _=>by simp[nv]) (fun _=>by simp[nv]) (.bool neg2) (.int .i64 e2) (.slice a2 n2 c2)).more (Q1s _ _ _ _ _)⟩;clear hS E4 J1 I1 U4 j3 U3 D3 Z2 hzw hW;generalize World.setCell _ _ _=W5 at k0 k1 k2 P0 O7⊢;refine ⟨rfl,.tuple #[.agg #[.bool neg2,.int .i64 e2,.slice a2 n2 c2],.int .i64 er],by simp[results,go_sem,k0,k1,k2],neg2,e2,a2,n2,c2,L,er,rfl,Qsv (Xo0 B3) (Xe3 O4),O7,P0⟩
theorem Qc3 (neg:Bool) (exp:Int) (a:OA) (n c:Nat) (ls:LN) (neg':Bool) (exp':Int) (b:OA) (m d:Nat) (ks:LN) (w:World) (h1:WordsIn w a n c ls) (h2:WordsIn w b m d ks) (hn:n<=9223372036854775807):
 Calls Tryz.prog 33 #[.agg #[.bool neg,.int .i64 exp,.slice a n c],.agg #[.bool neg',.int .i64 exp',.slice b m d]] w fun e w'=>e=.returned (.bool (decide (neg=neg'/\exp=exp'/\ls=ks)))/\Bw w w':=by
 have C6:=h1.len;have Z6:=h2.len
 by_cases Jc:neg=neg'/\exp=exp'/\n=m
 ·obtain ⟨rfl,rfl,rfl⟩:=Jc;have D4:decide (neg=neg/\exp=exp/\ls=ks)=decide (ls=ks):=by simp
  rw[D4];clear D4;have H1:=Ua h1;have H2:=Ua h2;clear h1 h2
  go_enter Tryz.func33,Tryz.ntmps33
  go_wp2_with fail
  obtain ⟨W2,i5⟩:∃W2,(w.alloc (.cells #[.bool neg,.int .i64 exp,.slice a n c] 26)).alloc (.cells #[.bool neg,.int .i64 exp,.slice b n d] 26)=W2:=⟨_,rfl⟩;have C0:Bw w W2:=by rw[<-i5];exact Below.next0 (Ba) (Ba)
  have F2:(w.alloc (.cells #[.bool neg,.int .i64 exp,.slice a n c] 26)).heap.size=w.heap.size+1:=Array.size_push ..;have K5:=Qbm w neg exp a n c 26;have Z3:=Qbm (w.alloc (.cells #[.bool neg,.int .i64 exp,.slice a n c] 26)) neg exp b n d 26;have Xz:W2.cell? ⟨w.heap.size,2,none⟩=some (.slice a n c):=by
   rw[<-i5];exact ((Below.alloc (Ud _ _) (Ue _) _).cell (p:=⟨w.heap.size,2,none⟩) K5.1).trans K5.2.2.2
  have Xm:W2.cell? ⟨w.heap.size+1,2,none⟩=some (.slice b n d):=by
   rw[<-i5,<-F2];exact Z3.2.2.2
  have V8:w.heap.size+1<W2.heap.size:=by rw[<-i5,<-F2];exact Z3.1
  rw[i5];clear K5 Z3 i5 F2;have HX:=Xh4 Xz Xm C0 V8;clear Xz Xm C0 V8
  go_loopw [5] (fun v wr=>∃i:Nat,v=.int .i64 (i:Int)/\i<=n/\(∀j,j<i->ls[j]?=ks[j]?)/\Bw W2 wr) (fun v _=>n-(intOf v).toNat)
  case atStart=>exact ⟨0,rfl,Uv _,fun j h=>absurd h (Tf _),Ud _ _⟩
  case round=>
   obtain ⟨i,rfl,hi,R2,hb⟩:=hrel;have Y0:Bw w wr:=Below.next0 (Xo2 HX) hb;have J1:wr.cell? ⟨w.heap.size,2,none⟩=some (.slice a n c):=(hb.cell (p:=⟨w.heap.size,2,none⟩) (by have:=(Xe3 HX);show w.heap.size<_;omega)).trans (Xo0 HX);have I1:wr.cell? ⟨w.heap.size+1,2,none⟩=some (.slice b n d):=(hb.cell (p:=⟨w.heap.size+1,2,none⟩) (Xe3 HX)).trans (Xo1 HX)
   by_cases F0:i<n
   ·have G0:(i:Int)<(n:Int):=(by omega);obtain ⟨x,hx⟩:∃x,ls[i]?=some x:=⟨_,Ub (by omega)⟩;obtain ⟨y,hy⟩:∃y,ks[i]?=some y:=⟨_,Ub (by omega)⟩;obtain ⟨g1,o1,rfl,O5,Y4⟩:=(H1.out.rd.below Y0).at_ hx;obtain ⟨g2,o2,rfl,Q2,QV⟩:=(H2.out.rd.below Y0).at_ hy;have HP:=Xh5 R2 hb Y0 hx hy;clear R2 hb Y0 hx hy
    by_cases Jt:x=y
    ·subst Jt
     go_wp2_with fail
     go_quiet (fail)
     go_wp2_with fail
     refine ⟨⟨i+1,by simp,by omega,fun j hj=>?_,Q52 (Xo1 HP) nq⟩,by simp only[intOf];omega⟩
     by_cases hji:j=i
     ·subst hji;rw[(Xo3 HP),(Xe4 HP)]
     ·exact (Xo0 HP) j (by omega)
    ·have hxy':((x:Int)==(y:Int))=false:=(by rw[Uk];omega);have hxy2:((x:Int) != (y:Int))=true:=by simp[bne,hxy']
     go_wp2_with fail
     go_quiet (fail)
     go_wp2_with fail
     go_ret;have C1:¬ls=ks:=fun e=>Jt (by have h1:=(Xo3 HP);have h2:=(Xe4 HP);rw[e,h2] at h1;injection h1 with h1;exact h1.symm);exact ⟨by rw[UU C1];rfl,Q52 (Xo2 HP) nq⟩
   ·obtain rfl:i=n:=(by omega);have G0:¬((i:Int)<(i:Int)):=(by omega);have K8:ls=ks:=Qes (fun j hj=>R2 j (by omega)) (by omega);have HE:=Xh2 K8 Y0;clear K8 Y0 hb R2
    go_wp2_with fail
    go_ret;exact ⟨by rw[UW (Xo0 HE)];rfl,(Xe1 HE)⟩
 ·have D4:decide (neg=neg'/\exp=exp'/\ls=ks)=false:=by
   rw[Tv];rintro ⟨e1,e2,e3⟩;exact Jc ⟨e1,e2,by rw[<-C6,<-Z6,e3]⟩
  rw[D4];have hB:Bw w ((w.alloc (.cells #[.bool neg,.int .i64 exp,.slice a n c] 26)).alloc (.cells #[.bool neg',.int .i64 exp',.slice b m d] 26)):=Below.next0 (Ba) (Ba);have HB:=Ua hB;clear hB D4 h1 h2
  by_cases e1:neg=neg'
  ·subst e1
   by_cases e2:exp=exp'
   ·subst e2;have e3:¬((n:Int)=(m:Int)):=(by intro e;exact Jc ⟨rfl,rfl,by omega⟩);have e3':((n:Int)==(m:Int))=false:=by rw[Uk];exact e3
    go_enter Tryz.func33,Tryz.ntmps33
    go_wp2_with fail
    go_ret;exact ⟨rfl,HB.out⟩
   ·have e2':(exp==exp')=false:=by rw[Uk];exact e2
    go_enter Tryz.func33,Tryz.ntmps33
    go_wp2_with fail
    go_ret;exact ⟨rfl,HB.out⟩
  ·have e1':(neg==neg')=false:=by rw[Uk];exact e1
   go_enter Tryz.func33,Tryz.ntmps33
   go_wp2_with fail
   go_ret;exact ⟨rfl,HB.out⟩
theorem Qpp {ls:LN} {k x:Nat} (hl:ls.length=k+1) (hx:ls[k]?=some x):(trimL ls).length=ls.length↔x≠0:=by
 have he:ls=ls.take k++[x]:=by
  have h1:=Tu (l:=ls) (i:=k);rw[hx,Option.toList_some,<-hl,Tw] at h1;exact h1
 constructor
 ·rintro h rfl;rw[he,Q3t,<-he] at h;have:=trim_len (ls.take k);rw[UR] at this;omega
 ·intro h;rw[he,Q4v _ h]
theorem Q1m (neg:Bool) (exp:Int) (a:OA) (n c:Nat) (ls:LN) (w:World) (h:WordsIn w a n c ls) (he: -9223372036854775808<=exp) (Q5:exp<=9223372036854775807) (hn:n<=9223372036854775807):
 Calls Tryz.prog 25 #[.agg #[.bool neg,.int .i64 exp,.slice a n c]] w fun e w'=>e=.returned (.bool (decide (Q0a neg exp ls)))/\Bw w w':=by
 have P2:=h.len;have M2:∀o,Bw w (w.alloc o):=fun o=>Ba
 by_cases h0:n=0
 ·obtain rfl:ls=[]:=UC.1 (by omega);subst h0;cases neg
  ·go_enter Tryz.func25,Tryz.ntmps25
   go_wp2_with fail
   go_ret;refine ⟨?_,M2 _⟩
   show Ending.returned (.bool _)=_
   congr 2
   by_cases h:exp=0 <;> simp[Q0a,h]
  ·go_enter Tryz.func25,Tryz.ntmps25
   go_wp2_with fail
   go_ret;refine ⟨?_,M2 _⟩
   show Ending.returned (.bool _)=_
   congr 2
 ·obtain ⟨k,rfl⟩:∃k,n=k+1:=⟨n-1,by omega⟩;obtain ⟨x,hx⟩:∃x,ls[0]?=some x:=⟨_,Ub (by omega)⟩;obtain ⟨y,hy⟩:∃y,ls[k]?=some y:=⟨_,Ub (by omega)⟩;have C1:ls≠[]:=fun e=>by rw[e] at hx;simp at hx
  have B4:x<18446744073709551616:=h.low x (Ug hx);have Qk:y<18446744073709551616:=h.low y (Ug hy);have Qa:ls.headD 0=x:=by cases ls with
   |nil=>exact absurd rfl C1
   |cons y r=>simpa using hx
  have B6:bits .and .u64 (x:Int) 1=((x%2:Nat):Int):=by rw[show (1:Int)=((1:Nat):Int) from rfl,u64_and_nat x 1 B4 (by decide),nat_mask1]
  obtain ⟨m,hm⟩:∃m,x%2=m:=⟨_,rfl⟩;rw[hm] at B6;have hN:Q0a neg exp ls↔(y≠0/\k+1<=64/\m=1/\-65536<=exp/\exp<=65536):=by
   unfold Q0a;rw[Uq C1,Qa,hm,Qpp P2 hy,P2]
  have S6:decide (Q0a neg exp ls)=(decide ((k:Int)+1<=64) && ((y:Int) != 0 && ((m:Int)==1 && (decide (-65536<=exp) && decide (exp<=65536))))):=by
   have e64:((k:Int)+1<=64)↔k+1<=64:=(by omega);have e1:((m:Int)==1)=decide (m=1):=by by_cases h:m=1 <;> simp[h] <;> omega
   have e2:((y:Int) != 0)=decide (y≠0):=by by_cases h:y=0 <;> simp[h]
   rw[e1,e2,Xa4];simp only[TU,Xad,e64];rw[hN];exact ⟨fun h=>⟨h.2.1,h.1,h.2.2⟩,fun h=>⟨h.2.1,h.1,h.2.2⟩⟩
  rw[S6];obtain ⟨b,o,j5,K4,Y4⟩:=h.rd.at_ hx;obtain ⟨b2,o2,Zs,hbl2,QV⟩:=h.rd.at_ hy;subst j5;injection Zs with Zs;injection Zs with e1 e2;subst e1 e2;rw[TD] at Y4;have KZ:∀O,(w.alloc O).cell? ⟨b,o,none⟩=some (.int .u64 (x:Int)):=fun O=>((M2 O).cell (p:=⟨b,o,none⟩) K4).trans Y4;have VW:∀O,(w.alloc O).cell? ⟨b,o+k,none⟩=some (.int .u64 (y:Int)):=fun O=>((M2 O).cell (p:=⟨b,o+k,none⟩) K4).trans QV;clear S6 hN hm Qa C1 hx hy h0 Y4 QV h
  by_cases h64:(k:Int)+1<=64
  ·go_enter Tryz.func25,Tryz.ntmps25
   go_wp2_with fail
   all_goals
    go_ret;refine ⟨?_,M2 _⟩
    show Ending.returned (.bool _)=Ending.returned (.bool _)
    clear KZ VW
    congr 2
   all_goals simp_all
   all_goals omega
  ·go_enter Tryz.func25,Tryz.ntmps25
   go_wp2_with fail
   all_goals
    go_ret;refine ⟨?_,M2 _⟩
    show Ending.returned (.bool _)=Ending.returned (.bool _)
    clear KZ VW
    congr 2
   all_goals simp_all
   all_goals omega
def Qpq (b:UInt8):Prop:=48<=b.toNat/\b.toNat<=57
def Qxi (s:ByteArray) (k:Nat):Prop:=k<=s.size/\(∀j (h:j<s.size),j<k->Qpq (s[j]'h))/\∀h:k<s.size,¬Qpq (s[k]'h)
theorem Qpr (s:ByteArray) (w:World) (hs:s.size<=281474976710656):
 Calls Tryz.prog 267 #[.string s] w fun e w'=>(∃k:Nat,e=.returned (.int .i64 (k:Int))/\Qxi s k)/\Bw w w':=by
 go_enter Tryz.func267,Tryz.ntmps267
 go_wp2_with fail
 go_step3
 go_wp2_with fail
 go_step3
 go_wp2_with fail
 go_loopw [3] (fun v wr=>∃k:Nat,v=.int .i64 (k:Int)/\k<=s.size/\(∀j (h:j<s.size),j<k->Qpq (s[j]'h))/\Bw w wr) (fun v _=>s.size-(intOf v).toNat)
 case atStart=>exact ⟨0,rfl,Uv _,fun j _ h=>absurd h (Tf _),Ud _ _⟩
 case round=>
  obtain ⟨k,rfl,hk,R2,hb⟩:=hrel;have HP:=Xh2 R2 hb;clear R2 hb
  by_cases F0:k<s.size
  ·have G0:(k:Int)<(s.size:Int):=by omega
   by_cases h1:(s[k]'F0).toNat<48
   ·have h1':((s[k]'F0).toNat:Int)<48:=by omega
    go_wp2_with fail
    first|rw[Xan]|skip
    go_ret;exact ⟨⟨k,rfl,hk,(Xo0 HP),fun _ h=>by have:=h.1;omega⟩,(Xe1 HP)⟩
   ·have h1':¬((s[k]'F0).toNat:Int)<48:=by omega
    by_cases h2:57<(s[k]'F0).toNat
    ·have Jk:57<((s[k]'F0).toNat:Int):=by omega
     go_wp2_with fail
     first|rw[Xan]|skip
     go_ret;exact ⟨⟨k,rfl,hk,(Xo0 HP),fun _ h=>by have:=h.2;omega⟩,(Xe1 HP)⟩
    ·have Jk:¬57<((s[k]'F0).toNat:Int):=by omega
     go_wp2_with fail
     refine ⟨⟨k+1,by simp,by omega,fun j h hj=>?_,(Xe1 HP)⟩,by simp only[intOf];omega⟩
     by_cases QG:j=k
     ·subst QG;exact ⟨by omega,by omega⟩
     ·exact (Xo0 HP) j h (by omega)
  ·obtain rfl:k=s.size:=(by omega);have G0:¬((s.size:Int)<(s.size:Int)):=by omega
   go_wp2_with fail
   first|rw[Xan]|skip
   go_ret;exact ⟨⟨s.size,rfl,hk,(Xo0 HP),fun h=>absurd h F0⟩,(Xe1 HP)⟩
open DecM
theorem Qf7 (s:ByteArray) (j:Nat) (h:j<s.size):s.data.toList[j]?=some (s[j]'h):=by
 rw[Tr];exact UZ h
theorem Qsw {s:ByteArray} {at_ k:Nat} (h1:at_<=k) (h2:k<=s.size) (hd:∀j (h:j<s.size),at_<=j->j<k->Qpq (s[j]'h)) (hs:∀h:k<s.size,¬Qpq (s[k]'h)):digN (s.data.toList.drop at_)=k-at_:=by
 have hl:s.data.toList.length=s.size:=rfl
 apply Qgm
 ·rw[Th,hl];omega
 ·intro j c hc hj;rw[Xaz] at hc;have hjs:at_+j<s.size:=by omega
  rw[Qf7 s _ hjs] at hc;injection hc with hc;subst hc;exact hd _ hjs (by omega) (by omega)
 ·intro c hc;rw[Xaz,show at_+(k-at_)=k by omega] at hc;have hks:k<s.size:=by
   rw[<-hl];exact (Uh.1 hc).1
  rw[Qf7 s _ hks] at hc;injection hc with hc;subst hc;exact hs hks
theorem Qps {s:ByteArray} {at_:Nat} (h:at_<s.size):(s.data.toList.drop at_).headD 0=s[at_]'h:=by
 have h1:=Qf7 s at_ h;rw[<-List.head?_drop] at h1;rw[List.headD_eq_head?_getD,h1];rfl
end Go.Proofs.YtidojbkhlenahaaGreatDoor
namespace Go.Proofs.YtidojbkhlenahaaGreatDoor
open Go Go.RowKit
section
variable {P:Program} {ops:Array Oper}
def Q09 (ops:Array Oper) (a:Act) (j:Nat):Value:=match (ops[j]?).bind (·.dst) with|some t=>a.tmps.getD t undef|none=>undef
def Q7h (ops:Array Oper) (a0 a:Act):Prop:=a.defers=a0.defers/\a.tmps.size=a0.tmps.size/\∀t,(∀o∈ops.toList,o.dst≠some t)->a.tmps[t]?=a0.tmps[t]?
def Q20 (o:Oper):LN:=(o.after.toList.filter (Region.binds .any)).map (·.on)
def Qjh (S:Nat->Oper->Prop):List Oper->Nat->Prop
 |[],_=>True
 |o::r,k=>S k o/\Qjh S r (k+1)
theorem Qjh.at_ {S:Nat->Oper->Prop} (l:List Oper):∀(k i:Nat) (o:Oper),Qjh S l k->l[i]?=some o->S (k+i) o:=by
 induction l with
 |nil=>intro k i o _ ho;simp at ho
 |cons x r ih=>
  intro k i o h ho;cases i with
  |zero=>
   simp only[UO,Un] at ho;subst ho;exact h.1
  |succ i=>
   have:=ih (k+1) i o h.2 (by simpa using ho);rwa[show k+1+i=k+(i+1) by omega] at this
theorem Qjh.imp {S S':Nat->Oper->Prop} (h:∀k o,S k o->S' k o):∀(l:List Oper) (k:Nat),Qjh S l k->Qjh S' l k
 |[],_,_=>trivial
 |_::r,k,⟨h1,h2⟩=>⟨h _ _ h1,Qjh.imp h r (k+1) h2⟩
def Q0t (vs:Nat->Value):List Oper->Nat->Act->Act
 |[],_,a=>a
 |o::r,k,a=>Q0t vs r (k+1) (a.put o.dst (vs k))
theorem Q80 (a:Act) (t:Tmp) (v:Value):(a.put (some t) v).tmps=a.tmps.setIfInBounds t v:=rfl
theorem Qa7 (a:Act):∀(l:List Oper) (k:Nat) (vs:Nat->Value) (b:Act),(∀(j:Nat) o t,l[j]?=some o->o.dst=some t->t<a.tmps.size/\vs (k+j)=a.tmps.getD t undef)->
 b.defers=a.defers->b.tmps.size=a.tmps.size->(∀t,(∀o∈l,o.dst≠some t)->b.tmps[t]?=a.tmps[t]?)->Q0t vs l k b=a
 |[],_,_,b,_,hd,_,ht=>by
  obtain ⟨bt,bd⟩:=b;obtain ⟨at_,ad⟩:=a;simp only at hd ht;subst hd
  show (Act.mk bt bd)=_
  congr 1
  exact Array.ext_getElem? fun t=>ht t (by simp)
 |o::r,k,vs,b,hs,hd,hz,ht=>by
  have m8:∀(j:Nat) o' t,r[j]?=some o'->o'.dst=some t->t<a.tmps.size/\vs (k+1+j)=a.tmps.getD t undef:=fun j o' t Qe t7=>by
   have:=hs (j+1) o' t (by simpa using Qe) t7;rwa[show k+(j+1)=k+1+j by omega] at this
  cases hto:o.dst with
  |none=>
   have:Q0t vs (o::r) k b=Q0t vs r (k+1) b:=by
    show Q0t vs r (k+1) (b.put o.dst (vs k))=_
    rw[hto];rfl
   rw[this];refine Qa7 a r (k+1) vs b m8 hd hz fun t' ht'=>ht t' fun o' Qe=>?_;rcases UD.1 Qe with rfl|h
   ·rw[hto];simp
   ·exact ht' o' h
  |some t=>
   obtain ⟨J6,hv⟩:=hs 0 o t rfl hto;refine Qa7 a r (k+1) vs (b.put o.dst (vs k)) m8 ?_ ?_ fun t' ht'=>?_
   ·rw[hto];exact hd
   ·rw[hto,Q80,Array.size_setIfInBounds];exact hz
   ·rw[hto,Q80,Xap]
    split
    ·next e=>
     subst e;rw[Uu (by rw[hz];exact J6)];have:vs k=a.tmps.getD t undef:=(by simpa using hv);rw[this,UA,UZ J6];rfl
    ·next e=>
     refine ht t' fun o' Qe=>?_;rcases UD.1 Qe with rfl|h
     ·rw[hto];simpa using e
     ·exact ht' o' h
def Q7i (ops:List Oper) (n:Nat):Bool:=ops.all (fun o=>match o.dst with|some t=>decide (t<n)|none=>true) && (ops.zipIdx.all fun p=>ops.zipIdx.all fun q=>p.2==q.2 || p.1.dst.isNone || !(p.1.dst==q.1.dst)) && (ops.zipIdx.all fun p=>p.1.after.toList.all fun e=>decide (e.on<p.2) || !Region.binds .any e) && ops.all fun o=>match o.op with| .defer _=>false|_=>true
theorem Qmr {l:List Oper} {n:Nat} (h:Q7i l n=true):(∀(i:Nat) o t,l[i]?=some o->o.dst=some t->t<n)/\(∀(i j:Nat) oi oj t,l[i]?=some oi->l[j]?=some oj->oi.dst=some t->oj.dst=some t->i=j)/\(∀(i:Nat) o,l[i]?=some o->∀e∈o.after.toList,Region.binds .any e=true->e.on<i)/\(∀(i:Nat) o,l[i]?=some o->∀c,o.op≠.defer c):=by
 unfold Q7i at h;simp only[Xad] at h;obtain ⟨⟨⟨h1,h2⟩,h3⟩,h4⟩:=h;refine ⟨fun i o t ho hd=>?_,fun i j oi oj t hi hj hdi hdj=>?_,fun i o ho e he hb=>?_,fun i o ho c hc=>?_⟩
 ·have:=Ts.1 h1 o (Ug ho);rw[hd] at this;simpa using this
 ·have hmi:(oi,i)∈l.zipIdx:=by rw[TO];exact hi
  have ZD:(oj,j)∈l.zipIdx:=by rw[TO];exact hj
  have:=Ts.1 (Ts.1 h2 _ hmi) _ ZD;rw[hdi,hdj] at this;simpa using this
 ·have hm:(o,i)∈l.zipIdx:=by
   rw[TO];exact ho
  have:=Ts.1 (Ts.1 h3 _ hm) e he;rw[hb] at this;simpa using this
 ·have:=Ts.1 h4 o (Ug ho);rw[hc] at this;cases this
theorem Q8a:∀(l:List Bool) (i:Nat),l[i]?=some false->(l.set i true).count false+1=l.count false
 |b::r,0,h=>by
  simp only[UO,Un] at h;subst h;simp
 |b::r,i+1,h=>by
  have ih:=Q8a r i (by simpa using h);simp only[Ut,Xbd];omega
theorem Qh0:∀(l:List Bool),l.count false=0->∀(i:Nat),i<l.length->l[i]?=some true:=by
 intro l h i hi;have C1:l[i]?=some l[i]:=Ub hi;cases hb:l[i] with
 |true=>rw[C1,hb]
 |false=>
  have:false∈l:=by rw[<-hb];exact List.getElem_mem hi
  rw[List.count_eq_zero] at h;exact absurd this h
def Q1x (D:Nat->Bool) (k:Nat):Nat->Bool:=fun j=>if j=k then true else D j
def Q24 (vs:Nat->Value) (k:Nat) (v:Value):Nat->Value:=fun j=>if j=k then v else vs j
theorem Q27 (D:Nat->Bool) (k:Nat):Q1x D k k=true:=Uu rfl
abbrev Qji:=(Nat->Bool)->(Nat->Value)->World->Prop
def Q0r (P:Program) (K:Value->World->Prop):Result Next->Prop
 | .ok (.value u) w'=>K u w'
 | .ok (.enter f args) w'=>Calls P f args w' fun e w''=>∃v,e=.returned v/\K v w''
 | .ok .skip w'=>K undef w'
 |_=>False
def Q9c (P:Program) (ops:Array Oper) (I:Qji) (a0:Act) (k:Nat) (o:Oper):Prop:=
 ∀a w D,I D (Q09 ops a) w->Q7h ops a0 a->D k=false->(∀i∈Q20 o,D i=true)->(∀j oj,ops[j]?=some oj->D j=true->∀i∈Q20 oj,D i=true)->
  if Region.wanted o (yielded ops a.tmps) then Q0r P (fun u w'=>I (Q1x D k) (Q24 (Q09 ops a) k u) w') ((execOp a.eval o).run P w) else I (Q1x D k) (Q24 (Q09 ops a) k undef) w
variable {F:Fence} {n:Nat} {Q:Exit->Act->World->Prop}
structure Qf8 (ops:Array Oper) (I:Qji) (a0:Act) (listed:Array Bool) (a:Act) (w:World):Prop where
 inv:I (fun j=>listed.getD j false) (Q09 ops a) w
 agree:Q7h ops a0 a
 size:listed.size=ops.size
 closed:∀j oj,ops[j]?=some oj->listed.getD j false=true->∀i∈Q20 oj,listed.getD i false=true
theorem Qf9 (hF1:∀f,F.fn f) (hF2:F.depth=none) (hF3:∀m f args w R,Calls P f args w R->CallsIn F m P f args w R) (I:Qji) (hN:∀(i:Nat) o,ops[i]?=some o->o.dst=none->∀D vs v w,vs i=undef->I D (Q24 vs i v) w->I D vs w) (a0:Act) (hB:Q7i ops.toList a0.tmps.size=true)
 (step:Qjh (Q9c P ops I a0) ops.toList 0) (fin:∀D vs w,(∀j,j<ops.size->D j=true)->I D vs w->Q .normal (Q0t vs ops.toList 0 a0) w):
 ∀(fuel:Nat) (listed:Array Bool) (a:Act) (w:World),listed.toList.count false<=fuel->Qf8 ops I a0 listed a w->wpAnyIn F n P .any ops Q fuel listed a w:=by
 obtain ⟨D3,Z2,Jb,hd4⟩:=Qmr hB;have done:∀(listed:Array Bool) (a:Act) (w:World),(∀j,j<ops.size->listed.getD j false=true)->Qf8 ops I a0 listed a w->Q .normal a w:=by
  intro listed a w A1 inv;have:=fin _ (Q09 ops a) w A1 inv.inv;rwa[Qa7 a ops.toList 0 (Q09 ops a) a0 (fun j o t ho h1=>?_) inv.agree.1.symm inv.agree.2.1.symm (fun t ht=>(inv.agree.2.2 t ht).symm)] at this;refine ⟨by rw[inv.agree.2.1];exact D3 j o t ho h1,?_⟩;have Qe:ops[j]?=some o:=by rw[<-Tr];exact ho
  unfold Q09;rw[UH,Qe];simp[h1]
 have none_ready:∀(listed:Array Bool),listed.size=ops.size->Region.ready .any ops listed=[]->∀j,j<ops.size->listed.getD j false=true:=by
  intro listed hz hr j
  induction j using Nat.strongRecOn with
  |ind j ih=>
   intro hj;cases hb:listed.getD j false with
   |true=>rfl
   |false=>
    exfalso;have hjl:j<listed.size:=(by omega);have F3:listed.getD j true=false:=by
     rw[UA,UZ hjl] at hb⊢;exact hb
    have ho:ops[j]?=some ops[j]:=UZ hj;have:j∈Region.ready .any ops listed:=mem_ready.2 ⟨F3,ops[j],ho,fun e he D0=>?_⟩
    ·rw[hr] at this;cases this
    ·have F0:=Jb j ops[j] (by rw[Tr];exact ho) e (by simpa using he) D0;exact ih e.on F0 (by omega)
 intro fuel
 induction fuel with
 |zero=>
  intro listed a w hc inv;have A1:∀j,j<ops.size->listed.getD j false=true:=fun j hj=>by
   have:=Qh0 listed.toList (by omega) j (by rw[Xbl,inv.size];exact hj);rw[Tr] at this;rw[UA,this];rfl
  refine ⟨?_,done listed a w A1 inv⟩;refine List.eq_nil_iff_forall_not_mem.2 fun i hi=>?_;obtain ⟨h1,o,ho,_⟩:=mem_ready.1 hi;have hil:i<ops.size:=(Uo.1 ho).1;have h2:=A1 i hil;have Xv:i<listed.size:=by rw[inv.size];exact hil
  rw[UA,UZ Xv] at h1 h2;rw[Xa0] at h1 h2;rw[h1] at h2;cases h2
 |succ fuel ih=>
  intro listed a w hc inv;refine ⟨fun hr=>done listed a w (none_ready listed inv.size hr) inv,fun i hi=>?_⟩;obtain ⟨h1,o,ho,A0⟩:=mem_ready.1 hi;have hil:i<ops.size:=(Uo.1 ho).1;have Xv:i<listed.size:=by rw[inv.size];exact hil
  have hol:ops.toList[i]?=some o:=by rw[Tr];exact ho
  have hif:listed.getD i false=false:=by
   rw[UA,UZ Xv] at h1⊢;exact h1
  have p5:∀j∈Q20 o,listed.getD j false=true:=fun j hj=>by
   obtain ⟨e,he,rfl⟩:=TE.1 hj;obtain ⟨he,hb⟩:=List.mem_filter.1 he;exact A0 e (by simpa using he) hb
  have R0:=Qjh.at_ _ _ _ _ step hol;rw[UH] at R0;have Z1:=R0 a w (fun j=>listed.getD j false) inv.inv inv.agree hif p5 inv.closed;have hlf:listed.toList[i]?=some false:=by
   rw[Tr,UZ Xv];rw[UA,UZ Xv,Xa0] at h1;rw[h1]
  have X6:(listed.setIfInBounds i true).toList.count false<=fuel:=by
   rw[Xav];have:=Q8a listed.toList i hlf;omega
  have hset:(fun j=>(listed.setIfInBounds i true).getD j false)=Q1x (fun j=>listed.getD j false) i:=by
   funext j
   unfold Q1x;rw[UA,Xap]
   by_cases hji:j=i
   ·subst hji;rw[Uu rfl,Uu Xv,Uu rfl];rfl
   ·rw[Uq (fun e=>hji e.symm),Uq hji,<-UA]
  have XW:∀j oj,ops[j]?=some oj->(listed.setIfInBounds i true).getD j false=true->∀k∈Q20 oj,(listed.setIfInBounds i true).getD k false=true:=by
   intro j oj Ku hj k hk;have e1:(listed.setIfInBounds i true).getD j false=Q1x (fun j=>listed.getD j false) i j:=congrFun hset j;have e2:(listed.setIfInBounds i true).getD k false=Q1x (fun j=>listed.getD j false) i k:=congrFun hset k;rw[e1] at hj;rw[e2];unfold Q1x at*
   by_cases hki:k=i
   ·rw[Uu hki]
   ·rw[Uq hki]
    by_cases hji:j=i
    ·subst hji;rw[ho] at Ku;injection Ku with Ku;subst Ku;exact p5 k hk
    ·rw[Uq hji] at hj;exact inv.closed j oj Ku hj k hk
  have next:∀v w',I (Q1x (fun j=>listed.getD j false) i) (Q24 (Q09 ops a) i v) w'->wpAnyIn F n P .any ops Q fuel (listed.setIfInBounds i true) (a.put o.dst v) w':=by
   intro v w' hv;rw[<-hset] at hv;cases hto:o.dst with
   |none=>exact ih _ _ _ X6 ⟨hN i o ho hto _ _ _ _ (by unfold Q09;rw[ho,Xat,hto]) hv,inv.agree,by rw[Array.size_setIfInBounds];exact inv.size,XW⟩
   |some t=>
    have J6:=D3 i o t hol hto;refine ih _ _ _ X6 ⟨?_,?_,by rw[Array.size_setIfInBounds];exact inv.size,XW⟩
    ·have QX:Q09 ops (a.put (some t) v)=Q24 (Q09 ops a) i v:=by
      funext j
      unfold Q24
      by_cases hji:j=i
      ·subst hji;rw[Uu rfl];unfold Q09;rw[ho,Xat,hto]
       show (a.put (some t) v).tmps.getD t undef=v
       rw[Q80,UA,Xap,Uu rfl,Uu (by rw[inv.agree.2.1];exact J6)];rfl
      ·rw[Uq hji];unfold Q09;cases Ku:ops[j]? with
       |none=>rfl
       |some oj=>
        rw[Xat];cases hdj:oj.dst with
        |none=>rfl
        |some t2=>
         show (a.put (some t) v).tmps.getD t2 undef=a.tmps.getD t2 undef
         rw[Q80,UA,Xap,Uq ?_,<-UA];intro e;exact hji (Z2 j i oj o t2 (by rw[Tr];exact Ku) hol hdj (by rw[hto,e]))
     rw[QX];exact hv
    ·refine ⟨inv.agree.1,by rw[Q80,Array.size_setIfInBounds];exact inv.agree.2.1,fun t' ht'=>?_⟩;rw[Q80,Xap,Uq ?_]
     ·exact inv.agree.2.2 t' ht'
     ·intro e;exact ht' o (Ug hol) (by rw[hto,e])
  unfold wpOpIn;simp only[ho]
  split
  ·next hw=>
   rw[Uu hw] at Z1;unfold Oper.wpIn;refine ⟨fun f _=>hF1 f,?_⟩;have hsem:o.semAt F.round a.eval=execOp a.eval o:=by
    cases hr:F.round with
    |none=>rw[Oper.semAt_none]
    |some l=>exact Oper.semAt_some l _ o (hd4 i o hol)
   rw[hsem];generalize (execOp a.eval o).run P w=res at Z1;cases res with
   |ok x w'=>
    cases x with
    |value u=>exact next u w' Z1
    |enter f args=>
     refine ⟨(fun h=>by rw[hF2] at h;cases h),hF3 _ _ _ _ _ (Xa6 Z1 ?_)⟩;rintro e w'' ⟨v,rfl,hv⟩;exact next v w'' hv
    |skip=>
     exact next undef w' Z1
    |_=>exact Z1.elim
   |halt x w'=>exact Z1.elim
  ·next hw=>
   rw[Uq hw] at Z1;exact ⟨fun f _=>hF1 f,next undef w Z1⟩
theorem Qms {l:List Oper} {a0:Act} {I:Qji} {w:World} (h0:I (fun _=>false) (Q09 l.toArray a0) w):Qf8 l.toArray I a0 (Array.replicate l.toArray.size false) a0 w:=
 ⟨by
   have hf:(fun j=>(Array.replicate l.toArray.size false).getD j false)=fun _=>false:=by
    funext j
    rw[UA,Array.getElem?_replicate]
    split <;> rfl
   rw[hf];exact h0,⟨rfl,rfl,fun _ _=>rfl⟩,by simp,fun j oj _ hj=>by
   rw[UA,Array.getElem?_replicate] at hj
   split at hj <;> cases hj⟩
theorem Q7j {id:Nat} {l:List Oper} {a0:Act} {w:World} (hm:P.follows .mixedOrders=true) (I:Qji) (hN:∀(i:Nat) o,l[i]?=some o->o.dst=none->∀D vs v w,vs i=undef->I D (Q24 vs i v) w->I D vs w) (hB:Q7i l a0.tmps.size=true) (h0:I (fun _=>false) (Q09 l.toArray a0) w.drew)
 (step:Qjh (Q9c P l.toArray I a0) l 0) (fin:∀D vs w,(∀j,j<l.length->D j=true)->I D vs w->Q .normal (Q0t vs l 0 a0) w):(Code.region id l.toArray true).wp P Q a0 w:=
 (wpIn_wide (n:=6)).1 (wpIn_region_any hm (Qf9 (fun _=>trivial) rfl (fun m _ _ _ _ h=>callsIn_wide.2 h) I (by simpa using hN) a0 hB (by simpa using step) (by simpa using fin) _ _ _ _ (by simp) (Qms h0)))
def Q1n (P:Program) (E:World->World->Prop) (V:Value->World->Prop) (w:World):Result Next->Prop
 | .ok (.value u) w'=>E w w'/\V u w'
 | .ok (.enter f args) w'=>Calls P f args w' fun e w''=>∃v,e=.returned v/\E w w''/\V v w''
 | .ok .skip w'=>E w w'/\V undef w'
 |_=>False
def Q4i (P:Program) (E:World->World->Prop) (ops:Array Oper) (C:World->Prop) (V:Nat->Value->World->Prop) (a0:Act) (k:Nat) (o:Oper):Prop:=
 ∀a w,C w->Q7h ops a0 a->(∀i∈Q20 o,V i (Q09 ops a i) w)->
  if Region.wanted o (yielded ops a.tmps) then Q1n P E (V k) w ((execOp a.eval o).run P w) else V k undef w
def Q3g (P:Program) (E:World->World->Prop) (ops:Array Oper) (C:World->Prop) (V:Nat->Value->World->Prop) (a0:Act):List Oper->Nat->Prop:=Qjh (Q4i P E ops C V a0)
theorem Q3g.at_ {E:World->World->Prop} {C:World->Prop} {V:Nat->Value->World->Prop} {a0:Act} (l:List Oper) (k i:Nat) (o:Oper) (h:Q3g P E ops C V a0 l k) (ho:l[i]?=some o):Q4i P E ops C V a0 (k+i) o:=Qjh.at_ l k i o h ho
def Qx5 (C:World->Prop) (V:Nat->Value->World->Prop):Qji:=fun D vs w=>C w/\∀j,D j=true->V j (vs j) w
theorem Q9d {E:World->World->Prop} {C:World->Prop} (hC:∀w w',C w->E w w'->C w') {V:Nat->Value->World->Prop} (hV:∀i v w w',V i v w->E w w'->V i v w') {D:Nat->Bool} {vs:Nat->Value} {w w':World} {k:Nat} {u:Value} (h:Qx5 C V D vs w) (hE:E w w') (hu:V k u w'):Qx5 C V (Q1x D k) (Q24 vs k u) w':=by
 refine ⟨hC _ _ h.1 hE,fun j hj=>?_⟩;unfold Q1x at hj;unfold Q24
 split at hj
 ·next e=>rw[Uu e,e];exact hu
 ·next e=>rw[Uq e];exact hV _ _ _ _ (h.2 j hj) hE
theorem Qpt {C:World->Prop} {V:Nat->Value->World->Prop} {i:Nat} (hN:∀v w,V i v w->V i undef w) (D:Nat->Bool) (vs:Nat->Value) (v:Value) (w:World) (hu:vs i=undef) (h:Qx5 C V D (Q24 vs i v) w):Qx5 C V D vs w:=by
 refine ⟨h.1,fun j hj=>?_⟩;have h1:=h.2 j hj;unfold Q24 at h1
 split at h1
 ·next e=>subst e;rw[hu];exact hN _ _ h1
 ·exact h1
theorem Qvm {E:World->World->Prop} (hE:∀w,E w w) {C:World->Prop} (hC:∀w w',C w->E w w'->C w') {V:Nat->Value->World->Prop} (hV:∀i v w w',V i v w->E w w'->V i v w') {a0:Act} (k:Nat) (o:Oper) (h:Q4i P E ops C V a0 k o):Q9c P ops (Qx5 C V) a0 k o:=by
 intro a w D hI E0 _ A0 _;have h1:=h a w hI.1 E0 fun i hi=>hI.2 i (A0 i hi)
 split at h1
 ·next hw=>
  rw[Uu hw];generalize (execOp a.eval o).run P w=res at h1;unfold Q1n at h1;unfold Q0r
  split at h1
  ·exact Q9d hC hV hI h1.1 h1.2
  ·exact Xa6 h1 fun e w2 ⟨v,e1,e2,e3⟩=>⟨v,e1,Q9d hC hV hI e2 e3⟩
  ·exact Q9d hC hV hI h1.1 h1.2
  ·exact h1.elim
 ·next hw=>
  rw[Uq hw];exact Q9d hC hV hI (hE w) h1
theorem Q06 {E:World->World->Prop} (hE:∀w,E w w) {id:Nat} {l:List Oper} {a0:Act} {w:World} (hm:P.follows .mixedOrders=true) (C:World->Prop) (hC:∀w w',C w->E w w'->C w') (V:Nat->Value->World->Prop) (hV:∀i v w w',V i v w->E w w'->V i v w') (hN:∀(i:Nat) o,l[i]?=some o->o.dst=none->∀v w,V i v w->V i undef w) (hB:Q7i l a0.tmps.size=true) (h0:C w.drew)
 (step:Q3g P E l.toArray C V a0 l 0) (fin:∀vs w,C w->(∀j,j<l.length->V j (vs j) w)->Q .normal (Q0t vs l 0 a0) w):(Code.region id l.toArray true).wp P Q a0 w:=
 Q7j hm (Qx5 C V) (fun i o hi hd=>Qpt (hN i o hi hd)) hB ⟨h0,fun _ h=>by cases h⟩ (Qjh.imp (Qvm hE hC hV) l 0 step) fun _ vs w hD h=>fin vs w h.1 fun j hj=>h.2 j (hD j hj)
theorem Q1o {a:Act} {t:Tmp} {v:Value} (h:a.eval (.tmp t)=v):a.tmps[t]?.getD undef=v:=by
 have h':a.tmps.getD t undef=v:=h;rwa[UA] at h'
theorem Qh1 {o:Oper} {a:Act} {j:Nat} {b c:Bool} {t:Tmp} (hg:o.guard=some (j,b)) (ht:(ops[j]?).bind (·.dst)=some t) (he:a.eval (.tmp t)=.bool c):Region.wanted o (yielded ops a.tmps)=(c==b):=by
 have hy:yielded ops a.tmps j=some c:=by
  unfold yielded;rw[ht,Xat];have Vy:a.tmps.getD t undef=.bool c:=he;rw[UA] at Vy;cases hx:a.tmps[t]? with
  |none=>rw[hx] at Vy;cases Vy
  |some v=>rw[hx] at Vy;have h2:v=.bool c:=Vy;rw[h2]
 unfold Region.wanted;rw[hg]
 show (yielded ops a.tmps j==some b)=_
 rw[hy];rfl
theorem Qpu {o:Oper} {a:Act} (hg:o.guard=none):Region.wanted o (yielded ops a.tmps)=true:=by unfold Region.wanted;rw[hg]
theorem Qsx {E:World->World->Prop} {o:Oper} {a:Act} {w:World} {V:Value->World->Prop} {j:Nat} {b:Bool} {t:Tmp} (hg:o.guard=some (j,b)) (ht:(ops[j]?).bind (·.dst)=some t) (he:a.eval (.tmp t)=.bool b) (h:Q1n P E V w ((execOp a.eval o).run P w)):
 if Region.wanted o (yielded ops a.tmps) then Q1n P E V w ((execOp a.eval o).run P w) else V undef w:=by
 rw[Uu (by rw[Qh1 hg ht he];simp)];exact h
theorem Qpv {E:World->World->Prop} {o:Oper} {a:Act} {w:World} {V:Value->World->Prop} {j:Nat} {b:Bool} {t:Tmp} (hg:o.guard=some (j,b)) (ht:(ops[j]?).bind (·.dst)=some t) (he:a.eval (.tmp t)=.bool (!b)) (h:V undef w):
 if Region.wanted o (yielded ops a.tmps) then Q1n P E V w ((execOp a.eval o).run P w) else V undef w:=by
 rw[Uq (by rw[Qh1 hg ht he];cases b <;> simp)];exact h
theorem Q02 {E:World->World->Prop} {o:Oper} {a:Act} {w:World} {V:Value->World->Prop} (hg:o.guard=none) (h:Q1n P E V w ((execOp a.eval o).run P w)):
 if Region.wanted o (yielded ops a.tmps) then Q1n P E V w ((execOp a.eval o).run P w) else V undef w:=by
 rw[Uu (Qpu hg)];exact h
def Q3q (cs:LV) (L:Nat->Option (Value->World->Prop)) (i:Nat) (v:Value) (w:World):Prop:=match L i with|some φ=>φ v w|none=>v=cs.getD i undef
theorem Q0j {cs:LV} {L:Nat->Option (Value->World->Prop)} {i:Nat} {v:Value} {w:World} (h:L i=none):Q3q cs L i v w↔v=cs.getD i undef:=by unfold Q3q;rw[h]
theorem Q00 {cs:LV} {L:Nat->Option (Value->World->Prop)} {i:Nat} {φ:Value->World->Prop} {v:Value} {w:World} (h:L i=some φ):Q3q cs L i v w↔φ v w:=by unfold Q3q;rw[h]
theorem Q7h.keep {a0 a:Act} (h:Q7h ops a0 a) {t:Tmp} {v:Value} (ht:(ops.toList.all fun o=> !(o.dst==some t))=true) (hv:a0.tmps.getD t undef=v):a.eval (.tmp t)=v:=by
 show a.tmps.getD t undef=v
 rw[UA,h.2.2 t ?_,<-UA,hv];intro o ho e;have:=Ts.1 ht o ho;rw[e] at this;simp at this
end
end Go.Proofs.YtidojbkhlenahaaGreatDoor
namespace Go.Proofs.YtidojbkhlenahaaGreatDoor
open Go.RowKit WordsM DecM
theorem Qjj (B m:Nat):val B [m]=m:=by simp[val]
theorem Q9e {P:Program} {ops:Array Oper} {o:Oper} {a:Act} {w:World} {K:Act->World->Prop} {Q:Exit->Act->World->Prop} {E:Prop} (ZA:o.guard=none) (f:FuncId) (args:Array Value)
 (C2:(execOp a.eval o).run P w=.ok (.enter f args) w) (h:Calls P f args w fun e w'=>∃v,e=.returned v/\K (a.put o.dst v) w'):if Region.wanted o (yielded ops a.tmps)=true then Oper.wp P o a w K Q else E:=by
 rw[Uu (by simp[Region.wanted,ZA])];unfold Oper.wp;rw[C2,Oper.upon_enter];exact h.mono (by rintro e w' ⟨v,rfl,hk⟩;exact hk)
theorem Qsy {B:Nat} {w W:World} (h:Below B w W):Below B w W.drew:=⟨h.os,h.tape,h.output,h.size,h.block⟩
theorem Q4y (a:OA) (n c v:Nat) (w:World) (h:Q0v w a n c v) (hn:n<=1000000):
 Calls Tryz.prog 72 #[.slice a n c] w fun e w'=>e=.returned (sv (dec v))/\Bw w w':=by
 have h1:=Qm9 a n c (dig (2^32) v) w h.len hn h.cap h.most h.rd.rdN (show NatM.small (dig (2^32) v) from Q29 (B:=2^32) (by decide) v);rwa[Qoq,Q10 (by decide)] at h1
theorem Q7k (w:World) (m:Nat) (hm:m<18446744073709551616) (T:TypeId):WordsIn (w.alloc (.cells #[.int .u64 (m:Int)] T)) (some ⟨w.heap.size,0,none⟩) 1 1 [m]:=
 ⟨rfl,Ue _,by omega,fun x hx=>by rw[Uy] at hx;subst hx;exact hm,.inr ⟨w.heap.size,0,rfl,Q0o _ _,fun j x hx=>by
   cases j with
   |zero=>simp only[UO,Un] at hx;subst hx;rw[UL _ _ _ _ _ _ (Up _ _)];rfl
   |succ j=>simp at hx⟩⟩
def Q25 (neg:Bool) (exp:Int) (ls:LN):LU:=if Q0a neg exp ls then Q2a neg (val (2^64) ls) exp else []
theorem Q0a.exp {neg:Bool} {exp:Int} {ls:LN} (h:Q0a neg exp ls): -65536<=exp/\exp<=65536/\ls.length<=64:=by
 unfold Q0a at h
 split at h
 ·rename_i h0;rw[h0,h.2];simp
 ·exact ⟨h.2.2.2.1,h.2.2.2.2,h.2.1⟩
theorem Qh2 {w:World} {a:OA} {n c:Nat} {ls:LN} (h:WordsIn w a n c ls) (hn:n<=64):(dec (val (2^64) ls)).length<=1281:=by
 have h1:=NatM.dec_val_len (NatM.halves_small h.low);rw[Qdx,NatM.halves_len,h.len] at h1;exact Uj h1 (by omega)
theorem Qc4 (neg:Bool) (exp:Int) (a:OA) (n c:Nat) (ls:LN) (w:World) (h:WordsIn w a n c ls) (he: -9223372036854775808<=exp) (Q5:exp<=9223372036854775807):
 Calls Tryz.prog 42 #[.agg #[.bool neg,.int .i64 exp,.slice a n c]] w fun e w'=>e=.returned (sv (Q25 neg exp ls))/\Bw w w':=by
 have E3:=Uj h.cap h.most;have M2:Bw w (w.alloc (.cells #[.bool neg,.int .i64 exp,.slice a n c] 26)):=Ba;have hN:=Q03.new w (.bool neg) (.int .i64 exp) (.slice a n c) 26;have O2:=Q0o w (.cells #[.bool neg,.int .i64 exp,.slice a n c] 26);have hr:=Q1m neg exp a n c ls _ (h.step M2) he Q5 E3
 by_cases K1:Q0a neg exp ls
 ·have O8:Q25 neg exp ls=Q2a neg (val (2^64) ls) exp:=Uu K1;rw[O8];have S6:=K1.exp;have WS:n<=64:=by rw[<-h.len];exact S6.2.2
  rw[UW K1] at hr;have hp:=fun W (hb:Bw w W)=>Q3l a n c ls W (h.step hb) (by omega);have hdl:=Qh2 h WS;generalize val (2^64) ls=v at*;have HR:=Xh4 hr hp hN M2;clear hr hp O8 K1 h hN M2
  by_cases h0:exp=0
  ·subst h0;cases neg
   all_goals
    go_enter Tryz.func42,Tryz.ntmps42
    go_wp2_with (first
     |(go_at_call_of 73 a;refine ((Xo1 HR) _ I0.out).mono ?_;rintro e w2 ⟨a2,n2,c2,rfl,C5,hD,D0⟩;have E1:=Xh3 hD D0 C5;clear D0 hD C5)
     |(go_at_call_of 72 a2;refine (Q4y a2 n2 c2 v _ (Xo0 E1) (by have:=(Xe2 E1);omega)).mono ?_;rintro e w3 ⟨rfl,M0⟩;have A2:=Below.next0 (Below.next0 JQ.out (Xo1 E1)) M0;have hQ:=(Xo2 HR).step A2 O2;have J8:=hQ.c0;have O5:=hQ.c1;have B3:=Ua A2;clear M0 A2 hQ)
     |(refine (Xo0 HR).mono ?_;rintro e w1 ⟨rfl,C0⟩;have hQ:=(Xo2 HR).step C0 O2;have Q2:=hQ.c2;have I0:=Ua (Below.next0 (Xe3 HR) C0);have JQ:=Ua C0;clear C0 hQ))
    go_ret;refine ⟨?_,Below.next0 (Xe3 HR) B3.out⟩;refine congrArg Ending.returned (congrArg Value.string (ByteArray.ext ?_));simp[UM,Q2a,Qa3]
  ·obtain ⟨m,hm⟩:∃m:Nat,exp.natAbs=m:=⟨_,rfl⟩;have KQ:0<m:=(by omega);have KC:m<=65536:=(by omega);have KJ:=dec_len 5 m (by omega) (by decide)
   by_cases Q6:exp<0
   ·obtain rfl:exp= -(m:Int):=(by omega);have Wn:m≠0:=(by omega);clear hm he Q5 S6;cases neg
    all_goals
     go_enter Tryz.func42,Tryz.ntmps42
     go_wp2_with (first
      |(go_at_call_of 73 a;refine ((Xo1 HR) _ I0.out).mono ?_;rintro e w2 ⟨a2,n2,c2,rfl,C5,hD,D0⟩;have E1:=Xh3 hD D0 C5;clear D0 hD C5)
      |(go_at_call_of 72 a2;refine (Q4y a2 n2 c2 v _ (Xo0 E1) (by have:=(Xe2 E1);omega)).mono ?_;rintro e w3 ⟨rfl,M0⟩;have A2:=Below.next0 (Below.next0 JQ.out (Xo1 E1)) M0;have hQ:=(Xo2 HR).step A2 O2;have J8:=hQ.c0;have O5:=hQ.c1;have B3:=Ua A2;clear M0 A2 hQ)
      |(refine (Q3l _ 1 1 [m] _ (Q7k _ m (by omega) 83) (by decide)).mono ?_;rintro e w4 ⟨a4,n4,c4,rfl,X9,hD,Y2⟩;rw[Qjj] at hD;have O4:=Xh2 hD Y2;clear Y2 hD)
      |(go_at_call_of 72 a4;refine (Q4y a4 n4 c4 m _ (Xo0 O4) (by omega)).mono ?_;rintro e w5 ⟨rfl,P0⟩;have A4:=Ua (Below.next0 (Below.next0 (Below.next0 B3.out (Ba)) (Xe1 O4)) P0);clear P0)
      |(refine (Xo0 HR).mono ?_;rintro e w1 ⟨rfl,C0⟩;have hQ:=(Xo2 HR).step C0 O2;have Q2:=hQ.c2;have I0:=Ua (Below.next0 (Xe3 HR) C0);have JQ:=Ua C0;clear C0 hQ))
     go_ret;refine ⟨?_,Below.next0 (Xe3 HR) A4.out⟩;refine congrArg Ending.returned (congrArg Value.string (ByteArray.ext ?_));simp[UM,Q2a,Qa3,Wn]
   ·obtain rfl:exp=(m:Int):=(by omega);have Wn:m≠0:=(by omega);clear hm he Q5 S6;cases neg
    all_goals
     go_enter Tryz.func42,Tryz.ntmps42
     go_wp2_with (first
      |(go_at_call_of 73 a;refine ((Xo1 HR) _ I0.out).mono ?_;rintro e w2 ⟨a2,n2,c2,rfl,C5,hD,D0⟩;have E1:=Xh3 hD D0 C5;clear D0 hD C5)
      |(go_at_call_of 72 a2;refine (Q4y a2 n2 c2 v _ (Xo0 E1) (by have:=(Xe2 E1);omega)).mono ?_;rintro e w3 ⟨rfl,M0⟩;have A2:=Below.next0 (Below.next0 JQ.out (Xo1 E1)) M0;have hQ:=(Xo2 HR).step A2 O2;have J8:=hQ.c0;have O5:=hQ.c1;have B3:=Ua A2;clear M0 A2 hQ)
      |(refine (Q3l _ 1 1 [m] _ (Q7k _ m (by omega) 83) (by decide)).mono ?_;rintro e w4 ⟨a4,n4,c4,rfl,X9,hD,Y2⟩;rw[Qjj] at hD;have O4:=Xh2 hD Y2;clear Y2 hD)
      |(go_at_call_of 72 a4;refine (Q4y a4 n4 c4 m _ (Xo0 O4) (by omega)).mono ?_;rintro e w5 ⟨rfl,P0⟩;have A4:=Ua (Below.next0 (Below.next0 (Below.next0 B3.out (Ba)) (Xe1 O4)) P0);clear P0)
      |(refine (Xo0 HR).mono ?_;rintro e w1 ⟨rfl,C0⟩;have hQ:=(Xo2 HR).step C0 O2;have Q2:=hQ.c2;have I0:=Ua (Below.next0 (Xe3 HR) C0);have JQ:=Ua C0;clear C0 hQ))
     go_ret;refine ⟨?_,Below.next0 (Xe3 HR) A4.out⟩;refine congrArg Ending.returned (congrArg Value.string (ByteArray.ext ?_));simp[UM,Q2a,Qa3,Wn]
 ·have O8:Q25 neg exp ls=[]:=Uq K1;rw[O8];rw[UU K1] at hr;have HR:=Xh3 hr hN M2;clear hr O8 K1 h hN M2
  go_enter Tryz.func42,Tryz.ntmps42
  go_wp2_with (refine (Xo0 HR).mono ?_;rintro e w1 ⟨rfl,C0⟩;have I0:=Ua (Below.next0 (Xe2 HR) C0);clear C0)
  go_ret;exact ⟨rfl,I0.out⟩
end Go.Proofs.YtidojbkhlenahaaGreatDoor
