/- Part 6. No condition. -/
import Derived.Sort.QuietTacIn
import Derived.RangeFuncCalls
import Derived.BigRegion
import Derived.Test.YtidojbkhlenahaaGreatDoorPkProblemBack05
set_option maxRecDepth 100000
set_option maxHeartbeats 16000000
namespace Go.Proofs.YtidojbkhlenahaaGreatDoor
open Go.RowKit WordsM
theorem Qyd (x:Nat) (w:World):Calls Tryz.prog 253 #[.int .u64 (x:Int)] w fun e w'=>e=.returned (.bool false)/\w=w':=by
 go_enter Tryz.func253,Tryz.ntmps253
 go_wp2_with fail
 go_ret;exact ⟨by simp,rfl⟩
theorem Qsk (x y:Nat) (w:World):Calls Tryz.prog 205 #[.int .u64 (x:Int),.int .u64 (y:Int)] w fun e w'=>e=.returned (.int .i64 (Lib.compareInt x y))/\w=w':=by
 have hn:=fun x=>Qyd x w
 by_cases h1:(x:Int)<(y:Int)
 ·go_enter Tryz.func205,Tryz.ntmps205
  go_wp2_with (refine (hn _).mono ?_;rintro e w1 ⟨rfl,rfl⟩)
  go_ret;exact ⟨by simp[Lib.compareInt,h1],rfl⟩
 ·by_cases h2:(y:Int)<(x:Int)
  ·go_enter Tryz.func205,Tryz.ntmps205
   go_wp2_with (refine (hn _).mono ?_;rintro e w1 ⟨rfl,rfl⟩)
   go_ret;exact ⟨by rw[Lib.compareInt,Up (by omega),Us (by omega)];rfl,rfl⟩
  ·go_enter Tryz.func205,Tryz.ntmps205
   go_wp2_with (refine (hn _).mono ?_;rintro e w1 ⟨rfl,rfl⟩)
   go_ret;exact ⟨by rw[Lib.compareInt,Up (by omega),Up (by omega)];rfl,rfl⟩
theorem Q1n {B u v:Nat} (hB:2<=B) (h:u<=v):(dig B u).length<=(dig B v).length:=by
 refine Q2q hB (TS h ?_);have h1:=Q2z (B:=B) (by omega) (dig B v) (Q28 hB v);rwa[Q0v hB] at h1
theorem Qgu {B:Nat} (hB:0<B) {A K:LN} {j x y:Nat} (hA:Low B A) (hx:A[j]?=some x) (hy:K[j]?=some y) (hd:A.drop (j+1)=K.drop (j+1)) (E0:x<y):val B A<val B K:=by
 have hja:j<A.length:=(Ul.1 hx).1;have y9:j<K.length:=(Ul.1 hy).1;have h1:=Q3s (B:=B) A j;have h2:=Q3s (B:=B) K j;rw[UG hja,(Ul.1 hx).2] at h1;rw[UG y9,(Ul.1 hy).2,<-hd] at h2;simp only[val] at h1 h2;have h3:=Q2z hB (A.take j) fun z hz=>hA z (TB hz);rw[Tl,Xa4 (by omega)] at h3;generalize val B (A.drop (j+1))=R at*;have h4:B^j*(x+B*R+1)<=B^j*(y+B*R):=Xad _ (by omega);rw[Tv (B^j) (x+B*R) 1,Nat.mul_one] at h4;omega
theorem Q8u (a:OA) (n c:Nat) (ls:LN) (b:OA) (m d:Nat) (ks:LN) (w:World) (h1:WordsIn w a n c ls) (h2:WordsIn w b m d ks) (hn:n<=100000):
 Calls Tryz.prog 149 #[.slice a n c,.slice b m d] w fun e w'=>(∃r:Int,e=.returned (.int .i64 r)/\(r<0↔val (2^64) ls<val (2^64) ks)/\(0<r↔val (2^64) ks<val (2^64) ls)/\-1<=r/\r<=1)/\Bw w w':=by
 have A8:=h1.len;have i7:=h2.len;have Q2:=trim_len ls;have M1:=trim_len ks;have J8:val (2^64) (trimL ls)=val (2^64) ls:=Q1b ls;have i8:val (2^64) (trimL ks)=val (2^64) ks:=Q1b ks;have C3:=Q1l (B:=2^64) (by decide) h1.low;have V2:=Q1l (B:=2^64) (by decide) h2.low;have O1:=fun W (hb:Bw w W)=>Q19 a n c ls W (h1.step hb);have E1:=fun W (hb:Bw w W)=>Q19 b m d ks W (h2.step hb);have G4:=fun W (hb:Bw w W)=>(h1.step hb).trim;have D6:=fun W (hb:Bw w W)=>(h2.step hb).trim;rw[<-J8,<-i8];rw[<-J8] at C3;rw[<-i8] at V2;obtain ⟨A,hA⟩:∃A,trimL ls=A:=⟨_,rfl⟩;obtain ⟨K,hK⟩:∃K,trimL ks=K:=⟨_,rfl⟩;rw[hA] at Q2 O1 G4 C3⊢;rw[hK] at M1 E1 D6 V2⊢;have HC:=Xh2 O1 E1;have HW:=Xh2 G4 D6;have ZG:A.length<K.length->val (2^64) A<val (2^64) K:=fun h=>TI fun G5=>by
  have h3:=Q1n (B:=2^64) (by decide) G5;rw[<-C3,<-V2] at h3;omega
 have Jg:K.length<A.length->val (2^64) K<val (2^64) A:=fun h=>TI fun G5=>by
  have h3:=Q1n (B:=2^64) (by decide) G5;rw[<-C3,<-V2] at h3;omega
 have HL:=Xh2 ZG Jg;clear hA hK J8 i8 O1 E1 G4 D6 h1 h2 C3 V2 ZG Jg
 by_cases Q0:A.length=K.length
 ·have Yw:((A.length:Int) != (K.length:Int))=false:=by rw[Q0];simp
  go_enter Tryz.func149,Tryz.ntmps149
  go_wp2_with (first
   |(go_at_call_of 144 a;refine ((Xo0 HC) _ (Ug _ _)).mono ?_;rintro e w1 ⟨rfl,C0⟩;have K0:=Ub C0;clear C0)
   |(go_at_call_of 144 b;refine ((Xe1 HC) _ K0.out).mono ?_;rintro e w2 ⟨rfl,D0⟩;have F1:=Ub (Below.next0 K0.out D0);clear D0))
  have Wg:=Xh2 ((Xo0 HW) w2 F1.out) ((Xe1 HW) w2 F1.out);clear HW HC HL K0
  go_loopw [5] (fun iv wr=>∃j:Nat,iv=.int .i64 ((j:Int)-1)/\j<=A.length/\A.drop j=K.drop j/\Bw w2 wr) (fun iv _=>(intOf iv+1).toNat)
  case atStart=>exact ⟨A.length,by rw[Q0],Ue _,by rw[List.drop_length,Xbe (by omega)],Ug _ _⟩
  case round=>
   obtain ⟨j,rfl,hj,Jd,hb⟩:=hrel;cases j with
   |zero=>
    have Y4:A=K:=(by simpa using Jd);have X7:=Below.next0 F1.out hb;have HE:=Xh2 Y4 X7;clear Jd Y4 hb X7
    go_wp2_with fail
    go_ret;exact ⟨⟨0,rfl,by rw[(Xo0 HE)];simp,by rw[(Xo0 HE)];simp,by decide,by decide⟩,(Xe1 HE)⟩
   |succ j=>
    obtain ⟨x,hx⟩:∃x,A[j]?=some x:=⟨_,Ua (by omega)⟩;obtain ⟨y,hy⟩:∃y,K[j]?=some y:=⟨_,Ua (by omega)⟩;obtain ⟨g1,o1,U5,R6,u5⟩:=((Xo0 Wg).rd.below hb).at_ hx;obtain ⟨g2,o2,t6,J5,K9⟩:=((Xe1 Wg).rd.below hb).at_ hy;subst U5 t6;have hjI:((j+1:Nat):Int)-1=(j:Int):=(by omega);have hjA:(j:Int)<(A.length:Int):=(by omega);have hjK:(j:Int)<(K.length:Int):=(by omega);have HH:=Xh4 Jd hb hx hy;clear Jd hb hx hy;rw[hjI]
    by_cases Kc:x=y
    ·subst Kc;have Vn:((x:Int) != (x:Int))=false:=by simp
     go_wp2_with fail
     go_quiet (fail)
     go_wp2_with fail
     refine ⟨⟨j,rfl,by omega,?_,⟨(Xo1 HH).os,(Xo1 HH).tape,(Xo1 HH).output,(Xo1 HH).size,(Xo1 HH).block⟩⟩,by simp only[intOf];omega⟩;have h1:=(Xo0 HH);have e1:=(Ul.1 (Xo2 HH));have e2:=(Ul.1 (Xe3 HH));rw[UG e1.1,UG e2.1,e1.2,e2.2,h1]
    ·have Vn:((x:Int) != (y:Int))=true:=(by rw[bne_iff_ne];omega);have hcu:∀W,Calls Tryz.prog 205 #[.int .u64 (x:Int),.int .u64 (y:Int)] W fun e w'=>e=.returned (.int .i64 (Lib.compareInt x y))/\∃n,w'=W.drewN n:=fun W=>(Qsk x y W).mono (by rintro e w' ⟨rfl,rfl⟩;exact ⟨rfl,0,rfl⟩)
     go_wp2_with fail
     go_quiet (fail)
     obtain ⟨W5,N7⟩:∃W5,wr.drewN nq=W5:=⟨_,rfl⟩;have hcx2:W5.cell? ⟨g1,o1+j,none⟩=some (.int .u64 (x:Int)):=(by rw[<-N7,World.cell?_drewN];exact u5);have hcy2:W5.cell? ⟨g2,o2+j,none⟩=some (.int .u64 (y:Int)):=(by rw[<-N7,World.cell?_drewN];exact K9);have Z0:Bw w2 W5:=(by rw[<-N7];exact ⟨(Xo1 HH).os,(Xo1 HH).tape,(Xo1 HH).output,(Xo1 HH).size,(Xo1 HH).block⟩);have S4:=Ub Z0;rw[N7];clear N7 Z0
     go_wp2_with fail
     go_quiet (first|(refine Calls.quiet_of (hcu _)))
     go_wp2_with fail
     go_ret;have X7:=Below.next0 F1.out S4.out;refine ⟨⟨_,rfl,?_⟩,⟨X7.os,X7.tape,X7.output,X7.size,X7.block⟩⟩;unfold Lib.compareInt
     by_cases E0:x<y
     ·have:=Qgu (B:=2^64) (by decide) (Xo0 Wg).low (Xo2 HH) (Xe3 HH) (Xo0 HH) E0;rw[Us (by omega)];exact ⟨⟨fun _=>this,fun _=>by decide⟩,⟨fun h=>by simp at h,fun h=>by omega⟩,by decide,by decide⟩
     ·have:=Qgu (B:=2^64) (by decide) (Xe1 Wg).low (Xe3 HH) (Xo2 HH) (Xo0 HH).symm (by omega);rw[Up (by omega),Us (by omega)];exact ⟨⟨fun h=>by simp at h,fun h=>by omega⟩,⟨fun _=>this,fun _=>by decide⟩,by decide,by decide⟩
 ·have Yw:((A.length:Int) != (K.length:Int))=true:=by rw[bne_iff_ne];omega
  have J3:=fun W=>Tryz.J2n (A.length:Int) (K.length:Int) W
  go_enter Tryz.func149,Tryz.ntmps149
  go_wp2_with (first
   |(go_at_call_of 144 a;refine ((Xo0 HC) _ (Ug _ _)).mono ?_;rintro e w1 ⟨rfl,C0⟩;have K0:=Ub C0;clear C0)
   |(go_at_call_of 144 b;refine ((Xe1 HC) _ K0.out).mono ?_;rintro e w2 ⟨rfl,D0⟩;have F1:=Ub (Below.next0 K0.out D0);clear D0)
   |(refine (J3 _).mono ?_;rintro e w3 ⟨rfl,XA⟩;obtain rfl:=XA.symm))
  go_ret;refine ⟨⟨_,rfl,?_⟩,F1.out⟩;unfold Lib.compareInt
  by_cases E0:A.length<K.length
  ·have:=(Xo0 HL) E0;rw[Us (by omega)];exact ⟨⟨fun _=>this,fun _=>by decide⟩,⟨fun h=>by simp at h,fun h=>by omega⟩,by decide,by decide⟩
  ·have:=(Xe1 HL) (by omega);rw[Up (by omega),Us (by omega)];exact ⟨⟨fun h=>by simp at h,fun h=>by omega⟩,⟨fun _=>this,fun _=>by decide⟩,by decide,by decide⟩
theorem Qaq (a:OA) (n c:Nat) (ls:LN) (b:OA) (m d:Nat) (ks:LN) (w:World) (h1:WordsIn w a n c ls) (h2:WordsIn w b m d ks) (hn:n<=100000):
 Calls Tryz.prog 149 #[.slice a n c,.slice b m d] w fun e w'=>(∃r:Int,e=.returned (.int .i64 r)/\(r<0↔val (2^64) ls<val (2^64) ks)/\(0<r↔val (2^64) ks<val (2^64) ls))/\Bw w w':=
 (Q8u a n c ls b m d ks w h1 h2 hn).mono fun _ _ ⟨⟨r,h1,h2,h3,_⟩,h4⟩=>⟨⟨r,h1,h2,h3⟩,h4⟩
theorem Qsl {d:Nat} (h:d<2^64) (h0:d≠0):dig (2^64) d=[d]:=by rw[Q4c (by decide) h0,Xal h,Xam h,Q0z]
theorem Qgv (w:World) (m:Nat) (hm:m<18446744073709551616) (T:TypeId):WordsIn (w.alloc (.cells #[.int .u64 (m:Int)] T)) (some ⟨w.heap.size,0,none⟩) 1 1 [m]:=
 ⟨rfl,Ue _,by omega,fun x hx=>by rw[Ux] at hx;subst hx;exact hm,.inr ⟨w.heap.size,0,rfl,by rw[Ui];omega,fun j x hx=>by
   cases j with
   |zero=>simp only[UD,Uj] at hx;subst hx;rw[Uv _ _ _ _ _ _ (Um _ _)];rfl
   |succ j=>simp at hx⟩⟩
theorem Qye (B m:Nat):val B [m]=m:=by simp[val]
theorem Qln (a:OA) (n c:Nat) (ls:LN) (b:OA) (cb:Nat) (d:Nat) (w:World) (h1:WordsIn w a n c ls) (h2:WordsIn w b 1 cb [d]) (hn:n<=100000) (hd:9223372036854775808<=d) (x7:val (2^64) ls≠0):
 Calls Tryz.prog 109 #[.slice a n c,.slice b 1 cb] w fun e w'=>∃aq nq cq ar nr cr,e=.returned (.tuple #[.slice aq nq cq,.slice ar nr cr,.bool true])/\WordsIn w' aq nq cq (dig (2^64) (val (2^64) ls / d))/\WordsIn w' ar nr cr (dig (2^64) (val (2^64) ls%d))/\Bw w w'/\∀x,aq=some x->w.heap.size<=x.block:=by
 have hdl:d<18446744073709551616:=h2.low d (by simp);have Q2:=trim_len ls;have A8:=h1.len;have J8:val (2^64) (trimL ls)=val (2^64) ls:=Q1b ls;have htd:trimL [d]=[d]:=by have:=Q54 [] (x:=d) (by omega);simpa using this
 have O1:=fun W (hb:Bw w W)=>Q19 a n c ls W (h1.step hb);have E1:=fun W (hb:Bw w W)=>Q19 b 1 cb [d] W (h2.step hb);rw[htd] at E1;have G4:=fun W (hb:Bw w W)=>(h1.step hb).trim;have D6:=fun W (hb:Bw w W)=>h2.step hb;rw[<-J8] at x7⊢;obtain ⟨A,hA⟩:∃A,trimL ls=A:=⟨_,rfl⟩;rw[hA] at Q2 O1 G4 x7⊢;have HC:=Xh2 O1 E1;have HW:=Xh3 G4 D6 x7;clear hA J8 O1 E1 G4 D6 h1 h2 htd x7;have hlen1:([d]:LN).length=1:=rfl;rw[hlen1] at HC
 by_cases E0:val (2^64) A<d
 ·have HQ:=Xh3 (Xam E0) (Xal E0) E0;clear E0
  go_enter Tryz.func109,Tryz.ntmps109
  go_wp2_with (first
   |(go_at_call_of 144 a;refine ((Xo0 HC) _ (Ug _ _)).mono ?_;rintro e w1 ⟨rfl,C0⟩;have K0:=Ub C0;clear C0)
   |(go_at_call_of 144 b;refine ((Xe1 HC) _ K0.out).mono ?_;rintro e w2 ⟨rfl,D0⟩;have F1:=Ub (Below.next0 K0.out D0);clear D0)
   |(go_at_call_of 149 a;refine (Qaq a A.length c A b 1 cb [d] _ ((Xo0 HW) _ F1.out) ((Xo1 HW) _ F1.out) (by omega)).mono ?_;rintro e w3 ⟨⟨r,rfl,I2,X0⟩,G0⟩;rw[Qye] at I2;have u4:r<0:=I2.2 (Xe2 HQ);have E3:=Ub (Below.next0 F1.out G0);clear G0 I2 X0)
   |(refine (Qlm a A.length c A _ ((Xo0 HW) _ E3.out) (by omega) (Xe2 HW)).mono ?_;rintro e w4 ⟨a4,n4,c4,rfl,I8,F2⟩;have M5:=Xh2 I8 (Below.next0 E3.out F2);clear I8 F2))
  refine ⟨rfl,.tuple #[.slice none 0 0,.slice a4 n4 c4,.bool true],by simp[results,go_sem],none,0,0,a4,n4,c4,rfl,?_,?_,(Xe1 M5),fun x e=>by cases e⟩
  ·rw[(Xo0 HQ)];exact ⟨rfl,Ue _,by omega,fun x hx=>by simp[Q0z] at hx,.inl rfl⟩
  ·rw[(Xo1 HQ)];exact (Xo0 M5)
 ·have G5:d<=val (2^64) A:=by omega
  have HQ:=Ub G5;have HV:=Ub E0;clear E0 G5;obtain ⟨rm,hrm⟩:∃rm,val (2^64) A%d=rm:=⟨_,rfl⟩;have XL:rm<18446744073709551616:=by rw[<-hrm];exact Nat.lt_trans (TK _ (by omega)) hdl
  have HRM:=Ub hrm;clear hrm
  go_enter Tryz.func109,Tryz.ntmps109
  go_wp2_with (first
   |(go_at_call_of 144 a;refine ((Xo0 HC) _ (Ug _ _)).mono ?_;rintro e w1 ⟨rfl,C0⟩;have K0:=Ub C0;clear C0)
   |(go_at_call_of 144 b;refine ((Xe1 HC) _ K0.out).mono ?_;rintro e w2 ⟨rfl,D0⟩;have F1:=Ub (Below.next0 K0.out D0);clear D0)
   |(go_at_call_of 149 a;refine (Qaq a A.length c A b 1 cb [d] _ ((Xo0 HW) _ F1.out) ((Xo1 HW) _ F1.out) (by omega)).mono ?_;rintro e w3 ⟨⟨r,rfl,I2,X0⟩,G0⟩;rw[Qye] at I2;have u4:¬r<0:=fun h=>HV.out (I2.1 h);have E3:=Ub (Below.next0 F1.out G0);
     obtain ⟨gb,ob,t6,Vi,hcb⟩:=((Xo1 HW) _ E3.out).rd.at_ (k:=0) (x:=d) rfl;rw[Tz] at hcb;subst t6;clear G0 I2 X0)
   |(go_at_call_of 158 a;have O0:=Qpe a A.length c A d w3 ((Xo0 HW) _ E3.out) (by omega) hd hdl;rw[HRM.out] at O0;refine O0.mono ?_;rintro e w4 ⟨a4,n4,c4,rfl,I8,F2,E7⟩;have M5:=Xh3 I8 (Below.next0 E3.out F2) (fun x (e:a4=some x)=>Un E3.out.size (E7 x e));clear I8 F2 O0 E7)
   |(refine (Q19 _ 1 1 [rm] _ (Qgv w4 rm XL 83)).mono ?_;rintro e w5 ⟨rfl,Z0⟩;have S4:=Ub Z0;clear Z0))
  have F3:=Below.next0 ((Ug _ _).alloc (Ue _) (.cells #[.int .u64 (rm:Int)] 83)) S4.out;have Qm:=((Qgv w4 rm XL 83).step S4.out).trim;have WN:=Q1l (B:=2^64) (by decide) (Qgv w4 rm XL 83).low;rw[Qye] at WN;rw[WN] at Qm;refine ⟨rfl,.tuple #[.slice a4 n4 c4,.slice (some ⟨w4.heap.size,0,none⟩) (trimL [rm]).length 1,.bool true],by simp[results,go_sem],a4,n4,c4,_,_,_,rfl,(Xo0 M5).step F3,?_,Below.next0 (Xo1 M5) F3,(Xe2 M5)⟩;rw[HRM.out,WN];exact Qm
section
variable {w w':World} {B:Nat} {e:TypeId} {k:Nat} {g n c:Nat} {xs:LV}
theorem Row.cell0 (h:Row w B e k (some ⟨g,0,none⟩) n c xs) {j:Nat} {x:Value} (hx:xs[j]?=some x):w.cell? ⟨g,j,none⟩=some x:=by
 obtain ⟨g',e1,_,_,hc⟩:=h.at_ hx;injection e1 with e1;injection e1 with e1;subst e1;exact hc
theorem Row.frozen0 (h:Row w B e k (some ⟨g,0,none⟩) n c xs) (i:Nat):w.frozen? ⟨g,i,none⟩=false:=by
 rcases h.form with ⟨h0,_⟩|⟨g',cur,e1,_,_,hh,_⟩
 ·cases h0
 ·injection e1 with e1;injection e1 with e1;subst e1;exact TC _ _ _ _ _ hh
theorem Row.set0 (h:Row w B e k (some ⟨g,0,none⟩) n c xs) (i:Nat) (u:Value):Row (w.setCell ⟨g,i,none⟩ u) B e k (some ⟨g,0,none⟩) n c (xs.set i u):=by
 rcases h.form with ⟨h0,_⟩|⟨g',cur,e1,hB,hg,hh,hn,hc,hs,ht⟩
 ·cases h0
 ·injection e1 with e1;injection e1 with e1;subst e1;refine ⟨by rw[Tk];exact h.1,.inr ⟨g,c,cur.setIfInBounds i u,rfl,hB,heap_setCell_same _ _ _ _ _ _ hh,hn,hc,by simpa using hs,?_⟩⟩;rw[Array.toList_setIfInBounds,List.take_set,ht]
theorem Row.fresh (h:Row w B e k (some ⟨g,0,none⟩) n c xs):B<=g/\g<w.heap.size:=by
 rcases h.form with ⟨h0,_⟩|⟨g',cur,e1,hB,hg,_⟩
 ·cases h0
 ·injection e1 with e1;injection e1 with e1;subst e1;exact ⟨hB,hg⟩
end
theorem Row.words {w:World} {B:Nat} {a:OA} {n c:Nat} {L:LN} (h:Row w B 83 1 a n c (L.map (nv .u64))) (hl:Low (2^64) L):WordsIn w a n c L:=
 ⟨by have:=h.len;simpa using this,h.cap.1,by have:=h.cap.2;simpa[maxLen] using this,hl,Row.rdI h⟩
theorem Row.setW {w:World} {B g n c:Nat} {L:LN} (h:Row w B 83 1 (some ⟨g,0,none⟩) n c (L.map (nv .u64))) (i x:Nat):Row (w.setCell ⟨g,i,none⟩ (.int .u64 (x:Int))) B 83 1 (some ⟨g,0,none⟩) n c ((L.set i x).map (nv .u64)):=by
 rw[List.map_set];exact h.set0 i _
theorem Qlo (a:OA) (n c:Nat) (ls:LN) (w:World) (h:WordsIn w a n c ls) (hn:n<=1000000) (h0:val (2^64) ls≠0):
 Calls Tryz.prog 146 #[.slice a n c] w fun e w'=>∃g c',e=.returned (.slice (some ⟨g,0,none⟩) (trimL ls).length c')/\Row w' w.heap.size 83 1 (some ⟨g,0,none⟩) (trimL ls).length c' ((trimL ls).map (nv .u64))/\Bw w w':=by
 have hc:=Q19 a n c ls w h;have hT:=fun W (hb:Bw w W)=>(h.step hb).trim;have Q0:trimL ls≠[]:=fun e=>h0 (by rw[<-Q1b ls,e];rfl);have P6:=trim_len ls;have G3:=h.len;obtain ⟨b,o,rfl⟩:∃b o,a=some ⟨b,o,none⟩:=by
  rcases (hT w (Ug _ _)).rd with e|⟨b,o,e,_⟩
  ·exact absurd e Q0
  ·exact ⟨b,o,e⟩
 obtain ⟨D,hD⟩:∃D,trimL ls=D:=⟨_,rfl⟩;rw[hD] at hc hT P6 Q0⊢;obtain ⟨i0,E2,P1,G1,K1⟩:∃i0:TypeInfo,Tryz.prog.info? 83=some i0/\i0.zero=some (.int .u64 0)/\i0.size=1/\i0.bytes=8:=by
  have:=Q4x;cases hi:Tryz.prog.info? 83 with
  |none=>rw[hi] at this;cases this
  |some i0=>
   rw[hi] at this;simp only[Uz,Uj,Xas] at this;exact ⟨i0,rfl,this.1,this.2.1,this.2.2⟩
 have C2:=fun W (hW:WordsIn W (some ⟨b,o,none⟩) D.length c D)=>Tryz.J49 i0 (.int .u64 0) 1 8 E2 P1 G1 K1 rfl (by decide) Qgf b o D.length c (D.map (nv .u64)) W (by simp) (by unfold maxLen;omega) (by omega) (fun j u hu=>by
  rw[UP] at hu;cases hx:D[j]? with
  |none=>rw[hx] at hu;cases hu
  |some x=>
   rw[hx] at hu;simp only[Uz,Uj] at hu;subst hu;obtain ⟨b',o',e,_,D7⟩:=hW.rd.at_ hx;injection e with e;injection e with e1 e2;subst e1 e2;exact D7) (Qrj _ _)
 have HC:=Xh3 hc hT C2;have HN:=Ub Q0;clear hc hT C2 h E2 P1 G1 K1 h0 hD Q0
 go_enter Tryz.func146,Tryz.ntmps146
 go_wp2_with (first
  |(go_at_call_of 144 (some ⟨b,o,none⟩:OA);refine (Xo0 HC).mono ?_;rintro e w1 ⟨rfl,C0⟩;have K0:=Ub C0;clear C0)
  |(refine ((Xe2 HC) _ ((Xo1 HC) _ K0.out)).mono ?_;rintro e w2 ⟨v',rfl,J4,KL,D0⟩;have F1:=Xh3 J4 KL D0;clear J4 KL D0))
 go_ret;obtain ⟨hl,⟨e,_⟩|⟨g,cap,cur,rfl,y8,hg,hnc,J3,G8,V5⟩⟩:=(Xo0 F1)
 ·exact absurd e (Xo1 F1)
 ·have hr:Row w2 w1.heap.size 83 1 (some ⟨g,0,none⟩) D.length cap (D.map (nv .u64)):=⟨hl,.inr ⟨g,cap,cur,rfl,y8,hg,hnc,J3,G8,V5⟩⟩;exact ⟨_,_,rfl,hr.lower K0.out.size,Below.next0 K0.out (Xe2 F1)⟩
theorem Qik (x y b:Nat) (hb:b<=1) (w:World):
 (callFunc 257 #[.int .u64 x,.int .u64 y,.int .u64 b]).run Tryz.prog w=
   .ok (.value (.tuple #[.int .u64 (((x+18446744073709551616-y-b)%18446744073709551616:Nat):Int),.int .u64 ((if x<y+b then 1 else 0:Nat):Int)])) w:=by
 rw[run_callFunc_extern Tryz.func257 (by kernel_rfl) (by kernel_rfl) (by kernel_rfl) (e:=sub64Entry) (by kernel_rfl),run_sub64 x y b hb];rfl
theorem Qnr {B:Nat} {L:LN} {i x y b b' d V T:Nat} (hx:L[i]?=some x) (h:val B L+T=V+b*B^i) (hd:x+b'*B=y+b+d):val B (L.set i d)+(T+B^i*y)=V+b'*B^(i+1):=by
 have h1:=Qaf (B:=B) L i d x hx;have h2:(x+b'*B)*B^i=(y+b+d)*B^i:=by rw[hd]
 rw[Tm,Tm,Tm] at h2;rw[Tf,UC (B^i) y,UC (B^i) B,<-UL];omega
theorem Qil (x y b:Nat) (hx:x<18446744073709551616) (hy:y<18446744073709551616) (hb:b<=1):∃d b',(x+18446744073709551616-y-b)%18446744073709551616=d/\(if x<y+b then 1 else 0)=b'/\b'<=1/\d<18446744073709551616/\x+b'*2^64=y+b+d:=by
 refine ⟨_,_,rfl,rfl,by split <;> omega,TK _ (by decide),?_⟩
 show x+(if x<y+b then 1 else 0)*18446744073709551616=_
 split <;> omega
theorem Qar (a:OA) (n c:Nat) (ls:LN) (b:OA) (m d:Nat) (ks:LN) (w:World) (h1:WordsIn w a n c ls) (h2:WordsIn w b m d ks) (hn:n<=100000) (h0:val (2^64) ls≠0):
 Calls Tryz.prog 241 #[.slice a n c,.slice b m d] w fun e w'=>∃a' n' c' ok,e=.returned (.tuple #[.slice a' n' c',.bool ok])/\ok=decide (val (2^64) ks<=val (2^64) ls)/\(ok=true->WordsIn w' a' n' c' (dig (2^64) (val (2^64) ls-val (2^64) ks)))/\Bw w w':=by
 have A8:=h1.len;have i7:=h2.len;have J3:=Qaq a n c ls b m d ks w h1 h2 hn;have H1:=Ub h1;have H2:=Ub h2;clear h1 h2
 by_cases E0:val (2^64) ls<val (2^64) ks
 ·have KZ:Calls Tryz.prog 149 #[.slice a n c,.slice b m d] w fun e w'=>(∃r:Int,e=.returned (.int .i64 r)/\r<0)/\Bw w w':=by
   refine J3.mono ?_;rintro e w' ⟨⟨r,rfl,h3,_⟩,hb⟩;exact ⟨⟨r,rfl,h3.2 E0⟩,hb⟩
  have HC:=Xh2 KZ E0;clear J3 KZ E0
  go_enter Tryz.func241,Tryz.ntmps241
  go_wp2_with fail
  go_step3
  go_wp2_with (refine (Xo0 HC).mono ?_;rintro e w1 ⟨⟨r,rfl,hr⟩,C0⟩;have K0:=Ub C0;clear C0)
  rw[Xab];refine ⟨rfl,.tuple #[.slice none 0 0,.bool false],by simp[results,go_sem],none,0,0,false,rfl,by rw[eq_comm,TX];exact Nat.not_le.2 (Xe1 HC),fun h=>(by cases h),K0.out⟩
 ·have KZ:Calls Tryz.prog 149 #[.slice a n c,.slice b m d] w fun e w'=>(∃r:Int,e=.returned (.int .i64 r)/\¬r<0)/\Bw w w':=by
   refine J3.mono ?_;rintro e w' ⟨⟨r,rfl,h3,_⟩,hb⟩;exact ⟨⟨r,rfl,fun h=>E0 (h3.1 h)⟩,hb⟩
  have G5:val (2^64) ks<=val (2^64) ls:=Nat.not_lt.1 E0;have Qm:=fun W (hb:Bw w W)=>Qlo a n c ls W (H1.out.step hb) (by omega) h0;have P6:=trim_len ls;have V5:=trim_len ks;have HC:=Xh3 KZ G5 Qm;clear J3 KZ E0 G5 Qm
  go_enter Tryz.func241,Tryz.ntmps241
  go_wp2_with fail
  go_step3
  go_wp2_with (first
   |(go_at_call_of 149 a;refine (Xo0 HC).mono ?_;rintro e w1 ⟨⟨r,rfl,hr⟩,C0⟩;have K0:=Ub C0;clear C0)
   |(go_at_call_of 146 a;refine ((Xe2 HC) w1 K0.out).mono ?_;rintro e w2 ⟨g,c2,rfl,X0,D0⟩;have F1:=Xh2 (X0.lower K0.out.size) (Below.next0 K0.out D0);clear X0 D0)
   |(go_at_call_of 144 b;refine (Q19 b m d ks _ (H2.out.step (Xe1 F1))).mono ?_;rintro e w3 ⟨rfl,G0⟩;have E3:=Xh2 ((Xo0 F1).call G0) (Below.next0 (Xe1 F1) G0);clear G0))
  have KU:=Qgd H1.out.low;have hK:=(H2.out.step (Xe1 E3)).trim;have JL:=Q1b (B:=2^64) ls;have JC:=Q1b (B:=2^64) ks;have E7:=(Xo0 E3).fresh;obtain ⟨A,hA⟩:∃A,trimL ls=A:=⟨_,rfl⟩;obtain ⟨K,hKe⟩:∃K,trimL ks=K:=⟨_,rfl⟩;rw[hA] at KU JL P6 E3;rw[hKe] at hK JC V5;have hkr:=H2.out.rd.step (Xe1 E3);have HA:=Xh4 KU JL JC hK.low;have HS:=Xh3 (Xo0 E3) (Xe1 E3) E7;have hKrd:RdI .u64 w w.heap.size b K:=by
   rw[<-hKe,<-Q4f ks];exact H2.out.rd.front _
  have HK:=Ub hKrd;have hKA:K.length<=A.length:=by
   rw[<-hA,<-hKe,Q1l (by decide) H1.out.low,Q1l (by decide) H2.out.low];exact Qb5 (by decide) (Xo1 HC)
  have Vy:=Ub (Xo1 HC);rw[hA,hKe];clear KU hK JL JC E7 hkr hKrd K0 F1 E3 HC hA hKe
  go_loopw [7,20] (fun cv iv wr=>∃(i br:Nat) (L:LN),cv=.int .u64 (br:Int)/\iv=.int .i64 (i:Int)/\i<=K.length/\br<=1/\Row wr w.heap.size 83 1 (some ⟨g,0,none⟩) A.length c2 (L.map (nv .u64))/\L.length=A.length/\Low (2^64) L/\val (2^64) L+val (2^64) (K.take i)=val (2^64) A+br*(2^64)^i/\Bw w wr) (fun _ iv _=>K.length-(intOf iv).toNat)
  case atStart=>exact ⟨0,0,A,rfl,rfl,Ut _,Ut _,(Xo0 HS),rfl,(Xo0 HA),by simp[val],(Xo1 HS)⟩
  case round=>
   obtain ⟨i,br,L,rfl,rfl,hi,C1,hL,o4,S0,M0,O0⟩:=hrel
   by_cases E0:i<K.length
   ·have J0:(i:Int)<(K.length:Int):=(by omega);obtain ⟨x,hx⟩:∃x,L[i]?=some x:=⟨_,Ua (by omega)⟩;obtain ⟨y,hy⟩:∃y,K[i]?=some y:=⟨_,Ua (by omega)⟩;obtain ⟨b2,o2,rfl,D0,K9⟩:=(HK.out.below O0).at_ hy;have D4:x<18446744073709551616:=S0 x (Uf hx);have Qo:y<18446744073709551616:=(Xe3 HA) y (Uf hy);obtain ⟨z,c3,hz,Zz,hc3l,m8,hsd⟩:=Qil x y br D4 Qo C1;have o7:=fun W=>Qik x y br C1 W;rw[hz,Zz] at o7;have R2:=Qnr hx M0 hsd;have Zw:=Ub R2;clear hz Zz R2 hsd;have R0:=Row.cell0 hL (j:=i) (x:=.int .u64 (x:Int)) (by rw[UP,hx];rfl);have cx:wr.drew.cell? ⟨g,i,none⟩=some (.int .u64 (x:Int)):=R0;have cy:wr.drew.cell? ⟨b2,o2+i,none⟩=some (.int .u64 (y:Int)):=K9;have fx:wr.drew.frozen? ⟨g,i,none⟩=false:=hL.frozen0 i;have hiA:(i:Int)<(A.length:Int):=(by omega);have HH:=Xh4 hL S0 O0 hy;clear hL S0 M0 O0 hx hy K9 R0
    go_wp2_with fail
    go_region_law (fail)
    all_goals go_wp2_with fail
    all_goals
     obtain ⟨hL,S0,O0,hy⟩:=HH.out;refine ⟨⟨i+1,c3,L.set i z,rfl,by simp,by omega,hc3l,hL.setW i z,by simp[o4],Q43 S0 m8,?_,(O0.setCell (p:=⟨g,i,none⟩) (Xo2 HS) _).drew⟩,by simp only[intOf];omega⟩;rw[Q1c K i y hy,Zw.out]
   ·obtain rfl:i=K.length:=(by omega);have J0:¬((K.length:Int)<(K.length:Int)):=(by omega);rw[Tn] at M0;have HH:=Xh4 hL S0 M0 O0;clear hL S0 M0 O0
    go_wp2_with fail
    go_step3
    go_wp2_with fail
    go_loopw [7,9] (fun cv iv wr=>∃(j br:Nat) (L:LN),cv=.int .u64 (br:Int)/\iv=.int .i64 (j:Int)/\j<=A.length/\br<=1/\Row wr w.heap.size 83 1 (some ⟨g,0,none⟩) A.length c2 (L.map (nv .u64))/\L.length=A.length/\Low (2^64) L/\val (2^64) L+val (2^64) K=val (2^64) A+br*(2^64)^j/\Bw w wr) (fun _ iv _=>A.length-(intOf iv).toNat)
    case atStart=>exact ⟨K.length,br,L,rfl,rfl,hKA,C1,(Xo0 HH),o4,(Xo1 HH),(Xo2 HH),(Xe3 HH)⟩
    case round=>
     clear o4 C1 HH;obtain ⟨j,br,L,rfl,rfl,hj,C1,hL,o4,S0,M0,O0⟩:=hrel
     by_cases U3:j<A.length/\br=1
     ·obtain ⟨E0,rfl⟩:=U3;have J0:(j:Int)<(A.length:Int):=(by omega);obtain ⟨x,hx⟩:∃x,L[j]?=some x:=⟨_,Ua (by omega)⟩;have D4:x<18446744073709551616:=S0 x (Uf hx);obtain ⟨z,c3,hz,Zz,hc3l,m8,hsd⟩:=Qil x 0 1 D4 (by decide) (by decide);have o7:∀W,(callFunc 257 #[.int .u64 (x:Int),.int .u64 0,.int .u64 1]).run Tryz.prog W=.ok (.value (.tuple #[.int .u64 (z:Int),.int .u64 (c3:Int)])) W:=fun W=>by
       have:=Qik x 0 1 (by decide) W;rw[hz,Zz] at this;exact this
      have R2:=Qnr hx M0 hsd;rw[Nat.mul_zero,Tz] at R2;have cx:wr.cell? ⟨g,j,none⟩=some (.int .u64 (x:Int)):=Row.cell0 hL (j:=j) (x:=.int .u64 (x:Int)) (by rw[UP,hx];rfl);have fx:wr.frozen? ⟨g,j,none⟩=false:=hL.frozen0 j;have Zw:=Xh4 R2 hL S0 O0;clear hz Zz R2 hL S0 M0 O0 hx hsd
      go_wp2_with fail
      exact ⟨⟨j+1,c3,L.set j z,rfl,by simp,by omega,hc3l,(Xo1 Zw).setW j z,by simp[o4],Q43 (Xo2 Zw) m8,(Xo0 Zw),(Xe3 Zw).setCell (p:=⟨g,j,none⟩) (Xo2 HS) _⟩,by simp only[intOf];omega⟩
     ·have X1:br=0:=by
       rcases Nat.lt_or_ge br 1 with h|h
       ·omega
       ·exfalso;obtain rfl:br=1:=(by omega);obtain rfl:j=A.length:=by
         refine Nat.le_antisymm hj (Nat.not_lt.1 fun h'=>U3 ⟨h',rfl⟩)
        have h1:=Q2z (B:=2^64) (by decide) L S0;rw[o4] at h1;have h2:=Vy.out;rw[<-(Xo1 HA),<-(Xo2 HA)] at h2;omega
      subst X1;rw[Xaa,Tz] at M0;have ZE:val (2^64) L=val (2^64) ls-val (2^64) ks:=(by rw[<-(Xo1 HA),<-(Xo2 HA)];omega);have hW:=hL.words S0;have Z4:trimL L=dig (2^64) (val (2^64) ls-val (2^64) ks):=(by rw[Q1l (by decide) S0,ZE]);have P2:(true:Bool)=decide (val (2^64) ks<=val (2^64) ls):=(UQ Vy.out).symm;have HE:=Xh4 hW O0 Z4 P2;clear ZE hW O0 Z4 P2 M0 hL S0 U3
      by_cases E0:j<A.length
      ·have J0:(j:Int)<(A.length:Int):=by omega
       go_wp2_with (refine (Q19 _ _ _ _ _ (Xo0 HE)).mono ?_;rintro e w5 ⟨rfl,Z0⟩;have S4:=Ub Z0;clear Z0)
       rw[Xab];have N3:=((Xo0 HE).step S4.out).trim;rw[(Xo2 HE)] at N3⊢;exact ⟨rfl,.tuple #[.slice (some ⟨g,0,none⟩) (dig (2^64) (val (2^64) ls-val (2^64) ks)).length c2,.bool true],by simp[results,go_sem],_,_,_,true,rfl,(Xe3 HE),fun _=>N3,Below.next0 (Xo1 HE) S4.out⟩
      ·obtain rfl:j=A.length:=(by omega);have J0:¬((A.length:Int)<(A.length:Int)):=by omega
       go_wp2_with (refine (Q19 _ _ _ _ _ (Xo0 HE)).mono ?_;rintro e w5 ⟨rfl,Z0⟩;have S4:=Ub Z0;clear Z0)
       rw[Xab];have N3:=((Xo0 HE).step S4.out).trim;rw[(Xo2 HE)] at N3⊢;exact ⟨rfl,.tuple #[.slice (some ⟨g,0,none⟩) (dig (2^64) (val (2^64) ls-val (2^64) ks)).length c2,.bool true],by simp[results,go_sem],_,_,_,true,rfl,(Xe3 HE),fun _=>N3,Below.next0 (Xo1 HE) S4.out⟩
theorem Qfk (ws:LN):NatM.val (NatM.halves ws)=val (2^64) ws:=by
 induction ws with
 |nil=>rfl
 |cons x r ih=>
  have e:NatM.halves (x::r)=(x%4294967296)::(x / 4294967296)::NatM.halves r:=rfl;rw[e];simp only[NatM.val,val,ih];rw[show (2:Nat)^64=4294967296*4294967296 by decide,UL]
  show x%4294967296+4294967296*(x / 4294967296+4294967296*val (4294967296*4294967296) r)=_
  rw[Tv];omega
theorem Q8v (a:OA) (n c:Nat) (ls:LN) (w:World) (h:WordsIn w a n c ls) (hm:n<=1000000):
 Calls Tryz.prog 73 #[.slice a n c] w fun e w'=>∃a' n' c',e=.returned (.slice a' n' c')/\n'<=2*n/\Q0r w' a' n' c' (val (2^64) ls)/\Bw w w':=by
 refine (Ql4 a n c ls w h.len hm h.rd.rdN h.low).mono ?_;rintro e w' ⟨a',n',c',rfl,Zb,hc,D7,i9,hb⟩;have h1:NatM.trimL (NatM.halves ls)=dig (2^32) (val (2^64) ls):=by
  rw[Qbv,Q1l (B:=2^32) (by decide) (show Low (2^32) (NatM.halves ls) from NatM.halves_small h.low),<-Qy4,Qfk]
 have h2:=NatM.trim_len (NatM.halves ls);rw[NatM.halves_len,h.len] at h2;rw[h1] at Zb i9 h2;exact ⟨a',n',c',rfl,by omega,⟨Zb.symm,hc,D7,i9.rdI⟩,hb⟩
theorem Qyf {v:Nat} (hv:v%2=1) (neg:Bool) (e:Int):Fit v e↔Q0a neg e (dig (2^64) v):=by
 have h0:v≠0:=by omega
 have Q0:dig (2^64) v≠[]:=fun e=>h0 ((Q58 (by decide)).1 e);have ht:=Qkw _ (Qn2 (B:=2^64) (by decide) v);have hh:(dig (2^64) v).headD 0%2=1:=by
  rw[Q4c (by decide) h0]
  show v%2^64%2=1
  rw[show (2:Nat)^64=18446744073709551616 from rfl];omega
 unfold Q0a Fit;rw[Up Q0,ht];exact ⟨fun h=>⟨rfl,h.1,hh,h.2.1,h.2.2⟩,fun h=>⟨h.2.1,h.2.2.2⟩⟩
theorem Qvs {neg:Bool} {v:Nat} {e:Int} {neg1:Bool} {v1:Nat} {e1:Int} {neg2:Bool} {e2:Int} {L:LN} {er:Int} (h1:Qrq neg v e neg1 v1 e1) (h2:Qn9 neg1 v1 e1 neg2 e2 L er):Q7e neg v e neg2 e2 L er:=by
 rcases h1 with ⟨h0,rfl,rfl,rfl⟩|⟨z,hz,rfl,rfl,rfl⟩
 ·rcases h2 with ⟨_,h3,h4,h5,h6⟩|⟨h3,_⟩|⟨h3,_⟩
  ·exact .inl ⟨h0,h3,h4,h5,h6⟩
  ·exact absurd rfl h3
  ·exact absurd rfl h3
 ·have J8:=hz.2;have hf:=Qyf J8 neg1 (e+(z:Int));refine .inr ⟨z,hz,?_⟩;rcases h2 with ⟨h3,_⟩|⟨h3,h4,h5,h6,h7,h8⟩|⟨h3,h4,rfl,rfl,rfl,h8⟩
  ·rw[h3] at J8;simp at J8
  ·exact .inl ⟨.inr (.inr fun h=>h4 (hf.2 h)),h5,h6,h7,h8⟩
  ·exact .inr ⟨by have:=h4.2.2;omega,by have:=h4.2.1;omega,hf.1 h4,rfl,rfl,rfl,h8⟩
theorem Q8w {w:World} {a:OA} {n c v:Nat} (h:Q0r w a n c v) (h0:v≠0):n≠0:=fun e=>h0 ((Q58 (B:=2^32) (by decide)).1 (UJ.1 (by rw[h.len,e])))
theorem Qd6 (neg:Bool) (a:OA) (n c:Nat) (ls:LN) (exp:Int) (w:World) (h:WordsIn w a n c ls) (hn:n<=100000) (he: -1000000000<=exp) (Q6:exp<=1000000000):
 Calls Tryz.prog 116 #[.bool neg,.slice a n c,.int .i64 exp] w fun e w'=>∃neg' exp' a' n' c' L er,e=.returned (.tuple #[.agg #[.bool neg',.int .i64 exp',.slice a' n' c'],.int .i64 er])/\Q7e neg (val (2^64) ls) exp neg' exp' L er/\WordsIn w' a' n' c' L/\Bw w w':=by
 have Z2:∀o,Bw w (w.alloc o):=fun o=>Ba;have I3:=Q0h w (.cells #[.bool false,.int .i64 0,.slice none 0 0] 26);have O9:=Q03.new w (.bool false) (.int .i64 0) (.slice none 0 0) 26;have hp:=Q8v a n c ls (w.alloc (.cells #[.bool false,.int .i64 0,.slice none 0 0] 26)) (h.step (Z2 _)) (by omega);generalize val (2^64) ls=v at*;have HP:=Xh2 hp O9;clear hp O9 h
 by_cases h0:v=0
 ·go_enter Tryz.func116,Tryz.ntmps116
  go_wp2_with (refine (Xo0 HP).mono ?_;rintro e w1 ⟨m,k,c',rfl,hk,hD,C0⟩;obtain rfl:k=0:=by { have:=hD.len;rw[h0,Q0z] at this;exact this.symm };
               have hN:=(Xe1 HP).step C0 I3;obtain ⟨N4,O1,E1,m4,Y3,A4⟩:=hN.cf;have C3:=hN.d1 (.bool false);have V2:=hN.d2 (.bool false) (.int .i64 0);have K0:=Xh2 hN (Below.next0 (Z2 _) C0);clear hN C0)
  have hS:=(Xo0 K0).store (.bool false) (.int .i64 0) (.slice none 0 0);obtain ⟨k0,k1,k2⟩:=hS.cc;have Z0:=Q03.below (Xe1 K0) (Ue _) (.bool false) (.int .i64 0) (.slice none 0 0);clear hS N4 O1 E1 m4 Y3 A4 C3 V2;generalize World.setCell _ _ _=W5 at k0 k1 k2 Z0⊢;refine ⟨rfl,.tuple #[.agg #[.bool false,.int .i64 0,.slice none 0 0],.int .i64 0],by simp[results,go_sem,k0,k1,k2],false,0,none,0,0,[],0,rfl,.inl ⟨h0,rfl,rfl,rfl,rfl⟩,WordsIn.nil_ _,Z0⟩
 ·obtain ⟨z0,P1⟩:=Qhm h0;have Vw:=Xh2 P1 h0;clear P1 h0
  by_cases R4:65536<exp
  ·go_enter Tryz.func116,Tryz.ntmps116
   go_wp2_with (refine (Xo0 HP).mono ?_;rintro e w1 ⟨m,k,c',rfl,hk,hD,C0⟩;have JZ:((k:Int)==0)=false:=by { rw[Uk];have:=Q8w hD (Xe1 Vw);omega };
                have hN:=(Xe1 HP).step C0 I3;obtain ⟨N4,O1,E1,m4,Y3,A4⟩:=hN.cf;have C3:=hN.d1 (.bool false);have V2:=hN.d2 (.bool false) (.int .i64 0);have K0:=Xh2 hN (Below.next0 (Z2 _) C0);clear hN C0 hD)
   have hS:=(Xo0 K0).store (.bool false) (.int .i64 0) (.slice none 0 0);obtain ⟨k0,k1,k2⟩:=hS.cc;have Z0:=Q03.below (Xe1 K0) (Ue _) (.bool false) (.int .i64 0) (.slice none 0 0);clear hS N4 O1 E1 m4 Y3 A4 C3 V2;generalize World.setCell _ _ _=W5 at k0 k1 k2 Z0⊢;refine ⟨rfl,.tuple #[.agg #[.bool false,.int .i64 0,.slice none 0 0],.int .i64 2],by simp[results,go_sem,k0,k1,k2],false,0,none,0,0,[],2,rfl,.inr ⟨z0,(Xo0 Vw),.inl ⟨.inl R4,rfl,rfl,rfl,rfl⟩⟩,WordsIn.nil_ _,Z0⟩
  ·obtain ⟨y,hy⟩:∃y:Int,-65536-(z0:Int)=y:=⟨_,rfl⟩;have HY:=Ub hy;clear hy
   by_cases Z3:exp<y
   ·have hx1':exp<=65536:=by omega
    go_enter Tryz.func116,Tryz.ntmps116
    go_wp2_with (first
     |(refine (Xo0 HP).mono ?_;rintro e w1 ⟨m,k,c',rfl,hk,hD,C0⟩;have JZ:((k:Int)==0)=false:=by { rw[Uk];have:=Q8w hD (Xe1 Vw);omega };
       have K0:=Xh2 hD C0;clear C0 hD)
     |(refine (Q7g m k c' v _ (Xo0 K0) (by omega) (Xe1 Vw)).mono ?_;rintro e w2 ⟨⟨z,rfl,hz,m8⟩,D0⟩;obtain rfl:z0=z:=(Xo0 Vw).eq hz;
       have YL:wrap64 (-65536-(z0:Int))=y:=by { rw[<-HY.out];unfold wrap64;omega };
       have hN:=((Xe1 HP).step (Xe1 K0) I3).step D0 (Uc I3 (Xe1 K0).size);obtain ⟨N4,O1,E1,m4,Y3,A4⟩:=hN.cf;have C3:=hN.d1 (.bool false);have V2:=hN.d2 (.bool false) (.int .i64 0);have F1:=Xh2 hN (Below.next0 (Below.next0 (Z2 _) (Xe1 K0)) D0);clear hN D0 hz m8))
    have hS:=(Xo0 F1).store (.bool false) (.int .i64 0) (.slice none 0 0);obtain ⟨k0,k1,k2⟩:=hS.cc;have Z0:=Q03.below (Xe1 F1) (Ue _) (.bool false) (.int .i64 0) (.slice none 0 0);clear hS N4 O1 E1 m4 Y3 A4 C3 V2 YL;generalize World.setCell _ _ _=W5 at k0 k1 k2 Z0⊢;refine ⟨rfl,.tuple #[.agg #[.bool false,.int .i64 0,.slice none 0 0],.int .i64 2],by simp[results,go_sem,k0,k1,k2],false,0,none,0,0,[],2,rfl,.inr ⟨z0,(Xo0 Vw),.inl ⟨.inr (.inl (by rw[HY.out];exact Z3)),rfl,rfl,rfl,rfl⟩⟩,WordsIn.nil_ _,Z0⟩
   ·have hx1':exp<=65536:=(by omega);have hx2':y<=exp:=by omega
    go_enter Tryz.func116,Tryz.ntmps116
    go_wp2_with (first
     |(go_at_call_of 73 a;refine (Xo0 HP).mono ?_;rintro e w1 ⟨m,k,c',rfl,hk,hD,C0⟩;have JZ:((k:Int)==0)=false:=by { rw[Uk];have:=Q8w hD (Xe1 Vw);omega };
       have K0:=Xh2 hD C0;clear C0 hD)
     |(go_at_call_of 166 m;refine (Q7g m k c' v _ (Xo0 K0) (by omega) (Xe1 Vw)).mono ?_;rintro e w2 ⟨⟨z,rfl,hz,m8⟩,D0⟩;obtain rfl:z0=z:=(Xo0 Vw).eq hz;
       have YL:wrap64 (-65536-(z0:Int))=y:=by { rw[<-HY.out];unfold wrap64;omega };
       have F1:=Xh2 ((Xo0 K0).step D0) D0;clear D0 hz m8)
     |(go_at_call_of 140 neg;refine (Q7z neg m k c' v exp _ (Xo0 F1) (by omega) he Q6).mono ?_;rintro e w3 ⟨neg1,a1,n1,c1,v1,e1,rfl,ho,Ww,K5,XB,he3,G0⟩;have E3:=Xh3 ho Ww G0;clear ho Ww G0)
     |(refine (Q80 neg1 a1 n1 c1 v1 e1 _ (Xo1 E3) (by omega)).mono ?_;rintro e w4 ⟨neg2,e2,a2,n2,c2,L,er,rfl,WA,I8,F2⟩;
       have VD:=Below.next0 (Below.next0 (Below.next0 (Xe1 K0) (Xe1 F1)) (Xe2 E3)) F2;have hN:=(Xe1 HP).step VD I3;obtain ⟨N4,O1,E1,m4,Y3,A4⟩:=hN.cf;have C3:=hN.d1 (.bool neg2);have V2:=hN.d2 (.bool neg2) (.int .i64 e2);have M5:=Xh4 hN (Below.next0 (Z2 _) VD) I8 WA;clear hN F2 VD I8 WA))
    have hS:=(Xo0 M5).store (.bool neg2) (.int .i64 e2) (.slice a2 n2 c2);obtain ⟨k0,k1,k2⟩:=hS.cc;have Z0:=Q03.below (Xo1 M5) (Ue _) (.bool neg2) (.int .i64 e2) (.slice a2 n2 c2);have hW:=(Xo2 M5);have N7:WordsIn _ a2 n2 c2 L:=⟨hW.len,hW.cap,hW.most,hW.low,(hW.rd.store3 (Xo0 M5) (fun _=>by simp[nv]) (fun _=>by simp[nv]) (fun _=>by simp[nv]) (.bool neg2) (.int .i64 e2) (.slice a2 n2 c2)).more (Q1i _ _ _ _ _)⟩;clear hS N4 O1 E1 m4 Y3 A4 C3 V2 YL hW;generalize World.setCell _ _ _=W5 at k0 k1 k2 Z0 N7⊢;refine ⟨rfl,.tuple #[.agg #[.bool neg2,.int .i64 e2,.slice a2 n2 c2],.int .i64 er],by simp[results,go_sem,k0,k1,k2],neg2,e2,a2,n2,c2,L,er,rfl,Qvs (Xo0 E3) (Xe3 M5),N7,Z0⟩
theorem Qyg (neg:Bool) (exp:Int) (a:OA) (n c:Nat) (ls:LN) (neg':Bool) (exp':Int) (b:OA) (m d:Nat) (ks:LN) (w:World) (h1:WordsIn w a n c ls) (h2:WordsIn w b m d ks) (hn:n<=9223372036854775807):
 Calls Tryz.prog 33 #[.agg #[.bool neg,.int .i64 exp,.slice a n c],.agg #[.bool neg',.int .i64 exp',.slice b m d]] w fun e w'=>e=.returned (.bool (decide (neg=neg'/\exp=exp'/\ls=ks)))/\Bw w w':=by
 have A8:=h1.len;have i7:=h2.len
 by_cases JI:neg=neg'/\exp=exp'/\n=m
 ·obtain ⟨rfl,rfl,rfl⟩:=JI;have G7:decide (neg=neg/\exp=exp/\ls=ks)=decide (ls=ks):=by simp
  rw[G7];clear G7;have H1:=Ub h1;have H2:=Ub h2;clear h1 h2
  go_enter Tryz.func33,Tryz.ntmps33
  go_wp2_with fail
  obtain ⟨W2,I4⟩:∃W2,(w.alloc (.cells #[.bool neg,.int .i64 exp,.slice a n c] 26)).alloc (.cells #[.bool neg,.int .i64 exp,.slice b n d] 26)=W2:=⟨_,rfl⟩;have C0:Bw w W2:=by rw[<-I4];exact Below.next0 (Ba) (Ba)
  have A2:(w.alloc (.cells #[.bool neg,.int .i64 exp,.slice a n c] 26)).heap.size=w.heap.size+1:=Array.size_push ..;have R4:=Qci w neg exp a n c 26;have Z3:=Qci (w.alloc (.cells #[.bool neg,.int .i64 exp,.slice a n c] 26)) neg exp b n d 26;have x8:W2.cell? ⟨w.heap.size,2,none⟩=some (.slice a n c):=by
   rw[<-I4];exact ((Below.alloc (Ug _ _) (Ue _) _).cell (p:=⟨w.heap.size,2,none⟩) R4.1).trans R4.2.2.2
  have QG:W2.cell? ⟨w.heap.size+1,2,none⟩=some (.slice b n d):=by
   rw[<-I4,<-A2];exact Z3.2.2.2
  have X5:w.heap.size+1<W2.heap.size:=by rw[<-I4,<-A2];exact Z3.1
  rw[I4];clear R4 Z3 I4 A2;have HX:=Xh4 x8 QG C0 X5;clear x8 QG C0 X5
  go_loopw [5] (fun v wr=>∃i:Nat,v=.int .i64 (i:Int)/\i<=n/\(∀j,j<i->ls[j]?=ks[j]?)/\Bw W2 wr) (fun v _=>n-(intOf v).toNat)
  case atStart=>exact ⟨0,rfl,Ut _,fun j h=>absurd h (TV _),Ug _ _⟩
  case round=>
   obtain ⟨i,rfl,hi,M4,hb⟩:=hrel;have O0:Bw w wr:=Below.next0 (Xo2 HX) hb;have O1:wr.cell? ⟨w.heap.size,2,none⟩=some (.slice a n c):=(hb.cell (p:=⟨w.heap.size,2,none⟩) (by have:=(Xe3 HX);show w.heap.size<_;omega)).trans (Xo0 HX);have E1:wr.cell? ⟨w.heap.size+1,2,none⟩=some (.slice b n d):=(hb.cell (p:=⟨w.heap.size+1,2,none⟩) (Xe3 HX)).trans (Xo1 HX)
   by_cases E0:i<n
   ·have J0:(i:Int)<(n:Int):=(by omega);obtain ⟨x,hx⟩:∃x,ls[i]?=some x:=⟨_,Ua (by omega)⟩;obtain ⟨y,hy⟩:∃y,ks[i]?=some y:=⟨_,Ua (by omega)⟩;obtain ⟨g1,o1,rfl,R6,u5⟩:=(H1.out.rd.below O0).at_ hx;obtain ⟨g2,o2,rfl,J5,K9⟩:=(H2.out.rd.below O0).at_ hy;have HP:=Xh5 M4 hb O0 hx hy;clear M4 hb O0 hx hy
    by_cases Kc:x=y
    ·subst Kc
     go_wp2_with fail
     go_quiet (fail)
     go_wp2_with fail
     refine ⟨⟨i+1,by simp,by omega,fun j hj=>?_,Q59 (Xo1 HP) nq⟩,by simp only[intOf];omega⟩
     by_cases hji:j=i
     ·subst hji;rw[(Xo3 HP),(Xe4 HP)]
     ·exact (Xo0 HP) j (by omega)
    ·have hxy':((x:Int)==(y:Int))=false:=(by rw[Uk];omega);have hxy2:((x:Int) != (y:Int))=true:=by simp[bne,hxy']
     go_wp2_with fail
     go_quiet (fail)
     go_wp2_with fail
     go_ret;have Q0:¬ls=ks:=fun e=>Kc (by have h1:=(Xo3 HP);have h2:=(Xe4 HP);rw[e,h2] at h1;injection h1 with h1;exact h1.symm);exact ⟨by rw[Ta Q0];rfl,Q59 (Xo2 HP) nq⟩
   ·obtain rfl:i=n:=(by omega);have J0:¬((i:Int)<(i:Int)):=(by omega);have Y4:ls=ks:=Qge (fun j hj=>M4 j (by omega)) (by omega);have HE:=Xh2 Y4 O0;clear Y4 O0 hb M4
    go_wp2_with fail
    go_ret;exact ⟨by rw[UQ (Xo0 HE)];rfl,(Xe1 HE)⟩
 ·have G7:decide (neg=neg'/\exp=exp'/\ls=ks)=false:=by
   rw[TX];rintro ⟨e1,e2,e3⟩;exact JI ⟨e1,e2,by rw[<-A8,<-i7,e3]⟩
  rw[G7];have hB:Bw w ((w.alloc (.cells #[.bool neg,.int .i64 exp,.slice a n c] 26)).alloc (.cells #[.bool neg',.int .i64 exp',.slice b m d] 26)):=Below.next0 (Ba) (Ba);have HB:=Ub hB;clear hB G7 h1 h2
  by_cases e1:neg=neg'
  ·subst e1
   by_cases e2:exp=exp'
   ·subst e2;have e3:¬((n:Int)=(m:Int)):=(by intro e;exact JI ⟨rfl,rfl,by omega⟩);have e3':((n:Int)==(m:Int))=false:=by rw[Uk];exact e3
    go_enter Tryz.func33,Tryz.ntmps33
    go_wp2_with fail
    go_ret;exact ⟨rfl,HB.out⟩
   ·have e2':(exp==exp')=false:=by rw[Uk];exact e2
    go_enter Tryz.func33,Tryz.ntmps33
    go_wp2_with fail
    go_ret;exact ⟨rfl,HB.out⟩
  ·have e1':(neg==neg')=false:=by rw[Uk];exact e1
   go_enter Tryz.func33,Tryz.ntmps33
   go_wp2_with fail
   go_ret;exact ⟨rfl,HB.out⟩
theorem Qsm {ls:LN} {k x:Nat} (hl:ls.length=k+1) (hx:ls[k]?=some x):(trimL ls).length=ls.length↔x≠0:=by
 have he:ls=ls.take k++[x]:=by
  have h1:=Tc (l:=ls) (i:=k);rw[hx,Option.toList_some,<-hl,Tn] at h1;exact h1
 constructor
 ·rintro h rfl;rw[he,Q3r,<-he] at h;have:=trim_len (ls.take k);rw[Tl] at this;omega
 ·intro h;rw[he,Q54 _ h]
theorem Q5u (neg:Bool) (exp:Int) (a:OA) (n c:Nat) (ls:LN) (w:World) (h:WordsIn w a n c ls) (he: -9223372036854775808<=exp) (Q6:exp<=9223372036854775807) (hn:n<=9223372036854775807):
 Calls Tryz.prog 25 #[.agg #[.bool neg,.int .i64 exp,.slice a n c]] w fun e w'=>e=.returned (.bool (decide (Q0a neg exp ls)))/\Bw w w':=by
 have G3:=h.len;have Z2:∀o,Bw w (w.alloc o):=fun o=>Ba
 by_cases h0:n=0
 ·obtain rfl:ls=[]:=UJ.1 (by omega);subst h0;cases neg
  ·go_enter Tryz.func25,Tryz.ntmps25
   go_wp2_with fail
   go_ret;refine ⟨?_,Z2 _⟩
   show Ending.returned (.bool _)=_
   congr 2
   by_cases h:exp=0 <;> simp[Q0a,h]
  ·go_enter Tryz.func25,Tryz.ntmps25
   go_wp2_with fail
   go_ret;refine ⟨?_,Z2 _⟩
   show Ending.returned (.bool _)=_
   congr 2
 ·obtain ⟨k,rfl⟩:∃k,n=k+1:=⟨n-1,by omega⟩;obtain ⟨x,hx⟩:∃x,ls[0]?=some x:=⟨_,Ua (by omega)⟩;obtain ⟨y,hy⟩:∃y,ls[k]?=some y:=⟨_,Ua (by omega)⟩;have Q0:ls≠[]:=fun e=>by rw[e] at hx;simp at hx
  have D4:x<18446744073709551616:=h.low x (Uf hx);have Qo:y<18446744073709551616:=h.low y (Uf hy);have Jb:ls.headD 0=x:=by cases ls with
   |nil=>exact absurd rfl Q0
   |cons y r=>simpa using hx
  have B6:bits .and .u64 (x:Int) 1=((x%2:Nat):Int):=by rw[show (1:Int)=((1:Nat):Int) from rfl,u64_and_nat x 1 D4 (by decide),nat_mask1]
  obtain ⟨m,hm⟩:∃m,x%2=m:=⟨_,rfl⟩;rw[hm] at B6;have hN:Q0a neg exp ls↔(y≠0/\k+1<=64/\m=1/\-65536<=exp/\exp<=65536):=by
   unfold Q0a;rw[Up Q0,Jb,hm,Qsm G3 hy,G3]
  have y6:decide (Q0a neg exp ls)=(decide ((k:Int)+1<=64) && ((y:Int) != 0 && ((m:Int)==1 && (decide (-65536<=exp) && decide (exp<=65536))))):=by
   have e64:((k:Int)+1<=64)↔k+1<=64:=(by omega);have e1:((m:Int)==1)=decide (m=1):=by by_cases h:m=1 <;> simp[h] <;> omega
   have e2:((y:Int) != 0)=decide (y≠0):=by by_cases h:y=0 <;> simp[h]
   rw[e1,e2,Bool.eq_iff_iff];simp only[Xaf,Xan,e64];rw[hN];exact ⟨fun h=>⟨h.2.1,h.1,h.2.2⟩,fun h=>⟨h.2.1,h.1,h.2.2⟩⟩
  rw[y6];obtain ⟨b,o,U5,U4,u5⟩:=h.rd.at_ hx;obtain ⟨b2,o2,Zg,hbl2,K9⟩:=h.rd.at_ hy;subst U5;injection Zg with Zg;injection Zg with e1 e2;subst e1 e2;rw[Tz] at u5;have Ko:∀O,(w.alloc O).cell? ⟨b,o,none⟩=some (.int .u64 (x:Int)):=fun O=>((Z2 O).cell (p:=⟨b,o,none⟩) U4).trans u5;have Kt:∀O,(w.alloc O).cell? ⟨b,o+k,none⟩=some (.int .u64 (y:Int)):=fun O=>((Z2 O).cell (p:=⟨b,o+k,none⟩) U4).trans K9;clear y6 hN hm Jb Q0 hx hy h0 u5 K9 h
  by_cases h64:(k:Int)+1<=64
  ·go_enter Tryz.func25,Tryz.ntmps25
   go_wp2_with fail
   all_goals
    go_ret;refine ⟨?_,Z2 _⟩
    show Ending.returned (.bool _)=Ending.returned (.bool _)
    clear Ko Kt
    congr 2
   all_goals simp_all
   all_goals omega
  ·go_enter Tryz.func25,Tryz.ntmps25
   go_wp2_with fail
   all_goals
    go_ret;refine ⟨?_,Z2 _⟩
    show Ending.returned (.bool _)=Ending.returned (.bool _)
    clear Ko Kt
    congr 2
   all_goals simp_all
   all_goals omega
def Qsn (b:UInt8):Prop:=48<=b.toNat/\b.toNat<=57
def J06 (s:ByteArray) (k:Nat):Prop:=k<=s.size/\(∀j (h:j<s.size),j<k->Qsn (s[j]'h))/\∀h:k<s.size,¬Qsn (s[k]'h)
theorem Qso (s:ByteArray) (w:World) (hs:s.size<=281474976710656):
 Calls Tryz.prog 267 #[.string s] w fun e w'=>(∃k:Nat,e=.returned (.int .i64 (k:Int))/\J06 s k)/\Bw w w':=by
 go_enter Tryz.func267,Tryz.ntmps267
 go_wp2_with fail
 go_step3
 go_wp2_with fail
 go_step3
 go_wp2_with fail
 go_loopw [3] (fun v wr=>∃k:Nat,v=.int .i64 (k:Int)/\k<=s.size/\(∀j (h:j<s.size),j<k->Qsn (s[j]'h))/\Bw w wr) (fun v _=>s.size-(intOf v).toNat)
 case atStart=>exact ⟨0,rfl,Ut _,fun j _ h=>absurd h (TV _),Ug _ _⟩
 case round=>
  obtain ⟨k,rfl,hk,M4,hb⟩:=hrel;have HP:=Xh2 M4 hb;clear M4 hb
  by_cases E0:k<s.size
  ·have J0:(k:Int)<(s.size:Int):=by omega
   by_cases h1:(s[k]'E0).toNat<48
   ·have h1':((s[k]'E0).toNat:Int)<48:=by omega
    go_wp2_with fail
    first|rw[Xab]|skip
    go_ret;exact ⟨⟨k,rfl,hk,(Xo0 HP),fun _ h=>by have:=h.1;omega⟩,(Xe1 HP)⟩
   ·have h1':¬((s[k]'E0).toNat:Int)<48:=by omega
    by_cases h2:57<(s[k]'E0).toNat
    ·have JX:57<((s[k]'E0).toNat:Int):=by omega
     go_wp2_with fail
     first|rw[Xab]|skip
     go_ret;exact ⟨⟨k,rfl,hk,(Xo0 HP),fun _ h=>by have:=h.2;omega⟩,(Xe1 HP)⟩
    ·have JX:¬57<((s[k]'E0).toNat:Int):=by omega
     go_wp2_with fail
     refine ⟨⟨k+1,by simp,by omega,fun j h hj=>?_,(Xe1 HP)⟩,by simp only[intOf];omega⟩
     by_cases y9:j=k
     ·subst y9;exact ⟨by omega,by omega⟩
     ·exact (Xo0 HP) j h (by omega)
  ·obtain rfl:k=s.size:=(by omega);have J0:¬((s.size:Int)<(s.size:Int)):=by omega
   go_wp2_with fail
   first|rw[Xab]|skip
   go_ret;exact ⟨⟨s.size,rfl,hk,(Xo0 HP),fun h=>absurd h E0⟩,(Xe1 HP)⟩
open DecM
theorem Qgw (s:ByteArray) (j:Nat) (h:j<s.size):s.data.toList[j]?=some (s[j]'h):=by
 rw[Ts];exact Ti h
theorem Qvt {s:ByteArray} {at_ k:Nat} (h1:at_<=k) (h2:k<=s.size) (hd:∀j (h:j<s.size),at_<=j->j<k->Qsn (s[j]'h)) (hs:∀h:k<s.size,¬Qsn (s[k]'h)):digN (s.data.toList.drop at_)=k-at_:=by
 have hl:s.data.toList.length=s.size:=rfl
 apply Qi5
 ·rw[Tg,hl];omega
 ·intro j c hc hj;rw[Xau] at hc;have hjs:at_+j<s.size:=by omega
  rw[Qgw s _ hjs] at hc;injection hc with hc;subst hc;exact hd _ hjs (by omega) (by omega)
 ·intro c hc;rw[Xau,show at_+(k-at_)=k by omega] at hc;have hks:k<s.size:=by
   rw[<-hl];exact (Ul.1 hc).1
  rw[Qgw s _ hks] at hc;injection hc with hc;subst hc;exact hs hks
theorem Qsp {s:ByteArray} {at_:Nat} (h:at_<s.size):(s.data.toList.drop at_).headD 0=s[at_]'h:=by
 have h1:=Qgw s at_ h;rw[<-List.head?_drop] at h1;rw[List.headD_eq_head?_getD,h1];rfl
end Go.Proofs.YtidojbkhlenahaaGreatDoor
namespace Go.Proofs.YtidojbkhlenahaaGreatDoor
open Go Go.RowKit
section
variable {P:Program} {ops:Array Oper}
def Q09 (ops:Array Oper) (a:Act) (j:Nat):Value:=match (ops[j]?).bind (·.dst) with|some t=>a.tmps.getD t undef|none=>undef
def Q7q (ops:Array Oper) (a0 a:Act):Prop:=a.defers=a0.defers/\a.tmps.size=a0.tmps.size/\∀t,(∀o∈ops.toList,o.dst≠some t)->a.tmps[t]?=a0.tmps[t]?
def Q1v (o:Oper):LN:=(o.after.toList.filter (Region.binds .any)).map (·.on)
def Qlp (S:Nat->Oper->Prop):List Oper->Nat->Prop
 |[],_=>True
 |o::r,k=>S k o/\Qlp S r (k+1)
theorem Qlp.at_ {S:Nat->Oper->Prop} (l:List Oper):∀(k i:Nat) (o:Oper),Qlp S l k->l[i]?=some o->S (k+i) o:=by
 induction l with
 |nil=>intro k i o _ ho;simp at ho
 |cons x r ih=>
  intro k i o h ho;cases i with
  |zero=>
   simp only[UD,Uj] at ho;subst ho;exact h.1
  |succ i=>
   have:=ih (k+1) i o h.2 (by simpa using ho);rwa[show k+1+i=k+(i+1) by omega] at this
theorem Qlp.imp {S S':Nat->Oper->Prop} (h:∀k o,S k o->S' k o):∀(l:List Oper) (k:Nat),Qlp S l k->Qlp S' l k
 |[],_,_=>trivial
 |_::r,k,⟨h1,h2⟩=>⟨h _ _ h1,Qlp.imp h r (k+1) h2⟩
def Q0y (vs:Nat->Value):List Oper->Nat->Act->Act
 |[],_,a=>a
 |o::r,k,a=>Q0y vs r (k+1) (a.put o.dst (vs k))
theorem Q86 (a:Act) (t:Tmp) (v:Value):(a.put (some t) v).tmps=a.tmps.setIfInBounds t v:=rfl
theorem Qas (a:Act):∀(l:List Oper) (k:Nat) (vs:Nat->Value) (b:Act),(∀(j:Nat) o t,l[j]?=some o->o.dst=some t->t<a.tmps.size/\vs (k+j)=a.tmps.getD t undef)->
 b.defers=a.defers->b.tmps.size=a.tmps.size->(∀t,(∀o∈l,o.dst≠some t)->b.tmps[t]?=a.tmps[t]?)->Q0y vs l k b=a
 |[],_,_,b,_,hd,_,ht=>by
  obtain ⟨bt,bd⟩:=b;obtain ⟨at_,ad⟩:=a;simp only at hd ht;subst hd
  show (Act.mk bt bd)=_
  congr 1
  exact Array.ext_getElem? fun t=>ht t (by simp)
 |o::r,k,vs,b,hs,hd,hz,ht=>by
  have Z8:∀(j:Nat) o' t,r[j]?=some o'->o'.dst=some t->t<a.tmps.size/\vs (k+1+j)=a.tmps.getD t undef:=fun j o' t Qf y7=>by
   have:=hs (j+1) o' t (by simpa using Qf) y7;rwa[show k+(j+1)=k+1+j by omega] at this
  cases hto:o.dst with
  |none=>
   have:Q0y vs (o::r) k b=Q0y vs r (k+1) b:=by
    show Q0y vs r (k+1) (b.put o.dst (vs k))=_
    rw[hto];rfl
   rw[this];refine Qas a r (k+1) vs b Z8 hd hz fun t' ht'=>ht t' fun o' Qf=>?_;rcases Uy.1 Qf with rfl|h
   ·rw[hto];simp
   ·exact ht' o' h
  |some t=>
   obtain ⟨P6,hv⟩:=hs 0 o t rfl hto;refine Qas a r (k+1) vs (b.put o.dst (vs k)) Z8 ?_ ?_ fun t' ht'=>?_
   ·rw[hto];exact hd
   ·rw[hto,Q86,Array.size_setIfInBounds];exact hz
   ·rw[hto,Q86,Xat]
    split
    ·next e=>
     subst e;rw[Us (by rw[hz];exact P6)];have:vs k=a.tmps.getD t undef:=(by simpa using hv);rw[this,UB,Ti P6];rfl
    ·next e=>
     refine ht t' fun o' Qf=>?_;rcases Uy.1 Qf with rfl|h
     ·rw[hto];simpa using e
     ·exact ht' o' h
def Q7r (ops:List Oper) (n:Nat):Bool:=ops.all (fun o=>match o.dst with|some t=>decide (t<n)|none=>true) && (ops.zipIdx.all fun p=>ops.zipIdx.all fun q=>p.2==q.2 || p.1.dst.isNone || !(p.1.dst==q.1.dst)) && (ops.zipIdx.all fun p=>p.1.after.toList.all fun e=>decide (e.on<p.2) || !Region.binds .any e) && ops.all fun o=>match o.op with| .defer _=>false|_=>true
theorem Qpf {l:List Oper} {n:Nat} (h:Q7r l n=true):(∀(i:Nat) o t,l[i]?=some o->o.dst=some t->t<n)/\(∀(i j:Nat) oi oj t,l[i]?=some oi->l[j]?=some oj->oi.dst=some t->oj.dst=some t->i=j)/\(∀(i:Nat) o,l[i]?=some o->∀e∈o.after.toList,Region.binds .any e=true->e.on<i)/\(∀(i:Nat) o,l[i]?=some o->∀c,o.op≠.defer c):=by
 unfold Q7r at h;simp only[Xan] at h;obtain ⟨⟨⟨h1,h2⟩,h3⟩,h4⟩:=h;refine ⟨fun i o t ho hd=>?_,fun i j oi oj t hi hj hdi hdj=>?_,fun i o ho e he hb=>?_,fun i o ho c hc=>?_⟩
 ·have:=Tu.1 h1 o (Uf ho);rw[hd] at this;simpa using this
 ·have Za:(oi,i)∈l.zipIdx:=by rw[TR];exact hi
  have Ji:(oj,j)∈l.zipIdx:=by rw[TR];exact hj
  have:=Tu.1 (Tu.1 h2 _ Za) _ Ji;rw[hdi,hdj] at this;simpa using this
 ·have hm:(o,i)∈l.zipIdx:=by
   rw[TR];exact ho
  have:=Tu.1 (Tu.1 h3 _ hm) e he;rw[hb] at this;simpa using this
 ·have:=Tu.1 h4 o (Uf ho);rw[hc] at this;cases this
theorem Q8i:∀(l:List Bool) (i:Nat),l[i]?=some false->(l.set i true).count false+1=l.count false
 |b::r,0,h=>by
  simp only[UD,Uj] at h;subst h;simp
 |b::r,i+1,h=>by
  have ih:=Q8i r i (by simpa using h);simp only[UF,Xaj];omega
theorem Qim:∀(l:List Bool),l.count false=0->∀(i:Nat),i<l.length->l[i]?=some true:=by
 intro l h i hi;have Q0:l[i]?=some l[i]:=Ua hi;cases hb:l[i] with
 |true=>rw[Q0,hb]
 |false=>
  have:false∈l:=by rw[<-hb];exact List.getElem_mem hi
  rw[List.count_eq_zero] at h;exact absurd this h
def Q1z (D:Nat->Bool) (k:Nat):Nat->Bool:=fun j=>if j=k then true else D j
def Q27 (vs:Nat->Value) (k:Nat) (v:Value):Nat->Value:=fun j=>if j=k then v else vs j
theorem Q3g (D:Nat->Bool) (k:Nat):Q1z D k k=true:=Us rfl
abbrev Qlq:=(Nat->Bool)->(Nat->Value)->World->Prop
def Q0n (P:Program) (K:Value->World->Prop):Result Next->Prop
 | .ok (.value u) w'=>K u w'
 | .ok (.enter f args) w'=>Calls P f args w' fun e w''=>∃v,e=.returned v/\K v w''
 | .ok .skip w'=>K undef w'
 |_=>False
def Q9v (P:Program) (ops:Array Oper) (I:Qlq) (a0:Act) (k:Nat) (o:Oper):Prop:=
 ∀a w D,I D (Q09 ops a) w->Q7q ops a0 a->D k=false->(∀i∈Q1v o,D i=true)->(∀j oj,ops[j]?=some oj->D j=true->∀i∈Q1v oj,D i=true)->
  if Region.wanted o (yielded ops a.tmps) then Q0n P (fun u w'=>I (Q1z D k) (Q27 (Q09 ops a) k u) w') ((execOp a.eval o).run P w) else I (Q1z D k) (Q27 (Q09 ops a) k undef) w
variable {F:Fence} {n:Nat} {Q:Exit->Act->World->Prop}
structure Qgx (ops:Array Oper) (I:Qlq) (a0:Act) (listed:Array Bool) (a:Act) (w:World):Prop where
 inv:I (fun j=>listed.getD j false) (Q09 ops a) w
 agree:Q7q ops a0 a
 size:listed.size=ops.size
 closed:∀j oj,ops[j]?=some oj->listed.getD j false=true->∀i∈Q1v oj,listed.getD i false=true
theorem Qgy (hF1:∀f,F.fn f) (hF2:F.depth=none) (hF3:∀m f args w R,Calls P f args w R->CallsIn F m P f args w R) (I:Qlq) (hN:∀(i:Nat) o,ops[i]?=some o->o.dst=none->∀D vs v w,vs i=undef->I D (Q27 vs i v) w->I D vs w) (a0:Act) (hB:Q7r ops.toList a0.tmps.size=true)
 (step:Qlp (Q9v P ops I a0) ops.toList 0) (fin:∀D vs w,(∀j,j<ops.size->D j=true)->I D vs w->Q .normal (Q0y vs ops.toList 0 a0) w):
 ∀(fuel:Nat) (listed:Array Bool) (a:Act) (w:World),listed.toList.count false<=fuel->Qgx ops I a0 listed a w->wpAnyIn F n P .any ops Q fuel listed a w:=by
 obtain ⟨C3,V2,JO,hd4⟩:=Qpf hB;have done:∀(listed:Array Bool) (a:Act) (w:World),(∀j,j<ops.size->listed.getD j false=true)->Qgx ops I a0 listed a w->Q .normal a w:=by
  intro listed a w Y0 inv;have:=fin _ (Q09 ops a) w Y0 inv.inv;rwa[Qas a ops.toList 0 (Q09 ops a) a0 (fun j o t ho h1=>?_) inv.agree.1.symm inv.agree.2.1.symm (fun t ht=>(inv.agree.2.2 t ht).symm)] at this;refine ⟨by rw[inv.agree.2.1];exact C3 j o t ho h1,?_⟩;have Qf:ops[j]?=some o:=by rw[<-Ts];exact ho
  unfold Q09;rw[UH,Qf];simp[h1]
 have none_ready:∀(listed:Array Bool),listed.size=ops.size->Region.ready .any ops listed=[]->∀j,j<ops.size->listed.getD j false=true:=by
  intro listed hz hr j
  induction j using Nat.strongRecOn with
  |ind j ih=>
   intro hj;cases hb:listed.getD j false with
   |true=>rfl
   |false=>
    exfalso;have hjl:j<listed.size:=(by omega);have B4:listed.getD j true=false:=by
     rw[UB,Ti hjl] at hb⊢;exact hb
    have ho:ops[j]?=some ops[j]:=Ti hj;have:j∈Region.ready .any ops listed:=mem_ready.2 ⟨B4,ops[j],ho,fun e he D0=>?_⟩
    ·rw[hr] at this;cases this
    ·have E0:=JO j ops[j] (by rw[Ts];exact ho) e (by simpa using he) D0;exact ih e.on E0 (by omega)
 intro fuel
 induction fuel with
 |zero=>
  intro listed a w hc inv;have Y0:∀j,j<ops.size->listed.getD j false=true:=fun j hj=>by
   have:=Qim listed.toList (by omega) j (by rw[Array.length_toList,inv.size];exact hj);rw[Ts] at this;rw[UB,this];rfl
  refine ⟨?_,done listed a w Y0 inv⟩;refine List.eq_nil_iff_forall_not_mem.2 fun i hi=>?_;obtain ⟨h1,o,ho,_⟩:=mem_ready.1 hi;have hil:i<ops.size:=(Uq.1 ho).1;have h2:=Y0 i hil;have Xn:i<listed.size:=by rw[inv.size];exact hil
  rw[UB,Ti Xn] at h1 h2;rw[Xao] at h1 h2;rw[h1] at h2;cases h2
 |succ fuel ih=>
  intro listed a w hc inv;refine ⟨fun hr=>done listed a w (none_ready listed inv.size hr) inv,fun i hi=>?_⟩;obtain ⟨h1,o,ho,A0⟩:=mem_ready.1 hi;have hil:i<ops.size:=(Uq.1 ho).1;have Xn:i<listed.size:=by rw[inv.size];exact hil
  have hol:ops.toList[i]?=some o:=by rw[Ts];exact ho
  have hif:listed.getD i false=false:=by
   rw[UB,Ti Xn] at h1⊢;exact h1
  have q5:∀j∈Q1v o,listed.getD j false=true:=fun j hj=>by
   obtain ⟨e,he,rfl⟩:=To.1 hj;obtain ⟨he,hb⟩:=List.mem_filter.1 he;exact A0 e (by simpa using he) hb
  have P0:=Qlp.at_ _ _ _ _ step hol;rw[UH] at P0;have R2:=P0 a w (fun j=>listed.getD j false) inv.inv inv.agree hif q5 inv.closed;have hlf:listed.toList[i]?=some false:=by
   rw[Ts,Ti Xn];rw[UB,Ti Xn,Xao] at h1;rw[h1]
  have I6:(listed.setIfInBounds i true).toList.count false<=fuel:=by
   rw[Array.toList_setIfInBounds];have:=Q8i listed.toList i hlf;omega
  have Yn:(fun j=>(listed.setIfInBounds i true).getD j false)=Q1z (fun j=>listed.getD j false) i:=by
   funext j
   unfold Q1z;rw[UB,Xat]
   by_cases hji:j=i
   ·subst hji;rw[Us rfl,Us Xn,Us rfl];rfl
   ·rw[Up (fun e=>hji e.symm),Up hji,<-UB]
  have XK:∀j oj,ops[j]?=some oj->(listed.setIfInBounds i true).getD j false=true->∀k∈Q1v oj,(listed.setIfInBounds i true).getD k false=true:=by
   intro j oj VX hj k hk;have e1:(listed.setIfInBounds i true).getD j false=Q1z (fun j=>listed.getD j false) i j:=congrFun Yn j;have e2:(listed.setIfInBounds i true).getD k false=Q1z (fun j=>listed.getD j false) i k:=congrFun Yn k;rw[e1] at hj;rw[e2];unfold Q1z at*
   by_cases hki:k=i
   ·rw[Us hki]
   ·rw[Up hki]
    by_cases hji:j=i
    ·subst hji;rw[ho] at VX;injection VX with VX;subst VX;exact q5 k hk
    ·rw[Up hji] at hj;exact inv.closed j oj VX hj k hk
  have next:∀v w',I (Q1z (fun j=>listed.getD j false) i) (Q27 (Q09 ops a) i v) w'->wpAnyIn F n P .any ops Q fuel (listed.setIfInBounds i true) (a.put o.dst v) w':=by
   intro v w' hv;rw[<-Yn] at hv;cases hto:o.dst with
   |none=>exact ih _ _ _ I6 ⟨hN i o ho hto _ _ _ _ (by unfold Q09;rw[ho,TE,hto]) hv,inv.agree,by rw[Array.size_setIfInBounds];exact inv.size,XK⟩
   |some t=>
    have P6:=C3 i o t hol hto;refine ih _ _ _ I6 ⟨?_,?_,by rw[Array.size_setIfInBounds];exact inv.size,XK⟩
    ·have QP:Q09 ops (a.put (some t) v)=Q27 (Q09 ops a) i v:=by
      funext j
      unfold Q27
      by_cases hji:j=i
      ·subst hji;rw[Us rfl];unfold Q09;rw[ho,TE,hto]
       show (a.put (some t) v).tmps.getD t undef=v
       rw[Q86,UB,Xat,Us rfl,Us (by rw[inv.agree.2.1];exact P6)];rfl
      ·rw[Up hji];unfold Q09;cases VX:ops[j]? with
       |none=>rfl
       |some oj=>
        rw[TE];cases hdj:oj.dst with
        |none=>rfl
        |some t2=>
         show (a.put (some t) v).tmps.getD t2 undef=a.tmps.getD t2 undef
         rw[Q86,UB,Xat,Up ?_,<-UB];intro e;exact hji (V2 j i oj o t2 (by rw[Ts];exact VX) hol hdj (by rw[hto,e]))
     rw[QP];exact hv
    ·refine ⟨inv.agree.1,by rw[Q86,Array.size_setIfInBounds];exact inv.agree.2.1,fun t' ht'=>?_⟩;rw[Q86,Xat,Up ?_]
     ·exact inv.agree.2.2 t' ht'
     ·intro e;exact ht' o (Uf hol) (by rw[hto,e])
  unfold wpOpIn;simp only[ho]
  split
  ·next hw=>
   rw[Us hw] at R2;unfold Oper.wpIn;refine ⟨fun f _=>hF1 f,?_⟩;have hsem:o.semAt F.round a.eval=execOp a.eval o:=by
    cases hr:F.round with
    |none=>rw[Oper.semAt_none]
    |some l=>exact Oper.semAt_some l _ o (hd4 i o hol)
   rw[hsem];generalize (execOp a.eval o).run P w=res at R2;cases res with
   |ok x w'=>
    cases x with
    |value u=>exact next u w' R2
    |enter f args=>
     refine ⟨(fun h=>by rw[hF2] at h;cases h),hF3 _ _ _ _ _ (Xbd R2 ?_)⟩;rintro e w'' ⟨v,rfl,hv⟩;exact next v w'' hv
    |skip=>
     exact next undef w' R2
    |_=>exact R2.elim
   |halt x w'=>exact R2.elim
  ·next hw=>
   rw[Up hw] at R2;exact ⟨fun f _=>hF1 f,next undef w R2⟩
theorem Qpg {l:List Oper} {a0:Act} {I:Qlq} {w:World} (h0:I (fun _=>false) (Q09 l.toArray a0) w):Qgx l.toArray I a0 (Array.replicate l.toArray.size false) a0 w:=
 ⟨by
   have hf:(fun j=>(Array.replicate l.toArray.size false).getD j false)=fun _=>false:=by
    funext j
    rw[UB,Array.getElem?_replicate]
    split <;> rfl
   rw[hf];exact h0,⟨rfl,rfl,fun _ _=>rfl⟩,by simp,fun j oj _ hj=>by
   rw[UB,Array.getElem?_replicate] at hj
   split at hj <;> cases hj⟩
theorem Q7s {id:Nat} {l:List Oper} {a0:Act} {w:World} (hm:P.follows .mixedOrders=true) (I:Qlq) (hN:∀(i:Nat) o,l[i]?=some o->o.dst=none->∀D vs v w,vs i=undef->I D (Q27 vs i v) w->I D vs w) (hB:Q7r l a0.tmps.size=true) (h0:I (fun _=>false) (Q09 l.toArray a0) w.drew)
 (step:Qlp (Q9v P l.toArray I a0) l 0) (fin:∀D vs w,(∀j,j<l.length->D j=true)->I D vs w->Q .normal (Q0y vs l 0 a0) w):(Code.region id l.toArray true).wp P Q a0 w:=
 (wpIn_wide (n:=6)).1 (wpIn_region_any hm (Qgy (fun _=>trivial) rfl (fun m _ _ _ _ h=>callsIn_wide.2 h) I (by simpa using hN) a0 hB (by simpa using step) (by simpa using fin) _ _ _ _ (by simp) (Qpg h0)))
def Q1f (P:Program) (E:World->World->Prop) (V:Value->World->Prop) (w:World):Result Next->Prop
 | .ok (.value u) w'=>E w w'/\V u w'
 | .ok (.enter f args) w'=>Calls P f args w' fun e w''=>∃v,e=.returned v/\E w w''/\V v w''
 | .ok .skip w'=>E w w'/\V undef w'
 |_=>False
def Q4m (P:Program) (E:World->World->Prop) (ops:Array Oper) (C:World->Prop) (V:Nat->Value->World->Prop) (a0:Act) (k:Nat) (o:Oper):Prop:=
 ∀a w,C w->Q7q ops a0 a->(∀i∈Q1v o,V i (Q09 ops a i) w)->
  if Region.wanted o (yielded ops a.tmps) then Q1f P E (V k) w ((execOp a.eval o).run P w) else V k undef w
def Q3k (P:Program) (E:World->World->Prop) (ops:Array Oper) (C:World->Prop) (V:Nat->Value->World->Prop) (a0:Act):List Oper->Nat->Prop:=Qlp (Q4m P E ops C V a0)
theorem Q3k.at_ {E:World->World->Prop} {C:World->Prop} {V:Nat->Value->World->Prop} {a0:Act} (l:List Oper) (k i:Nat) (o:Oper) (h:Q3k P E ops C V a0 l k) (ho:l[i]?=some o):Q4m P E ops C V a0 (k+i) o:=Qlp.at_ l k i o h ho
def Qzz (C:World->Prop) (V:Nat->Value->World->Prop):Qlq:=fun D vs w=>C w/\∀j,D j=true->V j (vs j) w
theorem Q9w {E:World->World->Prop} {C:World->Prop} (hC:∀w w',C w->E w w'->C w') {V:Nat->Value->World->Prop} (hV:∀i v w w',V i v w->E w w'->V i v w') {D:Nat->Bool} {vs:Nat->Value} {w w':World} {k:Nat} {u:Value} (h:Qzz C V D vs w) (hE:E w w') (hu:V k u w'):Qzz C V (Q1z D k) (Q27 vs k u) w':=by
 refine ⟨hC _ _ h.1 hE,fun j hj=>?_⟩;unfold Q1z at hj;unfold Q27
 split at hj
 ·next e=>rw[Us e,e];exact hu
 ·next e=>rw[Up e];exact hV _ _ _ _ (h.2 j hj) hE
theorem Qsq {C:World->Prop} {V:Nat->Value->World->Prop} {i:Nat} (hN:∀v w,V i v w->V i undef w) (D:Nat->Bool) (vs:Nat->Value) (v:Value) (w:World) (hu:vs i=undef) (h:Qzz C V D (Q27 vs i v) w):Qzz C V D vs w:=by
 refine ⟨h.1,fun j hj=>?_⟩;have h1:=h.2 j hj;unfold Q27 at h1
 split at h1
 ·next e=>subst e;rw[hu];exact hN _ _ h1
 ·exact h1
theorem Qyh {E:World->World->Prop} (hE:∀w,E w w) {C:World->Prop} (hC:∀w w',C w->E w w'->C w') {V:Nat->Value->World->Prop} (hV:∀i v w w',V i v w->E w w'->V i v w') {a0:Act} (k:Nat) (o:Oper) (h:Q4m P E ops C V a0 k o):Q9v P ops (Qzz C V) a0 k o:=by
 intro a w D hI F0 _ A0 _;have h1:=h a w hI.1 F0 fun i hi=>hI.2 i (A0 i hi)
 split at h1
 ·next hw=>
  rw[Us hw];generalize (execOp a.eval o).run P w=res at h1;unfold Q1f at h1;unfold Q0n
  split at h1
  ·exact Q9w hC hV hI h1.1 h1.2
  ·exact Xbd h1 fun e w2 ⟨v,e1,e2,e3⟩=>⟨v,e1,Q9w hC hV hI e2 e3⟩
  ·exact Q9w hC hV hI h1.1 h1.2
  ·exact h1.elim
 ·next hw=>
  rw[Up hw];exact Q9w hC hV hI (hE w) h1
theorem Q0l {E:World->World->Prop} (hE:∀w,E w w) {id:Nat} {l:List Oper} {a0:Act} {w:World} (hm:P.follows .mixedOrders=true) (C:World->Prop) (hC:∀w w',C w->E w w'->C w') (V:Nat->Value->World->Prop) (hV:∀i v w w',V i v w->E w w'->V i v w') (hN:∀(i:Nat) o,l[i]?=some o->o.dst=none->∀v w,V i v w->V i undef w) (hB:Q7r l a0.tmps.size=true) (h0:C w.drew)
 (step:Q3k P E l.toArray C V a0 l 0) (fin:∀vs w,C w->(∀j,j<l.length->V j (vs j) w)->Q .normal (Q0y vs l 0 a0) w):(Code.region id l.toArray true).wp P Q a0 w:=
 Q7s hm (Qzz C V) (fun i o hi hd=>Qsq (hN i o hi hd)) hB ⟨h0,fun _ h=>by cases h⟩ (Qlp.imp (Qyh hE hC hV) l 0 step) fun _ vs w hD h=>fin vs w h.1 fun j hj=>h.2 j (hD j hj)
theorem Q1w {a:Act} {t:Tmp} {v:Value} (h:a.eval (.tmp t)=v):a.tmps[t]?.getD undef=v:=by
 have h':a.tmps.getD t undef=v:=h;rwa[UB] at h'
theorem Qin {o:Oper} {a:Act} {j:Nat} {b c:Bool} {t:Tmp} (hg:o.guard=some (j,b)) (ht:(ops[j]?).bind (·.dst)=some t) (he:a.eval (.tmp t)=.bool c):Region.wanted o (yielded ops a.tmps)=(c==b):=by
 have hy:yielded ops a.tmps j=some c:=by
  unfold yielded;rw[ht,TE];have WW:a.tmps.getD t undef=.bool c:=he;rw[UB] at WW;cases hx:a.tmps[t]? with
  |none=>rw[hx] at WW;cases WW
  |some v=>rw[hx] at WW;have h2:v=.bool c:=WW;rw[h2]
 unfold Region.wanted;rw[hg]
 show (yielded ops a.tmps j==some b)=_
 rw[hy];rfl
theorem Qsr {o:Oper} {a:Act} (hg:o.guard=none):Region.wanted o (yielded ops a.tmps)=true:=by unfold Region.wanted;rw[hg]
theorem Qvu {E:World->World->Prop} {o:Oper} {a:Act} {w:World} {V:Value->World->Prop} {j:Nat} {b:Bool} {t:Tmp} (hg:o.guard=some (j,b)) (ht:(ops[j]?).bind (·.dst)=some t) (he:a.eval (.tmp t)=.bool b) (h:Q1f P E V w ((execOp a.eval o).run P w)):
 if Region.wanted o (yielded ops a.tmps) then Q1f P E V w ((execOp a.eval o).run P w) else V undef w:=by
 rw[Us (by rw[Qin hg ht he];simp)];exact h
theorem Qss {E:World->World->Prop} {o:Oper} {a:Act} {w:World} {V:Value->World->Prop} {j:Nat} {b:Bool} {t:Tmp} (hg:o.guard=some (j,b)) (ht:(ops[j]?).bind (·.dst)=some t) (he:a.eval (.tmp t)=.bool (!b)) (h:V undef w):
 if Region.wanted o (yielded ops a.tmps) then Q1f P E V w ((execOp a.eval o).run P w) else V undef w:=by
 rw[Up (by rw[Qin hg ht he];cases b <;> simp)];exact h
theorem Q02 {E:World->World->Prop} {o:Oper} {a:Act} {w:World} {V:Value->World->Prop} (hg:o.guard=none) (h:Q1f P E V w ((execOp a.eval o).run P w)):
 if Region.wanted o (yielded ops a.tmps) then Q1f P E V w ((execOp a.eval o).run P w) else V undef w:=by
 rw[Us (Qsr hg)];exact h
def Q56 (cs:LV) (L:Nat->Option (Value->World->Prop)) (i:Nat) (v:Value) (w:World):Prop:=match L i with|some φ=>φ v w|none=>v=cs.getD i undef
theorem Q0f {cs:LV} {L:Nat->Option (Value->World->Prop)} {i:Nat} {v:Value} {w:World} (h:L i=none):Q56 cs L i v w↔v=cs.getD i undef:=by unfold Q56;rw[h]
theorem Q00 {cs:LV} {L:Nat->Option (Value->World->Prop)} {i:Nat} {φ:Value->World->Prop} {v:Value} {w:World} (h:L i=some φ):Q56 cs L i v w↔φ v w:=by unfold Q56;rw[h]
theorem Q7q.keep {a0 a:Act} (h:Q7q ops a0 a) {t:Tmp} {v:Value} (ht:(ops.toList.all fun o=> !(o.dst==some t))=true) (hv:a0.tmps.getD t undef=v):a.eval (.tmp t)=v:=by
 show a.tmps.getD t undef=v
 rw[UB,h.2.2 t ?_,<-UB,hv];intro o ho e;have:=Tu.1 ht o ho;rw[e] at this;simp at this
end
end Go.Proofs.YtidojbkhlenahaaGreatDoor
namespace Go.Proofs.YtidojbkhlenahaaGreatDoor
open Go.RowKit WordsM DecM
theorem Qyi (B m:Nat):val B [m]=m:=by simp[val]
theorem Q3h {P:Program} {ops:Array Oper} {o:Oper} {a:Act} {w:World} {K:Act->World->Prop} {Q:Exit->Act->World->Prop} {E:Prop} (QA:o.guard=none) (f:FuncId) (args:Array Value)
 (S1:(execOp a.eval o).run P w=.ok (.enter f args) w) (h:Calls P f args w fun e w'=>∃v,e=.returned v/\K (a.put o.dst v) w'):if Region.wanted o (yielded ops a.tmps)=true then Oper.wp P o a w K Q else E:=by
 rw[Us (by simp[Region.wanted,QA])];unfold Oper.wp;rw[S1,Oper.upon_enter];exact h.mono (by rintro e w' ⟨v,rfl,hk⟩;exact hk)
theorem Q87 {B:Nat} {w W:World} (h:Below B w W):Below B w W.drew:=⟨h.os,h.tape,h.output,h.size,h.block⟩
theorem Qst (w:World) (m:Nat) (hm:m<18446744073709551616) (T:TypeId):WordsIn (w.alloc (.cells #[.int .u64 (m:Int)] T)) (some ⟨w.heap.size,0,none⟩) 1 1 [m]:=
 ⟨rfl,Ue _,by omega,fun x hx=>by rw[Ux] at hx;subst hx;exact hm,.inr ⟨w.heap.size,0,rfl,Q0h _ _,fun j x hx=>by
   cases j with
   |zero=>simp only[UD,Uj] at hx;subst hx;rw[Uv _ _ _ _ _ _ (Um _ _)];rfl
   |succ j=>simp at hx⟩⟩
def Q3b (neg:Bool) (exp:Int) (ls:LN):LU:=if Q0a neg exp ls then Q2e neg (val (2^64) ls) exp else []
theorem Q0a.exp {neg:Bool} {exp:Int} {ls:LN} (h:Q0a neg exp ls): -65536<=exp/\exp<=65536/\ls.length<=64:=by
 unfold Q0a at h
 split at h
 ·rename_i h0;rw[h0,h.2];simp
 ·exact ⟨h.2.2.2.1,h.2.2.2.2,h.2.1⟩
theorem Qsu {w:World} {a:OA} {n c:Nat} {ls:LN} (h:WordsIn w a n c ls) (hn:n<=64):(dec (val (2^64) ls)).length<=1281:=by
 have h1:=NatM.dec_val_len (NatM.halves_small h.low);rw[Qfk,NatM.halves_len,h.len] at h1;exact Un h1 (by omega)
end Go.Proofs.YtidojbkhlenahaaGreatDoor
namespace Go.Proofs.YtidojbkhlenahaaGreatDoor
open Go.RowKit WordsM
theorem Qio {B:Nat} {L A:LN} {k i s x y lo hi:Nat} (hL:val B L=val B (A.take i)*(B^k*2^s)) (hx:A[i]?=some x) (hy:L[k+i]?=some y) (h0:L[k+i+1]?=some 0)
 (hp:x*2^s=lo+B*hi):val B ((L.set (k+i) (y+lo)).set (k+i+1) hi)=val B (A.take (i+1))*(B^k*2^s):=by
 have h1:=Qaf (B:=B) L (k+i) (y+lo) y hy;have h2:=Qaf (B:=B) (L.set (k+i) (y+lo)) (k+i+1) hi 0 (by rw[Te (by omega)];exact h0);rw[Q1c A i x hx,Tm,<-hL];have e1:B^i*x*(B^k*2^s)=lo*B^(k+i)+hi*B^(k+i+1):=by
  have e2:B^i*x*(B^k*2^s)=(x*2^s)*B^(k+i):=by
   rw[Tp,UC (B^i) x,UL x,<-UL (B^i),UC (B^i),UL (B^k),UC (B^i),<-UL (B^k),UC (B^k) (2^s),UL (2^s),<-UL x]
  rw[e2,hp,Tm,Tf,UC B hi,UL hi,UC B]
 rw[Tm] at h1;omega
theorem Qyj {s t x y:Nat} (P0:s+t=32) (hx:x<2^32) (hy:y<2^s):y |||x*2^s%2^32=y+x*2^s%2^32/\y+x*2^s%2^32<2^32/\x*2^s / 2^32<2^s:=by
 have e:(2:Nat)^32=2^t*2^s:=by rw[<-Tp,<-P0,Xbf]
 have e2:x*2^s%2^32=2^s*(x%2^t):=by rw[e,Nat.mul_mod_mul_right,UC]
 have hm:x%2^t<2^t:=TK _ (Tr (by decide));have G5:2^s*(x%2^t+1)<=2^s*2^t:=Xad _ hm;rw[Tv,Nat.mul_one,UC (2^s) (2^t),<-e] at G5;refine ⟨?_,?_,?_⟩
 ·rw[e2,Nat.or_comm,<-Nat.two_pow_add_eq_or_of_lt hy,Xbf]
 ·rw[e2];omega
 ·rw[UC];exact TY (by rw[UC (2^32)];exact Nat.mul_lt_mul_of_pos_left hx (Tr (by decide)))
theorem Qd7 (a:OA) (n c:Nat) (v z:Nat) (w:World) (h:Q0r w a n c v) (hn:n<=1000000) (hz:z<=100000000):
 Calls Tryz.prog 206 #[.slice a n c,.int .i64 (z:Int)] w fun e w'=>∃a' n',e=.returned (.slice a' n' n')/\n'<=n+z / 32+1/\Q0r w' a' n' n' (v*2^z)/\Bw w w':=by
 have hv:val (2^32) (dig (2^32) v)=v:=Q0v (by decide) v;have hl:=Q28 (B:=2^32) (by decide) v;have m6:=h.len;have hr:=h.rd;obtain ⟨A,hA⟩:∃A,dig (2^32) v=A:=⟨_,rfl⟩;rw[hA] at hv hl m6 hr;subst m6
 by_cases h0:A.length=0
 ·have C9:A=[]:=UJ.1 h0;have x7:v=0:=by rw[<-hv,C9];rfl
  rw[x7,Xaa,h0]
  go_enter Tryz.func206,Tryz.ntmps206
  go_wp2_with fail
  go_ret;exact ⟨none,0,rfl,Ut _,Q0r.nil_ w,Ug _ _⟩
 have h0':¬((A.length:Int)=0):=by omega
 have h0b:((A.length:Int)==0)=false:=by rw[Uk];exact h0'
 obtain ⟨k,hk⟩:∃k,z / 32=k:=⟨_,rfl⟩;obtain ⟨s,hs⟩:∃s,z%32=s:=⟨_,rfl⟩;have WS:s<32:=by omega
 have KQ:z=32*k+s:=by omega
 have XI:(z:Int).tdiv 32=(k:Int):=by rw[Int.tdiv_eq_ediv_of_nonneg (by omega)];omega
 have hsI:(z:Int).tmod 32=(s:Int):=by rw[Int.tmod_eq_emod_of_nonneg (by omega)];omega
 have hkI2:(z:Int) / 32=(k:Int):=by omega
 have Ym:(z:Int)%32=(s:Int):=by omega
 have hzv:v*2^z=v*((2^32)^k*2^s):=by rw[KQ,Tp,TZ]
 rw[hzv,hk];have C4:=Xa8 (P:=Tryz.prog) 85 150 (.int .u32 0) 4 Tryz.underlying85 Q7x rfl .i64 .i64 (k+A.length+1) (by omega) (by omega);rw[show ((k+A.length+1:Nat):Int)=(k:Int)+(A.length:Int)+1 by omega,Q22] at C4;have H:=Xh3 hv hl hr;clear hv hl hr hA h hk hs hzv KQ h0
 go_enter Tryz.func206,Tryz.ntmps206
 go_wp2_with fail
 have Z2:Bw w (w.alloc (.cells (Array.replicate (k+A.length+1) (nv .u32 0)) 150)):=Ba;have C9:=Arr.zeros w 150 .u32 (k+A.length+1);have H0:=Xh2 Z2 C9;clear Z2 C9 C4
 go_loopw [6] (fun iv wr=>∃(i:Nat) (L:LN),iv=.int .i64 (i:Int)/\i<=A.length/\Arr 150 .u32 wr w.heap.size L/\L.length=k+A.length+1/\Low (2^32) L/\val (2^32) L=val (2^32) (A.take i)*((2^32)^k*2^s)/\(∀t,k+i<t->t<k+A.length+1->L[t]?=some 0)/\(∃y,L[k+i]?=some y/\y<2^s)/\Bw w wr) (fun iv _=>A.length-(intOf iv).toNat)
 case atStart=>
  refine ⟨0,List.replicate (k+A.length+1) 0,rfl,Ut _,(Xe1 H0),by simp,fun x hx=>?_,by rw[Q7c];simp[val],fun t _ ht=>?_,⟨0,?_,Tr (by decide)⟩,(Xo0 H0)⟩
  ·rw[TM hx];decide
  ·rw[TD];simp[ht]
  ·rw[TD,Us (by omega)]
 case round=>
  obtain ⟨i,L,rfl,hi,hL,o4,S0,M0,Q4,⟨y,hy,WC⟩,O0⟩:=hrel
  by_cases E0:i<A.length
  ·have J0:(i:Int)<(A.length:Int):=(by omega);obtain ⟨x,hx⟩:∃x,A[i]?=some x:=⟨_,Ua E0⟩;obtain ⟨ba,oa,U5,J1,u5⟩:=((Xe2 H).below O0).at_ hx;have D4:x<4294967296:=(Xo1 H) x (Uf hx);have Qo:y<4294967296:=S0 y (Uf hy);subst U5;obtain ⟨Q7,XE,Qn⟩:=Qyj (s:=s) (t:=32-s) (x:=x) (y:=y) (by omega) D4 WC;have YJ:=Q4 (k+i+1) (by omega) (by omega);have Zt:x*2^s<18446744073709551616:=by
    have h1:x*2^s<=x*2^32:=Xad _ (UO (by decide) (by omega));have h2:x*2^32<2^32*2^32:=TL D4 (by decide);exact TS h1 h2
   have R2:=fun lo hi (hp:x*2^s=lo+2^32*hi)=>Qio (lo:=lo) (hi:=hi) M0 hx hy YJ hp;obtain ⟨p,hp⟩:∃p,x*2^s=p:=⟨_,rfl⟩;have Yy:(x:Int)*2^s=(p:Int):=(by rw[<-hp];norm_cast);rw[hp] at Q7 XE Qn Zt R2;have B6:=Qrl p Zt;obtain ⟨lo,i4⟩:∃lo,p%4294967296=lo:=⟨_,rfl⟩;obtain ⟨QJ,Qd⟩:∃hi,p / 4294967296=hi:=⟨_,rfl⟩;rw[i4] at B6;have Qk:lo<4294967296:=(by omega);have hhil:QJ<4294967296:=(by omega);have hhiI:(p:Int) / 4294967296=(QJ:Int):=(by omega);rw[show p%2^32=lo from i4] at Q7 XE;rw[show p / 2^32=QJ from Qd] at Qn;have P0:=R2 lo QJ (by omega);have ho32:=u32_or_nat y lo Qo Qk;rw[Q7] at ho32;obtain ⟨q,hq⟩:∃q,y+lo=q:=⟨_,rfl⟩;rw[hq] at ho32 XE P0;have YV:wr.cell? ⟨w.heap.size,k+i,none⟩=some (.int .u32 (y:Int)):=hL.cell hy;have YN:wr.frozen? ⟨w.heap.size,k+i,none⟩=false:=hL.frozen _;have ZM:=hL.set (k+i) q;have x8:(L.set (k+i) q)[k+i+1]?=some 0:=(by rw[Te (by omega)];exact YJ);have hzc1:=ZM.cell x8;have hzf1:(wr.setCell ⟨w.heap.size,k+i,none⟩ (.int .u32 (q:Int))).frozen? ⟨w.heap.size,k+i+1,none⟩=false:=ZM.frozen _;have Vc:=ZM.set (k+i+1) QJ;have hki:(k:Int)+(i:Int)<(k:Int)+(A.length:Int)+1:=(by omega);have hki1:(k:Int)+(i:Int)+1<(k:Int)+(A.length:Int)+1:=(by omega);have HH:=Xh6 P0 Vc S0 O0 Q4 Qn;clear P0 hL ZM Vc S0 M0 O0 Q4 i4 Qd hp hx hy YJ R2 Q7 x8 Qn hq
   go_wp2_with fail
   refine ⟨⟨i+1,(L.set (k+i) q).set (k+i+1) QJ,by simp,by omega,(Xo1 HH),by simp[o4],Q43 (Q43 (Xo2 HH) XE) hhil,(Xo0 HH),fun t Q2 M1=>?_,⟨QJ,?_,(Xe5 HH)⟩,((Xo3 HH).setCell (p:=⟨w.heap.size,k+i,none⟩) (Ue _) _).setCell (p:=⟨w.heap.size,k+i+1,none⟩) (Ue _) _⟩,by simp only[intOf];omega⟩
   ·rw[Te (by omega),Te (by omega)];exact (Xo4 HH) t (by omega) M1
   ·rw[show k+(i+1)=k+i+1 by omega,TG (by rw[Tk];omega)]
  ·obtain rfl:i=A.length:=(by omega);have J0:¬((A.length:Int)<(A.length:Int)):=(by omega);rw[Tn,(Xo0 H)] at M0;have hT:=Q5b (some ⟨w.heap.size,0,none⟩) (k+A.length+1) (k+A.length+1) L wr o4 (Ue _) (by omega) hL.rd S0;rw[M0] at hT;have HE:=Xh2 hT O0;clear hT O0 M0 hL S0 Q4
   go_wp2_with (refine (Xo0 HE).mono ?_;rintro e w1 ⟨n',rfl,Zb,hD,rfl⟩;have ZR:=Xh2 hD Zb;clear hD Zb)
   go_ret;exact ⟨_,n',rfl,by have:=(Xe1 ZR);omega,(Xo0 ZR),(Xe1 HE)⟩
end Go.Proofs.YtidojbkhlenahaaGreatDoor
