/- Part 6. No condition. -/
import Derived.Sort.QuietTacIn
import Derived.RangeFuncCalls
import Derived.BigRegion
import Derived.Test.YtidojbkhlenahaaGreatDoorPkProblemRights05
set_option maxRecDepth 100000
set_option maxHeartbeats 16000000
namespace Go.Proofs.YtidojbkhlenahaaGreatDoor
open Go.RowKit WordsM
theorem Qrc {B d:Nat} {A L:LN} {k x rest:Nat} (hx:A[k]?=some x) (hk:k<L.length) (h:val B (L.drop (k+1))*d+rest=val B (A.drop (k+1))):
 val B ((L.set k ((rest*B+x) / d)).drop k)*d+(rest*B+x)%d=val B (A.drop k):=by
 have hka:k<A.length:=(Ui.1 hx).1;have YM:A[k]=x:=(Ui.1 hx).2;have e1:A.drop k=x::A.drop (k+1):=by rw[UB hka,YM]
 have Z6:k<(L.set k ((rest*B+x) / d)).length:=by rw[Tm];exact hk
 have e2:(L.set k ((rest*B+x) / d)).drop k=(rest*B+x) / d::L.drop (k+1):=by
  rw[UB Z6,List.getElem_set_self,List.drop_set_of_lt (by omega)]
 rw[e1,e2];simp only[val];rw[<-h];have h1:=TY (rest*B+x) d;generalize (rest*B+x) / d=q at*;generalize (rest*B+x)%d=r at*;generalize val B (L.drop (k+1))=V at*;rw[Tl,TE,UM,UA q d,UA B rest];omega
theorem Qo8 (a:OA) (n c:Nat) (A:LN) (d:Nat) (w:World) (h:WordsIn w a n c A) (hn:n<=100000) (hd:9223372036854775808<=d) (A7:d<18446744073709551616):
 Calls Tryz.prog 158 #[.slice a n c,.int .u64 (d:Int)] w fun e w'=>∃a' n' c',e=.returned (.tuple #[.slice a' n' c',.int .u64 ((val (2^64) A%d:Nat):Int)])/\WordsIn w' a' n' c' (dig (2^64) (val (2^64) A / d))/\Bw w w'/\∀x,a'=some x->w.heap.size<=x.block:=by
 have K0:=h.len;have H:=Ua h;have m5:=Xa7 (P:=Tryz.prog) 24 83 (.int .u64 0) 8 Tryz.underlying24 Q5r rfl .i64 .i64 n (by omega) (by omega);rw[Q2j] at m5;have Z2:Bw w (w.alloc (.cells (Array.replicate n (nv .u64 0)) 83)):=Ba;have j8:=Arr.zeros w 83 .u64 n;have H0:=Xh2 Z2 j8;clear Z2 j8 h
 go_enter Tryz.func158,Tryz.ntmps158
 go_wp2_with fail
 clear m5
 go_loopw [7,8] (fun rv iv wr=>∃(k rest:Nat) (L:LN),rv=.int .u64 (rest:Int)/\iv=.int .i64 ((k:Int)-1)/\k<=n/\rest<d/\Arr 83 .u64 wr w.heap.size L/\L.length=n/\Low (2^64) L/\val (2^64) (L.drop k)*d+rest=val (2^64) (A.drop k)/\Bw w wr) (fun _ iv _=>(intOf iv+1).toNat)
 case atStart=>
  refine ⟨n,0,List.replicate n 0,rfl,rfl,Uf _,by omega,(Xe1 H0),by simp,fun x hx=>?_,?_,(Xo0 H0)⟩
  ·rw[TV hx];decide
  ·rw[Xac (by simp),Xac (by omega)];simp[val]
 case round=>
  obtain ⟨k,rest,L,rfl,rfl,hk,x5,hL,M4,Q0,J0,N0⟩:=hrel;cases k with
  |zero=>
   rw[Xba,Xba] at J0;have hq:val (2^64) A / d=val (2^64) L:=by
    rw[<-J0,UA,Nat.mul_add_div (by omega),Xap x5,TD]
   have hr:val (2^64) A%d=rest:=by
    rw[<-J0,UA,Nat.mul_add_mod,Xaj x5]
   have hW:WordsIn wr (some ⟨w.heap.size,0,none⟩) n n L:=⟨M4,Uf _,by omega,Q0,hL.rd⟩;have E4:trimL L=dig (2^64) (val (2^64) A / d):=(by rw[Q1m (by decide) Q0,hq]);have HE:=Xh3 hW N0 E4;have HR:=Ua hr;clear hW N0 E4 J0 hL Q0 hq hr H0
   go_wp2_with (refine (Q19 _ _ _ _ _ (Xo0 HE)).mono ?_;rintro e w5 ⟨rfl,C1⟩;have M3:=Ua C1;clear C1)
   have D4:=((Xo0 HE).step M3.out).trim;rw[(Xe2 HE)] at D4;refine ⟨rfl,.tuple #[.slice (some ⟨w.heap.size,0,none⟩) (trimL L).length n,.int .u64 (rest:Int)],by simp[results,go_sem],some ⟨w.heap.size,0,none⟩,(trimL L).length,n,by rw[HR.out],?_,Below.next0 (Xo1 HE) M3.out,fun x e=>by injection e with e;subst e;exact Uf _⟩;rw[(Xe2 HE)];exact D4
  |succ m=>
   obtain ⟨x,hx⟩:∃x,A[m]?=some x:=⟨_,Ub (by omega)⟩;obtain ⟨b,o,E5,V5,Y3⟩:=(H.out.rd.below N0).at_ hx;have N4:x<18446744073709551616:=H.out.low x (Ug hx);subst E5;have Y0:=Qrc (B:=2^64) hx (by omega) J0;rw[show (2:Nat)^64=18446744073709551616 from rfl] at Y0;have XZ:=fun W=>Qrb rest x d W x5 N4 hd A7;have X0:(rest*18446744073709551616+x)%d<d:=TP _ (by omega);have J5:(rest*18446744073709551616+x) / d<18446744073709551616:=by
    refine TZ ?_;have h1:(rest+1)*18446744073709551616<=d*18446744073709551616:=UY _ x5;omega
   generalize (rest*18446744073709551616+x) / d=q at*;generalize (rest*18446744073709551616+x)%d=r at*;have hmI:((m:Int)+1-1)=(m:Int):=(by omega);have HDV:=Ua XZ;have Wj:wr.frozen? ⟨w.heap.size,m,none⟩=false:=hL.frozen m;obtain ⟨z,hz⟩:∃z,L[m]?=some z:=⟨_,Ub (by omega)⟩;have Wk:wr.cell? ⟨w.heap.size,m,none⟩=some (.int .u64 (z:Int)):=hL.cell hz;have hgl:w.heap.size<wr.heap.size:=hL.lt;have HH:=Xh4 Y0 hL Q0 N0;clear XZ Y0 hL Q0 J0 N0 hx hz
   go_wp2_with (refine (HDV.out _).mono ?_;rintro e w5 ⟨rfl,C1⟩;have hzf5:=(C1.frozen (p:=⟨w.heap.size,m,none⟩) hgl).trans Wj;have hzc5:=(C1.cell (p:=⟨w.heap.size,m,none⟩) hgl).trans Wk;have M3:=Ua C1;clear C1)
   refine ⟨⟨m,r,L.set m q,rfl,rfl,by omega,X0,((Xo1 HH).call M3.out).set m q,by simp[M4],Q42 (Xo2 HH) J5,(Xo0 HH),(Below.next0 (Xe3 HH) M3.out).setCell (p:=⟨w.heap.size,m,none⟩) (Uf _) _⟩,by simp only[intOf];omega⟩
theorem Qcw (a:OA) (n c:Nat) (ls:LN) (w:World) (h:WordsIn w a n c ls) (hn:n<=100000) (h0:val (2^64) ls≠0):
 Calls Tryz.prog 146 #[.slice a n c] w (Qm7 w (val (2^64) ls)):=by
 have hc:=Q19 a n c ls w h;have hT:=fun W (hb:Bw w W)=>(h.step hb).trim;have htd:trimL ls=dig (2^64) (val (2^64) ls):=Q1m (by decide) h.low;have P0:trimL ls≠[]:=fun e=>h0 (by rw[<-Q17 ls,e];rfl);have S5:=trim_len ls;have Q2:=h.len;obtain ⟨b,o,rfl⟩:∃b o,a=some ⟨b,o,none⟩:=by
  rcases (hT w (Uc _ _)).rd with e|⟨b,o,e,_⟩
  ·exact absurd e P0
  ·exact ⟨b,o,e⟩
 rw[htd] at hc hT S5;obtain ⟨D,hD⟩:∃D,dig (2^64) (val (2^64) ls)=D:=⟨_,rfl⟩;have hDl:Low (2^64) D:=hD ▸ Q2i (by decide) _;have hD0:D≠[]:=by rw[<-hD,<-htd];exact P0
 rw[hD] at hc hT S5;obtain ⟨i0,O2,E2,I2,X1⟩:∃i0:TypeInfo,Tryz.prog.info? 83=some i0/\i0.zero=some (.int .u64 0)/\i0.size=1/\i0.bytes=8:=by
  have:=Q5r;cases hi:Tryz.prog.info? 83 with
  |none=>rw[hi] at this;cases this
  |some i0=>
   rw[hi] at this;simp only[UE,Up,Xat] at this;exact ⟨i0,rfl,this.1,this.2.1,this.2.2⟩
 have G2:=fun W (hW:WordsIn W (some ⟨b,o,none⟩) D.length c D)=>Tryz.J2i i0 (.int .u64 0) 1 8 O2 E2 I2 X1 rfl (by decide) Qfx b o D.length c (D.map (nv .u64)) W (by simp) (by unfold maxLen;omega) (by omega) (fun j u hu=>by
  rw[UK] at hu;cases hx:D[j]? with
  |none=>rw[hx] at hu;cases hu
  |some x=>
   rw[hx] at hu;simp only[UE,Up] at hu;subst hu;obtain ⟨b',o',e,_,R6⟩:=hW.rd.at_ hx;injection e with e;injection e with e1 e2;subst e1 e2;exact R6) (Qq9 _ _)
 have HC:=Xh3 hc hT G2;have HD:=Ua hD;clear hc hT G2 htd P0 h O2 E2 I2 X1 h0
 go_enter Tryz.func146,Tryz.ntmps146
 go_wp2_with (first
  |(go_at_call_of 144 (some ⟨b,o,none⟩:OA);refine (Xo0 HC).mono ?_;rintro e w1 ⟨rfl,A0⟩;have O0:=Ua A0;clear A0)
  |(refine ((Xe2 HC) _ ((Xo1 HC) _ O0.out)).mono ?_;rintro e w2 ⟨v',rfl,R3,XU,D0⟩;have D1:=Xh3 R3 XU D0;clear R3 XU D0))
 go_ret;obtain ⟨_,⟨e,_⟩|⟨g,cap,cur,rfl,JD,hg,YA,R2,W6,o5⟩⟩:=(Xo0 D1)
 ·exact absurd e (Xo1 D1)
 ·refine ⟨_,_,_,rfl,?_,Below.next0 O0.out (Xe2 D1)⟩;rw[HD.out];refine ⟨?_,.inr fun x hx=>by injection hx with hx;subst hx;exact Ul O0.out.size JD⟩;refine ⟨rfl,YA,by simpa[maxLen] using R2,hDl,.inr ⟨g,0,rfl,(Uq.1 hg).1,fun j x hx=>?_⟩⟩;rw[Uw _ _ _ _ _ _ hg,UV];have hj:j<D.length:=(Ui.1 hx).1;have h1:(cur.toList.take (D.length*1))[j]?=some (nv .u64 x):=by rw[o5,UK,hx];rfl
  rw[TL,Uu (by omega),Tn] at h1;exact h1
theorem Qkq (a:OA) (n c:Nat) (ls:LN) (w:World) (h:WordsIn w a n c ls) (hn:n<=100000) (h0:val (2^64) ls≠0):
 Calls Tryz.prog 146 #[.slice a n c] w (Q90 w (val (2^64) ls)):=(Qcw a n c ls w h hn h0).mono fun _ _ h=>h.out
theorem Qx5 (x:Nat) (w:World):Calls Tryz.prog 253 #[.int .u64 (x:Int)] w fun e w'=>e=.returned (.bool false)/\w=w':=by
 go_enter Tryz.func253,Tryz.ntmps253
 go_wp2_with fail
 go_ret;exact ⟨by simp,rfl⟩
theorem Qrd (x y:Nat) (w:World):Calls Tryz.prog 205 #[.int .u64 (x:Int),.int .u64 (y:Int)] w fun e w'=>e=.returned (.int .i64 (Lib.compareInt x y))/\w=w':=by
 have hn:=fun x=>Qx5 x w
 by_cases h1:(x:Int)<(y:Int)
 ·go_enter Tryz.func205,Tryz.ntmps205
  go_wp2_with (refine (hn _).mono ?_;rintro e w1 ⟨rfl,rfl⟩)
  go_ret;exact ⟨by simp[Lib.compareInt,h1],rfl⟩
 ·by_cases h2:(y:Int)<(x:Int)
  ·go_enter Tryz.func205,Tryz.ntmps205
   go_wp2_with (refine (hn _).mono ?_;rintro e w1 ⟨rfl,rfl⟩)
   go_ret;exact ⟨by rw[Lib.compareInt,Us (by omega),Uu (by omega)];rfl,rfl⟩
  ·go_enter Tryz.func205,Tryz.ntmps205
   go_wp2_with (refine (hn _).mono ?_;rintro e w1 ⟨rfl,rfl⟩)
   go_ret;exact ⟨by rw[Lib.compareInt,Us (by omega),Us (by omega)];rfl,rfl⟩
theorem Q1o {B u v:Nat} (hB:2<=B) (h:u<=v):(dig B u).length<=(dig B v).length:=by
 refine Q2q hB (TQ h ?_);have h1:=Q2y (B:=B) (by omega) (dig B v) (Q2i hB v);rwa[Q0s hB] at h1
theorem Qge {B:Nat} (hB:0<B) {A K:LN} {j x y:Nat} (hA:Low B A) (hx:A[j]?=some x) (hy:K[j]?=some y) (hd:A.drop (j+1)=K.drop (j+1)) (E0:x<y):val B A<val B K:=by
 have hja:j<A.length:=(Ui.1 hx).1;have XP:j<K.length:=(Ui.1 hy).1;have h1:=Q3s (B:=B) A j;have h2:=Q3s (B:=B) K j;rw[UB hja,(Ui.1 hx).2] at h1;rw[UB XP,(Ui.1 hy).2,<-hd] at h2;simp only[val] at h1 h2;have h3:=Q2y hB (A.take j) fun z hz=>hA z (Ts hz);rw[UW,Xa0 (by omega)] at h3;generalize val B (A.drop (j+1))=R at*;have h4:B^j*(x+B*R+1)<=B^j*(y+B*R):=Xal _ (by omega);rw[TE (B^j) (x+B*R) 1,Xbm] at h4;omega
theorem Q8l (a:OA) (n c:Nat) (ls:LN) (b:OA) (m d:Nat) (ks:LN) (w:World) (h1:WordsIn w a n c ls) (h2:WordsIn w b m d ks) (hn:n<=100000):
 Calls Tryz.prog 149 #[.slice a n c,.slice b m d] w fun e w'=>(∃r:Int,e=.returned (.int .i64 r)/\(r<0↔val (2^64) ls<val (2^64) ks)/\(0<r↔val (2^64) ks<val (2^64) ls)/\-1<=r/\r<=1)/\Bw w w':=by
 have i5:=h1.len;have o7:=h2.len;have I3:=trim_len ls;have F2:=trim_len ks;have QX:val (2^64) (trimL ls)=val (2^64) ls:=Q17 ls;have QE:val (2^64) (trimL ks)=val (2^64) ks:=Q17 ks;have C6:=Q1m (B:=2^64) (by decide) h1.low;have A7:=Q1m (B:=2^64) (by decide) h2.low;have C2:=fun W (hb:Bw w W)=>Q19 a n c ls W (h1.step hb);have A2:=fun W (hb:Bw w W)=>Q19 b m d ks W (h2.step hb);have E3:=fun W (hb:Bw w W)=>(h1.step hb).trim;have R4:=fun W (hb:Bw w W)=>(h2.step hb).trim;rw[<-QX,<-QE];rw[<-QX] at C6;rw[<-QE] at A7;obtain ⟨A,hA⟩:∃A,trimL ls=A:=⟨_,rfl⟩;obtain ⟨K,hK⟩:∃K,trimL ks=K:=⟨_,rfl⟩;rw[hA] at I3 C2 E3 C6⊢;rw[hK] at F2 A2 R4 A7⊢;have HC:=Xh2 C2 A2;have HW:=Xh2 E3 R4;have JT:A.length<K.length->val (2^64) A<val (2^64) K:=fun h=>Xak fun B5=>by
  have h3:=Q1o (B:=2^64) (by decide) B5;rw[<-C6,<-A7] at h3;omega
 have JV:K.length<A.length->val (2^64) K<val (2^64) A:=fun h=>Xak fun B5=>by
  have h3:=Q1o (B:=2^64) (by decide) B5;rw[<-C6,<-A7] at h3;omega
 have HL:=Xh2 JT JV;clear hA hK QX QE C2 A2 E3 R4 h1 h2 C6 A7 JT JV
 by_cases P0:A.length=K.length
 ·have hneI:((A.length:Int) != (K.length:Int))=false:=by rw[P0];simp
  go_enter Tryz.func149,Tryz.ntmps149
  go_wp2_with (first
   |(go_at_call_of 144 a;refine ((Xo0 HC) _ (Uc _ _)).mono ?_;rintro e w1 ⟨rfl,A0⟩;have O0:=Ua A0;clear A0)
   |(go_at_call_of 144 b;refine ((Xe1 HC) _ O0.out).mono ?_;rintro e w2 ⟨rfl,D0⟩;have D1:=Ua (Below.next0 O0.out D0);clear D0))
  have VF:=Xh2 ((Xo0 HW) w2 D1.out) ((Xe1 HW) w2 D1.out);clear HW HC HL O0
  go_loopw [5] (fun iv wr=>∃j:Nat,iv=.int .i64 ((j:Int)-1)/\j<=A.length/\A.drop j=K.drop j/\Bw w2 wr) (fun iv _=>(intOf iv+1).toNat)
  case atStart=>exact ⟨A.length,by rw[P0],Uf _,by rw[List.drop_length,Xac (by omega)],Uc _ _⟩
  case round=>
   obtain ⟨j,rfl,hj,Qy,hb⟩:=hrel;cases j with
   |zero=>
    have G4:A=K:=(by simpa using Qy);have J7:=Below.next0 D1.out hb;have HE:=Xh2 G4 J7;clear Qy G4 hb J7
    go_wp2_with fail
    go_ret;exact ⟨⟨0,rfl,by rw[(Xo0 HE)];simp,by rw[(Xo0 HE)];simp,by decide,by decide⟩,(Xe1 HE)⟩
   |succ j=>
    obtain ⟨x,hx⟩:∃x,A[j]?=some x:=⟨_,Ub (by omega)⟩;obtain ⟨y,hy⟩:∃y,K[j]?=some y:=⟨_,Ub (by omega)⟩;obtain ⟨g1,o1,E5,W8,Y3⟩:=((Xo0 VF).rd.below hb).at_ hx;obtain ⟨g2,o2,I8,M6,K9⟩:=((Xe1 VF).rd.below hb).at_ hy;subst E5 I8;have hjI:((j+1:Nat):Int)-1=(j:Int):=(by omega);have hjA:(j:Int)<(A.length:Int):=(by omega);have hjK:(j:Int)<(K.length:Int):=(by omega);have HH:=Xh4 Qy hb hx hy;clear Qy hb hx hy;rw[hjI]
    by_cases JY:x=y
    ·subst JY;have hxx:((x:Int) != (x:Int))=false:=by simp
     go_wp2_with fail
     go_quiet (fail)
     go_wp2_with fail
     refine ⟨⟨j,rfl,by omega,?_,⟨(Xo1 HH).os,(Xo1 HH).tape,(Xo1 HH).output,(Xo1 HH).size,(Xo1 HH).block⟩⟩,by simp only[intOf];omega⟩;have h1:=(Xo0 HH);have e1:=(Ui.1 (Xo2 HH));have e2:=(Ui.1 (Xe3 HH));rw[UB e1.1,UB e2.1,e1.2,e2.2,h1]
    ·have hxx:((x:Int) != (y:Int))=true:=(by rw[bne_iff_ne];omega);have hcu:∀W,Calls Tryz.prog 205 #[.int .u64 (x:Int),.int .u64 (y:Int)] W fun e w'=>e=.returned (.int .i64 (Lib.compareInt x y))/\∃n,w'=W.drewN n:=fun W=>(Qrd x y W).mono (by rintro e w' ⟨rfl,rfl⟩;exact ⟨rfl,0,rfl⟩)
     go_wp2_with fail
     go_quiet (fail)
     obtain ⟨W5,u9⟩:∃W5,wr.drewN nq=W5:=⟨_,rfl⟩;have hcx2:W5.cell? ⟨g1,o1+j,none⟩=some (.int .u64 (x:Int)):=(by rw[<-u9,World.cell?_drewN];exact Y3);have hcy2:W5.cell? ⟨g2,o2+j,none⟩=some (.int .u64 (y:Int)):=(by rw[<-u9,World.cell?_drewN];exact K9);have C1:Bw w2 W5:=(by rw[<-u9];exact ⟨(Xo1 HH).os,(Xo1 HH).tape,(Xo1 HH).output,(Xo1 HH).size,(Xo1 HH).block⟩);have M3:=Ua C1;rw[u9];clear u9 C1
     go_wp2_with fail
     go_quiet (first|(refine Calls.quiet_of (hcu _)))
     go_wp2_with fail
     go_ret;have J7:=Below.next0 D1.out M3.out;refine ⟨⟨_,rfl,?_⟩,⟨J7.os,J7.tape,J7.output,J7.size,J7.block⟩⟩;unfold Lib.compareInt
     by_cases E0:x<y
     ·have:=Qge (B:=2^64) (by decide) (Xo0 VF).low (Xo2 HH) (Xe3 HH) (Xo0 HH) E0;rw[Uu (by omega)];exact ⟨⟨fun _=>this,fun _=>by decide⟩,⟨fun h=>by simp at h,fun h=>by omega⟩,by decide,by decide⟩
     ·have:=Qge (B:=2^64) (by decide) (Xe1 VF).low (Xe3 HH) (Xo2 HH) (Xo0 HH).symm (by omega);rw[Us (by omega),Uu (by omega)];exact ⟨⟨fun h=>by simp at h,fun h=>by omega⟩,⟨fun _=>this,fun _=>by decide⟩,by decide,by decide⟩
 ·have hneI:((A.length:Int) != (K.length:Int))=true:=by rw[bne_iff_ne];omega
  have R2:=fun W=>Tryz.J0z (A.length:Int) (K.length:Int) W
  go_enter Tryz.func149,Tryz.ntmps149
  go_wp2_with (first
   |(go_at_call_of 144 a;refine ((Xo0 HC) _ (Uc _ _)).mono ?_;rintro e w1 ⟨rfl,A0⟩;have O0:=Ua A0;clear A0)
   |(go_at_call_of 144 b;refine ((Xe1 HC) _ O0.out).mono ?_;rintro e w2 ⟨rfl,D0⟩;have D1:=Ua (Below.next0 O0.out D0);clear D0)
   |(refine (R2 _).mono ?_;rintro e w3 ⟨rfl,XO⟩;obtain rfl:=XO.symm))
  go_ret;refine ⟨⟨_,rfl,?_⟩,D1.out⟩;unfold Lib.compareInt
  by_cases E0:A.length<K.length
  ·have:=(Xo0 HL) E0;rw[Uu (by omega)];exact ⟨⟨fun _=>this,fun _=>by decide⟩,⟨fun h=>by simp at h,fun h=>by omega⟩,by decide,by decide⟩
  ·have:=(Xe1 HL) (by omega);rw[Us (by omega),Uu (by omega)];exact ⟨⟨fun h=>by simp at h,fun h=>by omega⟩,⟨fun _=>this,fun _=>by decide⟩,by decide,by decide⟩
theorem Qab (a:OA) (n c:Nat) (ls:LN) (b:OA) (m d:Nat) (ks:LN) (w:World) (h1:WordsIn w a n c ls) (h2:WordsIn w b m d ks) (hn:n<=100000):
 Calls Tryz.prog 149 #[.slice a n c,.slice b m d] w fun e w'=>(∃r:Int,e=.returned (.int .i64 r)/\(r<0↔val (2^64) ls<val (2^64) ks)/\(0<r↔val (2^64) ks<val (2^64) ls))/\Bw w w':=
 (Q8l a n c ls b m d ks w h1 h2 hn).mono fun _ _ ⟨⟨r,h1,h2,h3,_⟩,h4⟩=>⟨⟨r,h1,h2,h3⟩,h4⟩
theorem Qre {d:Nat} (h:d<2^64) (h0:d≠0):dig (2^64) d=[d]:=by rw[Q6q (by decide) h0,Xaj h,Xap h,Q1d]
theorem Qgf (w:World) (m:Nat) (hm:m<18446744073709551616) (T:TypeId):WordsIn (w.alloc (.cells #[.int .u64 (m:Int)] T)) (some ⟨w.heap.size,0,none⟩) 1 1 [m]:=
 ⟨rfl,Uf _,by omega,fun x hx=>by rw[UC] at hx;subst hx;exact hm,.inr ⟨w.heap.size,0,rfl,by rw[Uk];omega,fun j x hx=>by
   cases j with
   |zero=>simp only[US,Up] at hx;subst hx;rw[Uw _ _ _ _ _ _ (Uo _ _)];rfl
   |succ j=>simp at hx⟩⟩
theorem Qx6 (B m:Nat):val B [m]=m:=by simp[val]
theorem Qkr (a:OA) (n c:Nat) (ls:LN) (b:OA) (cb:Nat) (d:Nat) (w:World) (h1:WordsIn w a n c ls) (h2:WordsIn w b 1 cb [d]) (hn:n<=100000) (hd:9223372036854775808<=d) (x8:val (2^64) ls≠0):
 Calls Tryz.prog 109 #[.slice a n c,.slice b 1 cb] w fun e w'=>∃aq nq cq ar nr cr,e=.returned (.tuple #[.slice aq nq cq,.slice ar nr cr,.bool true])/\WordsIn w' aq nq cq (dig (2^64) (val (2^64) ls / d))/\WordsIn w' ar nr cr (dig (2^64) (val (2^64) ls%d))/\Bw w w'/\∀x,aq=some x->w.heap.size<=x.block:=by
 have Vx:d<18446744073709551616:=h2.low d (by simp);have I3:=trim_len ls;have i5:=h1.len;have QX:val (2^64) (trimL ls)=val (2^64) ls:=Q17 ls;have htd:trimL [d]=[d]:=by have:=Q63 [] (x:=d) (by omega);simpa using this
 have C2:=fun W (hb:Bw w W)=>Q19 a n c ls W (h1.step hb);have A2:=fun W (hb:Bw w W)=>Q19 b 1 cb [d] W (h2.step hb);rw[htd] at A2;have E3:=fun W (hb:Bw w W)=>(h1.step hb).trim;have R4:=fun W (hb:Bw w W)=>h2.step hb;rw[<-QX] at x8⊢;obtain ⟨A,hA⟩:∃A,trimL ls=A:=⟨_,rfl⟩;rw[hA] at I3 C2 E3 x8⊢;have HC:=Xh2 C2 A2;have HW:=Xh3 E3 R4 x8;clear hA QX C2 A2 E3 R4 h1 h2 htd x8;have hlen1:([d]:LN).length=1:=rfl;rw[hlen1] at HC
 by_cases E0:val (2^64) A<d
 ·have HQ:=Xh3 (Xap E0) (Xaj E0) E0;clear E0
  go_enter Tryz.func109,Tryz.ntmps109
  go_wp2_with (first
   |(go_at_call_of 144 a;refine ((Xo0 HC) _ (Uc _ _)).mono ?_;rintro e w1 ⟨rfl,A0⟩;have O0:=Ua A0;clear A0)
   |(go_at_call_of 144 b;refine ((Xe1 HC) _ O0.out).mono ?_;rintro e w2 ⟨rfl,D0⟩;have D1:=Ua (Below.next0 O0.out D0);clear D0)
   |(go_at_call_of 149 a;refine (Qab a A.length c A b 1 cb [d] _ ((Xo0 HW) _ D1.out) ((Xo1 HW) _ D1.out) (by omega)).mono ?_;rintro e w3 ⟨⟨r,rfl,M1,X0⟩,I0⟩;rw[Qx6] at M1;have Q4:r<0:=M1.2 (Xe2 HQ);have A3:=Ua (Below.next0 D1.out I0);clear I0 M1 X0)
   |(refine (Qkq a A.length c A _ ((Xo0 HW) _ A3.out) (by omega) (Xe2 HW)).mono ?_;rintro e w4 ⟨a4,n4,c4,rfl,y9,N1⟩;have X4:=Xh2 y9 (Below.next0 A3.out N1);clear y9 N1))
  refine ⟨rfl,.tuple #[.slice none 0 0,.slice a4 n4 c4,.bool true],by simp[results,go_sem],none,0,0,a4,n4,c4,rfl,?_,?_,(Xe1 X4),fun x e=>by cases e⟩
  ·rw[(Xo0 HQ)];exact ⟨rfl,Uf _,by omega,fun x hx=>by simp[Q1d] at hx,.inl rfl⟩
  ·rw[(Xo1 HQ)];exact (Xo0 X4)
 ·have B5:d<=val (2^64) A:=by omega
  have HQ:=Ua B5;have HV:=Ua E0;clear E0 B5;obtain ⟨rm,hrm⟩:∃rm,val (2^64) A%d=rm:=⟨_,rfl⟩;have Jg:rm<18446744073709551616:=by rw[<-hrm];exact Nat.lt_trans (TP _ (by omega)) Vx
  have HRM:=Ua hrm;clear hrm
  go_enter Tryz.func109,Tryz.ntmps109
  go_wp2_with (first
   |(go_at_call_of 144 a;refine ((Xo0 HC) _ (Uc _ _)).mono ?_;rintro e w1 ⟨rfl,A0⟩;have O0:=Ua A0;clear A0)
   |(go_at_call_of 144 b;refine ((Xe1 HC) _ O0.out).mono ?_;rintro e w2 ⟨rfl,D0⟩;have D1:=Ua (Below.next0 O0.out D0);clear D0)
   |(go_at_call_of 149 a;refine (Qab a A.length c A b 1 cb [d] _ ((Xo0 HW) _ D1.out) ((Xo1 HW) _ D1.out) (by omega)).mono ?_;rintro e w3 ⟨⟨r,rfl,M1,X0⟩,I0⟩;rw[Qx6] at M1;have Q4:¬r<0:=fun h=>HV.out (M1.1 h);have A3:=Ua (Below.next0 D1.out I0);
     obtain ⟨gb,ob,I8,hgb,hcb⟩:=((Xo1 HW) _ A3.out).rd.at_ (k:=0) (x:=d) rfl;rw[TD] at hcb;subst I8;clear I0 M1 X0)
   |(go_at_call_of 158 a;have N0:=Qo8 a A.length c A d w3 ((Xo0 HW) _ A3.out) (by omega) hd Vx;rw[HRM.out] at N0;refine N0.mono ?_;rintro e w4 ⟨a4,n4,c4,rfl,y9,N1,B6⟩;have X4:=Xh3 y9 (Below.next0 A3.out N1) (fun x (e:a4=some x)=>Ul A3.out.size (B6 x e));clear y9 N1 N0 B6)
   |(refine (Q19 _ 1 1 [rm] _ (Qgf w4 rm Jg 83)).mono ?_;rintro e w5 ⟨rfl,C1⟩;have M3:=Ua C1;clear C1))
  have F4:=Below.next0 ((Uc _ _).alloc (Uf _) (.cells #[.int .u64 (rm:Int)] 83)) M3.out;have QK:=((Qgf w4 rm Jg 83).step M3.out).trim;have Zu:=Q1m (B:=2^64) (by decide) (Qgf w4 rm Jg 83).low;rw[Qx6] at Zu;rw[Zu] at QK;refine ⟨rfl,.tuple #[.slice a4 n4 c4,.slice (some ⟨w4.heap.size,0,none⟩) (trimL [rm]).length 1,.bool true],by simp[results,go_sem],a4,n4,c4,_,_,_,rfl,(Xo0 X4).step F4,?_,Below.next0 (Xo1 X4) F4,(Xe2 X4)⟩;rw[HRM.out,Zu];exact QK
section
variable {w w':World} {B:Nat} {e:TypeId} {k:Nat} {g n c:Nat} {xs:LV}
theorem Row.cell0 (h:Row w B e k (some ⟨g,0,none⟩) n c xs) {j:Nat} {x:Value} (hx:xs[j]?=some x):w.cell? ⟨g,j,none⟩=some x:=by
 obtain ⟨g',e1,_,_,hc⟩:=h.at_ hx;injection e1 with e1;injection e1 with e1;subst e1;exact hc
theorem Row.frozen0 (h:Row w B e k (some ⟨g,0,none⟩) n c xs) (i:Nat):w.frozen? ⟨g,i,none⟩=false:=by
 rcases h.form with ⟨h0,_⟩|⟨g',cur,e1,_,_,hh,_⟩
 ·cases h0
 ·injection e1 with e1;injection e1 with e1;subst e1;exact TO _ _ _ _ _ hh
theorem Row.set0 (h:Row w B e k (some ⟨g,0,none⟩) n c xs) (i:Nat) (u:Value):Row (w.setCell ⟨g,i,none⟩ u) B e k (some ⟨g,0,none⟩) n c (xs.set i u):=by
 rcases h.form with ⟨h0,_⟩|⟨g',cur,e1,hB,hg,hh,hn,hc,hs,ht⟩
 ·cases h0
 ·injection e1 with e1;injection e1 with e1;subst e1;refine ⟨by rw[Tm];exact h.1,.inr ⟨g,c,cur.setIfInBounds i u,rfl,hB,heap_setCell_same _ _ _ _ _ _ hh,hn,hc,by simpa using hs,?_⟩⟩;rw[Xay,List.take_set,ht]
theorem Row.fresh (h:Row w B e k (some ⟨g,0,none⟩) n c xs):B<=g/\g<w.heap.size:=by
 rcases h.form with ⟨h0,_⟩|⟨g',cur,e1,hB,hg,_⟩
 ·cases h0
 ·injection e1 with e1;injection e1 with e1;subst e1;exact ⟨hB,hg⟩
end
theorem Row.words {w:World} {B:Nat} {a:OA} {n c:Nat} {L:LN} (h:Row w B 83 1 a n c (L.map (nv .u64))) (hl:Low (2^64) L):WordsIn w a n c L:=
 ⟨by have:=h.len;simpa using this,h.cap.1,by have:=h.cap.2;simpa[maxLen] using this,hl,Row.rdI h⟩
theorem Row.setW {w:World} {B g n c:Nat} {L:LN} (h:Row w B 83 1 (some ⟨g,0,none⟩) n c (L.map (nv .u64))) (i x:Nat):Row (w.setCell ⟨g,i,none⟩ (.int .u64 (x:Int))) B 83 1 (some ⟨g,0,none⟩) n c ((L.set i x).map (nv .u64)):=by
 rw[List.map_set];exact h.set0 i _
theorem Qks (a:OA) (n c:Nat) (ls:LN) (w:World) (h:WordsIn w a n c ls) (hn:n<=1000000) (h0:val (2^64) ls≠0):
 Calls Tryz.prog 146 #[.slice a n c] w fun e w'=>∃g c',e=.returned (.slice (some ⟨g,0,none⟩) (trimL ls).length c')/\Row w' w.heap.size 83 1 (some ⟨g,0,none⟩) (trimL ls).length c' ((trimL ls).map (nv .u64))/\Bw w w':=by
 have hc:=Q19 a n c ls w h;have hT:=fun W (hb:Bw w W)=>(h.step hb).trim;have P0:trimL ls≠[]:=fun e=>h0 (by rw[<-Q17 ls,e];rfl);have S5:=trim_len ls;have Q2:=h.len;obtain ⟨b,o,rfl⟩:∃b o,a=some ⟨b,o,none⟩:=by
  rcases (hT w (Uc _ _)).rd with e|⟨b,o,e,_⟩
  ·exact absurd e P0
  ·exact ⟨b,o,e⟩
 obtain ⟨D,hD⟩:∃D,trimL ls=D:=⟨_,rfl⟩;rw[hD] at hc hT S5 P0⊢;obtain ⟨i0,O2,E2,I2,X1⟩:∃i0:TypeInfo,Tryz.prog.info? 83=some i0/\i0.zero=some (.int .u64 0)/\i0.size=1/\i0.bytes=8:=by
  have:=Q5r;cases hi:Tryz.prog.info? 83 with
  |none=>rw[hi] at this;cases this
  |some i0=>
   rw[hi] at this;simp only[UE,Up,Xat] at this;exact ⟨i0,rfl,this.1,this.2.1,this.2.2⟩
 have G2:=fun W (hW:WordsIn W (some ⟨b,o,none⟩) D.length c D)=>Tryz.J2i i0 (.int .u64 0) 1 8 O2 E2 I2 X1 rfl (by decide) Qfx b o D.length c (D.map (nv .u64)) W (by simp) (by unfold maxLen;omega) (by omega) (fun j u hu=>by
  rw[UK] at hu;cases hx:D[j]? with
  |none=>rw[hx] at hu;cases hu
  |some x=>
   rw[hx] at hu;simp only[UE,Up] at hu;subst hu;obtain ⟨b',o',e,_,R6⟩:=hW.rd.at_ hx;injection e with e;injection e with e1 e2;subst e1 e2;exact R6) (Qq9 _ _)
 have HC:=Xh3 hc hT G2;have HN:=Ua P0;clear hc hT G2 h O2 E2 I2 X1 h0 hD P0
 go_enter Tryz.func146,Tryz.ntmps146
 go_wp2_with (first
  |(go_at_call_of 144 (some ⟨b,o,none⟩:OA);refine (Xo0 HC).mono ?_;rintro e w1 ⟨rfl,A0⟩;have O0:=Ua A0;clear A0)
  |(refine ((Xe2 HC) _ ((Xo1 HC) _ O0.out)).mono ?_;rintro e w2 ⟨v',rfl,R3,XU,D0⟩;have D1:=Xh3 R3 XU D0;clear R3 XU D0))
 go_ret;obtain ⟨hl,⟨e,_⟩|⟨g,cap,cur,rfl,JD,hg,YA,R2,W6,o5⟩⟩:=(Xo0 D1)
 ·exact absurd e (Xo1 D1)
 ·have hr:Row w2 w1.heap.size 83 1 (some ⟨g,0,none⟩) D.length cap (D.map (nv .u64)):=⟨hl,.inr ⟨g,cap,cur,rfl,JD,hg,YA,R2,W6,o5⟩⟩;exact ⟨_,_,rfl,hr.lower O0.out.size,Below.next0 O0.out (Xe2 D1)⟩
theorem Qi6 (x y b:Nat) (hb:b<=1) (w:World):
 (callFunc 257 #[.int .u64 x,.int .u64 y,.int .u64 b]).run Tryz.prog w=
   .ok (.value (.tuple #[.int .u64 (((x+18446744073709551616-y-b)%18446744073709551616:Nat):Int),.int .u64 ((if x<y+b then 1 else 0:Nat):Int)])) w:=by
 rw[run_callFunc_extern Tryz.func257 (by kernel_rfl) (by kernel_rfl) (by kernel_rfl) (e:=sub64Entry) (by kernel_rfl),run_sub64 x y b hb];rfl
theorem Qmo {B:Nat} {L:LN} {i x y b b' d V T:Nat} (hx:L[i]?=some x) (h:val B L+T=V+b*B^i) (hd:x+b'*B=y+b+d):val B (L.set i d)+(T+B^i*y)=V+b'*B^(i+1):=by
 have h1:=Qa1 (B:=B) L i d x hx;have h2:(x+b'*B)*B^i=(y+b+d)*B^i:=by rw[hd]
 rw[Tl,Tl,Tl] at h2;rw[Tg,UA (B^i) y,UA (B^i) B,<-UM];omega
theorem Qi7 (x y b:Nat) (hx:x<18446744073709551616) (hy:y<18446744073709551616) (hb:b<=1):∃d b',(x+18446744073709551616-y-b)%18446744073709551616=d/\(if x<y+b then 1 else 0)=b'/\b'<=1/\d<18446744073709551616/\x+b'*2^64=y+b+d:=by
 refine ⟨_,_,rfl,rfl,by split <;> omega,TP _ (by decide),?_⟩
 show x+(if x<y+b then 1 else 0)*18446744073709551616=_
 split <;> omega
theorem Qac (a:OA) (n c:Nat) (ls:LN) (b:OA) (m d:Nat) (ks:LN) (w:World) (h1:WordsIn w a n c ls) (h2:WordsIn w b m d ks) (hn:n<=100000) (h0:val (2^64) ls≠0):
 Calls Tryz.prog 241 #[.slice a n c,.slice b m d] w fun e w'=>∃a' n' c' ok,e=.returned (.tuple #[.slice a' n' c',.bool ok])/\ok=decide (val (2^64) ks<=val (2^64) ls)/\(ok=true->WordsIn w' a' n' c' (dig (2^64) (val (2^64) ls-val (2^64) ks)))/\Bw w w':=by
 have i5:=h1.len;have o7:=h2.len;have R2:=Qab a n c ls b m d ks w h1 h2 hn;have H1:=Ua h1;have H2:=Ua h2;clear h1 h2
 by_cases E0:val (2^64) ls<val (2^64) ks
 ·have Xx:Calls Tryz.prog 149 #[.slice a n c,.slice b m d] w fun e w'=>(∃r:Int,e=.returned (.int .i64 r)/\r<0)/\Bw w w':=by
   refine R2.mono ?_;rintro e w' ⟨⟨r,rfl,h3,_⟩,hb⟩;exact ⟨⟨r,rfl,h3.2 E0⟩,hb⟩
  have HC:=Xh2 Xx E0;clear R2 Xx E0
  go_enter Tryz.func241,Tryz.ntmps241
  go_wp2_with fail
  go_step3
  go_wp2_with (refine (Xo0 HC).mono ?_;rintro e w1 ⟨⟨r,rfl,hr⟩,A0⟩;have O0:=Ua A0;clear A0)
  rw[Xae];refine ⟨rfl,.tuple #[.slice none 0 0,.bool false],by simp[results,go_sem],none,0,0,false,rfl,by rw[eq_comm,Tq];exact Nat.not_le.2 (Xe1 HC),fun h=>(by cases h),O0.out⟩
 ·have Xx:Calls Tryz.prog 149 #[.slice a n c,.slice b m d] w fun e w'=>(∃r:Int,e=.returned (.int .i64 r)/\¬r<0)/\Bw w w':=by
   refine R2.mono ?_;rintro e w' ⟨⟨r,rfl,h3,_⟩,hb⟩;exact ⟨⟨r,rfl,fun h=>E0 (h3.1 h)⟩,hb⟩
  have B5:val (2^64) ks<=val (2^64) ls:=Nat.not_lt.1 E0;have QK:=fun W (hb:Bw w W)=>Qks a n c ls W (H1.out.step hb) (by omega) h0;have S5:=trim_len ls;have o5:=trim_len ks;have HC:=Xh3 Xx B5 QK;clear R2 Xx E0 B5 QK
  go_enter Tryz.func241,Tryz.ntmps241
  go_wp2_with fail
  go_step3
  go_wp2_with (first
   |(go_at_call_of 149 a;refine (Xo0 HC).mono ?_;rintro e w1 ⟨⟨r,rfl,hr⟩,A0⟩;have O0:=Ua A0;clear A0)
   |(go_at_call_of 146 a;refine ((Xe2 HC) w1 O0.out).mono ?_;rintro e w2 ⟨g,c2,rfl,X0,D0⟩;have D1:=Xh2 (X0.lower O0.out.size) (Below.next0 O0.out D0);clear X0 D0)
   |(go_at_call_of 144 b;refine (Q19 b m d ks _ (H2.out.step (Xe1 D1))).mono ?_;rintro e w3 ⟨rfl,I0⟩;have A3:=Xh2 ((Xo0 D1).call I0) (Below.next0 (Xe1 D1) I0);clear I0))
  have Kk:=Qfv H1.out.low;have hK:=(H2.out.step (Xe1 A3)).trim;have Qf:=Q17 (B:=2^64) ls;have Qm:=Q17 (B:=2^64) ks;have B6:=(Xo0 A3).fresh;obtain ⟨A,hA⟩:∃A,trimL ls=A:=⟨_,rfl⟩;obtain ⟨K,hKe⟩:∃K,trimL ks=K:=⟨_,rfl⟩;rw[hA] at Kk Qf S5 A3;rw[hKe] at hK Qm o5;have hkr:=H2.out.rd.step (Xe1 A3);have HA:=Xh4 Kk Qf Qm hK.low;have HS:=Xh3 (Xo0 A3) (Xe1 A3) B6;have hKrd:RdI .u64 w w.heap.size b K:=by
   rw[<-hKe,<-Q3d ks];exact H2.out.rd.front _
  have HK:=Ua hKrd;have hKA:K.length<=A.length:=by
   rw[<-hA,<-hKe,Q1m (by decide) H1.out.low,Q1m (by decide) H2.out.low];exact Qav (by decide) (Xo1 HC)
  have VZ:=Ua (Xo1 HC);rw[hA,hKe];clear Kk hK Qf Qm B6 hkr hKrd O0 D1 A3 HC hA hKe
  go_loopw [7,20] (fun cv iv wr=>∃(i br:Nat) (L:LN),cv=.int .u64 (br:Int)/\iv=.int .i64 (i:Int)/\i<=K.length/\br<=1/\Row wr w.heap.size 83 1 (some ⟨g,0,none⟩) A.length c2 (L.map (nv .u64))/\L.length=A.length/\Low (2^64) L/\val (2^64) L+val (2^64) (K.take i)=val (2^64) A+br*(2^64)^i/\Bw w wr) (fun _ iv _=>K.length-(intOf iv).toNat)
  case atStart=>exact ⟨0,0,A,rfl,rfl,Ut _,Ut _,(Xo0 HS),rfl,(Xo0 HA),by simp[val],(Xo1 HS)⟩
  case round=>
   obtain ⟨i,br,L,rfl,rfl,hi,M0,hL,M4,Q0,J0,N0⟩:=hrel
   by_cases E0:i<K.length
   ·have F0:(i:Int)<(K.length:Int):=(by omega);obtain ⟨x,hx⟩:∃x,L[i]?=some x:=⟨_,Ub (by omega)⟩;obtain ⟨y,hy⟩:∃y,K[i]?=some y:=⟨_,Ub (by omega)⟩;obtain ⟨b2,o2,rfl,D0,K9⟩:=(HK.out.below N0).at_ hy;have N4:x<18446744073709551616:=Q0 x (Ug hx);have B9:y<18446744073709551616:=(Xe3 HA) y (Ug hy);obtain ⟨z,c3,hz,Js,YD,E9,hsd⟩:=Qi7 x y br N4 B9 M0;have N7:=fun W=>Qi6 x y br M0 W;rw[hz,Js] at N7;have J1:=Qmo hx J0 hsd;have Jw:=Ua J1;clear hz Js J1 hsd;have G1:=Row.cell0 hL (j:=i) (x:=.int .u64 (x:Int)) (by rw[UK,hx];rfl);have cx:wr.drew.cell? ⟨g,i,none⟩=some (.int .u64 (x:Int)):=G1;have cy:wr.drew.cell? ⟨b2,o2+i,none⟩=some (.int .u64 (y:Int)):=K9;have fx:wr.drew.frozen? ⟨g,i,none⟩=false:=hL.frozen0 i;have hiA:(i:Int)<(A.length:Int):=(by omega);have HH:=Xh4 hL Q0 N0 hy;clear hL Q0 J0 N0 hx hy K9 G1
    go_wp2_with fail
    go_region_law (fail)
    all_goals go_wp2_with fail
    all_goals
     obtain ⟨hL,Q0,N0,hy⟩:=HH.out;refine ⟨⟨i+1,c3,L.set i z,rfl,by simp,by omega,YD,hL.setW i z,by simp[M4],Q42 Q0 E9,?_,(N0.setCell (p:=⟨g,i,none⟩) (Xo2 HS) _).drew⟩,by simp only[intOf];omega⟩;rw[Q1e K i y hy,Jw.out]
   ·obtain rfl:i=K.length:=(by omega);have F0:¬((K.length:Int)<(K.length:Int)):=(by omega);rw[Ti] at J0;have HH:=Xh4 hL Q0 J0 N0;clear hL Q0 J0 N0
    go_wp2_with fail
    go_step3
    go_wp2_with fail
    go_loopw [7,9] (fun cv iv wr=>∃(j br:Nat) (L:LN),cv=.int .u64 (br:Int)/\iv=.int .i64 (j:Int)/\j<=A.length/\br<=1/\Row wr w.heap.size 83 1 (some ⟨g,0,none⟩) A.length c2 (L.map (nv .u64))/\L.length=A.length/\Low (2^64) L/\val (2^64) L+val (2^64) K=val (2^64) A+br*(2^64)^j/\Bw w wr) (fun _ iv _=>A.length-(intOf iv).toNat)
    case atStart=>exact ⟨K.length,br,L,rfl,rfl,hKA,M0,(Xo0 HH),M4,(Xo1 HH),(Xo2 HH),(Xe3 HH)⟩
    case round=>
     clear M4 M0 HH;obtain ⟨j,br,L,rfl,rfl,hj,M0,hL,M4,Q0,J0,N0⟩:=hrel
     by_cases S3:j<A.length/\br=1
     ·obtain ⟨E0,rfl⟩:=S3;have F0:(j:Int)<(A.length:Int):=(by omega);obtain ⟨x,hx⟩:∃x,L[j]?=some x:=⟨_,Ub (by omega)⟩;have N4:x<18446744073709551616:=Q0 x (Ug hx);obtain ⟨z,c3,hz,Js,YD,E9,hsd⟩:=Qi7 x 0 1 N4 (by decide) (by decide);have N7:∀W,(callFunc 257 #[.int .u64 (x:Int),.int .u64 0,.int .u64 1]).run Tryz.prog W=.ok (.value (.tuple #[.int .u64 (z:Int),.int .u64 (c3:Int)])) W:=fun W=>by
       have:=Qi6 x 0 1 (by decide) W;rw[hz,Js] at this;exact this
      have J1:=Qmo hx J0 hsd;rw[Nat.mul_zero,TD] at J1;have cx:wr.cell? ⟨g,j,none⟩=some (.int .u64 (x:Int)):=Row.cell0 hL (j:=j) (x:=.int .u64 (x:Int)) (by rw[UK,hx];rfl);have fx:wr.frozen? ⟨g,j,none⟩=false:=hL.frozen0 j;have Jw:=Xh4 J1 hL Q0 N0;clear hz Js J1 hL Q0 J0 N0 hx hsd
      go_wp2_with fail
      exact ⟨⟨j+1,c3,L.set j z,rfl,by simp,by omega,YD,(Xo1 Jw).setW j z,by simp[M4],Q42 (Xo2 Jw) E9,(Xo0 Jw),(Xe3 Jw).setCell (p:=⟨g,j,none⟩) (Xo2 HS) _⟩,by simp only[intOf];omega⟩
     ·have Z0:br=0:=by
       rcases Nat.lt_or_ge br 1 with h|h
       ·omega
       ·exfalso;obtain rfl:br=1:=(by omega);obtain rfl:j=A.length:=by
         refine Nat.le_antisymm hj (Nat.not_lt.1 fun h'=>S3 ⟨h',rfl⟩)
        have h1:=Q2y (B:=2^64) (by decide) L Q0;rw[M4] at h1;have h2:=VZ.out;rw[<-(Xo1 HA),<-(Xo2 HA)] at h2;omega
      subst Z0;rw[Xaq,TD] at J0;have ZD:val (2^64) L=val (2^64) ls-val (2^64) ks:=(by rw[<-(Xo1 HA),<-(Xo2 HA)];omega);have hW:=hL.words Q0;have E4:trimL L=dig (2^64) (val (2^64) ls-val (2^64) ks):=(by rw[Q1m (by decide) Q0,ZD]);have O1:(true:Bool)=decide (val (2^64) ks<=val (2^64) ls):=(UT VZ.out).symm;have HE:=Xh4 hW N0 E4 O1;clear ZD hW N0 E4 O1 J0 hL Q0 S3
      by_cases E0:j<A.length
      ·have F0:(j:Int)<(A.length:Int):=by omega
       go_wp2_with (refine (Q19 _ _ _ _ _ (Xo0 HE)).mono ?_;rintro e w5 ⟨rfl,C1⟩;have M3:=Ua C1;clear C1)
       rw[Xae];have D4:=((Xo0 HE).step M3.out).trim;rw[(Xo2 HE)] at D4⊢;exact ⟨rfl,.tuple #[.slice (some ⟨g,0,none⟩) (dig (2^64) (val (2^64) ls-val (2^64) ks)).length c2,.bool true],by simp[results,go_sem],_,_,_,true,rfl,(Xe3 HE),fun _=>D4,Below.next0 (Xo1 HE) M3.out⟩
      ·obtain rfl:j=A.length:=(by omega);have F0:¬((A.length:Int)<(A.length:Int)):=by omega
       go_wp2_with (refine (Q19 _ _ _ _ _ (Xo0 HE)).mono ?_;rintro e w5 ⟨rfl,C1⟩;have M3:=Ua C1;clear C1)
       rw[Xae];have D4:=((Xo0 HE).step M3.out).trim;rw[(Xo2 HE)] at D4⊢;exact ⟨rfl,.tuple #[.slice (some ⟨g,0,none⟩) (dig (2^64) (val (2^64) ls-val (2^64) ks)).length c2,.bool true],by simp[results,go_sem],_,_,_,true,rfl,(Xe3 HE),fun _=>D4,Below.next0 (Xo1 HE) M3.out⟩
theorem Qf1 (ws:LN):NatM.val (NatM.halves ws)=val (2^64) ws:=by
 induction ws with
 |nil=>rfl
 |cons x r ih=>
  have e:NatM.halves (x::r)=(x%4294967296)::(x / 4294967296)::NatM.halves r:=rfl;rw[e];simp only[NatM.val,val,ih];rw[show (2:Nat)^64=4294967296*4294967296 by decide,UM]
  show x%4294967296+4294967296*(x / 4294967296+4294967296*val (4294967296*4294967296) r)=_
  rw[TE];omega
theorem Q5b (a:OA) (n c:Nat) (ls:LN) (w:World) (h:WordsIn w a n c ls) (hm:n<=1000000):
 Calls Tryz.prog 73 #[.slice a n c] w fun e w'=>∃a' n' c',e=.returned (.slice a' n' c')/\n'<=2*n/\Q0x w' a' n' c' (val (2^64) ls)/\Bw w w':=by
 refine (Qkb a n c ls w h.len hm h.rd.rdN h.low).mono ?_;rintro e w' ⟨a',n',c',rfl,ZF,hc,R6,j9,hb⟩;have h1:NatM.trimL (NatM.halves ls)=dig (2^32) (val (2^64) ls):=by
  rw[Qbk,Q1m (B:=2^32) (by decide) (show Low (2^32) (NatM.halves ls) from NatM.halves_small h.low),<-Qqe,Qf1]
 have h2:=NatM.trim_len (NatM.halves ls);rw[NatM.halves_len,h.len] at h2;rw[h1] at ZF j9 h2;exact ⟨a',n',c',rfl,by omega,⟨ZF.symm,hc,R6,j9.rdI⟩,hb⟩
theorem Qcx (neg:Bool) (exp:Int) (a:OA) (n c:Nat) (ls:LN) (neg':Bool) (exp':Int) (b:OA) (m d:Nat) (ks:LN) (w:World) (h1:WordsIn w a n c ls) (h2:WordsIn w b m d ks) (hn:n<=9223372036854775807):
 Calls Tryz.prog 33 #[.agg #[.bool neg,.int .i64 exp,.slice a n c],.agg #[.bool neg',.int .i64 exp',.slice b m d]] w fun e w'=>e=.returned (.bool (decide (neg=neg'/\exp=exp'/\ls=ks)))/\Bw w w':=by
 have i5:=h1.len;have o7:=h2.len
 by_cases Qn:neg=neg'/\exp=exp'/\n=m
 ·obtain ⟨rfl,rfl,rfl⟩:=Qn;have N3:decide (neg=neg/\exp=exp/\ls=ks)=decide (ls=ks):=by simp
  rw[N3];clear N3;have H1:=Ua h1;have H2:=Ua h2;clear h1 h2
  go_enter Tryz.func33,Tryz.ntmps33
  go_wp2_with fail
  obtain ⟨W2,u4⟩:∃W2,(w.alloc (.cells #[.bool neg,.int .i64 exp,.slice a n c] 26)).alloc (.cells #[.bool neg,.int .i64 exp,.slice b n d] 26)=W2:=⟨_,rfl⟩;have A0:Bw w W2:=by rw[<-u4];exact Below.next0 (Ba) (Ba)
  have Y1:(w.alloc (.cells #[.bool neg,.int .i64 exp,.slice a n c] 26)).heap.size=w.heap.size+1:=Array.size_push ..;have S4:=Qc8 w neg exp a n c 26;have Q3:=Qc8 (w.alloc (.cells #[.bool neg,.int .i64 exp,.slice a n c] 26)) neg exp b n d 26;have X8:W2.cell? ⟨w.heap.size,2,none⟩=some (.slice a n c):=by
   rw[<-u4];exact ((Below.alloc (Uc _ _) (Uf _) _).cell (p:=⟨w.heap.size,2,none⟩) S4.1).trans S4.2.2.2
  have M9:W2.cell? ⟨w.heap.size+1,2,none⟩=some (.slice b n d):=by
   rw[<-u4,<-Y1];exact Q3.2.2.2
  have Q5:w.heap.size+1<W2.heap.size:=by rw[<-u4,<-Y1];exact Q3.1
  rw[u4];clear S4 Q3 u4 Y1;have HX:=Xh4 X8 M9 A0 Q5;clear X8 M9 A0 Q5
  go_loopw [5] (fun v wr=>∃i:Nat,v=.int .i64 (i:Int)/\i<=n/\(∀j,j<i->ls[j]?=ks[j]?)/\Bw W2 wr) (fun v _=>n-(intOf v).toNat)
  case atStart=>exact ⟨0,rfl,Ut _,fun j h=>absurd h (Tk _),Uc _ _⟩
  case round=>
   obtain ⟨i,rfl,hi,M2,hb⟩:=hrel;have N0:Bw w wr:=Below.next0 (Xo2 HX) hb;have C2:wr.cell? ⟨w.heap.size,2,none⟩=some (.slice a n c):=(hb.cell (p:=⟨w.heap.size,2,none⟩) (by have:=(Xe3 HX);show w.heap.size<_;omega)).trans (Xo0 HX);have A2:wr.cell? ⟨w.heap.size+1,2,none⟩=some (.slice b n d):=(hb.cell (p:=⟨w.heap.size+1,2,none⟩) (Xe3 HX)).trans (Xo1 HX)
   by_cases E0:i<n
   ·have F0:(i:Int)<(n:Int):=(by omega);obtain ⟨x,hx⟩:∃x,ls[i]?=some x:=⟨_,Ub (by omega)⟩;obtain ⟨y,hy⟩:∃y,ks[i]?=some y:=⟨_,Ub (by omega)⟩;obtain ⟨g1,o1,rfl,W8,Y3⟩:=(H1.out.rd.below N0).at_ hx;obtain ⟨g2,o2,rfl,M6,K9⟩:=(H2.out.rd.below N0).at_ hy;have HP:=Xh5 M2 hb N0 hx hy;clear M2 hb N0 hx hy
    by_cases JY:x=y
    ·subst JY
     go_wp2_with fail
     go_quiet (fail)
     go_wp2_with fail
     refine ⟨⟨i+1,by simp,by omega,fun j hj=>?_,Q52 (Xo1 HP) nq⟩,by simp only[intOf];omega⟩
     by_cases hji:j=i
     ·subst hji;rw[(Xo3 HP),(Xe4 HP)]
     ·exact (Xo0 HP) j (by omega)
    ·have Ww:((x:Int)==(y:Int))=false:=(by rw[Uj];omega);have hxy2:((x:Int) != (y:Int))=true:=by simp[bne,Ww]
     go_wp2_with fail
     go_quiet (fail)
     go_wp2_with fail
     go_ret;have P0:¬ls=ks:=fun e=>JY (by have h1:=(Xo3 HP);have h2:=(Xe4 HP);rw[e,h2] at h1;injection h1 with h1;exact h1.symm);exact ⟨by rw[UX P0];rfl,Q52 (Xo2 HP) nq⟩
   ·obtain rfl:i=n:=(by omega);have F0:¬((i:Int)<(i:Int)):=(by omega);have G4:ls=ks:=Qfw (fun j hj=>M2 j (by omega)) (by omega);have HE:=Xh2 G4 N0;clear G4 N0 hb M2
    go_wp2_with fail
    go_ret;exact ⟨by rw[UT (Xo0 HE)];rfl,(Xe1 HE)⟩
 ·have N3:decide (neg=neg'/\exp=exp'/\ls=ks)=false:=by
   rw[Tq];rintro ⟨e1,e2,e3⟩;exact Qn ⟨e1,e2,by rw[<-i5,<-o7,e3]⟩
  rw[N3];have hB:Bw w ((w.alloc (.cells #[.bool neg,.int .i64 exp,.slice a n c] 26)).alloc (.cells #[.bool neg',.int .i64 exp',.slice b m d] 26)):=Below.next0 (Ba) (Ba);have HB:=Ua hB;clear hB N3 h1 h2
  by_cases e1:neg=neg'
  ·subst e1
   by_cases e2:exp=exp'
   ·subst e2;have e3:¬((n:Int)=(m:Int)):=(by intro e;exact Qn ⟨rfl,rfl,by omega⟩);have e3':((n:Int)==(m:Int))=false:=by rw[Uj];exact e3
    go_enter Tryz.func33,Tryz.ntmps33
    go_wp2_with fail
    go_ret;exact ⟨rfl,HB.out⟩
   ·have e2':(exp==exp')=false:=by rw[Uj];exact e2
    go_enter Tryz.func33,Tryz.ntmps33
    go_wp2_with fail
    go_ret;exact ⟨rfl,HB.out⟩
  ·have e1':(neg==neg')=false:=by rw[Uj];exact e1
   go_enter Tryz.func33,Tryz.ntmps33
   go_wp2_with fail
   go_ret;exact ⟨rfl,HB.out⟩
theorem Qrf {ls:LN} {k x:Nat} (hl:ls.length=k+1) (hx:ls[k]?=some x):(trimL ls).length=ls.length↔x≠0:=by
 have he:ls=ls.take k++[x]:=by
  have h1:=Tr (l:=ls) (i:=k);rw[hx,Option.toList_some,<-hl,Ti] at h1;exact h1
 constructor
 ·rintro h rfl;rw[he,Q3r,<-he] at h;have:=trim_len (ls.take k);rw[UW] at this;omega
 ·intro h;rw[he,Q63 _ h]
theorem Q2f (neg:Bool) (exp:Int) (a:OA) (n c:Nat) (ls:LN) (w:World) (h:WordsIn w a n c ls) (he: -9223372036854775808<=exp) (D5:exp<=9223372036854775807) (hn:n<=9223372036854775807):
 Calls Tryz.prog 25 #[.agg #[.bool neg,.int .i64 exp,.slice a n c]] w fun e w'=>e=.returned (.bool (decide (Q0a neg exp ls)))/\Bw w w':=by
 have Q2:=h.len;have Z2:∀o,Bw w (w.alloc o):=fun o=>Ba
 by_cases h0:n=0
 ·obtain rfl:ls=[]:=UH.1 (by omega);subst h0;cases neg
  ·go_enter Tryz.func25,Tryz.ntmps25
   go_wp2_with fail
   go_ret;refine ⟨?_,Z2 _⟩
   show Ending.returned (.bool _)=_
   congr 2
   by_cases h:exp=0 <;> simp[Q0a,h]
  ·go_enter Tryz.func25,Tryz.ntmps25
   go_wp2_with fail
   go_ret;refine ⟨?_,Z2 _⟩
   show Ending.returned (.bool _)=_
   congr 2
 ·obtain ⟨k,rfl⟩:∃k,n=k+1:=⟨n-1,by omega⟩;obtain ⟨x,hx⟩:∃x,ls[0]?=some x:=⟨_,Ub (by omega)⟩;obtain ⟨y,hy⟩:∃y,ls[k]?=some y:=⟨_,Ub (by omega)⟩;have P0:ls≠[]:=fun e=>by rw[e] at hx;simp at hx
  have N4:x<18446744073709551616:=h.low x (Ug hx);have B9:y<18446744073709551616:=h.low y (Ug hy);have QJ:ls.headD 0=x:=by cases ls with
   |nil=>exact absurd rfl P0
   |cons y r=>simpa using hx
  have p5:bits .and .u64 (x:Int) 1=((x%2:Nat):Int):=by rw[show (1:Int)=((1:Nat):Int) from rfl,u64_and_nat x 1 N4 (by decide),nat_mask1]
  obtain ⟨m,hm⟩:∃m,x%2=m:=⟨_,rfl⟩;rw[hm] at p5;have hN:Q0a neg exp ls↔(y≠0/\k+1<=64/\m=1/\-65536<=exp/\exp<=65536):=by
   unfold Q0a;rw[Us P0,QJ,hm,Qrf Q2 hy,Q2]
  have d6:decide (Q0a neg exp ls)=(decide ((k:Int)+1<=64) && ((y:Int) != 0 && ((m:Int)==1 && (decide (-65536<=exp) && decide (exp<=65536))))):=by
   have e64:((k:Int)+1<=64)↔k+1<=64:=(by omega);have e1:((m:Int)==1)=decide (m=1):=by by_cases h:m=1 <;> simp[h] <;> omega
   have e2:((y:Int) != 0)=decide (y≠0):=by by_cases h:y=0 <;> simp[h]
   rw[e1,e2,Xbb];simp only[TJ,Xav,e64];rw[hN];exact ⟨fun h=>⟨h.2.1,h.1,h.2.2⟩,fun h=>⟨h.2.1,h.1,h.2.2⟩⟩
  rw[d6];obtain ⟨b,o,E5,V5,Y3⟩:=h.rd.at_ hx;obtain ⟨b2,o2,YU,hbl2,K9⟩:=h.rd.at_ hy;subst E5;injection YU with YU;injection YU with e1 e2;subst e1 e2;rw[TD] at Y3;have KA:∀O,(w.alloc O).cell? ⟨b,o,none⟩=some (.int .u64 (x:Int)):=fun O=>((Z2 O).cell (p:=⟨b,o,none⟩) V5).trans Y3;have KE:∀O,(w.alloc O).cell? ⟨b,o+k,none⟩=some (.int .u64 (y:Int)):=fun O=>((Z2 O).cell (p:=⟨b,o+k,none⟩) V5).trans K9;clear d6 hN hm QJ P0 hx hy h0 Y3 K9 h
  by_cases h64:(k:Int)+1<=64
  ·go_enter Tryz.func25,Tryz.ntmps25
   go_wp2_with fail
   all_goals
    go_ret;refine ⟨?_,Z2 _⟩
    show Ending.returned (.bool _)=Ending.returned (.bool _)
    clear KA KE
    congr 2
   all_goals simp_all
   all_goals omega
  ·go_enter Tryz.func25,Tryz.ntmps25
   go_wp2_with fail
   all_goals
    go_ret;refine ⟨?_,Z2 _⟩
    show Ending.returned (.bool _)=Ending.returned (.bool _)
    clear KA KE
    congr 2
   all_goals simp_all
   all_goals omega
def Qrg (b:UInt8):Prop:=48<=b.toNat/\b.toNat<=57
def Qyp (s:ByteArray) (k:Nat):Prop:=k<=s.size/\(∀j (h:j<s.size),j<k->Qrg (s[j]'h))/\∀h:k<s.size,¬Qrg (s[k]'h)
theorem Qrh (s:ByteArray) (w:World) (hs:s.size<=281474976710656):
 Calls Tryz.prog 267 #[.string s] w fun e w'=>(∃k:Nat,e=.returned (.int .i64 (k:Int))/\Qyp s k)/\Bw w w':=by
 go_enter Tryz.func267,Tryz.ntmps267
 go_wp2_with fail
 go_step3
 go_wp2_with fail
 go_step3
 go_wp2_with fail
 go_loopw [3] (fun v wr=>∃k:Nat,v=.int .i64 (k:Int)/\k<=s.size/\(∀j (h:j<s.size),j<k->Qrg (s[j]'h))/\Bw w wr) (fun v _=>s.size-(intOf v).toNat)
 case atStart=>exact ⟨0,rfl,Ut _,fun j _ h=>absurd h (Tk _),Uc _ _⟩
 case round=>
  obtain ⟨k,rfl,hk,M2,hb⟩:=hrel;have HP:=Xh2 M2 hb;clear M2 hb
  by_cases E0:k<s.size
  ·have F0:(k:Int)<(s.size:Int):=by omega
   by_cases h1:(s[k]'E0).toNat<48
   ·have h1':((s[k]'E0).toNat:Int)<48:=by omega
    go_wp2_with fail
    first|rw[Xae]|skip
    go_ret;exact ⟨⟨k,rfl,hk,(Xo0 HP),fun _ h=>by have:=h.1;omega⟩,(Xe1 HP)⟩
   ·have h1':¬((s[k]'E0).toNat:Int)<48:=by omega
    by_cases h2:57<(s[k]'E0).toNat
    ·have Jl:57<((s[k]'E0).toNat:Int):=by omega
     go_wp2_with fail
     first|rw[Xae]|skip
     go_ret;exact ⟨⟨k,rfl,hk,(Xo0 HP),fun _ h=>by have:=h.2;omega⟩,(Xe1 HP)⟩
    ·have Jl:¬57<((s[k]'E0).toNat:Int):=by omega
     go_wp2_with fail
     refine ⟨⟨k+1,by simp,by omega,fun j h hj=>?_,(Xe1 HP)⟩,by simp only[intOf];omega⟩
     by_cases XP:j=k
     ·subst XP;exact ⟨by omega,by omega⟩
     ·exact (Xo0 HP) j h (by omega)
  ·obtain rfl:k=s.size:=(by omega);have F0:¬((s.size:Int)<(s.size:Int)):=by omega
   go_wp2_with fail
   first|rw[Xae]|skip
   go_ret;exact ⟨⟨s.size,rfl,hk,(Xo0 HP),fun h=>absurd h E0⟩,(Xe1 HP)⟩
open DecM
theorem Qgg (s:ByteArray) (j:Nat) (h:j<s.size):s.data.toList[j]?=some (s[j]'h):=by
 rw[Tn];exact Ta h
theorem Quq {s:ByteArray} {at_ k:Nat} (h1:at_<=k) (h2:k<=s.size) (hd:∀j (h:j<s.size),at_<=j->j<k->Qrg (s[j]'h)) (hs:∀h:k<s.size,¬Qrg (s[k]'h)):digN (s.data.toList.drop at_)=k-at_:=by
 have hl:s.data.toList.length=s.size:=rfl
 apply Qht
 ·rw[Tu,hl];omega
 ·intro j c hc hj;rw[Xa4] at hc;have hjs:at_+j<s.size:=by omega
  rw[Qgg s _ hjs] at hc;injection hc with hc;subst hc;exact hd _ hjs (by omega) (by omega)
 ·intro c hc;rw[Xa4,show at_+(k-at_)=k by omega] at hc;have hks:k<s.size:=by
   rw[<-hl];exact (Ui.1 hc).1
  rw[Qgg s _ hks] at hc;injection hc with hc;subst hc;exact hs hks
theorem Qri {s:ByteArray} {at_:Nat} (h:at_<s.size):(s.data.toList.drop at_).headD 0=s[at_]'h:=by
 have h1:=Qgg s at_ h;rw[<-List.head?_drop] at h1;rw[List.headD_eq_head?_getD,h1];rfl
end Go.Proofs.YtidojbkhlenahaaGreatDoor
namespace Go.Proofs.YtidojbkhlenahaaGreatDoor
open Go Go.RowKit
section
variable {P:Program} {ops:Array Oper}
def Q0g (ops:Array Oper) (a:Act) (j:Nat):Value:=match (ops[j]?).bind (·.dst) with|some t=>a.tmps.getD t undef|none=>undef
def Q9f (ops:Array Oper) (a0 a:Act):Prop:=a.defers=a0.defers/\a.tmps.size=a0.tmps.size/\∀t,(∀o∈ops.toList,o.dst≠some t)->a.tmps[t]?=a0.tmps[t]?
def Q2u (o:Oper):LN:=(o.after.toList.filter (Region.binds .any)).map (·.on)
def Qkt (S:Nat->Oper->Prop):List Oper->Nat->Prop
 |[],_=>True
 |o::r,k=>S k o/\Qkt S r (k+1)
theorem Qkt.at_ {S:Nat->Oper->Prop} (l:List Oper):∀(k i:Nat) (o:Oper),Qkt S l k->l[i]?=some o->S (k+i) o:=by
 induction l with
 |nil=>intro k i o _ ho;simp at ho
 |cons x r ih=>
  intro k i o h ho;cases i with
  |zero=>
   simp only[US,Up] at ho;subst ho;exact h.1
  |succ i=>
   have:=ih (k+1) i o h.2 (by simpa using ho);rwa[show k+1+i=k+(i+1) by omega] at this
theorem Qkt.imp {S S':Nat->Oper->Prop} (h:∀k o,S k o->S' k o):∀(l:List Oper) (k:Nat),Qkt S l k->Qkt S' l k
 |[],_,_=>trivial
 |_::r,k,⟨h1,h2⟩=>⟨h _ _ h1,Qkt.imp h r (k+1) h2⟩
def Q0r (vs:Nat->Value):List Oper->Nat->Act->Act
 |[],_,a=>a
 |o::r,k,a=>Q0r vs r (k+1) (a.put o.dst (vs k))
theorem Q80 (a:Act) (t:Tmp) (v:Value):(a.put (some t) v).tmps=a.tmps.setIfInBounds t v:=rfl
theorem Qad (a:Act):∀(l:List Oper) (k:Nat) (vs:Nat->Value) (b:Act),(∀(j:Nat) o t,l[j]?=some o->o.dst=some t->t<a.tmps.size/\vs (k+j)=a.tmps.getD t undef)->
 b.defers=a.defers->b.tmps.size=a.tmps.size->(∀t,(∀o∈l,o.dst≠some t)->b.tmps[t]?=a.tmps[t]?)->Q0r vs l k b=a
 |[],_,_,b,_,hd,_,ht=>by
  obtain ⟨bt,bd⟩:=b;obtain ⟨at_,ad⟩:=a;simp only at hd ht;subst hd
  show (Act.mk bt bd)=_
  congr 1
  exact Array.ext_getElem? fun t=>ht t (by simp)
 |o::r,k,vs,b,hs,hd,hz,ht=>by
  have B8:∀(j:Nat) o' t,r[j]?=some o'->o'.dst=some t->t<a.tmps.size/\vs (k+1+j)=a.tmps.getD t undef:=fun j o' t JL Y7=>by
   have:=hs (j+1) o' t (by simpa using JL) Y7;rwa[show k+(j+1)=k+1+j by omega] at this
  cases hto:o.dst with
  |none=>
   have:Q0r vs (o::r) k b=Q0r vs r (k+1) b:=by
    show Q0r vs r (k+1) (b.put o.dst (vs k))=_
    rw[hto];rfl
   rw[this];refine Qad a r (k+1) vs b B8 hd hz fun t' WN=>ht t' fun o' JL=>?_;rcases UG.1 JL with rfl|h
   ·rw[hto];simp
   ·exact WN o' h
  |some t=>
   obtain ⟨S5,hv⟩:=hs 0 o t rfl hto;refine Qad a r (k+1) vs (b.put o.dst (vs k)) B8 ?_ ?_ fun t' WN=>?_
   ·rw[hto];exact hd
   ·rw[hto,Q80,Array.size_setIfInBounds];exact hz
   ·rw[hto,Q80,Xau]
    split
    ·next e=>
     subst e;rw[Uu (by rw[hz];exact S5)];have:vs k=a.tmps.getD t undef:=(by simpa using hv);rw[this,Uy,Ta S5];rfl
    ·next e=>
     refine ht t' fun o' JL=>?_;rcases UG.1 JL with rfl|h
     ·rw[hto];simpa using e
     ·exact WN o' h
def Q9g (ops:List Oper) (n:Nat):Bool:=ops.all (fun o=>match o.dst with|some t=>decide (t<n)|none=>true) && (ops.zipIdx.all fun p=>ops.zipIdx.all fun q=>p.2==q.2 || p.1.dst.isNone || !(p.1.dst==q.1.dst)) && (ops.zipIdx.all fun p=>p.1.after.toList.all fun e=>decide (e.on<p.2) || !Region.binds .any e) && ops.all fun o=>match o.op with| .defer _=>false|_=>true
theorem Qo9 {l:List Oper} {n:Nat} (h:Q9g l n=true):(∀(i:Nat) o t,l[i]?=some o->o.dst=some t->t<n)/\(∀(i j:Nat) oi oj t,l[i]?=some oi->l[j]?=some oj->oi.dst=some t->oj.dst=some t->i=j)/\(∀(i:Nat) o,l[i]?=some o->∀e∈o.after.toList,Region.binds .any e=true->e.on<i)/\(∀(i:Nat) o,l[i]?=some o->∀c,o.op≠.defer c):=by
 unfold Q9g at h;simp only[Xav] at h;obtain ⟨⟨⟨h1,h2⟩,h3⟩,h4⟩:=h;refine ⟨fun i o t ho hd=>?_,fun i j oi oj t hi hj hdi hdj=>?_,fun i o ho e he hb=>?_,fun i o ho c hc=>?_⟩
 ·have:=TH.1 h1 o (Ug ho);rw[hd] at this;simpa using this
 ·have Jm:(oi,i)∈l.zipIdx:=by rw[Xah];exact hi
  have JQ:(oj,j)∈l.zipIdx:=by rw[Xah];exact hj
  have:=TH.1 (TH.1 h2 _ Jm) _ JQ;rw[hdi,hdj] at this;simpa using this
 ·have hm:(o,i)∈l.zipIdx:=by
   rw[Xah];exact ho
  have:=TH.1 (TH.1 h3 _ hm) e he;rw[hb] at this;simpa using this
 ·have:=TH.1 h4 o (Ug ho);rw[hc] at this;cases this
theorem Q89:∀(l:List Bool) (i:Nat),l[i]?=some false->(l.set i true).count false+1=l.count false
 |b::r,0,h=>by
  simp only[US,Up] at h;subst h;simp
 |b::r,i+1,h=>by
  have ih:=Q89 r i (by simpa using h);simp only[Uv,Xan];omega
theorem Qi8:∀(l:List Bool),l.count false=0->∀(i:Nat),i<l.length->l[i]?=some true:=by
 intro l h i hi;have P0:l[i]?=some l[i]:=Ub hi;cases hb:l[i] with
 |true=>rw[P0,hb]
 |false=>
  have:false∈l:=by rw[<-hb];exact List.getElem_mem hi
  rw[List.count_eq_zero] at h;exact absurd this h
def Q4d (D:Nat->Bool) (k:Nat):Nat->Bool:=fun j=>if j=k then true else D j
def Q3z (vs:Nat->Value) (k:Nat) (v:Value):Nat->Value:=fun j=>if j=k then v else vs j
theorem Q6c (D:Nat->Bool) (k:Nat):Q4d D k k=true:=Uu rfl
abbrev Qrj:=(Nat->Bool)->(Nat->Value)->World->Prop
def Q2p (P:Program) (K:Value->World->Prop):Result Next->Prop
 | .ok (.value u) w'=>K u w'
 | .ok (.enter f args) w'=>Calls P f args w' fun e w''=>∃v,e=.returned v/\K v w''
 | .ok .skip w'=>K undef w'
 |_=>False
def Q9h (P:Program) (ops:Array Oper) (I:Qrj) (a0:Act) (k:Nat) (o:Oper):Prop:=
 ∀a w D,I D (Q0g ops a) w->Q9f ops a0 a->D k=false->(∀i∈Q2u o,D i=true)->(∀j oj,ops[j]?=some oj->D j=true->∀i∈Q2u oj,D i=true)->
  if Region.wanted o (yielded ops a.tmps) then Q2p P (fun u w'=>I (Q4d D k) (Q3z (Q0g ops a) k u) w') ((execOp a.eval o).run P w) else I (Q4d D k) (Q3z (Q0g ops a) k undef) w
variable {F:Fence} {n:Nat} {Q:Exit->Act->World->Prop}
structure Qgh (ops:Array Oper) (I:Qrj) (a0:Act) (listed:Array Bool) (a:Act) (w:World):Prop where
 inv:I (fun j=>listed.getD j false) (Q0g ops a) w
 agree:Q9f ops a0 a
 size:listed.size=ops.size
 closed:∀j oj,ops[j]?=some oj->listed.getD j false=true->∀i∈Q2u oj,listed.getD i false=true
theorem Qgi (hF1:∀f,F.fn f) (hF2:F.depth=none) (hF3:∀m f args w R,Calls P f args w R->CallsIn F m P f args w R) (I:Qrj) (hN:∀(i:Nat) o,ops[i]?=some o->o.dst=none->∀D vs v w,vs i=undef->I D (Q3z vs i v) w->I D vs w) (a0:Act) (hB:Q9g ops.toList a0.tmps.size=true)
 (step:Qkt (Q9h P ops I a0) ops.toList 0) (fin:∀D vs w,(∀j,j<ops.size->D j=true)->I D vs w->Q .normal (Q0r vs ops.toList 0 a0) w):
 ∀(fuel:Nat) (listed:Array Bool) (a:Act) (w:World),listed.toList.count false<=fuel->Qgh ops I a0 listed a w->wpAnyIn F n P .any ops Q fuel listed a w:=by
 obtain ⟨C6,A7,hd3,hd4⟩:=Qo9 hB;have done:∀(listed:Array Bool) (a:Act) (w:World),(∀j,j<ops.size->listed.getD j false=true)->Qgh ops I a0 listed a w->Q .normal a w:=by
  intro listed a w R0 inv;have:=fin _ (Q0g ops a) w R0 inv.inv;rwa[Qad a ops.toList 0 (Q0g ops a) a0 (fun j o t ho h1=>?_) inv.agree.1.symm inv.agree.2.1.symm (fun t ht=>(inv.agree.2.2 t ht).symm)] at this;refine ⟨by rw[inv.agree.2.1];exact C6 j o t ho h1,?_⟩;have JL:ops[j]?=some o:=by rw[<-Tn];exact ho
  unfold Q0g;rw[UV,JL];simp[h1]
 have none_ready:∀(listed:Array Bool),listed.size=ops.size->Region.ready .any ops listed=[]->∀j,j<ops.size->listed.getD j false=true:=by
  intro listed hz hr j
  induction j using Nat.strongRecOn with
  |ind j ih=>
   intro hj;cases hb:listed.getD j false with
   |true=>rfl
   |false=>
    exfalso;have hjl:j<listed.size:=(by omega);have K3:listed.getD j true=false:=by
     rw[Uy,Ta hjl] at hb⊢;exact hb
    have ho:ops[j]?=some ops[j]:=Ta hj;have:j∈Region.ready .any ops listed:=mem_ready.2 ⟨K3,ops[j],ho,fun e he D0=>?_⟩
    ·rw[hr] at this;cases this
    ·have E0:=hd3 j ops[j] (by rw[Tn];exact ho) e (by simpa using he) D0;exact ih e.on E0 (by omega)
 intro fuel
 induction fuel with
 |zero=>
  intro listed a w hc inv;have R0:∀j,j<ops.size->listed.getD j false=true:=fun j hj=>by
   have:=Qi8 listed.toList (by omega) j (by rw[Xbk,inv.size];exact hj);rw[Tn] at this;rw[Uy,this];rfl
  refine ⟨?_,done listed a w R0 inv⟩;refine List.eq_nil_iff_forall_not_mem.2 fun i hi=>?_;obtain ⟨h1,o,ho,_⟩:=mem_ready.1 hi;have hil:i<ops.size:=(Uq.1 ho).1;have h2:=R0 i hil;have Zo:i<listed.size:=by rw[inv.size];exact hil
  rw[Uy,Ta Zo] at h1 h2;rw[Xaw] at h1 h2;rw[h1] at h2;cases h2
 |succ fuel ih=>
  intro listed a w hc inv;refine ⟨fun hr=>done listed a w (none_ready listed inv.size hr) inv,fun i hi=>?_⟩;obtain ⟨h1,o,ho,C0⟩:=mem_ready.1 hi;have hil:i<ops.size:=(Uq.1 ho).1;have Zo:i<listed.size:=by rw[inv.size];exact hil
  have hol:ops.toList[i]?=some o:=by rw[Tn];exact ho
  have hif:listed.getD i false=false:=by
   rw[Uy,Ta Zo] at h1⊢;exact h1
  have i8:∀j∈Q2u o,listed.getD j false=true:=fun j hj=>by
   obtain ⟨e,he,rfl⟩:=Tx.1 hj;obtain ⟨he,hb⟩:=List.mem_filter.1 he;exact C0 e (by simpa using he) hb
  have Y0:=Qkt.at_ _ _ _ _ step hol;rw[UV] at Y0;have J1:=Y0 a w (fun j=>listed.getD j false) inv.inv inv.agree hif i8 inv.closed;have hlf:listed.toList[i]?=some false:=by
   rw[Tn,Ta Zo];rw[Uy,Ta Zo,Xaw] at h1;rw[h1]
  have u5:(listed.setIfInBounds i true).toList.count false<=fuel:=by
   rw[Xay];have:=Q89 listed.toList i hlf;omega
  have YK:(fun j=>(listed.setIfInBounds i true).getD j false)=Q4d (fun j=>listed.getD j false) i:=by
   funext j
   unfold Q4d;rw[Uy,Xau]
   by_cases hji:j=i
   ·subst hji;rw[Uu rfl,Uu Zo,Uu rfl];rfl
   ·rw[Us (fun e=>hji e.symm),Us hji,<-Uy]
  have Zc:∀j oj,ops[j]?=some oj->(listed.setIfInBounds i true).getD j false=true->∀k∈Q2u oj,(listed.setIfInBounds i true).getD k false=true:=by
   intro j oj KD hj k hk;have e1:(listed.setIfInBounds i true).getD j false=Q4d (fun j=>listed.getD j false) i j:=congrFun YK j;have e2:(listed.setIfInBounds i true).getD k false=Q4d (fun j=>listed.getD j false) i k:=congrFun YK k;rw[e1] at hj;rw[e2];unfold Q4d at*
   by_cases hki:k=i
   ·rw[Uu hki]
   ·rw[Us hki]
    by_cases hji:j=i
    ·subst hji;rw[ho] at KD;injection KD with KD;subst KD;exact i8 k hk
    ·rw[Us hji] at hj;exact inv.closed j oj KD hj k hk
  have next:∀v w',I (Q4d (fun j=>listed.getD j false) i) (Q3z (Q0g ops a) i v) w'->wpAnyIn F n P .any ops Q fuel (listed.setIfInBounds i true) (a.put o.dst v) w':=by
   intro v w' hv;rw[<-YK] at hv;cases hto:o.dst with
   |none=>exact ih _ _ _ u5 ⟨hN i o ho hto _ _ _ _ (by unfold Q0g;rw[ho,TF,hto]) hv,inv.agree,by rw[Array.size_setIfInBounds];exact inv.size,Zc⟩
   |some t=>
    have S5:=C6 i o t hol hto;refine ih _ _ _ u5 ⟨?_,?_,by rw[Array.size_setIfInBounds];exact inv.size,Zc⟩
    ·have Ql:Q0g ops (a.put (some t) v)=Q3z (Q0g ops a) i v:=by
      funext j
      unfold Q3z
      by_cases hji:j=i
      ·subst hji;rw[Uu rfl];unfold Q0g;rw[ho,TF,hto]
       show (a.put (some t) v).tmps.getD t undef=v
       rw[Q80,Uy,Xau,Uu rfl,Uu (by rw[inv.agree.2.1];exact S5)];rfl
      ·rw[Us hji];unfold Q0g;cases KD:ops[j]? with
       |none=>rfl
       |some oj=>
        rw[TF];cases hdj:oj.dst with
        |none=>rfl
        |some t2=>
         show (a.put (some t) v).tmps.getD t2 undef=a.tmps.getD t2 undef
         rw[Q80,Uy,Xau,Us ?_,<-Uy];intro e;exact hji (A7 j i oj o t2 (by rw[Tn];exact KD) hol hdj (by rw[hto,e]))
     rw[Ql];exact hv
    ·refine ⟨inv.agree.1,by rw[Q80,Array.size_setIfInBounds];exact inv.agree.2.1,fun t' WN=>?_⟩;rw[Q80,Xau,Us ?_]
     ·exact inv.agree.2.2 t' WN
     ·intro e;exact WN o (Ug hol) (by rw[hto,e])
  unfold wpOpIn;simp only[ho]
  split
  ·next hw=>
   rw[Uu hw] at J1;unfold Oper.wpIn;refine ⟨fun f _=>hF1 f,?_⟩;have hsem:o.semAt F.round a.eval=execOp a.eval o:=by
    cases hr:F.round with
    |none=>rw[Oper.semAt_none]
    |some l=>exact Oper.semAt_some l _ o (hd4 i o hol)
   rw[hsem];generalize (execOp a.eval o).run P w=res at J1;cases res with
   |ok x w'=>
    cases x with
    |value u=>exact next u w' J1
    |enter f args=>
     refine ⟨(fun h=>by rw[hF2] at h;cases h),hF3 _ _ _ _ _ (Xbr J1 ?_)⟩;rintro e w'' ⟨v,rfl,hv⟩;exact next v w'' hv
    |skip=>
     exact next undef w' J1
    |_=>exact J1.elim
   |halt x w'=>exact J1.elim
  ·next hw=>
   rw[Us hw] at J1;exact ⟨fun f _=>hF1 f,next undef w J1⟩
theorem Qoa {l:List Oper} {a0:Act} {I:Qrj} {w:World} (h0:I (fun _=>false) (Q0g l.toArray a0) w):Qgh l.toArray I a0 (Array.replicate l.toArray.size false) a0 w:=
 ⟨by
   have hf:(fun j=>(Array.replicate l.toArray.size false).getD j false)=fun _=>false:=by
    funext j
    rw[Uy,Array.getElem?_replicate]
    split <;> rfl
   rw[hf];exact h0,⟨rfl,rfl,fun _ _=>rfl⟩,by simp,fun j oj _ hj=>by
   rw[Uy,Array.getElem?_replicate] at hj
   split at hj <;> cases hj⟩
theorem Q7o {id:Nat} {l:List Oper} {a0:Act} {w:World} (hm:P.follows .mixedOrders=true) (I:Qrj) (hN:∀(i:Nat) o,l[i]?=some o->o.dst=none->∀D vs v w,vs i=undef->I D (Q3z vs i v) w->I D vs w) (hB:Q9g l a0.tmps.size=true) (h0:I (fun _=>false) (Q0g l.toArray a0) w.drew)
 (step:Qkt (Q9h P l.toArray I a0) l 0) (fin:∀D vs w,(∀j,j<l.length->D j=true)->I D vs w->Q .normal (Q0r vs l 0 a0) w):(Code.region id l.toArray true).wp P Q a0 w:=
 (wpIn_wide (n:=6)).1 (wpIn_region_any hm (Qgi (fun _=>trivial) rfl (fun m _ _ _ _ h=>callsIn_wide.2 h) I (by simpa using hN) a0 hB (by simpa using step) (by simpa using fin) _ _ _ _ (by simp) (Qoa h0)))
def Q1g (P:Program) (E:World->World->Prop) (V:Value->World->Prop) (w:World):Result Next->Prop
 | .ok (.value u) w'=>E w w'/\V u w'
 | .ok (.enter f args) w'=>Calls P f args w' fun e w''=>∃v,e=.returned v/\E w w''/\V v w''
 | .ok .skip w'=>E w w'/\V undef w'
 |_=>False
def Q6d (P:Program) (E:World->World->Prop) (ops:Array Oper) (C:World->Prop) (V:Nat->Value->World->Prop) (a0:Act) (k:Nat) (o:Oper):Prop:=
 ∀a w,C w->Q9f ops a0 a->(∀i∈Q2u o,V i (Q0g ops a i) w)->
  if Region.wanted o (yielded ops a.tmps) then Q1g P E (V k) w ((execOp a.eval o).run P w) else V k undef w
def Q4e (P:Program) (E:World->World->Prop) (ops:Array Oper) (C:World->Prop) (V:Nat->Value->World->Prop) (a0:Act):List Oper->Nat->Prop:=Qkt (Q6d P E ops C V a0)
theorem Q4e.at_ {E:World->World->Prop} {C:World->Prop} {V:Nat->Value->World->Prop} {a0:Act} (l:List Oper) (k i:Nat) (o:Oper) (h:Q4e P E ops C V a0 l k) (ho:l[i]?=some o):Q6d P E ops C V a0 (k+i) o:=Qkt.at_ l k i o h ho
def Qyj (C:World->Prop) (V:Nat->Value->World->Prop):Qrj:=fun D vs w=>C w/\∀j,D j=true->V j (vs j) w
theorem Q9i {E:World->World->Prop} {C:World->Prop} (hC:∀w w',C w->E w w'->C w') {V:Nat->Value->World->Prop} (hV:∀i v w w',V i v w->E w w'->V i v w') {D:Nat->Bool} {vs:Nat->Value} {w w':World} {k:Nat} {u:Value} (h:Qyj C V D vs w) (hE:E w w') (hu:V k u w'):Qyj C V (Q4d D k) (Q3z vs k u) w':=by
 refine ⟨hC _ _ h.1 hE,fun j hj=>?_⟩;unfold Q4d at hj;unfold Q3z
 split at hj
 ·next e=>rw[Uu e,e];exact hu
 ·next e=>rw[Us e];exact hV _ _ _ _ (h.2 j hj) hE
theorem Qrk {C:World->Prop} {V:Nat->Value->World->Prop} {i:Nat} (hN:∀v w,V i v w->V i undef w) (D:Nat->Bool) (vs:Nat->Value) (v:Value) (w:World) (hu:vs i=undef) (h:Qyj C V D (Q3z vs i v) w):Qyj C V D vs w:=by
 refine ⟨h.1,fun j hj=>?_⟩;have h1:=h.2 j hj;unfold Q3z at h1
 split at h1
 ·next e=>subst e;rw[hu];exact hN _ _ h1
 ·exact h1
theorem Qx7 {E:World->World->Prop} (hE:∀w,E w w) {C:World->Prop} (hC:∀w w',C w->E w w'->C w') {V:Nat->Value->World->Prop} (hV:∀i v w w',V i v w->E w w'->V i v w') {a0:Act} (k:Nat) (o:Oper) (h:Q6d P E ops C V a0 k o):Q9h P ops (Qyj C V) a0 k o:=by
 intro a w D hI G0 _ C0 _;have h1:=h a w hI.1 G0 fun i hi=>hI.2 i (C0 i hi)
 split at h1
 ·next hw=>
  rw[Uu hw];generalize (execOp a.eval o).run P w=res at h1;unfold Q1g at h1;unfold Q2p
  split at h1
  ·exact Q9i hC hV hI h1.1 h1.2
  ·exact Xbr h1 fun e w2 ⟨v,e1,e2,e3⟩=>⟨v,e1,Q9i hC hV hI e2 e3⟩
  ·exact Q9i hC hV hI h1.1 h1.2
  ·exact h1.elim
 ·next hw=>
  rw[Us hw];exact Q9i hC hV hI (hE w) h1
theorem Q06 {E:World->World->Prop} (hE:∀w,E w w) {id:Nat} {l:List Oper} {a0:Act} {w:World} (hm:P.follows .mixedOrders=true) (C:World->Prop) (hC:∀w w',C w->E w w'->C w') (V:Nat->Value->World->Prop) (hV:∀i v w w',V i v w->E w w'->V i v w') (hN:∀(i:Nat) o,l[i]?=some o->o.dst=none->∀v w,V i v w->V i undef w) (hB:Q9g l a0.tmps.size=true) (h0:C w.drew)
 (step:Q4e P E l.toArray C V a0 l 0) (fin:∀vs w,C w->(∀j,j<l.length->V j (vs j) w)->Q .normal (Q0r vs l 0 a0) w):(Code.region id l.toArray true).wp P Q a0 w:=
 Q7o hm (Qyj C V) (fun i o hi hd=>Qrk (hN i o hi hd)) hB ⟨h0,fun _ h=>by cases h⟩ (Qkt.imp (Qx7 hE hC hV) l 0 step) fun _ vs w hD h=>fin vs w h.1 fun j hj=>h.2 j (hD j hj)
theorem Q44 {a:Act} {t:Tmp} {v:Value} (h:a.eval (.tmp t)=v):a.tmps[t]?.getD undef=v:=by
 have h':a.tmps.getD t undef=v:=h;rwa[Uy] at h'
theorem Qi9 {o:Oper} {a:Act} {j:Nat} {b c:Bool} {t:Tmp} (hg:o.guard=some (j,b)) (ht:(ops[j]?).bind (·.dst)=some t) (he:a.eval (.tmp t)=.bool c):Region.wanted o (yielded ops a.tmps)=(c==b):=by
 have hy:yielded ops a.tmps j=some c:=by
  unfold yielded;rw[ht,TF];have VG:a.tmps.getD t undef=.bool c:=he;rw[Uy] at VG;cases hx:a.tmps[t]? with
  |none=>rw[hx] at VG;cases VG
  |some v=>rw[hx] at VG;have h2:v=.bool c:=VG;rw[h2]
 unfold Region.wanted;rw[hg]
 show (yielded ops a.tmps j==some b)=_
 rw[hy];rfl
theorem Qrl {o:Oper} {a:Act} (hg:o.guard=none):Region.wanted o (yielded ops a.tmps)=true:=by unfold Region.wanted;rw[hg]
theorem Qur {E:World->World->Prop} {o:Oper} {a:Act} {w:World} {V:Value->World->Prop} {j:Nat} {b:Bool} {t:Tmp} (hg:o.guard=some (j,b)) (ht:(ops[j]?).bind (·.dst)=some t) (he:a.eval (.tmp t)=.bool b) (h:Q1g P E V w ((execOp a.eval o).run P w)):
 if Region.wanted o (yielded ops a.tmps) then Q1g P E V w ((execOp a.eval o).run P w) else V undef w:=by
 rw[Uu (by rw[Qi9 hg ht he];simp)];exact h
theorem Qrm {E:World->World->Prop} {o:Oper} {a:Act} {w:World} {V:Value->World->Prop} {j:Nat} {b:Bool} {t:Tmp} (hg:o.guard=some (j,b)) (ht:(ops[j]?).bind (·.dst)=some t) (he:a.eval (.tmp t)=.bool (!b)) (h:V undef w):
 if Region.wanted o (yielded ops a.tmps) then Q1g P E V w ((execOp a.eval o).run P w) else V undef w:=by
 rw[Us (by rw[Qi9 hg ht he];cases b <;> simp)];exact h
theorem Q07 {E:World->World->Prop} {o:Oper} {a:Act} {w:World} {V:Value->World->Prop} (hg:o.guard=none) (h:Q1g P E V w ((execOp a.eval o).run P w)):
 if Region.wanted o (yielded ops a.tmps) then Q1g P E V w ((execOp a.eval o).run P w) else V undef w:=by
 rw[Uu (Qrl hg)];exact h
def Q40 (cs:LV) (L:Nat->Option (Value->World->Prop)) (i:Nat) (v:Value) (w:World):Prop:=match L i with|some φ=>φ v w|none=>v=cs.getD i undef
theorem Q0f {cs:LV} {L:Nat->Option (Value->World->Prop)} {i:Nat} {v:Value} {w:World} (h:L i=none):Q40 cs L i v w↔v=cs.getD i undef:=by unfold Q40;rw[h]
theorem Q02 {cs:LV} {L:Nat->Option (Value->World->Prop)} {i:Nat} {φ:Value->World->Prop} {v:Value} {w:World} (h:L i=some φ):Q40 cs L i v w↔φ v w:=by unfold Q40;rw[h]
theorem Q9f.keep {a0 a:Act} (h:Q9f ops a0 a) {t:Tmp} {v:Value} (ht:(ops.toList.all fun o=> !(o.dst==some t))=true) (hv:a0.tmps.getD t undef=v):a.eval (.tmp t)=v:=by
 show a.tmps.getD t undef=v
 rw[Uy,h.2.2 t ?_,<-Uy,hv];intro o ho e;have:=TH.1 ht o ho;rw[e] at this;simp at this
end
end Go.Proofs.YtidojbkhlenahaaGreatDoor
namespace Go.Proofs.YtidojbkhlenahaaGreatDoor
open Go.RowKit WordsM DecM
theorem Qku (B m:Nat):val B [m]=m:=by simp[val]
theorem Q3g {P:Program} {ops:Array Oper} {o:Oper} {a:Act} {w:World} {K:Act->World->Prop} {Q:Exit->Act->World->Prop} {E:Prop} (X9:o.guard=none) (f:FuncId) (args:Array Value)
 (Q1:(execOp a.eval o).run P w=.ok (.enter f args) w) (h:Calls P f args w fun e w'=>∃v,e=.returned v/\K (a.put o.dst v) w'):if Region.wanted o (yielded ops a.tmps)=true then Oper.wp P o a w K Q else E:=by
 rw[Uu (by simp[Region.wanted,X9])];unfold Oper.wp;rw[Q1,Oper.upon_enter];exact h.mono (by rintro e w' ⟨v,rfl,hk⟩;exact hk)
theorem Q81 {B:Nat} {w W:World} (h:Below B w W):Below B w W.drew:=⟨h.os,h.tape,h.output,h.size,h.block⟩
theorem Q50 (a:OA) (n c v:Nat) (w:World) (h:Q0x w a n c v) (hn:n<=1000000):
 Calls Tryz.prog 72 #[.slice a n c] w fun e w'=>e=.returned (sv (dec v))/\Bw w w':=by
 have h1:=Qnq a n c (dig (2^32) v) w h.len hn h.cap h.most h.rd.rdN (show NatM.small (dig (2^32) v) from Q2i (B:=2^32) (by decide) v);rwa[Qqe,Q0s (by decide)] at h1
theorem Q7p (w:World) (m:Nat) (hm:m<18446744073709551616) (T:TypeId):WordsIn (w.alloc (.cells #[.int .u64 (m:Int)] T)) (some ⟨w.heap.size,0,none⟩) 1 1 [m]:=
 ⟨rfl,Uf _,by omega,fun x hx=>by rw[UC] at hx;subst hx;exact hm,.inr ⟨w.heap.size,0,rfl,Q0p _ _,fun j x hx=>by
   cases j with
   |zero=>simp only[US,Up] at hx;subst hx;rw[Uw _ _ _ _ _ _ (Uo _ _)];rfl
   |succ j=>simp at hx⟩⟩
def Q23 (neg:Bool) (exp:Int) (ls:LN):LU:=if Q0a neg exp ls then Q21 neg (val (2^64) ls) exp else []
theorem Q0a.exp {neg:Bool} {exp:Int} {ls:LN} (h:Q0a neg exp ls): -65536<=exp/\exp<=65536/\ls.length<=64:=by
 unfold Q0a at h
 split at h
 ·rename_i h0;rw[h0,h.2];simp
 ·exact ⟨h.2.2.2.1,h.2.2.2.2,h.2.1⟩
theorem Qia {w:World} {a:OA} {n c:Nat} {ls:LN} (h:WordsIn w a n c ls) (hn:n<=64):(dec (val (2^64) ls)).length<=1281:=by
 have h1:=NatM.dec_val_len (NatM.halves_small h.low);rw[Qf1,NatM.halves_len,h.len] at h1;exact Ul h1 (by omega)
theorem Qcy (neg:Bool) (exp:Int) (a:OA) (n c:Nat) (ls:LN) (w:World) (h:WordsIn w a n c ls) (he: -9223372036854775808<=exp) (D5:exp<=9223372036854775807):
 Calls Tryz.prog 42 #[.agg #[.bool neg,.int .i64 exp,.slice a n c]] w fun e w'=>e=.returned (sv (Q23 neg exp ls))/\Bw w w':=by
 have R2:=Ul h.cap h.most;have Z2:Bw w (w.alloc (.cells #[.bool neg,.int .i64 exp,.slice a n c] 26)):=Ba;have hN:=Q03.new w (.bool neg) (.int .i64 exp) (.slice a n c) 26;have J3:=Q0p w (.cells #[.bool neg,.int .i64 exp,.slice a n c] 26);have hr:=Q2f neg exp a n c ls _ (h.step Z2) he D5 R2
 by_cases S2:Q0a neg exp ls
 ·have K6:Q23 neg exp ls=Q21 neg (val (2^64) ls) exp:=Uu S2;rw[K6];have d6:=S2.exp;have Vb:n<=64:=by rw[<-h.len];exact d6.2.2
  rw[UT S2] at hr;have hp:=fun W (hb:Bw w W)=>Q5b a n c ls W (h.step hb) (by omega);have Vx:=Qia h Vb;generalize val (2^64) ls=v at*;have HR:=Xh4 hr hp hN Z2;clear hr hp K6 S2 h hN Z2
  by_cases h0:exp=0
  ·subst h0;cases neg
   all_goals
    go_enter Tryz.func42,Tryz.ntmps42
    go_wp2_with (first
     |(go_at_call_of 73 a;refine ((Xo1 HR) _ O0.out).mono ?_;rintro e w2 ⟨a2,n2,c2,rfl,o4,hD,D0⟩;have D1:=Xh3 hD D0 o4;clear D0 hD o4)
     |(go_at_call_of 72 a2;refine (Q50 a2 n2 c2 v _ (Xo0 D1) (by have:=(Xe2 D1);omega)).mono ?_;rintro e w3 ⟨rfl,I0⟩;have K1:=Below.next0 (Below.next0 Qq.out (Xo1 D1)) I0;have hQ:=(Xo2 HR).step K1 J3;have JD:=hQ.c0;have W8:=hQ.c1;have A3:=Ua K1;clear I0 K1 hQ)
     |(refine (Xo0 HR).mono ?_;rintro e w1 ⟨rfl,A0⟩;have hQ:=(Xo2 HR).step A0 J3;have M6:=hQ.c2;have O0:=Ua (Below.next0 (Xe3 HR) A0);have Qq:=Ua A0;clear A0 hQ))
    go_ret;refine ⟨?_,Below.next0 (Xe3 HR) A3.out⟩;refine congrArg Ending.returned (congrArg Value.string (ByteArray.ext ?_));simp[UJ,Q21,Q9y]
  ·obtain ⟨m,hm⟩:∃m:Nat,exp.natAbs=m:=⟨_,rfl⟩;have C8:0<m:=(by omega);have ZW:m<=65536:=(by omega);have Jg:=dec_len 5 m (by omega) (by decide)
   by_cases X5:exp<0
   ·obtain rfl:exp= -(m:Int):=(by omega);have VD:m≠0:=(by omega);clear hm he D5 d6;cases neg
    all_goals
     go_enter Tryz.func42,Tryz.ntmps42
     go_wp2_with (first
      |(go_at_call_of 73 a;refine ((Xo1 HR) _ O0.out).mono ?_;rintro e w2 ⟨a2,n2,c2,rfl,o4,hD,D0⟩;have D1:=Xh3 hD D0 o4;clear D0 hD o4)
      |(go_at_call_of 72 a2;refine (Q50 a2 n2 c2 v _ (Xo0 D1) (by have:=(Xe2 D1);omega)).mono ?_;rintro e w3 ⟨rfl,I0⟩;have K1:=Below.next0 (Below.next0 Qq.out (Xo1 D1)) I0;have hQ:=(Xo2 HR).step K1 J3;have JD:=hQ.c0;have W8:=hQ.c1;have A3:=Ua K1;clear I0 K1 hQ)
      |(refine (Q5b _ 1 1 [m] _ (Q7p _ m (by omega) 83) (by decide)).mono ?_;rintro e w4 ⟨a4,n4,c4,rfl,Qx,hD,N1⟩;rw[Qku] at hD;have X4:=Xh2 hD N1;clear N1 hD)
      |(go_at_call_of 72 a4;refine (Q50 a4 n4 c4 m _ (Xo0 X4) (by omega)).mono ?_;rintro e w5 ⟨rfl,C1⟩;have M3:=Ua (Below.next0 (Below.next0 (Below.next0 A3.out (Ba)) (Xe1 X4)) C1);clear C1)
      |(refine (Xo0 HR).mono ?_;rintro e w1 ⟨rfl,A0⟩;have hQ:=(Xo2 HR).step A0 J3;have M6:=hQ.c2;have O0:=Ua (Below.next0 (Xe3 HR) A0);have Qq:=Ua A0;clear A0 hQ))
     go_ret;refine ⟨?_,Below.next0 (Xe3 HR) M3.out⟩;refine congrArg Ending.returned (congrArg Value.string (ByteArray.ext ?_));simp[UJ,Q21,Q9y,VD]
   ·obtain rfl:exp=(m:Int):=(by omega);have VD:m≠0:=(by omega);clear hm he D5 d6;cases neg
    all_goals
     go_enter Tryz.func42,Tryz.ntmps42
     go_wp2_with (first
      |(go_at_call_of 73 a;refine ((Xo1 HR) _ O0.out).mono ?_;rintro e w2 ⟨a2,n2,c2,rfl,o4,hD,D0⟩;have D1:=Xh3 hD D0 o4;clear D0 hD o4)
      |(go_at_call_of 72 a2;refine (Q50 a2 n2 c2 v _ (Xo0 D1) (by have:=(Xe2 D1);omega)).mono ?_;rintro e w3 ⟨rfl,I0⟩;have K1:=Below.next0 (Below.next0 Qq.out (Xo1 D1)) I0;have hQ:=(Xo2 HR).step K1 J3;have JD:=hQ.c0;have W8:=hQ.c1;have A3:=Ua K1;clear I0 K1 hQ)
      |(refine (Q5b _ 1 1 [m] _ (Q7p _ m (by omega) 83) (by decide)).mono ?_;rintro e w4 ⟨a4,n4,c4,rfl,Qx,hD,N1⟩;rw[Qku] at hD;have X4:=Xh2 hD N1;clear N1 hD)
      |(go_at_call_of 72 a4;refine (Q50 a4 n4 c4 m _ (Xo0 X4) (by omega)).mono ?_;rintro e w5 ⟨rfl,C1⟩;have M3:=Ua (Below.next0 (Below.next0 (Below.next0 A3.out (Ba)) (Xe1 X4)) C1);clear C1)
      |(refine (Xo0 HR).mono ?_;rintro e w1 ⟨rfl,A0⟩;have hQ:=(Xo2 HR).step A0 J3;have M6:=hQ.c2;have O0:=Ua (Below.next0 (Xe3 HR) A0);have Qq:=Ua A0;clear A0 hQ))
     go_ret;refine ⟨?_,Below.next0 (Xe3 HR) M3.out⟩;refine congrArg Ending.returned (congrArg Value.string (ByteArray.ext ?_));simp[UJ,Q21,Q9y,VD]
 ·have K6:Q23 neg exp ls=[]:=Us S2;rw[K6];rw[UX S2] at hr;have HR:=Xh3 hr hN Z2;clear hr K6 S2 h hN Z2
  go_enter Tryz.func42,Tryz.ntmps42
  go_wp2_with (refine (Xo0 HR).mono ?_;rintro e w1 ⟨rfl,A0⟩;have O0:=Ua (Below.next0 (Xe2 HR) A0);clear A0)
  go_ret;exact ⟨rfl,O0.out⟩
end Go.Proofs.YtidojbkhlenahaaGreatDoor
