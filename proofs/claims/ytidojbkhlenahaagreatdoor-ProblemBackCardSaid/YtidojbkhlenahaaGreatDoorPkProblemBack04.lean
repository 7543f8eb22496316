/- Part 4. No condition. -/
import Derived.Test.YtidojbkhlenahaaGreatDoorPkProblemBack03
set_option maxRecDepth 100000
set_option maxHeartbeats 16000000
namespace Go.Proofs.YtidojbkhlenahaaGreatDoor
open Go.RowKit WordsM
def Q4h:LN->LN
 |[]=>[]
 |[x]=>[x]
 |x::y::r=>(x+y*4294967296)::Q4h r
theorem Qht:∀l:LN,val (2^64) (Q4h l)=val (2^32) l
 |[]=>rfl
 |[x]=>by simp[Q4h,val]
 |x::y::r=>by
  have ih:=Qht r;simp only[Q4h,val,ih];have e:(2:Nat)^64=4294967296*4294967296:=by decide
  rw[e,Tv,show (2:Nat)^32=4294967296 from rfl,UL];omega
theorem Qck:∀l:LN,Low (2^32) l->Low (2^64) (Q4h l)
 |[],_=>fun x hx=>by cases hx
 |[x],h=>fun y hy=>by
  rw[Q4h,Ux] at hy;subst hy;have:y<4294967296:=h y (by simp)
  show y<18446744073709551616
  omega
 |x::y::r,h=>fun z hz=>by
  have h1:x<4294967296:=h x (by simp);have h2:y<4294967296:=h y (by simp);rcases Uy.1 hz with rfl|hz
  ·show x+y*4294967296<18446744073709551616
   omega
  ·exact Qck r (fun u hu=>h u (by simp[hu])) z hz
theorem Qf5:∀l:LN,Q5q l->Q5q (Q4h l)
 |[],_=>fun x hx=>by cases hx
 |[x],h=>h
 |[x,y],h=>fun z hz=>by
  simp[Q4h] at hz;have:=h y (by simp);omega
 |x::y::u::r,h=>fun z hz=>by
  have h2:Q5q (u::r):=fun a ha=>h a (by rw[List.getLast?_cons_cons,List.getLast?_cons_cons];exact ha);have h3:=Qf5 (u::r) h2;refine h3 z ?_;rw[Q4h] at hz;cases hp:Q4h (u::r) with
  |nil=>cases r <;> simp[Q4h] at hp
  |cons p q=>rw[hp,List.getLast?_cons_cons] at hz;exact hz
theorem Qrp (v:Nat):Q4h (dig (2^32) v)=dig (2^64) v:=by
 have h1:=Qkv (B:=2^64) (by decide) (Q4h (dig (2^32) v)) (Qck _ (Q28 (by decide) v)) (Qf5 _ (Qn2 (by decide) v));rw[Qht,Q0v (by decide)] at h1;exact h1.symm
theorem Qhu:∀(l:LN) (j x:Nat),l[2*j]?=some x->(Q4h l)[j]?=some (x+(l[2*j+1]?).getD 0*4294967296)
 |[],j,x,h=>by simp at h
 |[y],0,x,h=>by simp at h;simp[Q4h,h]
 |[y],j+1,x,h=>by simp[Tv] at h
 |y::z::r,0,x,h=>by simp at h;simp[Q4h,h]
 |y::z::r,j+1,x,h=>by
  rw[Tv] at h;have:=Qhu r j x (by simpa using h);simpa[Q4h,Tv] using this
theorem Qhv:∀l:LN,(Q4h l).length=(l.length+1) / 2
 |[]=>rfl
 |[x]=>by simp[Q4h]
 |x::y::r=>by
  have:=Qhv r;simp only[Q4h,Ur,this];omega
theorem Qp2 {l:LN} {j x:Nat} (h:l[2*j]?=some x):(Q4h l).take (j+1)=(Q4h l).take j++[x+(l[2*j+1]?).getD 0*4294967296]:=by
 rw[Tc,Qhu l j x h];rfl
theorem Qhw (a:OA) (n c:Nat) (v:Nat) (w:World) (h:Q0r w a n c v) (hn:n<=1000000):
 Calls Tryz.prog 167 #[.slice a n c] w fun e w'=>∃a' n' c',e=.returned (.slice a' n' c')/\WordsIn w' a' n' c' (dig (2^64) v)/\Bw w w':=by
 have hl:=Q28 (B:=2^32) (by decide) v;have hpd:=Qrp v;have m6:=h.len;have hr:=h.rd;obtain ⟨A,hA⟩:∃A,dig (2^32) v=A:=⟨_,rfl⟩;rw[hA] at hl m6 hr hpd;rw[<-hpd];subst m6;have Ja:=Qhv A;have F7:=Qck A hl;obtain ⟨i0,E2,P1,G1,K1⟩:=Xbq Q4x;have HI:=Xh4 E2 P1 G1 K1;have H:=Xh4 hl hr Ja F7;clear hl hr hA h hpd Ja F7 E2 P1 G1 K1
 go_enter Tryz.func167,Tryz.ntmps167
 go_wp2_with fail
 go_loopw [3,4] (fun ov iv wr=>∃(j:Nat) (ao:OA) (co:Nat),ov=.slice ao j co/\iv=.int .i64 (2*(j:Int))/\2*j<=A.length+1/\Row wr w.heap.size 83 1 ao j co (((Q4h A).take j).map (nv .u64))/\Bw w wr) (fun _ iv _=>A.length+2-(intOf iv).toNat)
 case atStart=>exact ⟨0,none,0,rfl,rfl,by omega,Row.nil_ _ _ _ _,Ug _ _⟩
 case round=>
  obtain ⟨j,ao,co,rfl,rfl,hj,I0,hb⟩:=hrel
  by_cases E0:2*j<A.length
  ·have J0:2*(j:Int)<(A.length:Int):=(by omega);obtain ⟨x,hx⟩:∃x,A[2*j]?=some x:=⟨_,Ua E0⟩;have D4:x<4294967296:=(Xo0 H) x (Uf hx);obtain ⟨g1,o1,U5,R6,u5⟩:=((Xo1 H).below hb).at_ hx;have S7:=Qp2 hx;have J1:∀o,Bw w (wr.alloc o):=fun o=>hb.alloc hb.size o;have Q3:∀o,w.heap.size<=(wr.alloc o).heap.size:=fun o=>(J1 o).size;have QY:∀o,Row (wr.alloc o) w.heap.size 83 1 ao j co (((Q4h A).take j).map (nv .u64)):=fun o=>I0.alloc o;have HB:=Ub hb
   by_cases h2:2*j+1<A.length
   ·have JX:2*(j:Int)+1<(A.length:Int):=(by omega);obtain ⟨y,hy⟩:∃y,A[2*j+1]?=some y:=⟨_,Ua h2⟩;have Qo:y<4294967296:=(Xo0 H) y (Uf hy);obtain ⟨g2,o2,Zg,J5,K9⟩:=((Xo1 H).below hb).at_ hy;subst U5;injection Zg with Zg;injection Zg with e1 e2;subst e1 e2;rw[hy,Xao] at S7;have Q7:=Qro x y D4 Qo;obtain ⟨yy,Vd⟩:∃yy,y*4294967296=yy:=⟨_,rfl⟩;have hyyI:(y:Int)*4294967296=(yy:Int):=(by omega);have hyyl:yy<18446744073709551616:=(by omega);rw[Vd] at Q7 S7;obtain ⟨q,hq⟩:∃q,x+yy=q:=⟨_,rfl⟩;rw[hq] at Q7 S7;have VZ:q<18446744073709551616:=(by omega);have HH:=Xh4 S7 QY J1 Q3;clear S7 QY J1 Q3 hb I0 hx hy Vd hq
    go_wp2_with (at_builtin;refine Q0o rfl (.tmp 31) (.tmp 33) 24 rfl w _ 83 i0 _ 1 8 Tryz.underlying24 (Xo0 HI) (Xo1 HI) (Xo2 HI) (Xe3 HI) rfl (by decide) w.heap.size ((Xo2 HH) _) ((Xe3 HH) _) ao j co _ rfl ((Xo1 HH) _) ⟨wr.heap.size,0,none⟩ 1 1 [.int .u64 (q:Int)] rfl rfl (Q3f wr #[.int .u64 (q:Int)] _ _) (Qag _ _) (j+1) rfl (by omega) (by omega) ?_;intro a3 c3 w3 Z7 X9 G0 T5;have HO:=Xh2 Z7 G0;clear Z7 X9 G0 T5)
    refine ⟨⟨j+1,a3,c3,rfl,by simp only[Xbc,true_and];omega,by omega,?_,(Xe1 HO)⟩,by simp only[intOf];omega⟩;rw[(Xo0 HH),UR];exact (Xo0 HO)
   ·have JX:¬2*(j:Int)+1<(A.length:Int):=(by omega);subst U5;rw[UU (by omega),Option.getD_none,Xaa,Tz] at S7;have HH:=Xh4 S7 QY J1 Q3;clear S7 QY J1 Q3 hb I0 hx
    go_wp2_with (at_builtin;refine Q0o rfl (.tmp 31) (.tmp 33) 24 rfl w _ 83 i0 _ 1 8 Tryz.underlying24 (Xo0 HI) (Xo1 HI) (Xo2 HI) (Xe3 HI) rfl (by decide) w.heap.size ((Xo2 HH) _) ((Xe3 HH) _) ao j co _ rfl ((Xo1 HH) _) ⟨wr.heap.size,0,none⟩ 1 1 [.int .u64 (x:Int)] rfl rfl (Q3f wr #[.int .u64 (x:Int)] _ _) (Qag _ _) (j+1) rfl (by omega) (by omega) ?_;intro a3 c3 w3 Z7 X9 G0 T5;have HO:=Xh2 Z7 G0;clear Z7 X9 G0 T5)
    refine ⟨⟨j+1,a3,c3,rfl,by simp only[Xbc,true_and];omega,by omega,?_,(Xe1 HO)⟩,by simp only[intOf];omega⟩;rw[(Xo0 HH),UR];exact (Xo0 HO)
  ·have J0:¬2*(j:Int)<(A.length:Int):=(by omega);have N0:(Q4h A).length=j:=(by rw[(Xo2 H)];omega);rw[Uw (by omega)] at I0;have hW:WordsIn wr ao j co (Q4h A):=⟨N0,I0.cap.1,I0.cap.2,(Xe3 H),Row.rdI I0⟩;have HW:=Xh2 hW hb;clear hW hb I0 N0
   go_wp2_with fail
   go_ret;exact ⟨ao,j,co,rfl,(Xo0 HW),(Xe1 HW)⟩
def Qrq (neg:Bool) (v:Nat) (e:Int) (neg':Bool) (v':Nat) (e':Int):Prop:=(v=0/\neg'=false/\v'=0/\e'=0)∨∃z:Nat,Qn5 v z/\neg'=neg/\v'=v / 2^z/\e'=e+z
theorem Qb5 {B u v:Nat} (hB:2<=B) (h:u<=v):(dig B u).length<=(dig B v).length:=by
 refine Q2q hB (TS h ?_);have h1:=Q2z (B:=B) (by omega) (dig B v) (Q28 hB v);rwa[Q0v hB] at h1
theorem Q0r.nil_ (w:World):Q0r w none 0 0 0:=⟨rfl,Ue _,by omega,.inl rfl⟩
theorem Q7z (neg:Bool) (a:OA) (n c:Nat) (v:Nat) (e:Int) (w:World) (h:Q0r w a n c v) (hn:n<=1000000) (he: -1000000000<=e) (Q6:e<=1000000000):
 Calls Tryz.prog 140 #[.bool neg,.slice a n c,.int .i64 e] w fun r w'=>∃neg' a' n' c' v' e',r=.returned (.agg #[.bool neg',.slice a' n' c',.int .i64 e'])/\Qrq neg v e neg' v' e'/\Q0r w' a' n' c' v'/\n'<=n/\-1000000000<=e'/\e'<=1000000000+32*n/\Bw w w':=by
 have Z2:∀o,Bw w (w.alloc o):=fun o=>Ba;have hN:=Q03.new w (.bool false) (.slice none 0 0) (.int .i64 0) 87;have I3:=Q0h w (.cells #[.bool false,.slice none 0 0,.int .i64 0] 87)
 by_cases h0:v=0
 ·have A9:n=0:=by have:=h.len;rw[h0,Q0z] at this;exact this.symm
  subst A9;have HS:=Xh2 hN (Z2 (.cells #[.bool false,.slice none 0 0,.int .i64 0] 87));obtain ⟨N4,O1,E1,m4,Y3,A4⟩:=hN.cf;have C3:=hN.d1 (.bool false);have V2:=hN.d2 (.bool false) (.slice none 0 0);clear hN Z2 h
  go_enter Tryz.func140,Tryz.ntmps140
  go_wp2_with fail
  have k0:=(Xo0 HS).c0;have k1:=(Xo0 HS).c1;have k2:=(Xo0 HS).c2;have G0:=(Xe1 HS);clear HS C3 V2 N4 O1 E1 m4 Y3 A4;generalize w.alloc _=W3 at k0 k1 k2 G0⊢;refine ⟨rfl,.agg #[.bool false,.slice none 0 0,.int .i64 0],by simp[results,go_sem,k0,k1,k2],false,none,0,0,0,0,rfl,.inl ⟨h0,rfl,rfl,rfl⟩,Q0r.nil_ _,Ue _,by omega,by omega,G0⟩
 ·have A9:n≠0:=fun e=>h0 ((Q58 (B:=2^32) (by decide)).1 (UJ.1 (by rw[h.len,e])));have hn0':((n:Int)==0)=false:=by rw[Uk];omega
  have hz:=fun W (hb:Bw w W)=>Q7g a n c v W (h.step hb) hn h0;have hd:=fun W (hb:Bw w W) z hz=>Ql5 a n c v z W (h.step hb) hn hz;have HZ:=Xh2 hz hd;have HN:=Xh3 hN h0 h.len;clear hz hd hN h h0
  go_enter Tryz.func140,Tryz.ntmps140
  go_wp2_with (first
   |(go_at_call_of 166 a;refine ((Xo0 HZ) _ (Z2 _)).mono ?_;rintro r w1 ⟨⟨z,rfl,G1,K1⟩,C0⟩;have K0:=Xh3 G1 C0 K1;clear C0 G1)
   |(refine ((Xe1 HZ) _ (Below.next0 (Z2 _) (Xo1 K0)) z (by omega)).mono ?_;rintro r w2 ⟨a2,n2,c2,lb,rfl,Zf,D0⟩;have A1:=((Xo0 HN).step (Xo1 K0) I3).step D0 (Uc I3 (Xo1 K0).size);
     obtain ⟨N4,O1,E1,m4,Y3,A4⟩:=A1.cf;have C3:=A1.d1 (.bool neg);have V2:=A1.d2 (.bool neg) (.slice a2 n2 c2);have F1:=Xh3 A1 Zf D0;clear A1 D0 Zf))
  have hS:=(Xo0 F1).store (.bool neg) (.slice a2 n2 c2) (.int .i64 (e+(z:Int)));obtain ⟨k0,k1,k2⟩:=hS.cc;have G0:=Q03.below (Below.next0 (Below.next0 (Z2 _) (Xo1 K0)) (Xe2 F1)) (Ue _) (.bool neg) (.slice a2 n2 c2) (.int .i64 (e+(z:Int)));have hD:=(Xo1 F1);have hD3:Q0r _ a2 n2 c2 (v / 2^z):=⟨hD.len,hD.cap,hD.most,(hD.rd.store3 (Xo0 F1) (fun _=>by simp[nv]) (fun _=>by simp[nv]) (fun _=>by simp[nv]) (.bool neg) (.slice a2 n2 c2) (.int .i64 (e+(z:Int)))).more (Q1i _ _ _ _ _)⟩;clear N4 O1 E1 m4 Y3 A4 C3 V2 hS hD;have C6:n2<=n:=by
   rw[<-hD3.len,<-(Xe2 HN)];exact Qb5 (by decide) (Xbt _ _)
  generalize World.setCell _ _ _=W3 at k0 k1 k2 G0 hD3⊢;refine ⟨rfl,.agg #[.bool neg,.slice a2 n2 c2,.int .i64 (e+(z:Int))],by simp[results,go_sem,k0,k1,k2],neg,a2,n2,c2,v / 2^z,e+(z:Int),rfl,.inr ⟨z,(Xo0 K0),rfl,rfl,rfl⟩,hD3,C6,by omega,by omega,G0⟩
def Fit (v:Nat) (e:Int):Prop:=(dig (2^64) v).length<=64/\-65536<=e/\e<=65536
def Qn9 (neg:Bool) (v:Nat) (e:Int) (neg':Bool) (e':Int) (L:LN) (er:Int):Prop:=
 (v=0/\neg'=false/\e'=0/\L=[]/\er=0)∨(v≠0/\¬Fit v e/\neg'=false/\e'=0/\L=[]/\er=2)∨(v≠0/\Fit v e/\neg'=neg/\e'=e/\L=dig (2^64) v/\er=0)
theorem WordsIn.nil_ (w:World):WordsIn w none 0 0 []:=⟨rfl,Ue _,by omega,fun x hx=>by simp at hx,.inl rfl⟩
theorem Q80 (neg:Bool) (a:OA) (n c:Nat) (v:Nat) (e:Int) (w:World) (h:Q0r w a n c v) (hn:n<=1000000):
 Calls Tryz.prog 118 #[.agg #[.bool neg,.slice a n c,.int .i64 e]] w fun r w'=>∃neg' e' a' n' c' L er,r=.returned (.tuple #[.agg #[.bool neg',.int .i64 e',.slice a' n' c'],.int .i64 er])/\Qn9 neg v e neg' e' L er/\WordsIn w' a' n' c' L/\Bw w w':=by
 obtain ⟨W0,R1⟩:∃W0,(w.alloc (.cells #[.bool neg,.slice a n c,.int .i64 e] 87)).alloc (.cells #[.bool false,.int .i64 0,.slice none 0 0] 26)=W0:=⟨_,rfl⟩;have A2:(w.alloc (.cells #[.bool neg,.slice a n c,.int .i64 e] 87)).heap.size=w.heap.size+1:=Ui _ _;have X1:Bw w W0:=by rw[<-R1];exact Below.next0 (Ba) (Ba)
 have hV:Q03 W0 w.heap.size (.bool neg) (.slice a n c) (.int .i64 e):=by
  rw[<-R1];exact (Q03.new w _ _ _ 87).step (Ba) (Q0h _ _)
 have hN:Q03 W0 (w.heap.size+1) (.bool false) (.int .i64 0) (.slice none 0 0):=by
  rw[<-R1,<-A2];exact Q03.new _ _ _ _ _
 have I3:w.heap.size+1<W0.heap.size:=by
  have h1:=Q0h (w.alloc (.cells #[.bool neg,.slice a n c,.int .i64 e] 87)) (.cells #[.bool false,.int .i64 0,.slice none 0 0] 26);rw[R1,A2] at h1;exact h1
 by_cases h0:v=0
 ·have A9:n=0:=by have:=h.len;rw[h0,Q0z] at this;exact this.symm
  subst A9;have HS:=Xh2 (hN.store (.bool false) (.int .i64 0) (.slice none 0 0)) (Q03.below X1 (Xaq _) (b:=w.heap.size+1) (.bool false) (.int .i64 0) (.slice none 0 0));have J8:=hV.c1;obtain ⟨N4,O1,E1,m4,Y3,A4⟩:=hN.cf;have C3:=hN.d1 (.bool false);have V2:=hN.d2 (.bool false) (.int .i64 0);have HW:=Ub R1;clear hN hV X1 h R1
  go_enter Tryz.func118,Tryz.ntmps118
  go_upto_region 1 with fail
  rw[HW.out]
  go_wp2_with fail
  have k0:=(Xo0 HS).c0;have k1:=(Xo0 HS).c1;have k2:=(Xo0 HS).c2;have G0:=(Xe1 HS);clear HS N4 O1 E1 m4 Y3 A4 C3 V2;generalize World.setCell _ _ _=W3 at k0 k1 k2 G0⊢;refine ⟨rfl,.tuple #[.agg #[.bool false,.int .i64 0,.slice none 0 0],.int .i64 0],by simp[results,go_sem,k0,k1,k2],false,0,none,0,0,[],0,rfl,.inl ⟨h0,rfl,rfl,rfl,rfl⟩,WordsIn.nil_ _,G0⟩
 ·have A9:n≠0:=fun e=>h0 ((Q58 (B:=2^32) (by decide)).1 (UJ.1 (by rw[h.len,e])));have hn0':((n:Int)==0)=false:=by rw[Uk];omega
  have hw:=Qhw a n c v W0 ⟨h.len,h.cap,h.most,(h.rd.below X1).more X1.size⟩ hn;have HW:=Xh2 R1 hw;have HN:=Xh5 hV hN I3 h0 X1;have J8:=hV.c1;clear hw R1 hV hN h h0 X1
  by_cases N0:(dig (2^64) v).length<=64
  ·have Jh:((dig (2^64) v).length:Int)<=64:=by omega
   by_cases i4:e< -65536
   ·have O3:¬Fit v e:=fun h=>by have:=h.2.1;omega
    have HF:=Ub O3;clear O3;obtain ⟨N,Js⟩:∃N,(dig (2^64) v).length=N:=⟨_,rfl⟩;rw[Js] at N0 Jh
    go_enter Tryz.func118,Tryz.ntmps118
    go_upto_region 1 with fail
    rw[(Xo0 HW)]
    go_wp2_with (refine (Xe1 HW).mono ?_;rintro r w1 ⟨a2,n2,c2,rfl,O2,C0⟩;have C6:N=n2:=by { rw[<-Js];exact O2.len };subst C6;
                 have O5:=(Xo0 HN).step C0 (Nat.lt_of_succ_lt (Xo2 HN));have J2:=(Xo1 HN).step C0 (Xo2 HN);obtain ⟨N4,O1,E1,m4,Y3,A4⟩:=J2.cf;have C3:=J2.d1 (.bool false);have V2:=J2.d2 (.bool false) (.int .i64 0);obtain ⟨y8,R6,J5⟩:=O5.cc;have K0:=Xh3 J2 (Below.next0 (Xe4 HN) C0) O2;clear J2 O5 C0 O2)
    have hS:=(Xo0 K0).store (.bool false) (.int .i64 0) (.slice none 0 0);obtain ⟨k0,k1,k2⟩:=hS.cc;have Z0:=Q03.below (Xo1 K0) (Xaq _) (b:=w.heap.size+1) (.bool false) (.int .i64 0) (.slice none 0 0);have N7:WordsIn _ a2 N c2 (dig (2^64) v):=⟨(Xe2 K0).len,(Xe2 K0).cap,(Xe2 K0).most,(Xe2 K0).low,((Xe2 K0).rd.store3 (Xo0 K0) (fun _=>by simp[nv]) (fun _=>by simp[nv]) (fun _=>by simp[nv]) (.bool false) (.int .i64 0) (.slice none 0 0)).more (Q1i _ _ _ _ _)⟩;clear hS N4 O1 E1 m4 Y3 A4 C3 V2 y8 R6 J5;generalize World.setCell _ _ _=W5 at k0 k1 k2 Z0 N7⊢;refine ⟨rfl,.tuple #[.agg #[.bool false,.int .i64 0,.slice none 0 0],.int .i64 2],by simp[results,go_sem,k0,k1,k2],false,0,none,0,0,[],2,rfl,.inr (.inl ⟨(Xo3 HN),HF.out,rfl,rfl,rfl,rfl⟩),WordsIn.nil_ _,Z0⟩
   ·by_cases Qd:65536<e
    ·have O3:¬Fit v e:=fun h=>by have:=h.2.2;omega
     have HF:=Ub O3;clear O3;obtain ⟨N,Js⟩:∃N,(dig (2^64) v).length=N:=⟨_,rfl⟩;rw[Js] at N0 Jh
     go_enter Tryz.func118,Tryz.ntmps118
     go_upto_region 1 with fail
     rw[(Xo0 HW)]
     go_wp2_with (refine (Xe1 HW).mono ?_;rintro r w1 ⟨a2,n2,c2,rfl,O2,C0⟩;have C6:N=n2:=by { rw[<-Js];exact O2.len };subst C6;
                  have O5:=(Xo0 HN).step C0 (Nat.lt_of_succ_lt (Xo2 HN));have J2:=(Xo1 HN).step C0 (Xo2 HN);obtain ⟨N4,O1,E1,m4,Y3,A4⟩:=J2.cf;have C3:=J2.d1 (.bool false);have V2:=J2.d2 (.bool false) (.int .i64 0);obtain ⟨y8,R6,J5⟩:=O5.cc;have K0:=Xh3 J2 (Below.next0 (Xe4 HN) C0) O2;clear J2 O5 C0 O2)
     have hS:=(Xo0 K0).store (.bool false) (.int .i64 0) (.slice none 0 0);obtain ⟨k0,k1,k2⟩:=hS.cc;have Z0:=Q03.below (Xo1 K0) (Xaq _) (b:=w.heap.size+1) (.bool false) (.int .i64 0) (.slice none 0 0);have N7:WordsIn _ a2 N c2 (dig (2^64) v):=⟨(Xe2 K0).len,(Xe2 K0).cap,(Xe2 K0).most,(Xe2 K0).low,((Xe2 K0).rd.store3 (Xo0 K0) (fun _=>by simp[nv]) (fun _=>by simp[nv]) (fun _=>by simp[nv]) (.bool false) (.int .i64 0) (.slice none 0 0)).more (Q1i _ _ _ _ _)⟩;clear hS N4 O1 E1 m4 Y3 A4 C3 V2 y8 R6 J5;generalize World.setCell _ _ _=W5 at k0 k1 k2 Z0 N7⊢;refine ⟨rfl,.tuple #[.agg #[.bool false,.int .i64 0,.slice none 0 0],.int .i64 2],by simp[results,go_sem,k0,k1,k2],false,0,none,0,0,[],2,rfl,.inr (.inl ⟨(Xo3 HN),HF.out,rfl,rfl,rfl,rfl⟩),WordsIn.nil_ _,Z0⟩
    ·have O3:Fit v e:=⟨N0,by omega,by omega⟩;have HF:=Ub O3;clear O3;obtain ⟨N,Js⟩:∃N,(dig (2^64) v).length=N:=⟨_,rfl⟩;rw[Js] at N0 Jh
     go_enter Tryz.func118,Tryz.ntmps118
     go_upto_region 1 with fail
     rw[(Xo0 HW)]
     go_wp2_with (refine (Xe1 HW).mono ?_;rintro r w1 ⟨a2,n2,c2,rfl,O2,C0⟩;have C6:N=n2:=by { rw[<-Js];exact O2.len };subst C6;
                  have O5:=(Xo0 HN).step C0 (Nat.lt_of_succ_lt (Xo2 HN));have J2:=(Xo1 HN).step C0 (Xo2 HN);obtain ⟨N4,O1,E1,m4,Y3,A4⟩:=J2.cf;have C3:=J2.d1 (.bool neg);have V2:=J2.d2 (.bool neg) (.int .i64 e);obtain ⟨y8,R6,J5⟩:=O5.cc;have K0:=Xh3 J2 (Below.next0 (Xe4 HN) C0) O2;clear J2 O5 C0 O2)
     have hS:=(Xo0 K0).store (.bool neg) (.int .i64 e) (.slice a2 N c2);obtain ⟨k0,k1,k2⟩:=hS.cc;have Z0:=Q03.below (Xo1 K0) (Xaq _) (b:=w.heap.size+1) (.bool neg) (.int .i64 e) (.slice a2 N c2);have N7:WordsIn _ a2 N c2 (dig (2^64) v):=⟨(Xe2 K0).len,(Xe2 K0).cap,(Xe2 K0).most,(Xe2 K0).low,((Xe2 K0).rd.store3 (Xo0 K0) (fun _=>by simp[nv]) (fun _=>by simp[nv]) (fun _=>by simp[nv]) (.bool neg) (.int .i64 e) (.slice a2 N c2)).more (Q1i _ _ _ _ _)⟩;clear hS N4 O1 E1 m4 Y3 A4 C3 V2 y8 R6 J5;generalize World.setCell _ _ _=W5 at k0 k1 k2 Z0 N7⊢;refine ⟨rfl,.tuple #[.agg #[.bool neg,.int .i64 e,.slice a2 N c2],.int .i64 0],by simp[results,go_sem,k0,k1,k2],neg,e,a2,N,c2,_,0,rfl,.inr (.inr ⟨(Xo3 HN),HF.out,rfl,rfl,rfl,rfl⟩),N7,Z0⟩
  ·have Jh:¬((dig (2^64) v).length:Int)<=64:=(by omega);have O3:¬Fit v e:=fun h=>N0 h.1;have HF:=Ub O3;clear O3;obtain ⟨N,Js⟩:∃N,(dig (2^64) v).length=N:=⟨_,rfl⟩;rw[Js] at N0 Jh
   go_enter Tryz.func118,Tryz.ntmps118
   go_upto_region 1 with fail
   rw[(Xo0 HW)]
   go_wp2_with (refine (Xe1 HW).mono ?_;rintro r w1 ⟨a2,n2,c2,rfl,O2,C0⟩;have C6:N=n2:=by { rw[<-Js];exact O2.len };subst C6;
                have O5:=(Xo0 HN).step C0 (Nat.lt_of_succ_lt (Xo2 HN));have J2:=(Xo1 HN).step C0 (Xo2 HN);obtain ⟨N4,O1,E1,m4,Y3,A4⟩:=J2.cf;have C3:=J2.d1 (.bool false);have V2:=J2.d2 (.bool false) (.int .i64 0);obtain ⟨y8,R6,J5⟩:=O5.cc;have K0:=Xh3 J2 (Below.next0 (Xe4 HN) C0) O2;clear J2 O5 C0 O2)
   have hS:=(Xo0 K0).store (.bool false) (.int .i64 0) (.slice none 0 0);obtain ⟨k0,k1,k2⟩:=hS.cc;have Z0:=Q03.below (Xo1 K0) (Xaq _) (b:=w.heap.size+1) (.bool false) (.int .i64 0) (.slice none 0 0);have N7:WordsIn _ a2 N c2 (dig (2^64) v):=⟨(Xe2 K0).len,(Xe2 K0).cap,(Xe2 K0).most,(Xe2 K0).low,((Xe2 K0).rd.store3 (Xo0 K0) (fun _=>by simp[nv]) (fun _=>by simp[nv]) (fun _=>by simp[nv]) (.bool false) (.int .i64 0) (.slice none 0 0)).more (Q1i _ _ _ _ _)⟩;clear hS N4 O1 E1 m4 Y3 A4 C3 V2 y8 R6 J5;generalize World.setCell _ _ _=W5 at k0 k1 k2 Z0 N7⊢;refine ⟨rfl,.tuple #[.agg #[.bool false,.int .i64 0,.slice none 0 0],.int .i64 2],by simp[results,go_sem,k0,k1,k2],false,0,none,0,0,[],2,rfl,.inr (.inl ⟨(Xo3 HN),HF.out,rfl,rfl,rfl,rfl⟩),WordsIn.nil_ _,Z0⟩
def dy (n e:Int):Dyadic:=Dyadic.ofIntWithPrec n (-e)
theorem Q7h (n e:Int):(dy n e).toRat=(n:Rat)*2^e:=by
 unfold dy;rw[Dyadic.toRat_ofIntWithPrec_eq_mul_two_pow,Int.neg_neg]
theorem Qf6 (a b e:Int):dy a e+dy b e=dy (a+b) e:=by
 rw[<-Dyadic.toRat_inj,Dyadic.toRat_add,Q7h,Q7h,Q7h,Rat.intCast_add,Rat.add_mul]
theorem Qna (a e:Int): -dy a e=dy (-a) e:=by
 unfold dy;rw[Dyadic.neg_ofIntWithPrec]
theorem Qah (e:Int):dy 0 e=0:=rfl
theorem Qxj (a b e f:Int):dy a e*dy b f=dy (a*b) (e+f):=by
 rw[<-Dyadic.toRat_inj,Dyadic.toRat_mul,Q7h,Q7h,Q7h,Rat.intCast_mul,Rat.zpow_add (by decide)];generalize (2:Rat)^e=x;generalize (2:Rat)^f=y
 grind
theorem Q9i (a e:Int) (k:Nat):dy a (e+k)=dy (a*2^k) e:=by
 rw[<-Dyadic.toRat_inj,Q7h,Q7h,Rat.zpow_add (by decide),Rat.intCast_mul,Rat.intCast_pow,Rat.zpow_natCast];generalize (2:Rat)^e=x;rw[show ((2:Int):Rat)=2 from rfl];generalize (2:Rat)^k=y
 grind
theorem Qcl {a e:Int} (h:a%2=1):dy a e=.ofOdd a (-e) h:=Dyadic.ofOdd_eq_ofIntWithPrec.symm
theorem Qrr {a b e f:Int} (ha:a%2=1) (hb:b%2=1) (h:dy a e=dy b f):a=b/\e=f:=by
 rw[Qcl ha,Qcl hb] at h;injection h with h1 h2;exact ⟨h1,by omega⟩
theorem Ql6 {a e:Int} (ha:a%2=1):dy a e≠0:=by
 rw[Qcl ha];exact Dyadic.of_ne_zero
def sgn (neg:Bool) (v:Nat):Int:=if neg=true then -(v:Int) else (v:Int)
theorem Q2u (neg:Bool):sgn neg 0=0:=by cases neg <;> rfl
theorem Q4r {neg:Bool} {v:Nat} (h:v%2=1):sgn neg v%2=1:=by
 unfold sgn;split <;> omega
theorem Qai (neg:Bool) (v:Nat):(sgn neg v).natAbs=v:=by
 unfold sgn;split <;> omega
theorem Qy6 {n m:Bool} {v u:Nat} (hv:v≠0) (h:sgn n v=sgn m u):n=m/\v=u:=by
 unfold sgn at h;cases n <;> cases m <;> simp at h <;> first|(refine ⟨rfl,?_⟩;omega)|(exfalso;omega)
theorem Qy7 (n:Bool) (v:Nat):sgn (!n) v= -sgn n v:=by
 cases n <;> simp[sgn]
theorem Qrs (n m:Bool) (v u:Nat):sgn n v*sgn m u=sgn (n != m) (v*u):=by
 cases n <;> cases m <;> simp[sgn,Int.neg_mul,Int.mul_neg]
theorem Q3n (n:Bool) (v k:Nat):sgn n v*2^k=sgn n (v*2^k):=by
 cases n <;> simp[sgn,Int.neg_mul]
def Q44 (d:Dyadic):Prop:=d=0∨∃m e:Int,d=dy m e/\m%2=1/\m.natAbs<(2^64)^64/\-65536<=e/\e<=65536
def Q1p (neg:Bool) (e:Int) (L:LN):Dyadic:=dy (sgn neg (val (2^64) L)) e
theorem Qvi:Q1p false 0 []=0:=rfl
theorem Q1t {neg:Bool} {e:Int} {L:LN} (h:Q0a neg e L) (hl:Low (2^64) L):
 (L=[]/\neg=false/\e=0)∨(L≠[]/\val (2^64) L%2=1/\L=dig (2^64) (val (2^64) L)/\val (2^64) L<(2^64)^64/\-65536<=e/\e<=65536):=by
 unfold Q0a at h
 by_cases hL:L=[]
 ·rw[Us hL] at h;exact .inl ⟨hL,h⟩
 ·rw[Up hL] at h;obtain ⟨h1,h2,h3,h4,h5⟩:=h;have ht:trimL L=L:=by
   have:=Q4f L;rw[h1,Tn] at this;exact this.symm
  refine .inr ⟨hL,?_,?_,?_,h4,h5⟩
  ·cases L with
   |nil=>exact absurd rfl hL
   |cons x r=>
    have Vh:x%2=1:=h3;simp only[val];omega
  ·rw[<-Q1l (by decide) hl,ht]
  ·exact Uc (Q2z (by decide) L hl) (UO (by decide) h2)
theorem Q35 {neg:Bool} {e:Int} {L:LN} (h:Q0a neg e L) (hl:Low (2^64) L):Q44 (Q1p neg e L):=by
 rcases Q1t h hl with ⟨rfl,rfl,rfl⟩|⟨_,h1,_,h2,h3,h4⟩
 ·exact .inl rfl
 ·exact .inr ⟨_,_,rfl,Q4r h1,by rw[Qai];exact h2,h3,h4⟩
theorem Q45 {neg:Bool} {e:Int} {L:LN} (h:Q0a neg e L) (hl:Low (2^64) L):Q1p neg e L=0↔L=[]:=by
 rcases Q1t h hl with ⟨rfl,rfl,rfl⟩|⟨h0,h1,_⟩
 ·exact ⟨fun _=>rfl,fun _=>rfl⟩
 ·exact ⟨fun h=>absurd h (Ql6 (Q4r h1)),fun h=>absurd h h0⟩
theorem Ql7 {n m:Bool} {e f:Int} {L K:LN} (h1:Q0a n e L) (l1:Low (2^64) L) (h2:Q0a m f K) (l2:Low (2^64) K) (h:Q1p n e L=Q1p m f K):n=m/\e=f/\L=K:=by
 rcases Q1t h1 l1 with ⟨rfl,rfl,rfl⟩|⟨h0,ho,hd,_⟩
 ·have hz:Q1p m f K=0:=h.symm;have hK:=(Q45 h2 l2).1 hz;subst hK;unfold Q0a at h2;rw[Us rfl] at h2;exact ⟨h2.1.symm,h2.2.symm,rfl⟩
 ·rcases Q1t h2 l2 with ⟨rfl,rfl,rfl⟩|⟨k0,ko,kd,_⟩
  ·exact absurd h (Ql6 (Q4r ho))
  ·obtain ⟨hs,he⟩:=Qrr (Q4r ho) (Q4r ko) h;obtain ⟨hn,hv⟩:=Qy6 (by omega) hs;exact ⟨hn,he,by rw[hd,kd,hv]⟩
theorem Qrt {v z:Nat} (h:Qn5 v z) (neg:Bool) (e:Int):dy (sgn neg (v / 2^z)) (e+z)=dy (sgn neg v) e:=by
 rw[Q9i,Q3n,Nat.div_mul_cancel (Nat.dvd_of_mod_eq_zero h.1)]
theorem Qcm {v:Nat} (h:v<(2^64)^64):(dig (2^64) v).length<=64:=Q2q (by decide) h
theorem Ql8 {v:Nat} (h:(dig (2^64) v).length<=64):v<(2^64)^64:=by
 have h1:=Q2z (B:=2^64) (by decide) (dig (2^64) v) (Q28 (by decide) v);rw[Q0v (by decide)] at h1;exact Uc h1 (UO (by decide) h)
theorem Qhx {neg:Bool} {e:Int} {q:Nat} (ho:q%2=1):Q0a neg e (dig (2^64) q)↔(q<(2^64)^64/\-65536<=e/\e<=65536):=by
 have m9:q≠0:=by omega
 have Q0:dig (2^64) q≠[]:=fun h=>m9 ((Q58 (by decide)).1 h);have ht:trimL (dig (2^64) q)=dig (2^64) q:=by rw[Q1l (by decide) (Q28 (by decide) q),Q0v (by decide)]
 have hh:(dig (2^64) q).headD 0%2=1:=by
  rw[Q4c (by decide) m9]
  show q%2^64%2=1
  omega
 unfold Q0a;rw[Up Q0,ht]
 constructor
 ·rintro ⟨_,h2,_,h4,h5⟩;exact ⟨Ql8 h2,h4,h5⟩
 ·rintro ⟨h1,h2,h3⟩;exact ⟨rfl,Qcm h1,hh,h2,h3⟩
theorem Q5t {neg:Bool} {e:Int} {q:Nat} (ho:q%2=1):Q44 (dy (sgn neg q) e)↔(q<(2^64)^64/\-65536<=e/\e<=65536):=by
 constructor
 ·rintro (h|⟨m,f,h,hm,h1,h2,h3⟩)
  ·exact absurd h (Ql6 (Q4r ho))
  ·obtain ⟨rfl,rfl⟩:=Qrr (Q4r ho) hm h;rw[Qai] at h1;exact ⟨h1,h2,h3⟩
 ·rintro ⟨h1,h2,h3⟩;exact .inr ⟨_,_,rfl,Q4r ho,by rw[Qai];exact h1,h2,h3⟩
def Qnb (d:Dyadic) (n':Bool) (e':Int) (L:LN) (er:Int):Prop:=
 (Q44 d/\er=0/\Q0a n' e' L/\Q1p n' e' L=d)∨(¬Q44 d/\er=2/\n'=false/\e'=0/\L=[])
theorem Q81 {neg:Bool} {v:Nat} {exp:Int} {n':Bool} {e':Int} {L:LN} {er:Int} (h:Q7e neg v exp n' e' L er):Qnb (dy (sgn neg v) exp) n' e' L er:=by
 rcases h with ⟨rfl,rfl,rfl,rfl,rfl⟩|⟨z,hz,h⟩
 ·exact .inl ⟨by rw[Q2u];exact .inl rfl,rfl,by decide,by rw[Q2u];rfl⟩
 ·have hf:=Q5t (neg:=neg) (e:=exp+z) hz.2;have hi:=Qhx (neg:=neg) (e:=exp+z) hz.2;rw[Qrt hz] at hf;rcases h with ⟨h,rfl,rfl,rfl,rfl⟩|⟨h1,h2,h3,rfl,rfl,rfl,rfl⟩
  ·refine .inr ⟨fun O3=>?_,rfl,rfl,rfl,rfl⟩;have h4:=hf.1 O3;rcases h with h|h|h
   ·omega
   ·omega
   ·exact h (hi.2 h4)
  ·refine .inl ⟨hf.2 (hi.1 h3),rfl,h3,?_⟩;unfold Q1p;rw[Q0v (by decide),Qrt hz]
def Q4y (neg:Bool) (v:Nat) (e:Int):Prop:=(v=0->neg=false/\e=0)/\(v≠0->v%2=1)
theorem Qcn {neg:Bool} {v:Nat} {e:Int} {n':Bool} {v':Nat} {e':Int} (h:Qrq neg v e n' v' e'):Q4y n' v' e'/\dy (sgn n' v') e'=dy (sgn neg v) e:=by
 rcases h with ⟨rfl,rfl,rfl,rfl⟩|⟨z,hz,rfl,rfl,rfl⟩
 ·exact ⟨⟨fun _=>⟨rfl,rfl⟩,fun h=>absurd rfl h⟩,by rw[Q2u,Q2u];rfl⟩
 ·have:=hz.2;exact ⟨⟨fun h=>by omega,fun _=>hz.2⟩,Qrt hz _ _⟩
theorem Qf7 {neg:Bool} {v:Nat} {e:Int} {n':Bool} {e':Int} {L:LN} {er:Int} (hc:Q4y neg v e) (h:Qn9 neg v e n' e' L er):Qnb (dy (sgn neg v) e) n' e' L er:=by
 rcases h with ⟨rfl,rfl,rfl,rfl,rfl⟩|⟨h0,hf,rfl,rfl,rfl,rfl⟩|⟨h0,hf,rfl,rfl,rfl,rfl⟩
 ·exact .inl ⟨by rw[Q2u];exact .inl rfl,rfl,by decide,by rw[Q2u];rfl⟩
 ·refine .inr ⟨fun O3=>hf ?_,rfl,rfl,rfl,rfl⟩;obtain ⟨h1,h2,h3⟩:=(Q5t (hc.2 h0)).1 O3;exact ⟨Qcm h1,h2,h3⟩
 ·have h3:=(Qhx (neg:=n') (e:=e') (hc.2 h0)).2 ⟨Ql8 hf.1,hf.2.1,hf.2.2⟩;exact .inl ⟨(Q5t (hc.2 h0)).2 ⟨Ql8 hf.1,hf.2.1,hf.2.2⟩,rfl,h3,by unfold Q1p;rw[Q0v (by decide)]⟩
def Q3j:List Int->List Int->Int
 |[],[]=>0
 |[],_::_=> -1
 |_::_,[]=>1
 |a::xs,b::bs=>if a<b then -1 else if b<a then 1 else Q3j xs bs
theorem Q7i:∀(a b:List Int),Q3j a b=0↔a=b
 |[],[]=>by simp[Q3j]
 |[],_::_=>by simp[Q3j]
 |_::_,[]=>by simp[Q3j]
 |a::xs,b::bs=>by
  have ih:=Q7i xs bs;simp only[Q3j,List.cons.injEq]
  split
  ·constructor
   ·intro h;omega
   ·rintro ⟨rfl,_⟩;omega
  ·split
   ·constructor
    ·intro h;omega
    ·rintro ⟨rfl,_⟩;omega
   ·rw[ih]
    constructor
    ·intro h;exact ⟨by omega,h⟩
    ·exact fun h=>h.2
theorem Qco (a:List Int):Q3j a a=0:=(Q7i a a).2 rfl
theorem Q3t:∀(a b:List Int),Q3j b a= -Q3j a b
 |[],[]=>rfl
 |[],_::_=>rfl
 |_::_,[]=>rfl
 |a::xs,b::bs=>by
  have ih:=Q3t xs bs;simp only[Q3j]
  by_cases h1:a<b
  ·rw[Up (by omega),Us h1,Us h1];rfl
  ·by_cases h2:b<a
   ·rw[Us h2,Up h1,Us h2]
   ·rw[Up h2,Up h1,Up h1,Up h2,ih]
theorem Q68:∀(a b c:List Int),0<Q3j a b->0<Q3j b c->0<Q3j a c
 |[],[],_=>fun h=>by simp[Q3j] at h
 |[],_::_,_=>fun h=>by simp[Q3j] at h
 |_::_,[],[]=>fun _ h=>by simp[Q3j] at h
 |_::_,[],_::_=>fun _ h=>by simp[Q3j] at h
 |_::_,_::_,[]=>fun _ _=>by simp[Q3j]
 |a::xs,b::bs,c::cs=>by
  have ih:=Q68 xs bs cs;simp only[Q3j];intro h1 h2
  by_cases c1:a<b
  ·rw[Us c1] at h1;omega
  ·rw[Up c1] at h1
   by_cases c2:b<c
   ·rw[Us c2] at h2;omega
   ·rw[Up c2] at h2;rw[Up (by omega)]
    by_cases c3:c<a
    ·rw[Us c3];omega
    ·rw[Up c3];rw[Up (by omega)] at h1;rw[Up (by omega)] at h2;exact ih h1 h2
abbrev Q0b:=Dyadic × List Int
def Qcp (l:List Q0b):Prop:=l.Pairwise fun p q=>0<Q3j p.2 q.2
def Q1e (E:List Int):List Q0b->Dyadic
 |[]=>0
 |p::r=>(if p.2=E then p.1 else 0)+Q1e E r
theorem Q9j (E:List Int) (l r:List Q0b):Q1e E (l++r)=Q1e E l+Q1e E r:=by
 induction l with
 |nil=>simp[Q1e]
 |cons p l ih=>rw[Tt,Q1e,Q1e,ih,Dyadic.add_assoc]
theorem Ql9 {E:List Int} {l:List Q0b} (h:∀p∈l,p.2≠E):Q1e E l=0:=by
 induction l with
 |nil=>rfl
 |cons p l ih=>
  rw[Q1e,Up (h p (by simp)),ih fun q hq=>h q (by simp[hq])];rfl
theorem Qcp.tail_ne {p:Q0b} {l:List Q0b} (h:Qcp (p::l)):∀q∈l,q.2≠p.2:=fun q hq e=>by
 have:=(TJ.1 h).1 q hq;rw[e,Qco] at this;omega
theorem Q55 {l:List Q0b} (hn:l.Pairwise fun p q=>p.2≠q.2) {p:Q0b} (h:p∈l):Q1e p.2 l=p.1:=by
 induction l with
 |nil=>cases h
 |cons q l ih=>
  obtain ⟨h1,h2⟩:=TJ.1 hn;rcases Uy.1 h with rfl|h
  ·rw[Q1e,Us rfl,Ql9 (fun r hr e=>h1 r hr e.symm),Xbu]
  ·rw[Q1e,Up (h1 p h),ih h2 h,Dyadic.zero_add]
theorem Qcp.once {l:List Q0b} (h:Qcp l):l.Pairwise fun p q=>p.2≠q.2:=by
 unfold Qcp at h;refine h.imp ?_;intro p q h e;rw[e,Qco] at h;omega
theorem Qcp.same:∀{l r:List Q0b},Qcp l->Qcp r->(∀p,p∈l↔p∈r)->l=r
 |[],[],_,_,_=>rfl
 |[],q::r,_,_,h=>by have:=(h q).2 (by simp);cases this
 |p::l,[],_,_,h=>by have:=(h p).1 (by simp);cases this
 |p::l,q::r,hl,hr,h=>by
  obtain ⟨l1,l2⟩:=TJ.1 hl;obtain ⟨r1,r2⟩:=TJ.1 hr;have hpq:p=q:=by
   have hp:=(h p).1 (by simp);have hq:=(h q).2 (by simp);rcases Uy.1 hp with e|hp
   ·exact e
   ·rcases Uy.1 hq with e|hq
    ·exact e.symm
    ·have a1:=l1 q hq;have a2:=r1 p hp;have a3:=Q3t p.2 q.2;omega
  subst hpq
  congr 1
  refine Qcp.same l2 r2 fun x=>?_;have hx:=h x
  constructor
  ·intro D4;rcases Uy.1 (hx.1 (by simp[D4])) with e|h'
   ·subst e;exact absurd rfl (hl.tail_ne x D4)
   ·exact h'
  ·intro hxr;rcases Uy.1 (hx.2 (by simp[hxr])) with e|h'
   ·subst e;exact absurd rfl (hr.tail_ne x hxr)
   ·exact h'
def Q8r (l:List Q0b) (c:Q0b):List Q0b:=
 match l with
 |[]=>[c]
 |q::r=>if 0<Q3j q.2 c.2 then q::Q8r r c else if q.2=c.2 then (q.1+c.1,q.2)::r else c::q::r
def Q1u (l:List Q0b):List Q0b:=l.foldl Q8r []
theorem Qhy (l:List Q0b) (c:Q0b) (p:Q0b) (h:p∈Q8r l c):p∈l∨p.2=c.2:=by
 induction l with
 |nil=>simp only[Q8r,Ux] at h;exact .inr (by rw[h])
 |cons q r ih=>
  simp only[Q8r] at h
  split at h
  ·rcases Uy.1 h with rfl|h
   ·exact .inl (by simp)
   ·rcases ih h with h|h
    ·exact .inl (by simp[h])
    ·exact .inr h
  ·split at h
   ·rename_i h2;rcases Uy.1 h with rfl|h
    ·exact .inr h2
    ·exact .inl (by simp[h])
   ·rcases Uy.1 h with rfl|h
    ·exact .inr rfl
    ·exact .inl h
theorem Qru {l:List Q0b} (h:Qcp l) (c:Q0b):Qcp (Q8r l c):=by
 induction l with
 |nil=>simp[Q8r,Qcp]
 |cons q r ih=>
  obtain ⟨h1,h2⟩:=TJ.1 h;simp only[Q8r]
  split
  ·rename_i hc;refine TJ.2 ⟨fun p hp=>?_,ih h2⟩;rcases Qhy r c p hp with hp|hp
   ·exact h1 p hp
   ·rw[hp];exact hc
  ·split
   ·exact TJ.2 ⟨h1,h2⟩
   ·rename_i O1 E1;have h0:0<Q3j c.2 q.2:=by
     have a1:=Q3t q.2 c.2;have a2:Q3j q.2 c.2≠0:=fun e=>E1 ((Q7i _ _).1 e);omega
    refine TJ.2 ⟨fun p hp=>?_,h⟩;rcases Uy.1 hp with rfl|hp
    ·exact h0
    ·exact Q68 _ _ _ h0 (h1 p hp)
theorem Qrv (E:List Int) (l:List Q0b) (c:Q0b):Q1e E (Q8r l c)=Q1e E l+Q1e E [c]:=by
 induction l with
 |nil=>simp[Q8r,Q1e]
 |cons q r ih=>
  simp only[Q8r]
  split
  ·simp only[Q1e,ih,Dyadic.add_assoc]
  ·split
   ·rename_i h2;simp only[Q1e,Xbu];rw[<-h2]
    by_cases hq:q.2=E
    ·rw[Us hq,Us hq,Us hq];grind
    ·rw[Up hq,Up hq,Up hq];grind
   ·simp only[Q1e,Xbu];grind
theorem Qvj (l:List Q0b) (c:Q0b):(∃p∈Q8r l c,p.2=c.2)/\∀p∈l,∃q∈Q8r l c,q.2=p.2:=by
 induction l with
 |nil=>exact ⟨⟨c,by simp[Q8r],rfl⟩,fun p hp=>(by cases hp)⟩
 |cons q r ih=>
  obtain ⟨⟨x,hx,Z3⟩,ih2⟩:=ih;simp only[Q8r]
  split
  ·refine ⟨⟨x,by simp[hx],Z3⟩,fun p hp=>?_⟩;rcases Uy.1 hp with rfl|hp
   ·exact ⟨p,by simp,rfl⟩
   ·obtain ⟨y,hy,QG⟩:=ih2 p hp;exact ⟨y,by simp[hy],QG⟩
  ·split
   ·rename_i h2;refine ⟨⟨_,TO,h2⟩,fun p hp=>?_⟩;rcases Uy.1 hp with rfl|hp
    ·exact ⟨_,TO,rfl⟩
    ·exact ⟨p,by simp[hp],rfl⟩
   ·exact ⟨⟨c,by simp,rfl⟩,fun p hp=>⟨p,by simp only[Uy] at hp⊢;exact .inr hp,rfl⟩⟩
theorem Q82 (l:List Q0b) (c:Q0b):Q1u (l++[c])=Q8r (Q1u l) c:=by simp[Q1u]
theorem Q6x (l:List Q0b):Qcp (Q1u l)/\(∀E,Q1e E (Q1u l)=Q1e E l)/\(∀p∈Q1u l,∃q∈l,q.2=p.2)/\(∀p∈l,∃q∈Q1u l,q.2=p.2):=by
 have key:∀n,∀l:List Q0b,l.length=n->Qcp (Q1u l)/\(∀E,Q1e E (Q1u l)=Q1e E l)/\(∀p∈Q1u l,∃q∈l,q.2=p.2)/\(∀p∈l,∃q∈Q1u l,q.2=p.2):=by
  intro n
  induction n with
  |zero=>
   intro l hl;obtain rfl:=UJ.1 hl;exact ⟨List.Pairwise.nil,fun _=>rfl,fun p hp=>(by cases hp),fun p hp=>(by cases hp)⟩
  |succ n ih=>
   intro l hl;have Q0:l≠[]:=fun e=>by rw[e] at hl;simp at hl
   obtain ⟨k,c,rfl⟩:∃k c,l=k++[c]:=⟨l.dropLast,l.getLast Q0,(List.dropLast_concat_getLast Q0).symm⟩;obtain ⟨h1,h2,h3,h4⟩:=ih k (by simpa using hl);rw[Q82];refine ⟨Qru h1 c,fun E=>by rw[Qrv,h2,Q9j],fun p hp=>?_,fun p hp=>?_⟩
   ·rcases Qhy _ c p hp with hp|hp
    ·obtain ⟨q,hq,F6⟩:=h3 p hp;exact ⟨q,by simp[hq],F6⟩
    ·exact ⟨c,by simp,hp.symm⟩
   ·obtain ⟨i1,i2⟩:=Qvj (Q1u k) c;rcases Tq.1 hp with hp|hp
    ·obtain ⟨q,hq,F6⟩:=h4 p hp;obtain ⟨r,hr,X0⟩:=i2 q hq;exact ⟨r,hr,X0.trans F6⟩
    ·rw[Ux] at hp;subst hp;exact i1
 exact key _ l rfl
theorem Qnc (l:List Q0b) (p:Q0b):p∈Q1u l↔(∃q∈l,q.2=p.2)/\p.1=Q1e p.2 l:=by
 obtain ⟨h1,h2,h3,h4⟩:=Q6x l
 constructor
 ·intro hp;exact ⟨h3 p hp,by rw[<-h2,Q55 h1.once hp]⟩
 ·rintro ⟨⟨q,hq,F6⟩,hp⟩;obtain ⟨r,hr,X0⟩:=h4 q hq;have h5:=Q55 h1.once hr;rw[h2] at h5;have h6:r=p:=by
   obtain ⟨r1,r2⟩:=r;obtain ⟨p1,p2⟩:=p;simp only at X0 h5 hp F6;rw[F6] at X0;subst X0;rw[<-h5,<-hp]
  rw[<-h6];exact hr
theorem Qrw {l:List Q0b} (h:Qcp l):Q1u l=l:=by
 refine Qcp.same (Q6x l).1 h fun p=>?_;rw[Qnc]
 constructor
 ·rintro ⟨⟨q,hq,F6⟩,hp⟩;have h5:=Q55 h.once hq;rw[F6] at h5;have:q=p:=by
   obtain ⟨q1,q2⟩:=q;obtain ⟨p1,p2⟩:=p;simp only at F6 h5 hp;subst F6;rw[hp,h5]
  rw[<-this];exact hq
 ·intro hp;exact ⟨⟨p,hp,rfl⟩,(Q55 h.once hp).symm⟩
def Q63 (l:List Q0b) (c:Q0b):List Q0b:=
 match l with
 |[]=>[c]
 |q::r=>if q.2=c.2 then (q.1+c.1,q.2)::r else q::Q63 r c
def Qb6 (l:List Q0b):List Q0b:=l.foldl Q63 []
theorem Qhz (l:List Q0b) (c:Q0b):Qb6 (l++[c])=Q63 (Qb6 l) c:=by simp[Qb6]
theorem Qp3 (E:List Int) (l:List Q0b) (c:Q0b):Q1e E (Q63 l c)=Q1e E l+Q1e E [c]:=by
 induction l with
 |nil=>simp[Q63,Q1e]
 |cons q r ih=>
  simp only[Q63]
  split
  ·rename_i h2;simp only[Q1e,Xbu];rw[<-h2]
   by_cases hq:q.2=E
   ·rw[Us hq,Us hq,Us hq];grind
   ·rw[Up hq,Up hq,Up hq];grind
  ·simp only[Q1e,ih,Dyadic.add_assoc]
theorem Qf8 (l:List Q0b) (c:Q0b) (p:Q0b) (h:p∈Q63 l c):(∃q∈l,q.2=p.2)∨p.2=c.2:=by
 induction l with
 |nil=>simp only[Q63,Ux] at h;exact .inr (by rw[h])
 |cons q r ih=>
  simp only[Q63] at h
  split at h
  ·rename_i h2;rcases Uy.1 h with rfl|h
   ·exact .inr h2
   ·exact .inl ⟨p,by simp[h],rfl⟩
  ·rcases Uy.1 h with rfl|h
   ·exact .inl ⟨p,by simp,rfl⟩
   ·rcases ih h with ⟨x,hx,Z3⟩|h
    ·exact .inl ⟨x,by simp[hx],Z3⟩
    ·exact .inr h
theorem Qrx (l:List Q0b) (c:Q0b):(∃p∈Q63 l c,p.2=c.2)/\∀p∈l,∃q∈Q63 l c,q.2=p.2:=by
 induction l with
 |nil=>exact ⟨⟨c,by simp[Q63],rfl⟩,fun p hp=>(by cases hp)⟩
 |cons q r ih=>
  obtain ⟨⟨x,hx,Z3⟩,ih2⟩:=ih;simp only[Q63]
  split
  ·rename_i h2;refine ⟨⟨_,TO,h2⟩,fun p hp=>?_⟩;rcases Uy.1 hp with rfl|hp
   ·exact ⟨_,TO,rfl⟩
   ·exact ⟨p,by simp[hp],rfl⟩
  ·refine ⟨⟨x,by simp[hx],Z3⟩,fun p hp=>?_⟩;rcases Uy.1 hp with rfl|hp
   ·exact ⟨p,by simp,rfl⟩
   ·obtain ⟨y,hy,QG⟩:=ih2 p hp;exact ⟨y,by simp[hy],QG⟩
theorem Qp4 {l:List Q0b} (h:l.Pairwise fun p q=>p.2≠q.2) (c:Q0b):(Q63 l c).Pairwise fun p q=>p.2≠q.2:=by
 induction l with
 |nil=>simp[Q63]
 |cons q r ih=>
  obtain ⟨h1,h2⟩:=TJ.1 h;simp only[Q63]
  split
  ·exact TJ.2 ⟨h1,h2⟩
  ·rename_i hc;refine TJ.2 ⟨fun p hp=>?_,ih h2⟩;rcases Qf8 r c p hp with ⟨x,hx,Z3⟩|hp
   ·rw[<-Z3];exact h1 x hx
   ·rw[hp];exact hc
theorem Qry (l:List Q0b):((Qb6 l).Pairwise fun p q=>p.2≠q.2)/\(∀E,Q1e E (Qb6 l)=Q1e E l)/\(∀p∈Qb6 l,∃q∈l,q.2=p.2)/\(∀p∈l,∃q∈Qb6 l,q.2=p.2):=by
 have key:∀n,∀l:List Q0b,l.length=n->((Qb6 l).Pairwise fun p q=>p.2≠q.2)/\(∀E,Q1e E (Qb6 l)=Q1e E l)/\(∀p∈Qb6 l,∃q∈l,q.2=p.2)/\(∀p∈l,∃q∈Qb6 l,q.2=p.2):=by
  intro n
  induction n with
  |zero=>
   intro l hl;obtain rfl:=UJ.1 hl;exact ⟨List.Pairwise.nil,fun _=>rfl,fun p hp=>(by cases hp),fun p hp=>(by cases hp)⟩
  |succ n ih=>
   intro l hl;have Q0:l≠[]:=fun e=>by rw[e] at hl;simp at hl
   obtain ⟨k,c,rfl⟩:∃k c,l=k++[c]:=⟨l.dropLast,l.getLast Q0,(List.dropLast_concat_getLast Q0).symm⟩;obtain ⟨h1,h2,h3,h4⟩:=ih k (by simpa using hl);rw[Qhz];refine ⟨Qp4 h1 c,fun E=>by rw[Qp3,h2,Q9j],fun p hp=>?_,fun p hp=>?_⟩
   ·rcases Qf8 _ c p hp with ⟨x,hx,Z3⟩|hp
    ·obtain ⟨q,hq,F6⟩:=h3 x hx;exact ⟨q,by simp[hq],F6.trans Z3⟩
    ·exact ⟨c,by simp,hp.symm⟩
   ·obtain ⟨i1,i2⟩:=Qrx (Qb6 k) c;rcases Tq.1 hp with hp|hp
    ·obtain ⟨q,hq,F6⟩:=h4 p hp;obtain ⟨r,hr,X0⟩:=i2 q hq;exact ⟨r,hr,X0.trans F6⟩
    ·rw[Ux] at hp;subst hp;exact i1
 exact key _ l rfl
theorem Qy8 (l:List Q0b) (p:Q0b):p∈Qb6 l↔(∃q∈l,q.2=p.2)/\p.1=Q1e p.2 l:=by
 obtain ⟨h1,h2,h3,h4⟩:=Qry l
 constructor
 ·intro hp;exact ⟨h3 p hp,by rw[<-h2,Q55 h1 hp]⟩
 ·rintro ⟨⟨q,hq,F6⟩,hp⟩;obtain ⟨r,hr,X0⟩:=h4 q hq;have h5:=Q55 h1 hr;rw[h2] at h5;have h6:r=p:=by
   obtain ⟨r1,r2⟩:=r;obtain ⟨p1,p2⟩:=p;simp only at X0 h5 hp F6;rw[F6] at X0;subst X0;rw[<-h5,<-hp]
  rw[<-h6];exact hr
theorem Qgh (l:List Q0b) (p:Q0b):p∈Qb6 l↔p∈Q1u l:=by rw[Qy8,Qnc]
def Q9k:Dyadic->Bool
 | .zero=>true
 | .ofOdd n k _=>decide (n.natAbs<(2^64)^64) && (decide (-65536<=-k) && decide (-k<=65536))
theorem Q17 (d:Dyadic):Q9k d=true↔Q44 d:=by
 cases d with
 |zero=>exact ⟨fun _=>.inl rfl,fun _=>rfl⟩
 |ofOdd n k h=>
  have e:Dyadic.ofOdd n k h=dy n (-k):=by rw[Qcl h,Int.neg_neg]
  constructor
  ·intro hb;simp only[Q9k,Xan,Xaf] at hb;exact .inr ⟨n,-k,e,h,hb.1,hb.2.1,hb.2.2⟩
  ·rintro (h0|⟨m,f,h1,hm,h2,h3,h4⟩)
   ·exact absurd h0 Dyadic.of_ne_zero
   ·rw[e] at h1;obtain ⟨rfl,hk⟩:=Qrr h hm h1;simp only[Q9k,Xan,Xaf];exact ⟨h2,by omega,by omega⟩
theorem Qgi (d:Dyadic):Q9k d=false↔¬Q44 d:=by
 rw[<-Q17];simp
theorem Qcq:Q44 0:=.inl rfl
theorem Qvk {d:Dyadic} (h:Q44 d):Q44 (-d):=by
 rcases h with rfl|⟨m,e,rfl,h1,h2,h3⟩
 ·exact .inl rfl
 ·exact .inr ⟨-m,e,Qna m e,by omega,by omega,h3⟩
def Q25 (l:List Q0b):Except Int (List Q0b):=
 if (Q1u l).any (fun p=> !Q9k p.1)=true then .error 2
 else if 24<((Q1u l).filter fun p=>decide (p.1≠0)).length then .error 6
 else .ok ((Q1u l).filter fun p=>decide (p.1≠0))
def Q0x (n:Nat) (E:List Int):Prop:=E.length=n/\(∀x∈E,0<=x)/\E.sum<=8
instance (n:Nat) (E:List Int):Decidable (Q0x n E):=by unfold Q0x;infer_instance
def Qf9 (n:Nat) (p:Q0b):Prop:=Q44 p.1/\Q0x n p.2
def Q4i (n:Nat) (P:List Q0b):Prop:=Qcp P/\P.length<=24/\∀p∈P,p.1≠0/\Qf9 n p
theorem Qp5 {n:Nat} {l P:List Q0b} (hl:∀p∈l,Q0x n p.2) (h:Q25 l=.ok P):Q4i n P:=by
 unfold Q25 at h
 split at h
 ·cases h
 ·rename_i ha
  split at h
  ·cases h
  ·rename_i N0;injection h with h;subst h;obtain ⟨h1,_,h3,_⟩:=Q6x l;refine ⟨List.Pairwise.filter _ h1,by omega,fun p hp=>?_⟩;obtain ⟨hm,hz⟩:=List.mem_filter.1 hp;refine ⟨by simpa using hz,?_,?_⟩
   ·rw[<-Q17];cases hf:Q9k p.1 with
    |true=>rfl
    |false=>
     exfalso;refine ha ?_;rw[Xav];exact ⟨p,hm,by rw[hf];rfl⟩
   ·obtain ⟨q,hq,F6⟩:=h3 p hm;rw[<-F6];exact hl q hq
theorem Qi0 {n:Nat} {P:List Q0b} (h:Q4i n P):P.filter (fun p=>decide (p.1≠0))=P:=by
 rw[List.filter_eq_self];intro p hp;simpa using (h.2.2 p hp).1
theorem Qi1 {n:Nat} {P:List Q0b} (h:Q4i n P):Q25 P=.ok P:=by
 unfold Q25;rw[Qrw h.1,Qi0 h,Up,Up (by have:=h.2.1;omega)];intro ha;obtain ⟨p,hp,hf⟩:=Xav.1 ha;have:=(Q17 p.1).2 (h.2.2 p hp).2.1;rw[this] at hf;cases hf
def Qvl (a b:List Q0b):Except Int (List Q0b):=Q25 (a++b)
def Q9l (a:List Q0b):List Q0b:=a.map fun p=>(-p.1,p.2)
def Qra (P:List Q0b):Int:=P.foldl (fun d p=>max d p.2.sum) 0
theorem Qnd (P:List Q0b) (d:Int):d<=P.foldl (fun d p=>max d p.2.sum) d/\∀p∈P,p.2.sum<=P.foldl (fun d p=>max d p.2.sum) d:=by
 induction P generalizing d with
 |nil=>exact ⟨Int.le_refl _,fun p hp=>by cases hp⟩
 |cons q P ih=>
  obtain ⟨h1,h2⟩:=ih (max d q.2.sum);rw[Xbv];refine ⟨by omega,fun p hp=>?_⟩;rcases Uy.1 hp with rfl|hp
  ·omega
  ·exact h2 p hp
theorem Qrz {P:List Q0b} {p:Q0b} (h:p∈P):p.2.sum<=Qra P:=(Qnd P 0).2 p h
theorem Qy9 (P:List Q0b):0<=Qra P:=(Qnd P 0).1
def Qya (a b:Q0b):Q0b:=(a.1*b.1,List.zipWith (·+·) a.2 b.2)
def Qgj (a b:List Q0b):List Q0b:=a.flatMap fun x=>b.map (Qya x)
def Qi2 (a b:List Q0b):Except Int (List Q0b):=
 if a≠[]/\b≠[]/\8<Qra a+Qra b then .error 6
 else if (Qgj a b).any (fun p=> !Q9k p.1)=true then .error 2
 else Q25 (Qgj a b)
theorem Qla:∀(x y:List Int),x.length=y.length->(List.zipWith (·+·) x y).sum=x.sum+y.sum
 |[],[],_=>rfl
 |a::x,b::y,h=>by
  have:=Qla x y (by simpa using h);simp only[Xay,Xax,this];omega
theorem Qlb:∀(x y:List Int),(∀a∈x,0<=a)->(∀a∈y,0<=a)->∀a∈List.zipWith (·+·) x y,0<=a
 |[],_,_,_,a,h=>by simp at h
 |_::_,[],_,_,a,h=>by simp at h
 |a::x,b::y,hx,hy,c,h=>by
  rw[Xay] at h;rcases Uy.1 h with rfl|h
  ·have:=hx a (by simp);have:=hy b (by simp);omega
  ·exact Qlb x y (fun z hz=>hx z (by simp[hz])) (fun z hz=>hy z (by simp[hz])) c h
theorem Qp6 {n:Nat} {a b:List Q0b} (ha:Q4i n a) (hb:Q4i n b) (hd:¬(a≠[]/\b≠[]/\8<Qra a+Qra b)):∀p∈Qgj a b,Q0x n p.2:=by
 intro p hp;obtain ⟨x,hx,hp⟩:=List.mem_flatMap.1 hp;obtain ⟨y,hy,rfl⟩:=To.1 hp;obtain ⟨_,_,R4,Z3,KC⟩:=ha.2.2 x hx;obtain ⟨_,_,x8,QG,hy3⟩:=hb.2.2 y hy;refine ⟨by simp[Qya,R4,x8],Qlb _ _ Z3 QG,?_⟩
 show (List.zipWith (·+·) x.2 y.2).sum<=8
 rw[Qla _ _ (R4.trans x8.symm)];have h1:=Qrz hx;have h2:=Qrz hy;have h3:¬8<Qra a+Qra b:=fun h=>hd ⟨fun e=>(by rw[e] at hx;cases hx),fun e=>(by rw[e] at hy;cases hy),h⟩;omega
def Qlc (p:List Q0b):Nat->Except Int (List Q0b)
 |0=>.ok p
 |k+1=>match Qlc p k with
  | .error e=>.error e
  | .ok q=>Qi2 q p
def Qne (n:Nat) (p:List Q0b) (k:Nat):Except Int (List Q0b):=
 match k with
 |0=>.ok [(1,List.replicate n 0)]
 |k+1=>Qlc p k
inductive Ex where
 |num (c:Option Dyadic)
 |var (i:Nat)
 |sum (l:List (Bool × Ex))
 |prod (l:List Ex)
 |pow (b:Ex) (k:Nat)
def Qbk (n i:Nat):List Int:=(List.replicate n 0).set i 1
mutual
def Q29 (n:Nat):Ex->Except Int (List Q0b)
 | .num none=>.error 2
 | .num (some c)=>Q25 [(c,List.replicate n 0)]
 | .var i=>Q25 [(1,Qbk n i)]
 | .sum l=>Q4z n none l
 | .prod l=>Q4s n none l
 | .pow b k=>match Q29 n b with
   | .error e=>.error e
   | .ok p=>Qne n p k
def Q4z (n:Nat) (acc:Option (List Q0b)):List (Bool × Ex)->Except Int (List Q0b)
 |[]=>.ok (acc.getD [])
 |(b,t)::r=>match Q29 n t with
  | .error e=>.error e
  | .ok p=>match acc with
    |none=>Q4z n (some (if b then Q9l p else p)) r
    |some q=>match Qvl q (if b then Q9l p else p) with
     | .error e=>.error e
     | .ok q'=>Q4z n (some q') r
def Q4s (n:Nat) (acc:Option (List Q0b)):List Ex->Except Int (List Q0b)
 |[]=>.ok (acc.getD [])
 |t::r=>match Q29 n t with
  | .error e=>.error e
  | .ok p=>match acc with
    |none=>Q4s n (some p) r
    |some q=>match Qi2 q p with
     | .error e=>.error e
     | .ok q'=>Q4s n (some q') r
end
end Go.Proofs.YtidojbkhlenahaaGreatDoor
namespace Go.Proofs.YtidojbkhlenahaaGreatDoor
namespace DecM
open WordsM
abbrev dec (n:Nat):LU:=Lib.decDigits n
def pd:Nat->Nat->LU
 |0,_=>[]
 |k+1,r=>pd k (r / 10)++[UInt8.ofNat (48+r%10)]
theorem Q2i {n:Nat} (h:n<10):dec n=[UInt8.ofNat (48+n)]:=by
 rw[dec,Lib.decDigits,dif_pos h]
theorem Q6y {n:Nat} (h:¬n<10):dec n=dec (n / 10)++[UInt8.ofNat (48+n%10)]:=by
 rw[dec,Lib.decDigits,dif_neg h]
theorem Qxk (q:Nat) (hq:0<q):∀k r,r<10^k->dec (q*10^k+r)=dec q++pd k r
 |0,r,h=>by
  obtain rfl:r=0:=by simpa using h
  simp[pd]
 |k+1,r,h=>by
  have hp:10<=q*10^(k+1):=by
   have h1:1<=10^k:=Tr (by decide);have h2:1*1<=q*10^k:=Nat.mul_le_mul hq h1;rw[Tf,<-UL];omega
  have e1:(q*10^(k+1)+r) / 10=q*10^k+r / 10:=by
   rw[Tf,<-UL];omega
  have e2:(q*10^(k+1)+r)%10=r%10:=by
   rw[Tf,<-UL];omega
  have h3:r / 10<10^k:=by rw[Tf] at h;omega
  rw[Q6y (by omega),e1,e2,Qxk q hq k (r / 10) h3,pd,Tb]
theorem Qs0:∀k,pd k 0=List.replicate k 48
 |0=>rfl
 |k+1=>by
  rw[pd,Nat.zero_div,Qs0 k,List.replicate_succ'];rfl
theorem Q3o (n:Nat):1<=(dec n).length:=by
 by_cases h:n<10
 ·rw[Q2i h];simp
 ·rw[Q6y h];simp
theorem dec_len (j:Nat):∀n,n<10^j->1<=j->(dec n).length<=j:=by
 induction j with
 |zero=>intro n _ h;omega
 |succ j ih=>
  intro n hn _
  by_cases h:n<10
  ·rw[Q2i h];simp
  ·rw[Q6y h];have hj:1<=j:=by
    rcases Xa7 j with rfl|h1
    ·simp at hn;omega
    ·exact h1
   have:=ih (n / 10) (by rw[Tf] at hn;omega) hj;simp only[Uh,Xar];omega
theorem Qxl:∀k r,1<=k->r<10^k->pd k r=List.replicate (k-(dec r).length) 48++dec r
 |0,_,h,_=>by omega
 |k+1,r,_,hr=>by
  by_cases h:r<10
  ·rw[Q2i h,pd,Xam h,Xal h,Qs0];simp
  ·have hk:1<=k:=by
    rcases Xa7 k with rfl|h1
    ·simp at hr;omega
    ·exact h1
   rw[pd,Qxl k (r / 10) hk (by rw[Tf] at hr;omega),Q6y h,Tb];simp
def dv (l:LU):Nat:=l.foldl (fun a b=>10*a+(b.toNat-48)) 0
theorem Qyb (l:LU):∀a,l.foldl (fun a b=>10*a+(b.toNat-48)) a=a*10^l.length+dv l:=by
 induction l with
 |nil=>intro a;simp[dv]
 |cons c r ih=>
  intro a;have h1:=ih (10*a+(c.toNat-48));have h2:=ih (10*0+(c.toNat-48));simp only[Xbv,dv,Ur,Tf] at h1 h2⊢;rw[h1,h2,Tm,Tm,UC 10 a,UL,UC 10 (10^r.length)];omega
theorem Qi3 (l r:LU):dv (l++r)=dv l*10^r.length+dv r:=by
 rw[dv,List.foldl_append];exact Qyb r _
theorem Qs1 (l:LU) (c:UInt8):dv (l++[c])=10*dv l+(c.toNat-48):=by
 rw[Qi3];simp[dv];omega
theorem Q69 (d:Nat) (h:d<10):(UInt8.ofNat (48+d)).toNat=48+d:=by
 rw[UInt8.toNat_ofNat'];omega
theorem Qnf (n:Nat):dv (dec n)=n:=by
 induction n using Nat.strongRecOn with
 |ind n ih=>
  by_cases h:n<10
  ·rw[Q2i h];simp[dv];omega
  ·rw[Q6y h,Qs1,ih (n / 10) (by omega),Q69 _ (TK _ (by decide))];omega
def Qkt (l:LU):Prop:=∀c∈l,48<=c.toNat/\c.toNat<=57
theorem Qi4 (l:LU) (h:Qkt l):dv l<10^l.length:=by
 rcases List.eq_nil_or_concat l with rfl|⟨r,c,rfl⟩
 ·simp[dv]
 ·rw[List.concat_eq_append] at h⊢;have h1:=Qi4 r fun x hx=>h x (by simp[hx]);have h2:=h c (by simp);rw[Qs1,Uh,Xar,Tf];omega
termination_by l.length
decreasing_by simp_all
theorem Q4t (n:Nat):Qkt (dec n):=by
 induction n using Nat.strongRecOn with
 |ind n ih=>
  intro c hc
  by_cases h:n<10
  ·rw[Q2i h,Ux] at hc;subst hc;rw[Q69 n h];omega
  ·rw[Q6y h] at hc;rcases Tq.1 hc with hc|hc
   ·exact ih (n / 10) (by omega) c hc
   ·rw[Ux] at hc;subst hc;rw[Q69 _ (TK _ (by decide))];omega
theorem Qgk (n:Nat) (hn:n≠0):(dec n).headD 0≠48:=by
 induction n using Nat.strongRecOn with
 |ind n ih=>
  by_cases h:n<10
  ·rw[Q2i h]
   show UInt8.ofNat (48+n)≠48
   intro e;have:=congrArg UInt8.toNat e;rw[Q69 n h] at this;have h2:(48:UInt8).toNat=48:=rfl;omega
  ·rw[Q6y h];have h1:=ih (n / 10) (by omega) (by omega);have h2:=Q3o (n / 10);cases hd:dec (n / 10) with
   |nil=>rw[hd] at h2;simp at h2
   |cons x r=>rw[hd] at h1;simpa using h1
def digN:LU->Nat
 |[]=>0
 |c::r=>if 48<=c.toNat/\c.toNat<=57 then digN r+1 else 0
theorem Qcr:∀l,digN l<=l.length
 |[]=>Ue _
 |c::r=>by
  have:=Qcr r;simp only[digN,Ur]
  split <;> omega
theorem Qi5:∀(l:LU) (k:Nat),k<=l.length->(∀j c,l[j]?=some c->j<k->48<=c.toNat/\c.toNat<=57)->(∀c,l[k]?=some c->¬(48<=c.toNat/\c.toNat<=57))->digN l=k
 |[],k,h,_,_=>by simp at h;simp[digN,h]
 |c::r,0,_,_,h3=>by
  have:=h3 c rfl;simp[digN,this]
 |c::r,k+1,h1,h2,h3=>by
  have hc:=h2 0 c rfl (by omega);have:=Qi5 r k (by simpa using h1) (fun j x hx hj=>h2 (j+1) x (by simpa using hx) (by omega)) (fun x hx=>h3 x (by simpa using hx));simp[digN,hc,this]
theorem Q7j:∀l:LU,Qkt (l.take (digN l))
 |[]=>fun c hc=>by simp at hc
 |c::r=>by
  simp only[digN]
  split
  ·rename_i h;intro x hx;rw[List.take_succ_cons] at hx;rcases Uy.1 hx with rfl|hx
   ·exact h
   ·exact Q7j r x hx
  ·intro x hx;simp at hx
theorem Qbx (l r:LU) (h:Qkt l):digN (l++r)=l.length+digN r:=by
 induction l with
 |nil=>simp
 |cons c l ih=>
  have h1:=h c (by simp);have h2:=ih fun x hx=>h x (by simp[hx]);simp[digN,h1,h2];omega
def Q2o:LU->Bool × LU
 |[]=>(false,[])
 |c::r=>if c=45 then (true,r) else (false,c::r)
def Qem:LU->Option Int
 |[]=>some 0
 |c::r=>if c≠112 then none else
  if (Q2o r).2.length<1∨6<(Q2o r).2.length∨digN (Q2o r).2<(Q2o r).2.length∨(Q2o r).2.headD 0=48 then none
  else some (if (Q2o r).1=true then -(dv (Q2o r).2:Int) else (dv (Q2o r).2:Int))
def form (s:LU):Option (Bool × Nat × Int):=
 if digN (Q2o s).2<1∨1300<digN (Q2o s).2∨((Q2o s).2.headD 0=48/\((Q2o s).1=true∨1<(Q2o s).2.length)) then none
 else match Qem ((Q2o s).2.drop (digN (Q2o s).2)) with
  |none=>none
  |some e=>some ((Q2o s).1,dv ((Q2o s).2.take (digN (Q2o s).2)),e)
theorem Qi6 (l:LU) (h:Qkt l) (r:LU) (hl:l≠[]):Q2o (l++r)=(false,l++r):=by
 cases l with
 |nil=>exact absurd rfl hl
 |cons c l=>
  have h1:=h c (by simp);have h2:c≠45:=by
   rintro rfl;have:(45:UInt8).toNat=45:=rfl;omega
  simp[Q2o,h2]
def Qbl (e:Int):LU:=if e=0 then [] else 112::(if e<0 then 45::dec e.natAbs else dec e.natAbs)
theorem Qs2 (e:Int) (h: -65536<=e) (h2:e<=65536):Qem (Qbl e)=some e:=by
 unfold Qbl
 by_cases h0:e=0
 ·rw[Us h0,h0];rfl
 ·rw[Up h0];have Vp:e.natAbs≠0:=by omega
  have A8:=Q3o e.natAbs;have i7:=dec_len 6 e.natAbs (by have:(10:Nat)^6=1000000:=rfl;omega) (by decide);have hd:=Qbx (dec e.natAbs) [] (Q4t _);rw[Xai] at hd;simp only[digN,Tz] at hd;have hh:=Qgk e.natAbs Vp
  by_cases x5:e<0
  ·rw[Us x5];have hm:Q2o (45::dec e.natAbs)=(true,dec e.natAbs):=rfl;rw[Qem,Up (by simp),hm];simp only;rw[Up (by rintro (h|h|h|h) <;> first|omega|exact hh h),Us trivial,Qnf]
   congr 1;omega
  ·rw[Up x5];have hm:Q2o (dec e.natAbs)=(false,dec e.natAbs):=by
    have:=Qi6 (dec e.natAbs) (Q4t _) [] (fun e'=>by rw[e'] at A8;simp at A8);rwa[Xai] at this
   rw[Qem,Up (by simp),hm];simp only;rw[Up (by rintro (h|h|h|h) <;> first|omega|exact hh h),Up (by simp),Qnf]
   congr 1;omega
theorem Qs3 (e:Int):digN (Qbl e)=0:=by
 unfold Qbl
 split
 ·rfl
 ·rw[digN,Up];decide
def Q2e (neg:Bool) (v:Nat) (e:Int):LU:=(if neg=true then [45] else [])++(dec v++Qbl e)
theorem Qi7 (neg:Bool) (v:Nat) (e:Int) (h: -65536<=e) (h2:e<=65536) (hv:v<10^1300) (h0:v=0->neg=false/\e=0):form (Q2e neg v e)=some (neg,v,e):=by
 have A8:=Q3o v;have i7:=dec_len 1300 v hv (by decide);have Q0:dec v≠[]:=fun e'=>by rw[e'] at A8;simp at A8
 have hm:Q2o (Q2e neg v e)=(neg,dec v++Qbl e):=by
  cases neg
  ·exact Qi6 (dec v) (Q4t v) (Qbl e) Q0
  ·rfl
 have hd:=Qbx (dec v) (Qbl e) (Q4t v);rw[Qs3,Tz] at hd;unfold form;rw[hm];simp only;rw[hd,List.drop_left,List.take_left,Qs2 e h h2,Qnf,Up];rintro (h3|h3|⟨h3,h4⟩)
 ·omega
 ·omega
 ·have hh:(dec v++Qbl e).headD 0=(dec v).headD 0:=by
   cases hc:dec v with
   |nil=>exact absurd hc Q0
   |cons x r=>rfl
  rw[hh] at h3
  by_cases x7:v=0
  ·obtain ⟨h5,h6⟩:=h0 x7;subst x7;subst h6;rcases h4 with h4|h4
   ·rw[h5] at h4;cases h4
   ·rw[Q2i (by decide)] at h4;simp[Qbl] at h4
  ·exact Qgk v x7 h3
end DecM
open DecM Go.RowKit WordsM
def Q07 (s:LU) (p:Nat):UInt8:=s.getD p 0
theorem Q6a {s:LU} {p:Nat} (h:Q07 s p≠0):p<s.length:=by
 refine TI fun G5=>h ?_;unfold Q07;rw[US,UU G5];rfl
theorem Q0k {s:LU} {p:Nat} {c:UInt8} (h:Q07 s p=c) (hc:c≠0):p<s.length:=Q6a (by rw[h];exact hc)
def Q8s:LU->Nat
 |[]=>0
 |c::r=>if c=32 then Q8s r+1 else 0
def Q05 (s:LU) (p:Nat):Nat:=p+Q8s (s.drop p)
theorem Qng:∀l,Q8s l<=l.length
 |[]=>Ue _
 |c::r=>by
  have:=Qng r;simp only[Q8s,Ur]
  split <;> omega
theorem Q64 (s:LU) (p:Nat):p<=Q05 s p:=Nat.le_add_right _ _
theorem Q3a {s:LU} {p:Nat} (h:p<=s.length):Q05 s p<=s.length:=by
 have:=Qng (s.drop p);rw[Tg] at this;unfold Q05;omega
theorem Q6b {s:LU} {p:Nat} (h:Q07 s p=32):Q05 s p=Q05 s (p+1):=by
 have hp:=Q0k h (by decide);unfold Q05;rw[UG hp];have hc:s[p]=32:=by
  unfold Q07 at h;rw[US,Ua hp] at h;exact h
 rw[Q8s,Us hc];omega
theorem Q7k {s:LU} {p:Nat} (h:Q07 s p≠32):Q05 s p=p:=by
 unfold Q05
 by_cases hp:p<s.length
 ·rw[UG hp];have hc:s[p]≠32:=by
   unfold Q07 at h;rw[US,Ua hp] at h;exact h
  rw[Q8s,Up hc];rfl
 ·rw[UW (by omega)];rfl
theorem Q9m (s:LU) (p:Nat):Q05 s (Q05 s p)=Q05 s p:=by
 have key:∀n p,s.length-p=n->Q05 s (Q05 s p)=Q05 s p:=by
  intro n
  induction n using Nat.strongRecOn with
  |ind n ih=>
   intro p hn
   by_cases h:Q07 s p=32
   ·have hp:=Q0k h (by decide);rw[Q6b h];exact ih (s.length-(p+1)) (by omega) (p+1) rfl
   ·rw[Q7k h,Q7k h]
 exact key _ p rfl
abbrev PR (α:Type):=Except Nat (α × Nat)
def Q1j (s:LU) (p:Nat):Nat:=p+digN (s.drop p)
theorem Qcs {s:LU} {p:Nat} (h:p<=s.length):p<=Q1j s p/\Q1j s p<=s.length:=by
 have:=Qcr (s.drop p);rw[Tg] at this;unfold Q1j;omega
def Qbm (s:LU) (p:Nat):Nat:=
 if Q07 s (Q1j s p)=112 then (if Q07 s (Q1j s p+1)=45 then Q1j s (Q1j s p+2) else Q1j s (Q1j s p+1)) else Q1j s p
theorem Qxm {s:LU} {p:Nat} (h:p<=s.length):Q1j s p<=Qbm s p/\Qbm s p<=s.length:=by
 have h1:=Qcs h;unfold Qbm
 split
 ·rename_i h2;have h3:=Q0k h2 (by decide)
  split
  ·rename_i h4;have h5:=Q0k h4 (by decide);have:=Qcs (s:=s) (p:=Q1j s p+2) (by omega);omega
  ·have:=Qcs (s:=s) (p:=Q1j s p+1) (by omega);omega
 ·omega
def Qld (s:LU) (p:Nat):PR Ex:=
 match form ((s.drop p).take (Qbm s p-p)) with
 |none=>.error p
 |some (neg,v,e)=>.ok (.num (if Q9k (dy (sgn neg v) e)=true then some (dy (sgn neg v) e) else none),Qbm s p)
def Q6c (sub:Nat->PR Ex) (opens:Bool) (s:LU) (most:Nat) (p0:Nat):PR Ex:=
 if 48<=(Q07 s (Q05 s p0)).toNat/\(Q07 s (Q05 s p0)).toNat<=57 then Qld s (Q05 s p0)
 else if Q07 s (Q05 s p0)=120 then
  (if 49<=(Q07 s (Q05 s p0+1)).toNat/\(Q07 s (Q05 s p0+1)).toNat<=48+most then .ok (.var ((Q07 s (Q05 s p0+1)).toNat-49),Q05 s p0+2) else .error (Q05 s p0+1))
 else if Q07 s (Q05 s p0)=40/\opens=true then
  match sub (Q05 s p0+1) with
  | .error e=>.error e
  | .ok (x,q)=>if Q07 s (Q05 s q)=41 then .ok (x,Q05 s q+1) else .error (Q05 s q)
 else .error (Q05 s p0)
def Q2r (sub:Nat->PR Ex) (opens:Bool) (s:LU) (most:Nat) (p:Nat):PR Ex:=
 match Q6c sub opens s most p with
 | .error e=>.error e
 | .ok (b,q)=>if Q07 s (Q05 s q)=94 then
    (if 48<=(Q07 s (Q05 s (Q05 s q+1))).toNat/\(Q07 s (Q05 s (Q05 s q+1))).toNat<=56 then .ok (.pow b ((Q07 s (Q05 s (Q05 s q+1))).toNat-48),Q05 s (Q05 s q+1)+1) else .error (Q05 s (Q05 s q+1)))
   else .ok (b,Q05 s q)
def Q5c (sub:Nat->PR Ex) (opens:Bool) (s:LU) (most:Nat):Nat->Nat->List Ex->PR Ex
 |0,p,_=>.error p
 |f+1,p,acc=>match Q2r sub opens s most p with
  | .error e=>.error e
  | .ok (x,q)=>if Q07 s (Q05 s q)=42 then Q5c sub opens s most f (Q05 s q+1) (acc++[x]) else .ok (.prod (acc++[x]),Q05 s q)
def Qbn (sub:Nat->PR Ex) (opens:Bool) (s:LU) (most:Nat):Nat->Nat->Bool->List (Bool × Ex)->PR Ex
 |0,p,_,_=>.error p
 |f+1,p,below,acc=>match Q5c sub opens s most (s.length+1) p [] with
  | .error e=>.error e
  | .ok (x,q)=>if Q07 s (Q05 s q)=43 then Qbn sub opens s most f (Q05 s q+1) false (acc++[(below,x)])
    else if Q07 s (Q05 s q)=45 then Qbn sub opens s most f (Q05 s q+1) true (acc++[(below,x)])
    else .ok (.sum (acc++[(below,x)]),Q05 s q)
def Q7l (sub:Nat->PR Ex) (opens:Bool) (s:LU) (most:Nat) (p:Nat):PR Ex:=
 if Q07 s (Q05 s p)=45 then Qbn sub opens s most (s.length+1) (Q05 s p+1) true [] else Qbn sub opens s most (s.length+1) (Q05 s p) false []
def Q8d (s:LU) (most:Nat):Nat->Nat->PR Ex
 |0=>Q7l (fun q=>.error q) false s most
 |d+1=>Q7l (Q8d s most d) true s most
def Q6d (s:LU) (p:Nat) (r:PR Ex):Prop:=
 match r with
 | .error e=>e<=s.length
 | .ok (_,q)=>p<q/\q<=s.length
theorem Qs4 {s:LU} {p:Nat} (hp:p<=s.length):Q6d s p (Qld s p):=by
 have h1:=Qxm hp;have h2:=Qcs hp;unfold Qld
 split
 ·exact hp
 ·rename_i neg v e hf;refine ⟨?_,h1.2⟩;refine TI fun G5=>?_;rw[show Qbm s p-p=0 by omega,List.take_zero,show form []=none by decide] at hf;cases hf
theorem Qp7 {sub:Nat->PR Ex} {opens:Bool} {s:LU} {most:Nat} (hs:opens=true->∀p,p<=s.length->Q6d s p (sub p)) {p:Nat} (hp:p<=s.length):Q6d s p (Q6c sub opens s most p):=by
 have h1:=Q3a hp;have h2:=Q64 s p;unfold Q6c
 split
 ·have:=Qs4 h1
  revert this
  unfold Q6d
  split
  ·exact id
  ·intro h;omega
 ·split
  ·rename_i h3;have h4:=Q0k h3 (by decide)
   split
   ·rename_i h5;have h6:Q05 s p+1<s.length:=Q6a (fun e=>by rw[e] at h5;exact absurd h5.1 (by decide))
    show p<Q05 s p+2/\_
    omega
   ·show Q05 s p+1<=s.length
    omega
  ·split
   ·rename_i h3;have h4:=Q0k h3.1 (by decide);have h5:=hs h3.2 (Q05 s p+1) (by omega)
    revert h5
    cases sub (Q05 s p+1) with
    |error e=>exact id
    |ok r=>
     obtain ⟨x,q⟩:=r;intro h5;have W7:Q05 s p+1<q/\q<=s.length:=h5;have h6:=Q3a W7.2;have h7:=Q64 s q;simp only
     split
     ·rename_i h8;have h9:=Q0k h8 (by decide)
      show p<Q05 s q+1/\_
      omega
     ·show Q05 s q<=s.length
      exact h6
   ·exact h1
theorem Qb7 {sub:Nat->PR Ex} {opens:Bool} {s:LU} {most:Nat} (hs:opens=true->∀p,p<=s.length->Q6d s p (sub p)) {p:Nat} (hp:p<=s.length):Q6d s p (Q2r sub opens s most p):=by
 have h5:=Qp7 (most:=most) hs hp;unfold Q2r
 revert h5
 cases Q6c sub opens s most p with
 |error e=>exact id
 |ok r=>
  obtain ⟨x,q⟩:=r;intro h5;have W7:p<q/\q<=s.length:=h5;have h6:=Q3a W7.2;have h7:=Q64 s q;simp only
  split
  ·rename_i h8;have h9:=Q0k h8 (by decide);have QL:=Q3a (s:=s) (p:=Q05 s q+1) (by omega);have h11:=Q64 s (Q05 s q+1)
   split
   ·rename_i Zr;have Yd:Q05 s (Q05 s q+1)<s.length:=Q6a (fun e=>by rw[e] at Zr;exact absurd Zr.1 (by decide))
    show p<Q05 s (Q05 s q+1)+1/\_
    omega
   ·exact QL
  ·show p<Q05 s q/\_
   omega
theorem Qaj {sub:Nat->PR Ex} {opens:Bool} {s:LU} {most:Nat} (hs:opens=true->∀p,p<=s.length->Q6d s p (sub p)):∀(f:Nat) {p:Nat} (acc:List Ex),p<=s.length->Q6d s p (Q5c sub opens s most f p acc)
 |0,p,acc,hp=>hp
 |f+1,p,acc,hp=>by
  have h5:=Qb7 (most:=most) hs hp;unfold Q5c
  revert h5
  cases Q2r sub opens s most p with
  |error e=>exact id
  |ok r=>
   obtain ⟨x,q⟩:=r;intro h5;have W7:p<q/\q<=s.length:=h5;have h6:=Q3a W7.2;have h7:=Q64 s q;simp only
   split
   ·rename_i h8;have h9:=Q0k h8 (by decide);have:=Qaj (most:=most) hs f (p:=Q05 s q+1) (acc++[x]) (by omega)
    revert this
    unfold Q6d
    split
    ·exact id
    ·intro h;omega
   ·show p<Q05 s q/\_
    omega
theorem Q9n {sub:Nat->PR Ex} {opens:Bool} {s:LU} {most:Nat} (hs:opens=true->∀p,p<=s.length->Q6d s p (sub p)):∀(f:Nat) {p:Nat} (below:Bool) (acc:List (Bool × Ex)),p<=s.length->Q6d s p (Qbn sub opens s most f p below acc)
 |0,p,below,acc,hp=>hp
 |f+1,p,below,acc,hp=>by
  have h5:=Qaj (most:=most) hs (s.length+1) [] hp;unfold Qbn
  revert h5
  cases Q5c sub opens s most (s.length+1) p [] with
  |error e=>exact id
  |ok r=>
   obtain ⟨x,q⟩:=r;intro h5;have W7:p<q/\q<=s.length:=h5;have h6:=Q3a W7.2;have h7:=Q64 s q;simp only
   split
   ·rename_i h8;have h9:=Q0k h8 (by decide);have:=Q9n (most:=most) hs f (p:=Q05 s q+1) false (acc++[(below,x)]) (by omega)
    revert this
    unfold Q6d
    split
    ·exact id
    ·intro h;omega
   ·split
    ·rename_i h8;have h9:=Q0k h8 (by decide);have:=Q9n (most:=most) hs f (p:=Q05 s q+1) true (acc++[(below,x)]) (by omega)
     revert this
     unfold Q6d
     split
     ·exact id
     ·intro h;omega
    ·show p<Q05 s q/\_
     omega
theorem Qct {sub:Nat->PR Ex} {opens:Bool} {s:LU} {most:Nat} (hs:opens=true->∀p,p<=s.length->Q6d s p (sub p)) {p:Nat} (hp:p<=s.length):Q6d s p (Q7l sub opens s most p):=by
 have h6:=Q3a hp;have h7:=Q64 s p;unfold Q7l
 split
 ·rename_i h8;have h9:=Q0k h8 (by decide);have:=Q9n (most:=most) hs (s.length+1) (p:=Q05 s p+1) true [] (by omega)
  revert this
  unfold Q6d
  split
  ·exact id
  ·intro h;omega
 ·have:=Q9n (most:=most) hs (s.length+1) (p:=Q05 s p) false [] h6
  revert this
  unfold Q6d
  split
  ·exact id
  ·intro h;omega
theorem Qak (s:LU) (most:Nat):∀(d p:Nat),p<=s.length->Q6d s p (Q8d s most d p)
 |0,p,hp=>Qct (fun h=>by cases h) hp
 |d+1,p,hp=>Qct (fun _ p hp=>Qak s most d p hp) hp
def Q2f (s:LU):LU->Nat->Except Nat Nat
 |[],p=>.ok p
 |c::r,p=>if Q07 s p=c then Q2f s r (p+1) else .error p
def Q3u (i:Nat):LU:=120::(dec (i+1)++[39,32,61,32])
def Qgl (s:LU) (most i p:Nat):PR Ex:=
 match Q2f s (Q3u i) p with
 | .error e=>.error e
 | .ok p1=>match Q8d s most 16 p1 with
   | .error e=>.error e
   | .ok (x,q)=>if Q07 s (Q05 s q)=10 then .ok (x,Q05 s q+1) else .error (Q05 s q)
def Q4v (s:LU) (most:Nat):Nat->Nat->List (Nat × Ex)->Except Nat (List (Nat × Ex))
 |0,p,_=>.error p
 |f+1,p,acc=>match Qgl s most acc.length p with
  | .error e=>.error e
  | .ok (x,q)=>if q<s.length then Q4v s most f q (acc++[(p,x)]) else .ok (acc++[(p,x)])
def Q30 (n:Nat):List (Nat × Ex)->List (List Q0b)->Except (Nat × Int) (List (List Q0b))
 |[],acc=>.ok acc
 |(p,x)::r,acc=>match Q29 n x with
  | .error e=>.error (p,e)
  | .ok P=>Q30 n r (acc++[P])
def Q9o (s:LU):Except (Nat × Int) (List (List Q0b)):=
 match Q4v s (min (s.count 10) 4) 4 0 [] with
 | .error p=>.error (p,5)
 | .ok l=>Q30 l.length l []
def Qi8 (i:Nat) (k:Int):List (LU):=
 if k=1 then [120::dec (i+1)] else if 1<k then [120::(dec (i+1)++94::dec k.toNat)] else []
def Q2p:Nat->List Int->List (LU)
 |_,[]=>[]
 |i,k::r=>Qi8 i k++Q2p (i+1) r
def Q2a:Dyadic->Bool
 | .zero=>false
 | .ofOdd n _ _=>decide (n<0)
def Qby (d:Dyadic):Dyadic:=if Q2a d=true then -d else d
def dyT:Dyadic->LU
 | .zero=>[48]
 | .ofOdd n k _=>Q2e (decide (n<0)) n.natAbs (-k)
def Q50:List (LU)->LU
 |[]=>[]
 |[x]=>x
 |x::y::r=>x++42::Q50 (y::r)
def Q41 (p:Q0b):List (LU):=
 if Q2p 0 p.2=[]∨Qby p.1≠1 then dyT (Qby p.1)::Q2p 0 p.2 else Q2p 0 p.2
def Q1y (p:Q0b):LU:=Q50 (Q41 p)
def Q4j (first:Bool) (p:Q0b):LU:=
 if first=true then (if Q2a p.1=true then [45] else []) else (if Q2a p.1=true then [32,45,32] else [32,43,32])
def Q0t:Bool->List Q0b->LU
 |_,[]=>[]
 |first,p::r=>Q4j first p++(Q1y p++Q0t false r)
def Q6e (P:List Q0b):LU:=if P=[] then [48] else Q0t true P
def Q6f (i:Nat) (P:List Q0b):LU:=Q3u i++(Q6e P++[10])
def Q18:Nat->List (List Q0b)->LU
 |_,[]=>[]
 |i,P::r=>Q6f i P++Q18 (i+1) r
def Qs5 (F:List (List Q0b)):Prop:=1<=F.length/\F.length<=4/\∀P∈F,Q4i F.length P
theorem Q83 {neg:Bool} {v:Nat} {e:Int} (ho:v%2=1):Q2a (dy (sgn neg v) e)=neg:=by
 rw[Qcl (Q4r ho)];cases neg
 ·simp[Q2a,sgn]
 ·simp[Q2a,sgn];omega
theorem Qcu {neg:Bool} {v:Nat} {e:Int} (ho:v%2=1):dyT (dy (sgn neg v) e)=Q2e neg v e:=by
 have h:=Q83 (neg:=neg) (e:=e) ho;rw[Qcl (Q4r ho)] at h⊢;simp only[Q2a] at h;simp only[dyT,h,Qai,Int.neg_neg]
theorem Qgm {neg:Bool} {v:Nat} {e:Int} (ho:v%2=1):Qby (dy (sgn neg v) e)=dy (sgn false v) e:=by
 unfold Qby;rw[Q83 ho];cases neg
 ·rfl
 ·rw[Us rfl,Qna];congr 1;simp[sgn]
theorem Qle (d:Dyadic):d=0∨∃(neg:Bool) (v:Nat) (e:Int),v%2=1/\d=dy (sgn neg v) e:=by
 cases d with
 |zero=>exact .inl rfl
 |ofOdd n k h=>
  refine .inr ⟨decide (n<0),n.natAbs,-k,by omega,?_⟩;have hs:sgn (decide (n<0)) n.natAbs=n:=by
   unfold sgn
   by_cases hn:n<0
   ·rw[Us (by simpa using hn)];omega
   ·rw[Up (by simpa using hn)];omega
  rw[hs,Qcl h,Int.neg_neg]
theorem Qi9 {d:Dyadic}:(if Q2a d=true then -(Qby d) else Qby d)=d:=by
 unfold Qby
 split
 ·grind
 ·rfl
def At (s:LU) (p:Nat) (t:LU):Prop:=s.drop p=t
theorem At.byte {s:LU} {p:Nat} {c:UInt8} {t:LU} (h:At s p (c::t)):Q07 s p=c/\At s (p+1) t:=by
 unfold At at*;have hp:p<s.length:=by
  refine TI fun G5=>?_;rw[UW G5] at h;cases h
 rw[UG hp] at h;injection h with h1 h2;refine ⟨?_,h2⟩;unfold Q07;rw[US,Ua hp];exact h1
theorem At.end_ {s:LU} {p:Nat} (h:At s p []):Q07 s p=0:=by
 unfold At at h;have hp:s.length<=p:=List.drop_eq_nil_iff.1 h;unfold Q07;rw[US,UU hp];rfl
theorem At.app {s:LU} {p:Nat} {t u:LU} (h:At s p (t++u)):At s (p+t.length) u:=by
 unfold At at*;rw[<-List.drop_drop,h,List.drop_left]
theorem At.len {s:LU} {p:Nat} {t:LU} (h:At s p t) (hp:p<=s.length):s.length=p+t.length:=by
 unfold At at h;have:=congrArg List.length h;rw[Tg] at this;omega
theorem At.fixed {s:LU}:∀{t:LU} {p:Nat} {u:LU},At s p (t++u)->Q2f s t p=.ok (p+t.length)
 |[],p,u,_=>rfl
 |c::t,p,u,h=>by
  obtain ⟨h1,h2⟩:=At.byte (t:=t++u) h;rw[Q2f,Us h1,At.fixed h2];simp only[Ur]
  congr 1;omega
theorem At.skip0 {s:LU} {p:Nat} {c:UInt8} {t:LU} (h:At s p (c::t)) (hc:c≠32):Q05 s p=p:=Q7k (by rw[h.byte.1];exact hc)
theorem At.word {s:LU} {p:Nat} {t u:LU} (h:At s p (t++u)) (ha:Qkt t) (hu:digN u=0):Q1j s p=p+t.length:=by
 unfold Q1j At at*;rw[h,Qbx t u ha,hu,Tz]
def Qnh (u:LU):Prop:=digN u=0/\∀c r,u=c::r->c≠112
theorem Qvm (e:Int) {u:LU} (hu:Qnh u):digN (Qbl e++u)=0:=by
 unfold Qbl
 split
 ·exact hu.1
 ·show digN (112::_)=0
  rw[digN,Up];decide
theorem Qp8 {s:LU} {p:Nat} {v:Nat} {e:Int} {u:LU} (h:At s p (Q2e false v e++u)) (hu:Qnh u):Qbm s p=p+(Q2e false v e).length:=by
 have ht:Q2e false v e=dec v++Qbl e:=rfl;rw[ht,Tb] at h;rw[ht];have hw:=h.word (Q4t v) (Qvm e hu);have h2:=h.app;unfold Qbm;rw[hw];unfold Qbl at h2⊢
 by_cases h0:e=0
 ·rw[Us h0] at h2⊢;rw[Ty] at h2;have Q0:Q07 s (p+(dec v).length)≠112:=by
   cases u with
   |nil=>rw[h2.end_];decide
   |cons c r=>rw[h2.byte.1];exact hu.2 c r rfl
  rw[Up Q0,Xai]
 ·rw[Up h0] at h2⊢;obtain ⟨h3,h4⟩:=At.byte (t:=(if e<0 then 45::dec e.natAbs else dec e.natAbs)++u) h2;rw[Us h3]
  by_cases x5:e<0
  ·rw[Us x5] at h4⊢;obtain ⟨h5,h6⟩:=At.byte (t:=dec e.natAbs++u) h4;rw[Us h5,h6.word (Q4t _) hu.1];simp only[Uh,Ur];omega
  ·rw[Up x5] at h4⊢;have hd:=Q3o e.natAbs;have h5:Q07 s (p+(dec v).length+1)≠45:=by
    cases hc:dec e.natAbs with
    |nil=>rw[hc] at hd;simp at hd
    |cons c r=>
     rw[hc] at h4;have h6:=(At.byte (t:=r++u) h4).1;rw[h6];have:=Q4t e.natAbs c (by rw[hc];simp);rintro rfl;exact absurd this (by decide)
   rw[Up h5,h4.word (Q4t _) hu.1];simp only[Uh,Ur];omega
theorem Qvn (c a b j:Nat) (h:a*b<=j) (hc:0<c):(c^a)^b<=c^j:=by
 rw[<-TZ];exact UO hc h
theorem Qcv:(2^64)^64<=10^1300:=by
 have h1:((2:Nat)^64)^64=((2^64)^2)^32:=by rw[<-TZ (2^64) 2 32]
 rw[h1];exact Un (Xbn (show ((2:Nat)^64)^2<=10^40 by decide) 32) (Qvn 10 40 32 1300 (by decide) (by decide))
theorem Qcw (v:Nat) (e:Int):∃c r,Q2e false v e=c::r/\48<=c.toNat/\c.toNat<=57:=by
 have hd:=Q3o v;cases hc:dec v with
 |nil=>rw[hc] at hd;simp at hd
 |cons c r=>
  refine ⟨c,r++Qbl e,?_,Q4t v c (by rw[hc];simp)⟩
  show dec v++Qbl e=_
  rw[hc];rfl
theorem Qs6 {s:LU} {p:Nat} {v:Nat} {e:Int} {u:LU} (h:At s p (Q2e false v e++u)) (hu:Qnh u) (h1: -65536<=e) (h2:e<=65536) (hv:v<(2^64)^64) (h0:v=0->e=0) (hf:Q44 (dy (sgn false v) e)):
 Qld s p=.ok (.num (some (dy (sgn false v) e)),p+(Q2e false v e).length):=by
 have hn:=Qp8 h hu;unfold Qld;rw[hn,Xaw];have ht:(s.drop p).take (Q2e false v e).length=Q2e false v e:=by
  unfold At at h;rw[h,List.take_left]
 rw[ht,Qi7 false v e h1 h2 (Uc hv Qcv) (fun h=>⟨rfl,h0 h⟩)];simp only;rw[Us ((Q17 _).2 hf)]
def nb (u:LU):UInt8:=(u.drop (Q8s u)).headD 0
theorem At.nb {s:LU} {q:Nat} {u:LU} (h:At s q u):Q07 s (Q05 s q)=nb u:=by
 unfold At at h;unfold Q05;rw[h];have h2:At s (q+Q8s u) (u.drop (Q8s u)):=by unfold At;rw[<-List.drop_drop,h]
 unfold Go.Proofs.YtidojbkhlenahaaGreatDoor.nb;cases hc:u.drop (Q8s u) with
 |nil=>rw[hc] at h2;exact h2.end_
 |cons c r=>rw[hc] at h2;exact h2.byte.1
def Qni (u:LU):Prop:=Qnh u/\nb u≠94
def FR (most:Nat) (t:LU) (x:Ex):Prop:=(∃c r,t=c::r/\c≠32)/\∀(s:LU) (sub:Nat->PR Ex) (opens:Bool) (p:Nat) (u:LU),At s (Q05 s p) (t++u)->Qni u->∃q,Q2r sub opens s most p=.ok (x,q)/\Q05 s q=Q05 s (Q05 s p+t.length)
theorem Qxn (most:Nat) {v:Nat} {e:Int} (h1: -65536<=e) (h2:e<=65536) (hv:v<(2^64)^64) (h0:v=0->e=0) (hf:Q44 (dy (sgn false v) e)):FR most (Q2e false v e) (.num (some (dy (sgn false v) e))):=by
 refine ⟨?_,fun s sub opens p u h hu=>?_⟩
 ·obtain ⟨c,r,hc,O1,_⟩:=Qcw v e;exact ⟨c,r,hc,fun e=>by rw[e] at O1;exact absurd O1 (by decide)⟩
 ·obtain ⟨c,r,hc,O1,E1⟩:=Qcw v e;have hb:Q07 s (Q05 s p)=c:=by
   have h':=h;rw[hc] at h';exact (At.byte (t:=r++u) h').1
  have hn:=Qs6 h hu.1 h1 h2 hv h0 hf;have ha:Q07 s (Q05 s (Q05 s p+(Q2e false v e).length))=nb u:=(At.app h).nb;refine ⟨Q05 s (Q05 s p+(Q2e false v e).length),?_,Q9m _ _⟩;unfold Q2r Q6c;rw[hb,Us ⟨O1,E1⟩,hn];simp only;rw[Up (by rw[ha];exact hu.2)]
theorem Q6z {i:Nat} (h:i<10):dec i=[UInt8.ofNat (48+i)]:=Q2i h
theorem Q9p {i:Nat} (h:i<10):(UInt8.ofNat (48+i)).toNat=48+i:=Q69 i h
theorem Qnj {most i:Nat} (hi:i<9) (hm:i+1<=most) (s:LU) (sub:Nat->PR Ex) (opens:Bool) (p:Nat) (u:LU) (h:At s (Q05 s p) (120::(dec (i+1)++u))):Q6c sub opens s most p=.ok (.var i,Q05 s p+2):=by
 obtain ⟨h1,h2⟩:=h.byte;rw[Q6z (by omega)] at h2;obtain ⟨h3,h4⟩:=At.byte (t:=u) h2;unfold Q6c;rw[h1,Up (by decide),Us rfl,h3,Q9p (by omega),Us (by omega)]
 congr 2
 congr 1
 omega
theorem J03 {most i:Nat} (hi:i<9) (hm:i+1<=most):FR most (120::dec (i+1)) (.var i):=by
 refine ⟨⟨_,_,rfl,by decide⟩,fun s sub opens p u h hu=>?_⟩;have hb:=Qnj hi hm s sub opens p u h;have hl:(120::dec (i+1)).length=2:=by rw[Q6z (by omega)];rfl
 have ha:Q07 s (Q05 s (Q05 s p+(120::dec (i+1)).length))=nb u:=(At.app (t:=120::dec (i+1)) h).nb;rw[hl] at ha⊢;refine ⟨Q05 s (Q05 s p+2),?_,Q9m _ _⟩;unfold Q2r;rw[hb];simp only;rw[Up (by rw[ha];exact hu.2)]
theorem J04 {most i k:Nat} (hi:i<9) (hm:i+1<=most) (hk:k<=8):FR most (120::(dec (i+1)++94::dec k)) (.pow (.var i) k):=by
 refine ⟨⟨_,_,rfl,by decide⟩,fun s sub opens p u h hu=>?_⟩;have h':At s (Q05 s p) (120::(dec (i+1)++(94::(dec k++u)))):=by simpa using h
 have hb:=Qnj hi hm s sub opens p _ h';have hl:(120::dec (i+1)).length=2:=by rw[Q6z (by omega)];rfl
 have N0:(120::(dec (i+1)++94::dec k)).length=4:=by rw[Q6z (by omega),Q6z (i:=k) (by omega)];rfl
 have h2:At s (Q05 s p+2) (94::(dec k++u)):=by
  have:=At.app (t:=120::dec (i+1)) (u:=94::(dec k++u)) h';rwa[hl] at this
 obtain ⟨h3,h4⟩:=h2.byte;have X5:=h2.skip0 (by decide);rw[Q6z (i:=k) (by omega)] at h4;obtain ⟨h5,h6⟩:=At.byte (t:=u) h4;have p5:=At.skip0 (t:=u) h4 (fun e=>by have:=congrArg UInt8.toNat e;rw[Q9p (by omega)] at this;have h32:(32:UInt8).toNat=32:=rfl;omega);rw[N0];refine ⟨Q05 s p+4,?_,rfl⟩;unfold Q2r;rw[hb];simp only;rw[X5,Us h3,p5,h5,Q9p (by omega),Us (by omega)]
 congr 2
 congr 1
 omega
def FRs (most:Nat):List (LU)->List Ex->Prop
 |[],[]=>True
 |t::ts,x::xs=>FR most t x/\FRs most ts xs
 |_,_=>False
theorem Qs7 {most:Nat}:∀{ts us:List (LU)} {xs ys:List Ex},FRs most ts xs->FRs most us ys->FRs most (ts++us) (xs++ys)
 |[],_,[],_,_,h=>h
 |_::_,_,_::_,_,h,h'=>⟨h.1,Qs7 h.2 h'⟩
 |[],_,_::_,_,h,_=>h.elim
 |_::_,_,[],_,h,_=>h.elim
theorem Qvo (t:LU):Qni (42::t):=⟨⟨by rw[digN,Up];decide,fun c r h=>by injection h with h1 _;rw[<-h1];decide⟩,by simp[nb,Q8s]⟩
theorem Qcx {most:Nat} {s:LU} (sub:Nat->PR Ex) (opens:Bool) {u:LU} (hu:Qni u) (hs:nb u≠42):∀(ts:List (LU)) (xs:List Ex) (f p:Nat) (acc:List Ex),ts≠[]->FRs most ts xs->ts.length<=f->At s (Q05 s p) (Q50 ts++u)->
 Q5c sub opens s most f p acc=.ok (.prod (acc++xs),Q05 s (Q05 s p+(Q50 ts).length))
 |[],_,_,_,_,h,_,_,_=>absurd rfl h
 |[t],[x],f+1,p,acc,_,hf,_,h=>by
  obtain ⟨q,h1,h2⟩:=hf.1.2 s sub opens p u h hu;have ha:Q07 s (Q05 s (Q05 s p+t.length))=nb u:=(At.app (t:=t) h).nb;unfold Q5c;rw[h1];simp only;rw[h2,Up (by rw[ha];exact hs)];rfl
 |t::t'::ts,x::xs,f+1,p,acc,_,hf,hl,h=>by
  have h':At s (Q05 s p) (t++(42::(Q50 (t'::ts)++u))):=by simpa[Q50] using h
  obtain ⟨q,h1,h2⟩:=hf.1.2 s sub opens p _ h' (Qvo _);have h3:=At.app h';have h4:=h3.skip0 (by decide);obtain ⟨h5,h6⟩:=h3.byte;have Q0:Q50 (t'::ts)++u≠[]/\Q05 s (Q05 s p+t.length+1)=Q05 s p+t.length+1:=by
   obtain ⟨c,r,hc,WV⟩:∃c r,Q50 (t'::ts)++u=c::r/\c≠32:=by
    have A4:=hf.2;cases xs with
    |nil=>exact A4.elim
    |cons y ys=>
     obtain ⟨c,r,hc,WV⟩:=A4.1.1;subst hc;cases ts with
     |nil=>exact ⟨c,r++u,rfl,WV⟩
     |cons a b=>exact ⟨c,_,rfl,WV⟩
   rw[hc] at h6⊢;exact ⟨by simp,h6.skip0 WV⟩
  have ih:=Qcx sub opens hu hs (t'::ts) xs f (Q05 s p+t.length+1) (acc++[x]) (by simp) hf.2 (by simpa using hl) (by rw[Q0.2];exact h6);unfold Q5c;rw[h1];simp only;rw[h2,h4,Us h5,ih,Q0.2];simp only[Q50,Uh,Ur,Tb,List.singleton_append]
  congr 3;omega
 |[t],[],_,_,_,_,hf,_,_=>hf.elim
 |_::_::_,[],_,_,_,_,hf,_,_=>hf.elim
 |[t],_::_::_,_,_,_,_,hf,_,_=>hf.2.elim
 |_::_,_,0,_,_,_,_,hl,_=>by simp at hl
end Go.Proofs.YtidojbkhlenahaaGreatDoor
