/- Part 4 of the proof of LawParseBuilt: NatI, NatM, RefA. Condition: as each theorem says; none at the end. -/
import Derived.Lib.ItoaNum
import Derived.Deep.LoopGhost
import Derived.Deep.RegionHeldLaw
import Derived.Deep.DrawnRows
import Derived.Test.YtdilmfakkppgpaaGreatDoorPkParseBuilt03
set_option maxRecDepth 100000
set_option maxHeartbeats 16000000
namespace Go.Proofs.YtdilmfakkppgpaaGreatDoor
open Go.RowKit WordsM
theorem Qvq (x:Nat) (w:World):Calls Tryz.prog 205 #[.int .u64 (x:Int)] w fun e w'=>e=.returned (.bool false)/\w=w':=by
 go_enter Tryz.func205,Tryz.ntmps205
 go_wp2_with fail
 go_ret;exact ⟨by simp,rfl⟩
theorem Qpb (x y:Nat) (w:World):Calls Tryz.prog 173 #[.int .u64 (x:Int),.int .u64 (y:Int)] w fun e w'=>e=.returned (.int .i64 (Lib.compareInt x y))/\w=w':=by
 have hn:=fun x=>Qvq x w
 by_cases h1:(x:Int)<(y:Int)
 ·go_enter Tryz.func173,Tryz.ntmps173
  go_wp2_with (refine (hn _).mono ?_;rintro e w1 ⟨rfl,rfl⟩)
  go_ret;exact ⟨by simp[Lib.compareInt,h1],rfl⟩
 ·by_cases h2:(y:Int)<(x:Int)
  ·go_enter Tryz.func173,Tryz.ntmps173
   go_wp2_with (refine (hn _).mono ?_;rintro e w1 ⟨rfl,rfl⟩)
   go_ret;exact ⟨by rw[Lib.compareInt,Uq (by omega),Us (by omega)];rfl,rfl⟩
  ·go_enter Tryz.func173,Tryz.ntmps173
   go_wp2_with (refine (hn _).mono ?_;rintro e w1 ⟨rfl,rfl⟩)
   go_ret;exact ⟨by rw[Lib.compareInt,Uq (by omega),Uq (by omega)];rfl,rfl⟩
theorem Q1v {B u v:Nat} (hB:2<=B) (h:u<=v):(dig B u).length<=(dig B v).length:=by
 refine Q2h hB (TO h ?_);have h1:=Q3k (B:=B) (by omega) (dig B v) (Q2c hB v);rwa[Q0x hB] at h1
theorem Qex {B:Nat} (hB:0<B) {A K:LN} {j x y:Nat} (hA:Low B A) (hx:A[j]?=some x) (hy:K[j]?=some y) (hd:A.drop (j+1)=K.drop (j+1)) (B0:x<y):val B A<val B K:=by
 have hja:j<A.length:=(Um.1 hx).1;have JI:j<K.length:=(Um.1 hy).1;have h1:=Q3p (B:=B) A j;have h2:=Q3p (B:=B) K j;rw[UC hja,(Um.1 hx).2] at h1;rw[UC JI,(Um.1 hy).2,<-hd] at h2;simp only[val] at h1 h2;have h3:=Q3k hB (A.take j) fun z hz=>hA z (Ty hz);rw[Tn,Xa9 (by omega)] at h3;generalize val B (A.drop (j+1))=R at*;have h4:B^j*(x+B*R+1)<=B^j*(y+B*R):=Xax _ (by omega);rw[Tt (B^j) (x+B*R) 1,Xbx] at h4;omega
theorem Q9x (a:OA) (n c:Nat) (ls:LN) (b:OA) (m d:Nat) (ks:LN) (w:World) (h1:WordsIn w a n c ls) (h2:WordsIn w b m d ks) (hn:n<=100000):
 Calls Tryz.prog 149 #[.slice a n c,.slice b m d] w fun e w'=>(∃r:Int,e=.returned (.int .i64 r)/\(r<0↔val (2^64) ls<val (2^64) ks)/\(0<r↔val (2^64) ks<val (2^64) ls))/\Bw w w':=by
 have V7:=h1.len;have JD:=h2.len;have Y1:=trim_len ls;have U1:=trim_len ks;have C7:val (2^64) (trimL ls)=val (2^64) ls:=Q1d ls;have QW:val (2^64) (trimL ks)=val (2^64) ks:=Q1d ks;have K2:=Q1q (B:=2^64) (by decide) h1.low;have M2:=Q1q (B:=2^64) (by decide) h2.low;have N1:=fun W (hb:Bw w W)=>Q1l a n c ls W (h1.step hb);have E1:=fun W (hb:Bw w W)=>Q1l b m d ks W (h2.step hb);have K4:=fun W (hb:Bw w W)=>(h1.step hb).trim;have Q8:=fun W (hb:Bw w W)=>(h2.step hb).trim;rw[<-C7,<-QW];rw[<-C7] at K2;rw[<-QW] at M2;obtain ⟨A,hA⟩:∃A,trimL ls=A:=⟨_,rfl⟩;obtain ⟨K,hK⟩:∃K,trimL ks=K:=⟨_,rfl⟩;rw[hA] at Y1 N1 K4 K2⊢;rw[hK] at U1 E1 Q8 M2⊢;have HC:=Xh2 N1 E1;have HW:=Xh2 K4 Q8;have ZS:A.length<K.length->val (2^64) A<val (2^64) K:=fun h=>Xag fun o6=>by
  have h3:=Q1v (B:=2^64) (by decide) o6;rw[<-K2,<-M2] at h3;omega
 have Zh:K.length<A.length->val (2^64) K<val (2^64) A:=fun h=>Xag fun o6=>by
  have h3:=Q1v (B:=2^64) (by decide) o6;rw[<-K2,<-M2] at h3;omega
 have HL:=Xh2 ZS Zh;clear hA hK C7 QW N1 E1 K4 Q8 h1 h2 K2 M2 ZS Zh
 by_cases C1:A.length=K.length
 ·have hneI:((A.length:Int) != (K.length:Int))=false:=by rw[C1];simp
  go_enter Tryz.func149,Tryz.ntmps149
  go_wp2_with (first
   |(go_at_call_of 143 a;refine ((Xo0 HC) _ (Uf _ _)).mono ?_;rintro e w1 ⟨rfl,C0⟩;have K0:=Ua C0;clear C0)
   |(go_at_call_of 143 b;refine ((Xe1 HC) _ K0.out).mono ?_;rintro e w2 ⟨rfl,D0⟩;have B1:=Ua (Below.next0 K0.out D0);clear D0))
  have YF:=Xh2 ((Xo0 HW) w2 B1.out) ((Xe1 HW) w2 B1.out);clear HW HC HL K0
  go_loopw [5] (fun iv wr=>∃j:Nat,iv=.int .i64 ((j:Int)-1)/\j<=A.length/\A.drop j=K.drop j/\Bw w2 wr) (fun iv _=>(intOf iv+1).toNat)
  case atStart=>exact ⟨A.length,by rw[C1],Ug _,by rw[List.drop_length,TH (by omega)],Uf _ _⟩
  case round=>
   obtain ⟨j,rfl,hj,M9,hb⟩:=hrel;cases j with
   |zero=>
    have O4:A=K:=(by simpa using M9);have i8:=Below.next0 B1.out hb;have HE:=Xh2 O4 i8;clear M9 O4 hb i8
    go_wp2_with fail
    go_ret;exact ⟨⟨0,rfl,by rw[(Xo0 HE)];simp,by rw[(Xo0 HE)];simp⟩,(Xe1 HE)⟩
   |succ j=>
    obtain ⟨x,hx⟩:∃x,A[j]?=some x:=⟨_,Ub (by omega)⟩;obtain ⟨y,hy⟩:∃y,K[j]?=some y:=⟨_,Ub (by omega)⟩;obtain ⟨g1,o1,N6,B7,E6⟩:=((Xo0 YF).rd.below hb).at_ hx;obtain ⟨g2,o2,L6,Y6,y9⟩:=((Xe1 YF).rd.below hb).at_ hy;subst N6 L6;have hjI:((j+1:Nat):Int)-1=(j:Int):=(by omega);have hjA:(j:Int)<(A.length:Int):=(by omega);have hjK:(j:Int)<(K.length:Int):=(by omega);have HH:=Xh4 M9 hb hx hy;clear M9 hb hx hy;rw[hjI]
    by_cases Vj:x=y
    ·subst Vj;have Wl:((x:Int) != (x:Int))=false:=by simp
     go_wp2_with fail
     go_quiet (fail)
     go_wp2_with fail
     refine ⟨⟨j,rfl,by omega,?_,⟨(Xo1 HH).os,(Xo1 HH).tape,(Xo1 HH).output,(Xo1 HH).size,(Xo1 HH).block⟩⟩,by simp only[intOf];omega⟩;have h1:=(Xo0 HH);have e1:=(Um.1 (Xo2 HH));have e2:=(Um.1 (Xe3 HH));rw[UC e1.1,UC e2.1,e1.2,e2.2,h1]
    ·have Wl:((x:Int) != (y:Int))=true:=(by rw[bne_iff_ne];omega);have hcu:∀W,Calls Tryz.prog 173 #[.int .u64 (x:Int),.int .u64 (y:Int)] W fun e w'=>e=.returned (.int .i64 (Lib.compareInt x y))/\∃n,w'=W.drewN n:=fun W=>(Qpb x y W).mono (by rintro e w' ⟨rfl,rfl⟩;exact ⟨rfl,0,rfl⟩)
     go_wp2_with fail
     go_quiet (fail)
     obtain ⟨W5,U6⟩:∃W5,wr.drewN nq=W5:=⟨_,rfl⟩;have hcx2:W5.cell? ⟨g1,o1+j,none⟩=some (.int .u64 (x:Int)):=(by rw[<-U6,World.cell?_drewN];exact E6);have hcy2:W5.cell? ⟨g2,o2+j,none⟩=some (.int .u64 (y:Int)):=(by rw[<-U6,World.cell?_drewN];exact y9);have M0:Bw w2 W5:=(by rw[<-U6];exact ⟨(Xo1 HH).os,(Xo1 HH).tape,(Xo1 HH).output,(Xo1 HH).size,(Xo1 HH).block⟩);have M4:=Ua M0;rw[U6];clear U6 M0
     go_wp2_with fail
     go_quiet (first|(refine Calls.quiet_of (hcu _)))
     go_wp2_with fail
     go_ret;have i8:=Below.next0 B1.out M4.out;refine ⟨⟨_,rfl,?_⟩,⟨i8.os,i8.tape,i8.output,i8.size,i8.block⟩⟩;unfold Lib.compareInt
     by_cases B0:x<y
     ·have:=Qex (B:=2^64) (by decide) (Xo0 YF).low (Xo2 HH) (Xe3 HH) (Xo0 HH) B0;rw[Us (by omega)];exact ⟨⟨fun _=>this,fun _=>by decide⟩,⟨fun h=>by simp at h,fun h=>by omega⟩⟩
     ·have:=Qex (B:=2^64) (by decide) (Xe1 YF).low (Xe3 HH) (Xo2 HH) (Xo0 HH).symm (by omega);rw[Uq (by omega),Us (by omega)];exact ⟨⟨fun h=>by simp at h,fun h=>by omega⟩,⟨fun _=>this,fun _=>by decide⟩⟩
 ·have hneI:((A.length:Int) != (K.length:Int))=true:=by rw[bne_iff_ne];omega
  have E4:=fun W=>Tryz.Qzt (A.length:Int) (K.length:Int) W
  go_enter Tryz.func149,Tryz.ntmps149
  go_wp2_with (first
   |(go_at_call_of 143 a;refine ((Xo0 HC) _ (Uf _ _)).mono ?_;rintro e w1 ⟨rfl,C0⟩;have K0:=Ua C0;clear C0)
   |(go_at_call_of 143 b;refine ((Xe1 HC) _ K0.out).mono ?_;rintro e w2 ⟨rfl,D0⟩;have B1:=Ua (Below.next0 K0.out D0);clear D0)
   |(refine (E4 _).mono ?_;rintro e w3 ⟨rfl,Wx⟩;obtain rfl:=Wx.symm))
  go_ret;refine ⟨⟨_,rfl,?_⟩,B1.out⟩;unfold Lib.compareInt
  by_cases B0:A.length<K.length
  ·have:=(Xo0 HL) B0;rw[Us (by omega)];exact ⟨⟨fun _=>this,fun _=>by decide⟩,⟨fun h=>by simp at h,fun h=>by omega⟩⟩
  ·have:=(Xe1 HL) (by omega);rw[Uq (by omega),Us (by omega)];exact ⟨⟨fun h=>by simp at h,fun h=>by omega⟩,⟨fun _=>this,fun _=>by decide⟩⟩
theorem Qpc {d:Nat} (h:d<2^64) (h0:d≠0):dig (2^64) d=[d]:=by rw[Q3e (by decide) h0,TX h,Xap h,Q11]
theorem Qey (w:World) (m:Nat) (hm:m<18446744073709551616) (T:TypeId):WordsIn (w.alloc (.cells #[.int .u64 (m:Int)] T)) (some ⟨w.heap.size,0,none⟩) 1 1 [m]:=
 ⟨rfl,Ug _,by omega,fun x hx=>by rw[Uy] at hx;subst hx;exact hm,.inr ⟨w.heap.size,0,rfl,by rw[Uo];omega,fun j x hx=>by
   cases j with
   |zero=>simp only[UI,Un] at hx;subst hx;rw[Ux _ _ _ _ _ _ (Ul _ _)];rfl
   |succ j=>simp at hx⟩⟩
theorem Qvr (B m:Nat):val B [m]=m:=by simp[val]
theorem Qjl (a:OA) (n c:Nat) (ls:LN) (b:OA) (cb:Nat) (d:Nat) (w:World) (h1:WordsIn w a n c ls) (h2:WordsIn w b 1 cb [d]) (hn:n<=100000) (hd:9223372036854775808<=d) (C9:val (2^64) ls≠0):
 Calls Tryz.prog 153 #[.slice a n c,.slice b 1 cb] w fun e w'=>∃aq nq cq ar nr cr,e=.returned (.tuple #[.slice aq nq cq,.slice ar nr cr,.bool true])/\WordsIn w' aq nq cq (dig (2^64) (val (2^64) ls / d))/\WordsIn w' ar nr cr (dig (2^64) (val (2^64) ls%d))/\Bw w w'/\∀x,aq=some x->w.heap.size<=x.block:=by
 have Vu:d<18446744073709551616:=h2.low d (by simp);have Y1:=trim_len ls;have V7:=h1.len;have C7:val (2^64) (trimL ls)=val (2^64) ls:=Q1d ls;have htd:trimL [d]=[d]:=by have:=Q51 [] (x:=d) (by omega);simpa using this
 have N1:=fun W (hb:Bw w W)=>Q1l a n c ls W (h1.step hb);have E1:=fun W (hb:Bw w W)=>Q1l b 1 cb [d] W (h2.step hb);rw[htd] at E1;have K4:=fun W (hb:Bw w W)=>(h1.step hb).trim;have Q8:=fun W (hb:Bw w W)=>h2.step hb;rw[<-C7] at C9⊢;obtain ⟨A,hA⟩:∃A,trimL ls=A:=⟨_,rfl⟩;rw[hA] at Y1 N1 K4 C9⊢;have HC:=Xh2 N1 E1;have HW:=Xh3 K4 Q8 C9;clear hA C7 N1 E1 K4 Q8 h1 h2 htd C9;have Xk:([d]:LN).length=1:=rfl;rw[Xk] at HC
 by_cases B0:val (2^64) A<d
 ·have HQ:=Xh3 (Xap B0) (TX B0) B0;clear B0
  go_enter Tryz.func153,Tryz.ntmps153
  go_wp2_with (first
   |(go_at_call_of 143 a;refine ((Xo0 HC) _ (Uf _ _)).mono ?_;rintro e w1 ⟨rfl,C0⟩;have K0:=Ua C0;clear C0)
   |(go_at_call_of 143 b;refine ((Xe1 HC) _ K0.out).mono ?_;rintro e w2 ⟨rfl,D0⟩;have B1:=Ua (Below.next0 K0.out D0);clear D0)
   |(go_at_call_of 149 a;refine (Q9x a A.length c A b 1 cb [d] _ ((Xo0 HW) _ B1.out) ((Xo1 HW) _ B1.out) (by omega)).mono ?_;rintro e w3 ⟨⟨r,rfl,A1,G1⟩,G0⟩;rw[Qvr] at A1;have y4:r<0:=A1.2 (Xe2 HQ);have D2:=Ua (Below.next0 B1.out G0);clear G0 A1 G1)
   |(refine (Qjk a A.length c A _ ((Xo0 HW) _ D2.out) (by omega) (Xe2 HW)).mono ?_;rintro e w4 ⟨a4,n4,c4,rfl,q6,F1⟩;have N3:=Xh2 q6 (Below.next0 D2.out F1);clear q6 F1))
  refine ⟨rfl,.tuple #[.slice none 0 0,.slice a4 n4 c4,.bool true],by simp[results,go_sem],none,0,0,a4,n4,c4,rfl,?_,?_,(Xe1 N3),fun x e=>by cases e⟩
  ·rw[(Xo0 HQ)];exact ⟨rfl,Ug _,by omega,fun x hx=>by simp[Q11] at hx,.inl rfl⟩
  ·rw[(Xo1 HQ)];exact (Xo0 N3)
 ·have o6:d<=val (2^64) A:=by omega
  have HQ:=Ua o6;have HV:=Ua B0;clear B0 o6;obtain ⟨rm,hrm⟩:∃rm,val (2^64) A%d=rm:=⟨_,rfl⟩;have ZD:rm<18446744073709551616:=by rw[<-hrm];exact Nat.lt_trans (TG _ (by omega)) Vu
  have HRM:=Ua hrm;clear hrm
  go_enter Tryz.func153,Tryz.ntmps153
  go_wp2_with (first
   |(go_at_call_of 143 a;refine ((Xo0 HC) _ (Uf _ _)).mono ?_;rintro e w1 ⟨rfl,C0⟩;have K0:=Ua C0;clear C0)
   |(go_at_call_of 143 b;refine ((Xe1 HC) _ K0.out).mono ?_;rintro e w2 ⟨rfl,D0⟩;have B1:=Ua (Below.next0 K0.out D0);clear D0)
   |(go_at_call_of 149 a;refine (Q9x a A.length c A b 1 cb [d] _ ((Xo0 HW) _ B1.out) ((Xo1 HW) _ B1.out) (by omega)).mono ?_;rintro e w3 ⟨⟨r,rfl,A1,G1⟩,G0⟩;rw[Qvr] at A1;have y4:¬r<0:=fun h=>HV.out (A1.1 h);have D2:=Ua (Below.next0 B1.out G0);
     obtain ⟨gb,ob,L6,hgb,hcb⟩:=((Xo1 HW) _ D2.out).rd.at_ (k:=0) (x:=d) rfl;rw[Tu] at hcb;subst L6;clear G0 A1 G1)
   |(go_at_call_of 179 a;have N0:=Qmy a A.length c A d w3 ((Xo0 HW) _ D2.out) (by omega) hd Vu;rw[HRM.out] at N0;refine N0.mono ?_;rintro e w4 ⟨a4,n4,c4,rfl,q6,F1,L7⟩;have N3:=Xh3 q6 (Below.next0 D2.out F1) (fun x (e:a4=some x)=>Ur D2.out.size (L7 x e));clear q6 F1 N0 L7)
   |(refine (Q1l _ 1 1 [rm] _ (Qey w4 rm ZD 74)).mono ?_;rintro e w5 ⟨rfl,M0⟩;have M4:=Ua M0;clear M0))
  have U2:=Below.next0 ((Uf _ _).alloc (Ug _) (.cells #[.int .u64 (rm:Int)] 74)) M4.out;have Q7:=((Qey w4 rm ZD 74).step M4.out).trim;have ZA:=Q1q (B:=2^64) (by decide) (Qey w4 rm ZD 74).low;rw[Qvr] at ZA;rw[ZA] at Q7;refine ⟨rfl,.tuple #[.slice a4 n4 c4,.slice (some ⟨w4.heap.size,0,none⟩) (trimL [rm]).length 1,.bool true],by simp[results,go_sem],a4,n4,c4,_,_,_,rfl,(Xo0 N3).step U2,?_,Below.next0 (Xo1 N3) U2,(Xe2 N3)⟩;rw[HRM.out,ZA];exact Q7
end Go.Proofs.YtdilmfakkppgpaaGreatDoor
namespace Go.Proofs.YtdilmfakkppgpaaGreatDoor
namespace NatM
abbrev Q4r:Nat:=4294967296
def val:LN->Nat
 |[]=>0
 |m::r=>m+Q4r*val r
def trimL:LN->LN
 |[]=>[]
 |m::r=>match trimL r with
  |[]=>if m=0 then [] else [m]
  |x::y=>m::x::y
def small (l:LN):Prop:=∀m∈l,m<Q4r
theorem Q1d:∀l:LN,val (trimL l)=val l
 |[]=>rfl
 |m::r=>by
  have ih:=Q1d r;simp only[trimL,val]
  split
  ·rename_i h;rw[h] at ih
   split
   ·rename_i h0;rw[h0,<-ih];rfl
   ·rw[<-ih];rfl
  ·rename_i x y h;rw[h] at ih;simp only[val] at ih⊢;rw[ih]
theorem trim_snoc_zero:∀l:LN,trimL (l++[0])=trimL l
 |[]=>rfl
 |m::r=>by
  have ih:=trim_snoc_zero r;simp only[TD,trimL,ih]
theorem trim_snoc (m:Nat) (hm:m≠0):∀l:LN,trimL (l++[m])=l++[m]
 |[]=>by simp[trimL,hm]
 |x::r=>by
  have ih:=trim_snoc m hm r;simp only[TD,trimL,ih];cases h:r++[m] with
  |nil=>simp at h
  |cons a b=>rfl
theorem Q3a (l:LN):trimL l=l.take (trimL l).length:=by
 induction l with
 |nil=>rfl
 |cons m r ih=>
  simp only[trimL];cases h:trimL r with
  |nil=>
   simp only
   split <;> simp
  |cons x y=>
   simp only;rw[h] at ih;rw[Uz,List.take_succ_cons,<-ih]
theorem trim_len (l:LN):(trimL l).length<=l.length:=by
 rw[Q3a];exact List.length_take_le' _ _
theorem Qmz {l:LN} (h:small l):small (trimL l):=by
 intro m hm;rw[Q3a] at hm;exact h m (Ty hm)
theorem Qg6:∀l:LN,trimL l=[]↔val l=0
 |[]=>by simp[trimL,val]
 |m::r=>by
  have ih:=Qg6 r;simp only[trimL,val];cases h:trimL r with
  |nil=>
   have:=ih.1 h;rw[this];simp only
   split
   ·rename_i h0;simp[h0]
   ·rename_i h0;simp[h0]
  |cons x y=>
   have:val r≠0:=fun e=>by rw[ih.2 e] at h;cases h
   simp only[reduceCtorEq,false_iff];have:0<val r:=by omega
   show¬(m+4294967296*val r=0)
   omega
def Q3m:LN->LN × Nat
 |[]=>([],0)
 |m::r=>(((Q3m r).2*Q4r+m) / 10::(Q3m r).1,((Q3m r).2*Q4r+m)%10)
theorem Qg7:∀l:LN,(Q3m l).1.length=l.length
 |[]=>rfl
 |m::r=>by simp[Q3m,Qg7 r]
theorem Q9y:∀l:LN,(Q3m l).2<10
 |[]=>by decide
 |m::r=>TG _ (by decide)
theorem Qg8:∀l:LN,val l=10*val (Q3m l).1+(Q3m l).2
 |[]=>rfl
 |m::r=>by
  have ih:=Qg8 r;simp only[Q3m,val];rw[ih];have:=TJ ((Q3m r).2*4294967296+m) 10
  show m+4294967296*(10*val (Q3m r).1+(Q3m r).2)=10*(((Q3m r).2*4294967296+m) / 10+4294967296*val (Q3m r).1)+((Q3m r).2*4294967296+m)%10
  omega
theorem Qbt:∀{l:LN},small l->small (Q3m l).1
 |[],_=>fun m hm=>by cases hm
 |m::r,h=>by
  have ih:=Qbt (l:=r) fun x hx=>h x (by simp[hx]);have h1:m<4294967296:=h m (by simp);have h2:=Q9y r;intro x hx;rcases UF.1 hx with rfl|hx
  ·show ((Q3m r).2*4294967296+m) / 10<4294967296
   omega
  ·exact ih x hx
def halves (ws:LN):LN:=ws.flatMap fun w=>[w%Q4r,w / Q4r]
theorem halves_small {ws:LN} (h:∀w∈ws,w<18446744073709551616):small (halves ws):=by
 intro m hm;obtain ⟨w,hw,hm⟩:=List.mem_flatMap.1 hm;have:=h w hw
 show m<4294967296
 rcases UF.1 hm with rfl|hm
 ·exact TG _ (by decide)
 ·rw[Uy] at hm;subst hm
  show w / 4294967296<_
  omega
theorem halves_len (ws:LN):(halves ws).length=2*ws.length:=by
 induction ws with
 |nil=>rfl
 |cons w r ih=>simp only[halves,List.flatMap_cons,Uj,Uz,Xan] at ih⊢;omega
theorem Qt3 (N v:Nat) (s:LU) (h:Lib.decDigits N=Lib.decDigits v++s):Lib.decDigits N=(if v / 10=0 then [] else Lib.decDigits (v / 10))++(UInt8.ofNat (48+v%10)::s):=by
 rw[h];have:Lib.decDigits v=(if v / 10=0 then [] else Lib.decDigits (v / 10))++[UInt8.ofNat (48+v%10)]:=by
  rw[Lib.decDigits]
  split
  ·rename_i h1;rw[Us (by omega),TX h1];rfl
  ·rw[Uq (by omega)]
 rw[this];simp
theorem Q3k:∀{l:LN},small l->val l<Q4r^l.length
 |[],_=>by simp[val]
 |m::r,h=>by
  have ih:=Q3k (l:=r) fun x hx=>h x (by simp[hx]);have h1:m<4294967296:=h m (by simp);simp only[val,Uz,Th];rw[UG (Q4r^r.length)];have h2:Q4r*(val r+1)<=Q4r*Q4r^r.length:=Xax _ ih;rw[Tt] at h2
  show m+4294967296*val r<_
  have h3:Q4r*val r+Q4r*1=4294967296*val r+4294967296:=rfl;omega
theorem dec_len (j:Nat):∀n,n<10^j->1<=j->(Lib.decDigits n).length<=j:=by
 induction j with
 |zero=>intro n _ h;omega
 |succ j ih=>
  intro n hn _;rw[Lib.decDigits]
  split
  ·simp
  ·have hj:1<=j:=by
    rcases TQ j with rfl|h
    ·simp at hn;omega
    ·exact h
   have:=ih (n / 10) (by rw[Th] at hn;omega) hj;simp only[Uj,Xa1];omega
theorem dec_val_len {l:LN} (h:small l):(Lib.decDigits (val l)).length<=10*l.length+1:=by
 refine dec_len _ _ ?_ (by omega);refine Ue (Q3k h) ?_;rw[Th,Xar];refine Ur (Xbb (show Q4r<=10^10 by decide) _) ?_;omega
end NatM
end Go.Proofs.YtdilmfakkppgpaaGreatDoor
namespace Go.Proofs.YtdilmfakkppgpaaGreatDoor
open Go.RowKit NatM
abbrev nv3 (k:IntKind) (m:Nat):Value:=.int k (m:Int)
def RdN (k:IntKind) (w:World) (B:Nat) (a:OA) (ms:LN):Prop:=ms=[]∨∃b o,a=some ⟨b,o,none⟩/\b<B/\∀(j:Nat) m,ms[j]?=some m->w.cell? ⟨b,o+j,none⟩=some (nv3 k m)
section
variable {k:IntKind} {w w':World} {B B':Nat} {a:OA} {ms:LN}
theorem RdN.at_ (h:RdN k w B a ms) {j m:Nat} (hm:ms[j]?=some m):∃b o,a=some ⟨b,o,none⟩/\b<B/\w.cell? ⟨b,o+j,none⟩=some (.int k (m:Int)):=by
 rcases h with rfl|⟨b,o,rfl,hb,hc⟩
 ·simp at hm
 ·exact ⟨b,o,rfl,hb,hc j m hm⟩
theorem RdN.below (h:RdN k w B a ms) (hb:Below B w w'):RdN k w' B a ms:=by
 rcases h with rfl|⟨b,o,rfl,hl,hc⟩
 ·exact .inl rfl
 ·exact .inr ⟨b,o,rfl,hl,fun j m hm=>(hb.cell (p:=⟨b,o+j,none⟩) hl).trans (hc j m hm)⟩
theorem RdN.take (h:RdN k w B a ms) (n:Nat):RdN k w B a (ms.take n):=by
 rcases h with rfl|⟨b,o,rfl,hl,hc⟩
 ·exact .inl (by simp)
 ·refine .inr ⟨b,o,rfl,hl,fun j m hm=>hc j m ?_⟩;rw[To] at hm
  split at hm
  ·exact hm
  ·cases hm
end
abbrev sv (l:LU):Value:=.string ⟨l.toArray⟩
theorem RdI.rdN {k:IntKind} {w:World} {B:Nat} {a:OA} {ms:LN} (h:RdI k w B a ms):RdN k w B a ms:=h
theorem RdN.rdI {k:IntKind} {w:World} {B:Nat} {a:OA} {ms:LN} (h:RdN k w B a ms):RdI k w B a ms:=h
theorem Row.rdN {k:IntKind} {w:World} {B:Nat} {e:TypeId} {a:OA} {n c:Nat} {ms:LN} (h:Row w B e 1 a n c (ms.map (nv3 k))):RdN k w w.heap.size a ms:=by
 by_cases h0:ms=[]
 ·exact .inl h0
 ·obtain ⟨m,hm⟩:∃m,ms[0]?=some m:=by
   cases ms with
   |nil=>exact absurd rfl h0
   |cons m r=>exact ⟨m,rfl⟩
  obtain ⟨g,rfl,_,hg,_⟩:=h.at_ (j:=0) (x:=nv3 k m) (by rw[UT,hm];rfl);refine .inr ⟨g,0,rfl,hg,fun j x hx=>?_⟩;obtain ⟨g',e,_,_,hc⟩:=h.at_ (j:=j) (x:=nv3 k x) (by rw[UT,hx];rfl);injection e with e;injection e with e;subst e;rw[UB];exact hc
theorem Qdm (w:World) (a:OA) (n c k:Nat) (h:k<=c):(Instr.slice 54 (.slice a n c) none (some (.int .i64 (k:Int))) (some (.int .i64 (k:Int)))).run Tryz.prog w=.ok (.slice a k k) w:=by
 have ht:Tryz.prog.underlying 54=some (.slice (Tryz.prog.elem 54)):=by kernel_rfl
 have hs:(sizeOf (Tryz.prog.elem 54)).run Tryz.prog w=.ok 1 w:=by kernel_rfl
 rw[run_slice_hm w _ a n c ht .i64 .i64 (k:Int) (k:Int) (by omega) (by omega) (by omega),hs]
 show Result.ok (Value.slice (Qoz a ((k:Int).toNat) 0 1) _ _) w=_
 rw[Q8y,Xa6,Xbz]
theorem Q88 (a:OA) (n c:Nat) (ms:LN) (w:World) {B:Nat} (hn:ms.length=n) (hc:n<=c) (JZ:c<=9223372036854775807) (h:RdN .u32 w B a ms):
 Calls Tryz.prog 103 #[.slice a n c] w fun e w'=>e=.returned (.slice a (trimL ms).length (trimL ms).length)/\w=w':=by
 have H:=Ua h;have HN:=Ua hn;clear h hn
 go_enter Tryz.func103,Tryz.ntmps103
 go_wp2_with fail
 go_loop [3] (fun v=>∃i:Nat,v=.int .i64 (i:Int)/\i<=n/\trimL ms=trimL (ms.take i)) (fun v=>(intOf v).toNat)
 case atStart=>exact ⟨n,rfl,Ug _,by rw[UA (by rw[HN.out];exact Ug _)]⟩
 case round=>
  obtain ⟨i,rfl,hi,ht⟩:=hrel;rcases TQ i with rfl|O1
  ·have HT:=Ua (show (trimL ms).length=0 by rw[ht];rfl);have KT:=fun w=>Qdm w a n c 0 (by omega);clear ht
   go_wp2_with fail
   go_ret;rw[HT.out];exact ⟨rfl,rfl⟩
  ·obtain ⟨i,rfl⟩:∃i',i=i'+1:=⟨i-1,by omega⟩;obtain ⟨m,hm⟩:∃m,ms[i]?=some m:=⟨_,Ub (by rw[HN.out];omega)⟩;obtain ⟨b,o,rfl,hb,V0⟩:=H.out.at_ hm;have B6:ms.take (i+1)=ms.take i++[m]:=(by rw[Tc,hm];rfl);have h0:(0:Int)<=(i:Int):=(by omega);have h1:(i:Int)<(n:Int):=by omega
   by_cases hz:m=0
   ·subst hz;have HT:=Ua (show trimL ms=trimL (ms.take i) by rw[ht,B6,trim_snoc_zero]);clear ht B6 hm
    go_wp2_with fail
    go_round
    case rel=>exact ⟨i,by go_num,by omega,HT.out⟩
    case measure=>simp[intOf]
   ·have HT:=Ua (show (trimL ms).length=i+1 by rw[ht,B6,trim_snoc m hz,Uj,List.length_take_of_le (by rw[HN.out];omega)];rfl);have hz':((m:Int)==0)=false:=(by rw[Ui];omega);have J1:¬((m:Int)=0):=(by omega);have KT:=fun w=>Qdm w (some ⟨b,o,none⟩) n c (i+1) (by omega);clear ht B6 hm
    go_wp2_with fail
    go_ret;rw[HT.out];exact ⟨rfl,rfl⟩
theorem Q6q:(Tryz.prog.info? 152).map (fun i=>(i.zero,i.size,i.bytes))=some (some (.int .u32 0),1,4):=by kernel_rfl
theorem Qpd (v:Nat) (h:v<18446744073709551616):bits BinOp.and IntKind.u64 (v:Int) 4294967295=((v%4294967296:Nat):Int):=
 bits_mask .u64 64 (by decide) (fun n h0 h1=>by rw[IntKind.wrap_u64];omega) 32 (by decide) (v:Int) (by omega) (by omega)
theorem Qjm (ws:LN) (i w:Nat) (h:ws[i]?=some w):halves (ws.take (i+1))=halves (ws.take i)++[w%4294967296,w / 4294967296]:=by
 rw[Tc,h];simp[halves]
theorem Qjn (a:OA) (n c:Nat) (ws:LN) (w:World) (hn:ws.length=n) (hm:n<=1000000) (h:RdN .u64 w w.heap.size a ws) (hw:∀x∈ws,x<18446744073709551616):
 Calls Tryz.prog 56 #[.slice a n c] w fun e w'=>∃a' n' c',e=.returned (.slice a' n' c')/\n'=(trimL (halves ws)).length/\n'<=c'/\c'<=9223372036854775807/\RdN .u32 w' w'.heap.size a' (trimL (halves ws))/\Bw w w':=by
 have H:=Ua h;have HN:=Ua hn;have HWS:=Ua hw;clear h hn hw;obtain ⟨i0,O1,P1,K1,J1⟩:=Xby Q6q
 go_enter Tryz.func56,Tryz.ntmps56
 go_wp2_with fail
 go_loopw [3,4] (fun v iv wr=>∃(i:Nat) (ao:OA) (co:Nat),iv=.int .i64 (i:Int)/\i<=n/\v=.slice ao (2*i) co/\Row wr w.heap.size 152 1 ao (2*i) co ((halves (ws.take i)).map (nv3 .u32))/\Bw w wr) (fun _ iv _=>n-(intOf iv).toNat)
 case atStart=>exact ⟨0,none,0,rfl,Uu _,rfl,Row.nil_ _ _ _ _,Uf _ _⟩
 case round=>
  obtain ⟨i,ao,co,rfl,hi,rfl,I0,K6⟩:=hrel
  by_cases B0:i<n
  ·obtain ⟨x,hx⟩:∃x,ws[i]?=some x:=⟨_,Ub (by rw[HN.out];omega)⟩;have hx64:=HWS.out x (Ud hx);obtain ⟨b,o,rfl,hb,V0⟩:=(H.out.below K6).at_ hx;have HS:=Ua (Qjm ws i x hx);have HB:=Ua K6;have HR:=Ua I0;have G5:wr.ownsRow w.heap.size 152 1 (.slice ao (2*i) co) (2*i) ((halves (ws.take i)).map (nv3 .u32)):=I0;have h0:(0:Int)<=(i:Int):=(by omega);have h1:(i:Int)<(n:Int):=(by omega);have W6:=Qpd x hx64;have f8:(((x%4294967296:Nat):Int))<4294967296:=(by omega);have Z1:=K6.size;have e1:IntKind.u32.wrap ((x:Int)%4294967296)=(x:Int)%4294967296:=(by rw[IntKind.wrap_u32];omega);have e2:IntKind.u32.wrap ((x:Int) / 4294967296)=(x:Int) / 4294967296:=(by rw[IntKind.wrap_u32];omega);clear hx I0 K6
   go_wp2_with fail
   go_region_held_law (fun w'=>w'.cell? ⟨b,o+i,none⟩=some (.int .u64 (x:Int))) (first|go_keep|(rw[D4.cell_far _ (by simp;omega) (by rcases Row.form HR.out with ⟨h,_⟩|⟨g,cur,h,hg,_⟩ <;> (rw[h];simp[Value.ownBlock];try omega))];assumption))
    ((refine step_append_lies _ (by rfl) _ _ _ (by rfl) w.heap.size 152 i0 _ 1 4 Tryz.underlying54 O1 P1 K1 J1 rfl (by omega) (.slice ao (2*i) co) (2*i) _ (by rfl) ((G5.alloc _).drew)
       ⟨wr.heap.size,0,none⟩ 2 2 [.int .u32 ((x:Int)%4294967296),.int .u32 ((x:Int) / 4294967296)] (by rfl) (by rfl) (TA (cs:= #[.int .u32 ((x:Int)%4294967296),.int .u32 ((x:Int) / 4294967296)]) (t:=152) (fr:=(0,0)) (Ul wr _)) (by simp[Value.oneCell'])
       (by omega) (by unfold maxLen;omega) (by omega) (by simp;omega) (wr.heap.size+1) (by simp) ?_;intro gg cap w1 hown1 D4 R1 B0))
   have HO:=Xh3 hown1 D4 R1;clear G5 hown1 D4 R1 e1 e2 W6 f8
   go_wp2_with fail
   go_roundw
   case rel=>
    obtain ⟨g1,g2,g3⟩:=HO.out;refine ⟨i+1,some ⟨gg,0,none⟩,cap,by go_num,by omega,rfl,?_,?_⟩
    ·rw[HS.out,UP];exact g1
    ·refine Below.grown (HB.out.alloc Z1 _).drew g2 (by simp;omega) fun k hk=>?_;rcases Row.form HR.out with ⟨h,_⟩|⟨g,cur,h,hg,_⟩
     ·rw[h] at hk;cases hk
     ·rw[h] at hk;simp[Value.ownBlock] at hk;omega
   case measure=>simp[intOf];omega
  ·obtain rfl:i=n:=(by omega);rw[UA (by rw[HN.out];exact Ug _)] at I0;have R0:(halves ws).length=2*i:=(by rw[halves_len,HN.out]);have V3:=I0.cap;have Yq:co<=9223372036854775807:=V3.2;have HB:=Xh3 K6 V3.1 Yq;have HTR:=Ua (fun wx (hx:wx=wr)=>Q88 ao (2*i) co (halves ws) wx (B:=wr.heap.size) R0 V3.1 Yq (by subst hx;exact Row.rdN I0));have HRD:=Ua ((Row.rdN I0).take (trimL (halves ws)).length);have Wz:=Ua (Q3a (halves ws));clear I0 K6 V3 R0 hi B0 Yq
   go_wp2_with (refine (HTR.out _ rfl).mono ?_;rintro e w' ⟨rfl,rfl⟩)
   go_ret;refine ⟨ao,_,_,rfl,rfl,Ug _,?_,?_,(Xo0 HB)⟩
   ·have:=trim_len (halves ws);rw[halves_len,HN.out] at this;omega
   ·have h2:=HRD.out;rw[<-Wz.out] at h2;exact h2
theorem or32 (c m:Nat) (hc:c<4294967296) (hm:m<4294967296):bits BinOp.or IntKind.u64 ((c*4294967296:Nat):Int) (m:Int)=((c*4294967296+m:Nat):Int):=by
 rw[u64_or_nat _ _ (by omega) (by omega)];have:=Nat.shiftLeft_add_eq_or_of_lt (a:=c) (i:=32) (b:=m) hm;rw[Nat.shiftLeft_eq] at this;rw[show c*4294967296=c*2^32 from rfl,<-this]
theorem Qpe (d:UInt8) (t:LU):Value.string ((⟨#[d]⟩:ByteArray)++⟨t.toArray⟩)=sv (d::t):=by
 refine congrArg Value.string (ByteArray.ext ?_);simp[TS]
theorem Qpf {w0 w:World} {H j n B:Nat} {T:TypeId} {cs:Array Value} {xs:LV} (hh:w.heap[H]?=some (.cells cs T (0,0))) (hs:cs.size=n) (hc:cs.toList.drop (j+1)=xs) (hj:j<n) (v:Value) (hb:Below B w0 w) (hB:B<=H):
 ∃cs',(w.setCell ⟨H,j,none⟩ v).heap[H]?=some (.cells cs' T (0,0))/\cs'.size=n/\cs'.toList.drop j=v::xs/\Below B w0 (w.setCell ⟨H,j,none⟩ v):=by
 refine ⟨cs.setIfInBounds j v,heap_setCell_same _ _ _ _ _ _ hh,by simpa using hs,?_,hb.setCell hB _⟩;rw[Xal,UC (by simp;omega),List.getElem_set_self,<-hc];rw[List.drop_set_of_lt (by omega)]
theorem Q6r {α:Type} (l:List α) (i:Nat) (m:α) (h:l[i]?=some m):l.drop i=m::l.drop (i+1):=by
 obtain ⟨hi,rfl⟩:=Um.1 h;exact UC hi
theorem Qn0 (a:OA) (n c:Nat) (ms:LN) (w:World) (hn:ms.length=n) (hm:n<=1000000) (hc:n<=c) (JZ:c<=9223372036854775807) (h:RdN .u32 w w.heap.size a ms) (hs:small ms):
 Calls Tryz.prog 119 #[.slice a n c] w fun e w'=>e=.returned (sv (Lib.decDigits (val ms)))/\Bw w w':=by
 rcases TQ n with rfl|d8
 ·obtain rfl:ms=[]:=UH.1 hn;clear h hs hn;have HD:=Ua (show Lib.decDigits (val [])=[48] by simp[val,Lib.decDigits])
  go_enter Tryz.func119,Tryz.ntmps119
  go_wp2_with fail
  go_ret;rw[HD.out];exact ⟨rfl,Uf _ _⟩
 have YC:((n:Int)==0)=false:=by rw[Ui];omega
 have hn0'':¬(n:Int)=0:=by omega
 have H:=Xh3 h hs hn;clear h hs hn
 go_enter Tryz.func119,Tryz.ntmps119
 go_wp2_with fail
 go_loopg [0,3] (2*val ms+1) (fun g mv tv wr=>∃(k:Nat) (cc:Nat) (ao:OA) (ls:LN) (t:LU),mv=.slice ao k cc/\tv=sv t/\ls.length=k/\k<=n/\k<=cc/\cc<=9223372036854775807/\RdN .u32 wr wr.heap.size ao ls/\small ls/\(ls=[]->val ls=0)/\
  Lib.decDigits (val ms)=(if ls=[] then [] else Lib.decDigits (val ls))++t/\g=2*val ls+(if ls=[] then 0 else 1)/\Bw w wr)
 case atStart=>
  obtain ⟨h,hs,hn⟩:=H.out;have C1:ms≠[]:=by intro e;rw[e] at hn;simp at hn;omega
  exact ⟨n,c,a,ms,[],rfl,rfl,hn,Ug _,hc,JZ,h,hs,fun e=>absurd e C1,by rw[Uq C1];simp,by rw[Uq C1],Uf _ _⟩
 case round=>
  obtain ⟨k,cc,ao,ls,t,rfl,rfl,hl,hk,Y2,hcc',X8,P8,_,o4,hg,K6⟩:=hrel;generalize wr=W1 at*;rcases TQ k with rfl|ZZ
  ·obtain rfl:ls=[]:=UH.1 hl;have HD:=Ua (show Lib.decDigits (val ms)=t by rw[o4];simp);have HB:=Ua K6;clear o4 hg K6 X8 P8 hl
   go_wp2_with fail
   go_ret;rw[HD.out];exact ⟨rfl,HB.out⟩
  ·have YI:(0:Int)<(k:Int):=(by omega);have HE:=Xh6 X8 P8 hl o4 hg K6;have U3:=Xam (P:=Tryz.prog) 54 152 (.int .u32 0) 4 Tryz.underlying54 Q6q rfl .i64 .i64 k (by omega) (by omega);clear X8 P8 hl o4 hg K6
   go_wp2_with fail
   go_loopw [5,6] (fun cv iv wx=>∃(i:Nat) (cs:Array Value),iv=.int .i64 ((i:Int)-1)/\cv=.int .u64 ((Q3m (ls.drop i)).2:Int)/\i<=k/\wx.heap[W1.heap.size]?=some (.cells cs 152 (0,0))/\cs.size=k/\cs.toList.drop i=(Q3m (ls.drop i)).1.map (nv3 .u32)/\Bw W1 wx) (fun _ iv _=>(intOf iv+1).toNat)
   case atStart=>
    have hl:=(Xo2 HE);refine ⟨k,_,rfl,?_,Ug _,Ul _ _,?_,?_,Ba⟩
    ·rw[TH (by omega)];rfl
    ·exact size_madeCells _ _
    ·rw[TH (by rw[Xbc,size_madeCells];omega),TH (by omega)];rfl
   case round=>
    obtain ⟨i,cs,rfl,rfl,hi,hh,M8,hd,hb⟩:=hrel;rcases TQ i with rfl|O1
    ·obtain ⟨X8,P8,hl,o4,hg,K6⟩:=HE.out;have e0:ls.drop 0=ls:=Xaw;rw[e0,Xaw] at hd;rw[e0];have R0:=Qg7 ls;have WY:=Q9y ls;have J0:=Qg8 ls;have V4:=Qbt P8;obtain ⟨⟨qs,C⟩,hq⟩:∃p,Q3m ls=p:=⟨_,rfl⟩;rw[hq] at hd R0 WY J0 V4⊢;have hd:cs.toList=qs.map (nv3 .u32):=hd;have R0:qs.length=ls.length:=R0;have WY:C<10:=WY;have J0:val ls=10*val qs+C:=J0;have V4:small qs:=V4;have Z5:t.length<=10*n+1:=by
      obtain ⟨h,hs,hn⟩:=H.out;have h1:=dec_val_len hs;rw[o4,Uj,hn] at h1;omega
     have G6:∀wx,Bw wr wx->RdN .u32 wx wx.heap.size (some ⟨W1.heap.size,0,none⟩) qs:=by
      intro wx C2;have B0:=(Uv.1 hh).1;refine .inr ⟨W1.heap.size,0,rfl,Ue B0 C2.size,fun j x hx=>?_⟩;rw[Ux _ _ _ _ _ _ ((C2.block _ B0).trans hh),<-UW,hd,UT,UB,hx];rfl
     have HH:=Xh9 o4 hg K6 hl R0 J0 V4 G6 hb;have HTR:=Ua (fun wx (C2:Bw wr wx)=>Q88 (some ⟨W1.heap.size,0,none⟩) k k qs wx (B:=wx.heap.size) (by omega) (Ug _) (by omega) (G6 wx C2));have hC:(C:Int)<10:=(by omega);obtain ⟨d,hde⟩:∃d,UInt8.ofNat (48+C)=d:=⟨_,rfl⟩;have HD:=Ua hde;clear X8 P8 hl o4 hg K6 R0 J0 V4 G6 hb hd hh M8 hq hde
     go_wp2_with fail
     rw[Q7c _ (wr.heap.size+1) _ 1 _ [d] ?_ rfl]
     ·go_wp2_with (refine (HTR.out _ (Ba)).mono ?_;rintro e w' ⟨rfl,rfl⟩)
      obtain ⟨o4,hg,K6,hl,R0,J0,V4,G6,hb⟩:=HH.out;have hlsne:ls≠[]:=(by intro e;rw[e] at hl;simp at hl;omega);rw[Uq hlsne] at o4 hg;have hturn:=Qt3 (val ms) (val ls) t o4;have hmod:val ls%10=C:=(by omega);have hdiv:val ls / 10=val qs:=(by omega);rw[hmod,hdiv,HD.out] at hturn;have htz:=Qg6 qs;have hv:=Q1d qs
      go_roundg (2*val (trimL qs)+(if trimL qs=[] then 0 else 1))
      case measure=>
       rw[hv]
       by_cases h0:trimL qs=[]
       ·rw[Us h0,htz.1 h0];omega
       ·rw[Uq h0];have:val qs≠0:=fun e=>h0 (htz.2 e);omega
      case rel=>
       refine ⟨(trimL qs).length,(trimL qs).length,_,trimL qs,d::t,rfl,Qpe d t,rfl,?_,Ug _,?_,?_,Qmz V4,fun e=>by rw[e];rfl,?_,rfl,?_⟩
       ·have:=trim_len qs;omega
       ·have:=trim_len qs;omega
       ·have:=(G6 _ ((Uf wr.heap.size wr).alloc (Ug _) (.cells #[.int .u8 (48+(C:Int))] 5))).take (trimL qs).length;rw[<-Q3a] at this;exact this
       ·rw[hturn,hv]
        by_cases h0:trimL qs=[]
        ·rw[Us (htz.1 h0),Us h0]
        ·rw[Uq (fun e=>h0 (htz.2 e)),Uq h0]
       ·exact (Below.next0 K6 hb).alloc (Ur K6.size hb.size) _
     ·refine .inr ⟨wr.heap.size,0,rfl,by omega,fun j x hx=>?_⟩;cases j with
      |zero=>
       have hx:some d=some x:=hx;injection hx with hx;subst hx;rw[Ux _ _ _ _ _ _ (Ul _ _)];have:d.toNat=48+C:=(by rw[<-HD.out,Xbh];omega);unfold bv;rw[this];rfl
      |succ j=>cases hx
    ·obtain ⟨i,rfl⟩:∃j,i=j+1:=⟨i-1,by omega⟩;obtain ⟨X8,P8,hl,o4,hg,K6⟩:=HE.out;obtain ⟨m,hm⟩:∃m,ls[i]?=some m:=⟨_,Ub (by omega)⟩;have hm32:m<4294967296:=P8 m (Ud hm);obtain ⟨b,o,rfl,I7,Vy⟩:=X8.at_ hm;have V0:wr.cell? ⟨b,o+i,none⟩=some (.int .u32 (m:Int)):=(hb.cell (p:=⟨b,o+i,none⟩) I7).trans Vy;have WY:=Q9y (ls.drop (i+1));have X0:Q3m (ls.drop i)=(((Q3m (ls.drop (i+1))).2*Q4r+m) / 10::(Q3m (ls.drop (i+1))).1,((Q3m (ls.drop (i+1))).2*Q4r+m)%10):=(by rw[Q6r ls i m hm,Q3m]);have A7:=or32 (Q3m (ls.drop (i+1))).2 m (by omega) hm32;obtain ⟨cs',k1,k2,k3,k4⟩:=Qpf hh M8 hd (by omega) (.int .u32 (((((Q3m (ls.drop (i+1))).2*4294967296+m) / 10:Nat):Int))) hb (Ug _);obtain ⟨x0,y5⟩:∃x0,cs[i]?=some x0:=⟨cs[i]'(by omega),UD (by omega)⟩;have hcq:wr.cell? ⟨W1.heap.size,i,none⟩=some x0:=(by rw[Ux _ _ i _ _ _ hh];exact y5);have L7:wr.frozen? ⟨W1.heap.size,i,none⟩=false:=TC _ _ _ _ _ hh;obtain ⟨C,hC⟩:∃C,(Q3m (ls.drop (i+1))).2=C:=⟨_,rfl⟩;rw[hC] at WY X0 A7 k1 k3 k4⊢;have X0:Q3m (ls.drop i)=((C*4294967296+m) / 10::(Q3m (ls.drop (i+1))).1,(C*4294967296+m)%10):=X0;have hT:C*4294967296+m<42949672960:=(by omega);obtain ⟨T,hTe⟩:∃T,C*4294967296+m=T:=⟨_,rfl⟩;rw[hTe] at X0 A7 k1 k3 k4 hT;have A7:bits BinOp.or IntKind.u64 ((C:Int)*4294967296) (m:Int)=(T:Int):=(by rw[<-A7];congr 1);have eT:((T / 10:Nat):Int)=(T:Int) / 10:=(by omega);rw[eT] at k1 k3 k4;have HS:=Xh5 X0 k1 k2 k3 k4;have O1:(0:Int)<=(i:Int):=(by omega);have Wn:(i:Int)<(k:Int):=(by omega);have hT1:(T:Int) / 10<4294967296:=(by omega);have hT2:(0:Int)<=(T:Int) / 10:=(by omega);clear X8 P8 hl o4 hg K6 hm Vy X0 k1 k2 k3 k4 hh M8 hd hb y5 hC hTe eT
     go_wp2_with fail
     go_roundw
     case rel=>
      obtain ⟨g1,g2,g3,g4,g5⟩:=HS.out;refine ⟨i,cs',rfl,?_,by omega,g2,g3,?_,g5⟩
      ·rw[g1];exact congrArg (Value.int .u64) (by omega)
      ·rw[g4,g1];exact congrArg (·::_) (congrArg (Value.int .u32) (by omega))
     case measure=>simp[intOf]
end Go.Proofs.YtdilmfakkppgpaaGreatDoor
