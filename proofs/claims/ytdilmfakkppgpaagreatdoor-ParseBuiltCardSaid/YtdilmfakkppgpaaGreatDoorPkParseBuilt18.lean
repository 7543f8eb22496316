/- Part 18 of the proof of LawParseBuilt: DigF, RdrB, RdrC. Condition: as each theorem says; none at the end. -/
import Derived.Test.YtdilmfakkppgpaaGreatDoorPkParseBuilt16
import Derived.Test.YtdilmfakkppgpaaGreatDoorPkParseBuilt17
set_option maxRecDepth 100000
set_option maxHeartbeats 16000000
namespace Go.Proofs.YtdilmfakkppgpaaGreatDoor
open Go.RowKit WordsM DecM
theorem Qno (l:LU) (x:Int) (h:Q9u l=some x): -1000000<=x/\x<=1000000:=by
 cases l with
 |nil=>rw[Q9u] at h;injection h with h;omega
 |cons c r=>
  rw[Q9u] at h
  split at h
  ·cases h
  ·split at h
   ·cases h
   ·rename_i h2;have hd:Qdr (Q15 r).2:=by
     have h3:=Q59 (Q15 r).2;rw[UA (by omega)] at h3;exact h3
    have hb:dv (Q15 r).2<10^6:=Ue (Qf0 _ hd) (UR (by decide) (by omega));have e6:(10:Nat)^6=1000000:=rfl;rw[e6] at hb;injection h with h
    split at h <;> omega
def Q5h (w0:World) (Φ:Bool->Int->LN->Int->Prop) (r:Ending) (w':World):Prop:=
 ∃neg' e' a' n' c' L er,r=.returned (.tuple #[.agg #[.bool neg',.int .i64 e',.slice a' n' c'],.int .i64 er])/\Φ neg' e' L er/\Q2m w0 w' a' n' c' L/\Bw w0 w'
theorem Q5h.of {w0 w':World} {Φ:Bool->Int->LN->Int->Prop} {neg':Bool} {e':Int} {a':OA} {n' c':Nat} {L:LN} {er:Int} (h1:Φ neg' e' L er) (h2:Q2m w0 w' a' n' c' L) (h3:Bw w0 w'):
 Q5h w0 Φ (.returned (.tuple #[.agg #[.bool neg',.int .i64 e',.slice a' n' c'],.int .i64 er])) w':=⟨neg',e',a',n',c',L,er,rfl,h1,h2,h3⟩
theorem Qr8 (s:ByteArray) (w:World) (hs:s.size<=281474976710656) (hTI:Q2n w):
 Calls Tryz.prog 230 #[.string s] w (Q5h w (Q0k s.data.toList)):=by
 have R0:s.data.toList.length=s.size:=rfl;have F2:Bw w (w.alloc (.cells #[.bool false,.int .i64 0,.slice none 0 0] 41)):=Ba;have JH:=Q02.new w (.bool false) (.int .i64 0) (.slice none 0 0) 41;have A3:=Q0r w (.cells #[.bool false,.int .i64 0,.slice none 0 0] 41);have HW:=Xh2 F2 JH;have HTI:=Ua hTI;have hq:=Qhq s.data.toList;obtain ⟨neg,t,Zx⟩:∃neg t,Q15 s.data.toList=(neg,t):=⟨_,_,rfl⟩;have Z5:t.length<=s.size:=by
  have h1:(Q15 s.data.toList).2.length<=s.data.toList.length:=by
   cases s.data.toList with
   |nil=>simp[Q15]
   |cons x y=>simp only[Q15];split <;> simp
  rw[Zx] at h1;exact h1
 have d6:form s.data.toList=form s.data.toList:=rfl
 conv at d6=>rhs;unfold form
 rw[Zx] at d6;simp only at d6;have N1:∀W,Calls Tryz.prog 233 #[.string s,.string ⟨#[45]⟩] W fun e w'=>e=.returned (.tuple #[.string ⟨t.toArray⟩,.bool neg])/\W=w':=fun W=>(Tryz.Qzp s ⟨#[45]⟩ W).mono (by
  rintro e w' ⟨rfl,rfl⟩;refine ⟨?_,rfl⟩
  show Ending.returned (.tuple #[.string ⟨(Lib.trimPrefix s.data.toList [45]).toArray⟩,.bool (Lib.hasPrefix s.data.toList [45])])=_
  rw[hq.1,hq.2,Zx])
 obtain ⟨T,hT⟩:∃T:ByteArray,T=⟨t.toArray⟩:=⟨_,rfl⟩;have Jw:T.size=t.length:=by rw[hT];rfl
 have Qv:T.data.toList=t:=by rw[hT]
 rw[<-hT] at N1;have I1:=fun W=>Qpt T W (by omega);obtain ⟨k,hk⟩:∃k,digN t=k:=⟨_,rfl⟩;have QT:=Q8a t;have XC:=Q59 t;rw[hk] at QT d6 XC;have HK:=Ua hk;have HT:=Xh2 Jw Qv;have HC:=Xh2 N1 I1;have KA:=Ua d6;have HTA:=Ua XC;clear hq Zx d6 N1 I1 hk hT F2 JH hTI R0 XC
 by_cases h1:k<1
 ·skip;have Wu:(k:Int)<1:=by omega
  have hF:form s.data.toList=none:=by rw[KA.out,Us (.inl h1)]
  have HF:=Ua hF;clear hF Jw Qv
  go_enter Tryz.func230,Tryz.ntmps230
  go_wp2_with (first
   |(go_at_call_of 233 (Value.string s);refine ((Xo0 HC) _).mono ?_;rintro e w1 ⟨rfl,rfl⟩)
   |(go_at_call_of 234 (Value.string T);refine ((Xe1 HC) _).mono ?_;rintro e w2 ⟨⟨k',rfl,d7⟩,D0⟩;obtain rfl:k=k':=by { rw[<-HK.out,<-(Xe1 HT)];exact Q26 d7 };have U0:=(Xe1 HW).step D0 A3;have Y3:=U0.c0;have N1:=U0.c1;have E1:=U0.c2;have Q4:=U0.f0;have O2:=U0.f1;have X2:=U0.f2;have L4:=U0.d1 (.bool false);have K3:=U0.d2 (.bool false) (.int .i64 0);have B1:=Xh3 U0 D0 (Below.next0 (Xo0 HW) D0);clear U0 D0 d7))
  have I4:=(Xo0 B1).store (.bool false) (.int .i64 0) (.slice none 0 0);have k0:=I4.c0;have k1:=I4.c1;have k2:=I4.c2;have M0:=Q02.below (Xe2 B1) (Ug _) (.bool false) (.int .i64 0) (.slice none 0 0);clear I4 Y3 N1 E1 Q4 O2 X2 L4 K3;generalize World.setCell _ _ _=W5 at k0 k1 k2 M0⊢;refine ⟨rfl,.tuple #[.agg #[.bool false,.int .i64 0,.slice none 0 0],.int .i64 5],by simp[results,go_sem,k0,k1,k2],Q5h.of (Q0k.none_ HF.out) (Q2m.nil_ _ _) M0⟩
 ·have Wu:¬(k:Int)<1:=by omega
  by_cases h13:1300<k
  ·skip;have hk13:(1300:Int)<(k:Int):=(by omega);have hF:form s.data.toList=none:=(by rw[KA.out,Us (.inr (.inl h13))]);have HF:=Ua hF;clear hF Jw Qv
   go_enter Tryz.func230,Tryz.ntmps230
   go_wp2_with (first
    |(go_at_call_of 233 (Value.string s);refine ((Xo0 HC) _).mono ?_;rintro e w1 ⟨rfl,rfl⟩)
    |(go_at_call_of 234 (Value.string T);refine ((Xe1 HC) _).mono ?_;rintro e w2 ⟨⟨k',rfl,d7⟩,D0⟩;obtain rfl:k=k':=by { rw[<-HK.out,<-(Xe1 HT)];exact Q26 d7 };have U0:=(Xe1 HW).step D0 A3;have Y3:=U0.c0;have N1:=U0.c1;have E1:=U0.c2;have Q4:=U0.f0;have O2:=U0.f1;have X2:=U0.f2;have L4:=U0.d1 (.bool false);have K3:=U0.d2 (.bool false) (.int .i64 0);have B1:=Xh3 U0 D0 (Below.next0 (Xo0 HW) D0);clear U0 D0 d7))
   have I4:=(Xo0 B1).store (.bool false) (.int .i64 0) (.slice none 0 0);have k0:=I4.c0;have k1:=I4.c1;have k2:=I4.c2;have M0:=Q02.below (Xe2 B1) (Ug _) (.bool false) (.int .i64 0) (.slice none 0 0);clear I4 Y3 N1 E1 Q4 O2 X2 L4 K3;generalize World.setCell _ _ _=W5 at k0 k1 k2 M0⊢;refine ⟨rfl,.tuple #[.agg #[.bool false,.int .i64 0,.slice none 0 0],.int .i64 5],by simp[results,go_sem,k0,k1,k2],Q5h.of (Q0k.none_ HF.out) (Q2m.nil_ _ _) M0⟩
  ·have hk13:¬(1300:Int)<(k:Int):=(by omega);have o8:0<T.size:=(by omega);have T8:t.headD 0=(T[0]'o8):=by
    have h:=Qbw (s:=T) (at_:=0) o8;rw[Xaw,(Xe1 HT)] at h;exact h
   have HHD:=Ua T8;clear T8
   by_cases hz:(T[0]'o8)=48/\(neg=true∨1<t.length)
   ·obtain ⟨Q3,J1⟩:=hz;have QC:(((T[0]'o8).toNat:Int)==48)=true:=(by rw[Q3];rfl);cases neg
    ·have h1l:1<t.length:=by rcases J1 with h|h;cases h;exact h
     have h1I:(1:Int)<(T.size:Int):=(by omega);have hF:form s.data.toList=none:=(by rw[KA.out,Us (.inr (.inr ⟨by rw[HHD.out];exact Q3,.inr h1l⟩))]);have HF:=Ua hF;clear hF Jw Qv Q3 J1
     go_enter Tryz.func230,Tryz.ntmps230
     go_wp2_with (first
      |(go_at_call_of 233 (Value.string s);refine ((Xo0 HC) _).mono ?_;rintro e w1 ⟨rfl,rfl⟩)
      |(go_at_call_of 234 (Value.string T);refine ((Xe1 HC) _).mono ?_;rintro e w2 ⟨⟨k',rfl,d7⟩,D0⟩;obtain rfl:k=k':=by { rw[<-HK.out,<-(Xe1 HT)];exact Q26 d7 };have U0:=(Xe1 HW).step D0 A3;have Y3:=U0.c0;have N1:=U0.c1;have E1:=U0.c2;have Q4:=U0.f0;have O2:=U0.f1;have X2:=U0.f2;have L4:=U0.d1 (.bool false);have K3:=U0.d2 (.bool false) (.int .i64 0);have B1:=Xh3 U0 D0 (Below.next0 (Xo0 HW) D0);clear U0 D0 d7))
     have I4:=(Xo0 B1).store (.bool false) (.int .i64 0) (.slice none 0 0);have k0:=I4.c0;have k1:=I4.c1;have k2:=I4.c2;have M0:=Q02.below (Xe2 B1) (Ug _) (.bool false) (.int .i64 0) (.slice none 0 0);clear I4 Y3 N1 E1 Q4 O2 X2 L4 K3;generalize World.setCell _ _ _=W5 at k0 k1 k2 M0⊢;refine ⟨rfl,.tuple #[.agg #[.bool false,.int .i64 0,.slice none 0 0],.int .i64 5],by simp[results,go_sem,k0,k1,k2],Q5h.of (Q0k.none_ HF.out) (Q2m.nil_ _ _) M0⟩
    ·skip;have hF:form s.data.toList=none:=(by rw[KA.out,Us (.inr (.inr ⟨by rw[HHD.out];exact Q3,.inl rfl⟩))]);have HF:=Ua hF;clear hF Jw Qv Q3 J1
     go_enter Tryz.func230,Tryz.ntmps230
     go_wp2_with (first
      |(go_at_call_of 233 (Value.string s);refine ((Xo0 HC) _).mono ?_;rintro e w1 ⟨rfl,rfl⟩)
      |(go_at_call_of 234 (Value.string T);refine ((Xe1 HC) _).mono ?_;rintro e w2 ⟨⟨k',rfl,d7⟩,D0⟩;obtain rfl:k=k':=by { rw[<-HK.out,<-(Xe1 HT)];exact Q26 d7 };have U0:=(Xe1 HW).step D0 A3;have Y3:=U0.c0;have N1:=U0.c1;have E1:=U0.c2;have Q4:=U0.f0;have O2:=U0.f1;have X2:=U0.f2;have L4:=U0.d1 (.bool false);have K3:=U0.d2 (.bool false) (.int .i64 0);have B1:=Xh3 U0 D0 (Below.next0 (Xo0 HW) D0);clear U0 D0 d7))
     have I4:=(Xo0 B1).store (.bool false) (.int .i64 0) (.slice none 0 0);have k0:=I4.c0;have k1:=I4.c1;have k2:=I4.c2;have M0:=Q02.below (Xe2 B1) (Ug _) (.bool false) (.int .i64 0) (.slice none 0 0);clear I4 Y3 N1 E1 Q4 O2 X2 L4 K3;generalize World.setCell _ _ _=W5 at k0 k1 k2 M0⊢;refine ⟨rfl,.tuple #[.agg #[.bool false,.int .i64 0,.slice none 0 0],.int .i64 5],by simp[results,go_sem,k0,k1,k2],Q5h.of (Q0k.none_ HF.out) (Q2m.nil_ _ _) M0⟩
   ·have d6:=KA.out;rw[Uq (by rintro (h|h|h);exact h1 h;exact h13 h;(rw[HHD.out] at h;exact hz h))] at d6;obtain ⟨u,hu⟩:∃u:ByteArray,T.extract 0 k=u:=⟨_,rfl⟩;obtain ⟨rest,r9⟩:∃r:ByteArray,T.extract k T.size=r:=⟨_,rfl⟩;have Kl:u.data.toList=t.take k:=(by rw[<-hu,Qm6,(Xe1 HT)]);have Ze:rest.data.toList=t.drop k:=(by rw[<-r9,Qm7,(Xe1 HT)]);have Wd:u.size=k:=by
     have:u.data.toList.length=u.size:=rfl;rw[<-this,Kl,Tn];omega
    have Kn:rest.size<=T.size:=by
     have:rest.data.toList.length=rest.size:=rfl;rw[<-this,Ze,Te];omega
    rw[<-Kl,<-Ze] at d6;have hau:Qdr u.data.toList:=(by rw[Kl];exact HTA.out);have KS:=fun W=>Qr6 rest W (by omega);have Kq:=fun W=>Qr4 u W (by omega) hau;have Jt:(dig (2^64) (dv u.data.toList)).length<=1300:=by
     have h:=Q2h (B:=2^64) (by decide) (Ue (Qf0 u.data.toList hau) (Xbb (by decide) u.data.toList.length));have:u.data.toList.length=u.size:=rfl;omega
    have HP:=Xh4 KS Kq d6 Jt;have HZ:=Ua hz;clear KS Kq d6 Jt hau Kl Ze Kn Wd hz KA;have KG:=(Xo2 HP);have hkT:(k:Int)<=(T.size:Int):=(by omega);cases X5:Q9u rest.data.toList with
    |none=>
     have KS:∀W,Calls Tryz.prog 235 #[.string rest] W fun e w'=>∃x:Int,e=.returned (.tuple #[.int .i64 x,.bool false])/\Bw W w':=fun W=>((Xo0 HP) W).mono (by
      rintro e w' ⟨⟨x,ok,rfl,⟨_,h,_⟩|⟨rfl,_⟩⟩,hb⟩
      ·rw[X5] at h;cases h
      ·exact ⟨x,rfl,hb⟩)
     rw[X5] at KG;have HPW:=Ua KS;have HF:=Ua (show form s.data.toList=none from KG);clear KS KG X5
     by_cases Q3:(T[0]'o8)=48
     ·have QC:(((T[0]'o8).toNat:Int)==48)=true:=(by rw[Q3];rfl);obtain rfl:neg=false:=by
       cases neg
       ·rfl
       ·exact absurd ⟨Q3,.inl rfl⟩ HZ.out
      have h1I:¬(1:Int)<(T.size:Int):=fun h=>HZ.out ⟨Q3,.inr (by omega)⟩;clear Q3 Jw Qv
      go_enter Tryz.func230,Tryz.ntmps230
      go_wp2_with (first
       |(go_at_call_of 233 (Value.string s);refine ((Xo0 HC) _).mono ?_;rintro e w1 ⟨rfl,rfl⟩)
       |(go_at_call_of 234 (Value.string T);refine ((Xe1 HC) _).mono ?_;rintro e w2 ⟨⟨k',rfl,d7⟩,D0⟩;obtain rfl:k=k':=by { rw[<-HK.out,<-(Xe1 HT)];exact Q26 d7 };have B1:=Ua D0;clear D0 d7)
       |(refine (HPW.out _).mono ?_;rintro e w3 ⟨x,rfl,G0⟩;have C2:=Below.next0 B1.out G0;have U0:=(Xe1 HW).step C2 A3;have Y3:=U0.c0;have N1:=U0.c1;have E1:=U0.c2;have Q4:=U0.f0;have O2:=U0.f1;have X2:=U0.f2;have L4:=U0.d1 (.bool false);have K3:=U0.d2 (.bool false) (.int .i64 0);have D2:=Xh2 U0 (Below.next0 (Xo0 HW) C2);clear U0 G0 C2))
      have I4:=(Xo0 D2).store (.bool false) (.int .i64 0) (.slice none 0 0);have k0:=I4.c0;have k1:=I4.c1;have k2:=I4.c2;have M0:=Q02.below (Xe1 D2) (Ug _) (.bool false) (.int .i64 0) (.slice none 0 0);clear I4 Y3 N1 E1 Q4 O2 X2 L4 K3;generalize World.setCell _ _ _=W5 at k0 k1 k2 M0⊢;refine ⟨rfl,.tuple #[.agg #[.bool false,.int .i64 0,.slice none 0 0],.int .i64 5],by simp[results,go_sem,k0,k1,k2],Q5h.of (Q0k.none_ HF.out) (Q2m.nil_ _ _) M0⟩
     ·have QC:(((T[0]'o8).toNat:Int)==48)=false:=(by rw[Ui];intro e;exact Q3 (TM.1 (show (T[0]'o8).toNat=48 by omega)));clear Q3 Jw Qv
      go_enter Tryz.func230,Tryz.ntmps230
      go_wp2_with (first
       |(go_at_call_of 233 (Value.string s);refine ((Xo0 HC) _).mono ?_;rintro e w1 ⟨rfl,rfl⟩)
       |(go_at_call_of 234 (Value.string T);refine ((Xe1 HC) _).mono ?_;rintro e w2 ⟨⟨k',rfl,d7⟩,D0⟩;obtain rfl:k=k':=by { rw[<-HK.out,<-(Xe1 HT)];exact Q26 d7 };have B1:=Ua D0;clear D0 d7)
       |(refine (HPW.out _).mono ?_;rintro e w3 ⟨x,rfl,G0⟩;have C2:=Below.next0 B1.out G0;have U0:=(Xe1 HW).step C2 A3;have Y3:=U0.c0;have N1:=U0.c1;have E1:=U0.c2;have Q4:=U0.f0;have O2:=U0.f1;have X2:=U0.f2;have L4:=U0.d1 (.bool false);have K3:=U0.d2 (.bool false) (.int .i64 0);have D2:=Xh2 U0 (Below.next0 (Xo0 HW) C2);clear U0 G0 C2))
      have I4:=(Xo0 D2).store (.bool false) (.int .i64 0) (.slice none 0 0);have k0:=I4.c0;have k1:=I4.c1;have k2:=I4.c2;have M0:=Q02.below (Xe1 D2) (Ug _) (.bool false) (.int .i64 0) (.slice none 0 0);clear I4 Y3 N1 E1 Q4 O2 X2 L4 K3;generalize World.setCell _ _ _=W5 at k0 k1 k2 M0⊢;refine ⟨rfl,.tuple #[.agg #[.bool false,.int .i64 0,.slice none 0 0],.int .i64 5],by simp[results,go_sem,k0,k1,k2],Q5h.of (Q0k.none_ HF.out) (Q2m.nil_ _ _) M0⟩
    |some ex=>
     have hexb: -1000000<=ex/\ex<=1000000:=by
      have h:=Qno rest.data.toList ex X5;exact h
     obtain ⟨hex1,hex2⟩:=hexb;have KS:∀W,Calls Tryz.prog 235 #[.string rest] W fun e w'=>e=.returned (.tuple #[.int .i64 ex,.bool true])/\Bw W w':=fun W=>((Xo0 HP) W).mono (by
      rintro e w' ⟨⟨x,ok,rfl,⟨rfl,h,_⟩|⟨_,h⟩⟩,hb⟩
      ·rw[X5] at h;injection h with h;subst h;exact ⟨rfl,hb⟩
      ·rw[X5] at h;cases h)
     rw[X5] at KG;have HPW:=Ua KS;have HF:=Ua (show form s.data.toList=some (neg,dv u.data.toList,ex) from KG);clear KS KG X5
     by_cases Q3:(T[0]'o8)=48
     ·have QC:(((T[0]'o8).toNat:Int)==48)=true:=(by rw[Q3];rfl);obtain rfl:neg=false:=by
       cases neg
       ·rfl
       ·exact absurd ⟨Q3,.inl rfl⟩ HZ.out
      have h1I:¬(1:Int)<(T.size:Int):=fun h=>HZ.out ⟨Q3,.inr (by omega)⟩;clear Q3 Jw Qv
      go_enter Tryz.func230,Tryz.ntmps230
      go_wp2_with (first
       |(go_at_call_of 233 (Value.string s);refine ((Xo0 HC) _).mono ?_;rintro e w1 ⟨rfl,rfl⟩)
       |(go_at_call_of 234 (Value.string T);refine ((Xe1 HC) _).mono ?_;rintro e w2 ⟨⟨k',rfl,d7⟩,D0⟩;obtain rfl:k=k':=by { rw[<-HK.out,<-(Xe1 HT)];exact Q26 d7 };have B1:=Ua D0;clear D0 d7)
       |(go_at_call_of 235 (Value.string rest);refine (HPW.out _).mono ?_;rintro e w3 ⟨rfl,G0⟩;have D2:=Ua (Below.next0 B1.out G0);clear G0)
       |(go_at_call_of 236 (Value.string u);refine ((Xo1 HP) _).mono ?_;rintro e w4 ⟨a4,n4,c4,rfl,q6,F1⟩;have N3:=Xh2 q6 (Below.next0 D2.out F1);clear q6 F1)
       |(refine (Q57 false a4 n4 c4 _ ex w4 (Xo0 N3) (HTI.out.step (Below.next0 (Xo0 HW) (Xe1 N3))) (by rw[<-(Xo0 N3).len];exact Ur (Xe3 HP) (by decide)) (by omega) (by omega)).mono ?_;rintro e w5 ⟨neg5,e5,a5,n5,c5,L,er,rfl,E7,U6,M0⟩;rw[Q0x (by decide)] at E7;have C2:=Below.next0 (Xe1 N3) M0;have U0:=(Xe1 HW).step C2 A3;have Y3:=U0.c0;have N1:=U0.c1;have E1:=U0.c2;have Q4:=U0.f0;have O2:=U0.f1;have X2:=U0.f2;have L4:=U0.d1 (.bool neg5);have K3:=U0.d2 (.bool neg5) (.int .i64 e5);have M4:=Xh4 U0 (Below.next0 (Xo0 HW) C2) U6 E7;clear U0 M0 C2 U6 E7))
      have I4:=(Xo0 M4).store (.bool neg5) (.int .i64 e5) (.slice a5 n5 c5);have k0:=I4.c0;have k1:=I4.c1;have k2:=I4.c2;have U2:=Q02.below (Xo1 M4) (Ug _) (.bool neg5) (.int .i64 e5) (.slice a5 n5 c5);have C6:=(Xo2 M4);have WK:WordsIn _ a5 n5 c5 L:=⟨C6.len,C6.cap,C6.most,C6.low,(C6.rd.store3 (Xo0 M4) (fun _=>by simp[nv]) (fun _=>by simp[nv]) (fun _=>by simp[nv]) (.bool neg5) (.int .i64 e5) (.slice a5 n5 c5)).more (Q18 _ _ _ _ _)⟩;clear I4 Y3 N1 E1 Q4 O2 X2 L4 K3 C6;generalize World.setCell _ _ _=W5 at k0 k1 k2 U2 WK⊢;refine ⟨rfl,.tuple #[.agg #[.bool neg5,.int .i64 e5,.slice a5 n5 c5],.int .i64 er],by simp[results,go_sem,k0,k1,k2],Q5h.of (Q0k.some_ HF.out (Xe3 M4)) (((Xo2 M4).lower (Below.next0 (Xo0 HW) (Xe1 N3)).size).on WK) U2⟩
     ·have QC:(((T[0]'o8).toNat:Int)==48)=false:=(by rw[Ui];intro e;exact Q3 (TM.1 (show (T[0]'o8).toNat=48 by omega)));clear Q3 Jw Qv
      go_enter Tryz.func230,Tryz.ntmps230
      go_wp2_with (first
       |(go_at_call_of 233 (Value.string s);refine ((Xo0 HC) _).mono ?_;rintro e w1 ⟨rfl,rfl⟩)
       |(go_at_call_of 234 (Value.string T);refine ((Xe1 HC) _).mono ?_;rintro e w2 ⟨⟨k',rfl,d7⟩,D0⟩;obtain rfl:k=k':=by { rw[<-HK.out,<-(Xe1 HT)];exact Q26 d7 };have B1:=Ua D0;clear D0 d7)
       |(go_at_call_of 235 (Value.string rest);refine (HPW.out _).mono ?_;rintro e w3 ⟨rfl,G0⟩;have D2:=Ua (Below.next0 B1.out G0);clear G0)
       |(go_at_call_of 236 (Value.string u);refine ((Xo1 HP) _).mono ?_;rintro e w4 ⟨a4,n4,c4,rfl,q6,F1⟩;have N3:=Xh2 q6 (Below.next0 D2.out F1);clear q6 F1)
       |(refine (Q57 neg a4 n4 c4 _ ex w4 (Xo0 N3) (HTI.out.step (Below.next0 (Xo0 HW) (Xe1 N3))) (by rw[<-(Xo0 N3).len];exact Ur (Xe3 HP) (by decide)) (by omega) (by omega)).mono ?_;rintro e w5 ⟨neg5,e5,a5,n5,c5,L,er,rfl,E7,U6,M0⟩;rw[Q0x (by decide)] at E7;have C2:=Below.next0 (Xe1 N3) M0;have U0:=(Xe1 HW).step C2 A3;have Y3:=U0.c0;have N1:=U0.c1;have E1:=U0.c2;have Q4:=U0.f0;have O2:=U0.f1;have X2:=U0.f2;have L4:=U0.d1 (.bool neg5);have K3:=U0.d2 (.bool neg5) (.int .i64 e5);have M4:=Xh4 U0 (Below.next0 (Xo0 HW) C2) U6 E7;clear U0 M0 C2 U6 E7))
      have I4:=(Xo0 M4).store (.bool neg5) (.int .i64 e5) (.slice a5 n5 c5);have k0:=I4.c0;have k1:=I4.c1;have k2:=I4.c2;have U2:=Q02.below (Xo1 M4) (Ug _) (.bool neg5) (.int .i64 e5) (.slice a5 n5 c5);have C6:=(Xo2 M4);have WK:WordsIn _ a5 n5 c5 L:=⟨C6.len,C6.cap,C6.most,C6.low,(C6.rd.store3 (Xo0 M4) (fun _=>by simp[nv]) (fun _=>by simp[nv]) (fun _=>by simp[nv]) (.bool neg5) (.int .i64 e5) (.slice a5 n5 c5)).more (Q18 _ _ _ _ _)⟩;clear I4 Y3 N1 E1 Q4 O2 X2 L4 K3 C6;generalize World.setCell _ _ _=W5 at k0 k1 k2 U2 WK⊢;refine ⟨rfl,.tuple #[.agg #[.bool neg5,.int .i64 e5,.slice a5 n5 c5],.int .i64 er],by simp[results,go_sem,k0,k1,k2],Q5h.of (Q0k.some_ HF.out (Xe3 M4)) (((Xo2 M4).lower (Below.next0 (Xo0 HW) (Xe1 N3)).size).on WK) U2⟩
theorem Qm9 (L:LU) (k:Nat) {c:UInt8} (hc:c≠0):Lib.hasPrefix (L.drop k) [c]=decide (Q06 L k=c):=by
 rw[(Qff (L.drop k) c).1]
 by_cases hk:k<L.length
 ·rw[UC hk];simp only;rw[Q6h hk]
 ·rw[UZ (by omega)];simp only;symm;rw[Xak];intro h;exact hk (Q0e h hc)
theorem Q2m.off {w0 w:World} {a:OA} {n c:Nat} {L:LN} (h:Q2m w0 w a n c L):Qwe (·<w0.heap.size) a L:=h.new.imp id fun h2 x hx=>Nat.not_lt_of_le (h2 x hx)
theorem Qat (w:World) (k:Nat):Bw w (w.drewN k):=⟨rfl,rfl,rfl,Ug _,fun _ _=>rfl⟩
def Qr9 (S:LU) (w:World) (s4 s5:Value) (wx:World):Prop:=∃v n' e' a' l' c' Lw er,s4=.pointer (some ⟨v,0,none⟩)/\s5=.int .i64 er/\Q0k S n' e' Lw er/\Q02 wx v (.bool n') (.int .i64 e') (.slice a' l' c')/\Q2m w wx a' l' c' Lw/\Bw w wx/\w.heap.size<=v/\v<wx.heap.size
theorem Qys {S:LU} {w w3:World} {n':Bool} {e' er:Int} {a':OA} {l' c':Nat} {Lw:LN} {T:TypeId} (h1:Q0k S n' e' Lw er) (h2:Q2m w w3 a' l' c' Lw) (h3:Bw w w3):
 Qr9 S w (.pointer (some ⟨w3.heap.size,0,none⟩)) (.int .i64 er) (w3.alloc (.cells #[.bool n',.int .i64 e',.slice a' l' c'] T)):=
 ⟨_,n',e',a',l',c',Lw,er,rfl,rfl,h1,Q02.new w3 _ _ _ _,h2.on (h2.toWordsIn.step (Ba)),h3.alloc h3.size _,h3.size,Q0r _ _⟩
theorem Qyt {S:LU} {w w3:World} {n':Bool} {e' er:Int} {a':OA} {l' c':Nat} {Lw:LN} (h1:Q0k S n' e' Lw er) (h2:Q2m w w3 a' l' c' Lw) (h3:Bw w w3) (h4:Q02 w3 w.heap.size (.bool false) (.int .i64 0) (.slice none 0 0)):
 Qr9 S w (.pointer (some ⟨w.heap.size,0,none⟩)) (.int .i64 er) (((w3.setCell ⟨w.heap.size,0,none⟩ (.bool n')).setCell ⟨w.heap.size,1,none⟩ (.int .i64 e')).setCell ⟨w.heap.size,2,none⟩ (.slice a' l' c')):=
 ⟨_,n',e',a',l',c',Lw,er,rfl,rfl,h1,h4.store _ _ _,h2.on (h2.toWordsIn.set3 h4 _ _ _),Q02.below h3 (Ug _) _ _ _,Ug _,by simp only[UV];exact US h4.c0⟩
theorem Qnp {w:World} {R:Nat} {s:ByteArray} {p:Nat} {m d:Int} (h:Q0q w R s (p:Int) m d false) (hp:p<=s.size) (hs:s.size<=281474976710656) (hT:∀W,Q0f (OnR R) w W->Q2n W):
 Calls Tryz.prog 220 #[.pointer (some ⟨R,0,none⟩)] w (Q6p R s m d (Qg0 s.data.toList p) w):=by
 obtain ⟨L,hL⟩:∃L,s.data.toList=L:=⟨_,rfl⟩;have QK:L.length=s.size:=by rw[<-hL];rfl
 obtain ⟨K,hK⟩:∃K,Q13 L p=K:=⟨_,rfl⟩;have hKp:p<=K/\K<=s.size:=by rw[<-hK,<-QK];exact Q8f (by omega)
 obtain ⟨N,hN⟩:∃N,Q8g L p=N:=⟨_,rfl⟩;have hNK:K<=N/\N<=s.size:=by rw[<-hK,<-hN,<-QK];exact Qqk (by omega)
 obtain ⟨u1,hu1⟩:∃u:ByteArray,s.extract K s.size=u:=⟨_,rfl⟩;obtain ⟨u2,hu2⟩:∃u:ByteArray,s.extract (K+1) s.size=u:=⟨_,rfl⟩;obtain ⟨u3,hu3⟩:∃u:ByteArray,s.extract p N=u:=⟨_,rfl⟩;have hu3l:u3.data.toList=(L.drop p).take (N-p):=by
  rw[<-hu3,<-hL];simp only[ByteArray.data_extract,Array.toList_extract,List.extract_eq_take_drop]
 have hu3s:u3.size<=281474976710656:=by rw[<-hu3,ByteArray.size_extract];omega
 obtain ⟨b1,C0⟩:∃b,decide (Q06 L K=112)=b:=⟨_,rfl⟩;obtain ⟨b2,D0⟩:∃b,decide (Q06 L (K+1)=45)=b:=⟨_,rfl⟩;have QG:∀W,Calls Tryz.prog 183 #[.string u1,.string ⟨#[112]⟩] W fun e w'=>e=.returned (.bool b1)/\W=w':=fun W=>(Tryz.J0s u1 ⟨#[112]⟩ W).mono (by
  rintro e w' ⟨rfl,rfl⟩;refine ⟨?_,rfl⟩;rw[<-hu1,Lib.extract_to_end,hL,<-C0];exact congrArg _ (congrArg _ (Qm9 L K (by decide))))
 have Jl:∀W,Calls Tryz.prog 183 #[.string u2,.string ⟨#[45]⟩] W fun e w'=>e=.returned (.bool b2)/\W=w':=fun W=>(Tryz.J0s u2 ⟨#[45]⟩ W).mono (by
  rintro e w' ⟨rfl,rfl⟩;refine ⟨?_,rfl⟩;rw[<-hu2,Lib.extract_to_end,hL,<-D0];exact congrArg _ (congrArg _ (Qm9 L (K+1) (by decide))))
 have K2:=Qe7 h p hp hs;rw[hL,hK] at K2;have M2:=fun (a:Nat) (ha:a<=s.size)=>Qe7 h a ha hs;simp only[hL] at M2;have U0:N=if b1=true then (if b2=true then Q13 L (K+2) else Q13 L (K+1)) else K:=by
  rw[<-hN,<-C0,<-D0];unfold Q8g;rw[hK];simp only[Xas]
 have hb1s:b1=true->K+1<=s.size:=fun e=>by
  rw[<-C0,Xas] at e;have:=Q0e e (by decide);omega
 have hb2s:b2=true->K+2<=s.size:=fun e=>by
  rw[<-D0,Xas] at e;have:=Q0e e (by decide);omega
 obtain ⟨c0,c1,_,_,_,_,f1,_,_,_,B0,_⟩:=id h;have QZ:=fun W (hb:Bw w W)=>Qr8 u3 W hu3s (hT W (Q0f.of_below hb _));rw[hu3l] at QZ;have H:=Xh5 h hp hs B0 QZ;have HP:=Xh7 QG Jl K2 M2 U0 hb1s hb2s;have HL:=Xh5 hL QK hN hu3l hu3s;have hK48:K<=281474976710656:=by omega
 have hwr1:IntKind.i64.wrap ((K:Int)+1)=(K:Int)+1:=by rw[Ut];omega
 have YA:IntKind.i64.wrap ((K:Int)+1+1)=(K:Int)+1+1:=by rw[Ut];omega
 have hKn:((K:Int)).toNat=K:=by omega
 have hKn1:((K:Int)+1).toNat=K+1:=by omega
 have hpn:((p:Int)).toNat=p:=by omega
 have hNn:((N:Int)).toNat=N:=by omega
 have hK0:(0:Int)<=(K:Int):=by omega
 have hK2:(K:Int)<=(s.size:Int):=by omega
 have hpN:(p:Int)<=(N:Int):=by omega
 have hNs:(N:Int)<=(s.size:Int):=by omega
 have HK:=Xh2 hKp hNK;clear h hp hs hT hL QK hK hN hu3l hu3s C0 D0 QG Jl K2 M2 U0 hb1s hb2s B0 QZ hKp hNK hK48
 go_enter Tryz.func220,Tryz.ntmps220
 go_upto_if 18 with (first
  |(go_at_call_of 229 (Value.int IntKind.i64 (p:Int));refine (Xo2 HP).mono ?_;rintro r w1 ⟨rfl,rfl⟩)
  |(go_at_call_of 183 (Value.string u1);refine ((Xo0 HP) _).mono ?_;rintro r w1 ⟨rfl,rfl⟩))
 go_cut [3] (fun v wx=>v=.int .i64 (N:Int)/\w=wx)
 case first=>
  cases b1
  ·have HN:=Ua (show K=N from ((Xo4 HP)).symm)
   go_wp2_with (fail)
   go_meet;exact ⟨by rw[HN.out],rfl⟩
  ·have U0:=(Xo4 HP);cases b2
   ·have HN:=Ua (show Q13 L (K+1)=N from U0.symm);have hd:=(Xo3 HP) (K+1) ((Xo5 HP) rfl);rw[show ((K+1:Nat):Int)=(K:Int)+1 by omega] at hd;have HD:=Ua hd;clear hd;have hKle:(K:Int)+1<=(s.size:Int):=(by have:=(Xo5 HP) rfl;omega);clear U0
    go_wp2_with (first
     |(go_at_call_of 183 (Value.string u2);refine ((Xo1 HP) _).mono ?_;rintro r w1 ⟨rfl,rfl⟩)
     |(go_at_call_of 229 (Value.pointer (some ⟨R,0,none⟩));refine HD.out.mono ?_;rintro r w1 ⟨rfl,rfl⟩))
    go_meet;exact ⟨by rw[HN.out],rfl⟩
   ·have HN:=Ua (show Q13 L (K+2)=N from U0.symm);have hd:=(Xo3 HP) (K+2) ((Xe6 HP) rfl);rw[show ((K+2:Nat):Int)=(K:Int)+1+1 by omega] at hd;have HD:=Ua hd;clear hd;have hKle:(K:Int)+1<=(s.size:Int):=(by have:=(Xo5 HP) rfl;omega);clear U0
    go_wp2_with (first
     |(go_at_call_of 183 (Value.string u2);refine ((Xo1 HP) _).mono ?_;rintro r w1 ⟨rfl,rfl⟩)
     |(go_at_call_of 229 (Value.pointer (some ⟨R,0,none⟩));refine HD.out.mono ?_;rintro r w1 ⟨rfl,rfl⟩))
    go_meet;exact ⟨by rw[HN.out],rfl⟩
 case rest=>
  obtain ⟨rfl,rfl⟩:=hcut
  go_upto_region 7 with fail
  go_cut [4,5] (fun s4 s5 wx=>Qr9 ((L.drop p).take (N-p)) w s4 s5 wx)
  case first=>
   have d0:w.drew.cell? ⟨R,0,none⟩=some (.string s):=c0;have d1:w.drew.cell? ⟨R,1,none⟩=some (.int .i64 (p:Int)):=c1;have V5:=(Uf w.heap.size w).alloc (Ug _) (.cells #[.bool false,.int .i64 0,.slice none 0 0] 41);have hRa:=(Xo0 H).step V5;have a0:=hRa.c0;have a1:=hRa.c1;have hRb:=hRa.drew;have b0:=hRb.c0;have b1':=hRb.c1;have hRc:=(Xo0 H).drew.step ((Uf w.drew.heap.size w.drew).alloc (Ug _) (.cells #[.bool false,.int .i64 0,.slice none 0 0] 41));have g0:=hRc.c0;have g1:=hRc.c1;clear V5 hRa hRb hRc
   go_region_law (
    refine Q2y (by rfl) 230 #[.string u3] (by simp[go_sem]) ?_;refine ((Xe4 H) _ ?_).mono ?_
    (first|exact Q05 w|exact Below.next0 ((Uf w.heap.size w).alloc (Ug _) _) (Q05 _)|exact (Uf w.heap.size w).alloc (Ug _) _|exact Below.next0 (Q05 w) (Ba))
    rintro r w3 ⟨n',e',a',l',c',Lw,er,rfl,JK,J8,G0⟩;refine ⟨_,rfl,?_⟩;have E3:Bw w w3:=by
     first
      |exact Below.next0 (Q05 w) G0
      |exact Below.next0 ((Uf w.heap.size w).alloc (Ug _) _) G0
      |exact Below.next0 (Below.next0 ((Uf w.heap.size w).alloc (Ug _) _) (Q05 _)) G0
      |exact Below.next0 (Below.next0 (Q05 w) (Ba)) G0
    (first
      |(have hM:=((Q02.new w (.bool false) (.int .i64 0) (.slice none 0 0) 41).step (Q05 _) (Q0r _ _)).step G0 (by show _<(World.alloc _ _).heap.size;exact Q0r _ _)
        have hS:=hM.store (.bool n') (.int .i64 e') (.slice a' l' c');have o0:=hM.c0;have o1:=hM.c1;have o2:=hM.c2;have u0:=hM.f0;have u1:=hM.f1;have u2:=hM.f2;have HS:=Xh2 hM hS;clear hM hS)
      |skip)
    have d8:Q2m w w3 a' l' c' Lw:=by
     first
      |exact Q2m.lower (w0:=w) J8 (Ug _)
      |exact Q2m.lower (w0:=w) J8 (TI (Q0r w _))
    have HZ:=Xh3 JK d8 E3;clear JK J8 G0 E3 d8)
   all_goals go_wp2_with fail
   all_goals go_meet
   all_goals first
    |exact Qys (Xo0 HZ) (Xo1 HZ) (Xe2 HZ)
    |exact Qyt (Xo0 HZ) (Xo1 HZ) (Xe2 HZ) (Xo0 HS)
  case rest=>
   obtain ⟨v,n',e',a',l',c',Lw,er,rfl,rfl,JK,C2,J8,N0,C7,QW⟩:=hcut;have hr:=(Xo0 H).step N0;have hvR:v≠R:=(by have:=(Xo3 H);omega);unfold Q0k at JK;cases hF:form ((L.drop p).take (N-p)) with
   |none=>
    rw[hF] at JK;obtain ⟨rfl,rfl,rfl,rfl⟩:=JK;have Y0:Qg0 L p=.error p:=(by unfold Qg0;rw[(Xo2 HL),hF]);have hwg:=Q5g hr (p:Int);simp only[Tl,Xaq] at hwg;have k1:=hr.c1;have HR:=Xh3 hwg N0 Y0;clear hr C2 J8 N0 hwg Y0 hF c0 c1 f1
    go_wp2_with (refine (Xo0 HR).mono ?_;rintro r w4 ⟨rfl,JT,Zb⟩;have HB:=Xh2 JT Zb;clear JT Zb)
    go_ret;rw[(Xo0 HL),(Xe2 HR)];exact ⟨_,_,rfl,(Q0f.of_below (Xo1 HR) _).trans0 (Xe1 HB),(Xo0 HB),(Xo1 H)⟩
   |some z=>
    obtain ⟨neg,v0,e0⟩:=z;rw[hF] at JK;have d6:=Q7u JK;have Y0:Qg0 L p=.ok (.num (if Q69 (dy (sgn neg v0) e0)=true then some (dy (sgn neg v0) e0) else none),N):=(by unfold Qg0;rw[(Xo2 HL),hF]);have k1:=hr.c1;have g1:=hr.f1;have Xo:=C2.far (p:=⟨R,1,none⟩) (fun e=>hvR e.symm) (.int .i64 (N:Int));have o0:=Xo.c0;have o1:=Xo.c1;have o2:=Xo.c2;have WH:((er:Int)==5)=false:=by
     rw[Ui];rcases d6 with ⟨_,h,_⟩|⟨_,h,_⟩ <;> omega
    have HR:=Xh5 hr N0 Y0 d6 J8;clear hr C2 J8 N0 Y0 d6 JK hF c0 c1 f1 Xo
    go_wp2_with fail
    go_ret;rw[(Xo0 HL),(Xo2 HR)];refine ⟨_,_,rfl,(Q0f.of_below (Xo1 HR) _).trans0 (Q0g _ _ _ _),?_,(Xo0 HR).setAt (N:Int),(Xe2 HK)⟩;rcases (Xo3 HR) with ⟨h1,rfl,h3,h4⟩|⟨h1,rfl,_⟩
    ·rw[Us ((Q2a _).2 h1),Q2v];exact ⟨n',e',a',l',c',Lw,rfl,(Xe4 HR).toWordsIn.set1 (Xo0 HR).c1 (fun _=>by simp[nv]) _,(Xe4 HR).off,h3,h4⟩
    ·rw[Uq (fun h=>h1 ((Q2a _).1 h)),Q2v];exact ⟨_,_,_,_,_,rfl⟩
def Q4f (bad:Bool) (p:Nat) (r:PR Ex):PR Ex:=if bad=true then .error p else r
theorem Q6p.lift {R:Nat} {s:ByteArray} {m d:Int} {res:PR Ex} {w0 w:World} {e:Ending} {w':World} (ht:Q0f (OnR R) w0 w) (h:Q6p R s m d res w e w'):Q6p R s m d res w0 e w':=by
 obtain ⟨t,u,rfl,h1,h2⟩:=h;refine ⟨t,u,rfl,ht.trans0 h1,?_⟩;cases res with
 |error q=>exact h2
 |ok z=>exact ⟨h2.1.more fun k hk=>.inl (Ue hk ht.size),h2.2⟩
theorem Q6p.okd {R:Nat} {s:ByteArray} {m d:Int} {w0 w':World} {x:Ex} {q:Nat} {t:TypeId} {u:Value} (ht:Q0f (OnR R) w0 w') (hx:Q2v (·<w0.heap.size) w' x (.iface t u)) (hr:Q0q w' R s (q:Int) m d false) (hq:q<=s.size):Q6p R s m d (.ok (x,q)) w0 (.returned (.iface t u)) w':=⟨t,u,rfl,ht,hx,hr,hq⟩
theorem Q6p.err {R:Nat} {s:ByteArray} {m d:Int} {w0 w':World} {q:Nat} {t:TypeId} {u:Value} (ht:Q0f (OnR R) w0 w') (hr:Q0q w' R s (q:Int) m d true) (hq:q<=s.size):Q6p R s m d (.error q) w0 (.returned (.iface t u)) w':=⟨t,u,rfl,ht,hr,hq⟩
theorem Qcf {c:UInt8} {k:Nat} (hk:k<256) (h:c≠UInt8.ofNat k):((c.toNat:Int)==(k:Int))=false:=by
 rw[Ui];intro e;exact h (TM.1 (by rw[Xbh];omega))
theorem Qra {L:LU} {p:Nat} {c:UInt8}:Q1h L [c] p=if Q06 L p=c then .ok (p+1) else .error p:=by
 rw[Q1h]
 split
 ·rw[Q1h]
 ·rfl
def Qvj (L:LU) (r:PR Ex):PR Ex:=match r with
 | .error e=>.error e
 | .ok (x,q)=>if Q06 L (Q03 L q)=41 then .ok (x,Q03 L q+1) else .error (Q03 L q)
theorem Qty {w:World} {R:Nat} {s:ByteArray} {p most:Nat} {d:Int} {bad:Bool} (sub:Nat->PR Ex) (h:Q0q w R s (p:Int) (most:Int) d bad) (hp:p<=s.size) (hs:s.size<=281474976710656) (V8:0<=d) (hd:d<=16) (hT:∀W,Q0f (OnR R) w W->Q2n W)
 (O5:d<16->∀(W:World) (q:Nat),Q0q W R s (q:Int) (most:Int) (d+1) false->q<=s.size->(∀W',Q0f (OnR R) W W'->Q2n W')->Calls Tryz.prog 80 #[.pointer (some ⟨R,0,none⟩)] W (Q6p R s (most:Int) (d+1) (sub q) W)):
 Calls Tryz.prog 191 #[.pointer (some ⟨R,0,none⟩)] w (Q6p R s (most:Int) d (Q4f bad p (Q4n sub (decide (d<16)) s.data.toList most p)) w):=by
 obtain ⟨L,hL⟩:∃L,s.data.toList=L:=⟨_,rfl⟩;have QK:L.length=s.size:=by rw[<-hL];rfl
 have R2:=Q3g h hp hs;rw[hL] at R2⊢;obtain ⟨q,hq⟩:∃q,skS L p bad=q:=⟨_,rfl⟩;obtain ⟨c,hc⟩:∃c,nxB L q bad=c:=⟨_,rfl⟩;have V4:q<=s.size:=by
  rw[<-hq];unfold skS
  split
  ·exact hp
  ·rw[<-QK];exact Q1s (by omega)
 rw[hq,hc] at R2;have K4:IntKind.i64.wrap ((q:Int)+1)=(q:Int)+1:=by rw[Ut];omega
 have H:=Xh6 hL QK V4 hs R2 hT;have HB:=Ua O5;have HD:=Xh2 V8 hd;have HC:=Ua hc;have HQ:=Ua hq;clear h hp hs hL QK V4 R2 hT O5 hc hq V8 hd;cases bad with
 |true=>
  obtain rfl:q=p:=by have:=HQ.out;simp only[skS,Xa5] at this;exact this.symm
  obtain rfl:c=0:=by have:=HC.out;simp only[nxB,Xa5] at this;exact this.symm
  have Y0:Q4f true q (Q4n sub (decide (d<16)) L most q)=.error q:=rfl;rw[Y0];clear Y0;have n48:¬(48:Int)<=(((0:UInt8).toNat:Nat):Int):=by decide
  have n120:((((0:UInt8).toNat:Nat):Int)==120)=false:=by decide
  have n40:((((0:UInt8).toNat:Nat):Int)==40)=false:=by decide
  go_enter Tryz.func191,Tryz.ntmps191
  go_wp2_with (first
   |(go_at_call_of 81 (Value.pointer (some ⟨R,0,none⟩));refine (Xo4 H).mono ?_;rintro r w1 ⟨rfl,A1,Y1⟩;have k1:=A1.c1;have H1:=Xh2 A1 Y1;clear A1 Y1)
   |(go_at_call_of 132 (Value.pointer (some ⟨R,0,none⟩));refine (Q5g (Xo0 H1) _).mono ?_;rintro r w2 ⟨rfl,G1,U1⟩;have H2:=Xh2 G1 U1;clear G1 U1))
  go_ret;exact Q6p.err ((Xe1 H1).trans0 (Xe1 H2)) (by have h:=(Xo0 H2);simpa using h) (Xo2 H)
 |false=>
  have O8:Q03 L p=q:=by have:=HQ.out;simpa[skS] using this
  have Y2:Q06 L q=c:=by have:=HC.out;simpa[nxB] using this
  have Y0:Q4f false p (Q4n sub (decide (d<16)) L most p)=Q4n sub (decide (d<16)) L most p:=rfl;rw[Y0];clear Y0;obtain ⟨X,hX⟩:∃X,Q4n sub (decide (d<16)) L most p=X:=⟨_,rfl⟩;rw[hX];have Xj:X=(if 48<=c.toNat/\c.toNat<=57 then Qg0 L q
   else if c=120 then
    (if 49<=(Q06 L (q+1)).toNat/\(Q06 L (q+1)).toNat<=48+most then .ok (.var ((Q06 L (q+1)).toNat-49),q+2) else .error (q+1))
   else if c=40/\decide (d<16)=true then
    Qvj L (sub (q+1))
   else .error q):=by
   rw[<-hX];unfold Q4n;rw[O8,Y2];rfl
  have HR:=Xh3 Xj O8 Y2;clear Xj O8 Y2 hX
  by_cases x4:48<=c.toNat/\c.toNat<=57
  ·have n1:(48:Int)<=(c.toNat:Int):=(by omega);have n2:(c.toNat:Int)<=57:=(by omega);have Y0:X=Qg0 L q:=(by rw[(Xo0 HR),Us x4]);have HE:=Ua Y0;clear Y0 x4
   go_enter Tryz.func191,Tryz.ntmps191
   go_wp2_with (first
    |(go_at_call_of 81 (Value.pointer (some ⟨R,0,none⟩));refine (Xo4 H).mono ?_;rintro r w1 ⟨rfl,A1,Y1⟩;have H1:=Xh2 A1 Y1;clear A1 Y1)
    |(go_at_call_of 220 (Value.pointer (some ⟨R,0,none⟩));refine (Qnp (Xo0 H1) (Xo2 H) (Xo3 H) (fun W hW=>(Xe5 H) W ((Xe1 H1).trans0 hW))).mono ?_;rintro r w2 ⟨t,u,rfl,hN⟩;have H2:=Ua (show Q6p R s (most:Int) d (Qg0 s.data.toList q) w1 (.returned (.iface t u)) w2 from ⟨t,u,rfl,hN⟩);clear hN))
   go_ret;have h2:=H2.out;rw[(Xo0 H),<-HE.out] at h2;exact h2.lift (Xe1 H1)
  ·have p6:(48:Int)<=(c.toNat:Int)->¬(c.toNat:Int)<=57:=by omega
   by_cases hx:c=120
   ·subst hx;have n1:(48:Int)<=(((120:UInt8).toNat:Nat):Int):=(by decide);have n2:¬(((120:UInt8).toNat:Nat):Int)<=57:=(by decide);have n3:((((120:UInt8).toNat:Nat):Int)==120)=true:=(by decide);have Y0:X=(if 49<=(Q06 L (q+1)).toNat/\(Q06 L (q+1)).toNat<=48+most then .ok (.var ((Q06 L (q+1)).toNat-49),q+2) else .error (q+1)):=(by rw[(Xo0 HR),Uq x4,Us rfl]);have E9:q+1<=s.size:=(by have:=Q0e (Xe2 HR) (by decide);have:=(Xo1 H);omega);have HX:=Ua E9;have HE:=Ua Y0;clear Y0 x4 p6 E9
    go_enter Tryz.func191,Tryz.ntmps191
    go_wp2_with (first
     |(go_at_call_of 81 (Value.pointer (some ⟨R,0,none⟩));refine (Xo4 H).mono ?_;rintro r w1 ⟨rfl,A1,Y1⟩;have k1:=A1.c1;have g1:=A1.f1;have ZW:=A1.setAt ((q:Int)+1);have k2:=ZW.c2;have H1:=Xh2 A1 Y1;have HS1:=Ua ZW;clear A1 Y1 ZW)
     |(go_at_call_of 192 (Value.pointer (some ⟨R,0,none⟩));refine (Qe6 (p:=q+1) (show Q0q _ R s (((q+1:Nat)):Int) (most:Int) d false from HS1.out) HX.out (Xo3 H) 1 (most:Int) (by decide)).mono ?_;rintro r w2 ⟨A7,U1⟩;obtain ⟨z,hz⟩:∃z:Int,r=.returned (.int .i64 z):=by { rcases A7 with ⟨_,_,_,h,_⟩|⟨_,h,_⟩ <;> exact ⟨_,h⟩ };subst hz;have hzw:IntKind.i64.wrap (z-1)=z-1:=by { rcases A7 with ⟨_,h1,_,h,_⟩|⟨_,h,_⟩ <;> { injection h with h;injection h with _ h;rw[Ut];have:=(Q06 s.data.toList (q+1)).toNat_lt;omega } };have H2:=Xh2 A7 U1;clear A7 U1))
    go_ret;obtain ⟨A7,U1⟩:=H2.out;have ht:=((Xe1 H1).trans0 (Q0g w1 R 1 (.int .i64 ((q:Int)+1)))).trans0 U1;rw[(Xo0 H)] at A7;rcases A7 with ⟨_,h1,h2,h3,h4⟩|⟨h1,h3,h4⟩
    ·injection h3 with h3;injection h3 with _ h3;subst h3;rw[HE.out,Us ⟨by omega,by omega⟩];refine Q6p.okd ht ?_ h4 ?_
     ·rw[Q2v];exact congrArg (fun z=>Value.iface _ (.agg #[.int .i64 z])) (by omega)
     ·have h5:Q06 L (q+1)≠0:=fun e=>by rw[e] at h1;exact absurd h1 (by decide)
      have:=Q6b h5;have:=(Xo1 H);omega
    ·rw[HE.out,Uq (fun h=>h1 ⟨trivial,by omega,by omega⟩)];exact Q6p.err ht h4 HX.out
   ·have n3:=Qcf (k:=120) (by decide) hx
    by_cases Kr:c=40/\d<16
    ·obtain ⟨rfl,Vu⟩:=Kr;have n1:¬(48:Int)<=(((40:UInt8).toNat:Nat):Int):=(by decide);have n4:((((40:UInt8).toNat:Nat):Int)==40)=true:=(by decide);have Y0:X=Qvj L (sub (q+1)):=(by rw[(Xo0 HR),Uq x4,Uq hx,Us ⟨rfl,UU Vu⟩]);have E9:q+1<=s.size:=(by have:=Q0e (Xe2 HR) (by decide);have:=(Xo1 H);omega);have hwd1:IntKind.i64.wrap (d+1)=d+1:=(by rw[Ut];have:=HD.out;omega);have hwd2:IntKind.i64.wrap (d+1-1)=d:=(by rw[Ut];have:=HD.out;omega);have hwd3:IntKind.i64.wrap d=d:=(by rw[Ut];have:=HD.out;omega);have HX:=Xh2 E9 (HB.out Vu);have HE:=Ua Y0;clear Y0 x4 p6 E9 hx
     go_enter Tryz.func191,Tryz.ntmps191
     go_upto_region 11 with (first
      |(go_at_call_of 81 (Value.pointer (some ⟨R,0,none⟩));refine (Xo4 H).mono ?_;rintro r w1 ⟨rfl,A1,Y1⟩;have k1:=A1.c1;have k3:=A1.c3;have g1:=A1.f1;have ZW:=A1.setAt ((q:Int)+1);have k3s:=ZW.c3;have g3s:=ZW.f3;have H1:=Xh2 A1 Y1;have HS1:=Ua (ZW.setDeep (d+1));clear A1 Y1 ZW)
      |(go_at_call_of 80 (Value.pointer (some ⟨R,0,none⟩));refine ((Xe1 HX) _ (q+1) (show Q0q _ R s (((q+1:Nat)):Int) (most:Int) (d+1) false from HS1.out) (Xo0 HX) (fun W hW=>(Xe5 H) W (((Xe1 H1).trans0 ((Q0g w1 R 1 (.int .i64 ((q:Int)+1))).trans0 (Q0g _ R 3 (.int .i64 (d+1))))).trans0 hW))).mono ?_;rintro r w2 ⟨t,u,rfl,U1,hN⟩;have H2:=Xh2 (((Xe1 H1).trans0 ((Q0g w1 R 1 (.int .i64 ((q:Int)+1))).trans0 (Q0g _ R 3 (.int .i64 (d+1))))).trans0 U1) hN;clear U1 hN))
     cases hS:sub (q+1) with
     |error e=>
      have h2:=(Xe1 H2);rw[hS] at h2;have Y0:X=.error e:=(by rw[HE.out,hS];rfl);have k3:=h2.1.c3;have g3:=h2.1.f3;have r6:=h2.1.setDeep d;have R2:=Q3g r6 h2.2 (Xo3 H);simp only[skS,Xa5] at R2;have Qy:=fun W (hW:Q0q W R s (e:Int) (most:Int) d true)=>Q9f hW h2.2 (Xo3 H) ⟨#[41]⟩ (by decide) (by decide) (by decide);simp only[Xa5] at Qy;have H3:=Xh4 Y0 h2.2 R2 Qy;clear h2 Y0 r6 R2 Qy hS
      go_wp2_with (first
       |(go_at_call_of 81 (Value.pointer (some ⟨R,0,none⟩));refine (Xo2 H3).mono ?_;rintro r w4 ⟨rfl,JT,Zb⟩;have H4:=Xh2 JT Zb;clear JT Zb)
       |(go_at_call_of 79 (Value.pointer (some ⟨R,0,none⟩));refine ((Xe3 H3) w4 (Xo0 H4)).mono ?_;rintro r w5 ⟨rfl,p5,j6⟩;have H5:=Xh2 j6 p5;clear j6 p5))
      go_ret;rw[(Xo0 H3)];exact Q6p.err ((((Xo0 H2).trans0 (Q0g w2 R 3 (.int .i64 d))).trans0 (Xe1 H4)).trans0 (Xe1 H5)) (Xo0 H5).1 (Xo0 H5).2
     |ok z=>
      obtain ⟨x,q2⟩:=z;have h2:=(Xe1 H2);rw[hS] at h2;obtain ⟨q3,r8⟩:∃q3,Q03 L q2=q3:=⟨_,rfl⟩;have YU:q3<=s.size:=(by rw[<-r8,<-(Xo1 H)];exact Q1s (by have:=(Xo1 H);have:=h2.2.2;omega));have Y0:X=if Q06 L q3=41 then .ok (x,q3+1) else .error q3:=by rw[HE.out,hS,<-r8];rfl
      have k3:=h2.2.1.c3;have g3:=h2.2.1.f3;have r6:=h2.2.1.setDeep d;have R2:=Q3g r6 h2.2.2 (Xo3 H);rw[(Xo0 H)] at R2;simp only[skS,Tl,Xaq,r8] at R2;have Qy:=fun W (hW:Q0q W R s (q3:Int) (most:Int) d false)=>Q9f hW YU (Xo3 H) ⟨#[41]⟩ (by decide) (by decide) (by decide);have O2:Q1h L [41] q3=if Q06 L q3=41 then .ok (q3+1) else .error q3:=Qra
      rw[(Xo0 H)] at Qy;simp only[Tl,Xaq] at Qy;have H3:=Xh5 Y0 h2.1 R2 Qy O2;clear h2 Y0 r6 R2 Qy hS O2 r8 YU
      go_wp2_with (first
       |(go_at_call_of 81 (Value.pointer (some ⟨R,0,none⟩));refine (Xo2 H3).mono ?_;rintro r w4 ⟨rfl,JT,Zb⟩;have H4:=Xh2 JT Zb;clear JT Zb)
       |(go_at_call_of 79 (Value.pointer (some ⟨R,0,none⟩));refine ((Xo3 H3) w4 (Xo0 H4)).mono ?_;rintro r w5 ⟨rfl,p5,j6⟩;have H5:=Xh2 j6 p5;clear j6 p5))
      go_ret;have ht35:=((Q0g w2 R 3 (.int .i64 d)).trans0 (Xe1 H4)).trans0 (Xe1 H5);have ht:=(Xo0 H2).trans0 ht35;have h5:=(Xo0 H5);have x7:Qhp R s (most:Int) d (Q1h L [41] q3) w5:=h5;rw[(Xe4 H3)] at x7;rw[(Xo0 H3)]
      by_cases h41:Q06 L q3=41
      ·rw[Us h41] at x7⊢;refine Q6p.okd ht ?_ x7.1 x7.2;have h6:=(Xo1 H3).turn ht35 (fun k (hk:k=R)=>by subst hk;simp only[UV];exact (Xo0 H1).lt);exact h6.more fun k hk=>.inl (by simp only[UV];exact Ue hk (Xe1 H1).size)
      ·rw[Uq h41] at x7⊢;exact Q6p.err ht x7.1 x7.2
    ·have Y0:X=.error q:=by
      rw[(Xo0 HR),Uq x4,Uq hx,Uq (fun h=>Kr ⟨h.1,Xab h.2⟩)]
     have HE:=Ua Y0;clear Y0;have hcut:∀b:Bool,b=((c.toNat:Int)==40)->(b=false∨b=true/\¬d<16):=by
      intro b hb
      by_cases hc:c=40
      ·exact .inr ⟨by rw[hb,hc];rfl,fun hd=>Kr ⟨hc,hd⟩⟩
      ·exact .inl (by rw[hb];exact Qcf (k:=40) (by decide) hc)
     have R5:¬((48:Int)<=(c.toNat:Int)/\(c.toNat:Int)<=57):=(by omega);rcases hcut _ rfl with n40|⟨n40,nd⟩
     ·clear hcut Kr hx x4 p6
      by_cases n48:(48:Int)<=(c.toNat:Int)
      ·have n57:¬(c.toNat:Int)<=57:=(by omega);clear R5
       go_enter Tryz.func191,Tryz.ntmps191
       go_wp2_with (first
        |(go_at_call_of 81 (Value.pointer (some ⟨R,0,none⟩));refine (Xo4 H).mono ?_;rintro r w1 ⟨rfl,A1,Y1⟩;have k1:=A1.c1;have k3:=A1.c3;have H1:=Xh2 A1 Y1;clear A1 Y1)
        |(go_at_call_of 132 (Value.pointer (some ⟨R,0,none⟩));refine (Q5g (Xo0 H1) _).mono ?_;rintro r w2 ⟨rfl,G1,U1⟩;have H2:=Xh2 G1 U1;clear G1 U1))
       go_ret;rw[HE.out];exact Q6p.err ((Xe1 H1).trans0 (Xe1 H2)) (by have h:=(Xo0 H2);simpa using h) (Xo2 H)
      ·clear R5
       go_enter Tryz.func191,Tryz.ntmps191
       go_wp2_with (first
        |(go_at_call_of 81 (Value.pointer (some ⟨R,0,none⟩));refine (Xo4 H).mono ?_;rintro r w1 ⟨rfl,A1,Y1⟩;have k1:=A1.c1;have k3:=A1.c3;have H1:=Xh2 A1 Y1;clear A1 Y1)
        |(go_at_call_of 132 (Value.pointer (some ⟨R,0,none⟩));refine (Q5g (Xo0 H1) _).mono ?_;rintro r w2 ⟨rfl,G1,U1⟩;have H2:=Xh2 G1 U1;clear G1 U1))
       go_ret;rw[HE.out];exact Q6p.err ((Xe1 H1).trans0 (Xe1 H2)) (by have h:=(Xo0 H2);simpa using h) (Xo2 H)
     ·have hc40:(c.toNat:Int)=40:=(by simpa using n40);have n48:¬(48:Int)<=(c.toNat:Int):=(by omega);clear hcut Kr hx x4 p6 R5 hc40
      go_enter Tryz.func191,Tryz.ntmps191
      go_wp2_with (first
       |(go_at_call_of 81 (Value.pointer (some ⟨R,0,none⟩));refine (Xo4 H).mono ?_;rintro r w1 ⟨rfl,A1,Y1⟩;have k1:=A1.c1;have k3:=A1.c3;have H1:=Xh2 A1 Y1;clear A1 Y1)
       |(go_at_call_of 132 (Value.pointer (some ⟨R,0,none⟩));refine (Q5g (Xo0 H1) _).mono ?_;rintro r w2 ⟨rfl,G1,U1⟩;have H2:=Xh2 G1 U1;clear G1 U1))
      go_ret;rw[HE.out];exact Q6p.err ((Xe1 H1).trans0 (Xe1 H2)) (by have h:=(Xo0 H2);simpa using h) (Xo2 H)
end Go.Proofs.YtdilmfakkppgpaaGreatDoor
