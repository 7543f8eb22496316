/- Part 11. No condition. -/
import Derived.Shelf.SlSortCmp.WholeK
import Derived.Ground.SlsfProg
import Derived.Shelf.SlSortCmp.NoneTotal
import Derived.Test.YtidojbkhlenahaaGreatDoorPkProblemDrawn10
set_option maxRecDepth 100000
set_option maxHeartbeats 16000000
namespace Go.Proofs.YtidojbkhlenahaaGreatDoor
open Go.RowKit WordsM DecM
theorem Qne (l:LU) (x:Int) (h:Qda l=some x): -1000000<=x/\x<=1000000:=by
 cases l with
 |nil=>rw[Qda] at h;injection h with h;omega
 |cons c r=>
  rw[Qda] at h
  split at h
  ·cases h
  ·split at h
   ·cases h
   ·rename_i h2;have hd:Qir (Q2r r).2:=by
     have h3:=Q93 (Q2r r).2;rw[Uw (by omega)] at h3;exact h3
    have hb:dv (Q2r r).2<10^6:=Uc (Qgl _ hd) (UN (by decide) (by omega));have e6:(10:Nat)^6=1000000:=rfl;rw[e6] at hb;injection h with h
    split at h <;> omega
def Q59 (w0:World) (Φ:Bool->Int->LN->Int->Prop) (r:Ending) (w':World):Prop:=
 ∃neg' e' a' n' c' L er,r=.returned (.tuple #[.agg #[.bool neg',.int .i64 e',.slice a' n' c'],.int .i64 er])/\Φ neg' e' L er/\Q44 w0 w' a' n' c' L/\Bw w0 w'
theorem Q59.of {w0 w':World} {Φ:Bool->Int->LN->Int->Prop} {neg':Bool} {e':Int} {a':OA} {n' c':Nat} {L:LN} {er:Int} (h1:Φ neg' e' L er) (h2:Q44 w0 w' a' n' c' L) (h3:Bw w0 w'):
 Q59 w0 Φ (.returned (.tuple #[.agg #[.bool neg',.int .i64 e',.slice a' n' c'],.int .i64 er])) w':=⟨neg',e',a',n',c',L,er,rfl,h1,h2,h3⟩
theorem Qqh (s:ByteArray) (w:World) (hs:s.size<=281474976710656) (hTI:Q3r w):
 Calls Tryz.prog 235 #[.string s] w (Q59 w (Q1v s.data.toList)):=by
 have O0:s.data.toList.length=s.size:=rfl;have M2:Bw w (w.alloc (.cells #[.bool false,.int .i64 0,.slice none 0 0] 26)):=Ba;have Qt:=Q03.new w (.bool false) (.int .i64 0) (.slice none 0 0) 26;have O2:=Q0o w (.cells #[.bool false,.int .i64 0,.slice none 0 0] 26);have HW:=Xh2 M2 Qt;have HTI:=Ua hTI;have hq:=Qhi s.data.toList;obtain ⟨neg,t,Zc⟩:∃neg t,Q2r s.data.toList=(neg,t):=⟨_,_,rfl⟩;have J6:t.length<=s.size:=by
  have h1:(Q2r s.data.toList).2.length<=s.data.toList.length:=by
   cases s.data.toList with
   |nil=>simp[Q2r]
   |cons x y=>simp only[Q2r];split <;> simp
  rw[Zc] at h1;exact h1
 have XN:form s.data.toList=form s.data.toList:=rfl
 conv at XN=>rhs;unfold form
 rw[Zc] at XN;simp only at XN;have J1:∀W,Calls Tryz.prog 173 #[.string s,.string ⟨#[45]⟩] W fun e w'=>e=.returned (.tuple #[.string ⟨t.toArray⟩,.bool neg])/\W=w':=fun W=>(Tryz.Qzt s ⟨#[45]⟩ W).mono (by
  rintro e w' ⟨rfl,rfl⟩;refine ⟨?_,rfl⟩
  show Ending.returned (.tuple #[.string ⟨(Lib.trimPrefix s.data.toList [45]).toArray⟩,.bool (Lib.hasPrefix s.data.toList [45])])=_
  rw[hq.1,hq.2,Zc])
 obtain ⟨T,hT⟩:∃T:ByteArray,T=⟨t.toArray⟩:=⟨_,rfl⟩;have Ju:T.size=t.length:=by rw[hT];rfl
 have X8:T.data.toList=t:=by rw[hT]
 rw[<-hT] at J1;have C2:=fun W=>Qpr T W (by omega);obtain ⟨k,hk⟩:∃k,digN t=k:=⟨_,rfl⟩;have M9:=Qew t;have hta:=Q93 t;rw[hk] at M9 XN hta;have HK:=Ua hk;have HT:=Xh2 Ju X8;have HC:=Xh2 J1 C2;have HFO:=Ua XN;have HTA:=Ua hta;clear hq Zc XN J1 C2 hk hT M2 Qt hTI O0 hta
 by_cases h1:k<1
 ·skip;have XY:(k:Int)<1:=by omega
  have hF:form s.data.toList=none:=by rw[HFO.out,Uu (.inl h1)]
  have HF:=Ua hF;clear hF Ju X8
  go_enter Tryz.func235,Tryz.ntmps235
  go_wp2_with (first
   |(go_at_call_of 173 (Value.string s);refine ((Xo0 HC) _).mono ?_;rintro e w1 ⟨rfl,rfl⟩)
   |(go_at_call_of 267 (Value.string T);refine ((Xe1 HC) _).mono ?_;rintro e w2 ⟨⟨k',rfl,E7⟩,D0⟩;obtain rfl:k=k':=by { rw[<-HK.out,<-(Xe1 HT)];exact Q26 E7 };have G1:=(Xe1 HW).step D0 O2;obtain ⟨E4,J1,I1,U4,j3,U3⟩:=G1.cf;have U6:=G1.d1 (.bool false);have N5:=G1.d2 (.bool false) (.int .i64 0);have E1:=Xh3 G1 D0 (Below.next0 (Xo0 HW) D0);clear G1 D0 E7))
  obtain ⟨k0,k1,k2,P0⟩:=Q78 (Xo0 E1) (Xe2 E1) (Ue _) (.bool false) (.int .i64 0) (.slice none 0 0);clear E4 J1 I1 U4 j3 U3 U6 N5;generalize World.setCell _ _ _=W5 at k0 k1 k2 P0⊢;refine ⟨rfl,.tuple #[.agg #[.bool false,.int .i64 0,.slice none 0 0],.int .i64 5],by simp[results,go_sem,k0,k1,k2],Q59.of (Q1v.none_ HF.out) (Q44.nil_ _ _) P0⟩
 ·have XY:¬(k:Int)<1:=by omega
  by_cases Zx:1300<k
  ·skip;have hk13:(1300:Int)<(k:Int):=(by omega);have hF:form s.data.toList=none:=(by rw[HFO.out,Uu (.inr (.inl Zx))]);have HF:=Ua hF;clear hF Ju X8
   go_enter Tryz.func235,Tryz.ntmps235
   go_wp2_with (first
    |(go_at_call_of 173 (Value.string s);refine ((Xo0 HC) _).mono ?_;rintro e w1 ⟨rfl,rfl⟩)
    |(go_at_call_of 267 (Value.string T);refine ((Xe1 HC) _).mono ?_;rintro e w2 ⟨⟨k',rfl,E7⟩,D0⟩;obtain rfl:k=k':=by { rw[<-HK.out,<-(Xe1 HT)];exact Q26 E7 };have G1:=(Xe1 HW).step D0 O2;obtain ⟨E4,J1,I1,U4,j3,U3⟩:=G1.cf;have U6:=G1.d1 (.bool false);have N5:=G1.d2 (.bool false) (.int .i64 0);have E1:=Xh3 G1 D0 (Below.next0 (Xo0 HW) D0);clear G1 D0 E7))
   obtain ⟨k0,k1,k2,P0⟩:=Q78 (Xo0 E1) (Xe2 E1) (Ue _) (.bool false) (.int .i64 0) (.slice none 0 0);clear E4 J1 I1 U4 j3 U3 U6 N5;generalize World.setCell _ _ _=W5 at k0 k1 k2 P0⊢;refine ⟨rfl,.tuple #[.agg #[.bool false,.int .i64 0,.slice none 0 0],.int .i64 5],by simp[results,go_sem,k0,k1,k2],Q59.of (Q1v.none_ HF.out) (Q44.nil_ _ _) P0⟩
  ·have hk13:¬(1300:Int)<(k:Int):=(by omega);have I8:0<T.size:=(by omega);have Qa:t.headD 0=(T[0]'I8):=by
    have h:=Qps (s:=T) (at_:=0) I8;rw[Xa3,(Xe1 HT)] at h;exact h
   have HHD:=Ua Qa;clear Qa
   by_cases hz:(T[0]'I8)=48/\(neg=true∨1<t.length)
   ·obtain ⟨x8,Y1⟩:=hz;have Xy:(((T[0]'I8).toNat:Int)==48)=true:=(by rw[x8];rfl);cases neg
    ·have h1l:1<t.length:=by rcases Y1 with h|h;cases h;exact h
     have h1I:(1:Int)<(T.size:Int):=(by omega);have hF:form s.data.toList=none:=(by rw[HFO.out,Uu (.inr (.inr ⟨by rw[HHD.out];exact x8,.inr h1l⟩))]);have HF:=Ua hF;clear hF Ju X8 x8 Y1
     go_enter Tryz.func235,Tryz.ntmps235
     go_wp2_with (first
      |(go_at_call_of 173 (Value.string s);refine ((Xo0 HC) _).mono ?_;rintro e w1 ⟨rfl,rfl⟩)
      |(go_at_call_of 267 (Value.string T);refine ((Xe1 HC) _).mono ?_;rintro e w2 ⟨⟨k',rfl,E7⟩,D0⟩;obtain rfl:k=k':=by { rw[<-HK.out,<-(Xe1 HT)];exact Q26 E7 };have G1:=(Xe1 HW).step D0 O2;obtain ⟨E4,J1,I1,U4,j3,U3⟩:=G1.cf;have U6:=G1.d1 (.bool false);have N5:=G1.d2 (.bool false) (.int .i64 0);have E1:=Xh3 G1 D0 (Below.next0 (Xo0 HW) D0);clear G1 D0 E7))
     obtain ⟨k0,k1,k2,P0⟩:=Q78 (Xo0 E1) (Xe2 E1) (Ue _) (.bool false) (.int .i64 0) (.slice none 0 0);clear E4 J1 I1 U4 j3 U3 U6 N5;generalize World.setCell _ _ _=W5 at k0 k1 k2 P0⊢;refine ⟨rfl,.tuple #[.agg #[.bool false,.int .i64 0,.slice none 0 0],.int .i64 5],by simp[results,go_sem,k0,k1,k2],Q59.of (Q1v.none_ HF.out) (Q44.nil_ _ _) P0⟩
    ·skip;have hF:form s.data.toList=none:=(by rw[HFO.out,Uu (.inr (.inr ⟨by rw[HHD.out];exact x8,.inl rfl⟩))]);have HF:=Ua hF;clear hF Ju X8 x8 Y1
     go_enter Tryz.func235,Tryz.ntmps235
     go_wp2_with (first
      |(go_at_call_of 173 (Value.string s);refine ((Xo0 HC) _).mono ?_;rintro e w1 ⟨rfl,rfl⟩)
      |(go_at_call_of 267 (Value.string T);refine ((Xe1 HC) _).mono ?_;rintro e w2 ⟨⟨k',rfl,E7⟩,D0⟩;obtain rfl:k=k':=by { rw[<-HK.out,<-(Xe1 HT)];exact Q26 E7 };have G1:=(Xe1 HW).step D0 O2;obtain ⟨E4,J1,I1,U4,j3,U3⟩:=G1.cf;have U6:=G1.d1 (.bool false);have N5:=G1.d2 (.bool false) (.int .i64 0);have E1:=Xh3 G1 D0 (Below.next0 (Xo0 HW) D0);clear G1 D0 E7))
     obtain ⟨k0,k1,k2,P0⟩:=Q78 (Xo0 E1) (Xe2 E1) (Ue _) (.bool false) (.int .i64 0) (.slice none 0 0);clear E4 J1 I1 U4 j3 U3 U6 N5;generalize World.setCell _ _ _=W5 at k0 k1 k2 P0⊢;refine ⟨rfl,.tuple #[.agg #[.bool false,.int .i64 0,.slice none 0 0],.int .i64 5],by simp[results,go_sem,k0,k1,k2],Q59.of (Q1v.none_ HF.out) (Q44.nil_ _ _) P0⟩
   ·have XN:=HFO.out;rw[Uq (by rintro (h|h|h);exact h1 h;exact Zx h;(rw[HHD.out] at h;exact hz h))] at XN;obtain ⟨u,hu⟩:∃u:ByteArray,T.extract 0 k=u:=⟨_,rfl⟩;obtain ⟨rest,M6⟩:∃r:ByteArray,T.extract k T.size=r:=⟨_,rfl⟩;have Vd:u.data.toList=t.take k:=(by rw[<-hu,Qlk,(Xe1 HT)]);have Xq:rest.data.toList=t.drop k:=(by rw[<-M6,Qll,(Xe1 HT)]);have hus:u.size=k:=by
     have:u.data.toList.length=u.size:=rfl;rw[<-this,Vd,UR];omega
    have KR:rest.size<=T.size:=by
     have:rest.data.toList.length=rest.size:=rfl;rw[<-this,Xq,Th];omega
    rw[<-Vd,<-Xq] at XN;have hau:Qir u.data.toList:=(by rw[Vd];exact HTA.out);have Q8:=fun W=>Qqg rest W (by omega);have JP:=fun W=>Qqe u W (by omega) hau;have Zk:(dig (2^64) (dv u.data.toList)).length<=1300:=by
     have h:=Q32 (B:=2^64) (by decide) (Uc (Qgl u.data.toList hau) (Xbk (by decide) u.data.toList.length));have:u.data.toList.length=u.size:=rfl;omega
    have HP:=Xh4 Q8 JP XN Zk;have HZ:=Ua hz;clear Q8 JP XN Zk hau Vd Xq KR hus hz HFO;have Xb:=(Xo2 HP);have hkT:(k:Int)<=(T.size:Int):=(by omega);cases S6:Qda rest.data.toList with
    |none=>
     have Q8:∀W,Calls Tryz.prog 268 #[.string rest] W fun e w'=>∃x:Int,e=.returned (.tuple #[.int .i64 x,.bool false])/\Bw W w':=fun W=>((Xo0 HP) W).mono (by
      rintro e w' ⟨⟨x,ok,rfl,⟨_,h,_⟩|⟨rfl,_⟩⟩,hb⟩
      ·rw[S6] at h;cases h
      ·exact ⟨x,rfl,hb⟩)
     rw[S6] at Xb;have HPW:=Ua Q8;have HF:=Ua (show form s.data.toList=none from Xb);clear Q8 Xb S6
     by_cases x8:(T[0]'I8)=48
     ·have Xy:(((T[0]'I8).toNat:Int)==48)=true:=(by rw[x8];rfl);obtain rfl:neg=false:=by
       cases neg
       ·rfl
       ·exact absurd ⟨x8,.inl rfl⟩ HZ.out
      have h1I:¬(1:Int)<(T.size:Int):=fun h=>HZ.out ⟨x8,.inr (by omega)⟩;clear x8 Ju X8
      go_enter Tryz.func235,Tryz.ntmps235
      go_wp2_with (first
       |(go_at_call_of 173 (Value.string s);refine ((Xo0 HC) _).mono ?_;rintro e w1 ⟨rfl,rfl⟩)
       |(go_at_call_of 267 (Value.string T);refine ((Xe1 HC) _).mono ?_;rintro e w2 ⟨⟨k',rfl,E7⟩,D0⟩;obtain rfl:k=k':=by { rw[<-HK.out,<-(Xe1 HT)];exact Q26 E7 };have E1:=Ua D0;clear D0 E7)
       |(refine (HPW.out _).mono ?_;rintro e w3 ⟨x,rfl,M0⟩;have A2:=Below.next0 E1.out M0;have G1:=(Xe1 HW).step A2 O2;obtain ⟨E4,J1,I1,U4,j3,U3⟩:=G1.cf;have U6:=G1.d1 (.bool false);have N5:=G1.d2 (.bool false) (.int .i64 0);have B3:=Xh2 G1 (Below.next0 (Xo0 HW) A2);clear G1 M0 A2))
      obtain ⟨k0,k1,k2,P0⟩:=Q78 (Xo0 B3) (Xe1 B3) (Ue _) (.bool false) (.int .i64 0) (.slice none 0 0);clear E4 J1 I1 U4 j3 U3 U6 N5;generalize World.setCell _ _ _=W5 at k0 k1 k2 P0⊢;refine ⟨rfl,.tuple #[.agg #[.bool false,.int .i64 0,.slice none 0 0],.int .i64 5],by simp[results,go_sem,k0,k1,k2],Q59.of (Q1v.none_ HF.out) (Q44.nil_ _ _) P0⟩
     ·have Xy:(((T[0]'I8).toNat:Int)==48)=false:=(by rw[Uk];intro e;exact x8 (Xa7.1 (show (T[0]'I8).toNat=48 by omega)));clear x8 Ju X8
      go_enter Tryz.func235,Tryz.ntmps235
      go_wp2_with (first
       |(go_at_call_of 173 (Value.string s);refine ((Xo0 HC) _).mono ?_;rintro e w1 ⟨rfl,rfl⟩)
       |(go_at_call_of 267 (Value.string T);refine ((Xe1 HC) _).mono ?_;rintro e w2 ⟨⟨k',rfl,E7⟩,D0⟩;obtain rfl:k=k':=by { rw[<-HK.out,<-(Xe1 HT)];exact Q26 E7 };have E1:=Ua D0;clear D0 E7)
       |(refine (HPW.out _).mono ?_;rintro e w3 ⟨x,rfl,M0⟩;have A2:=Below.next0 E1.out M0;have G1:=(Xe1 HW).step A2 O2;obtain ⟨E4,J1,I1,U4,j3,U3⟩:=G1.cf;have U6:=G1.d1 (.bool false);have N5:=G1.d2 (.bool false) (.int .i64 0);have B3:=Xh2 G1 (Below.next0 (Xo0 HW) A2);clear G1 M0 A2))
      obtain ⟨k0,k1,k2,P0⟩:=Q78 (Xo0 B3) (Xe1 B3) (Ue _) (.bool false) (.int .i64 0) (.slice none 0 0);clear E4 J1 I1 U4 j3 U3 U6 N5;generalize World.setCell _ _ _=W5 at k0 k1 k2 P0⊢;refine ⟨rfl,.tuple #[.agg #[.bool false,.int .i64 0,.slice none 0 0],.int .i64 5],by simp[results,go_sem,k0,k1,k2],Q59.of (Q1v.none_ HF.out) (Q44.nil_ _ _) P0⟩
    |some ex=>
     have hexb: -1000000<=ex/\ex<=1000000:=by
      have h:=Qne rest.data.toList ex S6;exact h
     obtain ⟨hex1,hex2⟩:=hexb;have Q8:∀W,Calls Tryz.prog 268 #[.string rest] W fun e w'=>e=.returned (.tuple #[.int .i64 ex,.bool true])/\Bw W w':=fun W=>((Xo0 HP) W).mono (by
      rintro e w' ⟨⟨x,ok,rfl,⟨rfl,h,_⟩|⟨_,h⟩⟩,hb⟩
      ·rw[S6] at h;injection h with h;subst h;exact ⟨rfl,hb⟩
      ·rw[S6] at h;cases h)
     rw[S6] at Xb;have HPW:=Ua Q8;have HF:=Ua (show form s.data.toList=some (neg,dv u.data.toList,ex) from Xb);clear Q8 Xb S6
     by_cases x8:(T[0]'I8)=48
     ·have Xy:(((T[0]'I8).toNat:Int)==48)=true:=(by rw[x8];rfl);obtain rfl:neg=false:=by
       cases neg
       ·rfl
       ·exact absurd ⟨x8,.inl rfl⟩ HZ.out
      have h1I:¬(1:Int)<(T.size:Int):=fun h=>HZ.out ⟨x8,.inr (by omega)⟩;clear x8 Ju X8
      go_enter Tryz.func235,Tryz.ntmps235
      go_wp2_with (first
       |(go_at_call_of 173 (Value.string s);refine ((Xo0 HC) _).mono ?_;rintro e w1 ⟨rfl,rfl⟩)
       |(go_at_call_of 267 (Value.string T);refine ((Xe1 HC) _).mono ?_;rintro e w2 ⟨⟨k',rfl,E7⟩,D0⟩;obtain rfl:k=k':=by { rw[<-HK.out,<-(Xe1 HT)];exact Q26 E7 };have E1:=Ua D0;clear D0 E7)
       |(go_at_call_of 268 (Value.string rest);refine (HPW.out _).mono ?_;rintro e w3 ⟨rfl,M0⟩;have B3:=Ua (Below.next0 E1.out M0);clear M0)
       |(go_at_call_of 269 (Value.string u);refine ((Xo1 HP) _).mono ?_;rintro e w4 ⟨a4,n4,c4,rfl,QW,Y2⟩;have O4:=Xh2 QW (Below.next0 B3.out Y2);clear QW Y2)
       |(refine (Q6f false a4 n4 c4 _ ex w4 (Xo0 O4) (HTI.out.step (Below.next0 (Xo0 HW) (Xe1 O4))) (by rw[<-(Xo0 O4).len];exact Uj (Xe3 HP) (by decide)) (by omega) (by omega)).mono ?_;rintro e w5 ⟨neg5,e5,a5,n5,c5,L,er,rfl,Z7,O7,P0⟩;rw[Q10 (by decide)] at Z7;have A2:=Below.next0 (Xe1 O4) P0;have G1:=(Xe1 HW).step A2 O2;obtain ⟨E4,J1,I1,U4,j3,U3⟩:=G1.cf;have U6:=G1.d1 (.bool neg5);have N5:=G1.d2 (.bool neg5) (.int .i64 e5);have A4:=Xh4 G1 (Below.next0 (Xo0 HW) A2) O7 Z7;clear G1 P0 A2 O7 Z7))
      obtain ⟨k0,k1,k2,N4⟩:=Q78 (Xo0 A4) (Xo1 A4) (Ue _) (.bool neg5) (.int .i64 e5) (.slice a5 n5 c5);have P7:=(Xo2 A4);have QY:WordsIn _ a5 n5 c5 L:=⟨P7.len,P7.cap,P7.most,P7.low,(P7.rd.store3 (Xo0 A4) (fun _=>by simp[nv]) (fun _=>by simp[nv]) (fun _=>by simp[nv]) (.bool neg5) (.int .i64 e5) (.slice a5 n5 c5)).more (Q1s _ _ _ _ _)⟩;clear E4 J1 I1 U4 j3 U3 U6 N5 P7;generalize World.setCell _ _ _=W5 at k0 k1 k2 N4 QY⊢;refine ⟨rfl,.tuple #[.agg #[.bool neg5,.int .i64 e5,.slice a5 n5 c5],.int .i64 er],by simp[results,go_sem,k0,k1,k2],Q59.of (Q1v.some_ HF.out (Xe3 A4)) (((Xo2 A4).lower (Below.next0 (Xo0 HW) (Xe1 O4)).size).on QY) N4⟩
     ·have Xy:(((T[0]'I8).toNat:Int)==48)=false:=(by rw[Uk];intro e;exact x8 (Xa7.1 (show (T[0]'I8).toNat=48 by omega)));clear x8 Ju X8
      go_enter Tryz.func235,Tryz.ntmps235
      go_wp2_with (first
       |(go_at_call_of 173 (Value.string s);refine ((Xo0 HC) _).mono ?_;rintro e w1 ⟨rfl,rfl⟩)
       |(go_at_call_of 267 (Value.string T);refine ((Xe1 HC) _).mono ?_;rintro e w2 ⟨⟨k',rfl,E7⟩,D0⟩;obtain rfl:k=k':=by { rw[<-HK.out,<-(Xe1 HT)];exact Q26 E7 };have E1:=Ua D0;clear D0 E7)
       |(go_at_call_of 268 (Value.string rest);refine (HPW.out _).mono ?_;rintro e w3 ⟨rfl,M0⟩;have B3:=Ua (Below.next0 E1.out M0);clear M0)
       |(go_at_call_of 269 (Value.string u);refine ((Xo1 HP) _).mono ?_;rintro e w4 ⟨a4,n4,c4,rfl,QW,Y2⟩;have O4:=Xh2 QW (Below.next0 B3.out Y2);clear QW Y2)
       |(refine (Q6f neg a4 n4 c4 _ ex w4 (Xo0 O4) (HTI.out.step (Below.next0 (Xo0 HW) (Xe1 O4))) (by rw[<-(Xo0 O4).len];exact Uj (Xe3 HP) (by decide)) (by omega) (by omega)).mono ?_;rintro e w5 ⟨neg5,e5,a5,n5,c5,L,er,rfl,Z7,O7,P0⟩;rw[Q10 (by decide)] at Z7;have A2:=Below.next0 (Xe1 O4) P0;have G1:=(Xe1 HW).step A2 O2;obtain ⟨E4,J1,I1,U4,j3,U3⟩:=G1.cf;have U6:=G1.d1 (.bool neg5);have N5:=G1.d2 (.bool neg5) (.int .i64 e5);have A4:=Xh4 G1 (Below.next0 (Xo0 HW) A2) O7 Z7;clear G1 P0 A2 O7 Z7))
      obtain ⟨k0,k1,k2,N4⟩:=Q78 (Xo0 A4) (Xo1 A4) (Ue _) (.bool neg5) (.int .i64 e5) (.slice a5 n5 c5);have P7:=(Xo2 A4);have QY:WordsIn _ a5 n5 c5 L:=⟨P7.len,P7.cap,P7.most,P7.low,(P7.rd.store3 (Xo0 A4) (fun _=>by simp[nv]) (fun _=>by simp[nv]) (fun _=>by simp[nv]) (.bool neg5) (.int .i64 e5) (.slice a5 n5 c5)).more (Q1s _ _ _ _ _)⟩;clear E4 J1 I1 U4 j3 U3 U6 N5 P7;generalize World.setCell _ _ _=W5 at k0 k1 k2 N4 QY⊢;refine ⟨rfl,.tuple #[.agg #[.bool neg5,.int .i64 e5,.slice a5 n5 c5],.int .i64 er],by simp[results,go_sem,k0,k1,k2],Q59.of (Q1v.some_ HF.out (Xe3 A4)) (((Xo2 A4).lower (Below.next0 (Xo0 HW) (Xe1 O4)).size).on QY) N4⟩
theorem Qhj (w:World) (k:Nat):Bw w (w.drewN k):=⟨rfl,rfl,rfl,Ue _,fun _ _=>rfl⟩
theorem Qqa.okd {R:Nat} {s:ByteArray} {m d:Int} {w0 w':World} {x:Ex} {q:Nat} {t:TypeId} {u:Value} (ht:Q0l (OnR R) w0 w') (hx:Q3h (·<w0.heap.size) w' x (.iface t u)) (hr:Q17 w' R s (q:Int) m d false) (hq:q<=s.size):Qqa R s m d (.ok (x,q)) w0 (.returned (.iface t u)) w':=⟨t,u,rfl,ht,hx,hr,hq⟩
theorem Qhk:(Tryz.prog.info? 119).map (fun i=>(i.zero,i.size,i.bytes))=some (some .nilIface,1,16):=by kernel_rfl
theorem Qqi:(Tryz.prog.info? 4).map (fun i=>(i.zero,i.size,i.bytes))=some (some (.bool false),1,1):=by kernel_rfl
theorem Q0z {T:TypeId} {z:Value} {s b:Nat} (h:(Tryz.prog.info? T).map (fun i=>(i.zero,i.size,i.bytes))=some (some z,s,b)):∃i0:TypeInfo,Tryz.prog.info? T=some i0/\i0.zero=some z/\i0.size=s/\i0.bytes=b:=by
 cases hi:Tryz.prog.info? T with
 |none=>rw[hi] at h;cases h
 |some i0=>
  rw[hi] at h;simp only[UG,Un,Xa9] at h;exact ⟨i0,rfl,h.1,h.2.1,h.2.2⟩
theorem Q17.keep {w w':World} {R:Nat} {s:ByteArray} {p m d:Int} {bad:Bool} {fp:Nat->Prop} (h:Q17 w R s p m d bad) (ht:Q0l fp w w') (hn:¬fp R):Q17 w' R s p m d bad:=
 ⟨(ht.cell (p:=⟨R,0,none⟩) h.lt hn).trans h.c0,(ht.cell (p:=⟨R,1,none⟩) h.lt hn).trans h.c1,(ht.cell (p:=⟨R,2,none⟩) h.lt hn).trans h.c2,(ht.cell (p:=⟨R,3,none⟩) h.lt hn).trans h.c3,(ht.cell (p:=⟨R,4,none⟩) h.lt hn).trans h.c4,
   (ht.frozen (p:=⟨R,0,none⟩) h.lt hn).trans h.f0,(ht.frozen (p:=⟨R,1,none⟩) h.lt hn).trans h.f1,(ht.frozen (p:=⟨R,2,none⟩) h.lt hn).trans h.f2,(ht.frozen (p:=⟨R,3,none⟩) h.lt hn).trans h.f3,(ht.frozen (p:=⟨R,4,none⟩) h.lt hn).trans h.f4,Uc h.lt ht.size,fun o ho=>(ht.cell (p:=⟨R,o,none⟩) h.lt hn).trans (h.c5 o ho)⟩
theorem Q2k {w:World} {B:Nat} {T:TypeId} {a:OA} {n c:Nat} {vs:LV} (h:Row w B T 1 a n c vs) {x:Addr} (hx:a=some x):B<=x.block/\x.block<w.heap.size:=by
 rcases h.form with ⟨h0,_⟩|⟨g,cur,h0,h1,h2,_⟩
 ·rw[h0] at hx;cases hx
 ·rw[h0] at hx;injection hx with hx;subst hx;exact ⟨h1,h2⟩
theorem Qqj {fp:Nat->Prop} {w w':World} (h:Q0l fp w.drew w'):Q0l fp w w':=⟨h.os,h.tape,h.output,h.size,h.block⟩
def fpX (b:Nat) (a a2:OA) (k:Nat):Prop:=k<=b∨(∃x,a=some x/\x.block=k)∨∃x,a2=some x/\x.block=k
theorem Qhl {w:World} {B B':Nat} {T T':TypeId} {a a2:OA} {n c n2 c2:Nat} {vs us:LV} (h:Row w B T 1 a n c vs) (h2:Row w B' T' 1 a2 n2 c2 us) (hT:T≠T') {x y:Addr} (hx:a=some x) (hy:a2=some y) (e:x.block=y.block):False:=by
 rcases h.form with ⟨h0,_⟩|⟨g,cur,h0,_,_,hh,_⟩
 ·rw[h0] at hx;cases hx
 rcases h2.form with ⟨h0',_⟩|⟨g2,cur2,h0',_,_,YS,_⟩
 ·rw[h0'] at hy;cases hy
 rw[h0] at hx;injection hx with hx;subst hx
 rw[h0'] at hy;injection hy with hy;subst hy
 have e:g=g2:=e;subst e;rw[hh] at YS;injection YS with YS;injection YS with _ e2;exact hT e2
theorem ff {x:Bool} {q:Prop} (h:x=false) (h2:x=true):q:=by rw[h] at h2;cases h2
theorem tf {q:Prop} (h:true=false):q:=by cases h
theorem tf2 {q:Prop} (h:false=true):q:=by cases h
theorem Qnf {fp:Nat->Prop} {w w':World} (h:Q0l fp w w'):Q0l fp w w'.drew:=h.drew
structure EI (R:Nat) (s:ByteArray) (m d:Int) (w wr:World) (a:OA) (n c:Nat) (a2:OA) (c2:Nat) (below:Bool) (acc:List (Bool × Ex)) (vs:LV) (p:Nat) (bd:Bool) (r0:PR Ex) (N:Nat) (D:Nat->Bool) (V:Nat->Value) (W:World):Prop where
 st:R<w.heap.size/\w.heap.size<wr.heap.size/\(∀x,a=some x->w.heap.size+1<=x.block/\x.block<wr.heap.size)/\(∀x,a2=some x->w.heap.size+1<=x.block/\x.block<wr.heap.size)
 turn:Q0l (OnR R) w W
 big:wr.heap.size<=W.heap.size
 c0:D 12=false->W.cell? ⟨w.heap.size,0,none⟩=some (.slice a n c)
 c0':D 12=true->W.cell? ⟨w.heap.size,0,none⟩=some (V 5)
 c1:D 14=false->W.cell? ⟨w.heap.size,1,none⟩=some (.slice a2 n c2)
 c1':D 14=true->W.cell? ⟨w.heap.size,1,none⟩=some (V 10)
 f0:W.frozen? ⟨w.heap.size,0,none⟩=false
 f1:W.frozen? ⟨w.heap.size,1,none⟩=false
 rd:D 3=false->Q17 W R s (p:Int) m d bd
 nd:D 3=true->(wr.heap.size<=N/\N<=W.heap.size)/\∃t u,V 3=.iface t u/\match r0 with
  | .ok (x,q)=>Q3h (fun k=>k<wr.heap.size∨N<=k) W x (V 3)/\Q17 W R s (q:Int) m d false/\q<=s.size
  | .error q=>Q17 W R s (q:Int) m d true/\q<=s.size
 v0:D 0=true->V 0=.pointer (some ⟨w.heap.size,0,none⟩)
 v1:D 1=true->V 1=.slice a n c
 v2:D 2=true->V 2=.pointer (some ⟨R,0,none⟩)
 v4:D 4=true->∃h,V 4=.slice (some ⟨h,0,none⟩) 1 1/\wr.heap.size<=h/\W.heap[h]?=some (.cells #[V 3] 119 (0,0))
 v6:D 6=true->V 6=.pointer (some ⟨w.heap.size,1,none⟩)
 v7:D 7=true->V 7=.slice a2 n c2
 v8:D 8=true->V 8=.bool below
 v9:D 9=true->∃h,V 9=.slice (some ⟨h,0,none⟩) 1 1/\wr.heap.size<=h/\W.heap[h]?=some (.cells #[.bool below] 4 (0,0))
 v11:D 11=true->V 11=.pointer (some ⟨w.heap.size,0,none⟩)
 v13:D 13=true->V 13=.pointer (some ⟨w.heap.size,1,none⟩)
 ra:D 5=false->Row W (w.heap.size+1) 119 1 a n c vs
 ra':D 5=true->∃g cap,V 5=.slice (some ⟨g,0,none⟩) (n+1) cap/\Row W (w.heap.size+1) 119 1 (some ⟨g,0,none⟩) (n+1) cap (vs++[V 3])/\((∃x,a=some x/\x.block=g)∨N<=g)
 rb:D 10=false->Row W (w.heap.size+1) 4 1 a2 n c2 (acc.map fun z=>Value.bool z.1)
 rb':D 10=true->∃g cap,V 10=.slice (some ⟨g,0,none⟩) (n+1) cap/\Row W (w.heap.size+1) 4 1 (some ⟨g,0,none⟩) (n+1) cap (acc.map (fun z=>Value.bool z.1)++[.bool below])/\((∃x,a2=some x/\x.block=g)∨N<=g)
 nodes:Q2c (fun k=>fpX w.heap.size a a2 k∨wr.heap.size<=k) W (acc.map (·.2)) vs
section
variable {R:Nat} {s:ByteArray} {m d:Int} {w wr:World} {a:OA} {n c:Nat} {a2:OA} {c2:Nat} {below:Bool} {acc:List (Bool × Ex)} {vs:LV} {p:Nat} {bd:Bool} {r0:PR Ex} {N:Nat} {D:Nat->Bool} {V:Nat->Value} {W W':World}
theorem EI.s0 (h:EI R s m d w wr a n c a2 c2 below acc vs p bd r0 N D V W):EI R s m d w wr a n c a2 c2 below acc vs p bd r0 N (Q1x D 0) (Q24 V 0 (.pointer (some ⟨w.heap.size,0,none⟩))) W:=⟨h.st,h.turn,h.big,h.c0,h.c0',h.c1,h.c1',h.f0,h.f1,h.rd,h.nd,(fun _=>rfl),h.v1,h.v2,h.v4,h.v6,h.v7,h.v8,h.v9,h.v11,h.v13,h.ra,h.ra',h.rb,h.rb',h.nodes⟩
theorem EI.s1 (h:EI R s m d w wr a n c a2 c2 below acc vs p bd r0 N D V W):EI R s m d w wr a n c a2 c2 below acc vs p bd r0 N (Q1x D 1) (Q24 V 1 (.slice a n c)) W:=⟨h.st,h.turn,h.big,h.c0,h.c0',h.c1,h.c1',h.f0,h.f1,h.rd,h.nd,h.v0,(fun _=>rfl),h.v2,h.v4,h.v6,h.v7,h.v8,h.v9,h.v11,h.v13,h.ra,h.ra',h.rb,h.rb',h.nodes⟩
theorem EI.s2 (h:EI R s m d w wr a n c a2 c2 below acc vs p bd r0 N D V W):EI R s m d w wr a n c a2 c2 below acc vs p bd r0 N (Q1x D 2) (Q24 V 2 (.pointer (some ⟨R,0,none⟩))) W:=⟨h.st,h.turn,h.big,h.c0,h.c0',h.c1,h.c1',h.f0,h.f1,h.rd,h.nd,h.v0,h.v1,(fun _=>rfl),h.v4,h.v6,h.v7,h.v8,h.v9,h.v11,h.v13,h.ra,h.ra',h.rb,h.rb',h.nodes⟩
theorem EI.s6 (h:EI R s m d w wr a n c a2 c2 below acc vs p bd r0 N D V W):EI R s m d w wr a n c a2 c2 below acc vs p bd r0 N (Q1x D 6) (Q24 V 6 (.pointer (some ⟨w.heap.size,1,none⟩))) W:=⟨h.st,h.turn,h.big,h.c0,h.c0',h.c1,h.c1',h.f0,h.f1,h.rd,h.nd,h.v0,h.v1,h.v2,h.v4,(fun _=>rfl),h.v7,h.v8,h.v9,h.v11,h.v13,h.ra,h.ra',h.rb,h.rb',h.nodes⟩
theorem EI.s7 (h:EI R s m d w wr a n c a2 c2 below acc vs p bd r0 N D V W):EI R s m d w wr a n c a2 c2 below acc vs p bd r0 N (Q1x D 7) (Q24 V 7 (.slice a2 n c2)) W:=⟨h.st,h.turn,h.big,h.c0,h.c0',h.c1,h.c1',h.f0,h.f1,h.rd,h.nd,h.v0,h.v1,h.v2,h.v4,h.v6,(fun _=>rfl),h.v8,h.v9,h.v11,h.v13,h.ra,h.ra',h.rb,h.rb',h.nodes⟩
theorem EI.s8 (h:EI R s m d w wr a n c a2 c2 below acc vs p bd r0 N D V W):EI R s m d w wr a n c a2 c2 below acc vs p bd r0 N (Q1x D 8) (Q24 V 8 (.bool below)) W:=⟨h.st,h.turn,h.big,h.c0,h.c0',h.c1,h.c1',h.f0,h.f1,h.rd,h.nd,h.v0,h.v1,h.v2,h.v4,h.v6,h.v7,(fun _=>rfl),h.v9,h.v11,h.v13,h.ra,h.ra',h.rb,h.rb',h.nodes⟩
theorem EI.s11 (h:EI R s m d w wr a n c a2 c2 below acc vs p bd r0 N D V W):EI R s m d w wr a n c a2 c2 below acc vs p bd r0 N (Q1x D 11) (Q24 V 11 (.pointer (some ⟨w.heap.size,0,none⟩))) W:=⟨h.st,h.turn,h.big,h.c0,h.c0',h.c1,h.c1',h.f0,h.f1,h.rd,h.nd,h.v0,h.v1,h.v2,h.v4,h.v6,h.v7,h.v8,h.v9,(fun _=>rfl),h.v13,h.ra,h.ra',h.rb,h.rb',h.nodes⟩
theorem EI.s13 (h:EI R s m d w wr a n c a2 c2 below acc vs p bd r0 N D V W):EI R s m d w wr a n c a2 c2 below acc vs p bd r0 N (Q1x D 13) (Q24 V 13 (.pointer (some ⟨w.heap.size,1,none⟩))) W:=⟨h.st,h.turn,h.big,h.c0,h.c0',h.c1,h.c1',h.f0,h.f1,h.rd,h.nd,h.v0,h.v1,h.v2,h.v4,h.v6,h.v7,h.v8,h.v9,h.v11,(fun _=>rfl),h.ra,h.ra',h.rb,h.rb',h.nodes⟩
theorem EI.drop {k:Nat} (hk:k=12∨k=14) {v:Value} (h:EI R s m d w wr a n c a2 c2 below acc vs p bd r0 N D (Q24 V k v) W):EI R s m d w wr a n c a2 c2 below acc vs p bd r0 N D V W:=by
 rcases hk with rfl|rfl
 ·exact ⟨h.st,h.turn,h.big,h.c0,h.c0',h.c1,h.c1',h.f0,h.f1,h.rd,h.nd,h.v0,h.v1,h.v2,h.v4,h.v6,h.v7,h.v8,h.v9,h.v11,h.v13,h.ra,h.ra',h.rb,h.rb',h.nodes⟩
 ·exact ⟨h.st,h.turn,h.big,h.c0,h.c0',h.c1,h.c1',h.f0,h.f1,h.rd,h.nd,h.v0,h.v1,h.v2,h.v4,h.v6,h.v7,h.v8,h.v9,h.v11,h.v13,h.ra,h.ra',h.rb,h.rb',h.nodes⟩
theorem EI.s3 (h:EI R s m d w wr a n c a2 c2 below acc vs p bd r0 N D V W) (d4:D 4=false) (d5:D 5=false) (d10:D 10=false) (d12:D 12=false) (d14:D 14=false) {t:TypeId} {u:Value} (hN:Qqa R s m d r0 W (.returned (.iface t u)) W'):
 EI R s m d w wr a n c a2 c2 below acc vs p bd r0 W'.heap.size (Q1x D 3) (Q24 V 3 (.iface t u)) W':=by
 obtain ⟨hR,F0,ha,QF⟩:=h.st;obtain ⟨t',u',he,ht,h2⟩:=hN;injection he with he;injection he with e1 e2;subst e1;subst e2;have V7:w.heap.size<W.heap.size:=Uc F0 h.big;have hbR:¬OnR R w.heap.size:=fun (e:w.heap.size=R)=>by omega
 have e0:=ht.cell (p:=⟨w.heap.size,0,none⟩) V7 hbR;have e1:=ht.cell (p:=⟨w.heap.size,1,none⟩) V7 hbR;exact ⟨h.st,(h.turn.trans0 ht),(Uj h.big ht.size),(fun hd=>e0.trans (h.c0 hd)),(fun hd=>ff d12 hd),(fun hd=>e1.trans (h.c1 hd)),(fun hd=>ff d14 hd),((ht.frozen (p:=⟨w.heap.size,0,none⟩) V7 hbR).trans h.f0),((ht.frozen (p:=⟨w.heap.size,1,none⟩) V7 hbR).trans h.f1),(fun hd=>tf hd),(fun _=>⟨⟨Uj h.big ht.size,Ue _⟩,t,u,rfl,by
  cases r0 with
  |error q=>exact h2
  |ok z=>exact ⟨h2.1.more (fun k hk=>hk.imp (fun h1=>Uc h1 h.big) id),h2.2⟩⟩),h.v0,h.v1,h.v2,(fun hd=>ff d4 hd),h.v6,h.v7,h.v8,(fun hd=>by
  obtain ⟨b9,q1,q2,q3⟩:=h.v9 hd;exact ⟨b9,q1,q2,(ht.block b9 (Uo.1 q3).1 (fun (e:b9=R)=>by omega)).trans q3⟩),h.v11,h.v13,(fun hd=>(h.ra hd).turn ht (fun x hx (e:x.block=R)=>by have:=ha x hx;omega)),(fun hd=>ff d5 hd),(fun hd=>(h.rb hd).turn ht (fun x hx (e:x.block=R)=>by have:=QF x hx;omega)),(fun hd=>ff d10 hd),(h.nodes.turn ht (fun k (hk:k=R)=>.inl (.inl (by omega))))⟩
theorem EI.s4 (h:EI R s m d w wr a n c a2 c2 below acc vs p bd r0 N D V W):EI R s m d w wr a n c a2 c2 below acc vs p bd r0 N (Q1x D 4) (Q24 V 4 (.slice (some ⟨W.heap.size,0,none⟩) 1 1)) (W.alloc (.cells #[V 3] 119)):=by
 obtain ⟨hR,F0,ha,QF⟩:=h.st;have V7:w.heap.size<W.heap.size:=Uc F0 h.big;have hb:Bw W (W.alloc (.cells #[V 3] 119)):=Ba;have e0:=hb.cell (p:=⟨w.heap.size,0,none⟩) V7;have e1:=hb.cell (p:=⟨w.heap.size,1,none⟩) V7;exact ⟨h.st,(h.turn.trans0 (Q0l.of_below hb _)),(Uj h.big hb.size),(fun hd=>e0.trans (h.c0 hd)),(fun hd=>e0.trans (h.c0' hd)),(fun hd=>e1.trans (h.c1 hd)),(fun hd=>e1.trans (h.c1' hd)),((hb.frozen (p:=⟨w.heap.size,0,none⟩) V7).trans h.f0),((hb.frozen (p:=⟨w.heap.size,1,none⟩) V7).trans h.f1),(fun hd=>(h.rd hd).step hb),(fun hd=>by
  obtain ⟨q0,t,u,q1,q2⟩:=h.nd hd;refine ⟨⟨q0.1,Uj q0.2 hb.size⟩,t,u,q1,?_⟩;cases r0 with
  |error q=>exact ⟨q2.1.step hb,q2.2⟩
  |ok z=>exact ⟨q2.1.step hb,q2.2.1.step hb,q2.2.2⟩),h.v0,h.v1,h.v2,(fun _=>⟨W.heap.size,rfl,h.big,Up _ _⟩),h.v6,h.v7,h.v8,(fun hd=>by
  obtain ⟨b9,q1,q2,q3⟩:=h.v9 hd;exact ⟨b9,q1,q2,(hb.block b9 (Uo.1 q3).1).trans q3⟩),h.v11,h.v13,(fun hd=>(h.ra hd).call hb),(fun hd=>by
  obtain ⟨g,cap,q1,q2,q3⟩:=h.ra' hd;exact ⟨g,cap,q1,q2.call hb,q3⟩),(fun hd=>(h.rb hd).call hb),(fun hd=>by
  obtain ⟨g,cap,q1,q2,q3⟩:=h.rb' hd;exact ⟨g,cap,q1,q2.call hb,q3⟩),(h.nodes.turn (Q0l.of_below hb fun _=>False) (fun _ h=>h.elim))⟩
theorem EI.s9 (h:EI R s m d w wr a n c a2 c2 below acc vs p bd r0 N D V W):EI R s m d w wr a n c a2 c2 below acc vs p bd r0 N (Q1x D 9) (Q24 V 9 (.slice (some ⟨W.heap.size,0,none⟩) 1 1)) (W.alloc (.cells #[.bool below] 4)):=by
 obtain ⟨hR,F0,ha,QF⟩:=h.st;have V7:w.heap.size<W.heap.size:=Uc F0 h.big;have hb:Bw W (W.alloc (.cells #[.bool below] 4)):=Ba;have e0:=hb.cell (p:=⟨w.heap.size,0,none⟩) V7;have e1:=hb.cell (p:=⟨w.heap.size,1,none⟩) V7;exact ⟨h.st,(h.turn.trans0 (Q0l.of_below hb _)),(Uj h.big hb.size),(fun hd=>e0.trans (h.c0 hd)),(fun hd=>e0.trans (h.c0' hd)),(fun hd=>e1.trans (h.c1 hd)),(fun hd=>e1.trans (h.c1' hd)),((hb.frozen (p:=⟨w.heap.size,0,none⟩) V7).trans h.f0),((hb.frozen (p:=⟨w.heap.size,1,none⟩) V7).trans h.f1),(fun hd=>(h.rd hd).step hb),(fun hd=>by
  obtain ⟨q0,t,u,q1,q2⟩:=h.nd hd;refine ⟨⟨q0.1,Uj q0.2 hb.size⟩,t,u,q1,?_⟩;cases r0 with
  |error q=>exact ⟨q2.1.step hb,q2.2⟩
  |ok z=>exact ⟨q2.1.step hb,q2.2.1.step hb,q2.2.2⟩),h.v0,h.v1,h.v2,(fun hd=>by
  obtain ⟨b9,q1,q2,q3⟩:=h.v4 hd;exact ⟨b9,q1,q2,(hb.block b9 (Uo.1 q3).1).trans q3⟩),h.v6,h.v7,h.v8,(fun _=>⟨W.heap.size,rfl,h.big,Up _ _⟩),h.v11,h.v13,(fun hd=>(h.ra hd).call hb),(fun hd=>by
  obtain ⟨g,cap,q1,q2,q3⟩:=h.ra' hd;exact ⟨g,cap,q1,q2.call hb,q3⟩),(fun hd=>(h.rb hd).call hb),(fun hd=>by
  obtain ⟨g,cap,q1,q2,q3⟩:=h.rb' hd;exact ⟨g,cap,q1,q2.call hb,q3⟩),(h.nodes.turn (Q0l.of_below hb fun _=>False) (fun _ h=>h.elim))⟩
theorem EI.s5 (h:EI R s m d w wr a n c a2 c2 below acc vs p bd r0 N D V W) (d3:D 3=true) (d5:D 5=false) (d10:D 10=false) (d12:D 12=false) (d14:D 14=false) {g cap H:Nat} (K0:Row W' (w.heap.size+1) 119 1 (some ⟨g,0,none⟩) (n+1) cap (vs++[V 3])) (Z5:W.grownBy W' (Value.slice a n c).ownBlock) (J2:(Value.slice a n c).ownBlock=some g∨g=H) (hH:W.heap.size=H):
 EI R s m d w wr a n c a2 c2 below acc vs p bd r0 N (Q1x D 5) (Q24 V 5 (.slice (some ⟨g,0,none⟩) (n+1) cap)) W':=by
 obtain ⟨hR,F0,ha,QF⟩:=h.st;have V7:w.heap.size<W.heap.size:=Uc F0 h.big;have ht:Q0l (fun k=>∃x,a=some x/\x.block=k) W W':=Q0l.of_grown Z5 fun r hr _=>by
  cases a with
  |none=>simp[Value.ownBlock] at hr
  |some x=>exact ⟨x,rfl,by simpa[Value.ownBlock] using hr⟩
 have E5:∀k,(∃x,a=some x/\x.block=k)->w.heap.size+1<=k/\k<wr.heap.size:=by
  rintro k ⟨x,hx,rfl⟩;exact ha x hx
 have nb:¬(∃x,a=some x/\x.block=w.heap.size):=fun e=>by have:=E5 _ e;omega
 have nR:¬(∃x,a=some x/\x.block=R):=fun e=>by have:=E5 _ e;omega
 have e0:=ht.cell (p:=⟨w.heap.size,0,none⟩) V7 nb;have e1:=ht.cell (p:=⟨w.heap.size,1,none⟩) V7 nb;exact ⟨h.st,(h.turn.trans ht (fun k hk e=>by have:=E5 _ e;omega)),(Uj h.big ht.size),(fun hd=>e0.trans (h.c0 hd)),(fun hd=>ff d12 hd),(fun hd=>e1.trans (h.c1 hd)),(fun hd=>ff d14 hd),((ht.frozen (p:=⟨w.heap.size,0,none⟩) V7 nb).trans h.f0),((ht.frozen (p:=⟨w.heap.size,1,none⟩) V7 nb).trans h.f1),(fun hd=>ff hd d3),(fun hd=>by
  obtain ⟨q0,t,u,q1,q2⟩:=h.nd hd;refine ⟨⟨q0.1,Uj q0.2 ht.size⟩,t,u,q1,?_⟩;cases r0 with
  |error q=>exact ⟨q2.1.keep ht nR,q2.2⟩
  |ok z=>exact ⟨q2.1.turn ht (fun k hk=>.inl (E5 k hk).2),q2.2.1.keep ht nR,q2.2.2⟩),h.v0,h.v1,h.v2,(fun hd=>by
  obtain ⟨b9,q1,q2,q3⟩:=h.v4 hd;exact ⟨b9,q1,q2,(ht.block b9 (Uo.1 q3).1 (fun e=>by have:=E5 _ e;omega)).trans q3⟩),h.v6,h.v7,h.v8,(fun hd=>by
  obtain ⟨b9,q1,q2,q3⟩:=h.v9 hd;exact ⟨b9,q1,q2,(ht.block b9 (Uo.1 q3).1 (fun e=>by have:=E5 _ e;omega)).trans q3⟩),h.v11,h.v13,(fun hd=>tf hd),(fun _=>⟨g,cap,rfl,K0,by
  rcases J2 with h1|h1
  ·cases a with
   |none=>simp[Value.ownBlock] at h1
   |some x=>exact .inl ⟨x,rfl,by simpa[Value.ownBlock] using h1⟩
  ·exact .inr (by have:=(h.nd d3).1.2;omega)⟩),(fun hd=>(h.rb hd).turn ht (fun y hy e=>by obtain ⟨x,hx,e⟩:=e;exact Qhl (h.ra d5) (h.rb hd) (by decide) hx hy e)),(fun hd=>ff d10 hd),(h.nodes.turn ht (fun k hk=>.inl (.inr (.inl hk))))⟩
theorem EI.s10 (h:EI R s m d w wr a n c a2 c2 below acc vs p bd r0 N D V W) (d3:D 3=true) (d5:D 5=true) (d10:D 10=false) (d12:D 12=false) (d14:D 14=false) {g cap H:Nat} (K0:Row W' (w.heap.size+1) 4 1 (some ⟨g,0,none⟩) (n+1) cap (acc.map (fun z=>Value.bool z.1)++[.bool below])) (Z5:W.grownBy W' (Value.slice a2 n c2).ownBlock) (J2:(Value.slice a2 n c2).ownBlock=some g∨g=H) (hH:W.heap.size=H):
 EI R s m d w wr a n c a2 c2 below acc vs p bd r0 N (Q1x D 10) (Q24 V 10 (.slice (some ⟨g,0,none⟩) (n+1) cap)) W':=by
 obtain ⟨hR,F0,ha,QF⟩:=h.st;have V7:w.heap.size<W.heap.size:=Uc F0 h.big;have ht:Q0l (fun k=>∃x,a2=some x/\x.block=k) W W':=Q0l.of_grown Z5 fun r hr _=>by
  cases a2 with
  |none=>simp[Value.ownBlock] at hr
  |some x=>exact ⟨x,rfl,by simpa[Value.ownBlock] using hr⟩
 have E5:∀k,(∃x,a2=some x/\x.block=k)->w.heap.size+1<=k/\k<wr.heap.size:=by
  rintro k ⟨x,hx,rfl⟩;exact QF x hx
 have nb:¬(∃x,a2=some x/\x.block=w.heap.size):=fun e=>by have:=E5 _ e;omega
 have nR:¬(∃x,a2=some x/\x.block=R):=fun e=>by have:=E5 _ e;omega
 have e0:=ht.cell (p:=⟨w.heap.size,0,none⟩) V7 nb;have e1:=ht.cell (p:=⟨w.heap.size,1,none⟩) V7 nb;exact ⟨h.st,(h.turn.trans ht (fun k hk e=>by have:=E5 _ e;omega)),(Uj h.big ht.size),(fun hd=>e0.trans (h.c0 hd)),(fun hd=>ff d12 hd),(fun hd=>e1.trans (h.c1 hd)),(fun hd=>ff d14 hd),((ht.frozen (p:=⟨w.heap.size,0,none⟩) V7 nb).trans h.f0),((ht.frozen (p:=⟨w.heap.size,1,none⟩) V7 nb).trans h.f1),(fun hd=>ff hd d3),(fun hd=>by
  obtain ⟨q0,t,u,q1,q2⟩:=h.nd hd;refine ⟨⟨q0.1,Uj q0.2 ht.size⟩,t,u,q1,?_⟩;cases r0 with
  |error q=>exact ⟨q2.1.keep ht nR,q2.2⟩
  |ok z=>exact ⟨q2.1.turn ht (fun k hk=>.inl (E5 k hk).2),q2.2.1.keep ht nR,q2.2.2⟩),h.v0,h.v1,h.v2,(fun hd=>by
  obtain ⟨b9,q1,q2,q3⟩:=h.v4 hd;exact ⟨b9,q1,q2,(ht.block b9 (Uo.1 q3).1 (fun e=>by have:=E5 _ e;omega)).trans q3⟩),h.v6,h.v7,h.v8,(fun hd=>by
  obtain ⟨b9,q1,q2,q3⟩:=h.v9 hd;exact ⟨b9,q1,q2,(ht.block b9 (Uo.1 q3).1 (fun e=>by have:=E5 _ e;omega)).trans q3⟩),h.v11,h.v13,(fun hd=>ff hd d5),(fun hd=>by
  obtain ⟨g1,cap1,q1,q2,q3⟩:=h.ra' hd;refine ⟨g1,cap1,q1,q2.turn ht (fun y hy e=>?_),q3⟩;obtain ⟨x,hx,e⟩:=e;exact Qhl q2 (h.rb d10) (by decide) hy hx e.symm),(fun hd=>tf hd),(fun _=>⟨g,cap,rfl,K0,by
  rcases J2 with h1|h1
  ·cases a2 with
   |none=>simp[Value.ownBlock] at h1
   |some x=>exact .inl ⟨x,rfl,by simpa[Value.ownBlock] using h1⟩
  ·exact .inr (by have:=(h.nd d3).1.2;omega)⟩),(h.nodes.turn ht (fun k hk=>.inl (.inr (.inr hk))))⟩
theorem EI.s12 (h:EI R s m d w wr a n c a2 c2 below acc vs p bd r0 N D V W) (d3:D 3=true) (d5:D 5=true) (d10:D 10=true) (d12:D 12=false) (v:Value):
 EI R s m d w wr a n c a2 c2 below acc vs p bd r0 N (Q1x D 12) (Q24 V 12 v) (W.setCell ⟨w.heap.size,0,none⟩ (V 5)):=by
 obtain ⟨hR,F0,ha,QF⟩:=h.st;have V7:w.heap.size<W.heap.size:=Uc F0 h.big;have ht:Q0l (fun k=>k=w.heap.size) W (W.setCell ⟨w.heap.size,0,none⟩ (V 5)):=Q0l.setCell (fun k=>k=w.heap.size) W (p:=⟨w.heap.size,0,none⟩) rfl _;have nR:¬(R=w.heap.size):=by omega
 exact ⟨h.st,(h.turn.trans ht (fun k hk (e:k=w.heap.size)=>by omega)),(Uj h.big ht.size),(fun hd=>tf hd),(fun _=>UF _ _ _ (by rw[h.c0 d12];rfl)),(fun hd=>(Uf _ _ _ _ (by simp)).trans (h.c1 hd)),(fun hd=>(Uf _ _ _ _ (by simp)).trans (h.c1' hd)),((Us _ _ _ _).trans h.f0),((Us _ _ _ _).trans h.f1),(fun hd=>ff hd d3),(fun hd=>by
  obtain ⟨q0,t,u,q1,q2⟩:=h.nd hd;refine ⟨⟨q0.1,Uj q0.2 ht.size⟩,t,u,q1,?_⟩;cases r0 with
  |error q=>exact ⟨q2.1.keep ht nR,q2.2⟩
  |ok z=>exact ⟨q2.1.turn ht (fun k (hk:k=w.heap.size)=>.inl (by omega)),q2.2.1.keep ht nR,q2.2.2⟩),h.v0,h.v1,h.v2,(fun hd=>by
  obtain ⟨b9,q1,q2,q3⟩:=h.v4 hd;exact ⟨b9,q1,q2,(ht.block b9 (Uo.1 q3).1 (fun (e:b9=w.heap.size)=>by omega)).trans q3⟩),h.v6,h.v7,h.v8,(fun hd=>by
  obtain ⟨b9,q1,q2,q3⟩:=h.v9 hd;exact ⟨b9,q1,q2,(ht.block b9 (Uo.1 q3).1 (fun (e:b9=w.heap.size)=>by omega)).trans q3⟩),h.v11,h.v13,(fun hd=>ff hd d5),(fun hd=>by
  obtain ⟨g1,cap1,q1,q2,q3⟩:=h.ra' hd;exact ⟨g1,cap1,q1,q2.turn ht (fun y hy (e:y.block=w.heap.size)=>by have:=Q2k q2 hy;omega),q3⟩),(fun hd=>ff hd d10),(fun hd=>by
  obtain ⟨g1,cap1,q1,q2,q3⟩:=h.rb' hd;exact ⟨g1,cap1,q1,q2.turn ht (fun y hy (e:y.block=w.heap.size)=>by have:=Q2k q2 hy;omega),q3⟩),(h.nodes.turn ht (fun k (hk:k=w.heap.size)=>.inl (.inl (by omega))))⟩
theorem EI.s14 (h:EI R s m d w wr a n c a2 c2 below acc vs p bd r0 N D V W) (d3:D 3=true) (d5:D 5=true) (d10:D 10=true) (d14:D 14=false) (v:Value):
 EI R s m d w wr a n c a2 c2 below acc vs p bd r0 N (Q1x D 14) (Q24 V 14 v) (W.setCell ⟨w.heap.size,1,none⟩ (V 10)):=by
 obtain ⟨hR,F0,ha,QF⟩:=h.st;have V7:w.heap.size<W.heap.size:=Uc F0 h.big;have ht:Q0l (fun k=>k=w.heap.size) W (W.setCell ⟨w.heap.size,1,none⟩ (V 10)):=Q0l.setCell (fun k=>k=w.heap.size) W (p:=⟨w.heap.size,1,none⟩) rfl _;have nR:¬(R=w.heap.size):=by omega
 exact ⟨h.st,(h.turn.trans ht (fun k hk (e:k=w.heap.size)=>by omega)),(Uj h.big ht.size),(fun hd=>(Uf _ _ _ _ (by simp)).trans (h.c0 hd)),(fun hd=>(Uf _ _ _ _ (by simp)).trans (h.c0' hd)),(fun hd=>tf hd),(fun _=>UF _ _ _ (by rw[h.c1 d14];rfl)),((Us _ _ _ _).trans h.f0),((Us _ _ _ _).trans h.f1),(fun hd=>ff hd d3),(fun hd=>by
  obtain ⟨q0,t,u,q1,q2⟩:=h.nd hd;refine ⟨⟨q0.1,Uj q0.2 ht.size⟩,t,u,q1,?_⟩;cases r0 with
  |error q=>exact ⟨q2.1.keep ht nR,q2.2⟩
  |ok z=>exact ⟨q2.1.turn ht (fun k (hk:k=w.heap.size)=>.inl (by omega)),q2.2.1.keep ht nR,q2.2.2⟩),h.v0,h.v1,h.v2,(fun hd=>by
  obtain ⟨b9,q1,q2,q3⟩:=h.v4 hd;exact ⟨b9,q1,q2,(ht.block b9 (Uo.1 q3).1 (fun (e:b9=w.heap.size)=>by omega)).trans q3⟩),h.v6,h.v7,h.v8,(fun hd=>by
  obtain ⟨b9,q1,q2,q3⟩:=h.v9 hd;exact ⟨b9,q1,q2,(ht.block b9 (Uo.1 q3).1 (fun (e:b9=w.heap.size)=>by omega)).trans q3⟩),h.v11,h.v13,(fun hd=>ff hd d5),(fun hd=>by
  obtain ⟨g1,cap1,q1,q2,q3⟩:=h.ra' hd;exact ⟨g1,cap1,q1,q2.turn ht (fun y hy (e:y.block=w.heap.size)=>by have:=Q2k q2 hy;omega),q3⟩),(fun hd=>ff hd d10),(fun hd=>by
  obtain ⟨g1,cap1,q1,q2,q3⟩:=h.rb' hd;exact ⟨g1,cap1,q1,q2.turn ht (fun y hy (e:y.block=w.heap.size)=>by have:=Q2k q2 hy;omega),q3⟩),(h.nodes.turn ht (fun k (hk:k=w.heap.size)=>.inl (.inl (by omega))))⟩
structure Qcg (R:Nat) (w wr:World) (a:OA) (n c:Nat) (a2:OA) (c2:Nat) (acc:List (Bool × Ex)) (vs:LV):Prop where
 turn:Q0l (OnR R) w wr
 c0:wr.cell? ⟨w.heap.size,0,none⟩=some (.slice a n c)
 c1:wr.cell? ⟨w.heap.size,1,none⟩=some (.slice a2 n c2)
 f0:wr.frozen? ⟨w.heap.size,0,none⟩=false
 f1:wr.frozen? ⟨w.heap.size,1,none⟩=false
 ra:Row wr (w.heap.size+1) 119 1 a n c vs
 rb:Row wr (w.heap.size+1) 4 1 a2 n c2 (acc.map fun z=>Value.bool z.1)
 nodes:Q2c (fpX w.heap.size a a2) wr (acc.map (·.2)) vs
 len:acc.length=n
theorem Qcg.lt (h:Qcg R w wr a n c a2 c2 acc vs):w.heap.size<wr.heap.size:=Uz h.c0
theorem Qcg.step (h:Qcg R w wr a n c a2 c2 acc vs) (hR:R<w.heap.size) (ht:Q0l (OnR R) wr W'):Qcg R w W' a n c a2 c2 acc vs:=
 ⟨h.turn.trans0 ht,(ht.cell (p:=⟨w.heap.size,0,none⟩) h.lt (fun (e:w.heap.size=R)=>by omega)).trans h.c0,(ht.cell (p:=⟨w.heap.size,1,none⟩) h.lt (fun (e:w.heap.size=R)=>by omega)).trans h.c1,
   (ht.frozen (p:=⟨w.heap.size,0,none⟩) h.lt (fun (e:w.heap.size=R)=>by omega)).trans h.f0,(ht.frozen (p:=⟨w.heap.size,1,none⟩) h.lt (fun (e:w.heap.size=R)=>by omega)).trans h.f1,
   h.ra.turn ht (fun x hx (e:x.block=R)=>by have:=Q2k h.ra hx;omega),h.rb.turn ht (fun x hx (e:x.block=R)=>by have:=Q2k h.rb hx;omega),h.nodes.turn ht (fun k (hk:k=R)=>.inl (by omega)),h.len⟩
theorem Qcg.start (h:Qcg R w wr a n c a2 c2 acc vs) (hR:R<w.heap.size) (hr:Q17 wr R s (p:Int) m d bd) (V:Nat->Value):EI R s m d w wr a n c a2 c2 below acc vs p bd r0 0 (fun _=>false) V wr.drew:=
 ⟨⟨hR,h.lt,fun _ hx=>Q2k h.ra hx,fun _ hx=>Q2k h.rb hx⟩,h.turn.drew,Ue _,fun _=>h.c0,tf2,fun _=>h.c1,tf2,h.f0,h.f1,fun _=>hr.drew,tf2,tf2,tf2,tf2,tf2,tf2,tf2,tf2,tf2,tf2,tf2,fun _=>h.ra.drew,tf2,fun _=>h.rb.drew,tf2,
   (h.nodes.more (fp':=fun k=>fpX w.heap.size a a2 k∨wr.heap.size<=k) (fun _ hk=>hk)).turn (Qnf (Q0l.refl (fun _=>False) wr)) (fun _ h=>h.elim)⟩
def Qv3 (R:Nat) (s:ByteArray) (m d:Int) (w:World) (n:Nat) (below:Bool) (acc:List (Bool × Ex)) (vs:LV) (r0:PR Ex) (wx:World):Prop:=
 ∃g cap g2 cap2 v,wx.cell? ⟨w.heap.size,0,none⟩=some (.slice (some ⟨g,0,none⟩) (n+1) cap)/\wx.cell? ⟨w.heap.size,1,none⟩=some (.slice (some ⟨g2,0,none⟩) (n+1) cap2)/\Q0l (OnR R) w wx/\match r0 with
  | .ok (x,q)=>Qcg R w wx (some ⟨g,0,none⟩) (n+1) cap (some ⟨g2,0,none⟩) cap2 (acc++[(below,x)]) (vs++[v])/\Q17 wx R s (q:Int) m d false/\q<=s.size
  | .error q=>Q17 wx R s (q:Int) m d true/\q<=s.size
theorem EI.fin (h:EI R s m d w wr a n c a2 c2 below acc vs p bd r0 N D V W) (hl:acc.length=n) (hD:∀j,j<15->D j=true):Qv3 R s m d w n below acc vs r0 W:=by
 obtain ⟨hR,F0,ha,QF⟩:=h.st;obtain ⟨g,cap,e5,K0,hg⟩:=h.ra' (hD 5 (by decide));obtain ⟨g2,cap2,e10,I9,Q2⟩:=h.rb' (hD 10 (by decide));have c0:=h.c0' (hD 12 (by decide));have c1:=h.c1' (hD 14 (by decide));rw[e5] at c0;rw[e10] at c1;obtain ⟨hN,t,u,e3,hr⟩:=h.nd (hD 3 (by decide));refine ⟨g,cap,g2,cap2,V 3,c0,c1,h.turn,?_⟩;cases r0 with
 |error q=>exact hr
 |ok z=>
  obtain ⟨x,q⟩:=z;have hlowN:∀k,fpX w.heap.size (some ⟨g,0,none⟩) (some ⟨g2,0,none⟩) k->(k<wr.heap.size∨N<=k):=by
   rintro k (hk|⟨y,hy,hk⟩|⟨y,hy,hk⟩)
   ·exact .inl (by omega)
   ·injection hy with hy;subst hy;rcases hg with ⟨x',Wo,e⟩|e
    ·exact .inl (by have:=ha x' Wo;have hk:g=k:=hk;omega)
    ·exact .inr (by have hk:g=k:=hk;omega)
   ·injection hy with hy;subst hy;rcases Q2 with ⟨x',Wo,e⟩|e
    ·exact .inl (by have:=QF x' Wo;have hk:g2=k:=hk;omega)
    ·exact .inr (by have hk:g2=k:=hk;omega)
  have hold:∀k,fpX w.heap.size (some ⟨g,0,none⟩) (some ⟨g2,0,none⟩) k->(fpX w.heap.size a a2 k∨wr.heap.size<=k):=by
   rintro k (hk|⟨y,hy,hk⟩|⟨y,hy,hk⟩)
   ·exact .inl (.inl hk)
   ·injection hy with hy;subst hy;have hk:g=k:=hk;subst hk;rcases hg with ⟨x',Wo,e⟩|e
    ·exact .inl (.inr (.inl ⟨x',Wo,e⟩))
    ·exact .inr (by omega)
   ·injection hy with hy;subst hy;have hk:g2=k:=hk;subst hk;rcases Q2 with ⟨x',Wo,e⟩|e
    ·exact .inl (.inr (.inr ⟨x',Wo,e⟩))
    ·exact .inr (by omega)
  refine ⟨⟨h.turn,c0,c1,h.f0,h.f1,K0,?_,?_,by rw[Ui,hl];rfl⟩,hr.2⟩
  ·rw[Tq];exact I9
  ·rw[Tq];exact (h.nodes.more fun k hk=>.inl (hold k hk)).snoc (hr.1.more fun k hk=>.inl (hlowN k hk))
end
section
variable {P:Program} {ops:Array Oper}
theorem Q0h {a:Act} {j:Nat} {t:Tmp} {v:Value} (hj:(ops[j]?).bind (·.dst)=some t) (hv:Q09 ops a j=v):a.tmps[t]?.getD undef=v:=by
 unfold Q09 at hv;rw[hj] at hv;have hv:a.tmps.getD t undef=v:=hv;rwa[UA] at hv
theorem Q5r {a:Act} {j:Nat} {t:Tmp} {v:Value} (hj:(ops[j]?).bind (·.dst)=some t) (hv:Q09 ops a j=v):a.eval (.tmp t)=v:=by
 unfold Q09 at hv;rw[hj] at hv;exact hv
theorem Q0u {K:Value->World->Prop} {o:Oper} {a:Act} {w w':World} {u:Value} (hg:o.guard=none) (hr:(execOp a.eval o).run P w=.ok (.value u) w') (h:K u w'):Region.wanted o (yielded ops a.tmps)=true/\Q0r P K ((execOp a.eval o).run P w):=
 ⟨by unfold Region.wanted;rw[hg],by rw[hr];exact h⟩
theorem Q87 {K:Value->World->Prop} {o:Oper} {a:Act} {w w':World} (hg:o.guard=none) (hr:(execOp a.eval o).run P w=.ok .skip w') (h:K undef w'):Region.wanted o (yielded ops a.tmps)=true/\Q0r P K ((execOp a.eval o).run P w):=
 ⟨by unfold Region.wanted;rw[hg],by rw[hr];exact h⟩
theorem Qng {K:Value->World->Prop} {o:Oper} {a:Act} {w:World} {f:FuncId} {args:Array Value} (hg:o.guard=none) (hr:(execOp a.eval o).run P w=.ok (.enter f args) w) (h:Calls P f args w fun e w'=>∃v,e=.returned v/\K v w'):Region.wanted o (yielded ops a.tmps)=true/\Q0r P K ((execOp a.eval o).run P w):=
 ⟨by unfold Region.wanted;rw[hg],by rw[hr];exact h⟩
theorem Qap {K:Value->World->Prop} {o:Oper} {a:Act} {w:World} (hg:o.guard=none) (s x:Operand) (t:TypeId)
 (ho:o.op=.call { callee:=.builtin .append,args:= #[s,x],argTypes:= #[t,t] })
 (base:Nat) (e:TypeId) (i:TypeInfo) (z:Value) (bytes:Nat) (ht:P.underlying t=some (.slice e)) (hi:P.info? e=some i) (hz:i.zero=some z)
 (F8:i.size=1) (Vu:i.bytes=bytes) (Xk:z.cells.size=1) (v:Value) (n:Nat) (xs:LV) (hs:a.eval s=v) (J4:w.ownsRow base e 1 v n xs)
 (b:Nat) (u:Value) (hx:a.eval x=.slice (some ⟨b,0,none⟩) 1 1) (hb:w.heap[b]?=some (.cells #[u] e (0,0))) (h1:u.oneCell'=true)
 (h63:n+1<=maxLen) (o9:(n+1)*bytes<=140737488355328) (hbase:base<=w.heap.size)
 (h:∀g cap w',w'.ownsRow base e 1 (.slice (some ⟨g,0,none⟩) (n+1) cap) (n+1) (xs++[u])->w.grownBy w' v.ownBlock->(v.ownBlock=some g∨g=w.heap.size)->K (.slice (some ⟨g,0,none⟩) (n+1) cap) w'):Region.wanted o (yielded ops a.tmps)=true/\Q0r P K ((execOp a.eval o).run P w):=by
 obtain ⟨g,cap,w',hr,h2,h3,h4,_⟩:=run_append_lies (P:=P) w t o.type base e i z 1 bytes ht hi hz F8 Vu Xk (by decide) v n xs J4 ⟨b,0,none⟩ 1 1 [u] rfl (Tz (cs:= #[u]) hb) (by simpa using h1) (by decide) h63 o9 hbase _ rfl;refine Q0u (u:=.slice (some ⟨g,0,none⟩) (n+1) cap) (w':=w') hg ?_ (h g cap w' h2 h3 h4);unfold execOp;simp only[ho,resolve,invoke,builtin,Sem.run_bind,Sem.run_pure,Result.andThen_ok,List.map_toArray,Xa1,List.map_nil,hs,hx,hr]
end
end Go.Proofs.YtidojbkhlenahaaGreatDoor
namespace Go.Proofs.YtidojbkhlenahaaGreatDoor
open Go.RowKit WordsM
def Q3m (all:List Q01) (q:P4):Option Nat:=(all.map fun m=>p4 m.es).findIdx? fun r=>decide (r=q)
theorem Qhm:∀{T:List Q0m} {c q:Q0m} {j:Nat},T.findIdx? (fun p=>decide (p.2=c.2))=some j->T[j]?=some q->Q5n T c=T.set j (q.1+c.1,q.2)
 |[],c,q,j,h,_=>by simp at h
 |p::r,c,q,j,h,hq=>by
  rw[Q5n];rw[Xbb] at h
  by_cases hp:p.2=c.2
  ·rw[Uu hp];simp only[hp,decide_true,if_true,Un] at h;subst h;simp only[UO,Un] at hq;subst hq;rfl
  ·rw[Uq hp];simp only[hp,decide_false,Xaj,Xbs,Option.map_eq_some_iff] at h;obtain ⟨j',h1,rfl⟩:=h;rw[Qhm h1 (by simpa using hq)];rfl
theorem Qlm:∀{T:List Q0m} {c:Q0m},T.findIdx? (fun p=>decide (p.2=c.2))=none->Q5n T c=T++[c]
 |[],c,_=>rfl
 |p::r,c,h=>by
  rw[Q5n];rw[Xbb] at h
  by_cases hp:p.2=c.2
  ·simp[hp] at h
  ·rw[Uq hp];simp only[hp,decide_false,Xaj,Xbs,Option.map_eq_none_iff] at h;rw[Qlm h];rfl
theorem Qaa {k:Nat} (hk:k<=4):∀{all:List Q01} {E:List Int},(∀m∈all,m.es.length=k)->E.length=k->Q3m all (p4 E)=(all.map Q01.term).findIdx? fun p=>decide (p.2=E)
 |[],E,_,_=>rfl
 |m::r,E,h,hE=>by
  have ih:=Qaa hk (all:=r) (fun m hm=>h m (Xai _ hm)) hE;unfold Q3m at ih⊢;rw[Xa1,Xa1,Xbb,Xbb,ih];have e:decide (p4 m.es=p4 E)=decide (m.term.2=E):=by
   apply Xa4.2
   rw[TC,TC];exact ⟨fun e=>Qv2 (h m (by simp)) hE hk e,fun e=>by have e:m.es=E:=e;rw[e]⟩
  rw[e]
theorem Qqk {all:List Q01} {j:Nat} {m m':Q01} (hm:all[j]?=some m) (he:m'.es=m.es):Q3m (all.set j m')=Q3m all:=by
 funext q
 unfold Q3m
 congr 1
 rw[List.map_set,he];refine Xbh fun i=>?_
 by_cases hi:j=i
 ·subst hi;rw[TI (by rw[UE];exact (Uh.1 hm).1),UI,hm];rfl
 ·rw[Te hi]
theorem Qnh {all:List Q01} {m:Q01} {N:Nat} (hN:all.length=N) (h:Q3m all (p4 m.es)=none):Q3m (all++[m])=fun r=>if r=p4 m.es then some N else Q3m all r:=by
 funext q
 unfold Q3m at h⊢;rw[Tq,List.findIdx?_append]
 by_cases hq:q=p4 m.es
 ·subst hq;rw[h,Uu rfl];simp[Xbb,hN]
 ·rw[Uq hq];have:List.findIdx? (fun r=>decide (r=q)) ([m].map fun m=>p4 m.es)=none:=by
   simp[Xbb];exact fun e=>hq e.symm
  rw[this];cases List.findIdx? (fun r=>decide (r=q)) (all.map fun m=>p4 m.es) <;> rfl
theorem Qth {all:List Q01} {q:P4} {j:Nat} (h:Q3m all q=some j):∃m,all[j]?=some m/\p4 m.es=q:=by
 unfold Q3m at h;obtain ⟨hj,h1,_⟩:=List.findIdx?_eq_some_iff_getElem.1 h;rw[UE] at hj;refine ⟨all[j],Ub hj,?_⟩;simpa using h1
theorem Qti {all:List Q01} {j:Nat} {m':Q01}:(all.set j m').map Q01.term=(all.map Q01.term).set j m'.term:=by rw[List.map_set]
def Qw1 (k:Nat) (T:Int) (m:Q01):Prop:=Q1l k m.es/\-65536<=m.exp/\m.exp<=65536/\64*(m.ws.length:Int)+m.exp<=T
def Qql [LT ZK] (w:World) (ms:List Q01) (k mb:Nat) (s7 s31:Value) (wr:World):Prop:=
 ∃(i:Nat) (a:OA) (N c:Nat) (all:List Q01),s7=.slice a N c/\s31=.int .i64 (i:Int)/\i<=ms.length/\N<=i/\Q2f w.heap.size wr a N c all/\all.map Q01.term=Qak ((ms.take i).map Q01.term)/\
  (∀m∈all,Qw1 k (69632+64*(i:Int)) m)/\Q4t wr mb N (Q3m all)/\Bw w wr
def Qw2 [LT ZK] (w:World) (ms:List Q01) (k mb i p9:Nat) (v0 v1:Value) (aw:OA) (lw cw:Nat) (v3:Value) (m:Q01) (s7 s10:Value) (wx:World):Prop:=
 ∃(a:OA) (N c:Nat) (all:List Q01) (j:Nat) (mj:Q01),s7=.slice a N c/\s10=.int .i64 (j:Int)/\N<=i+1/\Q2f w.heap.size wx a N c all/\all[j]?=some mj/\mj.es=m.es/\
  (∀b e L,Q2m b e L=Q2m mj.neg mj.exp mj.ws+Q2m m.neg m.exp m.ws->(all.set j ⟨b,e,L,mj.es⟩).map Q01.term=Qak ((ms.take (i+1)).map Q01.term))/\
  (∀m∈all,Qw1 k (69632+64*(i:Int)) m)/\Q4t wx mb N (Q3m all)/\Bw w wx/\Q50 wx p9 v0 v1 (.slice aw lw cw) v3/\p9<wx.heap.size/\WordsIn wx aw lw cw m.ws
theorem Q4t.cells {w:World} {b n:Nat} {g:P4->Option Nat} (h:Q4t w b n g) (o:Nat):w.cell? ⟨b,o,none⟩=none:=by
 obtain ⟨D,⟨es,clock,hb,_⟩,_⟩:=h;unfold World.cell?;rw[hb]
theorem Q4t.ne [LT ZK] {w:World} {b n B N c:Nat} {g:P4->Option Nat} (h:Q4t w b n g) {a:OA} {all:List Q01} (hs:Q2f B w a N c all) {x:Addr} (hx:a=some x):x.block≠b:=by
 intro e;obtain ⟨xs,hr⟩:=hs.row;obtain ⟨D,⟨es,clock,hb,_⟩,_⟩:=h;rcases hr.1.form with ⟨h0,_⟩|⟨g',cur,h0,_,_,hh,_⟩
 ·rw[h0] at hx;cases hx
 ·rw[h0] at hx;injection hx with hx;subst hx
  have e:g'=b:=e;subst e;rw[hh] at hb;cases hb
theorem Q4t.below {w w':World} {b n:Nat} {g:P4->Option Nat} (h:Q4t w b n g) (hb:Bw w w'):Q4t w' b n g:=h.keep (hb.block _ h.lt)
end Go.Proofs.YtidojbkhlenahaaGreatDoor
namespace Go.Proofs
open Go.Shelf
def Tryz.J1i:Go.Shelf.Ren:=⟨fun|6=>189|15=>243|14=>242|28=>283|29=>202|20=>275|21=>276|22=>277|23=>278|24=>279|25=>280|26=>281|27=>282|46=>299|47=>300|48=>301|49=>302|50=>303|57=>311|n=>n,fun|22=>42|24=>98|25=>134|3=>3|39=>149|0=>0|53=>150|55=>83|4=>4|46=>293|45=>292|50=>76|5=>5|9=>9|66=>311|70=>160|76=>325|77=>326|n=>n,fun|n=>n⟩
theorem Tryz.J1j:Go.Proofs.SlLaysF0.n6 Tryz.prog Tryz.J1i:=by
 constructor
 case f6=>exact ⟨Tryz.f189.name,by decide,Tryz.func189.trans (congrArg some (by kernel_rfl))⟩
 case f14=>exact ⟨Tryz.f242.name,by decide,Tryz.func242.trans (congrArg some (by kernel_rfl))⟩
 case f20=>exact ⟨Tryz.f275.name,by decide,Tryz.func275.trans (congrArg some (by kernel_rfl))⟩
 case f21=>exact ⟨Tryz.f276.name,by decide,Tryz.func276.trans (congrArg some (by kernel_rfl))⟩
 case f22=>exact ⟨Tryz.f277.name,by decide,Tryz.func277.trans (congrArg some (by kernel_rfl))⟩
 case f23=>exact ⟨Tryz.f278.name,by decide,Tryz.func278.trans (congrArg some (by kernel_rfl))⟩
 case f24=>exact ⟨Tryz.f279.name,by decide,Tryz.func279.trans (congrArg some (by kernel_rfl))⟩
 case f25=>exact ⟨Tryz.f280.name,by decide,Tryz.func280.trans (congrArg some (by kernel_rfl))⟩
 case f26=>exact ⟨Tryz.f281.name,by decide,Tryz.func281.trans (congrArg some (by kernel_rfl))⟩
 case f27=>exact ⟨Tryz.f282.name,by decide,Tryz.func282.trans (congrArg some (by kernel_rfl))⟩
 case f46=>exact ⟨Tryz.f299.name,by decide,Tryz.func299.trans (congrArg some (by kernel_rfl))⟩
 case f49=>exact ⟨Tryz.f302.name,by decide,Tryz.func302.trans (congrArg some (by kernel_rfl))⟩
 case f50=>exact ⟨Tryz.f303.name,by decide,Tryz.func303.trans (congrArg some (by kernel_rfl))⟩
 case f57=>exact ⟨Tryz.f311.name,by decide,Tryz.func311.trans (congrArg some (by kernel_rfl))⟩
 all_goals first|kernel_rfl|(intros;kernel_rfl)|decide
end Go.Proofs
namespace Go.Proofs.YtidojbkhlenahaaGreatDoor
open Go.RowKit WordsM Go.Sort
structure SM [LT ZK] (w:World) (blk:Nat) where
 m:Q01
 aw:OA
 lw:Nat
 cw:Nat
 be:Nat
 oe:Nat
 le:Nat
 ce:Nat
 hi:Q0p w (some ⟨be,oe,none⟩) le ce m.es
 ne:be≠blk
 lt:be<w.heap.size
 hw:WordsIn w aw lw cw m.ws
def Qln [LT ZK] {w:World} {blk:Nat} (x:SM w blk):LV:=[.bool x.m.neg,.int .i64 x.m.exp,.slice x.aw x.lw x.cw,.slice (some ⟨x.be,x.oe,none⟩) x.le x.ce]
def cfM [LT ZK] {w:World} {blk:Nat} (x y:SM w blk):Int:=Q2w y.m.es x.m.es
theorem Qtj [LT ZK] {w:World} {blk:Nat} (x:SM w blk):(Qln x).length=4:=rfl
theorem Qtk [LT ZK] {w:World} {blk:Nat} (x:SM w blk):∀v∈Qln x,v.oneCell'=true:=by
 intro v hv;simp[Qln] at hv;rcases hv with rfl|rfl|rfl|rfl <;> rfl
section
variable {α:Type} [Inhabited α]
theorem Qe8 (enc:α->LV) (k:Nat) (w:World) (blk off n:Nat) (dk:Array α) (os:Array Obj) {p:Addr} (hp:p.block<w.heap.size) (C1:p.block≠blk):(sortWorldK enc k w blk off n dk os).cell? p=w.cell? p:=by
 unfold sortWorldK;have F2:(putRowK enc k (Sort.ahead w n) blk off dk).heap.size=w.heap.size:=by unfold putRowK;rw[size_putRow];rfl
 rw[cell?_grow _ _ _ (by rw[F2];exact hp),cell?_putRowK_other _ _ _ _ _ _ _ C1];rfl
theorem Qe9 (enc:α->LV) (k:Nat) (w:World) (blk off n:Nat) (dk:Array α) (os:Array Obj) {i:Nat} (hp:i<w.heap.size) (C1:i≠blk):(sortWorldK enc k w blk off n dk os).heap[i]?=w.heap[i]?:=by
 unfold sortWorldK;have F2:(putRowK enc k (Sort.ahead w n) blk off dk).heap.size=w.heap.size:=by unfold putRowK;rw[size_putRow];rfl
 rw[heap_grow_old _ _ (by rw[F2];exact hp)];unfold putRowK putRow mapBlock
 show ((Sort.ahead w n).heap.modify blk _)[i]?=_
 rw[Array.getElem?_modify,Uq (fun e=>C1 e.symm)];rfl
theorem Qab (enc:α->LV) (k:Nat) (w:World) (blk off n:Nat) (dk:Array α) (os:Array Obj):w.heap.size<=(sortWorldK enc k w blk off n dk os).heap.size:=by
 unfold sortWorldK;rw[size_grow];have F2:(putRowK enc k (Sort.ahead w n) blk off dk).heap.size=w.heap.size:=by unfold putRowK;rw[size_putRow];rfl
 omega
end
theorem SM.ints [LT ZK] {w w':World} {blk:Nat} (x:SM w blk) (hs:w.heap.size<=w'.heap.size) (hc:∀p:Addr,p.block<w.heap.size->p.block≠blk->w'.cell? p=w.cell? p):Q0p w' (some ⟨x.be,x.oe,none⟩) x.le x.ce x.m.es:=by
 refine ⟨x.hi.len,x.hi.cap,x.hi.most,x.hi.rng,?_⟩;rcases x.hi.rd with h0|⟨b,o,e,hb,Y3⟩
 ·exact .inl h0
 ·refine .inr ⟨b,o,e,Uc hb hs,fun j y hy=>?_⟩;injection e with e;injection e with e1 e2;exact (hc ⟨b,o+j,none⟩ hb (by rw[<-e1];exact x.ne)).trans (Y3 j y hy)
theorem Qch [LT ZK] (u0 u1 u2:Value) (a:OA) (n c:Nat) (E:List Int) (v0 v1 v2:Value) (b:OA) (m d:Nat) (F:List Int) (w:World) (h1:Q0p w a n c E) (h2:Q0p w b m d F):
 Calls Tryz.prog 93 #[.agg #[u0,u1,u2,.slice a n c],.agg #[v0,v1,v2,.slice b m d]] w fun r w'=>r=.returned (.int .i64 (Q2w F E))/\w'=(w.alloc (.cells #[u0,u1,u2,.slice a n c] 98)).alloc (.cells #[v0,v1,v2,.slice b m d] 98):=by
 have C0:Bw w (w.alloc (.cells #[u0,u1,u2,.slice a n c] 98)):=Ba;have B5:(w.alloc (.cells #[u0,u1,u2,.slice a n c] 98)).heap.size=w.heap.size+1:=Ur _ _;have D0:Below (w.alloc (.cells #[u0,u1,u2,.slice a n c] 98)).heap.size (w.alloc (.cells #[u0,u1,u2,.slice a n c] 98)) ((w.alloc (.cells #[u0,u1,u2,.slice a n c] 98)).alloc (.cells #[v0,v1,v2,.slice b m d] 98)):=Ba;have hX:=(Q50.new w u0 u1 u2 (.slice a n c) 98).step D0 (Q0o _ _);have hY:=Q50.new (w.alloc (.cells #[u0,u1,u2,.slice a n c] 98)) v0 v1 v2 (.slice b m d) 98;rw[B5] at hY;have hB:=Below.next0 C0 D0;generalize hW:(w.alloc (.cells #[u0,u1,u2,.slice a n c] 98)).alloc (.cells #[v0,v1,v2,.slice b m d] 98)=W at hX hY hB;have Vf:=hX.c3;have hy3:=hY.c3;have E3:=Qcc b m d F a n c E W (h2.step hB) (h1.step hB);have HC:=Ua E3;clear C0 B5 D0 hX hY hB E3 h1 h2
 go_enter Tryz.func93,Tryz.ntmps93
 go_wp2_with (refine HC.out.mono ?_;rintro r w1 ⟨rfl,rfl⟩)
 go_ret;exact ⟨rfl,rfl⟩
theorem Qtl [LT ZK] {w:World} {blk:Nat}:SWO (ltOf (cfM (w:=w) (blk:=blk))):=by
 refine ⟨fun x=>?_,fun x y z h1 h2=>?_,fun x y z h1 h2=>?_⟩
 ·unfold ltOf cfM;rw[Qbt];rfl
 ·unfold ltOf cfM at*;rw[TC] at*;have a1:=Q3v y.m.es x.m.es;have a2:=Q3v z.m.es y.m.es;have a3:=Q3v z.m.es x.m.es;have:=Q5y x.m.es y.m.es z.m.es (by omega) (by omega);omega
 ·unfold ltOf cfM at*;rw[Tv] at*;intro h3;have a3:=Q3v z.m.es x.m.es
  by_cases e1:Q2w y.m.es x.m.es=0
  ·have e:=(Q6k _ _).1 e1;rw[e] at h2;exact h2 h3
  ·by_cases e2:Q2w z.m.es y.m.es=0
   ·have e:=(Q6k _ _).1 e2;rw[<-e] at h1;exact h1 h3
   ·have:=Q5y z.m.es y.m.es x.m.es (by omega) (by omega);omega
theorem Qtm [LT ZK] {B g n c:Nat} {w:World} {outs:List Q01} (h:Q2f B w (some ⟨g,0,none⟩) n c outs) (hn:n<=1000) (S6:∀m∈outs,-65536<=m.exp/\m.exp<=65536):
 Calls Tryz.prog 189 #[.slice (some ⟨g,0,none⟩) n c,.func (.func 93) #[] #[]] w fun r w'=>r=.returned (.tuple #[])/\
  ∃outs',Q0k w' (some ⟨g,0,none⟩) n c outs'/\outs'.Perm outs/\outs'.Pairwise (fun p q=>¬Q2w p.es q.es<0)/\Below B w w':=by
 have hg:=h.lt rfl;have O5:B<=g:=hg.1;have Q2:g<w.heap.size:=hg.2;obtain ⟨xs,Ql⟩:=h.row;have M3:∀j m,outs[j]?=some m->∃x:SM w g,x.m=m/\(∀c,c<4->w.cell? ⟨g,j*4+c,none⟩=some (Qln x)[c]!):=fun j m hm=>by
  obtain ⟨g',e,aw,lw,cw,be,oe,le,ce,h0,h1,h2,h3,h4,h5,h6,h7⟩:=h.ent j m hm;injection e with e;injection e with e;subst e;refine ⟨⟨m,aw,lw,cw,be,oe,le,ce,h5,h6,h7,h4⟩,rfl,fun c hc=>?_⟩
  match c,hc with
  |0,_=>exact h0
  |1,_=>exact h1
  |2,_=>exact h2
  |3,_=>exact h3
 have Q4:=Ql.1.cap;have eg:∀args w,(callFunc 93 args).run Tryz.prog w=.ok (.enter 93 args) w:=enters_of Tryz.func93 (by kernel_rfl) rfl
 by_cases C1:outs=[]
 ·subst C1;have ZZ:n=0:=h.len.symm;subst ZZ;have u7:=AnyQ.slices_SortFunc Tryz.J1j 4 (fun w=>by kernel_rfl) (fun w=>by kernel_rfl) (fun _:Unit=>[.bool false,.int .i64 0,.slice none 0 0,.slice none 0 0]) (fun _=>rfl) (fun _ v hv=>by simp at hv;rcases hv with rfl|rfl|rfl <;> rfl) (fun _ _=>0) ⟨fun _=>rfl,fun _ _ _ h _=>h,fun _ _ _ h _=>h⟩ 93 #[] g 0 c #[] w eg (fun m os dk _ x y=>by
   refine (Qch _ _ _ none 0 0 [] _ _ _ none 0 0 [] _ ⟨rfl,Ue _,Uv _,⟨fun x hx=>(by cases hx),fun _ _ e=>(by cases e)⟩,.inl rfl⟩ ⟨rfl,Ue _,Uv _,⟨fun x hx=>(by cases hx),fun _ _ e=>(by cases e)⟩,.inl rfl⟩).mono ?_;rintro e w' ⟨rfl,rfl⟩;exact ⟨rfl,0,_,by rw[alloc_eq_grow,alloc_eq_grow,grow_grow];rfl⟩) (fun j hj=>by simp[flatK] at hj) hg.2 (by decide)
  refine Xa6 (show Calls Tryz.prog 189 _ _ _ from u7) ?_;rintro e w' ⟨rfl,d',k,os,hp,hs,rfl⟩;exact ⟨rfl,[],⟨rfl,Uv _,by have:=Q4.2;simpa[maxLen] using this,.inl rfl⟩,List.Perm.refl _,List.Pairwise.nil,rfl,rfl,rfl,Qab _ _ _ _ _ _ _ _,fun i hi=>Qe9 _ _ _ _ _ _ _ _ (by omega) (by omega)⟩
 obtain ⟨m0,KQ⟩:∃m0,outs[0]?=some m0:=by
  cases outs with
  |nil=>exact absurd rfl C1
  |cons x r=>exact ⟨x,rfl⟩
 obtain ⟨x0,_,_⟩:=M3 0 m0 KQ
 haveI:Inhabited (SM w g):=⟨x0⟩
 obtain ⟨d,D3,Z2⟩:∃d:Array (SM w g),d.toList.map (·.m)=outs/\∀j,j<d.size->∀c,c<4->w.cell? ⟨g,j*4+c,none⟩=some (Qln d[j]!)[c]! :=by
  refine ⟨(List.ofFn fun j:Fin outs.length=>Classical.choose (M3 j.val _ (Ub j.isLt))).toArray,?_,fun j hj c hc=>?_⟩
  ·rw[List.toList_toArray,List.map_ofFn];refine Xbh fun i=>?_;rw[List.getElem?_ofFn]
   by_cases hi:i<outs.length
   ·rw[dif_pos hi,Ub hi];exact congrArg some (Classical.choose_spec (M3 i _ (Ub hi))).1
   ·rw[dif_neg hi,Ta (by omega)]
  ·have hj':j<outs.length:=(by simpa using hj);have e:(List.ofFn fun j:Fin outs.length=>Classical.choose (M3 j.val _ (Ub j.isLt))).toArray[j]! =Classical.choose (M3 j _ (Ub hj')):=by
    rw[getElem!_pos _ j hj];simp
   rw[e];exact (Classical.choose_spec (M3 j _ (Ub hj'))).2 c hc
 have hdn:d.size=n:=by rw[<-h.len,<-D3,UE,Xbl]
 have hH:HoldsK Qln 4 w g 0 d:=by
  intro t ht;rw[size_flatK] at ht;rw[get_flatK _ _ _ t ht,UH];have h1:=Z2 (t / 4) (by omega) (t%4) (TH _ (by decide));rw[show t / 4*4+t%4=t by omega] at h1;exact ⟨h1,Ql.1.frozen0 t⟩
 have A5:CmpLays Tryz.prog 93 #[] (Qln (w:=w) (blk:=g)) 4 cfM g 0 d.size w:=by
  intro m os dk _ x y;have hs:=Qab (Qln (w:=w) (blk:=g)) 4 w g 0 m dk os;have hc:=fun p h1 h2=>Qe8 (Qln (w:=w) (blk:=g)) 4 w g 0 m dk os (p:=p) h1 h2;refine (Qch _ _ _ _ _ _ _ _ _ _ _ _ _ _ _ (x.ints hs hc) (y.ints hs hc)).mono ?_;rintro e w' ⟨rfl,rfl⟩;exact ⟨rfl,0,_,by rw[alloc_eq_grow,alloc_eq_grow,grow_grow];rfl⟩
 have u7:=AnyQ.slices_SortFunc Tryz.J1j 4 (fun w=>by kernel_rfl) (fun w=>by kernel_rfl) (Qln (w:=w) (blk:=g)) Qtj Qtk cfM Qtl 93 #[] g 0 c d w eg A5 hH hg.2 (by omega);rw[hdn] at u7;refine Xa6 (show Calls Tryz.prog 189 _ _ _ from u7) ?_;rintro e w' ⟨rfl,d',k,os,hp,hs,rfl⟩;have hperm:d'.toList.Perm d.toList:=by
  have h1:=hp.2.2;have e1:(d'.extract 0 n)=d':=by rw[show n=d'.size by rw[hp.1,hdn],Array.extract_size]
  have e2:(d.extract 0 n)=d:=by rw[<-hdn,Array.extract_size]
  rwa[e1,e2] at h1
 have hdsz:d'.size=n:=by rw[hp.1,hdn]
 have Ww:(d'.toList.map (·.m)).Perm outs:=by rw[<-D3];exact hperm.map _
 have hH':=holdsK_sortWorldK (Qln (w:=w) (blk:=g)) 4 w g 0 k d d' os hg.2 hH hp.1;have WG:=Qab (Qln (w:=w) (blk:=g)) 4 w g 0 k d' os;have hce:=fun p h1 h2=>Qe8 (Qln (w:=w) (blk:=g)) 4 w g 0 k d' os (p:=p) h1 h2;refine ⟨rfl,d'.toList.map (·.m),⟨by rw[UE,Xbl,hdsz],Q4.1,by have:=Q4.2;simpa[maxLen] using this,.inr ⟨g,0,rfl,Uc hg.2 WG,fun j m hm=>?_⟩⟩,Ww,?_,rfl,rfl,rfl,WG,fun i hi=>Qe9 _ _ _ _ _ _ _ _ (by omega) (by omega)⟩
 ·have hj:j<d'.size:=by have:=(Uh.1 hm).1;simpa using this
  have ZD:d'[j]!.m=m:=by
   rw[UI,Tr,UZ hj] at hm;rw[getElem!_pos d' j hj];simpa using hm
  have hc:=fun c (hc:c<4)=>(hH'.cell hj hc).1;have hb:=S6 m (Ww.mem_iff.1 (Ug hm));have hwx:WordsIn (sortWorldK (Qln (w:=w) (blk:=g)) 4 w g 0 k d' os) d'[j]!.aw d'[j]!.lw d'[j]!.cw d'[j]!.m.ws:=by
   have hw:=d'[j]!.hw;refine ⟨hw.len,hw.cap,hw.most,hw.low,?_⟩;rcases Ql.off hw with h0|ho
   ·exact .inl h0
   rcases hw.rd with h0|⟨b,o,e,K4,Y3⟩
   ·exact .inl h0
   ·exact .inr ⟨b,o,e,Uc K4 WG,fun i x hx=>(hce ⟨b,o+i,none⟩ K4 (fun e2=>ho _ e ⟨_,rfl,e2.symm⟩)).trans (Y3 i x hx)⟩
  subst ZD;exact ⟨_,_,_,_,_,_,hc 0 (by decide),hc 1 (by decide),hc 2 (by decide),hc 3 (by decide),hwx,d'[j]!.ints WG hce,by omega,by omega⟩
 ·rw[List.pairwise_map,List.pairwise_iff_getElem];intro i j hi hj Vv;have h1:=hs i j (Uv _) Vv (by have:j<d'.size:=(by simpa using hj);omega);have QE:i<d'.size:=by simpa using hi
  have hj':j<d'.size:=by simpa using hj
  rw[getElem!_pos d' i QE,getElem!_pos d' j hj'] at h1;unfold ltOf cfM at h1;rw[Tv] at h1;simpa using h1
theorem Qtn [LT ZK] {B n c:Nat} {w:World} {a:OA} {outs:List Q01} (h:Q2f B w a n c outs) (hn:n<=1000) (S6:∀m∈outs,-65536<=m.exp/\m.exp<=65536):
 Calls Tryz.prog 189 #[.slice a n c,.func (.func 93) #[] #[]] w fun r w'=>r=.returned (.tuple #[])/\
  ∃outs',Q0k w' a n c outs'/\outs'.Perm outs/\outs'.Pairwise (fun p q=>¬Q2w p.es q.es<0)/\Below B w w':=by
 obtain ⟨xs,hr⟩:=h.row;rcases hr.1.form with ⟨h0,h1⟩|⟨g,cur,h0,_⟩
 ·subst h0;obtain ⟨rfl,rfl⟩:n=0/\c=0:=by omega
  have ho:outs=[]:=TN h.len;subst ho;have u7:=AnyF.slices_SortFunc_none Tryz.J1j none 0 (.func (.func 93) #[] #[]) w;refine Xa6 (show Calls Tryz.prog 189 _ _ _ from u7) ?_;rintro e w' ⟨rfl,rfl⟩;exact ⟨rfl,[],⟨rfl,Ue _,by decide,.inl rfl⟩,List.Perm.refl _,List.Pairwise.nil,Ud _ _⟩
 ·subst h0;exact Qtm h hn S6
theorem Qw3 {k:Nat} {l:List Q0m} {all outs outs':List Q01} (S3:1<=k) (ZU:k<=4) (Jp:(Qak l).Perm (Q23 l)) (C4:¬(Q23 l).any (fun p=> !Qau p.1)=true) (h:all.map Q01.term=Qak l) (ho:outs.map Q01.term=(all.map Q01.term).filter (fun p=>decide (p.1≠0))) (KX:outs.length<=24) (hp:outs'.Perm outs) (hs:outs'.Pairwise (fun p q=>¬Q2w p.es q.es<0)) (X1:∀m∈outs,OkM k m):
 Q41 l=.ok (outs'.map Q01.term)/\Q38 k outs':=by
 have hl:outs.length=((Q23 l).filter fun p=>decide (p.1≠0)).length:=by
  rw[<-UE (f:=Q01.term),ho,h];exact (Jp.filter _).length_eq
 have VV:(outs'.map Q01.term).Perm ((Q23 l).filter fun p=>decide (p.1≠0)):=by
  refine (hp.map _).trans ?_;rw[ho,h];exact Jp.filter _
 have hD:Qbu ((Q23 l).filter fun p=>decide (p.1≠0)):=List.Pairwise.filter _ (Q6l l).1;have C1:(outs'.map Q01.term).Pairwise fun p q=>p.2≠q.2:=VV.symm.pairwise hD.once (fun {p q} h e=>h e.symm);have hd:outs'.Pairwise fun p q=>0<Q2w p.es q.es:=by
  rw[List.pairwise_map] at C1;refine (hs.and C1).imp fun {p q} h=>?_;have e0:Q2w p.es q.es≠0:=fun e=>h.2 ((Q6k _ _).1 e);have:=h.1;omega
 have hD':Qbu (outs'.map Q01.term):=by
  unfold Qbu;rw[List.pairwise_map];exact hd
 refine ⟨?_,S3,ZU,by rw[hp.length_eq];exact KX,fun m hm=>X1 m (hp.mem_iff.1 hm),hd⟩;unfold Q41;rw[Uq C4,Uq (by rw[<-hl];omega)];exact congrArg _ (Qbu.same hD hD' fun p=>(VV.mem_iff).symm)
theorem Q2f.exps [LT ZK] {B n c k:Nat} {w:World} {a:OA} {outs:List Q01} (h:Q2f B w a n c outs) (X1:∀m∈outs,OkM k m):∀m∈outs,-65536<=m.exp/\m.exp<=65536:=by
 intro m hm;obtain ⟨j,hj,rfl⟩:=Xaw hm;obtain ⟨g,_,aw,lw,cw,be,oe,le,ce,_,_,_,_,hw,_⟩:=h.ent j _ (Ub hj);exact (Q7m (X1 _ hm).1.2 hw.low).2
end Go.Proofs.YtidojbkhlenahaaGreatDoor
