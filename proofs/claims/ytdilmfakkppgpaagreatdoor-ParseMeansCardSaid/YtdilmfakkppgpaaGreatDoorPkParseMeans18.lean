/- Part 18 of the proof of LawParseMeans: DigF, RdrB, RdrC. Condition: as each theorem says; none at the end. -/
import Derived.Test.YtdilmfakkppgpaaGreatDoorPkParseMeans17
set_option maxRecDepth 100000
set_option maxHeartbeats 16000000
namespace Go.Proofs.YtdilmfakkppgpaaGreatDoor
open Go.RowKit WordsM DecM
theorem Qm7 (l:List UInt8) (x:Int) (h:Qc4 l=some x): -1000000<=x/\x<=1000000:=by
 cases l with
 |nil=>rw[Qc4] at h;injection h with h;omega
 |cons c r=>
  rw[Qc4] at h
  split at h
  ·cases h
  ·split at h
   ·cases h
   ·rename_i h2
    have hd:Qhk (Q2h r).2:=by
     have h3:=Q68 (Q2h r).2
     rw[List.take_of_length_le (by omega)] at h3
     exact h3
    have hb:dv (Q2h r).2<10^6:=Nat.lt_of_lt_of_le (Qet _ hd) (Nat.pow_le_pow_right (by decide) (by omega))
    have e6:(10:Nat)^6=1000000:=rfl
    rw[e6] at hb
    injection h with h
    split at h <;> omega
def Q4q (w0:World) (Φ:Bool->Int->List Nat->Int->Prop) (r:Ending) (w':World):Prop:=
 ∃neg' e' a' n' c' L er,r=.returned (.tuple #[.agg #[.bool neg',.int .i64 e',.slice a' n' c'],.int .i64 er])/\Φ neg' e' L er/\Q2g w0 w' a' n' c' L/\Below w0.heap.size w0 w'
theorem Q4q.of {w0 w':World} {Φ:Bool->Int->List Nat->Int->Prop} {neg':Bool} {e':Int} {a':Option Addr} {n' c':Nat} {L:List Nat} {er:Int} (h1:Φ neg' e' L er) (h2:Q2g w0 w' a' n' c' L) (h3:Below w0.heap.size w0 w'):
 Q4q w0 Φ (.returned (.tuple #[.agg #[.bool neg',.int .i64 e',.slice a' n' c'],.int .i64 er])) w':=⟨neg',e',a',n',c',L,er,rfl,h1,h2,h3⟩
theorem Qpk (s:ByteArray) (w:World) (hs:s.size<=281474976710656) (hTI:Q24 w):
 Calls Tryz.prog 230 #[.string s] w (Q4q w (Q1l s.data.toList)):=by
 have hlen:s.data.toList.length=s.size:=rfl
 have hB0:Below w.heap.size w (w.alloc (.cells #[.bool false,.int .i64 0,.slice none 0 0] 41)):=(Below.refl _ _).alloc (Nat.le_refl _) _
 have hN0:=Q04.new w (.bool false) (.int .i64 0) (.slice none 0 0) 41
 have hl0:=Q0f w (.cells #[.bool false,.int .i64 0,.slice none 0 0] 41)
 have HW:=Xh2 hB0 hN0
 have HTI:=Lib.hid hTI
 have hq:=Qfx s.data.toList
 obtain ⟨neg,t,hmt⟩:∃neg t,Q2h s.data.toList=(neg,t):=⟨_,_,rfl⟩
 have htl:t.length<=s.size:=by
  have h1:(Q2h s.data.toList).2.length<=s.data.toList.length:=by
   cases s.data.toList with
   |nil=>simp[Q2h]
   |cons x y=>simp only[Q2h];split <;> simp
  rw[hmt] at h1;exact h1
 have hfo:form s.data.toList=form s.data.toList:=rfl
 conv at hfo=>rhs;unfold form
 rw[hmt] at hfo
 simp only at hfo
 have hc1:∀W,Calls Tryz.prog 233 #[.string s,.string ⟨#[45]⟩] W fun e w'=>e=.returned (.tuple #[.string ⟨t.toArray⟩,.bool neg])/\W=w':=fun W=>(Tryz.Qx8 s ⟨#[45]⟩ W).mono (by
  rintro e w' ⟨rfl,rfl⟩
  refine ⟨?_,rfl⟩
  show Ending.returned (.tuple #[.string ⟨(Lib.trimPrefix s.data.toList [45]).toArray⟩,.bool (Lib.hasPrefix s.data.toList [45])])=_
  rw[hq.1,hq.2,hmt])
 obtain ⟨T,hT⟩:∃T:ByteArray,T=⟨t.toArray⟩:=⟨_,rfl⟩
 have hTs:T.size=t.length:=by rw[hT];rfl
 have hTl:T.data.toList=t:=by rw[hT]
 rw[<-hT] at hc1
 have hrun:=fun W=>Qod T W (by omega)
 obtain ⟨k,hk⟩:∃k,digN t=k:=⟨_,rfl⟩
 have hkl:=Qdn t
 have hta:=Q68 t
 rw[hk] at hkl hfo hta
 have HK:=Lib.hid hk
 have HT:=Xh2 hTs hTl
 have HC:=Xh2 hc1 hrun
 have HFO:=Lib.hid hfo
 have HTA:=Lib.hid hta
 clear hq hmt hfo hc1 hrun hk hT hB0 hN0 hTI hlen hta
 by_cases h1:k<1
 ·skip
  have hkI:(k:Int)<1:=by omega
  have hF:form s.data.toList=none:=by rw[HFO.out,if_pos (.inl h1)]
  have HF:=Lib.hid hF
  clear hF hTs hTl
  go_enter Tryz.func230,Tryz.ntmps230
  go_wp2_with (first
   |(go_at_call_of 233 (Value.string s);refine ((Xo0 HC) _).mono ?_;rintro e w1 ⟨rfl,rfl⟩)
   |(go_at_call_of 234 (Value.string T);refine ((Xe1 HC) _).mono ?_;rintro e w2 ⟨⟨k',rfl,hk'⟩,hb2⟩;obtain rfl:k=k':=by { rw[<-HK.out,<-(Xe1 HT)];exact Q1v hk' };have hNN:=(Xe1 HW).step hb2 hl0;have hc0:=hNN.c0;have hc1:=hNN.c1;have hc2:=hNN.c2;have hf0:=hNN.f0;have hf1:=hNN.f1;have hf2:=hNN.f2;have hd1':=hNN.d1 (.bool false);have hd2':=hNN.d2 (.bool false) (.int .i64 0);have HB2:=Xh3 hNN hb2 (Below.next0 (Xo0 HW) hb2);clear hNN hb2 hk'))
  have hS5:=(Xo0 HB2).store (.bool false) (.int .i64 0) (.slice none 0 0)
  have k0:=hS5.c0
  have k1:=hS5.c1
  have k2:=hS5.c2
  have hb5:=Q04.below (Xe2 HB2) (Nat.le_refl _) (.bool false) (.int .i64 0) (.slice none 0 0)
  clear hS5 hc0 hc1 hc2 hf0 hf1 hf2 hd1' hd2'
  generalize World.setCell _ _ _=W5 at k0 k1 k2 hb5⊢
  refine ⟨rfl,.tuple #[.agg #[.bool false,.int .i64 0,.slice none 0 0],.int .i64 5],by simp[results,go_sem,k0,k1,k2],Q4q.of (Q1l.none_ HF.out) (Q2g.nil_ _ _) hb5⟩
 ·have hkI:¬(k:Int)<1:=by omega
  by_cases h13:1300<k
  ·skip
   have hk13:(1300:Int)<(k:Int):=by omega
   have hF:form s.data.toList=none:=by rw[HFO.out,if_pos (.inr (.inl h13))]
   have HF:=Lib.hid hF
   clear hF hTs hTl
   go_enter Tryz.func230,Tryz.ntmps230
   go_wp2_with (first
    |(go_at_call_of 233 (Value.string s);refine ((Xo0 HC) _).mono ?_;rintro e w1 ⟨rfl,rfl⟩)
    |(go_at_call_of 234 (Value.string T);refine ((Xe1 HC) _).mono ?_;rintro e w2 ⟨⟨k',rfl,hk'⟩,hb2⟩;obtain rfl:k=k':=by { rw[<-HK.out,<-(Xe1 HT)];exact Q1v hk' };have hNN:=(Xe1 HW).step hb2 hl0;have hc0:=hNN.c0;have hc1:=hNN.c1;have hc2:=hNN.c2;have hf0:=hNN.f0;have hf1:=hNN.f1;have hf2:=hNN.f2;have hd1':=hNN.d1 (.bool false);have hd2':=hNN.d2 (.bool false) (.int .i64 0);have HB2:=Xh3 hNN hb2 (Below.next0 (Xo0 HW) hb2);clear hNN hb2 hk'))
   have hS5:=(Xo0 HB2).store (.bool false) (.int .i64 0) (.slice none 0 0)
   have k0:=hS5.c0
   have k1:=hS5.c1
   have k2:=hS5.c2
   have hb5:=Q04.below (Xe2 HB2) (Nat.le_refl _) (.bool false) (.int .i64 0) (.slice none 0 0)
   clear hS5 hc0 hc1 hc2 hf0 hf1 hf2 hd1' hd2'
   generalize World.setCell _ _ _=W5 at k0 k1 k2 hb5⊢
   refine ⟨rfl,.tuple #[.agg #[.bool false,.int .i64 0,.slice none 0 0],.int .i64 5],by simp[results,go_sem,k0,k1,k2],Q4q.of (Q1l.none_ HF.out) (Q2g.nil_ _ _) hb5⟩
  ·have hk13:¬(1300:Int)<(k:Int):=by omega
   have hT0:0<T.size:=by omega
   have hhd:t.headD 0=(T[0]'hT0):=by
    have h:=Qoe (s:=T) (at_:=0) hT0
    rw[List.drop_zero,(Xe1 HT)] at h
    exact h
   have HHD:=Lib.hid hhd
   clear hhd
   by_cases hz:(T[0]'hT0)=48/\(neg=true∨1<t.length)
   ·obtain ⟨h48,hz2⟩:=hz
    have h48':(((T[0]'hT0).toNat:Int)==48)=true:=by rw[h48];rfl
    cases neg
    ·have h1l:1<t.length:=by rcases hz2 with h|h;cases h;exact h
     have h1I:(1:Int)<(T.size:Int):=by omega
     have hF:form s.data.toList=none:=by rw[HFO.out,if_pos (.inr (.inr ⟨by rw[HHD.out];exact h48,.inr h1l⟩))]
     have HF:=Lib.hid hF
     clear hF hTs hTl h48 hz2
     go_enter Tryz.func230,Tryz.ntmps230
     go_wp2_with (first
      |(go_at_call_of 233 (Value.string s);refine ((Xo0 HC) _).mono ?_;rintro e w1 ⟨rfl,rfl⟩)
      |(go_at_call_of 234 (Value.string T);refine ((Xe1 HC) _).mono ?_;rintro e w2 ⟨⟨k',rfl,hk'⟩,hb2⟩;obtain rfl:k=k':=by { rw[<-HK.out,<-(Xe1 HT)];exact Q1v hk' };have hNN:=(Xe1 HW).step hb2 hl0;have hc0:=hNN.c0;have hc1:=hNN.c1;have hc2:=hNN.c2;have hf0:=hNN.f0;have hf1:=hNN.f1;have hf2:=hNN.f2;have hd1':=hNN.d1 (.bool false);have hd2':=hNN.d2 (.bool false) (.int .i64 0);have HB2:=Xh3 hNN hb2 (Below.next0 (Xo0 HW) hb2);clear hNN hb2 hk'))
     have hS5:=(Xo0 HB2).store (.bool false) (.int .i64 0) (.slice none 0 0)
     have k0:=hS5.c0
     have k1:=hS5.c1
     have k2:=hS5.c2
     have hb5:=Q04.below (Xe2 HB2) (Nat.le_refl _) (.bool false) (.int .i64 0) (.slice none 0 0)
     clear hS5 hc0 hc1 hc2 hf0 hf1 hf2 hd1' hd2'
     generalize World.setCell _ _ _=W5 at k0 k1 k2 hb5⊢
     refine ⟨rfl,.tuple #[.agg #[.bool false,.int .i64 0,.slice none 0 0],.int .i64 5],by simp[results,go_sem,k0,k1,k2],Q4q.of (Q1l.none_ HF.out) (Q2g.nil_ _ _) hb5⟩
    ·skip
     have hF:form s.data.toList=none:=by rw[HFO.out,if_pos (.inr (.inr ⟨by rw[HHD.out];exact h48,.inl rfl⟩))]
     have HF:=Lib.hid hF
     clear hF hTs hTl h48 hz2
     go_enter Tryz.func230,Tryz.ntmps230
     go_wp2_with (first
      |(go_at_call_of 233 (Value.string s);refine ((Xo0 HC) _).mono ?_;rintro e w1 ⟨rfl,rfl⟩)
      |(go_at_call_of 234 (Value.string T);refine ((Xe1 HC) _).mono ?_;rintro e w2 ⟨⟨k',rfl,hk'⟩,hb2⟩;obtain rfl:k=k':=by { rw[<-HK.out,<-(Xe1 HT)];exact Q1v hk' };have hNN:=(Xe1 HW).step hb2 hl0;have hc0:=hNN.c0;have hc1:=hNN.c1;have hc2:=hNN.c2;have hf0:=hNN.f0;have hf1:=hNN.f1;have hf2:=hNN.f2;have hd1':=hNN.d1 (.bool false);have hd2':=hNN.d2 (.bool false) (.int .i64 0);have HB2:=Xh3 hNN hb2 (Below.next0 (Xo0 HW) hb2);clear hNN hb2 hk'))
     have hS5:=(Xo0 HB2).store (.bool false) (.int .i64 0) (.slice none 0 0)
     have k0:=hS5.c0
     have k1:=hS5.c1
     have k2:=hS5.c2
     have hb5:=Q04.below (Xe2 HB2) (Nat.le_refl _) (.bool false) (.int .i64 0) (.slice none 0 0)
     clear hS5 hc0 hc1 hc2 hf0 hf1 hf2 hd1' hd2'
     generalize World.setCell _ _ _=W5 at k0 k1 k2 hb5⊢
     refine ⟨rfl,.tuple #[.agg #[.bool false,.int .i64 0,.slice none 0 0],.int .i64 5],by simp[results,go_sem,k0,k1,k2],Q4q.of (Q1l.none_ HF.out) (Q2g.nil_ _ _) hb5⟩
   ·have hfo:=HFO.out
    rw[if_neg (by rintro (h|h|h);exact h1 h;exact h13 h;(rw[HHD.out] at h;exact hz h))] at hfo
    obtain ⟨u,hu⟩:∃u:ByteArray,T.extract 0 k=u:=⟨_,rfl⟩
    obtain ⟨rest,hrest⟩:∃r:ByteArray,T.extract k T.size=r:=⟨_,rfl⟩
    have hul:u.data.toList=t.take k:=by rw[<-hu,Qkf,(Xe1 HT)]
    have hrl:rest.data.toList=t.drop k:=by rw[<-hrest,Qkg,(Xe1 HT)]
    have hus:u.size=k:=by
     have:u.data.toList.length=u.size:=rfl
     rw[<-this,hul,List.length_take];omega
    have hrs:rest.size<=T.size:=by
     have:rest.data.toList.length=rest.size:=rfl
     rw[<-this,hrl,List.length_drop];omega
    rw[<-hul,<-hrl] at hfo
    have hau:Qhk u.data.toList:=by rw[hul];exact HTA.out
    have hpw:=fun W=>Qpj rest W (by omega)
    have hwd:=fun W=>Qph u W (by omega) hau
    have hvl:(dig (2^64) (dv u.data.toList)).length<=1300:=by
     have h:=Q23 (B:=2^64) (by decide) (Nat.lt_of_lt_of_le (Qet u.data.toList hau) (Nat.pow_le_pow_left (by decide) u.data.toList.length))
     have:u.data.toList.length=u.size:=rfl
     omega
    have HP:=Xh4 hpw hwd hfo hvl
    have HZ:=Lib.hid hz
    clear hpw hwd hfo hvl hau hul hrl hrs hus hz HFO
    have hfo2:=(Xo2 HP)
    have hkT:(k:Int)<=(T.size:Int):=by omega
    cases hex:Qc4 rest.data.toList with
    |none=>
     have hpw:∀W,Calls Tryz.prog 235 #[.string rest] W fun e w'=>∃x:Int,e=.returned (.tuple #[.int .i64 x,.bool false])/\Below W.heap.size W w':=fun W=>((Xo0 HP) W).mono (by
      rintro e w' ⟨⟨x,ok,rfl,⟨_,h,_⟩|⟨rfl,_⟩⟩,hb⟩
      ·rw[hex] at h;cases h
      ·exact ⟨x,rfl,hb⟩)
     rw[hex] at hfo2
     have HPW:=Lib.hid hpw
     have HF:=Lib.hid (show form s.data.toList=none from hfo2)
     clear hpw hfo2 hex
     by_cases h48:(T[0]'hT0)=48
     ·have h48':(((T[0]'hT0).toNat:Int)==48)=true:=by rw[h48];rfl
      obtain rfl:neg=false:=by
       cases neg
       ·rfl
       ·exact absurd ⟨h48,.inl rfl⟩ HZ.out
      have h1I:¬(1:Int)<(T.size:Int):=fun h=>HZ.out ⟨h48,.inr (by omega)⟩
      clear h48 hTs hTl
      go_enter Tryz.func230,Tryz.ntmps230
      go_wp2_with (first
       |(go_at_call_of 233 (Value.string s);refine ((Xo0 HC) _).mono ?_;rintro e w1 ⟨rfl,rfl⟩)
       |(go_at_call_of 234 (Value.string T);refine ((Xe1 HC) _).mono ?_;rintro e w2 ⟨⟨k',rfl,hk'⟩,hb2⟩;obtain rfl:k=k':=by { rw[<-HK.out,<-(Xe1 HT)];exact Q1v hk' };have HB2:=Lib.hid hb2;clear hb2 hk')
       |(refine (HPW.out _).mono ?_;rintro e w3 ⟨x,rfl,hb3⟩;have hbx:=Below.next0 HB2.out hb3;have hNN:=(Xe1 HW).step hbx hl0;have hc0:=hNN.c0;have hc1:=hNN.c1;have hc2:=hNN.c2;have hf0:=hNN.f0;have hf1:=hNN.f1;have hf2:=hNN.f2;have hd1':=hNN.d1 (.bool false);have hd2':=hNN.d2 (.bool false) (.int .i64 0);have HB3:=Xh2 hNN (Below.next0 (Xo0 HW) hbx);clear hNN hb3 hbx))
      have hS5:=(Xo0 HB3).store (.bool false) (.int .i64 0) (.slice none 0 0)
      have k0:=hS5.c0
      have k1:=hS5.c1
      have k2:=hS5.c2
      have hb5:=Q04.below (Xe1 HB3) (Nat.le_refl _) (.bool false) (.int .i64 0) (.slice none 0 0)
      clear hS5 hc0 hc1 hc2 hf0 hf1 hf2 hd1' hd2'
      generalize World.setCell _ _ _=W5 at k0 k1 k2 hb5⊢
      refine ⟨rfl,.tuple #[.agg #[.bool false,.int .i64 0,.slice none 0 0],.int .i64 5],by simp[results,go_sem,k0,k1,k2],Q4q.of (Q1l.none_ HF.out) (Q2g.nil_ _ _) hb5⟩
     ·have h48':(((T[0]'hT0).toNat:Int)==48)=false:=by rw[beq_eq_false_iff_ne];intro e;exact h48 (UInt8.toNat_inj.1 (show (T[0]'hT0).toNat=48 by omega))
      clear h48 hTs hTl
      go_enter Tryz.func230,Tryz.ntmps230
      go_wp2_with (first
       |(go_at_call_of 233 (Value.string s);refine ((Xo0 HC) _).mono ?_;rintro e w1 ⟨rfl,rfl⟩)
       |(go_at_call_of 234 (Value.string T);refine ((Xe1 HC) _).mono ?_;rintro e w2 ⟨⟨k',rfl,hk'⟩,hb2⟩;obtain rfl:k=k':=by { rw[<-HK.out,<-(Xe1 HT)];exact Q1v hk' };have HB2:=Lib.hid hb2;clear hb2 hk')
       |(refine (HPW.out _).mono ?_;rintro e w3 ⟨x,rfl,hb3⟩;have hbx:=Below.next0 HB2.out hb3;have hNN:=(Xe1 HW).step hbx hl0;have hc0:=hNN.c0;have hc1:=hNN.c1;have hc2:=hNN.c2;have hf0:=hNN.f0;have hf1:=hNN.f1;have hf2:=hNN.f2;have hd1':=hNN.d1 (.bool false);have hd2':=hNN.d2 (.bool false) (.int .i64 0);have HB3:=Xh2 hNN (Below.next0 (Xo0 HW) hbx);clear hNN hb3 hbx))
      have hS5:=(Xo0 HB3).store (.bool false) (.int .i64 0) (.slice none 0 0)
      have k0:=hS5.c0
      have k1:=hS5.c1
      have k2:=hS5.c2
      have hb5:=Q04.below (Xe1 HB3) (Nat.le_refl _) (.bool false) (.int .i64 0) (.slice none 0 0)
      clear hS5 hc0 hc1 hc2 hf0 hf1 hf2 hd1' hd2'
      generalize World.setCell _ _ _=W5 at k0 k1 k2 hb5⊢
      refine ⟨rfl,.tuple #[.agg #[.bool false,.int .i64 0,.slice none 0 0],.int .i64 5],by simp[results,go_sem,k0,k1,k2],Q4q.of (Q1l.none_ HF.out) (Q2g.nil_ _ _) hb5⟩
    |some ex=>
     have hexb: -1000000<=ex/\ex<=1000000:=by
      have h:=Qm7 rest.data.toList ex hex
      exact h
     obtain ⟨hex1,hex2⟩:=hexb
     have hpw:∀W,Calls Tryz.prog 235 #[.string rest] W fun e w'=>e=.returned (.tuple #[.int .i64 ex,.bool true])/\Below W.heap.size W w':=fun W=>((Xo0 HP) W).mono (by
      rintro e w' ⟨⟨x,ok,rfl,⟨rfl,h,_⟩|⟨_,h⟩⟩,hb⟩
      ·rw[hex] at h;injection h with h;subst h;exact ⟨rfl,hb⟩
      ·rw[hex] at h;cases h)
     rw[hex] at hfo2
     have HPW:=Lib.hid hpw
     have HF:=Lib.hid (show form s.data.toList=some (neg,dv u.data.toList,ex) from hfo2)
     clear hpw hfo2 hex
     by_cases h48:(T[0]'hT0)=48
     ·have h48':(((T[0]'hT0).toNat:Int)==48)=true:=by rw[h48];rfl
      obtain rfl:neg=false:=by
       cases neg
       ·rfl
       ·exact absurd ⟨h48,.inl rfl⟩ HZ.out
      have h1I:¬(1:Int)<(T.size:Int):=fun h=>HZ.out ⟨h48,.inr (by omega)⟩
      clear h48 hTs hTl
      go_enter Tryz.func230,Tryz.ntmps230
      go_wp2_with (first
       |(go_at_call_of 233 (Value.string s);refine ((Xo0 HC) _).mono ?_;rintro e w1 ⟨rfl,rfl⟩)
       |(go_at_call_of 234 (Value.string T);refine ((Xe1 HC) _).mono ?_;rintro e w2 ⟨⟨k',rfl,hk'⟩,hb2⟩;obtain rfl:k=k':=by { rw[<-HK.out,<-(Xe1 HT)];exact Q1v hk' };have HB2:=Lib.hid hb2;clear hb2 hk')
       |(go_at_call_of 235 (Value.string rest);refine (HPW.out _).mono ?_;rintro e w3 ⟨rfl,hb3⟩;have HB3:=Lib.hid (Below.next0 HB2.out hb3);clear hb3)
       |(go_at_call_of 236 (Value.string u);refine ((Xo1 HP) _).mono ?_;rintro e w4 ⟨a4,n4,c4,rfl,hW4,hb4⟩;have HB4:=Xh2 hW4 (Below.next0 HB3.out hb4);clear hW4 hb4)
       |(refine (Q3r false a4 n4 c4 _ ex w4 (Xo0 HB4) (HTI.out.step (Below.next0 (Xo0 HW) (Xe1 HB4))) (by rw[<-(Xo0 HB4).len];exact Nat.le_trans (Xe3 HP) (by decide)) (by omega) (by omega)).mono ?_;rintro e w5 ⟨neg5,e5,a5,n5,c5,L,er,rfl,hmo,hW5,hb5⟩;rw[Q0r (by decide)] at hmo;have hbx:=Below.next0 (Xe1 HB4) hb5;have hNN:=(Xe1 HW).step hbx hl0;have hc0:=hNN.c0;have hc1:=hNN.c1;have hc2:=hNN.c2;have hf0:=hNN.f0;have hf1:=hNN.f1;have hf2:=hNN.f2;have hd1':=hNN.d1 (.bool neg5);have hd2':=hNN.d2 (.bool neg5) (.int .i64 e5);have HB5:=Xh4 hNN (Below.next0 (Xo0 HW) hbx) hW5 hmo;clear hNN hb5 hbx hW5 hmo))
      have hS5:=(Xo0 HB5).store (.bool neg5) (.int .i64 e5) (.slice a5 n5 c5)
      have k0:=hS5.c0
      have k1:=hS5.c1
      have k2:=hS5.c2
      have hb6:=Q04.below (Xo1 HB5) (Nat.le_refl _) (.bool neg5) (.int .i64 e5) (.slice a5 n5 c5)
      have hWw:=(Xo2 HB5)
      have hW6:WordsIn _ a5 n5 c5 L:=⟨hWw.len,hWw.cap,hWw.most,hWw.low,(hWw.rd.store3 (Xo0 HB5) (fun _=>by simp[nv]) (fun _=>by simp[nv]) (fun _=>by simp[nv]) (.bool neg5) (.int .i64 e5) (.slice a5 n5 c5)).more (Q14 _ _ _ _ _)⟩
      clear hS5 hc0 hc1 hc2 hf0 hf1 hf2 hd1' hd2' hWw
      generalize World.setCell _ _ _=W5 at k0 k1 k2 hb6 hW6⊢
      refine ⟨rfl,.tuple #[.agg #[.bool neg5,.int .i64 e5,.slice a5 n5 c5],.int .i64 er],by simp[results,go_sem,k0,k1,k2],Q4q.of (Q1l.some_ HF.out (Xe3 HB5)) (((Xo2 HB5).lower (Below.next0 (Xo0 HW) (Xe1 HB4)).size).on hW6) hb6⟩
     ·have h48':(((T[0]'hT0).toNat:Int)==48)=false:=by rw[beq_eq_false_iff_ne];intro e;exact h48 (UInt8.toNat_inj.1 (show (T[0]'hT0).toNat=48 by omega))
      clear h48 hTs hTl
      go_enter Tryz.func230,Tryz.ntmps230
      go_wp2_with (first
       |(go_at_call_of 233 (Value.string s);refine ((Xo0 HC) _).mono ?_;rintro e w1 ⟨rfl,rfl⟩)
       |(go_at_call_of 234 (Value.string T);refine ((Xe1 HC) _).mono ?_;rintro e w2 ⟨⟨k',rfl,hk'⟩,hb2⟩;obtain rfl:k=k':=by { rw[<-HK.out,<-(Xe1 HT)];exact Q1v hk' };have HB2:=Lib.hid hb2;clear hb2 hk')
       |(go_at_call_of 235 (Value.string rest);refine (HPW.out _).mono ?_;rintro e w3 ⟨rfl,hb3⟩;have HB3:=Lib.hid (Below.next0 HB2.out hb3);clear hb3)
       |(go_at_call_of 236 (Value.string u);refine ((Xo1 HP) _).mono ?_;rintro e w4 ⟨a4,n4,c4,rfl,hW4,hb4⟩;have HB4:=Xh2 hW4 (Below.next0 HB3.out hb4);clear hW4 hb4)
       |(refine (Q3r neg a4 n4 c4 _ ex w4 (Xo0 HB4) (HTI.out.step (Below.next0 (Xo0 HW) (Xe1 HB4))) (by rw[<-(Xo0 HB4).len];exact Nat.le_trans (Xe3 HP) (by decide)) (by omega) (by omega)).mono ?_;rintro e w5 ⟨neg5,e5,a5,n5,c5,L,er,rfl,hmo,hW5,hb5⟩;rw[Q0r (by decide)] at hmo;have hbx:=Below.next0 (Xe1 HB4) hb5;have hNN:=(Xe1 HW).step hbx hl0;have hc0:=hNN.c0;have hc1:=hNN.c1;have hc2:=hNN.c2;have hf0:=hNN.f0;have hf1:=hNN.f1;have hf2:=hNN.f2;have hd1':=hNN.d1 (.bool neg5);have hd2':=hNN.d2 (.bool neg5) (.int .i64 e5);have HB5:=Xh4 hNN (Below.next0 (Xo0 HW) hbx) hW5 hmo;clear hNN hb5 hbx hW5 hmo))
      have hS5:=(Xo0 HB5).store (.bool neg5) (.int .i64 e5) (.slice a5 n5 c5)
      have k0:=hS5.c0
      have k1:=hS5.c1
      have k2:=hS5.c2
      have hb6:=Q04.below (Xo1 HB5) (Nat.le_refl _) (.bool neg5) (.int .i64 e5) (.slice a5 n5 c5)
      have hWw:=(Xo2 HB5)
      have hW6:WordsIn _ a5 n5 c5 L:=⟨hWw.len,hWw.cap,hWw.most,hWw.low,(hWw.rd.store3 (Xo0 HB5) (fun _=>by simp[nv]) (fun _=>by simp[nv]) (fun _=>by simp[nv]) (.bool neg5) (.int .i64 e5) (.slice a5 n5 c5)).more (Q14 _ _ _ _ _)⟩
      clear hS5 hc0 hc1 hc2 hf0 hf1 hf2 hd1' hd2' hWw
      generalize World.setCell _ _ _=W5 at k0 k1 k2 hb6 hW6⊢
      refine ⟨rfl,.tuple #[.agg #[.bool neg5,.int .i64 e5,.slice a5 n5 c5],.int .i64 er],by simp[results,go_sem,k0,k1,k2],Q4q.of (Q1l.some_ HF.out (Xe3 HB5)) (((Xo2 HB5).lower (Below.next0 (Xo0 HW) (Xe1 HB4)).size).on hW6) hb6⟩
theorem Qkh (L:List UInt8) (k:Nat) {c:UInt8} (hc:c≠0):Lib.hasPrefix (L.drop k) [c]=decide (Q09 L k=c):=by
 rw[(Qe2 (L.drop k) c).1]
 by_cases hk:k<L.length
 ·rw[List.drop_eq_getElem_cons hk]
  simp only
  rw[Q5j hk]
 ·rw[List.drop_of_length_le (by omega)]
  simp only
  symm
  rw[decide_eq_false_iff_not]
  intro h
  exact hk (Q0i h hc)
theorem Q2g.off {w0 w:World} {a:Option Addr} {n c:Nat} {L:List Nat} (h:Q2g w0 w a n c L):Qr7 (·<w0.heap.size) a L:=h.new.imp id fun h2 x hx=>Nat.not_lt_of_le (h2 x hx)
theorem Qfy (w:World) (k:Nat):Below w.heap.size w (w.drewN k):=⟨rfl,rfl,rfl,Nat.le_refl _,fun _ _=>rfl⟩
def Qpl (S:List UInt8) (w:World) (s4 s5:Value) (wx:World):Prop:=∃v n' e' a' l' c' Lw er,s4=.pointer (some ⟨v,0,none⟩)/\s5=.int .i64 er/\Q1l S n' e' Lw er/\Q04 wx v (.bool n') (.int .i64 e') (.slice a' l' c')/\Q2g w wx a' l' c' Lw/\Below w.heap.size w wx/\w.heap.size<=v/\v<wx.heap.size
theorem Qwi {S:List UInt8} {w w3:World} {n':Bool} {e' er:Int} {a':Option Addr} {l' c':Nat} {Lw:List Nat} {T:TypeId} (h1:Q1l S n' e' Lw er) (h2:Q2g w w3 a' l' c' Lw) (h3:Below w.heap.size w w3):
 Qpl S w (.pointer (some ⟨w3.heap.size,0,none⟩)) (.int .i64 er) (w3.alloc (.cells #[.bool n',.int .i64 e',.slice a' l' c'] T)):=
 ⟨_,n',e',a',l',c',Lw,er,rfl,rfl,h1,Q04.new w3 _ _ _ _,h2.on (h2.toWordsIn.step ((Below.refl _ _).alloc (Nat.le_refl _) _)),h3.alloc h3.size _,h3.size,Q0f _ _⟩
theorem Qwj {S:List UInt8} {w w3:World} {n':Bool} {e' er:Int} {a':Option Addr} {l' c':Nat} {Lw:List Nat} (h1:Q1l S n' e' Lw er) (h2:Q2g w w3 a' l' c' Lw) (h3:Below w.heap.size w w3) (h4:Q04 w3 w.heap.size (.bool false) (.int .i64 0) (.slice none 0 0)):
 Qpl S w (.pointer (some ⟨w.heap.size,0,none⟩)) (.int .i64 er) (((w3.setCell ⟨w.heap.size,0,none⟩ (.bool n')).setCell ⟨w.heap.size,1,none⟩ (.int .i64 e')).setCell ⟨w.heap.size,2,none⟩ (.slice a' l' c')):=
 ⟨_,n',e',a',l',c',Lw,er,rfl,rfl,h1,h4.store _ _ _,h2.on (h2.toWordsIn.set3 h4 _ _ _),Q04.below h3 (Nat.le_refl _) _ _ _,Nat.le_refl _,by simp only[World.size_setCell];exact block_lt_of_cell h4.c0⟩
theorem Qm8 {w:World} {R:Nat} {s:ByteArray} {p:Nat} {m d:Int} (h:Q0p w R s (p:Int) m d false) (hp:p<=s.size) (hs:s.size<=281474976710656) (hT:∀W,Q0n (OnR R) w W->Q24 W):
 Calls Tryz.prog 220 #[.pointer (some ⟨R,0,none⟩)] w (Q5u R s m d (Qid s.data.toList p) w):=by
 obtain ⟨L,hL⟩:∃L,s.data.toList=L:=⟨_,rfl⟩
 have hLs:L.length=s.size:=by rw[<-hL];rfl
 obtain ⟨K,hK⟩:∃K,Q1h L p=K:=⟨_,rfl⟩
 have hKp:p<=K/\K<=s.size:=by rw[<-hK,<-hLs];exact Qav (by omega)
 obtain ⟨N,hN⟩:∃N,Q9r L p=N:=⟨_,rfl⟩
 have hNK:K<=N/\N<=s.size:=by rw[<-hK,<-hN,<-hLs];exact Qt7 (by omega)
 obtain ⟨u1,hu1⟩:∃u:ByteArray,s.extract K s.size=u:=⟨_,rfl⟩
 obtain ⟨u2,hu2⟩:∃u:ByteArray,s.extract (K+1) s.size=u:=⟨_,rfl⟩
 obtain ⟨u3,hu3⟩:∃u:ByteArray,s.extract p N=u:=⟨_,rfl⟩
 have hu3l:u3.data.toList=(L.drop p).take (N-p):=by
  rw[<-hu3,<-hL];simp only[ByteArray.data_extract,Array.toList_extract,List.extract_eq_take_drop]
 have hu3s:u3.size<=281474976710656:=by rw[<-hu3,ByteArray.size_extract];omega
 obtain ⟨b1,hb1⟩:∃b,decide (Q09 L K=112)=b:=⟨_,rfl⟩
 obtain ⟨b2,hb2⟩:∃b,decide (Q09 L (K+1)=45)=b:=⟨_,rfl⟩
 have hp1:∀W,Calls Tryz.prog 183 #[.string u1,.string ⟨#[112]⟩] W fun e w'=>e=.returned (.bool b1)/\W=w':=fun W=>(Tryz.Qyb u1 ⟨#[112]⟩ W).mono (by
  rintro e w' ⟨rfl,rfl⟩
  refine ⟨?_,rfl⟩
  rw[<-hu1,Lib.extract_to_end,hL,<-hb1]
  exact congrArg _ (congrArg _ (Qkh L K (by decide))))
 have hp2:∀W,Calls Tryz.prog 183 #[.string u2,.string ⟨#[45]⟩] W fun e w'=>e=.returned (.bool b2)/\W=w':=fun W=>(Tryz.Qyb u2 ⟨#[45]⟩ W).mono (by
  rintro e w' ⟨rfl,rfl⟩
  refine ⟨?_,rfl⟩
  rw[<-hu2,Lib.extract_to_end,hL,<-hb2]
  exact congrArg _ (congrArg _ (Qkh L (K+1) (by decide))))
 have hd1:=Qcv h p hp hs
 rw[hL,hK] at hd1
 have hd2:=fun (a:Nat) (ha:a<=s.size)=>Qcv h a ha hs
 simp only[hL] at hd2
 have hNN:N=if b1=true then (if b2=true then Q1h L (K+2) else Q1h L (K+1)) else K:=by
  rw[<-hN,<-hb1,<-hb2]
  unfold Q9r
  rw[hK]
  simp only[decide_eq_true_eq]
 have hb1s:b1=true->K+1<=s.size:=fun e=>by
  rw[<-hb1,decide_eq_true_eq] at e
  have:=Q0i e (by decide)
  omega
 have hb2s:b2=true->K+2<=s.size:=fun e=>by
  rw[<-hb2,decide_eq_true_eq] at e
  have:=Q0i e (by decide)
  omega
 obtain ⟨c0,c1,_,_,_,_,f1,_,_,_,hlt,_⟩:=id h
 have hps:=fun W (hb:Below w.heap.size w W)=>Qpk u3 W hu3s (hT W (Q0n.of_below hb _))
 rw[hu3l] at hps
 have H:=Xh5 h hp hs hlt hps
 have HP:=Xh7 hp1 hp2 hd1 hd2 hNN hb1s hb2s
 have HL:=Xh5 hL hLs hN hu3l hu3s
 have hK48:K<=281474976710656:=by omega
 have hwr1:IntKind.i64.wrap ((K:Int)+1)=(K:Int)+1:=by rw[IntKind.wrap_i64];omega
 have hwr2:IntKind.i64.wrap ((K:Int)+1+1)=(K:Int)+1+1:=by rw[IntKind.wrap_i64];omega
 have hKn:((K:Int)).toNat=K:=by omega
 have hKn1:((K:Int)+1).toNat=K+1:=by omega
 have hpn:((p:Int)).toNat=p:=by omega
 have hNn:((N:Int)).toNat=N:=by omega
 have hK0:(0:Int)<=(K:Int):=by omega
 have hK2:(K:Int)<=(s.size:Int):=by omega
 have hpN:(p:Int)<=(N:Int):=by omega
 have hNs:(N:Int)<=(s.size:Int):=by omega
 have HK:=Xh2 hKp hNK
 clear h hp hs hT hL hLs hK hN hu3l hu3s hb1 hb2 hp1 hp2 hd1 hd2 hNN hb1s hb2s hlt hps hKp hNK hK48
 go_enter Tryz.func220,Tryz.ntmps220
 go_upto_if 18 with (first
  |(go_at_call_of 229 (Value.int IntKind.i64 (p:Int));refine (Xo2 HP).mono ?_;rintro r w1 ⟨rfl,rfl⟩)
  |(go_at_call_of 183 (Value.string u1);refine ((Xo0 HP) _).mono ?_;rintro r w1 ⟨rfl,rfl⟩))
 go_cut [3] (fun v wx=>v=.int .i64 (N:Int)/\w=wx)
 case first=>
  cases b1
  ·have HN:=Lib.hid (show K=N from ((Xo4 HP)).symm)
   go_wp2_with (fail)
   go_meet
   exact ⟨by rw[HN.out],rfl⟩
  ·have hNN:=(Xo4 HP)
   cases b2
   ·have HN:=Lib.hid (show Q1h L (K+1)=N from hNN.symm)
    have hd:=(Xo3 HP) (K+1) ((Xo5 HP) rfl)
    rw[show ((K+1:Nat):Int)=(K:Int)+1 by omega] at hd
    have HD:=Lib.hid hd
    clear hd
    have hKle:(K:Int)+1<=(s.size:Int):=by have:=(Xo5 HP) rfl;omega
    clear hNN
    go_wp2_with (first
     |(go_at_call_of 183 (Value.string u2);refine ((Xo1 HP) _).mono ?_;rintro r w1 ⟨rfl,rfl⟩)
     |(go_at_call_of 229 (Value.pointer (some ⟨R,0,none⟩));refine HD.out.mono ?_;rintro r w1 ⟨rfl,rfl⟩))
    go_meet
    exact ⟨by rw[HN.out],rfl⟩
   ·have HN:=Lib.hid (show Q1h L (K+2)=N from hNN.symm)
    have hd:=(Xo3 HP) (K+2) ((Xe6 HP) rfl)
    rw[show ((K+2:Nat):Int)=(K:Int)+1+1 by omega] at hd
    have HD:=Lib.hid hd
    clear hd
    have hKle:(K:Int)+1<=(s.size:Int):=by have:=(Xo5 HP) rfl;omega
    clear hNN
    go_wp2_with (first
     |(go_at_call_of 183 (Value.string u2);refine ((Xo1 HP) _).mono ?_;rintro r w1 ⟨rfl,rfl⟩)
     |(go_at_call_of 229 (Value.pointer (some ⟨R,0,none⟩));refine HD.out.mono ?_;rintro r w1 ⟨rfl,rfl⟩))
    go_meet
    exact ⟨by rw[HN.out],rfl⟩
 case rest=>
  obtain ⟨rfl,rfl⟩:=hcut
  go_upto_region 7 with fail
  go_cut [4,5] (fun s4 s5 wx=>Qpl ((L.drop p).take (N-p)) w s4 s5 wx)
  case first=>
   have d0:w.drew.cell? ⟨R,0,none⟩=some (.string s):=c0
   have d1:w.drew.cell? ⟨R,1,none⟩=some (.int .i64 (p:Int)):=c1
   have hba:=(Below.refl w.heap.size w).alloc (Nat.le_refl _) (.cells #[.bool false,.int .i64 0,.slice none 0 0] 41)
   have hRa:=(Xo0 H).step hba
   have a0:=hRa.c0
   have a1:=hRa.c1
   have hRb:=hRa.drew
   have b0:=hRb.c0
   have b1':=hRb.c1
   have hRc:=(Xo0 H).drew.step ((Below.refl w.drew.heap.size w.drew).alloc (Nat.le_refl _) (.cells #[.bool false,.int .i64 0,.slice none 0 0] 41))
   have g0:=hRc.c0
   have g1:=hRc.c1
   clear hba hRa hRb hRc
   go_region_law (
    refine Q2x (by rfl) 230 #[.string u3] (by simp[go_sem]) ?_
    refine ((Xe4 H) _ ?_).mono ?_
    (first|exact Q08 w|exact Below.next0 ((Below.refl w.heap.size w).alloc (Nat.le_refl _) _) (Q08 _)|exact (Below.refl w.heap.size w).alloc (Nat.le_refl _) _|exact Below.next0 (Q08 w) ((Below.refl _ _).alloc (Nat.le_refl _) _))
    rintro r w3 ⟨n',e',a',l',c',Lw,er,rfl,hpo,hnw,hb3⟩
    refine ⟨_,rfl,?_⟩
    have hbb:Below w.heap.size w w3:=by
     first
      |exact Below.next0 (Q08 w) hb3
      |exact Below.next0 ((Below.refl w.heap.size w).alloc (Nat.le_refl _) _) hb3
      |exact Below.next0 (Below.next0 ((Below.refl w.heap.size w).alloc (Nat.le_refl _) _) (Q08 _)) hb3
      |exact Below.next0 (Below.next0 (Q08 w) ((Below.refl _ _).alloc (Nat.le_refl _) _)) hb3
    (first
      |(have hM:=((Q04.new w (.bool false) (.int .i64 0) (.slice none 0 0) 41).step (Q08 _) (Q0f _ _)).step hb3 (by show _<(World.alloc _ _).heap.size;exact Q0f _ _)
        have hS:=hM.store (.bool n') (.int .i64 e') (.slice a' l' c')
        have o0:=hM.c0
        have o1:=hM.c1
        have o2:=hM.c2
        have u0:=hM.f0
        have u1:=hM.f1
        have u2:=hM.f2
        have HS:=Xh2 hM hS
        clear hM hS)
      |skip)
    have hn0:Q2g w w3 a' l' c' Lw:=by
     first
      |exact Q2g.lower (w0:=w) hnw (Nat.le_refl _)
      |exact Q2g.lower (w0:=w) hnw (Nat.le_of_lt (Q0f w _))
    have HZ:=Xh3 hpo hn0 hbb
    clear hpo hnw hb3 hbb hn0)
   all_goals go_wp2_with fail
   all_goals go_meet
   all_goals first
    |exact Qwi (Xo0 HZ) (Xo1 HZ) (Xe2 HZ)
    |exact Qwj (Xo0 HZ) (Xo1 HZ) (Xe2 HZ) (Xo0 HS)
  case rest=>
   obtain ⟨v,n',e',a',l',c',Lw,er,rfl,rfl,hpo,hbx,hnw,hbw,hv1,hv2⟩:=hcut
   have hr:=(Xo0 H).step hbw
   have hvR:v≠R:=by have:=(Xo3 H);omega
   unfold Q1l at hpo
   cases hF:form ((L.drop p).take (N-p)) with
   |none=>
    rw[hF] at hpo
    obtain ⟨rfl,rfl,rfl,rfl⟩:=hpo
    have hres:Qid L p=.error p:=by unfold Qid;rw[(Xo2 HL),hF]
    have hwg:=Q4p hr (p:Int)
    simp only[Bool.false_eq_true,if_false] at hwg
    have k1:=hr.c1
    have HR:=Xh3 hwg hbw hres
    clear hr hbx hnw hbw hwg hres hF c0 c1 f1
    go_wp2_with (refine (Xo0 HR).mono ?_;rintro r w4 ⟨rfl,hr4,ht4⟩;have HB:=Xh2 hr4 ht4;clear hr4 ht4)
    go_ret
    rw[(Xo0 HL),(Xe2 HR)]
    exact ⟨_,_,rfl,(Q0n.of_below (Xo1 HR) _).trans0 (Xe1 HB),(Xo0 HB),(Xo1 H)⟩
   |some z=>
    obtain ⟨neg,v0,e0⟩:=z
    rw[hF] at hpo
    have hfo:=Q7o hpo
    have hres:Qid L p=.ok (.num (if Q8q (dy (sgn neg v0) e0)=true then some (dy (sgn neg v0) e0) else none),N):=by unfold Qid;rw[(Xo2 HL),hF]
    have k1:=hr.c1
    have g1:=hr.f1
    have hbf:=hbx.far (p:=⟨R,1,none⟩) (fun e=>hvR e.symm) (.int .i64 (N:Int))
    have o0:=hbf.c0
    have o1:=hbf.c1
    have o2:=hbf.c2
    have her:((er:Int)==5)=false:=by
     rw[beq_eq_false_iff_ne]
     rcases hfo with ⟨_,h,_⟩|⟨_,h,_⟩ <;> omega
    have HR:=Xh5 hr hbw hres hfo hnw
    clear hr hbx hnw hbw hres hfo hpo hF c0 c1 f1 hbf
    go_wp2_with fail
    go_ret
    rw[(Xo0 HL),(Xo2 HR)]
    refine ⟨_,_,rfl,(Q0n.of_below (Xo1 HR) _).trans0 (Q1s _ _ _ _),?_,(Xo0 HR).setAt (N:Int),(Xe2 HK)⟩
    rcases (Xo3 HR) with ⟨h1,rfl,h3,h4⟩|⟨h1,rfl,_⟩
    ·rw[if_pos ((Q1g _).2 h1),Q2k]
     exact ⟨n',e',a',l',c',Lw,rfl,(Xe4 HR).toWordsIn.set1 (Xo0 HR).c1 (fun _=>by simp[nv]) _,(Xe4 HR).off,h3,h4⟩
    ·rw[if_neg (fun h=>h1 ((Q1g _).1 h)),Q2k]
     exact ⟨_,_,_,_,_,rfl⟩
def Q44 (bad:Bool) (p:Nat) (r:PR Ex):PR Ex:=if bad=true then .error p else r
theorem Q5u.lift {R:Nat} {s:ByteArray} {m d:Int} {res:PR Ex} {w0 w:World} {e:Ending} {w':World} (ht:Q0n (OnR R) w0 w) (h:Q5u R s m d res w e w'):Q5u R s m d res w0 e w':=by
 obtain ⟨t,u,rfl,h1,h2⟩:=h
 refine ⟨t,u,rfl,ht.trans0 h1,?_⟩
 cases res with
 |error q=>exact h2
 |ok z=>exact ⟨h2.1.more fun k hk=>.inl (Nat.lt_of_lt_of_le hk ht.size),h2.2⟩
theorem Q5u.okd {R:Nat} {s:ByteArray} {m d:Int} {w0 w':World} {x:Ex} {q:Nat} {t:TypeId} {u:Value} (ht:Q0n (OnR R) w0 w') (hx:Q2k (·<w0.heap.size) w' x (.iface t u)) (hr:Q0p w' R s (q:Int) m d false) (hq:q<=s.size):Q5u R s m d (.ok (x,q)) w0 (.returned (.iface t u)) w':=⟨t,u,rfl,ht,hx,hr,hq⟩
theorem Q5u.err {R:Nat} {s:ByteArray} {m d:Int} {w0 w':World} {q:Nat} {t:TypeId} {u:Value} (ht:Q0n (OnR R) w0 w') (hr:Q0p w' R s (q:Int) m d true) (hq:q<=s.size):Q5u R s m d (.error q) w0 (.returned (.iface t u)) w':=⟨t,u,rfl,ht,hr,hq⟩
theorem Qb9 {c:UInt8} {k:Nat} (hk:k<256) (h:c≠UInt8.ofNat k):((c.toNat:Int)==(k:Int))=false:=by
 rw[beq_eq_false_iff_ne]
 intro e
 exact h (UInt8.toNat_inj.1 (by rw[UInt8.toNat_ofNat'];omega))
theorem Qpm {L:List UInt8} {p:Nat} {c:UInt8}:Q29 L [c] p=if Q09 L p=c then .ok (p+1) else .error p:=by
 rw[Q29]
 split
 ·rw[Q29]
 ·rfl
def Qtc (L:List UInt8) (r:PR Ex):PR Ex:=match r with
 | .error e=>.error e
 | .ok (x,q)=>if Q09 L (Q07 L q)=41 then .ok (x,Q07 L q+1) else .error (Q07 L q)
theorem Qs4 {w:World} {R:Nat} {s:ByteArray} {p most:Nat} {d:Int} {bad:Bool} (sub:Nat->PR Ex) (h:Q0p w R s (p:Int) (most:Int) d bad) (hp:p<=s.size) (hs:s.size<=281474976710656) (hd0:0<=d) (hd:d<=16) (hT:∀W,Q0n (OnR R) w W->Q24 W)
 (hsub:d<16->∀(W:World) (q:Nat),Q0p W R s (q:Int) (most:Int) (d+1) false->q<=s.size->(∀W',Q0n (OnR R) W W'->Q24 W')->Calls Tryz.prog 80 #[.pointer (some ⟨R,0,none⟩)] W (Q5u R s (most:Int) (d+1) (sub q) W)):
 Calls Tryz.prog 191 #[.pointer (some ⟨R,0,none⟩)] w (Q5u R s (most:Int) d (Q44 bad p (Q4u sub (decide (d<16)) s.data.toList most p)) w):=by
 obtain ⟨L,hL⟩:∃L,s.data.toList=L:=⟨_,rfl⟩
 have hLs:L.length=s.size:=by rw[<-hL];rfl
 have hsg:=Q30 h hp hs
 rw[hL] at hsg⊢
 obtain ⟨q,hq⟩:∃q,skS L p bad=q:=⟨_,rfl⟩
 obtain ⟨c,hc⟩:∃c,nxB L q bad=c:=⟨_,rfl⟩
 have hqs:q<=s.size:=by
  rw[<-hq];unfold skS
  split
  ·exact hp
  ·rw[<-hLs];exact Q2r (by omega)
 rw[hq,hc] at hsg
 have hw1:IntKind.i64.wrap ((q:Int)+1)=(q:Int)+1:=by rw[IntKind.wrap_i64];omega
 have H:=Xh6 hL hLs hqs hs hsg hT
 have HB:=Lib.hid hsub
 have HD:=Xh2 hd0 hd
 have HC:=Lib.hid hc
 have HQ:=Lib.hid hq
 clear h hp hs hL hLs hqs hsg hT hsub hc hq hd0 hd
 cases bad with
 |true=>
  obtain rfl:q=p:=by have:=HQ.out;simp only[skS,if_true] at this;exact this.symm
  obtain rfl:c=0:=by have:=HC.out;simp only[nxB,if_true] at this;exact this.symm
  have hres:Q44 true q (Q4u sub (decide (d<16)) L most q)=.error q:=rfl
  rw[hres]
  clear hres
  have n48:¬(48:Int)<=(((0:UInt8).toNat:Nat):Int):=by decide
  have n120:((((0:UInt8).toNat:Nat):Int)==120)=false:=by decide
  have n40:((((0:UInt8).toNat:Nat):Int)==40)=false:=by decide
  go_enter Tryz.func191,Tryz.ntmps191
  go_wp2_with (first
   |(go_at_call_of 81 (Value.pointer (some ⟨R,0,none⟩));refine (Xo4 H).mono ?_;rintro r w1 ⟨rfl,hr1,ht1⟩;have k1:=hr1.c1;have H1:=Xh2 hr1 ht1;clear hr1 ht1)
   |(go_at_call_of 132 (Value.pointer (some ⟨R,0,none⟩));refine (Q4p (Xo0 H1) _).mono ?_;rintro r w2 ⟨rfl,hr2,ht2⟩;have H2:=Xh2 hr2 ht2;clear hr2 ht2))
  go_ret
  exact Q5u.err ((Xe1 H1).trans0 (Xe1 H2)) (by have h:=(Xo0 H2);simpa using h) (Xo2 H)
 |false=>
  have hqq:Q07 L p=q:=by have:=HQ.out;simpa[skS] using this
  have hcc:Q09 L q=c:=by have:=HC.out;simpa[nxB] using this
  have hres:Q44 false p (Q4u sub (decide (d<16)) L most p)=Q4u sub (decide (d<16)) L most p:=rfl
  rw[hres]
  clear hres
  obtain ⟨X,hX⟩:∃X,Q4u sub (decide (d<16)) L most p=X:=⟨_,rfl⟩
  rw[hX]
  have hbase:X=(if 48<=c.toNat/\c.toNat<=57 then Qid L q
   else if c=120 then
    (if 49<=(Q09 L (q+1)).toNat/\(Q09 L (q+1)).toNat<=48+most then .ok (.var ((Q09 L (q+1)).toNat-49),q+2) else .error (q+1))
   else if c=40/\decide (d<16)=true then
    Qtc L (sub (q+1))
   else .error q):=by
   rw[<-hX]
   unfold Q4u
   rw[hqq,hcc]
   rfl
  have HR:=Xh3 hbase hqq hcc
  clear hbase hqq hcc hX
  by_cases hdig:48<=c.toNat/\c.toNat<=57
  ·have n1:(48:Int)<=(c.toNat:Int):=by omega
   have n2:(c.toNat:Int)<=57:=by omega
   have hres:X=Qid L q:=by rw[(Xo0 HR),if_pos hdig]
   have HE:=Lib.hid hres
   clear hres hdig
   go_enter Tryz.func191,Tryz.ntmps191
   go_wp2_with (first
    |(go_at_call_of 81 (Value.pointer (some ⟨R,0,none⟩));refine (Xo4 H).mono ?_;rintro r w1 ⟨rfl,hr1,ht1⟩;have H1:=Xh2 hr1 ht1;clear hr1 ht1)
    |(go_at_call_of 220 (Value.pointer (some ⟨R,0,none⟩));refine (Qm8 (Xo0 H1) (Xo2 H) (Xo3 H) (fun W hW=>(Xe5 H) W ((Xe1 H1).trans0 hW))).mono ?_;rintro r w2 ⟨t,u,rfl,hN⟩;have H2:=Lib.hid (show Q5u R s (most:Int) d (Qid s.data.toList q) w1 (.returned (.iface t u)) w2 from ⟨t,u,rfl,hN⟩);clear hN))
   go_ret
   have h2:=H2.out
   rw[(Xo0 H),<-HE.out] at h2
   exact h2.lift (Xe1 H1)
  ·have hn1:(48:Int)<=(c.toNat:Int)->¬(c.toNat:Int)<=57:=by omega
   by_cases hx:c=120
   ·subst hx
    have n1:(48:Int)<=(((120:UInt8).toNat:Nat):Int):=by decide
    have n2:¬(((120:UInt8).toNat:Nat):Int)<=57:=by decide
    have n3:((((120:UInt8).toNat:Nat):Int)==120)=true:=by decide
    have hres:X=(if 49<=(Q09 L (q+1)).toNat/\(Q09 L (q+1)).toNat<=48+most then .ok (.var ((Q09 L (q+1)).toNat-49),q+2) else .error (q+1)):=by rw[(Xo0 HR),if_neg hdig,if_pos rfl]
    have hq1:q+1<=s.size:=by have:=Q0i (Xe2 HR) (by decide);have:=(Xo1 H);omega
    have HX:=Lib.hid hq1
    have HE:=Lib.hid hres
    clear hres hdig hn1 hq1
    go_enter Tryz.func191,Tryz.ntmps191
    go_wp2_with (first
     |(go_at_call_of 81 (Value.pointer (some ⟨R,0,none⟩));refine (Xo4 H).mono ?_;rintro r w1 ⟨rfl,hr1,ht1⟩;have k1:=hr1.c1;have g1:=hr1.f1;have hr1s:=hr1.setAt ((q:Int)+1);have k2:=hr1s.c2;have H1:=Xh2 hr1 ht1;have HS1:=Lib.hid hr1s;clear hr1 ht1 hr1s)
     |(go_at_call_of 192 (Value.pointer (some ⟨R,0,none⟩));refine (Qcu (p:=q+1) (show Q0p _ R s (((q+1:Nat)):Int) (most:Int) d false from HS1.out) HX.out (Xo3 H) 1 (most:Int) (by decide)).mono ?_;rintro r w2 ⟨hor,ht2⟩;obtain ⟨z,hz⟩:∃z:Int,r=.returned (.int .i64 z):=by { rcases hor with ⟨_,_,_,h,_⟩|⟨_,h,_⟩ <;> exact ⟨_,h⟩ };subst hz;have hzw:IntKind.i64.wrap (z-1)=z-1:=by { rcases hor with ⟨_,h1,_,h,_⟩|⟨_,h,_⟩ <;> { injection h with h;injection h with _ h;rw[IntKind.wrap_i64];have:=(Q09 s.data.toList (q+1)).toNat_lt;omega } };have H2:=Xh2 hor ht2;clear hor ht2))
    go_ret
    obtain ⟨hor,ht2⟩:=H2.out
    have ht:=((Xe1 H1).trans0 (Q1s w1 R 1 (.int .i64 ((q:Int)+1)))).trans0 ht2
    rw[(Xo0 H)] at hor
    rcases hor with ⟨_,h1,h2,h3,h4⟩|⟨h1,h3,h4⟩
    ·injection h3 with h3
     injection h3 with _ h3
     subst h3
     rw[HE.out,if_pos ⟨by omega,by omega⟩]
     refine Q5u.okd ht ?_ h4 ?_
     ·rw[Q2k]
      exact congrArg (fun z=>Value.iface _ (.agg #[.int .i64 z])) (by omega)
     ·have h5:Q09 L (q+1)≠0:=fun e=>by rw[e] at h1;exact absurd h1 (by decide)
      have:=Q5g h5;have:=(Xo1 H);omega
    ·rw[HE.out,if_neg (fun h=>h1 ⟨trivial,by omega,by omega⟩)]
     exact Q5u.err ht h4 HX.out
   ·have n3:=Qb9 (k:=120) (by decide) hx
    by_cases h40:c=40/\d<16
    ·obtain ⟨rfl,hdl⟩:=h40
     have n1:¬(48:Int)<=(((40:UInt8).toNat:Nat):Int):=by decide
     have n4:((((40:UInt8).toNat:Nat):Int)==40)=true:=by decide
     have hres:X=Qtc L (sub (q+1)):=by rw[(Xo0 HR),if_neg hdig,if_neg hx,if_pos ⟨rfl,decide_eq_true hdl⟩]
     have hq1:q+1<=s.size:=by have:=Q0i (Xe2 HR) (by decide);have:=(Xo1 H);omega
     have hwd1:IntKind.i64.wrap (d+1)=d+1:=by rw[IntKind.wrap_i64];have:=HD.out;omega
     have hwd2:IntKind.i64.wrap (d+1-1)=d:=by rw[IntKind.wrap_i64];have:=HD.out;omega
     have hwd3:IntKind.i64.wrap d=d:=by rw[IntKind.wrap_i64];have:=HD.out;omega
     have HX:=Xh2 hq1 (HB.out hdl)
     have HE:=Lib.hid hres
     clear hres hdig hn1 hq1 hx
     go_enter Tryz.func191,Tryz.ntmps191
     go_upto_region 11 with (first
      |(go_at_call_of 81 (Value.pointer (some ⟨R,0,none⟩));refine (Xo4 H).mono ?_;rintro r w1 ⟨rfl,hr1,ht1⟩;have k1:=hr1.c1;have k3:=hr1.c3;have g1:=hr1.f1;have hr1s:=hr1.setAt ((q:Int)+1);have k3s:=hr1s.c3;have g3s:=hr1s.f3;have H1:=Xh2 hr1 ht1;have HS1:=Lib.hid (hr1s.setDeep (d+1));clear hr1 ht1 hr1s)
      |(go_at_call_of 80 (Value.pointer (some ⟨R,0,none⟩));refine ((Xe1 HX) _ (q+1) (show Q0p _ R s (((q+1:Nat)):Int) (most:Int) (d+1) false from HS1.out) (Xo0 HX) (fun W hW=>(Xe5 H) W (((Xe1 H1).trans0 ((Q1s w1 R 1 (.int .i64 ((q:Int)+1))).trans0 (Q1s _ R 3 (.int .i64 (d+1))))).trans0 hW))).mono ?_;rintro r w2 ⟨t,u,rfl,ht2,hN⟩;have H2:=Xh2 (((Xe1 H1).trans0 ((Q1s w1 R 1 (.int .i64 ((q:Int)+1))).trans0 (Q1s _ R 3 (.int .i64 (d+1))))).trans0 ht2) hN;clear ht2 hN))
     cases hS:sub (q+1) with
     |error e=>
      have h2:=(Xe1 H2)
      rw[hS] at h2
      have hres:X=.error e:=by rw[HE.out,hS];rfl
      have k3:=h2.1.c3
      have g3:=h2.1.f3
      have hr3:=h2.1.setDeep d
      have hsg:=Q30 hr3 h2.2 (Xo3 H)
      simp only[skS,if_true] at hsg
      have hfx:=fun W (hW:Q0p W R s (e:Int) (most:Int) d true)=>Q82 hW h2.2 (Xo3 H) ⟨#[41]⟩ (by decide) (by decide) (by decide)
      simp only[if_true] at hfx
      have H3:=Xh4 hres h2.2 hsg hfx
      clear h2 hres hr3 hsg hfx hS
      go_wp2_with (first
       |(go_at_call_of 81 (Value.pointer (some ⟨R,0,none⟩));refine (Xo2 H3).mono ?_;rintro r w4 ⟨rfl,hr4,ht4⟩;have H4:=Xh2 hr4 ht4;clear hr4 ht4)
       |(go_at_call_of 79 (Value.pointer (some ⟨R,0,none⟩));refine ((Xe3 H3) w4 (Xo0 H4)).mono ?_;rintro r w5 ⟨rfl,ht5,hr5⟩;have H5:=Xh2 hr5 ht5;clear hr5 ht5))
      go_ret
      rw[(Xo0 H3)]
      exact Q5u.err ((((Xo0 H2).trans0 (Q1s w2 R 3 (.int .i64 d))).trans0 (Xe1 H4)).trans0 (Xe1 H5)) (Xo0 H5).1 (Xo0 H5).2
     |ok z=>
      obtain ⟨x,q2⟩:=z
      have h2:=(Xe1 H2)
      rw[hS] at h2
      obtain ⟨q3,hq3⟩:∃q3,Q07 L q2=q3:=⟨_,rfl⟩
      have hq3s:q3<=s.size:=by rw[<-hq3,<-(Xo1 H)];exact Q2r (by have:=(Xo1 H);have:=h2.2.2;omega)
      have hres:X=if Q09 L q3=41 then .ok (x,q3+1) else .error q3:=by rw[HE.out,hS,<-hq3];rfl
      have k3:=h2.2.1.c3
      have g3:=h2.2.1.f3
      have hr3:=h2.2.1.setDeep d
      have hsg:=Q30 hr3 h2.2.2 (Xo3 H)
      rw[(Xo0 H)] at hsg
      simp only[skS,Bool.false_eq_true,if_false,hq3] at hsg
      have hfx:=fun W (hW:Q0p W R s (q3:Int) (most:Int) d false)=>Q82 hW hq3s (Xo3 H) ⟨#[41]⟩ (by decide) (by decide) (by decide)
      have hf1:Q29 L [41] q3=if Q09 L q3=41 then .ok (q3+1) else .error q3:=Qpm
      rw[(Xo0 H)] at hfx
      simp only[Bool.false_eq_true,if_false] at hfx
      have H3:=Xh5 hres h2.1 hsg hfx hf1
      clear h2 hres hr3 hsg hfx hS hf1 hq3 hq3s
      go_wp2_with (first
       |(go_at_call_of 81 (Value.pointer (some ⟨R,0,none⟩));refine (Xo2 H3).mono ?_;rintro r w4 ⟨rfl,hr4,ht4⟩;have H4:=Xh2 hr4 ht4;clear hr4 ht4)
       |(go_at_call_of 79 (Value.pointer (some ⟨R,0,none⟩));refine ((Xo3 H3) w4 (Xo0 H4)).mono ?_;rintro r w5 ⟨rfl,ht5,hr5⟩;have H5:=Xh2 hr5 ht5;clear hr5 ht5))
      go_ret
      have ht35:=((Q1s w2 R 3 (.int .i64 d)).trans0 (Xe1 H4)).trans0 (Xe1 H5)
      have ht:=(Xo0 H2).trans0 ht35
      have h5:=(Xo0 H5)
      have h5':Qfw R s (most:Int) d (Q29 L [41] q3) w5:=h5
      rw[(Xe4 H3)] at h5'
      rw[(Xo0 H3)]
      by_cases h41:Q09 L q3=41
      ·rw[if_pos h41] at h5'⊢
       refine Q5u.okd ht ?_ h5'.1 h5'.2
       have h6:=(Xo1 H3).turn ht35 (fun k (hk:k=R)=>by subst hk;simp only[World.size_setCell];exact (Xo0 H1).lt)
       exact h6.more fun k hk=>.inl (by simp only[World.size_setCell];exact Nat.lt_of_lt_of_le hk (Xe1 H1).size)
      ·rw[if_neg h41] at h5'⊢
       exact Q5u.err ht h5'.1 h5'.2
    ·have hres:X=.error q:=by
      rw[(Xo0 HR),if_neg hdig,if_neg hx,if_neg (fun h=>h40 ⟨h.1,of_decide_eq_true h.2⟩)]
     have HE:=Lib.hid hres
     clear hres
     have hcut:∀b:Bool,b=((c.toNat:Int)==40)->(b=false∨b=true/\¬d<16):=by
      intro b hb
      by_cases hc:c=40
      ·exact .inr ⟨by rw[hb,hc];rfl,fun hd=>h40 ⟨hc,hd⟩⟩
      ·exact .inl (by rw[hb];exact Qb9 (k:=40) (by decide) hc)
     have hn2:¬((48:Int)<=(c.toNat:Int)/\(c.toNat:Int)<=57):=by omega
     rcases hcut _ rfl with n40|⟨n40,nd⟩
     ·clear hcut h40 hx hdig hn1
      by_cases n48:(48:Int)<=(c.toNat:Int)
      ·have n57:¬(c.toNat:Int)<=57:=by omega
       clear hn2
       go_enter Tryz.func191,Tryz.ntmps191
       go_wp2_with (first
        |(go_at_call_of 81 (Value.pointer (some ⟨R,0,none⟩));refine (Xo4 H).mono ?_;rintro r w1 ⟨rfl,hr1,ht1⟩;have k1:=hr1.c1;have k3:=hr1.c3;have H1:=Xh2 hr1 ht1;clear hr1 ht1)
        |(go_at_call_of 132 (Value.pointer (some ⟨R,0,none⟩));refine (Q4p (Xo0 H1) _).mono ?_;rintro r w2 ⟨rfl,hr2,ht2⟩;have H2:=Xh2 hr2 ht2;clear hr2 ht2))
       go_ret
       rw[HE.out]
       exact Q5u.err ((Xe1 H1).trans0 (Xe1 H2)) (by have h:=(Xo0 H2);simpa using h) (Xo2 H)
      ·clear hn2
       go_enter Tryz.func191,Tryz.ntmps191
       go_wp2_with (first
        |(go_at_call_of 81 (Value.pointer (some ⟨R,0,none⟩));refine (Xo4 H).mono ?_;rintro r w1 ⟨rfl,hr1,ht1⟩;have k1:=hr1.c1;have k3:=hr1.c3;have H1:=Xh2 hr1 ht1;clear hr1 ht1)
        |(go_at_call_of 132 (Value.pointer (some ⟨R,0,none⟩));refine (Q4p (Xo0 H1) _).mono ?_;rintro r w2 ⟨rfl,hr2,ht2⟩;have H2:=Xh2 hr2 ht2;clear hr2 ht2))
       go_ret
       rw[HE.out]
       exact Q5u.err ((Xe1 H1).trans0 (Xe1 H2)) (by have h:=(Xo0 H2);simpa using h) (Xo2 H)
     ·have hc40:(c.toNat:Int)=40:=by simpa using n40
      have n48:¬(48:Int)<=(c.toNat:Int):=by omega
      clear hcut h40 hx hdig hn1 hn2 hc40
      go_enter Tryz.func191,Tryz.ntmps191
      go_wp2_with (first
       |(go_at_call_of 81 (Value.pointer (some ⟨R,0,none⟩));refine (Xo4 H).mono ?_;rintro r w1 ⟨rfl,hr1,ht1⟩;have k1:=hr1.c1;have k3:=hr1.c3;have H1:=Xh2 hr1 ht1;clear hr1 ht1)
       |(go_at_call_of 132 (Value.pointer (some ⟨R,0,none⟩));refine (Q4p (Xo0 H1) _).mono ?_;rintro r w2 ⟨rfl,hr2,ht2⟩;have H2:=Xh2 hr2 ht2;clear hr2 ht2))
      go_ret
      rw[HE.out]
      exact Q5u.err ((Xe1 H1).trans0 (Xe1 H2)) (by have h:=(Xo0 H2);simpa using h) (Xo2 H)
end Go.Proofs.YtdilmfakkppgpaaGreatDoor
