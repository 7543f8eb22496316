/- Part 12. No condition. -/
import Derived.Test.YtidojbkhlenahaaGreatDoorPkProblemRights11
set_option maxRecDepth 100000
set_option maxHeartbeats 16000000
namespace Go.Proofs.YtidojbkhlenahaaGreatDoor
open Go.RowKit WordsM DecM
theorem Qn2 (L:LU) (k:Nat) {c:UInt8} (hc:c≠0):Lib.hasPrefix (L.drop k) [c]=decide (Q08 L k=c):=by
 rw[(Qgu (L.drop k) c).1]
 by_cases hk:k<L.length
 ·rw[UB hk];simp only;rw[Q6f hk]
 ·rw[Tc (by omega)];simp only;symm;rw[Tq];intro h;exact hk (Q0k h hc)
theorem Q2n.off {w0 w:World} {a:OA} {n c:Nat} {L:LN} (h:Q2n w0 w a n c L):Qxn (·<w0.heap.size) a L:=h.new.imp id fun h2 x hx=>Nat.not_lt_of_le (h2 x hx)
theorem Qj1 (w:World) (k:Nat):Bw w (w.drewN k):=⟨rfl,rfl,rfl,Uf _,fun _ _=>rfl⟩
def Qs9 (S:LU) (w:World) (s4 s5:Value) (wx:World):Prop:=∃v n' e' a' l' c' Lw er,s4=.pointer (some ⟨v,0,none⟩)/\s5=.int .i64 er/\Q14 S n' e' Lw er/\Q03 wx v (.bool n') (.int .i64 e') (.slice a' l' c')/\Q2n w wx a' l' c' Lw/\Bw w wx/\w.heap.size<=v/\v<wx.heap.size
theorem J02 {S:LU} {w w3:World} {n':Bool} {e' er:Int} {a':OA} {l' c':Nat} {Lw:LN} {T:TypeId} (h1:Q14 S n' e' Lw er) (h2:Q2n w w3 a' l' c' Lw) (h3:Bw w w3):
 Qs9 S w (.pointer (some ⟨w3.heap.size,0,none⟩)) (.int .i64 er) (w3.alloc (.cells #[.bool n',.int .i64 e',.slice a' l' c'] T)):=
 ⟨_,n',e',a',l',c',Lw,er,rfl,rfl,h1,Q03.new w3 _ _ _ _,h2.on (h2.toWordsIn.step (Ba)),h3.alloc h3.size _,h3.size,Q0p _ _⟩
theorem J03 {S:LU} {w w3:World} {n':Bool} {e' er:Int} {a':OA} {l' c':Nat} {Lw:LN} (h1:Q14 S n' e' Lw er) (h2:Q2n w w3 a' l' c' Lw) (h3:Bw w w3) (h4:Q03 w3 w.heap.size (.bool false) (.int .i64 0) (.slice none 0 0)):
 Qs9 S w (.pointer (some ⟨w.heap.size,0,none⟩)) (.int .i64 er) (((w3.setCell ⟨w.heap.size,0,none⟩ (.bool n')).setCell ⟨w.heap.size,1,none⟩ (.int .i64 e')).setCell ⟨w.heap.size,2,none⟩ (.slice a' l' c')):=
 ⟨_,n',e',a',l',c',Lw,er,rfl,rfl,h1,h4.store _ _ _,h2.on (h2.toWordsIn.set3 h4 _ _ _),Q03.below h3 (Uf _) _ _ _,Uf _,by simp only[Tj];exact UI h4.c0⟩
theorem Qox {w:World} {R:Nat} {s:ByteArray} {p:Nat} {m d:Int} (h:Q0o w R s (p:Int) m d false) (hp:p<=s.size) (hs:s.size<=281474976710656) (hT:∀W,Q0v (OnR R) w W->Q1s W):
 Calls Tryz.prog 298 #[.pointer (some ⟨R,0,none⟩)] w (Q6p R s m d (Qki s.data.toList p) w):=by
 obtain ⟨L,hL⟩:∃L,s.data.toList=L:=⟨_,rfl⟩;have U8:L.length=s.size:=by rw[<-hL];rfl
 obtain ⟨K,hK⟩:∃K,Q1k L p=K:=⟨_,rfl⟩;have hKp:p<=K/\K<=s.size:=by rw[<-hK,<-U8];exact Qci (by omega)
 obtain ⟨N,hN⟩:∃N,Qba L p=N:=⟨_,rfl⟩;have hNK:K<=N/\N<=s.size:=by rw[<-hK,<-hN,<-U8];exact Qwg (by omega)
 obtain ⟨u1,JZ⟩:∃u:ByteArray,s.extract K s.size=u:=⟨_,rfl⟩;obtain ⟨u2,Qu⟩:∃u:ByteArray,s.extract (K+1) s.size=u:=⟨_,rfl⟩;obtain ⟨u3,hu3⟩:∃u:ByteArray,s.extract p N=u:=⟨_,rfl⟩;have YV:u3.data.toList=(L.drop p).take (N-p):=by
  rw[<-hu3,<-hL];simp only[ByteArray.data_extract,Array.toList_extract,List.extract_eq_take_drop]
 have YB:u3.size<=281474976710656:=by rw[<-hu3,ByteArray.size_extract];omega
 obtain ⟨b1,A0⟩:∃b,decide (Q08 L K=112)=b:=⟨_,rfl⟩;obtain ⟨b2,D0⟩:∃b,decide (Q08 L (K+1)=45)=b:=⟨_,rfl⟩;have K8:∀W,Calls Tryz.prog 162 #[.string u1,.string ⟨#[112]⟩] W fun e w'=>e=.returned (.bool b1)/\W=w':=fun W=>(Tryz.J24 u1 ⟨#[112]⟩ W).mono (by
  rintro e w' ⟨rfl,rfl⟩;refine ⟨?_,rfl⟩;rw[<-JZ,Lib.extract_to_end,hL,<-A0];exact congrArg _ (congrArg _ (Qn2 L K (by decide))))
 have Qr:∀W,Calls Tryz.prog 162 #[.string u2,.string ⟨#[45]⟩] W fun e w'=>e=.returned (.bool b2)/\W=w':=fun W=>(Tryz.J24 u2 ⟨#[45]⟩ W).mono (by
  rintro e w' ⟨rfl,rfl⟩;refine ⟨?_,rfl⟩;rw[<-Qu,Lib.extract_to_end,hL,<-D0];exact congrArg _ (congrArg _ (Qn2 L (K+1) (by decide))))
 have C6:=Qfb h p hp hs;rw[hL,hK] at C6;have A7:=fun (a:Nat) (ha:a<=s.size)=>Qfb h a ha hs;simp only[hL] at A7;have P1:N=if b1=true then (if b2=true then Q1k L (K+2) else Q1k L (K+1)) else K:=by
  rw[<-hN,<-A0,<-D0];unfold Qba;rw[hK];simp only[TJ]
 have hb1s:b1=true->K+1<=s.size:=fun e=>by
  rw[<-A0,TJ] at e;have:=Q0k e (by decide);omega
 have hb2s:b2=true->K+2<=s.size:=fun e=>by
  rw[<-D0,TJ] at e;have:=Q0k e (by decide);omega
 obtain ⟨c0,c1,_,_,_,_,f1,_,_,_,E0,_⟩:=id h;have ZL:=fun W (hb:Bw w W)=>Qj0 u3 W YB (hT W (Q0v.of_below hb _));rw[YV] at ZL;have H:=Xh5 h hp hs E0 ZL;have HP:=Xh7 K8 Qr C6 A7 P1 hb1s hb2s;have HL:=Xh5 hL U8 hN YV YB;have hK48:K<=281474976710656:=by omega
 have Vj:IntKind.i64.wrap ((K:Int)+1)=(K:Int)+1:=by rw[UO];omega
 have Vq:IntKind.i64.wrap ((K:Int)+1+1)=(K:Int)+1+1:=by rw[UO];omega
 have hKn:((K:Int)).toNat=K:=by omega
 have hKn1:((K:Int)+1).toNat=K+1:=by omega
 have hpn:((p:Int)).toNat=p:=by omega
 have hNn:((N:Int)).toNat=N:=by omega
 have hK0:(0:Int)<=(K:Int):=by omega
 have hK2:(K:Int)<=(s.size:Int):=by omega
 have hpN:(p:Int)<=(N:Int):=by omega
 have Wu:(N:Int)<=(s.size:Int):=by omega
 have HK:=Xh2 hKp hNK;clear h hp hs hT hL U8 hK hN YV YB A0 D0 K8 Qr C6 A7 P1 hb1s hb2s E0 ZL hKp hNK hK48
 go_enter Tryz.func298,Tryz.ntmps298
 go_upto_if 18 with (first
  |(go_at_call_of 310 (Value.int IntKind.i64 (p:Int));refine (Xo2 HP).mono ?_;rintro r w1 ⟨rfl,rfl⟩)
  |(go_at_call_of 162 (Value.string u1);refine ((Xo0 HP) _).mono ?_;rintro r w1 ⟨rfl,rfl⟩))
 go_cut [3] (fun v wx=>v=.int .i64 (N:Int)/\w=wx)
 case first=>
  cases b1
  ·have HN:=Ua (show K=N from ((Xo4 HP)).symm)
   go_wp2_with (fail)
   go_meet;exact ⟨by rw[HN.out],rfl⟩
  ·have P1:=(Xo4 HP);cases b2
   ·have HN:=Ua (show Q1k L (K+1)=N from P1.symm);have hd:=(Xo3 HP) (K+1) ((Xo5 HP) rfl);rw[show ((K+1:Nat):Int)=(K:Int)+1 by omega] at hd;have HD:=Ua hd;clear hd;have hKle:(K:Int)+1<=(s.size:Int):=(by have:=(Xo5 HP) rfl;omega);clear P1
    go_wp2_with (first
     |(go_at_call_of 162 (Value.string u2);refine ((Xo1 HP) _).mono ?_;rintro r w1 ⟨rfl,rfl⟩)
     |(go_at_call_of 310 (Value.pointer (some ⟨R,0,none⟩));refine HD.out.mono ?_;rintro r w1 ⟨rfl,rfl⟩))
    go_meet;exact ⟨by rw[HN.out],rfl⟩
   ·have HN:=Ua (show Q1k L (K+2)=N from P1.symm);have hd:=(Xo3 HP) (K+2) ((Xe6 HP) rfl);rw[show ((K+2:Nat):Int)=(K:Int)+1+1 by omega] at hd;have HD:=Ua hd;clear hd;have hKle:(K:Int)+1<=(s.size:Int):=(by have:=(Xo5 HP) rfl;omega);clear P1
    go_wp2_with (first
     |(go_at_call_of 162 (Value.string u2);refine ((Xo1 HP) _).mono ?_;rintro r w1 ⟨rfl,rfl⟩)
     |(go_at_call_of 310 (Value.pointer (some ⟨R,0,none⟩));refine HD.out.mono ?_;rintro r w1 ⟨rfl,rfl⟩))
    go_meet;exact ⟨by rw[HN.out],rfl⟩
 case rest=>
  obtain ⟨rfl,rfl⟩:=hcut
  go_upto_region 7 with fail
  go_cut [4,5] (fun s4 s5 wx=>Qs9 ((L.drop p).take (N-p)) w s4 s5 wx)
  case first=>
   have d0:w.drew.cell? ⟨R,0,none⟩=some (.string s):=c0;have d1:w.drew.cell? ⟨R,1,none⟩=some (.int .i64 (p:Int)):=c1;have P3:=(Uc w.heap.size w).alloc (Uf _) (.cells #[.bool false,.int .i64 0,.slice none 0 0] 26);have hRa:=(Xo0 H).step P3;have a0:=hRa.c0;have a1:=hRa.c1;have hRb:=hRa.drew;have b0:=hRb.c0;have b1':=hRb.c1;have hRc:=(Xo0 H).drew.step ((Uc w.drew.heap.size w.drew).alloc (Uf _) (.cells #[.bool false,.int .i64 0,.slice none 0 0] 26));have g0:=hRc.c0;have g1:=hRc.c1;clear P3 hRa hRb hRc
   go_region_law (
    refine Q3g (by rfl) 235 #[.string u3] (by simp[go_sem]) ?_;refine ((Xe4 H) _ ?_).mono ?_
    (first|exact Q01 w|exact Below.next0 ((Uc w.heap.size w).alloc (Uf _) _) (Q01 _)|exact (Uc w.heap.size w).alloc (Uf _) _|exact Below.next0 (Q01 w) (Ba))
    rintro r w3 ⟨n',e',a',l',c',Lw,er,rfl,P6,S6,I0⟩;refine ⟨_,rfl,?_⟩;have Y2:Bw w w3:=by
     first
      |exact Below.next0 (Q01 w) I0
      |exact Below.next0 ((Uc w.heap.size w).alloc (Uf _) _) I0
      |exact Below.next0 (Below.next0 ((Uc w.heap.size w).alloc (Uf _) _) (Q01 _)) I0
      |exact Below.next0 (Below.next0 (Q01 w) (Ba)) I0
    (first
      |(have hM:=((Q03.new w (.bool false) (.int .i64 0) (.slice none 0 0) 26).step (Q01 _) (Q0p _ _)).step I0 (by show _<(World.alloc _ _).heap.size;exact Q0p _ _)
        have hS:=hM.store (.bool n') (.int .i64 e') (.slice a' l' c');obtain ⟨o0,o1,o2,u0,u1,u2⟩:=hM.cf;have HS:=Xh2 hM hS;clear hM hS)
      |skip)
    have G9:Q2n w w3 a' l' c' Lw:=by
     first
      |exact Q2n.lower (w0:=w) S6 (Uf _)
      |exact Q2n.lower (w0:=w) S6 (Xa9 (Q0p w _))
    have HZ:=Xh3 P6 G9 Y2;clear P6 S6 I0 Y2 G9)
   all_goals go_wp2_with fail
   all_goals go_meet
   all_goals first
    |exact J02 (Xo0 HZ) (Xo1 HZ) (Xe2 HZ)
    |exact J03 (Xo0 HZ) (Xo1 HZ) (Xe2 HZ) (Xo0 HS)
  case rest=>
   obtain ⟨v,n',e',a',l',c',Lw,er,rfl,rfl,P6,K1,S6,N0,QX,QE⟩:=hcut;have hr:=(Xo0 H).step N0;have hvR:v≠R:=(by have:=(Xo3 H);omega);unfold Q14 at P6;cases hF:form ((L.drop p).take (N-p)) with
   |none=>
    rw[hF] at P6;obtain ⟨rfl,rfl,rfl,rfl⟩:=P6;have F1:Qki L p=.error p:=(by unfold Qki;rw[(Xo2 HL),hF]);have hwg:=Q5h hr (p:Int);simp only[Tf,Xag] at hwg;have k1:=hr.c1;have HR:=Xh3 hwg N0 F1;clear hr K1 S6 N0 hwg F1 hF c0 c1 f1
    go_wp2_with (refine (Xo0 HR).mono ?_;rintro r w4 ⟨rfl,QD,ZR⟩;have HB:=Xh2 QD ZR;clear QD ZR)
    go_ret;rw[(Xo0 HL),(Xe2 HR)];exact ⟨_,_,rfl,(Q0v.of_below (Xo1 HR) _).trans0 (Xe1 HB),(Xo0 HB),(Xo1 H)⟩
   |some z=>
    obtain ⟨neg,v0,e0⟩:=z;rw[hF] at P6;have O7:=Q94 P6;have F1:Qki L p=.ok (.num (if Qa4 (dy (sgn neg v0) e0)=true then some (dy (sgn neg v0) e0) else none),N):=(by unfold Qki;rw[(Xo2 HL),hF]);have k1:=hr.c1;have g1:=hr.f1;have XA:=K1.far (p:=⟨R,1,none⟩) (fun e=>hvR e.symm) (.int .i64 (N:Int));obtain ⟨o0,o1,o2⟩:=XA.cc;have Jj:((er:Int)==5)=false:=by
     rw[Uj];rcases O7 with ⟨_,h,_⟩|⟨_,h,_⟩ <;> omega
    have HR:=Xh5 hr N0 F1 O7 S6;clear hr K1 S6 N0 F1 O7 P6 hF c0 c1 f1 XA
    go_wp2_with fail
    go_ret;rw[(Xo0 HL),(Xo2 HR)];refine ⟨_,_,rfl,(Q0v.of_below (Xo1 HR) _).trans0 (Q1y _ _ _ _),?_,(Xo0 HR).setAt (N:Int),(Xe2 HK)⟩;rcases (Xo3 HR) with ⟨h1,rfl,h3,h4⟩|⟨h1,rfl,_⟩
    ·rw[Uu ((Q1j _).2 h1),Q2v];exact ⟨n',e',a',l',c',Lw,rfl,(Xe4 HR).toWordsIn.set1 (Xo0 HR).c1 (fun _=>by simp[nv]) _,(Xe4 HR).off,h3,h4⟩
    ·rw[Us (fun h=>h1 ((Q1j _).1 h)),Q2v];exact ⟨_,_,_,_,_,rfl⟩
def Q4j (bad:Bool) (p:Nat) (r:PR Ex):PR Ex:=if bad=true then .error p else r
theorem Q6p.lift {R:Nat} {s:ByteArray} {m d:Int} {res:PR Ex} {w0 w:World} {e:Ending} {w':World} (ht:Q0v (OnR R) w0 w) (h:Q6p R s m d res w e w'):Q6p R s m d res w0 e w':=by
 obtain ⟨t,u,rfl,h1,h2⟩:=h;refine ⟨t,u,rfl,ht.trans0 h1,?_⟩;cases res with
 |error q=>exact h2
 |ok z=>exact ⟨h2.1.more fun k hk=>.inl (Ue hk ht.size),h2.2⟩
theorem Q6p.okd {R:Nat} {s:ByteArray} {m d:Int} {w0 w':World} {x:Ex} {q:Nat} {t:TypeId} {u:Value} (ht:Q0v (OnR R) w0 w') (hx:Q2v (·<w0.heap.size) w' x (.iface t u)) (hr:Q0o w' R s (q:Int) m d false) (hq:q<=s.size):Q6p R s m d (.ok (x,q)) w0 (.returned (.iface t u)) w':=⟨t,u,rfl,ht,hx,hr,hq⟩
theorem Q6p.err {R:Nat} {s:ByteArray} {m d:Int} {w0 w':World} {q:Nat} {t:TypeId} {u:Value} (ht:Q0v (OnR R) w0 w') (hr:Q0o w' R s (q:Int) m d true) (hq:q<=s.size):Q6p R s m d (.error q) w0 (.returned (.iface t u)) w':=⟨t,u,rfl,ht,hr,hq⟩
theorem Qdd {c:UInt8} {k:Nat} (hk:k<256) (h:c≠UInt8.ofNat k):((c.toNat:Int)==(k:Int))=false:=by
 rw[Uj];intro e;exact h (Xa1.1 (by rw[UInt8.toNat_ofNat'];omega))
theorem Qsa {L:LU} {p:Nat} {c:UInt8}:Q2e L [c] p=if Q08 L p=c then .ok (p+1) else .error p:=by
 rw[Q2e]
 split
 ·rw[Q2e]
 ·rfl
def Qwn (L:LU) (r:PR Ex):PR Ex:=match r with
 | .error e=>.error e
 | .ok (x,q)=>if Q08 L (Q05 L q)=41 then .ok (x,Q05 L q+1) else .error (Q05 L q)
theorem Qva {w:World} {R:Nat} {s:ByteArray} {p most:Nat} {d:Int} {bad:Bool} (sub:Nat->PR Ex) (h:Q0o w R s (p:Int) (most:Int) d bad) (hp:p<=s.size) (hs:s.size<=281474976710656) (V8:0<=d) (hd:d<=16) (hT:∀W,Q0v (OnR R) w W->Q1s W)
 (N7:d<16->∀(W:World) (q:Nat),Q0o W R s (q:Int) (most:Int) (d+1) false->q<=s.size->(∀W',Q0v (OnR R) W W'->Q1s W')->Calls Tryz.prog 130 #[.pointer (some ⟨R,0,none⟩)] W (Q6p R s (most:Int) (d+1) (sub q) W)):
 Calls Tryz.prog 273 #[.pointer (some ⟨R,0,none⟩)] w (Q6p R s (most:Int) d (Q4j bad p (Q69 sub (decide (d<16)) s.data.toList most p)) w):=by
 obtain ⟨L,hL⟩:∃L,s.data.toList=L:=⟨_,rfl⟩;have U8:L.length=s.size:=by rw[<-hL];rfl
 have P2:=Q3j h hp hs;rw[hL] at P2⊢;obtain ⟨q,hq⟩:∃q,skS L p bad=q:=⟨_,rfl⟩;obtain ⟨c,hc⟩:∃c,nxB L q bad=c:=⟨_,rfl⟩;have D8:q<=s.size:=by
  rw[<-hq];unfold skS
  split
  ·exact hp
  ·rw[<-U8];exact Q3a (by omega)
 rw[hq,hc] at P2;have E3:IntKind.i64.wrap ((q:Int)+1)=(q:Int)+1:=by rw[UO];omega
 have H:=Xh6 hL U8 D8 hs P2 hT;have HB:=Ua N7;have HD:=Xh2 V8 hd;have HC:=Ua hc;have HQ:=Ua hq;clear h hp hs hL U8 D8 P2 hT N7 hc hq V8 hd;cases bad with
 |true=>
  obtain rfl:q=p:=by have:=HQ.out;simp only[skS,Xa8] at this;exact this.symm
  obtain rfl:c=0:=by have:=HC.out;simp only[nxB,Xa8] at this;exact this.symm
  have F1:Q4j true q (Q69 sub (decide (d<16)) L most q)=.error q:=rfl;rw[F1];clear F1;have n48:¬(48:Int)<=(((0:UInt8).toNat:Nat):Int):=by decide
  have n120:((((0:UInt8).toNat:Nat):Int)==120)=false:=by decide
  have n40:((((0:UInt8).toNat:Nat):Int)==40)=false:=by decide
  go_enter Tryz.func273,Tryz.ntmps273
  go_wp2_with (first
   |(go_at_call_of 131 (Value.pointer (some ⟨R,0,none⟩));refine (Xo4 H).mono ?_;rintro r w1 ⟨rfl,M1,I3⟩;have k1:=M1.c1;have H1:=Xh2 M1 I3;clear M1 I3)
   |(go_at_call_of 182 (Value.pointer (some ⟨R,0,none⟩));refine (Q5h (Xo0 H1) _).mono ?_;rintro r w2 ⟨rfl,X0,F2⟩;have H2:=Xh2 X0 F2;clear X0 F2))
  go_ret;exact Q6p.err ((Xe1 H1).trans0 (Xe1 H2)) (by have h:=(Xo0 H2);simpa using h) (Xo2 H)
 |false=>
  have Vp:Q05 L p=q:=by have:=HQ.out;simpa[skS] using this
  have x4:Q08 L q=c:=by have:=HC.out;simpa[nxB] using this
  have F1:Q4j false p (Q69 sub (decide (d<16)) L most p)=Q69 sub (decide (d<16)) L most p:=rfl;rw[F1];clear F1;obtain ⟨X,hX⟩:∃X,Q69 sub (decide (d<16)) L most p=X:=⟨_,rfl⟩;rw[hX];have Zf:X=(if 48<=c.toNat/\c.toNat<=57 then Qki L q
   else if c=120 then
    (if 49<=(Q08 L (q+1)).toNat/\(Q08 L (q+1)).toNat<=48+most then .ok (.var ((Q08 L (q+1)).toNat-49),q+2) else .error (q+1))
   else if c=40/\decide (d<16)=true then
    Qwn L (sub (q+1))
   else .error q):=by
   rw[<-hX];unfold Q69;rw[Vp,x4];rfl
  have HR:=Xh3 Zf Vp x4;clear Zf Vp x4 hX
  by_cases E4:48<=c.toNat/\c.toNat<=57
  ·have n1:(48:Int)<=(c.toNat:Int):=(by omega);have n2:(c.toNat:Int)<=57:=(by omega);have F1:X=Qki L q:=(by rw[(Xo0 HR),Uu E4]);have HE:=Ua F1;clear F1 E4
   go_enter Tryz.func273,Tryz.ntmps273
   go_wp2_with (first
    |(go_at_call_of 131 (Value.pointer (some ⟨R,0,none⟩));refine (Xo4 H).mono ?_;rintro r w1 ⟨rfl,M1,I3⟩;have H1:=Xh2 M1 I3;clear M1 I3)
    |(go_at_call_of 298 (Value.pointer (some ⟨R,0,none⟩));refine (Qox (Xo0 H1) (Xo2 H) (Xo3 H) (fun W hW=>(Xe5 H) W ((Xe1 H1).trans0 hW))).mono ?_;rintro r w2 ⟨t,u,rfl,hN⟩;have H2:=Ua (show Q6p R s (most:Int) d (Qki s.data.toList q) w1 (.returned (.iface t u)) w2 from ⟨t,u,rfl,hN⟩);clear hN))
   go_ret;have h2:=H2.out;rw[(Xo0 H),<-HE.out] at h2;exact h2.lift (Xe1 H1)
  ·have A5:(48:Int)<=(c.toNat:Int)->¬(c.toNat:Int)<=57:=by omega
   by_cases hx:c=120
   ·subst hx;have n1:(48:Int)<=(((120:UInt8).toNat:Nat):Int):=(by decide);have n2:¬(((120:UInt8).toNat:Nat):Int)<=57:=(by decide);have n3:((((120:UInt8).toNat:Nat):Int)==120)=true:=(by decide);have F1:X=(if 49<=(Q08 L (q+1)).toNat/\(Q08 L (q+1)).toNat<=48+most then .ok (.var ((Q08 L (q+1)).toNat-49),q+2) else .error (q+1)):=(by rw[(Xo0 HR),Us E4,Uu rfl]);have i6:q+1<=s.size:=(by have:=Q0k (Xe2 HR) (by decide);have:=(Xo1 H);omega);have HX:=Ua i6;have HE:=Ua F1;clear F1 E4 A5 i6
    go_enter Tryz.func273,Tryz.ntmps273
    go_wp2_with (first
     |(go_at_call_of 131 (Value.pointer (some ⟨R,0,none⟩));refine (Xo4 H).mono ?_;rintro r w1 ⟨rfl,M1,I3⟩;have k1:=M1.c1;have g1:=M1.f1;have JX:=M1.setAt ((q:Int)+1);have k2:=JX.c2;have H1:=Xh2 M1 I3;have HS1:=Ua JX;clear M1 I3 JX)
     |(go_at_call_of 274 (Value.pointer (some ⟨R,0,none⟩));refine (Qfa (p:=q+1) (show Q0o _ R s (((q+1:Nat)):Int) (most:Int) d false from HS1.out) HX.out (Xo3 H) 1 (most:Int) (by decide)).mono ?_;rintro r w2 ⟨Y6,F2⟩;obtain ⟨z,hz⟩:∃z:Int,r=.returned (.int .i64 z):=by { rcases Y6 with ⟨_,_,_,h,_⟩|⟨_,h,_⟩ <;> exact ⟨_,h⟩ };subst hz;have hzw:IntKind.i64.wrap (z-1)=z-1:=by { rcases Y6 with ⟨_,h1,_,h,_⟩|⟨_,h,_⟩ <;> { injection h with h;injection h with _ h;rw[UO];have:=(Q08 s.data.toList (q+1)).toNat_lt;omega } };have H2:=Xh2 Y6 F2;clear Y6 F2))
    go_ret;obtain ⟨Y6,F2⟩:=H2.out;have ht:=((Xe1 H1).trans0 (Q1y w1 R 1 (.int .i64 ((q:Int)+1)))).trans0 F2;rw[(Xo0 H)] at Y6;rcases Y6 with ⟨_,h1,h2,h3,h4⟩|⟨h1,h3,h4⟩
    ·injection h3 with h3;injection h3 with _ h3;subst h3;rw[HE.out,Uu ⟨by omega,by omega⟩];refine Q6p.okd ht ?_ h4 ?_
     ·rw[Q2v];exact congrArg (fun z=>Value.iface _ (.agg #[.int .i64 z])) (by omega)
     ·have h5:Q08 L (q+1)≠0:=fun e=>by rw[e] at h1;exact absurd h1 (by decide)
      have:=Q67 h5;have:=(Xo1 H);omega
    ·rw[HE.out,Us (fun h=>h1 ⟨trivial,by omega,by omega⟩)];exact Q6p.err ht h4 HX.out
   ·have n3:=Qdd (k:=120) (by decide) hx
    by_cases h40:c=40/\d<16
    ·obtain ⟨rfl,Vx⟩:=h40;have n1:¬(48:Int)<=(((40:UInt8).toNat:Nat):Int):=(by decide);have n4:((((40:UInt8).toNat:Nat):Int)==40)=true:=(by decide);have F1:X=Qwn L (sub (q+1)):=(by rw[(Xo0 HR),Us E4,Us hx,Uu ⟨rfl,UT Vx⟩]);have i6:q+1<=s.size:=(by have:=Q0k (Xe2 HR) (by decide);have:=(Xo1 H);omega);have hwd1:IntKind.i64.wrap (d+1)=d+1:=(by rw[UO];have:=HD.out;omega);have hwd2:IntKind.i64.wrap (d+1-1)=d:=(by rw[UO];have:=HD.out;omega);have hwd3:IntKind.i64.wrap d=d:=(by rw[UO];have:=HD.out;omega);have HX:=Xh2 i6 (HB.out Vx);have HE:=Ua F1;clear F1 E4 A5 i6 hx
     go_enter Tryz.func273,Tryz.ntmps273
     go_upto_region 11 with (first
      |(go_at_call_of 131 (Value.pointer (some ⟨R,0,none⟩));refine (Xo4 H).mono ?_;rintro r w1 ⟨rfl,M1,I3⟩;have k1:=M1.c1;have k3:=M1.c3;have g1:=M1.f1;have JX:=M1.setAt ((q:Int)+1);have k3s:=JX.c3;have g3s:=JX.f3;have H1:=Xh2 M1 I3;have HS1:=Ua (JX.setDeep (d+1));clear M1 I3 JX)
      |(go_at_call_of 130 (Value.pointer (some ⟨R,0,none⟩));refine ((Xe1 HX) _ (q+1) (show Q0o _ R s (((q+1:Nat)):Int) (most:Int) (d+1) false from HS1.out) (Xo0 HX) (fun W hW=>(Xe5 H) W (((Xe1 H1).trans0 ((Q1y w1 R 1 (.int .i64 ((q:Int)+1))).trans0 (Q1y _ R 3 (.int .i64 (d+1))))).trans0 hW))).mono ?_;rintro r w2 ⟨t,u,rfl,F2,hN⟩;have H2:=Xh2 (((Xe1 H1).trans0 ((Q1y w1 R 1 (.int .i64 ((q:Int)+1))).trans0 (Q1y _ R 3 (.int .i64 (d+1))))).trans0 F2) hN;clear F2 hN))
     cases hS:sub (q+1) with
     |error e=>
      have h2:=(Xe1 H2);rw[hS] at h2;have F1:X=.error e:=(by rw[HE.out,hS];rfl);have k3:=h2.1.c3;have g3:=h2.1.f3;have M7:=h2.1.setDeep d;have P2:=Q3j M7 h2.2 (Xo3 H);simp only[skS,Xa8] at P2;have Zp:=fun W (hW:Q0o W R s (e:Int) (most:Int) d true)=>Q9q hW h2.2 (Xo3 H) ⟨#[41]⟩ (by decide) (by decide) (by decide);simp only[Xa8] at Zp;have H3:=Xh4 F1 h2.2 P2 Zp;clear h2 F1 M7 P2 Zp hS
      go_wp2_with (first
       |(go_at_call_of 131 (Value.pointer (some ⟨R,0,none⟩));refine (Xo2 H3).mono ?_;rintro r w4 ⟨rfl,QD,ZR⟩;have H4:=Xh2 QD ZR;clear QD ZR)
       |(go_at_call_of 129 (Value.pointer (some ⟨R,0,none⟩));refine ((Xe3 H3) w4 (Xo0 H4)).mono ?_;rintro r w5 ⟨rfl,Vu,ZX⟩;have H5:=Xh2 ZX Vu;clear ZX Vu))
      go_ret;rw[(Xo0 H3)];exact Q6p.err ((((Xo0 H2).trans0 (Q1y w2 R 3 (.int .i64 d))).trans0 (Xe1 H4)).trans0 (Xe1 H5)) (Xo0 H5).1 (Xo0 H5).2
     |ok z=>
      obtain ⟨x,q2⟩:=z;have h2:=(Xe1 H2);rw[hS] at h2;obtain ⟨q3,ZV⟩:∃q3,Q05 L q2=q3:=⟨_,rfl⟩;have hq3s:q3<=s.size:=(by rw[<-ZV,<-(Xo1 H)];exact Q3a (by have:=(Xo1 H);have:=h2.2.2;omega));have F1:X=if Q08 L q3=41 then .ok (x,q3+1) else .error q3:=by rw[HE.out,hS,<-ZV];rfl
      have k3:=h2.2.1.c3;have g3:=h2.2.1.f3;have M7:=h2.2.1.setDeep d;have P2:=Q3j M7 h2.2.2 (Xo3 H);rw[(Xo0 H)] at P2;simp only[skS,Tf,Xag,ZV] at P2;have Zp:=fun W (hW:Q0o W R s (q3:Int) (most:Int) d false)=>Q9q hW hq3s (Xo3 H) ⟨#[41]⟩ (by decide) (by decide) (by decide);have j5:Q2e L [41] q3=if Q08 L q3=41 then .ok (q3+1) else .error q3:=Qsa
      rw[(Xo0 H)] at Zp;simp only[Tf,Xag] at Zp;have H3:=Xh5 F1 h2.1 P2 Zp j5;clear h2 F1 M7 P2 Zp hS j5 ZV hq3s
      go_wp2_with (first
       |(go_at_call_of 131 (Value.pointer (some ⟨R,0,none⟩));refine (Xo2 H3).mono ?_;rintro r w4 ⟨rfl,QD,ZR⟩;have H4:=Xh2 QD ZR;clear QD ZR)
       |(go_at_call_of 129 (Value.pointer (some ⟨R,0,none⟩));refine ((Xo3 H3) w4 (Xo0 H4)).mono ?_;rintro r w5 ⟨rfl,Vu,ZX⟩;have H5:=Xh2 ZX Vu;clear ZX Vu))
      go_ret;have ht35:=((Q1y w2 R 3 (.int .i64 d)).trans0 (Xe1 H4)).trans0 (Xe1 H5);have ht:=(Xo0 H2).trans0 ht35;have h5:=(Xo0 H5);have I7:Qiy R s (most:Int) d (Q2e L [41] q3) w5:=h5;rw[(Xe4 H3)] at I7;rw[(Xo0 H3)]
      by_cases h41:Q08 L q3=41
      ·rw[Uu h41] at I7⊢;refine Q6p.okd ht ?_ I7.1 I7.2;have h6:=(Xo1 H3).turn ht35 (fun k (hk:k=R)=>by subst hk;simp only[Tj];exact (Xo0 H1).lt);exact h6.more fun k hk=>.inl (by simp only[Tj];exact Ue hk (Xe1 H1).size)
      ·rw[Us h41] at I7⊢;exact Q6p.err ht I7.1 I7.2
    ·have F1:X=.error q:=by
      rw[(Xo0 HR),Us E4,Us hx,Us (fun h=>h40 ⟨h.1,Tt h.2⟩)]
     have HE:=Ua F1;clear F1;have hcut:∀b:Bool,b=((c.toNat:Int)==40)->(b=false∨b=true/\¬d<16):=by
      intro b hb
      by_cases hc:c=40
      ·exact .inr ⟨by rw[hb,hc];rfl,fun hd=>h40 ⟨hc,hd⟩⟩
      ·exact .inl (by rw[hb];exact Qdd (k:=40) (by decide) hc)
     have o4:¬((48:Int)<=(c.toNat:Int)/\(c.toNat:Int)<=57):=(by omega);rcases hcut _ rfl with n40|⟨n40,nd⟩
     ·clear hcut h40 hx E4 A5
      by_cases n48:(48:Int)<=(c.toNat:Int)
      ·have n57:¬(c.toNat:Int)<=57:=(by omega);clear o4
       go_enter Tryz.func273,Tryz.ntmps273
       go_wp2_with (first
        |(go_at_call_of 131 (Value.pointer (some ⟨R,0,none⟩));refine (Xo4 H).mono ?_;rintro r w1 ⟨rfl,M1,I3⟩;have k1:=M1.c1;have k3:=M1.c3;have H1:=Xh2 M1 I3;clear M1 I3)
        |(go_at_call_of 182 (Value.pointer (some ⟨R,0,none⟩));refine (Q5h (Xo0 H1) _).mono ?_;rintro r w2 ⟨rfl,X0,F2⟩;have H2:=Xh2 X0 F2;clear X0 F2))
       go_ret;rw[HE.out];exact Q6p.err ((Xe1 H1).trans0 (Xe1 H2)) (by have h:=(Xo0 H2);simpa using h) (Xo2 H)
      ·clear o4
       go_enter Tryz.func273,Tryz.ntmps273
       go_wp2_with (first
        |(go_at_call_of 131 (Value.pointer (some ⟨R,0,none⟩));refine (Xo4 H).mono ?_;rintro r w1 ⟨rfl,M1,I3⟩;have k1:=M1.c1;have k3:=M1.c3;have H1:=Xh2 M1 I3;clear M1 I3)
        |(go_at_call_of 182 (Value.pointer (some ⟨R,0,none⟩));refine (Q5h (Xo0 H1) _).mono ?_;rintro r w2 ⟨rfl,X0,F2⟩;have H2:=Xh2 X0 F2;clear X0 F2))
       go_ret;rw[HE.out];exact Q6p.err ((Xe1 H1).trans0 (Xe1 H2)) (by have h:=(Xo0 H2);simpa using h) (Xo2 H)
     ·have hc40:(c.toNat:Int)=40:=(by simpa using n40);have n48:¬(48:Int)<=(c.toNat:Int):=(by omega);clear hcut h40 hx E4 A5 o4 hc40
      go_enter Tryz.func273,Tryz.ntmps273
      go_wp2_with (first
       |(go_at_call_of 131 (Value.pointer (some ⟨R,0,none⟩));refine (Xo4 H).mono ?_;rintro r w1 ⟨rfl,M1,I3⟩;have k1:=M1.c1;have k3:=M1.c3;have H1:=Xh2 M1 I3;clear M1 I3)
       |(go_at_call_of 182 (Value.pointer (some ⟨R,0,none⟩));refine (Q5h (Xo0 H1) _).mono ?_;rintro r w2 ⟨rfl,X0,F2⟩;have H2:=Xh2 X0 F2;clear X0 F2))
      go_ret;rw[HE.out];exact Q6p.err ((Xe1 H1).trans0 (Xe1 H2)) (by have h:=(Xo0 H2);simpa using h) (Xo2 H)
def Qde (L:LU) (r:PR Ex):PR Ex:=match r with
 | .error e=>.error e
 | .ok (b,q)=>if Q08 L (Q05 L q)=94 then
    (if 48<=(Q08 L (Q05 L (Q05 L q+1))).toNat/\(Q08 L (Q05 L (Q05 L q+1))).toNat<=56 then .ok (.pow b ((Q08 L (Q05 L (Q05 L q+1))).toNat-48),Q05 L (Q05 L q+1)+1) else .error (Q05 L (Q05 L q+1)))
   else .ok (b,Q05 L q)
theorem Qvb (sub:Nat->PR Ex) (opens:Bool) (L:LU) (most p:Nat) (bad:Bool):Q4j bad p (Q2s sub opens L most p)=Qde L (Q4j bad p (Q69 sub opens L most p)):=by
 cases bad
 ·show Q2s sub opens L most p=Qde L (Q69 sub opens L most p)
  unfold Q2s Qde;cases Q69 sub opens L most p <;> rfl
 ·rfl
theorem Qj2 {fp:Nat->Prop} {R:Nat} {w w':World} {x:Ex} {v:Value} (h:Q2v fp w x v) (ht:Q0v (OnR R) w w') (hR:fp R):Q2v fp w' x v:=h.turn ht fun k (hk:k=R)=>by subst hk;exact hR
theorem Qoy {w:World} {R:Nat} {s:ByteArray} {p most:Nat} {d:Int} {bad:Bool} (sub:Nat->PR Ex) (h:Q0o w R s (p:Int) (most:Int) d bad) (hp:p<=s.size) (hs:s.size<=281474976710656) (V8:0<=d) (hd:d<=16) (hT:∀W,Q0v (OnR R) w W->Q1s W)
 (N7:d<16->∀(W:World) (q:Nat),Q0o W R s (q:Int) (most:Int) (d+1) false->q<=s.size->(∀W',Q0v (OnR R) W W'->Q1s W')->Calls Tryz.prog 130 #[.pointer (some ⟨R,0,none⟩)] W (Q6p R s (most:Int) (d+1) (sub q) W)):
 Calls Tryz.prog 238 #[.pointer (some ⟨R,0,none⟩)] w (Q6p R s (most:Int) d (Q4j bad p (Q2s sub (decide (d<16)) s.data.toList most p)) w):=by
 have hb:=Qva sub h hp hs V8 hd hT N7;have hRw:=h.lt;rw[Qvb];obtain ⟨L,hL⟩:∃L,s.data.toList=L:=⟨_,rfl⟩;have U8:L.length=s.size:=by rw[<-hL];rfl
 rw[hL] at hb⊢;obtain ⟨r0,Q4⟩:∃r0,Q4j bad p (Q69 sub (decide (d<16)) L most p)=r0:=⟨_,rfl⟩;rw[Q4] at hb⊢;obtain ⟨X,hX⟩:∃X,Qde L r0=X:=⟨_,rfl⟩;rw[hX];have H:=Xh6 hL U8 hs hb hX hRw;clear h hp hs hT N7 hb hL U8 Q4 V8 hd hX hRw
 go_enter Tryz.func238,Tryz.ntmps238
 go_upto_region 2 with (go_at_call_of 273 (Value.pointer (some ⟨R,0,none⟩));refine (Xo3 H).mono ?_;rintro r w1 ⟨t,u,rfl,I3,hN⟩;have H1:=Xh2 I3 hN;clear I3 hN)
 cases r0 with
 |error e=>
  have h1:=(Xe1 H1);have P2:=Q3j h1.1 h1.2 (Xo2 H);simp only[skS,nxB,Xa8] at P2;have H2:=Xh2 P2 h1.2;clear P2 h1;have n94:((((0:UInt8).toNat:Nat):Int) != 94)=true:=by decide
  go_wp2_with (go_at_call_of 131 (Value.pointer (some ⟨R,0,none⟩));refine (Xo0 H2).mono ?_;rintro r w2 ⟨rfl,X0,F2⟩;have H3:=Xh2 X0 F2;clear X0 F2)
  go_ret;have hX:X=.error e:=(Xo4 H).symm;rw[hX];exact Q6p.err ((Xo0 H1).trans0 (Xe1 H3)) (Xo0 H3) (Xe1 H2)
 |ok z=>
  obtain ⟨x,q0⟩:=z;have h1:=(Xe1 H1);obtain ⟨q,hq⟩:∃q,Q05 L q0=q:=⟨_,rfl⟩;have D8:q<=s.size:=by rw[<-hq,<-(Xo1 H)];exact Q3a (by have:=(Xo1 H);have:=h1.2.2;omega)
  obtain ⟨c,hc⟩:∃c,Q08 L q=c:=⟨_,rfl⟩;have Z5:X=if c=94 then
   (if 48<=(Q08 L (Q05 L (q+1))).toNat/\(Q08 L (Q05 L (q+1))).toNat<=56 then .ok (.pow x ((Q08 L (Q05 L (q+1))).toNat-48),Q05 L (q+1)+1) else .error (Q05 L (q+1)))
   else .ok (x,q):=by
   have h:=(Xo4 H);unfold Qde at h;simp only[hq,hc] at h;exact h.symm
  have P2:=Q3j h1.2.1 h1.2.2 (Xo2 H);rw[(Xo0 H)] at P2;simp only[skS,nxB,Tf,Xag,hq,hc] at P2;have E3:IntKind.i64.wrap ((q:Int)+1)=(q:Int)+1:=by rw[UO];have:=(Xo2 H);omega
  by_cases h94:c=94
  ·subst h94;have n94:((((94:UInt8).toNat:Nat):Int) != 94)=false:=(by decide);obtain ⟨q2,J5⟩:∃q2,Q05 L (q+1)=q2:=⟨_,rfl⟩;have hq1s:q+1<=s.size:=(by have:=Q0k hc (by decide);have:=(Xo1 H);omega);have hq2s:q2<=s.size:=(by rw[<-J5,<-(Xo1 H)];exact Q3a (by have:=(Xo1 H);omega));have Q5:=fun W (hW:Q0o W R s ((q+1:Nat):Int) (most:Int) d false)=>Q3j hW hq1s (Xo2 H);rw[(Xo0 H)] at Q5;simp only[skS,Tf,Xag,J5] at Q5;rw[Uu rfl,J5] at Z5;have H2:=Xh5 P2 h1.1 Q5 hq2s Z5;clear P2 h1 Q5 J5 hq1s hq2s Z5 hq hc D8
   go_upto_region 4 with (go_at_call_of 131 (Value.pointer (some ⟨R,0,none⟩));refine (Xo0 H2).mono ?_;rintro r w2 ⟨rfl,X0,F2⟩;have k1:=X0.c1;have g1:=X0.f1;have H3:=Xh2 (X0.setAt ((q:Int)+1)) (F2.trans0 (Q1y w2 R 1 (.int .i64 ((q:Int)+1))));clear X0 F2)
   go_upto_region 6 with (go_at_call_of 131 (Value.pointer (some ⟨R,0,none⟩));refine ((Xo2 H2) _ (show Q0o _ R s (((q+1:Nat)):Int) (most:Int) d false from (Xo0 H3))).mono ?_;rintro r w3 ⟨rfl,M7,Y8⟩;have H4:=Xh2 M7 ((Xe1 H3).trans0 Y8);clear M7 Y8)
   go_wp2_with (go_at_call_of 274 (Value.pointer (some ⟨R,0,none⟩));refine (Qfa (Xo0 H4) (Xo3 H2) (Xo2 H) 0 8 (by decide)).mono ?_;rintro r w4 ⟨Y6,ZR⟩;obtain ⟨z,hz⟩:∃z:Int,r=.returned (.int .i64 z):=by { rcases Y6 with ⟨_,_,_,h,_⟩|⟨_,h,_⟩ <;> exact ⟨_,h⟩ };subst hz;have H5:=Xh2 Y6 ((Xe1 H4).trans0 ZR);clear Y6 ZR)
   go_ret;obtain ⟨Y6,ht⟩:=H5.out;rw[(Xo0 H)] at Y6;have hxw:=Qj2 (Xo1 H2) ht (Xe5 H);have Wf:=(Xo0 H1).trans0 ht;rcases Y6 with ⟨_,h1,h2,h3,h4⟩|⟨h1,h3,h4⟩
   ·injection h3 with h3;injection h3 with _ h3;subst h3;rw[(Xe4 H2),Uu ⟨by omega,by omega⟩];refine Q6p.okd Wf ?_ h4 ?_
    ·rw[Q2v];refine ⟨_,congrArg (fun z=>Value.iface _ (.agg #[_,.int .i64 z])) (by omega),hxw⟩
    ·have h5:Q08 L q2≠0:=fun e=>by rw[e] at h1;exact absurd h1 (by decide)
     have:=Q67 h5;have:=(Xo1 H);omega
   ·rw[(Xe4 H2),Us (fun h=>h1 ⟨trivial,by omega,by omega⟩)];exact Q6p.err Wf h4 (Xo3 H2)
  ·have n93:((c.toNat:Int)==94)=false:=Qdd (k:=94) (by decide) h94;have n94:((c.toNat:Int) != 94)=true:=(by rw[bne,n93];rfl);rw[Us h94] at Z5;have H2:=Xh4 P2 h1.1 Z5 D8;clear P2 h1 Z5 D8 hq hc h94
   go_wp2_with (go_at_call_of 131 (Value.pointer (some ⟨R,0,none⟩));refine (Xo0 H2).mono ?_;rintro r w2 ⟨rfl,X0,F2⟩;have H3:=Xh2 X0 F2;clear X0 F2)
   go_ret;rw[(Xo2 H2)];exact Q6p.okd ((Xo0 H1).trans0 (Xe1 H3)) (Qj2 (Xo1 H2) (Xe1 H3) (Xe5 H)) (Xo0 H3) (Xe3 H2)
theorem Qj3:(Tryz.prog.info? 119).map (fun i=>(i.zero,i.size,i.bytes))=some (some .nilIface,1,16):=by kernel_rfl
theorem Qsb:(Tryz.prog.info? 4).map (fun i=>(i.zero,i.size,i.bytes))=some (some (.bool false),1,1):=by kernel_rfl
theorem Q1c {T:TypeId} {z:Value} {s b:Nat} (h:(Tryz.prog.info? T).map (fun i=>(i.zero,i.size,i.bytes))=some (some z,s,b)):∃i0:TypeInfo,Tryz.prog.info? T=some i0/\i0.zero=some z/\i0.size=s/\i0.bytes=b:=by
 cases hi:Tryz.prog.info? T with
 |none=>rw[hi] at h;cases h
 |some i0=>
  rw[hi] at h;simp only[UE,Up,Xat] at h;exact ⟨i0,rfl,h.1,h.2.1,h.2.2⟩
theorem Q0o.keep {w w':World} {R:Nat} {s:ByteArray} {p m d:Int} {bad:Bool} {fp:Nat->Prop} (h:Q0o w R s p m d bad) (ht:Q0v fp w w') (hn:¬fp R):Q0o w' R s p m d bad:=
 ⟨(ht.cell (p:=⟨R,0,none⟩) h.lt hn).trans h.c0,(ht.cell (p:=⟨R,1,none⟩) h.lt hn).trans h.c1,(ht.cell (p:=⟨R,2,none⟩) h.lt hn).trans h.c2,(ht.cell (p:=⟨R,3,none⟩) h.lt hn).trans h.c3,(ht.cell (p:=⟨R,4,none⟩) h.lt hn).trans h.c4,
   (ht.frozen (p:=⟨R,0,none⟩) h.lt hn).trans h.f0,(ht.frozen (p:=⟨R,1,none⟩) h.lt hn).trans h.f1,(ht.frozen (p:=⟨R,2,none⟩) h.lt hn).trans h.f2,(ht.frozen (p:=⟨R,3,none⟩) h.lt hn).trans h.f3,(ht.frozen (p:=⟨R,4,none⟩) h.lt hn).trans h.f4,Ue h.lt ht.size,fun o ho=>(ht.cell (p:=⟨R,o,none⟩) h.lt hn).trans (h.c5 o ho)⟩
def fpR (b:Nat) (a:OA) (k:Nat):Prop:=k<=b∨∃x,a=some x/\x.block=k
structure Q6h (R:Nat) (w wr:World) (a:OA) (n c:Nat) (acc:List Ex) (vs:LV):Prop where
 turn:Q0v (OnR R) w wr
 cell:wr.cell? ⟨w.heap.size,0,none⟩=some (.slice a n c)
 frz:wr.frozen? ⟨w.heap.size,0,none⟩=false
 row:Row wr (w.heap.size+1) 119 1 a n c vs
 nodes:Q1b (fpR w.heap.size a) wr acc vs
 len:acc.length=n
theorem Q6h.lt {R:Nat} {w wr:World} {a:OA} {n c:Nat} {acc:List Ex} {vs:LV} (h:Q6h R w wr a n c acc vs):w.heap.size<wr.heap.size:=UI h.cell
theorem Q6h.step {R:Nat} {w wr w':World} {a:OA} {n c:Nat} {acc:List Ex} {vs:LV} (h:Q6h R w wr a n c acc vs) (hR:R<w.heap.size) (ht:Q0v (OnR R) wr w'):Q6h R w w' a n c acc vs:=
 ⟨h.turn.trans0 ht,(ht.cell (p:=⟨w.heap.size,0,none⟩) h.lt (fun (e:w.heap.size=R)=>by omega)).trans h.cell,(ht.frozen (p:=⟨w.heap.size,0,none⟩) h.lt (fun (e:w.heap.size=R)=>by omega)).trans h.frz,
   h.row.turn ht (fun x hx (e:x.block=R)=>by
    rcases h.row.form with ⟨h0,_⟩|⟨g,cur,h0,h1,_⟩
    ·rw[h0] at hx;cases hx
    ·rw[h0] at hx;injection hx with hx;subst hx
     have e:g=R:=e;omega),h.nodes.turn ht (fun k (hk:k=R)=>by subst hk;exact .inl (Xa9 hR)),h.len⟩
theorem Qj4 {R:Nat} {w w3 w4:World} {a:OA} {n c:Nat} {acc:List Ex} {vs:LV} (h:Q6h R w w3 a n c acc vs) {o:Obj} (Z7:(w3.alloc o).grownBy w4 (Value.slice a n c).ownBlock) (v:Value):
 Q0v (fun k=>k=w.heap.size∨∃x,a=some x/\x.block=k) w3 (w4.setCell ⟨w.heap.size,0,none⟩ v):=by
 have h1:Q0v (fun k=>k=w.heap.size∨∃x,a=some x/\x.block=k) w3 (w3.alloc o):=Q0v.of_below (Ba) _;have h2:Q0v (fun k=>k=w.heap.size∨∃x,a=some x/\x.block=k) (w3.alloc o) w4:=Q0v.of_grown Z7 fun r hr _=>by
  cases a with
  |none=>simp[Value.ownBlock] at hr
  |some x=>
   simp only[Value.ownBlock,Up] at hr;exact .inr ⟨x,rfl,hr⟩
 exact (h1.trans0 h2).trans0 (Q0v.setCell _ _ (p:=⟨w.heap.size,0,none⟩) (.inl rfl) _)
theorem Q1l {w:World} {B:Nat} {T:TypeId} {a:OA} {n c:Nat} {vs:LV} (h:Row w B T 1 a n c vs) {x:Addr} (hx:a=some x):B<=x.block/\x.block<w.heap.size:=by
 rcases h.form with ⟨h0,_⟩|⟨g,cur,h0,h1,h2,_⟩
 ·rw[h0] at hx;cases hx
 ·rw[h0] at hx;injection hx with hx;subst hx;exact ⟨h1,h2⟩
theorem Qsc {R:Nat} {w wr w3 w4:World} {a:OA} {n c:Nat} {acc:List Ex} {vs:LV} (hR:R<w.heap.size) (hr:Q6h R w wr a n c acc vs) (ht:Q0v (OnR R) wr w3) {o:Obj} (Z7:(w3.alloc o).grownBy w4 (Value.slice a n c).ownBlock) {g cap:Nat} {x:Ex} {v:Value} (hx:Q2v (·<wr.heap.size) w3 x v)
 (A1:Row w4 (w.heap.size+1) 119 1 (some ⟨g,0,none⟩) (n+1) cap (vs++[v])) (R1:(Value.slice a n c).ownBlock=some g∨g=w3.heap.size+1) (hfz:w4.frozen? ⟨w.heap.size,0,none⟩=false) (G2:∃u,w4.cell? ⟨w.heap.size,0,none⟩=some u):
 Q6h R w (w4.setCell ⟨w.heap.size,0,none⟩ (.slice (some ⟨g,0,none⟩) (n+1) cap)) (some ⟨g,0,none⟩) (n+1) cap (acc++[x]) (vs++[v]):=by
 have h:=hr.step hR ht;have ZA:=Qj4 h Z7 (.slice (some ⟨g,0,none⟩) (n+1) cap);have hfb:∀k,(k=w.heap.size∨∃x,a=some x/\x.block=k)->fpR w.heap.size a k:=fun k hk=>hk.elim (fun e=>.inl (Nat.le_of_eq e)) .inr;have Kh:∀k,fpR w.heap.size (some ⟨g,0,none⟩) k->fpR w.heap.size a k∨w3.heap.size<=k:=by
  rintro k (hk|⟨y,hy,hk⟩)
  ·exact .inl (.inl hk)
  ·injection hy with hy;subst hy;have hk:g=k:=hk;subst hk;rcases R1 with h1|h1
   ·cases a with
    |none=>simp[Value.ownBlock] at h1
    |some z=>
     simp only[Value.ownBlock,Up] at h1;exact .inl (.inr ⟨z,rfl,h1⟩)
   ·exact .inr (by omega)
 have hgb:=A1.fresh;refine ⟨h.turn.trans ZA fun k hk hf=>?_,?_,?_,?_,?_,?_⟩
 ·exfalso;rcases hf with rfl|⟨y,hy,rfl⟩
  ·omega
  ·have:=Q1l h.row hy;omega
 ·obtain ⟨u,hu⟩:=G2;exact UD _ _ _ (by rw[hu];rfl)
 ·exact (Un _ _ _ _).trans hfz
 ·exact A1.far (p:=⟨w.heap.size,0,none⟩) (fun y hy=>by injection hy with hy;subst hy;show g≠w.heap.size;omega) _
 ·have hU:∀k,(fpR w.heap.size a k∨fpR w.heap.size (some ⟨g,0,none⟩) k)->fpR w.heap.size a k∨w3.heap.size<=k:=fun k hk=>hk.elim .inl (Kh k);have hA:∀k,fpR w.heap.size a k->k<wr.heap.size:=by
   rintro k (hk|⟨y,hy,rfl⟩)
   ·exact TQ hk hr.lt
   ·exact (Q1l hr.row hy).2
  have A5:=((h.nodes.more hU).turn ZA (fun k hk=>.inl (hfb k hk))).more (fp':=fpR w.heap.size (some ⟨g,0,none⟩)) (fun k hk=>.inl (.inr hk));have h1:=((hx.more (fp':=fun k=>fpR w.heap.size a k∨fpR w.heap.size (some ⟨g,0,none⟩) k) fun k hk=>(hU k hk).imp (hA k) id).turn ZA (fun k hk=>.inl (hfb k hk))).more (fp':=fpR w.heap.size (some ⟨g,0,none⟩)) (fun k hk=>.inl (.inr hk));exact A5.snoc h1
 ·rw[Uh,h.len];rfl
def Qsd (R:Nat) (s:ByteArray) (m d:Int) (w:World) (n:Nat) (acc:List Ex) (vs:LV) (r0:PR Ex) (wx:World):Prop:=
 ∃g cap t u,wx.cell? ⟨w.heap.size,0,none⟩=some (.slice (some ⟨g,0,none⟩) (n+1) cap)/\Q0v (OnR R) w wx/\match r0 with
  | .ok (x,q)=>Q6h R w wx (some ⟨g,0,none⟩) (n+1) cap (acc++[x]) (vs++[.iface t u])/\Q0o wx R s (q:Int) m d false/\q<=s.size
  | .error q=>Q0o wx R s (q:Int) m d true/\q<=s.size
theorem Qvc {R:Nat} {s:ByteArray} {m d:Int} {w wr w3 w4:World} {a:OA} {n c:Nat} {acc:List Ex} {vs:LV} {r0:PR Ex} {e:Ending} {t:TypeId} {u:Value} (hR:R<w.heap.size) (hr:Q6h R w wr a n c acc vs) (hN:Q6p R s m d r0 wr e w3) (he:e=.returned (.iface t u)) {o:Obj} (Z7:(w3.alloc o).grownBy w4 (Value.slice a n c).ownBlock) {g cap:Nat}
 (A1:Row w4 (w.heap.size+1) 119 1 (some ⟨g,0,none⟩) (n+1) cap (vs++[.iface t u])) (R1:(Value.slice a n c).ownBlock=some g∨g=w3.heap.size+1) (hfz:w4.frozen? ⟨w.heap.size,0,none⟩=false) (G2:w4.cell? ⟨w.heap.size,0,none⟩=some (.slice a n c)):
 Qsd R s m d w n acc vs r0 (w4.setCell ⟨w.heap.size,0,none⟩ (.slice (some ⟨g,0,none⟩) (n+1) cap)):=by
 subst he;obtain ⟨t',u',he,ht,h2⟩:=hN;injection he with he;injection he with e1 e2;subst e1;subst e2;have K4:=hr.step hR ht;have ZA:=Qj4 K4 Z7 (.slice (some ⟨g,0,none⟩) (n+1) cap);have hnR:¬(R=w.heap.size∨∃x,a=some x/\x.block=R):=by
  rintro (h|⟨y,hy,h⟩)
  ·omega
  ·have:=Q1l K4.row hy;omega
 have hfw:Q0v (OnR R) w (w4.setCell ⟨w.heap.size,0,none⟩ (.slice (some ⟨g,0,none⟩) (n+1) cap)):=K4.turn.trans ZA fun k hk hf=>by
  exfalso;rcases hf with rfl|⟨y,hy,rfl⟩
  ·omega
  ·have:=Q1l K4.row hy;omega
 refine ⟨g,cap,t,u,UD _ _ _ (by rw[G2];rfl),hfw,?_⟩;cases r0 with
 |error q=>exact ⟨h2.1.keep ZA hnR,h2.2⟩
 |ok z=>exact ⟨Qsc hR hr ht Z7 h2.1 A1 R1 hfz ⟨_,G2⟩,h2.2.1.keep ZA hnR,h2.2.2⟩
theorem Qoz (sub:Nat->PR Ex) (opens:Bool) (L:LU) (most f p:Nat) (acc:List Ex) (bad:Bool):Q4j bad p (Q57 sub opens L most (f+1) p acc)=(match Q4j bad p (Q2s sub opens L most p) with
 | .error e=>.error e
 | .ok (x,q)=>if Q08 L (Q05 L q)=42 then Q57 sub opens L most f (Q05 L q+1) (acc++[x]) else .ok (.prod (acc++[x]),Q05 L q)):=by
 cases bad
 ·show Q57 sub opens L most (f+1) p acc=_
  rw[Q57];rfl
 ·rfl
theorem Qxr {R:Nat} {w w':World} {g n c:Nat} {acc:List Ex} {vs:LV} (h:Q6h R w w' (some ⟨g,0,none⟩) n c acc vs) (h0:acc≠[]):Q2v (·<w.heap.size) w' (.prod acc) (.iface 181 (.agg #[.slice (some ⟨g,0,none⟩) n c])):=by
 have g7:∀k,k<w.heap.size->fpR w.heap.size (some ⟨g,0,none⟩) k∨w'.heap.size<=k:=fun k hk=>.inl (.inl (Xa9 hk));have hg:=Q1l h.row rfl;have hc:=h.row.cap;have W8:w.heap.size+1<=g:=hg.1;rw[Q2v];refine ⟨g,c,by rw[h.len],fun hk=>by omega,hg.2,by rw[h.len];exact hc.1,hc.2,h0,(h.nodes.more g7).row 0 fun j v hv=>?_⟩;obtain ⟨g',e,_,_,G1⟩:=h.row.at_ hv;injection e with e;injection e with e;subst e;rw[UV];exact G1
theorem Qdf {fp:Nat->Prop} {w w':World} (h:Q0v fp w.drew w'):Q0v fp w w':=⟨h.os,h.tape,h.output,h.size,h.block⟩
theorem Qvd {w:World} {R:Nat} {s:ByteArray} {p most:Nat} {d:Int} {bad:Bool} (sub:Nat->PR Ex) (h:Q0o w R s (p:Int) (most:Int) d bad) (hp:p<=s.size) (hs:s.size<=1000000) (V8:0<=d) (hd:d<=16) (hT:∀W,Q0v (OnR R) w W->Q1s W) (Wn:decide (d<16)=true->∀p,p<=s.data.toList.length->Q6a s.data.toList p (sub p))
 (N7:d<16->∀(W:World) (q:Nat),Q0o W R s (q:Int) (most:Int) (d+1) false->q<=s.size->(∀W',Q0v (OnR R) W W'->Q1s W')->Calls Tryz.prog 130 #[.pointer (some ⟨R,0,none⟩)] W (Q6p R s (most:Int) (d+1) (sub q) W)):
 Calls Tryz.prog 183 #[.pointer (some ⟨R,0,none⟩)] w (Q6p R s (most:Int) d (Q4j bad p (Q57 sub (decide (d<16)) s.data.toList most (s.size+1) p [])) w):=by
 obtain ⟨i0,O2,E2,I2,X1⟩:=Q1c Qj3;obtain ⟨L,hL⟩:∃L,s.data.toList=L:=⟨_,rfl⟩;have U8:L.length=s.size:=by rw[<-hL];rfl
 rw[hL];obtain ⟨X,hX⟩:∃X,Q4j bad p (Q57 sub (decide (d<16)) L most (s.size+1) p [])=X:=⟨_,rfl⟩;rw[hX];have hR:=h.lt;have N6:Bw w (w.alloc (.cells #[.slice none 0 0] 181)):=Ba;have Y0:Q6h R w (w.alloc (.cells #[.slice none 0 0] 181)) none 0 0 [] []:=
  ⟨Q0v.of_below N6 _,by rw[Uw _ _ _ _ _ _ (Uo _ _)];rfl,TO _ _ _ _ _ (Uo _ _),Row.nil_ _ _ _ _,trivial,rfl⟩
 have H:=Xh7 hL U8 hs hX hR Y0 (h.step N6);have HS:=Xh4 V8 hd hT N7;rw[hL] at Wn;have HP:=Xh2 hp Wn;clear h hp hs hT N7 Wn hL U8 V8 hd hX hR Y0 N6
 go_enter Tryz.func183,Tryz.ntmps183
 go_wp2_with fail
 go_step3
 go_wp2_with fail
 go_step3
 go_wp2_with fail
 go_loopw [] (fun wr=>∃(f p':Nat) (bd:Bool) (a:OA) (n c:Nat) (acc:List Ex) (vs:LV),Q6h R w wr a n c acc vs/\Q0o wr R s (p':Int) (most:Int) d bd/\p'<=s.size/\s.size+1<=f+p'/\n<=p'/\X=Q4j bd p' (Q57 sub (decide (d<16)) L most f p' acc)) (fun wr=>s.size-atOf wr R)
 case atStart=>exact ⟨s.size+1,p,bad,none,0,0,[],[],(Xo5 H),(Xe6 H),(Xo0 HP),by omega,Ut _,(Xo3 H).symm⟩
 case round=>
  obtain ⟨f,p',bd,a,n,c,acc,vs,Y0,hr,Zy,hf,hn,Z5⟩:=hrel;obtain ⟨f,rfl⟩:∃f',f=f'+1:=⟨f-1,by omega⟩;rw[Qoz] at Z5;have hfa:=Qoy sub hr.drew Zy (by have:=(Xo2 H);omega) (Xo0 HS) (Xo1 HS) (fun W hW=>(Xo2 HS) W (Y0.turn.trans0 (Qdf hW))) (Xe3 HS);rw[(Xo0 H)] at hfa;obtain ⟨r0,Q4⟩:∃r0,Q4j bd p' (Q2s sub (decide (d<16)) L most p')=r0:=⟨_,rfl⟩;rw[Q4] at hfa Z5;have hgo:∀x q0,r0=.ok (x,q0)->p'<q0:=fun x q0 e=>by
   rw[e] at Q4;cases bd with
   |true=>cases Q4
   |false=>
    have hm:=Qax (most:=most) (Xe1 HP) (p:=p') (by have:=(Xo1 H);omega);have M1:Q2s sub (decide (d<16)) L most p'=.ok (x,q0):=Q4;rw[M1] at hm;exact hm.1
  have HG:=Ua hgo;have Jv:=Y0.cell;have hkd:wr.drew.cell? ⟨w.heap.size,0,none⟩=some (.slice a n c):=Jv;have Y1:s.size<=1000000:=(Xo2 H);have A5:n+1<=1000001:=by omega
  have HF:=Xh7 hfa Y0 hr Zy hf hn Z5;clear hfa Y0 hr Zy hf Z5 Q4 hn Y1 hgo
  go_upto_region 2 with fail
  go_cut [] (fun wx=>Qsd R s (most:Int) d w n acc vs r0 wx)
  case first=>
   go_region_law (first
    |(refine Q3g (by rfl) 238 #[.pointer (some ⟨R,0,none⟩)] (by simp[go_sem]) ?_;refine (Xo0 HF).mono ?_;rintro e w3 ⟨t,u,rfl,Kq⟩;refine ⟨_,rfl,?_⟩;(have hN:Q6p R s (most:Int) d r0 wr (.returned (.iface t u)) w3:=⟨t,u,rfl,Qdf Kq.1,Kq.2⟩);(have K4:=(Xo1 HF).step (Xo4 H) (Qdf Kq.1));(have q0:=K4.cell);(have qa:(w3.alloc (.cells #[.iface t u] 119)).cell? ⟨w.heap.size,0,none⟩=some (.slice a n c):=(Tb _ _ _ K4.lt).trans q0);(have row3:=K4.row.alloc (.cells #[.iface t u] 119));(have p8:=K4.lt);(have hfz3:=K4.frz);(have H3:=Xh2 hN K4);clear hN Kq K4)
    |(refine step_append_lies _ (by rfl) _ _ _ (by rfl) (w.heap.size+1) 119 i0 _ 1 16 Tryz.underlying175 O2 E2 I2 X1 rfl (by omega) (.slice a n c) n vs (by rfl) row3 ⟨w3.heap.size,0,none⟩ 1 1 [.iface t u] (by rfl) (by rfl) (TR (cs:= #[.iface t u]) (t:=119) (fr:=(0,0)) (Uo w3 _)) (by simp[Value.oneCell']) (by omega) (by unfold maxLen;omega) (by omega) (by rw[Uk];omega) (w3.heap.size+1) (by simp) ?_;intro g cap w4 R9 D3 R1 hltg;(have P0:some w.heap.size≠(Value.slice a n c).ownBlock:=by { intro e;cases a with|none=>simp[Value.ownBlock] at e|some y=>{ simp only[Value.ownBlock,Up] at e;have:=Q1l row3 rfl;omega } });(have c4:=(D3.cell_far ⟨w.heap.size,0,none⟩ (by rw[Uk];exact Nat.lt_succ_of_lt p8) P0).trans qa);(have f4:w4.frozen? ⟨w.heap.size,0,none⟩=false:=(Xao (D3.block _ (by rw[Uk];exact Nat.lt_succ_of_lt p8) P0)).trans ((Xao (((Uc w3.heap.size w3).alloc (Uf _) _).block _ p8)).trans hfz3));(have WU:=Qvc (Xo4 H) (Xo1 HF) (Xo0 H3) rfl D3 R9 R1 f4 c4);(have H4:=Ua WU);clear WU D3 R9 R1))
   all_goals go_wp2_with fail
   all_goals go_meet
   all_goals exact H4.out
  case rest=>
   obtain ⟨g,cap,t,u,hk,Wf,h2⟩:=hcut;have HK:=Xh2 Wf h2;have hX:=(Xe6 HF);clear Wf h2 hkd;cases r0 with
   |error e=>
    have h1:=(Xe1 HK);have P2:=Q3j h1.1 h1.2 (by have:=(Xo2 H);omega);simp only[skS,nxB,Xa8] at P2;have H2:=Xh3 P2 h1.2 hX;clear P2 h1 hX;have n42:((((0:UInt8).toNat:Nat):Int)==42)=false:=by decide
    go_wp2_with (go_at_call_of 131 (Value.pointer (some ⟨R,0,none⟩));refine (Xo0 H2).mono ?_;rintro r w2 ⟨rfl,X0,F2⟩;have k2:=(F2.cell (p:=⟨w.heap.size,0,none⟩) (UI hk) (fun (e:w.heap.size=R)=>by have:=(Xo4 H);omega)).trans hk;have H3:=Xh2 X0 F2;clear X0 F2)
    first|rw[Xae]|skip
    go_ret;rw[(Xe2 H2)];exact Q6p.err ((Xo0 HK).trans0 (Xe1 H3)) (Xo0 H3) (Xo1 H2)
   |ok z=>
    obtain ⟨x,q0⟩:=z;have h1:=(Xe1 HK);obtain ⟨q,hq⟩:∃q,Q05 L q0=q:=⟨_,rfl⟩;have D8:q<=s.size:=(by rw[<-hq,<-(Xo1 H)];exact Q3a (by have:=(Xo1 H);have:=h1.2.2;omega));obtain ⟨c,hc⟩:∃c,Q08 L q=c:=⟨_,rfl⟩;have Z5:X=if c=42 then Q57 sub (decide (d<16)) L most f (q+1) (acc++[x]) else .ok (.prod (acc++[x]),q):=by
     rw[hX];simp only[hq,hc]
    have P2:=Q3j h1.2.1 h1.2.2 (by have:=(Xo2 H);omega);rw[(Xo0 H)] at P2;simp only[skS,nxB,Tf,Xag,hq,hc] at P2;have C9:p'<q:=(by have:=HG.out x q0 rfl;have:=Q5z L q0;omega);have E3:IntKind.i64.wrap ((q:Int)+1)=(q:Int)+1:=by rw[UO];have:=(Xo2 H);omega
    by_cases h42:c=42
    ·subst h42;have i6:q+1<=s.size:=(by have:=Q0k hc (by decide);have:=(Xo1 H);omega);rw[Uu rfl] at Z5;have n42:((((42:UInt8).toNat:Nat):Int)==42)=true:=(by decide);have H2:=Xh5 P2 h1.1 Z5 i6 C9;clear P2 h1 Z5 hX i6 C9 hq hc D8
     go_wp2_with (go_at_call_of 131 (Value.pointer (some ⟨R,0,none⟩));refine (Xo0 H2).mono ?_;rintro r w2 ⟨rfl,X0,F2⟩;have k1:=X0.c1;have g1:=X0.f1;have H3:=Xh2 X0 F2;clear X0 F2)
     have QD:Q0o (w2.setCell ⟨R,1,none⟩ (.int .i64 ((q:Int)+1))) R s ((q+1:Nat):Int) (most:Int) d false:=(Xo0 H3).setAt ((q:Int)+1);refine ⟨⟨f,q+1,false,_,n+1,cap,acc++[x],vs++[.iface t u],((Xo1 H2).step (Xo4 H) (Xe1 H3)).step (Xo4 H) (Q1y w2 R 1 (.int .i64 ((q:Int)+1))),QD,(Xo3 H2),?_,?_,(Xo2 H2)⟩,?_⟩
     ·have:=(Xo4 HF);have:=(Xe4 H2);omega
     ·have:=(Xo5 HF);have:=(Xe4 H2);omega
     ·rw[QD.atOf,(Xo2 HF).atOf];have:=(Xo3 H2);have:=(Xe4 H2);omega
    ·rw[Us h42] at Z5;have n42:((c.toNat:Int)==42)=false:=Qdd (k:=42) (by decide) h42;have H2:=Xh4 P2 h1.1 Z5 D8;clear P2 h1 Z5 hX D8 C9 hq hc h42
     go_wp2_with (go_at_call_of 131 (Value.pointer (some ⟨R,0,none⟩));refine (Xo0 H2).mono ?_;rintro r w2 ⟨rfl,X0,F2⟩;have k2:=(F2.cell (p:=⟨w.heap.size,0,none⟩) (UI hk) (fun (e:w.heap.size=R)=>by have:=(Xo4 H);omega)).trans hk;have H3:=Xh2 X0 F2;clear X0 F2)
     first|rw[Xae]|skip
     go_ret;rw[(Xo2 H2)];have K4:=(Xo1 H2).step (Xo4 H) (Xe1 H3);refine Q6p.okd ((Xo0 HK).trans0 (Xe1 H3)) ?_ (Xo0 H3) (Xe3 H2);exact Qxr K4 (by simp)
def fpX (b:Nat) (a a2:OA) (k:Nat):Prop:=k<=b∨(∃x,a=some x/\x.block=k)∨∃x,a2=some x/\x.block=k
theorem Qj5 {w:World} {B B':Nat} {T T':TypeId} {a a2:OA} {n c n2 c2:Nat} {vs us:LV} (h:Row w B T 1 a n c vs) (h2:Row w B' T' 1 a2 n2 c2 us) (hT:T≠T') {x y:Addr} (hx:a=some x) (hy:a2=some y) (e:x.block=y.block):False:=by
 rcases h.form with ⟨h0,_⟩|⟨g,cur,h0,_,_,hh,_⟩
 ·rw[h0] at hx;cases hx
 rcases h2.form with ⟨Yw,_⟩|⟨g2,cur2,Yw,_,_,hh2,_⟩
 ·rw[Yw] at hy;cases hy
 rw[h0] at hx;injection hx with hx;subst hx
 rw[Yw] at hy;injection hy with hy;subst hy
 have e:g=g2:=e;subst e;rw[hh] at hh2;injection hh2 with hh2;injection hh2 with _ e2;exact hT e2
theorem ff {x:Bool} {q:Prop} (h:x=false) (h2:x=true):q:=by rw[h] at h2;cases h2
theorem tf {q:Prop} (h:true=false):q:=by cases h
theorem tf2 {q:Prop} (h:false=true):q:=by cases h
theorem Qp0 {fp:Nat->Prop} {w w':World} (h:Q0v fp w w'):Q0v fp w w'.drew:=h.drew
structure EI (R:Nat) (s:ByteArray) (m d:Int) (w wr:World) (a:OA) (n c:Nat) (a2:OA) (c2:Nat) (below:Bool) (acc:List (Bool × Ex)) (vs:LV) (p:Nat) (bd:Bool) (r0:PR Ex) (N:Nat) (D:Nat->Bool) (V:Nat->Value) (W:World):Prop where
 st:R<w.heap.size/\w.heap.size<wr.heap.size/\(∀x,a=some x->w.heap.size+1<=x.block/\x.block<wr.heap.size)/\(∀x,a2=some x->w.heap.size+1<=x.block/\x.block<wr.heap.size)
 turn:Q0v (OnR R) w W
 big:wr.heap.size<=W.heap.size
 c0:D 12=false->W.cell? ⟨w.heap.size,0,none⟩=some (.slice a n c)
 c0':D 12=true->W.cell? ⟨w.heap.size,0,none⟩=some (V 5)
 c1:D 14=false->W.cell? ⟨w.heap.size,1,none⟩=some (.slice a2 n c2)
 c1':D 14=true->W.cell? ⟨w.heap.size,1,none⟩=some (V 10)
 f0:W.frozen? ⟨w.heap.size,0,none⟩=false
 f1:W.frozen? ⟨w.heap.size,1,none⟩=false
 rd:D 3=false->Q0o W R s (p:Int) m d bd
 nd:D 3=true->(wr.heap.size<=N/\N<=W.heap.size)/\∃t u,V 3=.iface t u/\match r0 with
  | .ok (x,q)=>Q2v (fun k=>k<wr.heap.size∨N<=k) W x (V 3)/\Q0o W R s (q:Int) m d false/\q<=s.size
  | .error q=>Q0o W R s (q:Int) m d true/\q<=s.size
 v0:D 0=true->V 0=.pointer (some ⟨w.heap.size,0,none⟩)
 v1:D 1=true->V 1=.slice a n c
 v2:D 2=true->V 2=.pointer (some ⟨R,0,none⟩)
 v4:D 4=true->∃h,V 4=.slice (some ⟨h,0,none⟩) 1 1/\wr.heap.size<=h/\W.heap[h]?=some (.cells #[V 3] 119 (0,0))
 v6:D 6=true->V 6=.pointer (some ⟨w.heap.size,1,none⟩)
 v7:D 7=true->V 7=.slice a2 n c2
 v8:D 8=true->V 8=.bool below
 v9:D 9=true->∃h,V 9=.slice (some ⟨h,0,none⟩) 1 1/\wr.heap.size<=h/\W.heap[h]?=some (.cells #[.bool below] 4 (0,0))
 v11:D 11=true->V 11=.pointer (some ⟨w.heap.size,0,none⟩)
 v13:D 13=true->V 13=.pointer (some ⟨w.heap.size,1,none⟩)
 ra:D 5=false->Row W (w.heap.size+1) 119 1 a n c vs
 ra':D 5=true->∃g cap,V 5=.slice (some ⟨g,0,none⟩) (n+1) cap/\Row W (w.heap.size+1) 119 1 (some ⟨g,0,none⟩) (n+1) cap (vs++[V 3])/\((∃x,a=some x/\x.block=g)∨N<=g)
 rb:D 10=false->Row W (w.heap.size+1) 4 1 a2 n c2 (acc.map fun z=>Value.bool z.1)
 rb':D 10=true->∃g cap,V 10=.slice (some ⟨g,0,none⟩) (n+1) cap/\Row W (w.heap.size+1) 4 1 (some ⟨g,0,none⟩) (n+1) cap (acc.map (fun z=>Value.bool z.1)++[.bool below])/\((∃x,a2=some x/\x.block=g)∨N<=g)
 nodes:Q1b (fun k=>fpX w.heap.size a a2 k∨wr.heap.size<=k) W (acc.map (·.2)) vs
section
variable {R:Nat} {s:ByteArray} {m d:Int} {w wr:World} {a:OA} {n c:Nat} {a2:OA} {c2:Nat} {below:Bool} {acc:List (Bool × Ex)} {vs:LV} {p:Nat} {bd:Bool} {r0:PR Ex} {N:Nat} {D:Nat->Bool} {V:Nat->Value} {W W':World}
theorem EI.s0 (h:EI R s m d w wr a n c a2 c2 below acc vs p bd r0 N D V W):EI R s m d w wr a n c a2 c2 below acc vs p bd r0 N (Q4d D 0) (Q3z V 0 (.pointer (some ⟨w.heap.size,0,none⟩))) W:=⟨h.st,h.turn,h.big,h.c0,h.c0',h.c1,h.c1',h.f0,h.f1,h.rd,h.nd,(fun _=>rfl),h.v1,h.v2,h.v4,h.v6,h.v7,h.v8,h.v9,h.v11,h.v13,h.ra,h.ra',h.rb,h.rb',h.nodes⟩
theorem EI.s1 (h:EI R s m d w wr a n c a2 c2 below acc vs p bd r0 N D V W):EI R s m d w wr a n c a2 c2 below acc vs p bd r0 N (Q4d D 1) (Q3z V 1 (.slice a n c)) W:=⟨h.st,h.turn,h.big,h.c0,h.c0',h.c1,h.c1',h.f0,h.f1,h.rd,h.nd,h.v0,(fun _=>rfl),h.v2,h.v4,h.v6,h.v7,h.v8,h.v9,h.v11,h.v13,h.ra,h.ra',h.rb,h.rb',h.nodes⟩
theorem EI.s2 (h:EI R s m d w wr a n c a2 c2 below acc vs p bd r0 N D V W):EI R s m d w wr a n c a2 c2 below acc vs p bd r0 N (Q4d D 2) (Q3z V 2 (.pointer (some ⟨R,0,none⟩))) W:=⟨h.st,h.turn,h.big,h.c0,h.c0',h.c1,h.c1',h.f0,h.f1,h.rd,h.nd,h.v0,h.v1,(fun _=>rfl),h.v4,h.v6,h.v7,h.v8,h.v9,h.v11,h.v13,h.ra,h.ra',h.rb,h.rb',h.nodes⟩
theorem EI.s6 (h:EI R s m d w wr a n c a2 c2 below acc vs p bd r0 N D V W):EI R s m d w wr a n c a2 c2 below acc vs p bd r0 N (Q4d D 6) (Q3z V 6 (.pointer (some ⟨w.heap.size,1,none⟩))) W:=⟨h.st,h.turn,h.big,h.c0,h.c0',h.c1,h.c1',h.f0,h.f1,h.rd,h.nd,h.v0,h.v1,h.v2,h.v4,(fun _=>rfl),h.v7,h.v8,h.v9,h.v11,h.v13,h.ra,h.ra',h.rb,h.rb',h.nodes⟩
theorem EI.s7 (h:EI R s m d w wr a n c a2 c2 below acc vs p bd r0 N D V W):EI R s m d w wr a n c a2 c2 below acc vs p bd r0 N (Q4d D 7) (Q3z V 7 (.slice a2 n c2)) W:=⟨h.st,h.turn,h.big,h.c0,h.c0',h.c1,h.c1',h.f0,h.f1,h.rd,h.nd,h.v0,h.v1,h.v2,h.v4,h.v6,(fun _=>rfl),h.v8,h.v9,h.v11,h.v13,h.ra,h.ra',h.rb,h.rb',h.nodes⟩
theorem EI.s8 (h:EI R s m d w wr a n c a2 c2 below acc vs p bd r0 N D V W):EI R s m d w wr a n c a2 c2 below acc vs p bd r0 N (Q4d D 8) (Q3z V 8 (.bool below)) W:=⟨h.st,h.turn,h.big,h.c0,h.c0',h.c1,h.c1',h.f0,h.f1,h.rd,h.nd,h.v0,h.v1,h.v2,h.v4,h.v6,h.v7,(fun _=>rfl),h.v9,h.v11,h.v13,h.ra,h.ra',h.rb,h.rb',h.nodes⟩
theorem EI.s11 (h:EI R s m d w wr a n c a2 c2 below acc vs p bd r0 N D V W):EI R s m d w wr a n c a2 c2 below acc vs p bd r0 N (Q4d D 11) (Q3z V 11 (.pointer (some ⟨w.heap.size,0,none⟩))) W:=⟨h.st,h.turn,h.big,h.c0,h.c0',h.c1,h.c1',h.f0,h.f1,h.rd,h.nd,h.v0,h.v1,h.v2,h.v4,h.v6,h.v7,h.v8,h.v9,(fun _=>rfl),h.v13,h.ra,h.ra',h.rb,h.rb',h.nodes⟩
theorem EI.s13 (h:EI R s m d w wr a n c a2 c2 below acc vs p bd r0 N D V W):EI R s m d w wr a n c a2 c2 below acc vs p bd r0 N (Q4d D 13) (Q3z V 13 (.pointer (some ⟨w.heap.size,1,none⟩))) W:=⟨h.st,h.turn,h.big,h.c0,h.c0',h.c1,h.c1',h.f0,h.f1,h.rd,h.nd,h.v0,h.v1,h.v2,h.v4,h.v6,h.v7,h.v8,h.v9,h.v11,(fun _=>rfl),h.ra,h.ra',h.rb,h.rb',h.nodes⟩
theorem EI.drop {k:Nat} (hk:k=12∨k=14) {v:Value} (h:EI R s m d w wr a n c a2 c2 below acc vs p bd r0 N D (Q3z V k v) W):EI R s m d w wr a n c a2 c2 below acc vs p bd r0 N D V W:=by
 rcases hk with rfl|rfl
 ·exact ⟨h.st,h.turn,h.big,h.c0,h.c0',h.c1,h.c1',h.f0,h.f1,h.rd,h.nd,h.v0,h.v1,h.v2,h.v4,h.v6,h.v7,h.v8,h.v9,h.v11,h.v13,h.ra,h.ra',h.rb,h.rb',h.nodes⟩
 ·exact ⟨h.st,h.turn,h.big,h.c0,h.c0',h.c1,h.c1',h.f0,h.f1,h.rd,h.nd,h.v0,h.v1,h.v2,h.v4,h.v6,h.v7,h.v8,h.v9,h.v11,h.v13,h.ra,h.ra',h.rb,h.rb',h.nodes⟩
theorem EI.s3 (h:EI R s m d w wr a n c a2 c2 below acc vs p bd r0 N D V W) (d4:D 4=false) (d5:D 5=false) (d10:D 10=false) (d12:D 12=false) (d14:D 14=false) {t:TypeId} {u:Value} (hN:Q6p R s m d r0 W (.returned (.iface t u)) W'):
 EI R s m d w wr a n c a2 c2 below acc vs p bd r0 W'.heap.size (Q4d D 3) (Q3z V 3 (.iface t u)) W':=by
 obtain ⟨hR,E0,ha,Q9⟩:=h.st;obtain ⟨t',u',he,ht,h2⟩:=hN;injection he with he;injection he with e1 e2;subst e1;subst e2;have F7:w.heap.size<W.heap.size:=Ue E0 h.big;have YY:¬OnR R w.heap.size:=fun (e:w.heap.size=R)=>by omega
 have e0:=ht.cell (p:=⟨w.heap.size,0,none⟩) F7 YY;have e1:=ht.cell (p:=⟨w.heap.size,1,none⟩) F7 YY;exact ⟨h.st,(h.turn.trans0 ht),(Ul h.big ht.size),(fun hd=>e0.trans (h.c0 hd)),(fun hd=>ff d12 hd),(fun hd=>e1.trans (h.c1 hd)),(fun hd=>ff d14 hd),((ht.frozen (p:=⟨w.heap.size,0,none⟩) F7 YY).trans h.f0),((ht.frozen (p:=⟨w.heap.size,1,none⟩) F7 YY).trans h.f1),(fun hd=>tf hd),(fun _=>⟨⟨Ul h.big ht.size,Uf _⟩,t,u,rfl,by
  cases r0 with
  |error q=>exact h2
  |ok z=>exact ⟨h2.1.more (fun k hk=>hk.imp (fun h1=>Ue h1 h.big) id),h2.2⟩⟩),h.v0,h.v1,h.v2,(fun hd=>ff d4 hd),h.v6,h.v7,h.v8,(fun hd=>by
  obtain ⟨b9,q1,q2,q3⟩:=h.v9 hd;exact ⟨b9,q1,q2,(ht.block b9 (Uq.1 q3).1 (fun (e:b9=R)=>by omega)).trans q3⟩),h.v11,h.v13,(fun hd=>(h.ra hd).turn ht (fun x hx (e:x.block=R)=>by have:=ha x hx;omega)),(fun hd=>ff d5 hd),(fun hd=>(h.rb hd).turn ht (fun x hx (e:x.block=R)=>by have:=Q9 x hx;omega)),(fun hd=>ff d10 hd),(h.nodes.turn ht (fun k (hk:k=R)=>.inl (.inl (by omega))))⟩
theorem EI.s4 (h:EI R s m d w wr a n c a2 c2 below acc vs p bd r0 N D V W):EI R s m d w wr a n c a2 c2 below acc vs p bd r0 N (Q4d D 4) (Q3z V 4 (.slice (some ⟨W.heap.size,0,none⟩) 1 1)) (W.alloc (.cells #[V 3] 119)):=by
 obtain ⟨hR,E0,ha,Q9⟩:=h.st;have F7:w.heap.size<W.heap.size:=Ue E0 h.big;have hb:Bw W (W.alloc (.cells #[V 3] 119)):=Ba;have e0:=hb.cell (p:=⟨w.heap.size,0,none⟩) F7;have e1:=hb.cell (p:=⟨w.heap.size,1,none⟩) F7;exact ⟨h.st,(h.turn.trans0 (Q0v.of_below hb _)),(Ul h.big hb.size),(fun hd=>e0.trans (h.c0 hd)),(fun hd=>e0.trans (h.c0' hd)),(fun hd=>e1.trans (h.c1 hd)),(fun hd=>e1.trans (h.c1' hd)),((hb.frozen (p:=⟨w.heap.size,0,none⟩) F7).trans h.f0),((hb.frozen (p:=⟨w.heap.size,1,none⟩) F7).trans h.f1),(fun hd=>(h.rd hd).step hb),(fun hd=>by
  obtain ⟨q0,t,u,q1,q2⟩:=h.nd hd;refine ⟨⟨q0.1,Ul q0.2 hb.size⟩,t,u,q1,?_⟩;cases r0 with
  |error q=>exact ⟨q2.1.step hb,q2.2⟩
  |ok z=>exact ⟨q2.1.step hb,q2.2.1.step hb,q2.2.2⟩),h.v0,h.v1,h.v2,(fun _=>⟨W.heap.size,rfl,h.big,Uo _ _⟩),h.v6,h.v7,h.v8,(fun hd=>by
  obtain ⟨b9,q1,q2,q3⟩:=h.v9 hd;exact ⟨b9,q1,q2,(hb.block b9 (Uq.1 q3).1).trans q3⟩),h.v11,h.v13,(fun hd=>(h.ra hd).call hb),(fun hd=>by
  obtain ⟨g,cap,q1,q2,q3⟩:=h.ra' hd;exact ⟨g,cap,q1,q2.call hb,q3⟩),(fun hd=>(h.rb hd).call hb),(fun hd=>by
  obtain ⟨g,cap,q1,q2,q3⟩:=h.rb' hd;exact ⟨g,cap,q1,q2.call hb,q3⟩),(h.nodes.turn (Q0v.of_below hb fun _=>False) (fun _ h=>h.elim))⟩
theorem EI.s9 (h:EI R s m d w wr a n c a2 c2 below acc vs p bd r0 N D V W):EI R s m d w wr a n c a2 c2 below acc vs p bd r0 N (Q4d D 9) (Q3z V 9 (.slice (some ⟨W.heap.size,0,none⟩) 1 1)) (W.alloc (.cells #[.bool below] 4)):=by
 obtain ⟨hR,E0,ha,Q9⟩:=h.st;have F7:w.heap.size<W.heap.size:=Ue E0 h.big;have hb:Bw W (W.alloc (.cells #[.bool below] 4)):=Ba;have e0:=hb.cell (p:=⟨w.heap.size,0,none⟩) F7;have e1:=hb.cell (p:=⟨w.heap.size,1,none⟩) F7;exact ⟨h.st,(h.turn.trans0 (Q0v.of_below hb _)),(Ul h.big hb.size),(fun hd=>e0.trans (h.c0 hd)),(fun hd=>e0.trans (h.c0' hd)),(fun hd=>e1.trans (h.c1 hd)),(fun hd=>e1.trans (h.c1' hd)),((hb.frozen (p:=⟨w.heap.size,0,none⟩) F7).trans h.f0),((hb.frozen (p:=⟨w.heap.size,1,none⟩) F7).trans h.f1),(fun hd=>(h.rd hd).step hb),(fun hd=>by
  obtain ⟨q0,t,u,q1,q2⟩:=h.nd hd;refine ⟨⟨q0.1,Ul q0.2 hb.size⟩,t,u,q1,?_⟩;cases r0 with
  |error q=>exact ⟨q2.1.step hb,q2.2⟩
  |ok z=>exact ⟨q2.1.step hb,q2.2.1.step hb,q2.2.2⟩),h.v0,h.v1,h.v2,(fun hd=>by
  obtain ⟨b9,q1,q2,q3⟩:=h.v4 hd;exact ⟨b9,q1,q2,(hb.block b9 (Uq.1 q3).1).trans q3⟩),h.v6,h.v7,h.v8,(fun _=>⟨W.heap.size,rfl,h.big,Uo _ _⟩),h.v11,h.v13,(fun hd=>(h.ra hd).call hb),(fun hd=>by
  obtain ⟨g,cap,q1,q2,q3⟩:=h.ra' hd;exact ⟨g,cap,q1,q2.call hb,q3⟩),(fun hd=>(h.rb hd).call hb),(fun hd=>by
  obtain ⟨g,cap,q1,q2,q3⟩:=h.rb' hd;exact ⟨g,cap,q1,q2.call hb,q3⟩),(h.nodes.turn (Q0v.of_below hb fun _=>False) (fun _ h=>h.elim))⟩
theorem EI.s5 (h:EI R s m d w wr a n c a2 c2 below acc vs p bd r0 N D V W) (d3:D 3=true) (d5:D 5=false) (d10:D 10=false) (d12:D 12=false) (d14:D 14=false) {g cap H:Nat} (A1:Row W' (w.heap.size+1) 119 1 (some ⟨g,0,none⟩) (n+1) cap (vs++[V 3])) (Z7:W.grownBy W' (Value.slice a n c).ownBlock) (R1:(Value.slice a n c).ownBlock=some g∨g=H) (hH:W.heap.size=H):
 EI R s m d w wr a n c a2 c2 below acc vs p bd r0 N (Q4d D 5) (Q3z V 5 (.slice (some ⟨g,0,none⟩) (n+1) cap)) W':=by
 obtain ⟨hR,E0,ha,Q9⟩:=h.st;have F7:w.heap.size<W.heap.size:=Ue E0 h.big;have ht:Q0v (fun k=>∃x,a=some x/\x.block=k) W W':=Q0v.of_grown Z7 fun r hr _=>by
  cases a with
  |none=>simp[Value.ownBlock] at hr
  |some x=>exact ⟨x,rfl,by simpa[Value.ownBlock] using hr⟩
 have Z4:∀k,(∃x,a=some x/\x.block=k)->w.heap.size+1<=k/\k<wr.heap.size:=by
  rintro k ⟨x,hx,rfl⟩;exact ha x hx
 have nb:¬(∃x,a=some x/\x.block=w.heap.size):=fun e=>by have:=Z4 _ e;omega
 have nR:¬(∃x,a=some x/\x.block=R):=fun e=>by have:=Z4 _ e;omega
 have e0:=ht.cell (p:=⟨w.heap.size,0,none⟩) F7 nb;have e1:=ht.cell (p:=⟨w.heap.size,1,none⟩) F7 nb;exact ⟨h.st,(h.turn.trans ht (fun k hk e=>by have:=Z4 _ e;omega)),(Ul h.big ht.size),(fun hd=>e0.trans (h.c0 hd)),(fun hd=>ff d12 hd),(fun hd=>e1.trans (h.c1 hd)),(fun hd=>ff d14 hd),((ht.frozen (p:=⟨w.heap.size,0,none⟩) F7 nb).trans h.f0),((ht.frozen (p:=⟨w.heap.size,1,none⟩) F7 nb).trans h.f1),(fun hd=>ff hd d3),(fun hd=>by
  obtain ⟨q0,t,u,q1,q2⟩:=h.nd hd;refine ⟨⟨q0.1,Ul q0.2 ht.size⟩,t,u,q1,?_⟩;cases r0 with
  |error q=>exact ⟨q2.1.keep ht nR,q2.2⟩
  |ok z=>exact ⟨q2.1.turn ht (fun k hk=>.inl (Z4 k hk).2),q2.2.1.keep ht nR,q2.2.2⟩),h.v0,h.v1,h.v2,(fun hd=>by
  obtain ⟨b9,q1,q2,q3⟩:=h.v4 hd;exact ⟨b9,q1,q2,(ht.block b9 (Uq.1 q3).1 (fun e=>by have:=Z4 _ e;omega)).trans q3⟩),h.v6,h.v7,h.v8,(fun hd=>by
  obtain ⟨b9,q1,q2,q3⟩:=h.v9 hd;exact ⟨b9,q1,q2,(ht.block b9 (Uq.1 q3).1 (fun e=>by have:=Z4 _ e;omega)).trans q3⟩),h.v11,h.v13,(fun hd=>tf hd),(fun _=>⟨g,cap,rfl,A1,by
  rcases R1 with h1|h1
  ·cases a with
   |none=>simp[Value.ownBlock] at h1
   |some x=>exact .inl ⟨x,rfl,by simpa[Value.ownBlock] using h1⟩
  ·exact .inr (by have:=(h.nd d3).1.2;omega)⟩),(fun hd=>(h.rb hd).turn ht (fun y hy e=>by obtain ⟨x,hx,e⟩:=e;exact Qj5 (h.ra d5) (h.rb hd) (by decide) hx hy e)),(fun hd=>ff d10 hd),(h.nodes.turn ht (fun k hk=>.inl (.inr (.inl hk))))⟩
theorem EI.s10 (h:EI R s m d w wr a n c a2 c2 below acc vs p bd r0 N D V W) (d3:D 3=true) (d5:D 5=true) (d10:D 10=false) (d12:D 12=false) (d14:D 14=false) {g cap H:Nat} (A1:Row W' (w.heap.size+1) 4 1 (some ⟨g,0,none⟩) (n+1) cap (acc.map (fun z=>Value.bool z.1)++[.bool below])) (Z7:W.grownBy W' (Value.slice a2 n c2).ownBlock) (R1:(Value.slice a2 n c2).ownBlock=some g∨g=H) (hH:W.heap.size=H):
 EI R s m d w wr a n c a2 c2 below acc vs p bd r0 N (Q4d D 10) (Q3z V 10 (.slice (some ⟨g,0,none⟩) (n+1) cap)) W':=by
 obtain ⟨hR,E0,ha,Q9⟩:=h.st;have F7:w.heap.size<W.heap.size:=Ue E0 h.big;have ht:Q0v (fun k=>∃x,a2=some x/\x.block=k) W W':=Q0v.of_grown Z7 fun r hr _=>by
  cases a2 with
  |none=>simp[Value.ownBlock] at hr
  |some x=>exact ⟨x,rfl,by simpa[Value.ownBlock] using hr⟩
 have Z4:∀k,(∃x,a2=some x/\x.block=k)->w.heap.size+1<=k/\k<wr.heap.size:=by
  rintro k ⟨x,hx,rfl⟩;exact Q9 x hx
 have nb:¬(∃x,a2=some x/\x.block=w.heap.size):=fun e=>by have:=Z4 _ e;omega
 have nR:¬(∃x,a2=some x/\x.block=R):=fun e=>by have:=Z4 _ e;omega
 have e0:=ht.cell (p:=⟨w.heap.size,0,none⟩) F7 nb;have e1:=ht.cell (p:=⟨w.heap.size,1,none⟩) F7 nb;exact ⟨h.st,(h.turn.trans ht (fun k hk e=>by have:=Z4 _ e;omega)),(Ul h.big ht.size),(fun hd=>e0.trans (h.c0 hd)),(fun hd=>ff d12 hd),(fun hd=>e1.trans (h.c1 hd)),(fun hd=>ff d14 hd),((ht.frozen (p:=⟨w.heap.size,0,none⟩) F7 nb).trans h.f0),((ht.frozen (p:=⟨w.heap.size,1,none⟩) F7 nb).trans h.f1),(fun hd=>ff hd d3),(fun hd=>by
  obtain ⟨q0,t,u,q1,q2⟩:=h.nd hd;refine ⟨⟨q0.1,Ul q0.2 ht.size⟩,t,u,q1,?_⟩;cases r0 with
  |error q=>exact ⟨q2.1.keep ht nR,q2.2⟩
  |ok z=>exact ⟨q2.1.turn ht (fun k hk=>.inl (Z4 k hk).2),q2.2.1.keep ht nR,q2.2.2⟩),h.v0,h.v1,h.v2,(fun hd=>by
  obtain ⟨b9,q1,q2,q3⟩:=h.v4 hd;exact ⟨b9,q1,q2,(ht.block b9 (Uq.1 q3).1 (fun e=>by have:=Z4 _ e;omega)).trans q3⟩),h.v6,h.v7,h.v8,(fun hd=>by
  obtain ⟨b9,q1,q2,q3⟩:=h.v9 hd;exact ⟨b9,q1,q2,(ht.block b9 (Uq.1 q3).1 (fun e=>by have:=Z4 _ e;omega)).trans q3⟩),h.v11,h.v13,(fun hd=>ff hd d5),(fun hd=>by
  obtain ⟨g1,cap1,q1,q2,q3⟩:=h.ra' hd;refine ⟨g1,cap1,q1,q2.turn ht (fun y hy e=>?_),q3⟩;obtain ⟨x,hx,e⟩:=e;exact Qj5 q2 (h.rb d10) (by decide) hy hx e.symm),(fun hd=>tf hd),(fun _=>⟨g,cap,rfl,A1,by
  rcases R1 with h1|h1
  ·cases a2 with
   |none=>simp[Value.ownBlock] at h1
   |some x=>exact .inl ⟨x,rfl,by simpa[Value.ownBlock] using h1⟩
  ·exact .inr (by have:=(h.nd d3).1.2;omega)⟩),(h.nodes.turn ht (fun k hk=>.inl (.inr (.inr hk))))⟩
theorem EI.s12 (h:EI R s m d w wr a n c a2 c2 below acc vs p bd r0 N D V W) (d3:D 3=true) (d5:D 5=true) (d10:D 10=true) (d12:D 12=false) (v:Value):
 EI R s m d w wr a n c a2 c2 below acc vs p bd r0 N (Q4d D 12) (Q3z V 12 v) (W.setCell ⟨w.heap.size,0,none⟩ (V 5)):=by
 obtain ⟨hR,E0,ha,Q9⟩:=h.st;have F7:w.heap.size<W.heap.size:=Ue E0 h.big;have ht:Q0v (fun k=>k=w.heap.size) W (W.setCell ⟨w.heap.size,0,none⟩ (V 5)):=Q0v.setCell (fun k=>k=w.heap.size) W (p:=⟨w.heap.size,0,none⟩) rfl _;have nR:¬(R=w.heap.size):=by omega
 exact ⟨h.st,(h.turn.trans ht (fun k hk (e:k=w.heap.size)=>by omega)),(Ul h.big ht.size),(fun hd=>tf hd),(fun _=>UD _ _ _ (by rw[h.c0 d12];rfl)),(fun hd=>(Ud _ _ _ _ (by simp)).trans (h.c1 hd)),(fun hd=>(Ud _ _ _ _ (by simp)).trans (h.c1' hd)),((Un _ _ _ _).trans h.f0),((Un _ _ _ _).trans h.f1),(fun hd=>ff hd d3),(fun hd=>by
  obtain ⟨q0,t,u,q1,q2⟩:=h.nd hd;refine ⟨⟨q0.1,Ul q0.2 ht.size⟩,t,u,q1,?_⟩;cases r0 with
  |error q=>exact ⟨q2.1.keep ht nR,q2.2⟩
  |ok z=>exact ⟨q2.1.turn ht (fun k (hk:k=w.heap.size)=>.inl (by omega)),q2.2.1.keep ht nR,q2.2.2⟩),h.v0,h.v1,h.v2,(fun hd=>by
  obtain ⟨b9,q1,q2,q3⟩:=h.v4 hd;exact ⟨b9,q1,q2,(ht.block b9 (Uq.1 q3).1 (fun (e:b9=w.heap.size)=>by omega)).trans q3⟩),h.v6,h.v7,h.v8,(fun hd=>by
  obtain ⟨b9,q1,q2,q3⟩:=h.v9 hd;exact ⟨b9,q1,q2,(ht.block b9 (Uq.1 q3).1 (fun (e:b9=w.heap.size)=>by omega)).trans q3⟩),h.v11,h.v13,(fun hd=>ff hd d5),(fun hd=>by
  obtain ⟨g1,cap1,q1,q2,q3⟩:=h.ra' hd;exact ⟨g1,cap1,q1,q2.turn ht (fun y hy (e:y.block=w.heap.size)=>by have:=Q1l q2 hy;omega),q3⟩),(fun hd=>ff hd d10),(fun hd=>by
  obtain ⟨g1,cap1,q1,q2,q3⟩:=h.rb' hd;exact ⟨g1,cap1,q1,q2.turn ht (fun y hy (e:y.block=w.heap.size)=>by have:=Q1l q2 hy;omega),q3⟩),(h.nodes.turn ht (fun k (hk:k=w.heap.size)=>.inl (.inl (by omega))))⟩
theorem EI.s14 (h:EI R s m d w wr a n c a2 c2 below acc vs p bd r0 N D V W) (d3:D 3=true) (d5:D 5=true) (d10:D 10=true) (d14:D 14=false) (v:Value):
 EI R s m d w wr a n c a2 c2 below acc vs p bd r0 N (Q4d D 14) (Q3z V 14 v) (W.setCell ⟨w.heap.size,1,none⟩ (V 10)):=by
 obtain ⟨hR,E0,ha,Q9⟩:=h.st;have F7:w.heap.size<W.heap.size:=Ue E0 h.big;have ht:Q0v (fun k=>k=w.heap.size) W (W.setCell ⟨w.heap.size,1,none⟩ (V 10)):=Q0v.setCell (fun k=>k=w.heap.size) W (p:=⟨w.heap.size,1,none⟩) rfl _;have nR:¬(R=w.heap.size):=by omega
 exact ⟨h.st,(h.turn.trans ht (fun k hk (e:k=w.heap.size)=>by omega)),(Ul h.big ht.size),(fun hd=>(Ud _ _ _ _ (by simp)).trans (h.c0 hd)),(fun hd=>(Ud _ _ _ _ (by simp)).trans (h.c0' hd)),(fun hd=>tf hd),(fun _=>UD _ _ _ (by rw[h.c1 d14];rfl)),((Un _ _ _ _).trans h.f0),((Un _ _ _ _).trans h.f1),(fun hd=>ff hd d3),(fun hd=>by
  obtain ⟨q0,t,u,q1,q2⟩:=h.nd hd;refine ⟨⟨q0.1,Ul q0.2 ht.size⟩,t,u,q1,?_⟩;cases r0 with
  |error q=>exact ⟨q2.1.keep ht nR,q2.2⟩
  |ok z=>exact ⟨q2.1.turn ht (fun k (hk:k=w.heap.size)=>.inl (by omega)),q2.2.1.keep ht nR,q2.2.2⟩),h.v0,h.v1,h.v2,(fun hd=>by
  obtain ⟨b9,q1,q2,q3⟩:=h.v4 hd;exact ⟨b9,q1,q2,(ht.block b9 (Uq.1 q3).1 (fun (e:b9=w.heap.size)=>by omega)).trans q3⟩),h.v6,h.v7,h.v8,(fun hd=>by
  obtain ⟨b9,q1,q2,q3⟩:=h.v9 hd;exact ⟨b9,q1,q2,(ht.block b9 (Uq.1 q3).1 (fun (e:b9=w.heap.size)=>by omega)).trans q3⟩),h.v11,h.v13,(fun hd=>ff hd d5),(fun hd=>by
  obtain ⟨g1,cap1,q1,q2,q3⟩:=h.ra' hd;exact ⟨g1,cap1,q1,q2.turn ht (fun y hy (e:y.block=w.heap.size)=>by have:=Q1l q2 hy;omega),q3⟩),(fun hd=>ff hd d10),(fun hd=>by
  obtain ⟨g1,cap1,q1,q2,q3⟩:=h.rb' hd;exact ⟨g1,cap1,q1,q2.turn ht (fun y hy (e:y.block=w.heap.size)=>by have:=Q1l q2 hy;omega),q3⟩),(h.nodes.turn ht (fun k (hk:k=w.heap.size)=>.inl (.inl (by omega))))⟩
structure Qbf (R:Nat) (w wr:World) (a:OA) (n c:Nat) (a2:OA) (c2:Nat) (acc:List (Bool × Ex)) (vs:LV):Prop where
 turn:Q0v (OnR R) w wr
 c0:wr.cell? ⟨w.heap.size,0,none⟩=some (.slice a n c)
 c1:wr.cell? ⟨w.heap.size,1,none⟩=some (.slice a2 n c2)
 f0:wr.frozen? ⟨w.heap.size,0,none⟩=false
 f1:wr.frozen? ⟨w.heap.size,1,none⟩=false
 ra:Row wr (w.heap.size+1) 119 1 a n c vs
 rb:Row wr (w.heap.size+1) 4 1 a2 n c2 (acc.map fun z=>Value.bool z.1)
 nodes:Q1b (fpX w.heap.size a a2) wr (acc.map (·.2)) vs
 len:acc.length=n
theorem Qbf.lt (h:Qbf R w wr a n c a2 c2 acc vs):w.heap.size<wr.heap.size:=UI h.c0
theorem Qbf.step (h:Qbf R w wr a n c a2 c2 acc vs) (hR:R<w.heap.size) (ht:Q0v (OnR R) wr W'):Qbf R w W' a n c a2 c2 acc vs:=
 ⟨h.turn.trans0 ht,(ht.cell (p:=⟨w.heap.size,0,none⟩) h.lt (fun (e:w.heap.size=R)=>by omega)).trans h.c0,(ht.cell (p:=⟨w.heap.size,1,none⟩) h.lt (fun (e:w.heap.size=R)=>by omega)).trans h.c1,
   (ht.frozen (p:=⟨w.heap.size,0,none⟩) h.lt (fun (e:w.heap.size=R)=>by omega)).trans h.f0,(ht.frozen (p:=⟨w.heap.size,1,none⟩) h.lt (fun (e:w.heap.size=R)=>by omega)).trans h.f1,
   h.ra.turn ht (fun x hx (e:x.block=R)=>by have:=Q1l h.ra hx;omega),h.rb.turn ht (fun x hx (e:x.block=R)=>by have:=Q1l h.rb hx;omega),h.nodes.turn ht (fun k (hk:k=R)=>.inl (by omega)),h.len⟩
theorem Qbf.start (h:Qbf R w wr a n c a2 c2 acc vs) (hR:R<w.heap.size) (hr:Q0o wr R s (p:Int) m d bd) (V:Nat->Value):EI R s m d w wr a n c a2 c2 below acc vs p bd r0 0 (fun _=>false) V wr.drew:=
 ⟨⟨hR,h.lt,fun _ hx=>Q1l h.ra hx,fun _ hx=>Q1l h.rb hx⟩,h.turn.drew,Uf _,fun _=>h.c0,tf2,fun _=>h.c1,tf2,h.f0,h.f1,fun _=>hr.drew,tf2,tf2,tf2,tf2,tf2,tf2,tf2,tf2,tf2,tf2,tf2,fun _=>h.ra.drew,tf2,fun _=>h.rb.drew,tf2,
   (h.nodes.more (fp':=fun k=>fpX w.heap.size a a2 k∨wr.heap.size<=k) (fun _ hk=>hk)).turn (Qp0 (Q0v.refl (fun _=>False) wr)) (fun _ h=>h.elim)⟩
def Qwo (R:Nat) (s:ByteArray) (m d:Int) (w:World) (n:Nat) (below:Bool) (acc:List (Bool × Ex)) (vs:LV) (r0:PR Ex) (wx:World):Prop:=
 ∃g cap g2 cap2 v,wx.cell? ⟨w.heap.size,0,none⟩=some (.slice (some ⟨g,0,none⟩) (n+1) cap)/\wx.cell? ⟨w.heap.size,1,none⟩=some (.slice (some ⟨g2,0,none⟩) (n+1) cap2)/\Q0v (OnR R) w wx/\match r0 with
  | .ok (x,q)=>Qbf R w wx (some ⟨g,0,none⟩) (n+1) cap (some ⟨g2,0,none⟩) cap2 (acc++[(below,x)]) (vs++[v])/\Q0o wx R s (q:Int) m d false/\q<=s.size
  | .error q=>Q0o wx R s (q:Int) m d true/\q<=s.size
theorem EI.fin (h:EI R s m d w wr a n c a2 c2 below acc vs p bd r0 N D V W) (hl:acc.length=n) (hD:∀j,j<15->D j=true):Qwo R s m d w n below acc vs r0 W:=by
 obtain ⟨hR,E0,ha,Q9⟩:=h.st;obtain ⟨g,cap,e5,A1,hg⟩:=h.ra' (hD 5 (by decide));obtain ⟨g2,cap2,e10,hrow2,M6⟩:=h.rb' (hD 10 (by decide));have c0:=h.c0' (hD 12 (by decide));have c1:=h.c1' (hD 14 (by decide));rw[e5] at c0;rw[e10] at c1;obtain ⟨hN,t,u,e3,hr⟩:=h.nd (hD 3 (by decide));refine ⟨g,cap,g2,cap2,V 3,c0,c1,h.turn,?_⟩;cases r0 with
 |error q=>exact hr
 |ok z=>
  obtain ⟨x,q⟩:=z;have hlowN:∀k,fpX w.heap.size (some ⟨g,0,none⟩) (some ⟨g2,0,none⟩) k->(k<wr.heap.size∨N<=k):=by
   rintro k (hk|⟨y,hy,hk⟩|⟨y,hy,hk⟩)
   ·exact .inl (by omega)
   ·injection hy with hy;subst hy;rcases hg with ⟨x',D9,e⟩|e
    ·exact .inl (by have:=ha x' D9;have hk:g=k:=hk;omega)
    ·exact .inr (by have hk:g=k:=hk;omega)
   ·injection hy with hy;subst hy;rcases M6 with ⟨x',D9,e⟩|e
    ·exact .inl (by have:=Q9 x' D9;have hk:g2=k:=hk;omega)
    ·exact .inr (by have hk:g2=k:=hk;omega)
  have hold:∀k,fpX w.heap.size (some ⟨g,0,none⟩) (some ⟨g2,0,none⟩) k->(fpX w.heap.size a a2 k∨wr.heap.size<=k):=by
   rintro k (hk|⟨y,hy,hk⟩|⟨y,hy,hk⟩)
   ·exact .inl (.inl hk)
   ·injection hy with hy;subst hy;have hk:g=k:=hk;subst hk;rcases hg with ⟨x',D9,e⟩|e
    ·exact .inl (.inr (.inl ⟨x',D9,e⟩))
    ·exact .inr (by omega)
   ·injection hy with hy;subst hy;have hk:g2=k:=hk;subst hk;rcases M6 with ⟨x',D9,e⟩|e
    ·exact .inl (.inr (.inr ⟨x',D9,e⟩))
    ·exact .inr (by omega)
  refine ⟨⟨h.turn,c0,c1,h.f0,h.f1,A1,?_,?_,by rw[Uh,hl];rfl⟩,hr.2⟩
  ·rw[UZ];exact hrow2
  ·rw[UZ];exact (h.nodes.more fun k hk=>.inl (hold k hk)).snoc (hr.1.more fun k hk=>.inl (hlowN k hk))
end
section
variable {P:Program} {ops:Array Oper}
theorem Q18 {a:Act} {j:Nat} {t:Tmp} {v:Value} (hj:(ops[j]?).bind (·.dst)=some t) (hv:Q0g ops a j=v):a.tmps[t]?.getD undef=v:=by
 unfold Q0g at hv;rw[hj] at hv;have hv:a.tmps.getD t undef=v:=hv;rwa[Uy] at hv
theorem Q8r {a:Act} {j:Nat} {t:Tmp} {v:Value} (hj:(ops[j]?).bind (·.dst)=some t) (hv:Q0g ops a j=v):a.eval (.tmp t)=v:=by
 unfold Q0g at hv;rw[hj] at hv;exact hv
theorem Q15 {K:Value->World->Prop} {o:Oper} {a:Act} {w w':World} {u:Value} (hg:o.guard=none) (hr:(execOp a.eval o).run P w=.ok (.value u) w') (h:K u w'):Region.wanted o (yielded ops a.tmps)=true/\Q2p P K ((execOp a.eval o).run P w):=
 ⟨by unfold Region.wanted;rw[hg],by rw[hr];exact h⟩
theorem Qaj {K:Value->World->Prop} {o:Oper} {a:Act} {w w':World} (hg:o.guard=none) (hr:(execOp a.eval o).run P w=.ok .skip w') (h:K undef w'):Region.wanted o (yielded ops a.tmps)=true/\Q2p P K ((execOp a.eval o).run P w):=
 ⟨by unfold Region.wanted;rw[hg],by rw[hr];exact h⟩
theorem Qp1 {K:Value->World->Prop} {o:Oper} {a:Act} {w:World} {f:FuncId} {args:Array Value} (hg:o.guard=none) (hr:(execOp a.eval o).run P w=.ok (.enter f args) w) (h:Calls P f args w fun e w'=>∃v,e=.returned v/\K v w'):Region.wanted o (yielded ops a.tmps)=true/\Q2p P K ((execOp a.eval o).run P w):=
 ⟨by unfold Region.wanted;rw[hg],by rw[hr];exact h⟩
theorem Qb4 {K:Value->World->Prop} {o:Oper} {a:Act} {w:World} (hg:o.guard=none) (s x:Operand) (t:TypeId)
 (ho:o.op=.call { callee:=.builtin .append,args:= #[s,x],argTypes:= #[t,t] })
 (base:Nat) (e:TypeId) (i:TypeInfo) (z:Value) (bytes:Nat) (ht:P.underlying t=some (.slice e)) (hi:P.info? e=some i) (hz:i.zero=some z)
 (j7:i.size=1) (Jz:i.bytes=bytes) (Zv:z.cells.size=1) (v:Value) (n:Nat) (xs:LV) (hs:a.eval s=v) (R3:w.ownsRow base e 1 v n xs)
 (b:Nat) (u:Value) (hx:a.eval x=.slice (some ⟨b,0,none⟩) 1 1) (hb:w.heap[b]?=some (.cells #[u] e (0,0))) (h1:u.oneCell'=true)
 (h63:n+1<=maxLen) (i9:(n+1)*bytes<=140737488355328) (Zf:base<=w.heap.size)
 (h:∀g cap w',w'.ownsRow base e 1 (.slice (some ⟨g,0,none⟩) (n+1) cap) (n+1) (xs++[u])->w.grownBy w' v.ownBlock->(v.ownBlock=some g∨g=w.heap.size)->K (.slice (some ⟨g,0,none⟩) (n+1) cap) w'):Region.wanted o (yielded ops a.tmps)=true/\Q2p P K ((execOp a.eval o).run P w):=by
 obtain ⟨g,cap,w',hr,h2,h3,h4,_⟩:=run_append_lies (P:=P) w t o.type base e i z 1 bytes ht hi hz j7 Jz Zv (by decide) v n xs R3 ⟨b,0,none⟩ 1 1 [u] rfl (TR (cs:= #[u]) hb) (by simpa using h1) (by decide) h63 i9 Zf _ rfl;refine Q15 (u:=.slice (some ⟨g,0,none⟩) (n+1) cap) (w':=w') hg ?_ (h g cap w' h2 h3 h4);unfold execOp;simp only[ho,resolve,invoke,builtin,Sem.run_bind,Sem.run_pure,Result.andThen_ok,List.map_toArray,Xai,List.map_nil,hs,hx,hr]
end
end Go.Proofs.YtidojbkhlenahaaGreatDoor
namespace Go.Proofs.YtidojbkhlenahaaGreatDoor
open Go.RowKit WordsM
def Q3l (all:List Q00) (q:P4):Option Nat:=(all.map fun m=>p4 m.es).findIdx? fun r=>decide (r=q)
theorem Qj6:∀{T:List Q0l} {c q:Q0l} {j:Nat},T.findIdx? (fun p=>decide (p.2=c.2))=some j->T[j]?=some q->Q5y T c=T.set j (q.1+c.1,q.2)
 |[],c,q,j,h,_=>by simp at h
 |p::r,c,q,j,h,hq=>by
  rw[Q5y];rw[Xbe] at h
  by_cases hp:p.2=c.2
  ·rw[Uu hp];simp only[hp,decide_true,Xa8,Up] at h;subst h;simp only[US,Up] at hq;subst hq;rfl
  ·rw[Us hp];simp only[hp,decide_false,Tf,Xag,Option.map_eq_some_iff] at h;obtain ⟨j',h1,rfl⟩:=h;rw[Qj6 h1 (by simpa using hq)];rfl
theorem Qn3:∀{T:List Q0l} {c:Q0l},T.findIdx? (fun p=>decide (p.2=c.2))=none->Q5y T c=T++[c]
 |[],c,_=>rfl
 |p::r,c,h=>by
  rw[Q5y];rw[Xbe] at h
  by_cases hp:p.2=c.2
  ·simp[hp] at h
  ·rw[Us hp];simp only[hp,decide_false,Tf,Xag,Option.map_eq_none_iff] at h;rw[Qn3 h];rfl
theorem Qak {k:Nat} (hk:k<=4):∀{all:List Q00} {E:List Int},(∀m∈all,m.es.length=k)->E.length=k->Q3l all (p4 E)=(all.map Q00.term).findIdx? fun p=>decide (p.2=E)
 |[],E,_,_=>rfl
 |m::r,E,h,hE=>by
  have ih:=Qak hk (all:=r) (fun m hm=>h m (Xaa _ hm)) hE;unfold Q3l at ih⊢;rw[Xai,Xai,Xbe,Xbe,ih];have e:decide (p4 m.es=p4 E)=decide (m.term.2=E):=by
   apply Xbb.2
   rw[TG,TG];exact ⟨fun e=>Qwm (h m (by simp)) hE hk e,fun e=>by have e:m.es=E:=e;rw[e]⟩
  rw[e]
theorem Qse {all:List Q00} {j:Nat} {m m':Q00} (hm:all[j]?=some m) (he:m'.es=m.es):Q3l (all.set j m')=Q3l all:=by
 funext q
 unfold Q3l
 congr 1
 rw[List.map_set,he];refine Xax fun i=>?_
 by_cases hi:j=i
 ·subst hi;rw[TN (by rw[UF];exact (Ui.1 hm).1),UK,hm];rfl
 ·rw[Th hi]
theorem Qp2 {all:List Q00} {m:Q00} {N:Nat} (hN:all.length=N) (h:Q3l all (p4 m.es)=none):Q3l (all++[m])=fun r=>if r=p4 m.es then some N else Q3l all r:=by
 funext q
 unfold Q3l at h⊢;rw[UZ,List.findIdx?_append]
 by_cases hq:q=p4 m.es
 ·subst hq;rw[h,Uu rfl];simp[Xbe,hN]
 ·rw[Us hq];have:List.findIdx? (fun r=>decide (r=q)) ([m].map fun m=>p4 m.es)=none:=by
   simp[Xbe];exact fun e=>hq e.symm
  rw[this];cases List.findIdx? (fun r=>decide (r=q)) (all.map fun m=>p4 m.es) <;> rfl
theorem Qve {all:List Q00} {q:P4} {j:Nat} (h:Q3l all q=some j):∃m,all[j]?=some m/\p4 m.es=q:=by
 unfold Q3l at h;obtain ⟨hj,h1,_⟩:=List.findIdx?_eq_some_iff_getElem.1 h;rw[UF] at hj;refine ⟨all[j],Ub hj,?_⟩;simpa using h1
theorem Qvf {all:List Q00} {j:Nat} {m':Q00}:(all.set j m').map Q00.term=(all.map Q00.term).set j m'.term:=by rw[List.map_set]
def Qxs (k:Nat) (T:Int) (m:Q00):Prop:=Q10 k m.es/\-65536<=m.exp/\m.exp<=65536/\64*(m.ws.length:Int)+m.exp<=T
def Qsf [LT ZK] (w:World) (ms:List Q00) (k mb:Nat) (s7 s31:Value) (wr:World):Prop:=
 ∃(i:Nat) (a:OA) (N c:Nat) (all:List Q00),s7=.slice a N c/\s31=.int .i64 (i:Int)/\i<=ms.length/\N<=i/\Q2m w.heap.size wr a N c all/\all.map Q00.term=Qaw ((ms.take i).map Q00.term)/\
  (∀m∈all,Qxs k (69632+64*(i:Int)) m)/\Q4w wr mb N (Q3l all)/\Bw w wr
def Qxt [LT ZK] (w:World) (ms:List Q00) (k mb i p9:Nat) (v0 v1:Value) (aw:OA) (lw cw:Nat) (v3:Value) (m:Q00) (s7 s10:Value) (wx:World):Prop:=
 ∃(a:OA) (N c:Nat) (all:List Q00) (j:Nat) (mj:Q00),s7=.slice a N c/\s10=.int .i64 (j:Int)/\N<=i+1/\Q2m w.heap.size wx a N c all/\all[j]?=some mj/\mj.es=m.es/\
  (∀b e L,Q1r b e L=Q1r mj.neg mj.exp mj.ws+Q1r m.neg m.exp m.ws->(all.set j ⟨b,e,L,mj.es⟩).map Q00.term=Qaw ((ms.take (i+1)).map Q00.term))/\
  (∀m∈all,Qxs k (69632+64*(i:Int)) m)/\Q4w wx mb N (Q3l all)/\Bw w wx/\Q32 wx p9 v0 v1 (.slice aw lw cw) v3/\p9<wx.heap.size/\WordsIn wx aw lw cw m.ws
theorem Q4w.cells {w:World} {b n:Nat} {g:P4->Option Nat} (h:Q4w w b n g) (o:Nat):w.cell? ⟨b,o,none⟩=none:=by
 obtain ⟨D,⟨es,clock,hb,_⟩,_⟩:=h;unfold World.cell?;rw[hb]
theorem Q4w.ne [LT ZK] {w:World} {b n B N c:Nat} {g:P4->Option Nat} (h:Q4w w b n g) {a:OA} {all:List Q00} (hs:Q2m B w a N c all) {x:Addr} (hx:a=some x):x.block≠b:=by
 intro e;obtain ⟨xs,hr⟩:=hs.row;obtain ⟨D,⟨es,clock,hb,_⟩,_⟩:=h;rcases hr.1.form with ⟨h0,_⟩|⟨g',cur,h0,_,_,hh,_⟩
 ·rw[h0] at hx;cases hx
 ·rw[h0] at hx;injection hx with hx;subst hx
  have e:g'=b:=e;subst e;rw[hh] at hb;cases hb
theorem Q4w.below {w w':World} {b n:Nat} {g:P4->Option Nat} (h:Q4w w b n g) (hb:Bw w w'):Q4w w' b n g:=h.keep (hb.block _ h.lt)
end Go.Proofs.YtidojbkhlenahaaGreatDoor
