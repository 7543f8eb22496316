/- Part 38 of the proof of LawParseBuilt: RRdrC, RRdrD. Condition: as each theorem says; none at the end. -/
import Derived.Test.YtdilmfakkppgpaaGreatDoorPkParseBuilt37
set_option maxRecDepth 100000
set_option maxHeartbeats 16000000
namespace Go.Proofs.YtdilmfakkppgpaaGreatDoor
open Go.RowKit WordsM DecM
theorem Qv4 {w:World} {R B:Nat} {s:ByteArray} {p most:Nat} {d:Int} {m:Nat} {xs:LV} (hs:s.size<=1000000) (Vd:m<=p) {e:Nat} {Y:PR Ex} (hY:Y=.error e) (hb:Calls Tryz.prog 217 #[.pointer (some ⟨R,0,none⟩)] w (Q1c R B s (most:Int) d xs m p Y w)):
 Calls Tryz.prog 186 #[.pointer (some ⟨R,0,none⟩)] w (Q1c R B s (most:Int) d xs m p (.error e) w):=by
 subst hY;have H:=Ua hb;clear hb Vd
 go_enter Tryz.func186,Tryz.ntmps186
 go_wp2_with (go_at_call 217;refine H.out.mono ?_;rintro r w5 ⟨p5,rfl,Vf⟩;have H5:=Xh2 p5 Vf;clear p5 Vf)
 go_ret;exact Q1c.err rfl (Xo0 H5) (Xe1 H5)
theorem Qot {w:World} {R B:Nat} {s:ByteArray} {p most:Nat} {d:Int} {m:Nat} {xs:LV} (hs:s.size<=1000000) (Vd:m<=p) {x:Ex} {q q2:Nat} {Y:PR Ex} (hY:Y=.ok (x,q)) (hb:Calls Tryz.prog 217 #[.pointer (some ⟨R,0,none⟩)] w (Q1c R B s (most:Int) d xs m p Y w)) (u5:p<q) (V4:q<=s.size) (N4:Q03 s.data.toList q=q2) (Zy:¬Q06 s.data.toList q2=94):
 Calls Tryz.prog 186 #[.pointer (some ⟨R,0,none⟩)] w (Q1c R B s (most:Int) d xs m p (.ok (x,q2)) w):=by
 subst hY;have O8:=Q1m s.data.toList q;rw[N4] at O8;have H:=Xh6 hb Vd u5 V4 N4 O8;clear hb Vd u5 V4 N4 O8;have Vi:=UL Zy;clear Zy;have HD:=Ua Vi;clear Vi
 go_enter Tryz.func186,Tryz.ntmps186
 go_upto_region 3 with (go_at_call 217;refine (Xo0 H).mono ?_;rintro r w5 ⟨p5,rfl,bad5,a5,m5,c5,ys,ZN,JP,j6⟩;have H5:=Xh4 p5 ZN JP j6;clear p5 ZN JP j6)
 have X3:=Q49 (Xe3 H5) (Xo3 H) hs 94 (by decide) 94 rfl;rw[(Xo4 H),HD.out] at X3;have HS:=Ua X3;clear X3
 go_wp2_with (go_at_call 122;refine HS.out.mono ?_;rintro r w6 ⟨rfl,o5,Q5⟩;have H6:=Xh2 o5 Q5;clear o5 Q5)
 go_ret;exact Q1c.okd rfl ((Xo0 H5).trans0 (Xe1 H6).onN) (Xo1 H5) (by have:=(Xo2 H5);have:=(Xe5 H);omega) (Xo0 H6)
theorem Qv5 {w:World} {R B:Nat} {s:ByteArray} {p most:Nat} {d:Int} {m:Nat} {xs:LV} (hs:s.size<=1000000) (Vd:m<=p) {x:Ex} {q q2:Nat} {Y:PR Ex} (hY:Y=.ok (x,q)) (hb:Calls Tryz.prog 217 #[.pointer (some ⟨R,0,none⟩)] w (Q1c R B s (most:Int) d xs m p Y w)) (u5:p<q) (V4:q<=s.size) (N4:Q03 s.data.toList q=q2) (Zy:Q06 s.data.toList q2=94) (t t2:Nat) (Xs:q2+1=t) (hts:t<=s.size) (U1:Q03 s.data.toList t=t2) (ht2s:t2<=s.size) (X:PR Ex)
 (hc:(∃B0:t2<s.size,¬((s[t2]'B0).toNat:Int)<48/\¬56<((s[t2]'B0).toNat:Int)/\∃t3,t2+1=t3/\X=.ok (.pow x ((s[t2]'B0).toNat-48),t3))∨(¬t2<s.size/\X=.error t2)∨(∃B0:t2<s.size,((s[t2]'B0).toNat:Int)<48/\X=.error t2)∨∃B0:t2<s.size,¬((s[t2]'B0).toNat:Int)<48/\56<((s[t2]'B0).toNat:Int)/\X=.error t2):
 Calls Tryz.prog 186 #[.pointer (some ⟨R,0,none⟩)] w (Q1c R B s (most:Int) d xs m p X w):=by
 subst hY;have O8:=Q1m s.data.toList q;rw[N4] at O8;have H:=Xh6 hb Vd u5 V4 N4 O8;clear hb Vd u5 V4 N4 O8;have Vi:=UU Zy;have Q2:IntKind.i64.wrap ((q2:Int)+1)=(t:Int):=by rw[Ut];omega
 have JX:=Q1m s.data.toList t;rw[U1] at JX;have HD:=Xh5 Vi Q2 Xs U1 JX;clear Zy Vi Q2 Xs U1 JX;have HC:=Ua hc;clear hc
 go_enter Tryz.func186,Tryz.ntmps186
 go_upto_region 3 with (go_at_call 217;refine (Xo0 H).mono ?_;rintro r w5 ⟨p5,rfl,bad5,a5,m5,c5,ys,ZN,JP,j6⟩;have H5:=Xh4 p5 ZN JP j6;clear p5 ZN JP j6)
 have X3:=Q49 (Xe3 H5) (Xo3 H) hs 94 (by decide) 94 rfl;rw[(Xo4 H),(Xo0 HD)] at X3;have HS:=Ua X3;clear X3
 go_upto_region 5 with (go_at_call 122;refine HS.out.mono ?_;rintro r w6 ⟨rfl,o5,Q5⟩;have H6:=Xh2 o5 Q5;clear o5 Q5)
 have k1:=(Xo0 H6).box.c1;have e1:=(Xo0 H6).box.f1;have Q2:=(Xo1 HD);have HV:=Xh2 ((Xo0 H6).setAt (t:Int)) ((Xe1 H6).trans0 (Q0g _ R 1 (.int .i64 (t:Int))))
 go_upto_region 6 with fail
 clear Q2 k1 e1;refine Q2e (p:=(t:Int)) (P:=fun U=>Code.wp _ _ _ _ U) _ HV.out fun V h0 h1 _ _ g1 _ HV=>?_;have F3:=Q2l (Xo0 HV) hts hs;rw[(Xo3 HD)] at F3;have Yy:=Ua F3;clear F3 h0 h1 g1
 go_upto_region 7 with (go_at_call 159;refine Yy.out.mono ?_;rintro r w7 ⟨rfl,ZE,ht7⟩;have h0:=ZE.box.c0;have h1:=ZE.box.c1;have g1:=ZE.box.f1;have H7:=Xh2 ZE ((Xe1 HV).trans0 ht7);clear ZE ht7)
 rcases HC.out with ⟨B0,Q3,h56,t3,T5,hX⟩|⟨B0,hX⟩|⟨B0,Q3,hX⟩|⟨B0,Q3,h56,hX⟩
 ·have E8:IntKind.i64.wrap ((t2:Int)+1)=(t3:Int):=by rw[Ut];omega
  have Zq:=Xh2 E8 T5;clear E8 T5;subst hX;have E0:¬(s.size:Int)<=(t2:Int):=by omega
  have G4:(t2:Int)<(s.size:Int):=by omega
  have hwy:IntKind.u8.wrap (((s[t2]'B0).toNat:Int)-48)=((s[t2]'B0).toNat:Int)-48:=by rw[Xat];have:=(s[t2]'B0).toNat_lt;omega
  have hwj:IntKind.i64.wrap (((s[t2]'B0).toNat:Int)-48)=((s[t2]'B0).toNat:Int)-48:=by rw[Ut];have:=(s[t2]'B0).toNat_lt;omega
  go_quiet (fail)
  have y7:=(Xo0 H7).drewN nq;have VQ:=(Xe1 H7).drewN nq
  go_upto_region 9 with fail
  clear h0 h1 g1;refine Q2e (p:=(t2:Int)) (P:=fun U=>Code.wp _ _ _ _ U) _ ⟨y7,VQ⟩ fun Y h0 h1 _ _ g1 _ HY=>?_;clear y7 VQ
  go_quiet (fail)
  have Ym:=(Xo0 HY).drewN nq;have m1:=Ym.box.c1;have n1:=Ym.box.f1;have HW:=Xh2 Ym ((Xe1 HY).drewN nq);have E8:=(Xo0 Zq);clear Ym h0 h1 g1
  go_upto_region 11 with fail
  have D5:RSt ((Y.drewN nq).setCell ⟨R,1,none⟩ (.int .i64 (t3:Int))) R B s (t3:Int) (most:Int) d bad5 a5 m5 c5 (xs++ys):=(Xo0 HW).setAt (t3:Int);have F6:=(Xe1 HW).trans0 (Q0g _ R 1 (.int .i64 (t3:Int)));clear E8 m1 n1;refine Q2e (p:=(t3:Int)) (P:=fun U=>Code.wp _ _ _ _ U) _ ⟨D5,F6⟩ fun Z h0 h1 _ _ g1 _ HZ=>?_;clear D5 F6;have Jc:=Q6o (Xo0 HZ) (by have:=(Xe1 H);have:=(Xo2 H5);have:=(Xe2 HD);have:=(Xe1 Zq);omega) 6 (((s[t2]'B0).toNat:Int)-48) [];have HE:=Ua Jc;clear Jc h0 h1 g1
  go_wp2_with (go_at_call 158;refine HE.out.mono ?_;rintro r w9 ⟨rfl,b8,S6⟩;have H9:=Xh2 b8 S6;clear b8 S6)
  go_ret;obtain ⟨a9,c9,b8⟩:=(Xo0 H9);rw[UO] at b8;exact Q1c.okd rfl ((Xo0 H5).trans0 ((Xe1 HZ).onN.trans0 (Xe1 H9))) (by rw[Q1i];exact Q2g.app (Q2g.one (o:=.pow ((s[t2]'B0).toNat-48)) (k:=.int .i64 6) (t:=sv []) ⟨rfl,congrArg (Value.int .i64) (by omega),rfl⟩) (Xo1 H5)) (by have:=(Xo2 H5);have:=(Xe2 HD);have:=(Xe1 Zq);have:=(Xe5 H);omega) b8
 have E0:(s.size:Int)<=(t2:Int):=by omega
 go_quiet (fail)
 rotate_left
 have E0:¬(s.size:Int)<=(t2:Int):=by omega
 have G4:(t2:Int)<(s.size:Int):=by omega
 go_quiet (fail)
 rotate_left
 have E0:¬(s.size:Int)<=(t2:Int):=by omega
 have G4:(t2:Int)<(s.size:Int):=by omega
 go_quiet (fail)
 all_goals
  subst hX;have y7:=(Xo0 H7).drewN nq;have m1:=y7.box.c1;have HW:=Ua y7;clear y7 h0 h1 g1
  go_wp2_with (go_at_call 120;refine (Q33 HW.out ht2s hs).mono ?_;rintro r w9 ⟨rfl,t8,S6⟩;have H9:=Xh2 t8 S6;clear t8 S6)
  go_ret;exact Q1c.err rfl ((Xo0 H5).trans0 ((((Xe1 H7).drewN nq).trans0 (Xe1 H9)).onN)) (Xo0 H9)
theorem Qdb {w:World} {R B:Nat} {s:ByteArray} {p most:Nat} {d:Int} {m:Nat} {xs:LV} (hs:s.size<=1000000) (Vd:m<=p) {sub:Nat->PR Ex} {opens:Bool} (hb:Calls Tryz.prog 217 #[.pointer (some ⟨R,0,none⟩)] w (Q1c R B s (most:Int) d xs m p (Q4n sub opens s.data.toList most p) w)) (u6:Q4o s.data.toList p (Q4n sub opens s.data.toList most p)):
 Calls Tryz.prog 186 #[.pointer (some ⟨R,0,none⟩)] w (Q1c R B s (most:Int) d xs m p (Q1t sub opens s.data.toList most p) w):=by
 obtain ⟨Y,hY⟩:∃Y,Q4n sub opens s.data.toList most p=Y:=⟨_,rfl⟩;unfold Q1t;rw[hY] at hb u6⊢;cases Y with
 |error e=>exact Qv4 hs Vd rfl hb
 |ok z=>
  obtain ⟨x,q⟩:=z;have C8:p<q/\q<=s.size:=u6;obtain ⟨q2,N4⟩:∃q2,Q03 s.data.toList q=q2:=⟨_,rfl⟩;simp only[N4]
  by_cases Zy:Q06 s.data.toList q2=94
  ·rw[Us Zy];have hts:q2+1<=s.size:=Q0e Zy (by decide);obtain ⟨t2,U1⟩:∃t2,Q03 s.data.toList (q2+1)=t2:=⟨_,rfl⟩;have ht2s:t2<=s.size:=(by rw[<-U1];exact Q1s hts);rw[U1];refine Qv5 hs Vd rfl hb C8.1 C8.2 N4 Zy (q2+1) t2 rfl hts U1 ht2s _ ?_
   by_cases B0:t2<s.size
   ·have hv:=Q2p s B0
    by_cases Q3:((s[t2]'B0).toNat:Int)<48
    ·rw[Uq (by rw[hv];omega)];exact .inr (.inr (.inl ⟨B0,Q3,rfl⟩))
    ·by_cases h56:56<((s[t2]'B0).toNat:Int)
     ·rw[Uq (by rw[hv];omega)];exact .inr (.inr (.inr ⟨B0,Q3,h56,rfl⟩))
     ·rw[Us (by rw[hv];omega),hv];exact .inl ⟨B0,Q3,h56,t2+1,rfl,rfl⟩
   ·rw[Uq (fun e=>by rw[Q3l s B0] at e;exact absurd e.1 (by decide))];exact .inr (.inl ⟨B0,rfl⟩)
  ·rw[Uq Zy];exact Qot hs Vd rfl hb C8.1 C8.2 N4 Zy
def Qyi (R B:Nat) (s:ByteArray) (most:Nat) (d:Int) (xs:LV) (m p:Nat) (sub:Nat->PR Ex) (opens:Bool) (X:PR Ex) (w wr:World):Prop:=∃(q f:Nat) (acc:List Ex) (bad:Int) (a:OA) (m' c:Nat) (ys:LV),acc≠[]/\p<q/\q<=s.size/\s.size<=f+q/\m'+p<=m+q/\Q2g (Q5m true acc) ys/\RSt wr R B s (q:Int) (most:Int) d bad a m' c (xs++ys)/\Q0f (OnN R B) w wr/\
 X=if Q06 s.data.toList (Q03 s.data.toList q)=42 then Q36 sub opens s.data.toList most f (Q03 s.data.toList q+1) acc else .ok (.prod acc,Q03 s.data.toList q)
theorem Qou {acc:List Ex} (h:acc≠[]) (x:Ex):Q5m true (acc++[x])=Q5m true acc++(Q1i x++[.mul]):=by
 rw[Qep];cases acc with
 |nil=>exact absurd rfl h
 |cons y r=>rfl
theorem Qsq (x:Ex):Q5m true [x]=Q1i x:=by simp[Q5m,Qol]
theorem Qj5 {w:World} {R B:Nat} {s:ByteArray} {p most:Nat} {d bad:Int} {a:OA} {m c:Nat} {xs:LV} (h:RSt w R B s (p:Int) (most:Int) d bad a m c xs) (hp:p<=s.size) (hs:s.size<=1000000) (hm:m<=p) {sub:Nat->PR Ex} {opens:Bool} (u6:∀q,q<=s.size->Q4o s.data.toList q (Q1t sub opens s.data.toList most q)) (hf:∀W q bad a m c xs,RSt W R B s ((q:Nat):Int) (most:Int) d bad a m c xs->q<=s.size->m<=q->Calls Tryz.prog 186 #[.pointer (some ⟨R,0,none⟩)] W (Q1c R B s (most:Int) d xs m q (Q1t sub opens s.data.toList most q) W)):
 Calls Tryz.prog 157 #[.pointer (some ⟨R,0,none⟩)] w (Q1c R B s (most:Int) d xs m p (Q36 sub opens s.data.toList most (s.size+1) p []) w):=by
 obtain ⟨X,hX⟩:∃X,Q36 sub opens s.data.toList most (s.size+1) p []=X:=⟨_,rfl⟩;rw[hX];rw[Q36] at hX;have O2:=hf w p bad a m c xs h hp hm;have C8:=u6 p hp;obtain ⟨Y,hY⟩:∃Y,Q1t sub opens s.data.toList most p=Y:=⟨_,rfl⟩;rw[hY] at hX O2 C8;have H:=Xh7 O2 hX C8 u6 hf hp hm;clear O2 hX C8 u6 hf hp hm h hY
 go_enter Tryz.func157,Tryz.ntmps157
 cases Y with
 |error e=>
  have J2:X=.error e:=(Xo1 H).symm;have HX:=Ua J2;clear J2
  go_wp2_with (go_at_call 186;refine (Xo0 H).mono ?_;rintro r w5 ⟨p5,rfl,Vf⟩;have H5:=Xh2 p5 Vf;clear p5 Vf)
  go_ret;exact Q1c.err HX.out (Xo0 H5) (Xe1 H5)
 |ok z=>
  obtain ⟨x0,q0⟩:=z
  go_upto_region 3 with (go_at_call 186;refine (Xo0 H).mono ?_;rintro r w5 ⟨p5,rfl,bad5,a5,m5,c5,ys5,ZN,JP,j6⟩;have H5:=Xh4 p5 ZN JP j6;clear p5 ZN JP j6)
  rename World=>w5
  have y4:Qyi R B s most d xs m p sub opens X w w5:=⟨q0,s.size,[x0],bad5,a5,m5,c5,ys5,by simp,(Xo2 H).1,(Xo2 H).2,by omega,(Xo2 H5),by rw[Qsq];exact (Xo1 H5),(Xe3 H5),(Xo0 H5),by rw[<-(Xo1 H)];rfl⟩;have QP:=Ua y4;clear y4
  go_loopw [] (fun wr=>Qyi R B s most d xs m p sub opens X w wr) (fun wr=>s.size-atOf wr R)
  case atStart=>exact QP.out
  case round=>
   obtain ⟨q,f,acc,bad,a,m1,c,ys,JS,u5,V4,Yg,Zr,Xv,hr,Q7,F4⟩:=hrel;obtain ⟨q2,N4⟩:∃q2,Q03 s.data.toList q=q2:=⟨_,rfl⟩;have O8:=Q1m s.data.toList q;have Jv:q2<=s.size:=(by rw[<-N4];exact Q1s V4);rw[N4] at F4 O8
   by_cases h42:Q06 s.data.toList q2=42
   ·rw[Us h42] at F4;have r8:q2+1<=s.size:=Q0e h42 (by decide);obtain ⟨q3,Y8⟩:∃q3,q2+1=q3:=⟨_,rfl⟩;rw[Y8] at F4 r8;have Q2:IntKind.i64.wrap ((q2:Int)+1)=(q3:Int):=(by rw[Ut];omega);obtain ⟨f',rfl⟩:∃f',f=f'+1:=⟨f-1,by omega⟩;rw[Q36] at F4;have X3:=Q49 hr V4 hs 42 (by decide) 42 rfl;rw[N4,UU h42] at X3;have U8:=(Xo3 H) q3 r8;obtain ⟨Y,hY⟩:∃Y,Q1t sub opens s.data.toList most q3=Y:=⟨_,rfl⟩;rw[hY] at F4 U8;have HR:=Xh16 JS u5 V4 Yg Zr Xv hr Q7 F4 r8 Q2 X3 U8 hY Y8 O8;clear JS u5 V4 Yg Zr Xv hr Q7 F4 r8 Q2 X3 U8 hY Y8 O8 h42 N4 Jv
    go_upto_region 4 with (go_at_call 122;refine (Xo11 HR).mono ?_;rintro r w6 ⟨rfl,o5,Q5⟩;have H6:=Xh2 o5 Q5;clear o5 Q5)
    have k1:=(Xo0 H6).box.c1;have e1:=(Xo0 H6).box.f1;have Q2:=(Xo10 HR);have HV0:=Xh2 ((Xo0 H6).setAt (q3:Int)) ((Xe1 H6).trans0 (Q0g _ R 1 (.int .i64 (q3:Int))))
    go_upto_region 5 with fail
    refine Qaz (Φ:=fun U=>RSt U R B s (q3:Int) (most:Int) d bad a m1 c (xs++ys)/\Q0f (OnR R) wr U) (P:=fun U=>Code.wp _ _ _ _ U) _ HV0.out ?_;clear Q2 k1 e1 HV0;intro V hV;have XN:=(Xo4 H) V q3 bad a m1 c (xs++ys) hV.1 (Xo9 HR) (by have:=(Xe4 HR);have:=(Xo1 HR);have:=(Xe14 HR);have:=(Xe6 H);omega);rw[(Xo13 HR)] at XN;have HV:=Xh2 hV.2 XN;clear hV XN;cases Y with
    |error e=>
     have J2:X=.error e:=(Xo8 HR);have HX:=Ua J2;clear J2
     go_wp2_with (go_at_call 186;refine (Xe1 HV).mono ?_;rintro r w8 ⟨F6,rfl,WU⟩;have H8:=Xh2 F6 WU;clear F6 WU)
     go_ret;exact Q1c.err HX.out (((Xo7 HR).trans0 (Xo0 HV).onN).trans0 (Xo0 H8)) (Xe1 H8)
    |ok z=>
     obtain ⟨x,q4⟩:=z
     go_upto_region 7 with (go_at_call 186;refine (Xe1 HV).mono ?_;rintro r w8 ⟨F6,rfl,bad8,a8,m8,c8,ys8,XS,XO,D5⟩;have H8:=Xh4 F6 XS XO D5;clear F6 XS XO D5)
     have Qr:q3<q4/\q4<=s.size:=(Xo12 HR);have Jc:=Q6o (Xe3 H8) (by have:=(Xo4 HR);have:=(Xo1 HR);have:=(Xe14 HR);have:=(Xe6 H);have:=(Xo2 H8);omega) 5 0 [];have HE:=Xh2 Jc Qr;clear Jc Qr
     go_wp2_with (go_at_call 158;refine (Xo0 HE).mono ?_;rintro r w9 ⟨rfl,b8,S6⟩;have H9:=Xh2 b8 S6;clear b8 S6)
     obtain ⟨a9,c9,b8⟩:=(Xo0 H9);obtain ⟨JS,u5,V4,Yg,Zr,Xv,hr,Q7,F4,r8,Q2,X3,U8,hY,Y8,O8⟩:=HR.out;have XZ:=hr.box.atOf;have XQ:=b8.box.atOf;have XO:=(Xo2 H8);have Qr:=(Xe1 HE);refine ⟨⟨q4,f',acc++[x],bad8,a9,m8+1,c9,(ys++ys8)++[.int .i64 5,.int .i64 0,sv []],by simp,by omega,Qr.2,by omega,by omega,?_,?_,((Q7.trans0 (Xo0 HV).onN).trans0 (Xo0 H8)).trans0 (Xe1 H9),?_⟩,by omega⟩
     ·rw[Qou JS];have h1:=Q2g.app (Q2g.app (Q2g.one (o:=.mul) (k:=.int .i64 5) (n:=.int .i64 0) (t:=sv []) ⟨rfl,rfl,rfl⟩) (Xo1 H8)) Xv;rwa[UO]
     ·have h2:=b8;simp only[UO] at h2⊢;exact h2
     ·exact F4
   ·rw[Uq h42] at F4;have X3:=Q49 hr V4 hs 42 (by decide) 42 rfl;rw[N4,UL h42] at X3;have Yq:Q1i (.prod acc)=Q5m true acc:=Qsc JS;have HR:=Xh8 u5 Zr Xv Q7 F4 X3 Yq O8;clear JS u5 V4 Yg Zr Xv hr Q7 F4 X3 O8 h42 N4 Yq Jv
    go_wp2_with (go_at_call 122;refine (Xo5 HR).mono ?_;rintro r w6 ⟨rfl,o5,Q5⟩;have H6:=Xh2 o5 Q5;clear o5 Q5)
    go_ret;exact Q1c.okd (Xo4 HR) ((Xo3 HR).trans0 (Xe1 H6).onN) (by rw[(Xo6 HR)];exact (Xo2 HR)) (by have:=(Xo1 HR);have:=(Xe7 HR);omega) (Xo0 H6)
def Qz6 (R B:Nat) (s:ByteArray) (most:Nat) (d:Int) (xs:LV) (m p:Nat) (sub:Nat->PR Ex) (opens:Bool) (X:PR Ex) (w wr:World):Prop:=∃(q f:Nat) (acc:List (Bool × Ex)) (bad:Int) (a:OA) (m' c:Nat) (ys:LV),acc≠[]/\p<q/\q<=s.size/\s.size<=f+q/\m'+p<=m+q/\Q2g (Q4x true acc) ys/\RSt wr R B s (q:Int) (most:Int) d bad a m' c (xs++ys)/\Q0f (OnN R B) w wr/\
 X=if Q06 s.data.toList (Q03 s.data.toList q)=43 then Q8h sub opens s.data.toList most f (Q03 s.data.toList q+1) false acc else if Q06 s.data.toList (Q03 s.data.toList q)=45 then Q8h sub opens s.data.toList most f (Q03 s.data.toList q+1) true acc else .ok (.sum acc,Q03 s.data.toList q)
theorem Qet {acc:List (Bool × Ex)} (h:acc≠[]) (b:Bool) (x:Ex):Q4x true (acc++[(b,x)])=Q4x true acc++(Q1i x++[if b=true then .sub else .add]):=by
 rw[Qeo];cases acc with
 |nil=>exact absurd rfl h
 |cons y r=>rfl
theorem Qsr (x:Ex):Q4x true [(true,x)]=Q1i x++[.neg]:=by simp[Q4x,Ql2]
theorem Qss (x:Ex):Q4x true [(false,x)]=Q1i x:=by simp[Q4x,Ql2]
theorem Qj6 {w:World} {R B:Nat} {s:ByteArray} {p most:Nat} {d bad:Int} {a:OA} {m c:Nat} {xs:LV} (h:RSt w R B s (p:Int) (most:Int) d bad a m c xs) (hp:p<=s.size) (hs:s.size<=1000000) (hm:m<=p) {sub:Nat->PR Ex} {opens:Bool} (u6:∀q,q<=s.size->Q4o s.data.toList q (Q36 sub opens s.data.toList most (s.size+1) q [])) (ht:∀W q bad a m c xs,RSt W R B s ((q:Nat):Int) (most:Int) d bad a m c xs->q<=s.size->m<=q->Calls Tryz.prog 157 #[.pointer (some ⟨R,0,none⟩)] W (Q1c R B s (most:Int) d xs m q (Q36 sub opens s.data.toList most (s.size+1) q []) W)):
 Calls Tryz.prog 121 #[.pointer (some ⟨R,0,none⟩)] w (Q1c R B s (most:Int) d xs m p (Q6c sub opens s.data.toList most p) w):=by
 obtain ⟨X,hX⟩:∃X,Q6c sub opens s.data.toList most p=X:=⟨_,rfl⟩;rw[hX];unfold Q6c at hX;obtain ⟨p1,QG⟩:∃p1,Q03 s.data.toList p=p1:=⟨_,rfl⟩;have YB:=Q1m s.data.toList p;have Yo:p1<=s.size:=by rw[<-QG];exact Q1s hp
 rw[QG] at hX YB;have X3:=Q49 h hp hs 45 (by decide) 45 rfl;rw[QG] at X3
 by_cases Z6:Q06 s.data.toList p1=45
 rw[Us Z6] at hX;rw[UU Z6] at X3;have Jl:p1+1<=s.size:=Q0e Z6 (by decide);obtain ⟨p2,hp2e⟩:∃p2,p1+1=p2:=⟨_,rfl⟩;rw[hp2e] at hX Jl;have Q2:IntKind.i64.wrap ((p1:Int)+1)=(p2:Int):=by rw[Ut];omega
 rw[show s.data.toList.length+1=s.size+1 from rfl,Q8h] at hX;have C8:=u6 p2 Jl;obtain ⟨Y,hY⟩:∃Y,Q36 sub opens s.data.toList most (s.size+1) p2 []=Y:=⟨_,rfl⟩;rw[show s.data.toList.length+1=s.size+1 from rfl,hY] at hX;rw[hY] at C8;have H:=Xh11 X3 hX C8 u6 ht Jl hm Q2 hY hp2e YB;clear X3 hX C8 u6 ht hp hm h hY Q2 hp2e YB Jl QG Yo Z6
 go_enter Tryz.func121,Tryz.ntmps121
 go_upto_region 3 with (go_at_call 122;refine (Xo0 H).mono ?_;rintro r w6 ⟨rfl,o5,Q5⟩;have H6:=Xh2 o5 Q5;clear o5 Q5)
 have k1:=(Xo0 H6).box.c1;have e1:=(Xo0 H6).box.f1;have Q2:=(Xo7 H);have HV0:=Xh2 ((Xo0 H6).setAt (p2:Int)) ((Xe1 H6).trans0 (Q0g _ R 1 (.int .i64 (p2:Int))))
 go_upto_region 4 with fail
 refine Qaz (Φ:=fun U=>RSt U R B s (p2:Int) (most:Int) d bad a m c xs/\Q0f (OnR R) w U) (P:=fun U=>Code.wp _ _ _ _ U) _ HV0.out ?_;clear Q2 k1 e1 HV0;intro V hV;have XN:=(Xo4 H) V p2 bad a m c xs hV.1 (Xo5 H) (by have:=(Xo6 H);have:=(Xe9 H);omega);rw[(Xo8 H)] at XN;have HV:=Xh2 hV.2 XN;clear hV XN;rcases Y with e|⟨x0,q0⟩
 ·have J2:X=.error e:=(Xo1 H).symm;have HX:=Ua J2;clear J2
  go_wp2_with (go_at_call 157;refine (Xe1 HV).mono ?_;rintro r w8 ⟨F6,rfl,WU⟩;have H8:=Xh2 F6 WU;clear F6 WU)
  go_ret;exact Q1c.err HX.out ((Xo0 HV).onN.trans0 (Xo0 H8)) (Xe1 H8)
 go_upto_region 7 with (go_at_call 157;refine (Xe1 HV).mono ?_;rintro r w8 ⟨F6,rfl,bad8,a8,m8,c8,ys8,XS,XO,D5⟩;have H8:=Xh4 F6 XS XO D5;clear F6 XS XO D5)
 have Jc:=Q6o (Xe3 H8) (by have:=(Xo6 H);have:=(Xe9 H);have:q0<=s.size:=(Xo2 H).2;have:=(Xo2 H8);omega) 7 0 [];have HE:=Ua Jc;clear Jc
 go_upto_region 8 with (go_at_call 158;refine HE.out.mono ?_;rintro r w9 ⟨rfl,b8,S6⟩;have H9:=Xh2 b8 S6;clear b8 S6)
 have y4:Qz6 R B s most d xs m p sub opens X w w9:=by
  obtain ⟨a9,c9,b8⟩:=(Xo0 H9);have h1:=(Xo2 H);have h2:=(Xe9 H);have h3:=(Xo2 H8);refine ⟨q0,s.size,[(true,x0)],bad8,a9,m8+1,c9,ys8++[.int .i64 7,.int .i64 0,sv []],by simp,by have:=h1.1;omega,h1.2,by omega,by have:=h1.1;omega,?_,?_,((Xo0 HV).onN.trans0 (Xo0 H8)).trans0 (Xe1 H9),by rw[<-(Xo1 H)];rfl⟩
  ·rw[Qsr];exact Q2g.app (Q2g.one (o:=.neg) (k:=.int .i64 7) (n:=.int .i64 0) (t:=sv []) ⟨rfl,rfl,rfl⟩) (Xo1 H8)
  ·rw[<-UO];exact b8
 rename World=>wS
 have QP:=Ua y4;have HM:=Xh3 (Xo3 H) (Xo4 H) (Xo6 H);have hp0:m<=p:=(Xe2 HM);have HP:=Ua hp0;clear y4 hp0
 rotate_left
 rw[Uq Z6] at hX;rw[UL Z6] at X3;rw[show s.data.toList.length+1=s.size+1 from rfl,Q8h] at hX;have C8:=u6 p1 Yo;obtain ⟨Y,hY⟩:∃Y,Q36 sub opens s.data.toList most (s.size+1) p1 []=Y:=⟨_,rfl⟩;rw[show s.data.toList.length+1=s.size+1 from rfl,hY] at hX;rw[hY] at C8;have H:=Xh9 X3 hX C8 u6 ht Yo hm hY YB;clear X3 hX C8 u6 ht hp hm h hY YB QG Yo Z6
 go_enter Tryz.func121,Tryz.ntmps121
 go_upto_region 4 with (go_at_call 122;refine (Xo0 H).mono ?_;rintro r w6 ⟨rfl,o5,Q5⟩;have H6:=Xh2 o5 Q5;clear o5 Q5)
 have XN:=(Xo4 H) w6 p1 bad a m c xs (Xo0 H6) (Xo5 H) (by have:=(Xo6 H);have:=(Xe8 H);omega);rw[(Xo7 H)] at XN;have HV:=Xh2 (Xe1 H6) XN;clear XN;rcases Y with e|⟨x0,q0⟩
 ·have J2:X=.error e:=(Xo1 H).symm;have HX:=Ua J2;clear J2
  go_wp2_with (go_at_call 157;refine (Xe1 HV).mono ?_;rintro r w8 ⟨F6,rfl,WU⟩;have H8:=Xh2 F6 WU;clear F6 WU)
  go_ret;exact Q1c.err HX.out ((Xo0 HV).onN.trans0 (Xo0 H8)) (Xe1 H8)
 go_upto_region 8 with (go_at_call 157;refine (Xe1 HV).mono ?_;rintro r w8 ⟨F6,rfl,bad8,a8,m8,c8,ys8,XS,XO,D5⟩;have H8:=Xh4 F6 XS XO D5;clear F6 XS XO D5)
 have y4:Qz6 R B s most d xs m p sub opens X w w8:=by
  have h1:=(Xo2 H);have h2:=(Xe8 H);have h3:=(Xo2 H8);exact ⟨q0,s.size,[(false,x0)],bad8,a8,m8,c8,ys8,by simp,by have:=h1.1;omega,h1.2,by omega,by have:=h1.1;omega,by rw[Qss];exact (Xo1 H8),(Xe3 H8),(Xo0 HV).onN.trans0 (Xo0 H8),by rw[<-(Xo1 H)];rfl⟩
 rename World=>wS
 have QP:=Ua y4;have HM:=Xh3 (Xo3 H) (Xo4 H) (Xo6 H);have hp0:m<=p:=(Xe2 HM);have HP:=Ua hp0;clear y4 hp0
 all_goals
  go_loopw [] (fun wr=>Qz6 R B s most d xs m p sub opens X w wr) (fun wr=>s.size-atOf wr R)
  case atStart=>exact QP.out
  case round=>
   obtain ⟨q,f,acc,bad,a,m1,c,ys,JS,u5,V4,Yg,Zr,Xv,hr,Q7,F4⟩:=hrel;obtain ⟨q2,N4⟩:∃q2,Q03 s.data.toList q=q2:=⟨_,rfl⟩;have O8:=Q1m s.data.toList q;have Jv:q2<=s.size:=(by rw[<-N4];exact Q1s V4);have hq22:Q03 s.data.toList q2=q2:=(by rw[<-N4];exact Q7j _ _);rw[N4] at F4 O8;have X3:=Q49 hr V4 hs 43 (by decide) 43 rfl;rw[N4] at X3;have XW:=fun (U:World) (hU:RSt U R B s (q2:Int) (most:Int) d bad a m1 c (xs++ys))=>Q49 hU Jv hs 45 (by decide) 45 rfl;rw[hq22] at XW
   by_cases QF:Q06 s.data.toList q2=43∨Q06 s.data.toList q2=45
   ·obtain ⟨sg,R2⟩:∃sg,decide (Q06 s.data.toList q2=45)=sg:=⟨_,rfl⟩;have hsp:decide (Q06 s.data.toList q2=43)= !sg:=by
     rw[<-R2];rcases QF with h|h <;> rw[h] <;> decide
    have r8:q2+1<=s.size:=by rcases QF with h|h <;> exact Q0e h (by decide)
    have S2:X=Q8h sub opens s.data.toList most f (q2+1) sg acc:=by
     rw[F4,<-R2];rcases QF with h|h
     ·rw[Us h,h];rfl
     ·rw[Uq (by rw[h];decide),Us h,h];rfl
    obtain ⟨q3,Y8⟩:∃q3,q2+1=q3:=⟨_,rfl⟩;rw[Y8] at S2 r8;have Q2:IntKind.i64.wrap ((q2:Int)+1)=(q3:Int):=(by rw[Ut];omega);obtain ⟨f',rfl⟩:∃f',f=f'+1:=⟨f-1,by omega⟩;rw[Q8h,show s.data.toList.length+1=s.size+1 from rfl] at S2;rw[hsp] at X3;rw[R2] at XW;have U8:=(Xo0 HM) q3 r8;obtain ⟨Y,hY⟩:∃Y,Q36 sub opens s.data.toList most (s.size+1) q3 []=Y:=⟨_,rfl⟩;rw[hY] at S2 U8;have HR:=Xh17 JS u5 V4 Yg Zr Xv hr Q7 S2 r8 Q2 X3 U8 hY Y8 O8 XW;clear JS u5 V4 Yg Zr Xv hr Q7 F4 S2 r8 Q2 X3 XW U8 hY Y8 O8 QF R2 hsp N4 Jv hq22;cases sg
    all_goals
     go_upto_region 11 with (first
      |(go_at_call 122;refine ((Xe16 HR) w10 (Xo0 H10)).mono ?_;rintro r w11 ⟨rfl,WD,Vh⟩;have H11:=Xh2 WD Vh;clear WD Vh)
      |(go_at_call 122;refine (Xo11 HR).mono ?_;rintro r w10 ⟨rfl,Vb,Vx⟩;have H10:=Xh2 Vb Vx;clear Vb Vx))
     have k1:=(Xo0 H11).box.c1;have e1:=(Xo0 H11).box.f1;have Q2:=(Xo10 HR);have HV0:=Xh2 ((Xo0 H11).setAt (q3:Int)) (((Xe1 H10).trans0 (Xe1 H11)).trans0 (Q0g _ R 1 (.int .i64 (q3:Int))))
     go_upto_region 12 with fail
     refine Qaz (Φ:=fun U=>RSt U R B s (q3:Int) (most:Int) d bad a m1 c (xs++ys)/\Q0f (OnR R) wr U) (P:=fun U=>Code.wp _ _ _ _ U) _ HV0.out ?_;clear Q2 k1 e1 HV0;intro V hV;have XN:=(Xo1 HM) V q3 bad a m1 c (xs++ys) hV.1 (Xo9 HR) (by have:=(Xo4 HR);have:=(Xo1 HR);have:=(Xo14 HR);have:=(Xo15 HR);have:=HP.out;omega);rw[(Xo13 HR)] at XN;have HV:=Xh2 hV.2 XN;clear hV XN;cases Y with
     |error e=>
      have J2:X=.error e:=(Xo8 HR);have HX:=Ua J2;clear J2
      go_wp2_with (go_at_call 157;refine (Xe1 HV).mono ?_;rintro r w12 ⟨WA,rfl,hc12⟩;have Wj:=Xh2 WA hc12;clear WA hc12)
      go_ret;exact Q1c.err HX.out (((Xo7 HR).trans0 (Xo0 HV).onN).trans0 (Xo0 Wj)) (Xe1 Wj)
     |ok z=>
      obtain ⟨x,q4⟩:=z
      go_upto_region 14 with (go_at_call 157;refine (Xe1 HV).mono ?_;rintro r w12 ⟨WA,rfl,bad12,a12,m12,c12,ys12,ho12,hm12,hr12⟩;have Wj:=Xh4 WA ho12 hm12 hr12;clear WA ho12 hm12 hr12)
      have Qr:q3<q4/\q4<=s.size:=(Xo12 HR);have Jc:=fun k=>Q6o (Xe3 Wj) (by have:=(Xo4 HR);have:=(Xo1 HR);have:=(Xo14 HR);have:=(Xo15 HR);have:=HP.out;have:=(Xo2 Wj);omega) k 0 [];have HE:=Xh2 Jc Qr;clear Jc Qr
      go_wp2_with (go_at_call 158;refine ((Xo0 HE) _).mono ?_;rintro r w13 ⟨rfl,KF,ht13⟩;have H13:=Xh2 KF ht13;clear KF ht13)
      obtain ⟨a13,c13,KF⟩:=(Xo0 H13);obtain ⟨JS,u5,V4,Yg,Zr,Xv,hr,Q7,F4,r8,Q2,X3,U8,hY,Y8,O8,_⟩:=HR.out;have XZ:=hr.box.atOf;have XQ:=KF.box.atOf;have hm12:=(Xo2 Wj);have Qr:=(Xe1 HE)
      first
      |(refine ⟨⟨q4,f',acc++[(false,x)],bad12,a13,m12+1,c13,(ys++ys12)++[.int .i64 3,.int .i64 0,sv []],by simp,by omega,Qr.2,by omega,by omega,?_,?_,((Q7.trans0 (Xo0 HV).onN).trans0 (Xo0 Wj)).trans0 (Xe1 H13),?_⟩,by omega⟩
        ·rw[Qet JS];have h1:=Q2g.app (Q2g.app (Q2g.one (o:=.add) (k:=.int .i64 3) (n:=.int .i64 0) (t:=sv []) ⟨rfl,rfl,rfl⟩) (Xo1 Wj)) Xv;rw[UO];exact h1
        ·have h2:=KF;simp only[UO] at h2⊢;exact h2
        ·exact F4)
      |(refine ⟨⟨q4,f',acc++[(true,x)],bad12,a13,m12+1,c13,(ys++ys12)++[.int .i64 4,.int .i64 0,sv []],by simp,by omega,Qr.2,by omega,by omega,?_,?_,((Q7.trans0 (Xo0 HV).onN).trans0 (Xo0 Wj)).trans0 (Xe1 H13),?_⟩,by omega⟩
        ·rw[Qet JS];have h1:=Q2g.app (Q2g.app (Q2g.one (o:=.sub) (k:=.int .i64 4) (n:=.int .i64 0) (t:=sv []) ⟨rfl,rfl,rfl⟩) (Xo1 Wj)) Xv;rw[UO];exact h1
        ·have h2:=KF;simp only[UO] at h2⊢;exact h2
        ·exact F4)
   ·have h43:¬Q06 s.data.toList q2=43:=fun h=>QF (.inl h);have Z6:¬Q06 s.data.toList q2=45:=fun h=>QF (.inr h);rw[Uq h43,Uq Z6] at F4;rw[UL h43] at X3;rw[UL Z6] at XW;have Yq:Q1i (.sum acc)=Q4x true acc:=Qut JS;have HR:=Xh9 u5 Zr Xv Q7 F4 X3 Yq O8 XW;clear JS u5 V4 Yg Zr Xv hr Q7 F4 X3 XW O8 h43 Z6 QF N4 Yq Jv hq22
    go_wp2_with (first
     |(go_at_call 122;refine ((Xe8 HR) w10 (Xo0 H10)).mono ?_;rintro r w11 ⟨rfl,WD,Vh⟩;have H11:=Xh2 WD Vh;clear WD Vh)
     |(go_at_call 122;refine (Xo5 HR).mono ?_;rintro r w10 ⟨rfl,Vb,Vx⟩;have H10:=Xh2 Vb Vx;clear Vb Vx))
    go_ret;exact Q1c.okd (Xo4 HR) ((Xo3 HR).trans0 (((Xe1 H10).trans0 (Xe1 H11)).onN)) (by rw[(Xo6 HR)];exact (Xo2 HR)) (by have:=(Xo1 HR);have:=(Xo7 HR);omega) (Xo0 H11)
theorem Q7q {R B:Nat} {s:ByteArray} {most:Nat} (hs:s.size<=1000000):∀(k:Nat) (w:World) (p:Nat) (d bad:Int) (a:OA) (m c:Nat) (xs:LV),d=16-(k:Int)->k<=16->RSt w R B s (p:Int) (most:Int) d bad a m c xs->p<=s.size->m<=p->
 Calls Tryz.prog 121 #[.pointer (some ⟨R,0,none⟩)] w (Q1c R B s (most:Int) d xs m p (Q6d s.data.toList most k p) w)
 |0,w,p,d,bad,a,m,c,xs,hd,_,h,hp,hm=>by
  have hf:decide (d<16)=false:=UL (by omega);refine Qj6 h hp hs hm (sub:=fun q=>.error q) (opens:=false) (fun q hq=>Q6e (fun h=>by cases h) _ _ hq) fun W q bad a m c xs hW hq hm=>?_;refine Qj5 hW hq hs hm (fun q hq=>Q5r (fun h=>by cases h) hq) fun W q bad a m c xs hW hq hm=>?_;have hb:=Qj4 hW hq hs hm (by omega) (by omega) (fun q=>.error q) (fun h=>by omega) (fun h=>by omega);rw[hf] at hb;exact Qdb hs hm hb (Qa5 (fun h=>by cases h) hq)
 |k+1,w,p,d,bad,a,m,c,xs,hd,hk,h,hp,hm=>by
  have hf:decide (d<16)=true:=UU (by omega);have u6:=fun q hq=>Q6f s.data.toList most k q hq;refine Qj6 h hp hs hm (sub:=Q6d s.data.toList most k) (opens:=true) (fun q hq=>Q6e (fun _=>u6) _ _ hq) fun W q bad a m c xs hW hq hm=>?_;refine Qj5 hW hq hs hm (fun q hq=>Q5r (fun _=>u6) hq) fun W q bad a m c xs hW hq hm=>?_;have hb:=Qj4 hW hq hs hm (by omega) (by omega) (Q6d s.data.toList most k) (fun _=>u6) (fun _ W q bad a m c xs hW hq hm=>Q7q hs k W q (d+1) bad a m c xs (by omega) (by omega) hW hq hm);rw[hf] at hb;exact Qdb hs hm hb (Qa5 (fun _=>u6) hq)
theorem Qov {L T:LU} {i p:Nat} {c:UInt8} {r:LU} (h:T.drop i=c::r) (hc:Q06 L p=c):Q1h L (T.drop i) p=Q1h L (T.drop (i+1)) (p+1):=by
 have h2:T.drop (i+1)=r:=by rw[<-List.tail_drop,h];rfl
 rw[h2,h,Q1h,Us hc]
theorem Qv6 {t:ByteArray} {k:Nat} (h:k<t.size):t[k]'h∈t.data.toList:=by rw[Xbo];exact Array.getElem_mem _
def Qz7 (R B:Nat) (s:ByteArray) (n d:Int) (xs:LV) (bad:Int) (a:OA) (m c p:Nat) (hB:ByteArray) (X:Except Nat Nat) (w:World) (s6:Value) (wr:World):Prop:=∃k:Nat,s6=.int .i64 (k:Int)/\k<=hB.size/\p+k<=s.size/\RSt wr R B s ((p+k:Nat):Int) n d bad a m c xs/\Q0f (OnR R) w wr/\Q1h s.data.toList (hB.data.toList.drop k) (p+k)=X
theorem Qst {w:World} {R B:Nat} {s:ByteArray} {p most i:Nat} {bad:Int} {a:OA} {m c:Nat} {xs:LV} (h:RSt w R B s (p:Int) (most:Int) 0 bad a m c xs) (hp:p<=s.size) (hs:s.size<=1000000) (hm:m<=p) (hi:i<4):
 Calls Tryz.prog 75 #[.pointer (some ⟨R,0,none⟩),.int .i64 ((i:Int)+1)] w (Q1c R B s (most:Int) 0 xs m p (Q8i s.data.toList most i p) w):=by
 obtain ⟨X,hX⟩:∃X,Q8i s.data.toList most i p=X:=⟨_,rfl⟩;rw[hX];unfold Q8i at hX;have YH:i+1<10:=by omega
 obtain ⟨b,hb⟩:∃b,dec (i+1)=[b]:=⟨_,Q2d YH⟩;have P8:=Qiu (i+1) YH w;rw[show ((i+1:Nat):Int)=(i:Int)+1 by omega,hb] at P8;obtain ⟨Y,hY⟩:∃Y,Q1h s.data.toList (Q3t i) p=Y:=⟨_,rfl⟩;rw[hY] at hX;have T8:(⟨#[120,b,39,32,61,32]⟩:ByteArray).data.toList=Q3t i:=by rw[Q3t,hb];rfl
 have hY2:Q1h s.data.toList ((⟨#[120,b,39,32,61,32]⟩:ByteArray).data.toList.drop 0) (p+0)=Y:=by rw[T8];exact hY
 have Vp:(⟨#[120]⟩++⟨#[b]⟩++⟨#[39,32,61,32]⟩:ByteArray)=⟨#[120,b,39,32,61,32]⟩:=by apply ByteArray.ext;simp[TS]
 have Wp:∀x∈(⟨#[120,b,39,32,61,32]⟩:ByteArray).data.toList,x≠0:=fun x hx=>by
  have C4:b≠0:=by
   have h1:=Q2d YH;rw[hb] at h1;injection h1 with h1 _;intro e;have h2:=Q43 (i+1) YH;rw[<-h1,e] at h2;have:(0:UInt8).toNat=0:=rfl;omega
  simp at hx;rcases hx with rfl|rfl|rfl|rfl|rfl|rfl <;> first|exact C4|decide
 have Z1:(⟨#[120,b,39,32,61,32]⟩:ByteArray).size=6:=rfl;have hs6:sv [b]=.string ⟨#[b]⟩:=rfl;rw[hs6] at P8;generalize (⟨#[120,b,39,32,61,32]⟩:ByteArray)=hB at T8 hY2 Vp Wp Z1;have hsz6:hB.size<=6:=by omega
 have H:=Xh7 h hX P8 hY2 hm Wp Z1;clear h hX P8 hY2 hm hY T8 hb Wp Z1 hs6
 go_enter Tryz.func75,Tryz.ntmps75
 go_wp2_with (go_at_call 36;refine (Xo2 H).mono ?_;rintro r w2 ⟨rfl,D0⟩;have H2:=Ua D0;clear D0)
 clear Vp
 go_loopw [6] (fun s6 wr=>Qz7 R B s (most:Int) 0 xs bad a m c p hB Y w2 s6 wr) (fun iv _=>hB.size-(intOf iv).toNat)
 case atStart=>exact ⟨0,rfl,Uu _,hp,(Xo0 H).step H2.out,Q0f.refl _ _,(Xo3 H)⟩
 case round=>
  obtain ⟨k,rfl,hk,QZ,hr,Q7,Qy⟩:=hrel
  by_cases B0:k<hB.size
  ·have E0:(k:Int)<(hB.size:Int):=(by omega);obtain ⟨q,hq⟩:∃q,p+k=q:=⟨_,rfl⟩;rw[hq] at QZ hr Qy;have h0:=hr.box.c0;have h1:=hr.box.c1;have g1:=hr.box.f1;have M9:=Q7n B0;have HR:=Xh5 hr Q7 Qy M9 hq;clear hr Q7 Qy M9 hq
   by_cases V4:q<s.size
   ·have E9:¬(s.size:Int)<=(q:Int):=(by omega);have N4:(q:Int)<(s.size:Int):=by omega
    by_cases E3:s[q]'V4=hB[k]'B0
    ·have C1:(((s[q]'V4).toNat:Int)==((hB[k]'B0).toNat:Int))=true:=(by rw[E3];simp);have T6:=Qov (Xo3 HR) (p:=q) (L:=s.data.toList) (by rw[Q2p s V4];exact E3);obtain ⟨q',hq'⟩:∃q',q+1=q':=⟨_,rfl⟩;have Q2:IntKind.i64.wrap ((q:Int)+1)=(q':Int):=(by rw[Ut];omega);have HX:=Xh3 T6 Q2 hq';clear T6 Q2 hq' E3
     go_upto_region 5 with fail
     go_quiet (fail)
     have G6:=(Xo0 HR).drewN nq;have k1:=G6.box.c1;have e1:=G6.box.f1;have Q2:=(Xo1 HX);have HF:=Ua G6;clear G6 h0 h1 g1
     go_wp2_with fail
     have r6:RSt ((wr.drewN nq).setCell ⟨R,1,none⟩ (.int .i64 (q':Int))) R B s (q':Int) (most:Int) 0 bad a m c xs:=HF.out.setAt (q':Int);refine ⟨⟨k+1,congrArg (Value.int .i64) (by omega),B0,by have:=(Xe4 HR);omega,?_,((Xo1 HR).drewN nq).trans0 (Q0g _ _ _ _),?_⟩,by simp only[intOf];omega⟩
     ·rw[show p+(k+1)=q' by have:=(Xe4 HR);have:=(Xe2 HX);omega];exact r6
     ·rw[show p+(k+1)=q+1 by have:=(Xe4 HR);omega,<-(Xo0 HX)];exact (Xo2 HR)
    ·have C1:(((s[q]'V4).toNat:Int)==((hB[k]'B0).toNat:Int))=false:=(by rw[Qda (c:=hB[k]'B0) rfl];exact UL E3);have HB:=Ua E3;clear E3
     by_cases htriv:True
     ·clear htriv;have hfe:Y=.error q:=by
       rw[<-(Xo2 HR),(Xo3 HR),Q1h,Uq (by rw[Q2p s V4];exact HB.out)]
      have J2:X=.error q:=(by rw[<-(Xo1 H),hfe]);have HX:=Ua J2;clear hfe J2
      go_upto_region 5 with fail
      go_quiet (fail)
      have G6:=(Xo0 HR).drewN nq;have k1:=G6.box.c1;have HF:=Ua G6;clear G6 h0 h1 g1
      go_wp2_with (go_at_call 120;refine (Q33 HF.out QZ hs).mono ?_;rintro r w9 ⟨rfl,t8,S6⟩;have H9:=Xh2 t8 S6;clear t8 S6)
      go_ret;exact Q1c.err HX.out ((Q0f.of_below H2.out _).trans0 ((((Xo1 HR).drewN nq).trans0 (Xe1 H9)).onN)) (Xo0 H9)
     ·exact absurd trivial htriv
   ·have E9:(s.size:Int)<=(q:Int):=by omega
    by_cases htriv:True
    ·by_cases htriv2:True
     ·clear htriv htriv2;have hfe:Y=.error q:=by
       rw[<-(Xo2 HR),(Xo3 HR),Q1h,Uq (by rw[Q3l s V4];exact fun e=>(Xo5 H) _ (Qv6 B0) e.symm)]
      have J2:X=.error q:=(by rw[<-(Xo1 H),hfe]);have HX:=Ua J2;clear hfe J2
      go_upto_region 5 with fail
      go_quiet (fail)
      have G6:=(Xo0 HR).drewN nq;have k1:=G6.box.c1;have HF:=Ua G6;clear G6 h0 h1 g1
      go_wp2_with (go_at_call 120;refine (Q33 HF.out QZ hs).mono ?_;rintro r w9 ⟨rfl,t8,S6⟩;have H9:=Xh2 t8 S6;clear t8 S6)
      go_ret;exact Q1c.err HX.out ((Q0f.of_below H2.out _).trans0 ((((Xo1 HR).drewN nq).trans0 (Xe1 H9)).onN)) (Xo0 H9)
     ·exact absurd trivial htriv2
    ·exact absurd trivial htriv
  ·have E0:¬(k:Int)<(hB.size:Int):=(by omega);obtain ⟨q,hq⟩:∃q,p+k=q:=⟨_,rfl⟩;rw[hq] at QZ hr Qy;rw[UZ (by show hB.data.toList.length<=k;have:hB.data.toList.length=hB.size:=rfl;omega),Q1h] at Qy;have X5:=Q7q hs 16 wr q 0 bad a m c xs (by decide) (by decide) hr QZ (by have:=(Xo4 H);omega);have u6:=Q6f s.data.toList most 16 q QZ;obtain ⟨Z,hZ⟩:∃Z,Q6d s.data.toList most 16 q=Z:=⟨_,rfl⟩;rw[hZ] at X5 u6;have hX0:=(Xo1 H);rw[<-Qy] at hX0;simp only[hZ] at hX0;have HE:=Xh5 X5 u6 hX0 Q7 hq;clear X5 u6 hX0 Q7 hq Qy hr hZ;cases Z with
   |error e=>
    have J2:X=.error e:=(Xo2 HE).symm;have HX:=Ua J2;clear J2
    go_wp2_with (go_at_call 121;refine (Xo0 HE).mono ?_;rintro r w5 ⟨p5,rfl,Vf⟩;have H5:=Xh2 p5 Vf;clear p5 Vf)
    go_ret;exact Q1c.err HX.out (((Q0f.of_below H2.out _).trans0 (Xo3 HE).onN).trans0 (Xo0 H5)) (Xe1 H5)
   |ok z=>
    obtain ⟨x,q2⟩:=z;have F9:q<q2/\q2<=s.size:=(Xo1 HE);obtain ⟨q3,r8⟩:∃q3,Q03 s.data.toList q2=q3:=⟨_,rfl⟩;have YU:q3<=s.size:=(by rw[<-r8];exact Q1s F9.2);have XE:=Q1m s.data.toList q2;rw[r8] at XE;have J2:(if Q06 s.data.toList q3=10 then Except.ok (x,q3+1) else Except.error q3:PR Ex)=X:=(by rw[<-(Xo2 HE)];simp only[r8]);have HX:=Xh4 J2 F9 r8 XE;clear J2 F9 r8 XE
    go_upto_region 10 with (go_at_call 121;refine (Xo0 HE).mono ?_;rintro r w5 ⟨p5,rfl,bad5,a5,m5,c5,ys5,ZN,JP,j6⟩;have H5:=Xh4 p5 ZN JP j6;clear p5 ZN JP j6)
    have X3:=Q49 (Xe3 H5) (Xo1 HX).2 hs 10 (by decide) 10 rfl;rw[(Xo2 HX)] at X3
    by_cases u9:Q06 s.data.toList q3=10
    ·have S2:X=.ok (x,q3+1):=(by rw[<-(Xo0 HX),Us u9]);rw[UU u9] at X3;obtain ⟨q4,Qr⟩:∃q4,q3+1=q4:=⟨_,rfl⟩;have hq4s:q3<s.size:=Q0e u9 (by decide);have Q2:IntKind.i64.wrap ((q3:Int)+1)=(q4:Int):=(by rw[Ut];omega);rw[Qr] at S2;have HS:=Xh4 X3 S2 Q2 Qr;clear X3 S2 Q2 Qr u9
     go_upto_region 12 with (go_at_call 122;refine (Xo0 HS).mono ?_;rintro r w6 ⟨rfl,o5,Q5⟩;have H6:=Xh2 o5 Q5;clear o5 Q5)
     have k1:=(Xo0 H6).box.c1;have e1:=(Xo0 H6).box.f1;have Q2:=(Xo2 HS)
     go_wp2_with fail
     go_ret;exact Q1c.okd (Xo1 HS) ((((Q0f.of_below H2.out _).trans0 (Xo3 HE).onN).trans0 (Xo0 H5)).trans0 (((Xe1 H6).trans0 (Q0g _ _ _ _)).onN)) (Xo1 H5) (by have:=(Xo2 H5);have:=(Xe4 HE);have:=(Xe3 HX);have:=(Xe3 HS);have:=(Xo1 HX).1;omega) ((Xo0 H6).setAt (q4:Int))
    ·have S2:X=.error q3:=(by rw[<-(Xo0 HX),Uq u9]);rw[UL u9] at X3;have HS:=Xh2 X3 S2;clear X3 S2 u9
     go_wp2_with (first
      |(go_at_call 122;refine (Xo0 HS).mono ?_;rintro r w6 ⟨rfl,o5,Q5⟩;have k1:=o5.box.c1;have H6:=Xh2 o5 Q5;clear o5 Q5)
      |(go_at_call 120;refine (Q33 (Xo0 H6) YU hs).mono ?_;rintro r w9 ⟨rfl,t8,S6⟩;have H9:=Xh2 t8 S6;clear t8 S6))
     go_ret;exact Q1c.err (Xe1 HS) ((((Q0f.of_below H2.out _).trans0 (Xo3 HE).onN).trans0 (Xo0 H5)).trans0 (((Xe1 H6).trans0 (Xe1 H9)).onN)) (Xo0 H9)
end Go.Proofs.YtdilmfakkppgpaaGreatDoor
