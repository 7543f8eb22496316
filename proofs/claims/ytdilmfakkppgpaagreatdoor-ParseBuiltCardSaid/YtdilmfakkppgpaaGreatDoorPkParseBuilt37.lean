/- Part 37 of the proof of LawParseBuilt: RRdrA, RRdrB. Condition: as each theorem says; none at the end. -/
import Derived.Test.YtdilmfakkppgpaaGreatDoorPkParseBuilt32
set_option maxRecDepth 100000
set_option maxHeartbeats 16000000
namespace Go.Proofs.YtdilmfakkppgpaaGreatDoor
open Go.RowKit WordsM DecM
theorem Qx4:(Tryz.prog.info? 170).map (fun i=>(i.zero,i.size,i.bytes))=some (some (.agg #[.int .i64 0,.int .i64 0,.string .empty]),3,32):=by kernel_rfl
theorem Qda {a c:UInt8} {k:Int} (hk:(c.toNat:Int)=k):((a.toNat:Int)==k)=decide (a=c):=by
 rw[<-hk]
 by_cases h:a=c
 ·subst h;simp
 ·rw[UL h,Ui];exact fun e=>h (TM.1 (by omega))
section
variable {w:World} {R B:Nat} {s:ByteArray} {p:Nat} {n d bad:Int} {a:OA} {m c:Nat} {xs:LV}
theorem Q33 (h:RSt w R B s (p:Int) n d bad a m c xs) {q:Nat} (hq:q<=s.size) (hs:s.size<=1000000):
 Calls Tryz.prog 120 #[.pointer (some ⟨R,0,none⟩),.int .i64 (q:Int)] w fun e w'=>e=.returned (.bool false)/\w'.cell? ⟨R,4,none⟩=some (.int .i64 (q:Int))/\Q0f (OnR R) w w':=by
 have h0:=h.box.c0;have h4:=h.box.c4;have g4:=h.box.f4;have Qz:min (q:Int) (s.size:Int)=(q:Int):=by omega
 have H:=Xh3 h hq hs;clear h hq hs
 go_enter Tryz.func120,Tryz.ntmps120
 go_wp2_with fail
 go_ret;exact ⟨rfl,((Xo0 H).setBad (q:Int)).box.c4,Q0g _ _ _ _⟩
theorem Q2l (h:RSt w R B s (p:Int) n d bad a m c xs) (hp:p<=s.size) (hs:s.size<=1000000):
 Calls Tryz.prog 159 #[.pointer (some ⟨R,0,none⟩)] w fun e w'=>e=.returned (.tuple #[])/\RSt w' R B s ((Q03 s.data.toList p:Nat):Int) n d bad a m c xs/\Q0f (OnR R) w w':=by
 obtain ⟨L,hL⟩:∃L,s.data.toList=L:=⟨_,rfl⟩;rw[hL];obtain ⟨V,hV⟩:∃V,Q03 L p=V:=⟨_,rfl⟩;rw[hV];have H:=Xh4 h hL hs hV;clear h hL hV
 go_enter Tryz.func159,Tryz.ntmps159
 go_wp2_with fail
 go_loopw [] (fun wr=>∃q:Nat,q<=s.size/\RSt wr R B s (q:Int) n d bad a m c xs/\Q03 L q=V/\Q0f (OnR R) w wr) (fun wr=>s.size-atOf wr R)
 case atStart=>exact ⟨p,hp,(Xo0 H),(Xe3 H),Q0f.refl _ _⟩
 case round=>
  obtain ⟨q,hq,hr,Wy,ht⟩:=hrel;have h0:=hr.box.c0;have h1:=hr.box.c1;have g1:=hr.box.f1;have HN:=Xh3 hr Wy ht;clear hr Wy ht
  by_cases B0:q<s.size
  ·have E0:(q:Int)<(s.size:Int):=(by omega);have hv:Q06 L q=s[q]'B0:=by rw[<-(Xo1 H)];exact Q2p s B0
   by_cases WI:s[q]'B0=32
   ·have hb:(((s[q]'B0).toNat:Int)==32)=true:=(by rw[WI];rfl);have Z0:=Q54 (s:=L) (p:=q) (by rw[hv,WI]);have Q2:IntKind.i64.wrap ((q:Int)+1)=(q:Int)+1:=(by rw[Ut];omega);have HS:=Ua Z0;clear Z0 WI hv
    go_wp2_with fail
    go_quiet (fail)
    have A1:=(Xo0 HN).drewN nq;have k1:=A1.box.c1;have e1:=A1.box.f1;have HQ:=Ua A1;clear A1
    go_wp2_with fail
    have G1:RSt ((wr.drewN nq).setCell ⟨R,1,none⟩ (.int .i64 ((q:Int)+1))) R B s ((q+1:Nat):Int) n d bad a m c xs:=HQ.out.setAt ((q:Int)+1);refine ⟨⟨q+1,B0,G1,?_,?_⟩,?_⟩
    ·rw[<-HS.out];exact (Xo1 HN)
    ·exact ((Xe2 HN).drewN nq).trans0 (Q0g _ _ _ _)
    ·rw[(Xo0 HN).box.atOf,G1.box.atOf];omega
   ·have hb:(((s[q]'B0).toNat:Int)==32)=false:=(by rw[Qda (c:=32) (k:=32) rfl];exact UL WI);have Z0:=Q5c (s:=L) (p:=q) (by rw[hv];exact WI);have Kf:q=V:=(by rw[<-(Xo1 HN),Z0]);subst Kf;clear Z0 WI hv
    go_wp2_with fail
    go_quiet (fail)
    go_wp2_with fail
    exact ⟨rfl,.tuple #[],by simp[results],rfl,(Xo0 HN).drewN _,(Xe2 HN).drewN _⟩
  ·have E0:¬(q:Int)<(s.size:Int):=(by omega);have Z0:=Q5c (s:=L) (p:=q) (by rw[<-(Xo1 H),Q3l s B0];decide);have Kf:q=V:=(by rw[<-(Xo1 HN),Z0]);subst Kf;clear Z0
   go_wp2_with fail
   go_quiet (fail)
   go_wp2_with fail
   exact ⟨rfl,.tuple #[],by simp[results],rfl,(Xo0 HN).drewN _,(Xe2 HN).drewN _⟩
theorem Q49 (h:RSt w R B s (p:Int) n d bad a m c xs) (hp:p<=s.size) (hs:s.size<=1000000) (b:UInt8) (C4:b≠0) (k:Int) (hk:(b.toNat:Int)=k):
 Calls Tryz.prog 122 #[.pointer (some ⟨R,0,none⟩),.int .u8 k] w fun e w'=>e=.returned (.bool (decide (Q06 s.data.toList (Q03 s.data.toList p)=b)))/\RSt w' R B s ((Q03 s.data.toList p:Nat):Int) n d bad a m c xs/\Q0f (OnR R) w w':=by
 have F3:=Q2l h hp hs;obtain ⟨L,hL⟩:∃L,s.data.toList=L:=⟨_,rfl⟩;rw[hL] at F3⊢;have V4:Q03 L p<=s.size:=by rw[<-hL];exact Q1s (by simpa using hp)
 obtain ⟨q,hq⟩:∃q,Q03 L p=q:=⟨_,rfl⟩;rw[hq] at F3 V4⊢;obtain ⟨V,hV⟩:∃V,decide (Q06 L q=b)=V:=⟨_,rfl⟩;rw[hV];have H:=Xh3 F3 hL hV;clear F3 h hq hp hL hV
 go_enter Tryz.func122,Tryz.ntmps122
 go_upto_region 2 with (go_at_call 159;refine (Xo0 H).mono ?_;rintro r w1 ⟨rfl,A1,Y1⟩;have h0:=A1.box.c0;have h1:=A1.box.c1;have H1:=Xh2 A1 Y1;clear A1 Y1)
 by_cases B0:q<s.size
 ·have E0:(q:Int)<(s.size:Int):=by omega
  have hv:Q06 L q=s[q]'B0:=by rw[<-(Xo1 H)];exact Q2p s B0
  have ZH:(((s[q]'B0).toNat:Int)==k)=V:=by rw[Qda hk,<-hv];exact (Xe2 H)
  clear hv
  go_quiet (fail)
  go_wp2_with fail
  go_ret;exact ⟨rfl,(Xo0 H1).drewN _,(Xe1 H1).drewN _⟩
 ·have E0:¬(q:Int)<(s.size:Int):=by omega
  have ZH:V=false:=by rw[<-(Xe2 H),<-(Xo1 H),Q3l s B0];exact UL (fun e=>C4 e.symm)
  subst ZH
  go_quiet (fail)
  go_wp2_with fail
  go_ret;exact ⟨rfl,(Xo0 H1).drewN _,(Xe1 H1).drewN _⟩
theorem Q50 (h:RSt w R B s (p:Int) n d bad a m c xs) (hp:p<=s.size) (hs:s.size<=1000000):
 Calls Tryz.prog 228 #[.pointer (some ⟨R,0,none⟩)] w fun e w'=>e=.returned (.tuple #[])/\RSt w' R B s ((Q13 s.data.toList p:Nat):Int) n d bad a m c xs/\Q0f (OnR R) w w':=by
 obtain ⟨V,hV⟩:∃V,Q13 s.data.toList p=V:=⟨_,rfl⟩;rw[hV];have H:=Xh3 h hV hs;clear h hV
 go_enter Tryz.func228,Tryz.ntmps228
 go_wp2_with fail
 go_loopw [] (fun wr=>∃q:Nat,q<=s.size/\RSt wr R B s (q:Int) n d bad a m c xs/\Q13 s.data.toList q=V/\Q0f (OnR R) w wr) (fun wr=>s.size-atOf wr R)
 case atStart=>exact ⟨p,hp,(Xo0 H),(Xo1 H),Q0f.refl _ _⟩
 case round=>
  obtain ⟨q,hq,hr,Wy,ht⟩:=hrel;have h0:=hr.box.c0;have h1:=hr.box.c1;have g1:=hr.box.f1;have HN:=Xh3 hr Wy ht;clear hr Wy ht
  by_cases B0:q<s.size
  ·have E0:(q:Int)<(s.size:Int):=by omega
   by_cases Q3:(48:Int)<=((s[q]'B0).toNat:Int)
   ·by_cases h57:((s[q]'B0).toNat:Int)<=57
    ·have Z0:=Q8k B0 ⟨by omega,by omega⟩;have Q2:IntKind.i64.wrap ((q:Int)+1)=(q:Int)+1:=(by rw[Ut];omega);have HS:=Ua Z0;clear Z0
     go_wp2_with fail
     go_quiet (fail)
     have A1:=(Xo0 HN).drewN nq;have k1:=A1.box.c1;have e1:=A1.box.f1;have HQ:=Ua A1;clear A1
     go_wp2_with fail
     have G1:RSt ((wr.drewN nq).setCell ⟨R,1,none⟩ (.int .i64 ((q:Int)+1))) R B s ((q+1:Nat):Int) n d bad a m c xs:=HQ.out.setAt ((q:Int)+1);refine ⟨⟨q+1,B0,G1,?_,?_⟩,?_⟩
     ·rw[HS.out];exact (Xo1 HN)
     ·exact ((Xe2 HN).drewN nq).trans0 (Q0g _ _ _ _)
     ·rw[(Xo0 HN).box.atOf,G1.box.atOf];omega
    ·have Z0:=Q46 (s:=s) (i:=q) (fun hi=>by omega);have Kf:q=V:=(by rw[<-(Xo1 HN),Z0]);subst Kf;clear Z0
     go_wp2_with fail
     go_quiet (fail)
     go_wp2_with fail
     exact ⟨rfl,.tuple #[],by simp[results],rfl,(Xo0 HN).drewN _,(Xe2 HN).drewN _⟩
   ·have h48d:decide ((48:Int)<=((s[q]'B0).toNat:Int))=false:=UL Q3;have Z0:=Q46 (s:=s) (i:=q) (fun hi=>by omega);have Kf:q=V:=(by rw[<-(Xo1 HN),Z0]);subst Kf;clear Z0
    go_wp2_with fail
    go_quiet (fail)
    go_wp2_with fail
    exact ⟨rfl,.tuple #[],by simp[results],rfl,(Xo0 HN).drewN _,(Xe2 HN).drewN _⟩
  ·have E0:¬(q:Int)<(s.size:Int):=(by omega);have Z0:=Q46 (s:=s) (i:=q) (fun hi=>absurd hi B0);have Kf:q=V:=(by rw[<-(Xo1 HN),Z0]);subst Kf;clear Z0
   go_wp2_with fail
   go_quiet (fail)
   go_wp2_with fail
   exact ⟨rfl,.tuple #[],by simp[results],rfl,(Xo0 HN).drewN _,(Xe2 HN).drewN _⟩
theorem Q6o (h:RSt w R B s (p:Int) n d bad a m c xs) (hm:m+1<=1000000) (k v:Int) (t:LU):
 Calls Tryz.prog 158 #[.pointer (some ⟨R,0,none⟩),.int .i64 k,.int .i64 v,sv t] w fun e w'=>e=.returned (.bool true)/\(∃a' c',RSt w' R B s (p:Int) n d bad a' (m+1) c' (xs++[.int .i64 k,.int .i64 v,sv t]))/\Q0f (OnN R B) w w':=by
 obtain ⟨i0,O1,P1,K1,J1⟩:=Q0l Qx4;have T4:Bw w (w.alloc (.cells #[.int .i64 k,.int .i64 v,sv t] 170)):=Ba;have h1:=h.step T4;obtain ⟨g6,c6,w6,R3,M1,D1,_⟩:=Q12 (P:=Tryz.prog) Quv (w.alloc (.cells #[.int .i64 k,.int .i64 v,sv t] 170)) 110 110 170 i0 _ 3 32 Tryz.underlying110 O1 P1 K1 J1 rfl (fun _ _=>trivial) B h1.bw a m c xs h1.row w.heap.size 1 1 [.int .i64 k,.int .i64 v,sv t] rfl (TA (cs:= #[.int .i64 k,.int .i64 v,sv t]) (Ul _ _)) (by intro u hu;simp at hu;rcases hu with rfl|rfl|rfl <;> rfl) (fun _ _=>trivial) (by decide) (by omega) (by decide) (by decide);have h0:=h.box.c5;have Q5:Q0f (OnN R B) w w6:=(Q0f.of_below T4 _).trans0 (Q0f.of_grown D1 fun r hr _=>by
  cases a with
  |none=>simp at hr
  |some x=>simp only[UM,Un] at hr;subst hr;exact .inr (h.new x rfl).1)
 have U2:Q8u w6 R s (p:Int) n d bad a m c:=h1.box.turn (fp:=fun k=>B<=k) (Q0f.of_grown D1 fun r hr _=>by
  cases a with
  |none=>simp at hr
  |some x=>simp only[UM,Un] at hr;subst hr;exact (h.new x rfl).1) (by have:=h.rb;omega)
 have k5:=U2.c5;have e5:=U2.f5;have H:=Xh5 h U2 M1 D1 Q5;clear h T4 h1 U2 M1 D1 Q5 O1 P1 K1 J1
 go_enter Tryz.func158,Tryz.ntmps158
 go_wp2_with (at_builtin;refine Q07 rfl (.tmp 13) (.tmp 18) 110 110 rfl _ _ rfl rfl _ _ R3 ?_)
 go_ret;obtain ⟨h,U2,M1,D1,Q5⟩:=H.out;refine ⟨rfl,⟨_,c6,U2.setOps _ _ _,h.rb,Ur h.bw (Ur Q5.size (Q0g _ _ _ _).size),M1.keep fun x hx=>?_⟩,Q5.trans0 ((Q0g _ _ _ _).onN)⟩;injection hx with hx;subst hx;have hg:B<=g6:=by
  rcases M1.1.form with ⟨h0,_⟩|⟨g,cur,h0,hB,_⟩
  ·cases h0
  ·injection h0 with h0;injection h0 with h0;subst h0;exact hB
 exact (Q0g w6 R 5 _).block _ (by
  rcases M1.1.form with ⟨h0,_⟩|⟨g,cur,h0,_,B0,_⟩
  ·cases h0
  ·injection h0 with h0;injection h0 with h0;subst h0;exact B0) (fun e=>by have e:g6=R:=e;have:=h.rb;omega)
end
def Q1c (R B:Nat) (s:ByteArray) (n d:Int) (xs:LV) (m p:Nat) (r:PR Ex) (w:World) (e:Ending) (w':World):Prop:=Q0f (OnN R B) w w'/\match r with
 | .error q=>e=.returned (.bool false)/\w'.cell? ⟨R,4,none⟩=some (.int .i64 (q:Int))
 | .ok (x,q)=>e=.returned (.bool true)/\∃bad a m' c ys,Q2g (Q1i x) ys/\m'+p<=m+q/\RSt w' R B s (q:Int) n d bad a m' c (xs++ys)
theorem Q1c.err {R B:Nat} {s:ByteArray} {n d:Int} {xs:LV} {m p q:Nat} {r:PR Ex} {w w':World} (hr:r=.error q) (ht:Q0f (OnN R B) w w') (hc:w'.cell? ⟨R,4,none⟩=some (.int .i64 (q:Int))):Q1c R B s n d xs m p r w (.returned (.bool false)) w':=by subst hr;exact ⟨ht,rfl,hc⟩
theorem Q1c.okd {R B:Nat} {s:ByteArray} {n d bad:Int} {xs ys:LV} {a:OA} {m p q m' c:Nat} {x:Ex} {r:PR Ex} {w w':World} (hr:r=.ok (x,q)) (ht:Q0f (OnN R B) w w') (ho:Q2g (Q1i x) ys) (hm:m'+p<=m+q) (h:RSt w' R B s (q:Int) n d bad a m' c (xs++ys)):Q1c R B s n d xs m p r w (.returned (.bool true)) w':=by subst hr;exact ⟨ht,rfl,bad,a,m',c,ys,ho,hm,h⟩
theorem Qv3 {S:LU} {n':Bool} {e' er:Int} {Lw:LN} (h:Q0k S n' e' Lw er) (hS:S.length<=1000000):(form S=none/\er=5)∨((er==5)=false/\∃neg v e,form S=some (neg,v,e)/\Qyo (.num (if Q69 (dy (sgn neg v) e)=true then some (dy (sgn neg v) e) else none)) (.int .i64 1) (.int .i64 0) (sv S)):=by
 unfold Q0k at h;cases hf:form S with
 |none=>rw[hf] at h;exact .inl ⟨rfl,h.2.2.2⟩
 |some z=>
  obtain ⟨neg,v,e⟩:=z;rw[hf] at h;refine .inr ⟨?_,neg,v,e,rfl,rfl,rfl,S,rfl,hS,neg,v,e,hf,rfl⟩;rcases h with ⟨_,_,_,_,rfl⟩|⟨z,_,⟨_,_,_,_,rfl⟩|⟨_,_,_,_,_,_,rfl⟩⟩ <;> rfl
theorem Qsm {w:World} {R B:Nat} {s:ByteArray} {p q most:Nat} {d bad:Int} {a:OA} {m c:Nat} {xs:LV} (h:RSt w R B s (p:Int) (most:Int) d bad a m c xs) (hp:p<=s.size) (hs:s.size<=1000000) (hm:m<=p) (hq:Q03 s.data.toList p=q) (B0:¬q<s.size) (V4:q<=s.size):
 Calls Tryz.prog 217 #[.pointer (some ⟨R,0,none⟩)] w (Q1c R B s (most:Int) d xs m p (.error q) w):=by
 have F3:=Q2l h hp hs;have u5:=Q1m s.data.toList p;rw[hq] at F3 u5;have H:=Xh3 F3 u5 hm;clear F3 u5 hm h hp hq
 go_enter Tryz.func217,Tryz.ntmps217
 have E0:(s.size:Int)<=(q:Int):=by omega
 go_upto_region 2 with (go_at_call 159;refine (Xo0 H).mono ?_;rintro r w1 ⟨rfl,A1,Y1⟩;have h0:=A1.box.c0;have h1:=A1.box.c1;have h2:=A1.box.c2;have h3:=A1.box.c3;have H1:=Xh2 A1 Y1;clear A1 Y1)
 go_quiet (fail)
 have G6:=(Xo0 H1).drewN nq;have k1:=G6.box.c1;have hfl:=Q33 G6 V4 hs;have HF:=Ua hfl;clear hfl G6
 go_wp2_with (go_at_call 120;refine HF.out.mono ?_;rintro r w2 ⟨rfl,E1,U1⟩;have H2:=Xh2 E1 U1;clear E1 U1)
 go_ret;exact Q1c.err rfl ((((Xe1 H1).drewN nq).trans0 (Xe1 H2)).onN) (Xo0 H2)
theorem Ql8 {w:World} {R B:Nat} {s:ByteArray} {p q most:Nat} {d bad:Int} {a:OA} {m c:Nat} {xs:LV} (h:RSt w R B s (p:Int) (most:Int) d bad a m c xs) (hp:p<=s.size) (hs:s.size<=1000000) (hm:m<=p) (hq:Q03 s.data.toList p=q) (B0:q<s.size) (Q3:(48:Int)<=((s[q]'B0).toNat:Int)) (h57:¬((s[q]'B0).toNat:Int)<=57) (KI:(((s[q]'B0).toNat:Int)==120)=false) (Kr:(((s[q]'B0).toNat:Int)==40)=false):
 Calls Tryz.prog 217 #[.pointer (some ⟨R,0,none⟩)] w (Q1c R B s (most:Int) d xs m p (.error q) w):=by
 have F3:=Q2l h hp hs;have u5:=Q1m s.data.toList p;rw[hq] at F3 u5;have H:=Xh3 F3 u5 hm;clear F3 u5 hm h hp hq
 go_enter Tryz.func217,Tryz.ntmps217
 have E0:¬(s.size:Int)<=(q:Int):=by omega
 have G4:(q:Int)<(s.size:Int):=by omega
 go_upto_region 2 with (go_at_call 159;refine (Xo0 H).mono ?_;rintro r w1 ⟨rfl,A1,Y1⟩;have h0:=A1.box.c0;have h1:=A1.box.c1;have h2:=A1.box.c2;have h3:=A1.box.c3;have H1:=Xh2 A1 Y1;clear A1 Y1)
 go_quiet (fail)
 go_upto_region 5 with fail
 clear h0 h1 h2 h3;refine Q2e (p:=(q:Int)) (P:=fun U=>Code.wp _ _ _ _ U) _ ⟨(Xo0 H1).drewN nq,(Xe1 H1).drewN nq⟩ fun U h0 h1 h2 h3 g1 g3 HU=>?_
 go_quiet (fail)
 have G6:=(Xo0 HU).drewN nq;have k1:=G6.box.c1;have k3:=G6.box.c3;have HR:=Ua G6;clear G6
 go_wp2_with (go_at_call 120;refine (Q33 HR.out (TI B0) hs).mono ?_;rintro r w9 ⟨rfl,t8,S6⟩;have H9:=Xh2 t8 S6;clear t8 S6)
 go_ret;exact Q1c.err rfl ((((Xe1 HU).drewN nq).trans0 (Xe1 H9)).onN) (Xo0 H9)
theorem Ql9 {w:World} {R B:Nat} {s:ByteArray} {p q most:Nat} {d bad:Int} {a:OA} {m c:Nat} {xs:LV} (h:RSt w R B s (p:Int) (most:Int) d bad a m c xs) (hp:p<=s.size) (hs:s.size<=1000000) (hm:m<=p) (hq:Q03 s.data.toList p=q) (B0:q<s.size) (h48d:decide ((48:Int)<=((s[q]'B0).toNat:Int))=false) (KI:(((s[q]'B0).toNat:Int)==120)=false) (Kr:(((s[q]'B0).toNat:Int)==40)=false):
 Calls Tryz.prog 217 #[.pointer (some ⟨R,0,none⟩)] w (Q1c R B s (most:Int) d xs m p (.error q) w):=by
 have F3:=Q2l h hp hs;have u5:=Q1m s.data.toList p;rw[hq] at F3 u5;have H:=Xh3 F3 u5 hm;clear F3 u5 hm h hp hq
 go_enter Tryz.func217,Tryz.ntmps217
 have E0:¬(s.size:Int)<=(q:Int):=by omega
 have G4:(q:Int)<(s.size:Int):=by omega
 go_upto_region 2 with (go_at_call 159;refine (Xo0 H).mono ?_;rintro r w1 ⟨rfl,A1,Y1⟩;have h0:=A1.box.c0;have h1:=A1.box.c1;have h2:=A1.box.c2;have h3:=A1.box.c3;have H1:=Xh2 A1 Y1;clear A1 Y1)
 go_quiet (fail)
 go_upto_region 5 with fail
 clear h0 h1 h2 h3;refine Q2e (p:=(q:Int)) (P:=fun U=>Code.wp _ _ _ _ U) _ ⟨(Xo0 H1).drewN nq,(Xe1 H1).drewN nq⟩ fun U h0 h1 h2 h3 g1 g3 HU=>?_
 go_quiet (fail)
 have G6:=(Xo0 HU).drewN nq;have k1:=G6.box.c1;have k3:=G6.box.c3;have HR:=Ua G6;clear G6
 go_wp2_with (go_at_call 120;refine (Q33 HR.out (TI B0) hs).mono ?_;rintro r w9 ⟨rfl,t8,S6⟩;have H9:=Xh2 t8 S6;clear t8 S6)
 go_ret;exact Q1c.err rfl ((((Xe1 HU).drewN nq).trans0 (Xe1 H9)).onN) (Xo0 H9)
theorem Qor {w:World} {R B:Nat} {s:ByteArray} {p q most:Nat} {d bad:Int} {a:OA} {m c:Nat} {xs:LV} (h:RSt w R B s (p:Int) (most:Int) d bad a m c xs) (hp:p<=s.size) (hs:s.size<=1000000) (hm:m<=p) (hq:Q03 s.data.toList p=q) (B0:q<s.size) (hv:((s[q]'B0).toNat:Int)=40) (hd:(d==16)=true):
 Calls Tryz.prog 217 #[.pointer (some ⟨R,0,none⟩)] w (Q1c R B s (most:Int) d xs m p (.error q) w):=by
 have F3:=Q2l h hp hs;have u5:=Q1m s.data.toList p;rw[hq] at F3 u5;have H:=Xh3 F3 u5 hm;clear F3 u5 hm h hp hq
 go_enter Tryz.func217,Tryz.ntmps217
 have E0:¬(s.size:Int)<=(q:Int):=by omega
 have G4:(q:Int)<(s.size:Int):=by omega
 go_upto_region 2 with (go_at_call 159;refine (Xo0 H).mono ?_;rintro r w1 ⟨rfl,A1,Y1⟩;have h0:=A1.box.c0;have h1:=A1.box.c1;have h2:=A1.box.c2;have h3:=A1.box.c3;have H1:=Xh2 A1 Y1;clear A1 Y1)
 go_quiet (fail)
 go_upto_region 5 with fail
 clear h0 h1 h2 h3;refine Q2e (p:=(q:Int)) (P:=fun U=>Code.wp _ _ _ _ U) _ ⟨(Xo0 H1).drewN nq,(Xe1 H1).drewN nq⟩ fun U h0 h1 h2 h3 g1 g3 HU=>?_
 go_quiet (fail)
 have G6:=(Xo0 HU).drewN nq;have k1:=G6.box.c1;have k3:=G6.box.c3;have HR:=Ua G6;clear G6
 go_wp2_with (go_at_call 120;refine (Q33 HR.out (TI B0) hs).mono ?_;rintro r w9 ⟨rfl,t8,S6⟩;have H9:=Xh2 t8 S6;clear t8 S6)
 go_ret;exact Q1c.err rfl ((((Xe1 HU).drewN nq).trans0 (Xe1 H9)).onN) (Xo0 H9)
theorem Qsn {w:World} {R B:Nat} {s:ByteArray} {p q most:Nat} {d bad:Int} {a:OA} {m c:Nat} {xs:LV} (h:RSt w R B s (p:Int) (most:Int) d bad a m c xs) (hp:p<=s.size) (hs:s.size<=1000000) (hm:m<=p) (hq:Q03 s.data.toList p=q) (t:Nat) (Xs:q+1=t) (B0:q<s.size) (hv:((s[q]'B0).toNat:Int)=120) (X:PR Ex)
 (hc:(∃t6:t<s.size,¬((s[t]'t6).toNat:Int)<49/\¬(most:Int)<((s[t]'t6).toNat:Int)-48/\∃u,t+1=u/\X=.ok (.var ((s[t]'t6).toNat-49),u))∨(¬t<s.size/\X=.error t)∨(∃t6:t<s.size,((s[t]'t6).toNat:Int)<49/\X=.error t)∨∃t6:t<s.size,¬((s[t]'t6).toNat:Int)<49/\(most:Int)<((s[t]'t6).toNat:Int)-48/\X=.error t):
 Calls Tryz.prog 217 #[.pointer (some ⟨R,0,none⟩)] w (Q1c R B s (most:Int) d xs m p X w):=by
 have F3:=Q2l h hp hs;have u5:=Q1m s.data.toList p;rw[hq] at F3 u5;have H:=Xh4 F3 u5 hm Xs;have Q2:IntKind.i64.wrap ((q:Int)+1)=(t:Int):=by rw[Ut];omega
 have HT:=Ua Q2;clear Q2 Xs F3 u5 hm h hp hq;have HC:=Ua hc;clear hc
 go_enter Tryz.func217,Tryz.ntmps217
 have E0:¬(s.size:Int)<=(q:Int):=by omega
 have G4:(q:Int)<(s.size:Int):=by omega
 go_upto_region 2 with (go_at_call 159;refine (Xo0 H).mono ?_;rintro r w1 ⟨rfl,A1,Y1⟩;have h0:=A1.box.c0;have h1:=A1.box.c1;have h2:=A1.box.c2;have h3:=A1.box.c3;have H1:=Xh2 A1 Y1;clear A1 Y1)
 go_quiet (fail)
 go_upto_region 5 with fail
 clear h0 h1 h2 h3;refine Q2e (p:=(q:Int)) (P:=fun U=>Code.wp _ _ _ _ U) _ ⟨(Xo0 H1).drewN nq,(Xe1 H1).drewN nq⟩ fun U h0 h1 h2 h3 g1 g3 HU=>?_
 go_quiet (fail)
 have G6:=(Xo0 HU).drewN nq;have k1:=G6.box.c1;have e1:=G6.box.f1;have HR:=Xh2 G6 ((Xe1 HU).drewN nq);have Q2:=HT.out;clear G6 h0 h1 h2 h3 g1 g3
 go_upto_region 20 with fail
 have r6:RSt ((U.drewN nq).setCell ⟨R,1,none⟩ (.int .i64 (t:Int))) R B s (t:Int) (most:Int) d bad a m c xs:=(Xo0 HR).setAt (t:Int);clear Q2 k1 e1;refine Q2e (p:=(t:Int)) (P:=fun U=>Code.wp _ _ _ _ U) _ ⟨r6,(Xe1 HR).trans0 (Q0g _ _ _ _)⟩ fun V h0 h1 h2 h3 g1 g3 HV=>?_;clear r6;rcases HC.out with ⟨t6,h49,E7,u,htu,hX⟩|⟨t6,hX⟩|⟨t6,h49,hX⟩|⟨t6,h49,E7,hX⟩
 ·have E8:IntKind.i64.wrap ((t:Int)+1)=(u:Int):=by rw[Ut];omega
  have Zq:=Xh2 E8 htu;clear E8 htu;subst hX;have hlv':¬(s.size:Int)<=(t:Int):=by omega
  have hlv2:(t:Int)<(s.size:Int):=by omega
  have hwx:IntKind.u8.wrap (((s[t]'t6).toNat:Int)-48)=((s[t]'t6).toNat:Int)-48:=by rw[Xat];have:=(s[t]'t6).toNat_lt;omega
  have KQ:IntKind.i64.wrap (((s[t]'t6).toNat:Int)-48)=((s[t]'t6).toNat:Int)-48:=by rw[Ut];have:=(s[t]'t6).toNat_lt;omega
  have hwy:IntKind.u8.wrap (((s[t]'t6).toNat:Int)-49)=((s[t]'t6).toNat:Int)-49:=by rw[Xat];have:=(s[t]'t6).toNat_lt;omega
  have hwj:IntKind.i64.wrap (((s[t]'t6).toNat:Int)-49)=((s[t]'t6).toNat:Int)-49:=by rw[Ut];have:=(s[t]'t6).toNat_lt;omega
  go_quiet (fail)
  have y7:=(Xo0 HV).drewN nq;have VQ:=(Xe1 HV).drewN nq
  go_upto_region 22 with fail
  clear h0 h1 h2 h3 g1 g3;refine Q2e (p:=(t:Int)) (P:=fun U=>Code.wp _ _ _ _ U) _ ⟨y7,VQ⟩ fun Y h0 h1 h2 h3 g1 g3 HY=>?_;clear y7 VQ
  go_quiet (fail)
  have Ym:=(Xo0 HY).drewN nq;have m1:=Ym.box.c1;have n1:=Ym.box.f1;have HW:=Xh2 Ym ((Xe1 HY).drewN nq);have E8:=(Xo0 Zq);clear Ym h0 h1 h2 h3 g1 g3
  go_upto_region 24 with fail
  have j6:RSt ((Y.drewN nq).setCell ⟨R,1,none⟩ (.int .i64 (u:Int))) R B s (u:Int) (most:Int) d bad a m c xs:=(Xo0 HW).setAt (u:Int);clear E8 m1 n1;refine Q2e (p:=(u:Int)) (P:=fun U=>Code.wp _ _ _ _ U) _ ⟨j6,(Xe1 HW).trans0 (Q0g _ _ _ _)⟩ fun Z h0 h1 h2 h3 g1 g3 HZ=>?_;clear j6;have Jc:=Q6o (Xo0 HZ) (by have:=(Xo1 H);have:=(Xe2 H);omega) 2 (((s[t]'t6).toNat:Int)-49) [];have HE:=Ua Jc;clear Jc
  go_wp2_with (go_at_call 158;refine HE.out.mono ?_;rintro r w9 ⟨rfl,b8,S6⟩;have H9:=Xh2 b8 S6;clear b8 S6)
  go_ret;obtain ⟨a9,c9,b8⟩:=(Xo0 H9);exact Q1c.okd rfl ((Xe1 HZ).onN.trans0 (Xe1 H9)) (Q2g.one ⟨rfl,congrArg (Value.int .i64) (by omega),rfl⟩) (by have:=(Xe1 H);have:=(Xe1 Zq);omega) b8
 have hlv':(s.size:Int)<=(t:Int):=by omega
 go_quiet (fail)
 rotate_left
 have hlv':¬(s.size:Int)<=(t:Int):=by omega
 have hlv2:(t:Int)<(s.size:Int):=by omega
 go_quiet (fail)
 rotate_left
 have hlv':¬(s.size:Int)<=(t:Int):=by omega
 have hlv2:(t:Int)<(s.size:Int):=by omega
 have hwx:IntKind.u8.wrap (((s[t]'t6).toNat:Int)-48)=((s[t]'t6).toNat:Int)-48:=by rw[Xat];have:=(s[t]'t6).toNat_lt;omega
 have KQ:IntKind.i64.wrap (((s[t]'t6).toNat:Int)-48)=((s[t]'t6).toNat:Int)-48:=by rw[Ut];have:=(s[t]'t6).toNat_lt;omega
 go_quiet (fail)
 all_goals
  subst hX;have y7:=(Xo0 HV).drewN nq;have m1:=y7.box.c1;have HW:=Ua y7;clear y7 h0 h1 h2 h3 g1 g3
  go_wp2_with (go_at_call 120;refine (Q33 HW.out (by have:=(Xe3 H);omega) hs).mono ?_;rintro r w9 ⟨rfl,t8,S6⟩;have H9:=Xh2 t8 S6;clear t8 S6)
  go_ret;exact Q1c.err rfl ((((Xe1 HV).drewN nq).trans0 (Xe1 H9)).onN) (Xo0 H9)
theorem Qso {w:World} {R B:Nat} {s:ByteArray} {p q most:Nat} {d bad:Int} {a:OA} {m c:Nat} {xs:LV} (h:RSt w R B s (p:Int) (most:Int) d bad a m c xs) (hp:p<=s.size) (hs:s.size<=1000000) (hm:m<=p) (hq:Q03 s.data.toList p=q) (t N:Nat) (ht:Q13 s.data.toList q=t) (hN:Q8g s.data.toList q=N) (B0:q<s.size) (Q3:(48:Int)<=((s[q]'B0).toNat:Int)) (h57:((s[q]'B0).toNat:Int)<=57)
 (hc:(¬t<s.size/\t=N)∨(∃Z5:t<s.size,(((s[t]'Z5).toNat:Int)==112)=false/\t=N)∨∃x,t+1=x/\∃Z5:t<s.size,((s[t]'Z5).toNat:Int)=112/\((¬x<s.size/\x<=s.size/\Q13 s.data.toList x=N)∨(∃J3:x<s.size,(((s[x]'J3).toNat:Int)==45)=false/\Q13 s.data.toList x=N)∨∃y,x+1=y/\∃J3:x<s.size,((s[x]'J3).toNat:Int)=45/\Q13 s.data.toList y=N)):
 Calls Tryz.prog 217 #[.pointer (some ⟨R,0,none⟩)] w (Q1c R B s (most:Int) d xs m p (Qg0 s.data.toList q) w):=by
 have hqs':q<=s.data.toList.length:=TI B0;have K4:=Q8f hqs';have Q8:=Qqk hqs';rw[ht] at K4 Q8;rw[hN] at Q8;have hls:s.data.toList.length=s.size:=rfl;rw[hls] at K4 Q8;obtain ⟨u,hu⟩:∃u:ByteArray,s.extract q N=u:=⟨_,rfl⟩;have Kl:u.data.toList=(s.data.toList.drop q).take (N-q):=by rw[<-hu];simp only[ByteArray.data_extract,Array.toList_extract,List.extract_eq_take_drop]
 have Wd:u.size<=1000000:=by rw[<-hu,ByteArray.size_extract];omega
 have hnp:Qg0 s.data.toList q=(match form u.data.toList with|none=>.error q|some (neg,v,e)=>.ok (.num (if Q69 (dy (sgn neg v) e)=true then some (dy (sgn neg v) e) else none),N)):=by unfold Qg0;rw[hN,Kl];rfl
 have Xs:q<t:=by
  have h1:48<=(s[q]'B0).toNat/\(s[q]'B0).toNat<=57:=by omega
  have h2:=Q8k B0 h1;have h3:=(Q8f (s:=s.data.toList) (p:=q+1) B0).1;rw[h2,ht] at h3;exact h3
 rw[hnp];obtain ⟨X,hX⟩:∃X,(match form u.data.toList with|none=>Except.error q|some (neg,v,e)=>Except.ok (Ex.num (if Q69 (dy (sgn neg v) e)=true then some (dy (sgn neg v) e) else none),N):PR Ex)=X:=⟨_,rfl⟩;have F3:=Q2l h hp hs;have u5:=Q1m s.data.toList p;rw[hq] at F3 u5;have HC:=Ua hc;clear hc;have H:=Xh10 F3 u5 hm hu Wd hX ht Xs K4 Q8;rw[hX];clear F3 u5 hm h hp hq hu Wd hX hnp ht hN K4 Q8 Kl hqs' hls Xs
 go_enter Tryz.func217,Tryz.ntmps217
 have E0:¬(s.size:Int)<=(q:Int):=by omega
 have G4:(q:Int)<(s.size:Int):=by omega
 go_upto_region 2 with (go_at_call 159;refine (Xo0 H).mono ?_;rintro r w1 ⟨rfl,A1,Y1⟩;have h0:=A1.box.c0;have h1:=A1.box.c1;have h2:=A1.box.c2;have h3:=A1.box.c3;have H1:=Xh2 A1 Y1;clear A1 Y1)
 go_quiet (fail)
 go_upto_region 5 with fail
 clear h0 h1 h2 h3;refine Q2e (p:=(q:Int)) (P:=fun U=>Code.wp _ _ _ _ U) _ ⟨(Xo0 H1).drewN nq,(Xe1 H1).drewN nq⟩ fun U h0 h1 h2 h3 g1 g3 HU=>?_
 go_quiet (fail)
 go_upto_region 8 with (go_at_call 228;refine (Q50 ((Xo0 HU).drewN _) (TI B0) hs).mono ?_;rw[(Xo6 H)];rintro r w3 ⟨rfl,r6,T5⟩;have H3:=Xh2 r6 (((Xe1 HU).drewN _).trans0 T5);clear r6 T5)
 clear h0 h1 h2 h3 g1 g3;refine Q2e (p:=(t:Int)) (P:=fun U=>Code.wp _ _ _ _ U) _ H3.out fun V h0 h1 h2 h3 g1 g3 HV=>?_;rcases HC.out with ⟨Z5,hNt⟩|⟨Z5,C1,hNt⟩|⟨x,hx,Z5,Xa,Y2⟩;have HN:=Ua hNt;clear hNt;have htl':¬(t:Int)<(s.size:Int):=by omega
 go_quiet (fail)
 have y7:=(Xo0 HV).drewN nq;have VQ:=(Xe1 HV).drewN nq
 go_upto_region 13 with fail
 clear h0 h1 h2 h3 g1 g3;refine Q2e (p:=(N:Int)) (P:=fun U=>Code.wp _ _ _ _ U) _ ⟨HN.out ▸ y7,VQ⟩ fun W h0 h1 h2 h3 g1 g3 HW=>?_;clear y7 VQ
 rotate_left
 have HN:=Ua hNt;clear hNt;have htl':(t:Int)<(s.size:Int):=by omega
 go_quiet (fail)
 have y7:=(Xo0 HV).drewN nq;have VQ:=(Xe1 HV).drewN nq
 go_upto_region 13 with fail
 clear h0 h1 h2 h3 g1 g3;refine Q2e (p:=(N:Int)) (P:=fun U=>Code.wp _ _ _ _ U) _ ⟨HN.out ▸ y7,VQ⟩ fun W h0 h1 h2 h3 g1 g3 HW=>?_;clear y7 VQ
 rotate_left
 have HX:=Ua hx;clear hx;have htl':(t:Int)<(s.size:Int):=by omega
 go_quiet (fail)
 have I9:=(Xo0 HV).drewN nq;have k1:=I9.box.c1;have e1:=I9.box.f1;have HRP:=Xh2 I9 ((Xe1 HV).drewN nq);have Q2:IntKind.i64.wrap ((t:Int)+1)=(x:Int):=by rw[Ut];have:=HX.out;omega
 clear I9 h0 h1 h2 h3 g1 g3
 go_upto_region 10 with fail
 have D5:RSt (_) R B s (x:Int) (most:Int) d bad a m c xs:=(Xo0 HRP).setAt (x:Int);have F6:=(Xe1 HRP).trans0 (Q0g _ R 1 (.int .i64 (x:Int)));clear Q2 k1 e1;refine Q2e (p:=(x:Int)) (P:=fun U=>Code.wp _ _ _ _ U) _ ⟨D5,F6⟩ fun P h0 h1 h2 h3 g1 g3 HP=>?_;clear D5 F6;rcases Y2 with ⟨J3,VM,hNx⟩|⟨J3,C1,hNx⟩|⟨y,hy,J3,Z6,hNx⟩;have HN:=Ua hNx;clear hNx;have hxl':¬(x:Int)<(s.size:Int):=by omega
 go_quiet (fail)
 go_upto_region 13 with (go_at_call 228;refine (Q50 ((Xo0 HP).drewN _) VM hs).mono ?_;rw[HN.out];rintro r w5 ⟨rfl,j6,p5⟩;have H5:=Xh2 j6 (((Xe1 HP).drewN _).trans0 p5);clear j6 p5)
 clear h0 h1 h2 h3 g1 g3;refine Q2e (p:=(N:Int)) (P:=fun U=>Code.wp _ _ _ _ U) _ H5.out fun W h0 h1 h2 h3 g1 g3 HW=>?_
 rotate_left
 have HN:=Ua hNx;clear hNx;have hxl':(x:Int)<(s.size:Int):=by omega
 go_quiet (fail)
 go_upto_region 13 with (go_at_call 228;refine (Q50 ((Xo0 HP).drewN _) (TI J3) hs).mono ?_;rw[HN.out];rintro r w5 ⟨rfl,j6,p5⟩;have H5:=Xh2 j6 (((Xe1 HP).drewN _).trans0 p5);clear j6 p5)
 clear h0 h1 h2 h3 g1 g3;refine Q2e (p:=(N:Int)) (P:=fun U=>Code.wp _ _ _ _ U) _ H5.out fun W h0 h1 h2 h3 g1 g3 HW=>?_
 rotate_left
 have HN:=Ua hNx;have HY0:=Ua hy;clear hNx hy;have hxl':(x:Int)<(s.size:Int):=by omega
 go_quiet (fail)
 have I9:=(Xo0 HP).drewN nq;have k1:=I9.box.c1;have e1:=I9.box.f1;have HRQ:=Xh2 I9 ((Xe1 HP).drewN nq);have Q2:IntKind.i64.wrap ((x:Int)+1)=(y:Int):=by rw[Ut];have:=HY0.out;omega
 clear I9 h0 h1 h2 h3 g1 g3
 go_upto_region 12 with fail
 have D5:RSt (_) R B s (y:Int) (most:Int) d bad a m c xs:=(Xo0 HRQ).setAt (y:Int);have F6:=(Xe1 HRQ).trans0 (Q0g _ R 1 (.int .i64 (y:Int)));clear Q2 k1 e1;refine Q2e (p:=(y:Int)) (P:=fun U=>Code.wp _ _ _ _ U) _ ⟨D5,F6⟩ fun M h0 h1 h2 h3 g1 g3 HM=>?_;clear D5 F6
 go_upto_region 13 with (go_at_call 228;refine (Q50 (Xo0 HM) (by have:=HY0.out;omega) hs).mono ?_;rw[HN.out];rintro r w5 ⟨rfl,j6,p5⟩;have H5:=Xh2 j6 (((Xe1 HM)).trans0 p5);clear j6 p5)
 clear h0 h1 h2 h3 g1 g3;refine Q2e (p:=(N:Int)) (P:=fun U=>Code.wp _ _ _ _ U) _ H5.out fun W h0 h1 h2 h3 g1 g3 HW=>?_
 all_goals
  have hqN:(q:Int)<=(N:Int):=by have:=(Xe6 H);omega
  have hNs:(N:Int)<=(s.size:Int):=by have:=(Xe6 H);omega
  have hu:=(Xo3 H)
  go_quiet (fail)
  have Wm:=(Xo0 HW).drewN nq;have VY:=(Xe1 HW).drewN nq
  go_upto_region 14 with fail
  clear h0 h1 h2 h3 g1 g3 hu;refine Q2e (p:=(N:Int)) (P:=fun U=>Code.wp _ _ _ _ U) _ ⟨Wm,VY⟩ fun Y h0 h1 h2 h3 g1 g3 HY=>?_;clear Wm VY
  go_upto_region 15 with (go_at_call 123;refine (Q7o u Y (by have:=(Xo4 H);omega)).mono ?_;rintro r w6 ⟨n',e',a',l',c',Lw,er,rfl,JK,hww,U2⟩;have H6:=Xh2 JK U2;clear JK hww U2)
  rcases Qv3 (Xo0 H6) (Xo4 H) with ⟨hf,rfl⟩|⟨WH,neg,v,e,hf,QF⟩
  ·have J2:X=.error q:=(by rw[<-(Xo5 H),hf]);have HX:=Ua J2;clear J2 hf;refine Qaz (Φ:=fun U=>RSt U R B s (N:Int) (most:Int) d bad a m c xs/\Q0f (OnR R) w U) (P:=fun U=>Code.wp _ _ _ _ U) _ ⟨((Xo0 HY).step (Xe1 H6)).step (Ba),((Xe1 HY).trans0 (Q0f.of_below (Xe1 H6) _)).trans0 (Q0f.of_below (Ba) _)⟩ ?_;intro Z hZ;have HZ:=Ua hZ;clear hZ h0 h1 h2 h3 g1 g3
   go_wp2_with (go_at_call 120;refine (Q33 (Xo0 HZ) (TI B0) hs).mono ?_;rintro r w9 ⟨rfl,t8,S6⟩;have H9:=Xh2 t8 S6;clear t8 S6)
   go_ret;exact Q1c.err HX.out (((Xe1 HZ).trans0 (Xe1 H9)).onN) (Xo0 H9)
  ·have J2:X=.ok (.num (if Q69 (dy (sgn neg v) e)=true then some (dy (sgn neg v) e) else none),N):=(by rw[<-(Xo5 H),hf]);have HX:=Xh2 J2 QF;clear J2 hf QF;refine Qaz (Φ:=fun U=>RSt U R B s (N:Int) (most:Int) d bad a m c xs/\Q0f (OnR R) w U) (P:=fun U=>Code.wp _ _ _ _ U) _ ⟨((Xo0 HY).step (Xe1 H6)).step (Ba),((Xe1 HY).trans0 (Q0f.of_below (Xe1 H6) _)).trans0 (Q0f.of_below (Ba) _)⟩ ?_;intro Z hZ;have Jc:=Q6o hZ.1 (by have:=(Xe1 H);omega) 1 0 u.data.toList;have HE:=Xh2 Jc hZ;clear hZ h0 h1 h2 h3 g1 g3 Jc
   go_wp2_with (go_at_call 158;refine (Xo0 HE).mono ?_;rintro r w9 ⟨rfl,b8,S6⟩;have H9:=Xh2 b8 S6;clear b8 S6)
   go_ret;obtain ⟨a9,c9,b8⟩:=(Xo0 H9);exact Q1c.okd (Xo0 HX) ((Xe2 HE).onN.trans0 (Xe1 H9)) (Q2g.one (Xe1 HX)) (by have:=(Xe1 H);omega) b8
theorem Qos {w:World} {R B:Nat} {s:ByteArray} {p q most:Nat} {d bad:Int} {a:OA} {m c:Nat} {xs:LV} (h:RSt w R B s (p:Int) (most:Int) d bad a m c xs) (hp:p<=s.size) (hs:s.size<=1000000) (hm:m<=p) (hq:Q03 s.data.toList p=q) (t:Nat) (Xs:q+1=t) (B0:q<s.size) (hv:((s[q]'B0).toNat:Int)=40) (hd:(d==16)=false) (K2:0<=d) (M2:d<16) (sub:Nat->PR Ex) (O5:∀q,q<=s.size->Q4o s.data.toList q (sub q)) (X5:∀W q bad a m c xs,RSt W R B s ((q:Nat):Int) (most:Int) (d+1) bad a m c xs->q<=s.size->m<=q->Calls Tryz.prog 121 #[.pointer (some ⟨R,0,none⟩)] W (Q1c R B s (most:Int) (d+1) xs m q (sub q) W)):
 Calls Tryz.prog 217 #[.pointer (some ⟨R,0,none⟩)] w (Q1c R B s (most:Int) d xs m p (match sub t with| .error e=>.error e| .ok (x,q2)=>if Q06 s.data.toList (Q03 s.data.toList q2)=41 then .ok (x,Q03 s.data.toList q2+1) else .error (Q03 s.data.toList q2)) w):=by
 obtain ⟨X,hX⟩:∃X,(match sub t with| .error e=>Except.error e| .ok (x,q2)=>if Q06 s.data.toList (Q03 s.data.toList q2)=41 then Except.ok (x,Q03 s.data.toList q2+1) else Except.error (Q03 s.data.toList q2):PR Ex)=X:=⟨_,rfl⟩;rw[hX];have u6:=O5 t (by omega);have F3:=Q2l h hp hs;have u5:=Q1m s.data.toList p;rw[hq] at F3 u5;have Kq:IntKind.i64.wrap (d+1)=d+1:=by rw[Ut];omega
 have hwb:wrap64 d=d:=by unfold wrap64;omega
 have Q2:IntKind.i64.wrap ((q:Int)+1)=(t:Int):=by rw[Ut];omega
 have H:=Xh10 F3 u5 hm hX u6 X5 Kq hwb Q2 Xs;clear F3 u5 hm h hp hq hX u6 X5 Kq hwb Q2 Xs O5 K2 M2
 go_enter Tryz.func217,Tryz.ntmps217
 have E0:¬(s.size:Int)<=(q:Int):=by omega
 have G4:(q:Int)<(s.size:Int):=by omega
 go_upto_region 2 with (go_at_call 159;refine (Xo0 H).mono ?_;rintro r w1 ⟨rfl,A1,Y1⟩;have h0:=A1.box.c0;have h1:=A1.box.c1;have h2:=A1.box.c2;have h3:=A1.box.c3;have H1:=Xh2 A1 Y1;clear A1 Y1)
 go_quiet (fail)
 go_upto_region 5 with fail
 clear h0 h1 h2 h3;refine Q2e (p:=(q:Int)) (P:=fun U=>Code.wp _ _ _ _ U) _ ⟨(Xo0 H1).drewN nq,(Xe1 H1).drewN nq⟩ fun U h0 h1 h2 h3 g1 g3 HU=>?_
 go_quiet (fail)
 go_upto_region 28 with fail
 have hru:=(Xo0 HU).drewN nq;have k3:=hru.box.c3;have e3:=hru.box.f3;have Kq:=(Xo6 H);have B2:=hru.setDeep (d+1);have Y1:=((Xe1 HU).drewN nq).trans0 (Q0g _ R 3 (.int .i64 (d+1)));have HQ:=Xh2 B2 Y1;clear hru B2 Y1 h0 h1 h2 h3 g1 g3
 go_upto_region 29 with fail
 refine Qaz (Φ:=fun U=>RSt U R B s (q:Int) (most:Int) (d+1) bad a m c xs/\Q0f (OnR R) w U) (P:=fun U=>Code.wp _ _ _ _ U) _ HQ.out ?_;clear Kq k3 e3;intro V hV;have h1:=hV.1.box.c1;have g1:=hV.1.box.f1;have Q2:=(Xo8 H);have HV:=Xh2 (hV.1.setAt (t:Int)) (hV.2.trans0 (Q0g _ R 1 (.int .i64 (t:Int))));clear hV
 go_upto_region 30 with fail
 refine Qaz (Φ:=fun U=>RSt U R B s (t:Int) (most:Int) (d+1) bad a m c xs/\Q0f (OnR R) w U) (P:=fun U=>Code.wp _ _ _ _ U) _ HV.out ?_;clear Q2 h1 g1;intro Y hY;have X5:=(Xo5 H) Y t bad a m c xs hY.1 (by have:=(Xe9 H);omega) (by have:=(Xe1 H);omega);have HY:=Xh2 hY.2 X5;clear hY X5;obtain ⟨Z,hZ⟩:∃Z,sub t=Z:=⟨_,rfl⟩;cases Z with
 |error e=>
  have J2:X=.error e:=by rw[<-(Xo3 H),hZ]
  have HX:=Xh2 J2 hZ;clear J2 hZ
  go_wp2_with (go_at_call 121;refine (Xe1 HY).mono ?_;rw[(Xe1 HX)];rintro r w5 ⟨p5,rfl,Vf⟩;have H5:=Xh2 p5 Vf;clear p5 Vf)
  go_ret;exact Q1c.err (Xo0 HX) ((Xo0 HY).onN.trans0 (Xo0 H5)) (Xe1 H5)
 |ok z=>
  obtain ⟨x,q2⟩:=z;have u6:t<q2/\q2<=s.size:=by have:=(Xo4 H);rw[hZ] at this;exact this
  have r8:Q03 s.data.toList q2<=s.size:=Q1s u6.2;have XE:=Q1m s.data.toList q2;obtain ⟨q3,Y8⟩:∃q3,Q03 s.data.toList q2=q3:=⟨_,rfl⟩;have J2:X=if Q06 s.data.toList q3=41 then .ok (x,q3+1) else .error q3:=by rw[<-(Xo3 H),hZ];simp only[Y8]
  rw[Y8] at r8 XE;have HX:=Xh6 J2 hZ u6 r8 XE Y8;clear J2 hZ u6 r8 XE Y8
  go_upto_region 32 with (go_at_call 121;refine (Xe1 HY).mono ?_;rw[(Xo1 HX)];rintro r w5 ⟨p5,rfl,bad5,a5,m5,c5,ys,ZN,JP,j6⟩;have H5:=Xh4 p5 ZN JP j6;clear p5 ZN JP j6)
  by_cases h41:Q06 s.data.toList q3=41
  ·have S2:X=.ok (x,q3+1):=(by rw[(Xo0 HX),Us h41]);have Qr:=Q0e h41 (by decide);have Qr:q3+1<=s.size:=Qr;obtain ⟨q4,hq4e⟩:∃q4,q3+1=q4:=⟨_,rfl⟩;rw[hq4e] at S2 Qr;have Q2:IntKind.i64.wrap ((q3:Int)+1)=(q4:Int):=(by rw[Ut];omega);have X3:=Q49 (Xe3 H5) (Xo2 HX).2 hs 41 (by decide) 41 rfl;rw[(Xe5 HX),UU h41] at X3;have HS:=Xh4 X3 S2 Q2 hq4e;clear X3 S2 Q2 hq4e h41 Qr
   go_upto_region 34 with (go_at_call 122;refine (Xo0 HS).mono ?_;rintro r w6 ⟨rfl,o5,Q5⟩;have H6:=Xh2 o5 Q5;clear o5 Q5)
   have k1:=(Xo0 H6).box.c1;have e1:=(Xo0 H6).box.f1;have Q2:=(Xo2 HS);have HV6:=Xh2 ((Xo0 H6).setAt (q4:Int)) ((Xe1 H6).trans0 (Q0g _ R 1 (.int .i64 (q4:Int))))
   go_upto_region 35 with fail
   refine Qaz (Φ:=fun U=>RSt U R B s (q4:Int) (most:Int) (d+1) bad5 a5 m5 c5 (xs++ys)/\Q0f (OnR R) w5 U) (P:=fun U=>Code.wp _ _ _ _ U) _ HV6.out ?_;clear Q2 k1 e1;intro M hM;have k3:=hM.1.box.c3;have e3:=hM.1.box.f3;have hwb:=(Xo7 H);have HM:=Xh2 (hM.1.setDeep d) (hM.2.trans0 (Q0g _ R 3 (.int .i64 d)));clear hM
   go_wp2_with fail
   go_ret;exact Q1c.okd (Xo1 HS) (((Xo0 HY).onN.trans0 (Xo0 H5)).trans0 (Xe1 HM).onN) (Xo1 H5) (by have:=(Xo2 H5);have:=(Xe1 H);have:=(Xe2 HX);have:=(Xe3 HS);omega) (Xo0 HM)
  ·have S2:X=.error q3:=(by rw[(Xo0 HX),Uq h41]);have X3:=Q49 (Xe3 H5) (Xo2 HX).2 hs 41 (by decide) 41 rfl;rw[(Xe5 HX),UL h41] at X3;have HS:=Xh2 X3 S2;clear X3 S2 h41
   go_wp2_with (first
    |(go_at_call 122;refine (Xo0 HS).mono ?_;rintro r w6 ⟨rfl,o5,Q5⟩;have k1:=o5.box.c1;have H6:=Xh2 o5 Q5;clear o5 Q5)
    |(go_at_call 120;refine (Q33 (Xo0 H6) (Xo3 HX) hs).mono ?_;rintro r w9 ⟨rfl,t8,S6⟩;have H9:=Xh2 t8 S6;clear t8 S6))
   go_ret;exact Q1c.err (Xe1 HS) (((Xo0 HY).onN.trans0 (Xo0 H5)).trans0 ((Xe1 H6).trans0 (Xe1 H9)).onN) (Xo0 H9)
theorem Qsp {s:ByteArray} {q:Nat} (B0:q<s.size) (hv:Q06 s.data.toList q=s[q]'B0):(48<=(Q06 s.data.toList q).toNat/\(Q06 s.data.toList q).toNat<=57)↔((48:Int)<=((s[q]'B0).toNat:Int)/\((s[q]'B0).toNat:Int)<=57):=by rw[hv];omega
theorem Qfv {s:ByteArray} {q:Nat} (B0:q<s.size) {b:UInt8} {k:Int} (hk:(b.toNat:Int)=k) (h:Q06 s.data.toList q=b):((s[q]'B0).toNat:Int)=k:=by rw[<-hk,<-Q2p s B0,h]
theorem Qfw {s:ByteArray} {q:Nat} (B0:q<s.size) {b:UInt8} {k:Int} (hk:(b.toNat:Int)=k) (h:¬Q06 s.data.toList q=b):(((s[q]'B0).toNat:Int)==k)=false:=by rw[Qda hk,<-Q2p s B0];exact UL h
theorem Qj4 {w:World} {R B:Nat} {s:ByteArray} {p most:Nat} {d bad:Int} {a:OA} {m c:Nat} {xs:LV} (h:RSt w R B s (p:Int) (most:Int) d bad a m c xs) (hp:p<=s.size) (hs:s.size<=1000000) (hm:m<=p) (V8:0<=d) (hd:d<=16) (sub:Nat->PR Ex) (O5:d<16->∀q,q<=s.size->Q4o s.data.toList q (sub q))
 (X5:d<16->∀W q bad a m c xs,RSt W R B s ((q:Nat):Int) (most:Int) (d+1) bad a m c xs->q<=s.size->m<=q->Calls Tryz.prog 121 #[.pointer (some ⟨R,0,none⟩)] W (Q1c R B s (most:Int) (d+1) xs m q (sub q) W)):
 Calls Tryz.prog 217 #[.pointer (some ⟨R,0,none⟩)] w (Q1c R B s (most:Int) d xs m p (Q4n sub (decide (d<16)) s.data.toList most p) w):=by
 obtain ⟨q,hq⟩:∃q,Q03 s.data.toList p=q:=⟨_,rfl⟩;have V4:q<=s.size:=by rw[<-hq];exact Q1s (by simpa using hp)
 unfold Q4n;rw[hq]
 by_cases B0:q<s.size
 case neg=>
  have h0:=Q3l s B0;rw[h0];exact Qsm h hp hs hm hq B0 V4
 have hv:=Q2p s B0;have M9:=Qsp B0 hv
 by_cases ZA:48<=(Q06 s.data.toList q).toNat/\(Q06 s.data.toList q).toNat<=57
 ·rw[Us ZA];obtain ⟨Q3,h57⟩:=M9.1 ZA;obtain ⟨t,ht⟩:∃t,Q13 s.data.toList q=t:=⟨_,rfl⟩;obtain ⟨N,hN⟩:∃N,Q8g s.data.toList q=N:=⟨_,rfl⟩;have Kw:=hN;unfold Q8g at Kw;rw[ht] at Kw;refine Qso h hp hs hm hq t N ht hN B0 Q3 h57 ?_
  by_cases Z5:t<s.size
  ·by_cases Xa:Q06 s.data.toList t=112
   ·rw[Us Xa] at Kw;refine .inr (.inr ⟨t+1,rfl,Z5,Qfv Z5 rfl Xa,?_⟩)
    by_cases Z6:Q06 s.data.toList (t+1)=45
    ·rw[Us Z6] at Kw;have J3:t+1<s.size:=Q0e Z6 (by decide);exact .inr (.inr ⟨t+1+1,rfl,J3,Qfv J3 rfl Z6,Kw⟩)
    ·rw[Uq Z6] at Kw
     by_cases J3:t+1<s.size
     ·exact .inr (.inl ⟨J3,Qfw J3 rfl Z6,Kw⟩)
     ·exact .inl ⟨J3,Z5,Kw⟩
   ·rw[Uq Xa] at Kw;exact .inr (.inl ⟨Z5,Qfw Z5 rfl Xa,Kw⟩)
  ·rw[Uq (by rw[Q3l s Z5];decide)] at Kw;exact .inl ⟨Z5,Kw⟩
 rw[Uq ZA]
 by_cases KI:Q06 s.data.toList q=120
 ·rw[Us KI];refine Qsn h hp hs hm hq (q+1) rfl B0 (Qfv B0 (k:=120) rfl KI) _ ?_
  by_cases t6:q+1<s.size
  ·have C7:=Q2p s t6
   by_cases h49:((s[q+1]'t6).toNat:Int)<49
   ·rw[Uq (by rw[C7];omega)];exact .inr (.inr (.inl ⟨t6,h49,rfl⟩))
   ·by_cases E7:(most:Int)<((s[q+1]'t6).toNat:Int)-48
    ·rw[Uq (by rw[C7];omega)];exact .inr (.inr (.inr ⟨t6,h49,E7,rfl⟩))
    ·rw[Us (by rw[C7];omega),C7];exact .inl ⟨t6,h49,E7,q+2,rfl,rfl⟩
  ·rw[Uq (fun e=>by rw[Q3l s t6] at e;exact absurd e.1 (by decide))];exact .inr (.inl ⟨t6,rfl⟩)
 rw[Uq KI];have n120:=Qfw B0 (k:=120) rfl KI
 by_cases Kr:Q06 s.data.toList q=40
 ·have hv:=Qfv B0 (k:=40) rfl Kr
  by_cases hdd:d<16
  ·rw[Us ⟨Kr,UU hdd⟩];exact Qos h hp hs hm hq (q+1) rfl B0 hv (by rw[Ui];omega) V8 hdd sub (O5 hdd) (X5 hdd)
  ·rw[Uq (fun e=>absurd (Xab e.2) hdd)];exact Qor h hp hs hm hq B0 hv (by rw[beq_iff_eq];omega)
 ·rw[Uq (fun e=>Kr e.1)];have n40:=Qfw B0 (k:=40) rfl Kr
  by_cases Q3:(48:Int)<=((s[q]'B0).toNat:Int)
  ·exact Ql8 h hp hs hm hq B0 Q3 (fun h57=>ZA (M9.2 ⟨Q3,h57⟩)) n120 n40
  ·exact Ql9 h hp hs hm hq B0 (UL Q3) n120 n40
end Go.Proofs.YtdilmfakkppgpaaGreatDoor
