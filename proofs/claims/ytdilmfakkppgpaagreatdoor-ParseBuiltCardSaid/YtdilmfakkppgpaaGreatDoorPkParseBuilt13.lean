/- Part 13 of the proof of LawParseBuilt: PolyA, PolyB, PolyC, PolyD, PolyE. Condition: as each theorem says; none at the end. -/
import Derived.Test.YtdilmfakkppgpaaGreatDoorPkParseBuilt12
set_option maxRecDepth 100000
set_option maxHeartbeats 16000000
namespace Go.Proofs.YtdilmfakkppgpaaGreatDoor
open Go.RowKit WordsM
theorem Qm0 {E F:List Int} {i:Nat} {x y:Int} (hx:E[i]?=some x) (hy:F[i]?=some y):Q2u (E.drop i) (F.drop i)=if x<y then -1 else if y<x then 1 else Q2u (E.drop (i+1)) (F.drop (i+1)):=by
 rw[Q6r E i x hx,Q6r F i y hy];rfl
theorem Qcb (a:OA) (n c:Nat) (E:List Int) (b:OA) (m d:Nat) (F:List Int) (w:World) (h1:Q0j w a n c E) (h2:Q0j w b m d F):
 Calls Tryz.prog 142 #[.slice a n c,.slice b m d] w fun r w'=>r=.returned (.int .i64 (Q2u E F))/\w'=w:=by
 have V7:=h1.len;have JD:=h2.len;subst V7;subst JD;have N1:=Ur h1.cap h1.most;have E1:=Ur h2.cap h2.most;have E4:=fun x y W=>Tryz.Qzt x y W;have HC:=Xh5 h1.rd h2.rd h1.rng.1 h2.rng.1 E4;clear h1 h2 E4;obtain ⟨V,hV⟩:∃V,Q2u E F=V:=⟨_,rfl⟩;rw[hV];have HV:=Ua hV;clear hV
 go_enter Tryz.func142,Tryz.ntmps142
 go_wp2_with fail
 go_loopw [11] (fun iv wr=>∃i:Nat,iv=.int .i64 (i:Int)/\i<=E.length/\i<=F.length/\Q2u (E.drop i) (F.drop i)=V/\w=wr) (fun iv _=>E.length-(intOf iv).toNat)
 case atStart=>exact ⟨0,rfl,Uu _,Uu _,HV.out,rfl⟩
 case round=>
  obtain ⟨i,rfl,hi,hi2,P5,rfl⟩:=hrel
  by_cases B0:i<E.length
  ·have E0:(i:Int)<(E.length:Int):=(by omega);obtain ⟨x,hx⟩:∃x,E[i]?=some x:=⟨_,Ub B0⟩;obtain ⟨ba,oa,N6,V5,E6⟩:=(Xo0 HC).at_ hx;subst N6
   by_cases G4:i<F.length
   ·have VG:¬(F.length:Int)<=(i:Int):=(by omega);obtain ⟨y,hy⟩:∃y,F[i]?=some y:=⟨_,Ub G4⟩;obtain ⟨bb,ob,L6,E3,y9⟩:=(Xo1 HC).at_ hy;subst L6;have Ws:=Qm0 hx hy;rw[P5] at Ws;have Kp:=(Xo2 HC) x (Ud hx);have hyr:=(Xo3 HC) y (Ud hy);obtain ⟨v,hv⟩:∃v,Lib.compareInt x y=v:=⟨_,rfl⟩;have Y2:=(Xe4 HC) x y w;rw[hv] at Y2;have hvv:v=if x<y then -1 else if y<x then 1 else 0:=by rw[<-hv];rfl
    have HH:=Xh3 Y2 hvv Ws;clear Y2 hvv Ws hv hx hy P5
    by_cases C9:v=0
    ·subst C9;have Vj:¬x<y/\¬y<x:=by
      have h3:=(Xo1 HH)
      constructor
      ·intro h;rw[Us h] at h3;omega
      ·intro h;rw[Uq (by omega),Us h] at h3;omega
     have HX:=Ua Vj;clear Vj
     go_wp2_with (refine (Xo0 HH).mono ?_;rintro r w1 ⟨rfl,rfl⟩)
     refine ⟨⟨i+1,by simp,by omega,by omega,?_,trivial⟩,by simp only[intOf];omega⟩;have h4:=(Xe2 HH);rw[Uq (Int.not_lt.2 (Xo0 HX)),Uq (Int.not_lt.2 (Xe1 HX))] at h4;exact h4.symm
    ·have hvb:(v==0)=false:=(by rw[Ui];exact C9);have hVv:V=v:=by
      have h3:=(Xo1 HH);have h4:=(Xe2 HH)
      by_cases q1:x<y
      ·rw[Us q1] at h3 h4;omega
      ·rw[Uq q1] at h3 h4
       by_cases q2:y<x
       ·rw[Us q2] at h3 h4;omega
       ·rw[Uq q2] at h3;exact absurd h3 C9
     have HVV:=Ua hVv;clear hVv
     go_wp2_with (refine (Xo0 HH).mono ?_;rintro r w1 ⟨rfl,rfl⟩)
     go_ret;exact ⟨by rw[HVV.out];rfl,rfl⟩
   ·have VG:(F.length:Int)<=(i:Int):=(by omega);have D6:V=1:=by
     rw[<-P5,Q6r E i x hx,UZ (l:=F) (show F.length<=i by omega)];rfl
    subst D6;clear P5 hx
    go_wp2_with fail
    go_ret;exact ⟨rfl,rfl⟩
  ·obtain rfl:i=E.length:=(by omega);have E0:¬((E.length:Int)<(E.length:Int)):=(by omega);rw[UZ (Ug _)] at P5
   by_cases G4:E.length<F.length
   ·have VG:(E.length:Int)<(F.length:Int):=(by omega);obtain ⟨y,hy⟩:∃y,F[E.length]?=some y:=⟨_,Ub G4⟩;have D6:V= -1:=(by rw[<-P5,Q6r F _ y hy];rfl);subst D6;clear P5 hy
    go_wp2_with fail
    go_ret;exact ⟨rfl,rfl⟩
   ·have VG:¬(E.length:Int)<(F.length:Int):=(by omega);have D6:V=0:=(by rw[<-P5,UZ (by omega)];rfl);subst D6;clear P5
    go_wp2_with fail
    go_ret;exact ⟨rfl,rfl⟩
theorem Qqv (u0 u1 u2:Value) (a:OA) (n c:Nat) (E:List Int) (v0 v1 v2:Value) (b:OA) (m d:Nat) (F:List Int) (w:World) (h1:Q0j w a n c E) (h2:Q0j w b m d F):
 Calls Tryz.prog 88 #[.agg #[u0,u1,u2,.slice a n c],.agg #[v0,v1,v2,.slice b m d]] w fun r w'=>r=.returned (.int .i64 (Q2u F E))/\Bw w w':=by
 have C0:Bw w (w.alloc (.cells #[u0,u1,u2,.slice a n c] 44)):=Ba;have B2:(w.alloc (.cells #[u0,u1,u2,.slice a n c] 44)).heap.size=w.heap.size+1:=Uo _ _;have D0:Below (w.alloc (.cells #[u0,u1,u2,.slice a n c] 44)).heap.size (w.alloc (.cells #[u0,u1,u2,.slice a n c] 44)) ((w.alloc (.cells #[u0,u1,u2,.slice a n c] 44)).alloc (.cells #[v0,v1,v2,.slice b m d] 44)):=Ba;have hX:=(Q38.new w u0 u1 u2 (.slice a n c) 44).step D0 (Q0r _ _);have hY:=Q38.new (w.alloc (.cells #[u0,u1,u2,.slice a n c] 44)) v0 v1 v2 (.slice b m d) 44;rw[B2] at hY;have hB:=Below.next0 C0 D0;generalize hW:(w.alloc (.cells #[u0,u1,u2,.slice a n c] 44)).alloc (.cells #[v0,v1,v2,.slice b m d] 44)=W at hX hY hB;have hx3:=hX.c3;have hy3:=hY.c3;have E4:=Qcb b m d F a n c E W (h2.step hB) (h1.step hB);have HC:=Xh2 E4 hB;clear C0 B2 D0 hX hY hB E4 h1 h2
 go_enter Tryz.func88,Tryz.ntmps88
 go_wp2_with (refine (Xo0 HC).mono ?_;rintro r w1 ⟨rfl,rfl⟩)
 go_ret;exact ⟨rfl,(Xe1 HC)⟩
structure Q01 where
 neg:Bool
 exp:Int
 ws:LN
 es:List Int
def Q31 (w:World) (b o:Nat) (m:Q01):Prop:=∃aw lw cw ae le ce,w.cell? ⟨b,o,none⟩=some (.bool m.neg)/\w.cell? ⟨b,o+1,none⟩=some (.int .i64 m.exp)/\w.cell? ⟨b,o+2,none⟩=some (.slice aw lw cw)/\w.cell? ⟨b,o+3,none⟩=some (.slice ae le ce)/\
 WordsIn w aw lw cw m.ws/\Q0j w ae le ce m.es/\-9223372036854775808<=m.exp/\m.exp<=9223372036854775807
theorem Q31.step {w w':World} {b o:Nat} {m:Q01} (h:Q31 w b o m) (hb:Bw w w') (B0:b<w.heap.size):Q31 w' b o m:=by
 obtain ⟨aw,lw,cw,ae,le,ce,h0,h1,h2,h3,h4,h5,h6⟩:=h;exact ⟨aw,lw,cw,ae,le,ce,(hb.cell (p:=⟨b,o,none⟩) B0).trans h0,(hb.cell (p:=⟨b,o+1,none⟩) B0).trans h1,(hb.cell (p:=⟨b,o+2,none⟩) B0).trans h2,(hb.cell (p:=⟨b,o+3,none⟩) B0).trans h3,h4.step hb,h5.step hb,h6⟩
def Q08 (w:World) (a:OA) (n c:Nat) (ms:List Q01):Prop:=
 ms.length=n/\n<=c/\c<=9223372036854775807/\(ms=[]∨∃b o,a=some ⟨b,o,none⟩/\b<w.heap.size/\∀j m,ms[j]?=some m->Q31 w b (o+j*4) m)
theorem Q08.step {w w':World} {a:OA} {n c:Nat} {ms:List Q01} (h:Q08 w a n c ms) (hb:Bw w w'):Q08 w' a n c ms:=by
 obtain ⟨h1,h2,h3,h4⟩:=h;refine ⟨h1,h2,h3,?_⟩;rcases h4 with h4|⟨b,o,h5,h6,h7⟩
 ·exact .inl h4
 ·exact .inr ⟨b,o,h5,Ue h6 hb.size,fun j m hm=>(h7 j m hm).step hb h6⟩
def Q01.term (m:Q01):Q0a:=(Q28 m.neg m.exp m.ws,m.es)
def OkM (k:Nat) (m:Q01):Prop:=(Q14 k m.es/\Q0i m.neg m.exp m.ws)/\m.ws≠[]
def Q0z (k:Nat) (ms:List Q01):Prop:=1<=k/\k<=4/\ms.length<=24/\(∀m∈ms,OkM k m)/\ms.Pairwise fun p q=>0<Q2u p.es q.es
def Q4p (Φ:Prop) (r:Ending):Prop:=∃b,r=.returned (.bool b)/\(b=true↔Φ)
theorem Q4p.yes {Φ:Prop} {r:Ending} (h:Φ) (hr:r=.returned (.bool true)):Q4p Φ r:=⟨true,hr,by simp[h]⟩
theorem Q4p.no {Φ:Prop} {r:Ending} (h:¬Φ) (hr:r=.returned (.bool false)):Q4p Φ r:=⟨false,hr,by simp[h]⟩
theorem Q7k:∀(ms:List Q01),(∀j p q,ms[j]?=some p->ms[j+1]?=some q->0<Q2u p.es q.es)->ms.Pairwise fun p q=>0<Q2u p.es q.es
 |[],_=>List.Pairwise.nil
 |[_],_=>List.pairwise_singleton _ _
 |p::q::r,h=>by
  have ih:=Q7k (q::r) (fun j x y hx hy=>h (j+1) x y hx hy);refine TF.2 ⟨fun x hx=>?_,ih⟩;have h0:=h 0 p q rfl rfl;rcases UF.1 hx with rfl|hx
  ·exact h0
  ·exact Q68 _ _ _ h0 ((TF.1 ih).1 x hx)
theorem Q34 (a:OA) (n c:Nat) (ms:List Q01) (k:Nat) (w:World) (h:Q08 w a n c ms) (hk:k<=9223372036854775807):
 Calls Tryz.prog 45 #[.slice a n c,.int .i64 (k:Int)] w fun r w'=>Q4p (Q0z k ms) r/\Bw w w':=by
 have Z2:=h.1;subst Z2;have E4:=Ur h.2.1 h.2.2.1;have HM:=Ua h;clear h
 go_enter Tryz.func45,Tryz.ntmps45
 go_wp2_with fail
 go_loopw [9] (fun iv wr=>∃i:Nat,iv=.int .i64 (i:Int)/\i<=ms.length/\(∀j m,j<i->ms[j]?=some m->OkM k m)/\(∀j p q,j+1<i->ms[j]?=some p->ms[j+1]?=some q->0<Q2u p.es q.es)/\Bw w wr) (fun iv _=>ms.length-(intOf iv).toNat)
 case atStart=>exact ⟨0,rfl,Uu _,fun j m h=>absurd h (Xaf _),fun j p q h=>absurd h (Xaf _),Uf _ _⟩
 case round=>
  obtain ⟨i,rfl,hi,D3,QY,hb⟩:=hrel
  by_cases B0:i<ms.length
  ·have E0:(i:Int)<(ms.length:Int):=(by omega);obtain ⟨m,hm⟩:∃m,ms[i]?=some m:=⟨_,Ub B0⟩;obtain ⟨b0,o0,rfl,C4,R1⟩:∃b o,a=some ⟨b,o,none⟩/\b<wr.heap.size/\∀j m,ms[j]?=some m->Q31 wr b (o+j*4) m:=by
    rcases (HM.out.step hb).2.2.2 with h0|h0
    ·rw[h0] at B0;simp at B0
    ·exact h0
   obtain ⟨aw,lw,cw,ae,le,ce,k0,k1,k2,k3,hw,he,U4,J4⟩:=R1 i m hm;have HA:=Xh7 D3 QY hb hm R1 hw he;clear D3 QY hb hm R1 hw he;have Z1:=Uo wr (.cells #[.bool m.neg,.int .i64 m.exp,.slice aw lw cw,.slice ae le ce] 44);have F2:Bw wr (wr.alloc (.cells #[.bool m.neg,.int .i64 m.exp,.slice aw lw cw,.slice ae le ce] 44)):=Ba;have hX:=Q38.new wr (.bool m.neg) (.int .i64 m.exp) (.slice aw lw cw) (.slice ae le ce) 44;generalize I3:wr.alloc (.cells #[.bool m.neg,.int .i64 m.exp,.slice aw lw cw,.slice ae le ce] 44)=W0 at Z1 F2 hX;have HX:=Ua (fun W (hW:Bw W0 W)=>hX.step hW (by omega));have Yy:=Ua (Below.next0 (Xo2 HA) F2);have hMO:=fun W (hW:Bw W0 W)=>Qlz m.neg m.exp aw lw cw m.ws ae le ce m.es k W (((Xo5 HA).step F2).step hW) (((Xe6 HA).step F2).step hW) hk U4 J4;have K0:=Ua F2;clear hX F2 Z1;have WO:=(Xo5 HA).len
   go_wp2_with fail
   by_cases E7:Q14 k m.es/\Q0i m.neg m.exp m.ws
   ·simp only[UU E7] at hMO;have HMO:=Ua hMO
    by_cases hemp:m.ws=[]
    ·have ZF:((lw:Int)==0)=true:=(by rw[<-WO,hemp];rfl);have D7:¬Q0z k ms:=fun h=>(h.2.2.2.1 m (Ud (Xo3 HA))).2 hemp;have HNO:=Ua D7;clear hMO E7 D7 WO;refine Q0c (E:=Qap) (fun w=>Uf _ w) (by kernel_rfl) (fun W=>Bw W0 W) (fun _ _ h h'=>Below.next0 h h') (Q3x [.agg #[.bool m.neg,.int .i64 m.exp,.slice aw lw cw,.slice ae le ce],.int .i64 (k:Int),.bool true,.bool false,.bool false,.pointer (some ⟨wr.heap.size,0,none⟩),.pointer (some ⟨wr.heap.size,2,none⟩),.slice aw lw cw,.int .i64 (lw:Int),.bool true,.bool true,.bool true,undef,undef,undef,undef,undef,undef,undef,undef,undef,undef,undef,undef,.bool true] (fun _=>none)) (Q0h (fun i φ h=>by cases h)) (Q22 (by kernel_rfl)) (by kernel_rfl) (Q05 W0) ?_ ?_
     ·skip
      repeat' (first|exact Q98|refine Q97 ?_ ?_)
      all_goals first
       |exact Qna rfl rfl rfl
       |(refine Q29 rfl fun A W hW F0 hd hd=>?_
         simp[Q82,Region.binds] at hd;have e6:=Q0d F0 6 (by kernel_rfl) rfl;have e1:=Q0d F0 1 (by kernel_rfl) rfl;obtain ⟨u0_0,u0_1,u0_2,u0_3,_,_,_,_⟩:=(HX.out W hW)
         first
         |(refine Q3n rfl rfl ?_;simp[go_sem,hd,e6,e1,u0_0,u0_1,u0_2,u0_3,ZF];done)
         |(refine Q7a rfl rfl ?_ ((HMO.out W hW));simp[go_sem,hd];done))
     intro vs W1 S1 C3;have v24:vs 24=.bool true:=(Q09 rfl).1 (C3 24 (by decide));simp only[Q0s,Act.put,Uw,UK,UJ];rw[v24];have Kj:=Ua (Below.next0 Yy.out S1);clear S1 C3 v24
     go_wp2_with fail
     go_ret;exact ⟨Q4p.no HNO.out rfl,Kj.out⟩
    ·have ZF:((lw:Int)==0)=false:=by
      rw[<-WO,Ui];intro e;exact hemp (UH.1 (by omega))
     have hokm:OkM k m:=⟨E7,hemp⟩;have hok':∀j x,j<i+1->ms[j]?=some x->OkM k x:=fun j x hj hx=>by
      by_cases R6:j=i
      ·subst R6;have:=(Xo3 HA);rw[hx] at this;injection this with this;rw[this];exact hokm
      ·exact (Xo0 HA) j x (by omega) hx
     have HOK:=Ua hok';clear hMO E7 WO hokm hok' hemp
     by_cases O1:i=0
     ·have hip:i=0:=O1;have T6:(∀j x,j<i+1->ms[j]?=some x->OkM k x)/\(∀j p q,j+1<i+1->ms[j]?=some p->ms[j+1]?=some q->0<Q2u p.es q.es):=⟨HOK.out,fun j p q hj=>by omega⟩;have Qs:=Ua T6;clear T6;refine Q0c (E:=Qap) (fun w=>Uf _ w) (by kernel_rfl) (fun W=>Bw W0 W) (fun _ _ h h'=>Below.next0 h h') (Q3x [.agg #[.bool m.neg,.int .i64 m.exp,.slice aw lw cw,.slice ae le ce],.int .i64 (k:Int),.bool true,.bool false,.bool false,.pointer (some ⟨wr.heap.size,0,none⟩),.pointer (some ⟨wr.heap.size,2,none⟩),.slice aw lw cw,.int .i64 (lw:Int),.bool false,.bool false,.bool false,.int .i64 (i:Int),.bool false,.bool false,undef,undef,undef,undef,undef,undef,undef,undef,.bool false,.bool false] (fun _=>none)) (Q0h (fun i φ h=>by cases h)) (Q22 (by kernel_rfl)) (by kernel_rfl) (Q05 W0) ?_ ?_
      ·skip
       repeat' (first|exact Q98|refine Q97 ?_ ?_)
       all_goals first
        |exact Qna rfl rfl rfl
        |(refine Q29 rfl fun A W hW F0 hd hd=>?_
          simp[Q82,Region.binds] at hd;have e6:=Q0d F0 6 (by kernel_rfl) rfl;have e1:=Q0d F0 1 (by kernel_rfl) rfl;have e5:=Q0d F0 5 (by kernel_rfl) rfl;obtain ⟨u0_0,u0_1,u0_2,u0_3,_,_,_,_⟩:=(HX.out W hW)
          first
          |(refine Q3n rfl rfl ?_;simp[go_sem,hd,e6,e1,e5,u0_0,u0_1,u0_2,u0_3,ZF,hip];done)
          |(refine Q7a rfl rfl ?_ ((HMO.out W hW));simp[go_sem,hd];done))
      intro vs W1 S1 C3;have v24:vs 24=.bool false:=(Q09 rfl).1 (C3 24 (by decide));simp only[Q0s,Act.put,Uw,UK,UJ];rw[v24];have Kj:=Ua (Below.next0 Yy.out S1);clear S1 C3 v24
      go_wp2_with fail
      refine ⟨⟨i+1,by simp only[Xaz,true_and];omega,by omega,(Xo0 Qs),(Xe1 Qs),Kj.out⟩,by simp only[intOf];omega⟩
     ·have hip:0<i:=(by omega);obtain ⟨q,hq⟩:∃q,q+1=i:=⟨i-1,by omega⟩;have hiq:(i:Int)-1=(q:Int):=(by omega);have Wi:IntKind.i64.wrap (q:Int)=(q:Int):=(by rw[Ut];omega);have hqn:(q:Int)<(ms.length:Int):=(by omega);obtain ⟨p,hp⟩:∃p,ms[q]?=some p:=⟨_,Ub (by omega)⟩;obtain ⟨pw,pl,pc,pe,pm,pd,z0,z1,z2,z3,Q8,V6,_,_⟩:=(Xo4 HA) q p hp;have HPC:=Ua (fun W (hW:Bw W0 W)=>And.intro (((Below.next0 K0.out hW).cell (p:=⟨b0,o0+q*4,none⟩) C4).trans z0) (And.intro (((Below.next0 K0.out hW).cell (p:=⟨b0,o0+q*4+1,none⟩) C4).trans z1) (And.intro (((Below.next0 K0.out hW).cell (p:=⟨b0,o0+q*4+2,none⟩) C4).trans z2) (((Below.next0 K0.out hW).cell (p:=⟨b0,o0+q*4+3,none⟩) C4).trans z3))));have HAH:=Ua (fun W (hW:Bw W0 W)=>Qqv (.bool p.neg) (.int .i64 p.exp) (.slice pw pl pc) pe pm pd p.es (.bool m.neg) (.int .i64 m.exp) (.slice aw lw cw) ae le ce m.es W (V6.step (Below.next0 K0.out hW)) ((Xe6 HA).step (Below.next0 K0.out hW)));have HPQ:=Xh2 hp hq;clear z0 z1 z2 z3 Q8 V6 hp hq
      by_cases P5:0<=Q2u m.es p.es
      ·have Qu:decide (0<=Q2u m.es p.es)=true:=UU P5;have D7:¬Q0z k ms:=fun h=>by
        have h5:=h.2.2.2.2;rw[List.pairwise_iff_getElem] at h5;have E9:=(Um.1 (Xo0 HPQ));have C8:=(Um.1 (Xo3 HA));have h6:=h5 q i E9.1 C8.1 (by have:=(Xe1 HPQ);omega);rw[E9.2,C8.2] at h6;have h7:=Q3s m.es p.es;omega
       have HNO:=Ua D7;clear D7 P5;refine Q0c (E:=Qap) (fun w=>Uf _ w) (by kernel_rfl) (fun W=>Bw W0 W) (fun _ _ h h'=>Below.next0 h h') (Q3x [.agg #[.bool m.neg,.int .i64 m.exp,.slice aw lw cw,.slice ae le ce],.int .i64 (k:Int),.bool true,.bool false,.bool false,.pointer (some ⟨wr.heap.size,0,none⟩),.pointer (some ⟨wr.heap.size,2,none⟩),.slice aw lw cw,.int .i64 (lw:Int),.bool false,.bool false,.bool false,.int .i64 (i:Int),.bool true,.bool true,.slice (some ⟨b0,o0,none⟩) ms.length c,.int .i64 (i:Int),.int .i64 (q:Int),.pointer (some ⟨b0,o0+q*4,none⟩),.agg #[.bool p.neg,.int .i64 p.exp,.slice pw pl pc,.slice pe pm pd],.agg #[.bool m.neg,.int .i64 m.exp,.slice aw lw cw,.slice ae le ce],.int .i64 (Q2u m.es p.es),.bool true,.bool true,.bool true] (fun _=>none)) (Q0h (fun i φ h=>by cases h)) (Q22 (by kernel_rfl)) (by kernel_rfl) (Q05 W0) ?_ ?_
       ·skip
        repeat' (first|exact Q98|refine Q97 ?_ ?_)
        all_goals
         refine Q29 rfl fun A W hW F0 hd hd=>?_;simp[Q82,Region.binds] at hd;have e6:=Q0d F0 6 (by kernel_rfl) rfl;have e1:=Q0d F0 1 (by kernel_rfl) rfl;have e5:=Q0d F0 5 (by kernel_rfl) rfl;have e0:=Q0d F0 0 (by kernel_rfl) rfl;obtain ⟨u0_0,u0_1,u0_2,u0_3,_,_,_,_⟩:=(HX.out W hW);obtain ⟨u1_0,u1_1,u1_2,u1_3⟩:=HPC.out W hW
         first
         |(refine Q3n rfl rfl ?_;simp[go_sem,hd,e6,e1,e5,e0,u0_0,u0_1,u0_2,u0_3,ZF,hip,hiq,Wi,hqn,u1_0,u1_1,u1_2,u1_3,Qu];done)
         |(refine Q7a rfl rfl ?_ ((HMO.out W hW));simp[go_sem,hd];done)
         |(refine Q7a rfl rfl ?_ ((HAH.out W hW));simp[go_sem,hd];done)
       intro vs W1 S1 C3;have v24:vs 24=.bool true:=(Q09 rfl).1 (C3 24 (by decide));simp only[Q0s,Act.put,Uw,UK,UJ];rw[v24];have Kj:=Ua (Below.next0 Yy.out S1);clear S1 C3 v24
       go_wp2_with fail
       go_ret;exact ⟨Q4p.no HNO.out rfl,Kj.out⟩
      ·have Qu:decide (0<=Q2u m.es p.es)=false:=UL P5;have T6:(∀j x,j<i+1->ms[j]?=some x->OkM k x)/\(∀j p q,j+1<i+1->ms[j]?=some p->ms[j+1]?=some q->0<Q2u p.es q.es):=⟨HOK.out,fun j p' q' hj o9 hq'=>by
        by_cases R6:j=q
        ·subst R6;rw[(Xe1 HPQ)] at hq';have h1:=(Xo0 HPQ);rw[o9] at h1;have h2:=(Xo3 HA);rw[hq'] at h2;injection h1 with h1;injection h2 with h2;subst h1;subst h2;have h7:=Q3s q'.es p'.es;omega
        ·exact (Xo1 HA) j p' q' (by have:=(Xe1 HPQ);omega) o9 hq'⟩
       have Qs:=Ua T6;clear T6 P5;refine Q0c (E:=Qap) (fun w=>Uf _ w) (by kernel_rfl) (fun W=>Bw W0 W) (fun _ _ h h'=>Below.next0 h h') (Q3x [.agg #[.bool m.neg,.int .i64 m.exp,.slice aw lw cw,.slice ae le ce],.int .i64 (k:Int),.bool true,.bool false,.bool false,.pointer (some ⟨wr.heap.size,0,none⟩),.pointer (some ⟨wr.heap.size,2,none⟩),.slice aw lw cw,.int .i64 (lw:Int),.bool false,.bool false,.bool false,.int .i64 (i:Int),.bool true,.bool true,.slice (some ⟨b0,o0,none⟩) ms.length c,.int .i64 (i:Int),.int .i64 (q:Int),.pointer (some ⟨b0,o0+q*4,none⟩),.agg #[.bool p.neg,.int .i64 p.exp,.slice pw pl pc,.slice pe pm pd],.agg #[.bool m.neg,.int .i64 m.exp,.slice aw lw cw,.slice ae le ce],.int .i64 (Q2u m.es p.es),.bool false,.bool false,.bool false] (fun _=>none)) (Q0h (fun i φ h=>by cases h)) (Q22 (by kernel_rfl)) (by kernel_rfl) (Q05 W0) ?_ ?_
       ·skip
        repeat' (first|exact Q98|refine Q97 ?_ ?_)
        all_goals
         refine Q29 rfl fun A W hW F0 hd hd=>?_;simp[Q82,Region.binds] at hd;have e6:=Q0d F0 6 (by kernel_rfl) rfl;have e1:=Q0d F0 1 (by kernel_rfl) rfl;have e5:=Q0d F0 5 (by kernel_rfl) rfl;have e0:=Q0d F0 0 (by kernel_rfl) rfl;obtain ⟨u0_0,u0_1,u0_2,u0_3,_,_,_,_⟩:=(HX.out W hW);obtain ⟨u1_0,u1_1,u1_2,u1_3⟩:=HPC.out W hW
         first
         |(refine Q3n rfl rfl ?_;simp[go_sem,hd,e6,e1,e5,e0,u0_0,u0_1,u0_2,u0_3,ZF,hip,hiq,Wi,hqn,u1_0,u1_1,u1_2,u1_3,Qu];done)
         |(refine Q7a rfl rfl ?_ ((HMO.out W hW));simp[go_sem,hd];done)
         |(refine Q7a rfl rfl ?_ ((HAH.out W hW));simp[go_sem,hd];done)
       intro vs W1 S1 C3;have v24:vs 24=.bool false:=(Q09 rfl).1 (C3 24 (by decide));simp only[Q0s,Act.put,Uw,UK,UJ];rw[v24];have Kj:=Ua (Below.next0 Yy.out S1);clear S1 C3 v24
       go_wp2_with fail
       refine ⟨⟨i+1,by simp only[Xaz,true_and];omega,by omega,(Xo0 Qs),(Xe1 Qs),Kj.out⟩,by simp only[intOf];omega⟩
   ·simp only[UL E7] at hMO;have HMO:=Ua hMO;have D7:¬Q0z k ms:=fun h=>E7 (h.2.2.2.1 m (Ud (Xo3 HA))).1;have HNO:=Ua D7;clear hMO E7 D7 WO;refine Q0c (E:=Qap) (fun w=>Uf _ w) (by kernel_rfl) (fun W=>Bw W0 W) (fun _ _ h h'=>Below.next0 h h') (Q3x [.agg #[.bool m.neg,.int .i64 m.exp,.slice aw lw cw,.slice ae le ce],.int .i64 (k:Int),.bool false,.bool true,.bool true,undef,undef,undef,undef,undef,.bool true,.bool true,undef,undef,undef,undef,undef,undef,undef,undef,undef,undef,undef,undef,.bool true] (fun _=>none)) (Q0h (fun i φ h=>by cases h)) (Q22 (by kernel_rfl)) (by kernel_rfl) (Q05 W0) ?_ ?_
    ·skip
     repeat' (first|exact Q98|refine Q97 ?_ ?_)
     all_goals first
      |exact Qna rfl rfl rfl
      |(refine Q29 rfl fun A W hW F0 hd hd=>?_
        simp[Q82,Region.binds] at hd;have e6:=Q0d F0 6 (by kernel_rfl) rfl;have e1:=Q0d F0 1 (by kernel_rfl) rfl;obtain ⟨u0_0,u0_1,u0_2,u0_3,_,_,_,_⟩:=(HX.out W hW)
        first
        |(refine Q3n rfl rfl ?_;simp[go_sem,hd,e6,e1,u0_0,u0_1,u0_2,u0_3];done)
        |(refine Q7a rfl rfl ?_ ((HMO.out W hW));simp[go_sem,hd];done))
    intro vs W1 S1 C3;have v24:vs 24=.bool true:=(Q09 rfl).1 (C3 24 (by decide));simp only[Q0s,Act.put,Uw,UK,UJ];rw[v24];have Kj:=Ua (Below.next0 Yy.out S1);clear S1 C3 v24
    go_wp2_with fail
    go_ret;exact ⟨Q4p.no HNO.out rfl,Kj.out⟩
  ·obtain rfl:i=ms.length:=(by omega);have E0:¬((ms.length:Int)<(ms.length:Int)):=(by omega);have P0:(∀m∈ms,OkM k m)/\ms.Pairwise fun p q=>0<Q2u p.es q.es:=⟨fun m hm=>by
    obtain ⟨j,hj⟩:=Ts.1 hm;exact D3 j m (Um.1 hj).1 hj,Q7k ms fun j p q hp hq=>QY j p q (Um.1 hq).1 hp hq⟩
   have HF:=Xh2 P0 hb;clear P0 hb D3 QY
   by_cases k1:1<=k
   ·have k1':(1:Int)<=(k:Int):=by omega
    by_cases k4:k<=4
    ·have k4':(k:Int)<=4:=by omega
     by_cases l24:ms.length<=24
     ·have l24':(ms.length:Int)<=24:=by omega
      go_wp2_with fail
      go_ret;exact ⟨Q4p.yes ⟨k1,k4,l24,(Xo0 HF).1,(Xo0 HF).2⟩ rfl,(Xe1 HF)⟩
     ·have l24':¬(ms.length:Int)<=24:=by omega
      go_wp2_with fail
      go_ret;exact ⟨Q4p.no (fun h=>l24 h.2.2.1) rfl,(Xe1 HF)⟩
    ·have k4':¬(k:Int)<=4:=by omega
     go_wp2_with fail
     go_ret;exact ⟨Q4p.no (fun h=>k4 h.2.1) rfl,(Xe1 HF)⟩
   ·have k1':¬(1:Int)<=(k:Int):=by omega
    go_wp2_with fail
    go_ret;exact ⟨Q4p.no (fun h=>k1 h.1) rfl,(Xe1 HF)⟩
theorem Qtn (u0 u1 u2:Value) (b:OA) (m d:Nat) (E:List Int) (w:World) (hE:Q0j w b m d E) (hr:Q14 m E):
 Calls Tryz.prog 46 #[.agg #[u0,u1,u2,.slice b m d]] w fun r w'=>r=.returned (.int .i64 E.sum)/\Bw w w':=by
 have C0:Bw w (w.alloc (.cells #[u0,u1,u2,.slice b m d] 44)):=Ba;have hX:=Q38.new w u0 u1 u2 (.slice b m d) 44;generalize hW:w.alloc (.cells #[u0,u1,u2,.slice b m d] 44)=W at C0 hX;have hx3:=hX.c3;have Z2:=hE.len;subst Z2;have E4:=Ur hE.cap hE.most;have HC:=Xh3 (hE.rd.below C0) C0 hr;clear C0 hX hE hr
 go_enter Tryz.func46,Tryz.ntmps46
 go_wp2_with fail
 go_loopw [3,9] (fun sv iv wr=>∃(i:Nat) (s:Int),sv=.int .i64 s/\iv=.int .i64 (i:Int)/\i<=E.length/\(E.take i).sum=s/\0<=s/\s<=8/\W=wr) (fun _ iv _=>E.length-(intOf iv).toNat)
 case atStart=>exact ⟨0,0,rfl,rfl,Uu _,by simp,by decide,by decide,rfl⟩
 case round=>
  obtain ⟨i,s,rfl,rfl,hi,hs,Zs,Ve,rfl⟩:=hrel
  by_cases B0:i<E.length
  ·have E0:(i:Int)<(E.length:Int):=(by omega);obtain ⟨x,hx⟩:∃x,E[i]?=some x:=⟨_,Ub B0⟩;obtain ⟨ba,oa,N6,V5,E6⟩:=(Xo0 HC).at_ hx;subst N6;have VM:=Q1x (Xe2 HC) x (Ud hx);have S9:=Qbi hx;have ht:=(Qfc (Xo3 HC) (i+1)).2;have h8:=(Xe4 HC);have HS:=Xh4 hs S9 ht h8;clear hs S9 hx ht h8
   go_wp2_with fail
   refine ⟨⟨i+1,s+x,rfl,by simp,by omega,by rw[(Xo1 HS),(Xo0 HS)],by omega,?_,trivial⟩,by simp only[intOf];omega⟩;have h1:=(Xo0 HS);have h2:=(Xo1 HS);have h3:=(Xo2 HS);have h4:=(Xe3 HS);omega
  ·obtain rfl:i=E.length:=(by omega);have E0:¬((E.length:Int)<(E.length:Int)):=(by omega);rw[Ta] at hs;subst hs
   go_wp2_with fail
   go_ret;exact ⟨rfl,(Xo1 HC)⟩
def Q2t (w:World) (a:OA) (n c:Nat) (F:List (List Q01)):Prop:=
 F.length=n/\n<=c/\c<=9223372036854775807/\(F=[]∨∃b o,a=some ⟨b,o,none⟩/\b<w.heap.size/\∀j ms,F[j]?=some ms->∃p l d,w.cell? ⟨b,o+j,none⟩=some (.slice p l d)/\Q08 w p l d ms)
theorem Q2t.step {w w':World} {a:OA} {n c:Nat} {F:List (List Q01)} (h:Q2t w a n c F) (hb:Bw w w'):Q2t w' a n c F:=by
 obtain ⟨h1,h2,h3,h4⟩:=h;refine ⟨h1,h2,h3,?_⟩;rcases h4 with h4|⟨b,o,h5,h6,h7⟩
 ·exact .inl h4
 ·refine .inr ⟨b,o,h5,Ue h6 hb.size,fun j ms hm=>?_⟩;obtain ⟨p,l,d,h8,h9⟩:=h7 j ms hm;exact ⟨p,l,d,(hb.cell (p:=⟨b,o+j,none⟩) h6).trans h8,h9.step hb⟩
def Q5d (F:List (List Q01)):Prop:=1<=F.length/\F.length<=4/\∀ms∈F,Q0z F.length ms
theorem Qdf (a:OA) (n c:Nat) (F:List (List Q01)) (w:World) (h:Q2t w a n c F):
 Calls Tryz.prog 30 #[.slice a n c] w fun r w'=>Q4p (Q5d F) r/\Bw w w':=by
 have Z2:=h.1;subst Z2;have E4:=Ur h.2.1 h.2.2.1;have HM:=Ua h;clear h
 go_enter Tryz.func30,Tryz.ntmps30
 go_wp2_with fail
 go_loopw [7] (fun iv wr=>∃i:Nat,iv=.int .i64 (i:Int)/\i<=F.length/\(∀j ms,j<i->F[j]?=some ms->Q0z F.length ms)/\Bw w wr) (fun iv _=>F.length-(intOf iv).toNat)
 case atStart=>exact ⟨0,rfl,Uu _,fun j m h=>absurd h (Xaf _),Uf _ _⟩
 case round=>
  obtain ⟨i,rfl,hi,D3,hb⟩:=hrel
  by_cases B0:i<F.length
  ·have E0:(i:Int)<(F.length:Int):=(by omega);obtain ⟨ms,hm⟩:∃ms,F[i]?=some ms:=⟨_,Ub B0⟩;obtain ⟨b0,o0,rfl,C4,R1⟩:∃b o,a=some ⟨b,o,none⟩/\b<wr.heap.size/\∀j ms,F[j]?=some ms->∃p l d,wr.cell? ⟨b,o+j,none⟩=some (.slice p l d)/\Q08 wr p l d ms:=by
    rcases (HM.out.step hb).2.2.2 with h0|h0
    ·rw[h0] at B0;simp at B0
    ·exact h0
   obtain ⟨p,l,d,E6,k6⟩:=R1 i ms hm;have Xy:=Q34 p l d ms F.length wr k6 E4;have HA:=Xh4 D3 hb hm Xy;clear D3 hb hm Xy R1 k6
   by_cases hr:Q0z F.length ms
   ·have Xy:Calls Tryz.prog 45 #[.slice p l d,.int .i64 (F.length:Int)] wr fun r w'=>r=.returned (.bool true)/\Bw wr w':=(Xe3 HA).mono (by
     rintro r w' ⟨⟨b,rfl,E3⟩,J5⟩;rw[E3.2 hr];exact ⟨rfl,J5⟩)
    have HR:=Xh2 Xy hr;clear Xy hr
    go_wp2_with (refine (Xo0 HR).mono ?_;rintro r w1 ⟨rfl,C0⟩;have K0:=Ua C0;clear C0)
    refine ⟨⟨i+1,by simp,by omega,fun j x hj hx=>?_,Below.next0 (Xo1 HA) K0.out⟩,by simp only[intOf];omega⟩
    by_cases R6:j=i
    ·subst R6;have:=(Xo2 HA);rw[hx] at this;injection this with this;rw[this];exact (Xe1 HR)
    ·exact (Xo0 HA) j x (by omega) hx
   ·have Xy:Calls Tryz.prog 45 #[.slice p l d,.int .i64 (F.length:Int)] wr fun r w'=>r=.returned (.bool false)/\Bw wr w':=(Xe3 HA).mono (by
     rintro r w' ⟨⟨b,rfl,E3⟩,J5⟩;cases b
     ·exact ⟨rfl,J5⟩
     ·exact absurd (E3.1 rfl) hr)
    have D7:¬Q5d F:=fun h=>hr (h.2.2 ms (Ud (Xo2 HA)));have HR:=Xh2 Xy D7;clear Xy hr D7
    go_wp2_with (refine (Xo0 HR).mono ?_;rintro r w1 ⟨rfl,C0⟩;have K0:=Ua C0;clear C0)
    go_ret;exact ⟨Q4p.no (Xe1 HR) rfl,Below.next0 (Xo1 HA) K0.out⟩
  ·obtain rfl:i=F.length:=(by omega);have E0:¬((F.length:Int)<(F.length:Int)):=(by omega);have P0:∀ms∈F,Q0z F.length ms:=fun m hm=>by
    obtain ⟨j,hj⟩:=Ts.1 hm;exact D3 j m (Um.1 hj).1 hj
   have HF:=Xh2 P0 hb;clear P0 hb D3
   by_cases k1:1<=F.length
   ·have k1':(1:Int)<=(F.length:Int):=by omega
    by_cases k4:F.length<=4
    ·have k4':(F.length:Int)<=4:=by omega
     go_wp2_with fail
     go_ret;exact ⟨Q4p.yes ⟨k1,k4,(Xo0 HF)⟩ rfl,(Xe1 HF)⟩
    ·have k4':¬(F.length:Int)<=4:=by omega
     go_wp2_with fail
     go_ret;exact ⟨Q4p.no (fun h=>k4 h.2.1) rfl,(Xe1 HF)⟩
   ·have k1':¬(1:Int)<=(F.length:Int):=by omega
    go_wp2_with fail
    go_ret;exact ⟨Q4p.no (fun h=>k1 h.1) rfl,(Xe1 HF)⟩
def Qdd (ms:List Q01):Int:=Qja (ms.map Q01.term)
theorem Qhh {ms:List Q01} {i:Nat} {m:Q01} (h:ms[i]?=some m):Qdd (ms.take (i+1))=max (Qdd (ms.take i)) m.es.sum:=by
 unfold Qdd Qja;rw[Tc,h,UP,List.foldl_append];rfl
theorem Qe2 (a:OA) (n c:Nat) (ms:List Q01) (k:Nat) (w:World) (h:Q08 w a n c ms) (hr:Q0z k ms):
 Calls Tryz.prog 18 #[.slice a n c] w fun r w'=>r=.returned (.int .i64 (Qdd ms))/\Bw w w':=by
 have Z2:=h.1;subst Z2;have E4:=Ur h.2.1 h.2.2.1
 by_cases h0:ms=[]
 ·subst h0
  go_enter Tryz.func18,Tryz.ntmps18
  go_wp2_with fail
  go_ret;exact ⟨rfl,Uf _ _⟩
 have N5:0<ms.length:=by
  cases ms with
  |nil=>exact absurd rfl h0
  |cons x r=>simp
 have hposb:((ms.length:Int)==0)=false:=by rw[Ui];omega
 have hposI:(0:Int)<(ms.length:Int):=by omega
 obtain ⟨m0,O7⟩:∃m,ms[0]?=some m:=⟨_,Ub N5⟩;obtain ⟨b0,o0,rfl,C4,R1⟩:∃b o,a=some ⟨b,o,none⟩/\b<w.heap.size/\∀j m,ms[j]?=some m->Q31 w b (o+j*4) m:=by
  rcases h.2.2.2 with h1|h1
  ·exact absurd h1 h0
  ·exact h1
 obtain ⟨aw,lw,cw,ae,le,ce,z0,z1,z2,z3,Ku,he0,_,_⟩:=R1 0 m0 O7;have hk:le=k:=by rw[<-he0.len];exact (hr.2.2.2.1 m0 (Ud O7)).1.1.1
 subst hk;have Xy:Calls Tryz.prog 45 #[.slice (some ⟨b0,o0,none⟩) ms.length c,.int .i64 (le:Int)] w fun r w'=>r=.returned (.bool true)/\Bw w w':=(Q34 (some ⟨b0,o0,none⟩) ms.length c ms le w h (by have:=hr.2.1;omega)).mono (by
  rintro r w' ⟨⟨b,rfl,E3⟩,J5⟩;rw[E3.2 hr];exact ⟨rfl,J5⟩)
 rw[TU,Tu] at z3;have HM:=Xh3 h hr Xy;clear h hr Xy R1 Ku he0 z0 z1 z2 h0 O7
 go_enter Tryz.func18,Tryz.ntmps18
 go_wp2_with (refine (Xe2 HM).mono ?_;rintro r w1 ⟨rfl,C0⟩;have K0:=Ua C0;clear C0)
 go_loopw [3,21] (fun sv iv wr=>∃i:Nat,sv=.int .i64 (Qdd (ms.take i))/\iv=.int .i64 (i:Int)/\i<=ms.length/\Bw w wr) (fun _ iv _=>ms.length-(intOf iv).toNat)
 case atStart=>exact ⟨0,rfl,rfl,Uu _,K0.out⟩
 case round=>
  obtain ⟨i,rfl,rfl,hi,hb⟩:=hrel
  by_cases B0:i<ms.length
  ·have E0:(i:Int)<(ms.length:Int):=(by omega);obtain ⟨m,hm⟩:∃m,ms[i]?=some m:=⟨_,Ub B0⟩;have R1:∀j m,ms[j]?=some m->Q31 wr b0 (o0+j*4) m:=by
    rcases ((Xo0 HM).step hb).2.2.2 with h1|⟨b,o,h2,h3,h4⟩
    ·rw[h1] at B0;simp at B0
    ·injection h2 with h2;injection h2 with h5 h6;subst h5;subst h6;exact h4
   obtain ⟨bw,lw2,cw2,be,le2,ce2,k0,k1,k2,k3,hw,he,_,_⟩:=R1 i m hm;have F2:Bw wr (wr.alloc (.cells #[.bool m.neg,.int .i64 m.exp,.slice bw lw2 cw2,.slice be le2 ce2] 44)):=Ba;have hX:=Q38.new wr (.bool m.neg) (.int .i64 m.exp) (.slice bw lw2 cw2) (.slice be le2 ce2) 44;have Xf:=((Xo1 HM).2.2.2.1 m (Ud hm)).1.1;have hre2:Q14 le2 m.es:=(by rw[<-he.len];exact ⟨rfl,Xf.2⟩);generalize I3:wr.alloc (.cells #[.bool m.neg,.int .i64 m.exp,.slice bw lw2 cw2,.slice be le2 ce2] 44)=W0 at F2 hX;obtain ⟨x0,x1,x2,x3,_,_,_,_⟩:=hX;have Z1:=Qtn (.bool m.neg) (.int .i64 m.exp) (.slice bw lw2 cw2) be le2 ce2 m.es W0 (he.step F2) hre2;have hdt:=Qhh hm;obtain ⟨D,hD⟩:∃D,Qdd (ms.take i)=D:=⟨_,rfl⟩;obtain ⟨S,hS⟩:∃S,m.es.sum=S:=⟨_,rfl⟩;rw[hD,hS] at hdt;rw[hS] at Z1;rw[hD];have HA:=Xh3 Z1 hdt (Below.next0 hb F2);clear Z1 hdt hb F2 R1 hw he Xf hre2 hm hD hS
   go_wp2_with (refine (Xo0 HA).mono ?_;rintro r w2 ⟨rfl,D0⟩;have B1:=Ua D0;clear D0)
   refine ⟨⟨i+1,?_,by simp,by omega,Below.next0 (Xe2 HA) B1.out⟩,by simp only[intOf];omega⟩;rw[(Xo1 HA)]
  ·obtain rfl:i=ms.length:=(by omega);have E0:¬((ms.length:Int)<(ms.length:Int)):=(by omega);rw[Ta];have HB:=Ua hb;clear hb
   go_wp2_with fail
   go_ret;exact ⟨rfl,HB.out⟩
def zv (x:Int):Value:=.int .i64 x
theorem Qvg (E:List Int):∀u∈E.map zv,u.oneCell'=true:=by
 intro u hu;obtain ⟨x,_,rfl⟩:=Tm.1 hu;rfl
theorem Q47:(Tryz.prog.info? 3).map (fun i=>(i.zero,i.size,i.bytes))=some (some (.int .i64 0),1,8):=by kernel_rfl
theorem Qto:∀w,(Go.sizeOf 3).run Tryz.prog w=.ok 1 w:=by intro w;kernel_rfl
theorem Row.ints {w:World} {B:Nat} {a:OA} {n c:Nat} {E:List Int} (h:Row w B 3 1 a n c (E.map zv)) (hr:∀x∈E,-9223372036854775808<=x/\x<=9223372036854775807):Q0j w a n c E:=by
 have hl:=h.len;simp only[UQ,Xbx] at hl;refine ⟨hl,h.cap.1,by have:=h.cap.2;simpa[maxLen] using this,⟨hr,?_⟩,?_⟩
 ·intro b o e;rcases h.form with ⟨h1,_⟩|⟨g,cur,rfl,_⟩
  ·rw[h1] at e;cases e
  ·cases e;rfl
 rcases h.form with ⟨_,_,_,h0⟩|⟨g,cur,rfl,_,hg,_⟩
 ·exact .inl (by simpa using h0)
 ·refine .inr ⟨g,0,rfl,hg,fun j x hx=>?_⟩;rw[UB];exact h.cell0 (by rw[UT,hx];rfl)
theorem Qas (b:OA) (m d:Nat) (E:List Int) (w:World) (h:Q0j w b m d E) (h0:E≠[]) (hm:m<=1000000):
 Calls Tryz.prog 137 #[.slice b m d] w fun r w'=>∃g c',r=.returned (.slice (some ⟨g,0,none⟩) m c')/\Row w' w.heap.size 3 1 (some ⟨g,0,none⟩) m c' (E.map zv)/\Bw w w':=by
 obtain ⟨i0,O1,P1,K1,J1⟩:=Xby Q47;have Z2:=h.len;obtain ⟨p,o,rfl,hp,hc⟩:∃p o,b=some ⟨p,o,none⟩/\p<w.heap.size/\∀(j:Nat) x,E[j]?=some x->w.cell? ⟨p,o+j,none⟩=some (.int .i64 x):=by
  rcases h.rd with h1|h1
  ·exact absurd h1 h0
  ·exact h1
 refine (Tryz.J13 i0 (.int .i64 0) 1 8 O1 P1 K1 J1 rfl (by decide) Qto p o m d (E.map zv) w (by simp[Z2]) (by unfold maxLen;omega) (by omega) (fun j u hu=>?_) (Qvg E)).mono ?_
 ·rw[UT] at hu;cases hx:E[j]? with
  |none=>rw[hx] at hu;cases hu
  |some x=>
   rw[hx] at hu;simp only[UM,Un] at hu;subst hu;exact hc j x hx
 ·rintro r w' ⟨v',rfl,⟨hl,G5⟩,Xd,hb⟩;rcases G5 with ⟨e,_⟩|⟨g,cap,cur,rfl,U9,hg,hnc,E4,M8,B6⟩
  ·exact absurd e Xd
  ·exact ⟨g,cap,rfl,⟨hl,.inr ⟨g,cap,cur,rfl,U9,hg,hnc,E4,M8,B6⟩⟩,hb⟩
end Go.Proofs.YtdilmfakkppgpaaGreatDoor
