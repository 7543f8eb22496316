/- Part 17. No condition. -/
import Derived.Test.YtidojbkhlenahaaGreatDoorPkProblemDrawn16
set_option maxRecDepth 100000
set_option maxHeartbeats 16000000
namespace Go.Proofs.YtidojbkhlenahaaGreatDoor
open Go.RowKit WordsM
def Q4r [LT ZK] (w wr:World) (ao:OA) (m co:Nat) (out:List Q0m) (xs:LV):Prop:=out.length=m/\Q4c NoD wr w.heap.size 219 4 ao m co xs/\Q5v w wr out xs/\Bw w wr
def Qwc [LT ZK] (w:World) (ts:List Q0m) (s4 s5:Value) (wr:World):Prop:=∃(i m:Nat) (ao:OA) (co:Nat) (xs:LV),s4=.slice ao m co/\s5=.int .i64 (i:Int)/\i<=ts.length/\Q4r w wr ao m co (Q23 (ts.take i)) xs
theorem Q4r.step [LT ZK] {w wr w':World} {ao:OA} {m co:Nat} {out:List Q0m} {xs:LV} (h:Q4r w wr ao m co out xs) (hb:Bw wr w'):Q4r w w' ao m co out xs:=
 ⟨h.1,h.2.1.step hb,h.2.2.1.keep (fun h=>h.step hb),Below.next0 h.2.2.2 hb⟩
theorem Qu0 [LT ZK] {w W:World} {g m co kk:Nat} {out:List Q0m} {xs:LV} {p:Q0m} {G2:List Q0m} {D:Dyadic} (hp:out[kk]?=some p) (hG:G2=out.set kk (D,p.2)) (h:Q4r w W (some ⟨g,0,none⟩) m co out xs) {n8:Bool} {a8:OA} {l8 c8 v8:Nat} {q8:Int} (hd:Q0v W a8 l8 c8 v8) (hc:Q3j n8 v8 q8) (hD:dy (sgn n8 v8) q8=D):
 ∃xs2,Q4r w (((W.setCell ⟨g,kk*4,none⟩ (.bool n8)).setCell ⟨g,kk*4+1,none⟩ (.slice a8 l8 c8)).setCell ⟨g,kk*4+2,none⟩ (.int .i64 q8)) (some ⟨g,0,none⟩) m co G2 xs2:=by
 obtain ⟨h1,h2,h3,h4⟩:=h;obtain ⟨n,a,l,c,e,v,ae,le,ce,g0,g1,g2,g3,_⟩:=h3.get hp;have J0:∀{j:Nat} {u:Value},xs[j]?=some u->W.cell? ⟨g,j,none⟩=some u:=fun {j u} hj=>by
  obtain ⟨g',e',_,_,F1⟩:=h2.1.at_ hj;injection e' with e';injection e' with e';subst e';exact F1
 have k0:=J0 g0;have k1:=J0 g1;have k2:=J0 g2;have hgB:w.heap.size<=g:=by
  rcases h2.1.form with ⟨h0,_⟩|⟨g',cur,e',hB,_⟩
  ·cases h0
  ·injection e' with e';injection e' with e';subst e';exact hB
 have hk:∀{a l c v},Q0v W a l c v->Q0v (((W.setCell ⟨g,kk*4,none⟩ (.bool n8)).setCell ⟨g,kk*4+1,none⟩ (.slice a8 l8 c8)).setCell ⟨g,kk*4+2,none⟩ (.int .i64 q8)) a l c v:=fun h=>by
  refine ((h.set1 k0 (Qbd _) _).set1 (p:=⟨g,kk*4+1,none⟩) ((Uf _ _ _ _ (by simp)).trans k1) (Q66 _ _ _) _).set1 (p:=⟨g,kk*4+2,none⟩) ((Uf _ _ _ _ (by simp)).trans ((Uf _ _ _ _ (by simp)).trans k2)) (Qfo _) _
 refine ⟨_,by rw[hG,Ti];exact h1,((h2.set (kk*4) (Qbd n8)).set (kk*4+1) (Q66 a8 l8 c8)).set (kk*4+2) (Qfo q8),?_,((h4.setCell (p:=⟨g,kk*4,none⟩) hgB _).setCell (p:=⟨g,kk*4+1,none⟩) hgB _).setCell (p:=⟨g,kk*4+2,none⟩) hgB _⟩;rw[hG,<-hD];exact Q5v.put (hk hd) hc (h3.keep hk) hp
structure Qu1 [LT ZK] (w W:World) (g kk m co b oi:Nat) (out:List Q0m) (xs:LV) (n2:Bool) (a2:OA) (l2 c2 v2:Nat) (e2:Int) (n1:Bool) (a1:OA) (l1 c1 v1:Nat) (e1:Int):Prop where
 o0:W.cell? ⟨g,kk*4,none⟩=some (.bool n2)
 o1:W.cell? ⟨g,kk*4+1,none⟩=some (.slice a2 l2 c2)
 o2:W.cell? ⟨g,kk*4+2,none⟩=some (.int .i64 e2)
 z0:W.frozen? ⟨g,kk*4,none⟩=false
 z1:W.frozen? ⟨g,kk*4+1,none⟩=false
 z2:W.frozen? ⟨g,kk*4+2,none⟩=false
 i0:W.cell? ⟨b,oi,none⟩=some (.bool n1)
 i1:W.cell? ⟨b,oi+1,none⟩=some (.slice a1 l1 c1)
 i2:W.cell? ⟨b,oi+2,none⟩=some (.int .i64 e1)
 d2:Q0v W a2 l2 c2 v2
 d1:Q0v W a1 l1 c1 v1
 st:Q4r w W (some ⟨g,0,none⟩) m co out xs
theorem Qu1.step [LT ZK] {w W W':World} {g kk m co b oi:Nat} {out:List Q0m} {xs:LV} {n2:Bool} {a2:OA} {l2 c2 v2:Nat} {e2:Int} {n1:Bool} {a1:OA} {l1 c1 v1:Nat} {e1:Int} (h:Qu1 w W g kk m co b oi out xs n2 a2 l2 c2 v2 e2 n1 a1 l1 c1 v1 e1) (hb:Bw W W'):Qu1 w W' g kk m co b oi out xs n2 a2 l2 c2 v2 e2 n1 a1 l1 c1 v1 e1:=by
 have hg:g<W.heap.size:=Uz h.o0;have C3:b<W.heap.size:=Uz h.i0;exact ⟨(hb.cell (p:=⟨g,kk*4,none⟩) hg).trans h.o0,(hb.cell (p:=⟨g,kk*4+1,none⟩) hg).trans h.o1,(hb.cell (p:=⟨g,kk*4+2,none⟩) hg).trans h.o2,(hb.frozen (p:=⟨g,kk*4,none⟩) hg).trans h.z0,(hb.frozen (p:=⟨g,kk*4+1,none⟩) hg).trans h.z1,(hb.frozen (p:=⟨g,kk*4+2,none⟩) hg).trans h.z2,
  (hb.cell (p:=⟨b,oi,none⟩) C3).trans h.i0,(hb.cell (p:=⟨b,oi+1,none⟩) C3).trans h.i1,(hb.cell (p:=⟨b,oi+2,none⟩) C3).trans h.i2,h.d2.step hb,h.d1.step hb,h.st.step hb⟩
theorem Q0p.heap [LT ZK] {w W:World} {a:OA} {n c:Nat} {E:List Int} (h:Q0p w a n c E) (hh:W.heap=w.heap):Q0p W a n c E:=by
 refine ⟨h.len,h.cap,h.most,h.rng,?_⟩;rw[hh];exact h.rd.keep fun p _=>by unfold World.cell?;rw[hh]
def Q3b (w W:World):Prop:=∃q,W=w.drewN q
theorem Q3b.step {w W:World} (h:Q3b w W) (k:Nat):Q3b w (W.drewN k):=by
 obtain ⟨q,rfl⟩:=h;exact ⟨_,Xbj ..⟩
theorem Q3b.below {w W:World} (h:Q3b w W):Bw w W:=by
 obtain ⟨q,rfl⟩:=h;exact Q19 (Ud _ _) q
theorem Q3b.heap {w W:World} (h:Q3b w W):W.heap=w.heap:=by
 obtain ⟨q,rfl⟩:=h;rfl
theorem Q3b.trans {w W V:World} (h:Q3b w W) (h2:Q3b W V):Q3b w V:=by
 obtain ⟨q,rfl⟩:=h2;exact h.step q
theorem Q3b.cell {w W:World} (h:Q3b w W) (p:Addr):W.cell? p=w.cell? p:=by unfold World.cell?;rw[h.heap]
theorem Q5b {Φ P:World->Prop} (W:World) (hW:Φ W) (h:∀U,Φ U->P U):P W:=h W hW
theorem Q4c.block {Pr:Value->Prop} {w:World} {B:Nat} {e:TypeId} {k m c:Nat} {a:OA} {xs:LV} (h:Q4c Pr w B e k a m c xs) (hm:0<m):∃g,a=some ⟨g,0,none⟩/\(∀i,w.frozen? ⟨g,i,none⟩=false)/\∀j u,xs[j]?=some u->w.cell? ⟨g,j,none⟩=some u:=by
 rcases h.1.form with ⟨_,h0,_⟩|⟨g,cur,rfl,_,_,hh,_⟩
 ·omega
 ·refine ⟨g,rfl,fun i=>Tx _ _ _ _ _ hh,fun j u hj=>?_⟩;obtain ⟨g',e',_,_,F1⟩:=h.1.at_ hj;injection e' with e';injection e' with e';subst e';exact F1
theorem Qo5 [LT ZK] (a:OA) (n c:Nat) (ts:List Q0m) (k T:Nat) (w:World) (h:Qqz w a n c ts) (hE:∀p∈ts,p.2.length=k) (QS:∀p∈ts,bnd T p.1) (hn:n<=1000) (hT:T+n<=500000) (hk:1<=k) (K6:k<=1000):
 Calls Tryz.prog 169 #[.slice a n c] w (Q3a w (Q41 ts)):=by
 have P2:=h.1;have E3:=Uj h.2.1 h.2.2.1;obtain ⟨X,hX⟩:∃X,Q41 ts=X:=⟨_,rfl⟩;rw[hX];have H:=Xh4 h hE QS hX;clear h hE QS hX
 go_enter Tryz.func169,Tryz.ntmps169
 go_wp2_with fail
 go_loopw [4,5] (fun s4 s5 wr=>Qwc w ts s4 s5 wr) (fun _ iv _=>n-(intOf iv).toNat)
 case atStart=>exact ⟨0,0,none,0,[],rfl,rfl,Uv _,rfl,Q4c.nil_ _ _ _ _ _,rfl,Ud _ _⟩
 case round=>
  obtain ⟨i,m,ao,co,xs,rfl,rfl,hi,R0⟩:=hrel
  by_cases F0:i<n
  ·have G0:(i:Int)<(n:Int):=(by omega);obtain ⟨cc,Y3⟩:∃cc,ts[i]?=some cc:=⟨_,Ub (by omega)⟩;have KJ:m<=i:=(by rw[<-R0.1];exact Qbf ts i);have hob:=Qbe (Xo2 H) i;have hoe:∀p∈Q23 (ts.take i),p.2.length=k:=fun p hp=>by
    obtain ⟨q,hq,he⟩:=(Q6l (ts.take i)).2.2.1 p hp;rw[<-he];exact (Xo1 H) q (Td hq)
   have C7:Q23 (ts.take (i+1))=Q8f (Q23 (ts.take i)) cc:=(by rw[Tu,Y3];exact Q7v _ _);obtain ⟨out,M3⟩:∃out,Q23 (ts.take i)=out:=⟨_,rfl⟩;rw[M3] at R0 hob hoe C7;obtain ⟨_,_,_,h0|⟨b,o,rfl,C3,ys,WU,hyc⟩⟩:=(Xo0 H)
   ·rw[h0] at Y3;simp at Y3
   obtain ⟨n1,a1,l1,c1,e1,v1,ae1,le1,ce1,y0,y1,y2,y3,D3,J1,Wz,hE1⟩:=WU.get Y3;obtain rfl:le1=k:=(by rw[<-hE1.len];exact (Xo1 H) cc (Ug Y3));have Y0:=R0.2.2.2;have We:∀j u,ys[i*4+j]?=some u->w.cell? ⟨b,o+i*4+j,none⟩=some u:=fun j u hj=>by rw[Nat.add_assoc];exact hyc _ _ hj
   have Yg:=Xh4 (hyc _ _ y0) (We _ _ y1) (We _ _ y2) (We _ _ y3);have q0:=(Y0.cell (p:=⟨b,o+i*4,none⟩) C3).trans (hyc _ _ y0);have q1:=(Y0.cell (p:=⟨b,o+(i*4+1),none⟩) C3).trans (hyc _ _ y1);have q2:=(Y0.cell (p:=⟨b,o+(i*4+2),none⟩) C3).trans (hyc _ _ y2);have q3:=(Y0.cell (p:=⟨b,o+(i*4+3),none⟩) C3).trans (hyc _ _ y3);rw[<-Nat.add_assoc] at q1 q2 q3;have hcb:bnd T cc.1:=(Xo2 H) cc (Ug Y3);have hmc:=Uj R0.2.1.1.cap.1 R0.2.1.1.cap.2;have hmco:=R0.2.1.1.cap.1;have HS:=Xh10 R0 hob hoe C7 D3 J1 Wz hE1 hcb Y0;clear R0 hob hoe C7 D3 J1 Wz hE1 hcb Y0 Y3 WU hyc We y0 y1 y2 y3 M3
   go_wp2_with fail
   rename World=>wl
   go_loopw [6] (fun s6 wr=>∃kk:Nat,s6=.int .i64 (kk:Int)/\kk<=m/\(∀j p,j<kk->out[j]?=some p->0<Q2w p.2 cc.2)/\Q3b wl wr) (fun iv _=>m-(intOf iv).toNat)
   case atStart=>exact ⟨0,rfl,Uv _,fun j p hj=>absurd hj (Tf _),0,rfl⟩
   case round=>
    obtain ⟨kk,rfl,hkm,ZJ,A7⟩:=hrel;have J0:∀p,wr.cell? p=wl.cell? p:=fun p=>by unfold World.cell?;rw[A7.heap]
    by_cases M9:kk<m
    ·have hkm':(kk:Int)<(m:Int):=(by omega);obtain ⟨p,hp⟩:∃p,out[kk]?=some p:=⟨_,Ub (by rw[(Xo0 HS).1];exact M9)⟩;obtain ⟨g,rfl,JL,Jm⟩:=(Xo0 HS).2.1.block (by omega);obtain ⟨n2,a2,l2,c2,e2,v2,ae2,le2,ce2,g0,g1,g2,g3,Z2,I1,Zm,Vi⟩:=(Xo0 HS).2.2.1.get hp;obtain rfl:le2=le1:=(by rw[<-Vi.len];exact (Xo2 HS) p (Ug hp));have x0:=(J0 ⟨g,kk*4,none⟩).trans (Jm _ _ g0);have x1:=(J0 ⟨g,kk*4+1,none⟩).trans (Jm _ _ g1);have x2:=(J0 ⟨g,kk*4+2,none⟩).trans (Jm _ _ g2);have x3:=(J0 ⟨g,kk*4+3,none⟩).trans (Jm _ _ g3);have z0:=(J0 ⟨b,o+i*4,none⟩).trans q0;have z1:=(J0 ⟨b,o+i*4+1,none⟩).trans q1;have z2:=(J0 ⟨b,o+i*4+2,none⟩).trans q2;have z3:=(J0 ⟨b,o+i*4+3,none⟩).trans q3;have QL:∀W:World,Q3b wr W->Calls Tryz.prog 100 #[.slice ae2 le2 ce2,.slice ae1 le2 ce1] W fun e w'=>e=.returned (.int .i64 (Q2w p.2 cc.2))/\∃n,w'=W.drewN n:=fun W hW=>by
      have hh:W.heap=wl.heap:=hW.heap.trans A7.heap;exact Q5t ae2 le2 ce2 p.2 ae1 ce1 cc.2 W ((Vi.step (Xe9 HS)).heap hh) (((Xo7 HS).step (Xe9 HS)).heap hh)
     obtain ⟨V,hV⟩:∃V,Q2w p.2 cc.2=V:=⟨_,rfl⟩;rw[hV] at QL
     by_cases hgt:0<V
     ·have HX:=Xh4 A7 ZJ hp hV;clear A7 ZJ hp hV J0 Jm Z2 I1 Zm Vi g0 g1 g2 g3 JL
      go_wp2_with fail
      go_quiet (first|(refine Calls.quiet_of (QL _ ?_);first|exact ⟨_,rfl⟩|exact Q3b.step ⟨_,rfl⟩ _|exact ⟨0,rfl⟩))
      go_wp2_with fail
      refine ⟨⟨kk+1,congrArg (Value.int .i64) (by omega),by omega,fun j p' hj ZN=>?_,(Xo0 HX).step _⟩,by simp only[intOf];omega⟩
      by_cases QG:j=kk
      ·subst QG;rw[(Xo2 HX)] at ZN;injection ZN with ZN;rw[<-ZN,(Xe3 HX)];exact hgt
      ·exact (Xo1 HX) j p' (by omega) ZN
     ·by_cases M7:V=0
      ·subst M7;obtain ⟨G2,hG2⟩:∃G2,Q23 (ts.take (i+1))=G2:=⟨_,rfl⟩;have hG3:G2=out.set kk (p.1+cc.1,p.2):=(by rw[<-hG2,(Xo3 HS)];exact Qr0 ZJ hp hV);have hb2':bnd 500000 (dy (sgn n2 v2) e2):=(by rw[Zm];exact ((Xo1 HS) p (Ug hp)).more (by omega));have hb1':bnd 500000 (dy (sgn n1 v1) e1):=(by rw[(Xo6 HS)];exact (Xo8 HS).more (by omega));have M5:dy (sgn n2 v2) e2+dy (sgn n1 v1) e1=p.1+cc.1:=(by rw[Zm,(Xo6 HS)]);have N6:Qu1 w wl g kk m co b (o+i*4) out xs n2 a2 l2 c2 v2 e2 n1 a1 l1 c1 v1 e1:=⟨Jm _ _ g0,Jm _ _ g1,Jm _ _ g2,JL _,JL _,JL _,q0,q1,q2,Z2,(Xo4 HS).step (Xe9 HS),(Xo0 HS)⟩;have HW:=Xh2 A7 N6;have HG:=Xh7 I1 (Xo5 HS) hb2' hb1' hp hG3 M5;have HG2:=Ua hG2;clear A7 ZJ hp hV J0 Jm Z2 I1 Zm Vi g0 g1 g2 g3 JL N6 hb2' hb1' M5 hG3 hG2
       go_wp2_with fail
       go_quiet (first|(refine Calls.quiet_of (QL _ ?_);first|exact ⟨_,rfl⟩|exact Q3b.step ⟨_,rfl⟩ _|exact ⟨0,rfl⟩))
       go_upto_region 8 with fail
       refine Q5b (Φ:=Q3b wr) (P:=fun U=>Code.wp _ _ _ _ U) _ (by first|exact ⟨_,rfl⟩|exact Q3b.step ⟨_,rfl⟩ _|exact Q3b.step (Q3b.step ⟨_,rfl⟩ _) _) ?_;intro V1 P5;have u1:=(P5.cell ⟨g,kk*4+3,none⟩).trans x3;have u3:=(P5.cell ⟨b,o+i*4+3,none⟩).trans z3;have ho8:=fun W (h:Q3b V1 W)=>QL W (P5.trans h);clear QL x0 x1 x2 x3 z0 z1 z2 z3
       go_quiet (first|(refine Calls.quiet_of (ho8 _ ?_);first|exact ⟨_,rfl⟩|exact Q3b.step ⟨_,rfl⟩ _|exact ⟨0,rfl⟩))
       go_upto_region 9 with fail
       refine Q5b (Φ:=Q3b wl) (P:=fun U=>Code.wp _ _ _ _ U) _ (by first|exact (Xo0 HW)|exact (Xo0 HW).step _|exact ((Xo0 HW).step _).step _|exact (Xo0 HW).trans P5|exact (Xo0 HW).trans (P5.step _)|exact (Xo0 HW).trans ((P5.step _).step _)) ?_;intro U hU;have HC:=Ua (fun W (h:Bw U W)=>(Xe1 HW).step (Below.next0 hU.below h));clear hU;refine Q1y (by kernel_rfl) 15 rfl (fun W=>Bw U W) (fun _ _ h h'=>Below.next0 h h') (Q3q [.slice (some ⟨g,0,none⟩) m co,.int .i64 (kk:Int),.slice (some ⟨g,0,none⟩) m co,.int .i64 (kk:Int),.pointer (some ⟨g,kk*4,none⟩),.pointer (some ⟨g,kk*4,none⟩),.agg #[.bool n2,.slice a2 l2 c2,.int .i64 e2],.slice (some ⟨b,o,none⟩) n c,.int .i64 (i:Int),.pointer (some ⟨b,o+i*4,none⟩),.pointer (some ⟨b,o+i*4,none⟩),.agg #[.bool n1,.slice a1 l1 c1,.int .i64 e1],undef,.pointer (some ⟨g,kk*4,none⟩),.pointer (some ⟨g,kk*4,none⟩)] (Q13 [(12,fun u w=>Q5c w u (dy (sgn n2 v2) e2+dy (sgn n1 v1) e1))])) (Q08 (Q0e (Qvr (Q1g _)))) (fun W=>∃xs2,Q4r w W (some ⟨g,0,none⟩) m co G2 xs2) (by kernel_rfl) (by kernel_rfl) (by kernel_rfl) (by kernel_rfl) (Q04 U) ?_ ?_ ?_
       ·skip
        repeat' (first|exact Q83|refine Q82 ?_ ?_)
        all_goals first
         |(refine Q1p rfl fun A W hW E0 hd hd=>?_
           simp[Q72,Region.binds,Q13] at hd;have e4:=Q07 E0 4 (by kernel_rfl) rfl;have e6:=Q07 E0 6 (by kernel_rfl) rfl;have e0:=Q07 E0 0 (by kernel_rfl) rfl;have e5:=Q07 E0 5 (by kernel_rfl) rfl;refine Q12 rfl rfl ?_;simp[go_sem,hd,e4,e6,e0,e5,hkm',(HC.out W hW).o0,(HC.out W hW).o1,(HC.out W hW).o2,G0,(HC.out W hW).i0,(HC.out W hW).i1,(HC.out W hW).i2]
           done)
         |skip
        ·intro A W hW E0 A0;have e62:=Q11 A0 6 (by decide) rfl rfl rfl;have e67:=Q11 A0 11 (by decide) rfl rfl rfl;refine Q02 rfl ?_;refine Q0s (f:=151) (args:= #[.agg #[.bool n2,.slice a2 l2 c2,.int .i64 e2],.agg #[.bool n1,.slice a1 l1 c1,.int .i64 e1]]) (by simp[go_sem,e62,e67]) ((Q8s n2 a2 l2 c2 e2 v2 n1 a1 l1 c1 e1 v1 W (HC.out W hW).d2 (HC.out W hW).d1 (Xo0 HG) (Xo1 HG) 500000 (Xo2 HG) (Xo3 HG) (Ue _)).mono ?_);rintro e w2' ⟨u',rfl,B9,F3⟩;exact ⟨_,rfl,F3,(Q00 rfl).2 B9⟩
       ·intro A W hW E0 A0;obtain ⟨n8,a8,l8,c8,q8,v8,A9,Qv,u6,Y9⟩:=(Q00 rfl).1 (A0 12 (by decide));have e68:=Q1o A9;have e70:=Q11 A0 14 (by decide) rfl rfl rfl;have hgg:=HC.out W hW;have k0:=hgg.o0;have f0:=hgg.z0;have f1:=hgg.z1;have f2:=hgg.z2;have d1:(W.setCell ⟨g,kk*4,none⟩ (.bool n8)).cell? ⟨g,kk*4+1,none⟩=some (.slice a2 l2 c2):=(Uf _ _ _ _ (by simp)).trans hgg.o1;have d2:((W.setCell ⟨g,kk*4,none⟩ (.bool n8)).setCell ⟨g,kk*4+1,none⟩ (.slice a8 l8 c8)).cell? ⟨g,kk*4+2,none⟩=some (.int .i64 e2):=(Uf _ _ _ _ (by simp)).trans ((Uf _ _ _ _ (by simp)).trans hgg.o2);refine Q2p (w':=(((W.setCell ⟨g,kk*4,none⟩ (.bool n8)).setCell ⟨g,kk*4+1,none⟩ (.slice a8 l8 c8)).setCell ⟨g,kk*4+2,none⟩ (.int .i64 q8))) (by simp[go_sem,e70,e68,k0,f0,f1,f2,d1,d2]) ?_;exact Qu0 (Xo4 HG) (Xo5 HG) (HC.out W hW).st Qv u6 (Y9.trans (Xe6 HG))
       intro vs W2 I2;obtain ⟨xs2,hst2⟩:=I2;have HF:=Ua hst2;clear hst2;simp only[Q0t,Act.put,Um,Ux,Ut]
       go_wp2_with fail
       exact ⟨⟨i+1,m,some ⟨g,0,none⟩,co,xs2,rfl,congrArg (Value.int .i64) (by omega),by omega,by rw[HG2.out];exact HF.out⟩,by simp only[intOf];omega⟩
      ·have hv0':(V==0)=false:=(by rw[Uk];exact M7);have HW:=Ua (And.intro A7 (And.intro ZJ (show∀p',out[kk]?=some p'->Q2w p'.2 cc.2<0 from fun p' ZN=>by
        rw[hp] at ZN;injection ZN with ZN;rw[<-ZN,hV];omega)))
       clear A7 ZJ hp hV J0 Jm Z2 I1 Zm Vi g0 g1 g2 g3 JL
       go_wp2_with fail
       go_quiet (first|(refine Calls.quiet_of (QL _ ?_);first|exact ⟨_,rfl⟩|exact Q3b.step ⟨_,rfl⟩ _|exact ⟨0,rfl⟩))
       go_upto_region 8 with fail
       refine Q5b (Φ:=Q3b wr) (P:=fun U=>Code.wp _ _ _ _ U) _ (by first|exact ⟨_,rfl⟩|exact Q3b.step ⟨_,rfl⟩ _|exact Q3b.step (Q3b.step ⟨_,rfl⟩ _) _) ?_;intro V1 P5;have u1:=(P5.cell ⟨g,kk*4+3,none⟩).trans x3;have u3:=(P5.cell ⟨b,o+i*4+3,none⟩).trans z3;have ho8:=fun W (h:Q3b V1 W)=>QL W (P5.trans h);clear QL x0 x1 x2 x3 z0 z1 z2 z3
       go_quiet (first|(refine Calls.quiet_of (ho8 _ ?_);first|exact ⟨_,rfl⟩|exact Q3b.step ⟨_,rfl⟩ _|exact ⟨0,rfl⟩))
       go_upto_region 11 with fail
       refine Q5b (Φ:=Q3b wl) (P:=fun U=>Code.wp _ _ _ _ U) _ (by first|exact (Xo0 HW)|exact (Xo0 HW).step _|exact ((Xo0 HW).step _).step _|exact (Xo0 HW).trans P5|exact (Xo0 HW).trans (P5.step _)|exact (Xo0 HW).trans ((P5.step _).step _)) ?_;intro U hU;have hUb:=hU.below;have QK:=(Xo0 HS).step hUb;have XK:=QK.2.2.2;obtain ⟨a7,c7,w7,Qy,N7,a8,c8,w8,O3,G5,a9,c9,w9,J9,N3,D9,QI⟩:=Qeh w U XK (some ⟨g,0,none⟩) m co xs out QK.1 QK.2.1 QK.2.2.1 kk hkm cc [.bool n1,.slice a1 l1 c1,.int .i64 e1,.slice ae1 le2 ce1] ⟨n1,a1,l1,c1,e1,v1,ae1,le2,ce1,[],rfl,⟨(Xo4 HS).step XK,(Xo5 HS),(Xo6 HS),(Xo7 HS)⟩,rfl⟩ (by omega);have p0:=(N7.cell (p:=⟨b,o+i*4,none⟩) C3).trans (Xo0 Yg);have p1:=(N7.cell (p:=⟨b,o+i*4+1,none⟩) C3).trans (Xo1 Yg);have p2:=(N7.cell (p:=⟨b,o+i*4+2,none⟩) C3).trans (Xo2 Yg);have p3:=(N7.cell (p:=⟨b,o+i*4+3,none⟩) C3).trans (Xe3 Yg);have B5:=fun W=>Qi2 W (some ⟨g,0,none⟩) m co kk (by omega);have V8:=fun W=>Qi1 W (some ⟨g,0,none⟩) m co kk hkm;have o7:Q23 (ts.take (i+1))=out.take kk++cc::out.drop kk:=by
        rw[(Xo3 HS)];exact Qhy (by rw[(Xo0 HS).1];exact hkm) (Xo1 HW) (Xe2 HW)
       have Q3:∃xs',Q4r w w9 a9 (m+1) c9 (Q23 (ts.take (i+1))) xs':=by
        rw[o7];exact ⟨_,by rw[Ui,Ul,UR,Th,(Xo0 HS).1];omega,D9,QI,N3⟩
       obtain ⟨xs9,hx9⟩:=Q3;have HR:=Ua hx9;clear hx9 D9 QI N3 o7 hUb QK XK N7 G5
       go_wp2_with (first
        |(at_builtin;refine Q0d rfl (.tmp 71) (.tmp 74) 217 217 rfl _ _ rfl rfl _ _ Qy ?_)
        |(at_builtin;refine Q0d rfl (.tmp 76) (.tmp 81) 217 217 rfl _ _ rfl rfl _ _ O3 ?_)
        |(at_builtin;refine Q0d rfl (.tmp 83) (.tmp 86) 217 217 rfl _ _ rfl rfl _ _ J9 ?_))
       exact ⟨⟨i+1,m+1,a9,c9,xs9,rfl,congrArg (Value.int .i64) (by omega),by omega,HR.out⟩,by simp only[intOf];omega⟩
    ·have hkm':¬(kk:Int)<(m:Int):=(by omega);have HW:=Ua (And.intro A7 (And.intro ZJ (show∀p',out[kk]?=some p'->Q2w p'.2 cc.2<0 from fun p' ZN=>by
      have:=(Uh.1 ZN).1;have:=(Xo0 HS).1;omega)))
     clear A7 ZJ J0
     go_wp2_with fail
     go_quiet (fail)
     go_wp2_with fail
     go_quiet (fail)
     go_upto_region 11 with fail
     refine Q5b (Φ:=Q3b wl) (P:=fun U=>Code.wp _ _ _ _ U) _ (by first|exact (Xo0 HW)|exact (Xo0 HW).step _|exact ((Xo0 HW).step _).step _|exact (Xo0 HW).trans P5|exact (Xo0 HW).trans (P5.step _)|exact (Xo0 HW).trans ((P5.step _).step _)) ?_;intro U hU;have hUb:=hU.below;have QK:=(Xo0 HS).step hUb;have XK:=QK.2.2.2;obtain ⟨a7,c7,w7,Qy,N7,a8,c8,w8,O3,G5,a9,c9,w9,J9,N3,D9,QI⟩:=Qeh w U XK ao m co xs out QK.1 QK.2.1 QK.2.2.1 kk hkm cc [.bool n1,.slice a1 l1 c1,.int .i64 e1,.slice ae1 le1 ce1] ⟨n1,a1,l1,c1,e1,v1,ae1,le1,ce1,[],rfl,⟨(Xo4 HS).step XK,(Xo5 HS),(Xo6 HS),(Xo7 HS)⟩,rfl⟩ (by omega);have p0:=(N7.cell (p:=⟨b,o+i*4,none⟩) C3).trans (Xo0 Yg);have p1:=(N7.cell (p:=⟨b,o+i*4+1,none⟩) C3).trans (Xo1 Yg);have p2:=(N7.cell (p:=⟨b,o+i*4+2,none⟩) C3).trans (Xo2 Yg);have p3:=(N7.cell (p:=⟨b,o+i*4+3,none⟩) C3).trans (Xe3 Yg);have B5:=fun W=>Qi2 W ao m co kk (by omega);have V8:=fun W=>Qi1 W ao m co kk hkm;have o7:Q23 (ts.take (i+1))=out.take kk++cc::out.drop kk:=by
      rw[(Xo3 HS)];exact Qhy (by rw[(Xo0 HS).1];exact hkm) (Xo1 HW) (Xe2 HW)
     have Q3:∃xs',Q4r w w9 a9 (m+1) c9 (Q23 (ts.take (i+1))) xs':=by
      rw[o7];exact ⟨_,by rw[Ui,Ul,UR,Th,(Xo0 HS).1];omega,D9,QI,N3⟩
     obtain ⟨xs9,hx9⟩:=Q3;have HR:=Ua hx9;clear hx9 D9 QI N3 o7 hUb QK XK N7 G5
     go_wp2_with (first
      |(at_builtin;refine Q0d rfl (.tmp 71) (.tmp 74) 217 217 rfl _ _ rfl rfl _ _ Qy ?_)
      |(at_builtin;refine Q0d rfl (.tmp 76) (.tmp 81) 217 217 rfl _ _ rfl rfl _ _ O3 ?_)
      |(at_builtin;refine Q0d rfl (.tmp 83) (.tmp 86) 217 217 rfl _ _ rfl rfl _ _ J9 ?_))
     exact ⟨⟨i+1,m+1,a9,c9,xs9,rfl,congrArg (Value.int .i64) (by omega),by omega,HR.out⟩,by simp only[intOf];omega⟩
  ·have G0:¬(i:Int)<(n:Int):=(by omega);have p8:ts.take i=ts:=Uw (by omega);obtain ⟨out,M3⟩:∃out,Q23 ts=out:=⟨_,rfl⟩;have KJ:m<=n:=(by rw[<-R0.1];exact Uj (Qbf ts i) (by omega));have hob:∀p∈out,bnd (T+n) p.1:=fun p hp=>by
    refine (Qbe (Xo2 H) i p (by rw[p8,M3];exact hp)).more (by omega)
   have hoe:∀p∈out,p.2.length=k:=fun p hp=>by
    obtain ⟨q,hq,he⟩:=(Q6l ts).2.2.1 p (by rw[M3];exact hp);rw[<-he];exact (Xo1 H) q hq
   rw[p8,M3] at R0;have hmco:=R0.2.1.1.cap.1;have hmc:=Uj R0.2.1.1.cap.1 R0.2.1.1.cap.2;have HS:=Xh4 R0 hob hoe M3;clear R0 hob hoe M3 p8
   go_wp2_with fail
   rename World=>wl
   go_loopw [8,9] (fun s8 s9 wr=>Qyw wl out s8 s9 wr) (fun _ iv _=>m-(intOf iv).toNat)
   case atStart=>exact ⟨0,0,none,0,[],[],rfl,rfl,Uv _,Ue _,Q67.nil_ _ _,rfl,(fun m hm=>by cases hm),(fun p hp=>by simp at hp),Ud _ _⟩
   case round=>
    obtain ⟨j,N,a1,c1,ms,zs,rfl,rfl,hj,hNj,A1,K9,X1,K3,Z0⟩:=hrel
    by_cases hjm:j<m
    ·have hjm':(j:Int)<(m:Int):=(by omega);have hj1:j+1<=out.length:=(by rw[(Xo0 HS).1];exact hjm);obtain ⟨p,hp⟩:∃p,out[j]?=some p:=⟨_,Ub (by rw[(Xo0 HS).1];exact hjm)⟩;obtain ⟨g,rfl,JL,Jm⟩:=(Xo0 HS).2.1.block (by omega);obtain ⟨n2,a2,l2,c2,e2,v2,ae2,le2,ce2,g0,g1,g2,g3,Z2,I1,Zm,Vi⟩:=(Xo0 HS).2.2.1.get hp;have Xn:g<wl.heap.size:=Uz (Jm _ _ g0);have x0:=(Z0.cell (p:=⟨g,j*4,none⟩) Xn).trans (Jm _ _ g0);have x1:=(Z0.cell (p:=⟨g,j*4+1,none⟩) Xn).trans (Jm _ _ g1);have x2:=(Z0.cell (p:=⟨g,j*4+2,none⟩) Xn).trans (Jm _ _ g2);have x3:=(Z0.cell (p:=⟨g,j*4+3,none⟩) Xn).trans (Jm _ _ g3);have hE2':Q0p wr ae2 le2 ce2 p.2:=(Vi.step (Xo0 HS).2.2.2).step Z0;have N5:Q0v wr a2 l2 c2 v2:=Z2.step Z0;have hle2:le2=k:=(by rw[<-Vi.len];exact (Xo2 HS) p (Ug hp));have Z6:l2<=1000000:=by
      have hb:=Q8l (k:=31250) I1 (by rw[Zm];exact (Xo1 HS) p (Ug hp)) (by omega);have:=Z2.len;omega
     have hE0:p.2≠[]:=fun e=>by
      have:=(Xo2 HS) p (Ug hp);rw[e] at this;simp at this;omega
     have HE0:=Xh2 hE0 (show le2<=1000 by omega);have o4:=Qcn n2 a2 l2 c2 e2 v2 wr N5 I1
     by_cases hz:p.1=0
     ·have Jh:Qnn n2 v2=0:=(Qhw I1).2 (Zm.trans hz);rw[Jh] at o4;have HX:=Xh5 A1 (by rw[Qw8 hp hz];exact K9:ms.map Q01.term=(out.take (j+1)).filter (fun p=>decide (p.1≠0))) X1 (Qi6 hp (by rw[hz];exact Qgh) K3) Z0;clear A1 K9 X1 K3 Z0 hp Jm g0 g1 g2 g3 Z2 I1 Zm Vi hE2' N5 hle2 hE0 hz Jh JL Z6
      go_wp2_with (go_at_call 102;refine o4.mono ?_;rintro r w3 ⟨rfl,M0⟩;have HB:=Ua M0;clear M0)
      exact ⟨⟨j+1,N,a1,c1,ms,zs,rfl,congrArg (Value.int .i64) (by omega),hj1,by omega,(Xo0 HX).step HB.out,(Xo1 HX),(Xo2 HX),(Xo3 HX),Below.next0 (Xe4 HX) HB.out⟩,by simp only[intOf];omega⟩
     ·have Jh:Qnn n2 v2≠0:=fun e=>hz (Zm.symm.trans ((Qhw I1).1 e));obtain ⟨Sg,hSg⟩:∃Sg,Qnn n2 v2=Sg:=⟨_,rfl⟩;rw[hSg] at Jh o4;have KL:(Sg==0)=false:=(by rw[Uk];exact Jh);have Yu:∀W,Bw wr W->W.cell? ⟨g,j*4,none⟩=some (.bool n2)/\W.cell? ⟨g,j*4+1,none⟩=some (.slice a2 l2 c2)/\W.cell? ⟨g,j*4+2,none⟩=some (.int .i64 e2):=fun W hW=>⟨(hW.cell (p:=⟨g,j*4,none⟩) (Uz x0)).trans x0,(hW.cell (p:=⟨g,j*4+1,none⟩) (Uz x1)).trans x1,(hW.cell (p:=⟨g,j*4+2,none⟩) (Uz x2)).trans x2⟩;have K1:=fun W (hW:Bw wr W)=>Q7u n2 a2 l2 c2 v2 e2 W (N5.step hW) Z6;have HX:=Xh13 A1 K9 X1 K3 Z0 hp I1 Zm hE2' x3 hz Yu K1;clear A1 K9 X1 K3 Z0 hp Jm g0 g1 g2 g3 Z2 I1 Zm Vi hE2' N5 hle2 hE0 hz hSg Jh JL Z6 x3 Yu K1
      go_upto_region 20 with (first
       |(go_at_call 102
         refine o4.mono ?_;rintro r w3 ⟨rfl,M0⟩;obtain ⟨y0,y1,y2⟩:=(Xo11 HX) w3 M0;have K1:=(Xe12 HX) w3 M0;have HB:=Ua M0;clear M0 o4)
       |(go_at_call 118
         refine K1.mono ?_;rintro r w4 ⟨neg9,e9,a9,n9,c9,L9,er,rfl,Wb,hwi,Y2⟩;have HN:=Xh3 Wb hwi Y2;clear Wb hwi Y2))
      refine Q5b (Φ:=fun U=>Bw w4 U/\Q03 U w4.heap.size (.bool neg9) (.int .i64 e9) (.slice a9 n9 c9)) (P:=fun U=>Code.wp _ _ _ _ U) _ ⟨Ba,Q03.new _ _ _ _ _⟩ ?_;intro U hU;have XK:Bw wr U:=Below.next0 (Below.next0 HB.out (Xe2 HN)) hU.1;have hft:=Qds (Xo6 HX) (Xo0 HN);rw[(Xo7 HX)] at hft;have hwU:=(Xo1 HN).step hU.1;have i6:Qlv U w4.heap.size g (j*4+3) (.bool neg9) (.int .i64 e9) (.slice a9 n9 c9) ae2 le2 ce2 p.2:=⟨hU.2,(XK.cell (p:=⟨g,j*4+3,none⟩) (Uz (Xo9 HX))).trans (Xo9 HX),(Xo8 HX).step XK⟩;have HC:=Ua (fun W (h:Bw U W)=>i6.step h);have HT:=Xh4 ((Xo0 HX).step XK) (Uj (Xo4 HX).size XK.size) hwU (show N<=1000 by omega);have HY:=Ua XK;clear hU XK hwU i6;rcases hft with ⟨hf,rfl,S9,hnd⟩|⟨hf,rfl,rfl,rfl,rfl⟩
      ·have HF:=Xh3 hf S9 hnd;clear hf S9 hnd
       go_upto_region 22 with fail
       refine Q5u (by kernel_rfl) 11 rfl (fun W=>Bw U W) (fun _ _ h h'=>Below.next0 h h') (Q3q [.slice a1 N c1,.agg #[.bool neg9,.int .i64 e9,.slice a9 n9 c9],undef,.slice (some ⟨g,0,none⟩) m co,.int .i64 (j:Int),.pointer (some ⟨g,j*4,none⟩),.pointer (some ⟨g,j*4+3,none⟩),.slice ae2 le2 ce2,undef,undef,undef] (Q13 [(2,Emp),(8,Qxy U.heap.size le2 p.2),(9,Qxz U.heap.size le2 p.2 (.bool neg9) (.int .i64 e9) (.slice a9 n9 c9)),(10,Qr1 U.heap.size le2 p.2 (.bool neg9) (.int .i64 e9) (.slice a9 n9 c9))])) (Q08 (Q0e (Qt4 Qnr (Qi4 _ _ _) (Qi5 _ _ _ _ _ _) (Qfp _ _ _ _ _ _)))) (fun v W'=>∃a8 c8 zs8,v=.slice a8 (N+1) c8/\Q67 wl.heap.size W' a8 (N+1) c8 (ms++[⟨neg9,e9,L9,p.2⟩]) zs8/\Below wl.heap.size U W') (by kernel_rfl) (by kernel_rfl) (by kernel_rfl) (by kernel_rfl) (Q04 U) ?_ ?_ ?_
       ·skip
        repeat' (first|exact Q83|refine Q82 ?_ ?_)
        all_goals first
         |(refine Q1p rfl fun A W hW E0 hd hd=>?_
           simp[Q72,Region.binds,Q13] at hd;have e8:=Q07 E0 8 (by kernel_rfl) rfl;have e10:=Q07 E0 10 (by kernel_rfl) rfl;have e4:=Q07 E0 4 (by kernel_rfl) rfl;have e9:=Q07 E0 9 (by kernel_rfl) rfl;obtain ⟨u0_0,u0_1,u0_2,_,_,_⟩:=(HC.out W hW).bx;refine Q12 rfl rfl ?_;simp[go_sem,hd,e8,e10,e4,e9,u0_0,u0_1,u0_2,hjm',(HC.out W hW).o3]
           done)
         |skip
        ·intro A W hW E0 A0;refine Q02 rfl ?_;refine Q2y (Q48 96 0 #[] (by rfl) (by simp) (Qk9 W)) (Ba) ((Q00 rfl).2 ⟨_,rfl⟩)
        ·intro A W hW E0 A0;have e119:=Q11 A0 7 (by decide) rfl rfl rfl;refine Q02 rfl ?_;obtain ⟨b0,Q0⟩:=(Q00 rfl).1 (A0 2 (by decide));have h119:A.eval (.tmp 119)=.slice ae2 le2 ce2:=(Q0j rfl).1 (A0 7 (by decide));obtain ⟨d9,W9,J9,WC,N3,WZ⟩:=Qi3 96 W b0 ae2 le2 ce2 p.2 (HC.out W hW).ei (Xo0 HE0) (Xe1 HE0);exact Q2y (Q47 (.tmp 114) (.tmp 119) 96 96 (by rfl) Q0 h119 J9) N3 ((Q00 rfl).2 ⟨_,d9,rfl,hW.size,WZ,WC⟩)
        ·intro A W hW E0 A0;have e113:=Q11 A0 1 (by decide) rfl rfl rfl;refine Q02 rfl ?_;obtain ⟨g9,d9,hv9,hg9,hl9,WC⟩:=(Q00 rfl).1 (A0 8 (by decide));have e120:=Q1o hv9;refine Q2y (w':=W) (u:=.agg #[.bool neg9,.int .i64 e9,.slice a9 n9 c9,.slice (some ⟨g9,0,none⟩) le2 d9]) (by simp[go_sem,e113,e120]) (Ud _ _) ((Q00 rfl).2 ⟨g9,d9,rfl,hg9,hl9,WC⟩)
        ·intro A W hW E0 A0;refine Q02 rfl ?_;obtain ⟨g9,d9,hv9,hg9,hl9,WC⟩:=(Q00 rfl).1 (A0 9 (by decide));have e121:A.eval (.tmp 121)=.agg #[.bool neg9,.int .i64 e9,.slice a9 n9 c9,.slice (some ⟨g9,0,none⟩) le2 d9]:=hv9;refine Q2y (Q48 42 1 #[(0,.tmp 121)] (by rfl) (parts':= #[(0,.agg #[.bool neg9,.int .i64 e9,.slice a9 n9 c9,.slice (some ⟨g9,0,none⟩) le2 d9])]) (by simp[e121]) (Qka W _ _ _ _)) (Ba) ((Q00 rfl).2 ⟨W.heap.size,g9,d9,rfl,Q0o _ _,Up _ _,hg9,Nat.lt_trans hl9 (Q0o _ _),WC.step (Ba)⟩)
       ·refine And.intro ?_ (And.intro (by decide) ?_)
        ·intro A W hW E0 A0;have h112:A.eval (.tmp 112)=.slice a1 N c1:=(Q0j rfl).1 (A0 0 (by decide));have hv:=(Q00 rfl).1 (A0 10 (by decide));obtain ⟨a8,c8,W8,zs8,O3,QB,G5⟩:=Qkb (Xo0 HT) (Xo1 HT) hW (m:=⟨neg9,e9,L9,p.2⟩) (Xo2 HT) hv (Xe3 HT) 42;rw[Q47 (.tmp 112) (.tmp 122) 42 42 (by rfl) h112 rfl O3];exact ⟨a8,c8,zs8,rfl,QB,G5⟩
        ·intro a w E0;rfl
       intro vs W1 I2 hv12;obtain ⟨a8,c8,zs8,A9,QB,G5⟩:=I2;have JR:=hv12.trans A9;have HE:=Xh2 QB G5;clear QB G5 A9;simp only[Q0t,Act.put,Um,Ux,Ut,JR];clear JR hv12
       go_wp2_with fail
       refine ⟨⟨j+1,N+1,a8,c8,ms++[⟨neg9,e9,L9,p.2⟩],zs8,rfl,congrArg (Value.int .i64) (by omega),hj1,by omega,(Xo0 HE),?_,?_,Qi6 (Xo5 HX) (Xo0 HF) (Xo3 HX),(Below.next0 (Xo4 HX) HY.out).trans (Xe1 HE)⟩,by simp only[intOf];omega⟩
       ·rw[Tq,(Xo1 HX),Qtv (Xo5 HX) (Xo10 HX)]
        show _++[(Q2m neg9 e9 L9,p.2)]=_
        rw[(Xe2 HF)]
       ·intro m0 KQ;rcases Tl.1 KQ with h0|h0
        ·exact (Xo2 HX) m0 h0
        ·rw[Uy] at h0;subst h0;exact ⟨(Xo1 HF),fun e=>(Xo10 HX) ((Xe2 HF).symm.trans ((Q45 (Xo1 HF) (Xo1 HN).low).2 e))⟩
      ·have HF:=Ua hf;clear hf
       go_wp2_with fail
       exact ⟨rfl,.tuple #[.slice none 0 0,.int .i64 2],by simp[results,go_sem],Q3a.err ((Xe3 H).symm.trans (Qns (Xe3 HS) (Ug (Xo5 HX)) HF.out)) (Below.next0 (Below.next0 (Xo0 HS).2.2.2 (Xo4 HX)) HY.out)⟩
    ·have hjm':¬(j:Int)<(m:Int):=(by omega);have i4:out.take j=out:=Uw (by rw[(Xo0 HS).1];omega);rw[i4] at K9 K3;have ZB:(out.filter fun p=>decide (p.1≠0)).length=N:=(by rw[<-K9,UE,A1.st.len]);have j4:=Qnt (Xe3 HS) K3;rw[ZB,(Xe3 H)] at j4;have X7:=Below.next0 (Xo0 HS).2.2.2 Z0;have V5:=A1.st.monos fun m hm=>(X1 m hm).1;have hnp:=A1.newp.more (Xo0 HS).2.2.2.size
     by_cases KX:24<N
     ·have Km:(24:Int)<(N:Int):=(by omega);rw[Uu KX] at j4;have HX:=Xh2 j4 X7;clear A1 K9 X1 K3 Z0 i4 ZB j4 X7 V5 hnp
      go_wp2_with fail
      exact ⟨rfl,.tuple #[.slice none 0 0,.int .i64 6],by simp[results,go_sem],Q3a.err (Xo0 HX) (Xe1 HX)⟩
     ·have Km:¬(24:Int)<(N:Int):=(by omega);rw[Uq KX] at j4;have HX:=Xh6 j4 X7 V5 K9 X1 hnp;clear A1 K9 X1 K3 Z0 i4 ZB j4 X7 V5 hnp
      go_wp2_with fail
      exact ⟨rfl,.tuple #[.slice a1 N c1,.int .i64 0],by simp[results,go_sem],Q3a.ok (Xo0 HX) (Xo1 HX) (Xo2 HX) (Xo3 HX) (Xo4 HX) (Xe5 HX)⟩
theorem Qib:Tryz.prog.underlying 217=some (.slice 219):=by kernel_rfl
theorem Qki (W:World) (v0 v1 v2 v3:Value):(Instr.buildSlice 217 1 #[(0,.agg #[v0,v1,v2,v3])]).run Tryz.prog W=.ok (.slice (some ⟨W.heap.size,0,none⟩) 1 1) (W.alloc (.cells #[v0,v1,v2,v3] 219)):=by
 obtain ⟨i0,S2,E2,O1,Y1⟩:=Q0z Qi0;exact run_buildSlice W 217 219 1 _ #[v0,v1,v2,v3] i0 _ Qib S2 E2 (by rw[O1];decide) (by rw[O1];decide) (by rw[O1];first|kernel_rfl|simp[Instr.fill,Value.cells])
def Qy3 [LT ZK] (w:World) (p:Q0m) (v:Value) (W:World):Prop:=∃v0 v1 v2 v3,v=.agg #[v0,v1,v2,v3]/\Q5v w W [p] [v0,v1,v2,v3]
def Qr9 [LT ZK] (w:World) (p:Q0m) (v:Value) (W:World):Prop:=∃bl lit,v=.slice (some ⟨bl,0,none⟩) 1 1/\bl<W.heap.size/\W.heap[bl]?=some (.cells lit.toArray 219 (0,0))/\Q5v w W [p] lit
theorem Qic [LT ZK] (w:World) (p:Q0m):Q2d (Qy3 w p):=fun _ _ _ ⟨v0,v1,v2,v3,h1,h2⟩ hb=>⟨v0,v1,v2,v3,h1,h2.keep fun h=>h.step hb⟩
theorem Qft [LT ZK] (w:World) (p:Q0m):Q2d (Qr9 w p):=fun _ _ _ ⟨bl,lit,h1,h2,h3,h4⟩ hb=>⟨bl,lit,h1,Uc h2 hb.size,(hb.block bl h2).trans h3,h4.keep fun h=>h.step hb⟩
theorem Qra [LT ZK] {w U W:World} {a:OA} {i c:Nat} {out:List Q0m} {xs:LV} (R0:Q4r w U a i c out xs) (hb:Bw U W) {p:Q0m} {v:Value} (hv:Qr9 w p v W) (hi:i<=1000) (ty:TypeId):
 ∃a' c' W' xs',(Builtin.append_ #[217,217] ty #[.slice a i c,v]).run Tryz.prog W=.ok (.slice a' (i+1) c') W'/\Q4r w W' a' (i+1) c' (out++[p]) xs':=by
 obtain ⟨bl,lit,rfl,K4,B7,Zt⟩:=hv;obtain ⟨h1,h2,h3,h4⟩:=R0.step hb;have Qn:lit.length=4:=by rw[Zt.len];rfl
 obtain ⟨a8,c8,w8,O3,XP,m6,hat8⟩:=Q5j ty W w.heap.size h4.size a i c xs h2 (some ⟨bl,0,none⟩) 1 1 lit (by rw[Qn]) (.inr ⟨_,rfl,fun j u hj=>by
  rw[Addr.add_lit,UH,UL _ _ _ _ _ _ B7];simpa using hj⟩) (fun u hu=>Zt.one u hu) (by omega)
 refine ⟨a8,c8,w8,_,O3,by rw[Ui,h1];rfl,XP,Q5v.app (Zt.keep (fun h=>h2.grownD m6 h)) (h3.keep (fun h=>h2.grownD m6 h)),?_⟩;exact h4.trans ⟨m6.os,m6.tape,m6.output,m6.size,fun z hz=>m6.block z (Uc hz h4.size) (fun e=>by
  cases a with
  |none=>simp at e
  |some q=>simp only[UG,Un] at e;have:=(Q2f.lt.row2_blk h2.1 rfl).1;omega)⟩
theorem Q4r.terms [LT ZK] {w W:World} {a:OA} {n c:Nat} {ts:List Q0m} {xs:LV} (h:Q4r w W a n c ts xs):Qqz W a n c ts:=by
 obtain ⟨h1,h2,h3,h4⟩:=h;have Q4:=h2.1.cap;refine ⟨h1,Q4.1,by have:=Q4.2;simpa[maxLen] using this,?_⟩;rcases h2.1.form with ⟨_,h0,_⟩|⟨g,cur,rfl,_,F0,_⟩
 ·exact .inl (TN (by rw[h1];exact h0))
 ·refine .inr ⟨g,0,rfl,F0,xs,h3.old fun h=>h.step h4,fun j u hj=>?_⟩;rw[UH];exact h2.1.cell0 hj
theorem Q3a.pair [LT ZK] {w w':World} {X:Except Int (List Q0m)} {r:Ending} (h:Q3a w X r w'):∃x er,r=.returned (.tuple #[x,.int .i64 er]):=by
 obtain ⟨_,h⟩:=h;cases X with
 |error e=>exact ⟨_,_,h⟩
 |ok P=>obtain ⟨a,n,c,ms,h,_⟩:=h;exact ⟨_,_,h⟩
theorem Q3a.from_ [LT ZK] {w0 w w':World} {X:Except Int (List Q0m)} {r:Ending} (h:Q3a w X r w') (hb:Bw w0 w):Q3a w0 X r w':=by
 obtain ⟨h1,h2⟩:=h;refine ⟨Below.next0 hb h1,?_⟩;cases X with
 |error e=>exact h2
 |ok P=>
  obtain ⟨a,n,c,ms,h3,h4,h5,h6,h7⟩:=h2;exact ⟨a,n,c,ms,h3,h4,h5,h6,h7.more hb.size⟩
structure Qid (W:World) (b oi:Nat) (x:Q01) (aw:OA) (lw cw:Nat) (ae:OA) (le ce:Nat):Prop where
 c0:W.cell? ⟨b,oi,none⟩=some (.bool x.neg)
 c1:W.cell? ⟨b,oi+1,none⟩=some (.int .i64 x.exp)
 c2:W.cell? ⟨b,oi+2,none⟩=some (.slice aw lw cw)
 c3:W.cell? ⟨b,oi+3,none⟩=some (.slice ae le ce)
 wi:WordsIn W aw lw cw x.ws
theorem Qid.cc {W:World} {b oi:Nat} {x:Q01} {aw:OA} {lw cw:Nat} {ae:OA} {le ce:Nat} (h:Qid W b oi x aw lw cw ae le ce):W.cell? ⟨b,oi,none⟩=some (.bool x.neg)/\W.cell? ⟨b,oi+1,none⟩=some (.int .i64 x.exp)/\W.cell? ⟨b,oi+2,none⟩=some (.slice aw lw cw):=⟨h.c0,h.c1,h.c2⟩
theorem Qid.step {W W':World} {b oi:Nat} {x:Q01} {aw:OA} {lw cw:Nat} {ae:OA} {le ce:Nat} (h:Qid W b oi x aw lw cw ae le ce) (hb:Bw W W'):Qid W' b oi x aw lw cw ae le ce:=by
 have F0:b<W.heap.size:=Uz h.c0;exact ⟨(hb.cell (p:=⟨b,oi,none⟩) F0).trans h.c0,(hb.cell (p:=⟨b,oi+1,none⟩) F0).trans h.c1,(hb.cell (p:=⟨b,oi+2,none⟩) F0).trans h.c2,(hb.cell (p:=⟨b,oi+3,none⟩) F0).trans h.c3,h.wi.step hb⟩
def Qz0 [LT ZK] (w:World) (ts:List Q0m) (s6 s7:Value) (wr:World):Prop:=∃(i:Nat) (a:OA) (c:Nat) (xs:LV),s6=.slice a i c/\s7=.int .i64 (i:Int)/\i<=ts.length/\Q4r w wr a i c (ts.take i) xs
theorem Qie [LT ZK] (a:OA) (n c:Nat) (ms:List Q01) (k:Nat) (w:World) (h:Q0k w a n c ms) (hr:∀m∈ms,Q1l k m.es/\Q0a m.neg m.exp m.ws) (S3:1<=k) (ZU:k<=4) (hn:n<=1000):
 Calls Tryz.prog 121 #[.slice a n c,.int .i64 (k:Int)] w (Q3a w (Q41 (ms.map Q01.term))):=by
 have P2:=h.1;have E3:=Uj h.2.1 h.2.2.1;have hk1':¬(k:Int)<1:=by omega
 have hk4':¬4<(k:Int):=by omega
 obtain ⟨X,hX⟩:∃X,Q41 (ms.map Q01.term)=X:=⟨_,rfl⟩;rw[hX];have H:=Xh3 h hr hX;clear h hr hX
 go_enter Tryz.func121,Tryz.ntmps121
 go_wp2_with fail
 go_loopw [6,7] (fun s6 s7 wr=>Qz0 w (ms.map Q01.term) s6 s7 wr) (fun _ iv _=>n-(intOf iv).toNat)
 case atStart=>exact ⟨0,none,0,[],rfl,rfl,Uv _,rfl,Q4c.nil_ _ _ _ _ _,rfl,Ud _ _⟩
 case round=>
  obtain ⟨i,a1,c1,xs,rfl,rfl,hi,R0⟩:=hrel;rw[UE,P2] at hi
  by_cases F0:i<n
  ·have G0:(i:Int)<(n:Int):=(by omega);obtain ⟨x,hx⟩:∃x,ms[i]?=some x:=⟨_,Ub (by omega)⟩;obtain ⟨b,o,rfl,Q0,J2⟩:∃b o,a=some ⟨b,o,none⟩/\b<w.heap.size/\∀j m,ms[j]?=some m->Q74 w b (o+j*4) m:=by
    rcases (Xo0 H).2.2.2 with h0|h0
    ·rw[h0] at hx;simp at hx
    ·exact h0
   obtain ⟨aw,lw,cw,ae,le,ce,k0,k1,k2,k3,hw,he,K5,Z3⟩:=J2 i x hx;have Zy:=(Xo1 H) x (Ug hx);have Z0:=R0.2.2.2;have i6:Qid wr b (o+i*4) x aw lw cw ae le ce:=(⟨k0,k1,k2,k3,hw⟩:Qid w b (o+i*4) x aw lw cw ae le ce).step Z0;have VI:=Qco x.neg x.exp aw lw cw x.ws ae le ce x.es k wr i6.wi (he.step Z0) ZU K5 Z3;rw[UW Zy] at VI;obtain ⟨k0,k1,k2⟩:=i6.cc;have k3:=i6.c3;have i4:(ms.map Q01.term).take (i+1)=(ms.map Q01.term).take i++[x.term]:=Q9q (by rw[UI,hx];rfl);have HS:=Xh5 R0 i6 Zy he i4;clear R0 i6 Zy he i4 Z0 J2 hw hx K5 Z3
   go_upto_region 9 with (go_at_call 99;refine VI.mono ?_;rintro r w3 ⟨rfl,M0⟩;have HB:=Ua M0;clear M0 VI)
   refine Q5b (Φ:=fun U=>Bw wr U) (P:=fun U=>Code.wp _ _ _ _ U) _ HB.out ?_;intro U hU;have HC:=Ua (fun W (h:Bw U W)=>((Xo1 HS).step hU).step h);have HT:=Xh4 ((Xo0 HS).step hU) (show i<=1000 by omega) (Xo2 HS).2 (Xo3 HS);clear hU;refine Q5u (by kernel_rfl) 14 rfl (fun W=>Bw U W) (fun _ _ h h'=>Below.next0 h h') (Q3q [.slice a1 i c1,.slice (some ⟨b,o,none⟩) n c,.int .i64 (i:Int),.pointer (some ⟨b,o+i*4,none⟩),.pointer (some ⟨b,o+i*4,none⟩),.agg #[.bool x.neg,.int .i64 x.exp,.slice aw lw cw],undef,.slice (some ⟨b,o,none⟩) n c,.int .i64 (i:Int),.pointer (some ⟨b,o+i*4,none⟩),.pointer (some ⟨b,o+i*4+3,none⟩),.slice ae le ce,undef,undef] (Q13 [(6,fun u w=>Q5c w u (Q2m x.neg x.exp x.ws)),(12,Qy3 w x.term),(13,Qr9 w x.term)])) (Q08 (Q0e (Qt3 (Q1g _) (Qic _ _) (Qft _ _)))) (fun v W'=>∃a8 c8 xs8,v=.slice a8 (i+1) c8/\Q4r w W' a8 (i+1) c8 ((ms.map Q01.term).take i++[x.term]) xs8) (by kernel_rfl) (by kernel_rfl) (by kernel_rfl) (by kernel_rfl) (Q04 U) ?_ ?_ ?_
   ·skip
    repeat' (first|exact Q83|refine Q82 ?_ ?_)
    all_goals first
     |(refine Q1p rfl fun A W hW E0 hd hd=>?_
       simp[Q72,Region.binds,Q13] at hd;have e6:=Q07 E0 6 (by kernel_rfl) rfl;have e0:=Q07 E0 0 (by kernel_rfl) rfl;have e7:=Q07 E0 7 (by kernel_rfl) rfl;refine Q12 rfl rfl ?_;simp[go_sem,hd,e6,e0,e7,G0,(HC.out W hW).c0,(HC.out W hW).c1,(HC.out W hW).c2,(HC.out W hW).c3]
       done)
     |skip
    ·intro A W hW E0 A0;have e32:=Q11 A0 5 (by decide) rfl rfl rfl;refine Q02 rfl ?_;refine Q0s (f:=59) (args:= #[.agg #[.bool x.neg,.int .i64 x.exp,.slice aw lw cw]]) (by simp[go_sem,e32]) ((Q7p x.neg x.exp aw lw cw x.ws W (HC.out W hW).wi (Xo2 HT)).mono ?_);rintro e w2' ⟨u',rfl,B9,F3⟩;exact ⟨_,rfl,F3,(Q00 rfl).2 B9⟩
    ·intro A W hW E0 A0;have e38:=Q11 A0 11 (by decide) rfl rfl rfl;refine Q02 rfl ?_;obtain ⟨n8,a8,l8,c8,q8,v8,A9,Qv,u6,Y9⟩:=(Q00 rfl).1 (A0 6 (by decide));have e33:=Q1o A9;refine Q2y (w':=W) (u:=.agg #[.bool n8,.slice a8 l8 c8,.int .i64 q8,.slice ae le ce]) (by simp[go_sem,e33,e38]) (Ud _ _) ((Q00 rfl).2 ⟨_,_,_,_,rfl,n8,a8,l8,c8,q8,v8,ae,le,ce,[],rfl,⟨Qv,u6,Y9,(Xe3 HT)⟩,rfl⟩)
    ·intro A W hW E0 A0;refine Q02 rfl ?_;obtain ⟨v0,v1,v2,v3,hv9,QI⟩:=(Q00 rfl).1 (A0 12 (by decide));have e39:A.eval (.tmp 39)=.agg #[v0,v1,v2,v3]:=hv9;refine Q2y (Q48 217 1 #[(0,.tmp 39)] (by rfl) (parts':= #[(0,.agg #[v0,v1,v2,v3])]) (by simp[e39]) (Qki W _ _ _ _)) (Ba) ((Q00 rfl).2 ⟨W.heap.size,[v0,v1,v2,v3],rfl,Q0o _ _,Up _ _,QI.keep (fun h=>h.step (Ba))⟩)
   ·refine And.intro ?_ (And.intro (by decide) ?_)
    ·intro A W hW E0 A0;have h27:A.eval (.tmp 27)=.slice a1 i c1:=(Q0j rfl).1 (A0 0 (by decide));have hv:=(Q00 rfl).1 (A0 13 (by decide));obtain ⟨a8,c8,W8,xs8,O3,VO⟩:=Qra (Xo0 HT) hW hv (Xo1 HT) 217;rw[Q47 (.tmp 27) (.tmp 40) 217 217 (by rfl) h27 rfl O3];exact ⟨a8,c8,xs8,rfl,VO⟩
    ·intro a w E0;rfl
   intro vs W1 I2 hv15;obtain ⟨a8,c8,xs8,A9,VO⟩:=I2;have U9:=hv15.trans A9;rw[<-(Xe4 HS)] at VO;have HF:=Ua VO;clear VO A9;simp only[Q0t,Act.put,Um,Ux,Ut,U9];clear U9 hv15
   go_wp2_with fail
   exact ⟨⟨i+1,a8,c8,xs8,rfl,congrArg (Value.int .i64) (by omega),by rw[UE,P2];omega,HF.out⟩,by simp only[intOf];omega⟩
  ·have G0:¬(i:Int)<(n:Int):=(by omega);have i4:(ms.map Q01.term).take i=ms.map Q01.term:=Uw (by rw[UE];omega);rw[i4] at R0;have hg:=Qo5 a1 i c1 (ms.map Q01.term) k 69632 wr R0.terms (fun p hp=>by
    obtain ⟨m,hm,rfl⟩:=TE.1 hp;exact ((Xo1 H) m hm).1.1) (fun p hp=>by
    obtain ⟨m,hm,rfl⟩:=TE.1 hp;obtain ⟨j,hj,rfl⟩:=Xaw hm;rcases (Xo0 H).2.2.2 with h0|⟨b,o,_,_,J2⟩
    ·rw[h0] at hj;simp at hj
    ·obtain ⟨_,_,_,_,_,_,_,_,_,_,hw,_⟩:=J2 j _ (Ub hj);exact Q6q (Q2h ((Xo1 H) _ hm).2 hw.low) (by omega)) (by omega) (by omega) S3 (by omega)
   rw[(Xe2 H)] at hg;have HS:=Ua R0.2.2.2;clear R0 i4
   go_wp2_with (go_at_call 169;refine hg.mono ?_;rintro r w3 Wm;obtain ⟨x9,er9,rfl⟩:=Wm.pair;have H3:=Ua Wm;clear Wm)
   exact ⟨rfl,.tuple #[x9,.int .i64 er9],by simp[results,go_sem],H3.out.from_ HS.out⟩
def Qwd (b i:Nat) (n:Nat) (w:World) (e:Ending) (w':World):Prop:=(∃x:Nat,x<n/\e=.returned (.int .i64 (x:Int)))/\Q42 w' b (i+1)/\Q0l (·=b) w w'
theorem Qcx (b i n:Nat) (w:World) (h:Q42 w b i) (hi:i<=1000000) (h0:0<n) (hn:n<=1000000):
 Calls Tryz.prog 77 #[.pointer (some ⟨b,0,none⟩),.int .i64 (n:Int)] w (Qwd b i n w):=by
 have hc:=Q4k b i w h hi;have HC:=Ua hc;clear hc h
 go_enter Tryz.func77,Tryz.ntmps77
 go_wp2_with (refine HC.out.mono ?_;rintro e w1 ⟨⟨x,hx,rfl⟩,hd,ht⟩;(have HD:=Xh2 hd ht);clear hd ht)
 go_ret;have hm:(x:Int)%(n:Int)=((x%n:Nat):Int):=by norm_cast
 have F0:x%n<n:=TH _ h0;refine ⟨⟨x%n,F0,?_⟩,HD.out⟩
 show Ending.returned (.int .i64 (wrap64 ((x:Int)%(n:Int))))=_
 rw[hm]
 congr 2
 unfold wrap64;omega
theorem Qwe (b i:Nat) (w:World) (h:Q42 w b i) (hi:i<=1000000):
 Calls Tryz.prog 47 #[.pointer (some ⟨b,0,none⟩)] w fun e w'=>(∃n:Nat,1<=n/\n<=4/\e=.returned (.int .i64 (n:Int)))/\Q42 w' b (i+1)/\Q0l (·=b) w w':=by
 have hc:=Qcx b i 4 w h hi (by decide) (by decide);have HC:=Ua hc;clear hc h
 go_enter Tryz.func47,Tryz.ntmps47
 go_wp2_with (refine HC.out.mono ?_;rintro e w1 ⟨⟨x,hx,rfl⟩,hd,ht⟩;(have HD:=Xh2 hd ht);clear hd ht)
 go_ret;exact ⟨⟨1+x,by omega,by omega,by rw[show (1:Int)+(x:Int)=((1+x:Nat):Int) by omega];rfl⟩,HD.out⟩
theorem Qrb (b i:Nat) (w:World) (h:Q42 w b i) (hi:i<=100000):
 Calls Tryz.prog 170 #[.pointer (some ⟨b,0,none⟩)] w fun e w'=>Qr8 e w'/\Q42 w' b (i+1)/\Q0l (·=b) w w':=by
 have M2:∀o,Bw w (w.alloc o):=fun o=>Ba;have O2:=Q0o w (.cells #[.bool false,.int .i64 0,.slice none 0 0] 26);have Qt:=Q03.new w (.bool false) (.int .i64 0) (.slice none 0 0) 26;have K4:=h.lt;have E6:=Q4k b i (w.alloc (.cells #[.bool false,.int .i64 0,.slice none 0 0] 26)) (h.call (M2 _)) (by omega);have HM:=Xh2 E6 Qt;clear E6 Qt h
 go_enter Tryz.func170,Tryz.ntmps170
 go_upto_region 1 with fail
 go_cut [3] (fun v wx=>∃x:Nat,x<18446744073709551616/\v=.int .u64 (x:Int)/\Q42 wx b (i+1)/\Q0l (·=b) (w.alloc (.cells #[.bool false,.int .i64 0,.slice none 0 0] 26)) wx)
 case first=>
  go_wp2_with (refine (Xo0 HM).mono ?_;rintro e w1 ⟨⟨x,hx,rfl⟩,D3,I3⟩;have Zl:=Xh2 D3 I3;clear D3 I3)
  go_meet;exact ⟨x,hx,rfl,(Xo0 Zl),(Xe1 Zl)⟩
 obtain ⟨x,hx,rfl,D3,I3⟩:=hcut;have Zl:=Xh2 D3 I3;clear D3 I3;obtain ⟨m,hm⟩:∃m,x%2=m:=⟨_,rfl⟩;have B6:bits .and .u64 (x:Int) 1=(m:Int):=by rw[show (1:Int)=((1:Nat):Int) from rfl,u64_and_nat x 1 hx (by decide),nat_mask1,hm]
 obtain ⟨neg,Q6⟩:∃neg,((m:Int)==1)=neg:=⟨_,rfl⟩;obtain ⟨e0,he0,Wl,Q5⟩:∃e0:Int,(x:Int) / 128%9=e0/\0<=e0/\e0<=8:=⟨_,rfl,by omega,by omega⟩;obtain ⟨y,hy⟩:∃y,x / 2=y:=⟨_,rfl⟩;have hyI:(x:Int) / 2=(y:Int):=by omega
 obtain ⟨p,hp,x7⟩:=Qwb y 63 (by omega) (by decide);have hpI:bits .and .u64 (y:Int) 63=(p:Int):=hp;clear hy hp hm;have hNc:=(Xe1 HM).turn (Xe1 Zl) O2 (by omega);have hlc:=Uc O2 (Xe1 Zl).size;have htc:Q0l (·=b) w wc:=(Q0l.of_below (M2 _) _).trans0 (Xe1 Zl);have HN:=Xh3 hNc hlc htc;clear hNc hlc htc
 go_wp2_with (refine (Qkh neg (some ⟨wc.heap.size,0,none⟩) 1 1 [p] (e0-6) (wc.alloc (.cells #[.int .u64 (p:Int)] 83)) (Qcw wc p (x7) 83) (by decide) (by omega) (by omega)).mono ?_;rintro e w2 ⟨⟨neg2,e2,a2,n2,c2,L,rfl,K1,hW⟩,D0⟩;have A2:=Below.next0 ((Ud wc.heap.size wc).alloc (Ue _) (.cells #[.int .u64 (p:Int)] 83)) D0;have G1:=(Xo0 HN).step A2 (Xo1 HN);obtain ⟨E4,J1,I1,U4,j3,U3⟩:=G1.cf;have U6:=G1.d1 (.bool neg2);have N5:=G1.d2 (.bool neg2) (.int .i64 e2);have E1:=Xh5 G1 ((Xe2 HN).trans0 (Q0l.of_below A2 _)) hW K1 A2;clear G1 A2 hW K1 D0)
 have JV:=(Xo0 E1).store (.bool neg2) (.int .i64 e2) (.slice a2 n2 c2);obtain ⟨k0,k1,k2⟩:=JV.cc;have ht6:=(((Xo1 E1).newSet (p:=⟨w.heap.size,0,none⟩) (Ue _) (.bool neg2)).newSet (p:=⟨w.heap.size,1,none⟩) (Ue _) (.int .i64 e2)).newSet (p:=⟨w.heap.size,2,none⟩) (Ue _) (.slice a2 n2 c2);have ht7:Q0l (fun k=>k=w.heap.size) wc (((w2.setCell ⟨w.heap.size,0,none⟩ (.bool neg2)).setCell ⟨w.heap.size,1,none⟩ (.int .i64 e2)).setCell ⟨w.heap.size,2,none⟩ (.slice a2 n2 c2)):=(((Q0l.of_below (Xe4 E1) _).trans0 (Q0l.setCell (fun k=>k=w.heap.size) w2 (p:=⟨w.heap.size,0,none⟩) rfl (.bool neg2))).trans0 (Q0l.setCell (fun k=>k=w.heap.size) _ (p:=⟨w.heap.size,1,none⟩) rfl (.int .i64 e2))).trans0 (Q0l.setCell (fun k=>k=w.heap.size) _ (p:=⟨w.heap.size,2,none⟩) rfl (.slice a2 n2 c2));have Q9:=(Xo0 Zl).turn ht7 (fun k hk=>by omega);have P7:=(Xo2 E1);have QY:WordsIn _ a2 n2 c2 L:=⟨P7.len,P7.cap,P7.most,P7.low,(P7.rd.store3 (Xo0 E1) (fun _=>by simp[nv]) (fun _=>by simp[nv]) (fun _=>by simp[nv]) (.bool neg2) (.int .i64 e2) (.slice a2 n2 c2)).more (Q1s _ _ _ _ _)⟩;clear JV E4 J1 I1 U4 j3 U3 U6 N5 P7 ht7;generalize World.setCell _ _ _=W5 at k0 k1 k2 ht6 QY Q9⊢;exact ⟨rfl,.agg #[.bool neg2,.int .i64 e2,.slice a2 n2 c2],by simp[results,go_sem,k0,k1,k2],⟨neg2,e2,a2,n2,c2,L,rfl,(Xo3 E1),QY⟩,Q9,ht6⟩
structure Q40 (W:World) (g:Nat) (E:List Int):Prop where
 cell:∀j x,E[j]?=some x->W.cell? ⟨g,j,none⟩=some (.int .i64 x)
 free:∀j,W.frozen? ⟨g,j,none⟩=false
 lt:g<W.heap.size
theorem Q40.new (W:World) (n:Nat):Q40 (W.alloc (.cells (Array.replicate n (nv .i64 0)) 3)) W.heap.size (List.replicate n 0):=by
 refine ⟨fun j x hx=>?_,fun j=>Tx _ _ _ _ _ (Up _ _),Q0o _ _⟩;rw[UL _ _ _ _ _ _ (Up _ _)];rw[TM] at hx
 split at hx
 ·rename_i h;injection hx with hx;subst hx;simp[h,nv]
 ·cases hx
theorem Q40.turn {fp:Nat->Prop} {w w':World} {g:Nat} {E:List Int} (h:Q40 w g E) (ht:Q0l fp w w') (hn:¬fp g):Q40 w' g E:=
 ⟨fun j x hx=>(ht.cell (p:=⟨g,j,none⟩) h.lt hn).trans (h.cell j x hx),fun j=>(ht.frozen (p:=⟨g,j,none⟩) h.lt hn).trans (h.free j),Uc h.lt ht.size⟩
theorem Q40.set {w:World} {g r:Nat} {E:List Int} {y:Int} (h:Q40 w g E) (hy:E[r]?=some y) (z:Int):Q40 (w.setCell ⟨g,r,none⟩ (.int .i64 z)) g (E.set r z):=by
 refine ⟨fun j x hx=>?_,fun j=>(Us _ _ _ _).trans (h.free j),by rw[Tk];exact h.lt⟩
 by_cases e:r=j
 ·subst e;rw[TI (Uh.1 hy).1] at hx;injection hx with hx;subst hx;exact UF _ _ _ (by rw[h.cell r y hy];rfl)
 ·rw[Te e] at hx;exact (Uf _ _ _ _ (by simp;try omega)).trans (h.cell j x hx)
theorem Qif:∀{E:List Int} {r:Nat} {y:Int},E[r]?=some y->(E.set r (y+1)).sum=E.sum+1
 |[],r,y,h=>by simp at h
 |x::t,0,y,h=>by
  simp only[UO,Un] at h;subst h;simp only[Ux,Xa8];omega
 |x::t,r+1,y,h=>by
  simp only[Ut,Xa8];rw[Qif (by simpa using h)];omega
theorem Q9s:∀{E:List Int} {r:Nat} {y:Int},(∀x∈E,0<=x)->E[r]?=some y->y<=E.sum
 |[],r,y,_,h=>by simp at h
 |x::t,0,y,h0,h=>by
  simp only[UO,Un] at h;subst h;have:0<=t.sum:=sum0 fun z hz=>h0 z (Xai _ hz);rw[Xa8];omega
 |x::t,r+1,y,h0,h=>by
  have:=Q9s (E:=t) (r:=r) (fun z hz=>h0 z (Xai _ hz)) (by simpa using h);have:=h0 x (TY ..);rw[Xa8];omega
where
 sum0:∀{E:List Int},(∀x∈E,0<=x)->0<=E.sum
 |[],_=>by simp
 |x::t,h=>by
  have:=sum0 (E:=t) fun z hz=>h z (Xai _ hz);have:=h x (TY ..);rw[Xa8];omega
def Qm1 (w:World) (b i n deg:Nat) (s8:Value) (wr:World):Prop:=∃(kk q:Nat) (E:List Int),s8=.int .i64 (kk:Int)/\E.length=n/\(∀x∈E,0<=x)/\E.sum+kk<=deg/\Q40 wr w.heap.size E/\Q42 wr b q/\q+kk<=i+1+deg/\Q0l (·=b) w wr
theorem Qo6 {w w2:World} {b i n deg kk q r:Nat} {E:List Int} {y:Int} (P2:E.length=n) (h0:∀x∈E,0<=x) (hs:E.sum+(kk+1:Nat)<=deg) (hr:Q40 w2 w.heap.size E) (hd:Q42 w2 b q) (hq:q+kk<=i+1+deg) (ht:Q0l (·=b) w w2) (hy:E[r]?=some y) (hb:b<w.heap.size):
 Qm1 w b i n deg (.int .i64 (kk:Int)) (w2.setCell ⟨w.heap.size,r,none⟩ (.int .i64 (y+1))):=by
 refine ⟨kk,q,E.set r (y+1),rfl,by rw[Ti];exact P2,fun x hx=>?_,by rw[Qif hy];omega,hr.set hy _,?_,hq,ht.newSet (p:=⟨w.heap.size,r,none⟩) (Ue _) _⟩
 ·rcases Xam hx with h|rfl
  ·exact h0 x h
  ·have:=h0 y (Ug hy);omega
 ·exact hd.turn (Q0l.setCell (fun k=>k=w.heap.size) w2 (p:=⟨w.heap.size,r,none⟩) rfl _) fun k hk=>by omega
theorem Qo7 [LT ZK] (b i n deg:Nat) (w:World) (h:Q42 w b i) (hi:i<=100000) (h1:1<=n) (hn:n<=4) (hd:deg<=8):
 Calls Tryz.prog 171 #[.pointer (some ⟨b,0,none⟩),.int .i64 (n:Int),.int .i64 (deg:Int)] w fun e w'=>(∃g E q,e=.returned (.slice (some ⟨g,0,none⟩) n n)/\w.heap.size<=g/\g<w'.heap.size/\Q0p w' (some ⟨g,0,none⟩) n n E/\Q1l n E/\Q42 w' b q/\q<=i+1+deg)/\Q0l (·=b) w w':=by
 have j4:=Xa2 (P:=Tryz.prog) 96 3 (.int .i64 0) 8 Tryz.underlying96 Qb7 rfl .i64 .i64 n (by omega) (by omega);rw[Q2n] at j4;have K4:=h.lt;have M2:Bw w (w.alloc (.cells (Array.replicate n (nv .i64 0)) 3)):=Ba;have hc:Calls Tryz.prog 77 #[.pointer (some ⟨b,0,none⟩),.int .i64 ((deg:Int)+1)] (w.alloc (.cells (Array.replicate n (nv .i64 0)) 3)) (Qwd b i (deg+1) (w.alloc (.cells (Array.replicate n (nv .i64 0)) 3))):=by
  have:=Qcx b i (deg+1) _ (h.call M2) (by omega) (by omega) (by omega);rwa[show ((deg+1:Nat):Int)=(deg:Int)+1 from rfl] at this
 have HC:=Xh2 hc M2;clear hc M2 h
 go_enter Tryz.func171,Tryz.ntmps171
 go_wp2_with (go_at_call 77;refine (Xo0 HC).mono ?_;rintro e w1 ⟨⟨x,hx,rfl⟩,D3,I3⟩;(have HD:=Xh2 D3 I3);clear D3 I3)
 go_loopw [8] (fun s8 wr=>Qm1 w b i n deg s8 wr) (fun iv _=>(intOf iv).toNat)
 case atStart=>exact ⟨x,i+1,List.replicate n 0,rfl,by simp,fun y hy=>by rw[Xae hy];decide,by simp;omega,(Q40.new w n).turn (Xe1 HD) (by omega),(Xo0 HD),by omega,(Q0l.of_below (Xe1 HC) _).trans0 (Xe1 HD)⟩
 case round=>
  obtain ⟨kk,q,E,rfl,P2,h0,hs,K0,C8,hq,ht⟩:=hrel
  by_cases hk:0<kk
  ·have XY:(0:Int)<(kk:Int):=(by omega);have hsum0:0<=E.sum:=Q9s.sum0 h0;have XU:=Qcx b q n wr C8 (by omega) (by omega) (by omega);have HS:=Xh6 P2 h0 hs K0 hq ht;clear P2 h0 hs K0 C8 hq ht
   go_wp2_with (go_at_call 77
                refine XU.mono ?_;rintro e w2 ⟨⟨r,hr,rfl⟩,Z2,X2⟩;have hrI:(r:Int)<(n:Int):=(by omega);obtain ⟨y,hy⟩:∃y,E[r]?=some y:=⟨_,Ub (by rw[(Xo0 HS)];exact hr)⟩;have I9:=(Xo3 HS).turn X2 (by omega);have c0:=I9.cell r y hy;have z0:=I9.free r;have ZF:0<=y:=(Xo1 HS) y (Ug hy);have hy8:y<=8:=by
                 have:=Q9s (Xo1 HS) hy;have:=(Xo2 HS);omega
                have H2:=Xh4 hy I9 Z2 X2;clear hy I9 Z2 X2 XU)
   obtain ⟨k2,K6⟩:∃k2,kk=k2+1:=⟨kk-1,by omega⟩;have hs:=(Xo2 HS);have hq:=(Xo4 HS);have hw:wrap64 ((kk:Int)-1)=(k2:Int):=(by unfold wrap64;omega);have Z4:(kk:Int)-1=(k2:Int):=by omega
   first
    |rw[hw]
    |rw[Z4]
   exact ⟨Qo6 (Xo0 HS) (Xo1 HS) (by omega) (Xo1 H2) (Xo2 H2) (by omega) ((Xe5 HS).trans0 (Xe3 H2)) (Xo0 H2) K4,by simp only[intOf];omega⟩
  ·have XY:¬(0:Int)<(kk:Int):=(by omega);have Wf:Q1l n E:=⟨P2,h0,by omega⟩;have hii:Q0p wr (some ⟨w.heap.size,0,none⟩) n n E:=⟨P2,Ue _,by omega,(.new fun x hx=>by
    obtain ⟨j,hj,rfl⟩:=Xaw hx;have h2:=Q9s h0 (Ub hj);have h3:=h0 _ hx;omega),.inr ⟨w.heap.size,0,rfl,K0.lt,fun j x hx=>by rw[UH];exact K0.cell j x hx⟩⟩
   have HS:=Xh6 Wf hii K0.lt C8 ht hq;clear P2 h0 hs K0 C8 hq ht Wf hii
   go_wp2_with fail
   go_ret;exact ⟨⟨w.heap.size,rfl,Ue _,(Xo2 HS),E,(Xo1 HS),(Xo0 HS),q,(Xo3 HS),by have:=(Xe5 HS);omega⟩,(Xo4 HS)⟩
theorem Q42.nou {w:World} {b i:Nat} (h:Q42 w b i):∀(o x:Nat),w.cell? ⟨b,o,none⟩≠some (nv .u64 x):=by
 obtain ⟨a,n,c,ls,hh,_⟩:=h;intro o x e;rw[UL _ _ _ _ _ _ hh] at e
 match o,e with
 |0,e=>simp[nv] at e
 |1,e=>simp[nv] at e
 |o+2,e=>simp at e
theorem Q67.turn [LT ZK] {B b n c:Nat} {w w':World} {a:OA} {all:List Q01} {xs:LV} (hD:Q67 B w a n c all xs) (VX:b<B) (hnu:∀(o x:Nat),w.cell? ⟨b,o,none⟩≠some (nv .u64 x)) (ht:Q0l (·=b) w w'):Q67 B w' a n c all xs:=by
 obtain ⟨h,hr,hN⟩:=hD;have hab:∀x,a=some x->x.block≠b:=fun x hx e=>by have:=(h.lt hx).1;omega
 have hr':Q4c NoU w' B 98 4 a n c xs:=hr.keep fun x hx=>ht.block _ (h.lt hx).2 (hab x hx);refine ⟨⟨⟨xs,hr'⟩,fun j m hm=>?_,h.len⟩,hr',hN⟩;obtain ⟨g,ha,aw,lw,cw,be,oe,le,ce,h0,h1,h2,h3,h4,h5,h6,h7⟩:=h.ent j m hm;have hg:=h.lt ha;have KP:=hab _ ha;have O9:j<n:=by rw[<-h.len];exact (Uh.1 hm).1
 obtain ⟨be',oe',le',ce',hx,hB⟩:=hN j O9;subst ha;have Vn:=hr.1.cell0 hx;rw[h3] at Vn;simp only[Un,Value.slice.injEq,Addr.mk.injEq] at Vn;obtain ⟨⟨rfl,rfl,_⟩,rfl,rfl⟩:=Vn;have J0:∀o,w'.cell? ⟨g,o,none⟩=w.cell? ⟨g,o,none⟩:=fun o=>ht.cell (p:=⟨g,o,none⟩) hg.2 KP;have Qm:Qte (·=b) aw m.ws:=by
  rcases h4.rd with e|⟨bb,oo,rfl,hb,hc⟩
  ·exact .inl e
  cases hL:m.ws with
  |nil=>exact .inl rfl
  |cons y r=>
   refine .inr fun x hx e=>?_;injection hx with hx;subst hx;have e:bb=b:=e;subst e;rw[hL] at hc;exact hnu _ _ (hc 0 y rfl)
 have hi5:Q0p w' (some ⟨be,oe,none⟩) le ce m.es:=by
  refine ⟨h5.len,h5.cap,h5.most,h5.rng,?_⟩;rcases h5.rd with h8|⟨b2,oo,e,hb,Y3⟩
  ·exact .inl h8
  ·injection e with e;injection e with e1 e2;subst e1;subst e2;exact .inr ⟨be,oe,rfl,Uc hb ht.size,fun i x hx=>(ht.cell (p:=⟨be,oe+i,none⟩) hb (by show¬be=b;omega)).trans (Y3 i x hx)⟩
 exact ⟨g,rfl,aw,lw,cw,be,oe,le,ce,(J0 _).trans h0,(J0 _).trans h1,(J0 _).trans h2,(J0 _).trans h3,h4.turn Qm ht (fun _ h=>h),hi5,h6,Uc h7 ht.size⟩
theorem Q67.push [LT ZK] {B:Nat} {W:World} {a:OA} {n c:Nat} {all:List Q01} {xs:LV} (hD:Q67 B W a n c all xs) (hB:B<=W.heap.size) {m:Q01} {aw:OA} {lw cw g le ce:Nat} (hw:WordsIn W aw lw cw m.ws) (hE:Q0p W (some ⟨g,0,none⟩) le ce m.es) (hg:B<=g) (Xn:g<W.heap.size) (hga:∀x,a=some x->x.block≠g) (hn:n<=1000):
 ∃a' c' W' xs',(Builtin.append_ #[42,42] 42 #[.slice a n c,.slice (some ⟨W.heap.size,0,none⟩) 1 1]).run Tryz.prog (W.alloc (.cells #[.bool m.neg,.int .i64 m.exp,.slice aw lw cw,.slice (some ⟨g,0,none⟩) le ce] 98))=.ok (.slice a' (n+1) c') W'/\Q67 B W' a' (n+1) c' (all++[m]) xs'/\Below B W W':=by
 obtain ⟨i0,S2,E2,O1,Y1⟩:=Q0z Q9k;have R4:Bw W (W.alloc (.cells #[.bool m.neg,.int .i64 m.exp,.slice aw lw cw,.slice (some ⟨g,0,none⟩) le ce] 98)):=Ba;have hD':=hD.step R4;obtain ⟨g6,c6,w6,U7,J5,G4,m9⟩:=Q16 (P:=Tryz.prog) NoU (W.alloc (.cells #[.bool m.neg,.int .i64 m.exp,.slice aw lw cw,.slice (some ⟨g,0,none⟩) le ce] 98)) 42 42 98 i0 _ 4 64 Q8t S2 E2 O1 Y1 rfl Qb9 B (Uj hB R4.size) a n c xs hD'.row W.heap.size 1 1 [.bool m.neg,.int .i64 m.exp,.slice aw lw cw,.slice (some ⟨g,0,none⟩) le ce] rfl (Tz (cs:= #[.bool m.neg,.int .i64 m.exp,.slice aw lw cw,.slice (some ⟨g,0,none⟩) le ce]) (Up _ _)) (by simp[Value.oneCell']) (by intro u hu;simp at hu;rcases hu with rfl|rfl|rfl|rfl <;> exact fun _=>by simp[nv]) (by decide) (by omega) (by decide) (by decide);have B4:xs.length=n*4:=hD.row.1.len;refine ⟨_,c6,w6,_,U7,⟨hD'.st.push1 hD'.row G4 m9 J5 rfl (hw.step R4) (hE.step R4) (Uc Xn R4.size) hga,J5,fun j hj=>?_⟩,?_⟩
 ·by_cases O9:j<n
  ·obtain ⟨be,oe,l2,c2,hx,hb⟩:=hD.new j O9;exact ⟨be,oe,l2,c2,by rw[Tp (by omega)];exact hx,hb⟩
  ·obtain rfl:j=n:=(by omega);exact ⟨g,0,le,ce,by rw[Tg (by omega),B4,Xas];rfl,hg⟩
 ·have VX:Below B W (W.alloc (.cells #[.bool m.neg,.int .i64 m.exp,.slice aw lw cw,.slice (some ⟨g,0,none⟩) le ce] 98)):=(Ud _ _).alloc hB _;exact VX.trans ⟨G4.os,G4.tape,G4.output,G4.size,fun z hz=>G4.block z (Uc hz (Uj hB R4.size)) (fun e=>by
   cases a with
   |none=>simp at e
   |some q=>simp only[UG,Un] at e;have:=(hD.st.lt rfl).1;omega)⟩
theorem Q0l.past {fp:Nat->Prop} {w W W':World} (h:Q0l fp w W) (hb:Below w.heap.size W W'):Q0l fp w W':=
 ⟨hb.os.trans h.os,hb.tape.trans h.tape,hb.output.trans h.output,Uj h.size hb.size,fun k hk hn=>(hb.block k hk).trans (h.block k hk hn)⟩
def Qy4 [LT ZK] (w:World) (b i n most:Nat) (s9 s10:Value) (wr:World):Prop:=∃(kk q N:Nat) (a:OA) (c:Nat) (ms:List Q01) (xs:LV),s9=.slice a N c/\s10=.int .i64 (kk:Int)/\N+kk<=most/\Q67 w.heap.size wr a N c ms xs/\(∀m∈ms,Q1l n m.es/\Q0a m.neg m.exp m.ws)/\Q42 wr b q/\q+kk*10<=i+1+most*10/\Q0l (·=b) w wr
theorem Qrc [LT ZK] (b i n most deg:Nat) (w:World) (h:Q42 w b i) (hi:i<=90000) (h1:1<=n) (hn:n<=4) (hm:most<=30) (hd:deg<=8):
 Calls Tryz.prog 122 #[.pointer (some ⟨b,0,none⟩),.int .i64 (n:Int),.int .i64 (most:Int),.int .i64 (deg:Int)] w fun e w'=>(∃a N c ms q,e=.returned (.slice a N c)/\N<=most/\Q0k w' a N c ms/\(∀m∈ms,Q1l n m.es/\Q0a m.neg m.exp m.ws)/\Q42 w' b q/\q<=i+1+most*10)/\Q0l (·=b) w w':=by
 have K4:=h.lt;have hc:Calls Tryz.prog 77 #[.pointer (some ⟨b,0,none⟩),.int .i64 ((most:Int)+1)] w (Qwd b i (most+1) w):=by
  have:=Qcx b i (most+1) _ h (by omega) (by omega) (by omega);rwa[show ((most+1:Nat):Int)=(most:Int)+1 from rfl] at this
 have HC:=Ua hc;clear hc h
 go_enter Tryz.func122,Tryz.ntmps122
 go_wp2_with (go_at_call 77;refine HC.out.mono ?_;rintro e w1 ⟨⟨x,hx,rfl⟩,D3,I3⟩;(have HD:=Xh2 D3 I3);clear D3 I3)
 go_loopw [9,10] (fun s9 s10 wr=>Qy4 w b i n most s9 s10 wr) (fun _ iv _=>(intOf iv).toNat)
 case atStart=>exact ⟨x,i+1,0,none,0,[],[],rfl,rfl,by omega,Q67.nil_ _ _,(fun m hm=>by cases hm),(Xo0 HD),by omega,(Xe1 HD)⟩
 case round=>
  obtain ⟨kk,q,N,a1,c1,ms,xs,rfl,rfl,hN,hM,X1,C8,hq,ht⟩:=hrel
  by_cases hk:0<kk
  ·have XY:(0:Int)<(kk:Int):=(by omega);have X4:=Qrb b q wr C8 (by omega);have HS:=Xh6 hN hM X1 hq ht C8;clear hN hM X1 C8 hq ht
   go_wp2_with (first
    |(go_at_call 171
      refine Q8.mono ?_;rintro e w3 ⟨⟨g,E,q3,rfl,O5,Q2,hE,hrE,Jb,XZ⟩,y6⟩;have hD3:=(Xo0 H2).turn K4 ((Xo1 H2).nou) y6;have Zp:WordsIn w3 a2 n2 c2 L:=(Xo4 H2).turn (Xe5 H2) y6 (fun _ h=>h);have Kb:=(Xo2 H2).trans0 y6;obtain ⟨a8,c8,w8,xs8,O3,Y9,G5⟩:=hD3.push (Kb.size) (m:=⟨neg2,e2,L,E⟩) Zp hE (by have:=(Xo2 H2).size;omega) Q2 (fun x hx e=>by have:=((Xo0 H2).st.lt hx).2;omega) (by have:=(Xo0 HS);omega);have H3:=Xh6 Y9 G5 hrE Jb XZ Kb;clear hD3 Zp Kb Y9 G5 hrE Jb XZ hE y6 Q8 O5 Q2)
    |(go_at_call 170
      refine X4.mono ?_;rintro e w2 ⟨⟨neg2,e2,a2,n2,c2,L,rfl,K1,hW⟩,Z2,X2⟩;have hM2:=(Xo1 HS).turn K4 ((Xe5 HS).nou) X2;have Q8:=Qo7 b (q+1) n deg w2 Z2 (by have:=(Xo3 HS);omega) h1 hn hd;have Qm:Qte (·=b) a2 L:=by
       rcases hW.rd with e|⟨bb,oo,rfl,hb,hc⟩
       ·exact .inl e
       cases hL:L with
       |nil=>exact .inl rfl
       |cons y r=>
        refine .inr fun x hx e=>?_;injection hx with hx;subst hx;have e:bb=b:=e;subst e;rw[hL] at hc;exact Z2.nou _ _ (hc 0 y rfl)
      have H2:=Xh6 hM2 Z2 ((Xo4 HS).trans0 X2) K1 hW Qm;clear hM2 Z2 X2 K1 hW Qm X4)
    |(at_builtin;refine Q0d rfl (.tmp 19) (.tmp 27) 42 42 rfl _ _ rfl rfl _ _ O3 ?_))
   obtain ⟨k2,K6⟩:∃k2,kk=k2+1:=⟨kk-1,by omega⟩;have hN:=(Xo0 HS);have hq:=(Xo3 HS);have XZ:=(Xo4 H3);have hw:wrap64 ((kk:Int)-1)=(k2:Int):=(by unfold wrap64;omega);have Z4:(kk:Int)-1=(k2:Int):=by omega
   first
    |rw[hw]
    |rw[Z4]
   refine ⟨⟨k2,q3,N+1,a8,c8,ms++[⟨neg2,e2,L,E⟩],xs8,rfl,rfl,by omega,(Xo0 H3),fun m hm=>?_,?_,by omega,(Xe5 H3).past (Xo1 H3)⟩,by simp only[intOf];omega⟩
   ·rcases Tl.1 hm with h0|h0
    ·exact (Xo2 HS) m h0
    ·rw[Uy] at h0;subst h0;exact ⟨(Xo2 H3),(Xo3 H2)⟩
   ·have G5:=(Xo1 H3);exact (Xo3 H3).turn (fp:=fun k=>w.heap.size<=k) ⟨G5.os,G5.tape,G5.output,G5.size,fun k _ hn=>G5.block k (TR hn)⟩ fun k hk=>by omega
  ·have XY:¬(0:Int)<(kk:Int):=(by omega);have V5:=hM.st.monos fun m hm=>(X1 m hm).2;have HS:=Xh6 hN V5 X1 hq ht C8;clear hN hM X1 C8 hq ht V5
   go_wp2_with fail
   go_ret;exact ⟨⟨a1,N,c1,rfl,by have:=(Xo0 HS);omega,ms,(Xo1 HS),(Xo2 HS),q,(Xe5 HS),by have:=(Xo3 HS);omega⟩,(Xo4 HS)⟩
def Qz1 [LT ZK] (b i n most:Nat) (w:World) (e:Ending) (w':World):Prop:=(∃a N c ms q,e=.returned (.slice a N c)/\Q0k w' a N c ms/\Q38 n ms/\Qdg w.heap.size w' a N/\Q42 w' b q/\q<=i+1+most*10)/\Q0l (·=b) w w'
theorem Qu2 {n:Nat} {ms:List Q01} (h1:1<=n) (hn:n<=4) (hP:Q92 n (ms.map Q01.term)) (ho:∀m∈ms,Q0a m.neg m.exp m.ws/\m.ws≠[]):Q38 n ms:=by
 obtain ⟨h2,h3,h4⟩:=hP;refine ⟨h1,hn,by rwa[UE] at h3,fun m hm=>⟨⟨(h4 _ (TE.2 ⟨m,hm,rfl⟩)).2.2,(ho m hm).1⟩,(ho m hm).2⟩,?_⟩;unfold Qbu at h2;rw[List.pairwise_map] at h2;exact h2
theorem Q3a.deck [LT ZK] {w1 w2:World} {x:Value} {er:Int} {n:Nat} {ts:List Q0m} (h:Q3a w1 (Q41 ts) (.returned (.tuple #[x,.int .i64 er])) w2) (ht:∀p∈ts,Q1l n p.2) (h1:1<=n) (hn:n<=4):∃a N c ms,x=.slice a N c/\Q0k w2 a N c ms/\Q38 n ms/\Qdg w1.heap.size w2 a N:=by
 obtain ⟨_,h⟩:=h;cases hX:Q41 ts with
 |error e=>
  rw[hX] at h;simp at h;obtain ⟨rfl,_⟩:=h;exact ⟨none,0,0,[],rfl,⟨rfl,Ue _,by omega,.inl rfl⟩,⟨h1,hn,by decide,(fun m hm=>by cases hm),List.Pairwise.nil⟩,fun j hj=>absurd hj (Tf _)⟩
 |ok P=>
  rw[hX] at h;obtain ⟨a,N,c,ms,he,hm,hP,ho,hN⟩:=h;simp at he;obtain ⟨rfl,_⟩:=he;exact ⟨a,N,c,ms,rfl,hm,Qu2 h1 hn (by rw[hP];exact Qmi ht hX) ho,hN⟩
theorem Qig [LT ZK] (b i n most deg:Nat) (w:World) (h:Q42 w b i) (hi:i<=90000) (h1:1<=n) (hn:n<=4) (hm:most<=30) (hd:deg<=8):
 Calls Tryz.prog 81 #[.pointer (some ⟨b,0,none⟩),.int .i64 (n:Int),.int .i64 (most:Int),.int .i64 (deg:Int)] w (Qz1 b i n most w):=by
 have hc:=Qrc b i n most deg w h hi h1 hn hm hd
 go_enter Tryz.func81,Tryz.ntmps81
 go_wp2_with (first
  |(go_at_call 121
    refine j4.mono ?_;rintro r w2 Wm;obtain ⟨x9,er9,rfl⟩:=Wm.pair;obtain ⟨a9,N9,c9,ms9,rfl,KY,hrv9,hnp9⟩:=Wm.deck (n:=n) (Xe3 H1) h1 hn;have H2:=Xh5 KY hrv9 (hnp9.more (Xo1 H1).size) ((Xo0 H1).call Wm.1) ((Xo1 H1).trans0 (Q0l.of_below Wm.1 _));clear Wm KY hrv9 hnp9 j4)
  |(go_at_call 122
    refine hc.mono ?_;rintro e w1 ⟨⟨a1,N1,c1,ms1,q1,rfl,K2,hms1,hok1,D3,Ji⟩,I3⟩;have j4:=Qie a1 N1 c1 ms1 n w1 hms1 hok1 h1 hn (by omega);have H1:=Ua (And.intro D3 (And.intro I3 (And.intro Ji (show∀p∈ms1.map Q01.term,Q1l n p.2 from fun p hp=>by
     obtain ⟨m,hm,rfl⟩:=TE.1 hp;exact (hok1 m hm).1))))
    clear hms1 hok1 D3 Ji I3 K2 hc))
 go_ret;exact ⟨⟨a9,N9,c9,ms9,q1,rfl,(Xo0 H2),(Xo1 H2),(Xo2 H2),(Xo3 H2),(Xo2 H1)⟩,(Xe4 H2)⟩
theorem Qdg.kept [LT ZK] {B n c:Nat} {w w':World} {a:OA} {ms:List Q01} (h:Qdg B w a n) (hm:Q0k w a n c ms) (row:Option Nat) (hg:w.grownBy w' row) (hs:∀g,row=some g->∀o v,w.cell? ⟨g,o,none⟩=some v->Sl v):Qdg B w' a n:=fun j hj=>by
 obtain ⟨g,be,oe,le,ce,h1,h2,h3,h4⟩:=h j hj;rcases hm.2.2.2 with e|⟨b,o,e,hb,J2⟩
 ·have:=hm.1;rw[e] at this;simp at this;omega
 ·obtain ⟨_,_,_,_,_,_,q0,_⟩:=J2 0 _ (Ub (by rw[hm.1];omega));have S5:w'.heap[b]?=w.heap[b]?:=hg.block b hb (fun e'=>by obtain ⟨_,_,_,e2⟩:=hs b e'.symm _ _ q0;cases e2);rw[h1] at e;injection e with e;injection e with e;subst e;exact ⟨g,be,oe,le,ce,h1,h2,(UK (a:=⟨g,_,none⟩) S5).trans h3,h4⟩
theorem Qdg.turn {B b n:Nat} {w w':World} {a:OA} (h:Qdg B w a n) (VX:b<B) (ht:Q0l (·=b) w w'):Qdg B w' a n:=fun j hj=>by
 obtain ⟨g,be,oe,le,ce,h1,h2,h3,h4⟩:=h j hj;exact ⟨g,be,oe,le,ce,h1,h2,(ht.cell (p:=⟨g,_,none⟩) (Uz h3) (by show¬g=b;omega)).trans h3,h4⟩
theorem Qdg.step {B n:Nat} {w w':World} {a:OA} (h:Qdg B w a n) (hb:Bw w w'):Qdg B w' a n:=fun j hj=>by
 obtain ⟨g,be,oe,le,ce,h1,h2,h3,h4⟩:=h j hj;exact ⟨g,be,oe,le,ce,h1,h2,(hb.cell (p:=⟨g,_,none⟩) (Uz h3)).trans h3,h4⟩
theorem Q0k.turnD [LT ZK] {B b n c:Nat} {w w':World} {a:OA} {ms:List Q01} (h:Q0k w a n c ms) (hN:Qdg B w a n) (VX:b<B) (hnu:∀(o x:Nat),w.cell? ⟨b,o,none⟩≠some (nv .u64 x)) (ht:Q0l (·=b) w w'):Q0k w' a n c ms:=by
 obtain ⟨h1,h2,h3,h4⟩:=h;refine ⟨h1,h2,h3,?_⟩;rcases h4 with h4|⟨b',o,h5,h6,h7⟩
 ·exact .inl h4
 ·refine .inr ⟨b',o,h5,Uc h6 ht.size,fun j m hm=>?_⟩;obtain ⟨aw,lw,cw,ae,le,ce,q0,q1,q2,q3,hw,hi,hx⟩:=h7 j m hm;obtain ⟨g,be,oe,le',ce',e1,hgB,e3,X7⟩:=hN j (by rw[<-h1];exact (Uh.1 hm).1);rw[h5] at e1;simp only[Un,Addr.mk.injEq] at e1;obtain ⟨rfl,rfl,_⟩:=e1;have q3':=q3;rw[UH,e3] at q3';simp only[Un,Value.slice.injEq] at q3';obtain ⟨rfl,rfl,rfl⟩:=q3';have hc:∀o,w'.cell? ⟨b',o,none⟩=w.cell? ⟨b',o,none⟩:=fun o=>ht.cell (p:=⟨b',o,none⟩) h6 (by show¬b'=b;omega);have Qm:Qte (·=b) aw m.ws:=by
   rcases hw.rd with e|⟨bb,oo,rfl,hb,Y3⟩
   ·exact .inl e
   cases hL:m.ws with
   |nil=>exact .inl rfl
   |cons y r=>
    refine .inr fun x hx e=>?_;injection hx with hx;subst hx;have e:bb=b:=e;subst e;rw[hL] at Y3;exact hnu _ _ (Y3 0 y rfl)
  refine ⟨aw,lw,cw,_,_,_,(hc _).trans q0,(hc _).trans q1,(hc _).trans q2,(hc _).trans q3,hw.turn Qm ht (fun _ h=>h),⟨hi.len,hi.cap,hi.most,hi.rng,?_⟩,hx⟩;rcases hi.rd with h8|⟨b2,oo,e,hb,Y3⟩
  ·exact .inl h8
  ·injection e with e;injection e with e4 e5;subst e4;subst e5;exact .inr ⟨be,oe,rfl,Uc hb ht.size,fun i x hx=>(ht.cell (p:=⟨be,oe+i,none⟩) hb (by show¬be=b;omega)).trans (Y3 i x hx)⟩
def Qy5 [LT ZK] (w:World) (b i n most:Nat) (s9 s10:Value) (wr:World):Prop:=∃(j q:Nat) (a:OA) (c:Nat) (F:List (List Q01)) (vs:LV),s9=.slice a j c/\s10=.int .i64 (j:Int)/\j<=n/\F.length=j/\Q4c Sl wr w.heap.size 42 1 a j c vs/\
 (∀(t:Nat) (ms:List Q01),F[t]?=some ms->∃p l d,vs[t]?=some (Value.slice p l d)/\Q0k wr p l d ms/\Qdg w.heap.size wr p l/\Q38 n ms)/\Q42 wr b q/\q<=i+j*(1+most*10)/\Q0l (·=b) w wr
def Qrd [LT ZK] (b i n most:Nat) (w:World) (e:Ending) (w':World):Prop:=(∃a c F,e=.returned (.slice a n c)/\Q1a w' a n c F/\Q1u F/\F.length=n/\(∀x,a=some x->w.heap.size<=x.block)/\∃q,Q42 w' b q/\q<=i+n*(1+most*10))/\Q0l (·=b) w w'
theorem Qdj [LT ZK] (b i n most deg:Nat) (w:World) (h:Q42 w b i) (hi:i<=80000) (h1:1<=n) (hn:n<=4) (hm:most<=30) (hd:deg<=8):
 Calls Tryz.prog 46 #[.pointer (some ⟨b,0,none⟩),.int .i64 (n:Int),.int .i64 (most:Int),.int .i64 (deg:Int)] w (Qrd b i n most w):=by
 have K4:=h.lt;obtain ⟨i0,S2,E2,O1,Y1⟩:=Q0z Qea;have HI:=Xh4 S2 E2 O1 Y1;have HD:=Ua h;clear h S2 E2 O1 Y1
 go_enter Tryz.func46,Tryz.ntmps46
 go_wp2_with fail
 go_loopw [9,10] (fun s9 s10 wr=>Qy5 w b i n most s9 s10 wr) (fun _ iv _=>n-(intOf iv).toNat)
 case atStart=>exact ⟨0,i,none,0,[],[],rfl,rfl,Uv _,rfl,Q4c.nil_ _ _ _ _ _,(fun t ms h=>by simp at h),HD.out,by omega,Q0l.of_below (Ud _ _) _⟩
 case round=>
  obtain ⟨j,q,a1,c1,F,vs,rfl,rfl,hj,hF,K0,J2,C8,hq,ht⟩:=hrel;have hqb:q<=90000:=by
   have:j*(1+most*10)<=4*301:=Nat.mul_le_mul (by omega) (by omega);omega
  by_cases F0:j<n
  ·have G0:(j:Int)<(n:Int):=(by omega);have E8:=Qig b q n most deg wr C8 hqb h1 hn hm hd;have HR:=Xh6 hF K0 J2 hq ht C8;clear hF K0 J2 hq ht C8 hqb
   go_wp2_with (first
    |(go_at_call 81
      refine E8.mono ?_;rintro e w3 ⟨⟨a3,l3,c3,ms3,q3,rfl,XV,WY,WD,Jb,XZ⟩,y6⟩;obtain ⟨S2,E2,O1,Y1⟩:=HI.out;have JE:Q4c Sl w3 w.heap.size 42 1 a1 j c1 vs:=(Xo1 HR).keep fun x hx=>y6.block _ (Q2f.lt.row2_blk (Xo1 HR).1 hx).2 (by have:=(Q2f.lt.row2_blk (Xo1 HR).1 hx).1;show¬x.block=b;omega);have F2:w.heap.size<=w3.heap.size:=((Xo4 HR).trans0 y6).size;have R4:Bw w3 (w3.alloc (.cells #[.slice a3 l3 c3] 42)):=Ba;obtain ⟨g6,c6,w6,U7,J5,G4,m9⟩:=Q16 (P:=Tryz.prog) Sl (w3.alloc (.cells #[.slice a3 l3 c3] 42)) 22 22 42 i0 _ 1 24 Tryz.underlying22 S2 E2 O1 Y1 rfl (by intro u hu;simp[Value.cells] at hu;subst hu;exact ⟨_,_,_,rfl⟩) w.heap.size (Uj F2 R4.size) a1 j c1 vs (JE.step R4) w3.heap.size 1 1 [.slice a3 l3 c3] rfl (Tz (cs:= #[.slice a3 l3 c3]) (Up _ _)) (by simp[Value.oneCell']) (by intro u hu;simp at hu;subst hu;exact ⟨_,_,_,rfl⟩) (by decide) (by omega) (by decide) (by decide);have N4:Below w.heap.size w3 w6:=((Ud w.heap.size w3).alloc F2 (.cells #[.slice a3 l3 c3] 42)).trans ⟨G4.os,G4.tape,G4.output,G4.size,fun z hz=>G4.block z (Uc hz (Uj F2 R4.size)) (fun e=>by
       have:=JE.1.row_le z e.symm;omega)⟩
      have H3:=Xh11 XV WY WD Jb XZ y6 JE R4 J5 G4 N4;clear XV WY WD Jb XZ y6 JE R4 J5 G4 N4 F2 m9 S2 E2 O1 Y1 E8)
    |(at_builtin;refine Q0d rfl (.tmp 16) (.tmp 22) 22 22 rfl _ _ rfl rfl _ _ U7 ?_))
   obtain ⟨XV,WY,WD,Jb,XZ,y6,JE,R4,J5,G4,N4⟩:=H3.out;obtain ⟨hF,K0,J2,hq,ht,C8⟩:=HR.out;have QX:=(JE.step R4).sl;have Ye:∀{a:OA} {n c:Nat} {ms:List Q01},Q0k w3 a n c ms->Q0k w6 a n c ms:=fun h=>(h.step R4).kept _ G4 QX;have Kg:∀{a:OA} {n c:Nat} {ms:List Q01},Q0k w3 a n c ms->Qdg w.heap.size w3 a n->Qdg w.heap.size w6 a n:=fun h hN=>(hN.step R4).kept (h.step R4) _ G4 QX;have Zk:vs.length=j:=(by have:=K0.1.len;omega);refine ⟨⟨j+1,q3,_,c6,F++[ms3],vs++[.slice a3 l3 c3],rfl,congrArg (Value.int .i64) (by omega),F0,by rw[Ui,hF];rfl,J5,fun t ms hj=>?_,?_,?_,(ht.trans0 y6).past N4⟩,by simp only[intOf];omega⟩
   ·by_cases hji:t<j
    ·rw[Tp (by rw[hF];exact hji)] at hj;obtain ⟨p',n',d',g1',g2',g3',g4'⟩:=J2 t ms hj;exact ⟨p',n',d',by rw[Tp (by omega)];exact g1',Ye (g2'.turnD g3' K4 C8.nou y6),Kg (g2'.turnD g3' K4 C8.nou y6) (g3'.turn K4 y6),g4'⟩
    ·rw[Tg (by rw[hF];omega),hF] at hj;have hj0:t-j=0:=by
      have:=(Uh.1 hj).1;simp at this;omega
     rw[hj0] at hj;simp only[UO,Un] at hj;subst hj;exact ⟨a3,l3,c3,by rw[Tg (by omega),Zk,hj0];rfl,Ye XV,Kg XV (WD.more ht.size),WY⟩
   ·exact Jb.turn (fp:=fun k=>w.heap.size<=k) ⟨N4.os,N4.tape,N4.output,N4.size,fun k _ hn=>N4.block k (TR hn)⟩ fun k hk=>by omega
   ·rw[Tj];omega
  ·have G0:¬(j:Int)<(n:Int):=(by omega);have O9:j=n:=(by omega);have HS:=Xh7 hF K0 J2 ht O9 C8 hq;clear hF K0 J2 hq ht C8 O9 hqb
   go_wp2_with fail
   go_ret;obtain ⟨hF,K0,J2,ht,O9,C8,hq⟩:=HS.out;subst O9;have Q4:=K0.1.cap;refine ⟨⟨a1,c1,F,rfl,⟨hF,Q4.1,by have:=Q4.2;simpa[maxLen] using this,?_⟩,⟨by omega,by omega,fun ms hm=>?_⟩,hF,fun x hx=>(Q2f.lt.row2_blk K0.1 hx).1,q,C8,hq⟩,ht⟩
   ·rcases K0.1.form with ⟨_,h0,_⟩|⟨g,cur,rfl,_,hl,_⟩
    ·omega
    ·refine .inr ⟨g,0,rfl,hl,fun t ms ht=>?_⟩;obtain ⟨p,l,d,hv,hm,_⟩:=J2 t ms ht;exact ⟨p,l,d,by rw[UH];exact K0.1.cell0 hv,hm⟩
   ·obtain ⟨t,ht,rfl⟩:=Xaw hm;obtain ⟨_,_,_,_,_,_,h⟩:=J2 t _ (Ub ht);rw[hF];exact h
open DecM
theorem Qm2 [LT ZK] {w:World} {a:OA} {n c:Nat} {F:List (List Q01)} (h:Q1a w a n c F) {ms:List Q01} (hm:ms∈F):∃p l d,Q0k w p l d ms:=by
 obtain ⟨h1,h2,h3,h0|⟨b,o,_,_,hF⟩⟩:=h
 ·rw[h0] at hm;cases hm
 obtain ⟨i,hi⟩:=US.1 hm;obtain ⟨p,l,d,_,hM⟩:=hF i ms hi;exact ⟨p,l,d,hM⟩
theorem Qy6 [LT ZK] {w:World} {p:OA} {l d:Nat} {ms:List Q01} (h:Q0k w p l d ms) {m:Q01} (hm:m∈ms):Low (2^64) m.ws:=by
 obtain ⟨_,_,_,h0|⟨b2,o2,_,_,hM⟩⟩:=h
 ·rw[h0] at hm;cases hm
 obtain ⟨j,hj⟩:=US.1 hm;obtain ⟨_,_,_,_,_,_,_,_,_,_,hw,_⟩:=hM j m hj;exact hw.low
theorem Qre [LT ZK] {w:World} {a:OA} {n c:Nat} {F:List (List Q01)} (h:Q1a w a n c F) (hR:Q1u F):Qux (Q0x F):=by
 obtain ⟨h1,h4,hr⟩:=hR;have hl:(Q0x F).length=F.length:=by unfold Q0x;exact UE ..
 refine ⟨by omega,by omega,fun P hP=>?_⟩;unfold Q0x at hP;obtain ⟨ms,V5,rfl⟩:=TE.1 hP;obtain ⟨p,l,d,hM⟩:=Qm2 h V5;rw[hl];exact (hr ms V5).plain hM
theorem Qu3 {k j:Nat} {m m':Q01} (h:OkM k m) (h':OkM j m') (l:Low (2^64) m.ws) (l':Low (2^64) m'.ws) (e:m.term=m'.term):m=m':=by
 have e1:Q2m m.neg m.exp m.ws=Q2m m'.neg m'.exp m'.ws:=congrArg Prod.fst e;have e2:m.es=m'.es:=congrArg Prod.snd e;obtain ⟨h1,h2,h3⟩:=Qj4 h.1.2 l h'.1.2 l' e1;cases m;cases m';simp only at h1 h2 h3 e2;rw[h1,h2,h3,e2]
theorem Qih {k j:Nat}:∀{ms ms':List Q01},(∀m∈ms,OkM k m/\Low (2^64) m.ws)->(∀m∈ms',OkM j m/\Low (2^64) m.ws)->ms.map Q01.term=ms'.map Q01.term->ms=ms'
 |[],[],_,_,_=>rfl
 |[],_::_,_,_,h=>by simp at h
 |_::_,[],_,_,h=>by simp at h
 |m::r,m'::r',h1,h2,h=>by
  simp only[Xa1,List.cons.injEq] at h;rw[Qu3 (h1 m (by simp)).1 (h2 m' (by simp)).1 (h1 m (by simp)).2 (h2 m' (by simp)).2 h.1,Qih (fun x hx=>h1 x (by simp[hx])) (fun x hx=>h2 x (by simp[hx])) h.2]
theorem Qii {k j:Nat}:∀{F G:List (List Q01)},(∀ms∈F,∀m∈ms,OkM k m/\Low (2^64) m.ws)->(∀ms∈G,∀m∈ms,OkM j m/\Low (2^64) m.ws)->Q0x F=Q0x G->F=G
 |[],[],_,_,_=>rfl
 |[],_::_,_,_,h=>by simp[Q0x] at h
 |_::_,[],_,_,h=>by simp[Q0x] at h
 |m::r,m'::r',h1,h2,h=>by
  simp only[Q0x,Xa1,List.cons.injEq] at h;rw[Qih (h1 m (by simp)) (h2 m' (by simp)) h.1,Qii (fun x hx=>h1 x (by simp[hx])) (fun x hx=>h2 x (by simp[hx])) h.2]
theorem Qu4 [LT ZK] {w:World} {a:OA} {n c:Nat} {F:List (List Q01)} (h:Q1a w a n c F) (hR:Q1u F):∀ms∈F,∀m∈ms,OkM F.length m/\Low (2^64) m.ws:=fun ms V5 m hm=>by
 obtain ⟨p,l,d,hM⟩:=Qm2 h V5;exact ⟨(hR.2.2 ms V5).2.2.2.1 m hm,Qy6 hM hm⟩
end Go.Proofs.YtidojbkhlenahaaGreatDoor
