/- Part 31 of the proof of LawParseBuilt: GathB, RefMake, DeckP. Condition: as each theorem says; none at the end. -/
import Derived.Test.YtdilmfakkppgpaaGreatDoorPkParseBuilt30
set_option maxRecDepth 100000
set_option maxHeartbeats 16000000
namespace Go.Proofs.YtdilmfakkppgpaaGreatDoor
open Go.RowKit WordsM
def Q4s (w wr:World) (ao:OA) (m co:Nat) (out:List Q0a) (xs:LV):Prop:=out.length=m/\Q3d NoD wr w.heap.size 144 4 ao m co xs/\Q5y w wr out xs/\Bw w wr
def Qwz (w:World) (ts:List Q0a) (s4 s5:Value) (wr:World):Prop:=∃(i m:Nat) (ao:OA) (co:Nat) (xs:LV),s4=.slice ao m co/\s5=.int .i64 (i:Int)/\i<=ts.length/\Q4s w wr ao m co (Q23 (ts.take i)) xs
theorem Q4s.step {w wr w':World} {ao:OA} {m co:Nat} {out:List Q0a} {xs:LV} (h:Q4s w wr ao m co out xs) (hb:Bw wr w'):Q4s w w' ao m co out xs:=
 ⟨h.1,h.2.1.step hb,h.2.2.1.keep (fun h=>h.step hb),Below.next0 h.2.2.2 hb⟩
theorem Qur {w W:World} {g m co kk:Nat} {out:List Q0a} {xs:LV} {p:Q0a} {G2:List Q0a} {D:Dyadic} (hp:out[kk]?=some p) (hG:G2=out.set kk (D,p.2)) (h:Q4s w W (some ⟨g,0,none⟩) m co out xs) {n8:Bool} {a8:OA} {l8 c8 v8:Nat} {q8:Int} (hd:Q0n W a8 l8 c8 v8) (hc:Q5b n8 v8 q8) (hD:dy (sgn n8 v8) q8=D):
 ∃xs2,Q4s w (((W.setCell ⟨g,kk*4,none⟩ (.bool n8)).setCell ⟨g,kk*4+1,none⟩ (.slice a8 l8 c8)).setCell ⟨g,kk*4+2,none⟩ (.int .i64 q8)) (some ⟨g,0,none⟩) m co G2 xs2:=by
 obtain ⟨h1,h2,h3,h4⟩:=h;obtain ⟨n,a,l,c,e,v,ae,le,ce,g0,g1,g2,g3,_⟩:=h3.get hp;have V0:∀{j:Nat} {u:Value},xs[j]?=some u->W.cell? ⟨g,j,none⟩=some u:=fun {j u} hj=>by
  obtain ⟨g',e',_,_,O3⟩:=h2.1.at_ hj;injection e' with e';injection e' with e';subst e';exact O3
 have k0:=V0 g0;have k1:=V0 g1;have k2:=V0 g2;have hgB:w.heap.size<=g:=by
  rcases h2.1.form with ⟨h0,_⟩|⟨g',cur,e',hB,_⟩
  ·cases h0
  ·injection e' with e';injection e' with e';subst e';exact hB
 have hk:∀{a l c v},Q0n W a l c v->Q0n (((W.setCell ⟨g,kk*4,none⟩ (.bool n8)).setCell ⟨g,kk*4+1,none⟩ (.slice a8 l8 c8)).setCell ⟨g,kk*4+2,none⟩ (.int .i64 q8)) a l c v:=fun h=>by
  refine ((h.set1 k0 (Q9o _) _).set1 (p:=⟨g,kk*4+1,none⟩) ((Uc _ _ _ _ (by simp)).trans k1) (Q4j _ _ _) _).set1 (p:=⟨g,kk*4+2,none⟩) ((Uc _ _ _ _ (by simp)).trans ((Uc _ _ _ _ (by simp)).trans k2)) (Qd2 _) _
 refine ⟨_,by rw[hG,Xbk];exact h1,((h2.set (kk*4) (Q9o n8)).set (kk*4+1) (Q4j a8 l8 c8)).set (kk*4+2) (Qd2 q8),?_,((h4.setCell (p:=⟨g,kk*4,none⟩) hgB _).setCell (p:=⟨g,kk*4+1,none⟩) hgB _).setCell (p:=⟨g,kk*4+2,none⟩) hgB _⟩;rw[hG,<-hD];exact Q5y.put (hk hd) hc (h3.keep hk) hp
structure Qus (w W:World) (g kk m co b oi:Nat) (out:List Q0a) (xs:LV) (n2:Bool) (a2:OA) (l2 c2 v2:Nat) (e2:Int) (n1:Bool) (a1:OA) (l1 c1 v1:Nat) (e1:Int):Prop where
 o0:W.cell? ⟨g,kk*4,none⟩=some (.bool n2)
 o1:W.cell? ⟨g,kk*4+1,none⟩=some (.slice a2 l2 c2)
 o2:W.cell? ⟨g,kk*4+2,none⟩=some (.int .i64 e2)
 z0:W.frozen? ⟨g,kk*4,none⟩=false
 z1:W.frozen? ⟨g,kk*4+1,none⟩=false
 z2:W.frozen? ⟨g,kk*4+2,none⟩=false
 i0:W.cell? ⟨b,oi,none⟩=some (.bool n1)
 i1:W.cell? ⟨b,oi+1,none⟩=some (.slice a1 l1 c1)
 i2:W.cell? ⟨b,oi+2,none⟩=some (.int .i64 e1)
 d2:Q0n W a2 l2 c2 v2
 d1:Q0n W a1 l1 c1 v1
 st:Q4s w W (some ⟨g,0,none⟩) m co out xs
theorem Qus.step {w W W':World} {g kk m co b oi:Nat} {out:List Q0a} {xs:LV} {n2:Bool} {a2:OA} {l2 c2 v2:Nat} {e2:Int} {n1:Bool} {a1:OA} {l1 c1 v1:Nat} {e1:Int} (h:Qus w W g kk m co b oi out xs n2 a2 l2 c2 v2 e2 n1 a1 l1 c1 v1 e1) (hb:Bw W W'):Qus w W' g kk m co b oi out xs n2 a2 l2 c2 v2 e2 n1 a1 l1 c1 v1 e1:=by
 have hg:g<W.heap.size:=US h.o0;have E3:b<W.heap.size:=US h.i0;exact ⟨(hb.cell (p:=⟨g,kk*4,none⟩) hg).trans h.o0,(hb.cell (p:=⟨g,kk*4+1,none⟩) hg).trans h.o1,(hb.cell (p:=⟨g,kk*4+2,none⟩) hg).trans h.o2,(hb.frozen (p:=⟨g,kk*4,none⟩) hg).trans h.z0,(hb.frozen (p:=⟨g,kk*4+1,none⟩) hg).trans h.z1,(hb.frozen (p:=⟨g,kk*4+2,none⟩) hg).trans h.z2,
  (hb.cell (p:=⟨b,oi,none⟩) E3).trans h.i0,(hb.cell (p:=⟨b,oi+1,none⟩) E3).trans h.i1,(hb.cell (p:=⟨b,oi+2,none⟩) E3).trans h.i2,h.d2.step hb,h.d1.step hb,h.st.step hb⟩
theorem Q0j.heap {w W:World} {a:OA} {n c:Nat} {E:List Int} (h:Q0j w a n c E) (hh:W.heap=w.heap):Q0j W a n c E:=by
 refine ⟨h.len,h.cap,h.most,h.rng,?_⟩;rw[hh];exact h.rd.keep fun p _=>by unfold World.cell?;rw[hh]
def Q37 (w W:World):Prop:=∃q,W=w.drewN q
theorem Q37.step {w W:World} (h:Q37 w W) (k:Nat):Q37 w (W.drewN k):=by
 obtain ⟨q,rfl⟩:=h;exact ⟨_,Xbq ..⟩
theorem Q37.below {w W:World} (h:Q37 w W):Bw w W:=by
 obtain ⟨q,rfl⟩:=h;exact Q1w (Uf _ _) q
theorem Q37.heap {w W:World} (h:Q37 w W):W.heap=w.heap:=by
 obtain ⟨q,rfl⟩:=h;rfl
theorem Q37.trans {w W V:World} (h:Q37 w W) (h2:Q37 W V):Q37 w V:=by
 obtain ⟨q,rfl⟩:=h2;exact h.step q
theorem Q37.cell {w W:World} (h:Q37 w W) (p:Addr):W.cell? p=w.cell? p:=by unfold World.cell?;rw[h.heap]
theorem Q1p {Φ P:World->Prop} (W:World) (hW:Φ W) (h:∀U,Φ U->P U):P W:=h W hW
theorem Q3d.block {Pr:Value->Prop} {w:World} {B:Nat} {e:TypeId} {k m c:Nat} {a:OA} {xs:LV} (h:Q3d Pr w B e k a m c xs) (hm:0<m):∃g,a=some ⟨g,0,none⟩/\(∀i,w.frozen? ⟨g,i,none⟩=false)/\∀j u,xs[j]?=some u->w.cell? ⟨g,j,none⟩=some u:=by
 rcases h.1.form with ⟨_,h0,_⟩|⟨g,cur,rfl,_,_,hh,_⟩
 ·omega
 ·refine ⟨g,rfl,fun i=>TC _ _ _ _ _ hh,fun j u hj=>?_⟩;obtain ⟨g',e',_,_,O3⟩:=h.1.at_ hj;injection e' with e';injection e' with e';subst e';exact O3
theorem Qel (a:OA) (n c:Nat) (ts:List Q0a) (k T:Nat) (w:World) (h:Qkx w a n c ts) (hE:∀p∈ts,p.2.length=k) (Ql:∀p∈ts,bnd T p.1) (hn:n<=1000) (hT:T+n<=500000) (hk:1<=k) (N9:k<=1000):
 Calls Tryz.prog 93 #[.slice a n c] w (Q2j w (Q24 ts)):=by
 have Z2:=h.1;have E4:=Ur h.2.1 h.2.2.1;obtain ⟨X,hX⟩:∃X,Q24 ts=X:=⟨_,rfl⟩;rw[hX];have H:=Xh4 h hE Ql hX;clear h hE Ql hX
 go_enter Tryz.func93,Tryz.ntmps93
 go_wp2_with fail
 go_loopw [4,5] (fun s4 s5 wr=>Qwz w ts s4 s5 wr) (fun _ iv _=>n-(intOf iv).toNat)
 case atStart=>exact ⟨0,0,none,0,[],rfl,rfl,Uu _,rfl,Q3d.nil_ _ _ _ _ _,rfl,Uf _ _⟩
 case round=>
  obtain ⟨i,m,ao,co,xs,rfl,rfl,hi,Z0⟩:=hrel
  by_cases B0:i<n
  ·have E0:(i:Int)<(n:Int):=(by omega);obtain ⟨cc,Y2⟩:∃cc,ts[i]?=some cc:=⟨_,Ub (by omega)⟩;have ZD:m<=i:=(by rw[<-Z0.1];exact Qbp ts i);have hob:=Qbo (Xo2 H) i;have hoe:∀p∈Q23 (ts.take i),p.2.length=k:=fun p hp=>by
    obtain ⟨q,hq,he⟩:=(Q6z (ts.take i)).2.2.1 p hp;rw[<-he];exact (Xo1 H) q (Ty hq)
   have T6:Q23 (ts.take (i+1))=Q8c (Q23 (ts.take i)) cc:=(by rw[Tc,Y2];exact Q7v _ _);obtain ⟨out,V2⟩:∃out,Q23 (ts.take i)=out:=⟨_,rfl⟩;rw[V2] at Z0 hob hoe T6;obtain ⟨_,_,_,h0|⟨b,o,rfl,E3,ys,hys,hyc⟩⟩:=(Xo0 H)
   ·rw[h0] at Y2;simp at Y2
   obtain ⟨n1,a1,l1,c1,e1,v1,ae1,le1,ce1,y0,y1,y2,y3,K2,N1,Xh,hE1⟩:=hys.get Y2;obtain rfl:le1=k:=(by rw[<-hE1.len];exact (Xo1 H) cc (Ud Y2));have N0:=Z0.2.2.2;have Yj:∀j u,ys[i*4+j]?=some u->w.cell? ⟨b,o+i*4+j,none⟩=some u:=fun j u hj=>by rw[Nat.add_assoc];exact hyc _ _ hj
   have HYC:=Xh4 (hyc _ _ y0) (Yj _ _ y1) (Yj _ _ y2) (Yj _ _ y3);have q0:=(N0.cell (p:=⟨b,o+i*4,none⟩) E3).trans (hyc _ _ y0);have q1:=(N0.cell (p:=⟨b,o+(i*4+1),none⟩) E3).trans (hyc _ _ y1);have q2:=(N0.cell (p:=⟨b,o+(i*4+2),none⟩) E3).trans (hyc _ _ y2);have q3:=(N0.cell (p:=⟨b,o+(i*4+3),none⟩) E3).trans (hyc _ _ y3);rw[<-Nat.add_assoc] at q1 q2 q3;have hcb:bnd T cc.1:=(Xo2 H) cc (Ud Y2);have hmc:=Ur Z0.2.1.1.cap.1 Z0.2.1.1.cap.2;have hmco:=Z0.2.1.1.cap.1;have HS:=Xh10 Z0 hob hoe T6 K2 N1 Xh hE1 hcb N0;clear Z0 hob hoe T6 K2 N1 Xh hE1 hcb N0 Y2 hys hyc Yj y0 y1 y2 y3 V2
   go_wp2_with fail
   rename World=>wl
   go_loopw [6] (fun s6 wr=>∃kk:Nat,s6=.int .i64 (kk:Int)/\kk<=m/\(∀j p,j<kk->out[j]?=some p->0<Q2u p.2 cc.2)/\Q37 wl wr) (fun iv _=>m-(intOf iv).toNat)
   case atStart=>exact ⟨0,rfl,Uu _,fun j p hj=>absurd hj (Xaf _),0,rfl⟩
   case round=>
    obtain ⟨kk,rfl,hkm,Zk,Q2⟩:=hrel;have V0:∀p,wr.cell? p=wl.cell? p:=fun p=>by unfold World.cell?;rw[Q2.heap]
    by_cases QT:kk<m
    ·have hkm':(kk:Int)<(m:Int):=(by omega);obtain ⟨p,hp⟩:∃p,out[kk]?=some p:=⟨_,Ub (by rw[(Xo0 HS).1];exact QT)⟩;obtain ⟨g,rfl,Zv,ZI⟩:=(Xo0 HS).2.1.block (by omega);obtain ⟨n2,a2,l2,c2,e2,v2,ae2,le2,ce2,g0,g1,g2,g3,M2,E1,Jo,Ka⟩:=(Xo0 HS).2.2.1.get hp;obtain rfl:le2=le1:=(by rw[<-Ka.len];exact (Xo2 HS) p (Ud hp));have x0:=(V0 ⟨g,kk*4,none⟩).trans (ZI _ _ g0);have x1:=(V0 ⟨g,kk*4+1,none⟩).trans (ZI _ _ g1);have x2:=(V0 ⟨g,kk*4+2,none⟩).trans (ZI _ _ g2);have x3:=(V0 ⟨g,kk*4+3,none⟩).trans (ZI _ _ g3);have z0:=(V0 ⟨b,o+i*4,none⟩).trans q0;have z1:=(V0 ⟨b,o+i*4+1,none⟩).trans q1;have z2:=(V0 ⟨b,o+i*4+2,none⟩).trans q2;have z3:=(V0 ⟨b,o+i*4+3,none⟩).trans q3;have Qg:∀W:World,Q37 wr W->Calls Tryz.prog 117 #[.slice ae2 le2 ce2,.slice ae1 le2 ce1] W fun e w'=>e=.returned (.int .i64 (Q2u p.2 cc.2))/\∃n,w'=W.drewN n:=fun W hW=>by
      have hh:W.heap=wl.heap:=hW.heap.trans Q2.heap;exact Q64 ae2 le2 ce2 p.2 ae1 ce1 cc.2 W ((Ka.step (Xe9 HS)).heap hh) (((Xo7 HS).step (Xe9 HS)).heap hh)
     obtain ⟨V,hV⟩:∃V,Q2u p.2 cc.2=V:=⟨_,rfl⟩;rw[hV] at Qg
     by_cases hgt:0<V
     ·have HX:=Xh4 Q2 Zk hp hV;clear Q2 Zk hp hV V0 ZI M2 E1 Jo Ka g0 g1 g2 g3 Zv
      go_wp2_with fail
      go_quiet (first|(refine Calls.quiet_of (Qg _ ?_);first|exact ⟨_,rfl⟩|exact Q37.step ⟨_,rfl⟩ _|exact ⟨0,rfl⟩))
      go_wp2_with fail
      refine ⟨⟨kk+1,congrArg (Value.int .i64) (by omega),by omega,fun j p' hj o9=>?_,(Xo0 HX).step _⟩,by simp only[intOf];omega⟩
      by_cases JI:j=kk
      ·subst JI;rw[(Xo2 HX)] at o9;injection o9 with o9;rw[<-o9,(Xe3 HX)];exact hgt
      ·exact (Xo1 HX) j p' (by omega) o9
     ·by_cases C9:V=0
      ·subst C9;obtain ⟨G2,hG2⟩:∃G2,Q23 (ts.take (i+1))=G2:=⟨_,rfl⟩;have hG3:G2=out.set kk (p.1+cc.1,p.2):=(by rw[<-hG2,(Xo3 HS)];exact Qs7 Zk hp hV);have hb2':bnd 500000 (dy (sgn n2 v2) e2):=(by rw[Jo];exact ((Xo1 HS) p (Ud hp)).more (by omega));have hb1':bnd 500000 (dy (sgn n1 v1) e1):=(by rw[(Xo6 HS)];exact (Xo8 HS).more (by omega));have m6:dy (sgn n2 v2) e2+dy (sgn n1 v1) e1=p.1+cc.1:=(by rw[Jo,(Xo6 HS)]);have I6:Qus w wl g kk m co b (o+i*4) out xs n2 a2 l2 c2 v2 e2 n1 a1 l1 c1 v1 e1:=⟨ZI _ _ g0,ZI _ _ g1,ZI _ _ g2,Zv _,Zv _,Zv _,q0,q1,q2,M2,(Xo4 HS).step (Xe9 HS),(Xo0 HS)⟩;have HW:=Xh2 Q2 I6;have HG:=Xh7 E1 (Xo5 HS) hb2' hb1' hp hG3 m6;have HG2:=Ua hG2;clear Q2 Zk hp hV V0 ZI M2 E1 Jo Ka g0 g1 g2 g3 Zv I6 hb2' hb1' m6 hG3 hG2
       go_wp2_with fail
       go_quiet (first|(refine Calls.quiet_of (Qg _ ?_);first|exact ⟨_,rfl⟩|exact Q37.step ⟨_,rfl⟩ _|exact ⟨0,rfl⟩))
       go_upto_region 8 with fail
       refine Q1p (Φ:=Q37 wr) (P:=fun U=>Code.wp _ _ _ _ U) _ (by first|exact ⟨_,rfl⟩|exact Q37.step ⟨_,rfl⟩ _|exact Q37.step (Q37.step ⟨_,rfl⟩ _) _) ?_;intro V1 D6;have u1:=(D6.cell ⟨g,kk*4+3,none⟩).trans x3;have u3:=(D6.cell ⟨b,o+i*4+3,none⟩).trans z3;have XS:=fun W (h:Q37 V1 W)=>Qg W (D6.trans h);clear Qg x0 x1 x2 x3 z0 z1 z2 z3
       go_quiet (first|(refine Calls.quiet_of (XS _ ?_);first|exact ⟨_,rfl⟩|exact Q37.step ⟨_,rfl⟩ _|exact ⟨0,rfl⟩))
       go_upto_region 9 with fail
       refine Q1p (Φ:=Q37 wl) (P:=fun U=>Code.wp _ _ _ _ U) _ (by first|exact (Xo0 HW)|exact (Xo0 HW).step _|exact ((Xo0 HW).step _).step _|exact (Xo0 HW).trans D6|exact (Xo0 HW).trans (D6.step _)|exact (Xo0 HW).trans ((D6.step _).step _)) ?_;intro U hU;have HC:=Ua (fun W (h:Bw U W)=>(Xe1 HW).step (Below.next0 hU.below h));clear hU;refine Q2q (by kernel_rfl) 15 rfl (fun W=>Bw U W) (fun _ _ h h'=>Below.next0 h h') (Q3x [.slice (some ⟨g,0,none⟩) m co,.int .i64 (kk:Int),.slice (some ⟨g,0,none⟩) m co,.int .i64 (kk:Int),.pointer (some ⟨g,kk*4,none⟩),.pointer (some ⟨g,kk*4,none⟩),.agg #[.bool n2,.slice a2 l2 c2,.int .i64 e2],.slice (some ⟨b,o,none⟩) n c,.int .i64 (i:Int),.pointer (some ⟨b,o+i*4,none⟩),.pointer (some ⟨b,o+i*4,none⟩),.agg #[.bool n1,.slice a1 l1 c1,.int .i64 e1],undef,.pointer (some ⟨g,kk*4,none⟩),.pointer (some ⟨g,kk*4,none⟩)] (Q1n [(12,fun u w=>Q8q w u (dy (sgn n2 v2) e2+dy (sgn n1 v1) e1))])) (Q0h (Q0m (Qum (Q2r _)))) (fun W=>∃xs2,Q4s w W (some ⟨g,0,none⟩) m co G2 xs2) (by kernel_rfl) (by kernel_rfl) (by kernel_rfl) (by kernel_rfl) (Q05 U) ?_ ?_ ?_
       ·skip
        repeat' (first|exact Q98|refine Q97 ?_ ?_)
        all_goals first
         |(refine Q29 rfl fun A W hW F0 hd hd=>?_
           simp[Q82,Region.binds,Q1n] at hd;have e4:=Q0d F0 4 (by kernel_rfl) rfl;have e6:=Q0d F0 6 (by kernel_rfl) rfl;have e0:=Q0d F0 0 (by kernel_rfl) rfl;have e5:=Q0d F0 5 (by kernel_rfl) rfl;refine Q3n rfl rfl ?_;simp[go_sem,hd,e4,e6,e0,e5,hkm',(HC.out W hW).o0,(HC.out W hW).o1,(HC.out W hW).o2,E0,(HC.out W hW).i0,(HC.out W hW).i1,(HC.out W hW).i2]
           done)
         |skip
        ·intro A W hW F0 A0;have e62:=Q0o A0 6 (by decide) rfl rfl rfl;have e67:=Q0o A0 11 (by decide) rfl rfl rfl;refine Q04 rfl ?_;refine Q0y (f:=25) (args:= #[.agg #[.bool n2,.slice a2 l2 c2,.int .i64 e2],.agg #[.bool n1,.slice a1 l1 c1,.int .i64 e1]]) (by simp[go_sem,e62,e67]) ((Qkv n2 a2 l2 c2 e2 v2 n1 a1 l1 c1 e1 v1 W (HC.out W hW).d2 (HC.out W hW).d1 (Xo0 HG) (Xo1 HG) 500000 (Xo2 HG) (Xo3 HG) (Ug _)).mono ?_);rintro e w2' ⟨u',rfl,ZG,J5⟩;exact ⟨_,rfl,J5,(Q00 rfl).2 ZG⟩
       ·intro A W hW F0 A0;obtain ⟨n8,a8,l8,c8,q8,v8,k7,QX,R7,ZB⟩:=(Q00 rfl).1 (A0 12 (by decide));have e68:=Q1f k7;have e70:=Q0o A0 14 (by decide) rfl rfl rfl;have hgg:=HC.out W hW;have k0:=hgg.o0;have f0:=hgg.z0;have f1:=hgg.z1;have f2:=hgg.z2;have d1:(W.setCell ⟨g,kk*4,none⟩ (.bool n8)).cell? ⟨g,kk*4+1,none⟩=some (.slice a2 l2 c2):=(Uc _ _ _ _ (by simp)).trans hgg.o1;have d2:((W.setCell ⟨g,kk*4,none⟩ (.bool n8)).setCell ⟨g,kk*4+1,none⟩ (.slice a8 l8 c8)).cell? ⟨g,kk*4+2,none⟩=some (.int .i64 e2):=(Uc _ _ _ _ (by simp)).trans ((Uc _ _ _ _ (by simp)).trans hgg.o2);refine Q3j (w':=(((W.setCell ⟨g,kk*4,none⟩ (.bool n8)).setCell ⟨g,kk*4+1,none⟩ (.slice a8 l8 c8)).setCell ⟨g,kk*4+2,none⟩ (.int .i64 q8))) (by simp[go_sem,e70,e68,k0,f0,f1,f2,d1,d2]) ?_;exact Qur (Xo4 HG) (Xo5 HG) (HC.out W hW).st QX R7 (ZB.trans (Xe6 HG))
       intro vs W2 G3;obtain ⟨xs2,hst2⟩:=G3;have HF:=Ua hst2;clear hst2;simp only[Q0s,Act.put,Uw,UK,UJ]
       go_wp2_with fail
       exact ⟨⟨i+1,m,some ⟨g,0,none⟩,co,xs2,rfl,congrArg (Value.int .i64) (by omega),by omega,by rw[HG2.out];exact HF.out⟩,by simp only[intOf];omega⟩
      ·have hv0':(V==0)=false:=(by rw[Ui];exact C9);have HW:=Ua (And.intro Q2 (And.intro Zk (show∀p',out[kk]?=some p'->Q2u p'.2 cc.2<0 from fun p' o9=>by
        rw[hp] at o9;injection o9 with o9;rw[<-o9,hV];omega)))
       clear Q2 Zk hp hV V0 ZI M2 E1 Jo Ka g0 g1 g2 g3 Zv
       go_wp2_with fail
       go_quiet (first|(refine Calls.quiet_of (Qg _ ?_);first|exact ⟨_,rfl⟩|exact Q37.step ⟨_,rfl⟩ _|exact ⟨0,rfl⟩))
       go_upto_region 8 with fail
       refine Q1p (Φ:=Q37 wr) (P:=fun U=>Code.wp _ _ _ _ U) _ (by first|exact ⟨_,rfl⟩|exact Q37.step ⟨_,rfl⟩ _|exact Q37.step (Q37.step ⟨_,rfl⟩ _) _) ?_;intro V1 D6;have u1:=(D6.cell ⟨g,kk*4+3,none⟩).trans x3;have u3:=(D6.cell ⟨b,o+i*4+3,none⟩).trans z3;have XS:=fun W (h:Q37 V1 W)=>Qg W (D6.trans h);clear Qg x0 x1 x2 x3 z0 z1 z2 z3
       go_quiet (first|(refine Calls.quiet_of (XS _ ?_);first|exact ⟨_,rfl⟩|exact Q37.step ⟨_,rfl⟩ _|exact ⟨0,rfl⟩))
       go_upto_region 11 with fail
       refine Q1p (Φ:=Q37 wl) (P:=fun U=>Code.wp _ _ _ _ U) _ (by first|exact (Xo0 HW)|exact (Xo0 HW).step _|exact ((Xo0 HW).step _).step _|exact (Xo0 HW).trans D6|exact (Xo0 HW).trans (D6.step _)|exact (Xo0 HW).trans ((D6.step _).step _)) ?_;intro U hU;have hUb:=hU.below;have Qh:=(Xo0 HS).step hUb;have Qq:=Qh.2.2.2;obtain ⟨a7,c7,w7,i7,F7,a8,c8,w8,I2,B4,a9,c9,w9,M6,Z4,m9,Qf⟩:=Qek w U Qq (some ⟨g,0,none⟩) m co xs out Qh.1 Qh.2.1 Qh.2.2.1 kk hkm cc [.bool n1,.slice a1 l1 c1,.int .i64 e1,.slice ae1 le2 ce1] ⟨n1,a1,l1,c1,e1,v1,ae1,le2,ce1,[],rfl,⟨(Xo4 HS).step Qq,(Xo5 HS),(Xo6 HS),(Xo7 HS)⟩,rfl⟩ (by omega);have p0:=(F7.cell (p:=⟨b,o+i*4,none⟩) E3).trans (Xo0 HYC);have p1:=(F7.cell (p:=⟨b,o+i*4+1,none⟩) E3).trans (Xo1 HYC);have p2:=(F7.cell (p:=⟨b,o+i*4+2,none⟩) E3).trans (Xo2 HYC);have p3:=(F7.cell (p:=⟨b,o+i*4+3,none⟩) E3).trans (Xe3 HYC);have B2:=fun W=>Qil W (some ⟨g,0,none⟩) m co kk (by omega);have X6:=fun W=>Qik W (some ⟨g,0,none⟩) m co kk hkm;have Y5:Q23 (ts.take (i+1))=out.take kk++cc::out.drop kk:=by
        rw[(Xo3 HS)];exact Qih (by rw[(Xo0 HS).1];exact hkm) (Xo1 HW) (Xe2 HW)
       have b7:∃xs',Q4s w w9 a9 (m+1) c9 (Q23 (ts.take (i+1))) xs':=by
        rw[Y5];exact ⟨_,by rw[Uj,Uz,Tn,Te,(Xo0 HS).1];omega,m9,Qf,Z4⟩
       obtain ⟨xs9,hx9⟩:=b7;have HR:=Ua hx9;clear hx9 m9 Qf Z4 Y5 hUb Qh Qq F7 B4
       go_wp2_with (first
        |(at_builtin;refine Q07 rfl (.tmp 71) (.tmp 74) 142 142 rfl _ _ rfl rfl _ _ i7 ?_)
        |(at_builtin;refine Q07 rfl (.tmp 76) (.tmp 81) 142 142 rfl _ _ rfl rfl _ _ I2 ?_)
        |(at_builtin;refine Q07 rfl (.tmp 83) (.tmp 86) 142 142 rfl _ _ rfl rfl _ _ M6 ?_))
       exact ⟨⟨i+1,m+1,a9,c9,xs9,rfl,congrArg (Value.int .i64) (by omega),by omega,HR.out⟩,by simp only[intOf];omega⟩
    ·have hkm':¬(kk:Int)<(m:Int):=(by omega);have HW:=Ua (And.intro Q2 (And.intro Zk (show∀p',out[kk]?=some p'->Q2u p'.2 cc.2<0 from fun p' o9=>by
      have:=(Um.1 o9).1;have:=(Xo0 HS).1;omega)))
     clear Q2 Zk V0
     go_wp2_with fail
     go_quiet (fail)
     go_wp2_with fail
     go_quiet (fail)
     go_upto_region 11 with fail
     refine Q1p (Φ:=Q37 wl) (P:=fun U=>Code.wp _ _ _ _ U) _ (by first|exact (Xo0 HW)|exact (Xo0 HW).step _|exact ((Xo0 HW).step _).step _|exact (Xo0 HW).trans D6|exact (Xo0 HW).trans (D6.step _)|exact (Xo0 HW).trans ((D6.step _).step _)) ?_;intro U hU;have hUb:=hU.below;have Qh:=(Xo0 HS).step hUb;have Qq:=Qh.2.2.2;obtain ⟨a7,c7,w7,i7,F7,a8,c8,w8,I2,B4,a9,c9,w9,M6,Z4,m9,Qf⟩:=Qek w U Qq ao m co xs out Qh.1 Qh.2.1 Qh.2.2.1 kk hkm cc [.bool n1,.slice a1 l1 c1,.int .i64 e1,.slice ae1 le1 ce1] ⟨n1,a1,l1,c1,e1,v1,ae1,le1,ce1,[],rfl,⟨(Xo4 HS).step Qq,(Xo5 HS),(Xo6 HS),(Xo7 HS)⟩,rfl⟩ (by omega);have p0:=(F7.cell (p:=⟨b,o+i*4,none⟩) E3).trans (Xo0 HYC);have p1:=(F7.cell (p:=⟨b,o+i*4+1,none⟩) E3).trans (Xo1 HYC);have p2:=(F7.cell (p:=⟨b,o+i*4+2,none⟩) E3).trans (Xo2 HYC);have p3:=(F7.cell (p:=⟨b,o+i*4+3,none⟩) E3).trans (Xe3 HYC);have B2:=fun W=>Qil W ao m co kk (by omega);have X6:=fun W=>Qik W ao m co kk hkm;have Y5:Q23 (ts.take (i+1))=out.take kk++cc::out.drop kk:=by
      rw[(Xo3 HS)];exact Qih (by rw[(Xo0 HS).1];exact hkm) (Xo1 HW) (Xe2 HW)
     have b7:∃xs',Q4s w w9 a9 (m+1) c9 (Q23 (ts.take (i+1))) xs':=by
      rw[Y5];exact ⟨_,by rw[Uj,Uz,Tn,Te,(Xo0 HS).1];omega,m9,Qf,Z4⟩
     obtain ⟨xs9,hx9⟩:=b7;have HR:=Ua hx9;clear hx9 m9 Qf Z4 Y5 hUb Qh Qq F7 B4
     go_wp2_with (first
      |(at_builtin;refine Q07 rfl (.tmp 71) (.tmp 74) 142 142 rfl _ _ rfl rfl _ _ i7 ?_)
      |(at_builtin;refine Q07 rfl (.tmp 76) (.tmp 81) 142 142 rfl _ _ rfl rfl _ _ I2 ?_)
      |(at_builtin;refine Q07 rfl (.tmp 83) (.tmp 86) 142 142 rfl _ _ rfl rfl _ _ M6 ?_))
     exact ⟨⟨i+1,m+1,a9,c9,xs9,rfl,congrArg (Value.int .i64) (by omega),by omega,HR.out⟩,by simp only[intOf];omega⟩
  ·have E0:¬(i:Int)<(n:Int):=(by omega);have A6:ts.take i=ts:=UA (by omega);obtain ⟨out,V2⟩:∃out,Q23 ts=out:=⟨_,rfl⟩;have ZD:m<=n:=(by rw[<-Z0.1];exact Ur (Qbp ts i) (by omega));have hob:∀p∈out,bnd (T+n) p.1:=fun p hp=>by
    refine (Qbo (Xo2 H) i p (by rw[A6,V2];exact hp)).more (by omega)
   have hoe:∀p∈out,p.2.length=k:=fun p hp=>by
    obtain ⟨q,hq,he⟩:=(Q6z ts).2.2.1 p (by rw[V2];exact hp);rw[<-he];exact (Xo1 H) q hq
   rw[A6,V2] at Z0;have hmco:=Z0.2.1.1.cap.1;have hmc:=Ur Z0.2.1.1.cap.1 Z0.2.1.1.cap.2;have HS:=Xh4 Z0 hob hoe V2;clear Z0 hob hoe V2 A6
   go_wp2_with fail
   rename World=>wl
   go_loopw [8,9] (fun s8 s9 wr=>Qyv wl out s8 s9 wr) (fun _ iv _=>m-(intOf iv).toNat)
   case atStart=>exact ⟨0,0,none,0,[],[],rfl,rfl,Uu _,Ug _,Qb8.nil_ _ _,rfl,(fun m hm=>by cases hm),(fun p hp=>by simp at hp),Uf _ _⟩
   case round=>
    obtain ⟨j,N,a1,c1,ms,zs,rfl,rfl,hj,hNj,P0,QD,D3,M3,Q0⟩:=hrel
    by_cases hjm:j<m
    ·have KJ:(j:Int)<(m:Int):=(by omega);have hj1:j+1<=out.length:=(by rw[(Xo0 HS).1];exact hjm);obtain ⟨p,hp⟩:∃p,out[j]?=some p:=⟨_,Ub (by rw[(Xo0 HS).1];exact hjm)⟩;obtain ⟨g,rfl,Zv,ZI⟩:=(Xo0 HS).2.1.block (by omega);obtain ⟨n2,a2,l2,c2,e2,v2,ae2,le2,ce2,g0,g1,g2,g3,M2,E1,Jo,Ka⟩:=(Xo0 HS).2.2.1.get hp;have XM:g<wl.heap.size:=US (ZI _ _ g0);have x0:=(Q0.cell (p:=⟨g,j*4,none⟩) XM).trans (ZI _ _ g0);have x1:=(Q0.cell (p:=⟨g,j*4+1,none⟩) XM).trans (ZI _ _ g1);have x2:=(Q0.cell (p:=⟨g,j*4+2,none⟩) XM).trans (ZI _ _ g2);have x3:=(Q0.cell (p:=⟨g,j*4+3,none⟩) XM).trans (ZI _ _ g3);have hE2':Q0j wr ae2 le2 ce2 p.2:=(Ka.step (Xo0 HS).2.2.2).step Q0;have K3:Q0n wr a2 l2 c2 v2:=M2.step Q0;have hle2:le2=k:=(by rw[<-Ka.len];exact (Xo2 HS) p (Ud hp));have JD:l2<=1000000:=by
      have hb:=Qaj (k:=31250) E1 (by rw[Jo];exact (Xo1 HS) p (Ud hp)) (by omega);have:=M2.len;omega
     have hE0:p.2≠[]:=fun e=>by
      have:=(Xo2 HS) p (Ud hp);rw[e] at this;simp at this;omega
     have HE0:=Xh2 hE0 (show le2<=1000 by omega);have R2:=Qkw n2 a2 l2 c2 e2 v2 wr K3 E1
     by_cases hz:p.1=0
     ·have hS0:Qsy n2 v2=0:=(Qig E1).2 (Jo.trans hz);rw[hS0] at R2;have HX:=Xh5 P0 (by rw[Qwy hp hz];exact QD:ms.map Q01.term=(out.take (j+1)).filter (fun p=>decide (p.1≠0))) D3 (Qip hp (by rw[hz];exact Qh5) M3) Q0;clear P0 QD D3 M3 Q0 hp ZI g0 g1 g2 g3 M2 E1 Jo Ka hE2' K3 hle2 hE0 hz hS0 Zv JD
      go_wp2_with (go_at_call 64;refine R2.mono ?_;rintro r w3 ⟨rfl,G0⟩;have HB:=Ua G0;clear G0)
      exact ⟨⟨j+1,N,a1,c1,ms,zs,rfl,congrArg (Value.int .i64) (by omega),hj1,by omega,(Xo0 HX).step HB.out,(Xo1 HX),(Xo2 HX),(Xo3 HX),Below.next0 (Xe4 HX) HB.out⟩,by simp only[intOf];omega⟩
     ·have hS0:Qsy n2 v2≠0:=fun e=>hz (Jo.symm.trans ((Qig E1).1 e));obtain ⟨Sg,hSg⟩:∃Sg,Qsy n2 v2=Sg:=⟨_,rfl⟩;rw[hSg] at hS0 R2;have hS1:(Sg==0)=false:=(by rw[Ui];exact hS0);have VM:∀W,Bw wr W->W.cell? ⟨g,j*4,none⟩=some (.bool n2)/\W.cell? ⟨g,j*4+1,none⟩=some (.slice a2 l2 c2)/\W.cell? ⟨g,j*4+2,none⟩=some (.int .i64 e2):=fun W hW=>⟨(hW.cell (p:=⟨g,j*4,none⟩) (US x0)).trans x0,(hW.cell (p:=⟨g,j*4+1,none⟩) (US x1)).trans x1,(hW.cell (p:=⟨g,j*4+2,none⟩) (US x2)).trans x2⟩;have X1:=fun W (hW:Bw wr W)=>Q52 n2 a2 l2 c2 v2 e2 W (K3.step hW) JD;have HX:=Xh13 P0 QD D3 M3 Q0 hp E1 Jo hE2' x3 hz VM X1;clear P0 QD D3 M3 Q0 hp ZI g0 g1 g2 g3 M2 E1 Jo Ka hE2' K3 hle2 hE0 hz hSg hS0 Zv JD x3 VM X1
      go_upto_region 20 with (first
       |(go_at_call 64
         refine R2.mono ?_;rintro r w3 ⟨rfl,G0⟩;obtain ⟨y0,y1,y2⟩:=(Xo11 HX) w3 G0;have X1:=(Xe12 HX) w3 G0;have HB:=Ua G0;clear G0 R2)
       |(go_at_call 146
         refine X1.mono ?_;rintro r w4 ⟨neg9,e9,a9,n9,c9,L9,er,rfl,ZY,KQ,F1⟩;have HN:=Xh3 ZY KQ F1;clear ZY KQ F1))
      refine Q1p (Φ:=fun U=>Bw w4 U/\Q02 U w4.heap.size (.bool neg9) (.int .i64 e9) (.slice a9 n9 c9)) (P:=fun U=>Code.wp _ _ _ _ U) _ ⟨Ba,Q02.new _ _ _ _ _⟩ ?_;intro U hU;have Qq:Bw wr U:=Below.next0 (Below.next0 HB.out (Xe2 HN)) hU.1;have Zl:=Qdu (Xo6 HX) (Xo0 HN);rw[(Xo7 HX)] at Zl;have hwU:=(Xo1 HN).step hU.1;have M7:Qmp U w4.heap.size g (j*4+3) (.bool neg9) (.int .i64 e9) (.slice a9 n9 c9) ae2 le2 ce2 p.2:=⟨hU.2,(Qq.cell (p:=⟨g,j*4+3,none⟩) (US (Xo9 HX))).trans (Xo9 HX),(Xo8 HX).step Qq⟩;have HC:=Ua (fun W (h:Bw U W)=>M7.step h);have HT:=Xh4 ((Xo0 HX).step Qq) (Ur (Xo4 HX).size Qq.size) hwU (show N<=1000 by omega);have HY:=Ua Qq;clear hU Qq hwU M7;rcases Zl with ⟨hf,rfl,JR,XR⟩|⟨hf,rfl,rfl,rfl,rfl⟩
      ·have HF:=Xh3 hf JR XR;clear hf JR XR
       go_upto_region 22 with fail
       refine Q48 (by kernel_rfl) 11 rfl (fun W=>Bw U W) (fun _ _ h h'=>Below.next0 h h') (Q3x [.slice a1 N c1,.agg #[.bool neg9,.int .i64 e9,.slice a9 n9 c9],undef,.slice (some ⟨g,0,none⟩) m co,.int .i64 (j:Int),.pointer (some ⟨g,j*4,none⟩),.pointer (some ⟨g,j*4+3,none⟩),.slice ae2 le2 ce2,undef,undef,undef] (Q1n [(2,Emp),(8,Qy8 U.heap.size le2 p.2),(9,Qy9 U.heap.size le2 p.2 (.bool neg9) (.int .i64 e9) (.slice a9 n9 c9)),(10,Qs8 U.heap.size le2 p.2 (.bool neg9) (.int .i64 e9) (.slice a9 n9 c9))])) (Q0h (Q0m (Qkr Qog (Qin _ _ _) (Qio _ _ _ _ _ _) (Qfm _ _ _ _ _ _)))) (fun v W'=>∃a8 c8 zs8,v=.slice a8 (N+1) c8/\Qb8 wl.heap.size W' a8 (N+1) c8 (ms++[⟨neg9,e9,L9,p.2⟩]) zs8/\Below wl.heap.size U W') (by kernel_rfl) (by kernel_rfl) (by kernel_rfl) (by kernel_rfl) (Q05 U) ?_ ?_ ?_
       ·skip
        repeat' (first|exact Q98|refine Q97 ?_ ?_)
        all_goals first
         |(refine Q29 rfl fun A W hW F0 hd hd=>?_
           simp[Q82,Region.binds,Q1n] at hd;have e8:=Q0d F0 8 (by kernel_rfl) rfl;have e10:=Q0d F0 10 (by kernel_rfl) rfl;have e4:=Q0d F0 4 (by kernel_rfl) rfl;have e9:=Q0d F0 9 (by kernel_rfl) rfl;obtain ⟨u0_0,u0_1,u0_2,_,_,_⟩:=(HC.out W hW).bx;refine Q3n rfl rfl ?_;simp[go_sem,hd,e8,e10,e4,e9,u0_0,u0_1,u0_2,KJ,(HC.out W hW).o3]
           done)
         |skip
        ·intro A W hW F0 A0;refine Q04 rfl ?_;refine Q10 (Q55 42 0 #[] (by rfl) (by simp) (Ql0 W)) (Ba) ((Q00 rfl).2 ⟨_,rfl⟩)
        ·intro A W hW F0 A0;have e119:=Q0o A0 7 (by decide) rfl rfl rfl;refine Q04 rfl ?_;obtain ⟨b0,C4⟩:=(Q00 rfl).1 (A0 2 (by decide));have h119:A.eval (.tmp 119)=.slice ae2 le2 ce2:=(Q09 rfl).1 (A0 7 (by decide));obtain ⟨d9,W9,M6,hi9,Z4,Yk⟩:=Qim 42 W b0 ae2 le2 ce2 p.2 (HC.out W hW).ei (Xo0 HE0) (Xe1 HE0);exact Q10 (Q5j (.tmp 114) (.tmp 119) 42 42 (by rfl) C4 h119 M6) Z4 ((Q00 rfl).2 ⟨_,d9,rfl,hW.size,Yk,hi9⟩)
        ·intro A W hW F0 A0;have e113:=Q0o A0 1 (by decide) rfl rfl rfl;refine Q04 rfl ?_;obtain ⟨g9,d9,hv9,hg9,hl9,hi9⟩:=(Q00 rfl).1 (A0 8 (by decide));have e120:=Q1f hv9;refine Q10 (w':=W) (u:=.agg #[.bool neg9,.int .i64 e9,.slice a9 n9 c9,.slice (some ⟨g9,0,none⟩) le2 d9]) (by simp[go_sem,e113,e120]) (Uf _ _) ((Q00 rfl).2 ⟨g9,d9,rfl,hg9,hl9,hi9⟩)
        ·intro A W hW F0 A0;refine Q04 rfl ?_;obtain ⟨g9,d9,hv9,hg9,hl9,hi9⟩:=(Q00 rfl).1 (A0 9 (by decide));have e121:A.eval (.tmp 121)=.agg #[.bool neg9,.int .i64 e9,.slice a9 n9 c9,.slice (some ⟨g9,0,none⟩) le2 d9]:=hv9;refine Q10 (Q55 25 1 #[(0,.tmp 121)] (by rfl) (parts':= #[(0,.agg #[.bool neg9,.int .i64 e9,.slice a9 n9 c9,.slice (some ⟨g9,0,none⟩) le2 d9])]) (by simp[e121]) (Q8t W _ _ _ _)) (Ba) ((Q00 rfl).2 ⟨W.heap.size,g9,d9,rfl,Q0r _ _,Ul _ _,hg9,Nat.lt_trans hl9 (Q0r _ _),hi9.step (Ba)⟩)
       ·refine And.intro ?_ (And.intro (by decide) ?_)
        ·intro A W hW F0 A0;have Xa:A.eval (.tmp 112)=.slice a1 N c1:=(Q09 rfl).1 (A0 0 (by decide));have hv:=(Q00 rfl).1 (A0 10 (by decide));obtain ⟨a8,c8,W8,zs8,I2,Qc,B4⟩:=Ql1 (Xo0 HT) (Xo1 HT) hW (m:=⟨neg9,e9,L9,p.2⟩) (Xo2 HT) hv (Xe3 HT) 25;rw[Q5j (.tmp 112) (.tmp 122) 25 25 (by rfl) Xa rfl I2];exact ⟨a8,c8,zs8,rfl,Qc,B4⟩
        ·intro a w F0;rfl
       intro vs W1 G3 hv12;obtain ⟨a8,c8,zs8,k7,Qc,B4⟩:=G3;have h12:=hv12.trans k7;have HE:=Xh2 Qc B4;clear Qc B4 k7;simp only[Q0s,Act.put,Uw,UK,UJ,h12];clear h12 hv12
       go_wp2_with fail
       refine ⟨⟨j+1,N+1,a8,c8,ms++[⟨neg9,e9,L9,p.2⟩],zs8,rfl,congrArg (Value.int .i64) (by omega),hj1,by omega,(Xo0 HE),?_,?_,Qip (Xo5 HX) (Xo0 HF) (Xo3 HX),(Below.next0 (Xo4 HX) HY.out).trans (Xe1 HE)⟩,by simp only[intOf];omega⟩
       ·rw[UP,(Xo1 HX),Quq (Xo5 HX) (Xo10 HX)]
        show _++[(Q28 neg9 e9 L9,p.2)]=_
        rw[(Xe2 HF)]
       ·intro m0 O7;rcases UY.1 O7 with h0|h0
        ·exact (Xo2 HX) m0 h0
        ·rw[Uy] at h0;subst h0;exact ⟨(Xo1 HF),fun e=>(Xo10 HX) ((Xe2 HF).symm.trans ((Q66 (Xo1 HF) (Xo1 HN).low).2 e))⟩
      ·have HF:=Ua hf;clear hf
       go_wp2_with fail
       exact ⟨rfl,.tuple #[.slice none 0 0,.int .i64 2],by simp[results,go_sem],Q2j.err ((Xe3 H).symm.trans (Qoh (Xe3 HS) (Ud (Xo5 HX)) HF.out)) (Below.next0 (Below.next0 (Xo0 HS).2.2.2 (Xo4 HX)) HY.out)⟩
    ·have KJ:¬(j:Int)<(m:Int):=(by omega);have B6:out.take j=out:=UA (by rw[(Xo0 HS).1];omega);rw[B6] at QD M3;have XG:(out.filter fun p=>decide (p.1≠0)).length=N:=(by rw[<-QD,UQ,P0.st.len]);have U3:=Qoi (Xe3 HS) M3;rw[XG,(Xe3 H)] at U3;have L6:=Below.next0 (Xo0 HS).2.2.2 Q0;have k6:=P0.st.monos fun m hm=>(D3 m hm).1;have hnp:=P0.newp.more (Xo0 HS).2.2.2.size
     by_cases WM:24<N
     ·have VU:(24:Int)<(N:Int):=(by omega);rw[Us WM] at U3;have HX:=Xh2 U3 L6;clear P0 QD D3 M3 Q0 B6 XG U3 L6 k6 hnp
      go_wp2_with fail
      exact ⟨rfl,.tuple #[.slice none 0 0,.int .i64 6],by simp[results,go_sem],Q2j.err (Xo0 HX) (Xe1 HX)⟩
     ·have VU:¬(24:Int)<(N:Int):=(by omega);rw[Uq WM] at U3;have HX:=Xh6 U3 L6 k6 QD D3 hnp;clear P0 QD D3 M3 Q0 B6 XG U3 L6 k6 hnp
      go_wp2_with fail
      exact ⟨rfl,.tuple #[.slice a1 N c1,.int .i64 0],by simp[results,go_sem],Q2j.ok (Xo0 HX) (Xo1 HX) (Xo2 HX) (Xo3 HX) (Xo4 HX) (Xe5 HX)⟩
theorem Qiq:Tryz.prog.underlying 142=some (.slice 144):=by kernel_rfl
theorem Qd3 (W:World) (v0 v1 v2 v3:Value):(Instr.buildSlice 142 1 #[(0,.agg #[v0,v1,v2,v3])]).run Tryz.prog W=.ok (.slice (some ⟨W.heap.size,0,none⟩) 1 1) (W.alloc (.cells #[v0,v1,v2,v3] 144)):=by
 obtain ⟨i0,O1,P1,K1,J1⟩:=Q0l Qij;exact run_buildSlice W 142 144 1 _ #[v0,v1,v2,v3] i0 _ Qiq O1 P1 (by rw[K1];decide) (by rw[K1];decide) (by rw[K1];first|kernel_rfl|simp[Instr.fill,Value.cells])
def Qya (w:World) (p:Q0a) (v:Value) (W:World):Prop:=∃v0 v1 v2 v3,v=.agg #[v0,v1,v2,v3]/\Q5y w W [p] [v0,v1,v2,v3]
def Qs9 (w:World) (p:Q0a) (v:Value) (W:World):Prop:=∃bl lit,v=.slice (some ⟨bl,0,none⟩) 1 1/\bl<W.heap.size/\W.heap[bl]?=some (.cells lit.toArray 144 (0,0))/\Q5y w W [p] lit
theorem Qir (w:World) (p:Q0a):Q0t (Qya w p):=fun _ _ _ ⟨v0,v1,v2,v3,h1,h2⟩ hb=>⟨v0,v1,v2,v3,h1,h2.keep fun h=>h.step hb⟩
theorem Qfn (w:World) (p:Q0a):Q0t (Qs9 w p):=fun _ _ _ ⟨bl,lit,h1,h2,h3,h4⟩ hb=>⟨bl,lit,h1,Ue h2 hb.size,(hb.block bl h2).trans h3,h4.keep fun h=>h.step hb⟩
theorem Qsa {w U W:World} {a:OA} {i c:Nat} {out:List Q0a} {xs:LV} (Z0:Q4s w U a i c out xs) (hb:Bw U W) {p:Q0a} {v:Value} (hv:Qs9 w p v W) (hi:i<=1000) (ty:TypeId):
 ∃a' c' W' xs',(Builtin.append_ #[142,142] ty #[.slice a i c,v]).run Tryz.prog W=.ok (.slice a' (i+1) c') W'/\Q4s w W' a' (i+1) c' (out++[p]) xs':=by
 obtain ⟨bl,lit,rfl,F3,M8,P7⟩:=hv;obtain ⟨h1,h2,h3,h4⟩:=Z0.step hb;have Km:lit.length=4:=by rw[P7.len];rfl
 obtain ⟨a8,c8,w8,I2,Jh,B5,Vz⟩:=Q4k ty W w.heap.size h4.size a i c xs h2 (some ⟨bl,0,none⟩) 1 1 lit (by rw[Km]) (.inr ⟨_,rfl,fun j u hj=>by
  rw[Xao,UB,Ux _ _ _ _ _ _ M8];simpa using hj⟩) (fun u hu=>P7.one u hu) (by omega)
 refine ⟨a8,c8,w8,_,I2,by rw[Uj,h1];rfl,Jh,Q5y.app (P7.keep (fun h=>h2.grownD B5 h)) (h3.keep (fun h=>h2.grownD B5 h)),?_⟩;exact h4.trans ⟨B5.os,B5.tape,B5.output,B5.size,fun z hz=>B5.block z (Ue hz h4.size) (fun e=>by
  cases a with
  |none=>simp at e
  |some q=>simp only[UM,Un] at e;have:=(Q19.lt.row2_blk h2.1 rfl).1;omega)⟩
theorem Q4s.terms {w W:World} {a:OA} {n c:Nat} {ts:List Q0a} {xs:LV} (h:Q4s w W a n c ts xs):Qkx W a n c ts:=by
 obtain ⟨h1,h2,h3,h4⟩:=h;have V3:=h2.1.cap;refine ⟨h1,V3.1,by have:=V3.2;simpa[maxLen] using this,?_⟩;rcases h2.1.form with ⟨_,h0,_⟩|⟨g,cur,rfl,_,B0,_⟩
 ·exact .inl (Tg (by rw[h1];exact h0))
 ·refine .inr ⟨g,0,rfl,B0,xs,h3.old fun h=>h.step h4,fun j u hj=>?_⟩;rw[UB];exact h2.1.cell0 hj
theorem Q2j.pair {w w':World} {X:Except Int (List Q0a)} {r:Ending} (h:Q2j w X r w'):∃x er,r=.returned (.tuple #[x,.int .i64 er]):=by
 obtain ⟨_,h⟩:=h;cases X with
 |error e=>exact ⟨_,_,h⟩
 |ok P=>obtain ⟨a,n,c,ms,h,_⟩:=h;exact ⟨_,_,h⟩
theorem Q2j.from_ {w0 w w':World} {X:Except Int (List Q0a)} {r:Ending} (h:Q2j w X r w') (hb:Bw w0 w):Q2j w0 X r w':=by
 obtain ⟨h1,h2⟩:=h;refine ⟨Below.next0 hb h1,?_⟩;cases X with
 |error e=>exact h2
 |ok P=>
  obtain ⟨a,n,c,ms,h3,h4,h5,h6,h7⟩:=h2;exact ⟨a,n,c,ms,h3,h4,h5,h6,h7.more hb.size⟩
structure Q77 (W:World) (b oi:Nat) (x:Q01) (aw:OA) (lw cw:Nat) (ae:OA) (le ce:Nat):Prop where
 c0:W.cell? ⟨b,oi,none⟩=some (.bool x.neg)
 c1:W.cell? ⟨b,oi+1,none⟩=some (.int .i64 x.exp)
 c2:W.cell? ⟨b,oi+2,none⟩=some (.slice aw lw cw)
 c3:W.cell? ⟨b,oi+3,none⟩=some (.slice ae le ce)
 wi:WordsIn W aw lw cw x.ws
theorem Q77.step {W W':World} {b oi:Nat} {x:Q01} {aw:OA} {lw cw:Nat} {ae:OA} {le ce:Nat} (h:Q77 W b oi x aw lw cw ae le ce) (hb:Bw W W'):Q77 W' b oi x aw lw cw ae le ce:=by
 have B0:b<W.heap.size:=US h.c0;exact ⟨(hb.cell (p:=⟨b,oi,none⟩) B0).trans h.c0,(hb.cell (p:=⟨b,oi+1,none⟩) B0).trans h.c1,(hb.cell (p:=⟨b,oi+2,none⟩) B0).trans h.c2,(hb.cell (p:=⟨b,oi+3,none⟩) B0).trans h.c3,h.wi.step hb⟩
def Qyw (w:World) (ts:List Q0a) (s6 s7:Value) (wr:World):Prop:=∃(i:Nat) (a:OA) (c:Nat) (xs:LV),s6=.slice a i c/\s7=.int .i64 (i:Int)/\i<=ts.length/\Q4s w wr a i c (ts.take i) xs
theorem Qay (a:OA) (n c:Nat) (ms:List Q01) (k:Nat) (w:World) (h:Q08 w a n c ms) (hr:∀m∈ms,Q14 k m.es/\Q0i m.neg m.exp m.ws) (Z3:1<=k) (Y4:k<=4) (hn:n<=1000):
 Calls Tryz.prog 48 #[.slice a n c,.int .i64 (k:Int)] w (Q2j w (Q24 (ms.map Q01.term))):=by
 have Z2:=h.1;have E4:=Ur h.2.1 h.2.2.1;have hk1':¬(k:Int)<1:=by omega
 have hk4':¬4<(k:Int):=by omega
 obtain ⟨X,hX⟩:∃X,Q24 (ms.map Q01.term)=X:=⟨_,rfl⟩;rw[hX];have H:=Xh3 h hr hX;clear h hr hX
 go_enter Tryz.func48,Tryz.ntmps48
 go_wp2_with fail
 go_loopw [6,7] (fun s6 s7 wr=>Qyw w (ms.map Q01.term) s6 s7 wr) (fun _ iv _=>n-(intOf iv).toNat)
 case atStart=>exact ⟨0,none,0,[],rfl,rfl,Uu _,rfl,Q3d.nil_ _ _ _ _ _,rfl,Uf _ _⟩
 case round=>
  obtain ⟨i,a1,c1,xs,rfl,rfl,hi,Z0⟩:=hrel;rw[UQ,Z2] at hi
  by_cases B0:i<n
  ·have E0:(i:Int)<(n:Int):=(by omega);obtain ⟨x,hx⟩:∃x,ms[i]?=some x:=⟨_,Ub (by omega)⟩;obtain ⟨b,o,rfl,C4,R1⟩:∃b o,a=some ⟨b,o,none⟩/\b<w.heap.size/\∀j m,ms[j]?=some m->Q31 w b (o+j*4) m:=by
    rcases (Xo0 H).2.2.2 with h0|h0
    ·rw[h0] at hx;simp at hx
    ·exact h0
   obtain ⟨aw,lw,cw,ae,le,ce,k0,k1,k2,k3,hw,he,U4,J4⟩:=R1 i x hx;have Vw:=(Xo1 H) x (Ud hx);have Q0:=Z0.2.2.2;have M7:Q77 wr b (o+i*4) x aw lw cw ae le ce:=(⟨k0,k1,k2,k3,hw⟩:Q77 w b (o+i*4) x aw lw cw ae le ce).step Q0;have VF:=Qd1 x.neg x.exp aw lw cw x.ws ae le ce x.es k wr M7.wi (he.step Q0) Y4 U4 J4;rw[UU Vw] at VF;have k0:=M7.c0;have k1:=M7.c1;have k2:=M7.c2;have k3:=M7.c3;have B6:(ms.map Q01.term).take (i+1)=(ms.map Q01.term).take i++[x.term]:=Q5k (by rw[UT,hx];rfl);have HS:=Xh5 Z0 M7 Vw he B6;clear Z0 M7 Vw he B6 Q0 R1 hw hx U4 J4
   go_upto_region 9 with (go_at_call 92;refine VF.mono ?_;rintro r w3 ⟨rfl,G0⟩;have HB:=Ua G0;clear G0 VF)
   refine Q1p (Φ:=fun U=>Bw wr U) (P:=fun U=>Code.wp _ _ _ _ U) _ HB.out ?_;intro U hU;have HC:=Ua (fun W (h:Bw U W)=>((Xo1 HS).step hU).step h);have HT:=Xh4 ((Xo0 HS).step hU) (show i<=1000 by omega) (Xo2 HS).2 (Xo3 HS);clear hU;refine Q48 (by kernel_rfl) 14 rfl (fun W=>Bw U W) (fun _ _ h h'=>Below.next0 h h') (Q3x [.slice a1 i c1,.slice (some ⟨b,o,none⟩) n c,.int .i64 (i:Int),.pointer (some ⟨b,o+i*4,none⟩),.pointer (some ⟨b,o+i*4,none⟩),.agg #[.bool x.neg,.int .i64 x.exp,.slice aw lw cw],undef,.slice (some ⟨b,o,none⟩) n c,.int .i64 (i:Int),.pointer (some ⟨b,o+i*4,none⟩),.pointer (some ⟨b,o+i*4+3,none⟩),.slice ae le ce,undef,undef] (Q1n [(6,fun u w=>Q8q w u (Q28 x.neg x.exp x.ws)),(12,Qya w x.term),(13,Qs9 w x.term)])) (Q0h (Q0m (Qy6 (Q2r _) (Qir _ _) (Qfn _ _)))) (fun v W'=>∃a8 c8 xs8,v=.slice a8 (i+1) c8/\Q4s w W' a8 (i+1) c8 ((ms.map Q01.term).take i++[x.term]) xs8) (by kernel_rfl) (by kernel_rfl) (by kernel_rfl) (by kernel_rfl) (Q05 U) ?_ ?_ ?_
   ·skip
    repeat' (first|exact Q98|refine Q97 ?_ ?_)
    all_goals first
     |(refine Q29 rfl fun A W hW F0 hd hd=>?_
       simp[Q82,Region.binds,Q1n] at hd;have e6:=Q0d F0 6 (by kernel_rfl) rfl;have e0:=Q0d F0 0 (by kernel_rfl) rfl;have e7:=Q0d F0 7 (by kernel_rfl) rfl;refine Q3n rfl rfl ?_;simp[go_sem,hd,e6,e0,e7,E0,(HC.out W hW).c0,(HC.out W hW).c1,(HC.out W hW).c2,(HC.out W hW).c3]
       done)
     |skip
    ·intro A W hW F0 A0;have e32:=Q0o A0 5 (by decide) rfl rfl rfl;refine Q04 rfl ?_;refine Q0y (f:=24) (args:= #[.agg #[.bool x.neg,.int .i64 x.exp,.slice aw lw cw]]) (by simp[go_sem,e32]) ((Qd0 x.neg x.exp aw lw cw x.ws W (HC.out W hW).wi (Xo2 HT)).mono ?_);rintro e w2' ⟨u',rfl,ZG,J5⟩;exact ⟨_,rfl,J5,(Q00 rfl).2 ZG⟩
    ·intro A W hW F0 A0;have e38:=Q0o A0 11 (by decide) rfl rfl rfl;refine Q04 rfl ?_;obtain ⟨n8,a8,l8,c8,q8,v8,k7,QX,R7,ZB⟩:=(Q00 rfl).1 (A0 6 (by decide));have e33:=Q1f k7;refine Q10 (w':=W) (u:=.agg #[.bool n8,.slice a8 l8 c8,.int .i64 q8,.slice ae le ce]) (by simp[go_sem,e33,e38]) (Uf _ _) ((Q00 rfl).2 ⟨_,_,_,_,rfl,n8,a8,l8,c8,q8,v8,ae,le,ce,[],rfl,⟨QX,R7,ZB,(Xe3 HT)⟩,rfl⟩)
    ·intro A W hW F0 A0;refine Q04 rfl ?_;obtain ⟨v0,v1,v2,v3,hv9,Qf⟩:=(Q00 rfl).1 (A0 12 (by decide));have e39:A.eval (.tmp 39)=.agg #[v0,v1,v2,v3]:=hv9;refine Q10 (Q55 142 1 #[(0,.tmp 39)] (by rfl) (parts':= #[(0,.agg #[v0,v1,v2,v3])]) (by simp[e39]) (Qd3 W _ _ _ _)) (Ba) ((Q00 rfl).2 ⟨W.heap.size,[v0,v1,v2,v3],rfl,Q0r _ _,Ul _ _,Qf.keep (fun h=>h.step (Ba))⟩)
   ·refine And.intro ?_ (And.intro (by decide) ?_)
    ·intro A W hW F0 A0;have h27:A.eval (.tmp 27)=.slice a1 i c1:=(Q09 rfl).1 (A0 0 (by decide));have hv:=(Q00 rfl).1 (A0 13 (by decide));obtain ⟨a8,c8,W8,xs8,I2,Jk⟩:=Qsa (Xo0 HT) hW hv (Xo1 HT) 142;rw[Q5j (.tmp 27) (.tmp 40) 142 142 (by rfl) h27 rfl I2];exact ⟨a8,c8,xs8,rfl,Jk⟩
    ·intro a w F0;rfl
   intro vs W1 G3 WZ;obtain ⟨a8,c8,xs8,k7,Jk⟩:=G3;have h15:=WZ.trans k7;rw[<-(Xe4 HS)] at Jk;have HF:=Ua Jk;clear Jk k7;simp only[Q0s,Act.put,Uw,UK,UJ,h15];clear h15 WZ
   go_wp2_with fail
   exact ⟨⟨i+1,a8,c8,xs8,rfl,congrArg (Value.int .i64) (by omega),by rw[UQ,Z2];omega,HF.out⟩,by simp only[intOf];omega⟩
  ·have E0:¬(i:Int)<(n:Int):=(by omega);have B6:(ms.map Q01.term).take i=ms.map Q01.term:=UA (by rw[UQ];omega);rw[B6] at Z0;have hg:=Qel a1 i c1 (ms.map Q01.term) k 69632 wr Z0.terms (fun p hp=>by
    obtain ⟨m,hm,rfl⟩:=Tm.1 hp;exact ((Xo1 H) m hm).1.1) (fun p hp=>by
    obtain ⟨m,hm,rfl⟩:=Tm.1 hp;obtain ⟨j,hj,rfl⟩:=Xay hm;rcases (Xo0 H).2.2.2 with h0|⟨b,o,_,_,R1⟩
    ·rw[h0] at hj;simp at hj
    ·obtain ⟨_,_,_,_,_,_,_,_,_,_,hw,_⟩:=R1 j _ (Ub hj);exact Qbn (Q7s ((Xo1 H) _ hm).2 hw.low) (by omega)) (by omega) (by omega) Z3 (by omega)
   rw[(Xe2 H)] at hg;have HS:=Ua Z0.2.2.2;clear Z0 B6
   go_wp2_with (go_at_call 93;refine hg.mono ?_;rintro r w3 VB;obtain ⟨x9,er9,rfl⟩:=VB.pair;have H3:=Ua VB;clear VB)
   exact ⟨rfl,.tuple #[x9,.int .i64 er9],by simp[results,go_sem],H3.out.from_ HS.out⟩
def Qyx (b i:Nat) (n:Nat) (w:World) (e:Ending) (w':World):Prop:=(∃x:Nat,x<n/\e=.returned (.int .i64 (x:Int)))/\Q8w w' b (i+1)/\Q0f (·=b) w w'
theorem Qfo (b i n:Nat) (w:World) (h:Q8w w b i) (hi:i<=1000000) (h0:0<n) (hn:n<=1000000):
 Calls Tryz.prog 14 #[.pointer (some ⟨b,0,none⟩),.int .i64 (n:Int)] w (Qyx b i n w):=by
 have hc:=Qax b i w h hi;have HC:=Ua hc;clear hc h
 go_enter Tryz.func14,Tryz.ntmps14
 go_wp2_with (refine HC.out.mono ?_;rintro e w1 ⟨⟨x,hx,rfl⟩,hd,ht⟩;(have HD:=Xh2 hd ht);clear hd ht)
 go_ret;have hm:(x:Int)%(n:Int)=((x%n:Nat):Int):=by norm_cast
 have B0:x%n<n:=TG _ h0;refine ⟨⟨x%n,B0,?_⟩,HD.out⟩
 show Ending.returned (.int .i64 (wrap64 ((x:Int)%(n:Int))))=_
 rw[hm]
 congr 2
 unfold wrap64;omega
end Go.Proofs.YtdilmfakkppgpaaGreatDoor
