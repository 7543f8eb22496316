/- Part 32 of the proof of LawParseMeans: GathB. Condition: as each theorem says; none at the end. -/
import Derived.Test.YtdilmfakkppgpaaGreatDoorPkParseMeans31
set_option maxRecDepth 100000
set_option maxHeartbeats 16000000
namespace Go.Proofs.YtdilmfakkppgpaaGreatDoor
open Go.RowKit WordsM
def Q4c (w wr:World) (ao:Option Addr) (m co:Nat) (out:List Q0b) (xs:List Value):Prop:=out.length=m/\Q4b NoD wr w.heap.size 144 4 ao m co xs/\Q5c w wr out xs/\Below w.heap.size w wr
def Quw (w:World) (ts:List Q0b) (s4 s5:Value) (wr:World):Prop:=∃(i m:Nat) (ao:Option Addr) (co:Nat) (xs:List Value),s4=.slice ao m co/\s5=.int .i64 (i:Int)/\i<=ts.length/\Q4c w wr ao m co (Q17 (ts.take i)) xs
theorem Q4c.step {w wr w':World} {ao:Option Addr} {m co:Nat} {out:List Q0b} {xs:List Value} (h:Q4c w wr ao m co out xs) (hb:Below wr.heap.size wr w'):Q4c w w' ao m co out xs:=
 ⟨h.1,h.2.1.step hb,h.2.2.1.keep (fun h=>h.step hb),Below.next0 h.2.2.2 hb⟩
theorem Qsw {w W:World} {g m co kk:Nat} {out:List Q0b} {xs:List Value} {p:Q0b} {G2:List Q0b} {D:Dyadic} (hp:out[kk]?=some p) (hG:G2=out.set kk (D,p.2)) (h:Q4c w W (some ⟨g,0,none⟩) m co out xs) {n8:Bool} {a8:Option Addr} {l8 c8 v8:Nat} {q8:Int} (hd:Q0l W a8 l8 c8 v8) (hc:Q37 n8 v8 q8) (hD:dy (sgn n8 v8) q8=D):
 ∃xs2,Q4c w (((W.setCell ⟨g,kk*4,none⟩ (.bool n8)).setCell ⟨g,kk*4+1,none⟩ (.slice a8 l8 c8)).setCell ⟨g,kk*4+2,none⟩ (.int .i64 q8)) (some ⟨g,0,none⟩) m co G2 xs2:=by
 obtain ⟨h1,h2,h3,h4⟩:=h
 obtain ⟨n,a,l,c,e,v,ae,le,ce,g0,g1,g2,g3,_⟩:=h3.get hp
 have hcell:∀{j:Nat} {u:Value},xs[j]?=some u->W.cell? ⟨g,j,none⟩=some u:=fun {j u} hj=>by
  obtain ⟨g',e',_,_,hcl⟩:=h2.1.at_ hj
  injection e' with e'
  injection e' with e'
  subst e'
  exact hcl
 have k0:=hcell g0
 have k1:=hcell g1
 have k2:=hcell g2
 have hgB:w.heap.size<=g:=by
  rcases h2.1.form with ⟨h0,_⟩|⟨g',cur,e',hB,_⟩
  ·cases h0
  ·injection e' with e';injection e' with e';subst e';exact hB
 have hk:∀{a l c v},Q0l W a l c v->Q0l (((W.setCell ⟨g,kk*4,none⟩ (.bool n8)).setCell ⟨g,kk*4+1,none⟩ (.slice a8 l8 c8)).setCell ⟨g,kk*4+2,none⟩ (.int .i64 q8)) a l c v:=fun h=>by
  refine ((h.set1 k0 (Qab _) _).set1 (p:=⟨g,kk*4+1,none⟩) ((World.cell?_setCell_other _ _ _ _ (by simp)).trans k1) (Q5p _ _ _) _).set1 (p:=⟨g,kk*4+2,none⟩) ((World.cell?_setCell_other _ _ _ _ (by simp)).trans ((World.cell?_setCell_other _ _ _ _ (by simp)).trans k2)) (Qe7 _) _
 refine ⟨_,by rw[hG,List.length_set];exact h1,((h2.set (kk*4) (Qab n8)).set (kk*4+1) (Q5p a8 l8 c8)).set (kk*4+2) (Qe7 q8),?_,((h4.setCell (p:=⟨g,kk*4,none⟩) hgB _).setCell (p:=⟨g,kk*4+1,none⟩) hgB _).setCell (p:=⟨g,kk*4+2,none⟩) hgB _⟩
 rw[hG,<-hD]
 exact Q5c.put (hk hd) hc (h3.keep hk) hp
structure Qsx (w W:World) (g kk m co b oi:Nat) (out:List Q0b) (xs:List Value) (n2:Bool) (a2:Option Addr) (l2 c2 v2:Nat) (e2:Int) (n1:Bool) (a1:Option Addr) (l1 c1 v1:Nat) (e1:Int):Prop where
 o0:W.cell? ⟨g,kk*4,none⟩=some (.bool n2)
 o1:W.cell? ⟨g,kk*4+1,none⟩=some (.slice a2 l2 c2)
 o2:W.cell? ⟨g,kk*4+2,none⟩=some (.int .i64 e2)
 z0:W.frozen? ⟨g,kk*4,none⟩=false
 z1:W.frozen? ⟨g,kk*4+1,none⟩=false
 z2:W.frozen? ⟨g,kk*4+2,none⟩=false
 i0:W.cell? ⟨b,oi,none⟩=some (.bool n1)
 i1:W.cell? ⟨b,oi+1,none⟩=some (.slice a1 l1 c1)
 i2:W.cell? ⟨b,oi+2,none⟩=some (.int .i64 e1)
 d2:Q0l W a2 l2 c2 v2
 d1:Q0l W a1 l1 c1 v1
 st:Q4c w W (some ⟨g,0,none⟩) m co out xs
theorem Qsx.step {w W W':World} {g kk m co b oi:Nat} {out:List Q0b} {xs:List Value} {n2:Bool} {a2:Option Addr} {l2 c2 v2:Nat} {e2:Int} {n1:Bool} {a1:Option Addr} {l1 c1 v1:Nat} {e1:Int} (h:Qsx w W g kk m co b oi out xs n2 a2 l2 c2 v2 e2 n1 a1 l1 c1 v1 e1) (hb:Below W.heap.size W W'):Qsx w W' g kk m co b oi out xs n2 a2 l2 c2 v2 e2 n1 a1 l1 c1 v1 e1:=by
 have hg:g<W.heap.size:=block_lt_of_cell h.o0
 have hbb:b<W.heap.size:=block_lt_of_cell h.i0
 exact ⟨(hb.cell (p:=⟨g,kk*4,none⟩) hg).trans h.o0,(hb.cell (p:=⟨g,kk*4+1,none⟩) hg).trans h.o1,(hb.cell (p:=⟨g,kk*4+2,none⟩) hg).trans h.o2,(hb.frozen (p:=⟨g,kk*4,none⟩) hg).trans h.z0,(hb.frozen (p:=⟨g,kk*4+1,none⟩) hg).trans h.z1,(hb.frozen (p:=⟨g,kk*4+2,none⟩) hg).trans h.z2,
  (hb.cell (p:=⟨b,oi,none⟩) hbb).trans h.i0,(hb.cell (p:=⟨b,oi+1,none⟩) hbb).trans h.i1,(hb.cell (p:=⟨b,oi+2,none⟩) hbb).trans h.i2,h.d2.step hb,h.d1.step hb,h.st.step hb⟩
theorem Q0k.heap {w W:World} {a:Option Addr} {n c:Nat} {E:List Int} (h:Q0k w a n c E) (hh:W.heap=w.heap):Q0k W a n c E:=by
 refine ⟨h.len,h.cap,h.most,h.rng,?_⟩
 rw[hh]
 exact h.rd.keep fun p _=>by unfold World.cell?;rw[hh]
def Q2u (w W:World):Prop:=∃q,W=w.drewN q
theorem Q2u.step {w W:World} (h:Q2u w W) (k:Nat):Q2u w (W.drewN k):=by
 obtain ⟨q,rfl⟩:=h
 exact ⟨_,World.drewN_drewN ..⟩
theorem Q2u.below {w W:World} (h:Q2u w W):Below w.heap.size w W:=by
 obtain ⟨q,rfl⟩:=h
 exact Q1w (Below.refl _ _) q
theorem Q2u.heap {w W:World} (h:Q2u w W):W.heap=w.heap:=by
 obtain ⟨q,rfl⟩:=h;rfl
theorem Q2u.trans {w W V:World} (h:Q2u w W) (h2:Q2u W V):Q2u w V:=by
 obtain ⟨q,rfl⟩:=h2
 exact h.step q
theorem Q2u.cell {w W:World} (h:Q2u w W) (p:Addr):W.cell? p=w.cell? p:=by unfold World.cell?;rw[h.heap]
theorem Q4t {Φ P:World->Prop} (W:World) (hW:Φ W) (h:∀U,Φ U->P U):P W:=h W hW
theorem Q4b.block {Pr:Value->Prop} {w:World} {B:Nat} {e:TypeId} {k m c:Nat} {a:Option Addr} {xs:List Value} (h:Q4b Pr w B e k a m c xs) (hm:0<m):∃g,a=some ⟨g,0,none⟩/\(∀i,w.frozen? ⟨g,i,none⟩=false)/\∀j u,xs[j]?=some u->w.cell? ⟨g,j,none⟩=some u:=by
 rcases h.1.form with ⟨_,h0,_⟩|⟨g,cur,rfl,_,_,hh,_⟩
 ·omega
 ·refine ⟨g,rfl,fun i=>frozen_of_row _ _ _ _ _ hh,fun j u hj=>?_⟩
  obtain ⟨g',e',_,_,hcl⟩:=h.1.at_ hj
  injection e' with e'
  injection e' with e'
  subst e'
  exact hcl
theorem Qn3 (a:Option Addr) (n c:Nat) (ts:List Q0b) (k T:Nat) (w:World) (h:Qql w a n c ts) (hE:∀p∈ts,p.2.length=k) (hbd:∀p∈ts,bnd T p.1) (hn:n<=1000) (hT:T+n<=500000) (hk:1<=k) (hk2:k<=1000):
 Calls Tryz.prog 93 #[.slice a n c] w (Q2t w (Q1t ts)):=by
 have hln:=h.1
 have hcm:=Nat.le_trans h.2.1 h.2.2.1
 obtain ⟨X,hX⟩:∃X,Q1t ts=X:=⟨_,rfl⟩
 rw[hX]
 have H:=Xh4 h hE hbd hX
 clear h hE hbd hX
 go_enter Tryz.func93,Tryz.ntmps93
 go_wp2_with fail
 go_loopw [4,5] (fun s4 s5 wr=>Quw w ts s4 s5 wr) (fun _ iv _=>n-(intOf iv).toNat)
 case atStart=>exact ⟨0,0,none,0,[],rfl,rfl,Nat.zero_le _,rfl,Q4b.nil_ _ _ _ _ _,rfl,Below.refl _ _⟩
 case round=>
  obtain ⟨i,m,ao,co,xs,rfl,rfl,hi,hst⟩:=hrel
  by_cases hlt:i<n
  ·have hlt':(i:Int)<(n:Int):=by omega
   obtain ⟨cc,hcc⟩:∃cc,ts[i]?=some cc:=⟨_,List.getElem?_eq_getElem (by omega)⟩
   have hml:m<=i:=by rw[<-hst.1];exact Q8c ts i
   have hob:=Q8b (Xo2 H) i
   have hoe:∀p∈Q17 (ts.take i),p.2.length=k:=fun p hp=>by
    obtain ⟨q,hq,he⟩:=(Q4z (ts.take i)).2.2.1 p hp
    rw[<-he];exact (Xo1 H) q (List.mem_of_mem_take hq)
   have hnx:Q17 (ts.take (i+1))=Q6c (Q17 (ts.take i)) cc:=by rw[List.take_add_one,hcc];exact Q6o _ _
   obtain ⟨out,hout⟩:∃out,Q17 (ts.take i)=out:=⟨_,rfl⟩
   rw[hout] at hst hob hoe hnx
   obtain ⟨_,_,_,h0|⟨b,o,rfl,hbb,ys,hys,hyc⟩⟩:=(Xo0 H)
   ·rw[h0] at hcc;simp at hcc
   obtain ⟨n1,a1,l1,c1,e1,v1,ae1,le1,ce1,y0,y1,y2,y3,hd1,hc1,hD1,hE1⟩:=hys.get hcc
   obtain rfl:le1=k:=by rw[<-hE1.len];exact (Xo1 H) cc (List.mem_of_getElem? hcc)
   have hbw:=hst.2.2.2
   have hyc':∀j u,ys[i*4+j]?=some u->w.cell? ⟨b,o+i*4+j,none⟩=some u:=fun j u hj=>by rw[Nat.add_assoc];exact hyc _ _ hj
   have HYC:=Xh4 (hyc _ _ y0) (hyc' _ _ y1) (hyc' _ _ y2) (hyc' _ _ y3)
   have q0:=(hbw.cell (p:=⟨b,o+i*4,none⟩) hbb).trans (hyc _ _ y0)
   have q1:=(hbw.cell (p:=⟨b,o+(i*4+1),none⟩) hbb).trans (hyc _ _ y1)
   have q2:=(hbw.cell (p:=⟨b,o+(i*4+2),none⟩) hbb).trans (hyc _ _ y2)
   have q3:=(hbw.cell (p:=⟨b,o+(i*4+3),none⟩) hbb).trans (hyc _ _ y3)
   rw[<-Nat.add_assoc] at q1 q2 q3
   have hcb:bnd T cc.1:=(Xo2 H) cc (List.mem_of_getElem? hcc)
   have hmc:=Nat.le_trans hst.2.1.1.cap.1 hst.2.1.1.cap.2
   have hmco:=hst.2.1.1.cap.1
   have HS:=Xh10 hst hob hoe hnx hd1 hc1 hD1 hE1 hcb hbw
   clear hst hob hoe hnx hd1 hc1 hD1 hE1 hcb hbw hcc hys hyc hyc' y0 y1 y2 y3 hout
   go_wp2_with fail
   rename World=>wl
   go_loopw [6] (fun s6 wr=>∃kk:Nat,s6=.int .i64 (kk:Int)/\kk<=m/\(∀j p,j<kk->out[j]?=some p->0<Q2v p.2 cc.2)/\Q2u wl wr) (fun iv _=>m-(intOf iv).toNat)
   case atStart=>exact ⟨0,rfl,Nat.zero_le _,fun j p hj=>absurd hj (Nat.not_lt_zero _),0,rfl⟩
   case round=>
    obtain ⟨kk,rfl,hkm,hbef,hwr⟩:=hrel
    have hcell:∀p,wr.cell? p=wl.cell? p:=fun p=>by unfold World.cell?;rw[hwr.heap]
    by_cases hkl:kk<m
    ·have hkm':(kk:Int)<(m:Int):=by omega
     obtain ⟨p,hp⟩:∃p,out[kk]?=some p:=⟨_,List.getElem?_eq_getElem (by rw[(Xo0 HS).1];exact hkl)⟩
     obtain ⟨g,rfl,hfz,hgc⟩:=(Xo0 HS).2.1.block (by omega)
     obtain ⟨n2,a2,l2,c2,e2,v2,ae2,le2,ce2,g0,g1,g2,g3,hd2,hc2,hD2,hE2⟩:=(Xo0 HS).2.2.1.get hp
     obtain rfl:le2=le1:=by rw[<-hE2.len];exact (Xo2 HS) p (List.mem_of_getElem? hp)
     have x0:=(hcell ⟨g,kk*4,none⟩).trans (hgc _ _ g0)
     have x1:=(hcell ⟨g,kk*4+1,none⟩).trans (hgc _ _ g1)
     have x2:=(hcell ⟨g,kk*4+2,none⟩).trans (hgc _ _ g2)
     have x3:=(hcell ⟨g,kk*4+3,none⟩).trans (hgc _ _ g3)
     have z0:=(hcell ⟨b,o+i*4,none⟩).trans q0
     have z1:=(hcell ⟨b,o+i*4+1,none⟩).trans q1
     have z2:=(hcell ⟨b,o+i*4+2,none⟩).trans q2
     have z3:=(hcell ⟨b,o+i*4+3,none⟩).trans q3
     have hord:∀W:World,Q2u wr W->Calls Tryz.prog 117 #[.slice ae2 le2 ce2,.slice ae1 le2 ce1] W fun e w'=>e=.returned (.int .i64 (Q2v p.2 cc.2))/\∃n,w'=W.drewN n:=fun W hW=>by
      have hh:W.heap=wl.heap:=hW.heap.trans hwr.heap
      exact Qc8 ae2 le2 ce2 p.2 ae1 ce1 cc.2 W ((hE2.step (Xe9 HS)).heap hh) (((Xo7 HS).step (Xe9 HS)).heap hh)
     obtain ⟨V,hV⟩:∃V,Q2v p.2 cc.2=V:=⟨_,rfl⟩
     rw[hV] at hord
     by_cases hgt:0<V
     ·have HX:=Xh4 hwr hbef hp hV
      clear hwr hbef hp hV hcell hgc hd2 hc2 hD2 hE2 g0 g1 g2 g3 hfz
      go_wp2_with fail
      go_quiet (first|(refine Calls.quiet_of (hord _ ?_);first|exact ⟨_,rfl⟩|exact Q2u.step ⟨_,rfl⟩ _|exact ⟨0,rfl⟩))
      go_wp2_with fail
      refine ⟨⟨kk+1,congrArg (Value.int .i64) (by omega),by omega,fun j p' hj hp'=>?_,(Xo0 HX).step _⟩,by simp only[intOf];omega⟩
      by_cases hjk:j=kk
      ·subst hjk
       rw[(Xo2 HX)] at hp'
       injection hp' with hp'
       rw[<-hp',(Xe3 HX)];exact hgt
      ·exact (Xo1 HX) j p' (by omega) hp'
     ·by_cases hv0:V=0
      ·subst hv0
       obtain ⟨G2,hG2⟩:∃G2,Q17 (ts.take (i+1))=G2:=⟨_,rfl⟩
       have hG3:G2=out.set kk (p.1+cc.1,p.2):=by rw[<-hG2,(Xo3 HS)];exact Qqm hbef hp hV
       have hb2':bnd 500000 (dy (sgn n2 v2) e2):=by rw[hD2];exact ((Xo1 HS) p (List.mem_of_getElem? hp)).more (by omega)
       have hb1':bnd 500000 (dy (sgn n1 v1) e1):=by rw[(Xo6 HS)];exact (Xo8 HS).more (by omega)
       have hsum:dy (sgn n2 v2) e2+dy (sgn n1 v1) e1=p.1+cc.1:=by rw[hD2,(Xo6 HS)]
       have hadd:Qsx w wl g kk m co b (o+i*4) out xs n2 a2 l2 c2 v2 e2 n1 a1 l1 c1 v1 e1:=⟨hgc _ _ g0,hgc _ _ g1,hgc _ _ g2,hfz _,hfz _,hfz _,q0,q1,q2,hd2,(Xo4 HS).step (Xe9 HS),(Xo0 HS)⟩
       have HW:=Xh2 hwr hadd
       have HG:=Xh7 hc2 (Xo5 HS) hb2' hb1' hp hG3 hsum
       have HG2:=Lib.hid hG2
       clear hwr hbef hp hV hcell hgc hd2 hc2 hD2 hE2 g0 g1 g2 g3 hfz hadd hb2' hb1' hsum hG3 hG2
       go_wp2_with fail
       go_quiet (first|(refine Calls.quiet_of (hord _ ?_);first|exact ⟨_,rfl⟩|exact Q2u.step ⟨_,rfl⟩ _|exact ⟨0,rfl⟩))
       go_upto_region 8 with fail
       refine Q4t (Φ:=Q2u wr) (P:=fun U=>Code.wp _ _ _ _ U) _ (by first|exact ⟨_,rfl⟩|exact Q2u.step ⟨_,rfl⟩ _|exact Q2u.step (Q2u.step ⟨_,rfl⟩ _) _) ?_
       intro V1 hV1
       have u1:=(hV1.cell ⟨g,kk*4+3,none⟩).trans x3
       have u3:=(hV1.cell ⟨b,o+i*4+3,none⟩).trans z3
       have ho8:=fun W (h:Q2u V1 W)=>hord W (hV1.trans h)
       clear hord x0 x1 x2 x3 z0 z1 z2 z3
       go_quiet (first|(refine Calls.quiet_of (ho8 _ ?_);first|exact ⟨_,rfl⟩|exact Q2u.step ⟨_,rfl⟩ _|exact ⟨0,rfl⟩))
       go_upto_region 9 with fail
       refine Q4t (Φ:=Q2u wl) (P:=fun U=>Code.wp _ _ _ _ U) _ (by first|exact (Xo0 HW)|exact (Xo0 HW).step _|exact ((Xo0 HW).step _).step _|exact (Xo0 HW).trans hV1|exact (Xo0 HW).trans (hV1.step _)|exact (Xo0 HW).trans ((hV1.step _).step _)) ?_
       intro U hU
       have HC:=Lib.hid (fun W (h:Below U.heap.size U W)=>(Xe1 HW).step (Below.next0 hU.below h))
       clear hU
       refine Q1o (by kernel_rfl) 15 rfl (fun W=>Below U.heap.size U W) (fun _ _ h h'=>Below.next0 h h') (Q6k [.slice (some ⟨g,0,none⟩) m co,.int .i64 (kk:Int),.slice (some ⟨g,0,none⟩) m co,.int .i64 (kk:Int),.pointer (some ⟨g,kk*4,none⟩),.pointer (some ⟨g,kk*4,none⟩),.agg #[.bool n2,.slice a2 l2 c2,.int .i64 e2],.slice (some ⟨b,o,none⟩) n c,.int .i64 (i:Int),.pointer (some ⟨b,o+i*4,none⟩),.pointer (some ⟨b,o+i*4,none⟩),.agg #[.bool n1,.slice a1 l1 c1,.int .i64 e1],undef,.pointer (some ⟨g,kk*4,none⟩),.pointer (some ⟨g,kk*4,none⟩)] (Q5o [(12,fun u w=>Q4h w u (dy (sgn n2 v2) e2+dy (sgn n1 v1) e1))])) (Q0q (Q1c (Qsr (Q1d _)))) (fun W=>∃xs2,Q4c w W (some ⟨g,0,none⟩) m co G2 xs2) (by kernel_rfl) (by kernel_rfl) (by kernel_rfl) (by kernel_rfl) (Q08 U) ?_ ?_ ?_
       ·skip
        refine ⟨fun A W hW hag hdep=>?_,?_⟩
        ·have e4:A.tmps[4]?.getD undef=.slice (some ⟨g,0,none⟩) m co:=Q03 (hag.keep (t:=4) (by kernel_rfl) rfl)
         refine Q01 rfl ?_
         refine Q02 (u:=.slice (some ⟨g,0,none⟩) m co) ?_ ((Q00 rfl).2 rfl)
         simp[go_sem,e4]
        refine ⟨fun A W hW hag hdep=>?_,?_⟩
        ·have e6:A.tmps[6]?.getD undef=.int .i64 (kk:Int):=Q03 (hag.keep (t:=6) (by kernel_rfl) rfl)
         refine Q01 rfl ?_
         refine Q02 (u:=.int .i64 (kk:Int)) ?_ ((Q00 rfl).2 rfl)
         simp[go_sem,e6]
        refine ⟨fun A W hW hag hdep=>?_,?_⟩
        ·have e4:A.tmps[4]?.getD undef=.slice (some ⟨g,0,none⟩) m co:=Q03 (hag.keep (t:=4) (by kernel_rfl) rfl)
         refine Q01 rfl ?_
         refine Q02 (u:=.slice (some ⟨g,0,none⟩) m co) ?_ ((Q00 rfl).2 rfl)
         simp[go_sem,e4]
        refine ⟨fun A W hW hag hdep=>?_,?_⟩
        ·have e6:A.tmps[6]?.getD undef=.int .i64 (kk:Int):=Q03 (hag.keep (t:=6) (by kernel_rfl) rfl)
         refine Q01 rfl ?_
         refine Q02 (u:=.int .i64 (kk:Int)) ?_ ((Q00 rfl).2 rfl)
         simp[go_sem,e6]
        refine ⟨fun A W hW hag hdep=>?_,?_⟩
        ·have e58:A.tmps[58]?.getD undef=.slice (some ⟨g,0,none⟩) m co:=Q03 ((Q00 rfl).1 (hdep 2 (by decide)))
         have e59:A.tmps[59]?.getD undef=.int .i64 (kk:Int):=Q03 ((Q00 rfl).1 (hdep 3 (by decide)))
         refine Q01 rfl ?_
         refine Q02 (u:=.pointer (some ⟨g,kk*4,none⟩)) ?_ ((Q00 rfl).2 rfl)
         simp[go_sem,e58,e59,hkm']
        refine ⟨fun A W hW hag hdep=>?_,?_⟩
        ·have e60:A.tmps[60]?.getD undef=.pointer (some ⟨g,kk*4,none⟩):=Q03 ((Q00 rfl).1 (hdep 4 (by decide)))
         refine Q01 rfl ?_
         refine Q02 (u:=.pointer (some ⟨g,kk*4,none⟩)) ?_ ((Q00 rfl).2 rfl)
         simp[go_sem,e60]
        refine ⟨fun A W hW hag hdep=>?_,?_⟩
        ·have e61:A.tmps[61]?.getD undef=.pointer (some ⟨g,kk*4,none⟩):=Q03 ((Q00 rfl).1 (hdep 5 (by decide)))
         refine Q01 rfl ?_
         refine Q02 (u:=.agg #[.bool n2,.slice a2 l2 c2,.int .i64 e2]) ?_ ((Q00 rfl).2 rfl)
         simp[go_sem,e61,(HC.out W hW).o0,(HC.out W hW).o1,(HC.out W hW).o2]
        refine ⟨fun A W hW hag hdep=>?_,?_⟩
        ·have e0:A.tmps[0]?.getD undef=.slice (some ⟨b,o,none⟩) n c:=Q03 (hag.keep (t:=0) (by kernel_rfl) rfl)
         refine Q01 rfl ?_
         refine Q02 (u:=.slice (some ⟨b,o,none⟩) n c) ?_ ((Q00 rfl).2 rfl)
         simp[go_sem,e0]
        refine ⟨fun A W hW hag hdep=>?_,?_⟩
        ·have e5:A.tmps[5]?.getD undef=.int .i64 (i:Int):=Q03 (hag.keep (t:=5) (by kernel_rfl) rfl)
         refine Q01 rfl ?_
         refine Q02 (u:=.int .i64 (i:Int)) ?_ ((Q00 rfl).2 rfl)
         simp[go_sem,e5]
        refine ⟨fun A W hW hag hdep=>?_,?_⟩
        ·have e63:A.tmps[63]?.getD undef=.slice (some ⟨b,o,none⟩) n c:=Q03 ((Q00 rfl).1 (hdep 7 (by decide)))
         have e64:A.tmps[64]?.getD undef=.int .i64 (i:Int):=Q03 ((Q00 rfl).1 (hdep 8 (by decide)))
         refine Q01 rfl ?_
         refine Q02 (u:=.pointer (some ⟨b,o+i*4,none⟩)) ?_ ((Q00 rfl).2 rfl)
         simp[go_sem,e63,e64,hlt']
        refine ⟨fun A W hW hag hdep=>?_,?_⟩
        ·have e65:A.tmps[65]?.getD undef=.pointer (some ⟨b,o+i*4,none⟩):=Q03 ((Q00 rfl).1 (hdep 9 (by decide)))
         refine Q01 rfl ?_
         refine Q02 (u:=.pointer (some ⟨b,o+i*4,none⟩)) ?_ ((Q00 rfl).2 rfl)
         simp[go_sem,e65]
        refine ⟨fun A W hW hag hdep=>?_,?_⟩
        ·have e66:A.tmps[66]?.getD undef=.pointer (some ⟨b,o+i*4,none⟩):=Q03 ((Q00 rfl).1 (hdep 10 (by decide)))
         refine Q01 rfl ?_
         refine Q02 (u:=.agg #[.bool n1,.slice a1 l1 c1,.int .i64 e1]) ?_ ((Q00 rfl).2 rfl)
         simp[go_sem,e66,(HC.out W hW).i0,(HC.out W hW).i1,(HC.out W hW).i2]
        refine ⟨fun A W hW hag hdep=>?_,?_⟩
        ·have e62:A.tmps[62]?.getD undef=.agg #[.bool n2,.slice a2 l2 c2,.int .i64 e2]:=Q03 ((Q00 rfl).1 (hdep 6 (by decide)))
         have e67:A.tmps[67]?.getD undef=.agg #[.bool n1,.slice a1 l1 c1,.int .i64 e1]:=Q03 ((Q00 rfl).1 (hdep 11 (by decide)))
         refine Q01 rfl ?_
         refine Q0j (f:=25) (args:= #[.agg #[.bool n2,.slice a2 l2 c2,.int .i64 e2],.agg #[.bool n1,.slice a1 l1 c1,.int .i64 e1]]) (by simp[go_sem,e62,e67]) ((Q7e n2 a2 l2 c2 e2 v2 n1 a1 l1 c1 e1 v1 W (HC.out W hW).d2 (HC.out W hW).d1 (Xo0 HG) (Xo1 HG) 500000 (Xo2 HG) (Xo3 HG) (Nat.le_refl _)).mono ?_)
         rintro e w2' ⟨u',rfl,hv',hb'⟩
         exact ⟨_,rfl,hb',(Q06 rfl).2 hv'⟩
        refine ⟨fun A W hW hag hdep=>?_,?_⟩
        ·have e56:A.tmps[56]?.getD undef=.slice (some ⟨g,0,none⟩) m co:=Q03 ((Q00 rfl).1 (hdep 0 (by decide)))
         have e57:A.tmps[57]?.getD undef=.int .i64 (kk:Int):=Q03 ((Q00 rfl).1 (hdep 1 (by decide)))
         refine Q01 rfl ?_
         refine Q02 (u:=.pointer (some ⟨g,kk*4,none⟩)) ?_ ((Q00 rfl).2 rfl)
         simp[go_sem,e56,e57,hkm']
        refine ⟨fun A W hW hag hdep=>?_,?_⟩
        ·have e69:A.tmps[69]?.getD undef=.pointer (some ⟨g,kk*4,none⟩):=Q03 ((Q00 rfl).1 (hdep 13 (by decide)))
         refine Q01 rfl ?_
         refine Q02 (u:=.pointer (some ⟨g,kk*4,none⟩)) ?_ ((Q00 rfl).2 rfl)
         simp[go_sem,e69]
        exact trivial
       ·intro A W hW hag hdep
        obtain ⟨n8,a8,l8,c8,q8,v8,hv8,hd8,hcn8,hD8⟩:=(Q06 rfl).1 (hdep 12 (by decide))
        have e68:=Q03 hv8
        have e70:A.tmps[70]?.getD undef=.pointer (some ⟨g,kk*4,none⟩):=Q03 ((Q00 rfl).1 (hdep 14 (by decide)))
        have hgg:=HC.out W hW
        have k0:=hgg.o0
        have f0:=hgg.z0
        have f1:=hgg.z1
        have f2:=hgg.z2
        have d1:(W.setCell ⟨g,kk*4,none⟩ (.bool n8)).cell? ⟨g,kk*4+1,none⟩=some (.slice a2 l2 c2):=(World.cell?_setCell_other _ _ _ _ (by simp)).trans hgg.o1
        have d2:((W.setCell ⟨g,kk*4,none⟩ (.bool n8)).setCell ⟨g,kk*4+1,none⟩ (.slice a8 l8 c8)).cell? ⟨g,kk*4+2,none⟩=some (.int .i64 e2):=(World.cell?_setCell_other _ _ _ _ (by simp)).trans ((World.cell?_setCell_other _ _ _ _ (by simp)).trans hgg.o2)
        refine Q2f (w':=(((W.setCell ⟨g,kk*4,none⟩ (.bool n8)).setCell ⟨g,kk*4+1,none⟩ (.slice a8 l8 c8)).setCell ⟨g,kk*4+2,none⟩ (.int .i64 q8))) (by simp[go_sem,e70,e68,k0,f0,f1,f2,d1,d2]) ?_
        exact Qsw (Xo4 HG) (Xo5 HG) (HC.out W hW).st hd8 hcn8 (hD8.trans (Xe6 HG))
       intro vs W2 hfin
       obtain ⟨xs2,hst2⟩:=hfin
       have HF:=Lib.hid hst2
       clear hst2
       simp only[Q10,Act.put,List.setIfInBounds_toArray,List.set_cons_zero,List.set_cons_succ]
       go_wp2_with fail
       exact ⟨⟨i+1,m,some ⟨g,0,none⟩,co,xs2,rfl,congrArg (Value.int .i64) (by omega),by omega,by rw[HG2.out];exact HF.out⟩,by simp only[intOf];omega⟩
      ·have hv0':(V==0)=false:=by rw[beq_eq_false_iff_ne];exact hv0
       have HW:=Lib.hid (And.intro hwr (And.intro hbef (show∀p',out[kk]?=some p'->Q2v p'.2 cc.2<0 from fun p' hp'=>by
        rw[hp] at hp'
        injection hp' with hp'
        rw[<-hp',hV];omega)))
       clear hwr hbef hp hV hcell hgc hd2 hc2 hD2 hE2 g0 g1 g2 g3 hfz
       go_wp2_with fail
       go_quiet (first|(refine Calls.quiet_of (hord _ ?_);first|exact ⟨_,rfl⟩|exact Q2u.step ⟨_,rfl⟩ _|exact ⟨0,rfl⟩))
       go_upto_region 8 with fail
       refine Q4t (Φ:=Q2u wr) (P:=fun U=>Code.wp _ _ _ _ U) _ (by first|exact ⟨_,rfl⟩|exact Q2u.step ⟨_,rfl⟩ _|exact Q2u.step (Q2u.step ⟨_,rfl⟩ _) _) ?_
       intro V1 hV1
       have u1:=(hV1.cell ⟨g,kk*4+3,none⟩).trans x3
       have u3:=(hV1.cell ⟨b,o+i*4+3,none⟩).trans z3
       have ho8:=fun W (h:Q2u V1 W)=>hord W (hV1.trans h)
       clear hord x0 x1 x2 x3 z0 z1 z2 z3
       go_quiet (first|(refine Calls.quiet_of (ho8 _ ?_);first|exact ⟨_,rfl⟩|exact Q2u.step ⟨_,rfl⟩ _|exact ⟨0,rfl⟩))
       go_upto_region 11 with fail
       refine Q4t (Φ:=Q2u wl) (P:=fun U=>Code.wp _ _ _ _ U) _ (by first|exact (Xo0 HW)|exact (Xo0 HW).step _|exact ((Xo0 HW).step _).step _|exact (Xo0 HW).trans hV1|exact (Xo0 HW).trans (hV1.step _)|exact (Xo0 HW).trans ((hV1.step _).step _)) ?_
       intro U hU
       have hUb:=hU.below
       have hstU:=(Xo0 HS).step hUb
       have hbU:=hstU.2.2.2
       obtain ⟨a7,c7,w7,hrun7,hb7,a8,c8,w8,hrun8,hb8,a9,c9,w9,hrun9,hb9,hrow9,henc9⟩:=Qda w U hbU (some ⟨g,0,none⟩) m co xs out hstU.1 hstU.2.1 hstU.2.2.1 kk hkm cc [.bool n1,.slice a1 l1 c1,.int .i64 e1,.slice ae1 le2 ce1] ⟨n1,a1,l1,c1,e1,v1,ae1,le2,ce1,[],rfl,⟨(Xo4 HS).step hbU,(Xo5 HS),(Xo6 HS),(Xo7 HS)⟩,rfl⟩ (by omega)
       have p0:=(hb7.cell (p:=⟨b,o+i*4,none⟩) hbb).trans (Xo0 HYC)
       have p1:=(hb7.cell (p:=⟨b,o+i*4+1,none⟩) hbb).trans (Xo1 HYC)
       have p2:=(hb7.cell (p:=⟨b,o+i*4+2,none⟩) hbb).trans (Xo2 HYC)
       have p3:=(hb7.cell (p:=⟨b,o+i*4+3,none⟩) hbb).trans (Xe3 HYC)
       have hs1:=fun W=>Qgt W (some ⟨g,0,none⟩) m co kk (by omega)
       have hs2:=fun W=>Qgs W (some ⟨g,0,none⟩) m co kk hkm
       have hnew:Q17 (ts.take (i+1))=out.take kk++cc::out.drop kk:=by
        rw[(Xo3 HS)]
        exact Qgp (by rw[(Xo0 HS).1];exact hkm) (Xo1 HW) (Xe2 HW)
       have hend:∃xs',Q4c w w9 a9 (m+1) c9 (Q17 (ts.take (i+1))) xs':=by
        rw[hnew]
        exact ⟨_,by rw[List.length_append,List.length_cons,List.length_take,List.length_drop,(Xo0 HS).1];omega,hrow9,henc9,hb9⟩
       obtain ⟨xs9,hx9⟩:=hend
       have HR:=Lib.hid hx9
       clear hx9 hrow9 henc9 hb9 hnew hUb hstU hbU hb7 hb8
       go_wp2_with (first
        |(at_builtin;refine Q0a rfl (.tmp 71) (.tmp 74) 142 142 rfl _ _ rfl rfl _ _ hrun7 ?_)
        |(at_builtin;refine Q0a rfl (.tmp 76) (.tmp 81) 142 142 rfl _ _ rfl rfl _ _ hrun8 ?_)
        |(at_builtin;refine Q0a rfl (.tmp 83) (.tmp 86) 142 142 rfl _ _ rfl rfl _ _ hrun9 ?_))
       exact ⟨⟨i+1,m+1,a9,c9,xs9,rfl,congrArg (Value.int .i64) (by omega),by omega,HR.out⟩,by simp only[intOf];omega⟩
    ·have hkm':¬(kk:Int)<(m:Int):=by omega
     have HW:=Lib.hid (And.intro hwr (And.intro hbef (show∀p',out[kk]?=some p'->Q2v p'.2 cc.2<0 from fun p' hp'=>by
      have:=(List.getElem?_eq_some_iff.1 hp').1
      have:=(Xo0 HS).1
      omega)))
     clear hwr hbef hcell
     go_wp2_with fail
     go_quiet (fail)
     go_wp2_with fail
     go_quiet (fail)
     go_upto_region 11 with fail
     refine Q4t (Φ:=Q2u wl) (P:=fun U=>Code.wp _ _ _ _ U) _ (by first|exact (Xo0 HW)|exact (Xo0 HW).step _|exact ((Xo0 HW).step _).step _|exact (Xo0 HW).trans hV1|exact (Xo0 HW).trans (hV1.step _)|exact (Xo0 HW).trans ((hV1.step _).step _)) ?_
     intro U hU
     have hUb:=hU.below
     have hstU:=(Xo0 HS).step hUb
     have hbU:=hstU.2.2.2
     obtain ⟨a7,c7,w7,hrun7,hb7,a8,c8,w8,hrun8,hb8,a9,c9,w9,hrun9,hb9,hrow9,henc9⟩:=Qda w U hbU ao m co xs out hstU.1 hstU.2.1 hstU.2.2.1 kk hkm cc [.bool n1,.slice a1 l1 c1,.int .i64 e1,.slice ae1 le1 ce1] ⟨n1,a1,l1,c1,e1,v1,ae1,le1,ce1,[],rfl,⟨(Xo4 HS).step hbU,(Xo5 HS),(Xo6 HS),(Xo7 HS)⟩,rfl⟩ (by omega)
     have p0:=(hb7.cell (p:=⟨b,o+i*4,none⟩) hbb).trans (Xo0 HYC)
     have p1:=(hb7.cell (p:=⟨b,o+i*4+1,none⟩) hbb).trans (Xo1 HYC)
     have p2:=(hb7.cell (p:=⟨b,o+i*4+2,none⟩) hbb).trans (Xo2 HYC)
     have p3:=(hb7.cell (p:=⟨b,o+i*4+3,none⟩) hbb).trans (Xe3 HYC)
     have hs1:=fun W=>Qgt W ao m co kk (by omega)
     have hs2:=fun W=>Qgs W ao m co kk hkm
     have hnew:Q17 (ts.take (i+1))=out.take kk++cc::out.drop kk:=by
      rw[(Xo3 HS)]
      exact Qgp (by rw[(Xo0 HS).1];exact hkm) (Xo1 HW) (Xe2 HW)
     have hend:∃xs',Q4c w w9 a9 (m+1) c9 (Q17 (ts.take (i+1))) xs':=by
      rw[hnew]
      exact ⟨_,by rw[List.length_append,List.length_cons,List.length_take,List.length_drop,(Xo0 HS).1];omega,hrow9,henc9,hb9⟩
     obtain ⟨xs9,hx9⟩:=hend
     have HR:=Lib.hid hx9
     clear hx9 hrow9 henc9 hb9 hnew hUb hstU hbU hb7 hb8
     go_wp2_with (first
      |(at_builtin;refine Q0a rfl (.tmp 71) (.tmp 74) 142 142 rfl _ _ rfl rfl _ _ hrun7 ?_)
      |(at_builtin;refine Q0a rfl (.tmp 76) (.tmp 81) 142 142 rfl _ _ rfl rfl _ _ hrun8 ?_)
      |(at_builtin;refine Q0a rfl (.tmp 83) (.tmp 86) 142 142 rfl _ _ rfl rfl _ _ hrun9 ?_))
     exact ⟨⟨i+1,m+1,a9,c9,xs9,rfl,congrArg (Value.int .i64) (by omega),by omega,HR.out⟩,by simp only[intOf];omega⟩
  ·have hlt':¬(i:Int)<(n:Int):=by omega
   have hie:ts.take i=ts:=List.take_of_length_le (by omega)
   obtain ⟨out,hout⟩:∃out,Q17 ts=out:=⟨_,rfl⟩
   have hml:m<=n:=by rw[<-hst.1];exact Nat.le_trans (Q8c ts i) (by omega)
   have hob:∀p∈out,bnd (T+n) p.1:=fun p hp=>by
    refine (Q8b (Xo2 H) i p (by rw[hie,hout];exact hp)).more (by omega)
   have hoe:∀p∈out,p.2.length=k:=fun p hp=>by
    obtain ⟨q,hq,he⟩:=(Q4z ts).2.2.1 p (by rw[hout];exact hp)
    rw[<-he];exact (Xo1 H) q hq
   rw[hie,hout] at hst
   have hmco:=hst.2.1.1.cap.1
   have hmc:=Nat.le_trans hst.2.1.1.cap.1 hst.2.1.1.cap.2
   have HS:=Xh4 hst hob hoe hout
   clear hst hob hoe hout hie
   go_wp2_with fail
   rename World=>wl
   go_loopw [8,9] (fun s8 s9 wr=>Qwl wl out s8 s9 wr) (fun _ iv _=>m-(intOf iv).toNat)
   case atStart=>exact ⟨0,0,none,0,[],[],rfl,rfl,Nat.zero_le _,Nat.le_refl _,Q5q.nil_ _ _,rfl,(fun m hm=>by cases hm),(fun p hp=>by simp at hp),Below.refl _ _⟩
   case round=>
    obtain ⟨j,N,a1,c1,ms,zs,rfl,rfl,hj,hNj,hall,hmap,hok,hfit,hbr⟩:=hrel
    by_cases hjm:j<m
    ·have hjm':(j:Int)<(m:Int):=by omega
     have hj1:j+1<=out.length:=by rw[(Xo0 HS).1];exact hjm
     obtain ⟨p,hp⟩:∃p,out[j]?=some p:=⟨_,List.getElem?_eq_getElem (by rw[(Xo0 HS).1];exact hjm)⟩
     obtain ⟨g,rfl,hfz,hgc⟩:=(Xo0 HS).2.1.block (by omega)
     obtain ⟨n2,a2,l2,c2,e2,v2,ae2,le2,ce2,g0,g1,g2,g3,hd2,hc2,hD2,hE2⟩:=(Xo0 HS).2.2.1.get hp
     have hgl:g<wl.heap.size:=block_lt_of_cell (hgc _ _ g0)
     have x0:=(hbr.cell (p:=⟨g,j*4,none⟩) hgl).trans (hgc _ _ g0)
     have x1:=(hbr.cell (p:=⟨g,j*4+1,none⟩) hgl).trans (hgc _ _ g1)
     have x2:=(hbr.cell (p:=⟨g,j*4+2,none⟩) hgl).trans (hgc _ _ g2)
     have x3:=(hbr.cell (p:=⟨g,j*4+3,none⟩) hgl).trans (hgc _ _ g3)
     have hE2':Q0k wr ae2 le2 ce2 p.2:=(hE2.step (Xo0 HS).2.2.2).step hbr
     have hd2':Q0l wr a2 l2 c2 v2:=hd2.step hbr
     have hle2:le2=k:=by rw[<-hE2.len];exact (Xo2 HS) p (List.mem_of_getElem? hp)
     have hl2:l2<=1000000:=by
      have hb:=Qbp (k:=31250) hc2 (by rw[hD2];exact (Xo1 HS) p (List.mem_of_getElem? hp)) (by omega)
      have:=hd2.len
      omega
     have hE0:p.2≠[]:=fun e=>by
      have:=(Xo2 HS) p (List.mem_of_getElem? hp)
      rw[e] at this;simp at this;omega
     have HE0:=Xh2 hE0 (show le2<=1000 by omega)
     have hsg:=Qbt n2 a2 l2 c2 e2 v2 wr hd2' hc2
     by_cases hz:p.1=0
     ·have hS0:Qnl n2 v2=0:=(Qbs hc2).2 (hD2.trans hz)
      rw[hS0] at hsg
      have HX:=Xh5 hall (by rw[Quv hp hz];exact hmap:ms.map Q05.term=(out.take (j+1)).filter (fun p=>decide (p.1≠0))) hok (Qgx hp (by rw[hz];exact Q7t) hfit) hbr
      clear hall hmap hok hfit hbr hp hgc g0 g1 g2 g3 hd2 hc2 hD2 hE2 hE2' hd2' hle2 hE0 hz hS0 hfz hl2
      go_wp2_with (go_at_call 64;refine hsg.mono ?_;rintro r w3 ⟨rfl,hb3⟩;have HB:=Lib.hid hb3;clear hb3)
      exact ⟨⟨j+1,N,a1,c1,ms,zs,rfl,congrArg (Value.int .i64) (by omega),hj1,by omega,(Xo0 HX).step HB.out,(Xo1 HX),(Xo2 HX),(Xo3 HX),Below.next0 (Xe4 HX) HB.out⟩,by simp only[intOf];omega⟩
     ·have hS0:Qnl n2 v2≠0:=fun e=>hz (hD2.symm.trans ((Qbs hc2).1 e))
      obtain ⟨Sg,hSg⟩:∃Sg,Qnl n2 v2=Sg:=⟨_,rfl⟩
      rw[hSg] at hS0 hsg
      have hS1:(Sg==0)=false:=by rw[beq_eq_false_iff_ne];exact hS0
      have hxs:∀W,Below wr.heap.size wr W->W.cell? ⟨g,j*4,none⟩=some (.bool n2)/\W.cell? ⟨g,j*4+1,none⟩=some (.slice a2 l2 c2)/\W.cell? ⟨g,j*4+2,none⟩=some (.int .i64 e2):=fun W hW=>⟨(hW.cell (p:=⟨g,j*4,none⟩) (block_lt_of_cell x0)).trans x0,(hW.cell (p:=⟨g,j*4+1,none⟩) (block_lt_of_cell x1)).trans x1,(hW.cell (p:=⟨g,j*4+2,none⟩) (block_lt_of_cell x2)).trans x2⟩
      have hnum:=fun W (hW:Below wr.heap.size wr W)=>Qce n2 a2 l2 c2 v2 e2 W (hd2'.step hW) hl2
      have HX:=Xh13 hall hmap hok hfit hbr hp hc2 hD2 hE2' x3 hz hxs hnum
      clear hall hmap hok hfit hbr hp hgc g0 g1 g2 g3 hd2 hc2 hD2 hE2 hE2' hd2' hle2 hE0 hz hSg hS0 hfz hl2 x3 hxs hnum
      go_upto_region 20 with (first
       |(go_at_call 64
         refine hsg.mono ?_
         rintro r w3 ⟨rfl,hb3⟩
         obtain ⟨y0,y1,y2⟩:=(Xo11 HX) w3 hb3
         have hnum:=(Xe12 HX) w3 hb3
         have HB:=Lib.hid hb3
         clear hb3 hsg)
       |(go_at_call 146
         refine hnum.mono ?_
         rintro r w4 ⟨neg9,e9,a9,n9,c9,L9,er,rfl,hvn,hwi,hb4⟩
         have HN:=Xh3 hvn hwi hb4
         clear hvn hwi hb4))
      refine Q4t (Φ:=fun U=>Below w4.heap.size w4 U/\Q04 U w4.heap.size (.bool neg9) (.int .i64 e9) (.slice a9 n9 c9)) (P:=fun U=>Code.wp _ _ _ _ U) _ ⟨(Below.refl _ _).alloc (Nat.le_refl _) _,Q04.new _ _ _ _ _⟩ ?_
      intro U hU
      have hbU:Below wr.heap.size wr U:=Below.next0 (Below.next0 HB.out (Xe2 HN)) hU.1
      have hft:=Qll (Xo6 HX) (Xo0 HN)
      rw[(Xo7 HX)] at hft
      have hwU:=(Xo1 HN).step hU.1
      have hit:Qky U w4.heap.size g (j*4+3) (.bool neg9) (.int .i64 e9) (.slice a9 n9 c9) ae2 le2 ce2 p.2:=⟨hU.2,(hbU.cell (p:=⟨g,j*4+3,none⟩) (block_lt_of_cell (Xo9 HX))).trans (Xo9 HX),(Xo8 HX).step hbU⟩
      have HC:=Lib.hid (fun W (h:Below U.heap.size U W)=>hit.step h)
      have HT:=Xh4 ((Xo0 HX).step hbU) (Nat.le_trans (Xo4 HX).size hbU.size) hwU (show N<=1000 by omega)
      have HY:=Lib.hid hbU
      clear hU hbU hwU hit
      rcases hft with ⟨hf,rfl,hin,hnd⟩|⟨hf,rfl,rfl,rfl,rfl⟩
      ·have HF:=Xh3 hf hin hnd
       clear hf hin hnd
       go_upto_region 22 with fail
       refine Q6z (by kernel_rfl) 11 rfl (fun W=>Below U.heap.size U W) (fun _ _ h h'=>Below.next0 h h') (Q6k [.slice a1 N c1,.agg #[.bool neg9,.int .i64 e9,.slice a9 n9 c9],undef,.slice (some ⟨g,0,none⟩) m co,.int .i64 (j:Int),.pointer (some ⟨g,j*4,none⟩),.pointer (some ⟨g,j*4+3,none⟩),.slice ae2 le2 ce2,undef,undef,undef] (Q5o [(2,Emp),(8,Qw6 U.heap.size le2 p.2),(9,Qw7 U.heap.size le2 p.2 (.bool neg9) (.int .i64 e9) (.slice a9 n9 c9)),(10,Qqn U.heap.size le2 p.2 (.bool neg9) (.int .i64 e9) (.slice a9 n9 c9))])) (Q0q (Q1c (Qut Qn0 (Qgv _ _ _) (Qgw _ _ _ _ _ _) (Qe8 _ _ _ _ _ _)))) (fun v W'=>∃a8 c8 zs8,v=.slice a8 (N+1) c8/\Q5q wl.heap.size W' a8 (N+1) c8 (ms++[⟨neg9,e9,L9,p.2⟩]) zs8/\Below wl.heap.size U W') (by kernel_rfl) (by kernel_rfl) (by kernel_rfl) (by kernel_rfl) (Q08 U) ?_ ?_ ?_
       ·skip
        refine ⟨fun A W hW hag hdep=>?_,?_⟩
        ·have e8:A.tmps[8]?.getD undef=.slice a1 N c1:=Q03 (hag.keep (t:=8) (by kernel_rfl) rfl)
         refine Q01 rfl ?_
         refine Q02 (u:=.slice a1 N c1) ?_ ((Q00 rfl).2 rfl)
         simp[go_sem,e8]
        refine ⟨fun A W hW hag hdep=>?_,?_⟩
        ·have e10:A.tmps[10]?.getD undef=.pointer (some ⟨w4.heap.size,0,none⟩):=Q03 (hag.keep (t:=10) (by kernel_rfl) rfl)
         refine Q01 rfl ?_
         obtain ⟨k0,k1,k2,_,_,_⟩:=(HC.out W hW).bx
         refine Q02 (u:=.agg #[.bool neg9,.int .i64 e9,.slice a9 n9 c9]) ?_ ((Q00 rfl).2 rfl)
         simp[go_sem,e10,k0,k1,k2]
        refine ⟨fun A W hW hag hdep=>?_,?_⟩
        ·refine Q01 rfl ?_
         refine Q7g (Q6s 42 0 #[] (by rfl) (by simp) (Qja W)) ((Below.refl _ _).alloc (Nat.le_refl _) _) ((Q06 rfl).2 ⟨_,rfl⟩)
        refine ⟨fun A W hW hag hdep=>?_,?_⟩
        ·have e4:A.tmps[4]?.getD undef=.slice (some ⟨g,0,none⟩) m co:=Q03 (hag.keep (t:=4) (by kernel_rfl) rfl)
         refine Q01 rfl ?_
         refine Q02 (u:=.slice (some ⟨g,0,none⟩) m co) ?_ ((Q00 rfl).2 rfl)
         simp[go_sem,e4]
        refine ⟨fun A W hW hag hdep=>?_,?_⟩
        ·have e9:A.tmps[9]?.getD undef=.int .i64 (j:Int):=Q03 (hag.keep (t:=9) (by kernel_rfl) rfl)
         refine Q01 rfl ?_
         refine Q02 (u:=.int .i64 (j:Int)) ?_ ((Q00 rfl).2 rfl)
         simp[go_sem,e9]
        refine ⟨fun A W hW hag hdep=>?_,?_⟩
        ·have e115:A.tmps[115]?.getD undef=.slice (some ⟨g,0,none⟩) m co:=Q03 ((Q00 rfl).1 (hdep 3 (by decide)))
         have e116:A.tmps[116]?.getD undef=.int .i64 (j:Int):=Q03 ((Q00 rfl).1 (hdep 4 (by decide)))
         refine Q01 rfl ?_
         refine Q02 (u:=.pointer (some ⟨g,j*4,none⟩)) ?_ ((Q00 rfl).2 rfl)
         simp[go_sem,e115,e116,hjm']
        refine ⟨fun A W hW hag hdep=>?_,?_⟩
        ·have e117:A.tmps[117]?.getD undef=.pointer (some ⟨g,j*4,none⟩):=Q03 ((Q00 rfl).1 (hdep 5 (by decide)))
         refine Q01 rfl ?_
         refine Q02 (u:=.pointer (some ⟨g,j*4+3,none⟩)) ?_ ((Q00 rfl).2 rfl)
         simp[go_sem,e117]
        refine ⟨fun A W hW hag hdep=>?_,?_⟩
        ·have e118:A.tmps[118]?.getD undef=.pointer (some ⟨g,j*4+3,none⟩):=Q03 ((Q00 rfl).1 (hdep 6 (by decide)))
         refine Q01 rfl ?_
         refine Q02 (u:=.slice ae2 le2 ce2) ?_ ((Q00 rfl).2 rfl)
         simp[go_sem,e118,(HC.out W hW).o3]
        refine ⟨fun A W hW hag hdep=>?_,?_⟩
        ·have e119:A.tmps[119]?.getD undef=.slice ae2 le2 ce2:=Q03 ((Q00 rfl).1 (hdep 7 (by decide)))
         refine Q01 rfl ?_
         obtain ⟨b0,hb0⟩:=(Q06 rfl).1 (hdep 2 (by decide))
         have h119:A.eval (.tmp 119)=.slice ae2 le2 ce2:=(Q00 rfl).1 (hdep 7 (by decide))
         obtain ⟨d9,W9,hrun9,hi9,hb9,hlt9⟩:=Qgu 42 W b0 ae2 le2 ce2 p.2 (HC.out W hW).ei (Xo0 HE0) (Xe1 HE0)
         exact Q7g (Q7h (.tmp 114) (.tmp 119) 42 42 (by rfl) hb0 h119 hrun9) hb9 ((Q06 rfl).2 ⟨_,d9,rfl,hW.size,hlt9,hi9⟩)
        refine ⟨fun A W hW hag hdep=>?_,?_⟩
        ·have e113:A.tmps[113]?.getD undef=.agg #[.bool neg9,.int .i64 e9,.slice a9 n9 c9]:=Q03 ((Q00 rfl).1 (hdep 1 (by decide)))
         refine Q01 rfl ?_
         obtain ⟨g9,d9,hv9,hg9,hl9,hi9⟩:=(Q06 rfl).1 (hdep 8 (by decide))
         have e120:=Q03 hv9
         refine Q7g (w':=W) (u:=.agg #[.bool neg9,.int .i64 e9,.slice a9 n9 c9,.slice (some ⟨g9,0,none⟩) le2 d9]) (by simp[go_sem,e113,e120]) (Below.refl _ _) ((Q06 rfl).2 ⟨g9,d9,rfl,hg9,hl9,hi9⟩)
        refine ⟨fun A W hW hag hdep=>?_,?_⟩
        ·refine Q01 rfl ?_
         obtain ⟨g9,d9,hv9,hg9,hl9,hi9⟩:=(Q06 rfl).1 (hdep 9 (by decide))
         have e121:A.eval (.tmp 121)=.agg #[.bool neg9,.int .i64 e9,.slice a9 n9 c9,.slice (some ⟨g9,0,none⟩) le2 d9]:=hv9
         refine Q7g (Q6s 25 1 #[(0,.tmp 121)] (by rfl) (parts':= #[(0,.agg #[.bool neg9,.int .i64 e9,.slice a9 n9 c9,.slice (some ⟨g9,0,none⟩) le2 d9])]) (by simp[e121]) (Qjb W _ _ _ _)) ((Below.refl _ _).alloc (Nat.le_refl _) _) ((Q06 rfl).2 ⟨W.heap.size,g9,d9,rfl,Q0f _ _,heap_alloc_new _ _,hg9,Nat.lt_trans hl9 (Q0f _ _),hi9.step ((Below.refl _ _).alloc (Nat.le_refl _) _)⟩)
        exact trivial
       ·refine And.intro ?_ (And.intro (by decide) ?_)
        ·intro A W hW hag hdep
         have h112:A.eval (.tmp 112)=.slice a1 N c1:=(Q00 rfl).1 (hdep 0 (by decide))
         have hv:=(Q06 rfl).1 (hdep 10 (by decide))
         obtain ⟨a8,c8,W8,zs8,hrun8,hall8,hb8⟩:=Qjc (Xo0 HT) (Xo1 HT) hW (m:=⟨neg9,e9,L9,p.2⟩) (Xo2 HT) hv (Xe3 HT) 25
         rw[Q7h (.tmp 112) (.tmp 122) 25 25 (by rfl) h112 rfl hrun8]
         exact ⟨a8,c8,zs8,rfl,hall8,hb8⟩
        ·intro a w hag;rfl
       intro vs W1 hfin hv12
       obtain ⟨a8,c8,zs8,hv8,hall8,hb8⟩:=hfin
       have h12:=hv12.trans hv8
       have HE:=Xh2 hall8 hb8
       clear hall8 hb8 hv8
       simp only[Q10,Act.put,List.setIfInBounds_toArray,List.set_cons_zero,List.set_cons_succ,h12]
       clear h12 hv12
       go_wp2_with fail
       refine ⟨⟨j+1,N+1,a8,c8,ms++[⟨neg9,e9,L9,p.2⟩],zs8,rfl,congrArg (Value.int .i64) (by omega),hj1,by omega,(Xo0 HE),?_,?_,Qgx (Xo5 HX) (Xo0 HF) (Xo3 HX),(Below.next0 (Xo4 HX) HY.out).trans (Xe1 HE)⟩,by simp only[intOf];omega⟩
       ·rw[List.map_append,(Xo1 HX),Qsv (Xo5 HX) (Xo10 HX)]
        show _++[(Q1q neg9 e9 L9,p.2)]=_
        rw[(Xe2 HF)]
       ·intro m0 hm0
        rcases List.mem_append.1 hm0 with h0|h0
        ·exact (Xo2 HX) m0 h0
        ·rw[List.mem_singleton] at h0
         subst h0
         exact ⟨(Xo1 HF),fun e=>(Xo10 HX) ((Xe2 HF).symm.trans ((Q5e (Xo1 HF) (Xo1 HN).low).2 e))⟩
      ·have HF:=Lib.hid hf
       clear hf
       go_wp2_with fail
       exact ⟨rfl,.tuple #[.slice none 0 0,.int .i64 2],by simp[results,go_sem],Q2t.err ((Xe3 H).symm.trans (Qn1 (Xe3 HS) (List.mem_of_getElem? (Xo5 HX)) HF.out)) (Below.next0 (Below.next0 (Xo0 HS).2.2.2 (Xo4 HX)) HY.out)⟩
    ·have hjm':¬(j:Int)<(m:Int):=by omega
     have htk:out.take j=out:=List.take_of_length_le (by rw[(Xo0 HS).1];omega)
     rw[htk] at hmap hfit
     have hNl:(out.filter fun p=>decide (p.1≠0)).length=N:=by rw[<-hmap,List.length_map,hall.st.len]
     have hmk:=Qn2 (Xe3 HS) hfit
     rw[hNl,(Xe3 H)] at hmk
     have hbe:=Below.next0 (Xo0 HS).2.2.2 hbr
     have hms:=hall.st.monos fun m hm=>(hok m hm).1
     have hnp:=hall.newp.more (Xo0 HS).2.2.2.size
     by_cases h24:24<N
     ·have h24':(24:Int)<(N:Int):=by omega
      rw[if_pos h24] at hmk
      have HX:=Xh2 hmk hbe
      clear hall hmap hok hfit hbr htk hNl hmk hbe hms hnp
      go_wp2_with fail
      exact ⟨rfl,.tuple #[.slice none 0 0,.int .i64 6],by simp[results,go_sem],Q2t.err (Xo0 HX) (Xe1 HX)⟩
     ·have h24':¬(24:Int)<(N:Int):=by omega
      rw[if_neg h24] at hmk
      have HX:=Xh6 hmk hbe hms hmap hok hnp
      clear hall hmap hok hfit hbr htk hNl hmk hbe hms hnp
      go_wp2_with fail
      exact ⟨rfl,.tuple #[.slice a1 N c1,.int .i64 0],by simp[results,go_sem],Q2t.ok (Xo0 HX) (Xo1 HX) (Xo2 HX) (Xo3 HX) (Xo4 HX) (Xe5 HX)⟩
end Go.Proofs.YtdilmfakkppgpaaGreatDoor
