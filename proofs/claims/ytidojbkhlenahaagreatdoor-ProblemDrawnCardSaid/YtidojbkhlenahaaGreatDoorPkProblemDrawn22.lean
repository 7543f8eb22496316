/- Part 22. No condition. -/
import Derived.ShutString
import Derived.ChangeOld
import Derived.Test.YtidojbkhlenahaaGreatDoorPkProblemDrawn21
set_option maxRecDepth 100000
set_option maxHeartbeats 16000000
namespace Go.Proofs.YtidojbkhlenahaaGreatDoor
open Go.RowKit WordsM DecM
theorem Quq (p:Qfg) (x:Q33):∀u∈Q2e p x,NoU u:=by
 intro u hu;simp only[Q2e,UD,TK,Xbm] at hu;rcases hu with rfl|rfl|rfl|rfl|rfl|rfl|rfl|rfl|rfl|rfl|rfl|rfl|rfl|rfl <;> first|exact Q2g _|exact Q2q _|exact Q3f _ _ _
theorem Qob (W:World):(Instr.buildSlice 23 0 #[]).run Tryz.prog W=.ok (.slice (some ⟨W.heap.size,0,none⟩) 0 0) (W.alloc (.cells #[] 44)):=by
 simp[Instr.buildSlice,run_underlying Q4j,Instr.fill,newRow];exact congrArg (fun c=>W.alloc (Obj.cells c 44)) (by simp)
theorem Qwy {W:World} {B:Nat} {p:Pl} {L:List IvV} (hS:Q1q W B p L) {xs:LV} (hr:Q4c NoU W B 44 6 p.a p.l p.c xs):∀u∈xs,u.oneCell'=true:=fun u hu=>by
 obtain ⟨j,hj,rfl⟩:=Xaw hu;have P2:=hr.1.len;have Qn:=hS.len;have hj6:j / 6<L.length:=by omega
 obtain ⟨g,hg,a,l,c,b,m,d,⟨k0,k1,k2,k3,k4,k5⟩,_⟩:=hS.ent (j / 6) _ (Ub hj6);rw[hg] at hr;have hc:=hr.1.cell0 (Ub hj);have h6:j=j / 6*6∨j=j / 6*6+1∨j=j / 6*6+2∨j=j / 6*6+3∨j=j / 6*6+4∨j=j / 6*6+5:=by omega
 have hs:∀i v,j=i->W.cell? ⟨g,i,none⟩=some v->v.oneCell'=true->xs[j].oneCell'=true:=fun i v e hv ho=>by
  subst e;rw[hc] at hv;injection hv with hv;rw[hv];exact ho
 rcases h6 with e|e|e|e|e|e
 ·exact hs _ _ e k0 rfl
 ·exact hs _ _ e k1 rfl
 ·exact hs _ _ e k2 rfl
 ·exact hs _ _ e k3 rfl
 ·exact hs _ _ e k4 rfl
 ·exact hs _ _ e k5 rfl
theorem Qwz {W:World} {B:Nat} {p:Pl} {y:IvV} {r:List IvV} (hS:Q1q W B p (y::r)) (k:Nat) (hl:p.l<=1000) (ty:TypeId):
 ∃g c W',(Builtin.append_ #[23,23] ty #[.slice (some ⟨k,0,none⟩) 0 0,.slice p.a p.l p.c]).run Tryz.prog W=.ok (.slice (some ⟨g,0,none⟩) p.l c) W'/\Q1q W' W.heap.size ⟨some ⟨g,0,none⟩,p.l,c⟩ (y::r)/\Bw W W':=by
 obtain ⟨xs,hr⟩:=hS.row;obtain ⟨i0,S2,E2,O1,Y1⟩:=Q0z Qct;have WF:=Qwy hS hr;obtain ⟨gb,KP,_⟩:=hS.ent 0 y rfl;have O2:0<p.l:=by rw[<-hS.len];exact Nat.succ_pos _
 have O6:=hr.1.len;rw[KP] at hr⊢;have N6:∀j,(⟨gb,0,none⟩:Addr).add j=⟨gb,j,none⟩:=fun j=>by unfold Addr.add;split <;> simp_all
 have G6:∀j u,xs[j]?=some u->W.cell? ((⟨gb,0,none⟩:Addr).add j)=some u:=fun j u hu=>by rw[N6];exact hr.1.cell0 hu
 obtain ⟨g,c',w',C2,K0,Z5,J2⟩:=Q16 (P:=Tryz.prog) NoU W 23 ty 44 i0 _ 6 80 Q4j S2 E2 O1 Y1 rfl Qm0 W.heap.size (Ue _) none 0 0 [] (Q4c.nil_ _ _ _ _ _) gb p.l p.c xs O6 G6 WF (fun u hu=>by
  rcases hr.1.form with ⟨h0,_⟩|⟨g2,cur2,e2,_,_,YS,_,_,_,i4⟩
  ·cases h0
  ·refine hr.2 g2 cur2 _ _ e2 YS u ?_;rw[<-i4] at hu;exact Td hu) O2 (by omega) (by decide) (by decide)
 have hg:g=W.heap.size:=by
  rcases J2 with h|h
  ·cases h
  ·exact h
 rw[UH,Xaa] at K0;rw[UH] at C2;have hb:Bw W w':=⟨Z5.os,Z5.tape,Z5.output,Z5.size,fun z hz=>Z5.block z hz (fun e=>by cases e)⟩;refine ⟨g,c',w',?_,⟨⟨xs,K0⟩,hS.len,fun j x hx=>⟨g,rfl,?_⟩⟩,hb⟩
 ·rw[<-C2];have h1:=run_append_grow (P:=Tryz.prog) W 23 ty 44 i0 _ Q4j S2 E2 ⟨k,0,none⟩ 0 0 [] (TQ _).symm (fun j v h=>by cases h) ⟨gb,0,none⟩ p.l p.c xs (by rw[O1];exact O6) G6 (by omega) (by omega) (growslice_fits (by omega) (by rw[Y1];omega));have h2:=run_append_nil (P:=Tryz.prog) W 23 ty 44 i0 _ Q4j S2 E2 ⟨gb,0,none⟩ p.l p.c xs (by rw[O1];exact O6) G6 O2 (by omega) (by rw[Y1];omega);rw[h1,h2];simp
 ·obtain ⟨g2,Q2,a,l,c,b,m,d,⟨k0,k1,k2,k3,k4,k5⟩,n6,n7⟩:=hS.ent j x hx;rw[KP] at Q2;injection Q2 with Q2;injection Q2 with Q2;subst Q2;have hj:j<p.l:=by rw[<-hS.len];exact (Uh.1 hx).1
  have hc:∀i v,i<6->W.cell? ⟨gb,j*6+i,none⟩=some v->w'.cell? ⟨g,j*6+i,none⟩=some v:=fun i v hi hv=>by
   have F0:j*6+i<xs.length:=(by omega);have e1:v=xs[j*6+i]:=Option.some.inj (hv.symm.trans (hr.1.cell0 (Ub F0)));rw[e1];exact K0.1.cell0 (Ub F0)
  exact ⟨a,l,c,b,m,d,⟨hc 0 _ (by decide) k0,hc 1 _ (by decide) k1,hc 2 _ (by decide) k2,hc 3 _ (by decide) k3,hc 4 _ (by decide) k4,hc 5 _ (by decide) k5⟩,n6.step hb,n7.step hb⟩
def bxC (b g:Nat) (p:Pl) (y:IvV) (q1 q2:Pl):List (Option Value):=[none,some (.pointer (some ⟨b,1,none⟩)),some (.slice (some ⟨g,0,none⟩) p.l p.c),none,some (.pointer (some ⟨b,1,none⟩)),some (.slice (some ⟨g,0,none⟩) p.l p.c),some (.pointer (some ⟨g,0,none⟩)),some (.agg #[.bool y.lo.neg,.int .i64 y.lo.exp,.slice q1.a q1.l q1.c,.bool y.hi.neg,.int .i64 y.hi.exp,.slice q2.a q2.l q2.c]),none,none,some (.pointer (some ⟨b,1,none⟩)),none]
def Qs7 (U:World) (n:Nat) (L:List IvV) (v:Value) (W:World):Prop:=∃k c,v=.slice (some ⟨k,0,none⟩) n c/\Q1q W U.heap.size ⟨some ⟨k,0,none⟩,n,c⟩ L
structure BxI (U:World) (b g:Nat) (p:Pl) (y:IvV) (r:List IvV) (q1 q2:Pl) (D:Nat->Bool) (vs:Nat->Value) (W:World):Prop where
 v:∀j c,D j=true->(bxC b g p y q1 q2)[j]?=some (some c)->vs j=c
 w:D 11=false->Bw U W
 w0:D 0=true->∃k,vs 0=.slice (some ⟨k,0,none⟩) 0 0
 w3:D 9=false->D 3=true->Qs7 U p.l (y::r) (vs 3) W
 w8:D 9=false->D 8=true->∃bl,vs 8=.slice (some ⟨bl,0,none⟩) 1 1/\bl<W.heap.size/\W.heap[bl]?=some (.cells (ivL q1 q2 y).toArray 44 (0,0))
 w9:D 9=true->D 11=false->Qs7 U (p.l+1) (y::r++[y]) (vs 9) W
 w11:D 11=true->∃u V,Qs7 U (p.l+1) (y::r++[y]) u V/\Bw U V/\W=V.setCell ⟨b,1,none⟩ u
section
variable {U:World} {b g:Nat} {p:Pl} {y:IvV} {r:List IvV} {q1 q2:Pl} {D:Nat->Bool} {vs:Nat->Value} {W:World}
theorem BxI.at_ {ops:Array Oper} {a:Act} (_h:BxI U b g p y r q1 q2 D (Q09 ops a) W) {j:Nat} {t:Tmp} (hj:(ops[j]?).bind (·.dst)=some t):a.eval (.tmp t)=Q09 ops a j:=Q5r hj rfl
theorem BxI.ev {ops:Array Oper} {a:Act} (_h:BxI U b g p y r q1 q2 D (Q09 ops a) W) {j:Nat} {t:Tmp} (hj:(ops[j]?).bind (·.dst)=some t):a.tmps[t]?.getD undef=Q09 ops a j:=Q0h hj rfl
theorem BxI.q (h:BxI U b g p y r q1 q2 D vs W) {k:Nat} {c:Value} (h0:k≠0) (h3:k≠3) (h8:k≠8) (h9:k≠9) (M8:k≠11) (hc:(bxC b g p y q1 q2)[k]?=some (some c)):BxI U b g p y r q1 q2 (Q1x D k) (Q24 vs k c) W:=by
 refine ⟨fun j c' hj m5=>?_,?_,?_,?_,?_,?_,?_⟩
 ·by_cases e:j=k
  ·subst e;rw[hc] at m5;injection m5 with m5;injection m5 with m5;rw[Q3z];exact m5
  ·rw[Q18 e];exact h.v j c' (by rwa[Q0i e] at hj) m5
 all_goals simp only[Q0i (Xah h0),Q0i (Xah h3),Q0i (Xah h8),Q0i (Xah h9),Q0i (Xah M8),Q18 (Xah h0),Q18 (Xah h3),Q18 (Xah h8),Q18 (Xah h9)]
 ·exact h.w
 ·exact h.w0
 ·exact h.w3
 ·exact h.w8
 ·exact h.w9
 ·exact h.w11
theorem BxI.vv (h:BxI U b g p y r q1 q2 D vs W) {k:Nat} (hk:(bxC b g p y q1 q2)[k]?=some none) (u:Value):∀j c,Q1x D k j=true->(bxC b g p y q1 q2)[j]?=some (some c)->Q24 vs k u j=c:=fun j c hj hc=>by
 by_cases e:j=k
 ·subst e;rw[hk] at hc;cases hc
 ·rw[Q18 e];exact h.v j c (by rwa[Q0i e] at hj) hc
theorem BxI.s0 (h:BxI U b g p y r q1 q2 D vs W) (d3:D 3=false) (d9:D 9=false) (d11:D 11=false):BxI U b g p y r q1 q2 (Q1x D 0) (Q24 vs 0 (.slice (some ⟨W.heap.size,0,none⟩) 0 0)) (W.alloc (.cells #[] 44)):=by
 have hb:=h.w d11;refine ⟨h.vv rfl _,fun _=>hb.alloc hb.size _,fun _=>⟨_,Q3z _ _ _⟩,fun _ h3=>?_,fun _ h8=>?_,fun h9 _=>?_,fun M8=>?_⟩
 ·rw[Q0i (by decide),d3] at h3;cases h3
 ·obtain ⟨bl,e,hl,hh⟩:=h.w8 d9 (by rwa[Q0i (by decide)] at h8);exact ⟨bl,by rw[Q18 (by decide)];exact e,by rw[Ur];omega,(((Ud W.heap.size W).alloc (Ue _) _).block bl hl).trans hh⟩
 ·rw[Q0i (by decide),d9] at h9;cases h9
 ·rw[Q0i (by decide),d11] at M8;cases M8
theorem BxI.s3 (h:BxI U b g p y r q1 q2 D vs W) (hS:Q1q U 0 p (y::r)) (hl:p.l<=1000) (hp:p.a=some ⟨g,0,none⟩) (d0:D 0=true) (d9:D 9=false) (d11:D 11=false) (ty:TypeId):
 ∃v W',(Builtin.append_ #[23,23] ty #[vs 0,.slice (some ⟨g,0,none⟩) p.l p.c]).run Tryz.prog W=.ok v W'/\BxI U b g p y r q1 q2 (Q1x D 3) (Q24 vs 3 v) W':=by
 have hb:=h.w d11;obtain ⟨k,e0⟩:=h.w0 d0;obtain ⟨k2,c,W',C2,hS',F3⟩:=Qwz (hS.step hb) k hl ty;rw[hp] at C2;rw[e0];refine ⟨_,W',C2,h.vv rfl _,fun _=>Below.next0 hb F3,fun _=>⟨k,by rw[Q18 (by decide)];exact e0⟩,fun _ _=>⟨k2,c,Q3z _ _ _,hS'.lower hb.size⟩,fun _ h8=>?_,fun h9 _=>?_,fun M8=>?_⟩
 ·obtain ⟨bl,e,hl,hh⟩:=h.w8 d9 (by rwa[Q0i (by decide)] at h8);exact ⟨bl,by rw[Q18 (by decide)];exact e,Uc hl F3.size,(F3.block bl hl).trans hh⟩
 ·rw[Q0i (by decide),d9] at h9;cases h9
 ·rw[Q0i (by decide),d11] at M8;cases M8
theorem BxI.s8 (h:BxI U b g p y r q1 q2 D vs W) (d9:D 9=false) (d11:D 11=false):BxI U b g p y r q1 q2 (Q1x D 8) (Q24 vs 8 (.slice (some ⟨W.heap.size,0,none⟩) 1 1)) (W.alloc (.cells (ivL q1 q2 y).toArray 44)):=by
 have hb:=h.w d11;have F3:=(Ud W.heap.size W).alloc (Ue _) (.cells (ivL q1 q2 y).toArray 44);refine ⟨h.vv rfl _,fun _=>hb.alloc hb.size _,fun h0=>?_,fun _ h3=>?_,fun _ _=>⟨_,Q3z _ _ _,Q0o _ _,Up _ _⟩,fun h9 _=>?_,fun M8=>?_⟩
 ·rw[Q18 (by decide)];exact h.w0 (by rwa[Q0i (by decide)] at h0)
 ·obtain ⟨k,c,e,hS⟩:=h.w3 d9 (by rwa[Q0i (by decide)] at h3);exact ⟨k,c,by rw[Q18 (by decide)];exact e,hS.step F3⟩
 ·rw[Q0i (by decide),d9] at h9;cases h9
 ·rw[Q0i (by decide),d11] at M8;cases M8
theorem BxI.s9 (h:BxI U b g p y r q1 q2 D vs W) (h1:Q0f U q1.a q1.l q1.c y.lo) (h2:Q0f U q2.a q2.l q2.c y.hi) (hl:p.l<=1000) (d3:D 3=true) (d8:D 8=true) (d9:D 9=false) (d11:D 11=false) (ty:TypeId):
 ∃v W',(Builtin.append_ #[23,23] ty #[vs 3,vs 8]).run Tryz.prog W=.ok v W'/\BxI U b g p y r q1 q2 (Q1x D 9) (Q24 vs 9 v) W':=by
 have hb:=h.w d11;obtain ⟨k,c,e3,hS⟩:=h.w3 d9 d3;obtain ⟨bl,e8,K4,B7⟩:=h.w8 d9 d8;obtain ⟨i0,S2,E2,O1,Y1⟩:=Q0z Qct;obtain ⟨xs,hr⟩:=hS.row;obtain ⟨k2,c',w',C2,K0,Z5,J2⟩:=Q16 (P:=Tryz.prog) NoU W 23 ty 44 i0 _ 6 80 Q4j S2 E2 O1 Y1 rfl Qm0 U.heap.size hb.size _ p.l c xs hr bl 1 1 (ivL q1 q2 y) rfl (Tz (cs:=(ivL q1 q2 y).toArray) B7) (by intro u hu;simp only[ivL,UD,TK,Xbm] at hu;rcases hu with rfl|rfl|rfl|rfl|rfl|rfl <;> rfl) (Qkg _ _ _) (by decide) (by omega) (by decide) (by decide);have JK:=hS.push hr Z5 J2 K0 (h1.step hb) (h2.step hb);rw[e3,e8];refine ⟨_,w',C2,h.vv rfl _,fun _=>?_,fun h0=>?_,fun h9=>?_,fun h9=>?_,fun _ _=>⟨k2,c',Q3z _ _ _,JK⟩,fun M8=>?_⟩
 ·exact hb.trans ⟨Z5.os,Z5.tape,Z5.output,Z5.size,fun z hz=>Z5.block z (Uc hz hb.size) (fun e=>by
   simp only[UG,Un] at e;have:=(hS.lt rfl).1;simp only at this;omega)⟩
 ·rw[Q18 (by decide)];exact h.w0 (by rwa[Q0i (by decide)] at h0)
 ·rw[Q27] at h9;cases h9
 ·rw[Q27] at h9;cases h9
 ·rw[Q0i (by decide),d11] at M8;cases M8
theorem BxI.s11 (h:BxI U b g p y r q1 q2 D vs W) (d9:D 9=true) (d11:D 11=false) (v:Value):BxI U b g p y r q1 q2 (Q1x D 11) (Q24 vs 11 v) (W.setCell ⟨b,1,none⟩ (vs 9)):=by
 refine ⟨h.vv rfl _,fun M8=>?_,fun h0=>?_,fun h9=>?_,fun h9=>?_,fun _ M8=>?_,fun _=>⟨_,W,h.w9 d9 d11,h.w d11,rfl⟩⟩
 ·rw[Q27] at M8;cases M8
 ·rw[Q18 (by decide)];exact h.w0 (by rwa[Q0i (by decide)] at h0)
 ·rw[Q0i (by decide),d9] at h9;cases h9
 ·rw[Q0i (by decide),d9] at h9;cases h9
 ·rw[Q27] at M8;cases M8
end
theorem Qur [LT ZK] [Nonempty (PLift Zz)] (R3:Nat) (hhow:R3<256) (a:OA) (n c:Nat) (ls:LN) (w:World) (P2:ls.length=n) (hn:n<=9223372036854775807) (R7:RdU w w.heap.size a ls) (hx:∀x∈ls,x<18446744073709551616):
 Calls Tryz.prog 15 #[.slice a n c,.int .u8 (R3:Int)] w fun e w'=>∃p x,e=.returned (.agg (Q2e p x).toArray)/\Q2j w' p x/\(R3=15->Q1h x)/\Bw w w':=by
 have hZ:=Blk.new w zpL 28;have Q0:Bw w (w.alloc (.cells zpL.toArray 28)):=Ba;have O2:=Q0o w (.cells zpL.toArray 28);obtain ⟨W0,M1⟩:∃W0,w.alloc (.cells zpL.toArray 28)=W0:=⟨_,rfl⟩;rw[M1] at hZ Q0 O2;have hrd0:=(RdI.below (K:=.u64) R7 Q0).more Q0.size;have VQ:=Qo3 a n c ls W0 P2 hn hrd0 hx;have H0:=Xh3 VQ hZ Q0;have JB:w.heap.size<W0.heap.size:=O2;clear VQ hZ Q0 O2 hrd0 R7 hx
 go_enter Tryz.func15,Tryz.ntmps15
 go_upto_region 1 with fail
 change Code.wp _ _ _ _ (w.alloc (.cells zpL.toArray 28))
 rw[M1];clear M1
 go_upto_region 3 with (first
  |(go_at_call 45
    refine (Qkr W0.heap.size q4 nd a4 c4 F4 w4 (Xo0 H4) (by omega) (Xo1 H4) (Xo2 H4) (fun x hx=>by have:=(Xo3 H4) x hx;omega)).mono ?_;rintro e w5 ⟨⟨p,x,rfl,hP,hR,Z9,Vr⟩,_,Vo⟩;have hZ5:=(Xo4 H4).same (Vo.block _ (Uc JB (Xe1 Jv)) (by omega));have P0:Bw w w5:=Below.turn (Xe5 H4) Vo (Xe5 H4).size (fun k e=>by omega);have hpn:∀y,p.f.a=some y->y.block≠w.heap.size:=fun y hy=>by rw[Z9.1] at hy;have:=(Xo3 H4) y hy;omega
    have hbF:∀y,p.f.a=some y->y.block<w4.heap.size:=fun y hy=>by rw[Z9.1] at hy;have hy:a4=some y:=hy;rcases (Xo1 H4).2.2.2 with h0|⟨g,o,h1,h2,_⟩;(have:=(Xo2 H4).1;rw[h0] at this;exact absurd this (by decide));(rw[h1] at hy;injection hy with hy;subst hy;exact h2)
    have HK:=Xh4 Vr Vo hbF Z9;have H5:=Xh6 hP hR hpn (Vr.lower (Uj JB (Xe1 Jv))) hZ5 P0;have KO:=Ua (Uj (Xe1 Jv) Vo.size);simp only[Q2e];clear hP hR Z9 Vr Vo hZ5 P0 hpn hbF)
  |(go_at_call 46
    refine (Qdj W0.heap.size 1 nd 4 5 w3 (Xo0 H3) (by decide) (Xo3 H3) (Xe4 H3) (by decide) (by decide)).mono ?_;rintro e w4 ⟨⟨a4,c4,F4,rfl,hF4,hr4,Jj,X9,q4,hd4,hq4⟩,XM⟩;have hbw4:Bw w w4:=Below.turn (Xo1 H3) XM (Xo1 H3).size (fun k e=>by omega);have hZ4:=(Xo2 H3).same (XM.block _ (Uc JB (Xe1 HS3)) (by omega));have F0:=(Xo0 H3).lt;have hq:q4<=80000:=(by have:=(Xe4 H3);omega);have H4:=Xh6 hd4 hF4 hr4 (fun x hx=>Uc F0 (X9 x hx)) hZ4 hbw4;have Jv:=Xh2 hq (Uj (Xe1 HS3) XM.size);clear hF4 hr4 Jj XM hbw4 X9 hd4 hq4 hZ4 F0)
  |(go_at_call 47
    refine (Qwe W0.heap.size 0 w2 (Xo0 H2) (by decide)).mono ?_;rintro e w3 ⟨⟨nd,E6,X9,rfl⟩,Jb,y6⟩;have hbw3:Bw w w3:=Below.turn (Xo1 H2) y6 (Xo1 H2).size (fun k e=>by omega);have hZ3:=(Xo2 H2).same (y6.block _ (Uc JB (Xe3 H2)) (by omega));have H3:=Xh5 Jb hbw3 hZ3 E6 X9;have HS3:=Xh2 trivial (Uj (Xe3 H2) y6.size);clear Jb y6 hbw3 E6 X9 hZ3)
  |(go_at_call 44
    refine (Xo0 H0).mono ?_;rintro e w2 ⟨rfl,Z2,D0⟩;have H2:=Xh4 Z2 (Below.next0 (Xe2 H0) D0) ((Xo1 H0).step D0 JB) D0.size;clear Z2 D0))
 have hC:=Blk.new w5 (Q2e p x) 28;have Q1:Bw w5 (w5.alloc (.cells (Q2e p x).toArray 28)):=Ba;have hz6:=(Xo4 H5).step Q1 (Uc JB KO.out);have hP6:=(Xo0 H5).step Q1;have hB6:=(Xo3 H5).step Q1;have N4:=Below.next0 (Xe5 H5) Q1;obtain ⟨W6,QY⟩:∃W6,w5.alloc (.cells (Q2e p x).toArray 28)=W6:=⟨_,rfl⟩;rw[QY] at hC Q1 hz6 hP6 hB6 N4;simp only[Q2e] at QY
 try rw[QY]
 obtain ⟨k0,k1,k2,k3,k4,k5,k6,k7,k8,k9,k10,k11,k12,k13⟩:=Q05 hC.c;obtain ⟨z0,z1,z2,z3,z4,z5,z6,z7,z8,z9,z10,z11,z12,z13⟩:=Q05 hz6.c;obtain ⟨f0,f1,f2,f3,f4,f5,f6,f7,f8,f9,f10,f11,f12,f13⟩:=Qkj hz6 (by decide);have HG:=Xh2 hC Q1;have H6:=Xh4 hz6 hP6 hB6 N4;clear QY hC Q1 hz6 hP6 hB6 N4
 go_upto_block 0 with fail
 go_cut [] (fun wx=>∃p' x',Qiq w wx w.heap.size w5.heap.size R3 p' x')
 case first=>
  clear z0 z1 z2 z3 z4 z5 z6 z7 z8 z9 z10 z11 z12 z13 f0 f1 f2 f3 f4 f5 f6 f7 f8 f9 f10 f11 f12 f13;obtain ⟨g0,g1,g2,g3,g4,g5,g6,g7,g8,g9,g10,g11,g12,g13⟩:=Qkj (Xo0 HG) (by simp[Q2e]);have h16:R3%16=0∨R3%16=1∨R3%16=2∨R3%16=3∨R3%16=4∨R3%16=5∨R3%16=6∨R3%16=7∨R3%16=8∨R3%16=9∨R3%16=10∨(R3%16=11∨R3%16=12∨R3%16=13∨R3%16=14∨R3%16=15):=by omega
  rcases h16 with h|h|h|h|h|h|h|h|h|h|h|h
  ·have h':(R3:Int)%16=0:=(by omega);have U9:R3≠15:=by omega
   go_wp2_with fail
   go_meet;have hb:=((Xe1 HG)).setCell (p:=⟨w5.heap.size,11,none⟩) (Ue _) (.int .i64 257);have hk:=((Xo0 HG)).set (i:=11) (by simp[Q2e]) (.int .i64 257);have hi:=(Xo0 H5).step hb;exact ⟨⟨p.f,p.b,p.t,p.m,p.e⟩,⟨x.field,x.box,x.til,x.most,x.least,257,x.order,x.budget⟩,hk.c,(Xo4 H5).step hb (Uc JB KO.out),⟨hi.f,hi.b,hi.t,hi.m,hi.e⟩,(Xo2 H5),fun y hy=>by have:=((Xo3 H5).lt hy).1;omega,fun e=>absurd e U9,Below.next0 (Xe5 H5) hb⟩
  ·have h':(R3:Int)%16=1:=(by omega);have U9:R3≠15:=by omega
   go_wp2_with fail
   go_meet;have hb:=((Xe1 HG)).setCell (p:=⟨w5.heap.size,11,none⟩) (Ue _) (.int .i64 8);have hk:=((Xo0 HG)).set (i:=11) (by simp[Q2e]) (.int .i64 8);have hi:=(Xo0 H5).step hb;exact ⟨⟨p.f,p.b,p.t,p.m,p.e⟩,⟨x.field,x.box,x.til,x.most,x.least,8,x.order,x.budget⟩,hk.c,(Xo4 H5).step hb (Uc JB KO.out),⟨hi.f,hi.b,hi.t,hi.m,hi.e⟩,(Xo2 H5),fun y hy=>by have:=((Xo3 H5).lt hy).1;omega,fun e=>absurd e U9,Below.next0 (Xe5 H5) hb⟩
  ·have h':(R3:Int)%16=2:=(by omega);have U9:R3≠15:=by omega
   go_wp2_with fail
   go_meet;have hb:=((Xe1 HG)).setCell (p:=⟨w5.heap.size,12,none⟩) (Ue _) (.int .i64 1);have hk:=((Xo0 HG)).set (i:=12) (by simp[Q2e]) (.int .i64 1);have hi:=(Xo0 H5).step hb;exact ⟨⟨p.f,p.b,p.t,p.m,p.e⟩,⟨x.field,x.box,x.til,x.most,x.least,x.prec,1,x.budget⟩,hk.c,(Xo4 H5).step hb (Uc JB KO.out),⟨hi.f,hi.b,hi.t,hi.m,hi.e⟩,(Xo2 H5),fun y hy=>by have:=((Xo3 H5).lt hy).1;omega,fun e=>absurd e U9,Below.next0 (Xe5 H5) hb⟩
  ·have h':(R3:Int)%16=3:=(by omega);have U9:R3≠15:=by omega
   go_wp2_with fail
   go_meet;have hb:=((Xe1 HG)).setCell (p:=⟨w5.heap.size,12,none⟩) (Ue _) (.int .i64 10);have hk:=((Xo0 HG)).set (i:=12) (by simp[Q2e]) (.int .i64 10);have hi:=(Xo0 H5).step hb;exact ⟨⟨p.f,p.b,p.t,p.m,p.e⟩,⟨x.field,x.box,x.til,x.most,x.least,x.prec,10,x.budget⟩,hk.c,(Xo4 H5).step hb (Uc JB KO.out),⟨hi.f,hi.b,hi.t,hi.m,hi.e⟩,(Xo2 H5),fun y hy=>by have:=((Xo3 H5).lt hy).1;omega,fun e=>absurd e U9,Below.next0 (Xe5 H5) hb⟩
  ·have h':(R3:Int)%16=4:=(by omega);have U9:R3≠15:=by omega
   go_wp2_with fail
   go_meet;have hb:=((Xe1 HG)).setCell (p:=⟨w5.heap.size,13,none⟩) (Ue _) (.int .i64 0);have hk:=((Xo0 HG)).set (i:=13) (by simp[Q2e]) (.int .i64 0);have hi:=(Xo0 H5).step hb;exact ⟨⟨p.f,p.b,p.t,p.m,p.e⟩,⟨x.field,x.box,x.til,x.most,x.least,x.prec,x.order,0⟩,hk.c,(Xo4 H5).step hb (Uc JB KO.out),⟨hi.f,hi.b,hi.t,hi.m,hi.e⟩,(Xo2 H5),fun y hy=>by have:=((Xo3 H5).lt hy).1;omega,fun e=>absurd e U9,Below.next0 (Xe5 H5) hb⟩
  ·have h':(R3:Int)%16=5:=(by omega);have U9:R3≠15:=by omega
   go_wp2_with fail
   go_meet;have hb:=((Xe1 HG)).setCell (p:=⟨w5.heap.size,13,none⟩) (Ue _) (.int .i64 (4096+(R3:Int) / 16%2));have hk:=((Xo0 HG)).set (i:=13) (by simp[Q2e]) (.int .i64 (4096+(R3:Int) / 16%2));have hi:=(Xo0 H5).step hb;exact ⟨⟨p.f,p.b,p.t,p.m,p.e⟩,⟨x.field,x.box,x.til,x.most,x.least,x.prec,x.order,4096+(R3:Int) / 16%2⟩,hk.c,(Xo4 H5).step hb (Uc JB KO.out),⟨hi.f,hi.b,hi.t,hi.m,hi.e⟩,(Xo2 H5),fun y hy=>by have:=((Xo3 H5).lt hy).1;omega,fun e=>absurd e U9,Below.next0 (Xe5 H5) hb⟩
  ·have h':(R3:Int)%16=6:=(by omega);have U9:R3≠15:=by omega
   go_wp2_with fail
   go_meet;have hb:=((Xe1 HG)).setCell (p:=⟨w5.heap.size,2,none⟩) (Ue _) (.bool true);have hk:=((Xo0 HG)).set (i:=2) (by simp[Q2e]) (.bool true);have hi:=(Xo0 H5).step hb;exact ⟨⟨p.f,p.b,p.t,p.m,p.e⟩,⟨x.field,x.box,⟨true,x.til.exp,x.til.ws⟩,x.most,x.least,x.prec,x.order,x.budget⟩,hk.c,(Xo4 H5).step hb (Uc JB KO.out),⟨hi.f,hi.b,⟨hi.t.lie,hi.t.lo,hi.t.hi⟩,hi.m,hi.e⟩,(Xo2 H5),fun y hy=>by have:=((Xo3 H5).lt hy).1;omega,fun e=>absurd e U9,Below.next0 (Xe5 H5) hb⟩
  ·have h':(R3:Int)%16=7:=(by omega);have U9:R3≠15:=by omega
   go_wp2_with fail
   go_meet;have hb:=(((((((Xe1 HG)).setCell (p:=⟨w5.heap.size,8,none⟩) (Ue _) (.bool x.most.neg)).setCell (p:=⟨w5.heap.size,9,none⟩) (Ue _) (.int .i64 x.most.exp)).setCell (p:=⟨w5.heap.size,10,none⟩) (Ue _) (.slice p.m.a p.m.l p.m.c)).setCell (p:=⟨w5.heap.size,5,none⟩) (Ue _) (.bool x.least.neg)).setCell (p:=⟨w5.heap.size,6,none⟩) (Ue _) (.int .i64 x.least.exp)).setCell (p:=⟨w5.heap.size,7,none⟩) (Ue _) (.slice p.e.a p.e.l p.e.c);have hk:=(((((((Xo0 HG)).set (i:=8) (by simp[Q2e]) (.bool x.most.neg)).set (i:=9) (by simp[Q2e]) (.int .i64 x.most.exp)).set (i:=10) (by simp[Q2e]) (.slice p.m.a p.m.l p.m.c)).set (i:=5) (by simp[Q2e]) (.bool x.least.neg)).set (i:=6) (by simp[Q2e]) (.int .i64 x.least.exp)).set (i:=7) (by simp[Q2e]) (.slice p.e.a p.e.l p.e.c);have hi:=(Xo0 H5).step hb;exact ⟨⟨p.f,p.b,p.t,p.e,p.m⟩,⟨x.field,x.box,x.til,x.least,x.most,x.prec,x.order,x.budget⟩,hk.c,(Xo4 H5).step hb (Uc JB KO.out),⟨hi.f,hi.b,hi.t,hi.e,hi.m⟩,(Xo2 H5),fun y hy=>by have:=((Xo3 H5).lt hy).1;omega,fun e=>absurd e U9,Below.next0 (Xe5 H5) hb⟩
  ·have h':(R3:Int)%16=8:=(by omega);have U9:R3≠15:=by omega
   go_wp2_with fail
   go_meet;have hb:=((((Xe1 HG)).setCell (p:=⟨w5.heap.size,8,none⟩) (Ue _) (.bool false)).setCell (p:=⟨w5.heap.size,9,none⟩) (Ue _) (.int .i64 0)).setCell (p:=⟨w5.heap.size,10,none⟩) (Ue _) (.slice none 0 0);have hk:=((((Xo0 HG)).set (i:=8) (by simp[Q2e]) (.bool false)).set (i:=9) (by simp[Q2e]) (.int .i64 0)).set (i:=10) (by simp[Q2e]) (.slice none 0 0);have hi:=(Xo0 H5).step hb;exact ⟨⟨p.f,p.b,p.t,p.m,⟨none,0,0⟩⟩,⟨x.field,x.box,x.til,x.most,⟨false,0,[]⟩,x.prec,x.order,x.budget⟩,hk.c,(Xo4 H5).step hb (Uc JB KO.out),⟨hi.f,hi.b,hi.t,hi.m,⟨WordsIn.nil_ _,show (-9223372036854775808:Int)<=0 by decide,show (0:Int)<=9223372036854775807 by decide⟩⟩,(Xo2 H5),fun y hy=>by have:=((Xo3 H5).lt hy).1;omega,fun e=>absurd e U9,Below.next0 (Xe5 H5) hb⟩
  ·have h':(R3:Int)%16=9:=(by omega);have U9:R3≠15:=(by omega);obtain ⟨y,r,YB⟩:∃y r,x.box=y::r:=by
    have:=(Xo1 H5).box.1;cases hx:x.box with
    |nil=>rw[hx] at this;exact absurd this (by decide)
    |cons y r=>exact ⟨y,r,rfl⟩
   have hS:=(Xo0 HK);rw[YB] at hS;have hS6:=hS.step (Xe1 HG);obtain ⟨g,ga,gl,gc,gb,gm,gd,Z9,O5,Q2,⟨q0,q1,q2,q3,q4,q5⟩,n6,n7,JL⟩:=hS6.head;have Z8:g<w5.heap.size:=(hS.lt Z9).2;have P2:0<p.b.l:=(by rw[<-hS.len];exact Nat.succ_pos _);have HB:=Xh5 YB hS6 Z9 n6 n7;have E2:=JL 0 (by decide);have O1:=JL 1 (by decide);have Y1:=JL 2 (by decide);have Jf:=JL 3 (by decide);have YJ:=JL 4 (by decide);have hz5:=JL 5 (by decide);rw[Z9] at k1;have YD:g≠w5.heap.size:=Nat.ne_of_lt Z8;clear YB hS hS6 Z9 n6 n7 JL
   go_upto_region 23 with fail
   go_region
   go_wp2_with fail
   go_meet;generalize hW7:((((((W6.setCell ⟨g,0,none⟩ (.bool y.hi.neg)).setCell ⟨g,1,none⟩ (.int .i64 y.hi.exp)).setCell ⟨g,2,none⟩ (.slice gb gm gd)).setCell ⟨g,3,none⟩ (.bool y.lo.neg)).setCell ⟨g,4,none⟩ (.int .i64 y.lo.exp)).setCell ⟨g,5,none⟩ (.slice ga gl gc)).drew=W7;obtain ⟨ht,hc,r0,r1,r2,r3,r4,r5⟩:=Qyo q0 q1 q2 q3 q4 q5 (.bool y.hi.neg) (.int .i64 y.hi.exp) (.slice gb gm gd) (.bool y.lo.neg) (.int .i64 y.lo.exp) (.slice ga gl gc) hW7;obtain ⟨K1,JK⟩:=Qup (Xo1 HB) (Xo2 HB) ht hc (Xo3 HB) (Xe4 HB) r0 r1 r2 r3 r4 r5;have hf:=(Xo1 H4).turnE (Xo0 H4) (((Xo1 HK).trans0 (Q0l.of_below (Xe1 HG) _)).trans ht (fun k h1 h2=>by omega)) (fun z hz=>by have:=(Xo3 H4) z hz;omega);have hi:=(Xo1 H6);have Xs:w.heap.size<w4.heap.size:=Uc JB (Xe1 Jv);exact ⟨p,⟨x.field,⟨y.hi,y.lo⟩::r,x.til,x.most,x.least,x.prec,x.order,x.budget⟩,((Xo0 HG).same (ht.block _ (by have:=(Xo0 HG).lt;exact this) (by omega))).c,(Xo0 H6).same (ht.block _ (by omega) (by omega)),⟨by rw[(Xo3 HK),(Xe4 HK)];exact hf,JK,K1 _ _ _ _ hi.t,K1 _ _ _ _ hi.m,K1 _ _ _ _ hi.e⟩,(Xo2 H5),fun z hz=>by have:=((Xo3 H5).lt hz).1;omega,fun e=>absurd e U9,Below.turn (Xe3 H6) ht (by omega) (fun k hk=>by omega)⟩
  ·have h':(R3:Int)%16=10:=(by omega);have U9:R3≠15:=(by omega);obtain ⟨y,r,YB⟩:∃y r,x.box=y::r:=by
    have:=(Xo1 H5).box.1;cases hx:x.box with
    |nil=>rw[hx] at this;exact absurd this (by decide)
    |cons y r=>exact ⟨y,r,rfl⟩
   have hS:=(Xo0 HK);rw[YB] at hS;have hS6:=hS.step (Xe1 HG);obtain ⟨g,ga,gl,gc,gb,gm,gd,Z9,O5,Q2,hq,n6,n7,_⟩:=hS6.head;have P2:(0:Int)<(p.b.l:Int):=(by have:=hS.len;simp only[Ul] at this;omega);have Jj:p.b.l<=1000:=(by have h4:=(Xo1 H5).box.2.1;rw[YB,hS.len] at h4;omega);have HE:=Ua (fun W (hW:Bw W6 W)=>And.intro ((Xo0 HG).step hW (by have:=(Xo0 HG).lt;exact this)) (fun i v (hv:W6.cell? ⟨g,i,none⟩=some v)=>(hW.cell (p:=⟨g,i,none⟩) Q2).trans hv));have HB:=Xh7 (hS6.lower (Uv _)) Z9 n6 n7 YB hq Jj;rw[Z9] at k1;clear YB hS hS6 Z9 n6 n7 hq Jj
   go_upto_region 25 with fail
   refine Q2i (by kernel_rfl) (fun D V W=>BxI W6 w5.heap.size g p.b y r ⟨ga,gl,gc⟩ ⟨gb,gm,gd⟩ D V W) ?_ (by kernel_rfl) ?_ ?_ ?_
   ·rintro i o hi hd D V v W h;have hi11:i=11:=(by have:=Q9f (x:=11) (y:=11) (by kernel_rfl) hi hd;omega);subst hi11;refine ⟨fun j c hj hc=>?_,h.w,fun h1=>?_,fun h1 h2=>?_,fun h1 h2=>?_,fun h1 h2=>?_,h.w11⟩
    ·by_cases e:j=11
     ·subst e;simp[bxC] at hc
     ·have:=h.v j c hj hc;rwa[Q18 e] at this
    ·have:=h.w0 h1;rwa[Q18 (by decide)] at this
    ·have:=h.w3 h1 h2;rwa[Q18 (by decide)] at this
    ·have:=h.w8 h1 h2;rwa[Q18 (by decide)] at this
    ·have:=h.w9 h1 h2;rwa[Q18 (by decide)] at this
   ·intro V;exact ⟨fun j c hj=>(by cases hj),fun _=>Q04 W6,fun h=>(by cases h),fun _ h=>(by cases h),fun _ h=>(by cases h),fun h=>(by cases h),fun h=>(by cases h)⟩
   ·refine ⟨fun A W D hI E0 hk A0 F1=>?_,?_⟩
    ·have d3:D 3=false:=Q0y F1 (j:=3) rfl (k:=0) (by decide) hk;have d9:D 9=false:=Q0y F1 (j:=9) rfl (k:=3) (by decide) d3;have d11:D 11=false:=Q0y F1 (j:=11) rfl (k:=9) (by decide) d9;exact Q0u (w':=W.alloc (.cells #[] 44)) (u:=.slice (some ⟨W.heap.size,0,none⟩) 0 0) rfl (Q48 23 0 #[] (by rfl) (parts':= #[]) (by simp) (Qob W)) (hI.s0 d3 d9 d11)
    refine ⟨fun A W D hI E0 hk A0 F1=>?_,?_⟩
    ·have e0:=Q07 E0 6 (by kernel_rfl) rfl;exact Q0u (u:=.pointer (some ⟨w5.heap.size,1,none⟩)) rfl (by simp[go_sem,e0]) (hI.q (by decide) (by decide) (by decide) (by decide) (by decide) rfl)
    refine ⟨fun A W D hI E0 hk A0 F1=>?_,?_⟩
    ·have e0:=Q0h (j:=1) (t:=79) rfl (hI.v 1 _ (A0 1 (by decide)) rfl);have d3:D 3=false:=Q0y F1 (j:=3) rfl (k:=2) (by decide) hk;have d9:D 9=false:=Q0y F1 (j:=9) rfl (k:=3) (by decide) d3;have d11:D 11=false:=Q0y F1 (j:=11) rfl (k:=9) (by decide) d9;have c1:=(HE.out W (hI.w d11)).1.c 1 _ rfl;rw[(Xo1 HB)] at c1;exact Q0u (u:=.slice (some ⟨g,0,none⟩) p.b.l p.b.c) rfl (by simp[go_sem,e0,c1]) (hI.q (by decide) (by decide) (by decide) (by decide) (by decide) rfl)
    refine ⟨fun A W D hI E0 hk A0 F1=>?_,?_⟩
    ·have e2:=Q5r (j:=2) (t:=80) rfl (hI.v 2 _ (A0 2 (by decide)) rfl);have e0:=hI.at_ (j:=0) (t:=78) rfl;have d9:D 9=false:=Q0y F1 (j:=9) rfl (k:=3) (by decide) hk;have d11:D 11=false:=Q0y F1 (j:=11) rfl (k:=9) (by decide) d9;obtain ⟨v,W',C2,x4⟩:=hI.s3 (Xo0 HB) (Xe6 HB) (Xo1 HB) (A0 0 (by decide)) d9 d11 23;exact Q0u (w':=W') (u:=v) rfl (Q47 (.tmp 78) (.tmp 80) 23 23 (by rfl) e0 e2 C2) x4
    refine ⟨fun A W D hI E0 hk A0 F1=>?_,?_⟩
    ·have e0:=Q07 E0 6 (by kernel_rfl) rfl;exact Q0u (u:=.pointer (some ⟨w5.heap.size,1,none⟩)) rfl (by simp[go_sem,e0]) (hI.q (by decide) (by decide) (by decide) (by decide) (by decide) rfl)
    refine ⟨fun A W D hI E0 hk A0 F1=>?_,?_⟩
    ·have e0:=Q0h (j:=4) (t:=82) rfl (hI.v 4 _ (A0 4 (by decide)) rfl);have d6:D 6=false:=Q0y F1 (j:=6) rfl (k:=5) (by decide) hk;have d7:D 7=false:=Q0y F1 (j:=7) rfl (k:=6) (by decide) d6;have d8:D 8=false:=Q0y F1 (j:=8) rfl (k:=7) (by decide) d7;have d9:D 9=false:=Q0y F1 (j:=9) rfl (k:=8) (by decide) d8;have d11:D 11=false:=Q0y F1 (j:=11) rfl (k:=9) (by decide) d9;have c1:=(HE.out W (hI.w d11)).1.c 1 _ rfl;rw[(Xo1 HB)] at c1;exact Q0u (u:=.slice (some ⟨g,0,none⟩) p.b.l p.b.c) rfl (by simp[go_sem,e0,c1]) (hI.q (by decide) (by decide) (by decide) (by decide) (by decide) rfl)
    refine ⟨fun A W D hI E0 hk A0 F1=>?_,?_⟩
    ·have e0:=Q0h (j:=5) (t:=83) rfl (hI.v 5 _ (A0 5 (by decide)) rfl);exact Q0u (u:=.pointer (some ⟨g,0,none⟩)) rfl (by simp[go_sem,e0,show¬(p.b.l=0) by omega]) (hI.q (by decide) (by decide) (by decide) (by decide) (by decide) rfl)
    refine ⟨fun A W D hI E0 hk A0 F1=>?_,?_⟩
    ·have e0:=Q0h (j:=6) (t:=84) rfl (hI.v 6 _ (A0 6 (by decide)) rfl);have d8:D 8=false:=Q0y F1 (j:=8) rfl (k:=7) (by decide) hk;have d9:D 9=false:=Q0y F1 (j:=9) rfl (k:=8) (by decide) d8;have d11:D 11=false:=Q0y F1 (j:=11) rfl (k:=9) (by decide) d9;have hc:=(HE.out W (hI.w d11)).2;obtain ⟨q0,q1,q2,q3,q4,q5⟩:=(Xo5 HB);have q0:=hc _ _ q0;have q1:=hc _ _ q1;have q2:=hc _ _ q2;have q3:=hc _ _ q3;have q4:=hc _ _ q4;have q5:=hc _ _ q5;exact Q0u (u:=.agg #[.bool y.lo.neg,.int .i64 y.lo.exp,.slice ga gl gc,.bool y.hi.neg,.int .i64 y.hi.exp,.slice gb gm gd]) rfl (by simp[go_sem,e0,q0,q1,q2,q3,q4,q5]) (hI.q (by decide) (by decide) (by decide) (by decide) (by decide) rfl)
    refine ⟨fun A W D hI E0 hk A0 F1=>?_,?_⟩
    ·have e0:A.eval (.tmp 85)=.agg #[.bool y.lo.neg,.int .i64 y.lo.exp,.slice ga gl gc,.bool y.hi.neg,.int .i64 y.hi.exp,.slice gb gm gd]:=Q5r (j:=7) (t:=85) rfl (hI.v 7 _ (A0 7 (by decide)) rfl);have d9:D 9=false:=Q0y F1 (j:=9) rfl (k:=8) (by decide) hk;have d11:D 11=false:=Q0y F1 (j:=11) rfl (k:=9) (by decide) d9;exact Q0u (w':=W.alloc (.cells (ivL ⟨ga,gl,gc⟩ ⟨gb,gm,gd⟩ y).toArray 44)) (u:=.slice (some ⟨W.heap.size,0,none⟩) 1 1) rfl (Q48 23 1 #[(0,.tmp 85)] (by rfl) (parts':= #[(0,.agg #[.bool y.lo.neg,.int .i64 y.lo.exp,.slice ga gl gc,.bool y.hi.neg,.int .i64 y.hi.exp,.slice gb gm gd])]) (by simp[e0]) (Qia W _ _ _ _ _ _)) (hI.s8 d9 d11)
    refine ⟨fun A W D hI E0 hk A0 F1=>?_,?_⟩
    ·have e3:=hI.at_ (j:=3) (t:=81) rfl;have e8:=hI.at_ (j:=8) (t:=86) rfl;have d11:D 11=false:=Q0y F1 (j:=11) rfl (k:=9) (by decide) hk;obtain ⟨v,W',C2,x4⟩:=hI.s9 (Xo2 HB) (Xo3 HB) (Xe6 HB) (A0 3 (by decide)) (A0 8 (by decide)) hk d11 23;exact Q0u (w':=W') (u:=v) rfl (Q47 (.tmp 81) (.tmp 86) 23 23 (by rfl) e3 e8 C2) x4
    refine ⟨fun A W D hI E0 hk A0 F1=>?_,?_⟩
    ·have e0:=Q07 E0 6 (by kernel_rfl) rfl;exact Q0u (u:=.pointer (some ⟨w5.heap.size,1,none⟩)) rfl (by simp[go_sem,e0]) (hI.q (by decide) (by decide) (by decide) (by decide) (by decide) rfl)
    refine ⟨fun A W D hI E0 hk A0 F1=>?_,trivial⟩
    ·have e0:=Q0h (j:=10) (t:=88) rfl (hI.v 10 _ (A0 10 (by decide)) rfl);obtain ⟨k9,c9,h9,hS9⟩:=hI.w9 (A0 9 (by decide)) hk;have e9:=(hI.ev (j:=9) (t:=87) rfl).trans h9;have N4:=(HE.out W (hI.w hk)).1;have u0:=N4.c 1 _ rfl;have f0:=N4.f 1 (by simp[Q2e]);have hn:=hI.s11 (A0 9 (by decide)) hk undef;rw[h9] at hn;exact Q87 (w':=W.setCell ⟨w5.heap.size,1,none⟩ (.slice (some ⟨k9,0,none⟩) (p.b.l+1) c9)) rfl (by simp[go_sem,e0,e9,u0,f0]) hn
   ·intro D vs W hD hI;obtain ⟨u9,V9,⟨k9,c9,hu9,hS9⟩,hV9,hW9⟩:=hI.w11 (hD 11 (by decide));subst hu9;have S5:=HE.out V9 hV9;have P0:=Below.next0 (Xe1 HG) hV9;have hb:=P0.setCell (p:=⟨w5.heap.size,1,none⟩) (Ue _) (.slice (some ⟨k9,0,none⟩) (p.b.l+1) c9);have hk:=S5.1.set (i:=1) (by simp[Q2e]) (.slice (some ⟨k9,0,none⟩) (p.b.l+1) c9);have hS:=hS9.set (i:=1) S5.1 (by simp[Q2e]) (Quq p x) (fun z hz=>by have:=(hS9.lt hz).1;have:=(Xo0 HG).lt;omega) (.slice (some ⟨k9,0,none⟩) (p.b.l+1) c9);rw[<-hW9] at hb hk hS;have hi:=(Xo0 H5).step hb;have hA:Qiq w W w.heap.size w5.heap.size R3 ⟨p.f,⟨some ⟨k9,0,none⟩,p.b.l+1,c9⟩,p.t,p.m,p.e⟩ ⟨x.field,y::r++[y],x.til,x.most,x.least,x.prec,x.order,x.budget⟩:=⟨hk.c,(Xo4 H5).step hb (Uc JB KO.out),⟨hi.f,hS.boxIn,hi.t,hi.m,hi.e⟩,(Xo2 H5),fun z hz=>by have:=(hS.lt hz).1;have:=(Xo0 HG).lt;have:=KO.out;omega,fun e=>absurd e U9,Below.next0 (Xe5 H5) hb⟩;have HA:=Ua hA;clear hA hi hS hk hb P0 S5 hW9 hV9 hS9 hI hD;simp only[Q0t,Act.put,Um,Ux,Ut]
    go_wp2_with fail
    go_meet;exact ⟨_,_,HA.out⟩
  ·have h':(R3:Int)%16=11∨(R3:Int)%16=12∨(R3:Int)%16=13∨(R3:Int)%16=14∨(R3:Int)%16=15:=(by omega);have hS:Qiq w W6 w.heap.size w5.heap.size R3 p x:=⟨(Xo0 HG).c,(Xo0 H6),(Xo1 H6),(Xo2 H5),fun y hy=>by have:=((Xo3 H5).lt hy).1;omega,fun _=>(Xo1 H5),(Xe3 H6)⟩;have HS:=Ua hS;clear hS h;rcases h' with h'|h'|h'|h'|h'
   all_goals
    go_wp2_with fail
    go_meet;exact ⟨p,x,HS.out⟩
 case rest=>
  obtain ⟨p',x',hS⟩:=hcut;obtain ⟨k0,k1,k2,k3,k4,k5,k6,k7,k8,k9,k10,k11,k12,k13⟩:=Q05 hS.c;obtain ⟨z0,z1,z2,z3,z4,z5,z6,z7,z8,z9,z10,z11,z12,z13⟩:=Q05 hS.z.c;obtain ⟨f0,f1,f2,f3,f4,f5,f6,f7,f8,f9,f10,f11,f12,f13⟩:=Qkj hS.z (by decide);have HS:=Ua hS;clear hS
  go_wp2_with fail
  obtain ⟨V,WP,hV,hPV,hbV⟩:=HS.out.fin;unfold Qfu at WP;subst WP;obtain ⟨c0,c1,c2,c3,c4,c5,c6,c7,c8,c9,c10,c11,c12,c13⟩:=Q05 hV;refine ⟨rfl,.agg (Q2e p' x').toArray,by simp[results,go_sem,Q2e,c0,c1,c2,c3,c4,c5,c6,c7,c8,c9,c10,c11,c12,c13],p',x',rfl,hPV,HS.out.r,hbV⟩
theorem Qaz [LT ZK] [Nonempty (PLift Zz)] (a:OA) (n c:Nat) (ls:LN) (R3:Nat) (w:World) (P2:ls.length=n) (hn:n<=9223372036854775807) (R7:RdU w w.heap.size a ls) (hx:∀x∈ls,x<18446744073709551616) (hhow:R3<256) (hl:Qud w):
 Calls Tryz.prog 4 #[.slice a n c,.int .u8 (R3:Int)] w fun e w'=>e=.returned (.bool true)/\Bw w w':=by
 have hk:=Qro w hl;have HL:=Ua (fun W (hb:Bw w W)=>hl.below hb);have HS:=Ua (fun (k:Nat) (hk:k<256) W (hb:Bw w W)=>Qur k hk a n c ls W P2 hn ((RdI.below (K:=.u64) R7 hb).more hb.size) hx);have HK:=Ua hk;clear hk hl R7 hx
 go_enter Tryz.func4,Tryz.ntmps4
 go_upto_region 4 with (first
  |(go_at_call_of 15 (Value.int IntKind.u8 15)
    refine (HS.out 15 (by decide) w2 (Xe2 H2)).mono ?_;rintro e w3 ⟨q,y,rfl,hQ3,G8,M0⟩;have H3:=Xh4 ((Xo0 H2).step M0) hQ3 (G8 rfl) (Below.next0 (Xe2 H2) M0);simp only[Q2e];clear hQ3 G8 M0)
  |(go_at_call_of 15 (Value.int IntKind.u8 (R3:Int))
    refine (HS.out R3 hhow w1 H1.out).mono ?_;rintro e w2 ⟨p,x,rfl,hP2,Ja,D0⟩;have H2:=Xh3 hP2 Ja (Below.next0 H1.out D0);simp only[Q2e];clear hP2 Ja D0)
  |(go_at_call 7;refine HK.out.mono ?_;rintro e w1 ⟨rfl,C0⟩;have H1:=Ua C0;clear C0))
 obtain ⟨s,hs⟩:=Qoa p x w3 (Xo0 H3) (HL.out w3 (Xe3 H3)).tz (HL.out w3 (Xe3 H3)).pow;obtain ⟨rb,hrb⟩:∃b,yesB (Q1h x)=b:=⟨_,rfl⟩;obtain ⟨sb,Xd⟩:∃b,yesB (x=y)=b:=⟨_,rfl⟩;have hH:=fun V (hV:Bw w3 V)=>have g1:=(Xo0 H3).step hV;have g2:=(Xo1 H3).step hV;And.intro (yn1 (Q34 p x V g1) hrb) (And.intro (hrb ▸ Q4p p x V g1) (And.intro (yn1 (Qao x y p q V g1 g2) Xd) (And.intro (yn1 (Qd4 x y p q V g1 g2) Xd) (And.intro (yn1 (Q34 q y V g2) (Q0c.2 (Xo2 H3))) (hs V hV)))));have HZ:=Ua (Xe3 H3);obtain ⟨⟨pfa,pfl,pfc⟩,⟨pba,pbl,pbc⟩,⟨pta,ptl,ptc⟩,⟨pma,pml,pmc⟩,⟨pea,pel,pec⟩⟩:=p;obtain ⟨⟨qfa,qfl,qfc⟩,⟨qba,qbl,qbc⟩,⟨qta,qtl,qtc⟩,⟨qma,qml,qmc⟩,⟨qea,qel,qec⟩⟩:=q;obtain ⟨F,B,⟨tn,te,ts⟩,⟨mn,me,ms⟩,⟨en,ee,es⟩,prec,order,budget⟩:=x;obtain ⟨G,D,⟨un,ue,us⟩,⟨nn,ne,ns⟩,⟨fn,fe,fs⟩,prec2,order2,budget2⟩:=y;simp only[Q2e] at hH⊢;clear H1 H2 H3 HS HK HL hs hrb Xd;obtain ⟨W0,M1⟩:∃W0,(w3.alloc (.cells #[.slice pfa pfl pfc,.slice pba pbl pbc,.bool tn,.int .i64 te,.slice pta ptl ptc,.bool mn,.int .i64 me,.slice pma pml pmc,.bool en,.int .i64 ee,.slice pea pel pec,.int .i64 prec,.int .i64 order,.int .i64 budget] 28)).alloc (.cells #[.slice qfa qfl qfc,.slice qba qbl qbc,.bool un,.int .i64 ue,.slice qta qtl qtc,.bool nn,.int .i64 ne,.slice qma qml qmc,.bool fn,.int .i64 fe,.slice qea qel qec,.int .i64 prec2,.int .i64 order2,.int .i64 budget2] 28)=W0:=⟨_,rfl⟩;obtain ⟨hX,hY,Q0,F2⟩:=Q7o [.slice pfa pfl pfc,.slice pba pbl pbc,.bool tn,.int .i64 te,.slice pta ptl ptc,.bool mn,.int .i64 me,.slice pma pml pmc,.bool en,.int .i64 ee,.slice pea pel pec,.int .i64 prec,.int .i64 order,.int .i64 budget] [.slice qfa qfl qfc,.slice qba qbl qbc,.bool un,.int .i64 ue,.slice qta qtl qtc,.bool nn,.int .i64 ne,.slice qma qml qmc,.bool fn,.int .i64 fe,.slice qea qel qec,.int .i64 prec2,.int .i64 order2,.int .i64 budget2] 28 M1;have HC:=Ua (fun V (hV:Bw W0 V)=>have hb:=Below.next0 Q0 hV;And.intro (hX.step hV (by omega)) (And.intro (hY.step hV (by omega)) (hH V hb)));have Wj:=Ua (Below.next0 HZ.out Q0);clear hX hY Q0 F2 hH HZ;rw[M1];clear M1;refine Q06 (E:=Q7l) (fun _=>Ud _ _) (by kernel_rfl) (fun W=>Bw W0 W) (fun _ _ h h'=>Below.next0 h h') (Q3q [.agg #[.slice pfa pfl pfc,.slice pba pbl pbc,.bool tn,.int .i64 te,.slice pta ptl ptc,.bool mn,.int .i64 me,.slice pma pml pmc,.bool en,.int .i64 ee,.slice pea pel pec,.int .i64 prec,.int .i64 order,.int .i64 budget],.bool rb,.agg #[.slice pfa pfl pfc,.slice pba pbl pbc,.bool tn,.int .i64 te,.slice pta ptl ptc,.bool mn,.int .i64 me,.slice pma pml pmc,.bool en,.int .i64 ee,.slice pea pel pec,.int .i64 prec,.int .i64 order,.int .i64 budget],.bool rb,.bool true,.bool true,.agg #[.slice pfa pfl pfc,.slice pba pbl pbc,.bool tn,.int .i64 te,.slice pta ptl ptc,.bool mn,.int .i64 me,.slice pma pml pmc,.bool en,.int .i64 ee,.slice pea pel pec,.int .i64 prec,.int .i64 order,.int .i64 budget],.string s,.agg #[.slice pfa pfl pfc,.slice pba pbl pbc,.bool tn,.int .i64 te,.slice pta ptl ptc,.bool mn,.int .i64 me,.slice pma pml pmc,.bool en,.int .i64 ee,.slice pea pel pec,.int .i64 prec,.int .i64 order,.int .i64 budget],.string s,.bool true,.bool true,.bool true,.agg #[.slice pfa pfl pfc,.slice pba pbl pbc,.bool tn,.int .i64 te,.slice pta ptl ptc,.bool mn,.int .i64 me,.slice pma pml pmc,.bool en,.int .i64 ee,.slice pea pel pec,.int .i64 prec,.int .i64 order,.int .i64 budget],.agg #[.slice qfa qfl qfc,.slice qba qbl qbc,.bool un,.int .i64 ue,.slice qta qtl qtc,.bool nn,.int .i64 ne,.slice qma qml qmc,.bool fn,.int .i64 fe,.slice qea qel qec,.int .i64 prec2,.int .i64 order2,.int .i64 budget2],.bool sb,.agg #[.slice pfa pfl pfc,.slice pba pbl pbc,.bool tn,.int .i64 te,.slice pta ptl ptc,.bool mn,.int .i64 me,.slice pma pml pmc,.bool en,.int .i64 ee,.slice pea pel pec,.int .i64 prec,.int .i64 order,.int .i64 budget],.agg #[.slice qfa qfl qfc,.slice qba qbl qbc,.bool un,.int .i64 ue,.slice qta qtl qtc,.bool nn,.int .i64 ne,.slice qma qml qmc,.bool fn,.int .i64 fe,.slice qea qel qec,.int .i64 prec2,.int .i64 order2,.int .i64 budget2],.bool sb,.bool true,.bool true,.bool true,.agg #[.slice qfa qfl qfc,.slice qba qbl qbc,.bool un,.int .i64 ue,.slice qta qtl qtc,.bool nn,.int .i64 ne,.slice qma qml qmc,.bool fn,.int .i64 fe,.slice qea qel qec,.int .i64 prec2,.int .i64 order2,.int .i64 budget2],.bool true,.bool true,.bool true] (Q13 [])) (Q08 (Q0e ((fun p hp=>by cases hp)))) (Q15 (by kernel_rfl)) (by kernel_rfl) (Q04 W0) ?_ ?_
 ·skip
  repeat' (first|exact Q83|refine Q82 ?_ ?_)
  all_goals
   refine Q1p rfl fun A W hW E0 hd hd=>?_;simp[Q72,Region.binds,Q13] at hd;have e5:=Q07 E0 5 (by kernel_rfl) rfl;have e6:=Q07 E0 6 (by kernel_rfl) rfl;obtain ⟨Ji,P6,c1,c2,c3,c4,c5,c6,c7⟩:=HC.out W hW;obtain ⟨k0,k1,k2,k3,k4,k5,k6,k7,k8,k9,k10,k11,k12,k13⟩:=Q05 Ji;obtain ⟨l0,l1,l2,l3,l4,l5,l6,l7,l8,l9,l10,l11,l12,l13⟩:=Q05 P6
   first
   |(refine Q12 rfl rfl ?_;simp[go_sem,hd,e5,e6,k0,k1,k2,k3,k4,k5,k6,k7,k8,k9,k10,k11,k12,k13,l0,l1,l2,l3,l4,l5,l6,l7,l8,l9,l10,l11,l12,l13];done)
   |(refine Q2b rfl rfl ?_ c1;simp[go_sem,hd];done)
   |(refine Q2b rfl rfl ?_ c2;simp[go_sem,hd];done)
   |(refine Q2b rfl rfl ?_ c3;simp[go_sem,hd];done)
   |(refine Q2b rfl rfl ?_ c4;simp[go_sem,hd];done)
   |(refine Q2b rfl rfl ?_ c5;simp[go_sem,hd];done)
   |(refine Q2b rfl rfl ?_ c6;simp[go_sem,hd];done)
   |(refine Q2b rfl rfl ?_ c7;simp[go_sem,hd];done)
 intro vs W1 R1 A3;have HB:=Ua (Below.next0 Wj.out R1);have e25:vs 25=.bool true:=(Q0j rfl).1 (A3 25 (by decide));simp only[Q0t,Act.put,Um,Ux,Ut,e25];clear R1 A3 e25
 go_wp2_with fail
 go_ret;exact ⟨rfl,HB.out⟩
end Go.Proofs.YtidojbkhlenahaaGreatDoor
