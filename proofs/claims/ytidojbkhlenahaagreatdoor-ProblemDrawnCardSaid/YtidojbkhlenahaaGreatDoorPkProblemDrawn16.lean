/- Part 16. No condition. -/
import Derived.Test.YtidojbkhlenahaaGreatDoorPkProblemDrawn15
set_option maxRecDepth 100000
set_option maxHeartbeats 16000000
namespace Go.Proofs.YtidojbkhlenahaaGreatDoor
open Go.RowKit WordsM DecM
theorem Qi9 {b:UInt8}:∀{l x y:LU},Qf3 b l=some (x,y)->x.length+y.length+1=l.length
 |[],_,_,h=>by simp[Qf3] at h
 |c::r,x,y,h=>by
  rw[Qf3] at h
  split at h
  ·simp only[Un,Xa9] at h;rw[<-h.1,<-h.2];simp
  ·cases hc:Qf3 b r with
   |none=>rw[hc] at h;simp at h
   |some q=>
    rw[hc] at h;simp only[UG,Un,Xa9] at h;have:=Qi9 (x:=q.1) (y:=q.2) hc;rw[<-h.1,<-h.2];simp;omega
theorem Qtz {t:LU} {e:Ending} (h:Qwa ⟨t.toArray⟩ e):∃(lo hi:LU) (two:Bool),e=.returned (.tuple #[.string ⟨lo.toArray⟩,.string ⟨hi.toArray⟩,.bool two])/\lo.length<=t.length/\hi.length<=t.length/\Qf3 32 t=(if two=true then some (lo,hi) else none):=by
 unfold Qwa at h;have e1:(⟨t.toArray⟩:ByteArray).data.toList=t:=rfl;rw[e1] at h;cases hc:Qf3 32 t with
 |none=>rw[hc] at h;exact ⟨t,[],false,h,Ue _,Uv _,rfl⟩
 |some q=>
  rw[hc] at h;have:=Qi9 (x:=q.1) (y:=q.2) hc;exact ⟨q.1,q.2,true,h,by omega,by omega,rfl⟩
theorem Qcs {w w':World} {R B A at_ o:Nat} {p:RpP} {x:RpV} {us:LV} {S:LU} {r:Ending} (hI:Q5x w R B p x) (hR:R<B) (hB:B<=w.heap.size) (hA:Blk w A us) (hAB:B<=A) (hAs:A<w.heap.size) (hAn:∀u∈us,NoU u) (hAb:∀y,p.b.a=some y->y.block≠A) (ho:o+2<us.length) (h:Qyx w R at_ A o x.over S r w'):
 ∃n e a l c L er,r=.returned (.bool (er != 5))/\Q1v S n e L er/\Q5x w' R B p { x with over:=if er=2/\x.over<0 then (at_:Int) else x.over }/\Blk w' A (((us.set o (.bool n)).set (o+1) (.int .i64 e)).set (o+2) (.slice a l c))/\Q0f w' a l c ⟨n,e,L⟩/\Kp R B w w'/\A<w'.heap.size/\(∀a l c y,Q0f w a l c y->Q0f w' a l c y):=by
 obtain ⟨n,e,a,l,c,L,er,w1,rfl,E8,hb,hw,rfl⟩:=h;have hx:=(Q28 E8).1;have R8:=hI.step hb;have o6:=hA.step hb hAs;have K2:Q0f w1 a l c ⟨n,e,L⟩:=⟨hw,hx.1,hx.2⟩;have S3:=Kp.of_below (R:=R) hb hB;have hRl:(14:Nat)<(rpL p x).length:=by simp[rpL]
 have I2:∀(W:World) (z:RpV),Q5x W R B p z->Blk W A us->Q0f W a l c ⟨n,e,L⟩->Kp R B w W->(∀a l c y,Q0f w a l c y->Q0f W a l c y)->
  Q5x (Q35 W A o n e (.slice a l c)) R B p z/\Blk (Q35 W A o n e (.slice a l c)) A (((us.set o (.bool n)).set (o+1) (.int .i64 e)).set (o+2) (.slice a l c))/\Q0f (Q35 W A o n e (.slice a l c)) a l c ⟨n,e,L⟩/\Kp R B w (Q35 W A o n e (.slice a l c))/\A<(Q35 W A o n e (.slice a l c)).heap.size/\(∀a' l' c' y,Q0f w a' l' c' y->Q0f (Q35 W A o n e (.slice a l c)) a' l' c' y):=by
  intro W z hz hAW hNW hkW hq;have b1:=hAW.set (i:=o) (by omega) (.bool n);have b2:=b1.set (i:=o+1) (by rw[Ti];omega) (.int .i64 e);have n1:=Q4o hAn (i:=o) (Q2g n);have n2:=Q4o n1 (i:=o+1) (Q2q e);have C1:A≠R:=by omega
  have i1:=hz.far hAW (i:=o) (by omega) hAn C1 hAb (.bool n);have i2:=i1.far b1 (i:=o+1) (by rw[Ti];omega) n1 C1 hAb (.int .i64 e);have i3:=i2.far b2 (i:=o+2) (by rw[Ti,Ti];omega) n2 C1 hAb (.slice a l c);have hk:=hkW.trans (Kp.num W (i:=o) (.inr hAB) n e (.slice a l c));exact ⟨i3,hAW.store ho n e _,hNW.store hAW ho hAn n e _,hk,Uc hAs hk.size,fun a' l' c' y hy=>(hq a' l' c' y hy).store hAW ho hAn n e _⟩
 refine ⟨n,e,a,l,c,L,er,rfl,E8,?_⟩
 by_cases hc:er=2/\x.over<0
 ·simp only[Uu hc];exact I2 (w1.setCell ⟨R,14,none⟩ (.int .i64 (at_:Int))) _ (R8.over hR (at_:Int)) (o6.far (by omega) _) (K2.blk R8.blk hRl (Q6z _ _) _) (S3.trans (Kp.set _ (.inl rfl) _)) (fun a l c y hy=>(hy.step hb).blk R8.blk hRl (Q6z _ _) _)
 ·simp only[Uq hc];exact I2 w1 x R8 o6 K2 S3 (fun a l c y hy=>hy.step hb)
theorem Qct:(Tryz.prog.info? 44).map (fun i=>(i.zero,i.size,i.bytes))=some (some (.agg #[.bool false,.int .i64 0,.slice none 0 0,.bool false,.int .i64 0,.slice none 0 0]),6,80):=by kernel_rfl
theorem Qm0:∀u∈(Value.agg #[.bool false,.int .i64 0,.slice none 0 0,.bool false,.int .i64 0,.slice none 0 0]).cells.toList,NoU u:=by
 intro u hu;simp[Value.cells] at hu;rcases hu with rfl|rfl|rfl|rfl|rfl|rfl <;> first|exact Q2g _|exact Q2q _|exact Q3f _ _ _
theorem Q4j:Tryz.prog.underlying 23=some (.slice 44):=by kernel_rfl
theorem Qia (W:World) (v0 v1 v2 v3 v4 v5:Value):(Instr.buildSlice 23 1 #[(0,.agg #[v0,v1,v2,v3,v4,v5])]).run Tryz.prog W=.ok (.slice (some ⟨W.heap.size,0,none⟩) 1 1) (W.alloc (.cells #[v0,v1,v2,v3,v4,v5] 44)):=by
 obtain ⟨i0,S2,E2,O1,Y1⟩:=Q0z Qct;exact run_buildSlice W 23 44 1 _ #[v0,v1,v2,v3,v4,v5] i0 _ Q4j S2 E2 (by rw[O1];decide) (by rw[O1];decide) (by rw[O1];first|kernel_rfl|simp[Instr.fill,Value.cells])
def ivC (R _A:Nat) (p:RpP) (y:IvV) (q1 q2:Pl):List (Option Value):=[some (.pointer (some ⟨R,0,none⟩)),some (.pointer (some ⟨R,0,none⟩)),some (.pointer (some ⟨R,0,none⟩)),some (.pointer (some ⟨R,0,none⟩)),some (.pointer (some ⟨R,1,none⟩)),some (.slice p.b.a p.b.l p.b.c),some (.agg #[.bool y.lo.neg,.int .i64 y.lo.exp,.slice q1.a q1.l q1.c,.bool y.hi.neg,.int .i64 y.hi.exp,.slice q2.a q2.l q2.c]),none,none,some (.pointer (some ⟨R,0,none⟩)),some (.pointer (some ⟨R,0,none⟩)),some (.pointer (some ⟨R,1,none⟩)),none]
def Qyy (U:World) (R B:Nat) (p:RpP) (x:RpV) (y:IvV) (v:Value) (W:World):Prop:=∃g c,v=.slice (some ⟨g,0,none⟩) (p.b.l+1) c/\Blk W R (rpL p x)/\Q75 W B { p with b:=⟨some ⟨g,0,none⟩,p.b.l+1,c⟩ } { x with box:=x.box++[y] }/\Kp R B U W
def Qyz (U:World) (R B:Nat) (p:RpP) (x:RpV) (y:IvV) (W:World):Prop:=∃q,Q5x W R B { p with b:=q } { x with box:=x.box++[y] }/\Kp R B U W
structure IvI (U:World) (R A B:Nat) (p:RpP) (x:RpV) (y:IvV) (q1 q2:Pl) (D:Nat->Bool) (vs:Nat->Value) (W:World):Prop where
 v:∀j c,D j=true->(ivC R A p y q1 q2)[j]?=some (some c)->vs j=c
 w0:D 8=false->D 12=false->Bw U W
 w7:D 8=false->D 7=true->∃bl,vs 7=.slice (some ⟨bl,0,none⟩) 1 1/\bl<W.heap.size/\W.heap[bl]?=some (.cells (ivL q1 q2 y).toArray 44 (0,0))
 w8:D 8=true->D 12=false->Qyy U R B p x y (vs 8) W
 w12:D 12=true->Qyz U R B p x y W
theorem Q0i {D:Nat->Bool} {k j:Nat} (h:j≠k):Q1x D k j=D j:=Uq h
theorem Q18 {vs:Nat->Value} {k j:Nat} {v:Value} (h:j≠k):Q24 vs k v j=vs j:=Uq h
theorem Q3z (vs:Nat->Value) (k:Nat) (v:Value):Q24 vs k v k=v:=Uu rfl
section
variable {U:World} {R A B:Nat} {p:RpP} {x:RpV} {y:IvV} {q1 q2:Pl} {D:Nat->Bool} {vs:Nat->Value} {W:World}
theorem IvI.q (h:IvI U R A B p x y q1 q2 D vs W) {k:Nat} {c:Value} (h7:k≠7) (h8:k≠8) (JR:k≠12) (hc:(ivC R A p y q1 q2)[k]?=some (some c)):IvI U R A B p x y q1 q2 (Q1x D k) (Q24 vs k c) W:=by
 refine ⟨fun j c' hj m5=>?_,fun h1 h2=>h.w0 (by rwa[Q0i (Xah h8)] at h1) (by rwa[Q0i (Xah JR)] at h2),fun h1 h2=>?_,fun h1 h2=>?_,fun h1=>h.w12 (by rwa[Q0i (Xah JR)] at h1)⟩
 ·by_cases e:j=k
  ·subst e;rw[hc] at m5;injection m5 with m5;injection m5 with m5;rw[Q3z];exact m5
  ·rw[Q18 e];exact h.v j c' (by rwa[Q0i e] at hj) m5
 ·rw[Q18 (Xah h7)];exact h.w7 (by rwa[Q0i (Xah h8)] at h1) (by rwa[Q0i (Xah h7)] at h2)
 ·rw[Q18 (Xah h8)];exact h.w8 (by rwa[Q0i (Xah h8)] at h1) (by rwa[Q0i (Xah JR)] at h2)
theorem IvI.at_ {ops:Array Oper} {a:Act} (_h:IvI U R A B p x y q1 q2 D (Q09 ops a) W) {j:Nat} {t:Tmp} (hj:(ops[j]?).bind (·.dst)=some t):a.eval (.tmp t)=Q09 ops a j:=Q5r hj rfl
theorem IvI.ev {ops:Array Oper} {a:Act} (_h:IvI U R A B p x y q1 q2 D (Q09 ops a) W) {j:Nat} {t:Tmp} (hj:(ops[j]?).bind (·.dst)=some t):a.tmps[t]?.getD undef=Q09 ops a j:=Q0h hj rfl
theorem IvI.s7 (h:IvI U R A B p x y q1 q2 D vs W) (d8:D 8=false) (d12:D 12=false):IvI U R A B p x y q1 q2 (Q1x D 7) (Q24 vs 7 (.slice (some ⟨W.heap.size,0,none⟩) 1 1)) (W.alloc (.cells (ivL q1 q2 y).toArray 44)):=by
 have hb:=h.w0 d8 d12;refine ⟨fun j c' hj m5=>?_,fun _ _=>hb.alloc hb.size _,fun _ _=>⟨W.heap.size,Q3z _ _ _,Q0o _ _,Up _ _⟩,fun h1 _=>?_,fun h1=>?_⟩
 ·by_cases e:j=7
  ·subst e;simp[ivC] at m5
  ·rw[Q18 e];exact h.v j c' (by rwa[Q0i e] at hj) m5
 ·rw[Q0i (by decide),d8] at h1;cases h1
 ·rw[Q0i (by decide),d12] at h1;cases h1
theorem IvI.s8 (h:IvI U R A B p x y q1 q2 D vs W) (hI:Q5x U R B p x) (hR:R<B) (hB:B<=U.heap.size) (h1:Q0f U q1.a q1.l q1.c y.lo) (h2:Q0f U q2.a q2.l q2.c y.hi) (hl:p.b.l<=1000) (d7:D 7=true) (d8:D 8=false) (d12:D 12=false) (ty:TypeId):
 ∃v W',(Builtin.append_ #[23,23] ty #[.slice p.b.a p.b.l p.b.c,vs 7]).run Tryz.prog W=.ok v W'/\IvI U R A B p x y q1 q2 (Q1x D 8) (Q24 vs 8 v) W':=by
 have hb:=h.w0 d8 d12;obtain ⟨bl,e7,K4,B7⟩:=h.w7 d8 d7;obtain ⟨i0,S2,E2,O1,Y1⟩:=Q0z Qct;have hW:=hI.step hb;obtain ⟨xs,hr⟩:=hW.box.row;have hBW:=Uj hB hb.size;obtain ⟨g,c',w',C2,K0,Z5,J2⟩:=Q16 (P:=Tryz.prog) NoU W 23 ty 44 i0 _ 6 80 Q4j S2 E2 O1 Y1 rfl Qm0 B hBW p.b.a p.b.l p.b.c xs hr bl 1 1 (ivL q1 q2 y) rfl (Tz (cs:=(ivL q1 q2 y).toArray) B7) (by intro u hu;simp only[ivL,UD,TK,Xbm] at hu;rcases hu with rfl|rfl|rfl|rfl|rfl|rfl <;> rfl) (Qkg _ _ _) (by decide) (by omega) (by decide) (by decide);have JK:=hW.box.push hr Z5 J2 K0 (h1.step hb) (h2.step hb);have hBg:∀k,p.b.a.map (·.block)=some k->B<=k/\k<W.heap.size:=fun k hk=>by
  cases ha:p.b.a with
  |none=>rw[ha] at hk;cases hk
  |some z=>rw[ha] at hk;simp only[UG,Un] at hk;subst hk;exact hW.box.lt ha
 have Qm:∀{aw:OA} {lw cw:Nat} {z:Q2u},Q0f W aw lw cw z->Q0f w' aw lw cw z:=fun {aw lw cw z} hz=>⟨hz.lie.turn (hr.off hz.lie) ((Q0l.of_below (Ud _ _) _).trans0 (Q0l.of_grown Z5 fun r hr _=>by
  cases ha:p.b.a with
  |none=>rw[ha] at hr;cases hr
  |some z=>rw[ha] at hr;simp only[UG,Un] at hr;exact ⟨z,rfl,hr⟩)) (fun _ h=>h),hz.lo,hz.hi⟩
 have hkp:Kp R B U w':=(Kp.of_below hb hB).trans (Kp.grown Z5 (fun g hg=>(hBg g hg).1) hBW (fun j o hj ho=>by
  rcases hr.1.form with ⟨h0,_⟩|⟨g',cur,e1,_,_,hh,_⟩
  ·rw[h0] at hj;cases hj
  ·rw[e1] at hj;simp only[UG,Un] at hj;subst hj;rw[hh,Un] at ho;rw[<-ho];rfl))
 have D5:Blk w' R (rpL p x):=hW.blk.same (Z5.block R (by have:=hW.blk.lt;exact this) (fun e=>by have:=(hBg R e.symm).1;omega));rw[e7];refine ⟨_,w',C2,fun j cc hj m5=>?_,fun h1 _=>?_,fun h1 _=>?_,fun _ _=>?_,fun h1=>?_⟩
 ·by_cases e:j=8
  ·subst e;simp[ivC] at m5
  ·rw[Q18 e];exact h.v j cc (by rwa[Q0i e] at hj) m5
 ·rw[Q27] at h1;cases h1
 ·rw[Q27] at h1;cases h1
 ·rw[Q3z];exact ⟨g,c',rfl,D5,⟨JK,Qm hW.t,Qm hW.m,Qm hW.e⟩,hkp⟩
 ·rw[Q0i (by decide),d12] at h1;cases h1
theorem IvI.s12 (h:IvI U R A B p x y q1 q2 D vs W) (hR:R<B) (d8:D 8=true) (d12:D 12=false) (v:Value):∃g c,vs 8=.slice (some ⟨g,0,none⟩) (p.b.l+1) c/\(∃u,W.cell? ⟨R,1,none⟩=some u)/\W.frozen? ⟨R,1,none⟩=false/\IvI U R A B p x y q1 q2 (Q1x D 12) (Q24 vs 12 v) (W.setCell ⟨R,1,none⟩ (.slice (some ⟨g,0,none⟩) (p.b.l+1) c)):=by
 obtain ⟨g,c,e8,D5,M6,hk⟩:=h.w8 d8 d12;refine ⟨g,c,e8,⟨_,D5.c 1 _ rfl⟩,D5.f 1 (by simp[rpL]),fun j cc hj m5=>?_,fun h1 _=>?_,fun h1 _=>?_,fun _ h1=>?_,fun _=>?_⟩
 ·by_cases e:j=12
  ·subst e;simp[ivC] at m5
  ·rw[Q18 e];exact h.v j cc (by rwa[Q0i e] at hj) m5
 ·rw[Q0i (by decide),d8] at h1;cases h1
 ·rw[Q0i (by decide),d8] at h1;cases h1
 ·rw[Q27] at h1;cases h1
 ·have h1:=D5.set (i:=1) (by simp[rpL]) (.slice (some ⟨g,0,none⟩) (p.b.l+1) c);have h2:=M6.set (i:=1) D5 (by simp[rpL]) (Q6z _ _) hR (.slice (some ⟨g,0,none⟩) (p.b.l+1) c);exact ⟨⟨some ⟨g,0,none⟩,p.b.l+1,c⟩,⟨h1,h2.box,h2.t,h2.m,h2.e⟩,hk.trans (Kp.set _ (.inl rfl) _)⟩
end
def Qv5 (w:World) (R B at_:Nat) (p:RpP) (x:RpV) (st:PrS) (l:LU) (r:Ending) (w':World):Prop:=∃p' x',Q5x w' R B p' x'/\Kp R B w w'/\
 match (Qis l).map (fun b=>({ st with box:=st.box++[b],over:=Q61 (Q61 st.over at_ b.1) at_ b.2 }:PrS)) with
 |none=>r=.returned (.bool false)/\p'=p/\∃o,x'={ x with over:=o }
 |some st'=>r=.returned (.bool true)/\StM x' st'
theorem Qv5.no {w w':World} {R B at_:Nat} {p:RpP} {x:RpV} {st:PrS} {l:LU} {o:Int} (h:Qis l=none) (hI:Q5x w' R B p { x with over:=o }) (hk:Kp R B w w'):Qv5 w R B at_ p x st l (.returned (.bool false)) w':=
 ⟨p,_,hI,hk,by rw[h];exact ⟨rfl,rfl,o,rfl⟩⟩
theorem StM.push {x:RpV} {st:PrS} (h:StM x st) {y:IvV} {b:Option Dyadic × Option Dyadic} (hy:IvO y b) {o:Int} {ov:Option Nat} (ho:Qdh o ov):StM { x with box:=x.box++[y],over:=o } { st with box:=st.box++[b],over:=ov }:=by
 refine ⟨h.prec,h.order,h.budget,h.til,h.most,h.least,by simp[h.len],fun j a c ha hc=>?_,ho⟩;simp only at ha hc
 by_cases hj:j<x.box.length
 ·rw[Tp hj] at ha;rw[Tp (by rw[<-h.len];exact hj)] at hc;exact h.box j a c ha hc
 ·rw[Tg (by omega)] at ha;rw[Tg (by rw[<-h.len];omega),<-h.len] at hc;have hz:j-x.box.length=0:=by
   have:=(Uh.1 ha).1;simp at this;omega
  rw[hz] at ha hc;simp only[UO,Un] at ha hc;subst ha;subst hc;exact hy
theorem Qdi (R B at_:Nat) (p:RpP) (x:RpV) (st:PrS) (s:ByteArray) (w:World) (hs:s.size<=1000000) (hT:∀W,Kp R B w W->Q3r W) (hI:Q5x w R B p x) (hR:R<B) (hB:B<=w.heap.size) (R0:StM x st) (hl:st.box.length<4):
 Calls Tryz.prog 127 #[.pointer (some ⟨R,0,none⟩),.int .i64 (at_:Int),.string s] w (Qv5 w R B at_ p x st s.data.toList):=by
 obtain ⟨L,hL⟩:∃L,s.data.toList=L:=⟨_,rfl⟩;have JH:=Tryz.Qzt s ⟨#[98,111,120,32]⟩ w;have x7:(⟨#[98,111,120,32]⟩:ByteArray).data.toList=Ql9++[32]:=rfl;rw[x7,hL] at JH;have hr:=Qfr Ql9 L;have hLs:L.length<=1000000:=by rw[<-hL];have:s.data.toList.length=s.size:=(Lib.size_eq s).symm;omega
 obtain ⟨t,ht⟩:∃t,Lib.trimPrefix L (Ql9++[32])=t:=⟨_,rfl⟩;obtain ⟨b,hb⟩:∃b,Lib.hasPrefix L (Ql9++[32])=b:=⟨_,rfl⟩;have J6:t.length<=1000000:=by
  rw[<-ht];unfold Lib.trimPrefix
  split
  ·rw[Th];omega
  ·omega
 rw[ht,hb] at JH;rw[ht,hb] at hr;rw[hL];have hcut:=Qtw ⟨t.toArray⟩ w J6;have HC:=Xh4 JH hcut hr J6;have HI:=Xh6 hI hT R0 hl hR hB;clear hr JH x7 ht hb hcut hT hI hR hB R0 hl hs hL hLs J6
 go_enter Tryz.func127,Tryz.ntmps127
 go_upto_region 4 with (first
  |(go_at_call 177;refine (Xo1 HC).mono ?_;rintro e w2 ⟨he,D0⟩;obtain ⟨lo,hi,two,rfl,E5,Qc,hc⟩:=Qtz he;have H2:=Xh4 D0 E5 Qc hc;clear he D0 E5 Qc hc)
  |(go_at_call 173;refine (Xo0 HC).mono ?_;rintro e w1 ⟨rfl,S4⟩;have S4:=S4.symm;subst S4))
 obtain ⟨U0,hU0⟩:∃U0,w2.alloc (.cells #[.bool false,.int .i64 0,.slice none 0 0,.bool false,.int .i64 0,.slice none 0 0] 44)=U0:=⟨_,rfl⟩;have hA:Blk U0 w2.heap.size [.bool false,.int .i64 0,.slice none 0 0,.bool false,.int .i64 0,.slice none 0 0]:=by rw[<-hU0];exact Blk.new w2 [.bool false,.int .i64 0,.slice none 0 0,.bool false,.int .i64 0,.slice none 0 0] 44
 have F0:w2.heap.size<U0.heap.size:=by rw[<-hU0];exact Q0o _ _
 have Q0:Bw w U0:=by rw[<-hU0];exact (Xo0 H2).alloc (Xo0 H2).size _
 rw[hU0];obtain ⟨A,hAe⟩:∃A,w2.heap.size=A:=⟨_,rfl⟩;have hwA:w.heap.size<=A:=by rw[<-hAe];exact (Xo0 H2).size
 rw[hAe] at hA F0⊢;have ZZ:∀u∈[Value.bool false,.int .i64 0,.slice none 0 0,.bool false,.int .i64 0,.slice none 0 0],NoU u:=by
  intro u hu;simp only[UD,TK,Xbm] at hu;rcases hu with rfl|rfl|rfl|rfl|rfl|rfl <;> first|exact Q2g _|exact Q2q _|exact Q3f _ _ _
 have hBA:B<=A:=Uj (Xe5 HI) hwA;have hBU:B<=U0.heap.size:=by omega
 have hI0:=(Xo0 HI).step Q0;have Xa:Kp R B w U0:=Kp.of_below Q0 (Xe5 HI);have hAb:∀y,p.b.a=some y->y.block≠A:=fun y hy=>by have:=((Xo0 HI).box.lt hy).2;omega
 have HA:=Xh8 hA F0 ZZ hBA hBU hI0 Xa hAb;clear hU0 hA F0 Q0 hAe hwA ZZ hBA hBU hI0 Xa hAb;cases b
 case false=>
  have HN:=Ua (show Qis L=none by unfold Qis;rw[(Xo2 HC)];rfl)
  go_wp2_with fail
  go_ret;exact Qv5.no HN.out (Xo5 HA) (Xo6 HA)
 cases two
 case false=>
  have HN:=Ua (show Qis L=none by unfold Qis;rw[(Xo2 HC),Uu rfl,Xat,(Xe3 H2),Uq (by decide)])
  go_wp2_with fail
  go_ret;exact Qv5.no HN.out (Xo5 HA) (Xo6 HA)
 have A2:Qis L=match Qgv lo,Qgv hi with
  |some x,some y=>some (x,y)
  |_,_=>none:=by unfold Qis;rw[(Xo2 HC),Uu rfl,Xat,(Xe3 H2),Uu rfl];rfl
 have HX:=Ua A2;clear A2;have x6:=Q5k R at_ A 0 x.over ⟨lo.toArray⟩ U0 (by show lo.length<=_;have:=(Xo1 H2);have:=(Xe3 HC);omega) ((Xo1 HI) _ (Xo6 HA)) ((Xo5 HA).blk.c 14 _ rfl) ((Xo5 HA).blk.f 14 (by simp[rpL])) ((Xo0 HA).num (i:=0) (by simp)) (.inl (by have:=(Xo3 HA);have:=(Xo4 HI);omega));have HLO:=Ua x6;clear x6;cases hnl:Qgv lo with
 |none=>
  have HN:=Xh2 hnl (show Qis L=none by rw[HX.out,hnl]);clear hnl
  go_wp2_with (go_at_call 176;refine HLO.out.mono ?_;rintro r U1 hN
               obtain ⟨n1,e1,a1,l1,c1,L1,er1,rfl,E8,R8,o6,K2,S3,XD,Ji⟩:=Qcs (Xo5 HA) (Xo4 HI) (Xo4 HA) (Xo0 HA) (Xo3 HA) (Xo1 HA) (Xo2 HA) (Xe7 HA) (by simp) hN;obtain rfl:er1=5:=(by { rcases (Q28 E8).2 with ⟨_,h5⟩|⟨d,hd,_⟩;exact h5;exact absurd ((Xo0 HN).symm.trans hd) (by simp) });have H5:=Xh2 R8 S3;clear hN E8 R8 o6 K2 S3 XD Ji)
  go_ret;exact Qv5.no (Xe1 HN) (Xo0 H5) ((Xo6 HA).trans (Xe1 H5))
 |some d1=>
  have HN1:=Ua hnl;clear hnl;cases hnh:Qgv hi with
  |none=>
   have HN:=Xh2 hnh (show Qis L=none by rw[HX.out,HN1.out,hnh]);clear hnh
   go_wp2_with (first
    |(go_at_call 176;refine (Xe3 H5).mono ?_;rintro r U2 hN
      obtain ⟨n2,e2,a2,l2,c2,L2,er2,rfl,E8,ZW,Jr,XE,K6,hAs2,P6⟩:=Qcs (Xo0 H5) (Xo4 HI) (Uj (Xo4 HA) (Xo1 H5).size) (Xo2 H5).1 (Xo3 HA) (Xo2 H5).2.1 (Xo2 H5).2.2 (Xe7 HA) (by simp) hN;obtain rfl:er2=5:=(by { rcases (Q28 E8).2 with ⟨_,h5⟩|⟨d,hd,_⟩;exact h5;exact absurd ((Xo0 HN).symm.trans hd) (by simp) });have H6:=Xh2 ZW ((Xo1 H5).trans K6);clear hN E8 ZW Jr XE K6 hAs2 P6)
    |(go_at_call 176;refine HLO.out.mono ?_;rintro r U1 hN
      obtain ⟨n1,e1,a1,l1,c1,L1,er1,rfl,E8,R8,o6,K2,S3,XD,Ji⟩:=Qcs (Xo5 HA) (Xo4 HI) (Xo4 HA) (Xo0 HA) (Xo3 HA) (Xo1 HA) (Xo2 HA) (Xe7 HA) (by simp) hN;have Yh:(er1 != 5)=true:=(by { rcases (Q28 E8).2 with ⟨h0,_⟩|⟨d,hd,_,⟨_,h2⟩|⟨_,h2⟩⟩;exact absurd (HN1.out.symm.trans h0) (by simp);rw[h2];rfl;rw[h2];rfl });rw[Yh];have E6:=Q4o (Q4o (Q4o (Xo2 HA) (i:=0) (Q2g n1)) (i:=0+1) (Q2q e1)) (i:=0+2) (Q3f a1 l1 c1);have I1:=Q5k R at_ A 3 _ ⟨hi.toArray⟩ U1 (by show hi.length<=_;have:=(Xo2 H2);have:=(Xe3 HC);omega) ((Xo1 HI) _ ((Xo6 HA).trans S3)) (R8.blk.c 14 _ rfl) (R8.blk.f 14 (by simp[rpL])) (o6.num (i:=3) (by simp)) (.inl (by have:=(Xo3 HA);have:=(Xo4 HI);omega));have H5:=Xh4 R8 S3 (And.intro o6 (And.intro XD E6)) I1;clear hN E8 R8 o6 K2 S3 XD Ji Yh E6 I1))
   go_ret;exact Qv5.no (Xe1 HN) (Xo0 H6) ((Xo6 HA).trans (Xe1 H6))
  |some d2=>
   have HN:=Xh2 hnh (show Qis L=some (d1,d2) by rw[HX.out,HN1.out,hnh]);clear hnh
   go_upto_region 6 with (first
    |(go_at_call 176;refine (Xo3 H5).mono ?_;rintro r U2 hN
      obtain ⟨n2,e2,a2,l2,c2,L2,er2,rfl,E8,ZW,Jr,XE,K6,hAs2,P6⟩:=Qcs (Xo0 H5) (Xo4 HI) (Uj (Xo4 HA) (Xo1 H5).size) (Xo2 H5).1 (Xo3 HA) (Xo2 H5).2.1 (Xo2 H5).2.2 (Xe7 HA) (by simp) hN;have Yh:(er2 != 5)=true:=(by { rcases (Q28 E8).2 with ⟨h0,_⟩|⟨d,hd,_,⟨_,h2⟩|⟨_,h2⟩⟩;exact absurd ((Xo0 HN).symm.trans h0) (by simp);rw[h2];rfl;rw[h2];rfl });rw[Yh];have hO:Qly ⟨n2,e2,L2⟩ d2/\((d2=none/\er2=2)∨(d2≠none/\er2=0)):=(by { rcases (Q28 E8).2 with ⟨h0,_⟩|⟨d,hd,h3,h4⟩;exact absurd ((Xo0 HN).symm.trans h0) (by simp);rw[(Xo0 HN)] at hd;injection hd with hd;subst hd;exact ⟨h3,h4⟩ });have H6:=Xh7 ZW ((Xo1 H5).trans K6) Jr (P6 _ _ _ _ (Xo4 H5)) XE hO.1 (Qaf (Xe6 H5) hO.2 at_);clear hN E8 ZW Jr XE K6 hAs2 P6 Yh hO)
    |(go_at_call 176;refine HLO.out.mono ?_;rintro r U1 hN
      obtain ⟨n1,e1,a1,l1,c1,L1,er1,rfl,E8,R8,o6,K2,S3,XD,Ji⟩:=Qcs (Xo5 HA) (Xo4 HI) (Xo4 HA) (Xo0 HA) (Xo3 HA) (Xo1 HA) (Xo2 HA) (Xe7 HA) (by simp) hN;have Yh:(er1 != 5)=true:=(by { rcases (Q28 E8).2 with ⟨h0,_⟩|⟨d,hd,_,⟨_,h2⟩|⟨_,h2⟩⟩;exact absurd (HN1.out.symm.trans h0) (by simp);rw[h2];rfl;rw[h2];rfl });rw[Yh];have hO:Qly ⟨n1,e1,L1⟩ d1/\((d1=none/\er1=2)∨(d1≠none/\er1=0)):=(by { rcases (Q28 E8).2 with ⟨h0,_⟩|⟨d,hd,h3,h4⟩;exact absurd (HN1.out.symm.trans h0) (by simp);rw[HN1.out] at hd;injection hd with hd;subst hd;exact ⟨h3,h4⟩ });have E6:=Q4o (Q4o (Q4o (Xo2 HA) (i:=0) (Q2g n1)) (i:=0+1) (Q2q e1)) (i:=0+2) (Q3f a1 l1 c1);have I1:=Q5k R at_ A 3 _ ⟨hi.toArray⟩ U1 (by show hi.length<=_;have:=(Xo2 H2);have:=(Xe3 HC);omega) ((Xo1 HI) _ ((Xo6 HA).trans S3)) (R8.blk.c 14 _ rfl) (R8.blk.f 14 (by simp[rpL])) (o6.num (i:=3) (by simp)) (.inl (by have:=(Xo3 HA);have:=(Xo4 HI);omega));have H5:=Xh7 R8 S3 (And.intro o6 (And.intro XD E6)) I1 K2 hO.1 (Qaf (Xo2 HI).over hO.2 at_);clear hN E8 R8 o6 K2 S3 XD Ji Yh E6 I1 hO))
   obtain ⟨y,hy⟩:∃y:IvV,(⟨⟨n1,e1,L1⟩,⟨n2,e2,L2⟩⟩:IvV)=y:=⟨_,rfl⟩;obtain ⟨x2,Z3⟩:∃x2:RpV,({ x with over:=if er2=2/\(if er1=2/\x.over<0 then (at_:Int) else x.over)<0 then (at_:Int) else if er1=2/\x.over<0 then (at_:Int) else x.over }:RpV)=x2:=⟨_,rfl⟩;have ZW:Q5x U2 R B p x2:=(by rw[<-Z3];exact (Xo0 H6));have Jr:Blk U2 A (ivL ⟨a1,l1,c1⟩ ⟨a2,l2,c2⟩ y):=(by rw[<-hy];exact (Xo2 H6));have h1:Q0f U2 a1 l1 c1 y.lo:=(by rw[<-hy];exact (Xo3 H6));have h2:Q0f U2 a2 l2 c2 y.hi:=(by rw[<-hy];exact (Xo4 H6));have hBU2:B<=U2.heap.size:=Uj (Xo4 HA) (Xo1 H6).size;have O0:p.b.l<=1000:=(by have e1:=ZW.box.len;have e2:=(Xo2 HI).len;have e3:=(Xo3 HI);rw[<-Z3] at e1;simp only at e1;omega);have Q3:∀q W,Q5x W R B { p with b:=q } { x2 with box:=x2.box++[y] }->Kp R B U2 W->Qv5 w R B at_ p x st L (.returned (.bool true)) W:=fun q W hF hk=>by
    refine ⟨_,_,hF,(Xo6 HA).trans ((Xo1 H6).trans hk),?_⟩;rw[(Xe1 HN)];refine ⟨rfl,?_⟩;have:=(Xo2 HI).push (y:=y) (b:=(d1,d2)) (by rw[<-hy];exact ⟨(Xo5 H5),(Xo5 H6)⟩) (Xe6 H6);rw[<-Z3];exact this
   obtain ⟨⟨k0,k1,k2,k3,k4,k5⟩,hA2lt⟩:(U2.cell? ⟨A,0,none⟩=some (.bool y.lo.neg)/\U2.cell? ⟨A,1,none⟩=some (.int .i64 y.lo.exp)/\U2.cell? ⟨A,2,none⟩=some (.slice a1 l1 c1)/\U2.cell? ⟨A,3,none⟩=some (.bool y.hi.neg)/\U2.cell? ⟨A,4,none⟩=some (.int .i64 y.hi.exp)/\U2.cell? ⟨A,5,none⟩=some (.slice a2 l2 c2))/\A<U2.heap.size:=⟨⟨Jr.c 0 _ rfl,Jr.c 1 _ rfl,Jr.c 2 _ rfl,Jr.c 3 _ rfl,Jr.c 4 _ rfl,Jr.c 5 _ rfl⟩,Uz (Jr.c 0 _ rfl)⟩;have HK:=Ua (fun W (h:Bw U2 W)=>Jr.step h hA2lt);have HE:=Xh6 ZW h1 h2 hBU2 O0 Q3;clear ZW Jr h1 h2 hBU2 O0 Q3 Z3 hy k0 k1 k2 k3 k4 k5;refine Q2i (by kernel_rfl) (fun D V W=>IvI U2 R A B p x2 y ⟨a1,l1,c1⟩ ⟨a2,l2,c2⟩ D V W) ?_ (by kernel_rfl) ?_ ?_ ?_
   ·rintro i o hi hd D V v W h;have hi12:i=12:=(by have:=Q9f (x:=12) (y:=12) (by kernel_rfl) hi hd;omega);subst hi12;refine ⟨fun j c hj hc=>?_,h.w0,fun h1 h2=>?_,fun h1 h2=>?_,h.w12⟩
    ·by_cases e:j=12
     ·subst e;simp[ivC] at hc
     ·have:=h.v j c hj hc;rwa[Q18 e] at this
    ·have:=h.w7 h1 h2;rwa[Q18 (by decide)] at this
    ·have:=h.w8 h1 h2;rwa[Q18 (by decide)] at this
   ·intro V;exact ⟨fun j c hj=>(by cases hj),fun _ _=>Q04 U2,fun _ h=>(by cases h),fun h=>(by cases h),fun h=>(by cases h)⟩
   ·refine ⟨fun a W D hI E0 hk A0 F1=>?_,?_⟩
    ·have e0:=Q07 E0 0 (by kernel_rfl) rfl;exact Q0u (u:=.pointer (some ⟨R,0,none⟩)) rfl (by simp[go_sem,e0]) (hI.q (by decide) (by decide) (by decide) rfl)
    refine ⟨fun a W D hI E0 hk A0 F1=>?_,?_⟩
    ·have e0:=Q07 E0 0 (by kernel_rfl) rfl;exact Q0u (u:=.pointer (some ⟨R,0,none⟩)) rfl (by simp[go_sem,e0]) (hI.q (by decide) (by decide) (by decide) rfl)
    refine ⟨fun a W D hI E0 hk A0 F1=>?_,?_⟩
    ·have e0:=Q0h (j:=1) (t:=47) rfl (hI.v 1 _ (A0 1 (by decide)) rfl);exact Q0u (u:=.pointer (some ⟨R,0,none⟩)) rfl (by simp[go_sem,e0]) (hI.q (by decide) (by decide) (by decide) rfl)
    refine ⟨fun a W D hI E0 hk A0 F1=>?_,?_⟩
    ·have e0:=Q0h (j:=2) (t:=48) rfl (hI.v 2 _ (A0 2 (by decide)) rfl);exact Q0u (u:=.pointer (some ⟨R,0,none⟩)) rfl (by simp[go_sem,e0]) (hI.q (by decide) (by decide) (by decide) rfl)
    refine ⟨fun a W D hI E0 hk A0 F1=>?_,?_⟩
    ·have e0:=Q0h (j:=3) (t:=49) rfl (hI.v 3 _ (A0 3 (by decide)) rfl);exact Q0u (u:=.pointer (some ⟨R,1,none⟩)) rfl (by simp[go_sem,e0]) (hI.q (by decide) (by decide) (by decide) rfl)
    refine ⟨fun a W D hI E0 hk A0 F1=>?_,?_⟩
    ·have e0:=Q0h (j:=4) (t:=50) rfl (hI.v 4 _ (A0 4 (by decide)) rfl);have d8:D 8=false:=Q0y F1 (j:=8) rfl (k:=5) (by decide) hk;have d12:D 12=false:=Q0y F1 (j:=12) rfl (k:=8) (by decide) d8;have k1:=((Xo0 HE).step (hI.w0 d8 d12)).blk.c 1 _ rfl;exact Q0u (u:=.slice p.b.a p.b.l p.b.c) rfl (by simp[go_sem,e0,k1]) (hI.q (by decide) (by decide) (by decide) rfl)
    refine ⟨fun a W D hI E0 hk A0 F1=>?_,?_⟩
    ·have e0:=Q07 E0 12 (by kernel_rfl) rfl;have d7:D 7=false:=Q0y F1 (j:=7) rfl (k:=6) (by decide) hk;have d8:D 8=false:=Q0y F1 (j:=8) rfl (k:=7) (by decide) d7;have d12:D 12=false:=Q0y F1 (j:=12) rfl (k:=8) (by decide) d8;have hb:=HK.out W (hI.w0 d8 d12);have k0:=hb.c 0 _ rfl;have k1:=hb.c 1 _ rfl;have k2:=hb.c 2 _ rfl;have k3:=hb.c 3 _ rfl;have k4:=hb.c 4 _ rfl;have k5:=hb.c 5 _ rfl;exact Q0u (u:=.agg #[.bool y.lo.neg,.int .i64 y.lo.exp,.slice a1 l1 c1,.bool y.hi.neg,.int .i64 y.hi.exp,.slice a2 l2 c2]) rfl (by simp[go_sem,e0,k0,k1,k2,k3,k4,k5]) (hI.q (by decide) (by decide) (by decide) rfl)
    refine ⟨fun a W D hI E0 hk A0 F1=>?_,?_⟩
    ·have e0:a.eval (.tmp 52)=.agg #[.bool y.lo.neg,.int .i64 y.lo.exp,.slice a1 l1 c1,.bool y.hi.neg,.int .i64 y.hi.exp,.slice a2 l2 c2]:=Q5r (j:=6) (t:=52) rfl (hI.v 6 _ (A0 6 (by decide)) rfl);have d8:D 8=false:=Q0y F1 (j:=8) rfl (k:=7) (by decide) hk;have d12:D 12=false:=Q0y F1 (j:=12) rfl (k:=8) (by decide) d8;exact Q0u (w':=W.alloc (.cells (ivL ⟨a1,l1,c1⟩ ⟨a2,l2,c2⟩ y).toArray 44)) (u:=.slice (some ⟨W.heap.size,0,none⟩) 1 1) rfl (Q48 23 1 #[(0,.tmp 52)] (by rfl) (parts':= #[(0,.agg #[.bool y.lo.neg,.int .i64 y.lo.exp,.slice a1 l1 c1,.bool y.hi.neg,.int .i64 y.hi.exp,.slice a2 l2 c2])]) (by simp[e0]) (Qia W _ _ _ _ _ _)) (hI.s7 d8 d12)
    refine ⟨fun a W D hI E0 hk A0 F1=>?_,?_⟩
    ·have e5:=Q5r (j:=5) (t:=51) rfl (hI.v 5 _ (A0 5 (by decide)) rfl);have d12:D 12=false:=Q0y F1 (j:=12) rfl (k:=8) (by decide) hk;obtain ⟨v,W',C2,x4⟩:=hI.s8 (Xo0 HE) (Xo4 HI) (Xo3 HE) (Xo1 HE) (Xo2 HE) (Xo4 HE) (A0 7 (by decide)) hk d12 23;have e7:=hI.at_ (j:=7) (t:=53) rfl;exact Q0u (w':=W') (u:=v) rfl (Q47 (.tmp 51) (.tmp 53) 23 23 (by rfl) e5 e7 C2) x4
    refine ⟨fun a W D hI E0 hk A0 F1=>?_,?_⟩
    ·have e0:=Q0h (j:=0) (t:=46) rfl (hI.v 0 _ (A0 0 (by decide)) rfl);exact Q0u (u:=.pointer (some ⟨R,0,none⟩)) rfl (by simp[go_sem,e0]) (hI.q (by decide) (by decide) (by decide) rfl)
    refine ⟨fun a W D hI E0 hk A0 F1=>?_,?_⟩
    ·have e0:=Q0h (j:=9) (t:=55) rfl (hI.v 9 _ (A0 9 (by decide)) rfl);exact Q0u (u:=.pointer (some ⟨R,0,none⟩)) rfl (by simp[go_sem,e0]) (hI.q (by decide) (by decide) (by decide) rfl)
    refine ⟨fun a W D hI E0 hk A0 F1=>?_,?_⟩
    ·have e0:=Q0h (j:=10) (t:=56) rfl (hI.v 10 _ (A0 10 (by decide)) rfl);exact Q0u (u:=.pointer (some ⟨R,1,none⟩)) rfl (by simp[go_sem,e0]) (hI.q (by decide) (by decide) (by decide) rfl)
    refine ⟨fun a W D hI E0 hk A0 F1=>?_,trivial⟩
    ·have e0:=Q0h (j:=11) (t:=57) rfl (hI.v 11 _ (A0 11 (by decide)) rfl);obtain ⟨g8,c8,h8,⟨u0,hu0⟩,U4,hn⟩:=hI.s12 (Xo4 HI) (A0 8 (by decide)) hk undef;have e8:=(hI.ev (j:=8) (t:=54) rfl).trans h8;exact Q87 (w':=W.setCell ⟨R,1,none⟩ (.slice (some ⟨g8,0,none⟩) (p.b.l+1) c8)) rfl (by simp[go_sem,e0,e8,hu0,U4]) hn
   ·intro D vs W hD hI;obtain ⟨q,hF,hk⟩:=hI.w12 (hD 12 (by decide));have HF:=Ua ((Xe5 HE) q W hF hk);clear hF hk hI hD;simp only[Q0t,Act.put,Um,Ux,Ut]
    go_wp2_with fail
    go_ret;exact HF.out
def Q5a (w:World) (R B i at_:Nat) (p:RpP) (x:RpV) (st:PrS) (l:LU) (r:Ending) (w':World):Prop:=∃p' x',Q5x w' R B p' x'/\Kp R B w w'/\
 match Qaw i at_ l st with
 |none=>r=.returned (.bool false)/\(6<=i->p'=p/\∃o,x'={ x with over:=o })
 |some st'=>r=.returned (.bool true)/\StM x' st'
theorem Q5a.yn {w w':World} {R B i at_:Nat} {p:RpP} {x:RpV} {st:PrS} {l:LU} {r:Ending} (h:Q5a w R B i at_ p x st l r w'):∃b,r=.returned (.bool b)/\Q5a w R B i at_ p x st l (.returned (.bool b)) w':=by
 have h0:=h;obtain ⟨p',x',_,_,hm⟩:=h;cases hl:Qaw i at_ l st with
 |none=>rw[hl] at hm;obtain ⟨rfl,_⟩:=hm;exact ⟨_,rfl,h0⟩
 |some st'=>rw[hl] at hm;obtain ⟨rfl,_⟩:=hm;exact ⟨_,rfl,h0⟩
theorem Qo1 {i p:Nat} {l:LU} {st:PrS} (hi:6<=i):Qaw i p l st=if st.box.length<4 then (Qis l).map fun b=>{ st with box:=st.box++[b],over:=Q61 (Q61 st.over p b.1) p b.2 } else none:=by
 unfold Qaw
 match i,hi with
 |6,_=>rfl
 |n+7,_=>rfl
theorem Qcu {w w':World} {R B i at_ o:Nat} {p:RpP} {x:RpV} {st:PrS} {l wd:LU} {r:Ending} (ux:RpV->Int->RpV) (us:PrS->Nat->PrS) (hI:Q5x w R B p x) (hR:R<B) (hB:B<=w.heap.size) (ho:o<15) (hi:i<6)
 (h1:∀n:Int,rpL p (ux x n)=(rpL p x).set o (.int .i64 n)) (h2:∀(W:World) (n:Int),Q75 W B p x->Q75 W B p (ux x n)) (h3:∀n:Nat,StM (ux x (n:Int)) (us st n)) (hm:Qaw i at_ l st=((Q6n wd l).bind Q37).map fun n=>us st n)
 (h:Q68 w R o ((Q6n wd l).bind Q37) r w'):Q5a w R B i at_ p x st l r w':=by
 unfold Q5a;rw[hm];cases hX:(Q6n wd l).bind Q37 with
 |none=>
  rw[hX] at h;obtain ⟨rfl,hb⟩:=h;exact ⟨p,x,hI.step hb,Kp.of_below hb hB,rfl,fun h=>by omega⟩
 |some n=>
  rw[hX] at h;obtain ⟨rfl,w1,hb,rfl⟩:=h;have R8:=hI.step hb;have O0:o<(rpL p x).length:=by simpa[rpL] using ho
  have D5:=R8.blk.set O0 (.int .i64 (n:Int));rw[<-h1] at D5;have hr:=h2 _ (n:Int) (R8.rest.set (i:=o) R8.blk O0 (Q6z _ _) hR (.int .i64 (n:Int)));exact ⟨p,ux x n,⟨D5,hr.box,hr.t,hr.m,hr.e⟩,(Kp.of_below hb hB).trans (Kp.set _ (.inl rfl) _),rfl,h3 n⟩
theorem Qcv {w w':World} {R B i at_ o:Nat} {p:RpP} {x:RpV} {st:PrS} {l wd:LU} {r:Ending} (up:RpP->Pl->RpP) (ux:RpV->Q2u->RpV) (us:PrS->Option Dyadic->PrS) (hI:Q5x w R B p x) (hR:R<B) (hB:B<=w.heap.size) (R0:StM x st) (ho:o+2<14) (hi:i<6)
 (h1:∀x n e a l c L,rpL (up p ⟨a,l,c⟩) (ux x ⟨n,e,L⟩)=(((rpL p x).set o (.bool n)).set (o+1) (.int .i64 e)).set (o+2) (.slice a l c)) (h2:∀(W:World) x q nv,Q75 W B p x->Q0f W q.a q.l q.c nv->Q75 W B (up p q) (ux x nv))
 (h3:∀nv d ov ov',Qly nv d->Qdh ov ov'->StM (ux { x with over:=ov } nv) { us st d with over:=ov' }) (hm:Qaw i at_ l st=((Q6n wd l).bind Qgv).map fun d=>{ us st d with over:=Q61 st.over at_ d })
 (h:Qr4 w R at_ R o x.over (Q6n wd l) r w'):Q5a w R B i at_ p x st l r w':=by
 unfold Q5a;rw[hm];cases hX:Q6n wd l with
 |none=>
  rw[hX] at h;obtain ⟨rfl,rfl⟩:=h;exact ⟨p,x,hI,Kp.refl _ _ _,rfl,fun h=>by omega⟩
 |some t=>
  rw[hX] at h;obtain ⟨n,e,a,l,c,L,er,w1,rfl,E8,hb,hw,rfl⟩:=h;have hx:=Q28 E8;have R8:=hI.step hb;have K2:Q0f w1 a l c ⟨n,e,L⟩:=⟨hw,hx.1.1,hx.1.2⟩;have S3:=Kp.of_below (R:=R) hb hB;have hRl:(14:Nat)<(rpL p x).length:=by simp[rpL]
  have I2:∀(W:World) (ov:Int),Q5x W R B p { x with over:=ov }->Q0f W a l c ⟨n,e,L⟩->Kp R B w W->((er != 5)=false∨∃d,Qgv t=some d/\(er != 5)=true/\Qly ⟨n,e,L⟩ d/\Qdh ov (Q61 st.over at_ d))->
   ∃p' x',Q5x (Q35 W R o n e (.slice a l c)) R B p' x'/\Kp R B w (Q35 W R o n e (.slice a l c))/\(((er != 5)=false)∨∃d,Qgv t=some d/\(er != 5)=true/\StM x' { us st d with over:=Q61 st.over at_ d }):=by
   intro W ov hz hNW hkW hd;have O0:o+2<(rpL p { x with over:=ov }).length:=(by simp[rpL];omega);have D5:=hz.blk.store O0 n e (.slice a l c);rw[<-h1] at D5;have hr:=h2 _ _ ⟨a,l,c⟩ _ (hz.rest.num hz.blk O0 (Q6z _ _) hR n e a l c) (hNW.store hz.blk O0 (Q6z _ _) n e (.slice a l c));refine ⟨_,_,⟨D5,hr.box,hr.t,hr.m,hr.e⟩,hkW.trans (Kp.num W (.inl rfl) n e _),?_⟩;rcases hd with hd|⟨d,hd,h5,h6,h7⟩
   ·exact .inl hd
   ·exact .inr ⟨d,hd,h5,h3 _ _ _ _ h6 h7⟩
  have YW:((er != 5)=false/\Qgv t=none)∨∃d,Qgv t=some d/\(er != 5)=true/\Qly ⟨n,e,L⟩ d/\Qdh (if er=2/\x.over<0 then (at_:Int) else x.over) (Q61 st.over at_ d):=by
   rcases hx.2 with ⟨h5,rfl⟩|⟨d,h5,h6,h7⟩
   ·exact .inl ⟨rfl,h5⟩
   ·refine .inr ⟨d,h5,?_,h6,Qaf R0.over h7 at_⟩;rcases h7 with ⟨_,rfl⟩|⟨_,rfl⟩ <;> rfl
  have hW:∃W,(if er=2/\x.over<0 then w1.setCell ⟨R,14,none⟩ (.int .i64 (at_:Int)) else w1)=W/\Q5x W R B p { x with over:=if er=2/\x.over<0 then (at_:Int) else x.over }/\Q0f W a l c ⟨n,e,L⟩/\Kp R B w W:=by
   by_cases hc:er=2/\x.over<0
   ·rw[Uu hc,Uu hc];exact ⟨_,rfl,R8.over hR (at_:Int),K2.blk R8.blk hRl (Q6z _ _) _,S3.trans (Kp.set _ (.inl rfl) _)⟩
   ·rw[Uq hc,Uq hc];exact ⟨_,rfl,R8,K2,S3⟩
  obtain ⟨W,hWe,hz,hNW,hkW⟩:=hW;rw[hWe];obtain ⟨p',x',hr,hk,hd⟩:=I2 W _ hz hNW hkW (YW.imp (fun h=>h.1) id);refine ⟨p',x',hr,hk,?_⟩;rw[Xat];rcases YW with ⟨h5,h6⟩|⟨d,h5,h6,_⟩
  ·rw[h6,h5];exact ⟨rfl,fun h=>by omega⟩
  ·rcases hd with hd|⟨d',t7,_,hs⟩
   ·rw[h6] at hd;cases hd
   ·rw[t7,h6];exact ⟨rfl,hs⟩
theorem Qo2 (R B i at_:Nat) (p:RpP) (x:RpV) (st:PrS) (s:ByteArray) (w:World) (hs:s.size<=1000000) (hT:∀W,Kp R B w W->Q3r W) (hI:Q5x w R B p x) (hR:R<B) (hB:B<=w.heap.size) (R0:StM x st):
 Calls Tryz.prog 83 #[.pointer (some ⟨R,0,none⟩),.int .i64 (i:Int),.int .i64 (at_:Int),.string s] w (Q5a w R B i at_ p x st s.data.toList):=by
 have X6:∀(wd:LU) (o:Nat),wd.length<=100->o<15->Calls Tryz.prog 125 #[.string s,.string ⟨wd.toArray⟩,.pointer (some ⟨R,o,none⟩)] w (Q68 w R o ((Q6n wd s.data.toList).bind Q37)):=fun wd o hw ho=>by
  have O0:o<(rpL p x).length:=by simpa[rpL] using ho
  exact Qny s wd R o _ w hs hw (hI.blk.c o _ (Ub O0)) (hI.blk.f o O0)
 have QJ:∀(wd:LU) (o:Nat),wd.length<=100->o+2<14->Calls Tryz.prog 126 #[.pointer (some ⟨R,0,none⟩),.int .i64 (at_:Int),.string s,.string ⟨wd.toArray⟩,.pointer (some ⟨R,o,none⟩)] w (Qr4 w R at_ R o x.over (Q6n wd s.data.toList)):=fun wd o hw ho=>
  Qkf R at_ R o x.over s wd w hs hw (hT w (Kp.refl _ _ _)) (hI.blk.c 14 _ rfl) (hI.blk.f 14 (by simp[rpL])) (hI.blk.num (by simp[rpL];omega)) (.inr ho)
 by_cases hi:i<6
 ·have h0:i=0∨i=1∨i=2∨i=3∨i=4∨i=5:=by omega
  rcases h0 with rfl|rfl|rfl|rfl|rfl|rfl
  ·have hc:=(X6 Qbz 11 (by decide) (by decide)).mono fun r w' h=>Q5a.yn (Qcu (i:=0) (at_:=at_) (o:=11) (l:=s.data.toList) (wd:=Qbz) (fun x n=>{ x with prec:=n }) (fun st n=>{ st with prec:=n }) hI hR hB (by decide) (by decide) (fun _=>rfl) (fun _ _ h=>⟨h.box,h.t,h.m,h.e⟩) (fun n=>⟨rfl,R0.order,R0.budget,R0.til,R0.most,R0.least,R0.len,R0.box,R0.over⟩) rfl h);generalize hK:Q5a w R B 0 at_ p x st s.data.toList=K at hc⊢;clear hK X6 QJ hT R0
   go_enter Tryz.func83,Tryz.ntmps83
   go_wp2_with (go_at_call 125;refine hc.mono ?_;rintro r w1 ⟨b,rfl,hk⟩;have HK:=Ua hk;clear hk)
   exact HK.out
  ·have hc:=(X6 Q7d 12 (by decide) (by decide)).mono fun r w' h=>Q5a.yn (Qcu (i:=1) (at_:=at_) (o:=12) (l:=s.data.toList) (wd:=Q7d) (fun x n=>{ x with order:=n }) (fun st n=>{ st with order:=n }) hI hR hB (by decide) (by decide) (fun _=>rfl) (fun _ _ h=>⟨h.box,h.t,h.m,h.e⟩) (fun n=>⟨R0.prec,rfl,R0.budget,R0.til,R0.most,R0.least,R0.len,R0.box,R0.over⟩) rfl h);generalize hK:Q5a w R B 1 at_ p x st s.data.toList=K at hc⊢;clear hK X6 QJ hT R0
   go_enter Tryz.func83,Tryz.ntmps83
   go_wp2_with (go_at_call 125;refine hc.mono ?_;rintro r w1 ⟨b,rfl,hk⟩;have HK:=Ua hk;clear hk)
   exact HK.out
  ·have hc:=(X6 Q54 13 (by decide) (by decide)).mono fun r w' h=>Q5a.yn (Qcu (i:=2) (at_:=at_) (o:=13) (l:=s.data.toList) (wd:=Q54) (fun x n=>{ x with budget:=n }) (fun st n=>{ st with budget:=n }) hI hR hB (by decide) (by decide) (fun _=>rfl) (fun _ _ h=>⟨h.box,h.t,h.m,h.e⟩) (fun n=>⟨R0.prec,R0.order,rfl,R0.til,R0.most,R0.least,R0.len,R0.box,R0.over⟩) rfl h);generalize hK:Q5a w R B 2 at_ p x st s.data.toList=K at hc⊢;clear hK X6 QJ hT R0
   go_enter Tryz.func83,Tryz.ntmps83
   go_wp2_with (go_at_call 125;refine hc.mono ?_;rintro r w1 ⟨b,rfl,hk⟩;have HK:=Ua hk;clear hk)
   exact HK.out
  ·have hc:=(QJ Q7e 2 (by decide) (by decide)).mono fun r w' h=>Q5a.yn (Qcv (i:=3) (at_:=at_) (o:=2) (l:=s.data.toList) (wd:=Q7e) (fun p q=>{ p with t:=q }) (fun x n=>{ x with til:=n }) (fun st d=>{ st with til:=d }) hI hR hB R0 (by decide) (by decide) (fun _ _ _ _ _ _ _=>rfl) (fun _ _ _ _ h h1=>⟨h.box,h1,h.m,h.e⟩) (fun _ _ _ _ h1 h2=>⟨R0.prec,R0.order,R0.budget,h1,R0.most,R0.least,R0.len,R0.box,h2⟩) rfl h);generalize hK:Q5a w R B 3 at_ p x st s.data.toList=K at hc⊢;clear hK X6 QJ hT R0
   go_enter Tryz.func83,Tryz.ntmps83
   go_wp2_with (go_at_call 126;refine hc.mono ?_;rintro r w1 ⟨b,rfl,hk⟩;have HK:=Ua hk;clear hk)
   exact HK.out
  ·have hc:=(QJ Qc0 5 (by decide) (by decide)).mono fun r w' h=>Q5a.yn (Qcv (i:=4) (at_:=at_) (o:=5) (l:=s.data.toList) (wd:=Qc0) (fun p q=>{ p with m:=q }) (fun x n=>{ x with most:=n }) (fun st d=>{ st with most:=d }) hI hR hB R0 (by decide) (by decide) (fun _ _ _ _ _ _ _=>rfl) (fun _ _ _ _ h h1=>⟨h.box,h.t,h1,h.e⟩) (fun _ _ _ _ h1 h2=>⟨R0.prec,R0.order,R0.budget,R0.til,h1,R0.least,R0.len,R0.box,h2⟩) rfl h);generalize hK:Q5a w R B 4 at_ p x st s.data.toList=K at hc⊢;clear hK X6 QJ hT R0
   go_enter Tryz.func83,Tryz.ntmps83
   go_wp2_with (go_at_call 126;refine hc.mono ?_;rintro r w1 ⟨b,rfl,hk⟩;have HK:=Ua hk;clear hk)
   exact HK.out
  ·have hc:=(QJ Q7f 8 (by decide) (by decide)).mono fun r w' h=>Q5a.yn (Qcv (i:=5) (at_:=at_) (o:=8) (l:=s.data.toList) (wd:=Q7f) (fun p q=>{ p with e:=q }) (fun x n=>{ x with least:=n }) (fun st d=>{ st with least:=d }) hI hR hB R0 (by decide) (by decide) (fun _ _ _ _ _ _ _=>rfl) (fun _ _ _ _ h h1=>⟨h.box,h.t,h.m,h1⟩) (fun _ _ _ _ h1 h2=>⟨R0.prec,R0.order,R0.budget,R0.til,R0.most,h1,R0.len,R0.box,h2⟩) rfl h);generalize hK:Q5a w R B 5 at_ p x st s.data.toList=K at hc⊢;clear hK X6 QJ hT R0
   go_enter Tryz.func83,Tryz.ntmps83
   go_wp2_with (go_at_call 126;refine hc.mono ?_;rintro r w1 ⟨b,rfl,hk⟩;have HK:=Ua hk;clear hk)
   exact HK.out
 ·have h0:((i:Int)==0)=false:=by rw[Uk];omega
  have h1:((i:Int)==1)=false:=by rw[Uk];omega
  have h2:((i:Int)==2)=false:=by rw[Uk];omega
  have h3:((i:Int)==3)=false:=by rw[Uk];omega
  have h4:((i:Int)==4)=false:=by rw[Uk];omega
  have h5:((i:Int)==5)=false:=by rw[Uk];omega
  have A8:=Qo1 (p:=at_) (l:=s.data.toList) (st:=st) (Nat.le_of_not_lt hi);have k1:=hI.blk.c 1 _ rfl;have K4:st.box.length=p.b.l:=R0.len.symm.trans hI.box.len
  by_cases h4b:st.box.length<4
  ·have hc:=(Qdi R B at_ p x st s w hs hT hI hR hB R0 h4b).mono fun r w' h=>Q5a.yn (i:=i) (by
    obtain ⟨p',x',g1,g2,g3⟩:=h;refine ⟨p',x',g1,g2,?_⟩;rw[A8,Uu h4b];cases hX:(Qis s.data.toList).map (fun b=>({ st with box:=st.box++[b],over:=Q61 (Q61 st.over at_ b.1) at_ b.2 }:PrS)) with
    |none=>rw[hX] at g3;exact ⟨g3.1,fun _=>g3.2⟩
    |some st'=>rw[hX] at g3;exact g3)
   generalize hK:Q5a w R B i at_ p x st s.data.toList=K at hc⊢;have Jj:(p.b.l:Int)<4:=(by omega);clear hK X6 QJ hT R0 A8 hi K4 h4b
   go_enter Tryz.func83,Tryz.ntmps83
   go_wp2_with (go_at_call 127;refine hc.mono ?_;rintro r w1 ⟨b,rfl,hk⟩;have HK:=Ua hk;clear hk)
   exact HK.out
  ·have I2:Q5a w R B i at_ p x st s.data.toList (.returned (.bool false)) w:=⟨p,x,hI,Kp.refl _ _ _,by rw[A8,Uq h4b];exact ⟨rfl,fun _=>⟨rfl,x.over,rfl⟩⟩⟩;have HF:=Ua I2;have Jj:¬(p.b.l:Int)<4:=(by omega);clear I2 X6 QJ hT R0 A8 hi K4 h4b
   go_enter Tryz.func83,Tryz.ntmps83
   go_wp2_with fail
   go_ret;exact HF.out
open Go.Shelf
attribute [local go_sem] Oper.semAt_some
structure Sm (w w':World):Prop where
 size:w.heap.size<=w'.heap.size
 keep:∀(k:Nat) (o:Obj),w.heap[k]?=some o->o.isCells=true->w'.heap[k]?=w.heap[k]?
theorem Sm.of_turn {w w':World} {row:Option Nat} (hg:w.grownBy w' row) (hr:∀r,row=some r->∃o:Obj,w.heap[r]?=some o/\o.isCells=false):Sm w w':=
 ⟨hg.size,fun k o hk ho=>hg.block k (Uo.1 hk).1 (fun e=>by
   obtain ⟨o',h1,h2⟩:=hr k e.symm;rw[hk] at h1;injection h1 with h1;subst h1;rw[ho] at h2;cases h2)⟩
theorem Sm.block {w w':World} (h:Sm w w') {p:Addr} {v:Value} (hp:w.cell? p=some v):w'.heap[p.block]?=w.heap[p.block]?:=by
 obtain ⟨o,h1,h2⟩:=cells_of_cell hp;exact h.keep _ o h1 h2
theorem Sm.cell {w w':World} (h:Sm w w') {p:Addr} {v:Value} (hp:w.cell? p=some v):w'.cell? p=some v:=(UK (h.block hp)).trans hp
theorem Q0f.sm {w w':World} {a:OA} {l c:Nat} {x:Q2u} (h:Q0f w a l c x) (hs:Sm w w'):Q0f w' a l c x:=by
 refine ⟨⟨h.lie.len,h.lie.cap,h.lie.most,h.lie.low,?_⟩,h.lo,h.hi⟩;rcases h.lie.rd with h0|⟨b,o,rfl,hb,hc⟩
 ·exact .inl h0
 ·exact .inr ⟨b,o,rfl,Uc hb hs.size,fun j y hy=>hs.cell (hc j y hy)⟩
theorem Blk.sm {w w':World} {b:Nat} {v:Value} {vs:LV} (h:Blk w b (v::vs)) (hs:Sm w w'):Blk w' b (v::vs):=h.same (hs.block (h.c 0 v rfl))
theorem Q1q.sm {w w':World} {B:Nat} {p:Pl} {L:List IvV} (h:Q1q w B p L) (hs:Sm w w'):Q1q w' B p L:=by
 obtain ⟨xs,hr⟩:=h.row;refine ⟨⟨xs,hr.keep fun x hx=>?_⟩,h.len,fun j x hx=>?_⟩
 ·rcases hr.1.form with ⟨h0,_⟩|⟨g,cur,h0,_,_,hh,_⟩
  ·rw[h0] at hx;cases hx
  ·rw[h0] at hx;injection hx with hx;subst hx;exact hs.keep _ _ hh rfl
 ·obtain ⟨g,ha,a,l,c,a2,m,d,⟨h0,h1,h2,h3,h4,h5⟩,h6,h7⟩:=h.ent j x hx;exact ⟨g,ha,a,l,c,a2,m,d,⟨hs.cell h0,hs.cell h1,hs.cell h2,hs.cell h3,hs.cell h4,hs.cell h5⟩,h6.sm hs,h7.sm hs⟩
theorem Q5x.sm {w w':World} {R B:Nat} {p:RpP} {x:RpV} (h:Q5x w R B p x) (hs:Sm w w'):Q5x w' R B p x:=⟨h.blk.sm hs,h.box.sm hs,h.t.sm hs,h.m.sm hs,h.e.sm hs⟩
theorem Q0f.one {w:World} {p:Addr} {v0:Value} {a:OA} {l c:Nat} {x:Q2u} (h:Q0f w a l c x) (hb:w.cell? p=some v0) (hn:NoU v0) (v:Value):Q0f (w.setCell p v) a l c x:=⟨h.lie.set1 hb hn v,h.lo,h.hi⟩
theorem Q5x.box1 {w:World} {R B b:Nat} {p:RpP} {x:RpV} (h:Q5x w R B p x) {v0:Value} (hb:Box w b v0) (hn:NoU v0) (C1:b≠R) (VX:b<B) (v:Value):Q5x (w.setCell ⟨b,0,none⟩ v) R B p x:=by
 refine ⟨h.blk.far C1 v,?_,h.t.one hb.1 hn v,h.m.one hb.1 hn v,h.e.one hb.1 hn v⟩;obtain ⟨xs,hr⟩:=h.box.row;have C4:∀y,p.b.a=some y->y.block≠b:=fun y hy=>by have:=(h.box.lt hy).1;omega
 refine ⟨⟨xs,hr.keep fun x hx=>UX _ _ _ _ (C4 x hx)⟩,h.box.len,fun j x hx=>?_⟩;obtain ⟨g,ha,a,l,c,a2,m,d,⟨h0,h1,h2,h3,h4,h5⟩,h6,h7⟩:=h.box.ent j x hx;have hc:∀k u,w.cell? ⟨g,k,none⟩=some u->(w.setCell ⟨b,0,none⟩ v).cell? ⟨g,k,none⟩=some u:=fun k u hu=>(UK (w:=w) (a:=⟨g,k,none⟩) (UX _ _ _ _ (C4 _ ha))).trans hu;exact ⟨g,ha,a,l,c,a2,m,d,⟨hc _ _ h0,hc _ _ h1,hc _ _ h2,hc _ _ h3,hc _ _ h4,hc _ _ h5⟩,h6.one hb.1 hn v,h7.one hb.1 hn v⟩
theorem Box.kp {w w':World} {R B b:Nat} {v:Value} (h:Box w b v) (hk:Kp R B w w') (h1:b<B) (h2:b≠R):Box w' b v:=⟨(UK (hk.block b h1 h2)).trans h.1,(Xak (hk.block b h1 h2)).trans h.2⟩
def TopR (w:World) (R:Nat) (s:LU) (e:Ending) (w':World):Prop:=∃B p x,Q5x w' R B p x/\Kp R w.heap.size w w'/\R<B/\
 match Qla s (s.length+1) 0 0 PrS.empty with
 | .error (q,er)=>e=.returned (.tuple #[.int .i64 (q:Int),.bool false])/\er=5
 | .ok (q,st)=>e=.returned (.tuple #[.int .i64 (q:Int),.bool true])/\StM x st/\Qty st/\q<=s.length
structure Qy2 (w:World) (R B:Nat) (s:LU) (i q:Nat) (p:RpP) (x:RpV) (st:PrS) (U:World):Prop where
 rd:Q5x U R B p x
 sm:StM x st
 at_:Qcr s i q st
 kp:Kp R w.heap.size w U
 b0:Box U w.heap.size (.pointer (some ⟨R,0,none⟩))
 b1:Box U (w.heap.size+1) (.int .i64 0)
 b2:Box U (w.heap.size+1+1) (.bool false)
 b3:Box U (w.heap.size+1+1+1) (.int .i64 (i:Int))
 b4:Box U (w.heap.size+1+1+1+1) (.int .i64 (q:Int))
def Qyq (w:World) (R B:Nat) (s:LU) (U:World):Prop:=∃i q p x st,Q5x U R B p x/\(6<i->StM x st/\Qty st)/\q<=s.length/\Qla s (s.length+1) 0 0 PrS.empty=(if 6<i then .ok (q,st) else .error (q,5))/\Kp R w.heap.size w U/\Box U (w.heap.size+1) (.int .i64 (q:Int))/\Box U (w.heap.size+1+1) (.bool (decide (6<i)))
theorem Kp.mono {R B B':Nat} {w w':World} (h:Kp R B w w') (hB:B'<=B):Kp R B' w w':=⟨h.os,h.tape,h.output,h.size,fun k h1 h2=>h.block k (by omega) h2,h.oth⟩
theorem Kp.stays {R B B1:Nat} {w w':World} (h:Kp R B w w') (h1:R<B1):Q6y B1 B w w':=⟨h.size,fun k h2 h3=>h.block k h3 (by omega)⟩
theorem Kp.turn {R B:Nat} {w A C:World} {row:Option Nat} (h:Kp R B w A) (hg:A.grownBy C row) (hr:∀r,row=some r->B<=r/\∃o:Obj,A.heap[r]?=some o/\o.isCells=false) (hn:∀r o,row=some r->w.heap[r]?=some o->False) (hB:B<=A.heap.size):Kp R B w C:=
 ⟨hg.os.trans h.os,hg.tape.trans h.tape,hg.output.trans h.output,Uj h.size hg.size,fun k h1 h2=>(hg.block k (by omega) (fun e=>by have:=(hr k e.symm).1;omega)).trans (h.block k h1 h2),
   Uj h.size hg.size,fun k o hk ho=>by
    have h1:=h.oth.same k o hk ho;refine (hg.block k (Uo.1 h1).1 (fun e=>hn k o e.symm hk)).trans h1⟩
theorem Qy2.turn {w:World} {R B:Nat} {s:LU} {i q:Nat} {p:RpP} {x:RpV} {st:PrS} {U V:World} {row:Option Nat} (h:Qy2 w R B s i q p x st U) (hg:U.grownBy V row) (hr:∀r,row=some r->w.heap.size<=r/\∃o:Obj,U.heap[r]?=some o/\o.isCells=false):Qy2 w R B s i q p x st V:=by
 have P1:=fun r e=>(hr r e).2;have F2:=h.kp.size;exact ⟨h.rd.sm (Sm.of_turn hg P1),h.sm,h.at_,h.kp.turn hg hr (fun r o e ho=>by have:=(hr r e).1;have:=(Uo.1 ho).1;omega) F2,h.b0.turned hg P1,h.b1.turned hg P1,h.b2.turned hg P1,h.b3.turned hg P1,h.b4.turned hg P1⟩
theorem Qyq.turn {w:World} {R B:Nat} {s:LU} {U V:World} {row:Option Nat} (h:Qyq w R B s U) (hg:U.grownBy V row) (hr:∀r,row=some r->w.heap.size<=r/\∃o:Obj,U.heap[r]?=some o/\o.isCells=false):Qyq w R B s V:=by
 obtain ⟨i,q,p,x,st,h1,h2,h3,h4,h5,h6,h7⟩:=h;have P1:=fun r e=>(hr r e).2;exact ⟨i,q,p,x,st,h1.sm (Sm.of_turn hg P1),h2,h3,h4,h5.turn hg hr (fun r o e ho=>by have:=(hr r e).1;have:=(Uo.1 ho).1;omega) h5.size,h6.turned hg P1,h7.turned hg P1⟩
theorem Qr7 (R:Nat) (s:ByteArray) (w:World) (hs:s.size<=1000000) (hT2:∀W,Kp R w.heap.size w W->Q3r W) (B0:Nat) (hI:Q5x w R B0 ⟨⟨none,0,0⟩,⟨none,0,0⟩,⟨none,0,0⟩,⟨none,0,0⟩⟩ ⟨[],⟨false,0,[]⟩,⟨false,0,[]⟩,⟨false,0,[]⟩,0,0,0,-1⟩):
 Calls Tryz.prog 48 #[.pointer (some ⟨R,0,none⟩),.string s] w (TopR w R s.data.toList):=by
 have HL:=Xh2 hT2 hI;have hRw:=hI.blk.lt;clear hT2 hI;refine (callsIn_wide (n:=6)).1 ?_;refine callsIn_of_wp_marks Tryz.func48 rfl trivial ?_ rfl;simp only[Tryz.ntmps48,List.size_toArray,Ul,UP,Nat.reduceAdd,Nat.reduceSub,Array.replicate_succ,Array.replicate_zero,List.push_toArray,List.append_toArray,Xaa,Xab]
 gi_wp2_with fail
 refine ⟨trivial,?_⟩;obtain ⟨W,hW⟩:∃W,(((((w.alloc (.cells #[.pointer (some ⟨R,0,none⟩)] 73)).alloc (.cells #[.int .i64 0] 3)).alloc (.cells #[.bool false] 4)).alloc (.cells #[.int .i64 0] 3)).alloc (.cells #[.int .i64 0] 3))=W:=⟨_,rfl⟩;have hWb:Bw w W:=by
  rw[<-hW];exact ((((Ba).alloc (by simp) _).alloc (by simp only[Ur];omega) _).alloc (by simp only[Ur];omega) _).alloc (by simp only[Ur];omega) _
 have hWs:W.heap.size=w.heap.size+5:=by rw[<-hW];simp
 have Y5:Box W w.heap.size (.pointer (some ⟨R,0,none⟩)):=by rw[<-hW];exact ((((Box.new w _ _).alloc _).alloc _).alloc _).alloc _
 have K5:Box W (w.heap.size+1) (.int .i64 0):=by
  have:=Box.new (w.alloc (.cells #[.pointer (some ⟨R,0,none⟩)] 73)) (.int .i64 0) 3;rw[Ur] at this;rw[<-hW];exact ((this.alloc _).alloc _).alloc _
 have Z3:Box W (w.heap.size+1+1) (.bool false):=by
  have:=Box.new ((w.alloc (.cells #[.pointer (some ⟨R,0,none⟩)] 73)).alloc (.cells #[.int .i64 0] 3)) (.bool false) 4;rw[Ur,Ur] at this;rw[<-hW];exact (this.alloc _).alloc _
 have Vf:Box W (w.heap.size+1+1+1) (.int .i64 0):=by
  have:=Box.new (((w.alloc (.cells #[.pointer (some ⟨R,0,none⟩)] 73)).alloc (.cells #[.int .i64 0] 3)).alloc (.cells #[.bool false] 4)) (.int .i64 0) 3;rw[Ur,Ur,Ur] at this;rw[<-hW];exact this.alloc _
 have hx4:Box W (w.heap.size+1+1+1+1) (.int .i64 0):=by
  have:=Box.new ((((w.alloc (.cells #[.pointer (some ⟨R,0,none⟩)] 73)).alloc (.cells #[.int .i64 0] 3)).alloc (.cells #[.bool false] 4)).alloc (.cells #[.int .i64 0] 3)) (.int .i64 0) 3;rw[Ur,Ur,Ur,Ur] at this;rw[<-hW];exact this
 rw[hW];clear hW;refine (callsIn_wide.2 (Qnv s W)).mono ?_;rintro e w1 ⟨rfl,A2,C0,Kr⟩;have Xf:Bw w w1:=hWb.trans (C0.mono hWb.size);obtain ⟨B,hBe⟩:∃B,w1.heap.size=B:=⟨_,rfl⟩;have Kn:w.heap.size+5<B:=by omega
 have hI0:Qy2 w R B s.data.toList 0 0 ⟨⟨none,0,0⟩,⟨none,0,0⟩,⟨none,0,0⟩,⟨none,0,0⟩⟩ ⟨[],⟨false,0,[]⟩,⟨false,0,[]⟩,⟨false,0,[]⟩,0,0,0,-1⟩ PrS.empty w1:=by
  have h1:=(Xe1 HL).step Xf;refine ⟨⟨h1.blk,Q1q.nil_ _ _,h1.t,h1.m,h1.e⟩,?_,Qcr.zero _,Kp.of_below Xf (Ue _),Y5.call C0,K5.call C0,Z3.call C0,Vf.call C0,hx4.call C0⟩;have hz:Qly ⟨false,0,[]⟩ (some 0):=fun y hy=>by
   injection hy with hy;subst hy;exact ⟨by unfold Q2u.ok Q0a;simp,rfl⟩
  exact ⟨rfl,rfl,rfl,hz,hz,hz,rfl,fun j a b h=>by simp at h,rfl⟩
 have HW:=Xh3 hWs hBe Xf;have HI0:=Ua hI0;clear Y5 K5 Z3 Vf hx4 C0 hWb hWs hI0 Xf
 gi_wp2_with fail
 refine Qfq rfl (by omega) (gf:=123) (lb:= #[.pointer (some ⟨W.heap.size,0,none⟩)]) rfl trivial (enters_of Tryz.func123 (by kernel_rfl) rfl)
  (Qi8 _ (by omega) W.heap.size s hs w1 A2 Kr) (fun h k=>h.trans k) (fun W l o o' hl _ _=>Q6y.turn W l o' hl) (fun pre x W l o o' hk _ _ _=>hk) (Ud _ _) (fun _=>rfl)
  (fun pre U=>(∃p x st,Qy2 w R B s.data.toList pre.length (Qoe pre) p x st U)/\B<=U.heap.size)
  (fun c _ U=>(c=.ret/\Qyq w R B s.data.toList U)/\B<=U.heap.size)
  ?o1 ?o2 ?h0 ?_ ?_ ?_ ?_ ?_
 case o1=>
  rintro pre U V row ⟨⟨p,x,st,h⟩,hl⟩ hg hr;exact ⟨⟨p,x,st,h.turn hg fun r e=>⟨by have:=(hr r e).1;omega,(hr r e).2⟩⟩,Uj hl hg.size⟩
 case o2=>
  rintro c pre U V row ⟨⟨hc,h⟩,hl⟩ hg hr;exact ⟨⟨hc,h.turn hg fun r e=>⟨by have:=(hr r e).1;omega,(hr r e).2⟩⟩,Uj hl hg.size⟩
 case h0=>exact ⟨⟨_,_,_,HI0.out⟩,by omega⟩
 case refine_2=>
  intro l x U K hK;simp only[LnP.encs]
  gi_wp2
  exact hK
 case refine_4=>
  rintro D xs U hD ⟨Q3,_⟩ ⟨⟨p,x,st,hI⟩,hl⟩ hK;have hp:=hI.at_.end_ Q3;have hq:=hI.at_.le;have ZQ:=hI.at_.full;have k1:=hI.b1.1;have k2:=hI.b2.1;have k3:=hI.b3.1;have k4:=hI.b4.1;have f1:=hI.b1.2;have f2:=hI.b2.2;have QX:s.data.toList.length=s.size:=(Lib.size_eq s).symm;have HE:=Xh6 hp hq ZQ hI hl QX;have YR:∀(v1 v2:Value),NoU v1->NoU v2->∃V,(U.setCell ⟨w.heap.size+1,0,none⟩ v1).setCell ⟨w.heap.size+1+1,0,none⟩ v2=V/\V.heap[D]?=some (.deferred (some []))/\Q5x (V.putObj D (.deferred none)) R B p x/\Kp R w.heap.size w (V.putObj D (.deferred none))/\(V.putObj D (.deferred none)).cell? ⟨w.heap.size+1,0,none⟩=some v1/\(V.putObj D (.deferred none)).cell? ⟨w.heap.size+1+1,0,none⟩=some v2:=by
   intro v1 v2 n1 n2;obtain ⟨V,hV⟩:∃V,(U.setCell ⟨w.heap.size+1,0,none⟩ v1).setCell ⟨w.heap.size+1+1,0,none⟩ v2=V:=⟨_,rfl⟩;have b1:Box V (w.heap.size+1) v1:=(by rw[<-hV];exact (hI.b1.set _).other (by simp) _);have b2':Box (U.setCell ⟨w.heap.size+1,0,none⟩ v1) (w.heap.size+1+1) (.bool false):=hI.b2.other (by simp) _;have b2:Box V (w.heap.size+1+1) v2:=(by rw[<-hV];exact b2'.set _);have hr:Q5x V R B p x:=(by rw[<-hV];exact (hI.rd.box1 hI.b1 (Q2q _) (by omega) (by omega) _).box1 b2' (Q2g _) (by omega) (by omega) _);have hk:Kp R w.heap.size w V:=(by rw[<-hV];exact (hI.kp.trans (Kp.set _ (.inr (by omega)) _)).trans (Kp.set _ (.inr (by omega)) _));have vK:V.heap[D]?=some (.deferred (some [])):=(by rw[<-hV];exact ((KeepsOthers.setCell _ _ _).trans (KeepsOthers.setCell _ _ _)).same D _ hK rfl);have hg:=grownBy_putObj' V D (.deferred none);have P1:∀r,some D=some r->∃o:Obj,V.heap[r]?=some o/\o.isCells=false:=fun r e=>by cases e;exact ⟨_,vK,rfl⟩
   refine ⟨V,hV,vK,hr.sm (Sm.of_turn hg P1),hk.turn hg (fun r e=>⟨by cases e;omega,P1 r e⟩) (fun r o e ho=>by cases e;have:=(Uo.1 ho).1;omega) hk.size,(b1.turned hg P1).1,(b2.turned hg P1).1⟩
  have HZ:=Ua YR;clear hp hq ZQ hI hl QX YR A2
  by_cases h6:xs.length<=6
  ·have h6':(xs.length:Int)<=6:=by omega
   gi_wp2_with fail
   obtain ⟨V,hV,vK,hr,hk,z1,z2⟩:=HZ.out (.int .i64 (s.size:Int)) (.bool false) (Q2q _) (Q2g _);have HV:=Xh2 hr hk;rw[hV];clear hV hr hk;refine ⟨by simp,.inl ⟨_,_,rfl,run_takeDeferred vK,?_⟩⟩;refine ⟨.tuple #[.int .i64 (s.size:Int),.bool false],by simp[results,go_sem,z1,z2],?_⟩;refine ⟨B,p,x,(Xo0 HV),(Xe1 HV),by omega,?_⟩;rw[(Xo0 HE),Uu h6];exact ⟨by rw[(Xe5 HE)],rfl⟩
  ·have h6':¬(xs.length:Int)<=6:=by omega
   gi_wp2_with fail
   obtain ⟨V,hV,vK,hr,hk,z1,z2⟩:=HZ.out (.int .i64 (Qoe xs:Int)) (.bool true) (Q2q _) (Q2g _);have HV:=Xh2 hr hk;rw[hV];clear hV hr hk;refine ⟨by simp,.inl ⟨_,_,rfl,run_takeDeferred vK,?_⟩⟩;refine ⟨.tuple #[.int .i64 (Qoe xs:Int),.bool true],by simp[results,go_sem,z1,z2],?_⟩;refine ⟨B,p,x,(Xo0 HV),(Xe1 HV),by omega,?_⟩;rw[(Xo0 HE),Uq h6];exact ⟨rfl,(Xo3 HE).sm,(Xo2 HE),(Xo1 HE)⟩
 case refine_5=>
  rintro D cd pre U hD _ ⟨⟨rfl,i,q,p,x,st,h1,h2,h3,h4,h5,b1,b2⟩,hl⟩ hK;have hg:=grownBy_putObj' U D (.deferred none);have P1:∀r,some D=some r->∃o:Obj,U.heap[r]?=some o/\o.isCells=false:=fun r e=>by cases e;exact ⟨_,hK,rfl⟩
  have z1:=(b1.turned hg P1).1;have z2:=(b2.turned hg P1).1;have hr:=h1.sm (Sm.of_turn hg P1);have hk:Kp R w.heap.size w (U.putObj D (.deferred none)):=h5.turn hg (fun r e=>⟨by cases e;omega,P1 r e⟩) (fun r o e ho=>by cases e;have:=(Uo.1 ho).1;omega) h5.size;have HV:=Xh5 hr hk h2 h3 h4;clear hr hk h1 h2 h3 h4 h5 hg P1 A2 b1 b2
  gi_wp2_with fail
  refine ⟨by simp,.inl ⟨_,_,rfl,run_takeDeferred hK,?_⟩⟩;refine ⟨.tuple #[.int .i64 (q:Int),.bool (decide (6<i))],by simp[results,go_sem,z1,z2],?_⟩;refine ⟨B,p,x,(Xo0 HV),(Xo1 HV),by omega,?_⟩;rw[(Xe4 HV)]
  by_cases h6:6<i
  ·rw[Uu h6,UW h6];exact ⟨rfl,((Xo2 HV) h6).1,((Xo2 HV) h6).2,(Xo3 HV)⟩
  ·rw[Uq h6,UU h6];exact ⟨rfl,rfl⟩
 case refine_3=>
  rintro l pre ⟨at_,t⟩ U ⟨⟨p,x,st,hI⟩,hl⟩ X1;have J2:at_=Qoe pre:=X1.1;have hltp:at_+t.size<s.size:=X1.2.1;have P2:Q97 s.data.toList at_=some t.data.toList:=X1.2.2;rw[<-J2] at hI;obtain ⟨n,hn⟩:∃n,pre.length=n:=⟨_,rfl⟩;rw[hn] at hI;have hnle:n<=at_:=hI.at_.ip;have J6:t.data.toList.length=t.size:=(Lib.size_eq t).symm;have Kc:R<B:=by omega
  have hwB:w.heap.size<=B:=by omega
  have hlin:=Qo2 R B n at_ p x st t U (by omega) (fun W hW=>(Xo0 HL) W (hI.kp.trans (hW.mono hwB))) hI.rd Kc (by omega) hI.sm;have k0:=hI.b0.1;have k3:=hI.b3.1;have k14:=hI.rd.blk.c 14 _ rfl;have HOK:=Xh4 J2 P2 J6 hlin;have JZ:=Xh5 hI Kc hwB hl hn;clear X1 J2 P2 J6 hlin hI Kc hwB hl A2 hn
  gi_wp2_with fail
  refine ⟨trivial,?_⟩;refine (callsIn_wide.2 (Xe3 HOK)).mono ?_;rintro e U1 ⟨p',x',P3,S3,hm⟩;have c0:=(Xo0 JZ).b0.kp S3 (by omega) (by omega);have c1:=(Xo0 JZ).b1.kp S3 (by omega) (by omega);have c2:=(Xo0 JZ).b2.kp S3 (by omega) (by omega);have c3:=(Xo0 JZ).b3.kp S3 (by omega) (by omega);have c4:=(Xo0 JZ).b4.kp S3 (by omega) (by omega);cases A8:Qaw n at_ t.data.toList st with
  |none=>
   rw[A8] at hm;obtain ⟨rfl,Vw⟩:=hm;have XA:=(Xo0 JZ).at_.bad (Xo1 HOK) A8;have k14':=P3.blk.c 14 _ rfl;have f14:=P3.blk.f 14 (by simp[rpL]);have q0:=c0.1;have q1:=c1.1;have q2:=c2.1;have q3:=c3.1;have g1:=c1.2;have g2:=c2.2;have HN:=Xh6 P3 S3 XA Vw c1 c2;clear P3 S3 XA Vw A8 c0 c1 c2 c3 c4;have hmix:Tryz.prog.follows .mixedOrders=true:=(by kernel_rfl);obtain ⟨U2,VL⟩:∃U2,U1.setCell ⟨R,14,none⟩ (.int .i64 x.over)=U2:=⟨_,rfl⟩;have XZ:(U1.setCell ⟨R,14,none⟩ (.int .i64 x.over)).cell? ⟨w.heap.size+1+1+1,0,none⟩=some (.int .i64 (n:Int)):=(UK (UX _ _ _ _ (by show w.heap.size+1+1+1≠R;omega))).trans q3
   gi_wp2_with fail
   have d1:Box U2 (w.heap.size+1) (.int .i64 0):=(by rw[<-VL];exact (Xo4 HN).other (by show R≠w.heap.size+1;omega) _);have d2:Box U2 (w.heap.size+1+1) (.bool false):=(by rw[<-VL];exact (Xe5 HN).other (by show R≠w.heap.size+1+1;omega) _);rw[VL] at XZ;have HU:=Ua VL;clear VL q0 q1 q2 q3 g1 g2 k0 k3 k14 k14' f14;have q1:=d1.1;have q2:=d2.1;have g1:=d1.2;have g2:=d2.2
   gi_region
   all_goals gi_wp2_with fail
   all_goals
    obtain ⟨P3,S3,XA,Vw,_,_⟩:=HN.out;have Kc:=(Xo1 JZ);have hwB:=(Xo2 JZ);have VL:=HU.out;have P1:Q5x U2 R B p' { x' with over:=x.over }:=(by rw[<-VL];exact P3.over Kc x.over);have K6:Kp R w.heap.size w U2:=(by rw[<-VL];exact ((Xo0 JZ).kp.trans (S3.mono hwB)).trans (Kp.set _ (.inl rfl) _));have ZE:KeepsOthers U U2:=(by rw[<-VL];exact S3.oth.trans (KeepsOthers.setCell _ _ _));have Z6:B<=U2.heap.size:=(by rw[<-VL,Tk];exact Uj (Xo3 JZ) S3.size);have d2':Box (U2.setCell ⟨w.heap.size+1,0,none⟩ (.int .i64 (at_:Int))) (w.heap.size+1+1) (.bool false):=d2.other (by simp) _;have D4:decide ((6:Int)<(n:Int))=decide (6<n):=decide_eq_decide.2 (by omega);rw[D4];have Zg:=(P1.box1 d1 (Q2q _) (by omega) (by omega) (.int .i64 (at_:Int))).box1 d2' (Q2g _) (by omega) (by omega) (.bool (decide (6<n)));have JF:=(K6.trans (Kp.set (R:=R) (B:=w.heap.size) U2 (b:=w.heap.size+1) (i:=0) (.inr (by omega)) (.int .i64 (at_:Int)))).trans (Kp.set (R:=R) (B:=w.heap.size) _ (b:=w.heap.size+1+1) (i:=0) (.inr (by omega)) (.bool (decide (6<n))));have e1:Box ((U2.setCell ⟨w.heap.size+1,0,none⟩ (.int .i64 (at_:Int))).setCell ⟨w.heap.size+1+1,0,none⟩ (.bool (decide (6<n)))) (w.heap.size+1) (.int .i64 (at_:Int)):=(d1.set _).other (by simp) _;have e2:Box ((U2.setCell ⟨w.heap.size+1,0,none⟩ (.int .i64 (at_:Int))).setCell ⟨w.heap.size+1+1,0,none⟩ (.bool (decide (6<n)))) (w.heap.size+1+1) (.bool (decide (6<n))):=d2'.set _;have Y7:=ZE.trans ((KeepsOthers.setCell U2 ⟨w.heap.size+1,0,none⟩ (.int .i64 (at_:Int))).trans (KeepsOthers.setCell _ ⟨w.heap.size+1+1,0,none⟩ (.bool (decide (6<n)))));refine ⟨⟨Y7.size,fun k o _ hk ho=>Y7.same k o hk ho⟩,⟨rfl,n,at_,p',{ x' with over:=x.over },st,Zg.sm ⟨Ue _,fun _ _ _ _=>rfl⟩,fun h6=>?_,(Xo0 JZ).at_.le,XA,⟨JF.os,JF.tape,JF.output,JF.size,JF.block,⟨JF.oth.size,JF.oth.same⟩⟩,e1,e2⟩,by show B<=((U2.setCell _ _).setCell _ _).heap.size;simp only[Tk];exact Z6⟩;obtain ⟨rfl,o,rfl⟩:=Vw (by omega);exact ⟨(Xo0 JZ).sm,(Xo0 JZ).at_.full⟩
  |some st'=>
   rw[A8] at hm;obtain ⟨rfl,Vx⟩:=hm;have x4:=(Xo0 JZ).at_.step (Xo1 HOK) A8;rw[(Xo2 HOK)] at x4;have q0:=c0.1;have q3:=c3.1;have q4:=c4.1;have g3:=c3.2;have g4:=c4.2;have HN:=Xh9 P3 S3 Vx x4 c0 c1 c2 c3 c4;clear P3 S3 Vx x4 A8 c0 c1 c2 c3 c4
   gi_wp2_with fail
   obtain ⟨P3,S3,Vx,x4,c0,c1,c2,c3,c4⟩:=HN.out;have hw:W.heap.size=w.heap.size+5:=(Xo0 HW);have hBe:w1.heap.size=B:=(Xo1 HW);have Kc:=(Xo1 JZ);have hwB:=(Xo2 JZ);have d4:Box (U1.setCell ⟨w.heap.size+1+1+1,0,none⟩ (.int .i64 ((n:Int)+1))) (w.heap.size+1+1+1+1) (.int .i64 (at_:Int)):=c4.other (by simp) _;have hrV:=(P3.box1 c3 (Q2q _) (by omega) (by omega) (.int .i64 ((n:Int)+1))).box1 d4 (Q2q _) (by omega) (by omega) (.int .i64 ((at_:Int)+(t.size:Int)+1));have hkV:Kp R w.heap.size w ((U1.setCell ⟨w.heap.size+1+1+1,0,none⟩ (.int .i64 ((n:Int)+1))).setCell ⟨w.heap.size+1+1+1+1,0,none⟩ (.int .i64 ((at_:Int)+(t.size:Int)+1))):=(((Xo0 JZ).kp.trans (S3.mono hwB)).trans (Kp.set _ (.inr (by omega)) _)).trans (Kp.set _ (.inr (by omega)) _);refine ⟨(S3.oth.trans ((KeepsOthers.setCell _ _ _).trans (KeepsOthers.setCell _ _ _))).from _,?_,⟨p',x',st',?_⟩,?_⟩
   ·rw[hBe];exact Q6y.setCell (Q6y.setCell (S3.stays (by omega)) (.inl (by show w.heap.size+1+1+1<_;omega)) _) (.inl (by show w.heap.size+1+1+1+1<_;omega)) _
   ·rw[Ui,List.length_singleton,(Xe4 JZ),Qi7];refine ⟨hrV,Vx,x4,hkV,?_,?_,?_,?_,?_⟩
    ·exact (c0.other (by simp <;> omega) _).other (by simp <;> omega) _
    ·exact (c1.other (by simp <;> omega) _).other (by simp <;> omega) _
    ·exact (c2.other (by simp <;> omega) _).other (by simp <;> omega) _
    ·exact (c3.set _).other (by simp) _
    ·exact d4.set _
   ·simp only[Tk];exact Uj (Xo3 JZ) S3.size
end Go.Proofs.YtidojbkhlenahaaGreatDoor
namespace Go.Proofs.YtidojbkhlenahaaGreatDoor
open Go.RowKit WordsM
def uv (n:Nat):Value:=.int .u64 (n:Int)
def RdU (w:World) (B:Nat) (a:OA) (ls:LN):Prop:=
 ls=[]∨∃b o,a=some ⟨b,o,none⟩/\b<B/\∀(j:Nat) x,ls[j]?=some x->w.cell? ⟨b,o+j,none⟩=some (uv x)
theorem RdU.keep {w w':World} {B:Nat} {a:OA} {ls:LN} (h:RdU w B a ls) (hk:∀p:Addr,p.block<B->w'.cell? p=w.cell? p):RdU w' B a ls:=by
 rcases h with rfl|⟨b,o,rfl,hb,hc⟩
 ·exact .inl rfl
 ·exact .inr ⟨b,o,rfl,hb,fun j x hx=>(hk _ hb).trans (hc j x hx)⟩
def Q42 (w:World) (b i:Nat):Prop:=∃a n c ls,w.heap[b]?=some (.cells #[.slice a n c,.int .i64 (i:Int)] 103 (0,0))/\ls.length=n/\n<=9223372036854775807/\RdU w b a ls/\∀x∈ls,x<18446744073709551616
section
variable {w w':World} {b i:Nat} {fp:Nat->Prop}
theorem Q42.lt (h:Q42 w b i):b<w.heap.size:=by
 obtain ⟨a,n,c,ls,hh,_⟩:=h;exact (Uo.1 hh).1
theorem Q42.turn (h:Q42 w b i) (ht:Q0l fp w w') (hn:∀k,k<=b->¬fp k):Q42 w' b i:=by
 have hb:=h.lt;obtain ⟨a,n,c,ls,hh,h1,h2,h3,h4⟩:=h;exact ⟨a,n,c,ls,(ht.block b hb (hn b (Ue _))).trans hh,h1,h2,h3.keep fun p hp=>ht.cell (by omega) (hn _ (by omega)),h4⟩
theorem Q42.call (h:Q42 w b i) (hb:Bw w w'):Q42 w' b i:=h.turn (Q0l.of_below hb fun _=>False) fun _ _ h=>h
end
theorem Q4k (b i:Nat) (w:World) (h:Q42 w b i) (hi:i<=1000000):
 Calls Tryz.prog 117 #[.pointer (some ⟨b,0,none⟩)] w fun e w'=>(∃x:Nat,x<18446744073709551616/\e=.returned (.int .u64 (x:Int)))/\Q42 w' b (i+1)/\Q0l (·=b) w w':=by
 obtain ⟨a,n,c,ls,hh,P2,hn,R7,hx⟩:=h;have k0:w.cell? ⟨b,0,none⟩=some (.slice a n c):=by rw[UL _ _ _ _ _ _ hh];rfl
 have k1:w.cell? ⟨b,1,none⟩=some (.int .i64 (i:Int)):=by rw[UL _ _ _ _ _ _ hh];rfl
 have f1:w.frozen? ⟨b,1,none⟩=false:=Tx _ _ _ _ _ hh;have I2:∀V:World,V.heap=w.heap->V.os=w.os->V.tape=w.tape->V.output=w.output->Q42 (V.setCell ⟨b,1,none⟩ (.int .i64 ((i:Int)+1))) b (i+1)/\Q0l (·=b) w (V.setCell ⟨b,1,none⟩ (.int .i64 ((i:Int)+1))):=by
  intro V h1 h2 h3 h4;have hV:V.heap[b]?=some (.cells #[.slice a n c,.int .i64 (i:Int)] 103 (0,0)):=by rw[h1];exact hh
  refine ⟨⟨a,n,c,ls,?_,P2,hn,R7.keep fun p hp=>?_,hx⟩,?_⟩
  ·rw[heap_setCell_same _ _ _ _ _ _ hV];rfl
  ·rw[Uf _ _ _ _ (fun e=>by subst e;exact Nat.lt_irrefl _ hp)];exact UK (by rw[h1])
  ·have ht:=Q0l.setCell (fun k=>k=b) V (p:=⟨b,1,none⟩) rfl (.int .i64 ((i:Int)+1));exact ⟨ht.os.trans h2,ht.tape.trans h3,ht.output.trans h4,by rw[<-h1];exact ht.size,fun k hk hn=>by rw[<-h1];exact ht.block k (by rw[h1];exact hk) hn⟩
 have HF:=Ua I2;have HR:=Xh2 R7 hx;clear I2 hh R7 hx
 by_cases F0:i<n
 ·have G0:(i:Int)<(n:Int):=by omega
  obtain ⟨x,YY⟩:∃x,ls[i]?=some x:=⟨_,Ub (by omega)⟩;obtain ⟨y,o,rfl,hy,hc⟩:∃y o,a=some ⟨y,o,none⟩/\y<b/\w.cell? ⟨y,o+i,none⟩=some (.int .u64 (x:Int)):=by
   rcases (Xo0 HR) with rfl|⟨y,o,e,hy,hc⟩
   ·simp at YY
   ·exact ⟨y,o,e,hy,hc i x YY⟩
  have hx64:=(Xe1 HR) x (Ug YY);clear YY
  go_enter Tryz.func117,Tryz.ntmps117
  go_wp2_with fail
  go_quiet (fail)
  go_wp2_with fail
  go_quiet (fail)
  go_wp2_with fail
  go_ret;exact ⟨⟨x,hx64,rfl⟩,HF.out _ rfl rfl rfl rfl⟩
 ·have G0:¬((i:Int)<(n:Int)):=by omega
  go_enter Tryz.func117,Tryz.ntmps117
  go_wp2_with fail
  go_quiet (fail)
  go_wp2_with fail
  go_ret;exact ⟨⟨0,by omega,rfl⟩,HF.out _ rfl rfl rfl rfl⟩
theorem Qo3 (a:OA) (n c:Nat) (ls:LN) (w:World) (hl:ls.length=n) (hn:n<=9223372036854775807) (h:RdU w w.heap.size a ls) (hx:∀x∈ls,x<18446744073709551616):
 Calls Tryz.prog 44 #[.slice a n c] w fun e w'=>e=.returned (.pointer (some ⟨w.heap.size,0,none⟩))/\Q42 w' w.heap.size 0/\Bw w w':=by
 have H:=Ua h;clear h
 go_enter Tryz.func44,Tryz.ntmps44
 go_wp2_with fail
 go_ret;exact ⟨rfl,⟨a,n,c,ls,Up _ _,hl,hn,H.out.keep fun p hp=>Xau _ _ p hp,hx⟩,Ba⟩
theorem Qo4 {neg:Bool} {v:Nat} {exp:Int} {neg':Bool} {e':Int} {L:LN} {er:Int} (h:Q79 neg v exp neg' e' L er):Q0a neg' e' L:=by
 rcases h with ⟨_,rfl,rfl,rfl,_⟩|⟨z,_,⟨_,rfl,rfl,rfl,_⟩|⟨_,_,h,rfl,rfl,rfl,_⟩⟩
 ·simp[Q0a]
 ·simp[Q0a]
 ·exact h
def Qr8 (e:Ending) (w':World):Prop:=∃neg' e' a' n' c' L,e=.returned (.agg #[.bool neg',.int .i64 e',.slice a' n' c'])/\Q0a neg' e' L/\WordsIn w' a' n' c' L
theorem Qkh (neg:Bool) (a:OA) (n c:Nat) (ls:LN) (exp:Int) (w:World) (h:WordsIn w a n c ls) (hn:n<=100000) (he: -1000000000<=exp) (Q5:exp<=1000000000):
 Calls Tryz.prog 76 #[.bool neg,.slice a n c,.int .i64 exp] w fun e w'=>Qr8 e w'/\Bw w w':=by
 have M2:∀o,Bw w (w.alloc o):=fun o=>Ba;have O2:=Q0o w (.cells #[.bool false,.int .i64 0,.slice none 0 0] 26);have Qt:=Q03.new w (.bool false) (.int .i64 0) (.slice none 0 0) 26;have hm:=Qc2 neg a n c ls exp (w.alloc (.cells #[.bool false,.int .i64 0,.slice none 0 0] 26)) (h.step (M2 _)) hn he Q5;have HM:=Xh2 hm Qt;clear hm Qt h
 go_enter Tryz.func76,Tryz.ntmps76
 go_wp2_with (refine (Xo0 HM).mono ?_;rintro e w1 ⟨neg2,e2,a2,n2,c2,L,er,rfl,Z7,hW,C0⟩;
              have Q1:Bw w1 (w1.alloc (.cells #[.bool neg2,.int .i64 e2,.slice a2 n2 c2] 26)):=Ba;have C3:=Below.next0 C0 Q1;have G1:=(Xe1 HM).step C3 O2;obtain ⟨E4,J1,I1,U4,j3,U3⟩:=G1.cf;have D3:=G1.d1 (.bool neg2);have Z2:=G1.d2 (.bool neg2) (.int .i64 e2);have JM:=Q03.new w1 (.bool neg2) (.int .i64 e2) (.slice a2 n2 c2) 26;obtain ⟨J8,O5,Q2⟩:=JM.cc;have I0:=Xh4 G1 (Below.next0 (M2 _) C3) (hW.step Q1) Z7;clear G1 JM Q1 C3 C0 hW Z7)
 have JV:=(Xo0 I0).store (.bool neg2) (.int .i64 e2) (.slice a2 n2 c2);obtain ⟨k0,k1,k2⟩:=JV.cc;have N4:=Q03.below (Xo1 I0) (Ue _) (.bool neg2) (.int .i64 e2) (.slice a2 n2 c2);have P7:=(Xo2 I0);have QY:WordsIn _ a2 n2 c2 L:=⟨P7.len,P7.cap,P7.most,P7.low,(P7.rd.store3 (Xo0 I0) (fun _=>by simp[nv]) (fun _=>by simp[nv]) (fun _=>by simp[nv]) (.bool neg2) (.int .i64 e2) (.slice a2 n2 c2)).more (Q1s _ _ _ _ _)⟩;clear JV E4 J1 I1 U4 j3 U3 D3 Z2 P7 J8 O5 Q2;generalize World.setCell _ _ _=W5 at k0 k1 k2 N4 QY⊢;refine ⟨rfl,.agg #[.bool neg2,.int .i64 e2,.slice a2 n2 c2],by simp[results,go_sem,k0,k1,k2],⟨neg2,e2,a2,n2,c2,L,rfl,Qo4 (Xe3 I0),QY⟩,N4⟩
theorem Q0l.newSet {fp:Nat->Prop} {w w':World} (h:Q0l fp w w') {p:Addr} (hp:w.heap.size<=p.block) (v:Value):Q0l fp w (w'.setCell p v):=
 ⟨h.os,h.tape,h.output,by rw[Tk];exact h.size,fun k hk hn=>(UX _ _ _ _ (by omega)).trans (h.block k hk hn)⟩
theorem Qwb (a b:Nat) (ha:a<18446744073709551616) (hb:b<18446744073709551616):∃p:Nat,bits .and .u64 (a:Int) (b:Int)=(p:Int)/\p<18446744073709551616:=⟨_,u64_and_nat a b ha hb,Nat.and_lt_two_pow (n:=64) _ hb⟩
theorem Qcw (w:World) (m:Nat) (hm:m<18446744073709551616) (T:TypeId):WordsIn (w.alloc (.cells #[.int .u64 (m:Int)] T)) (some ⟨w.heap.size,0,none⟩) 1 1 [m]:=
 ⟨rfl,Ue _,by omega,fun x hx=>by rw[Uy] at hx;subst hx;exact hm,.inr ⟨w.heap.size,0,rfl,Q0o _ _,fun j x hx=>by
   cases j with
   |zero=>simp only[UO,Un] at hx;subst hx;rw[UL _ _ _ _ _ _ (Up _ _)];rfl
   |succ j=>simp at hx⟩⟩
end Go.Proofs.YtidojbkhlenahaaGreatDoor
