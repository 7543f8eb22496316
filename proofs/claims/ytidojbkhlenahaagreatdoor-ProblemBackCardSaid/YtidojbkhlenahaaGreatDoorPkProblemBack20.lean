/- Part 20. No condition. -/
import Derived.Test.YtidojbkhlenahaaGreatDoorPkProblemBack19
set_option maxRecDepth 100000
set_option maxHeartbeats 16000000
namespace Go.Proofs.YtidojbkhlenahaaGreatDoor
open Go.RowKit WordsM DecM
structure Blk (w:World) (b:Nat) (vs:LV):Prop where
 c:Q3w w b vs
 f:∀i,i<vs.length->w.frozen? ⟨b,i,none⟩=false
 e:∀i,vs.length<=i->w.cell? ⟨b,i,none⟩=none
theorem Blk.new (w:World) (vs:LV) (T:TypeId):Blk (w.alloc (.cells vs.toArray T)) w.heap.size vs:=
 ⟨Q3w.new w vs T,fun _ _=>TC _ _ _ _ _ (Um _ _),fun i hi=>by rw[Uv _ _ _ _ _ _ (Um _ _)];simpa using hi⟩
theorem Blk.same {w w':World} {b:Nat} {vs:LV} (h:Blk w b vs) (hb:w'.heap[b]?=w.heap[b]?):Blk w' b vs:=
 ⟨fun i v hi=>(UM (w:=w) (w':=w') (a:=⟨b,i,none⟩) hb).trans (h.c i v hi),fun i hi=>(Xak (w:=w) (w':=w') (a:=⟨b,i,none⟩) hb).trans (h.f i hi),fun i hi=>(UM (w:=w) (w':=w') (a:=⟨b,i,none⟩) hb).trans (h.e i hi)⟩
theorem Blk.step {w w':World} {b B:Nat} {vs:LV} (h:Blk w b vs) (hb:Below B w w') (hB:b<B):Blk w' b vs:=h.same (hb.block b hB)
theorem Blk.set {w:World} {b i:Nat} {vs:LV} (h:Blk w b vs) (hi:i<vs.length) (v:Value):Blk (w.setCell ⟨b,i,none⟩ v) b (vs.set i v):=by
 refine ⟨fun j u hj=>?_,fun j hj=>by rw[Uo];exact h.f j (by simpa using hj),fun j hj=>by
  rw[Tk] at hj;exact (Ud _ _ _ _ (by intro e;injection e with e1 e2;omega)).trans (h.e j hj)⟩
 by_cases hji:j=i
 ·subst hji;rw[TG hi] at hj;injection hj with hj;subst hj;exact UE _ _ _ (by rw[h.c j _ (Ua hi)];rfl)
 ·rw[Te (by omega)] at hj;exact (Ud _ _ _ _ (by intro e;injection e with e1 e2;first|exact hji e2|exact hji e2.symm)).trans (h.c j u hj)
theorem Blk.far {w:World} {b g i:Nat} {vs:LV} (h:Blk w b vs) (Q0:g≠b) (v:Value):Blk (w.setCell ⟨g,i,none⟩ v) b vs:=
 h.same (UZ _ _ _ _ (by show b≠g;omega))
theorem Blk.lt {w:World} {b:Nat} {v:Value} {vs:LV} (h:Blk w b (v::vs)):b<w.heap.size:=UA (h.c 0 v rfl)
theorem Blk.num {w:World} {b i:Nat} {vs:LV} (h:Blk w b vs) (hi:i+2<vs.length):Q38 w b i:=
 ⟨⟨_,h.c i _ (Ua (by omega))⟩,⟨_,h.c (i+1) _ (Ua (by omega))⟩,⟨_,h.c (i+2) _ (Ua hi)⟩,h.f _ (by omega),h.f _ (by omega),h.f _ hi⟩
theorem Q0m.blk {w:World} {b i:Nat} {vs:LV} {a:OA} {l c:Nat} {x:Q47} (h:Q0m w a l c x) (hb:Blk w b vs) (hi:i<vs.length) (hn:∀u∈vs,NoU u) (v:Value):Q0m (w.setCell ⟨b,i,none⟩ v) a l c x:=
 ⟨h.lie.set1 (hb.c i _ (Ua hi)) (hn _ (List.getElem_mem hi)) v,h.lo,h.hi⟩
theorem Q2m (b:Bool):NoU (.bool b):=fun _=>by simp[nv]
theorem Q2t (e:Int):NoU (.int .i64 e):=fun _=>by simp[nv]
theorem Q3z (a:OA) (l c:Nat):NoU (.slice a l c):=fun _=>by simp[nv]
structure Kp (R B:Nat) (w w':World):Prop where
 os:w'.os=w.os
 tape:w'.tape=w.tape
 output:w'.output=w.output
 size:w.heap.size<=w'.heap.size
 block:∀k,k<B->k≠R->w'.heap[k]?=w.heap[k]?
 oth:KeepsOthers w w'
theorem Kp.refl (R B:Nat) (w:World):Kp R B w w:=⟨rfl,rfl,rfl,Ue _,fun _ _ _=>rfl,KeepsOthers.refl _⟩
theorem Kp.trans {R B:Nat} {a b c:World} (h:Kp R B a b) (k:Kp R B b c):Kp R B a c:=
 ⟨k.os.trans h.os,k.tape.trans h.tape,k.output.trans h.output,Un h.size k.size,fun i h1 h2=>(k.block i h1 h2).trans (h.block i h1 h2),h.oth.trans k.oth⟩
theorem Kp.of_below {R B:Nat} {w w':World} (h:Bw w w') (hB:B<=w.heap.size):Kp R B w w':=
 ⟨h.os,h.tape,h.output,h.size,fun k hk _=>h.block k (by omega),h.size,fun k o hk _=>(h.block k (Uq.1 hk).1).trans hk⟩
theorem Kp.set {R B:Nat} (w:World) {b i:Nat} (hb:b=R∨B<=b) (v:Value):Kp R B w (w.setCell ⟨b,i,none⟩ v):=
 ⟨rfl,rfl,rfl,by rw[UT];exact Ue _,fun k h1 h2=>UZ _ _ _ _ (by show k≠b;omega),KeepsOthers.setCell _ _ _⟩
theorem Kp.grown {R B:Nat} {w w':World} {row:Option Nat} (h:w.grownBy w' row) (hr:∀g,row=some g->B<=g) (hB:B<=w.heap.size) (hc:∀(j:Nat) (o:Obj),row=some j->w.heap[j]?=some o->o.isCells=true):Kp R B w w':=
 ⟨h.os,h.tape,h.output,h.size,fun k h1 _=>h.block k (by omega) (fun e=>by have:=hr k e.symm;omega),KeepsOthers.of_grownBy h hc⟩
theorem Kp.below {R B B0:Nat} {w w':World} (h:Kp R B w w') (h0:B0<=R) (h1:B0<=B):Below B0 w w':=⟨h.os,h.tape,h.output,h.size,fun k hk=>h.block k (by omega) (by omega)⟩
structure Q26 (w:World) (B:Nat) (p:Pl) (L:List IvV):Prop where
 row:∃xs,Q40 NoU w B 44 6 p.a p.l p.c xs
 len:L.length=p.l
 ent:∀j x,L[j]?=some x->∃g,p.a=some ⟨g,0,none⟩/\Qw3 w g (j*6) x
theorem Q26.nil_ (w:World) (B:Nat):Q26 w B ⟨none,0,0⟩ []:=⟨⟨[],Q40.nil_ _ _ _ _ _⟩,rfl,fun j x h=>by simp at h⟩
theorem Q26.lt {w:World} {B:Nat} {p:Pl} {L:List IvV} (h:Q26 w B p L) {x:Addr} (hx:p.a=some x):B<=x.block/\x.block<w.heap.size:=by
 obtain ⟨xs,hr⟩:=h.row;exact Q1r.lt.row2_blk hr.1 hx
theorem Q26.step {w w':World} {B:Nat} {p:Pl} {L:List IvV} (h:Q26 w B p L) (hb:Bw w w'):Q26 w' B p L:=by
 obtain ⟨xs,hr⟩:=h.row;refine ⟨⟨xs,hr.step hb⟩,h.len,fun j x hx=>?_⟩;obtain ⟨g,ha,Y1⟩:=h.ent j x hx;exact ⟨g,ha,Y1.step hb (h.lt ha).2⟩
theorem Q26.set {w:World} {B b i:Nat} {p:Pl} {L:List IvV} (h:Q26 w B p L) {vs:LV} (hb:Blk w b vs) (hi:i<vs.length) (hn:∀u∈vs,NoU u) (Q0:∀x,p.a=some x->x.block≠b) (v:Value):Q26 (w.setCell ⟨b,i,none⟩ v) B p L:=by
 obtain ⟨xs,hr⟩:=h.row;refine ⟨⟨xs,hr.keep fun x hx=>UZ _ _ _ _ (Q0 x hx)⟩,h.len,fun j x hx=>?_⟩;obtain ⟨g,ha,a,l,c,a2,m,d,⟨h0,h1,h2,h3,h4,h5⟩,h6,h7⟩:=h.ent j x hx;have hg:=Q0 _ ha;have hc:∀k u,w.cell? ⟨g,k,none⟩=some u->(w.setCell ⟨b,i,none⟩ v).cell? ⟨g,k,none⟩=some u:=fun k u hu=>(UM (w:=w) (a:=⟨g,k,none⟩) (UZ _ _ _ _ hg)).trans hu;exact ⟨g,ha,a,l,c,a2,m,d,⟨hc _ _ h0,hc _ _ h1,hc _ _ h2,hc _ _ h3,hc _ _ h4,hc _ _ h5⟩,h6.blk hb hi hn v,h7.blk hb hi hn v⟩
theorem Q26.boxIn {w:World} {B:Nat} {p:Pl} {L:List IvV} (h:Q26 w B p L):Qdh w p.a p.l p.c L:=by
 obtain ⟨xs,hr⟩:=h.row;have S3:=hr.1.cap;refine ⟨h.len,S3.1,by have:=S3.2;simpa[maxLen] using this,?_⟩
 by_cases hL:L=[]
 ·exact .inl hL
 ·right
  obtain ⟨x,hx⟩:∃x,L[0]?=some x:=⟨_,Ua (Xa3.2 hL)⟩;obtain ⟨g,ha,_⟩:=h.ent 0 x hx;refine ⟨g,0,ha,(h.lt ha).2,fun j y hy=>?_⟩;obtain ⟨g2,QF,Y1⟩:=h.ent j y hy;rw[ha] at QF;injection QF with QF;injection QF with QF;subst QF;rw[UH];exact Y1
def ivL (p q:Pl) (x:IvV):LV:=[.bool x.lo.neg,.int .i64 x.lo.exp,.slice p.a p.l p.c,.bool x.hi.neg,.int .i64 x.hi.exp,.slice q.a q.l q.c]
theorem Quq (p q:Pl) (x:IvV):∀u∈ivL p q x,NoU u:=by
 intro u hu;simp only[ivL,Uy,TN,Xbo] at hu;rcases hu with rfl|rfl|rfl|rfl|rfl|rfl <;> first|exact Q2m _|exact Q2t _|exact Q3z _ _ _
theorem Q26.push {w w2:World} {B:Nat} {p:Pl} {L:List IvV} (h:Q26 w B p L) {xs:LV} (hr:Q40 NoU w B 44 6 p.a p.l p.c xs) {g c2:Nat} (hg:w.grownBy w2 (p.a.map (·.block))) (_hat:p.a=some ⟨g,0,none⟩∨g=w.heap.size) {x:IvV} {q1 q2:Pl}
 (X0:Q40 NoU w2 B 44 6 (some ⟨g,0,none⟩) (p.l+1) c2 (xs++ivL q1 q2 x)) (h1:Q0m w q1.a q1.l q1.c x.lo) (h2:Q0m w q2.a q2.l q2.c x.hi):Q26 w2 B ⟨some ⟨g,0,none⟩,p.l+1,c2⟩ (L++[x]):=by
 have JY:Q0e (fun b=>∃y,p.a=some y/\y.block=b) w w2:=(Q0e.of_below (Ug _ _) _).trans0 (Q0e.of_grown hg fun r hr _=>by
  cases ha:p.a with
  |none=>rw[ha] at hr;simp at hr
  |some y=>rw[ha] at hr;simp only[Uz,Uj] at hr;exact ⟨y,rfl,hr⟩)
 have hw:∀{aw:OA} {lw cw:Nat} {y:Q47},Q0m w aw lw cw y->Q0m w2 aw lw cw y:=fun hy=>⟨hy.lie.turn (hr.off hy.lie) JY (fun _ h=>h),hy.lo,hy.hi⟩;have G3:xs.length=p.l*6:=hr.1.len;have A6:∀i v,(xs++ivL q1 q2 x)[i]?=some v->w2.cell? ⟨g,i,none⟩=some v:=fun i v hv=>X0.1.cell0 hv;refine ⟨⟨_,X0⟩,by rw[Uh,h.len];rfl,fun j y hy=>⟨g,rfl,?_⟩⟩
 by_cases hj:j<p.l
 ·rw[Tj (by rw[h.len];exact hj)] at hy;obtain ⟨g0,ha,a,l,c,a2,m,d,⟨k0,k1,k2,k3,k4,k5⟩,k6,k7⟩:=h.ent j y hy;have hc:∀i v,i<6->w.cell? ⟨g0,j*6+i,none⟩=some v->w2.cell? ⟨g,j*6+i,none⟩=some v:=fun i v hi hv=>by
   have E0:j*6+i<xs.length:=(by omega);have Ve:=hr;rw[ha] at Ve;have e0:=Ve.1.cell0 (Ua E0);rw[hv] at e0;injection e0 with e0;rw[e0];exact A6 _ _ (by rw[Tj E0,Ua E0])
  exact ⟨a,l,c,a2,m,d,⟨hc 0 _ (by decide) k0,hc 1 _ (by decide) k1,hc 2 _ (by decide) k2,hc 3 _ (by decide) k3,hc 4 _ (by decide) k4,hc 5 _ (by decide) k5⟩,hw k6,hw k7⟩
 ·have T9:j=p.l:=by
   have:=(Ul.1 hy).1;rw[Uh,h.len] at this;simp at this;omega
  subst T9;rw[UY (by rw[h.len];exact Ue _),h.len,Nat.sub_self] at hy;simp only[UD,Uj] at hy;subst hy;have hc:∀i v,(ivL q1 q2 x)[i]?=some v->w2.cell? ⟨g,p.l*6+i,none⟩=some v:=fun i v hv=>A6 _ _ (by rw[UY (by omega),G3,Xaw];exact hv);exact ⟨q1.a,q1.l,q1.c,q2.a,q2.l,q2.c,⟨hc 0 _ rfl,hc 1 _ rfl,hc 2 _ rfl,hc 3 _ rfl,hc 4 _ rfl,hc 5 _ rfl⟩,hw h1,hw h2⟩
structure RpP where
 b:Pl
 t:Pl
 m:Pl
 e:Pl
structure RpV where
 box:List IvV
 til:Q47
 most:Q47
 least:Q47
 prec:Int
 order:Int
 budget:Int
 over:Int
def rpL (p:RpP) (x:RpV):LV:=[.slice none 0 0,.slice p.b.a p.b.l p.b.c,.bool x.til.neg,.int .i64 x.til.exp,.slice p.t.a p.t.l p.t.c,.bool x.most.neg,.int .i64 x.most.exp,.slice p.m.a p.m.l p.m.c,.bool x.least.neg,.int .i64 x.least.exp,.slice p.e.a p.e.l p.e.c,.int .i64 x.prec,.int .i64 x.order,.int .i64 x.budget,.int .i64 x.over]
theorem Q76 (p:RpP) (x:RpV):∀u∈rpL p x,NoU u:=by
 intro u hu;simp only[rpL,Uy,TN,Xbo] at hu;rcases hu with rfl|rfl|rfl|rfl|rfl|rfl|rfl|rfl|rfl|rfl|rfl|rfl|rfl|rfl|rfl <;> first|exact Q2m _|exact Q2t _|exact Q3z _ _ _
structure Q67 (w:World) (R B:Nat) (p:RpP) (x:RpV):Prop where
 blk:Blk w R (rpL p x)
 box:Q26 w B p.b x.box
 t:Q0m w p.t.a p.t.l p.t.c x.til
 m:Q0m w p.m.a p.m.l p.m.c x.most
 e:Q0m w p.e.a p.e.l p.e.c x.least
theorem Q67.step {w w':World} {R B:Nat} {p:RpP} {x:RpV} (h:Q67 w R B p x) (hb:Bw w w'):Q67 w' R B p x:=
 ⟨h.blk.step hb h.blk.lt,h.box.step hb,h.t.step hb,h.m.step hb,h.e.step hb⟩
theorem Q67.far {w:World} {R B b i:Nat} {p:RpP} {x:RpV} (h:Q67 w R B p x) {vs:LV} (hb:Blk w b vs) (hi:i<vs.length) (hn:∀u∈vs,NoU u) (Q0:b≠R) (hne2:∀x,p.b.a=some x->x.block≠b) (v:Value):Q67 (w.setCell ⟨b,i,none⟩ v) R B p x:=
 ⟨h.blk.far Q0 v,h.box.set hb hi hn hne2 v,h.t.blk hb hi hn v,h.m.blk hb hi hn v,h.e.blk hb hi hn v⟩
structure Q7a (w:World) (B:Nat) (p:RpP) (x:RpV):Prop where
 box:Q26 w B p.b x.box
 t:Q0m w p.t.a p.t.l p.t.c x.til
 m:Q0m w p.m.a p.m.l p.m.c x.most
 e:Q0m w p.e.a p.e.l p.e.c x.least
theorem Q67.rest {w:World} {R B:Nat} {p:RpP} {x:RpV} (h:Q67 w R B p x):Q7a w B p x:=⟨h.box,h.t,h.m,h.e⟩
theorem Q7a.set {w:World} {R B i:Nat} {p:RpP} {x:RpV} (h:Q7a w B p x) {vs:LV} (hb:Blk w R vs) (hi:i<vs.length) (hn:∀u∈vs,NoU u) (hR:R<B) (v:Value):Q7a (w.setCell ⟨R,i,none⟩ v) B p x:=
 ⟨h.box.set hb hi hn (fun x hx=>by have:=(h.box.lt hx).1;omega) v,h.t.blk hb hi hn v,h.m.blk hb hi hn v,h.e.blk hb hi hn v⟩
theorem Q67.over {w:World} {R B:Nat} {p:RpP} {x:RpV} (h:Q67 w R B p x) (hR:R<B) (o:Int):Q67 (w.setCell ⟨R,14,none⟩ (.int .i64 o)) R B p { x with over:=o }:=by
 have h1:=h.blk.set (i:=14) (by simp[rpL]) (.int .i64 o);have h2:=h.rest.set (i:=14) h.blk (by simp[rpL]) (Q76 _ _) hR (.int .i64 o);exact ⟨h1,h2.box,h2.t,h2.m,h2.e⟩
theorem Q4u {vs:LV} (h:∀u∈vs,NoU u) {i:Nat} {v:Value} (hv:NoU v):∀u∈vs.set i v,NoU u:=fun u hu=>by
 rcases Xap hu with h1|h1
 ·exact h u h1
 ·subst h1;exact hv
theorem Q7a.num {w:World} {R B i:Nat} {p:RpP} {x:RpV} (h:Q7a w B p x) {vs:LV} (hb:Blk w R vs) (hi:i+2<vs.length) (hn:∀u∈vs,NoU u) (hR:R<B) (n:Bool) (e:Int) (a:OA) (l c:Nat):Q7a (Q37 w R i n e (.slice a l c)) B p x:=by
 have b1:=hb.set (i:=i) (by omega) (.bool n);have b2:=b1.set (i:=i+1) (by rw[Tk];omega) (.int .i64 e);have n1:=Q4u hn (i:=i) (Q2m n);have n2:=Q4u n1 (i:=i+1) (Q2t e);exact ((h.set hb (by omega) hn hR (.bool n)).set b1 (by rw[Tk];omega) n1 hR (.int .i64 e)).set b2 (by rw[Tk,Tk];omega) n2 hR (.slice a l c)
theorem Blk.store {w:World} {b i:Nat} {vs:LV} (h:Blk w b vs) (hi:i+2<vs.length) (n:Bool) (e:Int) (v:Value):Blk (Q37 w b i n e v) b (((vs.set i (.bool n)).set (i+1) (.int .i64 e)).set (i+2) v):=
 ((h.set (by omega) _).set (by rw[Tk];omega) _).set (by rw[Tk,Tk];omega) _
theorem Q0m.store {w:World} {b i:Nat} {vs:LV} {a:OA} {l c:Nat} {x:Q47} (h:Q0m w a l c x) (hb:Blk w b vs) (hi:i+2<vs.length) (hn:∀u∈vs,NoU u) (n:Bool) (e:Int) (v:Value):Q0m (Q37 w b i n e v) a l c x:=by
 have b1:=hb.set (i:=i) (by omega) (.bool n);have b2:=b1.set (i:=i+1) (by rw[Tk];omega) (.int .i64 e);have n1:=Q4u hn (i:=i) (Q2m n);have n2:=Q4u n1 (i:=i+1) (Q2t e);exact ((h.blk hb (by omega) hn (.bool n)).blk b1 (by rw[Tk];omega) n1 (.int .i64 e)).blk b2 (by rw[Tk,Tk];omega) n2 v
theorem Kp.num {R B:Nat} (w:World) {b i:Nat} (hb:b=R∨B<=b) (n:Bool) (e:Int) (v:Value):Kp R B w (Q37 w b i n e v):=
 ((Kp.set w hb _).trans (Kp.set _ hb _)).trans (Kp.set _ hb _)
def Qom (x:Q47) (d:Option Dyadic):Prop:=∀y,d=some y->x.ok/\x.val=y
def IvO (x:IvV) (d:Option Dyadic × Option Dyadic):Prop:=Qom x.lo d.1/\Qom x.hi d.2
def Qez (x:Int) (o:Option Nat):Prop:=match o with|none=>x= -1|some q=>x=(q:Int)
structure StM (x:RpV) (st:PrS):Prop where
 prec:x.prec=(st.prec:Int)
 order:x.order=(st.order:Int)
 budget:x.budget=(st.budget:Int)
 til:Qom x.til st.til
 most:Qom x.most st.most
 least:Qom x.least st.least
 len:x.box.length=st.box.length
 box:∀(j:Nat) (a:IvV) (b:Option Dyadic × Option Dyadic),x.box[j]?=some a->st.box[j]?=some b->IvO a b
 over:Qez x.over st.over
theorem Qx4 {x:Int} {o:Option Nat} (h:Qez x o):x<0↔o=none:=by
 unfold Qez at h;cases o with
 |none=>simp only at h;exact ⟨fun _=>rfl,fun _=>by omega⟩
 |some q=>simp only at h;exact ⟨fun h1=>by omega,fun h1=>by cases h1⟩
theorem Qa8 {n:Bool} {e:Int} {L:LN} (h:Q0a n e L): -65536<=e/\e<=65536:=by
 unfold Q0a at h
 split at h
 ·have:=h.2;omega
 ·exact h.2.2.2
theorem Q21 {S:LU} {n:Bool} {e:Int} {L:LN} {er:Int} (h:Q15 S n e L er):
 (-9223372036854775808<=e/\e<=9223372036854775807)/\((Qgp S=none/\er=5)∨(∃d,Qgp S=some d/\Qom ⟨n,e,L⟩ d/\((d=none/\er=2)∨(d≠none/\er=0)))):=by
 unfold Q15 at h;unfold Qgp;cases hF:form S with
 |none=>
  rw[hF] at h;obtain ⟨rfl,rfl,rfl,rfl⟩:=h;exact ⟨⟨by decide,by decide⟩,.inl ⟨rfl,rfl⟩⟩
 |some z=>
  obtain ⟨neg,v,e0⟩:=z;rw[hF] at h;rcases Q81 h with ⟨h1,rfl,h3,h4⟩|⟨h1,rfl,rfl,rfl,rfl⟩
  ·have:=Qa8 h3;refine ⟨⟨by omega,by omega⟩,.inr ⟨some (dy (sgn neg v) e0),?_,?_,.inr ⟨by simp,rfl⟩⟩⟩
   ·exact congrArg some (Us ((Q17 _).2 h1))
   ·intro y hy;injection hy with hy;exact ⟨h3,h4.trans hy⟩
  ·refine ⟨⟨by decide,by decide⟩,.inr ⟨none,?_,fun y hy=>(by cases hy),.inl ⟨rfl,rfl⟩⟩⟩;exact congrArg some (Up (fun h=>h1 ((Q17 _).1 h)))
theorem Qb3 {ov:Int} {o:Option Nat} (h:Qez ov o) {d:Option Dyadic} {er:Int} (hd:(d=none/\er=2)∨(d≠none/\er=0)) (p:Nat):Qez (if er=2/\ov<0 then (p:Int) else ov) (Q5p o p d):=by
 have hl:=Qx4 h;unfold Qez at h⊢;rcases hd with ⟨rfl,rfl⟩|⟨hd,rfl⟩
 ·cases o with
  |none=>rw[Us ⟨rfl,hl.2 rfl⟩];rfl
  |some q=>rw[Up (fun h=>by have:=hl.1 h.2;cases this)];exact h
 ·rw[Up (fun h=>by have:=h.1;omega)];cases o with
  |none=>cases d with
   |none=>exact absurd rfl hd
   |some y=>exact h
  |some q=>exact h
def Qx5 (st:PrS):Prop:=st.over=none->st.til≠none/\st.most≠none/\st.least≠none/\∀b∈st.box,b.1≠none/\b.2≠none
theorem Q6s {o:Option Nat} {p:Nat} {d:Option Dyadic} (h:Q5p o p d=none):o=none/\d≠none:=by
 cases o <;> cases d <;> simp[Q5p] at h⊢
theorem Qr3:Qx5 PrS.empty:=fun _=>⟨by simp[PrS.empty],by simp[PrS.empty],by simp[PrS.empty],fun b hb=>by simp[PrS.empty] at hb⟩
theorem Qr4 {i p:Nat} {l:LU} {st st':PrS} (h:Q51 i p l st=some st') (hf:Qx5 st):Qx5 st':=by
 have hc:∀{X:Option Nat} {f:Nat->PrS},X.map f=some st'->∃n,st'=f n:=fun {X f} h=>by
  cases X with
  |none=>simp at h
  |some n=>simp only[Uz,Uj] at h;exact ⟨n,h.symm⟩
 have hd:∀{X:Option (Option Dyadic)} {f:Option Dyadic->PrS},X.map f=some st'->∃n,st'=f n:=fun {X f} h=>by
  cases X with
  |none=>simp at h
  |some n=>simp only[Uz,Uj] at h;exact ⟨n,h.symm⟩
 have K2:(if st.box.length<4 then (Qfg l).map fun b=>{ st with box:=st.box++[b],over:=Q5p (Q5p st.over p b.1) p b.2 } else none)=some st'->Qx5 st':=fun h=>by
  split at h
  ·cases hb:Qfg l with
   |none=>rw[hb] at h;simp at h
   |some b=>
    rw[hb] at h;simp only[Uz,Uj] at h;subst h;intro ho;obtain ⟨h1,h2⟩:=Q6s ho;obtain ⟨h3,h4⟩:=Q6s h1;obtain ⟨f1,f2,f3,f4⟩:=hf h3;refine ⟨f1,f2,f3,fun c hc=>?_⟩;rcases Tq.1 hc with hc|hc
    ·exact f4 c hc
    ·rw[Ux] at hc;subst hc;exact ⟨h4,h2⟩
  ·cases h
 unfold Q51 at h
 split at h
 ·obtain ⟨n,rfl⟩:=hc h;exact hf
 ·obtain ⟨n,rfl⟩:=hc h;exact hf
 ·obtain ⟨n,rfl⟩:=hc h;exact hf
 ·obtain ⟨d,rfl⟩:=hd h;intro ho;obtain ⟨h1,h2⟩:=Q6s ho;obtain ⟨f1,f2,f3,f4⟩:=hf h1;exact ⟨h2,f2,f3,f4⟩
 ·obtain ⟨d,rfl⟩:=hd h;intro ho;obtain ⟨h1,h2⟩:=Q6s ho;obtain ⟨f1,f2,f3,f4⟩:=hf h1;exact ⟨f1,h2,f3,f4⟩
 ·obtain ⟨d,rfl⟩:=hd h;intro ho;obtain ⟨h1,h2⟩:=Q6s ho;obtain ⟨f1,f2,f3,f4⟩:=hf h1;exact ⟨f1,f2,h2,f4⟩
 ·exact K2 h
structure Qe9 (s:LU) (i p:Nat) (st:PrS):Prop where
 eq:∃f,Qfh s (s.length+1) 0 0 PrS.empty=Qfh s f i p st/\s.length<p+f
 le:p<=s.length
 ip:i<=p
 full:Qx5 st
theorem Qe9.zero (s:LU):Qe9 s 0 0 PrS.empty:=⟨⟨_,rfl,by omega⟩,Ut _,Ue _,Qr3⟩
theorem Qon {b:UInt8}:∀{l x y:LU},Qen b l=some (x,y)->x.length<l.length
 |[],_,_,h=>by simp[Qen] at h
 |c::r,x,y,h=>by
  rw[Qen] at h
  split at h
  ·simp only[Uj,Xas] at h;rw[<-h.1];simp
  ·cases hc:Qen b r with
   |none=>rw[hc] at h;simp at h
   |some q=>
    rw[hc] at h;simp only[Uz,Uj,Xas] at h;have:=Qon (x:=q.1) (y:=q.2) hc;rw[<-h.1];simp;omega
theorem Qur {s:LU} {p:Nat} {l:LU} (h:Q8e s p=some l):p+l.length<s.length:=by
 unfold Q8e at h;cases hc:Qen 10 (s.drop p) with
 |none=>rw[hc] at h;simp at h
 |some q=>
  rw[hc] at h;simp only[Uz,Uj] at h;have:=Qon (x:=q.1) (y:=q.2) hc;rw[h,Tg] at this;omega
theorem Qe9.step {s:LU} {i p:Nat} {st st':PrS} {l:LU} (h:Qe9 s i p st) (hl:Q8e s p=some l) (hm:Q51 i p l st=some st'):Qe9 s (i+1) (p+l.length+1) st':=by
 obtain ⟨f,he,hf⟩:=h.eq;have N0:=Qur hl;obtain ⟨g,rfl⟩:∃g,f=g+1:=⟨f-1,by have:=h.le;omega⟩;refine ⟨⟨g,?_,by omega⟩,by omega,by have:=h.ip;omega,Qr4 hm h.full⟩;rw[he,Qfh,hl];simp only[hm]
theorem Qe9.bad {s:LU} {i p:Nat} {st:PrS} {l:LU} (h:Qe9 s i p st) (hl:Q8e s p=some l) (hm:Q51 i p l st=none):Qfh s (s.length+1) 0 0 PrS.empty=if 6<i then .ok (p,st) else .error (p,5):=by
 obtain ⟨f,he,hf⟩:=h.eq;obtain ⟨g,rfl⟩:∃g,f=g+1:=⟨f-1,by have:=h.le;omega⟩;rw[he,Qfh,hl];simp only[hm]
theorem Qe9.end_ {s:LU} {i p:Nat} {st:PrS} (h:Qe9 s i p st) (hl:Q8e s p=none):Qfh s (s.length+1) 0 0 PrS.empty=if i<=6 then .error (s.length,5) else .ok (p,st):=by
 obtain ⟨f,he,hf⟩:=h.eq;obtain ⟨g,rfl⟩:∃g,f=g+1:=⟨f-1,by have:=h.le;omega⟩;rw[he,Qfh,hl]
theorem Qkh {b:UInt8}:∀{l x y:LU},Qen b l=some (x,y)->x.length+y.length+1=l.length
 |[],_,_,h=>by simp[Qen] at h
 |c::r,x,y,h=>by
  rw[Qen] at h
  split at h
  ·simp only[Uj,Xas] at h;rw[<-h.1,<-h.2];simp
  ·cases hc:Qen b r with
   |none=>rw[hc] at h;simp at h
   |some q=>
    rw[hc] at h;simp only[Uz,Uj,Xas] at h;have:=Qkh (x:=q.1) (y:=q.2) hc;rw[<-h.1,<-h.2];simp;omega
theorem Qx6 {t:LU} {e:Ending} (h:Qzl ⟨t.toArray⟩ e):∃(lo hi:LU) (two:Bool),e=.returned (.tuple #[.string ⟨lo.toArray⟩,.string ⟨hi.toArray⟩,.bool two])/\lo.length<=t.length/\hi.length<=t.length/\Qen 32 t=(if two=true then some (lo,hi) else none):=by
 unfold Qzl at h;have e1:(⟨t.toArray⟩:ByteArray).data.toList=t:=rfl;rw[e1] at h;cases hc:Qen 32 t with
 |none=>rw[hc] at h;exact ⟨t,[],false,h,Ue _,Ut _,rfl⟩
 |some q=>
  rw[hc] at h;have:=Qkh (x:=q.1) (y:=q.2) hc;exact ⟨q.1,q.2,true,h,by omega,by omega,rfl⟩
theorem Qea {w w':World} {R B A at_ o:Nat} {p:RpP} {x:RpV} {us:LV} {S:LU} {r:Ending} (hI:Q67 w R B p x) (hR:R<B) (hB:B<=w.heap.size) (hA:Blk w A us) (hAB:B<=A) (hAs:A<w.heap.size) (hAn:∀u∈us,NoU u) (hAb:∀y,p.b.a=some y->y.block≠A) (ho:o+2<us.length) (h:J1s w R at_ A o x.over S r w'):
 ∃n e a l c L er,r=.returned (.bool (er != 5))/\Q15 S n e L er/\Q67 w' R B p { x with over:=if er=2/\x.over<0 then (at_:Int) else x.over }/\Blk w' A (((us.set o (.bool n)).set (o+1) (.int .i64 e)).set (o+2) (.slice a l c))/\Q0m w' a l c ⟨n,e,L⟩/\Kp R B w w'/\A<w'.heap.size/\(∀a l c y,Q0m w a l c y->Q0m w' a l c y):=by
 obtain ⟨n,e,a,l,c,L,er,w1,rfl,S6,hb,hw,rfl⟩:=h;have hx:=(Q21 S6).1;have U8:=hI.step hb;have m6:=hA.step hb hAs;have J2:Q0m w1 a l c ⟨n,e,L⟩:=⟨hw,hx.1,hx.2⟩;have X2:=Kp.of_below (R:=R) hb hB;have hRl:(14:Nat)<(rpL p x).length:=by simp[rpL]
 have S2:∀(W:World) (z:RpV),Q67 W R B p z->Blk W A us->Q0m W a l c ⟨n,e,L⟩->Kp R B w W->(∀a l c y,Q0m w a l c y->Q0m W a l c y)->
  Q67 (Q37 W A o n e (.slice a l c)) R B p z/\Blk (Q37 W A o n e (.slice a l c)) A (((us.set o (.bool n)).set (o+1) (.int .i64 e)).set (o+2) (.slice a l c))/\Q0m (Q37 W A o n e (.slice a l c)) a l c ⟨n,e,L⟩/\Kp R B w (Q37 W A o n e (.slice a l c))/\A<(Q37 W A o n e (.slice a l c)).heap.size/\(∀a' l' c' y,Q0m w a' l' c' y->Q0m (Q37 W A o n e (.slice a l c)) a' l' c' y):=by
  intro W z hz hAW hNW hkW hq;have b1:=hAW.set (i:=o) (by omega) (.bool n);have b2:=b1.set (i:=o+1) (by rw[Tk];omega) (.int .i64 e);have n1:=Q4u hAn (i:=o) (Q2m n);have n2:=Q4u n1 (i:=o+1) (Q2t e);have Q0:A≠R:=by omega
  have i1:=hz.far hAW (i:=o) (by omega) hAn Q0 hAb (.bool n);have i2:=i1.far b1 (i:=o+1) (by rw[Tk];omega) n1 Q0 hAb (.int .i64 e);have i3:=i2.far b2 (i:=o+2) (by rw[Tk,Tk];omega) n2 Q0 hAb (.slice a l c);have hk:=hkW.trans (Kp.num W (i:=o) (.inr hAB) n e (.slice a l c));exact ⟨i3,hAW.store ho n e _,hNW.store hAW ho hAn n e _,hk,Uc hAs hk.size,fun a' l' c' y hy=>(hq a' l' c' y hy).store hAW ho hAn n e _⟩
 refine ⟨n,e,a,l,c,L,er,rfl,S6,?_⟩
 by_cases hc:er=2/\x.over<0
 ·simp only[Us hc];exact S2 (w1.setCell ⟨R,14,none⟩ (.int .i64 (at_:Int))) _ (U8.over hR (at_:Int)) (m6.far (by omega) _) (J2.blk U8.blk hRl (Q76 _ _) _) (X2.trans (Kp.set _ (.inl rfl) _)) (fun a l c y hy=>(hy.step hb).blk U8.blk hRl (Q76 _ _) _)
 ·simp only[Up hc];exact S2 w1 x U8 m6 J2 X2 (fun a l c y hy=>hy.step hb)
theorem Qmx:(Tryz.prog.info? 44).map (fun i=>(i.zero,i.size,i.bytes))=some (some (.agg #[.bool false,.int .i64 0,.slice none 0 0,.bool false,.int .i64 0,.slice none 0 0]),6,80):=by kernel_rfl
theorem Qxz:∀u∈(Value.agg #[.bool false,.int .i64 0,.slice none 0 0,.bool false,.int .i64 0,.slice none 0 0]).cells.toList,NoU u:=by
 intro u hu;simp[Value.cells] at hu;rcases hu with rfl|rfl|rfl|rfl|rfl|rfl <;> first|exact Q2m _|exact Q2t _|exact Q3z _ _ _
theorem Qeb:Tryz.prog.underlying 23=some (.slice 44):=by kernel_rfl
theorem Qus (W:World) (v0 v1 v2 v3 v4 v5:Value):(Instr.buildSlice 23 1 #[(0,.agg #[v0,v1,v2,v3,v4,v5])]).run Tryz.prog W=.ok (.slice (some ⟨W.heap.size,0,none⟩) 1 1) (W.alloc (.cells #[v0,v1,v2,v3,v4,v5] 44)):=by
 obtain ⟨i0,E2,P1,G1,K1⟩:=Q0p Qmx;exact run_buildSlice W 23 44 1 _ #[v0,v1,v2,v3,v4,v5] i0 _ Qeb E2 P1 (by rw[G1];decide) (by rw[G1];decide) (by rw[G1];first|kernel_rfl|simp[Instr.fill,Value.cells])
def ivC (R _A:Nat) (p:RpP) (y:IvV) (q1 q2:Pl):List (Option Value):=[some (.pointer (some ⟨R,0,none⟩)),some (.pointer (some ⟨R,0,none⟩)),some (.pointer (some ⟨R,0,none⟩)),some (.pointer (some ⟨R,0,none⟩)),some (.pointer (some ⟨R,1,none⟩)),some (.slice p.b.a p.b.l p.b.c),some (.agg #[.bool y.lo.neg,.int .i64 y.lo.exp,.slice q1.a q1.l q1.c,.bool y.hi.neg,.int .i64 y.hi.exp,.slice q2.a q2.l q2.c]),none,none,some (.pointer (some ⟨R,0,none⟩)),some (.pointer (some ⟨R,0,none⟩)),some (.pointer (some ⟨R,1,none⟩)),none]
def J1t (U:World) (R B:Nat) (p:RpP) (x:RpV) (y:IvV) (v:Value) (W:World):Prop:=∃g c,v=.slice (some ⟨g,0,none⟩) (p.b.l+1) c/\Blk W R (rpL p x)/\Q7a W B { p with b:=⟨some ⟨g,0,none⟩,p.b.l+1,c⟩ } { x with box:=x.box++[y] }/\Kp R B U W
def J1u (U:World) (R B:Nat) (p:RpP) (x:RpV) (y:IvV) (W:World):Prop:=∃q,Q67 W R B { p with b:=q } { x with box:=x.box++[y] }/\Kp R B U W
structure IvI (U:World) (R A B:Nat) (p:RpP) (x:RpV) (y:IvV) (q1 q2:Pl) (D:Nat->Bool) (vs:Nat->Value) (W:World):Prop where
 v:∀j c,D j=true->(ivC R A p y q1 q2)[j]?=some (some c)->vs j=c
 w0:D 8=false->D 12=false->Bw U W
 w7:D 8=false->D 7=true->∃bl,vs 7=.slice (some ⟨bl,0,none⟩) 1 1/\bl<W.heap.size/\W.heap[bl]?=some (.cells (ivL q1 q2 y).toArray 44 (0,0))
 w8:D 8=true->D 12=false->J1t U R B p x y (vs 8) W
 w12:D 12=true->J1u U R B p x y W
theorem Q10 {D:Nat->Bool} {k j:Nat} (h:j≠k):Q1z D k j=D j:=Up h
theorem Q4a {vs:Nat->Value} {k j:Nat} {v:Value} (h:j≠k):Q27 vs k v j=vs j:=Up h
theorem Qa9 (vs:Nat->Value) (k:Nat) (v:Value):Q27 vs k v k=v:=Us rfl
section
variable {U:World} {R A B:Nat} {p:RpP} {x:RpV} {y:IvV} {q1 q2:Pl} {D:Nat->Bool} {vs:Nat->Value} {W:World}
theorem IvI.q (h:IvI U R A B p x y q1 q2 D vs W) {k:Nat} {c:Value} (h7:k≠7) (h8:k≠8) (Zr:k≠12) (hc:(ivC R A p y q1 q2)[k]?=some (some c)):IvI U R A B p x y q1 q2 (Q1z D k) (Q27 vs k c) W:=by
 refine ⟨fun j c' hj D7=>?_,fun h1 h2=>h.w0 (by rwa[Q10 (Xbb h8)] at h1) (by rwa[Q10 (Xbb Zr)] at h2),fun h1 h2=>?_,fun h1 h2=>?_,fun h1=>h.w12 (by rwa[Q10 (Xbb Zr)] at h1)⟩
 ·by_cases e:j=k
  ·subst e;rw[hc] at D7;injection D7 with D7;injection D7 with D7;rw[Qa9];exact D7
  ·rw[Q4a e];exact h.v j c' (by rwa[Q10 e] at hj) D7
 ·rw[Q4a (Xbb h7)];exact h.w7 (by rwa[Q10 (Xbb h8)] at h1) (by rwa[Q10 (Xbb h7)] at h2)
 ·rw[Q4a (Xbb h8)];exact h.w8 (by rwa[Q10 (Xbb h8)] at h1) (by rwa[Q10 (Xbb Zr)] at h2)
theorem IvI.at_ {ops:Array Oper} {a:Act} (_h:IvI U R A B p x y q1 q2 D (Q09 ops a) W) {j:Nat} {t:Tmp} (hj:(ops[j]?).bind (·.dst)=some t):a.eval (.tmp t)=Q09 ops a j:=Q93 hj rfl
theorem IvI.ev {ops:Array Oper} {a:Act} (_h:IvI U R A B p x y q1 q2 D (Q09 ops a) W) {j:Nat} {t:Tmp} (hj:(ops[j]?).bind (·.dst)=some t):a.tmps[t]?.getD undef=Q09 ops a j:=Q0i hj rfl
theorem IvI.s7 (h:IvI U R A B p x y q1 q2 D vs W) (d8:D 8=false) (d12:D 12=false):IvI U R A B p x y q1 q2 (Q1z D 7) (Q27 vs 7 (.slice (some ⟨W.heap.size,0,none⟩) 1 1)) (W.alloc (.cells (ivL q1 q2 y).toArray 44)):=by
 have hb:=h.w0 d8 d12;refine ⟨fun j c' hj D7=>?_,fun _ _=>hb.alloc hb.size _,fun _ _=>⟨W.heap.size,Qa9 _ _ _,Q0h _ _,Um _ _⟩,fun h1 _=>?_,fun h1=>?_⟩
 ·by_cases e:j=7
  ·subst e;simp[ivC] at D7
  ·rw[Q4a e];exact h.v j c' (by rwa[Q10 e] at hj) D7
 ·rw[Q10 (by decide),d8] at h1;cases h1
 ·rw[Q10 (by decide),d12] at h1;cases h1
theorem IvI.s8 (h:IvI U R A B p x y q1 q2 D vs W) (hI:Q67 U R B p x) (hR:R<B) (hB:B<=U.heap.size) (h1:Q0m U q1.a q1.l q1.c y.lo) (h2:Q0m U q2.a q2.l q2.c y.hi) (hl:p.b.l<=1000) (d7:D 7=true) (d8:D 8=false) (d12:D 12=false) (ty:TypeId):
 ∃v W',(Builtin.append_ #[23,23] ty #[.slice p.b.a p.b.l p.b.c,vs 7]).run Tryz.prog W=.ok v W'/\IvI U R A B p x y q1 q2 (Q1z D 8) (Q27 vs 8 v) W':=by
 have hb:=h.w0 d8 d12;obtain ⟨bl,e7,U4,G8⟩:=h.w7 d8 d7;obtain ⟨i0,E2,P1,G1,K1⟩:=Q0p Qmx;have hW:=hI.step hb;obtain ⟨xs,hr⟩:=hW.box.row;have hBW:=Un hB hb.size;obtain ⟨g,c',w',S1,I0,K6,Y1⟩:=Q0w (P:=Tryz.prog) NoU W 23 ty 44 i0 _ 6 80 Qeb E2 P1 G1 K1 rfl Qxz B hBW p.b.a p.b.l p.b.c xs hr bl 1 1 (ivL q1 q2 y) rfl (Tx (cs:=(ivL q1 q2 y).toArray) G8) (by intro u hu;simp only[ivL,Uy,TN,Xbo] at hu;rcases hu with rfl|rfl|rfl|rfl|rfl|rfl <;> rfl) (Quq _ _ _) (by decide) (by omega) (by decide) (by decide);have VI:=hW.box.push hr K6 Y1 I0 (h1.step hb) (h2.step hb);have hBg:∀k,p.b.a.map (·.block)=some k->B<=k/\k<W.heap.size:=fun k hk=>by
  cases ha:p.b.a with
  |none=>rw[ha] at hk;cases hk
  |some z=>rw[ha] at hk;simp only[Uz,Uj] at hk;subst hk;exact hW.box.lt ha
 have QX:∀{aw:OA} {lw cw:Nat} {z:Q47},Q0m W aw lw cw z->Q0m w' aw lw cw z:=fun {aw lw cw z} hz=>⟨hz.lie.turn (hr.off hz.lie) ((Q0e.of_below (Ug _ _) _).trans0 (Q0e.of_grown K6 fun r hr _=>by
  cases ha:p.b.a with
  |none=>rw[ha] at hr;cases hr
  |some z=>rw[ha] at hr;simp only[Uz,Uj] at hr;exact ⟨z,rfl,hr⟩)) (fun _ h=>h),hz.lo,hz.hi⟩
 have hkp:Kp R B U w':=(Kp.of_below hb hB).trans (Kp.grown K6 (fun g hg=>(hBg g hg).1) hBW (fun j o hj ho=>by
  rcases hr.1.form with ⟨h0,_⟩|⟨g',cur,e1,_,_,hh,_⟩
  ·rw[h0] at hj;cases hj
  ·rw[e1] at hj;simp only[Uz,Uj] at hj;subst hj;rw[hh,Uj] at ho;rw[<-ho];rfl))
 have F5:Blk w' R (rpL p x):=hW.blk.same (K6.block R (by have:=hW.blk.lt;exact this) (fun e=>by have:=(hBg R e.symm).1;omega));rw[e7];refine ⟨_,w',S1,fun j cc hj D7=>?_,fun h1 _=>?_,fun h1 _=>?_,fun _ _=>?_,fun h1=>?_⟩
 ·by_cases e:j=8
  ·subst e;simp[ivC] at D7
  ·rw[Q4a e];exact h.v j cc (by rwa[Q10 e] at hj) D7
 ·rw[Q3g] at h1;cases h1
 ·rw[Q3g] at h1;cases h1
 ·rw[Qa9];exact ⟨g,c',rfl,F5,⟨VI,QX hW.t,QX hW.m,QX hW.e⟩,hkp⟩
 ·rw[Q10 (by decide),d12] at h1;cases h1
theorem IvI.s12 (h:IvI U R A B p x y q1 q2 D vs W) (hR:R<B) (d8:D 8=true) (d12:D 12=false) (v:Value):∃g c,vs 8=.slice (some ⟨g,0,none⟩) (p.b.l+1) c/\(∃u,W.cell? ⟨R,1,none⟩=some u)/\W.frozen? ⟨R,1,none⟩=false/\IvI U R A B p x y q1 q2 (Q1z D 12) (Q27 vs 12 v) (W.setCell ⟨R,1,none⟩ (.slice (some ⟨g,0,none⟩) (p.b.l+1) c)):=by
 obtain ⟨g,c,e8,F5,G6,hk⟩:=h.w8 d8 d12;refine ⟨g,c,e8,⟨_,F5.c 1 _ rfl⟩,F5.f 1 (by simp[rpL]),fun j cc hj D7=>?_,fun h1 _=>?_,fun h1 _=>?_,fun _ h1=>?_,fun _=>?_⟩
 ·by_cases e:j=12
  ·subst e;simp[ivC] at D7
  ·rw[Q4a e];exact h.v j cc (by rwa[Q10 e] at hj) D7
 ·rw[Q10 (by decide),d8] at h1;cases h1
 ·rw[Q10 (by decide),d8] at h1;cases h1
 ·rw[Q3g] at h1;cases h1
 ·have h1:=F5.set (i:=1) (by simp[rpL]) (.slice (some ⟨g,0,none⟩) (p.b.l+1) c);have h2:=G6.set (i:=1) F5 (by simp[rpL]) (Q76 _ _) hR (.slice (some ⟨g,0,none⟩) (p.b.l+1) c);exact ⟨⟨some ⟨g,0,none⟩,p.b.l+1,c⟩,⟨h1,h2.box,h2.t,h2.m,h2.e⟩,hk.trans (Kp.set _ (.inl rfl) _)⟩
end
def Qy0 (w:World) (R B at_:Nat) (p:RpP) (x:RpV) (st:PrS) (l:LU) (r:Ending) (w':World):Prop:=∃p' x',Q67 w' R B p' x'/\Kp R B w w'/\
 match (Qfg l).map (fun b=>({ st with box:=st.box++[b],over:=Q5p (Q5p st.over at_ b.1) at_ b.2 }:PrS)) with
 |none=>r=.returned (.bool false)/\p'=p/\∃o,x'={ x with over:=o }
 |some st'=>r=.returned (.bool true)/\StM x' st'
theorem Qy0.no {w w':World} {R B at_:Nat} {p:RpP} {x:RpV} {st:PrS} {l:LU} {o:Int} (h:Qfg l=none) (hI:Q67 w' R B p { x with over:=o }) (hk:Kp R B w w'):Qy0 w R B at_ p x st l (.returned (.bool false)) w':=
 ⟨p,_,hI,hk,by rw[h];exact ⟨rfl,rfl,o,rfl⟩⟩
theorem StM.push {x:RpV} {st:PrS} (h:StM x st) {y:IvV} {b:Option Dyadic × Option Dyadic} (hy:IvO y b) {o:Int} {ov:Option Nat} (ho:Qez o ov):StM { x with box:=x.box++[y],over:=o } { st with box:=st.box++[b],over:=ov }:=by
 refine ⟨h.prec,h.order,h.budget,h.til,h.most,h.least,by simp[h.len],fun j a c ha hc=>?_,ho⟩;simp only at ha hc
 by_cases hj:j<x.box.length
 ·rw[Tj hj] at ha;rw[Tj (by rw[<-h.len];exact hj)] at hc;exact h.box j a c ha hc
 ·rw[UY (by omega)] at ha;rw[UY (by rw[<-h.len];omega),<-h.len] at hc;have hz:j-x.box.length=0:=by
   have:=(Ul.1 ha).1;simp at this;omega
  rw[hz] at ha hc;simp only[UD,Uj] at ha hc;subst ha;subst hc;exact hy
theorem Qf0 (R B at_:Nat) (p:RpP) (x:RpV) (st:PrS) (s:ByteArray) (w:World) (hs:s.size<=1000000) (hT:∀W,Kp R B w W->Q1s W) (hI:Q67 w R B p x) (hR:R<B) (hB:B<=w.heap.size) (P0:StM x st) (hl:st.box.length<4):
 Calls Tryz.prog 127 #[.pointer (some ⟨R,0,none⟩),.int .i64 (at_:Int),.string s] w (Qy0 w R B at_ p x st s.data.toList):=by
 obtain ⟨L,hL⟩:∃L,s.data.toList=L:=⟨_,rfl⟩;have ZZ:=Tryz.J2j s ⟨#[98,111,120,32]⟩ w;have R7:(⟨#[98,111,120,32]⟩:ByteArray).data.toList=Qku++[32]:=rfl;rw[R7,hL] at ZZ;have hr:=Qhg Qku L;have t8:L.length<=1000000:=by rw[<-hL];have:s.data.toList.length=s.size:=(Lib.size_eq s).symm;omega
 obtain ⟨t,ht⟩:∃t,Lib.trimPrefix L (Qku++[32])=t:=⟨_,rfl⟩;obtain ⟨b,hb⟩:∃b,Lib.hasPrefix L (Qku++[32])=b:=⟨_,rfl⟩;have P6:t.length<=1000000:=by
  rw[<-ht];unfold Lib.trimPrefix
  split
  ·rw[Tg];omega
  ·omega
 rw[ht,hb] at ZZ;rw[ht,hb] at hr;rw[hL];have hcut:=Qx3 ⟨t.toArray⟩ w P6;have HC:=Xh4 ZZ hcut hr P6;have HI:=Xh6 hI hT P0 hl hR hB;clear hr ZZ R7 ht hb hcut hT hI hR hB P0 hl hs hL t8 P6
 go_enter Tryz.func127,Tryz.ntmps127
 go_upto_region 4 with (first
  |(go_at_call 177;refine (Xo1 HC).mono ?_;rintro e w2 ⟨he,D0⟩;obtain ⟨lo,hi,two,rfl,i4,Qd,hc⟩:=Qx6 he;have H2:=Xh4 D0 i4 Qd hc;clear he D0 i4 Qd hc)
  |(go_at_call 173;refine (Xo0 HC).mono ?_;rintro e w1 ⟨rfl,G4⟩;have G4:=G4.symm;subst G4))
 obtain ⟨U0,hU0⟩:∃U0,w2.alloc (.cells #[.bool false,.int .i64 0,.slice none 0 0,.bool false,.int .i64 0,.slice none 0 0] 44)=U0:=⟨_,rfl⟩;have hA:Blk U0 w2.heap.size [.bool false,.int .i64 0,.slice none 0 0,.bool false,.int .i64 0,.slice none 0 0]:=by rw[<-hU0];exact Blk.new w2 [.bool false,.int .i64 0,.slice none 0 0,.bool false,.int .i64 0,.slice none 0 0] 44
 have E0:w2.heap.size<U0.heap.size:=by rw[<-hU0];exact Q0h _ _
 have X1:Bw w U0:=by rw[<-hU0];exact (Xo0 H2).alloc (Xo0 H2).size _
 rw[hU0];obtain ⟨A,hAe⟩:∃A,w2.heap.size=A:=⟨_,rfl⟩;have hwA:w.heap.size<=A:=by rw[<-hAe];exact (Xo0 H2).size
 rw[hAe] at hA E0⊢;have A9:∀u∈[Value.bool false,.int .i64 0,.slice none 0 0,.bool false,.int .i64 0,.slice none 0 0],NoU u:=by
  intro u hu;simp only[Uy,TN,Xbo] at hu;rcases hu with rfl|rfl|rfl|rfl|rfl|rfl <;> first|exact Q2m _|exact Q2t _|exact Q3z _ _ _
 have hBA:B<=A:=Un (Xe5 HI) hwA;have hBU:B<=U0.heap.size:=by omega
 have hI0:=(Xo0 HI).step X1;have JZ:Kp R B w U0:=Kp.of_below X1 (Xe5 HI);have hAb:∀y,p.b.a=some y->y.block≠A:=fun y hy=>by have:=((Xo0 HI).box.lt hy).2;omega
 have HA:=Xh8 hA E0 A9 hBA hBU hI0 JZ hAb;clear hU0 hA E0 X1 hAe hwA A9 hBA hBU hI0 JZ hAb;cases b
 case false=>
  have HN:=Ub (show Qfg L=none by unfold Qfg;rw[(Xo2 HC)];rfl)
  go_wp2_with fail
  go_ret;exact Qy0.no HN.out (Xo5 HA) (Xo6 HA)
 cases two
 case false=>
  have HN:=Ub (show Qfg L=none by unfold Qfg;rw[(Xo2 HC),Us rfl,TE,(Xe3 H2),Up (by decide)])
  go_wp2_with fail
  go_ret;exact Qy0.no HN.out (Xo5 HA) (Xo6 HA)
 have K2:Qfg L=match Qgp lo,Qgp hi with
  |some x,some y=>some (x,y)
  |_,_=>none:=by unfold Qfg;rw[(Xo2 HC),Us rfl,TE,(Xe3 H2),Us rfl];rfl
 have HX:=Ub K2;clear K2;have O8:=Q60 R at_ A 0 x.over ⟨lo.toArray⟩ U0 (by show lo.length<=_;have:=(Xo1 H2);have:=(Xe3 HC);omega) ((Xo1 HI) _ (Xo6 HA)) ((Xo5 HA).blk.c 14 _ rfl) ((Xo5 HA).blk.f 14 (by simp[rpL])) ((Xo0 HA).num (i:=0) (by simp)) (.inl (by have:=(Xo3 HA);have:=(Xo4 HI);omega));have HLO:=Ub O8;clear O8;cases hnl:Qgp lo with
 |none=>
  have HN:=Xh2 hnl (show Qfg L=none by rw[HX.out,hnl]);clear hnl
  go_wp2_with (go_at_call 176;refine HLO.out.mono ?_;rintro r U1 hN
               obtain ⟨n1,e1,a1,l1,c1,L1,er1,rfl,S6,U8,m6,J2,X2,Zp,o6⟩:=Qea (Xo5 HA) (Xo4 HI) (Xo4 HA) (Xo0 HA) (Xo3 HA) (Xo1 HA) (Xo2 HA) (Xe7 HA) (by simp) hN;obtain rfl:er1=5:=(by { rcases (Q21 S6).2 with ⟨_,h5⟩|⟨d,hd,_⟩;exact h5;exact absurd ((Xo0 HN).symm.trans hd) (by simp) });have H5:=Xh2 U8 X2;clear hN S6 U8 m6 J2 X2 Zp o6)
  go_ret;exact Qy0.no (Xe1 HN) (Xo0 H5) ((Xo6 HA).trans (Xe1 H5))
 |some d1=>
  have HN1:=Ub hnl;clear hnl;cases hnh:Qgp hi with
  |none=>
   have HN:=Xh2 hnh (show Qfg L=none by rw[HX.out,HN1.out,hnh]);clear hnh
   go_wp2_with (first
    |(go_at_call 176;refine (Xe3 H5).mono ?_;rintro r U2 hN
      obtain ⟨n2,e2,a2,l2,c2,L2,er2,rfl,S6,ZN,Jm,JU,o5,Yv,F6⟩:=Qea (Xo0 H5) (Xo4 HI) (Un (Xo4 HA) (Xo1 H5).size) (Xo2 H5).1 (Xo3 HA) (Xo2 H5).2.1 (Xo2 H5).2.2 (Xe7 HA) (by simp) hN;obtain rfl:er2=5:=(by { rcases (Q21 S6).2 with ⟨_,h5⟩|⟨d,hd,_⟩;exact h5;exact absurd ((Xo0 HN).symm.trans hd) (by simp) });have H6:=Xh2 ZN ((Xo1 H5).trans o5);clear hN S6 ZN Jm JU o5 Yv F6)
    |(go_at_call 176;refine HLO.out.mono ?_;rintro r U1 hN
      obtain ⟨n1,e1,a1,l1,c1,L1,er1,rfl,S6,U8,m6,J2,X2,Zp,o6⟩:=Qea (Xo5 HA) (Xo4 HI) (Xo4 HA) (Xo0 HA) (Xo3 HA) (Xo1 HA) (Xo2 HA) (Xe7 HA) (by simp) hN;have ZQ:(er1 != 5)=true:=(by { rcases (Q21 S6).2 with ⟨h0,_⟩|⟨d,hd,_,⟨_,h2⟩|⟨_,h2⟩⟩;exact absurd (HN1.out.symm.trans h0) (by simp);rw[h2];rfl;rw[h2];rfl });rw[ZQ];have K5:=Q4u (Q4u (Q4u (Xo2 HA) (i:=0) (Q2m n1)) (i:=0+1) (Q2t e1)) (i:=0+2) (Q3z a1 l1 c1);have E1:=Q60 R at_ A 3 _ ⟨hi.toArray⟩ U1 (by show hi.length<=_;have:=(Xo2 H2);have:=(Xe3 HC);omega) ((Xo1 HI) _ ((Xo6 HA).trans X2)) (U8.blk.c 14 _ rfl) (U8.blk.f 14 (by simp[rpL])) (m6.num (i:=3) (by simp)) (.inl (by have:=(Xo3 HA);have:=(Xo4 HI);omega));have H5:=Xh4 U8 X2 (And.intro m6 (And.intro Zp K5)) E1;clear hN S6 U8 m6 J2 X2 Zp o6 ZQ K5 E1))
   go_ret;exact Qy0.no (Xe1 HN) (Xo0 H6) ((Xo6 HA).trans (Xe1 H6))
  |some d2=>
   have HN:=Xh2 hnh (show Qfg L=some (d1,d2) by rw[HX.out,HN1.out,hnh]);clear hnh
   go_upto_region 6 with (first
    |(go_at_call 176;refine (Xo3 H5).mono ?_;rintro r U2 hN
      obtain ⟨n2,e2,a2,l2,c2,L2,er2,rfl,S6,ZN,Jm,JU,o5,Yv,F6⟩:=Qea (Xo0 H5) (Xo4 HI) (Un (Xo4 HA) (Xo1 H5).size) (Xo2 H5).1 (Xo3 HA) (Xo2 H5).2.1 (Xo2 H5).2.2 (Xe7 HA) (by simp) hN;have ZQ:(er2 != 5)=true:=(by { rcases (Q21 S6).2 with ⟨h0,_⟩|⟨d,hd,_,⟨_,h2⟩|⟨_,h2⟩⟩;exact absurd ((Xo0 HN).symm.trans h0) (by simp);rw[h2];rfl;rw[h2];rfl });rw[ZQ];have hO:Qom ⟨n2,e2,L2⟩ d2/\((d2=none/\er2=2)∨(d2≠none/\er2=0)):=(by { rcases (Q21 S6).2 with ⟨h0,_⟩|⟨d,hd,h3,h4⟩;exact absurd ((Xo0 HN).symm.trans h0) (by simp);rw[(Xo0 HN)] at hd;injection hd with hd;subst hd;exact ⟨h3,h4⟩ });have H6:=Xh7 ZN ((Xo1 H5).trans o5) Jm (F6 _ _ _ _ (Xo4 H5)) JU hO.1 (Qb3 (Xe6 H5) hO.2 at_);clear hN S6 ZN Jm JU o5 Yv F6 ZQ hO)
    |(go_at_call 176;refine HLO.out.mono ?_;rintro r U1 hN
      obtain ⟨n1,e1,a1,l1,c1,L1,er1,rfl,S6,U8,m6,J2,X2,Zp,o6⟩:=Qea (Xo5 HA) (Xo4 HI) (Xo4 HA) (Xo0 HA) (Xo3 HA) (Xo1 HA) (Xo2 HA) (Xe7 HA) (by simp) hN;have ZQ:(er1 != 5)=true:=(by { rcases (Q21 S6).2 with ⟨h0,_⟩|⟨d,hd,_,⟨_,h2⟩|⟨_,h2⟩⟩;exact absurd (HN1.out.symm.trans h0) (by simp);rw[h2];rfl;rw[h2];rfl });rw[ZQ];have hO:Qom ⟨n1,e1,L1⟩ d1/\((d1=none/\er1=2)∨(d1≠none/\er1=0)):=(by { rcases (Q21 S6).2 with ⟨h0,_⟩|⟨d,hd,h3,h4⟩;exact absurd (HN1.out.symm.trans h0) (by simp);rw[HN1.out] at hd;injection hd with hd;subst hd;exact ⟨h3,h4⟩ });have K5:=Q4u (Q4u (Q4u (Xo2 HA) (i:=0) (Q2m n1)) (i:=0+1) (Q2t e1)) (i:=0+2) (Q3z a1 l1 c1);have E1:=Q60 R at_ A 3 _ ⟨hi.toArray⟩ U1 (by show hi.length<=_;have:=(Xo2 H2);have:=(Xe3 HC);omega) ((Xo1 HI) _ ((Xo6 HA).trans X2)) (U8.blk.c 14 _ rfl) (U8.blk.f 14 (by simp[rpL])) (m6.num (i:=3) (by simp)) (.inl (by have:=(Xo3 HA);have:=(Xo4 HI);omega));have H5:=Xh7 U8 X2 (And.intro m6 (And.intro Zp K5)) E1 J2 hO.1 (Qb3 (Xo2 HI).over hO.2 at_);clear hN S6 U8 m6 J2 X2 Zp o6 ZQ K5 E1 hO))
   obtain ⟨y,hy⟩:∃y:IvV,(⟨⟨n1,e1,L1⟩,⟨n2,e2,L2⟩⟩:IvV)=y:=⟨_,rfl⟩;obtain ⟨x2,Z3⟩:∃x2:RpV,({ x with over:=if er2=2/\(if er1=2/\x.over<0 then (at_:Int) else x.over)<0 then (at_:Int) else if er1=2/\x.over<0 then (at_:Int) else x.over }:RpV)=x2:=⟨_,rfl⟩;have ZN:Q67 U2 R B p x2:=(by rw[<-Z3];exact (Xo0 H6));have Jm:Blk U2 A (ivL ⟨a1,l1,c1⟩ ⟨a2,l2,c2⟩ y):=(by rw[<-hy];exact (Xo2 H6));have h1:Q0m U2 a1 l1 c1 y.lo:=(by rw[<-hy];exact (Xo3 H6));have h2:Q0m U2 a2 l2 c2 y.hi:=(by rw[<-hy];exact (Xo4 H6));have hBU2:B<=U2.heap.size:=Un (Xo4 HA) (Xo1 H6).size;have N0:p.b.l<=1000:=(by have e1:=ZN.box.len;have e2:=(Xo2 HI).len;have e3:=(Xo3 HI);rw[<-Z3] at e1;simp only at e1;omega);have U3:∀q W,Q67 W R B { p with b:=q } { x2 with box:=x2.box++[y] }->Kp R B U2 W->Qy0 w R B at_ p x st L (.returned (.bool true)) W:=fun q W hF hk=>by
    refine ⟨_,_,hF,(Xo6 HA).trans ((Xo1 H6).trans hk),?_⟩;rw[(Xe1 HN)];refine ⟨rfl,?_⟩;have:=(Xo2 HI).push (y:=y) (b:=(d1,d2)) (by rw[<-hy];exact ⟨(Xo5 H5),(Xo5 H6)⟩) (Xe6 H6);rw[<-Z3];exact this
   obtain ⟨⟨k0,k1,k2,k3,k4,k5⟩,hA2lt⟩:(U2.cell? ⟨A,0,none⟩=some (.bool y.lo.neg)/\U2.cell? ⟨A,1,none⟩=some (.int .i64 y.lo.exp)/\U2.cell? ⟨A,2,none⟩=some (.slice a1 l1 c1)/\U2.cell? ⟨A,3,none⟩=some (.bool y.hi.neg)/\U2.cell? ⟨A,4,none⟩=some (.int .i64 y.hi.exp)/\U2.cell? ⟨A,5,none⟩=some (.slice a2 l2 c2))/\A<U2.heap.size:=⟨⟨Jm.c 0 _ rfl,Jm.c 1 _ rfl,Jm.c 2 _ rfl,Jm.c 3 _ rfl,Jm.c 4 _ rfl,Jm.c 5 _ rfl⟩,UA (Jm.c 0 _ rfl)⟩;have HK:=Ub (fun W (h:Bw U2 W)=>Jm.step h hA2lt);have HE:=Xh6 ZN h1 h2 hBU2 N0 U3;clear ZN Jm h1 h2 hBU2 N0 U3 Z3 hy k0 k1 k2 k3 k4 k5;refine Q31 (by kernel_rfl) (fun D V W=>IvI U2 R A B p x2 y ⟨a1,l1,c1⟩ ⟨a2,l2,c2⟩ D V W) ?_ (by kernel_rfl) ?_ ?_ ?_
   ·rintro i o hi hd D V v W h;have hi12:i=12:=(by have:=Qc2 (x:=12) (y:=12) (by kernel_rfl) hi hd;omega);subst hi12;refine ⟨fun j c hj hc=>?_,h.w0,fun h1 h2=>?_,fun h1 h2=>?_,h.w12⟩
    ·by_cases e:j=12
     ·subst e;simp[ivC] at hc
     ·have:=h.v j c hj hc;rwa[Q4a e] at this
    ·have:=h.w7 h1 h2;rwa[Q4a (by decide)] at this
    ·have:=h.w8 h1 h2;rwa[Q4a (by decide)] at this
   ·intro V;exact ⟨fun j c hj=>(by cases hj),fun _ _=>Q04 U2,fun _ h=>(by cases h),fun h=>(by cases h),fun h=>(by cases h)⟩
   ·refine ⟨fun a W D hI F0 hk A0 C2=>?_,?_⟩
    ·have e0:=Q0d F0 0 (by kernel_rfl) rfl;exact Q16 (u:=.pointer (some ⟨R,0,none⟩)) rfl (by simp[go_sem,e0]) (hI.q (by decide) (by decide) (by decide) rfl)
    refine ⟨fun a W D hI F0 hk A0 C2=>?_,?_⟩
    ·have e0:=Q0d F0 0 (by kernel_rfl) rfl;exact Q16 (u:=.pointer (some ⟨R,0,none⟩)) rfl (by simp[go_sem,e0]) (hI.q (by decide) (by decide) (by decide) rfl)
    refine ⟨fun a W D hI F0 hk A0 C2=>?_,?_⟩
    ·have e0:=Q0i (j:=1) (t:=47) rfl (hI.v 1 _ (A0 1 (by decide)) rfl);exact Q16 (u:=.pointer (some ⟨R,0,none⟩)) rfl (by simp[go_sem,e0]) (hI.q (by decide) (by decide) (by decide) rfl)
    refine ⟨fun a W D hI F0 hk A0 C2=>?_,?_⟩
    ·have e0:=Q0i (j:=2) (t:=48) rfl (hI.v 2 _ (A0 2 (by decide)) rfl);exact Q16 (u:=.pointer (some ⟨R,0,none⟩)) rfl (by simp[go_sem,e0]) (hI.q (by decide) (by decide) (by decide) rfl)
    refine ⟨fun a W D hI F0 hk A0 C2=>?_,?_⟩
    ·have e0:=Q0i (j:=3) (t:=49) rfl (hI.v 3 _ (A0 3 (by decide)) rfl);exact Q16 (u:=.pointer (some ⟨R,1,none⟩)) rfl (by simp[go_sem,e0]) (hI.q (by decide) (by decide) (by decide) rfl)
    refine ⟨fun a W D hI F0 hk A0 C2=>?_,?_⟩
    ·have e0:=Q0i (j:=4) (t:=50) rfl (hI.v 4 _ (A0 4 (by decide)) rfl);have d8:D 8=false:=Q2b C2 (j:=8) rfl (k:=5) (by decide) hk;have d12:D 12=false:=Q2b C2 (j:=12) rfl (k:=8) (by decide) d8;have k1:=((Xo0 HE).step (hI.w0 d8 d12)).blk.c 1 _ rfl;exact Q16 (u:=.slice p.b.a p.b.l p.b.c) rfl (by simp[go_sem,e0,k1]) (hI.q (by decide) (by decide) (by decide) rfl)
    refine ⟨fun a W D hI F0 hk A0 C2=>?_,?_⟩
    ·have e0:=Q0d F0 12 (by kernel_rfl) rfl;have d7:D 7=false:=Q2b C2 (j:=7) rfl (k:=6) (by decide) hk;have d8:D 8=false:=Q2b C2 (j:=8) rfl (k:=7) (by decide) d7;have d12:D 12=false:=Q2b C2 (j:=12) rfl (k:=8) (by decide) d8;have hb:=HK.out W (hI.w0 d8 d12);have k0:=hb.c 0 _ rfl;have k1:=hb.c 1 _ rfl;have k2:=hb.c 2 _ rfl;have k3:=hb.c 3 _ rfl;have k4:=hb.c 4 _ rfl;have k5:=hb.c 5 _ rfl;exact Q16 (u:=.agg #[.bool y.lo.neg,.int .i64 y.lo.exp,.slice a1 l1 c1,.bool y.hi.neg,.int .i64 y.hi.exp,.slice a2 l2 c2]) rfl (by simp[go_sem,e0,k0,k1,k2,k3,k4,k5]) (hI.q (by decide) (by decide) (by decide) rfl)
    refine ⟨fun a W D hI F0 hk A0 C2=>?_,?_⟩
    ·have e0:a.eval (.tmp 52)=.agg #[.bool y.lo.neg,.int .i64 y.lo.exp,.slice a1 l1 c1,.bool y.hi.neg,.int .i64 y.hi.exp,.slice a2 l2 c2]:=Q93 (j:=6) (t:=52) rfl (hI.v 6 _ (A0 6 (by decide)) rfl);have d8:D 8=false:=Q2b C2 (j:=8) rfl (k:=7) (by decide) hk;have d12:D 12=false:=Q2b C2 (j:=12) rfl (k:=8) (by decide) d8;exact Q16 (w':=W.alloc (.cells (ivL ⟨a1,l1,c1⟩ ⟨a2,l2,c2⟩ y).toArray 44)) (u:=.slice (some ⟨W.heap.size,0,none⟩) 1 1) rfl (Q6o 23 1 #[(0,.tmp 52)] (by rfl) (parts':= #[(0,.agg #[.bool y.lo.neg,.int .i64 y.lo.exp,.slice a1 l1 c1,.bool y.hi.neg,.int .i64 y.hi.exp,.slice a2 l2 c2])]) (by simp[e0]) (Qus W _ _ _ _ _ _)) (hI.s7 d8 d12)
    refine ⟨fun a W D hI F0 hk A0 C2=>?_,?_⟩
    ·have e5:=Q93 (j:=5) (t:=51) rfl (hI.v 5 _ (A0 5 (by decide)) rfl);have d12:D 12=false:=Q2b C2 (j:=12) rfl (k:=8) (by decide) hk;obtain ⟨v,W',S1,J6⟩:=hI.s8 (Xo0 HE) (Xo4 HI) (Xo3 HE) (Xo1 HE) (Xo2 HE) (Xo4 HE) (A0 7 (by decide)) hk d12 23;have e7:=hI.at_ (j:=7) (t:=53) rfl;exact Q16 (w':=W') (u:=v) rfl (Q73 (.tmp 51) (.tmp 53) 23 23 (by rfl) e5 e7 S1) J6
    refine ⟨fun a W D hI F0 hk A0 C2=>?_,?_⟩
    ·have e0:=Q0i (j:=0) (t:=46) rfl (hI.v 0 _ (A0 0 (by decide)) rfl);exact Q16 (u:=.pointer (some ⟨R,0,none⟩)) rfl (by simp[go_sem,e0]) (hI.q (by decide) (by decide) (by decide) rfl)
    refine ⟨fun a W D hI F0 hk A0 C2=>?_,?_⟩
    ·have e0:=Q0i (j:=9) (t:=55) rfl (hI.v 9 _ (A0 9 (by decide)) rfl);exact Q16 (u:=.pointer (some ⟨R,0,none⟩)) rfl (by simp[go_sem,e0]) (hI.q (by decide) (by decide) (by decide) rfl)
    refine ⟨fun a W D hI F0 hk A0 C2=>?_,?_⟩
    ·have e0:=Q0i (j:=10) (t:=56) rfl (hI.v 10 _ (A0 10 (by decide)) rfl);exact Q16 (u:=.pointer (some ⟨R,1,none⟩)) rfl (by simp[go_sem,e0]) (hI.q (by decide) (by decide) (by decide) rfl)
    refine ⟨fun a W D hI F0 hk A0 C2=>?_,trivial⟩
    ·have e0:=Q0i (j:=11) (t:=57) rfl (hI.v 11 _ (A0 11 (by decide)) rfl);obtain ⟨g8,c8,h8,⟨u0,hu0⟩,m4,hn⟩:=hI.s12 (Xo4 HI) (A0 8 (by decide)) hk undef;have e8:=(hI.ev (j:=8) (t:=54) rfl).trans h8;exact Qax (w':=W.setCell ⟨R,1,none⟩ (.slice (some ⟨g8,0,none⟩) (p.b.l+1) c8)) rfl (by simp[go_sem,e0,e8,hu0,m4]) hn
   ·intro D vs W hD hI;obtain ⟨q,hF,hk⟩:=hI.w12 (hD 12 (by decide));have HF:=Ub ((Xe5 HE) q W hF hk);clear hF hk hI hD;simp only[Q0y,Act.put,Uu,UI,UF]
    go_wp2_with fail
    go_ret;exact HF.out
def Q5n (w:World) (R B i at_:Nat) (p:RpP) (x:RpV) (st:PrS) (l:LU) (r:Ending) (w':World):Prop:=∃p' x',Q67 w' R B p' x'/\Kp R B w w'/\
 match Q51 i at_ l st with
 |none=>r=.returned (.bool false)/\(6<=i->p'=p/\∃o,x'={ x with over:=o })
 |some st'=>r=.returned (.bool true)/\StM x' st'
theorem Q5n.yn {w w':World} {R B i at_:Nat} {p:RpP} {x:RpV} {st:PrS} {l:LU} {r:Ending} (h:Q5n w R B i at_ p x st l r w'):∃b,r=.returned (.bool b)/\Q5n w R B i at_ p x st l (.returned (.bool b)) w':=by
 have h0:=h;obtain ⟨p',x',_,_,hm⟩:=h;cases hl:Q51 i at_ l st with
 |none=>rw[hl] at hm;obtain ⟨rfl,_⟩:=hm;exact ⟨_,rfl,h0⟩
 |some st'=>rw[hl] at hm;obtain ⟨rfl,_⟩:=hm;exact ⟨_,rfl,h0⟩
theorem Qr5 {i p:Nat} {l:LU} {st:PrS} (hi:6<=i):Q51 i p l st=if st.box.length<4 then (Qfg l).map fun b=>{ st with box:=st.box++[b],over:=Q5p (Q5p st.over p b.1) p b.2 } else none:=by
 unfold Q51
 match i,hi with
 |6,_=>rfl
 |n+7,_=>rfl
theorem Qec {w w':World} {R B i at_ o:Nat} {p:RpP} {x:RpV} {st:PrS} {l wd:LU} {r:Ending} (ux:RpV->Int->RpV) (us:PrS->Nat->PrS) (hI:Q67 w R B p x) (hR:R<B) (hB:B<=w.heap.size) (ho:o<15) (hi:i<6)
 (h1:∀n:Int,rpL p (ux x n)=(rpL p x).set o (.int .i64 n)) (h2:∀(W:World) (n:Int),Q7a W B p x->Q7a W B p (ux x n)) (h3:∀n:Nat,StM (ux x (n:Int)) (us st n)) (hm:Q51 i at_ l st=((Q5o wd l).bind Q2v).map fun n=>us st n)
 (h:Q6r w R o ((Q5o wd l).bind Q2v) r w'):Q5n w R B i at_ p x st l r w':=by
 unfold Q5n;rw[hm];cases hX:(Q5o wd l).bind Q2v with
 |none=>
  rw[hX] at h;obtain ⟨rfl,hb⟩:=h;exact ⟨p,x,hI.step hb,Kp.of_below hb hB,rfl,fun h=>by omega⟩
 |some n=>
  rw[hX] at h;obtain ⟨rfl,w1,hb,rfl⟩:=h;have U8:=hI.step hb;have N0:o<(rpL p x).length:=by simpa[rpL] using ho
  have F5:=U8.blk.set N0 (.int .i64 (n:Int));rw[<-h1] at F5;have hr:=h2 _ (n:Int) (U8.rest.set (i:=o) U8.blk N0 (Q76 _ _) hR (.int .i64 (n:Int)));exact ⟨p,ux x n,⟨F5,hr.box,hr.t,hr.m,hr.e⟩,(Kp.of_below hb hB).trans (Kp.set _ (.inl rfl) _),rfl,h3 n⟩
theorem Qed {w w':World} {R B i at_ o:Nat} {p:RpP} {x:RpV} {st:PrS} {l wd:LU} {r:Ending} (up:RpP->Pl->RpP) (ux:RpV->Q47->RpV) (us:PrS->Option Dyadic->PrS) (hI:Q67 w R B p x) (hR:R<B) (hB:B<=w.heap.size) (P0:StM x st) (ho:o+2<14) (hi:i<6)
 (h1:∀x n e a l c L,rpL (up p ⟨a,l,c⟩) (ux x ⟨n,e,L⟩)=(((rpL p x).set o (.bool n)).set (o+1) (.int .i64 e)).set (o+2) (.slice a l c)) (h2:∀(W:World) x q nv,Q7a W B p x->Q0m W q.a q.l q.c nv->Q7a W B (up p q) (ux x nv))
 (h3:∀nv d ov ov',Qom nv d->Qez ov ov'->StM (ux { x with over:=ov } nv) { us st d with over:=ov' }) (hm:Q51 i at_ l st=((Q5o wd l).bind Qgp).map fun d=>{ us st d with over:=Q5p st.over at_ d })
 (h:Quo w R at_ R o x.over (Q5o wd l) r w'):Q5n w R B i at_ p x st l r w':=by
 unfold Q5n;rw[hm];cases hX:Q5o wd l with
 |none=>
  rw[hX] at h;obtain ⟨rfl,rfl⟩:=h;exact ⟨p,x,hI,Kp.refl _ _ _,rfl,fun h=>by omega⟩
 |some t=>
  rw[hX] at h;obtain ⟨n,e,a,l,c,L,er,w1,rfl,S6,hb,hw,rfl⟩:=h;have hx:=Q21 S6;have U8:=hI.step hb;have J2:Q0m w1 a l c ⟨n,e,L⟩:=⟨hw,hx.1.1,hx.1.2⟩;have X2:=Kp.of_below (R:=R) hb hB;have hRl:(14:Nat)<(rpL p x).length:=by simp[rpL]
  have S2:∀(W:World) (ov:Int),Q67 W R B p { x with over:=ov }->Q0m W a l c ⟨n,e,L⟩->Kp R B w W->((er != 5)=false∨∃d,Qgp t=some d/\(er != 5)=true/\Qom ⟨n,e,L⟩ d/\Qez ov (Q5p st.over at_ d))->
   ∃p' x',Q67 (Q37 W R o n e (.slice a l c)) R B p' x'/\Kp R B w (Q37 W R o n e (.slice a l c))/\(((er != 5)=false)∨∃d,Qgp t=some d/\(er != 5)=true/\StM x' { us st d with over:=Q5p st.over at_ d }):=by
   intro W ov hz hNW hkW hd;have N0:o+2<(rpL p { x with over:=ov }).length:=(by simp[rpL];omega);have F5:=hz.blk.store N0 n e (.slice a l c);rw[<-h1] at F5;have hr:=h2 _ _ ⟨a,l,c⟩ _ (hz.rest.num hz.blk N0 (Q76 _ _) hR n e a l c) (hNW.store hz.blk N0 (Q76 _ _) n e (.slice a l c));refine ⟨_,_,⟨F5,hr.box,hr.t,hr.m,hr.e⟩,hkW.trans (Kp.num W (.inl rfl) n e _),?_⟩;rcases hd with hd|⟨d,hd,h5,h6,h7⟩
   ·exact .inl hd
   ·exact .inr ⟨d,hd,h5,h3 _ _ _ _ h6 h7⟩
  have Wo:((er != 5)=false/\Qgp t=none)∨∃d,Qgp t=some d/\(er != 5)=true/\Qom ⟨n,e,L⟩ d/\Qez (if er=2/\x.over<0 then (at_:Int) else x.over) (Q5p st.over at_ d):=by
   rcases hx.2 with ⟨h5,rfl⟩|⟨d,h5,h6,h7⟩
   ·exact .inl ⟨rfl,h5⟩
   ·refine .inr ⟨d,h5,?_,h6,Qb3 P0.over h7 at_⟩;rcases h7 with ⟨_,rfl⟩|⟨_,rfl⟩ <;> rfl
  have hW:∃W,(if er=2/\x.over<0 then w1.setCell ⟨R,14,none⟩ (.int .i64 (at_:Int)) else w1)=W/\Q67 W R B p { x with over:=if er=2/\x.over<0 then (at_:Int) else x.over }/\Q0m W a l c ⟨n,e,L⟩/\Kp R B w W:=by
   by_cases hc:er=2/\x.over<0
   ·rw[Us hc,Us hc];exact ⟨_,rfl,U8.over hR (at_:Int),J2.blk U8.blk hRl (Q76 _ _) _,X2.trans (Kp.set _ (.inl rfl) _)⟩
   ·rw[Up hc,Up hc];exact ⟨_,rfl,U8,J2,X2⟩
  obtain ⟨W,hWe,hz,hNW,hkW⟩:=hW;rw[hWe];obtain ⟨p',x',hr,hk,hd⟩:=S2 W _ hz hNW hkW (Wo.imp (fun h=>h.1) id);refine ⟨p',x',hr,hk,?_⟩;rw[TE];rcases Wo with ⟨h5,h6⟩|⟨d,h5,h6,_⟩
  ·rw[h6,h5];exact ⟨rfl,fun h=>by omega⟩
  ·rcases hd with hd|⟨d',y7,_,hs⟩
   ·rw[h6] at hd;cases hd
   ·rw[y7,h6];exact ⟨rfl,hs⟩
theorem Qr6 (R B i at_:Nat) (p:RpP) (x:RpV) (st:PrS) (s:ByteArray) (w:World) (hs:s.size<=1000000) (hT:∀W,Kp R B w W->Q1s W) (hI:Q67 w R B p x) (hR:R<B) (hB:B<=w.heap.size) (P0:StM x st):
 Calls Tryz.prog 83 #[.pointer (some ⟨R,0,none⟩),.int .i64 (i:Int),.int .i64 (at_:Int),.string s] w (Q5n w R B i at_ p x st s.data.toList):=by
 have I6:∀(wd:LU) (o:Nat),wd.length<=100->o<15->Calls Tryz.prog 125 #[.string s,.string ⟨wd.toArray⟩,.pointer (some ⟨R,o,none⟩)] w (Q6r w R o ((Q5o wd s.data.toList).bind Q2v)):=fun wd o hw ho=>by
  have N0:o<(rpL p x).length:=by simpa[rpL] using ho
  exact Qr2 s wd R o _ w hs hw (hI.blk.c o _ (Ua N0)) (hI.blk.f o N0)
 have q9:∀(wd:LU) (o:Nat),wd.length<=100->o+2<14->Calls Tryz.prog 126 #[.pointer (some ⟨R,0,none⟩),.int .i64 (at_:Int),.string s,.string ⟨wd.toArray⟩,.pointer (some ⟨R,o,none⟩)] w (Quo w R at_ R o x.over (Q5o wd s.data.toList)):=fun wd o hw ho=>
  Qmw R at_ R o x.over s wd w hs hw (hT w (Kp.refl _ _ _)) (hI.blk.c 14 _ rfl) (hI.blk.f 14 (by simp[rpL])) (hI.blk.num (by simp[rpL];omega)) (.inr ho)
 by_cases hi:i<6
 ·have h0:i=0∨i=1∨i=2∨i=3∨i=4∨i=5:=by omega
  rcases h0 with rfl|rfl|rfl|rfl|rfl|rfl
  ·have hc:=(I6 Qd3 11 (by decide) (by decide)).mono fun r w' h=>Q5n.yn (Qec (i:=0) (at_:=at_) (o:=11) (l:=s.data.toList) (wd:=Qd3) (fun x n=>{ x with prec:=n }) (fun st n=>{ st with prec:=n }) hI hR hB (by decide) (by decide) (fun _=>rfl) (fun _ _ h=>⟨h.box,h.t,h.m,h.e⟩) (fun n=>⟨rfl,P0.order,P0.budget,P0.til,P0.most,P0.least,P0.len,P0.box,P0.over⟩) rfl h);generalize hK:Q5n w R B 0 at_ p x st s.data.toList=K at hc⊢;clear hK I6 q9 hT P0
   go_enter Tryz.func83,Tryz.ntmps83
   go_wp2_with (go_at_call 125;refine hc.mono ?_;rintro r w1 ⟨b,rfl,hk⟩;have HK:=Ub hk;clear hk)
   exact HK.out
  ·have hc:=(I6 Q7m 12 (by decide) (by decide)).mono fun r w' h=>Q5n.yn (Qec (i:=1) (at_:=at_) (o:=12) (l:=s.data.toList) (wd:=Q7m) (fun x n=>{ x with order:=n }) (fun st n=>{ st with order:=n }) hI hR hB (by decide) (by decide) (fun _=>rfl) (fun _ _ h=>⟨h.box,h.t,h.m,h.e⟩) (fun n=>⟨P0.prec,rfl,P0.budget,P0.til,P0.most,P0.least,P0.len,P0.box,P0.over⟩) rfl h);generalize hK:Q5n w R B 1 at_ p x st s.data.toList=K at hc⊢;clear hK I6 q9 hT P0
   go_enter Tryz.func83,Tryz.ntmps83
   go_wp2_with (go_at_call 125;refine hc.mono ?_;rintro r w1 ⟨b,rfl,hk⟩;have HK:=Ub hk;clear hk)
   exact HK.out
  ·have hc:=(I6 Q5d 13 (by decide) (by decide)).mono fun r w' h=>Q5n.yn (Qec (i:=2) (at_:=at_) (o:=13) (l:=s.data.toList) (wd:=Q5d) (fun x n=>{ x with budget:=n }) (fun st n=>{ st with budget:=n }) hI hR hB (by decide) (by decide) (fun _=>rfl) (fun _ _ h=>⟨h.box,h.t,h.m,h.e⟩) (fun n=>⟨P0.prec,P0.order,rfl,P0.til,P0.most,P0.least,P0.len,P0.box,P0.over⟩) rfl h);generalize hK:Q5n w R B 2 at_ p x st s.data.toList=K at hc⊢;clear hK I6 q9 hT P0
   go_enter Tryz.func83,Tryz.ntmps83
   go_wp2_with (go_at_call 125;refine hc.mono ?_;rintro r w1 ⟨b,rfl,hk⟩;have HK:=Ub hk;clear hk)
   exact HK.out
  ·have hc:=(q9 Q7n 2 (by decide) (by decide)).mono fun r w' h=>Q5n.yn (Qed (i:=3) (at_:=at_) (o:=2) (l:=s.data.toList) (wd:=Q7n) (fun p q=>{ p with t:=q }) (fun x n=>{ x with til:=n }) (fun st d=>{ st with til:=d }) hI hR hB P0 (by decide) (by decide) (fun _ _ _ _ _ _ _=>rfl) (fun _ _ _ _ h h1=>⟨h.box,h1,h.m,h.e⟩) (fun _ _ _ _ h1 h2=>⟨P0.prec,P0.order,P0.budget,h1,P0.most,P0.least,P0.len,P0.box,h2⟩) rfl h);generalize hK:Q5n w R B 3 at_ p x st s.data.toList=K at hc⊢;clear hK I6 q9 hT P0
   go_enter Tryz.func83,Tryz.ntmps83
   go_wp2_with (go_at_call 126;refine hc.mono ?_;rintro r w1 ⟨b,rfl,hk⟩;have HK:=Ub hk;clear hk)
   exact HK.out
  ·have hc:=(q9 Qeq 5 (by decide) (by decide)).mono fun r w' h=>Q5n.yn (Qed (i:=4) (at_:=at_) (o:=5) (l:=s.data.toList) (wd:=Qeq) (fun p q=>{ p with m:=q }) (fun x n=>{ x with most:=n }) (fun st d=>{ st with most:=d }) hI hR hB P0 (by decide) (by decide) (fun _ _ _ _ _ _ _=>rfl) (fun _ _ _ _ h h1=>⟨h.box,h.t,h1,h.e⟩) (fun _ _ _ _ h1 h2=>⟨P0.prec,P0.order,P0.budget,P0.til,h1,P0.least,P0.len,P0.box,h2⟩) rfl h);generalize hK:Q5n w R B 4 at_ p x st s.data.toList=K at hc⊢;clear hK I6 q9 hT P0
   go_enter Tryz.func83,Tryz.ntmps83
   go_wp2_with (go_at_call 126;refine hc.mono ?_;rintro r w1 ⟨b,rfl,hk⟩;have HK:=Ub hk;clear hk)
   exact HK.out
  ·have hc:=(q9 Q8h 8 (by decide) (by decide)).mono fun r w' h=>Q5n.yn (Qed (i:=5) (at_:=at_) (o:=8) (l:=s.data.toList) (wd:=Q8h) (fun p q=>{ p with e:=q }) (fun x n=>{ x with least:=n }) (fun st d=>{ st with least:=d }) hI hR hB P0 (by decide) (by decide) (fun _ _ _ _ _ _ _=>rfl) (fun _ _ _ _ h h1=>⟨h.box,h.t,h.m,h1⟩) (fun _ _ _ _ h1 h2=>⟨P0.prec,P0.order,P0.budget,P0.til,P0.most,h1,P0.len,P0.box,h2⟩) rfl h);generalize hK:Q5n w R B 5 at_ p x st s.data.toList=K at hc⊢;clear hK I6 q9 hT P0
   go_enter Tryz.func83,Tryz.ntmps83
   go_wp2_with (go_at_call 126;refine hc.mono ?_;rintro r w1 ⟨b,rfl,hk⟩;have HK:=Ub hk;clear hk)
   exact HK.out
 ·have h0:((i:Int)==0)=false:=by rw[Uk];omega
  have h1:((i:Int)==1)=false:=by rw[Uk];omega
  have h2:((i:Int)==2)=false:=by rw[Uk];omega
  have h3:((i:Int)==3)=false:=by rw[Uk];omega
  have h4:((i:Int)==4)=false:=by rw[Uk];omega
  have h5:((i:Int)==5)=false:=by rw[Uk];omega
  have Ze:=Qr5 (p:=at_) (l:=s.data.toList) (st:=st) (Nat.le_of_not_lt hi);have k1:=hI.blk.c 1 _ rfl;have U4:st.box.length=p.b.l:=P0.len.symm.trans hI.box.len
  by_cases h4b:st.box.length<4
  ·have hc:=(Qf0 R B at_ p x st s w hs hT hI hR hB P0 h4b).mono fun r w' h=>Q5n.yn (i:=i) (by
    obtain ⟨p',x',g1,g2,g3⟩:=h;refine ⟨p',x',g1,g2,?_⟩;rw[Ze,Us h4b];cases hX:(Qfg s.data.toList).map (fun b=>({ st with box:=st.box++[b],over:=Q5p (Q5p st.over at_ b.1) at_ b.2 }:PrS)) with
    |none=>rw[hX] at g3;exact ⟨g3.1,fun _=>g3.2⟩
    |some st'=>rw[hX] at g3;exact g3)
   generalize hK:Q5n w R B i at_ p x st s.data.toList=K at hc⊢;have XO:(p.b.l:Int)<4:=(by omega);clear hK I6 q9 hT P0 Ze hi U4 h4b
   go_enter Tryz.func83,Tryz.ntmps83
   go_wp2_with (go_at_call 127;refine hc.mono ?_;rintro r w1 ⟨b,rfl,hk⟩;have HK:=Ub hk;clear hk)
   exact HK.out
  ·have S2:Q5n w R B i at_ p x st s.data.toList (.returned (.bool false)) w:=⟨p,x,hI,Kp.refl _ _ _,by rw[Ze,Up h4b];exact ⟨rfl,fun _=>⟨rfl,x.over,rfl⟩⟩⟩;have HF:=Ub S2;have XO:¬(p.b.l:Int)<4:=(by omega);clear S2 I6 q9 hT P0 Ze hi U4 h4b
   go_enter Tryz.func83,Tryz.ntmps83
   go_wp2_with fail
   go_ret;exact HF.out
open Go.Shelf
attribute [local go_sem] Oper.semAt_some
structure Sm (w w':World):Prop where
 size:w.heap.size<=w'.heap.size
 keep:∀(k:Nat) (o:Obj),w.heap[k]?=some o->o.isCells=true->w'.heap[k]?=w.heap[k]?
theorem Sm.of_turn {w w':World} {row:Option Nat} (hg:w.grownBy w' row) (hr:∀r,row=some r->∃o:Obj,w.heap[r]?=some o/\o.isCells=false):Sm w w':=
 ⟨hg.size,fun k o hk ho=>hg.block k (Uq.1 hk).1 (fun e=>by
   obtain ⟨o',h1,h2⟩:=hr k e.symm;rw[hk] at h1;injection h1 with h1;subst h1;rw[ho] at h2;cases h2)⟩
theorem Sm.block {w w':World} (h:Sm w w') {p:Addr} {v:Value} (hp:w.cell? p=some v):w'.heap[p.block]?=w.heap[p.block]?:=by
 obtain ⟨o,h1,h2⟩:=cells_of_cell hp;exact h.keep _ o h1 h2
theorem Sm.cell {w w':World} (h:Sm w w') {p:Addr} {v:Value} (hp:w.cell? p=some v):w'.cell? p=some v:=(UM (h.block hp)).trans hp
theorem Q0m.sm {w w':World} {a:OA} {l c:Nat} {x:Q47} (h:Q0m w a l c x) (hs:Sm w w'):Q0m w' a l c x:=by
 refine ⟨⟨h.lie.len,h.lie.cap,h.lie.most,h.lie.low,?_⟩,h.lo,h.hi⟩;rcases h.lie.rd with h0|⟨b,o,rfl,hb,hc⟩
 ·exact .inl h0
 ·exact .inr ⟨b,o,rfl,Uc hb hs.size,fun j y hy=>hs.cell (hc j y hy)⟩
theorem Blk.sm {w w':World} {b:Nat} {v:Value} {vs:LV} (h:Blk w b (v::vs)) (hs:Sm w w'):Blk w' b (v::vs):=h.same (hs.block (h.c 0 v rfl))
theorem Q26.sm {w w':World} {B:Nat} {p:Pl} {L:List IvV} (h:Q26 w B p L) (hs:Sm w w'):Q26 w' B p L:=by
 obtain ⟨xs,hr⟩:=h.row;refine ⟨⟨xs,hr.keep fun x hx=>?_⟩,h.len,fun j x hx=>?_⟩
 ·rcases hr.1.form with ⟨h0,_⟩|⟨g,cur,h0,_,_,hh,_⟩
  ·rw[h0] at hx;cases hx
  ·rw[h0] at hx;injection hx with hx;subst hx;exact hs.keep _ _ hh rfl
 ·obtain ⟨g,ha,a,l,c,a2,m,d,⟨h0,h1,h2,h3,h4,h5⟩,h6,h7⟩:=h.ent j x hx;exact ⟨g,ha,a,l,c,a2,m,d,⟨hs.cell h0,hs.cell h1,hs.cell h2,hs.cell h3,hs.cell h4,hs.cell h5⟩,h6.sm hs,h7.sm hs⟩
theorem Q67.sm {w w':World} {R B:Nat} {p:RpP} {x:RpV} (h:Q67 w R B p x) (hs:Sm w w'):Q67 w' R B p x:=⟨h.blk.sm hs,h.box.sm hs,h.t.sm hs,h.m.sm hs,h.e.sm hs⟩
theorem Q0m.one {w:World} {p:Addr} {v0:Value} {a:OA} {l c:Nat} {x:Q47} (h:Q0m w a l c x) (hb:w.cell? p=some v0) (hn:NoU v0) (v:Value):Q0m (w.setCell p v) a l c x:=⟨h.lie.set1 hb hn v,h.lo,h.hi⟩
theorem Q67.box1 {w:World} {R B b:Nat} {p:RpP} {x:RpV} (h:Q67 w R B p x) {v0:Value} (hb:Box w b v0) (hn:NoU v0) (Q0:b≠R) (VW:b<B) (v:Value):Q67 (w.setCell ⟨b,0,none⟩ v) R B p x:=by
 refine ⟨h.blk.far Q0 v,?_,h.t.one hb.1 hn v,h.m.one hb.1 hn v,h.e.one hb.1 hn v⟩;obtain ⟨xs,hr⟩:=h.box.row;have E5:∀y,p.b.a=some y->y.block≠b:=fun y hy=>by have:=(h.box.lt hy).1;omega
 refine ⟨⟨xs,hr.keep fun x hx=>UZ _ _ _ _ (E5 x hx)⟩,h.box.len,fun j x hx=>?_⟩;obtain ⟨g,ha,a,l,c,a2,m,d,⟨h0,h1,h2,h3,h4,h5⟩,h6,h7⟩:=h.box.ent j x hx;have hc:∀k u,w.cell? ⟨g,k,none⟩=some u->(w.setCell ⟨b,0,none⟩ v).cell? ⟨g,k,none⟩=some u:=fun k u hu=>(UM (w:=w) (a:=⟨g,k,none⟩) (UZ _ _ _ _ (E5 _ ha))).trans hu;exact ⟨g,ha,a,l,c,a2,m,d,⟨hc _ _ h0,hc _ _ h1,hc _ _ h2,hc _ _ h3,hc _ _ h4,hc _ _ h5⟩,h6.one hb.1 hn v,h7.one hb.1 hn v⟩
theorem Box.kp {w w':World} {R B b:Nat} {v:Value} (h:Box w b v) (hk:Kp R B w w') (h1:b<B) (h2:b≠R):Box w' b v:=⟨(UM (hk.block b h1 h2)).trans h.1,(Xak (hk.block b h1 h2)).trans h.2⟩
def TopR (w:World) (R:Nat) (s:LU) (e:Ending) (w':World):Prop:=∃B p x,Q67 w' R B p x/\Kp R w.heap.size w w'/\R<B/\
 match Qfh s (s.length+1) 0 0 PrS.empty with
 | .error (q,er)=>e=.returned (.tuple #[.int .i64 (q:Int),.bool false])/\er=5
 | .ok (q,st)=>e=.returned (.tuple #[.int .i64 (q:Int),.bool true])/\StM x st/\Qx5 st/\q<=s.length
structure J16 (w:World) (R B:Nat) (s:LU) (i q:Nat) (p:RpP) (x:RpV) (st:PrS) (U:World):Prop where
 rd:Q67 U R B p x
 sm:StM x st
 at_:Qe9 s i q st
 kp:Kp R w.heap.size w U
 b0:Box U w.heap.size (.pointer (some ⟨R,0,none⟩))
 b1:Box U (w.heap.size+1) (.int .i64 0)
 b2:Box U (w.heap.size+1+1) (.bool false)
 b3:Box U (w.heap.size+1+1+1) (.int .i64 (i:Int))
 b4:Box U (w.heap.size+1+1+1+1) (.int .i64 (q:Int))
def J1j (w:World) (R B:Nat) (s:LU) (U:World):Prop:=∃i q p x st,Q67 U R B p x/\(6<i->StM x st/\Qx5 st)/\q<=s.length/\Qfh s (s.length+1) 0 0 PrS.empty=(if 6<i then .ok (q,st) else .error (q,5))/\Kp R w.heap.size w U/\Box U (w.heap.size+1) (.int .i64 (q:Int))/\Box U (w.heap.size+1+1) (.bool (decide (6<i)))
theorem Kp.mono {R B B':Nat} {w w':World} (h:Kp R B w w') (hB:B'<=B):Kp R B' w w':=⟨h.os,h.tape,h.output,h.size,fun k h1 h2=>h.block k (by omega) h2,h.oth⟩
theorem Kp.stays {R B B1:Nat} {w w':World} (h:Kp R B w w') (h1:R<B1):Q75 B1 B w w':=⟨h.size,fun k h2 h3=>h.block k h3 (by omega)⟩
theorem Kp.turn {R B:Nat} {w A C:World} {row:Option Nat} (h:Kp R B w A) (hg:A.grownBy C row) (hr:∀r,row=some r->B<=r/\∃o:Obj,A.heap[r]?=some o/\o.isCells=false) (hn:∀r o,row=some r->w.heap[r]?=some o->False) (hB:B<=A.heap.size):Kp R B w C:=
 ⟨hg.os.trans h.os,hg.tape.trans h.tape,hg.output.trans h.output,Un h.size hg.size,fun k h1 h2=>(hg.block k (by omega) (fun e=>by have:=(hr k e.symm).1;omega)).trans (h.block k h1 h2),
   Un h.size hg.size,fun k o hk ho=>by
    have h1:=h.oth.same k o hk ho;refine (hg.block k (Uq.1 h1).1 (fun e=>hn k o e.symm hk)).trans h1⟩
theorem J16.turn {w:World} {R B:Nat} {s:LU} {i q:Nat} {p:RpP} {x:RpV} {st:PrS} {U V:World} {row:Option Nat} (h:J16 w R B s i q p x st U) (hg:U.grownBy V row) (hr:∀r,row=some r->w.heap.size<=r/\∃o:Obj,U.heap[r]?=some o/\o.isCells=false):J16 w R B s i q p x st V:=by
 have X0:=fun r e=>(hr r e).2;have A2:=h.kp.size;exact ⟨h.rd.sm (Sm.of_turn hg X0),h.sm,h.at_,h.kp.turn hg hr (fun r o e ho=>by have:=(hr r e).1;have:=(Uq.1 ho).1;omega) A2,h.b0.turned hg X0,h.b1.turned hg X0,h.b2.turned hg X0,h.b3.turned hg X0,h.b4.turned hg X0⟩
theorem J1j.turn {w:World} {R B:Nat} {s:LU} {U V:World} {row:Option Nat} (h:J1j w R B s U) (hg:U.grownBy V row) (hr:∀r,row=some r->w.heap.size<=r/\∃o:Obj,U.heap[r]?=some o/\o.isCells=false):J1j w R B s V:=by
 obtain ⟨i,q,p,x,st,h1,h2,h3,h4,h5,h6,h7⟩:=h;have X0:=fun r e=>(hr r e).2;exact ⟨i,q,p,x,st,h1.sm (Sm.of_turn hg X0),h2,h3,h4,h5.turn hg hr (fun r o e ho=>by have:=(hr r e).1;have:=(Uq.1 ho).1;omega) h5.size,h6.turned hg X0,h7.turned hg X0⟩
theorem Qut (R:Nat) (s:ByteArray) (w:World) (hs:s.size<=1000000) (hT2:∀W,Kp R w.heap.size w W->Q1s W) (B0:Nat) (hI:Q67 w R B0 ⟨⟨none,0,0⟩,⟨none,0,0⟩,⟨none,0,0⟩,⟨none,0,0⟩⟩ ⟨[],⟨false,0,[]⟩,⟨false,0,[]⟩,⟨false,0,[]⟩,0,0,0,-1⟩):
 Calls Tryz.prog 48 #[.pointer (some ⟨R,0,none⟩),.string s] w (TopR w R s.data.toList):=by
 have HL:=Xh2 hT2 hI;have hRw:=hI.blk.lt;clear hT2 hI;refine (callsIn_wide (n:=6)).1 ?_;refine callsIn_of_wp_marks Tryz.func48 rfl trivial ?_ rfl;simp only[Tryz.ntmps48,List.size_toArray,Ur,TW,Nat.reduceAdd,Nat.reduceSub,Array.replicate_succ,Array.replicate_zero,List.push_toArray,List.append_toArray,Ty,Tt]
 gi_wp2_with fail
 refine ⟨trivial,?_⟩;obtain ⟨W,hW⟩:∃W,(((((w.alloc (.cells #[.pointer (some ⟨R,0,none⟩)] 73)).alloc (.cells #[.int .i64 0] 3)).alloc (.cells #[.bool false] 4)).alloc (.cells #[.int .i64 0] 3)).alloc (.cells #[.int .i64 0] 3))=W:=⟨_,rfl⟩;have hWb:Bw w W:=by
  rw[<-hW];exact ((((Ba).alloc (by simp) _).alloc (by simp only[Ui];omega) _).alloc (by simp only[Ui];omega) _).alloc (by simp only[Ui];omega) _
 have hWs:W.heap.size=w.heap.size+5:=by rw[<-hW];simp
 have m5:Box W w.heap.size (.pointer (some ⟨R,0,none⟩)):=by rw[<-hW];exact ((((Box.new w _ _).alloc _).alloc _).alloc _).alloc _
 have R4:Box W (w.heap.size+1) (.int .i64 0):=by
  have:=Box.new (w.alloc (.cells #[.pointer (some ⟨R,0,none⟩)] 73)) (.int .i64 0) 3;rw[Ui] at this;rw[<-hW];exact ((this.alloc _).alloc _).alloc _
 have Z3:Box W (w.heap.size+1+1) (.bool false):=by
  have:=Box.new ((w.alloc (.cells #[.pointer (some ⟨R,0,none⟩)] 73)).alloc (.cells #[.int .i64 0] 3)) (.bool false) 4;rw[Ui,Ui] at this;rw[<-hW];exact (this.alloc _).alloc _
 have KC:Box W (w.heap.size+1+1+1) (.int .i64 0):=by
  have:=Box.new (((w.alloc (.cells #[.pointer (some ⟨R,0,none⟩)] 73)).alloc (.cells #[.int .i64 0] 3)).alloc (.cells #[.bool false] 4)) (.int .i64 0) 3;rw[Ui,Ui,Ui] at this;rw[<-hW];exact this.alloc _
 have hx4:Box W (w.heap.size+1+1+1+1) (.int .i64 0):=by
  have:=Box.new ((((w.alloc (.cells #[.pointer (some ⟨R,0,none⟩)] 73)).alloc (.cells #[.int .i64 0] 3)).alloc (.cells #[.bool false] 4)).alloc (.cells #[.int .i64 0] 3)) (.int .i64 0) 3;rw[Ui,Ui,Ui,Ui] at this;rw[<-hW];exact this
 rw[hW];clear hW;refine (callsIn_wide.2 (Qqz s W)).mono ?_;rintro e w1 ⟨rfl,K2,C0,VN⟩;have Xl:Bw w w1:=hWb.trans (C0.mono hWb.size);obtain ⟨B,hBe⟩:∃B,w1.heap.size=B:=⟨_,rfl⟩;have XZ:w.heap.size+5<B:=by omega
 have hI0:J16 w R B s.data.toList 0 0 ⟨⟨none,0,0⟩,⟨none,0,0⟩,⟨none,0,0⟩,⟨none,0,0⟩⟩ ⟨[],⟨false,0,[]⟩,⟨false,0,[]⟩,⟨false,0,[]⟩,0,0,0,-1⟩ PrS.empty w1:=by
  have h1:=(Xe1 HL).step Xl;refine ⟨⟨h1.blk,Q26.nil_ _ _,h1.t,h1.m,h1.e⟩,?_,Qe9.zero _,Kp.of_below Xl (Ue _),m5.call C0,R4.call C0,Z3.call C0,KC.call C0,hx4.call C0⟩;have hz:Qom ⟨false,0,[]⟩ (some 0):=fun y hy=>by
   injection hy with hy;subst hy;exact ⟨by unfold Q47.ok Q0a;simp,rfl⟩
  exact ⟨rfl,rfl,rfl,hz,hz,hz,rfl,fun j a b h=>by simp at h,rfl⟩
 have HW:=Xh3 hWs hBe Xl;have HI0:=Ub hI0;clear m5 R4 Z3 KC hx4 C0 hWb hWs hI0 Xl
 gi_wp2_with fail
 refine Qhf rfl (by omega) (gf:=123) (lb:= #[.pointer (some ⟨W.heap.size,0,none⟩)]) rfl trivial (enters_of Tryz.func123 (by kernel_rfl) rfl)
  (Qkg _ (by omega) W.heap.size s hs w1 K2 VN) (fun h k=>h.trans k) (fun W l o o' hl _ _=>Q75.turn W l o' hl) (fun pre x W l o o' hk _ _ _=>hk) (Ug _ _) (fun _=>rfl)
  (fun pre U=>(∃p x st,J16 w R B s.data.toList pre.length (Qrd pre) p x st U)/\B<=U.heap.size)
  (fun c _ U=>(c=.ret/\J1j w R B s.data.toList U)/\B<=U.heap.size)
  ?o1 ?o2 ?h0 ?_ ?_ ?_ ?_ ?_
 case o1=>
  rintro pre U V row ⟨⟨p,x,st,h⟩,hl⟩ hg hr;exact ⟨⟨p,x,st,h.turn hg fun r e=>⟨by have:=(hr r e).1;omega,(hr r e).2⟩⟩,Un hl hg.size⟩
 case o2=>
  rintro c pre U V row ⟨⟨hc,h⟩,hl⟩ hg hr;exact ⟨⟨hc,h.turn hg fun r e=>⟨by have:=(hr r e).1;omega,(hr r e).2⟩⟩,Un hl hg.size⟩
 case h0=>exact ⟨⟨_,_,_,HI0.out⟩,by omega⟩
 case refine_2=>
  intro l x U K hK;simp only[LnP.encs]
  gi_wp2
  exact hK
 case refine_4=>
  rintro D xs U hD ⟨U3,_⟩ ⟨⟨p,x,st,hI⟩,hl⟩ hK;have hp:=hI.at_.end_ U3;have hq:=hI.at_.le;have Jj:=hI.at_.full;have k1:=hI.b1.1;have k2:=hI.b2.1;have k3:=hI.b3.1;have k4:=hI.b4.1;have f1:=hI.b1.2;have f2:=hI.b2.2;have QP:s.data.toList.length=s.size:=(Lib.size_eq s).symm;have HE:=Xh6 hp hq Jj hI hl QP;have Wv:∀(v1 v2:Value),NoU v1->NoU v2->∃V,(U.setCell ⟨w.heap.size+1,0,none⟩ v1).setCell ⟨w.heap.size+1+1,0,none⟩ v2=V/\V.heap[D]?=some (.deferred (some []))/\Q67 (V.putObj D (.deferred none)) R B p x/\Kp R w.heap.size w (V.putObj D (.deferred none))/\(V.putObj D (.deferred none)).cell? ⟨w.heap.size+1,0,none⟩=some v1/\(V.putObj D (.deferred none)).cell? ⟨w.heap.size+1+1,0,none⟩=some v2:=by
   intro v1 v2 n1 n2;obtain ⟨V,hV⟩:∃V,(U.setCell ⟨w.heap.size+1,0,none⟩ v1).setCell ⟨w.heap.size+1+1,0,none⟩ v2=V:=⟨_,rfl⟩;have b1:Box V (w.heap.size+1) v1:=(by rw[<-hV];exact (hI.b1.set _).other (by simp) _);have b2':Box (U.setCell ⟨w.heap.size+1,0,none⟩ v1) (w.heap.size+1+1) (.bool false):=hI.b2.other (by simp) _;have b2:Box V (w.heap.size+1+1) v2:=(by rw[<-hV];exact b2'.set _);have hr:Q67 V R B p x:=(by rw[<-hV];exact (hI.rd.box1 hI.b1 (Q2t _) (by omega) (by omega) _).box1 b2' (Q2m _) (by omega) (by omega) _);have hk:Kp R w.heap.size w V:=(by rw[<-hV];exact (hI.kp.trans (Kp.set _ (.inr (by omega)) _)).trans (Kp.set _ (.inr (by omega)) _));have vK:V.heap[D]?=some (.deferred (some [])):=(by rw[<-hV];exact ((KeepsOthers.setCell _ _ _).trans (KeepsOthers.setCell _ _ _)).same D _ hK rfl);have hg:=grownBy_putObj' V D (.deferred none);have X0:∀r,some D=some r->∃o:Obj,V.heap[r]?=some o/\o.isCells=false:=fun r e=>by cases e;exact ⟨_,vK,rfl⟩
   refine ⟨V,hV,vK,hr.sm (Sm.of_turn hg X0),hk.turn hg (fun r e=>⟨by cases e;omega,X0 r e⟩) (fun r o e ho=>by cases e;have:=(Uq.1 ho).1;omega) hk.size,(b1.turned hg X0).1,(b2.turned hg X0).1⟩
  have HZ:=Ub Wv;clear hp hq Jj hI hl QP Wv K2
  by_cases h6:xs.length<=6
  ·have h6':(xs.length:Int)<=6:=by omega
   gi_wp2_with fail
   obtain ⟨V,hV,vK,hr,hk,z1,z2⟩:=HZ.out (.int .i64 (s.size:Int)) (.bool false) (Q2t _) (Q2m _);have HV:=Xh2 hr hk;rw[hV];clear hV hr hk;refine ⟨by simp,.inl ⟨_,_,rfl,run_takeDeferred vK,?_⟩⟩;refine ⟨.tuple #[.int .i64 (s.size:Int),.bool false],by simp[results,go_sem,z1,z2],?_⟩;refine ⟨B,p,x,(Xo0 HV),(Xe1 HV),by omega,?_⟩;rw[(Xo0 HE),Us h6];exact ⟨by rw[(Xe5 HE)],rfl⟩
  ·have h6':¬(xs.length:Int)<=6:=by omega
   gi_wp2_with fail
   obtain ⟨V,hV,vK,hr,hk,z1,z2⟩:=HZ.out (.int .i64 (Qrd xs:Int)) (.bool true) (Q2t _) (Q2m _);have HV:=Xh2 hr hk;rw[hV];clear hV hr hk;refine ⟨by simp,.inl ⟨_,_,rfl,run_takeDeferred vK,?_⟩⟩;refine ⟨.tuple #[.int .i64 (Qrd xs:Int),.bool true],by simp[results,go_sem,z1,z2],?_⟩;refine ⟨B,p,x,(Xo0 HV),(Xe1 HV),by omega,?_⟩;rw[(Xo0 HE),Up h6];exact ⟨rfl,(Xo3 HE).sm,(Xo2 HE),(Xo1 HE)⟩
 case refine_5=>
  rintro D cd pre U hD _ ⟨⟨rfl,i,q,p,x,st,h1,h2,h3,h4,h5,b1,b2⟩,hl⟩ hK;have hg:=grownBy_putObj' U D (.deferred none);have X0:∀r,some D=some r->∃o:Obj,U.heap[r]?=some o/\o.isCells=false:=fun r e=>by cases e;exact ⟨_,hK,rfl⟩
  have z1:=(b1.turned hg X0).1;have z2:=(b2.turned hg X0).1;have hr:=h1.sm (Sm.of_turn hg X0);have hk:Kp R w.heap.size w (U.putObj D (.deferred none)):=h5.turn hg (fun r e=>⟨by cases e;omega,X0 r e⟩) (fun r o e ho=>by cases e;have:=(Uq.1 ho).1;omega) h5.size;have HV:=Xh5 hr hk h2 h3 h4;clear hr hk h1 h2 h3 h4 h5 hg X0 K2 b1 b2
  gi_wp2_with fail
  refine ⟨by simp,.inl ⟨_,_,rfl,run_takeDeferred hK,?_⟩⟩;refine ⟨.tuple #[.int .i64 (q:Int),.bool (decide (6<i))],by simp[results,go_sem,z1,z2],?_⟩;refine ⟨B,p,x,(Xo0 HV),(Xo1 HV),by omega,?_⟩;rw[(Xe4 HV)]
  by_cases h6:6<i
  ·rw[Us h6,UQ h6];exact ⟨rfl,((Xo2 HV) h6).1,((Xo2 HV) h6).2,(Xo3 HV)⟩
  ·rw[Up h6,Ta h6];exact ⟨rfl,rfl⟩
 case refine_3=>
  rintro l pre ⟨at_,t⟩ U ⟨⟨p,x,st,hI⟩,hl⟩ P2;have Y1:at_=Qrd pre:=P2.1;have hltp:at_+t.size<s.size:=P2.2.1;have G3:Q8e s.data.toList at_=some t.data.toList:=P2.2.2;rw[<-Y1] at hI;obtain ⟨n,hn⟩:∃n,pre.length=n:=⟨_,rfl⟩;rw[hn] at hI;have hnle:n<=at_:=hI.at_.ip;have P6:t.data.toList.length=t.size:=(Lib.size_eq t).symm;have KO:R<B:=by omega
  have Yu:w.heap.size<=B:=by omega
  have hlin:=Qr6 R B n at_ p x st t U (by omega) (fun W hW=>(Xo0 HL) W (hI.kp.trans (hW.mono Yu))) hI.rd KO (by omega) hI.sm;have k0:=hI.b0.1;have k3:=hI.b3.1;have k14:=hI.rd.blk.c 14 _ rfl;have HOK:=Xh4 Y1 G3 P6 hlin;have JQ:=Xh5 hI KO Yu hl hn;clear P2 Y1 G3 P6 hlin hI KO Yu hl K2 hn
  gi_wp2_with fail
  refine ⟨trivial,?_⟩;refine (callsIn_wide.2 (Xe3 HOK)).mono ?_;rintro e U1 ⟨p',x',I2,X2,hm⟩;have c0:=(Xo0 JQ).b0.kp X2 (by omega) (by omega);have c1:=(Xo0 JQ).b1.kp X2 (by omega) (by omega);have c2:=(Xo0 JQ).b2.kp X2 (by omega) (by omega);have c3:=(Xo0 JQ).b3.kp X2 (by omega) (by omega);have c4:=(Xo0 JQ).b4.kp X2 (by omega) (by omega);cases Ze:Q51 n at_ t.data.toList st with
  |none=>
   rw[Ze] at hm;obtain ⟨rfl,Vt⟩:=hm;have Qq:=(Xo0 JQ).at_.bad (Xo1 HOK) Ze;have k14':=I2.blk.c 14 _ rfl;have f14:=I2.blk.f 14 (by simp[rpL]);have q0:=c0.1;have q1:=c1.1;have q2:=c2.1;have q3:=c3.1;have g1:=c1.2;have g2:=c2.2;have HN:=Xh6 I2 X2 Qq Vt c1 c2;clear I2 X2 Qq Vt Ze c0 c1 c2 c3 c4;have hmix:Tryz.prog.follows .mixedOrders=true:=(by kernel_rfl);obtain ⟨U2,Kx⟩:∃U2,U1.setCell ⟨R,14,none⟩ (.int .i64 x.over)=U2:=⟨_,rfl⟩;have QR:(U1.setCell ⟨R,14,none⟩ (.int .i64 x.over)).cell? ⟨w.heap.size+1+1+1,0,none⟩=some (.int .i64 (n:Int)):=(UM (UZ _ _ _ _ (by show w.heap.size+1+1+1≠R;omega))).trans q3
   gi_wp2_with fail
   have d1:Box U2 (w.heap.size+1) (.int .i64 0):=(by rw[<-Kx];exact (Xo4 HN).other (by show R≠w.heap.size+1;omega) _);have d2:Box U2 (w.heap.size+1+1) (.bool false):=(by rw[<-Kx];exact (Xe5 HN).other (by show R≠w.heap.size+1+1;omega) _);rw[Kx] at QR;have HU:=Ub Kx;clear Kx q0 q1 q2 q3 g1 g2 k0 k3 k14 k14' f14;have q1:=d1.1;have q2:=d2.1;have g1:=d1.2;have g2:=d2.2
   gi_region
   all_goals gi_wp2_with fail
   all_goals
    obtain ⟨I2,X2,Qq,Vt,_,_⟩:=HN.out;have KO:=(Xo1 JQ);have Yu:=(Xo2 JQ);have Kx:=HU.out;have X0:Q67 U2 R B p' { x' with over:=x.over }:=(by rw[<-Kx];exact I2.over KO x.over);have o5:Kp R w.heap.size w U2:=(by rw[<-Kx];exact ((Xo0 JQ).kp.trans (X2.mono Yu)).trans (Kp.set _ (.inl rfl) _));have ZI:KeepsOthers U U2:=(by rw[<-Kx];exact X2.oth.trans (KeepsOthers.setCell _ _ _));have i7:B<=U2.heap.size:=(by rw[<-Kx,UT];exact Un (Xo3 JQ) X2.size);have d2':Box (U2.setCell ⟨w.heap.size+1,0,none⟩ (.int .i64 (at_:Int))) (w.heap.size+1+1) (.bool false):=d2.other (by simp) _;have G7:decide ((6:Int)<(n:Int))=decide (6<n):=decide_eq_decide.2 (by omega);rw[G7];have m7:=(X0.box1 d1 (Q2t _) (by omega) (by omega) (.int .i64 (at_:Int))).box1 d2' (Q2m _) (by omega) (by omega) (.bool (decide (6<n)));have Qu:=(o5.trans (Kp.set (R:=R) (B:=w.heap.size) U2 (b:=w.heap.size+1) (i:=0) (.inr (by omega)) (.int .i64 (at_:Int)))).trans (Kp.set (R:=R) (B:=w.heap.size) _ (b:=w.heap.size+1+1) (i:=0) (.inr (by omega)) (.bool (decide (6<n))));have e1:Box ((U2.setCell ⟨w.heap.size+1,0,none⟩ (.int .i64 (at_:Int))).setCell ⟨w.heap.size+1+1,0,none⟩ (.bool (decide (6<n)))) (w.heap.size+1) (.int .i64 (at_:Int)):=(d1.set _).other (by simp) _;have e2:Box ((U2.setCell ⟨w.heap.size+1,0,none⟩ (.int .i64 (at_:Int))).setCell ⟨w.heap.size+1+1,0,none⟩ (.bool (decide (6<n)))) (w.heap.size+1+1) (.bool (decide (6<n))):=d2'.set _;have Z7:=ZI.trans ((KeepsOthers.setCell U2 ⟨w.heap.size+1,0,none⟩ (.int .i64 (at_:Int))).trans (KeepsOthers.setCell _ ⟨w.heap.size+1+1,0,none⟩ (.bool (decide (6<n)))));refine ⟨⟨Z7.size,fun k o _ hk ho=>Z7.same k o hk ho⟩,⟨rfl,n,at_,p',{ x' with over:=x.over },st,m7.sm ⟨Ue _,fun _ _ _ _=>rfl⟩,fun h6=>?_,(Xo0 JQ).at_.le,Qq,⟨Qu.os,Qu.tape,Qu.output,Qu.size,Qu.block,⟨Qu.oth.size,Qu.oth.same⟩⟩,e1,e2⟩,by show B<=((U2.setCell _ _).setCell _ _).heap.size;simp only[UT];exact i7⟩;obtain ⟨rfl,o,rfl⟩:=Vt (by omega);exact ⟨(Xo0 JQ).sm,(Xo0 JQ).at_.full⟩
  |some st'=>
   rw[Ze] at hm;obtain ⟨rfl,Vz⟩:=hm;have J6:=(Xo0 JQ).at_.step (Xo1 HOK) Ze;rw[(Xo2 HOK)] at J6;have q0:=c0.1;have q3:=c3.1;have q4:=c4.1;have g3:=c3.2;have g4:=c4.2;have HN:=Xh9 I2 X2 Vz J6 c0 c1 c2 c3 c4;clear I2 X2 Vz J6 Ze c0 c1 c2 c3 c4
   gi_wp2_with fail
   obtain ⟨I2,X2,Vz,J6,c0,c1,c2,c3,c4⟩:=HN.out;have hw:W.heap.size=w.heap.size+5:=(Xo0 HW);have hBe:w1.heap.size=B:=(Xo1 HW);have KO:=(Xo1 JQ);have Yu:=(Xo2 JQ);have d4:Box (U1.setCell ⟨w.heap.size+1+1+1,0,none⟩ (.int .i64 ((n:Int)+1))) (w.heap.size+1+1+1+1) (.int .i64 (at_:Int)):=c4.other (by simp) _;have hrV:=(I2.box1 c3 (Q2t _) (by omega) (by omega) (.int .i64 ((n:Int)+1))).box1 d4 (Q2t _) (by omega) (by omega) (.int .i64 ((at_:Int)+(t.size:Int)+1));have hkV:Kp R w.heap.size w ((U1.setCell ⟨w.heap.size+1+1+1,0,none⟩ (.int .i64 ((n:Int)+1))).setCell ⟨w.heap.size+1+1+1+1,0,none⟩ (.int .i64 ((at_:Int)+(t.size:Int)+1))):=(((Xo0 JQ).kp.trans (X2.mono Yu)).trans (Kp.set _ (.inr (by omega)) _)).trans (Kp.set _ (.inr (by omega)) _);refine ⟨(X2.oth.trans ((KeepsOthers.setCell _ _ _).trans (KeepsOthers.setCell _ _ _))).from _,?_,⟨p',x',st',?_⟩,?_⟩
   ·rw[hBe];exact Q75.setCell (Q75.setCell (X2.stays (by omega)) (.inl (by show w.heap.size+1+1+1<_;omega)) _) (.inl (by show w.heap.size+1+1+1+1<_;omega)) _
   ·rw[Uh,Xar,(Xe4 JQ),Qkf];refine ⟨hrV,Vz,J6,hkV,?_,?_,?_,?_,?_⟩
    ·exact (c0.other (by simp <;> omega) _).other (by simp <;> omega) _
    ·exact (c1.other (by simp <;> omega) _).other (by simp <;> omega) _
    ·exact (c2.other (by simp <;> omega) _).other (by simp <;> omega) _
    ·exact (c3.set _).other (by simp) _
    ·exact d4.set _
   ·simp only[UT];exact Un (Xo3 JQ) X2.size
end Go.Proofs.YtidojbkhlenahaaGreatDoor
