/- Part 10 of the proof of LawParseBuilt: RegE, RegN, ExactB, ExactC, NumD. Condition: as each theorem says; none at the end. -/
import Derived.Test.YtdilmfakkppgpaaGreatDoorPkParseBuilt09
set_option maxRecDepth 100000
set_option maxHeartbeats 16000000
namespace Go.Proofs.YtdilmfakkppgpaaGreatDoor
open Go.RowKit
section
variable {P:Program} {r:Nat} {Done:World->Prop} {V:Value->World->Prop} {w:World}
end
theorem Q02.turn {w w':World} {b g:Nat} {v0 v1 v2:Value} (h:Q02 w g v0 v1 v2) (ht:Q0f (·=b) w w') (hg:g<w.heap.size) (C1:g≠b):Q02 w' g v0 v1 v2:=
 ⟨(ht.cell (p:=⟨g,0,none⟩) hg C1).trans h.c0,(ht.cell (p:=⟨g,1,none⟩) hg C1).trans h.c1,(ht.cell (p:=⟨g,2,none⟩) hg C1).trans h.c2,(ht.frozen (p:=⟨g,0,none⟩) hg C1).trans h.f0,(ht.frozen (p:=⟨g,1,none⟩) hg C1).trans h.f1,(ht.frozen (p:=⟨g,2,none⟩) hg C1).trans h.f2⟩
theorem Qgy {l:List Oper} {cs:LV} {L:Nat->Option (Value->World->Prop)} (n:Nat) {φ:World->Prop} (hL:L n=some fun _ w=>φ w) (hl:(l.zipIdx.all fun p=>p.1.dst.isSome || decide (p.2=n))=true):
 ∀(i:Nat) o,l[i]?=some o->o.dst=none->∀v w,Q3x cs L i v w->Q3x cs L i undef w:=by
 intro i o hi hd v w hv;have hm:(o,i)∈l.zipIdx:=by
  rw[Tw];simpa using hi
 have h1:=Tb.1 hl _ hm;simp only[hd,Option.isSome_none,Bool.false_or,Xas] at h1;subst h1;exact (Q00 hL).2 ((Q00 hL).1 hv)
theorem Qjz {P:Program} {ops:Array Oper} {E:World->World->Prop} {o:Oper} {a:Act} {w:World} {V:Value->World->Prop} {j:Nat} {b:Bool} {t:Tmp} (hg:o.guard=some (j,b)) (ht:(ops[j]?).bind (·.dst)=some t) (he:a.eval (.tmp t)=undef) (h:V undef w):
 if Region.wanted o (yielded ops a.tmps) then Q0v P E V w ((execOp a.eval o).run P w) else V undef w:=by
 have hy:yielded ops a.tmps j=none:=by
  unfold yielded;rw[ht,TZ];have QA:a.tmps.getD t undef=undef:=he;rw[Up] at QA;cases hx:a.tmps[t]? with
  |none=>rfl
  |some v=>rw[hx] at QA;have h2:v=undef:=QA;rw[h2];rfl
 have hw:Region.wanted o (yielded ops a.tmps)=false:=by
  unfold Region.wanted;rw[hg]
  show (yielded ops a.tmps j==some b)=false
  rw[hy];cases b <;> rfl
 rw[hw];exact h
def Qap (w w':World):Prop:=Bw w w'
section
variable {P:Program} {V:Value->World->Prop} {w:World}
theorem Q96 {u:Value} {res:Result Next} (hr:res=.ok (.value u) w) (h:V u w):Q0v P Qap V w res:=by
 rw[hr];exact ⟨Uf _ _,h⟩
theorem Q0y {f:FuncId} {args:Array Value} {res:Result Next} (hr:res=.ok (.enter f args) w)
 (h:Calls P f args w fun e w''=>∃v,e=.returned v/\Bw w w''/\V v w''):Q0v P Qap V w res:=by
 rw[hr];exact h
end
theorem Q22 {l:List Oper} {V:Nat->Value->World->Prop} (hl:(l.all fun o=>o.dst.isSome)=true):∀(i:Nat) o,l[i]?=some o->o.dst=none->∀v w,V i v w->V i undef w:=by
 intro i o hi hd v w _;have h1:=Tb.1 hl o (Ud hi);rw[hd] at h1;cases h1
theorem Q0h {E:World->World->Prop} {cs:LV} {L:Nat->Option (Value->World->Prop)} (h:∀i φ,L i=some φ->∀v w w',φ v w->E w w'->φ v w') (i:Nat) (v:Value) (w w':World) (hv:Q3x cs L i v w) (hb:E w w'):Q3x cs L i v w':=by
 unfold Q3x at*;cases hl:L i with
 |none=>rw[hl] at hv;exact hv
 |some φ=>rw[hl] at hv;exact h i φ hl v w w' hv hb
theorem Q05 (w:World):Bw w w.drew:=⟨rfl,rfl,rfl,Ug _,fun _ _=>rfl⟩
section
def Qym (ops:Array Oper) (cs:LV) (L:Nat->Option (Value->World->Prop)) (o:Oper):Option Bool:=
 match o.guard with
 |none=>some true
 |some (j,b)=>
  if ((Q27 o).contains j && (L j).isNone && ((ops[j]?).bind (·.dst)).isSome)=true then
   match cs.getD j undef with
   | .bool c=>some (c==b)
   | .tuple a=>if a.isEmpty=true then some false else none
   |_=>none
  else none
variable {P:Program} {E:World->World->Prop} {ops:Array Oper} {C:World->Prop} {cs:LV} {L:Nat->Option (Value->World->Prop)} {a0:Act} {o:Oper} {k:Nat}
theorem Qlp {a:Act} {w:World} {j:Nat} (hc:((Q27 o).contains j && (L j).isNone && ((ops[j]?).bind (·.dst)).isSome)=true) (hd:∀i∈Q27 o,Q3x cs L i (Q0b ops a i) w):
 ∃t,(ops[j]?).bind (·.dst)=some t/\a.eval (.tmp t)=cs.getD j undef:=by
 simp only[Xa3] at hc;obtain ⟨⟨h1,h2⟩,h3⟩:=hc;obtain ⟨t,ht⟩:=Option.isSome_iff_exists.1 h3;have h:=(Q09 (Option.isNone_iff_eq_none.1 h2)).1 (hd j (List.contains_iff_mem.1 h1));unfold Q0b at h;rw[ht] at h;exact ⟨t,ht,h⟩
def Q82 (ops:Array Oper) (a:Act) (cs:LV) (L:Nat->Option (Value->World->Prop)):List Edge->Prop
 |[]=>True
 |e::r=>(Region.binds .any e=true->L e.on=none->∀t,(ops[e.on]?).bind (·.dst)=some t->a.tmps[t]?.getD undef=cs.getD e.on undef)/\Q82 ops a cs L r
theorem Qxd {ops:Array Oper} {a:Act} {w:World} {cs:LV} {L:Nat->Option (Value->World->Prop)} {o:Oper} (hd:∀i∈Q27 o,Q3x cs L i (Q0b ops a i) w):Q82 ops a cs L o.after.toList:=by
 have key:∀l:List Edge,(∀e∈l,e∈o.after.toList)->Q82 ops a cs L l:=by
  intro l
  induction l with
  |nil=>intro _;trivial
  |cons e r ih=>
   intro h;refine ⟨fun hb hL t ht=>?_,ih fun x hx=>h x (Xau _ hx)⟩;have h1:=(Q09 hL).1 (hd e.on (Tm.2 ⟨e,List.mem_filter.2 ⟨h e (by simp),hb⟩,rfl⟩));unfold Q0b at h1;rw[ht] at h1;have h':a.tmps.getD t undef=cs.getD e.on undef:=h1;rwa[Up] at h'
 exact key _ fun _ h=>h
theorem Q29 (hg:Qym ops cs L o=some true) (h:∀A W,C W->Q79 ops a0 A->Q79 ops a0 A->Q82 ops A cs L o.after.toList->Q0v P E (Q3x cs L k) W ((execOp A.eval o).run P W)):Q3r P E ops C (Q3x cs L) a0 k o:=by
 intro a w hc F0 hd;have hf:=h a w hc F0 F0 (Qxd hd);unfold Qym at hg;cases J9:o.guard with
 |none=>exact Q04 J9 hf
 |some p=>
  obtain ⟨j,b⟩:=p;rw[J9] at hg;simp only at hg
  split at hg
  ·rename_i Y2;obtain ⟨t,ht,he⟩:=Qlp Y2 hd
   split at hg
   ·rename_i c Qu;injection hg with hg;rw[Qu,beq_iff_eq.1 hg] at he;exact Qlk J9 ht he hf
   ·split at hg
    ·cases hg
    ·cases hg
   ·cases hg
  ·cases hg
theorem Qna (hg:Qym ops cs L o=some false) (hL:L k=none) (hv:cs[k]?=some undef):Q3r P E ops C (Q3x cs L) a0 k o:=by
 intro a w _ _ hd;have hu:Q3x cs L k undef w:=(Q09 hL).2 (by rw[Tf,hv];rfl);unfold Qym at hg;cases J9:o.guard with
 |none=>rw[J9] at hg;cases hg
 |some p=>
  obtain ⟨j,b⟩:=p;rw[J9] at hg;simp only at hg
  split at hg
  ·rename_i Y2;obtain ⟨t,ht,he⟩:=Qlp Y2 hd
   split at hg
   ·rename_i c Qu;injection hg with hg;rw[Qu] at he;refine Qgq J9 ht (he.trans ?_) hu;cases c <;> cases b <;> first|rfl|cases hg
   ·rename_i x Qu
    split at hg
    ·rename_i hx;refine Qjz J9 ht (he.trans (Qu.trans ?_)) hu;rw[Array.isEmpty_iff.1 hx];rfl
    ·cases hg
   ·cases hg
  ·cases hg
theorem Q97 {V:Nat->Value->World->Prop} {r:List Oper} (h:Q3r P E ops C V a0 k o) (t:Q1r P E ops C V a0 r (k+1)):Q1r P E ops C V a0 (o::r) k:=⟨h,t⟩
theorem Q98 {V:Nat->Value->World->Prop}:Q1r P E ops C V a0 [] k:=trivial
theorem Q0o {ops:Array Oper} {a:Act} {w:World} {cs:LV} {L:Nat->Option (Value->World->Prop)} {o:Oper} (hd:∀i∈Q27 o,Q3x cs L i (Q0b ops a i) w) (i:Nat) {t:Tmp} {v:Value} (hi:i∈Q27 o) (hL:L i=none) (hv:cs[i]?=some v) (ht:(ops[i]?).bind (·.dst)=some t):a.tmps[t]?.getD undef=v:=by
 have h:=(Q09 hL).1 (hd i hi);rw[Tf,hv] at h;unfold Q0b at h;rw[ht] at h;have h':a.tmps.getD t undef=v:=h;rwa[Up] at h'
theorem Q0d {a:Act} (h:Q79 ops a0 a) (t:Tmp) {v:Value} (ht:(ops.toList.all fun o=> !(o.dst==some t))=true) (hv:a0.tmps.toList[t]?=some v):a.tmps[t]?.getD undef=v:=
 Q1f (h.keep ht (by rw[Up,<-UW,hv];rfl))
theorem Q3n {i:Nat} {w:World} {u:Value} {res:Result Next} (hL:L i=none) (hv:cs[i]?=some u) (hr:res=.ok (.value u) w):Q0v P Qap (Q3x cs L i) w res:=
 Q96 hr ((Q09 hL).2 (by rw[Tf,hv];rfl))
theorem Q7a {i:Nat} {w:World} {u:Value} {f:FuncId} {args:Array Value} {res:Result Next} (hL:L i=none) (hv:cs[i]?=some u) (hr:res=.ok (.enter f args) w) (h:Calls P f args w fun e w'=>e=.returned u/\Bw w w'):Q0v P Qap (Q3x cs L i) w res:=
 Q0y hr (h.mono fun _ _ h'=>⟨u,h'.1,h'.2,(Q09 hL).2 (by rw[Tf,hv];rfl)⟩)
end
end Go.Proofs.YtdilmfakkppgpaaGreatDoor
namespace Go.Proofs.YtdilmfakkppgpaaGreatDoor
open Go.RowKit WordsM
def Qq9 (r:Nat) (w:World):Prop:=(∃b e a n c,Q02 w r (.bool b) (.int .i64 e) (.slice a n c))/\r<w.heap.size
theorem Qq9.below {r:Nat} {w w':World} (h:Qq9 r w) (hb:Bw w w'):Qq9 r w':=by
 obtain ⟨⟨b,e,a,n,c,hN⟩,hr⟩:=h;exact ⟨⟨b,e,a,n,c,hN.step hb hr⟩,Ue hr hb.size⟩
theorem Q02.drew {w:World} {b:Nat} {v0 v1 v2:Value} (h:Q02 w b v0 v1 v2):Q02 w.drew b v0 v1 v2:=⟨h.c0,h.c1,h.c2,h.f0,h.f1,h.f2⟩
theorem Qq9.drew {r:Nat} {w:World} (h:Qq9 r w):Qq9 r w.drew:=by
 obtain ⟨⟨b,e,a,n,c,hN⟩,hr⟩:=h;exact ⟨⟨b,e,a,n,c,hN.drew⟩,hr⟩
theorem WordsIn.drew {w:World} {a:OA} {n c:Nat} {L:LN} (h:WordsIn w a n c L):WordsIn w.drew a n c L:=⟨h.len,h.cap,h.most,h.low,h.rd⟩
def Qlq (r:Nat) (Done:World->Prop) (w w':World):Prop:=Q0f (·=r) w w'/\(Done w->Done w')/\(∀a n c L,WordsIn w a n c L->WordsIn w' a n c L)/\(Qq9 r w->Qq9 r w')
theorem Qlq.refl (r:Nat) (Done:World->Prop) (w:World):Qlq r Done w w:=⟨Q0f.refl _ w,id,fun _ _ _ _ h=>h,id⟩
def Qc5 (r:Nat) (u0 u1:Value) (L:LN) (w:World):Prop:=∃a n c,Q02 w r u0 u1 (.slice a n c)/\r<w.heap.size/\WordsIn w a n c L
theorem Qc5.below {r:Nat} {u0 u1:Value} {L:LN} {w w':World} (h:Qc5 r u0 u1 L w) (hb:Bw w w'):Qc5 r u0 u1 L w':=by
 obtain ⟨a,n,c,h1,h2,h3⟩:=h;exact ⟨a,n,c,h1.step hb h2,Ue h2 hb.size,h3.step hb⟩
def SlV (L:LN) (v:Value) (w:World):Prop:=∃a n c,v=.slice a n c/\WordsIn w a n c L
def AgV (u0 u1:Value) (L:LN) (v:Value) (w:World):Prop:=∃a n c,v=.agg #[u0,u1,.slice a n c]/\WordsIn w a n c L
section
variable {P:Program} {r:Nat} {u0 u1:Value} {L:LN} {V:Value->World->Prop} {w:World}
theorem Q17 {Done:World->Prop} {u:Value} {res:Result Next} (hr:res=.ok (.value u) w) (h:V u w):Q0v P (Qlq r Done) V w res:=by
 rw[hr];exact ⟨Qlq.refl _ _ _,h⟩
theorem Qgz {f:FuncId} {args:Array Value} {res:Result Next} (hr:res=.ok (.enter f args) w)
 (h:Calls P f args w fun e w''=>∃v,e=.returned v/\Bw w w''/\V v w''):Q0v P (Qlq r (Qc5 r u0 u1 L)) V w res:=by
 rw[hr];refine h.mono ?_;rintro e w'' ⟨v,rfl,hb,hv⟩;exact ⟨v,rfl,⟨Q0f.of_below hb _,fun h=>h.below hb,fun _ _ _ _ h=>h.step hb,fun h=>h.below hb⟩,hv⟩
theorem Qdv {b:Bool} {e:Int} {a:OA} {n c:Nat} {res:Result Next} (hB:Qq9 r w) (hw:WordsIn w a n c L) (h0:u0=.bool b) (h1:u1=.int .i64 e)
 (hr:res=.ok .skip (((w.setCell ⟨r,0,none⟩ u0).setCell ⟨r,1,none⟩ u1).setCell ⟨r,2,none⟩ (.slice a n c)))
 (hV:∀w',Qc5 r u0 u1 L w'->V undef w'):Q0v P (Qlq r (Qc5 r u0 u1 L)) V w res:=by
 rw[hr];obtain ⟨⟨b',e',a',n',c',hN⟩,B0⟩:=hB;have ht:Q0f (·=r) w (((w.setCell ⟨r,0,none⟩ u0).setCell ⟨r,1,none⟩ u1).setCell ⟨r,2,none⟩ (.slice a n c)):=((Q0f.setCell (·=r) w (p:=⟨r,0,none⟩) rfl _).trans0 (Q0f.setCell (·=r) _ (p:=⟨r,1,none⟩) rfl _)).trans0 (Q0f.setCell (·=r) _ (p:=⟨r,2,none⟩) rfl _);have hNs:=hN.store u0 u1 (.slice a n c);have Vc:∀a2 n2 c2 L2,WordsIn w a2 n2 c2 L2->WordsIn (((w.setCell ⟨r,0,none⟩ u0).setCell ⟨r,1,none⟩ u1).setCell ⟨r,2,none⟩ (.slice a n c)) a2 n2 c2 L2:=fun a2 n2 c2 L2 h=>
  ⟨h.len,h.cap,h.most,h.low,(h.rd.store3 hN (fun _=>by simp[nv]) (fun _=>by simp[nv]) (fun _=>by simp[nv]) u0 u1 (.slice a n c)).more (Q18 _ _ _ _ _)⟩
 have hd:Qc5 r u0 u1 L (((w.setCell ⟨r,0,none⟩ u0).setCell ⟨r,1,none⟩ u1).setCell ⟨r,2,none⟩ (.slice a n c)):=⟨a,n,c,hNs,Ue B0 ht.size,Vc _ _ _ _ hw⟩;exact ⟨⟨ht,fun _=>hd,Vc,fun _=>⟨⟨b,e,a,n,c,by rw[<-h0,<-h1];exact hNs⟩,Ue B0 ht.size⟩⟩,hV _ hd⟩
end
def Qyn (i j k r:Nat) (u0 u1:Value) (L:LN) (x:Nat):Option (Value->World->Prop):=
 if x=i then some (SlV L) else if x=j then some (AgV u0 u1 L) else if x=k then some (fun _ w=>Qc5 r u0 u1 L w) else none
theorem Qh0 {i j k r:Nat} {u0 u1:Value} {L:LN}:∀x φ,Qyn i j k r u0 u1 L x=some φ->∀v w w',φ v w->Qlq r (Qc5 r u0 u1 L) w w'->φ v w':=by
 intro x φ h v w w' hv he;unfold Qyn at h
 split at h
 ·injection h with h;subst h;obtain ⟨a,n,c,rfl,hw⟩:=hv;exact ⟨a,n,c,rfl,he.2.2.1 _ _ _ _ hw⟩
 ·split at h
  ·injection h with h;subst h;obtain ⟨a,n,c,rfl,hw⟩:=hv;exact ⟨a,n,c,rfl,he.2.2.1 _ _ _ _ hw⟩
  ·split at h
   ·injection h with h;subst h;exact he.2.1 hv
   ·cases h
def Qp0 (r:Nat) (w0 w:World):Prop:=Q0f (·=r) w0 w/\Qq9 r w/\∀a n c L,WordsIn w0 a n c L->WordsIn w a n c L
theorem Qp0.start {r:Nat} {w:World} {v0:Bool} {v1:Int} {a:OA} {n c:Nat} (h:Q02 w r (.bool v0) (.int .i64 v1) (.slice a n c)) (hr:r<w.heap.size):Qp0 r w w.drew:=⟨(Q0f.refl _ w).drew,Qq9.drew ⟨⟨_,_,_,_,_,h⟩,hr⟩,fun _ _ _ _ h=>h.drew⟩
theorem Qp0.next {r:Nat} {Done:World->Prop} {w0 w w':World} (h:Qp0 r w0 w) (h':Qlq r Done w w'):Qp0 r w0 w':=⟨h.1.trans h'.1 (fun _ _ e=>e),h'.2.2.2 h.2.1,fun a n c L hw=>h'.2.2.1 _ _ _ _ (h.2.2 a n c L hw)⟩
theorem Qdw {r:Nat} {Done:World->Prop} {cs:LV} {L:Nat->Option (Value->World->Prop)} (h:∀i φ,L i=some φ->∀v w w',φ v w->Qlq r Done w w'->φ v w') (i:Nat) (v:Value) (w w':World) (hv:Q3x cs L i v w) (hb:Qlq r Done w w'):Q3x cs L i v w':=by
 unfold Q3x at*;cases hl:L i with
 |none=>rw[hl] at hv;exact hv
 |some φ=>rw[hl] at hv;exact h i φ hl v w w' hv hb
theorem Qh1 (nx:Bool) (ex:Int) (ax:OA) (lx cx:Nat) (ls:LN) (ny:Bool) (ey:Int) (ay:OA) (ly cy:Nat) (ks:LN) (w:World) (h1:WordsIn w ax lx cx ls) (h2:WordsIn w ay ly cy ks) (hn:lx<=20000) (hm:ly<=20000) (JF: -1000000<=ex) (V6:ex<=1000000) (O2: -1000000<=ey) (X2:ey<=1000000):
 Calls Tryz.prog 54 #[.agg #[.bool nx,.int .i64 ex,.slice ax lx cx],.agg #[.bool ny,.int .i64 ey,.slice ay ly cy]] w fun r w'=>∃a n c,r=.returned (.agg #[.bool (nx != ny),.int .i64 (ex+ey),.slice a n c])/\WordsIn w' a n c (dig (2^64) (val (2^64) ls*val (2^64) ks))/\Bw w w':=by
 obtain ⟨y6,hX,hY,hR,hB⟩:=Qgf w (.bool nx) (.int .i64 ex) (.slice ax lx cx) (.bool ny) (.int .i64 ey) (.slice ay ly cy) (.bool false) (.int .i64 0) (.slice none 0 0) 41 41 41;obtain ⟨W0,I3⟩:∃W0,(((w.alloc (.cells #[.bool nx,.int .i64 ex,.slice ax lx cx] 41)).alloc (.cells #[.bool ny,.int .i64 ey,.slice ay ly cy] 41)).alloc (.cells #[.bool false,.int .i64 0,.slice none 0 0] 41))=W0:=⟨_,rfl⟩;rw[I3] at y6 hX hY hR hB;have hQ:∀W,Q0f (·=w.heap.size+2) W0 W->Q02 W w.heap.size (.bool nx) (.int .i64 ex) (.slice ax lx cx)/\Q02 W (w.heap.size+1) (.bool ny) (.int .i64 ey) (.slice ay ly cy)/\WordsIn W ax lx cx ls/\WordsIn W ay ly cy ks/\Bw w W/\w.heap.size+2<W.heap.size:=fun W ht=>by
  have hb:=Below.turn hB ht hB.size (fun k e=>by omega);exact ⟨hX.turn ht (by omega) (by omega),hY.turn ht (by omega) (by omega),h1.step hb,h2.step hb,hb,Ue (by omega) ht.size⟩
 have HQ:=Ua hQ;have HR:=Xh2 hR y6;clear y6 hX hY hR hB hQ h1 h2;have Q2:IntKind.i64.wrap (ex+ey)=ex+ey:=by rw[Ut];omega
 have H00:Qp0 (w.heap.size+2) W0 W0.drew:=Qp0.start (Xo0 HR) (by have:=(Xe1 HR);omega)
 go_enter Tryz.func54,Tryz.ntmps54
 go_wp2_with fail
 refine Q0c (E:=Qlq (w.heap.size+2) (Qc5 (w.heap.size+2) (.bool (nx != ny)) (.int .i64 (ex+ey)) (dig (2^64) (val (2^64) ls*val (2^64) ks)))) (Qlq.refl _ _) (by kernel_rfl) (fun W=>Qp0 (w.heap.size+2) W0 W) (fun _ _ h h'=>h.next h') (Q3x [.pointer (some ⟨w.heap.size,0,none⟩),.bool nx,.pointer (some ⟨(w.heap.size+1),0,none⟩),.bool ny,.bool (nx != ny),.pointer (some ⟨w.heap.size,1,none⟩),.int .i64 ex,.pointer (some ⟨(w.heap.size+1),1,none⟩),.int .i64 ey,.int .i64 (ex+ey),.pointer (some ⟨w.heap.size,2,none⟩),.slice ax lx cx,.pointer (some ⟨(w.heap.size+1),2,none⟩),.slice ay ly cy,undef,undef,undef] (Qyn 14 15 16 (w.heap.size+2) (.bool (nx != ny)) (.int .i64 (ex+ey)) (dig (2^64) (val (2^64) ls*val (2^64) ks)))) (Qdw Qh0) (Qgy 16 rfl (by kernel_rfl)) (by kernel_rfl) H00 ?_ ?_
 ·skip;refine ⟨fun A W hW F0 A0=>?_,?_⟩
  ·have e2:=Q0d F0 2 (by kernel_rfl) rfl;refine Q04 rfl ?_;refine Q17 (u:=.pointer (some ⟨w.heap.size,0,none⟩)) ?_ ((Q09 rfl).2 rfl);simp[go_sem,e2]
  refine ⟨fun A W hW F0 A0=>?_,?_⟩
  ·have e5:=Q0o A0 0 (by decide) rfl rfl rfl;refine Q04 rfl ?_;obtain ⟨k0,_,_,_,_,_⟩:=(HQ.out W hW.1).1;refine Q17 (u:=.bool nx) ?_ ((Q09 rfl).2 rfl);simp[go_sem,e5,k0]
  refine ⟨fun A W hW F0 A0=>?_,?_⟩
  ·have e3:=Q0d F0 3 (by kernel_rfl) rfl;refine Q04 rfl ?_;refine Q17 (u:=.pointer (some ⟨(w.heap.size+1),0,none⟩)) ?_ ((Q09 rfl).2 rfl);simp[go_sem,e3]
  refine ⟨fun A W hW F0 A0=>?_,?_⟩
  ·have e7:=Q0o A0 2 (by decide) rfl rfl rfl;refine Q04 rfl ?_;obtain ⟨k0,_,_,_,_,_⟩:=(HQ.out W hW.1).2.1;refine Q17 (u:=.bool ny) ?_ ((Q09 rfl).2 rfl);simp[go_sem,e7,k0]
  refine ⟨fun A W hW F0 A0=>?_,?_⟩
  ·have e6:=Q0o A0 1 (by decide) rfl rfl rfl;have e8:=Q0o A0 3 (by decide) rfl rfl rfl;refine Q04 rfl ?_;refine Q17 (u:=.bool (nx != ny)) ?_ ((Q09 rfl).2 rfl);cases nx <;> cases ny <;> simp[go_sem,e6,e8]
  refine ⟨fun A W hW F0 A0=>?_,?_⟩
  ·have e2:=Q0d F0 2 (by kernel_rfl) rfl;refine Q04 rfl ?_;refine Q17 (u:=.pointer (some ⟨w.heap.size,1,none⟩)) ?_ ((Q09 rfl).2 rfl);simp[go_sem,e2]
  refine ⟨fun A W hW F0 A0=>?_,?_⟩
  ·have e10:=Q0o A0 5 (by decide) rfl rfl rfl;refine Q04 rfl ?_;obtain ⟨_,k1,_,_,_,_⟩:=(HQ.out W hW.1).1;refine Q17 (u:=.int .i64 ex) ?_ ((Q09 rfl).2 rfl);simp[go_sem,e10,k1]
  refine ⟨fun A W hW F0 A0=>?_,?_⟩
  ·have e3:=Q0d F0 3 (by kernel_rfl) rfl;refine Q04 rfl ?_;refine Q17 (u:=.pointer (some ⟨(w.heap.size+1),1,none⟩)) ?_ ((Q09 rfl).2 rfl);simp[go_sem,e3]
  refine ⟨fun A W hW F0 A0=>?_,?_⟩
  ·have e12:=Q0o A0 7 (by decide) rfl rfl rfl;refine Q04 rfl ?_;obtain ⟨_,k1,_,_,_,_⟩:=(HQ.out W hW.1).2.1;refine Q17 (u:=.int .i64 ey) ?_ ((Q09 rfl).2 rfl);simp[go_sem,e12,k1]
  refine ⟨fun A W hW F0 A0=>?_,?_⟩
  ·have e11:=Q0o A0 6 (by decide) rfl rfl rfl;have e13:=Q0o A0 8 (by decide) rfl rfl rfl;refine Q04 rfl ?_;refine Q17 (u:=.int .i64 (ex+ey)) ?_ ((Q09 rfl).2 rfl);simp[go_sem,e11,e13,Q2]
  refine ⟨fun A W hW F0 A0=>?_,?_⟩
  ·have e2:=Q0d F0 2 (by kernel_rfl) rfl;refine Q04 rfl ?_;refine Q17 (u:=.pointer (some ⟨w.heap.size,2,none⟩)) ?_ ((Q09 rfl).2 rfl);simp[go_sem,e2]
  refine ⟨fun A W hW F0 A0=>?_,?_⟩
  ·have e15:=Q0o A0 10 (by decide) rfl rfl rfl;refine Q04 rfl ?_;obtain ⟨_,_,k2,_,_,_⟩:=(HQ.out W hW.1).1;refine Q17 (u:=.slice ax lx cx) ?_ ((Q09 rfl).2 rfl);simp[go_sem,e15,k2]
  refine ⟨fun A W hW F0 A0=>?_,?_⟩
  ·have e3:=Q0d F0 3 (by kernel_rfl) rfl;refine Q04 rfl ?_;refine Q17 (u:=.pointer (some ⟨(w.heap.size+1),2,none⟩)) ?_ ((Q09 rfl).2 rfl);simp[go_sem,e3]
  refine ⟨fun A W hW F0 A0=>?_,?_⟩
  ·have e17:=Q0o A0 12 (by decide) rfl rfl rfl;refine Q04 rfl ?_;obtain ⟨_,_,k2,_,_,_⟩:=(HQ.out W hW.1).2.1;refine Q17 (u:=.slice ay ly cy) ?_ ((Q09 rfl).2 rfl);simp[go_sem,e17,k2]
  refine ⟨fun A W hW F0 A0=>?_,?_⟩
  ·have e16:=Q0o A0 11 (by decide) rfl rfl rfl;have e18:=Q0o A0 13 (by decide) rfl rfl rfl;refine Q04 rfl ?_;refine Qgz (f:=98) (args:= #[.slice ax lx cx,.slice ay ly cy]) (by simp[go_sem,e16,e18]) ((Qdt ax lx cx ls ay ly cy ks W (HQ.out W hW.1).2.2.1 (HQ.out W hW.1).2.2.2.1 (by omega) (by omega)).mono ?_);rintro e w2 ⟨a,n,c,rfl,hw,hb⟩;exact ⟨_,rfl,hb,(Q00 rfl).2 ⟨a,n,c,rfl,hw⟩⟩
  refine ⟨fun A W hW F0 A0=>?_,?_⟩
  ·have e9:=Q0o A0 4 (by decide) rfl rfl rfl;have e14:=Q0o A0 9 (by decide) rfl rfl rfl;refine Q04 rfl ?_;obtain ⟨a,n,c,hv,hw⟩:=(Q00 rfl).1 (A0 14 (by decide));have e19:=Q1f hv;refine Q17 (u:=.agg #[.bool (nx != ny),.int .i64 (ex+ey),.slice a n c]) ?_ ((Q00 rfl).2 ⟨a,n,c,rfl,hw⟩);simp[go_sem,e9,e14,e19]
  refine ⟨fun A W hW F0 A0=>?_,?_⟩
  ·have e4:=Q0d F0 4 (by kernel_rfl) rfl;refine Q04 rfl ?_;obtain ⟨a,n,c,hv,hw⟩:=(Q00 rfl).1 (A0 15 (by decide));have e20:=Q1f hv;obtain ⟨⟨b9,e9,a9,n9,c9,hN⟩,B0⟩:=hW.2.1;have k0:=hN.c0;have f0:=hN.f0;have f1:=hN.f1;have f2:=hN.f2;have d1:=hN.d1 (.bool (nx != ny));have d2:=hN.d2 (.bool (nx != ny)) (.int .i64 (ex+ey));refine Qdv hW.2.1 hw (b:=nx != ny) (e:=ex+ey) rfl rfl ?_ (fun w' h=>(Q00 rfl).2 h);simp[go_sem,e4,e20,k0,f0,f1,f2,d1,d2]
  exact trivial
 intro vs W1 S1 C3;obtain ⟨a,n,c,I5,JN,K4⟩:=(Q00 rfl).1 (C3 16 (by decide));simp only[Q0s,Act.put,Uw,UK,UJ];have k0:=I5.c0;have k1:=I5.c1;have k2:=I5.c2;have N0:=(HQ.out W1 S1.1).2.2.2.2.1;have HE:=Xh2 K4 N0;clear C3 S1 K4 N0 I5
 go_wp2_with fail
 exact ⟨rfl,.agg #[.bool (nx != ny),.int .i64 (ex+ey),.slice a n c],by simp[results,go_sem,k0,k1,k2],a,n,c,rfl,(Xo0 HE),(Xe1 HE)⟩
def Qxe (w:World) (D:Dyadic) (T lo hi:Int) (r:Ending) (w':World):Prop:=∃n e a l c L,r=.returned (.agg #[.bool n,.int .i64 e,.slice a l c])/\WordsIn w' a l c L/\Q28 n e L=D/\lo<=e/\e<=hi/\64*(l:Int)+e<=T/\Bw w w'
theorem Qh2 (nx:Bool) (ex:Int) (ax:OA) (lx cx:Nat) (ls:LN) (ny:Bool) (ey:Int) (ay:OA) (ly cy:Nat) (ks:LN) (w:World) (h1:WordsIn w ax lx cx ls) (h2:WordsIn w ay ly cy ks) (hn:lx<=20000) (hm:ly<=20000) (JF: -1000000<=ex) (V6:ex<=1000000) (O2: -1000000<=ey) (X2:ey<=1000000) (T lo hi:Int) (Y1:64*(lx:Int)+ex<=T) (U1:64*(ly:Int)+ey<=T) (KO:lo<=ex) (hlo2:lo<=ey) (Za:ex<=hi) (hhi2:ey<=hi):
 Calls Tryz.prog 55 #[.agg #[.bool nx,.int .i64 ex,.slice ax lx cx],.agg #[.bool ny,.int .i64 ey,.slice ay ly cy]] w (Qxe w (Q28 nx ex ls+Q28 ny ey ks) (T+64) lo hi):=by
 obtain ⟨y6,hX,hY,hR,hB⟩:=Qgf w (.bool nx) (.int .i64 ex) (.slice ax lx cx) (.bool ny) (.int .i64 ey) (.slice ay ly cy) (.bool false) (.int .i64 0) (.slice none 0 0) 41 41 41;generalize I3:(((w.alloc (.cells #[.bool nx,.int .i64 ex,.slice ax lx cx] 41)).alloc (.cells #[.bool ny,.int .i64 ey,.slice ay ly cy] 41)).alloc (.cells #[.bool false,.int .i64 0,.slice none 0 0] 41))=W0 at y6 hX hY hR hB;have hQ:∀W,Bw W0 W->Q02 W w.heap.size (.bool nx) (.int .i64 ex) (.slice ax lx cx)/\Q02 W (w.heap.size+1) (.bool ny) (.int .i64 ey) (.slice ay ly cy)/\Q02 W (w.heap.size+2) (.bool false) (.int .i64 0) (.slice none 0 0)/\w.heap.size+2<W.heap.size/\Bw w W:=fun W hb=>
  ⟨hX.step hb (by omega),hY.step hb (by omega),hR.step hb (by omega),Ue (by omega) hb.size,Below.next0 hB hb⟩
 have HQ:=Ua hQ;have hsx:=fun W (hb:Bw w W)=>Q95 nx ex ax lx cx ls W (h1.step hb) (by omega);have hsy:=fun W (hb:Bw w W)=>Q95 ny ey ay ly cy ks W (h2.step hb) (by omega);have HW:=Xh2 h1 h2;clear y6 hX hY hR hQ h1 h2;obtain ⟨y5,U4,J4,_,_,_⟩:=(HQ.out W0 (Uf _ _)).1
 by_cases C7:val (2^64) ls=0
 ·simp only[C7,Xa5] at hsx;have HS:=Ua hsx;have HV:=Ua C7;clear hsx hsy C7
  go_enter Tryz.func55,Tryz.ntmps55
  go_wp2_with (refine (HS.out W0 hB).mono ?_;rintro r w1 ⟨rfl,C0⟩;obtain ⟨_,g1,g2,g3,g4⟩:=HQ.out w1 C0;have yc0:=g1.c0;have yc1:=g1.c1;have yc2:=g1.c2;have rc0:=g2.c0;have rc1:=g2.c1;have rc2:=g2.c2;have rf0:=g2.f0;have rf1:=g2.f1;have rf2:=g2.f2;have rd1:=g2.d1 (.bool ny);have rd2:=g2.d2 (.bool ny) (.int .i64 ey);have HA:=Xh3 g2 g3 g4;clear g1 g2 g3 g4)
  have hS:=(Xo0 HA).store (.bool ny) (.int .i64 ey) (.slice ay ly cy);have k0:=hS.c0;have k1:=hS.c1;have k2:=hS.c2;have R4:=Q02.below (Xe2 HA) (show w.heap.size<=w.heap.size+2 by omega) (.bool ny) (.int .i64 ey) (.slice ay ly cy);exact ⟨rfl,.agg #[.bool ny,.int .i64 ey,.slice ay ly cy],by simp[results,go_sem,k0,k1,k2],ny,ey,ay,ly,cy,ks,rfl,(Xe1 HW).step R4,by rw[Qgx _ _ HV.out,Dyadic.zero_add],hlo2,hhi2,by omega,R4⟩
 ·have hsx':=hsx;simp only[C7,Xaq] at hsx;have S9:∀W (hb:Bw w W),Calls Tryz.prog 99 #[.agg #[.bool nx,.int .i64 ex,.slice ax lx cx]] W fun r w'=>(∃s:Int,r=.returned (.int .i64 s)/\s≠0)/\Bw W w':=fun W hb=>(hsx W hb).mono (by rintro r w' ⟨rfl,J5⟩;exact ⟨⟨_,rfl,by split <;> decide⟩,J5⟩)
  by_cases QW:val (2^64) ks=0
  ·simp only[QW,Xa5] at hsy;have HS:=Xh2 S9 hsy;have HV:=Ua QW;clear hsx hsx' hsy S9 C7 QW
   go_enter Tryz.func55,Tryz.ntmps55
   go_wp2_with (first
    |(go_at_call_of 99 ax;refine ((Xo0 HS) W0 hB).mono ?_;rintro r w1 ⟨⟨s,rfl,hs⟩,C0⟩;have Zs:(s==0)=false:=(by rw[Ui];exact hs);obtain ⟨g0,g1,g2,g3,g4⟩:=HQ.out w1 C0;have yc0:=g1.c0;have yc1:=g1.c1;have yc2:=g1.c2;have HA:=Xh2 C0 g4;clear g0 g1 g2 g3 g4 C0)
    |(go_at_call_of 99 ay;refine ((Xe1 HS) w1 (Xe1 HA)).mono ?_;rintro r w2 ⟨rfl,D0⟩;obtain ⟨g0,g1,g2,g3,g4⟩:=HQ.out w2 (Below.next0 (Xo0 HA) D0);have xc0:=g0.c0;have xc1:=g0.c1;have xc2:=g0.c2;have rc0:=g2.c0;have rc1:=g2.c1;have rc2:=g2.c2;have rf0:=g2.f0;have rf1:=g2.f1;have rf2:=g2.f2;have rd1:=g2.d1 (.bool nx);have rd2:=g2.d2 (.bool nx) (.int .i64 ex);have HC:=Xh3 g2 g3 g4;clear g0 g1 g2 g3 g4 D0))
   have hS:=(Xo0 HC).store (.bool nx) (.int .i64 ex) (.slice ax lx cx);have k0:=hS.c0;have k1:=hS.c1;have k2:=hS.c2;have R4:=Q02.below (Xe2 HC) (show w.heap.size<=w.heap.size+2 by omega) (.bool nx) (.int .i64 ex) (.slice ax lx cx);exact ⟨rfl,.agg #[.bool nx,.int .i64 ex,.slice ax lx cx],by simp[results,go_sem,k0,k1,k2],nx,ex,ax,lx,cx,ls,rfl,(Xo0 HW).step R4,by rw[Qgx _ _ HV.out,Xbv],KO,Za,by omega,R4⟩
  ·simp only[QW,Xaq] at hsy;have P8:∀W (hb:Bw w W),Calls Tryz.prog 99 #[.agg #[.bool ny,.int .i64 ey,.slice ay ly cy]] W fun r w'=>(∃s:Int,r=.returned (.int .i64 s)/\s≠0)/\Bw W w':=fun W hb=>(hsy W hb).mono (by rintro r w' ⟨rfl,J5⟩;exact ⟨⟨_,rfl,by split <;> decide⟩,J5⟩);have HS:=Xh2 S9 P8;have HV:=Xh2 C7 QW;clear hsx hsx' hsy S9 P8 C7 QW;obtain ⟨D,hD⟩:∃D,Q28 nx ex ls+Q28 ny ey ks=D:=⟨_,rfl⟩;rw[hD];have HD:=Ua hD;clear hD
   go_enter Tryz.func55,Tryz.ntmps55
   go_upto_block 0 with fail
   go_cut [] (fun wx=>∃n1 e1 a1 l1 c1 L1 n2 e2 a2 l2 c2 L2,Qxc w wx D T lo hi n1 e1 a1 l1 c1 L1 n2 e2 a2 l2 c2 L2)
   case first=>
    by_cases B0:ey<ex
    ·go_wp2_with (first
      |(go_at_call_of 99 ax;refine ((Xo0 HS) W0 hB).mono ?_;rintro r w1 ⟨⟨s,rfl,hs⟩,C0⟩;have Zs:(s==0)=false:=(by rw[Ui];exact hs);obtain ⟨g0,g1,g2,g3,g4⟩:=HQ.out w1 C0;have yc0:=g1.c0;have yc1:=g1.c1;have yc2:=g1.c2;have HA:=Xh2 C0 g4;clear g0 g1 g2 g3 g4 C0)
      |(go_at_call_of 99 ay;refine ((Xe1 HS) w1 (Xe1 HA)).mono ?_;rintro r w2 ⟨⟨s2,rfl,X6⟩,D0⟩;have hs20:(s2==0)=false:=(by rw[Ui];exact X6);obtain ⟨g0,g1,g2,g3,g4⟩:=HQ.out w2 (Below.next0 (Xo0 HA) D0);have xc0:=g0.c0;have xc1:=g0.c1;have xc2:=g0.c2;have xf0:=g0.f0;have xf1:=g0.f1;have xf2:=g0.f2;have xd1:=g0.d1 (.bool ny);have xd2:=g0.d2 (.bool ny) (.int .i64 ey);have zc0:=g1.c0;have zc1:=g1.c1;have zc2:=g1.c2;have gs0:=g0.store (.bool ny) (.int .i64 ey) (.slice ay ly cy);have gs1:=g1.far3 (show w.heap.size≠w.heap.size+1 by omega) (.bool ny) (.int .i64 ey) (.slice ay ly cy);have sc0:=gs1.c0;have sc1:=gs1.c1;have sc2:=gs1.c2;have sf0:=gs1.f0;have sf1:=gs1.f1;have sf2:=gs1.f2;have sd1:=gs1.d1 (.bool nx);have sd2:=gs1.d2 (.bool nx) (.int .i64 ex);have gz:=And.intro (gs0.far3 (show w.heap.size+1≠w.heap.size by omega) (.bool nx) (.int .i64 ex) (.slice ax lx cx)) (And.intro (gs1.store (.bool nx) (.int .i64 ex) (.slice ax lx cx)) (And.intro ((g2.far3 (show w.heap.size≠w.heap.size+2 by omega) (.bool ny) (.int .i64 ey) (.slice ay ly cy)).far3 (show w.heap.size+1≠w.heap.size+2 by omega) (.bool nx) (.int .i64 ex) (.slice ax lx cx)) (Q02.below (Q02.below g4 (Ug _) (.bool ny) (.int .i64 ey) (.slice ay ly cy)) (show w.heap.size<=w.heap.size+1 by omega) (.bool nx) (.int .i64 ex) (.slice ax lx cx))));have HZ:=Ua gz;clear gs0 gs1 gz;skip;have HC:=Xh5 g0 g1 g2 g3 g4;clear g0 g1 g2 g3 g4 D0))
     go_meet;exact ⟨_,_,_,_,_,_,_,_,_,_,_,_,(Xo0 HZ),(Xo1 HZ),(Xo2 HZ),by rw[Qxb,Qxb];exact (Xo3 HC),(Xe1 HW),(Xo0 HW),by omega,(Xe1 HV),(Xo0 HV),hm,hn,hlo2,Za,by omega,U1,Y1,(by rw[Dyadic.add_comm];exact HD.out),(Xe3 HZ)⟩
    ·go_wp2_with (first
      |(go_at_call_of 99 ax;refine ((Xo0 HS) W0 hB).mono ?_;rintro r w1 ⟨⟨s,rfl,hs⟩,C0⟩;have Zs:(s==0)=false:=(by rw[Ui];exact hs);obtain ⟨g0,g1,g2,g3,g4⟩:=HQ.out w1 C0;have yc0:=g1.c0;have yc1:=g1.c1;have yc2:=g1.c2;have HA:=Xh2 C0 g4;clear g0 g1 g2 g3 g4 C0)
      |(go_at_call_of 99 ay;refine ((Xe1 HS) w1 (Xe1 HA)).mono ?_;rintro r w2 ⟨⟨s2,rfl,X6⟩,D0⟩;have hs20:(s2==0)=false:=(by rw[Ui];exact X6);obtain ⟨g0,g1,g2,g3,g4⟩:=HQ.out w2 (Below.next0 (Xo0 HA) D0);have xc0:=g0.c0;have xc1:=g0.c1;have xc2:=g0.c2;have zc0:=g1.c0;have zc1:=g1.c1;have zc2:=g1.c2;have HC:=Xh5 g0 g1 g2 g3 g4;clear g0 g1 g2 g3 g4 D0))
     go_meet;exact ⟨_,_,_,_,_,_,_,_,_,_,_,_,(Xo0 HC),(Xo1 HC),(Xo2 HC),(Xo3 HC),(Xo0 HW),(Xe1 HW),by omega,(Xo0 HV),(Xe1 HV),hn,hm,KO,hhi2,by omega,Y1,U1,HD.out,(Xe4 HC)⟩
   case rest=>
    obtain ⟨n1,e1,a1,l1,c1,L1,n2,e2,a2,l2,c2,L2,hP⟩:=hcut;have o6:=hP.le;have B2:=hP.s1;have X6:=hP.s2;have q5:=hP.lo1;have XF:=hP.hi2;have hrng:=hP.rng;obtain ⟨z,hz⟩:∃z:Nat,e2-e1=(z:Int):=⟨(e2-e1).toNat,by omega⟩;have hw1l:=hP.w1.len;have hw2l:=hP.w2.len;have M3:=fun V (hV:V<=val (2^64) L1+val (2^64) L2*2^z)=>Qw3 (T:=T) (e1:=e1) (e2:=e2) (by have:=Qa2 hP.w1.low;rwa[hw1l] at this) (by have:=Qa2 hP.w2.low;rwa[hw2l] at this) hV hz hP.t1 hP.t2;have Zn:=Qq2 a2 l2 c2 L2 z wc (hP.w2.step hP.bel) (by omega) (by omega);have xc0:=hP.b1.c0;have xc1:=hP.b1.c1;have xc2:=hP.b1.c2;have yc0:=hP.b2.c0;have yc1:=hP.b2.c1;have yc2:=hP.b2.c2;have HU:=Ua Zn;clear Zn HD HV HS;have m6:=hP.sum;rw[Qw2 n2 e1 e2 L2 z hz] at m6;unfold Q28 at m6;rw[Qll] at m6;obtain ⟨v2,QW⟩:∃v2,val (2^64) L2*2^z=v2:=⟨_,rfl⟩;have VO:v2≠0:=(by rw[<-QW];exact Nat.mul_ne_zero hP.v2 (Nat.pos_iff_ne_zero.1 (Tr (by decide))));have hl3:64*(dig (2^64) v2).length<=64*l2+z+63:=Qln (by
     rw[<-QW,Tz];exact Xaj (by have:=Qa2 hP.w2.low;rwa[hw2l] at this) (Tr (by decide)))
    rw[QW] at m6 M3 HU;have HF:=Xh4 m6 M3 VO hP.v1;have K6:=hP.bel;have HP:=Ua hP;clear m6 M3 QW VO hP
    by_cases Xd:n1=n2
    ·subst Xd;have C1:(n1==n1)=true:=by simp
     go_wp2_with (go_at_call_of 100 a2;refine HU.out.mono ?_;rintro r w3 ⟨a3,l3,c3,rfl,z7,G0⟩;have g0:=HP.out.b1.step G0 (by have:=HP.out.lt;omega);have uc0:=g0.c0;have uc1:=g0.c1;have uc2:=g0.c2;have g1:=HP.out.b2.step G0 (by have:=HP.out.lt;omega);have vc0:=g1.c0;have vc1:=g1.c1;have vc2:=g1.c2;clear g1;have HE:=Xh2 z7 G0;clear g0 z7 G0)
     have Y2:w.heap.size+2<w3.heap.size:=Ue HP.out.lt (Xe1 HE).size;have Q0:=HP.out.br.step (Xe1 HE) HP.out.lt;have C0:=HP.out.b1.step (Xe1 HE) (by have:=HP.out.lt;omega);have I6:∀W,WordsIn W a1 l1 c1 L1->WordsIn W a3 l3 c3 (dig (2^64) v2)->Calls Tryz.prog 101 #[.slice a1 l1 c1,.slice a3 l3 c3] W (Qbr W (val (2^64) L1+v2)):=fun W q1 q2=>by
      have h:=Qdl a1 l1 c1 L1 a3 l3 c3 _ W q1 q2 (by omega) (by
       have h6:=(Xo0 HE).len;omega)
      rwa[Q0x (by decide)] at h
     have Xn:=Ua (show∀W,Qp0 (w.heap.size+2) w3 W->Q02 W w.heap.size (.bool n1) (.int .i64 e1) (.slice a1 l1 c1)/\WordsIn W a1 l1 c1 L1/\WordsIn W a3 l3 c3 (dig (2^64) v2)/\Bw w W from fun W hW=>by
      have hb:=Below.turn (Below.next0 HP.out.bel (Xe1 HE)) hW.1 (Below.next0 HP.out.bel (Xe1 HE)).size (fun k e=>by omega);exact ⟨C0.turn hW.1 (by omega) (by omega),HP.out.w1.step hb,hW.2.2 _ _ _ _ (Xo0 HE),hb⟩)
     have HAD:=Ua I6;have H00:Qp0 (w.heap.size+2) w3 w3.drew:=Qp0.start Q0 Y2;clear Y2 Q0 C0 I6 uc0 uc1 uc2 vc0 vc1 vc2;refine Q0c (E:=Qlq (w.heap.size+2) (Qc5 (w.heap.size+2) (.bool n1) (.int .i64 e1) (dig (2^64) (val (2^64) L1+v2)))) (Qlq.refl _ _) (by kernel_rfl) (fun W=>Qp0 (w.heap.size+2) w3 W) (fun _ _ h h'=>h.next h') (Q3x [.pointer (some ⟨w.heap.size,0,none⟩),.bool n1,.pointer (some ⟨w.heap.size,1,none⟩),.int .i64 e1,.pointer (some ⟨w.heap.size,2,none⟩),.slice a1 l1 c1,.slice a3 l3 c3,undef,undef,undef] (Qyn 7 8 9 (w.heap.size+2) (.bool n1) (.int .i64 e1) (dig (2^64) (val (2^64) L1+v2)))) (Qdw Qh0) (Qgy 9 rfl (by kernel_rfl)) (by kernel_rfl) H00 ?_ ?_
     ·skip;refine ⟨fun A W hW F0 A0=>?_,?_⟩
      ·have e2:=Q0d F0 2 (by kernel_rfl) rfl;refine Q04 rfl ?_;refine Q17 (u:=.pointer (some ⟨w.heap.size,0,none⟩)) ?_ ((Q09 rfl).2 rfl);simp[go_sem,e2]
      refine ⟨fun A W hW F0 A0=>?_,?_⟩
      ·have e41:=Q0o A0 0 (by decide) rfl rfl rfl;refine Q04 rfl ?_;obtain ⟨k0,_,_,_,_,_⟩:=(Xn.out W hW).1;refine Q17 (u:=.bool n1) ?_ ((Q09 rfl).2 rfl);simp[go_sem,e41,k0]
      refine ⟨fun A W hW F0 A0=>?_,?_⟩
      ·have e2:=Q0d F0 2 (by kernel_rfl) rfl;refine Q04 rfl ?_;refine Q17 (u:=.pointer (some ⟨w.heap.size,1,none⟩)) ?_ ((Q09 rfl).2 rfl);simp[go_sem,e2]
      refine ⟨fun A W hW F0 A0=>?_,?_⟩
      ·have e43:=Q0o A0 2 (by decide) rfl rfl rfl;refine Q04 rfl ?_;obtain ⟨_,k1,_,_,_,_⟩:=(Xn.out W hW).1;refine Q17 (u:=.int .i64 e1) ?_ ((Q09 rfl).2 rfl);simp[go_sem,e43,k1]
      refine ⟨fun A W hW F0 A0=>?_,?_⟩
      ·have e2:=Q0d F0 2 (by kernel_rfl) rfl;refine Q04 rfl ?_;refine Q17 (u:=.pointer (some ⟨w.heap.size,2,none⟩)) ?_ ((Q09 rfl).2 rfl);simp[go_sem,e2]
      refine ⟨fun A W hW F0 A0=>?_,?_⟩
      ·have e45:=Q0o A0 4 (by decide) rfl rfl rfl;refine Q04 rfl ?_;obtain ⟨_,_,k2,_,_,_⟩:=(Xn.out W hW).1;refine Q17 (u:=.slice a1 l1 c1) ?_ ((Q09 rfl).2 rfl);simp[go_sem,e45,k2]
      refine ⟨fun A W hW F0 A0=>?_,?_⟩
      ·have e5:=Q0d F0 5 (by kernel_rfl) rfl;refine Q04 rfl ?_;refine Q17 (u:=.slice a3 l3 c3) ?_ ((Q09 rfl).2 rfl);simp[go_sem,e5]
      refine ⟨fun A W hW F0 A0=>?_,?_⟩
      ·have e46:=Q0o A0 5 (by decide) rfl rfl rfl;have e47:=Q0o A0 6 (by decide) rfl rfl rfl;refine Q04 rfl ?_;refine Qgz (f:=101) (args:= #[.slice a1 l1 c1,.slice a3 l3 c3]) (by simp[go_sem,e46,e47]) ((HAD.out W (Xn.out W hW).2.1 (Xn.out W hW).2.2.1).mono ?_);rintro e w2 ⟨a,n,c,rfl,hw,hb⟩;exact ⟨_,rfl,hb,(Q00 rfl).2 ⟨a,n,c,rfl,hw⟩⟩
      refine ⟨fun A W hW F0 A0=>?_,?_⟩
      ·have e42:=Q0o A0 1 (by decide) rfl rfl rfl;have e44:=Q0o A0 3 (by decide) rfl rfl rfl;refine Q04 rfl ?_;obtain ⟨a,n,c,hv,hw⟩:=(Q00 rfl).1 (A0 7 (by decide));have e48:=Q1f hv;refine Q17 (u:=.agg #[.bool n1,.int .i64 e1,.slice a n c]) ?_ ((Q00 rfl).2 ⟨a,n,c,rfl,hw⟩);simp[go_sem,e42,e44,e48]
      refine ⟨fun A W hW F0 A0=>?_,?_⟩
      ·have e4:=Q0d F0 4 (by kernel_rfl) rfl;refine Q04 rfl ?_;obtain ⟨a,n,c,hv,hw⟩:=(Q00 rfl).1 (A0 8 (by decide));have e49:=Q1f hv;obtain ⟨⟨b9,e9,a9,n9,c9,hN⟩,B0⟩:=hW.2.1;have k0:=hN.c0;have f0:=hN.f0;have f1:=hN.f1;have f2:=hN.f2;have d1:=hN.d1 (.bool n1);have d2:=hN.d2 (.bool n1) (.int .i64 e1);refine Qdv hW.2.1 hw (b:=n1) (e:=e1) rfl rfl ?_ (fun w' h=>(Q00 rfl).2 h);simp[go_sem,e4,e49,k0,f0,f1,f2,d1,d2]
      exact trivial
     intro vs W1 S1 C3;obtain ⟨a,n,c,I5,JN,K4⟩:=(Q00 rfl).1 (C3 9 (by decide));simp only[Q0s,Act.put,Uw,UK,UJ];have k0:=I5.c0;have k1:=I5.c1;have k2:=I5.c2;have HG:=Xh2 K4 (Xn.out W1 S1).2.2.2;clear C3 S1 K4 I5
     go_wp2_with fail
     refine ⟨rfl,.agg #[.bool n1,.int .i64 e1,.slice a n c],by simp[results,go_sem,k0,k1,k2],n1,e1,a,n,c,_,rfl,(Xo0 HG),?_,q5,by omega,?_,(Xe1 HG)⟩
     ·rw[Qbg,<-Qta];exact (Xo0 HF)
     ·have h5:=(Xo1 HF) (val (2^64) L1+v2) (Ug _);rw[(Xo0 HG).len] at h5;exact h5
    ·have R5:n2= !n1:=(by cases n1 <;> cases n2 <;> simp_all);subst R5;have C1:(n1== !n1)=false:=by cases n1 <;> rfl
     by_cases P5:v2<=val (2^64) L1
     ·go_wp2_with (first
       |(go_at_call_of 100 a2;refine HU.out.mono ?_;rintro r w3 ⟨a3,l3,c3,rfl,z7,G0⟩;have g0:=HP.out.b1.step G0 (by have:=HP.out.lt;omega);have uc0:=g0.c0;have uc1:=g0.c1;have uc2:=g0.c2;have g1:=HP.out.b2.step G0 (by have:=HP.out.lt;omega);have vc0:=g1.c0;have vc1:=g1.c1;have vc2:=g1.c2;have HE:=Xh2 z7 G0;clear g0 g1 z7 G0)
       |(go_at_call_of 102 a1;refine (Qa0 a1 l1 c1 L1 a3 l3 c3 _ w3 (HP.out.w1.step (Below.next0 HP.out.bel (Xe1 HE))) (Xo0 HE) (by omega) (Xe3 HF)).mono ?_;rintro r w4 ⟨a4,l4,c4,ok,rfl,D3,q6,F1⟩;rw[Q0x (by decide),UU P5] at D3;subst D3;have q6:=q6 rfl;rw[Q0x (by decide)] at q6;
         have Jx:=HP.out.lt;have JE:=Below.next0 (Xe1 HE) F1;have g0:=HP.out.b1.step JE (by omega);have uc0:=g0.c0;have uc1:=g0.c1;have uc2:=g0.c2;have g1:=HP.out.b2.step JE (by omega);have vc0:=g1.c0;have vc1:=g1.c1;have vc2:=g1.c2;have g2:=HP.out.br.step JE Jx;have rc0:=g2.c0;have rc1:=g2.c1;have rc2:=g2.c2;have rf0:=g2.f0;have rf1:=g2.f1;have rf2:=g2.f2;have rd1:=g2.d1 (.bool n1);have rd2:=g2.d2 (.bool n1) (.int .i64 e1);have HG:=Xh4 q6 g2 (Ue Jx JE.size) (Below.next0 HP.out.bel JE);clear g0 g1 g2 q6 F1 JE))
      have hS:=(Xo1 HG).store (.bool n1) (.int .i64 e1) (.slice a4 l4 c4);have k0:=hS.c0;have k1:=hS.c1;have k2:=hS.c2;have R4:=Q02.below (Xe3 HG) (show w.heap.size<=w.heap.size+2 by omega) (.bool n1) (.int .i64 e1) (.slice a4 l4 c4);have E8:WordsIn (((w4.setCell ⟨w.heap.size+2,0,none⟩ (.bool n1)).setCell ⟨w.heap.size+2,1,none⟩ (.int .i64 e1)).setCell ⟨w.heap.size+2,2,none⟩ (.slice a4 l4 c4)) a4 l4 c4 (dig (2^64) (val (2^64) L1-v2)):=⟨(Xo0 HG).len,(Xo0 HG).cap,(Xo0 HG).most,(Xo0 HG).low,((Xo0 HG).rd.store3 (Xo1 HG) (fun _=>by simp[nv]) (fun _=>by simp[nv]) (fun _=>by simp[nv]) _ _ _).more (Q18 _ _ _ _ _)⟩;refine ⟨rfl,.agg #[.bool n1,.int .i64 e1,.slice a4 l4 c4],by simp[results,go_sem,k0,k1,k2],_,e1,a4,l4,c4,_,rfl,E8,?_,q5,by omega,?_,R4⟩
      ·rw[Qbg,<-(Xo0 HF),Qgw,Us P5]
      ·have h5:=(Xo1 HF) (val (2^64) L1-v2) (by omega);rw[(Xo0 HG).len] at h5;exact h5
     ·go_upto_if 57 with (first
       |(go_at_call_of 100 a2;refine HU.out.mono ?_;rintro r w3 ⟨a3,l3,c3,rfl,z7,G0⟩;have g0:=HP.out.b1.step G0 (by have:=HP.out.lt;omega);have uc0:=g0.c0;have uc1:=g0.c1;have uc2:=g0.c2;have g1:=HP.out.b2.step G0 (by have:=HP.out.lt;omega);have vc0:=g1.c0;have vc1:=g1.c1;have vc2:=g1.c2;have HE:=Xh2 z7 G0;clear g0 g1 z7 G0)
       |(go_at_call_of 102 a1;refine (Qa0 a1 l1 c1 L1 a3 l3 c3 _ w3 (HP.out.w1.step (Below.next0 HP.out.bel (Xe1 HE))) (Xo0 HE) (by omega) (Xe3 HF)).mono ?_;rintro r w4 ⟨a4,l4,c4,ok,rfl,D3,q6,F1⟩;rw[Q0x (by decide),UL P5] at D3;subst D3;clear q6;
         have JE:=Below.next0 (Xe1 HE) F1;have g0:=HP.out.b1.step JE (by have:=HP.out.lt;omega);have uc0:=g0.c0;have uc1:=g0.c1;have uc2:=g0.c2;have HG1:=Xh2 ((Xo0 HE).step F1) JE;clear g0 F1 JE))
      go_wp2_with (go_at_call_of 102 a1;refine (Qa0 a3 l3 c3 _ a1 l1 c1 L1 w4 (Xo0 HG1) (HP.out.w1.step (Below.next0 HP.out.bel (Xe1 HG1))) (by have h6:=(Xo0 HG1).len;omega) (by rw[Q0x (by decide)];exact (Xo2 HF))).mono ?_;rintro r w5 ⟨a5,l5,c5,ok,rfl,D3,U6,M0⟩;rw[Q0x (by decide),UU (by omega)] at D3;subst D3;have U6:=U6 rfl;rw[Q0x (by decide)] at U6;have Jx:=HP.out.lt;have KU:=Below.next0 (Xe1 HG1) M0;have g0:=HP.out.b1.step KU (by omega);have uc0:=g0.c0;have uc1:=g0.c1;have uc2:=g0.c2;have g1:=HP.out.b2.step KU (by omega);have vc0:=g1.c0;have vc1:=g1.c1;have vc2:=g1.c2;have g2:=HP.out.br.step KU Jx;have rc0:=g2.c0;have rc1:=g2.c1;have rc2:=g2.c2;have rf0:=g2.f0;have rf1:=g2.f1;have rf2:=g2.f2;have rd1:=g2.d1 (.bool (!n1));have rd2:=g2.d2 (.bool (!n1)) (.int .i64 e1);have HG:=Xh4 U6 g2 (Ue Jx KU.size) (Below.next0 HP.out.bel KU);clear g0 g1 g2 U6 M0 KU)
      have hS:=(Xo1 HG).store (.bool (!n1)) (.int .i64 e1) (.slice a5 l5 c5);have k0:=hS.c0;have k1:=hS.c1;have k2:=hS.c2;have R4:=Q02.below (Xe3 HG) (show w.heap.size<=w.heap.size+2 by omega) (.bool (!n1)) (.int .i64 e1) (.slice a5 l5 c5);have E8:WordsIn (((w5.setCell ⟨w.heap.size+2,0,none⟩ (.bool (!n1))).setCell ⟨w.heap.size+2,1,none⟩ (.int .i64 e1)).setCell ⟨w.heap.size+2,2,none⟩ (.slice a5 l5 c5)) a5 l5 c5 (dig (2^64) (v2-val (2^64) L1)):=⟨(Xo0 HG).len,(Xo0 HG).cap,(Xo0 HG).most,(Xo0 HG).low,((Xo0 HG).rd.store3 (Xo1 HG) (fun _=>by simp[nv]) (fun _=>by simp[nv]) (fun _=>by simp[nv]) _ _ _).more (Q18 _ _ _ _ _)⟩;refine ⟨rfl,.agg #[.bool (!n1),.int .i64 e1,.slice a5 l5 c5],by simp[results,go_sem,k0,k1,k2],_,e1,a5,l5,c5,_,rfl,E8,?_,q5,by omega,?_,R4⟩
      ·rw[Qbg,<-(Xo0 HF),Qgw,Uq P5]
      ·have h5:=(Xo1 HF) (v2-val (2^64) L1) (by omega);rw[(Xo0 HG).len] at h5;exact h5
def Qqa (w:World) (D:Dyadic) (r:Ending) (w':World):Prop:=∃n' e' a' l' c' L er,r=.returned (.tuple #[.agg #[.bool n',.int .i64 e',.slice a' l' c'],.int .i64 er])/\Qlm D n' e' L er/\Q2m w w' a' l' c' L/\Bw w w'
theorem Qtb (n:Bool) (e:Int) (a:OA) (l c:Nat) (L:LN) (w:World) (h:WordsIn w a l c L) (hT:Q2n w) (hl:l<=100000) (he: -1000000000<=e) (V6:e<=1000000000):
 Calls Tryz.prog 232 #[.agg #[.bool n,.int .i64 e,.slice a l c]] w (Qqa w (Q28 n e L)):=by
 obtain ⟨X3,hX,hR,hB⟩:=Q92 w (.bool n) (.int .i64 e) (.slice a l c) (.bool false) (.int .i64 0) (.slice none 0 0) 41 41;generalize hW:(w.alloc (.cells #[.bool n,.int .i64 e,.slice a l c] 41)).alloc (.cells #[.bool false,.int .i64 0,.slice none 0 0] 41)=W at hX hR hB X3;have Z1:w.heap.size+1<W.heap.size:=by omega
 clear X3;have y5:=hX.c0;have U4:=hX.c1;have J4:=hX.c2;have U3:=Q57 n a l c L e W (h.step hB) (hT.step hB) hl he V6;have HR:=Xh4 hR hB U3 Z1;clear hX hR hB U3 h hT Z1
 go_enter Tryz.func232,Tryz.ntmps232
 go_wp2_with (refine (Xo2 HR).mono ?_;rintro r w1 ⟨n',e',a',l',c',L',er,rfl,E7,S1,C0⟩;have U5:=(Xo0 HR).step C0 (Xe3 HR);have rc0:=U5.c0;have rc1:=U5.c1;have rc2:=U5.c2;have rf0:=U5.f0;have rf1:=U5.f1;have rf2:=U5.f2;have rd1:=U5.d1 (.bool n');have rd2:=U5.d2 (.bool n') (.int .i64 e');have HM:=Xh4 E7 S1 U5 (Below.next0 (Xo1 HR) C0);clear E7 S1 U5 C0)
 have hS:=(Xo2 HM).store (.bool n') (.int .i64 e') (.slice a' l' c');have k0:=hS.c0;have k1:=hS.c1;have k2:=hS.c2;have R4:=Q02.below (Xe3 HM) (show w.heap.size<=w.heap.size+1 by omega) (.bool n') (.int .i64 e') (.slice a' l' c');have K4:=(Xo1 HM);have E8:WordsIn _ a' l' c' L':=⟨K4.len,K4.cap,K4.most,K4.low,(K4.rd.store3 (Xo2 HM) (fun _=>by simp[nv]) (fun _=>by simp[nv]) (fun _=>by simp[nv]) (.bool n') (.int .i64 e') (.slice a' l' c')).more (Q18 _ _ _ _ _)⟩;exact ⟨rfl,.tuple #[.agg #[.bool n',.int .i64 e',.slice a' l' c'],.int .i64 er],by simp[results,go_sem,k0,k1,k2],n',e',a',l',c',L',er,rfl,Q7u (Xo0 HM),(K4.lower (Xo1 HR).size).on E8,R4⟩
theorem Qnb {v:Nat} (h:v<18446744073709551616):Q75 (dy (sgn false v) 0):=by
 by_cases h0:v=0
 ·subst h0;exact .inl rfl
 ·obtain ⟨z,hz⟩:=Qg2 h0;have hz64:z<64:=by
   refine Xag fun o6=>?_;have h3:2^64<=2^z:=UR (by decide) o6;have h5:=hz.1;rw[TX (Ue h h3)] at h5;exact h0 h5
  have hb:v / 2^z<(2^64)^64:=TO (Xbj _ _) (Ue h (show 2^64<=(2^64)^64 from Nat.le_self_pow (by decide) _));rw[<-Qt9 hz,Q7t hz.2];exact ⟨hb,by omega,by omega⟩
theorem Qa3 (v:Nat) (w:World) (hv:v<9223372036854775808) (hT:Q2n w):
 Calls Tryz.prog 20 #[.int .i64 (v:Int)] w fun r w'=>∃n' e' a' l' c' L,r=.returned (.agg #[.bool n',.int .i64 e',.slice a' l' c'])/\Q0i n' e' L/\Q28 n' e' L=dy (v:Int) 0/\Q2m w w' a' l' c' L/\Bw w w':=by
 have P6:¬(v:Int)<0:=by omega
 have QW:(v:Int)<18446744073709551616:=by omega
 have C4:∀o,Bw w (w.alloc o):=fun o=>Ba;have B2:(w.alloc (.cells #[.bool false,.int .i64 0,.slice none 0 0] 41)).heap.size=w.heap.size+1:=Uo _ _;have Kq:=Qbz (w.alloc (.cells #[.bool false,.int .i64 0,.slice none 0 0] 41)) v (by omega) 74;have D0:Below (w.alloc (.cells #[.bool false,.int .i64 0,.slice none 0 0] 41)).heap.size (w.alloc (.cells #[.bool false,.int .i64 0,.slice none 0 0] 41)) ((w.alloc (.cells #[.bool false,.int .i64 0,.slice none 0 0] 41)).alloc (.cells #[.int .u64 (v:Int)] 74)):=Ba;have hR:=(Q02.new w (.bool false) (.int .i64 0) (.slice none 0 0) 41).step D0 (Q0r _ _);have Z1:=Ue (Q0r w (.cells #[.bool false,.int .i64 0,.slice none 0 0] 41)) D0.size;have hB:=Below.next0 (C4 _) D0;rw[B2] at Kq;generalize hW:(w.alloc (.cells #[.bool false,.int .i64 0,.slice none 0 0] 41)).alloc (.cells #[.int .u64 (v:Int)] 74)=W at Kq hR hB Z1;have U3:=Q57 false (some ⟨w.heap.size+1,0,none⟩) 1 1 [v] 0 W Kq (hT.step hB) (by decide) (by decide) (by decide);have HR:=Xh4 hR hB U3 Z1;clear C4 B2 Kq D0 hR Z1 hB U3 hT
 go_enter Tryz.func20,Tryz.ntmps20
 go_wp2_with (refine (Xo2 HR).mono ?_;rintro r w1 ⟨n',e',a',l',c',L',er,rfl,E7,S1,C0⟩;have T4:Bw w1 (w1.alloc (.cells #[.bool n',.int .i64 e',.slice a' l' c'] 41)):=Ba;have hX:=Q02.new w1 (.bool n') (.int .i64 e') (.slice a' l' c') 41;have xc0:=hX.c0;have xc1:=hX.c1;have xc2:=hX.c2;have U5:=((Xo0 HR).step C0 (Xe3 HR)).step T4 (Ue (Xe3 HR) C0.size);have rc0:=U5.c0;have rc1:=U5.c1;have rc2:=U5.c2;have rf0:=U5.f0;have rf1:=U5.f1;have rf2:=U5.f2;have rd1:=U5.d1 (.bool n');have rd2:=U5.d2 (.bool n') (.int .i64 e');have HM:=Xh4 E7 (S1.on (S1.step T4)) U5 (Below.next0 (Below.next0 (Xo1 HR) C0) T4);clear E7 S1 U5 C0 T4 hX)
 have hS:=(Xo2 HM).store (.bool n') (.int .i64 e') (.slice a' l' c');have k0:=hS.c0;have k1:=hS.c1;have k2:=hS.c2;have R4:=Q02.below (Xe3 HM) (Ug w.heap.size) (.bool n') (.int .i64 e') (.slice a' l' c');have K4:=(Xo1 HM);have E8:WordsIn _ a' l' c' L':=⟨K4.len,K4.cap,K4.most,K4.low,(K4.rd.store3 (Xo2 HM) (fun _=>by simp[nv]) (fun _=>by simp[nv]) (fun _=>by simp[nv]) (.bool n') (.int .i64 e') (.slice a' l' c')).more (Q18 _ _ _ _ _)⟩;have d6:=Q7u (Xo0 HM);rw[Qf4] at d6;obtain ⟨_,_,JR,XR⟩|⟨D7,_⟩:=d6
 ·exact ⟨rfl,.agg #[.bool n',.int .i64 e',.slice a' l' c'],by simp[results,go_sem,k0,k1,k2],n',e',a',l',c',L',rfl,JR,XR,(K4.lower (Xo1 HR).size).on E8,R4⟩
 ·exact absurd (Qnb (by omega)) D7
end Go.Proofs.YtdilmfakkppgpaaGreatDoor
