/- Part 8 of the proof of LawParseBuilt: Flat, FlatU, RefM1, RefK, RefLeft. Condition: as each theorem says; none at the end. -/
import Derived.Sort.QuietTacIn
import Derived.RangeFuncCalls
import Derived.BigRegion
import Derived.Test.YtdilmfakkppgpaaGreatDoorPkParseBuilt07
set_option maxRecDepth 100000
set_option maxHeartbeats 16000000
namespace Go.Proofs.YtdilmfakkppgpaaGreatDoor
open Go Go.RowKit
section
variable {P:Program} {ops:Array Oper}
def Q0b (ops:Array Oper) (a:Act) (j:Nat):Value:=match (ops[j]?).bind (·.dst) with|some t=>a.tmps.getD t undef|none=>undef
def Q79 (ops:Array Oper) (a0 a:Act):Prop:=a.defers=a0.defers/\a.tmps.size=a0.tmps.size/\∀t,(∀o∈ops.toList,o.dst≠some t)->a.tmps[t]?=a0.tmps[t]?
def Q27 (o:Oper):LN:=(o.after.toList.filter (Region.binds .any)).map (·.on)
def Qgn (S:Nat->Oper->Prop):List Oper->Nat->Prop
 |[],_=>True
 |o::r,k=>S k o/\Qgn S r (k+1)
theorem Qgn.at_ {S:Nat->Oper->Prop} (l:List Oper):∀(k i:Nat) (o:Oper),Qgn S l k->l[i]?=some o->S (k+i) o:=by
 induction l with
 |nil=>intro k i o _ ho;simp at ho
 |cons x r ih=>
  intro k i o h ho;cases i with
  |zero=>
   simp only[UI,Un] at ho;subst ho;exact h.1
  |succ i=>
   have:=ih (k+1) i o h.2 (by simpa using ho);rwa[show k+1+i=k+(i+1) by omega] at this
theorem Qgn.imp {S S':Nat->Oper->Prop} (h:∀k o,S k o->S' k o):∀(l:List Oper) (k:Nat),Qgn S l k->Qgn S' l k
 |[],_,_=>trivial
 |_::r,k,⟨h1,h2⟩=>⟨h _ _ h1,Qgn.imp h r (k+1) h2⟩
def Q0s (vs:Nat->Value):List Oper->Nat->Act->Act
 |[],_,a=>a
 |o::r,k,a=>Q0s vs r (k+1) (a.put o.dst (vs k))
theorem Q3f (a:Act) (t:Tmp) (v:Value):(a.put (some t) v).tmps=a.tmps.setIfInBounds t v:=rfl
theorem Q44 (a:Act):∀(l:List Oper) (k:Nat) (vs:Nat->Value) (b:Act),(∀(j:Nat) o t,l[j]?=some o->o.dst=some t->t<a.tmps.size/\vs (k+j)=a.tmps.getD t undef)->
 b.defers=a.defers->b.tmps.size=a.tmps.size->(∀t,(∀o∈l,o.dst≠some t)->b.tmps[t]?=a.tmps[t]?)->Q0s vs l k b=a
 |[],_,_,b,_,hd,_,ht=>by
  obtain ⟨bt,bd⟩:=b;obtain ⟨at_,ad⟩:=a;simp only at hd ht;subst hd
  show (Act.mk bt bd)=_
  congr 1
  exact Array.ext_getElem? fun t=>ht t (by simp)
 |o::r,k,vs,b,hs,hd,hz,ht=>by
  have Vs:∀(j:Nat) o' t,r[j]?=some o'->o'.dst=some t->t<a.tmps.size/\vs (k+1+j)=a.tmps.getD t undef:=fun j o' t G9 p8=>by
   have:=hs (j+1) o' t (by simpa using G9) p8;rwa[show k+(j+1)=k+1+j by omega] at this
  cases hto:o.dst with
  |none=>
   have:Q0s vs (o::r) k b=Q0s vs r (k+1) b:=by
    show Q0s vs r (k+1) (b.put o.dst (vs k))=_
    rw[hto];rfl
   rw[this];refine Q44 a r (k+1) vs b Vs hd hz fun t' KX=>ht t' fun o' G9=>?_;rcases UF.1 G9 with rfl|h
   ·rw[hto];simp
   ·exact KX o' h
  |some t=>
   obtain ⟨Z5,hv⟩:=hs 0 o t rfl hto;refine Q44 a r (k+1) vs (b.put o.dst (vs k)) Vs ?_ ?_ fun t' KX=>?_
   ·rw[hto];exact hd
   ·rw[hto,Q3f,TR];exact hz
   ·rw[hto,Q3f,Tv]
    split
    ·next e=>
     subst e;rw[Us (by rw[hz];exact Z5)];have:vs k=a.tmps.getD t undef:=(by simpa using hv);rw[this,Up,UD Z5];rfl
    ·next e=>
     refine ht t' fun o' G9=>?_;rcases UF.1 G9 with rfl|h
     ·rw[hto];simpa using e
     ·exact KX o' h
def Q4b (ops:List Oper) (n:Nat):Bool:=ops.all (fun o=>match o.dst with|some t=>decide (t<n)|none=>true) && (ops.zipIdx.all fun p=>ops.zipIdx.all fun q=>p.2==q.2 || p.1.dst.isNone || !(p.1.dst==q.1.dst)) && (ops.zipIdx.all fun p=>p.1.after.toList.all fun e=>decide (e.on<p.2) || !Region.binds .any e) && ops.all fun o=>match o.op with| .defer _=>false|_=>true
theorem Q7r {l:List Oper} {n:Nat} (h:Q4b l n=true):(∀(i:Nat) o t,l[i]?=some o->o.dst=some t->t<n)/\(∀(i j:Nat) oi oj t,l[i]?=some oi->l[j]?=some oj->oi.dst=some t->oj.dst=some t->i=j)/\(∀(i:Nat) o,l[i]?=some o->∀e∈o.after.toList,Region.binds .any e=true->e.on<i)/\(∀(i:Nat) o,l[i]?=some o->∀c,o.op≠.defer c):=by
 unfold Q4b at h;simp only[Xa3] at h;obtain ⟨⟨⟨h1,h2⟩,h3⟩,h4⟩:=h;refine ⟨fun i o t ho hd=>?_,fun i j oi oj t hi hj hdi hdj=>?_,fun i o ho e he hb=>?_,fun i o ho c hc=>?_⟩
 ·have:=Tb.1 h1 o (Ud ho);rw[hd] at this;simpa using this
 ·have R9:(oi,i)∈l.zipIdx:=by rw[Tw];exact hi
  have Jn:(oj,j)∈l.zipIdx:=by rw[Tw];exact hj
  have:=Tb.1 (Tb.1 h2 _ R9) _ Jn;rw[hdi,hdj] at this;simpa using this
 ·have hm:(o,i)∈l.zipIdx:=by
   rw[Tw];exact ho
  have:=Tb.1 (Tb.1 h3 _ hm) e he;rw[hb] at this;simpa using this
 ·have:=Tb.1 h4 o (Ud ho);rw[hc] at this;cases this
theorem Q61:∀(l:List Bool) (i:Nat),l[i]?=some false->(l.set i true).count false+1=l.count false
 |b::r,0,h=>by
  simp only[UI,Un] at h;subst h;simp
 |b::r,i+1,h=>by
  have ih:=Q61 r i (by simpa using h);simp only[UJ,Xbl];omega
theorem Qao:∀(l:List Bool),l.count false=0->∀(i:Nat),i<l.length->l[i]?=some true:=by
 intro l h i hi;have C1:l[i]?=some l[i]:=Ub hi;cases hb:l[i] with
 |true=>rw[C1,hb]
 |false=>
  have:false∈l:=by rw[<-hb];exact List.getElem_mem hi
  rw[List.count_eq_zero] at h;exact absurd this h
def Q3q (D:Nat->Bool) (k:Nat):Nat->Bool:=fun j=>if j=k then true else D j
def Q3b (vs:Nat->Value) (k:Nat) (v:Value):Nat->Value:=fun j=>if j=k then v else vs j
theorem Q93 (D:Nat->Bool) (k:Nat):Q3q D k k=true:=Us rfl
abbrev Qpu:=(Nat->Bool)->(Nat->Value)->World->Prop
def Q2o (P:Program) (K:Value->World->Prop):Result Next->Prop
 | .ok (.value u) w'=>K u w'
 | .ok (.enter f args) w'=>Calls P f args w' fun e w''=>∃v,e=.returned v/\K v w''
 | .ok .skip w'=>K undef w'
 |_=>False
def Q94 (P:Program) (ops:Array Oper) (I:Qpu) (a0:Act) (k:Nat) (o:Oper):Prop:=
 ∀a w D,I D (Q0b ops a) w->Q79 ops a0 a->D k=false->(∀i∈Q27 o,D i=true)->(∀j oj,ops[j]?=some oj->D j=true->∀i∈Q27 oj,D i=true)->
  if Region.wanted o (yielded ops a.tmps) then Q2o P (fun u w'=>I (Q3q D k) (Q3b (Q0b ops a) k u) w') ((execOp a.eval o).run P w) else I (Q3q D k) (Q3b (Q0b ops a) k undef) w
variable {F:Fence} {n:Nat} {Q:Exit->Act->World->Prop}
structure Qf2 (ops:Array Oper) (I:Qpu) (a0:Act) (listed:Array Bool) (a:Act) (w:World):Prop where
 inv:I (fun j=>listed.getD j false) (Q0b ops a) w
 agree:Q79 ops a0 a
 size:listed.size=ops.size
 closed:∀j oj,ops[j]?=some oj->listed.getD j false=true->∀i∈Q27 oj,listed.getD i false=true
theorem Qf3 (YY:∀f,F.fn f) (hF2:F.depth=none) (hF3:∀m f args w R,Calls P f args w R->CallsIn F m P f args w R) (I:Qpu) (hN:∀(i:Nat) o,ops[i]?=some o->o.dst=none->∀D vs v w,vs i=undef->I D (Q3b vs i v) w->I D vs w) (a0:Act) (hB:Q4b ops.toList a0.tmps.size=true)
 (step:Qgn (Q94 P ops I a0) ops.toList 0) (fin:∀D vs w,(∀j,j<ops.size->D j=true)->I D vs w->Q .normal (Q0s vs ops.toList 0 a0) w):
 ∀(fuel:Nat) (listed:Array Bool) (a:Act) (w:World),listed.toList.count false<=fuel->Qf2 ops I a0 listed a w->wpAnyIn F n P .any ops Q fuel listed a w:=by
 obtain ⟨K2,M2,JG,hd4⟩:=Q7r hB;have done:∀(listed:Array Bool) (a:Act) (w:World),(∀j,j<ops.size->listed.getD j false=true)->Qf2 ops I a0 listed a w->Q .normal a w:=by
  intro listed a w P0 inv;have:=fin _ (Q0b ops a) w P0 inv.inv;rwa[Q44 a ops.toList 0 (Q0b ops a) a0 (fun j o t ho h1=>?_) inv.agree.1.symm inv.agree.2.1.symm (fun t ht=>(inv.agree.2.2 t ht).symm)] at this;refine ⟨by rw[inv.agree.2.1];exact K2 j o t ho h1,?_⟩;have G9:ops[j]?=some o:=by rw[<-UW];exact ho
  unfold Q0b;rw[UB,G9];simp[h1]
 have none_ready:∀(listed:Array Bool),listed.size=ops.size->Region.ready .any ops listed=[]->∀j,j<ops.size->listed.getD j false=true:=by
  intro listed hz hr j
  induction j using Nat.strongRecOn with
  |ind j ih=>
   intro hj;cases hb:listed.getD j false with
   |true=>rfl
   |false=>
    exfalso;have Kb:j<listed.size:=(by omega);have J5:listed.getD j true=false:=by
     rw[Up,UD Kb] at hb⊢;exact hb
    have ho:ops[j]?=some ops[j]:=UD hj;have:j∈Region.ready .any ops listed:=mem_ready.2 ⟨J5,ops[j],ho,fun e he D0=>?_⟩
    ·rw[hr] at this;cases this
    ·have B0:=JG j ops[j] (by rw[UW];exact ho) e (by simpa using he) D0;exact ih e.on B0 (by omega)
 intro fuel
 induction fuel with
 |zero=>
  intro listed a w hc inv;have P0:∀j,j<ops.size->listed.getD j false=true:=fun j hj=>by
   have:=Qao listed.toList (by omega) j (by rw[Xbc,inv.size];exact hj);rw[UW] at this;rw[Up,this];rfl
  refine ⟨?_,done listed a w P0 inv⟩;refine List.eq_nil_iff_forall_not_mem.2 fun i hi=>?_;obtain ⟨h1,o,ho,_⟩:=mem_ready.1 hi;have Wk:i<ops.size:=(Uv.1 ho).1;have h2:=P0 i Wk;have QR:i<listed.size:=by rw[inv.size];exact Wk
  rw[Up,UD QR] at h1 h2;rw[TY] at h1 h2;rw[h1] at h2;cases h2
 |succ fuel ih=>
  intro listed a w hc inv;refine ⟨fun hr=>done listed a w (none_ready listed inv.size hr) inv,fun i hi=>?_⟩;obtain ⟨h1,o,ho,A0⟩:=mem_ready.1 hi;have Wk:i<ops.size:=(Uv.1 ho).1;have QR:i<listed.size:=by rw[inv.size];exact Wk
  have VC:ops.toList[i]?=some o:=by rw[UW];exact ho
  have hif:listed.getD i false=false:=by
   rw[Up,UD QR] at h1⊢;exact h1
  have A8:∀j∈Q27 o,listed.getD j false=true:=fun j hj=>by
   obtain ⟨e,he,rfl⟩:=Tm.1 hj;obtain ⟨he,hb⟩:=List.mem_filter.1 he;exact A0 e (by simpa using he) hb
  have Z0:=Qgn.at_ _ _ _ _ step VC;rw[UB] at Z0;have X0:=Z0 a w (fun j=>listed.getD j false) inv.inv inv.agree hif A8 inv.closed;have hlf:listed.toList[i]?=some false:=by
   rw[UW,UD QR];rw[Up,UD QR,TY] at h1;rw[h1]
  have Qm:(listed.setIfInBounds i true).toList.count false<=fuel:=by
   rw[Xal];have:=Q61 listed.toList i hlf;omega
  have hset:(fun j=>(listed.setIfInBounds i true).getD j false)=Q3q (fun j=>listed.getD j false) i:=by
   funext j
   unfold Q3q;rw[Up,Tv]
   by_cases R6:j=i
   ·subst R6;rw[Us rfl,Us QR,Us rfl];rfl
   ·rw[Uq (fun e=>R6 e.symm),Uq R6,<-Up]
  have Xi:∀j oj,ops[j]?=some oj->(listed.setIfInBounds i true).getD j false=true->∀k∈Q27 oj,(listed.setIfInBounds i true).getD k false=true:=by
   intro j oj Xr hj k hk;have e1:(listed.setIfInBounds i true).getD j false=Q3q (fun j=>listed.getD j false) i j:=congrFun hset j;have e2:(listed.setIfInBounds i true).getD k false=Q3q (fun j=>listed.getD j false) i k:=congrFun hset k;rw[e1] at hj;rw[e2];unfold Q3q at*
   by_cases hki:k=i
   ·rw[Us hki]
   ·rw[Uq hki]
    by_cases R6:j=i
    ·subst R6;rw[ho] at Xr;injection Xr with Xr;subst Xr;exact A8 k hk
    ·rw[Uq R6] at hj;exact inv.closed j oj Xr hj k hk
  have next:∀v w',I (Q3q (fun j=>listed.getD j false) i) (Q3b (Q0b ops a) i v) w'->wpAnyIn F n P .any ops Q fuel (listed.setIfInBounds i true) (a.put o.dst v) w':=by
   intro v w' hv;rw[<-hset] at hv;cases hto:o.dst with
   |none=>exact ih _ _ _ Qm ⟨hN i o ho hto _ _ _ _ (by unfold Q0b;rw[ho,TZ,hto]) hv,inv.agree,by rw[TR];exact inv.size,Xi⟩
   |some t=>
    have Z5:=K2 i o t VC hto;refine ih _ _ _ Qm ⟨?_,?_,by rw[TR];exact inv.size,Xi⟩
    ·have KT:Q0b ops (a.put (some t) v)=Q3b (Q0b ops a) i v:=by
      funext j
      unfold Q3b
      by_cases R6:j=i
      ·subst R6;rw[Us rfl];unfold Q0b;rw[ho,TZ,hto]
       show (a.put (some t) v).tmps.getD t undef=v
       rw[Q3f,Up,Tv,Us rfl,Us (by rw[inv.agree.2.1];exact Z5)];rfl
      ·rw[Uq R6];unfold Q0b;cases Xr:ops[j]? with
       |none=>rfl
       |some oj=>
        rw[TZ];cases hdj:oj.dst with
        |none=>rfl
        |some t2=>
         show (a.put (some t) v).tmps.getD t2 undef=a.tmps.getD t2 undef
         rw[Q3f,Up,Tv,Uq ?_,<-Up];intro e;exact R6 (M2 j i oj o t2 (by rw[UW];exact Xr) VC hdj (by rw[hto,e]))
     rw[KT];exact hv
    ·refine ⟨inv.agree.1,by rw[Q3f,TR];exact inv.agree.2.1,fun t' KX=>?_⟩;rw[Q3f,Tv,Uq ?_]
     ·exact inv.agree.2.2 t' KX
     ·intro e;exact KX o (Ud VC) (by rw[hto,e])
  unfold wpOpIn;simp only[ho]
  split
  ·next hw=>
   rw[Us hw] at X0;unfold Oper.wpIn;refine ⟨fun f _=>YY f,?_⟩;have hsem:o.semAt F.round a.eval=execOp a.eval o:=by
    cases hr:F.round with
    |none=>rw[Oper.semAt_none]
    |some l=>exact Oper.semAt_some l _ o (hd4 i o VC)
   rw[hsem];generalize (execOp a.eval o).run P w=res at X0;cases res with
   |ok x w'=>
    cases x with
    |value u=>exact next u w' X0
    |enter f args=>
     refine ⟨(fun h=>by rw[hF2] at h;cases h),hF3 _ _ _ _ _ (Xba X0 ?_)⟩;rintro e w'' ⟨v,rfl,hv⟩;exact next v w'' hv
    |skip=>
     exact next undef w' X0
    |_=>exact X0.elim
   |halt x w'=>exact X0.elim
  ·next hw=>
   rw[Uq hw] at X0;exact ⟨fun f _=>YY f,next undef w X0⟩
theorem Qn5 {l:List Oper} {a0:Act} {I:Qpu} {w:World} (h0:I (fun _=>false) (Q0b l.toArray a0) w):Qf2 l.toArray I a0 (Array.replicate l.toArray.size false) a0 w:=
 ⟨by
   have hf:(fun j=>(Array.replicate l.toArray.size false).getD j false)=fun _=>false:=by
    funext j
    rw[Up,Array.getElem?_replicate]
    split <;> rfl
   rw[hf];exact h0,⟨rfl,rfl,fun _ _=>rfl⟩,by simp,fun j oj _ hj=>by
   rw[Up,Array.getElem?_replicate] at hj
   split at hj <;> cases hj⟩
theorem Q5a {id:Nat} {l:List Oper} {a0:Act} {w:World} (hm:P.follows .mixedOrders=true) (I:Qpu) (hN:∀(i:Nat) o,l[i]?=some o->o.dst=none->∀D vs v w,vs i=undef->I D (Q3b vs i v) w->I D vs w) (hB:Q4b l a0.tmps.size=true) (h0:I (fun _=>false) (Q0b l.toArray a0) w.drew)
 (step:Qgn (Q94 P l.toArray I a0) l 0) (fin:∀D vs w,(∀j,j<l.length->D j=true)->I D vs w->Q .normal (Q0s vs l 0 a0) w):(Code.region id l.toArray true).wp P Q a0 w:=
 (wpIn_wide (n:=6)).1 (wpIn_region_any hm (Qf3 (fun _=>trivial) rfl (fun m _ _ _ _ h=>callsIn_wide.2 h) I (by simpa using hN) a0 hB (by simpa using step) (by simpa using fin) _ _ _ _ (by simp) (Qn5 h0)))
def Q0v (P:Program) (E:World->World->Prop) (V:Value->World->Prop) (w:World):Result Next->Prop
 | .ok (.value u) w'=>E w w'/\V u w'
 | .ok (.enter f args) w'=>Calls P f args w' fun e w''=>∃v,e=.returned v/\E w w''/\V v w''
 | .ok .skip w'=>E w w'/\V undef w'
 |_=>False
def Q3r (P:Program) (E:World->World->Prop) (ops:Array Oper) (C:World->Prop) (V:Nat->Value->World->Prop) (a0:Act) (k:Nat) (o:Oper):Prop:=
 ∀a w,C w->Q79 ops a0 a->(∀i∈Q27 o,V i (Q0b ops a i) w)->
  if Region.wanted o (yielded ops a.tmps) then Q0v P E (V k) w ((execOp a.eval o).run P w) else V k undef w
def Q1r (P:Program) (E:World->World->Prop) (ops:Array Oper) (C:World->Prop) (V:Nat->Value->World->Prop) (a0:Act):List Oper->Nat->Prop:=Qgn (Q3r P E ops C V a0)
theorem Q1r.at_ {E:World->World->Prop} {C:World->Prop} {V:Nat->Value->World->Prop} {a0:Act} (l:List Oper) (k i:Nat) (o:Oper) (h:Q1r P E ops C V a0 l k) (ho:l[i]?=some o):Q3r P E ops C V a0 (k+i) o:=Qgn.at_ l k i o h ho
def Qvd (C:World->Prop) (V:Nat->Value->World->Prop):Qpu:=fun D vs w=>C w/\∀j,D j=true->V j (vs j) w
theorem Q7g {E:World->World->Prop} {C:World->Prop} (hC:∀w w',C w->E w w'->C w') {V:Nat->Value->World->Prop} (hV:∀i v w w',V i v w->E w w'->V i v w') {D:Nat->Bool} {vs:Nat->Value} {w w':World} {k:Nat} {u:Value} (h:Qvd C V D vs w) (hE:E w w') (hu:V k u w'):Qvd C V (Q3q D k) (Q3b vs k u) w':=by
 refine ⟨hC _ _ h.1 hE,fun j hj=>?_⟩;unfold Q3q at hj;unfold Q3b
 split at hj
 ·next e=>rw[Us e,e];exact hu
 ·next e=>rw[Uq e];exact hV _ _ _ _ (h.2 j hj) hE
theorem Qpv {C:World->Prop} {V:Nat->Value->World->Prop} {i:Nat} (hN:∀v w,V i v w->V i undef w) (D:Nat->Bool) (vs:Nat->Value) (v:Value) (w:World) (hu:vs i=undef) (h:Qvd C V D (Q3b vs i v) w):Qvd C V D vs w:=by
 refine ⟨h.1,fun j hj=>?_⟩;have h1:=h.2 j hj;unfold Q3b at h1
 split at h1
 ·next e=>subst e;rw[hu];exact hN _ _ h1
 ·exact h1
theorem Qvw {E:World->World->Prop} (hE:∀w,E w w) {C:World->Prop} (hC:∀w w',C w->E w w'->C w') {V:Nat->Value->World->Prop} (hV:∀i v w w',V i v w->E w w'->V i v w') {a0:Act} (k:Nat) (o:Oper) (h:Q3r P E ops C V a0 k o):Q94 P ops (Qvd C V) a0 k o:=by
 intro a w D hI F0 _ A0 _;have h1:=h a w hI.1 F0 fun i hi=>hI.2 i (A0 i hi)
 split at h1
 ·next hw=>
  rw[Us hw];generalize (execOp a.eval o).run P w=res at h1;unfold Q0v at h1;unfold Q2o
  split at h1
  ·exact Q7g hC hV hI h1.1 h1.2
  ·exact Xba h1 fun e w2 ⟨v,e1,e2,e3⟩=>⟨v,e1,Q7g hC hV hI e2 e3⟩
  ·exact Q7g hC hV hI h1.1 h1.2
  ·exact h1.elim
 ·next hw=>
  rw[Uq hw];exact Q7g hC hV hI (hE w) h1
theorem Q0c {E:World->World->Prop} (hE:∀w,E w w) {id:Nat} {l:List Oper} {a0:Act} {w:World} (hm:P.follows .mixedOrders=true) (C:World->Prop) (hC:∀w w',C w->E w w'->C w') (V:Nat->Value->World->Prop) (hV:∀i v w w',V i v w->E w w'->V i v w') (hN:∀(i:Nat) o,l[i]?=some o->o.dst=none->∀v w,V i v w->V i undef w) (hB:Q4b l a0.tmps.size=true) (h0:C w.drew)
 (step:Q1r P E l.toArray C V a0 l 0) (fin:∀vs w,C w->(∀j,j<l.length->V j (vs j) w)->Q .normal (Q0s vs l 0 a0) w):(Code.region id l.toArray true).wp P Q a0 w:=
 Q5a hm (Qvd C V) (fun i o hi hd=>Qpv (hN i o hi hd)) hB ⟨h0,fun _ h=>by cases h⟩ (Qgn.imp (Qvw hE hC hV) l 0 step) fun _ vs w hD h=>fin vs w h.1 fun j hj=>h.2 j (hD j hj)
def Q6v (P:Program) (V:Value->World->Prop) (w:World):Result Next->Prop
 | .ok (.value u) w'=>Bw w w'/\V u w'
 | .ok (.enter f args) w'=>Calls P f args w' fun e w''=>∃v,e=.returned v/\Bw w w''/\V v w''
 |_=>False
def Qpw (ops:List Oper) (n:Nat):Bool:=Q4b ops n && ops.all fun o=>o.dst.isSome
theorem Qpx {l:List Oper} {n:Nat} (h:Qpw l n=true):Q4b l n=true:=by unfold Qpw at h;exact (Bool.and_eq_true_iff.1 h).1
theorem Qn6 {l:List Oper} {n:Nat} (h:Qpw l n=true) {i:Nat} {o:Oper} (hi:l[i]?=some o):o.dst≠none:=by
 unfold Qpw at h;have h1:=Tb.1 (Bool.and_eq_true_iff.1 h).2 o (Ud hi);intro e;rw[e] at h1;cases h1
theorem Q1f {a:Act} {t:Tmp} {v:Value} (h:a.eval (.tmp t)=v):a.tmps[t]?.getD undef=v:=by
 have h':a.tmps.getD t undef=v:=h;rwa[Up] at h'
theorem Qgo {o:Oper} {a:Act} {j:Nat} {b c:Bool} {t:Tmp} (hg:o.guard=some (j,b)) (ht:(ops[j]?).bind (·.dst)=some t) (he:a.eval (.tmp t)=.bool c):Region.wanted o (yielded ops a.tmps)=(c==b):=by
 have hy:yielded ops a.tmps j=some c:=by
  unfold yielded;rw[ht,TZ];have QA:a.tmps.getD t undef=.bool c:=he;rw[Up] at QA;cases hx:a.tmps[t]? with
  |none=>rw[hx] at QA;cases QA
  |some v=>rw[hx] at QA;have h2:v=.bool c:=QA;rw[h2]
 unfold Region.wanted;rw[hg]
 show (yielded ops a.tmps j==some b)=_
 rw[hy];rfl
theorem Qgp {o:Oper} {a:Act} (hg:o.guard=none):Region.wanted o (yielded ops a.tmps)=true:=by unfold Region.wanted;rw[hg]
theorem Q4l {o:Oper} {a:Act} {w:World} {V:Value->World->Prop} (hg:o.guard=none) (h:Q6v P V w ((execOp a.eval o).run P w)):
 if Region.wanted o (yielded ops a.tmps) then Q6v P V w ((execOp a.eval o).run P w) else V undef w:=by
 rw[Us (Qgp hg)];exact h
theorem Qlk {E:World->World->Prop} {o:Oper} {a:Act} {w:World} {V:Value->World->Prop} {j:Nat} {b:Bool} {t:Tmp} (hg:o.guard=some (j,b)) (ht:(ops[j]?).bind (·.dst)=some t) (he:a.eval (.tmp t)=.bool b) (h:Q0v P E V w ((execOp a.eval o).run P w)):
 if Region.wanted o (yielded ops a.tmps) then Q0v P E V w ((execOp a.eval o).run P w) else V undef w:=by
 rw[Us (by rw[Qgo hg ht he];simp)];exact h
theorem Qgq {E:World->World->Prop} {o:Oper} {a:Act} {w:World} {V:Value->World->Prop} {j:Nat} {b:Bool} {t:Tmp} (hg:o.guard=some (j,b)) (ht:(ops[j]?).bind (·.dst)=some t) (he:a.eval (.tmp t)=.bool (!b)) (h:V undef w):
 if Region.wanted o (yielded ops a.tmps) then Q0v P E V w ((execOp a.eval o).run P w) else V undef w:=by
 rw[Uq (by rw[Qgo hg ht he];cases b <;> simp)];exact h
theorem Q04 {E:World->World->Prop} {o:Oper} {a:Act} {w:World} {V:Value->World->Prop} (hg:o.guard=none) (h:Q0v P E V w ((execOp a.eval o).run P w)):
 if Region.wanted o (yielded ops a.tmps) then Q0v P E V w ((execOp a.eval o).run P w) else V undef w:=by
 rw[Us (Qgp hg)];exact h
theorem Q6w {V:Value->World->Prop} {w:World} {u:Value} {res:Result Next} (hr:res=.ok (.value u) w) (h:V u w):Q6v P V w res:=by
 rw[hr];exact ⟨Uf _ _,h⟩
theorem Qbx {V:Value->World->Prop} {w:World} {f:FuncId} {args:Array Value} {res:Result Next} (hr:res=.ok (.enter f args) w) (h:Calls P f args w fun e w''=>∃v,e=.returned v/\Bw w w''/\V v w''):Q6v P V w res:=by
 rw[hr];exact h
def Q3x (cs:LV) (L:Nat->Option (Value->World->Prop)) (i:Nat) (v:Value) (w:World):Prop:=match L i with|some φ=>φ v w|none=>v=cs.getD i undef
theorem Q09 {cs:LV} {L:Nat->Option (Value->World->Prop)} {i:Nat} {v:Value} {w:World} (h:L i=none):Q3x cs L i v w↔v=cs.getD i undef:=by unfold Q3x;rw[h]
theorem Q00 {cs:LV} {L:Nat->Option (Value->World->Prop)} {i:Nat} {φ:Value->World->Prop} {v:Value} {w:World} (h:L i=some φ):Q3x cs L i v w↔φ v w:=by unfold Q3x;rw[h]
theorem Qpy {cs:LV} {L:Nat->Option (Value->World->Prop)} (h:∀i φ,L i=some φ->∀v w w',φ v w->Bw w w'->φ v w') (i:Nat) (v:Value) (w w':World) (hv:Q3x cs L i v w) (hb:Bw w w'):Q3x cs L i v w':=by
 unfold Q3x at*;cases hl:L i with
 |none=>rw[hl] at hv;exact hv
 |some φ=>rw[hl] at hv;exact h i φ hl v w w' hv hb
theorem Q79.keep {a0 a:Act} (h:Q79 ops a0 a) {t:Tmp} {v:Value} (ht:(ops.toList.all fun o=> !(o.dst==some t))=true) (hv:a0.tmps.getD t undef=v):a.eval (.tmp t)=v:=by
 show a.tmps.getD t undef=v
 rw[Up,h.2.2 t ?_,<-Up,hv];intro o ho e;have:=Tb.1 ht o ho;rw[e] at this;simp at this
end
section
variable {P:Program} {ops:Array Oper}
def Qpz (P:Program) (ops:Array Oper) (C:World->Prop) (V:Nat->Value->World->Prop) (a0:Act) (k:Nat) (o:Oper):Prop:=
 ∀a w (und:Nat->Prop),C w->Q79 ops a0 a->(∀i∈Q27 o,V i (Q0b ops a i) w)->und k->(∀(j:Nat) o,ops[j]?=some o->(∃d∈Q27 o,und d)->und j)->(∀(j:Nat) o t,ops[j]?=some o->und j->o.dst=some t->a.tmps[t]?=a0.tmps[t]?)->
  if Region.wanted o (yielded ops a.tmps) then Q6v P (V k) w ((execOp a.eval o).run P w) else V k undef w
def Qt7 (P:Program) (ops:Array Oper) (C:World->Prop) (V:Nat->Value->World->Prop) (a0:Act):List Oper->Nat->Prop:=Qgn (Qpz P ops C V a0)
variable {Q:Exit->Act->World->Prop}
theorem Qby {id:Nat} {l:List Oper} {a0:Act} {w:World} (hm:P.follows .mixedOrders=true) (C:World->Prop) (hC:∀w w',C w->Bw w w'->C w') (V:Nat->Value->World->Prop) (hV:∀i v w w',V i v w->Bw w w'->V i v w') (hB:Qpw l a0.tmps.size=true) (h0:C w.drew)
 (step:Qt7 P l.toArray C V a0 l 0) (fin:∀vs w,C w->(∀j,j<l.length->V j (vs j) w)->Q .normal (Q0s vs l 0 a0) w):(Code.region id l.toArray true).wp P Q a0 w:=
 Q5a hm (fun D vs w=>Qvd C V D vs w/\∀j,D j=false->vs j=Q0b l.toArray a0 j) (fun i o hi hd=>absurd hd (Qn6 hB hi)) (Qpx hB) ⟨⟨h0,fun _ h=>by cases h⟩,fun _ _=>rfl⟩
  (Qgn.imp (fun k o h a w D hI F0 hk A0 O3=>by
    have hupd:∀{u:Value} {w':World},Bw w w'->V k u w'->Qvd C V (Q3q D k) (Q3b (Q0b l.toArray a) k u) w'/\∀j,Q3q D k j=false->Q3b (Q0b l.toArray a) k u j=Q0b l.toArray a0 j:=fun hb hu=>by
     refine ⟨Q7g (E:=fun w w'=>Bw w w') hC hV hI.1 hb hu,fun j hj=>?_⟩;unfold Q3q at hj;unfold Q3b
     split at hj
     ·cases hj
     ·next e=>rw[Uq e];exact hI.2 j hj
    have h1:=h a w (fun j=>D j=false) hI.1.1 F0 (fun i hi=>hI.1.2 i (A0 i hi)) hk (fun j oj hj hd=>by
     obtain ⟨d,K2,M2⟩:=hd;cases hb:D j with
     |false=>rfl
     |true=>have:=O3 j oj hj hb d K2;rw[M2] at this;cases this) (fun j oj t hj hd ht=>by
     have h2:=hI.2 j hd;unfold Q0b at h2;rw[hj,TZ,ht] at h2;simp only at h2;have B0:=(Q7r (Qpx hB)).1 j oj t (by simpa using hj) ht;have E0:t<a.tmps.size:=(by rw[F0.2.1];exact B0);rw[Up,Up,UD B0,UD E0,TY,TY] at h2;rw[UD B0,UD E0,h2])
    split at h1
    ·next hw=>
     rw[Us hw];generalize (execOp a.eval o).run P w=res at h1;unfold Q6v at h1;unfold Q2o
     split at h1
     ·exact hupd h1.1 h1.2
     ·exact Xba h1 fun e w2 ⟨v,e1,e2,e3⟩=>⟨v,e1,hupd e2 e3⟩
     ·exact h1.elim
    ·next hw=>
     rw[Uq hw];exact hupd (Uf _ _) h1) l 0 step) fun _ vs w hD h=>fin vs w h.1.1 fun j hj=>h.1.2 j (hD j hj)
theorem Qds {V:Value->World->Prop} {w w':World} {u:Value} {res:Result Next} (hr:res=.ok (.value u) w') (hb:Bw w w') (h:V u w'):Q6v P V w res:=by
 rw[hr];exact ⟨hb,h⟩
end
end Go.Proofs.YtdilmfakkppgpaaGreatDoor
namespace Go.Proofs.YtdilmfakkppgpaaGreatDoor
open Go.RowKit WordsM DecM
theorem Qq0 (w:World) (m:Nat) (T:TypeId):RdI .u32 (w.alloc (.cells #[.int .u32 (m:Int)] T)) (w.alloc (.cells #[.int .u32 (m:Int)] T)).heap.size (some ⟨w.heap.size,0,none⟩) [m]:=
 .inr ⟨w.heap.size,0,rfl,Q0r _ _,fun j x hx=>by
  cases j with
  |zero=>simp only[UI,Un] at hx;subst hx;rw[Ux _ _ _ _ _ _ (Ul _ _)];rfl
  |succ j=>simp at hx⟩
theorem Qf4 (B m:Nat):val B [m]=m:=by simp[val]
theorem Qvx (w:World) (T:TypeId):Q0n (w.alloc (.cells #[.int .u32 10] T)) (some ⟨w.heap.size,0,none⟩) 1 1 10:=
 ⟨by decide,Ug _,by omega,by
   have h:dig (2^32) 10=[10]:=(by rw[Q3e (by decide) (by decide)];rfl);rw[h];exact Qq0 w 10 T⟩
def VD (v:Nat) (x:Value) (w:World):Prop:=∃a n c,x=.slice a n c/\Q0n w a n c v
theorem VD.step {v:Nat} {x:Value} {w w':World} (h:VD v x w) (hb:Bw w w'):VD v x w':=by
 obtain ⟨a,n,c,rfl,hd⟩:=h;exact ⟨a,n,c,rfl,hd.step hb⟩
def VR (m:Nat) (x:Value) (w:World):Prop:=∃g,x=.slice (some ⟨g,0,none⟩) 1 1/\RdI .u32 w w.heap.size (some ⟨g,0,none⟩) [m]
theorem VR.step {v:Nat} {x:Value} {w w':World} (h:VR v x w) (hb:Bw w w'):VR v x w':=by
 obtain ⟨g,rfl,hd⟩:=h;exact ⟨g,rfl,hd.step hb⟩
def Qvy (v q:Nat):Nat->Option (Value->World->Prop)
 |1=>some (VD 10)
 |2=>some (VD (v*10))
 |8=>some (VR q)
 |9=>some (VD q)
 |10=>some (VD (v*10+q))
 |11=>some (VD (v*10+q))
 |_=>none
theorem Qn7 (v q:Nat):∀i φ,Qvy v q i=some φ->∀x w w',φ x w->Bw w w'->φ x w':=by
 intro i φ h x w w' hx hb;unfold Qvy at h
 split at h <;> first|(injection h with h;subst h;first|exact VD.step hx hb|exact VR.step hx hb)|cases h
theorem Q2y {P:Program} {ops:Array Oper} {o:Oper} {a:Act} {w:World} {K:Act->World->Prop} {Q:Exit->Act->World->Prop} {E:Prop} (J9:o.guard=none) (f:FuncId) (args:Array Value)
 (I1:(execOp a.eval o).run P w=.ok (.enter f args) w) (h:Calls P f args w fun e w'=>∃v,e=.returned v/\K (a.put o.dst v) w'):if Region.wanted o (yielded ops a.tmps)=true then Oper.wp P o a w K Q else E:=by
 rw[Us (by simp[Region.wanted,J9])];unfold Oper.wp;rw[I1,Oper.upon_enter];exact h.mono (by rintro e w' ⟨v,rfl,hk⟩;exact hk)
theorem Q6x {B:Nat} {w W:World} (h:Below B w W):Below B w W.drew:=⟨h.os,h.tape,h.output,h.size,h.block⟩
theorem Qf5 {w W:World} (h:Bw w W) (o:Obj):Bw w (W.alloc o):=h.alloc h.size o
theorem Q6y {v k:Nat} (h:v<10^k):(dig (2^32) v).length<=k:=Q2h (by decide) (Ue h (Xbb (by decide) k))
theorem Qjw (a:OA) (q:Nat) (w:World) (hq:q<=9) (h:RdI .u32 w w.heap.size a [q]):
 Calls Tryz.prog 103 #[.slice a 1 1] w fun e w'=>∃n',e=.returned (.slice a n' n')/\n'<=1/\Q0n w' a n' n' q/\w=w':=by
 have h1:=Q40 a 1 1 [q] w rfl (Ug _) (by omega) h (fun x hx=>by rw[Uy] at hx;subst hx;show x<4294967296;omega);rwa[Qf4] at h1
theorem Q65 (a:OA) (n c v:Nat) (w:World) (h:Q0n w a n c v) (hn:n<=1000000):
 Calls Tryz.prog 119 #[.slice a n c] w fun e w'=>e=.returned (sv (dec v))/\Bw w w':=by
 have h1:=Qn0 a n c (dig (2^32) v) w h.len hn h.cap h.most h.rd.rdN (show NatM.small (dig (2^32) v) from Q2c (B:=2^32) (by decide) v);rwa[Qpg,Q0x (by decide)] at h1
theorem Qbz (w:World) (m:Nat) (hm:m<18446744073709551616) (T:TypeId):WordsIn (w.alloc (.cells #[.int .u64 (m:Int)] T)) (some ⟨w.heap.size,0,none⟩) 1 1 [m]:=
 ⟨rfl,Ug _,by omega,fun x hx=>by rw[Uy] at hx;subst hx;exact hm,.inr ⟨w.heap.size,0,rfl,Q0r _ _,fun j x hx=>by
   cases j with
   |zero=>simp only[UI,Un] at hx;subst hx;rw[Ux _ _ _ _ _ _ (Ul _ _)];rfl
   |succ j=>simp at hx⟩⟩
def Q1a (neg:Bool) (exp:Int) (ls:LN):LU:=if Q0i neg exp ls then Q2s neg (val (2^64) ls) exp else []
theorem Q0i.exp {neg:Bool} {exp:Int} {ls:LN} (h:Q0i neg exp ls): -65536<=exp/\exp<=65536/\ls.length<=64:=by
 unfold Q0i at h
 split at h
 ·rename_i h0;rw[h0,h.2];simp
 ·exact ⟨h.2.2.2.1,h.2.2.2.2,h.2.1⟩
theorem Qgr {w:World} {a:OA} {n c:Nat} {ls:LN} (h:WordsIn w a n c ls) (hn:n<=64):(dec (val (2^64) ls)).length<=1281:=by
 have h1:=NatM.dec_val_len (NatM.halves_small h.low);rw[Qdq,NatM.halves_len,h.len] at h1;exact Ur h1 (by omega)
theorem Qc0 (neg:Bool) (exp:Int) (a:OA) (n c:Nat) (ls:LN) (w:World) (h:WordsIn w a n c ls) (he: -9223372036854775808<=exp) (V6:exp<=9223372036854775807):
 Calls Tryz.prog 74 #[.agg #[.bool neg,.int .i64 exp,.slice a n c]] w fun e w'=>e=.returned (sv (Q1a neg exp ls))/\Bw w w':=by
 have E4:=Ur h.cap h.most;have F2:Bw w (w.alloc (.cells #[.bool neg,.int .i64 exp,.slice a n c] 41)):=Ba;have hN:=Q02.new w (.bool neg) (.int .i64 exp) (.slice a n c) 41;have A3:=Q0r w (.cells #[.bool neg,.int .i64 exp,.slice a n c] 41);have hr:=Q5q neg exp a n c ls _ (h.step F2) he V6 E4
 by_cases X1:Q0i neg exp ls
 ·have r7:Q1a neg exp ls=Q2s neg (val (2^64) ls) exp:=Us X1;rw[r7];have X5:=X1.exp;have Ye:n<=64:=by rw[<-h.len];exact X5.2.2
  rw[UU X1] at hr;have hp:=fun W (hb:Bw w W)=>Q58 a n c ls W (h.step hb) (by omega);have Vu:=Qgr h Ye;generalize val (2^64) ls=v at*;have HR:=Xh4 hr hp hN F2;clear hr hp r7 X1 h hN F2
  by_cases h0:exp=0
  ·subst h0;cases neg
   all_goals
    go_enter Tryz.func74,Tryz.ntmps74
    go_wp2_with (first
     |(go_at_call_of 56 a;refine ((Xo1 HR) _ K0.out).mono ?_;rintro e w2 ⟨a2,n2,c2,rfl,R5,hD,D0⟩;have B1:=Xh3 hD D0 R5;clear D0 hD R5)
     |(go_at_call_of 119 a2;refine (Q65 a2 n2 c2 v _ (Xo0 B1) (by have:=(Xe2 B1);omega)).mono ?_;rintro e w3 ⟨rfl,G0⟩;have C2:=Below.next0 (Below.next0 QP.out (Xo1 B1)) G0;have hQ:=(Xo2 HR).step C2 A3;have U9:=hQ.c0;have B7:=hQ.c1;have D2:=Ua C2;clear G0 C2 hQ)
     |(refine (Xo0 HR).mono ?_;rintro e w1 ⟨rfl,C0⟩;have hQ:=(Xo2 HR).step C0 A3;have Y6:=hQ.c2;have K0:=Ua (Below.next0 (Xe3 HR) C0);have QP:=Ua C0;clear C0 hQ))
    go_ret;refine ⟨?_,Below.next0 (Xe3 HR) D2.out⟩;refine congrArg Ending.returned (congrArg Value.string (ByteArray.ext ?_));simp[TS,Q2s,Qa1]
  ·obtain ⟨m,hm⟩:∃m:Nat,exp.natAbs=m:=⟨_,rfl⟩;have O7:0<m:=(by omega);have C8:m<=65536:=(by omega);have ZD:=dec_len 5 m (by omega) (by decide)
   by_cases P6:exp<0
   ·obtain rfl:exp= -(m:Int):=(by omega);have hm0':m≠0:=(by omega);clear hm he V6 X5;cases neg
    all_goals
     go_enter Tryz.func74,Tryz.ntmps74
     go_wp2_with (first
      |(go_at_call_of 56 a;refine ((Xo1 HR) _ K0.out).mono ?_;rintro e w2 ⟨a2,n2,c2,rfl,R5,hD,D0⟩;have B1:=Xh3 hD D0 R5;clear D0 hD R5)
      |(go_at_call_of 119 a2;refine (Q65 a2 n2 c2 v _ (Xo0 B1) (by have:=(Xe2 B1);omega)).mono ?_;rintro e w3 ⟨rfl,G0⟩;have C2:=Below.next0 (Below.next0 QP.out (Xo1 B1)) G0;have hQ:=(Xo2 HR).step C2 A3;have U9:=hQ.c0;have B7:=hQ.c1;have D2:=Ua C2;clear G0 C2 hQ)
      |(refine (Q58 _ 1 1 [m] _ (Qbz _ m (by omega) 74) (by decide)).mono ?_;rintro e w4 ⟨a4,n4,c4,rfl,JY,hD,F1⟩;rw[Qf4] at hD;have N3:=Xh2 hD F1;clear F1 hD)
      |(go_at_call_of 119 a4;refine (Q65 a4 n4 c4 m _ (Xo0 N3) (by omega)).mono ?_;rintro e w5 ⟨rfl,M0⟩;have M4:=Ua (Below.next0 (Below.next0 (Below.next0 D2.out (Ba)) (Xe1 N3)) M0);clear M0)
      |(refine (Xo0 HR).mono ?_;rintro e w1 ⟨rfl,C0⟩;have hQ:=(Xo2 HR).step C0 A3;have Y6:=hQ.c2;have K0:=Ua (Below.next0 (Xe3 HR) C0);have QP:=Ua C0;clear C0 hQ))
     go_ret;refine ⟨?_,Below.next0 (Xe3 HR) M4.out⟩;refine congrArg Ending.returned (congrArg Value.string (ByteArray.ext ?_));simp[TS,Q2s,Qa1,hm0']
   ·obtain rfl:exp=(m:Int):=(by omega);have hm0':m≠0:=(by omega);clear hm he V6 X5;cases neg
    all_goals
     go_enter Tryz.func74,Tryz.ntmps74
     go_wp2_with (first
      |(go_at_call_of 56 a;refine ((Xo1 HR) _ K0.out).mono ?_;rintro e w2 ⟨a2,n2,c2,rfl,R5,hD,D0⟩;have B1:=Xh3 hD D0 R5;clear D0 hD R5)
      |(go_at_call_of 119 a2;refine (Q65 a2 n2 c2 v _ (Xo0 B1) (by have:=(Xe2 B1);omega)).mono ?_;rintro e w3 ⟨rfl,G0⟩;have C2:=Below.next0 (Below.next0 QP.out (Xo1 B1)) G0;have hQ:=(Xo2 HR).step C2 A3;have U9:=hQ.c0;have B7:=hQ.c1;have D2:=Ua C2;clear G0 C2 hQ)
      |(refine (Q58 _ 1 1 [m] _ (Qbz _ m (by omega) 74) (by decide)).mono ?_;rintro e w4 ⟨a4,n4,c4,rfl,JY,hD,F1⟩;rw[Qf4] at hD;have N3:=Xh2 hD F1;clear F1 hD)
      |(go_at_call_of 119 a4;refine (Q65 a4 n4 c4 m _ (Xo0 N3) (by omega)).mono ?_;rintro e w5 ⟨rfl,M0⟩;have M4:=Ua (Below.next0 (Below.next0 (Below.next0 D2.out (Ba)) (Xe1 N3)) M0);clear M0)
      |(refine (Xo0 HR).mono ?_;rintro e w1 ⟨rfl,C0⟩;have hQ:=(Xo2 HR).step C0 A3;have Y6:=hQ.c2;have K0:=Ua (Below.next0 (Xe3 HR) C0);have QP:=Ua C0;clear C0 hQ))
     go_ret;refine ⟨?_,Below.next0 (Xe3 HR) M4.out⟩;refine congrArg Ending.returned (congrArg Value.string (ByteArray.ext ?_));simp[TS,Q2s,Qa1,hm0']
 ·have r7:Q1a neg exp ls=[]:=Uq X1;rw[r7];rw[UL X1] at hr;have HR:=Xh3 hr hN F2;clear hr r7 X1 h hN F2
  go_enter Tryz.func74,Tryz.ntmps74
  go_wp2_with (refine (Xo0 HR).mono ?_;rintro e w1 ⟨rfl,C0⟩;have K0:=Ua (Below.next0 (Xe2 HR) C0);clear C0)
  go_ret;exact ⟨rfl,K0.out⟩
end Go.Proofs.YtdilmfakkppgpaaGreatDoor
namespace Go.Proofs.YtdilmfakkppgpaaGreatDoor
open Go.RowKit WordsM
theorem Qgs {B:Nat} {L A:LN} {k i s x y lo hi:Nat} (hL:val B L=val B (A.take i)*(B^k*2^s)) (hx:A[i]?=some x) (hy:L[k+i]?=some y) (h0:L[k+i+1]?=some 0)
 (hp:x*2^s=lo+B*hi):val B ((L.set (k+i) (y+lo)).set (k+i+1) hi)=val B (A.take (i+1))*(B^k*2^s):=by
 have h1:=Q9w (B:=B) L (k+i) (y+lo) y hy;have h2:=Q9w (B:=B) (L.set (k+i) (y+lo)) (k+i+1) hi 0 (by rw[Tj (by omega)];exact h0);rw[Q1e A i x hx,Ti,<-hL];have e1:B^i*x*(B^k*2^s)=lo*B^(k+i)+hi*B^(k+i+1):=by
  have e2:B^i*x*(B^k*2^s)=(x*2^s)*B^(k+i):=by
   rw[Tz,UG (B^i) x,UN x,<-UN (B^i),UG (B^i),UN (B^k),UG (B^i),<-UN (B^k),UG (B^k) (2^s),UN (2^s),<-UN x]
  rw[e2,hp,Ti,Th,UG B hi,UN hi,UG B]
 rw[Ti] at h1;omega
theorem Qvz {s t x y:Nat} (Z0:s+t=32) (hx:x<2^32) (hy:y<2^s):y |||x*2^s%2^32=y+x*2^s%2^32/\y+x*2^s%2^32<2^32/\x*2^s / 2^32<2^s:=by
 have e:(2:Nat)^32=2^t*2^s:=by rw[<-Tz,<-Z0,Xbf]
 have e2:x*2^s%2^32=2^s*(x%2^t):=by rw[e,Nat.mul_mod_mul_right,UG]
 have hm:x%2^t<2^t:=TG _ (Tr (by decide));have o6:2^s*(x%2^t+1)<=2^s*2^t:=Xax _ hm;rw[Tt,Xbx,UG (2^s) (2^t),<-e] at o6;refine ⟨?_,?_,?_⟩
 ·rw[e2,Nat.or_comm,<-Nat.two_pow_add_eq_or_of_lt hy,Xbf]
 ·rw[e2];omega
 ·rw[UG];exact Xac (by rw[UG (2^32)];exact Nat.mul_lt_mul_of_pos_left hx (Tr (by decide)))
theorem Qc1 (a:OA) (n c:Nat) (v z:Nat) (w:World) (h:Q0n w a n c v) (hn:n<=1000000) (hz:z<=100000000):
 Calls Tryz.prog 57 #[.slice a n c,.int .i64 (z:Int)] w fun e w'=>∃a' n',e=.returned (.slice a' n' n')/\n'<=n+z / 32+1/\Q0n w' a' n' n' (v*2^z)/\Bw w w':=by
 have hv:val (2^32) (dig (2^32) v)=v:=Q0x (by decide) v;have hl:=Q2c (B:=2^32) (by decide) v;have QN:=h.len;have hr:=h.rd;obtain ⟨A,hA⟩:∃A,dig (2^32) v=A:=⟨_,rfl⟩;rw[hA] at hv hl QN hr;subst QN
 by_cases h0:A.length=0
 ·have X9:A=[]:=UH.1 h0;have C9:v=0:=by rw[<-hv,X9];rfl
  rw[C9,TU,h0]
  go_enter Tryz.func57,Tryz.ntmps57
  go_wp2_with fail
  go_ret;exact ⟨none,0,rfl,Uu _,Q0n.nil_ w,Uf _ _⟩
 have Wr:¬((A.length:Int)=0):=by omega
 have h0b:((A.length:Int)==0)=false:=by rw[Ui];exact Wr
 obtain ⟨k,hk⟩:∃k,z / 32=k:=⟨_,rfl⟩;obtain ⟨s,hs⟩:∃s,z%32=s:=⟨_,rfl⟩;have YQ:s<32:=by omega
 have WX:z=32*k+s:=by omega
 have Wu:(z:Int).tdiv 32=(k:Int):=by rw[Int.tdiv_eq_ediv_of_nonneg (by omega)];omega
 have hsI:(z:Int).tmod 32=(s:Int):=by rw[Int.tmod_eq_emod_of_nonneg (by omega)];omega
 have hkI2:(z:Int) / 32=(k:Int):=by omega
 have hsI2:(z:Int)%32=(s:Int):=by omega
 have hzv:v*2^z=v*((2^32)^k*2^s):=by rw[WX,Tz,Xar]
 rw[hzv,hk];have U3:=Xam (P:=Tryz.prog) 54 152 (.int .u32 0) 4 Tryz.underlying54 Q6q rfl .i64 .i64 (k+A.length+1) (by omega) (by omega);rw[show ((k+A.length+1:Nat):Int)=(k:Int)+(A.length:Int)+1 by omega,Q1k] at U3;have H:=Xh3 hv hl hr;clear hv hl hr hA h hk hs hzv WX h0
 go_enter Tryz.func57,Tryz.ntmps57
 go_wp2_with fail
 have F2:Bw w (w.alloc (.cells (Array.replicate (k+A.length+1) (nv .u32 0)) 152)):=Ba;have X9:=Arr.zeros w 152 .u32 (k+A.length+1);have H0:=Xh2 F2 X9;clear F2 X9 U3
 go_loopw [6] (fun iv wr=>∃(i:Nat) (L:LN),iv=.int .i64 (i:Int)/\i<=A.length/\Arr 152 .u32 wr w.heap.size L/\L.length=k+A.length+1/\Low (2^32) L/\val (2^32) L=val (2^32) (A.take i)*((2^32)^k*2^s)/\(∀t,k+i<t->t<k+A.length+1->L[t]?=some 0)/\(∃y,L[k+i]?=some y/\y<2^s)/\Bw w wr) (fun iv _=>A.length-(intOf iv).toNat)
 case atStart=>
  refine ⟨0,List.replicate (k+A.length+1) 0,rfl,Uu _,(Xe1 H0),by simp,fun x hx=>?_,by rw[Q7d];simp[val],fun t _ ht=>?_,⟨0,?_,Tr (by decide)⟩,(Xo0 H0)⟩
  ·rw[TP hx];decide
  ·rw[TL];simp[ht]
  ·rw[TL,Us (by omega)]
 case round=>
  obtain ⟨i,L,rfl,hi,hL,K5,O0,J0,u4,⟨y,hy,hys⟩,N0⟩:=hrel
  by_cases B0:i<A.length
  ·have E0:(i:Int)<(A.length:Int):=(by omega);obtain ⟨x,hx⟩:∃x,A[i]?=some x:=⟨_,Ub B0⟩;obtain ⟨ba,oa,N6,V5,E6⟩:=((Xe2 H).below N0).at_ hx;have J3:x<4294967296:=(Xo1 H) x (Ud hx);have JM:y<4294967296:=O0 y (Ud hy);subst N6;obtain ⟨A7,Xm,JB⟩:=Qvz (s:=s) (t:=32-s) (x:=x) (y:=y) (by omega) J3 hys;have h0i:=u4 (k+i+1) (by omega) (by omega);have QZ:x*2^s<18446744073709551616:=by
    have h1:x*2^s<=x*2^32:=Xax _ (UR (by decide) (by omega));have h2:x*2^32<2^32*2^32:=Xaj J3 (by decide);exact TO h1 h2
   have X0:=fun lo hi (hp:x*2^s=lo+2^32*hi)=>Qgs (lo:=lo) (hi:=hi) J0 hx hy h0i hp;obtain ⟨p,hp⟩:∃p,x*2^s=p:=⟨_,rfl⟩;have YW:(x:Int)*2^s=(p:Int):=(by rw[<-hp];norm_cast);rw[hp] at A7 Xm JB QZ X0;have W6:=Qpd p QZ;obtain ⟨lo,q5⟩:∃lo,p%4294967296=lo:=⟨_,rfl⟩;obtain ⟨Qe,XF⟩:∃hi,p / 4294967296=hi:=⟨_,rfl⟩;rw[q5] at W6;have Qw:lo<4294967296:=(by omega);have hhil:Qe<4294967296:=(by omega);have hhiI:(p:Int) / 4294967296=(Qe:Int):=(by omega);rw[show p%2^32=lo from q5] at A7 Xm;rw[show p / 2^32=Qe from XF] at JB;have Z0:=X0 lo Qe (by omega);have ho32:=u32_or_nat y lo JM Qw;rw[A7] at ho32;obtain ⟨q,hq⟩:∃q,y+lo=q:=⟨_,rfl⟩;rw[hq] at ho32 Xm Z0;have hzc:wr.cell? ⟨w.heap.size,k+i,none⟩=some (.int .u32 (y:Int)):=hL.cell hy;have Wv:wr.frozen? ⟨w.heap.size,k+i,none⟩=false:=hL.frozen _;have Xt:=hL.set (k+i) q;have R8:(L.set (k+i) q)[k+i+1]?=some 0:=(by rw[Tj (by omega)];exact h0i);have hzc1:=Xt.cell R8;have hzf1:(wr.setCell ⟨w.heap.size,k+i,none⟩ (.int .u32 (q:Int))).frozen? ⟨w.heap.size,k+i+1,none⟩=false:=Xt.frozen _;have Ks:=Xt.set (k+i+1) Qe;have hki:(k:Int)+(i:Int)<(k:Int)+(A.length:Int)+1:=(by omega);have hki1:(k:Int)+(i:Int)+1<(k:Int)+(A.length:Int)+1:=(by omega);have HH:=Xh6 Z0 Ks O0 N0 u4 JB;clear Z0 hL Xt Ks O0 J0 N0 u4 q5 XF hp hx hy h0i X0 A7 R8 JB hq
   go_wp2_with fail
   refine ⟨⟨i+1,(L.set (k+i) q).set (k+i+1) Qe,by simp,by omega,(Xo1 HH),by simp[K5],Q3z (Q3z (Xo2 HH) Xm) hhil,(Xo0 HH),fun t Y1 U1=>?_,⟨Qe,?_,(Xe5 HH)⟩,((Xo3 HH).setCell (p:=⟨w.heap.size,k+i,none⟩) (Ug _) _).setCell (p:=⟨w.heap.size,k+i+1,none⟩) (Ug _) _⟩,by simp only[intOf];omega⟩
   ·rw[Tj (by omega),Tj (by omega)];exact (Xo4 HH) t (by omega) U1
   ·rw[show k+(i+1)=k+i+1 by omega,TN (by rw[Xbk];omega)]
  ·obtain rfl:i=A.length:=(by omega);have E0:¬((A.length:Int)<(A.length:Int)):=(by omega);rw[Ta,(Xo0 H)] at J0;have hT:=Q40 (some ⟨w.heap.size,0,none⟩) (k+A.length+1) (k+A.length+1) L wr K5 (Ug _) (by omega) hL.rd O0;rw[J0] at hT;have HE:=Xh2 hT N0;clear hT N0 J0 hL O0 u4
   go_wp2_with (refine (Xo0 HE).mono ?_;rintro e w1 ⟨n',rfl,XB,hD,rfl⟩;have KY:=Xh2 hD XB;clear hD XB)
   go_ret;exact ⟨_,n',rfl,by have:=(Xe1 KY);omega,(Xo0 KY),(Xe1 HE)⟩
end Go.Proofs.YtdilmfakkppgpaaGreatDoor
