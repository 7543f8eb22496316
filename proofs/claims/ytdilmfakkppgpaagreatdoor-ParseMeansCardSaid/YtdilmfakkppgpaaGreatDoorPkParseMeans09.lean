/- Part 9 of the proof of LawParseMeans: FlatE, RegE, RegN, ExactB. Condition: as each theorem says; none at the end. -/
import Derived.Test.YtdilmfakkppgpaaGreatDoorPkParseMeans08
set_option maxRecDepth 100000
set_option maxHeartbeats 16000000
namespace Go.Proofs.YtdilmfakkppgpaaGreatDoor
open Go Go.RowKit
section
variable {P:Program} {ops:Array Oper}
def Q25 (P:Program) (E:World->World->Prop) (V:Value->World->Prop) (w:World):Result Next->Prop
 | .ok (.value u) w'=>E w w'/\V u w'
 | .ok (.enter f args) w'=>Calls P f args w' fun e w''=>∃v,e=.returned v/\E w w''/\V v w''
 | .ok .skip w'=>E w w'/\V undef w'
 |_=>False
def Q7r (P:Program) (E:World->World->Prop) (ops:Array Oper) (C:World->Prop) (V:Nat->Value->World->Prop) (a0:Act) (k:Nat) (o:Oper):Prop:=
 ∀a w,C w->Q8n ops a0 a->(∀i∈Q34 o,V i (Q0e ops a i) w)->
  if Region.wanted o (yielded ops a.tmps) then Q25 P E (V k) w ((execOp a.eval o).run P w) else V k undef w
def Q2z (P:Program) (E:World->World->Prop) (ops:Array Oper) (C:World->Prop) (V:Nat->Value->World->Prop) (a0:Act):List Oper->Nat->Prop
 |[],_=>True
 |o::r,k=>Q7r P E ops C V a0 k o/\Q2z P E ops C V a0 r (k+1)
theorem Q2z.at_ {E:World->World->Prop} {C:World->Prop} {V:Nat->Value->World->Prop} {a0:Act} (l:List Oper):∀(k i:Nat) (o:Oper),Q2z P E ops C V a0 l k->l[i]?=some o->Q7r P E ops C V a0 (k+i) o:=by
 induction l with
 |nil=>intro k i o _ ho;simp at ho
 |cons x r ih=>
  intro k i o h ho
  cases i with
  |zero=>
   simp only[List.getElem?_cons_zero,Option.some.injEq] at ho
   subst ho
   exact h.1
  |succ i=>
   have:=ih (k+1) i o h.2 (by simpa using ho)
   rwa[show k+1+i=k+(i+1) by omega] at this
theorem Q6n (a:Act):∀(l:List Oper) (k:Nat) (vs:Nat->Value) (b:Act),(∀(j:Nat) o t,l[j]?=some o->o.dst=some t->t<a.tmps.size/\vs (k+j)=a.tmps.getD t undef)->
 b.defers=a.defers->b.tmps.size=a.tmps.size->(∀t,(∀o∈l,o.dst≠some t)->b.tmps[t]?=a.tmps[t]?)->Q10 vs l k b=a
 |[],_,_,b,_,hd,_,ht=>by
  obtain ⟨bt,bd⟩:=b
  obtain ⟨at_,ad⟩:=a
  simp only at hd ht
  subst hd
  show (Act.mk bt bd)=_
  congr 1
  exact Array.ext_getElem? fun t=>ht t (by simp)
 |o::r,k,vs,b,hs,hd,hz,ht=>by
  have hrec:∀(j:Nat) o' t,r[j]?=some o'->o'.dst=some t->t<a.tmps.size/\vs (k+1+j)=a.tmps.getD t undef:=fun j o' t ho' hd'=>by
   have:=hs (j+1) o' t (by simpa using ho') hd'
   rwa[show k+(j+1)=k+1+j by omega] at this
  cases hto:o.dst with
  |none=>
   have:Q10 vs (o::r) k b=Q10 vs r (k+1) b:=by
    show Q10 vs r (k+1) (b.put o.dst (vs k))=_
    rw[hto];rfl
   rw[this]
   refine Q6n a r (k+1) vs b hrec hd hz fun t' ht'=>ht t' fun o' ho'=>?_
   rcases List.mem_cons.1 ho' with rfl|h
   ·rw[hto];simp
   ·exact ht' o' h
  |some t=>
   obtain ⟨htl,hv⟩:=hs 0 o t rfl hto
   refine Q6n a r (k+1) vs (b.put o.dst (vs k)) hrec ?_ ?_ fun t' ht'=>?_
   ·rw[hto];exact hd
   ·rw[hto,Q3x,Array.size_setIfInBounds];exact hz
   ·rw[hto,Q3x,Array.getElem?_setIfInBounds]
    split
    ·next e=>
     subst e
     rw[if_pos (by rw[hz];exact htl)]
     have:vs k=a.tmps.getD t undef:=by simpa using hv
     rw[this,Array.getD_eq_getD_getElem?,Array.getElem?_eq_getElem htl];rfl
    ·next e=>
     refine ht t' fun o' ho'=>?_
     rcases List.mem_cons.1 ho' with rfl|h
     ·rw[hto];simpa using e
     ·exact ht' o' h
def Q6a (ops:List Oper) (n:Nat):Bool:=ops.all (fun o=>match o.dst with|some t=>decide (t<n)|none=>true) && (ops.zipIdx.all fun p=>ops.zipIdx.all fun q=>p.2==q.2 || p.1.dst.isNone || !(p.1.dst==q.1.dst)) && (ops.zipIdx.all fun p=>p.1.after.toList.all fun e=>decide (e.on<p.2) || !Region.binds .any e) && ops.all fun o=>match o.op with| .defer _=>false|_=>true
theorem Qcj {l:List Oper} {n:Nat} (h:Q6a l n=true):(∀(i:Nat) o t,l[i]?=some o->o.dst=some t->t<n)/\(∀(i j:Nat) oi oj t,l[i]?=some oi->l[j]?=some oj->oi.dst=some t->oj.dst=some t->i=j)/\(∀(i:Nat) o,l[i]?=some o->∀e∈o.after.toList,Region.binds .any e=true->e.on<i)/\(∀(i:Nat) o,l[i]?=some o->∀c,o.op≠.defer c):=by
 unfold Q6a at h
 simp only[Bool.and_eq_true] at h
 obtain ⟨⟨⟨h1,h2⟩,h3⟩,h4⟩:=h
 refine ⟨fun i o t ho hd=>?_,fun i j oi oj t hi hj hdi hdj=>?_,fun i o ho e he hb=>?_,fun i o ho c hc=>?_⟩
 ·have:=List.all_eq_true.1 h1 o (List.mem_of_getElem? ho)
  rw[hd] at this
  simpa using this
 ·have hmi:(oi,i)∈l.zipIdx:=by rw[List.mem_zipIdx_iff_getElem?];exact hi
  have hmj:(oj,j)∈l.zipIdx:=by rw[List.mem_zipIdx_iff_getElem?];exact hj
  have:=List.all_eq_true.1 (List.all_eq_true.1 h2 _ hmi) _ hmj
  rw[hdi,hdj] at this
  simpa using this
 ·have hm:(o,i)∈l.zipIdx:=by
   rw[List.mem_zipIdx_iff_getElem?]
   exact ho
  have:=List.all_eq_true.1 (List.all_eq_true.1 h3 _ hm) e he
  rw[hb] at this
  simpa using this
 ·have:=List.all_eq_true.1 h4 o (List.mem_of_getElem? ho)
  rw[hc] at this
  cases this
variable {F:Fence} {n:Nat} {Q:Exit->Act->World->Prop}
structure Qjx (ops:Array Oper) (C:World->Prop) (V:Nat->Value->World->Prop) (a0:Act) (listed:Array Bool) (a:Act) (w:World):Prop where
 cls:C w
 agree:Q8n ops a0 a
 size:listed.size=ops.size
 vals:∀j,listed.getD j false=true->V j (Q0e ops a j) w
theorem Qdr {E:World->World->Prop} (hE:∀w,E w w) (hF1:∀f,F.fn f) (hF2:F.depth=none) (hF3:∀m f args w R,Calls P f args w R->CallsIn F m P f args w R) (C:World->Prop) (hC:∀w w',C w->E w w'->C w') (V:Nat->Value->World->Prop) (hV:∀i v w w',V i v w->E w w'->V i v w') (hN:∀(i:Nat) o,ops[i]?=some o->o.dst=none->∀v w,V i v w->V i undef w) (a0:Act) (hB:Q6a ops.toList a0.tmps.size=true)
 (step:Q2z P E ops C V a0 ops.toList 0) (fin:∀vs w,C w->(∀j,j<ops.size->V j (vs j) w)->Q .normal (Q10 vs ops.toList 0 a0) w):
 ∀(fuel:Nat) (listed:Array Bool) (a:Act) (w:World),listed.toList.count false<=fuel->Qjx ops C V a0 listed a w->wpAnyIn F n P .any ops Q fuel listed a w:=by
 obtain ⟨hd1,hd2,hd3,hd4⟩:=Qcj hB
 have done:∀(listed:Array Bool) (a:Act) (w:World),(∀j,j<ops.size->listed.getD j false=true)->Qjx ops C V a0 listed a w->Q .normal a w:=by
  intro listed a w hall inv
  have:=fin (Q0e ops a) w inv.cls fun j hj=>inv.vals j (hall j hj)
  rwa[Q6n a ops.toList 0 (Q0e ops a) a0 (fun j o t ho h1=>?_) inv.agree.1.symm inv.agree.2.1.symm (fun t ht=>(inv.agree.2.2 t ht).symm)] at this
  refine ⟨by rw[inv.agree.2.1];exact hd1 j o t ho h1,?_⟩
  have ho':ops[j]?=some o:=by rw[<-Array.getElem?_toList];exact ho
  unfold Q0e
  rw[Nat.zero_add,ho']
  simp[h1]
 have none_ready:∀(listed:Array Bool),listed.size=ops.size->Region.ready .any ops listed=[]->∀j,j<ops.size->listed.getD j false=true:=by
  intro listed hz hr j
  induction j using Nat.strongRecOn with
  |ind j ih=>
   intro hj
   cases hb:listed.getD j false with
   |true=>rfl
   |false=>
    exfalso
    have hjl:j<listed.size:=by omega
    have hb':listed.getD j true=false:=by
     rw[Array.getD_eq_getD_getElem?,Array.getElem?_eq_getElem hjl] at hb⊢
     exact hb
    have ho:ops[j]?=some ops[j]:=Array.getElem?_eq_getElem hj
    have:j∈Region.ready .any ops listed:=mem_ready.2 ⟨hb',ops[j],ho,fun e he hb2=>?_⟩
    ·rw[hr] at this;cases this
    ·have hlt:=hd3 j ops[j] (by rw[Array.getElem?_toList];exact ho) e (by simpa using he) hb2
     exact ih e.on hlt (by omega)
 intro fuel
 induction fuel with
 |zero=>
  intro listed a w hc inv
  have hall:∀j,j<ops.size->listed.getD j false=true:=fun j hj=>by
   have:=Q9a listed.toList (by omega) j (by rw[Array.length_toList,inv.size];exact hj)
   rw[Array.getElem?_toList] at this
   rw[Array.getD_eq_getD_getElem?,this];rfl
  refine ⟨?_,done listed a w hall inv⟩
  refine List.eq_nil_iff_forall_not_mem.2 fun i hi=>?_
  obtain ⟨h1,o,ho,_⟩:=mem_ready.1 hi
  have hil:i<ops.size:=(Array.getElem?_eq_some_iff.1 ho).1
  have h2:=hall i hil
  have hil':i<listed.size:=by rw[inv.size];exact hil
  rw[Array.getD_eq_getD_getElem?,Array.getElem?_eq_getElem hil'] at h1 h2
  rw[Option.getD_some] at h1 h2
  rw[h1] at h2;cases h2
 |succ fuel ih=>
  intro listed a w hc inv
  refine ⟨fun hr=>done listed a w (none_ready listed inv.size hr) inv,fun i hi=>?_⟩
  obtain ⟨h1,o,ho,hdep⟩:=mem_ready.1 hi
  have hil:i<ops.size:=(Array.getElem?_eq_some_iff.1 ho).1
  have hil':i<listed.size:=by rw[inv.size];exact hil
  have hol:ops.toList[i]?=some o:=by rw[Array.getElem?_toList];exact ho
  have hst:=Q2z.at_ _ _ _ _ step hol
  rw[Nat.zero_add] at hst
  have hstep:=hst a w inv.cls inv.agree fun j hj=>by
   obtain ⟨e,he,rfl⟩:=List.mem_map.1 hj
   obtain ⟨he,hb⟩:=List.mem_filter.1 he
   exact inv.vals e.on (hdep e (by simpa using he) hb)
  have hlf:listed.toList[i]?=some false:=by
   rw[Array.getElem?_toList,Array.getElem?_eq_getElem hil']
   rw[Array.getD_eq_getD_getElem?,Array.getElem?_eq_getElem hil',Option.getD_some] at h1
   rw[h1]
  have hcnt:(listed.setIfInBounds i true).toList.count false<=fuel:=by
   rw[Array.toList_setIfInBounds]
   have:=Q58 listed.toList i hlf
   omega
  have next:∀v w',E w w'->V i v w'->wpAnyIn F n P .any ops Q fuel (listed.setIfInBounds i true) (a.put o.dst v) w':=by
   intro v w' hb hv
   have old:∀j,j≠i->(listed.setIfInBounds i true).getD j false=true->listed.getD j false=true:=by
    intro j hji hj
    rw[Array.getD_eq_getD_getElem?,Array.getElem?_setIfInBounds,if_neg (fun e=>hji e.symm)] at hj
    rw[Array.getD_eq_getD_getElem?];exact hj
   cases hto:o.dst with
   |none=>
    refine ih _ _ _ hcnt ⟨hC _ _ inv.cls hb,inv.agree,by rw[Array.size_setIfInBounds];exact inv.size,fun j hj=>?_⟩
    by_cases hji:j=i
    ·subst hji
     have:Q0e ops a j=undef:=by unfold Q0e;rw[ho,Option.bind_some,hto]
     show V j (Q0e ops a j) w'
     rw[this];exact hN j o ho hto v w' hv
    ·exact hV _ _ _ _ (inv.vals j (old j hji hj)) hb
   |some t=>
    have htl:=hd1 i o t hol hto
    refine ih _ _ _ hcnt ⟨hC _ _ inv.cls hb,?_,by rw[Array.size_setIfInBounds];exact inv.size,fun j hj=>?_⟩
    ·refine ⟨inv.agree.1,by rw[Q3x,Array.size_setIfInBounds];exact inv.agree.2.1,fun t' ht'=>?_⟩
     rw[Q3x,Array.getElem?_setIfInBounds,if_neg ?_]
     ·exact inv.agree.2.2 t' ht'
     ·intro e
      exact ht' o (List.mem_of_getElem? hol) (by rw[hto,e])
    ·by_cases hji:j=i
     ·subst hji
      have:Q0e ops (a.put (some t) v) j=v:=by
       unfold Q0e
       rw[ho,Option.bind_some,hto]
       show (a.put (some t) v).tmps.getD t undef=v
       rw[Q3x,Array.getD_eq_getD_getElem?,Array.getElem?_setIfInBounds,if_pos rfl,if_pos (by rw[inv.agree.2.1];exact htl)];rfl
      rw[this];exact hv
     ·have hj':=old j hji hj
      have hjl:j<ops.size:=by
       rw[<-inv.size]
       refine Nat.lt_of_not_le fun hle=>?_
       rw[Array.getD_eq_getD_getElem?,Array.getElem?_eq_none hle] at hj'
       cases hj'
      have hoj:ops[j]?=some ops[j]:=Array.getElem?_eq_getElem hjl
      have:Q0e ops (a.put (some t) v) j=Q0e ops a j:=by
       unfold Q0e
       rw[hoj,Option.bind_some]
       cases hdj:ops[j].dst with
       |none=>rfl
       |some t2=>
        show (a.put (some t) v).tmps.getD t2 undef=a.tmps.getD t2 undef
        rw[Q3x,Array.getD_eq_getD_getElem?,Array.getElem?_setIfInBounds,if_neg ?_,<-Array.getD_eq_getD_getElem?]
        intro e
        exact hji (hd2 j i ops[j] o t2 (by rw[Array.getElem?_toList];exact hoj) hol hdj (by rw[hto,e]))
      rw[this]
      exact hV _ _ _ _ (inv.vals j hj') hb
  unfold wpOpIn
  simp only[ho]
  split
  ·next hw=>
   rw[if_pos hw] at hstep
   unfold Oper.wpIn
   refine ⟨fun f _=>hF1 f,?_⟩
   have hsem:o.semAt F.round a.eval=execOp a.eval o:=by
    cases hr:F.round with
    |none=>rw[Oper.semAt_none]
    |some l=>exact Oper.semAt_some l _ o (hd4 i o hol)
   rw[hsem]
   generalize (execOp a.eval o).run P w=res at hstep
   cases res with
   |ok x w'=>
    cases x with
    |value u=>exact next u w' hstep.1 hstep.2
    |enter f args=>
     refine ⟨(fun h=>by rw[hF2] at h;cases h),hF3 _ _ _ _ _ (Calls.mono hstep ?_)⟩
     rintro e w'' ⟨v,rfl,hb,hv⟩
     exact next v w'' hb hv
    |skip=>
     exact next undef w' hstep.1 hstep.2
    |_=>exact hstep.elim
   |halt x w'=>exact hstep.elim
  ·next hw=>
   rw[if_neg hw] at hstep
   exact ⟨fun f _=>hF1 f,next undef w (hE _) hstep⟩
theorem Q0y {E:World->World->Prop} (hE:∀w,E w w) {id:Nat} {l:List Oper} {a0:Act} {w:World} (hm:P.follows .mixedOrders=true) (C:World->Prop) (hC:∀w w',C w->E w w'->C w') (V:Nat->Value->World->Prop) (hV:∀i v w w',V i v w->E w w'->V i v w') (hN:∀(i:Nat) o,l[i]?=some o->o.dst=none->∀v w,V i v w->V i undef w) (hB:Q6a l a0.tmps.size=true) (h0:C w.drew)
 (step:Q2z P E l.toArray C V a0 l 0) (fin:∀vs w,C w->(∀j,j<l.length->V j (vs j) w)->Q .normal (Q10 vs l 0 a0) w):(Code.region id l.toArray true).wp P Q a0 w:=
 (wpIn_wide (n:=6)).1 (wpIn_region_any hm (Qdr hE (fun _=>trivial) rfl (fun m _ _ _ _ h=>callsIn_wide.2 h) C hC V hV (by simpa using hN) a0 hB (by simpa using step) (by simpa using fin) _ _ _ _ (by simp)
   ⟨h0,⟨rfl,rfl,fun _ _=>rfl⟩,by simp,fun j hj=>by
     rw[Array.getD_eq_getD_getElem?,Array.getElem?_replicate] at hj
     split at hj <;> cases hj⟩))
theorem Q0d {E:World->World->Prop} {o:Oper} {a:Act} {w:World} {V:Value->World->Prop} {j:Nat} {b:Bool} {t:Tmp} (hg:o.guard=some (j,b)) (ht:(ops[j]?).bind (·.dst)=some t) (he:a.eval (.tmp t)=.bool b) (h:Q25 P E V w ((execOp a.eval o).run P w)):
 if Region.wanted o (yielded ops a.tmps) then Q25 P E V w ((execOp a.eval o).run P w) else V undef w:=by
 have hy:yielded ops a.tmps j=some b:=by
  unfold yielded
  rw[ht,Option.bind_some]
  have he':a.tmps.getD t undef=.bool b:=he
  rw[Array.getD_eq_getD_getElem?] at he'
  cases hx:a.tmps[t]? with
  |none=>rw[hx] at he';cases he'
  |some v=>rw[hx] at he';have h2:v=.bool b:=he';rw[h2]
 have hw:Region.wanted o (yielded ops a.tmps)=true:=by
  unfold Region.wanted
  rw[hg]
  show (yielded ops a.tmps j==some b)=true
  rw[hy];simp
 rw[if_pos hw];exact h
theorem Q0v {E:World->World->Prop} {o:Oper} {a:Act} {w:World} {V:Value->World->Prop} {j:Nat} {b:Bool} {t:Tmp} (hg:o.guard=some (j,b)) (ht:(ops[j]?).bind (·.dst)=some t) (he:a.eval (.tmp t)=.bool (!b)) (h:V undef w):
 if Region.wanted o (yielded ops a.tmps) then Q25 P E V w ((execOp a.eval o).run P w) else V undef w:=by
 have hy:yielded ops a.tmps j=some (!b):=by
  unfold yielded
  rw[ht,Option.bind_some]
  have he':a.tmps.getD t undef=.bool (!b):=he
  rw[Array.getD_eq_getD_getElem?] at he'
  cases hx:a.tmps[t]? with
  |none=>rw[hx] at he';cases he'
  |some v=>rw[hx] at he';have h2:v=.bool (!b):=he';rw[h2]
 have hw:Region.wanted o (yielded ops a.tmps)=false:=by
  unfold Region.wanted
  rw[hg]
  show (yielded ops a.tmps j==some b)=false
  rw[hy];cases b <;> rfl
 rw[hw];exact h
theorem Q01 {E:World->World->Prop} {o:Oper} {a:Act} {w:World} {V:Value->World->Prop} (hg:o.guard=none) (h:Q25 P E V w ((execOp a.eval o).run P w)):
 if Region.wanted o (yielded ops a.tmps) then Q25 P E V w ((execOp a.eval o).run P w) else V undef w:=by
 have hw:Region.wanted o (yielded ops a.tmps)=true:=by unfold Region.wanted;rw[hg]
 rw[if_pos hw];exact h
end
end Go.Proofs.YtdilmfakkppgpaaGreatDoor
namespace Go.Proofs.YtdilmfakkppgpaaGreatDoor
open Go.RowKit
section
variable {P:Program} {r:Nat} {Done:World->Prop} {V:Value->World->Prop} {w:World}
end
theorem Q04.turn {w w':World} {b g:Nat} {v0 v1 v2:Value} (h:Q04 w g v0 v1 v2) (ht:Q0n (·=b) w w') (hg:g<w.heap.size) (hne:g≠b):Q04 w' g v0 v1 v2:=
 ⟨(ht.cell (p:=⟨g,0,none⟩) hg hne).trans h.c0,(ht.cell (p:=⟨g,1,none⟩) hg hne).trans h.c1,(ht.cell (p:=⟨g,2,none⟩) hg hne).trans h.c2,(ht.frozen (p:=⟨g,0,none⟩) hg hne).trans h.f0,(ht.frozen (p:=⟨g,1,none⟩) hg hne).trans h.f1,(ht.frozen (p:=⟨g,2,none⟩) hg hne).trans h.f2⟩
theorem Qf2 {l:List Oper} {cs:List Value} {L:Nat->Option (Value->World->Prop)} (n:Nat) {φ:World->Prop} (hL:L n=some fun _ w=>φ w) (hl:(l.zipIdx.all fun p=>p.1.dst.isSome || decide (p.2=n))=true):
 ∀(i:Nat) o,l[i]?=some o->o.dst=none->∀v w,Q6k cs L i v w->Q6k cs L i undef w:=by
 intro i o hi hd v w hv
 have hm:(o,i)∈l.zipIdx:=by
  rw[List.mem_zipIdx_iff_getElem?]
  simpa using hi
 have h1:=List.all_eq_true.1 hl _ hm
 simp only[hd,Option.isSome_none,Bool.false_or,decide_eq_true_eq] at h1
 subst h1
 exact (Q06 hL).2 ((Q06 hL).1 hv)
theorem Q0u {P:Program} {ops:Array Oper} {E:World->World->Prop} {o:Oper} {a:Act} {w:World} {V:Value->World->Prop} {j:Nat} {b:Bool} {t:Tmp} (hg:o.guard=some (j,b)) (ht:(ops[j]?).bind (·.dst)=some t) (he:a.eval (.tmp t)=undef) (h:V undef w):
 if Region.wanted o (yielded ops a.tmps) then Q25 P E V w ((execOp a.eval o).run P w) else V undef w:=by
 have hy:yielded ops a.tmps j=none:=by
  unfold yielded
  rw[ht,Option.bind_some]
  have he':a.tmps.getD t undef=undef:=he
  rw[Array.getD_eq_getD_getElem?] at he'
  cases hx:a.tmps[t]? with
  |none=>rfl
  |some v=>rw[hx] at he';have h2:v=undef:=he';rw[h2];rfl
 have hw:Region.wanted o (yielded ops a.tmps)=false:=by
  unfold Region.wanted
  rw[hg]
  show (yielded ops a.tmps j==some b)=false
  rw[hy];cases b <;> rfl
 rw[hw];exact h
def Qi7 (w w':World):Prop:=Below w.heap.size w w'
section
variable {P:Program} {V:Value->World->Prop} {w:World}
theorem Q02 {u:Value} {res:Result Next} (hr:res=.ok (.value u) w) (h:V u w):Q25 P Qi7 V w res:=by
 rw[hr];exact ⟨Below.refl _ _,h⟩
theorem Q0j {f:FuncId} {args:Array Value} {res:Result Next} (hr:res=.ok (.enter f args) w)
 (h:Calls P f args w fun e w''=>∃v,e=.returned v/\Below w.heap.size w w''/\V v w''):Q25 P Qi7 V w res:=by
 rw[hr];exact h
end
theorem Q5x {l:List Oper} {V:Nat->Value->World->Prop} (hl:(l.all fun o=>o.dst.isSome)=true):∀(i:Nat) o,l[i]?=some o->o.dst=none->∀v w,V i v w->V i undef w:=by
 intro i o hi hd v w _
 have h1:=List.all_eq_true.1 hl o (List.mem_of_getElem? hi)
 rw[hd] at h1;cases h1
theorem Q0q {E:World->World->Prop} {cs:List Value} {L:Nat->Option (Value->World->Prop)} (h:∀i φ,L i=some φ->∀v w w',φ v w->E w w'->φ v w') (i:Nat) (v:Value) (w w':World) (hv:Q6k cs L i v w) (hb:E w w'):Q6k cs L i v w':=by
 unfold Q6k at*
 cases hl:L i with
 |none=>rw[hl] at hv;exact hv
 |some φ=>rw[hl] at hv;exact h i φ hl v w w' hv hb
theorem Q08 (w:World):Below w.heap.size w w.drew:=⟨rfl,rfl,rfl,Nat.le_refl _,fun _ _=>rfl⟩
end Go.Proofs.YtdilmfakkppgpaaGreatDoor
namespace Go.Proofs.YtdilmfakkppgpaaGreatDoor
open Go.RowKit WordsM
def Qom (r:Nat) (w:World):Prop:=(∃b e a n c,Q04 w r (.bool b) (.int .i64 e) (.slice a n c))/\r<w.heap.size
theorem Qom.below {r:Nat} {w w':World} (h:Qom r w) (hb:Below w.heap.size w w'):Qom r w':=by
 obtain ⟨⟨b,e,a,n,c,hN⟩,hr⟩:=h
 exact ⟨⟨b,e,a,n,c,hN.step hb hr⟩,Nat.lt_of_lt_of_le hr hb.size⟩
theorem Q04.drew {w:World} {b:Nat} {v0 v1 v2:Value} (h:Q04 w b v0 v1 v2):Q04 w.drew b v0 v1 v2:=⟨h.c0,h.c1,h.c2,h.f0,h.f1,h.f2⟩
theorem Qom.drew {r:Nat} {w:World} (h:Qom r w):Qom r w.drew:=by
 obtain ⟨⟨b,e,a,n,c,hN⟩,hr⟩:=h
 exact ⟨⟨b,e,a,n,c,hN.drew⟩,hr⟩
theorem WordsIn.drew {w:World} {a:Option Addr} {n c:Nat} {L:List Nat} (h:WordsIn w a n c L):WordsIn w.drew a n c L:=⟨h.len,h.cap,h.most,h.low,h.rd⟩
def Qjy (r:Nat) (Done:World->Prop) (w w':World):Prop:=Q0n (·=r) w w'/\(Done w->Done w')/\(∀a n c L,WordsIn w a n c L->WordsIn w' a n c L)/\(Qom r w->Qom r w')
theorem Qjy.refl (r:Nat) (Done:World->Prop) (w:World):Qjy r Done w w:=⟨Q0n.refl _ w,id,fun _ _ _ _ h=>h,id⟩
def Qas (r:Nat) (u0 u1:Value) (L:List Nat) (w:World):Prop:=∃a n c,Q04 w r u0 u1 (.slice a n c)/\r<w.heap.size/\WordsIn w a n c L
theorem Qas.below {r:Nat} {u0 u1:Value} {L:List Nat} {w w':World} (h:Qas r u0 u1 L w) (hb:Below w.heap.size w w'):Qas r u0 u1 L w':=by
 obtain ⟨a,n,c,h1,h2,h3⟩:=h
 exact ⟨a,n,c,h1.step hb h2,Nat.lt_of_lt_of_le h2 hb.size,h3.step hb⟩
def SlV (L:List Nat) (v:Value) (w:World):Prop:=∃a n c,v=.slice a n c/\WordsIn w a n c L
def AgV (u0 u1:Value) (L:List Nat) (v:Value) (w:World):Prop:=∃a n c,v=.agg #[u0,u1,.slice a n c]/\WordsIn w a n c L
section
variable {P:Program} {r:Nat} {u0 u1:Value} {L:List Nat} {V:Value->World->Prop} {w:World}
theorem Q0z {Done:World->Prop} {u:Value} {res:Result Next} (hr:res=.ok (.value u) w) (h:V u w):Q25 P (Qjy r Done) V w res:=by
 rw[hr];exact ⟨Qjy.refl _ _ _,h⟩
theorem Qf3 {f:FuncId} {args:Array Value} {res:Result Next} (hr:res=.ok (.enter f args) w)
 (h:Calls P f args w fun e w''=>∃v,e=.returned v/\Below w.heap.size w w''/\V v w''):Q25 P (Qjy r (Qas r u0 u1 L)) V w res:=by
 rw[hr]
 refine h.mono ?_
 rintro e w'' ⟨v,rfl,hb,hv⟩
 exact ⟨v,rfl,⟨Q0n.of_below hb _,fun h=>h.below hb,fun _ _ _ _ h=>h.step hb,fun h=>h.below hb⟩,hv⟩
theorem Qck {b:Bool} {e:Int} {a:Option Addr} {n c:Nat} {res:Result Next} (hB:Qom r w) (hw:WordsIn w a n c L) (h0:u0=.bool b) (h1:u1=.int .i64 e)
 (hr:res=.ok .skip (((w.setCell ⟨r,0,none⟩ u0).setCell ⟨r,1,none⟩ u1).setCell ⟨r,2,none⟩ (.slice a n c)))
 (hV:∀w',Qas r u0 u1 L w'->V undef w'):Q25 P (Qjy r (Qas r u0 u1 L)) V w res:=by
 rw[hr]
 obtain ⟨⟨b',e',a',n',c',hN⟩,hlt⟩:=hB
 have ht:Q0n (·=r) w (((w.setCell ⟨r,0,none⟩ u0).setCell ⟨r,1,none⟩ u1).setCell ⟨r,2,none⟩ (.slice a n c)):=((Q0n.setCell (·=r) w (p:=⟨r,0,none⟩) rfl _).trans0 (Q0n.setCell (·=r) _ (p:=⟨r,1,none⟩) rfl _)).trans0 (Q0n.setCell (·=r) _ (p:=⟨r,2,none⟩) rfl _)
 have hNs:=hN.store u0 u1 (.slice a n c)
 have hws:∀a2 n2 c2 L2,WordsIn w a2 n2 c2 L2->WordsIn (((w.setCell ⟨r,0,none⟩ u0).setCell ⟨r,1,none⟩ u1).setCell ⟨r,2,none⟩ (.slice a n c)) a2 n2 c2 L2:=fun a2 n2 c2 L2 h=>
  ⟨h.len,h.cap,h.most,h.low,(h.rd.store3 hN (fun _=>by simp[nv]) (fun _=>by simp[nv]) (fun _=>by simp[nv]) u0 u1 (.slice a n c)).more (Q14 _ _ _ _ _)⟩
 have hd:Qas r u0 u1 L (((w.setCell ⟨r,0,none⟩ u0).setCell ⟨r,1,none⟩ u1).setCell ⟨r,2,none⟩ (.slice a n c)):=⟨a,n,c,hNs,Nat.lt_of_lt_of_le hlt ht.size,hws _ _ _ _ hw⟩
 exact ⟨⟨ht,fun _=>hd,hws,fun _=>⟨⟨b,e,a,n,c,by rw[<-h0,<-h1];exact hNs⟩,Nat.lt_of_lt_of_le hlt ht.size⟩⟩,hV _ hd⟩
end
def Qwe (i j k r:Nat) (u0 u1:Value) (L:List Nat) (x:Nat):Option (Value->World->Prop):=
 if x=i then some (SlV L) else if x=j then some (AgV u0 u1 L) else if x=k then some (fun _ w=>Qas r u0 u1 L w) else none
theorem Qf4 {i j k r:Nat} {u0 u1:Value} {L:List Nat}:∀x φ,Qwe i j k r u0 u1 L x=some φ->∀v w w',φ v w->Qjy r (Qas r u0 u1 L) w w'->φ v w':=by
 intro x φ h v w w' hv he
 unfold Qwe at h
 split at h
 ·injection h with h;subst h
  obtain ⟨a,n,c,rfl,hw⟩:=hv
  exact ⟨a,n,c,rfl,he.2.2.1 _ _ _ _ hw⟩
 ·split at h
  ·injection h with h;subst h
   obtain ⟨a,n,c,rfl,hw⟩:=hv
   exact ⟨a,n,c,rfl,he.2.2.1 _ _ _ _ hw⟩
  ·split at h
   ·injection h with h;subst h
    exact he.2.1 hv
   ·cases h
def Qni (r:Nat) (w0 w:World):Prop:=Q0n (·=r) w0 w/\Qom r w/\∀a n c L,WordsIn w0 a n c L->WordsIn w a n c L
theorem Qni.start {r:Nat} {w:World} {v0:Bool} {v1:Int} {a:Option Addr} {n c:Nat} (h:Q04 w r (.bool v0) (.int .i64 v1) (.slice a n c)) (hr:r<w.heap.size):Qni r w w.drew:=⟨(Q0n.refl _ w).drew,Qom.drew ⟨⟨_,_,_,_,_,h⟩,hr⟩,fun _ _ _ _ h=>h.drew⟩
theorem Qni.next {r:Nat} {Done:World->Prop} {w0 w w':World} (h:Qni r w0 w) (h':Qjy r Done w w'):Qni r w0 w':=⟨h.1.trans h'.1 (fun _ _ e=>e),h'.2.2.2 h.2.1,fun a n c L hw=>h'.2.2.1 _ _ _ _ (h.2.2 a n c L hw)⟩
theorem Qcl {r:Nat} {Done:World->Prop} {cs:List Value} {L:Nat->Option (Value->World->Prop)} (h:∀i φ,L i=some φ->∀v w w',φ v w->Qjy r Done w w'->φ v w') (i:Nat) (v:Value) (w w':World) (hv:Q6k cs L i v w) (hb:Qjy r Done w w'):Q6k cs L i v w':=by
 unfold Q6k at*
 cases hl:L i with
 |none=>rw[hl] at hv;exact hv
 |some φ=>rw[hl] at hv;exact h i φ hl v w w' hv hb
theorem Q9b (nx:Bool) (ex:Int) (ax:Option Addr) (lx cx:Nat) (ls:List Nat) (ny:Bool) (ey:Int) (ay:Option Addr) (ly cy:Nat) (ks:List Nat) (w:World) (h1:WordsIn w ax lx cx ls) (h2:WordsIn w ay ly cy ks) (hn:lx<=20000) (hm:ly<=20000) (he1: -1000000<=ex) (he2:ex<=1000000) (hf1: -1000000<=ey) (hf2:ey<=1000000):
 Calls Tryz.prog 54 #[.agg #[.bool nx,.int .i64 ex,.slice ax lx cx],.agg #[.bool ny,.int .i64 ey,.slice ay ly cy]] w fun r w'=>∃a n c,r=.returned (.agg #[.bool (nx != ny),.int .i64 (ex+ey),.slice a n c])/\WordsIn w' a n c (dig (2^64) (val (2^64) ls*val (2^64) ks))/\Below w.heap.size w w':=by
 have hs1:(w.alloc (.cells #[.bool nx,.int .i64 ex,.slice ax lx cx] 41)).heap.size=w.heap.size+1:=World.size_alloc _ _
 have hs2:((w.alloc (.cells #[.bool nx,.int .i64 ex,.slice ax lx cx] 41)).alloc (.cells #[.bool ny,.int .i64 ey,.slice ay ly cy] 41)).heap.size=w.heap.size+2:=by rw[World.size_alloc,hs1]
 have hs3:(((w.alloc (.cells #[.bool nx,.int .i64 ex,.slice ax lx cx] 41)).alloc (.cells #[.bool ny,.int .i64 ey,.slice ay ly cy] 41)).alloc (.cells #[.bool false,.int .i64 0,.slice none 0 0] 41)).heap.size=w.heap.size+3:=by rw[World.size_alloc,hs2]
 have hb1:Below w.heap.size w (w.alloc (.cells #[.bool nx,.int .i64 ex,.slice ax lx cx] 41)):=(Below.refl _ _).alloc (Nat.le_refl _) _
 have hb2:Below (w.alloc (.cells #[.bool nx,.int .i64 ex,.slice ax lx cx] 41)).heap.size (w.alloc (.cells #[.bool nx,.int .i64 ex,.slice ax lx cx] 41)) ((w.alloc (.cells #[.bool nx,.int .i64 ex,.slice ax lx cx] 41)).alloc (.cells #[.bool ny,.int .i64 ey,.slice ay ly cy] 41)):=(Below.refl _ _).alloc (Nat.le_refl _) _
 have hb3:Below ((w.alloc (.cells #[.bool nx,.int .i64 ex,.slice ax lx cx] 41)).alloc (.cells #[.bool ny,.int .i64 ey,.slice ay ly cy] 41)).heap.size ((w.alloc (.cells #[.bool nx,.int .i64 ex,.slice ax lx cx] 41)).alloc (.cells #[.bool ny,.int .i64 ey,.slice ay ly cy] 41)) (((w.alloc (.cells #[.bool nx,.int .i64 ex,.slice ax lx cx] 41)).alloc (.cells #[.bool ny,.int .i64 ey,.slice ay ly cy] 41)).alloc (.cells #[.bool false,.int .i64 0,.slice none 0 0] 41)):=(Below.refl _ _).alloc (Nat.le_refl _) _
 have hX:Q04 (((w.alloc (.cells #[.bool nx,.int .i64 ex,.slice ax lx cx] 41)).alloc (.cells #[.bool ny,.int .i64 ey,.slice ay ly cy] 41)).alloc (.cells #[.bool false,.int .i64 0,.slice none 0 0] 41)) w.heap.size (.bool nx) (.int .i64 ex) (.slice ax lx cx):=((Q04.new w _ _ _ _).step hb2 (Q0f _ _)).step hb3 (by rw[hs2];omega)
 have hY:Q04 (((w.alloc (.cells #[.bool nx,.int .i64 ex,.slice ax lx cx] 41)).alloc (.cells #[.bool ny,.int .i64 ey,.slice ay ly cy] 41)).alloc (.cells #[.bool false,.int .i64 0,.slice none 0 0] 41)) (w.heap.size+1) (.bool ny) (.int .i64 ey) (.slice ay ly cy):=by
  have h:=(Q04.new (w.alloc (.cells #[.bool nx,.int .i64 ex,.slice ax lx cx] 41)) (.bool ny) (.int .i64 ey) (.slice ay ly cy) 41).step hb3 (Q0f _ _)
  rwa[hs1] at h
 have hR:Q04 (((w.alloc (.cells #[.bool nx,.int .i64 ex,.slice ax lx cx] 41)).alloc (.cells #[.bool ny,.int .i64 ey,.slice ay ly cy] 41)).alloc (.cells #[.bool false,.int .i64 0,.slice none 0 0] 41)) (w.heap.size+2) (.bool false) (.int .i64 0) (.slice none 0 0):=by
  have h:=Q04.new ((w.alloc (.cells #[.bool nx,.int .i64 ex,.slice ax lx cx] 41)).alloc (.cells #[.bool ny,.int .i64 ey,.slice ay ly cy] 41)) (.bool false) (.int .i64 0) (.slice none 0 0) 41
  rwa[hs2] at h
 have hB:Below w.heap.size w (((w.alloc (.cells #[.bool nx,.int .i64 ex,.slice ax lx cx] 41)).alloc (.cells #[.bool ny,.int .i64 ey,.slice ay ly cy] 41)).alloc (.cells #[.bool false,.int .i64 0,.slice none 0 0] 41)):=Below.next0 (Below.next0 hb1 hb2) hb3
 obtain ⟨W0,hW0⟩:∃W0,(((w.alloc (.cells #[.bool nx,.int .i64 ex,.slice ax lx cx] 41)).alloc (.cells #[.bool ny,.int .i64 ey,.slice ay ly cy] 41)).alloc (.cells #[.bool false,.int .i64 0,.slice none 0 0] 41))=W0:=⟨_,rfl⟩
 rw[hW0] at hs3 hX hY hR hB
 have hQ:∀W,Q0n (·=w.heap.size+2) W0 W->Q04 W w.heap.size (.bool nx) (.int .i64 ex) (.slice ax lx cx)/\Q04 W (w.heap.size+1) (.bool ny) (.int .i64 ey) (.slice ay ly cy)/\WordsIn W ax lx cx ls/\WordsIn W ay ly cy ks/\Below w.heap.size w W/\w.heap.size+2<W.heap.size:=fun W ht=>by
  have hb:=Below.turn hB ht hB.size (fun k e=>by omega)
  exact ⟨hX.turn ht (by omega) (by omega),hY.turn ht (by omega) (by omega),h1.step hb,h2.step hb,hb,Nat.lt_of_lt_of_le (by omega) ht.size⟩
 have HQ:=Lib.hid hQ
 have HR:=Xh2 hR hs3
 clear hs1 hs2 hs3 hb1 hb2 hb3 hX hY hR hB hQ h1 h2
 have hwr:IntKind.i64.wrap (ex+ey)=ex+ey:=by rw[IntKind.wrap_i64];omega
 have H00:Qni (w.heap.size+2) W0 W0.drew:=Qni.start (Xo0 HR) (by have:=(Xe1 HR);omega)
 go_enter Tryz.func54,Tryz.ntmps54
 go_wp2_with fail
 refine Q0y (E:=Qjy (w.heap.size+2) (Qas (w.heap.size+2) (.bool (nx != ny)) (.int .i64 (ex+ey)) (dig (2^64) (val (2^64) ls*val (2^64) ks)))) (Qjy.refl _ _) (by kernel_rfl) (fun W=>Qni (w.heap.size+2) W0 W) (fun _ _ h h'=>h.next h') (Q6k [.pointer (some ⟨w.heap.size,0,none⟩),.bool nx,.pointer (some ⟨(w.heap.size+1),0,none⟩),.bool ny,.bool (nx != ny),.pointer (some ⟨w.heap.size,1,none⟩),.int .i64 ex,.pointer (some ⟨(w.heap.size+1),1,none⟩),.int .i64 ey,.int .i64 (ex+ey),.pointer (some ⟨w.heap.size,2,none⟩),.slice ax lx cx,.pointer (some ⟨(w.heap.size+1),2,none⟩),.slice ay ly cy,undef,undef,undef] (Qwe 14 15 16 (w.heap.size+2) (.bool (nx != ny)) (.int .i64 (ex+ey)) (dig (2^64) (val (2^64) ls*val (2^64) ks)))) (Qcl Qf4) (Qf2 16 rfl (by kernel_rfl)) (by kernel_rfl) H00 ?_ ?_
 ·skip
  refine ⟨fun A W hW hag hdep=>?_,?_⟩
  ·have e2:A.tmps[2]?.getD undef=.pointer (some ⟨w.heap.size,0,none⟩):=Q03 (hag.keep (t:=2) (by kernel_rfl) rfl)
   refine Q01 rfl ?_
   refine Q0z (u:=.pointer (some ⟨w.heap.size,0,none⟩)) ?_ ((Q00 rfl).2 rfl)
   simp[go_sem,e2]
  refine ⟨fun A W hW hag hdep=>?_,?_⟩
  ·have e5:A.tmps[5]?.getD undef=.pointer (some ⟨w.heap.size,0,none⟩):=Q03 ((Q00 rfl).1 (hdep 0 (by decide)))
   refine Q01 rfl ?_
   obtain ⟨k0,_,_,_,_,_⟩:=(HQ.out W hW.1).1
   refine Q0z (u:=.bool nx) ?_ ((Q00 rfl).2 rfl)
   simp[go_sem,e5,k0]
  refine ⟨fun A W hW hag hdep=>?_,?_⟩
  ·have e3:A.tmps[3]?.getD undef=.pointer (some ⟨(w.heap.size+1),0,none⟩):=Q03 (hag.keep (t:=3) (by kernel_rfl) rfl)
   refine Q01 rfl ?_
   refine Q0z (u:=.pointer (some ⟨(w.heap.size+1),0,none⟩)) ?_ ((Q00 rfl).2 rfl)
   simp[go_sem,e3]
  refine ⟨fun A W hW hag hdep=>?_,?_⟩
  ·have e7:A.tmps[7]?.getD undef=.pointer (some ⟨(w.heap.size+1),0,none⟩):=Q03 ((Q00 rfl).1 (hdep 2 (by decide)))
   refine Q01 rfl ?_
   obtain ⟨k0,_,_,_,_,_⟩:=(HQ.out W hW.1).2.1
   refine Q0z (u:=.bool ny) ?_ ((Q00 rfl).2 rfl)
   simp[go_sem,e7,k0]
  refine ⟨fun A W hW hag hdep=>?_,?_⟩
  ·have e6:A.tmps[6]?.getD undef=.bool nx:=Q03 ((Q00 rfl).1 (hdep 1 (by decide)))
   have e8:A.tmps[8]?.getD undef=.bool ny:=Q03 ((Q00 rfl).1 (hdep 3 (by decide)))
   refine Q01 rfl ?_
   refine Q0z (u:=.bool (nx != ny)) ?_ ((Q00 rfl).2 rfl)
   cases nx <;> cases ny <;> simp[go_sem,e6,e8]
  refine ⟨fun A W hW hag hdep=>?_,?_⟩
  ·have e2:A.tmps[2]?.getD undef=.pointer (some ⟨w.heap.size,0,none⟩):=Q03 (hag.keep (t:=2) (by kernel_rfl) rfl)
   refine Q01 rfl ?_
   refine Q0z (u:=.pointer (some ⟨w.heap.size,1,none⟩)) ?_ ((Q00 rfl).2 rfl)
   simp[go_sem,e2]
  refine ⟨fun A W hW hag hdep=>?_,?_⟩
  ·have e10:A.tmps[10]?.getD undef=.pointer (some ⟨w.heap.size,1,none⟩):=Q03 ((Q00 rfl).1 (hdep 5 (by decide)))
   refine Q01 rfl ?_
   obtain ⟨_,k1,_,_,_,_⟩:=(HQ.out W hW.1).1
   refine Q0z (u:=.int .i64 ex) ?_ ((Q00 rfl).2 rfl)
   simp[go_sem,e10,k1]
  refine ⟨fun A W hW hag hdep=>?_,?_⟩
  ·have e3:A.tmps[3]?.getD undef=.pointer (some ⟨(w.heap.size+1),0,none⟩):=Q03 (hag.keep (t:=3) (by kernel_rfl) rfl)
   refine Q01 rfl ?_
   refine Q0z (u:=.pointer (some ⟨(w.heap.size+1),1,none⟩)) ?_ ((Q00 rfl).2 rfl)
   simp[go_sem,e3]
  refine ⟨fun A W hW hag hdep=>?_,?_⟩
  ·have e12:A.tmps[12]?.getD undef=.pointer (some ⟨(w.heap.size+1),1,none⟩):=Q03 ((Q00 rfl).1 (hdep 7 (by decide)))
   refine Q01 rfl ?_
   obtain ⟨_,k1,_,_,_,_⟩:=(HQ.out W hW.1).2.1
   refine Q0z (u:=.int .i64 ey) ?_ ((Q00 rfl).2 rfl)
   simp[go_sem,e12,k1]
  refine ⟨fun A W hW hag hdep=>?_,?_⟩
  ·have e11:A.tmps[11]?.getD undef=.int .i64 ex:=Q03 ((Q00 rfl).1 (hdep 6 (by decide)))
   have e13:A.tmps[13]?.getD undef=.int .i64 ey:=Q03 ((Q00 rfl).1 (hdep 8 (by decide)))
   refine Q01 rfl ?_
   refine Q0z (u:=.int .i64 (ex+ey)) ?_ ((Q00 rfl).2 rfl)
   simp[go_sem,e11,e13,hwr]
  refine ⟨fun A W hW hag hdep=>?_,?_⟩
  ·have e2:A.tmps[2]?.getD undef=.pointer (some ⟨w.heap.size,0,none⟩):=Q03 (hag.keep (t:=2) (by kernel_rfl) rfl)
   refine Q01 rfl ?_
   refine Q0z (u:=.pointer (some ⟨w.heap.size,2,none⟩)) ?_ ((Q00 rfl).2 rfl)
   simp[go_sem,e2]
  refine ⟨fun A W hW hag hdep=>?_,?_⟩
  ·have e15:A.tmps[15]?.getD undef=.pointer (some ⟨w.heap.size,2,none⟩):=Q03 ((Q00 rfl).1 (hdep 10 (by decide)))
   refine Q01 rfl ?_
   obtain ⟨_,_,k2,_,_,_⟩:=(HQ.out W hW.1).1
   refine Q0z (u:=.slice ax lx cx) ?_ ((Q00 rfl).2 rfl)
   simp[go_sem,e15,k2]
  refine ⟨fun A W hW hag hdep=>?_,?_⟩
  ·have e3:A.tmps[3]?.getD undef=.pointer (some ⟨(w.heap.size+1),0,none⟩):=Q03 (hag.keep (t:=3) (by kernel_rfl) rfl)
   refine Q01 rfl ?_
   refine Q0z (u:=.pointer (some ⟨(w.heap.size+1),2,none⟩)) ?_ ((Q00 rfl).2 rfl)
   simp[go_sem,e3]
  refine ⟨fun A W hW hag hdep=>?_,?_⟩
  ·have e17:A.tmps[17]?.getD undef=.pointer (some ⟨(w.heap.size+1),2,none⟩):=Q03 ((Q00 rfl).1 (hdep 12 (by decide)))
   refine Q01 rfl ?_
   obtain ⟨_,_,k2,_,_,_⟩:=(HQ.out W hW.1).2.1
   refine Q0z (u:=.slice ay ly cy) ?_ ((Q00 rfl).2 rfl)
   simp[go_sem,e17,k2]
  refine ⟨fun A W hW hag hdep=>?_,?_⟩
  ·have e16:A.tmps[16]?.getD undef=.slice ax lx cx:=Q03 ((Q00 rfl).1 (hdep 11 (by decide)))
   have e18:A.tmps[18]?.getD undef=.slice ay ly cy:=Q03 ((Q00 rfl).1 (hdep 13 (by decide)))
   refine Q01 rfl ?_
   refine Qf3 (f:=98) (args:= #[.slice ax lx cx,.slice ay ly cy]) (by simp[go_sem,e16,e18]) ((Qcg ax lx cx ls ay ly cy ks W (HQ.out W hW.1).2.2.1 (HQ.out W hW.1).2.2.2.1 (by omega) (by omega)).mono ?_)
   rintro e w2 ⟨a,n,c,rfl,hw,hb⟩
   exact ⟨_,rfl,hb,(Q06 rfl).2 ⟨a,n,c,rfl,hw⟩⟩
  refine ⟨fun A W hW hag hdep=>?_,?_⟩
  ·have e9:A.tmps[9]?.getD undef=.bool (nx != ny):=Q03 ((Q00 rfl).1 (hdep 4 (by decide)))
   have e14:A.tmps[14]?.getD undef=.int .i64 (ex+ey):=Q03 ((Q00 rfl).1 (hdep 9 (by decide)))
   refine Q01 rfl ?_
   obtain ⟨a,n,c,hv,hw⟩:=(Q06 rfl).1 (hdep 14 (by decide))
   have e19:=Q03 hv
   refine Q0z (u:=.agg #[.bool (nx != ny),.int .i64 (ex+ey),.slice a n c]) ?_ ((Q06 rfl).2 ⟨a,n,c,rfl,hw⟩)
   simp[go_sem,e9,e14,e19]
  refine ⟨fun A W hW hag hdep=>?_,?_⟩
  ·have e4:A.tmps[4]?.getD undef=.pointer (some ⟨(w.heap.size+2),0,none⟩):=Q03 (hag.keep (t:=4) (by kernel_rfl) rfl)
   refine Q01 rfl ?_
   obtain ⟨a,n,c,hv,hw⟩:=(Q06 rfl).1 (hdep 15 (by decide))
   have e20:=Q03 hv
   obtain ⟨⟨b9,e9,a9,n9,c9,hN⟩,hlt⟩:=hW.2.1
   have k0:=hN.c0
   have f0:=hN.f0
   have f1:=hN.f1
   have f2:=hN.f2
   have d1:=hN.d1 (.bool (nx != ny))
   have d2:=hN.d2 (.bool (nx != ny)) (.int .i64 (ex+ey))
   refine Qck hW.2.1 hw (b:=nx != ny) (e:=ex+ey) rfl rfl ?_ (fun w' h=>(Q06 rfl).2 h)
   simp[go_sem,e4,e20,k0,f0,f1,f2,d1,d2]
  exact trivial
 intro vs W1 hW1 hvs
 obtain ⟨a,n,c,hN1,hlt1,hw1⟩:=(Q06 rfl).1 (hvs 16 (by decide))
 simp only[Q10,Act.put,List.setIfInBounds_toArray,List.set_cons_zero,List.set_cons_succ]
 have k0:=hN1.c0
 have k1:=hN1.c1
 have k2:=hN1.c2
 have hbw:=(HQ.out W1 hW1.1).2.2.2.2.1
 have HE:=Xh2 hw1 hbw
 clear hvs hW1 hw1 hbw hN1
 go_wp2_with fail
 exact ⟨rfl,.agg #[.bool (nx != ny),.int .i64 (ex+ey),.slice a n c],by simp[results,go_sem,k0,k1,k2],a,n,c,rfl,(Xo0 HE),(Xe1 HE)⟩
end Go.Proofs.YtdilmfakkppgpaaGreatDoor
