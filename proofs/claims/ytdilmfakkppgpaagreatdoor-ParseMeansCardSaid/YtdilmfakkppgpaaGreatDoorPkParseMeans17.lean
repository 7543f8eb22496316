/- Part 17 of the proof of LawParseMeans: FlatX, RdrA, DigD, DigE, RefM. Condition: as each theorem says; none at the end. -/
import Derived.Lib.ParseIntBCases
import Derived.Lib.AtoiErrMem
import Derived.Test.YtdilmfakkppgpaaGreatDoorPkParseMeans16
set_option maxRecDepth 100000
set_option maxHeartbeats 16000000
namespace Go.Proofs.YtdilmfakkppgpaaGreatDoor
open Go Go.RowKit
section
variable {P:Program} {ops:Array Oper}
def Q36 (D:Nat->Bool) (k:Nat):Nat->Bool:=fun j=>if j=k then true else D j
def Q2q (vs:Nat->Value) (k:Nat) (v:Value):Nat->Value:=fun j=>if j=k then v else vs j
theorem Q43 (D:Nat->Bool) (k:Nat):Q36 D k k=true:=if_pos rfl
theorem Q31 {D:Nat->Bool} {k j:Nat} {oj:Oper} (hcl:∀j oj,ops[j]?=some oj->D j=true->∀i∈Q34 oj,D i=true) (hj:ops[j]?=some oj) (hk:k∈Q34 oj) (hD:D k=false):D j=false:=by
 cases hb:D j with
 |false=>rfl
 |true=>have:=hcl j oj hj hb k hk;rw[hD] at this;cases this
theorem Qe1 {l:List Oper} {x y:Nat} (hl:(l.zipIdx.all fun p=>p.1.dst.isSome || (p.2==x || p.2==y))=true) {i:Nat} {o:Oper} (hi:l[i]?=some o) (hd:o.dst=none):i=x∨i=y:=by
 have hm:(o,i)∈l.zipIdx:=by rw[List.mem_zipIdx_iff_getElem?];exact hi
 have h1:=List.all_eq_true.1 hl _ hm
 simpa[hd] using h1
abbrev Qpf:=(Nat->Bool)->(Nat->Value)->World->Prop
def Q26 (P:Program) (K:Value->World->Prop):Result Next->Prop
 | .ok (.value u) w'=>K u w'
 | .ok (.enter f args) w'=>Calls P f args w' fun e w''=>∃v,e=.returned v/\K v w''
 | .ok .skip w'=>K undef w'
 |_=>False
def Q5l (P:Program) (ops:Array Oper) (I:Qpf) (a0:Act) (k:Nat) (o:Oper):Prop:=
 ∀a w D,I D (Q0e ops a) w->Q8n ops a0 a->D k=false->(∀i∈Q34 o,D i=true)->(∀j oj,ops[j]?=some oj->D j=true->∀i∈Q34 oj,D i=true)->
  Region.wanted o (yielded ops a.tmps)=true/\Q26 P (fun u w'=>I (Q36 D k) (Q2q (Q0e ops a) k u) w') ((execOp a.eval o).run P w)
def Q3g (P:Program) (ops:Array Oper) (I:Qpf) (a0:Act):List Oper->Nat->Prop
 |[],_=>True
 |o::r,k=>Q5l P ops I a0 k o/\Q3g P ops I a0 r (k+1)
theorem Q3g.at_ {I:Qpf} {a0:Act} (l:List Oper):∀(k i:Nat) (o:Oper),Q3g P ops I a0 l k->l[i]?=some o->Q5l P ops I a0 (k+i) o:=by
 induction l with
 |nil=>intro k i o _ ho;simp at ho
 |cons x r ih=>
  intro k i o h ho
  cases i with
  |zero=>
   simp only[List.getElem?_cons_zero,Option.some.injEq] at ho
   subst ho
   exact h.1
  |succ i=>
   have:=ih (k+1) i o h.2 (by simpa using ho)
   rwa[show k+1+i=k+(i+1) by omega] at this
variable {F:Fence} {n:Nat} {Q:Exit->Act->World->Prop}
structure Qke (ops:Array Oper) (I:Qpf) (a0:Act) (listed:Array Bool) (a:Act) (w:World):Prop where
 inv:I (fun j=>listed.getD j false) (Q0e ops a) w
 agree:Q8n ops a0 a
 size:listed.size=ops.size
 closed:∀j oj,ops[j]?=some oj->listed.getD j false=true->∀i∈Q34 oj,listed.getD i false=true
theorem Q80 (hF1:∀f,F.fn f) (hF2:F.depth=none) (hF3:∀m f args w R,Calls P f args w R->CallsIn F m P f args w R) (I:Qpf) (hN:∀(i:Nat) o,ops[i]?=some o->o.dst=none->∀D vs v w,I D (Q2q vs i v) w->I D vs w) (a0:Act) (hB:Q6a ops.toList a0.tmps.size=true)
 (step:Q3g P ops I a0 ops.toList 0) (fin:∀D vs w,(∀j,j<ops.size->D j=true)->I D vs w->Q .normal (Q10 vs ops.toList 0 a0) w):
 ∀(fuel:Nat) (listed:Array Bool) (a:Act) (w:World),listed.toList.count false<=fuel->Qke ops I a0 listed a w->wpAnyIn F n P .any ops Q fuel listed a w:=by
 obtain ⟨hd1,hd2,hd3,hd4⟩:=Qcj hB
 have done:∀(listed:Array Bool) (a:Act) (w:World),(∀j,j<ops.size->listed.getD j false=true)->Qke ops I a0 listed a w->Q .normal a w:=by
  intro listed a w hall inv
  have:=fin _ (Q0e ops a) w hall inv.inv
  rwa[Q6n a ops.toList 0 (Q0e ops a) a0 (fun j o t ho h1=>?_) inv.agree.1.symm inv.agree.2.1.symm (fun t ht=>(inv.agree.2.2 t ht).symm)] at this
  refine ⟨by rw[inv.agree.2.1];exact hd1 j o t ho h1,?_⟩
  have ho':ops[j]?=some o:=by rw[<-Array.getElem?_toList];exact ho
  unfold Q0e
  rw[Nat.zero_add,ho']
  simp[h1]
 have none_ready:∀(listed:Array Bool),listed.size=ops.size->Region.ready .any ops listed=[]->∀j,j<ops.size->listed.getD j false=true:=by
  intro listed hz hr j
  induction j using Nat.strongRecOn with
  |ind j ih=>
   intro hj
   cases hb:listed.getD j false with
   |true=>rfl
   |false=>
    exfalso
    have hjl:j<listed.size:=by omega
    have hb':listed.getD j true=false:=by
     rw[Array.getD_eq_getD_getElem?,Array.getElem?_eq_getElem hjl] at hb⊢
     exact hb
    have ho:ops[j]?=some ops[j]:=Array.getElem?_eq_getElem hj
    have:j∈Region.ready .any ops listed:=mem_ready.2 ⟨hb',ops[j],ho,fun e he hb2=>?_⟩
    ·rw[hr] at this;cases this
    ·have hlt:=hd3 j ops[j] (by rw[Array.getElem?_toList];exact ho) e (by simpa using he) hb2
     exact ih e.on hlt (by omega)
 intro fuel
 induction fuel with
 |zero=>
  intro listed a w hc inv
  have hall:∀j,j<ops.size->listed.getD j false=true:=fun j hj=>by
   have:=Q9a listed.toList (by omega) j (by rw[Array.length_toList,inv.size];exact hj)
   rw[Array.getElem?_toList] at this
   rw[Array.getD_eq_getD_getElem?,this];rfl
  refine ⟨?_,done listed a w hall inv⟩
  refine List.eq_nil_iff_forall_not_mem.2 fun i hi=>?_
  obtain ⟨h1,o,ho,_⟩:=mem_ready.1 hi
  have hil:i<ops.size:=(Array.getElem?_eq_some_iff.1 ho).1
  have h2:=hall i hil
  have hil':i<listed.size:=by rw[inv.size];exact hil
  rw[Array.getD_eq_getD_getElem?,Array.getElem?_eq_getElem hil'] at h1 h2
  rw[Option.getD_some] at h1 h2
  rw[h1] at h2;cases h2
 |succ fuel ih=>
  intro listed a w hc inv
  refine ⟨fun hr=>done listed a w (none_ready listed inv.size hr) inv,fun i hi=>?_⟩
  obtain ⟨h1,o,ho,hdep⟩:=mem_ready.1 hi
  have hil:i<ops.size:=(Array.getElem?_eq_some_iff.1 ho).1
  have hil':i<listed.size:=by rw[inv.size];exact hil
  have hol:ops.toList[i]?=some o:=by rw[Array.getElem?_toList];exact ho
  have hif:listed.getD i false=false:=by
   rw[Array.getD_eq_getD_getElem?,Array.getElem?_eq_getElem hil'] at h1⊢
   exact h1
  have hdeps:∀j∈Q34 o,listed.getD j false=true:=fun j hj=>by
   obtain ⟨e,he,rfl⟩:=List.mem_map.1 hj
   obtain ⟨he,hb⟩:=List.mem_filter.1 he
   exact hdep e (by simpa using he) hb
  have hst:=Q3g.at_ _ _ _ _ step hol
  rw[Nat.zero_add] at hst
  have hstep:=hst a w (fun j=>listed.getD j false) inv.inv inv.agree hif hdeps inv.closed
  have hlf:listed.toList[i]?=some false:=by
   rw[Array.getElem?_toList,Array.getElem?_eq_getElem hil']
   rw[Array.getD_eq_getD_getElem?,Array.getElem?_eq_getElem hil',Option.getD_some] at h1
   rw[h1]
  have hcnt:(listed.setIfInBounds i true).toList.count false<=fuel:=by
   rw[Array.toList_setIfInBounds]
   have:=Q58 listed.toList i hlf
   omega
  have hset:(fun j=>(listed.setIfInBounds i true).getD j false)=Q36 (fun j=>listed.getD j false) i:=by
   funext j
   unfold Q36
   rw[Array.getD_eq_getD_getElem?,Array.getElem?_setIfInBounds]
   by_cases hji:j=i
   ·subst hji
    rw[if_pos rfl,if_pos hil',if_pos rfl];rfl
   ·rw[if_neg (fun e=>hji e.symm),if_neg hji,<-Array.getD_eq_getD_getElem?]
  have hclosed:∀j oj,ops[j]?=some oj->(listed.setIfInBounds i true).getD j false=true->∀k∈Q34 oj,(listed.setIfInBounds i true).getD k false=true:=by
   intro j oj hoj hj k hk
   have e1:(listed.setIfInBounds i true).getD j false=Q36 (fun j=>listed.getD j false) i j:=congrFun hset j
   have e2:(listed.setIfInBounds i true).getD k false=Q36 (fun j=>listed.getD j false) i k:=congrFun hset k
   rw[e1] at hj
   rw[e2]
   unfold Q36 at*
   by_cases hki:k=i
   ·rw[if_pos hki]
   ·rw[if_neg hki]
    by_cases hji:j=i
    ·subst hji
     rw[ho] at hoj
     injection hoj with hoj
     subst hoj
     exact hdeps k hk
    ·rw[if_neg hji] at hj
     exact inv.closed j oj hoj hj k hk
  have next:∀v w',I (Q36 (fun j=>listed.getD j false) i) (Q2q (Q0e ops a) i v) w'->wpAnyIn F n P .any ops Q fuel (listed.setIfInBounds i true) (a.put o.dst v) w':=by
   intro v w' hv
   rw[<-hset] at hv
   cases hto:o.dst with
   |none=>exact ih _ _ _ hcnt ⟨hN i o ho hto _ _ _ _ hv,inv.agree,by rw[Array.size_setIfInBounds];exact inv.size,hclosed⟩
   |some t=>
    have htl:=hd1 i o t hol hto
    refine ih _ _ _ hcnt ⟨?_,?_,by rw[Array.size_setIfInBounds];exact inv.size,hclosed⟩
    ·have hsl:Q0e ops (a.put (some t) v)=Q2q (Q0e ops a) i v:=by
      funext j
      unfold Q2q
      by_cases hji:j=i
      ·subst hji
       rw[if_pos rfl]
       unfold Q0e
       rw[ho,Option.bind_some,hto]
       show (a.put (some t) v).tmps.getD t undef=v
       rw[Q3x,Array.getD_eq_getD_getElem?,Array.getElem?_setIfInBounds,if_pos rfl,if_pos (by rw[inv.agree.2.1];exact htl)];rfl
      ·rw[if_neg hji]
       unfold Q0e
       cases hoj:ops[j]? with
       |none=>rfl
       |some oj=>
        rw[Option.bind_some]
        cases hdj:oj.dst with
        |none=>rfl
        |some t2=>
         show (a.put (some t) v).tmps.getD t2 undef=a.tmps.getD t2 undef
         rw[Q3x,Array.getD_eq_getD_getElem?,Array.getElem?_setIfInBounds,if_neg ?_,<-Array.getD_eq_getD_getElem?]
         intro e
         exact hji (hd2 j i oj o t2 (by rw[Array.getElem?_toList];exact hoj) hol hdj (by rw[hto,e]))
     rw[hsl];exact hv
    ·refine ⟨inv.agree.1,by rw[Q3x,Array.size_setIfInBounds];exact inv.agree.2.1,fun t' ht'=>?_⟩
     rw[Q3x,Array.getElem?_setIfInBounds,if_neg ?_]
     ·exact inv.agree.2.2 t' ht'
     ·intro e
      exact ht' o (List.mem_of_getElem? hol) (by rw[hto,e])
  obtain ⟨hw,hstep⟩:=hstep
  unfold wpOpIn
  simp only[ho]
  rw[if_pos hw]
  unfold Oper.wpIn
  refine ⟨fun f _=>hF1 f,?_⟩
  have hsem:o.semAt F.round a.eval=execOp a.eval o:=by
   cases hr:F.round with
   |none=>rw[Oper.semAt_none]
   |some l=>exact Oper.semAt_some l _ o (hd4 i o hol)
  rw[hsem]
  generalize (execOp a.eval o).run P w=res at hstep
  cases res with
  |ok x w'=>
   cases x with
   |value u=>exact next u w' hstep
   |enter f args=>
    refine ⟨(fun h=>by rw[hF2] at h;cases h),hF3 _ _ _ _ _ (Calls.mono hstep ?_)⟩
    rintro e w'' ⟨v,rfl,hv⟩
    exact next v w'' hv
   |skip=>
    exact next undef w' hstep
   |_=>exact hstep.elim
  |halt x w'=>exact hstep.elim
theorem Q3h {id:Nat} {l:List Oper} {a0:Act} {w:World} (hm:P.follows .mixedOrders=true) (I:Qpf) (hN:∀(i:Nat) o,l[i]?=some o->o.dst=none->∀D vs v w,I D (Q2q vs i v) w->I D vs w) (hB:Q6a l a0.tmps.size=true) (h0:∀vs,I (fun _=>false) vs w.drew)
 (step:Q3g P l.toArray I a0 l 0) (fin:∀D vs w,(∀j,j<l.length->D j=true)->I D vs w->Q .normal (Q10 vs l 0 a0) w):(Code.region id l.toArray true).wp P Q a0 w:=
 (wpIn_wide (n:=6)).1 (wpIn_region_any hm (Q80 (fun _=>trivial) rfl (fun m _ _ _ _ h=>callsIn_wide.2 h) I (by simpa using hN) a0 hB (by simpa using step) (by simpa using fin) _ _ _ _ (by simp)
   ⟨by
     have hf:(fun j=>(Array.replicate l.toArray.size false).getD j false)=fun _=>false:=by
      funext j
      rw[Array.getD_eq_getD_getElem?,Array.getElem?_replicate]
      split <;> rfl
     rw[hf];exact h0 _,⟨rfl,rfl,fun _ _=>rfl⟩,by simp,fun j oj _ hj=>by
     rw[Array.getD_eq_getD_getElem?,Array.getElem?_replicate] at hj
     split at hj <;> cases hj⟩))
end
end Go.Proofs.YtdilmfakkppgpaaGreatDoor
namespace Go.Proofs.YtdilmfakkppgpaaGreatDoor
open Go.RowKit WordsM
theorem Qm3 (s:ByteArray) {p:Nat} (h:p<s.size):Q09 s.data.toList p=s[p]'h:=by
 rw[Q5j (s:=s.data.toList) (j:=p) (by simpa using h)]
 exact Array.getElem_toList _
theorem Qm4 (s:ByteArray) {p:Nat} (h:¬p<s.size):Q09 s.data.toList p=0:=by
 unfold Q09
 rw[List.getD_eq_getElem?_getD,List.getElem?_eq_none (by simpa using h)];rfl
def atOf (w:World) (R:Nat):Nat:=match w.cell? ⟨R,1,none⟩ with|some (.int _ n)=>n.toNat|_=>0
theorem Q0p.atOf {w:World} {R:Nat} {s:ByteArray} {p:Nat} {m d:Int} {bad:Bool} (h:Q0p w R s (p:Int) m d bad):atOf w R=p:=by
 unfold Go.Proofs.YtdilmfakkppgpaaGreatDoor.atOf
 rw[h.c1];simp
theorem Q8y (fp:Nat->Prop) (w:World) (k:Nat):Q0n fp w (w.drewN k):=(Q0n.refl fp w).drewN k
section
variable {w:World} {R:Nat} {s:ByteArray} {p:Nat} {m d:Int} {bad:Bool}
theorem Qa6 (h:Q0p w R s (p:Int) m d bad) (_hs:s.size<=281474976710656):
 Calls Tryz.prog 131 #[.pointer (some ⟨R,0,none⟩)] w fun e w'=>e=.returned (.int .u8 ((nxB s.data.toList p bad).toNat:Int))/\∃k,w'=w.drewN k:=by
 obtain ⟨c0,c1,c2,c3,c4,_,_,_,_,_,_,_⟩:=id h
 clear h
 cases bad with
 |true=>
  go_enter Tryz.func131,Tryz.ntmps131
  go_wp2_with fail
  go_quiet (fail)
  go_wp2_with fail
  go_ret
  exact ⟨rfl,_,rfl⟩
 |false=>
  by_cases hlt:p<s.size
  ·have hlt':¬(s.size:Int)<=(p:Int):=by omega
   have hlt2:(p:Int)<(s.size:Int):=by omega
   have hv:nxB s.data.toList p false=s[p]'hlt:=Qm3 s hlt
   rw[hv]
   clear hv
   go_enter Tryz.func131,Tryz.ntmps131
   go_wp2_with fail
   go_quiet (fail)
   go_wp2_with fail
   go_quiet (fail)
   go_wp2_with fail
   go_ret
   exact ⟨rfl,_,by rw[World.drewN_drewN]⟩
  ·have hlt':(s.size:Int)<=(p:Int):=by omega
   have hv:nxB s.data.toList p false=0:=Qm4 s hlt
   rw[hv]
   clear hv
   go_enter Tryz.func131,Tryz.ntmps131
   go_wp2_with fail
   go_quiet (fail)
   go_wp2_with fail
   go_ret
   exact ⟨rfl,_,rfl⟩
theorem Q4p {p:Int} (h:Q0p w R s p m d bad) (q:Int):
 Calls Tryz.prog 132 #[.pointer (some ⟨R,0,none⟩),.int .i64 q] w fun e w'=>e=.returned (.tuple #[])/\Q0p w' R s (if bad=true then p else q) m d true/\Q0n (OnR R) w w':=by
 obtain ⟨c0,c1,c2,c3,c4,f0,f1,f2,f3,f4,_,_⟩:=id h
 have H:=Lib.hid h
 clear h
 cases bad with
 |true=>
  go_enter Tryz.func132,Tryz.ntmps132
  go_wp2_with fail
  exact ⟨rfl,.tuple #[],by simp[results],rfl,H.out,Q0n.refl _ _⟩
 |false=>
  go_enter Tryz.func132,Tryz.ntmps132
  go_wp2_with fail
  exact ⟨rfl,.tuple #[],by simp[results],rfl,(H.out.setBad true).setAt q,(Q1s _ _ _ _).trans0 (Q1s _ _ _ _)⟩
theorem Qud {L:List UInt8} {q:Nat} {bad:Bool} (h:nxB L q bad=32):bad=false/\q<L.length/\skS L (q+1) bad=skS L q bad:=by
 obtain ⟨rfl,h1,h2⟩:=Qub (s:=L) (p:=q) (bad:=bad) (by rw[h];decide)
 exact ⟨rfl,h1,by unfold skS;simp only[Bool.false_eq_true,if_false];exact (Q35 (by rw[<-h2];exact h)).symm⟩
theorem Que {L:List UInt8} {q:Nat} {bad:Bool} (h:nxB L q bad≠32):skS L q bad=q:=by
 unfold skS
 cases bad
 ·simp only[Bool.false_eq_true,if_false];exact Q6d (by simpa[nxB] using h)
 ·rfl
theorem Q30 (h:Q0p w R s (p:Int) m d bad) (hp:p<=s.size) (hs:s.size<=281474976710656):
 Calls Tryz.prog 81 #[.pointer (some ⟨R,0,none⟩)] w fun e w'=>e=.returned (.int .u8 ((nxB s.data.toList (skS s.data.toList p bad) bad).toNat:Int))/\Q0p w' R s ((skS s.data.toList p bad:Nat):Int) m d bad/\Q0n (OnR R) w w':=by
 obtain ⟨L,hL⟩:∃L,s.data.toList=L:=⟨_,rfl⟩
 have hLs:L.length=s.size:=by rw[<-hL];rfl
 rw[hL]
 obtain ⟨V,hV⟩:∃V,skS L p bad=V:=⟨_,rfl⟩
 rw[hV]
 have H:=Xh4 h hL hLs hV
 clear h hL hLs hV
 go_enter Tryz.func81,Tryz.ntmps81
 go_wp2_with fail
 go_loopw [] (fun wr=>∃q:Nat,q<=s.size/\Q0p wr R s (q:Int) m d bad/\skS L q bad=V/\Q0n (OnR R) w wr) (fun wr=>s.size-atOf wr R)
 case atStart=>exact ⟨p,hp,(Xo0 H),(Xe3 H),Q0n.refl _ _⟩
 case round=>
  obtain ⟨q,hq,hr,hsk,ht⟩:=hrel
  obtain ⟨c,hc⟩:∃c,nxB L q bad=c:=⟨_,rfl⟩
  have hn:=Qa6 hr hs
  rw[(Xo1 H),hc] at hn
  have hn2:=fun k=>Qa6 (hr.drewN k) hs
  rw[(Xo1 H),hc] at hn2
  by_cases h32:c=32
  ·subst h32
   obtain ⟨hbf,hlt,hst⟩:=Qud hc
   have hwr:IntKind.i64.wrap ((q:Int)+1)=(q:Int)+1:=by rw[IntKind.wrap_i64];have:=(Xo2 H);omega
   have HN:=Xh6 hn hr hsk ht hlt hst
   clear hn hn2 hr hsk ht hlt hst hc hbf
   go_wp2_with (refine (Xo0 HN).mono ?_;rintro r w1 ⟨rfl,k,rfl⟩;have c1:=((Xo1 HN).drewN k).c1;have f1:=((Xo1 HN).drewN k).f1)
   have hr1:=((Xo1 HN).drewN k).setAt ((q:Int)+1)
   have hr2:Q0p ((wr.drewN k).setCell ⟨R,1,none⟩ (.int .i64 ((q:Int)+1))) R s ((q+1:Nat):Int) m d bad:=hr1
   refine ⟨⟨q+1,?_,hr2,?_,?_⟩,?_⟩
   ·have:=(Xo4 HN);have:=(Xo2 H);omega
   ·rw[(Xe5 HN)];exact (Xo2 HN)
   ·exact ((Xo3 HN).drewN k).trans0 (Q1s _ _ _ _)
   ·have h1:=(Xo1 HN).atOf
    have h2:=hr2.atOf
    have:=(Xo4 HN);have:=(Xo2 H)
    omega
  ·have hne:((c.toNat:Int)==32)=false:=by
    rw[beq_eq_false_iff_ne]
    intro e
    apply h32
    apply UInt8.toNat_inj.1
    have h32n:(32:UInt8).toNat=32:=rfl
    omega
   have hst:=Que (bad:=bad) (L:=L) (q:=q) (by rw[hc];exact h32)
   have hqV:q=V:=by rw[<-hsk,hst]
   have HN:=Xh6 hn hr hqV ht hc hn2
   clear hn hr hsk ht hst hc hqV hn2
   go_wp2_with (first|(refine (Xo0 HN).mono ?_;rintro r w1 ⟨rfl,k,rfl⟩)|(refine ((Xe5 HN) _).mono ?_;rintro r w1 ⟨rfl,k2,rfl⟩))
   go_ret
   refine ⟨?_,?_,?_⟩
   ·rw[<-(Xo2 HN),(Xo4 HN)];rfl
   ·rw[<-(Xo2 HN),<-World.drewN_drewN];exact ((Xo1 HN).drewN k).drewN k2
   ·rw[<-World.drewN_drewN];exact ((Xo3 HN).drewN k).drewN k2
theorem Qcu (h:Q0p w R s (p:Int) m d bad) (hp:p<=s.size) (hs:s.size<=281474976710656) (lo hi:Int) (hlo:0<=lo):
 Calls Tryz.prog 192 #[.pointer (some ⟨R,0,none⟩),.int .i64 lo,.int .i64 hi] w fun e w'=>
  ((bad=false/\lo<=((Q09 s.data.toList p).toNat:Int)-48/\((Q09 s.data.toList p).toNat:Int)-48<=hi/\e=.returned (.int .i64 (((Q09 s.data.toList p).toNat:Int)-48))/\Q0p w' R s ((p+1:Nat):Int) m d false)∨
    (¬(bad=false/\lo<=((Q09 s.data.toList p).toNat:Int)-48/\((Q09 s.data.toList p).toNat:Int)-48<=hi)/\e=.returned (.int .i64 0)/\Q0p w' R s (p:Int) m d true))/\Q0n (OnR R) w w':=by
 obtain ⟨t,ht⟩:∃t:Int,((nxB s.data.toList p bad).toNat:Int)=t:=⟨_,rfl⟩
 have ht1:0<=t:=by omega
 have ht2:t<256:=by have:=(nxB s.data.toList p bad).toNat_lt;omega
 have hbyte:bad=false->((Q09 s.data.toList p).toNat:Int)=t:=by rintro rfl;exact ht
 have hbad:bad=true->t=0:=by rintro rfl;rw[<-ht];rfl
 have hn:=Qa6 h hs
 rw[ht] at hn
 have hwr:=fun (k:Nat) (q:Int)=>Q4p (h.drewN k) q
 have hw0:IntKind.i64.wrap t=t:=by rw[IntKind.wrap_i64];omega
 have hw1:IntKind.i64.wrap (t-48)=t-48:=by rw[IntKind.wrap_i64];omega
 have hw2:IntKind.i64.wrap ((p:Int)+1)=(p:Int)+1:=by rw[IntKind.wrap_i64];omega
 have H:=Xh5 h hbyte hbad hn hwr
 have hps:(p:Int)<=(s.size:Int):=by omega
 have HS:=Xh6 hs ht ht1 ht2 hlo hps
 clear h hbyte hbad hn hwr hs ht ht1 ht2 hlo hps hp
 by_cases hl:t-48<lo
 ·have hN:¬(bad=false/\lo<=((Q09 s.data.toList p).toNat:Int)-48/\((Q09 s.data.toList p).toNat:Int)-48<=hi):=fun ⟨hb,h1,_⟩=>by have:=(Xo1 H) hb;omega
  have HN:=Lib.hid hN
  clear hN
  go_enter Tryz.func192,Tryz.ntmps192
  go_wp2_with (first
   |(go_at_call_of 131 (Value.pointer (some ⟨R,0,none⟩));refine (Xo3 H).mono ?_;rintro r w1 ⟨rfl,k,rfl⟩;have c1:=((Xo0 H).drewN k).c1)
   |(refine ((Xe4 H) _ _).mono ?_;rintro r w2 ⟨rfl,hr2,ht2⟩;have HB:=Xh2 hr2 ht2;clear hr2 ht2))
  go_ret
  refine ⟨.inr ⟨HN.out,rfl,?_⟩,(Q8y _ _ _).trans0 (Xe1 HB)⟩
  have h1:=(Xo0 HB)
  split at h1 <;> exact h1
 ·by_cases hh:hi<t-48
  ·have hN:¬(bad=false/\lo<=((Q09 s.data.toList p).toNat:Int)-48/\((Q09 s.data.toList p).toNat:Int)-48<=hi):=fun ⟨hb,_,h1⟩=>by have:=(Xo1 H) hb;omega
   have HN:=Lib.hid hN
   clear hN
   go_enter Tryz.func192,Tryz.ntmps192
   go_wp2_with (first
    |(go_at_call_of 131 (Value.pointer (some ⟨R,0,none⟩));refine (Xo3 H).mono ?_;rintro r w1 ⟨rfl,k,rfl⟩;have c1:=((Xo0 H).drewN k).c1)
    |(refine ((Xe4 H) _ _).mono ?_;rintro r w2 ⟨rfl,hr2,ht2⟩;have HB:=Xh2 hr2 ht2;clear hr2 ht2))
   go_ret
   refine ⟨.inr ⟨HN.out,rfl,?_⟩,(Q8y _ _ _).trans0 (Xe1 HB)⟩
   have h1:=(Xo0 HB)
   split at h1 <;> exact h1
  ·have hbf:bad=false:=by
    cases bad with
    |false=>rfl
    |true=>have:=(Xo2 H) rfl;have:=HS.out;omega
   subst hbf
   have HB:=Lib.hid ((Xo1 H) rfl)
   go_enter Tryz.func192,Tryz.ntmps192
   go_wp2_with (first
    |(go_at_call_of 131 (Value.pointer (some ⟨R,0,none⟩));refine (Xo3 H).mono ?_;rintro r w1 ⟨rfl,k,rfl⟩;have c1:=((Xo0 H).drewN k).c1;have f1:=((Xo0 H).drewN k).f1))
   go_ret
   refine ⟨.inl ⟨trivial,?_,?_,?_,?_⟩,(Q8y _ _ _).trans0 (Q1s _ _ _ _)⟩
   ·rw[HB.out];omega
   ·rw[HB.out];omega
   ·rw[HB.out];rfl
   ·exact ((Xo0 H).drewN k).setAt ((p:Int)+1)
theorem Q81 {s:ByteArray} {p:Nat} (hp:p<s.size):s.data.toList.drop p=(s[p]'hp)::s.data.toList.drop (p+1):=by
 rw[List.drop_eq_getElem_cons (show p<s.data.toList.length from hp)]
 congr 1
theorem Qit {s:ByteArray} {i:Nat} (hi:i<s.size) (h:48<=(s[i]'hi).toNat/\(s[i]'hi).toNat<=57):Q1h s.data.toList (i+1)=Q1h s.data.toList i:=by
 unfold Q1h
 rw[Q81 hi,DecM.digN,if_pos h];omega
theorem Q76 {s:ByteArray} {i:Nat} (h:∀hi:i<s.size,¬(48<=(s[i]'hi).toNat/\(s[i]'hi).toNat<=57)):Q1h s.data.toList i=i:=by
 unfold Q1h
 by_cases hi:i<s.size
 ·rw[Q81 hi,DecM.digN,if_neg (h hi)];rfl
 ·rw[List.drop_of_length_le (by show s.data.toList.length<=i;have:s.data.toList.length=s.size:=rfl;omega)];rfl
theorem Qcv {p:Int} (h:Q0p w R s p m d bad) (a:Nat) (ha:a<=s.size) (hs:s.size<=281474976710656):
 Calls Tryz.prog 229 #[.pointer (some ⟨R,0,none⟩),.int .i64 (a:Int)] w fun e w'=>e=.returned (.int .i64 ((Q1h s.data.toList a:Nat):Int))/\w=w':=by
 obtain ⟨V,hV⟩:∃V,Q1h s.data.toList a=V:=⟨_,rfl⟩
 rw[hV]
 have c0:=h.c0
 have H:=Xh3 hV ha hs
 clear h hV ha hs
 go_enter Tryz.func229,Tryz.ntmps229
 go_wp2_with fail
 go_loopw [1] (fun v wr=>∃i:Nat,v=.int .i64 (i:Int)/\i<=s.size/\Q1h s.data.toList i=V/\w=wr) (fun v _=>s.size-(intOf v).toNat)
 case atStart=>exact ⟨a,rfl,(Xo1 H),(Xo0 H),rfl⟩
 case round=>
  obtain ⟨i,rfl,hi,hw,rfl⟩:=hrel
  have HW:=Xh2 hi hw
  clear hi hw
  by_cases hlt:i<s.size
  ·have hlt':(i:Int)<(s.size:Int):=by omega
   by_cases h48:(48:Int)<=((s[i]'hlt).toNat:Int)
   ·by_cases h57:((s[i]'hlt).toNat:Int)<=57
    ·have hwr:IntKind.i64.wrap ((i:Int)+1)=(i:Int)+1:=by rw[IntKind.wrap_i64];have:=(Xe2 H);omega
     go_wp2_with fail
     have hst:=Qit hlt ⟨by omega,by omega⟩
     refine ⟨⟨i+1,?_,by omega,hst.trans (Xe1 HW),trivial⟩,?_⟩
     ·exact congrArg (Value.int .i64) (by omega)
     ·simp[intOf];omega
    ·have HV:=Lib.hid (show i=V from by rw[<-(Xe1 HW),Q76 (fun _=>by omega)])
     go_wp2_with fail
     go_ret
     exact ⟨show Ending.returned (.int .i64 (i:Int))=_ by rw[HV.out],rfl⟩
   ·have HV:=Lib.hid (show i=V from by rw[<-(Xe1 HW),Q76 (fun _=>by omega)])
    go_wp2_with fail
    go_ret
    exact ⟨show Ending.returned (.int .i64 (i:Int))=_ by rw[HV.out],rfl⟩
  ·have hlt':¬(i:Int)<(s.size:Int):=by omega
   have HV:=Lib.hid (show i=V from by rw[<-(Xe1 HW),Q76 (fun h=>absurd h hlt)])
   go_wp2_with fail
   go_ret
   exact ⟨show Ending.returned (.int .i64 (i:Int))=_ by rw[HV.out],rfl⟩
def Qfw (R:Nat) (s:ByteArray) (m d:Int) (X:Except Nat Nat) (w':World):Prop:=match X with| .ok q=>Q0p w' R s (q:Int) m d false/\q<=s.size| .error q=>Q0p w' R s (q:Int) m d true/\q<=s.size
theorem Qm5 {L T:List UInt8} {i p:Nat} {c:UInt8} {r:List UInt8} (h:T.drop i=c::r) (hc:Q09 L p=c):Q29 L (T.drop i) p=Q29 L (T.drop (i+1)) (p+1):=by
 have h2:T.drop (i+1)=r:=by rw[<-List.tail_drop,h];rfl
 rw[h2,h,Q29,if_pos hc]
theorem Q82 (h:Q0p w R s (p:Int) m d bad) (hp:p<=s.size) (hs:s.size<=281474976710656) (t:ByteArray) (ht:t.size<=281474976710656) (hnz:∀c∈t.data.toList,c≠0) (ht0:0<t.size):
 Calls Tryz.prog 79 #[.pointer (some ⟨R,0,none⟩),.string t] w fun e w'=>e=.returned (.tuple #[])/\Q0n (OnR R) w w'/\Qfw R s m d (if bad=true then Except.error p else Q29 s.data.toList t.data.toList p) w':=by
 obtain ⟨X,hX⟩:∃X,(if bad=true then Except.error p else Q29 s.data.toList t.data.toList p)=X:=⟨_,rfl⟩
 rw[hX]
 have H:=Xh7 h hp hs ht hnz hX ht0
 clear h hp hs ht hnz hX ht0
 go_enter Tryz.func79,Tryz.ntmps79
 go_wp2_with fail
 go_loopw [7] (fun v wr=>∃i q:Nat,v=.int .i64 (i:Int)/\i<=t.size/\q<=s.size/\Q0p wr R s (q:Int) m d bad/\(bad=true->i=0/\q=p)/\(bad=false->Q29 s.data.toList (t.data.toList.drop i) q=X)/\Q0n (OnR R) w wr) (fun v _=>t.size-(intOf v).toNat)
 case atStart=>exact ⟨0,p,rfl,Nat.zero_le _,(Xo1 H),(Xo0 H),fun _=>⟨rfl,rfl⟩,fun hb=>by have:=(Xo5 H);rw[hb] at this;simpa using this,Q0n.refl _ _⟩
 case round=>
  obtain ⟨i,q,rfl,hi,hq,hr,hbt,hbf,htn⟩:=hrel
  by_cases hlt:i<t.size
  ·have hlt':(i:Int)<(t.size:Int):=by omega
   have hn:=fun k=>Qa6 (hr.drewN k) (Xo2 H)
   have hwg:=fun (k:Nat) (z:Int)=>Q4p (hr.drewN k) z
   obtain ⟨c,hc⟩:∃c,nxB s.data.toList q bad=c:=⟨_,rfl⟩
   rw[hc] at hn
   have HN:=Xh9 hn hr hbt hbf htn hc hwg hi hq
   clear hn hr hbt hbf htn hc hwg hi hq
   by_cases heq:c=(t[i]'hlt)
   ·have hbeq:((c.toNat:Int)==((t[i]'hlt).toNat:Int))=true:=by rw[heq];simp
    have hneq:((c.toNat:Int) != ((t[i]'hlt).toNat:Int))=false:=by rw[heq];simp
    have hb0:bad=false/\q<s.size/\Q09 s.data.toList q=(t[i]'hlt):=by
     have h1:=(Xo5 HN)
     have h2:(t[i]'hlt)≠0:=(Xo4 H) _ (by rw[show (t[i]'hlt)=t.data.toList[i]'(by exact hlt) from (Array.getElem_toList _).symm];exact List.getElem_mem _)
     obtain ⟨a1,a2,a3⟩:=Qub (s:=s.data.toList) (p:=q) (bad:=bad) (by rw[h1,heq];exact h2)
     exact ⟨a1,a2,by rw[<-a3,h1,heq]⟩
    have HB:=Lib.hid hb0
    clear hb0 heq
    have hwr:IntKind.i64.wrap ((i:Int)+1)=(i:Int)+1:=by rw[IntKind.wrap_i64];have:=(Xo3 H);omega
    have hwr2:IntKind.i64.wrap ((q:Int)+1)=(q:Int)+1:=by rw[IntKind.wrap_i64];have:=(Xo2 H);have:=(Xe8 HN);omega
    go_wp2_with fail
    go_quiet (first|(refine Calls.quiet_of ((Xo0 HN) _)))
    have c1:=((Xo1 HN).drewN nq).c1
    have f1:=((Xo1 HN).drewN nq).f1
    go_wp2_with fail
    refine ⟨⟨i+1,q+1,?_,by omega,?_,?_,?_,?_,?_⟩,?_⟩
    ·exact congrArg (Value.int .i64) (by omega)
    ·exact (Xo1 HB)
    ·exact ((Xo1 HN).drewN nq).setAt ((q:Int)+1)
    ·intro hb;rw[(Xo0 HB)] at hb;cases hb
    ·intro _
     rw[<-(Xo3 HN) (Xo0 HB)]
     exact (Qm5 (Q81 hlt) (Xe2 HB)).symm
    ·exact ((Xo4 HN).drewN nq).trans0 (Q1s _ _ _ _)
    ·simp[intOf];omega
   ·have hbeq:((c.toNat:Int)==((t[i]'hlt).toNat:Int))=false:=by
     rw[beq_eq_false_iff_ne]
     intro e
     exact heq (UInt8.toNat_inj.1 (by omega))
    have hneq:((c.toNat:Int) != ((t[i]'hlt).toNat:Int))=true:=by rw[bne,hbeq];rfl
    have HQ:=Lib.hid heq
    clear heq
    go_wp2_with fail
    go_quiet (first|(refine Calls.quiet_of ((Xo0 HN) _)))
    have c1:=((Xo1 HN).drewN nq).c1
    go_wp2_with (refine ((Xo6 HN) _ _).mono ?_;rintro r w2 ⟨rfl,hr2,ht2⟩;have HB:=Xh2 hr2 ht2;clear hr2 ht2)
    refine ⟨rfl,.tuple #[],by simp[results],rfl,((Xo4 HN).drewN nq).trans0 (Xe1 HB),?_⟩
    have h1:=(Xo0 HB)
    cases bad with
    |true=>
     obtain ⟨rfl,rfl⟩:=(Xo2 HN) rfl
     have hX:=(Xo5 H)
     rw[if_pos rfl] at hX
     rw[<-hX]
     exact ⟨h1,(Xo1 H)⟩
    |false=>
     have hX:=(Xo3 HN) rfl
     rw[Q81 hlt,Q29,if_neg (by
      have h2:=(Xo5 HN)
      intro e
      exact HQ.out (by rw[<-h2,<-e];rfl))] at hX
     rw[<-hX]
     exact ⟨h1,(Xe8 HN)⟩
  ·have hlt':¬(i:Int)<(t.size:Int):=by omega
   have HN:=Xh6 hr hbt hbf htn hi hq
   clear hr hbt hbf htn hi hq
   go_wp2_with fail
   refine ⟨rfl,.tuple #[],by simp[results],rfl,(Xo3 HN),?_⟩
   have hit:i=t.size:=by have:=(Xo4 HN);omega
   cases bad with
   |true=>have:=((Xo1 HN) rfl).1;have:=(Xe6 H);omega
   |false=>
    have hX:=(Xo2 HN) rfl
    rw[List.drop_of_length_le (show t.data.toList.length<=i by have:t.data.toList.length=t.size:=rfl;omega),Q29] at hX
    rw[<-hX]
    exact ⟨(Xo0 HN),(Xe5 HN)⟩
end
end Go.Proofs.YtdilmfakkppgpaaGreatDoor
namespace Go.Proofs.YtdilmfakkppgpaaGreatDoor
open Go.RowKit WordsM DecM
theorem Qcw:∀(l:List UInt8) (acc k:Nat),Qhk l->acc<10^k->k+l.length<=19->Lib.parseUintM 18446744073709551615 acc l=.ok (l.foldl (fun a b=>10*a+(b.toNat-48)) acc)
 |[],acc,k,_,_,_=>rfl
 |c::r,acc,k,h,ha,hk=>by
  have hc:=h c (by simp)
  rw[List.length_cons] at hk
  have h18:acc<10^18:=Nat.lt_of_lt_of_le ha (Nat.pow_le_pow_right (by decide) (by omega))
  have h1:acc*10+(c.toNat-48)<10^(k+1):=by rw[Nat.pow_succ];omega
  have h2:(10:Nat)^(k+1)<=10^19:=Nat.pow_le_pow_right (by decide) (by omega)
  have e18:(10:Nat)^18=1000000000000000000:=rfl
  have e19:(10:Nat)^19=10000000000000000000:=rfl
  rw[e18] at h18
  rw[e19] at h2
  have ih:=Qcw r (acc*10+(c.toNat-48)) (k+1) (fun x hx=>h x (by simp[hx])) h1 (by omega)
  rw[Lib.parseUintM,if_pos hc,if_neg (by omega),if_neg (by omega),ih,List.foldl_cons,Nat.mul_comm acc 10]
theorem Qpg (l:List UInt8) (h:Qhk l) (h0:l≠[]) (hl:l.length<=19):Lib.parseUintB 64 l=.ok (dv l):=by
 unfold Lib.parseUintB
 rw[if_neg h0]
 exact Qcw l 0 0 h (by decide) (by omega)
theorem Qkf (s:ByteArray) (n:Nat):(s.extract 0 n).data.toList=s.data.toList.take n:=by simp
theorem Qkg (s:ByteArray) (n:Nat):(s.extract n s.size).data.toList=s.data.toList.drop n:=by
 have hl:s.data.toList.length=s.size:=rfl
 simp only[ByteArray.data_extract,Array.toList_extract,List.extract_eq_take_drop]
 exact List.take_of_length_le (by rw[List.length_drop,hl];exact Nat.le_refl _)
def lenOf:Value->Nat
 | .string b=>b.size
 |_=>0
theorem Qcx (w:World) (m:Nat) (hm:m<18446744073709551616) (T:TypeId):WordsIn (w.alloc (.cells #[.int .u64 (m:Int)] T)) (some ⟨w.heap.size,0,none⟩) 1 1 [m]:=
 ⟨rfl,Nat.le_refl _,by omega,fun x hx=>by rw[List.mem_singleton] at hx;subst hx;exact hm,.inr ⟨w.heap.size,0,rfl,by rw[World.size_alloc];omega,fun j x hx=>by
   cases j with
   |zero=>simp only[List.getElem?_cons_zero,Option.some.injEq] at hx;subst hx;rw[cell_of_row _ _ _ _ _ _ (heap_alloc_new _ _)];rfl
   |succ j=>simp at hx⟩⟩
theorem Qph (s:ByteArray) (w:World) (hs:s.size<=1300) (ha:Qhk s.data.toList):
 Calls Tryz.prog 236 #[.string s] w (Qaj w (dv s.data.toList)):=by
 have H:=Lib.hid ha
 clear ha
 go_enter Tryz.func236,Tryz.ntmps236
 go_wp2_with fail
 go_loopw [0,3] (fun tv wv wr=>∃(t:ByteArray) (pre:List UInt8) (a:Option Addr) (n c:Nat),tv=.string t/\wv=.slice a n c/\s.data.toList=pre++t.data.toList/\WordsIn wr a n c (dig (2^64) (dv pre))/\Below w.heap.size w wr) (fun tv _ _=>lenOf tv)
 case atStart=>exact ⟨s,[],none,0,0,rfl,rfl,rfl,⟨rfl,Nat.le_refl _,by omega,fun x hx=>by simp[dv,Q0x] at hx,.inl rfl⟩,Below.refl _ _⟩
 case round=>
  obtain ⟨t,pre,a,n,c,rfl,rfl,hpre,hW,hb⟩:=hrel
  have hlt:t.data.toList.length=t.size:=rfl
  have hsz:pre.length+t.size=s.size:=by
   have h1:=congrArg List.length hpre
   rw[List.length_append,hlt] at h1
   exact h1.symm
  by_cases ht:t.size=0
  ·have htI:¬(0:Int)<(t.size:Int):=by omega
   have hnil:t.data.toList=[]:=List.length_eq_zero_iff.1 (by rw[hlt];exact ht)
   rw[hnil,List.append_nil] at hpre
   rw[<-hpre] at hW
   have HE:=Xh2 hW hb
   clear hW hb hpre hnil hlt
   go_wp2_with fail
   go_ret
   exact ⟨a,n,c,rfl,(Xo0 HE),(Xe1 HE)⟩
  ·have htI:(0:Int)<(t.size:Int):=by omega
   obtain ⟨k,hk⟩:∃k,min t.size 19=k:=⟨_,rfl⟩
   have hmin:min (t.size:Int) 19=(k:Int):=by omega
   have hk1:1<=k:=by omega
   have hk19:k<=19:=by omega
   have hkt:k<=t.size:=by omega
   obtain ⟨u,hu⟩:∃u:ByteArray,t.extract 0 k=u:=⟨_,rfl⟩
   obtain ⟨rest,hrest⟩:∃r:ByteArray,t.extract k t.size=r:=⟨_,rfl⟩
   have hul:u.data.toList=t.data.toList.take k:=by rw[<-hu];exact Qkf t k
   have hrl:rest.data.toList=t.data.toList.drop k:=by rw[<-hrest];exact Qkg t k
   have hus:u.data.toList.length=k:=by rw[hul,List.length_take,hlt];omega
   have hrs:rest.size=t.size-k:=by
    have:rest.data.toList.length=rest.size:=rfl
    rw[<-this,hrl,List.length_drop,hlt]
   have hat:Qhk t.data.toList:=fun x hx=>H.out x (by rw[hpre];simp[hx])
   have hau:Qhk u.data.toList:=fun x hx=>hat x (by rw[hul] at hx;exact List.mem_of_mem_take hx)
   have hapre:Qhk pre:=fun x hx=>H.out x (by rw[hpre];simp[hx])
   have hp:=Qpg u.data.toList hau (fun e=>by rw[e] at hus;simp at hus;omega) (by omega)
   have hvu:dv u.data.toList<10^19:=Nat.lt_of_lt_of_le (Qet _ hau) (by rw[hus];exact Nat.pow_le_pow_right (by decide) hk19)
   have hnew:dv (pre++u.data.toList)=dv pre*10^k+dv u.data.toList:=by rw[Qes,hus]
   have hpu:s.data.toList=(pre++u.data.toList)++rest.data.toList:=by rw[List.append_assoc,hul,hrl,List.take_append_drop];exact hpre
   obtain ⟨v,hv⟩:∃v,dv u.data.toList=v:=⟨_,rfl⟩
   have hvpre:(dig (2^64) (dv pre)).length<=pre.length:=Q23 (by decide) (Nat.lt_of_lt_of_le (Qet pre hapre) (Nat.pow_le_pow_left (by decide) pre.length))
   have hn13:n<=1300:=by rw[<-hW.len];omega
   rw[hv] at hp hvu hnew
   have e19:(10:Nat)^19=10000000000000000000:=rfl
   rw[e19] at hvu
   have hvl:v<18446744073709551616:=by omega
   have hpa:=fun W=>Tryz.Qy4 u (by have:u.data.toList.length=u.size:=rfl;omega) v hp W
   have hLEN:∀T,T=10^k->(dig (2^64) (dv pre*T)).length<=1302:=fun T hT=>by
    have h1:dv pre*T<10^(pre.length+k):=by
     rw[hT,Nat.pow_add]
     exact Nat.mul_lt_mul_of_pos_right (Qet pre hapre) (Nat.pow_pos (by decide))
    have h2:(dig (2^64) (dv pre*T)).length<=pre.length+k:=Q23 (by decide) (Nat.lt_of_lt_of_le h1 (Nat.pow_le_pow_left (by decide) _))
    omega
   have HLEN:=Lib.hid hLEN
   clear hLEN
   have HP:=Xh6 hpa hnew hpu hW hb hrs
   clear hpa hnew hpu hW hb hrs hp hv hvpre hapre hau hat hrl hul hpre hlt e19 hvu hk hus
   go_wp2_with (refine ((Xo0 HP) _).mono ?_;rintro e w1 ⟨rfl,hw1⟩;have hb1:Below wr.heap.size wr w1:=by { rcases hw1 with rfl|rfl;exact Below.refl _ _;exact Lib.bytesWorld_below _ _ _ };have HB1:=Lib.hid hb1;clear hw1 hb1)
   go_loopw [7,22] (fun tv iv wz=>∃(i T:Nat),tv=.int .u64 (T:Int)/\iv=.int .i64 (i:Int)/\i<=k/\T=10^i/\w1=wz) (fun _ iv _=>k-(intOf iv).toNat)
   case atStart=>exact ⟨0,1,rfl,rfl,Nat.zero_le _,rfl,rfl⟩
   case round=>
    obtain ⟨i,T,rfl,rfl,hi,hT,rfl⟩:=hrel
    have hTl:T<=10000000000000000000:=by
     rw[hT]
     have h1:(10:Nat)^i<=10^19:=Nat.pow_le_pow_right (by decide) (by omega)
     have h2:(10:Nat)^19=10000000000000000000:=rfl
     rwa[h2] at h1
    by_cases hlk:i<k
    ·have hlkI:(i:Int)<(k:Int):=by omega
     have hT18:T<=1000000000000000000:=by
      rw[hT]
      have h1:(10:Nat)^i<=10^18:=Nat.pow_le_pow_right (by decide) (by omega)
      have h2:(10:Nat)^18=1000000000000000000:=rfl
      rwa[h2] at h1
     obtain ⟨T2,hT2⟩:∃T2,T*10=T2:=⟨_,rfl⟩
     have hTI:(T:Int)*10=(T2:Int):=by omega
     have hT2l:(T2:Int)<18446744073709551616:=by omega
     have HT:=Lib.hid (show T2=10^(i+1) by rw[<-hT2,hT,Nat.pow_succ])
     clear hT hT2 hTl hT18
     go_wp2_with fail
     exact ⟨⟨i+1,T2,rfl,by simp,by omega,HT.out,trivial⟩,by simp only[intOf];omega⟩
    ·obtain rfl:k=i:=by omega
     have hlkI:¬(k:Int)<(k:Int):=by omega
     have hWm:=fun W (hbW:Below wr.heap.size wr W)=>Qcg a n c (dig (2^64) (dv pre)) (some ⟨W.heap.size,0,none⟩) 1 1 [T] (W.alloc (.cells #[.int .u64 (T:Int)] 74)) (((Xo3 HP).step hbW).step ((Below.refl _ _).alloc (Nat.le_refl _) _)) (Qcx W T (by omega) 74) (by omega) (by decide)
     have HM:=Lib.hid hWm
     have HT:=Lib.hid hT
     clear hWm hT
     go_wp2_with (first
      |(go_at_call_of 98 a;refine (HM.out _ HB1.out).mono ?_;rintro e w2 ⟨a2,n2,c2,rfl,hW2,hb2⟩;rw[Q0r (by decide),show val (2^64) [T]=T by simp[val]] at hW2;
        have hn2:n2<=1302:=by { rw[<-hW2.len];exact (HLEN.out T HT.out) };
        have HB2:=Xh2 hW2 (Below.next0 HB1.out (Below.next0 ((Below.refl _ _).alloc (Nat.le_refl _) _) hb2));clear hW2 hb2)
      |(refine (Qcb a2 n2 c2 _ (some ⟨w2.heap.size,0,none⟩) 1 1 [v] (w2.alloc (.cells #[.int .u64 (v:Int)] 74)) ((Xo0 HB2).step ((Below.refl _ _).alloc (Nat.le_refl _) _)) (Qcx w2 v hvl 74) (by omega) (by decide)).mono ?_;rintro e w3 ⟨a3,n3,c3,rfl,hW3,hb3⟩;rw[Q0r (by decide),show val (2^64) [v]=v by simp[val]] at hW3;
        have HB3:=Xh2 hW3 (Below.next0 (Xe1 HB2) (Below.next0 ((Below.refl _ _).alloc (Nat.le_refl _) _) hb3));clear hW3 hb3))
     refine ⟨⟨rest,pre++u.data.toList,a3,n3,c3,rfl,rfl,(Xo2 HP),?_,Below.next0 (Xo4 HP) (Xe1 HB3)⟩,?_⟩
     ·rw[(Xo1 HP),<-HT.out];exact (Xo0 HB3)
     ·show rest.size<t.size
      have:=(Xe5 HP)
      omega
theorem Qe2 (l:List UInt8) (b:UInt8):Lib.hasPrefix l [b]=(match l with|[]=>false|c::_=>decide (c=b))/\Lib.trimPrefix l [b]=(match l with|[]=>[]|c::r=>if c=b then r else c::r):=by
 cases l with
 |nil=>exact ⟨rfl,rfl⟩
 |cons c r=>
  by_cases h:c=b
  ·subst h;simp[Lib.hasPrefix,Lib.trimPrefix]
  ·have h2:¬b=c:=fun e=>h e.symm
   simp[Lib.hasPrefix,Lib.trimPrefix,List.isPrefixOf,h,h2]
theorem Qfx (l:List UInt8):Lib.hasPrefix l [45]=(Q2h l).1/\Lib.trimPrefix l [45]=(Q2h l).2:=by
 have h:=Qe2 l 45
 cases l with
 |nil=>exact ⟨by rw[h.1];rfl,by rw[h.2];rfl⟩
 |cons c r=>
  by_cases hc:c=45
  ·rw[h.1,h.2];simp[Q2h,hc]
  ·rw[h.1,h.2];simp[Q2h,hc]
theorem Qpi (s:ByteArray) (l:List UInt8) (h:s.data.toList=l):s=⟨l.toArray⟩:=by
 subst h
 exact ByteArray.ext (by simp)
theorem Qm6 (l:List UInt8) (h:Qhk l) (h0:l≠[]) (hl:l.length<=6):Lib.parseIntB 64 l=.ok (dv l:Int):=by
 have hp:=Qpg l h h0 (by omega)
 have hb:dv l<10^6:=Nat.lt_of_lt_of_le (Qet l h) (Nat.pow_le_pow_right (by decide) hl)
 have e6:(10:Nat)^6=1000000:=rfl
 rw[e6] at hb
 cases l with
 |nil=>exact absurd rfl h0
 |cons c r=>
  have hc:=h c (by simp)
  unfold Lib.parseIntB
  simp only
  rw[if_neg (by omega),hp]
  simp only
  have hn:¬c.toNat=45:=by omega
  have e63:(2:Nat)^63=9223372036854775808:=rfl
  rw[if_neg (by rintro ⟨_,h2⟩;rw[show 64-1=63 from rfl,e63] at h2;omega),if_neg (by rintro ⟨h2,_⟩;exact hn h2)]
  simp[hn]
theorem Q1v {s:ByteArray} {k:Nat} (h:Qv8 s k):digN s.data.toList=k:=by
 have h1:=Qrg (s:=s) (at_:=0) (k:=k) (Nat.zero_le _) h.1 (fun j hj _ hk=>h.2.1 j hj hk) h.2.2
 rw[List.drop_zero] at h1
 omega
def Q5m (w0:World) (S:List UInt8) (e:Ending) (w':World):Prop:=
 (∃(x:Int) (ok:Bool),e=.returned (.tuple #[.int .i64 x,.bool ok])/\(ok=true/\Qc4 S=some x/\-1000000<=x/\x<=1000000∨ok=false/\Qc4 S=none))/\Below w0.heap.size w0 w'
theorem Q5m.good {w0 w':World} {S:List UInt8} {x:Int} (h:Qc4 S=some x) (h1: -1000000<=x) (h2:x<=1000000) (hb:Below w0.heap.size w0 w'):Q5m w0 S (.returned (.tuple #[.int .i64 x,.bool true])) w':=⟨⟨x,true,rfl,.inl ⟨rfl,h,h1,h2⟩⟩,hb⟩
theorem Q5m.bad {w0 w':World} {S:List UInt8} {x:Int} (h:Qc4 S=none) (hb:Below w0.heap.size w0 w'):Q5m w0 S (.returned (.tuple #[.int .i64 x,.bool false])) w':=⟨⟨x,false,rfl,.inr ⟨rfl,h⟩⟩,hb⟩
theorem Qpj (s:ByteArray) (w:World) (hs:s.size<=281474976710656):
 Calls Tryz.prog 235 #[.string s] w (Q5m w s.data.toList):=by
 have hlen:s.data.toList.length=s.size:=rfl
 by_cases h0:s.size=0
 ·have hnil:s.data.toList=[]:=List.length_eq_zero_iff.1 (by rw[hlen];exact h0)
  have hse:s=⟨#[]⟩:=Qpi s [] hnil
  subst hse
  go_enter Tryz.func235,Tryz.ntmps235
  go_wp2_with fail
  refine ⟨rfl,.tuple #[.int .i64 0,.bool true],by simp[results,go_sem],Q5m.good rfl (by decide) (by decide) (Below.refl _ _)⟩
 ·obtain ⟨c,r,hS⟩:∃c r,s.data.toList=c::r:=by
   cases h:s.data.toList with
   |nil=>rw[h] at hlen;simp at hlen;omega
   |cons c r=>exact ⟨c,r,rfl⟩
  have hse:s=⟨(c::r).toArray⟩:=Qpi s _ hS
  have hne:¬s=⟨#[]⟩:=fun e=>h0 (by rw[e];rfl)
  have hne2:s.toList.isEmpty=false:=by rw[ByteArray.toList_eq,hS];rfl
  rw[hS]
  have hc1:=fun W=>Tryz.Qx8 s ⟨#[112]⟩ W
  rw[hS] at hc1
  by_cases hp:c=112
  ·subst hp
   have hp1:=Qe2 (112::r) 112
   simp only[if_true] at hp1
   have hq:=Qfx r
   have hrl:r.length<=281474976710656:=by rw[hS] at hlen;simp at hlen;omega
   have hc1':∀W,Calls Tryz.prog 233 #[.string s,.string ⟨#[112]⟩] W fun e w'=>e=.returned (.tuple #[.string ⟨r.toArray⟩,.bool true])/\W=w':=fun W=>(hc1 W).mono (by
    rintro e w' ⟨rfl,rfl⟩
    refine ⟨?_,rfl⟩
    show Ending.returned (.tuple #[.string ⟨(Lib.trimPrefix (112::r) [112]).toArray⟩,.bool (Lib.hasPrefix (112::r) [112])])=_
    rw[hp1.1,hp1.2];simp)
   obtain ⟨low,t,hmt⟩:∃low t,Q2h r=(low,t):=⟨_,_,rfl⟩
   have hc2':∀W,Calls Tryz.prog 233 #[.string ⟨r.toArray⟩,.string ⟨#[45]⟩] W fun e w'=>e=.returned (.tuple #[.string ⟨t.toArray⟩,.bool low])/\W=w':=fun W=>(Tryz.Qx8 ⟨r.toArray⟩ ⟨#[45]⟩ W).mono (by
    rintro e w' ⟨rfl,rfl⟩
    refine ⟨?_,rfl⟩
    show Ending.returned (.tuple #[.string ⟨(Lib.trimPrefix (r.toArray.toList) [45]).toArray⟩,.bool (Lib.hasPrefix (r.toArray.toList) [45])])=_
    rw[List.toList_toArray,hq.1,hq.2,hmt])
   have htl:t.length<=r.length:=by
    have h1:(Q2h r).2.length<=r.length:=by
     cases r with
     |nil=>simp[Q2h]
     |cons x y=>simp only[Q2h];split <;> simp
    rw[hmt] at h1;exact h1
   have hex:Qc4 (112::r)=if t.length<1∨6<t.length∨digN t<t.length∨t.headD 0=48 then none else some (if low=true then -(dv t:Int) else (dv t:Int)):=by
    rw[Qc4,if_neg (by simp),hmt]
   have HC:=Xh3 hc1' hc2' hex
   obtain ⟨T,hT⟩:∃T:ByteArray,T=⟨t.toArray⟩:=⟨_,rfl⟩
   have hTs:T.size=t.length:=by rw[hT];rfl
   have hTl:T.data.toList=t:=by rw[hT]
   rw[<-hT] at HC
   have HT:=Xh2 hTs hTl
   clear hc1 hc1' hc2' hp1 hq hmt hex hT hS hse
   have hrun:=fun W=>Qod T W (by omega)
   obtain ⟨k,hk⟩:∃k,digN t=k:=⟨_,rfl⟩
   have hkl:=Qdn t
   rw[hk] at hkl
   have HK:=Lib.hid hk
   clear hk hlen hs
   by_cases h1:t.length<1
   ·have hTI:(T.size:Int)<1:=by omega
    have hE:Qc4 (112::r)=none:=by rw[(Xe2 HC),if_pos (.inl h1)]
    have HE:=Lib.hid hE
    clear hE
    clear hTs hTl
    go_enter Tryz.func235,Tryz.ntmps235
    go_wp2_with (first
     |(go_at_call_of 233 (Value.string s);refine ((Xo0 HC) _).mono ?_;rintro e w1 ⟨rfl,rfl⟩)
     |(go_at_call_of 233 (Value.string ⟨r.toArray⟩);refine ((Xo1 HC) _).mono ?_;rintro e w1 ⟨rfl,rfl⟩))
    refine ⟨rfl,.tuple #[.int .i64 0,.bool false],by simp[results,go_sem],Q5m.bad HE.out (Below.refl _ _)⟩
   ·have hTI:¬(T.size:Int)<1:=by omega
    by_cases h6:6<t.length
    ·have hT6:(6:Int)<(T.size:Int):=by omega
     have hE:Qc4 (112::r)=none:=by rw[(Xe2 HC),if_pos (.inr (.inl h6))]
     have HE:=Lib.hid hE
     clear hE
     clear hTs hTl
     go_enter Tryz.func235,Tryz.ntmps235
     go_wp2_with (first
      |(go_at_call_of 233 (Value.string s);refine ((Xo0 HC) _).mono ?_;rintro e w1 ⟨rfl,rfl⟩)
      |(go_at_call_of 233 (Value.string ⟨r.toArray⟩);refine ((Xo1 HC) _).mono ?_;rintro e w1 ⟨rfl,rfl⟩))
     refine ⟨rfl,.tuple #[.int .i64 0,.bool false],by simp[results,go_sem],Q5m.bad HE.out (Below.refl _ _)⟩
    ·have hT6:¬(6:Int)<(T.size:Int):=by omega
     by_cases hkt:k<t.length
     ·have hkI:(k:Int)<(T.size:Int):=by omega
      have hE:Qc4 (112::r)=none:=by rw[(Xe2 HC),if_pos (.inr (.inr (.inl (by rw[HK.out];exact hkt))))]
      have HE:=Lib.hid hE
      clear hE
      clear hTs hTl
      go_enter Tryz.func235,Tryz.ntmps235
      go_wp2_with (first
       |(go_at_call_of 233 (Value.string s);refine ((Xo0 HC) _).mono ?_;rintro e w1 ⟨rfl,rfl⟩)
       |(go_at_call_of 233 (Value.string ⟨r.toArray⟩);refine ((Xo1 HC) _).mono ?_;rintro e w1 ⟨rfl,rfl⟩)
       |(refine (hrun _).mono ?_;rintro e w2 ⟨⟨k',rfl,hk'⟩,hb2⟩;obtain rfl:k=k':=by { rw[<-HK.out,<-(Xe1 HT)];exact Q1v hk' };have HB2:=Lib.hid hb2;clear hb2 hk'))
      refine ⟨rfl,.tuple #[.int .i64 0,.bool false],by simp[results,go_sem],Q5m.bad HE.out (HB2.out)⟩
     ·have hkI:¬(k:Int)<(T.size:Int):=by omega
      have hT0:0<T.size:=by omega
      have hhd:t.headD 0=(T[0]'hT0):=by
       have h:=Qoe (s:=T) (at_:=0) hT0
       rw[List.drop_zero,(Xe1 HT)] at h
       exact h
      by_cases h48:(T[0]'hT0)=48
      ·have h48':(((T[0]'hT0).toNat:Int)==48)=true:=by rw[h48];rfl
       have hE:Qc4 (112::r)=none:=by rw[(Xe2 HC),if_pos (.inr (.inr (.inr (by rw[hhd];exact h48))))]
       have HE:=Lib.hid hE
       clear hE
       clear hTs hTl
       go_enter Tryz.func235,Tryz.ntmps235
       go_wp2_with (first
        |(go_at_call_of 233 (Value.string s);refine ((Xo0 HC) _).mono ?_;rintro e w1 ⟨rfl,rfl⟩)
        |(go_at_call_of 233 (Value.string ⟨r.toArray⟩);refine ((Xo1 HC) _).mono ?_;rintro e w1 ⟨rfl,rfl⟩)
        |(refine (hrun _).mono ?_;rintro e w2 ⟨⟨k',rfl,hk'⟩,hb2⟩;obtain rfl:k=k':=by { rw[<-HK.out,<-(Xe1 HT)];exact Q1v hk' };have HB2:=Lib.hid hb2;clear hb2 hk'))
       refine ⟨rfl,.tuple #[.int .i64 0,.bool false],by simp[results,go_sem],Q5m.bad HE.out (HB2.out)⟩
      ·have h48':(((T[0]'hT0).toNat:Int)==48)=false:=by rw[beq_eq_false_iff_ne];intro e;exact h48 (UInt8.toNat_inj.1 (show (T[0]'hT0).toNat=48 by omega))
       have hall:Qhk t:=by
        have h:=Q68 t
        rw[HK.out,List.take_of_length_le (by omega)] at h
        exact h
       have hE:=(Xe2 HC)
       rw[if_neg (by rintro (h|h|h|h);exact h1 h;exact h6 h;(rw[HK.out] at h;exact hkt h);(rw[hhd] at h;exact h48 h))] at hE
       have hpi:=Qm6 t hall (fun e=>by rw[e] at h1;simp at h1) (by omega)
       have hdvl:dv t<10^6:=Nat.lt_of_lt_of_le (Qet t hall) (Nat.pow_le_pow_right (by decide) (by omega))
       have e6:(10:Nat)^6=1000000:=rfl
       rw[e6] at hdvl
       obtain ⟨x,hx⟩:∃x,dv t=x:=⟨_,rfl⟩
       rw[hx] at hE hpi hdvl
       have hxI:(x:Int)<=1000000:=by omega
       have hpa:=fun W=>Tryz.Qy1 T (by omega) (x:Int) (by rw[(Xe1 HT)];exact hpi) W
       have HP:=Lib.hid hpa
       clear hpa hpi hx hdvl e6 hall hhd h48 hkt
       cases low
       ·have HE:=Lib.hid (show Qc4 (112::r)=some (x:Int) from hE)
        clear hE
        clear hTs hTl
        go_enter Tryz.func235,Tryz.ntmps235
        go_wp2_with (first
         |(go_at_call_of 233 (Value.string s);refine ((Xo0 HC) _).mono ?_;rintro e w1 ⟨rfl,rfl⟩)
         |(go_at_call_of 233 (Value.string ⟨r.toArray⟩);refine ((Xo1 HC) _).mono ?_;rintro e w1 ⟨rfl,rfl⟩)
         |(refine (hrun _).mono ?_;rintro e w2 ⟨⟨k',rfl,hk'⟩,hb2⟩;obtain rfl:k=k':=by { rw[<-HK.out,<-(Xe1 HT)];exact Q1v hk' };have HB2:=Lib.hid hb2;clear hb2 hk')
         |(refine (HP.out _).mono ?_;rintro e w3 ⟨rfl,hw3⟩;have hb3:Below w2.heap.size w2 w3:=by { rcases hw3 with rfl|⟨t',rfl⟩;exact Below.refl _ _;exact Lib.bytesWorld_below _ _ _ };have HB3:=Lib.hid hb3;clear hw3 hb3))
        refine ⟨rfl,.tuple #[.int .i64 (x:Int),.bool true],by simp[results,go_sem],Q5m.good HE.out (by omega) hxI (Below.next0 HB2.out HB3.out)⟩
       ·have HE:=Lib.hid (show Qc4 (112::r)=some (-(x:Int)) from hE)
        clear hE
        clear hTs hTl
        go_enter Tryz.func235,Tryz.ntmps235
        go_wp2_with (first
         |(go_at_call_of 233 (Value.string s);refine ((Xo0 HC) _).mono ?_;rintro e w1 ⟨rfl,rfl⟩)
         |(go_at_call_of 233 (Value.string ⟨r.toArray⟩);refine ((Xo1 HC) _).mono ?_;rintro e w1 ⟨rfl,rfl⟩)
         |(refine (hrun _).mono ?_;rintro e w2 ⟨⟨k',rfl,hk'⟩,hb2⟩;obtain rfl:k=k':=by { rw[<-HK.out,<-(Xe1 HT)];exact Q1v hk' };have HB2:=Lib.hid hb2;clear hb2 hk')
         |(refine (HP.out _).mono ?_;rintro e w3 ⟨rfl,hw3⟩;have hb3:Below w2.heap.size w2 w3:=by { rcases hw3 with rfl|⟨t',rfl⟩;exact Below.refl _ _;exact Lib.bytesWorld_below _ _ _ };have HB3:=Lib.hid hb3;clear hw3 hb3))
        refine ⟨rfl,.tuple #[.int .i64 (-(x:Int)),.bool true],by simp[results,go_sem],Q5m.good HE.out (by omega) (by omega) (Below.next0 HB2.out HB3.out)⟩
  ·have hp1:=Qe2 (c::r) 112
   simp only[if_neg hp] at hp1
   have hcd:decide (c=112)=false:=decide_eq_false hp
   have hc1':∀W,Calls Tryz.prog 233 #[.string s,.string ⟨#[112]⟩] W fun e w'=>e=.returned (.tuple #[.string s,.bool false])/\W=w':=fun W=>(hc1 W).mono (by
    rintro e w' ⟨rfl,rfl⟩
    refine ⟨?_,rfl⟩
    show Ending.returned (.tuple #[.string ⟨(Lib.trimPrefix (c::r) [112]).toArray⟩,.bool (Lib.hasPrefix (c::r) [112])])=_
    rw[hp1.1,hp1.2,hcd,<-hse])
   have hc2:=fun W=>Tryz.Qx8 s ⟨#[45]⟩ W
   have hE:Qc4 (c::r)=none:=by rw[Qc4,if_pos hp]
   have HC:=Xh3 hc1' hc2 hE
   clear hc1 hc1' hc2 hp1 hcd hE hS hse hlen
   go_enter Tryz.func235,Tryz.ntmps235
   go_wp2_with (first
    |(go_at_call_of 233 (Value.string ⟨#[112]⟩);refine ((Xo0 HC) _).mono ?_;rintro e w1 ⟨rfl,rfl⟩)
    |(go_at_call_of 233 (Value.string ⟨#[45]⟩);refine ((Xo1 HC) _).mono ?_;rintro e w1 ⟨rfl,hw1⟩;obtain rfl:=hw1.symm))
   refine ⟨rfl,.tuple #[.int .i64 0,.bool false],by simp[results,go_sem],Q5m.bad (Xe2 HC) (Below.refl _ _)⟩
def Q1l (S:List UInt8) (neg':Bool) (e':Int) (L:List Nat) (er:Int):Prop:=match form S with
 |none=>neg'=false/\e'=0/\L=[]/\er=5
 |some (neg,v,e)=>Q56 neg v e neg' e' L er
theorem Q1l.none_ {S:List UInt8} (h:form S=none):Q1l S false 0 [] 5:=by unfold Q1l;rw[h];exact ⟨rfl,rfl,rfl,rfl⟩
theorem Q1l.some_ {S:List UInt8} {neg:Bool} {v:Nat} {e:Int} (h:form S=some (neg,v,e)) {neg':Bool} {e':Int} {L:List Nat} {er:Int} (hm:Q56 neg v e neg' e' L er):Q1l S neg' e' L er:=by unfold Q1l;rw[h];exact hm
end Go.Proofs.YtdilmfakkppgpaaGreatDoor
