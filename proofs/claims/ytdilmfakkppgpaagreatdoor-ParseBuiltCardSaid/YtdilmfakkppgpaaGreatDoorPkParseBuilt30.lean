/- Part 30 of the proof of LawParseBuilt: FlatT, RefT0, GathA, GathC. Condition: as each theorem says; none at the end. -/
import Derived.Great.BuildSlice
import Derived.Test.YtdilmfakkppgpaaGreatDoorPkParseBuilt29
set_option maxRecDepth 100000
set_option maxHeartbeats 16000000
namespace Go.Proofs.YtdilmfakkppgpaaGreatDoor
open Go Go.RowKit
section
variable {P:Program}
def Qup (P:Program) (ops:Array Oper) (C:World->Prop) (V:Nat->Value->World->Prop) (a0:Act) (n:Nat) (Mid:Value->World->Prop):List Oper->Prop
 |[o,o2]=>(∀a w,C w->Q79 ops a0 a->(∀i∈Q27 o,V i (Q0b ops a i) w)->Q2o P Mid ((execOp a.eval o).run P w))/\n∈Q27 o2/\∀a w,Q79 ops a0 a->(execOp a.eval o2).run P w=.ok (.value (Q0b ops a n)) w
 |_=>False
theorem Qs6 {l:List Oper} {n i:Nat} {a:Act} (hn:l.length=n+2) (hi:i≠n+1):Q0b (l.take (n+1)).toArray a i=Q0b l.toArray a i:=by
 unfold Q0b;have h:(l.take (n+1)).toArray[i]?=l.toArray[i]?:=by
  simp only[List.getElem?_toArray,To]
  split
  ·rfl
  ·rw[Tk (by omega)]
 rw[h]
theorem Qoe {l:List Oper} {n:Nat} {a0 a:Act} (hn:l.length=n+2) (F0:Q79 l.toArray a0 a) (hs:Q0b l.toArray a (n+1)=Q0b l.toArray a0 (n+1)):Q79 (l.take (n+1)).toArray a0 a:=by
 refine ⟨F0.1,F0.2.1,fun t ht=>?_⟩;obtain ⟨o2,Kh⟩:∃o2,l[n+1]?=some o2:=⟨_,Ub (by omega)⟩
 by_cases h2:o2.dst=some t
 ·have e1:∀b:Act,Q0b l.toArray b (n+1)=b.tmps.getD t undef:=fun b=>by
   unfold Q0b;rw[List.getElem?_toArray,Kh,TZ,h2]
  rw[e1,e1] at hs
  by_cases B0:t<a0.tmps.size
  ·have E0:t<a.tmps.size:=(by rw[F0.2.1];exact B0);rw[Up,Up,UD B0,UD E0,TY,TY] at hs;rw[UD B0,UD E0,hs]
  ·have Z1:=F0.2.1;have h3:a0.tmps.size<=t:=Nat.le_of_not_lt B0;rw[Xbg (xs:=a.tmps) (Ur (Nat.le_of_eq Z1) h3),Xbg (xs:=a0.tmps) h3]
 ·refine F0.2.2 t fun o ho e=>?_;obtain ⟨i,hi,rfl⟩:=Xay ho;have Qe:i<l.length:=by simpa using hi
  by_cases JR:i=n+1
  ·subst JR;rw[Ub Qe] at Kh;injection Kh with Kh;exact h2 (by rw[<-Kh];exact e)
  ·refine ht l[i] ?_ e;rw[Ts];refine ⟨i,?_⟩
   show (l.take (n+1))[i]?=_
   rw[To,Us (by omega),Ub Qe]
theorem Q48 {Q:Exit->Act->World->Prop} {id:Nat} {l:List Oper} {a0:Act} {w:World} (hm:P.follows .mixedOrders=true) (n:Nat) (hn:l.length=n+2) (C:World->Prop) (hC:∀w w',C w->Bw w w'->C w') (V:Nat->Value->World->Prop) (hV:∀i v w w',V i v w->Bw w w'->V i v w') (Mid:Value->World->Prop)
 (hB:Q4b l a0.tmps.size=true) (hA:Qmm l n=true) (hG:(l.all fun o=>o.guard.isNone)=true) (hD:(l.all fun o=>o.dst.isSome)=true) (h0:C w.drew)
 (step:Q1r P Qap (l.take (n+1)).toArray C V a0 (l.take n) 0) (last:Qup P l.toArray C V a0 n Mid (l.drop n)) (fin:∀vs w,Mid (vs n) w->vs (n+1)=vs n->Q .normal (Q0s vs l 0 a0) w):(Code.region id l.toArray true).wp P Q a0 w:=by
 have Z7:∀(k:Nat) (o:Oper),l[k]?=some o->∀y,Region.wanted o y=true:=fun k o ho y=>by
  have h1:=Tb.1 hG o (Ud ho);unfold Region.wanted;cases hg:o.guard with
  |none=>rfl
  |some g=>rw[hg] at h1;cases h1
 obtain ⟨o1,o2,U7⟩:∃o1 o2,l.drop n=[o1,o2]:=by
  have h1:(l.drop n).length=2:=by rw[Te];omega
  cases hl:l.drop n with
  |nil=>rw[hl] at h1;cases h1
  |cons x r=>
   cases r with
   |nil=>rw[hl] at h1;cases h1
   |cons y s=>
    cases s with
    |nil=>exact ⟨x,y,rfl⟩
    |cons z s=>rw[hl] at h1;simp at h1
 have ho1:l[n]?=some o1:=by have:=congrArg (fun x=>x[0]?) U7;simpa using this
 have Kh:l[n+1]?=some o2:=by have:=congrArg (fun x=>x[1]?) U7;simpa using this
 rw[U7] at last;obtain ⟨last1,last2,last3⟩:=last;have P0:∀(k:Nat) (o:Oper),l[k]?=some o->Q7m P l.toArray (fun D vs w=>(if D n=true then (Mid (vs n) w/\(D (n+1)=true->vs (n+1)=vs n)) else (C w/\∀j,D j=true->V j (vs j) w))/\(D (n+1)=false->vs (n+1)=Q0b l.toArray a0 (n+1))) a0 k o:=by
  intro k o ho a w D hI0 F0 hk A8 O3;obtain ⟨hI,hI2⟩:=hI0;have Wg:k<=n+1:=by have:=(Um.1 ho).1;omega
  refine ⟨Z7 k o ho _,?_⟩
  by_cases N9:k=n+1
  ·subst N9;rw[Kh] at ho;injection ho with ho;subst ho;have S8:D n=true:=A8 n last2;simp only[S8,Xa5] at hI;rw[last3 a w F0]
   show (if Q3q D (n+1) n=true then _ else _)/\_
   have e1:Q3q D (n+1) n=true:=(by unfold Q3q;rw[Uq (by omega)];exact S8);rw[Us e1];have e2:Q3b (Q0b l.toArray a) (n+1) (Q0b l.toArray a n) n=Q0b l.toArray a n:=(by unfold Q3b;rw[Uq (by omega)]);have e3:Q3b (Q0b l.toArray a) (n+1) (Q0b l.toArray a n) (n+1)=Q0b l.toArray a n:=(by unfold Q3b;rw[Us rfl]);rw[e2,e3];exact ⟨⟨hI.1,fun _=>rfl⟩,fun h=>by rw[Q93] at h;cases h⟩
  ·have Vv:k<=n:=(by omega);have S8:D n=false:=Qcy hA (D:=D) (fun j oj hj=>O3 j oj (by simpa using hj)) _ k rfl Vv hk;have KN:D (n+1)=false:=by
    cases hb:D (n+1) with
    |false=>rfl
    |true=>have:=O3 (n+1) o2 (by simpa using Kh) hb n last2;rw[S8] at this;cases this
   simp only[S8] at hI;obtain ⟨VH,hVw⟩:=hI;have hS:∀u,Q3q D k (n+1)=false->Q3b (Q0b l.toArray a) k u (n+1)=Q0b l.toArray a0 (n+1):=fun u _=>by unfold Q3b;rw[Uq (fun e=>N9 e.symm)];exact hI2 KN
   have XT:∀i∈Q27 o,V i (Q0b l.toArray a i) w:=fun i hi=>hVw i (A8 i hi)
   by_cases QT:k=n
   ·subst QT;rw[ho1] at ho;injection ho with ho;subst ho;have h1:=last1 a w VH F0 XT;have hK:∀u w',Mid u w'->(if Q3q D k k=true then (Mid (Q3b (Q0b l.toArray a) k u k) w'/\(Q3q D k (k+1)=true->Q3b (Q0b l.toArray a) k u (k+1)=Q3b (Q0b l.toArray a) k u k)) else (C w'/\∀j,Q3q D k j=true->V j (Q3b (Q0b l.toArray a) k u j) w')):=fun u w' h=>by
     rw[Q93,Us rfl];have e1:Q3q D k (k+1)=false:=(by unfold Q3q;rw[Uq (by omega)];exact KN);have e2:Q3b (Q0b l.toArray a) k u k=u:=(by unfold Q3b;rw[Us rfl]);rw[e1,e2];exact ⟨h,fun h=>by cases h⟩
    revert h1
    generalize (execOp a.eval o1).run P w=res;intro h1;cases res with
    |ok x w'=>
     cases x with
     |value u=>exact ⟨hK u w' h1,hS u⟩
     |enter f args=>
      refine Xba h1 ?_;rintro e w'' ⟨v,rfl,hf⟩;exact ⟨v,rfl,hK v w'' hf,hS v⟩
     |skip=>exact ⟨hK undef w' h1,hS undef⟩
     |_=>exact h1.elim
    |halt x w'=>exact h1.elim
   ·have Y9:(l.take n)[k]?=some o:=(by rw[To,Us (by omega)];exact ho);have h1:=Q1r.at_ _ _ _ _ step Y9;rw[UB] at h1;have h1:=h1 a w VH (Qoe hn F0 (hI2 KN)) (fun i hi=>by
     rw[Qs6 hn (fun e=>by subst e;have:=A8 _ hi;rw[KN] at this;cases this)];exact XT i hi)
    rw[Us (Z7 k o ho _)] at h1;have hK:∀u w',Bw w w'->V k u w'->(if Q3q D k n=true then (Mid (Q3b (Q0b l.toArray a) k u n) w'/\(Q3q D k (n+1)=true->Q3b (Q0b l.toArray a) k u (n+1)=Q3b (Q0b l.toArray a) k u n)) else (C w'/\∀j,Q3q D k j=true->V j (Q3b (Q0b l.toArray a) k u j) w')):=fun u w' hb hu=>by
     have e:Q3q D k n=false:=(by unfold Q3q;rw[Uq (fun e=>QT e.symm)];exact S8);rw[e,Uq (by decide)];refine ⟨hC _ _ VH hb,fun j hj=>?_⟩;unfold Q3b;unfold Q3q at hj
     by_cases JI:j=k
     ·subst JI;rw[Us rfl];exact hu
     ·rw[Uq JI];rw[Uq JI] at hj;exact hV _ _ _ _ (hVw j hj) hb
    revert h1
    generalize (execOp a.eval o).run P w=res;intro h1;cases res with
    |ok x w'=>
     cases x with
     |value u=>exact ⟨hK u w' h1.1 h1.2,hS u⟩
     |enter f args=>
      refine Xba h1 ?_;rintro e w'' ⟨v,rfl,hb,hv⟩;exact ⟨v,rfl,hK v w'' hb hv,hS v⟩
     |skip=>exact ⟨hK undef w' h1.1 h1.2,hS undef⟩
     |_=>exact h1.elim
    |halt x w'=>exact h1.elim
 have ZU:∀(r:List Oper) (k:Nat),(∀(i:Nat) o,r[i]?=some o->l[k+i]?=some o)->Q9e P l.toArray (fun D vs w=>(if D n=true then (Mid (vs n) w/\(D (n+1)=true->vs (n+1)=vs n)) else (C w/\∀j,D j=true->V j (vs j) w))/\(D (n+1)=false->vs (n+1)=Q0b l.toArray a0 (n+1))) a0 r k:=by
  intro r
  induction r with
  |nil=>intro k _;trivial
  |cons o r ih=>
   intro k h;refine ⟨P0 k o (by simpa using h 0 o rfl),ih (k+1) fun i o' G9=>?_⟩;have:=h (i+1) o' (by simpa using G9);rwa[show k+(i+1)=k+1+i by omega] at this
 refine Q76 hm (fun D vs w=>(if D n=true then (Mid (vs n) w/\(D (n+1)=true->vs (n+1)=vs n)) else (C w/\∀j,D j=true->V j (vs j) w))/\(D (n+1)=false->vs (n+1)=Q0b l.toArray a0 (n+1))) (fun i o hi hd D vs v w h=>?_) hB ?_ (ZU l 0 fun i o h=>by rw[UB];exact h) (fun D vs w P0 h=>?_)
 ·have h1:=Tb.1 hD o (Ud hi);rw[hd] at h1;cases h1
 ·exact ⟨⟨h0,fun j hj=>by cases hj⟩,fun _=>rfl⟩
 ·have S8:=P0 n (by omega);have KN:=P0 (n+1) (by omega);simp only[S8,Xa5] at h;exact fin vs w h.1.1 (h.1.2 KN)
end
end Go.Proofs.YtdilmfakkppgpaaGreatDoor
namespace Go.Proofs.YtdilmfakkppgpaaGreatDoor
open Go.RowKit WordsM
def NoD (v:Value):Prop:=∀x:Nat,v≠nv .u32 x
theorem Q9o (b:Bool):NoD (.bool b):=fun _=>by simp[nv]
theorem Q4j (a:OA) (n c:Nat):NoD (.slice a n c):=fun _=>by simp[nv]
theorem Qd2 (e:Int):NoD (.int .i64 e):=fun _=>by simp[nv]
theorem Q3d.offD {w:World} {B:Nat} {e:TypeId} {k:Nat} {a:OA} {n c:Nat} {xs:LV} (h:Q3d NoD w B e k a n c xs) {aw:OA} {l cw v:Nat} (hw:Q0n w aw l cw v):dig (2^32) v=[]∨∃b o,aw=some ⟨b,o,none⟩/\b<w.heap.size/\(∀(j:Nat) x,(dig (2^32) v)[j]?=some x->w.cell? ⟨b,o+j,none⟩=some (nv .u32 x))/\∀y,a=some y->y.block≠b:=by
 rcases hw.rd with h0|⟨b,o,rfl,hb,hc⟩
 ·exact .inl h0
 cases hL:dig (2^32) v with
 |nil=>exact .inl rfl
 |cons y r=>
  rw[hL] at hc;refine .inr ⟨b,o,rfl,hb,hc,fun z hz e=>?_⟩;have h1:=hc 0 y rfl;rcases h.1.form with ⟨h0,_⟩|⟨g,cur,h0,_,_,hh,_⟩
  ·rw[h0] at hz;cases hz
  ·rw[h0] at hz;injection hz with hz;subst hz;have e:g=b:=e;subst e;rw[Ux _ _ _ _ _ _ hh] at h1;exact h.2 g cur _ _ h0 hh _ (Xbo.2 (Array.mem_of_getElem? h1)) y rfl
theorem Q3d.grownD {w w':World} {B:Nat} {e:TypeId} {k:Nat} {a:OA} {n c:Nat} {xs:LV} (h:Q3d NoD w B e k a n c xs) (hg:w.grownBy w' (a.map (·.block))) {aw:OA} {l cw v:Nat} (hw:Q0n w aw l cw v):Q0n w' aw l cw v:=by
 refine ⟨hw.len,hw.cap,hw.most,?_⟩;rcases h.offD hw with h0|⟨b,o,rfl,hb,hc,C1⟩
 ·exact .inl h0
 ·refine .inr ⟨b,o,rfl,Ue hb hg.size,fun j x hx=>(Td (a:=⟨b,o+j,none⟩) (hg.block b hb fun e=>?_)).trans (hc j x hx)⟩;cases a with
  |none=>simp at e
  |some z=>
   simp only[UM,Un] at e;exact C1 z rfl e.symm
theorem Q0n.set1 {w:World} {a:OA} {n c v:Nat} (h:Q0n w a n c v) {p:Addr} {u:Value} (hp:w.cell? p=some u) (hu:NoD u) (x:Value):Q0n (w.setCell p x) a n c v:=by
 refine ⟨h.len,h.cap,h.most,?_⟩;have:=h.rd.store1 hp hu x;rwa[UV]
def Q5y (w0 w:World):List Q0a->LV->Prop
 |[],xs=>xs=[]
 |p::r,xs=>∃n a l c e v ae le ce ys,xs=.bool n:: .slice a l c:: .int .i64 e:: .slice ae le ce::ys/\(Q0n w a l c v/\Q5b n v e/\dy (sgn n v) e=p.1/\Q0j w0 ae le ce p.2)/\Q5y w0 w r ys
theorem Q5y.len {w0 w:World}:∀{ts:List Q0a} {xs:LV},Q5y w0 w ts xs->xs.length=ts.length*4
 |[],_,h=>by cases h;rfl
 |p::r,_,⟨_,_,_,_,_,_,_,_,_,ys,rfl,_,h⟩=>by
  have:=Q5y.len h;simp only[Uz];omega
theorem Q5y.one {w0 w:World}:∀{ts:List Q0a} {xs:LV},Q5y w0 w ts xs->∀u∈xs,u.oneCell'=true/\NoD u
 |[],_,h,u,hu=>by cases h;cases hu
 |p::r,_,⟨_,_,_,_,_,_,_,_,_,ys,rfl,_,h⟩,u,hu=>by
  simp only[UF] at hu;rcases hu with rfl|rfl|rfl|rfl|hu
  ·exact ⟨rfl,Q9o _⟩
  ·exact ⟨rfl,Q4j _ _ _⟩
  ·exact ⟨rfl,Qd2 _⟩
  ·exact ⟨rfl,Q4j _ _ _⟩
  ·exact Q5y.one h u hu
theorem Q5y.app {w0 w:World} {ts':List Q0a} {ys:LV} (h':Q5y w0 w ts' ys):∀{ts:List Q0a} {xs:LV},Q5y w0 w ts xs->Q5y w0 w (ts++ts') (xs++ys)
 |[],_,h=>by cases h;exact h'
 |p::r,_,⟨n,a,l,c,e,v,ae,le,ce,zs,rfl,hg,h⟩=>⟨n,a,l,c,e,v,ae,le,ce,zs++ys,rfl,hg,Q5y.app h' h⟩
theorem Q5y.parts {w0 w:World}:∀{ts:List Q0a} {xs:LV} (k:Nat),Q5y w0 w ts xs->Q5y w0 w (ts.take k) (xs.take (k*4))/\Q5y w0 w (ts.drop k) (xs.drop (k*4))
 |ts,xs,0,h=>by simp only[TU,List.take_zero,Xaw];exact ⟨rfl,h⟩
 |[],_,k+1,h=>by cases h;simp only[List.take_nil,List.drop_nil];exact ⟨rfl,rfl⟩
 |p::r,_,k+1,⟨n,a,l,c,e,v,ae,le,ce,zs,rfl,hg,h⟩=>by
  obtain ⟨h1,h2⟩:=Q5y.parts k h;rw[show (k+1)*4=k*4+4 by omega];exact ⟨⟨n,a,l,c,e,v,ae,le,ce,zs.take (k*4),rfl,hg,h1⟩,h2⟩
theorem Q5y.keep {w0 w w':World} (hk:∀{a l c v},Q0n w a l c v->Q0n w' a l c v):∀{ts:List Q0a} {xs:LV},Q5y w0 w ts xs->Q5y w0 w' ts xs
 |[],_,h=>h
 |_::_,_,⟨n,a,l,c,e,v,ae,le,ce,zs,hx,hg,h⟩=>⟨n,a,l,c,e,v,ae,le,ce,zs,hx,⟨hk hg.1,hg.2⟩,Q5y.keep hk h⟩
theorem Q5y.old {w0 w1 w:World} (hk:∀{a l c E},Q0j w0 a l c E->Q0j w1 a l c E):∀{ts:List Q0a} {xs:LV},Q5y w0 w ts xs->Q5y w1 w ts xs
 |[],_,h=>h
 |_::_,_,⟨n,a,l,c,e,v,ae,le,ce,zs,hx,hg,h⟩=>⟨n,a,l,c,e,v,ae,le,ce,zs,hx,⟨hg.1,hg.2.1,hg.2.2.1,hk hg.2.2.2⟩,Q5y.old hk h⟩
theorem Q5y.get {w0 w:World}:∀{ts:List Q0a} {xs:LV} {i:Nat} {p:Q0a},Q5y w0 w ts xs->ts[i]?=some p->∃n a l c e v ae le ce,xs[i*4]?=some (.bool n)/\xs[i*4+1]?=some (.slice a l c)/\xs[i*4+2]?=some (.int .i64 e)/\xs[i*4+3]?=some (.slice ae le ce)/\Q0n w a l c v/\Q5b n v e/\dy (sgn n v) e=p.1/\Q0j w0 ae le ce p.2
 |[],_,i,p,_,hp=>by simp at hp
 |q::r,_,0,p,⟨n,a,l,c,e,v,ae,le,ce,zs,rfl,⟨h1,h2,h3,h4⟩,h⟩,hp=>by
  simp only[UI,Un] at hp;subst hp;exact ⟨n,a,l,c,e,v,ae,le,ce,rfl,rfl,rfl,rfl,h1,h2,h3,h4⟩
 |q::r,_,i+1,p,⟨_,_,_,_,_,_,_,_,_,zs,rfl,_,h⟩,hp=>by
  obtain ⟨n,a,l,c,e,v,ae,le,ce,h0,h1,h2,h3,h4⟩:=Q5y.get (i:=i) h (by simpa using hp);rw[show (i+1)*4=i*4+4 by omega];exact ⟨n,a,l,c,e,v,ae,le,ce,h0,h1,h2,h3,h4⟩
theorem Q5y.put {w0 w:World} {n':Bool} {a':OA} {l' c' v':Nat} {e':Int} (hd:Q0n w a' l' c' v') (hc:Q5b n' v' e'):∀{ts:List Q0a} {xs:LV} {i:Nat} {p:Q0a},Q5y w0 w ts xs->ts[i]?=some p->Q5y w0 w (ts.set i (dy (sgn n' v') e',p.2)) (((xs.set (i*4) (.bool n')).set (i*4+1) (.slice a' l' c')).set (i*4+2) (.int .i64 e'))
 |[],_,i,p,_,hp=>by simp at hp
 |q::r,_,0,p,⟨n,a,l,c,e,v,ae,le,ce,zs,rfl,⟨h1,h2,h3,h4⟩,h⟩,hp=>by
  simp only[UI,Un] at hp;subst hp;exact ⟨n',a',l',c',e',v',ae,le,ce,zs,rfl,⟨hd,hc,rfl,h4⟩,h⟩
 |q::r,_,i+1,p,⟨n,a,l,c,e,v,ae,le,ce,zs,rfl,hg,h⟩,hp=>by
  have ih:=Q5y.put hd hc (i:=i) h (by simpa using hp);rw[show (i+1)*4=i*4+4 by omega];exact ⟨n,a,l,c,e,v,ae,le,ce,_,rfl,hg,ih⟩
def Qkx (w:World) (a:OA) (n c:Nat) (ts:List Q0a):Prop:=
 ts.length=n/\n<=c/\c<=9223372036854775807/\(ts=[]∨∃b o,a=some ⟨b,o,none⟩/\b<w.heap.size/\∃xs,Q5y w w ts xs/\∀j u,xs[j]?=some u->w.cell? ⟨b,o+j,none⟩=some u)
theorem Qmn {S:Nat}:∀{l:List Q0a} {c:Q0a},(∀p∈l,bnd S p.1)->bnd S c.1->∀p∈Q8c l c,bnd (S+1) p.1
 |[],c,_,hc,p,h=>by rw[Q8c,Uy] at h;subst h;exact hc.more (Xav _)
 |q::r,c,hl,hc,p,h=>by
  rw[Q8c] at h
  split at h
  ·rcases UF.1 h with rfl|h
   ·exact (hl _ (by simp)).more (Xav _)
   ·exact Qmn (fun x hx=>hl x (by simp[hx])) hc p h
  ·split at h
   ·rcases UF.1 h with rfl|h
    ·exact (hl q (by simp)).add hc
    ·exact (hl p (by simp[h])).more (Xav _)
   ·rcases UF.1 h with rfl|h
    ·exact hc.more (Xav _)
    ·exact (hl p h).more (Xav _)
theorem Qbo {T:Nat} {ts:List Q0a} (h:∀p∈ts,bnd T p.1):∀i,∀p∈Q23 (ts.take i),bnd (T+i) p.1
 |0,p,hp=>by simp[Q23] at hp
 |i+1,p,hp=>by
  cases hi:ts[i]? with
  |none=>
   have:ts.take (i+1)=ts.take i:=by
    rw[List.getElem?_eq_none_iff] at hi;rw[UA hi,UA (by omega)]
   rw[this] at hp;exact (Qbo h i p hp).more (by omega)
  |some c=>
   rw[Tc,hi,show ts.take i++Option.toList (some c)=ts.take i++[c] from rfl,Q7v] at hp;exact Qmn (Qbo h i) ((h c (Ud hi)).more (by omega)) p hp
theorem Qmo:∀(l:List Q0a) (c:Q0a),(Q8c l c).length<=l.length+1
 |[],c=>by simp[Q8c]
 |q::r,c=>by
  have:=Qmo r c;rw[Q8c]
  split
  ·simp only[Uz];omega
  ·split <;> simp
theorem Qbp (ts:List Q0a):∀i,(Q23 (ts.take i)).length<=i
 |0=>by simp[Q23]
 |i+1=>by
  cases hi:ts[i]? with
  |none=>
   have:ts.take (i+1)=ts.take i:=by
    rw[List.getElem?_eq_none_iff] at hi;rw[UA hi,UA (by omega)]
   rw[this];have:=Qbp ts i;omega
  |some c=>
   rw[Tc,hi,show ts.take i++Option.toList (some c)=ts.take i++[c] from rfl,Q7v];have h1:=Qbp ts i;have h2:=Qmo (Q23 (ts.take i)) c;omega
theorem Qky {c:Q0a}:∀(l:List Q0a) (k:Nat),k<=l.length->(∀j p,j<k->l[j]?=some p->0<Q2u p.2 c.2)->Q8c l c=l.take k++Q8c (l.drop k) c
 |l,0,_,_=>by simp
 |[],k+1,h,_=>by simp at h
 |q::r,k+1,h,hj=>by
  rw[Q8c,Us (hj 0 q (by omega) rfl),Qky r k (by simpa using h) (fun j p JI hp=>hj (j+1) p (by omega) (by simpa using hp))];rfl
theorem Qs7 {c p:Q0a} {l:List Q0a} {k:Nat} (hk:∀j p,j<k->l[j]?=some p->0<Q2u p.2 c.2) (hp:l[k]?=some p) (he:Q2u p.2 c.2=0):Q8c l c=l.set k (p.1+c.1,p.2):=by
 have B0:=(Um.1 hp).1;rw[Qky l k (TI B0) hk,Q6r l k p hp,Q8c,Uq (by omega),Us ((Q7i _ _).1 he),List.set_eq_take_append_cons_drop,Us B0]
theorem Qih {c:Q0a} {l:List Q0a} {k:Nat} (QT:k<=l.length) (hk:∀j p,j<k->l[j]?=some p->0<Q2u p.2 c.2) (hp:∀p,l[k]?=some p->Q2u p.2 c.2<0):Q8c l c=l.take k++(c::l.drop k):=by
 rw[Qky l k QT hk];cases hd:l[k]? with
 |none=>
  rw[List.getElem?_eq_none_iff] at hd;rw[UZ hd,Q8c]
 |some p=>
  have h1:=hp p hd;rw[Q6r l k p hd,Q8c,Uq (by omega),Uq (fun e=>by rw[(Q7i _ _).2 e] at h1;omega)]
theorem Q74:Tryz.prog.underlying 142=some (.slice (Tryz.prog.elem 142)):=by kernel_rfl
theorem Qii (w:World):(sizeOf (Tryz.prog.elem 142)).run Tryz.prog w=.ok 4 w:=by kernel_rfl
theorem Qij:(Tryz.prog.info? 144).map (fun i=>(i.zero,i.size,i.bytes))=some (some (.agg #[.bool false,.slice none 0 0,.int .i64 0,.slice none 0 0]),4,64):=by kernel_rfl
theorem Qik (w:World) (a:OA) (n c k:Nat) (h1:k<=n):
 (Instr.slice 142 (.slice a n c) (some (.int .i64 (k:Int))) none none).run Tryz.prog w=.ok (.slice (Qoz a c k 4) (n-k) (c-k)) w:=by
 rw[run_slice_l w _ a n c Q74 .i64 (k:Int) (by omega) (by omega),Qii]
 show Result.ok (Value.slice (Qoz a c ((k:Int).toNat) 4) _ _) w=_
 rw[Xa6]
theorem Qil (w:World) (a:OA) (n c k:Nat) (h2:k<=c):
 (Instr.slice 142 (.slice a n c) none (some (.int .i64 (k:Int))) none).run Tryz.prog w=.ok (.slice a k c) w:=by
 rw[run_slice_h w _ a n c Q74 .i64 (k:Int) (by omega) (by omega),Qii];have:=Q8y a c 4
 show Result.ok (Value.slice (Qoz a c 0 4) _ _) w=_
 rw[this,Xbz,Xbz,Xa6]
theorem Qof (w:World) (r:Option Nat):w.grownBy w r:=⟨rfl,rfl,rfl,Ug _,fun _ _ _=>rfl⟩
theorem Qkz {w w':World} {B:Nat} {w0:World} (h:w.grownBy w' none) (hb:Below B w0 w) (hB:B<=w.heap.size):Below B w0 w':=
 hb.trans ⟨h.os,h.tape,h.output,h.size,fun z hz=>h.block z (Ue hz hB) (fun e=>by cases e)⟩
theorem Q4k (ty:TypeId) (w:World) (B:Nat) (hB:B<=w.heap.size) (a:OA) (n c:Nat) (xs:LV) (h:Q3d NoD w B 144 4 a n c xs) (b:OA) (m d:Nat) (ys:LV) (hl:ys.length=m*4) (hy:m=0∨∃x,b=some x/\∀j u,ys[j]?=some u->w.cell? (x.add j)=some u) (h1:∀u∈ys,u.oneCell'=true/\NoD u) (hn:n+m<=100000):
 ∃a' c' w',(Builtin.append_ #[142,142] ty #[.slice a n c,.slice b m d]).run Tryz.prog w=.ok (.slice a' (n+m) c') w'/\Q3d NoD w' B 144 4 a' (n+m) c' (xs++ys)/\w.grownBy w' (a.map (·.block))/\(a'=a∨∀y,a'=some y->y.block=w.heap.size):=by
 obtain ⟨i0,O1,P1,K1,J1⟩:=Q0l Qij;rcases TQ m with rfl|hm
 ·obtain rfl:ys=[]:=UH.1 (by omega);exact ⟨a,c,w,Q72 w _ ty _ i0 Q74 O1 a b n c d h.1.cap.1,by simpa using h,Qof _ _,.inl rfl⟩
 ·rcases hy with h0|⟨x,rfl,hx⟩
  ·omega
  obtain ⟨g,c',w',I1,I0,m7,R1⟩:=Q6i (P:=Tryz.prog) NoD w 142 ty 144 i0 _ 4 64 Q74 O1 P1 K1 J1 rfl (by
   intro u hu;simp[Value.cells] at hu;rcases hu with rfl|rfl|rfl|rfl
   ·exact Q9o _
   ·exact Q4j _ _ _
   ·exact Qd2 _
   ·exact Q4j _ _ _) B hB a n c xs h x m d ys hl hx (fun u hu=>(h1 u hu).1) (fun u hu=>(h1 u hu).2) hm (by omega) (by decide) (by decide)
  refine ⟨_,c',w',I1,I0,m7,?_⟩;rcases R1 with h0|h0
  ·exact .inl h0.symm
  ·exact .inr fun y hy=>by injection hy with hy;subst hy;exact h0
theorem Q3d.src {Pr:Value->Prop} {w:World} {B:Nat} {e:TypeId} {n c:Nat} {a:OA} {xs:LV} (h:Q3d Pr w B e 4 a n c xs) (k m:Nat) (hkm:k+m=n):m=0∨∃x,Qoz a c k 4=some x/\∀j u,((xs.drop (k*4)).take (m*4))[j]?=some u->w.cell? (x.add j)=some u:=by
 rcases TQ m with h0|hm
 ·exact .inl h0
 refine .inr ?_;rcases h.1.form with ⟨_,h0,_⟩|⟨g,cur,rfl,_,_,_⟩
 ·omega
 have hc:=h.1.cap.1;refine ⟨⟨g,k*4,none⟩,?_,fun j u hj=>?_⟩
 ·unfold Qoz;rw[Uq (by omega)];simp[Xao]
 ·rw[To] at hj
  split at hj
  ·rw[Xad] at hj;obtain ⟨g',e',_,_,V0⟩:=h.1.at_ hj;injection e' with e';injection e' with e';subst e';rw[Xao];exact V0
  ·cases hj
theorem Qek (w0 wr:World) (hb:Bw w0 wr) (ao:OA) (m co:Nat) (xs:LV) (out:List Q0a) (R0:out.length=m) (I0:Q3d NoD wr w0.heap.size 144 4 ao m co xs) (P7:Q5y w0 wr out xs) (k:Nat) (hk:k<=m) (cc:Q0a) (lit:LV) (Qx:Q5y w0 wr [cc] lit) (hm:m<=10000):
 ∃a7 c7 w7,(Builtin.append_ #[142,142] 142 #[.slice none 0 0,.slice ao k co]).run Tryz.prog wr=.ok (.slice a7 k c7) w7/\Bw w0 w7/\
  ∃a8 c8 w8,(Builtin.append_ #[142,142] 142 #[.slice a7 k c7,.slice (some ⟨w7.heap.size,0,none⟩) 1 1]).run Tryz.prog (w7.alloc (.cells lit.toArray 144))=.ok (.slice a8 (k+1) c8) w8/\Bw w0 w8/\
   ∃a9 c9 w9,(Builtin.append_ #[142,142] 142 #[.slice a8 (k+1) c8,.slice (Qoz ao co k 4) (m-k) (co-k)]).run Tryz.prog w8=.ok (.slice a9 (m+1) c9) w9/\Bw w0 w9/\
    Q3d NoD w9 w0.heap.size 144 4 a9 (m+1) c9 (xs.take (k*4)++lit++xs.drop (k*4))/\Q5y w0 w9 (out.take k++cc::out.drop k) (xs.take (k*4)++lit++xs.drop (k*4)):=by
 have J3:xs.length=m*4:=by rw[P7.len,R0]
 have hone:=fun u hu=>P7.one u hu;have hB:=hb.size;obtain ⟨QG,Jl⟩:=P7.parts k
 --the front
 have hs7:k=0∨∃x,ao=some x/\∀j u,(xs.take (k*4))[j]?=some u->wr.cell? (x.add j)=some u:=by
  rcases TQ k with h0|N5
  ·exact .inl h0
  ·rcases I0.1.form with ⟨_,h0,_⟩|⟨g,cur,rfl,_,_,_⟩
   ·omega
   ·refine .inr ⟨⟨g,0,none⟩,rfl,fun j u hj=>?_⟩;rw[To] at hj
    split at hj
    ·obtain ⟨g',e',_,_,V0⟩:=I0.1.at_ hj;injection e' with e';injection e' with e';subst e';rw[Xao,UB];exact V0
    ·cases hj
 obtain ⟨a7,c7,w7,i7,hrow7,hgr7,hat7⟩:=Q4k 142 wr w0.heap.size hB none 0 0 [] (Q3d.nil_ _ _ _ _ _) ao k co (xs.take (k*4)) (by rw[Tn,J3];omega) hs7 (fun u hu=>hone u (Ty hu)) (by omega);rw[UB,TW] at hrow7;rw[UB] at i7;have Ji:wr.grownBy w7 none:=hgr7;have F7:=Qkz Ji hb hB;have KE:Bw wr w7:=⟨Ji.os,Ji.tape,Ji.output,Ji.size,fun z hz=>Ji.block z hz (fun e=>by cases e)⟩;refine ⟨a7,c7,w7,i7,F7,?_⟩
 --the term
 have T4:Bw w7 (w7.alloc (.cells lit.toArray 144)):=Ba;have Km:lit.length=4:=by rw[Qx.len];rfl
 have hb7a:=Below.next0 F7 T4;obtain ⟨a8,c8,w8,I2,Jh,B5,Vz⟩:=Q4k 142 (w7.alloc (.cells lit.toArray 144)) w0.heap.size hb7a.size a7 k c7 (xs.take (k*4)) (hrow7.step T4) (some ⟨w7.heap.size,0,none⟩) 1 1 lit (by rw[Km]) (.inr ⟨_,rfl,fun j u hj=>by
  rw[Xao,UB,Ux _ _ _ _ _ _ (Ul _ _)];simpa using hj⟩) (fun u hu=>Qx.one u hu) (by omega)
 have hne7:∀z,z<wr.heap.size->a7.map (·.block)≠some z:=fun z hz e=>by
  cases a7 with
  |none=>simp at e
  |some y=>
   simp only[UM,Un] at e;rcases hat7 with h0|h0
   ·cases h0
   ·have:=h0 y rfl;omega
 have B4:Bw w0 w8:=hb7a.trans ⟨B5.os,B5.tape,B5.output,B5.size,fun z hz=>B5.block z (Ue hz hb7a.size) (fun e=>hne7 z (by omega) e.symm)⟩;have hb8r:Bw wr w8:=(Below.next0 KE T4).trans ⟨B5.os,B5.tape,B5.output,B5.size,fun z hz=>B5.block z (Ue hz (Below.next0 KE T4).size) (fun e=>hne7 z hz e.symm)⟩;refine ⟨a8,c8,w8,I2,B4,?_⟩
 --the rest
 have Yz:=(I0.step hb8r).src k (m-k) (by omega);have B6:(xs.drop (k*4)).take ((m-k)*4)=xs.drop (k*4):=UA (by rw[Te,J3,Nat.sub_mul];omega);rw[B6] at Yz;obtain ⟨a9,c9,w9,M6,m9,Qa,hat9⟩:=Q4k 142 w8 w0.heap.size B4.size a8 (k+1) c8 (xs.take (k*4)++lit) Jh (Qoz ao co k 4) (m-k) (co-k) (xs.drop (k*4)) (by rw[Te,J3,Nat.sub_mul]) Yz (fun u hu=>hone u (Xbn hu)) (by omega);rw[show k+1+(m-k)=m+1 by omega] at M6 m9;have hne8:∀z,z<wr.heap.size->a8.map (·.block)≠some z:=fun z hz e=>by
  rcases Vz with h0|h0
  ·rw[h0] at e;exact hne7 z hz e
  ·cases a8 with
   |none=>simp at e
   |some y=>
    simp only[UM,Un] at e;have h1:=h0 y rfl;have h2:=(Below.next0 KE T4).size;omega
 have Z4:Bw w0 w9:=B4.trans ⟨Qa.os,Qa.tape,Qa.output,Qa.size,fun z hz=>Qa.block z (Ue hz B4.size) (fun e=>hne8 z (by omega) e.symm)⟩;refine ⟨a9,c9,w9,M6,Z4,m9,?_⟩;have Jf:∀{a l c v},Q0n wr a l c v->Q0n w9 a l c v:=fun h=>Jh.grownD Qa (h.step hb8r);have h1:=(QG.keep Jf);have h2:=(Jl.keep Jf);have h3:=(Qx.keep Jf);have:=Q5y.app h2 (Q5y.app h3 h1);rwa[show out.take k++[cc]++out.drop k=out.take k++cc::out.drop k by simp] at this
theorem Q19.push1 {B:Nat} {w w2:World} {a:OA} {n c c2 g:Nat} {all:List Q01} (h:Q19 B w a n c all) {xs xs2:LV} (y4:Q3d NoU w B 44 4 a n c xs) (m7:w.grownBy w2 (a.map (·.block))) (R1:a=some ⟨g,0,none⟩∨g=w.heap.size) {m:Q01} {aw:OA} {lw cw be oe le ce:Nat}
 (hr:Q3d NoU w2 B 44 4 (some ⟨g,0,none⟩) (n+1) c2 xs2) (VM:xs2=xs++[.bool m.neg,.int .i64 m.exp,.slice aw lw cw,.slice (some ⟨be,oe,none⟩) le ce])
 (hw:WordsIn w aw lw cw m.ws) (hi:Q0j w (some ⟨be,oe,none⟩) le ce m.es) (L6:be<w.heap.size) (V5:∀x,a=some x->x.block≠be):Q19 B w2 (some ⟨g,0,none⟩) (n+1) c2 (all++[m]):=by
 have Z1:w.heap.size<=w2.heap.size:=m7.size;have JX:Q0f (fun b=>∃x,a=some x/\x.block=b) w w2:=(Q0f.of_below (Uf _ _) _).trans0 (Q0f.of_grown m7 fun r hr _=>by
  cases a with
  |none=>simp at hr
  |some y=>simp only[UM,Un] at hr;exact ⟨y,rfl,hr⟩)
 have JU:∀(aw:OA) (lw cw:Nat) (L:LN),WordsIn w aw lw cw L->WordsIn w2 aw lw cw L:=fun aw lw cw L hw=>hw.turn (y4.off hw) JX (fun _ h=>h);have QE:∀k,k<w.heap.size->(∀x,a=some x->x.block≠k)->w2.heap[k]?=w.heap[k]?:=fun k hk hn=>JX.block k hk (fun ⟨x,hx,e⟩=>hn x hx e);have Y5:∀k,k<w.heap.size->(∀x,a=some x->x.block≠k)->k≠g:=fun k hk hn e=>by
  subst e;rcases R1 with h1|h1
  ·exact hn _ h1 rfl
  ·omega
 have Z2:xs.length=n*4:=y4.1.len;have I8:∀i v,xs2[i]?=some v->w2.cell? ⟨g,i,none⟩=some v:=fun i v hv=>hr.1.cell0 hv;refine ⟨⟨xs2,hr⟩,fun j m' K7=>⟨g,rfl,?_⟩,by rw[Uj,h.len];rfl⟩
 by_cases hj:j<n
 ·rw[Tx (by rw[h.len];exact hj)] at K7;obtain ⟨g0,ha,hE⟩:=h.ent j m' K7;refine hE.via Z1 (fun i hi4=>?_) (fun _ _ _ h=>JU _ _ _ _ h) fun be C0 D0=>?_
  ·have B0:j*4+i<xs.length:=(by omega);have e1:=I8 (j*4+i) xs[j*4+i] (by rw[VM,Tx B0,Ub B0]);subst ha;rw[e1,y4.1.cell0 (Ub B0)]
  ·have hna:∀x,a=some x->x.block≠be:=fun x hx e=>by rw[ha] at hx;injection hx with hx;subst hx;exact C0 e.symm
   exact ⟨Y5 be D0 hna,QE be D0 hna⟩
 ·have Xw:j=n:=by
   have:=(Um.1 K7).1;rw[Uj,h.len] at this;simp at this;omega
  subst Xw;rw[Tq (by rw[h.len];exact Ug _),h.len,Xbp] at K7;simp only[UI,Un] at K7;subst K7;have hc:∀i v,[Value.bool m.neg,.int .i64 m.exp,.slice aw lw cw,.slice (some ⟨be,oe,none⟩) le ce][i]?=some v->w2.cell? ⟨g,j*4+i,none⟩=some v:=fun i v hv=>I8 _ _ (by rw[VM,Tq (by omega),Z2,Nat.add_sub_cancel_left];exact hv);have D0:=QE be L6 V5;refine ⟨aw,lw,cw,be,oe,le,ce,hc 0 _ rfl,hc 1 _ rfl,hc 2 _ rfl,hc 3 _ rfl,JU _ _ _ _ hw,⟨hi.len,hi.cap,hi.most,hi.rng,?_⟩,Y5 be L6 V5,Ue L6 Z1⟩;rcases hi.rd with h8|⟨b,oo,e,hb,Y2⟩
  ·exact .inl h8
  ·injection e with e;injection e with e1 e2;subst e1;subst e2;exact .inr ⟨be,oe,rfl,Ue hb Z1,fun i x hx=>(Td (a:=⟨be,oe+i,none⟩) D0).trans (Y2 i x hx)⟩
theorem Qak:Tryz.prog.underlying 42=some (.slice 3):=by kernel_rfl
theorem Q8s:Tryz.prog.underlying 25=some (.slice 44):=by kernel_rfl
theorem Qim (ty:TypeId) (W:World) (b:Nat) (ae:OA) (le ce:Nat) (E:List Int) (h:Q0j W ae le ce E) (h0:E≠[]) (o6:le<=1000):
 ∃c' W',(Builtin.append_ #[42,42] ty #[.slice (some ⟨b,0,none⟩) 0 0,.slice ae le ce]).run Tryz.prog W=.ok (.slice (some ⟨W.heap.size,0,none⟩) le c') W'/\Q0j W' (some ⟨W.heap.size,0,none⟩) le c' E/\Bw W W'/\W.heap.size<W'.heap.size:=by
 obtain ⟨i0,O1,P1,K1,J1⟩:=Q0l Q47;have Z2:=h.len;have A3:0<le:=by rw[<-Z2];exact Xai.2 h0
 obtain ⟨p,o,rfl,hp,hc⟩:∃p o,ae=some ⟨p,o,none⟩/\p<W.heap.size/\∀(j:Nat) x,E[j]?=some x->W.cell? ⟨p,o+j,none⟩=some (.int .i64 x):=by
  rcases h.rd with h1|h1
  ·exact absurd h1 h0
  ·exact h1
 have V3:=growslice_fits (need:=0+le) (old:=0) (bytes:=i0.bytes) (by omega) (by rw[J1];omega);have I1:=run_append_grow (P:=Tryz.prog) W 42 ty 3 i0 _ Qak O1 P1 ⟨b,0,none⟩ 0 0 [] (by simp) (fun j v hv=>by simp at hv) ⟨p,o,none⟩ le ce (E.map zv) (by rw[UQ,K1];omega) (fun j v hv=>by
  rw[UT] at hv;cases hx:E[j]? with
  |none=>rw[hx] at hv;cases hv
  |some x=>
   rw[hx] at hv;simp only[UM,Un] at hv;subst hv;have I6:(⟨p,o,none⟩:Addr).add j=⟨p,o+j,none⟩:=(by unfold Addr.add;split <;> simp_all);rw[I6];exact hc j x hx) (by omega) (by omega) V3
 rw[UB] at I1;have hcp:le<=grownCap W le 0 3:=grownCap_ge W le 0 3;have E4:grownCap W le 0 3<=maxLen:=grownCap_le_maxLen W le 0 3 (by unfold maxLen;omega);refine ⟨_,_,I1,⟨Z2,hcp,by simpa[maxLen] using E4,.new h.rng.1,.inr ⟨W.heap.size,0,rfl,by rw[Uo];exact TB _,fun j x hx=>?_⟩⟩,⟨rfl,rfl,rfl,by rw[Uo];exact Xav _,fun k hk=>(Below.alloc (Uf W.drew.heap.size W.drew) (Ug _) _).block k hk⟩,by rw[Uo];exact TB _⟩;have hn:=Ul W.drew (.cells (([]:LV).toArray++(E.map zv).toArray++Builtin.zeroCells (Value.int .i64 0).cells (grownCap W le 0 3-le)) 3);have N1:=Ux _ _ (0+j) _ _ _ hn;refine N1.trans ?_;rw[UB,Array.getElem?_append_left (by have:=(Um.1 hx).1;simp;exact this)];simp[hx,zv]
theorem Q10 {P:Program} {V:Value->World->Prop} {w w':World} {u:Value} {res:Result Next} (hr:res=.ok (.value u) w') (hb:Bw w w') (h:V u w'):Q0v P Qap V w res:=by rw[hr];exact ⟨hb,h⟩
theorem Q5j {P:Program} {a:Operand->Value} {o:Oper} (s x:Operand) (t1 t2:TypeId) (ho:o.op=.call { callee:=.builtin .append,args:= #[s,x],argTypes:= #[t1,t2] }) {va vx:Value} (hs:a s=va) (hx:a x=vx) {v:Value} {w w':World} (I1:(Builtin.append_ #[t1,t2] o.type #[va,vx]).run P w=.ok v w'):(execOp a o).run P w=.ok (.value v) w':=by
 unfold execOp;simp only[ho,resolve,invoke,builtin,Sem.run_bind,Xbt,Xa7,List.map_toArray,Xa4,Xbd,hs,hx,I1]
theorem Q55 {P:Program} {a:Operand->Value} {o:Oper} (t:TypeId) (len:Nat) (parts:Array (Nat × Operand)) (ho:o.op=.buildSlice t len parts) {parts':Array (Nat × Value)} (hp:(parts.map fun (i,x)=>(i,a x))=parts') {v:Value} {w w':World} (I1:(Instr.buildSlice t len parts').run P w=.ok v w'):(execOp a o).run P w=.ok (.value v) w':=by
 subst hp;unfold execOp;simp only[ho,Sem.run_bind,I1,Xa7,Xbt]
theorem Ql0 (W:World):(Instr.buildSlice 42 0 #[]).run Tryz.prog W=.ok (.slice (some ⟨W.heap.size,0,none⟩) 0 0) (W.alloc (.cells #[] 3)):=by
 simp[Instr.buildSlice,run_underlying Qak,Instr.fill,newRow];exact congrArg (fun c=>W.alloc (Obj.cells c 3)) (by simp)
theorem Q8t (W:World) (v0 v1 v2 v3:Value):(Instr.buildSlice 25 1 #[(0,.agg #[v0,v1,v2,v3])]).run Tryz.prog W=.ok (.slice (some ⟨W.heap.size,0,none⟩) 1 1) (W.alloc (.cells #[v0,v1,v2,v3] 44)):=by
 obtain ⟨i0,O1,P1,K1,J1⟩:=Q0l Q4g;exact run_buildSlice W 25 44 1 _ #[v0,v1,v2,v3] i0 _ Q8s O1 P1 (by rw[K1];decide) (by rw[K1];decide) (by rw[K1];first|kernel_rfl|simp[Instr.fill,Value.cells])
def Emp (v:Value) (_:World):Prop:=∃b,v=.slice (some ⟨b,0,none⟩) 0 0
def Qy8 (N le:Nat) (E:List Int) (v:Value) (W:World):Prop:=∃g c,v=.slice (some ⟨g,0,none⟩) le c/\N<=g/\g<W.heap.size/\Q0j W (some ⟨g,0,none⟩) le c E
def Qy9 (N le:Nat) (E:List Int) (v0 v1 v2:Value) (v:Value) (W:World):Prop:=∃g c,v=.agg #[v0,v1,v2,.slice (some ⟨g,0,none⟩) le c]/\N<=g/\g<W.heap.size/\Q0j W (some ⟨g,0,none⟩) le c E
def Qs8 (N le:Nat) (E:List Int) (v0 v1 v2:Value) (v:Value) (W:World):Prop:=∃bl g c,v=.slice (some ⟨bl,0,none⟩) 1 1/\bl<W.heap.size/\W.heap[bl]?=some (.cells #[v0,v1,v2,.slice (some ⟨g,0,none⟩) le c] 44 (0,0))/\N<=g/\g<W.heap.size/\Q0j W (some ⟨g,0,none⟩) le c E
theorem Qog:Q0t Emp:=fun _ _ _ h _=>h
theorem Qin (N le:Nat) (E:List Int):Q0t (Qy8 N le E):=fun _ _ _ ⟨g,c,h1,h2,h3,h4⟩ hb=>⟨g,c,h1,h2,Ue h3 hb.size,h4.step hb⟩
theorem Qio (N le:Nat) (E:List Int) (v0 v1 v2:Value):Q0t (Qy9 N le E v0 v1 v2):=fun _ _ _ ⟨g,c,h1,h2,h3,h4⟩ hb=>⟨g,c,h1,h2,Ue h3 hb.size,h4.step hb⟩
theorem Qfm (N le:Nat) (E:List Int) (v0 v1 v2:Value):Q0t (Qs8 N le E v0 v1 v2):=fun _ _ _ ⟨bl,g,c,h1,h5,h6,h2,h3,h4⟩ hb=>⟨bl,g,c,h1,Ue h5 hb.size,(hb.block bl h5).trans h6,h2,Ue h3 hb.size,h4.step hb⟩
structure Qb8 (B:Nat) (w:World) (a:OA) (n c:Nat) (all:List Q01) (xs:LV):Prop where
 st:Q19 B w a n c all
 row:Q3d NoU w B 44 4 a n c xs
 new:∀j,j<n->∃be oe le ce,xs[j*4+3]?=some (.slice (some ⟨be,oe,none⟩) le ce)/\B<=be
theorem Qb8.step {B n c:Nat} {w w':World} {a:OA} {all:List Q01} {xs:LV} (h:Qb8 B w a n c all xs) (hb:Bw w w'):Qb8 B w' a n c all xs:=⟨h.st.step hb,h.row.step hb,h.new⟩
theorem Qb8.nil_ (B:Nat) (w:World):Qb8 B w none 0 0 [] []:=⟨Q19.nil_ _ _,Q3d.nil_ _ _ _ _ _,fun _ h=>absurd h (Xaf _)⟩
def Qx8 (B:Nat) (w:World) (a:OA) (n:Nat):Prop:=∀j,j<n->∃g be oe le ce,a=some ⟨g,0,none⟩/\B<=g/\w.cell? ⟨g,j*4+3,none⟩=some (.slice (some ⟨be,oe,none⟩) le ce)/\B<=be
theorem Qx8.more {B B':Nat} {w:World} {a:OA} {n:Nat} (h:Qx8 B w a n) (hB:B'<=B):Qx8 B' w a n:=fun j hj=>by
 obtain ⟨g,be,oe,le,ce,h1,h2,h3,h4⟩:=h j hj;exact ⟨g,be,oe,le,ce,h1,Ur hB h2,h3,Ur hB h4⟩
theorem Qb8.newp {B n c:Nat} {w:World} {a:OA} {all:List Q01} {xs:LV} (h:Qb8 B w a n c all xs):Qx8 B w a n:=fun j hj=>by
 obtain ⟨be,oe,le,ce,hx,hb⟩:=h.new j hj;obtain ⟨g,ha,_⟩:=h.st.ent j _ (Ub (by rw[h.st.len];exact hj));have hg:=h.st.lt ha;have hr:=h.row;subst ha;exact ⟨g,be,oe,le,ce,rfl,hg.1,hr.1.cell0 hx,hb⟩
theorem Ql1 {B:Nat} {U W:World} {a:OA} {n c:Nat} {all:List Q01} {xs:LV} (hU:Qb8 B U a n c all xs) (hBU:B<=U.heap.size) (hb:Bw U W) {m:Q01} {aw:OA} {lw cw le:Nat} (hw:WordsIn U aw lw cw m.ws) {v:Value} (hv:Qs8 U.heap.size le m.es (.bool m.neg) (.int .i64 m.exp) (.slice aw lw cw) v W) (hn:n<=1000) (ty:TypeId):
 ∃a' c' W' xs',(Builtin.append_ #[25,25] ty #[.slice a n c,v]).run Tryz.prog W=.ok (.slice a' (n+1) c') W'/\Qb8 B W' a' (n+1) c' (all++[m]) xs'/\Below B U W':=by
 obtain ⟨bl,g,c1,rfl,F3,M8,B7,Y6,hE⟩:=hv;obtain ⟨i0,O1,P1,K1,J1⟩:=Q0l Q4g;have hW:=hU.step hb;have hr:=hW.row;have J3:xs.length=n*4:=hr.1.len;obtain ⟨g6,c6,w6,R3,M1,D1,F5⟩:=Q12 (P:=Tryz.prog) NoU W 25 ty 44 i0 _ 4 64 Q8s O1 P1 K1 J1 rfl Q9g B (Ur hBU hb.size) a n c xs hr bl 1 1 [.bool m.neg,.int .i64 m.exp,.slice aw lw cw,.slice (some ⟨g,0,none⟩) le c1] rfl (TA (cs:= #[.bool m.neg,.int .i64 m.exp,.slice aw lw cw,.slice (some ⟨g,0,none⟩) le c1]) M8) (by simp[Value.oneCell']) (by intro u hu;simp at hu;rcases hu with rfl|rfl|rfl|rfl <;> exact fun _=>by simp[nv]) (by decide) (by omega) (by decide) (by decide);refine ⟨_,c6,w6,_,R3,⟨hW.st.push1 hr D1 F5 M1 rfl (hw.step hb) hE Y6 (fun x hx e=>?_),M1,fun j hj=>?_⟩,?_⟩
 ·have:=(hU.st.lt hx).2;omega
 ·by_cases Xw:j<n
  ·obtain ⟨be,oe,l2,c2,hx,D0⟩:=hW.new j Xw;exact ⟨be,oe,l2,c2,by rw[Tx (by omega)];exact hx,D0⟩
  ·obtain rfl:j=n:=(by omega);exact ⟨g,0,le,c1,by rw[Tq (by omega),J3,Nat.add_sub_cancel_left];rfl,by omega⟩
 ·have hbB:Below B U W:=⟨hb.os,hb.tape,hb.output,hb.size,fun z hz=>hb.block z (Ue hz hBU)⟩;exact hbB.trans ⟨D1.os,D1.tape,D1.output,D1.size,fun z hz=>D1.block z (Ue hz (Ur hBU hb.size)) (fun e=>by
   cases a with
   |none=>simp at e
   |some q=>simp only[UM,Un] at e;have:=(hU.st.lt rfl).1;omega)⟩
def Q2j (w:World) (X:Except Int (List Q0a)) (r:Ending) (w':World):Prop:=Bw w w'/\match X with
 | .error e=>r=.returned (.tuple #[.slice none 0 0,.int .i64 e])
 | .ok P=>∃a n c ms,r=.returned (.tuple #[.slice a n c,.int .i64 0])/\Q08 w' a n c ms/\ms.map Q01.term=P/\(∀m∈ms,Q0i m.neg m.exp m.ws/\m.ws≠[])/\Qx8 w.heap.size w' a n
theorem Q2j.err {w w':World} {X:Except Int (List Q0a)} {e:Int} (hX:X=.error e) (hb:Bw w w'):Q2j w X (.returned (.tuple #[.slice none 0 0,.int .i64 e])) w':=by subst hX;exact ⟨hb,rfl⟩
theorem Q2j.ok {w w':World} {X:Except Int (List Q0a)} {P:List Q0a} {a:OA} {n c:Nat} {ms:List Q01} (hX:X=.ok P) (hb:Bw w w') (hm:Q08 w' a n c ms) (hP:ms.map Q01.term=P) (ho:∀m∈ms,Q0i m.neg m.exp m.ws/\m.ws≠[]) (hN:Qx8 w.heap.size w' a n):Q2j w X (.returned (.tuple #[.slice a n c,.int .i64 0])) w':=by subst hX;exact ⟨hb,_,_,_,_,rfl,hm,hP,ho,hN⟩
theorem Qoh {ts out:List Q0a} (ho:Q23 ts=out) {p:Q0a} (hp:p∈out) (hf:¬Q75 p.1):Q24 ts=.error 2:=by
 unfold Q24;rw[ho,Us];exact Xah.2 ⟨p,hp,by rw[(Q9b _).2 hf];rfl⟩
theorem Qoi {ts out:List Q0a} (ho:Q23 ts=out) (hf:∀p∈out,Q75 p.1):Q24 ts=if 24<(out.filter fun p=>decide (p.1≠0)).length then .error 6 else .ok (out.filter fun p=>decide (p.1≠0)):=by
 unfold Q24;rw[ho,Uq];intro h;obtain ⟨p,hp,hb⟩:=Xah.1 h;rw[(Q2a p.1).2 (hf p hp)] at hb;cases hb
def Qyv (w:World) (out:List Q0a) (s8 s9:Value) (wr:World):Prop:=∃(j N:Nat) (a:OA) (c:Nat) (ms:List Q01) (zs:LV),s8=.slice a N c/\s9=.int .i64 (j:Int)/\j<=out.length/\N<=j/\Qb8 w.heap.size wr a N c ms zs/\ms.map Q01.term=(out.take j).filter (fun p=>decide (p.1≠0))/\
 (∀m∈ms,Q0i m.neg m.exp m.ws/\m.ws≠[])/\(∀p∈out.take j,Q75 p.1)/\Bw w wr
theorem Q5k {α:Type} {l:List α} {j:Nat} {p:α} (h:l[j]?=some p):l.take (j+1)=l.take j++[p]:=by rw[Tc,h];rfl
theorem Qwy {out:List Q0a} {j:Nat} {p:Q0a} (h:out[j]?=some p) (hz:p.1=0):(out.take (j+1)).filter (fun p=>decide (p.1≠0))=(out.take j).filter (fun p=>decide (p.1≠0)):=by
 rw[Q5k h,List.filter_append];simp[hz]
theorem Quq {out:List Q0a} {j:Nat} {p:Q0a} (h:out[j]?=some p) (hz:p.1≠0):(out.take (j+1)).filter (fun p=>decide (p.1≠0))=(out.take j).filter (fun p=>decide (p.1≠0))++[p]:=by
 rw[Q5k h,List.filter_append];simp[hz]
theorem Qip {out:List Q0a} {j:Nat} {p:Q0a} (h:out[j]?=some p) (hf:Q75 p.1) (ha:∀q∈out.take j,Q75 q.1):∀q∈out.take (j+1),Q75 q.1:=fun q hq=>by
 rw[Q5k h] at hq;rcases UY.1 hq with hq|hq
 ·exact ha q hq
 ·rw[Uy] at hq;subst hq;exact hf
structure Qmp (W:World) (q g oj:Nat) (v0 v1 v2:Value) (ae:OA) (le ce:Nat) (E:List Int):Prop where
 bx:Q02 W q v0 v1 v2
 o3:W.cell? ⟨g,oj,none⟩=some (.slice ae le ce)
 ei:Q0j W ae le ce E
theorem Qmp.step {W W':World} {q g oj:Nat} {v0 v1 v2:Value} {ae:OA} {le ce:Nat} {E:List Int} (h:Qmp W q g oj v0 v1 v2 ae le ce E) (hb:Bw W W'):Qmp W' q g oj v0 v1 v2 ae le ce E:=
 ⟨h.bx.step hb (US h.bx.c0),(hb.cell (p:=⟨g,oj,none⟩) (US h.o3)).trans h.o3,h.ei.step hb⟩
end Go.Proofs.YtdilmfakkppgpaaGreatDoor
