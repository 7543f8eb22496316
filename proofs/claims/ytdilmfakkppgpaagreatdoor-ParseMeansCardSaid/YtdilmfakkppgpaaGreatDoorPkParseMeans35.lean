/- Part 35 of the proof of LawParseMeans: MeansA, FlatS, FlatK, MeansB. Condition: as each theorem says; none at the end. -/
import Derived.Test.YtdilmfakkppgpaaGreatDoorPkParseMeans34
set_option maxRecDepth 100000
set_option maxHeartbeats 16000000
namespace Go.Proofs.YtdilmfakkppgpaaGreatDoor
open Go.RowKit WordsM DecM
theorem Q6g.cell0 {w:World} {b i:Nat} (h:Q6g w b i):∃a n c,w.cell? ⟨b,0,none⟩=some (.slice a n c):=by
 obtain ⟨a,n,c,ls,hh,_⟩:=h
 exact ⟨a,n,c,by rw[cell_of_row _ _ _ _ _ _ hh];rfl⟩
theorem Q6g.nobool {w:World} {b i:Nat} (h:Q6g w b i):∀(o:Nat) (x:Bool),w.cell? ⟨b,o,none⟩≠some (.bool x):=by
 obtain ⟨a,n,c,ls,hh,_⟩:=h
 intro o x e
 rw[cell_of_row _ _ _ _ _ _ hh] at e
 match o,e with
 |0,e=>simp at e
 |1,e=>simp at e
 |o+2,e=>simp at e
theorem Q0c.turnK {b i n c:Nat} {w w':World} {a:Option Addr} {ms:List Q05} (h:Q0c w a n c ms) (hE:∀m∈ms,m.es≠[]) (hD:Q6g w b i) (ht:Q0n (·=b) w w'):Q0c w' a n c ms:=by
 obtain ⟨h1,h2,h3,h4⟩:=h
 refine ⟨h1,h2,h3,?_⟩
 rcases h4 with h4|⟨b',o,h5,h6,h7⟩
 ·exact .inl h4
 ·refine .inr ⟨b',o,h5,Nat.lt_of_lt_of_le h6 ht.size,fun j m hm=>?_⟩
  obtain ⟨aw,lw,cw,ae,le,ce,q0,q1,q2,q3,hw,hi,hx⟩:=h7 j m hm
  have hbb:¬b'=b:=fun e=>by subst e;exact hD.nobool _ _ q0
  have hc:∀o,w'.cell? ⟨b',o,none⟩=w.cell? ⟨b',o,none⟩:=fun o=>ht.cell (p:=⟨b',o,none⟩) h6 hbb
  have hoff:Qr7 (·=b) aw m.ws:=by
   rcases hw.rd with e|⟨bb,oo,rfl,hb,hcc⟩
   ·exact .inl e
   cases hL:m.ws with
   |nil=>exact .inl rfl
   |cons y r=>
    refine .inr fun x hx e=>?_
    injection hx with hx
    subst hx
    have e:bb=b:=e
    subst e
    rw[hL] at hcc
    exact hD.nou _ _ (hcc 0 y rfl)
  refine ⟨aw,lw,cw,ae,le,ce,(hc _).trans q0,(hc _).trans q1,(hc _).trans q2,(hc _).trans q3,hw.turn hoff ht (fun _ h=>h),⟨hi.len,hi.cap,hi.most,hi.rng,?_⟩,hx⟩
  rcases hi.rd with h8|⟨b2,oo,e,hb,hcc⟩
  ·exact .inl h8
  ·have hz:=hi.rng.2 _ _ e
   subst hz
   have hne:¬b2=b:=fun e2=>by
    subst e2
    cases hL:m.es with
    |nil=>exact hE m (List.mem_of_getElem? hm) hL
    |cons y r=>
     rw[hL] at hcc
     have h9:=hcc 0 y rfl
     obtain ⟨a9,n9,c9,h10⟩:=hD.cell0
     rw[Nat.add_zero,h10] at h9
     cases h9
   exact .inr ⟨b2,0,e,Nat.lt_of_lt_of_le hb ht.size,fun i x hx=>(ht.cell (p:=⟨b2,0+i,none⟩) hb hne).trans (hcc i x hx)⟩
theorem Qaf {ms:List Q05} (h:Q0s 1 ms):∀m∈ms,m.es≠[]:=fun m hm e=>by
 have h1:=(h.2.2.2.1 m hm).1.1.1
 rw[e] at h1
 simp at h1
theorem Qby (W:World) {a:Option Addr} {n c:Nat} {ms:List Q05} (h:Q0c W a n c ms):Q49 (W.alloc (.cells #[.slice a n c] 25)) (some ⟨W.heap.size,0,none⟩) 1 1 [ms]:=by
 refine ⟨rfl,Nat.le_refl _,by decide,.inr ⟨W.heap.size,0,rfl,Q0f _ _,fun j m hm=>?_⟩⟩
 cases j with
 |zero=>
  simp only[List.getElem?_cons_zero,Option.some.injEq] at hm
  subst hm
  exact ⟨a,n,c,by rw[cell_of_row _ _ _ _ _ _ (heap_alloc_new _ _)];rfl,h.step ((Below.refl _ _).alloc (Nat.le_refl _) _)⟩
 |succ j=>simp at hm
theorem Ql5 (W:World) {a:Option Addr} {n c:Nat} {x:Q9x} (h:WordsIn W a n c x.ws):Q70 (W.alloc (.cells #[.bool x.neg,.int .i64 x.exp,.slice a n c] 41)) (some ⟨W.heap.size,0,none⟩) 1 1 [x]:=by
 refine ⟨rfl,Nat.le_refl _,by decide,.inr ⟨W.heap.size,0,rfl,Q0f _ _,fun j m hm=>?_⟩⟩
 cases j with
 |zero=>
  simp only[List.getElem?_cons_zero,Option.some.injEq] at hm
  subst hm
  exact ⟨a,n,c,by rw[cell_of_row _ _ _ _ _ _ (heap_alloc_new _ _)];rfl,by rw[cell_of_row _ _ _ _ _ _ (heap_alloc_new _ _)];rfl,by rw[cell_of_row _ _ _ _ _ _ (heap_alloc_new _ _)];rfl,h.step ((Below.refl _ _).alloc (Nat.le_refl _) _)⟩
 |succ j=>simp at hm
def Qna (P:List Q0b):ByteArray:=⟨(Q1n 0 [P]).toArray⟩
theorem Qhc (P:List Q0b):(Qna P).data.toList=Q2l 0++(Q15 P++[10]):=by
 show Q1n 0 [P]=_
 simp[Q1n,Q5i]
theorem Qhd {P:List Q0b} (h:Q18 1 P):8<=(Qna P).size:=by
 obtain ⟨x,y,hx,_⟩:=Qdd (n:=1) (most:=1) (by decide) (by decide) h
 have h1:(Qna P).size=(Qna P).data.toList.length:=rfl
 have h2:=Q4f 0 (by decide)
 rw[h1,Qhc,List.length_append,List.length_append,h2,hx]
 simp;omega
theorem Qhe {w:World} {a:Option Addr} {n c:Nat} {ms:List Q05} (h:Q49 w a n c [ms]) (hR:Q5b [ms]):(Qna (ms.map Q05.term)).size<=168200:=by
 have h1:=Q9l (Qks h hR) 0 (by simp)
 have h2:(Qna (ms.map Q05.term)).size=(Q1n 0 (Q20 [ms])).length:=rfl
 rw[h2]
 rw[List.length_singleton,Nat.one_mul] at h1
 exact h1
theorem Qbz {ms:List Q05} (h:Q0s 1 ms):Q5b [ms]:=⟨by simp,by simp,fun m hm=>by rw[List.mem_singleton] at hm;subst hm;exact h⟩
theorem Qhf (P:List Q0b):((Qna P).extract 6 ((Qna P).size-1)).data.toList=Q15 P:=by
 have h1:(Qna P).size=(Qna P).data.toList.length:=rfl
 have h2:=Q4f 0 (by decide)
 simp only[ByteArray.data_extract,Array.toList_extract,List.extract_eq_take_drop]
 rw[h1,Qhc]
 rw[List.drop_append_of_le_length (by omega),List.drop_eq_nil_of_le (by omega),List.nil_append]
 rw[List.length_append,List.length_append,h2]
 have h3:6+((Q15 P).length+[(10:UInt8)].length)-1-6=(Q15 P).length:=by rw[List.length_singleton];omega
 rw[h3,List.take_left']
 rfl
theorem Qnb {u v:ByteArray} {A B:List Q0b} (hu:u.data.toList=Q15 A) (hv:v.data.toList=Q15 B):((⟨#[120,49,39,32,61,32,40]⟩:ByteArray)++u++⟨#[41,42,40]⟩++v++⟨#[41,32,45,32,40]⟩++u++⟨#[41,94,50,32,43,32,40]⟩++v++⟨#[41,10]⟩).data.toList=Q2l 0++Q3l A B:=by
 have hh:Q2l 0=[120,49,39,32,61,32]:=by simp[Q2l,Q1z]
 simp only[ByteArray.data_append,Array.toList_append,hu,hv,hh,Q3l]
 simp
theorem Qjh {x:Dyadic} (hx:bnd 17 x) {T:Nat}:∀{P:List Q0b},(∀p∈P,bnd T p.1/\Q0m 1 p.2)->bnd (T+139+P.length) (Q21 [x] P)
 |[],_=>Qku _
 |p::r,h=>by
  obtain ⟨h1,h2⟩:=h p (by simp)
  have ih:=Qjh hx (P:=r) fun q hq=>h q (by simp[hq])
  have hp:bnd 138 (Q96 [x] p.2):=by
   match hE:p.2,h2 with
   |[k],h2=>
    have hk:=h2.2.1 k (by simp)
    have hs:[k].sum<=8:=h2.2.2
    simp only[List.sum_cons,List.sum_nil] at hs
    have e:Q96 [x] [k]=pw x k.toNat:=by simp only[Q96];grind
    rw[e]
    refine (Qtl hx k.toNat).more ?_
    have:k.toNat<=8:=by omega
    have:=Nat.mul_le_mul_right 17 this
    omega
   |[],h2=>simp[Q0m] at h2
   |_::_::_,h2=>simp[Q0m] at h2
  have h3:=(h1.mul hp).more (S:=T+138+r.length+1) (by omega)
  have h4:=ih.more (S:=T+138+r.length+1) (by omega)
  have h5:=h3.add h4
  refine h5.more ?_
  rw[List.length_cons];omega
def Qtm (D:Dyadic) (w:World) (r:Ending) (w':World):Prop:=∃n e a l c L,r=.returned (.tuple #[.agg #[.bool n,.int .i64 e,.slice a l c],.int .i64 0])/\Q1q n e L=D/\Q0h n e L/\WordsIn w' a l c L/\Below w.heap.size w w'
theorem Qqy {a:Option Addr} {n c:Nat} {ms:List Q05} {b:Option Addr} {d:Nat} {x:Q9x} {w:World} (h:Q0c w a n c ms) (hr:Q0s 1 ms) (hx:Q70 w b 1 d [x]) (hok:x.Ok) (hT:Q24 w) (hf:Q63 (Q21 [x.val] (ms.map Q05.term))):
 Calls Tryz.prog 23 #[.slice a n c,.slice b 1 d] w (Qtm (Q21 [x.val] (ms.map Q05.term)) w):=by
 refine (Qn9 a n c ms b 1 d [x] w h hr hx (fun y hy=>by rw[List.mem_singleton] at hy;subst hy;exact hok) hT).mono ?_
 rintro r w' ⟨n',e',a',l',c',L,er,rfl,hfit,hi,hw,hb⟩
 rcases hfit with ⟨_,rfl,_,h4⟩|⟨h4,_⟩
 ·exact ⟨n',e',a',l',c',L,rfl,h4,hi,hw,hb⟩
 ·exact absurd hf h4
theorem Qc0 {A:List Q0b} (h:Q54 A) {x:Dyadic} (hx:bnd 17 x):bnd 170 (Q21 [x] A):=by
 obtain ⟨h1,h2,h3⟩:=h
 exact (Qjh hx (T:=20) fun p hp=>⟨(h3 p hp).1,(h1.2.2 p hp).2.2⟩).more (by omega)
def Qt2 (A B:List Q0b) (W:World) (r:Ending) (w':World):Prop:=∃b o c ms,r=.returned (.tuple #[.slice (some ⟨b,o,none⟩) 1 c,.int .i64 0,.int .i64 0])/\W.heap.size<=b/\Q49 w' (some ⟨b,o,none⟩) 1 c [ms]/\Q0s 1 ms/\(∀p∈ms.map Q05.term,bnd 100 p.1)/\(∀xs,Q21 xs (ms.map Q05.term)=(Q21 xs A*Q21 xs B-Q21 xs A*Q21 xs A)+Q21 xs B)/\Below W.heap.size W w'
theorem Qnc {A B:List Q0b} (hA:Q54 A) (hB:Q54 B) {T:ByteArray} (hT:T.data.toList=Q2l 0++Q3l A B) (hs:T.size<=1000000) (W:World) (hl:Q24 W):Calls Tryz.prog 17 #[.string T] W (Qt2 A B W):=by
 obtain ⟨P,hP,hR,hb,hv⟩:=Qqu hA hB
 have hp:=Q6x T W hs hl
 have he:Q2m 1 [(0,Qde A B)] []=.ok [P]:=by
  unfold Q2m
  rw[hP]
  rfl
 rw[hT,Qjf hA.1 hB.1,he] at hp
 refine hp.mono ?_
 rintro r w' ⟨⟨hbw,a,n,c,Fv,rfl,hF,hFt,hFr⟩,hnew⟩
 match Fv,hFt with
 |[ms],hFt=>
  simp only[List.map_cons,List.map_nil,List.cons.injEq,and_true] at hFt
  have hn:n=1:=hF.1.symm
  subst hn
  rcases hF.2.2.2 with h0|⟨b,o,rfl,_,_⟩
  ·cases h0
  ·exact ⟨b,o,c,ms,rfl,hnew b o 1 c _ _ rfl,hF,hFr.2.2 ms (by simp),by rw[hFt];exact hb,by rw[hFt];exact hv,hbw⟩
 |[],hFt=>simp at hFt
 |_::_::_,hFt=>simp at hFt
theorem Ql6 (S:ByteArray) (i j:Nat) (h:S.size<=168200):(S.extract i j).size<=168200:=by
 rw[ByteArray.size_extract];omega
theorem Qnd {u v:ByteArray} (hu:u.size<=168200) (hv:v.size<=168200):((⟨#[120,49,39,32,61,32,40]⟩:ByteArray)++u++⟨#[41,42,40]⟩++v++⟨#[41,32,45,32,40]⟩++u++⟨#[41,94,50,32,43,32,40]⟩++v++⟨#[41,10]⟩).size<=1000000:=by
 simp only[ByteArray.size_append]
 have h1:(⟨#[120,49,39,32,61,32,40]⟩:ByteArray).size=7:=rfl
 have h2:(⟨#[41,42,40]⟩:ByteArray).size=3:=rfl
 have h3:(⟨#[41,32,45,32,40]⟩:ByteArray).size=5:=rfl
 have h4:(⟨#[41,94,50,32,43,32,40]⟩:ByteArray).size=7:=rfl
 have h5:(⟨#[41,10]⟩:ByteArray).size=2:=rfl
 omega
structure Q8f (w W:World) (a1:Option Addr) (n1 c1:Nat) (A:List Q05) (a2:Option Addr) (n2 c2:Nat) (B:List Q05) (bF oF cF:Nat) (P:List Q05) (x:Q9x) (ax:Option Addr) (lx cx:Nat):Prop where
 hA:Q0c W a1 n1 c1 A
 hB:Q0c W a2 n2 c2 B
 rA:Q0s 1 A
 rB:Q0s 1 B
 rP:Q0s 1 P
 sA:Q54 (A.map Q05.term)
 sB:Q54 (B.map Q05.term)
 bP:∀p∈P.map Q05.term,bnd 100 p.1
 vP:∀xs,Q21 xs (P.map Q05.term)=(Q21 xs (A.map Q05.term)*Q21 xs (B.map Q05.term)-Q21 xs (A.map Q05.term)*Q21 xs (A.map Q05.term))+Q21 xs (B.map Q05.term)
 fld:∃p l d,W.cell? ⟨bF,oF,none⟩=some (.slice p l d)/\bF<W.heap.size/\Q0c W p l d P
 wx:WordsIn W ax lx cx x.ws
 okx:x.Ok
 bx:bnd 17 x.val
 bel:Below w.heap.size w W
theorem Q8f.step {w W W':World} {a1:Option Addr} {n1 c1:Nat} {A:List Q05} {a2:Option Addr} {n2 c2:Nat} {B:List Q05} {bF oF cF:Nat} {P:List Q05} {x:Q9x} {ax:Option Addr} {lx cx:Nat} (h:Q8f w W a1 n1 c1 A a2 n2 c2 B bF oF cF P x ax lx cx) (hb:Below W.heap.size W W'):Q8f w W' a1 n1 c1 A a2 n2 c2 B bF oF cF P x ax lx cx:=by
 obtain ⟨p,l,d,h1,h2,h3⟩:=h.fld
 exact ⟨h.hA.step hb,h.hB.step hb,h.rA,h.rB,h.rP,h.sA,h.sB,h.bP,h.vP,⟨p,l,d,(hb.cell (p:=⟨bF,oF,none⟩) h2).trans h1,Nat.lt_of_lt_of_le h2 hb.size,h3.step hb⟩,h.wx.step hb,h.okx,h.bx,Below.next0 h.bel hb⟩
theorem Qne {w W W':World} {b i:Nat} {a1 a2:Option Addr} {n1 c1 n2 c2:Nat} {A B:List Q05} (hA:Q0c W a1 n1 c1 A) (hB:Q0c W a2 n2 c2 B) (rA:Q0s 1 A) (rB:Q0s 1 B) (sA:Q54 (A.map Q05.term)) (sB:Q54 (B.map Q05.term)) (hD:Q6g W b i) (hbel:Below w.heap.size w W) (hwb:w.heap.size<=b) {bF oF cF:Nat} {P:List Q05} (hF:Q49 W (some ⟨bF,oF,none⟩) 1 cF [P]) (hbF:b<bF) (rP:Q0s 1 P) (bP:∀p∈P.map Q05.term,bnd 100 p.1)
 (vP:∀xs,Q21 xs (P.map Q05.term)=(Q21 xs (A.map Q05.term)*Q21 xs (B.map Q05.term)-Q21 xs (A.map Q05.term)*Q21 xs (A.map Q05.term))+Q21 xs (B.map Q05.term)) {neg:Bool} {e:Int} {ax:Option Addr} {lx cx:Nat} {L:List Nat} (hs:Qh4 neg e L) (hw:WordsIn W' ax lx cx L) (ht:Q0n (·=b) W W'):
 Q8f w W' a1 n1 c1 A a2 n2 c2 B bF oF cF P ⟨neg,e,L⟩ ax lx cx:=by
 rcases hF.2.2.2 with h0|⟨b9,o9,he,hb9,hc9⟩
 ·cases h0
 ·cases he
  obtain ⟨p,l,d,h1,h2⟩:=hc9 0 P rfl
  exact ⟨hA.turnK (Qaf rA) hD ht,hB.turnK (Qaf rB) hD ht,rA,rB,rP,sA,sB,bP,vP,⟨p,l,d,(ht.cell (p:=⟨bF,oF,none⟩) hb9 (by show¬bF=b;omega)).trans h1,Nat.lt_of_lt_of_le hb9 ht.size,h2.turnK (Qaf rP) hD ht⟩,hw,hs.1,Qh9 hs,Below.turn hbel ht hbel.size (fun k e=>by omega)⟩
end Go.Proofs.YtdilmfakkppgpaaGreatDoor
namespace Go.Proofs.YtdilmfakkppgpaaGreatDoor
open Go Go.RowKit
section
variable {P:Program}
def Qqz (P:Program) (E:World->World->Prop) (ops:Array Oper) (C:World->Prop) (V:Nat->Value->World->Prop) (Bx:Qpf) (a0:Act) (k:Nat) (o:Oper):Prop:=
 ∀a w D,C w->(∀j,D j=true->V j (Q0e ops a j) w)->Bx D (Q0e ops a) w->Q8n ops a0 a->D k=false->(∀i∈Q34 o,D i=true)->(∀j oj,ops[j]?=some oj->D j=true->∀i∈Q34 oj,D i=true)->
  Q26 P (fun u w'=>E w w'/\V k u w'/\Bx (Q36 D k) (Q2q (Q0e ops a) k u) w') ((execOp a.eval o).run P w)
def Qdf (P:Program) (E:World->World->Prop) (ops:Array Oper) (C:World->Prop) (V:Nat->Value->World->Prop) (Bx:Qpf) (plain:Nat->Bool) (a0:Act):List Oper->Nat->Prop
 |[],_=>True
 |o::r,k=>((plain k=true/\Q7r P Qi7 ops C V a0 k o)∨Qqz P E ops C V Bx a0 k o)/\Qdf P E ops C V Bx plain a0 r (k+1)
theorem Qdf.at_ {E:World->World->Prop} {ops:Array Oper} {C:World->Prop} {V:Nat->Value->World->Prop} {Bx:Qpf} {plain:Nat->Bool} {a0:Act}:∀(l:List Oper) (k i:Nat) (o:Oper),Qdf P E ops C V Bx plain a0 l k->l[i]?=some o->(plain (k+i)=true/\Q7r P Qi7 ops C V a0 (k+i) o)∨Qqz P E ops C V Bx a0 (k+i) o
 |[],_,_,_,_,h=>by simp at h
 |x::r,k,0,o,h,ho=>by
  simp only[List.getElem?_cons_zero,Option.some.injEq] at ho
  subst ho
  exact h.1
 |x::r,k,i+1,o,h,ho=>by
  have:=Qdf.at_ r (k+1) i o h.2 (by simpa using ho)
  rwa[show k+1+i=k+(i+1) by omega] at this
theorem Q8g {Q:Exit->Act->World->Prop} {id:Nat} {l:List Oper} {a0:Act} {w:World} (hm:P.follows .mixedOrders=true) (plain:Nat->Bool) (E:World->World->Prop) (hE:∀w w',Below w.heap.size w w'->E w w') (C:World->Prop) (hC:∀w w',C w->E w w'->C w') (V:Nat->Value->World->Prop) (hV:∀i v w w',V i v w->E w w'->V i v w') (Bx:Qpf)
 (hBx:∀D vs w w' k u,plain k=true->D k=false->Bx D vs w->Below w.heap.size w w'->Bx (Q36 D k) (Q2q vs k u) w')
 (hN:∀(i:Nat) o,l[i]?=some o->o.dst=none->(∀v u w,V i v w->V i u w)/\∀D vs v w,Bx D (Q2q vs i v) w->Bx D vs w)
 (hB:Q6a l a0.tmps.size=true) (hG:(l.all fun o=>o.guard.isNone)=true) (h0:C w.drew) (hB0:∀vs,Bx (fun _=>false) vs w.drew)
 (step:Qdf P E l.toArray C V Bx plain a0 l 0) (fin:∀D vs w,(∀j,j<l.length->D j=true)->C w->(∀j,D j=true->V j (vs j) w)->Bx D vs w->Q .normal (Q10 vs l 0 a0) w):(Code.region id l.toArray true).wp P Q a0 w:=by
 have hguard:∀(k:Nat) (o:Oper),l[k]?=some o->∀y,Region.wanted o y=true:=fun k o ho y=>by
  have h1:=List.all_eq_true.1 hG o (List.mem_of_getElem? ho)
  unfold Region.wanted
  cases hg:o.guard with
  |none=>rfl
  |some g=>rw[hg] at h1;cases h1
 have hall:∀(k:Nat) (o:Oper),l[k]?=some o->Q5l P l.toArray (fun D vs w=>C w/\(∀j,D j=true->V j (vs j) w)/\Bx D vs w) a0 k o:=by
  intro k o ho a w D ⟨hCw,hVw,hBw⟩ hag hk hdeps hcl
  refine ⟨hguard k o ho _,?_⟩
  have hup:∀u w',E w w'->V k u w'->∀j,Q36 D k j=true->V j (Q2q (Q0e l.toArray a) k u j) w':=fun u w' hb hu j hj=>by
   unfold Q2q
   unfold Q36 at hj
   by_cases hjk:j=k
   ·subst hjk;rw[if_pos rfl];exact hu
   ·rw[if_neg hjk]
    rw[if_neg hjk] at hj
    exact hV _ _ _ _ (hVw j hj) hb
  have hst:=Qdf.at_ _ _ _ _ step ho
  rw[Nat.zero_add] at hst
  rcases hst with ⟨hp,h1⟩|h1
  ·have h1:=h1 a w hCw hag fun i hi=>hVw i (hdeps i hi)
   rw[if_pos (hguard k o ho _)] at h1
   have hK:∀u w',Below w.heap.size w w'->V k u w'->C w'/\(∀j,Q36 D k j=true->V j (Q2q (Q0e l.toArray a) k u j) w')/\Bx (Q36 D k) (Q2q (Q0e l.toArray a) k u) w':=fun u w' hb hu=>⟨hC _ _ hCw (hE _ _ hb),hup u w' (hE _ _ hb) hu,hBx _ _ _ _ _ _ hp hk hBw hb⟩
   revert h1
   generalize (execOp a.eval o).run P w=res
   intro h1
   cases res with
   |ok x w'=>
    cases x with
    |value u=>exact hK u w' h1.1 h1.2
    |enter f args=>
     refine Calls.mono h1 ?_
     rintro e w'' ⟨v,rfl,hb,hv⟩
     exact ⟨v,rfl,hK v w'' hb hv⟩
    |skip=>exact hK undef w' h1.1 h1.2
    |_=>exact h1.elim
   |halt x w'=>exact h1.elim
  ·have h1:=h1 a w D hCw hVw hBw hag hk hdeps hcl
   have hK:∀u w',E w w'/\V k u w'/\Bx (Q36 D k) (Q2q (Q0e l.toArray a) k u) w'->C w'/\(∀j,Q36 D k j=true->V j (Q2q (Q0e l.toArray a) k u j) w')/\Bx (Q36 D k) (Q2q (Q0e l.toArray a) k u) w':=fun u w' h=>⟨hC _ _ hCw h.1,hup u w' h.1 h.2.1,h.2.2⟩
   revert h1
   generalize (execOp a.eval o).run P w=res
   intro h1
   cases res with
   |ok x w'=>
    cases x with
    |value u=>exact hK u w' h1
    |enter f args=>
     refine Calls.mono h1 ?_
     rintro e w'' ⟨v,rfl,hv⟩
     exact ⟨v,rfl,hK v w'' hv⟩
    |skip=>exact hK undef w' h1
    |_=>exact h1.elim
   |halt x w'=>exact h1.elim
 have hallX:∀(r:List Oper) (k:Nat),(∀(i:Nat) o,r[i]?=some o->l[k+i]?=some o)->Q3g P l.toArray (fun D vs w=>C w/\(∀j,D j=true->V j (vs j) w)/\Bx D vs w) a0 r k:=by
  intro r
  induction r with
  |nil=>intro k _;trivial
  |cons o r ih=>
   intro k h
   refine ⟨hall k o (by simpa using h 0 o rfl),ih (k+1) fun i o' ho'=>?_⟩
   have:=h (i+1) o' (by simpa using ho')
   rwa[show k+(i+1)=k+1+i by omega] at this
 refine Q3h hm (fun D vs w=>C w/\(∀j,D j=true->V j (vs j) w)/\Bx D vs w) (fun i o hi hd D vs v w h=>?_) hB (fun vs=>⟨h0,(fun j hj=>by cases hj),hB0 vs⟩) (hallX l 0 fun i o h=>by rw[Nat.zero_add];exact h) (fun D vs w hall h=>fin D vs w hall h.1 h.2.1 h.2.2)
 obtain ⟨h1,h2⟩:=hN i o hi hd
 refine ⟨h.1,fun j hj=>?_,h2 _ _ _ _ h.2.2⟩
 have h3:=h.2.1 j hj
 unfold Q2q at h3
 by_cases hji:j=i
 ·subst hji;rw[if_pos rfl] at h3;exact h1 _ _ _ h3
 ·rwa[if_neg hji] at h3
end
section
variable {P:Program}
def Qr0 (P:Program) (ops:Array Oper) (C:World->Prop) (V:Nat->Value->World->Prop) (a0:Act) (k0:Nat) (Fin:Value->World->Prop):List Oper->Prop
 |[o]=>∀a w,C w->Q8n ops a0 a->(∀i∈Q34 o,V i (Q0e ops a i) w)->Q26 P (fun _ w'=>Fin (Q0e ops a k0) w') ((execOp a.eval o).run P w)
 |_=>False
theorem Qc1 {Q:Exit->Act->World->Prop} {id:Nat} {l:List Oper} {a0:Act} {w:World} (hm:P.follows .mixedOrders=true) (n:Nat) (hn:l.length=n+1) (C:World->Prop) (hC:∀w w',C w->Below w.heap.size w w'->C w') (V:Nat->Value->World->Prop) (hV:∀i v w w',V i v w->Below w.heap.size w w'->V i v w') (k0:Nat) (hk0:k0<n) (Fin:Value->World->Prop)
 (hB:Q6a l a0.tmps.size=true) (hA:Qkv l n=true) (hG:(l.all fun o=>o.guard.isNone)=true) (hD:(l.zipIdx.all fun p=>p.1.dst.isSome || decide (p.2=n))=true) (h0:C w.drew)
 (step:Q2z P Qi7 l.toArray C V a0 (l.take n) 0) (last:Qr0 P l.toArray C V a0 k0 Fin (l.drop n)) (fin:∀vs w,Fin (vs k0) w->Q .normal (Q10 vs l 0 a0) w):(Code.region id l.toArray true).wp P Q a0 w:=by
 have hguard:∀(k:Nat) (o:Oper),l[k]?=some o->∀y,Region.wanted o y=true:=fun k o ho y=>by
  have h1:=List.all_eq_true.1 hG o (List.mem_of_getElem? ho)
  unfold Region.wanted
  cases hg:o.guard with
  |none=>rfl
  |some g=>rw[hg] at h1;cases h1
 have hno:∀(D:Nat->Bool) (vs:Nat->Value) (i:Nat) (o:Oper) (v:Value) (w:World),l[i]?=some o->o.dst=none->(if D n=true then Fin (Q2q vs i v k0) w else (C w/\∀j,D j=true->V j (Q2q vs i v j) w))->(if D n=true then Fin (vs k0) w else (C w/\∀j,D j=true->V j (vs j) w)):=by
  intro D vs i o v w hi hd h
  have hin:i=n:=by
   have hm:(o,i)∈l.zipIdx:=by rw[List.mem_zipIdx_iff_getElem?];exact hi
   have h1:=List.all_eq_true.1 hD _ hm
   simpa[hd] using h1
  subst hin
  split at h
  ·rename_i hDn;rw[if_pos hDn];unfold Q2q at h;rwa[if_neg (by omega)] at h
  ·rename_i hDn
   rw[if_neg hDn]
   refine ⟨h.1,fun j hj=>?_⟩
   have:=h.2 j hj
   unfold Q2q at this
   rwa[if_neg (fun e=>by subst e;exact hDn hj)] at this
 have hall:∀(k:Nat) (o:Oper),l[k]?=some o->Q5l P l.toArray (fun D vs w=>if D n=true then Fin (vs k0) w else (C w/\∀j,D j=true->V j (vs j) w)) a0 k o:=by
  intro k o ho a w D hI hag hk hdeps hcl
  have hkn:k<=n:=by have:=(List.getElem?_eq_some_iff.1 ho).1;omega
  have hDn:D n=false:=Qbq hA (D:=D) (fun j oj hj=>hcl j oj (by simpa using hj)) _ k rfl hkn hk
  have hDn':¬D n=true:=by rw[hDn];decide
  simp only[hDn] at hI
  obtain ⟨hCw,hVw⟩:=hI
  have hdv:∀i∈Q34 o,V i (Q0e l.toArray a i) w:=fun i hi=>hVw i (hdeps i hi)
  refine ⟨hguard k o ho _,?_⟩
  by_cases hkl:k=n
  ·subst hkl
   have hdrop:l.drop k=[o]:=by
    rw[List.drop_eq_getElem_cons (by omega),List.drop_of_length_le (by omega)]
    rw[(List.getElem?_eq_some_iff.1 ho).2]
   rw[hdrop] at last
   have h1:=last a w hCw hag hdv
   have hK:∀u w',Fin (Q0e l.toArray a k0) w'->(if Q36 D k k=true then Fin (Q2q (Q0e l.toArray a) k u k0) w' else (C w'/\∀j,Q36 D k j=true->V j (Q2q (Q0e l.toArray a) k u j) w')):=fun u w' h=>by
    rw[Q43,if_pos rfl]
    unfold Q2q
    rwa[if_neg (by omega)]
   revert h1
   generalize (execOp a.eval o).run P w=res
   intro h1
   cases res with
   |ok x w'=>
    cases x with
    |value u=>exact hK u w' h1
    |enter f args=>
     refine Calls.mono h1 ?_
     rintro e w'' ⟨v,rfl,hf⟩
     exact ⟨v,rfl,hK v w'' hf⟩
    |skip=>exact hK undef w' h1
    |_=>exact h1.elim
   |halt x w'=>exact h1.elim
  ·have htake:(l.take n)[k]?=some o:=by rw[List.getElem?_take,if_pos (by omega)];exact ho
   have h1:=Q2z.at_ _ _ _ _ step htake
   rw[Nat.zero_add] at h1
   have h1:=h1 a w hCw hag hdv
   rw[if_pos (hguard k o ho _)] at h1
   have hK:∀u w',Below w.heap.size w w'->V k u w'->(if Q36 D k n=true then Fin (Q2q (Q0e l.toArray a) k u k0) w' else (C w'/\∀j,Q36 D k j=true->V j (Q2q (Q0e l.toArray a) k u j) w')):=fun u w' hb hu=>by
    have e:Q36 D k n=false:=by unfold Q36;rw[if_neg (fun e=>hkl e.symm)];exact hDn
    rw[e,if_neg (by decide)]
    refine ⟨hC _ _ hCw hb,fun j hj=>?_⟩
    unfold Q2q
    unfold Q36 at hj
    by_cases hjk:j=k
    ·subst hjk;rw[if_pos rfl];exact hu
    ·rw[if_neg hjk]
     rw[if_neg hjk] at hj
     exact hV _ _ _ _ (hVw j hj) hb
   revert h1
   generalize (execOp a.eval o).run P w=res
   intro h1
   cases res with
   |ok x w'=>
    cases x with
    |value u=>exact hK u w' h1.1 h1.2
    |enter f args=>
     refine Calls.mono h1 ?_
     rintro e w'' ⟨v,rfl,hb,hv⟩
     exact ⟨v,rfl,hK v w'' hb hv⟩
    |skip=>exact hK undef w' h1.1 h1.2
    |_=>exact h1.elim
   |halt x w'=>exact h1.elim
 have hallX:∀(r:List Oper) (k:Nat),(∀(i:Nat) o,r[i]?=some o->l[k+i]?=some o)->Q3g P l.toArray (fun D vs w=>if D n=true then Fin (vs k0) w else (C w/\∀j,D j=true->V j (vs j) w)) a0 r k:=by
  intro r
  induction r with
  |nil=>intro k _;trivial
  |cons o r ih=>
   intro k h
   refine ⟨hall k o (by simpa using h 0 o rfl),ih (k+1) fun i o' ho'=>?_⟩
   have:=h (i+1) o' (by simpa using ho')
   rwa[show k+(i+1)=k+1+i by omega] at this
 refine Q3h hm (fun D vs w=>if D n=true then Fin (vs k0) w else (C w/\∀j,D j=true->V j (vs j) w)) (fun i o hi hd D vs v w h=>hno D vs i o v w hi hd h) hB (fun vs=>?_) (hallX l 0 fun i o h=>by rw[Nat.zero_add];exact h) (fun D vs w hall h=>?_)
 ·exact ⟨h0,fun j hj=>by cases hj⟩
 ·have hDn:=hall n (by omega)
  simp only[hDn,if_true] at h
  exact fin vs w h
end
end Go.Proofs.YtdilmfakkppgpaaGreatDoor
namespace Go.Proofs.YtdilmfakkppgpaaGreatDoor
open Go.RowKit WordsM DecM
theorem Q7j {E:World->World->Prop}:∀{l:List (Nat × (Value->World->Prop))},(∀p∈l,∀v w w',p.2 v w->E w w'->p.2 v w')->∀i φ,Q5o l i=some φ->∀v w w',φ v w->E w w'->φ v w'
 |[],_,i,φ,h=>by cases h
 |(j,ψ)::r,hs,i,φ,h=>by
  unfold Q5o at h
  split at h
  ·injection h with h
   subst h
   exact hs (j,ψ) (by simp)
  ·exact Q7j (fun p hp=>hs p (by simp[hp])) i φ h
def Qv5 (NB:Nat) (Z F:World->Nat->Prop) (da ds:Bool) (v:Value) (w:World):Prop:=da=true->∃g,v=.pointer (some ⟨g,0,none⟩)/\NB<=g/\g<w.heap.size/\(ds=false->Z w g)/\(ds=true->F w g)
def Qnf (Z:World->Nat->Prop):Prop:=∀w w' g,Z w g->g<w.heap.size->Below w.heap.size w w'->Z w' g
theorem Qv5.step {NB:Nat} {Z F:World->Nat->Prop} {da ds:Bool} {v:Value} {w w':World} (h:Qv5 NB Z F da ds v w) (hZ:Qnf Z) (hF:Qnf F) (hb:Below w.heap.size w w'):Qv5 NB Z F da ds v w':=fun hd=>by
 obtain ⟨g,h1,h2,h3,h4,h5⟩:=h hd
 exact ⟨g,h1,h2,Nat.lt_of_lt_of_le h3 hb.size,fun e=>hZ _ _ _ (h4 e) h3 hb,fun e=>hF _ _ _ (h5 e) h3 hb⟩
def Qwp (w:World) (g:Nat):Prop:=Q04 w g (.bool false) (.int .i64 0) (.slice none 0 0)
def Qwb (D:Dyadic) (w:World) (g:Nat):Prop:=∃n e a l c L,Q04 w g (.bool n) (.int .i64 e) (.slice a l c)/\WordsIn w a l c L/\Q1q n e L=D/\Q0h n e L
theorem Qr1:Qnf Qwp:=fun _ _ _ h hg hb=>Q04.step h hb hg
theorem Q5s (D:Dyadic):Qnf (Qwb D):=fun _ _ _ ⟨n,e,a,l,c,L,h1,h2,h3,h4⟩ hg hb=>⟨n,e,a,l,c,L,h1.step hb hg,h2.step hb,h3,h4⟩
def Qv2 (w:World) (g:Nat):Prop:=Q04 w g (.bool false) (.slice none 0 0) (.int .i64 0)
def Qv3 (D:Dyadic) (w:World) (g:Nat):Prop:=∃n a l c e v,Q04 w g (.bool n) (.slice a l c) (.int .i64 e)/\Q0l w a l c v/\Q37 n v e/\dy (sgn n v) e=D
theorem Qhg:Qnf Qv2:=fun _ _ _ h hg hb=>Q04.step h hb hg
theorem Qhh (D:Dyadic):Qnf (Qv3 D):=fun _ _ _ ⟨n,a,l,c,e,v,h1,h2,h3,h4⟩ hg hb=>⟨n,a,l,c,e,v,h1.step hb hg,h2.step hb,h3,h4⟩
def Qji (NB:Nat) (w w':World):Prop:=(NB<=w.heap.size->Below NB w w')/\∀a n c L,WordsIn w a n c L->WordsIn w' a n c L
theorem Q61 {NB:Nat} (w w':World) (hb:Below w.heap.size w w'):Qji NB w w':=⟨fun h=>hb.mono h,fun _ _ _ _ h=>h.step hb⟩
theorem Qv4 {U:World} (w w':World) (h:Below U.heap.size U w) (hs:Qji U.heap.size w w'):Below U.heap.size U w':=h.trans (hs.1 h.size)
def Qng (NB:Nat) (w w':World):Prop:=(NB<=w.heap.size->Below NB w w')/\∀a n c v,Q0l w a n c v->Q0l w' a n c v
theorem Q7k {NB:Nat} (w w':World) (hb:Below w.heap.size w w'):Qng NB w w':=⟨fun h=>hb.mono h,fun _ _ _ _ h=>h.step hb⟩
theorem Qr2 {U:World} (w w':World) (h:Below U.heap.size U w) (hs:Qng U.heap.size w w'):Below U.heap.size U w':=h.trans (hs.1 h.size)
def Qwf (D:Dyadic) (v:Value) (w:World):Prop:=∃n e a l c L,v=.tuple #[.agg #[.bool n,.int .i64 e,.slice a l c],.int .i64 0]/\WordsIn w a l c L/\Q1q n e L=D/\Q0h n e L
def Qwq (D:Dyadic) (v:Value) (w:World):Prop:=∃n e a l c L,v=.agg #[.bool n,.int .i64 e,.slice a l c]/\WordsIn w a l c L/\Q1q n e L=D/\Q0h n e L
def SlN (x:Q9x) (v:Value) (w:World):Prop:=∃g,v=.slice (some ⟨g,0,none⟩) 1 1/\Q70 w (some ⟨g,0,none⟩) 1 1 [x]
theorem Qhi {D:Dyadic} {NB:Nat} (v:Value) (w w':World) (h:Qwf D v w) (hs:Qji NB w w'):Qwf D v w':=by
 obtain ⟨n,e,a,l,c,L,h1,h2,h3⟩:=h
 exact ⟨n,e,a,l,c,L,h1,hs.2 _ _ _ _ h2,h3⟩
theorem Qr3 {D:Dyadic} {NB:Nat} (v:Value) (w w':World) (h:Qwq D v w) (hs:Qji NB w w'):Qwq D v w':=by
 obtain ⟨n,e,a,l,c,L,h1,h2,h3⟩:=h
 exact ⟨n,e,a,l,c,L,h1,hs.2 _ _ _ _ h2,h3⟩
theorem Qdg {D:Dyadic} {NB:Nat} (v:Value) (w w':World) (h:Q4h w v D) (hs:Qng NB w w'):Q4h w' v D:=by
 obtain ⟨n,a,l,c,e,x,h1,h2,h3⟩:=h
 exact ⟨n,a,l,c,e,x,h1,hs.2 _ _ _ _ h2,h3⟩
def Qwc (NB:Nat) (x:Q9x) (D':Dyadic) (D:Nat->Bool) (vs:Nat->Value) (w:World):Prop:=(D 4=true->D 5=false->SlN x (vs 4) w)/\Qv5 NB Qwp (Qwb D') (D 9) (D 10) (vs 9) w
theorem Q8h {NB:Nat} {x:Q9x} {D':Dyadic} {D:Nat->Bool} {vs:Nat->Value} {w w':World} (h:Qwc NB x D' D vs w) (hb:Below w.heap.size w w'):Qwc NB x D' D vs w':=by
 refine ⟨fun h1 h2=>?_,h.2.step Qr1 (Q5s _) hb⟩
 obtain ⟨g,e,hn⟩:=h.1 h1 h2
 exact ⟨g,e,hn.step hb⟩
def Qv6 (NB:Nat) (P Q:Dyadic) (D:Nat->Bool) (vs:Nat->Value) (w:World):Prop:=Qv5 NB Qv2 (Qv3 P) (D 4) (D 6) (vs 4) w/\Qv5 NB Qv2 (Qv3 Q) (D 5) (D 7) (vs 5) w/\(D 4=true->D 5=true->vs 4≠vs 5)
theorem Qc2 {NB:Nat} {P Q:Dyadic} {D:Nat->Bool} {vs:Nat->Value} {w w':World} (h:Qv6 NB P Q D vs w) (hb:Below w.heap.size w w'):Qv6 NB P Q D vs w':=
 ⟨h.1.step Qhg (Qhh _) hb,h.2.1.step Qhg (Qhh _) hb,h.2.2⟩
theorem Q0w {D:Nat->Bool} {k j:Nat} (h:j≠k):Q36 D k j=D j:=if_neg h
theorem Q1a {vs:Nat->Value} {k j:Nat} {u:Value} (h:j≠k):Q2q vs k u j=vs j:=if_neg h
theorem Q5t (vs:Nat->Value) (k:Nat) (u:Value):Q2q vs k u k=u:=if_pos rfl
theorem Qt3 {NB g:Nat} {w:World} {n:Bool} {e:Int} {a:Option Addr} {l c:Nat} {L:List Nat} {D:Dyadic} (hz:Qwp w g) (hg:g<w.heap.size) (hB:NB<=g) (hw:WordsIn w a l c L) (hD:Q1q n e L=D) (hi:Q0h n e L):
 Qji NB w (((w.setCell ⟨g,0,none⟩ (.bool n)).setCell ⟨g,1,none⟩ (.int .i64 e)).setCell ⟨g,2,none⟩ (.slice a l c))/\Qwb D (((w.setCell ⟨g,0,none⟩ (.bool n)).setCell ⟨g,1,none⟩ (.int .i64 e)).setCell ⟨g,2,none⟩ (.slice a l c)) g/\g<(((w.setCell ⟨g,0,none⟩ (.bool n)).setCell ⟨g,1,none⟩ (.int .i64 e)).setCell ⟨g,2,none⟩ (.slice a l c)).heap.size:=by
 have hz':Q04 w g (.bool false) (.int .i64 0) (.slice none 0 0):=hz
 exact ⟨⟨fun _=>Q04.below (Below.refl _ _) hB _ _ _,fun _ _ _ _ h=>h.set3 hz' _ _ _⟩,⟨n,e,a,l,c,L,hz'.store _ _ _,hw.set3 hz' _ _ _,hD,hi⟩,by rw[World.size_setCell,World.size_setCell,World.size_setCell];exact hg⟩
theorem Qeb {NB g:Nat} {w:World} {n:Bool} {e:Int} {a:Option Addr} {l c v:Nat} {D:Dyadic} (hz:Qv2 w g) (hg:g<w.heap.size) (hB:NB<=g) (hw:Q0l w a l c v) (hc:Q37 n v e) (hD:dy (sgn n v) e=D):
 Qng NB w (((w.setCell ⟨g,0,none⟩ (.bool n)).setCell ⟨g,1,none⟩ (.slice a l c)).setCell ⟨g,2,none⟩ (.int .i64 e))/\Qv3 D (((w.setCell ⟨g,0,none⟩ (.bool n)).setCell ⟨g,1,none⟩ (.slice a l c)).setCell ⟨g,2,none⟩ (.int .i64 e)) g/\g<(((w.setCell ⟨g,0,none⟩ (.bool n)).setCell ⟨g,1,none⟩ (.slice a l c)).setCell ⟨g,2,none⟩ (.int .i64 e)).heap.size/\
 ∀g' D',g'≠g->(Qv2 w g'->Qv2 (((w.setCell ⟨g,0,none⟩ (.bool n)).setCell ⟨g,1,none⟩ (.slice a l c)).setCell ⟨g,2,none⟩ (.int .i64 e)) g')/\(Qv3 D' w g'->Qv3 D' (((w.setCell ⟨g,0,none⟩ (.bool n)).setCell ⟨g,1,none⟩ (.slice a l c)).setCell ⟨g,2,none⟩ (.int .i64 e)) g'):=by
 have hz':Q04 w g (.bool false) (.slice none 0 0) (.int .i64 0):=hz
 refine ⟨⟨fun _=>Q04.below (Below.refl _ _) hB _ _ _,fun _ _ _ _ h=>h.box hz' _ _ _⟩,⟨n,a,l,c,e,v,hz'.store _ _ _,hw.box hz' _ _ _,hc,hD⟩,by rw[World.size_setCell,World.size_setCell,World.size_setCell];exact hg,fun g' D' hne=>⟨fun h=>Q04.far3 h (fun e=>hne e.symm) _ _ _,?_⟩⟩
 rintro ⟨n',a',l',c',e',v',h1,h2,h3⟩
 exact ⟨n',a',l',c',e',v',h1.far3 (fun e=>hne e.symm) _ _ _,h2.box hz' _ _ _,h3⟩
theorem Qec (W:World):(Instr.alloc 41 true (.tuple #[])).run Tryz.prog W=.ok (.pointer (some ⟨W.heap.size,0,none⟩)) (W.alloc (.cells #[.bool false,.int .i64 0,.slice none 0 0] 41)):=by kernel_rfl
theorem Qc9 {a:Operand->Value} {o:Oper} (ho:o.op=.alloc 41) (W:World):(execOp a o).run Tryz.prog W=.ok (.value (.pointer (some ⟨W.heap.size,0,none⟩))) (W.alloc (.cells #[.bool false,.int .i64 0,.slice none 0 0] 41)):=by
 unfold execOp
 simp only[ho,Sem.run_bind,Qec W,Result.andThen_ok,Sem.run_pure]
theorem Qr4:(Tryz.prog.info? 41).map (fun i=>(i.zero,i.size,i.bytes))=some (some (.agg #[.bool false,.int .i64 0,.slice none 0 0]),3,40):=by kernel_rfl
theorem Qjj:Tryz.prog.underlying 53=some (.slice 41):=by kernel_rfl
theorem Qnh (W:World) (v0 v1 v2:Value):(Instr.buildSlice 53 1 #[(0,.agg #[v0,v1,v2])]).run Tryz.prog W=.ok (.slice (some ⟨W.heap.size,0,none⟩) 1 1) (W.alloc (.cells #[v0,v1,v2] 41)):=by
 obtain ⟨i0,hi0,hz0,hz1,hz2⟩:=Q0t Qr4
 exact run_buildSlice W 53 41 1 _ #[v0,v1,v2] i0 _ Qjj hi0 hz0 (by rw[hz1];decide) (by rw[hz1];decide) (by rw[hz1];first|kernel_rfl|simp[Instr.fill,Value.cells])
theorem Qhj (W:World):(Instr.alloc 56 true (.tuple #[])).run Tryz.prog W=.ok (.pointer (some ⟨W.heap.size,0,none⟩)) (W.alloc (.cells #[.bool false,.slice none 0 0,.int .i64 0] 56)):=by kernel_rfl
theorem Q62 {a:Operand->Value} {o:Oper} (ho:o.op=.alloc 56) (W:World):(execOp a o).run Tryz.prog W=.ok (.value (.pointer (some ⟨W.heap.size,0,none⟩))) (W.alloc (.cells #[.bool false,.slice none 0 0,.int .i64 0] 56)):=by
 unfold execOp
 simp only[ho,Sem.run_bind,Qhj W,Result.andThen_ok,Sem.run_pure]
theorem Qr5 {W:World} {a1:Option Addr} {n1 c1:Nat} {A:List Q05} {x:Q9x} {ax:Option Addr} {lx cx:Nat} (hA:Q0c W a1 n1 c1 A) (rA:Q0s 1 A) (sA:Q54 (A.map Q05.term)) (hw:WordsIn W ax lx cx x.ws) (hok:x.Ok) (hbx:bnd 17 x.val) (hT:Q24 W):
 Calls Tryz.prog 23 #[.slice a1 n1 c1,.slice (some ⟨W.heap.size,0,none⟩) 1 1] (W.alloc (.cells #[.bool x.neg,.int .i64 x.exp,.slice ax lx cx] 41)) (Qtm (Q21 [x.val] (A.map Q05.term)) W):=by
 have hb:Below W.heap.size W (W.alloc (.cells #[.bool x.neg,.int .i64 x.exp,.slice ax lx cx] 41)):=(Below.refl _ _).alloc (Nat.le_refl _) _
 refine (Qqy (hA.step hb) rA (Ql5 W hw) hok (hT.step hb) (Qad (Qc0 sA hbx) (by decide))).mono ?_
 rintro r w' ⟨n,e,a,l,c,L,h1,h2,h3,h4,h5⟩
 exact ⟨n,e,a,l,c,L,h1,h2,h3,h4,Below.next0 hb h5⟩
def Qwd (N:Nat) (v:Value) (W:World):Prop:=∃g,v=.pointer (some ⟨g,0,none⟩)/\N<=g/\Qv2 W g/\g<W.heap.size
theorem Qjk (N:Nat):Q1u (Qwd N):=fun _ _ _ ⟨g,h1,h2,h3,h4⟩ hb=>⟨g,h1,h2,Q04.step h3 hb h4,Nat.lt_of_lt_of_le h4 hb.size⟩
theorem Qwr {i j k l m:Nat} {φ ψ χ ω η:Value->World->Prop} (h:Q1u φ) (h':Q1u ψ) (h'':Q1u χ) (h3:Q1u ω) (h4:Q1u η):∀p∈[(i,φ),(j,ψ),(k,χ),(l,ω),(m,η)],Q1u p.2:=fun p hp=>by
 rcases List.mem_cons.1 hp with rfl|hp
 ·exact h
 ·exact Qut h' h'' h3 h4 p hp
theorem Qag {P:Program} {K:Value->World->Prop} {w':World} {u:Value} {res:Result Next} (hr:res=.ok (.value u) w') (h:K u w'):Q26 P K res:=by rw[hr];exact h
theorem Qjl {P:Program} {K:Value->World->Prop} {w:World} {f:FuncId} {args:Array Value} {res:Result Next} (hr:res=.ok (.enter f args) w) (h:Calls P f args w fun e w''=>∃v,e=.returned v/\K v w''):Q26 P K res:=by rw[hr];exact h
theorem Qc3 {P:Program} {K:Value->World->Prop} {w':World} {res:Result Next} (hr:res=.ok .skip w') (h:K undef w'):Q26 P K res:=by rw[hr];exact h
end Go.Proofs.YtdilmfakkppgpaaGreatDoor
