/- Part 34 of the proof of LawParseBuilt: RefMul, DeckS, RefRais. Condition: as each theorem says; none at the end. -/
import Derived.Test.YtdilmfakkppgpaaGreatDoorPkParseBuilt33
set_option maxRecDepth 100000
set_option maxHeartbeats 16000000
namespace Go.Proofs.YtdilmfakkppgpaaGreatDoor
open Go.RowKit WordsM
def Qde (Pi:OA->Nat->Nat->List Int->Prop) (w:World):List Q0a->LV->Prop
 |[],xs=>xs=[]
 |p::r,xs=>∃n a l c e v ae le ce ys,xs=.bool n:: .slice a l c:: .int .i64 e:: .slice ae le ce::ys/\(Q0n w a l c v/\Q5b n v e/\dy (sgn n v) e=p.1/\Pi ae le ce p.2)/\Qde Pi w r ys
theorem Qde.len {Pi:OA->Nat->Nat->List Int->Prop} {w:World}:∀{ts:List Q0a} {xs:LV},Qde Pi w ts xs->xs.length=ts.length*4
 |[],_,h=>by cases h;rfl
 |p::r,_,⟨_,_,_,_,_,_,_,_,_,ys,rfl,_,h⟩=>by
  have:=Qde.len h;simp only[Uz];omega
theorem Qde.one {Pi:OA->Nat->Nat->List Int->Prop} {w:World}:∀{ts:List Q0a} {xs:LV},Qde Pi w ts xs->∀u∈xs,u.oneCell'=true/\NoD u
 |[],_,h,u,hu=>by cases h;cases hu
 |p::r,_,⟨_,_,_,_,_,_,_,_,_,ys,rfl,_,h⟩,u,hu=>by
  simp only[UF] at hu;rcases hu with rfl|rfl|rfl|rfl|hu
  ·exact ⟨rfl,Q9o _⟩
  ·exact ⟨rfl,Q4j _ _ _⟩
  ·exact ⟨rfl,Qd2 _⟩
  ·exact ⟨rfl,Q4j _ _ _⟩
  ·exact Qde.one h u hu
theorem Qde.app {Pi:OA->Nat->Nat->List Int->Prop} {w:World} {ts':List Q0a} {ys:LV} (h':Qde Pi w ts' ys):∀{ts:List Q0a} {xs:LV},Qde Pi w ts xs->Qde Pi w (ts++ts') (xs++ys)
 |[],_,h=>by cases h;exact h'
 |p::r,_,⟨n,a,l,c,e,v,ae,le,ce,zs,rfl,hg,h⟩=>⟨n,a,l,c,e,v,ae,le,ce,zs++ys,rfl,hg,Qde.app h' h⟩
theorem Qde.keep {Pi Pi':OA->Nat->Nat->List Int->Prop} {w w':World} (hp:∀{a l c E},Pi a l c E->Pi' a l c E) (hk:∀{a l c v},Q0n w a l c v->Q0n w' a l c v):∀{ts:List Q0a} {xs:LV},Qde Pi w ts xs->Qde Pi' w' ts xs
 |[],_,h=>h
 |_::_,_,⟨n,a,l,c,e,v,ae,le,ce,zs,hx,hg,h⟩=>⟨n,a,l,c,e,v,ae,le,ce,zs,hx,⟨hk hg.1,hg.2.1,hg.2.2.1,hp hg.2.2.2⟩,Qde.keep hp hk h⟩
theorem Qde.encT {Pi:OA->Nat->Nat->List Int->Prop} {w w0:World} (hp:∀{a l c E},Pi a l c E->Q0j w0 a l c E):∀{ts:List Q0a} {xs:LV},Qde Pi w ts xs->Q5y w0 w ts xs
 |[],_,h=>h
 |_::_,_,⟨n,a,l,c,e,v,ae,le,ce,zs,hx,hg,h⟩=>⟨n,a,l,c,e,v,ae,le,ce,zs,hx,⟨hg.1,hg.2.1,hg.2.2.1,hp hg.2.2.2⟩,Qde.encT hp h⟩
def Qvo (W:World) (a:OA) (ae:OA) (le ce:Nat) (E:List Int):Prop:=∃be oe,ae=some ⟨be,oe,none⟩/\Q0j W (some ⟨be,oe,none⟩) le ce E/\be<W.heap.size/\∀x,a=some x->x.block≠be
theorem Qvo.step {W W':World} {a ae:OA} {le ce:Nat} {E:List Int} (h:Qvo W a ae le ce E) (hb:Bw W W'):Qvo W' a ae le ce E:=by
 obtain ⟨be,oe,h1,h2,h3,h4⟩:=h;exact ⟨be,oe,h1,h2.step hb,Ue h3 hb.size,h4⟩
theorem Qvo.grown {W W':World} {a a' ae:OA} {le ce:Nat} {E:List Int} (h:Qvo W a ae le ce E) (hg:W.grownBy W' (a.map (·.block))) (ha:a'=a∨∀y,a'=some y->y.block=W.heap.size):Qvo W' a' ae le ce E:=by
 obtain ⟨be,oe,h1,h2,h3,h4⟩:=h;have F3:W'.heap[be]?=W.heap[be]?:=hg.block be h3 (fun e=>by
  cases a with
  |none=>cases e
  |some q=>simp only[UM,Un] at e;exact h4 q rfl e.symm)
 refine ⟨be,oe,h1,⟨h2.len,h2.cap,h2.most,h2.rng,?_⟩,Ue h3 hg.size,fun x hx e=>?_⟩
 ·rcases h2.rd with h8|⟨b,oo,e,hb,Y2⟩
  ·exact .inl h8
  ·injection e with e;injection e with e1 e2;subst e1;subst e2;exact .inr ⟨be,oe,rfl,Ue hb hg.size,fun i x hx=>(Td (a:=⟨be,oe+i,none⟩) F3).trans (Y2 i x hx)⟩
 ·rcases ha with rfl|ha
  ·exact h4 x hx e
  ·have:=ha x hx;omega
def Qb9 (w W:World) (a:OA) (i c:Nat) (ts:List Q0a) (xs:LV):Prop:=ts.length=i/\Q3d NoD W w.heap.size 144 4 a i c xs/\Qde (Qvo W a) W ts xs/\Bw w W
theorem Qb9.step {w W W':World} {a:OA} {i c:Nat} {ts:List Q0a} {xs:LV} (h:Qb9 w W a i c ts xs) (hb:Bw W W'):Qb9 w W' a i c ts xs:=
 ⟨h.1,h.2.1.step hb,h.2.2.1.keep (fun h=>h.step hb) (fun h=>h.step hb),Below.next0 h.2.2.2 hb⟩
theorem Qb9.lt {w W:World} {a:OA} {i c:Nat} {ts:List Q0a} {xs:LV} (h:Qb9 w W a i c ts xs):∀x,a=some x->w.heap.size<=x.block/\x.block<W.heap.size:=fun x hx=>Q19.lt.row2_blk h.2.1.1 hx
theorem Qb9.push {w W:World} {a:OA} {i c:Nat} {out:List Q0a} {xs:LV} (Z0:Qb9 w W a i c out xs) {p:Q0a} {bl:Nat} {lit:LV} (M8:W.heap[bl]?=some (.cells lit.toArray 144 (0,0))) (P7:Qde (Qvo W a) W [p] lit) (hi:i<=1000) (ty:TypeId):
 ∃a' c' W',(Builtin.append_ #[142,142] ty #[.slice a i c,.slice (some ⟨bl,0,none⟩) 1 1]).run Tryz.prog W=.ok (.slice a' (i+1) c') W'/\Qb9 w W' a' (i+1) c' (out++[p]) (xs++lit):=by
 obtain ⟨h1,h2,h3,h4⟩:=Z0;have Km:lit.length=4:=by rw[P7.len];rfl
 obtain ⟨a8,c8,w8,I2,Jh,B5,Vz⟩:=Q4k ty W w.heap.size h4.size a i c xs h2 (some ⟨bl,0,none⟩) 1 1 lit (by rw[Km]) (.inr ⟨_,rfl,fun j u hj=>by
  rw[Xao,UB,Ux _ _ _ _ _ _ M8];simpa using hj⟩) (fun u hu=>P7.one u hu) (by omega)
 refine ⟨a8,c8,w8,I2,by rw[Uj,h1];rfl,Jh,Qde.app (P7.keep (fun h=>h.grown B5 Vz) (fun h=>h2.grownD B5 h)) (h3.keep (fun h=>h.grown B5 Vz) (fun h=>h2.grownD B5 h)),?_⟩;exact h4.trans ⟨B5.os,B5.tape,B5.output,B5.size,fun z hz=>B5.block z (Ue hz h4.size) (fun e=>by
  cases a with
  |none=>simp at e
  |some q=>simp only[UM,Un] at e;have:=(Q19.lt.row2_blk h2.1 rfl).1;omega)⟩
theorem Qb9.terms {w W:World} {a:OA} {n c:Nat} {ts:List Q0a} {xs:LV} (h:Qb9 w W a n c ts xs):Qkx W a n c ts:=by
 obtain ⟨h1,h2,h3,h4⟩:=h;have V3:=h2.1.cap;refine ⟨h1,V3.1,by have:=V3.2;simpa[maxLen] using this,?_⟩;rcases h2.1.form with ⟨_,h0,_⟩|⟨g,cur,rfl,_,B0,_⟩
 ·exact .inl (Tg (by rw[h1];exact h0))
 ·refine .inr ⟨g,0,rfl,B0,xs,h3.encT (fun ⟨be,oe,e,h,_⟩=>by rw[e];exact h),fun j u hj=>?_⟩;rw[UB];exact h2.1.cell0 hj
def Qyd (N:Nat) (v:Value) (W:World):Prop:=∃g,v=.pointer (some ⟨g,0,none⟩)/\N<=g/\Q02 W g (.bool false) (.slice none 0 0) (.int .i64 0)/\g<W.heap.size
theorem Ql4 (N:Nat):Q0t (Qyd N):=fun _ _ _ ⟨g,h1,h2,h3,h4⟩ hb=>⟨g,h1,h2,h3.step hb h4,Ue h4 hb.size⟩
def LitI (z:Int) (v:Value) (W:World):Prop:=∃bl,v=.slice (some ⟨bl,0,none⟩) 1 1/\bl<W.heap.size/\W.heap[bl]?=some (.cells #[.int .i64 z] 3 (0,0))
theorem Ql5 (z:Int):Q0t (LitI z):=fun _ _ _ ⟨bl,h1,h2,h3⟩ hb=>⟨bl,h1,Ue h2 hb.size,(hb.block bl h2).trans h3⟩
theorem Qom (W:World) (z:Int):(Instr.buildSlice 42 1 #[(0,.int .i64 z)]).run Tryz.prog W=.ok (.slice (some ⟨W.heap.size,0,none⟩) 1 1) (W.alloc (.cells #[.int .i64 z] 3)):=by
 obtain ⟨i0,O1,P1,K1,J1⟩:=Q0l Q47;exact run_buildSlice W 42 3 1 _ #[.int .i64 z] i0 _ Qak O1 P1 (by rw[K1];decide) (by rw[K1];decide) (by rw[K1];first|rfl|kernel_rfl|simp[Instr.fill,Value.cells])
theorem Quy (ty:TypeId) (B:Nat) (W:World) (hB:B<=W.heap.size) (a:OA) (n c:Nat) (xs:LV) (hr:Row W B 3 1 a n c xs) (bl:Nat) {z:Int} (F3:W.heap[bl]?=some (.cells #[.int .i64 z] 3 (0,0))) (hn:n<=1000):
 ∃a' c' w',(Builtin.append_ #[42,42] ty #[.slice a n c,.slice (some ⟨bl,0,none⟩) 1 1]).run Tryz.prog W=.ok (.slice a' (n+1) c') w'/\Row w' B 3 1 a' (n+1) c' (xs++[.int .i64 z])/\Below B W w':=by
 obtain ⟨i0,O1,P1,K1,J1⟩:=Q0l Q47;obtain ⟨a',c',w',I1,I0,m7,N0,_⟩:=Q1u W W ty 42 3 i0 _ 1 8 Tryz.underlying42 O1 P1 K1 J1 rfl (by decide) B (Uf _ _) hB a n c xs hr ⟨bl,0,none⟩ 1 1 [.int .i64 z] rfl (fun j u hj=>by
  rw[Xao,UB,Ux _ _ _ _ _ _ F3];simpa using hj) (fun u hu=>by
  simp only[UF,List.not_mem_nil,or_false] at hu;rw[hu];rfl) (n+1) rfl (by omega) (by omega)
 exact ⟨a',c',w',I1,I0,N0⟩
theorem Qfr (W:World):(Instr.alloc 56 true (.tuple #[])).run Tryz.prog W=.ok (.pointer (some ⟨W.heap.size,0,none⟩)) (W.alloc (.cells #[.bool false,.slice none 0 0,.int .i64 0] 56)):=by kernel_rfl
theorem Qdi {a:Operand->Value} {o:Oper} (ho:o.op=.alloc 56) (W:World):(execOp a o).run Tryz.prog W=.ok (.value (.pointer (some ⟨W.heap.size,0,none⟩))) (W.alloc (.cells #[.bool false,.slice none 0 0,.int .i64 0] 56)):=by
 unfold execOp;simp only[ho,Sem.run_bind,Qfr W,Xa7,Xbt]
theorem Qsi {a b:List Q0a} {p:Q0a} (XR:¬(a≠[]/\b≠[]/\8<Qja a+Qja b)) (hp:p∈Q83 a b) (hf:¬Q75 p.1):Q8d a b=.error 2:=by
 unfold Q8d;rw[Uq XR,Us];refine Xah.2 ⟨p,hp,?_⟩;have h1:=(Q9b p.1).2 hf;simp[h1]
theorem Qsj {a b:List Q0a} (XR:¬(a≠[]/\b≠[]/\8<Qja a+Qja b)) (hf:∀p∈Q83 a b,Q75 p.1):Q8d a b=Q24 (Q83 a b):=by
 unfold Q8d;rw[Uq XR,Uq];intro ha;obtain ⟨p,hp,hq⟩:=Xah.1 ha;have h1:=(Q2a p.1).2 (hf p hp);simp[h1] at hq
def Qx2 (w:World) (ms ms2:List Q01) (s8 s9:Value) (wr:World):Prop:=∃(i:Nat) (a:OA) (N c:Nat) (xs:LV),s8=.slice a N c/\s9=.int .i64 (i:Int)/\i<=ms.length/\N<=24*i/\Qb9 w wr a N c (Q83 ((ms.take i).map Q01.term) (ms2.map Q01.term)) xs/\∀p∈Q83 ((ms.take i).map Q01.term) (ms2.map Q01.term),Q75 p.1
def Qye (w:World) (ms2:List Q01) (i:Nat) (T:List Q0a) (x:Q01) (s8 s10:Value) (wr:World):Prop:=∃(j:Nat) (a:OA) (N c:Nat) (xs:LV),s8=.slice a N c/\s10=.int .i64 (j:Int)/\j<=ms2.length/\N<=24*i+j/\Qb9 w wr a N c (T++((ms2.take j).map Q01.term).map (Qjb x.term)) xs/\∀p∈T++((ms2.take j).map Q01.term).map (Qjb x.term),Q75 p.1
def Qz0 (NB:Nat) (WL:World) (E F:List Int) (s14 s15:Value) (wr:World):Prop:=∃(q:Nat) (a:OA) (c:Nat),s14=.slice a q c/\s15=.int .i64 (q:Int)/\q<=E.length/\Row wr NB 3 1 a q c (((List.zipWith (·+·) E F).take q).map zv)/\Below NB WL wr
theorem Qx3 {E F:List Int} {q:Nat} {z1 z2:Int} (h1:E[q]?=some z1) (h2:F[q]?=some z2):(List.zipWith (·+·) E F)[q]?=some (z1+z2):=by
 rw[List.getElem?_zipWith,h1,h2]
theorem Qmr {ms2:List Q01} {j:Nat} {y:Q01} (hy:ms2[j]?=some y) (T:List Q0a) (x:Q01):T++((ms2.take (j+1)).map Q01.term).map (Qjb x.term)=(T++((ms2.take j).map Q01.term).map (Qjb x.term))++[Qjb x.term y.term]:=by
 rw[Q5k hy,UP,UP,UO];rfl
structure Qyf (W:World) (b oi:Nat) (x:Q01) (aw:OA) (lw cw be oe le ce:Nat):Prop where
 it:Q77 W b oi x aw lw cw (some ⟨be,oe,none⟩) le ce
 pw:Q0j W (some ⟨be,oe,none⟩) le ce x.es
theorem Qyf.step {W W':World} {b oi:Nat} {x:Q01} {aw:OA} {lw cw be oe le ce:Nat} (h:Qyf W b oi x aw lw cw be oe le ce) (hb:Bw W W'):Qyf W' b oi x aw lw cw be oe le ce:=⟨h.it.step hb,h.pw.step hb⟩
theorem Q0j.get {w:World} {be oe le ce:Nat} {E:List Int} (h:Q0j w (some ⟨be,oe,none⟩) le ce E) {q:Nat} {z:Int} (hz:E[q]?=some z):w.cell? ⟨be,oe+q,none⟩=some (.int .i64 z):=by
 obtain ⟨b,o,e,_,hc⟩:=h.rd.at_ hz;injection e with e;injection e with e1 e2;subst e1;subst e2;exact hc
theorem Qd6 (a:OA) (n c:Nat) (ms:List Q01) (b:OA) (m d:Nat) (ms2:List Q01) (k:Nat) (w:World) (h1:Q08 w a n c ms) (h2:Q08 w b m d ms2) (r1:Q0z k ms) (r2:Q0z k ms2):
 Calls Tryz.prog 126 #[.slice a n c,.slice b m d,.int .i64 (k:Int)] w (Q2j w (Q8d (ms.map Q01.term) (ms2.map Q01.term))):=by
 have Z3:=r1.1;have Y4:=r1.2.1;have Z2:=h1.1;have hlm:=h2.1;have hcm1:=Ur h1.2.1 h1.2.2.1;have hcm2:=Ur h2.2.1 h2.2.2.1;have hn:n<=24:=by have:=r1.2.2.1;rw[h1.1] at this;exact this
 have hm:m<=24:=by have:=r2.2.2.1;rw[h2.1] at this;exact this
 have p1:=fun W (hb:Bw w W)=>Q3w a n c ms k W (h1.step hb) (by omega);have p2:=fun W (hb:Bw w W)=>Q3w b m d ms2 k W (h2.step hb) (by omega);have d1:=fun W (hb:Bw w W)=>Q9q a n c ms k W (h1.step hb) r1;have d2:=fun W (hb:Bw w W)=>Q9q b m d ms2 k W (h2.step hb) r2;obtain ⟨X,hX⟩:∃X,Q8d (ms.map Q01.term) (ms2.map Q01.term)=X:=⟨_,rfl⟩;rw[hX];have H:=Xh7 h1 h2 r1 r2 p1 p2 hX;have HD:=Xh2 d1 d2;have HDB:=Xh2 (Q7y r1) (Q7y r2);clear h1 h2 r1 r2 p1 p2 hX d1 d2;obtain ⟨B8,hB8⟩:∃B8,decide (ms≠[]/\ms2≠[]/\8<Qdd ms+Qdd ms2)=B8:=⟨_,rfl⟩;have HB8:=Ua hB8;clear hB8
 go_enter Tryz.func126,Tryz.ntmps126
 go_upto_region 3 with (first|(go_at_call_of 71 (Value.slice a n c);refine ((Xo4 H) _ (Uf _ _)).mono ?_;rintro r w1 ⟨⟨x,rfl,hx⟩,C0⟩;(have ZC:x=true:=hx.2 (Xo2 H));clear hx;subst ZC;have H1:=Ua C0;clear C0)|(go_at_call_of 71 (Value.slice b m d);refine ((Xo5 H) _ H1.out).mono ?_;rintro r w2 ⟨⟨x,rfl,hx⟩,D0⟩;(have ZC:x=true:=hx.2 (Xo3 H));clear hx;subst ZC;have H2:=Ua (Below.next0 H1.out D0);clear D0))
 go_cut [41] (fun v wx=>v=.bool B8/\Bw w wx)
 case first=>
  by_cases O7:ms=[]
  ·have p6:¬((0:Int)<(n:Int)):=(by rw[<-Z2,O7];decide);have hBf:B8=false:=(by rw[<-HB8.out];exact UL fun h=>h.1 O7);subst hBf;clear O7
   go_wp2_with fail
   go_meet;exact ⟨rfl,H2.out⟩
  ·have p6:(0:Int)<(n:Int):=(by have:=Xai.2 O7;omega);have HM0:=Ua O7;clear O7
   by_cases F9:ms2=[]
   ·have R5:¬((0:Int)<(m:Int)):=(by rw[<-hlm,F9];decide);have hBf:B8=false:=(by rw[<-HB8.out];exact UL fun h=>h.2.1 F9);subst hBf;clear F9
    go_wp2_with fail
    go_meet;exact ⟨rfl,H2.out⟩
   ·have R5:(0:Int)<(m:Int):=(by have:=Xai.2 F9;omega);have HM2:=Ua F9;clear F9;have e1:=(Xo0 HDB);have e2:=(Xe1 HDB);have hB:B8=decide (8<Qdd ms+Qdd ms2):=(by rw[<-HB8.out];simp[HM0.out,HM2.out]);have HB:=Ua hB;clear hB
    go_wp2_with (first|(go_at_call_of 162 (Value.slice a n c);refine ((Xo0 HD) _ H2.out).mono ?_;rintro r w3 ⟨rfl,G0⟩;have H3:=Ua (Below.next0 H2.out G0);clear G0)|(go_at_call_of 162 (Value.slice b m d);refine ((Xe1 HD) _ H3.out).mono ?_;rintro r w4 ⟨rfl,F1⟩;have H4:=Ua (Below.next0 H3.out F1);clear F1))
    go_meet;exact ⟨congrArg Value.bool HB.out.symm,H4.out⟩
 case rest=>
  obtain ⟨rfl,QO⟩:=hcut;have HC:=Ua QO;clear QO;cases hB:B8 with
  |true=>
   have h8:=Xab (HB8.out.trans hB);have Jz:X=.error 6:=by
    rw[<-(Xe6 H)];unfold Q8d;rw[Us ⟨by simpa using h8.1,by simpa using h8.2.1,h8.2.2⟩]
   have HX:=Ua Jz;subst hB;clear Jz h8
   go_wp2_with fail
   exact ⟨rfl,.tuple #[.slice none 0 0,.int .i64 6],by simp[results,go_sem],Q2j.err HX.out HC.out⟩
  |false=>
   have h8:=of_decide_eq_false (HB8.out.trans hB);have XR:¬(ms.map Q01.term≠[]/\ms2.map Q01.term≠[]/\8<Qja (ms.map Q01.term)+Qja (ms2.map Q01.term)):=fun h=>h8 ⟨by simpa using h.1,by simpa using h.2.1,h.2.2⟩;have HND:=Ua XR;subst hB;clear h8 XR
   go_wp2_with fail
   go_loopw [8,9] (fun s8 s9 wr=>Qx2 w ms ms2 s8 s9 wr) (fun _ iv _=>n-(intOf iv).toNat)
   case atStart=>exact ⟨0,none,0,0,[],rfl,rfl,Uu _,Uu _,⟨rfl,Q3d.nil_ _ _ _ _ _,rfl,HC.out⟩,fun p hp=>by cases hp⟩
   case round=>
    obtain ⟨i,a1,N,c1,xs,rfl,rfl,hi,hN,Z0,Zl⟩:=hrel;rw[Z2] at hi
    by_cases B0:i<n
    ·have E0:(i:Int)<(n:Int):=(by omega);obtain ⟨x,hx⟩:∃x,ms[i]?=some x:=⟨_,Ub (by omega)⟩;obtain ⟨b0,o0,rfl,C4,R1⟩:∃b o,a=some ⟨b,o,none⟩/\b<w.heap.size/\∀j m,ms[j]?=some m->Q31 w b (o+j*4) m:=by
      rcases (Xo0 H).2.2.2 with h0|h0
      ·rw[h0] at hx;simp at hx
      ·exact h0
     obtain ⟨aw,lw,cw,ae,le,ce,k0,k1,k2,k3,hw,he,U4,J4⟩:=R1 i x hx;have k9:OkM k x:=(Xo2 H).2.2.2.1 x (Ud hx);obtain ⟨be,oe,rfl,L6⟩:∃be oe,ae=some ⟨be,oe,none⟩/\be<w.heap.size:=by
      rcases he.rd with h0|⟨bb,oo,e,E3,_⟩
      ·exfalso;have:=k9.1.1.1;rw[h0] at this;simp at this;omega
      ·exact ⟨bb,oo,e,E3⟩
     have o6:le=k:=(by rw[<-he.len];exact k9.1.1.1);have hxo:Qyf w b0 (o0+i*4) x aw lw cw be oe le ce:=⟨⟨k0,k1,k2,k3,hw⟩,he⟩;have hpn:=Qhy hx (ms2.map Q01.term);obtain ⟨T,hT⟩:∃T,Q83 ((ms.take i).map Q01.term) (ms2.map Q01.term)=T:=⟨_,rfl⟩;rw[hT] at Z0 Zl hpn;have hxf:bnd 69632 (Q28 x.neg x.exp x.ws):=Qbn (Q7s k9.1.2 hw.low) (Ug _);have O3:=Ur he.cap he.most;have HR:=Xh7 Z0 Zl hpn hxo k9 hxf hx;clear Z0 Zl hpn hxo k9 hxf hT R1 hx k0 k1 k2 k3 hw he U4 J4
     go_wp2_with fail
     rename World=>wl
     go_loopw [8,10] (fun s8 s10 wx=>Qye w ms2 i T x s8 s10 wx) (fun _ iv _=>m-(intOf iv).toNat)
     case atStart=>exact ⟨0,a1,N,c1,xs,rfl,rfl,Uu _,by omega,by rw[List.take_zero,Xbd,Xbd,TV];exact (Xo0 HR),by rw[List.take_zero,Xbd,Xbd,TV];exact (Xo1 HR)⟩
     case round=>
      obtain ⟨j,a2,N2,c2,xs2,rfl,rfl,hj,hN2,Z0,Zl⟩:=hrel;rw[hlm] at hj
      by_cases hjm:j<m
      ·have KJ:(j:Int)<(m:Int):=(by omega);obtain ⟨y,hy⟩:∃y,ms2[j]?=some y:=⟨_,Ub (by omega)⟩;obtain ⟨b1,o1,rfl,C0,R1⟩:∃b' o,b=some ⟨b',o,none⟩/\b'<w.heap.size/\∀j m,ms2[j]?=some m->Q31 w b' (o+j*4) m:=by
        rcases (Xo1 H).2.2.2 with h0|h0
        ·rw[h0] at hy;simp at hy
        ·exact h0
       obtain ⟨bw,lv,cv,af,lf,cf,k0,k1,k2,k3,hw,he,R8,O9⟩:=R1 j y hy;have Yp:OkM k y:=(Xo3 H).2.2.2.1 y (Ud hy);obtain ⟨bf,of,rfl,Xo⟩:∃be oe,af=some ⟨be,oe,none⟩/\be<w.heap.size:=by
        rcases he.rd with h0|⟨bb,oo,e,E3,_⟩
        ·exfalso;have:=Yp.1.1.1;rw[h0] at this;simp at this;omega
        ·exact ⟨bb,oo,e,E3⟩
       have hlf:lf=k:=(by rw[<-he.len];exact Yp.1.1.1);have hyo:Qyf w b1 (o1+j*4) y bw lv cv bf of lf cf:=⟨⟨k0,k1,k2,k3,hw⟩,he⟩;have hyf:bnd 69632 (Q28 y.neg y.exp y.ws):=Qbn (Q7s Yp.1.2 hw.low) (Ug _);have hcf:=Ur he.cap he.most;have Q0:=Z0.2.2.2;have Kp:=(Xo3 HR).step Q0;have hyr:=hyo.step Q0;have k0:=Kp.it.c0;have k1:=Kp.it.c1;have k2:=Kp.it.c2;have k3:=Kp.it.c3;have l0:=hyr.it.c0;have l1:=hyr.it.c1;have l2:=hyr.it.c2;have l3:=hyr.it.c3;have HS:=Xh8 Z0 Zl hyo Yp hyf Kp hyr hy;clear Z0 Zl hyo Yp hyf Kp hyr hy R1 hw he R8 O9 Q0
       go_upto_region 12 with fail
       refine Q1p (Φ:=fun U=>Bw wr U) (P:=fun U=>Code.wp _ _ _ _ U) _ (Uf _ _) ?_;intro U hU;have HC:=Ua (fun W (h:Bw U W)=>And.intro (((Xo5 HS).step hU).step h).it (((Xo6 HS).step hU).step h).it);have HT:=Xh3 (And.intro (Xo4 HR).1 (Xo5 HR)) (Xo3 HS).1 (Xo4 HS);have HU:=Xh3 ((Xo0 HS).step hU) ((Xo5 HS).step hU) ((Xo6 HS).step hU);clear hU k0 k1 k2 k3 l0 l1 l2 l3;refine Qd5 (by kernel_rfl) 14 rfl (fun W=>Bw U W) (fun _ _ h h'=>Below.next0 h h') (Q3x [.slice (some ⟨b0,o0,none⟩) n c,.int .i64 (i:Int),.pointer (some ⟨b0,o0+i*4,none⟩),.pointer (some ⟨b0,o0+i*4,none⟩),.agg #[.bool x.neg,.int .i64 x.exp,.slice aw lw cw],undef,.slice (some ⟨b1,o1,none⟩) m d,.int .i64 (j:Int),.pointer (some ⟨b1,o1+j*4,none⟩),.pointer (some ⟨b1,o1+j*4,none⟩),.agg #[.bool y.neg,.int .i64 y.exp,.slice bw lv cv],undef,undef,undef] (Q1n [(5,fun u w=>Q8q w u (Q28 x.neg x.exp x.ws)),(11,fun u w=>Q8q w u (Q28 y.neg y.exp y.ws)),(12,fun u w=>Q8q w u (Q28 x.neg x.exp x.ws*Q28 y.neg y.exp y.ws)),(13,Qyd U.heap.size)])) (Q0h (Q0m (Qkr (Q2r _) (Q2r _) (Q2r _) (Ql4 _)))) 13 (by decide) (fun v W'=>∃g n9 a9 l9 c9 q9 v9,v=.pointer (some ⟨g,0,none⟩)/\U.heap.size<=g/\Q02 W' g (.bool n9) (.slice a9 l9 c9) (.int .i64 q9)/\g<W'.heap.size/\Q0n W' a9 l9 c9 v9/\Q5b n9 v9 q9/\dy (sgn n9 v9) q9=Q28 x.neg x.exp x.ws*Q28 y.neg y.exp y.ws/\Bw U W') (by kernel_rfl) (by kernel_rfl) (by kernel_rfl) (by kernel_rfl) (Q05 U) ?_ ?_ ?_
       ·skip
        repeat' (first|exact Q98|refine Q97 ?_ ?_)
        all_goals first
         |(refine Q29 rfl fun A W hW F0 hd hd=>?_
           simp[Q82,Region.binds,Q1n] at hd;have e0:=Q0d F0 0 (by kernel_rfl) rfl;have e9:=Q0d F0 9 (by kernel_rfl) rfl;have e1:=Q0d F0 1 (by kernel_rfl) rfl;have e10:=Q0d F0 10 (by kernel_rfl) rfl;refine Q3n rfl rfl ?_;simp[go_sem,hd,e0,e9,e1,e10,E0,(HC.out W hW).1.c0,(HC.out W hW).1.c1,(HC.out W hW).1.c2,KJ,(HC.out W hW).2.c0,(HC.out W hW).2.c1,(HC.out W hW).2.c2]
           done)
         |skip
        ·intro A W hW F0 A0;have e58:=Q0o A0 4 (by decide) rfl rfl rfl;refine Q04 rfl ?_;refine Q0y (f:=24) (args:= #[.agg #[.bool x.neg,.int .i64 x.exp,.slice aw lw cw]]) (by simp[go_sem,e58]) ((Qd0 x.neg x.exp aw lw cw x.ws W (HC.out W hW).1.wi (Xo0 HT).1.2).mono ?_);rintro e w2' ⟨u',rfl,ZG,J5⟩;exact ⟨_,rfl,J5,(Q00 rfl).2 ZG⟩
        ·intro A W hW F0 A0;have e64:=Q0o A0 10 (by decide) rfl rfl rfl;refine Q04 rfl ?_;refine Q0y (f:=24) (args:= #[.agg #[.bool y.neg,.int .i64 y.exp,.slice bw lv cv]]) (by simp[go_sem,e64]) ((Qd0 y.neg y.exp bw lv cv y.ws W (HC.out W hW).2.wi (Xo1 HT).2).mono ?_);rintro e w2' ⟨u',rfl,ZG,J5⟩;exact ⟨_,rfl,J5,(Q00 rfl).2 ZG⟩
        ·intro A W hW F0 A0;refine Q04 rfl ?_;obtain ⟨n8,a8,l8,c8,q8,v8,k7,QX,R7,ZB⟩:=(Q00 rfl).1 (A0 5 (by decide));obtain ⟨n9,a9,l9,c9,q9,v9,hv9,JJ,i6,JQ⟩:=(Q00 rfl).1 (A0 11 (by decide));have e59:=Q1f k7;have e65:=Q1f hv9;refine Q0y (f:=27) (args:= #[.agg #[.bool n8,.slice a8 l8 c8,.int .i64 q8],.agg #[.bool n9,.slice a9 l9 c9,.int .i64 q9]]) (by simp[go_sem,e59,e65]) ((Qs4 n8 a8 l8 c8 q8 v8 n9 a9 l9 c9 q9 v9 W QX JJ R7 i6 69632 (by rw[ZB];exact (Xo0 HT).2) (by rw[JQ];exact (Xe2 HT)) (by decide)).mono ?_);rintro e w2' ⟨u',rfl,ZG,J5⟩;rw[ZB,JQ] at ZG;exact ⟨_,rfl,J5,(Q00 rfl).2 ZG⟩
        ·intro A W hW F0 A0;refine Q04 rfl ?_;refine Q10 (Qdi (by rfl) W) (Ba) ((Q00 rfl).2 ⟨W.heap.size,rfl,hW.size,Q02.new W _ _ _ _,Q0r _ _⟩)
       ·intro A W hW F0 A0;obtain ⟨g,hg,hgB,Wh,XM⟩:=(Q00 rfl).1 (A0 13 (by decide));obtain ⟨n8,a8,l8,c8,q8,v8,k7,QX,R7,ZB⟩:=(Q00 rfl).1 (A0 12 (by decide));have e11:=Q1f hg;have e66:=Q1f k7;have k0:=Wh.c0;have k1:=Wh.c1;have k2:=Wh.c2;have f0:=Wh.f0;have f1:=Wh.f1;have f2:=Wh.f2;have d1:=Wh.d1 (.bool n8);have d2:=Wh.d2 (.bool n8) (.slice a8 l8 c8);refine Q3j (w':=((W.setCell ⟨g,0,none⟩ (.bool n8)).setCell ⟨g,1,none⟩ (.slice a8 l8 c8)).setCell ⟨g,2,none⟩ (.int .i64 q8)) ?_ ?_
        ·simp[go_sem,e11,e66,k0,k1,k2,f0,f1,f2,d1,d2]
        ·refine ⟨g,n8,a8,l8,c8,q8,v8,hg,hgB,Wh.store _ _ _,by rw[UV,UV,UV];exact XM,Q0n.box QX Wh _ _ _,R7,ZB,Q02.below hW hgB _ _ _⟩
       intro vs W1 G3;obtain ⟨g,n9,a9,l9,c9,q9,v9,hv13,hg9,WV,hgl9,JJ,i6,JQ,Z4⟩:=G3;have k0:=WV.c0;have k1:=WV.c1;have k2:=WV.c2;have hl9:l9<=1000000:=by
        have hb:=Qaj (k:=31250) (T:=139264) i6 (by rw[JQ];exact (Xo0 HT).2.mul (Xe2 HT)) (by omega);have:=JJ.len;omega
       have X1:=Q52 n9 a9 l9 c9 v9 q9 W1 JJ hl9;have HV:=Xh7 WV hgl9 JJ i6 JQ Z4 hg9;clear WV hgl9 JJ i6 JQ Z4 hg9 hl9;simp only[Q0s,Act.put,Uw,UK,UJ,hv13];clear hv13
       go_upto_region 14 with (go_at_call 146;refine X1.mono ?_;rintro r w4 ⟨neg9,e9,a4,n4,c4,L9,er,rfl,ZY,KQ,F1⟩;have HN:=Xh3 ZY KQ F1;clear ZY KQ F1 X1)
       refine Q1p (Φ:=fun V=>Bw w4 V) (P:=fun V=>Code.wp _ _ _ _ V) _ (Ba) ?_;intro V hV;have hft9:=Qdu (Xo3 HV) (Xo0 HN);rw[(Xo4 HV)] at hft9;have hbV:Bw W1 V:=Below.next0 (Xe2 HN) hV;have HW:=Ua hbV;clear hV hbV k0 k1 k2;rcases hft9 with ⟨hf9,rfl,_,_⟩|⟨hf9,rfl,_,_,_⟩
       ·have Qq:=Below.next0 (Xo5 HV) HW.out;have hxV:=(Xo1 HU).step Qq;have hyV:=(Xe2 HU).step Qq;have hnbV:=(Xo0 HV).step HW.out (Xo1 HV);have hglV:=Ue (Xo1 HV) HW.out.size;have hdV:=(Xo2 HV).step HW.out;have HF:=Xh7 hf9 hxV hyV hnbV hglV hdV ((Xo0 HU).step Qq);have Xk:x.es.length=k:=(Xo4 HR).1.1.1;have hlen2:y.es.length=k:=(Xo3 HS).1.1.1;clear hf9 hxV hyV hnbV hglV hdV Qq
        go_wp2_with fail
        go_loopw [14,15] (fun s14 s15 wx=>Qz0 V.heap.size V x.es y.es s14 s15 wx) (fun _ iv _=>k-(intOf iv).toNat)
        case atStart=>exact ⟨0,none,0,rfl,rfl,Uu _,Row.nil_ _ _ _ _,Uf _ _⟩
        case round=>
         obtain ⟨k0,ax,cx,rfl,rfl,hk,Vw,C2⟩:=hrel;rw[Xk] at hk
         by_cases QT:k0<k
         ·have hkl':(k0:Int)<(k:Int):=(by omega);have hkl1:(k0:Int)<(le:Int):=(by omega);have hkl2:(k0:Int)<(lf:Int):=(by omega);obtain ⟨z1,K1⟩:∃z,x.es[k0]?=some z:=⟨_,Ub (by omega)⟩;obtain ⟨z2,J1⟩:∃z,y.es[k0]?=some z:=⟨_,Ub (by omega)⟩;have g1:=Q1x (Xo4 HR).1.1 z1 (Ud K1);have g2:=Q1x (Xo3 HS).1.1 z2 (Ud J1);obtain ⟨z3,hz3e⟩:∃z3,z1+z2=z3:=⟨_,rfl⟩;have hz3:IntKind.i64.wrap (z1+z2)=z3:=(by rw[Ut];omega);have hz4:wrap64 (z1+z2)=z3:=(by unfold wrap64;omega);have B6:(List.zipWith (·+·) x.es y.es).take (k0+1)=(List.zipWith (·+·) x.es y.es).take k0++[z3]:=(by rw[<-hz3e];exact Q5k (Qx3 K1 J1));obtain ⟨zs,Zt⟩:∃zs,(List.zipWith (·+·) x.es y.es).take k0=zs:=⟨_,rfl⟩;rw[Zt] at Vw B6;have HQ:=Xh5 Vw C2 B6 K1 J1;clear Vw C2 B6 K1 J1 Zt g1 g2 hz3e
          go_upto_region 20 with fail
          refine Q1p (Φ:=fun U=>Bw wr U) (P:=fun U=>Code.wp _ _ _ _ U) _ (Uf _ _) ?_;intro Uk hUk;have I7:=(Xo1 HQ).trans (hUk.mono (Xo1 HQ).size);have HC2:=Ua (fun W (h:Bw Uk W)=>And.intro (((Xo1 HF).step I7).step h).it.c3 (And.intro ((((Xo1 HF).step I7).step h).pw.get (Xo3 HQ)) (And.intro (((Xo2 HF).step I7).step h).it.c3 ((((Xo2 HF).step I7).step h).pw.get (Xe4 HQ)))));have HK:=Xh2 I7.size ((Xo0 HQ).call hUk);have HKB:=Ua I7;clear hUk I7;obtain ⟨NB,XA⟩:∃NB,V.heap.size=NB:=⟨_,rfl⟩;rw[XA] at HK HKB;refine Q48 (by kernel_rfl) 19 rfl (fun W=>Bw Uk W) (fun _ _ h h'=>Below.next0 h h') (Q3x [.slice ax k0 cx,.slice (some ⟨b0,o0,none⟩) n c,.int .i64 (i:Int),.pointer (some ⟨b0,o0+i*4,none⟩),.pointer (some ⟨b0,o0+i*4+3,none⟩),.slice (some ⟨be,oe,none⟩) le ce,.int .i64 (k0:Int),.pointer (some ⟨be,oe+k0,none⟩),.int .i64 z1,.slice (some ⟨b1,o1,none⟩) m d,.int .i64 (j:Int),.pointer (some ⟨b1,o1+j*4,none⟩),.pointer (some ⟨b1,o1+j*4+3,none⟩),.slice (some ⟨bf,of,none⟩) lf cf,.int .i64 (k0:Int),.pointer (some ⟨bf,of+k0,none⟩),.int .i64 z2,.int .i64 z3,undef] (Q1n [(18,LitI z3)])) (Q0h (Q0m (Qum (Ql5 _)))) (fun v W'=>∃a8 c8,v=.slice a8 (k0+1) c8/\Row W' NB 3 1 a8 (k0+1) c8 ((zs++[z3]).map zv)/\Below NB Uk W') (by kernel_rfl) (by kernel_rfl) (by kernel_rfl) (by kernel_rfl) (Q05 Uk) ?_ ?_ ?_
          ·skip
           repeat' (first|exact Q98|refine Q97 ?_ ?_)
           all_goals first
            |(refine Q29 rfl fun A W hW F0 hd hd=>?_
              simp[Q82,Region.binds,Q1n] at hd;have e14:=Q0d F0 14 (by kernel_rfl) rfl;have e0:=Q0d F0 0 (by kernel_rfl) rfl;have e9:=Q0d F0 9 (by kernel_rfl) rfl;have e15:=Q0d F0 15 (by kernel_rfl) rfl;have e1:=Q0d F0 1 (by kernel_rfl) rfl;have e10:=Q0d F0 10 (by kernel_rfl) rfl;refine Q3n rfl rfl ?_;simp[go_sem,hd,e14,e0,e9,e15,e1,e10,E0,(HC2.out W hW).1,hkl1,(HC2.out W hW).2.1,KJ,(HC2.out W hW).2.2.1,hkl2,(HC2.out W hW).2.2.2,hz3]
              done)
            |skip
           ·intro A W hW F0 A0;have e96:=Q0o A0 17 (by decide) rfl rfl rfl;refine Q04 rfl ?_;have em:A.eval (.tmp 96)=.int .i64 z3:=(Q09 rfl).1 (A0 17 (by decide));refine Q10 (Q55 42 1 #[(0,.tmp 96)] (by rfl) (parts':= #[(0,.int .i64 z3)]) (by simp[em]) (Qom W _)) (Ba) ((Q00 rfl).2 ⟨W.heap.size,rfl,Q0r _ _,Ul _ _⟩)
          ·refine And.intro ?_ (And.intro (by decide) ?_)
           ·intro A W hW F0 A0;have h79:A.eval (.tmp 79)=.slice ax k0 cx:=(Q09 rfl).1 (A0 0 (by decide));obtain ⟨bl,C7,QW,hv3⟩:=(Q00 rfl).1 (A0 18 (by decide));obtain ⟨a8,c8,W8,I2,D5,B4⟩:=Quy 42 NB W (Ur (Xo0 HK) hW.size) ax k0 cx _ ((Xe1 HK).call hW) bl hv3 (by omega);rw[Q5j (.tmp 79) (.tmp 97) 42 42 (by rfl) h79 C7 I2];exact ⟨a8,c8,rfl,by rw[UP];exact D5,(hW.mono (Xo0 HK)).trans B4⟩
           ·intro a w F0;rfl
          intro vs2 W2 hfin2 VO;obtain ⟨a8,c8,k7,D5,B4⟩:=hfin2;have h20:=VO.trans k7;rw[<-(Xo2 HQ),<-XA] at D5;have HF2:=Xh2 D5 (HKB.out.trans B4);rw[<-XA] at HF2;clear D5 B4 k7 HKB HK;simp only[Q0s,Act.put,Uw,UK,UJ,h20];clear h20 VO
          go_wp2_with fail
          exact ⟨⟨k0+1,a8,c8,rfl,congrArg (Value.int .i64) (by omega),by omega,(Xo0 HF2),(Xe1 HF2)⟩,by simp only[intOf];omega⟩
         ·have hkl':¬(k0:Int)<(k:Int):=(by omega);have hke:k0=k:=(by omega);rw[UA (by rw[Xbs,Xk,hlen2];omega)] at Vw;have YJ:=(Xo3 HF).step C2 (Xo4 HF);have k0c:=YJ.c0;have k1c:=YJ.c1;have k2c:=YJ.c2;have hzr:∀z∈List.zipWith (·+·) x.es y.es,0<=z/\z<=16:=fun z hz=>by
           obtain ⟨q,hq,rfl⟩:=Xay hz;rw[List.getElem_zipWith];rw[Xbs] at hq;have g1:=Q1x (Xo4 HR).1.1 (x.es[q]'(by omega)) (List.getElem_mem _);have g2:=Q1x (Xo3 HS).1.1 (y.es[q]'(by omega)) (List.getElem_mem _);omega
          have hxi:=Vw.ints fun z hz=>by have:=hzr z hz;omega
          obtain ⟨gx,rfl,hgx1,hgx2⟩:∃gx,ax=some ⟨gx,0,none⟩/\V.heap.size<=gx/\gx<wr.heap.size:=by
           rcases Vw.form with ⟨_,h0,_⟩|⟨g',cur,e1,hB',E0,_⟩
           ·omega
           ·exact ⟨g',e1,hB',E0⟩
          have hstx:=(Xe6 HF).step C2;have T4:Bw wr (wr.alloc (.cells #[.bool n9,.slice a9 l9 c9,.int .i64 q9,.slice (some ⟨gx,0,none⟩) k0 cx] 144)):=Ba;have hpe:Qjb x.term y.term=(Q28 x.neg x.exp x.ws*Q28 y.neg y.exp y.ws,List.zipWith (·+·) x.es y.es):=rfl;obtain ⟨a8,c8,W8,I2,Jk⟩:=(hstx.step T4).push (p:=Qjb x.term y.term) (bl:=wr.heap.size) (lit:=[.bool n9,.slice a9 l9 c9,.int .i64 q9,.slice (some ⟨gx,0,none⟩) k0 cx]) (Ul _ _) ⟨n9,a9,l9,c9,q9,v9,_,_,_,[],rfl,⟨((Xo5 HF).step C2).step T4,(Xo3 HV),(Xo4 HV),gx,0,rfl,hxi.step T4,Ue hgx2 T4.size,fun z hz e=>by have:=((Xe6 HF).lt z hz).2;omega⟩,rfl⟩ (by omega) 142;have hft8:∀p∈T++((ms2.take (j+1)).map Q01.term).map (Qjb x.term),Q75 p.1:=fun p hp=>by
           rw[Qmr (Xe7 HS)] at hp;rcases UY.1 hp with h|h
           ·exact (Xo1 HS) p h
           ·rw[Uy] at h;rw[h];exact (Xo0 HF)
          rw[<-Qmr (Xe7 HS)] at Jk;have hbld:=Qd3 wr (.bool n9) (.slice a9 l9 c9) (.int .i64 q9) (.slice (some ⟨gx,0,none⟩) k0 cx);have HG:=Xh2 Jk hft8;clear Jk hft8 hstx T4 hxi hzr YJ Vw C2 hpe;subst hke
          go_wp2_with (first
           |(at_builtin;refine Q07 rfl (.tmp 99) (.tmp 103) 142 142 rfl _ _ rfl rfl _ _ I2 ?_))
          exact ⟨⟨j+1,a8,N2+1,c8,_,rfl,congrArg (Value.int .i64) (by omega),by omega,by omega,HG.out⟩,by simp only[intOf];omega⟩
       ·have S2:X=.error 2:=by
         rw[<-(Xe6 H)];exact Qsi HND.out (p:=Qjb x.term y.term) (List.mem_flatMap.2 ⟨x.term,Tm.2 ⟨x,Ud (Xe6 HR),rfl⟩,Tm.2 ⟨y.term,Tm.2 ⟨y,Ud (Xe7 HS),rfl⟩,rfl⟩⟩) hf9
        have N0:Bw w V:=Below.next0 (Xo0 HU).2.2.2 (Below.next0 (Xo5 HV) HW.out);have HX:=Xh2 S2 N0;clear S2 N0 hf9
        go_wp2_with fail
        exact ⟨rfl,.tuple #[.slice none 0 0,.int .i64 2],by simp[results,go_sem],Q2j.err (Xo0 HX) (Xe1 HX)⟩
      ·have KJ:¬(j:Int)<(m:Int):=(by omega);rw[UA (by omega)] at Z0 Zl;rw[<-(Xo2 HR)] at Z0 Zl;have HS:=Xh2 Z0 Zl;clear Z0 Zl
       go_wp2_with fail
       exact ⟨⟨i+1,a2,N2,c2,xs2,rfl,congrArg (Value.int .i64) (by omega),by omega,by omega,HS.out⟩,by simp only[intOf];omega⟩
    ·have E0:¬(i:Int)<(n:Int):=(by omega);rw[UA (by omega)] at Z0 Zl;have U3:=Qsj HND.out Zl;rw[(Xe6 H)] at U3;have JC:∀p∈Q83 (ms.map Q01.term) (ms2.map Q01.term),p.2.length=k/\bnd 69632 p.1:=fun p hp=>by
      refine ⟨?_,Qbn (Zl p hp) (Ug _)⟩;unfold Q83 at hp;obtain ⟨u,hu,hp⟩:=List.mem_flatMap.1 hp;obtain ⟨v,hv,rfl⟩:=Tm.1 hp;obtain ⟨x,hx,rfl⟩:=Tm.1 hu;obtain ⟨y,hy,rfl⟩:=Tm.1 hv;have g1:=((Xo2 H).2.2.2.1 x hx).1.1.1;have g2:=((Xo3 H).2.2.2.1 y hy).1.1.1
      show (List.zipWith (·+·) x.es y.es).length=k
      rw[Xbs,g1,g2,Nat.min_self]
     have hg:=Qel a1 N c1 _ k 69632 wr Z0.terms (fun p hp=>(JC p hp).1) (fun p hp=>(JC p hp).2) (by omega) (by omega) Z3 (by omega);rw[<-U3] at hg;have HS:=Ua Z0.2.2.2;clear Z0 Zl U3 JC
     go_wp2_with (go_at_call 93;refine hg.mono ?_;rintro r w3 VB;obtain ⟨x9,er9,rfl⟩:=VB.pair;have H3:=Ua VB;clear VB)
     exact ⟨rfl,.tuple #[x9,.int .i64 er9],by simp[results,go_sem],H3.out.from_ HS.out⟩
theorem Quz {n:Nat} {ms:List Q01} (h1:1<=n) (hn:n<=4) (hP:Q2z n (ms.map Q01.term)) (ho:∀m∈ms,Q0i m.neg m.exp m.ws/\m.ws≠[]):Q0z n ms:=by
 obtain ⟨h2,h3,h4⟩:=hP;refine ⟨h1,hn,by rwa[UQ] at h3,fun m hm=>⟨⟨(h4 _ (Tm.2 ⟨m,hm,rfl⟩)).2.2,(ho m hm).1⟩,(ho m hm).2⟩,?_⟩;unfold Qbh at h2;rw[Xa8] at h2;exact h2
theorem Q2j.res {w w':World} {k:Nat} {X:Except Int (List Q0a)} {r:Ending} (h:Q2j w X r w') (h1:1<=k) (h4:k<=4) (hX:∀P,X=.ok P->Q2z k P):Q0u w k X r w':=by
 obtain ⟨hb,h⟩:=h;refine ⟨hb,?_⟩;cases X with
 |error e=>exact ⟨none,0,0,h⟩
 |ok P=>
  obtain ⟨a,n,c,ms,h3,h4',h5,h6,h7⟩:=h;exact ⟨a,n,c,ms,h3,h4',h5,Quz h1 h4 (by rw[h5];exact hX P rfl) h6⟩
theorem Qms (W:World):WordsIn (W.alloc (.cells #[.int .u64 1] 74)) (some ⟨W.heap.size,0,none⟩) 1 1 [1]:=Qry W 1 (by decide) 74
theorem Qj0:Q0i false 0 [1]:=by decide
theorem Qv0 {k:Nat} (h1:1<=k) (h4:k<=4):Q0z k [⟨false,0,[1],List.replicate k 0⟩]:=by
 refine ⟨h1,h4,by show 1<=24;decide,fun m hm=>?_,List.pairwise_singleton _ _⟩;rw[Uy] at hm;subst hm;exact ⟨⟨Q5e k,Qj0⟩,List.cons_ne_nil _ _⟩
def Qz1 (w:World) (k kk:Nat) (P:List Q0a) (s8 s9:Value) (wr:World):Prop:=∃(J i:Nat) (q:List Q0a) (a:OA) (n c:Nat) (ms:List Q01),s8=.slice a n c/\s9=.int .i64 (J:Int)/\i+1=J/\J<=kk/\Q08 wr a n c ms/\ms.map Q01.term=q/\Q0z k ms/\Qe0 P i=.ok q/\Bw w wr
theorem Qfs (a:OA) (n c:Nat) (ms:List Q01) (kk k:Nat) (w:World) (h:Q08 w a n c ms) (hr:Q0z k ms) (hK:kk<=8):
 Calls Tryz.prog 127 #[.slice a n c,.int .i64 (kk:Int),.int .i64 (k:Int)] w (Q0u w k (Q6a k (ms.map Q01.term) kk)):=by
 have Z3:=hr.1;have Y4:=hr.2.1;obtain ⟨X,hX⟩:∃X,Q6a k (ms.map Q01.term) kk=X:=⟨_,rfl⟩;rw[hX];have U3:=Xam (P:=Tryz.prog) 42 3 (.int .i64 0) 8 Tryz.underlying42 Q47 rfl .i64 .i64 k (by omega) (by omega);rw[Q1k] at U3;cases kk with
 |zero=>
  have J2:X=.ok [(1,List.replicate k 0)]:=by rw[<-hX,Q6a]
  have C0:Bw w (w.alloc (.cells #[.int .u64 1] 74)):=Ba;have D0:=C0.alloc C0.size (.cells (Array.replicate k (nv .i64 0)) 3);have K4:=(Qms w).step ((Uf _ _).alloc (Ug _) (.cells (Array.replicate k (nv .i64 0)) 3));have K1:=Qco (W:=w.alloc (.cells #[.int .u64 1] 74)) k Y4;have C8:=Q9i (m:=⟨false,0,[1],List.replicate k 0⟩) K4 K1 (by show (-9223372036854775808:Int)<=0;decide) (by show (0:Int)<=9223372036854775807;decide);have G0:=D0.alloc D0.size (.cells #[.bool false,.int .i64 0,.slice (some ⟨w.heap.size,0,none⟩) 1 1,.slice (some ⟨(w.alloc (.cells #[.int .u64 1] 74)).heap.size,0,none⟩) k k] 44);have B2:(w.alloc (.cells #[.int .u64 1] 74)).heap.size=w.heap.size+1:=Uo _ _;rw[B2] at C8 G0;have H:=Xh3 J2 C8 G0;clear hX J2 C0 D0 K4 K1 C8 G0 h hr B2
  go_enter Tryz.func127,Tryz.ntmps127
  go_wp2_with fail
  refine ⟨rfl,.tuple #[.slice (some ⟨((w.alloc (.cells #[.int .u64 1] 74)).alloc (.cells (Array.replicate k (nv .i64 0)) 3)).heap.size,0,none⟩) 1 1,.int .i64 0],by simp[results,go_sem],(Xe2 H),?_⟩;rw[(Xo0 H)];exact ⟨_,_,_,_,rfl,(Xo1 H),rfl,Qv0 Z3 Y4⟩
 |succ K=>
  have J2:X=Qe0 (ms.map Q01.term) K:=by rw[<-hX,Q6a]
  have C1:(((K:Int)+1)==0)=false:=by rw[Ui];omega
  obtain ⟨KK,hKK⟩:∃KK,K+1=KK:=⟨_,rfl⟩;have hKI:((K+1:Nat):Int)=(KK:Int):=by omega
  rw[hKI];have C1:((KK:Int)==0)=false:=by rw[Ui];omega
  have hKK9:KK<=9:=by omega
  have H:=Xh4 h hr J2 hKK;clear hX J2 h hr U3 hKI hKK
  go_enter Tryz.func127,Tryz.ntmps127
  go_wp2_with fail
  go_loopw [8,9] (fun s8 s9 wr=>Qz1 w k KK (ms.map Q01.term) s8 s9 wr) (fun _ iv _=>KK-(intOf iv).toNat)
  case atStart=>exact ⟨1,0,_,a,n,c,ms,rfl,rfl,rfl,by have:=(Xe3 H);omega,(Xo0 H),rfl,(Xo1 H),rfl,Uf _ _⟩
  case round=>
   obtain ⟨J,i,q,a1,n1,c1,ms1,rfl,rfl,hJ,hJK,R9,Q1,A2,X7,Q0⟩:=hrel
   by_cases B0:J<KK
   ·have E0:(J:Int)<(KK:Int):=(by omega);obtain ⟨Z,hZ⟩:∃Z,Q8d q (ms.map Q01.term)=Z:=⟨_,rfl⟩;have q7:=(Qd6 a1 n1 c1 ms1 a n c ms k wr R9 ((Xo0 H).step Q0) A2 (Xo1 H)).mono fun r w' h=>h.res Z3 Y4 fun P hP=>Qh9 (A2.plain R9) ((Xo1 H).plain (Xo0 H)) hP;rw[Q1,hZ] at q7;have T9:Qe0 (ms.map Q01.term) (i+1)=Z:=(by rw[Qe0,X7];exact hZ);have HA:=Xh5 q7 T9 hZ Q0 hJ;clear q7 T9 R9 Q1 A2 X7 Q0 hZ hJ;cases Z with
    |error er=>
     have WH:(er==0)=false:=beq_eq_false_iff_ne.2 (Q80 (Xo2 HA));have Jz:X=.error er:=(by rw[(Xo2 H)];exact Qcp (i:=i+1) (by have:=(Xe4 HA);have:=(Xe3 H);omega) (Xo1 HA));have HX6:=Ua Jz;clear Jz
     go_wp2_with (go_at_call 126;refine (Xo0 HA).mono ?_;rintro r w6 ⟨U2,a6,l6,c6,rfl⟩;have H6:=Ua U2;clear U2)
     exact ⟨rfl,.tuple #[.slice none 0 0,.int .i64 er],by simp[results,go_sem],Q0u.err HX6.out (Below.next0 (Xo3 HA) H6.out)⟩
    |ok q'=>
     go_wp2_with (go_at_call 126;refine (Xo0 HA).mono ?_;rintro r w6 ⟨U2,a6,l6,c6,ms6,rfl,KW,Q5,o5⟩;have H6:=Xh4 U2 KW Q5 o5;clear U2 KW Q5 o5)
     exact ⟨⟨J+1,i+1,q',a6,l6,c6,ms6,rfl,congrArg (Value.int .i64) (by omega),by have:=(Xe4 HA);omega,by omega,(Xo1 H6),(Xo2 H6),(Xe3 H6),(Xo1 HA),Below.next0 (Xo3 HA) (Xo0 H6)⟩,by simp only[intOf];omega⟩
   ·have E0:¬((J:Int)<(KK:Int)):=(by omega);have A6:i=K:=(by have:=(Xe3 H);omega);rw[A6] at X7;have HS:=Xh5 R9 Q1 A2 X7 Q0;clear R9 Q1 A2 X7 Q0 A6 hJ
    go_wp2_with fail
    refine ⟨rfl,.tuple #[.slice a1 n1 c1,.int .i64 0],by simp[results,go_sem],(Xe4 HS),?_⟩;rw[(Xo2 H),(Xo3 HS)];exact ⟨a1,n1,c1,ms1,rfl,(Xo0 HS),(Xo1 HS),(Xo2 HS)⟩
end Go.Proofs.YtdilmfakkppgpaaGreatDoor
