/- Part 15. No condition. -/
import Derived.Great.BuildSlice
import Derived.RangeFuncNested
import Derived.Scope
import Derived.RangeFuncWrites
import Derived.RangeFuncBound
import Derived.RangeFuncLeaves
import Derived.RangeFuncBox
import Derived.Shelf.Abstract
import Derived.Shelf.RegionOpen
import Derived.TacticsInMore
import Derived.LoopNIn
import Derived.LoopIn
import Derived.Laws.EntriesVeiled
import Derived.Lib.IndexBytes
import Derived.Shelf.Strings.SlTrimAscii
import Derived.Lib.Atoi
import Derived.Test.YtidojbkhlenahaaGreatDoorPkProblemDrawn13
import Derived.Test.YtidojbkhlenahaaGreatDoorPkProblemDrawn14
set_option maxRecDepth 100000
set_option maxHeartbeats 16000000
namespace Go.Proofs.YtidojbkhlenahaaGreatDoor
open Go.RowKit WordsM
theorem Q2f.push1 [LT ZK] {B:Nat} {w w2:World} {a:OA} {n c c2 g:Nat} {all:List Q01} (h:Q2f B w a n c all) {xs xs2:LV} (D6:Q4c NoU w B 98 4 a n c xs) (Z5:w.grownBy w2 (a.map (·.block))) (J2:a=some ⟨g,0,none⟩∨g=w.heap.size) {m:Q01} {aw:OA} {lw cw be oe le ce:Nat}
 (hr:Q4c NoU w2 B 98 4 (some ⟨g,0,none⟩) (n+1) c2 xs2) (Yu:xs2=xs++[.bool m.neg,.int .i64 m.exp,.slice aw lw cw,.slice (some ⟨be,oe,none⟩) le ce])
 (hw:WordsIn w aw lw cw m.ws) (hi:Q0p w (some ⟨be,oe,none⟩) le ce m.es) (X7:be<w.heap.size) (Q1:∀x,a=some x->x.block≠be):Q2f B w2 (some ⟨g,0,none⟩) (n+1) c2 (all++[m]):=by
 have F2:w.heap.size<=w2.heap.size:=Z5.size;have htt:Q0l (fun b=>∃x,a=some x/\x.block=b) w w2:=(Q0l.of_below (Ud _ _) _).trans0 (Q0l.of_grown Z5 fun r hr _=>by
  cases a with
  |none=>simp at hr
  |some y=>simp only[UG,Un] at hr;exact ⟨y,rfl,hr⟩)
 have JA:∀(aw:OA) (lw cw:Nat) (L:LN),WordsIn w aw lw cw L->WordsIn w2 aw lw cw L:=fun aw lw cw L hw=>hw.turn (D6.off hw) htt (fun _ h=>h);have D5:∀k,k<w.heap.size->(∀x,a=some x->x.block≠k)->w2.heap[k]?=w.heap[k]?:=fun k hk hn=>htt.block k hk (fun ⟨x,hx,e⟩=>hn x hx e);have o7:∀k,k<w.heap.size->(∀x,a=some x->x.block≠k)->k≠g:=fun k hk hn e=>by
  subst e;rcases J2 with h1|h1
  ·exact hn _ h1 rfl
  ·omega
 have P2:xs.length=n*4:=D6.1.len;have A6:∀i v,xs2[i]?=some v->w2.cell? ⟨g,i,none⟩=some v:=fun i v hv=>hr.1.cell0 hv;refine ⟨⟨xs2,hr⟩,fun j m' B8=>⟨g,rfl,?_⟩,by rw[Ui,h.len];rfl⟩
 by_cases hj:j<n
 ·rw[Tp (by rw[h.len];exact hj)] at B8;obtain ⟨g0,ha,hE⟩:=h.ent j m' B8;refine hE.via F2 (fun i hi4=>?_) (fun _ _ _ h=>JA _ _ _ _ h) fun be C0 D0=>?_
  ·have F0:j*4+i<xs.length:=(by omega);have e1:=A6 (j*4+i) xs[j*4+i] (by rw[Yu,Tp F0,Ub F0]);subst ha;rw[e1,D6.1.cell0 (Ub F0)]
  ·have Vj:∀x,a=some x->x.block≠be:=fun x hx e=>by rw[ha] at hx;injection hx with hx;subst hx;exact C0 e.symm
   exact ⟨o7 be D0 Vj,D5 be D0 Vj⟩
 ·have O9:j=n:=by
   have:=(Uh.1 B8).1;rw[Ui,h.len] at this;simp at this;omega
  subst O9;rw[Tg (by rw[h.len];exact Ue _),h.len,Nat.sub_self] at B8;simp only[UO,Un] at B8;subst B8;have hc:∀i v,[Value.bool m.neg,.int .i64 m.exp,.slice aw lw cw,.slice (some ⟨be,oe,none⟩) le ce][i]?=some v->w2.cell? ⟨g,j*4+i,none⟩=some v:=fun i v hv=>A6 _ _ (by rw[Yu,Tg (by omega),P2,Xas];exact hv);have D0:=D5 be X7 Q1;refine ⟨aw,lw,cw,be,oe,le,ce,hc 0 _ rfl,hc 1 _ rfl,hc 2 _ rfl,hc 3 _ rfl,JA _ _ _ _ hw,⟨hi.len,hi.cap,hi.most,hi.rng,?_⟩,o7 be X7 Q1,Uc X7 F2⟩;rcases hi.rd with h8|⟨b,oo,e,hb,Y3⟩
  ·exact .inl h8
  ·injection e with e;injection e with e1 e2;subst e1;subst e2;exact .inr ⟨be,oe,rfl,Uc hb F2,fun i x hx=>(UK (a:=⟨be,oe+i,none⟩) D0).trans (Y3 i x hx)⟩
theorem Qei:Tryz.prog.underlying 96=some (.slice 3):=by kernel_rfl
theorem Q8t:Tryz.prog.underlying 42=some (.slice 98):=by kernel_rfl
theorem Qi3 [LT ZK] (ty:TypeId) (W:World) (b:Nat) (ae:OA) (le ce:Nat) (E:List Int) (h:Q0p W ae le ce E) (h0:E≠[]) (x5:le<=1000):
 ∃c' W',(Builtin.append_ #[96,96] ty #[.slice (some ⟨b,0,none⟩) 0 0,.slice ae le ce]).run Tryz.prog W=.ok (.slice (some ⟨W.heap.size,0,none⟩) le c') W'/\Q0p W' (some ⟨W.heap.size,0,none⟩) le c' E/\Bw W W'/\W.heap.size<W'.heap.size:=by
 obtain ⟨i0,S2,E2,O1,Y1⟩:=Q0z Qb7;have P2:=h.len;have O2:0<le:=by rw[<-P2];exact List.length_pos_iff.2 h0
 obtain ⟨p,o,rfl,hp,hc⟩:∃p o,ae=some ⟨p,o,none⟩/\p<W.heap.size/\∀(j:Nat) x,E[j]?=some x->W.cell? ⟨p,o+j,none⟩=some (.int .i64 x):=by
  rcases h.rd with h1|h1
  ·exact absurd h1 h0
  ·exact h1
 have Q4:=growslice_fits (need:=0+le) (old:=0) (bytes:=i0.bytes) (by omega) (by rw[Y1];omega);have C2:=run_append_grow (P:=Tryz.prog) W 96 ty 3 i0 _ Qei S2 E2 ⟨b,0,none⟩ 0 0 [] (by simp) (fun j v hv=>by simp at hv) ⟨p,o,none⟩ le ce (E.map zv) (by rw[UE,O1];omega) (fun j v hv=>by
  rw[UI] at hv;cases hx:E[j]? with
  |none=>rw[hx] at hv;cases hv
  |some x=>
   rw[hx] at hv;simp only[UG,Un] at hv;subst hv;have N6:(⟨p,o,none⟩:Addr).add j=⟨p,o+j,none⟩:=(by unfold Addr.add;split <;> simp_all);rw[N6];exact hc j x hx) (by omega) (by omega) Q4
 rw[UH] at C2;have JH:le<=grownCap W le 0 3:=grownCap_ge W le 0 3;have E3:grownCap W le 0 3<=maxLen:=grownCap_le_maxLen W le 0 3 (by unfold maxLen;omega);refine ⟨_,_,C2,⟨P2,JH,by simpa[maxLen] using E3,.new h.rng.1,.inr ⟨W.heap.size,0,rfl,by rw[Ur];exact Nat.lt_succ_self _,fun j x hx=>?_⟩⟩,⟨rfl,rfl,rfl,by rw[Ur];exact Xar _,fun k hk=>(Below.alloc (Ud W.drew.heap.size W.drew) (Ue _) _).block k hk⟩,by rw[Ur];exact Nat.lt_succ_self _⟩;have hn:=Up W.drew (.cells (([]:LV).toArray++(E.map zv).toArray++Builtin.zeroCells (Value.int .i64 0).cells (grownCap W le 0 3-le)) 3);have J1:=UL _ _ (0+j) _ _ _ hn;refine J1.trans ?_;rw[UH,Array.getElem?_append_left (by have:=(Uh.1 hx).1;simp;exact this)];simp[hx,zv]
theorem Q2y {P:Program} {V:Value->World->Prop} {w w':World} {u:Value} {res:Result Next} (hr:res=.ok (.value u) w') (hb:Bw w w') (h:V u w'):Q1n P Q7l V w res:=by rw[hr];exact ⟨hb,h⟩
theorem Q47 {P:Program} {a:Operand->Value} {o:Oper} (s x:Operand) (t1 t2:TypeId) (ho:o.op=.call { callee:=.builtin .append,args:= #[s,x],argTypes:= #[t1,t2] }) {va vx:Value} (hs:a s=va) (hx:a x=vx) {v:Value} {w w':World} (C2:(Builtin.append_ #[t1,t2] o.type #[va,vx]).run P w=.ok v w'):(execOp a o).run P w=.ok (.value v) w':=by
 unfold execOp;simp only[ho,resolve,invoke,builtin,Sem.run_bind,Sem.run_pure,Result.andThen_ok,List.map_toArray,Xa1,List.map_nil,hs,hx,C2]
theorem Q48 {P:Program} {a:Operand->Value} {o:Oper} (t:TypeId) (len:Nat) (parts:Array (Nat × Operand)) (ho:o.op=.buildSlice t len parts) {parts':Array (Nat × Value)} (hp:(parts.map fun (i,x)=>(i,a x))=parts') {v:Value} {w w':World} (C2:(Instr.buildSlice t len parts').run P w=.ok v w'):(execOp a o).run P w=.ok (.value v) w':=by
 subst hp;unfold execOp;simp only[ho,Sem.run_bind,C2,Result.andThen_ok,Sem.run_pure]
theorem Qk9 (W:World):(Instr.buildSlice 96 0 #[]).run Tryz.prog W=.ok (.slice (some ⟨W.heap.size,0,none⟩) 0 0) (W.alloc (.cells #[] 3)):=by
 simp[Instr.buildSlice,run_underlying Qei,Instr.fill,newRow];exact congrArg (fun c=>W.alloc (Obj.cells c 3)) (by simp)
theorem Qka (W:World) (v0 v1 v2 v3:Value):(Instr.buildSlice 42 1 #[(0,.agg #[v0,v1,v2,v3])]).run Tryz.prog W=.ok (.slice (some ⟨W.heap.size,0,none⟩) 1 1) (W.alloc (.cells #[v0,v1,v2,v3] 98)):=by
 obtain ⟨i0,S2,E2,O1,Y1⟩:=Q0z Q9k;exact run_buildSlice W 42 98 1 _ #[v0,v1,v2,v3] i0 _ Q8t S2 E2 (by rw[O1];decide) (by rw[O1];decide) (by rw[O1];first|kernel_rfl|simp[Instr.fill,Value.cells])
def Emp (v:Value) (_:World):Prop:=∃b,v=.slice (some ⟨b,0,none⟩) 0 0
def Qxy [LT ZK] (N le:Nat) (E:List Int) (v:Value) (W:World):Prop:=∃g c,v=.slice (some ⟨g,0,none⟩) le c/\N<=g/\g<W.heap.size/\Q0p W (some ⟨g,0,none⟩) le c E
def Qxz [LT ZK] (N le:Nat) (E:List Int) (v0 v1 v2:Value) (v:Value) (W:World):Prop:=∃g c,v=.agg #[v0,v1,v2,.slice (some ⟨g,0,none⟩) le c]/\N<=g/\g<W.heap.size/\Q0p W (some ⟨g,0,none⟩) le c E
def Qr1 [LT ZK] (N le:Nat) (E:List Int) (v0 v1 v2:Value) (v:Value) (W:World):Prop:=∃bl g c,v=.slice (some ⟨bl,0,none⟩) 1 1/\bl<W.heap.size/\W.heap[bl]?=some (.cells #[v0,v1,v2,.slice (some ⟨g,0,none⟩) le c] 98 (0,0))/\N<=g/\g<W.heap.size/\Q0p W (some ⟨g,0,none⟩) le c E
theorem Qnr:Q2d Emp:=fun _ _ _ h _=>h
theorem Qi4 [LT ZK] (N le:Nat) (E:List Int):Q2d (Qxy N le E):=fun _ _ _ ⟨g,c,h1,h2,h3,h4⟩ hb=>⟨g,c,h1,h2,Uc h3 hb.size,h4.step hb⟩
theorem Qi5 [LT ZK] (N le:Nat) (E:List Int) (v0 v1 v2:Value):Q2d (Qxz N le E v0 v1 v2):=fun _ _ _ ⟨g,c,h1,h2,h3,h4⟩ hb=>⟨g,c,h1,h2,Uc h3 hb.size,h4.step hb⟩
theorem Qfp [LT ZK] (N le:Nat) (E:List Int) (v0 v1 v2:Value):Q2d (Qr1 N le E v0 v1 v2):=fun _ _ _ ⟨bl,g,c,h1,h5,h6,h2,h3,h4⟩ hb=>⟨bl,g,c,h1,Uc h5 hb.size,(hb.block bl h5).trans h6,h2,Uc h3 hb.size,h4.step hb⟩
structure Q67 [LT ZK] (B:Nat) (w:World) (a:OA) (n c:Nat) (all:List Q01) (xs:LV):Prop where
 st:Q2f B w a n c all
 row:Q4c NoU w B 98 4 a n c xs
 new:∀j,j<n->∃be oe le ce,xs[j*4+3]?=some (.slice (some ⟨be,oe,none⟩) le ce)/\B<=be
theorem Q67.step [LT ZK] {B n c:Nat} {w w':World} {a:OA} {all:List Q01} {xs:LV} (h:Q67 B w a n c all xs) (hb:Bw w w'):Q67 B w' a n c all xs:=⟨h.st.step hb,h.row.step hb,h.new⟩
theorem Q67.nil_ [LT ZK] (B:Nat) (w:World):Q67 B w none 0 0 [] []:=⟨Q2f.nil_ _ _,Q4c.nil_ _ _ _ _ _,fun _ h=>absurd h (Tf _)⟩
def Qdg (B:Nat) (w:World) (a:OA) (n:Nat):Prop:=∀j,j<n->∃g be oe le ce,a=some ⟨g,0,none⟩/\B<=g/\w.cell? ⟨g,j*4+3,none⟩=some (.slice (some ⟨be,oe,none⟩) le ce)/\B<=be
theorem Qdg.more {B B':Nat} {w:World} {a:OA} {n:Nat} (h:Qdg B w a n) (hB:B'<=B):Qdg B' w a n:=fun j hj=>by
 obtain ⟨g,be,oe,le,ce,h1,h2,h3,h4⟩:=h j hj;exact ⟨g,be,oe,le,ce,h1,Uj hB h2,h3,Uj hB h4⟩
theorem Q67.newp [LT ZK] {B n c:Nat} {w:World} {a:OA} {all:List Q01} {xs:LV} (h:Q67 B w a n c all xs):Qdg B w a n:=fun j hj=>by
 obtain ⟨be,oe,le,ce,hx,hb⟩:=h.new j hj;obtain ⟨g,ha,_⟩:=h.st.ent j _ (Ub (by rw[h.st.len];exact hj));have hg:=h.st.lt ha;have hr:=h.row;subst ha;exact ⟨g,be,oe,le,ce,rfl,hg.1,hr.1.cell0 hx,hb⟩
theorem Qkb [LT ZK] {B:Nat} {U W:World} {a:OA} {n c:Nat} {all:List Q01} {xs:LV} (hU:Q67 B U a n c all xs) (hBU:B<=U.heap.size) (hb:Bw U W) {m:Q01} {aw:OA} {lw cw le:Nat} (hw:WordsIn U aw lw cw m.ws) {v:Value} (hv:Qr1 U.heap.size le m.es (.bool m.neg) (.int .i64 m.exp) (.slice aw lw cw) v W) (hn:n<=1000) (ty:TypeId):
 ∃a' c' W' xs',(Builtin.append_ #[42,42] ty #[.slice a n c,v]).run Tryz.prog W=.ok (.slice a' (n+1) c') W'/\Q67 B W' a' (n+1) c' (all++[m]) xs'/\Below B U W':=by
 obtain ⟨bl,g,c1,rfl,K4,B7,O5,Q2,hE⟩:=hv;obtain ⟨i0,S2,E2,O1,Y1⟩:=Q0z Q9k;have hW:=hU.step hb;have hr:=hW.row;have B4:xs.length=n*4:=hr.1.len;obtain ⟨g6,c6,w6,U7,J5,G4,m9⟩:=Q16 (P:=Tryz.prog) NoU W 42 ty 98 i0 _ 4 64 Q8t S2 E2 O1 Y1 rfl Qb9 B (Uj hBU hb.size) a n c xs hr bl 1 1 [.bool m.neg,.int .i64 m.exp,.slice aw lw cw,.slice (some ⟨g,0,none⟩) le c1] rfl (Tz (cs:= #[.bool m.neg,.int .i64 m.exp,.slice aw lw cw,.slice (some ⟨g,0,none⟩) le c1]) B7) (by simp[Value.oneCell']) (by intro u hu;simp at hu;rcases hu with rfl|rfl|rfl|rfl <;> exact fun _=>by simp[nv]) (by decide) (by omega) (by decide) (by decide);refine ⟨_,c6,w6,_,U7,⟨hW.st.push1 hr G4 m9 J5 rfl (hw.step hb) hE Q2 (fun x hx e=>?_),J5,fun j hj=>?_⟩,?_⟩
 ·have:=(hU.st.lt hx).2;omega
 ·by_cases O9:j<n
  ·obtain ⟨be,oe,l2,c2,hx,D0⟩:=hW.new j O9;exact ⟨be,oe,l2,c2,by rw[Tp (by omega)];exact hx,D0⟩
  ·obtain rfl:j=n:=(by omega);exact ⟨g,0,le,c1,by rw[Tg (by omega),B4,Xas];rfl,by omega⟩
 ·have VX:Below B U W:=⟨hb.os,hb.tape,hb.output,hb.size,fun z hz=>hb.block z (Uc hz hBU)⟩;exact VX.trans ⟨G4.os,G4.tape,G4.output,G4.size,fun z hz=>G4.block z (Uc hz (Uj hBU hb.size)) (fun e=>by
   cases a with
   |none=>simp at e
   |some q=>simp only[UG,Un] at e;have:=(hU.st.lt rfl).1;omega)⟩
def Q3a [LT ZK] (w:World) (X:Except Int (List Q0m)) (r:Ending) (w':World):Prop:=Bw w w'/\match X with
 | .error e=>r=.returned (.tuple #[.slice none 0 0,.int .i64 e])
 | .ok P=>∃a n c ms,r=.returned (.tuple #[.slice a n c,.int .i64 0])/\Q0k w' a n c ms/\ms.map Q01.term=P/\(∀m∈ms,Q0a m.neg m.exp m.ws/\m.ws≠[])/\Qdg w.heap.size w' a n
theorem Q3a.err [LT ZK] {w w':World} {X:Except Int (List Q0m)} {e:Int} (hX:X=.error e) (hb:Bw w w'):Q3a w X (.returned (.tuple #[.slice none 0 0,.int .i64 e])) w':=by subst hX;exact ⟨hb,rfl⟩
theorem Q3a.ok [LT ZK] {w w':World} {X:Except Int (List Q0m)} {P:List Q0m} {a:OA} {n c:Nat} {ms:List Q01} (hX:X=.ok P) (hb:Bw w w') (hm:Q0k w' a n c ms) (hP:ms.map Q01.term=P) (ho:∀m∈ms,Q0a m.neg m.exp m.ws/\m.ws≠[]) (hN:Qdg w.heap.size w' a n):Q3a w X (.returned (.tuple #[.slice a n c,.int .i64 0])) w':=by subst hX;exact ⟨hb,_,_,_,_,rfl,hm,hP,ho,hN⟩
theorem Qns {ts out:List Q0m} (ho:Q23 ts=out) {p:Q0m} (hp:p∈out) (hf:¬Q6i p.1):Q41 ts=.error 2:=by
 unfold Q41;rw[ho,Uu];exact Xba.2 ⟨p,hp,by rw[(Ql1 _).2 hf];rfl⟩
theorem Qnt {ts out:List Q0m} (ho:Q23 ts=out) (hf:∀p∈out,Q6i p.1):Q41 ts=if 24<(out.filter fun p=>decide (p.1≠0)).length then .error 6 else .ok (out.filter fun p=>decide (p.1≠0)):=by
 unfold Q41;rw[ho,Uq];intro h;obtain ⟨p,hp,hb⟩:=Xba.1 h;rw[(Q3w p.1).2 (hf p hp)] at hb;cases hb
def Qyw [LT ZK] (w:World) (out:List Q0m) (s8 s9:Value) (wr:World):Prop:=∃(j N:Nat) (a:OA) (c:Nat) (ms:List Q01) (zs:LV),s8=.slice a N c/\s9=.int .i64 (j:Int)/\j<=out.length/\N<=j/\Q67 w.heap.size wr a N c ms zs/\ms.map Q01.term=(out.take j).filter (fun p=>decide (p.1≠0))/\
 (∀m∈ms,Q0a m.neg m.exp m.ws/\m.ws≠[])/\(∀p∈out.take j,Q6i p.1)/\Bw w wr
theorem Q9q {α:Type} {l:List α} {j:Nat} {p:α} (h:l[j]?=some p):l.take (j+1)=l.take j++[p]:=by rw[Tu,h];rfl
theorem Qw8 {out:List Q0m} {j:Nat} {p:Q0m} (h:out[j]?=some p) (hz:p.1=0):(out.take (j+1)).filter (fun p=>decide (p.1≠0))=(out.take j).filter (fun p=>decide (p.1≠0)):=by
 rw[Q9q h,List.filter_append];simp[hz]
theorem Qtv {out:List Q0m} {j:Nat} {p:Q0m} (h:out[j]?=some p) (hz:p.1≠0):(out.take (j+1)).filter (fun p=>decide (p.1≠0))=(out.take j).filter (fun p=>decide (p.1≠0))++[p]:=by
 rw[Q9q h,List.filter_append];simp[hz]
theorem Qi6 {out:List Q0m} {j:Nat} {p:Q0m} (h:out[j]?=some p) (hf:Q6i p.1) (ha:∀q∈out.take j,Q6i q.1):∀q∈out.take (j+1),Q6i q.1:=fun q hq=>by
 rw[Q9q h] at hq;rcases Tl.1 hq with hq|hq
 ·exact ha q hq
 ·rw[Uy] at hq;subst hq;exact hf
structure Qlv [LT ZK] (W:World) (q g oj:Nat) (v0 v1 v2:Value) (ae:OA) (le ce:Nat) (E:List Int):Prop where
 bx:Q03 W q v0 v1 v2
 o3:W.cell? ⟨g,oj,none⟩=some (.slice ae le ce)
 ei:Q0p W ae le ce E
theorem Qlv.step [LT ZK] {W W':World} {q g oj:Nat} {v0 v1 v2:Value} {ae:OA} {le ce:Nat} {E:List Int} (h:Qlv W q g oj v0 v1 v2 ae le ce E) (hb:Bw W W'):Qlv W' q g oj v0 v1 v2 ae le ce E:=
 ⟨h.bx.step hb (Uz h.bx.c0),(hb.cell (p:=⟨g,oj,none⟩) (Uz h.o3)).trans h.o3,h.ei.step hb⟩
open DecM
theorem Q22 {x:Q2u} {w:World} {a:OA} {l c:Nat} (h:Q0f w a l c x) (hi:x.ok):Q25 x.neg x.exp x.ws=dyT x.val/\(dyT x.val).length<=1401:=by
 obtain ⟨n,e,L⟩:=x;have hl:=h.lie.low;have h5:Q0a n e L:=hi;unfold Q2u.val;simp only at hl⊢;rw[show Q25 n e L=Q2a n (val (2^64) L) e from Uu h5];rcases Q1f h5 hl with ⟨rfl,rfl,rfl⟩|⟨_,ho,_,hv,g1,g2⟩
 ·rw[show Q2m false 0 []=0 from rfl,show val (2^64) ([]:LN)=0 from rfl,Qjb];exact ⟨by simp[Q2a,Qa3,Q1z],by decide⟩
 ·have ht:dyT (Q2m n e L)=Q2a n (val (2^64) L) e:=Qey ho;rw[ht];refine ⟨rfl,?_⟩;have h1:=Qef hv g1 g2;cases n
  ·omega
  ·have h2:(Q2a true (val (2^64) L) e).length=(Q2a false (val (2^64) L) e).length+1:=(by simp[Q2a]);omega
theorem Qkc (x:Q2u) (a:OA) (l c:Nat) (w:World) (h:Q0f w a l c x) (hi:x.ok) (hP:Qax w):
 Calls Tryz.prog 38 #[.agg #[.bool x.neg,.int .i64 x.exp,.slice a l c]] w fun r w'=>r=.returned (.string ⟨(dyT x.val).toArray⟩)/\Bw w w':=by
 have h1:=Qfl x.neg x.exp a l c x.ws w h.lie h.lo h.hi hP;rwa[(Q22 h hi).1] at h1
theorem Qkd (n:Int) (w:World) (h0:0<=n) (h1:n<=5000) (hP:Qax w):
 Calls Tryz.prog 37 #[.int .i64 n] w fun r w'=>r=.returned (.string ⟨(dec n.toNat).toArray⟩)/\Bw w w':=by
 refine (Tryz.J0h n (by omega) (by omega) w (hP w (Ud _ _))).mono ?_;rintro e w' ⟨rfl,k,os,rfl⟩;have h2:Lib.itoa n=dec n.toNat:=by unfold Lib.itoa;rw[Uq (by omega)]
 rw[h2];exact ⟨rfl,Lib.below_grow _ _ (Ue _) k os⟩
theorem Q49 {n:Int} (h1:n<=5000):(dec n.toNat).length<=4:=dec_len 4 n.toNat (by omega) (by decide)
theorem Qae (a b:LU):(Q2t a b).length=a.length+b.length+2:=by simp[Q2t];omega
theorem Qx7 (B:Nat) (l t1 t2:LU) (w:World) (hb:Q5s B B l w) (hB:B<=w.heap.size) (hl:l.length+t1.length+t2.length<=100000000):
 Calls Tryz.prog 34 #[.slice (some ⟨w.heap.size,0,none⟩) 2 2,.pointer (some ⟨B,0,none⟩)] (w.alloc (.cells #[.string ⟨t1.toArray⟩,.string ⟨t2.toArray⟩] 9)) fun r w'=>r=.returned (.tuple #[])/\Q5s B B (l++Q2t t1 t2) w'/\Below B w w':=by
 have Q1:Bw w (w.alloc (.cells #[.string ⟨t1.toArray⟩,.string ⟨t2.toArray⟩] 9)):=Ba;have hC:=Q2x.new w [sv t1,sv t2] 9;have hj:Lib.join [t1,t2] [32]=t1++32::t2:=by rw[Lib.join_cons];simp[Lib.joinTail]
 have h:=Qqt B B w.heap.size 2 l [t1,t2] _ (hb.call Q1) (Uj hB Q1.size) (Q0o w _) (fun j x hx=>hC j (sv x) (by
  have:([t1,t2].map sv)[j]?=some (sv x):=by rw[UI,hx];rfl
  exact this)) rfl (by decide) (by rw[hj];simp;omega)
 refine h.mono ?_;rintro r w' ⟨h1,h2,h3⟩;refine ⟨h1,?_,(Q1.mono hB).trans h3⟩;rw[hj] at h2;have:t1++32::t2++[10]=Q2t t1 t2:=by simp[Q2t]
 rwa[this] at h2
theorem Qnu (W:World) (v0 v1 v2:ByteArray):(Instr.buildSlice 39 3 #[(0,.string v0),(1,.string v1),(2,.string v2)]).run Tryz.prog W=.ok (.slice (some ⟨W.heap.size,0,none⟩) 3 3) (W.alloc (.cells #[.string v0,.string v1,.string v2] 9)):=by
 obtain ⟨i0,S2,E2,O1,Y1⟩:=Q0z Q8p;exact run_buildSlice W 39 9 3 _ #[.string v0,.string v1,.string v2] i0 _ Tryz.underlying39 S2 E2 (by rw[O1];decide) (by rw[O1];decide) (by rw[O1];first|kernel_rfl|simp[Instr.fill,Value.cells])
theorem put3 (B g:Nat) (l t1 t2 t3:LU) (w:World) (hb:Q5s B B l w) (hB:B<=w.heap.size) (hg:w.heap[g]?=some (.cells #[.string ⟨t1.toArray⟩,.string ⟨t2.toArray⟩,.string ⟨t3.toArray⟩] 9 (0,0))) (hl:l.length+t1.length+t2.length+t3.length<=100000000):
 Calls Tryz.prog 34 #[.slice (some ⟨g,0,none⟩) 3 3,.pointer (some ⟨B,0,none⟩)] w fun r w'=>r=.returned (.tuple #[])/\Q5s B B (l++Q2t t1 (t2++32::t3)) w'/\Below B w w':=by
 have hj:Lib.join [t1,t2,t3] [32]=t1++32::(t2++32::t3):=by rw[Lib.join_cons];simp[Lib.joinTail]
 have h:=Qqt B B g 3 l [t1,t2,t3] w hb hB (Uo.1 hg).1 (fun j x hx=>by
  rw[UL _ _ _ _ _ _ hg];have h1:([t1,t2,t3].map sv)[j]?=some (sv x):=by rw[UI,hx];rfl
  have h2:(#[Value.string ⟨t1.toArray⟩,.string ⟨t2.toArray⟩,.string ⟨t3.toArray⟩]:Array Value)=([t1,t2,t3].map sv).toArray:=rfl;rw[h2,List.getElem?_toArray];exact h1) rfl (by decide) (by rw[hj];simp;omega)
 rw[hj] at h;have:t1++32::(t2++32::t3)++[10]=Q2t t1 (t2++32::t3):=by simp[Q2t]
 rwa[this] at h
end Go.Proofs.YtidojbkhlenahaaGreatDoor
namespace Go.Proofs.YtidojbkhlenahaaGreatDoor
open Go.RowKit
def Qy0 {α:Type} (F:Fence) (n:Nat) (P:Program) (g:Nat) (lb:Array Value) (encs:α->Array Value) (Ok:List α->α->World->Prop) (Kp:World->World->Prop) (S Sp:List α->Prop) (w:World):Prop:=
 ∀(l:Nat) (J Jx:List α->World->Prop) (W:World),Bw w W->AbidesFrom W.heap.size J->AbidesFrom W.heap.size Jx->
  (∀pre x W1,J pre W1->Ok pre x W1->YieldAt F (n-1) P l (encs x) W1 fun e W'=>
    (e=.returned (.bool true)/\J (pre++[x]) W'/\Kp W1 W')∨(e=.returned (.bool false)/\Jx (pre++[x]) W'))->
  J [] W->
  CallsIn F n P g (#[.func (.yield l) #[] #[]]++lb) W fun e W'=>(∃v,e=.returned v)/\((∃xs,S xs/\J xs W')∨(∃pre,Sp pre/\Jx pre W'))
variable {F:Fence} {n:Nat} {P:Program}
theorem Qfq {α:Type} {g:Operand} {ps:Array Tmp} {assign body:Code} {Q:Exit->Act->World->Prop} {a:Act} {w:World}
 (hro:F.round=none) (h1:1<=n) {gf:Nat} {lb:Array Value} (hg:a.eval g=.func (.func gf) #[] lb) (hFg:F.fn gf) (eg:∀args w,(callFunc gf args).run P w=.ok (.enter gf args) w)
 {encs:α->Array Value} {Ok:List α->α->World->Prop} {Kp:World->World->Prop} {S Sp:List α->Prop} {w0:World} (hseq:Qy0 F (n-1) P gf lb encs Ok Kp S Sp w0)
 (hKt:∀{A B C:World},Kp A B->Kp B C->Kp A C) (Js:∀(W:World) (l:Nat) (o o':Obj),w.heap.size<=l->W.heap[l]?=some o->o.isCells=false->Kp W (W.putObj l o')) (hOk:∀pre x (W:World) (l:Nat) (o o':Obj),Ok pre x W->w.heap.size<=l->W.heap[l]?=some o->o.isCells=false->Ok pre x (W.putObj l o'))
 (Q0:Bw w0 w) (WL:∀x,(encs x).size=ps.size)
 (I:List α->World->Prop) (Ix:Code->List α->World->Prop) (hI:OwnFrom w.heap.size I) (hIx:∀c,OwnFrom w.heap.size (Ix c)) (h0:I [] w) (a₁:α->Act)
 (Wk:∀(l:Nat) (x:α) (W:World) (K:Act->World->Prop),K (a₁ x) W->
   assign.wpIn (F.inRound l) (n-1-1) P (Exit.then K (fun _ _ _=>False)) { tmps:=(ps.zip (encs x)).foldl (fun t (p,v)=>t.setIfInBounds p v) a.tmps,defers:=[] } W)
 (hbody:∀(l:Nat) (pre:List α) (x:α) (W:World),I pre W->Ok pre x W->body.wpIn (F.inRound l) (n-1-1) P (ownPostG w.heap.size Kp I Ix (pre++[x]) W) (a₁ x) W)
 (hdone:∀(D:Nat) (xs:List α) (W:World),w.heap.size<=D->S xs->I xs W->W.heap[D]?=some (.deferred (some []))->Q .normal { a with defers:={ target:=.collected D,args:= #[] }::a.defers } W)
 (hstop:∀(D:Nat) (c:Code) (pre:List α) (W:World),w.heap.size<=D->Sp pre->Ix c pre W->W.heap[D]?=some (.deferred (some []))->c.wpIn F n P Q { a with defers:={ target:=.collected D,args:= #[] }::a.defers } W):
 (Code.rangeFunc g ps assign body).wpIn F n P Q a w:=by
 refine wpIn_rangeFunc fun fn hfn=>?_;rw[hro];obtain ⟨rec,m8⟩:∃rec:LoopState->Option Code->Loop,rec=fun st pe=>{ state:=st,pending:=pe,fn,tmps:=a.tmps,params:=ps,assign,body,defers:=w.heap.size }:=⟨_,rfl⟩;obtain ⟨W1,R1⟩:∃W1,(w.alloc (.deferred (some []))).alloc (.loop (rec .ready none))=W1:=⟨_,rfl⟩;have B5:W1.heap.size=w.heap.size+2:=by rw[<-R1];simp
 have ZS:W1.heap[w.heap.size+1]?=some (.loop (rec .ready none)):=by
  have h:=World.alloc_heap_new (w.alloc (.deferred (some []))) (.loop (rec .ready none));rw[Ur] at h;rw[<-R1];exact h
 have ZX:W1.heap[w.heap.size]?=some (.deferred (some [])):=by
  rw[<-R1];exact (Below.heap_alloc _ _ _ (by simp)).trans (World.alloc_heap_new w _)
 have R8:I [] W1:=by rw[<-R1];exact hI.alloc _ (hI.alloc _ h0)
 have C0:Bw w0 W1:=by
  rw[<-R1];exact Q0.trans ((((Ud _ w).alloc (Ue _) _).alloc (by simp) _).mono Q0.size)
 refine ⟨w.heap.size+1,[{ target:=.collected w.heap.size,args:= #[] }],W1,{ target:=.fn (.func gf) lb,args:= #[.func (.yield (w.heap.size+1)) #[] #[]] },W1,gf,
  #[.func (.yield (w.heap.size+1)) #[] #[]]++lb,W1,?_,?_,?_,?_,fun _=>h1,?_⟩
 ·rw[<-R1,m8];exact run_enterLoop_outer _ _ _ _ _
 ·simp only[resolve,hg];simp[go_sem]
 ·intro f' hf';simp[Target.leads] at hf';subst hf';exact hFg
 ·simp[invoke,go_sem,eg]
 have Je:∀{A:World} {row:Option Nat},(∀r,row=some r->W1.heap.size<=r/\∃o:Obj,A.heap[r]?=some o/\o.isWalk=true)->(∀r,row=some r->w.heap.size<=r/\∃o:Obj,A.heap[r]?=some o/\o.isCells=false):=
  fun hr r e=>by obtain ⟨hB,o,ho,hw⟩:=hr r e;exact ⟨by omega,o,ho,Obj.not_cells_of_walk hw⟩
 refine (hseq (w.heap.size+1)
  (fun pre W=>I pre W/\W.heap[w.heap.size+1]?=some (.loop (rec .ready none))/\W.heap[w.heap.size]?=some (.deferred (some [])))
  (fun pre W=>∃c,Ix c pre W/\W.heap[w.heap.size+1]?=some (.loop (rec .done (some c)))/\W.heap[w.heap.size]?=some (.deferred (some [])))
  W1 C0
  (fun s A B row hs JO hr=>⟨hI s A B row hs.1 JO (Je hr),(grownBy_keeps JO (fun r e=>(hr r e).2) hs.2.1 rfl).trans hs.2.1,(grownBy_keeps JO (fun r e=>(hr r e).2) hs.2.2 rfl).trans hs.2.2⟩)
  (fun s A B row hs JO hr=>by
    obtain ⟨c,hc,hl,hk⟩:=hs;exact ⟨c,hIx c s A B row hc JO (Je hr),(grownBy_keeps JO (fun r e=>(hr r e).2) hl rfl).trans hl,(grownBy_keeps JO (fun r e=>(hr r e).2) hk rfl).trans hk⟩)
  ?round ⟨R8,ZS,ZX⟩).mono ?behind
 case round=>
  rintro pre x W ⟨hi,hl,hk⟩ X1;have F0:w.heap.size+1<W.heap.size:=(Uo.1 hl).1;have hy:=run_yield (P:=P) (args:=encs x) hl (by rw[m8];exact WL x);rw[m8] at hy;refine ⟨fn,_,assign,body,hy,roundIn_of_wpIn hfn (Wk _ x W _ ⟨_,run_beginRound hl (by rw[m8]),?_⟩)⟩;have Z6:(W.putObj (w.heap.size+1) (.loop { rec .ready none with state:=.busy })).heap[w.heap.size+1]?=some (.loop { rec .ready none with state:=.busy }):=World.putObj_heap_same F0;have K6:(W.putObj (w.heap.size+1) (.loop { rec .ready none with state:=.busy })).heap[w.heap.size]?=some (.deferred (some [])):=(World.putObj_heap_other (by omega)).trans hk;have Z4:Kp W (W.putObj (w.heap.size+1) (.loop { rec .ready none with state:=.busy })):=Js _ _ _ _ (by omega) hl rfl;refine wpIn_mono (hbody _ pre x _ (hI.putObj _ hi (by omega) hl rfl) (hOk _ _ _ _ _ _ X1 (by omega) hl rfl)) ?_;have fin:∀(jump:Option Code) (W3:World),KeepsFrom w.heap.size (W.putObj (w.heap.size+1) (.loop { rec .ready none with state:=.busy })) W3->
   (Instr.endRound (w.heap.size+1) jump).run P W3=.ok (.bool jump.isNone) (W3.putObj (w.heap.size+1) (.loop (rec (if jump.isNone then .ready else .done) jump)))/\
   W3.heap[w.heap.size+1]?=some (.loop { rec .ready none with state:=.busy })/\
   (W3.putObj (w.heap.size+1) (.loop (rec (if jump.isNone then .ready else .done) jump))).heap[w.heap.size+1]?=some (.loop (rec (if jump.isNone then .ready else .done) jump))/\
   (W3.putObj (w.heap.size+1) (.loop (rec (if jump.isNone then .ready else .done) jump))).heap[w.heap.size]?=some (.deferred (some [])):=fun jump W3 JF=>by
   have Jo:=JF.same _ _ (by omega) Z6 rfl;have Q3:=run_endRound (P:=P) jump Jo;rw[m8] at Q3⊢;rw[m8] at Jo;exact ⟨Q3,Jo,World.putObj_heap_same (Uo.1 Jo).1,(World.putObj_heap_other (by omega)).trans (JF.same _ _ (Ue _) K6 rfl)⟩
  rintro e a3 W3 hp;cases e with
  |normal=>
   obtain ⟨JF,hkp3,hi3⟩:=hp;obtain ⟨hr,Jo,Jj,ZU⟩:=fin none W3 JF;exact ⟨_,_,hr,.inl ⟨rfl,⟨hI.putObj _ hi3 (by omega) Jo rfl,Jj,ZU⟩,hKt (hKt Z4 hkp3) (Js _ _ _ _ (by omega) Jo rfl)⟩⟩
  |ret=>
   obtain ⟨JF,hi3⟩:=hp;obtain ⟨hr,Jo,Jj,ZU⟩:=fin (some .ret) W3 JF;exact ⟨_,_,hr,.inr ⟨rfl,.ret,(hIx _).putObj _ hi3 (by omega) Jo rfl,Jj,ZU⟩⟩
  |exit id=>
   obtain ⟨JF,hi3⟩:=hp;obtain ⟨hr,Jo,Jj,ZU⟩:=fin (some (.exit id)) W3 JF;exact ⟨_,_,hr,.inr ⟨rfl,.exit id,(hIx _).putObj _ hi3 (by omega) Jo rfl,Jj,ZU⟩⟩
  |goto t=>
   obtain ⟨JF,hi3⟩:=hp;obtain ⟨hr,Jo,Jj,ZU⟩:=fin (some (.goto t)) W3 JF;exact ⟨_,_,hr,.inr ⟨rfl,.goto t,(hIx _).putObj _ hi3 (by omega) Jo rfl,Jj,ZU⟩⟩
  |panic ch=>exact hp.elim
  |outgrown=>exact hp.elim
 case behind=>
  rintro e W2 ⟨⟨v,rfl⟩,(⟨xs,hS,hi,hl,hk⟩|⟨pre,hSp,c,hi,hl,hk⟩)⟩
  ·have Q3:=run_endLoop (P:=P) hl (by rw[m8];simp);rw[m8] at Q3;exact ⟨none,_,Q3,hdone _ xs _ (Ue _) hS (hI.putObj _ hi (by omega) hl rfl) ((World.putObj_heap_other (by omega)).trans hk)⟩
  ·have Q3:=run_endLoop (P:=P) hl (by rw[m8];simp);rw[m8] at Q3;exact ⟨some c,_,Q3,hstop _ c pre _ (Ue _) hSp ((hIx c).putObj _ hi (by omega) hl rfl) ((World.putObj_heap_other (by omega)).trans hk)⟩
section
variable {b:Frame} {a:Act} {k:List Item} {cs:List Frame} {w:World} {Q:Exit->Act->World->Prop}
end
def Q6y (B1 B2:Nat) (W W':World):Prop:=W.heap.size<=W'.heap.size/\∀k,B1<=k->k<B2->W'.heap[k]?=W.heap[k]?
theorem Q6y.refl (B1 B2:Nat) (W:World):Q6y B1 B2 W W:=⟨Ue _,fun _ _ _=>rfl⟩
theorem Q6y.trans {B1 B2:Nat} {A B C:World} (h:Q6y B1 B2 A B) (k:Q6y B1 B2 B C):Q6y B1 B2 A C:=⟨Uj h.1 k.1,fun i h1 h2=>(k.2 i h1 h2).trans (h.2 i h1 h2)⟩
theorem Q6y.turn {B1 B2:Nat} (W:World) (l:Nat) (o':Obj) (hl:B2<=l):Q6y B1 B2 W (W.putObj l o'):=⟨by simp,fun k _ h2=>World.putObj_heap_other (by omega)⟩
theorem Q6y.setCell {B1 B2:Nat} {W0 W:World} (h:Q6y B1 B2 W0 W) {p:Addr} (hp:p.block<B1∨B2<=p.block) (u:Value):Q6y B1 B2 W0 (W.setCell p u):=
 ⟨by simpa[World.setCell] using h.1,fun k h1 h2=>(UX W p u k (by omega)).trans (h.2 k h1 h2)⟩
def Box (U:World) (b:Nat) (v:Value):Prop:=U.cell? ⟨b,0,none⟩=some v/\U.frozen? ⟨b,0,none⟩=false
section
variable {U V:World} {b:Nat} {v:Value}
theorem Box.turned (h:Box U b v) {row:Option Nat} (hg:U.grownBy V row) (hr:∀r,row=some r->∃o:Obj,U.heap[r]?=some o/\o.isCells=false):Box V b v:=⟨cell_kept h.1 hg hr,(frozen_kept h.1 hg hr).trans h.2⟩
theorem Box.call (h:Box U b v) (hb:Bw U V):Box V b v:=by
 have F0:=Uz h.1;exact ⟨(hb.cell (p:=⟨b,0,none⟩) F0).trans h.1,(hb.frozen (p:=⟨b,0,none⟩) F0).trans h.2⟩
theorem Box.new (U:World) (v:Value) (t:TypeId):Box (U.alloc (.cells #[v] t)) U.heap.size v:=⟨by rw[UL _ _ _ _ _ _ (Up _ _)];rfl,Tx _ _ _ _ _ (Up _ _)⟩
theorem Box.alloc (h:Box U b v) (o:Obj):Box (U.alloc o) b v:=h.call (Ba)
theorem Box.set (h:Box U b v) (x:Value):Box (U.setCell ⟨b,0,none⟩ x) b x:=⟨UF _ _ _ (by rw[h.1];rfl),by rw[Us];exact h.2⟩
theorem Box.other (h:Box U b v) {p:Addr} (hp:p.block≠b) (x:Value):Box (U.setCell p x) b v:=⟨(Uf _ _ _ _ (by intro e;rw[e] at hp;exact hp rfl)).trans h.1,by rw[Us];exact h.2⟩
end
open DecM Go.Shelf WordsM
attribute [local go_sem] Oper.semAt_some
theorem Qcp (b:UInt8):∀l:LU,(Lib.indexByte l b= -1/\Qf3 b l=none)∨(∃N:Nat,Lib.indexByte l b=(N:Int)/\Qf3 b l=some (l.take N,l.drop (N+1))/\N<l.length)
 |[]=>.inl ⟨rfl,rfl⟩
 |c::r=>by
  simp only[Qf3,Lib.indexByte]
  by_cases h:c=b
  ·right
   subst h;exact ⟨0,by simp,by simp,by simp⟩
  ·have h1:(c==b)=false:=(by rw[Uk];exact h);rw[h1,Uq h];rcases Qcp b r with ⟨h2,h3⟩|⟨N,h2,h3,h4⟩
   ·left
    rw[h2,h3];exact ⟨rfl,rfl⟩
   ·right
    have h5:(Lib.indexByte r b== -1)=false:=(by rw[Uk];omega);rw[h5,h3];exact ⟨N+1,by simp only[Xaj,Xbs];omega,by simp,by simp;omega⟩
def Qy1 (w:World) (s:ByteArray) (e:Ending) (w':World):Prop:=
 e=.returned (.func (.func 123) #[] #[.pointer (some ⟨w.heap.size,0,none⟩)])/\w'.cell? ⟨w.heap.size,0,none⟩=some (.string s)/\Bw w w'/\w.heap.size<w'.heap.size
theorem Qnv (s:ByteArray) (w:World):Calls Tryz.prog 82 #[.string s] w (Qy1 w s):=by
 have Q0:Bw w (w.alloc (.cells #[.string s] 9)):=Ba;have E4:(w.alloc (.cells #[.string s] 9)).cell? ⟨w.heap.size,0,none⟩=some (.string s):=by rw[UL _ _ _ _ _ _ (Up _ _)];rfl
 go_enter Tryz.func82,Tryz.ntmps82
 go_wp2_with fail
 go_ret;exact ⟨rfl,E4,Q0,by simp⟩
structure LnP where
 at_:Nat
 t:ByteArray
def LnP.encs (r:LnP):Array Value:= #[.int .i64 (r.at_:Int),.string r.t]
def Qoe (pre:List LnP):Nat:=match pre.getLast? with|none=>0|some x=>x.at_+x.t.size+1
theorem Qi7 (pre:List LnP) (x:LnP):Qoe (pre++[x])=x.at_+x.t.size+1:=by unfold Qoe;simp
def Qw9 (s:ByteArray) (pre:List LnP) (r:LnP):Prop:=r.at_=Qoe pre/\r.at_+r.t.size<s.size/\Q97 s.data.toList r.at_=some r.t.data.toList
theorem Qr2 (n:Nat) (E6:1<=n) (l Bx B2:Nat) (s:ByteArray) (hm:s.size<=1000000) (J Jx:List LnP->World->Prop) (W:World)
 (_hJ:AbidesFrom W.heap.size J)
 (hY:∀pre x W1,J pre W1->Qw9 s pre x->YieldAt Fence.wide (n-1) Tryz.prog l (LnP.encs x) W1 fun e W'=>
   (e=.returned (.bool true)/\J (pre++[x]) W'/\Q6y Bx B2 W1 W')∨(e=.returned (.bool false)/\Jx (pre++[x]) W'))
 (A2:W.cell? ⟨Bx,0,none⟩=some (.string s)) (hB:Bx<B2) (_hB2:B2<=W.heap.size) (h0:J [] W):
 CallsIn Fence.wide n Tryz.prog 123 #[.func (.yield l) #[] #[],.pointer (some ⟨Bx,0,none⟩)] W fun e W'=>(∃v,e=.returned v)/\
  ((∃ys,(Q97 s.data.toList (Qoe ys)=none/\Qoe ys<=s.size)/\J ys W')∨(∃pre,True/\Jx pre W')):=by
 refine callsIn_of_wp Tryz.func123 rfl trivial ?_ rfl;simp only[Tryz.ntmps123,List.size_toArray,Ul,UP,Nat.reduceAdd,Nat.reduceSub,Array.replicate_succ,Array.replicate_zero,List.push_toArray,List.append_toArray,Xaa,Xab]
 gi_wp2
 gi_loopw [3] (fun v wr=>∃(p:Nat) (pre:List LnP),v=.int .i64 p/\p<=s.size/\Qoe pre=p/\J pre wr/\Q6y Bx B2 W wr) (fun v _=>s.size-(intOf v).toNat)
 case atStart=>exact ⟨0,[],rfl,Uv _,rfl,h0,Q6y.refl _ _ _⟩
 case round=>
  obtain ⟨p,pre,rfl,hp,Q3,hJs,R0⟩:=hrel;have hc:=(UK (w:=W) (w':=wr) (a:=⟨Bx,0,none⟩) (R0.2 Bx (Ue _) hB)).trans A2;have HE:=Ua Q3;clear A2 h0 Q3;have Kw:(p:Int)<=(s.size:Int):=by omega
  have hD:(s.extract p s.size).data.toList=s.data.toList.drop p:=Lib.extract_to_end s p;have O0:(s.data.toList.drop p).length=s.size-p:=by rw[Th];rfl
  obtain ⟨I,hI⟩:∃I,Lib.indexByte (s.extract p s.size).data.toList (10:Int).toNat.toUInt8=I:=⟨_,rfl⟩;have ZW:Lib.indexByte (s.data.toList.drop p) 10=I:=by rw[<-hI,hD];rfl
  have hci:=Qcp 10 (s.data.toList.drop p);rw[ZW] at hci;rcases hci with ⟨hi,Wu⟩|⟨N,hi,hcut,ZB⟩
  ·subst hi;have C4:Q97 s.data.toList p=none:=(by unfold Q97;rw[Wu];rfl);have HN:=Xh3 C4 hJs R0;clear hD O0 ZW hY hJs R0 Wu C4
   gi_wp2_with fail
   refine ⟨trivial,?_⟩;refine (callsIn_wide.2 (Tryz.Qzq (s.extract p s.size) 10 wr)).mono ?_;rintro e w2 ⟨rfl,rfl⟩;rw[hI]
   gi_wp2_with fail
   refine ⟨(by intro f h;cases h),?_⟩
   gi_wp2_with fail
   exact ⟨rfl,_,by simp[results,go_sem];rfl,⟨_,rfl⟩,.inl ⟨pre,⟨by rw[HE.out];exact (Xo0 HN),by rw[HE.out];exact hp⟩,(Xo1 HN)⟩⟩
  ·subst hi;have hNs:p+N<s.size:=(by omega);have F2:(s.extract p (p+N)).size=N:=(by rw[ByteArray.size_extract];omega);have X1:Qw9 s pre ⟨p,s.extract p (p+N)⟩:=⟨HE.out.symm,by rw[F2];exact hNs,by
    show Q97 s.data.toList p=some (s.extract p (p+N)).data.toList
    unfold Q97;rw[hcut,Lib.extract_data]
    show some (List.take N _)=some _
    congr 2;omega⟩
   obtain ⟨fn,tmps,assign,body,hy,hR⟩:=hY pre ⟨p,s.extract p (p+N)⟩ wr hJs X1;simp only[LnP.encs] at hy;have HP:=Xh2 hNs F2;have Zo:=Ua R0;obtain ⟨M,hM⟩:∃M,p+N=M:=⟨_,rfl⟩;have hpM:(p:Int)+(N:Int)=(M:Int):=(by omega);have hpM1:(p:Int)<=(M:Int):=(by omega);have hpM2:(M:Int)<=(s.size:Int):=(by omega);have Qt:¬((N:Int)<0):=(by omega);rw[hM] at hy HP hR;have hM2:(p:Int)+((N:Int)+1)=((M+1:Nat):Int):=(by omega);have HM2:=Ua hM;clear hD O0 ZW hY hJs R0 hcut F2 X1 ZB hNs hM
   gi_wp2_with fail
   refine ⟨trivial,?_⟩;refine (callsIn_wide.2 (Tryz.Qzq (s.extract p s.size) 10 wr)).mono ?_;rintro e w2 ⟨rfl,rfl⟩;rw[hI]
   gi_wp2_with fail
   refine hR.mono ?_;rintro e W3 (⟨rfl,hJ3,JF⟩|⟨rfl,hJx3⟩)
   ·gi_wp2
    go_roundw
    case rel=>exact ⟨M+1,pre++[⟨p,s.extract p M⟩],by go_num,(Xo0 HP),by rw[Qi7];show p+(s.extract p M).size+1=_;rw[(Xe1 HP),HM2.out],hJ3,Zo.out.trans JF⟩
    case measure=>
     have q1:=(Xo0 HP);have q2:=HM2.out;simp[intOf];omega
   ·gi_wp2
    exact ⟨rfl,_,by simp[results,go_sem];rfl,⟨_,rfl⟩,.inr ⟨_,trivial,hJx3⟩⟩
theorem Qi8 (n:Nat) (E6:1<=n) (Bx:Nat) (s:ByteArray) (hm:s.size<=1000000) (w:World)
 (A2:w.cell? ⟨Bx,0,none⟩=some (.string s)) (hB:Bx<w.heap.size):
 Qy0 Fence.wide n Tryz.prog 123 #[.pointer (some ⟨Bx,0,none⟩)] LnP.encs (fun pre x _=>Qw9 s pre x) (Q6y Bx w.heap.size) (fun ys=>Q97 s.data.toList (Qoe ys)=none/\Qoe ys<=s.size) (fun _=>True) w:=
 fun l J Jx W hW hJ _ hY h0=>Qr2 n E6 l Bx w.heap.size s hm J Jx W hJ hY ((hW.cell (p:=⟨Bx,0,none⟩) hB).trans A2) hB hW.size h0
end Go.Proofs.YtidojbkhlenahaaGreatDoor
namespace Go.Proofs.YtidojbkhlenahaaGreatDoor
open Go.RowKit WordsM DecM
theorem Qfr (w l:LU):Q6n w l=if Lib.hasPrefix l (w++[32])=true then some (Lib.trimPrefix l (w++[32])) else none:=by
 unfold Q6n Lib.trimPrefix Lib.hasPrefix
 by_cases h:(w++[32]).isPrefixOf l=true
 ·rw[Uu h,Uu h,Uu h];simp
 ·rw[Uq h,Uq h]
def Qr3:LU:=[48,49,50,51,52,53,54,55,56,57]
theorem Qfs:∀c:UInt8,Qr3.contains c=true↔48<=c.toNat/\c.toNat<=57:=by
 intro c;have h:Qr3.contains c=true↔c∈Qr3:=by simp
 rw[h];unfold Qr3;simp only[UD,TK,Xbm,<-Xa7];simp only[UInt8.reduceToNat];omega
theorem Qcq:∀l:LU,digN l=l.length↔∀c∈l,48<=c.toNat/\c.toNat<=57
 |[]=>by simp[digN]
 |c::r=>by
  have ih:=Qcq r;have x5:=Qew r;simp only[digN,Ul,UD,forall_eq_or_imp]
  by_cases h:48<=c.toNat/\c.toNat<=57
  ·rw[Uu h]
   constructor
   ·intro e;exact ⟨h,ih.1 (by omega)⟩
   ·intro e;rw[ih.2 e.2]
  ·rw[Uq h]
   constructor
   ·intro e;omega
   ·intro e;exact absurd e.1 h
theorem Qbg {p:UInt8->Bool}:∀l:LU,l.dropWhile p=[]↔∀c∈l,p c=true
 |[]=>by simp
 |c::r=>by
  rw[List.dropWhile_cons]
  by_cases h:p c=true
  ·rw[Uu h,Qbg r];simp[h]
  ·rw[Uq h];simp[h]
theorem Qke (t:LU):Lib.trimS t Qr3=[]↔digN t=t.length:=by
 unfold Lib.trimS Lib.trimRightS Lib.trimLeftS;rw[Qbg,Qcq]
 constructor
 ·intro h;have h1:t.reverse.dropWhile (fun x=>Qr3.contains x)=[]:=by
   cases hd:t.reverse.dropWhile (fun x=>Qr3.contains x) with
   |nil=>rfl
   |cons x r=>
    have h2:=List.head?_dropWhile_not (fun x=>Qr3.contains x) t.reverse;rw[hd] at h2;have h3:=h x (by rw[hd];simp);simp only[List.head?_cons] at h2;rw[h3] at h2;cases h2
  exact fun c hc=>(Qfs c).1 ((Qbg t.reverse).1 h1 c (List.mem_reverse.2 hc))
 ·intro h c hc;have h2:t.reverse.dropWhile (fun x=>Qr3.contains x)=[]:=(Qbg _).2 fun x hx=>(Qfs x).2 (h x (List.mem_reverse.1 hx));rw[h2] at hc;simp at hc
theorem Qlw:∀(l:LU) (a:Nat),(∀c∈l,48<=c.toNat/\c.toNat<=57)->Lib.decFrom a l=some (l.foldl (fun a b=>10*a+(b.toNat-48)) a)
 |[],a,_=>rfl
 |c::r,a,h=>by
  have h1:=h c (TY ..);rw[Lib.decFrom,Lib.digitVal,Uu h1,List.foldl_cons]
  show Lib.decFrom (a*10+(c.toNat-48)) r=_
  rw[Qlw r _ fun x hx=>h x (Xai _ hx),UB]
theorem Qnw {t:LU} {n:Nat} (h:Q37 t=some n):Lib.atoi t=some (n:Int):=by
 unfold Q37 at h
 split at h
 ·rename_i hc;injection h with h;obtain ⟨h1,h2,h3,h4⟩:=hc;have hd:=(Qcq t).1 h4;cases t with
  |nil=>simp at h1
  |cons c r=>
   have hc:=hd c (TY ..);have e1:(c==45)=false:=(by rw[Uk];intro e;subst e;exact absurd hc.1 (by decide));have e2:(c==43)=false:=(by rw[Uk];intro e;subst e;exact absurd hc.1 (by decide));rw[Lib.atoi,e1,e2];simp only[Xaj,Xbs];rw[Lib.decNat,show (c::r).isEmpty=false from rfl];simp only[Xaj,Xbs];rw[Qlw _ _ hd,<-h];rfl
 ·cases h
def Q68 (w:World) (g o:Nat) (X:Option Nat) (r:Ending) (w':World):Prop:=match X with
 |none=>r=.returned (.bool false)/\Bw w w'
 |some n=>r=.returned (.bool true)/\∃w1,Bw w w1/\w'=w1.setCell ⟨g,o,none⟩ (.int .i64 (n:Int))
theorem Q68.no {w:World} {g o:Nat} {X:Option Nat} {w':World} (h:X=none) (hb:Bw w w'):Q68 w g o X (.returned (.bool false)) w':=by subst h;exact ⟨rfl,hb⟩
theorem Q68.yes {w w1:World} {g o n:Nat} {X:Option Nat} (h:X=some n) (hb:Bw w w1):Q68 w g o X (.returned (.bool true)) (w1.setCell ⟨g,o,none⟩ (.int .i64 (n:Int))):=by subst h;exact ⟨rfl,w1,hb,rfl⟩
theorem Qnx:∀(j:Nat) (b:UInt8),(⟨#[48,49,50,51,52,53,54,55,56,57]⟩:ByteArray).data.toList[j]?=some b->b.toNat<128:=by
 intro j b h;have h1:b∈Qr3:=Ug h;have h2:=(Qfs b).1 (by simpa using h1);omega
theorem Qny (s:ByteArray) (wd:LU) (g o:Nat) (v0:Value) (w:World) (hs:s.size<=1000000) (hw:wd.length<=100) (hc:w.cell? ⟨g,o,none⟩=some v0) (hf:w.frozen? ⟨g,o,none⟩=false):
 Calls Tryz.prog 125 #[.string s,.string ⟨wd.toArray⟩,.pointer (some ⟨g,o,none⟩)] w (Q68 w g o ((Q6n wd s.data.toList).bind Q37)):=by
 have hg:=Uz hc;obtain ⟨p,hp⟩:∃p:ByteArray,(⟨wd.toArray⟩:ByteArray)++⟨#[32]⟩=p:=⟨_,rfl⟩;have x7:p.data.toList=wd++[32]:=by rw[<-hp,UM];simp
 have hcat:¬9223372036854775807<wd.length+1:=by omega
 have JH:=Tryz.Qzt s p w;rw[x7] at JH;have hr:=Qfr wd s.data.toList;obtain ⟨t,ht⟩:∃t,Lib.trimPrefix s.data.toList (wd++[32])=t:=⟨_,rfl⟩;obtain ⟨b,hb⟩:∃b,Lib.hasPrefix s.data.toList (wd++[32])=b:=⟨_,rfl⟩;have J6:t.length<=1000000:=by
  rw[<-ht];unfold Lib.trimPrefix;have:s.data.toList.length=s.size:=(Lib.size_eq s).symm
  split
  ·rw[Th];omega
  ·omega
 rw[ht,hb] at JH;rw[ht,hb] at hr;rw[hr];have HC:=Xh3 JH hc hf;clear hr JH x7 ht hb hc hf;cases b
 case false=>
  go_enter Tryz.func125,Tryz.ntmps125
  go_wp2_with (go_at_call 173;first|rw[hp]|skip;refine (Xo0 HC).mono ?_;rintro e w1 ⟨rfl,rfl⟩)
  go_ret;exact Q68.no rfl (Ud _ _)
 cases t with
 |nil=>
  go_enter Tryz.func125,Tryz.ntmps125
  go_wp2_with (go_at_call 173;first|rw[hp]|skip;refine (Xo0 HC).mono ?_;rintro e w1 ⟨rfl,rfl⟩)
  go_ret;exact Q68.no (by decide) (Ud _ _)
 |cons c r=>
 have C6:¬((r.length:Int)+1<1):=by omega
 by_cases h4:r.length+1<=4
 case neg=>
  have Jj:(4:Int)<(r.length:Int)+1:=by omega
  have HX:=Ua (show Q37 (c::r)=none by unfold Q37;rw[Uq];intro h;have:=h.2.1;rw[Ul] at this;omega)
  go_enter Tryz.func125,Tryz.ntmps125
  go_wp2_with (go_at_call 173;first|rw[hp]|skip;refine (Xo0 HC).mono ?_;rintro e w1 ⟨rfl,rfl⟩)
  go_ret;exact Q68.no (by show Q37 (c::r)=none;exact HX.out) (Ud _ _)
 have Jj:¬((4:Int)<(r.length:Int)+1):=by omega
 by_cases h0:c=48
 case pos=>
  subst h0;have HX:=Ua (show Q37 ((48:UInt8)::r)=none by unfold Q37;rw[Uq];intro h;exact h.2.2.1 rfl)
  go_enter Tryz.func125,Tryz.ntmps125
  go_wp2_with (go_at_call 173;first|rw[hp]|skip;refine (Xo0 HC).mono ?_;rintro e w1 ⟨rfl,rfl⟩)
  go_ret;exact Q68.no (by show Q37 ((48:UInt8)::r)=none;exact HX.out) (Ud _ _)
 have hc48:((c.toNat:Int)==48)=false:=by
  rw[Uk];intro e;exact h0 (Xa7.1 (by show c.toNat=48;omega))
 have hc49:¬((((⟨(c::r).toArray⟩:ByteArray)[0]'(by show 0<(c::r).length;rw[Ul];omega)).toNat:Int)=48):=by
  show¬((c.toNat:Int)=48)
  intro e;exact h0 (Xa7.1 (by show c.toNat=48;omega))
 have Qo:=fun W=>Any.strings_Trim_laid Tryz.Qzk (by kernel_rfl) ⟨(c::r).toArray⟩ ⟨#[48,49,50,51,52,53,54,55,56,57]⟩ W (by show (c::r).length<=_;rw[Ul];omega) (by decide) Qnx;obtain ⟨Z,hZ⟩:∃Z,Lib.trimS (c::r) Qr3=Z:=⟨_,rfl⟩;have htr2:∀W,Calls Tryz.prog 174 #[.string ⟨(c::r).toArray⟩,.string ⟨#[48,49,50,51,52,53,54,55,56,57]⟩] W fun e w'=>e=.returned (.string ⟨Z.toArray⟩)/\Bw W w':=fun W=>by rw[<-hZ];exact Qo W
 have hz:=Qke (c::r);rw[hZ] at hz;have HT:=Ua htr2;clear Qo htr2 hZ;cases Z with
 |cons y ys=>
  have HX:=Ua (show Q37 (c::r)=none by unfold Q37;rw[Uq];intro h;exact absurd (hz.2 h.2.2.2) (by simp));clear hz
  go_enter Tryz.func125,Tryz.ntmps125
  go_wp2_with (first
   |(go_at_call 173;first|rw[hp]|skip;refine (Xo0 HC).mono ?_;rintro e w1 ⟨rfl,rfl⟩)
   |(go_at_call 174;refine (HT.out _).mono ?_;rintro e w2 ⟨rfl,D0⟩;have H2:=Ua D0;clear D0))
  go_ret;exact Q68.no (by show Q37 (c::r)=none;exact HX.out) H2.out
 |nil=>
  have E3:Q37 (c::r)=some (dv (c::r)):=by unfold Q37;rw[Uu ⟨by rw[Ul];omega,by rw[Ul];omega,h0,hz.1 rfl⟩]
  have J2:=fun W=>Tryz.J00 ⟨(c::r).toArray⟩ (dv (c::r)) (by show (c::r).length<=_;rw[Ul];omega) (Qnw E3) W;obtain ⟨n,hn⟩:∃n,dv (c::r)=n:=⟨_,rfl⟩;rw[hn] at E3;simp only[hn] at J2;have HX:=Xh2 E3 J2;have HG:=Ua hg;clear hz E3 J2 hn hg
  go_enter Tryz.func125,Tryz.ntmps125
  go_wp2_with (first
   |(go_at_call 173;first|rw[hp]|skip;refine (Xo0 HC).mono ?_;rintro e w1 ⟨rfl,rfl⟩)
   |(go_at_call 174;refine (HT.out _).mono ?_;rintro e w2 ⟨rfl,D0⟩;have H2:=Ua D0;clear D0)
   |(go_at_call 175;refine ((Xe1 HX) _).mono ?_;rintro e w3 ⟨rfl,tt,Zp⟩
     have M0:Bw w2 w3:=(by rw[Zp];exact Lib.bytesWorld_below _ _ _);have Wt:=Below.next0 H2.out M0;have x0:=(Wt.cell (p:=⟨g,o,none⟩) HG.out).trans (Xo1 HC);have f0:=(Wt.frozen (p:=⟨g,o,none⟩) HG.out).trans (Xe2 HC);have H3:=Ua Wt;clear M0 Wt Zp))
  ·exfalso;rename_i hx;rcases hx with hx|hx
   ·omega
   ·exact hc49 (beq_iff_eq.1 hx)
  go_ret;exact Q68.yes (by show Q37 (c::r)=some n;exact (Xo0 HX)) H3.out
def Q35 (w:World) (g o:Nat) (n:Bool) (e:Int) (v:Value):World:=((w.setCell ⟨g,o,none⟩ (.bool n)).setCell ⟨g,o+1,none⟩ (.int .i64 e)).setCell ⟨g,o+2,none⟩ v
def Qyx (w:World) (R:Nat) (p:Nat) (g o:Nat) (ov:Int) (S:LU) (r:Ending) (w':World):Prop:=
 ∃n e a l c L er w1,r=.returned (.bool (er != 5))/\Q1v S n e L er/\Bw w w1/\WordsIn w1 a l c L/\
  w'=Q35 (if er=2/\ov<0 then w1.setCell ⟨R,14,none⟩ (.int .i64 (p:Int)) else w1) g o n e (.slice a l c)
structure Q36 (w:World) (g o:Nat):Prop where
 c0:∃v,w.cell? ⟨g,o,none⟩=some v
 c1:∃v,w.cell? ⟨g,o+1,none⟩=some v
 c2:∃v,w.cell? ⟨g,o+2,none⟩=some v
 f0:w.frozen? ⟨g,o,none⟩=false
 f1:w.frozen? ⟨g,o+1,none⟩=false
 f2:w.frozen? ⟨g,o+2,none⟩=false
theorem Q36.lt {w:World} {g o:Nat} (h:Q36 w g o):g<w.heap.size:=by obtain ⟨v,hv⟩:=h.c0;exact Uz hv
theorem Q36.step {w w':World} {g o B:Nat} (h:Q36 w g o) (hb:Below B w w') (hB:g<B):Q36 w' g o:=by
 obtain ⟨v0,h0⟩:=h.c0;obtain ⟨v1,h1⟩:=h.c1;obtain ⟨v2,h2⟩:=h.c2;exact ⟨⟨v0,(hb.cell (p:=⟨g,o,none⟩) hB).trans h0⟩,⟨v1,(hb.cell (p:=⟨g,o+1,none⟩) hB).trans h1⟩,⟨v2,(hb.cell (p:=⟨g,o+2,none⟩) hB).trans h2⟩,(hb.frozen (p:=⟨g,o,none⟩) hB).trans h.f0,(hb.frozen (p:=⟨g,o+1,none⟩) hB).trans h.f1,(hb.frozen (p:=⟨g,o+2,none⟩) hB).trans h.f2⟩
theorem Q36.set {w:World} {g o R i:Nat} (h:Q36 w g o) (C1:R≠g∨o+2<i) (v:Value):Q36 (w.setCell ⟨R,i,none⟩ v) g o:=by
 obtain ⟨v0,h0⟩:=h.c0;obtain ⟨v1,h1⟩:=h.c1;obtain ⟨v2,h2⟩:=h.c2;have hd:∀k,k<=o+2->(⟨g,k,none⟩:Addr)≠⟨R,i,none⟩:=fun k hk e=>by injection e with e1 e2;omega
 refine ⟨⟨v0,(Uf _ _ _ _ ?_).trans h0⟩,⟨v1,(Uf _ _ _ _ ?_).trans h1⟩,⟨v2,(Uf _ _ _ _ ?_).trans h2⟩,by rw[Us];exact h.f0,by rw[Us];exact h.f1,by rw[Us];exact h.f2⟩
 all_goals first|exact hd _ (by omega)|exact (hd _ (by omega)).symm
theorem Q36.stores {w:World} {g o:Nat} (h:Q36 w g o) (n:Bool) (e:Int):(∃v,w.cell? ⟨g,o,none⟩=some v)/\(∃v,(w.setCell ⟨g,o,none⟩ (.bool n)).cell? ⟨g,o+1,none⟩=some v)/\(∃v,((w.setCell ⟨g,o,none⟩ (.bool n)).setCell ⟨g,o+1,none⟩ (.int .i64 e)).cell? ⟨g,o+2,none⟩=some v):=by
 obtain ⟨v1,h1⟩:=h.c1;obtain ⟨v2,h2⟩:=h.c2;exact ⟨h.c0,⟨v1,(Uf _ _ _ _ (by simp)).trans h1⟩,⟨v2,(Uf _ _ _ _ (by simp)).trans ((Uf _ _ _ _ (by simp)).trans h2)⟩⟩
theorem Q5k (R p g o:Nat) (ov:Int) (s:ByteArray) (w:World) (hs:s.size<=1000000) (hT:Q3r w) (hR:w.cell? ⟨R,14,none⟩=some (.int .i64 ov)) (hf:w.frozen? ⟨R,14,none⟩=false) (hN:Q36 w g o) (C1:R≠g∨o+2<14):
 Calls Tryz.prog 176 #[.pointer (some ⟨R,0,none⟩),.int .i64 (p:Int),.string s,.pointer (some ⟨g,o,none⟩)] w (Qyx w R p g o ov s.data.toList):=by
 have hlR:=Uz hR;have hp:=Qqh s w (by omega) hT;have HP:=Xh6 hp hR hf hN hlR hN.lt;clear hp hR hf hN hlR hT
 go_enter Tryz.func176,Tryz.ntmps176
 go_upto_region 2 with (go_at_call 235;refine (Xo0 HP).mono ?_;rintro r w1 ⟨n,e,a,l,c,L,er,rfl,E8,Je,hb⟩;have H1:=Xh3 E8 Je hb;clear E8 Je hb)
 have Q1:Bw w1 (w1.alloc (.cells #[.bool n,.int .i64 e,.slice a l c] 26)):=Ba;have A2:=Q03.new w1 (.bool n) (.int .i64 e) (.slice a l c) 26;have F0:=Q0o w1 (.cells #[.bool n,.int .i64 e,.slice a l c] 26);have C0:=Below.next0 (Xe2 H1) Q1;have m7:=(C0.cell (p:=⟨R,14,none⟩) (Xo4 HP)).trans (Xo1 HP);have j3:=(C0.frozen (p:=⟨R,14,none⟩) (Xo4 HP)).trans (Xo2 HP);have K2:=(Xo3 HP).step C0 (Xe5 HP);have Kh:=(Xo1 H1).step Q1;obtain ⟨z0,z1,z2⟩:=A2.cc;have hRb:R≠w1.heap.size:=by have:=(Xo4 HP);have:=(Xe2 H1).size;omega
 generalize w1.alloc (.cells #[.bool n,.int .i64 e,.slice a l c] 26)=W1 at*
 by_cases h2:er=2/\ov<0
 ·obtain ⟨rfl,hov⟩:=h2;have hM:=K2.set C1 (.int .i64 (p:Int));obtain ⟨⟨s0,q0⟩,⟨s1,q1⟩,⟨s2,q2⟩⟩:=hM.stores n e;have g0:=hM.f0;have g1:=hM.f1;have g2:=hM.f2;have d:∀i,(W1.setCell ⟨R,14,none⟩ (.int .i64 (p:Int))).cell? ⟨w1.heap.size,i,none⟩=W1.cell? ⟨w1.heap.size,i,none⟩:=fun i=>Uf _ _ _ _ (by intro e;injection e with e1 e2;exact hRb e1);have y0:=(d 0).trans z0;have y1:=(d 1).trans z1;have y2:=(d 2).trans z2;have HX:=Xh2 Kh C0;clear hM d Kh C0 Q1 K2 A2
  go_wp2_with fail
  go_ret;exact ⟨n,e,a,l,c,L,2,W1,rfl,(Xo0 H1),(Xe1 HX),(Xo0 HX),by rw[Uu ⟨rfl,hov⟩];rfl⟩
 ·obtain ⟨⟨s0,q0⟩,⟨s1,q1⟩,⟨s2,q2⟩⟩:=K2.stores n e;have g0:=K2.f0;have g1:=K2.f1;have g2:=K2.f2;have HX:=Xh3 Kh C0 h2
  by_cases he:er=2
  ·have hov:¬ov<0:=fun h=>h2 ⟨he,h⟩;subst he;clear Kh C0 Q1 K2 A2 h2
   go_wp2_with fail
   go_ret;exact ⟨n,e,a,l,c,L,2,W1,rfl,(Xo0 H1),(Xo1 HX),(Xo0 HX),by rw[Uq (fun h=>by have:=h.2;omega)];rfl⟩
  ·have Wl:(er==2)=false:=(by rw[Uk];exact he);clear Kh C0 Q1 K2 A2 h2
   go_wp2_with fail
   go_ret;exact ⟨n,e,a,l,c,L,er,W1,by simp[go_sem],(Xo0 H1),(Xo1 HX),(Xo0 HX),by rw[Uq (Xe2 HX)];rfl⟩
def Qr4 (w:World) (R p g o:Nat) (ov:Int) (X:Option (LU)) (r:Ending) (w':World):Prop:=match X with
 |none=>r=.returned (.bool false)/\w'=w
 |some t=>Qyx w R p g o ov t r w'
theorem Qkf (R p g o:Nat) (ov:Int) (s:ByteArray) (wd:LU) (w:World) (hs:s.size<=1000000) (hw:wd.length<=100) (hT:Q3r w) (hR:w.cell? ⟨R,14,none⟩=some (.int .i64 ov)) (hf:w.frozen? ⟨R,14,none⟩=false) (hN:Q36 w g o) (C1:R≠g∨o+2<14):
 Calls Tryz.prog 126 #[.pointer (some ⟨R,0,none⟩),.int .i64 (p:Int),.string s,.string ⟨wd.toArray⟩,.pointer (some ⟨g,o,none⟩)] w (Qr4 w R p g o ov (Q6n wd s.data.toList)):=by
 obtain ⟨q,hp⟩:∃q:ByteArray,(⟨wd.toArray⟩:ByteArray)++⟨#[32]⟩=q:=⟨_,rfl⟩;have x7:q.data.toList=wd++[32]:=by rw[<-hp,UM];simp
 have hcat:¬9223372036854775807<wd.length+1:=by omega
 have JH:=Tryz.Qzt s q w;rw[x7] at JH;have hr:=Qfr wd s.data.toList;obtain ⟨t,ht⟩:∃t,Lib.trimPrefix s.data.toList (wd++[32])=t:=⟨_,rfl⟩;obtain ⟨b,hb⟩:∃b,Lib.hasPrefix s.data.toList (wd++[32])=b:=⟨_,rfl⟩;have J6:t.length<=1000000:=by
  rw[<-ht];unfold Lib.trimPrefix;have:s.data.toList.length=s.size:=(Lib.size_eq s).symm
  split
  ·rw[Th];omega
  ·omega
 rw[ht,hb] at JH;rw[ht,hb] at hr;rw[hr];have hnu:=Q5k R p g o ov ⟨t.toArray⟩ w J6 hT hR hf hN C1;have HC:=Xh2 JH hnu;clear hr JH x7 ht hb hnu hT hR hf hN C1 J6;cases b
 ·go_enter Tryz.func126,Tryz.ntmps126
  go_wp2_with (go_at_call 173;first|rw[hp]|skip;refine (Xo0 HC).mono ?_;rintro e w1 ⟨rfl,rfl⟩)
  go_ret;exact ⟨rfl,rfl⟩
 ·go_enter Tryz.func126,Tryz.ntmps126
  go_wp2_with (first
   |(go_at_call 173;first|rw[hp]|skip;refine (Xo0 HC).mono ?_;rintro e w1 ⟨rfl,rfl⟩)
   |(go_at_call 176;refine (Xe1 HC).mono ?_;rintro e w2 ⟨n,x,a,l,c,L,er,w3,rfl,M6⟩;have H2:=Ua M6;clear M6))
  go_ret;exact ⟨n,x,a,l,c,L,er,w3,rfl,H2.out⟩
def Qwa (s:ByteArray) (e:Ending):Prop:=match Qf3 32 s.data.toList with
 |none=>e=.returned (.tuple #[.string s,.string ⟨#[]⟩,.bool false])
 |some p=>e=.returned (.tuple #[.string ⟨p.1.toArray⟩,.string ⟨p.2.toArray⟩,.bool true])
theorem Qlx (s:ByteArray) (a b:Nat) (l:LU) (h:(s.data.toList.drop a).take (b-a)=l):s.extract a b=⟨l.toArray⟩:=by
 apply ByteArray.ext
 apply Array.ext'
 rw[Lib.extract_data,h]
theorem Qr5 (s:ByteArray) (w:World) (hs:s.size<=1000000):Calls Tryz.prog 236 #[.string s,.string ⟨#[32]⟩] w fun e w'=>Qwa s e/\Bw w w':=by
 have hix:=Tryz.J0w s 32 w;have hci:=Qcp 32 s.data.toList;have QX:s.data.toList.length=s.size:=(Lib.size_eq s).symm;obtain ⟨I,hI⟩:∃I,Lib.indexByte s.data.toList 32=I:=⟨_,rfl⟩;rw[hI] at hix hci;have HI:=Ua hix;clear hix hI;rcases hci with ⟨rfl,hn⟩|⟨N,rfl,hn,hN⟩
 ·have HN:=Ua hn;clear hn
  go_enter Tryz.func236,Tryz.ntmps236
  go_wp2_with (go_at_call 237;refine HI.out.mono ?_;rintro e w1 ⟨rfl,rfl⟩)
  refine ⟨rfl,.tuple #[.string s,.string ⟨#[]⟩,.bool false],by simp[results,go_sem],?_,Ud _ _⟩;unfold Qwa;rw[HN.out]
 ·have h1:(N:Int)<=(s.size:Int):=by omega
  have h2:(N:Int)+1<=(s.size:Int):=by omega
  have e1:=Qlx s 0 N (s.data.toList.take N) (by simp);have e2:=Qlx s (N+1) s.size (s.data.toList.drop (N+1)) (by rw[Uw];rw[Th];omega);have HN:=Xh3 hn e1 e2;clear hn QX e1 e2
  go_enter Tryz.func236,Tryz.ntmps236
  go_upto_region 3 with (go_at_call 237;refine HI.out.mono ?_;rintro e w1 ⟨rfl,rfl⟩)
  go_quiet (fail)
  go_wp2_with fail
  refine ⟨rfl,.tuple #[.string (s.extract 0 N),.string (s.extract (N+1) s.size),.bool true],by simp[results,go_sem],?_,Q52 (Ud _ _) _⟩;unfold Qwa;rw[(Xo0 HN),(Xo1 HN),(Xe2 HN)]
theorem Qtw (s:ByteArray) (w:World) (hs:s.size<=1000000):Calls Tryz.prog 177 #[.string s,.string ⟨#[32]⟩] w fun e w'=>Qwa s e/\Bw w w':=by
 have h:=Qr5 s w hs;unfold Qwa at h⊢;cases hc:Qf3 32 s.data.toList with
 |none=>
  rw[hc] at h;have H:=Ua h;clear h hc
  go_enter Tryz.func177,Tryz.ntmps177
  go_wp2_with (go_at_call 236;refine H.out.mono ?_;rintro e w1 ⟨rfl,hb⟩)
  exact ⟨rfl,.tuple #[.string s,.string ⟨#[]⟩,.bool false],by simp[results,go_sem],rfl,hb⟩
 |some p=>
  rw[hc] at h;have H:=Ua h;clear h hc
  go_enter Tryz.func177,Tryz.ntmps177
  go_wp2_with (go_at_call 236;refine H.out.mono ?_;rintro e w1 ⟨rfl,hb⟩)
  exact ⟨rfl,.tuple #[.string ⟨p.1.toArray⟩,.string ⟨p.2.toArray⟩,.bool true],by simp[results,go_sem],rfl,hb⟩
structure Blk (w:World) (b:Nat) (vs:LV):Prop where
 c:Q2x w b vs
 f:∀i,i<vs.length->w.frozen? ⟨b,i,none⟩=false
 e:∀i,vs.length<=i->w.cell? ⟨b,i,none⟩=none
theorem Blk.new (w:World) (vs:LV) (T:TypeId):Blk (w.alloc (.cells vs.toArray T)) w.heap.size vs:=
 ⟨Q2x.new w vs T,fun _ _=>Tx _ _ _ _ _ (Up _ _),fun i hi=>by rw[UL _ _ _ _ _ _ (Up _ _)];simpa using hi⟩
theorem Blk.same {w w':World} {b:Nat} {vs:LV} (h:Blk w b vs) (hb:w'.heap[b]?=w.heap[b]?):Blk w' b vs:=
 ⟨fun i v hi=>(UK (w:=w) (w':=w') (a:=⟨b,i,none⟩) hb).trans (h.c i v hi),fun i hi=>(Xak (w:=w) (w':=w') (a:=⟨b,i,none⟩) hb).trans (h.f i hi),fun i hi=>(UK (w:=w) (w':=w') (a:=⟨b,i,none⟩) hb).trans (h.e i hi)⟩
theorem Blk.step {w w':World} {b B:Nat} {vs:LV} (h:Blk w b vs) (hb:Below B w w') (hB:b<B):Blk w' b vs:=h.same (hb.block b hB)
theorem Blk.set {w:World} {b i:Nat} {vs:LV} (h:Blk w b vs) (hi:i<vs.length) (v:Value):Blk (w.setCell ⟨b,i,none⟩ v) b (vs.set i v):=by
 refine ⟨fun j u hj=>?_,fun j hj=>by rw[Us];exact h.f j (by simpa using hj),fun j hj=>by
  rw[Ti] at hj;exact (Uf _ _ _ _ (by intro e;injection e with e1 e2;omega)).trans (h.e j hj)⟩
 by_cases hji:j=i
 ·subst hji;rw[TI hi] at hj;injection hj with hj;subst hj;exact UF _ _ _ (by rw[h.c j _ (Ub hi)];rfl)
 ·rw[Te (by omega)] at hj;exact (Uf _ _ _ _ (by intro e;injection e with e1 e2;first|exact hji e2|exact hji e2.symm)).trans (h.c j u hj)
theorem Blk.far {w:World} {b g i:Nat} {vs:LV} (h:Blk w b vs) (C1:g≠b) (v:Value):Blk (w.setCell ⟨g,i,none⟩ v) b vs:=
 h.same (UX _ _ _ _ (by show b≠g;omega))
theorem Blk.lt {w:World} {b:Nat} {v:Value} {vs:LV} (h:Blk w b (v::vs)):b<w.heap.size:=Uz (h.c 0 v rfl)
theorem Blk.num {w:World} {b i:Nat} {vs:LV} (h:Blk w b vs) (hi:i+2<vs.length):Q36 w b i:=
 ⟨⟨_,h.c i _ (Ub (by omega))⟩,⟨_,h.c (i+1) _ (Ub (by omega))⟩,⟨_,h.c (i+2) _ (Ub hi)⟩,h.f _ (by omega),h.f _ (by omega),h.f _ hi⟩
theorem Q0f.blk {w:World} {b i:Nat} {vs:LV} {a:OA} {l c:Nat} {x:Q2u} (h:Q0f w a l c x) (hb:Blk w b vs) (hi:i<vs.length) (hn:∀u∈vs,NoU u) (v:Value):Q0f (w.setCell ⟨b,i,none⟩ v) a l c x:=
 ⟨h.lie.set1 (hb.c i _ (Ub hi)) (hn _ (List.getElem_mem hi)) v,h.lo,h.hi⟩
theorem Q2g (b:Bool):NoU (.bool b):=fun _=>by simp[nv]
theorem Q2q (e:Int):NoU (.int .i64 e):=fun _=>by simp[nv]
theorem Q3f (a:OA) (l c:Nat):NoU (.slice a l c):=fun _=>by simp[nv]
structure Kp (R B:Nat) (w w':World):Prop where
 os:w'.os=w.os
 tape:w'.tape=w.tape
 output:w'.output=w.output
 size:w.heap.size<=w'.heap.size
 block:∀k,k<B->k≠R->w'.heap[k]?=w.heap[k]?
 oth:KeepsOthers w w'
theorem Kp.refl (R B:Nat) (w:World):Kp R B w w:=⟨rfl,rfl,rfl,Ue _,fun _ _ _=>rfl,KeepsOthers.refl _⟩
theorem Kp.trans {R B:Nat} {a b c:World} (h:Kp R B a b) (k:Kp R B b c):Kp R B a c:=
 ⟨k.os.trans h.os,k.tape.trans h.tape,k.output.trans h.output,Uj h.size k.size,fun i h1 h2=>(k.block i h1 h2).trans (h.block i h1 h2),h.oth.trans k.oth⟩
theorem Kp.of_below {R B:Nat} {w w':World} (h:Bw w w') (hB:B<=w.heap.size):Kp R B w w':=
 ⟨h.os,h.tape,h.output,h.size,fun k hk _=>h.block k (by omega),h.size,fun k o hk _=>(h.block k (Uo.1 hk).1).trans hk⟩
theorem Kp.set {R B:Nat} (w:World) {b i:Nat} (hb:b=R∨B<=b) (v:Value):Kp R B w (w.setCell ⟨b,i,none⟩ v):=
 ⟨rfl,rfl,rfl,by rw[Tk];exact Ue _,fun k h1 h2=>UX _ _ _ _ (by show k≠b;omega),KeepsOthers.setCell _ _ _⟩
theorem Kp.grown {R B:Nat} {w w':World} {row:Option Nat} (h:w.grownBy w' row) (hr:∀g,row=some g->B<=g) (hB:B<=w.heap.size) (hc:∀(j:Nat) (o:Obj),row=some j->w.heap[j]?=some o->o.isCells=true):Kp R B w w':=
 ⟨h.os,h.tape,h.output,h.size,fun k h1 _=>h.block k (by omega) (fun e=>by have:=hr k e.symm;omega),KeepsOthers.of_grownBy h hc⟩
theorem Kp.below {R B B0:Nat} {w w':World} (h:Kp R B w w') (h0:B0<=R) (h1:B0<=B):Below B0 w w':=⟨h.os,h.tape,h.output,h.size,fun k hk=>h.block k (by omega) (by omega)⟩
structure Q1q (w:World) (B:Nat) (p:Pl) (L:List IvV):Prop where
 row:∃xs,Q4c NoU w B 44 6 p.a p.l p.c xs
 len:L.length=p.l
 ent:∀j x,L[j]?=some x->∃g,p.a=some ⟨g,0,none⟩/\Qt7 w g (j*6) x
theorem Q1q.nil_ (w:World) (B:Nat):Q1q w B ⟨none,0,0⟩ []:=⟨⟨[],Q4c.nil_ _ _ _ _ _⟩,rfl,fun j x h=>by simp at h⟩
theorem Q1q.lt {w:World} {B:Nat} {p:Pl} {L:List IvV} (h:Q1q w B p L) {x:Addr} (hx:p.a=some x):B<=x.block/\x.block<w.heap.size:=by
 obtain ⟨xs,hr⟩:=h.row;exact Q2f.lt.row2_blk hr.1 hx
theorem Q1q.step {w w':World} {B:Nat} {p:Pl} {L:List IvV} (h:Q1q w B p L) (hb:Bw w w'):Q1q w' B p L:=by
 obtain ⟨xs,hr⟩:=h.row;refine ⟨⟨xs,hr.step hb⟩,h.len,fun j x hx=>?_⟩;obtain ⟨g,ha,J2⟩:=h.ent j x hx;exact ⟨g,ha,J2.step hb (h.lt ha).2⟩
theorem Q1q.set {w:World} {B b i:Nat} {p:Pl} {L:List IvV} (h:Q1q w B p L) {vs:LV} (hb:Blk w b vs) (hi:i<vs.length) (hn:∀u∈vs,NoU u) (C1:∀x,p.a=some x->x.block≠b) (v:Value):Q1q (w.setCell ⟨b,i,none⟩ v) B p L:=by
 obtain ⟨xs,hr⟩:=h.row;refine ⟨⟨xs,hr.keep fun x hx=>UX _ _ _ _ (C1 x hx)⟩,h.len,fun j x hx=>?_⟩;obtain ⟨g,ha,a,l,c,a2,m,d,⟨h0,h1,h2,h3,h4,h5⟩,h6,h7⟩:=h.ent j x hx;have hg:=C1 _ ha;have hc:∀k u,w.cell? ⟨g,k,none⟩=some u->(w.setCell ⟨b,i,none⟩ v).cell? ⟨g,k,none⟩=some u:=fun k u hu=>(UK (w:=w) (a:=⟨g,k,none⟩) (UX _ _ _ _ hg)).trans hu;exact ⟨g,ha,a,l,c,a2,m,d,⟨hc _ _ h0,hc _ _ h1,hc _ _ h2,hc _ _ h3,hc _ _ h4,hc _ _ h5⟩,h6.blk hb hi hn v,h7.blk hb hi hn v⟩
theorem Q1q.boxIn {w:World} {B:Nat} {p:Pl} {L:List IvV} (h:Q1q w B p L):Q6r w p.a p.l p.c L:=by
 obtain ⟨xs,hr⟩:=h.row;have Q4:=hr.1.cap;refine ⟨h.len,Q4.1,by have:=Q4.2;simpa[maxLen] using this,?_⟩
 by_cases hL:L=[]
 ·exact .inl hL
 ·right
  obtain ⟨x,hx⟩:∃x,L[0]?=some x:=⟨_,Ub (List.length_pos_iff.2 hL)⟩;obtain ⟨g,ha,_⟩:=h.ent 0 x hx;refine ⟨g,0,ha,(h.lt ha).2,fun j y hy=>?_⟩;obtain ⟨g2,QF,J2⟩:=h.ent j y hy;rw[ha] at QF;injection QF with QF;injection QF with QF;subst QF;rw[UH];exact J2
def ivL (p q:Pl) (x:IvV):LV:=[.bool x.lo.neg,.int .i64 x.lo.exp,.slice p.a p.l p.c,.bool x.hi.neg,.int .i64 x.hi.exp,.slice q.a q.l q.c]
theorem Qkg (p q:Pl) (x:IvV):∀u∈ivL p q x,NoU u:=by
 intro u hu;simp only[ivL,UD,TK,Xbm] at hu;rcases hu with rfl|rfl|rfl|rfl|rfl|rfl <;> first|exact Q2g _|exact Q2q _|exact Q3f _ _ _
theorem Q1q.push {w w2:World} {B:Nat} {p:Pl} {L:List IvV} (h:Q1q w B p L) {xs:LV} (hr:Q4c NoU w B 44 6 p.a p.l p.c xs) {g c2:Nat} (hg:w.grownBy w2 (p.a.map (·.block))) (_hat:p.a=some ⟨g,0,none⟩∨g=w.heap.size) {x:IvV} {q1 q2:Pl}
 (P1:Q4c NoU w2 B 44 6 (some ⟨g,0,none⟩) (p.l+1) c2 (xs++ivL q1 q2 x)) (h1:Q0f w q1.a q1.l q1.c x.lo) (h2:Q0f w q2.a q2.l q2.c x.hi):Q1q w2 B ⟨some ⟨g,0,none⟩,p.l+1,c2⟩ (L++[x]):=by
 have htt:Q0l (fun b=>∃y,p.a=some y/\y.block=b) w w2:=(Q0l.of_below (Ud _ _) _).trans0 (Q0l.of_grown hg fun r hr _=>by
  cases ha:p.a with
  |none=>rw[ha] at hr;simp at hr
  |some y=>rw[ha] at hr;simp only[UG,Un] at hr;exact ⟨y,rfl,hr⟩)
 have hw:∀{aw:OA} {lw cw:Nat} {y:Q2u},Q0f w aw lw cw y->Q0f w2 aw lw cw y:=fun hy=>⟨hy.lie.turn (hr.off hy.lie) htt (fun _ h=>h),hy.lo,hy.hi⟩;have P2:xs.length=p.l*6:=hr.1.len;have A6:∀i v,(xs++ivL q1 q2 x)[i]?=some v->w2.cell? ⟨g,i,none⟩=some v:=fun i v hv=>P1.1.cell0 hv;refine ⟨⟨_,P1⟩,by rw[Ui,h.len];rfl,fun j y hy=>⟨g,rfl,?_⟩⟩
 by_cases hj:j<p.l
 ·rw[Tp (by rw[h.len];exact hj)] at hy;obtain ⟨g0,ha,a,l,c,a2,m,d,⟨k0,k1,k2,k3,k4,k5⟩,k6,k7⟩:=h.ent j y hy;have hc:∀i v,i<6->w.cell? ⟨g0,j*6+i,none⟩=some v->w2.cell? ⟨g,j*6+i,none⟩=some v:=fun i v hi hv=>by
   have F0:j*6+i<xs.length:=(by omega);have Vh:=hr;rw[ha] at Vh;have e0:=Vh.1.cell0 (Ub F0);rw[hv] at e0;injection e0 with e0;rw[e0];exact A6 _ _ (by rw[Tp F0,Ub F0])
  exact ⟨a,l,c,a2,m,d,⟨hc 0 _ (by decide) k0,hc 1 _ (by decide) k1,hc 2 _ (by decide) k2,hc 3 _ (by decide) k3,hc 4 _ (by decide) k4,hc 5 _ (by decide) k5⟩,hw k6,hw k7⟩
 ·have O9:j=p.l:=by
   have:=(Uh.1 hy).1;rw[Ui,h.len] at this;simp at this;omega
  subst O9;rw[Tg (by rw[h.len];exact Ue _),h.len,Nat.sub_self] at hy;simp only[UO,Un] at hy;subst hy;have hc:∀i v,(ivL q1 q2 x)[i]?=some v->w2.cell? ⟨g,p.l*6+i,none⟩=some v:=fun i v hv=>A6 _ _ (by rw[Tg (by omega),P2,Xas];exact hv);exact ⟨q1.a,q1.l,q1.c,q2.a,q2.l,q2.c,⟨hc 0 _ rfl,hc 1 _ rfl,hc 2 _ rfl,hc 3 _ rfl,hc 4 _ rfl,hc 5 _ rfl⟩,hw h1,hw h2⟩
structure RpP where
 b:Pl
 t:Pl
 m:Pl
 e:Pl
structure RpV where
 box:List IvV
 til:Q2u
 most:Q2u
 least:Q2u
 prec:Int
 order:Int
 budget:Int
 over:Int
def rpL (p:RpP) (x:RpV):LV:=[.slice none 0 0,.slice p.b.a p.b.l p.b.c,.bool x.til.neg,.int .i64 x.til.exp,.slice p.t.a p.t.l p.t.c,.bool x.most.neg,.int .i64 x.most.exp,.slice p.m.a p.m.l p.m.c,.bool x.least.neg,.int .i64 x.least.exp,.slice p.e.a p.e.l p.e.c,.int .i64 x.prec,.int .i64 x.order,.int .i64 x.budget,.int .i64 x.over]
theorem Q6z (p:RpP) (x:RpV):∀u∈rpL p x,NoU u:=by
 intro u hu;simp only[rpL,UD,TK,Xbm] at hu;rcases hu with rfl|rfl|rfl|rfl|rfl|rfl|rfl|rfl|rfl|rfl|rfl|rfl|rfl|rfl|rfl <;> first|exact Q2g _|exact Q2q _|exact Q3f _ _ _
structure Q5x (w:World) (R B:Nat) (p:RpP) (x:RpV):Prop where
 blk:Blk w R (rpL p x)
 box:Q1q w B p.b x.box
 t:Q0f w p.t.a p.t.l p.t.c x.til
 m:Q0f w p.m.a p.m.l p.m.c x.most
 e:Q0f w p.e.a p.e.l p.e.c x.least
theorem Q5x.step {w w':World} {R B:Nat} {p:RpP} {x:RpV} (h:Q5x w R B p x) (hb:Bw w w'):Q5x w' R B p x:=
 ⟨h.blk.step hb h.blk.lt,h.box.step hb,h.t.step hb,h.m.step hb,h.e.step hb⟩
theorem Q5x.far {w:World} {R B b i:Nat} {p:RpP} {x:RpV} (h:Q5x w R B p x) {vs:LV} (hb:Blk w b vs) (hi:i<vs.length) (hn:∀u∈vs,NoU u) (C1:b≠R) (hne2:∀x,p.b.a=some x->x.block≠b) (v:Value):Q5x (w.setCell ⟨b,i,none⟩ v) R B p x:=
 ⟨h.blk.far C1 v,h.box.set hb hi hn hne2 v,h.t.blk hb hi hn v,h.m.blk hb hi hn v,h.e.blk hb hi hn v⟩
structure Q75 (w:World) (B:Nat) (p:RpP) (x:RpV):Prop where
 box:Q1q w B p.b x.box
 t:Q0f w p.t.a p.t.l p.t.c x.til
 m:Q0f w p.m.a p.m.l p.m.c x.most
 e:Q0f w p.e.a p.e.l p.e.c x.least
theorem Q5x.rest {w:World} {R B:Nat} {p:RpP} {x:RpV} (h:Q5x w R B p x):Q75 w B p x:=⟨h.box,h.t,h.m,h.e⟩
theorem Q75.set {w:World} {R B i:Nat} {p:RpP} {x:RpV} (h:Q75 w B p x) {vs:LV} (hb:Blk w R vs) (hi:i<vs.length) (hn:∀u∈vs,NoU u) (hR:R<B) (v:Value):Q75 (w.setCell ⟨R,i,none⟩ v) B p x:=
 ⟨h.box.set hb hi hn (fun x hx=>by have:=(h.box.lt hx).1;omega) v,h.t.blk hb hi hn v,h.m.blk hb hi hn v,h.e.blk hb hi hn v⟩
theorem Q5x.over {w:World} {R B:Nat} {p:RpP} {x:RpV} (h:Q5x w R B p x) (hR:R<B) (o:Int):Q5x (w.setCell ⟨R,14,none⟩ (.int .i64 o)) R B p { x with over:=o }:=by
 have h1:=h.blk.set (i:=14) (by simp[rpL]) (.int .i64 o);have h2:=h.rest.set (i:=14) h.blk (by simp[rpL]) (Q6z _ _) hR (.int .i64 o);exact ⟨h1,h2.box,h2.t,h2.m,h2.e⟩
theorem Q4o {vs:LV} (h:∀u∈vs,NoU u) {i:Nat} {v:Value} (hv:NoU v):∀u∈vs.set i v,NoU u:=fun u hu=>by
 rcases Xam hu with h1|h1
 ·exact h u h1
 ·subst h1;exact hv
theorem Q75.num {w:World} {R B i:Nat} {p:RpP} {x:RpV} (h:Q75 w B p x) {vs:LV} (hb:Blk w R vs) (hi:i+2<vs.length) (hn:∀u∈vs,NoU u) (hR:R<B) (n:Bool) (e:Int) (a:OA) (l c:Nat):Q75 (Q35 w R i n e (.slice a l c)) B p x:=by
 have b1:=hb.set (i:=i) (by omega) (.bool n);have b2:=b1.set (i:=i+1) (by rw[Ti];omega) (.int .i64 e);have n1:=Q4o hn (i:=i) (Q2g n);have n2:=Q4o n1 (i:=i+1) (Q2q e);exact ((h.set hb (by omega) hn hR (.bool n)).set b1 (by rw[Ti];omega) n1 hR (.int .i64 e)).set b2 (by rw[Ti,Ti];omega) n2 hR (.slice a l c)
theorem Blk.store {w:World} {b i:Nat} {vs:LV} (h:Blk w b vs) (hi:i+2<vs.length) (n:Bool) (e:Int) (v:Value):Blk (Q35 w b i n e v) b (((vs.set i (.bool n)).set (i+1) (.int .i64 e)).set (i+2) v):=
 ((h.set (by omega) _).set (by rw[Ti];omega) _).set (by rw[Ti,Ti];omega) _
theorem Q0f.store {w:World} {b i:Nat} {vs:LV} {a:OA} {l c:Nat} {x:Q2u} (h:Q0f w a l c x) (hb:Blk w b vs) (hi:i+2<vs.length) (hn:∀u∈vs,NoU u) (n:Bool) (e:Int) (v:Value):Q0f (Q35 w b i n e v) a l c x:=by
 have b1:=hb.set (i:=i) (by omega) (.bool n);have b2:=b1.set (i:=i+1) (by rw[Ti];omega) (.int .i64 e);have n1:=Q4o hn (i:=i) (Q2g n);have n2:=Q4o n1 (i:=i+1) (Q2q e);exact ((h.blk hb (by omega) hn (.bool n)).blk b1 (by rw[Ti];omega) n1 (.int .i64 e)).blk b2 (by rw[Ti,Ti];omega) n2 v
theorem Kp.num {R B:Nat} (w:World) {b i:Nat} (hb:b=R∨B<=b) (n:Bool) (e:Int) (v:Value):Kp R B w (Q35 w b i n e v):=
 ((Kp.set w hb _).trans (Kp.set _ hb _)).trans (Kp.set _ hb _)
def Qly (x:Q2u) (d:Option Dyadic):Prop:=∀y,d=some y->x.ok/\x.val=y
def IvO (x:IvV) (d:Option Dyadic × Option Dyadic):Prop:=Qly x.lo d.1/\Qly x.hi d.2
def Qdh (x:Int) (o:Option Nat):Prop:=match o with|none=>x= -1|some q=>x=(q:Int)
structure StM (x:RpV) (st:PrS):Prop where
 prec:x.prec=(st.prec:Int)
 order:x.order=(st.order:Int)
 budget:x.budget=(st.budget:Int)
 til:Qly x.til st.til
 most:Qly x.most st.most
 least:Qly x.least st.least
 len:x.box.length=st.box.length
 box:∀(j:Nat) (a:IvV) (b:Option Dyadic × Option Dyadic),x.box[j]?=some a->st.box[j]?=some b->IvO a b
 over:Qdh x.over st.over
theorem Qtx {x:Int} {o:Option Nat} (h:Qdh x o):x<0↔o=none:=by
 unfold Qdh at h;cases o with
 |none=>simp only at h;exact ⟨fun _=>rfl,fun _=>by omega⟩
 |some q=>simp only at h;exact ⟨fun h1=>by omega,fun h1=>by cases h1⟩
theorem Q9r {n:Bool} {e:Int} {L:LN} (h:Q0a n e L): -65536<=e/\e<=65536:=by
 unfold Q0a at h
 split at h
 ·have:=h.2;omega
 ·exact h.2.2.2
theorem Q28 {S:LU} {n:Bool} {e:Int} {L:LN} {er:Int} (h:Q1v S n e L er):
 (-9223372036854775808<=e/\e<=9223372036854775807)/\((Qgv S=none/\er=5)∨(∃d,Qgv S=some d/\Qly ⟨n,e,L⟩ d/\((d=none/\er=2)∨(d≠none/\er=0)))):=by
 unfold Q1v at h;unfold Qgv;cases hF:form S with
 |none=>
  rw[hF] at h;obtain ⟨rfl,rfl,rfl,rfl⟩:=h;exact ⟨⟨by decide,by decide⟩,.inl ⟨rfl,rfl⟩⟩
 |some z=>
  obtain ⟨neg,v,e0⟩:=z;rw[hF] at h;rcases Qb3 h with ⟨h1,rfl,h3,h4⟩|⟨h1,rfl,rfl,rfl,rfl⟩
  ·have:=Q9r h3;refine ⟨⟨by omega,by omega⟩,.inr ⟨some (dy (sgn neg v) e0),?_,?_,.inr ⟨by simp,rfl⟩⟩⟩
   ·exact congrArg some (Uu ((Q3w _).2 h1))
   ·intro y hy;injection hy with hy;exact ⟨h3,h4.trans hy⟩
  ·refine ⟨⟨by decide,by decide⟩,.inr ⟨none,?_,fun y hy=>(by cases hy),.inl ⟨rfl,rfl⟩⟩⟩;exact congrArg some (Uq (fun h=>h1 ((Q3w _).1 h)))
theorem Qaf {ov:Int} {o:Option Nat} (h:Qdh ov o) {d:Option Dyadic} {er:Int} (hd:(d=none/\er=2)∨(d≠none/\er=0)) (p:Nat):Qdh (if er=2/\ov<0 then (p:Int) else ov) (Q61 o p d):=by
 have hl:=Qtx h;unfold Qdh at h⊢;rcases hd with ⟨rfl,rfl⟩|⟨hd,rfl⟩
 ·cases o with
  |none=>rw[Uu ⟨rfl,hl.2 rfl⟩];rfl
  |some q=>rw[Uq (fun h=>by have:=hl.1 h.2;cases this)];exact h
 ·rw[Uq (fun h=>by have:=h.1;omega)];cases o with
  |none=>cases d with
   |none=>exact absurd rfl hd
   |some y=>exact h
  |some q=>exact h
def Qty (st:PrS):Prop:=st.over=none->st.til≠none/\st.most≠none/\st.least≠none/\∀b∈st.box,b.1≠none/\b.2≠none
theorem Q69 {o:Option Nat} {p:Nat} {d:Option Dyadic} (h:Q61 o p d=none):o=none/\d≠none:=by
 cases o <;> cases d <;> simp[Q61] at h⊢
theorem Qnz:Qty PrS.empty:=fun _=>⟨by simp[PrS.empty],by simp[PrS.empty],by simp[PrS.empty],fun b hb=>by simp[PrS.empty] at hb⟩
theorem Qo0 {i p:Nat} {l:LU} {st st':PrS} (h:Qaw i p l st=some st') (hf:Qty st):Qty st':=by
 have hc:∀{X:Option Nat} {f:Nat->PrS},X.map f=some st'->∃n,st'=f n:=fun {X f} h=>by
  cases X with
  |none=>simp at h
  |some n=>simp only[UG,Un] at h;exact ⟨n,h.symm⟩
 have hd:∀{X:Option (Option Dyadic)} {f:Option Dyadic->PrS},X.map f=some st'->∃n,st'=f n:=fun {X f} h=>by
  cases X with
  |none=>simp at h
  |some n=>simp only[UG,Un] at h;exact ⟨n,h.symm⟩
 have A2:(if st.box.length<4 then (Qis l).map fun b=>{ st with box:=st.box++[b],over:=Q61 (Q61 st.over p b.1) p b.2 } else none)=some st'->Qty st':=fun h=>by
  split at h
  ·cases hb:Qis l with
   |none=>rw[hb] at h;simp at h
   |some b=>
    rw[hb] at h;simp only[UG,Un] at h;subst h;intro ho;obtain ⟨h1,h2⟩:=Q69 ho;obtain ⟨h3,h4⟩:=Q69 h1;obtain ⟨f1,f2,f3,f4⟩:=hf h3;refine ⟨f1,f2,f3,fun c hc=>?_⟩;rcases Tl.1 hc with hc|hc
    ·exact f4 c hc
    ·rw[Uy] at hc;subst hc;exact ⟨h4,h2⟩
  ·cases h
 unfold Qaw at h
 split at h
 ·obtain ⟨n,rfl⟩:=hc h;exact hf
 ·obtain ⟨n,rfl⟩:=hc h;exact hf
 ·obtain ⟨n,rfl⟩:=hc h;exact hf
 ·obtain ⟨d,rfl⟩:=hd h;intro ho;obtain ⟨h1,h2⟩:=Q69 ho;obtain ⟨f1,f2,f3,f4⟩:=hf h1;exact ⟨h2,f2,f3,f4⟩
 ·obtain ⟨d,rfl⟩:=hd h;intro ho;obtain ⟨h1,h2⟩:=Q69 ho;obtain ⟨f1,f2,f3,f4⟩:=hf h1;exact ⟨f1,h2,f3,f4⟩
 ·obtain ⟨d,rfl⟩:=hd h;intro ho;obtain ⟨h1,h2⟩:=Q69 ho;obtain ⟨f1,f2,f3,f4⟩:=hf h1;exact ⟨f1,f2,h2,f4⟩
 ·exact A2 h
structure Qcr (s:LU) (i p:Nat) (st:PrS):Prop where
 eq:∃f,Qla s (s.length+1) 0 0 PrS.empty=Qla s f i p st/\s.length<p+f
 le:p<=s.length
 ip:i<=p
 full:Qty st
theorem Qcr.zero (s:LU):Qcr s 0 0 PrS.empty:=⟨⟨_,rfl,by omega⟩,Uv _,Ue _,Qnz⟩
theorem Qlz {b:UInt8}:∀{l x y:LU},Qf3 b l=some (x,y)->x.length<l.length
 |[],_,_,h=>by simp[Qf3] at h
 |c::r,x,y,h=>by
  rw[Qf3] at h
  split at h
  ·simp only[Un,Xa9] at h;rw[<-h.1];simp
  ·cases hc:Qf3 b r with
   |none=>rw[hc] at h;simp at h
   |some q=>
    rw[hc] at h;simp only[UG,Un,Xa9] at h;have:=Qlz (x:=q.1) (y:=q.2) hc;rw[<-h.1];simp;omega
theorem Qr6 {s:LU} {p:Nat} {l:LU} (h:Q97 s p=some l):p+l.length<s.length:=by
 unfold Q97 at h;cases hc:Qf3 10 (s.drop p) with
 |none=>rw[hc] at h;simp at h
 |some q=>
  rw[hc] at h;simp only[UG,Un] at h;have:=Qlz (x:=q.1) (y:=q.2) hc;rw[h,Th] at this;omega
theorem Qcr.step {s:LU} {i p:Nat} {st st':PrS} {l:LU} (h:Qcr s i p st) (hl:Q97 s p=some l) (hm:Qaw i p l st=some st'):Qcr s (i+1) (p+l.length+1) st':=by
 obtain ⟨f,he,hf⟩:=h.eq;have O0:=Qr6 hl;obtain ⟨g,rfl⟩:∃g,f=g+1:=⟨f-1,by have:=h.le;omega⟩;refine ⟨⟨g,?_,by omega⟩,by omega,by have:=h.ip;omega,Qo0 hm h.full⟩;rw[he,Qla,hl];simp only[hm]
theorem Qcr.bad {s:LU} {i p:Nat} {st:PrS} {l:LU} (h:Qcr s i p st) (hl:Q97 s p=some l) (hm:Qaw i p l st=none):Qla s (s.length+1) 0 0 PrS.empty=if 6<i then .ok (p,st) else .error (p,5):=by
 obtain ⟨f,he,hf⟩:=h.eq;obtain ⟨g,rfl⟩:∃g,f=g+1:=⟨f-1,by have:=h.le;omega⟩;rw[he,Qla,hl];simp only[hm]
theorem Qcr.end_ {s:LU} {i p:Nat} {st:PrS} (h:Qcr s i p st) (hl:Q97 s p=none):Qla s (s.length+1) 0 0 PrS.empty=if i<=6 then .error (s.length,5) else .ok (p,st):=by
 obtain ⟨f,he,hf⟩:=h.eq;obtain ⟨g,rfl⟩:∃g,f=g+1:=⟨f-1,by have:=h.le;omega⟩;rw[he,Qla,hl]
end Go.Proofs.YtidojbkhlenahaaGreatDoor
