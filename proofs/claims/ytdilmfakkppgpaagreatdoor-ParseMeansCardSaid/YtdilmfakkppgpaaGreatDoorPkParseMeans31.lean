/- Part 31 of the proof of LawParseMeans: GathC. Condition: as each theorem says; none at the end. -/
import Derived.Great.BuildSlice
import Derived.Test.YtdilmfakkppgpaaGreatDoorPkParseMeans30
set_option maxRecDepth 100000
set_option maxHeartbeats 16000000
namespace Go.Proofs.YtdilmfakkppgpaaGreatDoor
open Go.RowKit WordsM
theorem Q1x.push1 {B:Nat} {w w2:World} {a:Option Addr} {n c c2 g:Nat} {all:List Q05} (h:Q1x B w a n c all) {xs xs2:List Value} (hr0:Q4b NoU w B 44 4 a n c xs) (hgr:w.grownBy w2 (a.map (·.block))) (hat:a=some ⟨g,0,none⟩∨g=w.heap.size) {m:Q05} {aw:Option Addr} {lw cw be oe le ce:Nat}
 (hr:Q4b NoU w2 B 44 4 (some ⟨g,0,none⟩) (n+1) c2 xs2) (hxs:xs2=xs++[.bool m.neg,.int .i64 m.exp,.slice aw lw cw,.slice (some ⟨be,oe,none⟩) le ce])
 (hw:WordsIn w aw lw cw m.ws) (hi:Q0k w (some ⟨be,oe,none⟩) le ce m.es) (hbe:be<w.heap.size) (hba:∀x,a=some x->x.block≠be):Q1x B w2 (some ⟨g,0,none⟩) (n+1) c2 (all++[m]):=by
 have hsz:w.heap.size<=w2.heap.size:=hgr.size
 have htt:Q0n (fun b=>∃x,a=some x/\x.block=b) w w2:=(Q0n.of_below (Below.refl _ _) _).trans0 (Q0n.of_grown hgr fun r hr _=>by
  cases a with
  |none=>simp at hr
  |some y=>simp only[Option.map_some,Option.some.injEq] at hr;exact ⟨y,rfl,hr⟩)
 have hwt:∀(aw:Option Addr) (lw cw:Nat) (L:List Nat),WordsIn w aw lw cw L->WordsIn w2 aw lw cw L:=fun aw lw cw L hw=>hw.turn (hr0.off hw) htt (fun _ h=>h)
 have hblk:∀k,k<w.heap.size->(∀x,a=some x->x.block≠k)->w2.heap[k]?=w.heap[k]?:=fun k hk hn=>htt.block k hk (fun ⟨x,hx,e⟩=>hn x hx e)
 have hnew:∀k,k<w.heap.size->(∀x,a=some x->x.block≠k)->k≠g:=fun k hk hn e=>by
  subst e
  rcases hat with h1|h1
  ·exact hn _ h1 rfl
  ·omega
 have hln:xs.length=n*4:=hr0.1.len
 have hcells:∀i v,xs2[i]?=some v->w2.cell? ⟨g,i,none⟩=some v:=fun i v hv=>hr.1.cell0 hv
 refine ⟨⟨xs2,hr⟩,fun j m' hm'=>⟨g,rfl,?_⟩,by rw[List.length_append,h.len];rfl⟩
 by_cases hj:j<n
 ·rw[List.getElem?_append_left (by rw[h.len];exact hj)] at hm'
  obtain ⟨g0,ha,hE⟩:=h.ent j m' hm'
  refine hE.via hsz (fun i hi4=>?_) (fun _ _ _ h=>hwt _ _ _ _ h) fun be hb1 hb2=>?_
  ·have hlt:j*4+i<xs.length:=by omega
   have e1:=hcells (j*4+i) xs[j*4+i] (by rw[hxs,List.getElem?_append_left hlt,List.getElem?_eq_getElem hlt])
   subst ha
   rw[e1,hr0.1.cell0 (List.getElem?_eq_getElem hlt)]
  ·have hna:∀x,a=some x->x.block≠be:=fun x hx e=>by rw[ha] at hx;injection hx with hx;subst hx;exact hb1 e.symm
   exact ⟨hnew be hb2 hna,hblk be hb2 hna⟩
 ·have hjn:j=n:=by
   have:=(List.getElem?_eq_some_iff.1 hm').1
   rw[List.length_append,h.len] at this
   simp at this;omega
  subst hjn
  rw[List.getElem?_append_right (by rw[h.len];exact Nat.le_refl _),h.len,Nat.sub_self] at hm'
  simp only[List.getElem?_cons_zero,Option.some.injEq] at hm'
  subst hm'
  have hc:∀i v,[Value.bool m.neg,.int .i64 m.exp,.slice aw lw cw,.slice (some ⟨be,oe,none⟩) le ce][i]?=some v->w2.cell? ⟨g,j*4+i,none⟩=some v:=fun i v hv=>hcells _ _ (by rw[hxs,List.getElem?_append_right (by omega),hln,Nat.add_sub_cancel_left];exact hv)
  have hb2:=hblk be hbe hba
  refine ⟨aw,lw,cw,be,oe,le,ce,hc 0 _ rfl,hc 1 _ rfl,hc 2 _ rfl,hc 3 _ rfl,hwt _ _ _ _ hw,⟨hi.len,hi.cap,hi.most,hi.rng,?_⟩,hnew be hbe hba,Nat.lt_of_lt_of_le hbe hsz⟩
  rcases hi.rd with h8|⟨b,oo,e,hb,hcc⟩
  ·exact .inl h8
  ·injection e with e
   injection e with e1 e2
   subst e1;subst e2
   exact .inr ⟨be,oe,rfl,Nat.lt_of_lt_of_le hb hsz,fun i x hx=>(World.cell?_of_block (a:=⟨be,oe+i,none⟩) hb2).trans (hcc i x hx)⟩
theorem Qdb:Tryz.prog.underlying 42=some (.slice 3):=by kernel_rfl
theorem Q7f:Tryz.prog.underlying 25=some (.slice 44):=by kernel_rfl
theorem Qgu (ty:TypeId) (W:World) (b:Nat) (ae:Option Addr) (le ce:Nat) (E:List Int) (h:Q0k W ae le ce E) (h0:E≠[]) (hle:le<=1000):
 ∃c' W',(Builtin.append_ #[42,42] ty #[.slice (some ⟨b,0,none⟩) 0 0,.slice ae le ce]).run Tryz.prog W=.ok (.slice (some ⟨W.heap.size,0,none⟩) le c') W'/\Q0k W' (some ⟨W.heap.size,0,none⟩) le c' E/\Below W.heap.size W W'/\W.heap.size<W'.heap.size:=by
 obtain ⟨i0,hi0,hz0,hz1,hz2⟩:=Q0t Q7z
 have hln:=h.len
 have hl0:0<le:=by rw[<-hln];exact List.length_pos_iff.2 h0
 obtain ⟨p,o,rfl,hp,hc⟩:∃p o,ae=some ⟨p,o,none⟩/\p<W.heap.size/\∀(j:Nat) x,E[j]?=some x->W.cell? ⟨p,o+j,none⟩=some (.int .i64 x):=by
  rcases h.rd with h1|h1
  ·exact absurd h1 h0
  ·exact h1
 have hcap:=growslice_fits (need:=0+le) (old:=0) (bytes:=i0.bytes) (by omega) (by rw[hz2];omega)
 have hrun:=run_append_grow (P:=Tryz.prog) W 42 ty 3 i0 _ Qdb hi0 hz0 ⟨b,0,none⟩ 0 0 [] (by simp) (fun j v hv=>by simp at hv) ⟨p,o,none⟩ le ce (E.map zv) (by rw[List.length_map,hz1];omega) (fun j v hv=>by
  rw[List.getElem?_map] at hv
  cases hx:E[j]? with
  |none=>rw[hx] at hv;cases hv
  |some x=>
   rw[hx] at hv
   simp only[Option.map_some,Option.some.injEq] at hv
   subst hv
   have hadd:(⟨p,o,none⟩:Addr).add j=⟨p,o+j,none⟩:=by unfold Addr.add;split <;> simp_all
   rw[hadd]
   exact hc j x hx) (by omega) (by omega) hcap
 rw[Nat.zero_add] at hrun
 have hcp:le<=grownCap W le 0 3:=grownCap_ge W le 0 3
 have hcm:grownCap W le 0 3<=maxLen:=grownCap_le_maxLen W le 0 3 (by unfold maxLen;omega)
 refine ⟨_,_,hrun,⟨hln,hcp,by simpa[maxLen] using hcm,.new h.rng.1,.inr ⟨W.heap.size,0,rfl,by rw[World.size_alloc];exact Nat.lt_succ_self _,fun j x hx=>?_⟩⟩,⟨rfl,rfl,rfl,by rw[World.size_alloc];exact Nat.le_succ _,fun k hk=>(Below.alloc (Below.refl W.drew.heap.size W.drew) (Nat.le_refl _) _).block k hk⟩,by rw[World.size_alloc];exact Nat.lt_succ_self _⟩
 have hn:=heap_alloc_new W.drew (.cells (([]:List Value).toArray++(E.map zv).toArray++Builtin.zeroCells (Value.int .i64 0).cells (grownCap W le 0 3-le)) 3)
 have hc1:=cell_of_row _ _ (0+j) _ _ _ hn
 refine hc1.trans ?_
 rw[Nat.zero_add,Array.getElem?_append_left (by have:=(List.getElem?_eq_some_iff.1 hx).1;simp;exact this)]
 simp[hx,zv]
theorem Q7g {P:Program} {V:Value->World->Prop} {w w':World} {u:Value} {res:Result Next} (hr:res=.ok (.value u) w') (hb:Below w.heap.size w w') (h:V u w'):Q25 P Qi7 V w res:=by rw[hr];exact ⟨hb,h⟩
theorem Q7h {P:Program} {a:Operand->Value} {o:Oper} (s x:Operand) (t1 t2:TypeId) (ho:o.op=.call { callee:=.builtin .append,args:= #[s,x],argTypes:= #[t1,t2] }) {va vx:Value} (hs:a s=va) (hx:a x=vx) {v:Value} {w w':World} (hrun:(Builtin.append_ #[t1,t2] o.type #[va,vx]).run P w=.ok v w'):(execOp a o).run P w=.ok (.value v) w':=by
 unfold execOp
 simp only[ho,resolve,invoke,builtin,Sem.run_bind,Sem.run_pure,Result.andThen_ok,List.map_toArray,List.map_cons,List.map_nil,hs,hx,hrun]
theorem Q6s {P:Program} {a:Operand->Value} {o:Oper} (t:TypeId) (len:Nat) (parts:Array (Nat × Operand)) (ho:o.op=.buildSlice t len parts) {parts':Array (Nat × Value)} (hp:(parts.map fun (i,x)=>(i,a x))=parts') {v:Value} {w w':World} (hrun:(Instr.buildSlice t len parts').run P w=.ok v w'):(execOp a o).run P w=.ok (.value v) w':=by
 subst hp
 unfold execOp
 simp only[ho,Sem.run_bind,hrun,Result.andThen_ok,Sem.run_pure]
theorem Qja (W:World):(Instr.buildSlice 42 0 #[]).run Tryz.prog W=.ok (.slice (some ⟨W.heap.size,0,none⟩) 0 0) (W.alloc (.cells #[] 3)):=by
 simp[Instr.buildSlice,run_underlying Qdb,Instr.fill,newRow]
 exact congrArg (fun c=>W.alloc (Obj.cells c 3)) (by simp)
theorem Qjb (W:World) (v0 v1 v2 v3:Value):(Instr.buildSlice 25 1 #[(0,.agg #[v0,v1,v2,v3])]).run Tryz.prog W=.ok (.slice (some ⟨W.heap.size,0,none⟩) 1 1) (W.alloc (.cells #[v0,v1,v2,v3] 44)):=by
 obtain ⟨i0,hi0,hz0,hz1,hz2⟩:=Q0t Q45
 exact run_buildSlice W 25 44 1 _ #[v0,v1,v2,v3] i0 _ Q7f hi0 hz0 (by rw[hz1];decide) (by rw[hz1];decide) (by rw[hz1];first|kernel_rfl|simp[Instr.fill,Value.cells])
def Emp (v:Value) (_:World):Prop:=∃b,v=.slice (some ⟨b,0,none⟩) 0 0
def Qw6 (N le:Nat) (E:List Int) (v:Value) (W:World):Prop:=∃g c,v=.slice (some ⟨g,0,none⟩) le c/\N<=g/\g<W.heap.size/\Q0k W (some ⟨g,0,none⟩) le c E
def Qw7 (N le:Nat) (E:List Int) (v0 v1 v2:Value) (v:Value) (W:World):Prop:=∃g c,v=.agg #[v0,v1,v2,.slice (some ⟨g,0,none⟩) le c]/\N<=g/\g<W.heap.size/\Q0k W (some ⟨g,0,none⟩) le c E
def Qqn (N le:Nat) (E:List Int) (v0 v1 v2:Value) (v:Value) (W:World):Prop:=∃bl g c,v=.slice (some ⟨bl,0,none⟩) 1 1/\bl<W.heap.size/\W.heap[bl]?=some (.cells #[v0,v1,v2,.slice (some ⟨g,0,none⟩) le c] 44 (0,0))/\N<=g/\g<W.heap.size/\Q0k W (some ⟨g,0,none⟩) le c E
theorem Qn0:Q1u Emp:=fun _ _ _ h _=>h
theorem Qgv (N le:Nat) (E:List Int):Q1u (Qw6 N le E):=fun _ _ _ ⟨g,c,h1,h2,h3,h4⟩ hb=>⟨g,c,h1,h2,Nat.lt_of_lt_of_le h3 hb.size,h4.step hb⟩
theorem Qgw (N le:Nat) (E:List Int) (v0 v1 v2:Value):Q1u (Qw7 N le E v0 v1 v2):=fun _ _ _ ⟨g,c,h1,h2,h3,h4⟩ hb=>⟨g,c,h1,h2,Nat.lt_of_lt_of_le h3 hb.size,h4.step hb⟩
theorem Qe8 (N le:Nat) (E:List Int) (v0 v1 v2:Value):Q1u (Qqn N le E v0 v1 v2):=fun _ _ _ ⟨bl,g,c,h1,h5,h6,h2,h3,h4⟩ hb=>⟨bl,g,c,h1,Nat.lt_of_lt_of_le h5 hb.size,(hb.block bl h5).trans h6,h2,Nat.lt_of_lt_of_le h3 hb.size,h4.step hb⟩
structure Q5q (B:Nat) (w:World) (a:Option Addr) (n c:Nat) (all:List Q05) (xs:List Value):Prop where
 st:Q1x B w a n c all
 row:Q4b NoU w B 44 4 a n c xs
 new:∀j,j<n->∃be oe le ce,xs[j*4+3]?=some (.slice (some ⟨be,oe,none⟩) le ce)/\B<=be
theorem Q5q.step {B n c:Nat} {w w':World} {a:Option Addr} {all:List Q05} {xs:List Value} (h:Q5q B w a n c all xs) (hb:Below w.heap.size w w'):Q5q B w' a n c all xs:=⟨h.st.step hb,h.row.step hb,h.new⟩
theorem Q5q.nil_ (B:Nat) (w:World):Q5q B w none 0 0 [] []:=⟨Q1x.nil_ _ _,Q4b.nil_ _ _ _ _ _,fun _ h=>absurd h (Nat.not_lt_zero _)⟩
def Qtj (B:Nat) (w:World) (a:Option Addr) (n:Nat):Prop:=∀j,j<n->∃g be oe le ce,a=some ⟨g,0,none⟩/\B<=g/\w.cell? ⟨g,j*4+3,none⟩=some (.slice (some ⟨be,oe,none⟩) le ce)/\B<=be
theorem Qtj.more {B B':Nat} {w:World} {a:Option Addr} {n:Nat} (h:Qtj B w a n) (hB:B'<=B):Qtj B' w a n:=fun j hj=>by
 obtain ⟨g,be,oe,le,ce,h1,h2,h3,h4⟩:=h j hj
 exact ⟨g,be,oe,le,ce,h1,Nat.le_trans hB h2,h3,Nat.le_trans hB h4⟩
theorem Q5q.newp {B n c:Nat} {w:World} {a:Option Addr} {all:List Q05} {xs:List Value} (h:Q5q B w a n c all xs):Qtj B w a n:=fun j hj=>by
 obtain ⟨be,oe,le,ce,hx,hb⟩:=h.new j hj
 obtain ⟨g,ha,_⟩:=h.st.ent j _ (List.getElem?_eq_getElem (by rw[h.st.len];exact hj))
 have hg:=h.st.lt ha
 have hr:=h.row
 subst ha
 exact ⟨g,be,oe,le,ce,rfl,hg.1,hr.1.cell0 hx,hb⟩
theorem Qjc {B:Nat} {U W:World} {a:Option Addr} {n c:Nat} {all:List Q05} {xs:List Value} (hU:Q5q B U a n c all xs) (hBU:B<=U.heap.size) (hb:Below U.heap.size U W) {m:Q05} {aw:Option Addr} {lw cw le:Nat} (hw:WordsIn U aw lw cw m.ws) {v:Value} (hv:Qqn U.heap.size le m.es (.bool m.neg) (.int .i64 m.exp) (.slice aw lw cw) v W) (hn:n<=1000) (ty:TypeId):
 ∃a' c' W' xs',(Builtin.append_ #[25,25] ty #[.slice a n c,v]).run Tryz.prog W=.ok (.slice a' (n+1) c') W'/\Q5q B W' a' (n+1) c' (all++[m]) xs'/\Below B U W':=by
 obtain ⟨bl,g,c1,rfl,hbl,hcs,hg1,hg2,hE⟩:=hv
 obtain ⟨i0,hi0,hz0,hz1,hz2⟩:=Q0t Q45
 have hW:=hU.step hb
 have hr:=hW.row
 have hxl:xs.length=n*4:=hr.1.len
 obtain ⟨g6,c6,w6,hrun6,hrow6,hgr6,hat6⟩:=Q1f (P:=Tryz.prog) NoU W 25 ty 44 i0 _ 4 64 Q7f hi0 hz0 hz1 hz2 rfl Q6r B (Nat.le_trans hBU hb.size) a n c xs hr bl 1 1 [.bool m.neg,.int .i64 m.exp,.slice aw lw cw,.slice (some ⟨g,0,none⟩) le c1] rfl (World.news_of_block (cs:= #[.bool m.neg,.int .i64 m.exp,.slice aw lw cw,.slice (some ⟨g,0,none⟩) le c1]) hcs) (by simp[Value.oneCell']) (by intro u hu;simp at hu;rcases hu with rfl|rfl|rfl|rfl <;> exact fun _=>by simp[nv]) (by decide) (by omega) (by decide) (by decide)
 refine ⟨_,c6,w6,_,hrun6,⟨hW.st.push1 hr hgr6 hat6 hrow6 rfl (hw.step hb) hE hg2 (fun x hx e=>?_),hrow6,fun j hj=>?_⟩,?_⟩
 ·have:=(hU.st.lt hx).2;omega
 ·by_cases hjn:j<n
  ·obtain ⟨be,oe,l2,c2,hx,hb2⟩:=hW.new j hjn
   exact ⟨be,oe,l2,c2,by rw[List.getElem?_append_left (by omega)];exact hx,hb2⟩
  ·obtain rfl:j=n:=by omega
   exact ⟨g,0,le,c1,by rw[List.getElem?_append_right (by omega),hxl,Nat.add_sub_cancel_left];rfl,by omega⟩
 ·have hbB:Below B U W:=⟨hb.os,hb.tape,hb.output,hb.size,fun z hz=>hb.block z (Nat.lt_of_lt_of_le hz hBU)⟩
  exact hbB.trans ⟨hgr6.os,hgr6.tape,hgr6.output,hgr6.size,fun z hz=>hgr6.block z (Nat.lt_of_lt_of_le hz (Nat.le_trans hBU hb.size)) (fun e=>by
   cases a with
   |none=>simp at e
   |some q=>simp only[Option.map_some,Option.some.injEq] at e;have:=(hU.st.lt rfl).1;omega)⟩
def Q2t (w:World) (X:Except Int (List Q0b)) (r:Ending) (w':World):Prop:=Below w.heap.size w w'/\match X with
 | .error e=>r=.returned (.tuple #[.slice none 0 0,.int .i64 e])
 | .ok P=>∃a n c ms,r=.returned (.tuple #[.slice a n c,.int .i64 0])/\Q0c w' a n c ms/\ms.map Q05.term=P/\(∀m∈ms,Q0h m.neg m.exp m.ws/\m.ws≠[])/\Qtj w.heap.size w' a n
theorem Q2t.err {w w':World} {X:Except Int (List Q0b)} {e:Int} (hX:X=.error e) (hb:Below w.heap.size w w'):Q2t w X (.returned (.tuple #[.slice none 0 0,.int .i64 e])) w':=by subst hX;exact ⟨hb,rfl⟩
theorem Q2t.ok {w w':World} {X:Except Int (List Q0b)} {P:List Q0b} {a:Option Addr} {n c:Nat} {ms:List Q05} (hX:X=.ok P) (hb:Below w.heap.size w w') (hm:Q0c w' a n c ms) (hP:ms.map Q05.term=P) (ho:∀m∈ms,Q0h m.neg m.exp m.ws/\m.ws≠[]) (hN:Qtj w.heap.size w' a n):Q2t w X (.returned (.tuple #[.slice a n c,.int .i64 0])) w':=by subst hX;exact ⟨hb,_,_,_,_,rfl,hm,hP,ho,hN⟩
theorem Qn1 {ts out:List Q0b} (ho:Q17 ts=out) {p:Q0b} (hp:p∈out) (hf:¬Q63 p.1):Q1t ts=.error 2:=by
 unfold Q1t
 rw[ho,if_pos]
 exact List.any_eq_true.2 ⟨p,hp,by rw[(Qdt _).2 hf];rfl⟩
theorem Qn2 {ts out:List Q0b} (ho:Q17 ts=out) (hf:∀p∈out,Q63 p.1):Q1t ts=if 24<(out.filter fun p=>decide (p.1≠0)).length then .error 6 else .ok (out.filter fun p=>decide (p.1≠0)):=by
 unfold Q1t
 rw[ho,if_neg]
 intro h
 obtain ⟨p,hp,hb⟩:=List.any_eq_true.1 h
 rw[(Q1g p.1).2 (hf p hp)] at hb
 cases hb
def Qwl (w:World) (out:List Q0b) (s8 s9:Value) (wr:World):Prop:=∃(j N:Nat) (a:Option Addr) (c:Nat) (ms:List Q05) (zs:List Value),s8=.slice a N c/\s9=.int .i64 (j:Int)/\j<=out.length/\N<=j/\Q5q w.heap.size wr a N c ms zs/\ms.map Q05.term=(out.take j).filter (fun p=>decide (p.1≠0))/\
 (∀m∈ms,Q0h m.neg m.exp m.ws/\m.ws≠[])/\(∀p∈out.take j,Q63 p.1)/\Below w.heap.size w wr
theorem Q5r {α:Type} {l:List α} {j:Nat} {p:α} (h:l[j]?=some p):l.take (j+1)=l.take j++[p]:=by rw[List.take_add_one,h];rfl
theorem Quv {out:List Q0b} {j:Nat} {p:Q0b} (h:out[j]?=some p) (hz:p.1=0):(out.take (j+1)).filter (fun p=>decide (p.1≠0))=(out.take j).filter (fun p=>decide (p.1≠0)):=by
 rw[Q5r h,List.filter_append]
 simp[hz]
theorem Qsv {out:List Q0b} {j:Nat} {p:Q0b} (h:out[j]?=some p) (hz:p.1≠0):(out.take (j+1)).filter (fun p=>decide (p.1≠0))=(out.take j).filter (fun p=>decide (p.1≠0))++[p]:=by
 rw[Q5r h,List.filter_append]
 simp[hz]
theorem Qgx {out:List Q0b} {j:Nat} {p:Q0b} (h:out[j]?=some p) (hf:Q63 p.1) (ha:∀q∈out.take j,Q63 q.1):∀q∈out.take (j+1),Q63 q.1:=fun q hq=>by
 rw[Q5r h] at hq
 rcases List.mem_append.1 hq with hq|hq
 ·exact ha q hq
 ·rw[List.mem_singleton] at hq;subst hq;exact hf
structure Qky (W:World) (q g oj:Nat) (v0 v1 v2:Value) (ae:Option Addr) (le ce:Nat) (E:List Int):Prop where
 bx:Q04 W q v0 v1 v2
 o3:W.cell? ⟨g,oj,none⟩=some (.slice ae le ce)
 ei:Q0k W ae le ce E
theorem Qky.step {W W':World} {q g oj:Nat} {v0 v1 v2:Value} {ae:Option Addr} {le ce:Nat} {E:List Int} (h:Qky W q g oj v0 v1 v2 ae le ce E) (hb:Below W.heap.size W W'):Qky W' q g oj v0 v1 v2 ae le ce E:=
 ⟨h.bx.step hb (block_lt_of_cell h.bx.c0),(hb.cell (p:=⟨g,oj,none⟩) (block_lt_of_cell h.o3)).trans h.o3,h.ei.step hb⟩
end Go.Proofs.YtdilmfakkppgpaaGreatDoor
