/- Part 15 of the proof of LawParseBuilt: Rdr, PolyI, PolyJ, PolyK, FlatX. Condition: as each theorem says; none at the end. -/
import Derived.Test.YtdilmfakkppgpaaGreatDoorPkParseBuilt14
set_option maxRecDepth 100000
set_option maxHeartbeats 16000000
namespace Go.Proofs.YtdilmfakkppgpaaGreatDoor
open Go.RowKit WordsM
structure Q0q (w:World) (R:Nat) (s:ByteArray) (p m d:Int) (bad:Bool):Prop where
 c0:w.cell? ⟨R,0,none⟩=some (.string s)
 c1:w.cell? ⟨R,1,none⟩=some (.int .i64 p)
 c2:w.cell? ⟨R,2,none⟩=some (.int .i64 m)
 c3:w.cell? ⟨R,3,none⟩=some (.int .i64 d)
 c4:w.cell? ⟨R,4,none⟩=some (.bool bad)
 f0:w.frozen? ⟨R,0,none⟩=false
 f1:w.frozen? ⟨R,1,none⟩=false
 f2:w.frozen? ⟨R,2,none⟩=false
 f3:w.frozen? ⟨R,3,none⟩=false
 f4:w.frozen? ⟨R,4,none⟩=false
 lt:R<w.heap.size
 c5:∀o,5<=o->w.cell? ⟨R,o,none⟩=none
abbrev OnR (R:Nat):Nat->Prop:=fun k=>k=R
section
variable {w w':World} {R:Nat} {s:ByteArray} {p m d:Int} {bad:Bool}
theorem Q0q.step (h:Q0q w R s p m d bad) (hb:Bw w w'):Q0q w' R s p m d bad:=
 ⟨(hb.cell (p:=⟨R,0,none⟩) h.lt).trans h.c0,(hb.cell (p:=⟨R,1,none⟩) h.lt).trans h.c1,(hb.cell (p:=⟨R,2,none⟩) h.lt).trans h.c2,(hb.cell (p:=⟨R,3,none⟩) h.lt).trans h.c3,(hb.cell (p:=⟨R,4,none⟩) h.lt).trans h.c4,
   (hb.frozen (p:=⟨R,0,none⟩) h.lt).trans h.f0,(hb.frozen (p:=⟨R,1,none⟩) h.lt).trans h.f1,(hb.frozen (p:=⟨R,2,none⟩) h.lt).trans h.f2,(hb.frozen (p:=⟨R,3,none⟩) h.lt).trans h.f3,(hb.frozen (p:=⟨R,4,none⟩) h.lt).trans h.f4,Ue h.lt hb.size,fun o ho=>(hb.cell (p:=⟨R,o,none⟩) h.lt).trans (h.c5 o ho)⟩
theorem Q0q.drewN (h:Q0q w R s p m d bad) (k:Nat):Q0q (w.drewN k) R s p m d bad:=⟨h.c0,h.c1,h.c2,h.c3,h.c4,h.f0,h.f1,h.f2,h.f3,h.f4,h.lt,h.c5⟩
theorem Q0q.drew (h:Q0q w R s p m d bad):Q0q w.drew R s p m d bad:=⟨h.c0,h.c1,h.c2,h.c3,h.c4,h.f0,h.f1,h.f2,h.f3,h.f4,h.lt,h.c5⟩
theorem Q0q.setAt (h:Q0q w R s p m d bad) (q:Int):Q0q (w.setCell ⟨R,1,none⟩ (.int .i64 q)) R s q m d bad:=
 ⟨(Uc _ _ _ _ (by simp)).trans h.c0,UE _ _ _ (by rw[h.c1];rfl),(Uc _ _ _ _ (by simp)).trans h.c2,(Uc _ _ _ _ (by simp)).trans h.c3,(Uc _ _ _ _ (by simp)).trans h.c4,
   (Uh _ _ _ _).trans h.f0,(Uh _ _ _ _).trans h.f1,(Uh _ _ _ _).trans h.f2,(Uh _ _ _ _).trans h.f3,(Uh _ _ _ _).trans h.f4,by rw[UV];exact h.lt,fun o ho=>(Uc _ _ _ _ (fun e=>by injection e with _ e _;omega)).trans (h.c5 o ho)⟩
theorem Q0q.setDeep (h:Q0q w R s p m d bad) (q:Int):Q0q (w.setCell ⟨R,3,none⟩ (.int .i64 q)) R s p m q bad:=
 ⟨(Uc _ _ _ _ (by simp)).trans h.c0,(Uc _ _ _ _ (by simp)).trans h.c1,(Uc _ _ _ _ (by simp)).trans h.c2,UE _ _ _ (by rw[h.c3];rfl),(Uc _ _ _ _ (by simp)).trans h.c4,
   (Uh _ _ _ _).trans h.f0,(Uh _ _ _ _).trans h.f1,(Uh _ _ _ _).trans h.f2,(Uh _ _ _ _).trans h.f3,(Uh _ _ _ _).trans h.f4,by rw[UV];exact h.lt,fun o ho=>(Uc _ _ _ _ (fun e=>by injection e with _ e _;omega)).trans (h.c5 o ho)⟩
theorem Q0q.setBad (h:Q0q w R s p m d bad) (q:Bool):Q0q (w.setCell ⟨R,4,none⟩ (.bool q)) R s p m d q:=
 ⟨(Uc _ _ _ _ (by simp)).trans h.c0,(Uc _ _ _ _ (by simp)).trans h.c1,(Uc _ _ _ _ (by simp)).trans h.c2,(Uc _ _ _ _ (by simp)).trans h.c3,UE _ _ _ (by rw[h.c4];rfl),
   (Uh _ _ _ _).trans h.f0,(Uh _ _ _ _).trans h.f1,(Uh _ _ _ _).trans h.f2,(Uh _ _ _ _).trans h.f3,(Uh _ _ _ _).trans h.f4,by rw[UV];exact h.lt,fun o ho=>(Uc _ _ _ _ (fun e=>by injection e with _ e _;omega)).trans (h.c5 o ho)⟩
theorem Q0g (w:World) (R o:Nat) (v:Value):Q0f (OnR R) w (w.setCell ⟨R,o,none⟩ v):=Q0f.setCell (OnR R) w rfl v
end
def nxB (s:LU) (p:Nat) (bad:Bool):UInt8:=if bad=true then 0 else Q06 s p
def skS (s:LU) (p:Nat) (bad:Bool):Nat:=if bad=true then p else Q03 s p
theorem Qwd {s:LU} {p:Nat} {bad:Bool} (h:nxB s p bad≠0):bad=false/\p<s.length/\nxB s p bad=Q06 s p:=by
 unfold nxB at h⊢;cases bad
 ·exact ⟨rfl,Q6b (by simpa using h),rfl⟩
 ·exact absurd rfl h
def Qwe (fp:Nat->Prop) (a:OA) (L:LN):Prop:=L=[]∨∀x,a=some x->¬fp x.block
theorem WordsIn.turn {w w':World} {fp fq:Nat->Prop} {a:OA} {n c:Nat} {L:LN} (h:WordsIn w a n c L) (ho:Qwe fp a L) (ht:Q0f fq w w') (hs:∀k,fq k->fp k):WordsIn w' a n c L:=by
 refine ⟨h.len,h.cap,h.most,h.low,?_⟩;rcases ho with rfl|ho
 ·exact .inl rfl
 rcases h.rd with h0|⟨b,o,rfl,hb,hc⟩
 ·exact .inl h0
 ·exact .inr ⟨b,o,rfl,Ue hb ht.size,fun j x hx=>(ht.cell (p:=⟨b,o+j,none⟩) hb (fun hk=>ho _ rfl (hs _ hk))).trans (hc j x hx)⟩
theorem Qwe.more {w:World} {fp fp':Nat->Prop} {a:OA} {n c:Nat} {L:LN} (ho:Qwe fp a L) (h:WordsIn w a n c L) (hs:∀k,fp' k->fp k∨w.heap.size<=k):Qwe fp' a L:=by
 rcases ho with rfl|ho
 ·exact .inl rfl
 rcases h.rd with h0|⟨b,o,rfl,hb,hc⟩
 ·exact .inl h0
 ·refine .inr fun x hx hk=>?_;injection hx with hx;subst hx;rcases hs _ hk with h1|h1
  ·exact ho _ rfl h1
  ·exact absurd hb (Nat.not_lt_of_le h1)
mutual
def Q2v (fp:Nat->Prop) (w:World):Ex->Value->Prop
 | .num none,v=>∃(b:Bool) (e:Int) (a:OA) (l k:Nat),v=.iface 123 (.agg #[.bool b,.int .i64 e,.slice a l k,.int .i64 2])
 | .num (some c),v=>∃n e a l k L,v=.iface 123 (.agg #[.bool n,.int .i64 e,.slice a l k,.int .i64 0])/\WordsIn w a l k L/\Qwe fp a L/\Q0i n e L/\Q28 n e L=c
 | .var i,v=>v=.iface 126 (.agg #[.int .i64 (i:Int)])
 | .sum l,v=>∃a b c d,v=.iface 130 (.agg #[.slice (some ⟨a,0,none⟩) l.length c,.slice (some ⟨b,0,none⟩) l.length d])/\¬fp a/\¬fp b/\a<w.heap.size/\b<w.heap.size/\l.length<=c/\c<=maxLen/\l.length<=d/\d<=maxLen/\l≠[]/\Qb4 fp w a b 0 l
 | .prod l,v=>∃a c,v=.iface 133 (.agg #[.slice (some ⟨a,0,none⟩) l.length c])/\¬fp a/\a<w.heap.size/\l.length<=c/\c<=maxLen/\l≠[]/\Qa8 fp w a 0 l
 | .pow x k,v=>∃u,v=.iface 136 (.agg #[u,.int .i64 (k:Int)])/\Q2v fp w x u
def Qb4 (fp:Nat->Prop) (w:World) (a b:Nat) (o:Nat):List (Bool × Ex)->Prop
 |[]=>True
 |(t,x)::r=>(∃u,w.cell? ⟨a,o,none⟩=some u/\Q2v fp w x u)/\w.cell? ⟨b,o,none⟩=some (.bool t)/\Qb4 fp w a b (o+1) r
def Qa8 (fp:Nat->Prop) (w:World) (a:Nat) (o:Nat):List Ex->Prop
 |[]=>True
 |x::r=>(∃u,w.cell? ⟨a,o,none⟩=some u/\Q2v fp w x u)/\Qa8 fp w a (o+1) r
end
mutual
theorem Q2v.turn {fp fq:Nat->Prop} {w w':World} (ht:Q0f fq w w') (hs:∀k,fq k->fp k):∀{x:Ex} {v:Value},Q2v fp w x v->Q2v fp w' x v
 | .num none,v,h=>by rw[Q2v] at h⊢;exact h
 | .num (some c),v,h=>by
   rw[Q2v] at h⊢;obtain ⟨n,e,a,l,k,L,rfl,h1,h2,h3,h4⟩:=h;exact ⟨n,e,a,l,k,L,rfl,h1.turn h2 ht hs,h2,h3,h4⟩
 | .var i,v,h=>by rw[Q2v] at h⊢;exact h
 | .sum l,v,h=>by
   rw[Q2v] at h⊢;obtain ⟨a,b,c,d,h0,h1,h2,h3,h4,h5,h6,h7,h8,h9,u9⟩:=h;exact ⟨a,b,c,d,h0,h1,h2,Ue h3 ht.size,Ue h4 ht.size,h5,h6,h7,h8,h9,Qb4.turn ht hs (fun hk=>h1 (hs _ hk)) (fun hk=>h2 (hs _ hk)) h3 h4 u9⟩
 | .prod l,v,h=>by
   rw[Q2v] at h⊢;obtain ⟨a,c,h0,h1,h2,h3,h4,h5,h6⟩:=h;exact ⟨a,c,h0,h1,Ue h2 ht.size,h3,h4,h5,Qa8.turn ht hs (fun hk=>h1 (hs _ hk)) h2 h6⟩
 | .pow x k,v,h=>by
   rw[Q2v] at h⊢;obtain ⟨u,h0,h1⟩:=h;exact ⟨u,h0,Q2v.turn ht hs h1⟩
theorem Qb4.turn {fp fq:Nat->Prop} {w w':World} (ht:Q0f fq w w') (hs:∀k,fq k->fp k) {a b:Nat} (ha:¬fq a) (hb:¬fq b) (Zp:a<w.heap.size) (D0:b<w.heap.size):∀{l:List (Bool × Ex)} {o:Nat},Qb4 fp w a b o l->Qb4 fp w' a b o l
 |[],_,_=>by rw[Qb4];trivial
 |(t,x)::r,o,h=>by
  rw[Qb4] at h⊢;obtain ⟨⟨u,h1,h2⟩,h3,h4⟩:=h;exact ⟨⟨u,(ht.cell (p:=⟨a,o,none⟩) Zp ha).trans h1,Q2v.turn ht hs h2⟩,(ht.cell (p:=⟨b,o,none⟩) D0 hb).trans h3,Qb4.turn ht hs ha hb Zp D0 h4⟩
theorem Qa8.turn {fp fq:Nat->Prop} {w w':World} (ht:Q0f fq w w') (hs:∀k,fq k->fp k) {a:Nat} (ha:¬fq a) (Zp:a<w.heap.size):∀{l:List Ex} {o:Nat},Qa8 fp w a o l->Qa8 fp w' a o l
 |[],_,_=>by rw[Qa8];trivial
 |x::r,o,h=>by
  rw[Qa8] at h⊢;obtain ⟨⟨u,h1,h2⟩,h4⟩:=h;exact ⟨⟨u,(ht.cell (p:=⟨a,o,none⟩) Zp ha).trans h1,Q2v.turn ht hs h2⟩,Qa8.turn ht hs ha Zp h4⟩
end
mutual
theorem Q2v.more {fp fp':Nat->Prop} {w:World} (hs:∀k,fp' k->fp k∨w.heap.size<=k):∀{x:Ex} {v:Value},Q2v fp w x v->Q2v fp' w x v
 | .num none,v,h=>by rw[Q2v] at h⊢;exact h
 | .num (some c),v,h=>by
   rw[Q2v] at h⊢;obtain ⟨n,e,a,l,k,L,rfl,h1,h2,h3,h4⟩:=h;exact ⟨n,e,a,l,k,L,rfl,h1,h2.more h1 hs,h3,h4⟩
 | .var i,v,h=>by rw[Q2v] at h⊢;exact h
 | .sum l,v,h=>by
   rw[Q2v] at h⊢;obtain ⟨a,b,c,d,h0,h1,h2,h3,h4,h5,h6,h7,h8,h9,u9⟩:=h;exact ⟨a,b,c,d,h0,fun hk=>(hs _ hk).elim h1 (Nat.not_le_of_lt h3),fun hk=>(hs _ hk).elim h2 (Nat.not_le_of_lt h4),h3,h4,h5,h6,h7,h8,h9,Qb4.more hs u9⟩
 | .prod l,v,h=>by
   rw[Q2v] at h⊢;obtain ⟨a,c,h0,h1,h2,h3,h4,h5,h6⟩:=h;exact ⟨a,c,h0,fun hk=>(hs _ hk).elim h1 (Nat.not_le_of_lt h2),h2,h3,h4,h5,Qa8.more hs h6⟩
 | .pow x k,v,h=>by
   rw[Q2v] at h⊢;obtain ⟨u,h0,h1⟩:=h;exact ⟨u,h0,Q2v.more hs h1⟩
theorem Qb4.more {fp fp':Nat->Prop} {w:World} (hs:∀k,fp' k->fp k∨w.heap.size<=k) {a b:Nat}:∀{l:List (Bool × Ex)} {o:Nat},Qb4 fp w a b o l->Qb4 fp' w a b o l
 |[],_,_=>by rw[Qb4];trivial
 |(t,x)::r,o,h=>by
  rw[Qb4] at h⊢;obtain ⟨⟨u,h1,h2⟩,h3,h4⟩:=h;exact ⟨⟨u,h1,Q2v.more hs h2⟩,h3,Qb4.more hs h4⟩
theorem Qa8.more {fp fp':Nat->Prop} {w:World} (hs:∀k,fp' k->fp k∨w.heap.size<=k) {a:Nat}:∀{l:List Ex} {o:Nat},Qa8 fp w a o l->Qa8 fp' w a o l
 |[],_,_=>by rw[Qa8];trivial
 |x::r,o,h=>by
  rw[Qa8] at h⊢;obtain ⟨⟨u,h1,h2⟩,h4⟩:=h;exact ⟨⟨u,h1,Q2v.more hs h2⟩,Qa8.more hs h4⟩
end
theorem Q2v.step {fp:Nat->Prop} {w w':World} {x:Ex} {v:Value} (h:Q2v fp w x v) (hb:Bw w w'):Q2v fp w' x v:=h.turn (Q0f.of_below hb fun _=>False) fun _ h=>h.elim
def Q1b (fp:Nat->Prop) (w:World):List Ex->LV->Prop
 |[],[]=>True
 |x::r,v::s=>Q2v fp w x v/\Q1b fp w r s
 |_,_=>False
theorem Q1b.turn {fp fq:Nat->Prop} {w w':World} (ht:Q0f fq w w') (hs:∀k,fq k->fp k):∀{l:List Ex} {vs:LV},Q1b fp w l vs->Q1b fp w' l vs
 |[],[],h=>h
 |_::_,_::_,h=>⟨h.1.turn ht hs,Q1b.turn ht hs h.2⟩
 |[],_::_,h=>h.elim
 |_::_,[],h=>h.elim
theorem Q1b.more {fp fp':Nat->Prop} {w:World} (hs:∀k,fp' k->fp k∨w.heap.size<=k):∀{l:List Ex} {vs:LV},Q1b fp w l vs->Q1b fp' w l vs
 |[],[],h=>h
 |_::_,_::_,h=>⟨h.1.more hs,Q1b.more hs h.2⟩
 |[],_::_,h=>h.elim
 |_::_,[],h=>h.elim
theorem Q1b.len {fp:Nat->Prop} {w:World}:∀{l:List Ex} {vs:LV},Q1b fp w l vs->l.length=vs.length
 |[],[],_=>rfl
 |_::_,_::_,h=>congrArg (·+1) (Q1b.len h.2)
 |[],_::_,h=>h.elim
 |_::_,[],h=>h.elim
theorem Q1b.snoc {fp:Nat->Prop} {w:World} {x:Ex} {v:Value} (hx:Q2v fp w x v):∀{l:List Ex} {vs:LV},Q1b fp w l vs->Q1b fp w (l++[x]) (vs++[v])
 |[],[],_=>⟨hx,trivial⟩
 |_::_,_::_,h=>⟨h.1,Q1b.snoc hx h.2⟩
 |[],_::_,h=>h.elim
 |_::_,[],h=>h.elim
theorem Q1b.row {fp:Nat->Prop} {w:World} {g:Nat}:∀{l:List Ex} {vs:LV} (o:Nat),Q1b fp w l vs->(∀(j:Nat) v,vs[j]?=some v->w.cell? ⟨g,o+j,none⟩=some v)->Qa8 fp w g o l
 |[],[],_,_,_=>by rw[Qa8];trivial
 |_::_,v::_,o,h,hc=>by
  rw[Qa8];refine ⟨⟨v,by simpa using hc 0 v rfl,h.1⟩,Q1b.row (o+1) h.2 fun j u hu=>?_⟩;have:=hc (j+1) u (by simpa using hu);rwa[show o+(j+1)=o+1+j by omega] at this
 |[],_::_,_,h,_=>h.elim
 |_::_,[],_,h,_=>h.elim
theorem Q1b.rows {fp:Nat->Prop} {w:World} {g b:Nat}:∀{l:List (Bool × Ex)} {vs:LV} (o:Nat),Q1b fp w (l.map (·.2)) vs->(∀(j:Nat) v,vs[j]?=some v->w.cell? ⟨g,o+j,none⟩=some v)->(∀(j:Nat) t,(l.map (·.1))[j]?=some t->w.cell? ⟨b,o+j,none⟩=some (.bool t))->Qb4 fp w g b o l
 |[],[],_,_,_,_=>by rw[Qb4];trivial
 |(t,_)::_,v::_,o,h,hc,hb=>by
  rw[Qb4];refine ⟨⟨v,by simpa using hc 0 v rfl,h.1⟩,by simpa using hb 0 t rfl,Q1b.rows (o+1) h.2 (fun j u hu=>?_) fun j u hu=>?_⟩
  ·have:=hc (j+1) u (by simpa using hu);rwa[show o+(j+1)=o+1+j by omega] at this
  ·have:=hb (j+1) u (by simpa using hu);rwa[show o+(j+1)=o+1+j by omega] at this
 |[],_::_,_,h,_,_=>h.elim
 |_::_,[],_,h,_,_=>h.elim
def Q6p (R:Nat) (s:ByteArray) (m d:Int) (res:PR Ex) (w:World) (e:Ending) (w':World):Prop:=
 ∃t u,e=.returned (.iface t u)/\Q0f (OnR R) w w'/\match res with
  | .ok (x,q)=>Q2v (·<w.heap.size) w' x (.iface t u)/\Q0q w' R s (q:Int) m d false/\q<=s.size
  | .error q=>Q0q w' R s (q:Int) m d true/\q<=s.size
def Q3d (Pr:Value->Prop) (w:World) (B:Nat) (e:TypeId) (k:Nat) (a:OA) (n c:Nat) (xs:LV):Prop:=
 Row w B e k a n c xs/\∀g cur T fr,a=some ⟨g,0,none⟩->w.heap[g]?=some (.cells cur T fr)->∀u∈cur.toList,Pr u
theorem Q3d.nil_ (Pr:Value->Prop) (w:World) (B:Nat) (e:TypeId) (k:Nat):Q3d Pr w B e k none 0 0 []:=⟨Row.nil_ _ _ _ _,fun _ _ _ _ h=>nomatch h⟩
theorem Q3d.keep {Pr:Value->Prop} {w w':World} {B:Nat} {e:TypeId} {k:Nat} {a:OA} {n c:Nat} {xs:LV} (h:Q3d Pr w B e k a n c xs) (hk:∀x,a=some x->w'.heap[x.block]?=w.heap[x.block]?):Q3d Pr w' B e k a n c xs:=by
 refine ⟨⟨h.1.1,?_⟩,fun g cur T fr ha hh=>h.2 g cur T fr ha ((hk _ ha).symm.trans hh)⟩;rcases h.1.2 with h2|⟨g,cap,cur,hv,hB,hh,hr⟩
 ·exact .inl h2
 ·refine .inr ⟨g,cap,cur,hv,hB,?_,hr⟩;injection hv with e1;exact (hk _ e1).trans hh
theorem Q3d.step {Pr:Value->Prop} {w w':World} {B:Nat} {e:TypeId} {k:Nat} {a:OA} {n c:Nat} {xs:LV} (h:Q3d Pr w B e k a n c xs) (hb:Bw w w'):Q3d Pr w' B e k a n c xs:=
 h.keep fun _ hx=>hb.block _ (row2_lt h.1 hx)
where
 row2_lt {w:World} {B:Nat} {e:TypeId} {k:Nat} {a:OA} {n c:Nat} {xs:LV} (h:Row w B e k a n c xs) {x:Addr} (hx:a=some x):x.block<w.heap.size:=by
  rcases h.form with ⟨h0,_⟩|⟨g,cur,h0,h1,h2,_⟩
  ·rw[h0] at hx;cases hx
  ·rw[h0] at hx;injection hx with hx;subst hx;exact h2
theorem Qfe {z:Array Value} {n:Nat} {u:Value} (h:u∈(Builtin.zeroCells z n).toList):u∈z.toList:=by
 unfold Builtin.zeroCells at h;simp only[Array.toList_map,Array.toList_range,Tm,List.mem_range] at h;obtain ⟨i,hi,rfl⟩:=h;have hz:0<z.size:=Nat.pos_of_ne_zero fun e=>by rw[e,Nat.mul_zero] at hi;omega
 have B0:=TG i hz;rw[getElem!_pos z (i%z.size) B0];exact Xbo.2 (Array.getElem_mem B0)
theorem Qho (w:World) (g:Nat) (cs:Array Value):w.grownBy (w.setRow g cs) (some g):=⟨rfl,rfl,rfl,by rw[size_setRow];exact Ug _,fun k _ hn=>setRow_other w g k cs (fun e=>hn (by rw[e]))⟩
theorem Q6i {P:Program} (Pr:Value->Prop) (w:World) (t ty e:TypeId) (i:TypeInfo) (z:Value) (k bytes:Nat) (ht:P.underlying t=some (.slice e)) (hi:P.info? e=some i) (hz:i.zero=some z) (A9:i.size=k) (XY:i.bytes=bytes) (Zt:z.cells.size=k)
 (hzp:∀u∈z.cells.toList,Pr u) (B:Nat) (hB:B<=w.heap.size) (a:OA) (n c:Nat) (xs:LV) (h:Q3d Pr w B e k a n c xs)
 (x0:Addr) (m d:Nat) (news:LV) (hl:news.length=m*k) (j8:∀j u,news[j]?=some u->w.cell? (x0.add j)=some u) (h1:∀u∈news,u.oneCell'=true) (hp:∀u∈news,Pr u)
 (hm:0<m) (hn:n+m<=1000000) (hb:bytes<=1000) (hk:0<k):
 ∃g c' w',(Builtin.append_ #[t,t] ty #[.slice a n c,.slice (some x0) m d]).run P w=.ok (.slice (some ⟨g,0,none⟩) (n+m) c') w'/\Q3d Pr w' B e k (some ⟨g,0,none⟩) (n+m) c' (xs++news)/\w.grownBy w' (a.map (·.block))/\(a=some ⟨g,0,none⟩∨g=w.heap.size):=by
 subst A9;have hnb:(n+m)*bytes<=1000000*1000:=Nat.mul_le_mul hn hb;have Kk:m*bytes<=1000000*1000:=Nat.mul_le_mul (by omega) hb;have Z9:=h.1.len;have z6:(xs++news).length=(n+m)*i.size:=by rw[Uj,Z9,hl,Ti]
 have fresh:∀(cap:Nat),n+m<=cap->cap<=maxLen->Q3d Pr (w.drew.alloc (.cells (xs.toArray++news.toArray++Builtin.zeroCells z.cells (cap-(n+m))) e)) B e i.size (some ⟨w.heap.size,0,none⟩) (n+m) cap (xs++news):=by
  intro cap N1 E1;have hh:(w.drew.alloc (.cells (xs.toArray++news.toArray++Builtin.zeroCells z.cells (cap-(n+m))) e)).heap[w.heap.size]?=some (.cells (xs.toArray++news.toArray++Builtin.zeroCells z.cells (cap-(n+m))) e (0,0)):=Ul w.drew _;refine ⟨⟨z6,.inr ⟨w.heap.size,cap,_,rfl,hB,hh,N1,E1,?_,?_⟩⟩,fun g cur T fr hg P9 u hu=>?_⟩
  ·simp only[Array.size_append,List.size_toArray,size_zeroCells,Zt];rw[<-Uj,z6,<-Ti]
   congr 1;omega
  ·simp only[Array.toList_append];rw[List.take_append_of_le_length (by rw[z6];exact Ug _),UA (by rw[z6];exact Ug _)]
  ·injection hg with hg;injection hg with hg;subst hg;rw[hh] at P9;injection P9 with P9;injection P9 with P9 _ _;subst P9;simp only[Array.toList_append,UY] at hu;rcases hu with (hu|hu)|hu
   ·rcases h.1.form with ⟨_,_,_,h0⟩|⟨g2,cur2,e2,_,_,hh2,_,_,_,B6⟩
    ·rw[h0] at hu;cases hu
    ·refine h.2 g2 cur2 _ _ e2 hh2 u ?_;rw[<-B6] at hu;exact Ty hu
   ·exact hp u hu
   ·exact hzp u (Qfe hu)
 rcases h.1.form with ⟨rfl,rfl,rfl,rfl⟩|⟨g,cur,rfl,hgB,ZM,hh,hnc,E4,M8,B6⟩
 ·have I1:=run_append_nil (P:=P) w t ty e i z ht hi hz x0 m d news hl j8 hm (by omega) (by rw[XY];omega);have hf:=fresh (grownCap w m 0 e) (by rw[UB];exact grownCap_ge w m 0 e) (grownCap_le_maxLen w m 0 e (by unfold maxLen;omega));refine ⟨w.heap.size,grownCap w m 0 e,_,by rw[UB];exact I1,?_,?_,.inr rfl⟩
  ·simpa using hf
  ·exact ⟨rfl,rfl,rfl,by rw[Uo];exact Xav _,fun k hk _=>(Below.alloc (Uf w.drew.heap.size w.drew) (Ug _) _).block k hk⟩
 ·by_cases hroom:n+m<=c
  ·have M3:n*i.size+news.length<=cur.size:=(by rw[M8,hl,<-Ti];exact Tp _ hroom);have I1:=run_append_room (P:=P) w t ty e i ht hi g n c cur hh x0 m d news hl j8 h1 hroom M3;refine ⟨g,c,_,I1,?_,Qho w g _,.inl rfl⟩;have hh':=setRow_heap w g cur (cur.toList.take (n*i.size)++news++cur.toList.drop (n*i.size+news.length)).toArray e (0,0) hh;refine ⟨⟨z6,.inr ⟨g,c,_,rfl,hgB,hh',hroom,E4,?_,?_⟩⟩,fun g2 cur2 T fr Y6 P9 u hu=>?_⟩
   ·simp only[List.size_toArray,Uj,Tn,Te,Xbc];omega
   ·rw[List.toList_toArray,B6,List.take_append_of_le_length (by rw[z6];exact Ug _),UA (by rw[z6];exact Ug _)]
   ·injection Y6 with Y6;injection Y6 with Y6;subst Y6;rw[hh'] at P9;injection P9 with P9;injection P9 with P9 _ _;subst P9;rw[List.toList_toArray] at hu;rcases UY.1 hu with hu|hu
    ·rcases UY.1 hu with hu|hu
     ·exact h.2 g cur _ _ rfl hh u (Ty hu)
     ·exact hp u hu
    ·exact h.2 g cur _ _ rfl hh u (Xbn hu)
  ·have holds:∀j v,xs[j]?=some v->w.cell? ((⟨g,0,none⟩:Addr).add j)=some v:=fun j v hv=>by
    have I6:(⟨g,0,none⟩:Addr).add j=⟨g,j,none⟩:=(by unfold Addr.add;split <;> simp_all);rw[I6];obtain ⟨g',e',_,_,hc⟩:=h.1.at_ hv;injection e' with e';injection e' with e';subst e';exact hc
   have V3:=growslice_fits (need:=n+m) (old:=c) (bytes:=i.bytes) (by omega) (by rw[XY];omega);have I1:=run_append_grow (P:=P) w t ty e i z ht hi hz ⟨g,0,none⟩ n c xs Z9 holds x0 m d news hl j8 (by omega) (by omega) V3;have hf:=fresh (grownCap w (n+m) c e) (grownCap_ge w (n+m) c e) (grownCap_le_maxLen w (n+m) c e (by unfold maxLen;omega));refine ⟨w.heap.size,grownCap w (n+m) c e,_,I1,hf,?_,.inr rfl⟩;exact ⟨rfl,rfl,rfl,by rw[Uo];exact Xav _,fun k hk _=>(Below.alloc (Uf w.drew.heap.size w.drew) (Ug _) _).block k hk⟩
theorem Q12 {P:Program} (Pr:Value->Prop) (w:World) (t ty e:TypeId) (i:TypeInfo) (z:Value) (k bytes:Nat) (ht:P.underlying t=some (.slice e)) (hi:P.info? e=some i) (hz:i.zero=some z) (A9:i.size=k) (XY:i.bytes=bytes) (Zt:z.cells.size=k)
 (hzp:∀u∈z.cells.toList,Pr u) (B:Nat) (hB:B<=w.heap.size) (a:OA) (n c:Nat) (xs:LV) (h:Q3d Pr w B e k a n c xs)
 (b m d:Nat) (news:LV) (hl:news.length=m*k) (j8:∀j u,news[j]?=some u->w.cell? ((⟨b,0,none⟩:Addr).add j)=some u) (h1:∀u∈news,u.oneCell'=true) (hp:∀u∈news,Pr u)
 (hm:0<m) (hn:n+m<=1000000) (hb:bytes<=1000) (hk:0<k):
 ∃g c' w',(Builtin.append_ #[t,t] ty #[.slice a n c,.slice (some ⟨b,0,none⟩) m d]).run P w=.ok (.slice (some ⟨g,0,none⟩) (n+m) c') w'/\Q3d Pr w' B e k (some ⟨g,0,none⟩) (n+m) c' (xs++news)/\w.grownBy w' (a.map (·.block))/\(a=some ⟨g,0,none⟩∨g=w.heap.size):=
 Q6i Pr w t ty e i z k bytes ht hi hz A9 XY Zt hzp B hB a n c xs h ⟨b,0,none⟩ m d news hl j8 h1 hp hm hn hb hk
def NoU (v:Value):Prop:=∀x:Nat,v≠nv .u64 x
theorem Q3d.off {w:World} {B:Nat} {e:TypeId} {k:Nat} {a:OA} {n c:Nat} {xs:LV} (h:Q3d NoU w B e k a n c xs) {aw:OA} {l cw:Nat} {L:LN} (hw:WordsIn w aw l cw L):Qwe (fun b=>∃x,a=some x/\x.block=b) aw L:=by
 rcases hw.rd with h0|⟨b,o,rfl,hb,hc⟩
 ·exact .inl h0
 cases L with
 |nil=>exact .inl rfl
 |cons y r=>
  refine .inr fun x hx ⟨z,hz,e⟩=>?_;injection hx with hx;subst hx;have h1:=hc 0 y rfl;rcases h.1.form with ⟨h0,_⟩|⟨g,cur,h0,_,_,hh,_⟩
  ·rw[h0] at hz;cases hz
  ·have hz':=hz;rw[h0] at hz';injection hz' with hz';subst hz';have e:g=b:=e;subst e;rw[Ux _ _ _ _ _ _ hh] at h1;exact h.2 g cur _ _ h0 hh _ (Xbo.2 (Array.mem_of_getElem? h1)) y rfl
theorem Q3d.set {Pr:Value->Prop} {w:World} {B:Nat} {e:TypeId} {k g n c:Nat} {xs:LV} (h:Q3d Pr w B e k (some ⟨g,0,none⟩) n c xs) (i:Nat) {u:Value} (hu:Pr u):Q3d Pr (w.setCell ⟨g,i,none⟩ u) B e k (some ⟨g,0,none⟩) n c (xs.set i u):=by
 refine ⟨h.1.set0 i u,fun g2 cur T fr hg hh v hv=>?_⟩;injection hg with hg;injection hg with hg;subst hg;rcases h.1.form with ⟨h0,_⟩|⟨g',cur',e1,_,_,hh',_⟩
 ·cases h0
 ·injection e1 with e1;injection e1 with e1;subst e1;rw[heap_setCell_same _ _ _ _ _ _ hh'] at hh;injection hh with hh;injection hh with hh _ _;subst hh;rw[Xal] at hv;rcases List.mem_or_eq_of_mem_set hv with hv|rfl
  ·exact h.2 _ _ _ _ rfl hh' v hv
  ·exact hu
def Qtw (w:World) (g o:Nat) (m:Q01):Prop:=∃aw lw cw be oe le ce,w.cell? ⟨g,o,none⟩=some (.bool m.neg)/\w.cell? ⟨g,o+1,none⟩=some (.int .i64 m.exp)/\w.cell? ⟨g,o+2,none⟩=some (.slice aw lw cw)/\w.cell? ⟨g,o+3,none⟩=some (.slice (some ⟨be,oe,none⟩) le ce)/\
 WordsIn w aw lw cw m.ws/\Q0j w (some ⟨be,oe,none⟩) le ce m.es/\be≠g/\be<w.heap.size
theorem Qtw.via {w w':World} {g g' o:Nat} {m:Q01} (h:Qtw w g o m) (hs:w.heap.size<=w'.heap.size) (hc:∀j,j<4->w'.cell? ⟨g',o+j,none⟩=w.cell? ⟨g,o+j,none⟩) (hw:∀aw lw cw,WordsIn w aw lw cw m.ws->WordsIn w' aw lw cw m.ws) (hi:∀be,be≠g->be<w.heap.size->be≠g'/\w'.heap[be]?=w.heap[be]?):Qtw w' g' o m:=by
 obtain ⟨aw,lw,cw,be,oe,le,ce,h0,h1,h2,h3,h4,h5,h6,h7⟩:=h;obtain ⟨i1,i2⟩:=hi be h6 h7;refine ⟨aw,lw,cw,be,oe,le,ce,(hc 0 (by decide)).trans h0,(hc 1 (by decide)).trans h1,(hc 2 (by decide)).trans h2,(hc 3 (by decide)).trans h3,hw _ _ _ h4,⟨h5.len,h5.cap,h5.most,h5.rng,?_⟩,i1,Ue h7 hs⟩;rcases h5.rd with h8|⟨b,oo,e,hb,Y2⟩
 ·exact .inl h8
 ·injection e with e;injection e with e1 e2;subst e1;subst e2;exact .inr ⟨be,oe,rfl,Ue hb hs,fun j x hx=>(Td (a:=⟨be,oe+j,none⟩) i2).trans (Y2 j x hx)⟩
theorem WordsIn.onBlock {w w':World} {aw:OA} {l c:Nat} {L:LN} (h:WordsIn w aw l c L) (hs:w.heap.size<=w'.heap.size) (mb:Nat) (Kk:∀o,w.cell? ⟨mb,o,none⟩=none) (hk:∀k,k<w.heap.size->k≠mb->w'.heap[k]?=w.heap[k]?):WordsIn w' aw l c L:=by
 refine ⟨h.len,h.cap,h.most,h.low,?_⟩;rcases h.rd with h0|⟨b,o,rfl,hb,hc⟩
 ·exact .inl h0
 ·refine .inr ⟨b,o,rfl,Ue hb hs,fun j x hx=>?_⟩;have h1:=hc j x hx;have C1:b≠mb:=fun e=>by subst e;rw[Kk] at h1;cases h1
  exact (Td (a:=⟨b,o+j,none⟩) (hk b hb C1)).trans h1
structure Q19 (B:Nat) (w:World) (a:OA) (n c:Nat) (all:List Q01):Prop where
 row:∃xs,Q3d NoU w B 44 4 a n c xs
 ent:∀j m,all[j]?=some m->∃g,a=some ⟨g,0,none⟩/\Qtw w g (j*4) m
 len:all.length=n
theorem Q19.nil_ (B:Nat) (w:World):Q19 B w none 0 0 []:=⟨⟨[],Q3d.nil_ _ _ _ _ _⟩,fun j m h=>by simp at h,rfl⟩
theorem Q19.lt {B:Nat} {w:World} {a:OA} {n c:Nat} {all:List Q01} (h:Q19 B w a n c all) {x:Addr} (hx:a=some x):B<=x.block/\x.block<w.heap.size:=by
 obtain ⟨xs,hr⟩:=h.row;exact row2_blk hr.1 hx
where
 row2_blk {w:World} {B k:Nat} {T:TypeId} {a:OA} {n c:Nat} {vs:LV} (h:Row w B T k a n c vs) {x:Addr} (hx:a=some x):B<=x.block/\x.block<w.heap.size:=by
  rcases h.form with ⟨h0,_⟩|⟨g,cur,h0,h1,h2,_⟩
  ·rw[h0] at hx;cases hx
  ·rw[h0] at hx;injection hx with hx;subst hx;exact ⟨h1,h2⟩
theorem Q19.onBlock {B:Nat} {w w':World} {a:OA} {n c:Nat} {all:List Q01} (h:Q19 B w a n c all) (hs:w.heap.size<=w'.heap.size) (mb:Nat) (Kk:∀o,w.cell? ⟨mb,o,none⟩=none) (ham:∀x,a=some x->x.block≠mb) (hk:∀k,k<w.heap.size->k≠mb->w'.heap[k]?=w.heap[k]?):Q19 B w' a n c all:=by
 obtain ⟨xs,hr⟩:=h.row;refine ⟨⟨xs,hr.keep fun x hx=>hk _ (h.lt hx).2 (ham x hx)⟩,fun j m hm=>?_,h.len⟩;obtain ⟨g,ha,hE⟩:=h.ent j m hm;have hg:=h.lt ha;have V0:∀o,w'.cell? ⟨g,o,none⟩=w.cell? ⟨g,o,none⟩:=fun o=>Td (a:=⟨g,o,none⟩) (hk g hg.2 (ham _ ha));refine ⟨g,ha,?_⟩;obtain ⟨aw,lw,cw,be,oe,le,ce,h0,h1,h2,h3,h4,h5,h6,h7⟩:=hE;have hi5:Q0j w' (some ⟨be,oe,none⟩) le ce m.es:=by
  refine ⟨h5.len,h5.cap,h5.most,h5.rng,?_⟩;rcases h5.rd with h8|⟨b,oo,e,hb,Y2⟩
  ·exact .inl h8
  ·refine .inr ⟨b,oo,e,Ue hb hs,fun i x hx=>?_⟩;have h9:=Y2 i x hx;have C1:b≠mb:=fun e=>by subst e;rw[Kk] at h9;cases h9
   exact (Td (a:=⟨b,oo+i,none⟩) (hk b hb C1)).trans h9
 exact ⟨aw,lw,cw,be,oe,le,ce,(V0 _).trans h0,(V0 _).trans h1,(V0 _).trans h2,(V0 _).trans h3,h4.onBlock hs mb Kk hk,hi5,h6,Ue h7 hs⟩
theorem Q19.step {B:Nat} {w w':World} {a:OA} {n c:Nat} {all:List Q01} (h:Q19 B w a n c all) (hb:Bw w w'):Q19 B w' a n c all:=by
 refine h.onBlock hb.size w.heap.size (fun o=>?_) (fun x hx=>Nat.ne_of_lt (h.lt hx).2) fun k hk _=>hb.block k hk;unfold World.cell?;simp
theorem Q19.push {B:Nat} {w w2:World} {a:OA} {n c c2 g:Nat} {all:List Q01} (h:Q19 B w a n c all) {xs xs2:LV} (y4:Q3d NoU w B 44 4 a n c xs) {o:Obj} (m7:(w.alloc o).grownBy w2 (a.map (·.block))) (R1:a=some ⟨g,0,none⟩∨g=(w.alloc o).heap.size) {m:Q01} {aw:OA} {lw cw be oe le ce:Nat}
 (hr:Q3d NoU w2 B 44 4 (some ⟨g,0,none⟩) (n+1) c2 xs2) (VM:xs2=xs++[.bool m.neg,.int .i64 m.exp,.slice aw lw cw,.slice (some ⟨be,oe,none⟩) le ce])
 (hw:WordsIn w aw lw cw m.ws) (hi:Q0j w (some ⟨be,oe,none⟩) le ce m.es) (L6:be<w.heap.size) (V5:∀x,a=some x->x.block≠be):Q19 B w2 (some ⟨g,0,none⟩) (n+1) c2 (all++[m]):=by
 have Z1:w.heap.size<=w2.heap.size:=Ur (TI (Q0r w o)) m7.size;have JX:Q0f (fun b=>∃x,a=some x/\x.block=b) w w2:=(Q0f.of_below (Ba) _).trans0 (Q0f.of_grown m7 fun r hr _=>by
  cases a with
  |none=>simp at hr
  |some y=>simp only[UM,Un] at hr;exact ⟨y,rfl,hr⟩)
 have JU:∀(aw:OA) (lw cw:Nat) (L:LN),WordsIn w aw lw cw L->WordsIn w2 aw lw cw L:=fun aw lw cw L hw=>hw.turn (y4.off hw) JX (fun _ h=>h);have QE:∀k,k<w.heap.size->(∀x,a=some x->x.block≠k)->w2.heap[k]?=w.heap[k]?:=fun k hk hn=>JX.block k hk (fun ⟨x,hx,e⟩=>hn x hx e);have Y5:∀k,k<w.heap.size->(∀x,a=some x->x.block≠k)->k≠g:=fun k hk hn e=>by
  subst e;rcases R1 with h1|h1
  ·exact hn _ h1 rfl
  ·rw[Uo] at h1;omega
 have Z2:xs.length=n*4:=y4.1.len;have I8:∀i v,xs2[i]?=some v->w2.cell? ⟨g,i,none⟩=some v:=fun i v hv=>hr.1.cell0 hv;refine ⟨⟨xs2,hr⟩,fun j m' K7=>⟨g,rfl,?_⟩,by rw[Uj,h.len];rfl⟩
 by_cases hj:j<n
 ·rw[Tx (by rw[h.len];exact hj)] at K7;obtain ⟨g0,ha,hE⟩:=h.ent j m' K7;refine hE.via Z1 (fun i hi4=>?_) (fun _ _ _ h=>JU _ _ _ _ h) fun be C0 D0=>?_
  ·have B0:j*4+i<xs.length:=(by omega);have e1:=I8 (j*4+i) xs[j*4+i] (by rw[VM,Tx B0,Ub B0]);subst ha;rw[e1,y4.1.cell0 (Ub B0)]
  ·have hna:∀x,a=some x->x.block≠be:=fun x hx e=>by rw[ha] at hx;injection hx with hx;subst hx;exact C0 e.symm
   exact ⟨Y5 be D0 hna,QE be D0 hna⟩
 ·have Xw:j=n:=by
   have:=(Um.1 K7).1;rw[Uj,h.len] at this;simp at this;omega
  subst Xw;rw[Tq (by rw[h.len];exact Ug _),h.len,Xbp] at K7;simp only[UI,Un] at K7;subst K7;have hc:∀i v,[Value.bool m.neg,.int .i64 m.exp,.slice aw lw cw,.slice (some ⟨be,oe,none⟩) le ce][i]?=some v->w2.cell? ⟨g,j*4+i,none⟩=some v:=fun i v hv=>I8 _ _ (by rw[VM,Tq (by omega),Z2,Nat.add_sub_cancel_left];exact hv);have D0:=QE be L6 V5;refine ⟨aw,lw,cw,be,oe,le,ce,hc 0 _ rfl,hc 1 _ rfl,hc 2 _ rfl,hc 3 _ rfl,JU _ _ _ _ hw,⟨hi.len,hi.cap,hi.most,hi.rng,?_⟩,Y5 be L6 V5,Ue L6 Z1⟩;rcases hi.rd with h8|⟨b,oo,e,hb,Y2⟩
  ·exact .inl h8
  ·injection e with e;injection e with e1 e2;subst e1;subst e2;exact .inr ⟨be,oe,rfl,Ue hb Z1,fun i x hx=>(Td (a:=⟨be,oe+i,none⟩) D0).trans (Y2 i x hx)⟩
theorem Q19.put {B:Nat} {w:World} {g n c:Nat} {all:List Q01} (h:Q19 B w (some ⟨g,0,none⟩) n c all) {i:Nat} {m:Q01} (hm:all[i]?=some m) {b:Bool} {e:Int} {aw:OA} {lw cw:Nat} {L:LN} (hw:WordsIn w aw lw cw L):
 Q19 B (((w.setCell ⟨g,i*4,none⟩ (.bool b)).setCell ⟨g,i*4+1,none⟩ (.int .i64 e)).setCell ⟨g,i*4+2,none⟩ (.slice aw lw cw)) (some ⟨g,0,none⟩) n c (all.set i ⟨b,e,L,m.es⟩):=by
 obtain ⟨xs,hr⟩:=h.row;obtain ⟨g',VP,hE⟩:=h.ent i m hm;injection VP with VP;injection VP with VP;subst VP;obtain ⟨aw0,lw0,cw0,be,oe,le,ce,h0,h1,h2,h3,h4,h5,h6,h7⟩:=hE;have ne01:(⟨g,i*4,none⟩:Addr)≠⟨g,i*4+1,none⟩:=by simp
 have d1:(w.setCell ⟨g,i*4,none⟩ (.bool b)).cell? ⟨g,i*4+1,none⟩=some (.int .i64 m.exp):=(Uc _ _ _ _ (by simp)).trans h1;have d2:((w.setCell ⟨g,i*4,none⟩ (.bool b)).setCell ⟨g,i*4+1,none⟩ (.int .i64 e)).cell? ⟨g,i*4+2,none⟩=some (.slice aw0 lw0 cw0):=(Uc _ _ _ _ (by simp)).trans ((Uc _ _ _ _ (by simp)).trans h2);have JU:∀(aw':OA) (lw' cw':Nat) (L':LN),WordsIn w aw' lw' cw' L'->WordsIn (((w.setCell ⟨g,i*4,none⟩ (.bool b)).setCell ⟨g,i*4+1,none⟩ (.int .i64 e)).setCell ⟨g,i*4+2,none⟩ (.slice aw lw cw)) aw' lw' cw' L':=fun _ _ _ _ hw'=>
  ((hw'.set1 h0 (fun _=>by simp[nv]) _).set1 d1 (fun _=>by simp[nv]) _).set1 d2 (fun _=>by simp[nv]) _
 have QE:∀k,k≠g->(((w.setCell ⟨g,i*4,none⟩ (.bool b)).setCell ⟨g,i*4+1,none⟩ (.int .i64 e)).setCell ⟨g,i*4+2,none⟩ (.slice aw lw cw)).heap[k]?=w.heap[k]?:=fun k hk=>(TE _ _ _ _ hk).trans ((TE _ _ _ _ hk).trans (TE _ _ _ _ hk));have hfar:∀o,o≠i*4->o≠i*4+1->o≠i*4+2->(((w.setCell ⟨g,i*4,none⟩ (.bool b)).setCell ⟨g,i*4+1,none⟩ (.int .i64 e)).setCell ⟨g,i*4+2,none⟩ (.slice aw lw cw)).cell? ⟨g,o,none⟩=w.cell? ⟨g,o,none⟩:=fun o a0 a1 a2=>(Uc _ _ _ _ (by simp)).trans ((Uc _ _ _ _ (by simp)).trans (Uc _ _ _ _ (by simp)));refine ⟨⟨_,((hr.set (i*4) (u:=.bool b) (fun _=>by simp[nv])).set (i*4+1) (u:=.int .i64 e) (fun _=>by simp[nv])).set (i*4+2) (u:=.slice aw lw cw) (fun _=>by simp[nv])⟩,fun j m' K7=>⟨g,rfl,?_⟩,by rw[Xbk,h.len]⟩
 by_cases hj:j=i
 ·subst hj;rw[TN (Um.1 hm).1] at K7;injection K7 with K7;subst K7;refine ⟨aw,lw,cw,be,oe,le,ce,?_,?_,?_,?_,JU _ _ _ _ hw,⟨h5.len,h5.cap,h5.most,h5.rng,?_⟩,h6,by simp only[UV];exact h7⟩
  ·exact (Uc _ _ _ _ (by simp)).trans ((Uc _ _ _ _ (by simp)).trans (UE _ _ _ (by rw[h0];rfl)))
  ·exact (Uc _ _ _ _ (by simp)).trans (UE _ _ _ (by rw[d1];rfl))
  ·exact UE _ _ _ (by rw[d2];rfl)
  ·exact (hfar _ (by omega) (by omega) (by omega)).trans h3
  ·rcases h5.rd with h8|⟨bb,oo,ee,hb,Y2⟩
   ·exact .inl h8
   ·injection ee with ee;injection ee with e1 e2;subst e1;subst e2;exact .inr ⟨be,oe,rfl,by simp only[UV];exact hb,fun k x hx=>(Td (a:=⟨be,oe+k,none⟩) (QE be h6)).trans (Y2 k x hx)⟩
 ·rw[Tj (fun e=>hj e.symm)] at K7;obtain ⟨g',VP,hE'⟩:=h.ent j m' K7;injection VP with VP;injection VP with VP;subst VP;exact hE'.via (by simp only[UV];exact Ug _) (fun k hk=>hfar _ (by omega) (by omega) (by omega)) (fun _ _ _ h=>JU _ _ _ _ h) fun be' C0 _=>⟨C0,QE be' C0⟩
def Qke (k:Nat) (m:Q01):Prop:=Q14 k m.es/\Q0i m.neg m.exp m.ws
structure Qwf (w:World) (b:Nat) (k:Nat):Prop where
 cell:w.cell? ⟨b,0,none⟩=some (.int .i64 (k:Int))
 lt:b<w.heap.size
theorem Qwf.step {w w':World} {b k:Nat} (h:Qwf w b k) (hb:Bw w w'):Qwf w' b k:=⟨(hb.cell (p:=⟨b,0,none⟩) h.lt).trans h.cell,Ue h.lt hb.size⟩
theorem Qkf (n:Bool) (e:Int) (a:OA) (l c:Nat) (L:LN) (b:OA) (m d:Nat) (E:List Int) (kb k:Nat) (w:World) (h:WordsIn w a l c L) (hE:Q0j w b m d E) (hk:k<=9223372036854775807) (he: -9223372036854775808<=e) (V6:e<=9223372036854775807) (hK:Qwf w kb k):
 Calls Tryz.prog 135 #[.agg #[.bool n,.int .i64 e,.slice a l c,.slice b m d],.pointer (some ⟨kb,0,none⟩)] w fun r w'=>r=.returned (.bool (!decide (Q14 k E/\Q0i n e L)))/\Bw w w':=by
 have hX:=Q38.new w (.bool n) (.int .i64 e) (.slice a l c) (.slice b m d) 44;have hb:Bw w (w.alloc (.cells #[.bool n,.int .i64 e,.slice a l c,.slice b m d] 44)):=Ba;have E7:=Qlz n e a l c L b m d E k _ (h.step hb) (hE.step hb) hk he V6;have hkc:=(hK.step hb).cell;obtain ⟨dv,XT⟩:∃dv,decide (Q14 k E/\Q0i n e L)=dv:=⟨_,rfl⟩;rw[XT] at E7⊢;generalize hW:w.alloc (.cells #[.bool n,.int .i64 e,.slice a l c,.slice b m d] 44)=W at hX hb E7 hkc;obtain ⟨x0,x1,x2,x3,_,_,_,_⟩:=id hX;have H:=Xh2 E7 hb;clear E7 hb hX h hE
 go_enter Tryz.func135,Tryz.ntmps135
 go_wp2_with (go_at_call_of 87 a;refine (Xo0 H).mono ?_;rintro r w1 ⟨rfl,C0⟩;have HB:=Ua C0;clear C0)
 go_ret;exact ⟨rfl,Below.next0 (Xe1 H) HB.out⟩
theorem Qkg (a:OA) (n c:Nat) (ms:List Q01) (kb k:Nat) (w:World) (h:Q08 w a n c ms) (D3:∀m∈ms,Qke k m) (hk:k<=4) (hK:Qwf w kb k):
 Calls Tryz.prog 165 #[.slice a n c,.func (.func 135) #[] #[.pointer (some ⟨kb,0,none⟩)]] w fun r w'=>r=.returned (.int .i64 (-1))/\Bw w w':=by
 have Z2:=h.1;subst Z2;have E4:=Ur h.2.1 h.2.2.1;have HM:=Xh3 h D3 hK;clear h D3 hK
 go_enter Tryz.func165,Tryz.ntmps165
 go_wp2_with fail
 go_loopw [8] (fun iv wr=>∃i:Nat,iv=.int .i64 (i:Int)/\i<=ms.length/\Bw w wr) (fun iv _=>ms.length-(intOf iv).toNat)
 case atStart=>exact ⟨0,rfl,Uu _,Uf _ _⟩
 case round=>
  obtain ⟨i,rfl,hi,hb⟩:=hrel
  by_cases B0:i<ms.length
  ·have E0:(i:Int)<(ms.length:Int):=(by omega);obtain ⟨m,hm⟩:∃m,ms[i]?=some m:=⟨_,Ub B0⟩;obtain ⟨b0,o0,rfl,C4,R1⟩:∃b o,a=some ⟨b,o,none⟩/\b<wr.heap.size/\∀j m,ms[j]?=some m->Q31 wr b (o+j*4) m:=by
    rcases ((Xo0 HM).step hb).2.2.2 with h0|h0
    ·rw[h0] at B0;simp at B0
    ·exact h0
   obtain ⟨aw,lw,cw,ae,le,ce,k0,k1,k2,k3,hw,he,U4,J4⟩:=R1 i m hm;have O3:=Qkf m.neg m.exp aw lw cw m.ws ae le ce m.es kb k wr hw he (by omega) U4 J4 ((Xe2 HM).step hb);have hf:Qke k m:=(Xo1 HM) m (Ud hm);rw[UU (show Q14 k m.es/\Q0i m.neg m.exp m.ws from hf)] at O3;have HC:=Xh2 O3 hb;clear O3 hb R1 hw he hm hf
   go_wp2_with (go_at_call_of 135 aw;refine (Xo0 HC).mono ?_;rintro r w1 ⟨rfl,C0⟩;have HB:=Ua C0;clear C0)
   exact ⟨⟨i+1,by simp,by omega,Below.next0 (Xe1 HC) HB.out⟩,by simp only[intOf];omega⟩
  ·have E0:¬((i:Int)<(ms.length:Int)):=(by omega);have HC:=Ua hb;clear hb
   go_wp2_with fail
   go_ret;exact ⟨rfl,HC.out⟩
theorem Qkh (a:OA) (n c:Nat) (ms:List Q01) (kb k:Nat) (w:World) (h:Q08 w a n c ms) (D3:∀m∈ms,Qke k m) (hk:k<=4) (hK:Qwf w kb k):
 Calls Tryz.prog 134 #[.slice a n c,.func (.func 135) #[] #[.pointer (some ⟨kb,0,none⟩)]] w fun r w'=>r=.returned (.bool false)/\Bw w w':=by
 have hix:=Qkg a n c ms kb k w h D3 hk hK;have H:=Ua hix;clear hix h D3 hK
 go_enter Tryz.func134,Tryz.ntmps134
 go_wp2_with (go_at_call_of 165 a;refine H.out.mono ?_;rintro r w1 ⟨rfl,C0⟩;have HB:=Ua C0;clear C0)
 go_ret;exact ⟨rfl,HB.out⟩
end Go.Proofs.YtdilmfakkppgpaaGreatDoor
namespace Go.Proofs.YtdilmfakkppgpaaGreatDoor
open Go Go.RowKit
section
variable {P:Program} {ops:Array Oper}
theorem Q4q {D:Nat->Bool} {k j:Nat} {oj:Oper} (O3:∀j oj,ops[j]?=some oj->D j=true->∀i∈Q27 oj,D i=true) (hj:ops[j]?=some oj) (hk:k∈Q27 oj) (hD:D k=false):D j=false:=by
 cases hb:D j with
 |false=>rfl
 |true=>have:=O3 j oj hj hb k hk;rw[hD] at this;cases this
theorem Qtx {l:List Oper} {x y:Nat} (hl:(l.zipIdx.all fun p=>p.1.dst.isSome || (p.2==x || p.2==y))=true) {i:Nat} {o:Oper} (hi:l[i]?=some o) (hd:o.dst=none):i=x∨i=y:=by
 have hm:(o,i)∈l.zipIdx:=by rw[Tw];exact hi
 have h1:=Tb.1 hl _ hm;simpa[hd] using h1
def Q7m (P:Program) (ops:Array Oper) (I:Qpu) (a0:Act) (k:Nat) (o:Oper):Prop:=
 ∀a w D,I D (Q0b ops a) w->Q79 ops a0 a->D k=false->(∀i∈Q27 o,D i=true)->(∀j oj,ops[j]?=some oj->D j=true->∀i∈Q27 oj,D i=true)->
  Region.wanted o (yielded ops a.tmps)=true/\Q2o P (fun u w'=>I (Q3q D k) (Q3b (Q0b ops a) k u) w') ((execOp a.eval o).run P w)
def Q9e (P:Program) (ops:Array Oper) (I:Qpu) (a0:Act):List Oper->Nat->Prop:=Qgn (Q7m P ops I a0)
theorem Qwg {I:Qpu} {a0:Act} (k:Nat) (o:Oper) (h:Q7m P ops I a0 k o):Q94 P ops I a0 k o:=fun a w D h1 h2 h3 h4 h5=>by
 obtain ⟨hw,hs⟩:=h a w D h1 h2 h3 h4 h5;rw[Us hw];exact hs
variable {Q:Exit->Act->World->Prop}
theorem Q76 {id:Nat} {l:List Oper} {a0:Act} {w:World} (hm:P.follows .mixedOrders=true) (I:Qpu) (hN:∀(i:Nat) o,l[i]?=some o->o.dst=none->∀D vs v w,I D (Q3b vs i v) w->I D vs w) (hB:Q4b l a0.tmps.size=true) (h0:I (fun _=>false) (Q0b l.toArray a0) w.drew)
 (step:Q9e P l.toArray I a0 l 0) (fin:∀D vs w,(∀j,j<l.length->D j=true)->I D vs w->Q .normal (Q0s vs l 0 a0) w):(Code.region id l.toArray true).wp P Q a0 w:=
 Q5a hm I (fun i o hi hd D vs v w _=>hN i o hi hd D vs v w) hB h0 (Qgn.imp Qwg l 0 step) fin
theorem Q5f {id:Nat} {l:List Oper} {a0:Act} {w:World} (hm:P.follows .mixedOrders=true) (I:Qpu) (hN:∀(i:Nat) o,l[i]?=some o->o.dst=none->∀D vs v w,I D (Q3b vs i v) w->I D vs w) (hB:Q4b l a0.tmps.size=true) (h0:∀vs,I (fun _=>false) vs w.drew)
 (step:Q9e P l.toArray I a0 l 0) (fin:∀D vs w,(∀j,j<l.length->D j=true)->I D vs w->Q .normal (Q0s vs l 0 a0) w):(Code.region id l.toArray true).wp P Q a0 w:=
 Q76 hm I hN hB (h0 _) step fin
end
end Go.Proofs.YtdilmfakkppgpaaGreatDoor
