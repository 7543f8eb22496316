/- Part 16 of the proof of LawParseMeans: LinesM, Rdr, PolyI, PolyJ, PolyK. Condition: as each theorem says; none at the end. -/
import Derived.Test.YtdilmfakkppgpaaGreatDoorPkParseMeans15
set_option maxRecDepth 100000
set_option maxHeartbeats 16000000
namespace Go.Proofs.YtdilmfakkppgpaaGreatDoor
open Go.RowKit WordsM DecM
mutual
def Q3u (m:Nat):Ex->Prop
 | .num none=>True
 | .num (some c)=>Q63 c
 | .var i=>i<m
 | .sum l=>Q6t m l
 | .prod l=>Q75 m l
 | .pow b k=>Q3u m b/\k<=8
def Q6t (m:Nat):List (Bool × Ex)->Prop
 |[]=>True
 |(_,x)::r=>Q3u m x/\Q6t m r
def Q75 (m:Nat):List Ex->Prop
 |[]=>True
 |x::r=>Q3u m x/\Q75 m r
end
theorem Qfq {m:Nat}:∀{l r:List (Bool × Ex)},Q6t m l->Q6t m r->Q6t m (l++r)
 |[],_,_,h=>h
 |(_,_)::_,_,h,h'=>by
  rw[List.cons_append,Q6t]
  rw[Q6t] at h
  exact ⟨h.1,Qfq h.2 h'⟩
theorem Qfr {m:Nat}:∀{l r:List Ex},Q75 m l->Q75 m r->Q75 m (l++r)
 |[],_,_,h=>h
 |_::_,_,h,h'=>by
  rw[List.cons_append,Q75]
  rw[Q75] at h
  exact ⟨h.1,Qfr h.2 h'⟩
def Q2e (s:List UInt8) (p q:Nat):Prop:=∀j,p<=j->j<q->Q09 s j≠10
theorem Q2e.trans {s:List UInt8} {p q r:Nat} (h:Q2e s p q) (h':Q2e s q r):Q2e s p r:=fun j h1 h2=>by
 by_cases e:j<q
 ·exact h j h1 e
 ·exact h' j (by omega) h2
theorem Q2e.one {s:List UInt8} {p:Nat} (h:Q09 s p≠10):Q2e s p (p+1):=fun j h1 h2=>by
 obtain rfl:j=p:=by omega
 exact h
theorem Q2e.nil_ (s:List UInt8) (p:Nat):Q2e s p p:=fun j h1 h2=>by omega
theorem Q5j {s:List UInt8} {j:Nat} (h:j<s.length):Q09 s j=s[j]:=by
 unfold Q09
 rw[List.getD_eq_getElem?_getD,List.getElem?_eq_getElem h];rfl
theorem Q8w (s:List UInt8) (p:Nat):Q2e s p (Q1h s p):=by
 intro j h1 h2 h3
 unfold Q1h at h2
 have hlt:=Q0i h3 (by decide)
 have hm:s[j]∈(s.drop p).take (digN (s.drop p)):=by
  rw[List.mem_iff_getElem?]
  exact ⟨j-p,by rw[List.getElem?_take,if_pos (by omega),List.getElem?_drop,show p+(j-p)=j by omega,List.getElem?_eq_getElem hlt]⟩
 have:=Q68 _ _ hm
 rw[<-Q5j hlt,h3] at this
 exact absurd this.1 (by decide)
theorem Q1p (s:List UInt8):∀p,Q2e s p (Q07 s p):=by
 have key:∀n p,s.length-p=n->Q2e s p (Q07 s p):=by
  intro n
  induction n using Nat.strongRecOn with
  |ind n ih=>
   intro p hn
   by_cases h:Q09 s p=32
   ·have hp:=Q0i h (by decide)
    rw[Q35 h]
    exact (Q2e.one (by rw[h];decide)).trans (ih (s.length-(p+1)) (by omega) (p+1) rfl)
   ·rw[Q6d h]
    exact Q2e.nil_ s p
 exact fun p=>key _ p rfl
theorem Qpd (s:List UInt8) (p:Nat):Q2e s p (Q9r s p):=by
 have h1:=Q8w s p
 unfold Q9r
 split
 ·rename_i h2
  have h3:Q2e s (Q1h s p) (Q1h s p+1):=Q2e.one (by rw[h2];decide)
  split
  ·rename_i h4
   exact (h1.trans h3).trans ((Q2e.one (p:=Q1h s p+1) (by rw[h4];decide)).trans (Q8w s _))
  ·exact (h1.trans h3).trans (Q8w s _)
 ·exact h1
theorem Qb6 {s:List UInt8} {p:Nat} (h:48<=(Q09 s p).toNat):Q2e s p (p+1):=Q2e.one fun e=>by rw[e] at h;exact absurd h (by decide)
def Clr (s:List UInt8) (m p:Nat) (r:PR Ex):Prop:=
 match r with
 | .error _=>True
 | .ok (x,q)=>Q3u m x/\Q2e s p q
theorem Qua (s:List UInt8) (m p:Nat):Clr s m p (Qid s p):=by
 unfold Qid
 split
 ·trivial
 ·refine ⟨?_,Qpd s p⟩
  split
  ·rename_i h
   rw[Q3u]
   exact (Q1g _).1 h
  ·rw[Q3u];trivial
theorem Clr.from {s:List UInt8} {m p q:Nat} {r:PR Ex} (h:Clr s m q r) (h':Q2e s p q):Clr s m p r:=by
 revert h
 cases r with
 |error e=>exact id
 |ok z=>exact fun h=>⟨h.1,h'.trans h.2⟩
theorem Qs0 {sub:Nat->PR Ex} {opens:Bool} {s:List UInt8} {m:Nat} (hs:opens=true->∀p,Clr s m p (sub p)) (p:Nat):Clr s m p (Q4u sub opens s m p):=by
 have h1:=Q1p s p
 unfold Q4u
 split
 ·exact (Qua s m _).from h1
 ·split
  ·rename_i h3
   split
   ·rename_i h5
    refine ⟨?_,h1.trans ((Q2e.one (by rw[h3];decide)).trans (Qb6 (p:=Q07 s p+1) (by omega)))⟩
    rw[Q3u];omega
   ·trivial
  ·split
   ·rename_i h3
    have h5:=hs h3.2 (Q07 s p+1)
    revert h5
    cases sub (Q07 s p+1) with
    |error e=>exact id
    |ok r=>
     obtain ⟨x,q⟩:=r
     intro h5
     have h5':Q3u m x/\Q2e s (Q07 s p+1) q:=h5
     simp only
     split
     ·rename_i h8
      exact ⟨h5'.1,h1.trans ((Q2e.one (by rw[h3.1];decide)).trans (h5'.2.trans ((Q1p s q).trans (Q2e.one (by rw[h8];decide)))))⟩
     ·trivial
   ·trivial
theorem Qm0 {sub:Nat->PR Ex} {opens:Bool} {s:List UInt8} {m:Nat} (hs:opens=true->∀p,Clr s m p (sub p)) (p:Nat):Clr s m p (Q1r sub opens s m p):=by
 have h5:=Qs0 hs p
 unfold Q1r
 revert h5
 cases Q4u sub opens s m p with
 |error e=>exact id
 |ok r=>
  obtain ⟨x,q⟩:=r
  intro h5
  have h5':Q3u m x/\Q2e s p q:=h5
  simp only
  split
  ·rename_i h8
   split
   ·rename_i h12
    refine ⟨?_,h5'.2.trans ((Q1p s q).trans ((Q2e.one (by rw[h8];decide)).trans ((Q1p s _).trans (Qb6 h12.1))))⟩
    rw[Q3u]
    exact ⟨h5'.1,by omega⟩
   ·trivial
  ·exact ⟨h5'.1,h5'.2.trans (Q1p s q)⟩
theorem Qkc {sub:Nat->PR Ex} {opens:Bool} {s:List UInt8} {m:Nat} (hs:opens=true->∀p,Clr s m p (sub p)):∀(f p:Nat) (acc:List Ex),Q75 m acc->Clr s m p (Q38 sub opens s m f p acc)
 |0,p,acc,_=>trivial
 |f+1,p,acc,ha=>by
  have h5:=Qm0 hs p
  unfold Q38
  revert h5
  cases Q1r sub opens s m p with
  |error e=>exact id
  |ok r=>
   obtain ⟨x,q⟩:=r
   intro h5
   have h5':Q3u m x/\Q2e s p q:=h5
   have hg:Q75 m (acc++[x]):=Qfr ha (by rw[Q75,Q75];exact ⟨h5'.1,trivial⟩)
   simp only
   split
   ·rename_i h8
    exact (Qkc hs f (Q07 s q+1) (acc++[x]) hg).from (h5'.2.trans ((Q1p s q).trans (Q2e.one (by rw[h8];decide))))
   ·refine ⟨?_,h5'.2.trans (Q1p s q)⟩
    rw[Q3u];exact hg
theorem Qdz {sub:Nat->PR Ex} {opens:Bool} {s:List UInt8} {m:Nat} (hs:opens=true->∀p,Clr s m p (sub p)):∀(f p:Nat) (below:Bool) (acc:List (Bool × Ex)),Q6t m acc->Clr s m p (Q7v sub opens s m f p below acc)
 |0,p,below,acc,_=>trivial
 |f+1,p,below,acc,ha=>by
  have h5:=Qkc hs (s.length+1) p [] (by rw[Q75];trivial)
  unfold Q7v
  revert h5
  cases Q38 sub opens s m (s.length+1) p [] with
  |error e=>exact id
  |ok r=>
   obtain ⟨x,q⟩:=r
   intro h5
   have h5':Q3u m x/\Q2e s p q:=h5
   have hg:Q6t m (acc++[(below,x)]):=Qfq ha (by rw[Q6t,Q6t];exact ⟨h5'.1,trivial⟩)
   simp only
   split
   ·rename_i h8
    exact (Qdz hs f (Q07 s q+1) false (acc++[(below,x)]) hg).from (h5'.2.trans ((Q1p s q).trans (Q2e.one (by rw[h8];decide))))
   ·split
    ·rename_i h8
     exact (Qdz hs f (Q07 s q+1) true (acc++[(below,x)]) hg).from (h5'.2.trans ((Q1p s q).trans (Q2e.one (by rw[h8];decide))))
    ·refine ⟨?_,h5'.2.trans (Q1p s q)⟩
     rw[Q3u];exact hg
theorem Qfs {sub:Nat->PR Ex} {opens:Bool} {s:List UInt8} {m:Nat} (hs:opens=true->∀p,Clr s m p (sub p)) (p:Nat):Clr s m p (Q4e sub opens s m p):=by
 unfold Q4e
 split
 ·rename_i h8
  exact (Qdz hs (s.length+1) (Q07 s p+1) true [] (by rw[Q6t];trivial)).from ((Q1p s p).trans (Q2e.one (by rw[h8];decide)))
 ·exact (Qdz hs (s.length+1) (Q07 s p) false [] (by rw[Q6t];trivial)).from (Q1p s p)
theorem Qkd (s:List UInt8) (m:Nat):∀(d p:Nat),Clr s m p (Q3o s m d p)
 |0,p=>Qfs (fun h=>by cases h) p
 |d+1,p=>Qfs (fun _ p=>Qkd s m d p) p
theorem Qb7 {s:List UInt8}:∀(t:List UInt8) (p q:Nat),Q29 s t p=.ok q->(10:UInt8)∉t->q=p+t.length/\Q2e s p q
 |[],p,q,h,_=>by
  rw[Q29] at h
  injection h with h
  subst h
  exact ⟨rfl,Q2e.nil_ s p⟩
 |c::r,p,q,h,hn=>by
  rw[Q29] at h
  split at h
  ·rename_i h1
   obtain ⟨e,h2⟩:=Qb7 r (p+1) q h (fun hm=>hn (List.mem_cons_of_mem _ hm))
   refine ⟨by rw[e,List.length_cons];omega,(Q2e.one (fun e=>hn ?_)).trans h2⟩
   rw[<-h1,e];exact List.mem_cons_self
  ·cases h
theorem Qft {s:List UInt8}:∀(t:List UInt8) (p q:Nat),Q29 s t p=.ok q->(0:UInt8)∉t->p<=s.length->q<=s.length
 |[],p,q,h,_,hp=>by
  rw[Q29] at h
  injection h with h
  subst h
  exact hp
 |c::r,p,q,h,hn,hp=>by
  rw[Q29] at h
  split at h
  ·rename_i h1
   exact Qft r (p+1) q h (fun hm=>hn (List.mem_cons_of_mem _ hm)) (Q0i h1 (fun e=>hn (by rw[e];exact List.mem_cons_self)))
  ·cases h
theorem Qpe {i:Nat} (hi:i<9):(0:UInt8)∉Q2l i:=by
 rw[Q2l,Q5y (by omega)]
 intro h
 simp only[List.mem_cons,List.not_mem_nil,or_false,List.cons_append,List.nil_append] at h
 rcases h with h|h|h|h|h|h
 ·exact absurd h (by decide)
 ·have:=Q7x (i:=i+1) (by omega)
  rw[<-h] at this
  have h10:(0:UInt8).toNat=0:=rfl
  omega
 all_goals exact absurd h (by decide)
theorem Qs1 {i:Nat} (hi:i<9):(10:UInt8)∉Q2l i:=by
 rw[Q2l,Q5y (by omega)]
 intro h
 simp only[List.mem_cons,List.not_mem_nil,or_false,List.cons_append,List.nil_append] at h
 rcases h with h|h|h|h|h|h
 ·exact absurd h (by decide)
 ·have:=Q7x (i:=i+1) (by omega)
  rw[<-h] at this
  have h10:(10:UInt8).toNat=10:=rfl
  omega
 all_goals exact absurd h (by decide)
theorem Qs2 {s:List UInt8} {m i p q:Nat} {x:Ex} (hi:i<9) (hp:p<=s.length) (h:Qax s m i p=.ok (x,q)):∃r,q=r+1/\Q09 s r=10/\Q2e s p r/\Q3u m x/\p<=r/\q<=s.length:=by
 unfold Qax at h
 cases hf:Q29 s (Q2l i) p with
 |error e=>rw[hf] at h;cases h
 |ok p1=>
  rw[hf] at h
  obtain ⟨h1,h2⟩:=Qb7 _ _ _ hf (Qs1 hi)
  simp only at h
  have h3:=Qkd s m 16 p1
  cases he:Q3o s m 16 p1 with
  |error e=>rw[he] at h;cases h
  |ok z=>
   obtain ⟨y,t⟩:=z
   rw[he] at h h3
   simp only at h
   have h3':Q3u m y/\Q2e s p1 t:=h3
   split at h
   ·rename_i h4
    injection h with h
    injection h with h5 h6
    subst h5
    have h7:=Q0i h4 (by decide)
    have h8:=Qft _ _ _ hf (Qpe hi) hp
    have h9:=Q8t s m 16 p1 h8
    rw[he] at h9
    have h9':p1<t/\t<=s.length:=h9
    have h10:=Q5a s t
    exact ⟨Q07 s t,h6.symm,h4,h2.trans (h3'.2.trans (Q1p s t)),h3'.1,by omega,by omega⟩
   ·cases h
theorem Qct {s:List UInt8}:∀(n p r:Nat),r-p=n->p<=r->Q2e s p r->Q09 s r=10->(s.drop p).count 10=1+(s.drop (r+1)).count 10
 |0,p,r,hn,hp,_,h=>by
  obtain rfl:p=r:=by omega
  have hl:=Q0i h (by decide)
  rw[List.drop_eq_getElem_cons hl,<-Q5j hl,h,List.count_cons_self,Nat.add_comm]
 |n+1,p,r,hn,hp,hc,h=>by
  have hl:=Q0i h (by decide)
  have hpl:p<s.length:=by omega
  have h1:=hc p (Nat.le_refl _) (by omega)
  rw[List.drop_eq_getElem_cons hpl,List.count_cons_of_ne (by rw[<-Q5j hpl];exact h1)]
  exact Qct n (p+1) r (by omega) (by omega) (fun j h2 h3=>hc j (by omega) h3) h
theorem Qfu {s:List UInt8} {m:Nat}:∀(f p:Nat) (acc l:List (Nat × Ex)),p<=s.length->acc.length+f<=4->Q40 s m f p acc=.ok l->(∀z∈acc,Q3u m z.2)->l.length=acc.length+(s.drop p).count 10/\acc.length<l.length/\l.length<=acc.length+f/\∀z∈l,Q3u m z.2
 |0,p,acc,l,_,_,h,_=>by rw[Q40] at h;cases h
 |f+1,p,acc,l,hp,hf,h,ha=>by
  rw[Q40] at h
  cases hl:Qax s m acc.length p with
  |error e=>rw[hl] at h;cases h
  |ok z=>
   obtain ⟨x,q⟩:=z
   rw[hl] at h
   simp only at h
   obtain ⟨r,rfl,h1,h2,h3,h4,h5⟩:=Qs2 (by omega) hp hl
   have hc:=Qct _ p r rfl h4 h2 h1
   have ha':∀z∈acc++[(p,x)],Q3u m z.2:=fun z hz=>by
    rcases List.mem_append.1 hz with hz|hz
    ·exact ha z hz
    ·rw[List.mem_singleton] at hz
     subst hz;exact h3
   split at h
   ·obtain ⟨g1,g2,g3,g4⟩:=Qfu f (r+1) (acc++[(p,x)]) l h5 (by simp only[List.length_append,List.length_singleton];omega) h ha'
    simp only[List.length_append,List.length_singleton] at g1 g2 g3
    exact ⟨by omega,by omega,by omega,g4⟩
   ·rename_i h6
    injection h with h
    subst h
    rw[hc,List.drop_of_length_le (by omega)]
    simp only[List.length_append,List.length_singleton,List.count_nil]
    exact ⟨trivial,by omega,by omega,ha'⟩
theorem Qm1 {s:List UInt8} {l:List (Nat × Ex)} (h:Q40 s (min (s.count 10) 4) 4 0 []=.ok l):1<=l.length/\l.length<=4/\∀z∈l,Q3u l.length z.2:=by
 obtain ⟨h1,h2,h3,h4⟩:=Qfu 4 0 [] l (Nat.zero_le _) (by simp) h (fun z hz=>by cases hz)
 simp only[List.length_nil,Nat.zero_add,List.drop_zero] at h1 h2 h3
 have:min (s.count 10) 4=l.length:=by omega
 rw[this] at h4
 exact ⟨by omega,h3,h4⟩
theorem Qb8 (n:Nat):Q0m n (List.replicate n 0):=⟨List.length_replicate ..,fun x hx=>by rw[List.eq_of_mem_replicate hx];exact Int.le_refl _,by rw[Qfh];decide⟩
theorem Qm2 {n i:Nat} (hi:i<n):Q0m n (Q9q n i):=by
 have hs:=Q41 n i 1 hi
 refine ⟨by simp[Q9q],fun x hx=>?_,by show (Q2p n i 1).sum<=8;omega⟩
 obtain ⟨j,hj⟩:=List.mem_iff_getElem?.1 hx
 unfold Q9q at hj
 by_cases e:i=j
 ·subst e
  rw[List.getElem?_set_self (by simpa using hi)] at hj
  injection hj with hj
  omega
 ·rw[List.getElem?_set_ne e,List.getElem?_replicate] at hj
  split at hj
  ·injection hj with hj;omega
  ·cases hj
end Go.Proofs.YtdilmfakkppgpaaGreatDoor
namespace Go.Proofs.YtdilmfakkppgpaaGreatDoor
open Go.RowKit WordsM
structure Q0p (w:World) (R:Nat) (s:ByteArray) (p m d:Int) (bad:Bool):Prop where
 c0:w.cell? ⟨R,0,none⟩=some (.string s)
 c1:w.cell? ⟨R,1,none⟩=some (.int .i64 p)
 c2:w.cell? ⟨R,2,none⟩=some (.int .i64 m)
 c3:w.cell? ⟨R,3,none⟩=some (.int .i64 d)
 c4:w.cell? ⟨R,4,none⟩=some (.bool bad)
 f0:w.frozen? ⟨R,0,none⟩=false
 f1:w.frozen? ⟨R,1,none⟩=false
 f2:w.frozen? ⟨R,2,none⟩=false
 f3:w.frozen? ⟨R,3,none⟩=false
 f4:w.frozen? ⟨R,4,none⟩=false
 lt:R<w.heap.size
 c5:∀o,5<=o->w.cell? ⟨R,o,none⟩=none
abbrev OnR (R:Nat):Nat->Prop:=fun k=>k=R
section
variable {w w':World} {R:Nat} {s:ByteArray} {p m d:Int} {bad:Bool}
theorem Q0p.step (h:Q0p w R s p m d bad) (hb:Below w.heap.size w w'):Q0p w' R s p m d bad:=
 ⟨(hb.cell (p:=⟨R,0,none⟩) h.lt).trans h.c0,(hb.cell (p:=⟨R,1,none⟩) h.lt).trans h.c1,(hb.cell (p:=⟨R,2,none⟩) h.lt).trans h.c2,(hb.cell (p:=⟨R,3,none⟩) h.lt).trans h.c3,(hb.cell (p:=⟨R,4,none⟩) h.lt).trans h.c4,
   (hb.frozen (p:=⟨R,0,none⟩) h.lt).trans h.f0,(hb.frozen (p:=⟨R,1,none⟩) h.lt).trans h.f1,(hb.frozen (p:=⟨R,2,none⟩) h.lt).trans h.f2,(hb.frozen (p:=⟨R,3,none⟩) h.lt).trans h.f3,(hb.frozen (p:=⟨R,4,none⟩) h.lt).trans h.f4,Nat.lt_of_lt_of_le h.lt hb.size,fun o ho=>(hb.cell (p:=⟨R,o,none⟩) h.lt).trans (h.c5 o ho)⟩
theorem Q0p.drewN (h:Q0p w R s p m d bad) (k:Nat):Q0p (w.drewN k) R s p m d bad:=⟨h.c0,h.c1,h.c2,h.c3,h.c4,h.f0,h.f1,h.f2,h.f3,h.f4,h.lt,h.c5⟩
theorem Q0p.drew (h:Q0p w R s p m d bad):Q0p w.drew R s p m d bad:=⟨h.c0,h.c1,h.c2,h.c3,h.c4,h.f0,h.f1,h.f2,h.f3,h.f4,h.lt,h.c5⟩
theorem Q0p.setAt (h:Q0p w R s p m d bad) (q:Int):Q0p (w.setCell ⟨R,1,none⟩ (.int .i64 q)) R s q m d bad:=
 ⟨(World.cell?_setCell_other _ _ _ _ (by simp)).trans h.c0,World.cell?_setCell_same' _ _ _ (by rw[h.c1];rfl),(World.cell?_setCell_other _ _ _ _ (by simp)).trans h.c2,(World.cell?_setCell_other _ _ _ _ (by simp)).trans h.c3,(World.cell?_setCell_other _ _ _ _ (by simp)).trans h.c4,
   (World.frozen?_setCell _ _ _ _).trans h.f0,(World.frozen?_setCell _ _ _ _).trans h.f1,(World.frozen?_setCell _ _ _ _).trans h.f2,(World.frozen?_setCell _ _ _ _).trans h.f3,(World.frozen?_setCell _ _ _ _).trans h.f4,by rw[World.size_setCell];exact h.lt,fun o ho=>(World.cell?_setCell_other _ _ _ _ (fun e=>by injection e with _ e _;omega)).trans (h.c5 o ho)⟩
theorem Q0p.setDeep (h:Q0p w R s p m d bad) (q:Int):Q0p (w.setCell ⟨R,3,none⟩ (.int .i64 q)) R s p m q bad:=
 ⟨(World.cell?_setCell_other _ _ _ _ (by simp)).trans h.c0,(World.cell?_setCell_other _ _ _ _ (by simp)).trans h.c1,(World.cell?_setCell_other _ _ _ _ (by simp)).trans h.c2,World.cell?_setCell_same' _ _ _ (by rw[h.c3];rfl),(World.cell?_setCell_other _ _ _ _ (by simp)).trans h.c4,
   (World.frozen?_setCell _ _ _ _).trans h.f0,(World.frozen?_setCell _ _ _ _).trans h.f1,(World.frozen?_setCell _ _ _ _).trans h.f2,(World.frozen?_setCell _ _ _ _).trans h.f3,(World.frozen?_setCell _ _ _ _).trans h.f4,by rw[World.size_setCell];exact h.lt,fun o ho=>(World.cell?_setCell_other _ _ _ _ (fun e=>by injection e with _ e _;omega)).trans (h.c5 o ho)⟩
theorem Q0p.setBad (h:Q0p w R s p m d bad) (q:Bool):Q0p (w.setCell ⟨R,4,none⟩ (.bool q)) R s p m d q:=
 ⟨(World.cell?_setCell_other _ _ _ _ (by simp)).trans h.c0,(World.cell?_setCell_other _ _ _ _ (by simp)).trans h.c1,(World.cell?_setCell_other _ _ _ _ (by simp)).trans h.c2,(World.cell?_setCell_other _ _ _ _ (by simp)).trans h.c3,World.cell?_setCell_same' _ _ _ (by rw[h.c4];rfl),
   (World.frozen?_setCell _ _ _ _).trans h.f0,(World.frozen?_setCell _ _ _ _).trans h.f1,(World.frozen?_setCell _ _ _ _).trans h.f2,(World.frozen?_setCell _ _ _ _).trans h.f3,(World.frozen?_setCell _ _ _ _).trans h.f4,by rw[World.size_setCell];exact h.lt,fun o ho=>(World.cell?_setCell_other _ _ _ _ (fun e=>by injection e with _ e _;omega)).trans (h.c5 o ho)⟩
theorem Q1s (w:World) (R o:Nat) (v:Value):Q0n (OnR R) w (w.setCell ⟨R,o,none⟩ v):=Q0n.setCell (OnR R) w rfl v
end
def nxB (s:List UInt8) (p:Nat) (bad:Bool):UInt8:=if bad=true then 0 else Q09 s p
def skS (s:List UInt8) (p:Nat) (bad:Bool):Nat:=if bad=true then p else Q07 s p
theorem Qub {s:List UInt8} {p:Nat} {bad:Bool} (h:nxB s p bad≠0):bad=false/\p<s.length/\nxB s p bad=Q09 s p:=by
 unfold nxB at h⊢
 cases bad
 ·exact ⟨rfl,Q5g (by simpa using h),rfl⟩
 ·exact absurd rfl h
def Qr7 (fp:Nat->Prop) (a:Option Addr) (L:List Nat):Prop:=L=[]∨∀x,a=some x->¬fp x.block
theorem WordsIn.turn {w w':World} {fp fq:Nat->Prop} {a:Option Addr} {n c:Nat} {L:List Nat} (h:WordsIn w a n c L) (ho:Qr7 fp a L) (ht:Q0n fq w w') (hs:∀k,fq k->fp k):WordsIn w' a n c L:=by
 refine ⟨h.len,h.cap,h.most,h.low,?_⟩
 rcases ho with rfl|ho
 ·exact .inl rfl
 rcases h.rd with h0|⟨b,o,rfl,hb,hc⟩
 ·exact .inl h0
 ·exact .inr ⟨b,o,rfl,Nat.lt_of_lt_of_le hb ht.size,fun j x hx=>(ht.cell (p:=⟨b,o+j,none⟩) hb (fun hk=>ho _ rfl (hs _ hk))).trans (hc j x hx)⟩
theorem Qr7.more {w:World} {fp fp':Nat->Prop} {a:Option Addr} {n c:Nat} {L:List Nat} (ho:Qr7 fp a L) (h:WordsIn w a n c L) (hs:∀k,fp' k->fp k∨w.heap.size<=k):Qr7 fp' a L:=by
 rcases ho with rfl|ho
 ·exact .inl rfl
 rcases h.rd with h0|⟨b,o,rfl,hb,hc⟩
 ·exact .inl h0
 ·refine .inr fun x hx hk=>?_
  injection hx with hx
  subst hx
  rcases hs _ hk with h1|h1
  ·exact ho _ rfl h1
  ·exact absurd hb (Nat.not_lt_of_le h1)
mutual
def Q2k (fp:Nat->Prop) (w:World):Ex->Value->Prop
 | .num none,v=>∃(b:Bool) (e:Int) (a:Option Addr) (l k:Nat),v=.iface 123 (.agg #[.bool b,.int .i64 e,.slice a l k,.int .i64 2])
 | .num (some c),v=>∃n e a l k L,v=.iface 123 (.agg #[.bool n,.int .i64 e,.slice a l k,.int .i64 0])/\WordsIn w a l k L/\Qr7 fp a L/\Q0h n e L/\Q1q n e L=c
 | .var i,v=>v=.iface 126 (.agg #[.int .i64 (i:Int)])
 | .sum l,v=>∃a b c d,v=.iface 130 (.agg #[.slice (some ⟨a,0,none⟩) l.length c,.slice (some ⟨b,0,none⟩) l.length d])/\¬fp a/\¬fp b/\a<w.heap.size/\b<w.heap.size/\l.length<=c/\c<=maxLen/\l.length<=d/\d<=maxLen/\l≠[]/\Q9s fp w a b 0 l
 | .prod l,v=>∃a c,v=.iface 133 (.agg #[.slice (some ⟨a,0,none⟩) l.length c])/\¬fp a/\a<w.heap.size/\l.length<=c/\c<=maxLen/\l≠[]/\Q8x fp w a 0 l
 | .pow x k,v=>∃u,v=.iface 136 (.agg #[u,.int .i64 (k:Int)])/\Q2k fp w x u
def Q9s (fp:Nat->Prop) (w:World) (a b:Nat) (o:Nat):List (Bool × Ex)->Prop
 |[]=>True
 |(t,x)::r=>(∃u,w.cell? ⟨a,o,none⟩=some u/\Q2k fp w x u)/\w.cell? ⟨b,o,none⟩=some (.bool t)/\Q9s fp w a b (o+1) r
def Q8x (fp:Nat->Prop) (w:World) (a:Nat) (o:Nat):List Ex->Prop
 |[]=>True
 |x::r=>(∃u,w.cell? ⟨a,o,none⟩=some u/\Q2k fp w x u)/\Q8x fp w a (o+1) r
end
mutual
theorem Q2k.turn {fp fq:Nat->Prop} {w w':World} (ht:Q0n fq w w') (hs:∀k,fq k->fp k):∀{x:Ex} {v:Value},Q2k fp w x v->Q2k fp w' x v
 | .num none,v,h=>by rw[Q2k] at h⊢;exact h
 | .num (some c),v,h=>by
   rw[Q2k] at h⊢
   obtain ⟨n,e,a,l,k,L,rfl,h1,h2,h3,h4⟩:=h
   exact ⟨n,e,a,l,k,L,rfl,h1.turn h2 ht hs,h2,h3,h4⟩
 | .var i,v,h=>by rw[Q2k] at h⊢;exact h
 | .sum l,v,h=>by
   rw[Q2k] at h⊢
   obtain ⟨a,b,c,d,h0,h1,h2,h3,h4,h5,h6,h7,h8,h9,h10⟩:=h
   exact ⟨a,b,c,d,h0,h1,h2,Nat.lt_of_lt_of_le h3 ht.size,Nat.lt_of_lt_of_le h4 ht.size,h5,h6,h7,h8,h9,Q9s.turn ht hs (fun hk=>h1 (hs _ hk)) (fun hk=>h2 (hs _ hk)) h3 h4 h10⟩
 | .prod l,v,h=>by
   rw[Q2k] at h⊢
   obtain ⟨a,c,h0,h1,h2,h3,h4,h5,h6⟩:=h
   exact ⟨a,c,h0,h1,Nat.lt_of_lt_of_le h2 ht.size,h3,h4,h5,Q8x.turn ht hs (fun hk=>h1 (hs _ hk)) h2 h6⟩
 | .pow x k,v,h=>by
   rw[Q2k] at h⊢
   obtain ⟨u,h0,h1⟩:=h
   exact ⟨u,h0,Q2k.turn ht hs h1⟩
theorem Q9s.turn {fp fq:Nat->Prop} {w w':World} (ht:Q0n fq w w') (hs:∀k,fq k->fp k) {a b:Nat} (ha:¬fq a) (hb:¬fq b) (ha2:a<w.heap.size) (hb2:b<w.heap.size):∀{l:List (Bool × Ex)} {o:Nat},Q9s fp w a b o l->Q9s fp w' a b o l
 |[],_,_=>by rw[Q9s];trivial
 |(t,x)::r,o,h=>by
  rw[Q9s] at h⊢
  obtain ⟨⟨u,h1,h2⟩,h3,h4⟩:=h
  exact ⟨⟨u,(ht.cell (p:=⟨a,o,none⟩) ha2 ha).trans h1,Q2k.turn ht hs h2⟩,(ht.cell (p:=⟨b,o,none⟩) hb2 hb).trans h3,Q9s.turn ht hs ha hb ha2 hb2 h4⟩
theorem Q8x.turn {fp fq:Nat->Prop} {w w':World} (ht:Q0n fq w w') (hs:∀k,fq k->fp k) {a:Nat} (ha:¬fq a) (ha2:a<w.heap.size):∀{l:List Ex} {o:Nat},Q8x fp w a o l->Q8x fp w' a o l
 |[],_,_=>by rw[Q8x];trivial
 |x::r,o,h=>by
  rw[Q8x] at h⊢
  obtain ⟨⟨u,h1,h2⟩,h4⟩:=h
  exact ⟨⟨u,(ht.cell (p:=⟨a,o,none⟩) ha2 ha).trans h1,Q2k.turn ht hs h2⟩,Q8x.turn ht hs ha ha2 h4⟩
end
mutual
theorem Q2k.more {fp fp':Nat->Prop} {w:World} (hs:∀k,fp' k->fp k∨w.heap.size<=k):∀{x:Ex} {v:Value},Q2k fp w x v->Q2k fp' w x v
 | .num none,v,h=>by rw[Q2k] at h⊢;exact h
 | .num (some c),v,h=>by
   rw[Q2k] at h⊢
   obtain ⟨n,e,a,l,k,L,rfl,h1,h2,h3,h4⟩:=h
   exact ⟨n,e,a,l,k,L,rfl,h1,h2.more h1 hs,h3,h4⟩
 | .var i,v,h=>by rw[Q2k] at h⊢;exact h
 | .sum l,v,h=>by
   rw[Q2k] at h⊢
   obtain ⟨a,b,c,d,h0,h1,h2,h3,h4,h5,h6,h7,h8,h9,h10⟩:=h
   exact ⟨a,b,c,d,h0,fun hk=>(hs _ hk).elim h1 (Nat.not_le_of_lt h3),fun hk=>(hs _ hk).elim h2 (Nat.not_le_of_lt h4),h3,h4,h5,h6,h7,h8,h9,Q9s.more hs h10⟩
 | .prod l,v,h=>by
   rw[Q2k] at h⊢
   obtain ⟨a,c,h0,h1,h2,h3,h4,h5,h6⟩:=h
   exact ⟨a,c,h0,fun hk=>(hs _ hk).elim h1 (Nat.not_le_of_lt h2),h2,h3,h4,h5,Q8x.more hs h6⟩
 | .pow x k,v,h=>by
   rw[Q2k] at h⊢
   obtain ⟨u,h0,h1⟩:=h
   exact ⟨u,h0,Q2k.more hs h1⟩
theorem Q9s.more {fp fp':Nat->Prop} {w:World} (hs:∀k,fp' k->fp k∨w.heap.size<=k) {a b:Nat}:∀{l:List (Bool × Ex)} {o:Nat},Q9s fp w a b o l->Q9s fp' w a b o l
 |[],_,_=>by rw[Q9s];trivial
 |(t,x)::r,o,h=>by
  rw[Q9s] at h⊢
  obtain ⟨⟨u,h1,h2⟩,h3,h4⟩:=h
  exact ⟨⟨u,h1,Q2k.more hs h2⟩,h3,Q9s.more hs h4⟩
theorem Q8x.more {fp fp':Nat->Prop} {w:World} (hs:∀k,fp' k->fp k∨w.heap.size<=k) {a:Nat}:∀{l:List Ex} {o:Nat},Q8x fp w a o l->Q8x fp' w a o l
 |[],_,_=>by rw[Q8x];trivial
 |x::r,o,h=>by
  rw[Q8x] at h⊢
  obtain ⟨⟨u,h1,h2⟩,h4⟩:=h
  exact ⟨⟨u,h1,Q2k.more hs h2⟩,Q8x.more hs h4⟩
end
theorem Q2k.step {fp:Nat->Prop} {w w':World} {x:Ex} {v:Value} (h:Q2k fp w x v) (hb:Below w.heap.size w w'):Q2k fp w' x v:=h.turn (Q0n.of_below hb fun _=>False) fun _ h=>h.elim
def Q12 (fp:Nat->Prop) (w:World):List Ex->List Value->Prop
 |[],[]=>True
 |x::r,v::s=>Q2k fp w x v/\Q12 fp w r s
 |_,_=>False
theorem Q12.turn {fp fq:Nat->Prop} {w w':World} (ht:Q0n fq w w') (hs:∀k,fq k->fp k):∀{l:List Ex} {vs:List Value},Q12 fp w l vs->Q12 fp w' l vs
 |[],[],h=>h
 |_::_,_::_,h=>⟨h.1.turn ht hs,Q12.turn ht hs h.2⟩
 |[],_::_,h=>h.elim
 |_::_,[],h=>h.elim
theorem Q12.more {fp fp':Nat->Prop} {w:World} (hs:∀k,fp' k->fp k∨w.heap.size<=k):∀{l:List Ex} {vs:List Value},Q12 fp w l vs->Q12 fp' w l vs
 |[],[],h=>h
 |_::_,_::_,h=>⟨h.1.more hs,Q12.more hs h.2⟩
 |[],_::_,h=>h.elim
 |_::_,[],h=>h.elim
theorem Q12.len {fp:Nat->Prop} {w:World}:∀{l:List Ex} {vs:List Value},Q12 fp w l vs->l.length=vs.length
 |[],[],_=>rfl
 |_::_,_::_,h=>congrArg (·+1) (Q12.len h.2)
 |[],_::_,h=>h.elim
 |_::_,[],h=>h.elim
theorem Q12.snoc {fp:Nat->Prop} {w:World} {x:Ex} {v:Value} (hx:Q2k fp w x v):∀{l:List Ex} {vs:List Value},Q12 fp w l vs->Q12 fp w (l++[x]) (vs++[v])
 |[],[],_=>⟨hx,trivial⟩
 |_::_,_::_,h=>⟨h.1,Q12.snoc hx h.2⟩
 |[],_::_,h=>h.elim
 |_::_,[],h=>h.elim
theorem Q12.row {fp:Nat->Prop} {w:World} {g:Nat}:∀{l:List Ex} {vs:List Value} (o:Nat),Q12 fp w l vs->(∀(j:Nat) v,vs[j]?=some v->w.cell? ⟨g,o+j,none⟩=some v)->Q8x fp w g o l
 |[],[],_,_,_=>by rw[Q8x];trivial
 |_::_,v::_,o,h,hc=>by
  rw[Q8x]
  refine ⟨⟨v,by simpa using hc 0 v rfl,h.1⟩,Q12.row (o+1) h.2 fun j u hu=>?_⟩
  have:=hc (j+1) u (by simpa using hu)
  rwa[show o+(j+1)=o+1+j by omega] at this
 |[],_::_,_,h,_=>h.elim
 |_::_,[],_,h,_=>h.elim
theorem Q12.rows {fp:Nat->Prop} {w:World} {g b:Nat}:∀{l:List (Bool × Ex)} {vs:List Value} (o:Nat),Q12 fp w (l.map (·.2)) vs->(∀(j:Nat) v,vs[j]?=some v->w.cell? ⟨g,o+j,none⟩=some v)->(∀(j:Nat) t,(l.map (·.1))[j]?=some t->w.cell? ⟨b,o+j,none⟩=some (.bool t))->Q9s fp w g b o l
 |[],[],_,_,_,_=>by rw[Q9s];trivial
 |(t,_)::_,v::_,o,h,hc,hb=>by
  rw[Q9s]
  refine ⟨⟨v,by simpa using hc 0 v rfl,h.1⟩,by simpa using hb 0 t rfl,Q12.rows (o+1) h.2 (fun j u hu=>?_) fun j u hu=>?_⟩
  ·have:=hc (j+1) u (by simpa using hu)
   rwa[show o+(j+1)=o+1+j by omega] at this
  ·have:=hb (j+1) u (by simpa using hu)
   rwa[show o+(j+1)=o+1+j by omega] at this
 |[],_::_,_,h,_,_=>h.elim
 |_::_,[],_,h,_,_=>h.elim
def Q5u (R:Nat) (s:ByteArray) (m d:Int) (res:PR Ex) (w:World) (e:Ending) (w':World):Prop:=
 ∃t u,e=.returned (.iface t u)/\Q0n (OnR R) w w'/\match res with
  | .ok (x,q)=>Q2k (·<w.heap.size) w' x (.iface t u)/\Q0p w' R s (q:Int) m d false/\q<=s.size
  | .error q=>Q0p w' R s (q:Int) m d true/\q<=s.size
def Q4b (Pr:Value->Prop) (w:World) (B:Nat) (e:TypeId) (k:Nat) (a:Option Addr) (n c:Nat) (xs:List Value):Prop:=
 Row w B e k a n c xs/\∀g cur T fr,a=some ⟨g,0,none⟩->w.heap[g]?=some (.cells cur T fr)->∀u∈cur.toList,Pr u
theorem Q4b.nil_ (Pr:Value->Prop) (w:World) (B:Nat) (e:TypeId) (k:Nat):Q4b Pr w B e k none 0 0 []:=⟨Row.nil_ _ _ _ _,fun _ _ _ _ h=>nomatch h⟩
theorem Q4b.keep {Pr:Value->Prop} {w w':World} {B:Nat} {e:TypeId} {k:Nat} {a:Option Addr} {n c:Nat} {xs:List Value} (h:Q4b Pr w B e k a n c xs) (hk:∀x,a=some x->w'.heap[x.block]?=w.heap[x.block]?):Q4b Pr w' B e k a n c xs:=by
 refine ⟨⟨h.1.1,?_⟩,fun g cur T fr ha hh=>h.2 g cur T fr ha ((hk _ ha).symm.trans hh)⟩
 rcases h.1.2 with h2|⟨g,cap,cur,hv,hB,hh,hr⟩
 ·exact .inl h2
 ·refine .inr ⟨g,cap,cur,hv,hB,?_,hr⟩
  injection hv with e1
  exact (hk _ e1).trans hh
theorem Q4b.step {Pr:Value->Prop} {w w':World} {B:Nat} {e:TypeId} {k:Nat} {a:Option Addr} {n c:Nat} {xs:List Value} (h:Q4b Pr w B e k a n c xs) (hb:Below w.heap.size w w'):Q4b Pr w' B e k a n c xs:=
 h.keep fun _ hx=>hb.block _ (row2_lt h.1 hx)
where
 row2_lt {w:World} {B:Nat} {e:TypeId} {k:Nat} {a:Option Addr} {n c:Nat} {xs:List Value} (h:Row w B e k a n c xs) {x:Addr} (hx:a=some x):x.block<w.heap.size:=by
  rcases h.form with ⟨h0,_⟩|⟨g,cur,h0,h1,h2,_⟩
  ·rw[h0] at hx;cases hx
  ·rw[h0] at hx;injection hx with hx;subst hx;exact h2
theorem Qe0 {z:Array Value} {n:Nat} {u:Value} (h:u∈(Builtin.zeroCells z n).toList):u∈z.toList:=by
 unfold Builtin.zeroCells at h
 simp only[Array.toList_map,Array.toList_range,List.mem_map,List.mem_range] at h
 obtain ⟨i,hi,rfl⟩:=h
 have hz:0<z.size:=Nat.pos_of_ne_zero fun e=>by rw[e,Nat.mul_zero] at hi;omega
 have hlt:=Nat.mod_lt i hz
 rw[getElem!_pos z (i%z.size) hlt]
 exact Array.mem_toList_iff.2 (Array.getElem_mem hlt)
theorem Qfv (w:World) (g:Nat) (cs:Array Value):w.grownBy (w.setRow g cs) (some g):=⟨rfl,rfl,rfl,by rw[size_setRow];exact Nat.le_refl _,fun k _ hn=>setRow_other w g k cs (fun e=>hn (by rw[e]))⟩
theorem Q5k {P:Program} (Pr:Value->Prop) (w:World) (t ty e:TypeId) (i:TypeInfo) (z:Value) (k bytes:Nat) (ht:P.underlying t=some (.slice e)) (hi:P.info? e=some i) (hz:i.zero=some z) (hsize:i.size=k) (hby:i.bytes=bytes) (hzs:z.cells.size=k)
 (hzp:∀u∈z.cells.toList,Pr u) (B:Nat) (hB:B<=w.heap.size) (a:Option Addr) (n c:Nat) (xs:List Value) (h:Q4b Pr w B e k a n c xs)
 (x0:Addr) (m d:Nat) (news:List Value) (hl:news.length=m*k) (hnews:∀j u,news[j]?=some u->w.cell? (x0.add j)=some u) (h1:∀u∈news,u.oneCell'=true) (hp:∀u∈news,Pr u)
 (hm:0<m) (hn:n+m<=1000000) (hb:bytes<=1000) (hk:0<k):
 ∃g c' w',(Builtin.append_ #[t,t] ty #[.slice a n c,.slice (some x0) m d]).run P w=.ok (.slice (some ⟨g,0,none⟩) (n+m) c') w'/\Q4b Pr w' B e k (some ⟨g,0,none⟩) (n+m) c' (xs++news)/\w.grownBy w' (a.map (·.block))/\(a=some ⟨g,0,none⟩∨g=w.heap.size):=by
 subst hsize
 have hnb:(n+m)*bytes<=1000000*1000:=Nat.mul_le_mul hn hb
 have hmb:m*bytes<=1000000*1000:=Nat.mul_le_mul (by omega) hb
 have hlx:=h.1.len
 have hrowlen:(xs++news).length=(n+m)*i.size:=by rw[List.length_append,hlx,hl,Nat.add_mul]
 have fresh:∀(cap:Nat),n+m<=cap->cap<=maxLen->Q4b Pr (w.drew.alloc (.cells (xs.toArray++news.toArray++Builtin.zeroCells z.cells (cap-(n+m))) e)) B e i.size (some ⟨w.heap.size,0,none⟩) (n+m) cap (xs++news):=by
  intro cap hc1 hc2
  have hh:(w.drew.alloc (.cells (xs.toArray++news.toArray++Builtin.zeroCells z.cells (cap-(n+m))) e)).heap[w.heap.size]?=some (.cells (xs.toArray++news.toArray++Builtin.zeroCells z.cells (cap-(n+m))) e (0,0)):=heap_alloc_new w.drew _
  refine ⟨⟨hrowlen,.inr ⟨w.heap.size,cap,_,rfl,hB,hh,hc1,hc2,?_,?_⟩⟩,fun g cur T fr hg hcur u hu=>?_⟩
  ·simp only[Array.size_append,List.size_toArray,size_zeroCells,hzs]
   rw[<-List.length_append,hrowlen,<-Nat.add_mul]
   congr 1;omega
  ·simp only[Array.toList_append]
   rw[List.take_append_of_le_length (by rw[hrowlen];exact Nat.le_refl _),List.take_of_length_le (by rw[hrowlen];exact Nat.le_refl _)]
  ·injection hg with hg
   injection hg with hg
   subst hg
   rw[hh] at hcur
   injection hcur with hcur
   injection hcur with hcur _ _
   subst hcur
   simp only[Array.toList_append,List.mem_append] at hu
   rcases hu with (hu|hu)|hu
   ·rcases h.1.form with ⟨_,_,_,h0⟩|⟨g2,cur2,e2,_,_,hh2,_,_,_,htk⟩
    ·rw[h0] at hu;cases hu
    ·refine h.2 g2 cur2 _ _ e2 hh2 u ?_
     rw[<-htk] at hu
     exact List.mem_of_mem_take hu
   ·exact hp u hu
   ·exact hzp u (Qe0 hu)
 rcases h.1.form with ⟨rfl,rfl,rfl,rfl⟩|⟨g,cur,rfl,hgB,hglt,hh,hnc,hcm,hcs,htk⟩
 ·have hrun:=run_append_nil (P:=P) w t ty e i z ht hi hz x0 m d news hl hnews hm (by omega) (by rw[hby];omega)
  have hf:=fresh (grownCap w m 0 e) (by rw[Nat.zero_add];exact grownCap_ge w m 0 e) (grownCap_le_maxLen w m 0 e (by unfold maxLen;omega))
  refine ⟨w.heap.size,grownCap w m 0 e,_,by rw[Nat.zero_add];exact hrun,?_,?_,.inr rfl⟩
  ·simpa using hf
  ·exact ⟨rfl,rfl,rfl,by rw[World.size_alloc];exact Nat.le_succ _,fun k hk _=>(Below.alloc (Below.refl w.drew.heap.size w.drew) (Nat.le_refl _) _).block k hk⟩
 ·by_cases hroom:n+m<=c
  ·have hfit:n*i.size+news.length<=cur.size:=by rw[hcs,hl,<-Nat.add_mul];exact Nat.mul_le_mul_right _ hroom
   have hrun:=run_append_room (P:=P) w t ty e i ht hi g n c cur hh x0 m d news hl hnews h1 hroom hfit
   refine ⟨g,c,_,hrun,?_,Qfv w g _,.inl rfl⟩
   have hh':=setRow_heap w g cur (cur.toList.take (n*i.size)++news++cur.toList.drop (n*i.size+news.length)).toArray e (0,0) hh
   refine ⟨⟨hrowlen,.inr ⟨g,c,_,rfl,hgB,hh',hroom,hcm,?_,?_⟩⟩,fun g2 cur2 T fr hg2 hcur u hu=>?_⟩
   ·simp only[List.size_toArray,List.length_append,List.length_take,List.length_drop,Array.length_toList]
    omega
   ·rw[List.toList_toArray,htk,List.take_append_of_le_length (by rw[hrowlen];exact Nat.le_refl _),List.take_of_length_le (by rw[hrowlen];exact Nat.le_refl _)]
   ·injection hg2 with hg2
    injection hg2 with hg2
    subst hg2
    rw[hh'] at hcur
    injection hcur with hcur
    injection hcur with hcur _ _
    subst hcur
    rw[List.toList_toArray] at hu
    rcases List.mem_append.1 hu with hu|hu
    ·rcases List.mem_append.1 hu with hu|hu
     ·exact h.2 g cur _ _ rfl hh u (List.mem_of_mem_take hu)
     ·exact hp u hu
    ·exact h.2 g cur _ _ rfl hh u (List.mem_of_mem_drop hu)
  ·have holds:∀j v,xs[j]?=some v->w.cell? ((⟨g,0,none⟩:Addr).add j)=some v:=fun j v hv=>by
    have hadd:(⟨g,0,none⟩:Addr).add j=⟨g,j,none⟩:=by unfold Addr.add;split <;> simp_all
    rw[hadd]
    obtain ⟨g',e',_,_,hc⟩:=h.1.at_ hv
    injection e' with e'
    injection e' with e'
    subst e'
    exact hc
   have hcap:=growslice_fits (need:=n+m) (old:=c) (bytes:=i.bytes) (by omega) (by rw[hby];omega)
   have hrun:=run_append_grow (P:=P) w t ty e i z ht hi hz ⟨g,0,none⟩ n c xs hlx holds x0 m d news hl hnews (by omega) (by omega) hcap
   have hf:=fresh (grownCap w (n+m) c e) (grownCap_ge w (n+m) c e) (grownCap_le_maxLen w (n+m) c e (by unfold maxLen;omega))
   refine ⟨w.heap.size,grownCap w (n+m) c e,_,hrun,hf,?_,.inr rfl⟩
   exact ⟨rfl,rfl,rfl,by rw[World.size_alloc];exact Nat.le_succ _,fun k hk _=>(Below.alloc (Below.refl w.drew.heap.size w.drew) (Nat.le_refl _) _).block k hk⟩
theorem Q1f {P:Program} (Pr:Value->Prop) (w:World) (t ty e:TypeId) (i:TypeInfo) (z:Value) (k bytes:Nat) (ht:P.underlying t=some (.slice e)) (hi:P.info? e=some i) (hz:i.zero=some z) (hsize:i.size=k) (hby:i.bytes=bytes) (hzs:z.cells.size=k)
 (hzp:∀u∈z.cells.toList,Pr u) (B:Nat) (hB:B<=w.heap.size) (a:Option Addr) (n c:Nat) (xs:List Value) (h:Q4b Pr w B e k a n c xs)
 (b m d:Nat) (news:List Value) (hl:news.length=m*k) (hnews:∀j u,news[j]?=some u->w.cell? ((⟨b,0,none⟩:Addr).add j)=some u) (h1:∀u∈news,u.oneCell'=true) (hp:∀u∈news,Pr u)
 (hm:0<m) (hn:n+m<=1000000) (hb:bytes<=1000) (hk:0<k):
 ∃g c' w',(Builtin.append_ #[t,t] ty #[.slice a n c,.slice (some ⟨b,0,none⟩) m d]).run P w=.ok (.slice (some ⟨g,0,none⟩) (n+m) c') w'/\Q4b Pr w' B e k (some ⟨g,0,none⟩) (n+m) c' (xs++news)/\w.grownBy w' (a.map (·.block))/\(a=some ⟨g,0,none⟩∨g=w.heap.size):=
 Q5k Pr w t ty e i z k bytes ht hi hz hsize hby hzs hzp B hB a n c xs h ⟨b,0,none⟩ m d news hl hnews h1 hp hm hn hb hk
def NoU (v:Value):Prop:=∀x:Nat,v≠nv .u64 x
theorem Q4b.off {w:World} {B:Nat} {e:TypeId} {k:Nat} {a:Option Addr} {n c:Nat} {xs:List Value} (h:Q4b NoU w B e k a n c xs) {aw:Option Addr} {l cw:Nat} {L:List Nat} (hw:WordsIn w aw l cw L):Qr7 (fun b=>∃x,a=some x/\x.block=b) aw L:=by
 rcases hw.rd with h0|⟨b,o,rfl,hb,hc⟩
 ·exact .inl h0
 cases L with
 |nil=>exact .inl rfl
 |cons y r=>
  refine .inr fun x hx ⟨z,hz,e⟩=>?_
  injection hx with hx
  subst hx
  have h1:=hc 0 y rfl
  rcases h.1.form with ⟨h0,_⟩|⟨g,cur,h0,_,_,hh,_⟩
  ·rw[h0] at hz;cases hz
  ·have hz':=hz
   rw[h0] at hz'
   injection hz' with hz'
   subst hz'
   have e:g=b:=e
   subst e
   rw[cell_of_row _ _ _ _ _ _ hh] at h1
   exact h.2 g cur _ _ h0 hh _ (Array.mem_toList_iff.2 (Array.mem_of_getElem? h1)) y rfl
theorem Q4b.set {Pr:Value->Prop} {w:World} {B:Nat} {e:TypeId} {k g n c:Nat} {xs:List Value} (h:Q4b Pr w B e k (some ⟨g,0,none⟩) n c xs) (i:Nat) {u:Value} (hu:Pr u):Q4b Pr (w.setCell ⟨g,i,none⟩ u) B e k (some ⟨g,0,none⟩) n c (xs.set i u):=by
 refine ⟨h.1.set0 i u,fun g2 cur T fr hg hh v hv=>?_⟩
 injection hg with hg
 injection hg with hg
 subst hg
 rcases h.1.form with ⟨h0,_⟩|⟨g',cur',e1,_,_,hh',_⟩
 ·cases h0
 ·injection e1 with e1;injection e1 with e1;subst e1
  rw[heap_setCell_same _ _ _ _ _ _ hh'] at hh
  injection hh with hh
  injection hh with hh _ _
  subst hh
  rw[Array.toList_setIfInBounds] at hv
  rcases List.mem_or_eq_of_mem_set hv with hv|rfl
  ·exact h.2 _ _ _ _ rfl hh' v hv
  ·exact hu
def Qs3 (w:World) (g o:Nat) (m:Q05):Prop:=∃aw lw cw be oe le ce,w.cell? ⟨g,o,none⟩=some (.bool m.neg)/\w.cell? ⟨g,o+1,none⟩=some (.int .i64 m.exp)/\w.cell? ⟨g,o+2,none⟩=some (.slice aw lw cw)/\w.cell? ⟨g,o+3,none⟩=some (.slice (some ⟨be,oe,none⟩) le ce)/\
 WordsIn w aw lw cw m.ws/\Q0k w (some ⟨be,oe,none⟩) le ce m.es/\be≠g/\be<w.heap.size
theorem Qs3.via {w w':World} {g g' o:Nat} {m:Q05} (h:Qs3 w g o m) (hs:w.heap.size<=w'.heap.size) (hc:∀j,j<4->w'.cell? ⟨g',o+j,none⟩=w.cell? ⟨g,o+j,none⟩) (hw:∀aw lw cw,WordsIn w aw lw cw m.ws->WordsIn w' aw lw cw m.ws) (hi:∀be,be≠g->be<w.heap.size->be≠g'/\w'.heap[be]?=w.heap[be]?):Qs3 w' g' o m:=by
 obtain ⟨aw,lw,cw,be,oe,le,ce,h0,h1,h2,h3,h4,h5,h6,h7⟩:=h
 obtain ⟨i1,i2⟩:=hi be h6 h7
 refine ⟨aw,lw,cw,be,oe,le,ce,(hc 0 (by decide)).trans h0,(hc 1 (by decide)).trans h1,(hc 2 (by decide)).trans h2,(hc 3 (by decide)).trans h3,hw _ _ _ h4,⟨h5.len,h5.cap,h5.most,h5.rng,?_⟩,i1,Nat.lt_of_lt_of_le h7 hs⟩
 rcases h5.rd with h8|⟨b,oo,e,hb,hcc⟩
 ·exact .inl h8
 ·injection e with e
  injection e with e1 e2
  subst e1;subst e2
  exact .inr ⟨be,oe,rfl,Nat.lt_of_lt_of_le hb hs,fun j x hx=>(World.cell?_of_block (a:=⟨be,oe+j,none⟩) i2).trans (hcc j x hx)⟩
theorem WordsIn.onBlock {w w':World} {aw:Option Addr} {l c:Nat} {L:List Nat} (h:WordsIn w aw l c L) (hs:w.heap.size<=w'.heap.size) (mb:Nat) (hmb:∀o,w.cell? ⟨mb,o,none⟩=none) (hk:∀k,k<w.heap.size->k≠mb->w'.heap[k]?=w.heap[k]?):WordsIn w' aw l c L:=by
 refine ⟨h.len,h.cap,h.most,h.low,?_⟩
 rcases h.rd with h0|⟨b,o,rfl,hb,hc⟩
 ·exact .inl h0
 ·refine .inr ⟨b,o,rfl,Nat.lt_of_lt_of_le hb hs,fun j x hx=>?_⟩
  have h1:=hc j x hx
  have hne:b≠mb:=fun e=>by subst e;rw[hmb] at h1;cases h1
  exact (World.cell?_of_block (a:=⟨b,o+j,none⟩) (hk b hb hne)).trans h1
structure Q1x (B:Nat) (w:World) (a:Option Addr) (n c:Nat) (all:List Q05):Prop where
 row:∃xs,Q4b NoU w B 44 4 a n c xs
 ent:∀j m,all[j]?=some m->∃g,a=some ⟨g,0,none⟩/\Qs3 w g (j*4) m
 len:all.length=n
theorem Q1x.nil_ (B:Nat) (w:World):Q1x B w none 0 0 []:=⟨⟨[],Q4b.nil_ _ _ _ _ _⟩,fun j m h=>by simp at h,rfl⟩
theorem Q1x.lt {B:Nat} {w:World} {a:Option Addr} {n c:Nat} {all:List Q05} (h:Q1x B w a n c all) {x:Addr} (hx:a=some x):B<=x.block/\x.block<w.heap.size:=by
 obtain ⟨xs,hr⟩:=h.row
 exact row2_blk hr.1 hx
where
 row2_blk {w:World} {B k:Nat} {T:TypeId} {a:Option Addr} {n c:Nat} {vs:List Value} (h:Row w B T k a n c vs) {x:Addr} (hx:a=some x):B<=x.block/\x.block<w.heap.size:=by
  rcases h.form with ⟨h0,_⟩|⟨g,cur,h0,h1,h2,_⟩
  ·rw[h0] at hx;cases hx
  ·rw[h0] at hx;injection hx with hx;subst hx;exact ⟨h1,h2⟩
theorem Q1x.onBlock {B:Nat} {w w':World} {a:Option Addr} {n c:Nat} {all:List Q05} (h:Q1x B w a n c all) (hs:w.heap.size<=w'.heap.size) (mb:Nat) (hmb:∀o,w.cell? ⟨mb,o,none⟩=none) (ham:∀x,a=some x->x.block≠mb) (hk:∀k,k<w.heap.size->k≠mb->w'.heap[k]?=w.heap[k]?):Q1x B w' a n c all:=by
 obtain ⟨xs,hr⟩:=h.row
 refine ⟨⟨xs,hr.keep fun x hx=>hk _ (h.lt hx).2 (ham x hx)⟩,fun j m hm=>?_,h.len⟩
 obtain ⟨g,ha,hE⟩:=h.ent j m hm
 have hg:=h.lt ha
 have hcell:∀o,w'.cell? ⟨g,o,none⟩=w.cell? ⟨g,o,none⟩:=fun o=>World.cell?_of_block (a:=⟨g,o,none⟩) (hk g hg.2 (ham _ ha))
 refine ⟨g,ha,?_⟩
 obtain ⟨aw,lw,cw,be,oe,le,ce,h0,h1,h2,h3,h4,h5,h6,h7⟩:=hE
 have hi5:Q0k w' (some ⟨be,oe,none⟩) le ce m.es:=by
  refine ⟨h5.len,h5.cap,h5.most,h5.rng,?_⟩
  rcases h5.rd with h8|⟨b,oo,e,hb,hcc⟩
  ·exact .inl h8
  ·refine .inr ⟨b,oo,e,Nat.lt_of_lt_of_le hb hs,fun i x hx=>?_⟩
   have h9:=hcc i x hx
   have hne:b≠mb:=fun e=>by subst e;rw[hmb] at h9;cases h9
   exact (World.cell?_of_block (a:=⟨b,oo+i,none⟩) (hk b hb hne)).trans h9
 exact ⟨aw,lw,cw,be,oe,le,ce,(hcell _).trans h0,(hcell _).trans h1,(hcell _).trans h2,(hcell _).trans h3,h4.onBlock hs mb hmb hk,hi5,h6,Nat.lt_of_lt_of_le h7 hs⟩
theorem Q1x.step {B:Nat} {w w':World} {a:Option Addr} {n c:Nat} {all:List Q05} (h:Q1x B w a n c all) (hb:Below w.heap.size w w'):Q1x B w' a n c all:=by
 refine h.onBlock hb.size w.heap.size (fun o=>?_) (fun x hx=>Nat.ne_of_lt (h.lt hx).2) fun k hk _=>hb.block k hk
 unfold World.cell?
 simp
theorem Q1x.push {B:Nat} {w w2:World} {a:Option Addr} {n c c2 g:Nat} {all:List Q05} (h:Q1x B w a n c all) {xs xs2:List Value} (hr0:Q4b NoU w B 44 4 a n c xs) {o:Obj} (hgr:(w.alloc o).grownBy w2 (a.map (·.block))) (hat:a=some ⟨g,0,none⟩∨g=(w.alloc o).heap.size) {m:Q05} {aw:Option Addr} {lw cw be oe le ce:Nat}
 (hr:Q4b NoU w2 B 44 4 (some ⟨g,0,none⟩) (n+1) c2 xs2) (hxs:xs2=xs++[.bool m.neg,.int .i64 m.exp,.slice aw lw cw,.slice (some ⟨be,oe,none⟩) le ce])
 (hw:WordsIn w aw lw cw m.ws) (hi:Q0k w (some ⟨be,oe,none⟩) le ce m.es) (hbe:be<w.heap.size) (hba:∀x,a=some x->x.block≠be):Q1x B w2 (some ⟨g,0,none⟩) (n+1) c2 (all++[m]):=by
 have hsz:w.heap.size<=w2.heap.size:=Nat.le_trans (Nat.le_of_lt (Q0f w o)) hgr.size
 have htt:Q0n (fun b=>∃x,a=some x/\x.block=b) w w2:=(Q0n.of_below ((Below.refl _ _).alloc (Nat.le_refl _) _) _).trans0 (Q0n.of_grown hgr fun r hr _=>by
  cases a with
  |none=>simp at hr
  |some y=>simp only[Option.map_some,Option.some.injEq] at hr;exact ⟨y,rfl,hr⟩)
 have hwt:∀(aw:Option Addr) (lw cw:Nat) (L:List Nat),WordsIn w aw lw cw L->WordsIn w2 aw lw cw L:=fun aw lw cw L hw=>hw.turn (hr0.off hw) htt (fun _ h=>h)
 have hblk:∀k,k<w.heap.size->(∀x,a=some x->x.block≠k)->w2.heap[k]?=w.heap[k]?:=fun k hk hn=>htt.block k hk (fun ⟨x,hx,e⟩=>hn x hx e)
 have hnew:∀k,k<w.heap.size->(∀x,a=some x->x.block≠k)->k≠g:=fun k hk hn e=>by
  subst e
  rcases hat with h1|h1
  ·exact hn _ h1 rfl
  ·rw[World.size_alloc] at h1;omega
 have hln:xs.length=n*4:=hr0.1.len
 have hcells:∀i v,xs2[i]?=some v->w2.cell? ⟨g,i,none⟩=some v:=fun i v hv=>hr.1.cell0 hv
 refine ⟨⟨xs2,hr⟩,fun j m' hm'=>⟨g,rfl,?_⟩,by rw[List.length_append,h.len];rfl⟩
 by_cases hj:j<n
 ·rw[List.getElem?_append_left (by rw[h.len];exact hj)] at hm'
  obtain ⟨g0,ha,hE⟩:=h.ent j m' hm'
  refine hE.via hsz (fun i hi4=>?_) (fun _ _ _ h=>hwt _ _ _ _ h) fun be hb1 hb2=>?_
  ·have hlt:j*4+i<xs.length:=by omega
   have e1:=hcells (j*4+i) xs[j*4+i] (by rw[hxs,List.getElem?_append_left hlt,List.getElem?_eq_getElem hlt])
   subst ha
   rw[e1,hr0.1.cell0 (List.getElem?_eq_getElem hlt)]
  ·have hna:∀x,a=some x->x.block≠be:=fun x hx e=>by rw[ha] at hx;injection hx with hx;subst hx;exact hb1 e.symm
   exact ⟨hnew be hb2 hna,hblk be hb2 hna⟩
 ·have hjn:j=n:=by
   have:=(List.getElem?_eq_some_iff.1 hm').1
   rw[List.length_append,h.len] at this
   simp at this;omega
  subst hjn
  rw[List.getElem?_append_right (by rw[h.len];exact Nat.le_refl _),h.len,Nat.sub_self] at hm'
  simp only[List.getElem?_cons_zero,Option.some.injEq] at hm'
  subst hm'
  have hc:∀i v,[Value.bool m.neg,.int .i64 m.exp,.slice aw lw cw,.slice (some ⟨be,oe,none⟩) le ce][i]?=some v->w2.cell? ⟨g,j*4+i,none⟩=some v:=fun i v hv=>hcells _ _ (by rw[hxs,List.getElem?_append_right (by omega),hln,Nat.add_sub_cancel_left];exact hv)
  have hb2:=hblk be hbe hba
  refine ⟨aw,lw,cw,be,oe,le,ce,hc 0 _ rfl,hc 1 _ rfl,hc 2 _ rfl,hc 3 _ rfl,hwt _ _ _ _ hw,⟨hi.len,hi.cap,hi.most,hi.rng,?_⟩,hnew be hbe hba,Nat.lt_of_lt_of_le hbe hsz⟩
  rcases hi.rd with h8|⟨b,oo,e,hb,hcc⟩
  ·exact .inl h8
  ·injection e with e
   injection e with e1 e2
   subst e1;subst e2
   exact .inr ⟨be,oe,rfl,Nat.lt_of_lt_of_le hb hsz,fun i x hx=>(World.cell?_of_block (a:=⟨be,oe+i,none⟩) hb2).trans (hcc i x hx)⟩
theorem Q1x.put {B:Nat} {w:World} {g n c:Nat} {all:List Q05} (h:Q1x B w (some ⟨g,0,none⟩) n c all) {i:Nat} {m:Q05} (hm:all[i]?=some m) {b:Bool} {e:Int} {aw:Option Addr} {lw cw:Nat} {L:List Nat} (hw:WordsIn w aw lw cw L):
 Q1x B (((w.setCell ⟨g,i*4,none⟩ (.bool b)).setCell ⟨g,i*4+1,none⟩ (.int .i64 e)).setCell ⟨g,i*4+2,none⟩ (.slice aw lw cw)) (some ⟨g,0,none⟩) n c (all.set i ⟨b,e,L,m.es⟩):=by
 obtain ⟨xs,hr⟩:=h.row
 obtain ⟨g',hg',hE⟩:=h.ent i m hm
 injection hg' with hg'
 injection hg' with hg'
 subst hg'
 obtain ⟨aw0,lw0,cw0,be,oe,le,ce,h0,h1,h2,h3,h4,h5,h6,h7⟩:=hE
 have ne01:(⟨g,i*4,none⟩:Addr)≠⟨g,i*4+1,none⟩:=by simp
 have d1:(w.setCell ⟨g,i*4,none⟩ (.bool b)).cell? ⟨g,i*4+1,none⟩=some (.int .i64 m.exp):=(World.cell?_setCell_other _ _ _ _ (by simp)).trans h1
 have d2:((w.setCell ⟨g,i*4,none⟩ (.bool b)).setCell ⟨g,i*4+1,none⟩ (.int .i64 e)).cell? ⟨g,i*4+2,none⟩=some (.slice aw0 lw0 cw0):=(World.cell?_setCell_other _ _ _ _ (by simp)).trans ((World.cell?_setCell_other _ _ _ _ (by simp)).trans h2)
 have hwt:∀(aw':Option Addr) (lw' cw':Nat) (L':List Nat),WordsIn w aw' lw' cw' L'->WordsIn (((w.setCell ⟨g,i*4,none⟩ (.bool b)).setCell ⟨g,i*4+1,none⟩ (.int .i64 e)).setCell ⟨g,i*4+2,none⟩ (.slice aw lw cw)) aw' lw' cw' L':=fun _ _ _ _ hw'=>
  ((hw'.set1 h0 (fun _=>by simp[nv]) _).set1 d1 (fun _=>by simp[nv]) _).set1 d2 (fun _=>by simp[nv]) _
 have hblk:∀k,k≠g->(((w.setCell ⟨g,i*4,none⟩ (.bool b)).setCell ⟨g,i*4+1,none⟩ (.int .i64 e)).setCell ⟨g,i*4+2,none⟩ (.slice aw lw cw)).heap[k]?=w.heap[k]?:=fun k hk=>(Below.heap_setCell _ _ _ _ hk).trans ((Below.heap_setCell _ _ _ _ hk).trans (Below.heap_setCell _ _ _ _ hk))
 have hfar:∀o,o≠i*4->o≠i*4+1->o≠i*4+2->(((w.setCell ⟨g,i*4,none⟩ (.bool b)).setCell ⟨g,i*4+1,none⟩ (.int .i64 e)).setCell ⟨g,i*4+2,none⟩ (.slice aw lw cw)).cell? ⟨g,o,none⟩=w.cell? ⟨g,o,none⟩:=fun o a0 a1 a2=>(World.cell?_setCell_other _ _ _ _ (by simp)).trans ((World.cell?_setCell_other _ _ _ _ (by simp)).trans (World.cell?_setCell_other _ _ _ _ (by simp)))
 refine ⟨⟨_,((hr.set (i*4) (u:=.bool b) (fun _=>by simp[nv])).set (i*4+1) (u:=.int .i64 e) (fun _=>by simp[nv])).set (i*4+2) (u:=.slice aw lw cw) (fun _=>by simp[nv])⟩,fun j m' hm'=>⟨g,rfl,?_⟩,by rw[List.length_set,h.len]⟩
 by_cases hj:j=i
 ·subst hj
  rw[List.getElem?_set_self (List.getElem?_eq_some_iff.1 hm).1] at hm'
  injection hm' with hm'
  subst hm'
  refine ⟨aw,lw,cw,be,oe,le,ce,?_,?_,?_,?_,hwt _ _ _ _ hw,⟨h5.len,h5.cap,h5.most,h5.rng,?_⟩,h6,by simp only[World.size_setCell];exact h7⟩
  ·exact (World.cell?_setCell_other _ _ _ _ (by simp)).trans ((World.cell?_setCell_other _ _ _ _ (by simp)).trans (World.cell?_setCell_same' _ _ _ (by rw[h0];rfl)))
  ·exact (World.cell?_setCell_other _ _ _ _ (by simp)).trans (World.cell?_setCell_same' _ _ _ (by rw[d1];rfl))
  ·exact World.cell?_setCell_same' _ _ _ (by rw[d2];rfl)
  ·exact (hfar _ (by omega) (by omega) (by omega)).trans h3
  ·rcases h5.rd with h8|⟨bb,oo,ee,hb,hcc⟩
   ·exact .inl h8
   ·injection ee with ee
    injection ee with e1 e2
    subst e1;subst e2
    exact .inr ⟨be,oe,rfl,by simp only[World.size_setCell];exact hb,fun k x hx=>(World.cell?_of_block (a:=⟨be,oe+k,none⟩) (hblk be h6)).trans (hcc k x hx)⟩
 ·rw[List.getElem?_set_ne (fun e=>hj e.symm)] at hm'
  obtain ⟨g',hg',hE'⟩:=h.ent j m' hm'
  injection hg' with hg'
  injection hg' with hg'
  subst hg'
  exact hE'.via (by simp only[World.size_setCell];exact Nat.le_refl _) (fun k hk=>hfar _ (by omega) (by omega) (by omega)) (fun _ _ _ h=>hwt _ _ _ _ h) fun be' hb1 _=>⟨hb1,hblk be' hb1⟩
def Qip (k:Nat) (m:Q05):Prop:=Q0m k m.es/\Q0h m.neg m.exp m.ws
structure Quc (w:World) (b:Nat) (k:Nat):Prop where
 cell:w.cell? ⟨b,0,none⟩=some (.int .i64 (k:Int))
 lt:b<w.heap.size
theorem Quc.step {w w':World} {b k:Nat} (h:Quc w b k) (hb:Below w.heap.size w w'):Quc w' b k:=⟨(hb.cell (p:=⟨b,0,none⟩) h.lt).trans h.cell,Nat.lt_of_lt_of_le h.lt hb.size⟩
theorem Qiq (n:Bool) (e:Int) (a:Option Addr) (l c:Nat) (L:List Nat) (b:Option Addr) (m d:Nat) (E:List Int) (kb k:Nat) (w:World) (h:WordsIn w a l c L) (hE:Q0k w b m d E) (hk:k<=9223372036854775807) (he: -9223372036854775808<=e) (he2:e<=9223372036854775807) (hK:Quc w kb k):
 Calls Tryz.prog 135 #[.agg #[.bool n,.int .i64 e,.slice a l c,.slice b m d],.pointer (some ⟨kb,0,none⟩)] w fun r w'=>r=.returned (.bool (!decide (Q0m k E/\Q0h n e L)))/\Below w.heap.size w w':=by
 have hX:=Q2s.new w (.bool n) (.int .i64 e) (.slice a l c) (.slice b m d) 44
 have hb:Below w.heap.size w (w.alloc (.cells #[.bool n,.int .i64 e,.slice a l c,.slice b m d] 44)):=(Below.refl _ _).alloc (Nat.le_refl _) _
 have hmo:=Qk8 n e a l c L b m d E k _ (h.step hb) (hE.step hb) hk he he2
 have hkc:=(hK.step hb).cell
 obtain ⟨dv,hdv⟩:∃dv,decide (Q0m k E/\Q0h n e L)=dv:=⟨_,rfl⟩
 rw[hdv] at hmo⊢
 generalize hW:w.alloc (.cells #[.bool n,.int .i64 e,.slice a l c,.slice b m d] 44)=W at hX hb hmo hkc
 obtain ⟨x0,x1,x2,x3,_,_,_,_⟩:=id hX
 have H:=Xh2 hmo hb
 clear hmo hb hX h hE
 go_enter Tryz.func135,Tryz.ntmps135
 go_wp2_with (go_at_call_of 87 a;refine (Xo0 H).mono ?_;rintro r w1 ⟨rfl,hb1⟩;have HB:=Lib.hid hb1;clear hb1)
 go_ret
 exact ⟨rfl,Below.next0 (Xe1 H) HB.out⟩
theorem Qir (a:Option Addr) (n c:Nat) (ms:List Q05) (kb k:Nat) (w:World) (h:Q0c w a n c ms) (hok:∀m∈ms,Qip k m) (hk:k<=4) (hK:Quc w kb k):
 Calls Tryz.prog 165 #[.slice a n c,.func (.func 135) #[] #[.pointer (some ⟨kb,0,none⟩)]] w fun r w'=>r=.returned (.int .i64 (-1))/\Below w.heap.size w w':=by
 have hln:=h.1
 subst hln
 have hcm:=Nat.le_trans h.2.1 h.2.2.1
 have HM:=Xh3 h hok hK
 clear h hok hK
 go_enter Tryz.func165,Tryz.ntmps165
 go_wp2_with fail
 go_loopw [8] (fun iv wr=>∃i:Nat,iv=.int .i64 (i:Int)/\i<=ms.length/\Below w.heap.size w wr) (fun iv _=>ms.length-(intOf iv).toNat)
 case atStart=>exact ⟨0,rfl,Nat.zero_le _,Below.refl _ _⟩
 case round=>
  obtain ⟨i,rfl,hi,hb⟩:=hrel
  by_cases hlt:i<ms.length
  ·have hlt':(i:Int)<(ms.length:Int):=by omega
   obtain ⟨m,hm⟩:∃m,ms[i]?=some m:=⟨_,List.getElem?_eq_getElem hlt⟩
   obtain ⟨b0,o0,rfl,hb0,hat⟩:∃b o,a=some ⟨b,o,none⟩/\b<wr.heap.size/\∀j m,ms[j]?=some m->Q4a wr b (o+j*4) m:=by
    rcases ((Xo0 HM).step hb).2.2.2 with h0|h0
    ·rw[h0] at hlt;simp at hlt
    ·exact h0
   obtain ⟨aw,lw,cw,ae,le,ce,k0,k1,k2,k3,hw,he,hx1,hx2⟩:=hat i m hm
   have hcl:=Qiq m.neg m.exp aw lw cw m.ws ae le ce m.es kb k wr hw he (by omega) hx1 hx2 ((Xe2 HM).step hb)
   have hf:Qip k m:=(Xo1 HM) m (List.mem_of_getElem? hm)
   rw[decide_eq_true (show Q0m k m.es/\Q0h m.neg m.exp m.ws from hf)] at hcl
   have HC:=Xh2 hcl hb
   clear hcl hb hat hw he hm hf
   go_wp2_with (go_at_call_of 135 aw;refine (Xo0 HC).mono ?_;rintro r w1 ⟨rfl,hb1⟩;have HB:=Lib.hid hb1;clear hb1)
   exact ⟨⟨i+1,by simp,by omega,Below.next0 (Xe1 HC) HB.out⟩,by simp only[intOf];omega⟩
  ·have hlt':¬((i:Int)<(ms.length:Int)):=by omega
   have HC:=Lib.hid hb
   clear hb
   go_wp2_with fail
   go_ret
   exact ⟨rfl,HC.out⟩
theorem Qis (a:Option Addr) (n c:Nat) (ms:List Q05) (kb k:Nat) (w:World) (h:Q0c w a n c ms) (hok:∀m∈ms,Qip k m) (hk:k<=4) (hK:Quc w kb k):
 Calls Tryz.prog 134 #[.slice a n c,.func (.func 135) #[] #[.pointer (some ⟨kb,0,none⟩)]] w fun r w'=>r=.returned (.bool false)/\Below w.heap.size w w':=by
 have hix:=Qir a n c ms kb k w h hok hk hK
 have H:=Lib.hid hix
 clear hix h hok hK
 go_enter Tryz.func134,Tryz.ntmps134
 go_wp2_with (go_at_call_of 165 a;refine H.out.mono ?_;rintro r w1 ⟨rfl,hb1⟩;have HB:=Lib.hid hb1;clear hb1)
 go_ret
 exact ⟨rfl,HB.out⟩
end Go.Proofs.YtdilmfakkppgpaaGreatDoor
