/- Part 11. No condition. -/
import Derived.Test.YtidojbkhlenahaaGreatDoorPkProblemBack10
set_option maxRecDepth 100000
set_option maxHeartbeats 16000000
namespace Go.Proofs.YtidojbkhlenahaaGreatDoor
open Go.RowKit WordsM DecM
mutual
def Q48 (m:Nat):Ex->Prop
 | .num none=>True
 | .num (some c)=>Q44 c
 | .var i=>i<m
 | .sum l=>Q8f m l
 | .prod l=>Q91 m l
 | .pow b k=>Q48 m b/\k<=8
def Q8f (m:Nat):List (Bool × Ex)->Prop
 |[]=>True
 |(_,x)::r=>Q48 m x/\Q8f m r
def Q91 (m:Nat):List Ex->Prop
 |[]=>True
 |x::r=>Q48 m x/\Q91 m r
end
theorem Qj0 {m:Nat}:∀{l r:List (Bool × Ex)},Q8f m l->Q8f m r->Q8f m (l++r)
 |[],_,_,h=>h
 |(_,_)::_,_,h,h'=>by
  rw[Tt,Q8f];rw[Q8f] at h;exact ⟨h.1,Qj0 h.2 h'⟩
theorem Qj1 {m:Nat}:∀{l r:List Ex},Q91 m l->Q91 m r->Q91 m (l++r)
 |[],_,_,h=>h
 |_::_,_,h,h'=>by
  rw[Tt,Q91];rw[Q91] at h;exact ⟨h.1,Qj1 h.2 h'⟩
def Q2k (s:LU) (p q:Nat):Prop:=∀j,p<=j->j<q->Q07 s j≠10
theorem Q2k.trans {s:LU} {p q r:Nat} (h:Q2k s p q) (h':Q2k s q r):Q2k s p r:=fun j h1 h2=>by
 by_cases e:j<q
 ·exact h j h1 e
 ·exact h' j (by omega) h2
theorem Q2k.one {s:LU} {p:Nat} (h:Q07 s p≠10):Q2k s p (p+1):=fun j h1 h2=>by
 obtain rfl:j=p:=by omega
 exact h
theorem Q2k.nil_ (s:LU) (p:Nat):Q2k s p p:=fun j h1 h2=>by omega
theorem Q6j {s:LU} {j:Nat} (h:j<s.length):Q07 s j=s[j]:=by
 unfold Q07;rw[US,Ua h];rfl
theorem Qau (s:LU) (p:Nat):Q2k s p (Q1j s p):=by
 intro j h1 h2 h3;unfold Q1j at h2;have E0:=Q0k h3 (by decide);have hm:s[j]∈(s.drop p).take (digN (s.drop p)):=by
  rw[UV];exact ⟨j-p,by rw[Tw,Us (by omega),Xau,show p+(j-p)=j by omega,Ua E0]⟩
 have:=Q7j _ _ hm;rw[<-Q6j E0,h3] at this;exact absurd this.1 (by decide)
theorem Q1q (s:LU):∀p,Q2k s p (Q05 s p):=by
 have key:∀n p,s.length-p=n->Q2k s p (Q05 s p):=by
  intro n
  induction n using Nat.strongRecOn with
  |ind n ih=>
   intro p hn
   by_cases h:Q07 s p=32
   ·have hp:=Q0k h (by decide);rw[Q6b h];exact (Q2k.one (by rw[h];decide)).trans (ih (s.length-(p+1)) (by omega) (p+1) rfl)
   ·rw[Q7k h];exact Q2k.nil_ s p
 exact fun p=>key _ p rfl
theorem Qtf (s:LU) (p:Nat):Q2k s p (Qbm s p):=by
 have h1:=Qau s p;unfold Qbm
 split
 ·rename_i h2;have h3:Q2k s (Q1j s p) (Q1j s p+1):=Q2k.one (by rw[h2];decide)
  split
  ·rename_i h4;exact (h1.trans h3).trans ((Q2k.one (p:=Q1j s p+1) (by rw[h4];decide)).trans (Qau s _))
  ·exact (h1.trans h3).trans (Qau s _)
 ·exact h1
theorem Qdm {s:LU} {p:Nat} (h:48<=(Q07 s p).toNat):Q2k s p (p+1):=Q2k.one fun e=>by rw[e] at h;exact absurd h (by decide)
def Clr (s:LU) (m p:Nat) (r:PR Ex):Prop:=
 match r with
 | .error _=>True
 | .ok (x,q)=>Q48 m x/\Q2k s p q
theorem Qz0 (s:LU) (m p:Nat):Clr s m p (Qld s p):=by
 unfold Qld
 split
 ·trivial
 ·refine ⟨?_,Qtf s p⟩
  split
  ·rename_i h;rw[Q48];exact (Q17 _).1 h
  ·rw[Q48];trivial
theorem Clr.from {s:LU} {m p q:Nat} {r:PR Ex} (h:Clr s m q r) (h':Q2k s p q):Clr s m p r:=by
 revert h
 cases r with
 |error e=>exact id
 |ok z=>exact fun h=>⟨h.1,h'.trans h.2⟩
theorem Qwb {sub:Nat->PR Ex} {opens:Bool} {s:LU} {m:Nat} (hs:opens=true->∀p,Clr s m p (sub p)) (p:Nat):Clr s m p (Q6c sub opens s m p):=by
 have h1:=Q1q s p;unfold Q6c
 split
 ·exact (Qz0 s m _).from h1
 ·split
  ·rename_i h3
   split
   ·rename_i h5;refine ⟨?_,h1.trans ((Q2k.one (by rw[h3];decide)).trans (Qdm (p:=Q05 s p+1) (by omega)))⟩;rw[Q48];omega
   ·trivial
  ·split
   ·rename_i h3;have h5:=hs h3.2 (Q05 s p+1)
    revert h5
    cases sub (Q05 s p+1) with
    |error e=>exact id
    |ok r=>
     obtain ⟨x,q⟩:=r;intro h5;have W7:Q48 m x/\Q2k s (Q05 s p+1) q:=h5;simp only
     split
     ·rename_i h8;exact ⟨W7.1,h1.trans ((Q2k.one (by rw[h3.1];decide)).trans (W7.2.trans ((Q1q s q).trans (Q2k.one (by rw[h8];decide)))))⟩
     ·trivial
   ·trivial
theorem Qpv {sub:Nat->PR Ex} {opens:Bool} {s:LU} {m:Nat} (hs:opens=true->∀p,Clr s m p (sub p)) (p:Nat):Clr s m p (Q2r sub opens s m p):=by
 have h5:=Qwb hs p;unfold Q2r
 revert h5
 cases Q6c sub opens s m p with
 |error e=>exact id
 |ok r=>
  obtain ⟨x,q⟩:=r;intro h5;have W7:Q48 m x/\Q2k s p q:=h5;simp only
  split
  ·rename_i h8
   split
   ·rename_i Zr;refine ⟨?_,W7.2.trans ((Q1q s q).trans ((Q2k.one (by rw[h8];decide)).trans ((Q1q s _).trans (Qdm Zr.1))))⟩;rw[Q48];exact ⟨W7.1,by omega⟩
   ·trivial
  ·exact ⟨W7.1,W7.2.trans (Q1q s q)⟩
theorem Qo1 {sub:Nat->PR Ex} {opens:Bool} {s:LU} {m:Nat} (hs:opens=true->∀p,Clr s m p (sub p)):∀(f p:Nat) (acc:List Ex),Q91 m acc->Clr s m p (Q5c sub opens s m f p acc)
 |0,p,acc,_=>trivial
 |f+1,p,acc,ha=>by
  have h5:=Qpv hs p;unfold Q5c
  revert h5
  cases Q2r sub opens s m p with
  |error e=>exact id
  |ok r=>
   obtain ⟨x,q⟩:=r;intro h5;have W7:Q48 m x/\Q2k s p q:=h5;have hg:Q91 m (acc++[x]):=Qj1 ha (by rw[Q91,Q91];exact ⟨W7.1,trivial⟩);simp only
   split
   ·rename_i h8;exact (Qo1 hs f (Q05 s q+1) (acc++[x]) hg).from (W7.2.trans ((Q1q s q).trans (Q2k.one (by rw[h8];decide))))
   ·refine ⟨?_,W7.2.trans (Q1q s q)⟩;rw[Q48];exact hg
theorem Qh2 {sub:Nat->PR Ex} {opens:Bool} {s:LU} {m:Nat} (hs:opens=true->∀p,Clr s m p (sub p)):∀(f p:Nat) (below:Bool) (acc:List (Bool × Ex)),Q8f m acc->Clr s m p (Qbn sub opens s m f p below acc)
 |0,p,below,acc,_=>trivial
 |f+1,p,below,acc,ha=>by
  have h5:=Qo1 hs (s.length+1) p [] (by rw[Q91];trivial);unfold Qbn
  revert h5
  cases Q5c sub opens s m (s.length+1) p [] with
  |error e=>exact id
  |ok r=>
   obtain ⟨x,q⟩:=r;intro h5;have W7:Q48 m x/\Q2k s p q:=h5;have hg:Q8f m (acc++[(below,x)]):=Qj0 ha (by rw[Q8f,Q8f];exact ⟨W7.1,trivial⟩);simp only
   split
   ·rename_i h8;exact (Qh2 hs f (Q05 s q+1) false (acc++[(below,x)]) hg).from (W7.2.trans ((Q1q s q).trans (Q2k.one (by rw[h8];decide))))
   ·split
    ·rename_i h8;exact (Qh2 hs f (Q05 s q+1) true (acc++[(below,x)]) hg).from (W7.2.trans ((Q1q s q).trans (Q2k.one (by rw[h8];decide))))
    ·refine ⟨?_,W7.2.trans (Q1q s q)⟩;rw[Q48];exact hg
theorem Qj2 {sub:Nat->PR Ex} {opens:Bool} {s:LU} {m:Nat} (hs:opens=true->∀p,Clr s m p (sub p)) (p:Nat):Clr s m p (Q7l sub opens s m p):=by
 unfold Q7l
 split
 ·rename_i h8;exact (Qh2 hs (s.length+1) (Q05 s p+1) true [] (by rw[Q8f];trivial)).from ((Q1q s p).trans (Q2k.one (by rw[h8];decide)))
 ·exact (Qh2 hs (s.length+1) (Q05 s p) false [] (by rw[Q8f];trivial)).from (Q1q s p)
theorem Qo2 (s:LU) (m:Nat):∀(d p:Nat),Clr s m p (Q8d s m d p)
 |0,p=>Qj2 (fun h=>by cases h) p
 |d+1,p=>Qj2 (fun _ p=>Qo2 s m d p) p
theorem Qdn {s:LU}:∀(t:LU) (p q:Nat),Q2f s t p=.ok q->(10:UInt8)∉t->q=p+t.length/\Q2k s p q
 |[],p,q,h,_=>by
  rw[Q2f] at h;injection h with h;subst h;exact ⟨rfl,Q2k.nil_ s p⟩
 |c::r,p,q,h,hn=>by
  rw[Q2f] at h
  split at h
  ·rename_i h1;obtain ⟨e,h2⟩:=Qdn r (p+1) q h (fun hm=>hn (TH _ hm));refine ⟨by rw[e,Ur];omega,(Q2k.one (fun e=>hn ?_)).trans h2⟩;rw[<-h1,e];exact TO
  ·cases h
theorem Qj3 {s:LU}:∀(t:LU) (p q:Nat),Q2f s t p=.ok q->(0:UInt8)∉t->p<=s.length->q<=s.length
 |[],p,q,h,_,hp=>by
  rw[Q2f] at h;injection h with h;subst h;exact hp
 |c::r,p,q,h,hn,hp=>by
  rw[Q2f] at h
  split at h
  ·rename_i h1;exact Qj3 r (p+1) q h (fun hm=>hn (TH _ hm)) (Q0k h1 (fun e=>hn (by rw[e];exact TO)))
  ·cases h
theorem Qtg {i:Nat} (hi:i<9):(0:UInt8)∉Q3u i:=by
 rw[Q3u,Q6z (by omega)];intro h;simp only[Uy,TN,Xbo,Tt,Ty] at h;rcases h with h|h|h|h|h|h
 ·exact absurd h (by decide)
 ·have:=Q9p (i:=i+1) (by omega);rw[<-h] at this;have QL:(0:UInt8).toNat=0:=rfl;omega
 all_goals exact absurd h (by decide)
theorem Qwc {i:Nat} (hi:i<9):(10:UInt8)∉Q3u i:=by
 rw[Q3u,Q6z (by omega)];intro h;simp only[Uy,TN,Xbo,Tt,Ty] at h;rcases h with h|h|h|h|h|h
 ·exact absurd h (by decide)
 ·have:=Q9p (i:=i+1) (by omega);rw[<-h] at this;have QL:(10:UInt8).toNat=10:=rfl;omega
 all_goals exact absurd h (by decide)
theorem Qwd {s:LU} {m i p q:Nat} {x:Ex} (hi:i<9) (hp:p<=s.length) (h:Qgl s m i p=.ok (x,q)):∃r,q=r+1/\Q07 s r=10/\Q2k s p r/\Q48 m x/\p<=r/\q<=s.length:=by
 unfold Qgl at h;cases hf:Q2f s (Q3u i) p with
 |error e=>rw[hf] at h;cases h
 |ok p1=>
  rw[hf] at h;obtain ⟨h1,h2⟩:=Qdn _ _ _ hf (Qwc hi);simp only at h;have h3:=Qo2 s m 16 p1;cases he:Q8d s m 16 p1 with
  |error e=>rw[he] at h;cases h
  |ok z=>
   obtain ⟨y,t⟩:=z;rw[he] at h h3;simp only at h;have Vh:Q48 m y/\Q2k s p1 t:=h3
   split at h
   ·rename_i h4;injection h with h;injection h with h5 h6;subst h5;have h7:=Q0k h4 (by decide);have h8:=Qj3 _ _ _ hf (Qtg hi) hp;have h9:=Qak s m 16 p1 h8;rw[he] at h9;have h9':p1<t/\t<=s.length:=h9;have QL:=Q64 s t;exact ⟨Q05 s t,h6.symm,h4,h2.trans (Vh.2.trans (Q1q s t)),Vh.1,by omega,by omega⟩
   ·cases h
theorem Qfr {s:LU}:∀(n p r:Nat),r-p=n->p<=r->Q2k s p r->Q07 s r=10->(s.drop p).count 10=1+(s.drop (r+1)).count 10
 |0,p,r,hn,hp,_,h=>by
  obtain rfl:p=r:=by omega
  have hl:=Q0k h (by decide);rw[UG hl,<-Q6j hl,h,List.count_cons_self,Xbf]
 |n+1,p,r,hn,hp,hc,h=>by
  have hl:=Q0k h (by decide);have R7:p<s.length:=by omega
  have h1:=hc p (Ue _) (by omega);rw[UG R7,List.count_cons_of_ne (by rw[<-Q6j R7];exact h1)];exact Qfr n (p+1) r (by omega) (by omega) (fun j h2 h3=>hc j (by omega) h3) h
theorem Qj4 {s:LU} {m:Nat}:∀(f p:Nat) (acc l:List (Nat × Ex)),p<=s.length->acc.length+f<=4->Q4v s m f p acc=.ok l->(∀z∈acc,Q48 m z.2)->l.length=acc.length+(s.drop p).count 10/\acc.length<l.length/\l.length<=acc.length+f/\∀z∈l,Q48 m z.2
 |0,p,acc,l,_,_,h,_=>by rw[Q4v] at h;cases h
 |f+1,p,acc,l,hp,hf,h,ha=>by
  rw[Q4v] at h;cases hl:Qgl s m acc.length p with
  |error e=>rw[hl] at h;cases h
  |ok z=>
   obtain ⟨x,q⟩:=z;rw[hl] at h;simp only at h;obtain ⟨r,rfl,h1,h2,h3,h4,h5⟩:=Qwd (by omega) hp hl;have hc:=Qfr _ p r rfl h4 h2 h1;have YW:∀z∈acc++[(p,x)],Q48 m z.2:=fun z hz=>by
    rcases Tq.1 hz with hz|hz
    ·exact ha z hz
    ·rw[Ux] at hz;subst hz;exact h3
   split at h
   ·obtain ⟨g1,g2,g3,g4⟩:=Qj4 f (r+1) (acc++[(p,x)]) l h5 (by simp only[Uh,Xar];omega) h YW;simp only[Uh,Xar] at g1 g2 g3;exact ⟨by omega,by omega,by omega,g4⟩
   ·rename_i h6;injection h with h;subst h;rw[hc,UW (by omega)];simp only[Uh,Xar,List.count_nil];exact ⟨trivial,by omega,by omega,YW⟩
theorem Qpw {s:LU} {l:List (Nat × Ex)} (h:Q4v s (min (s.count 10) 4) 4 0 []=.ok l):1<=l.length/\l.length<=4/\∀z∈l,Q48 l.length z.2:=by
 obtain ⟨h1,h2,h3,h4⟩:=Qj4 4 0 [] l (Ut _) (by simp) h (fun z hz=>by cases hz);simp only[TW,UH,Xbg] at h1 h2 h3;have:min (s.count 10) 4=l.length:=by omega
 rw[this] at h4;exact ⟨by omega,h3,h4⟩
theorem Qdo (n:Nat):Q0x n (List.replicate n 0):=⟨List.length_replicate ..,fun x hx=>by rw[TM hx];exact Int.le_refl _,by rw[Qic];decide⟩
theorem Qpx {n i:Nat} (hi:i<n):Q0x n (Qbk n i):=by
 have hs:=Q4k n i 1 hi;refine ⟨by simp[Qbk],fun x hx=>?_,by show (Q39 n i 1).sum<=8;omega⟩;obtain ⟨j,hj⟩:=UV.1 hx;unfold Qbk at hj
 by_cases e:i=j
 ·subst e;rw[TG (by simpa using hi)] at hj;injection hj with hj;omega
 ·rw[Te e,TD] at hj
  split at hj
  ·injection hj with hj;omega
  ·cases hj
end Go.Proofs.YtidojbkhlenahaaGreatDoor
namespace Go.Proofs.YtidojbkhlenahaaGreatDoor
open Go.RowKit WordsM
structure Q0q (w:World) (R:Nat) (s:ByteArray) (p m d:Int) (bad:Bool):Prop where
 c0:w.cell? ⟨R,0,none⟩=some (.string s)
 c1:w.cell? ⟨R,1,none⟩=some (.int .i64 p)
 c2:w.cell? ⟨R,2,none⟩=some (.int .i64 m)
 c3:w.cell? ⟨R,3,none⟩=some (.int .i64 d)
 c4:w.cell? ⟨R,4,none⟩=some (.bool bad)
 f0:w.frozen? ⟨R,0,none⟩=false
 f1:w.frozen? ⟨R,1,none⟩=false
 f2:w.frozen? ⟨R,2,none⟩=false
 f3:w.frozen? ⟨R,3,none⟩=false
 f4:w.frozen? ⟨R,4,none⟩=false
 lt:R<w.heap.size
 c5:∀o,5<=o->w.cell? ⟨R,o,none⟩=none
theorem Q0q.cc {w:World} {R:Nat} {s:ByteArray} {p m d:Int} {bad:Bool} (h:Q0q w R s p m d bad):w.cell? ⟨R,0,none⟩=some (.string s)/\w.cell? ⟨R,1,none⟩=some (.int .i64 p)/\w.cell? ⟨R,2,none⟩=some (.int .i64 m):=⟨h.c0,h.c1,h.c2⟩
theorem Q0q.cf {w:World} {R:Nat} {s:ByteArray} {p m d:Int} {bad:Bool} (h:Q0q w R s p m d bad):w.cell? ⟨R,0,none⟩=some (.string s)/\w.cell? ⟨R,1,none⟩=some (.int .i64 p)/\w.cell? ⟨R,2,none⟩=some (.int .i64 m)/\w.frozen? ⟨R,0,none⟩=false/\w.frozen? ⟨R,1,none⟩=false/\w.frozen? ⟨R,2,none⟩=false:=⟨h.c0,h.c1,h.c2,h.f0,h.f1,h.f2⟩
abbrev OnR (R:Nat):Nat->Prop:=fun k=>k=R
section
variable {w w':World} {R:Nat} {s:ByteArray} {p m d:Int} {bad:Bool}
theorem Q0q.step (h:Q0q w R s p m d bad) (hb:Bw w w'):Q0q w' R s p m d bad:=
 ⟨(hb.cell (p:=⟨R,0,none⟩) h.lt).trans h.c0,(hb.cell (p:=⟨R,1,none⟩) h.lt).trans h.c1,(hb.cell (p:=⟨R,2,none⟩) h.lt).trans h.c2,(hb.cell (p:=⟨R,3,none⟩) h.lt).trans h.c3,(hb.cell (p:=⟨R,4,none⟩) h.lt).trans h.c4,
   (hb.frozen (p:=⟨R,0,none⟩) h.lt).trans h.f0,(hb.frozen (p:=⟨R,1,none⟩) h.lt).trans h.f1,(hb.frozen (p:=⟨R,2,none⟩) h.lt).trans h.f2,(hb.frozen (p:=⟨R,3,none⟩) h.lt).trans h.f3,(hb.frozen (p:=⟨R,4,none⟩) h.lt).trans h.f4,Uc h.lt hb.size,fun o ho=>(hb.cell (p:=⟨R,o,none⟩) h.lt).trans (h.c5 o ho)⟩
theorem Q0q.drewN (h:Q0q w R s p m d bad) (k:Nat):Q0q (w.drewN k) R s p m d bad:=⟨h.c0,h.c1,h.c2,h.c3,h.c4,h.f0,h.f1,h.f2,h.f3,h.f4,h.lt,h.c5⟩
theorem Q0q.drew (h:Q0q w R s p m d bad):Q0q w.drew R s p m d bad:=⟨h.c0,h.c1,h.c2,h.c3,h.c4,h.f0,h.f1,h.f2,h.f3,h.f4,h.lt,h.c5⟩
theorem Q0q.setAt (h:Q0q w R s p m d bad) (q:Int):Q0q (w.setCell ⟨R,1,none⟩ (.int .i64 q)) R s q m d bad:=
 ⟨(Ud _ _ _ _ (by simp)).trans h.c0,UE _ _ _ (by rw[h.c1];rfl),(Ud _ _ _ _ (by simp)).trans h.c2,(Ud _ _ _ _ (by simp)).trans h.c3,(Ud _ _ _ _ (by simp)).trans h.c4,
   (Uo _ _ _ _).trans h.f0,(Uo _ _ _ _).trans h.f1,(Uo _ _ _ _).trans h.f2,(Uo _ _ _ _).trans h.f3,(Uo _ _ _ _).trans h.f4,by rw[UT];exact h.lt,fun o ho=>(Ud _ _ _ _ (fun e=>by injection e with _ e _;omega)).trans (h.c5 o ho)⟩
theorem Q0q.setDeep (h:Q0q w R s p m d bad) (q:Int):Q0q (w.setCell ⟨R,3,none⟩ (.int .i64 q)) R s p m q bad:=
 ⟨(Ud _ _ _ _ (by simp)).trans h.c0,(Ud _ _ _ _ (by simp)).trans h.c1,(Ud _ _ _ _ (by simp)).trans h.c2,UE _ _ _ (by rw[h.c3];rfl),(Ud _ _ _ _ (by simp)).trans h.c4,
   (Uo _ _ _ _).trans h.f0,(Uo _ _ _ _).trans h.f1,(Uo _ _ _ _).trans h.f2,(Uo _ _ _ _).trans h.f3,(Uo _ _ _ _).trans h.f4,by rw[UT];exact h.lt,fun o ho=>(Ud _ _ _ _ (fun e=>by injection e with _ e _;omega)).trans (h.c5 o ho)⟩
theorem Q0q.setBad (h:Q0q w R s p m d bad) (q:Bool):Q0q (w.setCell ⟨R,4,none⟩ (.bool q)) R s p m d q:=
 ⟨(Ud _ _ _ _ (by simp)).trans h.c0,(Ud _ _ _ _ (by simp)).trans h.c1,(Ud _ _ _ _ (by simp)).trans h.c2,(Ud _ _ _ _ (by simp)).trans h.c3,UE _ _ _ (by rw[h.c4];rfl),
   (Uo _ _ _ _).trans h.f0,(Uo _ _ _ _).trans h.f1,(Uo _ _ _ _).trans h.f2,(Uo _ _ _ _).trans h.f3,(Uo _ _ _ _).trans h.f4,by rw[UT];exact h.lt,fun o ho=>(Ud _ _ _ _ (fun e=>by injection e with _ e _;omega)).trans (h.c5 o ho)⟩
theorem Q1x (w:World) (R o:Nat) (v:Value):Q0e (OnR R) w (w.setCell ⟨R,o,none⟩ v):=Q0e.setCell (OnR R) w rfl v
end
def nxB (s:LU) (p:Nat) (bad:Bool):UInt8:=if bad=true then 0 else Q07 s p
def skS (s:LU) (p:Nat) (bad:Bool):Nat:=if bad=true then p else Q05 s p
theorem Qz1 {s:LU} {p:Nat} {bad:Bool} (h:nxB s p bad≠0):bad=false/\p<s.length/\nxB s p bad=Q07 s p:=by
 unfold nxB at h⊢;cases bad
 ·exact ⟨rfl,Q6a (by simpa using h),rfl⟩
 ·exact absurd rfl h
def Qvb (fp:Nat->Prop) (a:OA) (L:LN):Prop:=L=[]∨∀x,a=some x->¬fp x.block
theorem WordsIn.turn {w w':World} {fp fq:Nat->Prop} {a:OA} {n c:Nat} {L:LN} (h:WordsIn w a n c L) (ho:Qvb fp a L) (ht:Q0e fq w w') (hs:∀k,fq k->fp k):WordsIn w' a n c L:=by
 refine ⟨h.len,h.cap,h.most,h.low,?_⟩;rcases ho with rfl|ho
 ·exact .inl rfl
 rcases h.rd with h0|⟨b,o,rfl,hb,hc⟩
 ·exact .inl h0
 ·exact .inr ⟨b,o,rfl,Uc hb ht.size,fun j x hx=>(ht.cell (p:=⟨b,o+j,none⟩) hb (fun hk=>ho _ rfl (hs _ hk))).trans (hc j x hx)⟩
theorem Qvb.more {w:World} {fp fp':Nat->Prop} {a:OA} {n c:Nat} {L:LN} (ho:Qvb fp a L) (h:WordsIn w a n c L) (hs:∀k,fp' k->fp k∨w.heap.size<=k):Qvb fp' a L:=by
 rcases ho with rfl|ho
 ·exact .inl rfl
 rcases h.rd with h0|⟨b,o,rfl,hb,hc⟩
 ·exact .inl h0
 ·refine .inr fun x hx hk=>?_;injection hx with hx;subst hx;rcases hs _ hk with h1|h1
  ·exact ho _ rfl h1
  ·exact absurd hb (Nat.not_lt_of_le h1)
mutual
def Q2w (fp:Nat->Prop) (w:World):Ex->Value->Prop
 | .num none,v=>∃(b:Bool) (e:Int) (a:OA) (l k:Nat),v=.iface 171 (.agg #[.bool b,.int .i64 e,.slice a l k,.int .i64 2])
 | .num (some c),v=>∃n e a l k L,v=.iface 171 (.agg #[.bool n,.int .i64 e,.slice a l k,.int .i64 0])/\WordsIn w a l k L/\Qvb fp a L/\Q0a n e L/\Q1p n e L=c
 | .var i,v=>v=.iface 174 (.agg #[.int .i64 (i:Int)])
 | .sum l,v=>∃a b c d,v=.iface 178 (.agg #[.slice (some ⟨a,0,none⟩) l.length c,.slice (some ⟨b,0,none⟩) l.length d])/\¬fp a/\¬fp b/\a<w.heap.size/\b<w.heap.size/\l.length<=c/\c<=maxLen/\l.length<=d/\d<=maxLen/\l≠[]/\Qbr fp w a b 0 l
 | .prod l,v=>∃a c,v=.iface 181 (.agg #[.slice (some ⟨a,0,none⟩) l.length c])/\¬fp a/\a<w.heap.size/\l.length<=c/\c<=maxLen/\l≠[]/\Qav fp w a 0 l
 | .pow x k,v=>∃u,v=.iface 184 (.agg #[u,.int .i64 (k:Int)])/\Q2w fp w x u
def Qbr (fp:Nat->Prop) (w:World) (a b:Nat) (o:Nat):List (Bool × Ex)->Prop
 |[]=>True
 |(t,x)::r=>(∃u,w.cell? ⟨a,o,none⟩=some u/\Q2w fp w x u)/\w.cell? ⟨b,o,none⟩=some (.bool t)/\Qbr fp w a b (o+1) r
def Qav (fp:Nat->Prop) (w:World) (a:Nat) (o:Nat):List Ex->Prop
 |[]=>True
 |x::r=>(∃u,w.cell? ⟨a,o,none⟩=some u/\Q2w fp w x u)/\Qav fp w a (o+1) r
end
mutual
theorem Q2w.turn {fp fq:Nat->Prop} {w w':World} (ht:Q0e fq w w') (hs:∀k,fq k->fp k):∀{x:Ex} {v:Value},Q2w fp w x v->Q2w fp w' x v
 | .num none,v,h=>by rw[Q2w] at h⊢;exact h
 | .num (some c),v,h=>by
   rw[Q2w] at h⊢;obtain ⟨n,e,a,l,k,L,rfl,h1,h2,h3,h4⟩:=h;exact ⟨n,e,a,l,k,L,rfl,h1.turn h2 ht hs,h2,h3,h4⟩
 | .var i,v,h=>by rw[Q2w] at h⊢;exact h
 | .sum l,v,h=>by
   rw[Q2w] at h⊢;obtain ⟨a,b,c,d,h0,h1,h2,h3,h4,h5,h6,h7,h8,h9,QL⟩:=h;exact ⟨a,b,c,d,h0,h1,h2,Uc h3 ht.size,Uc h4 ht.size,h5,h6,h7,h8,h9,Qbr.turn ht hs (fun hk=>h1 (hs _ hk)) (fun hk=>h2 (hs _ hk)) h3 h4 QL⟩
 | .prod l,v,h=>by
   rw[Q2w] at h⊢;obtain ⟨a,c,h0,h1,h2,h3,h4,h5,h6⟩:=h;exact ⟨a,c,h0,h1,Uc h2 ht.size,h3,h4,h5,Qav.turn ht hs (fun hk=>h1 (hs _ hk)) h2 h6⟩
 | .pow x k,v,h=>by
   rw[Q2w] at h⊢;obtain ⟨u,h0,h1⟩:=h;exact ⟨u,h0,Q2w.turn ht hs h1⟩
theorem Qbr.turn {fp fq:Nat->Prop} {w w':World} (ht:Q0e fq w w') (hs:∀k,fq k->fp k) {a b:Nat} (ha:¬fq a) (hb:¬fq b) (QF:a<w.heap.size) (D0:b<w.heap.size):∀{l:List (Bool × Ex)} {o:Nat},Qbr fp w a b o l->Qbr fp w' a b o l
 |[],_,_=>by rw[Qbr];trivial
 |(t,x)::r,o,h=>by
  rw[Qbr] at h⊢;obtain ⟨⟨u,h1,h2⟩,h3,h4⟩:=h;exact ⟨⟨u,(ht.cell (p:=⟨a,o,none⟩) QF ha).trans h1,Q2w.turn ht hs h2⟩,(ht.cell (p:=⟨b,o,none⟩) D0 hb).trans h3,Qbr.turn ht hs ha hb QF D0 h4⟩
theorem Qav.turn {fp fq:Nat->Prop} {w w':World} (ht:Q0e fq w w') (hs:∀k,fq k->fp k) {a:Nat} (ha:¬fq a) (QF:a<w.heap.size):∀{l:List Ex} {o:Nat},Qav fp w a o l->Qav fp w' a o l
 |[],_,_=>by rw[Qav];trivial
 |x::r,o,h=>by
  rw[Qav] at h⊢;obtain ⟨⟨u,h1,h2⟩,h4⟩:=h;exact ⟨⟨u,(ht.cell (p:=⟨a,o,none⟩) QF ha).trans h1,Q2w.turn ht hs h2⟩,Qav.turn ht hs ha QF h4⟩
end
mutual
theorem Q2w.more {fp fp':Nat->Prop} {w:World} (hs:∀k,fp' k->fp k∨w.heap.size<=k):∀{x:Ex} {v:Value},Q2w fp w x v->Q2w fp' w x v
 | .num none,v,h=>by rw[Q2w] at h⊢;exact h
 | .num (some c),v,h=>by
   rw[Q2w] at h⊢;obtain ⟨n,e,a,l,k,L,rfl,h1,h2,h3,h4⟩:=h;exact ⟨n,e,a,l,k,L,rfl,h1,h2.more h1 hs,h3,h4⟩
 | .var i,v,h=>by rw[Q2w] at h⊢;exact h
 | .sum l,v,h=>by
   rw[Q2w] at h⊢;obtain ⟨a,b,c,d,h0,h1,h2,h3,h4,h5,h6,h7,h8,h9,QL⟩:=h;exact ⟨a,b,c,d,h0,fun hk=>(hs _ hk).elim h1 (Nat.not_le_of_lt h3),fun hk=>(hs _ hk).elim h2 (Nat.not_le_of_lt h4),h3,h4,h5,h6,h7,h8,h9,Qbr.more hs QL⟩
 | .prod l,v,h=>by
   rw[Q2w] at h⊢;obtain ⟨a,c,h0,h1,h2,h3,h4,h5,h6⟩:=h;exact ⟨a,c,h0,fun hk=>(hs _ hk).elim h1 (Nat.not_le_of_lt h2),h2,h3,h4,h5,Qav.more hs h6⟩
 | .pow x k,v,h=>by
   rw[Q2w] at h⊢;obtain ⟨u,h0,h1⟩:=h;exact ⟨u,h0,Q2w.more hs h1⟩
theorem Qbr.more {fp fp':Nat->Prop} {w:World} (hs:∀k,fp' k->fp k∨w.heap.size<=k) {a b:Nat}:∀{l:List (Bool × Ex)} {o:Nat},Qbr fp w a b o l->Qbr fp' w a b o l
 |[],_,_=>by rw[Qbr];trivial
 |(t,x)::r,o,h=>by
  rw[Qbr] at h⊢;obtain ⟨⟨u,h1,h2⟩,h3,h4⟩:=h;exact ⟨⟨u,h1,Q2w.more hs h2⟩,h3,Qbr.more hs h4⟩
theorem Qav.more {fp fp':Nat->Prop} {w:World} (hs:∀k,fp' k->fp k∨w.heap.size<=k) {a:Nat}:∀{l:List Ex} {o:Nat},Qav fp w a o l->Qav fp' w a o l
 |[],_,_=>by rw[Qav];trivial
 |x::r,o,h=>by
  rw[Qav] at h⊢;obtain ⟨⟨u,h1,h2⟩,h4⟩:=h;exact ⟨⟨u,h1,Q2w.more hs h2⟩,Qav.more hs h4⟩
end
theorem Q2w.step {fp:Nat->Prop} {w w':World} {x:Ex} {v:Value} (h:Q2w fp w x v) (hb:Bw w w'):Q2w fp w' x v:=h.turn (Q0e.of_below hb fun _=>False) fun _ h=>h.elim
def Q1a (fp:Nat->Prop) (w:World):List Ex->LV->Prop
 |[],[]=>True
 |x::r,v::s=>Q2w fp w x v/\Q1a fp w r s
 |_,_=>False
theorem Q1a.turn {fp fq:Nat->Prop} {w w':World} (ht:Q0e fq w w') (hs:∀k,fq k->fp k):∀{l:List Ex} {vs:LV},Q1a fp w l vs->Q1a fp w' l vs
 |[],[],h=>h
 |_::_,_::_,h=>⟨h.1.turn ht hs,Q1a.turn ht hs h.2⟩
 |[],_::_,h=>h.elim
 |_::_,[],h=>h.elim
theorem Q1a.more {fp fp':Nat->Prop} {w:World} (hs:∀k,fp' k->fp k∨w.heap.size<=k):∀{l:List Ex} {vs:LV},Q1a fp w l vs->Q1a fp' w l vs
 |[],[],h=>h
 |_::_,_::_,h=>⟨h.1.more hs,Q1a.more hs h.2⟩
 |[],_::_,h=>h.elim
 |_::_,[],h=>h.elim
theorem Q1a.len {fp:Nat->Prop} {w:World}:∀{l:List Ex} {vs:LV},Q1a fp w l vs->l.length=vs.length
 |[],[],_=>rfl
 |_::_,_::_,h=>congrArg (·+1) (Q1a.len h.2)
 |[],_::_,h=>h.elim
 |_::_,[],h=>h.elim
theorem Q1a.snoc {fp:Nat->Prop} {w:World} {x:Ex} {v:Value} (hx:Q2w fp w x v):∀{l:List Ex} {vs:LV},Q1a fp w l vs->Q1a fp w (l++[x]) (vs++[v])
 |[],[],_=>⟨hx,trivial⟩
 |_::_,_::_,h=>⟨h.1,Q1a.snoc hx h.2⟩
 |[],_::_,h=>h.elim
 |_::_,[],h=>h.elim
theorem Q1a.row {fp:Nat->Prop} {w:World} {g:Nat}:∀{l:List Ex} {vs:LV} (o:Nat),Q1a fp w l vs->(∀(j:Nat) v,vs[j]?=some v->w.cell? ⟨g,o+j,none⟩=some v)->Qav fp w g o l
 |[],[],_,_,_=>by rw[Qav];trivial
 |_::_,v::_,o,h,hc=>by
  rw[Qav];refine ⟨⟨v,by simpa using hc 0 v rfl,h.1⟩,Q1a.row (o+1) h.2 fun j u hu=>?_⟩;have:=hc (j+1) u (by simpa using hu);rwa[show o+(j+1)=o+1+j by omega] at this
 |[],_::_,_,h,_=>h.elim
 |_::_,[],_,h,_=>h.elim
theorem Q1a.rows {fp:Nat->Prop} {w:World} {g b:Nat}:∀{l:List (Bool × Ex)} {vs:LV} (o:Nat),Q1a fp w (l.map (·.2)) vs->(∀(j:Nat) v,vs[j]?=some v->w.cell? ⟨g,o+j,none⟩=some v)->(∀(j:Nat) t,(l.map (·.1))[j]?=some t->w.cell? ⟨b,o+j,none⟩=some (.bool t))->Qbr fp w g b o l
 |[],[],_,_,_,_=>by rw[Qbr];trivial
 |(t,_)::_,v::_,o,h,hc,hb=>by
  rw[Qbr];refine ⟨⟨v,by simpa using hc 0 v rfl,h.1⟩,by simpa using hb 0 t rfl,Q1a.rows (o+1) h.2 (fun j u hu=>?_) fun j u hu=>?_⟩
  ·have:=hc (j+1) u (by simpa using hu);rwa[show o+(j+1)=o+1+j by omega] at this
  ·have:=hb (j+1) u (by simpa using hu);rwa[show o+(j+1)=o+1+j by omega] at this
 |[],_::_,_,h,_,_=>h.elim
 |_::_,[],_,h,_,_=>h.elim
def Q6w (R:Nat) (s:ByteArray) (m d:Int) (res:PR Ex) (w:World) (e:Ending) (w':World):Prop:=
 ∃t u,e=.returned (.iface t u)/\Q0e (OnR R) w w'/\match res with
  | .ok (x,q)=>Q2w (·<w.heap.size) w' x (.iface t u)/\Q0q w' R s (q:Int) m d false/\q<=s.size
  | .error q=>Q0q w' R s (q:Int) m d true/\q<=s.size
def Q40 (Pr:Value->Prop) (w:World) (B:Nat) (e:TypeId) (k:Nat) (a:OA) (n c:Nat) (xs:LV):Prop:=
 Row w B e k a n c xs/\∀g cur T fr,a=some ⟨g,0,none⟩->w.heap[g]?=some (.cells cur T fr)->∀u∈cur.toList,Pr u
theorem Q40.nil_ (Pr:Value->Prop) (w:World) (B:Nat) (e:TypeId) (k:Nat):Q40 Pr w B e k none 0 0 []:=⟨Row.nil_ _ _ _ _,fun _ _ _ _ h=>nomatch h⟩
theorem Q40.keep {Pr:Value->Prop} {w w':World} {B:Nat} {e:TypeId} {k:Nat} {a:OA} {n c:Nat} {xs:LV} (h:Q40 Pr w B e k a n c xs) (hk:∀x,a=some x->w'.heap[x.block]?=w.heap[x.block]?):Q40 Pr w' B e k a n c xs:=by
 refine ⟨⟨h.1.1,?_⟩,fun g cur T fr ha hh=>h.2 g cur T fr ha ((hk _ ha).symm.trans hh)⟩;rcases h.1.2 with h2|⟨g,cap,cur,hv,hB,hh,hr⟩
 ·exact .inl h2
 ·refine .inr ⟨g,cap,cur,hv,hB,?_,hr⟩;injection hv with e1;exact (hk _ e1).trans hh
theorem Q40.step {Pr:Value->Prop} {w w':World} {B:Nat} {e:TypeId} {k:Nat} {a:OA} {n c:Nat} {xs:LV} (h:Q40 Pr w B e k a n c xs) (hb:Bw w w'):Q40 Pr w' B e k a n c xs:=
 h.keep fun _ hx=>hb.block _ (row2_lt h.1 hx)
where
 row2_lt {w:World} {B:Nat} {e:TypeId} {k:Nat} {a:OA} {n c:Nat} {xs:LV} (h:Row w B e k a n c xs) {x:Addr} (hx:a=some x):x.block<w.heap.size:=by
  rcases h.form with ⟨h0,_⟩|⟨g,cur,h0,h1,h2,_⟩
  ·rw[h0] at hx;cases hx
  ·rw[h0] at hx;injection hx with hx;subst hx;exact h2
theorem Qh3 {z:Array Value} {n:Nat} {u:Value} (h:u∈(Builtin.zeroCells z n).toList):u∈z.toList:=by
 unfold Builtin.zeroCells at h;simp only[Array.toList_map,Array.toList_range,To,List.mem_range] at h;obtain ⟨i,hi,rfl⟩:=h;have hz:0<z.size:=Nat.pos_of_ne_zero fun e=>by rw[e,Nat.mul_zero] at hi;omega
 have E0:=TK i hz;rw[getElem!_pos z (i%z.size) E0];exact Array.mem_toList_iff.2 (Array.getElem_mem E0)
theorem Qj5 (w:World) (g:Nat) (cs:Array Value):w.grownBy (w.setRow g cs) (some g):=⟨rfl,rfl,rfl,by rw[size_setRow];exact Ue _,fun k _ hn=>setRow_other w g k cs (fun e=>hn (by rw[e]))⟩
theorem Q6k {P:Program} (Pr:Value->Prop) (w:World) (t ty e:TypeId) (i:TypeInfo) (z:Value) (k bytes:Nat) (ht:P.underlying t=some (.slice e)) (hi:P.info? e=some i) (hz:i.zero=some z) (L8:i.size=k) (XD:i.bytes=bytes) (Xu:z.cells.size=k)
 (hzp:∀u∈z.cells.toList,Pr u) (B:Nat) (hB:B<=w.heap.size) (a:OA) (n c:Nat) (xs:LV) (h:Q40 Pr w B e k a n c xs)
 (x0:Addr) (m d:Nat) (news:LV) (hl:news.length=m*k) (M8:∀j u,news[j]?=some u->w.cell? (x0.add j)=some u) (h1:∀u∈news,u.oneCell'=true) (hp:∀u∈news,Pr u)
 (hm:0<m) (hn:n+m<=1000000) (hb:bytes<=1000) (hk:0<k):
 ∃g c' w',(Builtin.append_ #[t,t] ty #[.slice a n c,.slice (some x0) m d]).run P w=.ok (.slice (some ⟨g,0,none⟩) (n+m) c') w'/\Q40 Pr w' B e k (some ⟨g,0,none⟩) (n+m) c' (xs++news)/\w.grownBy w' (a.map (·.block))/\(a=some ⟨g,0,none⟩∨g=w.heap.size):=by
 subst L8;have hnb:(n+m)*bytes<=1000000*1000:=Nat.mul_le_mul hn hb;have Wl:m*bytes<=1000000*1000:=Nat.mul_le_mul (by omega) hb;have U7:=h.1.len;have T6:(xs++news).length=(n+m)*i.size:=by rw[Uh,U7,hl,Tm]
 have fresh:∀(cap:Nat),n+m<=cap->cap<=maxLen->Q40 Pr (w.drew.alloc (.cells (xs.toArray++news.toArray++Builtin.zeroCells z.cells (cap-(n+m))) e)) B e i.size (some ⟨w.heap.size,0,none⟩) (n+m) cap (xs++news):=by
  intro cap O1 E1;have hh:(w.drew.alloc (.cells (xs.toArray++news.toArray++Builtin.zeroCells z.cells (cap-(n+m))) e)).heap[w.heap.size]?=some (.cells (xs.toArray++news.toArray++Builtin.zeroCells z.cells (cap-(n+m))) e (0,0)):=Um w.drew _;refine ⟨⟨T6,.inr ⟨w.heap.size,cap,_,rfl,hB,hh,O1,E1,?_,?_⟩⟩,fun g cur T fr hg p8 u hu=>?_⟩
  ·simp only[Array.size_append,List.size_toArray,size_zeroCells,Xu];rw[<-Uh,T6,<-Tm]
   congr 1;omega
  ·simp only[Array.toList_append];rw[List.take_append_of_le_length (by rw[T6];exact Ue _),Uw (by rw[T6];exact Ue _)]
  ·injection hg with hg;injection hg with hg;subst hg;rw[hh] at p8;injection p8 with p8;injection p8 with p8 _ _;subst p8;simp only[Array.toList_append,Tq] at hu;rcases hu with (hu|hu)|hu
   ·rcases h.1.form with ⟨_,_,_,h0⟩|⟨g2,cur2,e2,_,_,hh2,_,_,_,V5⟩
    ·rw[h0] at hu;cases hu
    ·refine h.2 g2 cur2 _ _ e2 hh2 u ?_;rw[<-V5] at hu;exact TB hu
   ·exact hp u hu
   ·exact hzp u (Qh3 hu)
 rcases h.1.form with ⟨rfl,rfl,rfl,rfl⟩|⟨g,cur,rfl,hgB,ZA,hh,hnc,J3,G8,V5⟩
 ·have S1:=run_append_nil (P:=P) w t ty e i z ht hi hz x0 m d news hl M8 hm (by omega) (by rw[XD];omega);have hf:=fresh (grownCap w m 0 e) (by rw[UH];exact grownCap_ge w m 0 e) (grownCap_le_maxLen w m 0 e (by unfold maxLen;omega));refine ⟨w.heap.size,grownCap w m 0 e,_,by rw[UH];exact S1,?_,?_,.inr rfl⟩
  ·simpa using hf
  ·exact ⟨rfl,rfl,rfl,by rw[Ui];exact Xaq _,fun k hk _=>(Below.alloc (Ug w.drew.heap.size w.drew) (Ue _) _).block k hk⟩
 ·by_cases hroom:n+m<=c
  ·have O3:n*i.size+news.length<=cur.size:=(by rw[G8,hl,<-Tm];exact Td _ hroom);have S1:=run_append_room (P:=P) w t ty e i ht hi g n c cur hh x0 m d news hl M8 h1 hroom O3;refine ⟨g,c,_,S1,?_,Qj5 w g _,.inl rfl⟩;have hh':=setRow_heap w g cur (cur.toList.take (n*i.size)++news++cur.toList.drop (n*i.size+news.length)).toArray e (0,0) hh;refine ⟨⟨T6,.inr ⟨g,c,_,rfl,hgB,hh',hroom,J3,?_,?_⟩⟩,fun g2 cur2 T fr J5 p8 u hu=>?_⟩
   ·simp only[List.size_toArray,Uh,Tl,Tg,Array.length_toList];omega
   ·rw[List.toList_toArray,V5,List.take_append_of_le_length (by rw[T6];exact Ue _),Uw (by rw[T6];exact Ue _)]
   ·injection J5 with J5;injection J5 with J5;subst J5;rw[hh'] at p8;injection p8 with p8;injection p8 with p8 _ _;subst p8;rw[List.toList_toArray] at hu;rcases Tq.1 hu with hu|hu
    ·rcases Tq.1 hu with hu|hu
     ·exact h.2 g cur _ _ rfl hh u (TB hu)
     ·exact hp u hu
    ·exact h.2 g cur _ _ rfl hh u (Xbk hu)
  ·have holds:∀j v,xs[j]?=some v->w.cell? ((⟨g,0,none⟩:Addr).add j)=some v:=fun j v hv=>by
    have S5:(⟨g,0,none⟩:Addr).add j=⟨g,j,none⟩:=(by unfold Addr.add;split <;> simp_all);rw[S5];obtain ⟨g',e',_,_,hc⟩:=h.1.at_ hv;injection e' with e';injection e' with e';subst e';exact hc
   have S3:=growslice_fits (need:=n+m) (old:=c) (bytes:=i.bytes) (by omega) (by rw[XD];omega);have S1:=run_append_grow (P:=P) w t ty e i z ht hi hz ⟨g,0,none⟩ n c xs U7 holds x0 m d news hl M8 (by omega) (by omega) S3;have hf:=fresh (grownCap w (n+m) c e) (grownCap_ge w (n+m) c e) (grownCap_le_maxLen w (n+m) c e (by unfold maxLen;omega));refine ⟨w.heap.size,grownCap w (n+m) c e,_,S1,hf,?_,.inr rfl⟩;exact ⟨rfl,rfl,rfl,by rw[Ui];exact Xaq _,fun k hk _=>(Below.alloc (Ug w.drew.heap.size w.drew) (Ue _) _).block k hk⟩
theorem Q0w {P:Program} (Pr:Value->Prop) (w:World) (t ty e:TypeId) (i:TypeInfo) (z:Value) (k bytes:Nat) (ht:P.underlying t=some (.slice e)) (hi:P.info? e=some i) (hz:i.zero=some z) (L8:i.size=k) (XD:i.bytes=bytes) (Xu:z.cells.size=k)
 (hzp:∀u∈z.cells.toList,Pr u) (B:Nat) (hB:B<=w.heap.size) (a:OA) (n c:Nat) (xs:LV) (h:Q40 Pr w B e k a n c xs)
 (b m d:Nat) (news:LV) (hl:news.length=m*k) (M8:∀j u,news[j]?=some u->w.cell? ((⟨b,0,none⟩:Addr).add j)=some u) (h1:∀u∈news,u.oneCell'=true) (hp:∀u∈news,Pr u)
 (hm:0<m) (hn:n+m<=1000000) (hb:bytes<=1000) (hk:0<k):
 ∃g c' w',(Builtin.append_ #[t,t] ty #[.slice a n c,.slice (some ⟨b,0,none⟩) m d]).run P w=.ok (.slice (some ⟨g,0,none⟩) (n+m) c') w'/\Q40 Pr w' B e k (some ⟨g,0,none⟩) (n+m) c' (xs++news)/\w.grownBy w' (a.map (·.block))/\(a=some ⟨g,0,none⟩∨g=w.heap.size):=
 Q6k Pr w t ty e i z k bytes ht hi hz L8 XD Xu hzp B hB a n c xs h ⟨b,0,none⟩ m d news hl M8 h1 hp hm hn hb hk
def NoU (v:Value):Prop:=∀x:Nat,v≠nv .u64 x
theorem Q40.off {w:World} {B:Nat} {e:TypeId} {k:Nat} {a:OA} {n c:Nat} {xs:LV} (h:Q40 NoU w B e k a n c xs) {aw:OA} {l cw:Nat} {L:LN} (hw:WordsIn w aw l cw L):Qvb (fun b=>∃x,a=some x/\x.block=b) aw L:=by
 rcases hw.rd with h0|⟨b,o,rfl,hb,hc⟩
 ·exact .inl h0
 cases L with
 |nil=>exact .inl rfl
 |cons y r=>
  refine .inr fun x hx ⟨z,hz,e⟩=>?_;injection hx with hx;subst hx;have h1:=hc 0 y rfl;rcases h.1.form with ⟨h0,_⟩|⟨g,cur,h0,_,_,hh,_⟩
  ·rw[h0] at hz;cases hz
  ·have hz':=hz;rw[h0] at hz';injection hz' with hz';subst hz';have e:g=b:=e;subst e;rw[Uv _ _ _ _ _ _ hh] at h1;exact h.2 g cur _ _ h0 hh _ (Array.mem_toList_iff.2 (Array.mem_of_getElem? h1)) y rfl
theorem Q40.set {Pr:Value->Prop} {w:World} {B:Nat} {e:TypeId} {k g n c:Nat} {xs:LV} (h:Q40 Pr w B e k (some ⟨g,0,none⟩) n c xs) (i:Nat) {u:Value} (hu:Pr u):Q40 Pr (w.setCell ⟨g,i,none⟩ u) B e k (some ⟨g,0,none⟩) n c (xs.set i u):=by
 refine ⟨h.1.set0 i u,fun g2 cur T fr hg hh v hv=>?_⟩;injection hg with hg;injection hg with hg;subst hg;rcases h.1.form with ⟨h0,_⟩|⟨g',cur',e1,_,_,hh',_⟩
 ·cases h0
 ·injection e1 with e1;injection e1 with e1;subst e1;rw[heap_setCell_same _ _ _ _ _ _ hh'] at hh;injection hh with hh;injection hh with hh _ _;subst hh;rw[Array.toList_setIfInBounds] at hv;rcases Xap hv with hv|rfl
  ·exact h.2 _ _ _ _ rfl hh' v hv
  ·exact hu
def Qwe (w:World) (g o:Nat) (m:Q01):Prop:=∃aw lw cw be oe le ce,w.cell? ⟨g,o,none⟩=some (.bool m.neg)/\w.cell? ⟨g,o+1,none⟩=some (.int .i64 m.exp)/\w.cell? ⟨g,o+2,none⟩=some (.slice aw lw cw)/\w.cell? ⟨g,o+3,none⟩=some (.slice (some ⟨be,oe,none⟩) le ce)/\
 WordsIn w aw lw cw m.ws/\Q0g w (some ⟨be,oe,none⟩) le ce m.es/\be≠g/\be<w.heap.size
theorem Qwe.via {w w':World} {g g' o:Nat} {m:Q01} (h:Qwe w g o m) (hs:w.heap.size<=w'.heap.size) (hc:∀j,j<4->w'.cell? ⟨g',o+j,none⟩=w.cell? ⟨g,o+j,none⟩) (hw:∀aw lw cw,WordsIn w aw lw cw m.ws->WordsIn w' aw lw cw m.ws) (hi:∀be,be≠g->be<w.heap.size->be≠g'/\w'.heap[be]?=w.heap[be]?):Qwe w' g' o m:=by
 obtain ⟨aw,lw,cw,be,oe,le,ce,h0,h1,h2,h3,h4,h5,h6,h7⟩:=h;obtain ⟨i1,i2⟩:=hi be h6 h7;refine ⟨aw,lw,cw,be,oe,le,ce,(hc 0 (by decide)).trans h0,(hc 1 (by decide)).trans h1,(hc 2 (by decide)).trans h2,(hc 3 (by decide)).trans h3,hw _ _ _ h4,⟨h5.len,h5.cap,h5.most,h5.rng,?_⟩,i1,Uc h7 hs⟩;rcases h5.rd with h8|⟨b,oo,e,hb,X3⟩
 ·exact .inl h8
 ·injection e with e;injection e with e1 e2;subst e1;subst e2;exact .inr ⟨be,oe,rfl,Uc hb hs,fun j x hx=>(UM (a:=⟨be,oe+j,none⟩) i2).trans (X3 j x hx)⟩
theorem WordsIn.onBlock {w w':World} {aw:OA} {l c:Nat} {L:LN} (h:WordsIn w aw l c L) (hs:w.heap.size<=w'.heap.size) (mb:Nat) (Wl:∀o,w.cell? ⟨mb,o,none⟩=none) (hk:∀k,k<w.heap.size->k≠mb->w'.heap[k]?=w.heap[k]?):WordsIn w' aw l c L:=by
 refine ⟨h.len,h.cap,h.most,h.low,?_⟩;rcases h.rd with h0|⟨b,o,rfl,hb,hc⟩
 ·exact .inl h0
 ·refine .inr ⟨b,o,rfl,Uc hb hs,fun j x hx=>?_⟩;have h1:=hc j x hx;have Q0:b≠mb:=fun e=>by subst e;rw[Wl] at h1;cases h1
  exact (UM (a:=⟨b,o+j,none⟩) (hk b hb Q0)).trans h1
structure Q1r (B:Nat) (w:World) (a:OA) (n c:Nat) (all:List Q01):Prop where
 row:∃xs,Q40 NoU w B 98 4 a n c xs
 ent:∀j m,all[j]?=some m->∃g,a=some ⟨g,0,none⟩/\Qwe w g (j*4) m
 len:all.length=n
theorem Q1r.nil_ (B:Nat) (w:World):Q1r B w none 0 0 []:=⟨⟨[],Q40.nil_ _ _ _ _ _⟩,fun j m h=>by simp at h,rfl⟩
theorem Q1r.lt {B:Nat} {w:World} {a:OA} {n c:Nat} {all:List Q01} (h:Q1r B w a n c all) {x:Addr} (hx:a=some x):B<=x.block/\x.block<w.heap.size:=by
 obtain ⟨xs,hr⟩:=h.row;exact row2_blk hr.1 hx
where
 row2_blk {w:World} {B k:Nat} {T:TypeId} {a:OA} {n c:Nat} {vs:LV} (h:Row w B T k a n c vs) {x:Addr} (hx:a=some x):B<=x.block/\x.block<w.heap.size:=by
  rcases h.form with ⟨h0,_⟩|⟨g,cur,h0,h1,h2,_⟩
  ·rw[h0] at hx;cases hx
  ·rw[h0] at hx;injection hx with hx;subst hx;exact ⟨h1,h2⟩
theorem Q1r.onBlock {B:Nat} {w w':World} {a:OA} {n c:Nat} {all:List Q01} (h:Q1r B w a n c all) (hs:w.heap.size<=w'.heap.size) (mb:Nat) (Wl:∀o,w.cell? ⟨mb,o,none⟩=none) (ham:∀x,a=some x->x.block≠mb) (hk:∀k,k<w.heap.size->k≠mb->w'.heap[k]?=w.heap[k]?):Q1r B w' a n c all:=by
 obtain ⟨xs,hr⟩:=h.row;refine ⟨⟨xs,hr.keep fun x hx=>hk _ (h.lt hx).2 (ham x hx)⟩,fun j m hm=>?_,h.len⟩;obtain ⟨g,ha,hE⟩:=h.ent j m hm;have hg:=h.lt ha;have R0:∀o,w'.cell? ⟨g,o,none⟩=w.cell? ⟨g,o,none⟩:=fun o=>UM (a:=⟨g,o,none⟩) (hk g hg.2 (ham _ ha));refine ⟨g,ha,?_⟩;obtain ⟨aw,lw,cw,be,oe,le,ce,h0,h1,h2,h3,h4,h5,h6,h7⟩:=hE;have hi5:Q0g w' (some ⟨be,oe,none⟩) le ce m.es:=by
  refine ⟨h5.len,h5.cap,h5.most,h5.rng,?_⟩;rcases h5.rd with h8|⟨b,oo,e,hb,X3⟩
  ·exact .inl h8
  ·refine .inr ⟨b,oo,e,Uc hb hs,fun i x hx=>?_⟩;have h9:=X3 i x hx;have Q0:b≠mb:=fun e=>by subst e;rw[Wl] at h9;cases h9
   exact (UM (a:=⟨b,oo+i,none⟩) (hk b hb Q0)).trans h9
 exact ⟨aw,lw,cw,be,oe,le,ce,(R0 _).trans h0,(R0 _).trans h1,(R0 _).trans h2,(R0 _).trans h3,h4.onBlock hs mb Wl hk,hi5,h6,Uc h7 hs⟩
theorem Q1r.step {B:Nat} {w w':World} {a:OA} {n c:Nat} {all:List Q01} (h:Q1r B w a n c all) (hb:Bw w w'):Q1r B w' a n c all:=by
 refine h.onBlock hb.size w.heap.size (fun o=>?_) (fun x hx=>Nat.ne_of_lt (h.lt hx).2) fun k hk _=>hb.block k hk;unfold World.cell?;simp
theorem Q1r.push {B:Nat} {w w2:World} {a:OA} {n c c2 g:Nat} {all:List Q01} (h:Q1r B w a n c all) {xs xs2:LV} (u4:Q40 NoU w B 98 4 a n c xs) {o:Obj} (K6:(w.alloc o).grownBy w2 (a.map (·.block))) (Y1:a=some ⟨g,0,none⟩∨g=(w.alloc o).heap.size) {m:Q01} {aw:OA} {lw cw be oe le ce:Nat}
 (hr:Q40 NoU w2 B 98 4 (some ⟨g,0,none⟩) (n+1) c2 xs2) (WX:xs2=xs++[.bool m.neg,.int .i64 m.exp,.slice aw lw cw,.slice (some ⟨be,oe,none⟩) le ce])
 (hw:WordsIn w aw lw cw m.ws) (hi:Q0g w (some ⟨be,oe,none⟩) le ce m.es) (t6:be<w.heap.size) (J1:∀x,a=some x->x.block≠be):Q1r B w2 (some ⟨g,0,none⟩) (n+1) c2 (all++[m]):=by
 have A2:w.heap.size<=w2.heap.size:=Un (Xa1 (Q0h w o)) K6.size;have JY:Q0e (fun b=>∃x,a=some x/\x.block=b) w w2:=(Q0e.of_below (Ba) _).trans0 (Q0e.of_grown K6 fun r hr _=>by
  cases a with
  |none=>simp at hr
  |some y=>simp only[Uz,Uj] at hr;exact ⟨y,rfl,hr⟩)
 have Qr:∀(aw:OA) (lw cw:Nat) (L:LN),WordsIn w aw lw cw L->WordsIn w2 aw lw cw L:=fun aw lw cw L hw=>hw.turn (u4.off hw) JY (fun _ h=>h);have F5:∀k,k<w.heap.size->(∀x,a=some x->x.block≠k)->w2.heap[k]?=w.heap[k]?:=fun k hk hn=>JY.block k hk (fun ⟨x,hx,e⟩=>hn x hx e);have i5:∀k,k<w.heap.size->(∀x,a=some x->x.block≠k)->k≠g:=fun k hk hn e=>by
  subst e;rcases Y1 with h1|h1
  ·exact hn _ h1 rfl
  ·rw[Ui] at h1;omega
 have G3:xs.length=n*4:=u4.1.len;have A6:∀i v,xs2[i]?=some v->w2.cell? ⟨g,i,none⟩=some v:=fun i v hv=>hr.1.cell0 hv;refine ⟨⟨xs2,hr⟩,fun j m' Y7=>⟨g,rfl,?_⟩,by rw[Uh,h.len];rfl⟩
 by_cases hj:j<n
 ·rw[Tj (by rw[h.len];exact hj)] at Y7;obtain ⟨g0,ha,hE⟩:=h.ent j m' Y7;refine hE.via A2 (fun i hi4=>?_) (fun _ _ _ h=>Qr _ _ _ _ h) fun be C0 D0=>?_
  ·have E0:j*4+i<xs.length:=(by omega);have e1:=A6 (j*4+i) xs[j*4+i] (by rw[WX,Tj E0,Ua E0]);subst ha;rw[e1,u4.1.cell0 (Ua E0)]
  ·have Vp:∀x,a=some x->x.block≠be:=fun x hx e=>by rw[ha] at hx;injection hx with hx;subst hx;exact C0 e.symm
   exact ⟨i5 be D0 Vp,F5 be D0 Vp⟩
 ·have T9:j=n:=by
   have:=(Ul.1 Y7).1;rw[Uh,h.len] at this;simp at this;omega
  subst T9;rw[UY (by rw[h.len];exact Ue _),h.len,Nat.sub_self] at Y7;simp only[UD,Uj] at Y7;subst Y7;have hc:∀i v,[Value.bool m.neg,.int .i64 m.exp,.slice aw lw cw,.slice (some ⟨be,oe,none⟩) le ce][i]?=some v->w2.cell? ⟨g,j*4+i,none⟩=some v:=fun i v hv=>A6 _ _ (by rw[WX,UY (by omega),G3,Xaw];exact hv);have D0:=F5 be t6 J1;refine ⟨aw,lw,cw,be,oe,le,ce,hc 0 _ rfl,hc 1 _ rfl,hc 2 _ rfl,hc 3 _ rfl,Qr _ _ _ _ hw,⟨hi.len,hi.cap,hi.most,hi.rng,?_⟩,i5 be t6 J1,Uc t6 A2⟩;rcases hi.rd with h8|⟨b,oo,e,hb,X3⟩
  ·exact .inl h8
  ·injection e with e;injection e with e1 e2;subst e1;subst e2;exact .inr ⟨be,oe,rfl,Uc hb A2,fun i x hx=>(UM (a:=⟨be,oe+i,none⟩) D0).trans (X3 i x hx)⟩
theorem Q1r.put {B:Nat} {w:World} {g n c:Nat} {all:List Q01} (h:Q1r B w (some ⟨g,0,none⟩) n c all) {i:Nat} {m:Q01} (hm:all[i]?=some m) {b:Bool} {e:Int} {aw:OA} {lw cw:Nat} {L:LN} (hw:WordsIn w aw lw cw L):
 Q1r B (((w.setCell ⟨g,i*4,none⟩ (.bool b)).setCell ⟨g,i*4+1,none⟩ (.int .i64 e)).setCell ⟨g,i*4+2,none⟩ (.slice aw lw cw)) (some ⟨g,0,none⟩) n c (all.set i ⟨b,e,L,m.es⟩):=by
 obtain ⟨xs,hr⟩:=h.row;obtain ⟨g',JJ,hE⟩:=h.ent i m hm;injection JJ with JJ;injection JJ with JJ;subst JJ;obtain ⟨aw0,lw0,cw0,be,oe,le,ce,h0,h1,h2,h3,h4,h5,h6,h7⟩:=hE;have ne01:(⟨g,i*4,none⟩:Addr)≠⟨g,i*4+1,none⟩:=by simp
 have d1:(w.setCell ⟨g,i*4,none⟩ (.bool b)).cell? ⟨g,i*4+1,none⟩=some (.int .i64 m.exp):=(Ud _ _ _ _ (by simp)).trans h1;have d2:((w.setCell ⟨g,i*4,none⟩ (.bool b)).setCell ⟨g,i*4+1,none⟩ (.int .i64 e)).cell? ⟨g,i*4+2,none⟩=some (.slice aw0 lw0 cw0):=(Ud _ _ _ _ (by simp)).trans ((Ud _ _ _ _ (by simp)).trans h2);have Qr:∀(aw':OA) (lw' cw':Nat) (L':LN),WordsIn w aw' lw' cw' L'->WordsIn (((w.setCell ⟨g,i*4,none⟩ (.bool b)).setCell ⟨g,i*4+1,none⟩ (.int .i64 e)).setCell ⟨g,i*4+2,none⟩ (.slice aw lw cw)) aw' lw' cw' L':=fun _ _ _ _ hw'=>
  ((hw'.set1 h0 (fun _=>by simp[nv]) _).set1 d1 (fun _=>by simp[nv]) _).set1 d2 (fun _=>by simp[nv]) _
 have F5:∀k,k≠g->(((w.setCell ⟨g,i*4,none⟩ (.bool b)).setCell ⟨g,i*4+1,none⟩ (.int .i64 e)).setCell ⟨g,i*4+2,none⟩ (.slice aw lw cw)).heap[k]?=w.heap[k]?:=fun k hk=>(UZ _ _ _ _ hk).trans ((UZ _ _ _ _ hk).trans (UZ _ _ _ _ hk));have hfar:∀o,o≠i*4->o≠i*4+1->o≠i*4+2->(((w.setCell ⟨g,i*4,none⟩ (.bool b)).setCell ⟨g,i*4+1,none⟩ (.int .i64 e)).setCell ⟨g,i*4+2,none⟩ (.slice aw lw cw)).cell? ⟨g,o,none⟩=w.cell? ⟨g,o,none⟩:=fun o a0 a1 a2=>(Ud _ _ _ _ (by simp)).trans ((Ud _ _ _ _ (by simp)).trans (Ud _ _ _ _ (by simp)));refine ⟨⟨_,((hr.set (i*4) (u:=.bool b) (fun _=>by simp[nv])).set (i*4+1) (u:=.int .i64 e) (fun _=>by simp[nv])).set (i*4+2) (u:=.slice aw lw cw) (fun _=>by simp[nv])⟩,fun j m' Y7=>⟨g,rfl,?_⟩,by rw[Tk,h.len]⟩
 by_cases hj:j=i
 ·subst hj;rw[TG (Ul.1 hm).1] at Y7;injection Y7 with Y7;subst Y7;refine ⟨aw,lw,cw,be,oe,le,ce,?_,?_,?_,?_,Qr _ _ _ _ hw,⟨h5.len,h5.cap,h5.most,h5.rng,?_⟩,h6,by simp only[UT];exact h7⟩
  ·exact (Ud _ _ _ _ (by simp)).trans ((Ud _ _ _ _ (by simp)).trans (UE _ _ _ (by rw[h0];rfl)))
  ·exact (Ud _ _ _ _ (by simp)).trans (UE _ _ _ (by rw[d1];rfl))
  ·exact UE _ _ _ (by rw[d2];rfl)
  ·exact (hfar _ (by omega) (by omega) (by omega)).trans h3
  ·rcases h5.rd with h8|⟨bb,oo,ee,hb,X3⟩
   ·exact .inl h8
   ·injection ee with ee;injection ee with e1 e2;subst e1;subst e2;exact .inr ⟨be,oe,rfl,by simp only[UT];exact hb,fun k x hx=>(UM (a:=⟨be,oe+k,none⟩) (F5 be h6)).trans (X3 k x hx)⟩
 ·rw[Te (fun e=>hj e.symm)] at Y7;obtain ⟨g',JJ,hE'⟩:=h.ent j m' Y7;injection JJ with JJ;injection JJ with JJ;subst JJ;exact hE'.via (by simp only[UT];exact Ue _) (fun k hk=>hfar _ (by omega) (by omega) (by omega)) (fun _ _ _ h=>Qr _ _ _ _ h) fun be' C0 _=>⟨C0,F5 be' C0⟩
end Go.Proofs.YtidojbkhlenahaaGreatDoor
namespace Go.Proofs.YtidojbkhlenahaaGreatDoor
open Go Go.RowKit
section
variable {P:Program}
def Qwf (P:Program) (ops:Array Oper) (C:World->Prop) (V:Nat->Value->World->Prop) (a0:Act) (n:Nat) (Mid:Value->World->Prop):List Oper->Prop
 |[o,o2]=>(∀a w,C w->Q7q ops a0 a->(∀i∈Q1v o,V i (Q09 ops a i) w)->Q0n P Mid ((execOp a.eval o).run P w))/\n∈Q1v o2/\∀a w,Q7q ops a0 a->(execOp a.eval o2).run P w=.ok (.value (Q09 ops a n)) w
 |_=>False
theorem Qth {l:List Oper} {n i:Nat} {a:Act} (hn:l.length=n+2) (hi:i≠n+1):Q09 (l.take (n+1)).toArray a i=Q09 l.toArray a i:=by
 unfold Q09;have h:(l.take (n+1)).toArray[i]?=l.toArray[i]?:=by
  simp only[List.getElem?_toArray,Tw]
  split
  ·rfl
  ·rw[UU (by omega)]
 rw[h]
theorem Qpy {l:List Oper} {n:Nat} {a0 a:Act} (hn:l.length=n+2) (F0:Q7q l.toArray a0 a) (hs:Q09 l.toArray a (n+1)=Q09 l.toArray a0 (n+1)):Q7q (l.take (n+1)).toArray a0 a:=by
 refine ⟨F0.1,F0.2.1,fun t ht=>?_⟩;obtain ⟨o2,ZI⟩:∃o2,l[n+1]?=some o2:=⟨_,Ua (by omega)⟩
 by_cases h2:o2.dst=some t
 ·have e1:∀b:Act,Q09 l.toArray b (n+1)=b.tmps.getD t undef:=fun b=>by
   unfold Q09;rw[List.getElem?_toArray,ZI,TE,h2]
  rw[e1,e1] at hs
  by_cases E0:t<a0.tmps.size
  ·have J0:t<a.tmps.size:=(by rw[F0.2.1];exact E0);rw[UB,UB,Ti E0,Ti J0,Xao,Xao] at hs;rw[Ti E0,Ti J0,hs]
  ·have A2:=F0.2.1;have h3:a0.tmps.size<=t:=Nat.le_of_not_lt E0;rw[Array.getElem?_eq_none (xs:=a.tmps) (Un (Xbw A2) h3),Array.getElem?_eq_none (xs:=a0.tmps) h3]
 ·refine F0.2.2 t fun o ho e=>?_;obtain ⟨i,hi,rfl⟩:=Xa2 ho;have QJ:i<l.length:=by simpa using hi
  by_cases o8:i=n+1
  ·subst o8;rw[Ua QJ] at ZI;injection ZI with ZI;exact h2 (by rw[<-ZI];exact e)
  ·refine ht l[i] ?_ e;rw[UV];refine ⟨i,?_⟩
   show (l.take (n+1))[i]?=_
   rw[Tw,Us (by omega),Ua QJ]
theorem Q8l {Q:Exit->Act->World->Prop} {id:Nat} {l:List Oper} {a0:Act} {w:World} (hm:P.follows .mixedOrders=true) (n:Nat) (hn:l.length=n+2) (C:World->Prop) (hC:∀w w',C w->Bw w w'->C w') (V:Nat->Value->World->Prop) (hV:∀i v w w',V i v w->Bw w w'->V i v w') (Mid:Value->World->Prop)
 (hB:Q7r l a0.tmps.size=true) (hA:Qnu l n=true) (hG:(l.all fun o=>o.guard.isNone)=true) (hD:(l.all fun o=>o.dst.isSome)=true) (h0:C w.drew)
 (step:Q3k P Qeo (l.take (n+1)).toArray C V a0 (l.take n) 0) (last:Qwf P l.toArray C V a0 n Mid (l.drop n)) (fin:∀vs w,Mid (vs n) w->vs (n+1)=vs n->Q .normal (Q0y vs l 0 a0) w):(Code.region id l.toArray true).wp P Q a0 w:=by
 have Q5:∀(k:Nat) (o:Oper),l[k]?=some o->∀y,Region.wanted o y=true:=fun k o ho y=>by
  have h1:=Tu.1 hG o (Uf ho);unfold Region.wanted;cases hg:o.guard with
  |none=>rfl
  |some g=>rw[hg] at h1;cases h1
 obtain ⟨o1,o2,M6⟩:∃o1 o2,l.drop n=[o1,o2]:=by
  have h1:(l.drop n).length=2:=by rw[Tg];omega
  cases hl:l.drop n with
  |nil=>rw[hl] at h1;cases h1
  |cons x r=>
   cases r with
   |nil=>rw[hl] at h1;cases h1
   |cons y s=>
    cases s with
    |nil=>exact ⟨x,y,rfl⟩
    |cons z s=>rw[hl] at h1;simp at h1
 have Yb:l[n]?=some o1:=by have:=congrArg (fun x=>x[0]?) M6;simpa using this
 have ZI:l[n+1]?=some o2:=by have:=congrArg (fun x=>x[1]?) M6;simpa using this
 rw[M6] at last;obtain ⟨last1,last2,last3⟩:=last;have Y0:∀(k:Nat) (o:Oper),l[k]?=some o->Q6h P l.toArray (fun D vs w=>(if D n=true then (Mid (vs n) w/\(D (n+1)=true->vs (n+1)=vs n)) else (C w/\∀j,D j=true->V j (vs j) w))/\(D (n+1)=false->vs (n+1)=Q09 l.toArray a0 (n+1))) a0 k o:=by
  intro k o ho a w D hI0 F0 hk q5 C2;obtain ⟨hI,ZN⟩:=hI0;have Vr:k<=n+1:=by have:=(Ul.1 ho).1;omega
  refine ⟨Q5 k o ho _,?_⟩
  by_cases o5:k=n+1
  ·subst o5;rw[ZI] at ho;injection ho with ho;subst ho;have V7:D n=true:=q5 n last2;simp only[V7,Xaz] at hI;rw[last3 a w F0]
   show (if Q1z D (n+1) n=true then _ else _)/\_
   have e1:Q1z D (n+1) n=true:=(by unfold Q1z;rw[Up (by omega)];exact V7);rw[Us e1];have e2:Q27 (Q09 l.toArray a) (n+1) (Q09 l.toArray a n) n=Q09 l.toArray a n:=(by unfold Q27;rw[Up (by omega)]);have e3:Q27 (Q09 l.toArray a) (n+1) (Q09 l.toArray a n) (n+1)=Q09 l.toArray a n:=(by unfold Q27;rw[Us rfl]);rw[e2,e3];exact ⟨⟨hI.1,fun _=>rfl⟩,fun h=>by rw[Q3g] at h;cases h⟩
  ·have Zc:k<=n:=(by omega);have V7:D n=false:=Qda hA (D:=D) (fun j oj hj=>C2 j oj (by simpa using hj)) _ k rfl Zc hk;have Xo:D (n+1)=false:=by
    cases hb:D (n+1) with
    |false=>rfl
    |true=>have:=C2 (n+1) o2 (by simpa using ZI) hb n last2;rw[V7] at this;cases this
   simp only[V7] at hI;obtain ⟨ZO,KH⟩:=hI;have hS:∀u,Q1z D k (n+1)=false->Q27 (Q09 l.toArray a) k u (n+1)=Q09 l.toArray a0 (n+1):=fun u _=>by unfold Q27;rw[Up (fun e=>o5 e.symm)];exact ZN Xo
   have ZP:∀i∈Q1v o,V i (Q09 l.toArray a i) w:=fun i hi=>KH i (q5 i hi)
   by_cases JM:k=n
   ·subst JM;rw[Yb] at ho;injection ho with ho;subst ho;have h1:=last1 a w ZO F0 ZP;have hK:∀u w',Mid u w'->(if Q1z D k k=true then (Mid (Q27 (Q09 l.toArray a) k u k) w'/\(Q1z D k (k+1)=true->Q27 (Q09 l.toArray a) k u (k+1)=Q27 (Q09 l.toArray a) k u k)) else (C w'/\∀j,Q1z D k j=true->V j (Q27 (Q09 l.toArray a) k u j) w')):=fun u w' h=>by
     rw[Q3g,Us rfl];have e1:Q1z D k (k+1)=false:=(by unfold Q1z;rw[Up (by omega)];exact Xo);have e2:Q27 (Q09 l.toArray a) k u k=u:=(by unfold Q27;rw[Us rfl]);rw[e1,e2];exact ⟨h,fun h=>by cases h⟩
    revert h1
    generalize (execOp a.eval o1).run P w=res;intro h1;cases res with
    |ok x w'=>
     cases x with
     |value u=>exact ⟨hK u w' h1,hS u⟩
     |enter f args=>
      refine Xbd h1 ?_;rintro e w'' ⟨v,rfl,hf⟩;exact ⟨v,rfl,hK v w'' hf,hS v⟩
     |skip=>exact ⟨hK undef w' h1,hS undef⟩
     |_=>exact h1.elim
    |halt x w'=>exact h1.elim
   ·have J9:(l.take n)[k]?=some o:=(by rw[Tw,Us (by omega)];exact ho);have h1:=Q3k.at_ _ _ _ _ step J9;rw[UH] at h1;have h1:=h1 a w ZO (Qpy hn F0 (ZN Xo)) (fun i hi=>by
     rw[Qth hn (fun e=>by subst e;have:=q5 _ hi;rw[Xo] at this;cases this)];exact ZP i hi)
    rw[Us (Q5 k o ho _)] at h1;have hK:∀u w',Bw w w'->V k u w'->(if Q1z D k n=true then (Mid (Q27 (Q09 l.toArray a) k u n) w'/\(Q1z D k (n+1)=true->Q27 (Q09 l.toArray a) k u (n+1)=Q27 (Q09 l.toArray a) k u n)) else (C w'/\∀j,Q1z D k j=true->V j (Q27 (Q09 l.toArray a) k u j) w')):=fun u w' hb hu=>by
     have e:Q1z D k n=false:=(by unfold Q1z;rw[Up (fun e=>JM e.symm)];exact V7);rw[e,Up (by decide)];refine ⟨hC _ _ ZO hb,fun j hj=>?_⟩;unfold Q27;unfold Q1z at hj
     by_cases y9:j=k
     ·subst y9;rw[Us rfl];exact hu
     ·rw[Up y9];rw[Up y9] at hj;exact hV _ _ _ _ (KH j hj) hb
    revert h1
    generalize (execOp a.eval o).run P w=res;intro h1;cases res with
    |ok x w'=>
     cases x with
     |value u=>exact ⟨hK u w' h1.1 h1.2,hS u⟩
     |enter f args=>
      refine Xbd h1 ?_;rintro e w'' ⟨v,rfl,hb,hv⟩;exact ⟨v,rfl,hK v w'' hb hv,hS v⟩
     |skip=>exact ⟨hK undef w' h1.1 h1.2,hS undef⟩
     |_=>exact h1.elim
    |halt x w'=>exact h1.elim
 have QK:∀(r:List Oper) (k:Nat),(∀(i:Nat) o,r[i]?=some o->l[k+i]?=some o)->Q89 P l.toArray (fun D vs w=>(if D n=true then (Mid (vs n) w/\(D (n+1)=true->vs (n+1)=vs n)) else (C w/\∀j,D j=true->V j (vs j) w))/\(D (n+1)=false->vs (n+1)=Q09 l.toArray a0 (n+1))) a0 r k:=by
  intro r
  induction r with
  |nil=>intro k _;trivial
  |cons o r ih=>
   intro k h;refine ⟨Y0 k o (by simpa using h 0 o rfl),ih (k+1) fun i o' Qf=>?_⟩;have:=h (i+1) o' (by simpa using Qf);rwa[show k+(i+1)=k+1+i by omega] at this
 refine Q79 hm (fun D vs w=>(if D n=true then (Mid (vs n) w/\(D (n+1)=true->vs (n+1)=vs n)) else (C w/\∀j,D j=true->V j (vs j) w))/\(D (n+1)=false->vs (n+1)=Q09 l.toArray a0 (n+1))) (fun i o hi hd D vs v w h=>?_) hB ?_ (QK l 0 fun i o h=>by rw[UH];exact h) (fun D vs w Y0 h=>?_)
 ·have h1:=Tu.1 hD o (Uf hi);rw[hd] at h1;cases h1
 ·exact ⟨⟨h0,fun j hj=>by cases hj⟩,fun _=>rfl⟩
 ·have V7:=Y0 n (by omega);have Xo:=Y0 (n+1) (by omega);simp only[V7,Xaz] at h;exact fin vs w h.1.1 (h.1.2 Xo)
end
end Go.Proofs.YtidojbkhlenahaaGreatDoor
namespace Go.Proofs.YtidojbkhlenahaaGreatDoor
open Go.RowKit WordsM
def Qmb (k:Nat) (m:Q01):Prop:=Q0x k m.es/\Q0a m.neg m.exp m.ws
structure Qz2 (w:World) (b:Nat) (k:Nat):Prop where
 cell:w.cell? ⟨b,0,none⟩=some (.int .i64 (k:Int))
 lt:b<w.heap.size
theorem Qz2.step {w w':World} {b k:Nat} (h:Qz2 w b k) (hb:Bw w w'):Qz2 w' b k:=⟨(hb.cell (p:=⟨b,0,none⟩) h.lt).trans h.cell,Uc h.lt hb.size⟩
theorem Qmc (n:Bool) (e:Int) (a:OA) (l c:Nat) (L:LN) (b:OA) (m d:Nat) (E:List Int) (kb k:Nat) (w:World) (h:WordsIn w a l c L) (hE:Q0g w b m d E) (hk:k<=9223372036854775807) (he: -9223372036854775808<=e) (Q6:e<=9223372036854775807) (hK:Qz2 w kb k):
 Calls Tryz.prog 185 #[.agg #[.bool n,.int .i64 e,.slice a l c,.slice b m d],.pointer (some ⟨kb,0,none⟩)] w fun r w'=>r=.returned (.bool (!decide (Q0x k E/\Q0a n e L)))/\Bw w w':=by
 have hX:=Q34.new w (.bool n) (.int .i64 e) (.slice a l c) (.slice b m d) 98;have hb:Bw w (w.alloc (.cells #[.bool n,.int .i64 e,.slice a l c,.slice b m d] 98)):=Ba;have B7:=Qnw n e a l c L b m d E k _ (h.step hb) (hE.step hb) hk he Q6;have hkc:=(hK.step hb).cell;obtain ⟨dv,ZP⟩:∃dv,decide (Q0x k E/\Q0a n e L)=dv:=⟨_,rfl⟩;rw[ZP] at B7⊢;generalize hW:w.alloc (.cells #[.bool n,.int .i64 e,.slice a l c,.slice b m d] 98)=W at hX hb B7 hkc;obtain ⟨x0,x1,x2,x3,_,_,_,_⟩:=id hX;have H:=Xh2 B7 hb;clear B7 hb hX h hE
 go_enter Tryz.func185,Tryz.ntmps185
 go_wp2_with (go_at_call_of 92 a;refine (Xo0 H).mono ?_;rintro r w1 ⟨rfl,C0⟩;have HB:=Ub C0;clear C0)
 go_ret;exact ⟨rfl,Below.next0 (Xe1 H) HB.out⟩
theorem Qmd (a:OA) (n c:Nat) (ms:List Q01) (kb k:Nat) (w:World) (h:Q08 w a n c ms) (P2:∀m∈ms,Qmb k m) (hk:k<=4) (hK:Qz2 w kb k):
 Calls Tryz.prog 239 #[.slice a n c,.func (.func 185) #[] #[.pointer (some ⟨kb,0,none⟩)]] w fun r w'=>r=.returned (.int .i64 (-1))/\Bw w w':=by
 have G3:=h.1;subst G3;have J3:=Un h.2.1 h.2.2.1;have HM:=Xh3 h P2 hK;clear h P2 hK
 go_enter Tryz.func239,Tryz.ntmps239
 go_wp2_with fail
 go_loopw [8] (fun iv wr=>∃i:Nat,iv=.int .i64 (i:Int)/\i<=ms.length/\Bw w wr) (fun iv _=>ms.length-(intOf iv).toNat)
 case atStart=>exact ⟨0,rfl,Ut _,Ug _ _⟩
 case round=>
  obtain ⟨i,rfl,hi,hb⟩:=hrel
  by_cases E0:i<ms.length
  ·have J0:(i:Int)<(ms.length:Int):=(by omega);obtain ⟨m,hm⟩:∃m,ms[i]?=some m:=⟨_,Ua E0⟩;obtain ⟨b0,o0,rfl,X1,Y1⟩:∃b o,a=some ⟨b,o,none⟩/\b<wr.heap.size/\∀j m,ms[j]?=some m->Q4n wr b (o+j*4) m:=by
    rcases ((Xo0 HM).step hb).2.2.2 with h0|h0
    ·rw[h0] at E0;simp at E0
    ·exact h0
   obtain ⟨aw,lw,cw,ae,le,ce,k0,k1,k2,k3,hw,he,R4,Z3⟩:=Y1 i m hm;have C2:=Qmc m.neg m.exp aw lw cw m.ws ae le ce m.es kb k wr hw he (by omega) R4 Z3 ((Xe2 HM).step hb);have hf:Qmb k m:=(Xo1 HM) m (Uf hm);rw[UQ (show Q0x k m.es/\Q0a m.neg m.exp m.ws from hf)] at C2;have HC:=Xh2 C2 hb;clear C2 hb Y1 hw he hm hf
   go_wp2_with (go_at_call_of 185 aw;refine (Xo0 HC).mono ?_;rintro r w1 ⟨rfl,C0⟩;have HB:=Ub C0;clear C0)
   exact ⟨⟨i+1,by simp,by omega,Below.next0 (Xe1 HC) HB.out⟩,by simp only[intOf];omega⟩
  ·have J0:¬((i:Int)<(ms.length:Int)):=(by omega);have HC:=Ub hb;clear hb
   go_wp2_with fail
   go_ret;exact ⟨rfl,HC.out⟩
theorem Qme (a:OA) (n c:Nat) (ms:List Q01) (kb k:Nat) (w:World) (h:Q08 w a n c ms) (P2:∀m∈ms,Qmb k m) (hk:k<=4) (hK:Qz2 w kb k):
 Calls Tryz.prog 184 #[.slice a n c,.func (.func 185) #[] #[.pointer (some ⟨kb,0,none⟩)]] w fun r w'=>r=.returned (.bool false)/\Bw w w':=by
 have hix:=Qmd a n c ms kb k w h P2 hk hK;have H:=Ub hix;clear hix h P2 hK
 go_enter Tryz.func184,Tryz.ntmps184
 go_wp2_with (go_at_call_of 239 a;refine H.out.mono ?_;rintro r w1 ⟨rfl,C0⟩;have HB:=Ub C0;clear C0)
 go_ret;exact ⟨rfl,HB.out⟩
theorem Qpz (s:ByteArray) {p:Nat} (h:p<s.size):Q07 s.data.toList p=s[p]'h:=by
 rw[Q6j (s:=s.data.toList) (j:=p) (by simpa using h)];exact Array.getElem_toList _
theorem Qq0 (s:ByteArray) {p:Nat} (h:¬p<s.size):Q07 s.data.toList p=0:=by
 unfold Q07;rw[US,UU (by simpa using h)];rfl
def atOf (w:World) (R:Nat):Nat:=match w.cell? ⟨R,1,none⟩ with|some (.int _ n)=>n.toNat|_=>0
theorem Q0q.atOf {w:World} {R:Nat} {s:ByteArray} {p:Nat} {m d:Int} {bad:Bool} (h:Q0q w R s (p:Int) m d bad):atOf w R=p:=by
 unfold Go.Proofs.YtidojbkhlenahaaGreatDoor.atOf;rw[h.c1];simp
theorem Qaw (fp:Nat->Prop) (w:World) (k:Nat):Q0e fp w (w.drewN k):=(Q0e.refl fp w).drewN k
section
variable {w:World} {R:Nat} {s:ByteArray} {p:Nat} {m d:Int} {bad:Bool}
theorem Qc3 (h:Q0q w R s (p:Int) m d bad) (_hs:s.size<=281474976710656):
 Calls Tryz.prog 181 #[.pointer (some ⟨R,0,none⟩)] w fun e w'=>e=.returned (.int .u8 ((nxB s.data.toList p bad).toNat:Int))/\∃k,w'=w.drewN k:=by
 obtain ⟨c0,c1,c2,c3,c4,_,_,_,_,_,_,_⟩:=id h;clear h;cases bad with
 |true=>
  go_enter Tryz.func181,Tryz.ntmps181
  go_wp2_with fail
  go_quiet (fail)
  go_wp2_with fail
  go_ret;exact ⟨rfl,_,rfl⟩
 |false=>
  by_cases E0:p<s.size
  ·have J0:¬(s.size:Int)<=(p:Int):=(by omega);have Zm:(p:Int)<(s.size:Int):=(by omega);have hv:nxB s.data.toList p false=s[p]'E0:=Qpz s E0;rw[hv];clear hv
   go_enter Tryz.func181,Tryz.ntmps181
   go_wp2_with fail
   go_quiet (fail)
   go_wp2_with fail
   go_quiet (fail)
   go_wp2_with fail
   go_ret;exact ⟨rfl,_,by rw[Xbl]⟩
  ·have J0:(s.size:Int)<=(p:Int):=(by omega);have hv:nxB s.data.toList p false=0:=Qq0 s E0;rw[hv];clear hv
   go_enter Tryz.func181,Tryz.ntmps181
   go_wp2_with fail
   go_quiet (fail)
   go_wp2_with fail
   go_ret;exact ⟨rfl,_,rfl⟩
theorem Q5i {p:Int} (h:Q0q w R s p m d bad) (q:Int):
 Calls Tryz.prog 182 #[.pointer (some ⟨R,0,none⟩),.int .i64 q] w fun e w'=>e=.returned (.tuple #[])/\Q0q w' R s (if bad=true then p else q) m d true/\Q0e (OnR R) w w':=by
 obtain ⟨c0,c1,c2,c3,c4,f0,f1,f2,f3,f4,_,_⟩:=id h;have H:=Ub h;clear h;cases bad with
 |true=>
  go_enter Tryz.func182,Tryz.ntmps182
  go_wp2_with fail
  exact ⟨rfl,.tuple #[],by simp[results],rfl,H.out,Q0e.refl _ _⟩
 |false=>
  go_enter Tryz.func182,Tryz.ntmps182
  go_wp2_with fail
  exact ⟨rfl,.tuple #[],by simp[results],rfl,(H.out.setBad true).setAt q,(Q1x _ _ _ _).trans0 (Q1x _ _ _ _)⟩
theorem Qz3 {L:LU} {q:Nat} {bad:Bool} (h:nxB L q bad=32):bad=false/\q<L.length/\skS L (q+1) bad=skS L q bad:=by
 obtain ⟨rfl,h1,h2⟩:=Qz1 (s:=L) (p:=q) (bad:=bad) (by rw[h];decide);exact ⟨rfl,h1,by unfold skS;simp only[Th,Xac];exact (Q6b (by rw[<-h2];exact h)).symm⟩
theorem Qz4 {L:LU} {q:Nat} {bad:Bool} (h:nxB L q bad≠32):skS L q bad=q:=by
 unfold skS;cases bad
 ·simp only[Th,Xac];exact Q7k (by simpa[nxB] using h)
 ·rfl
theorem Q3m (h:Q0q w R s (p:Int) m d bad) (hp:p<=s.size) (hs:s.size<=281474976710656):
 Calls Tryz.prog 131 #[.pointer (some ⟨R,0,none⟩)] w fun e w'=>e=.returned (.int .u8 ((nxB s.data.toList (skS s.data.toList p bad) bad).toNat:Int))/\Q0q w' R s ((skS s.data.toList p bad:Nat):Int) m d bad/\Q0e (OnR R) w w':=by
 obtain ⟨L,hL⟩:∃L,s.data.toList=L:=⟨_,rfl⟩;have t8:L.length=s.size:=by rw[<-hL];rfl
 rw[hL];obtain ⟨V,hV⟩:∃V,skS L p bad=V:=⟨_,rfl⟩;rw[hV];have H:=Xh4 h hL t8 hV;clear h hL t8 hV
 go_enter Tryz.func131,Tryz.ntmps131
 go_wp2_with fail
 go_loopw [] (fun wr=>∃q:Nat,q<=s.size/\Q0q wr R s (q:Int) m d bad/\skS L q bad=V/\Q0e (OnR R) w wr) (fun wr=>s.size-atOf wr R)
 case atStart=>exact ⟨p,hp,(Xo0 H),(Xe3 H),Q0e.refl _ _⟩
 case round=>
  obtain ⟨q,hq,hr,hsk,ht⟩:=hrel;obtain ⟨c,hc⟩:∃c,nxB L q bad=c:=⟨_,rfl⟩;have hn:=Qc3 hr hs;rw[(Xo1 H),hc] at hn;have C6:=fun k=>Qc3 (hr.drewN k) hs;rw[(Xo1 H),hc] at C6
  by_cases h32:c=32
  ·subst h32;obtain ⟨Xj,E0,P0⟩:=Qz3 hc;have Z6:IntKind.i64.wrap ((q:Int)+1)=(q:Int)+1:=(by rw[UN];have:=(Xo2 H);omega);have HN:=Xh6 hn hr hsk ht E0 P0;clear hn C6 hr hsk ht E0 P0 hc Xj
   go_wp2_with (refine (Xo0 HN).mono ?_;rintro r w1 ⟨rfl,k,rfl⟩;have c1:=((Xo1 HN).drewN k).c1;have f1:=((Xo1 HN).drewN k).f1)
   have I2:=((Xo1 HN).drewN k).setAt ((q:Int)+1);have X0:Q0q ((wr.drewN k).setCell ⟨R,1,none⟩ (.int .i64 ((q:Int)+1))) R s ((q+1:Nat):Int) m d bad:=I2;refine ⟨⟨q+1,?_,X0,?_,?_⟩,?_⟩
   ·have:=(Xo4 HN);have:=(Xo2 H);omega
   ·rw[(Xe5 HN)];exact (Xo2 HN)
   ·exact ((Xo3 HN).drewN k).trans0 (Q1x _ _ _ _)
   ·have h1:=(Xo1 HN).atOf;have h2:=X0.atOf;have:=(Xo4 HN);have:=(Xo2 H);omega
  ·have Q0:((c.toNat:Int)==32)=false:=by
    rw[Uk];intro e
    apply h32
    apply Xa5.1
    have h32n:(32:UInt8).toNat=32:=rfl;omega
   have P0:=Qz4 (bad:=bad) (L:=L) (q:=q) (by rw[hc];exact h32);have hqV:q=V:=(by rw[<-hsk,P0]);have HN:=Xh6 hn hr hqV ht hc C6;clear hn hr hsk ht P0 hc hqV C6
   go_wp2_with (first|(refine (Xo0 HN).mono ?_;rintro r w1 ⟨rfl,k,rfl⟩)|(refine ((Xe5 HN) _).mono ?_;rintro r w1 ⟨rfl,k2,rfl⟩))
   go_ret;refine ⟨?_,?_,?_⟩
   ·rw[<-(Xo2 HN),(Xo4 HN)];rfl
   ·rw[<-(Xo2 HN),<-Xbl];exact ((Xo1 HN).drewN k).drewN k2
   ·rw[<-Xbl];exact ((Xo3 HN).drewN k).drewN k2
theorem Qfs (h:Q0q w R s (p:Int) m d bad) (hp:p<=s.size) (hs:s.size<=281474976710656) (lo hi:Int) (i4:0<=lo):
 Calls Tryz.prog 274 #[.pointer (some ⟨R,0,none⟩),.int .i64 lo,.int .i64 hi] w fun e w'=>
  ((bad=false/\lo<=((Q07 s.data.toList p).toNat:Int)-48/\((Q07 s.data.toList p).toNat:Int)-48<=hi/\e=.returned (.int .i64 (((Q07 s.data.toList p).toNat:Int)-48))/\Q0q w' R s ((p+1:Nat):Int) m d false)∨
    (¬(bad=false/\lo<=((Q07 s.data.toList p).toNat:Int)-48/\((Q07 s.data.toList p).toNat:Int)-48<=hi)/\e=.returned (.int .i64 0)/\Q0q w' R s (p:Int) m d true))/\Q0e (OnR R) w w':=by
 obtain ⟨t,ht⟩:∃t:Int,((nxB s.data.toList p bad).toNat:Int)=t:=⟨_,rfl⟩;have Q2:0<=t:=by omega
 have M1:t<256:=by have:=(nxB s.data.toList p bad).toNat_lt;omega
 have Wu:bad=false->((Q07 s.data.toList p).toNat:Int)=t:=by rintro rfl;exact ht
 have Qq:bad=true->t=0:=by rintro rfl;rw[<-ht];rfl
 have hn:=Qc3 h hs;rw[ht] at hn;have Z6:=fun (k:Nat) (q:Int)=>Q5i (h.drewN k) q;have Vm:IntKind.i64.wrap t=t:=by rw[UN];omega
 have G4:IntKind.i64.wrap (t-48)=t-48:=by rw[UN];omega
 have D6:IntKind.i64.wrap ((p:Int)+1)=(p:Int)+1:=by rw[UN];omega
 have H:=Xh5 h Wu Qq hn Z6;have Zt:(p:Int)<=(s.size:Int):=by omega
 have HS:=Xh6 hs ht Q2 M1 i4 Zt;clear h Wu Qq hn Z6 hs ht Q2 M1 i4 Zt hp
 by_cases hl:t-48<lo
 ·have hN:¬(bad=false/\lo<=((Q07 s.data.toList p).toNat:Int)-48/\((Q07 s.data.toList p).toNat:Int)-48<=hi):=fun ⟨hb,h1,_⟩=>by have:=(Xo1 H) hb;omega
  have HN:=Ub hN;clear hN
  go_enter Tryz.func274,Tryz.ntmps274
  go_wp2_with (first
   |(go_at_call_of 181 (Value.pointer (some ⟨R,0,none⟩));refine (Xo3 H).mono ?_;rintro r w1 ⟨rfl,k,rfl⟩;have c1:=((Xo0 H).drewN k).c1)
   |(refine ((Xe4 H) _ _).mono ?_;rintro r w2 ⟨rfl,X0,M1⟩;have HB:=Xh2 X0 M1;clear X0 M1))
  go_ret;refine ⟨.inr ⟨HN.out,rfl,?_⟩,(Qaw _ _ _).trans0 (Xe1 HB)⟩;have h1:=(Xo0 HB)
  split at h1 <;> exact h1
 ·by_cases hh:hi<t-48
  ·have hN:¬(bad=false/\lo<=((Q07 s.data.toList p).toNat:Int)-48/\((Q07 s.data.toList p).toNat:Int)-48<=hi):=fun ⟨hb,_,h1⟩=>by have:=(Xo1 H) hb;omega
   have HN:=Ub hN;clear hN
   go_enter Tryz.func274,Tryz.ntmps274
   go_wp2_with (first
    |(go_at_call_of 181 (Value.pointer (some ⟨R,0,none⟩));refine (Xo3 H).mono ?_;rintro r w1 ⟨rfl,k,rfl⟩;have c1:=((Xo0 H).drewN k).c1)
    |(refine ((Xe4 H) _ _).mono ?_;rintro r w2 ⟨rfl,X0,M1⟩;have HB:=Xh2 X0 M1;clear X0 M1))
   go_ret;refine ⟨.inr ⟨HN.out,rfl,?_⟩,(Qaw _ _ _).trans0 (Xe1 HB)⟩;have h1:=(Xo0 HB)
   split at h1 <;> exact h1
  ·have Xj:bad=false:=by
    cases bad with
    |false=>rfl
    |true=>have:=(Xo2 H) rfl;have:=HS.out;omega
   subst Xj;have HB:=Ub ((Xo1 H) rfl)
   go_enter Tryz.func274,Tryz.ntmps274
   go_wp2_with (first
    |(go_at_call_of 181 (Value.pointer (some ⟨R,0,none⟩));refine (Xo3 H).mono ?_;rintro r w1 ⟨rfl,k,rfl⟩;have c1:=((Xo0 H).drewN k).c1;have f1:=((Xo0 H).drewN k).f1))
   go_ret;refine ⟨.inl ⟨trivial,?_,?_,?_,?_⟩,(Qaw _ _ _).trans0 (Q1x _ _ _ _)⟩
   ·rw[HB.out];omega
   ·rw[HB.out];omega
   ·rw[HB.out];rfl
   ·exact ((Xo0 H).drewN k).setAt ((p:Int)+1)
theorem Qa0 {s:ByteArray} {p:Nat} (hp:p<s.size):s.data.toList.drop p=(s[p]'hp)::s.data.toList.drop (p+1):=by
 rw[UG (show p<s.data.toList.length from hp)]
 congr 1
theorem Qmf {s:ByteArray} {i:Nat} (hi:i<s.size) (h:48<=(s[i]'hi).toNat/\(s[i]'hi).toNat<=57):Q1j s.data.toList (i+1)=Q1j s.data.toList i:=by
 unfold Q1j;rw[Qa0 hi,DecM.digN,Us h];omega
theorem Q92 {s:ByteArray} {i:Nat} (h:∀hi:i<s.size,¬(48<=(s[i]'hi).toNat/\(s[i]'hi).toNat<=57)):Q1j s.data.toList i=i:=by
 unfold Q1j
 by_cases hi:i<s.size
 ·rw[Qa0 hi,DecM.digN,Up (h hi)];rfl
 ·rw[UW (by show s.data.toList.length<=i;have:s.data.toList.length=s.size:=rfl;omega)];rfl
theorem Qft {p:Int} (h:Q0q w R s p m d bad) (a:Nat) (ha:a<=s.size) (hs:s.size<=281474976710656):
 Calls Tryz.prog 310 #[.pointer (some ⟨R,0,none⟩),.int .i64 (a:Int)] w fun e w'=>e=.returned (.int .i64 ((Q1j s.data.toList a:Nat):Int))/\w=w':=by
 obtain ⟨V,hV⟩:∃V,Q1j s.data.toList a=V:=⟨_,rfl⟩;rw[hV];have c0:=h.c0;have H:=Xh3 hV ha hs;clear h hV ha hs
 go_enter Tryz.func310,Tryz.ntmps310
 go_wp2_with fail
 go_loopw [1] (fun v wr=>∃i:Nat,v=.int .i64 (i:Int)/\i<=s.size/\Q1j s.data.toList i=V/\w=wr) (fun v _=>s.size-(intOf v).toNat)
 case atStart=>exact ⟨a,rfl,(Xo1 H),(Xo0 H),rfl⟩
 case round=>
  obtain ⟨i,rfl,hi,hw,rfl⟩:=hrel;have HW:=Xh2 hi hw;clear hi hw
  by_cases E0:i<s.size
  ·have J0:(i:Int)<(s.size:Int):=by omega
   by_cases D9:(48:Int)<=((s[i]'E0).toNat:Int)
   ·by_cases h57:((s[i]'E0).toNat:Int)<=57
    ·have Z6:IntKind.i64.wrap ((i:Int)+1)=(i:Int)+1:=by rw[UN];have:=(Xe2 H);omega
     go_wp2_with fail
     have P0:=Qmf E0 ⟨by omega,by omega⟩;refine ⟨⟨i+1,?_,by omega,P0.trans (Xe1 HW),trivial⟩,?_⟩
     ·exact congrArg (Value.int .i64) (by omega)
     ·simp[intOf];omega
    ·have HV:=Ub (show i=V from by rw[<-(Xe1 HW),Q92 (fun _=>by omega)])
     go_wp2_with fail
     go_ret;exact ⟨show Ending.returned (.int .i64 (i:Int))=_ by rw[HV.out],rfl⟩
   ·have HV:=Ub (show i=V from by rw[<-(Xe1 HW),Q92 (fun _=>by omega)])
    go_wp2_with fail
    go_ret;exact ⟨show Ending.returned (.int .i64 (i:Int))=_ by rw[HV.out],rfl⟩
  ·have J0:¬(i:Int)<(s.size:Int):=(by omega);have HV:=Ub (show i=V from by rw[<-(Xe1 HW),Q92 (fun h=>absurd h E0)])
   go_wp2_with fail
   go_ret;exact ⟨show Ending.returned (.int .i64 (i:Int))=_ by rw[HV.out],rfl⟩
def Qj6 (R:Nat) (s:ByteArray) (m d:Int) (X:Except Nat Nat) (w':World):Prop:=match X with| .ok q=>Q0q w' R s (q:Int) m d false/\q<=s.size| .error q=>Q0q w' R s (q:Int) m d true/\q<=s.size
theorem Qq1 {L T:LU} {i p:Nat} {c:UInt8} {r:LU} (h:T.drop i=c::r) (hc:Q07 L p=c):Q2f L (T.drop i) p=Q2f L (T.drop (i+1)) (p+1):=by
 have h2:T.drop (i+1)=r:=by rw[<-List.tail_drop,h];rfl
 rw[h2,h,Q2f,Us hc]
theorem Qa1 (h:Q0q w R s (p:Int) m d bad) (hp:p<=s.size) (hs:s.size<=281474976710656) (t:ByteArray) (ht:t.size<=281474976710656) (hnz:∀c∈t.data.toList,c≠0) (Xz:0<t.size):
 Calls Tryz.prog 129 #[.pointer (some ⟨R,0,none⟩),.string t] w fun e w'=>e=.returned (.tuple #[])/\Q0e (OnR R) w w'/\Qj6 R s m d (if bad=true then Except.error p else Q2f s.data.toList t.data.toList p) w':=by
 obtain ⟨X,hX⟩:∃X,(if bad=true then Except.error p else Q2f s.data.toList t.data.toList p)=X:=⟨_,rfl⟩;rw[hX];have H:=Xh7 h hp hs ht hnz hX Xz;clear h hp hs ht hnz hX Xz
 go_enter Tryz.func129,Tryz.ntmps129
 go_wp2_with fail
 go_loopw [7] (fun v wr=>∃i q:Nat,v=.int .i64 (i:Int)/\i<=t.size/\q<=s.size/\Q0q wr R s (q:Int) m d bad/\(bad=true->i=0/\q=p)/\(bad=false->Q2f s.data.toList (t.data.toList.drop i) q=X)/\Q0e (OnR R) w wr) (fun v _=>t.size-(intOf v).toNat)
 case atStart=>exact ⟨0,p,rfl,Ut _,(Xo1 H),(Xo0 H),fun _=>⟨rfl,rfl⟩,fun hb=>by have:=(Xo5 H);rw[hb] at this;simpa using this,Q0e.refl _ _⟩
 case round=>
  obtain ⟨i,q,rfl,hi,hq,hr,Yr,Xj,htn⟩:=hrel
  by_cases E0:i<t.size
  ·have J0:(i:Int)<(t.size:Int):=(by omega);have hn:=fun k=>Qc3 (hr.drewN k) (Xo2 H);have hwg:=fun (k:Nat) (z:Int)=>Q5i (hr.drewN k) z;obtain ⟨c,hc⟩:∃c,nxB s.data.toList q bad=c:=⟨_,rfl⟩;rw[hc] at hn;have HN:=Xh9 hn hr Yr Xj htn hc hwg hi hq;clear hn hr Yr Xj htn hc hwg hi hq
   by_cases Y4:c=(t[i]'E0)
   ·have hbeq:((c.toNat:Int)==((t[i]'E0).toNat:Int))=true:=(by rw[Y4];simp);have JI:((c.toNat:Int) != ((t[i]'E0).toNat:Int))=false:=(by rw[Y4];simp);have X1:bad=false/\q<s.size/\Q07 s.data.toList q=(t[i]'E0):=by
     have h1:=(Xo5 HN);have h2:(t[i]'E0)≠0:=(Xo4 H) _ (by rw[show (t[i]'E0)=t.data.toList[i]'(by exact E0) from (Array.getElem_toList _).symm];exact List.getElem_mem _);obtain ⟨a1,a2,a3⟩:=Qz1 (s:=s.data.toList) (p:=q) (bad:=bad) (by rw[h1,Y4];exact h2);exact ⟨a1,a2,by rw[<-a3,h1,Y4]⟩
    have HB:=Ub X1;clear X1 Y4;have Z6:IntKind.i64.wrap ((i:Int)+1)=(i:Int)+1:=(by rw[UN];have:=(Xo3 H);omega);have Wj:IntKind.i64.wrap ((q:Int)+1)=(q:Int)+1:=by rw[UN];have:=(Xo2 H);have:=(Xe8 HN);omega
    go_wp2_with fail
    go_quiet (first|(refine Calls.quiet_of ((Xo0 HN) _)))
    have c1:=((Xo1 HN).drewN nq).c1;have f1:=((Xo1 HN).drewN nq).f1
    go_wp2_with fail
    refine ⟨⟨i+1,q+1,?_,by omega,?_,?_,?_,?_,?_⟩,?_⟩
    ·exact congrArg (Value.int .i64) (by omega)
    ·exact (Xo1 HB)
    ·exact ((Xo1 HN).drewN nq).setAt ((q:Int)+1)
    ·intro hb;rw[(Xo0 HB)] at hb;cases hb
    ·intro _;rw[<-(Xo3 HN) (Xo0 HB)];exact (Qq1 (Qa0 E0) (Xe2 HB)).symm
    ·exact ((Xo4 HN).drewN nq).trans0 (Q1x _ _ _ _)
    ·simp[intOf];omega
   ·have hbeq:((c.toNat:Int)==((t[i]'E0).toNat:Int))=false:=by
     rw[Uk];intro e;exact Y4 (Xa5.1 (by omega))
    have JI:((c.toNat:Int) != ((t[i]'E0).toNat:Int))=true:=(by rw[bne,hbeq];rfl);have HQ:=Ub Y4;clear Y4
    go_wp2_with fail
    go_quiet (first|(refine Calls.quiet_of ((Xo0 HN) _)))
    have c1:=((Xo1 HN).drewN nq).c1
    go_wp2_with (refine ((Xo6 HN) _ _).mono ?_;rintro r w2 ⟨rfl,X0,M1⟩;have HB:=Xh2 X0 M1;clear X0 M1)
    refine ⟨rfl,.tuple #[],by simp[results],rfl,((Xo4 HN).drewN nq).trans0 (Xe1 HB),?_⟩;have h1:=(Xo0 HB);cases bad with
    |true=>
     obtain ⟨rfl,rfl⟩:=(Xo2 HN) rfl;have hX:=(Xo5 H);rw[Us rfl] at hX;rw[<-hX];exact ⟨h1,(Xo1 H)⟩
    |false=>
     have hX:=(Xo3 HN) rfl;rw[Qa0 E0,Q2f,Up (by
      have h2:=(Xo5 HN);intro e;exact HQ.out (by rw[<-h2,<-e];rfl))] at hX
     rw[<-hX];exact ⟨h1,(Xe8 HN)⟩
  ·have J0:¬(i:Int)<(t.size:Int):=(by omega);have HN:=Xh6 hr Yr Xj htn hi hq;clear hr Yr Xj htn hi hq
   go_wp2_with fail
   refine ⟨rfl,.tuple #[],by simp[results],rfl,(Xo3 HN),?_⟩;have Q8:i=t.size:=(by have:=(Xo4 HN);omega);cases bad with
   |true=>have:=((Xo1 HN) rfl).1;have:=(Xe6 H);omega
   |false=>
    have hX:=(Xo2 HN) rfl;rw[UW (show t.data.toList.length<=i by have:t.data.toList.length=t.size:=rfl;omega),Q2f] at hX;rw[<-hX];exact ⟨(Xo0 HN),(Xe5 HN)⟩
end
end Go.Proofs.YtidojbkhlenahaaGreatDoor
