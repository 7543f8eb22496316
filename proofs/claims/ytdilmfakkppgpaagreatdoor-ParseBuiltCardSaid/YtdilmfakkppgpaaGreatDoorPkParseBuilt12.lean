/- Part 12 of the proof of LawParseBuilt: ParseM, ShowM, ShowM2, ShowM3, Mono. Condition: as each theorem says; none at the end. -/
import Derived.Test.YtdilmfakkppgpaaGreatDoorPkParseBuilt11
set_option maxRecDepth 100000
set_option maxHeartbeats 16000000
namespace Go.Proofs.YtdilmfakkppgpaaGreatDoor
open Go.RowKit WordsM DecM
def Q06 (s:LU) (p:Nat):UInt8:=s.getD p 0
theorem Q6b {s:LU} {p:Nat} (h:Q06 s p≠0):p<s.length:=by
 refine Xag fun o6=>h ?_;unfold Q06;rw[Tf,Tk o6];rfl
theorem Q0e {s:LU} {p:Nat} {c:UInt8} (h:Q06 s p=c) (hc:c≠0):p<s.length:=Q6b (by rw[h];exact hc)
def Q8e:LU->Nat
 |[]=>0
 |c::r=>if c=32 then Q8e r+1 else 0
def Q03 (s:LU) (p:Nat):Nat:=p+Q8e (s.drop p)
theorem Qlt:∀l,Q8e l<=l.length
 |[]=>Ug _
 |c::r=>by
  have:=Qlt r;simp only[Q8e,Uz]
  split <;> omega
theorem Q1m (s:LU) (p:Nat):p<=Q03 s p:=Nat.le_add_right _ _
theorem Q1s {s:LU} {p:Nat} (h:p<=s.length):Q03 s p<=s.length:=by
 have:=Qlt (s.drop p);rw[Te] at this;unfold Q03;omega
theorem Q54 {s:LU} {p:Nat} (h:Q06 s p=32):Q03 s p=Q03 s (p+1):=by
 have hp:=Q0e h (by decide);unfold Q03;rw[UC hp];have hc:s[p]=32:=by
  unfold Q06 at h;rw[Tf,Ub hp] at h;exact h
 rw[Q8e,Us hc];omega
theorem Q5c {s:LU} {p:Nat} (h:Q06 s p≠32):Q03 s p=p:=by
 unfold Q03
 by_cases hp:p<s.length
 ·rw[UC hp];have hc:s[p]≠32:=by
   unfold Q06 at h;rw[Tf,Ub hp] at h;exact h
  rw[Q8e,Uq hc];rfl
 ·rw[UZ (by omega)];rfl
theorem Q7j (s:LU) (p:Nat):Q03 s (Q03 s p)=Q03 s p:=by
 have key:∀n p,s.length-p=n->Q03 s (Q03 s p)=Q03 s p:=by
  intro n
  induction n using Nat.strongRecOn with
  |ind n ih=>
   intro p hn
   by_cases h:Q06 s p=32
   ·have hp:=Q0e h (by decide);rw[Q54 h];exact ih (s.length-(p+1)) (by omega) (p+1) rfl
   ·rw[Q5c h,Q5c h]
 exact key _ p rfl
abbrev PR (α:Type):=Except Nat (α × Nat)
def Q13 (s:LU) (p:Nat):Nat:=p+digN (s.drop p)
theorem Q8f {s:LU} {p:Nat} (h:p<=s.length):p<=Q13 s p/\Q13 s p<=s.length:=by
 have:=Q8a (s.drop p);rw[Te] at this;unfold Q13;omega
def Q8g (s:LU) (p:Nat):Nat:=
 if Q06 s (Q13 s p)=112 then (if Q06 s (Q13 s p+1)=45 then Q13 s (Q13 s p+2) else Q13 s (Q13 s p+1)) else Q13 s p
theorem Qqk {s:LU} {p:Nat} (h:p<=s.length):Q13 s p<=Q8g s p/\Q8g s p<=s.length:=by
 have h1:=Q8f h;unfold Q8g
 split
 ·rename_i h2;have h3:=Q0e h2 (by decide)
  split
  ·rename_i h4;have h5:=Q0e h4 (by decide);have:=Q8f (s:=s) (p:=Q13 s p+2) (by omega);omega
  ·have:=Q8f (s:=s) (p:=Q13 s p+1) (by omega);omega
 ·omega
def Qg0 (s:LU) (p:Nat):PR Ex:=
 match form ((s.drop p).take (Q8g s p-p)) with
 |none=>.error p
 |some (neg,v,e)=>.ok (.num (if Q69 (dy (sgn neg v) e)=true then some (dy (sgn neg v) e) else none),Q8g s p)
def Q4n (sub:Nat->PR Ex) (opens:Bool) (s:LU) (most:Nat) (p0:Nat):PR Ex:=
 if 48<=(Q06 s (Q03 s p0)).toNat/\(Q06 s (Q03 s p0)).toNat<=57 then Qg0 s (Q03 s p0)
 else if Q06 s (Q03 s p0)=120 then
  (if 49<=(Q06 s (Q03 s p0+1)).toNat/\(Q06 s (Q03 s p0+1)).toNat<=48+most then .ok (.var ((Q06 s (Q03 s p0+1)).toNat-49),Q03 s p0+2) else .error (Q03 s p0+1))
 else if Q06 s (Q03 s p0)=40/\opens=true then
  match sub (Q03 s p0+1) with
  | .error e=>.error e
  | .ok (x,q)=>if Q06 s (Q03 s q)=41 then .ok (x,Q03 s q+1) else .error (Q03 s q)
 else .error (Q03 s p0)
def Q1t (sub:Nat->PR Ex) (opens:Bool) (s:LU) (most:Nat) (p:Nat):PR Ex:=
 match Q4n sub opens s most p with
 | .error e=>.error e
 | .ok (b,q)=>if Q06 s (Q03 s q)=94 then
    (if 48<=(Q06 s (Q03 s (Q03 s q+1))).toNat/\(Q06 s (Q03 s (Q03 s q+1))).toNat<=56 then .ok (.pow b ((Q06 s (Q03 s (Q03 s q+1))).toNat-48),Q03 s (Q03 s q+1)+1) else .error (Q03 s (Q03 s q+1)))
   else .ok (b,Q03 s q)
def Q36 (sub:Nat->PR Ex) (opens:Bool) (s:LU) (most:Nat):Nat->Nat->List Ex->PR Ex
 |0,p,_=>.error p
 |f+1,p,acc=>match Q1t sub opens s most p with
  | .error e=>.error e
  | .ok (x,q)=>if Q06 s (Q03 s q)=42 then Q36 sub opens s most f (Q03 s q+1) (acc++[x]) else .ok (.prod (acc++[x]),Q03 s q)
def Q8h (sub:Nat->PR Ex) (opens:Bool) (s:LU) (most:Nat):Nat->Nat->Bool->List (Bool × Ex)->PR Ex
 |0,p,_,_=>.error p
 |f+1,p,below,acc=>match Q36 sub opens s most (s.length+1) p [] with
  | .error e=>.error e
  | .ok (x,q)=>if Q06 s (Q03 s q)=43 then Q8h sub opens s most f (Q03 s q+1) false (acc++[(below,x)])
    else if Q06 s (Q03 s q)=45 then Q8h sub opens s most f (Q03 s q+1) true (acc++[(below,x)])
    else .ok (.sum (acc++[(below,x)]),Q03 s q)
def Q6c (sub:Nat->PR Ex) (opens:Bool) (s:LU) (most:Nat) (p:Nat):PR Ex:=
 if Q06 s (Q03 s p)=45 then Q8h sub opens s most (s.length+1) (Q03 s p+1) true [] else Q8h sub opens s most (s.length+1) (Q03 s p) false []
def Q6d (s:LU) (most:Nat):Nat->Nat->PR Ex
 |0=>Q6c (fun q=>.error q) false s most
 |d+1=>Q6c (Q6d s most d) true s most
def Q4o (s:LU) (p:Nat) (r:PR Ex):Prop:=
 match r with
 | .error e=>e<=s.length
 | .ok (_,q)=>p<q/\q<=s.length
theorem Qql {s:LU} {p:Nat} (hp:p<=s.length):Q4o s p (Qg0 s p):=by
 have h1:=Qqk hp;have h2:=Q8f hp;unfold Qg0
 split
 ·exact hp
 ·rename_i neg v e hf;refine ⟨?_,h1.2⟩;refine Xag fun o6=>?_;rw[show Q8g s p-p=0 by omega,List.take_zero,show form []=none by decide] at hf;cases hf
theorem Qa5 {sub:Nat->PR Ex} {opens:Bool} {s:LU} {most:Nat} (hs:opens=true->∀p,p<=s.length->Q4o s p (sub p)) {p:Nat} (hp:p<=s.length):Q4o s p (Q4n sub opens s most p):=by
 have h1:=Q1s hp;have h2:=Q1m s p;unfold Q4n
 split
 ·have:=Qql h1
  revert this
  unfold Q4o
  split
  ·exact id
  ·intro h;omega
 ·split
  ·rename_i h3;have h4:=Q0e h3 (by decide)
   split
   ·rename_i h5;have h6:Q03 s p+1<s.length:=Q6b (fun e=>by rw[e] at h5;exact absurd h5.1 (by decide))
    show p<Q03 s p+2/\_
    omega
   ·show Q03 s p+1<=s.length
    omega
  ·split
   ·rename_i h3;have h4:=Q0e h3.1 (by decide);have h5:=hs h3.2 (Q03 s p+1) (by omega)
    revert h5
    cases sub (Q03 s p+1) with
    |error e=>exact id
    |ok r=>
     obtain ⟨x,q⟩:=r;intro h5;have x7:Q03 s p+1<q/\q<=s.length:=h5;have h6:=Q1s x7.2;have h7:=Q1m s q;simp only
     split
     ·rename_i h8;have h9:=Q0e h8 (by decide)
      show p<Q03 s q+1/\_
      omega
     ·show Q03 s q<=s.length
      exact h6
   ·exact h1
theorem Q5r {sub:Nat->PR Ex} {opens:Bool} {s:LU} {most:Nat} (hs:opens=true->∀p,p<=s.length->Q4o s p (sub p)) {p:Nat} (hp:p<=s.length):Q4o s p (Q1t sub opens s most p):=by
 have h5:=Qa5 (most:=most) hs hp;unfold Q1t
 revert h5
 cases Q4n sub opens s most p with
 |error e=>exact id
 |ok r=>
  obtain ⟨x,q⟩:=r;intro h5;have x7:p<q/\q<=s.length:=h5;have h6:=Q1s x7.2;have h7:=Q1m s q;simp only
  split
  ·rename_i h8;have h9:=Q0e h8 (by decide);have u9:=Q1s (s:=s) (p:=Q03 s q+1) (by omega);have h11:=Q1m s (Q03 s q+1)
   split
   ·rename_i h12;have h13:Q03 s (Q03 s q+1)<s.length:=Q6b (fun e=>by rw[e] at h12;exact absurd h12.1 (by decide))
    show p<Q03 s (Q03 s q+1)+1/\_
    omega
   ·exact u9
  ·show p<Q03 s q/\_
   omega
theorem Q6e {sub:Nat->PR Ex} {opens:Bool} {s:LU} {most:Nat} (hs:opens=true->∀p,p<=s.length->Q4o s p (sub p)):∀(f:Nat) {p:Nat} (acc:List Ex),p<=s.length->Q4o s p (Q36 sub opens s most f p acc)
 |0,p,acc,hp=>hp
 |f+1,p,acc,hp=>by
  have h5:=Q5r (most:=most) hs hp;unfold Q36
  revert h5
  cases Q1t sub opens s most p with
  |error e=>exact id
  |ok r=>
   obtain ⟨x,q⟩:=r;intro h5;have x7:p<q/\q<=s.length:=h5;have h6:=Q1s x7.2;have h7:=Q1m s q;simp only
   split
   ·rename_i h8;have h9:=Q0e h8 (by decide);have:=Q6e (most:=most) hs f (p:=Q03 s q+1) (acc++[x]) (by omega)
    revert this
    unfold Q4o
    split
    ·exact id
    ·intro h;omega
   ·show p<Q03 s q/\_
    omega
theorem Q9c {sub:Nat->PR Ex} {opens:Bool} {s:LU} {most:Nat} (hs:opens=true->∀p,p<=s.length->Q4o s p (sub p)):∀(f:Nat) {p:Nat} (below:Bool) (acc:List (Bool × Ex)),p<=s.length->Q4o s p (Q8h sub opens s most f p below acc)
 |0,p,below,acc,hp=>hp
 |f+1,p,below,acc,hp=>by
  have h5:=Q6e (most:=most) hs (s.length+1) [] hp;unfold Q8h
  revert h5
  cases Q36 sub opens s most (s.length+1) p [] with
  |error e=>exact id
  |ok r=>
   obtain ⟨x,q⟩:=r;intro h5;have x7:p<q/\q<=s.length:=h5;have h6:=Q1s x7.2;have h7:=Q1m s q;simp only
   split
   ·rename_i h8;have h9:=Q0e h8 (by decide);have:=Q9c (most:=most) hs f (p:=Q03 s q+1) false (acc++[(below,x)]) (by omega)
    revert this
    unfold Q4o
    split
    ·exact id
    ·intro h;omega
   ·split
    ·rename_i h8;have h9:=Q0e h8 (by decide);have:=Q9c (most:=most) hs f (p:=Q03 s q+1) true (acc++[(below,x)]) (by omega)
     revert this
     unfold Q4o
     split
     ·exact id
     ·intro h;omega
    ·show p<Q03 s q/\_
     omega
theorem Qc6 {sub:Nat->PR Ex} {opens:Bool} {s:LU} {most:Nat} (hs:opens=true->∀p,p<=s.length->Q4o s p (sub p)) {p:Nat} (hp:p<=s.length):Q4o s p (Q6c sub opens s most p):=by
 have h6:=Q1s hp;have h7:=Q1m s p;unfold Q6c
 split
 ·rename_i h8;have h9:=Q0e h8 (by decide);have:=Q9c (most:=most) hs (s.length+1) (p:=Q03 s p+1) true [] (by omega)
  revert this
  unfold Q4o
  split
  ·exact id
  ·intro h;omega
 ·have:=Q9c (most:=most) hs (s.length+1) (p:=Q03 s p) false [] h6
  revert this
  unfold Q4o
  split
  ·exact id
  ·intro h;omega
theorem Q6f (s:LU) (most:Nat):∀(d p:Nat),p<=s.length->Q4o s p (Q6d s most d p)
 |0,p,hp=>Qc6 (fun h=>by cases h) hp
 |d+1,p,hp=>Qc6 (fun _ p hp=>Q6f s most d p hp) hp
def Q1h (s:LU):LU->Nat->Except Nat Nat
 |[],p=>.ok p
 |c::r,p=>if Q06 s p=c then Q1h s r (p+1) else .error p
def Q3t (i:Nat):LU:=120::(dec (i+1)++[39,32,61,32])
def Q8i (s:LU) (most i p:Nat):PR Ex:=
 match Q1h s (Q3t i) p with
 | .error e=>.error e
 | .ok p1=>match Q6d s most 16 p1 with
   | .error e=>.error e
   | .ok (x,q)=>if Q06 s (Q03 s q)=10 then .ok (x,Q03 s q+1) else .error (Q03 s q)
def Q3c (s:LU) (most:Nat):Nat->Nat->List (Nat × Ex)->Except Nat (List (Nat × Ex))
 |0,p,_=>.error p
 |f+1,p,acc=>match Q8i s most acc.length p with
  | .error e=>.error e
  | .ok (x,q)=>if q<s.length then Q3c s most f q (acc++[(p,x)]) else .ok (acc++[(p,x)])
def Q30 (n:Nat):List (Nat × Ex)->List (List Q0a)->Except (Nat × Int) (List (List Q0a))
 |[],acc=>.ok acc
 |(p,x)::r,acc=>match Q16 n x with
  | .error e=>.error (p,e)
  | .ok P=>Q30 n r (acc++[P])
def Q4d (s:LU):Except (Nat × Int) (List (List Q0a)):=
 match Q3c s (min (s.count 10) 4) 4 0 [] with
 | .error p=>.error (p,5)
 | .ok l=>Q30 l.length l []
def Qk5 (i:Nat) (k:Int):List (LU):=
 if k=1 then [120::dec (i+1)] else if 1<k then [120::(dec (i+1)++94::dec k.toNat)] else []
def Q2w:Nat->List Int->List (LU)
 |_,[]=>[]
 |i,k::r=>Qk5 i k++Q2w (i+1) r
def Q5s:Dyadic->Bool
 | .zero=>false
 | .ofOdd n _ _=>decide (n<0)
def Qqm (d:Dyadic):Dyadic:=if Q5s d=true then -d else d
def dyT:Dyadic->LU
 | .zero=>[48]
 | .ofOdd n k _=>Q2s (decide (n<0)) n.natAbs (-k)
def Q4u:List (LU)->LU
 |[]=>[]
 |[x]=>x
 |x::y::r=>x++42::Q4u (y::r)
def Q3y (p:Q0a):List (LU):=
 if Q2w 0 p.2=[]∨Qqm p.1≠1 then dyT (Qqm p.1)::Q2w 0 p.2 else Q2w 0 p.2
def Q25 (p:Q0a):LU:=Q4u (Q3y p)
def Q4e (first:Bool) (p:Q0a):LU:=
 if first=true then (if Q5s p.1=true then [45] else []) else (if Q5s p.1=true then [32,45,32] else [32,43,32])
def Q0w:Bool->List Q0a->LU
 |_,[]=>[]
 |first,p::r=>Q4e first p++(Q25 p++Q0w false r)
def polyT (P:List Q0a):LU:=if P=[] then [48] else Q0w true P
def Q70 (i:Nat) (P:List Q0a):LU:=Q3t i++(polyT P++[10])
def Q2f:Nat->List (List Q0a)->LU
 |_,[]=>[]
 |i,P::r=>Q70 i P++Q2f (i+1) r
theorem Qa6 {neg:Bool} {v:Nat} {e:Int} (ho:v%2=1):Q5s (dy (sgn neg v) e)=neg:=by
 rw[Qc2 (Q4m ho)];cases neg
 ·simp[Q5s,sgn]
 ·simp[Q5s,sgn];omega
theorem Qk6 {neg:Bool} {v:Nat} {e:Int} (ho:v%2=1):dyT (dy (sgn neg v) e)=Q2s neg v e:=by
 have h:=Qa6 (neg:=neg) (e:=e) ho;rw[Qc2 (Q4m ho)] at h⊢;simp only[Q5s] at h;simp only[dyT,h,Qc3,Int.neg_neg]
theorem Qf9 {neg:Bool} {v:Nat} {e:Int} (ho:v%2=1):Qqm (dy (sgn neg v) e)=dy (sgn false v) e:=by
 unfold Qqm;rw[Qa6 ho];cases neg
 ·rfl
 ·rw[Us rfl,Qq3];congr 1;simp[sgn]
theorem Qqn (d:Dyadic):d=0∨∃(neg:Bool) (v:Nat) (e:Int),v%2=1/\d=dy (sgn neg v) e:=by
 cases d with
 |zero=>exact .inl rfl
 |ofOdd n k h=>
  refine .inr ⟨decide (n<0),n.natAbs,-k,by omega,?_⟩;have hs:sgn (decide (n<0)) n.natAbs=n:=by
   unfold sgn
   by_cases hn:n<0
   ·rw[Us (by simpa using hn)];omega
   ·rw[Uq (by simpa using hn)];omega
  rw[hs,Qc2 h,Int.neg_neg]
def At (s:LU) (p:Nat) (t:LU):Prop:=s.drop p=t
theorem At.byte {s:LU} {p:Nat} {c:UInt8} {t:LU} (h:At s p (c::t)):Q06 s p=c/\At s (p+1) t:=by
 unfold At at*;have hp:p<s.length:=by
  refine Xag fun o6=>?_;rw[UZ o6] at h;cases h
 rw[UC hp] at h;injection h with h1 h2;refine ⟨?_,h2⟩;unfold Q06;rw[Tf,Ub hp];exact h1
theorem At.end_ {s:LU} {p:Nat} (h:At s p []):Q06 s p=0:=by
 unfold At at h;have hp:s.length<=p:=List.drop_eq_nil_iff.1 h;unfold Q06;rw[Tf,Tk hp];rfl
theorem At.app {s:LU} {p:Nat} {t u:LU} (h:At s p (t++u)):At s (p+t.length) u:=by
 unfold At at*;rw[<-List.drop_drop,h,List.drop_left]
theorem At.len {s:LU} {p:Nat} {t:LU} (h:At s p t) (hp:p<=s.length):s.length=p+t.length:=by
 unfold At at h;have:=congrArg List.length h;rw[Te] at this;omega
theorem At.fixed {s:LU}:∀{t:LU} {p:Nat} {u:LU},At s p (t++u)->Q1h s t p=.ok (p+t.length)
 |[],p,u,_=>rfl
 |c::t,p,u,h=>by
  obtain ⟨h1,h2⟩:=At.byte (t:=t++u) h;rw[Q1h,Us h1,At.fixed h2];simp only[Uz]
  congr 1;omega
theorem At.skip0 {s:LU} {p:Nat} {c:UInt8} {t:LU} (h:At s p (c::t)) (hc:c≠32):Q03 s p=p:=Q5c (by rw[h.byte.1];exact hc)
theorem At.word {s:LU} {p:Nat} {t u:LU} (h:At s p (t++u)) (ha:Qdr t) (hu:digN u=0):Q13 s p=p+t.length:=by
 unfold Q13 At at*;rw[h,Qf1 t u ha,hu,Tu]
def Qlu (u:LU):Prop:=digN u=0/\∀c r,u=c::r->c≠112
theorem Qte (e:Int) {u:LU} (hu:Qlu u):digN (Qa1 e++u)=0:=by
 unfold Qa1
 split
 ·exact hu.1
 ·show digN (112::_)=0
  rw[digN,Uq];decide
theorem Qni {s:LU} {p:Nat} {v:Nat} {e:Int} {u:LU} (h:At s p (Q2s false v e++u)) (hu:Qlu u):Q8g s p=p+(Q2s false v e).length:=by
 have ht:Q2s false v e=dec v++Qa1 e:=rfl;rw[ht,UO] at h;rw[ht];have hw:=h.word (Q60 v) (Qte e hu);have h2:=h.app;unfold Q8g;rw[hw];unfold Qa1 at h2⊢
 by_cases h0:e=0
 ·rw[Us h0] at h2⊢;rw[TW] at h2;have C1:Q06 s (p+(dec v).length)≠112:=by
   cases u with
   |nil=>rw[h2.end_];decide
   |cons c r=>rw[h2.byte.1];exact hu.2 c r rfl
  rw[Uq C1,TV]
 ·rw[Uq h0] at h2⊢;obtain ⟨h3,h4⟩:=At.byte (t:=(if e<0 then 45::dec e.natAbs else dec e.natAbs)++u) h2;rw[Us h3]
  by_cases P6:e<0
  ·rw[Us P6] at h4⊢;obtain ⟨h5,h6⟩:=At.byte (t:=dec e.natAbs++u) h4;rw[Us h5,h6.word (Q60 _) hu.1];simp only[Uj,Uz];omega
  ·rw[Uq P6] at h4⊢;have hd:=Q42 e.natAbs;have h5:Q06 s (p+(dec v).length+1)≠45:=by
    cases hc:dec e.natAbs with
    |nil=>rw[hc] at hd;simp at hd
    |cons c r=>
     rw[hc] at h4;have h6:=(At.byte (t:=r++u) h4).1;rw[h6];have:=Q60 e.natAbs c (by rw[hc];simp);rintro rfl;exact absurd this (by decide)
   rw[Uq h5,h4.word (Q60 _) hu.1];simp only[Uj,Uz];omega
theorem Qtf (c a b j:Nat) (h:a*b<=j) (hc:0<c):(c^a)^b<=c^j:=by
 rw[<-Xar];exact UR hc h
theorem Qha:(2^64)^64<=10^1300:=by
 have h1:((2:Nat)^64)^64=((2^64)^2)^32:=by rw[<-Xar (2^64) 2 32]
 rw[h1];exact Ur (Xbb (show ((2:Nat)^64)^2<=10^40 by decide) 32) (Qtf 10 40 32 1300 (by decide) (by decide))
theorem Qc7 (v:Nat) (e:Int):∃c r,Q2s false v e=c::r/\48<=c.toNat/\c.toNat<=57:=by
 have hd:=Q42 v;cases hc:dec v with
 |nil=>rw[hc] at hd;simp at hd
 |cons c r=>
  refine ⟨c,r++Qa1 e,?_,Q60 v c (by rw[hc];simp)⟩
  show dec v++Qa1 e=_
  rw[hc];rfl
theorem Qqo {s:LU} {p:Nat} {v:Nat} {e:Int} {u:LU} (h:At s p (Q2s false v e++u)) (hu:Qlu u) (h1: -65536<=e) (h2:e<=65536) (hv:v<(2^64)^64) (h0:v=0->e=0) (hf:Q75 (dy (sgn false v) e)):
 Qg0 s p=.ok (.num (some (dy (sgn false v) e)),p+(Q2s false v e).length):=by
 have hn:=Qni h hu;unfold Qg0;rw[hn,Nat.add_sub_cancel_left];have ht:(s.drop p).take (Q2s false v e).length=Q2s false v e:=by
  unfold At at h;rw[h,List.take_left]
 rw[ht,Qps false v e h1 h2 (Ue hv Qha) (fun h=>⟨rfl,h0 h⟩)];simp only;rw[Us ((Q2a _).2 hf)]
def nb (u:LU):UInt8:=(u.drop (Q8e u)).headD 0
theorem At.nb {s:LU} {q:Nat} {u:LU} (h:At s q u):Q06 s (Q03 s q)=nb u:=by
 unfold At at h;unfold Q03;rw[h];have h2:At s (q+Q8e u) (u.drop (Q8e u)):=by unfold At;rw[<-List.drop_drop,h]
 unfold Go.Proofs.YtdilmfakkppgpaaGreatDoor.nb;cases hc:u.drop (Q8e u) with
 |nil=>rw[hc] at h2;exact h2.end_
 |cons c r=>rw[hc] at h2;exact h2.byte.1
def Qlv (u:LU):Prop:=Qlu u/\nb u≠94
def FR (most:Nat) (t:LU) (x:Ex):Prop:=(∃c r,t=c::r/\c≠32)/\∀(s:LU) (sub:Nat->PR Ex) (opens:Bool) (p:Nat) (u:LU),At s (Q03 s p) (t++u)->Qlv u->∃q,Q1t sub opens s most p=.ok (x,q)/\Q03 s q=Q03 s (Q03 s p+t.length)
theorem Qve (most:Nat) {v:Nat} {e:Int} (h1: -65536<=e) (h2:e<=65536) (hv:v<(2^64)^64) (h0:v=0->e=0) (hf:Q75 (dy (sgn false v) e)):FR most (Q2s false v e) (.num (some (dy (sgn false v) e))):=by
 refine ⟨?_,fun s sub opens p u h hu=>?_⟩
 ·obtain ⟨c,r,hc,N1,_⟩:=Qc7 v e;exact ⟨c,r,hc,fun e=>by rw[e] at N1;exact absurd N1 (by decide)⟩
 ·obtain ⟨c,r,hc,N1,E1⟩:=Qc7 v e;have hb:Q06 s (Q03 s p)=c:=by
   have h':=h;rw[hc] at h';exact (At.byte (t:=r++u) h').1
  have hn:=Qqo h hu.1 h1 h2 hv h0 hf;have ha:Q06 s (Q03 s (Q03 s p+(Q2s false v e).length))=nb u:=(At.app h).nb;refine ⟨Q03 s (Q03 s p+(Q2s false v e).length),?_,Q7j _ _⟩;unfold Q1t Q4n;rw[hb,Us ⟨N1,E1⟩,hn];simp only;rw[Uq (by rw[ha];exact hu.2)]
theorem Q71 {i:Nat} (h:i<10):dec i=[UInt8.ofNat (48+i)]:=Q2d h
theorem Q9d {i:Nat} (h:i<10):(UInt8.ofNat (48+i)).toNat=48+i:=Q43 i h
theorem Qlw {most i:Nat} (hi:i<9) (hm:i+1<=most) (s:LU) (sub:Nat->PR Ex) (opens:Bool) (p:Nat) (u:LU) (h:At s (Q03 s p) (120::(dec (i+1)++u))):Q4n sub opens s most p=.ok (.var i,Q03 s p+2):=by
 obtain ⟨h1,h2⟩:=h.byte;rw[Q71 (by omega)] at h2;obtain ⟨h3,h4⟩:=At.byte (t:=u) h2;unfold Q4n;rw[h1,Uq (by decide),Us rfl,h3,Q9d (by omega),Us (by omega)]
 congr 2
 congr 1
 omega
theorem Qxf {most i:Nat} (hi:i<9) (hm:i+1<=most):FR most (120::dec (i+1)) (.var i):=by
 refine ⟨⟨_,_,rfl,by decide⟩,fun s sub opens p u h hu=>?_⟩;have hb:=Qlw hi hm s sub opens p u h;have hl:(120::dec (i+1)).length=2:=by rw[Q71 (by omega)];rfl
 have ha:Q06 s (Q03 s (Q03 s p+(120::dec (i+1)).length))=nb u:=(At.app (t:=120::dec (i+1)) h).nb;rw[hl] at ha⊢;refine ⟨Q03 s (Q03 s p+2),?_,Q7j _ _⟩;unfold Q1t;rw[hb];simp only;rw[Uq (by rw[ha];exact hu.2)]
theorem Qxg {most i k:Nat} (hi:i<9) (hm:i+1<=most) (hk:k<=8):FR most (120::(dec (i+1)++94::dec k)) (.pow (.var i) k):=by
 refine ⟨⟨_,_,rfl,by decide⟩,fun s sub opens p u h hu=>?_⟩;have h':At s (Q03 s p) (120::(dec (i+1)++(94::(dec k++u)))):=by simpa using h
 have hb:=Qlw hi hm s sub opens p _ h';have hl:(120::dec (i+1)).length=2:=by rw[Q71 (by omega)];rfl
 have R0:(120::(dec (i+1)++94::dec k)).length=4:=by rw[Q71 (by omega),Q71 (i:=k) (by omega)];rfl
 have h2:At s (Q03 s p+2) (94::(dec k++u)):=by
  have:=At.app (t:=120::dec (i+1)) (u:=94::(dec k++u)) h';rwa[hl] at this
 obtain ⟨h3,h4⟩:=h2.byte;have X6:=h2.skip0 (by decide);rw[Q71 (i:=k) (by omega)] at h4;obtain ⟨h5,h6⟩:=At.byte (t:=u) h4;have y6:=At.skip0 (t:=u) h4 (fun e=>by have:=congrArg UInt8.toNat e;rw[Q9d (by omega)] at this;have WI:(32:UInt8).toNat=32:=rfl;omega);rw[R0];refine ⟨Q03 s p+4,?_,rfl⟩;unfold Q1t;rw[hb];simp only;rw[X6,Us h3,y6,h5,Q9d (by omega),Us (by omega)]
 congr 2
 congr 1
 omega
def FRs (most:Nat):List (LU)->List Ex->Prop
 |[],[]=>True
 |t::ts,x::xs=>FR most t x/\FRs most ts xs
 |_,_=>False
theorem Qqp {most:Nat}:∀{ts us:List (LU)} {xs ys:List Ex},FRs most ts xs->FRs most us ys->FRs most (ts++us) (xs++ys)
 |[],_,[],_,_,h=>h
 |_::_,_,_::_,_,h,h'=>⟨h.1,Qqp h.2 h'⟩
 |[],_,_::_,_,h,_=>h.elim
 |_::_,_,[],_,h,_=>h.elim
theorem Qtg (t:LU):Qlv (42::t):=⟨⟨by rw[digN,Uq];decide,fun c r h=>by injection h with h1 _;rw[<-h1];decide⟩,by simp[nb,Q8e]⟩
theorem Qc8 {most:Nat} {s:LU} (sub:Nat->PR Ex) (opens:Bool) {u:LU} (hu:Qlv u) (hs:nb u≠42):∀(ts:List (LU)) (xs:List Ex) (f p:Nat) (acc:List Ex),ts≠[]->FRs most ts xs->ts.length<=f->At s (Q03 s p) (Q4u ts++u)->
 Q36 sub opens s most f p acc=.ok (.prod (acc++xs),Q03 s (Q03 s p+(Q4u ts).length))
 |[],_,_,_,_,h,_,_,_=>absurd rfl h
 |[t],[x],f+1,p,acc,_,hf,_,h=>by
  obtain ⟨q,h1,h2⟩:=hf.1.2 s sub opens p u h hu;have ha:Q06 s (Q03 s (Q03 s p+t.length))=nb u:=(At.app (t:=t) h).nb;unfold Q36;rw[h1];simp only;rw[h2,Uq (by rw[ha];exact hs)];rfl
 |t::t'::ts,x::xs,f+1,p,acc,_,hf,hl,h=>by
  have h':At s (Q03 s p) (t++(42::(Q4u (t'::ts)++u))):=by simpa[Q4u] using h
  obtain ⟨q,h1,h2⟩:=hf.1.2 s sub opens p _ h' (Qtg _);have h3:=At.app h';have h4:=h3.skip0 (by decide);obtain ⟨h5,h6⟩:=h3.byte;have C1:Q4u (t'::ts)++u≠[]/\Q03 s (Q03 s p+t.length+1)=Q03 s p+t.length+1:=by
   obtain ⟨c,r,hc,Yl⟩:∃c r,Q4u (t'::ts)++u=c::r/\c≠32:=by
    have X2:=hf.2;cases xs with
    |nil=>exact X2.elim
    |cons y ys=>
     obtain ⟨c,r,hc,Yl⟩:=X2.1.1;subst hc;cases ts with
     |nil=>exact ⟨c,r++u,rfl,Yl⟩
     |cons a b=>exact ⟨c,_,rfl,Yl⟩
   rw[hc] at h6⊢;exact ⟨by simp,h6.skip0 Yl⟩
  have ih:=Qc8 sub opens hu hs (t'::ts) xs f (Q03 s p+t.length+1) (acc++[x]) (by simp) hf.2 (by simpa using hl) (by rw[C1.2];exact h6);unfold Q36;rw[h1];simp only;rw[h2,h4,Us h5,ih,C1.2];simp only[Q4u,Uj,Uz,UO,TK]
  congr 3;omega
 |[t],[],_,_,_,_,hf,_,_=>hf.elim
 |_::_::_,[],_,_,_,_,hf,_,_=>hf.elim
 |[t],_::_::_,_,_,_,_,hf,_,_=>hf.2.elim
 |_::_,_,0,_,_,_,_,hl,_=>by simp at hl
def facE (i:Nat) (k:Int):List Ex:=if k=1 then [.var i] else if 1<k then [.pow (.var i) k.toNat] else []
def Qth:Nat->List Int->List Ex
 |_,[]=>[]
 |i,k::r=>facE i k++Qth (i+1) r
def Qk7 (p:Q0a):List Ex:=if Q2w 0 p.2=[]∨Qqm p.1≠1 then .num (some (Qqm p.1))::Qth 0 p.2 else Qth 0 p.2
def Qx6 (p:Q0a):Bool × Ex:=(Q5s p.1,.prod (Qk7 p))
def Qhb (P:List Q0a):Ex:=if P=[] then .sum [(false,.prod [.num (some 0)])] else .sum (P.map Qx6)
theorem Qfa {most:Nat}:∀(i:Nat) (E:List Int),i+E.length<=most->most<=9->(∀x∈E,0<=x/\x<=8)->FRs most (Q2w i E) (Qth i E)
 |_,[],_,_,_=>trivial
 |i,k::r,h,hm,hk=>by
  have ih:=Qfa (i+1) r (by simp only[Uz] at h;omega) hm (fun x hx=>hk x (by simp[hx]));have Z3:=hk k (by simp);refine Qqp ?_ ih;simp only[Uz] at h;unfold Qk5 facE
  split
  ·exact ⟨Qxf (by omega) (by omega),trivial⟩
  ·split
   ·exact ⟨Qxg (by omega) (by omega) (by omega),trivial⟩
   ·trivial
theorem Q7w:∀{E:List Int},(∀x∈E,0<=x)->0<=E.sum/\∀x∈E,x<=E.sum
 |[],_=>⟨by simp,fun x hx=>by cases hx⟩
 |a::E,h=>by
  obtain ⟨h1,h2⟩:=Q7w (E:=E) (fun x hx=>h x (by simp[hx]));have h3:=h a (by simp);rw[List.sum_cons];refine ⟨by omega,fun x hx=>?_⟩;rcases UF.1 hx with rfl|hx
  ·omega
  ·have:=h2 x hx;omega
theorem Q1x {n:Nat} {E:List Int} (h:Q14 n E):∀x∈E,0<=x/\x<=8:=fun x hx=>by
 have h1:=(Q7w h.2.1).2 x hx;have h2:=h.2.1 x hx;have h3:=h.2.2;omega
theorem Qxh (most:Nat) {d:Dyadic} (h0:d≠0) (hf:Q75 d):FR most (dyT (Qqm d)) (.num (some (Qqm d))):=by
 rcases Qqn d with rfl|⟨neg,v,e,ho,rfl⟩
 ·exact absurd rfl h0
 ·rw[Qf9 ho];rw[Qk6 ho];obtain ⟨h1,h2,h3⟩:=(Q7t (neg:=neg) ho).1 hf;exact Qve most h2 h3 h1 (fun h=>by omega) ((Q7t (neg:=false) ho).2 ⟨h1,h2,h3⟩)
theorem Qhc {n most:Nat} {p:Q0a} (h0:p.1≠0) (h:Qh6 n p) (hn:n<=most) (hm:most<=9):FRs most (Q3y p) (Qk7 p)/\Q3y p≠[]:=by
 have h1:=Qfa (most:=most) 0 p.2 (by rw[h.2.1];omega) hm (Q1x h.2);unfold Q3y Qk7
 split
 ·exact ⟨⟨Qxh most h0 h.1,h1⟩,by simp⟩
 ·rename_i hc;exact ⟨h1,fun e=>hc (.inl e)⟩
theorem Qqq {most:Nat}:∀{ts:List (LU)} {xs:List Ex},FRs most ts xs->ts.length<=(Q4u ts).length
 |[],_,_=>by simp
 |[t],[x],h=>by
  obtain ⟨c,r,hc,_⟩:=h.1.1;simp only[Q4u,hc,Uz,Xan];omega
 |t::t'::ts,x::xs,h=>by
  have ih:=Qqq h.2;simp only[Q4u,Uj,Uz] at ih⊢;omega
 |[_],[],h=>h.elim
 |_::_::_,[],h=>h.elim
 |[_],_::_::_,h=>h.2.elim
def Qfb (u:LU):Prop:=Qlv u/\nb u≠42
theorem Qhd {n most:Nat} {p0:Q0a} (h0:p0.1≠0) (h:Qh6 n p0) (hn:n<=most) (hm:most<=9) {s:LU} (sub:Nat->PR Ex) (opens:Bool) {u:LU} (hu:Qfb u) {p:Nat} (hp:p<=s.length) (ha:At s (Q03 s p) (Q25 p0++u)):
 Q36 sub opens s most (s.length+1) p []=.ok (.prod (Qk7 p0),Q03 s (Q03 s p+(Q25 p0).length)):=by
 obtain ⟨h1,h2⟩:=Qhc h0 h hn hm;have h3:=Qqq h1;have h4:=ha.len (Q1s hp);have h5:=Qc8 sub opens hu.1 hu.2 (Q3y p0) (Qk7 p0) (s.length+1) p [] h2 h1 (by
  have h6:(Q25 p0++u).length=(Q4u (Q3y p0)).length+u.length:=by rw[Uj];rfl
  rw[h6] at h4;omega) ha
 rw[TW] at h5;exact h5
theorem Qti (c:UInt8) (t:LU) (hc:c≠32) (E1:c≠94) (Xc:c≠42):Qfb (32::c::t):=by
 have hn:nb (32::c::t)=c:=by simp[nb,Q8e,hc]
 refine ⟨⟨⟨by rw[digN,Uq];decide,fun x r h=>by injection h with h1 _;rw[<-h1];decide⟩,by rw[hn];exact E1⟩,by rw[hn];exact Xc⟩
theorem Qlx {n most:Nat} (hn:n<=most) (hm:most<=9) {s:LU} (sub:Nat->PR Ex) (opens:Bool) {u:LU} (hu:Qfb u) (hu1:nb u≠43) (hu2:nb u≠45):
 ∀(r:List Q0a) (p0:Q0a) (f p:Nat) (below:Bool) (acc:List (Bool × Ex)),(∀q∈p0::r,q.1≠0/\Qh6 n q)->r.length<f->p<=s.length->At s (Q03 s p) (Q25 p0++(Q0w false r++u))->
 Q8h sub opens s most f p below acc=.ok (.sum (acc++(below,.prod (Qk7 p0))::r.map Qx6),Q03 s (Q03 s p+(Q25 p0++Q0w false r).length))
 |[],p0,f+1,p,below,acc,hr,_,hp,ha=>by
  have ht:=Qhd (hr p0 (by simp)).1 (hr p0 (by simp)).2 hn hm sub opens hu hp ha;have hb:Q06 s (Q03 s (Q03 s p+(Q25 p0).length))=nb u:=(At.app (t:=Q25 p0) ha).nb;unfold Q8h;rw[ht];simp only;rw[Q7j,hb,Uq hu1,Uq hu2];simp[Q0w]
 |q::r,p0,f+1,p,below,acc,hr,hl,hp,ha=>by
  obtain ⟨c,hc,Y2,E1⟩:∃c:UInt8,Q4e false q=[32,c,32]/\(c=43/\Q5s q.1=false∨c=45/\Q5s q.1=true)/\c≠32:=by
   unfold Q4e;rw[Uq (by decide)];cases hb:Q5s q.1
   ·exact ⟨43,by rw[Uq (by decide)],.inl ⟨rfl,rfl⟩,by decide⟩
   ·exact ⟨45,by rw[Us rfl],.inr ⟨rfl,rfl⟩,by decide⟩
  have ha':At s (Q03 s p) (Q25 p0++(32::c::(32::(Q25 q++(Q0w false r++u))))):=by
   have e:Q0w false (q::r)++u=32::c::(32::(Q25 q++(Q0w false r++u))):=by
    rw[Q0w,hc];simp
   rw[<-e];exact ha
  have ht:=Qhd (hr p0 (by simp)).1 (hr p0 (by simp)).2 hn hm sub opens (Qti c _ E1 (by rcases Y2 with ⟨rfl,_⟩|⟨rfl,_⟩ <;> decide) (by rcases Y2 with ⟨rfl,_⟩|⟨rfl,_⟩ <;> decide)) hp ha';have h1:=At.app ha';obtain ⟨h2,h3⟩:=h1.byte;have h4:Q03 s (Q03 s p+(Q25 p0).length)=Q03 s p+(Q25 p0).length+1:=by rw[Q54 h2];exact h3.skip0 E1
  obtain ⟨h5,h6⟩:=h3.byte;obtain ⟨h7,h8⟩:=h6.byte;have Z0:Q03 s (Q03 s p+(Q25 p0).length+1+1)=Q03 s p+(Q25 p0).length+1+1+1:=by
   rw[Q54 h7];obtain ⟨O2,X2⟩:=Qhc (hr q (by simp)).1 (hr q (by simp)).2 hn hm;obtain ⟨x,y,hx,Jm⟩:∃x y,Q25 q++(Q0w false r++u)=x::y/\x≠32:=by
    unfold Q25;cases hpt:Q3y q with
    |nil=>exact absurd hpt X2
    |cons t ts=>
     rw[hpt] at O2;cases hte:Qk7 q with
     |nil=>rw[hte] at O2;exact O2.elim
     |cons z zs=>
      rw[hte] at O2;obtain ⟨x,y,hx,Jm⟩:=O2.1.1;subst hx;cases ts with
      |nil=>exact ⟨x,_,rfl,Jm⟩
      |cons a b=>exact ⟨x,_,rfl,Jm⟩
   rw[hx] at h8;exact h8.skip0 Jm
  have R0:=Q0e h5 (by rcases Y2 with ⟨rfl,_⟩|⟨rfl,_⟩ <;> decide);have JD:r.length<f:=by simp only[Uz] at hl;omega
  have YO:Q03 s p+(Q25 p0).length+1+1<=s.length:=R0;have ih:=fun (b:Bool) (acc':List (Bool × Ex))=>Qlx hn hm sub opens hu hu1 hu2 r q f (Q03 s p+(Q25 p0).length+1+1) b acc' (fun x hx=>hr x (by simp only[UF] at hx⊢;exact .inr hx)) JD YO (by rw[Z0];exact h8);have G3:Q03 s (Q03 s p+(Q25 p0).length+1+1+1+(Q25 q++Q0w false r).length)=Q03 s (Q03 s p+(Q25 p0++Q0w false (q::r)).length):=by
   congr 1
   simp only[Q0w,hc,Uj,Uz,Xan];omega
  unfold Q8h;rw[ht];simp only;rw[Q7j,h4,h5];rcases Y2 with ⟨rfl,hb⟩|⟨rfl,hb⟩
  ·rw[Us rfl,ih,Z0,G3];simp[Qx6,hb]
  ·rw[Uq (by decide),Us rfl,ih,Z0,G3];simp[Qx6,hb]
 |_,_,0,_,_,_,_,hl,_,_=>by simp at hl
theorem Qtj (t:LU):Qfb (10::t)/\nb (10::t)=10/\Q8e (10::t)=0:=by
 have hn:nb (10::t)=10:=by simp[nb,Q8e]
 exact ⟨⟨⟨⟨by rw[digN,Uq];decide,fun x r h=>by injection h with h1 _;rw[<-h1];decide⟩,by rw[hn];decide⟩,by rw[hn];decide⟩,hn,by simp[Q8e]⟩
theorem Qe1 {n most:Nat} {q:Q0a} (h0:q.1≠0) (h:Qh6 n q) (hn:n<=most) (hm:most<=9):∃x y,Q25 q=x::y/\x≠32/\x≠45:=by
 unfold Q25 Q3y
 split
 ·rcases Qqn q.1 with h1|⟨neg,v,e,ho,h1⟩
  ·exact absurd h1 h0
  ·rw[h1,Qf9 ho,Qk6 ho];obtain ⟨c,r,hc,N1,E1⟩:=Qc7 v e;rw[hc];have a1:c≠32:=fun e=>by rw[e] at N1;exact absurd N1 (by decide)
   have a2:c≠45:=fun e=>by rw[e] at N1;exact absurd N1 (by decide)
   cases Q2w 0 q.2 with
   |nil=>exact ⟨c,r,rfl,a1,a2⟩
   |cons t ts=>exact ⟨c,_,rfl,a1,a2⟩
 ·rename_i hc;have h1:=Qfa (most:=most) 0 q.2 (by rw[h.2.1];omega) hm (Q1x h.2);have hx:∀(i:Nat) (E:List Int) t ts,Q2w i E=t::ts->∃r,t=120::r:=by
   intro i E
   induction E generalizing i with
   |nil=>intro t ts h;cases h
   |cons k r ih=>
    intro t ts h;simp only[Q2w,Qk5] at h
    split at h
    ·injection h with h _;exact ⟨_,h.symm⟩
    ·split at h
     ·injection h with h _;exact ⟨_,h.symm⟩
     ·exact ih (i+1) t ts h
  cases hp:Q2w 0 q.2 with
  |nil=>exact absurd (.inl hp) hc
  |cons t ts=>
   obtain ⟨r,rfl⟩:=hx 0 q.2 t ts hp;cases ts with
   |nil=>exact ⟨120,r,rfl,by decide,by decide⟩
   |cons a b=>exact ⟨120,_,rfl,by decide,by decide⟩
theorem Qqr {n most:Nat} (hn:n<=most) (hm:most<=9) {s:LU} (sub:Nat->PR Ex) (opens:Bool) {P:List Q0a} (hP:Q2z n P) {p0 p:Nat} (Zs:Q03 s p0=p) (hp:p<=s.length) {t:LU} (h2:At s p (polyT P++10::t)):
 Q6c sub opens s most p0=.ok (Qhb P,p+(polyT P).length):=by
 obtain ⟨JF,V6,he3⟩:=Qtj t;cases P with
 |nil=>
  have Jb:At s p (Q2s false 0 0++10::t):=by
   have e:Q2s false 0 0=[48]:=(by simp[Q2s,Qa1,Q2d]);rw[e];exact h2
  have e:(Q2s false 0 0).length=1:=by simp[Q2s,Qa1,Q2d]
  have L7:=Qve most (v:=0) (e:=0) (by decide) (by decide) (by decide) (fun _=>rfl) (by exact Qh5);have h3:=Qc8 sub opens JF.1 JF.2 [Q2s false 0 0] [.num (some 0)] (s.length+1) p [] (by simp) ⟨L7,trivial⟩ (by simp) (by rw[h2.skip0 (by decide)];exact Jb);rw[h2.skip0 (by decide)] at h3;have h4:At s (p+1) (10::t):=by have:=At.app Jb;rwa[e] at this
  have h5:=h4.skip0 (by decide);simp only[Q4u,e,h5,TW] at h3;unfold Q6c;rw[Zs,h2.byte.1,Uq (by decide),Q8h,h3];simp only;rw[h5,h4.byte.1,Uq (by decide),Uq (by decide)];rfl
 |cons q r=>
  have hq:=hP.2.2 q (by simp);obtain ⟨x,y,hx,Jm,hx45⟩:=Qe1 hq.1 hq.2 hn hm;have R0:=h2.len hp;have Ze:r.length<s.length+1:=by
   have:∀(l:List Q0a),l.length<=(Q0w false l).length:=fun l=>by
    induction l with
    |nil=>simp
    |cons a l ih=>
     have:1<=(Q4e false a).length:=(by unfold Q4e;rw[Uq (by decide)];split <;> simp);simp only[Q0w,Uj,Uz];omega
   have h9:=this r;simp only[polyT,Q0w,Uj,Uz,reduceCtorEq,Xaq] at R0;omega
  have Z0:=fun (b:Bool) (f':Nat) (h:At s (Q03 s f') (Q25 q++(Q0w false r++10::t))) (hf:f'<=s.length)=>Qlx hn hm sub opens JF (by rw[V6];decide) (by rw[V6];decide) r q (s.length+1) f' b [] hP.2.2 Ze hf h;have hpt:polyT (q::r)=Q4e true q++(Q25 q++Q0w false r):=by simp[polyT,Q0w]
  rw[hpt] at h2⊢;have hlast:∀p',At s p' (Q25 q++(Q0w false r++10::t))->Q03 s (p'+(Q25 q++Q0w false r).length)=p'+(Q25 q++Q0w false r).length:=fun p' h=>by
   have h':At s p' ((Q25 q++Q0w false r)++10::t):=(by rw[UO];exact h);exact (At.app h').skip0 (by decide)
  cases F3:Q5s q.1
  ·have R2:Q4e true q=[]:=(by simp[Q4e,F3]);rw[R2,TW] at h2;rw[R2,TW];have Jb:At s p (Q25 q++(Q0w false r++10::t)):=(by rw[<-UO];exact h2);have h3:At s p (x::(y++(Q0w false r++10::t))):=(by rw[hx] at Jb;exact Jb);have B2:=h3.skip0 Jm;unfold Q6c;rw[Zs,h3.byte.1,Uq hx45,Z0 false p (by rw[B2];exact Jb) (by omega),B2,hlast _ Jb];simp[Qhb,Qx6,F3]
  ·have R2:Q4e true q=[45]:=(by simp[Q4e,F3]);rw[R2] at h2⊢;have h2'':At s p (45::(Q25 q++(Q0w false r++10::t))):=(by simpa using h2);obtain ⟨h6,Jb⟩:=h2''.byte;have B0:=Q0e h6 (by decide);have h3:At s (p+1) (x::(y++(Q0w false r++10::t))):=(by rw[hx] at Jb;exact Jb);have B2:=h3.skip0 Jm;unfold Q6c;rw[Zs,h6,Us rfl,Z0 true (p+1) (by rw[B2];exact Jb) (by omega),B2,hlast _ Jb];simp only[Qhb,Qx6,F3,TW,Xa4,reduceCtorEq,Xaq,Uj,Uz,Xan]
   congr 2
   omega
theorem Qly:Q75 1:=(Q2a 1).1 (by decide)
theorem Qvf:(1:Dyadic)≠0:=by decide
theorem Qyp {c:Dyadic} {E:List Int} (h0:c≠0) (hf:Q75 c):Q24 [(c,E)]=.ok [(c,E)]:=by
 unfold Q24;have hg:Q23 [(c,E)]=[(c,E)]:=rfl;rw[hg];simp[(Q2a c).2 hf,h0]
def Qhe (n i:Nat) (k:Int):List Int:=(List.replicate n 0).set i k
theorem Qqs (n:Nat):(List.replicate n (0:Int)).sum=0:=by
 induction n with
 |zero=>rfl
 |succ n ih=>rw[Xbr,List.sum_cons,ih];rfl
theorem Qhf:∀(n i:Nat) (k:Int),i<n->(Qhe n i k).sum=k
 |n+1,0,k,_=>by simp[Qhe,Xbr]
 |n+1,i+1,k,h=>by
  have:=Qhf n i k (by omega);unfold Qhe at*;rw[Xbr,UJ,List.sum_cons,this];omega
theorem Qtk {n i:Nat}:Q16 n (.var i)=.ok [(1,Qhe n i 1)]:=by
 rw[Q16];exact Qyp Qvf Qly
theorem Qfc {E:List Int} (h:∀x∈E,0<=x) (i:Nat):0<=(E.take i).sum/\(E.take i).sum<=E.sum:=by
 have h1:=(Q7w (E:=E.take i) (fun x hx=>h x (Ty hx))).1;have h2:=(Q7w (E:=E.drop i) (fun x hx=>h x (Xbn hx))).1;have h3:E.sum=(E.take i).sum+(E.drop i).sum:=by
  conv=>lhs;rw[<-List.take_append_drop i E]
  rw[List.sum_append]
 omega
theorem Q7x (i:Nat) (hi:i<9):(Q3t i).length=6:=by rw[Q3t,Q71 (by omega)];rfl
theorem Qqt {n most i:Nat} (hn:n<=most) (hm:most<=9) {s:LU} {P:List Q0a} (hP:Q2z n P) {p:Nat} {t:LU} (ha:At s p (Q70 i P++t)) (hp:p<=s.length):Q8i s most i p=.ok (Qhb P,p+(Q70 i P).length):=by
 have h1:At s p (Q3t i++(polyT P++10::t)):=by simpa[Q70] using ha
 have h2:=At.fixed h1;have h3:=At.app h1;have R0:=h1.len hp;rw[Uj] at R0;have Zs:Q03 s (p+(Q3t i).length)=p+(Q3t i).length:=by
  cases P with
  |nil=>exact At.skip0 (t:=10::t) h3 (by decide)
  |cons q r=>
   have hq:=hP.2.2 q (by simp);obtain ⟨x,y,hx,Jm,hx45⟩:=Qe1 (most:=most) hq.1 hq.2 hn hm;cases hb:Q5s q.1
   ·have e:polyT (q::r)=x::(y++Q0w false r):=(by simp[polyT,Q0w,Q4e,hb,hx]);rw[e] at h3;exact At.skip0 (t:=(y++Q0w false r)++10::t) h3 Jm
   ·have e:polyT (q::r)=45::(Q25 q++Q0w false r):=(by simp[polyT,Q0w,Q4e,hb]);rw[e] at h3;exact At.skip0 (t:=(Q25 q++Q0w false r)++10::t) h3 (by decide)
 have h4:=Qqr hn hm (Q6d s most 15) true hP Zs (by omega) h3;have h5:=At.app h3;have h6:=h5.skip0 (by decide);unfold Q8i;rw[h2];simp only;rw[show Q6d s most 16=Q6c (Q6d s most 15) true s most from rfl,h4];simp only;rw[h6,Us h5.byte.1]
 congr 2
 simp only[Q70,Uj,Uz,Xan];omega
theorem Qnj {n most:Nat} (hn:n<=most) (hm:most<=9) {s:LU}:∀(F:List (List Q0a)) (f p:Nat) (acc:List (Nat × Ex)),F≠[]->F.length<=f->(∀P∈F,Q2z n P)->p<=s.length->At s p (Q2f acc.length F)->
 ∃ls:List (Nat × Ex),Q3c s most f p acc=.ok (acc++ls)/\ls.map (·.2)=F.map Qhb
 |[],_,_,_,h,_,_,_,_=>absurd rfl h
 |P::F,f+1,p,acc,_,hf,hr,hp,ha=>by
  have h1:=Qqt hn hm (hr P (by simp)) (t:=Q2f (acc.length+1) F) ha hp;have h2:=At.app (t:=Q70 acc.length P) ha;have hlen0:=At.len (t:=Q70 acc.length P++Q2f (acc.length+1) F) ha hp;rw[Uj] at hlen0;have YO:p+(Q70 acc.length P).length<=s.length:=by omega
  have R0:=h2.len YO;unfold Q3c;rw[h1];simp only;cases F with
  |nil=>
   simp only[Q2f,Xan] at R0;rw[Uq (by omega)];exact ⟨[(p,Qhb P)],rfl,rfl⟩
  |cons Q F=>
   have N5:0<(Q2f (acc.length+1) (Q::F)).length:=by
    simp only[Q2f,Q70,Q3t,Uj,Uz];omega
   rw[Us (by omega)];obtain ⟨ls,h3,h4⟩:=Qnj hn hm (Q::F) f (p+(Q70 acc.length P).length) (acc++[(p,Qhb P)]) (by simp) (by simpa using hf) (fun x hx=>hr x (by simp only[UF] at hx⊢;exact .inr hx)) YO (by rw[Uj];exact h2);refine ⟨(p,Qhb P)::ls,?_,by simp[h4]⟩;rw[h3,UO];rfl
 |_::_,0,_,_,_,h,_,_,_=>by simp at h
theorem Q6g (n:Nat):(dec n).count 10=0:=by
 rw[List.count_eq_zero];intro h;have:=Q60 n 10 h;exact absurd this (by decide)
theorem Qk8 (neg:Bool) (v:Nat) (e:Int):(Q2s neg v e).count 10=0:=by
 unfold Q2s Qa1;have h1:=Q6g v;have h2:=Q6g e.natAbs;have h3:(if e<0 then 45::dec e.natAbs else dec e.natAbs).count 10=0:=by split <;> simp[h2]
 have h4:(if e=0 then [] else 112::(if e<0 then 45::dec e.natAbs else dec e.natAbs)).count 10=0:=by
  split
  ·rfl
  ·rw[Xbl,h3];rfl
 rw[Xaa,Xaa,h1,h4];cases neg <;> rfl
theorem Qqu (d:Dyadic):(dyT d).count 10=0:=by
 cases d with
 |zero=>decide
 |ofOdd n k h=>exact Qk8 _ _ _
theorem Q8j:∀(i:Nat) (E:List Int),∀t∈Q2w i E,t.count 10=0
 |_,[],_,h=>by cases h
 |i,k::r,t,h=>by
  have h1:=Q6g (i+1);have h2:=Q6g k.toNat;rw[Q2w] at h;rcases UY.1 h with h|h
  ·unfold Qk5 at h
   split at h
   ·rw[Uy] at h;subst h;rw[Xbl,h1];rfl
   ·split at h
    ·rw[Uy] at h;subst h;rw[Xbl,Xaa,Xbl,h1,h2];rfl
    ·cases h
  ·exact Q8j (i+1) r t h
theorem Qc9:∀(l:List (LU)),(∀t∈l,t.count 10=0)->(Q4u l).count 10=0
 |[],_=>rfl
 |[x],h=>h x (by simp)
 |x::y::r,h=>by
  have h1:=h x (by simp);have ih:=Qc9 (y::r) (fun t ht=>h t (by simp only[UF] at ht⊢;exact .inr ht));rw[Q4u,Xaa,Xbl,h1,ih];rfl
theorem Qk9 (p:Q0a):(Q25 p).count 10=0:=by
 refine Qc9 _ fun t ht=>?_;unfold Q3y at ht
 split at ht
 ·rcases UF.1 ht with rfl|ht
  ·exact Qqu _
  ·exact Q8j _ _ t ht
 ·exact Q8j _ _ t ht
theorem Qar:∀(b:Bool) (l:List Q0a),(Q0w b l).count 10=0
 |_,[]=>rfl
 |b,p::r=>by
  have h1:(Q4e b p).count 10=0:=by unfold Q4e;split <;> split <;> decide
  rw[Q0w,Xaa,Xaa,h1,Qk9,Qar false r]
theorem Qtl (P:List Q0a):(polyT P).count 10=0:=by
 unfold polyT
 split
 ·decide
 ·exact Qar _ _
theorem Qtm (i:Nat) (P:List Q0a):(Q70 i P).count 10=1:=by
 rw[Q70,Q3t,Xaa,Xbl,Xaa,Xaa,Qtl,Q6g];rfl
theorem Qhg:∀(i:Nat) (F:List (List Q0a)),(Q2f i F).count 10=F.length
 |_,[]=>rfl
 |i,P::F=>by rw[Q2f,Xaa,Qtm,Qhg (i+1) F,Uz];omega
end Go.Proofs.YtdilmfakkppgpaaGreatDoor
namespace Go.Proofs.YtdilmfakkppgpaaGreatDoor
open Go.RowKit WordsM
def RdZ (w:World) (B:Nat) (a:OA) (E:List Int):Prop:=
 E=[]∨∃b o,a=some ⟨b,o,none⟩/\b<B/\∀(j:Nat) x,E[j]?=some x->w.cell? ⟨b,o+j,none⟩=some (.int .i64 x)
section
variable {w w':World} {B B':Nat} {a:OA} {E:List Int}
theorem RdZ.keep (h:RdZ w B a E) (hk:∀p:Addr,p.block<B->w'.cell? p=w.cell? p):RdZ w' B a E:=by
 rcases h with rfl|⟨b,o,rfl,hb,hc⟩
 ·exact .inl rfl
 ·exact .inr ⟨b,o,rfl,hb,fun j x hx=>(hk _ hb).trans (hc j x hx)⟩
theorem RdZ.more (h:RdZ w B a E) (hB:B<=B'):RdZ w B' a E:=by
 rcases h with rfl|⟨b,o,rfl,hb,hc⟩
 ·exact .inl rfl
 ·exact .inr ⟨b,o,rfl,by omega,hc⟩
theorem RdZ.below (h:RdZ w B a E) (hb:Below B w w'):RdZ w' B a E:=h.keep fun _ hp=>hb.cell hp
theorem RdZ.at_ {k:Nat} {x:Int} (h:RdZ w B a E) (hx:E[k]?=some x):∃b o,a=some ⟨b,o,none⟩/\b<B/\w.cell? ⟨b,o+k,none⟩=some (.int .i64 x):=by
 rcases h with rfl|⟨b,o,rfl,hb,hc⟩
 ·simp at hx
 ·exact ⟨b,o,rfl,hb,hc k x hx⟩
end
def Qyq (a:OA) (E:List Int):Prop:=(∀x∈E,-9223372036854775808<=x/\x<=9223372036854775807)/\∀b o,a=some ⟨b,o,none⟩->o=0
theorem Qyq.new {b:Nat} {E:List Int} (h:∀x∈E,-9223372036854775808<=x/\x<=9223372036854775807):Qyq (some ⟨b,0,none⟩) E:=⟨h,fun _ _ e=>by cases e;rfl⟩
structure Q0j (w:World) (a:OA) (n c:Nat) (E:List Int):Prop where
 len:E.length=n
 cap:n<=c
 most:c<=9223372036854775807
 rng:Qyq a E
 rd:RdZ w w.heap.size a E
theorem Q0j.step {w w':World} {a:OA} {n c:Nat} {E:List Int} (h:Q0j w a n c E) (hb:Bw w w'):Q0j w' a n c E:=⟨h.len,h.cap,h.most,h.rng,(h.rd.below hb).more hb.size⟩
structure Q38 (w:World) (b:Nat) (v0 v1 v2 v3:Value):Prop where
 c0:w.cell? ⟨b,0,none⟩=some v0
 c1:w.cell? ⟨b,1,none⟩=some v1
 c2:w.cell? ⟨b,2,none⟩=some v2
 c3:w.cell? ⟨b,3,none⟩=some v3
 f0:w.frozen? ⟨b,0,none⟩=false
 f1:w.frozen? ⟨b,1,none⟩=false
 f2:w.frozen? ⟨b,2,none⟩=false
 f3:w.frozen? ⟨b,3,none⟩=false
theorem Q38.new (w:World) (v0 v1 v2 v3:Value) (T:TypeId):Q38 (w.alloc (.cells #[v0,v1,v2,v3] T)) w.heap.size v0 v1 v2 v3:=
 ⟨by rw[Ux _ _ _ _ _ _ (Ul _ _)];rfl,by rw[Ux _ _ _ _ _ _ (Ul _ _)];rfl,by rw[Ux _ _ _ _ _ _ (Ul _ _)];rfl,by rw[Ux _ _ _ _ _ _ (Ul _ _)];rfl,
   TC _ _ _ _ _ (Ul _ _),TC _ _ _ _ _ (Ul _ _),TC _ _ _ _ _ (Ul _ _),TC _ _ _ _ _ (Ul _ _)⟩
theorem Q38.step {w w':World} {b B:Nat} {v0 v1 v2 v3:Value} (h:Q38 w b v0 v1 v2 v3) (hb:Below B w w') (hB:b<B):Q38 w' b v0 v1 v2 v3:=
 ⟨(hb.cell (p:=⟨b,0,none⟩) hB).trans h.c0,(hb.cell (p:=⟨b,1,none⟩) hB).trans h.c1,(hb.cell (p:=⟨b,2,none⟩) hB).trans h.c2,(hb.cell (p:=⟨b,3,none⟩) hB).trans h.c3,(hb.frozen (p:=⟨b,0,none⟩) hB).trans h.f0,(hb.frozen (p:=⟨b,1,none⟩) hB).trans h.f1,(hb.frozen (p:=⟨b,2,none⟩) hB).trans h.f2,(hb.frozen (p:=⟨b,3,none⟩) hB).trans h.f3⟩
theorem Qbi {E:List Int} {i:Nat} {x:Int} (h:E[i]?=some x):(E.take (i+1)).sum=(E.take i).sum+x:=by
 rw[Tc,h,List.sum_append];simp
theorem Qca {E:List Int} {i:Nat} {x:Int} (h:x∈E.take i):∃j,j<i/\E[j]?=some x:=by
 obtain ⟨j,hj⟩:=Ts.1 h;rw[To] at hj
 split at hj
 ·exact ⟨j,by assumption,hj⟩
 ·cases hj
theorem Qlz (n:Bool) (e:Int) (a:OA) (l c:Nat) (L:LN) (b:OA) (m d:Nat) (E:List Int) (k:Nat) (w:World) (h:WordsIn w a l c L) (hE:Q0j w b m d E) (hk:k<=9223372036854775807) (he: -9223372036854775808<=e) (V6:e<=9223372036854775807):
 Calls Tryz.prog 87 #[.agg #[.bool n,.int .i64 e,.slice a l c,.slice b m d],.int .i64 (k:Int)] w fun r w'=>r=.returned (.bool (decide (Q14 k E/\Q0i n e L)))/\Bw w w':=by
 obtain ⟨rs,Kn⟩:∃rs,decide (Q14 k E/\Q0i n e L)=rs:=⟨_,rfl⟩;rw[Kn];have Wt:=Ua Kn;clear Kn;have C0:Bw w (w.alloc (.cells #[.bool n,.int .i64 e,.slice a l c,.slice b m d] 44)):=Ba;have hX:=Q38.new w (.bool n) (.int .i64 e) (.slice a l c) (.slice b m d) 44;have B0:=Q0r w (.cells #[.bool n,.int .i64 e,.slice a l c,.slice b m d] 44);generalize hW:w.alloc (.cells #[.bool n,.int .i64 e,.slice a l c,.slice b m d] 44)=W at C0 hX B0;have y5:=hX.c0;have U4:=hX.c1;have J4:=hX.c2;have hx3:=hX.c3;have Z2:=hE.len;subst Z2;have Zi:=Q2x n e a l c L W (h.step C0) he V6 (by have:=h.cap;have:=h.most;omega);have X8:=hE.rd.below C0;have E4:=Ur hE.cap hE.most;have HC:=Xh4 Zi X8 C0 hE.rng.1;clear C0 hX B0 Zi X8 h hE
 go_enter Tryz.func87,Tryz.ntmps87
 go_wp2_with fail
 go_loopw [5,11] (fun lv iv wr=>∃(i:Nat) (s:Int),lv=.int .i64 (8-s)/\iv=.int .i64 (i:Int)/\i<=E.length/\(E.take i).sum=s/\0<=s/\s<=8/\(∀x∈E.take i,0<=x)/\W=wr) (fun _ iv _=>E.length-(intOf iv).toNat)
 case atStart=>exact ⟨0,0,rfl,rfl,Uu _,by simp,by decide,by decide,by simp,rfl⟩
 case round=>
  obtain ⟨i,s,rfl,rfl,hi,hs,Zs,Ve,N5,rfl⟩:=hrel
  by_cases B0:i<E.length
  ·have E0:(i:Int)<(E.length:Int):=(by omega);obtain ⟨x,hx⟩:∃x,E[i]?=some x:=⟨_,Ub B0⟩;obtain ⟨ba,oa,N6,V5,E6⟩:=(Xo1 HC).at_ hx;subst N6;have Kp:=(Xe3 HC) x (Ud hx);have S9:=Qbi hx;have HS:=Xh4 hs S9 N5 hx;clear hs S9 N5 hx
   by_cases hx0':x<0
   ·go_wp2_with fail
    go_ret;have D7:¬(Q14 k E/\Q0i n e L):=fun h=>by
     have:=h.1.2.1 x (Ud (Xe3 HS));omega
    have hf:rs=false:=(by rw[<-Wt.out];exact UL D7);exact ⟨by rw[hf];rfl,(Xo2 HC)⟩
   ·by_cases M5:8-s<x
    ·go_wp2_with fail
     go_ret;have D7:¬(Q14 k E/\Q0i n e L):=fun h=>by
      have h1:=(Qfc h.1.2.1 (i+1)).2;have h2:=h.1.2.2;have h3:=(Xo0 HS);have h4:=(Xo1 HS);omega
     have hf:rs=false:=(by rw[<-Wt.out];exact UL D7);exact ⟨by rw[hf];rfl,(Xo2 HC)⟩
    ·go_wp2_with fail
     refine ⟨⟨i+1,s+x,by simp only[Xaz,true_and];omega,by simp,by omega,by rw[(Xo1 HS),(Xo0 HS)],by omega,by omega,fun y hy=>?_,trivial⟩,by simp only[intOf];omega⟩;obtain ⟨j,hj,hjy⟩:=Qca hy
     by_cases R6:j=i
     ·subst R6;have h5:=(Xe3 HS);rw[hjy] at h5;injection h5 with h5;omega
     ·exact (Xo2 HS) y (Ts.2 ⟨j,by rw[To,Us (by omega)];exact hjy⟩)
  ·obtain rfl:i=E.length:=(by omega);have E0:¬((E.length:Int)<(E.length:Int)):=(by omega);rw[Ta] at hs N5
   by_cases N9:E.length=k
   ·subst N9;have Xf:Q14 E.length E:=⟨rfl,N5,by omega⟩;have hee:((E.length:Int)==(E.length:Int))=true:=(by simp);have HS:=Ua Xf;clear Xf hs N5
    go_wp2_with (refine (Xo0 HC).mono ?_;rintro r w1 ⟨rfl,C0⟩;have HA:=Ua C0;clear C0)
    go_ret;refine ⟨?_,Below.next0 (Xo2 HC) HA.out⟩;have XU:(Q14 E.length E/\Q0i n e L)↔Q0i n e L:=⟨fun h=>h.2,fun h=>⟨HS.out,h⟩⟩;have hf:rs=decide (Q0i n e L):=(by rw[<-Wt.out];exact decide_eq_decide.2 XU);rw[hf];rfl
   ·have hke:((E.length:Int)==(k:Int))=false:=(by rw[Ui];omega);have HS:=Ua N9;clear hs N5 N9
    go_wp2_with fail
    go_ret;have D7:¬(Q14 k E/\Q0i n e L):=fun h=>HS.out h.1.1;have hf:rs=false:=(by rw[<-Wt.out];exact UL D7);exact ⟨by rw[hf];rfl,(Xo2 HC)⟩
end Go.Proofs.YtdilmfakkppgpaaGreatDoor
